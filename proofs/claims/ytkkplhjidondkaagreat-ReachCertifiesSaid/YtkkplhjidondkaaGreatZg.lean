/-
  A part of the proof.
-/
import Derived.Test.YtkkplhjidondkaaGreatZf
import Derived.Test.YtkkplhjidondkaaGreatZd
import Derived.Test.YtkkplhjidondkaaGreatZe
namespace Go.Proofs.YtkkplhjidondkaaGreat
open Go.Dv Go.Nv
set_option maxRecDepth 20000
open List (all_cons length_set map map_drop map_set map_take nil_append range_succ replicate take take_add_one take_length)
open Go.IntKind (u64)
open Go.IntKind renaming wrap → yu, i64 → yt
open List renaming length → I, map → U, drop → W
open Option renaming some → G
open Bool renaming true → J, false → O
open Decidable renaming decide → Y
open Int renaming toNat → Z
open Go.Dv.V renaming list → ai, str → ae, agg → ab, int → aa, ref → bz, fn → bw, nils → bv, bool → bu
open Go.Dv.D renaming v → bt, acc → br, ptr → bq, arr → bo, gro → bm, tup → bk, undef → bj, dagg → bi
open Go.Dv.St renaming mk → bh
open Go.Dv.KI renaming blk → bf
open _root_.ByteArray renaming mk → bc
open Go renaming Operand → x8, Program → x7, TypeId → x6, World → x5, Value → yz, Oper → yy, FuncId → yx, Func → yw, IntKind → yv
abbrev Aox(x:V):D:=.v (.ref x)
abbrev DP(m:cz)(r:cf)(ms:List (Int×Int)):List D:=[Aox (A0 m),Aox (Al r),Aox (BV ms),.ptr 0 0,.ptr 1 0]
abbrev CZ(b:Bool)(xs:List b9):St:=⟨[G [.gro 2 (I xs) 2],G [db b],G (Ab (xs.map eV))],[]⟩
abbrev FY(b:Bool)(xs:List b9):St:=⟨[G [.gro 3 (I xs) 2],G [db b],none,G (Ab (xs.map eV))],[]⟩
noncomputable abbrev VO:=Tryz.f228
noncomputable abbrev xz:=(Oper.mk (G 22) (Op.buildSlice 29 1 #[(0,Operand.tmp 21)]) 29 "timed.go:85" #[Edge.mk 1 Ground.data] none)
theorem Ap6(m:cz)(t:cr)(hm:G2 m t)(r:cf)(ms l:List (Int×Int))(hl:I l<=50)(hms:I ms<=50)(b:Bool):Aa PP 228 ([A4 l]++DP m r ms) ⟨[G [.v .nils],G [db b]],[]⟩ (.tup []) (CZ (b&&Ah t (Ek r.to (l++ms))) [Ek r.to (l++ms)]):=by
 have h2:=Qc m t hm r.to (l++ms) (by grind)
 generalize Ah t (Ek r.to (l++ms))=ok at h2⊢
 generalize Ek r.to (l++ms)=v at h2⊢
 have hco:F0 230 [bt (ai [BV l,BV ms])] (A4 (l++ms)):=by
  have:=Nw [l,ms] (by simp) (by grind)
  grind
 have hfA:∀z:Bool,[G [bm 3 1 2],G [db z],G [di v.n,bt (dt v.az)],G [di v.n,bt (dt v.az)]]=[G [bm 3 1 2],G [db z],G [di v.n,cq v.az],G (Ab ([v].map eV))]:=fun z=>by rw[AG];rfl
 have h:Aa PP 228 ([A4 l]++DP m r ms) ⟨[G [.v .nils],G [db b]],[]⟩ (.tup []) ⟨[G [.gro 3 1 2],G [db (b&&ok)],G [di v.n,cq v.az],G (Ab ([v].map eV))],[]⟩:=by
  cases b with
  |true=>
   exact sv VO 28 [] (.h (.dr 11)<|.c (A4 (l++ms))<|.c (.tup [dV v,db ok])<|.m (.v .nils)<|.m (dV v)<|.h (.p (.v (.list [Ac v])))<|.h .g<|.ro) (_/\_/\Q [bh [G [dn],G [db J],G [di 0,dn]] []]/\True/\Q (G (dn))/\2<=2/\Q (dp v.n v.az)/\(∀(τ:St),Ai PP xz [dV v] τ (bt (ai [Ac v])) τ)/\[Ac v]≠ []/\(∀(y:V),y∈ [Ac v]->V.size y=2)/\Ao 1 32/\(True/\True/\(Q (G [db J])/\True)/\True)/\([]:List KI)=[]/\cm 4 [] [G [bm 3 1 2],G [db ok],G (dp v.n v.az),G (dp v.n v.az)]=J/\[G [bm 3 1 2],G [db ok],G (dp v.n v.az),G (dp v.n v.az)]=[G [bm 3 1 2],G [db (true&&ok)],G (dp v.n v.az),G (Ab (eV v::nV))]/\Q (bk [])) ⟨hco,h2,rfl,trivial,rfl,HP _,rfl,fun τ=>pa v τ rfl,by simp,fun y hy=>by rw[HY.1 hy];rfl,⟨by decide,by decide⟩,⟨trivial,trivial,⟨rfl,trivial⟩,trivial⟩,rfl,rfl,hfA _,rfl⟩
  |false=>
   exact sv VO 28 [] (.h (.dr 11)<|.c (A4 (l++ms))<|.c (.tup [dV v,db ok])<|.m (.v .nils)<|.m (dV v)<|.h (.p (.v (.list [Ac v])))<|.h .g<|.ro) (_/\_/\Q [bh [G [dn],G [db O],G [di 0,dn]] []]/\True/\Q (G (dn))/\2<=2/\Q (dp v.n v.az)/\(∀(τ:St),Ai PP xz [dV v] τ (bt (ai [Ac v])) τ)/\[Ac v]≠ []/\(∀(y:V),y∈ [Ac v]->V.size y=2)/\Ao 1 32/\(True/\True/\(Q (G [db O])/\True)/\True)/\([]:List KI)=[]/\cm 4 [] [G [bm 3 1 2],G [db O],G (dp v.n v.az),G (dp v.n v.az)]=J/\[G [bm 3 1 2],G [db O],G (dp v.n v.az),G (dp v.n v.az)]=[G [bm 3 1 2],G [db (false&&ok)],G (dp v.n v.az),G (Ab (eV v::nV))]/\Q (bk [])) ⟨hco,h2,rfl,trivial,rfl,HP _,rfl,fun τ=>pa v τ rfl,by simp,fun y hy=>by rw[HY.1 hy];rfl,⟨by decide,by decide⟩,⟨trivial,trivial,⟨rfl,trivial⟩,trivial⟩,rfl,rfl,hfA _,rfl⟩
 refine E5 (σ:=⟨[G [.v .nils],G [db b]],[]⟩) (fun i=>if i<2 then i else i+1) (show 2<=3 by decide) (fun i hi=>Ie hi) (fun i j _ _ h=>?_) (fun i hi=>?_) (fun i cs hi=>?_) rfl h
 ·grind
 ·grind
 ·match i,hi with
  |0,hi=>have hi:=Ij (Ij (hi:G (G _)=G (G cs)));subst hi;exact⟨rfl,rfl⟩
  |1,hi=>have hi:=Ij (Ij (hi:G (G _)=G (G cs)));subst hi;exact⟨rfl,rfl⟩
  |2,hi=>grind[A7,Ay,Aj]
  |i+3,hi=>grind
theorem Ap5(m:cz)(t:cr)(hm:G2 m t)(r:cf)(ms l:List (Int×Int))(hl:I l<=50)(hms:I ms<=50)(xs:List b9)(hx:I xs<=100000)(b:Bool):Aa PP 228 ([A4 l]++DP m r ms) (CZ b xs) (.tup []) (FY (b&&Ah t (Ek r.to (l++ms))) (xs++[Ek r.to (l++ms)])):=by
 have h2:=Qc m t hm r.to (l++ms) (by simp;omega)
 generalize Ah t (Ek r.to (l++ms))=ok at h2⊢
 generalize Ek r.to (l++ms)=v at h2⊢
 have hco:F0 230 [bt (ai [BV l,BV ms])] (A4 (l++ms)):=by
  have:=Nw [l,ms] (by simp) (by simp;omega)
  simp only[List.flatten_cons,List.flatten_nil,I8] at this
  exact this
 have hfB:∀z:Bool,[G [bm 4 (I xs+[Ac v].length) 2],G [db z],none,G [di v.n,bt (dt v.az)],G (Ab (xs.map eV)++[di v.n,bt (dt v.az)])]=[G [bm 4 (I (xs++[v])) 2],G [db z],none,G [di v.n,cq v.az],G (Ab ((xs++[v]).map eV))]:=fun z=>by
  rw[EH,HW];rfl
 have hkB:∀z:Bool,cm 5 [] [G [bm 4 (I xs+[Ac v].length) 2],G [db z],none,G [di v.n,bt (dt v.az)],G (Ab (xs.map eV)++[di v.n,bt (dt v.az)])]=J:=fun z=>by
  rw[EH];simp[cm,D.okNs,D.okN,Aj]
 have h:Aa PP 228 ([A4 l]++DP m r ms) (CZ b xs) (.tup []) ⟨[G [.gro 4 (I (xs++[v])) 2],G [db (b&&ok)],none,G [di v.n,cq v.az],G (Ab ((xs++[v]).map eV))],[]⟩:=by
  cases b with
  |true=>
   exact sv VO 28 [] (.h (.dr 11)<|.c (A4 (l++ms))<|.c (.tup [dV v,db ok])<|.m (.gro 2 (I xs) 2)<|.m (dV v)<|.h (.p (.v (.list [Ac v])))<|.ro) (_/\_/\Q [bh [G [bm 2 (I xs) 2],G [db J],G (ej xs),G [di 0,dn]] []]/\True/\Q (G (bm 2 (I xs) 2))/\2<=2/\Q (dp v.n v.az)/\(∀(τ:St),Ai PP xz [dV v] τ (bt (ai [Ac v])) τ)/\I (ej xs)=I xs*2/\[Ac v]≠ []/\(∀(y:V),y∈ [Ac v]->V.size y=2)/\Ao (I xs+I (Ac v::nV)) 32/\(True/\True/\(Q (G [db J])/\True)/\True)/\([]:List KI)=[]/\cm 5 [] [G [bm 4 (I xs+I (Ac v::nV)) 2],G [db ok],none,G (dp v.n v.az),G (Ab (U eV xs)++(dp v.n v.az))]=J/\[G [bm 4 (I xs+I (Ac v::nV)) 2],G [db ok],none,G (dp v.n v.az),G (Ab (U eV xs)++(dp v.n v.az))]=[G [bm 4 (I (xs++[v])) 2],G [db (true&&ok)],none,G (dp v.n v.az),G (Ab (U eV (xs++[v])))]/\Q (bk [])) ⟨hco,h2,rfl,trivial,rfl,HP _,rfl,fun τ=>pa v τ rfl,by rw[AU],by simp,fun y hy=>by rw[HY.1 hy];rfl,⟨by simp only[HN,HR];omega,by simp only[HN,HR];omega⟩,⟨trivial,trivial,⟨rfl,trivial⟩,trivial⟩,rfl,hkB _,hfB _,rfl⟩
  |false=>
   exact sv VO 28 [] (.h (.dr 11)<|.c (A4 (l++ms))<|.c (.tup [dV v,db ok])<|.m (.gro 2 (I xs) 2)<|.m (dV v)<|.h (.p (.v (.list [Ac v])))<|.ro) (_/\_/\Q [bh [G [bm 2 (I xs) 2],G [db O],G (ej xs),G [di 0,dn]] []]/\True/\Q (G (bm 2 (I xs) 2))/\2<=2/\Q (dp v.n v.az)/\(∀(τ:St),Ai PP xz [dV v] τ (bt (ai [Ac v])) τ)/\I (ej xs)=I xs*2/\[Ac v]≠ []/\(∀(y:V),y∈ [Ac v]->V.size y=2)/\Ao (I xs+I (Ac v::nV)) 32/\(True/\True/\(Q (G [db O])/\True)/\True)/\([]:List KI)=[]/\cm 5 [] [G [bm 4 (I xs+I (Ac v::nV)) 2],G [db O],none,G (dp v.n v.az),G (Ab (U eV xs)++(dp v.n v.az))]=J/\[G [bm 4 (I xs+I (Ac v::nV)) 2],G [db O],none,G (dp v.n v.az),G (Ab (U eV xs)++(dp v.n v.az))]=[G [bm 4 (I (xs++[v])) 2],G [db (false&&ok)],none,G (dp v.n v.az),G (Ab (U eV (xs++[v])))]/\Q (bk [])) ⟨hco,h2,rfl,trivial,rfl,HP _,rfl,fun τ=>pa v τ rfl,by rw[AU],by simp,fun y hy=>by rw[HY.1 hy];rfl,⟨by simp only[HN,HR];omega,by simp only[HN,HR];omega⟩,⟨trivial,trivial,⟨rfl,trivial⟩,trivial⟩,rfl,hkB _,hfB _,rfl⟩
 refine E5 (σ:=CZ b xs) (fun i=>if i<3 then i else i+1) (show 3<=4 by decide) (fun i hi=>Ie hi) (fun i j _ _ h=>?_) (fun i hi=>?_) (fun i cs hi=>?_) rfl h
 ·have h:(if i<3 then i else i+1)=(if j<3 then j else j+1):=h
  split at h<;>split at h<;>omega
 ·have hi:i<4:=hi
  show(if i<3 then i else i+1)<5
  split<;>omega
 ·match i,hi with
  |0,hi=>have hi:=Ij (Ij (hi:G (G _)=G (G cs)));subst hi;exact⟨rfl,rfl⟩
  |1,hi=>have hi:=Ij (Ij (hi:G (G _)=G (G cs)));subst hi;exact⟨rfl,rfl⟩
  |2,hi=>simp at hi
  |3,hi=>have hi:=Ij (Ij (hi:G (G _)=G (G cs)));subst hi;exact⟨by rw[A7 (Ay _)];rfl,Aj _ _ _⟩
  |i+4,hi=>simp at hi
abbrev sg:x6:=205
theorem AlK:PP.underlying sg=G (.array 2 3):=by kernel_rfl
theorem Ajg:(PP.info? 3).isSome=J:=by kernel_rfl
theorem Aff:PP.cellsOf 3=1:=by kernel_rfl
theorem Vq:PP.plainKey 3=J:=by kernel_rfl
theorem AlJ:PP.underlying 3=G (.int .i64):=by kernel_rfl
theorem Afe:PP.eqGuardType PP.depth sg=O:=by kernel_rfl
theorem AeL(d:Nat)(a b x y:Int)(w:x5):
  (Op.equalIn (d+2) sg (.agg #[.int .i64 a,.int .i64 b]) (.agg #[.int .i64 x,.int .i64 y])).run PP w=.ok (a==x&&b==y) w:=by
 obtain⟨i,hi⟩:=Option.isSome_iff_exists.1 Ajg
 rw[run_equalIn_array w (d+1) _ _ AlK hi,Aff,show List.range 2=[0,1] from rfl]
 have e1:∀(x y:Int) w,(part 3 #[.int .i64 x,.int .i64 y] (0*1)).run PP w=.ok (.int .i64 x) w:=fun x y w=>run_part_plain w Vq rfl
 have e2:∀(x y:Int) w,(part 3 #[.int .i64 x,.int .i64 y] (1*1)).run PP w=.ok (.int .i64 y) w:=fun x y w=>run_part_plain w Vq rfl
 have e3:=fun(a x:Int) w=>run_equalIn_int (P:=PP) w d 3 .i64 .i64 a x AlJ
 simp only[Op.eqItems,Sem.run_bind,e1,e3,Result.andThen_ok]
 cases h1:(a==x)<;>cases h2:(b==y)<;>simp_all
theorem Ha{o:yy}{σ:St}{ty:x6}{p q:x8}(ho:o.op=.binOp .neq sg p q ty)(a b x y:Int):Ai PP o [.v (cn (a,b)),.v (cn (x,y))] σ (db (!(a==x&&b==y))) σ:=by
 refine A6 fun E g ρ w hw hds=>?_
 simp only[ho,Op.operands,Au] at hds
 obtain⟨u,v,e,h1,h2'⟩:=hds
 simp only[Ik,IF,HV,Ix] at e
 obtain⟨e1,e2⟩:=e
 simp only[Ag,Db] at h1 h2'
 obtain⟨ws,h1,rfl⟩:=h1
 obtain⟨vs,h3,rfl⟩:=h2'
 have hw1:ws=[.int .i64 a,.int .i64 b]:=by
  grind[repA,repC]
 have hw2:vs=[.int .i64 x,.int .i64 y]:=by
  grind[repA,repC]
 subst hw1 hw2
 refine⟨.bool (!(a==x&&b==y)),?_,by simp[Ag]⟩
 have hr:=AeL 9998 a b x y w
 simp[execOp,ho,e1,e2,run_eqGuard_agg w .neq sg p q _ _ Afe,run_neq_struct,hr]
abbrev jf(b:Bool):St:=⟨[G [.v .nils],G [db b]],[]⟩
abbrev Cw(m:cz)(r:cf)(ms:List (Int×Int)):D:=.dfn 228 [] (DP m r ms)
noncomputable abbrev CM:=Tryz.f226
noncomputable def DR:=yl CM
theorem ApD(m:cz)(t:cr)(hm:G2 m t)(r:cf)(ms l:List (Int×Int))(hl:I l<=50)(hms:I ms<=50)(b:Bool):Aa PP 226 [A4 l,.v (AD []),Cw m r ms] (jf b) (.tup []) (CZ (b&&Ah t (Ek r.to (l++ms))) [Ek r.to (l++ms)]):=by
 have h2:=Ap6 m t hm r ms l hl hms b
 generalize Ah t (Ek r.to (l++ms))=ok at h2⊢
 generalize Ek r.to (l++ms)=v at h2⊢
 refine sv CM 71 [] (.t<|.h (.oc (.tup []) (CZ (b&&ok) [v])) .ro) (((I (U dh []):Int)==0)=J/\(N0 [Cw m r ms,A4 l] (jf b) (bk []) (CZ (b&&ok) [v]))/\cm 3 [] [G [bm 2 1 2],G [db (b&&ok)],G (Ab [eV v])]=J/\Q [G [bm 2 1 2],G [db (b&&ok)],G (Ab (eV v::nV))]/\Q (bk [])) ⟨rfl,fun o cl fo ho hc=>?_,by grind[cm,D.okNs,D.okN,Aj],rfl,rfl⟩
 exact Dw (H:=[[.v .nils],[db b]]) ho hc (fs:=[]) (cs:=DP m r ms) (ds:=[A4 l]) rfl h2 rfl (fun cs hm=>by
  simp at hm;rcases hm with rfl|rfl<;>exact⟨rfl,rfl⟩) rfl (by simp[cm,D.okNs,D.okN,Aj]) (by grind)
theorem ApC(m:cz)(t:cr)(hm:G2 m t)(r:cf)(ms l:List (Int×Int))(hl:I l<=50)(hms:I ms<=50)(xs:List b9)(hx:I xs<=100000)(b:Bool):Aa PP 226 [A4 l,.v (AD []),Cw m r ms] (CZ b xs) (.tup []) (FY (b&&Ah t (Ek r.to (l++ms))) (xs++[Ek r.to (l++ms)])):=by
 have h2:=Ap5 m t hm r ms l hl hms xs hx b
 generalize Ah t (Ek r.to (l++ms))=ok at h2⊢
 generalize Ek r.to (l++ms)=v at h2⊢
 refine sv CM 71 [] (.t<|.h (.oc (.tup []) (FY (b&&ok) (xs++[v]))) .ro) (((I (U dh []):Int)==0)=J/\(N0 [Cw m r ms,A4 l] (CZ b xs) (bk []) (FY (b&&ok) (xs++[v])))/\cm 4 [] [G [bm 3 (I (xs++[v])) 2],G [db (b&&ok)],none,G (Ab (U eV (xs++[v])))]=J/\Q [G [bm 3 (I (xs++[v])) 2],G [db (b&&ok)],none,G (Ab (U eV (xs++[v])))]/\Q (bk [])) ⟨rfl,fun o cl fo ho hc=>?_,by simp[cm,D.okNs,D.okN,Aj],rfl,rfl⟩
 exact Dw (H:=[[.gro 2 (I xs) 2],[db b],Ab (xs.map eV)]) ho hc (fs:=[]) (cs:=DP m r ms) (ds:=[A4 l]) rfl h2 rfl (fun cs hm=>by
  simp at hm;rcases hm with rfl|rfl|rfl
  ·exact⟨rfl,rfl⟩
  ·exact⟨rfl,rfl⟩
  grind[Aj,CV]) rfl (by simp[cm,D.okNs,D.okN,Aj]) (by grind)
abbrev p5(b:Bool):St:=⟨[G [.v .nils],G [db b],none],[]⟩
def ui(b:Bool):List b9->St
 |[]=>jf b
 |x::xs=>CZ b (x::xs)
def p6(b:Bool):List b9->List b9->St
 |xs,[]=>ui b xs
 |[],y::ys=>CZ b (y::ys)
 |x::xs,y::ys=>FY b (x::xs++y::ys)
theorem UG{b:Bool}{xs:List b9}(h:xs≠ []):ui b xs=CZ b xs:=by
 cases xs<;>grind[ui]
theorem ZQ{b:Bool}{xs:List b9}:p6 b xs []=ui b xs:=by rfl
theorem Aew{b:Bool}{ys:List b9}(h:ys≠ []):p6 b [] ys=CZ b ys:=by
 cases ys<;>grind[p6]
theorem AiN{b:Bool}{xs ys:List b9}(h:xs≠ [])(h2:ys≠ []):p6 b xs ys=FY b (xs++ys):=by
 cases xs with
 |nil=>grind
 |cons x xs=>cases ys<;>grind[p6]
theorem BQ{l:List (Int×Int)}{k:Nat}{x:Int×Int}(h:l[k]?=G x):(l.map cn)[Z (k:Int)]?=G (cn x):=by grind
def EU(tk:Tk)(l:List (Int×Int))(k:Nat):Bool:=match l[k]? with
 |some x=>(x.1==tk.place)&&(decide (x.2>=tk.low)&&(decide (x.2<=tk.high)&&(((k:Int)==0)||(match l[k-1]? with
  |some y=> !(y.1==x.1&&y.2==x.2)
  |none=>true))))
 |none=>false
theorem Mc(tk:Tk){l:List (Int×Int)}{k:Nat}{x:Int×Int}(h:l[k]?=G x):EU tk l k=((x.1==tk.place)&&(decide (x.2>=tk.low)&&(decide (x.2<=tk.high)&&(((k:Int)==0)||(match l[k-1]? with
  |some y=> !(y.1==x.1&&y.2==x.2)
  |none=>true))))):=by
 grind[EU]
theorem GJ(l:List (Int×Int))(hl:I l<=50)(k:Nat)(hk:k<I l):F0 230 [bt (ai [ai (W 0 (take (Z (k:Int)) (l.map cn))),ai (W (Z ((k+1:Nat):Int)) (take (I (l.map cn)) (l.map cn)))])] (A4 (l.take k++l.drop (k+1))):=by
 have h:=Nw [l.take k,l.drop (k+1)] (by simp) (by grind)
 grind[map_take,map_drop]
theorem AI{n:Nat}{qs:List Nat}:∀{dcs ds:List D},D.okNs (I qs) [] dcs=J->ds=D.rens (ez n qs) id dcs->E4 n qs ds dcs
 |[],ds,_,e=>by
  subst e;exact .nil
 |d::dcs,ds,h,e=>by
  subst e
  simp only[D.okNs,HJ] at h
  exact .cons (.ren h.1) (AI h.2 rfl)
theorem G6{tk:Tk}{ts:List Tk}{L:List V}(h:L=(tk::ts).map dh):∀y∈L,y.size=3:=by grind[V.size]
theorem G7{tk:Tk}{ts:List Tk}{L:List V}(h:L=(tk::ts).map dh):(1:Int)<=((I L:Nat):Int):=by
 grind
theorem Amd{M:Nat}(hM:M<=3){R:List D->St->Prop}{ks:List KI}{e e':List D}(x:Int×Int)(ws:List b9)(b:Bool)(he:D.okNs 4 [] e'=J)(hee:e=D.rens (fun i=>if i<3 then i else i+1) id e')
  (h:A2 (CN M) PP R ks e' (FY b ws)):A2 (CN M) PP R ks e ⟨[G [.gro 4 (I ws) 2],G [db b],none,G [di x.1,di x.2],G (Ab (ws.map eV))],[]⟩:=by
 refine C3 (σ:=⟨[G [.gro 4 (I ws) 2],G [db b],none,G [di x.1,di x.2],G (Ab (ws.map eV))],[]⟩) (e':=e') (H':=(FY b ws).H) (m:=M) (fun _ _ h=>h.2) (fun i=>if i<3 then i else i+1) (show M<=4 by omega) (fun i hi=>Ie (by omega)) (fun i j _ _ h=>?_) (fun i cs hi=>?_) he hee h
 ·grind
 ·match i,hi with
  |0,hi=>have hi:=Ij (Ij (hi:G (G _)=G (G cs)));subst hi;exact⟨rfl,rfl⟩
  |1,hi=>have hi:=Ij (Ij (hi:G (G _)=G (G cs)));subst hi;exact⟨rfl,rfl⟩
  |2,hi=>grind
  |3,hi=>grind[A7,Ay,Aj]
  |i+4,hi=>grind
theorem Amc{M:Nat}(hM:M<=3){R:List D->St->Prop}{ks:List KI}{e e':List D}(x:Int×Int)(ws:List b9)(b:Bool)(he:D.okNs 4 [] e'=J)(hee:e=D.rens (fun i=>if i<3 then i else i+2) id e')
  (h:A2 (CN M) PP R ks e' (FY b ws)):A2 (CN M) PP R ks e ⟨[G [.gro 5 (I ws) 2],G [db b],none,none,G [di x.1,di x.2],G (Ab (ws.map eV))],[]⟩:=by
 refine C3 (σ:=⟨[G [.gro 5 (I ws) 2],G [db b],none,none,G [di x.1,di x.2],G (Ab (ws.map eV))],[]⟩) (e':=e') (H':=(FY b ws).H) (m:=M) (fun _ _ h=>h.2) (fun i=>if i<3 then i else i+2) (show M<=4 by omega) (fun i hi=>Ie (by omega)) (fun i j _ _ h=>?_) (fun i cs hi=>?_) he hee h
 ·grind
 ·match i,hi with
  |0,hi=>have hi:=Ij (Ij (hi:G (G _)=G (G cs)));subst hi;exact⟨rfl,rfl⟩
  |1,hi=>have hi:=Ij (Ij (hi:G (G _)=G (G cs)));subst hi;exact⟨rfl,rfl⟩
  |2,hi=>grind
  |3,hi=>grind[A7,Ay,Aj]
  |i+4,hi=>grind
theorem AoB(m:cz)(r:cf)(ms l:List (Int×Int))(ts:List Tk)(x:Int×Int)(ys:List b9)(b b2:Bool){o:yy}{c:Call}{fo:x8}(ho:o.op=.call c)(hc:c.callee=.value fo)
  (h:Aa PP 226 [A4 l,.v (AD ts),Cw m r ms] (jf b) (.tup []) (CZ b2 ys)):
  Ai PP o [.v (.fn 226 [] []),A4 l,.v (AD ts),Cw m r ms] ⟨[G [.v .nils],G [db b],none,G [di x.1,di x.2]],[]⟩ (.tup []) ⟨[G [.gro 4 (I ys) 2],G [db b2],none,G [di x.1,di x.2],G (Ab ((ys).map eV))],[]⟩:=by
 have h2:=B3 (σ:=⟨[G [.v .nils],G [db b],none,G [di x.1,di x.2]],[]⟩) ho hc (fD:=.v (.fn 226 [] [])) (fs:=[]) (cs:=[]) (ds:=[A4 l,.v (AD ts),Cw m r ms]) rfl [0,1] id h
  (AI rfl rfl) (.cons rfl (AI rfl rfl) rfl (.cons rfl (AI rfl rfl) rfl .nil)) (by decide) rfl (by simp) (by simp) rfl (by simp[cm,D.okNs,D.okN,Aj])
 have e:CO (ez 4 [0,1]) id (CZ b2 ys).H=[G [.gro 4 (I ys) 2],G [db b2],G (Ab ((ys).map eV))]:=by
  show [G _,G _,G (D.rens _ _ _)]=_
  rw[A7 (Ay _)];rfl
 have h2:Ai PP o _ _ _ ⟨Cy _ _ (CO (ez 4 [0,1]) id (CZ b2 ys).H),_⟩:=h2
 rw[e] at h2
 exact h2
theorem AoA(m:cz)(r:cf)(ms l:List (Int×Int))(ts:List Tk)(x:Int×Int)(xs:List b9)(ys:List b9)(b b2:Bool){o:yy}{c:Call}{fo:x8}(ho:o.op=.call c)(hc:c.callee=.value fo)
  (h:Aa PP 226 [A4 l,.v (AD ts),Cw m r ms] (CZ b xs) (.tup []) (FY b2 (xs++ys))):
  Ai PP o [.v (.fn 226 [] []),A4 l,.v (AD ts),Cw m r ms] ⟨[G [.gro 2 (I xs) 2],G [db b],G (Ab (xs.map eV)),G [di x.1,di x.2]],[]⟩ (.tup []) ⟨[G [.gro 4 (I (xs++ys)) 2],G [db b2],none,G [di x.1,di x.2],G (Ab ((xs++ys).map eV))],[]⟩:=by
 have h2:=B3 (σ:=⟨[G [.gro 2 (I xs) 2],G [db b],G (Ab (xs.map eV)),G [di x.1,di x.2]],[]⟩) ho hc (fD:=.v (.fn 226 [] [])) (fs:=[]) (cs:=[]) (ds:=[A4 l,.v (AD ts),Cw m r ms]) rfl [0,1,2] id h
  (AI rfl rfl) (.cons rfl (AI rfl rfl) rfl (.cons rfl (AI rfl rfl) rfl (.cons rfl (AI (Aj _ _ _) (A7 (Ay _)).symm) (CV _) .nil))) (by decide) rfl (by simp) (by simp) rfl (by simp[cm,D.okNs,D.okN,Aj])
 have e:CO (ez 4 [0,1,2]) id (FY b2 (xs++ys)).H=[G [.gro 4 (I (xs++ys)) 2],G [db b2],none,G (Ab ((xs++ys).map eV))]:=by
  show [G _,G _,none,G (D.rens _ _ _)]=_
  rw[A7 (Ay _)];rfl
 have h2:Ai PP o _ _ _ ⟨Cy _ _ (CO (ez 4 [0,1,2]) id (FY b2 (xs++ys)).H),_⟩:=h2
 rw[e] at h2
 exact h2
theorem Ao9(m:cz)(r:cf)(ms l:List (Int×Int))(ts:List Tk)(x:Int×Int)(xs:List b9)(ys:List b9)(b b2:Bool){o:yy}{c:Call}{fo:x8}(ho:o.op=.call c)(hc:c.callee=.value fo)
  (h:Aa PP 226 [A4 l,.v (AD ts),Cw m r ms] (CZ b xs) (.tup []) (FY b2 (xs++ys))):
  Ai PP o [.v (.fn 226 [] []),A4 l,.v (AD ts),Cw m r ms] ⟨[G [.gro 3 (I xs) 2],G [db b],none,G (Ab (xs.map eV)),G [di x.1,di x.2]],[]⟩ (.tup []) ⟨[G [.gro 5 (I (xs++ys)) 2],G [db b2],none,none,G [di x.1,di x.2],G (Ab ((xs++ys).map eV))],[]⟩:=by
 have h2:=B3 (σ:=⟨[G [.gro 3 (I xs) 2],G [db b],none,G (Ab (xs.map eV)),G [di x.1,di x.2]],[]⟩) ho hc (fD:=.v (.fn 226 [] [])) (fs:=[]) (cs:=[]) (ds:=[A4 l,.v (AD ts),Cw m r ms]) rfl [0,1,3] id h
  (AI rfl rfl) (.cons rfl (AI rfl rfl) rfl (.cons rfl (AI rfl rfl) rfl (.cons rfl (AI (Aj _ _ _) (A7 (Ay _)).symm) (CV _) .nil))) (by decide) rfl (by simp) (by simp) rfl (by simp[cm,D.okNs,D.okN,Aj])
 have e:CO (ez 5 [0,1,3]) id (FY b2 (xs++ys)).H=[G [.gro 5 (I (xs++ys)) 2],G [db b2],none,G (Ab ((xs++ys).map eV))]:=by
  show [G _,G _,none,G (D.rens _ _ _)]=_
  rw[A7 (Ay _)];rfl
 have h2:Ai PP o _ _ _ ⟨Cy _ _ (CO (ez 5 [0,1,3]) id (FY b2 (xs++ys)).H),_⟩:=h2
 rw[e] at h2
 exact h2
theorem AlV(m:cz)(r:cf)(ms l:List (Int×Int))(ts:List Tk)(x:Int×Int)(xs:List b9)(_:List b9)(b b2:Bool){o:yy}{c:Call}{fo:x8}(ho:o.op=.call c)(hc:c.callee=.value fo)
  (h:Aa PP 226 [A4 l,.v (AD ts),Cw m r ms] (CZ b xs) (.tup []) (CZ b2 xs)):
  Ai PP o [.v (.fn 226 [] []),A4 l,.v (AD ts),Cw m r ms] ⟨[G [.gro 2 (I xs) 2],G [db b],G (Ab (xs.map eV)),G [di x.1,di x.2]],[]⟩ (.tup []) ⟨[G [.gro 2 (I xs) 2],G [db b2],G (Ab ((xs).map eV)),G [di x.1,di x.2]],[]⟩:=by
 have h2:=B3 (σ:=⟨[G [.gro 2 (I xs) 2],G [db b],G (Ab (xs.map eV)),G [di x.1,di x.2]],[]⟩) ho hc (fD:=.v (.fn 226 [] [])) (fs:=[]) (cs:=[]) (ds:=[A4 l,.v (AD ts),Cw m r ms]) rfl [0,1,2] id h
  (AI rfl rfl) (.cons rfl (AI rfl rfl) rfl (.cons rfl (AI rfl rfl) rfl (.cons rfl (AI (Aj _ _ _) (A7 (Ay _)).symm) (CV _) .nil))) (by decide) rfl (by simp) (by simp) rfl (by simp[cm,D.okNs,D.okN,Aj])
 have e:CO (ez 4 [0,1,2]) id (CZ b2 xs).H=[G [.gro 2 (I xs) 2],G [db b2],G (Ab ((xs).map eV))]:=by
  show [G _,G _,G (D.rens _ _ _)]=_
  rw[A7 (Ay _)];rfl
 have h2:Ai PP o _ _ _ ⟨Cy _ _ (CO (ez 4 [0,1,2]) id (CZ b2 xs).H),_⟩:=h2
 rw[e] at h2
 exact h2
theorem AlU(m:cz)(r:cf)(ms l:List (Int×Int))(ts:List Tk)(x:Int×Int)(xs:List b9)(_:List b9)(b b2:Bool){o:yy}{c:Call}{fo:x8}(ho:o.op=.call c)(hc:c.callee=.value fo)
  (h:Aa PP 226 [A4 l,.v (AD ts),Cw m r ms] (CZ b xs) (.tup []) (CZ b2 xs)):
  Ai PP o [.v (.fn 226 [] []),A4 l,.v (AD ts),Cw m r ms] ⟨[G [.gro 3 (I xs) 2],G [db b],none,G (Ab (xs.map eV)),G [di x.1,di x.2]],[]⟩ (.tup []) ⟨[G [.gro 3 (I xs) 2],G [db b2],none,G (Ab ((xs).map eV)),G [di x.1,di x.2]],[]⟩:=by
 have h2:=B3 (σ:=⟨[G [.gro 3 (I xs) 2],G [db b],none,G (Ab (xs.map eV)),G [di x.1,di x.2]],[]⟩) ho hc (fD:=.v (.fn 226 [] [])) (fs:=[]) (cs:=[]) (ds:=[A4 l,.v (AD ts),Cw m r ms]) rfl [0,1,3] id h
  (AI rfl rfl) (.cons rfl (AI rfl rfl) rfl (.cons rfl (AI rfl rfl) rfl (.cons rfl (AI (Aj _ _ _) (A7 (Ay _)).symm) (CV _) .nil))) (by decide) rfl (by simp) (by simp) rfl (by simp[cm,D.okNs,D.okN,Aj])
 have e:CO (ez 5 [0,1,3]) id (CZ b2 xs).H=[G [.gro 3 (I xs) 2],G [db b2],G (Ab ((xs).map eV))]:=by
  show [G _,G _,G (D.rens _ _ _)]=_
  rw[A7 (Ay _)];rfl
 have h2:Ai PP o _ _ _ ⟨Cy _ _ (CO (ez 5 [0,1,3]) id (CZ b2 xs).H),_⟩:=h2
 rw[e] at h2
 exact h2
theorem AlW(m:cz)(r:cf)(ms l:List (Int×Int))(ts:List Tk)(x:Int×Int)(b b2:Bool){o:yy}{c:Call}{fo:x8}(ho:o.op=.call c)(hc:c.callee=.value fo)
  (h:Aa PP 226 [A4 l,.v (AD ts),Cw m r ms] (jf b) (.tup []) (jf b2)):
  Ai PP o [.v (.fn 226 [] []),A4 l,.v (AD ts),Cw m r ms] ⟨[G [.v .nils],G [db b],none,G [di x.1,di x.2]],[]⟩ (.tup []) ⟨[G [.v .nils],G [db b2],none,G [di x.1,di x.2]],[]⟩:=
 B3 (σ:=⟨[G [.v .nils],G [db b],none,G [di x.1,di x.2]],[]⟩) ho hc (fD:=.v (.fn 226 [] [])) (fs:=[]) (cs:=[]) (ds:=[A4 l,.v (AD ts),Cw m r ms]) rfl [0,1] id h
  (AI rfl rfl) (.cons rfl (AI rfl rfl) rfl (.cons rfl (AI rfl rfl) rfl .nil)) (by decide) rfl (by simp) (by simp) rfl (by rfl)
noncomputable abbrev l7:=fun a₀ b₀ c₀=>(2,D.dfn 228 [] (DP a₀ b₀ c₀))
noncomputable abbrev q9:=(Oper.mk (G 54) (Op.binOp BinOp.neq 205 (Operand.tmp 52) (Operand.tmp 53) 205) 4 "timed.go:54" #[Edge.mk 27 Ground.data,Edge.mk 28 Ground.data,Edge.mk 22 Ground.guard] (G (22,false)))
noncomputable abbrev ju:=fun a₀=>[ke 0,ke 1,ke 2,ke 6,ke 18,ke 19,ch 20 (di (a₀+1:Nat))]
noncomputable abbrev kx:=(bw 226 [] [])
noncomputable abbrev ow:=fun a₀ b₀ c₀ d₀=>[G [bm 4 (I a₀) 2],G [db b₀],none,G [di c₀,di d₀],G (ej a₀)]
noncomputable abbrev l8:=[kl DR [1,1,1,0,0],bf 0]
noncomputable abbrev qh:=fun a₀ b₀ c₀ d₀ e₀=>(bh [G [a₀],G [db b₀],c₀,G [di d₀,di e₀]] [])
noncomputable abbrev qi:=fun a₀ b₀ c₀=>[bt (cn a₀),bt (ab [vi b₀,vi c₀])]
noncomputable abbrev la:=fun a₀=>(6,bt (bz (dh a₀)))
noncomputable abbrev lc:=fun a₀=>(1,bt (ai a₀))
theorem AnA(m:cz)(r:cf)(ms l:List (Int×Int))(hl:I l<=50)(tk:Tk)(ts:List Tk)(L:List V)(hL:L=(tk::ts).map dh)(g:D)(b:Bool)(d2:Option (List D))(k:Nat)(x:Int×Int)(hx:l[k]?=G x)(S:St)(hok:∀b,cm 3 [] [G [g],G [db b],d2]=J)
  (ihy:EU tk l k=J->(∃b2:Bool,(∀(o:yy) (c:Call) (fo:x8),o.op=.call c->c.callee=.value fo->Ai PP o [.v (.fn 226 [] []),A4 (l.take k++l.drop (k+1)),.v (AD ts),Cw m r ms] ⟨[G [g],G [db b],d2,G [di x.1,di x.2]],[]⟩ (.tup []) ⟨[G [g],G [db b2],d2,G [di x.1,di x.2]],[]⟩)/\Rn PP CM 3 (.tup []) S ([kl DR [1,1,1,0,0],.blk 0]++[]) (cy 71 [(0,A4 l),(1,.v (.list L)),(2,Cw m r ms),(6,.v (.ref (dh tk))),(18,A4 l),(19,di (I l)),(20,di (k+1:Nat))]) ⟨[G [g],G [db b2],d2],[]⟩)∨∃(b2:Bool) (ws:List b9),(∀(o:yy) (c:Call) (fo:x8),o.op=.call c->c.callee=.value fo->Ai PP o [.v (.fn 226 [] []),A4 (l.take k++l.drop (k+1)),.v (AD ts),Cw m r ms] ⟨[G [g],G [db b],d2,G [di x.1,di x.2]],[]⟩ (.tup []) ⟨[G [.gro 4 (I ws) 2],G [db b2],none,G [di x.1,di x.2],G (Ab (ws.map eV))],[]⟩)/\Rn PP CM 3 (.tup []) S ([kl DR [1,1,1,0,0],.blk 0]++[]) (cy 71 [(0,A4 l),(1,.v (.list L)),(2,Cw m r ms),(6,.v (.ref (dh tk))),(18,A4 l),(19,di (I l)),(20,di (k+1:Nat))]) (FY b2 ws))
  (ihn:EU tk l k=O->Rn PP CM 3 (.tup []) S ([kl DR [1,1,1,0,0],.blk 0]++[]) (cy 71 [(0,A4 l),(1,.v (.list L)),(2,Cw m r ms),(6,.v (.ref (dh tk))),(18,A4 l),(19,di (I l)),(20,di (k+1:Nat))]) ⟨[G [g],G [db b],d2],[]⟩):
  Rn PP CM 3 (.tup []) S ([kl DR [1,1,1,0,0],.blk 0]++[]) (cy 71 [(0,A4 l),(1,.v (.list L)),(2,Cw m r ms),(6,.v (.ref (dh tk))),(18,A4 l),(19,di (I l)),(20,di k)]) ⟨[G [g],G [db b],d2],[]⟩:=by
 have hk:k<I l:=(HL.1 hx).1
 have hw1:yt.wrap ((k:Int)-1)=((k-1:Nat):Int)∨k=0:=by
  grind[Ak]
 have hw2:yt.wrap ((k:Int)+1)=((k+1:Nat):Int):=by grind[Ak]
 have szp:∀y∈l.map cn,y.size=2:=fun y hy=>by obtain⟨z,_,rfl⟩:=I2.1 hy;rfl
 by_cases c1:(x.1==tk.place)=J
 ·by_cases c2:decide (x.2>=tk.low)=J
  ·by_cases c3:decide (x.2<=tk.high)=J
   ·by_cases c4:((k:Int)==0)=J
    ·rcases ihy (by grind[Mc]) with⟨b2,v2,r3⟩|⟨b2,ws,v2,r3⟩
     ·refine lv 71 [] (.t<|.x (cn x)<|.t<|.t<|.t<|.t<|.c (A4 (l.take k++l.drop (k+1)))<|.h (.oc (.tup []) ⟨[G [g],G [db b2],d2,G [di x.1,di x.2]],[]⟩)<|.lo (ju k) ⟨[G [g],G [db b2],d2],[]⟩) (decide ((k:Int)<(I l:Int))=J/\0<=(k:Int)/\(U cn l)[Z (k:Int)]?=G (cn x)/\iz 0<=0/\0<(↑2:Int)/\(x.fst==tk.place)=J/\iz 0<=1/\1<(↑2:Int)/\decide (x.snd>=tk.low)=J/\iz 0<=1/\1<(↑2:Int)/\decide (x.snd<=tk.high)=J/\((k:Int)==0)=J/\(yj (True))/\(∀(x:V),x∈U cn l->V.size x=2)/\0<=(fun x=>x.snd) (fz k)/\(fun x=>x.snd) (fz k)<=(I (U cn l):Int)/\(∀(x:V),x∈U cn l->V.size x=2)/\0<=(fun x=>x.snd) (yt,yu yt ((k:Int)+1))/\(fun x=>x.snd) (yt,yu yt ((k:Int)+1))<=(I (U cn l):Int)/\F0 230 [bt (ai [ai (W 0 (take (Z ((fun x=>x.snd) (fz k))) (U cn l))),ai (W (Z ((fun x=>x.snd) (yt,yu yt ((k:Int)+1)))) (take (I (U cn l)) (U cn l)))])] (A4 (take k l++W (k+1) l))/\(∀(x:V),x∈L->V.size x=3)/\0<=(1:Int)/\(1:Int)<=(I L:Int)/\(N0 [bt kx,A4 (take k l++W (k+1) l),bt (ai (W (Z ((1:Int))) (take (I L) L))),D.dfn 228 [] (DP m r ms)] (qh g b d2 x.fst x.snd) (bk []) (qh g b2 d2 x.fst x.snd))/\di (yu yt ((k:Int)+1))=di (↑(k+1):Int)/\cm 3 [] [G [g],G [db b2],d2]=J/\Q [G [g],G [db b2],d2]/\I0 CM 3 (bk []) S l8 (cy 71 [(0,bt (BV l)),(lc L),(l7 m r ms),(la tk),(18,bt (BV l)),(19,di (I l:Int)),(20,di (↑(k+1):Int))]) (bh [G [g],G [db b2],d2] [])) ?_
      rw[hw2]
      exact⟨yr,by omega,BQ hx,Il _,by decide,c1,by decide,by decide,c2,by decide,by decide,c3,c4,by grind,szp,(by grind),(by grind),szp,(by grind),(by grind),GJ l hl k hk,G6 hL,by decide,G7 hL,fun o cl fo ho hc=>by grind,rfl,hok b2,rfl,⟨r3⟩⟩
     ·refine lv 71 [] (.t<|.x (cn x)<|.t<|.t<|.t<|.t<|.c (A4 (l.take k++l.drop (k+1)))<|.h (.oc (.tup []) ⟨[G [.gro 4 (I ws) 2],G [db b2],none,G [di x.1,di x.2],G (Ab (ws.map eV))],[]⟩)<|.lo (ju k) ⟨[G [.gro 4 (I ws) 2],G [db b2],none,G [di x.1,di x.2],G (Ab (ws.map eV))],[]⟩) (decide ((k:Int)<(I l:Int))=J/\0<=(k:Int)/\(U cn l)[Z (k:Int)]?=G (cn x)/\iz 0<=0/\0<(↑2:Int)/\(x.fst==tk.place)=J/\iz 0<=1/\1<(↑2:Int)/\decide (x.snd>=tk.low)=J/\iz 0<=1/\1<(↑2:Int)/\decide (x.snd<=tk.high)=J/\((k:Int)==0)=J/\(yj (True))/\(∀(x:V),x∈U cn l->V.size x=2)/\0<=(fun x=>x.snd) (fz k)/\(fun x=>x.snd) (fz k)<=(I (U cn l):Int)/\(∀(x:V),x∈U cn l->V.size x=2)/\0<=(fun x=>x.snd) (yt,yu yt ((k:Int)+1))/\(fun x=>x.snd) (yt,yu yt ((k:Int)+1))<=(I (U cn l):Int)/\F0 230 [bt (ai [ai (W 0 (take (Z ((fun x=>x.snd) (fz k))) (U cn l))),ai (W (Z ((fun x=>x.snd) (yt,yu yt ((k:Int)+1)))) (take (I (U cn l)) (U cn l)))])] (A4 (take k l++W (k+1) l))/\(∀(x:V),x∈L->V.size x=3)/\0<=(1:Int)/\(1:Int)<=(I L:Int)/\(N0 [bt kx,A4 (take k l++W (k+1) l),bt (ai (W (Z ((1:Int))) (take (I L) L))),D.dfn 228 [] (DP m r ms)] (qh g b d2 x.fst x.snd) (bk []) (bh (ow ws b2 x.fst x.snd) []))/\di (yu yt ((k:Int)+1))=di (↑(k+1):Int)/\cm 5 [] (ow ws b2 x.fst x.snd)=J/\Q (ow ws b2 x.fst x.snd)/\I0 CM 3 (bk []) S l8 (cy 71 [(0,bt (BV l)),(lc L),(l7 m r ms),(la tk),(18,bt (BV l)),(19,di (I l:Int)),(20,di (↑(k+1):Int))]) (bh (ow ws b2 x.fst x.snd) [])) ?_
      rw[hw2]
      exact⟨yr,by omega,BQ hx,Il _,by decide,c1,by decide,by decide,c2,by decide,by decide,c3,c4,by grind,szp,(by grind),(by grind),szp,(by grind),(by grind),GJ l hl k hk,G6 hL,by decide,G7 hL,fun o cl fo ho hc=>by grind,rfl,by simp[cm,D.okNs,D.okN,Aj],rfl,⟨Amd (HP 3) x ws b2 rfl rfl r3⟩⟩
    ·have c4f:=HU c4
     obtain⟨y,hy⟩:=yk (show k-1<I l by omega)
     by_cases c5:(!(y.1==x.1&&y.2==x.2))=J
     ·rcases ihy (by grind[EU]) with⟨b2,v2,r3⟩|⟨b2,ws,v2,r3⟩
      ·refine lv 71 [] (.t<|.x (cn x)<|.t<|.t<|.t<|.f<|.x (cn y)<|.m (.v (cn x))<|.h (.p (db (!(y.1==x.1&&y.2==x.2))))<|.t<|.c (A4 (l.take k++l.drop (k+1)))<|.h (.oc (.tup []) ⟨[G [g],G [db b2],d2,G [di x.1,di x.2]],[]⟩)<|.lo (ju k) ⟨[G [g],G [db b2],d2],[]⟩) (decide ((k:Int)<(I l:Int))=J/\0<=(k:Int)/\(U cn l)[Z (k:Int)]?=G (cn x)/\iz 0<=0/\0<(↑2:Int)/\(x.fst==tk.place)=J/\iz 0<=1/\1<(↑2:Int)/\decide (x.snd>=tk.low)=J/\iz 0<=1/\1<(↑2:Int)/\decide (x.snd<=tk.high)=J/\((k:Int)==0)=O/\0<=yu yt ((k:Int)-1)/\(U cn l)[Z (yu yt ((k:Int)-1))]?=G (cn y)/\2<=2/\Q [di x.fst,di x.snd]/\(∀(τ:St),Ai PP q9 (qi y x.fst x.snd) τ (db !(y.fst==x.fst&&y.snd==x.snd)) τ)/\(yi (True))/\(!(y.fst==x.fst&&y.snd==x.snd))=J/\(∀(x:V),x∈U cn l->V.size x=2)/\0<=(fun x=>x.snd) (fz k)/\(fun x=>x.snd) (fz k)<=(I (U cn l):Int)/\(∀(x:V),x∈U cn l->V.size x=2)/\0<=(fun x=>x.snd) (yt,yu yt ((k:Int)+1))/\(fun x=>x.snd) (yt,yu yt ((k:Int)+1))<=(I (U cn l):Int)/\F0 230 [bt (ai [ai (W 0 (take (Z ((fun x=>x.snd) (fz k))) (U cn l))),ai (W (Z ((fun x=>x.snd) (yt,yu yt ((k:Int)+1)))) (take (I (U cn l)) (U cn l)))])] (A4 (take k l++W (k+1) l))/\(∀(x:V),x∈L->V.size x=3)/\0<=(1:Int)/\(1:Int)<=(I L:Int)/\(N0 [bt kx,A4 (take k l++W (k+1) l),bt (ai (W (Z ((1:Int))) (take (I L) L))),D.dfn 228 [] (DP m r ms)] (qh g b d2 x.fst x.snd) (bk []) (qh g b2 d2 x.fst x.snd))/\di (yu yt ((k:Int)+1))=di (↑(k+1):Int)/\cm 3 [] [G [g],G [db b2],d2]=J/\Q [G [g],G [db b2],d2]/\I0 CM 3 (bk []) S l8 (cy 71 [(0,bt (BV l)),(lc L),(l7 m r ms),(la tk),(18,bt (BV l)),(19,di (I l:Int)),(20,di (↑(k+1):Int))]) (bh [G [g],G [db b2],d2] [])) ?_
       have hw1:=hw1.resolve_right (fun h=>c4 (by grind))
       rw[hw1]
       rw[hw2]
       exact⟨yr,by omega,BQ hx,Il _,by decide,c1,by decide,by decide,c2,by decide,by decide,c3,c4f,by omega,BQ hy,HP _,rfl,fun τ=>Ha rfl y.1 y.2 x.1 x.2,by grind,c5,szp,(by grind),(by grind),szp,(by grind),(by grind),GJ l hl k hk,G6 hL,by decide,G7 hL,fun o cl fo ho hc=>by grind,rfl,hok b2,rfl,⟨r3⟩⟩
      ·refine lv 71 [] (.t<|.x (cn x)<|.t<|.t<|.t<|.f<|.x (cn y)<|.m (.v (cn x))<|.h (.p (db (!(y.1==x.1&&y.2==x.2))))<|.t<|.c (A4 (l.take k++l.drop (k+1)))<|.h (.oc (.tup []) ⟨[G [.gro 4 (I ws) 2],G [db b2],none,G [di x.1,di x.2],G (Ab (ws.map eV))],[]⟩)<|.lo (ju k) ⟨[G [.gro 4 (I ws) 2],G [db b2],none,G [di x.1,di x.2],G (Ab (ws.map eV))],[]⟩) (decide ((k:Int)<(I l:Int))=J/\0<=(k:Int)/\(U cn l)[Z (k:Int)]?=G (cn x)/\iz 0<=0/\0<(↑2:Int)/\(x.fst==tk.place)=J/\iz 0<=1/\1<(↑2:Int)/\decide (x.snd>=tk.low)=J/\iz 0<=1/\1<(↑2:Int)/\decide (x.snd<=tk.high)=J/\((k:Int)==0)=O/\0<=yu yt ((k:Int)-1)/\(U cn l)[Z (yu yt ((k:Int)-1))]?=G (cn y)/\2<=2/\Q [di x.fst,di x.snd]/\(∀(τ:St),Ai PP q9 (qi y x.fst x.snd) τ (db !(y.fst==x.fst&&y.snd==x.snd)) τ)/\(yi (True))/\(!(y.fst==x.fst&&y.snd==x.snd))=J/\(∀(x:V),x∈U cn l->V.size x=2)/\0<=(fun x=>x.snd) (fz k)/\(fun x=>x.snd) (fz k)<=(I (U cn l):Int)/\(∀(x:V),x∈U cn l->V.size x=2)/\0<=(fun x=>x.snd) (yt,yu yt ((k:Int)+1))/\(fun x=>x.snd) (yt,yu yt ((k:Int)+1))<=(I (U cn l):Int)/\F0 230 [bt (ai [ai (W 0 (take (Z ((fun x=>x.snd) (fz k))) (U cn l))),ai (W (Z ((fun x=>x.snd) (yt,yu yt ((k:Int)+1)))) (take (I (U cn l)) (U cn l)))])] (A4 (take k l++W (k+1) l))/\(∀(x:V),x∈L->V.size x=3)/\0<=(1:Int)/\(1:Int)<=(I L:Int)/\(N0 [bt kx,A4 (take k l++W (k+1) l),bt (ai (W (Z ((1:Int))) (take (I L) L))),D.dfn 228 [] (DP m r ms)] (qh g b d2 x.fst x.snd) (bk []) (bh (ow ws b2 x.fst x.snd) []))/\di (yu yt ((k:Int)+1))=di (↑(k+1):Int)/\cm 5 [] (ow ws b2 x.fst x.snd)=J/\Q (ow ws b2 x.fst x.snd)/\I0 CM 3 (bk []) S l8 (cy 71 [(0,bt (BV l)),(lc L),(l7 m r ms),(la tk),(18,bt (BV l)),(19,di (I l:Int)),(20,di (↑(k+1):Int))]) (bh (ow ws b2 x.fst x.snd) [])) ?_
       have hw1:=hw1.resolve_right (fun h=>c4 (by grind))
       rw[hw1]
       rw[hw2]
       exact⟨yr,by omega,BQ hx,Il _,by decide,c1,by decide,by decide,c2,by decide,by decide,c3,c4f,by omega,BQ hy,HP _,rfl,fun τ=>Ha rfl y.1 y.2 x.1 x.2,by grind,c5,szp,(by grind),(by grind),szp,(by grind),(by grind),GJ l hl k hk,G6 hL,by decide,G7 hL,fun o cl fo ho hc=>by grind,rfl,by simp[cm,D.okNs,D.okN,Aj],rfl,⟨Amd (HP 3) x ws b2 rfl rfl r3⟩⟩
     ·have r3:=ihn (by grind[EU])
      refine lv 71 [] (.t<|.x (cn x)<|.t<|.t<|.t<|.f<|.x (cn y)<|.m (.v (cn x))<|.h (.p (db (!(y.1==x.1&&y.2==x.2))))<|.f<|.lo (ju k) ⟨[G [g],G [db b],d2],[]⟩) (decide ((k:Int)<(I l:Int))=J/\0<=(k:Int)/\(U cn l)[Z (k:Int)]?=G (cn x)/\iz 0<=0/\0<(↑2:Int)/\(x.fst==tk.place)=J/\iz 0<=1/\1<(↑2:Int)/\decide (x.snd>=tk.low)=J/\iz 0<=1/\1<(↑2:Int)/\decide (x.snd<=tk.high)=J/\((k:Int)==0)=O/\0<=yu yt ((k:Int)-1)/\(U cn l)[Z (yu yt ((k:Int)-1))]?=G (cn y)/\2<=2/\Q [di x.fst,di x.snd]/\(∀(τ:St),Ai PP q9 (qi y x.fst x.snd) τ (db !(y.fst==x.fst&&y.snd==x.snd)) τ)/\(yi (True))/\(!(y.fst==x.fst&&y.snd==x.snd))=O/\di (yu yt ((k:Int)+1))=di (↑(k+1):Int)/\cm 3 [] [G [g],G [db b],d2]=J/\Q [G [g],G [db b],d2]/\I0 CM 3 (bk []) S l8 (cy 71 [(0,bt (BV l)),(lc L),(l7 m r ms),(la tk),(18,bt (BV l)),(19,di (I l:Int)),(20,di (↑(k+1):Int))]) (bh [G [g],G [db b],d2] [])) ?_
      have hw1:=hw1.resolve_right (fun h=>c4 (by grind))
      rw[hw1]
      exact⟨yr,by omega,BQ hx,Il _,by decide,c1,by decide,by decide,c2,by decide,by decide,c3,c4f,by omega,BQ hy,HP _,rfl,fun τ=>Ha rfl y.1 y.2 x.1 x.2,by grind,HU c5,Ih di hw2,hok b,rfl,⟨r3⟩⟩
   ·have r3:=ihn (by grind[EU])
    exact lv 71 [] (.t<|.x (cn x)<|.t<|.t<|.f<|.lo (ju k) ⟨[G [g],G [db b],d2],[]⟩) (decide ((k:Int)<(I l:Int))=J/\0<=(k:Int)/\(U cn l)[Z (k:Int)]?=G (cn x)/\iz 0<=0/\0<(↑2:Int)/\_/\iz 0<=1/\1<(↑2:Int)/\_/\iz 0<=1/\1<(↑2:Int)/\decide (x.snd<=tk.high)=O/\(yj (True))/\di (yu yt ((k:Int)+1))=di (↑(k+1):Int)/\cm 3 [] [G [g],G [db b],d2]=J/\Q [G [g],G [db b],d2]/\_) ⟨yr,by omega,BQ hx,Il _,by decide,c1,by decide,by decide,c2,by decide,by decide,HU c3,by grind,Ih di hw2,hok b,rfl,iK r3⟩
  ·have r3:=ihn (by grind[EU])
   exact lv 71 [] (.t<|.x (cn x)<|.t<|.f<|.lo (ju k) ⟨[G [g],G [db b],d2],[]⟩) (decide ((k:Int)<(I l:Int))=J/\0<=(k:Int)/\(U cn l)[Z (k:Int)]?=G (cn x)/\iz 0<=0/\0<(↑2:Int)/\_/\iz 0<=1/\1<(↑2:Int)/\decide (x.snd>=tk.low)=O/\yo/\di (yu yt ((k:Int)+1))=di (↑(k+1):Int)/\cm 3 [] [G [g],G [db b],d2]=J/\Q [G [g],G [db b],d2]/\_) ⟨yr,by omega,BQ hx,Il _,by decide,c1,by decide,by decide,HU c2,by grind,Ih di hw2,hok b,rfl,iK r3⟩
 ·have r3:=ihn (by grind[Mc])
  exact lv 71 [] (.t<|.x (cn x)<|.f<|.lo (ju k) ⟨[G [g],G [db b],d2],[]⟩) (decide ((k:Int)<(I l:Int))=J/\0<=(k:Int)/\(U cn l)[Z (k:Int)]?=G (cn x)/\iz 0<=0/\0<(↑2:Int)/\(x.fst==tk.place)=O/\yp/\di (yu yt ((k:Int)+1))=di (↑(k+1):Int)/\cm 3 [] [G [g],G [db b],d2]=J/\Q [G [g],G [db b],d2]/\_) ⟨yr,by omega,BQ hx,Il _,by decide,HU c1,by grind,Ih di hw2,hok b,rfl,iK r3⟩
noncomputable abbrev ou:=fun a₀ b₀ c₀ d₀=>[G [bm 5 (I a₀) 2],G [db b₀],none,none,G [di c₀,di d₀],G (ej a₀)]
theorem An9(m:cz)(r:cf)(ms l:List (Int×Int))(hl:I l<=50)(tk:Tk)(ts:List Tk)(L:List V)(hL:L=(tk::ts).map dh)(g:D)(b:Bool)(d2:Option (List D))(d3:Option (List D))(k:Nat)(x:Int×Int)(hx:l[k]?=G x)(S:St)(hok:∀b,cm 4 [] [G [g],G [db b],d2,d3]=J)
  (ihy:EU tk l k=J->(∃b2:Bool,(∀(o:yy) (c:Call) (fo:x8),o.op=.call c->c.callee=.value fo->Ai PP o [.v (.fn 226 [] []),A4 (l.take k++l.drop (k+1)),.v (AD ts),Cw m r ms] ⟨[G [g],G [db b],d2,d3,G [di x.1,di x.2]],[]⟩ (.tup []) ⟨[G [g],G [db b2],d2,d3,G [di x.1,di x.2]],[]⟩)/\Rn PP CM 3 (.tup []) S ([kl DR [1,1,1,0,0],.blk 0]++[]) (cy 71 [(0,A4 l),(1,.v (.list L)),(2,Cw m r ms),(6,.v (.ref (dh tk))),(18,A4 l),(19,di (I l)),(20,di (k+1:Nat))]) ⟨[G [g],G [db b2],d2,d3],[]⟩)∨∃(b2:Bool) (ws:List b9),(∀(o:yy) (c:Call) (fo:x8),o.op=.call c->c.callee=.value fo->Ai PP o [.v (.fn 226 [] []),A4 (l.take k++l.drop (k+1)),.v (AD ts),Cw m r ms] ⟨[G [g],G [db b],d2,d3,G [di x.1,di x.2]],[]⟩ (.tup []) ⟨[G [.gro 5 (I ws) 2],G [db b2],none,none,G [di x.1,di x.2],G (Ab (ws.map eV))],[]⟩)/\Rn PP CM 3 (.tup []) S ([kl DR [1,1,1,0,0],.blk 0]++[]) (cy 71 [(0,A4 l),(1,.v (.list L)),(2,Cw m r ms),(6,.v (.ref (dh tk))),(18,A4 l),(19,di (I l)),(20,di (k+1:Nat))]) (FY b2 ws))
  (ihn:EU tk l k=O->Rn PP CM 3 (.tup []) S ([kl DR [1,1,1,0,0],.blk 0]++[]) (cy 71 [(0,A4 l),(1,.v (.list L)),(2,Cw m r ms),(6,.v (.ref (dh tk))),(18,A4 l),(19,di (I l)),(20,di (k+1:Nat))]) ⟨[G [g],G [db b],d2,d3],[]⟩):
  Rn PP CM 3 (.tup []) S ([kl DR [1,1,1,0,0],.blk 0]++[]) (cy 71 [(0,A4 l),(1,.v (.list L)),(2,Cw m r ms),(6,.v (.ref (dh tk))),(18,A4 l),(19,di (I l)),(20,di k)]) ⟨[G [g],G [db b],d2,d3],[]⟩:=by
 have hk:k<I l:=(HL.1 hx).1
 have hw1:yt.wrap ((k:Int)-1)=((k-1:Nat):Int)∨k=0:=by
  grind[Ak]
 have hw2:yt.wrap ((k:Int)+1)=((k+1:Nat):Int):=by grind[Ak]
 have szp:∀y∈l.map cn,y.size=2:=fun y hy=>by obtain⟨z,_,rfl⟩:=I2.1 hy;rfl
 by_cases c1:(x.1==tk.place)=J
 ·by_cases c2:decide (x.2>=tk.low)=J
  ·by_cases c3:decide (x.2<=tk.high)=J
   ·by_cases c4:((k:Int)==0)=J
    ·rcases ihy (by grind[Mc]) with⟨b2,v2,r3⟩|⟨b2,ws,v2,r3⟩
     ·refine lv 71 [] (.t<|.x (cn x)<|.t<|.t<|.t<|.t<|.c (A4 (l.take k++l.drop (k+1)))<|.h (.oc (.tup []) ⟨[G [g],G [db b2],d2,d3,G [di x.1,di x.2]],[]⟩)<|.lo (ju k) ⟨[G [g],G [db b2],d2,d3],[]⟩) (decide ((k:Int)<(I l:Int))=J/\0<=(k:Int)/\(U cn l)[Z (k:Int)]?=G (cn x)/\iz 0<=0/\0<(↑2:Int)/\(x.fst==tk.place)=J/\iz 0<=1/\1<(↑2:Int)/\decide (x.snd>=tk.low)=J/\iz 0<=1/\1<(↑2:Int)/\decide (x.snd<=tk.high)=J/\((k:Int)==0)=J/\(yj (True))/\(∀(x:V),x∈U cn l->V.size x=2)/\0<=(fun x=>x.snd) (fz k)/\(fun x=>x.snd) (fz k)<=(I (U cn l):Int)/\(∀(x:V),x∈U cn l->V.size x=2)/\0<=(fun x=>x.snd) (yt,yu yt ((k:Int)+1))/\(fun x=>x.snd) (yt,yu yt ((k:Int)+1))<=(I (U cn l):Int)/\F0 230 [bt (ai [ai (W 0 (take (Z ((fun x=>x.snd) (fz k))) (U cn l))),ai (W (Z ((fun x=>x.snd) (yt,yu yt ((k:Int)+1)))) (take (I (U cn l)) (U cn l)))])] (A4 (take k l++W (k+1) l))/\(∀(x:V),x∈L->V.size x=3)/\0<=(1:Int)/\(1:Int)<=(I L:Int)/\(N0 [bt kx,A4 (take k l++W (k+1) l),bt (ai (W (Z ((1:Int))) (take (I L) L))),D.dfn 228 [] (DP m r ms)] (bh [G [g],G [db b],d2,d3,G [di x.fst,di x.snd]] []) (bk []) (bh [G [g],G [db b2],d2,d3,G [di x.fst,di x.snd]] []))/\di (yu yt ((k:Int)+1))=di (↑(k+1):Int)/\cm 4 [] [G [g],G [db b2],d2,d3]=J/\Q [G [g],G [db b2],d2,d3]/\I0 CM 3 (bk []) S l8 (cy 71 [(0,bt (BV l)),(lc L),(l7 m r ms),(la tk),(18,bt (BV l)),(19,di (I l:Int)),(20,di (↑(k+1):Int))]) (bh [G [g],G [db b2],d2,d3] [])) ?_
      rw[hw2]
      exact⟨yr,by omega,BQ hx,Il _,by decide,c1,by decide,by decide,c2,by decide,by decide,c3,c4,by grind,szp,(by grind),(by grind),szp,(by grind),(by grind),GJ l hl k hk,G6 hL,by decide,G7 hL,fun o cl fo ho hc=>by grind,rfl,hok b2,rfl,⟨r3⟩⟩
     ·refine lv 71 [] (.t<|.x (cn x)<|.t<|.t<|.t<|.t<|.c (A4 (l.take k++l.drop (k+1)))<|.h (.oc (.tup []) ⟨[G [.gro 5 (I ws) 2],G [db b2],none,none,G [di x.1,di x.2],G (Ab (ws.map eV))],[]⟩)<|.lo (ju k) ⟨[G [.gro 5 (I ws) 2],G [db b2],none,none,G [di x.1,di x.2],G (Ab (ws.map eV))],[]⟩) (decide ((k:Int)<(I l:Int))=J/\0<=(k:Int)/\(U cn l)[Z (k:Int)]?=G (cn x)/\iz 0<=0/\0<(↑2:Int)/\(x.fst==tk.place)=J/\iz 0<=1/\1<(↑2:Int)/\decide (x.snd>=tk.low)=J/\iz 0<=1/\1<(↑2:Int)/\decide (x.snd<=tk.high)=J/\((k:Int)==0)=J/\(yj (True))/\(∀(x:V),x∈U cn l->V.size x=2)/\0<=(fun x=>x.snd) (fz k)/\(fun x=>x.snd) (fz k)<=(I (U cn l):Int)/\(∀(x:V),x∈U cn l->V.size x=2)/\0<=(fun x=>x.snd) (yt,yu yt ((k:Int)+1))/\(fun x=>x.snd) (yt,yu yt ((k:Int)+1))<=(I (U cn l):Int)/\F0 230 [bt (ai [ai (W 0 (take (Z ((fun x=>x.snd) (fz k))) (U cn l))),ai (W (Z ((fun x=>x.snd) (yt,yu yt ((k:Int)+1)))) (take (I (U cn l)) (U cn l)))])] (A4 (take k l++W (k+1) l))/\(∀(x:V),x∈L->V.size x=3)/\0<=(1:Int)/\(1:Int)<=(I L:Int)/\(N0 [bt kx,A4 (take k l++W (k+1) l),bt (ai (W (Z ((1:Int))) (take (I L) L))),D.dfn 228 [] (DP m r ms)] (bh [G [g],G [db b],d2,d3,G [di x.fst,di x.snd]] []) (bk []) (bh (ou ws b2 x.fst x.snd) []))/\di (yu yt ((k:Int)+1))=di (↑(k+1):Int)/\cm 6 [] (ou ws b2 x.fst x.snd)=J/\Q (ou ws b2 x.fst x.snd)/\I0 CM 3 (bk []) S l8 (cy 71 [(0,bt (BV l)),(lc L),(l7 m r ms),(la tk),(18,bt (BV l)),(19,di (I l:Int)),(20,di (↑(k+1):Int))]) (bh (ou ws b2 x.fst x.snd) [])) ?_
      rw[hw2]
      exact⟨yr,by omega,BQ hx,Il _,by decide,c1,by decide,by decide,c2,by decide,by decide,c3,c4,by grind,szp,(by grind),(by grind),szp,(by grind),(by grind),GJ l hl k hk,G6 hL,by decide,G7 hL,fun o cl fo ho hc=>by grind,rfl,by simp[cm,D.okNs,D.okN,Aj],rfl,⟨Amc (HP 3) x ws b2 rfl rfl r3⟩⟩
    ·have c4f:=HU c4
     obtain⟨y,hy⟩:=yk (show k-1<I l by omega)
     by_cases c5:(!(y.1==x.1&&y.2==x.2))=J
     ·rcases ihy (by grind[EU]) with⟨b2,v2,r3⟩|⟨b2,ws,v2,r3⟩
      ·refine lv 71 [] (.t<|.x (cn x)<|.t<|.t<|.t<|.f<|.x (cn y)<|.m (.v (cn x))<|.h (.p (db (!(y.1==x.1&&y.2==x.2))))<|.t<|.c (A4 (l.take k++l.drop (k+1)))<|.h (.oc (.tup []) ⟨[G [g],G [db b2],d2,d3,G [di x.1,di x.2]],[]⟩)<|.lo (ju k) ⟨[G [g],G [db b2],d2,d3],[]⟩) (decide ((k:Int)<(I l:Int))=J/\0<=(k:Int)/\(U cn l)[Z (k:Int)]?=G (cn x)/\iz 0<=0/\0<(↑2:Int)/\(x.fst==tk.place)=J/\iz 0<=1/\1<(↑2:Int)/\decide (x.snd>=tk.low)=J/\iz 0<=1/\1<(↑2:Int)/\decide (x.snd<=tk.high)=J/\((k:Int)==0)=O/\0<=yu yt ((k:Int)-1)/\(U cn l)[Z (yu yt ((k:Int)-1))]?=G (cn y)/\2<=2/\Q [di x.fst,di x.snd]/\(∀(τ:St),Ai PP q9 (qi y x.fst x.snd) τ (db !(y.fst==x.fst&&y.snd==x.snd)) τ)/\(yi (True))/\(!(y.fst==x.fst&&y.snd==x.snd))=J/\(∀(x:V),x∈U cn l->V.size x=2)/\0<=(fun x=>x.snd) (fz k)/\(fun x=>x.snd) (fz k)<=(I (U cn l):Int)/\(∀(x:V),x∈U cn l->V.size x=2)/\0<=(fun x=>x.snd) (yt,yu yt ((k:Int)+1))/\(fun x=>x.snd) (yt,yu yt ((k:Int)+1))<=(I (U cn l):Int)/\F0 230 [bt (ai [ai (W 0 (take (Z ((fun x=>x.snd) (fz k))) (U cn l))),ai (W (Z ((fun x=>x.snd) (yt,yu yt ((k:Int)+1)))) (take (I (U cn l)) (U cn l)))])] (A4 (take k l++W (k+1) l))/\(∀(x:V),x∈L->V.size x=3)/\0<=(1:Int)/\(1:Int)<=(I L:Int)/\(N0 [bt kx,A4 (take k l++W (k+1) l),bt (ai (W (Z ((1:Int))) (take (I L) L))),D.dfn 228 [] (DP m r ms)] (bh [G [g],G [db b],d2,d3,G [di x.fst,di x.snd]] []) (bk []) (bh [G [g],G [db b2],d2,d3,G [di x.fst,di x.snd]] []))/\di (yu yt ((k:Int)+1))=di (↑(k+1):Int)/\cm 4 [] [G [g],G [db b2],d2,d3]=J/\Q [G [g],G [db b2],d2,d3]/\I0 CM 3 (bk []) S l8 (cy 71 [(0,bt (BV l)),(lc L),(l7 m r ms),(la tk),(18,bt (BV l)),(19,di (I l:Int)),(20,di (↑(k+1):Int))]) (bh [G [g],G [db b2],d2,d3] [])) ?_
       have hw1:=hw1.resolve_right (fun h=>c4 (by grind))
       rw[hw1]
       rw[hw2]
       exact⟨yr,by omega,BQ hx,Il _,by decide,c1,by decide,by decide,c2,by decide,by decide,c3,c4f,by omega,BQ hy,HP _,rfl,fun τ=>Ha rfl y.1 y.2 x.1 x.2,by grind,c5,szp,(by grind),(by grind),szp,(by grind),(by grind),GJ l hl k hk,G6 hL,by decide,G7 hL,fun o cl fo ho hc=>by grind,rfl,hok b2,rfl,⟨r3⟩⟩
      ·refine lv 71 [] (.t<|.x (cn x)<|.t<|.t<|.t<|.f<|.x (cn y)<|.m (.v (cn x))<|.h (.p (db (!(y.1==x.1&&y.2==x.2))))<|.t<|.c (A4 (l.take k++l.drop (k+1)))<|.h (.oc (.tup []) ⟨[G [.gro 5 (I ws) 2],G [db b2],none,none,G [di x.1,di x.2],G (Ab (ws.map eV))],[]⟩)<|.lo (ju k) ⟨[G [.gro 5 (I ws) 2],G [db b2],none,none,G [di x.1,di x.2],G (Ab (ws.map eV))],[]⟩) (decide ((k:Int)<(I l:Int))=J/\0<=(k:Int)/\(U cn l)[Z (k:Int)]?=G (cn x)/\iz 0<=0/\0<(↑2:Int)/\(x.fst==tk.place)=J/\iz 0<=1/\1<(↑2:Int)/\decide (x.snd>=tk.low)=J/\iz 0<=1/\1<(↑2:Int)/\decide (x.snd<=tk.high)=J/\((k:Int)==0)=O/\0<=yu yt ((k:Int)-1)/\(U cn l)[Z (yu yt ((k:Int)-1))]?=G (cn y)/\2<=2/\Q [di x.fst,di x.snd]/\(∀(τ:St),Ai PP q9 (qi y x.fst x.snd) τ (db !(y.fst==x.fst&&y.snd==x.snd)) τ)/\(yi (True))/\(!(y.fst==x.fst&&y.snd==x.snd))=J/\(∀(x:V),x∈U cn l->V.size x=2)/\0<=(fun x=>x.snd) (fz k)/\(fun x=>x.snd) (fz k)<=(I (U cn l):Int)/\(∀(x:V),x∈U cn l->V.size x=2)/\0<=(fun x=>x.snd) (yt,yu yt ((k:Int)+1))/\(fun x=>x.snd) (yt,yu yt ((k:Int)+1))<=(I (U cn l):Int)/\F0 230 [bt (ai [ai (W 0 (take (Z ((fun x=>x.snd) (fz k))) (U cn l))),ai (W (Z ((fun x=>x.snd) (yt,yu yt ((k:Int)+1)))) (take (I (U cn l)) (U cn l)))])] (A4 (take k l++W (k+1) l))/\(∀(x:V),x∈L->V.size x=3)/\0<=(1:Int)/\(1:Int)<=(I L:Int)/\(N0 [bt kx,A4 (take k l++W (k+1) l),bt (ai (W (Z ((1:Int))) (take (I L) L))),D.dfn 228 [] (DP m r ms)] (bh [G [g],G [db b],d2,d3,G [di x.fst,di x.snd]] []) (bk []) (bh (ou ws b2 x.fst x.snd) []))/\di (yu yt ((k:Int)+1))=di (↑(k+1):Int)/\cm 6 [] (ou ws b2 x.fst x.snd)=J/\Q (ou ws b2 x.fst x.snd)/\I0 CM 3 (bk []) S l8 (cy 71 [(0,bt (BV l)),(lc L),(l7 m r ms),(la tk),(18,bt (BV l)),(19,di (I l:Int)),(20,di (↑(k+1):Int))]) (bh (ou ws b2 x.fst x.snd) [])) ?_
       have hw1:=hw1.resolve_right (fun h=>c4 (by grind))
       rw[hw1]
       rw[hw2]
       exact⟨yr,by omega,BQ hx,Il _,by decide,c1,by decide,by decide,c2,by decide,by decide,c3,c4f,by omega,BQ hy,HP _,rfl,fun τ=>Ha rfl y.1 y.2 x.1 x.2,by grind,c5,szp,(by grind),(by grind),szp,(by grind),(by grind),GJ l hl k hk,G6 hL,by decide,G7 hL,fun o cl fo ho hc=>by grind,rfl,by simp[cm,D.okNs,D.okN,Aj],rfl,⟨Amc (HP 3) x ws b2 rfl rfl r3⟩⟩
     ·have r3:=ihn (by grind[EU])
      refine lv 71 [] (.t<|.x (cn x)<|.t<|.t<|.t<|.f<|.x (cn y)<|.m (.v (cn x))<|.h (.p (db (!(y.1==x.1&&y.2==x.2))))<|.f<|.lo (ju k) ⟨[G [g],G [db b],d2,d3],[]⟩) (decide ((k:Int)<(I l:Int))=J/\0<=(k:Int)/\(U cn l)[Z (k:Int)]?=G (cn x)/\iz 0<=0/\0<(↑2:Int)/\(x.fst==tk.place)=J/\iz 0<=1/\1<(↑2:Int)/\decide (x.snd>=tk.low)=J/\iz 0<=1/\1<(↑2:Int)/\decide (x.snd<=tk.high)=J/\((k:Int)==0)=O/\0<=yu yt ((k:Int)-1)/\(U cn l)[Z (yu yt ((k:Int)-1))]?=G (cn y)/\2<=2/\Q [di x.fst,di x.snd]/\(∀(τ:St),Ai PP q9 (qi y x.fst x.snd) τ (db !(y.fst==x.fst&&y.snd==x.snd)) τ)/\(yi (True))/\(!(y.fst==x.fst&&y.snd==x.snd))=O/\di (yu yt ((k:Int)+1))=di (↑(k+1):Int)/\cm 4 [] [G [g],G [db b],d2,d3]=J/\Q [G [g],G [db b],d2,d3]/\I0 CM 3 (bk []) S l8 (cy 71 [(0,bt (BV l)),(lc L),(l7 m r ms),(la tk),(18,bt (BV l)),(19,di (I l:Int)),(20,di (↑(k+1):Int))]) (bh [G [g],G [db b],d2,d3] [])) ?_
      have hw1:=hw1.resolve_right (fun h=>c4 (by grind))
      rw[hw1]
      exact⟨yr,by omega,BQ hx,Il _,by decide,c1,by decide,by decide,c2,by decide,by decide,c3,c4f,by omega,BQ hy,HP _,rfl,fun τ=>Ha rfl y.1 y.2 x.1 x.2,by grind,HU c5,Ih di hw2,hok b,rfl,⟨r3⟩⟩
   ·have r3:=ihn (by grind[EU])
    exact lv 71 [] (.t<|.x (cn x)<|.t<|.t<|.f<|.lo (ju k) ⟨[G [g],G [db b],d2,d3],[]⟩) (decide ((k:Int)<(I l:Int))=J/\0<=(k:Int)/\(U cn l)[Z (k:Int)]?=G (cn x)/\iz 0<=0/\0<(↑2:Int)/\_/\iz 0<=1/\1<(↑2:Int)/\_/\iz 0<=1/\1<(↑2:Int)/\decide (x.snd<=tk.high)=O/\(yj (True))/\di (yu yt ((k:Int)+1))=di (↑(k+1):Int)/\cm 4 [] [G [g],G [db b],d2,d3]=J/\Q [G [g],G [db b],d2,d3]/\_) ⟨yr,by omega,BQ hx,Il _,by decide,c1,by decide,by decide,c2,by decide,by decide,HU c3,by grind,Ih di hw2,hok b,rfl,iK r3⟩
  ·have r3:=ihn (by grind[EU])
   exact lv 71 [] (.t<|.x (cn x)<|.t<|.f<|.lo (ju k) ⟨[G [g],G [db b],d2,d3],[]⟩) (decide ((k:Int)<(I l:Int))=J/\0<=(k:Int)/\(U cn l)[Z (k:Int)]?=G (cn x)/\iz 0<=0/\0<(↑2:Int)/\_/\iz 0<=1/\1<(↑2:Int)/\decide (x.snd>=tk.low)=O/\yo/\di (yu yt ((k:Int)+1))=di (↑(k+1):Int)/\cm 4 [] [G [g],G [db b],d2,d3]=J/\Q [G [g],G [db b],d2,d3]/\_) ⟨yr,by omega,BQ hx,Il _,by decide,c1,by decide,by decide,HU c2,by grind,Ih di hw2,hok b,rfl,iK r3⟩
 ·have r3:=ihn (by grind[Mc])
  exact lv 71 [] (.t<|.x (cn x)<|.f<|.lo (ju k) ⟨[G [g],G [db b],d2,d3],[]⟩) (decide ((k:Int)<(I l:Int))=J/\0<=(k:Int)/\(U cn l)[Z (k:Int)]?=G (cn x)/\iz 0<=0/\0<(↑2:Int)/\(x.fst==tk.place)=O/\yp/\di (yu yt ((k:Int)+1))=di (↑(k+1):Int)/\cm 4 [] [G [g],G [db b],d2,d3]=J/\Q [G [g],G [db b],d2,d3]/\_) ⟨yr,by omega,BQ hx,Il _,by decide,HU c1,by grind,Ih di hw2,hok b,rfl,iK r3⟩
def Wh(tk:Tk)(l:List (Int×Int))(K:Nat):List (List (Int×Int)):=((List.range K).filter (EU tk l)).map fun k=>l.take k++l.drop (k+1)
theorem AgT{tk:Tk}{l:List (Int×Int)}{k:Nat}(h:EU tk l k=J):Wh tk l (k+1)=Wh tk l k++[l.take k++l.drop (k+1)]:=by grind[Wh,range_succ]
theorem AjR{tk:Tk}{l:List (Int×Int)}{k:Nat}(h:EU tk l k=O):Wh tk l (k+1)=Wh tk l k:=by grind[Wh,range_succ]
theorem AgU(tk:Tk)(l:List (Int×Int))(k:Nat):I (Wh tk l k)<=k:=by
 grind[Wh]
theorem AcE{tk:Tk}{l:List (Int×Int)}{k:Nat}{x:List (Int×Int)}(h:x∈Wh tk l k):I x<=I l:=by
 obtain⟨i,_,rfl⟩:=I2.1 h
 grind
def TH:List Tk->List (Int×Int)->List (List (Int×Int))
 |[],l=>[l]
 |tk::ts,l=>(Wh tk l (I l)).flatMap (TH ts)
def Wg(tk:Tk)(ts:List Tk)(l:List (Int×Int))(k:Nat):List (List (Int×Int)):=(Wh tk l k).flatMap (TH ts)
theorem PY{tk:Tk}{ts:List Tk}{l:List (Int×Int)}{k:Nat}(h:EU tk l k=J):Wg tk ts l (k+1)=Wg tk ts l k++TH ts (l.take k++l.drop (k+1)):=by simp[Wg,AgT h]
theorem AcD{tk:Tk}{ts:List Tk}{l:List (Int×Int)}{k:Nat}(h:EU tk l k=O):Wg tk ts l (k+1)=Wg tk ts l k:=by grind[Wg,AjR]
theorem Wf(tk:Tk)(ts:List Tk)(l:List (Int×Int))(k:Nat):∀n:Nat,I (Wg tk ts l k)<=I (Wg tk ts l (k+n))
 |0=>HP _
 |n+1=>by
  have:=Wf tk ts l k n
  grind[EU,PY,AcD]
theorem Ao7{f:yw}{d:D}{σ':St}{k:List KI}{e:List D}{σ:St}(h:Rn PP f 3 d σ' k e σ):Rn PP f 2 d σ' k e σ:=fun E0 E g a w B hC=>h E0 E g a w B ⟨hC.1,by omega⟩
abbrev v6(r:cf)(ms:List (Int×Int))(L:List (List (Int×Int))):List b9:=L.map fun x=>Ek r.to (x++ms)
def lm(b:Bool)(g:D)(d2:Option (List D))(xs:List b9):List b9->St
 |[]=>⟨[G [g],G [db b],d2],[]⟩
 |z::zs=>FY b (xs++z::zs)
theorem Od{b:Bool}{g:D}{d2:Option (List D)}{xs zs:List b9}(h:zs≠ []):lm b g d2 xs zs=FY b (xs++zs):=by
 cases zs<;>grind[lm]
inductive s9:List b9->D->Option (List D)->Prop where
 |no:s9 [] (.v .nils) none
 |so (x:b9) (xs:List b9):s9 (x::xs) (.gro 2 (I (x::xs)) 2) (G (Ab ((x::xs).map eV)))
theorem s9.ok{xs:List b9}{g:D}{d2:Option (List D)}(h:s9 xs g d2)(b:Bool):cm 3 [] [G [g],G [db b],d2]=J:=by
 cases h<;>grind[cm,D.okNs,D.okN,Aj]
abbrev Aqq(m:cz)(t:cr)(r:cf)(ms:List (Int×Int))(ts:List Tk):Prop:=∀(l:List (Int×Int)),I l<=50->∀(b:Bool) (xs ys:List b9) (b':Bool),ys=v6 r ms (TH ts l)->I xs+I ys<=100000->b'=(b&&ys.all (Ah t))->Aa PP 226 [A4 l,.v (AD ts),Cw m r ms] (ui b xs) (.tup []) (p6 b' xs ys)
theorem AgQ(m:cz)(t:cr)(r:cf)(ms l:List (Int×Int))(hl:I l<=50)(tk:Tk)(ts:List Tk)(hC:Aqq m t r ms ts)(L:List V)(hL:L=(tk::ts).map dh)(xs:List b9)(g:D)(d2:Option (List D))(hG:s9 xs g d2)(b0:Bool)(Y:List b9)(B:Bool)(hY:Y=v6 r ms (Wg tk ts l (I l)))(hz:I xs+I Y<=100000)(hB:B=(b0&&Y.all (Ah t)))(n:Nat):∀(k:Nat) (zs:List b9) (b:Bool),I l-k=n->k<=I l->zs=v6 r ms (Wg tk ts l k)->b=(b0&&zs.all (Ah t))->
  Rn PP CM 3 (.tup []) (lm B g d2 xs Y) ([kl DR [1,1,1,0,0],.blk 0]++[]) (cy 71 [(0,A4 l),(1,.v (.list L)),(2,Cw m r ms),(6,.v (.ref (dh tk))),(18,A4 l),(19,di (I l)),(20,di k)]) (lm b g d2 xs zs):=by
 induction n with
 |zero=>
  intro k zs b hn hk hzs hb
  have e:Y=zs:=by rw[hY,hzs,show k=I l by omega]
  rw[hB,e, ←hb]
  have hok:=hG.ok b
  clear hzs hb hY hB hG
  by_cases hx:zs=[]
  ·subst hx
   show Rn PP CM 3 (.tup []) ⟨[G [g],G [db b],d2],[]⟩ _ _ ⟨[G [g],G [db b],d2],[]⟩
   exact lv 71 [] (.f .ro) (decide ((k:Int)<(I l:Int))=O/\([]:List KI)=[]/\_/\Q [G [g],G [db b],d2]/\Q (bk [])) ⟨yq,rfl,hok,rfl,rfl⟩
  ·rw[Od hx]
   generalize xs++zs=ws
   exact lv 71 [] (.f .ro) (decide ((k:Int)<(I l:Int))=O/\([]:List KI)=[]/\cm 4 [] [G [bm 3 (I ws) 2],G [db b],none,G (ej ws)]=J/\Q [G [bm 3 (I ws) 2],G [db b],none,G (ej ws)]/\Q (bk [])) ⟨yq,rfl,by simp[cm,D.okNs,D.okN,Aj],rfl,rfl⟩
 |succ n ih=>
  intro k zs b hn hkl hzs hb
  obtain⟨x,hx⟩:=yk (show k<I l by omega)
  have hzl:I zs=I (Wg tk ts l k):=by rw[hzs,HH]
  have hYl:I Y=I (Wg tk ts l (I l)):=by rw[hY,HH]
  have hmon:I (Wg tk ts l (k+1))<=I (Wg tk ts l (I l)):=by
   have:=Wf tk ts l (k+1) (I l- (k+1))
   rwa[show k+1+(I l- (k+1))=I l by omega] at this
  have hn':EU tk l k=O->Rn PP CM 3 (.tup []) (lm B g d2 xs Y) ([kl DR [1,1,1,0,0],.blk 0]++[]) (cy 71 [(0,A4 l),(1,.v (.list L)),(2,Cw m r ms),(6,.v (.ref (dh tk))),(18,A4 l),(19,di (I l)),(20,di (k+1:Nat))]) (lm b g d2 xs zs):=fun h=>ih (k+1) zs b (by omega) (by omega) (by rw[AcD h];exact hzs) hb
  have hy':EU tk l k=J->∃ys:List b9,ys=v6 r ms (TH ts (l.take k++l.drop (k+1)))/\xs.length+(I zs+I ys)<=100000/\Rn PP CM 3 (.tup []) (lm B g d2 xs Y) ([kl DR [1,1,1,0,0],.blk 0]++[]) (cy 71 [(0,A4 l),(1,.v (.list L)),(2,Cw m r ms),(6,.v (.ref (dh tk))),(18,A4 l),(19,di (I l)),(20,di (k+1:Nat))]) (lm (b&&ys.all (Ah t)) g d2 xs (zs++ys)):=fun h=>by
   refine⟨_,rfl,?_,ih (k+1) _ _ (by omega) (by omega) (by rw[PY h,hzs];exact IZ.symm) (by rw[hb,List.all_append,Bool.and_assoc])⟩
   rw[PY h,HW] at hmon
   rw[HH];omega
  clear ih hmon
  have hrl:I (l.take k++l.drop (k+1))<=50:=by simp;omega
  by_cases hzn:zs=[]
  ·subst hzn
   refine AnA m r ms l hl tk ts L hL g b d2 k x hx (lm B g d2 xs Y) (fun b=>hG.ok b) (fun h=>?_) hn'
   obtain⟨ys,h1,h2,h3⟩:=hy' h
   have hc:=hC _ hrl b xs ys _ h1 (by simpa using h2) rfl
   generalize (b&&ys.all (Ah t))=b2 at h3 hc
   clear h1 hn' hy' hb hzs
   by_cases hyn:ys=[]
   ·subst hyn
    refine .inl ⟨b2,fun o c fo ho hc'=>?_,h3⟩
    cases hG with
    |no=>exact AlW m r ms _ ts x b b2 ho hc' hc
    |so v vs=>exact AlV m r ms _ ts x (v::vs) [] b b2 ho hc' hc
   ·rw[nil_append,Od hyn] at h3
    refine .inr ⟨b2,xs++ys,fun o c fo ho hc'=>?_,h3⟩
    cases hG with
    |no=>
     rw[Aew hyn] at hc
     exact AoB m r ms _ ts x ys b b2 ho hc' hc
    |so v vs=>
     rw[AiN (by simp) hyn] at hc
     exact AoA m r ms _ ts x (v::vs) ys b b2 ho hc' hc
  ·rw[Od hzn] at hn'⊢
   refine An9 m r ms l hl tk ts L hL (.gro 3 (I (xs++zs)) 2) b none (G (Ab ((xs++zs).map eV))) k x hx (lm B g d2 xs Y) (fun b=>by simp[cm,D.okNs,D.okN,Aj]) (fun h=>?_) hn'
   obtain⟨ys,h1,h2,h3⟩:=hy' h
   have hc:=hC _ hrl b (xs++zs) ys _ h1 (by rw[HW];omega) rfl
   generalize (b&&ys.all (Ah t))=b2 at h3 hc
   have hne:xs++zs≠ []:=by simp[hzn]
   rw[Od (b:=b2) (zs:=zs++ys) (by simp[hzn]), ←IQ] at h3
   clear h1 hn' hy' hb hzs
   by_cases hyn:ys=[]
   ·subst hyn
    rw[ZQ,UG hne,UG hne] at hc
    rw[I8 (xs++zs)] at h3
    exact .inl ⟨b2,fun o c fo ho hc'=>AlU m r ms _ ts x (xs++zs) [] b b2 ho hc' hc,h3⟩
   ·rw[AiN hne hyn,UG hne] at hc
    exact .inr ⟨b2,xs++zs++ys,fun o c fo ho hc'=>Ao9 m r ms _ ts x (xs++zs) ys b b2 ho hc' hc,h3⟩
theorem AcC(m:cz)(t:cr)(hm:G2 m t)(r:cf)(ms:List (Int×Int))(hms:I ms<=50):∀ts:List Tk,Aqq m t r ms ts
 |[]=>fun l hl b xs ys b' hY hz hB=>by
  subst hY hB
  show Aa PP _ _ _ _ (p6 (b&&([Ek r.to (l++ms)]).all (Ah t)) xs [Ek r.to (l++ms)])
  rw[all_cons,List.all_nil,Bool.and_true]
  cases xs with
  |nil=>exact ApD m t hm r ms l hl hms b
  |cons x xs=>exact ApC m t hm r ms l hl hms (x::xs) (by omega) b
 |tk::ts=>fun l hl b xs ys b' hY hz hB=>by
  obtain⟨L,hL⟩:∃L,L=(tk::ts).map dh:=⟨_,rfl⟩
  have hL0:L[0]?=G (dh tk):=by grind
  have hLl:((I L:Int)==0)=O:=Iy.2 (by grind)
  rw[show AD (tk::ts)=.list L by rw[hL]]
  have hlp:=fun g d2 hG=>AgQ m t r ms l hl tk ts (AcC m t hm r ms hms ts) L hL xs g d2 hG b ys b' hY hz hB _ 0 [] b rfl (Iu _) rfl (by simp)
  clear hY hB
  cases xs with
  |nil=>
   have hlp:=Ao7 (hlp _ _ .no)
   show Aa PP _ _ (jf b) _ _
   by_cases hy:ys=[]
   ·subst hy
    have hlp:Rn PP CM 2 (.tup []) (p5 b') _ _ (p5 b):=hlp
    have h:Aa PP 226 [A4 l,.v (.list L),Cw m r ms] (jf b) (.tup []) (p5 b'):=by
     exact sv CM 71 [] (.f<|.x (dh tk)<|.h (.q 3 0)<|.h (.fa 2 [6])<|.lo [ke 0,ke 1,ke 2,ke 6,ch 18 (A4 l),ch 19 (di (I l)),ch 20 (di (0:Nat))] (p5 b)) (_/\iz 0<=0/\_/\Q (A4 l)/\di (I (U cn l):Int)=di (I l:Int)/\Q (di 0)/\cm 3 [] [G [dn],G [db b],none]=J/\Q (p5 b).H/\_) ⟨hLl,Il _,hL0,rfl,by rw[HH],rfl,rfl,rfl,iK hlp⟩
    refine E5 (σ:=jf b) id (show 2<=2 by decide) (fun i hi=>rfl) (fun i j _ _ h=>h) (fun i hi=>by have hi:i<2:=hi;show i<3;omega) (fun i cs hi=>?_) rfl h
    match i,hi with
    |0,hi=>have hi:=Ij (Ij (hi:G (G _)=G (G cs)));subst hi;exact⟨rfl,rfl⟩
    |1,hi=>have hi:=Ij (Ij (hi:G (G _)=G (G cs)));subst hi;exact⟨rfl,rfl⟩
    |i+2,hi=>simp at hi
   ·rw[Od hy,nil_append] at hlp
    rw[Aew hy]
    have h:Aa PP 226 [A4 l,.v (.list L),Cw m r ms] (jf b) (.tup []) (FY b' ys):=by
     exact sv CM 71 [] (.f<|.x (dh tk)<|.h (.q 3 0)<|.h (.fa 2 [6])<|.lo [ke 0,ke 1,ke 2,ke 6,ch 18 (A4 l),ch 19 (di (I l)),ch 20 (di (0:Nat))] (p5 b)) (_/\iz 0<=0/\_/\Q (A4 l)/\di (I (U cn l):Int)=di (I l:Int)/\Q (di 0)/\cm 3 [] [G [dn],G [db b],none]=J/\Q (p5 b).H/\_) ⟨hLl,Il _,hL0,rfl,by rw[HH],rfl,rfl,rfl,iK hlp⟩
    refine E5 (σ:=jf b) (fun i=>if i<2 then i else i+1) (show 2<=3 by decide) (fun i hi=>Ie hi) (fun i j _ _ h=>?_) (fun i hi=>?_) (fun i cs hi=>?_) rfl h
    ·have h:(if i<2 then i else i+1)=(if j<2 then j else j+1):=h
     split at h<;>split at h<;>omega
    ·have hi:i<3:=hi
     show(if i<2 then i else i+1)<4
     split<;>omega
    ·match i,hi with
     |0,hi=>have hi:=Ij (Ij (hi:G (G _)=G (G cs)));subst hi;exact⟨rfl,rfl⟩
     |1,hi=>have hi:=Ij (Ij (hi:G (G _)=G (G cs)));subst hi;exact⟨rfl,rfl⟩
     |2,hi=>have hi:=Ij (Ij (hi:G (G _)=G (G cs)));subst hi;exact⟨by rw[A7 (Ay _)];rfl,Aj _ _ _⟩
     |i+3,hi=>simp at hi
  |cons x xs=>
   have hlp:=hlp _ _ (.so x xs)
   have hne:x::xs≠ []:=by simp
   by_cases hy:ys=[]
   ·subst hy
    rw[ZQ,UG hne]
    have hlp:Rn PP CM 3 (.tup []) (CZ b' (x::xs)) _ _ (CZ b (x::xs)):=hlp
    generalize x::xs=zs at hlp⊢
    exact sv CM 71 [] (.f<|.x (dh tk)<|.h (.q 3 0)<|.h (.fa 3 [6])<|.lo [ke 0,ke 1,ke 2,ke 6,ch 18 (A4 l),ch 19 (di (I l)),ch 20 (di (0:Nat))] (CZ b zs)) (_/\iz 0<=0/\_/\Q (A4 l)/\di (I (U cn l):Int)=di (I l:Int)/\Q (di 0)/\cm 3 [] [G [bm 2 (I zs) 2],G [db b],G (ej zs)]=J/\Q (CZ b zs).H/\_) ⟨hLl,Il _,hL0,rfl,by rw[HH],rfl,by simp[cm,D.okNs,D.okN,Aj],rfl,iK hlp⟩
   ·rw[Od hy] at hlp
    rw[AiN hne hy]
    generalize x::xs=zs at hlp⊢
    exact sv CM 71 [] (.f<|.x (dh tk)<|.h (.q 3 0)<|.h (.fa 3 [6])<|.lo [ke 0,ke 1,ke 2,ke 6,ch 18 (A4 l),ch 19 (di (I l)),ch 20 (di (0:Nat))] (CZ b zs)) (_/\iz 0<=0/\_/\Q (A4 l)/\di (I (U cn l):Int)=di (I l:Int)/\Q (di 0)/\cm 3 [] [G [bm 2 (I zs) 2],G [db b],G (ej zs)]=J/\Q (CZ b zs).H/\_) ⟨hLl,Il _,hL0,rfl,by rw[HH],rfl,by simp[cm,D.okNs,D.okN,Aj],rfl,iK hlp⟩
noncomputable abbrev MZ:=Tryz.f159
noncomputable def RY:=yl MZ
def uv(a b:b9):Bool:=Ar a b==0
def Ew(l:List b9):List b9:=AM uv (sortV l)
theorem Uk(l:List b9):I (Ew l)<=I l:=by
 have:=Nt uv (sortV l)
 rwa[(AR l).length_eq] at this
theorem OZ{l:List b9}{v:b9}(h:v∈Ew l):v∈l:=(AR l).mem_iff.1 (TB h)
theorem TG:∀(ts:List Tk) (l:List (Int×Int)) {x:List (Int×Int)},x∈TH ts l->I x<=I l
 |[],l,x,h=>by grind[TH]
 |tk::ts,l,x,h=>by
  obtain⟨y,hy,h⟩:=List.mem_flatMap.1 h
  exact IE (TG ts y h) (AcE hy)
theorem Wd:∀{ts:List Tk},I ts<=2->∀{l:List (Int×Int)},I l<=20->I (TH ts l)<=20^I ts
 |[],_,l,hl=>by show 1<=1;decide
 |tk::ts,h,l,hl=>by
  have ih:∀L:List (List (Int×Int)),(∀x∈L,I x<=20)->I (L.flatMap (TH ts))<=I L*20^I ts:=by
   intro L
   induction L with
   |nil=>grind
   |cons x L ih=>
    intro hx
    have h1:=Wd (ts:=ts) (by grind) (hx x (by simp))
    grind[Nat.succ_mul]
  have h1:=ih (Wh tk l (I l)) fun x hx=>IE (AcE hx) hl
  grind[AgU,TH,Nat.le_trans]
theorem We{ts:List Tk}(ht:I ts<=2){l:List (Int×Int)}(hl:I l<=20):I (TH ts l)<=400:=
 IE (Wd ht hl) (Nat.pow_le_pow_right (by decide) ht)
def lw(t:cr)(ys:List b9):List b9×Int:=if ys.all (Ah t)=J then(Ew ys,0) else([],1)
theorem Aes(m:cz)(t:cr)(hm:mm m t)(i:Nat)(r:cf)(hi:m.av[i]?=G r)(c:b9)(hs:c.size<=1000)(hv:Ah t c=O):F0 159 [Ad m,di i,dV c] (.tup [cq [],di 17]):=by
 have hil:=(HL.1 hi).1
 have hval:=hm.int.valid c (by omega)
 rw[hv] at hval
 exact sv MZ 77 [3,5] (.c (di 0)<|.k<|.f<|.f<|.f<|.c (db O) .r) (_/\(m.kind !=5)=O/\Y ((i:Int)<0)=O/\Y ((i:Int)>=(I (U Al m.av):Int))=O/\_/\Q (bk [cq [],di 17])) ⟨hm.chk,by rw[hm.kind];rfl,yq,HM (by grind),hval,rfl⟩
theorem ZI(m:cz)(t:cr)(hm:mm m t)(i:Nat)(r:cf)(hi:m.av[i]?=G r)(c:b9)(hs:c.size<=1000)(hv:Ah t c=J)(s0:b9)(h0:c.az[0]?=G s0)(hf:s0.n≠r.aj):F0 159 [Ad m,di i,dV c] (.tup [cq [],di 0]):=by
 have hil:=(HL.1 hi).1
 have hval:=hm.int.valid c (by omega)
 rw[hv] at hval
 exact sv MZ 77 [3,5] (.c (di 0)<|.k<|.f<|.f<|.f<|.c (db J)<|.x (Al r)<|.h (.xs (Ac s0))<|.t .r) (_/\(m.kind !=5)=O/\Y ((i:Int)<0)=O/\Y ((i:Int)>=(I (U Al m.av):Int))=O/\_/\0<=(i:Int)/\(U Al m.av)[Z (i:Int)]?=G (Al r)/\Q 2/\iz 0<=0/\(ce c.az)[Z 0]?=G (Ac s0)/\yp/\(s0.n !=r.aj)=J/\Q (bk [cq [],di 0])) ⟨hm.chk,by rw[hm.kind];rfl,yq,HM (by grind),hval,by omega,Am hi,rfl,Il _,Ap (i:=0) h0,yn,bne_iff_ne.2 hf,rfl⟩
abbrev rC(r:cf):List D:=[.v (.str r.name),di r.aj,di r.to,cx r.am,cx r.ak,cx r.move,di r.chan,di r.act,di r.letter,cx r.path,cx r.next,.v (AD r.ar),cx r.aq,di r.second]
abbrev ft(l:List Int):List (Int×Int):=l.map fun p=>(p,0)
abbrev qu(ms:List Int):List (Nat×Nat×List V):=[(1,2,(ft ms).map cn)]
abbrev vy(r:cf)(l:List Int):St:=⟨[G (rC r),G [.acc 1 ((ft l).map cn)]],qu l⟩
abbrev WS(b:Bool)(xs:List b9)(n:Nat)(ms:List Int):St:=⟨[none,none,G [.gro 4 n 2],G [db b],G (Ab (xs.map eV))],qu ms⟩
abbrev ua(n:Nat)(zs:List b9)(R:List D)(ms:List Int):St:=⟨[none,none,G [.gro 4 n 2],G [db J],G (Ab (zs.map eV)++R)],qu ms⟩
abbrev ApX(n:Nat)(ms:List Int):St:=⟨[none,none,G [.gro 4 n 2],G [db J],none],qu ms⟩
abbrev ny(b:Bool)(ms:List Int):St:=⟨[none,none,G [.v .nils],G [db b]],qu ms⟩
abbrev Sz(m:cz)(r:cf):D:=.dfn 228 [] [.v (.ref (A0 m)),.v (.ref (Al r)),.v (.ref (BV (ft r.aq))),.ptr 2 0,.ptr 3 0]
theorem Aky(F:yx):F0 224 [dl [],dfn F] (dl []):=by
 exact sv mw 66 [] (.t .r) (Y ((I nV:Int)<2)=J/\bt (ai [])=dl []) ⟨by decide,rfl⟩
noncomputable abbrev AoL:=Tryz.f231
theorem ZJ(x y:b9)(hx:x.size<=1000):F0 231 [dV x,dV y] (db (Ar x y==0)):=by
 exact sv AoL 9 [2,3] (.c (di (Ar x y)) .r) (_/\Q (db (Ar x y==0))) ⟨Hl _ x y (HP _) (by omega),rfl⟩
theorem AhO(m:cz)(r:cf)(ps:List (Int×Int)){b b':Bool}{o:yy}{c:Call}{fo:x8}(ho:o.op=.call c)(hc:c.callee=.value fo)
  (h:Aa PP 226 [A4 ps,.v (AD r.ar),Cw m r (ft r.aq)] (jf b) (.tup []) (jf b')):
  Ai PP o [.v (.fn 226 [] []),A4 ps,.v (AD r.ar),Sz m r] (ny b r.aq) (.tup []) (ny b' r.aq):=
 B3 (σ:=ny b r.aq) ho hc (fD:=.v (.fn 226 [] [])) (fs:=[]) (cs:=[]) (ds:=[A4 ps,.v (AD r.ar),Sz m r]) rfl [2,3] id h
  (AI rfl rfl) (.cons rfl (AI rfl rfl) rfl (.cons rfl (AI rfl rfl) rfl .nil)) (by decide) rfl (by simp) (by simp) rfl rfl
theorem AhP(m:cz)(r:cf)(ps:List (Int×Int)){b b':Bool}{ys:List b9}{o:yy}{c:Call}{fo:x8}(ho:o.op=.call c)(hc:c.callee=.value fo)
  (h:Aa PP 226 [A4 ps,.v (AD r.ar),Cw m r (ft r.aq)] (jf b) (.tup []) (CZ b' ys)):
  Ai PP o [.v (.fn 226 [] []),A4 ps,.v (AD r.ar),Sz m r] (ny b r.aq) (.tup []) (WS b' ys (I ys) r.aq):=by
 have h2:=B3 (σ:=ny b r.aq) ho hc (fD:=.v (.fn 226 [] [])) (fs:=[]) (cs:=[]) (ds:=[A4 ps,.v (AD r.ar),Sz m r]) rfl [2,3] id h
  (AI rfl rfl) (.cons rfl (AI rfl rfl) rfl (.cons rfl (AI rfl rfl) rfl .nil)) (by decide) rfl (by simp) (by simp) rfl (by simp[cm,D.okNs,D.okN,Aj])
 have e:CO (ez 4 [2,3]) id (CZ b' ys).H=[G [.gro 4 (I ys) 2],G [db b'],G (Ab (ys.map eV))]:=by
  show [G _,G _,G (D.rens _ _ (Ab (ys.map eV)))]=_
  rw[A7 (Ay _)];rfl
 have h2:Ai PP o _ _ _ ⟨Cy _ _ (CO (ez 4 [2,3]) id (CZ b' ys).H),_⟩:=h2
 rw[e] at h2
 exact h2
theorem AlP(ys:List b9)(hl:I ys<=1000)(hs:∀v∈ys,v.size<=1000000)(ms:List Int){o:yy}{c:Call}{fo:x8}(ho:o.op=.call c)(hc:c.callee=.value fo):
  Ai PP o [.v (.fn 40 [] []),.arr 4 0 (I ys),dfn 41] (WS true ys (I ys) ms) (.tup []) (WS true (sortV ys) (I ys) ms):=by
 have h2:=B3 (σ:=WS true ys (I ys) ms) ho hc (fD:=.v (.fn 40 [] [])) (fs:=[]) (cs:=[]) (ds:=[.arr 4 0 (I ys),dfn 41]) rfl [4] id (Ge ys (by omega) hs)
  (AI rfl rfl) (.cons rfl (AI (Aj _ _ _) (A7 (Ay _)).symm) (CV _) .nil) (by decide) rfl (by simp) (by simp) rfl (by grind[cm,Aj])
 have e:CO (ez 5 [4]) id [G (Ab ((sortV ys).map eV))]=[G (Ab ((sortV ys).map eV))]:=by
  grind[A7,Ay,CO]
 have h2:Ai PP o _ _ _ ⟨Cy _ _ (CO (ez 5 [4]) id [G (Ab ((sortV ys).map eV))]),_⟩:=h2
 rw[e] at h2
 exact h2
theorem AlT(xs zs:List b9)(n:Nat)(R:List D)(ms:List Int)(hR:D.pls R=J)(hn:I xs=n){F:yx}{o:yy}{c:Call}{fo:x8}(ho:o.op=.call c)(hc:c.callee=.value fo)
  (h:Aa PP 224 [.arr 0 0 (I xs),dfn F] ⟨[G (Ab (xs.map eV))],[]⟩ (.arr 0 0 (I zs)) ⟨[G (Ab (zs.map eV)++R)],[]⟩):
  Ai PP o [.v (.fn 224 [] []),.arr 4 0 n,dfn F] (WS true xs n ms) (.arr 4 0 (I zs)) (ua n zs R ms):=by
 subst hn
 have h2:=B3 (σ:=WS true xs (I xs) ms) ho hc (fD:=.v (.fn 224 [] [])) (fs:=[]) (cs:=[]) (ds:=[.arr 4 0 (I xs),dfn F]) rfl [4] id h
  (AI rfl rfl) (.cons rfl (AI (Aj _ _ _) (A7 (Ay _)).symm) (CV _) .nil) (by decide) rfl (by simp) (by simp) rfl (Ia.2 ⟨AO (TR _ hR),rfl⟩)
 have e:CO (ez 5 [4]) id [G (Ab (zs.map eV)++R)]=[G (Ab (zs.map eV)++R)]:=by
  grind[A7,TR,CO]
 have h2:Ai PP o _ _ _ ⟨Cy _ _ (CO (ez 5 [4]) id [G (Ab (zs.map eV)++R)]),_⟩:=h2
 rw[e] at h2
 exact h2
noncomputable abbrev xv:=(Oper.mk (G 69) (Op.makeFunc (Fn.func 228) #[] #[Operand.tmp 3,Operand.tmp 9,Operand.tmp 10,Operand.tmp 13,Operand.tmp 14]) 232 "timed.go:83" #[] none)
noncomputable abbrev xx:=fun a₀ b₀ c₀=>[bt (bz (A0 a₀)),bt (bz (Al b₀)),bt (bz (ai (U cn (ft c₀)))),bq 2 0,bq 3 0]
noncomputable abbrev w0:=(Oper.mk (G 68) (Op.load 50 (Operand.tmp 67)) 50 "timed.go:83" #[Edge.mk 2 Ground.data] none)
noncomputable abbrev w6:=(Oper.mk (G 67) (Op.fieldAddr 52 (Operand.tmp 9) 11) 0 "timed.go:83" #[] none)
noncomputable abbrev wb:=fun a₀=>(bh [none,none,G [dn],G [db J]] [(1,2,U cn (ft a₀))])
theorem ZH(m:cz)(t:cr)(hm:mm m t)(r:cf)(hmk:I r.aq<=50)(htl:I r.ar<=2)(c:b9)(ps:List (Int×Int))(hps:I ps<=20)(htk:F0 227 [dV c] (A4 ps))(ys:List b9)(hY:ys=(TH r.ar ps).map fun x=>Ek r.to (x++ft r.aq))(p:List b9×Int)(hp:p=lw t ys):
  ∀(n k:Nat),I r.aq-k=n->Rn PP MZ 0 (.tup [cq p.1,di p.2]) ba ([kl RY [1,1,1,1,1,1,0,1,0,0],.blk 1,kc RY [1,1,1,1,1,1,1]]++[]) (cy 77 [(3,.v (.ref (A0 m))),(5,.v (.ref (Ac c))),(9,.ptr 0 0),(10,.ptr 1 0),(53,cx r.aq),(54,di (I r.aq)),(55,di k)]) (vy r (r.aq.take k)):=by
 suffices hz:∀(k:Nat),I r.aq-k=0->Rn PP MZ 0 (.tup [cq p.1,di p.2]) ba ([kl RY [1,1,1,1,1,1,0,1,0,0],.blk 1,kc RY [1,1,1,1,1,1,1]]++[]) (cy 77 [(3,.v (.ref (A0 m))),(5,.v (.ref (Ac c))),(9,.ptr 0 0),(10,.ptr 1 0),(53,cx r.aq),(54,di (I r.aq)),(55,di k)]) (vy r r.aq) by
  intro n
  induction n with
  |zero=>
   intro k hn
   have:=hz k hn
   rw[Im (by omega)];omega
  |succ n ih=>
   intro k hn
   obtain⟨x,hx⟩:∃x,r.aq[k]?=G x:=⟨_,HI (show k<I r.aq by omega)⟩
   have hr:=ih (k+1) (by omega)
   have e:(ft (r.aq.take k)).map cn++[ab [vi x,vi 0]]=(ft (r.aq.take (k+1))).map cn:=by
    rw[IW,hx];simp
   refine lv 77 [3,5] (.t<|.x (vi x)<|.lo [ke 3,ke 5,ke 9,ke 10,ke 53,ke 54,ch 55 (di (k+1:Nat))] (vy r (r.aq.take (k+1)))) (Y ((k:Int)<(I r.aq:Int))=J/\0<=(k:Int)/\(cc r.aq)[Z (k:Int)]?=G (vi x)/\Q (U cn (ft (take k r.aq)))/\Ao (I (U cn (ft (take k r.aq)))+I (ab (vi x::aa yt 0::nV)::nV)) 16/\di (yu yt ((k:Int)+1))=di (↑(k+1):Int)/\cm 2 [1] [G (rC r),G [br 1 (U cn (ft (take k r.aq))++[ab [vi x,vi 0]])]]=J/\[G (rC r),G [br 1 (U cn (ft (take k r.aq))++ab (vi x::vi 0::nV)::nV)]]=[G (rC r),G [br 1 (U cn (ft (take (k+1) r.aq)))]]/\[(1,2,U cn (ft (take k r.aq))++ab (vi x::vi 0::nV)::nV)]=[(1,2,U cn (ft (take (k+1) r.aq)))]/\I0 MZ 0 (bk [cq p.fst,di p.snd]) ba [kl RY [1,1,1,1,1,1,0,1,0,0],bf 1,kc RY [1,1,1,1,1,1,1]] (cy 77 [(3,bt (gd m)),(5,bt (jy c)),(9,bq 0 0),(10,bq 1 0),(53,cx r.aq),(54,di (I r.aq:Int)),(55,di (↑(k+1):Int))]) (vy r (take (k+1) r.aq))) ?_
   rw[e]
   exact⟨yr,by omega,by simp_all,rfl,⟨by simp only[HH,Ip,HN,HR];omega,by simp only[HH,Ip,HN,HR];omega⟩,Ae,rfl,rfl,rfl,⟨hr⟩⟩
 have h1:I ys<=400:=by grind[We]
 have h2:∀v∈ys,v.size<=1000:=fun v hv=>by
  rw[hY] at hv
  obtain⟨x,hx,rfl⟩:=I2.1 hv
  have:=TG _ _ hx
  grind[N3]
 have h3:=AcC m t hm.int r (ft r.aq) (by grind) r.ar ps (by omega) true [] ys (ys.all (Ah t)) hY (by grind) (by simp)
 unfold lw at hp
 clear hY
 intro k hn
 cases hb:ys.all (Ah t) with
 |false=>
  rw[hb] at h3 hp
  subst hp
  clear hb
  show Rn PP MZ 0 (.tup [cq [],di 1]) ba _ _ _
  by_cases hy:ys=[]
  ·subst hy
   exact lv 77 [3,5] (.f<|.h (.q 20 0)<|.h (.fa 0 [9])<|.h (.f1 1 [10])<|.c (A4 ps)<|.h (.p (.v (.ref (AD r.ar))))<|.h (.p (.v (AD r.ar)))<|.h (.p (Sz m r))<|.h (.oc (.tup []) (ny false r.aq))<|.k<|.r) (Y ((k:Int)<(I r.aq:Int))=O/\_/\(∀(τ:St),Ai PP w6 [bt (bz (Al r))] τ (bt (bz (AD r.ar))) τ)/\(∀(τ:St),Ai PP w0 [bt (bz (AD r.ar))] τ (bt (AD r.ar)) τ)/\(∀(τ:St),Ai PP xv (xx m r r.aq) τ (Sz m r) τ)/\(N0 [bt kx,A4 ps,bt (AD r.ar),Sz m r] (wb r.aq) (bk []) (ny false r.aq))/\Q (bk [cq [],di 1])) ⟨yq,htk,fun τ=>FT rfl (fo:=11) (n:=1) (b:=false) (by kernel_rfl) (by decide) (fun _=>rfl) rfl,fun τ=>FS rfl (by rfl) rfl,fun τ=>FG rfl rfl,fun o cl fo ho hc=>AhO m r ps ho hc h3,rfl⟩
  ·rw[Aew hy] at h3
   exact lv 77 [3,5] (.f<|.h (.q 20 0)<|.h (.fa 0 [9])<|.h (.f1 1 [10])<|.c (A4 ps)<|.h (.p (.v (.ref (AD r.ar))))<|.h (.p (.v (AD r.ar)))<|.h (.p (Sz m r))<|.h (.oc (.tup []) (WS false ys (I ys) r.aq))<|.k<|.r) (Y ((k:Int)<(I r.aq:Int))=O/\_/\(∀(τ:St),Ai PP w6 [bt (bz (Al r))] τ (bt (bz (AD r.ar))) τ)/\(∀(τ:St),Ai PP w0 [bt (bz (AD r.ar))] τ (bt (AD r.ar)) τ)/\(∀(τ:St),Ai PP xv (xx m r r.aq) τ (Sz m r) τ)/\(N0 [bt kx,A4 ps,bt (AD r.ar),Sz m r] (wb r.aq) (bk []) (WS false ys (I ys) r.aq))/\Q (bk [cq [],di 1])) ⟨yq,htk,fun τ=>FT rfl (fo:=11) (n:=1) (b:=false) (by kernel_rfl) (by decide) (fun _=>rfl) rfl,fun τ=>FS rfl (by rfl) rfl,fun τ=>FG rfl rfl,fun o cl fo ho hc=>AhP m r ps ho hc h3,rfl⟩
 |true=>
  rw[hb] at h3 hp
  subst hp
  clear hb
  by_cases hy:ys=[]
  ·subst hy
   rw[show Ew []=[] by simp[Ew,sortV,AM]]
   show Rn PP MZ 0 (.tup [cq [],di 0]) ba _ _ _
   refine lv 77 [3,5] (.f<|.h (.q 20 0)<|.h (.fa 0 [9])<|.h (.f1 1 [10])<|.c (A4 ps)<|.h (.p (.v (.ref (AD r.ar))))<|.h (.p (.v (AD r.ar)))<|.h (.p (Sz m r))<|.h (.oc (.tup []) (ny true r.aq))<|.k<|.c (.tup [])<|.c (dl []) .r) (Y ((k:Int)<(I r.aq:Int))=O/\F0 227 [dV c] (A4 ps)/\(∀(τ:St),Ai PP w6 [bt (bz (Al r))] τ (bt (bz (AD r.ar))) τ)/\(∀(τ:St),Ai PP w0 [bt (bz (AD r.ar))] τ (bt (AD r.ar)) τ)/\(∀(τ:St),Ai PP xv (xx m r r.aq) τ (Sz m r) τ)/\(N0 [bt kx,A4 ps,bt (AD r.ar),Sz m r] (wb r.aq) (bk []) (ny true r.aq))/\F0 40 [bt (ai []),bt ov] (bk [])/\F0 224 [bt (ai []),bt (bw 231 [] [])] (dl [])/\bk pp=bk [cq [],di 0]) ?_
   exact⟨yq,htk,fun τ=>FT rfl (fo:=11) (n:=1) (b:=false) (by kernel_rfl) (by decide) (fun _=>rfl) rfl,fun τ=>FS rfl (by rfl) rfl,fun τ=>FG rfl rfl,fun o cl fo ho hc=>AhO m r ps ho hc h3,Ml,Aky _,rfl⟩
  ·rw[Aew hy] at h3
   obtain⟨R,c3,_,c4⟩:=Aob 231 (sortV ys) uv (by rw[(AR ys).length_eq];omega) (fun x hx y hy=>ZJ x y (h2 x ((AR ys).mem_iff.1 hx)))
   rw[show AM uv (sortV ys)=Ew ys from rfl] at c4
   generalize Ew ys=zs at c4⊢
   show Rn PP MZ 0 (.tup [cq zs,di 0]) ba _ _ _
   exact lv 77 [3,5] (.f<|.h (.q 20 0)<|.h (.fa 0 [9])<|.h (.f1 1 [10])<|.c (A4 ps)<|.h (.p (.v (.ref (AD r.ar))))<|.h (.p (.v (AD r.ar)))<|.h (.p (Sz m r))<|.h (.oc (.tup []) (WS true ys (I ys) r.aq))<|.k<|.h (.q 24 1)<|.h (.ga 73)<|.h (.oc (.tup []) (WS true (sortV ys) (I ys) r.aq))<|.h (.q 25 1)<|.h (.ga 75)<|.h (.oc (.arr 4 0 (I zs)) (ua (I ys) zs R r.aq))<|.h (.q 25 2)<|.h (.ct 76 (cq zs) (ApX (I ys) r.aq)) .r) (Y ((k:Int)<(I r.aq:Int))=O/\_/\(∀(τ:St),Ai PP w6 [bt (bz (Al r))] τ (bt (bz (AD r.ar))) τ)/\(∀(τ:St),Ai PP w0 [bt (bz (AD r.ar))] τ (bt (AD r.ar)) τ)/\(∀(τ:St),Ai PP xv (xx m r r.aq) τ (Sz m r) τ)/\(N0 [bt kx,A4 ps,bt (AD r.ar),Sz m r] (wb r.aq) (bk []) (WS true ys (I ys) r.aq))/\(N0 [bt Asg,bo 4 0 (I ys),bt ov] (bh [none,none,G [bm 4 (I ys) 2],G [db J],G (ej ys)] (qu r.aq)) (bk []) (WS true (sortV ys) (I ys) r.aq))/\(N0 [bt (bw 224 [] []),bo 4 0 (I ys),bt (bw 231 [] [])] (WS true (sortV ys) (I ys) r.aq) (bo 4 0 (I zs)) (ua (I ys) zs R r.aq))/\(∀(e:List D),e[76]?=G (bo 4 0 (I zs))->∀(E:cd) (g:Gh) (a:Act) (w:x5),FI E g (ua (I ys) zs R r.aq) e a w->∃g',FI E g' (ApX (I ys) r.aq) (List.set e 76 (cq zs)) a w)/\Q (bk [cq zs,di 0])) ⟨yq,htk,fun τ=>FT rfl (fo:=11) (n:=1) (b:=false) (by kernel_rfl) (by decide) (fun _=>rfl) rfl,fun τ=>FS rfl (by rfl) rfl,fun τ=>FG rfl rfl,fun o cl fo ho hc=>AhP m r ps ho hc h3,fun o cl fo ho hc=>AlP ys (by omega) (fun v hv=>by grind) r.aq ho hc,fun o cl fo ho hc=>AlT (sortV ys) zs (I ys) R r.aq c3 (AR ys).length_eq ho hc c4,fun e he=>T9 (σ:=ua (I ys) zs R r.aq) (q:=4) (sz:=2) (by decide) (Da _) (by rw[HH]) rfl he,rfl⟩
def nr(r:cf)(c:b9):List b9:=(TH r.ar (Qo (c.az.getD 1 e6))).map fun x=>Ek r.to (x++ft r.aq)
def Q8(t:cr)(r:cf)(c:b9):List b9×Int:=if Ah t c=J then(if (c.az.getD 0 e6).n=r.aj then lw t (nr r c) else([],0)) else([],17)
theorem Z8{r:cf}{c:b9}(hc:wv c)(hr:I r.ar<=2/\r.aq.length<=1):I (nr r c)<=400/\∀v∈nr r c,v.size<=1000:=by
 obtain⟨b,hb⟩:∃x,c.az[1]?=G x:=⟨_,HI (by rw[hc.len];omega)⟩
 have hb12:=hc.few b hb
 have e1:c.az.getD 1 e6=b:=by grind
 have hpl:=Py b
 rw[nr,e1]
 refine⟨by grind[We],fun v hv=>?_⟩
 obtain⟨x,hx,rfl⟩:=I2.1 hv
 have:=TG _ _ hx
 grind[N3]
theorem Z9{t:cr}{r:cf}{c:b9}(hc:Ah t c=J->wv c)(hr:I r.ar<=2/\r.aq.length<=1):(Q8 t r c).1.length<=400/\∀v∈ (Q8 t r c).1,v.size<=1000:=by
 grind[Q8,lw,Z8,Uk,OZ]
theorem ZG(m:cz)(t:cr)(hm:mm m t)(i:Nat)(r:cf)(hi:m.av[i]?=G r)(c:b9)(hs:c.size<=1000):F0 159 [Ad m,di i,dV c] (.tup [cq (Q8 t r c).1,di (Q8 t r c).2]):=by
 have hir:=(HL.1 hi).1
 unfold Q8
 cases hv:Ah t c with
 |false=>grind[Aes]
 |true=>
  have hsh:=hm.shape c hv
  obtain⟨s0,h0⟩:∃x,c.az[0]?=G x:=⟨_,HI (by rw[hsh.len];omega)⟩
  obtain⟨b,hb⟩:∃x,c.az[1]?=G x:=⟨_,HI (by rw[hsh.len];omega)⟩
  have e0:c.az.getD 0 e6=s0:=by rw[HQ,h0];rfl
  have e1:c.az.getD 1 e6=b:=by rw[HQ,hb];rfl
  rw[e0]
  by_cases hf:s0.n=r.aj
  ·rw[Ie hf]
   have hb12:=hsh.few b hb
   have hru:=hm.rule r (HO hi)
   have hpl:=Py b
   have ht:=UB c b hb (by omega) (Qo b) hpl (Aa9 b fun v hv=>hsh.toks b v hb hv)
   have p3:=ZH m t hm r (by omega) hru.1 c (Qo b) (by omega) ht (nr r c) (by rw[nr,e1]) _ rfl
   generalize lw t (nr r c)=p at p3⊢
   have hil:=hir
   have hval:=hm.int.valid c (by omega)
   rw[hv] at hval
   exact sv MZ 77 [3,5] (.c (di 0)<|.k<|.f<|.f<|.f<|.c (db J)<|.x (Al r)<|.h (.xs (Ac s0))<|.f<|.h (.q 14 0)<|.h (.cl 1 0 1 2)<|.lo [ke 3,ke 5,ke 9,ke 10,ch 53 (cx r.aq),ch 54 (di (I r.aq)),ch 55 (di (0:Nat))] (vy r [])) (_/\(m.kind !=5)=O/\Y ((i:Int)<0)=O/\Y ((i:Int)>=(I (U Al m.av):Int))=O/\_/\0<=(i:Int)/\(U Al m.av)[Z (i:Int)]?=G (Al r)/\Q 2/\iz 0<=0/\(ce c.az)[Z 0]?=G (Ac s0)/\yp/\(s0.n !=r.aj)=O/\Q (cx r.aq)/\di (I (cc r.aq):Int)=di (I r.aq:Int)/\Q (di 0)/\cm 2 [1] [G [bt (ae r.name),di r.aj,di r.to,cx r.am,cx r.ak,cx r.move,di r.chan,di r.act,di r.letter,cx r.path,cx r.next,bt (AD r.ar),cx r.aq,di r.second],G [br 1 []]]=J/\Q [G (rC r),G [br 1 nV]]/\Q [(1,2,nV)]/\_) ⟨hm.chk,by rw[hm.kind];rfl,yq,HM (by rw[HH];omega),hval,by omega,Am hi,rfl,Il _,Ap (i:=0) h0,yn,by rw[hf];exact bne_self_eq_false _,rfl,by rw[HH],rfl,rfl,rfl,rfl,iK (p3 _ 0 rfl)⟩
  grind[ZI]
theorem Adg{ap:Int->List b9×Int}{Q:cb->Prop}(hq:∀i,∀v∈ (ap i).1,Q (i,v)):∀(n:Nat) (i:Int) (acc:List cb),(∀s∈acc,Q s)->(CX ap n i acc).1.length<=256/\∀s∈ (CX ap n i acc).1,Q s
 |0,i,acc,ha=>by
  grind[CX]
 |n+1,i,acc,ha=>by
  rw[CX]
  split
  ·grind
  ·exact Adg hq n (i+1) (acc++(ap i).1.map fun v=>(i,v)) (fun s hs=>by
    grind)
def xq(p:List b9×Int):Prop:=I p.1<=1000/\∀v∈p.1,v.size<=1000
theorem Af2{p:b9×Int}(h:p.1.size<=1000):xq (Cu p):=by
 grind[Cu,xq]
structure ml(m:cz)(t:cr)(ap:b9->Int->List b9×Int):Prop where
 int:G2 m t
 chk:F0 84 [Ad m] (di 0)
 kind:m.kind≠6
 few:I m.av<=12
 bp:∀c:b9,Ah t c=J->∀i:Int,xq (ap c i)
 beh:∀c:b9,c.size<=1000->Ah t c=J->∀i:Int, -1<=i->i<I m.av->F0 91 [Ad m,di i,dV c] (dq (ap c i))
theorem Ao4{m:cz}{t:cr}{ap:b9->Int->List b9×Int}(hm:ml m t ap):F0 141 [Ad m] (di 0):=by
 exact sv AjB 12 [1] (.c (di 0)<|.k<|.f .r) (_/\(m.kind==6)=O/\Q (di 0)) ⟨hm.chk,Iy.2 hm.kind,rfl⟩
theorem Ao5{m:cz}{t:cr}{ap:b9->Int->List b9×Int}(hm:ml m t ap)(c:b9)(hs:c.size<=1000):F0 90 [Ad m,dV c] (di (if Ah t c=J then 0 else 17)):=by
 have h1:=hm.int.valid c (by omega)
 cases hv:Ah t c with
 |true=>
  refine sv Ago 15 [2,3] (.c (di 0)<|.c (db J) .r) (tl m/\tg m c/\Q (di 0)) ?_
  grind[Ao4]
 |false=>
  refine sv Ago 15 [2,3] (.c (di 0)<|.c (db O) .r) (tl m/\F0 47 [Ad m,dV c] (db O)/\Q (di 17)) ?_
  grind[Ao4]
def QG(m:cz)(t:cr)(ap:b9->Int->List b9×Int)(c:b9):List cb×Int:=if Ah t c=J then CX (ap c) (I m.av+1) (-1) [] else([],17)
theorem Al7{m:cz}{t:cr}{ap:b9->Int->List b9×Int}(hm:ml m t ap)(c:b9)(hs:c.size<=1000):((QG m t ap c).1.length<=256/\∀s∈ (QG m t ap c).1,s.2.size<=1000)/\F0 50 [Ad m,dV c] (fw (QG m t ap c)):=by
 have hc:=Ao5 hm c hs
 unfold QG
 cases hv:Ah t c with
 |false=>
  rw[hv] at hc
  have hc:F0 90 [Ad m,dV c] (di 17):=hc
  rw[HZ (by decide)]
  refine⟨⟨by simp,by simp⟩,?_⟩
  exact sv GH 53 [2,3] (.c (di 17) .r) (_/\bk [bt (ai []),di 17]=fw ([],17)) ⟨hc,rfl⟩
 |true=>
  rw[hv] at hc
  have hc:F0 90 [Ad m,dV c] (di 0):=hc
  rw[Ie rfl]
  have hb:=hm.bp c hv
  have hap:=fun i h1 h2=>hm.beh c hs hv i h1 h2
  generalize ap c=ap at hb hap⊢
  refine⟨Adg (ap:=ap) (Q:=fun s=>s.2.size<=1000) (fun i v hv=>(hb i).2 v hv) (I m.av+1) (-1) [] (by simp),?_⟩
  refine sv GH 53 [2,3] (.c (di 0)<|.h (.q 5 0)<|.h (.nw 7 1 3)<|.ls tx (FF [])) (_/\Q (di (-1))/\Q [(1,3,nV)]/\I0 GH (I ba.H) (fw (CX ap (I m.av+1) (-1) [])) ba [kl Dm gb,bf 0,kc Dm [1,1,1,1]] (cy 53 (te m c)) (FF [])) ⟨hc,rfl,rfl,⟨?_⟩⟩
  exact Mo m hm.few c ap (fun i=>(hb i).1) (fun i h1 h2=>hap i h1 h2) (I m.av+1) (-1) [] (by omega) (by omega) (by omega) (by simp)
theorem Aqw{m:cz}{c:b9}(hk:m.kind=2∨m.kind=3){l:List b9}(hl:F0 214 [Ad m,dV c] (dq (l,0))):F0 155 [Ad m,dV c] (cq l):=by
 rcases hk with hk|hk
 ·refine sv uj 31 [2,3] (.t<|.c (dq (l,0)) .r) ((m.kind==2)=J/\F0 214 [Ad m,dV c] (dq (l,0))/\bt (dt (l,0).fst)=cq l) ?_
  grind
 ·refine sv uj 31 [2,3] (.f<|.t<|.c (dq (l,0)) .r) ((m.kind==2)=O/\(m.kind==3)=J/\F0 214 [Ad m,dV c] (dq (l,0))/\bt (dt (l,0).fst)=cq l) ?_
  grind
theorem Aqv{m:cz}{c:b9}(hk:m.kind=5){v:b9}(hl:F0 215 [Ad m,dV c] (.tup [dV v,di 0])):F0 155 [Ad m,dV c] (cq [v]):=by
 refine sv uj 31 [2,3] (.f<|.f<|.t<|.c (.tup [dV v,di 0]) .r) ((m.kind==2)=O/\(m.kind==3)=O/\(m.kind==5)=J/\F0 215 [Ad m,dV c] (bk [dV v,di 0])/\bt (ai [ab [vi v.n,dt v.az]])=cq [v]) ?_
 grind[AH]
theorem Ais{m:cz}{c:b9}{l:List b9}(h:F0 155 [Ad m,dV c] (cq l)):F0 91 [Ad m,di (-1),dV c] (dq (l,0)):=by
 refine sv p9 56 [3,5] (.c (cq l) .r) (F0 155 [Ad m,dV c] (cq l)/\bk [cq l,di 0]=dq (l,0)) ?_
 grind
theorem AqU{m:cz}(hk:m.kind=2∨m.kind=3)(i:Nat)(c:b9)(p:b9×Int)(hp:F0 160 [Ad m,di i,dV c] (dP p)):F0 91 [Ad m,di i,dV c] (dq (Cu p)):=by
 refine sv p9 56 [3,5] (.f<|.f<|.f<|.f<|.c (dP p)<|.c (dq (Cu p)) .r) (((i:Int)== -1)=O/\(m.kind==1)=O/\(m.kind==4)=O/\(m.kind==5)=O/\F0 160 [Ad m,di (i:Int),dV c] (dP p)/\F0 156 [dV p.fst,di p.snd] (dq (Cu p))/\bk [bt (dt (Cu p).fst),di (Cu p).snd]=dq (Cu p)) ?_
 grind[Mk]
theorem AqT{m:cz}(hk:m.kind=5)(i:Nat)(c:b9)(p:List b9×Int)(hp:F0 159 [Ad m,di i,dV c] (dq p)):F0 91 [Ad m,di i,dV c] (dq p):=by
 refine sv p9 56 [3,5] (.f<|.f<|.f<|.t<|.c (dq p) .r) (((i:Int)== -1)=O/\(m.kind==1)=O/\(m.kind==4)=O/\(m.kind==5)=J/\F0 159 [Ad m,di (i:Int),dV c] (dq p)/\bk [cq p.fst,di p.snd]=dq p) ?_
 grind
def i5(m:cz)(t:cr)(c:b9)(i:Int):List b9×Int:=if i<0 then(sortV (fk m c (I m.ay)),0) else match m.av[i.toNat]? with
 |some r=>Cu (YP t r c)
 |none=>([],0)
theorem n9.st{m:cz}{t:cr}(hm:n9 m t)(hr:I m.au<=1000):ml m t (i5 m t):=by
 refine⟨hm.int,hm.chk,by rcases hm.kind with h|h<;>(rw[h];decide),hm.few.1,fun c hv i=>?_,fun c hs hv i h1 h2=>?_⟩
 ·have hsh:=hm.shape c hv
  have hl:=hsh.len
  have h2:=hm.few.2
  unfold i5
  split
  ·have hlen:=PE m c (I m.ay)
   refine⟨by show(sortV _).length<=1000;rw[(AR _).length_eq];omega,fun v hv=>?_⟩
   have:=PD hsh.size (by omega) ((AR _).mem_iff.1 hv)
   omega
  ·split
   ·rename_i r hr
    have:=hsh.size
    exact Af2 (Wn m t hm _ r hr c (by omega)).1
   ·exact⟨by simp,by simp⟩
 ·unfold i5
  by_cases h0:i<0
  ·have:i= -1:=by omega
   subst this
   exact Ais (Aqw hm.kind (AfK m t hm hr c hv))
  ·obtain⟨k,rfl⟩:∃k:Nat,i=k:=⟨i.toNat,by omega⟩
   have hk:k<I m.av:=by omega
   have hr:m.av[k]?=G m.av[k]:=HI hk
   rw[HZ h0,show((k:Nat):Int).toNat=k by omega,hr]
   exact AqU hm.kind k c _ (Wn m t hm k _ hr c hs).2
def S1(m:cz)(t:cr)(c:b9)(i:Int):List b9×Int:=if i<0 then([nu m c],0) else match m.av[i.toNat]? with
 |some r=>Q8 t r c
 |none=>([],0)
theorem mm.st{m:cz}{t:cr}(hm:mm m t):ml m t (S1 m t):=by
 refine⟨hm.int,hm.chk,by rw[hm.kind];decide,hm.few,fun c hv i=>?_,fun c hs hv i h1 h2=>?_⟩
 ·unfold S1
  split
  ·grind[UD,xq]
  ·split
   ·rename_i r hr
    have:=Z9 (t:=t) (r:=r) (fun _=>hm.shape c hv) (hm.rule r (HO hr))
    exact⟨by omega,this.2⟩
   ·exact⟨by simp,by simp⟩
 ·unfold S1
  by_cases h0:i<0
  ·have:i= -1:=by omega
   subst this
   exact Ais (Aqv hm.kind (UD m t hm c hv).2)
  ·obtain⟨k,rfl⟩:∃k:Nat,i=k:=⟨i.toNat,by omega⟩
   have hk:k<I m.av:=by omega
   have hr:m.av[k]?=G m.av[k]:=HI hk
   rw[HZ h0,show((k:Nat):Int).toNat=k by omega,hr]
   exact AqT hm.kind k c _ (ZG m t hm k _ hr c hs)
def dx(s:Int)(ws:List (List Int)):b9:=.mk 0 (lf s::ws.map dy)
structure ja(m:cz)(s:Int)(ws:List (List Int)):Prop where
 st:0<=s/\s<I m.aw
 len:I ws=I m.ay
 word:∀w∈ws,I w<=12/\∀x∈w,0<=x/\x<I m.ax
theorem Hd{n:Int}{v:b9}(h:C9 n v=J):v=lf v.n/\0<=v.n/\v.n<n:=by
 simp only[C9,HJ,HS,Iv] at h
 obtain⟨h1,h2,h3⟩:=h
 cases v with
 |mk a ks=>
  have h3:(I ks:Int)=0:=h3
  have:ks=[]:=List.eq_nil_of_length_eq_zero (by omega)
  subst this
  exact⟨rfl,h1,h2⟩
theorem VA{n x:Int}(h:0<=x/\x<n):C9 n (lf x)=J:=by
 grind[C9,b9.n,b9.az]
theorem Rl{n:Int}:∀{ks:List b9},(ks.all fun k=>C9 n k)=J->∃w:List Int,ks=w.map lf/\∀x∈w,0<=x/\x<n
 |[],_=>⟨[],rfl,by simp⟩
 |k::ks,h=>by
  simp only[all_cons,HJ] at h
  obtain⟨h1,h2,h3⟩:=Hd h.1
  obtain⟨w,e,hw⟩:=Rl h.2
  refine⟨k.n::w,?_,fun x hx=>?_⟩
  all_goals grind
theorem Ag1{m:cz}(hk:m.kind=2∨m.kind=3){v:b9}(h:Ax (EK m) v=J):∃w:List Int,v=dy w/\w.length<=12/\∀x∈w,0<=x/\x<I m.ax:=by
 have h2:v.n=0/\(I v.az:Int)<=12/\(v.az.all fun k=>C9 (I m.ax) k)=J:=by
  grind[EK,Ax]
 obtain⟨h1,h3,h4⟩:=h2
 obtain⟨w,e,hw⟩:=Rl h4
 cases v<;>grind[b9.n,b9.az]
theorem Anu{m:cz}(hk:m.kind=2∨m.kind=3){w:List Int}(h1:I w<=12)(h2:∀x∈w,0<=x/\x<I m.ax):Ax (EK m) (dy w)=J:=by
 have h4:((w.map lf).all fun k=>C9 (I m.ax) k)=J:=I5.2 fun k hk=>by
  grind[VA]
 grind[EK,Ax,b9.n,b9.az]
theorem RI{m:cz}(hk:m.kind=2∨m.kind=3):∀(n:Nat) (vs:List b9),I vs=n->BN (replicate n (EK m)) vs=J->∃ws:List (List Int),vs=ws.map dy/\∀w∈ws,I w<=12/\∀x∈w,0<=x/\x<I m.ax
 |0,vs,hl,_=>⟨[],by grind,by simp⟩
 |n+1,[],hl,_=>by grind
 |n+1,v::vs,hl,h=>by
  simp only[IC,BN,HJ] at h
  obtain⟨w,e,h1,h2⟩:=Ag1 hk h.1
  obtain⟨ws,e2,h3⟩:=RI hk n vs (by grind) h.2
  refine⟨w::ws,by grind,fun x hx=>?_⟩
  grind
theorem Ach{m:cz}(hk:m.kind=2∨m.kind=3):∀(ws:List (List Int)),(∀w∈ws,I w<=12/\∀x∈w,0<=x/\x<I m.ax)->BN (replicate (I ws) (EK m)) (ws.map dy)=J
 |[],_=>rfl
 |w::ws,h=>by
  simp only[HN,IC,Ik,BN,HJ]
  exact⟨Anu hk (h w (by simp)).1 (h w (by simp)).2,Ach hk ws fun x hx=>h x (by grind)⟩
theorem TY(w:List Int):(dy w).size=1+I w:=by rw[b9.size,JJ]
theorem TX:∀(ws:List (List Int)),(∀w∈ws,I w<=12)->b9.sizes (ws.map dy)<=13*I ws
 |[],_=>HP _
 |w::ws,h=>by
  have h2:=TX ws fun z hz=>h z (by simp[hz])
  grind[TY,b9.sizes]
theorem TI{m:cz}(hk:m.kind=2∨m.kind=3){c:b9}(h:Ah (AE m) c=J):∃s ws,c=dx s ws/\ja m s ws:=by
 simp only[Ah,AE,Ax,HJ,HS,Iv] at h
 obtain⟨_,h2,h3,h4⟩:=h
 cases c with
 |mk a ks=>
  simp only[b9.n,b9.az] at h2 h3 h4
  subst h2
  cases ks with
  |nil=>grind
  |cons k ks=>
   simp only[BN,HJ] at h4
   simp only[HN,List.length_replicate] at h3
   obtain⟨l1,l2⟩:=Hd (by simpa[Ax] using h4.1)
   obtain⟨ws,e,hw⟩:=RI hk (I m.ay) ks (by omega) h4.2
   refine⟨k.n,ws,by grind[dx],l2,?_,hw⟩
   grind
theorem Fq{m:cz}(hk:m.kind=2∨m.kind=3)(hp:I m.ay<=2){s:Int}{ws:List (List Int)}(h:ja m s ws):Ah (AE m) (dx s ws)=J:=by
 have hz:=TX ws fun w hw=>(h.word w hw).1
 have hl:=h.len
 have h4:=Ach hk ws h.word
 rw[hl] at h4
 simp only[Ah,AE,Ax,dx,b9.n,b9.az,HJ,Iv,BN]
 refine⟨?_,trivial,?_,VA h.st,h4⟩
 all_goals grind[b9.sizes,b9.size]
theorem KJ(w:List Int):AP (dy w)=w:=Abq w
theorem Gu(s:Int)(ws:List (List Int)):(dx s ws).az.getD 0 e6=lf s:=rfl
theorem JC{s:Int}{ws:List (List Int)}{k:Nat}{w:List Int}(h:ws[k]?=G w):(dx s ws).az.getD (1+k) e6=dy w:=by
 grind[b9.az,dx]
theorem Gt{s:Int}{ws:List (List Int)}{k:Nat}{w:List Int}(h:ws[k]?=G w)(s':Int)(w':List Int):K3 (dx s ws) k s' w'=dx s' (ws.set k w'):=by
 rw[K3,Gu,JC h,dx,BU]
 grind[dx,map_set,b9.n,b9.az]
theorem RX{m:cz}(hk:m.kind=2∨m.kind=3)(hp:I m.ay<=2){s:Int}{ws:List (List Int)}(h:ja m s ws){r:cf}{k:Nat}(hrk:r.chan=k){w:List Int}(hw:ws[k]?=G w):
  YP (AE m) r (dx s ws)=if ((s==r.aj)&&((r.act !=2)||w.head?==G r.letter))=J then
   if (r.act==1)=J then(if ((I w:Int)==12)=J then(e6,1) else(dx r.to (ws.set k (w++[r.letter])),0))
   else if (r.act==2)=J then(dx r.to (ws.set k (w.drop 1)),0) else(dx r.to (ws.set k w),0)
  else(e6,18):=by
 have ek:r.chan.toNat=k:=by omega
 unfold YP ApE
 rw[Ie (Fq hk hp h),ek,Gu,JC hw,KJ]
 simp only[Gt hw]
 rfl
theorem V7{m:cz}{s:Int}{ws:List (List Int)}(hl:I ws=I m.ay):∀K:Nat,K<=I ws->∀v,v∈fk m (dx s ws) K↔∃k w w',k<K/\ws[k]?=G w/\w'∈EM m w/\v=dx s (ws.set k w'):=by
 intro K hK v
 simp only[fk,List.mem_flatMap,List.mem_range,I2]
 constructor
 ·rintro ⟨k,hk,w',h1,rfl⟩
  obtain⟨w,hw⟩:=yk (show k<I ws by omega)
  rw[JC hw,KJ] at h1
  exact⟨k,w,w',hk,hw,h1,by rw[gh,Gu,Gt hw];rfl⟩
 ·rintro ⟨k,w,w',hk,hw,h1,rfl⟩
  refine⟨k,hk,w',?_,?_⟩
  ·rw[JC hw,KJ];exact h1
  ·rw[gh,Gu,Gt hw];rfl
theorem TJ{s s':Int}{ws ws':List (List Int)}(h:dx s ws=dx s' ws'):s=s'/\ws=ws':=by
 grind[dx,List.map_inj_right]
theorem Ow{m:cz}{w w':List Int}(h:w'∈EM m w):I w'+1=I w/\∀x∈w',x∈w:=by
 have hd:∀i,i<I w->I (fd w i)+1=I w/\∀x∈fd w i,x∈w:=fun i hi=>by
  grind[fd]
 unfold EM at h
 split at h
 ·unfold Gg at h
  split at h
  ·obtain⟨i,hi,rfl⟩:=I2.1 (((ET _).2 w').1 h)
   grind
  grind
 ·unfold FW at h
  split at h
  ·obtain⟨i,hi,rfl⟩:=I2.1 (((ET _).2 w').1 h)
   grind
  grind
theorem Yw(m:cz)(w:List Int):(EM m w).Nodup:=by
 grind[EM,Gg,FW,N6,LP,ET]
theorem Abt{m:cz}{s:Int}{ws:List (List Int)}(hl:I ws=I m.ay):∀K:Nat,K<=I ws->(fk m (dx s ws) K).Nodup:=by
 intro K
 induction K with
 |zero=>intro _;exact .nil
 |succ K ih=>
  intro hK
  obtain⟨w,hw⟩:=yk (show K<I ws by omega)
  rw[LI,JC hw,KJ]
  refine List.nodup_append.2 ⟨ih (by omega),?_,fun a ha b hb e=>?_⟩
  ·grind[Yw,gh,Gt,TJ,List.getElem?_set_self]
  ·obtain⟨k,u,u',hk,hu,h1,rfl⟩:=(V7 hl K (by omega) a).1 ha
   obtain⟨w',h2,rfl⟩:=I2.1 hb
   rw[gh,Gu,Gt hw] at e
   have:=Ih (fun l=>l[k]?) (TJ e).2
   have h3:=(Ow h1).1
   grind
theorem UL(l:List b9):(sortV l).Pairwise fun a b=>Ar a b<=0:=by grind[Hy]
theorem Abr{m:cz}{s:Int}{ws:List (List Int)}(hl:I ws=I m.ay):j9 Ar (sortV (fk m (dx s ws) (I m.ay)))/\∀v,v∈sortV (fk m (dx s ws) (I m.ay))↔∃k w w',ws[k]?=G w/\w'∈EM m w/\v=dx s (ws.set k w'):=by
 grind[Abt,AcX,B6,UL,AR,V7]
theorem ja.set{m:cz}{s:Int}{ws:List (List Int)}(h:ja m s ws){s':Int}(hs:0<=s'/\s'<I m.aw)(k:Nat){w:List Int}(h1:I w<=12)(h2:∀x∈w,0<=x/\x<I m.ax):ja m s' (ws.set k w):=
 ⟨hs,by rw[length_set];exact h.len,fun u hu=>by
  rcases IN hu with hu|rfl
  ·exact h.word u hu
  grind⟩
structure wo(m:cz)(r:cf):Prop where
 to:0<=r.to/\r.to<I m.aw
 chan:0<=r.chan/\r.chan<I m.ay
 letter:r.act=1->0<=r.letter/\r.letter<I m.ax
theorem AjV{m:cz}(hk:m.kind=2∨m.kind=3)(hp:I m.ay<=2){s:Int}{ws:List (List Int)}(h:ja m s ws){r:cf}(hr:wo m r):
  ((YP (AE m) r (dx s ws)).2=0/\∃s' ws',(YP (AE m) r (dx s ws)).1=dx s' ws'/\ja m s' ws')∨(YP (AE m) r (dx s ws)).2=1∨(YP (AE m) r (dx s ws)).2=18:=by
 obtain⟨k,hrk⟩:∃k:Nat,r.chan=k:=⟨r.chan.toNat,by have:=hr.chan;omega⟩
 obtain⟨w,hw⟩:∃w,ws[k]?=G w:=⟨_,HI (by have:=hr.chan;rw[h.len];omega)⟩
 have hww:=h.word w (HO hw)
 rw[RX hk hp h hrk hw]
 split
 ·split
  ·rename_i h1
   split
   ·omega
   ·rename_i h2
    have h2:¬(I w:Int)=12:=by grind
    refine .inl ⟨rfl,_,_,rfl,h.set hr.to k (by grind) fun x hx=>?_⟩
    rcases I6.1 hx with hx|hx
    ·grind
    ·rw[HY.1 hx];exact hr.letter (by grind)
  ·split
   ·exact .inl ⟨rfl,_,_,rfl,h.set hr.to k (by grind) fun x hx=>hww.2 x (List.mem_of_mem_drop hx)⟩
   ·exact .inl ⟨rfl,_,_,rfl,h.set hr.to k hww.1 hww.2⟩
 omega
theorem Amk{m:cz}{s:Int}{ws:List (List Int)}(h:ja m s ws){v:b9}(hv:v∈sortV (fk m (dx s ws) (I m.ay))):∃ws',v=dx s ws'/\ja m s ws':=by
 obtain⟨k,w,w',hw,h1,rfl⟩:=((Abr h.len).2 v).1 hv
 have hww:=h.word w (HO hw)
 obtain⟨d1,d2⟩:=Ow h1
 exact⟨_,rfl,h.set h.st k (by omega) fun x hx=>hww.2 x (d2 x hx)⟩
theorem Wy{ap:Int->List b9×Int}{Q:cb->Prop}(hq:∀i,∀v∈ (ap i).1,Q (i,v))(n:Nat)(i:Int):∀s∈ (CX ap n i []).1,Q s:=(Adg hq n i [] (by simp)).2
theorem Ada{m:cz}(hk:m.kind=2∨m.kind=3)(hp:I m.ay<=2)(hr:∀r∈m.av,wo m r){c:b9}(hc:Ah (AE m) c=J)(i:Int):((i5 m (AE m) c i).2=0∨(i5 m (AE m) c i).2=1)/\∀v∈ (i5 m (AE m) c i).1,Ah (AE m) v=J:=by
 grind[TI,i5,Amk,Fq,AjV,Cu]
def d5(s:Int)(ps:List (Int×Int)):b9:=.mk 0 [lf s,.mk 0 (ps.map pV)]
def BL(l:List (Int×Int)):List (Int×Int):=l.mergeSort fun a b=>Y (Ar (pV a) (pV b)<=0)
theorem HD(l:List (Int×Int)):(BL l).Perm l:=List.mergeSort_perm l _
theorem Vo(l:List (Int×Int)):((BL l).map pV).Pairwise fun a b=>Ar a b<=0:=
 by grind[List.pairwise_mergeSort,EF,JW,BL]
theorem UK(l:List (Int×Int)):sortV (l.map pV)=(BL l).map pV:=
 by grind[Pp,HD,Vo]
theorem AcS(s:Int)(l:List (Int×Int)):Ek s l=d5 s (BL l):=by rw[Ek,UK];rfl
structure qn(m:cz)(s:Int)(ps:List (Int×Int)):Prop where
 st:0<=s/\s<I m.aw
 len:I ps<=12
 tok:∀p∈ps,(0<=p.1/\p.1<I m.ay)/\0<=p.2/\p.2<m.age+2
 srt:(ps.map pV).Pairwise fun a b=>Ar a b<=0
theorem U9{ks:List b9}(h:(I ks:Int)=2):∃x y,ks=[x,y]:=by
 match ks,h with
 |[x,y],_=>grind
abbrev ug(m:cz):cr:=.prod [.lab (I m.ay),.lab (m.age+2)]
theorem Aed{m:cz}{v:b9}(h:Ax (ug m) v=J):∃p:Int×Int,v=pV p/\(0<=p.1/\p.1<I m.ay)/\0<=p.2/\p.2<m.age+2:=by
 simp only[Ax,HJ,Iv] at h
 obtain⟨h1,h2,h3⟩:=h
 cases v with
 |mk a ks=>
  subst h1
  obtain⟨x,y,rfl⟩:=U9 h2
  ·have h3:=Ia.1 h3
   have h4:=Ia.1 h3.2
   obtain⟨x1,x2⟩:=Hd (by simpa[Ax] using h3.1)
   obtain⟨y1,y2⟩:=Hd (by simpa[Ax] using h4.1)
   exact⟨(x.n,y.n),by show _=b9.mk 0 [lf x.n,lf y.n];rw[←x1, ←y1],x2,y2⟩
theorem Alq{m:cz}{p:Int×Int}(h:(0<=p.1/\p.1<I m.ay)/\0<=p.2/\p.2<m.age+2):Ax (ug m) (pV p)=J:=by
 grind[Ax,VA,b9.n,b9.az,BN]
theorem Q6{m:cz}:∀{ks:List b9},(ks.all fun k=>Ax (ug m) k)=J->∃ps:List (Int×Int),ks=ps.map pV/\∀p∈ps,(0<=p.1/\p.1<I m.ay)/\0<=p.2/\p.2<m.age+2
 |[],_=>⟨[],rfl,by simp⟩
 |k::ks,h=>by
  simp only[all_cons,HJ] at h
  obtain⟨p,e,hp⟩:=Aed h.1
  obtain⟨ps,e2,hps⟩:=Q6 h.2
  refine⟨p::ps,by grind,fun x hx=>?_⟩
  grind
theorem Pi{m:cz}{c:b9}(h:Ah (Av m) c=J):∃s ps,c=d5 s ps/\qn m s ps:=by
 simp only[Ah,Av,Ax,HJ,HS,Iv] at h
 obtain⟨_,h2,h3,h4⟩:=h
 cases c with
 |mk a ks=>
  subst h2
  obtain⟨x,y,rfl⟩:=U9 h3
  ·have h4:=Ia.1 h4
   obtain⟨x1,x2⟩:=Hd (by simpa[Ax] using h4.1)
   have hy:=(Ia.1 h4.2).1
   rw[Ax] at hy
   simp only[HJ,HS,Iv] at hy
   obtain⟨⟨y1,y2,y3⟩,y4⟩:=hy
   obtain⟨ps,e,hps⟩:=Q6 y3
   cases y with
   |mk b vs=>
    have y1:b=0:=y1
    have y2:(I vs:Int)<=12:=y2
    have e:vs=ps.map pV:=e
    have y4:WT vs=J:=y4
    subst y1;subst e
    refine⟨x.n,ps,by rw[d5, ←x1],x2,by have hl:I (ps.map pV)=I ps:=HH _;have y2:(I (ps.map pV):Int)<=12:=y2;omega,hps,(Pm _).1 y4⟩
theorem UA{m:cz}{s:Int}{ps:List (Int×Int)}(h:qn m s ps):Ah (Av m) (d5 s ps)=J:=by
 have hz:=ZK ps
 have hl:=h.len
 have ha:((ps.map pV).all fun k=>Ax (ug m) k)=J:=I5.2 fun k hk=>by
  obtain⟨p,hp,rfl⟩:=I2.1 hk
  exact Alq (h.tok p hp)
 have e:(d5 s ps).size=1+(1+(1+b9.sizes (ps.map pV)+0)):=by rfl
 have hb:Ax (.bag (ug m)) (.mk 0 (ps.map pV))=J:=by
  rw[Ax]
  simp only[HJ]
  have hlm:I (ps.map pV)=I ps:=HH _
  exact⟨⟨rfl,HK (by show(I (ps.map pV):Int)<=12;omega),ha⟩,(Pm _).2 h.srt⟩
 rw[Ah,yr,Is,Av,Ax]
 exact Ia.2 ⟨rfl,Ia.2 ⟨rfl,Ia.2 ⟨by exact VA h.st,Ia.2 ⟨hb,rfl⟩⟩⟩⟩
theorem Aa8(ps:List (Int×Int)):Qo (.mk 0 (ps.map pV))=ps:=by
 show(ps.map pV).map _=ps
 rw[List.map_map]
 exact(List.map_congr_left fun p _=>rfl).trans (List.map_id ps)
theorem Z7(s:Int)(ps:List (Int×Int)):(d5 s ps).az.getD 0 e6=lf s:=rfl
theorem Z6(s:Int)(ps:List (Int×Int)):(d5 s ps).az.getD 1 e6=.mk 0 (ps.map pV):=rfl
theorem ZE{m:cz}(ha:0<=m.age/\m.age<=1000){s:Int}{ps:List (Int×Int)}(h:qn m s ps):nu m (d5 s ps)=d5 s (BL (fm m ps))/\qn m s (BL (fm m ps)):=by
 have e:nu m (d5 s ps)=d5 s (BL (fm m ps)):=by rw[nu,Z7,Z6,Aa8,AcS];rfl
 refine⟨e,h.st,?_,fun p hp=>?_,Vo _⟩
 ·rw[(HD _).length_eq,fm,HH];exact h.len
 ·have hp:=(HD _).mem_iff.1 hp
  obtain⟨q,hq,rfl⟩:=I2.1 hp
  have:=h.tok q hq
  grind[EB,Ak]
theorem AiG{m:cz}{s:Int}{ps:List (Int×Int)}{r:cf}:((Q8 (Av m) r (d5 s ps)).2=0∨(Q8 (Av m) r (d5 s ps)).2=1∨(Q8 (Av m) r (d5 s ps)).2=17)/\∀v∈ (Q8 (Av m) r (d5 s ps)).1,Ah (Av m) v=J:=by
 grind[Q8,lw,OZ]
theorem YB{m:cz}(ha:0<=m.age/\m.age<=1000){c:b9}(hc:Ah (Av m) c=J)(i:Int):((S1 m (Av m) c i).2=0∨(S1 m (Av m) c i).2=1)/\∀v∈ (S1 m (Av m) c i).1,Ah (Av m) v=J:=by
 grind[Pi,S1,ZE,UA,AiG,Q8,lw]
theorem PK{α:Type}{c:α->α->Int}(h:ic c kb):∀(ys acc:List α),j9 c acc->j9 c (ys.foldl (De c) acc)/\∀x,x∈ys.foldl (De c) acc↔(x∈acc∨x∈ys)
 |[],acc,ha=>⟨ha,fun x=>by simp⟩
 |y::ys,acc,ha=>by
  obtain⟨a1,a2⟩:=Vn h y acc ha
  obtain⟨b1,b2⟩:=PK h ys (De c acc y) a1
  grind
theorem JD(l:List (List Int)):l.foldl (De A8) []=CB l:=by
 obtain⟨a1,a2⟩:=PK LP l [] .nil
 grind[ET,TM,LP]
theorem LQ:ic Ar kb:=B6
theorem U0(l:List b9):j9 Ar (Ew l)/\∀x,x∈Ew l↔x∈l:=by
 grind[Nu,LQ,uv,CW,UL,AR,Ew]
theorem AhM:∀(l:List b9) (v:b9),BT l v=De Ar l v
 |[],v=>rfl
 |x::l,v=>by
  have ih:=AhM l v
  grind[BT,De,AS]
theorem LX{l k:List b9}(h:∀x,x∈l↔x∈k):l.foldl BT []=Ew k:=by
 have e:l.foldl BT []=l.foldl (De Ar) []:=by
  congr 1
  grind[AhM]
 obtain⟨a1,a2⟩:=PK LQ l [] .nil
 grind[U0,TM,LQ]
def jq(tk:Tk)(l:List (Int×Int))(k:Nat):Bool:=match l[k]? with
 |some x=>(x.1==tk.place)&&(Y (x.2>=tk.low)&&Y (x.2<=tk.high))
 |none=>false
def FL(tk:Tk)(l:List (Int×Int))(K:Nat):List (List (Int×Int)):=((List.range K).filter (jq tk l)).map fun k=>l.take k++l.drop (k+1)
def SI:List Tk->List (Int×Int)->List (List (Int×Int))
 |[],l=>[l]
 |tk::ts,l=>(FL tk l (I l)).flatMap (SI ts)
theorem Alw{tk:Tk}{l:List (Int×Int)}{k:Nat}(h:EU tk l k=J):jq tk l k=J:=by
 grind[EU,jq]
theorem RU{tk:Tk}{l:List (Int×Int)}:∀k:Nat,jq tk l k=J->∃j,j<=k/\EU tk l j=J/\l.take j++l.drop (j+1)=l.take k++l.drop (k+1)
 |k,h=>by
  cases ho:EU tk l k with
  |true=>grind
  |false=>
   obtain⟨x,hx⟩:∃x,l[k]?=G x:=by
    grind[jq]
   have h':=h
   unfold jq at h'
   rw[hx] at h'
   simp only[HJ] at h'
   rw[Mc tk hx,h'.1,h'.2.1,h'.2.2] at ho
   simp only[Is,Bool.or_eq_false_iff] at ho
   obtain⟨h1,h2⟩:=ho
   have hk:k≠0:=fun e=>by grind
   obtain⟨j,rfl⟩:∃j,k=j+1:=⟨k-1,by omega⟩
   rw[show j+1-1=j by omega] at h2
   obtain⟨y,hy⟩:∃y,l[j]?=G y:=⟨_,HI (by grind)⟩
   rw[hy] at h2
   have e:y=x:=by
    grind
   subst e
   have hm:jq tk l j=J:=by grind[jq]
   obtain⟨i,hi,h3,h4⟩:=RU j hm
   grind[da,take_add_one]
theorem AcB(tk:Tk)(l x:List (Int×Int)):x∈Wh tk l (I l)↔x∈FL tk l (I l):=by
 grind[Wh,FL,Alw,RU]
theorem SG:∀(ts:List Tk) (l x:List (Int×Int)),x∈TH ts l↔x∈SI ts l
 |[],l,x=>Iff.rfl
 |tk::ts,l,x=>by
  simp only[TH,SI,List.mem_flatMap]
  constructor
  ·rintro ⟨y,h1,h2⟩;exact⟨y,(AcB tk l y).1 h1,(SG ts y x).1 h2⟩
  ·rintro ⟨y,h1,h2⟩;exact⟨y,(AcB tk l y).2 h1,(SG ts y x).2 h2⟩
theorem AjO(a b:List Int):A8 a b=if (I a:Int)=I b then AW AJ a b else AJ (I a) (I b):=by
 grind[A8,Hm,AJ,TE,b9.n,b9.az]
noncomputable abbrev Ot:=Tryz.f278
noncomputable def OL:=yl Ot
theorem Yp(a b:List Int)(hl:I a=I b)(ha:I a<=1000000)(n:Nat):∀k:Nat,I a-k=n->k<=I a->
  Rn PP Ot 0 (di (AW AJ (a.drop k) (b.drop k))) ba ([kl OL [1,1,0,1,0,0],.blk 0,kc OL [1,1,1]]++[]) (cy 40 [(0,cx a),(1,cx b),(5,di k)]) ba:=by
 induction n with
 |zero=>
  intro k hn hk
  rw[Ic (by omega),Ic (by omega)]
  exact lv 40 [] (.f .r) (Y ((k:Int)<(I (U vi a):Int))=O/\Q (di 0)) ⟨HM (by rw[HH];omega),rfl⟩
 |succ n ih=>
  intro k hn hk
  obtain⟨x,hx⟩:=yk (show k<I a by omega)
  obtain⟨y,hy⟩:=yk (show k<I b by omega)
  rw[da hx,da hy,AW]
  by_cases he:(x !=y)=J
  ·have hne:¬AJ x y=0:=fun h=>by simp[PX.eq x y trivial trivial h] at he
   rw[HZ hne]
   exact lv 40 [] (.t<|.x (vi x)<|.x (vi y)<|.t<|.x (vi x)<|.x (vi y)<|.c (di (AJ x y)) .r) (Y ((k:Int)<(I (U vi a):Int))=J/\0<=(k:Int)/\(U vi a)[Z (k:Int)]?=G (vi x)/\0<=(k:Int)/\(U vi b)[Z (k:Int)]?=G (vi y)/\_/\0<=(k:Int)/\(U vi a)[Z (k:Int)]?=G (vi x)/\0<=(k:Int)/\(U vi b)[Z (k:Int)]?=G (vi y)/\_/\Q (di (AJ x y))) ⟨HK (by rw[HH];omega),by omega,Am hx,by omega,Am hy,he,by omega,Am hx,by omega,Am hy,HF x y,rfl⟩
  ·have e:x=y:=by simpa using he
   rw[Ie (by rw[e];exact PX.refl _ trivial)]
   exact lv 40 [] (.t<|.x (vi x)<|.x (vi y)<|.f<|.l (tp k)) (Y ((k:Int)<(I (U vi a):Int))=J/\0<=(k:Int)/\(U vi a)[Z (k:Int)]?=G (vi x)/\0<=(k:Int)/\(U vi b)[Z (k:Int)]?=G (vi y)/\(x !=y)=O/\di (yu yt ((k:Int)+1))=di (↑(k+1):Int)/\_) ⟨HK (by rw[HH];omega),by omega,Am hx,by omega,Am hy,HU he,Ae,iK (ih (k+1) (by omega) (by omega))⟩
theorem J1(a b:List Int)(ha:I a<=1000000):F0 278 [cx a,cx b] (di (A8 a b)):=by
 rw[AjO]
 by_cases h:(I a:Int)=I b
 ·rw[Ie h]
  have hlp:=Yp a b (by omega) ha _ 0 rfl (Iu _)
  exact sv Ot 40 [] (.f<|.l wm) (((I (U vi a):Int) !=(I (U vi b):Int))=O/\Q (di 0)/\_) ⟨by rw[HH,HH,h];exact bne_self_eq_false _,rfl,iK hlp⟩
 ·rw[HZ h]
  exact sv Ot 40 [] (.t<|.c (di (AJ (I a) (I b))) .r) (((I (U vi a):Int) !=(I (U vi b):Int))=J/\F0 56 [di (I (U vi a):Int),di (I (U vi b):Int)] (di (AJ (I a:Int) (I b:Int)))/\Q (di (AJ (I a:Int) (I b:Int)))) ⟨by rw[HH,HH];exact bne_iff_ne.2 h,by rw[HH,HH];exact HF _ _,rfl⟩
noncomputable abbrev Am3:=Tryz.f279
theorem NQ(a b:List Int)(ha:I a<=1000000):F0 279 [cx a,cx b] (db (A8 a b==0)):=by
 refine sv Am3 9 [] (.c (di (A8 a b)) .r) (F0 278 [cx a,cx b] (di (A8 a b))/\Q (db (A8 a b==0))) ?_
 grind[J1]
section
variable {α : Type} {c : α -> α -> Int}
def AV(c:α->α->Int)(v:α):List α->Nat
 |[]=>0
 |x::l=>if c x v<0 then AV c v l+1 else 0
theorem AaD(v:α):∀l:List α,AV c v l<=I l
 |[]=>HP _
 |x::l=>by
  have:=AaD v l
  grind[AV]
theorem AaC(v:α):∀(l:List α) (k:Nat),k<AV c v l->∃x,l[k]?=G x/\c x v<0
 |[],k,h=>by grind[AV]
 |x::l,k,h=>by
  unfold AV at h
  split at h
  ·rename_i hx
   cases k with
   |zero=>grind
   |succ k=>exact AaC v l k (by omega)
  ·omega
theorem AaE(v:α):∀(l:List α) (x:α),l[AV c v l]?=G x->¬c x v<0
 |[],x,h=>by grind
 |y::l,x,h=>by
  unfold AV at h
  split at h
  ·exact AaE v l x (by grind)
  grind
theorem QU(v:α):∀l:List α,l[AV c v l]?=none->De c l v=l.take (AV c v l)++v::l.drop (AV c v l)
 |[],_=>rfl
 |x::l,h=>by
  unfold De AV at*
  by_cases h1:c x v<0
  ·rw[Ie h1] at h⊢
   rw[Ie h1,QU v l (by grind)];rfl
  grind
theorem QT(v x:α):∀l:List α,l[AV c v l]?=G x->c x v=0->De c l v=l
 |[],h,_=>by grind
 |y::l,h,h0=>by
  unfold De AV at*
  by_cases h1:c y v<0
  ·rw[Ie h1] at h⊢
   rw[QT v x l (by grind) h0]
  grind
theorem Vm(v x:α):∀l:List α,l[AV c v l]?=G x->¬c x v=0->De c l v=l.take (AV c v l)++v::l.drop (AV c v l)
 |[],h,_=>by rfl
 |y::l,h,h0=>by
  unfold De AV at*
  by_cases h1:c y v<0
  ·rw[Ie h1] at h⊢
   rw[Ie h1,Vm v x l (by grind) h0];rfl
  grind
end
noncomputable abbrev R7:=Tryz.f239
noncomputable def OF:=yl R7
theorem AhF(l:List (List Int)):∀x∈l.map cw,x.size=1:=by grind[V.size]
theorem ZL(l:List (List Int))(i j:Nat):∀x∈ ((l.map cw).take j).drop i,x.size=1:=by grind[V.size]
theorem QV(l:List (List Int))(v:List Int)(k:Nat):bt (ai (W 0 (take ((k:Nat):Int).toNat (l.map cw))++[cw v]++W ((k:Nat):Int).toNat (take (I (l.map cw)) (l.map cw))))=dl ((l.take k++v::l.drop k).map cw):=by
 grind[map_take,map_drop]
theorem Xi(l:List (List Int))(v:List Int)(hl:I l<=100000)(hs:∀x∈l,I x<=1000)(hv:I v<=1000)(n:Nat):∀k:Nat,AV A8 v l-k=n->k<=AV A8 v l->
  Rn PP R7 0 (dl ((De A8 l v).map cw)) ba ([kl OF [1,1,0,0,0],.blk 0,kc OF [1,1,1]]++[]) (cy 46 [(0,dl (l.map cw)),(1,cx v),(5,di k)]) ba:=by
 have hil:=AaD (c:=A8) v l
 induction n with
 |zero=>
  intro k hn hk0
  have hk:k=AV A8 v l:=by omega
  subst hk
  cases hx:l[AV A8 v l]? with
  |none=>
   have hlt:I l<=AV A8 v l:=List.getElem?_eq_none_iff.1 hx
   rw[QU v l hx]
   refine lv 46 [] (.f<|.k<|.f<|.k<|.a 1<|.w<|.c (cx v)<|.w<|.w<|.r) (Y ((↑(AV A8 v l):Int)<(I (U cw l):Int))=O/\Y ((↑(AV A8 v l):Int)<(I (U cw l):Int))=O/\(∀(x:V),x∈U cw l->V.size x=1)/\0<=(fun x=>x.snd) (yt,(↑(AV A8 v l):Int))/\(fun x=>x.snd) (yt,(↑(AV A8 v l):Int))<=(I (U cw l):Int)/\Ao (I (W 0 (take (Z ((fun x=>x.snd) (yt,(↑(AV A8 v l):Int)))) (U cw l)))) 24/\(∀(y:V),y∈W 0 (take (Z ((fun x=>x.snd) (yt,(↑(AV A8 v l):Int)))) (U cw l))->V.size y=1)/\F0 110 [cx v] (cx v)/\Q (W 0 (take (Z ((fun x=>x.snd) (yt,(↑(AV A8 v l):Int)))) (U cw l)))/\Ao (I (W 0 (take (Z ((fun x=>x.snd) (yt,(↑(AV A8 v l):Int)))) (U cw l)))+I (cw v::nV)) 24/\(∀(y:V),y∈ [cw v]->V.size y=1)/\(∀(x:V),x∈U cw l->V.size x=1)/\0<=(fun x=>x.snd) (yt,(↑(AV A8 v l):Int))/\(fun x=>x.snd) (yt,(↑(AV A8 v l):Int))<=(I (U cw l):Int)/\Q (W 0 (take (Z ((fun x=>x.snd) (yt,(↑(AV A8 v l):Int)))) (U cw l))++cw v::nV)/\Ao (I (W 0 (take (Z ((fun x=>x.snd) (yt,(↑(AV A8 v l):Int)))) (U cw l))++cw v::nV)+I (W (Z ((fun x=>x.snd) (yt,(↑(AV A8 v l):Int)))) (take (I (U cw l)) (U cw l)))) 24/\(∀(y:V),y∈W (Z ((fun x=>x.snd) (yt,(↑(AV A8 v l):Int)))) (take (I (U cw l)) (U cw l))->V.size y=1)/\bt (ai (W 0 (take (Z ((fun x=>x.snd) (yt,(↑(AV A8 v l):Int)))) (U cw l))++[cw v]++W (Z ((fun x=>x.snd) (yt,(↑(AV A8 v l):Int)))) (take (I (U cw l)) (U cw l))))=dl (U cw (take (AV A8 v l) l++v::W (AV A8 v l) l))) ?_
   have z0:(0:Int)<=(AV A8 v l:Int):=by omega
   have z1:(AV A8 v l:Int)<=(I (l.map cw):Int):=by rw[HH];omega
   have z2:∀y∈ [cw v],y.size=1:=fun y hy=>by rw[HY.1 hy];rfl
   repeat' first|with_reducible refine And.intro ?_ ?_
   all_goals first|exact HM (by rw[HH];omega)|exact AhF l|exact ZL l _ _|exact z2|exact KV v (by omega)|exact z0|exact z1|exact Iu _|rfl|(simp only[HW,IP,Ip,HH,HN,HR];omega)|exact QV l v _
  |some x=>
   have hlt:=(HL.1 hx).1
   have hc:=AaE v l x hx
   have hsz:=hs x (HO hx)
   have z0':(0:Int)<=(AV A8 v l:Int):=by omega
   by_cases he:(A8 x v==0)=J
   ·rw[QT v x l hx (by simpa using he)]
    exact lv 46 [] (.t<|.x (cw x)<|.c (di (A8 x v))<|.f<|.t<|.x (cw x)<|.c (db (A8 x v==0))<|.t<|.r) (Y ((↑(AV A8 v l):Int)<(I (U cw l):Int))=J/\_/\(U cw l)[Z (↑(AV A8 v l):Int)]?=G (cw x)/\_/\Y (A8 x v<0)=O/\Y ((↑(AV A8 v l):Int)<(I (U cw l):Int))=J/\_/\(U cw l)[Z (↑(AV A8 v l):Int)]?=G (cw x)/\_/\_/\bt (lb l)=dl (U cw l)) ⟨HK (by rw[HH];omega),z0',by rw[IR,I1,hx];rfl,J1 x v (by omega),HM hc,HK (by rw[HH];omega),z0',by rw[IR,I1,hx];rfl,NQ x v (by omega),he,rfl⟩
   ·have he2:(A8 x v==0)=O:=by simpa using he
    rw[Vm v x l hx (by simpa using he)]
    refine lv 46 [] (.t<|.x (cw x)<|.c (di (A8 x v))<|.f<|.t<|.x (cw x)<|.c (db (A8 x v==0))<|.f<|.a 1<|.w<|.c (cx v)<|.w<|.w<|.r) (Y ((↑(AV A8 v l):Int)<(I (U cw l):Int))=J/\0<=(↑(AV A8 v l):Int)/\(U cw l)[Z (↑(AV A8 v l):Int)]?=G (cw x)/\F0 278 [cx x,cx v] (di (A8 x v))/\Y (A8 x v<0)=O/\Y ((↑(AV A8 v l):Int)<(I (U cw l):Int))=J/\0<=(↑(AV A8 v l):Int)/\(U cw l)[Z (↑(AV A8 v l):Int)]?=G (cw x)/\F0 279 [cx x,cx v] (db (A8 x v==0))/\(A8 x v==0)=O/\(∀(x:V),x∈U cw l->V.size x=1)/\0<=(fun x=>x.snd) (yt,(↑(AV A8 v l):Int))/\(fun x=>x.snd) (yt,(↑(AV A8 v l):Int))<=(I (U cw l):Int)/\Ao (I (W 0 (take (Z ((fun x=>x.snd) (yt,(↑(AV A8 v l):Int)))) (U cw l)))) 24/\(∀(y:V),y∈W 0 (take (Z ((fun x=>x.snd) (yt,(↑(AV A8 v l):Int)))) (U cw l))->V.size y=1)/\F0 110 [cx v] (cx v)/\Q (W 0 (take (Z ((fun x=>x.snd) (yt,(↑(AV A8 v l):Int)))) (U cw l)))/\Ao (I (W 0 (take (Z ((fun x=>x.snd) (yt,(↑(AV A8 v l):Int)))) (U cw l)))+I (cw v::nV)) 24/\(∀(y:V),y∈ [cw v]->V.size y=1)/\(∀(x:V),x∈U cw l->V.size x=1)/\0<=(fun x=>x.snd) (yt,(↑(AV A8 v l):Int))/\(fun x=>x.snd) (yt,(↑(AV A8 v l):Int))<=(I (U cw l):Int)/\Q (W 0 (take (Z ((fun x=>x.snd) (yt,(↑(AV A8 v l):Int)))) (U cw l))++cw v::nV)/\Ao (I (W 0 (take (Z ((fun x=>x.snd) (yt,(↑(AV A8 v l):Int)))) (U cw l))++cw v::nV)+I (W (Z ((fun x=>x.snd) (yt,(↑(AV A8 v l):Int)))) (take (I (U cw l)) (U cw l)))) 24/\(∀(y:V),y∈W (Z ((fun x=>x.snd) (yt,(↑(AV A8 v l):Int)))) (take (I (U cw l)) (U cw l))->V.size y=1)/\bt (ai (W 0 (take (Z ((fun x=>x.snd) (yt,(↑(AV A8 v l):Int)))) (U cw l))++[cw v]++W (Z ((fun x=>x.snd) (yt,(↑(AV A8 v l):Int)))) (take (I (U cw l)) (U cw l))))=dl (U cw (take (AV A8 v l) l++v::W (AV A8 v l) l))) ?_
    have z0:(0:Int)<=(AV A8 v l:Int):=by omega
    have z1:(AV A8 v l:Int)<=(I (l.map cw):Int):=by rw[HH];omega
    have z2:∀y∈ [cw v],y.size=1:=fun y hy=>by rw[HY.1 hy];rfl
    have z3:(l.map cw)[Z ((AV A8 v l:Nat):Int)]?=G (cw x):=by rw[IR,I1,hx];rfl
    repeat' first|with_reducible refine And.intro ?_ ?_
    all_goals first|exact HK (by rw[HH];omega)|exact z3|exact J1 x v (by omega)|exact HM hc|exact NQ x v (by omega)|exact he2|exact AhF l|exact ZL l _ _|exact z2|exact KV v (by omega)|exact z0|exact z1|exact Iu _|rfl|(simp only[HW,IP,Ip,HH,HN,HR];omega)|exact QV l v _
 |succ n ih=>
  intro k hn hk0
  obtain⟨x,hx,hc⟩:=AaC (c:=A8) v l k (by omega)
  have hlt:=(HL.1 hx).1
  have hsz:=hs x (HO hx)
  exact lv 46 [] (.t<|.x (cw x)<|.c (di (A8 x v))<|.t<|.l (tp k)) (Y ((k:Int)<(I (U cw l):Int))=J/\0<=(k:Int)/\(U cw l)[Z (k:Int)]?=G (cw x)/\_/\Y (A8 x v<0)=J/\di (yu yt ((k:Int)+1))=di (↑(k+1):Int)/\_) ⟨HK (by rw[HH];omega),by omega,by rw[IR,I1,hx];rfl,J1 x v (by omega),HK hc,Ae,iK (ih (k+1) (by omega) (by omega))⟩
theorem NW(l:List (List Int))(v:List Int)(hl:I l<=100000)(hs:∀x∈l,I x<=1000)(hv:I v<=1000):F0 239 [dl (l.map cw),cx v] (dl ((De A8 l v).map cw)):=by
 exact sv R7 46 [] (.l wm) (Q (di 0)/\_) ⟨rfl,iK (Xi l v hl hs hv _ 0 rfl (Iu _))⟩
noncomputable abbrev R3:=Tryz.f238
noncomputable def OA:=yl R3
theorem WF(w:List Int)(hw:I w<=12)(hx:∀x∈w,0<=x/\x<16)(n:Nat):∀k:Nat,I w-k=n->
  Rn PP R3 0 (db J) ba ([kl OA [1,0,1,0,0],.blk 0,kc OA [1,1]]++[]) (cy 25 [(0,cx w),(3,di k)]) ba:=by
 induction n with
 |zero=>
  intro k hn
  refine lv 25 [] (.f .r) (Y ((k:Int)<(I (U vi w):Int))=O/\db (Y ((I (U vi w):Int)<=12))=db J) ?_
  grind
 |succ n ih=>
  intro k hn
  obtain⟨x,hxk⟩:=yk (show k<I w by omega)
  have hb:=hx x (HO hxk)
  exact lv 25 [] (.t<|.x (vi x)<|.f<|.x (vi x)<|.f<|.l [ke 0,ch 3 (di (k+1:Nat))]) (Y ((k:Int)<(I (U vi w):Int))=J/\0<=(k:Int)/\(U vi w)[Z (k:Int)]?=G (vi x)/\Y (x<0)=O/\0<=(k:Int)/\(U vi w)[Z (k:Int)]?=G (vi x)/\Y (x>=16)=O/\di (yu yt ((k:Int)+1))=di (↑(k+1):Int)/\_) ⟨HK (by grind),by omega,Am hxk,yq,by omega,Am hxk,yq,Ae,iK (ih (k+1) (by omega))⟩
theorem NK(w:List Int)(hw:I w<=12)(hx:∀x∈w,0<=x/\x<16):F0 238 [cx w] (db J):=by
 exact sv R3 25 [] (.l [ke 0,ch 3 (di (0:Nat))]) (Q (di 0)/\_) ⟨rfl,iK (WF w hw hx _ 0 rfl)⟩
noncomputable abbrev Ams:=Tryz.f240
theorem NI(w:List Int)(hw:I w<=1000)(i:Nat)(hi:i<I w):F0 240 [cx w,di i] (cx (fd w i)):=by
 refine sv Ams 14 [] (.a 1<|.w<|.w .r) ((∀(x:V),x∈U vi w->V.size x=1)/\0<=(fun x=>x.snd) (fz i)/\(fun x=>x.snd) (fz i)<=(I (U vi w):Int)/\Ao (I (W 0 (take (Z ((fun x=>x.snd) (fz i))) (U vi w)))) 8/\(∀(y:V),y∈W 0 (take (Z ((fun x=>x.snd) (fz i))) (U vi w))->V.size y=1)/\(∀(x:V),x∈U vi w->V.size x=1)/\0<=(fun x=>x.snd) (yt,yu yt ((i:Int)+1))/\(fun x=>x.snd) (yt,yu yt ((i:Int)+1))<=(I (U vi w):Int)/\Q (W 0 (take (Z ((fun x=>x.snd) (fz i))) (U vi w)))/\Ao (I (W 0 (take (Z ((fun x=>x.snd) (fz i))) (U vi w)))+I (W (Z ((fun x=>x.snd) (yt,yu yt ((i:Int)+1)))) (take (I (U vi w)) (U vi w)))) 8/\(∀(y:V),y∈W (Z ((fun x=>x.snd) (yt,yu yt ((i:Int)+1)))) (take (I (U vi w)) (U vi w))->V.size y=1)/\bt (ai (W 0 (take (Z ((fun x=>x.snd) (fz i))) (U vi w))++W (Z ((fun x=>x.snd) (yt,yu yt ((i:Int)+1)))) (take (I (U vi w)) (U vi w))))=cx (fd w i)) ?_
 have hw1:yt.wrap ((i:Int)+1)=((i+1:Nat):Int):=by rw[Ak];omega
 have hv:=UN w
 have e:bt (ai (W 0 (take (Z ((i:Nat):Int)) (w.map vi))++W (Z ((i+1:Nat):Int)) (take (I (w.map vi)) (w.map vi))))=cx (fd w i):=by
  rw[Jt,take_length,IR,IR, ←map_take, ←map_drop, ←IZ];rfl
 grind
noncomputable abbrev RA:=Tryz.f173
noncomputable def OI:=yl RA
abbrev mc(w:List Int)(k:Nat):List (List Int):=(CE w k).foldl (De A8) []
theorem Adn(w:List Int)(k:Nat):mc w (k+1)=De A8 (mc w k) (fd w k):=by grind[NJ]
theorem YF{w:List Int}(hw:I w<=12)(k:Nat):I (mc w k)<=k/\∀v∈mc w k,I v<=12:=by
 grind[JD,L4,JE,OY,ET]
theorem XU(w:List Int)(hw:I w<=12)(hx:∀x∈w,0<=x/\x<16)(n:Nat):∀k:Nat,I w-k=n->k<=I w->
  Rn PP RA 0 (dl ((CB (CE w (I w))).map cw)) ba ([kl OI [1,1,0,1,0,0],.blk 0,kc OI [1,1,1]]++[]) (cy 21 [(0,cx w),(3,dl ((mc w k).map cw)),(4,di k)]) ba:=by
 induction n with
 |zero=>
  intro k hn hk
  rw[←JD,show I w=k by omega,show(CE w k).foldl (De A8) []=mc w k from rfl]
  have hv:=NK w hw hx
  generalize mc w k=ws
  exact lv 21 [] (.c (db J)<|.k<|.f .r) (_/\Y ((k:Int)<(I (U vi w):Int))=O/\bt (lb ws)=dl (U cw ws)) ⟨hv,HM (by rw[HH];omega),rfl⟩
 |succ n ih=>
  intro k hn hk
  have ih':=ih (k+1) (by omega) (by omega)
  rw[Adn] at ih'
  obtain⟨t1,t2⟩:=YF hw k
  have hp:=NW (mc w k) (fd w k) (by omega) (fun x hx=>by have:=t2 x hx;omega) (by have:=PS w k;omega)
  generalize mc w k=ws at ih' hp⊢
  generalize CB (CE w (I w))=out at ih'⊢
  exact lv 21 [] (.c (db J)<|.k<|.t<|.c (cx (fd w k))<|.c (dl ((De A8 ws (fd w k)).map cw))<|.l [ke 0,ch 3 (dl ((De A8 ws (fd w k)).map cw)),ch 4 (di (k+1:Nat))]) (_/\Y ((k:Int)<(I (U vi w):Int))=J/\_/\_/\Q (dl (U cw (De A8 ws (fd w k))))/\di (yu yt ((k:Int)+1))=di (↑(k+1):Int)/\_) ⟨NK w hw hx,HK (by rw[HH];omega),NI w (by omega) k (by omega),hp,rfl,Ae,iK ih'⟩
theorem XT(w:List Int)(hw:I w<=12)(hx:∀x∈w,0<=x/\x<16):F0 173 [cx w] (dl ((CB (CE w (I w))).map cw)):=by
 have h:=XU w hw hx _ 0 rfl (Iu _)
 generalize CB (CE w (I w))=out at h⊢
 exact sv RA 21 [] (.h (.q 2 0)<|.h (.ct 3 (dl []) ba)<|.l [ke 0,ke 3,ch 4 (di (0:Nat))]) ((∀(e:List D),e[3]?=G (dn)->∀(E:cd) (g:Gh) (a:Act) (w:x5),FI E g ba e a w->∃g',FI E g' ba (List.set e 3 (dl [])) a w)/\Q (di 0)/\_) ⟨fun e he=>XX e he,rfl,iK h⟩
noncomputable abbrev R2:=Tryz.f241
noncomputable def O9:=yl R2
theorem WE(rk w:List Int)(hr:Dd rk=J)(hw:I w<=12)(_:I rk<=1000)(hx:∀x∈w,0<=x/\x<I rk)(n:Nat):∀k:Nat,I w-k=n->
  Rn PP R2 0 (db J) ba ([kl O9 [1,0,1,0,0],.blk 0,kc O9 [1,1]]++[]) (cy 33 [(0,cx rk),(1,cx w),(5,di k)]) ba:=by
 induction n with
 |zero=>
  intro k hn
  refine lv 33 [] (.f<|.c (db J) .r) (Y ((k:Int)<(I (U vi w):Int))=O/\F0 237 [cx rk] (db J)/\db (Y ((I (U vi w):Int)<=12))=db J) ?_
  grind[NR]
 |succ n ih=>
  intro k hn
  obtain⟨x,hxk⟩:=yk (show k<I w by omega)
  have hb:=hx x (HO hxk)
  exact lv 33 [] (.t<|.x (vi x)<|.f<|.x (vi x)<|.f<|.l (tp k)) (Y ((k:Int)<(I (U vi w):Int))=J/\0<=(k:Int)/\(U vi w)[Z (k:Int)]?=G (vi x)/\Y (x<0)=O/\0<=(k:Int)/\(U vi w)[Z (k:Int)]?=G (vi x)/\Y (x>=(I (U vi rk):Int))=O/\di (yu yt ((k:Int)+1))=di (↑(k+1):Int)/\_) ⟨HK (by grind),by omega,Am hxk,yq,by omega,Am hxk,HM (by grind),Ae,iK (ih (k+1) (by omega))⟩
theorem WD(rk w:List Int)(hr:Dd rk=J)(hw:I w<=12)(hrl:I rk<=1000)(hx:∀x∈w,0<=x/\x<I rk):F0 241 [cx rk,cx w] (db J):=by
 exact sv R2 33 [] (.l wm) (Q (di 0)/\_) ⟨rfl,iK (WE rk w hr hw hrl hx _ 0 rfl)⟩
noncomputable abbrev Oq:=Tryz.f174
noncomputable def Lr:=yl Oq
abbrev Hp(rk w:List Int)(k:Nat):List (List Int):=(Cx rk w k).foldl (De A8) []
theorem Ado{rk w:List Int}{k:Nat}(h:pc rk w k=J):Hp rk w (k+1)=De A8 (Hp rk w k) (fd w k):=by rw[Hp,M2 h,List.foldl_append];rfl
theorem Ahz{rk w:List Int}{k:Nat}(h:pc rk w k=O):Hp rk w (k+1)=Hp rk w k:=by grind[P0]
theorem TP{rk w:List Int}(hw:I w<=12)(k:Nat):I (Hp rk w k)<=k/\∀v∈Hp rk w k,I v<=12:=by
 grind[JD,L4,M3,P1,ET]
theorem XS(rk w:List Int)(hr:Dd rk=J)(hw:I w<=12)(hrl:I rk<=1000)(hx:∀x∈w,0<=x/\x<I rk)(n:Nat):∀k:Nat,I w-1-k=n->k<=I w-1->
  Rn PP Oq 0 (dl ((CB (Cx rk w (I w-1))).map cw)) ba ([kl Lr [1,1,0,1,0,0],.blk 0,kc Lr [1,1,1]]++[]) (cy 41 [(0,cx rk),(1,cx w),(5,dl ((Hp rk w k).map cw)),(6,di k)]) ba:=by
 have hv:=WD rk w hr hw hrl hx
 induction n with
 |zero=>
  intro k hn hk
  rw[←JD,show I w-1=k by omega,show(Cx rk w k).foldl (De A8) []=Hp rk w k from rfl]
  generalize Hp rk w k=ws
  exact lv 41 [] (.c (db J)<|.k<|.f .r) (_/\Y (yu yt ((k:Int)+1)<(I (U vi w):Int))=O/\bt (lb ws)=dl (U cw ws)) ⟨hv,HM (by rw[HH,OW k (by omega)];omega),rfl⟩
 |succ n ih=>
  intro k hn hk
  have ih':=ih (k+1) (by omega) (by omega)
  obtain⟨x,hx1⟩:=yk (show k<I w by omega)
  obtain⟨y,hy1⟩:=yk (show k+1<I w by omega)
  have bx:=hx x (HO hx1)
  have bY:=hx y (HO hy1)
  obtain⟨rx,hrx⟩:=yk (show x.toNat<I rk by omega)
  obtain⟨ry,hry⟩:=yk (show y.toNat<I rk by omega)
  have hpc:=Ajj hx1 hy1 hrx hry
  obtain⟨t1,t2⟩:=TP (rk:=rk) hw k
  by_cases hc:Y (rx<=ry)=J
  ·rw[Ado (hpc.trans hc)] at ih'
   have hp:=NW (Hp rk w k) (fd w k) (by omega) (fun x hx=>by have:=t2 x hx;omega) (by have:=PS w k;omega)
   generalize Hp rk w k=ws at ih' hp⊢
   generalize CB (Cx rk w (I w-1))=out at ih'⊢
   refine lv 41 [] (.c (db J)<|.k<|.t<|.x (vi x)<|.x (vi rx)<|.x (vi y)<|.x (vi ry)<|.t<|.c (cx (fd w k))<|.c (dl ((De A8 ws (fd w k)).map cw))<|.l [ke 0,ke 1,ch 5 (dl ((De A8 ws (fd w k)).map cw)),ch 6 (di (k+1:Nat))]) (F0 241 [cx rk,cx w] (db J)/\Y (yu yt ((k:Int)+1)<(I (U vi w):Int))=J/\0<=(k:Int)/\(U vi w)[Z (k:Int)]?=G (vi x)/\0<=x/\(U vi rk)[Z x]?=G (vi rx)/\0<=yu yt ((k:Int)+1)/\(U vi w)[Z (yu yt ((k:Int)+1))]?=G (vi y)/\0<=y/\(U vi rk)[Z y]?=G (vi ry)/\Y (rx<=ry)=J/\F0 240 [cx w,di (k:Int)] (cx (fd w k))/\F0 239 [bt (lb ws),bt (cw (fd w k))] (dl (U cw (De A8 ws (fd w k))))/\Q (dl (U cw (De A8 ws (fd w k))))/\di (yu yt ((k:Int)+1))=di (↑(k+1):Int)/\I0 Oq 0 (dl (U cw out)) ba [kl Lr ee,bf 0,kc Lr [1,1,1]] (cy 41 [(0,cx rk),(1,cx w),(5,dl (U cw (De A8 ws (fd w k)))),(6,di (↑(k+1):Int))]) d7) ?_
   rw[OW k (by omega)]
   exact⟨hv,HK (by rw[HH];omega),by omega,Am hx1,bx.1,DG bx.1 hrx,by omega,Am hy1,bY.1,DG bY.1 hry,hc,NI w (by omega) k (by omega),hp,rfl,rfl,⟨ih'⟩⟩
  ·rw[Ahz (hpc.trans (HU hc))] at ih'
   generalize Hp rk w k=ws at ih'⊢
   generalize CB (Cx rk w (I w-1))=out at ih'⊢
   refine lv 41 [] (.c (db J)<|.k<|.t<|.x (vi x)<|.x (vi rx)<|.x (vi y)<|.x (vi ry)<|.f<|.l (po k)) (F0 241 [cx rk,cx w] (db J)/\Y (yu yt ((k:Int)+1)<(I (U vi w):Int))=J/\0<=(k:Int)/\(U vi w)[Z (k:Int)]?=G (vi x)/\0<=x/\(U vi rk)[Z x]?=G (vi rx)/\0<=yu yt ((k:Int)+1)/\(U vi w)[Z (yu yt ((k:Int)+1))]?=G (vi y)/\0<=y/\(U vi rk)[Z y]?=G (vi ry)/\Y (rx<=ry)=O/\di (yu yt ((k:Int)+1))=di (↑(k+1):Int)/\I0 Oq 0 (dl (U cw out)) ba [kl Lr ee,bf 0,kc Lr [1,1,1]] (cy 41 [(0,cx rk),(1,cx w),(5,bt (lb ws)),(6,di (↑(k+1):Int))]) d7) ?_
   rw[OW k (by omega)]
   exact⟨hv,HK (by rw[HH];omega),by omega,Am hx1,bx.1,DG bx.1 hrx,by omega,Am hy1,bY.1,DG bY.1 hry,HU hc,rfl,⟨ih'⟩⟩
theorem XR(rk w:List Int)(hr:Dd rk=J)(hw:I w<=12)(hrl:I rk<=1000)(hx:∀x∈w,0<=x/\x<I rk):F0 174 [cx rk,cx w] (dl ((CB (Cx rk w (I w-1))).map cw)):=by
 have h:=XS rk w hr hw hrl hx _ 0 rfl (Iu _)
 generalize CB (Cx rk w (I w-1))=out at h⊢
 exact sv Oq 41 [] (.h (.q 2 0)<|.h (.ct 5 (dl []) ba)<|.l [ke 0,ke 1,ke 5,ch 6 (di (0:Nat))]) ((∀(e:List D),e[5]?=G (dn)->∀(E:cd) (g:Gh) (a:Act) (w:x5),FI E g ba e a w->∃g',FI E g' ba (List.set e 5 (dl [])) a w)/\Q (di 0)/\_) ⟨fun e he=>XX e he,rfl,iK h⟩
noncomputable abbrev R9:=Tryz.f172
noncomputable def OH:=yl R9
theorem X8(v:b9)(hl:I v.az<=1000)(n:Nat):∀k:Nat,I v.az-k=n->
  Rn PP R9 0 (.acc 1 ((AP v).map vi)) ⟨[],[(1,1,(AP v).map vi)]⟩ ([kl OH [1,1,0,1,0,0],.blk 0,kc OH [1,1,1]]++[]) (cy 22 [(1,.v (.ref (Ac v))),(3,.acc 1 (((AP v).take k).map vi)),(4,di k)]) ⟨[],[(1,1,((AP v).take k).map vi)]⟩:=by
 induction n with
 |zero=>
  intro k hn
  refine lv 22 [1] (.f .r) (Y ((k:Int)<(I (map eV v.az):Int))=O/\[(1,1,map vi (take k (AP v)))]=[(1,1,map vi (AP v))]/\br 1 (map vi (take k (AP v)))=br 1 (map vi (AP v))) ?_
  grind[List.take_of_length_le]
 |succ n ih=>
  intro k hn
  obtain⟨x,hx⟩:∃x,v.az[k]?=G x:=⟨_,HI (show k<I v.az by omega)⟩
  have ht:((AP v).take (k+1)).map vi=((AP v).take k).map vi++[vi x.n]:=by grind[take_add_one]
  have ih':=ih (k+1) (by omega)
  rw[ht] at ih'
  have hz:I ((AP v).take k)<=1000:=by grind
  generalize AP v=N at ih' hz⊢
  exact lv 22 [1] (.t<|.h (.xs (Ac x))<|.ls [ke 1,ch 3 (.acc 1 ((N.take k).map vi++[vi x.n])),ch 4 (di (k+1:Nat))] ⟨[],[(1,1,(N.take k).map vi++[vi x.n])]⟩) (Y ((k:Int)<(I (map eV v.az):Int))=J/\Q 2/\0<=(k:Int)/\(map eV v.az)[Z (k:Int)]?=G (Ac x)/\Q (map vi (take k N))/\Ao (I (map vi (take k N))+I (vi x.n::nV)) 8/\Q (br 1 (map vi (take k N)++[vi x.n]))/\di (yu yt ((k:Int)+1))=di (↑(k+1):Int)/\Q [(1,1,map vi (take k N)++vi x.n::nV)]/\_) ⟨HK (by grind),rfl,by omega,Ap hx,rfl,⟨by grind,by grind⟩,rfl,Ae,rfl,iK ih'⟩
theorem X7(v:b9)(hl:I v.az<=1000):F0 172 [dV v] (cx (AP v)):=by
 have h:Aa PP 172 [dV v] ba (.acc 1 ((AP v).map vi)) ⟨[],[(1,1,(AP v).map vi)]⟩:=by
  exact sv R9 22 [1] (.h (.q 2 0)<|.h (.nw 3 1 1)<|.ls [ke 1,ch 3 (.acc 1 []),ch 4 (di (0:Nat))] ⟨[],[(1,1,[])]⟩) (Q iu/\Q (di 0)/\Q [(1,1,nV)]/\_) ⟨rfl,rfl,rfl,iK (X8 v hl _ 0 rfl)⟩
 exact Hx h
noncomputable abbrev R1:=Tryz.f242
noncomputable def O8:=yl R1
theorem W7(w:List Int)(hw:I w<=1000)(n:Nat):∀k:Nat,I w-k=n->
  Rn PP R1 0 (dV (dy w)) ba ([kl O8 [1,1,0,1,0,0],.blk 0,kc O8 [1,1,1]]++[]) (cy 22 [(0,cx w),(2,.ptr 0 0),(3,.ptr 1 0),(4,di k)]) (jp 0 ((w.take k).map lf)):=by
 induction n with
 |zero=>
  intro k hn
  refine lv 22 [] (.f .r) (Y ((k:Int)<(I (map vi w):Int))=O/\bt (ab [vi 0,ai (map eV (map lf (take k w)))])=dV (dy w)) ?_
  rw[Im (by omega)]
  exact⟨HM (by grind),rfl⟩
 |succ n ih=>
  intro k hn
  obtain⟨x,hx⟩:=yk (show k<I w by omega)
  have ht:(w.take (k+1)).map lf=(w.take k).map lf++[lf x]:=by grind[take_add_one]
  have he:eV (lf x)=ab [vi x,ai []]:=by rfl
  refine lv 22 [] (.t<|.x (vi x)<|.ls (Avj k) (jp 0 ((w.take (k+1)).map lf))) (Y ((k:Int)<(I (map vi w):Int))=J/\0<=(k:Int)/\(map vi w)[Z (k:Int)]?=G (vi x)/\Q (map eV (map lf (take k w)))/\Ao (I (map eV (map lf (take k w)))+I (ab (ib x)::nV)) 32/\yp/\di (yu yt ((k:Int)+1))=di (↑(k+1):Int)/\[G [di 0,dn],G [di 0,br 1 (map eV (map lf (take k w))++ab (ib x)::nV)]]=[G [di 0,dn],G [di 0,br 1 (map eV (map lf (take (k+1) w)))]]/\[(1,2,map eV (map lf (take k w))++ab (ib x)::nV)]=[(1,2,map eV (map lf (take (k+1) w)))]/\_) ⟨HK (by grind),by omega,Am hx,rfl,⟨?_,?_⟩,yn,Ae,?_,?_,iK (ih (k+1) (by omega))⟩
  ·simp only[HH,Ip,HN,HR];omega
  all_goals grind
theorem W6(w:List Int)(hw:I w<=1000):F0 242 [cx w] (dV (dy w)):=by
 have:=W7 w hw _ 0 rfl
 exact sv R1 22 [] (.h (.q 2 0)<|.h (.cl 1 1 1 2)<|.ls [ke 0,ke 2,ke 3,ch 4 (di (0:Nat))] (jp 0 [])) (Q (di 0)/\Q (jp 0 []).H/\Q [(1,2,nV)]/\I0 R1 (I ba.H) (dV (dy w)) ba [kl O8 ee,bf 0,kc O8 [1,1,1]] (cy 22 [(0,cx w),n7,(3,bq 1 0),(4,di (↑0:Int))]) (jp 0 [])) ⟨rfl,rfl,rfl,⟨this⟩⟩
section
open Nv
theorem V6{P:x7}(hm:P.follows .mixedOrders=J){C:Nat}{fn:yw}{d:D}{σ':St}(nt:Nat)(im:List Nat){ks T:List KI}{L:List (Nat×D)}{σ:St}(s:Sc)
  (h:AX (cy nt L) fun env=>vc (CN C) C P (fun env σ1=>A9 P fn env σ1 d σ') (fun _ env σ=>Ai6 P fn.results.toList d σ' env σ) nt im T 10000 (.h .n s) ks env σ):Rn P fn C d σ' (ks++T) (cy nt L) σ:=by
 rw[AQ] at h
 exact Qz (NF _) (fun _ _ h=>h.2) hm (fun b env σ _ h=>U3 h) (by simp[cy,DN]) h
end
theorem Gj{P:x7}{o:yy}{σ:St}{t:x6}{x:x8}(ho:o.op=.buildSlice t 1 #[(0,x)])
  {e:x6} {sz by':Nat} {z:Option yz} (hs:BS P t=G (e,sz,by',z)) (hz:z.isSome=J) {d:D} (hd:d.sto=J) (hc:I (Az d)=sz) (h1:0<sz) (h2:sz<=1000):
  Ai P o [d] σ (.gro (I σ.H) 1 sz) ⟨σ.H++[G (Az d)],σ.own⟩:=by
 intro E g a w K Q hw hds hK
 simp only[ho,Op.operands] at hds
 obtain⟨i,hu,hi,rfl,rfl,rfl⟩:=AF hs
 obtain⟨zz,hzz⟩:=Option.isSome_iff_exists.1 hz
 obtain⟨u,eu,hr⟩:=AB.1 (by simpa using hds)
 simp only[HV,Ix] at eu
 obtain⟨h5,h6,_⟩:=Go.Dv.cells_rep hd hr
 have hul:I u.cells.toList=i.size:=by grind[A1]
 have hf:=K0 i.size [u] 0 [] ((Array.range (1*i.size)).map (zz.cells[· %zz.cells.size]!)).toList (by simp) (fun v hv=>by grind) (by simp)
 simp only[nil_append,Array.toArray_toList] at hf
 have hrun:=run_buildSlice (P:=P) w t e 1 #[(0,u)] _ i zz hu hi hzz (by omega) (by omega) (by simpa using hf)
 obtain⟨g',h3,h4,h5',h6',h7⟩:=hw.newObjR (us:=u.cells.toList) (rest:=[]) (cs:=Az d) e h5 h6
 rw[I8] at h3 h6'
 have:=hK g' _ (.slice (G ⟨w.heap.size,0,none⟩) 1 1) h3 h4 (by
  grind[Ag])
 unfold Oper.wp execOp
 simp only[ho]
 simp only[Sem.run_bind]
 have e2:(#[(0,x)].map fun(x:Nat×x8)=>match x with|(i,x)=>(i,a.eval x))= #[(0,u)]:=by grind
 rw[e2,hrun]
 exact this
abbrev gm(n:Int)(k:Nat)(L:List D)(own:List (Nat×Nat×List V)):St:=⟨[G [di 0,.v .nils],G [di n,.gro 2 k 2],G L],own⟩
abbrev xk(n:Int)(k:Nat)(L:List D)(own:List (Nat×Nat×List V)):St:=⟨[G [di n,.arr 2 0 k],G [di n,.arr 2 0 k],G L],own⟩
theorem Acr{σ:St}{p q i n sz:Nat}{cs:List D}(hp:σ.H[p]?=G (G cs))(hi:cs[i]?=G (.gro q n sz))(e:List D):Cv e σ e ⟨σ.H.set p (G (cs.set i (.arr q 0 n))),σ.own⟩:=
 D0 (σ:=σ) (q:=p) (cs:=cs) (cs':=cs.set i (.arr q 0 n)) hp (fun g us hr=>by
  obtain⟨u,hu,hru⟩:=BA hr hi
  have:=CI hr i (d:=.arr q 0 n) (u:=u) (DS.rep .gro hru)
  grind[DA]) (fun h c hc=>by
  grind[D.one]) e
abbrev fg(x:b9):List D:=[di x.n,cq x.az]
abbrev kcO(x:b9):List D:=[di x.n,.acc 1 (x.az.map eV)]
abbrev fp(x:b9):List (Nat×Nat×List V):=[(1,2,x.az.map eV)]
def f7(ts:List Nat)(L:List D):Prop:=(∀n,D.okNs n ts L=J)/\∀sel,D.rens sel id L=L
theorem f7.of{ts:List Nat}{L:List D}(h:D.pls L=J):f7 ts L:=by grind[AO,A7,f7]
theorem JP{ρ τ:Nat->Nat}:∀(a b:List D),D.rens ρ τ (a++b)=D.rens ρ τ a++D.rens ρ τ b
 |[],_=>rfl
 |x::a,b=>by simp only[Jz,D.rens,JP a b]
theorem JT{n:Nat}{ts:List Nat}:∀(a b:List D),D.okNs n ts (a++b)=(D.okNs n ts a&&D.okNs n ts b)
 |[],_=>by rfl
 |x::a,b=>by simp only[Jz,D.okNs,JT a b,Bool.and_assoc]
theorem f7.app{ts:List Nat}{a b:List D}(h1:f7 ts a)(h2:f7 ts b):f7 ts (a++b):=by grind[JT,JP,f7]
theorem f7.kcO(x:b9):f7 [1] (kcO x):=by grind[D.okNs,D.okN,D.rens,D.ren,f7]
theorem Amb{R:List D->St->Prop}{ks:List KI}{e e':List D}(n:Int)(m:Nat)(F:List D)(own:List (Nat×Nat×List V))(hF:f7 (own.map (·.1)) F)(he:D.okNs 3 (own.map (·.1)) e'=J)(hee:e=D.rens (fun i=>if i<2 then i else i+1) id e')
  (h:A2 (CN 0) PP R ks e' (gm n m F own)) (T:Option (List D)):A2 (CN 0) PP R ks e ⟨[G [di 0,.v .nils],G [di n,.gro 3 m 2],T,G F],own⟩:=by
 refine C3 (σ:=⟨[G [di 0,.v .nils],G [di n,.gro 3 m 2],T,G F],own⟩) (e':=e') (H':=(gm n m F own).H) (m:=0) (fun _ _ h=>h.2) (fun i=>if i<2 then i else i+1) (Iu _) (fun i hi=>by omega) (fun i j _ _ h=>?_) (fun i cs hi=>?_) he hee h
 ·grind
 ·match i,hi with
  |0,hi=>simp at hi;subst hi;exact⟨rfl,by rfl⟩
  |1,hi=>simp at hi;subst hi;exact⟨rfl,by rfl⟩
  |2,hi=>
   simp at hi;subst hi
   exact⟨by rw[hF.2];rfl,hF.1 _⟩
  |i+3,hi=>grind
theorem AoD{R:List D->St->Prop}{ks:List KI}{e e':List D}(n:Int)(m:Nat)(F:List D)(own:List (Nat×Nat×List V))(hF:f7 (own.map (·.1)) F)(he:D.okNs 3 (own.map (·.1)) e'=J)(hee:e=D.rens (fun i=>if i<2 then i else i+2) id e')
  (h:A2 (CN 0) PP R ks e' (gm n m F own)) (T U:Option (List D)):A2 (CN 0) PP R ks e ⟨[G [di 0,.v .nils],G [di n,.gro 4 m 2],T,U,G F],own⟩:=by
 refine C3 (σ:=⟨[G [di 0,.v .nils],G [di n,.gro 4 m 2],T,U,G F],own⟩) (e':=e') (H':=(gm n m F own).H) (m:=0) (fun _ _ h=>h.2) (fun i=>if i<2 then i else i+2) (Iu _) (fun i hi=>by omega) (fun i j _ _ h=>?_) (fun i cs hi=>?_) he hee h
 ·grind
 ·match i,hi with
  |0,hi=>simp at hi;subst hi;exact⟨rfl,by rfl⟩
  |1,hi=>simp at hi;subst hi;exact⟨rfl,by rfl⟩
  |2,hi=>
   simp at hi;subst hi
   exact⟨by rw[hF.2];rfl,hF.1 _⟩
  |i+3,hi=>grind
theorem Yd(x:b9)(hx:x.size<=1000000):Aa PP 83 [dV x] ba (.dagg (kcO x)) ⟨[],fp x⟩:=by
 have hk:∀y∈x.az,F0 83 [dV y] (dV y):=fun y hy=>DO _ y (HP _) (by have:=b9.size_mem hy;have:=x.size_eq;omega)
 have hs:=x.size_eq
 have hl:=b9.length_le x.az
 have loop (n:Nat):∀k:Nat,I x.az-k=n->Rn PP B0 0 (.dagg (kcO x)) ⟨[],fp x⟩ ([kl AA [1,1,0,1,0,0],.blk 0,kc AA [1,1,1]]++[]) (cy 27 [(1,.v (.ref (Ac x))),(2,.ptr 0 0),(3,.ptr 1 0),(4,di k)]) (jp x.n (x.az.take k)):=by
  induction n with
  |zero=>
   intro k hn
   rw[Im (by omega)]
   exact lv 27 [1] (.f<|.h (.m (.dagg (kcO x)))<|.h .ww<|.rd) (Y ((k:Int)<(I (map eV x.az):Int))=O/\2<=2/\[di x.n,br 1 (map eV x.az)]=kcO x/\2<=2/\Q [(1,2,map eV x.az)]/\Q (bi (kcO x))) ⟨HM (by rw[HH];omega),HP _,rfl,HP _,rfl,rfl⟩
  |succ n ih=>
   intro k hn
   obtain⟨y,hy⟩:∃x',x.az[k]?=G x':=⟨_,HI (show k<I x.az by omega)⟩
   have ht:x.az.take (k+1)=x.az.take k++[y]:=by rw[IW,hy];rfl
   refine lv 27 [1] (.t<|.h (.xs (Ac y))<|.c (dV y)<|.ls [ke 1,ke 2,ke 3,ch 4 (di (k+1:Nat))] (jp x.n (x.az.take (k+1)))) (Y ((k:Int)<(I (map eV x.az):Int))=J/\Q 2/\0<=(k:Int)/\(map eV x.az)[Z (k:Int)]?=G (Ac y)/\_/\Q (map eV (take k x.az))/\Ao (I (map eV (take k x.az))+I (Ac y::nV)) 32/\yp/\di (yu yt ((k:Int)+1))=di (↑(k+1):Int)/\[G [di 0,dn],G [di x.n,br 1 (map eV (take k x.az)++Ac y::nV)]]=[G [di 0,dn],G [di x.n,br 1 (map eV (take (k+1) x.az))]]/\[(1,2,map eV (take k x.az)++Ac y::nV)]=[(1,2,map eV (take (k+1) x.az))]/\_) ⟨HK (by rw[HH];omega),rfl,by omega,Ap hy,hk y (HO hy),rfl,⟨?_,?_⟩,yn,Ae,?_,?_,iK (ih (k+1) (by omega))⟩
   ·simp only[HH,Ip,HN,HR];omega
   ·simp only[HH,Ip,HN,HR];omega
   ·rw[ht,BM]
   ·rw[ht,BM]
 have:=loop _ 0 rfl
 exact sv B0 27 [1] (.h .rn<|.h (.q 2 0)<|.h (.cl 1 1 1 2)<|.ls [ke 1,ke 2,ke 3,ch 4 (di (0:Nat))] (jp x.n [])) (Q (di 0)/\Q (jp x.n []).H/\Q [(1,2,nV)]/\I0 B0 (I ba.H) (bi (kcO x)) (bh [] (fp x)) tu (cy 27 [(1,bt (jy x)),n7,(3,bq 1 0),(4,di (↑0:Int))]) (jp x.n [])) ⟨rfl,rfl,rfl,⟨by simpa using this⟩⟩
theorem Aqa{k:Nat}(hk:k<=1000)(x:V):Ao (k+1+I (x::nV)) 32:=by grind
section
variable {n : Int} {k : Nat} (hk : k <= 900) {L : List D} (hL : (I L) = (k + 1) * 2) {v : b9} {x : b9} (hx : v.az[k + 1]? = G x) {d : D} {σ' : St}
include hk hL hx
theorem An6(hn:F0 83 [dV x] (dV x))(hl:D.pls L=J)
  (next:Rn PP B0 0 d σ' ([kl AA [1,1,0,1,0,0],.blk 0,kc AA [1,1,1]]++[]) (cy 27 [(1,.v (.ref (Ac v))),(2,.ptr 0 0),(3,.ptr 1 0),(4,di (k+1+1:Nat))]) (gm n (k+1+1) (L++fg x) [])):
  Rn PP B0 0 d σ' ([kl AA [1,1,0,1,0,0],.blk 0,kc AA [1,1,1]]++[]) (cy 27 [(1,.v (.ref (Ac v))),(2,.ptr 0 0),(3,.ptr 1 0),(4,di (k+1:Nat))]) (gm n (k+1) L []):=by
 exact lv 27 [1] (.t<|.h (.xs (Ac x))<|.c (dV x)<|.lo [ke 1,ke 2,ke 3,ch 4 (di (k+1+1:Nat))] ⟨[G [di 0,.v .nils],G [di n,.gro 3 (k+1+1) 2],none,G (L++fg x)],[]⟩) (Y ((↑(k+1):Int)<(I (map eV v.az):Int))=J/\Q 2/\0<=(↑(k+1):Int)/\(map eV v.az)[Z (↑(k+1):Int)]?=G (Ac x)/\_/\_/\[Ac x]≠ []/\(∀(y:V),y∈ [Ac x]->V.size y=2)/\Ao (k+1+I (Ac x::nV)) 32/\yp/\di (yu yt ((↑(k+1):Int)+1))=di (↑(k+1+1):Int)/\cm 4 [] [G [di 0,dn],G [di n,bm 3 (k+1+I (Ac x::nV)) 2],none,G (L++(dp x.n x.az))]=J/\Q [G [di 0,dn],G [di n,bm 3 (k+1+1) 2],none,G (L++fg x)]/\_) ⟨HK (by grind),rfl,by omega,Ap hx,hn,hL,by simp,fun y hy=>by rw[HY.1 hy];rfl,Aqa (by omega) _,yn,Ae,by simp[cm,D.okNs,D.okN,(f7.of hl).app (f7.of (rfl:D.pls (fg x)=J))|>.1],rfl,iK (Amb n (k+1+1) _ [] ((f7.of hl).app (f7.of rfl)) (by rfl) (by rfl) next none)⟩
noncomputable abbrev xt:=(Oper.mk (G 24) (Op.call (Call.mk (Callee.builtin Builtin.append) #[Operand.tmp 16,Operand.tmp 23] #[29,29])) 29 "ref.go:96" #[Edge.mk 1 Ground.data,Edge.mk 8 Ground.data,Edge.mk 7 Ground.chain] none)
noncomputable abbrev qd:=(Oper.mk (G 23) (Op.buildSlice 29 1 #[(0,Operand.tmp 22)]) 29 "ref.go:96" #[Edge.mk 7 Ground.data] none)
noncomputable abbrev Arz:=fun a₀=>[bt (bw 83 [] []),dV a₀]
theorem An5(hn:Aa PP 83 [dV x] ba (.dagg (kcO x)) ⟨[],fp x⟩)(hl:D.pls L=J)
  (next:Rn PP B0 0 d σ' ([kl AA [1,1,0,1,0,0],.blk 0,kc AA [1,1,1]]++[]) (cy 27 [(1,.v (.ref (Ac v))),(2,.ptr 0 0),(3,.ptr 1 0),(4,di (k+1+1:Nat))]) (gm n (k+1+1) (L++kcO x) (fp x))):
  Rn PP B0 0 d σ' ([kl AA [1,1,0,1,0,0],.blk 0,kc AA [1,1,1]]++[]) (cy 27 [(1,.v (.ref (Ac v))),(2,.ptr 0 0),(3,.ptr 1 0),(4,di (k+1:Nat))]) (gm n (k+1) L []):=by
 refine lv 27 [1] (.t<|.h (.xs (Ac x))<|.h (.oc (.dagg (kcO x)) ⟨[G [di 0,.v .nils],G [di n,.gro 2 (k+1) 2],G L],fp x⟩)<|.h (.o (.gro 3 1 2) ⟨[G [di 0,.v .nils],G [di n,.gro 2 (k+1) 2],G L,G (kcO x)],fp x⟩)<|.h (.o (.gro 4 (k+1+1) 2) ⟨[G [di 0,.v .nils],G [di n,.gro 2 (k+1) 2],none,G (kcO x),G (L++kcO x)],fp x⟩)<|.lo [ke 1,ke 2,ke 3,ch 4 (di (k+1+1:Nat))] ⟨[G [di 0,.v .nils],G [di n,.gro 4 (k+1+1) 2],none,G (kcO x),G (L++kcO x)],fp x⟩) (Y ((↑(k+1):Int)<(I (map eV v.az):Int))=J/\Q 2/\0<=(↑(k+1):Int)/\(map eV v.az)[Z (↑(k+1):Int)]?=G (Ac x)/\(N0 (Arz x) (gm n (k+1) L []) (bi (kcO x)) (bh [G [di 0,dn],G [di n,bm 2 (k+1) 2],G L] (fp x)))/\Ai PP qd [bi (kcO x)] (bh [G [di 0,dn],G [di n,bm 2 (k+1) 2],G L] (fp x)) (bm 3 1 2) (bh [G [di 0,dn],G [di n,bm 2 (k+1) 2],G L,G (kcO x)] (fp x))/\Ai PP xt [bm 2 (k+1) 2,bm 3 1 2] (bh [G [di 0,dn],G [di n,bm 2 (k+1) 2],G L,G (kcO x)] (fp x)) (bm 4 (k+1+1) 2) (bh [G [di 0,dn],G [di n,bm 2 (k+1) 2],none,G (kcO x),G (L++kcO x)] (fp x))/\((Q (G [bm 2 (k+1) 2])/\Q (G [bm 2 (k+1) 2])/\True)/\True)/\di (yu yt ((↑(k+1):Int)+1))=di (↑(k+1+1):Int)/\cm 5 [1] [G [di 0,dn],G [di n,bm 4 (k+1+1) 2],none,G (kcO x),G (L++kcO x)]=J/\Q [G [di 0,dn],G [di n,bm 4 (k+1+1) 2],none,G (kcO x),G (L++kcO x)]/\Q [(1,2,map eV x.az)]/\_) ⟨HK (by grind),rfl,by omega,Ap hx,fun o c fo ho hc=>?_,?_,?_,⟨⟨rfl,rfl,trivial⟩,trivial⟩,Ae,?_,rfl,rfl,iK (AoD n (k+1+1) _ (fp x) ((f7.of hl).app (f7.kcO x)) (by rfl) (by rfl) next none (G (kcO x)))⟩
 ·have h2:=B3 (σ:=gm n (k+1) L []) ho hc (fD:=.v (.fn 83 [] [])) rfl (ds:=[dV x]) [] id hn (.cons (.ren (dc:=dV x) rfl) .nil) .nil (by simp) rfl (by simp) (by simp) (by rfl) (by rfl)
  grind[CO,Cy,DM,D.ren,D.rens]
 ·exact Gj rfl kp rfl rfl rfl (by decide) (by decide)
 ·exact KH rfl kp rfl (by decide) (q:=2) (q2:=3) (cs:=L) (cs2:=kcO x) rfl hL rfl rfl (by decide) (by omega) (by omega)
 ·have:=((f7.of hl).app (f7.kcO x)).1 5
  grind[cm,D.okNs,D.okN]
theorem An4(X:List V)(hn:F0 83 [dV x] (dV x))(hl:f7 [1] L)
  (next:Rn PP B0 0 d σ' ([kl AA [1,1,0,1,0,0],.blk 0,kc AA [1,1,1]]++[]) (cy 27 [(1,.v (.ref (Ac v))),(2,.ptr 0 0),(3,.ptr 1 0),(4,di (k+1+1:Nat))]) (gm n (k+1+1) (L++fg x) [(1,2,X)])):
  Rn PP B0 0 d σ' ([kl AA [1,1,0,1,0,0],.blk 0,kc AA [1,1,1]]++[]) (cy 27 [(1,.v (.ref (Ac v))),(2,.ptr 0 0),(3,.ptr 1 0),(4,di (k+1:Nat))]) (gm n (k+1) L [(1,2,X)]):=by
 exact lv 27 [1] (.t<|.h (.xs (Ac x))<|.c (dV x)<|.lo [ke 1,ke 2,ke 3,ch 4 (di (k+1+1:Nat))] ⟨[G [di 0,.v .nils],G [di n,.gro 3 (k+1+1) 2],none,G (L++fg x)],[(1,2,X)]⟩) (Y ((↑(k+1):Int)<(I (map eV v.az):Int))=J/\Q 2/\0<=(↑(k+1):Int)/\(map eV v.az)[Z (↑(k+1):Int)]?=G (Ac x)/\_/\_/\[Ac x]≠ []/\(∀(y:V),y∈ [Ac x]->V.size y=2)/\Ao (k+1+I (Ac x::nV)) 32/\yp/\di (yu yt ((↑(k+1):Int)+1))=di (↑(k+1+1):Int)/\cm 4 [1] [G [di 0,dn],G [di n,bm 3 (k+1+I (Ac x::nV)) 2],none,G (L++(dp x.n x.az))]=J/\Q [G [di 0,dn],G [di n,bm 3 (k+1+1) 2],none,G (L++fg x)]/\Q [(1,2,X)]/\_) ⟨HK (by grind),rfl,by omega,Ap hx,hn,hL,by simp,fun y hy=>by rw[HY.1 hy];rfl,Aqa (by omega) _,yn,Ae,by simp[cm,D.okNs,D.okN,hl.app (f7.of (rfl:D.pls (fg x)=J))|>.1],rfl,rfl,iK (Amb n (k+1+1) _ [(1,2,X)] (hl.app (f7.of rfl)) (by rfl) (by rfl) next none)⟩
end
def j1(j i:Nat)(x:b9):List D:=if i=j then kcO x else fg x
def kL(j:Nat)(l:List b9)(k:Nat):List D:=(List.range k).flatMap fun i=>j1 j i (l.getD i e6)
def EA(j:Nat)(l:List b9)(k:Nat):List (Nat×Nat×List V):=if j<k then fp (l.getD j e6) else[]
theorem GD(j:Nat)(l:List b9)(k:Nat):kL j l (k+1)=kL j l k++j1 j k (l.getD k e6):=by simp[kL,range_succ]
theorem VB(j:Nat)(l:List b9)(k:Nat):I (kL j l k)=k*2:=by
 induction k with
 |zero=>rfl
 |succ k ih=>
  grind[GD,j1]
theorem Abx(j:Nat)(l:List b9)(k:Nat)(h:k<=j):D.pls (kL j l k)=J:=by
 induction k with
 |zero=>rfl
 |succ k ih=>
  rw[GD,Du,ih (by omega),j1,HZ (by omega)];rfl
theorem Aby(j:Nat)(l:List b9)(k:Nat):f7 [1] (kL j l k):=by
 induction k with
 |zero=>exact⟨fun _=>rfl,fun _=>rfl⟩
 |succ k ih=>
  rw[GD]
  refine ih.app ?_
  unfold j1
  split
  ·exact f7.kcO _
  ·exact f7.of rfl
theorem er{l:List b9}{k:Nat}{x:b9}(h:l[k]?=G x):l.getD k e6=x:=by grind
theorem Acx(j:Nat)(v:b9)(hv:v.size<=900)(n:Nat):∀k:Nat,I v.az- (k+1)=n->k<I v.az->
  Rn PP B0 0 (.dagg [di v.n,.arr 2 0 (I v.az)]) (xk v.n (I v.az) (kL j v.az (I v.az)) (EA j v.az (I v.az))) ([kl AA [1,1,0,1,0,0],.blk 0,kc AA [1,1,1]]++[]) (cy 27 [(1,.v (.ref (Ac v))),(2,.ptr 0 0),(3,.ptr 1 0),(4,di (k+1:Nat))]) (gm v.n (k+1) (kL j v.az (k+1)) (EA j v.az (k+1))):=by
 have hs:=v.size_eq
 have hl:=b9.length_le v.az
 have hcp:∀x∈v.az,F0 83 [dV x] (dV x):=fun x hx=>DO _ x (HP _) (by have:=b9.size_mem hx;omega)
 induction n with
 |zero=>
  intro k hn hk0
  have e:k+1=I v.az:=by omega
  rw[e]
  have hlt:¬((I v.az:Nat):Int)<(I (v.az.map eV):Int):=by grind
  have hp1:=Aby j v.az (I v.az)
  have hp2:=Abx j v.az (I v.az)
  have e1:∀(τ:List (Nat×Nat×List V)) (e:List D),Cv e (gm v.n (I v.az) (kL j v.az (I v.az)) τ) e ⟨[G [di 0,.v .nils],G [di v.n,.arr 2 0 (I v.az)],G (kL j v.az (I v.az))],τ⟩:=fun τ e=>Acr (σ:=gm v.n (I v.az) (kL j v.az (I v.az)) τ) (p:=1) (q:=2) (i:=1) (n:=I v.az) (sz:=2) (cs:=[di v.n,.gro 2 (I v.az) 2]) rfl rfl e
  by_cases hj:j<I v.az
  ·have eo:EA j v.az (I v.az)=fp (v.az.getD j e6):=by grind[EA]
   rw[eo]
   generalize kL j v.az (I v.az)=L at hp1 e1⊢
   generalize v.az.getD j e6=y at e1⊢
   refine V6 mixed 27 [1] (.f<|.h (.q 6 0)<|.h (.cs ⟨[G [di 0,.v .nils],G [di v.n,.arr 2 0 (I v.az)],G L],fp y⟩)<|.h (.m (.dagg [di v.n,.arr 2 0 (I v.az)]))<|.h .ww<|.r) ?_
   refine fv (by kernel_rfl:(Y ((I v.az:Int)<(I (map eV v.az):Int))=O/\(∀(e:List D) (E:cd) (g:Gh) (a:Act) (w:x5),FI E g (bh [G [di 0,dn],G [di v.n,bm 2 (I v.az) 2],G L] [(1,2,map eV y.az)]) e a w->∃g',FI E g' (bh [G [di 0,dn],G [di v.n,bo 2 0 (I v.az)],G L] (fp y)) e a w)/\2<=2/\Q [di v.n,bo 2 0 (I v.az)]/\2<=2/\cm 3 [1] [G [di v.n,bo 2 0 (I v.az)],G [di v.n,bo 2 0 (I v.az)],G L]=J/\Q [G [di v.n,bo 2 0 (I v.az)],G [di v.n,bo 2 0 (I v.az)],G L]/\Q [(1,2,map eV y.az)]/\Q (bi [di v.n,bo 2 0 (I v.az)]))=_) ?_
   exact⟨HM hlt,e1 (fp y),HP _,rfl,HP _,by simp[cm,D.okNs,D.okN,hp1.1],rfl,rfl,rfl⟩
  ·have eo:EA j v.az (I v.az)=[]:=by grind[EA]
   have hp:=AO (n:=3) (ts:=[]) (hp2 (by omega))
   rw[eo]
   generalize kL j v.az (I v.az)=L at hp e1⊢
   refine V6 mixed 27 [1] (.f<|.h (.q 6 0)<|.h (.cs ⟨[G [di 0,.v .nils],G [di v.n,.arr 2 0 (I v.az)],G L],[]⟩)<|.h (.m (.dagg [di v.n,.arr 2 0 (I v.az)]))<|.h .ww<|.r) ?_
   refine fv (by rfl:(Y ((↑(I (b9.az v)):Int)<(↑(I (map eV (b9.az v))):Int))=O/\(∀(e:List D) (E:cd) (g:Gh) (a:Act) (w:x5),FI E g (bh [G [di 0,bt bv],G [di (b9.n v),bm 2 (I (b9.az v)) 2],G L] []) e a w->∃g',FI E g' (bh [G [di 0,bt bv],G [di (b9.n v),bo 2 0 (I (b9.az v))],G L] []) e a w)/\2<=2/\[di (b9.n v),bo 2 0 (I (b9.az v))]=[di (b9.n v),bo 2 0 (I (b9.az v))]/\2<=2/\cm 3 [] [G [di (b9.n v),bo 2 0 (I (b9.az v))],G [di (b9.n v),bo 2 0 (I (b9.az v))],G L]=J/\[G [di (b9.n v),bo 2 0 (I (b9.az v))],G [di (b9.n v),bo 2 0 (I (b9.az v))],G L]=[G [di (b9.n v),bo 2 0 (I (b9.az v))],G [di (b9.n v),bo 2 0 (I (b9.az v))],G L]/\bi [di (b9.n v),bo 2 0 (I (b9.az v))]=bi [di (b9.n v),bo 2 0 (I (b9.az v))])=_) ?_
   exact⟨HM hlt,e1 [],HP _,rfl,HP _,by grind[cm,D.okNs,D.okN],rfl,rfl⟩
 |succ n ih=>
  intro k hn hk0
  obtain⟨x,hx⟩:∃x,v.az[k+1]?=G x:=⟨_,HI (show k+1<I v.az by omega)⟩
  have hc:=hcp x (HO hx)
  have hih:=ih (k+1) (by omega) (by omega)
  have hlen:=VB j v.az (k+1)
  have hxs:=b9.size_mem (HO hx)
  rw[GD j v.az (k+1),er hx] at hih
  by_cases h1:j<k+1
  ·have e1:∀m,k+1<=m->EA j v.az m=fp (v.az.getD j e6):=fun m hm=>by grind[EA]
   rw[e1 _ (HP _)]
   rw[e1 _ (by omega:k+1<=k+1+1),j1,HZ (by omega)] at hih
   exact An4 (by omega) hlen hx _ hc (Aby j v.az (k+1)) hih
  ·have e1:EA j v.az (k+1)=[]:=by grind[EA]
   have hp:=Abx j v.az (k+1) (by omega)
   rw[e1]
   by_cases h2:k+1=j
   ·rw[j1,Ie h2,show EA j v.az (k+1+1)=fp x by grind[EA,er]] at hih
    exact An5 (by omega) hlen hx (Yd x (by omega)) hp hih
   ·rw[j1,HZ h2,show EA j v.az (k+1+1)=[] by rw[EA,HZ (by omega)]] at hih
    exact An6 (by omega) hlen hx hc hp hih
noncomputable abbrev Aup:=fun a₀=>(cy 27 [(1,bt (bz (Ac a₀))),(2,bq 0 0),(3,bq 1 0),(4,di (↑1:Int))])
theorem RN(j:Nat)(hj:1<=j)(v:b9)(hn:v.az≠ [])(hv:v.size<=900):Aa PP 83 [dV v] ba (.dagg [di v.n,.arr 2 0 (I v.az)]) (xk v.n (I v.az) (kL j v.az (I v.az)) (EA j v.az (I v.az))):=by
 have hs:=v.size_eq
 have hpos:=List.length_pos_iff.2 hn
 obtain⟨x,hx⟩:∃x,v.az[0]?=G x:=⟨_,HI hpos⟩
 have hc:=DO _ x (HP _) (by have:=b9.size_mem (HO hx);omega)
 have hlp:=Acx j v hv _ 0 rfl hpos
 rw[GD j v.az 0,er hx,show kL j v.az 0=[] from rfl,nil_append,j1,HZ (by omega),show EA j v.az (0+1)=[] by grind[EA]] at hlp
 have h0:(v.az.map eV)[Z 0]?=G (Ac x):=Ap (i:=0) hx
 have hlt:(0:Int)<(I (v.az.map eV):Int):=by grind
 generalize xk v.n (I v.az) (kL j v.az (I v.az)) (EA j v.az (I v.az))=out at hlp⊢
 generalize bi [di v.n,.arr 2 0 (I v.az)]=od at hlp⊢
 refine Po mixed B0 AA (by rfl) (by kernel_rfl) (by rfl) (by rfl) 27 (by rfl) [1] (.h .rn<|.n<|.t<|.h (.xs (Ac x))<|.c (dV x)<|.h (.p (.v (.list [Ac x])))<|.h .g<|.lo [ke 1,ke 2,ke 3,ch 4 (di (1:Nat))] (gm v.n 1 (fg x) [])) ?_
 refine fv (by kernel_rfl:(Y (0<(I (map eV v.az):Int))=J/\Q 2/\iz 0<=0/\(map eV v.az)[Z 0]?=G (Ac x)/\Av5 x/\(∀(τ:St),Ai PP qd [dV x] τ (bt (ai [Ac x])) τ)/\[Ac x]≠ []/\(∀(y:V),y∈ [Ac x]->V.size y=2)/\Ao 1 32/\yp/\di (yu yt (0+1))=di (↑1:Int)/\cm 3 [] [G [di 0,dn],G [di v.n,bm 2 1 2],G (dp x.n x.az)]=J/\[G [di 0,dn],G [di v.n,bm 2 1 2],G (dp x.n x.az)]=[G [di 0,dn],G [di v.n,bm 2 1 2],G (fg x)]/\I0 B0 (I ba.H) od out tu (Aup v) (gm v.n 1 (fg x) []))=_) ?_
 exact⟨HK hlt,rfl,Il _,h0,hc,fun τ=>pa x τ rfl,by simp,fun y hy=>by rw[HY.1 hy];rfl,⟨by decide,by decide⟩,yn,Ih di (by decide),rfl,rfl,⟨hlp⟩⟩
structure mi(m:cz):Prop where
 ok:m.ok
 kind:m.kind=2∨m.kind=3
 few:I m.av<=12/\1<=I m.ay/\m.ay.length<=2
 ax:I m.ax<=16
 au:m.kind=3->Dd m.au=J/\m.au.length=I m.ax
 rule:∀r∈m.av,wo m r
noncomputable abbrev Aif:=Tryz.f171
theorem Og{m:cz}(hm:mi m):F0 171 [Ad m] (di 0):=by
 have hc:=Gs m hm.ok
 rcases hm.kind with hk|hk
 ·refine sv Aif 17 [1] (.c (di 0)<|.k<|.f .r) (ti m/\(m.kind !=2)=O/\Q (di 0)) ?_
  grind
 ·refine sv Aif 17 [1] (.c (di 0)<|.k<|.t<|.f .r) (ti m/\(m.kind !=2)=J/\(m.kind !=3)=O/\Q (di 0)) ?_
  grind
theorem AaU(H:List (Option (List D)))(j:Nat)(hj:1<=j)(v:b9)(hn:v.az≠ [])(hv:v.size<=900){o:yy}{cl:Call}{fo:x8}(ho:o.op=.call cl)(hc2:cl.callee=.value fo):Ai PP o [.v (.fn 83 [] []),dV v] ⟨H,[]⟩ (.dagg [di v.n,.arr (I H+2) 0 (I v.az)]) ⟨H++[G [di v.n,.arr (I H+2) 0 (I v.az)],G [di v.n,.arr (I H+2) 0 (I v.az)],G (kL j v.az (I v.az))],EA j v.az (I v.az)⟩:=by
 have hp:=Aby j v.az (I v.az)
 have hp0:=Abx j v.az (I v.az)
 have hsp:=RN j hj v hn hv
 by_cases h1:j<I v.az
 ·have eo:EA j v.az (I v.az)=fp (v.az.getD j e6):=by grind[EA]
  rw[eo] at hsp⊢
  generalize kL j v.az (I v.az)=L at hp hsp⊢
  have h:=B3 (σ:=⟨H,[]⟩) ho hc2 (fD:=.v (.fn 83 [] [])) rfl (ds:=[dV v]) [] id hsp (.cons (.ren (dc:=dV v) rfl) .nil) .nil (by simp) rfl (by simp) (by simp) (by rfl) (by simp[cm,D.okN,D.okNs,hp.1])
  simpa[CO,Cy,DM,D.ren,D.rens,ez,hp.2] using h
 ·have hp:=hp0 (by omega)
  generalize kL j v.az (I v.az)=L at hp hsp⊢
  have h:=B3 (σ:=⟨H,[]⟩) ho hc2 (fD:=.v (.fn 83 [] [])) rfl (ds:=[dV v]) [] id hsp (.cons (.ren (dc:=dV v) rfl) .nil) .nil (by simp) rfl (by simp) (by simp) (by rfl) (by grind[cm,D.okN,D.okNs,AO])
  simpa[CO,Cy,DM,D.ren,D.rens,ez,A7 hp] using h
theorem Tw(l:List b9)(j:Nat):∀k:Nat,k<=j->k<=I l->kL j l k=Ab ((l.take k).map eV)
 |0,_,_=>rfl
 |k+1,h,hl=>by
  obtain⟨x,hx⟩:=@yk _ l k (by omega)
  rw[GD,Tw l j k (by omega) (by omega),er hx,j1,HZ (by omega),IW,hx,Option.toList_some, ←EH]
noncomputable abbrev Amt:=Tryz.f175
theorem WA(s:Int)(ws:List (List Int))(hz:(dx s ws).size<=128)(k:Nat)(w w':List Int)(hk:ws[k]?=G w)(hw:I w'<=100):F0 175 [dV (dx s ws),di k,cx w'] (dV (dx s (ws.set k w'))):=by
 obtain⟨l,hl⟩:∃l,l=(dx s ws).az:=⟨_,rfl⟩
 have hkl:=(HL.1 hk).1
 have hll:I l=1+I ws:=by rw[hl];show(lf s::ws.map dy).length=_;grind
 have hne:(dx s ws).az≠ []:=by grind
 have hcp:∀(o:yy) (cl:Call) (fo:x8),o.op=.call cl->cl.callee=.value fo->Ai PP o [.v (.fn 83 [] []),dV (dx s ws)] ⟨[G [di 0,.v .nils]],[]⟩ (.dagg [di 0,.arr 3 0 (I l)]) ⟨[G [di 0,.v .nils],G [di 0,.arr 3 0 (I l)],G [di 0,.arr 3 0 (I l)],G (Ab (l.map eV))],[]⟩:=fun o cl fo ho hc=>by
  have h:=AaU [G [di 0,.v .nils]] (I l) (by omega) (dx s ws) hne (by omega) ho hc
  rw[←hl] at h
  rw[Tw l (I l) (I l) (HP _) (HP _),take_length,show EA (I l) l (I l)=[] by grind[EA]] at h
  exact h
 obtain⟨X,hX⟩:∃X,X=l.set (1+k) (dy w'):=⟨_,rfl⟩
 have hR:dx s (ws.set k w')=.mk 0 X:=by
  grind[map_set,b9.az,dx]
 rw[hR]
 have hs0:=Ql l (1+k) (dy w') (by omega)
 rw[←hX] at hs0
 have hfl:=AU l
 have hlb:I l<=128:=by have h1:=(dx s ws).size_eq;grind[b9.length_le]
 generalize dx s ws=c at hcp⊢
 refine sv Amt 18 [3] (.h (.oc (.dagg [di 0,.arr 3 0 (I l)]) ⟨[G [di 0,.v .nils],G [di 0,.arr 3 0 (I l)],G [di 0,.arr 3 0 (I l)],G (Ab (l.map eV))],[]⟩)<|.c (dV (dy w'))<|.h .ww<|.h (.q 3 0)<|.h (.cs ⟨[G [di 0,.v .nils],G [di 0,.arr 3 0 (I l)],G [di 0,.arr 3 0 (I l)],none,G [di 0,cq X]],[]⟩) .r) ((∀(o:yy) (c_1:Call) (fo:x8),o.op=Op.call c_1->c_1.callee=Callee.value fo->Ai PP o [bt (bw 83 [] []),dV c] (bh [G [di 0,dn]] []) (bi [di 0,bo 3 0 (I l)]) (bh [G [di 0,dn],G [di 0,bo 3 0 (I l)],G [di 0,bo 3 0 (I l)],G (Ab (U eV l))] []))/\F0 242 [cx w'] (dV (dy w'))/\0<=yu yt (1+(k:Int))/\yu yt (1+(k:Int))<(I l:Int)/\0+Z (yu yt (1+(k:Int)))*2+2<=I (Ab (U eV l))/\yp/\(∀(e:List D) (E:cd) (g:Gh) (a:Act) (w:x5),FI E g (bh [G [di 0,dn],G [di 0,bo 3 0 (I l)],G [di 0,bo 3 0 (I l)],G (take (0+Z (yu yt (1+(k:Int)))*2) (Ab (U eV l))++Az (dV (dy w'))++W (0+Z (yu yt (1+(k:Int)))*2+2) (Ab (U eV l))),G [di 0,bo 3 0 (I l)]] []) e a w->∃g',FI E g' (bh [G [di 0,dn],G [di 0,bo 3 0 (I l)],G [di 0,bo 3 0 (I l)],none,G [di 0,cq X]] []) e a w)/\bt (ab [vi 0,ai (U eV X)])=dV (b9.mk 0 X)) ?_
 have hw1:yt.wrap (1+(k:Int))=((1+k:Nat):Int):=by grind[Ak]
 rw[hw1]
 have e1:0+Z ((1+k:Nat):Int)*2=(1+k)*2:=by omega
 rw[e1]
 refine⟨hcp,W6 w' (by omega),by omega,by omega,by omega,yn,fun e=>?_,rfl⟩
 rw[show(Ab (l.map eV)).take ((1+k)*2)++Az (dV (dy w'))++(Ab (l.map eV)).drop ((1+k)*2+2)=Ab (X.map eV) from hs0]
 exact BY (σ:=⟨[G [di 0,.v .nils],G [di 0,.arr 3 0 (I l)],G [di 0,.arr 3 0 (I l)],G (Ab (X.map eV)),G [di 0,.arr 3 0 (I l)]],[]⟩) (p:=4) (q:=3) (i:=1) (sz:=2) (cs:=[di 0,.arr 3 0 (I l)]) (xs:=X.map eV) (by decide) rfl rfl (by decide) (by grind) (Da _) e
noncomputable abbrev GO:=Tryz.f111
noncomputable def Cl:=yl GO
def AjU(m:cz)(w:List Int):List (List Int):=if (m.kind==3)=J then CB (Cx m.au w (I w-1)) else CB (CE w (I w))
theorem Aiy{w:List Int}(h1:I w<=12)(h2:∀x∈w,0<=x/\x<16):S2 w=J:=by
 grind[S2]
theorem SZ{rk:List Int}(h:Dd rk=J):ud rk=J:=h
theorem AnB{m:cz}(hm:mi m){w:List Int}(h1:I w<=12)(h2:∀x∈w,0<=x/\x<I m.ax):EM m w=AjU m w:=by
 unfold EM AjU
 split
 ·rename_i hk
  obtain⟨r1,r2⟩:=hm.au (by grind)
  grind[Gg,pb,SZ]
 ·have:=hm.ax
  grind[FW,Aiy]
theorem UO{B:Nat}:∀{l:List b9},(∀v∈l,v.size<=B)->b9.sizes l<=B*I l
 |[],_=>HP _
 |v::l,h=>by
  have h2:=UO (l:=l) fun z hz=>h z (by grind)
  grind[b9.sizes,Nat.mul_succ]
theorem AdM(l:List b9)(v:b9):Ew (l++[v])=BT (Ew l) v:=by
 rw[←LX (l:=l++[v]) (k:=l++[v]) (fun _=>Iff.rfl), ←LX (l:=l) (k:=l) (fun _=>Iff.rfl),List.foldl_append];rfl
theorem S6{l:List b9}(h1:I l<=100)(h2:∀v∈l,v.size<=200):b9.sizes (Ew l)<=1000000:=by
 have:=UO (l:=Ew l) fun v hv=>h2 v (OZ hv)
 grind[Uk]
section
variable {m : cz} (hm : mi m) {s : Int} {ws : List (List Int)} (h : ja m s ws) (out : List b9)
include hm h
theorem sa:(dx s ws).size<=128:=by
 have:=Fq hm.kind hm.few.2.2 h
 grind[Ah]
theorem AfL(k:Nat)(w:List Int)(hw:ws[k]?=G w)(l2:Rn PP GO 0 (dq (out,0)) ba ([kl Cl [1,1,1,1,0,1,0,0],.blk 0,kc Cl [1,1,1,1,1]]++[]) (cy 60 [(2,.v (.ref (A0 m))),(3,.v (.ref (Ac (dx s ws)))),(7,cq (Ew (fk m (dx s ws) k++(EM m w).map (gh (dx s ws) k)))),(8,di (k+1:Nat))]) ba)(n:Nat):
  ∀j:Nat,I (EM m w)-j=n->Rn PP GO 0 (dq (out,0)) ba ([kl Cl [1,1,1,1,0,1,0,0,1,0,0,1,1,1,1,0,0],.blk 2,.blk 1,kc Cl [1,1,1,1,0,1,0,0,1,1],kl Cl [1,1,1,1,0,1,0,0],.blk 0,kc Cl [1,1,1,1,1]]++[]) (cy 60 [(2,.v (.ref (A0 m))),(3,.v (.ref (Ac (dx s ws)))),(7,cq (Ew (fk m (dx s ws) k++((EM m w).take j).map (gh (dx s ws) k)))),(8,di k),(10,dl ((EM m w).map cw)),(11,di j)]) ba:=by
 have hkl:=(HL.1 hw).1
 have hpl:=h.len
 have hp2:=hm.few.2.2
 have hcz:=sa hm h
 have hdl:=LR m w
 have hlf:=PE m (dx s ws) k
 have hkk:(dx s ws).az.length=1+I ws:=by show(lf s::ws.map dy).length=_;simp;omega
 induction n with
 |zero=>
  intro j hn
  rw[Im (by omega)]
  generalize Ew (fk m (dx s ws) k++(EM m w).map (gh (dx s ws) k))=acc at l2⊢
  generalize EM m w=D at hn⊢
  generalize dx s ws=c at l2⊢
  exact lv 60 [2,3] (.f<|.l [ke 2,ke 3,ke 7,ch 8 (di (k+1:Nat))]) (Y ((j:Int)<(I (U cw D):Int))=O/\di (yu yt ((k:Int)+1))=di (↑(k+1):Int)/\_) ⟨HM (by rw[HH];omega),Ae,iK l2⟩
 |succ n ih=>
  intro j hn
  obtain⟨w',hw'⟩:∃w',(EM m w)[j]?=G w':=⟨_,HI (show j<I (EM m w) by omega)⟩
  have hmem:=HO hw'
  have hw12:=hdl.2 w' hmem
  have ih':=ih (j+1) (by omega)
  rw[IW,hw',Option.toList_some,IZ, ←IQ] at ih'
  rw[Ik,IF,AdM] at ih'
  have hs18:=WA s ws hcz k w w' hw (by omega)
  have ev:gh (dx s ws) k w'=dx s (ws.set k w'):=by rw[gh,Gu,Gt hw];rfl
  have hvz:(gh (dx s ws) k w').size<=200:=PC hcz (by omega) hw12
  have hbd:b9.sizes (Ew (fk m (dx s ws) k++((EM m w).take j).map (gh (dx s ws) k)))<=1000000:=S6 (by rw[HW,HH,Ip];omega) fun v hv=>by
   rcases I6.1 hv with hv|hv
   ·exact PD hcz (by omega) hv
   ·obtain⟨u,hu,rfl⟩:=I2.1 hv
    exact PC hcz (by omega) (hdl.2 u (Ji hu))
  have hpt:=Px _ _ hbd (by omega:(gh (dx s ws) k w').size<=1000000)
  rw[←ev] at hs18
  generalize Ew (fk m (dx s ws) k++((EM m w).take j).map (gh (dx s ws) k))=acc at ih' hpt⊢
  generalize gh (dx s ws) k w'=v at ih' hpt hs18
  generalize EM m w=D at hn hw' ih' hdl⊢
  generalize dx s ws=c at ih' hs18⊢
  exact lv 60 [2,3] (.t<|.x (cw w')<|.c (dV v)<|.c (cq (BT acc v))<|.l [ke 2,ke 3,ch 7 (cq (BT acc v)),ke 8,ke 10,ch 11 (di (j+1:Nat))]) (Y ((j:Int)<(I (U cw D):Int))=J/\0<=(j:Int)/\(U cw D)[Z (j:Int)]?=G (cw w')/\_/\_/\Q (cq (BT acc v))/\di (yu yt ((j:Int)+1))=di (↑(j+1):Int)/\_) ⟨HK (by rw[HH];omega),by omega,by rw[IR,I1,hw'];rfl,hs18,hpt,rfl,Ae,iK ih'⟩
noncomputable abbrev Au1:=[kl Cl [1,1,1,1,0,1,0,0,1,0,0,1,1,1,1,0,0],bf 2,bf 1,kc Cl [1,1,1,1,0,1,0,0,1,1],kl Cl ia,bf 0,kc Cl [1,1,1,1,1]]
theorem X4(hout:out=Ew (fk m (dx s ws) (I m.ay)))(n:Nat):∀k:Nat,I m.ay-k=n->k<=I m.ay->
  Rn PP GO 0 (dq (out,0)) ba ([kl Cl [1,1,1,1,0,1,0,0],.blk 0,kc Cl [1,1,1,1,1]]++[]) (cy 60 [(2,.v (.ref (A0 m))),(3,.v (.ref (Ac (dx s ws)))),(7,cq (Ew (fk m (dx s ws) k))),(8,di k)]) ba:=by
 have hpl:=h.len
 have hp2:=hm.few.2.2
 induction n with
 |zero=>
  intro k hn hk
  rw[hout,show I m.ay=k by omega]
  generalize Ew (fk m (dx s ws) k)=acc
  generalize dx s ws=c
  exact lv 60 [2,3] (.f .r) (Y ((k:Int)<(I (df m.ay):Int))=O/\bk [cq acc,di 0]=dq (acc,0)) ⟨HM (by rw[HH];omega),rfl⟩
 |succ n ih=>
  intro k hn hk
  obtain⟨w,hw⟩:=yk (show k<I ws by omega)
  have hww:=h.word w (HO hw)
  have hlt:=hm.ax
  have hl2:=ih (k+1) (by omega) (by omega)
  rw[LI,JC hw,KJ] at hl2
  have hin:=AfL hm h out k w hw hl2 _ 0 rfl
  rw[List.take_zero,IF,I8 (fk m (dx s ws) k),AnB hm hww.1 hww.2] at hin
  have hle:=X7 (dy w) (by show(w.map lf).length<=1000;rw[HH];omega)
  rw[KJ] at hle
  have hkid:((dx s ws).az.map eV)[Z ((1+k:Nat):Int)]?=G (Ac (dy w)):=by
   refine Ap (i:=1+k) ?_
   show(lf s::ws.map dy)[1+k]?=_
   rw[show 1+k=k+1 by omega,J0,I1,hw];rfl
  have hd2:=XT w hww.1 fun x hx=>by have:=hww.2 x hx;omega
  have hw1:yt.wrap (1+(k:Int))=((1+k:Nat):Int):=by rw[Ak];omega
  generalize Ew (fk m (dx s ws) k)=acc at hin⊢
  generalize dx s ws=c at hin hkid⊢
  unfold AjU at hin
  by_cases hk3:(m.kind==3)=J
  ·rw[Ie hk3] at hin
   obtain⟨r1,r2⟩:=hm.au (by simpa using hk3)
   have hd5:=XR m.au w r1 hww.1 (by omega) fun x hx=>by have:=hww.2 x hx;omega
   generalize CB (Cx m.au w (I w-1))=D at hin hd5
   generalize CB (CE w (I w))=D2 at hd2
   refine lv 60 [2,3] (.t<|.h (.xs (Ac (dy w)))<|.c (cx w)<|.c (dl (D2.map cw))<|.t<|.c (dl (D.map cw))<|.l [ke 2,ke 3,ke 7,ke 8,ch 10 (dl (D.map cw)),ch 11 (di (0:Nat))]) (Y ((k:Int)<(I (df m.ay):Int))=J/\Q 2/\0<=yu yt (1+(k:Int))/\(ce c.az)[Z (yu yt (1+(k:Int)))]?=G (Ac (dy w))/\F0 172 [Dv.D.v (Ac (dy w))] (cx w)/\F0 173 [Dv.D.v (cw w)] (dl (U cw D2))/\(m.kind==3)=J/\F0 174 [Dv.D.v (cw m.au),Dv.D.v (cw w)] (dl (U cw D))/\Q (dl (U cw D))/\di 0=di (↑0:Int)/\I0 GO 0 (dq (out,0)) ba Au1 (cy 60 [(2,Dv.D.v (gd m)),(3,Dv.D.v (jy c)),(7,Dv.D.v (dt acc)),(8,di (k:Int)),(10,dl (U cw D)),(11,di (↑0:Int))]) ba) ?_
   rw[hw1]
   exact⟨HK (by rw[HH];omega),rfl,by omega,hkid,hle,hd2,hk3,hd5,rfl,rfl,⟨hin⟩⟩
  ·rw[HZ hk3] at hin
   generalize CB (CE w (I w))=D at hin hd2
   refine lv 60 [2,3] (.t<|.h (.xs (Ac (dy w)))<|.c (cx w)<|.c (dl (D.map cw))<|.f<|.l [ke 2,ke 3,ke 7,ke 8,ch 10 (dl (D.map cw)),ch 11 (di (0:Nat))]) (Y ((k:Int)<(I (df m.ay):Int))=J/\Q 2/\0<=yu yt (1+(k:Int))/\(ce c.az)[Z (yu yt (1+(k:Int)))]?=G (Ac (dy w))/\F0 172 [Dv.D.v (Ac (dy w))] (cx w)/\F0 173 [Dv.D.v (cw w)] (dl (U cw D))/\(m.kind==3)=O/\Q (dl (U cw D))/\di 0=di (↑0:Int)/\I0 GO 0 (dq (out,0)) ba Au1 (cy 60 [(2,Dv.D.v (gd m)),(3,Dv.D.v (jy c)),(7,Dv.D.v (dt acc)),(8,di (k:Int)),(10,dl (U cw D)),(11,di (↑0:Int))]) ba) ?_
   rw[hw1]
   exact⟨HK (by rw[HH];omega),rfl,by omega,hkid,hle,hd2,HU hk3,rfl,rfl,⟨hin⟩⟩
theorem Oe:F0 111 [Ad m,dV (dx s ws)] (dq (sortV (fk m (dx s ws) (I m.ay)),0)):=by
 obtain⟨a1,a2⟩:=Abr h.len
 obtain⟨b1,b2⟩:=U0 (fk m (dx s ws) (I m.ay))
 have e:sortV (fk m (dx s ws) (I m.ay))=Ew (fk m (dx s ws) (I m.ay)):=TM LQ a1 b1 fun x=>by grind[AR]
 rw[e]
 have hlp:=X4 hm h _ rfl _ 0 rfl (Iu _)
 rw[show Ew (fk m (dx s ws) 0)=[] by simp[fk,Ew,sortV,AM]] at hlp
 have hv:=Dq m hm.ok (dx s ws) (by grind[sa])
 rw[Fq hm.kind hm.few.2.2 h] at hv
 generalize Ew (fk m (dx s ws) (I m.ay))=out at hlp⊢
 generalize dx s ws=c at hlp hv⊢
 exact sv GO 60 [2,3] (.c (di 0)<|.k<|.c (db J)<|.k<|.h (.q 7 0)<|.h (.ct 7 (cq []) ba)<|.l [ke 2,ke 3,ke 7,ch 8 (di (0:Nat))]) (_/\_/\(∀(e:List D),e[7]?=G (dn)->∀(E:cd) (g:Gh) (a:Act) (w:x5),FI E g ba e a w->∃g',FI E g' ba (List.set e 7 (cq [])) a w)/\Q (di 0)/\_) ⟨Og hm,hv,fun e he=>XX e he,rfl,iK hlp⟩
end
noncomputable abbrev VQ:=Tryz.f121
section
variable {m : cz} (hm : mi m) {s : Int} {ws : List (List Int)} (h : ja m s ws) {i : Nat} {r : cf} (hi : m.av[i]? = G r) {k : Nat} (hk : r.chan = k) {w : List Int} (hw : ws[k]? = G w)
include hm h hi hk hw
noncomputable abbrev Av1:=fun a₀=>F0 171 [Ad a₀] (di 0)
theorem XP:F0 121 [Ad m,di i,dV (dx s ws)] (.tup [db ((s==r.aj)&&((r.act !=2)||w.head?==G r.letter)),di 0]):=by
 have hir:=(HL.1 hi).1
 have hfew:=hm.few.1
 have hkd:=Og hm
 have hv:=Dq m hm.ok (dx s ws) (by have:=sa hm h;omega)
 rw[Fq hm.kind hm.few.2.2 h] at hv
 have hlen:(I (m.av.map Al):Int)=I m.av:=by rw[HH]
 have hkl:=(HL.1 hw).1
 have hpl:=h.len
 have hp2:=hm.few.2.2
 have h0:((dx s ws).az.map eV)[Z 0]?=G (Ac (lf s)):=Ap (i:=0) (by rfl)
 have hkid:((dx s ws).az.map eV)[Z ((1+k:Nat):Int)]?=G (Ac (dy w)):=by
  refine Ap (i:=1+k) ?_
  show(lf s::ws.map dy)[1+k]?=_
  rw[show 1+k=k+1 by omega,J0,I1,hw];rfl
 have hw1:yt.wrap (1+r.chan)=((1+k:Nat):Int):=by rw[hk,Ak];omega
 generalize dx s ws=c at hv h0 hkid⊢
 by_cases c1:(s==r.aj)=J
 ·have n1:(s !=r.aj)=O:=by rw[bne,c1];rfl
  rw[c1,Is]
  by_cases c2:(r.act !=2)=J
  ·rw[c2,Bool.true_or]
   refine sv VQ 67 [3,5] (.c (di 0)<|.k<|.f<|.f<|.c (db J)<|.k<|.x (Al r)<|.h (.xs (Ac (lf s)))<|.f<|.h (.xs (Ac (dy w)))<|.t .r) (Av1 m/\Y ((i:Int)<0)=O/\Y ((i:Int)>=(I (U Al m.av):Int))=O/\j8 m c/\0<=(i:Int)/\(U Al m.av)[Z (i:Int)]?=G (Al r)/\Q 2/\iz 0<=0/\(ce c.az)[Z 0]?=G (Ac (lf s))/\yp/\(b9.n (lf s) !=r.aj)=O/\Q 2/\0<=yu yt (1+r.chan)/\(ce c.az)[Z (yu yt (1+r.chan))]?=G (Ac (dy w))/\(r.act !=2)=J/\yp/\Q (bk [db J,di 0])) ?_
   rw[hw1]
   exact⟨hkd,yq,HM (by rw[hlen];omega),hv,by omega,Am hi,rfl,Il _,h0,yn,n1,rfl,by omega,hkid,c2,yn,rfl⟩
  ·rw[HU c2,Bool.false_or]
   cases w with
   |nil=>
    refine sv VQ 67 [3,5] (.c (di 0)<|.k<|.f<|.f<|.c (db J)<|.k<|.x (Al r)<|.h (.xs (Ac (lf s)))<|.f<|.h (.xs (Ac (dy [])))<|.f<|.k .r) (Av1 m/\Y ((i:Int)<0)=O/\Y ((i:Int)>=(I (U Al m.av):Int))=O/\j8 m c/\0<=(i:Int)/\(U Al m.av)[Z (i:Int)]?=G (Al r)/\Q 2/\iz 0<=0/\(ce c.az)[Z 0]?=G (Ac (lf s))/\yp/\(b9.n (lf s) !=r.aj)=O/\Q 2/\0<=yu yt (1+r.chan)/\(ce c.az)[Z (yu yt (1+r.chan))]?=G (Ac (dy []))/\(r.act !=2)=O/\yp/\bk [db O,di 0]=bk [db (List.head? []==G r.letter),di 0]) ?_
    rw[hw1]
    exact⟨hkd,yq,HM (by rw[hlen];omega),hv,by omega,Am hi,rfl,Il _,h0,yn,n1,rfl,by omega,hkid,HU c2,yn,rfl⟩
   |cons y w=>
    refine sv VQ 67 [3,5] (.c (di 0)<|.k<|.f<|.f<|.c (db J)<|.k<|.x (Al r)<|.h (.xs (Ac (lf s)))<|.f<|.h (.xs (Ac (dy (y::w))))<|.f<|.t<|.h (.xs (Ac (lf y))) .r) (Av1 m/\Y ((i:Int)<0)=O/\Y ((i:Int)>=(I (U Al m.av):Int))=O/\j8 m c/\0<=(i:Int)/\(U Al m.av)[Z (i:Int)]?=G (Al r)/\Q 2/\iz 0<=0/\(ce c.az)[Z 0]?=G (Ac (lf s))/\yp/\(b9.n (lf s) !=r.aj)=O/\Q 2/\0<=yu yt (1+r.chan)/\(ce c.az)[Z (yu yt (1+r.chan))]?=G (Ac (dy (y::w)))/\(r.act !=2)=O/\Y ((I (U eV (b9.az (dy (y::w)))):Int)>0)=J/\Q 2/\iz 0<=0/\G (eV (lf y))=G (Ac (lf y))/\yo/\bk [db (b9.n (lf y)==r.letter),di 0]=bk [db (List.head? (y::w)==G r.letter),di 0]) ?_
    rw[hw1]
    exact⟨hkd,yq,HM (by rw[hlen];omega),hv,by omega,Am hi,rfl,Il _,h0,yn,n1,rfl,by omega,hkid,HU c2,HK (by show(0:Int)<(I ((dy (y::w)).az.map eV):Int);rw[HH];show(0:Int)<(I ((y::w).map lf):Int);rw[HH,HN];omega),rfl,Il _,Ih G (AH (lf y)),ym,by simp only[List.head?_cons,Option.some_beq_some];rfl⟩
 ·rw[HU c1,Iq]
  have n1:(s !=r.aj)=J:=by rw[bne,HU c1];rfl
  exact sv VQ 67 [3,5] (.c (di 0)<|.k<|.f<|.f<|.c (db J)<|.k<|.x (Al r)<|.h (.xs (Ac (lf s)))<|.t .r) (_/\Y ((i:Int)<0)=O/\Y ((i:Int)>=(I (U Al m.av):Int))=O/\_/\0<=(i:Int)/\(U Al m.av)[Z (i:Int)]?=G (Al r)/\Q 2/\iz 0<=0/\_/\yp/\_/\Q (bk [db O,di 0])) ⟨hkd,yq,HM (by rw[hlen];omega),hv,by omega,Am hi,rfl,Il _,h0,yn,n1,rfl⟩
end
theorem Alb(j:Nat)(l:List b9):∀k:Nat,k<=I l->(kL j l k).map (io [] false)=Ab ((l.take k).map eV)
 |0,_=>rfl
 |k+1,h=>by
  obtain⟨x,hx⟩:=@yk _ l k (by omega)
  rw[GD,IZ,Alb j l k (by omega),er hx,IW,hx,Option.toList_some, ←EH]
  congr 1
  unfold j1
  split<;>rfl
theorem Amo{j:Nat}{l:List b9}{x:b9}(hx:l[j]?=G x):∀n:Nat,j<n->(kL j l n)[j*2+1]?=G (.acc 1 (x.az.map eV))
 |0,h=>by omega
 |n+1,h=>by
  rw[GD]
  by_cases e:j=n
  ·grind[VB,j1]
  ·rw[Ig (by grind[VB])]
   exact Amo hx n (by omega)
abbrev nx(r:cf)(n:Nat)(own:List (Nat×Nat×List V))(X:List b9):St:=⟨[G [di 0,.v .nils],G (rC r),G [di 0,.arr 4 0 n],G [di 0,.arr 4 0 n],none,G [di 0,cq X]],own⟩
theorem LN{r:cf}{n:Nat}{own:List (Nat×Nat×List V)}{L:List D}{X:List b9}(hL:L.map (io [] false)=Ab (X.map eV))(hX:I X=n)(e:List D):Cv e ⟨[G [di 0,.v .nils],G (rC r),G [di 0,.arr 4 0 n],G [di 0,.arr 4 0 n],G L,G [di 0,.arr 4 0 n]],own⟩ e (nx r n own X):=by
 have h1:=D0 (σ:=⟨[G [di 0,.v .nils],G (rC r),G [di 0,.arr 4 0 n],G [di 0,.arr 4 0 n],G L,G [di 0,.arr 4 0 n]],own⟩) (q:=4) (cs:=L) (cs':=Ab (X.map eV)) rfl (fun g us hr=>by
  grind[D7]) (fun _ c hc=>I5.1 (CV X) c hc) e
 refine PU h1 ?_
 exact BY (σ:=⟨[G [di 0,.v .nils],G (rC r),G [di 0,.arr 4 0 n],G [di 0,.arr 4 0 n],G (Ab (X.map eV)),G [di 0,.arr 4 0 n]],own⟩) (p:=5) (q:=4) (i:=1) (sz:=2) (cs:=[di 0,.arr 4 0 n]) (xs:=X.map eV) (by decide) rfl rfl (by decide) (by grind) (Da _) e
theorem UM:∀(ws:List (List Int)),(∀w∈ws,I w<=13)->b9.sizes (ws.map dy)<=14*I ws
 |[],_=>HP _
 |w::ws,h=>by
  have h2:=UM ws fun z hz=>h z (by grind)
  grind[TY,b9.sizes]
theorem AjT{m:cz}(hk:m.kind=2∨m.kind=3){s:Int}{ws:List (List Int)}{w:List Int}(hw:w∈ws)(hl:12<I w):Ah (AE m) (dx s ws)=O:=by
 cases hv:Ah (AE m) (dx s ws) with
 |false=>rfl
 |true=>
  obtain⟨s',ws',e,h⟩:=TI hk hv
  obtain⟨_,e2⟩:=TJ e
  rw[e2] at hw
  have:=(h.word w hw).1
  omega
noncomputable abbrev RF:=Tryz.f64
section
variable {m : cz} (hm : mi m) {s : Int} {ws : List (List Int)} (h : ja m s ws) {i : Nat} {r : cf} (hi : m.av[i]? = G r) {k : Nat} (hk : r.chan = k) {w : List Int} (hw : ws[k]? = G w)
include hm h hi hk hw
noncomputable abbrev Ate:=fun a₀ (b₀:Nat) c₀=>F0 121 [Ad a₀,di (b₀:Int),dV c₀] (bk [db J,di 0])
noncomputable abbrev Atg:=fun a₀=>(b9.az (dy a₀))
noncomputable abbrev Aun:=fun a₀ b₀=>F0 33 [Ad a₀,bt (ab [vi 0,dt b₀])] (db J)
theorem YA:F0 64 [Ad m,di i,dV (dx s ws)] (dP (YP (AE m) r (dx s ws))):=by
 have hen:=XP hm h hi hk hw
 have hir:=(HL.1 hi).1
 have hfew:=hm.few.1
 have hcz:=sa hm h
 have hkl:=(HL.1 hw).1
 have hpl:=h.len
 have hp2:=hm.few.2.2
 have hw12:=(h.word w (HO hw)).1
 rw[RX hm.kind hp2 h hk hw]
 obtain⟨l,hl⟩:∃l,l=(dx s ws).az:=⟨_,rfl⟩
 have hll:I l=1+I ws:=by rw[hl];show(lf s::ws.map dy).length=_;simp;omega
 have hne:(dx s ws).az≠ []:=by rw[←hl];intro e;rw[e] at hll;simp at hll;omega
 have hlx:l[1+k]?=G (dy w):=by
  rw[hl];show(lf s::ws.map dy)[1+k]?=_
  rw[show 1+k=k+1 by omega,J0,I1,hw];rfl
 obtain⟨L,hL⟩:∃L,L=kL (1+k) l (I l):=⟨_,rfl⟩
 have hLl:=VB (1+k) l (I l)
 have hLx:=Amo hlx (I l) (by omega)
 have hLw:=Alb (1+k) l (I l) (HP _)
 rw[take_length] at hLw
 rw[←hL] at hLl hLx hLw
 have hcp:∀(o:yy) (cl:Call) (fo:x8),o.op=.call cl->cl.callee=.value fo->Ai PP o [.v (.fn 83 [] []),dV (dx s ws)] ⟨[G [di 0,.v .nils],G (rC r)],[]⟩ (.dagg [di 0,.arr 4 0 (I l)]) ⟨[G [di 0,.v .nils],G (rC r),G [di 0,.arr 4 0 (I l)],G [di 0,.arr 4 0 (I l)],G L],fp (dy w)⟩:=fun o cl fo ho hc=>by
  have h:=AaU [G [di 0,.v .nils],G (rC r)] (1+k) (by omega) (dx s ws) hne (by omega) ho hc
  rw[←hl] at h
  rw[show EA (1+k) l (I l)=fp (dy w) by rw[EA,Ie (by omega),er hlx], ←hL] at h
  exact h
 -- what is stored
 have hwk:∀(D':D) (w':List Int),io [] false D'=.v (.list ((w'.map lf).map eV))->((L.set 0 (di r.to)).set ((1+k)*2+1) D').map (io [] false)=Ab ((dx r.to (ws.set k w')).az.map eV):=fun D' w' hD=>by
  have hcl:=LW (l:=l) (s0:=lf s) (x:=dy w) (k:=k) (by rw[hl];rfl) hlx r.to w'
  have e1:BU l (lf s) (dy w) r.to (1+k) w'=(dx r.to (ws.set k w')).az:=by
   have:=Gt hw (s:=s) r.to w'
   rw[K3,Gu,JC hw, ←hl] at this
   exact Ih b9.az this
  rw[map_set,map_set,hLw,hD, ←e1, ←hcl,Abu];rfl
 have hXl:∀w':List Int,(dx r.to (ws.set k w')).az.length=I l:=fun w'=>by show(lf r.to::(ws.set k w').map dy).length=_;simp;omega
 have hww:yt.wrap (1+r.chan)=((1+k:Nat):Int):=by rw[hk,Ak];omega
 have hr:=hm.rule r (HO hi)
 have hval:∀w':List Int,I w'<=13->F0 33 [Ad m,dV (dx r.to (ws.set k w'))] (db (Ah (AE m) (dx r.to (ws.set k w')))):=fun w' hw'=>Dq m hm.ok _ (by
  have h1:=UM (ws.set k w') fun u hu=>by
   rcases IN hu with hu|rfl
   ·have:=(h.word u hu).1;omega
   ·exact hw'
  have h2:(dx r.to (ws.set k w')).size=1+(1+b9.sizes ((ws.set k w').map dy)):=by simp only[dx,b9.size,b9.sizes]
  rw[length_set] at h1
  omega)
 have hLs:(L.set 0 (di r.to))[(1+k)*2+1]?=G (.acc 1 ((dy w).az.map eV)):=by rw[List.getElem?_set_ne (by omega)];exact hLx
 have ep:Nat.add (0+Z ((1+k:Nat):Int)*2) 1=(1+k)*2+1:=by show 0+Z ((1+k:Nat):Int)*2+1=_;omega
 have hwd:=(h.word w (HO hw)).2
 have hlk:I ((dy w).az.map eV)=I w:=by rw[HH];exact HH _
 have k32:∀n:Nat,n<=2000->Ao n 32:=fun n hn=>⟨by omega,by omega⟩
 by_cases hb:((s==r.aj)&&((r.act !=2)||w.head?==G r.letter))=J
 ·rw[Ie hb]
  rw[hb] at hen
  by_cases a1:(r.act==1)=J
  ·rw[Ie a1]
   have a2:(r.act==2)=O:=by rw[show r.act=1 by simpa using a1];rfl
   obtain⟨X,hX⟩:∃X,X=(dx r.to (ws.set k (w++[r.letter]))).az:=⟨_,rfl⟩
   have hR:dx r.to (ws.set k (w++[r.letter]))=.mk 0 X:=by rw[hX];rfl
   have hv:=hval (w++[r.letter]) (by rw[HW];simp only[HN,HR];omega)
   have hk2:=hwk (.acc 1 ((dy w).az.map eV++[.agg [vi r.letter,.list []]])) (w++[r.letter]) (by
    have e:ab [vi r.letter,ai []]=eV (lf r.letter):=by rw[AH];rfl
    show bt (.list ((w.map lf).map eV++[ab [vi r.letter,ai []]]))=_
    rw[e,IZ,IZ];rfl)
   have hXl2:=hXl (w++[r.letter])
   rw[←hX] at hk2 hXl2
   by_cases h12:((I w:Int)==12)=J
   ·have h12':(I w:Int)=12:=by simpa using h12
    rw[Ie h12]
    rw[AjT hm.kind (w:=w++[r.letter]) (HO (by rw[List.getElem?_set_self hkl])) (by rw[HW];simp only[HN,HR];omega),hR] at hv
    generalize dx s ws=c at hen hcp⊢
    refine sv RF 76 [3,5] (.c (.tup [db J,di 0])<|.k<|.k<|.x (Al r)<|.h (.oc (.dagg [di 0,.arr 4 0 (I l)]) ⟨[G [di 0,.v .nils],G (rC r),G [di 0,.arr 4 0 (I l)],G [di 0,.arr 4 0 (I l)],G L],fp (dy w)⟩)<|.h (.q 8 5)<|.w<|.h (.q 9 6)<|.m (.acc 1 ((dy w).az.map eV))<|.f<|.t<|.h (.q 14 8)<|.w<|.h (.q 15 0)<|.h (.cs (nx r (I l) [(1,2,(dy w).az.map eV++[.agg [vi r.letter,.list []]])] X))<|.c (db O)<|.k .r) (F0 121 [Ad m,di (i:Int),dV c] (bk [db J,di 0])/\0<=(i:Int)/\(U Al m.av)[Z (i:Int)]?=G (Al r)/\(∀(o:yy) (c_1:Call) (fo:x8),o.op=Op.call c_1->c_1.callee=Callee.value fo->Ai PP o [bt (bw 83 [] []),dV c] (bh [G [di 0,dn],G [bt (ae r.name),di r.aj,di r.to,cx r.am,cx r.ak,cx r.move,di r.chan,di r.act,di r.letter,cx r.path,cx r.next,bt (AD r.ar),cx r.aq,di r.second]] []) (bi [di 0,bo 4 0 (I l)]) (bh [G [di 0,dn],G (rC r),G [di 0,bo 4 0 (I l)],G [di 0,bo 4 0 (I l)],G L] (fp (dy w))))/\iz 0<=0/\0<(I l:Int)/\0<I L/\0<=yu yt (1+r.chan)/\yu yt (1+r.chan)<(I l:Int)/\(List.set L (Nat.add (0+Z 0*2) 0) (di r.to))[Nat.add (0+Z (yu yt (1+r.chan))*2) 1]?=G (br 1 (U eV (b9.az (dy w))))/\(r.act==2)=O/\(r.act==1)=J/\Q (U eV (b9.az (dy w)))/\Ao (I (U eV (b9.az (dy w)))+I (ab (aa yt r.letter::ai nV::nV)::nV)) 32/\0<=yu yt (1+r.chan)/\yu yt (1+r.chan)<(I l:Int)/\Nat.add (0+Z (yu yt (1+r.chan))*2) 1<I (List.set L (Nat.add (0+Z 0*2) 0) (di r.to))/\(∀(e:List D) (E:cd) (g:Gh) (a:Act) (w_1:x5),FI E g (bh [G [di 0,dn],G (rC r),G [di 0,bo 4 0 (I l)],G [di 0,bo 4 0 (I l)],G (List.set (List.set L (Nat.add (0+Z 0*2) 0) (di r.to)) (Nat.add (0+Z (yu yt (1+r.chan))*2) 1) (br 1 (U eV (b9.az (dy w))++[ab [aa yt r.letter,ai []]]))),G [di 0,bo 4 0 (I l)]] [(1,2,U eV (b9.az (dy w))++[ab [aa yt r.letter,ai []]])]) e a w_1->∃g',FI E g' (nx r (I l) [(1,2,U eV (b9.az (dy w))++[ab [vi r.letter,ai []]])] X) e a w_1)/\F0 33 [Ad m,bt (ab [vi 0,dt X])] (db O)/\bk [bt (ab [vi 0,ai []]),di 1]=dP (e6,1)) ?_
    rw[hww,ep]
    exact⟨hen,by omega,Am hi,hcp,Il _,by omega,by omega,by omega,by omega,hLs,a2,a1,rfl,k32 _ (by simp only[HN,HR];omega),by omega,by omega,by rw[length_set];omega,fun e=>LN hk2 hXl2 e,hv,rfl⟩
   ·rw[HZ h12]
    have h12':¬(I w:Int)=12:=by simpa using h12
    rw[Fq hm.kind hp2 (h.set hr.to k (by rw[HW];simp only[HN,HR];omega) fun x hx=>by
     rcases I6.1 hx with hx|hx
     ·exact hwd x hx
     ·rw[HY.1 hx];exact hr.letter (by simpa using a1)),hR] at hv
    rw[hR]
    generalize dx s ws=c at hen hcp⊢
    refine sv RF 76 [3,5] (.c (.tup [db J,di 0])<|.k<|.k<|.x (Al r)<|.h (.oc (.dagg [di 0,.arr 4 0 (I l)]) ⟨[G [di 0,.v .nils],G (rC r),G [di 0,.arr 4 0 (I l)],G [di 0,.arr 4 0 (I l)],G L],fp (dy w)⟩)<|.h (.q 8 5)<|.w<|.h (.q 9 6)<|.m (.acc 1 ((dy w).az.map eV))<|.f<|.t<|.h (.q 14 8)<|.w<|.h (.q 15 0)<|.h (.cs (nx r (I l) [(1,2,(dy w).az.map eV++[.agg [vi r.letter,.list []]])] X))<|.c (db J)<|.k .r) (F0 121 [Ad m,di (i:Int),dV c] (bk [db J,di 0])/\0<=(i:Int)/\(U Al m.av)[Z (i:Int)]?=G (Al r)/\(∀(o:yy) (c_1:Call) (fo:x8),o.op=Op.call c_1->c_1.callee=Callee.value fo->Ai PP o [bt (bw 83 [] []),dV c] (bh [G [di 0,dn],G [bt (ae r.name),di r.aj,di r.to,cx r.am,cx r.ak,cx r.move,di r.chan,di r.act,di r.letter,cx r.path,cx r.next,bt (AD r.ar),cx r.aq,di r.second]] []) (bi [di 0,bo 4 0 (I l)]) (bh [G [di 0,dn],G (rC r),G [di 0,bo 4 0 (I l)],G [di 0,bo 4 0 (I l)],G L] (fp (dy w))))/\iz 0<=0/\0<(I l:Int)/\0<I L/\0<=yu yt (1+r.chan)/\yu yt (1+r.chan)<(I l:Int)/\(List.set L (Nat.add (0+Z 0*2) 0) (di r.to))[Nat.add (0+Z (yu yt (1+r.chan))*2) 1]?=G (br 1 (U eV (b9.az (dy w))))/\(r.act==2)=O/\(r.act==1)=J/\Q (U eV (b9.az (dy w)))/\Ao (I (U eV (b9.az (dy w)))+I (ab (aa yt r.letter::ai nV::nV)::nV)) 32/\0<=yu yt (1+r.chan)/\yu yt (1+r.chan)<(I l:Int)/\Nat.add (0+Z (yu yt (1+r.chan))*2) 1<I (List.set L (Nat.add (0+Z 0*2) 0) (di r.to))/\(∀(e:List D) (E:cd) (g:Gh) (a:Act) (w_1:x5),FI E g (bh [G [di 0,dn],G (rC r),G [di 0,bo 4 0 (I l)],G [di 0,bo 4 0 (I l)],G (List.set (List.set L (Nat.add (0+Z 0*2) 0) (di r.to)) (Nat.add (0+Z (yu yt (1+r.chan))*2) 1) (br 1 (U eV (b9.az (dy w))++[ab [aa yt r.letter,ai []]]))),G [di 0,bo 4 0 (I l)]] [(1,2,U eV (b9.az (dy w))++[ab [aa yt r.letter,ai []]])]) e a w_1->∃g',FI E g' (nx r (I l) [(1,2,U eV (b9.az (dy w))++[ab [vi r.letter,ai []]])] X) e a w_1)/\F0 33 [Ad m,bt (ab [vi 0,dt X])] (db J)/\bk [bt (ab [vi 0,ai (U eV X)]),di 0]=dP (b9.mk 0 X,0)) ?_
    rw[hww,ep]
    exact⟨hen,by omega,Am hi,hcp,Il _,by omega,by omega,by omega,by omega,hLs,a2,a1,rfl,k32 _ (by simp only[HN,HR];omega),by omega,by omega,by rw[length_set];omega,fun e=>LN hk2 hXl2 e,hv,rfl⟩
  ·rw[HZ a1]
   by_cases a2:(r.act==2)=J
   ·rw[Ie a2]
    obtain⟨X,hX⟩:∃X,X=(dx r.to (ws.set k (w.drop 1))).az:=⟨_,rfl⟩
    have hR:dx r.to (ws.set k (w.drop 1))=.mk 0 X:=by rw[hX];rfl
    have hv:=hval (w.drop 1) (by rw[IP];omega)
    rw[Fq hm.kind hp2 (h.set hr.to k (by rw[IP];omega) fun x hx=>hwd x (List.mem_of_mem_drop hx)),hR] at hv
    have hk2:=hwk (.v (.list (((dy w).az.map eV).drop 1))) (w.drop 1) (by
     show bt (.list (((w.map lf).map eV).drop 1))=_
     rw[←map_drop, ←map_drop])
    have hXl2:=hXl (w.drop 1)
    rw[←hX] at hk2 hXl2
    rw[hR]
    generalize dx s ws=c at hen hcp⊢
    refine sv RF 76 [3,5] (.c (.tup [db J,di 0])<|.k<|.k<|.x (Al r)<|.h (.oc (.dagg [di 0,.arr 4 0 (I l)]) ⟨[G [di 0,.v .nils],G (rC r),G [di 0,.arr 4 0 (I l)],G [di 0,.arr 4 0 (I l)],G L],fp (dy w)⟩)<|.h (.q 8 5)<|.w<|.h (.q 9 6)<|.m (.acc 1 ((dy w).az.map eV))<|.t<|.f<|.h (.q 14 8)<|.w<|.h (.q 15 0)<|.h (.cs (nx r (I l) (fp (dy w)) X))<|.c (db J)<|.k .r) (F0 121 [Ad m,di (i:Int),dV c] (bk [db J,di 0])/\0<=(i:Int)/\(U Al m.av)[Z (i:Int)]?=G (Al r)/\(∀(o:yy) (c_1:Call) (fo:x8),o.op=Op.call c_1->c_1.callee=Callee.value fo->Ai PP o [bt (bw 83 [] []),dV c] (bh [G [di 0,dn],G [bt (ae r.name),di r.aj,di r.to,cx r.am,cx r.ak,cx r.move,di r.chan,di r.act,di r.letter,cx r.path,cx r.next,bt (AD r.ar),cx r.aq,di r.second]] []) (bi [di 0,bo 4 0 (I l)]) (bh [G [di 0,dn],G (rC r),G [di 0,bo 4 0 (I l)],G [di 0,bo 4 0 (I l)],G L] (fp (dy w))))/\iz 0<=0/\0<(I l:Int)/\0<I L/\0<=yu yt (1+r.chan)/\yu yt (1+r.chan)<(I l:Int)/\(List.set L (Nat.add (0+Z 0*2) 0) (di r.to))[Nat.add (0+Z (yu yt (1+r.chan))*2) 1]?=G (br 1 (U eV (b9.az (dy w))))/\(r.act==2)=J/\(∀(x:V),x∈U eV (b9.az (dy w))->V.size x=2)/\0<=(1:Int)/\(1:Int)<=(I (U eV (b9.az (dy w))):Int)/\(r.act==1)=O/\0<=yu yt (1+r.chan)/\yu yt (1+r.chan)<(I l:Int)/\Nat.add (0+Z (yu yt (1+r.chan))*2) 1<I (List.set L (Nat.add (0+Z 0*2) 0) (di r.to))/\(∀(e:List D) (E:cd) (g:Gh) (a:Act) (w_1:x5),FI E g (bh [G [di 0,dn],G (rC r),G [di 0,bo 4 0 (I l)],G [di 0,bo 4 0 (I l)],G (List.set (List.set L (Nat.add (0+Z 0*2) 0) (di r.to)) (Nat.add (0+Z (yu yt (1+r.chan))*2) 1) (bt (ai (W (Z ((1:Int))) (take (I (U eV (b9.az (dy w)))) (U eV (b9.az (dy w)))))))),G [di 0,bo 4 0 (I l)]] [(1,2,U eV (b9.az (dy w)))]) e a w_1->∃g',FI E g' (nx r (I l) (fp (dy w)) X) e a w_1)/\F0 33 [Ad m,bt (ab [vi 0,dt X])] (db J)/\bk [bt (ab [vi 0,ai (U eV X)]),di 0]=dP (b9.mk 0 X,0)) ?_
    rw[hww,ep]
    have h1w:1<=I w:=by
     rw[show(r.act !=2)=O by rw[bne,a2];rfl,Bool.false_or] at hb
     cases w with
     |nil=>simp at hb
     |cons y w=>simp
    have ed:W (Z (1:Int)) (take (I ((dy w).az.map eV)) ((dy w).az.map eV))=((dy w).az.map eV).drop 1:=by rw[take_length];rfl
    rw[ed]
    exact⟨hen,by omega,Am hi,hcp,Il _,by omega,by omega,by omega,by omega,hLs,a2,Da _,by decide,by rw[hlk];omega,HU a1,by omega,by omega,by rw[length_set];omega,fun e=>LN hk2 hXl2 e,hv,rfl⟩
   ·rw[HZ a2]
    obtain⟨X,hX⟩:∃X,X=(dx r.to (ws.set k w)).az:=⟨_,rfl⟩
    have hR:dx r.to (ws.set k w)=.mk 0 X:=by rw[hX];rfl
    have hv:=hval w (by omega)
    rw[Fq hm.kind hp2 (h.set hr.to k hw12 hwd),hR] at hv
    have hk2:=hwk (.acc 1 ((dy w).az.map eV)) w rfl
    have hXl2:=hXl w
    rw[←hX] at hk2 hXl2
    rw[hR]
    generalize dx s ws=c at hen hcp⊢
    refine sv RF 76 [3,5] (.c (.tup [db J,di 0])<|.k<|.k<|.x (Al r)<|.h (.oc (.dagg [di 0,.arr 4 0 (I l)]) ⟨[G [di 0,.v .nils],G (rC r),G [di 0,.arr 4 0 (I l)],G [di 0,.arr 4 0 (I l)],G L],fp (dy w)⟩)<|.h (.q 8 5)<|.w<|.h (.q 9 6)<|.m (.acc 1 ((dy w).az.map eV))<|.f<|.f<|.h (.q 14 8)<|.w<|.h (.q 15 0)<|.h (.cs (nx r (I l) (fp (dy w)) X))<|.c (db J)<|.k .r) (F0 121 [Ad m,di (i:Int),dV c] (bk [db J,di 0])/\0<=(i:Int)/\(U Al m.av)[Z (i:Int)]?=G (Al r)/\(∀(o:yy) (c_1:Call) (fo:x8),o.op=Op.call c_1->c_1.callee=Callee.value fo->Ai PP o [bt (bw 83 [] []),dV c] (bh [G [di 0,dn],G [bt (ae r.name),di r.aj,di r.to,cx r.am,cx r.ak,cx r.move,di r.chan,di r.act,di r.letter,cx r.path,cx r.next,bt (AD r.ar),cx r.aq,di r.second]] []) (bi [di 0,bo 4 0 (I l)]) (bh [G [di 0,dn],G (rC r),G [di 0,bo 4 0 (I l)],G [di 0,bo 4 0 (I l)],G L] (fp (dy w))))/\iz 0<=0/\0<(I l:Int)/\0<I L/\0<=yu yt (1+r.chan)/\yu yt (1+r.chan)<(I l:Int)/\(List.set L (Nat.add (0+Z 0*2) 0) (di r.to))[Nat.add (0+Z (yu yt (1+r.chan))*2) 1]?=G (br 1 (U eV (b9.az (dy w))))/\(r.act==2)=O/\(r.act==1)=O/\0<=yu yt (1+r.chan)/\yu yt (1+r.chan)<(I l:Int)/\Nat.add (0+Z (yu yt (1+r.chan))*2) 1<I (List.set L (Nat.add (0+Z 0*2) 0) (di r.to))/\(∀(e:List D) (E:cd) (g:Gh) (a:Act) (w_1:x5),FI E g (bh [G [di 0,dn],G (rC r),G [di 0,bo 4 0 (I l)],G [di 0,bo 4 0 (I l)],G (List.set (List.set L (Nat.add (0+Z 0*2) 0) (di r.to)) (Nat.add (0+Z (yu yt (1+r.chan))*2) 1) (br 1 (U eV (b9.az (dy w))))),G [di 0,bo 4 0 (I l)]] [(1,2,U eV (b9.az (dy w)))]) e a w_1->∃g',FI E g' (nx r (I l) (fp (dy w)) X) e a w_1)/\F0 33 [Ad m,bt (ab [vi 0,dt X])] (db J)/\bk [bt (ab [vi 0,ai (U eV X)]),di 0]=dP (b9.mk 0 X,0)) ?_
    rw[hww,ep]
    exact⟨hen,by omega,Am hi,hcp,Il _,by omega,by omega,by omega,by omega,hLs,HU a2,HU a1,by omega,by omega,by rw[length_set];omega,fun e=>LN hk2 hXl2 e,hv,rfl⟩
 ·rw[HZ hb]
  rw[HU hb] at hen
  generalize dx s ws=c at hen⊢
  exact sv RF 76 [3,5] (.c (.tup [db O,di 0])<|.k<|.k .r) (_/\bk [bt (ab [vi 0,ai []]),di 18]=dP (e6,18)) ⟨hen,rfl⟩
end
end Go.Proofs.YtkkplhjidondkaaGreat
