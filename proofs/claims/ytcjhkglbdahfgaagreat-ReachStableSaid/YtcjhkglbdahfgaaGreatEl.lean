/-
  A part of the proof.
-/
import Derived.Test.YtcjhkglbdahfgaaGreatEk
import Derived.Test.YtcjhkglbdahfgaaGreatEf
import Derived.Test.YtcjhkglbdahfgaaGreatEj
import Derived.Test.YtcjhkglbdahfgaaGreatEh
namespace Go.Proofs.YtcjhkglbdahfgaaGreat
open Go.Dv Go.Nv
set_option maxRecDepth 20000
open List (all_eq_true append_assoc append_nil cons_append drop_eq_getElem_cons drop_of_length_le drop_zero ext_getElem? flatMap_cons flatten flatten_cons foldl_cons getD_eq_getElem?_getD getElem?_append_left getElem?_append_right getElem?_drop getElem?_eq_getElem getElem?_eq_none getElem?_map getElem?_set getElem?_take getElem?_toArray length length_append length_cons length_drop length_map length_nil length_pos_iff length_set length_take map map_append map_cons map_map map_nil mem_append mem_cons mem_map mem_of_getElem? mem_of_mem_drop mem_of_mem_take mem_or_eq_of_mem_set mem_singleton nil_append not_mem_nil replicate replicate_succ set_cons_succ set_cons_zero size_toArray take take_add_one take_append_drop take_left take_of_length_le take_succ_cons zipWith)
open Go.IntKind (wrap i64 u64)
structure TmC(c:Val):Prop where
 size:c.size<=128
 len:c.kids.length=2
 few:∀b,c.kids[1]?=some b->b.kids.length<=12
 toks:∀b v,c.kids[1]?=some b->v∈b.kids->v.kids.length=2
structure TmM(m:Mod)(t:Typ):Prop where
 int:FL m t
 chk:Ab PP 59 [Ah m] σ0 (di 0) σ0
 kind:m.kind=5
 few:m.rules.length<=12
 rule:∀r∈m.rules,r.takes.length<=1/\r.makes.length<=1
 shape:∀c,Au t c=true->TmC c
noncomputable abbrev fTks:Func:= Tryz.f161
noncomputable def cTks:Code:=fTks.body.getD .skip
theorem tks_loop(l:List Val)(hl:l.length<=1000)(ps:List (Int×Int))(hp:ps.length=l.length)(hv:∀(k:Nat) (v:Val),l[k]?=some v->∃a b,v.kids[0]?=some a/\v.kids[1]?=some b/\ps[k]?=some (a.n,b.n))(n:Nat):∀k:Nat,l.length-k=n->
  Rn PP fTks 0 (.acc 1 (ps.map vPr)) ⟨[],[(1,2,ps.map vPr)]⟩ ([.lp (sub cTks [1,1,0,1,0,0]),.blk 0,.code (sub cTks [1,1,1])]++[]) (mkE 32 [(3,.acc 1 ((ps.take k).map vPr)),(10,dVs l),(11,di l.length),(12,di k)]) ⟨[],[(1,2,(ps.take k).map vPr)]⟩:=by
 induction n with
 |zero=>
  intro k hn
  refine lv 32 [1] (.f .r) (decide ((k:Int)<(l.length:Int))=false/\[(1,2,map vPr (take k ps))]=[(1,2,map vPr ps)]/\D.acc 1 (map vPr (take k ps))=D.acc 1 (map vPr ps)) ?_
  rw[take_of_length_le (by omega)]
  exact⟨decide_eq_false (by omega),rfl,rfl⟩
 |succ n ih=>
  intro k hn
  obtain⟨x,hx⟩:∃x,l[k]?=some x:=⟨_,getElem?_eq_getElem (show k<l.length by omega)⟩
  obtain⟨a,b,ha,hb,hpk⟩:=hv k x hx
  refine lv 32 [1] (.t<|.h (.xs (Ad x))<|.h (.xs (Ad a))<|.h (.xs (Ad b))<|.ls [ch 3 (.acc 1 ((ps.take (k+1)).map vPr)),ke 10,ke 11,ch 12 (di (k+1:Nat))] ⟨[],[(1,2,(ps.take (k+1)).map vPr)]⟩) (decide ((k:Int)<(l.length:Int))=true/\Q 2/\0<=(k:Int)/\(map eV l)[Int.toNat (k:Int)]?=some (Ad x)/\Q 2/\iz 0<=0/\(map eV x.kids)[Int.toNat 0]?=some (Ad a)/\Q 2/\iz 0<=1/\(map eV x.kids)[Int.toNat 1]?=some (Ad b)/\Q (map vPr (take k ps))/\Ar (length (map vPr (take k ps))+length (V.agg (vi a.n::vi b.n::nV)::nV)) 16/\(True/\True/\True)/\D.acc 1 (map vPr (take k ps)++[V.agg [vi a.n,vi b.n]])=D.acc 1 (map vPr (take (k+1) ps))/\di (wrap i64 ((k:Int)+1))=di (↑(k+1):Int)/\[(1,2,map vPr (take k ps)++V.agg (vi a.n::vi b.n::nV)::nV)]=[(1,2,map vPr (take (k+1) ps))]/\I0 fTks 0 (D.acc 1 (map vPr ps)) (St.mk [] [(1,2,map vPr ps)]) [kl cTks [1,1,0,1,0,0],KI.blk 0,kc cTks [1,1,1]] (mkE 32 [(3,D.acc 1 (map vPr (take (k+1) ps))),(10,dVs l),(11,di (l.length:Int)),(12,di (↑(k+1):Int))]) (St.mk [] [(1,2,map vPr (take (k+1) ps))])) ?_
  have hk:=(List.getElem?_eq_some_iff.1 hx).1
  have ht:(ps.take (k+1)).map vPr=(ps.take k).map vPr++[V.agg [vi a.n,vi b.n]]:=by rw[take_add_one,hpk];simp
  rw[ht]
  refine⟨decide_eq_true (by omega),rfl,by omega,Az hx,rfl,Int.le_refl _,Az (i:=0) ha,rfl,by decide,Az (i:=1) hb,rfl,⟨?_,?_⟩,⟨trivial,trivial,trivial⟩,rfl,Af (by omega),rfl,⟨?_⟩⟩
  ·simp only[length_map,length_take,length_cons,length_nil];omega
  ·simp only[length_map,length_take,length_cons,length_nil];omega
  ·have:=ih (k+1) (by omega)
   rw[ht] at this
   exact this
theorem tks_spec(c b:Val)(hb:c.kids[1]?=some b)(hl:b.kids.length<=1000)(ps:List (Int×Int))(hp:ps.length=b.kids.length)(hv:∀(k:Nat) (v:Val),b.kids[k]?=some v->∃a y,v.kids[0]?=some a/\v.kids[1]?=some y/\ps[k]?=some (a.n,y.n)):
  Ab PP 161 [dV c] σ0 (AB ps) σ0:=by
 have h:Ab PP 161 [dV c] σ0 (.acc 1 (ps.map vPr)) ⟨[],[(1,2,ps.map vPr)]⟩:=by
  refine sv fTks 32 [1] (.h (.q 2 0)<|.h (.nw 3 1 2)<|.h (.xs (Ad b))<|.ls [ch 3 (.acc 1 []),ke 10,ch 11 (di b.kids.length),ch 12 (di (0:Nat))] ⟨[],[(1,2,[])]⟩) (Q 2/\iz 0<=1/\(map eV c.kids)[Int.toNat 1]?=some (Ad b)/\Q (D.acc 1 [])/\di (length (map eV b.kids):Int)=di (b.kids.length:Int)/\di 0=di (↑0:Int)/\Q [(1,2,nV)]/\I0 fTks σ0.H.length (D.acc 1 (map vPr ps)) (St.mk [] [(1,2,map vPr ps)]) [kl cTks [1,1,0,1,0,0],KI.blk 0,kc cTks [1,1,1]] (mkE 32 [(3,D.acc 1 []),(10,dVs b.kids),(11,di (b.kids.length:Int)),(12,di (↑0:Int))]) (St.mk [] [(1,2,[])])) ?_
  exact⟨rfl,by decide,Az (i:=1) hb,rfl,by rw[length_map],rfl,rfl,⟨tks_loop b.kids hl ps hp hv _ 0 rfl⟩⟩
 exact spec_unacc h
noncomputable abbrev fWth:Func:= Tryz.f200
theorem wth_spec(s:Int)(b:Val)(hb:b.size<=10000):Ab PP 200 [di s,dl [Ad b]] σ0 (dV (.mk 0 [.mk s [],b])) σ0:=by
 refine sv fWth 13 [] (.c (dVs [b])<|.c (dVs [.mk s [],b]) .r) (F0 219 [D.v (V.list [Ad b])] (dVs [b])/\F0 218 [D.v (V.list [V.list [V.agg [vi s,V.list []]],vVs [b]])] (dVs [Val.mk s [],b])/\D.v (V.agg [vi 0,V.list [eV (Val.mk s []),eV b]])=dV (Val.mk 0 [Val.mk s [],b])) ?_
 have h1:=cps_spec [b] (by simp) (fun x hx=>by rw[mem_singleton.1 hx];exact cpy_spec _ b (Nat.le_refl _) (by omega))
 rw[show dVs [b]=dl [Ad b] from congrArg (fun z=>dl [z]) (AN b)] at h1⊢
 have h2:=coV_spec [[.mk s []],[b]] (by simp) (by simp)
 have e:[[Val.mk s []],[b]].flatten.map eV=[Val.mk s [],b].map eV:=rfl
 rw[e] at h2
 refine⟨h1,?_,?_⟩
 ·have e2:D.v (V.list [V.list [V.agg [vi s,V.list []]],vVs [b]])=dl (Gx [[.mk s []],[b]]):=by
   show _=D.v (.list [.list [eV (.mk s [])],.list [eV b]])
   rw[AN];rfl
  rw[e2];exact h2
 ·rfl
abbrev stTk(ps:List (Int×Int)):St:=⟨[some (Aa (ps.map vPr))],[]⟩
theorem Gj(p:Int×Int)(l:List (Int×Int)):Aa ((p::l).map vPr)=[di p.1,di p.2]++Aa (l.map vPr):=rfl
theorem flatP_len:∀l:List (Int×Int),(Aa (l.map vPr)).length=l.length*2
 |[]=>rfl
 |p::l=>by rw[Gj,length_append,flatP_len l,length_cons];simp;omega
theorem flatP_app(l k:List (Int×Int)):Aa ((l++k).map vPr)=Aa (l.map vPr)++Aa (k.map vPr):=by simp only[Aa,map_append,List.flatMap_append]
theorem tksA_loop(l:List Val)(hl:l.length<=1000)(ps:List (Int×Int))(hp:ps.length=l.length)(hv:∀(k:Nat) (v:Val),l[k]?=some v->∃a b,v.kids[0]?=some a/\v.kids[1]?=some b/\ps[k]?=some (a.n,b.n))(n:Nat):∀k:Nat,l.length- (k+1)=n->k<l.length->
  Rn PP fTks 0 (.arr 0 0 ps.length) (stTk ps) ([.lp (sub cTks [1,1,0,1,0,0]),.blk 0,.code (sub cTks [1,1,1])]++[]) (mkE 32 [(3,.gro 0 (k+1) 2),(10,dVs l),(11,di l.length),(12,di (k+1:Nat))]) (stTk (ps.take (k+1))):=by
 induction n with
 |zero=>
  intro k hn hk
  refine lv 32 [1] (.f<|.h (.q 7 0)<|.h (.ga 3) .ro) (decide ((↑(k+1):Int)<(l.length:Int))=false/\okH 1 [] [some (Aa (map vPr (take (k+1) ps)))]=true/\[some (Aa (map vPr (take (k+1) ps)))]=[some (Aa (map vPr ps))]/\D.arr 0 0 (k+1)=D.arr 0 0 ps.length) ?_
  have e:k+1=ps.length:=by omega
  rw[e,take_of_length_le (Nat.le_refl _)]
  exact⟨decide_eq_false (by omega),Bool.and_eq_true_iff.2 ⟨Ag 1 [] _,rfl⟩,rfl,rfl⟩
 |succ n ih=>
  intro k hn hk
  obtain⟨x,hx⟩:∃x,l[k+1]?=some x:=⟨_,getElem?_eq_getElem (show k+1<l.length by omega)⟩
  obtain⟨a,b,ha,hb,hpk⟩:=hv (k+1) x hx
  refine lv 32 [1] (.t<|.h (.xs (Ad x))<|.h (.xs (Ad a))<|.h (.xs (Ad b))<|.lo [ch 3 (.gro 2 (k+1+1) 2),ke 10,ke 11,ch 12 (di (k+1+1:Nat))] ⟨[none,some [di x.n,dVs x.kids],some (Aa ((ps.take (k+1+1)).map vPr))],[]⟩) (decide ((↑(k+1):Int)<(l.length:Int))=true/\Q 2/\0<=(↑(k+1):Int)/\(map eV l)[Int.toNat (↑(k+1):Int)]?=some (Ad x)/\Q 2/\iz 0<=0/\(map eV x.kids)[Int.toNat 0]?=some (Ad a)/\Q 2/\iz 0<=1/\(map eV x.kids)[Int.toNat 1]?=some (Ad b)/\length (Aa (map vPr (take (k+1) ps)))=(k+1)*2/\[V.agg [vi a.n,vi b.n]]≠ []/\(∀(y:V),y∈ [V.agg [vi a.n,vi b.n]]->V.size y=2)/\Ar (k+1+length (V.agg (vi a.n::vi b.n::nV)::nV)) 16/\(True/\True/\True)/\D.gro 2 (k+1+length (V.agg (vi a.n::vi b.n::nV)::nV)) 2=D.gro 2 (k+1+1) 2/\di (wrap i64 ((↑(k+1):Int)+1))=di (↑(k+1+1):Int)/\okH 3 [] [none,some [di x.n,dVs x.kids],some (Aa (map vPr (take (k+1) ps))++[di a.n,di b.n])]=true/\[none,some [di x.n,dVs x.kids],some (Aa (map vPr (take (k+1) ps))++[di a.n,di b.n])]=[none,some [di x.n,dVs x.kids],some (Aa (map vPr (take (k+1+1) ps)))]/\I0 fTks 0 (D.arr 0 0 ps.length) (stTk ps) [kl cTks [1,1,0,1,0,0],KI.blk 0,kc cTks [1,1,1]] (mkE 32 [(3,D.gro 2 (k+1+1) 2),(10,dVs l),(11,di (l.length:Int)),(12,di (↑(k+1+1):Int))]) (St.mk [none,some [di x.n,dVs x.kids],some (Aa (map vPr (take (k+1+1) ps)))] [])) ?_
  have hk1:=(List.getElem?_eq_some_iff.1 hx).1
  have ht:(ps.take (k+1+1))=(ps.take (k+1))++[(a.n,b.n)]:=by rw[take_add_one (i:=k+1),hpk];rfl
  have hf:Aa ((ps.take (k+1)).map vPr)++[di a.n,di b.n]=Aa ((ps.take (k+1+1)).map vPr):=by rw[ht,flatP_app];rfl
  have hih:=ih (k+1) (by omega) hk1
  rw[hf]
  refine⟨decide_eq_true (by omega),rfl,by omega,Az hx,rfl,Int.le_refl _,Az (i:=0) ha,rfl,by decide,Az (i:=1) hb,by rw[flatP_len,length_take];omega,by simp,fun y hy=>by rw[mem_singleton.1 hy];rfl,⟨?_,?_⟩,⟨trivial,trivial,trivial⟩,rfl,Af (by omega),?_,rfl,⟨?_⟩⟩
  ·simp only[length_cons,length_nil];omega
  ·simp only[length_cons,length_nil];omega
  ·simp[okH,D.okNs,D.okN,Ag]
  ·refine D3 (H0:=[none,some [di x.n,dVs x.kids]]) (fun E0 E h=>h.2) 2 rfl (fun cs hc=>?_) ?_ ?_ hih
   ·simp at hc;rw[hc];exact As _
   ·simp[mkE,D.okNs,D.okN]
   ·simp[mkE,D.rens,D.ren]
theorem fld_n{o:Oper}{t:Nat}(x:Val)(τ:St)(ho:o.op=.fieldAddr 31 (.tmp t) 0):Ai PP o [.v (.ref (Ad x))] τ (.v (.ref (vi x.n))) τ:=E4 ho (fo:=0) (n:=1) (b:=false) (by kernel_rfl) (by decide) (fun _=>rfl) rfl
theorem ld_n{o:Oper}{t:Nat}(x:Int)(τ:St)(ho:o.op=.load 3 (.tmp t)):Ai PP o [.v (.ref (vi x))] τ (di x) τ:=E3 ho (by unfold OneTy;kernel_rfl) rfl
theorem bld_p{o:Oper}{t t':Nat}(x y:Int)(τ:St)(ho:o.op=.build 169 #[(0,.tmp t),(1,.tmp t')]):Ai PP o [di x,di y] τ (.v (vPr (x,y))) τ:=op_build ho (z:=[vi 0,vi 0]) (places:=[(0,1),(1,1)]) (by kernel_rfl) (xs:=[(0,vi x),(1,vi y)]) rfl rfl
theorem slP:BJ PP 199=some (169,2,16,some (.agg #[.int .i64 0,.int .i64 0])):=by kernel_rfl
theorem bs1P{o:Oper}{t:Nat}(p:Int×Int)(τ:St)(ho:o.op=.buildSlice 199 1 #[(0,.tmp t)]):Ai PP o [.v (vPr p)] τ (.v (.list [vPr p])) τ:=
 DL ho rfl rfl slP rfl (xs:=[vPr p]) rfl (fun y hy=>by rw[mem_singleton.1 hy];rfl) (by decide) (by decide) (by decide)
theorem tksA_spec(c b:Val)(hb:c.kids[1]?=some b)(hl:b.kids.length<=1000)(hn:b.kids≠ [])(ps:List (Int×Int))(hp:ps.length=b.kids.length)(hv:∀(k:Nat) (v:Val),b.kids[k]?=some v->∃a y,v.kids[0]?=some a/\v.kids[1]?=some y/\ps[k]?=some (a.n,y.n)):
  Ab PP 161 [dV c] σ0 (.arr 0 0 ps.length) (stTk ps):=by
 have hpos:=length_pos_iff.2 hn
 obtain⟨x,hx⟩:∃x,b.kids[0]?=some x:=⟨_,getElem?_eq_getElem hpos⟩
 obtain⟨a,y,ha,hy,hpk⟩:=hv 0 x hx
 refine sv fTks 32 [1] (.h (.xs (Ad b))<|.n<|.t<|.h (.xs (Ad x))<|.h (.xs (Ad a))<|.h (.xs (Ad y))<|.h (.p (.v (.ref (vi y.n))))<|.h (.p (di y.n))<|.h (.p (.v (vPr (a.n,y.n))))<|.h (.p (.v (.list [vPr (a.n,y.n)])))<|.h .g<|.lo [ch 3 (.gro 1 1 2),ke 10,ch 11 (di b.kids.length),ch 12 (di (1:Nat))] ⟨[some [di x.n,dVs x.kids],some (Aa ((ps.take 1).map vPr))],[]⟩) (Q 2/\iz 0<=1/\(map eV c.kids)[Int.toNat 1]?=some (Ad b)/\decide (0<(length (map eV b.kids):Int))=true/\Q 2/\iz 0<=0/\(map eV b.kids)[Int.toNat 0]?=some (Ad x)/\Q 2/\iz 0<=0/\(map eV x.kids)[Int.toNat 0]?=some (Ad a)/\Q 2/\iz 0<=1/\(map eV x.kids)[Int.toNat 1]?=some (Ad y)/\(∀(τ:St),Ai PP (Oper.mk (some 25) (Op.fieldAddr 31 (Operand.tmp 24) 0) 0 "timed.go:30" #[Edge.mk 8 Ground.data] none) [D.v (V.ref (Ad y))] τ (D.v (V.ref (vi y.n))) τ)/\(∀(τ:St),Ai PP (Oper.mk (some 26) (Op.load 3 (Operand.tmp 25)) 3 "timed.go:30" #[Edge.mk 9 Ground.data] none) [D.v (V.ref (vi y.n))] τ (di y.n) τ)/\(∀(τ:St),Ai PP (Oper.mk (some 27) (Op.build 169 #[(0,Operand.tmp 21),(1,Operand.tmp 26)]) 169 "timed.go:30" #[Edge.mk 5 Ground.data,Edge.mk 10 Ground.data] none) [di a.n,di y.n] τ (D.v (vPr (Val.n a,Val.n y))) τ)/\(∀(τ:St),Ai PP (Oper.mk (some 28) (Op.buildSlice 199 1 #[(0,Operand.tmp 27)]) 199 "timed.go:30" #[Edge.mk 11 Ground.data] none) [D.v (vPr (Val.n a,Val.n y))] τ (D.v (V.list [vPr (Val.n a,Val.n y)])) τ)/\[vPr (Val.n a,Val.n y)]≠ []/\(∀(y_1:V),y_1∈ [vPr (Val.n a,Val.n y)]->V.size y_1=2)/\Ar 1 16/\(True/\True/\True)/\Q (D.gro 1 1 2)/\di (length (map eV b.kids):Int)=di (b.kids.length:Int)/\di (wrap i64 (0+1))=di (↑1:Int)/\okH 2 [] [some [di x.n,dVs x.kids],some [di (Val.n a,Val.n y).fst,di (Val.n a,Val.n y).snd]]=true/\[some [di x.n,dVs x.kids],some [di (Val.n a,Val.n y).fst,di (Val.n a,Val.n y).snd]]=[some [di x.n,dVs x.kids],some (Aa (map vPr (take 1 ps)))]/\I0 fTks σ0.H.length (D.arr 0 0 ps.length) (stTk ps) [kl cTks [1,1,0,1,0,0],KI.blk 0,kc cTks [1,1,1]] (mkE 32 [(3,D.gro 1 1 2),(10,dVs b.kids),(11,di (b.kids.length:Int)),(12,di (↑1:Int))]) (St.mk [some [di x.n,dVs x.kids],some (Aa (map vPr (take 1 ps)))] [])) ?_
 have ht:ps.take 1=[(a.n,y.n)]:=by
  cases ps with
  |nil=>simp at hpk
  |cons p l=>simp at hpk;simp[hpk]
 have hih:=tksA_loop b.kids hl ps hp hv _ 0 rfl hpos
 refine⟨rfl,by decide,Az (i:=1) hb,decide_eq_true (by rw[length_map];omega),rfl,Int.le_refl _,Az (i:=0) hx,rfl,Int.le_refl _,Az (i:=0) ha,rfl,by decide,Az (i:=1) hy,fun τ=>fld_n y τ rfl,fun τ=>ld_n y.n τ rfl,fun τ=>bld_p a.n y.n τ rfl,fun τ=>bs1P _ τ rfl,by simp,fun z hz=>by rw[mem_singleton.1 hz];rfl,⟨by decide,by decide⟩,⟨trivial,trivial,trivial⟩,rfl,by rw[length_map],congrArg di (by decide),rfl,?_,⟨?_⟩⟩
 ·rw[ht];rfl
 ·refine D3 (H0:=[some [di x.n,dVs x.kids]]) (fun E0 E h=>h.2) 1 rfl (fun cs hc=>?_) ?_ ?_ hih
  ·simp at hc;rw[hc];exact As _
  ·simp[mkE,D.okNs,D.okN]
  ·simp[mkE,D.rens,D.ren]
noncomputable abbrev fBld:Func:= Tryz.f163
noncomputable def cBld:Code:=fBld.body.getD .skip
abbrev stBd(xs:List Val):St:=⟨[some [di 0,.v .nils],some [di 0,.gro 2 xs.length 2],some (Aa (xs.map eV))],[]⟩
abbrev pV(p:Int×Int):Val:=.mk 0 [.mk p.1 [],.mk p.2 []]
theorem pV_size(p:Int×Int):(pV p).size=3:=rfl
theorem szs_perm{l k:List Val}(h:l.Perm k):Val.sizes l=Val.sizes k:=by
 induction h with
 |nil=>rfl
 |cons x _ ih=>rw[Val.sizes,Val.sizes,ih]
 |swap x y l=>simp only[Val.sizes];omega
 |trans _ _ ih1 ih2=>rw[ih1,ih2]
theorem szs_pV:∀l:List (Int×Int),Val.sizes (l.map pV)=3*l.length
 |[]=>rfl
 |p::l=>by rw[map_cons,Val.sizes,szs_pV l,pV_size,length_cons];omega
theorem bag_size(l:List (Int×Int))(hl:l.length<=100):(Val.mk 0 (sortV (l.map pV))).size<=301:=by
 rw[Val.size,szs_perm (AL _),szs_pV];omega
theorem vsz2(s:Int)(l:List (Int×Int))(hl:l.length<=100):(Val.mk 0 [.mk s [],.mk 0 (sortV (l.map pV))]).size<=400:=by
 have:=bag_size l hl
 simp only[Val.size,Val.sizes] at this⊢;omega
theorem vsz(s:Int)(l:List (Int×Int))(hl:l.length<=100):(Val.mk 0 [.mk s [],.mk 0 (sortV (l.map pV))]).size<=1000000:=by
 have:=vsz2 s l hl;omega
theorem bld_norm{R:List D->St->Prop}{ks:List KI}{e e':List D}(n:Nat)(x:List D)(F:List V)(_:Nat)(_:(0:Nat)<=0)(_:(0:Nat)=0)(he:D.okNs 3 [] e'=true)(hee:e=D.rens (fun i=>if i<2 then i else i+2) id e')
  (h:A2 (CN 0) PP R ks e' ⟨[some [di 0,.v .nils],some [di 0,.gro 2 n 2],some (Aa F)],[]⟩):A2 (CN 0) PP R ks e ⟨[some [di 0,.v .nils],some [di 0,.gro 4 n 2],none,some x,some (Aa F)],[]⟩:=by
 refine FA (σ:=⟨[some [di 0,.v .nils],some [di 0,.gro 4 n 2],none,some x,some (Aa F)],[]⟩) (e':=e') (H':=[some [di 0,.v .nils],some [di 0,.gro 2 n 2],some (Aa F)]) (m:=0) (fun _ _ h=>h.2) (fun i=>if i<2 then i else i+2) (Nat.zero_le _) (fun i hi=>by omega) (fun i j _ _ h=>?_) (fun i cs hi=>?_) he hee h
 ·have h:(if i<2 then i else i+2)=(if j<2 then j else j+2):=h
  split at h<;>split at h<;>omega
 ·match i,hi with
  |0,hi=>simp at hi;subst hi;exact⟨rfl,rfl⟩
  |1,hi=>simp at hi;subst hi;exact⟨rfl,rfl⟩
  |2,hi=>
   simp at hi;subst hi
   exact⟨by rw[Bz (As _)];rfl,Ag _ _ _⟩
  |i+3,hi=>simp at hi
theorem bld_norm1{R:List D->St->Prop}{ks:List KI}{e e':List D}(n:Nat)(x:List D)(F:List V)(_:(0:Nat)<=0)(_:(0:Nat)=0)(he:D.okNs 3 [] e'=true)(hee:e=D.rens (fun i=>if i<2 then i else i+1) id e')
  (h:A2 (CN 0) PP R ks e' ⟨[some [di 0,.v .nils],some [di 0,.gro 2 n 2],some (Aa F)],[]⟩):A2 (CN 0) PP R ks e ⟨[some [di 0,.v .nils],some [di 0,.gro 3 n 2],some x,some (Aa F)],[]⟩:=by
 refine FA (σ:=⟨[some [di 0,.v .nils],some [di 0,.gro 3 n 2],some x,some (Aa F)],[]⟩) (e':=e') (H':=[some [di 0,.v .nils],some [di 0,.gro 2 n 2],some (Aa F)]) (m:=0) (fun _ _ h=>h.2) (fun i=>if i<2 then i else i+1) (Nat.zero_le _) (fun i hi=>by omega) (fun i j _ _ h=>?_) (fun i cs hi=>?_) he hee h
 ·have h:(if i<2 then i else i+1)=(if j<2 then j else j+1):=h
  split at h<;>split at h<;>omega
 ·match i,hi with
  |0,hi=>simp at hi;subst hi;exact⟨rfl,rfl⟩
  |1,hi=>simp at hi;subst hi;exact⟨rfl,rfl⟩
  |2,hi=>
   simp at hi;subst hi
   exact⟨by rw[Bz (As _)];rfl,Ag _ _ _⟩
  |i+3,hi=>simp at hi
theorem bld_loop(m:Mod)(t:Typ)(hm:FL m t)(s:Int)(l:List (Int×Int))(hl:l.length<=100)(v:Val)(b:Bool)(hv:v=.mk 0 [.mk s [],.mk 0 (sortV (l.map pV))])(hb:b=Au t v)(n:Nat):∀k:Nat,l.length- (k+1)=n->k<l.length->
  Rn PP fBld 0 (.tup [dV v,db b]) σ0 ([.lp (sub cBld [1,1,0,1,0,0]),.blk 0,.code (sub cBld [1,1,1])]++[]) (mkE 44 [(1,di s),(3,.v (.ref (AE m))),(6,.ptr 0 0),(8,.ptr 1 0),(13,AB l),(14,di l.length),(15,di (k+1:Nat))]) (stBd ((l.take (k+1)).map pV)):=by
 induction n with
 |zero=>
  intro k hn hk
  refine lv 44 [3] (.f<|.h (.q 7 2)<|.h (.ga 34)<|.h (.oc (.tup []) ⟨[some [di 0,.v .nils],some [di 0,.gro 2 l.length 2],some (Aa ((sortV (l.map pV)).map eV))],[]⟩)<|.h (.q 8 0)<|.h (.cs ⟨[some [di 0,.v .nils],some [di 0,dVs (sortV (l.map pV))],none],[]⟩)<|.c (dV v)<|.c (db b) .r) (decide ((↑(k+1):Int)<(l.length:Int))=false/\(∀(o:Oper) (c:Call) (fo:Operand),o.op=Op.call c->c.callee=Callee.value fo->Ai PP o [D.v (V.fn 31 [] []),D.arr 2 0 (length (map pV (take (k+1) l))),D.v (V.fn 32 [] [])] (stBd (map pV (take (k+1) l))) (D.tup []) (St.mk [some [di 0,dn],some [di 0,D.gro 2 l.length 2],some (Aa (map eV (sortV (map pV l))))] []))/\(∀(e:List D) (E:Ent) (g:Gh) (a:Act) (w:World),FI E g (St.mk [some [di 0,dn],some [di 0,D.gro 2 l.length 2],some (Aa (map eV (sortV (map pV l))))] []) e a w->∃g',FI E g' (St.mk [some [di 0,dn],some [di 0,dVs (sortV (map pV l))],none] []) e a w)/\F0 200 [di s,D.v (V.list [V.agg [vi 0,vVs (sortV (map pV l))]])] (dV v)/\F0 42 [Ah m,dV v] (db b)/\(True/\True/\True)/\D.tup [D.v (V.agg [vi v.n,V.list (map eV v.kids)]),db b]=D.tup [dV v,db b]) ?_
  have e:k+1=l.length:=by omega
  rw[e,take_of_length_le (Nat.le_refl _)]
  have hsz:∀x∈l.map pV,x.size<=1000000:=fun x hx=>by obtain⟨p,_,rfl⟩:=mem_map.1 hx;rw[pV_size];decide
  have hsl:(sortV (l.map pV)).length=l.length:=by rw[(AL _).length_eq,length_map]
  have hbs:=bag_size l hl
  refine⟨decide_eq_false (by omega),fun o cl fo hop hc=>?_,fun e=>?_,?_,hb▸hm.valid v (by rw[hv];exact vsz s l hl),⟨trivial,trivial,trivial⟩,rfl⟩
  ·have:=GE (dc:=[.arr 0 0 l.length,dfn 32]) (σ:=stBd (l.map pV)) (q:=2) (fs:=[]) (cs:=[]) (ds:=[.arr 2 0 (l.map pV).length,dfn 32]) hop hc rfl (As _) (As _) (by rw[length_map];exact .arr (.pl rfl .nil)) rfl (by have:=EB (l.map pV) (by rw[length_map];omega) hsz;rwa[length_map] at this)
   simpa[stBd] using this
  ·exact cv_cellGro (σ:=⟨[some [di 0,.v .nils],some [di 0,.gro 2 l.length 2],some (Aa ((sortV (l.map pV)).map eV))],[]⟩) (p:=1) (q:=2) (i:=1) (sz:=2) (cs:=[di 0,.gro 2 l.length 2]) (xs:=(sortV (l.map pV)).map eV) (by decide) rfl rfl (by decide) (by rw[length_map,hsl];rfl) (Dl _) e
  ·rw[hv];exact wth_spec s (.mk 0 (sortV (l.map pV))) (by omega)
 |succ n ih=>
  intro k hn hk
  obtain⟨x,hx⟩:∃x,l[k+1]?=some x:=⟨_,getElem?_eq_getElem (show k+1<l.length by omega)⟩
  refine lv 44 [3] (.t<|.x (vPr x)<|.lo [ke 1,ke 3,ke 6,ke 8,ke 13,ke 14,ch 15 (di (k+1+1:Nat))] ⟨[some [di 0,.v .nils],some [di 0,.gro 4 (k+1+1) 2],none,some [di x.1,di x.2],some (Aa (((l.take (k+1+1)).map pV).map eV))],[]⟩) (decide ((↑(k+1):Int)<(l.length:Int))=true/\0<=(↑(k+1):Int)/\(map vPr l)[Int.toNat (↑(k+1):Int)]?=some (vPr x)/\iz 0<=0/\0<(↑2:Int)/\iz 0<=1/\1<(↑2:Int)/\length (Aa (map eV (map pV (take (k+1) l))))=length (map pV (take (k+1) l))*2/\[V.agg [vi 0,V.list [V.agg [vi x.fst,V.list []],V.agg [vi x.snd,V.list []]]]]≠ []/\(∀(y:V),y∈ [V.agg [vi 0,V.list [V.agg [vi x.fst,V.list []],V.agg [vi x.snd,V.list []]]]]->V.size y=2)/\Ar (length (map pV (take (k+1) l))+length (V.agg (V.int i64 0::V.list (V.agg (vi x.fst::V.list nV::nV)::V.agg (vi x.snd::V.list nV::nV)::nV)::nV)::nV)) 32/\di (wrap i64 ((↑(k+1):Int)+1))=di (↑(k+1+1):Int)/\okH 5 [] [some [di 0,dn],some [di 0,D.gro 4 (length (map pV (take (k+1) l))+length (V.agg (V.int i64 0::V.list (V.agg (vi x.fst::V.list nV::nV)::V.agg (vi x.snd::V.list nV::nV)::nV)::nV)::nV)) 2],none,some [di x.fst,di x.snd],some (Aa (map eV (map pV (take (k+1) l)))++[di 0,D.v (V.list [V.agg [vi x.fst,V.list []],V.agg [vi x.snd,V.list []]])])]=true/\[some [di 0,dn],some [di 0,D.gro 4 (length (map pV (take (k+1) l))+length (V.agg (V.int i64 0::V.list (V.agg (vi x.fst::V.list nV::nV)::V.agg (vi x.snd::V.list nV::nV)::nV)::nV)::nV)) 2],none,some [di x.fst,di x.snd],some (Aa (map eV (map pV (take (k+1) l)))++[di 0,D.v (V.list (V.agg (vi x.fst::V.list nV::nV)::V.agg (vi x.snd::V.list nV::nV)::nV))])]=[some [di 0,dn],some [di 0,D.gro 4 (k+1+1) 2],none,some [di x.fst,di x.snd],some (Aa (map eV (map pV (take (k+1+1) l))))]/\I0 fBld 0 (D.tup [dV v,db b]) σ0 [kl cBld [1,1,0,1,0,0],KI.blk 0,kc cBld [1,1,1]] (mkE 44 [(1,di s),(3,D.v (V.ref (AE m))),(6,D.ptr 0 0),(8,D.ptr 1 0),(13,D.v (BT l)),(14,di (l.length:Int)),(15,di (↑(k+1+1):Int))]) (St.mk [some [di 0,dn],some [di 0,D.gro 4 (k+1+1) 2],none,some [di x.fst,di x.snd],some (Aa (map eV (map pV (take (k+1+1) l))))] [])) ?_
  have hk1:=(List.getElem?_eq_some_iff.1 hx).1
  have ht:l.take (k+1+1)=l.take (k+1)++[x]:=by rw[take_add_one (i:=k+1),hx];rfl
  have hpe:D.v (V.list [V.agg [vi x.1,V.list []],V.agg [vi x.2,V.list []]])=dVs (pV x).kids:=by
   show _=D.v (.list [eV (.mk x.1 []),eV (.mk x.2 [])])
   rw[AN,AN];rfl
  have hf:Aa (((l.take (k+1)).map pV).map eV)++[di 0,D.v (V.list [V.agg [vi x.1,V.list []],V.agg [vi x.2,V.list []]])]=Aa (((l.take (k+1+1)).map pV).map eV):=by
   rw[hpe,ht,map_append,FE]
   congr 1
  have hih:=ih (k+1) (by omega) hk1
  have hll:((l.take (k+1)).map pV).length=k+1:=by rw[length_map,length_take];omega
  have hll2:((l.take (k+1+1)).map pV).length=k+1+1:=by rw[length_map,length_take];omega
  rw[hll,hf]
  refine⟨decide_eq_true (by omega),by omega,Ao hx,Int.le_refl _,by decide,by decide,by decide,by rw[BO,hll],by simp,fun y hy=>by rw[mem_singleton.1 hy];rfl,⟨?_,?_⟩,Af (by omega),?_,?_,⟨?_⟩⟩
  ·simp only[length_cons,length_nil];omega
  ·simp only[length_cons,length_nil];omega
  ·simp[okH,D.okNs,D.okN,Ag]
  ·rfl
  ·rw[stBd,hll2] at hih
   exact bld_norm _ _ _ 0 (by decide) rfl (by simp[mkE,D.okNs,D.okN]) (by simp[mkE,D.rens,D.ren]) hih
theorem bld_ex(m:Mod)(t:Typ)(hm:FL m t)(s:Int)(l:List (Int×Int))(hl:l.length<=100):∃(v:Val) (b:Bool),v.size<=1000/\Ab PP 163 [Ah m,di s,AB l] σ0 (.tup [dV v,db b]) σ0:=by
 obtain⟨v,hv⟩:∃v:Val,v=.mk 0 [.mk s [],.mk 0 (sortV (l.map pV))]:=⟨_,rfl⟩
 refine⟨v,Au t v,?_,?_⟩
 ·rw[hv];have:=vsz2 s l hl;omega
 ·cases l with
  |nil=>
   refine sv fBld 44 [3] (.n<|.f<|.c (.tup [])<|.c (dV v)<|.c (db (Au t v)) .r) (decide (0<(length (map vPr []):Int))=false/\F0 31 [D.v (V.list []),D.v (V.fn 32 [] [])] (D.tup [])/\F0 200 [di s,D.v (V.list [V.agg [vi 0,V.list []]])] (dV v)/\F0 42 [Ah m,dV v] (db (Au t v))/\(True/\True/\True)/\D.tup [D.v (V.agg [vi v.n,V.list (map eV v.kids)]),db (Au t v)]=D.tup [dV v,db (Au t v)]) ?_
   have hmv:=hm.valid v (by rw[hv];exact vsz s [] hl)
   have hn0:sortV ([].map pV)=[]:=(AL _).eq_nil
   refine⟨by decide,sortV_nil,?_,hmv,⟨trivial,trivial,trivial⟩,rfl⟩
   rw[hv,hn0]
   exact wth_spec s (.mk 0 []) (by decide)
  |cons x l=>
   refine sv fBld 44 [3] (.h (.q 1 0)<|.h .rn<|.n<|.t<|.x (vPr x)<|.h (.q 5 11)<|.h .g<|.lo [ke 1,ke 3,ke 6,ke 8,ke 13,ch 14 (di (x::l).length),ch 15 (di (1:Nat))] ⟨[some [di 0,.v .nils],some [di 0,.gro 3 1 2],some [di x.1,di x.2],some (Aa ([pV x].map eV))],[]⟩) (decide (0<(length (map vPr (x::l)):Int))=true/\iz 0<=0/\Q (some (vPr x))/\iz 0<=0/\0<(↑2:Int)/\iz 0<=1/\1<(↑2:Int)/\[V.agg [vi 0,V.list [V.agg [vi x.fst,V.list []],V.agg [vi x.snd,V.list []]]]]≠ []/\(∀(y:V),y∈ [V.agg [vi 0,V.list [V.agg [vi x.fst,V.list []],V.agg [vi x.snd,V.list []]]]]->V.size y=2)/\Ar 1 32/\di (length (map vPr (x::l)):Int)=di (length (x::l):Int)/\di (wrap i64 (0+1))=di (↑1:Int)/\okH 4 [] [some [di 0,dn],some [di 0,D.gro 3 1 2],some [di x.fst,di x.snd],some [di 0,D.v (V.list [V.agg [vi x.fst,V.list []],V.agg [vi x.snd,V.list []]])]]=true/\Q [some [di 0,dn],some [di 0,D.gro 3 1 2],some [di x.fst,di x.snd],some [di 0,D.v (V.list (V.agg (vi x.fst::V.list nV::nV)::V.agg (vi x.snd::V.list nV::nV)::nV))]]/\I0 fBld σ0.H.length (D.tup [dV v,db (Au t v)]) σ0 [kl cBld [1,1,0,1,0,0],KI.blk 0,kc cBld [1,1,1]] (mkE 44 [(1,di s),(3,D.v (V.ref (AE m))),(6,D.ptr 0 0),(8,D.ptr 1 0),(13,AB (x::l)),(14,di (length (x::l):Int)),(15,di (↑1:Int))]) (St.mk [some [di 0,dn],some [di 0,D.gro 3 1 2],some [di x.fst,di x.snd],some [di 0,D.v (V.list [V.agg [vi x.fst,V.list []],V.agg [vi x.snd,V.list []]])]] [])) ?_
   have hpe:D.v (V.list [V.agg [vi x.1,V.list []],V.agg [vi x.2,V.list []]])=dVs (pV x).kids:=by
    show _=D.v (.list [eV (.mk x.1 []),eV (.mk x.2 [])])
    rw[AN,AN];rfl
   have hf:[di 0,D.v (V.list [V.agg [vi x.1,V.list []],V.agg [vi x.2,V.list []]])]=Aa ([pV x].map eV):=by
    rw[hpe,A5];rfl
   have hlp:=bld_loop m t hm s (x::l) hl v _ hv rfl _ 0 rfl (by simp)
   refine⟨decide_eq_true (by simp only[length_map,length_cons];omega),Int.le_refl _,rfl,Int.le_refl _,by decide,by decide,by decide,by simp,fun y hy=>by rw[mem_singleton.1 hy];rfl,⟨by decide,by decide⟩,by rw[length_map],congrArg di (by decide),rfl,rfl,⟨?_⟩⟩
   rw[hf]
   exact bld_norm1 _ _ _ (by decide) rfl (by simp[mkE,D.okNs,D.okN]) (by simp[mkE,D.rens,D.ren]) hlp
noncomputable abbrev fTChk:Func:= Tryz.f196
theorem tchk_spec(m:Mod)(t:Typ)(hm:TmM m t)(c:Val)(hv:Au t c=true):Ab PP 196 [Ah m,dV c] σ0 (di 0) σ0:=by
 refine sv fTChk 20 [2,3] (.c (di 0)<|.k<|.f<|.c (db true) .r) (F0 59 [Ah m] (di 0)/\(m.kind !=5)=false/\F0 42 [Ah m,dV c] (db true)/\Q (di 0)) ?_
 have h1:=hm.int.valid c (by have:=(hm.shape c hv).size;omega)
 rw[hv] at h1
 exact⟨hm.chk,by rw[hm.kind];rfl,h1,rfl⟩
def olderV(m:Mod)(x:Int):Int:=if wrap i64 (m.age+1)<wrap i64 (x+1) then wrap i64 (m.age+1) else wrap i64 (x+1)
theorem flatP_get{l:List (Int×Int)}{k:Nat}{x:Int×Int}(h:l[k]?=some x):(Aa (l.map vPr))[k*2+1]?=some (di x.2):=by
 induction l generalizing k with
 |nil=>simp at h
 |cons y l ih=>
  cases k with
  |zero=>simp at h;subst h;rfl
  |succ k=>
   rw[Gj,show(k+1)*2+1=(k*2+1)+2 by omega]
   exact ih (by simpa using h)
theorem flatP_set{l:List (Int×Int)}{k:Nat}{x:Int×Int}(h:l[k]?=some x)(y:Int):(Aa (l.map vPr)).set (k*2+1) (di y)=Aa ((l.set k (x.1,y)).map vPr):=by
 induction l generalizing k with
 |nil=>simp at h
 |cons z l ih=>
  cases k with
  |zero=>simp at h;subst h;rfl
  |succ k=>
   rw[Gj,set_cons_succ,Gj, ←ih (by simpa using h),show(k+1)*2+1=(k*2+1)+2 by omega]
   rfl
noncomputable abbrev fTck:Func:= Tryz.f149
noncomputable def cTck:Code:=fTck.body.getD .skip
theorem tck_loop(m:Mod)(c s0:Val)(h0:c.kids[0]?=some s0)(N:Nat)(hN:N<=100)(hb:∀l:List (Int×Int),l.length=N->∃v b,v.size<=1000/\Ab PP 163 [Ah m,di s0.n,AB l] σ0 (.tup [dV v,db b]) σ0)(n:Nat):∀(k:Nat) (l:List (Int×Int)),N-k=n->l.length=N->
  ∃v:Val,v.size<=1000/\Rn PP fTck 0 (.tup [dV v,di 0]) σ0 ([.lp (sub cTck [1,1,1,0,1,0,0]),.blk 0,.code (sub cTck [1,1,1,1])]++[]) (mkE 52 [(2,.v (.ref (AE m))),(3,.v (.ref (Ad c))),(4,.ptr 0 0),(7,.arr 1 0 N),(21,di N),(22,di k)]) ⟨[some [di 0,.v .nils],some (Aa (l.map vPr))],[]⟩:=by
 induction n with
 |zero=>
  intro k l hn hl
  obtain⟨v,b,v1,v2⟩:=hb l hl
  refine⟨v,v1,?_⟩
  refine lv 52 [2,3] (.h (.q 6 0)<|.h (.ct 7 (AB l) ⟨[some [di 0,.v .nils],none],[]⟩)<|.f<|.h (.dr 11)<|.h (.xs (Ad s0))<|.c (.tup [dV v,db b]) .r) ((∀(e:List D),e[7]?=some (D.arr 1 0 N)->∀(E:Ent) (g:Gh) (a:Act) (w:World),FI E g (St.mk [some [di 0,dn],some (Aa (map vPr l))] []) e a w->∃g',FI E g' (St.mk [some [di 0,dn],none] []) (List.set e 7 (AB l)) a w)/\decide ((k:Int)<(N:Int))=false/\Q 2/\iz 0<=0/\(map eV c.kids)[Int.toNat 0]?=some (Ad s0)/\F0 163 [Ah m,di s0.n,D.v (BT l)] (D.tup [dV v,db b])/\Q [St.mk [some [di 0,dn],none,some [di 0,dn]] []]/\True/\D.tup [D.v (V.agg [vi v.n,V.list (map eV v.kids)]),di 0]=D.tup [dV v,di 0]) ?_
  exact⟨fun e he=>cv_flz (σ:=⟨[some [di 0,.v .nils],some (Aa (l.map vPr))],[]⟩) (q:=1) (sz:=2) (by decide) (sizes_vPr _) (by rw[length_map];omega) rfl he,decide_eq_false (by omega),rfl,Int.le_refl _,Az (i:=0) h0,v2,rfl,trivial,rfl⟩
 |succ n ih=>
  intro k l hn hl
  obtain⟨x,hx⟩:∃x,l[k]?=some x:=⟨_,getElem?_eq_getElem (show k<l.length by omega)⟩
  obtain⟨v,v1,v2⟩:=ih (k+1) (l.set k (x.1,olderV m x.2)) (by omega) (by rw[length_set];exact hl)
  refine⟨v,v1,?_⟩
  refine lv 52 [2,3] (.t<|.m (di x.2)<|.w<|.lo [ke 2,ke 3,ke 4,ke 7,ke 21,ch 22 (di (k+1:Nat))] ⟨[some [di 0,.v .nils],some (Aa ((l.set k (x.1,olderV m x.2)).map vPr))],[]⟩) (decide ((k:Int)<(N:Int))=true/\0<=(k:Int)/\(k:Int)<(N:Int)/\iz 0<=1/\1<(↑2:Int)/\(Aa (map vPr l))[0+Int.toNat (k:Int)*2+Int.toNat 1*(1,match (TypeInfo.mk (TypeDesc.int i64) "int" 1 8 false 8 8 (some (Value.int i64 0)) true #[]).desc with|TypeDesc.struct fields=>true|TypeDesc.array len elem=>true|x=>false).fst]?=some (di x.snd)/\0<=(k:Int)/\(k:Int)<(N:Int)/\iz 0<=1/\1<(↑2:Int)/\0+Int.toNat (k:Int)*2+Int.toNat 1*(1,match (TypeInfo.mk (TypeDesc.int i64) "int" 1 8 false 8 8 (some (Value.int i64 0)) true #[]).desc with|TypeDesc.struct fields=>true|TypeDesc.array len elem=>true|x=>false).fst<length (Aa (map vPr l))/\(True/\True)/\di (wrap i64 ((k:Int)+1))=di (↑(k+1):Int)/\okH 2 [] [some [di 0,dn],some (List.set (Aa (map vPr l)) (0+Int.toNat (k:Int)*2+Int.toNat 1*(1,match (TypeInfo.mk (TypeDesc.int i64) "int" 1 8 false 8 8 (some (Value.int i64 0)) true #[]).desc with|TypeDesc.struct fields=>true|TypeDesc.array len elem=>true|x=>false).fst) (di (if wrap i64 (m.age+1)<wrap i64 (x.snd+1) then wrap i64 (m.age+1) else wrap i64 (x.snd+1))))]=true/\[some [di 0,dn],some (List.set (Aa (map vPr l)) (0+Int.toNat (k:Int)*2+Int.toNat 1*(1,match (TypeInfo.mk (TypeDesc.int i64) "int" 1 8 false 8 8 (some (Value.int i64 0)) true #[]).desc with|TypeDesc.struct fields=>true|TypeDesc.array len elem=>true|x=>false).fst) (di (if wrap i64 (m.age+1)<wrap i64 (x.snd+1) then wrap i64 (m.age+1) else wrap i64 (x.snd+1))))]=[some [di 0,dn],some (Aa (map vPr (List.set l k (x.fst,olderV m x.snd))))]/\I0 fTck 0 (D.tup [dV v,di 0]) σ0 [kl cTck [1,1,1,0,1,0,0],KI.blk 0,kc cTck [1,1,1,1]] (mkE 52 [(2,D.v (V.ref (AE m))),(3,D.v (V.ref (Ad c))),(4,D.ptr 0 0),(7,D.arr 1 0 N),(21,di (N:Int)),(22,di (↑(k+1):Int))]) (St.mk [some [di 0,dn],some (Aa (map vPr (List.set l k (x.fst,olderV m x.snd))))] [])) ?_
  have e1:0+Int.toNat (k:Int)*2+Int.toNat 1*1=k*2+1:=by omega
  refine⟨decide_eq_true (by omega),by omega,by omega,by decide,by decide,?_,by omega,by omega,by decide,by decide,?_,⟨trivial,trivial⟩,Af (by omega),?_,?_,⟨v2⟩⟩
  ·show(Aa (l.map vPr))[0+Int.toNat (k:Int)*2+Int.toNat 1*1]?=_
   rw[e1];exact flatP_get hx
  ·show 0+Int.toNat (k:Int)*2+Int.toNat 1*1<_
   rw[e1,flatP_len];omega
  ·show okH 2 [] [some [di 0,D.v V.nils],some ((Aa (l.map vPr)).set (0+Int.toNat (k:Int)*2+Int.toNat 1*1) (di (olderV m x.2)))]=true
   rw[e1,flatP_set hx];simp[okH,D.okNs,D.okN,Ag]
  ·show [some [di 0,D.v V.nils],some ((Aa (l.map vPr)).set (0+Int.toNat (k:Int)*2+Int.toNat 1*1) (di (olderV m x.2)))]=_
   rw[e1,flatP_set hx]
theorem tck_ex(m:Mod)(t:Typ)(hm:TmM m t)(c:Val)(hv:Au t c=true):∃v:Val,v.size<=1000/\Ab PP 149 [Ah m,dV c] σ0 (.tup [dV v,di 0]) σ0:=by
 have hsh:=hm.shape c hv
 have hck:=tchk_spec m t hm c hv
 obtain⟨s0,h0⟩:∃x,c.kids[0]?=some x:=⟨_,getElem?_eq_getElem (by rw[hsh.len];omega)⟩
 obtain⟨b,hb⟩:∃x,c.kids[1]?=some x:=⟨_,getElem?_eq_getElem (by rw[hsh.len];omega)⟩
 have hb12:=hsh.few b hb
 by_cases hn:b.kids=[]
 ·obtain⟨v,x,v1,v2⟩:=bld_ex m t hm.int s0.n [] (by simp)
  refine⟨v,v1,?_⟩
  have ht:=tks_spec c b hb (by omega) [] (by rw[hn];rfl) (fun k v hk=>by rw[hn] at hk;simp at hk)
  refine sv fTck 52 [2,3] (.c (di 0)<|.k<|.c (AB [])<|.n<|.f<|.h (.dr 11)<|.h (.xs (Ad s0))<|.c (.tup [dV v,db x]) .r) (F0 196 [Ah m,dV c] (di 0)/\F0 161 [dV c] (AB [])/\decide (0<(length (map vPr []):Int))=false/\Q 2/\iz 0<=0/\(map eV c.kids)[Int.toNat 0]?=some (Ad s0)/\F0 163 [Ah m,di s0.n,D.v (BT [])] (D.tup [dV v,db x])/\Q [St.mk [some [di 0,dn],some [di 0,dn]] []]/\True/\D.tup [D.v (V.agg [vi v.n,V.list (map eV v.kids)]),di 0]=D.tup [dV v,di 0]) ?_
  exact⟨hck,ht,rfl,rfl,Int.le_refl _,Az (i:=0) h0,v2,rfl,trivial,rfl⟩
 ·obtain⟨ps,hp1,hp2⟩:∃ps:List (Int×Int),ps.length=b.kids.length/\∀(k:Nat) (v:Val),b.kids[k]?=some v->∃a y,v.kids[0]?=some a/\v.kids[1]?=some y/\ps[k]?=some (a.n,y.n):=by
   refine⟨b.kids.map fun v=>((v.kids.getD 0 default).n,(v.kids.getD 1 default).n),by simp,fun k v hk=>?_⟩
   have h2:=hsh.toks b v hb (mem_of_getElem? hk)
   refine⟨v.kids[0],v.kids[1],getElem?_eq_getElem (by omega),getElem?_eq_getElem (by omega),?_⟩
   rw[getElem?_map,hk]
   simp[getD_eq_getElem?_getD,h2]
  have ht:=tksA_spec c b hb (by omega) hn ps hp1 hp2
  obtain⟨v,v1,v2⟩:=tck_loop m c s0 h0 ps.length (by omega) (fun l hl=>bld_ex m t hm.int s0.n l (by omega)) _ 0 ps rfl rfl
  refine⟨v,v1,?_⟩
  refine sv fTck 52 [2,3] (.c (di 0)<|.k<|.h (.oc (.arr 1 0 ps.length) ⟨[some [di 0,.v .nils],some (Aa (ps.map vPr))],[]⟩)<|.lo [ke 2,ke 3,ke 4,ke 7,ch 21 (di ps.length),ch 22 (di (0:Nat))] ⟨[some [di 0,.v .nils],some (Aa (ps.map vPr))],[]⟩) (F0 196 [Ah m,dV c] (di 0)/\(∀(o:Oper) (c_1:Call) (fo:Operand),o.op=Op.call c_1->c_1.callee=Callee.value fo->Ai PP o [D.v (V.fn 161 [] []),dV c] (St.mk [some [di 0,dn]] []) (D.arr 1 0 ps.length) (St.mk [some [di 0,dn],some (Aa (map vPr ps))] []))/\Q (di (ps.length:Int))/\di 0=di (↑0:Int)/\okH 2 [] [some [di 0,dn],some (Aa (map vPr ps))]=true/\Q [some [di 0,dn],some (Aa (map vPr ps))]/\I0 fTck σ0.H.length (D.tup [dV v,di 0]) σ0 [kl cTck [1,1,1,0,1,0,0],KI.blk 0,kc cTck [1,1,1,1]] (mkE 52 [(2,D.v (V.ref (AE m))),(3,D.v (V.ref (Ad c))),(4,D.ptr 0 0),(7,D.arr 1 0 ps.length),(21,di (ps.length:Int)),(22,di (↑0:Int))]) (St.mk [some [di 0,dn],some (Aa (map vPr ps))] [])) ?_
  exact⟨hck,fun o cl fo ho hc=>CB (σ:=⟨[some [di 0,.v .nils]],[]⟩) (fs:=[]) (cs:=[]) (ds:=[dV c]) ho hc rfl (As _) ht,rfl,rfl,by simp[okH,D.okNs,D.okN,Ag],rfl,⟨v2⟩⟩
theorem CmV_len(l:List Val):(Aa (l.map eV)).length=l.length*2:=BO l
theorem Dt{l:List Val}{i:Nat}{x:Val}(h:l[i]?=some x):i*2+2<=(Aa (l.map eV)).length:=by
 obtain⟨h,_⟩:=List.getElem?_eq_some_iff.1 h
 rw[BO];omega
theorem Ey{l:List Val}{i:Nat}{x:Val}(h:l[i]?=some x):((Aa (l.map eV)).drop (i*2)).take 2=[.v (vi x.n),.v (vVs x.kids)]:=flatV_at h
theorem CmV_take:∀(l:List Val) (k:Nat),(Aa (l.map eV)).take (k*2)=Aa ((l.take k).map eV)
 |[],k=>by simp[Aa]
 |v::l,0=>rfl
 |v::l,k+1=>by
  rw[A5,take_succ_cons,A5, ←CmV_take l k,show(k+1)*2=k*2+1+1 by omega];rfl
theorem CmV_set:∀(l:List Val) (k:Nat) (x:Val) (_:k<l.length),(Aa (l.map eV)).take (k*2)++[D.v (vi x.n),D.v (vVs x.kids)]++(Aa (l.map eV)).drop (k*2+2)=Aa ((l.set k x).map eV)
 |v::l,0,x,_=>by rw[set_cons_zero,A5,A5];rfl
 |v::l,k+1,x,h=>by
  rw[set_cons_succ,A5,A5, ←CmV_set l k x (by simpa using h),show(k+1)*2=k*2+1+1 by omega];rfl
theorem CmV_ones(k:Nat):(((replicate k [vi 0,V.nils]).flatten.map D.v).all D.one)=true:=by
 induction k with
 |zero=>rfl
 |succ k ih=>simp only[replicate_succ,flatten_cons,map_append,List.all_append,ih];rfl
theorem slCmV:BJ PP 29=some (31,2,32,some (.agg #[.int .i64 0,.slice none 0 0])):=by kernel_rfl
theorem CmV_pls(l:List V){R:List D}(h:D.pls R=true):D.pls (Aa l++R)=true:=by rw[CU,As,h];rfl
noncomputable abbrev fCmV:Func:= Tryz.f158
noncomputable def Ec:Code:=fCmV.body.getD .skip
theorem CmV_in(F:FuncId)(l:List Val)(q:Val->Val->Bool)(hl:l.length<=1000)(hq:∀x∈l,∀y∈l,Ab PP F [dV x,dV y] σ0 (db (q x y)) σ0)(k0:Nat)(h0:1<=k0)(h1:k0<l.length)(n:Nat):∀(k j:Nat) (A:List Val),l.length-k0-j=n->1<=k->1<=j->k<k0+j->j<=l.length-k0->A.length=l.length->(∀x∈A,x∈l)->
  ∃(ys:List Val) (R:List D),ys.length<=l.length/\(∀y∈ys,y∈l)/\D.pls R=true/\R.all D.one=true/\Rn PP fCmV 1 (.arr 0 0 ys.length) ⟨[some (Aa (ys.map eV)++R)],[]⟩ ([.lp (sub Ec [1,1,0,1,0,0,1,0,0,1,0,1,0,1,0,0]),.blk 2,.code (sub Ec [1,1,0,1,0,0,1,0,0,1,0,1,1]),.blk 1,.code (sub Ec [1,1,0,1,0,0,1,1]),.lp (sub Ec [1,1,0,1,0,0]),.blk 0,.code (sub Ec [1,1,1])]++[]) (mkE 66 [(0,.arr 0 0 l.length),(1,dfn F),(5,di k),(6,.arr 0 (k0*2) (l.length-k0)),(7,di j)]) ⟨[some (Aa (A.map eV))],[]⟩:=by
 induction n with
 |zero=>
  intro k j A hn hk hj hkj hjl hA hAl
  refine⟨A.take k,(replicate (l.length-k) [vi 0,V.nils]).flatten.map .v,?_,?_,?_,?_,?_⟩
  ·rw[length_take];omega
  ·intro y hy;exact hAl y (mem_of_mem_take hy)
  ·exact BB _
  ·exact CmV_ones _
  refine lv 66 [] (.f<|.h (.q 14 2)<|.h (.o (.arr 0 (k*2) (l.length-k)) ⟨[some (Aa (A.map eV))],[]⟩)<|.h (.o (.tup []) ⟨[some (Aa ((A.take k).map eV)++(replicate (l.length-k) [vi 0,V.nils]).flatten.map .v)],[]⟩)<|.h (.q 15 2)<|.h (.o (.arr 0 0 k) ⟨[some (Aa ((A.take k).map eV)++(replicate (l.length-k) [vi 0,V.nils]).flatten.map .v)],[]⟩) .ro) (decide ((j:Int)<(↑(length l-k0):Int))=false/\Ai PP (Oper.mk (some 61) (Op.slice 29 (Operand.tmp 59) (some (Operand.tmp 60)) none none) 29 "slices.go:410" #[Edge.mk 0 Ground.data,Edge.mk 1 Ground.data] none) [D.arr 0 0 l.length,di (k:Int)] (St.mk [some (Aa (map eV A))] []) (D.arr 0 (k*2) (length l-k)) (St.mk [some (Aa (map eV A))] [])/\Ai PP (Oper.mk none (Op.call (Call.mk (Callee.builtin Builtin.clear) #[Operand.tmp 61] #[29])) 0 "slices.go:410" #[Edge.mk 2 Ground.data] none) [D.arr 0 (k*2) (length l-k)] (St.mk [some (Aa (map eV A))] []) (D.tup []) (St.mk [some (Aa (map eV (take k A))++map D.v (flatten (replicate (length l-k) [vi 0,V.nils])))] [])/\Ai PP (Oper.mk (some 64) (Op.slice 29 (Operand.tmp 62) none (some (Operand.tmp 63)) none) 29 "slices.go:411" #[Edge.mk 0 Ground.data,Edge.mk 1 Ground.data] none) [D.arr 0 0 l.length,di (k:Int)] (St.mk [some (Aa (map eV (take k A))++map D.v (flatten (replicate (length l-k) [vi 0,V.nils])))] []) (D.arr 0 0 k) (St.mk [some (Aa (map eV (take k A))++map D.v (flatten (replicate (length l-k) [vi 0,V.nils])))] [])/\okH 1 [] [some (Aa (map eV (take k A))++map D.v (flatten (replicate (length l-k) [vi 0,V.nils])))]=true/\Q [some (Aa (map eV (take k A))++map D.v (flatten (replicate (length l-k) (vi 0::V.nils::nV))))]/\D.arr 0 0 k=D.arr 0 0 (length (take k A))) ?_
  have hkl:k<l.length:=by omega
  have hsl:∀(o:Oper) (x:Operand) (y:Operand) (τ:St),o.op=.slice 29 x (some y) none none->Ai PP o [.arr 0 0 l.length,di k] τ (.arr 0 (k*2) (l.length-k)) τ:=fun o x y τ ho=>by
   have:=CA (P:=PP) (o:=o) (σ:=τ) ho slCmV (q:=0) (off:=0) (len:=l.length) (some (.i64,(k:Int))) none rfl rfl (l':=k) (h':=l.length) (by simp[BI];omega) hkl
   rwa[Nat.zero_add] at this
  have hsh:∀(o:Oper) (x:Operand) (y:Operand) (τ:St),o.op=.slice 29 x none (some y) none->Ai PP o [.arr 0 0 l.length,di k] τ (.arr 0 0 k) τ:=fun o x y τ ho=>by
   have:=CA (P:=PP) (o:=o) (σ:=τ) ho slCmV (q:=0) (off:=0) (len:=l.length) none (some (.i64,(k:Int))) rfl rfl (l':=0) (h':=k) (by simp[BI];omega) (by omega)
   rwa[Nat.zero_mul,Nat.add_zero,Nat.sub_zero] at this
  have hfl:(Aa (A.map eV)).length=l.length*2:=by rw[CmV_len,hA]
  have hcl:=fun(o:Oper) (x:Operand) (ho:o.op=.call { callee:=.builtin .clear,args:= #[x],argTypes:= #[29]})=>op_clearArr (P:=PP) (o:=o) (σ:=⟨[some (Aa (A.map eV))],[]⟩) ho slCmV (zs:=[vi 0,.nils]) rfl rfl (q:=0) (off:=k*2) (len:=l.length-k) rfl (by omega) (by rw[hfl];omega)
  have hd:(Aa (A.map eV)).drop (k*2+(l.length-k)*2)=[]:=drop_of_length_le (by rw[hfl];omega)
  have htk:(Aa (A.map eV)).take (k*2)=Aa ((A.take k).map eV):=CmV_take A k
  rw[hd,htk,append_nil] at hcl
  refine⟨decide_eq_false (by omega),hsl _ _ _ _ rfl,hcl _ _ rfl,hsh _ _ _ _ rfl,?_,rfl,by rw[length_take,hA,Nat.min_eq_left (by omega)]⟩
  exact Bool.and_eq_true_iff.2 ⟨CJ (CmV_pls _ (BB _)),rfl⟩
 |succ n ih=>
  intro k j A hn hk hj hkj hjl hA hAl
  obtain⟨x,hx⟩:∃x,A[k0+j]?=some x:=⟨_,getElem?_eq_getElem (show k0+j<A.length by omega)⟩
  obtain⟨y,hy⟩:∃x,A[k0+j-1]?=some x:=⟨_,getElem?_eq_getElem (show k0+j-1<A.length by omega)⟩
  have hc:=hq x (hAl x (mem_of_getElem? hx)) y (hAl y (mem_of_getElem? hy))
  have hw1:i64.wrap ((j:Int)-1)=((j-1:Nat):Int):=by rw[Aj (by omega) (by omega)];omega
  cases hb:q x y with
  |true=>
   rw[hb] at hc
   obtain⟨ys,R,r1,r2,r3,r5,r4⟩:=ih k (j+1) A (by omega) hk (by omega) (by omega) (by omega) hA hAl
   refine⟨ys,R,r1,r2,r3,r5,?_⟩
   refine lv 66 [] (.t<|.m (dV x)<|.m (dV y)<|.c (db true)<|.lo [ke 0,ke 1,ke 5,ke 6,ch 7 (di (j+1:Nat))] ⟨[some (Aa (A.map eV))],[]⟩) (decide ((j:Int)<(↑(length l-k0):Int))=true/\0<=(j:Int)/\(j:Int)<(↑(length l-k0):Int)/\k0*2+Int.toNat (j:Int)*2+2<=length (Aa (map eV A))/\take 2 (List.drop (k0*2+Int.toNat (j:Int)*2) (Aa (map eV A)))=[di x.n,dVs x.kids]/\0<=wrap i64 ((j:Int)-1)/\wrap i64 ((j:Int)-1)<(↑(length l-k0):Int)/\k0*2+Int.toNat (wrap i64 ((j:Int)-1))*2+2<=length (Aa (map eV A))/\take 2 (List.drop (k0*2+Int.toNat (wrap i64 ((j:Int)-1))*2) (Aa (map eV A)))=[di y.n,dVs y.kids]/\F0 F [dV x,dV y] (db true)/\(True/\True/\True)/\di (wrap i64 ((j:Int)+1))=di (↑(j+1):Int)/\okH 1 [] [some (Aa (map eV A))]=true/\Q [some (Aa (map eV A))]/\I0 fCmV 1 (D.arr 0 0 ys.length) (St.mk [some (Aa (map eV ys)++R)] []) [kl Ec [1,1,0,1,0,0,1,0,0,1,0,1,0,1,0,0],KI.blk 2,kc Ec [1,1,0,1,0,0,1,0,0,1,0,1,1],KI.blk 1,kc Ec [1,1,0,1,0,0,1,1],kl Ec [1,1,0,1,0,0],KI.blk 0,kc Ec [1,1,1]] (mkE 66 [(0,D.arr 0 0 l.length),(1,D.v (V.fn F [] [])),(5,di (k:Int)),(6,D.arr 0 (k0*2) (length l-k0)),(7,di (↑(j+1):Int))]) (St.mk [some (Aa (map eV A))] [])) ?_
   rw[hw1]
   refine⟨decide_eq_true (by omega),by omega,by omega,by rw[show k0*2+Int.toNat (j:Int)*2=(k0+j)*2 by omega];have:=Dt hx;omega,by rw[show k0*2+Int.toNat (j:Int)*2=(k0+j)*2 by omega];exact Ey hx,by omega,by omega,by rw[show k0*2+Int.toNat ((j-1:Nat):Int)*2=(k0+j-1)*2 by omega];have:=Dt hy;omega,by rw[show k0*2+Int.toNat ((j-1:Nat):Int)*2=(k0+j-1)*2 by omega];exact Ey hy,hc,⟨trivial,trivial,trivial⟩,Af (by omega),Bool.and_eq_true_iff.2 ⟨Ag 1 [] _,rfl⟩,rfl,⟨r4⟩⟩
  |false=>
   rw[hb] at hc
   have hA2:∀z∈A.set k x,z∈l:=fun z hz=>by
    rcases mem_or_eq_of_mem_set hz with h|h
    ·exact hAl z h
    ·rw[h];exact hAl x (mem_of_getElem? hx)
   obtain⟨ys,R,r1,r2,r3,r5,r4⟩:=ih (k+1) (j+1) (A.set k x) (by omega) (by omega) (by omega) (by omega) (by omega) (by rw[length_set];exact hA) hA2
   refine⟨ys,R,r1,r2,r3,r5,?_⟩
   refine lv 66 [] (.t<|.m (dV x)<|.m (dV y)<|.c (db false)<|.m (dV x)<|.h .ww<|.lo [ke 0,ke 1,ch 5 (di (k+1:Nat)),ke 6,ch 7 (di (j+1:Nat))] ⟨[some (Aa ((A.set k x).map eV))],[]⟩) (decide ((j:Int)<(↑(length l-k0):Int))=true/\0<=(j:Int)/\(j:Int)<(↑(length l-k0):Int)/\k0*2+Int.toNat (j:Int)*2+2<=length (Aa (map eV A))/\take 2 (List.drop (k0*2+Int.toNat (j:Int)*2) (Aa (map eV A)))=[di x.n,dVs x.kids]/\0<=wrap i64 ((j:Int)-1)/\wrap i64 ((j:Int)-1)<(↑(length l-k0):Int)/\k0*2+Int.toNat (wrap i64 ((j:Int)-1))*2+2<=length (Aa (map eV A))/\take 2 (List.drop (k0*2+Int.toNat (wrap i64 ((j:Int)-1))*2) (Aa (map eV A)))=[di y.n,dVs y.kids]/\F0 F [dV x,dV y] (db false)/\(True/\True/\True)/\0<=(j:Int)/\(j:Int)<(↑(length l-k0):Int)/\k0*2+Int.toNat (j:Int)*2+2<=length (Aa (map eV A))/\take 2 (List.drop (k0*2+Int.toNat (j:Int)*2) (Aa (map eV A)))=[di x.n,dVs x.kids]/\0<=(k:Int)/\(k:Int)<(l.length:Int)/\0+Int.toNat (k:Int)*2+2<=length (Aa (map eV A))/\di (wrap i64 ((k:Int)+1))=di (↑(k+1):Int)/\di (wrap i64 ((j:Int)+1))=di (↑(j+1):Int)/\okH 1 [] [some (take (0+Int.toNat (k:Int)*2) (Aa (map eV A))++[di x.n,dVs x.kids]++List.drop (0+Int.toNat (k:Int)*2+2) (Aa (map eV A)))]=true/\[some (take (0+Int.toNat (k:Int)*2) (Aa (map eV A))++[di x.n,dVs x.kids]++List.drop (0+Int.toNat (k:Int)*2+2) (Aa (map eV A)))]=[some (Aa (map eV (List.set A k x)))]/\I0 fCmV 1 (D.arr 0 0 ys.length) (St.mk [some (Aa (map eV ys)++R)] []) [kl Ec [1,1,0,1,0,0,1,0,0,1,0,1,0,1,0,0],KI.blk 2,kc Ec [1,1,0,1,0,0,1,0,0,1,0,1,1],KI.blk 1,kc Ec [1,1,0,1,0,0,1,1],kl Ec [1,1,0,1,0,0],KI.blk 0,kc Ec [1,1,1]] (mkE 66 [(0,D.arr 0 0 l.length),(1,D.v (V.fn F [] [])),(5,di (↑(k+1):Int)),(6,D.arr 0 (k0*2) (length l-k0)),(7,di (↑(j+1):Int))]) (St.mk [some (Aa (map eV (List.set A k x)))] [])) ?_
   rw[hw1]
   refine⟨decide_eq_true (by omega),by omega,by omega,by rw[show k0*2+Int.toNat (j:Int)*2=(k0+j)*2 by omega];have:=Dt hx;omega,by rw[show k0*2+Int.toNat (j:Int)*2=(k0+j)*2 by omega];exact Ey hx,by omega,by omega,by rw[show k0*2+Int.toNat ((j-1:Nat):Int)*2=(k0+j-1)*2 by omega];have:=Dt hy;omega,by rw[show k0*2+Int.toNat ((j-1:Nat):Int)*2=(k0+j-1)*2 by omega];exact Ey hy,hc,⟨trivial,trivial,trivial⟩,by omega,by omega,by rw[show k0*2+Int.toNat (j:Int)*2=(k0+j)*2 by omega];have:=Dt hx;omega,by rw[show k0*2+Int.toNat (j:Int)*2=(k0+j)*2 by omega];exact Ey hx,by omega,by omega,by rw[CmV_len];omega,Af (by omega),Af (by omega),?_,?_,⟨r4⟩⟩
   ·rw[show 0+Int.toNat (k:Int)*2=k*2 by omega,CmV_set A k x (by omega)]
    exact Bool.and_eq_true_iff.2 ⟨Ag 1 [] _,rfl⟩
   ·rw[show 0+Int.toNat (k:Int)*2=k*2 by omega,CmV_set A k x (by omega)]
theorem CmV_out(F:FuncId)(l:List Val)(q:Val->Val->Bool)(hl:l.length<=1000)(hq:∀x∈l,∀y∈l,Ab PP F [dV x,dV y] σ0 (db (q x y)) σ0)(n:Nat):∀(k:Nat),l.length-k=n->1<=k->
  ∃(ys:List Val) (R:List D),ys.length<=l.length/\(∀y∈ys,y∈l)/\D.pls R=true/\R.all D.one=true/\Rn PP fCmV 1 (.arr 0 0 ys.length) ⟨[some (Aa (ys.map eV)++R)],[]⟩ ([.lp (sub Ec [1,1,0,1,0,0]),.blk 0,.code (sub Ec [1,1,1])]++[]) (mkE 66 [(0,.arr 0 0 l.length),(1,dfn F),(5,di k)]) ⟨[some (Aa (l.map eV))],[]⟩:=by
 induction n with
 |zero=>
  intro k hn hk
  refine⟨l,[],Nat.le_refl _,fun y h=>h,rfl,rfl,?_⟩
  refine lv 66 [] (.f .ro) (decide ((k:Int)<(l.length:Int))=false/\okH 1 [] [some (Aa (map eV l))]=true/\[some (Aa (map eV l))]=[some (Aa (map eV l)++[])]/\Q (D.arr 0 0 l.length)) ?_
  exact⟨decide_eq_false (by omega),Bool.and_eq_true_iff.2 ⟨Ag 1 [] _,rfl⟩,by rw[append_nil],rfl⟩
 |succ n ih=>
  intro k hn hk
  obtain⟨x,hx⟩:∃x,l[k]?=some x:=⟨_,getElem?_eq_getElem (show k<l.length by omega)⟩
  obtain⟨y,hy⟩:∃x,l[k-1]?=some x:=⟨_,getElem?_eq_getElem (show k-1<l.length by omega)⟩
  have hc:=hq x (mem_of_getElem? hx) y (mem_of_getElem? hy)
  have hkl:k<l.length:=by omega
  have hw1:i64.wrap ((k:Int)-1)=((k-1:Nat):Int):=by rw[Aj (by omega) (by omega)];omega
  cases hb:q x y with
  |true=>
   rw[hb] at hc
   obtain⟨ys,R,r1,r2,r3,r5,r4⟩:=CmV_in F l q hl hq k hk (by omega) _ k 1 l rfl hk (by omega) (by omega) (by omega) rfl (fun x h=>h)
   refine⟨ys,R,r1,r2,r3,r5,?_⟩
   refine lv 66 [] (.t<|.m (dV x)<|.m (dV y)<|.c (db true)<|.k<|.h (.q 7 2)<|.h (.o (.arr 0 (k*2) (l.length-k)) ⟨[some (Aa (l.map eV))],[]⟩)<|.lo [ke 0,ke 1,ke 5,ke 6,ch 7 (di (1:Nat))] ⟨[some (Aa (l.map eV))],[]⟩) (decide ((k:Int)<(l.length:Int))=true/\0<=(k:Int)/\(k:Int)<(l.length:Int)/\0+Int.toNat (k:Int)*2+2<=length (Aa (map eV l))/\take 2 (List.drop (0+Int.toNat (k:Int)*2) (Aa (map eV l)))=[di x.n,dVs x.kids]/\0<=wrap i64 ((k:Int)-1)/\wrap i64 ((k:Int)-1)<(l.length:Int)/\0+Int.toNat (wrap i64 ((k:Int)-1))*2+2<=length (Aa (map eV l))/\take 2 (List.drop (0+Int.toNat (wrap i64 ((k:Int)-1))*2) (Aa (map eV l)))=[di y.n,dVs y.kids]/\F0 F [dV x,dV y] (db true)/\(True/\True/\True)/\Ai PP (Oper.mk (some 31) (Op.slice 29 (Operand.tmp 29) (some (Operand.tmp 30)) none none) 29 "slices.go:402" #[Edge.mk 0 Ground.data,Edge.mk 1 Ground.data] none) [D.arr 0 0 l.length,di (k:Int)] (St.mk [some (Aa (map eV l))] []) (D.arr 0 (k*2) (length l-k)) (St.mk [some (Aa (map eV l))] [])/\di 1=di (↑1:Int)/\okH 1 [] [some (Aa (map eV l))]=true/\Q [some (Aa (map eV l))]/\I0 fCmV 1 (D.arr 0 0 ys.length) (St.mk [some (Aa (map eV ys)++R)] []) [kl Ec [1,1,0,1,0,0,1,0,0,1,0,1,0,1,0,0],KI.blk 2,kc Ec [1,1,0,1,0,0,1,0,0,1,0,1,1],KI.blk 1,kc Ec [1,1,0,1,0,0,1,1],kl Ec [1,1,0,1,0,0],KI.blk 0,kc Ec [1,1,1]] (mkE 66 [(0,D.arr 0 0 l.length),(1,D.v (V.fn F [] [])),(5,di (k:Int)),(6,D.arr 0 (k*2) (length l-k)),(7,di (↑1:Int))]) (St.mk [some (Aa (map eV l))] [])) ?_
   have hsl:∀(o:Oper) (x:Operand) (y:Operand) (τ:St),o.op=.slice 29 x (some y) none none->Ai PP o [.arr 0 0 l.length,di k] τ (.arr 0 (k*2) (l.length-k)) τ:=fun o x y τ ho=>by
    have:=CA (P:=PP) (o:=o) (σ:=τ) ho slCmV (q:=0) (off:=0) (len:=l.length) (some (.i64,(k:Int))) none rfl rfl (l':=k) (h':=l.length) (by simp[BI];omega) hkl
    rwa[Nat.zero_add] at this
   rw[hw1]
   exact⟨decide_eq_true (by omega),by omega,by omega,by rw[show 0+Int.toNat (k:Int)*2=(k)*2 by omega];have:=Dt hx;omega,by rw[show 0+Int.toNat (k:Int)*2=(k)*2 by omega];exact Ey hx,by omega,by omega,by rw[show 0+Int.toNat ((k-1:Nat):Int)*2=(k-1)*2 by omega];have:=Dt hy;omega,by rw[show 0+Int.toNat ((k-1:Nat):Int)*2=(k-1)*2 by omega];exact Ey hy,hc,⟨trivial,trivial,trivial⟩,hsl _ _ _ _ rfl,rfl,Bool.and_eq_true_iff.2 ⟨Ag 1 [] _,rfl⟩,rfl,⟨r4⟩⟩
  |false=>
   rw[hb] at hc
   obtain⟨ys,R,r1,r2,r3,r5,r4⟩:=ih (k+1) (by omega) (by omega)
   refine⟨ys,R,r1,r2,r3,r5,?_⟩
   refine lv 66 [] (.t<|.m (dV x)<|.m (dV y)<|.c (db false)<|.lo [ke 0,ke 1,ch 5 (di (k+1:Nat))] ⟨[some (Aa (l.map eV))],[]⟩) (decide ((k:Int)<(l.length:Int))=true/\0<=(k:Int)/\(k:Int)<(l.length:Int)/\0+Int.toNat (k:Int)*2+2<=length (Aa (map eV l))/\take 2 (List.drop (0+Int.toNat (k:Int)*2) (Aa (map eV l)))=[di x.n,dVs x.kids]/\0<=wrap i64 ((k:Int)-1)/\wrap i64 ((k:Int)-1)<(l.length:Int)/\0+Int.toNat (wrap i64 ((k:Int)-1))*2+2<=length (Aa (map eV l))/\take 2 (List.drop (0+Int.toNat (wrap i64 ((k:Int)-1))*2) (Aa (map eV l)))=[di y.n,dVs y.kids]/\F0 F [dV x,dV y] (db false)/\(True/\True/\True)/\di (wrap i64 ((k:Int)+1))=di (↑(k+1):Int)/\okH 1 [] [some (Aa (map eV l))]=true/\Q [some (Aa (map eV l))]/\I0 fCmV 1 (D.arr 0 0 ys.length) (St.mk [some (Aa (map eV ys)++R)] []) [kl Ec [1,1,0,1,0,0],KI.blk 0,kc Ec [1,1,1]] (mkE 66 [(0,D.arr 0 0 l.length),(1,D.v (V.fn F [] [])),(5,di (↑(k+1):Int))]) (St.mk [some (Aa (map eV l))] [])) ?_
   rw[hw1]
   exact⟨decide_eq_true (by omega),by omega,by omega,by rw[show 0+Int.toNat (k:Int)*2=(k)*2 by omega];have:=Dt hx;omega,by rw[show 0+Int.toNat (k:Int)*2=(k)*2 by omega];exact Ey hx,by omega,by omega,by rw[show 0+Int.toNat ((k-1:Nat):Int)*2=(k-1)*2 by omega];have:=Dt hy;omega,by rw[show 0+Int.toNat ((k-1:Nat):Int)*2=(k-1)*2 by omega];exact Ey hy,hc,⟨trivial,trivial,trivial⟩,Af (by omega),Bool.and_eq_true_iff.2 ⟨Ag 1 [] _,rfl⟩,rfl,⟨r4⟩⟩
theorem CmV_ex(F:FuncId)(l:List Val)(q:Val->Val->Bool)(hl:l.length<=1000)(hq:∀x∈l,∀y∈l,Ab PP F [dV x,dV y] σ0 (db (q x y)) σ0):
  ∃(ys:List Val) (R:List D),ys.length<=l.length/\(∀y∈ys,y∈l)/\D.pls R=true/\R.all D.one=true/\Ab PP 158 [.arr 0 0 l.length,dfn F] ⟨[some (Aa (l.map eV))],[]⟩ (.arr 0 0 ys.length) ⟨[some (Aa (ys.map eV)++R)],[]⟩:=by
 by_cases h2:l.length<2
 ·refine⟨l,[],Nat.le_refl _,fun y h=>h,rfl,rfl,?_⟩
  refine sv fCmV 66 [] (.t .ro) (decide ((l.length:Int)<2)=true/\okH 1 [] [some (Aa (map eV l))]=true/\[some (Aa (map eV l))]=[some (Aa (map eV l)++[])]/\Q (D.arr 0 0 l.length)) ?_
  exact⟨decide_eq_true (by omega),Bool.and_eq_true_iff.2 ⟨Ag 1 [] _,rfl⟩,by rw[append_nil],rfl⟩
 ·obtain⟨ys,R,r1,r2,r3,r5,r4⟩:=CmV_out F l q hl hq _ 1 rfl (Nat.le_refl _)
  refine⟨ys,R,r1,r2,r3,r5,?_⟩
  refine sv fCmV 66 [] (.f<|.lo [ke 0,ke 1,ch 5 (di (1:Nat))] ⟨[some (Aa (l.map eV))],[]⟩) (decide ((l.length:Int)<2)=false/\di 1=di (↑1:Int)/\okH 1 [] [some (Aa (map eV l))]=true/\Q [some (Aa (map eV l))]/\I0 fCmV (length (St.mk [some (Aa (map eV l))] []).H) (D.arr 0 0 ys.length) (St.mk [some (Aa (map eV ys)++R)] []) [kl Ec [1,1,0,1,0,0],KI.blk 0,kc Ec [1,1,1]] (mkE 66 [(0,D.arr 0 0 l.length),(1,dfn F),(5,di (↑1:Int))]) (St.mk [some (Aa (map eV l))] [])) ?_
  exact⟨decide_eq_false (by omega),rfl,Bool.and_eq_true_iff.2 ⟨Ag 1 [] _,rfl⟩,rfl,⟨r4⟩⟩
abbrev vRef(x:V):D:=.v (.ref x)
abbrev EM(m:Mod)(r:Rul)(ms:List (Int×Int)):List D:=[vRef (AE m),vRef (Ak r),vRef (BT ms),.ptr 0 0,.ptr 1 0]
abbrev Gy(b:Bool)(xs:List Val):St:=⟨[some [.gro 2 xs.length 2],some [db b],some (Aa (xs.map eV))],[]⟩
abbrev Ei(b:Bool)(xs:List Val):St:=⟨[some [.gro 3 xs.length 2],some [db b],none,some (Aa (xs.map eV))],[]⟩
noncomputable abbrev fTEach:Func:= Tryz.f162
theorem each0(m:Mod)(t:Typ)(hm:FL m t)(r:Rul)(ms l:List (Int×Int))(hl:l.length<=50)(hms:ms.length<=50)(b:Bool):∃(v:Val) (ok:Bool),v.size<=1000/\Ab PP 162 ([AB l]++EM m r ms) ⟨[some [.v .nils],some [db b]],[]⟩ (.tup []) (Gy (b&&ok) [v]):=by
 obtain⟨v,ok,h1,h2⟩:=bld_ex m t hm r.to (l++ms) (by simp;omega)
 refine⟨v,ok,h1,?_⟩
 have hco:Ab PP 164 [D.v (V.list [BT l,BT ms])] σ0 (AB (l++ms)) σ0:=by
  have:=coPr_spec [l,ms] (by simp) (by simp;omega)
  simp only[flatten_cons,List.flatten_nil,append_nil] at this
  exact this
 have hfA:∀z:Bool,[some [D.gro 3 1 2],some [db z],some [di v.n,D.v (vVs v.kids)],some [di v.n,D.v (vVs v.kids)]]=[some [D.gro 3 1 2],some [db z],some [di v.n,dVs v.kids],some (Aa ([v].map eV))]:=fun z=>by rw[A5];rfl
 have h:Ab PP 162 ([AB l]++EM m r ms) ⟨[some [.v .nils],some [db b]],[]⟩ (.tup []) ⟨[some [.gro 3 1 2],some [db (b&&ok)],some [di v.n,dVs v.kids],some (Aa ([v].map eV))],[]⟩:=by
  cases b with
  |true=>
   refine sv fTEach 28 [] (.h (.dr 11)<|.c (AB (l++ms))<|.c (.tup [dV v,db ok])<|.m (.v .nils)<|.m (dV v)<|.h (.p (.v (.list [Ad v])))<|.h .g<|.ro) (F0 164 [D.v (V.list [BT l,BT ms])] (AB (l++ms))/\F0 163 [Ah m,di r.to,D.v (BT (l++ms))] (D.tup [dV v,db ok])/\Q [St.mk [some [dn],some [db true],some [di 0,dn]] []]/\True/\Q (some (dn))/\2<=2/\Q [di v.n,dVs v.kids]/\(∀(τ:St),Ai PP (Oper.mk (some 22) (Op.buildSlice 29 1 #[(0,Operand.tmp 21)]) 29 "timed.go:85" #[Edge.mk 1 Ground.data] none) [dV v] τ (D.v (V.list [Ad v])) τ)/\[Ad v]≠ []/\(∀(y:V),y∈ [Ad v]->V.size y=2)/\Ar 1 32/\(True/\True/\(Q (some [db true])/\True)/\True)/\([]:List KI)=[]/\okH 4 [] [some [D.gro 3 1 2],some [db ok],some [di v.n,dVs v.kids],some [di v.n,dVs v.kids]]=true/\[some [D.gro 3 1 2],some [db ok],some [di v.n,dVs v.kids],some [di v.n,dVs v.kids]]=[some [D.gro 3 1 2],some [db (true&&ok)],some [di v.n,dVs v.kids],some (Aa (eV v::nV))]/\Q (D.tup [])) ?_
   exact⟨hco,h2,rfl,trivial,rfl,Nat.le_refl _,rfl,fun τ=>bs1V v τ rfl,by simp,fun y hy=>by rw[mem_singleton.1 hy];rfl,⟨by decide,by decide⟩,⟨trivial,trivial,⟨rfl,trivial⟩,trivial⟩,rfl,rfl,hfA _,rfl⟩
  |false=>
   refine sv fTEach 28 [] (.h (.dr 11)<|.c (AB (l++ms))<|.c (.tup [dV v,db ok])<|.m (.v .nils)<|.m (dV v)<|.h (.p (.v (.list [Ad v])))<|.h .g<|.ro) (F0 164 [D.v (V.list [BT l,BT ms])] (AB (l++ms))/\F0 163 [Ah m,di r.to,D.v (BT (l++ms))] (D.tup [dV v,db ok])/\Q [St.mk [some [dn],some [db false],some [di 0,dn]] []]/\True/\Q (some (dn))/\2<=2/\Q [di v.n,dVs v.kids]/\(∀(τ:St),Ai PP (Oper.mk (some 22) (Op.buildSlice 29 1 #[(0,Operand.tmp 21)]) 29 "timed.go:85" #[Edge.mk 1 Ground.data] none) [dV v] τ (D.v (V.list [Ad v])) τ)/\[Ad v]≠ []/\(∀(y:V),y∈ [Ad v]->V.size y=2)/\Ar 1 32/\(True/\True/\(Q (some [db false])/\True)/\True)/\([]:List KI)=[]/\okH 4 [] [some [D.gro 3 1 2],some [db false],some [di v.n,dVs v.kids],some [di v.n,dVs v.kids]]=true/\[some [D.gro 3 1 2],some [db false],some [di v.n,dVs v.kids],some [di v.n,dVs v.kids]]=[some [D.gro 3 1 2],some [db (false&&ok)],some [di v.n,dVs v.kids],some (Aa (eV v::nV))]/\Q (D.tup [])) ?_
   exact⟨hco,h2,rfl,trivial,rfl,Nat.le_refl _,rfl,fun τ=>bs1V v τ rfl,by simp,fun y hy=>by rw[mem_singleton.1 hy];rfl,⟨by decide,by decide⟩,⟨trivial,trivial,⟨rfl,trivial⟩,trivial⟩,rfl,rfl,hfA _,rfl⟩
 refine spec_selG (σ:=⟨[some [.v .nils],some [db b]],[]⟩) (fun i=>if i<2 then i else i+1) (show 2<=3 by decide) (fun i hi=>if_pos hi) (fun i j _ _ h=>?_) (fun i hi=>?_) (fun i cs hi=>?_) rfl h
 ·have h:(if i<2 then i else i+1)=(if j<2 then j else j+1):=h
  split at h<;>split at h<;>omega
 ·have hi:i<3:=hi
  show(if i<2 then i else i+1)<4
  split<;>omega
 ·match i,hi with
  |0,hi=>have hi:=Option.some.inj (Option.some.inj (hi:some (some _)=some (some cs)));subst hi;exact⟨rfl,rfl⟩
  |1,hi=>have hi:=Option.some.inj (Option.some.inj (hi:some (some _)=some (some cs)));subst hi;exact⟨rfl,rfl⟩
  |2,hi=>have hi:=Option.some.inj (Option.some.inj (hi:some (some _)=some (some cs)));subst hi;exact⟨by rw[Bz (As _)];rfl,Ag _ _ _⟩
  |i+3,hi=>simp at hi
theorem each1(m:Mod)(t:Typ)(hm:FL m t)(r:Rul)(ms l:List (Int×Int))(hl:l.length<=50)(hms:ms.length<=50)(xs:List Val)(hx:xs.length<=50)(b:Bool):∃(v:Val) (ok:Bool),v.size<=1000/\Ab PP 162 ([AB l]++EM m r ms) (Gy b xs) (.tup []) (Ei (b&&ok) (xs++[v])):=by
 obtain⟨v,ok,h1,h2⟩:=bld_ex m t hm r.to (l++ms) (by simp;omega)
 refine⟨v,ok,h1,?_⟩
 have hco:Ab PP 164 [D.v (V.list [BT l,BT ms])] σ0 (AB (l++ms)) σ0:=by
  have:=coPr_spec [l,ms] (by simp) (by simp;omega)
  simp only[flatten_cons,List.flatten_nil,append_nil] at this
  exact this
 have hfB:∀z:Bool,[some [D.gro 4 (xs.length+[Ad v].length) 2],some [db z],none,some [di v.n,D.v (vVs v.kids)],some (Aa (xs.map eV)++[di v.n,D.v (vVs v.kids)])]=[some [D.gro 4 (xs++[v]).length 2],some [db z],none,some [di v.n,dVs v.kids],some (Aa ((xs++[v]).map eV))]:=fun z=>by
  rw[flatV_snoc,length_append];rfl
 have hkB:∀z:Bool,okH 5 [] [some [D.gro 4 (xs.length+[Ad v].length) 2],some [db z],none,some [di v.n,D.v (vVs v.kids)],some (Aa (xs.map eV)++[di v.n,D.v (vVs v.kids)])]=true:=fun z=>by
  rw[flatV_snoc];simp[okH,D.okNs,D.okN,Ag]
 have h:Ab PP 162 ([AB l]++EM m r ms) (Gy b xs) (.tup []) ⟨[some [.gro 4 (xs++[v]).length 2],some [db (b&&ok)],none,some [di v.n,dVs v.kids],some (Aa ((xs++[v]).map eV))],[]⟩:=by
  cases b with
  |true=>
   refine sv fTEach 28 [] (.h (.dr 11)<|.c (AB (l++ms))<|.c (.tup [dV v,db ok])<|.m (.gro 2 xs.length 2)<|.m (dV v)<|.h (.p (.v (.list [Ad v])))<|.ro) (F0 164 [D.v (V.list [BT l,BT ms])] (AB (l++ms))/\F0 163 [Ah m,di r.to,D.v (BT (l++ms))] (D.tup [dV v,db ok])/\Q [St.mk [some [D.gro 2 xs.length 2],some [db true],some (Aa (map eV xs)),some [di 0,dn]] []]/\True/\Q (some (D.gro 2 xs.length 2))/\2<=2/\Q [di v.n,dVs v.kids]/\(∀(τ:St),Ai PP (Oper.mk (some 22) (Op.buildSlice 29 1 #[(0,Operand.tmp 21)]) 29 "timed.go:85" #[Edge.mk 1 Ground.data] none) [dV v] τ (D.v (V.list [Ad v])) τ)/\length (Aa (map eV xs))=length xs*2/\[Ad v]≠ []/\(∀(y:V),y∈ [Ad v]->V.size y=2)/\Ar (length xs+length (Ad v::nV)) 32/\(True/\True/\(Q (some [db true])/\True)/\True)/\([]:List KI)=[]/\okH 5 [] [some [D.gro 4 (length xs+length (Ad v::nV)) 2],some [db ok],none,some [di v.n,dVs v.kids],some (Aa (map eV xs)++[di v.n,dVs v.kids])]=true/\[some [D.gro 4 (length xs+length (Ad v::nV)) 2],some [db ok],none,some [di v.n,dVs v.kids],some (Aa (map eV xs)++[di v.n,dVs v.kids])]=[some [D.gro 4 (length (xs++[v])) 2],some [db (true&&ok)],none,some [di v.n,dVs v.kids],some (Aa (map eV (xs++[v])))]/\Q (D.tup [])) ?_
   exact⟨hco,h2,rfl,trivial,rfl,Nat.le_refl _,rfl,fun τ=>bs1V v τ rfl,by rw[BO],by simp,fun y hy=>by rw[mem_singleton.1 hy];rfl,⟨by simp only[length_cons,length_nil];omega,by simp only[length_cons,length_nil];omega⟩,⟨trivial,trivial,⟨rfl,trivial⟩,trivial⟩,rfl,hkB _,hfB _,rfl⟩
  |false=>
   refine sv fTEach 28 [] (.h (.dr 11)<|.c (AB (l++ms))<|.c (.tup [dV v,db ok])<|.m (.gro 2 xs.length 2)<|.m (dV v)<|.h (.p (.v (.list [Ad v])))<|.ro) (F0 164 [D.v (V.list [BT l,BT ms])] (AB (l++ms))/\F0 163 [Ah m,di r.to,D.v (BT (l++ms))] (D.tup [dV v,db ok])/\Q [St.mk [some [D.gro 2 xs.length 2],some [db false],some (Aa (map eV xs)),some [di 0,dn]] []]/\True/\Q (some (D.gro 2 xs.length 2))/\2<=2/\Q [di v.n,dVs v.kids]/\(∀(τ:St),Ai PP (Oper.mk (some 22) (Op.buildSlice 29 1 #[(0,Operand.tmp 21)]) 29 "timed.go:85" #[Edge.mk 1 Ground.data] none) [dV v] τ (D.v (V.list [Ad v])) τ)/\length (Aa (map eV xs))=length xs*2/\[Ad v]≠ []/\(∀(y:V),y∈ [Ad v]->V.size y=2)/\Ar (length xs+length (Ad v::nV)) 32/\(True/\True/\(Q (some [db false])/\True)/\True)/\([]:List KI)=[]/\okH 5 [] [some [D.gro 4 (length xs+length (Ad v::nV)) 2],some [db false],none,some [di v.n,dVs v.kids],some (Aa (map eV xs)++[di v.n,dVs v.kids])]=true/\[some [D.gro 4 (length xs+length (Ad v::nV)) 2],some [db false],none,some [di v.n,dVs v.kids],some (Aa (map eV xs)++[di v.n,dVs v.kids])]=[some [D.gro 4 (length (xs++[v])) 2],some [db (false&&ok)],none,some [di v.n,dVs v.kids],some (Aa (map eV (xs++[v])))]/\Q (D.tup [])) ?_
   exact⟨hco,h2,rfl,trivial,rfl,Nat.le_refl _,rfl,fun τ=>bs1V v τ rfl,by rw[BO],by simp,fun y hy=>by rw[mem_singleton.1 hy];rfl,⟨by simp only[length_cons,length_nil];omega,by simp only[length_cons,length_nil];omega⟩,⟨trivial,trivial,⟨rfl,trivial⟩,trivial⟩,rfl,hkB _,hfB _,rfl⟩
 refine spec_selG (σ:=Gy b xs) (fun i=>if i<3 then i else i+1) (show 3<=4 by decide) (fun i hi=>if_pos hi) (fun i j _ _ h=>?_) (fun i hi=>?_) (fun i cs hi=>?_) rfl h
 ·have h:(if i<3 then i else i+1)=(if j<3 then j else j+1):=h
  split at h<;>split at h<;>omega
 ·have hi:i<4:=hi
  show(if i<3 then i else i+1)<5
  split<;>omega
 ·match i,hi with
  |0,hi=>have hi:=Option.some.inj (Option.some.inj (hi:some (some _)=some (some cs)));subst hi;exact⟨rfl,rfl⟩
  |1,hi=>have hi:=Option.some.inj (Option.some.inj (hi:some (some _)=some (some cs)));subst hi;exact⟨rfl,rfl⟩
  |2,hi=>simp at hi
  |3,hi=>have hi:=Option.some.inj (Option.some.inj (hi:some (some _)=some (some cs)));subst hi;exact⟨by rw[Bz (As _)];rfl,Ag _ _ _⟩
  |i+4,hi=>simp at hi
abbrev tPr:TypeId:=169
theorem pr_arr:PP.underlying tPr=some (.array 2 3):=by kernel_rfl
theorem pr_info:(PP.info? 3).isSome=true:=by kernel_rfl
theorem pr_cells:PP.cellsOf 3=1:=by kernel_rfl
theorem pr_plain:PP.plainKey 3=true:=by kernel_rfl
theorem pr_int:PP.underlying 3=some (.int .i64):=by kernel_rfl
theorem pr_guard:PP.eqGuardType PP.depth tPr=false:=by kernel_rfl
theorem run_eqPr(d:Nat)(a b x y:Int)(w:World):
  (Op.equalIn (d+2) tPr (.agg #[.int .i64 a,.int .i64 b]) (.agg #[.int .i64 x,.int .i64 y])).run PP w=.ok (a==x&&b==y) w:=by
 obtain⟨i,hi⟩:=Option.isSome_iff_exists.1 pr_info
 rw[run_equalIn_array w (d+1) _ _ pr_arr hi,pr_cells,show List.range 2=[0,1] from rfl]
 have e1:∀(x y:Int) w,(part 3 #[.int .i64 x,.int .i64 y] (0*1)).run PP w=.ok (.int .i64 x) w:=fun x y w=>run_part_plain w pr_plain rfl
 have e2:∀(x y:Int) w,(part 3 #[.int .i64 x,.int .i64 y] (1*1)).run PP w=.ok (.int .i64 y) w:=fun x y w=>run_part_plain w pr_plain rfl
 have e3:=fun(a x:Int) w=>run_equalIn_int (P:=PP) w d 3 .i64 .i64 a x pr_int
 simp only[Op.eqItems,Sem.run_bind,e1,e2,e3,Result.andThen_ok,if_true]
 cases h1:(a==x)<;>cases h2:(b==y)<;>simp_all
theorem op_neqPr{o:Oper}{σ:St}{ty:TypeId}{p q:Operand}(ho:o.op=.binOp .neq tPr p q ty)(a b x y:Int):Ai PP o [.v (vPr (a,b)),.v (vPr (x,y))] σ (db (!(a==x&&b==y))) σ:=by
 refine Ax fun E g ρ w hw hds=>?_
 simp only[ho,Op.operands,Ap] at hds
 obtain⟨u,v,e,h1,h2'⟩:=hds
 simp only[map_cons,map_nil,List.cons.injEq,and_true] at e
 obtain⟨e1,e2⟩:=e
 simp only[Ae,BZ] at h1 h2'
 obtain⟨ws,h1,rfl⟩:=h1
 obtain⟨vs,h3,rfl⟩:=h2'
 have hw1:ws=[.int .i64 a,.int .i64 b]:=by
  simp only[repA,repC,List.cons.injEq,and_true] at h1
  obtain⟨u,us,rfl,_,rfl,u2,us2,rfl,_,rfl,rfl⟩:=h1;rfl
 have hw2:vs=[.int .i64 x,.int .i64 y]:=by
  simp only[repA,repC,List.cons.injEq,and_true] at h3
  obtain⟨u,us,rfl,_,rfl,u2,us2,rfl,_,rfl,rfl⟩:=h3;rfl
 subst hw1 hw2
 refine⟨.bool (!(a==x&&b==y)),?_,by simp[Ae]⟩
 have hr:=run_eqPr 9998 a b x y w
 simp[execOp,ho,e1,e2,run_eqGuard_agg w .neq tPr p q _ _ pr_guard,run_neq_struct,hr]
abbrev σA(b:Bool):St:=⟨[some [.v .nils],some [db b]],[]⟩
abbrev F4(m:Mod)(r:Rul)(ms:List (Int×Int)):D:=.dfn 162 [] (EM m r ms)
noncomputable abbrev DX:Func:= Tryz.f160
noncomputable def Gn:Code:=DX.body.getD .skip
theorem choN0(m:Mod)(t:Typ)(hm:FL m t)(r:Rul)(ms l:List (Int×Int))(hl:l.length<=50)(hms:ms.length<=50)(b:Bool):∃(v:Val) (b':Bool),v.size<=1000/\Ab PP 160 [AB l,.v (AA []),F4 m r ms] (σA b) (.tup []) (Gy b' [v]):=by
 obtain⟨v,ok,h1,h2⟩:=each0 m t hm r ms l hl hms b
 refine⟨v,b&&ok,h1,?_⟩
 refine sv DX 71 [] (.t<|.h (.oc (.tup []) (Gy (b&&ok) [v])) .ro) (((length (map vTk []):Int)==0)=true/\(∀(o:Oper) (c:Call) (fo:Operand),o.op=Op.call c->c.callee=Callee.value fo->Ai PP o [F4 m r ms,AB l] (σA b) (D.tup []) (Gy (b&&ok) [v]))/\okH 3 [] [some [D.gro 2 1 2],some [db (b&&ok)],some (Aa [eV v])]=true/\Q [some [D.gro 2 1 2],some [db (b&&ok)],some (Aa (eV v::nV))]/\Q (D.tup [])) ?_
 refine⟨rfl,fun o cl fo ho hc=>?_,by rw[←show Aa ([v].map eV)=Aa [eV v] from rfl];simp[okH,D.okNs,D.okN,Ag],rfl,rfl⟩
 exact C5 (H:=[[.v .nils],[db b]]) ho hc (fs:=[]) (cs:=EM m r ms) (ds:=[AB l]) rfl h2 rfl (fun cs hm=>by
  simp at hm;rcases hm with rfl|rfl<;>exact⟨rfl,rfl⟩) rfl (by simp[okH,D.okNs,D.okN,Ag]) (by show 2<=3;decide)
theorem choN1(m:Mod)(t:Typ)(hm:FL m t)(r:Rul)(ms l:List (Int×Int))(hl:l.length<=50)(hms:ms.length<=50)(xs:List Val)(hx:xs.length<=50)(b:Bool):∃(v:Val) (b':Bool),v.size<=1000/\Ab PP 160 [AB l,.v (AA []),F4 m r ms] (Gy b xs) (.tup []) (Ei b' (xs++[v])):=by
 obtain⟨v,ok,h1,h2⟩:=each1 m t hm r ms l hl hms xs hx b
 refine⟨v,b&&ok,h1,?_⟩
 refine sv DX 71 [] (.t<|.h (.oc (.tup []) (Ei (b&&ok) (xs++[v]))) .ro) (((length (map vTk []):Int)==0)=true/\(∀(o:Oper) (c:Call) (fo:Operand),o.op=Op.call c->c.callee=Callee.value fo->Ai PP o [F4 m r ms,AB l] (Gy b xs) (D.tup []) (Ei (b&&ok) (xs++[v])))/\okH 4 [] [some [D.gro 3 (length (xs++[v])) 2],some [db (b&&ok)],none,some (Aa (map eV (xs++[v])))]=true/\Q [some [D.gro 3 (length (xs++[v])) 2],some [db (b&&ok)],none,some (Aa (map eV (xs++[v])))]/\Q (D.tup [])) ?_
 refine⟨rfl,fun o cl fo ho hc=>?_,by simp[okH,D.okNs,D.okN,Ag],rfl,rfl⟩
 exact C5 (H:=[[.gro 2 xs.length 2],[db b],Aa (xs.map eV)]) ho hc (fs:=[]) (cs:=EM m r ms) (ds:=[AB l]) rfl h2 rfl (fun cs hm=>by
  simp at hm;rcases hm with rfl|rfl|rfl
  ·exact⟨rfl,rfl⟩
  ·exact⟨rfl,rfl⟩
  ·exact⟨Ag _ _ _,EI _⟩) rfl (by simp[okH,D.okNs,D.okN,Ag]) (by show 3<=4;decide)
abbrev stL0(b:Bool):St:=⟨[some [.v .nils],some [db b],none],[]⟩
def stLc(b:Bool):List Val->St
 |[]=>stL0 b
 |x::xs=>Ei b (x::xs)
def FR(b:Bool):List Val->St
 |[]=>σA b
 |x::xs=>Ei b (x::xs)
theorem DI{b:Bool}{xs:List Val}(h:xs≠ []):stLc b xs=Ei b xs:=by
 cases xs with
 |nil=>exact absurd rfl h
 |cons x xs=>rfl
theorem stEc_ne{b:Bool}{xs:List Val}(h:xs≠ []):FR b xs=Ei b xs:=by
 cases xs with
 |nil=>exact absurd rfl h
 |cons x xs=>rfl
theorem Cg{l:List (Int×Int)}{k:Nat}{x:Int×Int}(h:l[k]?=some x):(l.map vPr)[Int.toNat (k:Int)]?=some (vPr x):=by rw[Int.toNat_natCast,getElem?_map,h];rfl
theorem cho_cat(l:List (Int×Int))(hl:l.length<=50)(k:Nat)(hk:k<l.length):Ab PP 164 [D.v (V.list [V.list (List.drop 0 (take (Int.toNat (k:Int)) (l.map vPr))),V.list (List.drop (Int.toNat ((k+1:Nat):Int)) (take (l.map vPr).length (l.map vPr)))])] σ0 (AB (l.take k++l.drop (k+1))) σ0:=by
 have h:=coPr_spec [l.take k,l.drop (k+1)] (by simp) (by simp;omega)
 simp only[flatten_cons,List.flatten_nil,append_nil] at h
 have e:D.v (V.list [V.list (List.drop 0 (take (Int.toNat (k:Int)) (l.map vPr))),V.list (List.drop (Int.toNat ((k+1:Nat):Int)) (take (l.map vPr).length (l.map vPr)))])=dl (Dw [l.take k,l.drop (k+1)]):=by
  rw[take_of_length_le (Nat.le_refl _),drop_zero,Int.toNat_natCast,Int.toNat_natCast, ←List.map_take, ←List.map_drop];rfl
 rw[e];exact h
theorem norm0{R:List D->St->Prop}{ks:List KI}{e e':List D}(x:Int×Int)(v:Val)(b:Bool)(he:D.okNs 4 [] e'=true)(hee:e=D.rens (fun i=>if i<3 then i else i+1) id e')
  (h:A2 (CN 2) PP R ks e' (Ei b [v])):A2 (CN 2) PP R ks e ⟨[some [.gro 4 1 2],some [db b],none,some [di x.1,di x.2],some (Aa ([v].map eV))],[]⟩:=by
 refine FA (σ:=⟨[some [.gro 4 1 2],some [db b],none,some [di x.1,di x.2],some (Aa ([v].map eV))],[]⟩) (e':=e') (H':=(Ei b [v]).H) (m:=2) (fun _ _ h=>h.2) (fun i=>if i<3 then i else i+1) (show 2<=4 by decide) (fun i hi=>if_pos (by omega)) (fun i j _ _ h=>?_) (fun i cs hi=>?_) he hee h
 ·have h:(if i<3 then i else i+1)=(if j<3 then j else j+1):=h
  split at h<;>split at h<;>omega
 ·match i,hi with
  |0,hi=>have hi:=Option.some.inj (Option.some.inj (hi:some (some _)=some (some cs)));subst hi;exact⟨rfl,rfl⟩
  |1,hi=>have hi:=Option.some.inj (Option.some.inj (hi:some (some _)=some (some cs)));subst hi;exact⟨rfl,rfl⟩
  |2,hi=>simp at hi
  |3,hi=>have hi:=Option.some.inj (Option.some.inj (hi:some (some _)=some (some cs)));subst hi;exact⟨by rw[Bz (As _)];rfl,Ag _ _ _⟩
  |i+4,hi=>simp at hi
theorem norm1{R:List D->St->Prop}{ks:List KI}{e e':List D}(x:Int×Int)(v:Val)(xs:List Val)(b:Bool)(he:D.okNs 4 [] e'=true)(hee:e=D.rens (fun i=>if i<3 then i else i+2) id e')
  (h:A2 (CN 2) PP R ks e' (Ei b (xs++[v]))):A2 (CN 2) PP R ks e ⟨[some [.gro 5 (xs++[v]).length 2],some [db b],none,none,some [di x.1,di x.2],some (Aa ((xs++[v]).map eV))],[]⟩:=by
 refine FA (σ:=⟨[some [.gro 5 (xs++[v]).length 2],some [db b],none,none,some [di x.1,di x.2],some (Aa ((xs++[v]).map eV))],[]⟩) (e':=e') (H':=(Ei b (xs++[v])).H) (m:=2) (fun _ _ h=>h.2) (fun i=>if i<3 then i else i+2) (show 2<=4 by decide) (fun i hi=>if_pos (by omega)) (fun i j _ _ h=>?_) (fun i cs hi=>?_) he hee h
 ·have h:(if i<3 then i else i+2)=(if j<3 then j else j+2):=h
  split at h<;>split at h<;>omega
 ·match i,hi with
  |0,hi=>have hi:=Option.some.inj (Option.some.inj (hi:some (some _)=some (some cs)));subst hi;exact⟨rfl,rfl⟩
  |1,hi=>have hi:=Option.some.inj (Option.some.inj (hi:some (some _)=some (some cs)));subst hi;exact⟨rfl,rfl⟩
  |2,hi=>simp at hi
  |3,hi=>have hi:=Option.some.inj (Option.some.inj (hi:some (some _)=some (some cs)));subst hi;exact⟨by rw[Bz (As _)];rfl,Ag _ _ _⟩
  |i+4,hi=>simp at hi
theorem B5{n:Nat}{qs:List Nat}:∀{dcs ds:List D},D.okNs qs.length [] dcs=true->ds=D.rens (rho n qs) id dcs->D1 n qs ds dcs
 |[],ds,_,e=>by
  have e:ds=[]:=e
  subst e;exact .nil
 |d::dcs,ds,h,e=>by
  have e:ds=d.ren (rho n qs) id::D.rens (rho n qs) id dcs:=e
  subst e
  simp only[D.okNs,Bool.and_eq_true] at h
  exact .cons (.ren h.1) (B5 h.2 rfl)
theorem op_cho0(m:Mod)(r:Rul)(ms l:List (Int×Int))(x:Int×Int)(v:Val)(b b2:Bool){o:Oper}{c:Call}{fo:Operand}(ho:o.op=.call c)(hc:c.callee=.value fo)
  (h:Ab PP 160 [AB l,.v (AA []),F4 m r ms] (σA b) (.tup []) (Gy b2 [v])):
  Ai PP o [.v (.fn 160 [] []),AB l,.v (AA []),F4 m r ms] ⟨[some [.v .nils],some [db b],none,some [di x.1,di x.2]],[]⟩ (.tup []) ⟨[some [.gro 4 1 2],some [db b2],none,some [di x.1,di x.2],some (Aa ([v].map eV))],[]⟩:=by
 have h2:=Cr (σ:=⟨[some [.v .nils],some [db b],none,some [di x.1,di x.2]],[]⟩) ho hc (fD:=.v (.fn 160 [] [])) (fs:=[]) (cs:=[]) (ds:=[AB l,.v (AA []),F4 m r ms]) rfl [0,1] id h
  (B5 rfl rfl) (.cons rfl (B5 rfl rfl) rfl (.cons rfl (B5 rfl rfl) rfl .nil)) (by decide) rfl (by simp) (by simp) rfl (by simp[okH,D.okNs,D.okN,Ag])
 have e:F1 (rho 4 [0,1]) id (Gy b2 [v]).H=[some [.gro 4 1 2],some [db b2],some (Aa ([v].map eV))]:=by
  show [some _,some _,some (D.rens _ _ (Aa ([v].map eV)))]=_
  rw[Bz (As _)];rfl
 have h2:Ai PP o _ _ _ ⟨Cy _ _ (F1 (rho 4 [0,1]) id (Gy b2 [v]).H),_⟩:=h2
 rw[e] at h2
 exact h2
theorem op_cho1(m:Mod)(r:Rul)(ms l:List (Int×Int))(x:Int×Int)(v:Val)(xs:List Val)(b b2:Bool){o:Oper}{c:Call}{fo:Operand}(ho:o.op=.call c)(hc:c.callee=.value fo)
  (h:Ab PP 160 [AB l,.v (AA []),F4 m r ms] (Gy b xs) (.tup []) (Ei b2 (xs++[v]))):
  Ai PP o [.v (.fn 160 [] []),AB l,.v (AA []),F4 m r ms] ⟨[some [.gro 3 xs.length 2],some [db b],none,some (Aa (xs.map eV)),some [di x.1,di x.2]],[]⟩ (.tup []) ⟨[some [.gro 5 (xs++[v]).length 2],some [db b2],none,none,some [di x.1,di x.2],some (Aa ((xs++[v]).map eV))],[]⟩:=by
 have h2:=Cr (σ:=⟨[some [.gro 3 xs.length 2],some [db b],none,some (Aa (xs.map eV)),some [di x.1,di x.2]],[]⟩) ho hc (fD:=.v (.fn 160 [] [])) (fs:=[]) (cs:=[]) (ds:=[AB l,.v (AA []),F4 m r ms]) rfl [0,1,3] id h
  (B5 rfl rfl) (.cons rfl (B5 rfl rfl) rfl (.cons rfl (B5 rfl rfl) rfl (.cons rfl (B5 (Ag _ _ _) (Bz (As _)).symm) (EI _) .nil))) (by decide) rfl (by simp) (by simp) rfl (by simp[okH,D.okNs,D.okN,Ag])
 have e:F1 (rho 5 [0,1,3]) id (Ei b2 (xs++[v])).H=[some [.gro 5 (xs++[v]).length 2],some [db b2],none,some (Aa ((xs++[v]).map eV))]:=by
  show [some _,some _,none,some (D.rens _ _ (Aa ((xs++[v]).map eV)))]=_
  rw[Bz (As _)];rfl
 have h2:Ai PP o _ _ _ ⟨Cy _ _ (F1 (rho 5 [0,1,3]) id (Ei b2 (xs++[v])).H),_⟩:=h2
 rw[e] at h2
 exact h2
theorem cho_s0(m:Mod)(t:Typ)(hm:FL m t)(r:Rul)(ms l:List (Int×Int))(hl:l.length<=50)(hms:ms.length<=50)(tk:Tk)(b:Bool)(k:Nat)(hk:k<l.length)(hkx:([]:List Val).length<=k)(hs:∀v∈ ([]:List Val),v.size<=1000)
  (ih:∀(xs:List Val) (b:Bool),xs.length<=k+1->(∀v∈xs,v.size<=1000)->∃(ys:List Val) (b':Bool),ys.length<=l.length/\(∀v∈ys,v.size<=1000)/\Rn PP DX 2 (.tup []) (FR b' ys) ([.lp (sub Gn [1,1,1,0,0]),.blk 0]++[]) (mkE 71 [(0,AB l),(1,.v (AA [tk])),(2,F4 m r ms),(6,.v (.ref (vTk tk))),(18,AB l),(19,di l.length),(20,di (k+1:Nat))]) (stLc b xs)):
  ∃(ys:List Val) (b':Bool),ys.length<=l.length/\(∀v∈ys,v.size<=1000)/\Rn PP DX 2 (.tup []) (FR b' ys) ([.lp (sub Gn [1,1,1,0,0]),.blk 0]++[]) (mkE 71 [(0,AB l),(1,.v (AA [tk])),(2,F4 m r ms),(6,.v (.ref (vTk tk))),(18,AB l),(19,di l.length),(20,di k)]) (stL0 b):=by
 have hw1:i64.wrap ((k:Int)-1)=((k-1:Nat):Int)∨k=0:=by
  by_cases h:k=0
  ·exact .inr h
  ·left;rw[Aj (by omega) (by omega)];omega
 have hw2:i64.wrap ((k:Int)+1)=((k+1:Nat):Int):=by rw[Aj (by omega) (by omega)];omega
 obtain⟨x,hx⟩:∃x,l[k]?=some x:=⟨_,getElem?_eq_getElem hk⟩
 have szp:∀y∈l.map vPr,y.size=2:=fun y hy=>by obtain⟨z,_,rfl⟩:=mem_map.1 hy;rfl
 by_cases c1:(x.1==tk.place)=true
 ·by_cases c2:decide (x.2>=tk.low)=true
  ·by_cases c3:decide (x.2<=tk.high)=true
   ·by_cases c4:((k:Int)==0)=true
    ·obtain⟨v,b2,v1,v2⟩:=choN0 m t hm r ms (l.take k++l.drop (k+1)) (by simp;omega) hms b
     obtain⟨ys,b',r1,r2,r3⟩:=ih ([v]) b2 (by simp only[length_append,length_cons,length_nil] at*;omega) (fun z hz=>by
      exact mem_singleton.1 hz▸v1
      )
     rw[DI (by simp)] at r3
     refine⟨ys,b',r1,r2,?_⟩
     refine lv 71 [] (.t<|.x (vPr x)<|.t<|.t<|.t<|.t<|.c (AB (l.take k++l.drop (k+1)))<|.h (.oc (.tup []) ⟨[some [.gro 4 1 2],some [db b2],none,some [di x.1,di x.2],some (Aa ([v].map eV))],[]⟩)<|.lo [ke 0,ke 1,ke 2,ke 6,ke 18,ke 19,ch 20 (di (k+1:Nat))] ⟨[some [.gro 4 1 2],some [db b2],none,some [di x.1,di x.2],some (Aa ([v].map eV))],[]⟩) (decide ((k:Int)<(l.length:Int))=true/\0<=(k:Int)/\(map vPr l)[Int.toNat (k:Int)]?=some (vPr x)/\iz 0<=0/\0<(↑2:Int)/\(x.fst==tk.place)=true/\iz 0<=1/\1<(↑2:Int)/\decide (x.snd>=tk.low)=true/\iz 0<=1/\1<(↑2:Int)/\decide (x.snd<=tk.high)=true/\((k:Int)==0)=true/\(True/\True/\True/\True)/\(∀(x:V),x∈map vPr l->V.size x=2)/\0<=(fun x=>x.snd) (i64,(k:Int))/\(fun x=>x.snd) (i64,(k:Int))<=(length (map vPr l):Int)/\(∀(x:V),x∈map vPr l->V.size x=2)/\0<=(fun x=>x.snd) (i64,wrap i64 ((k:Int)+1))/\(fun x=>x.snd) (i64,wrap i64 ((k:Int)+1))<=(length (map vPr l):Int)/\F0 164 [D.v (V.list [V.list (List.drop 0 (take (Int.toNat ((fun x=>x.snd) (i64,(k:Int)))) (map vPr l))),V.list (List.drop (Int.toNat ((fun x=>x.snd) (i64,wrap i64 ((k:Int)+1)))) (take (length (map vPr l)) (map vPr l)))])] (AB (take k l++List.drop (k+1) l))/\(∀(x:V),x∈ [vTk tk]->V.size x=3)/\0<=(1:Int)/\(1:Int)<=(length (map vTk [tk]):Int)/\(∀(o:Oper) (c:Call) (fo:Operand),o.op=Op.call c->c.callee=Callee.value fo->Ai PP o [D.v (V.fn 160 [] []),AB (take k l++List.drop (k+1) l),D.v (V.list []),D.dfn 162 [] (EM m r ms)] (St.mk [some [dn],some [db b],none,some [di x.fst,di x.snd]] []) (D.tup []) (St.mk [some [D.gro 4 1 2],some [db b2],none,some [di x.fst,di x.snd],some (Aa [eV v])] []))/\di (wrap i64 ((k:Int)+1))=di (↑(k+1):Int)/\okH 5 [] [some [D.gro 4 1 2],some [db b2],none,some [di x.fst,di x.snd],some (Aa [eV v])]=true/\Q [some [D.gro 4 1 2],some [db b2],none,some [di x.fst,di x.snd],some (Aa (eV v::nV))]/\I0 DX 2 (D.tup []) (FR b' ys) [kl Gn [1,1,1,0,0],KI.blk 0] (mkE 71 [(0,D.v (BT l)),(1,D.v (AA [tk])),(2,D.dfn 162 [] (EM m r ms)),(6,D.v (V.ref (vTk tk))),(18,D.v (BT l)),(19,di (l.length:Int)),(20,di (↑(k+1):Int))]) (St.mk [some [D.gro 4 1 2],some [db b2],none,some [di x.fst,di x.snd],some (Aa [eV v])] [])) ?_
     rw[hw2]
     exact⟨decide_eq_true (by omega),by omega,Cg hx,Int.le_refl _,by decide,c1,by decide,by decide,c2,by decide,by decide,c3,c4,by repeat' first|with_reducible refine And.intro ?_ ?_|rfl|trivial,szp,(by show(0:Int)<=(k:Int);omega),(by show(k:Int)<=(((l.map vPr).length:Nat):Int);rw[length_map];omega),szp,(by show(0:Int)<=((k+1:Nat):Int);omega),(by show((k+1:Nat):Int)<=(((l.map vPr).length:Nat):Int);rw[length_map];omega),cho_cat l hl k hk,fun y hy=>by rw[mem_singleton.1 hy];rfl,by decide,Int.le_refl 1,fun o cl fo ho hc=>op_cho0 m r ms _ x v b b2 ho hc v2,rfl,by simp[okH,D.okNs,D.okN,Ag],rfl,⟨norm0 x v b2 rfl rfl r3⟩⟩
    ·have c4f:=eq_false_of_ne_true c4
     obtain⟨y,hy⟩:∃y,l[k-1]?=some y:=⟨_,getElem?_eq_getElem (show k-1<l.length by omega)⟩
     by_cases c5:(!(y.1==x.1&&y.2==x.2))=true
     ·obtain⟨v,b2,v1,v2⟩:=choN0 m t hm r ms (l.take k++l.drop (k+1)) (by simp;omega) hms b
      obtain⟨ys,b',r1,r2,r3⟩:=ih ([v]) b2 (by simp only[length_append,length_cons,length_nil] at*;omega) (fun z hz=>by
       exact mem_singleton.1 hz▸v1
       )
      rw[DI (by simp)] at r3
      refine⟨ys,b',r1,r2,?_⟩
      refine lv 71 [] (.t<|.x (vPr x)<|.t<|.t<|.t<|.f<|.x (vPr y)<|.m (.v (vPr x))<|.h (.p (db (!(y.1==x.1&&y.2==x.2))))<|.t<|.c (AB (l.take k++l.drop (k+1)))<|.h (.oc (.tup []) ⟨[some [.gro 4 1 2],some [db b2],none,some [di x.1,di x.2],some (Aa ([v].map eV))],[]⟩)<|.lo [ke 0,ke 1,ke 2,ke 6,ke 18,ke 19,ch 20 (di (k+1:Nat))] ⟨[some [.gro 4 1 2],some [db b2],none,some [di x.1,di x.2],some (Aa ([v].map eV))],[]⟩) (decide ((k:Int)<(l.length:Int))=true/\0<=(k:Int)/\(map vPr l)[Int.toNat (k:Int)]?=some (vPr x)/\iz 0<=0/\0<(↑2:Int)/\(x.fst==tk.place)=true/\iz 0<=1/\1<(↑2:Int)/\decide (x.snd>=tk.low)=true/\iz 0<=1/\1<(↑2:Int)/\decide (x.snd<=tk.high)=true/\((k:Int)==0)=false/\0<=wrap i64 ((k:Int)-1)/\(map vPr l)[Int.toNat (wrap i64 ((k:Int)-1))]?=some (vPr y)/\2<=2/\Q [di x.fst,di x.snd]/\(∀(τ:St),Ai PP (Oper.mk (some 54) (Op.binOp BinOp.neq 169 (Operand.tmp 52) (Operand.tmp 53) 169) 4 "timed.go:54" #[Edge.mk 27 Ground.data,Edge.mk 28 Ground.data,Edge.mk 22 Ground.guard] (some (22,false))) [D.v (vPr y),D.v (V.agg [vi x.fst,vi x.snd])] τ (db !(y.fst==x.fst&&y.snd==x.snd)) τ)/\(True/\True/\True/\True/\True)/\(!(y.fst==x.fst&&y.snd==x.snd))=true/\(∀(x:V),x∈map vPr l->V.size x=2)/\0<=(fun x=>x.snd) (i64,(k:Int))/\(fun x=>x.snd) (i64,(k:Int))<=(length (map vPr l):Int)/\(∀(x:V),x∈map vPr l->V.size x=2)/\0<=(fun x=>x.snd) (i64,wrap i64 ((k:Int)+1))/\(fun x=>x.snd) (i64,wrap i64 ((k:Int)+1))<=(length (map vPr l):Int)/\F0 164 [D.v (V.list [V.list (List.drop 0 (take (Int.toNat ((fun x=>x.snd) (i64,(k:Int)))) (map vPr l))),V.list (List.drop (Int.toNat ((fun x=>x.snd) (i64,wrap i64 ((k:Int)+1)))) (take (length (map vPr l)) (map vPr l)))])] (AB (take k l++List.drop (k+1) l))/\(∀(x:V),x∈ [vTk tk]->V.size x=3)/\0<=(1:Int)/\(1:Int)<=(length (map vTk [tk]):Int)/\(∀(o:Oper) (c:Call) (fo:Operand),o.op=Op.call c->c.callee=Callee.value fo->Ai PP o [D.v (V.fn 160 [] []),AB (take k l++List.drop (k+1) l),D.v (V.list []),D.dfn 162 [] (EM m r ms)] (St.mk [some [dn],some [db b],none,some [di x.fst,di x.snd]] []) (D.tup []) (St.mk [some [D.gro 4 1 2],some [db b2],none,some [di x.fst,di x.snd],some (Aa [eV v])] []))/\di (wrap i64 ((k:Int)+1))=di (↑(k+1):Int)/\okH 5 [] [some [D.gro 4 1 2],some [db b2],none,some [di x.fst,di x.snd],some (Aa [eV v])]=true/\Q [some [D.gro 4 1 2],some [db b2],none,some [di x.fst,di x.snd],some (Aa (eV v::nV))]/\I0 DX 2 (D.tup []) (FR b' ys) [kl Gn [1,1,1,0,0],KI.blk 0] (mkE 71 [(0,D.v (BT l)),(1,D.v (AA [tk])),(2,D.dfn 162 [] (EM m r ms)),(6,D.v (V.ref (vTk tk))),(18,D.v (BT l)),(19,di (l.length:Int)),(20,di (↑(k+1):Int))]) (St.mk [some [D.gro 4 1 2],some [db b2],none,some [di x.fst,di x.snd],some (Aa [eV v])] [])) ?_
      have hw1:=hw1.resolve_right (fun h=>c4 (by rw[h];rfl))
      rw[hw1]
      rw[hw2]
      exact⟨decide_eq_true (by omega),by omega,Cg hx,Int.le_refl _,by decide,c1,by decide,by decide,c2,by decide,by decide,c3,c4f,by omega,Cg hy,Nat.le_refl _,rfl,fun τ=>op_neqPr rfl y.1 y.2 x.1 x.2,by repeat' first|with_reducible refine And.intro ?_ ?_|rfl|trivial,c5,szp,(by show(0:Int)<=(k:Int);omega),(by show(k:Int)<=(((l.map vPr).length:Nat):Int);rw[length_map];omega),szp,(by show(0:Int)<=((k+1:Nat):Int);omega),(by show((k+1:Nat):Int)<=(((l.map vPr).length:Nat):Int);rw[length_map];omega),cho_cat l hl k hk,fun y hy=>by rw[mem_singleton.1 hy];rfl,by decide,Int.le_refl 1,fun o cl fo ho hc=>op_cho0 m r ms _ x v b b2 ho hc v2,rfl,by simp[okH,D.okNs,D.okN,Ag],rfl,⟨norm0 x v b2 rfl rfl r3⟩⟩
     ·obtain⟨ys,b',r1,r2,r3⟩:=ih [] b (by first|exact Nat.zero_le _|omega) hs
      refine⟨ys,b',r1,r2,?_⟩
      refine lv 71 [] (.t<|.x (vPr x)<|.t<|.t<|.t<|.f<|.x (vPr y)<|.m (.v (vPr x))<|.h (.p (db (!(y.1==x.1&&y.2==x.2))))<|.f<|.lo [ke 0,ke 1,ke 2,ke 6,ke 18,ke 19,ch 20 (di (k+1:Nat))] (stL0 b)) (decide ((k:Int)<(l.length:Int))=true/\0<=(k:Int)/\(map vPr l)[Int.toNat (k:Int)]?=some (vPr x)/\iz 0<=0/\0<(↑2:Int)/\(x.fst==tk.place)=true/\iz 0<=1/\1<(↑2:Int)/\decide (x.snd>=tk.low)=true/\iz 0<=1/\1<(↑2:Int)/\decide (x.snd<=tk.high)=true/\((k:Int)==0)=false/\0<=wrap i64 ((k:Int)-1)/\(map vPr l)[Int.toNat (wrap i64 ((k:Int)-1))]?=some (vPr y)/\2<=2/\Q [di x.fst,di x.snd]/\(∀(τ:St),Ai PP (Oper.mk (some 54) (Op.binOp BinOp.neq 169 (Operand.tmp 52) (Operand.tmp 53) 169) 4 "timed.go:54" #[Edge.mk 27 Ground.data,Edge.mk 28 Ground.data,Edge.mk 22 Ground.guard] (some (22,false))) [D.v (vPr y),D.v (V.agg [vi x.fst,vi x.snd])] τ (db !(y.fst==x.fst&&y.snd==x.snd)) τ)/\(True/\True/\True/\True/\True)/\(!(y.fst==x.fst&&y.snd==x.snd))=false/\di (wrap i64 ((k:Int)+1))=di (↑(k+1):Int)/\okH 3 [] [some [dn],some [db b],none]=true/\Q [some [dn],some [db b],none]/\I0 DX 2 (D.tup []) (FR b' ys) [kl Gn [1,1,1,0,0],KI.blk 0] (mkE 71 [(0,D.v (BT l)),(1,D.v (AA [tk])),(2,D.dfn 162 [] (EM m r ms)),(6,D.v (V.ref (vTk tk))),(18,D.v (BT l)),(19,di (l.length:Int)),(20,di (↑(k+1):Int))]) (stL0 b)) ?_
      have hw1:=hw1.resolve_right (fun h=>c4 (by rw[h];rfl))
      rw[hw1]
      exact⟨decide_eq_true (by omega),by omega,Cg hx,Int.le_refl _,by decide,c1,by decide,by decide,c2,by decide,by decide,c3,c4f,by omega,Cg hy,Nat.le_refl _,rfl,fun τ=>op_neqPr rfl y.1 y.2 x.1 x.2,by repeat' first|with_reducible refine And.intro ?_ ?_|rfl|trivial,eq_false_of_ne_true c5,congrArg di hw2,rfl,rfl,⟨r3⟩⟩
   ·obtain⟨ys,b',r1,r2,r3⟩:=ih [] b (by first|exact Nat.zero_le _|omega) hs
    refine⟨ys,b',r1,r2,?_⟩
    refine lv 71 [] (.t<|.x (vPr x)<|.t<|.t<|.f<|.lo [ke 0,ke 1,ke 2,ke 6,ke 18,ke 19,ch 20 (di (k+1:Nat))] (stL0 b)) (decide ((k:Int)<(l.length:Int))=true/\0<=(k:Int)/\(map vPr l)[Int.toNat (k:Int)]?=some (vPr x)/\iz 0<=0/\0<(↑2:Int)/\(x.fst==tk.place)=true/\iz 0<=1/\1<(↑2:Int)/\decide (x.snd>=tk.low)=true/\iz 0<=1/\1<(↑2:Int)/\decide (x.snd<=tk.high)=false/\(True/\True/\True/\True)/\di (wrap i64 ((k:Int)+1))=di (↑(k+1):Int)/\okH 3 [] [some [dn],some [db b],none]=true/\Q [some [dn],some [db b],none]/\I0 DX 2 (D.tup []) (FR b' ys) [kl Gn [1,1,1,0,0],KI.blk 0] (mkE 71 [(0,D.v (BT l)),(1,D.v (AA [tk])),(2,D.dfn 162 [] (EM m r ms)),(6,D.v (V.ref (vTk tk))),(18,D.v (BT l)),(19,di (l.length:Int)),(20,di (↑(k+1):Int))]) (stL0 b)) ?_
    exact⟨decide_eq_true (by omega),by omega,Cg hx,Int.le_refl _,by decide,c1,by decide,by decide,c2,by decide,by decide,eq_false_of_ne_true c3,by repeat' first|with_reducible refine And.intro ?_ ?_|rfl|trivial,congrArg di hw2,rfl,rfl,⟨r3⟩⟩
  ·obtain⟨ys,b',r1,r2,r3⟩:=ih [] b (by first|exact Nat.zero_le _|omega) hs
   refine⟨ys,b',r1,r2,?_⟩
   refine lv 71 [] (.t<|.x (vPr x)<|.t<|.f<|.lo [ke 0,ke 1,ke 2,ke 6,ke 18,ke 19,ch 20 (di (k+1:Nat))] (stL0 b)) (decide ((k:Int)<(l.length:Int))=true/\0<=(k:Int)/\(map vPr l)[Int.toNat (k:Int)]?=some (vPr x)/\iz 0<=0/\0<(↑2:Int)/\(x.fst==tk.place)=true/\iz 0<=1/\1<(↑2:Int)/\decide (x.snd>=tk.low)=false/\(True/\True/\True)/\di (wrap i64 ((k:Int)+1))=di (↑(k+1):Int)/\okH 3 [] [some [dn],some [db b],none]=true/\Q [some [dn],some [db b],none]/\I0 DX 2 (D.tup []) (FR b' ys) [kl Gn [1,1,1,0,0],KI.blk 0] (mkE 71 [(0,D.v (BT l)),(1,D.v (AA [tk])),(2,D.dfn 162 [] (EM m r ms)),(6,D.v (V.ref (vTk tk))),(18,D.v (BT l)),(19,di (l.length:Int)),(20,di (↑(k+1):Int))]) (stL0 b)) ?_
   exact⟨decide_eq_true (by omega),by omega,Cg hx,Int.le_refl _,by decide,c1,by decide,by decide,eq_false_of_ne_true c2,by repeat' first|with_reducible refine And.intro ?_ ?_|rfl|trivial,congrArg di hw2,rfl,rfl,⟨r3⟩⟩
 ·obtain⟨ys,b',r1,r2,r3⟩:=ih [] b (by first|exact Nat.zero_le _|omega) hs
  refine⟨ys,b',r1,r2,?_⟩
  refine lv 71 [] (.t<|.x (vPr x)<|.f<|.lo [ke 0,ke 1,ke 2,ke 6,ke 18,ke 19,ch 20 (di (k+1:Nat))] (stL0 b)) (decide ((k:Int)<(l.length:Int))=true/\0<=(k:Int)/\(map vPr l)[Int.toNat (k:Int)]?=some (vPr x)/\iz 0<=0/\0<(↑2:Int)/\(x.fst==tk.place)=false/\(True/\True)/\di (wrap i64 ((k:Int)+1))=di (↑(k+1):Int)/\okH 3 [] [some [dn],some [db b],none]=true/\Q [some [dn],some [db b],none]/\I0 DX 2 (D.tup []) (FR b' ys) [kl Gn [1,1,1,0,0],KI.blk 0] (mkE 71 [(0,D.v (BT l)),(1,D.v (AA [tk])),(2,D.dfn 162 [] (EM m r ms)),(6,D.v (V.ref (vTk tk))),(18,D.v (BT l)),(19,di (l.length:Int)),(20,di (↑(k+1):Int))]) (stL0 b)) ?_
  exact⟨decide_eq_true (by omega),by omega,Cg hx,Int.le_refl _,by decide,eq_false_of_ne_true c1,by repeat' first|with_reducible refine And.intro ?_ ?_|rfl|trivial,congrArg di hw2,rfl,rfl,⟨r3⟩⟩
theorem cho_s1(m:Mod)(t:Typ)(hm:FL m t)(r:Rul)(ms l:List (Int×Int))(hl:l.length<=50)(hms:ms.length<=50)(tk:Tk)(xs:List Val)(hxs:xs≠ [])(b:Bool)(k:Nat)(hk:k<l.length)(hkx:xs.length<=k)(hs:∀v∈xs,v.size<=1000)
  (ih:∀(xs:List Val) (b:Bool),xs.length<=k+1->(∀v∈xs,v.size<=1000)->∃(ys:List Val) (b':Bool),ys.length<=l.length/\(∀v∈ys,v.size<=1000)/\Rn PP DX 2 (.tup []) (FR b' ys) ([.lp (sub Gn [1,1,1,0,0]),.blk 0]++[]) (mkE 71 [(0,AB l),(1,.v (AA [tk])),(2,F4 m r ms),(6,.v (.ref (vTk tk))),(18,AB l),(19,di l.length),(20,di (k+1:Nat))]) (stLc b xs)):
  ∃(ys:List Val) (b':Bool),ys.length<=l.length/\(∀v∈ys,v.size<=1000)/\Rn PP DX 2 (.tup []) (FR b' ys) ([.lp (sub Gn [1,1,1,0,0]),.blk 0]++[]) (mkE 71 [(0,AB l),(1,.v (AA [tk])),(2,F4 m r ms),(6,.v (.ref (vTk tk))),(18,AB l),(19,di l.length),(20,di k)]) (Ei b xs):=by
 have hw1:i64.wrap ((k:Int)-1)=((k-1:Nat):Int)∨k=0:=by
  by_cases h:k=0
  ·exact .inr h
  ·left;rw[Aj (by omega) (by omega)];omega
 have hw2:i64.wrap ((k:Int)+1)=((k+1:Nat):Int):=by rw[Aj (by omega) (by omega)];omega
 obtain⟨x,hx⟩:∃x,l[k]?=some x:=⟨_,getElem?_eq_getElem hk⟩
 have szp:∀y∈l.map vPr,y.size=2:=fun y hy=>by obtain⟨z,_,rfl⟩:=mem_map.1 hy;rfl
 by_cases c1:(x.1==tk.place)=true
 ·by_cases c2:decide (x.2>=tk.low)=true
  ·by_cases c3:decide (x.2<=tk.high)=true
   ·by_cases c4:((k:Int)==0)=true
    ·obtain⟨v,b2,v1,v2⟩:=choN1 m t hm r ms (l.take k++l.drop (k+1)) (by simp;omega) hms xs (by omega) b
     obtain⟨ys,b',r1,r2,r3⟩:=ih (xs++[v]) b2 (by simp only[length_append,length_cons,length_nil] at*;omega) (fun z hz=>by
      rcases mem_append.1 hz with h|h
      ·exact hs z h
      ·rw[mem_singleton.1 h];exact v1)
     rw[DI (by simp)] at r3
     refine⟨ys,b',r1,r2,?_⟩
     refine lv 71 [] (.t<|.x (vPr x)<|.t<|.t<|.t<|.t<|.c (AB (l.take k++l.drop (k+1)))<|.h (.oc (.tup []) ⟨[some [.gro 5 (xs++[v]).length 2],some [db b2],none,none,some [di x.1,di x.2],some (Aa ((xs++[v]).map eV))],[]⟩)<|.lo [ke 0,ke 1,ke 2,ke 6,ke 18,ke 19,ch 20 (di (k+1:Nat))] ⟨[some [.gro 5 (xs++[v]).length 2],some [db b2],none,none,some [di x.1,di x.2],some (Aa ((xs++[v]).map eV))],[]⟩) (decide ((k:Int)<(l.length:Int))=true/\0<=(k:Int)/\(map vPr l)[Int.toNat (k:Int)]?=some (vPr x)/\iz 0<=0/\0<(↑2:Int)/\(x.fst==tk.place)=true/\iz 0<=1/\1<(↑2:Int)/\decide (x.snd>=tk.low)=true/\iz 0<=1/\1<(↑2:Int)/\decide (x.snd<=tk.high)=true/\((k:Int)==0)=true/\(True/\True/\True/\True)/\(∀(x:V),x∈map vPr l->V.size x=2)/\0<=(fun x=>x.snd) (i64,(k:Int))/\(fun x=>x.snd) (i64,(k:Int))<=(length (map vPr l):Int)/\(∀(x:V),x∈map vPr l->V.size x=2)/\0<=(fun x=>x.snd) (i64,wrap i64 ((k:Int)+1))/\(fun x=>x.snd) (i64,wrap i64 ((k:Int)+1))<=(length (map vPr l):Int)/\F0 164 [D.v (V.list [V.list (List.drop 0 (take (Int.toNat ((fun x=>x.snd) (i64,(k:Int)))) (map vPr l))),V.list (List.drop (Int.toNat ((fun x=>x.snd) (i64,wrap i64 ((k:Int)+1)))) (take (length (map vPr l)) (map vPr l)))])] (AB (take k l++List.drop (k+1) l))/\(∀(x:V),x∈ [vTk tk]->V.size x=3)/\0<=(1:Int)/\(1:Int)<=(length (map vTk [tk]):Int)/\(∀(o:Oper) (c:Call) (fo:Operand),o.op=Op.call c->c.callee=Callee.value fo->Ai PP o [D.v (V.fn 160 [] []),AB (take k l++List.drop (k+1) l),D.v (V.list []),D.dfn 162 [] (EM m r ms)] (St.mk [some [D.gro 3 xs.length 2],some [db b],none,some (Aa (map eV xs)),some [di x.fst,di x.snd]] []) (D.tup []) (St.mk [some [D.gro 5 (length (xs++[v])) 2],some [db b2],none,none,some [di x.fst,di x.snd],some (Aa (map eV (xs++[v])))] []))/\di (wrap i64 ((k:Int)+1))=di (↑(k+1):Int)/\okH 6 [] [some [D.gro 5 (length (xs++[v])) 2],some [db b2],none,none,some [di x.fst,di x.snd],some (Aa (map eV (xs++[v])))]=true/\Q [some [D.gro 5 (length (xs++[v])) 2],some [db b2],none,none,some [di x.fst,di x.snd],some (Aa (map eV (xs++[v])))]/\I0 DX 2 (D.tup []) (FR b' ys) [kl Gn [1,1,1,0,0],KI.blk 0] (mkE 71 [(0,D.v (BT l)),(1,D.v (AA [tk])),(2,D.dfn 162 [] (EM m r ms)),(6,D.v (V.ref (vTk tk))),(18,D.v (BT l)),(19,di (l.length:Int)),(20,di (↑(k+1):Int))]) (St.mk [some [D.gro 5 (length (xs++[v])) 2],some [db b2],none,none,some [di x.fst,di x.snd],some (Aa (map eV (xs++[v])))] [])) ?_
     rw[hw2]
     exact⟨decide_eq_true (by omega),by omega,Cg hx,Int.le_refl _,by decide,c1,by decide,by decide,c2,by decide,by decide,c3,c4,by repeat' first|with_reducible refine And.intro ?_ ?_|rfl|trivial,szp,(by show(0:Int)<=(k:Int);omega),(by show(k:Int)<=(((l.map vPr).length:Nat):Int);rw[length_map];omega),szp,(by show(0:Int)<=((k+1:Nat):Int);omega),(by show((k+1:Nat):Int)<=(((l.map vPr).length:Nat):Int);rw[length_map];omega),cho_cat l hl k hk,fun y hy=>by rw[mem_singleton.1 hy];rfl,by decide,Int.le_refl 1,fun o cl fo ho hc=>op_cho1 m r ms _ x v xs b b2 ho hc v2,rfl,by simp[okH,D.okNs,D.okN,Ag],rfl,⟨norm1 x v xs b2 rfl rfl r3⟩⟩
    ·have c4f:=eq_false_of_ne_true c4
     obtain⟨y,hy⟩:∃y,l[k-1]?=some y:=⟨_,getElem?_eq_getElem (show k-1<l.length by omega)⟩
     by_cases c5:(!(y.1==x.1&&y.2==x.2))=true
     ·obtain⟨v,b2,v1,v2⟩:=choN1 m t hm r ms (l.take k++l.drop (k+1)) (by simp;omega) hms xs (by omega) b
      obtain⟨ys,b',r1,r2,r3⟩:=ih (xs++[v]) b2 (by simp only[length_append,length_cons,length_nil] at*;omega) (fun z hz=>by
       rcases mem_append.1 hz with h|h
       ·exact hs z h
       ·rw[mem_singleton.1 h];exact v1)
      rw[DI (by simp)] at r3
      refine⟨ys,b',r1,r2,?_⟩
      refine lv 71 [] (.t<|.x (vPr x)<|.t<|.t<|.t<|.f<|.x (vPr y)<|.m (.v (vPr x))<|.h (.p (db (!(y.1==x.1&&y.2==x.2))))<|.t<|.c (AB (l.take k++l.drop (k+1)))<|.h (.oc (.tup []) ⟨[some [.gro 5 (xs++[v]).length 2],some [db b2],none,none,some [di x.1,di x.2],some (Aa ((xs++[v]).map eV))],[]⟩)<|.lo [ke 0,ke 1,ke 2,ke 6,ke 18,ke 19,ch 20 (di (k+1:Nat))] ⟨[some [.gro 5 (xs++[v]).length 2],some [db b2],none,none,some [di x.1,di x.2],some (Aa ((xs++[v]).map eV))],[]⟩) (decide ((k:Int)<(l.length:Int))=true/\0<=(k:Int)/\(map vPr l)[Int.toNat (k:Int)]?=some (vPr x)/\iz 0<=0/\0<(↑2:Int)/\(x.fst==tk.place)=true/\iz 0<=1/\1<(↑2:Int)/\decide (x.snd>=tk.low)=true/\iz 0<=1/\1<(↑2:Int)/\decide (x.snd<=tk.high)=true/\((k:Int)==0)=false/\0<=wrap i64 ((k:Int)-1)/\(map vPr l)[Int.toNat (wrap i64 ((k:Int)-1))]?=some (vPr y)/\2<=2/\Q [di x.fst,di x.snd]/\(∀(τ:St),Ai PP (Oper.mk (some 54) (Op.binOp BinOp.neq 169 (Operand.tmp 52) (Operand.tmp 53) 169) 4 "timed.go:54" #[Edge.mk 27 Ground.data,Edge.mk 28 Ground.data,Edge.mk 22 Ground.guard] (some (22,false))) [D.v (vPr y),D.v (V.agg [vi x.fst,vi x.snd])] τ (db !(y.fst==x.fst&&y.snd==x.snd)) τ)/\(True/\True/\True/\True/\True)/\(!(y.fst==x.fst&&y.snd==x.snd))=true/\(∀(x:V),x∈map vPr l->V.size x=2)/\0<=(fun x=>x.snd) (i64,(k:Int))/\(fun x=>x.snd) (i64,(k:Int))<=(length (map vPr l):Int)/\(∀(x:V),x∈map vPr l->V.size x=2)/\0<=(fun x=>x.snd) (i64,wrap i64 ((k:Int)+1))/\(fun x=>x.snd) (i64,wrap i64 ((k:Int)+1))<=(length (map vPr l):Int)/\F0 164 [D.v (V.list [V.list (List.drop 0 (take (Int.toNat ((fun x=>x.snd) (i64,(k:Int)))) (map vPr l))),V.list (List.drop (Int.toNat ((fun x=>x.snd) (i64,wrap i64 ((k:Int)+1)))) (take (length (map vPr l)) (map vPr l)))])] (AB (take k l++List.drop (k+1) l))/\(∀(x:V),x∈ [vTk tk]->V.size x=3)/\0<=(1:Int)/\(1:Int)<=(length (map vTk [tk]):Int)/\(∀(o:Oper) (c:Call) (fo:Operand),o.op=Op.call c->c.callee=Callee.value fo->Ai PP o [D.v (V.fn 160 [] []),AB (take k l++List.drop (k+1) l),D.v (V.list []),D.dfn 162 [] (EM m r ms)] (St.mk [some [D.gro 3 xs.length 2],some [db b],none,some (Aa (map eV xs)),some [di x.fst,di x.snd]] []) (D.tup []) (St.mk [some [D.gro 5 (length (xs++[v])) 2],some [db b2],none,none,some [di x.fst,di x.snd],some (Aa (map eV (xs++[v])))] []))/\di (wrap i64 ((k:Int)+1))=di (↑(k+1):Int)/\okH 6 [] [some [D.gro 5 (length (xs++[v])) 2],some [db b2],none,none,some [di x.fst,di x.snd],some (Aa (map eV (xs++[v])))]=true/\Q [some [D.gro 5 (length (xs++[v])) 2],some [db b2],none,none,some [di x.fst,di x.snd],some (Aa (map eV (xs++[v])))]/\I0 DX 2 (D.tup []) (FR b' ys) [kl Gn [1,1,1,0,0],KI.blk 0] (mkE 71 [(0,D.v (BT l)),(1,D.v (AA [tk])),(2,D.dfn 162 [] (EM m r ms)),(6,D.v (V.ref (vTk tk))),(18,D.v (BT l)),(19,di (l.length:Int)),(20,di (↑(k+1):Int))]) (St.mk [some [D.gro 5 (length (xs++[v])) 2],some [db b2],none,none,some [di x.fst,di x.snd],some (Aa (map eV (xs++[v])))] [])) ?_
      have hw1:=hw1.resolve_right (fun h=>c4 (by rw[h];rfl))
      rw[hw1]
      rw[hw2]
      exact⟨decide_eq_true (by omega),by omega,Cg hx,Int.le_refl _,by decide,c1,by decide,by decide,c2,by decide,by decide,c3,c4f,by omega,Cg hy,Nat.le_refl _,rfl,fun τ=>op_neqPr rfl y.1 y.2 x.1 x.2,by repeat' first|with_reducible refine And.intro ?_ ?_|rfl|trivial,c5,szp,(by show(0:Int)<=(k:Int);omega),(by show(k:Int)<=(((l.map vPr).length:Nat):Int);rw[length_map];omega),szp,(by show(0:Int)<=((k+1:Nat):Int);omega),(by show((k+1:Nat):Int)<=(((l.map vPr).length:Nat):Int);rw[length_map];omega),cho_cat l hl k hk,fun y hy=>by rw[mem_singleton.1 hy];rfl,by decide,Int.le_refl 1,fun o cl fo ho hc=>op_cho1 m r ms _ x v xs b b2 ho hc v2,rfl,by simp[okH,D.okNs,D.okN,Ag],rfl,⟨norm1 x v xs b2 rfl rfl r3⟩⟩
     ·obtain⟨ys,b',r1,r2,r3⟩:=ih xs b (by first|exact Nat.zero_le _|omega) hs
      rw[DI hxs] at r3
      refine⟨ys,b',r1,r2,?_⟩
      refine lv 71 [] (.t<|.x (vPr x)<|.t<|.t<|.t<|.f<|.x (vPr y)<|.m (.v (vPr x))<|.h (.p (db (!(y.1==x.1&&y.2==x.2))))<|.f<|.lo [ke 0,ke 1,ke 2,ke 6,ke 18,ke 19,ch 20 (di (k+1:Nat))] (Ei b xs)) (decide ((k:Int)<(l.length:Int))=true/\0<=(k:Int)/\(map vPr l)[Int.toNat (k:Int)]?=some (vPr x)/\iz 0<=0/\0<(↑2:Int)/\(x.fst==tk.place)=true/\iz 0<=1/\1<(↑2:Int)/\decide (x.snd>=tk.low)=true/\iz 0<=1/\1<(↑2:Int)/\decide (x.snd<=tk.high)=true/\((k:Int)==0)=false/\0<=wrap i64 ((k:Int)-1)/\(map vPr l)[Int.toNat (wrap i64 ((k:Int)-1))]?=some (vPr y)/\2<=2/\Q [di x.fst,di x.snd]/\(∀(τ:St),Ai PP (Oper.mk (some 54) (Op.binOp BinOp.neq 169 (Operand.tmp 52) (Operand.tmp 53) 169) 4 "timed.go:54" #[Edge.mk 27 Ground.data,Edge.mk 28 Ground.data,Edge.mk 22 Ground.guard] (some (22,false))) [D.v (vPr y),D.v (V.agg [vi x.fst,vi x.snd])] τ (db !(y.fst==x.fst&&y.snd==x.snd)) τ)/\(True/\True/\True/\True/\True)/\(!(y.fst==x.fst&&y.snd==x.snd))=false/\di (wrap i64 ((k:Int)+1))=di (↑(k+1):Int)/\okH 4 [] [some [D.gro 3 xs.length 2],some [db b],none,some (Aa (map eV xs))]=true/\Q [some [D.gro 3 xs.length 2],some [db b],none,some (Aa (map eV xs))]/\I0 DX 2 (D.tup []) (FR b' ys) [kl Gn [1,1,1,0,0],KI.blk 0] (mkE 71 [(0,D.v (BT l)),(1,D.v (AA [tk])),(2,D.dfn 162 [] (EM m r ms)),(6,D.v (V.ref (vTk tk))),(18,D.v (BT l)),(19,di (l.length:Int)),(20,di (↑(k+1):Int))]) (Ei b xs)) ?_
      have hw1:=hw1.resolve_right (fun h=>c4 (by rw[h];rfl))
      rw[hw1]
      exact⟨decide_eq_true (by omega),by omega,Cg hx,Int.le_refl _,by decide,c1,by decide,by decide,c2,by decide,by decide,c3,c4f,by omega,Cg hy,Nat.le_refl _,rfl,fun τ=>op_neqPr rfl y.1 y.2 x.1 x.2,by repeat' first|with_reducible refine And.intro ?_ ?_|rfl|trivial,eq_false_of_ne_true c5,congrArg di hw2,by simp[okH,D.okNs,D.okN,Ag],rfl,⟨r3⟩⟩
   ·obtain⟨ys,b',r1,r2,r3⟩:=ih xs b (by first|exact Nat.zero_le _|omega) hs
    rw[DI hxs] at r3
    refine⟨ys,b',r1,r2,?_⟩
    refine lv 71 [] (.t<|.x (vPr x)<|.t<|.t<|.f<|.lo [ke 0,ke 1,ke 2,ke 6,ke 18,ke 19,ch 20 (di (k+1:Nat))] (Ei b xs)) (decide ((k:Int)<(l.length:Int))=true/\0<=(k:Int)/\(map vPr l)[Int.toNat (k:Int)]?=some (vPr x)/\iz 0<=0/\0<(↑2:Int)/\(x.fst==tk.place)=true/\iz 0<=1/\1<(↑2:Int)/\decide (x.snd>=tk.low)=true/\iz 0<=1/\1<(↑2:Int)/\decide (x.snd<=tk.high)=false/\(True/\True/\True/\True)/\di (wrap i64 ((k:Int)+1))=di (↑(k+1):Int)/\okH 4 [] [some [D.gro 3 xs.length 2],some [db b],none,some (Aa (map eV xs))]=true/\Q [some [D.gro 3 xs.length 2],some [db b],none,some (Aa (map eV xs))]/\I0 DX 2 (D.tup []) (FR b' ys) [kl Gn [1,1,1,0,0],KI.blk 0] (mkE 71 [(0,D.v (BT l)),(1,D.v (AA [tk])),(2,D.dfn 162 [] (EM m r ms)),(6,D.v (V.ref (vTk tk))),(18,D.v (BT l)),(19,di (l.length:Int)),(20,di (↑(k+1):Int))]) (Ei b xs)) ?_
    exact⟨decide_eq_true (by omega),by omega,Cg hx,Int.le_refl _,by decide,c1,by decide,by decide,c2,by decide,by decide,eq_false_of_ne_true c3,by repeat' first|with_reducible refine And.intro ?_ ?_|rfl|trivial,congrArg di hw2,by simp[okH,D.okNs,D.okN,Ag],rfl,⟨r3⟩⟩
  ·obtain⟨ys,b',r1,r2,r3⟩:=ih xs b (by first|exact Nat.zero_le _|omega) hs
   rw[DI hxs] at r3
   refine⟨ys,b',r1,r2,?_⟩
   refine lv 71 [] (.t<|.x (vPr x)<|.t<|.f<|.lo [ke 0,ke 1,ke 2,ke 6,ke 18,ke 19,ch 20 (di (k+1:Nat))] (Ei b xs)) (decide ((k:Int)<(l.length:Int))=true/\0<=(k:Int)/\(map vPr l)[Int.toNat (k:Int)]?=some (vPr x)/\iz 0<=0/\0<(↑2:Int)/\(x.fst==tk.place)=true/\iz 0<=1/\1<(↑2:Int)/\decide (x.snd>=tk.low)=false/\(True/\True/\True)/\di (wrap i64 ((k:Int)+1))=di (↑(k+1):Int)/\okH 4 [] [some [D.gro 3 xs.length 2],some [db b],none,some (Aa (map eV xs))]=true/\Q [some [D.gro 3 xs.length 2],some [db b],none,some (Aa (map eV xs))]/\I0 DX 2 (D.tup []) (FR b' ys) [kl Gn [1,1,1,0,0],KI.blk 0] (mkE 71 [(0,D.v (BT l)),(1,D.v (AA [tk])),(2,D.dfn 162 [] (EM m r ms)),(6,D.v (V.ref (vTk tk))),(18,D.v (BT l)),(19,di (l.length:Int)),(20,di (↑(k+1):Int))]) (Ei b xs)) ?_
   exact⟨decide_eq_true (by omega),by omega,Cg hx,Int.le_refl _,by decide,c1,by decide,by decide,eq_false_of_ne_true c2,by repeat' first|with_reducible refine And.intro ?_ ?_|rfl|trivial,congrArg di hw2,by simp[okH,D.okNs,D.okN,Ag],rfl,⟨r3⟩⟩
 ·obtain⟨ys,b',r1,r2,r3⟩:=ih xs b (by first|exact Nat.zero_le _|omega) hs
  rw[DI hxs] at r3
  refine⟨ys,b',r1,r2,?_⟩
  refine lv 71 [] (.t<|.x (vPr x)<|.f<|.lo [ke 0,ke 1,ke 2,ke 6,ke 18,ke 19,ch 20 (di (k+1:Nat))] (Ei b xs)) (decide ((k:Int)<(l.length:Int))=true/\0<=(k:Int)/\(map vPr l)[Int.toNat (k:Int)]?=some (vPr x)/\iz 0<=0/\0<(↑2:Int)/\(x.fst==tk.place)=false/\(True/\True)/\di (wrap i64 ((k:Int)+1))=di (↑(k+1):Int)/\okH 4 [] [some [D.gro 3 xs.length 2],some [db b],none,some (Aa (map eV xs))]=true/\Q [some [D.gro 3 xs.length 2],some [db b],none,some (Aa (map eV xs))]/\I0 DX 2 (D.tup []) (FR b' ys) [kl Gn [1,1,1,0,0],KI.blk 0] (mkE 71 [(0,D.v (BT l)),(1,D.v (AA [tk])),(2,D.dfn 162 [] (EM m r ms)),(6,D.v (V.ref (vTk tk))),(18,D.v (BT l)),(19,di (l.length:Int)),(20,di (↑(k+1):Int))]) (Ei b xs)) ?_
  exact⟨decide_eq_true (by omega),by omega,Cg hx,Int.le_refl _,by decide,eq_false_of_ne_true c1,by repeat' first|with_reducible refine And.intro ?_ ?_|rfl|trivial,congrArg di hw2,by simp[okH,D.okNs,D.okN,Ag],rfl,⟨r3⟩⟩
theorem cho_loop(m:Mod)(t:Typ)(hm:FL m t)(r:Rul)(ms l:List (Int×Int))(hl:l.length<=50)(hms:ms.length<=50)(tk:Tk)(n:Nat):∀(k:Nat) (xs:List Val) (b:Bool),l.length-k=n->xs.length<=k->(∀v∈xs,v.size<=1000)->
  ∃(ys:List Val) (b':Bool),ys.length<=max l.length k/\(∀v∈ys,v.size<=1000)/\Rn PP DX 2 (.tup []) (FR b' ys) ([.lp (sub Gn [1,1,1,0,0]),.blk 0]++[]) (mkE 71 [(0,AB l),(1,.v (AA [tk])),(2,F4 m r ms),(6,.v (.ref (vTk tk))),(18,AB l),(19,di l.length),(20,di k)]) (stLc b xs):=by
 induction n with
 |zero=>
  intro k xs b hn hkx hs
  refine⟨xs,b,by omega,hs,?_⟩
  by_cases hxs:xs=[]
  ·subst hxs
   show Rn PP DX 2 (.tup []) (σA b) _ _ (stL0 b)
   refine lv 71 [] (.f .ro) (decide ((k:Int)<(l.length:Int))=false/\([]:List KI)=[]/\okH 2 [] [some [dn],some [db b]]=true/\Q [some [dn],some [db b]]/\Q (D.tup [])) ?_
   exact⟨decide_eq_false (by omega),rfl,rfl,rfl,rfl⟩
  ·rw[DI hxs,stEc_ne hxs]
   refine lv 71 [] (.f .ro) (decide ((k:Int)<(l.length:Int))=false/\([]:List KI)=[]/\okH 4 [] [some [D.gro 3 xs.length 2],some [db b],none,some (Aa (map eV xs))]=true/\Q [some [D.gro 3 xs.length 2],some [db b],none,some (Aa (map eV xs))]/\Q (D.tup [])) ?_
   exact⟨decide_eq_false (by omega),rfl,by simp[okH,D.okNs,D.okN,Ag],rfl,rfl⟩
 |succ n ih=>
  intro k xs b hn hkx hs
  have hk:k<l.length:=by omega
  have em:max l.length k=l.length:=by omega
  have em2:max l.length (k+1)=l.length:=by omega
  rw[em]
  have ih2:=fun xs b h1 h2=>ih (k+1) xs b (by omega) h1 h2
  rw[em2] at ih2
  by_cases hxs:xs=[]
  ·subst hxs
   exact cho_s0 m t hm r ms l hl hms tk b k hk hkx hs ih2
  ·rw[DI hxs]
   exact cho_s1 m t hm r ms l hl hms tk xs hxs b k hk hkx hs ih2
theorem cho_ex(m:Mod)(t:Typ)(hm:FL m t)(r:Rul)(ms l:List (Int×Int))(hl:l.length<=50)(hms:ms.length<=50)(tk:Tk)(b:Bool):∃(ys:List Val) (b':Bool),ys.length<=l.length/\(∀v∈ys,v.size<=1000)/\Ab PP 160 [AB l,.v (AA [tk]),F4 m r ms] (σA b) (.tup []) (FR b' ys):=by
 obtain⟨ys,b',r1,r2,r3⟩:=cho_loop m t hm r ms l hl hms tk _ 0 [] b rfl (Nat.le_refl _) (by simp)
 refine⟨ys,b',by omega,r2,?_⟩
 by_cases hy:ys=[]
 ·subst hy
  have r3:Rn PP DX 2 (.tup []) (σA b') _ _ _:=r3
  show Ab PP _ _ _ _ (σA b')
  refine sv DX 71 [] (.f<|.x (vTk tk)<|.h (.q 3 0)<|.h (.fa 2 [6])<|.lo [ke 0,ke 1,ke 2,ke 6,ch 18 (AB l),ch 19 (di l.length),ch 20 (di (0:Nat))] (stL0 b)) (((length (map vTk [tk]):Int)==0)=false/\iz 0<=0/\Q (some (vTk tk))/\Q (AB l)/\di (length (map vPr l):Int)=di (l.length:Int)/\di 0=di (↑0:Int)/\okH 3 [] [some [dn],some [db b],none]=true/\Q [some [dn],some [db b],none]/\I0 DX (length (σA b).H) (D.tup []) (σA b') [kl Gn [1,1,1,0,0],KI.blk 0] (mkE 71 [(0,AB l),(1,D.v (AA [tk])),(2,F4 m r ms),(6,D.v (V.ref (V.agg [vi tk.place,vi tk.low,vi tk.high]))),(18,AB l),(19,di (l.length:Int)),(20,di (↑0:Int))]) (stL0 b)) ?_
  exact⟨rfl,Int.le_refl _,rfl,rfl,by rw[length_map],rfl,rfl,rfl,⟨r3⟩⟩
 ·rw[stEc_ne hy] at r3⊢
  refine sv DX 71 [] (.f<|.x (vTk tk)<|.h (.q 3 0)<|.h (.fa 2 [6])<|.lo [ke 0,ke 1,ke 2,ke 6,ch 18 (AB l),ch 19 (di l.length),ch 20 (di (0:Nat))] (stL0 b)) (((length (map vTk [tk]):Int)==0)=false/\iz 0<=0/\Q (some (vTk tk))/\Q (AB l)/\di (length (map vPr l):Int)=di (l.length:Int)/\di 0=di (↑0:Int)/\okH 3 [] [some [dn],some [db b],none]=true/\Q [some [dn],some [db b],none]/\I0 DX (length (σA b).H) (D.tup []) (Ei b' ys) [kl Gn [1,1,1,0,0],KI.blk 0] (mkE 71 [(0,AB l),(1,D.v (AA [tk])),(2,F4 m r ms),(6,D.v (V.ref (V.agg [vi tk.place,vi tk.low,vi tk.high]))),(18,AB l),(19,di (l.length:Int)),(20,di (↑0:Int))]) (stL0 b)) ?_
  exact⟨rfl,Int.le_refl _,rfl,rfl,by rw[length_map],rfl,rfl,rfl,⟨r3⟩⟩
def stFc(b:Bool):List Val->St
 |[]=>σA b
 |x::xs=>Gy b (x::xs)
theorem stFc_ne{b:Bool}{xs:List Val}(h:xs≠ []):stFc b xs=Gy b xs:=by
 cases xs with
 |nil=>exact absurd rfl h
 |cons x xs=>rfl
theorem cho_any(m:Mod)(t:Typ)(hm:FL m t)(r:Rul)(ms l:List (Int×Int))(hl:l.length<=50)(hms:ms.length<=50)(ts:List Tk)(ht:ts.length<=1)(b:Bool):∃(ys:List Val) (b':Bool),ys.length<=50/\(∀v∈ys,v.size<=1000)/\Ab PP 160 [AB l,.v (AA ts),F4 m r ms] (σA b) (.tup []) (stFc b' ys):=by
 match ts,ht with
 |[],_=>
  obtain⟨v,b',h1,h2⟩:=choN0 m t hm r ms l hl hms b
  exact⟨[v],b',by simp,fun y hy=>by rw[mem_singleton.1 hy];exact h1,h2⟩
 |[tk],_=>
  obtain⟨ys,b',h1,h2,h3⟩:=cho_ex m t hm r ms l hl hms tk b
  refine⟨ys,b',by omega,h2,?_⟩
  by_cases hy:ys=[]
  ·subst hy;exact h3
  ·rw[stFc_ne hy]
   rw[stEc_ne hy] at h3
   refine spec_selG (σ:=σA b) (fun i=>if i<2 then i else i+1) (show 2<=3 by decide) (fun i hi=>if_pos hi) (fun i j _ _ h=>?_) (fun i hi=>?_) (fun i cs hi=>?_) rfl h3
   ·have h:(if i<2 then i else i+1)=(if j<2 then j else j+1):=h
    split at h<;>split at h<;>omega
   ·have hi:i<3:=hi
    show(if i<2 then i else i+1)<4
    split<;>omega
   ·match i,hi with
    |0,hi=>have hi:=Option.some.inj (Option.some.inj (hi:some (some _)=some (some cs)));subst hi;exact⟨rfl,rfl⟩
    |1,hi=>have hi:=Option.some.inj (Option.some.inj (hi:some (some _)=some (some cs)));subst hi;exact⟨rfl,rfl⟩
    |2,hi=>have hi:=Option.some.inj (Option.some.inj (hi:some (some _)=some (some cs)));subst hi;exact⟨by rw[Bz (As _)];rfl,Ag _ _ _⟩
    |i+3,hi=>simp at hi
noncomputable abbrev H7:Func:= Tryz.f110
noncomputable def cTApl:Code:=H7.body.getD .skip
theorem tms_pairs(b:Val)(h:∀v∈b.kids,v.kids.length=2):∃ps:List (Int×Int),ps.length=b.kids.length/\∀(k:Nat) (v:Val),b.kids[k]?=some v->∃a y,v.kids[0]?=some a/\v.kids[1]?=some y/\ps[k]?=some (a.n,y.n):=by
 refine⟨b.kids.map fun v=>((v.kids.getD 0 default).n,(v.kids.getD 1 default).n),by simp,fun k v hk=>?_⟩
 have h2:=h v (mem_of_getElem? hk)
 refine⟨v.kids[0],v.kids[1],getElem?_eq_getElem (by omega),getElem?_eq_getElem (by omega),?_⟩
 rw[getElem?_map,hk]
 simp[getD_eq_getElem?_getD,h2]
theorem tapl_bad(m:Mod)(t:Typ)(hm:TmM m t)(i:Nat)(r:Rul)(hi:m.rules[i]?=some r)(c:Val)(hs:c.size<=1000)(hv:Au t c=false):Ab PP 110 [Ah m,di i,dV c] σ0 (.tup [dVs [],di 17]) σ0:=by
 have hil:=(List.getElem?_eq_some_iff.1 hi).1
 have hval:=hm.int.valid c (by omega)
 rw[hv] at hval
 refine sv H7 77 [3,5] (.c (di 0)<|.k<|.f<|.f<|.f<|.c (db false) .r) (F0 59 [Ah m] (di 0)/\(m.kind !=5)=false/\decide ((i:Int)<0)=false/\decide ((i:Int)>=(length (map Ak m.rules):Int))=false/\F0 42 [Ah m,dV c] (db false)/\D.tup [D.v (V.list []),di 17]=D.tup [dVs [],di 17]) ?_
 exact⟨hm.chk,by rw[hm.kind];rfl,decide_eq_false (by omega),decide_eq_false (by rw[length_map];omega),hval,rfl⟩
theorem tapl_from(m:Mod)(t:Typ)(hm:TmM m t)(i:Nat)(r:Rul)(hi:m.rules[i]?=some r)(c:Val)(hs:c.size<=1000)(hv:Au t c=true)(s0:Val)(h0:c.kids[0]?=some s0)(hf:s0.n≠r.frm):Ab PP 110 [Ah m,di i,dV c] σ0 (.tup [dVs [],di 0]) σ0:=by
 have hil:=(List.getElem?_eq_some_iff.1 hi).1
 have hval:=hm.int.valid c (by omega)
 rw[hv] at hval
 refine sv H7 77 [3,5] (.c (di 0)<|.k<|.f<|.f<|.f<|.c (db true)<|.x (Ak r)<|.h (.xs (Ad s0))<|.t .r) (F0 59 [Ah m] (di 0)/\(m.kind !=5)=false/\decide ((i:Int)<0)=false/\decide ((i:Int)>=(length (map Ak m.rules):Int))=false/\F0 42 [Ah m,dV c] (db true)/\0<=(i:Int)/\(map Ak m.rules)[Int.toNat (i:Int)]?=some (Ak r)/\Q 2/\iz 0<=0/\(map eV c.kids)[Int.toNat 0]?=some (Ad s0)/\(True/\True)/\(s0.n !=r.frm)=true/\D.tup [D.v (V.list []),di 0]=D.tup [dVs [],di 0]) ?_
 exact⟨hm.chk,by rw[hm.kind];rfl,decide_eq_false (by omega),decide_eq_false (by rw[length_map];omega),hval,by omega,Ao hi,rfl,Int.le_refl _,Az (i:=0) h0,⟨trivial,trivial⟩,bne_iff_ne.2 hf,rfl⟩
abbrev rC(r:Rul):List D:=[.v (.str r.name),di r.frm,di r.to,dIs r.need,dIs r.give,dIs r.move,di r.chan,di r.act,di r.letter,dIs r.path,dIs r.next,.v (AA r.takes),dIs r.makes,di r.second]
abbrev mkP(l:List Int):List (Int×Int):=l.map fun p=>(p,0)
abbrev owM(ms:List Int):List (Nat×Nat×List V):=[(1,2,(mkP ms).map vPr)]
abbrev stMk(r:Rul)(l:List Int):St:=⟨[some (rC r),some [.acc 1 ((mkP l).map vPr)]],owM l⟩
abbrev stAp(b:Bool)(xs:List Val)(n:Nat)(ms:List Int):St:=⟨[none,none,some [.gro 4 n 2],some [db b],some (Aa (xs.map eV))],owM ms⟩
abbrev stAz(n:Nat)(zs:List Val)(R:List D)(ms:List Int):St:=⟨[none,none,some [.gro 4 n 2],some [db true],some (Aa (zs.map eV)++R)],owM ms⟩
abbrev stAy(n:Nat)(ms:List Int):St:=⟨[none,none,some [.gro 4 n 2],some [db true],none],owM ms⟩
abbrev stAn(b:Bool)(ms:List Int):St:=⟨[none,none,some [.v .nils],some [db b]],owM ms⟩
abbrev Hz(m:Mod)(r:Rul):D:=.dfn 162 [] [.v (.ref (AE m)),.v (.ref (Ak r)),.v (.ref (BT (mkP r.makes))),.ptr 2 0,.ptr 3 0]
theorem CmV_nil(F:FuncId):Ab PP 158 [dl [],dfn F] σ0 (dl []) σ0:=by
 refine sv fCmV 66 [] (.t .r) (decide ((nV.length:Int)<2)=true/\D.v (V.list [])=dl []) ?_
 exact⟨by decide,rfl⟩
noncomputable abbrev fTAp2:Func:= Tryz.f165
theorem tap2_spec(x y:Val)(hx:x.size<=1000):Ab PP 165 [dV x,dV y] σ0 (db (Av x y==0)) σ0:=by
 refine sv fTAp2 9 [2,3] (.c (di (Av x y)) .r) (F0 32 [dV x,dV y] (di (Av x y))/\Q (db (Av x y==0))) ?_
 exact⟨Hr _ x y (Nat.le_refl _) (by omega),rfl⟩
theorem op_chN(m:Mod)(r:Rul)(ps:List (Int×Int)){b b':Bool}{o:Oper}{c:Call}{fo:Operand}(ho:o.op=.call c)(hc:c.callee=.value fo)
  (h:Ab PP 160 [AB ps,.v (AA r.takes),F4 m r (mkP r.makes)] (σA b) (.tup []) (stFc b' [])):
  Ai PP o [.v (.fn 160 [] []),AB ps,.v (AA r.takes),Hz m r] (stAn b r.makes) (.tup []) (stAn b' r.makes):=
 Cr (σ:=stAn b r.makes) ho hc (fD:=.v (.fn 160 [] [])) (fs:=[]) (cs:=[]) (ds:=[AB ps,.v (AA r.takes),Hz m r]) rfl [2,3] id h
  (B5 rfl rfl) (.cons rfl (B5 rfl rfl) rfl (.cons rfl (B5 rfl rfl) rfl .nil)) (by decide) rfl (by simp[stFc]) (by simp[stFc]) rfl rfl
theorem op_chA(m:Mod)(r:Rul)(ps:List (Int×Int)){b b':Bool}{ys:List Val}{o:Oper}{c:Call}{fo:Operand}(ho:o.op=.call c)(hc:c.callee=.value fo)
  (h:Ab PP 160 [AB ps,.v (AA r.takes),F4 m r (mkP r.makes)] (σA b) (.tup []) (Gy b' ys)):
  Ai PP o [.v (.fn 160 [] []),AB ps,.v (AA r.takes),Hz m r] (stAn b r.makes) (.tup []) (stAp b' ys ys.length r.makes):=by
 have h2:=Cr (σ:=stAn b r.makes) ho hc (fD:=.v (.fn 160 [] [])) (fs:=[]) (cs:=[]) (ds:=[AB ps,.v (AA r.takes),Hz m r]) rfl [2,3] id h
  (B5 rfl rfl) (.cons rfl (B5 rfl rfl) rfl (.cons rfl (B5 rfl rfl) rfl .nil)) (by decide) rfl (by simp) (by simp) rfl (by simp[okH,D.okNs,D.okN,Ag])
 have e:F1 (rho 4 [2,3]) id (Gy b' ys).H=[some [.gro 4 ys.length 2],some [db b'],some (Aa (ys.map eV))]:=by
  show [some _,some _,some (D.rens _ _ (Aa (ys.map eV)))]=_
  rw[Bz (As _)];rfl
 have h2:Ai PP o _ _ _ ⟨Cy _ _ (F1 (rho 4 [2,3]) id (Gy b' ys).H),_⟩:=h2
 rw[e] at h2
 exact h2
theorem op_srA(ys:List Val)(hl:ys.length<=1000)(hs:∀v∈ys,v.size<=1000000)(ms:List Int){o:Oper}{c:Call}{fo:Operand}(ho:o.op=.call c)(hc:c.callee=.value fo):
  Ai PP o [.v (.fn 31 [] []),.arr 4 0 ys.length,dfn 32] (stAp true ys ys.length ms) (.tup []) (stAp true (sortV ys) ys.length ms):=by
 have h2:=Cr (σ:=stAp true ys ys.length ms) ho hc (fD:=.v (.fn 31 [] [])) (fs:=[]) (cs:=[]) (ds:=[.arr 4 0 ys.length,dfn 32]) rfl [4] id (EB ys (by omega) hs)
  (B5 rfl rfl) (.cons rfl (B5 (Ag _ _ _) (Bz (As _)).symm) (EI _) .nil) (by decide) rfl (by simp) (by simp) rfl (by simp[okH,D.okNs,D.okN,Ag])
 have e:F1 (rho 5 [4]) id [some (Aa ((sortV ys).map eV))]=[some (Aa ((sortV ys).map eV))]:=by
  show [some (D.rens _ _ _)]=_
  rw[Bz (As _)]
 have h2:Ai PP o _ _ _ ⟨Cy _ _ (F1 (rho 5 [4]) id [some (Aa ((sortV ys).map eV))]),_⟩:=h2
 rw[e] at h2
 exact h2
theorem op_czA(xs zs:List Val)(n:Nat)(R:List D)(ms:List Int)(hR:D.pls R=true)(hn:xs.length=n){F:FuncId}{o:Oper}{c:Call}{fo:Operand}(ho:o.op=.call c)(hc:c.callee=.value fo)
  (h:Ab PP 158 [.arr 0 0 xs.length,dfn F] ⟨[some (Aa (xs.map eV))],[]⟩ (.arr 0 0 zs.length) ⟨[some (Aa (zs.map eV)++R)],[]⟩):
  Ai PP o [.v (.fn 158 [] []),.arr 4 0 n,dfn F] (stAp true xs n ms) (.arr 4 0 zs.length) (stAz n zs R ms):=by
 subst hn
 have h2:=Cr (σ:=stAp true xs xs.length ms) ho hc (fD:=.v (.fn 158 [] [])) (fs:=[]) (cs:=[]) (ds:=[.arr 4 0 xs.length,dfn F]) rfl [4] id h
  (B5 rfl rfl) (.cons rfl (B5 (Ag _ _ _) (Bz (As _)).symm) (EI _) .nil) (by decide) rfl (by simp) (by simp) rfl (Bool.and_eq_true_iff.2 ⟨CJ (CmV_pls _ hR),rfl⟩)
 have e:F1 (rho 5 [4]) id [some (Aa (zs.map eV)++R)]=[some (Aa (zs.map eV)++R)]:=by
  show [some (D.rens _ _ _)]=_
  rw[Bz (CmV_pls _ hR)]
 have h2:Ai PP o _ _ _ ⟨Cy _ _ (F1 (rho 5 [4]) id [some (Aa (zs.map eV)++R)]),_⟩:=h2
 rw[e] at h2
 exact h2
theorem tapl_loop(m:Mod)(t:Typ)(hm:TmM m t)(r:Rul)(hmk:r.makes.length<=50)(htl:r.takes.length<=1)(c:Val)(ps:List (Int×Int))(hps:ps.length<=50)(htk:Ab PP 161 [dV c] σ0 (AB ps) σ0):
  ∃p:List Val×Int,p.1.length<=50/\(∀v∈p.1,v.size<=1000)/\∀(n k:Nat),r.makes.length-k=n->Rn PP H7 0 (.tup [dVs p.1,di p.2]) σ0 ([.lp (sub cTApl [1,1,1,1,1,1,0,1,0,0]),.blk 1,.code (sub cTApl [1,1,1,1,1,1,1])]++[]) (mkE 77 [(3,.v (.ref (AE m))),(5,.v (.ref (Ad c))),(9,.ptr 0 0),(10,.ptr 1 0),(53,dIs r.makes),(54,di r.makes.length),(55,di k)]) (stMk r (r.makes.take k)):=by
 suffices hz:∃p:List Val×Int,p.1.length<=50/\(∀v∈p.1,v.size<=1000)/\∀(k:Nat),r.makes.length-k=0->Rn PP H7 0 (.tup [dVs p.1,di p.2]) σ0 ([.lp (sub cTApl [1,1,1,1,1,1,0,1,0,0]),.blk 1,.code (sub cTApl [1,1,1,1,1,1,1])]++[]) (mkE 77 [(3,.v (.ref (AE m))),(5,.v (.ref (Ad c))),(9,.ptr 0 0),(10,.ptr 1 0),(53,dIs r.makes),(54,di r.makes.length),(55,di k)]) (stMk r r.makes) by
  obtain⟨p,p1,p2,p3⟩:=hz
  refine⟨p,p1,p2,fun n=>?_⟩
  induction n with
  |zero=>
   intro k hn
   have:=p3 k hn
   rw[take_of_length_le (by omega)];exact this
  |succ n ih=>
   intro k hn
   obtain⟨x,hx⟩:∃x,r.makes[k]?=some x:=⟨_,getElem?_eq_getElem (show k<r.makes.length by omega)⟩
   have hr:=ih (k+1) (by omega)
   have e:(mkP (r.makes.take k)).map vPr++[V.agg [vi x,vi 0]]=(mkP (r.makes.take (k+1))).map vPr:=by
    rw[take_add_one,hx];simp
   refine lv 77 [3,5] (.t<|.x (vi x)<|.lo [ke 3,ke 5,ke 9,ke 10,ke 53,ke 54,ch 55 (di (k+1:Nat))] (stMk r (r.makes.take (k+1)))) (decide ((k:Int)<(r.makes.length:Int))=true/\0<=(k:Int)/\(map vi r.makes)[Int.toNat (k:Int)]?=some (vi x)/\Q (map vPr (mkP (take k r.makes)))/\Ar (length (map vPr (mkP (take k r.makes)))+length (V.agg (vi x::V.int i64 0::nV)::nV)) 16/\di (wrap i64 ((k:Int)+1))=di (↑(k+1):Int)/\okH 2 [1] [some (rC r),some [D.acc 1 (map vPr (mkP (take k r.makes))++[V.agg [vi x,vi 0]])]]=true/\[some (rC r),some [D.acc 1 (map vPr (mkP (take k r.makes))++V.agg (vi x::vi 0::nV)::nV)]]=[some (rC r),some [D.acc 1 (map vPr (mkP (take (k+1) r.makes)))]]/\[(1,2,map vPr (mkP (take k r.makes))++V.agg (vi x::vi 0::nV)::nV)]=[(1,2,map vPr (mkP (take (k+1) r.makes)))]/\I0 H7 0 (D.tup [dVs p.fst,di p.snd]) σ0 [kl cTApl [1,1,1,1,1,1,0,1,0,0],KI.blk 1,kc cTApl [1,1,1,1,1,1,1]] (mkE 77 [(3,D.v (V.ref (AE m))),(5,D.v (V.ref (Ad c))),(9,D.ptr 0 0),(10,D.ptr 1 0),(53,dIs r.makes),(54,di (r.makes.length:Int)),(55,di (↑(k+1):Int))]) (stMk r (take (k+1) r.makes))) ?_
   rw[e]
   exact⟨decide_eq_true (by omega),by omega,by rw[Int.toNat_natCast,getElem?_map,hx];rfl,rfl,⟨by simp only[length_map,length_take,length_cons,length_nil];omega,by simp only[length_map,length_take,length_cons,length_nil];omega⟩,Af (by omega),rfl,rfl,rfl,⟨hr⟩⟩
 obtain⟨ys,b,h1,h2,h3⟩:=cho_any m t hm.int r (mkP r.makes) ps hps (by rw[length_map];exact hmk) r.takes htl true
 cases b with
 |false=>
  refine⟨([],1),by simp,by simp,fun k hn=>?_⟩
  show Rn PP H7 0 (.tup [dVs [],di 1]) σ0 _ _ _
  by_cases hy:ys=[]
  ·subst hy
   refine lv 77 [3,5] (.f<|.h (.q 20 0)<|.h (.fa 0 [9])<|.h (.f1 1 [10])<|.c (AB ps)<|.h (.p (.v (.ref (AA r.takes))))<|.h (.p (.v (AA r.takes)))<|.h (.p (Hz m r))<|.h (.oc (.tup []) (stAn false r.makes))<|.k<|.r) (decide ((k:Int)<(r.makes.length:Int))=false/\F0 161 [dV c] (AB ps)/\(∀(τ:St),Ai PP (Oper.mk (some 67) (Op.fieldAddr 49 (Operand.tmp 9) 11) 0 "timed.go:83" #[] none) [D.v (V.ref (Ak r))] τ (D.v (V.ref (AA r.takes))) τ)/\(∀(τ:St),Ai PP (Oper.mk (some 68) (Op.load 47 (Operand.tmp 67)) 47 "timed.go:83" #[Edge.mk 2 Ground.data] none) [D.v (V.ref (AA r.takes))] τ (D.v (AA r.takes)) τ)/\(∀(τ:St),Ai PP (Oper.mk (some 69) (Op.makeFunc (Fn.func 162) #[] #[Operand.tmp 3,Operand.tmp 9,Operand.tmp 10,Operand.tmp 13,Operand.tmp 14]) 204 "timed.go:83" #[] none) [D.v (V.ref (AE m)),D.v (V.ref (Ak r)),D.v (V.ref (V.list (map vPr (mkP r.makes)))),D.ptr 2 0,D.ptr 3 0] τ (Hz m r) τ)/\(∀(o:Oper) (c:Call) (fo:Operand),o.op=Op.call c->c.callee=Callee.value fo->Ai PP o [D.v (V.fn 160 [] []),AB ps,D.v (AA r.takes),Hz m r] (St.mk [none,none,some [dn],some [db true]] [(1,2,map vPr (mkP r.makes))]) (D.tup []) (stAn false r.makes))/\D.tup [D.v (V.list []),di 1]=D.tup [dVs [],di 1]) ?_
   exact⟨decide_eq_false (by omega),htk,fun τ=>E4 rfl (fo:=11) (n:=1) (b:=false) (by kernel_rfl) (by decide) (fun _=>rfl) rfl,fun τ=>E3 rfl (by unfold OneTy;kernel_rfl) rfl,fun τ=>Er rfl rfl,fun o cl fo ho hc=>op_chN m r ps ho hc h3,rfl⟩
  ·rw[stFc_ne hy] at h3
   refine lv 77 [3,5] (.f<|.h (.q 20 0)<|.h (.fa 0 [9])<|.h (.f1 1 [10])<|.c (AB ps)<|.h (.p (.v (.ref (AA r.takes))))<|.h (.p (.v (AA r.takes)))<|.h (.p (Hz m r))<|.h (.oc (.tup []) (stAp false ys ys.length r.makes))<|.k<|.r) (decide ((k:Int)<(r.makes.length:Int))=false/\F0 161 [dV c] (AB ps)/\(∀(τ:St),Ai PP (Oper.mk (some 67) (Op.fieldAddr 49 (Operand.tmp 9) 11) 0 "timed.go:83" #[] none) [D.v (V.ref (Ak r))] τ (D.v (V.ref (AA r.takes))) τ)/\(∀(τ:St),Ai PP (Oper.mk (some 68) (Op.load 47 (Operand.tmp 67)) 47 "timed.go:83" #[Edge.mk 2 Ground.data] none) [D.v (V.ref (AA r.takes))] τ (D.v (AA r.takes)) τ)/\(∀(τ:St),Ai PP (Oper.mk (some 69) (Op.makeFunc (Fn.func 162) #[] #[Operand.tmp 3,Operand.tmp 9,Operand.tmp 10,Operand.tmp 13,Operand.tmp 14]) 204 "timed.go:83" #[] none) [D.v (V.ref (AE m)),D.v (V.ref (Ak r)),D.v (V.ref (V.list (map vPr (mkP r.makes)))),D.ptr 2 0,D.ptr 3 0] τ (Hz m r) τ)/\(∀(o:Oper) (c:Call) (fo:Operand),o.op=Op.call c->c.callee=Callee.value fo->Ai PP o [D.v (V.fn 160 [] []),AB ps,D.v (AA r.takes),Hz m r] (St.mk [none,none,some [dn],some [db true]] [(1,2,map vPr (mkP r.makes))]) (D.tup []) (stAp false ys ys.length r.makes))/\D.tup [D.v (V.list []),di 1]=D.tup [dVs [],di 1]) ?_
   exact⟨decide_eq_false (by omega),htk,fun τ=>E4 rfl (fo:=11) (n:=1) (b:=false) (by kernel_rfl) (by decide) (fun _=>rfl) rfl,fun τ=>E3 rfl (by unfold OneTy;kernel_rfl) rfl,fun τ=>Er rfl rfl,fun o cl fo ho hc=>op_chA m r ps ho hc h3,rfl⟩
 |true=>
  by_cases hy:ys=[]
  ·subst hy
   refine⟨([],0),by simp,by simp,fun k hn=>?_⟩
   show Rn PP H7 0 (.tup [dVs [],di 0]) σ0 _ _ _
   refine lv 77 [3,5] (.f<|.h (.q 20 0)<|.h (.fa 0 [9])<|.h (.f1 1 [10])<|.c (AB ps)<|.h (.p (.v (.ref (AA r.takes))))<|.h (.p (.v (AA r.takes)))<|.h (.p (Hz m r))<|.h (.oc (.tup []) (stAn true r.makes))<|.k<|.c (.tup [])<|.c (dl []) .r) (decide ((k:Int)<(r.makes.length:Int))=false/\F0 161 [dV c] (AB ps)/\(∀(τ:St),Ai PP (Oper.mk (some 67) (Op.fieldAddr 49 (Operand.tmp 9) 11) 0 "timed.go:83" #[] none) [D.v (V.ref (Ak r))] τ (D.v (V.ref (AA r.takes))) τ)/\(∀(τ:St),Ai PP (Oper.mk (some 68) (Op.load 47 (Operand.tmp 67)) 47 "timed.go:83" #[Edge.mk 2 Ground.data] none) [D.v (V.ref (AA r.takes))] τ (D.v (AA r.takes)) τ)/\(∀(τ:St),Ai PP (Oper.mk (some 69) (Op.makeFunc (Fn.func 162) #[] #[Operand.tmp 3,Operand.tmp 9,Operand.tmp 10,Operand.tmp 13,Operand.tmp 14]) 204 "timed.go:83" #[] none) [D.v (V.ref (AE m)),D.v (V.ref (Ak r)),D.v (V.ref (V.list (map vPr (mkP r.makes)))),D.ptr 2 0,D.ptr 3 0] τ (Hz m r) τ)/\(∀(o:Oper) (c:Call) (fo:Operand),o.op=Op.call c->c.callee=Callee.value fo->Ai PP o [D.v (V.fn 160 [] []),AB ps,D.v (AA r.takes),Hz m r] (St.mk [none,none,some [dn],some [db true]] [(1,2,map vPr (mkP r.makes))]) (D.tup []) (stAn true r.makes))/\F0 31 [D.v (V.list []),D.v (V.fn 32 [] [])] (D.tup [])/\F0 158 [D.v (V.list []),D.v (V.fn 165 [] [])] (dl [])/\D.tup [D.v (V.list []),di 0]=D.tup [dVs [],di 0]) ?_
   exact⟨decide_eq_false (by omega),htk,fun τ=>E4 rfl (fo:=11) (n:=1) (b:=false) (by kernel_rfl) (by decide) (fun _=>rfl) rfl,fun τ=>E3 rfl (by unfold OneTy;kernel_rfl) rfl,fun τ=>Er rfl rfl,fun o cl fo ho hc=>op_chN m r ps ho hc h3,sortV_nil,CmV_nil _,rfl⟩
  ·rw[stFc_ne hy] at h3
   obtain⟨zs,R,c1,c2,c3,_,c4⟩:=CmV_ex 165 (sortV ys) (fun a b=>Av a b==0) (by rw[(AL ys).length_eq];omega) (fun x hx y hy=>tap2_spec x y (h2 x ((AL ys).mem_iff.1 hx)))
   refine⟨(zs,0),by rw[(AL ys).length_eq] at c1;show zs.length<=50;omega,fun v hv=>h2 v ((AL ys).mem_iff.1 (c2 v hv)),fun k hn=>?_⟩
   refine lv 77 [3,5] (.f<|.h (.q 20 0)<|.h (.fa 0 [9])<|.h (.f1 1 [10])<|.c (AB ps)<|.h (.p (.v (.ref (AA r.takes))))<|.h (.p (.v (AA r.takes)))<|.h (.p (Hz m r))<|.h (.oc (.tup []) (stAp true ys ys.length r.makes))<|.k<|.h (.q 24 1)<|.h (.ga 73)<|.h (.oc (.tup []) (stAp true (sortV ys) ys.length r.makes))<|.h (.q 25 1)<|.h (.ga 75)<|.h (.oc (.arr 4 0 zs.length) (stAz ys.length zs R r.makes))<|.h (.q 25 2)<|.h (.ct 76 (dVs zs) (stAy ys.length r.makes)) .r) (decide ((k:Int)<(r.makes.length:Int))=false/\F0 161 [dV c] (AB ps)/\(∀(τ:St),Ai PP (Oper.mk (some 67) (Op.fieldAddr 49 (Operand.tmp 9) 11) 0 "timed.go:83" #[] none) [D.v (V.ref (Ak r))] τ (D.v (V.ref (AA r.takes))) τ)/\(∀(τ:St),Ai PP (Oper.mk (some 68) (Op.load 47 (Operand.tmp 67)) 47 "timed.go:83" #[Edge.mk 2 Ground.data] none) [D.v (V.ref (AA r.takes))] τ (D.v (AA r.takes)) τ)/\(∀(τ:St),Ai PP (Oper.mk (some 69) (Op.makeFunc (Fn.func 162) #[] #[Operand.tmp 3,Operand.tmp 9,Operand.tmp 10,Operand.tmp 13,Operand.tmp 14]) 204 "timed.go:83" #[] none) [D.v (V.ref (AE m)),D.v (V.ref (Ak r)),D.v (V.ref (V.list (map vPr (mkP r.makes)))),D.ptr 2 0,D.ptr 3 0] τ (Hz m r) τ)/\(∀(o:Oper) (c:Call) (fo:Operand),o.op=Op.call c->c.callee=Callee.value fo->Ai PP o [D.v (V.fn 160 [] []),AB ps,D.v (AA r.takes),Hz m r] (St.mk [none,none,some [dn],some [db true]] [(1,2,map vPr (mkP r.makes))]) (D.tup []) (stAp true ys ys.length r.makes))/\(∀(o:Oper) (c:Call) (fo:Operand),o.op=Op.call c->c.callee=Callee.value fo->Ai PP o [D.v (V.fn 31 [] []),D.arr 4 0 ys.length,D.v (V.fn 32 [] [])] (St.mk [none,none,some [D.gro 4 ys.length 2],some [db true],some (Aa (map eV ys))] (owM r.makes)) (D.tup []) (stAp true (sortV ys) ys.length r.makes))/\(∀(o:Oper) (c:Call) (fo:Operand),o.op=Op.call c->c.callee=Callee.value fo->Ai PP o [D.v (V.fn 158 [] []),D.arr 4 0 ys.length,D.v (V.fn 165 [] [])] (stAp true (sortV ys) ys.length r.makes) (D.arr 4 0 zs.length) (stAz ys.length zs R r.makes))/\(∀(e:List D),e[76]?=some (D.arr 4 0 zs.length)->∀(E:Ent) (g:Gh) (a:Act) (w:World),FI E g (stAz ys.length zs R r.makes) e a w->∃g',FI E g' (stAy ys.length r.makes) (List.set e 76 (dVs zs)) a w)/\D.tup [dVs zs,di 0]=D.tup [dVs (zs,0).fst,di (zs,0).snd]) ?_
   exact⟨decide_eq_false (by omega),htk,fun τ=>E4 rfl (fo:=11) (n:=1) (b:=false) (by kernel_rfl) (by decide) (fun _=>rfl) rfl,fun τ=>E3 rfl (by unfold OneTy;kernel_rfl) rfl,fun τ=>Er rfl rfl,fun o cl fo ho hc=>op_chA m r ps ho hc h3,fun o cl fo ho hc=>op_srA ys (by omega) (fun v hv=>by have:=h2 v hv;omega) r.makes ho hc,fun o cl fo ho hc=>op_czA (sortV ys) zs ys.length R r.makes c3 (AL ys).length_eq ho hc c4,fun e he=>cv_flzP (σ:=stAz ys.length zs R r.makes) (q:=4) (sz:=2) (by decide) (Dl _) (by rw[length_map]) rfl he,rfl⟩
theorem tapl_ex(m:Mod)(t:Typ)(hm:TmM m t)(i:Nat)(r:Rul)(hi:m.rules[i]?=some r)(c:Val)(hs:c.size<=1000):∃p:List Val×Int,p.1.length<=50/\(∀v∈p.1,v.size<=1000)/\Ab PP 110 [Ah m,di i,dV c] σ0 (.tup [dVs p.1,di p.2]) σ0:=by
 have hir:=(List.getElem?_eq_some_iff.1 hi).1
 have hfew:=hm.few
 cases hv:Au t c with
 |false=>exact⟨([],17),by simp,by simp,tapl_bad m t hm i r hi c hs hv⟩
 |true=>
  have hsh:=hm.shape c hv
  obtain⟨s0,h0⟩:∃x,c.kids[0]?=some x:=⟨_,getElem?_eq_getElem (by rw[hsh.len];omega)⟩
  obtain⟨b,hb⟩:∃x,c.kids[1]?=some x:=⟨_,getElem?_eq_getElem (by rw[hsh.len];omega)⟩
  by_cases hf:s0.n=r.frm
  ·have hb12:=hsh.few b hb
   have hru:=hm.rule r (mem_of_getElem? hi)
   obtain⟨ps,hp1,hp2⟩:∃ps:List (Int×Int),ps.length=b.kids.length/\∀(k:Nat) (v:Val),b.kids[k]?=some v->∃a y,v.kids[0]?=some a/\v.kids[1]?=some y/\ps[k]?=some (a.n,y.n):=tms_pairs b fun v hv=>hsh.toks b v hb hv
   have ht:=tks_spec c b hb (by omega) ps hp1 hp2
   obtain⟨p,p1,p2,p3⟩:=tapl_loop m t hm r (by omega) hru.1 c ps (by omega) ht
   refine⟨p,p1,p2,?_⟩
   have hil:=hir
   have hval:=hm.int.valid c (by omega)
   rw[hv] at hval
   refine sv H7 77 [3,5] (.c (di 0)<|.k<|.f<|.f<|.f<|.c (db true)<|.x (Ak r)<|.h (.xs (Ad s0))<|.f<|.h (.q 14 0)<|.h (.cl 1 0 1 2)<|.lo [ke 3,ke 5,ke 9,ke 10,ch 53 (dIs r.makes),ch 54 (di r.makes.length),ch 55 (di (0:Nat))] (stMk r [])) (F0 59 [Ah m] (di 0)/\(m.kind !=5)=false/\decide ((i:Int)<0)=false/\decide ((i:Int)>=(length (map Ak m.rules):Int))=false/\F0 42 [Ah m,dV c] (db true)/\0<=(i:Int)/\(map Ak m.rules)[Int.toNat (i:Int)]?=some (Ak r)/\Q 2/\iz 0<=0/\(map eV c.kids)[Int.toNat 0]?=some (Ad s0)/\(True/\True)/\(s0.n !=r.frm)=false/\dIs r.makes=dIs r.makes/\di (length (map vi r.makes):Int)=di (r.makes.length:Int)/\di 0=di (↑0:Int)/\okH 2 [1] [some [D.v (V.str r.name),di r.frm,di r.to,dIs r.need,dIs r.give,dIs r.move,di r.chan,di r.act,di r.letter,dIs r.path,dIs r.next,D.v (AA r.takes),dIs r.makes,di r.second],some [D.acc 1 []]]=true/\[some [D.v (V.str r.name),di r.frm,di r.to,dIs r.need,dIs r.give,dIs r.move,di r.chan,di r.act,di r.letter,dIs r.path,dIs r.next,D.v (AA r.takes),dIs r.makes,di r.second],some [D.acc 1 nV]]=[some (rC r),some [D.acc 1 nV]]/\Q [(1,2,nV)]/\I0 H7 σ0.H.length (D.tup [dVs p.fst,di p.snd]) σ0 [kl cTApl [1,1,1,1,1,1,0,1,0,0],KI.blk 1,kc cTApl [1,1,1,1,1,1,1]] (mkE 77 [(3,D.v (V.ref (AE m))),(5,D.v (V.ref (Ad c))),(9,D.ptr 0 0),(10,D.ptr 1 0),(53,dIs r.makes),(54,di (r.makes.length:Int)),(55,di (↑0:Int))]) (stMk r [])) ?_
   exact⟨hm.chk,by rw[hm.kind];rfl,decide_eq_false (by omega),decide_eq_false (by rw[length_map];omega),hval,by omega,Ao hi,rfl,Int.le_refl _,Az (i:=0) h0,⟨trivial,trivial⟩,by rw[hf];exact bne_self_eq_false _,rfl,by rw[length_map],rfl,rfl,rfl,rfl,⟨p3 _ 0 rfl⟩⟩
  ·exact⟨([],0),by simp,by simp,tapl_from m t hm i r hi c hs hv s0 h0 hf⟩
theorem allP_Q{ap:Int->List Val×Int}{Q:Stp->Prop}(hq:∀i,∀v∈ (ap i).1,Q (i,v)):∀(n:Nat) (i:Int) (acc:List Stp),(∀s∈acc,Q s)->(EN ap n i acc).1.length<=256/\∀s∈ (EN ap n i acc).1,Q s
 |0,i,acc,ha=>by
  rw[EN]
  split
  ·exact⟨by simp,by simp⟩
  ·rename_i h
   exact⟨by have:=of_decide_eq_false (eq_false_of_ne_true h);show acc.length<=256;omega,ha⟩
 |n+1,i,acc,ha=>by
  rw[EN]
  split
  ·exact⟨by simp,by simp⟩
  ·exact allP_Q hq n (i+1) (acc++(ap i).1.map fun v=>(i,v)) (fun s hs=>by
    rcases mem_append.1 hs with hs|hs
    ·exact ha s hs
    ·obtain⟨v,hv,rfl⟩:=mem_map.1 hs
     exact hq i v hv)
def BehP(p:List Val×Int):Prop:=p.1.length<=1000/\∀v∈p.1,v.size<=1000
theorem oneP_beh{p:Val×Int}(h:p.1.size<=1000):BehP (Ce p):=by
 unfold Ce
 split
 ·exact⟨by simp,by simp⟩
 ·split
  ·exact⟨by simp,by simp⟩
  ·exact⟨by simp,fun v hv=>by rw[mem_singleton.1 hv];exact h⟩
structure StM(m:Mod)(t:Typ):Prop where
 int:FL m t
 chk:Ab PP 59 [Ah m] σ0 (di 0) σ0
 kind:m.kind=2∨m.kind=3∨m.kind=5
 few:m.rules.length<=12
 beh:∀c:Val,c.size<=1000->Au t c=true->∀i:Int, -1<=i->i<m.rules.length->∃p,BehP p/\Ab PP 63 [Ah m,di i,dV c] σ0 (dLP p) σ0
theorem stpX{m:Mod}{t:Typ}(hm:StM m t):Ab PP 105 [Ah m] σ0 (di 0) σ0:=by
 refine sv fStp1 12 [1] (.c (di 0)<|.k<|.f .r) (F0 59 [Ah m] (di 0)/\(m.kind==6)=false/\Q (di 0)) ?_
 exact⟨hm.chk,by rcases hm.kind with h|h|h<;>(rw[h];rfl),rfl⟩
theorem schkX{m:Mod}{t:Typ}(hm:StM m t)(c:Val)(hs:c.size<=1000):Ab PP 62 [Ah m,dV c] σ0 (di (if Au t c=true then 0 else 17)) σ0:=by
 have h1:=hm.int.valid c (by omega)
 cases hv:Au t c with
 |true=>
  rw[hv] at h1
  show Ab PP _ _ _ (di 0) _
  refine sv fSChk 15 [2,3] (.c (di 0)<|.c (db true) .r) (F0 105 [Ah m] (di 0)/\F0 42 [Ah m,dV c] (db true)/\Q (di 0)) ?_
  exact⟨stpX hm,h1,rfl⟩
 |false=>
  rw[hv] at h1
  show Ab PP _ _ _ (di 17) _
  refine sv fSChk 15 [2,3] (.c (di 0)<|.c (db false) .r) (F0 105 [Ah m] (di 0)/\F0 42 [Ah m,dV c] (db false)/\Q (di 17)) ?_
  exact⟨stpX hm,h1,rfl⟩
theorem sallX{m:Mod}{t:Typ}(hm:StM m t)(c:Val)(hs:c.size<=1000):∃S:List Stp×Int,S.1.length<=256/\(∀s∈S.1,s.2.size<=1000)/\Ab PP 46 [Ah m,dV c] σ0 (dSP S) σ0:=by
 have hc:=schkX hm c hs
 cases hv:Au t c with
 |false=>
  rw[hv] at hc
  have hc:Ab PP 62 [Ah m,dV c] σ0 (di 17) σ0:=hc
  refine⟨([],17),by simp,by simp,?_⟩
  refine sv Fu 53 [2,3] (.c (di 17) .r) (F0 62 [Ah m,dV c] (di 17)/\D.tup [D.v (V.list []),di 17]=dSP ([],17)) ?_
  exact⟨hc,rfl⟩
 |true=>
  rw[hv] at hc
  have hc:Ab PP 62 [Ah m,dV c] σ0 (di 0) σ0:=hc
  have hb:∀i:Int,∃p,BehP p/\(-1<=i->i<m.rules.length->Ab PP 63 [Ah m,di i,dV c] σ0 (dLP p) σ0):=fun i=>by
   by_cases h: -1<=i/\i<m.rules.length
   ·obtain⟨p,h1,h2⟩:=hm.beh c hs hv i h.1 h.2
    exact⟨p,h1,fun _ _=>h2⟩
   ·exact⟨([],0),⟨by simp,by simp⟩,fun h1 h2=>absurd ⟨h1,h2⟩ h⟩
  obtain⟨ap,hap⟩:∃ap:Int->List Val×Int,∀i,BehP (ap i)/\(-1<=i->i<m.rules.length->Ab PP 63 [Ah m,di i,dV c] σ0 (dLP (ap i)) σ0):=⟨fun i=>Classical.choose (hb i),fun i=>Classical.choose_spec (hb i)⟩
  obtain⟨q1,q2⟩:=allP_Q (ap:=ap) (Q:=fun s=>s.2.size<=1000) (fun i v hv=>(hap i).1.2 v hv) (m.rules.length+1) (-1) [] (by simp)
  refine⟨EN ap (m.rules.length+1) (-1) [],q1,q2,?_⟩
  refine sv Fu 53 [2,3] (.c (di 0)<|.h (.q 5 0)<|.h (.nw 7 1 3)<|.ls [ke 2,ke 3,ke 7,ch 8 (di (-1))] (ownP [])) (F0 62 [Ah m,dV c] (di 0)/\Q (di (-1))/\Q [(1,3,nV)]/\I0 Fu σ0.H.length (dSP (EN ap (length m.rules+1) (-1) [])) σ0 [kl Cx [1,1,1,0,1,0,0],KI.blk 0,kc Cx [1,1,1,1]] (mkE 53 [(2,D.v (V.ref (AE m))),(3,D.v (V.ref (Ad c))),(7,D.acc 1 []),(8,di (-1))]) (ownP [])) ?_
  refine⟨hc,rfl,rfl,⟨?_⟩⟩
  exact sall_loop m hm.few c ap (fun i=>(hap i).1.1) (fun i h1 h2=>(hap i).2 h1 h2) (m.rules.length+1) (-1) [] (by omega) (by omega) (by omega) (by simp)
theorem sqtC{m:Mod}{c:Val}(hk:m.kind=2∨m.kind=3){l:List Val}(hl:Ab PP 148 [Ah m,dV c] σ0 (dLP (l,0)) σ0):Ab PP 106 [Ah m,dV c] σ0 (dVs l) σ0:=by
 rcases hk with hk|hk
 ·refine sv fSQt 31 [2,3] (.t<|.c (dLP (l,0)) .r) ((m.kind==2)=true/\F0 148 [Ah m,dV c] (dLP (l,0))/\D.v (vVs (l,0).fst)=dVs l) ?_
  exact⟨by rw[hk];rfl,hl,rfl⟩
 ·refine sv fSQt 31 [2,3] (.f<|.t<|.c (dLP (l,0)) .r) ((m.kind==2)=false/\(m.kind==3)=true/\F0 148 [Ah m,dV c] (dLP (l,0))/\D.v (vVs (l,0).fst)=dVs l) ?_
  exact⟨by rw[hk];rfl,by rw[hk];rfl,hl,rfl⟩
theorem sqtT{m:Mod}{c:Val}(hk:m.kind=5){v:Val}(hl:Ab PP 149 [Ah m,dV c] σ0 (.tup [dV v,di 0]) σ0):Ab PP 106 [Ah m,dV c] σ0 (dVs [v]) σ0:=by
 refine sv fSQt 31 [2,3] (.f<|.f<|.t<|.c (.tup [dV v,di 0]) .r) ((m.kind==2)=false/\(m.kind==3)=false/\(m.kind==5)=true/\F0 149 [Ah m,dV c] (D.tup [dV v,di 0])/\D.v (V.list [V.agg [vi v.n,vVs v.kids]])=dVs [v]) ?_
 refine⟨by rw[hk];rfl,by rw[hk];rfl,by rw[hk];rfl,hl,?_⟩
 show D.v (.list [Ad v])=dVs [v]
 rw[←AN];rfl
theorem bhdX_q{m:Mod}{c:Val}{l:List Val}(h:Ab PP 106 [Ah m,dV c] σ0 (dVs l) σ0):Ab PP 63 [Ah m,di (-1),dV c] σ0 (dLP (l,0)) σ0:=by
 refine sv fBhd 56 [3,5] (.c (dVs l) .r) (F0 106 [Ah m,dV c] (dVs l)/\D.tup [dVs l,di 0]=dLP (l,0)) ?_
 exact⟨h,rfl⟩
theorem bhdC{m:Mod}(hk:m.kind=2∨m.kind=3)(i:Nat)(c:Val)(p:Val×Int)(hp:Ab PP 111 [Ah m,di i,dV c] σ0 (dP p) σ0):Ab PP 63 [Ah m,di i,dV c] σ0 (dLP (Ce p)) σ0:=by
 refine sv fBhd 56 [3,5] (.f<|.f<|.f<|.f<|.c (dP p)<|.c (dLP (Ce p)) .r) (((i:Int)== -1)=false/\(m.kind==1)=false/\(m.kind==4)=false/\(m.kind==5)=false/\F0 111 [Ah m,di (i:Int),dV c] (dP p)/\F0 107 [dV p.fst,di p.snd] (dLP (Ce p))/\D.tup [D.v (vVs (Ce p).fst),di (Ce p).snd]=dLP (Ce p)) ?_
 exact⟨beq_eq_false_iff_ne.2 (by omega),by rcases hk with h|h<;>(rw[h];rfl),by rcases hk with h|h<;>(rw[h];rfl),by rcases hk with h|h<;>(rw[h];rfl),hp,ssng_spec p,rfl⟩
theorem bhdT{m:Mod}(hk:m.kind=5)(i:Nat)(c:Val)(p:List Val×Int)(hp:Ab PP 110 [Ah m,di i,dV c] σ0 (dLP p) σ0):Ab PP 63 [Ah m,di i,dV c] σ0 (dLP p) σ0:=by
 refine sv fBhd 56 [3,5] (.f<|.f<|.f<|.t<|.c (dLP p) .r) (((i:Int)== -1)=false/\(m.kind==1)=false/\(m.kind==4)=false/\(m.kind==5)=true/\F0 110 [Ah m,di (i:Int),dV c] (dLP p)/\D.tup [dVs p.fst,di p.snd]=dLP p) ?_
 exact⟨beq_eq_false_iff_ne.2 (by omega),by rw[hk];rfl,by rw[hk];rfl,by rw[hk];rfl,hp,rfl⟩
theorem ChM.st{m:Mod}{t:Typ}(hm:ChM m t)(hr:m.ranks.length<=1000):StM m t:=by
 refine⟨hm.int,hm.chk,by rcases hm.kind with h|h<;>simp[h],hm.few.1,fun c hs hv i h1 h2=>?_⟩
 by_cases h0:i<0
 ·have:i= -1:=by omega
  subst this
  obtain⟨l,l1,l2⟩:=los_ex m t hm hr c hv
  exact⟨(l,0),⟨by have:=l1.1;show l.length<=1000;omega,l1.2⟩,bhdX_q (sqtC hm.kind l2)⟩
 ·obtain⟨k,rfl⟩:∃k:Nat,i=k:=⟨i.toNat,by omega⟩
  have hk:k<m.rules.length:=by omega
  obtain⟨p,p1,p2⟩:=capl_ex m t hm k _ (getElem?_eq_getElem hk) c hs
  exact⟨Ce p,oneP_beh p1,bhdC hm.kind k c p p2⟩
theorem TmM.st{m:Mod}{t:Typ}(hm:TmM m t):StM m t:=by
 refine⟨hm.int,hm.chk,.inr (.inr hm.kind),hm.few,fun c hs hv i h1 h2=>?_⟩
 by_cases h0:i<0
 ·have:i= -1:=by omega
  subst this
  obtain⟨v,v1,v2⟩:=tck_ex m t hm c hv
  exact⟨([v],0),⟨by simp,fun y hy=>by rw[mem_singleton.1 hy];exact v1⟩,bhdX_q (sqtT hm.kind v2)⟩
 ·obtain⟨k,rfl⟩:∃k:Nat,i=k:=⟨i.toNat,by omega⟩
  have hk:k<m.rules.length:=by omega
  obtain⟨p,p1,p2,p3⟩:=tapl_ex m t hm k _ (getElem?_eq_getElem hk) c hs
  exact⟨p,⟨by omega,p2⟩,bhdT hm.kind k c p p3⟩
theorem exclO_spec{m:Mod}(hp:m.places.length=1∨m.places.length=2)(hpl:Ab PP 55 [Ah m] σ0 (db false) σ0)(c:Val)(h:Hnt)(hn:0<=h.cand/\h.cand<=1000):Ab PP 33 [.ptr 0 0] (stH h m c) (BV (An h.used)) (stH h m c):=by
 have hcd:Ab PP 54 [di m.places.length,di h.cand] σ0 (dCnd (EL m.places.length h.cand)) σ0:=by
  rcases hp with e|e
  ·rw[e];exact icnd_1 h.cand hn
  ·rw[e];exact icnd_2 h.cand hn
 generalize EL m.places.length h.cand=k at*
 obtain⟨cs,md,ok⟩:=k
 cases ok with
 |false=>
  refine sv fExcl 86 [] (.c (.tup [dIs cs,di md,db false])<|.c1 (cPl h m c) (BV (An h.used)) .r) (F0 54 [di (length (map V.str m.places):Int),di h.cand] (D.tup [dIs cs,di md,db false])/\(True/\True/\True)/\Ab PP 45 [D.ptr 0 0] (St.mk [some (cPl h m c)] []) (BV (An h.used)) (St.mk [some (cPl h m c)] [])/\Q [some (cPl h m c)]/\D.v (V.agg [V.bool (An h.used).decided,V.bool (An h.used).yes,V.list [],V.list [],vi (An h.used).mod,V.list [],V.list [],vi (An h.used).used])=BV (An h.used)) ?_
  exact⟨by rw[length_map];exact hcd,⟨trivial,trivial,trivial⟩,DR h m c,rfl,rfl⟩
 |true=>
  refine sv fExcl 86 [] (.c (.tup [dIs cs,di md,db true])<|.c (db false)<|.c1 (cPl h m c) (BV (An h.used)) .r) (F0 54 [di (length (map V.str m.places):Int),di h.cand] (D.tup [dIs cs,di md,db true])/\(True/\True/\True)/\F0 55 [Ah m] (db false)/\Ab PP 45 [D.ptr 0 0] (St.mk [some (cPl h m c)] []) (BV (An h.used)) (St.mk [some (cPl h m c)] [])/\Q [some (cPl h m c)]/\D.v (V.agg [V.bool (An h.used).decided,V.bool (An h.used).yes,V.list [],V.list [],vi (An h.used).mod,V.list [],V.list [],vi (An h.used).used])=BV (An h.used)) ?_
  exact⟨by rw[length_map];exact hcd,⟨trivial,trivial,trivial⟩,hpl,DR h m c,rfl,rfl⟩
def exclO(h:Hnt):Hnt×Vrd:=(h,An h.used)
theorem onesB_get:∀(l:List Typ) (vs:List Val) (k:Nat) (t:Typ) (v:Val),CF l vs=true->l[k]?=some t->vs[k]?=some v->AG t v=true
 |[],_,_,_,_,_,h,_=>by simp at h
 |_::_,[],_,_,_,_,_,h=>by simp at h
 |s::l,x::vs,0,t,v,h,h1,h2=>by
  simp only[CF,Bool.and_eq_true] at h
  simp at h1 h2
  subst h1;subst h2;exact h.1
 |s::l,x::vs,k+1,t,v,h,h1,h2=>by
  simp only[CF,Bool.and_eq_true] at h
  exact onesB_get l vs k t v h.2 (by simpa using h1) (by simpa using h2)
theorem prod_shape{l:List Typ}{c:Val}(h:Au (.prod l) c=true):c.size<=128/\c.kids.length=l.length/\CF l c.kids=true:=by
 simp only[Au,AG,Bool.and_eq_true,decide_eq_true_eq,beq_iff_eq] at h
 obtain⟨h1,h2,h3,h4⟩:=h
 exact⟨by omega,by omega,h4⟩
theorem one_prodX{l:List Typ}{c:Val}(h:AG (.prod l) c=true):c.kids.length=l.length/\CF l c.kids=true:=by
 simp only[AG,Bool.and_eq_true,beq_iff_eq] at h
 exact⟨by omega,h.2.2⟩
theorem chan_shape{m:Mod}(hk:m.kind=2∨m.kind=3)(c:Val)(h:Au (CM m) c=true):ChC m c:=by
 rw[CM] at h
 obtain⟨h1,h2,h3⟩:=prod_shape h
 refine⟨h1,by rw[h2];simp;omega,fun k x hx=>?_⟩
 have hkl:=(List.getElem?_eq_some_iff.1 hx).1
 have ht:(Typ.lab m.states.length::replicate m.places.length (ER m))[1+k]?=some (ER m):=by
  rw[show 1+k=k+1 by omega,List.getElem?_cons_succ,List.getElem?_replicate]
  rw[if_pos]
  simp at h2;omega
 have ho:=onesB_get _ _ _ _ _ h3 ht hx
 rcases hk with hk|hk
 ·rw[show ER m=.word (.lab m.letters.length) by simp[ER,hk]] at ho
  simp only[AG,Bool.and_eq_true,decide_eq_true_eq] at ho
  have:=ho.2.1
  omega
 ·rw[show ER m=.prio m.letters.length m.ranks by simp[ER,hk]] at ho
  simp only[AG,Bool.and_eq_true,decide_eq_true_eq] at ho
  have:=ho.2.1
  omega
theorem bag_shape{m:Mod}(c:Val)(h:Au (E8 m) c=true):TmC c:=by
 rw[E8] at h
 obtain⟨h1,h2,h3⟩:=prod_shape h
 have hb:∀b,c.kids[1]?=some b->AG (.bag (.prod [.lab m.places.length,.lab (m.age+2)])) b=true:=fun b hb=>onesB_get _ _ 1 _ _ h3 rfl hb
 refine⟨h1,h2,fun b hx=>?_,fun b v hx hv=>?_⟩
 ·have ho:=hb b hx
  simp only[AG,Bool.and_eq_true] at ho
  have:=of_decide_eq_true ho.1.2.1
  omega
 ·have ho:=hb b hx
  rw[AG] at ho
  simp only[Bool.and_eq_true,all_eq_true] at ho
  exact(one_prodX (ho.1.2.2 v hv)).1
theorem MadeL.chm{K:Int}{m:Mod}(hK:K=2∨K=3)(h:MadeL K m):ChM m (CM m):=by
 have hk:m.kind=2∨m.kind=3:=by rw[h.kind];exact hK
 have hpl:1<=m.places.length/\m.places.length<=2:=by rcases h.places with e|e<;>rw[e]<;>decide
 refine⟨(h.ok hK).int,Ea m (h.ok hK),hk,⟨by have:=h.count;omega,hpl.2⟩,fun r hr=>?_,chan_shape hk⟩
 obtain⟨i,hi⟩:=List.getElem?_of_mem hr
 have:=(h.rules i r hi).act
 omega
theorem CG.tmm{m:Mod}(h:CG m):TmM m (E8 m):=by
 refine⟨h.int,chkT_spec m h,h.kind,by have:=h.count;omega,fun r hr=>?_,bag_shape⟩
 obtain⟨i,hi⟩:=List.getElem?_of_mem hr
 have hr2:=h.rules i r hi
 refine⟨?_,?_⟩
 ·rcases hr2.takes with e|⟨_,_,_,_,_,e⟩<;>rw[e]<;>simp
 ·rcases hr2.makes with e|⟨_,_,e⟩<;>rw[e]<;>simp
theorem valid_sz{t:Typ}{c:Val}(h:Au t c=true):c.size<=128:=by
 simp only[Au,Bool.and_eq_true,decide_eq_true_eq] at h
 omega
theorem StM.mdl{m:Mod}{t:Typ}(hm:StM m t)(hst:Au t m.start=true)(hp:m.places.length=1∨m.places.length=2)(c:Val)(hv:Au t c=true):∃S,Mdl m t c (fun v=>v.size<=1000) S exclO:=by
 have hb:∀v:Val,∃S:List Stp×Int,v.size<=1000->S.1.length<=256/\(∀s∈S.1,s.2.size<=1000)/\Ab PP 46 [Ah m,dV v] σ0 (dSP S) σ0:=fun v=>by
  by_cases h:v.size<=1000
  ·obtain⟨S,h1⟩:=sallX hm v h
   exact⟨S,fun _=>h1⟩
  ·exact⟨([],0),fun h1=>absurd h1 h⟩
 obtain⟨S,hS⟩:∃S:Val->List Stp×Int,∀v:Val,v.size<=1000->(S v).1.length<=256/\(∀s∈ (S v).1,s.2.size<=1000)/\Ab PP 46 [Ah m,dV v] σ0 (dSP (S v)) σ0:=⟨fun v=>Classical.choose (hb v),fun v=>Classical.choose_spec (hb v)⟩
 have hpb:D8 m=false:=by
  rw[D8]
  have:(m.kind==1)=false:=by rcases hm.kind with h|h|h<;>(rw[h];rfl)
  rw[this];rfl
 have hpl:=hm.int.plain
 rw[hpb] at hpl
 exact⟨S,{ int:=hm.int,valid:=hv,tsize:=by have:=valid_sz hv;omega,start:=by have:=valid_sz hst;show m.start.size<=1000;omega,size:=fun v h=>h,all:=fun v h=>(hS v h).2.2,len:=fun v h=>(hS v h).1,next:=fun v h=>(hS v h).2.1,excl:=fun h hn=>exclO_spec hp hpl c h hn,cand:=fun h=>.inl rfl,told:=fun h _=>DG.open _ }⟩
theorem PlC.mdl{m:Mod}(hm:PlC m){c:Val}(hc:AC m c):Mdl m (CM m) c (AC m) (Dk m) (AW m c):=by
 have hpl:=hm.places
 have hfw:=hm.few
 refine{ int:=hm.ok.int,valid:=hc.valid hm,tsize:=by have:=hc.size hm;omega,start:=hm.start,size:=fun v h=>by have:=h.size hm;omega,all:=fun v h=>sall_spec m hm v h,len:=fun v h=>by have:=(F8 hm h).2.1;omega,next:=fun v h s hs=>((F8 hm h).2.2 s hs).ok,excl:=fun h hn=>excl_spec m hm c hc h hn,cand:=fun h=>?_,told:=fun h h0=>?_ }
 ·unfold AW
  split
  ·split
   ·split
    ·exact .inr rfl
    ·exact .inr rfl
   ·exact .inr rfl
  ·exact .inl rfl
 ·have hco:=cndM_ok hm h0
  unfold AW
  split
  ·rename_i cs md he
   rw[he] at hco
   have hco:=hco rfl
   split
   ·rename_i vals hv
    have ha:=potM_ok hm hco hv
    split
    ·refine⟨⟨by simp[atmV],by simp[atmV]⟩,?_,?_,⟨by simp[atmV],by simp[atmV]⟩⟩
     ·have:=ha.len;show cs.length<=1000;simp only at this;omega
     ·have:=ha.vlen;show vals.length<=1000;simp only at this;omega
    ·exact DG.open _
   ·exact DG.open _
  ·exact DG.open _
theorem CtM.mdl{m:Mod}(hm:CtM m)(hp:m.places.length=1∨m.places.length=2)(hpb:D8 m=false){c:Val}(hc:AC m c):Mdl m (CM m) c (AC m) (HA m) exclO:=by
 have hpl:=hm.ok.int.plain
 rw[hpb] at hpl
 exact{ int:=hm.ok.int,valid:=hc.validM hm,tsize:=by have:=hc.sizeM hm;omega,start:=hm.start,size:=fun v h=>by have:=h.sizeM hm;omega,all:=fun v h=>sallM_spec m hm v h,len:=fun v h=>by have:=(stepsT_or hm h).2.1;omega,next:=fun v h s hs=>((stepsT_or hm h).2.2 s hs).ok,excl:=fun h hn=>exclO_spec hp hpl c h hn,cand:=fun h=>.inl rfl,told:=fun h _=>DG.open _ }
theorem AnyM.mdl{m:Mod}(h:AnyM m){c:Val}(hc:CfgM m c):∃(t:Typ) (C:Val->Prop) (S:Val->List Stp×Int) (X:Hnt->Hnt×Vrd),Mdl m t c C S X:=by
 have hP:m.places=[[120]]∨m.places=[[120],[121]]:=by
  cases h with
  |cM h=>exact h.places
  |l2 h=>exact h.places
  |l3 h=>exact h.places
  |tm h=>exact h.places
  |c h=>exact h.places
 have hp:m.places.length=1∨m.places.length=2:=by rcases hP with e|e<;>rw[e]<;>simp
 cases h with
 |cM h=>
  cases hc with
  |ctr hk s ys hs hy hb hc=>
   have hcc:AC m c:=by rw[hc];exact cfgOK m s hs ys hy fun y hy=>by have:=hb y hy;omega
   cases hpb:D8 m with
   |false=>exact⟨_,_,_,_,h.ctm.mdl hp hpb hcc⟩
   |true=>
    have hpc:PlC m:=⟨h.ok,h.kind,fun r hr=>by
     rw[D8,Bool.and_eq_true,all_eq_true] at hpb
     have:=hpb.2 r hr
     simp at this
     exact this,h.ctm.start,⟨by rcases h.states with e|e<;>rw[e]<;>simp,by omega⟩⟩
    exact⟨_,_,_,_,hpc.mdl hcc⟩
  |chan hk=>have:=h.kind;omega
  |bag hk=>have:=h.kind;omega
 |c h=>
  cases hc with
  |ctr hk s ys hs hy hb hc=>
   have hcc:AC m c:=by rw[hc];exact cfgOK m s hs ys hy fun y hy=>by have:=hb y hy;omega
   exact⟨_,_,_,_,h.plc.mdl hcc⟩
  |chan hk=>have:=h.kind;omega
  |bag hk=>have:=h.kind;omega
 |l2 h=>
  cases hc with
  |ctr hk=>have:=h.kind;omega
  |chan hk s ys hs hy hb hc=>
   obtain⟨S,hS⟩:=((h.chm (.inl rfl)).st (by have:=h.ranks;rw[if_neg (by decide)] at this;rw[this];simp)).mdl (h.ok (.inl rfl)).start hp c (by rw[hc];exact chan_valid m hk (by omega) s hs ys hy hb)
   exact⟨_,_,_,_,hS⟩
  |bag hk=>have:=h.kind;omega
 |l3 h=>
  cases hc with
  |ctr hk=>have:=h.kind;omega
  |chan hk s ys hs hy hb hc=>
   obtain⟨S,hS⟩:=((h.chm (.inr rfl)).st (by have h1:=h.ranks;rw[if_pos rfl] at h1;have h2:m.letters.length<=2:=(by rcases h.letters with e|e<;>rw[e]<;>simp);omega)).mdl (h.ok (.inr rfl)).start hp c (by rw[hc];exact chan_valid m hk (by omega) s hs ys hy hb)
   exact⟨_,_,_,_,hS⟩
  |bag hk=>have:=h.kind;omega
 |tm h=>
  cases hc with
  |ctr hk=>have:=h.kind;omega
  |chan hk=>have:=h.kind;omega
  |bag hk s ts hs hb hc=>
   obtain⟨S,hS⟩:=h.tmm.st.mdl h.start_ok hp c (by rw[hc];exact bag_valid m s hs ts hb)
   exact⟨_,_,_,_,hS⟩
end Go.Proofs.YtcjhkglbdahfgaaGreat
