/-
  A part of the proof.
-/
import Derived.Test.YtcjhkglbdahfgaaGreatEj
import Derived.Test.YtcjhkglbdahfgaaGreatEd
import Derived.Test.YtcjhkglbdahfgaaGreatEb
import Derived.Shelf.SlSortCmp.NoneTotal
namespace Go.Proofs.YtcjhkglbdahfgaaGreat
open Go.Dv Go.Nv
set_option maxRecDepth 20000
open List (all_eq_true append_assoc append_nil cons_append drop_eq_getElem_cons drop_of_length_le drop_zero ext_getElem? flatMap_cons flatten flatten_cons foldl_cons getD_eq_getElem?_getD getElem?_append_left getElem?_append_right getElem?_drop getElem?_eq_getElem getElem?_eq_none getElem?_map getElem?_set getElem?_take getElem?_toArray length length_append length_cons length_drop length_map length_nil length_pos_iff length_set length_take map map_append map_cons map_map map_nil mem_append mem_cons mem_map mem_of_getElem? mem_of_mem_drop mem_of_mem_take mem_or_eq_of_mem_set mem_singleton nil_append not_mem_nil replicate replicate_succ set_cons_succ set_cons_zero size_toArray take take_add_one take_append_drop take_left take_of_length_le take_succ_cons zipWith)
open Go.IntKind (wrap i64 u64)
structure ChC(m:Mod)(c:Val):Prop where
 size:c.size<=128
 len:c.kids.length=1+m.places.length
 word:∀(k:Nat) (x:Val),c.kids[1+k]?=some x->x.kids.length<=12
structure ChM(m:Mod)(t:Typ):Prop where
 int:FL m t
 chk:Ab PP 59 [Ah m] σ0 (di 0) σ0
 kind:m.kind=2∨m.kind=3
 few:m.rules.length<=12/\m.places.length<=2
 rule:∀r∈m.rules,0<=r.chan/\r.chan<m.places.length
 shape:∀c,Au t c=true->ChC m c
noncomputable abbrev fCChk1:Func:= Tryz.f214
theorem cchk1_spec(m:Mod)(t:Typ)(hm:FL m t)(c:Val)(hs:c.size<=1000000):Ab PP 214 [dV c,.v (.ref (AE m))] σ0 (db (!Au t c)) σ0:=by
 refine sv fCChk1 8 [2] (.c (db (Au t c)) .r) (F0 42 [Ah m,dV c] (db (Au t c))/\(db !Au t c)=db !Au t c) ?_
 exact⟨hm.valid c hs,rfl⟩
noncomputable abbrev fCChkC:Func:= Tryz.f194
theorem cchk_0(m:Mod)(t:Typ)(hm:ChM m t):Ab PP 194 [Ah m,dl []] σ0 (di 0) σ0:=by
 have h:=Hm 214 [] [.ref (AE m)] (fun c=> !Au t c) [] (by simp) (by simp)
 rcases hm.kind with hk|hk
 ·refine sv fCChkC 24 [2] (.c (di 0)<|.k<|.f<|.c (db false) .r) (F0 59 [Ah m] (di 0)/\(m.kind !=2)=false/\F0 146 [D.v (V.list []),D.v (V.fn 214 [] [V.ref (AE m)])] (db false)/\Q (di 0)) ?_
  exact⟨hm.chk,by rw[hk];rfl,h,rfl⟩
 ·refine sv fCChkC 24 [2] (.c (di 0)<|.k<|.t<|.f<|.c (db false) .r) (F0 59 [Ah m] (di 0)/\(m.kind !=2)=true/\(m.kind !=3)=false/\F0 146 [D.v (V.list []),D.v (V.fn 214 [] [V.ref (AE m)])] (db false)/\Q (di 0)) ?_
  exact⟨hm.chk,by rw[hk];rfl,by rw[hk];rfl,h,rfl⟩
def chkC(t:Typ)(c:Val):Int:=if Au t c=true then 0 else 17
theorem cchk_1(m:Mod)(t:Typ)(hm:ChM m t)(c:Val)(hs:c.size<=1000000):Ab PP 194 [Ah m,dl [Ad c]] σ0 (di (chkC t c)) σ0:=by
 have h:=Hm 214 [] [.ref (AE m)] (fun c=> !Au t c) [c] (by simp) (fun x hx=>by rw[mem_singleton.1 hx];exact cchk1_spec m t hm.int c hs)
 rw[show [c].map eV=[Ad c] from congrArg (fun z=>[z]) (AN c)] at h
 rw[chkC]
 cases hv:Au t c with
 |true=>
  rw[show([c].any fun c=> !Au t c)=false by simp[hv]] at h
  rw[if_pos rfl]
  rcases hm.kind with hk|hk
  ·refine sv fCChkC 24 [2] (.c (di 0)<|.k<|.f<|.c (db false) .r) (F0 59 [Ah m] (di 0)/\(m.kind !=2)=false/\F0 146 [D.v (V.list [Ad c]),D.v (V.fn 214 [] [V.ref (AE m)])] (db false)/\Q (di 0)) ?_
   exact⟨hm.chk,by rw[hk];rfl,h,rfl⟩
  ·refine sv fCChkC 24 [2] (.c (di 0)<|.k<|.t<|.f<|.c (db false) .r) (F0 59 [Ah m] (di 0)/\(m.kind !=2)=true/\(m.kind !=3)=false/\F0 146 [D.v (V.list [Ad c]),D.v (V.fn 214 [] [V.ref (AE m)])] (db false)/\Q (di 0)) ?_
   exact⟨hm.chk,by rw[hk];rfl,by rw[hk];rfl,h,rfl⟩
 |false=>
  rw[show([c].any fun c=> !Au t c)=true by simp[hv]] at h
  rw[if_neg (by decide)]
  rcases hm.kind with hk|hk
  ·refine sv fCChkC 24 [2] (.c (di 0)<|.k<|.f<|.c (db true) .r) (F0 59 [Ah m] (di 0)/\(m.kind !=2)=false/\F0 146 [D.v (V.list [Ad c]),D.v (V.fn 214 [] [V.ref (AE m)])] (db true)/\Q (di 17)) ?_
   exact⟨hm.chk,by rw[hk];rfl,h,rfl⟩
  ·refine sv fCChkC 24 [2] (.c (di 0)<|.k<|.t<|.f<|.c (db true) .r) (F0 59 [Ah m] (di 0)/\(m.kind !=2)=true/\(m.kind !=3)=false/\F0 146 [D.v (V.list [Ad c]),D.v (V.fn 214 [] [V.ref (AE m)])] (db true)/\Q (di 17)) ?_
   exact⟨hm.chk,by rw[hk];rfl,by rw[hk];rfl,h,rfl⟩
noncomputable abbrev fCAt:Func:= Tryz.f166
theorem cat_spec(m:Mod)(t:Typ)(hm:ChM m t)(i:Nat)(hi:i<m.rules.length)(c:Val)(hs:c.size<=1000000):Ab PP 166 [Ah m,di i,dV c] σ0 (di (chkC t c)) σ0:=by
 refine sv fCAt 28 [3,5] (.c (di 0)<|.k<|.k<|.f<|.c (di (chkC t c)) .r) (F0 194 [Ah m,D.v (V.list [])] (di 0)/\decide ((i:Int)>=(length (map Ak m.rules):Int))=false/\F0 194 [Ah m,D.v (V.list [Ad c])] (di (chkC t c))/\Q (di (chkC t c))) ?_
 exact⟨cchk_0 m t hm,decide_eq_false (by rw[length_map];omega),cchk_1 m t hm c hs,rfl⟩
abbrev B1(x:Val):List Int:=x.kids.map Val.n
noncomputable abbrev fCont:Func:= Tryz.f168
noncomputable def cCont:Code:=fCont.body.getD .skip
theorem cont_loop(l:List Val)(hl:l.length<=1000000)(n:Nat):∀k:Nat,l.length-k=n->
  Rn PP fCont 0 (.acc 1 ((l.map Val.n).map vi)) ⟨[],[(1,1,(l.map Val.n).map vi)]⟩ ([.lp (sub cCont [1,1,0,1,0,0]),.blk 0,.code (sub cCont [1,1,1])]++[]) (mkE 27 [(5,.acc 1 (((l.take k).map Val.n).map vi)),(14,dVs l),(15,di l.length),(16,di k)]) ⟨[],[(1,1,((l.take k).map Val.n).map vi)]⟩:=by
 induction n with
 |zero=>
  intro k hn
  refine lv 27 [2] (.f .r) (decide ((k:Int)<(l.length:Int))=false/\[(1,1,map vi (map Val.n (take k l)))]=[(1,1,map vi (map Val.n l))]/\D.acc 1 (map vi (map Val.n (take k l)))=D.acc 1 (map vi (map Val.n l))) ?_
  rw[take_of_length_le (by omega)]
  exact⟨decide_eq_false (by omega),rfl,rfl⟩
 |succ n ih=>
  intro k hn
  obtain⟨x,hx⟩:∃x,l[k]?=some x:=⟨_,getElem?_eq_getElem (show k<l.length by omega)⟩
  refine lv 27 [2] (.t<|.h (.xs (Ad x))<|.ls [ch 5 (.acc 1 (((l.take (k+1)).map Val.n).map vi)),ke 14,ke 15,ch 16 (di (k+1:Nat))] ⟨[],[(1,1,((l.take (k+1)).map Val.n).map vi)]⟩) (decide ((k:Int)<(l.length:Int))=true/\Q 2/\0<=(k:Int)/\(map eV l)[Int.toNat (k:Int)]?=some (Ad x)/\Q (map vi (map Val.n (take k l)))/\Ar (length (map vi (map Val.n (take k l)))+length (vi x.n::nV)) 8/\D.acc 1 (map vi (map Val.n (take k l))++[vi x.n])=D.acc 1 (map vi (map Val.n (take (k+1) l)))/\di (wrap i64 ((k:Int)+1))=di (↑(k+1):Int)/\[(1,1,map vi (map Val.n (take k l))++vi x.n::nV)]=[(1,1,map vi (map Val.n (take (k+1) l)))]/\I0 fCont 0 (D.acc 1 (map vi (map Val.n l))) (St.mk [] [(1,1,map vi (map Val.n l))]) [kl cCont [1,1,0,1,0,0],KI.blk 0,kc cCont [1,1,1]] (mkE 27 [(5,D.acc 1 (map vi (map Val.n (take (k+1) l)))),(14,dVs l),(15,di (l.length:Int)),(16,di (↑(k+1):Int))]) (St.mk [] [(1,1,map vi (map Val.n (take (k+1) l)))])) ?_
  have hk:=(List.getElem?_eq_some_iff.1 hx).1
  have ht:((l.take (k+1)).map Val.n).map vi=((l.take k).map Val.n).map vi++[vi x.n]:=by rw[take_add_one,hx];simp
  rw[ht]
  refine⟨decide_eq_true (by omega),rfl,by omega,Az hx,rfl,⟨?_,?_⟩,rfl,Af (by omega),rfl,⟨?_⟩⟩
  ·simp only[length_map,length_take,length_cons,length_nil];omega
  ·simp only[length_map,length_take,length_cons,length_nil];omega
  ·have:=ih (k+1) (by omega)
   rw[ht] at this
   exact this
theorem contA_spec(c:Val)(k:Nat)(x:Val)(hx:c.kids[1+k]?=some x)(hl:c.kids.length<=1000000)(hs:x.kids.length<=1000000):Ab PP 168 [dV c,di k] σ0 (.acc 1 ((B1 x).map vi)) ⟨[],[(1,1,(B1 x).map vi)]⟩:=by
 refine sv fCont 27 [2] (.h (.q 2 0)<|.h (.nw 5 1 1)<|.h (.xs (Ad x))<|.ls [ch 5 (.acc 1 []),ke 14,ch 15 (di x.kids.length),ch 16 (di (0:Nat))] ⟨[],[(1,1,[])]⟩) (Q 2/\0<=wrap i64 (1+(k:Int))/\(map eV c.kids)[Int.toNat (wrap i64 (1+(k:Int)))]?=some (Ad x)/\Q (D.acc 1 [])/\di (length (map eV x.kids):Int)=di (x.kids.length:Int)/\di 0=di (↑0:Int)/\Q [(1,1,nV)]/\I0 fCont σ0.H.length (D.acc 1 (map vi (B1 x))) (St.mk [] [(1,1,map vi (B1 x))]) [kl cCont [1,1,0,1,0,0],KI.blk 0,kc cCont [1,1,1]] (mkE 27 [(5,D.acc 1 []),(14,dVs x.kids),(15,di (x.kids.length:Int)),(16,di (↑0:Int))]) (St.mk [] [(1,1,[])])) ?_
 have hk:=(List.getElem?_eq_some_iff.1 hx).1
 have hw:i64.wrap (1+(k:Int))=((1+k:Nat):Int):=by rw[Aj (by omega) (by omega)];omega
 rw[hw]
 exact⟨rfl,by omega,Az hx,rfl,by rw[length_map],rfl,rfl,⟨cont_loop x.kids hs _ 0 rfl⟩⟩
theorem cont_spec(c:Val)(k:Nat)(x:Val)(hx:c.kids[1+k]?=some x)(hl:c.kids.length<=1000000)(hs:x.kids.length<=1000000):Ab PP 168 [dV c,di k] σ0 (dIs (B1 x)) σ0:=spec_unacc (contA_spec c k x hx hl hs)
noncomputable abbrev fCEnb:Func:= Tryz.f167
theorem cenb_spec(r:Rul)(c:Val)(k:Nat)(hk:r.chan=k)(s x:Val)(hs:c.kids[0]?=some s)(hx:c.kids[1+k]?=some x)(hl:c.kids.length<=1000000)(hz:x.kids.length<=1000000):
  Ab PP 167 [BK r,dV c] σ0 (db ((s.n==r.frm)&&((r.act !=2)||(B1 x).head?==some r.letter))) σ0:=by
 have hct:=cont_spec c k x hx hl hz
 rw[←hk] at hct
 have hx0:(c.kids.map eV)[Int.toNat 0]?=some (Ad s):=Az (i:=0) hs
 by_cases h1:(s.n !=r.frm)=true
 ·have e1:(s.n==r.frm)=false:=by simpa using h1
  refine sv fCEnb 32 [2,3] (.h (.xs (Ad s))<|.t .r) (Q 2/\iz 0<=0/\(map eV c.kids)[Int.toNat 0]?=some (Ad s)/\(s.n !=r.frm)=true/\db false=db (s.n==r.frm&&(r.act !=2||List.head? (B1 x)==some r.letter))) ?_
  rw[e1]
  exact⟨rfl,Int.le_refl _,hx0,h1,rfl⟩
 ·have f1:=eq_false_of_ne_true h1
  have e1:(s.n==r.frm)=true:=by simpa using h1
  by_cases h2:(r.act !=2)=true
  ·refine sv fCEnb 32 [2,3] (.h (.xs (Ad s))<|.f<|.t .r) (Q 2/\iz 0<=0/\(map eV c.kids)[Int.toNat 0]?=some (Ad s)/\(s.n !=r.frm)=false/\(r.act !=2)=true/\db true=db (s.n==r.frm&&(r.act !=2||List.head? (B1 x)==some r.letter))) ?_
   rw[e1,h2]
   exact⟨rfl,Int.le_refl _,hx0,f1,rfl,rfl⟩
  ·have f2:=eq_false_of_ne_true h2
   rw[e1,f2]
   cases hn:B1 x with
   |nil=>
    rw[hn] at hct
    refine sv fCEnb 32 [2,3] (.h (.xs (Ad s))<|.f<|.f<|.c (dIs []) .r) (Q 2/\iz 0<=0/\(map eV c.kids)[Int.toNat 0]?=some (Ad s)/\(s.n !=r.frm)=false/\(r.act !=2)=false/\F0 168 [dV c,di r.chan] (dIs [])/\db false=db (true&&(false||List.head? []==some r.letter))) ?_
    exact⟨rfl,Int.le_refl _,hx0,f1,f2,hct,rfl⟩
   |cons y ys=>
    rw[hn] at hct
    refine sv fCEnb 32 [2,3] (.h (.xs (Ad s))<|.f<|.f<|.c (dIs (y::ys))<|.t<|.x (vi y) .r) (Q 2/\iz 0<=0/\(map eV c.kids)[Int.toNat 0]?=some (Ad s)/\(s.n !=r.frm)=false/\(r.act !=2)=false/\F0 168 [dV c,di r.chan] (dIs (y::ys))/\decide ((length (map vi (y::ys)):Int)>0)=true/\iz 0<=0/\Q (some (vi y))/\db (y==r.letter)=db (true&&(false||List.head? (y::ys)==some r.letter))) ?_
    exact⟨rfl,Int.le_refl _,hx0,f1,f2,hct,decide_eq_true (by simp only[length_map,length_cons];omega),Int.le_refl _,rfl,by simp⟩
noncomputable abbrev fCps:Func:= Tryz.f219
noncomputable def cCps:Code:=fCps.body.getD .skip
theorem cps_loop(l:List Val)(hl:l.length<=1000000)(hp:∀v∈l,Ab PP 206 [dV v] σ0 (dV v) σ0)(n:Nat):∀k:Nat,l.length-k=n->
  Rn PP fCps 0 (.acc 1 (l.map eV)) ⟨[],[(1,2,l.map eV)]⟩ ([.lp (sub cCps [1,1,0,1,0,0]),.blk 0,.code (sub cCps [1,1,1])]++[]) (mkE 19 [(3,.acc 1 ((l.take k).map eV)),(6,dVs l),(7,di l.length),(8,di k)]) ⟨[],[(1,2,(l.take k).map eV)]⟩:=by
 induction n with
 |zero=>
  intro k hn
  refine lv 19 [] (.f .r) (decide ((k:Int)<(l.length:Int))=false/\[(1,2,map eV (take k l))]=[(1,2,map eV l)]/\D.acc 1 (map eV (take k l))=D.acc 1 (map eV l)) ?_
  rw[take_of_length_le (by omega)]
  exact⟨decide_eq_false (by omega),rfl,rfl⟩
 |succ n ih=>
  intro k hn
  obtain⟨x,hx⟩:∃x,l[k]?=some x:=⟨_,getElem?_eq_getElem (show k<l.length by omega)⟩
  refine lv 19 [] (.t<|.h (.xs (Ad x))<|.c (dV x)<|.ls [ch 3 (.acc 1 ((l.take (k+1)).map eV)),ke 6,ke 7,ch 8 (di (k+1:Nat))] ⟨[],[(1,2,(l.take (k+1)).map eV)]⟩) (decide ((k:Int)<(l.length:Int))=true/\Q 2/\0<=(k:Int)/\(map eV l)[Int.toNat (k:Int)]?=some (Ad x)/\F0 206 [dV x] (dV x)/\Q (map eV (take k l))/\Ar (length (map eV (take k l))+length (Ad x::nV)) 32/\D.acc 1 (map eV (take k l)++[Ad x])=D.acc 1 (map eV (take (k+1) l))/\di (wrap i64 ((k:Int)+1))=di (↑(k+1):Int)/\[(1,2,map eV (take k l)++Ad x::nV)]=[(1,2,map eV (take (k+1) l))]/\I0 fCps 0 (D.acc 1 (map eV l)) (St.mk [] [(1,2,map eV l)]) [kl cCps [1,1,0,1,0,0],KI.blk 0,kc cCps [1,1,1]] (mkE 19 [(3,D.acc 1 (map eV (take (k+1) l))),(6,dVs l),(7,di (l.length:Int)),(8,di (↑(k+1):Int))]) (St.mk [] [(1,2,map eV (take (k+1) l))])) ?_
  have hk:=(List.getElem?_eq_some_iff.1 hx).1
  have ht:l.take (k+1)=l.take k++[x]:=by rw[take_add_one,hx];rfl
  refine⟨decide_eq_true (by omega),rfl,by omega,Az hx,hp x (mem_of_getElem? hx),rfl,⟨?_,?_⟩,?_,Af (by omega),?_,⟨ih (k+1) (by omega)⟩⟩
  ·simp only[length_map,length_take,length_cons,length_nil];omega
  ·simp only[length_map,length_take,length_cons,length_nil];omega
  ·rw[BE, ←ht]
  ·rw[ht, ←BE]
theorem cps_spec(l:List Val)(hl:l.length<=1000000)(hp:∀v∈l,Ab PP 206 [dV v] σ0 (dV v) σ0):Ab PP 219 [dVs l] σ0 (dVs l) σ0:=by
 have h:Ab PP 219 [dVs l] σ0 (.acc 1 (l.map eV)) ⟨[],[(1,2,l.map eV)]⟩:=by
  refine sv fCps 19 [] (.h (.q 2 0)<|.h (.nw 3 1 2)<|.ls [ch 3 (.acc 1 []),ke 6,ch 7 (di l.length),ch 8 (di (0:Nat))] ⟨[],[(1,2,[])]⟩) (Q (D.acc 1 [])/\di (length (map eV l):Int)=di (l.length:Int)/\di 0=di (↑0:Int)/\Q [(1,2,nV)]/\I0 fCps σ0.H.length (D.acc 1 (map eV l)) (St.mk [] [(1,2,map eV l)]) [kl cCps [1,1,0,1,0,0],KI.blk 0,kc cCps [1,1,1]] (mkE 19 [(3,D.acc 1 []),(6,dVs l),(7,di (l.length:Int)),(8,di (↑0:Int))]) (St.mk [] [(1,2,[])])) ?_
  exact⟨rfl,by rw[length_map],rfl,rfl,⟨cps_loop l hl hp _ 0 rfl⟩⟩
 exact spec_unacc h
noncomputable abbrev fCpy:Func:= Tryz.f206
noncomputable def cCpy:Code:=fCpy.body.getD .skip
theorem cpy_spec(N:Nat):∀v:Val,v.size<=N->v.size<=1000000->Ab PP 206 [dV v] σ0 (dV v) σ0:=by
 induction N with
 |zero=>intro v h;have:=v.size_pos;omega
 |succ N ih=>
  intro v hN hv
  have hs:=v.size_eq
  have hl:=Val.length_le v.kids
  refine sv fCpy 9 [1] (.c (dVs v.kids) .r) (F0 219 [dVs v.kids] (dVs v.kids)/\D.v (V.agg [vi v.n,V.list (map eV v.kids)])=dV v) ?_
  exact⟨cps_spec v.kids (by omega) (fun x hx=>by have:=Val.size_mem hx;exact ih x (by omega) (by omega)),rfl⟩
abbrev stAV(xs:List Val):St:=⟨[some (Aa (xs.map eV))],[]⟩
theorem cpsA_loop(l:List Val)(hl:l.length<=100000)(hp:∀v∈l,Ab PP 206 [dV v] σ0 (dV v) σ0)(n:Nat):∀k:Nat,l.length- (k+1)=n->k<l.length->
  Rn PP fCps 0 (.arr 0 0 l.length) (stAV l) ([.lp (sub cCps [1,1,0,1,0,0]),.blk 0,.code (sub cCps [1,1,1])]++[]) (mkE 19 [(3,.gro 0 (k+1) 2),(6,dVs l),(7,di l.length),(8,di (k+1:Nat))]) (stAV (l.take (k+1))):=by
 induction n with
 |zero=>
  intro k hn hk
  refine lv 19 [] (.f<|.h (.q 7 0)<|.h (.ga 3) .ro) (decide ((↑(k+1):Int)<(l.length:Int))=false/\okH 1 [] [some (Aa (map eV (take (k+1) l)))]=true/\[some (Aa (map eV (take (k+1) l)))]=[some (Aa (map eV l))]/\D.arr 0 0 (k+1)=D.arr 0 0 l.length) ?_
  have e:k+1=l.length:=by omega
  rw[e,take_of_length_le (Nat.le_refl _)]
  exact⟨decide_eq_false (by omega),Bool.and_eq_true_iff.2 ⟨Ag 1 [] _,rfl⟩,rfl,rfl⟩
 |succ n ih=>
  intro k hn hk
  obtain⟨x,hx⟩:∃x,l[k+1]?=some x:=⟨_,getElem?_eq_getElem (show k+1<l.length by omega)⟩
  refine lv 19 [] (.t<|.h (.xs (Ad x))<|.c (dV x)<|.lo [ch 3 (.gro 2 (k+1+1) 2),ke 6,ke 7,ch 8 (di (k+1+1:Nat))] ⟨[none,some [di x.n,dVs x.kids],some (Aa ((l.take (k+1+1)).map eV))],[]⟩) (decide ((↑(k+1):Int)<(l.length:Int))=true/\Q 2/\0<=(↑(k+1):Int)/\(map eV l)[Int.toNat (↑(k+1):Int)]?=some (Ad x)/\F0 206 [dV x] (dV x)/\length (Aa (map eV (take (k+1) l)))=(k+1)*2/\[Ad x]≠ []/\(∀(y:V),y∈ [Ad x]->V.size y=2)/\Ar (k+1+length (Ad x::nV)) 32/\D.gro 2 (k+1+length (Ad x::nV)) 2=D.gro 2 (k+1+1) 2/\di (wrap i64 ((↑(k+1):Int)+1))=di (↑(k+1+1):Int)/\okH 3 [] [none,some [di x.n,dVs x.kids],some (Aa (map eV (take (k+1) l))++[di x.n,dVs x.kids])]=true/\[none,some [di x.n,dVs x.kids],some (Aa (map eV (take (k+1) l))++[di x.n,dVs x.kids])]=[none,some [di x.n,dVs x.kids],some (Aa (map eV (take (k+1+1) l)))]/\I0 fCps 0 (D.arr 0 0 l.length) (stAV l) [kl cCps [1,1,0,1,0,0],KI.blk 0,kc cCps [1,1,1]] (mkE 19 [(3,D.gro 2 (k+1+1) 2),(6,dVs l),(7,di (l.length:Int)),(8,di (↑(k+1+1):Int))]) (St.mk [none,some [di x.n,dVs x.kids],some (Aa (map eV (take (k+1+1) l)))] [])) ?_
  have hk1:=(List.getElem?_eq_some_iff.1 hx).1
  have ht:l.take (k+1+1)=l.take (k+1)++[x]:=by rw[take_add_one (i:=k+1),hx];rfl
  have hf:Aa ((l.take (k+1)).map eV)++[di x.n,D.v (vVs x.kids)]=Aa ((l.take (k+1+1)).map eV):=by rw[ht,FE,A5];rfl
  have hih:=ih (k+1) (by omega) hk1
  rw[hf]
  refine⟨decide_eq_true (by omega),rfl,by omega,Az hx,hp x (mem_of_getElem? hx),by rw[BO,length_take];omega,by simp,fun y hy=>by rw[mem_singleton.1 hy];rfl,⟨?_,?_⟩,rfl,Af (by omega),?_,rfl,⟨?_⟩⟩
  ·simp only[length_cons,length_nil];omega
  ·simp only[length_cons,length_nil];omega
  ·simp[okH,D.okNs,D.okN,Ag]
  ·refine D3 (H0:=[none,some [di x.n,dVs x.kids]]) (fun E0 E h=>h.2) 2 rfl (fun cs hc=>?_) ?_ ?_ hih
   ·simp at hc;rw[hc];exact As _
   ·simp[mkE,D.okNs,D.okN]
   ·simp[mkE,D.rens,D.ren]
theorem cpsA_spec(l:List Val)(hn:l≠ [])(hl:l.length<=100000)(hp:∀v∈l,Ab PP 206 [dV v] σ0 (dV v) σ0):Ab PP 219 [dVs l] σ0 (.arr 0 0 l.length) (stAV l):=by
 obtain⟨x,hx⟩:∃x,l[0]?=some x:=⟨_,getElem?_eq_getElem (length_pos_iff.2 hn)⟩
 refine sv fCps 19 [] (.n<|.t<|.h (.xs (Ad x))<|.c (dV x)<|.h (.q 5 4)<|.h .g<|.lo [ch 3 (.gro 1 1 2),ke 6,ch 7 (di l.length),ch 8 (di (1:Nat))] ⟨[some [di x.n,dVs x.kids],some (Aa ((l.take 1).map eV))],[]⟩) (decide (0<(length (map eV l):Int))=true/\Q 2/\iz 0<=0/\(map eV l)[Int.toNat 0]?=some (Ad x)/\F0 206 [dV x] (dV x)/\[Ad x]≠ []/\(∀(y:V),y∈ [Ad x]->V.size y=2)/\Ar 1 32/\Q (D.gro 1 1 2)/\di (length (map eV l):Int)=di (l.length:Int)/\di (wrap i64 (0+1))=di (↑1:Int)/\okH 2 [] [some [di x.n,dVs x.kids],some [di x.n,dVs x.kids]]=true/\[some [di x.n,dVs x.kids],some [di x.n,dVs x.kids]]=[some [di x.n,dVs x.kids],some (Aa (map eV (take 1 l)))]/\I0 fCps σ0.H.length (D.arr 0 0 l.length) (stAV l) [kl cCps [1,1,0,1,0,0],KI.blk 0,kc cCps [1,1,1]] (mkE 19 [(3,D.gro 1 1 2),(6,dVs l),(7,di (l.length:Int)),(8,di (↑1:Int))]) (St.mk [some [di x.n,dVs x.kids],some (Aa (map eV (take 1 l)))] [])) ?_
 have hk1:=(List.getElem?_eq_some_iff.1 hx).1
 have ht:l.take 1=[x]:=by
  cases l with
  |nil=>simp at hx
  |cons y l=>simp at hx;simp[hx]
 have hih:=cpsA_loop l hl hp _ 0 rfl (by omega)
 refine⟨decide_eq_true (by simp only[length_map];omega),rfl,Int.le_refl _,Az (i:=0) hx,hp x (mem_of_getElem? hx),by simp,fun y hy=>by rw[mem_singleton.1 hy];rfl,⟨by decide,by decide⟩,rfl,by rw[length_map],congrArg di (by decide),rfl,?_,⟨?_⟩⟩
 ·rw[ht,A5];rfl
 ·refine D3 (H0:=[some [di x.n,dVs x.kids]]) (fun E0 E h=>h.2) 1 rfl (fun cs hc=>?_) ?_ ?_ hih
  ·simp at hc;rw[hc];exact As _
  ·simp[mkE,D.okNs,D.okN]
  ·simp[mkE,D.rens,D.ren]
theorem cpyA_spec(v:Val)(hn:v.kids≠ [])(hv:v.size<=100000):Ab PP 206 [dV v] σ0 (.dagg [di v.n,.arr 1 0 v.kids.length]) ⟨[some [di v.n,.arr 1 0 v.kids.length],some (Aa (v.kids.map eV))],[]⟩:=by
 have hs:=v.size_eq
 have hl:=Val.length_le v.kids
 refine spec_vcX mixed fCpy cCpy (by kernel_rfl) (by kernel_rfl) (by kernel_rfl) (by kernel_rfl) 9 (by kernel_rfl) [1] (.h (.oc (.arr 1 0 v.kids.length) ⟨[some [di 0,.v .nils],some (Aa (v.kids.map eV))],[]⟩)<|.h .g<|.r) ?_
 refine via (by kernel_rfl:((∀(o:Oper) (c:Call) (fo:Operand),o.op=Op.call c->c.callee=Callee.value fo->Ai PP o [D.v (V.fn 219 [] []),dVs v.kids] (St.mk [some [di 0,dn]] []) (D.arr 1 0 v.kids.length) (St.mk [some [di 0,dn],some (Aa (map eV v.kids))] []))/\okH 2 [] [some [di v.n,D.arr 1 0 v.kids.length],some (Aa (map eV v.kids))]=true/\Q [some [di v.n,D.arr 1 0 v.kids.length],some (Aa (map eV v.kids))]/\Q (D.dagg [di v.n,D.arr 1 0 v.kids.length]))=_) ?_
 refine⟨fun o cl fo ho hc=>?_,by simp[okH,D.okNs,D.okN,Ag],rfl,rfl⟩
 exact CB (σ:=⟨[some [di 0,.v .nils]],[]⟩) (fs:=[]) (cs:=[]) (ds:=[dVs v.kids]) ho hc rfl (As _) (cpsA_spec v.kids hn (by omega) (fun x hx=>by have:=Val.size_mem hx;exact cpy_spec _ x (Nat.le_refl _) (by omega)))
theorem opOK_see{P:Program}{o:Oper}{ds ds':List D}{σ σ':St}{d:D}(h:DSL ds ds')(ho:Ai P o ds' σ d σ'):Ai P o ds σ d σ':=fun E g a w K Q hw hds hK=>ho E g a w K Q hw (h.rep hds) hK
theorem opOK_lit{P:Program}{o:Oper}{ds ds':List D}{σ σ':St}{d:D}(h:∀(g:Gh) (a:Act),Ac g ds' (o.op.operands.toList.map a.eval))(ho:Ai P o ds' σ d σ'):Ai P o ds σ d σ':=fun E g a w K Q hw _ hK=>ho E g a w K Q hw (h g a) hK
noncomputable abbrev Gt:Func:= Tryz.f169
noncomputable def AQ:Code:=Gt.body.getD .skip
noncomputable def opsW:Array Oper:=match sub AQ [1,1,1,1,1,0,1,0,0,1,1,0,0,1] with
 |.region _ ops _=>ops
 |_=> #[]
noncomputable def oW(i:Nat):Oper:=(opsW[i]?).getD ⟨none,.alloc 0,0,"", #[],none⟩
theorem BM:opsW.size=12:=by kernel_rfl
theorem opsW_list:opsW.toList=[oW 0,oW 1,oW 2,oW 3,oW 4,oW 5,oW 6,oW 7,oW 8,oW 9,oW 10,oW 11]:=by kernel_rfl
abbrev AT(c:Val)(L:List D)(T:List (Option (List D))):St:=⟨[some [di 0,.v .nils],some [di c.n,.arr 2 0 c.kids.length],some L,some [di c.n,.arr 2 0 c.kids.length]]++T,[]⟩
abbrev zE:V:=.agg [vi 0,.nils]
abbrev lE(x:Int):V:=.agg [vi x,.list []]
theorem w0_ok(p:Nat)(σ:St):Ai PP (oW 0) [.ptr 2 p] σ (.ptr 2 p) σ:=by
 obtain⟨_,d,σ',kd,⟨rfl,rfl,rfl⟩,h⟩:=Ci (P:=PP) (im:=[]) (s:=.z) (o:=oW 0) (ds:=[.ptr 2 p]) (σ:=σ) (K:=fun _ d' σ' kd=>d'=(.ptr 2 p)/\σ'=σ/\kd=.pure) (by
  refine via (by kernel_rfl:(Q (D.ptr 2 p)/\Q σ/\Q Kd.pure)=_) ?_
  exact⟨rfl,rfl,rfl⟩)
 exact h.op
theorem w1_ok(p:Nat)(σ:St):Ai PP (oW 1) [.ptr 2 p] σ (.ptr 2 p) σ:=by
 obtain⟨_,d,σ',kd,⟨rfl,rfl,rfl⟩,h⟩:=Ci (P:=PP) (im:=[]) (s:=.z) (o:=oW 1) (ds:=[.ptr 2 p]) (σ:=σ) (K:=fun _ d' σ' kd=>d'=(.ptr 2 p)/\σ'=σ/\kd=.pure) (by
  refine via (by kernel_rfl:(Q (D.ptr 2 p)/\Q σ/\Q Kd.pure)=_) ?_
  exact⟨rfl,rfl,rfl⟩)
 exact h.op
theorem w10_ok(p:Nat)(σ:St):Ai PP (oW 10) [.ptr 2 p] σ (.ptr 2 p) σ:=by
 obtain⟨_,d,σ',kd,⟨rfl,rfl,rfl⟩,h⟩:=Ci (P:=PP) (im:=[]) (s:=.z) (o:=oW 10) (ds:=[.ptr 2 p]) (σ:=σ) (K:=fun _ d' σ' kd=>d'=(.ptr 2 p)/\σ'=σ/\kd=.pure) (by
  refine via (by kernel_rfl:(Q (D.ptr 2 p)/\Q σ/\Q Kd.pure)=_) ?_
  exact⟨rfl,rfl,rfl⟩)
 exact h.op
theorem w2_ok(c:Val)(L:List D)(p:Nat)(g0:D)(T:List (Option (List D)))(h:L[p]?=some g0):Ai PP (oW 2) [.ptr 2 p] (AT c L T) g0 (AT c L T):=by
 obtain⟨_,d,σ',kd,⟨rfl,rfl,rfl⟩,h⟩:=Ci (P:=PP) (im:=[]) (s:=.m g0 .z) (o:=oW 2) (ds:=[.ptr 2 p]) (σ:=(AT c L T)) (K:=fun _ d' σ' kd=>d'=g0/\σ'=(AT c L T)/\kd=.load 2 p 1) (by
  refine via (by kernel_rfl:(L[p]?=some g0/\Q g0/\Q (AT c L T)/\Q (Kd.load 2 p 1))=_) ?_
  exact⟨h,rfl,rfl,rfl⟩)
 exact h.op
theorem w3_ok(x:Int)(σ:St):Ai PP (oW 3) [di x] σ (di x) σ:=by
 obtain⟨_,d,σ',kd,⟨rfl,rfl,rfl⟩,h⟩:=Ci (P:=PP) (im:=[]) (s:=.z) (o:=oW 3) (ds:=[di x]) (σ:=σ) (K:=fun _ d' σ' kd=>d'=(di x)/\σ'=σ/\kd=.pure) (by
  refine via (by kernel_rfl:(Q (di x)/\Q σ/\Q Kd.pure)=_) ?_
  exact⟨rfl,rfl,rfl⟩)
 exact h.op
theorem w4_ok(x:Int)(σ:St):Ai PP (oW 4) [di x] σ (.v (lE x)) σ:=by
 obtain⟨_,d,σ',kd,⟨rfl,rfl,rfl⟩,h⟩:=Ci (P:=PP) (im:=[]) (s:=.z) (o:=oW 4) (ds:=[di x]) (σ:=σ) (K:=fun _ d' σ' kd=>d'=(.v (lE x))/\σ'=σ/\kd=.pure) (by
  refine via (by kernel_rfl:(D.v (V.agg [vi x,V.list []])=D.v (lE x)/\Q σ/\Q Kd.pure)=_) ?_
  exact⟨rfl,rfl,rfl⟩)
 exact h.op
theorem w6_ok(σ:St):Ai PP (oW 6) [.v zE] σ (.v (.list [zE])) σ:=by
 obtain⟨_,d,σ',kd,⟨rfl,rfl,rfl⟩,h⟩:=Ci (P:=PP) (im:=[]) (s:=.z) (o:=oW 6) (ds:=[.v zE]) (σ:=σ) (K:=fun _ d' σ' kd=>d'=(.v (.list [zE]))/\σ'=σ/\kd=.pure) (by
  refine via (by kernel_rfl:(Q (D.v (V.list [zE]))/\Q σ/\Q Kd.pure)=_) ?_
  exact⟨rfl,rfl,rfl⟩)
 exact h.op
theorem w5a_ok(q n:Nat)(σ:St):Ai PP (oW 5) [.arr q 0 n] σ (di n) σ:=by
 obtain⟨_,d,σ',kd,⟨rfl,rfl,rfl⟩,h⟩:=Ci (P:=PP) (im:=[]) (s:=.z) (o:=oW 5) (ds:=[.arr q 0 n]) (σ:=σ) (K:=fun _ d' σ' kd=>d'=(di n)/\σ'=σ/\kd=.pure) (by
  refine via (by kernel_rfl:(Q (di (n:Int))/\Q σ/\Q Kd.pure)=_) ?_
  exact⟨rfl,rfl,rfl⟩)
 exact h.op
theorem w5n_ok(σ:St):Ai PP (oW 5) [.v .nils] σ (di 0) σ:=by
 obtain⟨_,d,σ',kd,⟨rfl,rfl,rfl⟩,h⟩:=Ci (P:=PP) (im:=[]) (s:=.z) (o:=oW 5) (ds:=[.v .nils]) (σ:=σ) (K:=fun _ d' σ' kd=>d'=(di 0)/\σ'=σ/\kd=.pure) (by
  refine via (by kernel_rfl:(Q (di 0)/\Q σ/\Q Kd.pure)=_) ?_
  exact⟨rfl,rfl,rfl⟩)
 exact h.op
theorem w8a_ok(q n j:Nat)(σ:St)(h:j<n):Ai PP (oW 8) [.arr q 0 n,di j] σ (.ptr q (0+Int.toNat (j:Int)*2)) σ:=by
 obtain⟨_,d,σ',kd,⟨rfl,rfl,rfl⟩,h⟩:=Ci (P:=PP) (im:=[]) (s:=.z) (o:=oW 8) (ds:=[.arr q 0 n,di j]) (σ:=σ) (K:=fun _ d' σ' kd=>d'=(.ptr q (0+Int.toNat (j:Int)*2))/\σ'=σ/\kd=.pure) (by
  refine via (by kernel_rfl:(0<=(j:Int)/\(j:Int)<(n:Int)/\Q (D.ptr q (0+Int.toNat (j:Int)*2))/\Q σ/\Q Kd.pure)=_) ?_
  exact⟨by omega,by omega,rfl,rfl,rfl⟩)
 exact h.op
theorem w7_ok(c:Val)(L:List D)(Cc:List D)(n:Nat)(hn:n<=1000)(hC:Cc.length=n*2):Ai PP (oW 7) [.gro 4 n 2,.v (.list [zE])] (AT c L [some Cc]) (.gro 5 (n+1) 2) (AT c L [none,some (Cc++[di 0,.v .nils])]):=by
 obtain⟨_,d,σ',kd,⟨rfl,rfl,rfl⟩,h⟩:=Ci (P:=PP) (im:=[]) (s:=.z) (o:=oW 7) (ds:=[.gro 4 n 2,.v (.list [zE])]) (σ:=(AT c L [some Cc])) (K:=fun _ d' σ' kd=>d'=(.gro 5 (n+1) 2)/\σ'=(AT c L [none,some (Cc++[di 0,.v .nils])])/\kd=.eff) (by
  refine via (by kernel_rfl:(length Cc=n*2/\[zE]≠ []/\(∀(y:V),y∈ [zE]->V.size y=2)/\Ar (n+length (zE::nV)) 32/\D.gro 5 (n+length (zE::nV)) 2=D.gro 5 (n+1) 2/\St.mk [some [di 0,dn],some [di c.n,D.arr 2 0 c.kids.length],some L,some [di c.n,D.arr 2 0 c.kids.length],none,some (Cc++[di 0,dn])] []=AT c L [none,some (Cc++[di 0,dn])]/\Q Kd.eff)=_) ?_
  exact⟨hC,by simp,fun y hy=>by rw[mem_singleton.1 hy];rfl,⟨by simp only[length_cons,length_nil];omega,by simp only[length_cons,length_nil];omega⟩,rfl,rfl,rfl⟩)
 exact h.op
theorem w7n_ok(c:Val)(L:List D):Ai PP (oW 7) [.v .nils,.v (.list [zE])] (AT c L []) (.gro 4 1 2) (AT c L [some [di 0,.v .nils]]):=by
 obtain⟨_,d,σ',kd,⟨rfl,rfl,rfl⟩,h⟩:=Ci (P:=PP) (im:=[]) (s:=.h .g .z) (o:=oW 7) (ds:=[.v .nils,.v (.list [zE])]) (σ:=(AT c L [])) (K:=fun _ d' σ' kd=>d'=(.gro 4 1 2)/\σ'=(AT c L [some [di 0,.v .nils]])/\kd=.eff) (by
  refine via (by kernel_rfl:([zE]≠ []/\(∀(y:V),y∈ [zE]->V.size y=2)/\Ar 1 32/\Q (D.gro 4 1 2)/\St.mk [some [di 0,dn],some [di c.n,D.arr 2 0 c.kids.length],some L,some [di c.n,D.arr 2 0 c.kids.length],some [di 0,dn]] []=AT c L [some [di 0,dn]]/\Q Kd.eff)=_) ?_
  exact⟨by simp,fun y hy=>by rw[mem_singleton.1 hy];rfl,⟨by decide,by decide⟩,rfl,rfl,rfl⟩)
 exact h.op
theorem w9_ok(c:Val)(L:List D)(Cc:List D)(j:Nat)(x:Int)(hC:j+2<=Cc.length):Ai PP (oW 9) [.ptr 5 j,.v (lE x)] (AT c L [none,some Cc]) .undef (AT c L [none,some (Cc.take j++[di x,.v (.list [])]++Cc.drop (j+2))]):=by
 obtain⟨_,d,σ',kd,⟨rfl,rfl,rfl⟩,h⟩:=Ci (P:=PP) (im:=[]) (s:=.h .ww .z) (o:=oW 9) (ds:=[.ptr 5 j,.v (lE x)]) (σ:=(AT c L [none,some Cc])) (K:=fun _ d' σ' kd=>d'=.undef/\σ'=(AT c L [none,some (Cc.take j++[di x,.v (.list [])]++Cc.drop (j+2))])/\kd=.eff) (by
  refine via (by kernel_rfl:(j+2<=length Cc/\Q D.undef/\St.mk [some [di 0,dn],some [di c.n,D.arr 2 0 c.kids.length],some L,some [di c.n,D.arr 2 0 c.kids.length],none,some (take j Cc++[di x,D.v (V.list [])]++List.drop (j+2) Cc)] []=AT c L [none,some (take j Cc++[di x,D.v (V.list [])]++List.drop (j+2) Cc)]/\Q Kd.eff)=_) ?_
  exact⟨hC,rfl,rfl,rfl⟩)
 exact h.op
theorem w9n_ok(c:Val)(L:List D)(x:Int):Ai PP (oW 9) [.ptr 4 0,.v (lE x)] (AT c L [some [di 0,.v .nils]]) .undef (AT c L [some [di x,.v (.list [])]]):=by
 obtain⟨_,d,σ',kd,⟨rfl,rfl,rfl⟩,h⟩:=Ci (P:=PP) (im:=[]) (s:=.z) (o:=oW 9) (ds:=[.ptr 4 0,.v (lE x)]) (σ:=(AT c L [some [di 0,.v .nils]])) (K:=fun _ d' σ' kd=>d'=.undef/\σ'=(AT c L [some [di x,.v (.list [])]])/\kd=.eff) (by
  refine via (by kernel_rfl:(Q D.undef/\St.mk [some [di 0,dn],some [di c.n,D.arr 2 0 c.kids.length],some L,some [di c.n,D.arr 2 0 c.kids.length],some [di x,D.v (V.list [])]] []=AT c L [some [di x,D.v (V.list [])]]/\Q Kd.eff)=_) ?_
  exact⟨rfl,rfl,rfl⟩)
 exact h.op
theorem w11_ok(c:Val)(L:List D)(p q j:Nat)(T:List (Option (List D)))(hp:p<L.length):Ai PP (oW 11) [.ptr 2 p,.gro q j 2] (AT c L T) .undef (AT c (L.set p (.gro q j 2)) T):=by
 obtain⟨_,d,σ',kd,⟨rfl,rfl,rfl⟩,h⟩:=Ci (P:=PP) (im:=[]) (s:=.w .z) (o:=oW 11) (ds:=[.ptr 2 p,.gro q j 2]) (σ:=(AT c L T)) (K:=fun _ d' σ' kd=>d'=.undef/\σ'=(AT c (L.set p (.gro q j 2)) T)/\kd=.eff) (by
  refine via (by kernel_rfl:(p<length L/\Q D.undef/\St.mk (some [di 0,dn]::some [di c.n,D.arr 2 0 c.kids.length]::some (List.set L p (D.gro q j 2))::some [di c.n,D.arr 2 0 c.kids.length]::[]++T) []=AT c (List.set L p (D.gro q j 2)) T/\Q Kd.eff)=_) ?_
  exact⟨hp,rfl,rfl,rfl⟩)
 exact h.op
theorem w6_lit(ds:List D)(σ:St):Ai PP (oW 6) ds σ (.v (.list [zE])) σ:=by
 refine opOK_lit (fun g a=>?_) (w6_ok σ)
 have e:(oW 6).op.operands.toList=[.const (.agg #[.int .i64 0,.slice none 0 0])]:=by kernel_rfl
 rw[e]
 simp only[map_cons,map_nil,Act.eval,Ac,Ae,BZ]
 refine⟨_,_,rfl,⟨[.int .i64 0,.slice none 0 0],?_,rfl⟩,rfl⟩
 simp only[repA,repC]
 exact⟨_,_,rfl,rfl,rfl,_,_,rfl,rfl,rfl,rfl⟩
theorem with_reg{C:Ent->Ent->Prop}{R:List D->St->Prop}{ks:List KI}(c:Val)(p:Nat)(L:List D)(hp:p<L.length)(x:Int)(j:Nat)(g0:D)(T0 T1 T2:List (Option (List D)))(q1:Nat)(hq:4+T0.length<=q1)(ws:List Int)(kk:Int)
  (h5:∀τ,Ai PP (oW 5) [g0] τ (di j) τ) (h7:Ai PP (oW 7) [g0,.v (.list [zE])] (AT c (L.set p g0) T0) (.gro q1 (j+1) 2) (AT c (L.set p g0) T1))
  (h9:∀M,Ai PP (oW 9) [.ptr q1 (0+Int.toNat (j:Int)*2),.v (lE x)] (AT c M T1) .undef (AT c M T2))
  (hk:A2 C PP R ks (mkE 46 [(8,.ptr 0 0),(9,.ptr 3 0),(10,.ptr 2 p),(12,di x),(28,dIs ws),(29,di ws.length),(30,di kk),(34,.ptr 2 p),(35,.ptr 2 p),(36,g0),(37,di x),(38,.v (lE x)),(39,di j),(40,.v (.list [zE])),(41,.gro q1 (j+1) 2),(42,.ptr q1 (0+Int.toNat (j:Int)*2)),(43,.ptr 2 p)]) (AT c (L.set p (.gro q1 (j+1) 2)) T2)):
  A2 C PP R (.code (sub AQ [1,1,1,1,1,0,1,0,0,1,1,0,0,1])::ks) (mkE 46 [(8,.ptr 0 0),(9,.ptr 3 0),(10,.ptr 2 p),(12,di x),(28,dIs ws),(29,di ws.length),(30,di kk)]) (AT c (L.set p g0) T0):=by
 have hx:sub AQ [1,1,1,1,1,0,1,0,0,1,1,0,0,1]=.region 8 opsW true:=by kernel_rfl
 rw[hx]
 have h11:∀T,Ai PP (oW 11) [.ptr 2 p,.gro q1 (j+1) 2] (AT c (L.set p g0) T) .undef (AT c (L.set p (.gro q1 (j+1) 2)) T):=fun T=>by
  have:=w11_ok c (L.set p g0) p q1 (j+1) T (by rw[length_set];exact hp)
  rwa[List.set_set] at this
 have h2:=w2_ok c (L.set p g0) p g0 T0 (by rw[List.getElem?_set_self hp])
 let sts:Bool->List St:=fun b=>match b with
  |false=>[AT c (L.set p g0) T0,AT c (L.set p g0) T1,AT c (L.set p (.gro q1 (j+1) 2)) T1]
  |true=>[σbad,AT c (L.set p g0) T2,AT c (L.set p (.gro q1 (j+1) 2)) T2]
 have h8:∀τ,Ai PP (oW 8) [.gro q1 (j+1) 2,di j] τ (.ptr q1 (0+Int.toNat (j:Int)*2)) τ:=fun τ=>opOK_see (.cons .gro (.cons (.same _) .nil)) (w8a_ok q1 (j+1) j τ (by omega))
 refine G7 mixed sts 9 (vals:=[.ptr 2 p,.ptr 2 p,g0,di x,.v (lE x),di j,.v (.list [zE]),.gro q1 (j+1) 2,.ptr q1 (0+Int.toNat (j:Int)*2),.undef,.ptr 2 p,.undef]) (j':=2) (σ':=AT c (L.set p (.gro q1 (j+1) 2)) T2) (effs:=[(false,none),(false,none),(false,some 0),(false,none),(false,none),(false,none),(false,none),(true,none),(false,none),(false,none),(false,none),(true,none)]) rfl (by rw[BM];rfl) ?_ (by kernel_rfl) hk
 rw[opsW_list]
 have en:∀{a b:List D},a=b->F5 PP opsW sts 9 [] a 2 [] [] b 2:=fun h=>h▸ .nil
 have e:∀{a b:List D} {o:Oper} {s s':St} {d:D},a=b->Ai PP o b s d s'->Ai PP o a s d s':=fun h k=>h▸k
 refine .quiet (d:=.ptr 2 p) (by rw[BM];decide) (by kernel_rfl) (fun b s _=>e (by kernel_rfl) (w0_ok p s)) ?_
 refine .quiet (d:=.ptr 2 p) (by rw[BM];decide) (by kernel_rfl) (fun b s _=>e (by kernel_rfl) (w1_ok p s)) ?_
 refine .quietW (d:=g0) 0 (by rw[BM];decide) (by kernel_rfl) (fun b k s hk0 hs=>?_) ?_
 ·have hk0:k=0:=by omega
  subst hk0
  cases b with
  |false=>simp[sts] at hs;subst hs;exact e (by kernel_rfl) h2
  |true=>simp[sts] at hs;subst hs;exact opOK_bad
 refine .quiet (d:=di x) (by rw[BM];decide) (by kernel_rfl) (fun b s _=>e (by kernel_rfl) (w3_ok x s)) ?_
 refine .quiet (d:=.v (lE x)) (by rw[BM];decide) (by kernel_rfl) (fun b s _=>e (by kernel_rfl) (w4_ok x s)) ?_
 refine .quiet (d:=di j) (by rw[BM];decide) (by kernel_rfl) (fun b s _=>e (by kernel_rfl) (h5 s)) ?_
 refine .quiet (d:=.v (.list [zE])) (by rw[BM];decide) (by kernel_rfl) (fun b s _=>w6_lit _ s) ?_
 refine .eff (d:=.gro q1 (j+1) 2) (by rw[BM];decide) (by kernel_rfl) (fun b s hs _=>?_) ?_
 ·cases b with
  |false=>simp[sts] at hs;subst hs;exact⟨_,rfl,e (by kernel_rfl) h7⟩
  |true=>simp[sts] at hs;subst hs;exact⟨_,rfl,opOK_bad⟩
 refine .quiet (d:=.ptr q1 (0+Int.toNat (j:Int)*2)) (by rw[BM];decide) (by kernel_rfl) (fun b s _=>e (by kernel_rfl) (h8 s)) ?_
 refine .free (d:=.undef) (by rw[BM];rfl) (by kernel_rfl) (fun k s hs=>?_) ?_
 ·match k,hs with
  |0,hs=>simp[sts] at hs;subst hs;exact⟨_,rfl,e (b:=[.ptr q1 (0+Int.toNat (j:Int)*2),.v (lE x)]) (by kernel_rfl) (opOK_out (by simp only[length_append,length_cons,length_nil];omega))⟩
  |1,hs=>simp[sts] at hs;subst hs;exact⟨_,rfl,e (by kernel_rfl) (h9 _)⟩
  |2,hs=>simp[sts] at hs;subst hs;exact⟨_,rfl,e (by kernel_rfl) (h9 _)⟩
  |k+3,hs=>simp[sts] at hs
 refine .quiet (d:=.ptr 2 p) (by rw[BM];decide) (by kernel_rfl) (fun b s _=>e (by kernel_rfl) (w10_ok p s)) ?_
 refine .eff (d:=.undef) (by rw[BM];decide) (by kernel_rfl) (fun b s hs _=>?_) (en (by kernel_rfl))
 cases b with
 |false=>simp[sts] at hs;subst hs;exact⟨_,rfl,e (by kernel_rfl) (h11 _)⟩
 |true=>simp[sts] at hs;subst hs;exact⟨_,rfl,e (by kernel_rfl) (h11 _)⟩
theorem flat_setN:∀(l:List Val) (i:Nat) (x:Val) (s:Int),l[i]?=some x->(Aa (l.map eV)).set (i*2) (di s)=Aa ((l.set i (.mk s x.kids)).map eV)
 |[],_,_,_,h=>by simp at h
 |y::l,0,x,s,h=>by
  simp at h;subst h
  rw[A5,set_cons_zero,A5];rfl
 |y::l,i+1,x,s,h=>by
  have h':l[i]?=some x:=by simpa using h
  rw[A5,set_cons_succ,A5, ←flat_setN l i x s h',show(i+1)*2=i*2+2 by omega]
  rfl
theorem flat_setK:∀(l:List Val) (i:Nat) (x:Val) (ys:List Val),l[i]?=some x->(Aa (l.map eV)).set (i*2+1) (dVs ys)=Aa ((l.set i (.mk x.n ys)).map eV)
 |[],_,_,_,h=>by simp at h
 |y::l,0,x,s,h=>by
  simp at h;subst h
  rw[A5,set_cons_zero,A5];rfl
 |y::l,i+1,x,s,h=>by
  have h':l[i]?=some x:=by simpa using h
  rw[A5,set_cons_succ,A5, ←flat_setK l i x s h',show(i+1)*2+1=(i*2+1)+2 by omega]
  rfl
theorem lE_map(ws:List Int):ws.map lE=(ws.map lf).map eV:=by
 rw[map_map]
 refine List.map_congr_left fun x _=>?_
 show lE x=eV (lf x)
 rw[AN];rfl
def BA(l:List Val)(s0 x:Val)(s:Int)(i:Nat)(ws:List Int):List Val:=(l.set 0 (.mk s s0.kids)).set i (.mk x.n (ws.map lf))
theorem cv_trans{e e1 e2:List D}{σ σ1 σ2:St}(h1:Cv e σ e1 σ1)(h2:Cv e1 σ1 e2 σ2):Cv e σ e2 σ2:=fun E g a w hf=>by
 obtain⟨g1,hf1⟩:=h1 E g a w hf
 exact h2 E g1 a w hf1
theorem cv_cellGro{σ:St}{p q i sz:Nat}{cs:List D}{xs:List V}(hsz:0<sz)(hp:σ.H[p]?=some (some cs))(hq:σ.H[q]?=some (some (Aa xs)))(hpq:p≠q)(hi:cs[i]?=some (.gro q xs.length sz))(hx:∀x∈xs,x.size=sz)(e:List D):
  Cv e σ e ⟨(σ.H.set q none).set p (some (cs.set i (.v (.list xs)))),σ.own⟩:=by
 have hpl:=(List.getElem?_eq_some_iff.1 hp).1
 have hil:=(List.getElem?_eq_some_iff.1 hi).1
 have h1:Cv e σ e ⟨σ.H.set p (some (cs.set i (.arr q 0 xs.length))),σ.own⟩:=Dr (σ:=σ) (q:=p) (cs:=cs) (cs':=cs.set i (.arr q 0 xs.length)) hp (fun g us hr=>by
  obtain⟨u,hu,hru⟩:=B0 hr hi
  have:=Cu hr i (d:=.arr q 0 xs.length) (u:=u) (DS.rep .gro hru)
  rwa[Dm hu] at this) (fun h c hc=>by
  rcases mem_or_eq_of_mem_set hc with h2|h2
  ·exact h c h2
  ·rw[h2];rfl) e
 have h2:=GO (σ:=⟨σ.H.set p (some (cs.set i (.arr q 0 xs.length))),σ.own⟩) (p:=p) (q:=q) (i:=i) (cs:=cs.set i (.arr q 0 xs.length)) (xs:=xs) hsz (by simp[hpl]) (by rw[List.getElem?_set_ne hpq];exact hq) hpq (by simp[hil]) hx e
 have h3:=cv_trans h1 h2
 simp only[List.set_set] at h3
 rwa[List.set_comm _ _ hpq,List.set_set] at h3
abbrev stWe(c:Val)(xs:List Val)(T:List (Option (List D))):St:=⟨[some [di 0,.v .nils],some [di c.n,.arr 2 0 c.kids.length],none,some [di c.n,dVs xs]]++T,[]⟩
theorem cv_withN(c:Val)(xs:List Val)(L:List D)(hL:L=Aa (xs.map eV))(hx:xs.length=c.kids.length)(T:List (Option (List D)))(e:List D):Cv e (AT c L T) e (stWe c xs T):=by
 have h:=GO (σ:=AT c L T) (p:=3) (q:=2) (i:=1) (sz:=2) (cs:=[di c.n,.arr 2 0 c.kids.length]) (xs:=xs.map eV) (by decide) rfl (by rw[hL];rfl) (by decide) (by rw[length_map,hx];rfl) (Dl _) e
 exact h
theorem cv_withG(c:Val)(xs:List Val)(L:List D)(p:Nat)(hp:p<L.length)(ws:List Int)(hL:L.set p (.v (.list (ws.map lE)))=Aa (xs.map eV))(hx:xs.length=c.kids.length)(e:List D):
  Cv e (AT c (L.set p (.gro 4 ws.length 2)) [some (Aa (ws.map lE))]) e (stWe c xs [none]):=by
 have h:=cv_cellGro (σ:=AT c (L.set p (.gro 4 ws.length 2)) [some (Aa (ws.map lE))]) (p:=2) (q:=4) (i:=p) (sz:=2) (cs:=L.set p (.gro 4 ws.length 2)) (xs:=ws.map lE) (by decide) rfl rfl (by decide) (by rw[List.getElem?_set_self hp,length_map]) (fun y hy=>by obtain⟨x,_,rfl⟩:=mem_map.1 hy;rfl) e
 rw[List.set_set] at h
 exact cv_trans h (cv_withN c xs _ hL hx [none] e)
theorem rens_set{ρ τ:Nat->Nat}:∀(L:List D) (p:Nat) (d:D),D.pls L=true->D.rens ρ τ (L.set p d)=L.set p (d.ren ρ τ)
 |[],_,_,_=>by simp[D.rens]
 |x::L,0,d,h=>by
  simp only[D.pls,Bool.and_eq_true] at h
  rw[set_cons_zero,D.rens,Bz h.2,set_cons_zero]
 |x::L,p+1,d,h=>by
  simp only[D.pls,Bool.and_eq_true] at h
  rw[set_cons_succ,D.rens,rens_set L p d h.2,ren_plE x h.1,set_cons_succ]
theorem okNs_set{n:Nat}{ts:List Nat}:∀(L:List D) (p:Nat) (d:D),D.pls L=true->d.okN n ts=true->D.okNs n ts (L.set p d)=true
 |[],_,_,_,_=>by simp[D.okNs]
 |x::L,0,d,h,hd=>by
  simp only[D.pls,Bool.and_eq_true] at h
  rw[set_cons_zero,D.okNs,hd,CJ h.2];rfl
 |x::L,p+1,d,h,hd=>by
  simp only[D.pls,Bool.and_eq_true] at h
  rw[set_cons_succ,D.okNs,okN_plE x h.1,okNs_set L p d h.2 hd];rfl
noncomputable abbrev eWi(p:Nat)(ws:List Int)(k:Nat):List D:=mkE 46 [(8,.ptr 0 0),(9,.ptr 3 0),(10,.ptr 2 p),(28,dIs ws),(29,di ws.length),(30,di k)]
theorem with_norm{R:List D->St->Prop}{ks:List KI}(c:Val)(L F:List D)(hL:D.pls L=true)(hF:D.pls F=true)(p n:Nat)(ws:List Int)(k:Nat)
  (h:A2 (CN 0) PP R ks (eWi p ws k) (AT c (L.set p (.gro 4 n 2)) [some F])):A2 (CN 0) PP R ks (eWi p ws k) (AT c (L.set p (.gro 5 n 2)) [none,some F]):=by
 refine FA (σ:=AT c (L.set p (.gro 5 n 2)) [none,some F]) (e':=eWi p ws k) (H':=(AT c (L.set p (.gro 4 n 2)) [some F]).H) (m:=0) (fun _ _ h=>h.2) (fun i=>if i<4 then i else i+1) (Nat.zero_le _) (fun i hi=>by omega) (fun i j _ _ h=>?_) (fun i cs hi=>?_) ?_ ?_ h
 ·have h:(if i<4 then i else i+1)=(if j<4 then j else j+1):=h
  split at h<;>split at h<;>omega
 ·match i,hi with
  |0,hi=>simp at hi;subst hi;exact⟨rfl,rfl⟩
  |1,hi=>simp at hi;subst hi;exact⟨rfl,rfl⟩
  |2,hi=>
   simp at hi;subst hi
   refine⟨?_,okNs_set L p _ hL rfl⟩
   rw[rens_set L p _ hL];rfl
  |3,hi=>simp at hi;subst hi;exact⟨rfl,rfl⟩
  |4,hi=>
   simp at hi;subst hi
   refine⟨?_,CJ hF⟩
   rw[Bz hF];rfl
  |i+5,hi=>simp at hi
 ·simp[mkE,D.okNs,D.okN]
 ·simp[mkE,D.rens,D.ren]
theorem with_tail(d:D)(σ':St)(c:Val)(L:List D)(T:List (Option (List D)))(p:Nat)(ws:List Int)(x:Int)(k:Nat)(hk:k<=1000)(d36 d39 d41 d42:D)
  (h:Rn PP Gt 0 d σ' [.lp (sub AQ [1,1,1,1,1,0,1,0,0]),.blk 0,.code (sub AQ [1,1,1,1,1,1])] (eWi p ws (k+1)) (AT c L T)):
  Rn PP Gt 0 d σ' [.blk 1,.code (sub AQ [1,1,1,1,1,0,1,0,0,1,1,1]),.lp (sub AQ [1,1,1,1,1,0,1,0,0]),.blk 0,.code (sub AQ [1,1,1,1,1,1])] (mkE 46 [(8,.ptr 0 0),(9,.ptr 3 0),(10,.ptr 2 p),(12,di x),(28,dIs ws),(29,di ws.length),(30,di k),(34,.ptr 2 p),(35,.ptr 2 p),(36,d36),(37,di x),(38,.v (lE x)),(39,d39),(40,.v (.list [zE])),(41,d41),(42,d42),(43,.ptr 2 p)]) (AT c L T):=by
 have h0:Rn PP Gt 0 d σ' ([.blk 1,.code (sub AQ [1,1,1,1,1,0,1,0,0,1,1,1]),.lp (sub AQ [1,1,1,1,1,0,1,0,0]),.blk 0,.code (sub AQ [1,1,1,1,1,1])]++[]) (mkE 46 [(8,.ptr 0 0),(9,.ptr 3 0),(10,.ptr 2 p),(12,di x),(28,dIs ws),(29,di ws.length),(30,di k)]) (AT c L T):=by
  refine code_vcR mixed 46 [4] (.l [ke 8,ke 9,ke 10,ke 28,ke 29,ch 30 (di (k+1:Nat))]) ?_
  refine via (by kernel_rfl:(di (wrap i64 ((k:Int)+1))=di (↑(k+1):Int)/\I0 Gt 0 d σ' [kl AQ [1,1,1,1,1,0,1,0,0],KI.blk 0,kc AQ [1,1,1,1,1,1]] (mkE 46 [(8,D.ptr 0 0),(9,D.ptr 3 0),(10,D.ptr 2 p),(28,dIs ws),(29,di (ws.length:Int)),(30,di (↑(k+1):Int))]) (AT c L T))=_) ?_
  exact⟨Af (by omega),⟨h⟩⟩
 refine run_mkE_app (L:=[(8,.ptr 0 0),(9,.ptr 3 0),(10,.ptr 2 p),(12,di x),(28,dIs ws),(29,di ws.length),(30,di k)]) (L2:=[(34,.ptr 2 p),(35,.ptr 2 p),(36,d36),(37,di x),(38,.v (lE x)),(39,d39),(40,.v (.list [zE])),(41,d41),(42,d42),(43,.ptr 2 p)]) (fun q hq=>?_) h0
 simp only[mem_cons,not_mem_nil,or_false] at hq
 rcases hq with rfl|rfl|rfl|rfl|rfl|rfl|rfl|rfl|rfl|rfl<;>simp[mkE]
theorem flat_lE_len(l:List Int):(Aa (l.map lE)).length=l.length*2:=by rw[lE_map,BO,length_map]
theorem with_loop(c:Val)(xs:List Val)(L:List D)(hpl:D.pls L=true)(p:Nat)(hp:p<L.length)(ws:List Int)(hw:ws.length<=900)(hL:L.set p (.v (.list (ws.map lE)))=Aa (xs.map eV))(hx:xs.length=c.kids.length)(n:Nat):∀k:Nat,ws.length- (k+1)=n->k<ws.length->
  Rn PP Gt 0 (dV (.mk c.n xs)) σ0 ([.lp (sub AQ [1,1,1,1,1,0,1,0,0]),.blk 0,.code (sub AQ [1,1,1,1,1,1])]++[]) (mkE 46 [(8,.ptr 0 0),(9,.ptr 3 0),(10,.ptr 2 p),(28,dIs ws),(29,di ws.length),(30,di (k+1:Nat))]) (AT c (L.set p (.gro 4 (k+1) 2)) [some (Aa ((ws.take (k+1)).map lE))]):=by
 induction n with
 |zero=>
  intro k hn hk
  refine lv 46 [4] (.f<|.h (.q 10 0)<|.h (.cs (stWe c xs [none])) .r) (decide ((↑(k+1):Int)<(ws.length:Int))=false/\(∀(e:List D) (E:Ent) (g:Gh) (a:Act) (w:World),FI E g (St.mk [some [di 0,dn],some [di c.n,D.arr 2 0 c.kids.length],some (List.set L p (D.gro 4 (k+1) 2)),some [di c.n,D.arr 2 0 c.kids.length],some (Aa (map lE (take (k+1) ws)))] []) e a w->∃g',FI E g' (stWe c xs [none]) e a w)/\D.v (V.agg [vi c.n,V.list (map eV xs)])=dV (Val.mk c.n xs)) ?_
  have e:k+1=ws.length:=by omega
  rw[e,take_of_length_le (Nat.le_refl _)]
  exact⟨decide_eq_false (by omega),fun e=>cv_withG c xs L p hp ws hL hx e,rfl⟩
 |succ n ih=>
  intro k hn hk
  obtain⟨x,hx1⟩:∃x,ws[k+1]?=some x:=⟨_,getElem?_eq_getElem (show k+1<ws.length by omega)⟩
  refine lv 46 [4] (.t<|.x (vi x)<|.h (.q 7 2)<|.h (.s [ke 8,ke 9,ke 10,ke 28,ke 29,ke 30,ke 33]) .z) (decide ((↑(k+1):Int)<(ws.length:Int))=true/\0<=(↑(k+1):Int)/\(map vi ws)[Int.toNat (↑(k+1):Int)]?=some (vi x)/\Nv.It (BF (CN 0) PP (fun env σ1=>A8 PP Gt env σ1 (dV (Val.mk c.n xs)) σ0) [kc AQ [1,1,1,1,1,0,1,0,0,1,1,0,0,1],KI.blk 1,kc AQ [1,1,1,1,1,0,1,0,0,1,1,1],kl AQ [1,1,1,1,1,0,1,0,0],KI.blk 0,kc AQ [1,1,1,1,1,1]] (AD (sub AQ [1,1,1,1,1,0,1,0,0,1,1,0,0,0])) (List.drop 2 (AD (sub AQ [1,1,1,1,1,0,1,0,0,1,1,0,0,0])).toList) (mkE 46 [(8,D.ptr 0 0),(9,D.ptr 3 0),(10,D.ptr 2 p),(28,dIs ws),(29,di (ws.length:Int)),(30,di (↑(k+1):Int)),(33,di x)]) (AT c (List.set L p (D.gro 4 (k+1) 2)) [some (Aa (map lE (take (k+1) ws)))]))) ?_
  refine⟨decide_eq_true (by omega),by omega,Ao hx1,⟨?_⟩⟩
  refine rest_vc (ks:=[]) (T:=[.code (sub AQ [1,1,1,1,1,0,1,0,0,1,1,0,0,1]),.blk 1,.code (sub AQ [1,1,1,1,1,0,1,0,0,1,1,1]),.lp (sub AQ [1,1,1,1,1,0,1,0,0]),.blk 0,.code (sub AQ [1,1,1,1,1,1])]) mixed (linkN 0) 0 (fun _ _ h=>h.2) 46 [4] 7 2 (.l [ke 8,ke 9,ke 10,ch 12 (di x),ke 28,ke 29,ke 30]) ?_
  refine via (by kernel_rfl:(Q (di x)/\I0 Gt 0 (dV (Val.mk c.n xs)) σ0 [kc AQ [1,1,1,1,1,0,1,0,0,1,1,0,0,1],KI.blk 1,kc AQ [1,1,1,1,1,0,1,0,0,1,1,1],kl AQ [1,1,1,1,1,0,1,0,0],KI.blk 0,kc AQ [1,1,1,1,1,1]] (mkE 46 [(8,D.ptr 0 0),(9,D.ptr 3 0),(10,D.ptr 2 p),(12,di x),(28,dIs ws),(29,di (ws.length:Int)),(30,di (↑(k+1):Int))]) (AT c (List.set L p (D.gro 4 (k+1) 2)) [some (Aa (map lE (take (k+1) ws)))]))=_) ?_
  have hk1:=(List.getElem?_eq_some_iff.1 hx1).1
  have ht:(ws.take (k+1+1)).map lE=(ws.take (k+1)).map lE++[lE x]:=by rw[take_add_one (i:=k+1),hx1];simp
  have hfl:(Aa ((ws.take (k+1)).map lE)).length=(k+1)*2:=by rw[flat_lE_len,length_take];omega
  have hih:=ih (k+1) (by omega) hk1
  have hF:(Aa ((ws.take (k+1)).map lE)++[di 0,.v .nils]).take (0+Int.toNat ((k+1:Nat):Int)*2)++[di x,.v (.list [])]++(Aa ((ws.take (k+1)).map lE)++[di 0,.v .nils]).drop (0+Int.toNat ((k+1:Nat):Int)*2+2)=Aa ((ws.take (k+1+1)).map lE):=by
   rw[show 0+Int.toNat ((k+1:Nat):Int)*2=(k+1)*2 by omega,List.take_left' hfl,drop_of_length_le (by rw[length_append,hfl];simp),append_nil,ht]
   simp only[Aa,List.flatMap_append,map_append];rfl
  refine⟨rfl,⟨with_reg c p L hp x (k+1) (.gro 4 (k+1) 2) [some (Aa ((ws.take (k+1)).map lE))] _ _ 5 (by simp) ws (k+1:Nat) (fun τ=>opOK_see (.cons .gro .nil) (w5a_ok 4 (k+1) τ)) (w7_ok c _ _ (k+1) (by omega) hfl) (fun M=>w9_ok c M _ _ x (by rw[length_append,hfl];simp only[length_cons,length_nil];omega)) ?_⟩⟩
  refine with_tail _ _ c _ _ p ws x (k+1) (by omega) _ _ _ _ ?_
  rw[hF]
  exact with_norm c L _ hpl (As _) p (k+1+1) ws (k+1+1) hih
theorem cv_cellNil{σ:St}{q i:Nat}{cs:List D}(hq:σ.H[q]?=some (some cs))(hi:cs[i]?=some (.v .nils))(e:List D):Cv e σ e ⟨σ.H.set q (some (cs.set i (.v (.list [])))),σ.own⟩:=
 Dr (σ:=σ) (q:=q) (cs:=cs) (cs':=cs.set i (.v (.list []))) hq (fun g us hr=>by
  obtain⟨u,hu,hru⟩:=B0 hr hi
  have:=Cu hr i (d:=.v (.list [])) (u:=u) (E1 hru)
  rwa[Dm hu] at this) (fun h c hc=>by
  rcases mem_or_eq_of_mem_set hc with h2|h2
  ·exact h c h2
  ·rw[h2];rfl) e
theorem withL_cells{l:List Val}{s0 x:Val}{k:Nat}(h0:l[0]?=some s0)(hx:l[1+k]?=some x)(s:Int)(ws:List Int):
  ((Aa (l.map eV)).set 0 (di s)).set ((1+k)*2+1) (.v (.list (ws.map lE)))=Aa ((BA l s0 x s (1+k) ws).map eV):=by
 have h1:=flat_setN l 0 s0 s h0
 rw[Nat.zero_mul] at h1
 rw[h1,lE_map]
 exact flat_setK _ (1+k) x _ (by rw[List.getElem?_set_ne (by omega)];exact hx)
theorem op_cpyA(c:Val)(hn:c.kids≠ [])(hc:c.size<=1000){o:Oper}{cl:Call}{fo:Operand}(ho:o.op=.call cl)(hc2:cl.callee=.value fo):Ai PP o [.v (.fn 206 [] []),dV c] ⟨[some [di 0,.v .nils]],[]⟩ (.dagg [di c.n,.arr 2 0 c.kids.length]) ⟨[some [di 0,.v .nils],some [di c.n,.arr 2 0 c.kids.length],some (Aa (c.kids.map eV))],[]⟩:=by
 have h:=Cr (σ:=⟨[some [di 0,.v .nils]],[]⟩) ho hc2 (fD:=.v (.fn 206 [] [])) rfl (ds:=[dV c]) [] id (cpyA_spec c hn (by omega)) (.cons (.ren (dc:=dV c) rfl) .nil) .nil (by simp) rfl (by simp) (by simp) (by simp[D.okN,D.okNs]) (by simp[okH,D.okN,D.okNs,Ag])
 have e1:D.rens (rho 1 []) id (Aa (c.kids.map eV))=Aa (c.kids.map eV):=Bz (As _)
 simpa[F1,Cy,EE,D.ren,D.rens,rho,e1] using h
theorem with_spec(c:Val)(hc:c.size<=1000)(s0 x:Val)(k:Nat)(h0:c.kids[0]?=some s0)(hx:c.kids[1+k]?=some x)(s:Int)(ws:List Int)(hw:ws.length<=900):
  Ab PP 169 [dV c,di s,di k,dIs ws] σ0 (dV (.mk c.n (BA c.kids s0 x s (1+k) ws))) σ0:=by
 have hk:=(List.getElem?_eq_some_iff.1 hx).1
 have hkl:=Val.length_le c.kids
 have hks:=c.size_eq
 have hww:i64.wrap (1+(k:Int))=((1+k:Nat):Int):=by rw[Aj (by omega) (by omega)];omega
 have hfl:(Aa (c.kids.map eV)).length=c.kids.length*2:=BO _
 have hp0:Nat.add (0+Int.toNat ((1+k:Nat):Int)*2) 1=(1+k)*2+1:=by show 0+Int.toNat ((1+k:Nat):Int)*2+1=_;omega
 have hne:c.kids≠ []:=by intro e;rw[e] at h0;simp at h0
 have hxl:(BA c.kids s0 x s (1+k) ws).length=c.kids.length:=by simp[BA]
 have hcl:=withL_cells h0 hx s ws
 have hw0:0<c.kids.length:=by omega
 cases ws with
 |nil=>
  refine sv Gt 46 [4] (.h (.oc (.dagg [di c.n,.arr 2 0 c.kids.length]) ⟨[some [di 0,.v .nils],some [di c.n,.arr 2 0 c.kids.length],some (Aa (c.kids.map eV))],[]⟩)<|.h (.q 2 5)<|.w<|.h (.q 4 2)<|.w<|.n<|.f<|.h (.q 10 0)<|.h (.cs (stWe c (BA c.kids s0 x s (1+k) []) [])) .r) ((∀(o:Oper) (c_1:Call) (fo:Operand),o.op=Op.call c_1->c_1.callee=Callee.value fo->Ai PP o [D.v (V.fn 206 [] []),dV c] (St.mk [some [di 0,dn]] []) (D.dagg [di c.n,D.arr 2 0 c.kids.length]) (St.mk [some [di 0,dn],some [di c.n,D.arr 2 0 c.kids.length],some (Aa (map eV c.kids))] []))/\iz 0<=0/\0<(c.kids.length:Int)/\0<length (Aa (map eV c.kids))/\0<=wrap i64 (1+(k:Int))/\wrap i64 (1+(k:Int))<(c.kids.length:Int)/\Nat.add (0+Int.toNat (wrap i64 (1+(k:Int)))*2) 1<length (List.set (Aa (map eV c.kids)) (Nat.add (0+Int.toNat 0*2) 0) (di s))/\decide (0<(length (map vi []):Int))=false/\(∀(e:List D) (E:Ent) (g:Gh) (a:Act) (w:World),FI E g (St.mk [some [di 0,dn],some [di c.n,D.arr 2 0 c.kids.length],some (List.set (List.set (Aa (map eV c.kids)) (Nat.add (0+Int.toNat 0*2) 0) (di s)) (Nat.add (0+Int.toNat (wrap i64 (1+(k:Int)))*2) 1) (evN [dV c,di s,di (k:Int),dIs [],D.v (V.ref (Ad c)),D.undef,D.undef,D.undef,D.ptr σ0.H.length 0,D.ptr (length (St.mk [some [di 0,dn],some [di c.n,D.arr 2 0 c.kids.length],some (Aa (map eV c.kids))] []).H) 0,D.ptr 2 (Nat.add (0+Int.toNat (wrap i64 (1+(k:Int)))*2) 1),D.undef,D.undef,dV c,D.dagg [di c.n,D.arr 2 0 c.kids.length],D.ptr (length (St.mk [some [di 0,dn],some [di c.n,D.arr 2 0 c.kids.length],some (Aa (map eV c.kids))] []).H) (Nat.add 0 1),D.arr 2 0 c.kids.length,di s,D.ptr 2 (0+Int.toNat 0*2),D.ptr 2 (Nat.add (0+Int.toNat 0*2) 0),D.ptr (length (St.mk [some [di 0,dn],some [di c.n,D.arr 2 0 c.kids.length],some (Aa (map eV c.kids))] []).H) (Nat.add 0 1),D.arr 2 0 c.kids.length,di (k:Int),D.v (V.int i64 (wrap i64 (1+(k:Int)))),D.ptr 2 (0+Int.toNat (wrap i64 (1+(k:Int)))*2),D.ptr 2 (Nat.add (0+Int.toNat (wrap i64 (1+(k:Int)))*2) 1),D.ptr 2 (Nat.add (0+Int.toNat (wrap i64 (1+(k:Int)))*2) 1),D.ptr 2 (Nat.add (0+Int.toNat (wrap i64 (1+(k:Int)))*2) 1),D.undef,D.undef,D.undef,D.undef,D.undef,D.undef,D.undef,D.undef,D.undef,D.undef,D.undef,D.undef,D.undef,D.undef,D.undef,D.undef,D.undef,D.undef] (Operand.const (Value.slice none 0 0)))),some [di c.n,D.arr 2 0 c.kids.length]] []) e a w->∃g',FI E g' (stWe c (BA c.kids s0 x s (1+k) []) []) e a w)/\D.v (V.agg [vi c.n,V.list (map eV (BA c.kids s0 x s (1+k) []))])=dV (Val.mk c.n (BA c.kids s0 x s (1+k) []))) ?_
  rw[hww,hp0]
  refine⟨fun o cl fo ho hc2=>op_cpyA c hne hc ho hc2,Int.le_refl _,by omega,by rw[hfl];omega,by omega,by omega,by rw[length_set,hfl];omega,rfl,fun e=>?_,rfl⟩
  refine cv_trans (cv_cellNil (σ:=AT c (((Aa (c.kids.map eV)).set 0 (di s)).set ((1+k)*2+1) (.v .nils)) []) (q:=2) (i:=(1+k)*2+1) rfl (by rw[List.getElem?_set_self (by rw[length_set,hfl];omega)]) e) ?_
  rw[List.set_set]
  exact cv_withN c _ _ hcl hxl [] e
 |cons y ws=>
  refine sv Gt 46 [4] (.h (.oc (.dagg [di c.n,.arr 2 0 c.kids.length]) ⟨[some [di 0,.v .nils],some [di c.n,.arr 2 0 c.kids.length],some (Aa (c.kids.map eV))],[]⟩)<|.h (.q 2 5)<|.w<|.h (.q 4 2)<|.w<|.n<|.t<|.x (vi y)<|.h (.q 7 2)<|.h (.s [ke 8,ke 9,ke 10,ke 28,ke 29,ke 30,ke 33]) .z) ((∀(o:Oper) (c_1:Call) (fo:Operand),o.op=Op.call c_1->c_1.callee=Callee.value fo->Ai PP o [D.v (V.fn 206 [] []),dV c] (St.mk [some [di 0,dn]] []) (D.dagg [di c.n,D.arr 2 0 c.kids.length]) (St.mk [some [di 0,dn],some [di c.n,D.arr 2 0 c.kids.length],some (Aa (map eV c.kids))] []))/\iz 0<=0/\0<(c.kids.length:Int)/\0<length (Aa (map eV c.kids))/\0<=wrap i64 (1+(k:Int))/\wrap i64 (1+(k:Int))<(c.kids.length:Int)/\Nat.add (0+Int.toNat (wrap i64 (1+(k:Int)))*2) 1<length (List.set (Aa (map eV c.kids)) (Nat.add (0+Int.toNat 0*2) 0) (di s))/\decide (0<(length (map vi (y::ws)):Int))=true/\iz 0<=0/\Q (some (vi y))/\Nv.It (BF (CN σ0.H.length) PP (fun env σ1=>A8 PP Gt env σ1 (dV (Val.mk c.n (BA c.kids s0 x s (1+k) (y::ws)))) σ0) [kc AQ [1,1,1,1,1,0,1,0,0,1,1,0,0,1],KI.blk 1,kc AQ [1,1,1,1,1,0,1,0,0,1,1,1],kl AQ [1,1,1,1,1,0,1,0,0],KI.blk 0,kc AQ [1,1,1,1,1,1]] (AD (sub AQ [1,1,1,1,1,0,1,0,0,1,1,0,0,0])) (List.drop 2 (AD (sub AQ [1,1,1,1,1,0,1,0,0,1,1,0,0,0])).toList) (mkE 46 [(8,D.ptr 0 0),(9,D.ptr 3 0),(10,D.ptr 2 (Nat.add (0+Int.toNat (wrap i64 (1+(k:Int)))*2) 1)),(28,dIs (y::ws)),(29,di (length (map vi (y::ws)):Int)),(30,di 0),(33,di y)]) (St.mk [some [di 0,dn],some [di c.n,D.arr 2 0 c.kids.length],some (List.set (List.set (Aa (map eV c.kids)) (Nat.add (0+Int.toNat 0*2) 0) (di s)) (Nat.add (0+Int.toNat (wrap i64 (1+(k:Int)))*2) 1) (dn)),some [di c.n,D.arr 2 0 c.kids.length]] []))) ?_
  rw[hww,hp0]
  refine⟨fun o cl fo ho hc2=>op_cpyA c hne hc ho hc2,Int.le_refl _,by omega,by rw[hfl];omega,by omega,by omega,by rw[length_set,hfl];omega,decide_eq_true (by simp only[length_map,length_cons];omega),Int.le_refl _,rfl,⟨?_⟩⟩
  obtain⟨L,hL⟩:∃L,L=(Aa (c.kids.map eV)).set 0 (di s):=⟨_,rfl⟩
  rw[←hL] at hcl
  have hpl:D.pls L=true:=by
   rw[hL]
   have h1:=flat_setN c.kids 0 s0 s h0
   rw[Nat.zero_mul] at h1
   rw[h1];exact As _
  have hpL:(1+k)*2+1<L.length:=by rw[hL,length_set,hfl];omega
  have hlp:=with_loop c _ L hpl ((1+k)*2+1) hpL (y::ws) hw hcl hxl _ 0 rfl (by simp)
  have hst:St.mk [some [di 0,D.v V.nils],some [di c.n,D.arr 2 0 c.kids.length],some (((Aa (c.kids.map eV)).set (Nat.add (0+Int.toNat 0*2) 0) (di s)).set ((1+k)*2+1) (D.v V.nils)),some [di c.n,D.arr 2 0 c.kids.length]] []=AT c (L.set ((1+k)*2+1) (.v .nils)) []:=by rw[hL];rfl
  rw[hst]
  refine rest_vc (ks:=[]) (T:=[.code (sub AQ [1,1,1,1,1,0,1,0,0,1,1,0,0,1]),.blk 1,.code (sub AQ [1,1,1,1,1,0,1,0,0,1,1,1]),.lp (sub AQ [1,1,1,1,1,0,1,0,0]),.blk 0,.code (sub AQ [1,1,1,1,1,1])]) mixed (linkN 0) 0 (fun _ _ h=>h.2) 46 [4] 7 2 (.l [ke 8,ke 9,ke 10,ch 12 (di y),ke 28,ch 29 (di (y::ws).length),ch 30 (di (0:Nat))]) ?_
  refine via (by kernel_rfl:(Q (di y)/\di (length (map vi (y::ws)):Int)=di (length (y::ws):Int)/\di 0=di (↑0:Int)/\I0 Gt 0 (dV (Val.mk c.n (BA c.kids s0 x s (1+k) (y::ws)))) σ0 [kc AQ [1,1,1,1,1,0,1,0,0,1,1,0,0,1],KI.blk 1,kc AQ [1,1,1,1,1,0,1,0,0,1,1,1],kl AQ [1,1,1,1,1,0,1,0,0],KI.blk 0,kc AQ [1,1,1,1,1,1]] (mkE 46 [(8,D.ptr 0 0),(9,D.ptr 3 0),(10,D.ptr 2 ((1+k)*2+1)),(12,di y),(28,D.v (vIs (y::ws))),(29,di (length (y::ws):Int)),(30,di (↑0:Int))]) (AT c (List.set L ((1+k)*2+1) (dn)) []))=_) ?_
  refine⟨rfl,by rw[length_map],rfl,⟨with_reg c ((1+k)*2+1) L hpL y 0 (.v .nils) [] [some [di 0,.v .nils]] [some [di y,.v (.list [])]] 4 (by simp) (y::ws) (0:Nat) (fun τ=>w5n_ok τ) (w7n_ok c _) (fun M=>w9n_ok c M y) ?_⟩⟩
  exact with_tail _ _ c _ _ ((1+k)*2+1) (y::ws) y 0 (by omega) _ _ _ _ hlp
noncomputable abbrev fCApl:Func:= Tryz.f111
theorem sizes_set:∀(l:List Val) (i:Nat) (x y:Val),l[i]?=some x->Val.sizes (l.set i y)+x.size=Val.sizes l+y.size
 |[],_,_,_,h=>by simp at h
 |z::l,0,x,y,h=>by
  simp at h;subst h
  rw[set_cons_zero,Val.sizes,Val.sizes];omega
 |z::l,i+1,x,y,h=>by
  have:=sizes_set l i x y (by simpa using h)
  rw[set_cons_succ,Val.sizes,Val.sizes];omega
theorem sizes_lf(ws:List Int):Val.sizes (ws.map lf)=ws.length:=size_vals ws
theorem withL_size{l:List Val}{s0 x:Val}{k:Nat}(h0:l[0]?=some s0)(hx:l[1+k]?=some x)(s:Int)(ws:List Int)(n:Int):(Val.mk n (BA l s0 x s (1+k) ws)).size<=1+Val.sizes l+ws.length+1:=by
 have h1:=sizes_set l 0 s0 (.mk s s0.kids) h0
 have h2:=sizes_set (l.set 0 (.mk s s0.kids)) (1+k) x (.mk x.n (ws.map lf)) (by rw[List.getElem?_set_ne (by omega)];exact hx)
 have h3:(Val.mk n (BA l s0 x s (1+k) ws)).size=1+Val.sizes ((l.set 0 (.mk s s0.kids)).set (1+k) (.mk x.n (ws.map lf))):=by rw[Val.size];rfl
 have h4:(Val.mk s s0.kids).size=1+Val.sizes s0.kids:=by rw[Val.size]
 have h5:(Val.mk x.n (ws.map lf)).size=1+Val.sizes (ws.map lf):=by rw[Val.size]
 have h6:=s0.size_eq
 have h7:=sizes_lf ws
 have h8:=x.size_pos
 omega
theorem capl_ex(m:Mod)(t:Typ)(hm:ChM m t)(i:Nat)(r:Rul)(hi:m.rules[i]?=some r)(c:Val)(hs:c.size<=1000):∃p:Val×Int,p.1.size<=1000/\Ab PP 111 [Ah m,di i,dV c] σ0 (dP p) σ0:=by
 have hir:=(List.getElem?_eq_some_iff.1 hi).1
 have hat:=cat_spec m t hm i hir c (by omega)
 have hfew:=hm.few
 rw[chkC] at hat
 by_cases hv:Au t c=true
 ·rw[if_pos hv] at hat
  have hsh:=hm.shape c hv
  have hrc:=hm.rule r (mem_of_getElem? hi)
  obtain⟨k,hk⟩:∃k:Nat,r.chan=k:=⟨r.chan.toNat,by omega⟩
  obtain⟨s0,h0⟩:∃x,c.kids[0]?=some x:=⟨_,getElem?_eq_getElem (by rw[hsh.len];omega)⟩
  obtain⟨x,hx⟩:∃x,c.kids[1+k]?=some x:=⟨_,getElem?_eq_getElem (by rw[hsh.len];omega)⟩
  have hx12:=hsh.word k x hx
  have hkl:c.kids.length<=1000000:=by rw[hsh.len];omega
  have hen:=cenb_spec r c k hk s0 x h0 hx hkl (by omega)
  have hct:=contA_spec c k x hx hkl (by omega)
  have hwi:=fun ws hw=>with_spec c hs s0 x k h0 hx r.to ws hw
  have hsz:=fun ws=>withL_size h0 hx r.to ws c.n
  have hcs:=c.size_eq
  have h128:=hsh.size
  rw[←hk] at hct hwi
  have hnl:(B1 x).length<=12:=by rw[length_map];exact hx12
  cases hb:((s0.n==r.frm)&&((r.act !=2)||(B1 x).head?==some r.letter)) with
  |false=>
   rw[hb] at hen
   refine⟨(.mk 0 [],18),by decide,?_⟩
   refine sv fCApl 57 [3,5] (.c (di 0)<|.k<|.x (Ak r)<|.c (db false) .r) (F0 166 [Ah m,di (i:Int),dV c] (di 0)/\0<=(i:Int)/\(map Ak m.rules)[Int.toNat (i:Int)]?=some (Ak r)/\F0 167 [BK r,dV c] (db false)/\D.tup [D.v (V.agg [vi 0,V.list []]),di 18]=dP (Val.mk 0 [],18)) ?_
   exact⟨hat,by omega,Ao hi,hen,rfl⟩
  |true=>
   rw[hb] at hen
   by_cases h1:(r.act==1)=true
   ·by_cases h2:(((B1 x).length:Int)==12)=true
    ·refine⟨(.mk 0 [],1),by decide,?_⟩
     refine sv fCApl 57 [3,5] (.c (di 0)<|.k<|.x (Ak r)<|.c (db true)<|.k<|.h (.ck 1 1 1 ((B1 x).map vi))<|.t<|.t .r) (F0 166 [Ah m,di (i:Int),dV c] (di 0)/\0<=(i:Int)/\(map Ak m.rules)[Int.toNat (i:Int)]?=some (Ak r)/\F0 167 [BK r,dV c] (db true)/\Ab PP 168 [dV c,di r.chan] (St.mk [] []) (D.acc 1 (map vi (B1 x))) (St.mk [] [(1,1,map vi (B1 x))])/\(r.act==1)=true/\((length (map vi (B1 x)):Int)==12)=true/\D.tup [D.v (V.agg [vi 0,V.list []]),di 1]=dP (Val.mk 0 [],1)) ?_
     exact⟨hat,by omega,Ao hi,hen,hct,h1,by rw[length_map];exact h2,rfl⟩
    ·refine⟨(.mk c.n (BA c.kids s0 x r.to (1+k) (B1 x++[r.letter])),0),?_,?_⟩
     ·have:=hsz (B1 x++[r.letter])
      simp only[length_append,length_cons,length_nil] at this
      show(Val.mk c.n (BA c.kids s0 x r.to (1+k) (B1 x++[r.letter]))).size<=1000
      omega
     ·refine sv fCApl 57 [3,5] (.c (di 0)<|.k<|.x (Ak r)<|.c (db true)<|.k<|.h (.ck 1 1 1 ((B1 x).map vi))<|.t<|.f<|.c (dV (.mk c.n (BA c.kids s0 x r.to (1+k) (B1 x++[r.letter])))) .r) (F0 166 [Ah m,di (i:Int),dV c] (di 0)/\0<=(i:Int)/\(map Ak m.rules)[Int.toNat (i:Int)]?=some (Ak r)/\F0 167 [BK r,dV c] (db true)/\Ab PP 168 [dV c,di r.chan] (St.mk [] []) (D.acc 1 (map vi (B1 x))) (St.mk [] [(1,1,map vi (B1 x))])/\(r.act==1)=true/\((length (map vi (B1 x)):Int)==12)=false/\Q (map vi (B1 x))/\Ar (length (map vi (B1 x))+length (vi r.letter::nV)) 8/\F0 169 [dV c,di r.to,di r.chan,D.v (V.list (map vi (B1 x)++[vi r.letter]))] (dV (Val.mk c.n (BA c.kids s0 x r.to (1+k) (B1 x++[r.letter]))))/\D.tup [D.v (V.agg [vi (Val.n (Val.mk c.n (BA c.kids s0 x r.to (1+k) (B1 x++[r.letter])))),V.list (map eV (Val.kids (Val.mk c.n (BA c.kids s0 x r.to (1+k) (B1 x++[r.letter])))))]),di 0]=dP (Val.mk c.n (BA c.kids s0 x r.to (1+k) (B1 x++[r.letter])),0)) ?_
      have hw:=hwi (B1 x++[r.letter]) (by simp only[length_append,length_cons,length_nil];omega)
      have e:(B1 x).map vi++[vi r.letter]=(B1 x++[r.letter]).map vi:=by simp
      rw[e]
      exact⟨hat,by omega,Ao hi,hen,hct,h1,by rw[length_map];exact eq_false_of_ne_true h2,rfl,⟨by simp only[length_map,length_cons,length_nil] at*;omega,by simp only[length_map,length_cons,length_nil] at*;omega⟩,hw,rfl⟩
   ·by_cases h2:(r.act==2)=true
    ·have hn:1<=(B1 x).length:=by
      cases hn:B1 x with
      |nil=>rw[hn] at hb;simp_all
      |cons y ys=>simp
     obtain⟨W,hW⟩:∃W,W=B1 x:=⟨_,rfl⟩
     rw[←hW] at hct hn hnl
     refine⟨(.mk c.n (BA c.kids s0 x r.to (1+k) (W.drop 1)),0),?_,?_⟩
     ·have:=hsz (W.drop 1)
      rw[length_drop] at this
      show(Val.mk c.n (BA c.kids s0 x r.to (1+k) (W.drop 1))).size<=1000
      omega
     ·refine sv fCApl 57 [3,5] (.c (di 0)<|.k<|.x (Ak r)<|.c (db true)<|.k<|.h (.ck 1 1 1 (W.map vi))<|.f<|.t<|.c (dV (.mk c.n (BA c.kids s0 x r.to (1+k) (W.drop 1)))) .r) (F0 166 [Ah m,di (i:Int),dV c] (di 0)/\0<=(i:Int)/\(map Ak m.rules)[Int.toNat (i:Int)]?=some (Ak r)/\F0 167 [BK r,dV c] (db true)/\Ab PP 168 [dV c,di r.chan] (St.mk [] []) (D.acc 1 (map vi W)) (St.mk [] [(1,1,map vi W)])/\(r.act==1)=false/\(r.act==2)=true/\(∀(x:V),x∈map vi W->V.size x=1)/\0<=(1:Int)/\(1:Int)<=(length (map vi W):Int)/\F0 169 [dV c,di r.to,di r.chan,D.v (V.list (List.drop (Int.toNat ((1:Int))) (take (length (map vi W)) (map vi W))))] (dV (Val.mk c.n (BA c.kids s0 x r.to (1+k) (List.drop 1 W))))/\D.tup [D.v (V.agg [vi (Val.n (Val.mk c.n (BA c.kids s0 x r.to (1+k) (List.drop 1 W)))),V.list (map eV (Val.kids (Val.mk c.n (BA c.kids s0 x r.to (1+k) (List.drop 1 W)))))]),di 0]=dP (Val.mk c.n (BA c.kids s0 x r.to (1+k) (List.drop 1 W)),0)) ?_
      have e:List.drop (Int.toNat (1:Int)) (take (W.map vi).length (W.map vi))=(W.drop 1).map vi:=by rw[take_of_length_le (Nat.le_refl _),List.map_drop];rfl
      rw[e]
      exact⟨hat,by omega,Ao hi,hen,hct,eq_false_of_ne_true h1,h2,fun y hy=>by obtain⟨z,_,rfl⟩:=mem_map.1 hy;rfl,by omega,by rw[length_map];omega,hwi (W.drop 1) (by rw[length_drop];omega),rfl⟩
    ·refine⟨(.mk c.n (BA c.kids s0 x r.to (1+k) (B1 x)),0),?_,?_⟩
     ·have:=hsz (B1 x)
      show(Val.mk c.n (BA c.kids s0 x r.to (1+k) (B1 x))).size<=1000
      omega
     ·refine sv fCApl 57 [3,5] (.c (di 0)<|.k<|.x (Ak r)<|.c (db true)<|.k<|.h (.ck 1 1 1 ((B1 x).map vi))<|.f<|.f<|.c (dV (.mk c.n (BA c.kids s0 x r.to (1+k) (B1 x)))) .r) (F0 166 [Ah m,di (i:Int),dV c] (di 0)/\0<=(i:Int)/\(map Ak m.rules)[Int.toNat (i:Int)]?=some (Ak r)/\F0 167 [BK r,dV c] (db true)/\Ab PP 168 [dV c,di r.chan] (St.mk [] []) (D.acc 1 (map vi (B1 x))) (St.mk [] [(1,1,map vi (B1 x))])/\(r.act==1)=false/\(r.act==2)=false/\F0 169 [dV c,di r.to,di r.chan,D.v (V.list (map vi (B1 x)))] (dV (Val.mk c.n (BA c.kids s0 x r.to (1+k) (B1 x))))/\D.tup [D.v (V.agg [vi (Val.n (Val.mk c.n (BA c.kids s0 x r.to (1+k) (B1 x)))),V.list (map eV (Val.kids (Val.mk c.n (BA c.kids s0 x r.to (1+k) (B1 x)))))]),di 0]=dP (Val.mk c.n (BA c.kids s0 x r.to (1+k) (B1 x)),0)) ?_
      exact⟨hat,by omega,Ao hi,hen,hct,eq_false_of_ne_true h1,eq_false_of_ne_true h2,hwi (B1 x) (by omega),rfl⟩
 ·rw[if_neg hv] at hat
  refine⟨(.mk 0 [],17),by decide,?_⟩
  refine sv fCApl 57 [3,5] (.c (di 17) .r) (F0 166 [Ah m,di (i:Int),dV c] (di 17)/\D.tup [D.v (V.agg [vi 0,V.list []]),di 17]=dP (Val.mk 0 [],17)) ?_
  exact⟨hat,rfl⟩
theorem Gp(l:List (List Int)):Aa (l.map vIs)=l.map fun w=>D.v (vIs w):=by
 induction l with
 |nil=>rfl
 |cons x l ih=>show D.v (vIs x)::Aa (l.map vIs)=_;rw[ih];rfl
theorem CmW_len(l:List (List Int)):(Aa (l.map vIs)).length=l.length*1:=by rw[Gp,length_map];omega
theorem Ex{l:List (List Int)}{i:Nat}{x:List Int}(h:l[i]?=some x):(Aa (l.map vIs))[i]?=some (D.v (vIs x)):=by rw[Gp,getElem?_map,h];rfl
theorem CmW_take(l:List (List Int))(k:Nat):(Aa (l.map vIs)).take (k*1)=Aa ((l.take k).map vIs):=by rw[Gp,Gp,Nat.mul_one,List.map_take]
theorem CmW_set(l:List (List Int))(k:Nat)(x:List Int)(_:k<l.length):(Aa (l.map vIs)).set k (D.v (vIs x))=Aa ((l.set k x).map vIs):=by rw[Gp,Gp,List.map_set]
theorem CmW_ones(k:Nat):(((replicate k [V.nils]).flatten.map D.v).all D.one)=true:=by
 induction k with
 |zero=>rfl
 |succ k ih=>simp only[replicate_succ,flatten_cons,map_append,List.all_append,ih];rfl
theorem CmW_one(l:List (List Int)):(Aa (l.map vIs)).all D.one=true:=by
 rw[Gp,all_eq_true]
 intro x hx
 obtain⟨w,_,rfl⟩:=mem_map.1 hx
 rfl
theorem slCmW:BJ PP 226=some (27,1,24,some (.slice none 0 0)):=by kernel_rfl
theorem CmW_pls(l:List V){R:List D}(h:D.pls R=true):D.pls (Aa l++R)=true:=by rw[CU,As,h];rfl
noncomputable abbrev fCmW:Func:= Tryz.f224
noncomputable def Eb:Code:=fCmW.body.getD .skip
theorem CmW_in(F:FuncId)(l:List (List Int))(q:(List Int)->(List Int)->Bool)(hl:l.length<=1000)(hq:∀x∈l,∀y∈l,Ab PP F [.v (vIs x),.v (vIs y)] σ0 (db (q x y)) σ0)(k0:Nat)(h0:1<=k0)(h1:k0<l.length)(n:Nat):∀(k j:Nat) (A:List (List Int)),l.length-k0-j=n->1<=k->1<=j->k<k0+j->j<=l.length-k0->A.length=l.length->(∀x∈A,x∈l)->
  ∃(ys:List (List Int)) (R:List D),ys.length<=l.length/\(∀y∈ys,y∈l)/\D.pls R=true/\R.all D.one=true/\Rn PP fCmW 1 (.arr 0 0 ys.length) ⟨[some (Aa (ys.map vIs)++R)],[]⟩ ([.lp (sub Eb [1,1,0,1,0,0,1,0,0,1,0,1,0,1,0,0]),.blk 2,.code (sub Eb [1,1,0,1,0,0,1,0,0,1,0,1,1]),.blk 1,.code (sub Eb [1,1,0,1,0,0,1,1]),.lp (sub Eb [1,1,0,1,0,0]),.blk 0,.code (sub Eb [1,1,1])]++[]) (mkE 66 [(0,.arr 0 0 l.length),(1,dfn F),(5,di k),(6,.arr 0 (k0*1) (l.length-k0)),(7,di j)]) ⟨[some (Aa (A.map vIs))],[]⟩:=by
 induction n with
 |zero=>
  intro k j A hn hk hj hkj hjl hA hAl
  refine⟨A.take k,(replicate (l.length-k) [V.nils]).flatten.map .v,?_,?_,?_,?_,?_⟩
  ·rw[length_take];omega
  ·intro y hy;exact hAl y (mem_of_mem_take hy)
  ·exact BB _
  ·exact CmW_ones _
  refine lv 66 [] (.f<|.h (.q 14 2)<|.h (.o (.arr 0 (k*1) (l.length-k)) ⟨[some (Aa (A.map vIs))],[]⟩)<|.h (.o (.tup []) ⟨[some (Aa ((A.take k).map vIs)++(replicate (l.length-k) [V.nils]).flatten.map .v)],[]⟩)<|.h (.q 15 2)<|.h (.o (.arr 0 0 k) ⟨[some (Aa ((A.take k).map vIs)++(replicate (l.length-k) [V.nils]).flatten.map .v)],[]⟩) .ro) (decide ((j:Int)<(↑(length l-k0):Int))=false/\Ai PP (Oper.mk (some 61) (Op.slice 226 (Operand.tmp 59) (some (Operand.tmp 60)) none none) 226 "slices.go:410" #[Edge.mk 0 Ground.data,Edge.mk 1 Ground.data] none) [D.arr 0 0 l.length,di (k:Int)] (St.mk [some (Aa (map vIs A))] []) (D.arr 0 (k*1) (length l-k)) (St.mk [some (Aa (map vIs A))] [])/\Ai PP (Oper.mk none (Op.call (Call.mk (Callee.builtin Builtin.clear) #[Operand.tmp 61] #[226])) 0 "slices.go:410" #[Edge.mk 2 Ground.data] none) [D.arr 0 (k*1) (length l-k)] (St.mk [some (Aa (map vIs A))] []) (D.tup []) (St.mk [some (Aa (map vIs (take k A))++map D.v (flatten (replicate (length l-k) [V.nils])))] [])/\Ai PP (Oper.mk (some 64) (Op.slice 226 (Operand.tmp 62) none (some (Operand.tmp 63)) none) 226 "slices.go:411" #[Edge.mk 0 Ground.data,Edge.mk 1 Ground.data] none) [D.arr 0 0 l.length,di (k:Int)] (St.mk [some (Aa (map vIs (take k A))++map D.v (flatten (replicate (length l-k) [V.nils])))] []) (D.arr 0 0 k) (St.mk [some (Aa (map vIs (take k A))++map D.v (flatten (replicate (length l-k) [V.nils])))] [])/\okH 1 [] [some (Aa (map vIs (take k A))++map D.v (flatten (replicate (length l-k) [V.nils])))]=true/\Q [some (Aa (map vIs (take k A))++map D.v (flatten (replicate (length l-k) (V.nils::nV))))]/\D.arr 0 0 k=D.arr 0 0 (length (take k A))) ?_
  have hkl:k<l.length:=by omega
  have hsl:∀(o:Oper) (x:Operand) (y:Operand) (τ:St),o.op=.slice 226 x (some y) none none->Ai PP o [.arr 0 0 l.length,di k] τ (.arr 0 (k*1) (l.length-k)) τ:=fun o x y τ ho=>by
   have:=CA (P:=PP) (o:=o) (σ:=τ) ho slCmW (q:=0) (off:=0) (len:=l.length) (some (.i64,(k:Int))) none rfl rfl (l':=k) (h':=l.length) (by simp[BI];omega) hkl
   rwa[Nat.zero_add] at this
  have hsh:∀(o:Oper) (x:Operand) (y:Operand) (τ:St),o.op=.slice 226 x none (some y) none->Ai PP o [.arr 0 0 l.length,di k] τ (.arr 0 0 k) τ:=fun o x y τ ho=>by
   have:=CA (P:=PP) (o:=o) (σ:=τ) ho slCmW (q:=0) (off:=0) (len:=l.length) none (some (.i64,(k:Int))) rfl rfl (l':=0) (h':=k) (by simp[BI];omega) (by omega)
   rwa[Nat.zero_mul,Nat.add_zero,Nat.sub_zero] at this
  have hfl:(Aa (A.map vIs)).length=l.length*1:=by rw[CmW_len,hA]
  have hcl:=fun(o:Oper) (x:Operand) (ho:o.op=.call { callee:=.builtin .clear,args:= #[x],argTypes:= #[226]})=>op_clearArr (P:=PP) (o:=o) (σ:=⟨[some (Aa (A.map vIs))],[]⟩) ho slCmW (zs:=[.nils]) rfl rfl (q:=0) (off:=k*1) (len:=l.length-k) rfl (by omega) (by rw[hfl];omega)
  have hd:(Aa (A.map vIs)).drop (k*1+(l.length-k)*1)=[]:=drop_of_length_le (by rw[hfl];omega)
  have htk:(Aa (A.map vIs)).take (k*1)=Aa ((A.take k).map vIs):=CmW_take A k
  rw[hd,htk,append_nil] at hcl
  refine⟨decide_eq_false (by omega),hsl _ _ _ _ rfl,hcl _ _ rfl,hsh _ _ _ _ rfl,?_,rfl,by rw[length_take,hA,Nat.min_eq_left (by omega)]⟩
  exact Bool.and_eq_true_iff.2 ⟨CJ (CmW_pls _ (BB _)),rfl⟩
 |succ n ih=>
  intro k j A hn hk hj hkj hjl hA hAl
  obtain⟨x,hx⟩:∃x,A[k0+j]?=some x:=⟨_,getElem?_eq_getElem (show k0+j<A.length by omega)⟩
  obtain⟨y,hy⟩:∃x,A[k0+j-1]?=some x:=⟨_,getElem?_eq_getElem (show k0+j-1<A.length by omega)⟩
  have hc:=hq x (hAl x (mem_of_getElem? hx)) y (hAl y (mem_of_getElem? hy))
  have hw1:i64.wrap ((j:Int)-1)=((j-1:Nat):Int):=by rw[Aj (by omega) (by omega)];omega
  cases hb:q x y with
  |true=>
   rw[hb] at hc
   obtain⟨ys,R,r1,r2,r3,r5,r4⟩:=ih k (j+1) A (by omega) hk (by omega) (by omega) (by omega) hA hAl
   refine⟨ys,R,r1,r2,r3,r5,?_⟩
   refine lv 66 [] (.t<|.m (.v (vIs x))<|.m (.v (vIs y))<|.c (db true)<|.lo [ke 0,ke 1,ke 5,ke 6,ch 7 (di (j+1:Nat))] ⟨[some (Aa (A.map vIs))],[]⟩) (decide ((j:Int)<(↑(length l-k0):Int))=true/\0<=(j:Int)/\(j:Int)<(↑(length l-k0):Int)/\(Aa (map vIs A))[k0*1+Int.toNat (j:Int)*1]?=some (dIs x)/\0<=wrap i64 ((j:Int)-1)/\wrap i64 ((j:Int)-1)<(↑(length l-k0):Int)/\(Aa (map vIs A))[k0*1+Int.toNat (wrap i64 ((j:Int)-1))*1]?=some (dIs y)/\F0 F [dIs x,dIs y] (db true)/\(True/\True/\True)/\di (wrap i64 ((j:Int)+1))=di (↑(j+1):Int)/\okH 1 [] [some (Aa (map vIs A))]=true/\Q [some (Aa (map vIs A))]/\I0 fCmW 1 (D.arr 0 0 ys.length) (St.mk [some (Aa (map vIs ys)++R)] []) [kl Eb [1,1,0,1,0,0,1,0,0,1,0,1,0,1,0,0],KI.blk 2,kc Eb [1,1,0,1,0,0,1,0,0,1,0,1,1],KI.blk 1,kc Eb [1,1,0,1,0,0,1,1],kl Eb [1,1,0,1,0,0],KI.blk 0,kc Eb [1,1,1]] (mkE 66 [(0,D.arr 0 0 l.length),(1,D.v (V.fn F [] [])),(5,di (k:Int)),(6,D.arr 0 (k0*1) (length l-k0)),(7,di (↑(j+1):Int))]) (St.mk [some (Aa (map vIs A))] [])) ?_
   rw[hw1]
   refine⟨decide_eq_true (by omega),by omega,by omega,by rw[show k0*1+Int.toNat (j:Int)*1=k0+j by omega];exact Ex hx,by omega,by omega,by rw[show k0*1+Int.toNat ((j-1:Nat):Int)*1=k0+j-1 by omega];exact Ex hy,hc,⟨trivial,trivial,trivial⟩,Af (by omega),Bool.and_eq_true_iff.2 ⟨Ag 1 [] _,rfl⟩,rfl,⟨r4⟩⟩
  |false=>
   rw[hb] at hc
   have hA2:∀z∈A.set k x,z∈l:=fun z hz=>by
    rcases mem_or_eq_of_mem_set hz with h|h
    ·exact hAl z h
    ·rw[h];exact hAl x (mem_of_getElem? hx)
   obtain⟨ys,R,r1,r2,r3,r5,r4⟩:=ih (k+1) (j+1) (A.set k x) (by omega) (by omega) (by omega) (by omega) (by omega) (by rw[length_set];exact hA) hA2
   refine⟨ys,R,r1,r2,r3,r5,?_⟩
   refine lv 66 [] (.t<|.m (.v (vIs x))<|.m (.v (vIs y))<|.c (db false)<|.m (.v (vIs x))<|.w<|.lo [ke 0,ke 1,ch 5 (di (k+1:Nat)),ke 6,ch 7 (di (j+1:Nat))] ⟨[some (Aa ((A.set k x).map vIs))],[]⟩) (decide ((j:Int)<(↑(length l-k0):Int))=true/\0<=(j:Int)/\(j:Int)<(↑(length l-k0):Int)/\(Aa (map vIs A))[k0*1+Int.toNat (j:Int)*1]?=some (dIs x)/\0<=wrap i64 ((j:Int)-1)/\wrap i64 ((j:Int)-1)<(↑(length l-k0):Int)/\(Aa (map vIs A))[k0*1+Int.toNat (wrap i64 ((j:Int)-1))*1]?=some (dIs y)/\F0 F [dIs x,dIs y] (db false)/\(True/\True/\True)/\0<=(j:Int)/\(j:Int)<(↑(length l-k0):Int)/\(Aa (map vIs A))[k0*1+Int.toNat (j:Int)*1]?=some (dIs x)/\0<=(k:Int)/\(k:Int)<(l.length:Int)/\0+Int.toNat (k:Int)*1<length (Aa (map vIs A))/\di (wrap i64 ((k:Int)+1))=di (↑(k+1):Int)/\di (wrap i64 ((j:Int)+1))=di (↑(j+1):Int)/\okH 1 [] [some (List.set (Aa (map vIs A)) (0+Int.toNat (k:Int)*1) (dIs x))]=true/\[some (List.set (Aa (map vIs A)) (0+Int.toNat (k:Int)*1) (dIs x))]=[some (Aa (map vIs (List.set A k x)))]/\I0 fCmW 1 (D.arr 0 0 ys.length) (St.mk [some (Aa (map vIs ys)++R)] []) [kl Eb [1,1,0,1,0,0,1,0,0,1,0,1,0,1,0,0],KI.blk 2,kc Eb [1,1,0,1,0,0,1,0,0,1,0,1,1],KI.blk 1,kc Eb [1,1,0,1,0,0,1,1],kl Eb [1,1,0,1,0,0],KI.blk 0,kc Eb [1,1,1]] (mkE 66 [(0,D.arr 0 0 l.length),(1,D.v (V.fn F [] [])),(5,di (↑(k+1):Int)),(6,D.arr 0 (k0*1) (length l-k0)),(7,di (↑(j+1):Int))]) (St.mk [some (Aa (map vIs (List.set A k x)))] [])) ?_
   rw[hw1]
   refine⟨decide_eq_true (by omega),by omega,by omega,by rw[show k0*1+Int.toNat (j:Int)*1=k0+j by omega];exact Ex hx,by omega,by omega,by rw[show k0*1+Int.toNat ((j-1:Nat):Int)*1=k0+j-1 by omega];exact Ex hy,hc,⟨trivial,trivial,trivial⟩,by omega,by omega,by rw[show k0*1+Int.toNat (j:Int)*1=k0+j by omega];exact Ex hx,by omega,by omega,by rw[CmW_len];omega,Af (by omega),Af (by omega),?_,?_,⟨r4⟩⟩
   ·rw[show 0+Int.toNat (k:Int)*1=k by omega,CmW_set A k x (by omega)]
    exact Bool.and_eq_true_iff.2 ⟨Ag 1 [] _,rfl⟩
   ·rw[show 0+Int.toNat (k:Int)*1=k by omega,CmW_set A k x (by omega)]
theorem CmW_out(F:FuncId)(l:List (List Int))(q:(List Int)->(List Int)->Bool)(hl:l.length<=1000)(hq:∀x∈l,∀y∈l,Ab PP F [.v (vIs x),.v (vIs y)] σ0 (db (q x y)) σ0)(n:Nat):∀(k:Nat),l.length-k=n->1<=k->
  ∃(ys:List (List Int)) (R:List D),ys.length<=l.length/\(∀y∈ys,y∈l)/\D.pls R=true/\R.all D.one=true/\Rn PP fCmW 1 (.arr 0 0 ys.length) ⟨[some (Aa (ys.map vIs)++R)],[]⟩ ([.lp (sub Eb [1,1,0,1,0,0]),.blk 0,.code (sub Eb [1,1,1])]++[]) (mkE 66 [(0,.arr 0 0 l.length),(1,dfn F),(5,di k)]) ⟨[some (Aa (l.map vIs))],[]⟩:=by
 induction n with
 |zero=>
  intro k hn hk
  refine⟨l,[],Nat.le_refl _,fun y h=>h,rfl,rfl,?_⟩
  refine lv 66 [] (.f .ro) (decide ((k:Int)<(l.length:Int))=false/\okH 1 [] [some (Aa (map vIs l))]=true/\[some (Aa (map vIs l))]=[some (Aa (map vIs l)++[])]/\Q (D.arr 0 0 l.length)) ?_
  exact⟨decide_eq_false (by omega),Bool.and_eq_true_iff.2 ⟨Ag 1 [] _,rfl⟩,by rw[append_nil],rfl⟩
 |succ n ih=>
  intro k hn hk
  obtain⟨x,hx⟩:∃x,l[k]?=some x:=⟨_,getElem?_eq_getElem (show k<l.length by omega)⟩
  obtain⟨y,hy⟩:∃x,l[k-1]?=some x:=⟨_,getElem?_eq_getElem (show k-1<l.length by omega)⟩
  have hc:=hq x (mem_of_getElem? hx) y (mem_of_getElem? hy)
  have hkl:k<l.length:=by omega
  have hw1:i64.wrap ((k:Int)-1)=((k-1:Nat):Int):=by rw[Aj (by omega) (by omega)];omega
  cases hb:q x y with
  |true=>
   rw[hb] at hc
   obtain⟨ys,R,r1,r2,r3,r5,r4⟩:=CmW_in F l q hl hq k hk (by omega) _ k 1 l rfl hk (by omega) (by omega) (by omega) rfl (fun x h=>h)
   refine⟨ys,R,r1,r2,r3,r5,?_⟩
   refine lv 66 [] (.t<|.m (.v (vIs x))<|.m (.v (vIs y))<|.c (db true)<|.k<|.h (.q 7 2)<|.h (.o (.arr 0 (k*1) (l.length-k)) ⟨[some (Aa (l.map vIs))],[]⟩)<|.lo [ke 0,ke 1,ke 5,ke 6,ch 7 (di (1:Nat))] ⟨[some (Aa (l.map vIs))],[]⟩) (decide ((k:Int)<(l.length:Int))=true/\0<=(k:Int)/\(k:Int)<(l.length:Int)/\(Aa (map vIs l))[0+Int.toNat (k:Int)*1]?=some (dIs x)/\0<=wrap i64 ((k:Int)-1)/\wrap i64 ((k:Int)-1)<(l.length:Int)/\(Aa (map vIs l))[0+Int.toNat (wrap i64 ((k:Int)-1))*1]?=some (dIs y)/\F0 F [dIs x,dIs y] (db true)/\(True/\True/\True)/\Ai PP (Oper.mk (some 31) (Op.slice 226 (Operand.tmp 29) (some (Operand.tmp 30)) none none) 226 "slices.go:402" #[Edge.mk 0 Ground.data,Edge.mk 1 Ground.data] none) [D.arr 0 0 l.length,di (k:Int)] (St.mk [some (Aa (map vIs l))] []) (D.arr 0 (k*1) (length l-k)) (St.mk [some (Aa (map vIs l))] [])/\di 1=di (↑1:Int)/\okH 1 [] [some (Aa (map vIs l))]=true/\Q [some (Aa (map vIs l))]/\I0 fCmW 1 (D.arr 0 0 ys.length) (St.mk [some (Aa (map vIs ys)++R)] []) [kl Eb [1,1,0,1,0,0,1,0,0,1,0,1,0,1,0,0],KI.blk 2,kc Eb [1,1,0,1,0,0,1,0,0,1,0,1,1],KI.blk 1,kc Eb [1,1,0,1,0,0,1,1],kl Eb [1,1,0,1,0,0],KI.blk 0,kc Eb [1,1,1]] (mkE 66 [(0,D.arr 0 0 l.length),(1,D.v (V.fn F [] [])),(5,di (k:Int)),(6,D.arr 0 (k*1) (length l-k)),(7,di (↑1:Int))]) (St.mk [some (Aa (map vIs l))] [])) ?_
   have hsl:∀(o:Oper) (x:Operand) (y:Operand) (τ:St),o.op=.slice 226 x (some y) none none->Ai PP o [.arr 0 0 l.length,di k] τ (.arr 0 (k*1) (l.length-k)) τ:=fun o x y τ ho=>by
    have:=CA (P:=PP) (o:=o) (σ:=τ) ho slCmW (q:=0) (off:=0) (len:=l.length) (some (.i64,(k:Int))) none rfl rfl (l':=k) (h':=l.length) (by simp[BI];omega) hkl
    rwa[Nat.zero_add] at this
   rw[hw1]
   exact⟨decide_eq_true (by omega),by omega,by omega,by rw[show 0+Int.toNat (k:Int)*1=k by omega];exact Ex hx,by omega,by omega,by rw[show 0+Int.toNat ((k-1:Nat):Int)*1=k-1 by omega];exact Ex hy,hc,⟨trivial,trivial,trivial⟩,hsl _ _ _ _ rfl,rfl,Bool.and_eq_true_iff.2 ⟨Ag 1 [] _,rfl⟩,rfl,⟨r4⟩⟩
  |false=>
   rw[hb] at hc
   obtain⟨ys,R,r1,r2,r3,r5,r4⟩:=ih (k+1) (by omega) (by omega)
   refine⟨ys,R,r1,r2,r3,r5,?_⟩
   refine lv 66 [] (.t<|.m (.v (vIs x))<|.m (.v (vIs y))<|.c (db false)<|.lo [ke 0,ke 1,ch 5 (di (k+1:Nat))] ⟨[some (Aa (l.map vIs))],[]⟩) (decide ((k:Int)<(l.length:Int))=true/\0<=(k:Int)/\(k:Int)<(l.length:Int)/\(Aa (map vIs l))[0+Int.toNat (k:Int)*1]?=some (dIs x)/\0<=wrap i64 ((k:Int)-1)/\wrap i64 ((k:Int)-1)<(l.length:Int)/\(Aa (map vIs l))[0+Int.toNat (wrap i64 ((k:Int)-1))*1]?=some (dIs y)/\F0 F [dIs x,dIs y] (db false)/\(True/\True/\True)/\di (wrap i64 ((k:Int)+1))=di (↑(k+1):Int)/\okH 1 [] [some (Aa (map vIs l))]=true/\Q [some (Aa (map vIs l))]/\I0 fCmW 1 (D.arr 0 0 ys.length) (St.mk [some (Aa (map vIs ys)++R)] []) [kl Eb [1,1,0,1,0,0],KI.blk 0,kc Eb [1,1,1]] (mkE 66 [(0,D.arr 0 0 l.length),(1,D.v (V.fn F [] [])),(5,di (↑(k+1):Int))]) (St.mk [some (Aa (map vIs l))] [])) ?_
   rw[hw1]
   exact⟨decide_eq_true (by omega),by omega,by omega,by rw[show 0+Int.toNat (k:Int)*1=k by omega];exact Ex hx,by omega,by omega,by rw[show 0+Int.toNat ((k-1:Nat):Int)*1=k-1 by omega];exact Ex hy,hc,⟨trivial,trivial,trivial⟩,Af (by omega),Bool.and_eq_true_iff.2 ⟨Ag 1 [] _,rfl⟩,rfl,⟨r4⟩⟩
theorem CmW_ex(F:FuncId)(l:List (List Int))(q:(List Int)->(List Int)->Bool)(hl:l.length<=1000)(hq:∀x∈l,∀y∈l,Ab PP F [.v (vIs x),.v (vIs y)] σ0 (db (q x y)) σ0):
  ∃(ys:List (List Int)) (R:List D),ys.length<=l.length/\(∀y∈ys,y∈l)/\D.pls R=true/\R.all D.one=true/\Ab PP 224 [.arr 0 0 l.length,dfn F] ⟨[some (Aa (l.map vIs))],[]⟩ (.arr 0 0 ys.length) ⟨[some (Aa (ys.map vIs)++R)],[]⟩:=by
 by_cases h2:l.length<2
 ·refine⟨l,[],Nat.le_refl _,fun y h=>h,rfl,rfl,?_⟩
  refine sv fCmW 66 [] (.t .ro) (decide ((l.length:Int)<2)=true/\okH 1 [] [some (Aa (map vIs l))]=true/\[some (Aa (map vIs l))]=[some (Aa (map vIs l)++[])]/\Q (D.arr 0 0 l.length)) ?_
  exact⟨decide_eq_true (by omega),Bool.and_eq_true_iff.2 ⟨Ag 1 [] _,rfl⟩,by rw[append_nil],rfl⟩
 ·obtain⟨ys,R,r1,r2,r3,r5,r4⟩:=CmW_out F l q hl hq _ 1 rfl (Nat.le_refl _)
  refine⟨ys,R,r1,r2,r3,r5,?_⟩
  refine sv fCmW 66 [] (.f<|.lo [ke 0,ke 1,ch 5 (di (1:Nat))] ⟨[some (Aa (l.map vIs))],[]⟩) (decide ((l.length:Int)<2)=false/\di 1=di (↑1:Int)/\okH 1 [] [some (Aa (map vIs l))]=true/\Q [some (Aa (map vIs l))]/\I0 fCmW (length (St.mk [some (Aa (map vIs l))] []).H) (D.arr 0 0 ys.length) (St.mk [some (Aa (map vIs ys)++R)] []) [kl Eb [1,1,0,1,0,0],KI.blk 0,kc Eb [1,1,1]] (mkE 66 [(0,D.arr 0 0 l.length),(1,dfn F),(5,di (↑1:Int))]) (St.mk [some (Aa (map vIs l))] [])) ?_
  exact⟨decide_eq_false (by omega),rfl,Bool.and_eq_true_iff.2 ⟨Ag 1 [] _,rfl⟩,rfl,⟨r4⟩⟩
end Go.Proofs.YtcjhkglbdahfgaaGreat

namespace Go.Proofs.YtcjhkglbdahfgaaGreat
open Go.Dv Go.Nv Go.Shelf
set_option maxRecDepth 20000
open List (all_eq_true append_assoc append_nil cons_append drop_eq_getElem_cons drop_of_length_le drop_zero ext_getElem? flatMap_cons flatten flatten_cons foldl_cons getD_eq_getElem?_getD getElem?_append_left getElem?_append_right getElem?_drop getElem?_eq_getElem getElem?_eq_none getElem?_map getElem?_set getElem?_take getElem?_toArray length length_append length_cons length_drop length_map length_nil length_pos_iff length_set length_take map map_append map_cons map_map map_nil mem_append mem_cons mem_map mem_of_getElem? mem_of_mem_drop mem_of_mem_take mem_or_eq_of_mem_set mem_singleton nil_append not_mem_nil replicate replicate_succ set_cons_succ set_cons_zero size_toArray take take_add_one take_append_drop take_left take_of_length_le take_succ_cons zipWith)
open Go.IntKind (wrap i64 u64)
theorem sortW_nil:Ab PP 222 [dl [],dfn 223] σ0 (.tup []) σ0:=by
 refine⟨⟨_, Tryz.func222,by kernel_rfl,by kernel_rfl⟩,fun g w args hw hargs=>?_⟩
 obtain⟨u0,u1,rfl,h0,h1⟩:=Ap.1 hargs
 simp only[Ae,AO] at h0
 obtain⟨a,cap,rfl,_,_⟩:=h0
 have h:=AnyF.slices_SortFunc_none { Tryz.sortW with } a cap u1 w
 refine Calls.mono h ?_
 rintro e w' ⟨rfl,rfl⟩
 exact⟨_,g,rfl,WI.start hw,by simp only[Ae];exact⟨[],rfl,by simp[Ac]⟩⟩
theorem sortV_nil:Ab PP 31 [dl [],dfn 32] σ0 (.tup []) σ0:=by
 refine⟨⟨_, Tryz.func31,by kernel_rfl,by kernel_rfl⟩,fun g w args hw hargs=>?_⟩
 obtain⟨u0,u1,rfl,h0,h1⟩:=Ap.1 hargs
 simp only[Ae,AO] at h0
 obtain⟨a,cap,rfl,_,_⟩:=h0
 have h:=AnyF.slices_SortFunc_none Tryz.sortV a cap u1 w
 refine Calls.mono h ?_
 rintro e w' ⟨rfl,rfl⟩
 exact⟨_,g,rfl,WI.start hw,by simp only[Ae];exact⟨[],rfl,by simp[Ac]⟩⟩
noncomputable abbrev fWSrt:Func:= Tryz.f226
theorem wsrt_ex(l:List (List Int))(hl:l.length<=1000)(hs:∀v∈l,v.length<=1000):∃(ys:List (List Int)) (R:List D),ys.length<=l.length/\(∀y∈ys,y∈l)/\D.pls R=true/\R.all D.one=true/\Ab PP 226 [.arr 0 0 l.length] ⟨[some (Aa (l.map vIs))],[]⟩ (.arr 0 0 ys.length) ⟨[some (Aa (ys.map vIs)++R)],[]⟩:=by
 have hlen:(sortW l).length=l.length:=(CO l).length_eq
 obtain⟨ys,R,h1,h2,h3,h5,h4⟩:=CmW_ex 36 (sortW l) (fun a b=>decide (a=b)) (by omega) (fun x hx y hy=>C7 x y (by have:=hs x ((CO l).mem_iff.1 hx);omega))
 refine⟨ys,R,by omega,fun y hy=>(CO l).mem_iff.1 (h2 y hy),h3,h5,?_⟩
 rw[hlen] at h4
 refine sv fWSrt 7 [] (.h (.oc (.tup []) ⟨[some (Aa ((sortW l).map vIs))],[]⟩)<|.h (.oc (.arr 0 0 ys.length) ⟨[some (Aa (ys.map vIs)++R)],[]⟩) .ro) ((∀(o:Oper) (c:Call) (fo:Operand),o.op=Op.call c->c.callee=Callee.value fo->Ai PP o [D.v (V.fn 222 [] []),D.arr 0 0 l.length,D.v (V.fn 223 [] [])] (St.mk [some (Aa (map vIs l))] []) (D.tup []) (St.mk [some (Aa (map vIs (sortW l)))] []))/\(∀(o:Oper) (c:Call) (fo:Operand),o.op=Op.call c->c.callee=Callee.value fo->Ai PP o [D.v (V.fn 224 [] []),D.arr 0 0 l.length,D.v (V.fn 36 [] [])] (St.mk [some (Aa (map vIs (sortW l)))] []) (D.arr 0 0 ys.length) (St.mk [some (Aa (map vIs ys)++R)] []))/\okH 1 [] [some (Aa (map vIs ys)++R)]=true/\Q [some (Aa (map vIs ys)++R)]/\Q (D.arr 0 0 ys.length)) ?_
 have hsp:=sortW_spec wcm_spec l (by omega) (fun v hv=>by have:=hs v hv;omega)
 refine⟨fun o cl fo ho hc=>?_,fun o cl fo ho hc=>?_,Bool.and_eq_true_iff.2 ⟨CJ (CmW_pls _ h3),rfl⟩,rfl,rfl⟩
 ·exact C5 (H:=[Aa (l.map vIs)]) ho hc (fs:=[]) (cs:=[]) (ds:=[.arr 0 0 l.length,dfn 223]) rfl hsp rfl (fun cs hm=>by rw[mem_singleton.1 hm];exact⟨Ag _ _ _,CmW_one l⟩) rfl (Bool.and_eq_true_iff.2 ⟨Ag _ _ _,rfl⟩) (Nat.le_refl _)
 ·exact C5 (H:=[Aa ((sortW l).map vIs)]) ho hc (fs:=[]) (cs:=[]) (ds:=[.arr 0 0 l.length,dfn 36]) rfl h4 rfl (fun cs hm=>by rw[mem_singleton.1 hm];exact⟨Ag _ _ _,CmW_one _⟩) rfl (Bool.and_eq_true_iff.2 ⟨CJ (CmW_pls _ h3),rfl⟩) (Nat.le_refl _)
theorem CmW_nil(F:FuncId):Ab PP 224 [dl [],dfn F] σ0 (dl []) σ0:=by
 refine sv fCmW 66 [] (.t .r) (decide ((nV.length:Int)<2)=true/\D.v (V.list [])=dl []) ?_
 exact⟨by decide,rfl⟩
theorem wsrt_nil:Ab PP 226 [dl []] σ0 (dl []) σ0:=by
 refine sv fWSrt 7 [] (.c (.tup [])<|.c (dl []) .r) (F0 222 [D.v (V.list []),D.v (V.fn 223 [] [])] (D.tup [])/\F0 224 [D.v (V.list []),D.v (V.fn 36 [] [])] (dl [])/\D.v (V.list [])=dl []) ?_
 exact⟨sortW_nil,CmW_nil _,rfl⟩
noncomputable abbrev fWVal1:Func:= Tryz.f231
theorem wval1_spec(x:Int):Ab PP 231 [di x] σ0 (db (decide (x<0)||decide (x>=16))) σ0:=by
 refine sv fWVal1 9 [] (.b .r .r) ((decide (x<0)=true->db true=db (decide (x<0)||decide (x>=16)))/\(decide (x<0)=false->db (decide (x>=16))=db (decide (x<0)||decide (x>=16)))) ?_
 exact⟨fun h=>by rw[h];rfl,fun h=>by rw[h];rfl⟩
noncomputable abbrev fWVal:Func:= Tryz.f225
theorem wval_ex(w:List Int)(hw:w.length<=1000):∃b:Bool,(b=true->w.length<=12)/\Ab PP 225 [dIs w] σ0 (db b) σ0:=by
 by_cases h:decide ((w.length:Int)<=12)=true
 ·refine⟨!(w.any fun x=>decide (x<0)||decide (x>=16)),fun _=>by have:=of_decide_eq_true h;omega,?_⟩
  refine sv fWVal 11 [] (.t<|.c (db (w.any fun x=>decide (x<0)||decide (x>=16))) .r) (decide ((length (map vi w):Int)<=12)=true/\F0 118 [dIs w,D.v (V.fn 231 [] [])] (db (List.any w fun x=>decide (x<0)||decide (x>=16)))/\(db !List.any w fun x=>decide (x<0)||decide (x>=16))=db !List.any w fun x=>decide (x<0)||decide (x>=16)) ?_
  exact⟨by rw[length_map];exact h,Cw 231 [] [] (fun x=>decide (x<0)||decide (x>=16)) w (by omega) (fun x _=>wval1_spec x),rfl⟩
 ·refine⟨false,nofun,?_⟩
  refine sv fWVal 11 [] (.f .r) (decide ((length (map vi w):Int)<=12)=false/\Q (db false)) ?_
  exact⟨by rw[length_map];exact eq_false_of_ne_true h,rfl⟩
theorem drop_cat(w:List Int)(hw:w.length<=1000)(i:Nat)(hi:i<w.length):Ab PP 221 [D.v (V.list [V.list (List.drop 0 (take (Int.toNat (i:Int)) (w.map vi))),V.list (List.drop (Int.toNat ((i+1:Nat):Int)) (take (w.map vi).length (w.map vi)))])] σ0 (dIs (w.take i++w.drop (i+1))) σ0:=by
 have h:=coI_spec [w.take i,w.drop (i+1)] (by simp) (by simp only[flatten_cons,List.flatten_nil,append_nil,length_append,length_take,length_drop];omega)
 rw[Int.toNat_natCast,Int.toNat_natCast,drop_zero,take_of_length_le (Nat.le_refl _), ←List.map_take, ←List.map_drop,show dIs (w.take i++w.drop (i+1))=dl ([w.take i,w.drop (i+1)].flatten.map vi) by simp]
 exact h
theorem sz_vi(w:List Int):∀x∈w.map vi,V.size x=1:=fun x h=>by obtain⟨y,_,rfl⟩:=mem_map.1 h;rfl
theorem flatW_snoc(l:List (List Int))(x:List Int):Aa (l.map vIs)++[D.v (vIs x)]=Aa ((l++[x]).map vIs):=by rw[Gp,Gp];simp
theorem bs1W{o:Oper}{t:Nat}(x:List Int)(τ:St)(ho:o.op=.buildSlice 226 1 #[(0,.tmp t)]):Ai PP o [dIs x] τ (.v (.list [vIs x])) τ:=
 DL ho rfl rfl slCmW rfl (xs:=[vIs x]) rfl (fun y hy=>by rw[mem_singleton.1 hy];rfl) (by decide) (by decide) (by decide)
noncomputable abbrev fWDr:Func:= Tryz.f216
noncomputable def cWDr:Code:=fWDr.body.getD .skip
theorem wdr_loop(w:List Int)(hw:w.length<=12)(n:Nat):∀(k:Nat) (outs:List (List Int)),w.length- (k+1)=n->k<w.length->outs.length=k+1->(∀v∈outs,v.length<=12)->
  ∃ws:List (List Int),ws.length<=12/\(∀v∈ws,v.length<=12)/\Rn PP fWDr 0 (dl (ws.map vIs)) σ0 ([.lp (sub cWDr [1,1,1,0,1,0,0]),.blk 0,.code (sub cWDr [1,1,1,1])]++[]) (mkE 28 [(0,dIs w),(3,.gro 0 (k+1) 1),(8,dIs w),(9,di w.length),(10,di (k+1:Nat))]) ⟨[some (Aa (outs.map vIs))],[]⟩:=by
 induction n with
 |zero=>
  intro k outs hn hk ho hs
  obtain⟨ys,R,h1,h2,h3,h5,h4⟩:=wsrt_ex outs (by omega) (fun v hv=>by have:=hs v hv;omega)
  refine⟨ys,by omega,fun v hv=>hs v (h2 v hv),?_⟩
  rw[ho] at h4
  refine lv 28 [] (.f<|.h (.q 9 0)<|.h (.ga 3)<|.h (.oc (.arr 0 0 ys.length) ⟨[some (Aa (ys.map vIs)++R)],[]⟩)<|.h (.q 9 2)<|.h (.ct 27 (dl (ys.map vIs)) ⟨[none],[]⟩) .r) (decide ((↑(k+1):Int)<(w.length:Int))=false/\(∀(o:Oper) (c:Call) (fo:Operand),o.op=Op.call c->c.callee=Callee.value fo->Ai PP o [D.v (V.fn 226 [] []),D.arr 0 0 (k+1)] (St.mk [some (Aa (map vIs outs))] []) (D.arr 0 0 ys.length) (St.mk [some (Aa (map vIs ys)++R)] []))/\(∀(e:List D),e[27]?=some (D.arr 0 0 ys.length)->∀(E:Ent) (g:Gh) (a:Act) (w:World),FI E g (St.mk [some (Aa (map vIs ys)++R)] []) e a w->∃g',FI E g' (St.mk [none] []) (List.set e 27 (dl (map vIs ys))) a w)/\D.v (V.list (map vIs ys))=dl (map vIs ys)) ?_
  refine⟨decide_eq_false (by omega),fun o cl fo hop hc=>?_,fun e he=>?_,rfl⟩
  ·exact C5 (H:=[Aa (outs.map vIs)]) hop hc (fs:=[]) (cs:=[]) (ds:=[.arr 0 0 (k+1)]) rfl h4 rfl (fun cs hm=>by rw[mem_singleton.1 hm];exact⟨Ag _ _ _,CmW_one _⟩) rfl (Bool.and_eq_true_iff.2 ⟨CJ (CmW_pls _ h3),rfl⟩) (Nat.le_refl _)
  ·exact cv_flzP (σ:=⟨[some (Aa (ys.map vIs)++R)],[]⟩) (q:=0) (sz:=1) (rest:=R) (by decide) (fun x hx=>by obtain⟨y,_,rfl⟩:=mem_map.1 hx;rfl) (by rw[length_map]) rfl he
 |succ n ih=>
  intro k outs hn hk ho hs
  obtain⟨ws,g1,g2,g3⟩:=ih (k+1) (outs++[w.take (k+1)++w.drop (k+2)]) (by omega) (by omega) (by simp[ho]) (fun v hv=>by
   rcases mem_append.1 hv with h|h
   ·exact hs v h
   ·rw[mem_singleton.1 h,length_append,length_take,length_drop];omega)
  refine⟨ws,g1,g2,?_⟩
  refine lv 28 [] (.t<|.c (dIs (w.take (k+1)++w.drop (k+2)))<|.lo [ke 0,ch 3 (.gro 1 (k+1+1) 1),ke 8,ke 9,ch 10 (di (k+1+1:Nat))] ⟨[none,some (Aa ((outs++[w.take (k+1)++w.drop (k+2)]).map vIs))],[]⟩) (decide ((↑(k+1):Int)<(w.length:Int))=true/\(∀(x:V),x∈map vi w->V.size x=1)/\0<=(fun x=>x.snd) (i64,(↑(k+1):Int))/\(fun x=>x.snd) (i64,(↑(k+1):Int))<=(length (map vi w):Int)/\(∀(x:V),x∈map vi w->V.size x=1)/\0<=(fun x=>x.snd) (i64,wrap i64 ((↑(k+1):Int)+1))/\(fun x=>x.snd) (i64,wrap i64 ((↑(k+1):Int)+1))<=(length (map vi w):Int)/\F0 221 [D.v (V.list [V.list (List.drop 0 (take (Int.toNat ((fun x=>x.snd) (i64,(↑(k+1):Int)))) (map vi w))),V.list (List.drop (Int.toNat ((fun x=>x.snd) (i64,wrap i64 ((↑(k+1):Int)+1)))) (take (length (map vi w)) (map vi w)))])] (dIs (take (k+1) w++List.drop (k+2) w))/\length (Aa (map vIs outs))=(k+1)*1/\[vIs (take (k+1) w++List.drop (k+2) w)]≠ []/\(∀(y:V),y∈ [vIs (take (k+1) w++List.drop (k+2) w)]->V.size y=1)/\Ar (k+1+length (vIs (take (k+1) w++List.drop (k+2) w)::nV)) 24/\D.gro 1 (k+1+length (vIs (take (k+1) w++List.drop (k+2) w)::nV)) 1=D.gro 1 (k+1+1) 1/\di (wrap i64 ((↑(k+1):Int)+1))=di (↑(k+1+1):Int)/\okH 2 [] [none,some (Aa (map vIs outs)++[D.v (vIs (take (k+1) w++List.drop (k+2) w))])]=true/\[none,some (Aa (map vIs outs)++[D.v (vIs (take (k+1) w++List.drop (k+2) w))])]=[none,some (Aa (map vIs (outs++[take (k+1) w++List.drop (k+2) w])))]/\I0 fWDr 0 (dl (map vIs ws)) σ0 [kl cWDr [1,1,1,0,1,0,0],KI.blk 0,kc cWDr [1,1,1,1]] (mkE 28 [(0,dIs w),(3,D.gro 1 (k+1+1) 1),(8,dIs w),(9,di (w.length:Int)),(10,di (↑(k+1+1):Int))]) (St.mk [none,some (Aa (map vIs (outs++[take (k+1) w++List.drop (k+2) w])))] [])) ?_
  have hw1:i64.wrap (((k+1:Nat):Int)+1)=((k+1+1:Nat):Int):=by rw[Aj (by omega) (by omega)];omega
  rw[hw1,flatW_snoc]
  refine⟨decide_eq_true (by omega),sz_vi w,by show(0:Int)<=((k+1:Nat):Int);omega,by show((k+1:Nat):Int)<=_;rw[length_map];omega,sz_vi w,by show(0:Int)<=((k+1+1:Nat):Int);omega,by show((k+1+1:Nat):Int)<=_;rw[length_map];omega,drop_cat w (by omega) (k+1) (by omega),by rw[CmW_len,ho],by simp,fun y hy=>by rw[mem_singleton.1 hy];rfl,⟨by simp only[length_cons,length_nil];omega,by simp only[length_cons,length_nil];omega⟩,rfl,rfl,?_,rfl,⟨?_⟩⟩
  ·simp[okH,D.okNs,D.okN,Ag]
  ·refine D3 (H0:=[none]) (fun E0 E h=>h.2) 1 rfl (fun cs hc=>?_) ?_ ?_ g3
   ·simp at hc;rw[hc];exact As _
   ·simp[mkE,D.okNs,D.okN]
   ·simp[mkE,D.rens,D.ren]
theorem wdr_ex(w:List Int)(hw:w.length<=1000):∃ws:List (List Int),ws.length<=12/\(∀v∈ws,v.length<=12)/\Ab PP 216 [dIs w] σ0 (dl (ws.map vIs)) σ0:=by
 obtain⟨b,hb1,hb2⟩:=wval_ex w hw
 cases b with
 |false=>
  refine⟨[],by decide,by simp,?_⟩
  refine sv fWDr 28 [] (.c (db false) .r) (F0 225 [dIs w] (db false)/\D.v (V.list [])=dl (map vIs [])) ?_
  exact⟨hb2,rfl⟩
 |true=>
  have h12:=hb1 rfl
  by_cases h0:w=[]
  ·refine⟨[],by decide,by simp,?_⟩
   refine sv fWDr 28 [] (.c (db true)<|.k<|.n<|.f<|.c (dl []) .r) (F0 225 [dIs w] (db true)/\decide (0<(length (map vi w):Int))=false/\F0 226 [D.v (V.list [])] (dl [])/\D.v (V.list [])=dl (map vIs [])) ?_
   subst h0
   exact⟨hb2,rfl,wsrt_nil,rfl⟩
  ·have hpos:=length_pos_iff.2 h0
   obtain⟨ws,g1,g2,g3⟩:=wdr_loop w h12 _ 0 [w.drop 1] rfl hpos rfl (fun v hv=>by rw[mem_singleton.1 hv,length_drop];omega)
   refine⟨ws,g1,g2,?_⟩
   refine sv fWDr 28 [] (.c (db true)<|.k<|.n<|.t<|.c (dIs (w.drop 1))<|.h (.p (.v (.list [vIs (w.drop 1)])))<|.h .g<|.lo [ke 0,ch 3 (.gro 0 1 1),ke 8,ch 9 (di w.length),ch 10 (di (1:Nat))] ⟨[some (Aa ([w.drop 1].map vIs))],[]⟩) (F0 225 [dIs w] (db true)/\decide (0<(length (map vi w):Int))=true/\(∀(x:V),x∈map vi w->V.size x=1)/\0<=(0:Int)/\(0:Int)<=(length (map vi w):Int)/\(∀(x:V),x∈map vi w->V.size x=1)/\0<=(fun x=>x.snd) (i64,wrap i64 (0+1))/\(fun x=>x.snd) (i64,wrap i64 (0+1))<=(length (map vi w):Int)/\F0 221 [D.v (V.list [V.list [],V.list (List.drop (Int.toNat ((fun x=>x.snd) (i64,wrap i64 (0+1)))) (take (length (map vi w)) (map vi w)))])] (dIs (List.drop 1 w))/\(∀(τ:St),Ai PP (Oper.mk (some 23) (Op.buildSlice 226 1 #[(0,Operand.tmp 22)]) 226 "word.go:71" #[Edge.mk 9 Ground.data] none) [dIs (List.drop 1 w)] τ (D.v (V.list [vIs (List.drop 1 w)])) τ)/\[vIs (List.drop 1 w)]≠ []/\(∀(y:V),y∈ [vIs (List.drop 1 w)]->V.size y=1)/\Ar 1 24/\Q (D.gro 0 1 1)/\di (length (map vi w):Int)=di (w.length:Int)/\di (wrap i64 (0+1))=di (↑1:Int)/\okH 1 [] [some [D.v (vIs (List.drop 1 w))]]=true/\Q [some [D.v (vIs (List.drop 1 w))]]/\I0 fWDr σ0.H.length (dl (map vIs ws)) σ0 [kl cWDr [1,1,1,0,1,0,0],KI.blk 0,kc cWDr [1,1,1,1]] (mkE 28 [(0,dIs w),(3,D.gro 0 1 1),(8,dIs w),(9,di (w.length:Int)),(10,di (↑1:Int))]) (St.mk [some [D.v (vIs (List.drop 1 w))]] [])) ?_
   have hw1:i64.wrap (0+1)=((0+1:Nat):Int):=by decide
   rw[hw1]
   refine⟨hb2,decide_eq_true (by rw[length_map];omega),sz_vi w,Int.le_refl _,by omega,sz_vi w,by decide,by show((0+1:Nat):Int)<=_;rw[length_map];omega,drop_cat w (by omega) 0 hpos,fun τ=>bs1W _ τ rfl,by simp,fun y hy=>by rw[mem_singleton.1 hy];rfl,⟨by decide,by decide⟩,rfl,by rw[length_map],rfl,rfl,rfl,⟨g3⟩⟩
end Go.Proofs.YtcjhkglbdahfgaaGreat

namespace Go.Proofs.YtcjhkglbdahfgaaGreat
open Go.Dv Go.Nv
set_option maxRecDepth 20000
open List (all_eq_true append_assoc append_nil cons_append drop_eq_getElem_cons drop_of_length_le drop_zero ext_getElem? flatMap_cons flatten flatten_cons foldl_cons getD_eq_getElem?_getD getElem?_append_left getElem?_append_right getElem?_drop getElem?_eq_getElem getElem?_eq_none getElem?_map getElem?_set getElem?_take getElem?_toArray length length_append length_cons length_drop length_map length_nil length_pos_iff length_set length_take map map_append map_cons map_map map_nil mem_append mem_cons mem_map mem_of_getElem? mem_of_mem_drop mem_of_mem_take mem_or_eq_of_mem_set mem_singleton nil_append not_mem_nil replicate replicate_succ set_cons_succ set_cons_zero size_toArray take take_add_one take_append_drop take_left take_of_length_le take_succ_cons zipWith)
open Go.IntKind (wrap i64 u64)
theorem wrapN(k:Nat)(h:k<=1000000):i64.wrap ((k:Int)+1)=((k+1:Nat):Int):=by rw[Aj (by omega) (by omega)];omega
theorem Fp{l:List Int}{x r:Int}(_:0<=x)(h:l[x.toNat]?=some r):(l.map vi)[Int.toNat x]?=some (vi r):=by rw[getElem?_map,h];rfl
noncomputable abbrev fPRk1:Func:= Tryz.f220
theorem prk1_spec(x:Int):Ab PP 220 [di x] σ0 (db (decide (x<0)||decide (x>=6))) σ0:=by
 refine sv fPRk1 9 [] (.b .r .r) ((decide (x<0)=true->db true=db (decide (x<0)||decide (x>=6)))/\(decide (x<0)=false->db (decide (x>=6))=db (decide (x<0)||decide (x>=6)))) ?_
 exact⟨fun h=>by rw[h];rfl,fun h=>by rw[h];rfl⟩
noncomputable abbrev fPRk:Func:= Tryz.f211
theorem prk_ex(rk:List Int)(hr:rk.length<=1000):∃b:Bool,Ab PP 211 [dIs rk] σ0 (db b) σ0:=by
 by_cases h:decide ((rk.length:Int)>=1)=true
 ·by_cases h2:decide ((rk.length:Int)<=6)=true
  ·refine⟨!(rk.any fun x=>decide (x<0)||decide (x>=6)),?_⟩
   refine sv fPRk 16 [] (.t<|.t<|.c (db (rk.any fun x=>decide (x<0)||decide (x>=6))) .r) (decide ((length (map vi rk):Int)>=1)=true/\decide ((length (map vi rk):Int)<=6)=true/\F0 118 [dIs rk,D.v (V.fn 220 [] [])] (db (List.any rk fun x=>decide (x<0)||decide (x>=6)))/\(db !List.any rk fun x=>decide (x<0)||decide (x>=6))=db !List.any rk fun x=>decide (x<0)||decide (x>=6)) ?_
   exact⟨by rw[length_map];exact h,by rw[length_map];exact h2,Cw 220 [] [] (fun x=>decide (x<0)||decide (x>=6)) rk (by omega) (fun x _=>prk1_spec x),rfl⟩
  ·refine⟨false,?_⟩
   refine sv fPRk 16 [] (.t<|.f .r) (decide ((length (map vi rk):Int)>=1)=true/\decide ((length (map vi rk):Int)<=6)=false/\Q (db false)) ?_
   exact⟨by rw[length_map];exact h,by rw[length_map];exact eq_false_of_ne_true h2,rfl⟩
 ·refine⟨false,?_⟩
  refine sv fPRk 16 [] (.f .r) (decide ((length (map vi rk):Int)>=1)=false/\Q (db false)) ?_
  exact⟨by rw[length_map];exact eq_false_of_ne_true h,rfl⟩
noncomputable abbrev fPVl1:Func:= Tryz.f212
theorem pvl1_spec(rk:List Int)(x:Int):Ab PP 212 [di x,.v (.ref (vIs rk))] σ0 (db (decide (x<0)||decide (x>=rk.length))) σ0:=by
 refine sv fPVl1 12 [] (.b .r .r) ((decide (x<0)=true->db true=db (decide (x<0)||decide (x>=(rk.length:Int))))/\(decide (x<0)=false->db (decide (x>=(length (map vi rk):Int)))=db (decide (x<0)||decide (x>=(rk.length:Int))))) ?_
 exact⟨fun h=>by rw[h];rfl,fun h=>by rw[h,length_map];rfl⟩
noncomputable abbrev fPVl:Func:= Tryz.f189
theorem pvl_ex(rk w:List Int)(hr:rk.length<=1000)(hw:w.length<=1000):∃b:Bool,(b=true->w.length<=12/\∀x∈w,0<=x/\x<rk.length)/\Ab PP 189 [dIs rk,dIs w] σ0 (db b) σ0:=by
 obtain⟨b,hb⟩:=prk_ex rk hr
 cases b with
 |false=>
  refine⟨false,nofun,?_⟩
  refine sv fPVl 18 [2] (.c (db false) .r) (F0 211 [dIs rk] (db false)/\Q (db false)) ?_
  exact⟨hb,rfl⟩
 |true=>
  by_cases h:decide ((w.length:Int)<=12)=true
  ·refine⟨!(w.any fun x=>decide (x<0)||decide (x>=rk.length)),fun hv=>⟨by have:=of_decide_eq_true h;omega,fun x hx=>?_⟩,?_⟩
   ·have h2:(w.any fun x=>decide (x<0)||decide (x>=rk.length))=false:=by simpa using hv
    have:=List.any_eq_false.1 h2 x hx
    simp at this;omega
   ·refine sv fPVl 18 [2] (.c (db true)<|.k<|.t<|.c (db (w.any fun x=>decide (x<0)||decide (x>=rk.length))) .r) (F0 211 [dIs rk] (db true)/\decide ((length (map vi w):Int)<=12)=true/\F0 118 [dIs w,D.v (V.fn 212 [] [V.ref (vIs rk)])] (db (List.any w fun x=>decide (x<0)||decide (x>=(rk.length:Int))))/\(db !List.any w fun x=>decide (x<0)||decide (x>=(rk.length:Int)))=db !List.any w fun x=>decide (x<0)||decide (x>=(rk.length:Int))) ?_
    exact⟨hb,by rw[length_map];exact h,Cw 212 [] [.ref (vIs rk)] (fun x=>decide (x<0)||decide (x>=rk.length)) w (by omega) (fun x _=>pvl1_spec rk x),rfl⟩
  ·refine⟨false,nofun,?_⟩
   refine sv fPVl 18 [2] (.c (db true)<|.k<|.f .r) (F0 211 [dIs rk] (db true)/\decide ((length (map vi w):Int)<=12)=false/\Q (db false)) ?_
   exact⟨hb,by rw[length_map];exact eq_false_of_ne_true h,rfl⟩
noncomputable abbrev fPDr:Func:= Tryz.f215
noncomputable def cPDr:Code:=fPDr.body.getD .skip
theorem pdr_loop(rk w:List Int)(hw:w.length<=12)(hx:∀x∈w,0<=x/\x<rk.length)(n:Nat):∀(k m:Nat) (outs:List (List Int)),w.length-k=n->outs.length=m+1->m+1<=k->m+1<=w.length->k<=12->(∀v∈outs,v.length<=12)->
  ∃ws:List (List Int),ws.length<=12/\(∀v∈ws,v.length<=12)/\Rn PP fPDr 0 (dl (ws.map vIs)) σ0 ([.lp (sub cPDr [1,1,1,0,1,0,0]),.blk 0,.code (sub cPDr [1,1,1,1])]++[]) (mkE 50 [(0,dIs rk),(1,dIs w),(5,.gro 0 (m+1) 1),(6,di k)]) ⟨[some (Aa (outs.map vIs))],[]⟩:=by
 induction n using Nat.strongRecOn with
 |_ n ih=>
 intro k m outs hn ho hm hm2 hk12 hs
 by_cases hk:k+1<w.length
 ·obtain⟨x,hx1⟩:∃x,w[k]?=some x:=⟨_,getElem?_eq_getElem (show k<w.length by omega)⟩
  obtain⟨y,hy1⟩:∃x,w[k+1]?=some x:=⟨_,getElem?_eq_getElem (show k+1<w.length by omega)⟩
  have bx:=hx x (mem_of_getElem? hx1)
  have bY:=hx y (mem_of_getElem? hy1)
  obtain⟨rx,hrx⟩:∃r,rk[x.toNat]?=some r:=⟨_,getElem?_eq_getElem (show x.toNat<rk.length by omega)⟩
  obtain⟨ry,hry⟩:∃r,rk[y.toNat]?=some r:=⟨_,getElem?_eq_getElem (show y.toNat<rk.length by omega)⟩
  by_cases hc:decide (rx<=ry)=true
  ·obtain⟨ws,g1,g2,g3⟩:=ih (w.length- (k+1)) (by omega) (k+1) (m+1) (outs++[w.take k++w.drop (k+1)]) rfl (by simp[ho]) (by omega) (by omega) (by omega) (fun v hv=>by
    rcases mem_append.1 hv with h|h
    ·exact hs v h
    ·rw[mem_singleton.1 h,length_append,length_take,length_drop];omega)
   refine⟨ws,g1,g2,?_⟩
   refine lv 50 [] (.t<|.x (vi x)<|.x (vi rx)<|.x (vi y)<|.x (vi ry)<|.t<|.c (dIs (w.take k++w.drop (k+1)))<|.lo [ke 0,ke 1,ch 5 (.gro 1 (m+1+1) 1),ch 6 (di (k+1:Nat))] ⟨[none,some (Aa ((outs++[w.take k++w.drop (k+1)]).map vIs))],[]⟩) (decide (wrap i64 ((k:Int)+1)<(length (map vi w):Int))=true/\0<=(k:Int)/\(map vi w)[Int.toNat (k:Int)]?=some (vi x)/\0<=x/\(map vi rk)[Int.toNat x]?=some (vi rx)/\0<=wrap i64 ((k:Int)+1)/\(map vi w)[Int.toNat (wrap i64 ((k:Int)+1))]?=some (vi y)/\0<=y/\(map vi rk)[Int.toNat y]?=some (vi ry)/\decide (rx<=ry)=true/\(∀(x:V),x∈map vi w->V.size x=1)/\0<=(fun x=>x.snd) (i64,(k:Int))/\(fun x=>x.snd) (i64,(k:Int))<=(length (map vi w):Int)/\(∀(x:V),x∈map vi w->V.size x=1)/\0<=(fun x=>x.snd) (i64,wrap i64 ((k:Int)+1))/\(fun x=>x.snd) (i64,wrap i64 ((k:Int)+1))<=(length (map vi w):Int)/\F0 221 [D.v (V.list [V.list (List.drop 0 (take (Int.toNat ((fun x=>x.snd) (i64,(k:Int)))) (map vi w))),V.list (List.drop (Int.toNat ((fun x=>x.snd) (i64,wrap i64 ((k:Int)+1)))) (take (length (map vi w)) (map vi w)))])] (dIs (take k w++List.drop (k+1) w))/\length (Aa (map vIs outs))=(m+1)*1/\[vIs (take k w++List.drop (k+1) w)]≠ []/\(∀(y:V),y∈ [vIs (take k w++List.drop (k+1) w)]->V.size y=1)/\Ar (m+1+length (vIs (take k w++List.drop (k+1) w)::nV)) 24/\D.gro 1 (m+1+length (vIs (take k w++List.drop (k+1) w)::nV)) 1=D.gro 1 (m+1+1) 1/\di (wrap i64 ((k:Int)+1))=di (↑(k+1):Int)/\okH 2 [] [none,some (Aa (map vIs outs)++[D.v (vIs (take k w++List.drop (k+1) w))])]=true/\[none,some (Aa (map vIs outs)++[D.v (vIs (take k w++List.drop (k+1) w))])]=[none,some (Aa (map vIs (outs++[take k w++List.drop (k+1) w])))]/\I0 fPDr 0 (dl (map vIs ws)) σ0 [kl cPDr [1,1,1,0,1,0,0],KI.blk 0,kc cPDr [1,1,1,1]] (mkE 50 [(0,dIs rk),(1,dIs w),(5,D.gro 1 (m+1+1) 1),(6,di (↑(k+1):Int))]) (St.mk [none,some (Aa (map vIs (outs++[take k w++List.drop (k+1) w])))] [])) ?_
   rw[wrapN k (by omega),flatW_snoc]
   refine⟨decide_eq_true (by rw[length_map];omega),by omega,Ao hx1,bx.1,Fp bx.1 hrx,by omega,Ao hy1,bY.1,Fp bY.1 hry,hc,sz_vi w,by show(0:Int)<=(k:Int);omega,by show(k:Int)<=_;rw[length_map];omega,sz_vi w,by show(0:Int)<=((k+1:Nat):Int);omega,by show((k+1:Nat):Int)<=_;rw[length_map];omega,drop_cat w (by omega) k (by omega),by rw[CmW_len,ho],by simp,fun y hy=>by rw[mem_singleton.1 hy];rfl,⟨by simp only[length_cons,length_nil];omega,by simp only[length_cons,length_nil];omega⟩,rfl,rfl,?_,rfl,⟨?_⟩⟩
   ·simp[okH,D.okNs,D.okN,Ag]
   ·refine D3 (H0:=[none]) (fun E0 E h=>h.2) 1 rfl (fun cs hc=>?_) ?_ ?_ g3
    ·simp at hc;rw[hc];exact As _
    ·simp[mkE,D.okNs,D.okN]
    ·simp[mkE,D.rens,D.ren]
  ·obtain⟨ws,g1,g2,g3⟩:=ih (w.length- (k+1)) (by omega) (k+1) m outs rfl ho (by omega) hm2 (by omega) hs
   refine⟨ws,g1,g2,?_⟩
   refine lv 50 [] (.t<|.x (vi x)<|.x (vi rx)<|.x (vi y)<|.x (vi ry)<|.f<|.lo [ke 0,ke 1,ke 5,ch 6 (di (k+1:Nat))] ⟨[some (Aa (outs.map vIs))],[]⟩) (decide (wrap i64 ((k:Int)+1)<(length (map vi w):Int))=true/\0<=(k:Int)/\(map vi w)[Int.toNat (k:Int)]?=some (vi x)/\0<=x/\(map vi rk)[Int.toNat x]?=some (vi rx)/\0<=wrap i64 ((k:Int)+1)/\(map vi w)[Int.toNat (wrap i64 ((k:Int)+1))]?=some (vi y)/\0<=y/\(map vi rk)[Int.toNat y]?=some (vi ry)/\decide (rx<=ry)=false/\di (wrap i64 ((k:Int)+1))=di (↑(k+1):Int)/\okH 1 [] [some (Aa (map vIs outs))]=true/\Q [some (Aa (map vIs outs))]/\I0 fPDr 0 (dl (map vIs ws)) σ0 [kl cPDr [1,1,1,0,1,0,0],KI.blk 0,kc cPDr [1,1,1,1]] (mkE 50 [(0,dIs rk),(1,dIs w),(5,D.gro 0 (m+1) 1),(6,di (↑(k+1):Int))]) (St.mk [some (Aa (map vIs outs))] [])) ?_
   rw[wrapN k (by omega)]
   exact⟨decide_eq_true (by rw[length_map];omega),by omega,Ao hx1,bx.1,Fp bx.1 hrx,by omega,Ao hy1,bY.1,Fp bY.1 hry,eq_false_of_ne_true hc,rfl,Bool.and_eq_true_iff.2 ⟨Ag 1 [] _,rfl⟩,rfl,⟨g3⟩⟩
 ·have hlen:(sortW outs).length=outs.length:=(CO outs).length_eq
  obtain⟨ys,R,h1,h2,h3,h5,h4⟩:=CmW_ex 36 (sortW outs) (fun a b=>decide (a=b)) (by omega) (fun x hx y hy=>C7 x y (by have:=hs x ((CO outs).mem_iff.1 hx);omega))
  refine⟨ys,by omega,fun v hv=>hs v ((CO outs).mem_iff.1 (h2 v hv)),?_⟩
  rw[hlen,ho] at h4
  refine lv 50 [] (.f<|.h (.q 9 0)<|.h (.ga 5)<|.h (.oc (.tup []) ⟨[some (Aa ((sortW outs).map vIs))],[]⟩)<|.h (.oc (.arr 0 0 ys.length) ⟨[some (Aa (ys.map vIs)++R)],[]⟩)<|.h (.q 10 2)<|.h (.ct 49 (dl (ys.map vIs)) ⟨[none],[]⟩) .r) (decide (wrap i64 ((k:Int)+1)<(length (map vi w):Int))=false/\(∀(o:Oper) (c:Call) (fo:Operand),o.op=Op.call c->c.callee=Callee.value fo->Ai PP o [D.v (V.fn 222 [] []),D.arr 0 0 (m+1),D.v (V.fn 223 [] [])] (St.mk [some (Aa (map vIs outs))] []) (D.tup []) (St.mk [some (Aa (map vIs (sortW outs)))] []))/\(∀(o:Oper) (c:Call) (fo:Operand),o.op=Op.call c->c.callee=Callee.value fo->Ai PP o [D.v (V.fn 224 [] []),D.arr 0 0 (m+1),D.v (V.fn 36 [] [])] (St.mk [some (Aa (map vIs (sortW outs)))] []) (D.arr 0 0 ys.length) (St.mk [some (Aa (map vIs ys)++R)] []))/\(∀(e:List D),e[49]?=some (D.arr 0 0 ys.length)->∀(E:Ent) (g:Gh) (a:Act) (w:World),FI E g (St.mk [some (Aa (map vIs ys)++R)] []) e a w->∃g',FI E g' (St.mk [none] []) (List.set e 49 (dl (map vIs ys))) a w)/\D.v (V.list (map vIs ys))=dl (map vIs ys)) ?_
  rw[wrapN k (by omega)]
  have hsp:=sortW_spec wcm_spec outs (by omega) (fun v hv=>by have:=hs v hv;omega)
  rw[ho] at hsp
  refine⟨decide_eq_false (by rw[length_map];omega),fun o cl fo hop hc=>?_,fun o cl fo hop hc=>?_,fun e he=>?_,rfl⟩
  ·exact C5 (H:=[Aa (outs.map vIs)]) hop hc (fs:=[]) (cs:=[]) (ds:=[.arr 0 0 (m+1),dfn 223]) rfl hsp rfl (fun cs hm=>by rw[mem_singleton.1 hm];exact⟨Ag _ _ _,CmW_one _⟩) rfl (Bool.and_eq_true_iff.2 ⟨Ag _ _ _,rfl⟩) (Nat.le_refl _)
  ·exact C5 (H:=[Aa ((sortW outs).map vIs)]) hop hc (fs:=[]) (cs:=[]) (ds:=[.arr 0 0 (m+1),dfn 36]) rfl h4 rfl (fun cs hm=>by rw[mem_singleton.1 hm];exact⟨Ag _ _ _,CmW_one _⟩) rfl (Bool.and_eq_true_iff.2 ⟨CJ (CmW_pls _ h3),rfl⟩) (Nat.le_refl _)
  ·exact cv_flzP (σ:=⟨[some (Aa (ys.map vIs)++R)],[]⟩) (q:=0) (sz:=1) (rest:=R) (by decide) (fun x hx=>by obtain⟨y,_,rfl⟩:=mem_map.1 hx;rfl) (by rw[length_map]) rfl he
theorem pdr_loop0(rk w:List Int)(hw:w.length<=12)(hx:∀x∈w,0<=x/\x<rk.length)(n:Nat):∀(k:Nat),w.length-k=n->k<=12->
  ∃ws:List (List Int),ws.length<=12/\(∀v∈ws,v.length<=12)/\Rn PP fPDr 0 (dl (ws.map vIs)) σ0 ([.lp (sub cPDr [1,1,1,0,1,0,0]),.blk 0,.code (sub cPDr [1,1,1,1])]++[]) (mkE 50 [(0,dIs rk),(1,dIs w),(5,.v .nils),(6,di k)]) σ0:=by
 induction n using Nat.strongRecOn with
 |_ n ih=>
 intro k hn hk12
 by_cases hk:k+1<w.length
 ·obtain⟨x,hx1⟩:∃x,w[k]?=some x:=⟨_,getElem?_eq_getElem (show k<w.length by omega)⟩
  obtain⟨y,hy1⟩:∃x,w[k+1]?=some x:=⟨_,getElem?_eq_getElem (show k+1<w.length by omega)⟩
  have bx:=hx x (mem_of_getElem? hx1)
  have bY:=hx y (mem_of_getElem? hy1)
  obtain⟨rx,hrx⟩:∃r,rk[x.toNat]?=some r:=⟨_,getElem?_eq_getElem (show x.toNat<rk.length by omega)⟩
  obtain⟨ry,hry⟩:∃r,rk[y.toNat]?=some r:=⟨_,getElem?_eq_getElem (show y.toNat<rk.length by omega)⟩
  by_cases hc:decide (rx<=ry)=true
  ·obtain⟨ws,g1,g2,g3⟩:=pdr_loop rk w hw hx (w.length- (k+1)) (k+1) 0 [w.take k++w.drop (k+1)] rfl rfl (by omega) (by omega) (by omega) (fun v hv=>by
    rw[mem_singleton.1 hv,length_append,length_take,length_drop];omega)
   refine⟨ws,g1,g2,?_⟩
   refine lv 50 [] (.t<|.x (vi x)<|.x (vi rx)<|.x (vi y)<|.x (vi ry)<|.t<|.c (dIs (w.take k++w.drop (k+1)))<|.h (.p (.v (.list [vIs (w.take k++w.drop (k+1))])))<|.h .g<|.lo [ke 0,ke 1,ch 5 (.gro 0 1 1),ch 6 (di (k+1:Nat))] ⟨[some (Aa ([w.take k++w.drop (k+1)].map vIs))],[]⟩) (decide (wrap i64 ((k:Int)+1)<(length (map vi w):Int))=true/\0<=(k:Int)/\(map vi w)[Int.toNat (k:Int)]?=some (vi x)/\0<=x/\(map vi rk)[Int.toNat x]?=some (vi rx)/\0<=wrap i64 ((k:Int)+1)/\(map vi w)[Int.toNat (wrap i64 ((k:Int)+1))]?=some (vi y)/\0<=y/\(map vi rk)[Int.toNat y]?=some (vi ry)/\decide (rx<=ry)=true/\(∀(x:V),x∈map vi w->V.size x=1)/\0<=(fun x=>x.snd) (i64,(k:Int))/\(fun x=>x.snd) (i64,(k:Int))<=(length (map vi w):Int)/\(∀(x:V),x∈map vi w->V.size x=1)/\0<=(fun x=>x.snd) (i64,wrap i64 ((k:Int)+1))/\(fun x=>x.snd) (i64,wrap i64 ((k:Int)+1))<=(length (map vi w):Int)/\F0 221 [D.v (V.list [V.list (List.drop 0 (take (Int.toNat ((fun x=>x.snd) (i64,(k:Int)))) (map vi w))),V.list (List.drop (Int.toNat ((fun x=>x.snd) (i64,wrap i64 ((k:Int)+1)))) (take (length (map vi w)) (map vi w)))])] (dIs (take k w++List.drop (k+1) w))/\(∀(τ:St),Ai PP (Oper.mk (some 44) (Op.buildSlice 226 1 #[(0,Operand.tmp 43)]) 226 "priority.go:29" #[Edge.mk 9 Ground.data] none) [dIs (take k w++List.drop (k+1) w)] τ (D.v (V.list [vIs (take k w++List.drop (k+1) w)])) τ)/\[vIs (take k w++List.drop (k+1) w)]≠ []/\(∀(y:V),y∈ [vIs (take k w++List.drop (k+1) w)]->V.size y=1)/\Ar 1 24/\Q (D.gro 0 1 1)/\di (wrap i64 ((k:Int)+1))=di (↑(k+1):Int)/\okH 1 [] [some [D.v (vIs (take k w++List.drop (k+1) w))]]=true/\Q [some [D.v (vIs (take k w++List.drop (k+1) w))]]/\I0 fPDr 0 (dl (map vIs ws)) σ0 [kl cPDr [1,1,1,0,1,0,0],KI.blk 0,kc cPDr [1,1,1,1]] (mkE 50 [(0,dIs rk),(1,dIs w),(5,D.gro 0 1 1),(6,di (↑(k+1):Int))]) (St.mk [some [D.v (vIs (take k w++List.drop (k+1) w))]] [])) ?_
   rw[wrapN k (by omega)]
   exact⟨decide_eq_true (by rw[length_map];omega),by omega,Ao hx1,bx.1,Fp bx.1 hrx,by omega,Ao hy1,bY.1,Fp bY.1 hry,hc,sz_vi w,by show(0:Int)<=(k:Int);omega,by show(k:Int)<=_;rw[length_map];omega,sz_vi w,by show(0:Int)<=((k+1:Nat):Int);omega,by show((k+1:Nat):Int)<=_;rw[length_map];omega,drop_cat w (by omega) k (by omega),fun τ=>bs1W _ τ rfl,by simp,fun y hy=>by rw[mem_singleton.1 hy];rfl,⟨by decide,by decide⟩,rfl,rfl,rfl,rfl,⟨g3⟩⟩
  ·obtain⟨ws,g1,g2,g3⟩:=ih (w.length- (k+1)) (by omega) (k+1) rfl (by omega)
   refine⟨ws,g1,g2,?_⟩
   refine lv 50 [] (.t<|.x (vi x)<|.x (vi rx)<|.x (vi y)<|.x (vi ry)<|.f<|.l [ke 0,ke 1,ke 5,ch 6 (di (k+1:Nat))]) (decide (wrap i64 ((k:Int)+1)<(length (map vi w):Int))=true/\0<=(k:Int)/\(map vi w)[Int.toNat (k:Int)]?=some (vi x)/\0<=x/\(map vi rk)[Int.toNat x]?=some (vi rx)/\0<=wrap i64 ((k:Int)+1)/\(map vi w)[Int.toNat (wrap i64 ((k:Int)+1))]?=some (vi y)/\0<=y/\(map vi rk)[Int.toNat y]?=some (vi ry)/\decide (rx<=ry)=false/\di (wrap i64 ((k:Int)+1))=di (↑(k+1):Int)/\I0 fPDr 0 (dl (map vIs ws)) σ0 [kl cPDr [1,1,1,0,1,0,0],KI.blk 0,kc cPDr [1,1,1,1]] (mkE 50 [(0,dIs rk),(1,dIs w),(5,dn),(6,di (↑(k+1):Int))]) (St.mk [] [])) ?_
   rw[wrapN k (by omega)]
   exact⟨decide_eq_true (by rw[length_map];omega),by omega,Ao hx1,bx.1,Fp bx.1 hrx,by omega,Ao hy1,bY.1,Fp bY.1 hry,eq_false_of_ne_true hc,rfl,⟨g3⟩⟩
 ·refine⟨[],by decide,by simp,?_⟩
  refine lv 50 [] (.f<|.c (.tup [])<|.c (dl []) .r) (decide (wrap i64 ((k:Int)+1)<(length (map vi w):Int))=false/\F0 222 [D.v (V.list []),D.v (V.fn 223 [] [])] (D.tup [])/\F0 224 [D.v (V.list []),D.v (V.fn 36 [] [])] (dl [])/\D.v (V.list [])=dl (map vIs [])) ?_
  refine⟨?_,sortW_nil,CmW_nil _,rfl⟩
  rw[length_map,wrapN k (by omega)];exact decide_eq_false (by omega)
theorem pdr_ex(rk w:List Int)(hr:rk.length<=1000)(hw:w.length<=1000):∃ws:List (List Int),ws.length<=12/\(∀v∈ws,v.length<=12)/\Ab PP 215 [dIs rk,dIs w] σ0 (dl (ws.map vIs)) σ0:=by
 obtain⟨b,hb1,hb2⟩:=pvl_ex rk w hr hw
 cases b with
 |false=>
  refine⟨[],by decide,by simp,?_⟩
  refine sv fPDr 50 [] (.c (db false) .r) (F0 189 [dIs rk,dIs w] (db false)/\D.v (V.list [])=dl (map vIs [])) ?_
  exact⟨hb2,rfl⟩
 |true=>
  obtain⟨h12,hx⟩:=hb1 rfl
  obtain⟨ws,g1,g2,g3⟩:=pdr_loop0 rk w h12 hx _ 0 rfl (by omega)
  refine⟨ws,g1,g2,?_⟩
  refine sv fPDr 50 [] (.c (db true)<|.k<|.l [ke 0,ke 1,ke 5,ch 6 (di (0:Nat))]) (F0 189 [dIs rk,dIs w] (db true)/\di 0=di (↑0:Int)/\I0 fPDr σ0.H.length (dl (map vIs ws)) σ0 [kl cPDr [1,1,1,0,1,0,0],KI.blk 0,kc cPDr [1,1,1,1]] (mkE 50 [(0,dIs rk),(1,dIs w),(5,dn),(6,di (↑0:Int))]) σ0) ?_
  exact⟨hb2,rfl,⟨g3⟩⟩
noncomputable abbrev fCDr:Func:= Tryz.f195
theorem cdr_ex(m:Mod)(hr:m.ranks.length<=1000)(w:List Int)(hw:w.length<=1000):∃ws:List (List Int),ws.length<=12/\(∀v∈ws,v.length<=12)/\Ab PP 195 [Ah m,dIs w] σ0 (dl (ws.map vIs)) σ0:=by
 by_cases hk:(m.kind==3)=true
 ·obtain⟨ws,g1,g2,g3⟩:=pdr_ex m.ranks w hr hw
  refine⟨ws,g1,g2,?_⟩
  refine sv fCDr 14 [2] (.t<|.c (dl (ws.map vIs)) .r) ((m.kind==3)=true/\F0 215 [dIs m.ranks,dIs w] (dl (map vIs ws))/\D.v (V.list (map vIs ws))=dl (map vIs ws)) ?_
  exact⟨hk,g3,rfl⟩
 ·obtain⟨ws,g1,g2,g3⟩:=wdr_ex w hw
  refine⟨ws,g1,g2,?_⟩
  refine sv fCDr 14 [2] (.f<|.c (dl (ws.map vIs)) .r) ((m.kind==3)=false/\F0 216 [dIs w] (dl (map vIs ws))/\D.v (V.list (map vIs ws))=dl (map vIs ws)) ?_
  exact⟨eq_false_of_ne_true hk,g3,rfl⟩
noncomputable abbrev fLos:Func:= Tryz.f148
noncomputable def Dj:Code:=fLos.body.getD .skip
def stLo(outs:List Val):St:=match outs with
 |[]=>σ0
 |o::outs=>⟨[some (Aa ((o::outs).map eV))],[]⟩
def dLo(outs:List Val):D:=match outs with
 |[]=>.v .nils
 |o::outs=>.gro 0 (outs.length+1) 2
theorem dLo_ne{l:List Val}(h:l≠ []):dLo l=.gro 0 l.length 2:=by cases l with
 |nil=>exact absurd rfl h
 |cons=>rfl
theorem stLo_ne{l:List Val}(h:l≠ []):stLo l=⟨[some (Aa (l.map eV))],[]⟩:=by cases l with
 |nil=>exact absurd rfl h
 |cons=>rfl
theorem bs1V{o:Oper}{t:Nat}(x:Val)(τ:St)(ho:o.op=.buildSlice 29 1 #[(0,.tmp t)]):Ai PP o [dV x] τ (.v (.list [Ad x])) τ:=
 DL ho rfl rfl slV rfl (xs:=[Ad x]) rfl (fun y hy=>by rw[mem_singleton.1 hy];rfl) (by decide) (by decide) (by decide)
theorem EI(l:List Val):(Aa (l.map eV)).all D.one=true:=by
 induction l with
 |nil=>rfl
 |cons x l ih=>rw[A5,List.all_append,ih];rfl
theorem flatV_snoc(l:List Val)(x:Val):Aa (l.map eV)++[D.v (vi x.n),D.v (vVs x.kids)]=Aa ((l++[x]).map eV):=by rw[FE,A5];rfl
def LosP(l:List Val):Prop:=l.length<=200/\∀v∈l,v.size<=1000
theorem los_in(m:Mod)(c s0 x:Val)(k:Nat)(hk2:k<=1000)(hc:c.size<=128)(h0:c.kids[0]?=some s0)(hx:c.kids[1+k]?=some x)(ws:List (List Int))(hw:ws.length<=12)(hws:∀v∈ws,v.length<=12)(B:Nat)(hB2:B<=1000)
  (hK:∀outs:List Val,outs.length<=B->(∀v∈outs,v.size<=1000)->∃l,LosP l/\Rn PP fLos 0 (dLP (l,0)) σ0 ([.lp (sub Dj [1,1,1,0,1,0,0]),.blk 0,.code (sub Dj [1,1,1,1])]++[]) (mkE 51 [(2,.v (.ref (AE m))),(3,.v (.ref (Ad c))),(7,dLo outs),(20,di m.places.length),(21,di (k+1:Nat))]) (stLo outs)) (n:Nat):
  ∀(j:Nat) (outs:List Val),ws.length-j=n->outs.length+(ws.length-j)<=B->(∀v∈outs,v.size<=1000)->∃l,LosP l/\Rn PP fLos 0 (dLP (l,0)) σ0 ([.lp (sub Dj [1,1,1,0,1,0,0,1,1,0,0,1,1,0,0]),.blk 2,.blk 1,.code (sub Dj [1,1,1,0,1,0,0,1,1,1]),.lp (sub Dj [1,1,1,0,1,0,0]),.blk 0,.code (sub Dj [1,1,1,1])]++[]) (mkE 51 [(2,.v (.ref (AE m))),(3,.v (.ref (Ad c))),(7,dLo outs),(8,di k),(20,di m.places.length),(21,di k),(28,dl (ws.map vIs)),(29,di ws.length),(30,di j)]) (stLo outs):=by
 induction n with
 |zero=>
  intro j outs hn hB hs
  obtain⟨l,l1,l2⟩:=hK outs (by omega) hs
  refine⟨l,l1,?_⟩
  by_cases hne:outs=[]
  ·subst hne
   rw[show dLo ([]:List Val)=D.v V.nils from rfl,show stLo []=σ0 from rfl] at l2⊢
   refine lv 51 [2,3] (.f<|.l [ke 2,ke 3,ke 7,ke 20,ch 21 (di (k+1:Nat))]) (decide ((j:Int)<(ws.length:Int))=false/\di (wrap i64 ((k:Int)+1))=di (↑(k+1):Int)/\I0 fLos 0 (dLP (l,0)) σ0 [kl Dj [1,1,1,0,1,0,0],KI.blk 0,kc Dj [1,1,1,1]] (mkE 51 [(2,D.v (V.ref (AE m))),(3,D.v (V.ref (Ad c))),(7,dn),(20,di (m.places.length:Int)),(21,di (↑(k+1):Int))]) σ0) ?_
   exact⟨decide_eq_false (by omega),Af (by omega),⟨l2⟩⟩
  ·rw[dLo_ne hne,stLo_ne hne] at l2⊢
   refine lv 51 [2,3] (.f<|.lo [ke 2,ke 3,ke 7,ke 20,ch 21 (di (k+1:Nat))] ⟨[some (Aa (outs.map eV))],[]⟩) (decide ((j:Int)<(ws.length:Int))=false/\di (wrap i64 ((k:Int)+1))=di (↑(k+1):Int)/\okH 1 [] [some (Aa (map eV outs))]=true/\Q [some (Aa (map eV outs))]/\I0 fLos 0 (dLP (l,0)) σ0 [kl Dj [1,1,1,0,1,0,0],KI.blk 0,kc Dj [1,1,1,1]] (mkE 51 [(2,D.v (V.ref (AE m))),(3,D.v (V.ref (Ad c))),(7,D.gro 0 outs.length 2),(20,di (m.places.length:Int)),(21,di (↑(k+1):Int))]) (St.mk [some (Aa (map eV outs))] [])) ?_
   exact⟨decide_eq_false (by omega),Af (by omega),Bool.and_eq_true_iff.2 ⟨Ag 1 [] _,rfl⟩,rfl,⟨l2⟩⟩
 |succ n ih=>
  intro j outs hn hB hs
  obtain⟨w,hw1⟩:∃w,ws[j]?=some w:=⟨_,getElem?_eq_getElem (show j<ws.length by omega)⟩
  have hwl:=hws w (mem_of_getElem? hw1)
  have hsp:=with_spec c (by omega) s0 x k h0 hx s0.n w (by omega)
  have hsz:=withL_size h0 hx s0.n w c.n
  have hcs:=c.size_eq
  generalize Val.mk c.n (BA c.kids s0 x s0.n (1+k) w)=v at hsp hsz
  have hx0:(c.kids.map eV)[Int.toNat 0]?=some (Ad s0):=Az (i:=0) h0
  obtain⟨l,l1,l2⟩:=ih (j+1) (outs++[v]) (by omega) (by simp only[length_append,length_cons,length_nil];omega) (fun y hy=>by
   rcases mem_append.1 hy with h|h
   ·exact hs y h
   ·rw[mem_singleton.1 h];omega)
  refine⟨l,l1,?_⟩
  rw[dLo_ne (by simp),stLo_ne (by simp)] at l2
  by_cases hne:outs=[]
  ·subst hne
   rw[show dLo ([]:List Val)=D.v V.nils from rfl,show stLo []=σ0 from rfl]
   refine lv 51 [2,3] (.t<|.x (vIs w)<|.h (.xs (Ad s0))<|.c (dV v)<|.h (.p (.v (.list [Ad v])))<|.h .g<|.lo [ke 2,ke 3,ch 7 (.gro 0 1 2),ke 8,ke 20,ke 21,ke 28,ke 29,ch 30 (di (j+1:Nat))] ⟨[some (Aa ([v].map eV))],[]⟩) (decide ((j:Int)<(ws.length:Int))=true/\0<=(j:Int)/\(map vIs ws)[Int.toNat (j:Int)]?=some (vIs w)/\Q 2/\iz 0<=0/\(map eV c.kids)[Int.toNat 0]?=some (Ad s0)/\F0 169 [dV c,di s0.n,di (k:Int),dIs w] (dV v)/\(∀(τ:St),Ai PP (Oper.mk (some 44) (Op.buildSlice 29 1 #[(0,Operand.tmp 43)]) 29 "channel.go:118" #[Edge.mk 9 Ground.data] none) [dV v] τ (D.v (V.list [Ad v])) τ)/\[Ad v]≠ []/\(∀(y:V),y∈ [Ad v]->V.size y=2)/\Ar 1 32/\Q (D.gro 0 1 2)/\di (wrap i64 ((j:Int)+1))=di (↑(j+1):Int)/\okH 1 [] [some [di v.n,dVs v.kids]]=true/\[some [di v.n,dVs v.kids]]=[some (Aa (eV v::nV))]/\I0 fLos 0 (dLP (l,0)) σ0 [kl Dj [1,1,1,0,1,0,0,1,1,0,0,1,1,0,0],KI.blk 2,KI.blk 1,kc Dj [1,1,1,0,1,0,0,1,1,1],kl Dj [1,1,1,0,1,0,0],KI.blk 0,kc Dj [1,1,1,1]] (mkE 51 [(2,D.v (V.ref (AE m))),(3,D.v (V.ref (Ad c))),(7,D.gro 0 1 2),(8,di (k:Int)),(20,di (m.places.length:Int)),(21,di (k:Int)),(28,D.v (V.list (map vIs ws))),(29,di (ws.length:Int)),(30,di (↑(j+1):Int))]) (St.mk [some (Aa [eV v])] [])) ?_
   refine⟨decide_eq_true (by omega),by omega,by rw[Int.toNat_natCast,getElem?_map,hw1];rfl,rfl,Int.le_refl _,hx0,hsp,fun τ=>bs1V v τ rfl,by simp,fun y hy=>by rw[mem_singleton.1 hy];rfl,⟨by decide,by decide⟩,rfl,Af (by omega),rfl,?_,⟨l2⟩⟩
   show [some [di v.n,D.v (vVs v.kids)]]=[some (Aa ([v].map eV))]
   rw[A5];rfl
  ·rw[dLo_ne hne,stLo_ne hne]
   refine lv 51 [2,3] (.t<|.x (vIs w)<|.h (.xs (Ad s0))<|.c (dV v)<|.lo [ke 2,ke 3,ch 7 (.gro 1 (outs.length+1) 2),ke 8,ke 20,ke 21,ke 28,ke 29,ch 30 (di (j+1:Nat))] ⟨[none,some (Aa ((outs++[v]).map eV))],[]⟩) (decide ((j:Int)<(ws.length:Int))=true/\0<=(j:Int)/\(map vIs ws)[Int.toNat (j:Int)]?=some (vIs w)/\Q 2/\iz 0<=0/\(map eV c.kids)[Int.toNat 0]?=some (Ad s0)/\F0 169 [dV c,di s0.n,di (k:Int),dIs w] (dV v)/\length (Aa (map eV outs))=length outs*2/\[Ad v]≠ []/\(∀(y:V),y∈ [Ad v]->V.size y=2)/\Ar (length outs+length (Ad v::nV)) 32/\D.gro 1 (length outs+length (Ad v::nV)) 2=D.gro 1 (length outs+1) 2/\di (wrap i64 ((j:Int)+1))=di (↑(j+1):Int)/\okH 2 [] [none,some (Aa (map eV outs)++[di v.n,dVs v.kids])]=true/\[none,some (Aa (map eV outs)++[di v.n,dVs v.kids])]=[none,some (Aa (map eV (outs++[v])))]/\I0 fLos 0 (dLP (l,0)) σ0 [kl Dj [1,1,1,0,1,0,0,1,1,0,0,1,1,0,0],KI.blk 2,KI.blk 1,kc Dj [1,1,1,0,1,0,0,1,1,1],kl Dj [1,1,1,0,1,0,0],KI.blk 0,kc Dj [1,1,1,1]] (mkE 51 [(2,D.v (V.ref (AE m))),(3,D.v (V.ref (Ad c))),(7,D.gro 1 (length outs+1) 2),(8,di (k:Int)),(20,di (m.places.length:Int)),(21,di (k:Int)),(28,D.v (V.list (map vIs ws))),(29,di (ws.length:Int)),(30,di (↑(j+1):Int))]) (St.mk [none,some (Aa (map eV (outs++[v])))] [])) ?_
   rw[flatV_snoc]
   refine⟨decide_eq_true (by omega),by omega,by rw[Int.toNat_natCast,getElem?_map,hw1];rfl,rfl,Int.le_refl _,hx0,hsp,BO _,by simp,fun y hy=>by rw[mem_singleton.1 hy];rfl,⟨?_,?_⟩,rfl,Af (by omega),?_,rfl,⟨?_⟩⟩
   ·simp only[length_cons,length_nil];omega
   ·simp only[length_cons,length_nil];omega
   ·simp[okH,D.okNs,D.okN,Ag]
   ·rw[length_append] at l2
    refine D3 (H0:=[none]) (fun E0 E h=>h.2) 1 rfl (fun cs hc=>?_) ?_ ?_ l2
    ·simp at hc;rw[hc];exact As _
    ·simp[mkE,D.okNs,D.okN]
    ·simp[mkE,D.rens,D.ren]
theorem los_out(m:Mod)(c s0:Val)(hc:c.size<=128)(hr:m.ranks.length<=1000)(hp:m.places.length<=2)(h0:c.kids[0]?=some s0)(hl:c.kids.length=1+m.places.length)(hw:∀(k:Nat) (x:Val),c.kids[1+k]?=some x->x.kids.length<=12)(n:Nat):
  ∀(k:Nat) (outs:List Val),m.places.length-k=n->k<=m.places.length->outs.length<=12*k->(∀v∈outs,v.size<=1000)->∃l,LosP l/\Rn PP fLos 0 (dLP (l,0)) σ0 ([.lp (sub Dj [1,1,1,0,1,0,0]),.blk 0,.code (sub Dj [1,1,1,1])]++[]) (mkE 51 [(2,.v (.ref (AE m))),(3,.v (.ref (Ad c))),(7,dLo outs),(20,di m.places.length),(21,di k)]) (stLo outs):=by
 induction n with
 |zero=>
  intro k outs hn hkp ho hs
  cases outs with
  |nil=>
   refine⟨[],⟨by decide,by simp⟩,?_⟩
   rw[show dLo ([]:List Val)=D.v V.nils from rfl,show stLo []=σ0 from rfl]
   refine lv 51 [2,3] (.f<|.c (.tup []) .r) (decide ((k:Int)<(m.places.length:Int))=false/\F0 31 [D.v (V.list []),D.v (V.fn 32 [] [])] (D.tup [])/\D.tup [D.v (V.list []),di 0]=dLP ([],0)) ?_
   exact⟨decide_eq_false (by omega),sortV_nil,rfl⟩
  |cons o outs=>
   refine⟨sortV (o::outs),⟨by rw[(AL _).length_eq];omega,fun v hv=>hs v ((AL _).mem_iff.1 hv)⟩,?_⟩
   rw[show dLo (o::outs)=D.gro 0 (o::outs).length 2 from rfl,show stLo (o::outs)=⟨[some (Aa ((o::outs).map eV))],[]⟩ from rfl]
   generalize o::outs=ol at*
   refine lv 51 [2,3] (.f<|.h (.q 14 0)<|.h (.ga 7)<|.h (.oc (.tup []) ⟨[some (Aa ((sortV ol).map eV))],[]⟩)<|.h (.q 15 1)<|.h (.ct 50 (dVs (sortV ol)) ⟨[none],[]⟩) .r) (decide ((k:Int)<(m.places.length:Int))=false/\(∀(o:Oper) (c:Call) (fo:Operand),o.op=Op.call c->c.callee=Callee.value fo->Ai PP o [D.v (V.fn 31 [] []),D.arr 0 0 ol.length,D.v (V.fn 32 [] [])] (St.mk [some (Aa (map eV ol))] []) (D.tup []) (St.mk [some (Aa (map eV (sortV ol)))] []))/\(∀(e:List D),e[50]?=some (D.arr 0 0 ol.length)->∀(E:Ent) (g:Gh) (a:Act) (w:World),FI E g (St.mk [some (Aa (map eV (sortV ol)))] []) e a w->∃g',FI E g' (St.mk [none] []) (List.set e 50 (dVs (sortV ol))) a w)/\D.tup [D.v (vVs (sortV ol)),di 0]=dLP (sortV ol,0)) ?_
   have hsl:(sortV ol).length=ol.length:=(AL ol).length_eq
   refine⟨decide_eq_false (by omega),fun o cl fo hop hc=>?_,fun e he=>?_,rfl⟩
   ·exact C5 (H:=[Aa (ol.map eV)]) hop hc (fs:=[]) (cs:=[]) (ds:=[.arr 0 0 ol.length,dfn 32]) rfl (EB ol (by omega) (fun v hv=>by have:=hs v hv;omega)) rfl (fun cs hm=>by rw[mem_singleton.1 hm];exact⟨Ag _ _ _,EI _⟩) rfl (Bool.and_eq_true_iff.2 ⟨Ag _ _ _,rfl⟩) (Nat.le_refl _)
   ·exact cv_flz (σ:=⟨[some (Aa ((sortV ol).map eV))],[]⟩) (q:=0) (sz:=2) (by decide) (Dl _) (by rw[length_map,hsl]) rfl he
 |succ n ih=>
  intro k outs hn hkp ho hs
  obtain⟨x,hx⟩:∃x,c.kids[1+k]?=some x:=⟨_,getElem?_eq_getElem (by omega)⟩
  have hx12:=hw k x hx
  have hct:=cont_spec c k x hx (by omega) (by omega)
  obtain⟨ws,w1,w2,w3⟩:=cdr_ex m hr (B1 x) (by rw[length_map];omega)
  obtain⟨l,l1,l2⟩:=los_in m c s0 x k (by omega) hc h0 hx ws w1 w2 (12*(k+1)) (by omega) (fun outs' h1 h2=>ih (k+1) outs' (by omega) (by omega) h1 h2) _ 0 outs rfl (by omega) hs
  refine⟨l,l1,?_⟩
  cases outs with
  |nil=>
   rw[show dLo ([]:List Val)=D.v V.nils from rfl,show stLo []=σ0 from rfl] at l2⊢
   refine lv 51 [2,3] (.t<|.c (dIs (B1 x))<|.c (dl (ws.map vIs))<|.l [ke 2,ke 3,ke 7,ke 8,ke 20,ke 21,ke 28,ch 29 (di ws.length),ch 30 (di (0:Nat))]) (decide ((k:Int)<(m.places.length:Int))=true/\F0 168 [dV c,di (k:Int)] (dIs (B1 x))/\F0 195 [Ah m,D.v (vIs (B1 x))] (dl (map vIs ws))/\di (length (map vIs ws):Int)=di (ws.length:Int)/\di 0=di (↑0:Int)/\I0 fLos 0 (dLP (l,0)) σ0 [kl Dj [1,1,1,0,1,0,0,1,1,0,0,1,1,0,0],KI.blk 2,KI.blk 1,kc Dj [1,1,1,0,1,0,0,1,1,1],kl Dj [1,1,1,0,1,0,0],KI.blk 0,kc Dj [1,1,1,1]] (mkE 51 [(2,D.v (V.ref (AE m))),(3,D.v (V.ref (Ad c))),(7,dn),(8,di (k:Int)),(20,di (m.places.length:Int)),(21,di (k:Int)),(28,dl (map vIs ws)),(29,di (ws.length:Int)),(30,di (↑0:Int))]) (St.mk [] [])) ?_
   exact⟨decide_eq_true (by omega),hct,w3,by rw[length_map],rfl,⟨l2⟩⟩
  |cons o outs=>
   rw[dLo_ne (by simp),stLo_ne (by simp)] at l2⊢
   generalize o::outs=ol at*
   refine lv 51 [2,3] (.t<|.c (dIs (B1 x))<|.c (dl (ws.map vIs))<|.l [ke 2,ke 3,ke 7,ke 8,ke 20,ke 21,ke 28,ch 29 (di ws.length),ch 30 (di (0:Nat))]) (decide ((k:Int)<(m.places.length:Int))=true/\F0 168 [dV c,di (k:Int)] (dIs (B1 x))/\F0 195 [Ah m,D.v (vIs (B1 x))] (dl (map vIs ws))/\di (length (map vIs ws):Int)=di (ws.length:Int)/\di 0=di (↑0:Int)/\I0 fLos 0 (dLP (l,0)) σ0 [kl Dj [1,1,1,0,1,0,0,1,1,0,0,1,1,0,0],KI.blk 2,KI.blk 1,kc Dj [1,1,1,0,1,0,0,1,1,1],kl Dj [1,1,1,0,1,0,0],KI.blk 0,kc Dj [1,1,1,1]] (mkE 51 [(2,D.v (V.ref (AE m))),(3,D.v (V.ref (Ad c))),(7,D.gro 0 ol.length 2),(8,di (k:Int)),(20,di (m.places.length:Int)),(21,di (k:Int)),(28,dl (map vIs ws)),(29,di (ws.length:Int)),(30,di (↑0:Int))]) (St.mk [some (Aa (map eV ol))] [])) ?_
   exact⟨decide_eq_true (by omega),hct,w3,by rw[length_map],rfl,⟨l2⟩⟩
theorem los_ex(m:Mod)(t:Typ)(hm:ChM m t)(hr:m.ranks.length<=1000)(c:Val)(hv:Au t c=true):∃l:List Val,LosP l/\Ab PP 148 [Ah m,dV c] σ0 (dLP (l,0)) σ0:=by
 have hsh:=hm.shape c hv
 have hsz:=hsh.size
 have hck:=cchk_1 m t hm c (by omega)
 rw[chkC,if_pos hv] at hck
 obtain⟨s0,h0⟩:∃x,c.kids[0]?=some x:=⟨_,getElem?_eq_getElem (by rw[hsh.len];omega)⟩
 obtain⟨l,l1,l2⟩:=los_out m c s0 hsz hr hm.few.2 h0 hsh.len hsh.word _ 0 [] rfl (by omega) (by simp) (by simp)
 refine⟨l,l1,?_⟩
 rw[show dLo ([]:List Val)=D.v V.nils from rfl,show stLo []=σ0 from rfl] at l2
 refine sv fLos 51 [2,3] (.c (di 0)<|.k<|.l [ke 2,ke 3,ke 7,ch 20 (di m.places.length),ch 21 (di (0:Nat))]) (F0 194 [Ah m,D.v (V.list [Ad c])] (di 0)/\di (length (map V.str m.places):Int)=di (m.places.length:Int)/\di 0=di (↑0:Int)/\I0 fLos σ0.H.length (dLP (l,0)) σ0 [kl Dj [1,1,1,0,1,0,0],KI.blk 0,kc Dj [1,1,1,1]] (mkE 51 [(2,D.v (V.ref (AE m))),(3,D.v (V.ref (Ad c))),(7,dn),(20,di (m.places.length:Int)),(21,di (↑0:Int))]) σ0) ?_
 exact⟨hck,by rw[length_map],rfl,⟨l2⟩⟩
end Go.Proofs.YtcjhkglbdahfgaaGreat
