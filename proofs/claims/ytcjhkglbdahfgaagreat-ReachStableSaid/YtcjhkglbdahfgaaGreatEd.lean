/-
  A part of the proof.
-/
import Derived.Test.YtcjhkglbdahfgaaGreatEc
namespace Go.Proofs.YtcjhkglbdahfgaaGreat
open Go.Dv Go.Nv
set_option maxRecDepth 20000
open List (all_eq_true append_assoc append_nil cons_append drop_eq_getElem_cons drop_of_length_le drop_zero ext_getElem? flatMap_cons flatten flatten_cons foldl_cons getD_eq_getElem?_getD getElem?_append_left getElem?_append_right getElem?_drop getElem?_eq_getElem getElem?_eq_none getElem?_map getElem?_set getElem?_take getElem?_toArray length length_append length_cons length_drop length_map length_nil length_pos_iff length_set length_take map map_append map_cons map_map map_nil mem_append mem_cons mem_map mem_of_getElem? mem_of_mem_drop mem_of_mem_take mem_or_eq_of_mem_set mem_singleton nil_append not_mem_nil replicate replicate_succ set_cons_succ set_cons_zero size_toArray take take_add_one take_append_drop take_left take_of_length_le take_succ_cons zipWith)
open Go.IntKind (wrap i64 u64)
noncomputable abbrev fIxT:Func:= Tryz.f213
noncomputable def cIxT:Code:=fIxT.body.getD .skip
theorem ixT_loop(F:FuncId)(fs cs:List V)(p:Typ->Bool)(l:List (Typ))(hl:l.length<=1000000)(hp:∀x∈l,Ab PP F ((fs++[vT x]++cs).map .v) σ0 (db (p x)) σ0)(n:Nat):∀k:Nat,l.length-k=n->
  Rn PP fIxT 0 (di (ixM p (l.drop k) k)) σ0 ([.lp (sub cIxT [1,0,1,0,0]),.blk 0,.code (sub cIxT [1,1])]++[]) (mkE 19 [(0,dl (l.map eT)),(1,.v (.fn F fs cs)),(7,di l.length),(8,di k)]) σ0:=by
 induction n using Nat.strongRecOn with
 |_ n ih=>
 intro k hn
 refine lv 19 [] (.b (.e fun x:Typ=>.x (vT x)<|.c (db (p x))<|.b .r (.l [ke 0,ke 1,ke 7,ch 8 (di (k+1:Nat))])) .r) ((decide ((k:Int)<(l.length:Int))=true->∃a,0<=(k:Int)/\(map eT l)[Int.toNat (k:Int)]?=some (vT a)/\Ab PP F (map D.v (fs++[vT a]++cs)) (St.mk [] []) (db (p a)) (St.mk [] [])/\(p a=true->di (k:Int)=di (ixM p (List.drop k l) k))/\(p a=false->di (wrap i64 ((k:Int)+1))=di (↑(k+1):Int)/\Nv.It (A2 (CN 0) PP (fun env σ1=>A8 PP fIxT env σ1 (di (ixM p (List.drop k l) k)) σ0) [kl cIxT [1,0,1,0,0],KI.blk 0,kc cIxT [1,1]] (mkE 19 [(0,D.v (V.list (map eT l))),(1,D.v (V.fn F fs cs)),(7,di (l.length:Int)),(8,di (↑(k+1):Int))]) σ0)))/\(decide ((k:Int)<(l.length:Int))=false->di (-1)=di (ixM p (List.drop k l) k))) ?_
 refine⟨fun h=>?_,fun h=>?_⟩
 ·have hk:k<l.length:=by simpa using h
  have hx:l[k]?=some l[k]:=getElem?_eq_getElem hk
  rw[drop_eq_getElem_cons hk]
  generalize l[k]=x at hx⊢
  refine⟨x,by omega,idx_typ hx,hp x (mem_of_getElem? hx),fun hf=>by simp[ixM,hf],fun hf=>⟨Af (by omega),⟨?_⟩⟩⟩
  simp only[ixM,hf]
  exact ih (l.length- (k+1)) (by omega) (k+1) rfl
 ·have hk:l.length<=k:=by simpa using h
  rw[drop_of_length_le hk];rfl
theorem ixT_spec(F:FuncId)(fs cs:List V)(p:Typ->Bool)(l:List (Typ))(hl:l.length<=1000000)(hp:∀x∈l,Ab PP F ((fs++[vT x]++cs).map .v) σ0 (db (p x)) σ0):
  Ab PP 213 [dl (l.map eT),.v (.fn F fs cs)] σ0 (di (ixM p l 0)) σ0:=by
 refine sv fIxT 19 [] (.l [ke 0,ke 1,ch 7 (di l.length),ch 8 (di (0:Nat))]) (di (length (map eT l):Int)=di (l.length:Int)/\di 0=di (↑0:Int)/\I0 fIxT σ0.H.length (di (ixM p l 0)) σ0 [kl cIxT [1,0,1,0,0],KI.blk 0,kc cIxT [1,1]] (mkE 19 [(0,dl (map eT l)),(1,D.v (V.fn F fs cs)),(7,di (l.length:Int)),(8,di (↑0:Int))]) σ0) ?_
 refine⟨by simp,rfl,⟨?_⟩⟩
 exact ixT_loop F fs cs p l hl hp _ 0 rfl
noncomputable abbrev fHasT:Func:= Tryz.f190
theorem hasT_spec(F:FuncId)(fs cs:List V)(p:Typ->Bool)(l:List (Typ))(hl:l.length<=1000000)(hp:∀x∈l,Ab PP F ((fs++[vT x]++cs).map .v) σ0 (db (p x)) σ0):
  Ab PP 190 [dl (l.map eT),.v (.fn F fs cs)] σ0 (db (l.any p)) σ0:=by
 refine sv fHasT 9 [] (.c (di (ixM p l 0)) .r) (F0 213 [D.v (V.list (map eT l)),D.v (V.fn F fs cs)] (di (ixM p l 0))/\db (decide (ixM p l 0>=0))=db (List.any l p)) ?_
 exact⟨ixT_spec F fs cs p l hl hp,by rw[←Hk]⟩
noncomputable abbrev fRkd:Func:= Tryz.f211
noncomputable abbrev fRkd1:Func:= Tryz.f220
noncomputable abbrev fPVal:Func:= Tryz.f189
def rk1B(x:Int):Bool:=decide (x<0)||decide (x>=6)
theorem rk1_spec(x:Int):Ab PP 220 [di x] σ0 (db (rk1B x)) σ0:=by
 refine sv fRkd1 9 [] (.b .r .r) ((decide (x<0)=true->db true=db (rk1B x))/\(decide (x<0)=false->db (decide (x>=6))=db (rk1B x))) ?_
 refine⟨fun h=>?_,fun h=>?_⟩<;>simp[rk1B, *]
def FB(r:List Int):Bool:=decide ((r.length:Int)>=1)&&(decide ((r.length:Int)<=6)&& !(r.any rk1B))
theorem rkd_spec(r:List Int):Ab PP 211 [dIs r] σ0 (db (FB r)) σ0:=by
 refine sv fRkd 16 [] (.b (.b (.c (db (r.any rk1B)) .r) .r) .r) ((decide ((length (map vi r):Int)>=1)=true->(decide ((length (map vi r):Int)<=6)=true->F0 118 [dIs r,D.v (V.fn 220 [] [])] (db (List.any r rk1B))/\(db !List.any r rk1B)=db (FB r))/\(decide ((length (map vi r):Int)<=6)=false->db false=db (FB r)))/\(decide ((length (map vi r):Int)>=1)=false->db false=db (FB r))) ?_
 refine⟨fun h1=>⟨fun h2=>⟨Cw _ [] [] rk1B r (by have h2:=of_decide_eq_true h2;rw[length_map] at h2;omega) fun x _=>rk1_spec x,?_⟩,fun h2=>?_⟩,fun h1=>?_⟩<;>(try simp only[length_map] at*)<;>simp only[FB,h1,Bool.true_and,Bool.false_and]<;>simp only[h2,Bool.true_and,Bool.false_and]
theorem pval_nil(r:List Int)(h:FB r=true):Ab PP 189 [dIs r,dl []] σ0 (db true) σ0:=by
 refine sv fPVal 18 [2] (.c (db (FB r))<|.t<|.k<|.c (db false) .r) (F0 211 [dIs r] (db (FB r))/\FB r=true/\F0 118 [D.v (V.list []),D.v (V.fn 212 [] [V.ref (vIs r)])] (db false)/\(db !false)=db true) ?_
 exact⟨rkd_spec r,h,Cw _ [] [_] (fun _=>false) [] (by simp) (fun x hx=>by simp at hx),rfl⟩
noncomputable abbrev fRt:Func:= Tryz.f140
noncomputable abbrev fRt1:Func:= Tryz.f191
def Dd:Nat->Typ->Bool
 |0,_=>false
 |d+1,.nat=>true
 |d+1,.lab n=>decide (n>=1)&&decide (n<=16)
 |d+1,.prio n r=>(n==r.length)&&FB r
 |d+1,.word t=>Dd d t
 |d+1,.bag t=>Dd d t
 |d+1,.prod l=> !((l.length:Int)==0)&&(!decide ((l.length:Int)>8)&&l.all (Dd d))
theorem G9(t:Typ)(d:Nat)(hd:d<=100)(h:Ab PP 140 [dT t,di d] σ0 (db true) σ0):Ab PP 191 [dT t,.v (.ref (vi ((d+1:Nat):Int)))] σ0 (db false) σ0:=by
 refine sv fRt1 9 [2] (.c (db true) .r) (F0 140 [D.v (vT t),di (wrap i64 ((↑(d+1):Int)-1))] (db true)/\(db !true)=db false) ?_
 refine⟨?_,rfl⟩
 rw[show i64.wrap (((d+1:Nat):Int)-1)=d by rw[Aj (by omega) (by omega)];omega]
 exact h
theorem right_nat(d:Nat):Ab PP 140 [dT .nat,di ((d+1:Nat):Int)] σ0 (db true) σ0:=by
 refine sv fRt 94 [2,3] (.f .r) (((↑(d+1):Int)==0)=false/\db (Typ.sz Typ.nat==0)=db true) ?_
 have hz:(((d+1:Nat):Int)==0)=false:=beq_eq_false_iff_ne.2 (by omega)
 exact⟨hz,rfl⟩
theorem right_lab(d:Nat)(n:Int)(h1:1<=n)(h2:n<=16):Ab PP 140 [dT (.lab n),di ((d+1:Nat):Int)] σ0 (db true) σ0:=by
 refine sv fRt 94 [2,3] (.f<|.k<|.k<|.k<|.k<|.k<|.k<|.t .r) (((↑(d+1):Int)==0)=false/\decide (Typ.sz (Typ.lab n)>=1)=true/\db (decide (Typ.sz (Typ.lab n)<=16))=db true) ?_
 have hz:(((d+1:Nat):Int)==0)=false:=beq_eq_false_iff_ne.2 (by omega)
 exact⟨hz,decide_eq_true h1,congrArg db (decide_eq_true h2)⟩
theorem right_prio(d:Nat)(n:Int)(r:List Int)(h1:n=r.length)(h2:FB r=true):Ab PP 140 [dT (.prio n r),di ((d+1:Nat):Int)] σ0 (db true) σ0:=by
 refine sv fRt 94 [2,3] (.f<|.t<|.k<|.k<|.k<|.k<|.k<|.k<|.t<|.c (db true) .r) (((↑(d+1):Int)==0)=false/\decide ((length (map vi (Typ.rk (Typ.prio n r))):Int)>0)=true/\(Typ.sz (Typ.prio n r)==(length (map vi (Typ.rk (Typ.prio n r))):Int))=true/\F0 189 [D.v (vIs (Typ.rk (Typ.prio n r))),D.v (V.list [])] (db true)/\Q (db true)) ?_
 have hz:(((d+1:Nat):Int)==0)=false:=beq_eq_false_iff_ne.2 (by omega)
 have h3:=h2
 simp only[FB,Bool.and_eq_true,decide_eq_true_eq] at h3
 refine⟨hz,decide_eq_true ?_,?_,pval_nil r h2,rfl⟩
 ·simp only[Typ.rk,length_map];omega
 ·simp only[Typ.sz,Typ.rk,length_map,h1,beq_self_eq_true]
theorem right_word(d:Nat)(t:Typ)(hd:d<=100)(h:Ab PP 140 [dT t,di d] σ0 (db true) σ0):Ab PP 140 [dT (.word t),di ((d+1:Nat):Int)] σ0 (db true) σ0:=by
 refine sv fRt 94 [2,3] (.f<|.c (db false) .r) (((↑(d+1):Int)==0)=false/\F0 190 [D.v (V.list [eT t]),D.v (V.fn 191 [] [V.ref (vi (↑(d+1):Int))])] (db false)/\(db !false)=db true) ?_
 have hz:(((d+1:Nat):Int)==0)=false:=beq_eq_false_iff_ne.2 (by omega)
 exact⟨hz,hasT_spec _ [] [_] (fun _=>false) [t] (by simp) (fun x hx=>by rw[mem_singleton.1 hx];exact G9 t d hd h),rfl⟩
theorem right_bag(d:Nat)(t:Typ)(hd:d<=100)(h:Ab PP 140 [dT t,di d] σ0 (db true) σ0):Ab PP 140 [dT (.bag t),di ((d+1:Nat):Int)] σ0 (db true) σ0:=by
 refine sv fRt 94 [2,3] (.f<|.c (db false) .r) (((↑(d+1):Int)==0)=false/\F0 190 [D.v (V.list [eT t]),D.v (V.fn 191 [] [V.ref (vi (↑(d+1):Int))])] (db false)/\(db !false)=db true) ?_
 have hz:(((d+1:Nat):Int)==0)=false:=beq_eq_false_iff_ne.2 (by omega)
 exact⟨hz,hasT_spec _ [] [_] (fun _=>false) [t] (by simp) (fun x hx=>by rw[mem_singleton.1 hx];exact G9 t d hd h),rfl⟩
theorem right_prod(d:Nat)(l:List Typ)(hd:d<=100)(h1:((l.length:Int)==0)=false)(h2:decide ((l.length:Int)>8)=false)(h:∀t∈l,Ab PP 140 [dT t,di d] σ0 (db true) σ0):Ab PP 140 [dT (.prod l),di ((d+1:Nat):Int)] σ0 (db true) σ0:=by
 refine sv fRt 94 [2,3] (.f<|.k<|.k<|.k<|.k<|.k<|.k<|.k<|.k<|.f<|.f<|.c (db false) .r) (((↑(d+1):Int)==0)=false/\((length (map eT (Typ.ps (Typ.prod l))):Int)==0)=false/\decide ((length (map eT (Typ.ps (Typ.prod l))):Int)>8)=false/\F0 190 [D.v (V.list (map eT (Typ.ps (Typ.prod l)))),D.v (V.fn 191 [] [V.ref (vi (↑(d+1):Int))])] (db false)/\(db !false)=db true) ?_
 have hz:(((d+1:Nat):Int)==0)=false:=beq_eq_false_iff_ne.2 (by omega)
 refine⟨hz,by simpa[Typ.ps] using h1,by simpa[Typ.ps] using h2,?_,rfl⟩
 have h3:¬((l.length:Int)>8):=of_decide_eq_false h2
 have:=hasT_spec 191 [] [.ref (vi ((d+1:Nat):Int))] (fun _=>false) l (by omega) (fun x hx=>G9 x d hd (h x hx))
 rw[show l.any (fun _=>false)=false by induction l<;>simp_all] at this
 exact this
theorem FU:∀(d:Nat) (t:Typ),d<=100->Dd d t=true->Ab PP 140 [dT t,di d] σ0 (db true) σ0
 |0,t,_,h=>by simp[Dd] at h
 |d+1,.nat,_,h=>right_nat d
 |d+1,.lab n,_,h=>by
  simp only[Dd,Bool.and_eq_true,decide_eq_true_eq] at h
  exact right_lab d n h.1 h.2
 |d+1,.prio n r,_,h=>by
  simp only[Dd,Bool.and_eq_true,beq_iff_eq] at h
  exact right_prio d n r h.1 h.2
 |d+1,.word t,hd,h=>right_word d t (by omega) (FU d t (by omega) (by simpa only[Dd] using h))
 |d+1,.bag t,hd,h=>right_bag d t (by omega) (FU d t (by omega) (by simpa only[Dd] using h))
 |d+1,.prod l,hd,h=>by
  simp only[Dd,Bool.and_eq_true,Bool.not_eq_true',all_eq_true] at h
  exact right_prod d l (by omega) h.1 h.2.1 fun t ht=>FU d t (by omega) (h.2.2 t ht)
noncomputable abbrev fOChk:Func:= Tryz.f99
theorem ochk_spec(t:Typ)(h:Dd 8 t=true):Ab PP 99 [dT t] σ0 (di 0) σ0:=by
 refine sv fOChk 6 [1] (.c (db true) .r) (F0 140 [D.v (vT t),di 8] (db true)/\Q (di 0)) ?_
 exact⟨FU 8 t (by omega) h,rfl⟩
noncomputable abbrev fCnt:Func:= Tryz.f141
noncomputable def cCnt:Code:=fCnt.body.getD .skip
theorem cnt_spec(N:Nat):∀v:Val,v.size<=N->v.size<=1000000->∀m:Int,0<=m->m<=1000->Ab PP 141 [dV v,di m] σ0 (di (min (v.size:Int) (m+1))) σ0:=by
 induction N with
 |zero=>intro v hv;have:=v.size_pos;omega
 |succ N ihN=>
  intro v hv hv1 m hm0 hm1
  have hsz:=v.size_eq
  have hlen:=Val.length_le v.kids
  have loop (n:Nat):∀(k:Nat) (a:Int),v.kids.length-k=n->1<=a->a<=m+1->
    Rn PP fCnt 0 (di (min (a+(Val.sizes (v.kids.drop k):Int)) (m+1))) σ0 ([.lp (sub cCnt [1,1,0,1,0,0]),.blk 0,.code (sub cCnt [1,1,1])]++[]) (mkE 27 [(1,di m),(5,di a),(9,dVs v.kids),(10,di v.kids.length),(11,di k)]) σ0:=by
   induction n using Nat.strongRecOn with
   |_ n ih=>
   intro k a hn ha0 ha1
   refine lv 27 [2] (.b (.e fun x:Val=>.x (Ad x)<|.b .r<|.c (di (min (x.size:Int) (m-a+1)))<|.ls [ke 1,ch 5 (di (min (a+(x.size:Int)) (m+1))),ke 9,ke 10,ch 11 (di (k+1:Nat))] σ0) .r) ((decide ((k:Int)<(v.kids.length:Int))=true->∃a_2,0<=(k:Int)/\(map eV v.kids)[Int.toNat (k:Int)]?=some (Ad a_2)/\(decide (a>m)=true->di a=di (min (a+(↑(Val.sizes (List.drop k v.kids)):Int)) (m+1)))/\(decide (a>m)=false->Ab PP 141 [dV a_2,di (wrap i64 (m-a))] (St.mk [] []) (di (min (↑(Val.size a_2):Int) (m-a+1))) (St.mk [] [])/\di (wrap i64 (a+min (↑(Val.size a_2):Int) (m-a+1)))=di (min (a+(↑(Val.size a_2):Int)) (m+1))/\di (wrap i64 ((k:Int)+1))=di (↑(k+1):Int)/\Nv.It (A2 (CN 0) PP (fun env σ1=>A8 PP fCnt env σ1 (di (min (a+(↑(Val.sizes (List.drop k v.kids)):Int)) (m+1))) σ0) [kl cCnt [1,1,0,1,0,0],KI.blk 0,kc cCnt [1,1,1]] (mkE 27 [(1,di m),(5,di (min (a+(↑(Val.size a_2):Int)) (m+1))),(9,dVs v.kids),(10,di (v.kids.length:Int)),(11,di (↑(k+1):Int))]) σ0)))/\(decide ((k:Int)<(v.kids.length:Int))=false->di a=di (min (a+(↑(Val.sizes (List.drop k v.kids)):Int)) (m+1)))) ?_
   refine⟨fun h=>?_,fun h=>?_⟩
   ·have hk:k<v.kids.length:=by simpa using h
    have hx:v.kids[k]?=some v.kids[k]:=getElem?_eq_getElem hk
    rw[drop_eq_getElem_cons hk]
    generalize v.kids[k]=x at hx⊢
    have hxs:=Val.size_mem (mem_of_getElem? hx)
    have hx1:=x.size_pos
    simp only[Val.sizes]
    refine⟨x,by omega,Az hx,fun h1=>?_,fun h1=>⟨?_,?_,Af (by omega),⟨?_⟩⟩⟩
    ·have h1:=of_decide_eq_true h1
     rw[Int.min_def];split<;>congr 1<;>omega
    ·rw[Aj (by omega) (by omega)]
     have h1:=of_decide_eq_false h1
     exact ihN x (by omega) (by omega) (m-a) (by omega) (by omega)
    ·have h1:=of_decide_eq_false h1
     rw[Aj (by rw[Int.min_def];split<;>omega) (by rw[Int.min_def];split<;>omega)]
     simp only[Int.min_def];congr 1;split<;>split<;>omega
    ·have h1:=of_decide_eq_false h1
     have:=ih (v.kids.length- (k+1)) (by omega) (k+1) (min (a+(x.size:Int)) (m+1)) rfl (by rw[Int.min_def];split<;>omega) (by rw[Int.min_def];split<;>omega)
     rw[show min (min (a+(x.size:Int)) (m+1)+(Val.sizes (v.kids.drop (k+1)):Int)) (m+1)=min (a+((x.size+Val.sizes (v.kids.drop (k+1)):Nat):Int)) (m+1) by simp only[Int.min_def];(repeat' split)<;>omega] at this
     exact this
   ·have hk:v.kids.length<=k:=by simpa using h
    rw[drop_of_length_le hk]
    simp only[Val.sizes];rw[Int.min_def];split<;>congr 1<;>omega
  refine sv fCnt 27 [2] (.l [ke 1,ch 5 (di 1),ke 9,ch 10 (di v.kids.length),ch 11 (di (0:Nat))]) (Q (di 1)/\di (length (map eV v.kids):Int)=di (v.kids.length:Int)/\di 0=di (↑0:Int)/\I0 fCnt σ0.H.length (di (min (↑(Val.size v):Int) (m+1))) σ0 [kl cCnt [1,1,0,1,0,0],KI.blk 0,kc cCnt [1,1,1]] (mkE 27 [(1,di m),(5,di 1),(9,dVs v.kids),(10,di (v.kids.length:Int)),(11,di (↑0:Int))]) σ0) ?_
  refine⟨rfl,by rw[length_map],rfl,⟨?_⟩⟩
  have:=loop _ 0 1 rfl (by omega) (by omega)
  rw[drop_zero,show(1:Int)+(Val.sizes v.kids:Int)=v.size by omega] at this
  exact this
noncomputable abbrev fOSize:Func:= Tryz.f100
theorem osize_spec(v:Val)(hv:v.size<=1000000):Ab PP 100 [dV v] σ0 (di (min (v.size:Int) 129)) σ0:=by
 refine sv fOSize 6 [1] (.c (di (min (v.size:Int) 129)) .r) (F0 141 [dV v,di 128] (di (min (↑(Val.size v):Int) 129))/\di (if 129<min (↑(Val.size v):Int) 129 then 129 else min (↑(Val.size v):Int) 129)=di (min (↑(Val.size v):Int) 129)) ?_
 exact⟨cnt_spec _ v (Nat.le_refl _) hv 128 (by decide) (by decide),by rw[if_neg (by rw[Int.min_def];split<;>omega)]⟩
noncomputable abbrev fOVal:Func:= Tryz.f60
def Au(t:Typ)(v:Val):Bool:=decide ((v.size:Int)<=128)&&AG t v
theorem He(t:Typ)(h:Dd 8 t=true)(v:Val)(hv:v.size<=1000000):Ab PP 60 [dT t,dV v] σ0 (db (Au t v)) σ0:=by
 refine sv fOVal 18 [2,3] (.c (di 0)<|.c (di (min (v.size:Int) 129))<|.b (.c (db (AG t v)) .r) .r) (F0 99 [D.v (vT t)] (di 0)/\F0 100 [dV v] (di (min (↑(Val.size v):Int) 129))/\(decide (min (↑(Val.size v):Int) 129<=128)=true->F0 101 [D.v (vT t),dV v] (db (AG t v))/\db (AG t v)=db (Au t v))/\(decide (min (↑(Val.size v):Int) 129<=128)=false->db false=db (Au t v))) ?_
 refine⟨ochk_spec t h,osize_spec v hv,fun h1=>⟨one_spec _ t (Nat.le_refl _) v hv,?_⟩,fun h1=>?_⟩
 ·have h1:=of_decide_eq_true h1
  rw[Au,decide_eq_true (show(v.size:Int)<=128 by rw[Int.min_def] at h1;split at h1<;>omega),Bool.true_and]
 ·have h1:=of_decide_eq_false h1
  rw[Au,decide_eq_false (show ¬(v.size:Int)<=128 by rw[Int.min_def] at h1;split at h1<;>omega),Bool.false_and]
noncomputable abbrev fOf:Func:= Tryz.f126
structure Lims where
 pl:Int
 ph:Int
 ll:Int
 lh:Int
 vl:Int
 vh:Int
 al:Int
 ah:Int
abbrev dLim(l:Lims):D:=.v (.agg [vi l.pl,vi l.ph,vi l.ll,vi l.lh,vi l.vl,vi l.vh,vi l.al,vi l.ah])
abbrev lim1:Lims:=⟨1,6,0,0,0,0,0,0⟩
abbrev lim2:Lims:=⟨1,2,1,6,0,0,0,0⟩
abbrev lim5:Lims:=⟨1,6,0,0,0,0,0,3⟩
theorem of_1:Ab PP 126 [di 1] σ0 (dLim lim1) σ0:=by
 refine sv fOf 29 [] .r (D.v (V.agg [vi 1,vi 6,vi 0,vi 0,vi 0,vi 0,vi 0,vi 0])=dLim lim1) ?_
 rfl
theorem of_2:Ab PP 126 [di 2] σ0 (dLim lim2) σ0:=by
 refine sv fOf 29 [] .r (D.v (V.agg [vi 1,vi 2,vi 1,vi 6,vi 0,vi 0,vi 0,vi 0])=dLim lim2) ?_
 rfl
theorem of_3:Ab PP 126 [di 3] σ0 (dLim lim2) σ0:=by
 refine sv fOf 29 [] .r (D.v (V.agg [vi 1,vi 2,vi 1,vi 6,vi 0,vi 0,vi 0,vi 0])=dLim lim2) ?_
 rfl
theorem of_5:Ab PP 126 [di 5] σ0 (dLim lim5) σ0:=by
 refine sv fOf 29 [] .r (D.v (V.agg [vi 1,vi 6,vi 0,vi 0,vi 0,vi 0,vi 0,vi 3])=dLim lim5) ?_
 rfl
noncomputable abbrev fSized:Func:= Tryz.f93
def CH(l:Lims)(m:Mod):Bool:=A3 m.states.length 1 8&&(decide ((m.rules.length:Int)<=12)&&(A3 m.places.length l.pl l.ph&&(A3 m.letters.length l.ll l.lh&&(A3 m.levels l.vl l.vh&&A3 m.age l.al l.ah))))
theorem sized_spec(l:Lims)(m:Mod)(h:Ab PP 126 [di m.kind] σ0 (dLim l) σ0):Ab PP 93 [Ah m] σ0 (db (CH l m)) σ0:=by
 refine sv fSized 63 [1] (.c (dLim l)<|.c (db (A3 m.states.length 1 8))<|.b (.b (.c (db (A3 m.places.length l.pl l.ph))<|.b (.c (db (A3 m.letters.length l.ll l.lh))<|.b (.c (db (A3 m.levels l.vl l.vh))<|.b (.c (db (A3 m.age l.al l.ah)) .r) .r) .r) .r) .r) .r) (F0 126 [di m.kind] (dLim l)/\F0 92 [di (length (map V.str m.states):Int),di 1,di 8] (db (A3 (m.states.length:Int) 1 8))/\(A3 (m.states.length:Int) 1 8=true->(decide ((length (map Ak m.rules):Int)<=12)=true->iz 0<=0/\0<(↑2:Int)/\iz 0<=1/\1<(↑2:Int)/\F0 92 [di (length (map V.str m.places):Int),di l.pl,di l.ph] (db (A3 (m.places.length:Int) l.pl l.ph))/\(A3 (m.places.length:Int) l.pl l.ph=true->iz 0<=0/\0<(↑2:Int)/\iz 0<=1/\1<(↑2:Int)/\F0 92 [di (length (map V.str m.letters):Int),di l.ll,di l.lh] (db (A3 (m.letters.length:Int) l.ll l.lh))/\(A3 (m.letters.length:Int) l.ll l.lh=true->iz 0<=0/\0<(↑2:Int)/\iz 0<=1/\1<(↑2:Int)/\F0 92 [di m.levels,di l.vl,di l.vh] (db (A3 m.levels l.vl l.vh))/\(A3 m.levels l.vl l.vh=true->iz 0<=0/\0<(↑2:Int)/\iz 0<=1/\1<(↑2:Int)/\F0 92 [di m.age,di l.al,di l.ah] (db (A3 m.age l.al l.ah))/\db (A3 m.age l.al l.ah)=db (CH l m))/\(A3 m.levels l.vl l.vh=false->db false=db (CH l m)))/\(A3 (m.letters.length:Int) l.ll l.lh=false->db false=db (CH l m)))/\(A3 (m.places.length:Int) l.pl l.ph=false->db false=db (CH l m)))/\(decide ((length (map Ak m.rules):Int)<=12)=false->db false=db (CH l m)))/\(A3 (m.states.length:Int) 1 8=false->db false=db (CH l m))) ?_
 repeat' first|with_reducible refine And.intro ?_ ?_|intro _
 all_goals first|exact h|exact CD _ _ _|(simp only[length_map];exact CD _ _ _)|decide|(simp_all [CH];done)|(simp_all [CH]<;>(intro h1<;>exfalso;omega))
noncomputable abbrev fRanked:Func:= Tryz.f94
noncomputable abbrev fRanked1:Func:= Tryz.f127
theorem ranked1_spec(x:Int):Ab PP 127 [di x] σ0 (db (!A3 x 0 5)) σ0:=by
 refine sv fRanked1 6 [] (.c (db (A3 x 0 5)) .r) (F0 92 [di x,di 0,di 5] (db (A3 x 0 5))/\(db !A3 x 0 5)=db !A3 x 0 5) ?_
 exact⟨CD x 0 5,rfl⟩
def Cp(m:Mod):Bool:=if (m.kind !=3)=true then(m.ranks.length:Int)==0 else((m.ranks.length:Int)==m.letters.length)&&m.ranks.all fun x=>A3 x 0 5
theorem ranked_spec(m:Mod)(hm:m.ranks.length<=1000000):Ab PP 94 [Ah m] σ0 (db (Cp m)) σ0:=by
 refine sv fRanked 23 [1] (.b .r (.b (.c (db (m.ranks.any fun x=> !A3 x 0 5)) .r) .r)) (((m.kind !=3)=true->db ((length (map vi m.ranks):Int)==0)=db (Cp m))/\((m.kind !=3)=false->(((length (map vi m.ranks):Int)==(length (map V.str m.letters):Int))=true->F0 118 [dIs m.ranks,D.v (V.fn 127 [] [])] (db (List.any m.ranks fun x=> !A3 x 0 5))/\(db !List.any m.ranks fun x=> !A3 x 0 5)=db (Cp m))/\(((length (map vi m.ranks):Int)==(length (map V.str m.letters):Int))=false->db false=db (Cp m)))) ?_
 refine⟨fun h1=>?_,fun h1=>⟨fun h2=>⟨Cw _ [] [] _ m.ranks hm fun x _=>ranked1_spec x,?_⟩,fun h2=>?_⟩⟩
 ·simp only[Cp,h1,if_true,length_map]
 ·rw[any_not];simp only[length_map] at h2;simp[Cp,h1,h2]
 ·simp only[length_map] at h2;simp[Cp,h1,h2]
noncomputable abbrev fMLabel:Func:= Tryz.f102
theorem DU(n:Int):Ab PP 102 [di n] σ0 (dT (.lab n)) σ0:=by
 refine sv fMLabel 5 [] .r (D.v (V.agg [vi 2,vi n,V.list [],V.list []])=dT (Typ.lab n)) ?_
 rfl
noncomputable abbrev fMList:Func:= Tryz.f104
theorem mlist_word(t:Typ):Ab PP 104 [di 4,dT t] σ0 (dT (.word t)) σ0:=by
 refine sv fMList 9 [3] .r (D.v (V.agg [vi 4,vi 0,V.list [],V.list [vT t]])=dT (Typ.word t)) ?_
 rw[dT,vT_word];rfl
theorem mlist_bag(t:Typ):Ab PP 104 [di 5,dT t] σ0 (dT (.bag t)) σ0:=by
 refine sv fMList 9 [3] .r (D.v (V.agg [vi 5,vi 0,V.list [],V.list [vT t]])=dT (Typ.bag t)) ?_
 rw[dT,vT_bag];rfl
noncomputable abbrev F3:Func:= Tryz.f61
noncomputable def Ds:Code:=F3.body.getD .skip
abbrev G3(l:List Typ):D:=.acc 1 (l.map eT)
abbrev ownT(l:List Typ):St:=⟨[some [di 0,di 0,.v .nils,.v .nils]],[(1,4,l.map eT)]⟩
theorem E7(l:List Typ)(t:Typ):l.map eT++[vT t]=(l++[t]).map eT:=by rw[←eT_eq];simp
def ER(m:Mod):Typ:=if m.kind=1 then .nat else if m.kind=2 then .word (.lab m.letters.length) else .prio m.letters.length m.ranks
def CM(m:Mod):Typ:=.prod (.lab m.states.length::replicate m.places.length (ER m))
theorem typed_loop1(m:Mod)(hm:m.places.length<=1000)(hk:m.kind=1)(n:Nat):∀(k:Nat) (xs:List Typ),m.places.length-k=n->k<=m.places.length->xs.length<=k+1->
  Rn PP F3 0 (dT (.prod (xs++replicate n (.nat)))) σ0 ([.lp (sub Ds [1,1,0,1,0,1,1,1,1,1,0,0]),.blk 1,.blk 0,.code (sub Ds [1,1,1])]++[]) (mkE 70 [(1,.v (.ref (AE m))),(2,.ptr 0 0),(3,G3 xs),(14,di m.places.length),(15,di k)]) (ownT xs):=by
 induction n with
 |zero=>
  intro k xs hn hk0 hxs
  refine lv 70 [1] (.f .r) (decide ((k:Int)<(m.places.length:Int))=false/\D.v (V.agg [vi 3,vi 0,V.list [],V.list (map eT xs)])=dT (Typ.prod (xs++replicate 0 Typ.nat))) ?_
  refine⟨decide_eq_false (by omega),?_⟩
  rw[List.replicate_zero,append_nil];rfl
 |succ n ih=>
  intro k xs hn hk0 hxs
  refine lv 70 [1] (.t<|.f<|.f<|.ls [ke 1,ke 2,ch 3 (G3 (xs++[.nat])),ke 14,ch 15 (di (k+1:Nat))] (ownT (xs++[.nat]))) (decide ((k:Int)<(m.places.length:Int))=true/\(m.kind==2)=false/\(m.kind==3)=false/\Q (map eT xs)/\Ar (length (map eT xs)+length (V.agg (V.int i64 1::V.int i64 0::V.list nV::V.list nV::nV)::nV)) 64/\D.acc 1 (map eT xs++[V.agg [vi 1,vi 0,V.list [],V.list []]])=G3 (xs++[Typ.nat])/\di (wrap i64 ((k:Int)+1))=di (↑(k+1):Int)/\Q [some [di 0,di 0,dn,dn]]/\[(1,4,map eT xs++V.agg (vi 1::vi 0::V.list nV::V.list nV::nV)::nV)]=[(1,4,map eT (xs++[Typ.nat]))]/\I0 F3 0 (dT (Typ.prod (xs++replicate (n+1) Typ.nat))) σ0 [kl Ds [1,1,0,1,0,1,1,1,1,1,0,0],KI.blk 1,KI.blk 0,kc Ds [1,1,1]] (mkE 70 [(1,D.v (V.ref (AE m))),(2,D.ptr 0 0),(3,G3 (xs++[Typ.nat])),(14,di (m.places.length:Int)),(15,di (↑(k+1):Int))]) (ownT (xs++[Typ.nat]))) ?_
  have h:=ih (k+1) (xs++[.nat]) (by omega) (by omega) (by simp only[length_append,length_cons,length_nil];omega)
  rw[append_assoc] at h
  refine⟨decide_eq_true (by omega),by rw[hk];rfl,by rw[hk];rfl,rfl,⟨?_,?_⟩,?_,Af (by omega),rfl,?_,⟨h⟩⟩
  ·simp only[length_map,length_cons,length_nil];omega
  ·simp only[length_map,length_cons,length_nil];omega
  ·rw[G3, ←E7];rfl
  ·rw[←E7];rfl
theorem typed_loop2(m:Mod)(hm:m.places.length<=1000)(hk:m.kind=2)(n:Nat):∀(k:Nat) (xs:List Typ),m.places.length-k=n->k<=m.places.length->xs.length<=k+1->
  Rn PP F3 0 (dT (.prod (xs++replicate n (.word (.lab m.letters.length))))) σ0 ([.lp (sub Ds [1,1,0,1,0,1,1,1,1,1,0,0]),.blk 1,.blk 0,.code (sub Ds [1,1,1])]++[]) (mkE 70 [(1,.v (.ref (AE m))),(2,.ptr 0 0),(3,G3 xs),(14,di m.places.length),(15,di k)]) (ownT xs):=by
 induction n with
 |zero=>
  intro k xs hn hk0 hxs
  refine lv 70 [1] (.f .r) (decide ((k:Int)<(m.places.length:Int))=false/\D.v (V.agg [vi 3,vi 0,V.list [],V.list (map eT xs)])=dT (Typ.prod (xs++replicate 0 (Typ.word (Typ.lab (m.letters.length:Int)))))) ?_
  refine⟨decide_eq_false (by omega),?_⟩
  rw[List.replicate_zero,append_nil];rfl
 |succ n ih=>
  intro k xs hn hk0 hxs
  refine lv 70 [1] (.t<|.t<|.c (dT (.lab m.letters.length))<|.c (dT (.word (.lab m.letters.length)))<|.ls [ke 1,ke 2,ch 3 (G3 (xs++[.word (.lab m.letters.length)])),ke 14,ch 15 (di (k+1:Nat))] (ownT (xs++[.word (.lab m.letters.length)]))) (decide ((k:Int)<(m.places.length:Int))=true/\(m.kind==2)=true/\F0 102 [di (length (map V.str m.letters):Int)] (dT (Typ.lab (m.letters.length:Int)))/\F0 104 [di 4,D.v (vT (Typ.lab (m.letters.length:Int)))] (dT (Typ.word (Typ.lab (m.letters.length:Int))))/\Q (map eT xs)/\Ar (length (map eT xs)+length (V.agg (vi (Typ.kd (Typ.word (Typ.lab (m.letters.length:Int))))::vi (Typ.sz (Typ.word (Typ.lab (m.letters.length:Int))))::vIs (Typ.rk (Typ.word (Typ.lab (m.letters.length:Int))))::V.list (map eT (Typ.ps (Typ.word (Typ.lab (m.letters.length:Int)))))::nV)::nV)) 64/\D.acc 1 (map eT xs++[V.agg [vi (Typ.kd (Typ.word (Typ.lab (m.letters.length:Int)))),vi (Typ.sz (Typ.word (Typ.lab (m.letters.length:Int)))),vIs (Typ.rk (Typ.word (Typ.lab (m.letters.length:Int)))),V.list [eT (Typ.lab (m.letters.length:Int))]]])=G3 (xs++[Typ.word (Typ.lab (m.letters.length:Int))])/\di (wrap i64 ((k:Int)+1))=di (↑(k+1):Int)/\Q [some [di 0,di 0,dn,dn]]/\[(1,4,map eT xs++V.agg (vi (Typ.kd (Typ.word (Typ.lab (m.letters.length:Int))))::vi (Typ.sz (Typ.word (Typ.lab (m.letters.length:Int))))::vIs (Typ.rk (Typ.word (Typ.lab (m.letters.length:Int))))::V.list (eT (Typ.lab (m.letters.length:Int))::nV)::nV)::nV)]=[(1,4,map eT (xs++[Typ.word (Typ.lab (m.letters.length:Int))]))]/\I0 F3 0 (dT (Typ.prod (xs++replicate (n+1) (Typ.word (Typ.lab (m.letters.length:Int)))))) σ0 [kl Ds [1,1,0,1,0,1,1,1,1,1,0,0],KI.blk 1,KI.blk 0,kc Ds [1,1,1]] (mkE 70 [(1,D.v (V.ref (AE m))),(2,D.ptr 0 0),(3,G3 (xs++[Typ.word (Typ.lab (m.letters.length:Int))])),(14,di (m.places.length:Int)),(15,di (↑(k+1):Int))]) (ownT (xs++[Typ.word (Typ.lab (m.letters.length:Int))]))) ?_
  have h:=ih (k+1) (xs++[.word (.lab m.letters.length)]) (by omega) (by omega) (by simp only[length_append,length_cons,length_nil];omega)
  rw[append_assoc] at h
  refine⟨decide_eq_true (by omega),by rw[hk];rfl,by rw[length_map];exact DU _,mlist_word _,rfl,⟨?_,?_⟩,?_,Af (by omega),rfl,?_,⟨h⟩⟩
  ·simp only[length_map,length_cons,length_nil];omega
  ·simp only[length_map,length_cons,length_nil];omega
  ·rw[G3, ←E7];rfl
  ·rw[←E7];rfl
theorem typed_loop3(m:Mod)(hm:m.places.length<=1000)(hr:m.ranks.length<=1000000)(hk:m.kind=3)(n:Nat):∀(k:Nat) (xs:List Typ),m.places.length-k=n->k<=m.places.length->xs.length<=k+1->
  Rn PP F3 0 (dT (.prod (xs++replicate n (.prio m.letters.length m.ranks)))) σ0 ([.lp (sub Ds [1,1,0,1,0,1,1,1,1,1,0,0]),.blk 1,.blk 0,.code (sub Ds [1,1,1])]++[]) (mkE 70 [(1,.v (.ref (AE m))),(2,.ptr 0 0),(3,G3 xs),(14,di m.places.length),(15,di k)]) (ownT xs):=by
 induction n with
 |zero=>
  intro k xs hn hk0 hxs
  refine lv 70 [1] (.f .r) (decide ((k:Int)<(m.places.length:Int))=false/\D.v (V.agg [vi 3,vi 0,V.list [],V.list (map eT xs)])=dT (Typ.prod (xs++replicate 0 (Typ.prio (m.letters.length:Int) m.ranks)))) ?_
  refine⟨decide_eq_false (by omega),?_⟩
  rw[List.replicate_zero,append_nil];rfl
 |succ n ih=>
  intro k xs hn hk0 hxs
  refine lv 70 [1] (.t<|.f<|.t<|.c (dIs m.ranks)<|.ls [ke 1,ke 2,ch 3 (G3 (xs++[.prio m.letters.length m.ranks])),ke 14,ch 15 (di (k+1:Nat))] (ownT (xs++[.prio m.letters.length m.ranks]))) (decide ((k:Int)<(m.places.length:Int))=true/\(m.kind==2)=false/\(m.kind==3)=true/\F0 44 [dIs m.ranks] (dIs m.ranks)/\Q (map eT xs)/\Ar (length (map eT xs)+length (V.agg (V.int i64 7::V.int i64 (length (map V.str m.letters):Int)::vIs m.ranks::V.list nV::nV)::nV)) 64/\D.acc 1 (map eT xs++[V.agg [vi 7,vi (length (map V.str m.letters):Int),vIs m.ranks,V.list []]])=G3 (xs++[Typ.prio (m.letters.length:Int) m.ranks])/\di (wrap i64 ((k:Int)+1))=di (↑(k+1):Int)/\Q [some [di 0,di 0,dn,dn]]/\[(1,4,map eT xs++V.agg (vi 7::vi (length (map V.str m.letters):Int)::vIs m.ranks::V.list nV::nV)::nV)]=[(1,4,map eT (xs++[Typ.prio (m.letters.length:Int) m.ranks]))]/\I0 F3 0 (dT (Typ.prod (xs++replicate (n+1) (Typ.prio (m.letters.length:Int) m.ranks)))) σ0 [kl Ds [1,1,0,1,0,1,1,1,1,1,0,0],KI.blk 1,KI.blk 0,kc Ds [1,1,1]] (mkE 70 [(1,D.v (V.ref (AE m))),(2,D.ptr 0 0),(3,G3 (xs++[Typ.prio (m.letters.length:Int) m.ranks])),(14,di (m.places.length:Int)),(15,di (↑(k+1):Int))]) (ownT (xs++[Typ.prio (m.letters.length:Int) m.ranks]))) ?_
  have h:=ih (k+1) (xs++[.prio m.letters.length m.ranks]) (by omega) (by omega) (by simp only[length_append,length_cons,length_nil];omega)
  rw[append_assoc] at h
  refine⟨decide_eq_true (by omega),by rw[hk];rfl,by rw[hk];rfl,cloI_spec m.ranks hr,rfl,⟨?_,?_⟩,?_,Af (by omega),rfl,?_,⟨h⟩⟩
  ·simp only[length_map,length_cons,length_nil];omega
  ·simp only[length_map,length_cons,length_nil];omega
  ·rw[G3, ←E7];rw[length_map];rfl
  ·rw[←E7];rw[length_map];rfl
theorem typed_spec(m:Mod)(hm:m.places.length<=1000)(hr:m.ranks.length<=1000000)(hk:m.kind=1∨m.kind=2∨m.kind=3):Ab PP 61 [Ah m] σ0 (dT (CM m)) σ0:=by
 refine sv F3 70 [1] (.c (dT (.lab m.states.length))<|.a 1<|.f<|.f<|.ls [ke 1,ke 2,ch 3 (G3 [.lab m.states.length]),ch 14 (di m.places.length),ch 15 (di (0:Nat))] (ownT [.lab m.states.length])) (F0 102 [di (length (map V.str m.states):Int)] (dT (Typ.lab (m.states.length:Int)))/\(m.kind==4)=false/\(m.kind==5)=false/\D.acc 1 [vT (Typ.lab (m.states.length:Int))]=G3 [Typ.lab (m.states.length:Int)]/\di (length (map V.str m.places):Int)=di (m.places.length:Int)/\di 0=di (↑0:Int)/\Q [some [di 0,di 0,dn,dn]]/\[(1,4,vT (Typ.lab (m.states.length:Int))::nV)]=[(1,4,eT (Typ.lab (m.states.length:Int))::nV)]/\I0 F3 σ0.H.length (dT (CM m)) σ0 [kl Ds [1,1,0,1,0,1,1,1,1,1,0,0],KI.blk 1,KI.blk 0,kc Ds [1,1,1]] (mkE 70 [(1,D.v (V.ref (AE m))),(2,D.ptr 0 0),(3,G3 [Typ.lab (m.states.length:Int)]),(14,di (m.places.length:Int)),(15,di (↑0:Int))]) (ownT [Typ.lab (m.states.length:Int)])) ?_
 refine⟨by rw[length_map];exact DU _,by rcases hk with h|h|h<;>rw[h]<;>rfl,by rcases hk with h|h|h<;>rw[h]<;>rfl,rfl,by rw[length_map],rfl,rfl,rfl,⟨?_⟩⟩
 rcases hk with h|h|h
 ·have:=typed_loop1 m hm h _ 0 [.lab m.states.length] rfl (by omega) (by simp)
  rw[Nat.sub_zero] at this
  rw[CM,show ER m=.nat by simp[ER,h]]
  exact this
 ·have:=typed_loop2 m hm h _ 0 [.lab m.states.length] rfl (by omega) (by simp)
  rw[Nat.sub_zero] at this
  rw[CM,show ER m=.word (.lab m.letters.length) by simp[ER,h]]
  exact this
 ·have:=typed_loop3 m hm hr h _ 0 [.lab m.states.length] rfl (by omega) (by simp)
  rw[Nat.sub_zero] at this
  rw[CM,show ER m=.prio m.letters.length m.ranks by simp[ER,h]]
  exact this
noncomputable abbrev fIxR:Func:= Tryz.f117
noncomputable def cIxR:Code:=fIxR.body.getD .skip
theorem ixR_loop(F:FuncId)(fs cs:List V)(p:Rul->Bool)(l:List (Rul))(hl:l.length<=1000000)(hp:∀x∈l,Ab PP F ((fs++[Ak x]++cs).map .v) σ0 (db (p x)) σ0)(n:Nat):∀k:Nat,l.length-k=n->
  Rn PP fIxR 0 (di (ixM p (l.drop k) k)) σ0 ([.lp (sub cIxR [1,0,1,0,0]),.blk 0,.code (sub cIxR [1,1])]++[]) (mkE 19 [(0,dl (l.map Ak)),(1,.v (.fn F fs cs)),(7,di l.length),(8,di k)]) σ0:=by
 induction n using Nat.strongRecOn with
 |_ n ih=>
 intro k hn
 refine lv 19 [] (.b (.e fun x:Rul=>.x (Ak x)<|.c (db (p x))<|.b .r (.l [ke 0,ke 1,ke 7,ch 8 (di (k+1:Nat))])) .r) ((decide ((k:Int)<(l.length:Int))=true->∃a,0<=(k:Int)/\(map Ak l)[Int.toNat (k:Int)]?=some (Ak a)/\Ab PP F (map D.v (fs++[Ak a]++cs)) (St.mk [] []) (db (p a)) (St.mk [] [])/\(p a=true->di (k:Int)=di (ixM p (List.drop k l) k))/\(p a=false->di (wrap i64 ((k:Int)+1))=di (↑(k+1):Int)/\Nv.It (A2 (CN 0) PP (fun env σ1=>A8 PP fIxR env σ1 (di (ixM p (List.drop k l) k)) σ0) [kl cIxR [1,0,1,0,0],KI.blk 0,kc cIxR [1,1]] (mkE 19 [(0,D.v (V.list (map Ak l))),(1,D.v (V.fn F fs cs)),(7,di (l.length:Int)),(8,di (↑(k+1):Int))]) σ0)))/\(decide ((k:Int)<(l.length:Int))=false->di (-1)=di (ixM p (List.drop k l) k))) ?_
 refine⟨fun h=>?_,fun h=>?_⟩
 ·have hk:k<l.length:=by simpa using h
  have hx:l[k]?=some l[k]:=getElem?_eq_getElem hk
  rw[drop_eq_getElem_cons hk]
  generalize l[k]=x at hx⊢
  refine⟨x,by omega,Ao hx,hp x (mem_of_getElem? hx),fun hf=>by simp[ixM,hf],fun hf=>⟨Af (by omega),⟨?_⟩⟩⟩
  simp only[ixM,hf]
  exact ih (l.length- (k+1)) (by omega) (k+1) rfl
 ·have hk:l.length<=k:=by simpa using h
  rw[drop_of_length_le hk];rfl
theorem ixR_spec(F:FuncId)(fs cs:List V)(p:Rul->Bool)(l:List (Rul))(hl:l.length<=1000000)(hp:∀x∈l,Ab PP F ((fs++[Ak x]++cs).map .v) σ0 (db (p x)) σ0):
  Ab PP 117 [dl (l.map Ak),.v (.fn F fs cs)] σ0 (di (ixM p l 0)) σ0:=by
 refine sv fIxR 19 [] (.l [ke 0,ke 1,ch 7 (di l.length),ch 8 (di (0:Nat))]) (di (length (map Ak l):Int)=di (l.length:Int)/\di 0=di (↑0:Int)/\I0 fIxR σ0.H.length (di (ixM p l 0)) σ0 [kl cIxR [1,0,1,0,0],KI.blk 0,kc cIxR [1,1]] (mkE 19 [(0,dl (map Ak l)),(1,D.v (V.fn F fs cs)),(7,di (l.length:Int)),(8,di (↑0:Int))]) σ0) ?_
 refine⟨by simp,rfl,⟨?_⟩⟩
 exact ixR_loop F fs cs p l hl hp _ 0 rfl
noncomputable abbrev fHasR:Func:= Tryz.f80
theorem hasR_spec(F:FuncId)(fs cs:List V)(p:Rul->Bool)(l:List (Rul))(hl:l.length<=1000000)(hp:∀x∈l,Ab PP F ((fs++[Ak x]++cs).map .v) σ0 (db (p x)) σ0):
  Ab PP 80 [dl (l.map Ak),.v (.fn F fs cs)] σ0 (db (l.any p)) σ0:=by
 refine sv fHasR 9 [] (.c (di (ixM p l 0)) .r) (F0 117 [D.v (V.list (map Ak l)),D.v (V.fn F fs cs)] (di (ixM p l 0))/\db (decide (ixM p l 0>=0))=db (List.any l p)) ?_
 exact⟨ixR_spec F fs cs p l hl hp,by rw[←Hk]⟩
def limM(m:Mod):Lims:=if m.kind=1 then lim1 else lim2
def G8(m:Mod)(r:Rul):Bool:=if m.kind=1 then Ej m r else Fx m r
structure Mod.ok(m:Mod):Prop where
 kind:m.kind=1∨m.kind=2∨m.kind=3
 sized:CH (limM m) m=true
 ranked:Cp m=true
 named:Ge m=true
 rshort:∀r∈m.rules,r.short
 right:∀r∈m.rules,G8 m r=true
 start:Au (CM m) m.start=true
 ssize:m.start.size<=1000000
theorem CE{x a b:Int}(h:A3 x a b=true):a<=x/\x<=b:=by simpa[A3] using h
theorem Mod.ok.sz{m:Mod}(h:m.ok):1<=m.states.length/\m.states.length<=8/\m.rules.length<=12/\1<=m.places.length/\m.places.length<=6/\m.letters.length<=6/\m.ranks.length<=6/\(m.kind≠1->1<=m.letters.length):=by
 have hs:=h.sized
 simp only[CH,Bool.and_eq_true,decide_eq_true_eq] at hs
 obtain⟨h1,h2,h3,h4,h5,h6⟩:=hs
 have h1:=CE h1
 have h3:=CE h3
 have h4:=CE h4
 have hr:=h.ranked
 have hl:(limM m).pl=1/\(limM m).ph<=6/\(limM m).lh<=6/\(m.kind≠1->(limM m).ll=1):=by
  unfold limM
  split
  ·rename_i hk
   exact⟨rfl,by decide,by decide,fun hk2=>absurd hk hk2⟩
  ·exact⟨rfl,by decide,by decide,fun _=>rfl⟩
 have hrk:m.ranks.length=0∨m.ranks.length=m.letters.length:=by
  unfold Cp at hr
  split at hr
  ·exact .inl (by simpa using hr)
  ·right
   simp only[Bool.and_eq_true,beq_iff_eq] at hr
   exact Int.ofNat_inj.1 hr.1
 obtain⟨a1,a2,a3,a4⟩:=hl
 refine⟨by omega,by omega,by omega,by omega,by omega,by omega,by omega,fun hk=>?_⟩
 have:=a4 hk
 omega
theorem Mod.ok.short{m:Mod}(h:m.ok):m.short:=by
 obtain⟨h1,h2,h3,h4,h5,h6,h7,h8⟩:=h.sz
 exact⟨by omega,by omega,by omega,by omega,by omega,h.rshort⟩
theorem Mod.ok.good{m:Mod}(h:m.ok):Dd 8 (CM m)=true:=by
 obtain⟨h1,h2,h3,h4,h5,h6,h7,h8⟩:=h.sz
 have he:Dd 7 (ER m)=true:=by
  unfold ER
  split
  ·rfl
  ·rename_i hk
   split
   ·have:=h8 hk
    simp only[Dd,Bool.and_eq_true,decide_eq_true_eq];omega
   ·rename_i hk2
    have hk3:m.kind=3:=by rcases h.kind with h|h|h<;>omega
    have hr:=h.ranked
    simp only[Cp,hk3,bne_self_eq_false,Bool.false_eq_true,if_false,Bool.and_eq_true,beq_iff_eq,all_eq_true] at hr
    have:=h8 hk
    simp only[Dd,FB,Bool.and_eq_true,beq_iff_eq,decide_eq_true_eq,Bool.not_eq_true',List.any_eq_false,Bool.not_eq_true]
    refine⟨by omega,by omega,by omega,fun x hx=>?_⟩
    have:=CE (hr.2 x hx)
    simp only[rk1B,Bool.or_eq_false_iff,decide_eq_false_iff_not];omega
 simp only[CM,Dd,length_cons,List.length_replicate,List.all_cons,Bool.and_eq_true,Bool.not_eq_true',beq_eq_false_iff_ne,decide_eq_false_iff_not,decide_eq_true_eq,all_eq_true]
 refine⟨by omega,by omega,⟨by omega,by omega⟩,fun t ht=>?_⟩
 rw[(List.mem_replicate.1 ht).2];exact he
theorem right_m(m:Mod)(hm:m.ok)(r:Rul)(hr:r∈m.rules):Ab PP 97 [Ah m,BK r] σ0 (db true) σ0:=by
 have h:=hm.right r hr
 rcases hm.kind with hk|hk
 ·rw[G8,if_pos hk] at h
  rw[←h];exact rightC_spec m hm.short hk r (hm.rshort r hr)
 ·rw[G8,if_neg (by omega)] at h
  rw[←h];exact rightL_spec m hm.short hk r (hm.rshort r hr)
noncomputable abbrev fChk1:Func:= Tryz.f96
theorem chk1_spec(m:Mod)(hm:m.ok)(r:Rul)(hr:r∈m.rules):Ab PP 96 [BK r,.v (.ref (AE m))] σ0 (db false) σ0:=by
 refine sv fChk1 8 [2] (.c (db true) .r) (F0 97 [Ah m,BK r] (db true)/\(db !true)=db false) ?_
 exact⟨right_m m hm r hr,rfl⟩
noncomputable abbrev fBeg:Func:= Tryz.f98
theorem beg_spec(m:Mod)(hm:m.ok):Ab PP 98 [Ah m] σ0 (db true) σ0:=by
 refine sv fBeg 22 [1] (.f<|.c (dT (CM m))<|.c (db true) .r) ((m.kind==6)=false/\F0 61 [Ah m] (dT (CM m))/\F0 60 [D.v (vT (CM m)),dV m.start] (db true)/\Q (db true)) ?_
 obtain⟨h1,h2,h3,h4,h5,h6,h7,h8⟩:=hm.sz
 refine⟨by rcases hm.kind with h|h|h<;>rw[h]<;>rfl,typed_spec m (by omega) (by omega) hm.kind,?_,rfl⟩
 have:=He (CM m) hm.good m.start hm.ssize
 rw[hm.start] at this
 exact this
noncomputable abbrev fChk:Func:= Tryz.f59
theorem Ea(m:Mod)(hm:m.ok):Ab PP 59 [Ah m] σ0 (di 0) σ0:=by
 refine sv fChk 29 [1] (.c (db true)<|.c (db true)<|.c (db true)<|.c (db true)<|.c (db false)<|.c (db true) .r) (F0 92 [di m.kind,di 1,di 6] (db true)/\F0 93 [Ah m] (db true)/\F0 94 [Ah m] (db true)/\F0 95 [Ah m] (db true)/\F0 80 [D.v (AY m.rules),D.v (V.fn 96 [] [V.ref (AE m)])] (db false)/\F0 98 [Ah m] (db true)/\Q (di 0)) ?_
 obtain⟨h1,h2,h3,h4,h5,h6,h7,h8⟩:=hm.sz
 refine⟨?_,?_,?_,?_,?_,beg_spec m hm,rfl⟩
 ·have:=CD m.kind 1 6
  rwa[show A3 m.kind 1 6=true by rcases hm.kind with h|h|h<;>rw[h]<;>rfl] at this
 ·have:=sized_spec (limM m) m (by
   unfold limM
   rcases hm.kind with h|h|h<;>rw[h]
   ·exact of_1
   ·exact of_2
   ·exact of_3)
  rwa[hm.sized] at this
 ·have:=ranked_spec m (by omega)
  rwa[hm.ranked] at this
 ·have:=nam_spec m (by simp only[CK,flatten_cons,List.flatten_nil,length_append,length_nil];omega)
  rwa[hm.named] at this
 ·have:=hasR_spec 96 [] [.ref (AE m)] (fun _=>false) m.rules (by omega) (fun r hr=>chk1_spec m hm r hr)
  rw[show m.rules.any (fun _=>false)=false by simp] at this
  exact this
noncomputable abbrev fMVal:Func:= Tryz.f42
theorem D9(m:Mod)(hm:m.ok)(v:Val)(hv:v.size<=1000000):Ab PP 42 [Ah m,dV v] σ0 (db (Au (CM m) v)) σ0:=by
 refine sv fMVal 14 [2,3] (.c (di 0)<|.c (dT (CM m))<|.c (db (Au (CM m) v)) .r) (F0 59 [Ah m] (di 0)/\F0 61 [Ah m] (dT (CM m))/\F0 60 [D.v (vT (CM m)),dV v] (db (Au (CM m) v))/\Q (db (Au (CM m) v))) ?_
 obtain⟨h1,h2,h3,h4,h5,h6,h7,h8⟩:=hm.sz
 exact⟨Ea m hm,typed_spec m (by omega) (by omega) hm.kind,He _ hm.good v hv,rfl⟩
noncomputable abbrev fWlk:Func:= Tryz.f41
theorem wlk_spec(m:Mod)(hm:m.ok):Ab PP 41 [Ah m] σ0 (di 0) σ0:=by
 refine sv fWlk 12 [1] (.c (di 0)<|.k<|.f .r) (F0 59 [Ah m] (di 0)/\(m.kind==6)=false/\Q (di 0)) ?_
 exact⟨Ea m hm,by rcases hm.kind with h|h|h<;>rw[h]<;>rfl,rfl⟩
noncomputable abbrev fSPl:Func:= Tryz.f55
noncomputable abbrev fSPl1:Func:= Tryz.f81
def D8(m:Mod):Bool:=(m.kind==1)&&m.rules.all fun r=> !decide ((r.move.length:Int)>0)
theorem spl1_spec(r:Rul):Ab PP 81 [BK r] σ0 (db (decide ((r.move.length:Int)>0))) σ0:=by
 refine sv fSPl1 7 [1] .r (db (decide ((length (map vi r.move):Int)>0))=db (decide ((r.move.length:Int)>0))) ?_
 rw[length_map]
theorem spl_spec(m:Mod)(hm:m.rules.length<=1000000):Ab PP 55 [Ah m] σ0 (db (D8 m)) σ0:=by
 refine sv fSPl 12 [1] (.b (.c (db (m.rules.any fun r=>decide ((r.move.length:Int)>0))) .r) .r) (((m.kind==1)=true->F0 80 [D.v (AY m.rules),D.v (V.fn 81 [] [])] (db (List.any m.rules fun r=>decide ((r.move.length:Int)>0)))/\(db !List.any m.rules fun r=>decide ((r.move.length:Int)>0))=db (D8 m))/\((m.kind==1)=false->db false=db (D8 m))) ?_
 refine⟨fun h=>⟨hasR_spec _ [] [] _ m.rules hm fun r _=>spl1_spec r,?_⟩,fun h=>?_⟩
 ·simp only[D8,h,Bool.true_and]
  rw[←any_not];simp only[Bool.not_not]
 ·simp only[D8,h,Bool.false_and]
noncomputable abbrev fSSame:Func:= Tryz.f27
theorem EA(a b:Val)(ha:a.size<=1000000):Ab PP 27 [dV a,dV b] σ0 (db (Av a b==0)) σ0:=by
 refine sv fSSame 9 [2,3] (.c (di (Av a b)) .r) (F0 32 [dV a,dV b] (di (Av a b))/\Q (db (Av a b==0))) ?_
 exact⟨Hr _ a b (Nat.le_refl _) ha,rfl⟩
structure FL(m:Mod)(t:Typ):Prop where
 walks:Ab PP 41 [Ah m] σ0 (di 0) σ0
 plain:Ab PP 55 [Ah m] σ0 (db (D8 m)) σ0
 valid:∀v:Val,v.size<=1000000->Ab PP 42 [Ah m,dV v] σ0 (db (Au t v)) σ0
 places:m.places.length<=1000000
theorem Mod.ok.int{m:Mod}(h:m.ok):FL m (CM m):=by
 obtain⟨h1,h2,h3,h4,h5,h6,h7,h8⟩:=h.sz
 exact⟨wlk_spec m h,spl_spec m (by omega),fun v hv=>D9 m h v hv,by omega⟩
noncomputable abbrev fOrd01:Func:= Tryz.f58
theorem ord01_spec(a b:Int):Ab PP 58 [di a,di b] σ0 (di (AH a b)) σ0:=by
 refine sv fOrd01 11 [] (.b .r<|.b .r .r) ((decide (a<b)=true->di (-1)=di (AH a b))/\(decide (a<b)=false->(decide (a>b)=true->di 1=di (AH a b))/\(decide (a>b)=false->di 0=di (AH a b)))) ?_
 refine⟨fun h=>?_,fun h=>⟨fun h1=>?_,fun h1=>?_⟩⟩<;>simp_all [AH]<;>omega
theorem cmpI_eq{a b:Int}:AH a b=0↔a=b:=by unfold AH;(repeat' split)<;>omega
theorem cmpV_one(a b:Val):Av a b=if AH a.n b.n=0 then(if AH a.kids.length b.kids.length=0 then AS Av a.kids b.kids else AH a.kids.length b.kids.length) else AH a.n b.n:=by
 cases a;cases b;simp only[Av,cmpVl_eq];rfl
noncomputable abbrev fCmp06:Func:= Tryz.f38
noncomputable def cCmp06:Code:=fCmp06.body.getD .skip
theorem Gk(N:Nat):∀a b:Val,a.size<=N->a.size<=1000000->Ab PP 38 [dV a,dV b] σ0 (di (Av a b)) σ0:=by
 induction N with
 |zero=>intro v _ hv;have:=v.size_pos;omega
 |succ N ihN=>
  intro a b ha ha1
  have hsz:=a.size_eq
  have hlen:=Val.length_le a.kids
  have loop (hab:a.kids.length=b.kids.length) (n:Nat):∀k:Nat,a.kids.length-k=n->
    Rn PP fCmp06 0 (di (AS Av (a.kids.drop k) (b.kids.drop k))) σ0 ([.lp (sub cCmp06 [1,1,1,0,1,0,0]),.blk 0,.code (sub cCmp06 [1,1,1,1])]++[]) (mkE 52 [(2,.v (.ref (Ad a))),(3,.v (.ref (Ad b))),(5,di k)]) σ0:=by
   induction n using Nat.strongRecOn with
   |_ n ih=>
   intro k hn
   refine lv 52 [2,3] (.b (.e fun x:Val=>.x (Ad x)<|.e fun y:Val=>.x (Ad y)<|.c (di (Av x y))<|.b .r (.l [ke 2,ke 3,ch 5 (di (k+1:Nat))])) .r) ((decide ((k:Int)<(length (map eV a.kids):Int))=true->∃a_2,0<=(k:Int)/\(map eV a.kids)[Int.toNat (k:Int)]?=some (Ad a_2)/\∃a_3,0<=(k:Int)/\(map eV b.kids)[Int.toNat (k:Int)]?=some (Ad a_3)/\Ab PP 38 [dV a_2,dV a_3] (St.mk [] []) (di (Av a_2 a_3)) (St.mk [] [])/\((Av a_2 a_3 !=0)=true->di (Av a_2 a_3)=di (AS Av (List.drop k a.kids) (List.drop k b.kids)))/\((Av a_2 a_3 !=0)=false->di (wrap i64 ((k:Int)+1))=di (↑(k+1):Int)/\Nv.It (A2 (CN 0) PP (fun env σ1=>A8 PP fCmp06 env σ1 (di (AS Av (List.drop k a.kids) (List.drop k b.kids))) σ0) [kl cCmp06 [1,1,1,0,1,0,0],KI.blk 0,kc cCmp06 [1,1,1,1]] (mkE 52 [(2,D.v (V.ref (Ad a))),(3,D.v (V.ref (Ad b))),(5,di (↑(k+1):Int))]) (St.mk [] []))))/\(decide ((k:Int)<(length (map eV a.kids):Int))=false->di 0=di (AS Av (List.drop k a.kids) (List.drop k b.kids)))) ?_
   refine⟨fun h=>?_,fun h=>?_⟩
   ·have hk:k<a.kids.length:=by simpa using h
    have hk2:k<b.kids.length:=by omega
    have hx:a.kids[k]?=some a.kids[k]:=getElem?_eq_getElem hk
    have hy:b.kids[k]?=some b.kids[k]:=getElem?_eq_getElem hk2
    rw[drop_eq_getElem_cons hk,drop_eq_getElem_cons hk2]
    generalize a.kids[k]=x at hx⊢
    generalize b.kids[k]=y at hy⊢
    have hxs:=Val.size_mem (mem_of_getElem? hx)
    refine⟨x,by omega,Az hx,y,by omega,Az hy,ihN x y (by omega) (by omega),fun h1=>?_,fun h1=>⟨Af (by omega),⟨?_⟩⟩⟩
    ·have h1:Av x y≠0:=by simpa using h1
     simp only[AS,if_neg h1]
    ·have h1:Av x y=0:=by simpa using h1
     simp only[AS,if_pos h1]
     exact ih (a.kids.length- (k+1)) (by omega) (k+1) rfl
   ·have hk:a.kids.length<=k:=by simpa using h
    rw[drop_of_length_le hk,drop_of_length_le (by omega)];rfl
  refine sv fCmp06 52 [2,3] (.b (.c (di (AH a.n b.n)) .r) (.b (.c (di (AH a.kids.length b.kids.length)) .r) (.l [ke 2,ke 3,ch 5 (di (0:Nat))]))) (((a.n !=Val.n b)=true->F0 58 [di a.n,di b.n] (di (AH a.n b.n))/\di (AH a.n b.n)=di (Av a b))/\((a.n !=Val.n b)=false->(((length (map eV a.kids):Int) !=(length (map eV b.kids):Int))=true->F0 58 [di (length (map eV a.kids):Int),di (length (map eV b.kids):Int)] (di (AH (a.kids.length:Int) (b.kids.length:Int)))/\di (AH (a.kids.length:Int) (b.kids.length:Int))=di (Av a b))/\(((length (map eV a.kids):Int) !=(length (map eV b.kids):Int))=false->di 0=di (↑0:Int)/\I0 fCmp06 σ0.H.length (di (Av a b)) σ0 [kl cCmp06 [1,1,1,0,1,0,0],KI.blk 0,kc cCmp06 [1,1,1,1]] (mkE 52 [(2,D.v (V.ref (Ad a))),(3,D.v (V.ref (Ad b))),(5,di (↑0:Int))]) σ0))) ?_
  rw[cmpV_one]
  refine⟨fun h=>⟨ord01_spec _ _,?_⟩,fun h=>⟨fun h1=>⟨?_,?_⟩,fun h1=>⟨rfl,⟨?_⟩⟩⟩⟩
  ·rw[if_neg (fun e=>(bne_iff_ne.1 h) (cmpI_eq.1 e))]
  ·rw[length_map,length_map];exact ord01_spec _ _
  ·have h:a.n=b.n:=by simpa using h
   have h1:(a.kids.length:Int)≠b.kids.length:=by simpa using h1
   rw[if_pos (cmpI_eq.2 h),if_neg (fun e=>h1 (cmpI_eq.1 e))]
  ·have h:a.n=b.n:=by simpa using h
   have h1:(a.kids.length:Int)=b.kids.length:=by simpa using h1
   rw[if_pos (cmpI_eq.2 h),if_pos (cmpI_eq.2 h1)]
   exact loop (Int.ofNat_inj.1 h1) _ 0 rfl
noncomputable abbrev fSam06:Func:= Tryz.f39
theorem sam06_spec(a b:Val)(ha:a.size<=1000000):Ab PP 39 [dV a,dV b] σ0 (db (Av a b==0)) σ0:=by
 refine sv fSam06 9 [2,3] (.c (di (Av a b)) .r) (F0 38 [dV a,dV b] (di (Av a b))/\Q (db (Av a b==0))) ?_
 exact⟨Gk _ a b (Nat.le_refl _) ha,rfl⟩
abbrev vBs(l:List UInt8):V:=.list (l.map vb)
abbrev cDz(l:List UInt8)(a:Nat):List D:=[.v (vBs l),di a]
abbrev dz(l:List UInt8)(a:Nat):St:=⟨[some (cDz l a)],[]⟩
noncomputable abbrev fPick:Func:= Tryz.f8
theorem Aw(l:List UInt8)(hl:l.length<=200)(a:Nat)(ha:a<=l.length)(n:Int)(hn:1<=n)(hn2:n<=1000):
  ∃(r:Int) (a':Nat),0<=r/\r<n/\a'<=l.length/\Ab PP 8 [.ptr 0 0,di n] (dz l a) (di r) (dz l a'):=by
 by_cases h:a<l.length
 ·refine⟨(l[a].toNat:Int)%n,a+1,Int.emod_nonneg _ (by omega),Int.emod_lt_of_pos _ (by omega),h,?_⟩
  refine sv fPick 36 [] (.f<|.x (vb l[a]) .r) ((True/\True/\True)/\decide ((a:Int)>=(length (map vb l):Int))=false/\0<=wrap i64 (wrap i64 ((a:Int)+1)-1)/\(map vb l)[Int.toNat (wrap i64 (wrap i64 ((a:Int)+1)-1))]?=some (V.int IntKind.u8 (↑(UInt8.toNat l[a]):Int))/\n≠0/\(True/\True/\True)/\[some [D.v (vBs l),di (wrap i64 ((a:Int)+1))]]=[some (cDz l (a+1))]/\di (Int.tmod (wrap i64 (↑(UInt8.toNat l[a]):Int)) n)=di ((↑(UInt8.toNat l[a]):Int)%n)) ?_
  have hx:l[a]?=some l[a]:=getElem?_eq_getElem h
  have hb:l[a].toNat<256:=UInt8.toNat_lt _
  generalize l[a]=c at hx hb
  rw[show i64.wrap (i64.wrap ((a:Int)+1)-1)=a by rw[Aj (n:=(a:Int)+1) (by omega) (by omega),Aj (by omega) (by omega)];omega]
  refine⟨⟨trivial,trivial,trivial⟩,by rw[length_map];exact decide_eq_false (by omega),by omega,Ao hx,by omega,⟨trivial,trivial,trivial⟩,?_,?_⟩
  ·rw[Aj (by omega) (by omega)];rfl
  ·rw[Aj (by omega) (by omega),Int.tmod_eq_emod_of_nonneg (by omega)]
 ·refine⟨0,a,by omega,by omega,ha,?_⟩
  refine sv fPick 36 [] (.t .r) ((True/\True/\True)/\decide ((a:Int)>=(length (map vb l):Int))=true/\Q [some (cDz l a)]/\Q (di 0)) ?_
  exact⟨⟨trivial,trivial,trivial⟩,by rw[length_map];exact decide_eq_true (by omega),rfl,rfl⟩
noncomputable abbrev fInts:Func:= Tryz.f15
noncomputable def cInts:Code:=fInts.body.getD .skip
abbrev ownI(l:List UInt8)(a:Nat)(xs:List Int):St:=⟨[some (cDz l a)],[(1,1,xs.map vi)]⟩
theorem ints_loop(l:List UInt8)(hl:l.length<=200)(n:Nat)(hn:n<=100)(most:Int)(hm:0<=most)(hm2:most<=100)(N:Nat):∀(k:Nat) (a:Nat) (xs:List Int),n-k=N->k<=n->a<=l.length->xs.length=k->(∀x∈xs,0<=x/\x<=most)->
  ∃(ys:List Int) (a':Nat),a'<=l.length/\ys.length=n/\(∀x∈ys,0<=x/\x<=most)/\
  Rn PP fInts 1 (dIs ys) (dz l a') ([.lp (sub cInts [1,1,0,1,0,0]),.blk 0,.code (sub cInts [1,1,1])]++[]) (mkE 22 [(0,.ptr 0 0),(1,di n),(2,di most),(7,.acc 1 (xs.map vi)),(8,di k)]) (ownI l a xs):=by
 induction N with
 |zero=>
  intro k a xs hk hk0 ha hx hxs
  by_cases hkn:k=n
  ·refine⟨xs,a,ha,by omega,hxs,?_⟩
   refine lv 22 [] (.f .r) (decide ((k:Int)<(n:Int))=false/\Q [some (cDz l a)]/\D.v (V.list (map vi xs))=dIs xs) ?_
   exact⟨decide_eq_false (by omega),rfl,rfl⟩
  ·exact absurd hk0 (by omega)
 |succ N ih=>
  intro k a xs hk hk0 ha hx hxs
  obtain⟨r,a1,h1,h2,h3,h4⟩:=Aw l hl a ha (most+1) (by omega) (by omega)
  obtain⟨ys,a',h5,h6,h7,h8⟩:=ih (k+1) a1 (xs++[r]) (by omega) (by omega) h3 (by simp[hx]) (fun x hx=>by
   rcases mem_append.1 hx with hx|hx
   ·exact hxs x hx
   ·rw[mem_singleton.1 hx];omega)
  refine⟨ys,a',h5,h6,h7,?_⟩
  refine lv 22 [] (.t<|.c1 (cDz l a1) (di r)<|.ls [ke 0,ke 1,ke 2,ch 7 (.acc 1 ((xs++[r]).map vi)),ch 8 (di (k+1:Nat))] (ownI l a1 (xs++[r]))) (decide ((k:Int)<(n:Int))=true/\Ab PP 8 [D.ptr 0 0,di (wrap i64 (most+1))] (dz l a) (di r) (dz l a1)/\Q (map vi xs)/\Ar (length (map vi xs)+length (V.int i64 r::nV)) 8/\D.acc 1 (map vi xs++[vi r])=D.acc 1 (map vi (xs++[r]))/\di (wrap i64 ((k:Int)+1))=di (↑(k+1):Int)/\Q [some (cDz l a1)]/\[(1,1,map vi xs++vi r::nV)]=[(1,1,map vi (xs++[r]))]/\I0 fInts 1 (dIs ys) (dz l a') [kl cInts [1,1,0,1,0,0],KI.blk 0,kc cInts [1,1,1]] (mkE 22 [(0,D.ptr 0 0),(1,di (n:Int)),(2,di most),(7,D.acc 1 (map vi (xs++[r]))),(8,di (↑(k+1):Int))]) (ownI l a1 (xs++[r]))) ?_
  refine⟨decide_eq_true (by omega),?_,rfl,⟨?_,?_⟩,by simp,Af (by omega),rfl,by simp,⟨h8⟩⟩
  ·rw[Aj (by omega) (by omega)];exact h4
  ·simp only[length_map,length_cons,length_nil];omega
  ·simp only[length_map,length_cons,length_nil];omega
theorem Fh(l:List UInt8)(hl:l.length<=200)(a:Nat)(ha:a<=l.length)(n:Nat)(hn:n<=100)(most:Int)(hm:0<=most)(hm2:most<=100):
  ∃(ys:List Int) (a':Nat),a'<=l.length/\ys.length=n/\(∀x∈ys,0<=x/\x<=most)/\Ab PP 15 [.ptr 0 0,di n,di most] (dz l a) (dIs ys) (dz l a'):=by
 obtain⟨ys,a',h1,h2,h3,h4⟩:=ints_loop l hl n hn most hm hm2 _ 0 a [] rfl (by omega) ha rfl (by simp)
 refine⟨ys,a',h1,h2,h3,?_⟩
 refine sv fInts 22 [] (.h (.q 2 0)<|.h (.nw 7 1 1)<|.ls [ke 0,ke 1,ke 2,ke 7,ch 8 (di (0:Nat))] (ownI l a [])) (di 0=di (↑0:Int)/\Q [some (cDz l a)]/\Q [(1,1,nV)]/\I0 fInts (length (dz l a).H) (dIs ys) (dz l a') [kl cInts [1,1,0,1,0,0],KI.blk 0,kc cInts [1,1,1]] (mkE 22 [(0,D.ptr 0 0),(1,di (n:Int)),(2,di most),(7,D.acc 1 []),(8,di (↑0:Int))]) (ownI l a [])) ?_
 exact⟨rfl,rfl,rfl,⟨h4⟩⟩
noncomputable abbrev fCfg28:Func:= Tryz.f14
noncomputable def cCfg28:Code:=fCfg28.body.getD .skip
abbrev ownC(s:Int)(xs:List Val):St:=⟨[some [di 0,.v .nils],some [di 0,.acc 1 (xs.map eV)]],[(1,2,xs.map eV)]⟩
def Cf(s:Int)(l:List Int):Val:=.mk 0 (.mk s []::l.map fun x=>.mk x [])
theorem cfg28_loop(l:List Int)(hl:l.length<=1000)(s:Int)(n:Nat):∀(k:Nat) (xs:List Val),l.length-k=n->xs.length=k+1->
  Rn PP fCfg28 0 (dV (.mk 0 (xs++(l.drop k).map fun x=>.mk x []))) σ0 ([.lp (sub cCfg28 [1,1,0,1,0,0]),.blk 0,.code (sub cCfg28 [1,1,1])]++[]) (mkE 28 [(1,dIs l),(4,.ptr 0 0),(5,.ptr 1 0),(6,di k)]) (ownC s xs):=by
 induction n with
 |zero=>
  intro k xs hk hx
  refine lv 28 [] (.f .r) (decide ((k:Int)<(length (map vi l):Int))=false/\D.v (V.agg [vi 0,V.list (map eV xs)])=dV (Val.mk 0 (xs++map (fun x=>Val.mk x []) (List.drop k l)))) ?_
  refine⟨by rw[length_map];exact decide_eq_false (by omega),?_⟩
  rw[drop_of_length_le (by omega),map_nil,append_nil];rfl
 |succ n ih=>
  intro k xs hk hxl
  refine lv 28 [] (.t<|.e fun x:Int=>.x (vi x)<|.ls [ke 1,ke 4,ke 5,ch 6 (di (k+1:Nat))] (ownC s (xs++[.mk x []]))) (decide ((k:Int)<(length (map vi l):Int))=true/\∃a,0<=(k:Int)/\(map vi l)[Int.toNat (k:Int)]?=some (vi a)/\Q (map eV xs)/\Ar (length (map eV xs)+length (V.agg (vi a::V.list nV::nV)::nV)) 32/\(True/\True)/\di (wrap i64 ((k:Int)+1))=di (↑(k+1):Int)/\[some [di 0,dn],some [di 0,D.acc 1 (map eV xs++V.agg (vi a::V.list nV::nV)::nV)]]=[some [di 0,dn],some [di 0,D.acc 1 (map eV (xs++[Val.mk a []]))]]/\[(1,2,map eV xs++V.agg (vi a::V.list nV::nV)::nV)]=[(1,2,map eV (xs++[Val.mk a []]))]/\I0 fCfg28 0 (dV (Val.mk 0 (xs++map (fun x=>Val.mk x []) (List.drop k l)))) σ0 [kl cCfg28 [1,1,0,1,0,0],KI.blk 0,kc cCfg28 [1,1,1]] (mkE 28 [(1,dIs l),(4,D.ptr 0 0),(5,D.ptr 1 0),(6,di (↑(k+1):Int))]) (ownC s (xs++[Val.mk a []]))) ?_
  have hk1:k<l.length:=by omega
  have hx:l[k]?=some l[k]:=getElem?_eq_getElem hk1
  rw[drop_eq_getElem_cons hk1]
  generalize l[k]=x at hx⊢
  have h:=ih (k+1) (xs++[.mk x []]) (by omega) (by simp[hxl])
  rw[append_assoc] at h
  refine⟨by rw[length_map];exact decide_eq_true (by omega),x,by omega,Ao hx,rfl,⟨?_,?_⟩,⟨trivial,trivial⟩,Af (by omega),?_,?_,⟨h⟩⟩
  ·simp only[length_map,length_cons,length_nil];omega
  ·simp only[length_map,length_cons,length_nil];omega
  ·rw[←BE];rfl
  ·rw[←BE];rfl
theorem cfg28_spec(l:List Int)(hl:l.length<=1000)(s:Int):Ab PP 14 [di s,dIs l] σ0 (dV (Cf s l)) σ0:=by
 refine sv fCfg28 28 [] (.a 1<|.h .g<|.ls [ke 1,ke 4,ke 5,ch 6 (di (0:Nat))] (ownC s [.mk s []])) (di 0=di (↑0:Int)/\[some [di 0,dn],some [di 0,D.acc 1 (V.agg (vi s::V.list nV::nV)::nV)]]=[some [di 0,dn],some [di 0,D.acc 1 (eV (Val.mk s [])::nV)]]/\[(1,2,V.agg (vi s::V.list nV::nV)::nV)]=[(1,2,eV (Val.mk s [])::nV)]/\I0 fCfg28 σ0.H.length (dV (Cf s l)) σ0 [kl cCfg28 [1,1,0,1,0,0],KI.blk 0,kc cCfg28 [1,1,1]] (mkE 28 [(1,dIs l),(4,D.ptr 0 0),(5,D.ptr 1 0),(6,di (↑0:Int))]) (ownC s [Val.mk s []])) ?_
 exact⟨rfl,rfl,rfl,⟨cfg28_loop l hl s _ 0 [.mk s []] rfl rfl⟩⟩
abbrev dl3:List (List UInt8):=[[114],[115],[116]]
def mkR(nm:List UInt8)(f t:Int)(nd gv:List Int):Rul:=⟨nm,f,t,nd,gv,[],0,0,0,[],[],[],[],0⟩
abbrev cM(S Pl:List (List UInt8))(rs:List Rul):List D:=[di 1,.v (vSs S),.v (vSs Pl),.v .nils,.v .nils,di 0,di 0,.acc 2 (rs.map Ak),di 0,.v .nils]
abbrev zM:List D:=[di 0,.v .nils,.v .nils,.v .nils,.v .nils,di 0,di 0,.v .nils,di 0,.v .nils]
abbrev stC(l:List UInt8)(a:Nat)(S Pl:List (List UInt8))(rs:List Rul):St:=⟨[some (cDz l a),some zM,some (cM S Pl rs)],[(2,14,rs.map Ak)]⟩
structure MadeR(ns np:Nat)(k:Nat)(r:Rul):Prop where
 name:dl3[k]?=some r.name
 frm:0<=r.frm/\r.frm<ns
 to:0<=r.to/\r.to<ns
 need:r.need.length=np/\∀x∈r.need,0<=x/\x<=2
 give:r.give.length=np/\∀x∈r.give,0<=x/\x<=2
 rest:r=mkR r.name r.frm r.to r.need r.give
structure MadeC(m:Mod):Prop where
 kind:m.kind=1
 states:m.states=[[97]]∨m.states=[[97],[98]]
 places:m.places=[[120]]∨m.places=[[120],[121]]
 letters:m.letters=[]
 ranks:m.ranks=[]
 levels:m.levels=0
 age:m.age=0
 count:m.rules.length<=3
 rules:∀k r,m.rules[k]?=some r->MadeR m.states.length m.places.length k r
 start:∃ys:List Int,ys.length=m.places.length/\(∀x∈ys,0<=x/\x<=3)/\m.start=Cf 0 ys
theorem AJ(rs:List Rul)(r:Rul):rs.map Ak++[Ak r]=(rs++[r]).map Ak:=by simp
noncomputable abbrev fCtr:Func:= Tryz.f11
noncomputable def H3:Code:=fCtr.body.getD .skip
theorem ctr_loop(l:List UInt8)(hl:l.length<=200)(S Pl:List (List UInt8))(hS:S=[[97]]∨S=[[97],[98]])(hP:Pl=[[120]]∨Pl=[[120],[121]])(n:Nat):∀(k a:Nat) (rs:List Rul),3-k=n->a<=l.length->k<=3->rs.length=k->(∀i r,rs[i]?=some r->MadeR S.length Pl.length i r)->
  ∃(m:Mod) (a':Nat),MadeC m/\a'<=l.length/\Rn PP fCtr 1 (Ah m) (dz l a') ([.lp (sub H3 [1,1,1,0,1,0,0]),.blk 0,.code (sub H3 [1,1,1,1])]++[]) (mkE 85 [(0,.ptr 0 0),(1,db false),(4,.ptr 1 0),(5,.ptr 2 0),(6,di Pl.length),(7,di k)]) (stC l a S Pl rs):=by
 induction n using Nat.strongRecOn with
 |_ n ih=>
 intro k a rs hn ha hk3 hrs hR
 have hSl:1<=S.length/\S.length<=2:=by rcases hS with rfl|rfl<;>decide
 have hPl:1<=Pl.length/\Pl.length<=2:=by rcases hP with rfl|rfl<;>decide
 obtain⟨r,a1,h1,h2,h3,h4⟩:=Aw l hl a ha 3 (by decide) (by decide)
 by_cases hk:(k:Int)<1+r
 ·obtain⟨f,a2,f1,f2,f3,f4⟩:=Aw l hl a1 h3 S.length (by omega) (by omega)
  obtain⟨t,a3,t1,t2,t3,t4⟩:=Aw l hl a2 f3 S.length (by omega) (by omega)
  obtain⟨nd,a4,n1,n2,n3,n4⟩:=Fh l hl a3 t3 Pl.length (by omega) 2 (by decide) (by decide)
  obtain⟨gv,a5,g1,g2,g3,g4⟩:=Fh l hl a4 n1 Pl.length (by omega) 2 (by decide) (by decide)
  obtain⟨nm,hnm⟩:∃nm,dl3[k]?=some nm:=⟨_,getElem?_eq_getElem (show k<dl3.length by show k<3;omega)⟩
  obtain⟨m,a',m1,m2,m3⟩:=ih (3- (k+1)) (by omega) (k+1) a5 (rs++[mkR nm f t nd gv]) rfl g1 (by omega) (by simp[hrs]) (fun i r hi=>by
   by_cases hik:i<rs.length
   ·rw[getElem?_append_left hik] at hi;exact hR i r hi
   ·rw[getElem?_append_right (by omega)] at hi
    have:i-rs.length=0:=by
     have:=(List.getElem?_eq_some_iff.1 hi).1
     simp at this;omega
    rw[this] at hi
    simp at hi;subst hi
    have hik2:i=k:=by omega
    subst hik2
    exact⟨hnm,⟨f1,f2⟩,⟨t1,t2⟩,⟨n2,n3⟩,⟨g2,g3⟩,rfl⟩)
  refine⟨m,a',m1,m2,?_⟩
  refine lv 85 [] (.c1 (cDz l a1) (di r)<|.t<|.h (.dr 21)<|.x (.str nm)<|.c1 (cDz l a2) (di f)<|.c1 (cDz l a3) (di t)<|.c1 (cDz l a4) (dIs nd)<|.c1 (cDz l a5) (dIs gv)<|.ls [ke 0,ke 1,ke 4,ke 5,ke 6,ch 7 (di (k+1:Nat))] (stC l a5 S Pl (rs++[mkR nm f t nd gv]))) (Ab PP 8 [D.ptr 0 0,di 3] (dz l a) (di r) (dz l a1)/\decide ((k:Int)<wrap i64 (1+r))=true/\0<=(k:Int)/\[V.str (ByteArray.mk #[114]).data.toList,V.str (ByteArray.mk #[115]).data.toList,V.str (ByteArray.mk #[116]).data.toList][Int.toNat (k:Int)]?=some (V.str nm)/\Ab PP 8 [D.ptr 0 0,di (length (map V.str S):Int)] (dz l a1) (di f) (dz l a2)/\Ab PP 8 [D.ptr 0 0,di (length (map V.str S):Int)] (dz l a1) (di f) (dz l a2)/\Q (di f)/\Ab PP 8 [D.ptr 0 0,di (length (map V.str S):Int)] (dz l a2) (di t) (dz l a3)/\Ab PP 8 [D.ptr 0 0,di (length (map V.str S):Int)] (dz l a2) (di t) (dz l a3)/\Q (di t)/\Ab PP 15 [D.ptr 0 0,di (Pl.length:Int),di 2] (dz l a3) (dIs nd) (dz l a4)/\Ab PP 15 [D.ptr 0 0,di (Pl.length:Int),di 2] (dz l a3) (dIs nd) (dz l a4)/\Q (dIs nd)/\Ab PP 15 [D.ptr 0 0,di (Pl.length:Int),di 2] (dz l a4) (dIs gv) (dz l a5)/\Ab PP 15 [D.ptr 0 0,di (Pl.length:Int),di 2] (dz l a4) (dIs gv) (dz l a5)/\Q (dIs gv)/\Q [St.mk [some (cDz l a1),some zM,some (cM S Pl rs),some zRl] [(2,14,map Ak rs)],St.mk [some (cDz l a2),some zM,some (cM S Pl rs),some zRl] [(2,14,map Ak rs)],St.mk [some (cDz l a3),some zM,some (cM S Pl rs),some zRl] [(2,14,map Ak rs)],St.mk [some (cDz l a4),some zM,some (cM S Pl rs),some zRl] [(2,14,map Ak rs)],St.mk [some (cDz l a5),some zM,some (cM S Pl rs),some zRl] [(2,14,map Ak rs)]]/\((Q (some [D.v (vSs S)])/\Q (some [D.v (vSs S)])/\Q (some [D.v (vSs S)])/\Q (some [D.v (vSs S)])/\Q (some [D.v (vSs S)])/\Q (some [D.v (vSs S)])/\Q (some [D.v (vSs S)])/\Q (some [D.v (vSs S)])/\Q (some [D.v (vSs S)])/\Q (some [D.v (vSs S)])/\Q (some [D.v (vSs S)])/\True)/\(Q (some [D.v (vSs S)])/\Q (some [D.v (vSs S)])/\Q (some [D.v (vSs S)])/\Q (some [D.v (vSs S)])/\Q (some [D.v (vSs S)])/\Q (some [D.v (vSs S)])/\Q (some [D.v (vSs S)])/\Q (some [D.v (vSs S)])/\Q (some [D.v (vSs S)])/\Q (some [D.v (vSs S)])/\Q (some [D.v (vSs S)])/\True)/\True)/\Q (map Ak rs)/\Ar (length (map Ak rs)+length (V.agg (V.str nm::V.int i64 f::V.int i64 t::vIs nd::vIs gv::V.list nV::V.int i64 0::V.int i64 0::V.int i64 0::V.list nV::V.list nV::V.list nV::V.list nV::V.int i64 0::nV)::nV)) 232/\di (wrap i64 ((k:Int)+1))=di (↑(k+1):Int)/\[some (cDz l a5),some zM,some [di 1,D.v (vSs S),D.v (vSs Pl),dn,dn,di 0,di 0,D.acc 2 (map Ak rs++V.agg (V.str nm::vi f::vi t::vIs nd::vIs gv::V.list nV::vi 0::vi 0::vi 0::V.list nV::V.list nV::V.list nV::V.list nV::vi 0::nV)::nV),di 0,dn]]=[some (cDz l a5),some zM,some (cM S Pl (rs++[mkR nm f t nd gv]))]/\[(2,14,map Ak rs++V.agg (V.str nm::vi f::vi t::vIs nd::vIs gv::V.list nV::vi 0::vi 0::vi 0::V.list nV::V.list nV::V.list nV::V.list nV::vi 0::nV)::nV)]=[(2,14,map Ak (rs++[mkR nm f t nd gv]))]/\I0 fCtr 1 (Ah m) (dz l a') [kl H3 [1,1,1,0,1,0,0],KI.blk 0,kc H3 [1,1,1,1]] (mkE 85 [(0,D.ptr 0 0),(1,db false),(4,D.ptr 1 0),(5,D.ptr 2 0),(6,di (Pl.length:Int)),(7,di (↑(k+1):Int))]) (stC l a5 S Pl (rs++[mkR nm f t nd gv]))) ?_
  rw[show((S.map V.str).length:Int)=(S.length:Int) by rw[length_map]]
  refine⟨h4,?_,by omega,Dp hnm,f4,f4,rfl,t4,t4,rfl,n4,n4,rfl,g4,g4,rfl,rfl,by simp,rfl,⟨?_,?_⟩,Af (by omega),?_,?_,⟨m3⟩⟩
  ·rw[Aj (by omega) (by omega)];exact decide_eq_true hk
  ·simp only[length_map,length_cons,length_nil];omega
  ·simp only[length_map,length_cons,length_nil];omega
  ·show _=[some (cDz l a5),some zM,some [di 1,.v (vSs S),.v (vSs Pl),.v .nils,.v .nils,di 0,di 0,.acc 2 ((rs++[mkR nm f t nd gv]).map Ak),di 0,.v .nils]]
   rw[←AJ];rfl
  ·rw[←AJ];rfl
 ·obtain⟨ys,a2,y1,y2,y3,y4⟩:=Fh l hl a1 h3 Pl.length (by omega) 3 (by decide) (by decide)
  obtain⟨c,hc⟩:∃c,c=Cf 0 ys:=⟨_,rfl⟩
  refine⟨⟨1,S,Pl,[],[],0,0,rs,c⟩,a2,⟨rfl,hS,hP,rfl,rfl,rfl,rfl,by show rs.length<=3;omega,hR,ys,y2,y3,hc⟩,y1,?_⟩
  refine lv 85 [] (.c1 (cDz l a1) (di r)<|.f<|.c1 (cDz l a2) (dIs ys)<|.c (dV c) .r) (Ab PP 8 [D.ptr 0 0,di 3] (dz l a) (di r) (dz l a1)/\decide ((k:Int)<wrap i64 (1+r))=false/\Ab PP 15 [D.ptr 0 0,di (Pl.length:Int),di 3] (dz l a1) (dIs ys) (dz l a2)/\F0 14 [di 0,dIs ys] (dV c)/\Q [some (cDz l a2)]/\D.v (V.agg [vi 1,V.list (map V.str S),V.list (map V.str Pl),V.list [],V.list [],vi 0,vi 0,V.list (map Ak rs),vi c.n,V.list (map eV c.kids)])=Ah (Mod.mk 1 S Pl [] [] 0 0 rs c)) ?_
  refine⟨h4,?_,y4,hc▸cfg28_spec ys (by omega) 0,rfl,rfl⟩
  rw[Aj (by omega) (by omega)];exact decide_eq_false hk
theorem ctr_ex(l:List UInt8)(hl:l.length<=200)(a:Nat)(ha:a<=l.length):
  ∃(m:Mod) (a':Nat),MadeC m/\a'<=l.length/\Ab PP 11 [.ptr 0 0,db false] (dz l a) (Ah m) (dz l a'):=by
 obtain⟨r1,a1,h1,h2,h3,h4⟩:=Aw l hl a ha 2 (by decide) (by decide)
 obtain⟨r2,a2,h5,h6,h7,h8⟩:=Aw l hl a1 h3 2 (by decide) (by decide)
 obtain⟨S,hS,hS2⟩:∃S:List (List UInt8),(S=[[97]]∨S=[[97],[98]])/\(r1=0/\S=[[97]]∨r1=1/\S=[[97],[98]]):=by
  rcases(show r1=0∨r1=1 by omega) with h|h
  ·exact⟨_,.inl rfl,.inl ⟨h,rfl⟩⟩
  ·exact⟨_,.inr rfl,.inr ⟨h,rfl⟩⟩
 obtain⟨Pl,hP,hP2⟩:∃S:List (List UInt8),(S=[[120]]∨S=[[120],[121]])/\(r2=0/\S=[[120]]∨r2=1/\S=[[120],[121]]):=by
  rcases(show r2=0∨r2=1 by omega) with h|h
  ·exact⟨_,.inl rfl,.inl ⟨h,rfl⟩⟩
  ·exact⟨_,.inr rfl,.inr ⟨h,rfl⟩⟩
 obtain⟨m,a',m1,m2,m3⟩:=ctr_loop l hl S Pl hS hP _ 0 a2 [] rfl h7 (by omega) rfl (fun i r h=>by simp at h)
 refine⟨m,a',m1,m2,?_⟩
 refine sv fCtr 85 [] (.h (.dr 11)<|.c1 (cDz l a1) (di r1)<|.c1 (cDz l a2) (di r2)<|.h .rn<|.h (.q 3 0)<|.h (.cl 2 7 2 14)<|.ls [ke 0,ke 1,ke 4,ke 5,ch 6 (di Pl.length),ch 7 (di (0:Nat))] (stC l a2 S Pl [])) (Ab PP 8 [D.ptr 0 0,di 2] (dz l a) (di r1) (dz l a1)/\Ab PP 8 [D.ptr 0 0,di 2] (dz l a) (di r1) (dz l a1)/\Q (di r1)/\(∀(x:V),x∈ [V.str (ByteArray.mk #[97]).data.toList,V.str (ByteArray.mk #[98]).data.toList]->V.size x=1)/\0<=(fun x=>x.snd) (i64,wrap i64 (1+r1))/\(fun x=>x.snd) (i64,wrap i64 (1+r1))<=(↑(length [V.str (ByteArray.mk #[97]).data.toList,V.str (ByteArray.mk #[98]).data.toList]):Int)/\Ab PP 8 [D.ptr 0 0,di 2] (dz l a1) (di r2) (dz l a2)/\Ab PP 8 [D.ptr 0 0,di 2] (dz l a1) (di r2) (dz l a2)/\Q (di r2)/\(∀(x:V),x∈ [V.str (ByteArray.mk #[120]).data.toList,V.str (ByteArray.mk #[121]).data.toList]->V.size x=1)/\0<=(fun x=>x.snd) (i64,wrap i64 (1+r2))/\(fun x=>x.snd) (i64,wrap i64 (1+r2))<=(↑(length [V.str (ByteArray.mk #[120]).data.toList,V.str (ByteArray.mk #[121]).data.toList]):Int)/\Q [St.mk [some (cDz l a),some zMl,some zMl] [],St.mk [some (cDz l a1),some zMl,some zMl] [],St.mk [some (cDz l a2),some zMl,some zMl] []]/\True/\di (length (List.drop 0 (take (Int.toNat ((fun x=>x.snd) (i64,wrap i64 (1+r2)))) (V.str (ByteArray.mk #[120]).data.toList::V.str (ByteArray.mk #[121]).data.toList::nV))):Int)=di (Pl.length:Int)/\di 0=di (↑0:Int)/\[some (cDz l a2),some zMl,some [di 1,D.v (V.list (List.drop 0 (take (Int.toNat ((fun x=>x.snd) (i64,wrap i64 (1+r1)))) (V.str (ByteArray.mk #[97]).data.toList::V.str (ByteArray.mk #[98]).data.toList::nV)))),D.v (V.list (List.drop 0 (take (Int.toNat ((fun x=>x.snd) (i64,wrap i64 (1+r2)))) (V.str (ByteArray.mk #[120]).data.toList::V.str (ByteArray.mk #[121]).data.toList::nV)))),dn,dn,di 0,di 0,D.acc 2 nV,di 0,dn]]=[some (cDz l a2),some zM,some (cM S Pl [])]/\Q [(2,14,nV)]/\I0 fCtr (length (dz l a).H) (Ah m) (dz l a') [kl H3 [1,1,1,0,1,0,0],KI.blk 0,kc H3 [1,1,1,1]] (mkE 85 [(0,D.ptr 0 0),(1,db false),(4,D.ptr 1 0),(5,D.ptr 2 0),(6,di (Pl.length:Int)),(7,di (↑0:Int))]) (stC l a2 S Pl [])) ?_
 refine⟨h4,h4,rfl,by simp[V.size],?_,?_,h8,h8,rfl,by simp[V.size],?_,?_,rfl,trivial,?_,rfl,?_,rfl,⟨m3⟩⟩
 ·show 0<=i64.wrap (1+r1);rw[Aj (by omega) (by omega)];omega
 ·show i64.wrap (1+r1)<=2;rw[Aj (by omega) (by omega)];omega
 ·show 0<=i64.wrap (1+r2);rw[Aj (by omega) (by omega)];omega
 ·show i64.wrap (1+r2)<=2;rw[Aj (by omega) (by omega)];omega
 ·rcases hP2 with⟨rfl,rfl⟩|⟨rfl,rfl⟩<;>rfl
 ·rcases hS2 with⟨rfl,rfl⟩|⟨rfl,rfl⟩<;>rcases hP2 with⟨rfl,rfl⟩|⟨rfl,rfl⟩<;>rfl
theorem mapName{rs:List Rul}(h3:rs.length<=3){ns np:Nat}(h:∀k r,rs[k]?=some r->MadeR ns np k r):rs.map Rul.name=dl3.take rs.length:=by
 apply ext_getElem?
 intro i
 by_cases hi:i<rs.length
 ·have hx:rs[i]?=some rs[i]:=getElem?_eq_getElem hi
  rw[getElem?_map,hx,List.getElem?_take_of_lt hi,(h i _ hx).name];rfl
 ·rw[getElem?_eq_none (by simp;omega),getElem?_eq_none (by simp;omega)]
theorem vals_nat(ys:List Int)(n:Nat)(h:ys.length=n)(h0:∀x∈ys,0<=x/\x<=1048576):CF (replicate n .nat) (ys.map fun x=>Val.mk x [])=true:=by
 induction n generalizing ys with
 |zero=>cases ys with
  |nil=>rfl
  |cons y ys=>simp at h
 |succ n ih=>cases ys with
  |nil=>simp at h
  |cons y ys=>
   have:=h0 y (by simp)
   simp only[replicate_succ,map_cons,CF,AG,Bool.and_eq_true,decide_eq_true_eq,beq_iff_eq]
   exact⟨⟨this.1,this.2,rfl⟩,ih ys (by simpa using h) fun x hx=>h0 x (by simp[hx])⟩
theorem size_vals(ys:List Int):Val.sizes (ys.map fun x=>Val.mk x [])=ys.length:=by
 induction ys with
 |nil=>rfl
 |cons y ys ih=>simp only[map_cons,Val.sizes,ih,length_cons,Val.size];omega
theorem FK(s:Int)(ys:List Int):(Cf s ys).size=2+ys.length:=by
 simp only[Cf,Val.size,Val.sizes,size_vals];omega
theorem Ht(m:Mod)(hk:m.kind=1)(hpl:m.places.length<=100)(s:Int)(hs:0<=s/\s<m.states.length)(ys:List Int)(hy:ys.length=m.places.length)(h:∀x∈ys,0<=x/\x<=1048576):Au (CM m) (Cf s ys)=true:=by
 rw[Au,decide_eq_true (by rw[FK];omega),Bool.true_and,CM,show ER m=.nat by simp[ER,hk]]
 simp only[AG,Cf,Val.n,Val.kids,CF,Es,Bool.and_eq_true,decide_eq_true_eq,beq_iff_eq]
 refine⟨?_,by simp[hy],⟨decide_eq_true hs.1,decide_eq_true hs.2,by rfl⟩,vals_nat ys _ hy h⟩
 first|trivial|rfl
theorem MadeC.ok{m:Mod}(h:MadeC m):m.ok:=by
 have hst:1<=m.states.length/\m.states.length<=2:=by rcases h.states with e|e<;>rw[e]<;>decide
 have hpl:1<=m.places.length/\m.places.length<=2:=by rcases h.places with e|e<;>rw[e]<;>decide
 have hb:∀{x a b:Int},a<=x->x<=b->A3 x a b=true:=fun h1 h2=>by simp[A3,h1,h2]
 have hget:∀r∈m.rules,MadeR m.states.length m.places.length (m.rules.idxOf r) r:=fun r hr=>by
  have hi:=List.idxOf_lt_length_of_mem hr
  exact h.rules _ r (by rw[getElem?_eq_getElem hi,List.getElem_idxOf])
 have hc:=h.count
 refine⟨.inl h.kind,?_,?_,?_,?_,?_,?_,?_⟩
 ·simp only[CH,limM,if_pos h.kind,Bool.and_eq_true,decide_eq_true_eq,h.letters,h.levels,h.age]
  exact⟨hb (by omega) (by omega),by omega,hb (by omega) (by omega),by decide,by decide,by decide⟩
 ·rw[Cp,if_pos (by rw[h.kind];rfl),h.ranks];rfl
 ·have hn:=mapName h.count h.rules
  rw[Ge,namesM,hn,CK,h.letters]
  have:m.rules.length=0∨m.rules.length=1∨m.rules.length=2∨m.rules.length=3:=by omega
  rcases h.states with e|e<;>rcases h.places with e'|e'<;>rcases this with e2|e2|e2|e2<;>rw[e,e',e2]<;>decide
 ·intro r hr
  have hm:=hget r hr
  have h1:=hm.need.1
  have h2:=hm.give.1
  rw[hm.rest]
  exact⟨by show r.need.length<=_;omega,by show r.give.length<=_;omega,Nat.zero_le _,Nat.zero_le _,Nat.zero_le _,Nat.zero_le _,Nat.zero_le _⟩
 ·intro r hr
  have hm:=hget r hr
  obtain⟨f1,f2⟩:=hm.frm
  obtain⟨t1,t2⟩:=hm.to
  obtain⟨n1,n2⟩:=hm.need
  obtain⟨g1,g2⟩:=hm.give
  have hr:=hm.rest
  generalize r.name=nm at hr
  generalize r.frm=f at*
  generalize r.to=t at*
  generalize r.need=nd at*
  generalize r.give=gv at*
  subst hr
  rw[G8,if_pos h.kind]
  simp only[Ej,BR,CV,BX,onlyC,mkR,Bool.and_eq_true,all_eq_true,beq_iff_eq,decide_eq_true_eq,and_true,true_and,length_nil]
  refine⟨hb (by omega) (by omega),hb (by omega) (by omega),⟨by omega,by omega,fun x hx=>hb (n2 x hx).1 (by have:=(n2 x hx).2;omega),fun x hx=>hb (g2 x hx).1 (by have:=(g2 x hx).2;omega)⟩,?_⟩
  simp
 ·obtain⟨ys,y1,y2,y3⟩:=h.start
  rw[y3]
  exact Ht m h.kind (by omega) 0 ⟨by omega,by omega⟩ ys y1 fun x hx=>by have:=y2 x hx;omega
 ·obtain⟨ys,y1,y2,y3⟩:=h.start
  rw[y3,FK];omega
abbrev lf(y:Int):Val:=.mk y []
structure IsC(c:Val)(s:Int)(ys:List Int):Prop where
 eq:c=Cf s ys
 len:c.kids.length=ys.length+1
 head:c.kids[0]?=some (lf s)
 at':∀(i:Nat) (y:Int),ys[i]?=some y->c.kids[i+1]?=some (lf y)
theorem isC(s:Int)(ys:List Int):IsC (Cf s ys) s ys:=
 ⟨rfl,by simp[Cf,Val.kids],rfl,fun i y h=>by simp[Cf,Val.kids,h]⟩
def FD:List Int->List Int->Bool
 |n::ns,y::ys=> !decide (y<n)&&FD ns ys
 |_,_=>true
def enB(r:Rul)(s:Int)(ys:List Int):Bool:=(s==r.frm)&&FD r.need ys
abbrev cR(r:Rul):List D:=[.v (.str r.name),di r.frm,di r.to,dIs r.need,dIs r.give,dIs r.move,di r.chan,di r.act,di r.letter,dIs r.path,dIs r.next,.v (AA r.takes),dIs r.makes,di r.second]
def outP:List Val->List Int->List Int->Val×Int
 |xs,w::ws,g::gs=>if decide (w+g>1048576)=true then(.mk 0 [],1) else outP (xs++[lf (w+g)]) ws gs
 |xs,_,_=>(.mk 0 xs,0)
abbrev dP(p:Val×Int):D:=.tup [dV p.1,di p.2]
def subM(r:Rul)(ys:List Int):List Int:=zipWith (fun y n=>y-n) ys r.need
abbrev stA(r:Rul)(ws:List Int):St:=⟨[some [di 0,.v .nils],some (cR r),some (cIs ws)],[]⟩
abbrev stB(r:Rul)(ws:List Int)(xs:List Val):St:=⟨[some [di 0,.v .nils],some (cR r),some (cIs ws),some [di 0,.acc 1 (xs.map eV)]],[(1,2,xs.map eV)]⟩
def apM(r:Rul)(s:Int)(ys:List Int):Val×Int:=if enB r s ys=true then outP [lf r.to] (subM r ys) r.give else(.mk 0 [],18)
def Ce(p:Val×Int):List Val×Int:=if (p.2==18)=true then([],0) else if (p.2 !=0)=true then([],p.2) else([p.1],0)
abbrev dLP(p:List Val×Int):D:=.tup [dVs p.1,di p.2]
abbrev Stp:=Int×Val
abbrev vSt(s:Stp):V:=.agg [vi s.1,vi s.2.n,vVs s.2.kids]
abbrev BS(l:List Stp):V:=.list (l.map vSt)
abbrev accP(l:List Stp):D:=.acc 1 (l.map vSt)
abbrev ownP(l:List Stp):St:=⟨[],[(1,3,l.map vSt)]⟩
theorem vSt_snoc(l:List Stp)(s:Stp):l.map vSt++[vSt s]=(l++[s]).map vSt:=by simp
def EN(ap:Int->List Val×Int):Nat->Int->List Stp->List Stp×Int
 |0,_,acc=>if decide ((acc.length:Int)>256)=true then([],1) else(acc,0)
 |n+1,i,acc=>if ((ap i).2 !=0)=true then([],(ap i).2) else EN ap n (i+1) (acc++(ap i).1.map fun v=>(i,v))
abbrev dSP(p:List Stp×Int):D:=.tup [.v (BS p.1),di p.2]
noncomputable abbrev fNew:Func:= Tryz.f5
theorem new_spec(s:List UInt8):Ab PP 5 [.v (vBs s)] σ0 (.ptr 0 0) (dz (s.take 200) 0):=by
 by_cases h:s.length>200
 ·refine sv fNew 11 [] (.t .ro) (decide ((length (map vb s):Int)>200)=true/\(∀(x:V),x∈map vb s->V.size x=1)/\0<=(200:Int)/\(200:Int)<=(length (map vb s):Int)/\okH 1 [] [some [D.v (V.list (List.drop 0 (take (Int.toNat ((200:Int))) (map vb s)))),di 0]]=true/\[some [D.v (V.list (List.drop 0 (take (Int.toNat ((200:Int))) (map vb s)))),di 0]]=[some (cDz (take 200 s) 0)]/\Q (D.ptr 0 0)) ?_
  have e:(s.take 200).map vb=List.drop 0 (take (Int.toNat 200) (s.map vb)):=by rw[List.map_take];rfl
  refine⟨by rw[length_map];exact decide_eq_true (by omega),by simp[V.size],by decide,by show(200:Int)<=_;rw[length_map];omega,rfl,?_,rfl⟩
  rw[cDz,vBs,e];rfl
 ·refine sv fNew 11 [] (.f .ro) (decide ((length (map vb s):Int)>200)=false/\okH 1 [] [some [D.v (vBs s),di 0]]=true/\[some [D.v (vBs s),di 0]]=[some (cDz (take 200 s) 0)]/\Q (D.ptr 0 0)) ?_
  refine⟨by rw[length_map];exact decide_eq_false (by omega),rfl,?_,rfl⟩
  rw[take_of_length_le (by omega)];rfl
end Go.Proofs.YtcjhkglbdahfgaaGreat
