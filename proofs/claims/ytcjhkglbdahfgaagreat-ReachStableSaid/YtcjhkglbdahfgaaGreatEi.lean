/-
  A part of the proof.
-/
import Derived.Test.YtcjhkglbdahfgaaGreatEd
import Derived.Test.YtcjhkglbdahfgaaGreatEf
import Derived.Test.YtcjhkglbdahfgaaGreatEb
namespace Go.Proofs.YtcjhkglbdahfgaaGreat
open Go.Dv Go.Nv
set_option maxRecDepth 20000
open List (all_eq_true append_assoc append_nil cons_append drop_eq_getElem_cons drop_of_length_le drop_zero ext_getElem? flatMap_cons flatten flatten_cons foldl_cons getD_eq_getElem?_getD getElem?_append_left getElem?_append_right getElem?_drop getElem?_eq_getElem getElem?_eq_none getElem?_map getElem?_set getElem?_take getElem?_toArray length length_append length_cons length_drop length_map length_nil length_pos_iff length_set length_take map map_append map_cons map_map map_nil mem_append mem_cons mem_map mem_of_getElem? mem_of_mem_drop mem_of_mem_take mem_or_eq_of_mem_set mem_singleton nil_append not_mem_nil replicate replicate_succ set_cons_succ set_cons_zero size_toArray take take_add_one take_append_drop take_left take_of_length_le take_succ_cons zipWith)
open Go.IntKind (wrap i64 u64)
def mvT(r:Rul)(k:Nat):Int:=if r.move=[] then k else r.move.getD k 0
def mvS(r:Rul)(k:Nat)(x:Int)(ws:List Int):List Int:=if mvT r k>=0 then ws.set (mvT r k).toNat (ws.getD (mvT r k).toNat 0+x) else ws
def mvL(r:Rul):Nat->List Int->List Int->List Int->List Int
 |k,y::ys,n::ns,ws=>mvL r (k+1) ys ns (mvS r k (y-n) ws)
 |_,_,_,ws=>ws
def movM(r:Rul)(ys:List Int):List Int:=mvL r 0 ys r.need (replicate ys.length 0)
theorem mvL_nil(r:Rul)(k:Nat)(ns ws:List Int):mvL r k [] ns ws=ws:=by simp[mvL]
theorem mvS_len(r:Rul)(k:Nat)(x:Int)(ws:List Int):(mvS r k x ws).length=ws.length:=by
 unfold mvS;split
 ·rw[length_set]
 ·rfl
theorem mvL_len(r:Rul):∀(ys ns:List Int) (k:Nat) (ws:List Int),(mvL r k ys ns ws).length=ws.length
 |[],_,_,_=>by simp[mvL]
 |_::_,[],_,_=>by simp[mvL]
 |y::ys,n::ns,k,ws=>by rw[mvL,mvL_len r ys ns,mvS_len]
def MvOK(r:Rul)(N:Nat):Prop:=r.move=[]∨r.move.length=N/\∀t∈r.move, -1<=t/\t<N
theorem mvT_bd{r:Rul}{N k:Nat}(h:MvOK r N)(hk:k<N): -1<=mvT r k/\mvT r k<N:=by
 unfold mvT
 rcases h with h|⟨h1,h2⟩
 ·rw[if_pos h];omega
 ·split
  ·omega
  ·rw[getD_eq_getElem?_getD,getElem?_eq_getElem (by omega)]
   exact h2 _ (List.getElem_mem _)
def apV(r:Rul)(s:Int)(ys:List Int):Val×Int:=if enB r s ys=true then outP [lf r.to] (movM r ys) r.give else(.mk 0 [],18)
structure CtM(m:Mod):Prop where
 ok:m.ok
 kind:m.kind=1
 start:AC m m.start
structure RulV(m:Mod)(r:Rul):Prop where
 frm:0<=r.frm/\r.frm<m.states.length
 to:0<=r.to/\r.to<m.states.length
 needL:r.need.length=m.places.length
 giveL:r.give.length=m.places.length
 need:∀x∈r.need,0<=x/\x<=16
 give:∀x∈r.give,0<=x/\x<=16
 move:MvOK r m.places.length
theorem CtM.rule{m:Mod}(h:CtM m){r:Rul}(hr:r∈m.rules):RulV m r:=by
 have h1:=h.ok.right r hr
 rw[G8,if_pos h.kind] at h1
 simp only[Ej,BR,CV,Bool.and_eq_true,Bool.or_eq_true,all_eq_true,beq_iff_eq] at h1
 obtain⟨h2,h3,⟨h4,h5,h6,h7⟩,h8,_⟩:=h1
 have h2:=CE h2
 have h3:=CE h3
 refine⟨⟨h3.1,by omega⟩,⟨h2.1,by omega⟩,by omega,by omega,fun x hx=>CE (h6 x hx),fun x hx=>CE (h7 x hx),?_⟩
 rcases h8 with h8|⟨h8,h9⟩
 ·exact .inl (List.length_eq_zero_iff.1 (by omega))
 ·exact .inr ⟨by omega,fun t ht=>by have:=CE (h9 t ht);omega⟩
theorem CtM.places{m:Mod}(h:CtM m):1<=m.places.length/\m.places.length<=6/\1<=m.states.length/\m.states.length<=8/\m.rules.length<=12:=by
 obtain⟨h1,h2,h3,h4,h5,_⟩:=h.ok.sz
 omega
theorem AC.sizeM{m:Mod}(hm:CtM m){c:Val}(h:AC m c):c.size<=8:=by
 rw[h.eq,FK,h.len]
 have:=hm.places;omega
theorem AC.validM{m:Mod}(hm:CtM m){c:Val}(h:AC m c):Au (CM m) c=true:=by
 rw[h.eq]
 exact Ht m hm.kind (by have:=hm.places;omega) _ h.st _ h.len h.nm
theorem mvS_add(r:Rul)(k:Nat)(x:Int)(ws gs:List Int)(h:ws.length=gs.length):mvS r k x (zipWith (fun w g=>w+g) ws gs)=zipWith (fun w g=>w+g) (mvS r k x ws) gs:=by
 unfold mvS
 split
 ·generalize (mvT r k).toNat=i
  apply ext_getElem?
  intro j
  rw[getElem?_set,List.length_zipWith,List.getElem?_zipWith,List.getElem?_zipWith,getElem?_set]
  by_cases hij:i=j
  ·subst hij
   rw[if_pos rfl,if_pos rfl,getD_eq_getElem?_getD,getD_eq_getElem?_getD,List.getElem?_zipWith]
   by_cases hi:i<ws.length
   ·rw[if_pos (by omega),if_pos hi,getElem?_eq_getElem hi,getElem?_eq_getElem (show i<gs.length by omega)]
    simp only[Option.getD_some]
    congr 1;omega
   ·rw[if_neg (by omega),if_neg hi]
  ·rw[if_neg hij,if_neg hij]
 ·rfl
theorem mvL_add(r:Rul)(gs:List Int):∀(ys ns:List Int) (k:Nat) (ws:List Int),ws.length=gs.length->mvL r k ys ns (zipWith (fun w g=>w+g) ws gs)=zipWith (fun w g=>w+g) (mvL r k ys ns ws) gs
 |[],_,_,_,_=>by simp[mvL]
 |_::_,[],_,_,_=>by simp[mvL]
 |y::ys,n::ns,k,ws,h=>by
  rw[mvL,mvL,mvS_add r k _ ws gs h,mvL_add r gs ys ns (k+1) _ (by rw[mvS_len];exact h)]
theorem zip_zero:∀gs:List Int,zipWith (fun w g=>w+g) (replicate gs.length 0) gs=gs
 |[]=>rfl
 |g::gs=>by simp[replicate_succ,zip_zero gs]
def aftV(r:Rul)(ys:List Int):List Int:=zipWith (fun w g=>w+g) (movM r ys) r.give
theorem aftV_eq(r:Rul)(ys:List Int)(h:r.give.length=ys.length):mvL r 0 ys r.need r.give=aftV r ys:=by
 rw[aftV,movM, ←mvL_add r r.give ys r.need 0 _ (by rw[List.length_replicate,h]), ←h,zip_zero]
theorem cchkM_spec(m:Mod)(hm:CtM m)(i:Nat)(hi:i<m.rules.length)(c:Val)(hc:AC m c):Ab PP 150 [Ah m,di i,dV c] σ0 (di 0) σ0:=by
 refine sv fCChk 32 [3,5] (.c (di 0)<|.k<|.f<|.f<|.f<|.c (db true) .r) (F0 59 [Ah m] (di 0)/\(m.kind !=1)=false/\decide ((i:Int)<0)=false/\decide ((i:Int)>=(length (map Ak m.rules):Int))=false/\F0 42 [Ah m,dV c] (db true)/\Q (di 0)) ?_
 have hsz:=hc.sizeM hm
 have h1:=D9 m hm.ok c (by omega)
 rw[hc.validM hm] at h1
 exact⟨Ea m hm.ok,by rw[hm.kind];rfl,decide_eq_false (by omega),by rw[length_map];exact decide_eq_false (by omega),h1,rfl⟩
theorem mvdM_spec(r:Rul)(i N:Nat)(h:MvOK r N)(hi:i<N):Ab PP 152 [BK r,di i] σ0 (di (mvT r i)) σ0:=by
 by_cases hr:r.move=[]
 ·refine sv fMvd 15 [2] (.t .r) (((length (map vi r.move):Int)==0)=true/\di (i:Int)=di (mvT r i)) ?_
  exact⟨by rw[hr];rfl,by rw[mvT,if_pos hr]⟩
 ·have hl:=(h.resolve_left hr).1
  have hti:r.move[i]?=some (mvT r i):=by rw[mvT,if_neg hr,getD_eq_getElem?_getD,getElem?_eq_getElem (show i<r.move.length by omega)];rfl
  generalize mvT r i=t at*
  refine sv fMvd 15 [2] (.f<|.x (vi t) .r) (((length (map vi r.move):Int)==0)=false/\0<=(i:Int)/\(map vi r.move)[Int.toNat (i:Int)]?=some (vi t)/\Q (di t)) ?_
  exact⟨beq_eq_false_iff_ne.2 (by rw[length_map];omega),by omega,Ao hti,rfl⟩
theorem capM_l1(r:Rul)(ys:List Int)(hl:r.need.length=ys.length)(hy:ys.length<=6)(by1:∀y∈ys,0<=y/\y<=1048576)(bn:∀y∈r.need,0<=y/\y<=16)(N:Nat)(hN:N=ys.length)(hm:MvOK r N)(n:Nat):∀(k:Nat) (ws:List Int),N-k=n->k<=N->ws.length=N->(∀w∈ws, -(1048576*(k:Int))<=w/\w<=1048576*(k:Int)+16)->
  Rn PP Hx 0 (dP (Hw [lf r.to] (mvL r k (ys.drop k) (r.need.drop k) ws))) σ0 ([.lp (sub ET [1,1,1,1,1,0,1,0,0]),.blk 0,.code (sub ET [1,1,1,1,1,1])]++[]) (mkE 90 [(6,.ptr 0 0),(9,.ptr 1 0),(10,.arr 2 0 N),(40,dVs (ys.map lf)),(41,di ys.length),(42,di k)]) (stA r ws):=by
 induction n with
 |zero=>
  intro k ws hn hkN hx hb
  refine lv 90 [3,5] (.f<|.a 1<|.h .g<|.lo [ke 6,ke 14,ch 72 (.arr 2 0 N),ch 73 (di N),ch 74 (di (0:Nat))] (stB r ws [lf r.to])) (decide ((k:Int)<(ys.length:Int))=false/\Q (D.arr 2 0 N)/\Q (di (N:Int))/\di 0=di (↑0:Int)/\okH 4 [1] [some [di 0,dn],some (cR r),some (cIs ws),some [di 0,D.acc 1 [V.agg [vi r.to,V.list []]]]]=true/\[some [di 0,dn],some (cR r),some (cIs ws),some [di 0,D.acc 1 (V.agg (vi r.to::V.list nV::nV)::nV)]]=[some [di 0,dn],some (cR r),some (cIs ws),some [di 0,D.acc 1 (eV (lf r.to)::nV)]]/\[(1,2,V.agg (vi r.to::V.list nV::nV)::nV)]=[(1,2,eV (lf r.to)::nV)]/\I0 Hx 0 (dP (Hw [lf r.to] (mvL r k (List.drop k ys) (List.drop k r.need) ws))) σ0 [kl ET [1,1,1,1,1,1,1,0,1,0,0],KI.blk 2,kc ET [1,1,1,1,1,1,1,1]] (mkE 90 [(6,D.ptr 0 0),(14,D.ptr 3 0),(72,D.arr 2 0 N),(73,di (N:Int)),(74,di (↑0:Int))]) (stB r ws [lf r.to])) ?_
  rw[drop_of_length_le (show ys.length<=k by omega),mvL_nil]
  refine⟨decide_eq_false (by omega),rfl,rfl,rfl,by simp[okH,D.okNs,D.okN,BH],rfl,rfl,⟨?_⟩⟩
  have:=cap_l2 r ws (by omega) _ 0 [lf r.to] rfl (by simp)
  rw[hx] at this
  exact this
 |succ n ih=>
  intro k ws hn hkN hx hb
  have hk:k<N:=by omega
  have okS:∀l:List Int,okH 3 [] [some [di 0,.v .nils],some (cR r),some (cIs l)]=true:=fun l=>by simp[okH,D.okNs,D.okN,BH]
  obtain⟨y,hy1⟩:∃y,ys[k]?=some y:=⟨_,getElem?_eq_getElem (by omega)⟩
  obtain⟨x,hn1⟩:∃x,r.need[k]?=some x:=⟨_,getElem?_eq_getElem (by omega)⟩
  have e3:ys.drop k=y::ys.drop (k+1):=by rw[drop_eq_getElem_cons (by omega)];congr 1;rw[getElem?_eq_getElem (by omega)] at hy1;simpa using hy1
  have e4:r.need.drop k=x::r.need.drop (k+1):=by rw[drop_eq_getElem_cons (by omega)];congr 1;rw[getElem?_eq_getElem (by omega)] at hn1;simpa using hn1
  have b1:=by1 _ (mem_of_getElem? hy1)
  have b2:=bn _ (mem_of_getElem? hn1)
  have ht:=mvT_bd hm hk
  have hmd:=mvdM_spec r k N hm hk
  have hyv:((ys.map lf).map eV)[Int.toNat (k:Int)]?=some (Ad (lf y)):=Az (by rw[getElem?_map,hy1];rfl)
  rw[e3,e4,mvL,mvS]
  generalize mvT r k=t at*
  by_cases h0:t>=0
  ·rw[if_pos h0]
   obtain⟨w,hw⟩:∃w,ws[t.toNat]?=some w:=⟨_,getElem?_eq_getElem (by omega)⟩
   rw[show ws.getD t.toNat 0=w by rw[getD_eq_getElem?_getD,hw];rfl]
   refine lv 90 [3,5] (.t<|.h (.xs (Ad (lf y)))<|.c (di t)<|.t<|.m (di w)<|.x (vi x)<|.w<|.lo [ke 6,ke 9,ke 10,ke 40,ke 41,ch 42 (di (k+1:Nat))] (stA r (ws.set t.toNat (w+(y-x))))) (decide ((k:Int)<(ys.length:Int))=true/\Q 2/\0<=(k:Int)/\(map eV (map lf ys))[Int.toNat (k:Int)]?=some (Ad (lf y))/\F0 152 [BK r,di (k:Int)] (di t)/\decide (t>=0)=true/\0<=t/\t<(N:Int)/\(cIs ws)[0+Int.toNat t*1]?=some (di w)/\0<=(k:Int)/\(map vi r.need)[Int.toNat (k:Int)]?=some (vi x)/\0<=t/\t<(N:Int)/\0+Int.toNat t*1<length (cIs ws)/\(True/\True/\True/\True)/\di (wrap i64 ((k:Int)+1))=di (↑(k+1):Int)/\okH 3 [] [some [di 0,dn],some (cR r),some (List.set (cIs ws) (0+Int.toNat t*1) (di (wrap i64 (w+wrap i64 (Val.n (lf y)-x)))))]=true/\[some [di 0,dn],some (cR r),some (List.set (cIs ws) (0+Int.toNat t*1) (di (wrap i64 (w+wrap i64 (Val.n (lf y)-x)))))]=[some [di 0,dn],some (cR r),some (cIs (List.set ws (Int.toNat t) (w+(y-x))))]/\I0 Hx 0 (dP (Hw [lf r.to] (mvL r (k+1) (List.drop (k+1) ys) (List.drop (k+1) r.need) (List.set ws (Int.toNat t) (w+(y-x)))))) σ0 [kl ET [1,1,1,1,1,0,1,0,0],KI.blk 0,kc ET [1,1,1,1,1,1]] (mkE 90 [(6,D.ptr 0 0),(9,D.ptr 1 0),(10,D.arr 2 0 N),(40,D.v (vVs (map lf ys))),(41,di (ys.length:Int)),(42,di (↑(k+1):Int))]) (stA r (List.set ws (Int.toNat t) (w+(y-x))))) ?_
   have hwb:=hb w (mem_of_getElem? hw)
   have ew:i64.wrap (w+i64.wrap (Val.n (lf y)-x))=w+(y-x):=by
    rw[show Val.n (lf y)=y from rfl,Aj (n:=y-x) (by omega) (by omega),Aj (by omega) (by omega)]
   have es:List.set (cIs ws) (0+Int.toNat t*1) (di (w+(y-x)))=cIs (ws.set t.toNat (w+(y-x))):=by simp[cIs,List.map_set]
   have hi:=ih (k+1) (ws.set t.toNat (w+(y-x))) (by omega) (by omega) (by rw[length_set];exact hx) (fun v hv=>by
    rcases mem_or_eq_of_mem_set hv with hv|hv
    ·have:=hb v hv;omega
    ·rw[hv];omega)
   rw[ew,es]
   exact⟨decide_eq_true (by omega),rfl,by omega,hyv,hmd,decide_eq_true (by omega),by omega,by omega,by simp[cIs,hw],by omega,Ao hn1,by omega,by omega,by simp[cIs];omega,⟨trivial,trivial,trivial,trivial⟩,Af (by omega),okS _,rfl,⟨hi⟩⟩
  ·rw[if_neg h0]
   refine lv 90 [3,5] (.t<|.h (.xs (Ad (lf y)))<|.c (di t)<|.f<|.lo [ke 6,ke 9,ke 10,ke 40,ke 41,ch 42 (di (k+1:Nat))] (stA r ws)) (decide ((k:Int)<(ys.length:Int))=true/\Q 2/\0<=(k:Int)/\(map eV (map lf ys))[Int.toNat (k:Int)]?=some (Ad (lf y))/\F0 152 [BK r,di (k:Int)] (di t)/\decide (t>=0)=false/\di (wrap i64 ((k:Int)+1))=di (↑(k+1):Int)/\okH 3 [] [some [di 0,dn],some (cR r),some (cIs ws)]=true/\Q [some [di 0,dn],some (cR r),some (cIs ws)]/\I0 Hx 0 (dP (Hw [lf r.to] (mvL r (k+1) (List.drop (k+1) ys) (List.drop (k+1) r.need) ws))) σ0 [kl ET [1,1,1,1,1,0,1,0,0],KI.blk 0,kc ET [1,1,1,1,1,1]] (mkE 90 [(6,D.ptr 0 0),(9,D.ptr 1 0),(10,D.arr 2 0 N),(40,D.v (vVs (map lf ys))),(41,di (ys.length:Int)),(42,di (↑(k+1):Int))]) (stA r ws)) ?_
   exact⟨decide_eq_true (by omega),rfl,by omega,hyv,hmd,decide_eq_false (by omega),Af (by omega),okS _,rfl,⟨ih (k+1) ws (by omega) (by omega) hx (fun w hw=>by have:=hb w hw;omega)⟩⟩
theorem capM_spec(m:Mod)(hm:CtM m)(i:Nat)(r:Rul)(hi:m.rules[i]?=some r)(c:Val)(hc:AC m c):Ab PP 108 [Ah m,di i,dV c] σ0 (dP (apV r (stV c) (nmV c))) σ0:=by
 have hr:=hm.rule (mem_of_getElem? hi)
 have hp:=hm.places
 have hil:=(List.getElem?_eq_some_iff.1 hi).1
 have hck:=cchkM_spec m hm i hil c hc
 have hcc:=hc.isC
 have hyl:=hc.len
 have hnm:=hc.nm
 have he:=cen_spec r c _ _ hcc (by rw[hr.needL,hc.len]) (by omega)
 generalize stV c=s at*
 generalize nmV c=ys at*
 cases hb:enB r s ys with
 |false=>
  rw[hb] at he
  refine sv Hx 90 [3,5] (.c (di 0)<|.x (Ak r)<|.c (db false) .r) (F0 150 [Ah m,di (i:Int),dV c] (di 0)/\0<=(i:Int)/\(map Ak m.rules)[Int.toNat (i:Int)]?=some (Ak r)/\F0 151 [BK r,dV c] (db false)/\D.tup [D.v (V.agg [vi 0,V.list []]),di 18]=dP (apV r s ys)) ?_
  exact⟨hck,by omega,Ao hi,he,by rw[apV,hb];rfl⟩
 |true=>
  rw[hb] at he
  obtain⟨N,hN⟩:∃N,N=ys.length:=⟨_,rfl⟩
  have hN0:r.give≠ []:=by intro h;have:=hr.giveL;rw[h] at this;simp at this;omega
  have hgl:r.give.length=N:=by rw[hr.giveL];omega
  refine sv Hx 90 [3,5] (.c (di 0)<|.x (Ak r)<|.c (db true)<|.h (.q 7 2)<|.h (.oc (.arr 2 0 N) (stA r r.give))<|.lo [ke 6,ke 9,ke 10,ch 40 (dVs (ys.map lf)),ch 41 (di ys.length),ch 42 (di (0:Nat))] (stA r r.give)) (F0 150 [Ah m,di (i:Int),dV c] (di 0)/\0<=(i:Int)/\(map Ak m.rules)[Int.toNat (i:Int)]?=some (Ak r)/\F0 151 [BK r,dV c] (db true)/\(∀(o:Oper) (c:Call) (fo:Operand),o.op=Op.call c->c.callee=Callee.value fo->Ai PP o [D.v (V.fn 44 [] []),dIs r.give] (St.mk [some [di 0,dn],some [D.v (V.str r.name),di r.frm,di r.to,dIs r.need,dIs r.give,dIs r.move,di r.chan,di r.act,di r.letter,dIs r.path,dIs r.next,D.v (AA r.takes),dIs r.makes,di r.second]] []) (D.arr 2 0 N) (stA r r.give))/\(∀(x:V),x∈map eV c.kids->V.size x=2)/\0<=(1:Int)/\(1:Int)<=(length (map eV c.kids):Int)/\D.v (V.list (List.drop (Int.toNat ((1:Int))) (take (length (map eV c.kids)) (map eV c.kids))))=dVs (map lf ys)/\di (length (List.drop (Int.toNat ((1:Int))) (take (length (map eV c.kids)) (map eV c.kids))):Int)=di (ys.length:Int)/\di 0=di (↑0:Int)/\okH 3 [] [some [di 0,dn],some (cR r),some (cIs r.give)]=true/\Q [some [di 0,dn],some (cR r),some (cIs r.give)]/\I0 Hx σ0.H.length (dP (apV r s ys)) σ0 [kl ET [1,1,1,1,1,0,1,0,0],KI.blk 0,kc ET [1,1,1,1,1,1]] (mkE 90 [(6,D.ptr 0 0),(9,D.ptr 1 0),(10,D.arr 2 0 N),(40,dVs (map lf ys)),(41,di (ys.length:Int)),(42,di (↑0:Int))]) (stA r r.give)) ?_
  have hd:=Hj hcc
  have hlen:c.kids.length=ys.length+1:=hcc.len
  refine⟨hck,by omega,Ao hi,he,fun o c' fo ho hc'=>?_,?_,by omega,?_,?_,?_,rfl,by simp[okH,D.okNs,D.okN,BH],rfl,⟨?_⟩⟩
  ·exact DJ (σ:=⟨[some [di 0,.v .nils],some (cR r)],[]⟩) (fs:=[]) (cs:=[]) (ds:=[dIs r.give]) ho hc' rfl (Hc:=[none,some (cIs r.give)]) (j:=1) rfl (pls_cIs _) (by rw[←hgl];exact cloIA_spec r.give (by omega) hN0)
  ·intro x hx;obtain⟨v,_,rfl⟩:=mem_map.1 hx;rw[AN];rfl
  ·rw[length_map];omega
  ·exact congrArg (fun l=>D.v (.list l)) hd
  ·have:=congrArg (fun l:List V=>di (l.length:Int)) hd
   simpa using this
  ·have h1:=capM_l1 r ys (by rw[hr.needL];omega) (by omega) hnm hr.need N hN (by rw[hN,hyl];exact hr.move) _ 0 r.give rfl (by omega) hgl (fun w hw=>by have:=hr.give w hw;omega)
   rw[drop_zero,drop_zero,aftV_eq r ys (by omega),aftV,outS_eq _ _ _ (by rw[movM,mvL_len,List.length_replicate];omega)] at h1
   rw[apV,if_pos hb]
   exact h1
theorem mvS_nn{r:Rul}{k:Nat}{x:Int}(hx:0<=x){ws:List Int}(h:∀w∈ws,0<=w):∀w∈mvS r k x ws,0<=w:=by
 intro w hw
 unfold mvS at hw
 split at hw
 ·rcases mem_or_eq_of_mem_set hw with hw|hw
  ·exact h w hw
  ·rw[hw,getD_eq_getElem?_getD]
   cases hi:ws[(mvT r k).toNat]? with
   |none=>simpa using hx
   |some v=>have:=h v (mem_of_getElem? hi);simp only[Option.getD_some];omega
 ·exact h w hw
theorem mvL_nn(r:Rul):∀(ys ns:List Int) (k:Nat) (ws:List Int),FD ns ys=true->(∀w∈ws,0<=w)->∀w∈mvL r k ys ns ws,0<=w
 |[],ns,k,ws,_,h=>by rw[mvL_nil];exact h
 |y::ys,[],k,ws,_,h=>by simpa[mvL] using h
 |y::ys,n::ns,k,ws,hn,h=>by
  simp only[FD,Bool.and_eq_true,Bool.not_eq_true',decide_eq_false_iff_not] at hn
  rw[mvL]
  exact mvL_nn r ys ns (k+1) _ hn.2 (mvS_nn (by omega) h)
theorem aftV_len{m:Mod}{r:Rul}(hr:RulV m r){ys:List Int}(hy:ys.length=m.places.length):(aftV r ys).length=m.places.length:=by
 have h2:=hr.giveL
 simp only[aftV,movM,List.length_zipWith,mvL_len,List.length_replicate];omega
theorem apV_or{m:Mod}{r:Rul}(hr:RulV m r){c:Val}(hc:AC m c):
  ((apV r (stV c) (nmV c)).2=0/\stV c=r.frm/\(apV r (stV c) (nmV c)).1=Cf r.to (aftV r (nmV c))/\AC m (Cf r.to (aftV r (nmV c))))∨(apV r (stV c) (nmV c)).2=1∨(apV r (stV c) (nmV c)).2=18:=by
 unfold apV
 split
 ·rename_i he
  simp only[enB,Bool.and_eq_true,beq_iff_eq] at he
  rcases outP_or (movM r (nmV c)) r.give [lf r.to] with⟨h1,h2,h3⟩|h1
  ·refine .inl ⟨h1,he.1,by rw[h2];rfl,cfgOK m _ hr.to _ (aftV_len hr hc.len) fun z hz=>⟨?_,h3 z hz⟩⟩
   obtain⟨i,hi⟩:=List.getElem?_of_mem hz
   rw[aftV,List.getElem?_zipWith] at hi
   split at hi
   ·rename_i w g hw hg
    cases hi
    have b1:=mvL_nn r (nmV c) r.need 0 (replicate (nmV c).length 0) he.2 (fun w hw=>by rw[(List.mem_replicate.1 hw).2];exact Int.le_refl 0) w (mem_of_getElem? hw)
    have b2:=(hr.give g (mem_of_getElem? hg)).1
    omega
   ·cases hi
  ·exact .inr (.inl (by rw[h1]))
 ·exact .inr (.inr rfl)
def apT(m:Mod)(c:Val)(i:Int):List Val×Int:=if i<0 then([],0) else match m.rules[i.toNat]? with
 |some r=>Ce (apV r (stV c) (nmV c))
 |none=>([],0)
def HA(m:Mod)(c:Val):List Stp×Int:=EN (apT m c) (m.rules.length+1) (-1) []
structure StepV(m:Mod)(c:Val)(s:Stp):Prop where
 rule:∃(i:Nat) (r:Rul),s.1=i/\m.rules[i]?=some r/\stV c=r.frm/\s.2=Cf r.to (aftV r (nmV c))/\apV r (stV c) (nmV c)=(s.2,0)
 ok:AC m s.2
theorem apT_or{m:Mod}(hm:CtM m){c:Val}(hc:AC m c)(i:Int):((apT m c i).2=0∨(apT m c i).2=1)/\(apT m c i).1.length<=1/\∀v∈ (apT m c i).1,StepV m c (i,v):=by
 unfold apT
 split
 ·exact⟨.inl rfl,by simp,by simp⟩
 ·rename_i h0
  split
  ·rename_i r hi
   have hr:=hm.rule (mem_of_getElem? hi)
   rcases apV_or hr hc with⟨h1,h2,h3,h4⟩|h1|h1
   ·have:Ce (apV r (stV c) (nmV c))=([Cf r.to (aftV r (nmV c))],0):=by
     rw[Ce,if_neg (by rw[h1];decide),if_neg (by rw[h1];decide),h3]
    rw[this]
    refine⟨.inl rfl,by simp,fun v hv=>?_⟩
    rw[mem_singleton.1 hv]
    exact⟨⟨i.toNat,r,by show i=_;omega,hi,h2,rfl,by rw[←h3, ←h1]⟩,h4⟩
   ·have:Ce (apV r (stV c) (nmV c))=([],1):=by rw[Ce,if_neg (by rw[h1];decide),if_pos (by rw[h1];decide),h1]
    rw[this];exact⟨.inr rfl,by simp,by simp⟩
   ·have:Ce (apV r (stV c) (nmV c))=([],0):=by rw[Ce,if_pos (by rw[h1];decide)]
    rw[this];exact⟨.inl rfl,by simp,by simp⟩
  ·exact⟨.inl rfl,by simp,by simp⟩
theorem stepsT_or{m:Mod}(hm:CtM m){c:Val}(hc:AC m c):((HA m c).2=0∨(HA m c).2=1)/\(HA m c).1.length<=13/\∀s∈ (HA m c).1,StepV m c s:=by
 have:=hm.places
 obtain⟨h1,h2,h3⟩:=allP_or (ap:=apT m c) (fun i=>(apT_or hm hc i).1) (fun i=>(apT_or hm hc i).2.1) (Q:=StepV m c) (fun i=>(apT_or hm hc i).2.2) (m.rules.length+1) (-1) [] (by simp)
 exact⟨h1,by simp only[length_nil] at h2;exact Nat.le_trans h2 (by omega),h3⟩
theorem stp1M_spec(m:Mod)(hm:CtM m):Ab PP 105 [Ah m] σ0 (di 0) σ0:=by
 refine sv fStp1 12 [1] (.c (di 0)<|.k<|.f .r) (F0 59 [Ah m] (di 0)/\(m.kind==6)=false/\Q (di 0)) ?_
 exact⟨Ea m hm.ok,by rw[hm.kind];rfl,rfl⟩
theorem schkM_spec(m:Mod)(hm:CtM m)(c:Val)(hc:AC m c):Ab PP 62 [Ah m,dV c] σ0 (di 0) σ0:=by
 refine sv fSChk 15 [2,3] (.c (di 0)<|.c (db true) .r) (F0 105 [Ah m] (di 0)/\F0 42 [Ah m,dV c] (db true)/\Q (di 0)) ?_
 have hsz:=hc.sizeM hm
 have h1:=D9 m hm.ok c (by omega)
 rw[hc.validM hm] at h1
 exact⟨stp1M_spec m hm,h1,rfl⟩
theorem sqtM_spec(m:Mod)(hm:CtM m)(c:Val):Ab PP 106 [Ah m,dV c] σ0 (dVs []) σ0:=by
 refine sv fSQt 31 [2,3] (.f<|.f<|.f .r) ((m.kind==2)=false/\(m.kind==3)=false/\(m.kind==5)=false/\D.v (V.list [])=dVs []) ?_
 exact⟨by rw[hm.kind];rfl,by rw[hm.kind];rfl,by rw[hm.kind];rfl,rfl⟩
theorem bhdM_q(m:Mod)(hm:CtM m)(c:Val):Ab PP 63 [Ah m,di (-1),dV c] σ0 (dLP ([],0)) σ0:=by
 refine sv fBhd 56 [3,5] (.c (dVs []) .r) (F0 106 [Ah m,dV c] (dVs [])/\D.tup [D.v (vVs []),di 0]=dLP ([],0)) ?_
 exact⟨sqtM_spec m hm c,rfl⟩
theorem bhdM_r(m:Mod)(hm:CtM m)(i:Nat)(c:Val)(p:Val×Int)(hp:Ab PP 108 [Ah m,di i,dV c] σ0 (dP p) σ0):Ab PP 63 [Ah m,di i,dV c] σ0 (dLP (Ce p)) σ0:=by
 refine sv fBhd 56 [3,5] (.f<|.t<|.c (dP p)<|.c (dLP (Ce p)) .r) (((i:Int)== -1)=false/\(m.kind==1)=true/\F0 108 [Ah m,di (i:Int),dV c] (dP p)/\F0 107 [dV p.fst,di p.snd] (dLP (Ce p))/\D.tup [D.v (vVs (Ce p).fst),di (Ce p).snd]=dLP (Ce p)) ?_
 exact⟨beq_eq_false_iff_ne.2 (by omega),by rw[hm.kind];rfl,hp,ssng_spec p,rfl⟩
theorem bhdM_spec(m:Mod)(hm:CtM m)(c:Val)(hc:AC m c)(i:Int)(h1: -1<=i)(h2:i<m.rules.length):Ab PP 63 [Ah m,di i,dV c] σ0 (dLP (apT m c i)) σ0:=by
 by_cases h0:i<0
 ·have:i= -1:=by omega
  subst this
  exact bhdM_q m hm c
 ·obtain⟨k,rfl⟩:∃k:Nat,i=k:=⟨i.toNat,by omega⟩
  have hr:m.rules[k]?=some m.rules[k]:=getElem?_eq_getElem (show k<m.rules.length by omega)
  rw[apT,if_neg h0,show((k:Nat):Int).toNat=k by omega,hr]
  exact bhdM_r m hm k c _ (capM_spec m hm k _ hr c hc)
theorem sallM_spec(m:Mod)(hm:CtM m)(c:Val)(hc:AC m c):Ab PP 46 [Ah m,dV c] σ0 (dSP (HA m c)) σ0:=by
 have hp:=hm.places
 refine sv Fu 53 [2,3] (.c (di 0)<|.h (.q 5 0)<|.h (.nw 7 1 3)<|.ls [ke 2,ke 3,ke 7,ch 8 (di (-1))] (ownP [])) (F0 62 [Ah m,dV c] (di 0)/\Q (di (-1))/\Q [(1,3,nV)]/\I0 Fu σ0.H.length (dSP (HA m c)) σ0 [kl Cx [1,1,1,0,1,0,0],KI.blk 0,kc Cx [1,1,1,1]] (mkE 53 [(2,D.v (V.ref (AE m))),(3,D.v (V.ref (Ad c))),(7,D.acc 1 []),(8,di (-1))]) (ownP [])) ?_
 refine⟨schkM_spec m hm c hc,rfl,rfl,⟨?_⟩⟩
 exact sall_loop m (by omega) c (apT m c) (fun i=>by have:=(apT_or hm hc i).2.1;omega) (fun i h1 h2=>bhdM_spec m hm c hc i h1 h2) (m.rules.length+1) (-1) [] (by omega) (by omega) (by omega) (by simp)
def mkV(nm:List UInt8)(f t:Int)(nd gv mv:List Int):Rul:=⟨nm,f,t,nd,gv,mv,0,0,0,[],[],[],[],0⟩
structure MadeV(ns np:Nat)(k:Nat)(r:Rul):Prop where
 name:dl3[k]?=some r.name
 frm:0<=r.frm/\r.frm<ns
 to:0<=r.to/\r.to<ns
 need:r.need.length=np/\∀x∈r.need,0<=x/\x<=2
 give:r.give.length=np/\∀x∈r.give,0<=x/\x<=2
 move:MvOK r np
 rest:r=mkV r.name r.frm r.to r.need r.give r.move
structure MadeM(m:Mod):Prop where
 kind:m.kind=1
 states:m.states=[[97]]∨m.states=[[97],[98]]
 places:m.places=[[120]]∨m.places=[[120],[121]]
 letters:m.letters=[]
 ranks:m.ranks=[]
 levels:m.levels=0
 age:m.age=0
 count:m.rules.length<=3
 rules:∀k r,m.rules[k]?=some r->MadeV m.states.length m.places.length k r
 start:∃ys:List Int,ys.length=m.places.length/\(∀x∈ys,0<=x/\x<=3)/\m.start=Cf 0 ys
theorem mkV_at{ns np:Nat}{rs:List Rul}{k:Nat}{nm:List UInt8}{f t:Int}{nd gv mv:List Int}(hnm:dl3[k]?=some nm)(hf:0<=f/\f<ns)(ht:0<=t/\t<ns)(hn:nd.length=np/\∀x∈nd,0<=x/\x<=2)(hg:gv.length=np/\∀x∈gv,0<=x/\x<=2)(hm:mv=[]∨mv.length=np/\∀t∈mv, -1<=t/\t<np)(hrs:rs.length=k)(hR:∀i r,rs[i]?=some r->MadeV ns np i r):∀i r,(rs++[mkV nm f t nd gv mv])[i]?=some r->MadeV ns np i r:=fun i r hi=>by
 by_cases hik:i<rs.length
 ·rw[getElem?_append_left hik] at hi;exact hR i r hi
 ·rw[getElem?_append_right (by omega)] at hi
  have h1:i-rs.length=0:=by
   have:=(List.getElem?_eq_some_iff.1 hi).1
   simp at this;omega
  rw[h1] at hi
  simp at hi;subst hi
  have hik2:i=k:=by omega
  subst hik2
  exact⟨hnm,hf,ht,hn,hg,hm,rfl⟩
theorem cv_rule{H:List (Option (List D))}{own:List (Nat×Nat×List V)}{q tag:Nat}{nm:List UInt8}{f t:Int}{nd gv xs:List Int}(hq:H[q]?=some (some [.v (.str nm),di f,di t,.v (vIs nd),.v (vIs gv),.acc tag (xs.map vi),di 0,di 0,di 0,.v .nils,.v .nils,.v .nils,.v .nils,di 0]))(e:List D):Cv e ⟨H,own⟩ e ⟨H.set q (some (cR (mkV nm f t nd gv xs))),own⟩:=
 Dr (σ:=⟨H,own⟩) (q:=q) hq (fun g us hr=>by
  have:=DO (ts:=[]) (kn:=false) hr
  exact this) (fun _ x hx=>by
  simp only[cR,mem_cons,not_mem_nil,or_false] at hx
  rcases hx with rfl|rfl|rfl|rfl|rfl|rfl|rfl|rfl|rfl|rfl|rfl|rfl|rfl|rfl<;>rfl) e
theorem ctrT_loop(l:List UInt8)(hl:l.length<=200)(S Pl:List (List UInt8))(hS:S=[[97]]∨S=[[97],[98]])(hP:Pl=[[120]]∨Pl=[[120],[121]])(n:Nat):∀(k a:Nat) (rs:List Rul),3-k=n->a<=l.length->k<=3->rs.length=k->(∀i r,rs[i]?=some r->MadeV S.length Pl.length i r)->
  ∃(m:Mod) (a':Nat),MadeM m/\a'<=l.length/\Rn PP fCtr 1 (Ah m) (dz l a') ([.lp (sub H3 [1,1,1,0,1,0,0]),.blk 0,.code (sub H3 [1,1,1,1])]++[]) (mkE 85 [(0,.ptr 0 0),(1,db true),(4,.ptr 1 0),(5,.ptr 2 0),(6,di Pl.length),(7,di k)]) (stC l a S Pl rs):=by
 induction n using Nat.strongRecOn with
 |_ n ih=>
 intro k a rs hn ha hk3 hrs hR
 have hSl:1<=S.length/\S.length<=2:=by rcases hS with rfl|rfl<;>decide
 have hPl:1<=Pl.length/\Pl.length<=2:=by rcases hP with rfl|rfl<;>decide
 obtain⟨r,a1,h1,h2,h3,h4⟩:=Aw l hl a ha 3 (by decide) (by decide)
 by_cases hk:(k:Int)<1+r
 ·obtain⟨f,a2,f1,f2,f3,f4⟩:=Aw l hl a1 h3 S.length (by omega) (by omega)
  obtain⟨t,a3,t1,t2,t3,t4⟩:=Aw l hl a2 f3 S.length (by omega) (by omega)
  obtain⟨nd,a4,n1,n2,n3,n4⟩:=Fh l hl a3 t3 Pl.length (by omega) 2 (by decide) (by decide)
  obtain⟨gv,a5,g1,g2,g3,g4⟩:=Fh l hl a4 n1 Pl.length (by omega) 2 (by decide) (by decide)
  obtain⟨nm,hnm⟩:∃nm,dl3[k]?=some nm:=⟨_,getElem?_eq_getElem (show k<dl3.length by show k<3;omega)⟩
  obtain⟨w,a6,w1,w2,w3,w4⟩:=Aw l hl a5 g1 2 (by decide) (by decide)
  have hkr:decide ((k:Int)<wrap i64 (1+r))=true:=by rw[Aj (by omega) (by omega)];exact decide_eq_true hk
  have hSm:((S.map V.str).length:Int)=(S.length:Int):=by rw[length_map]
  by_cases hw:(w==0)=true
  ·rcases hP with hP|hP
   ·obtain⟨v1,a7,v11,v12,v13,v14⟩:=Aw l hl a6 w3 2 (by decide) (by decide)
    obtain⟨m,a',m1,m2,m3⟩:=ih (3- (k+1)) (by omega) (k+1) a7 (rs++[mkV nm f t nd gv [v1-1]]) rfl v13 (by omega) (by simp[hrs]) (mkV_at hnm ⟨f1,f2⟩ ⟨t1,t2⟩ ⟨n2,n3⟩ ⟨g2,g3⟩ (.inr ⟨by rw[hP];rfl,fun t ht=>by rw[mem_singleton.1 ht,hP];show-1<=v1-1/\v1-1<((1:Nat):Int);omega⟩) hrs hR)
    refine⟨m,a',m1,m2,?_⟩
    subst hP
    refine lv 85 [] (.c1 (cDz l a1) (di r)<|.t<|.h (.dr 21)<|.x (.str nm)<|.c1 (cDz l a2) (di f)<|.c1 (cDz l a3) (di t)<|.c1 (cDz l a4) (dIs nd)<|.c1 (cDz l a5) (dIs gv)<|.h .rn<|.c1 (cDz l a6) (di w)<|.t<|.h (.q 8 0)<|.h (.cl 3 5 3 1)<|.n<|.m (.acc 3 [])<|.c1 (cDz l a7) (di v1)<|.n<|.f<|.h (.q 12 2)<|.h (.cs ⟨[some (cDz l a7),some zM,some (cM S [[120]] rs),some (cR (mkV nm f t nd gv [v1-1]))],[(3,1,[vi (v1-1)]),(2,14,rs.map Ak)]⟩)<|.ls [ke 0,ke 1,ke 4,ke 5,ke 6,ch 7 (di (k+1:Nat))] (stC l a7 S [[120]] (rs++[mkV nm f t nd gv [v1-1]]))) (Ab PP 8 [D.ptr 0 0,di 3] (dz l a) (di r) (dz l a1)/\decide ((k:Int)<wrap i64 (1+r))=true/\0<=(k:Int)/\[V.str (ByteArray.mk #[114]).data.toList,V.str (ByteArray.mk #[115]).data.toList,V.str (ByteArray.mk #[116]).data.toList][Int.toNat (k:Int)]?=some (V.str nm)/\Ab PP 8 [D.ptr 0 0,di (length (map V.str S):Int)] (dz l a1) (di f) (dz l a2)/\Ab PP 8 [D.ptr 0 0,di (length (map V.str S):Int)] (dz l a1) (di f) (dz l a2)/\Q (di f)/\Ab PP 8 [D.ptr 0 0,di (length (map V.str S):Int)] (dz l a2) (di t) (dz l a3)/\Ab PP 8 [D.ptr 0 0,di (length (map V.str S):Int)] (dz l a2) (di t) (dz l a3)/\Q (di t)/\Ab PP 15 [D.ptr 0 0,di (↑(length [[120]]):Int),di 2] (dz l a3) (dIs nd) (dz l a4)/\Ab PP 15 [D.ptr 0 0,di (↑(length [[120]]):Int),di 2] (dz l a3) (dIs nd) (dz l a4)/\Q (dIs nd)/\Ab PP 15 [D.ptr 0 0,di (↑(length [[120]]):Int),di 2] (dz l a4) (dIs gv) (dz l a5)/\Ab PP 15 [D.ptr 0 0,di (↑(length [[120]]):Int),di 2] (dz l a4) (dIs gv) (dz l a5)/\Q (dIs gv)/\Q [St.mk [some (cDz l a1),some zM,some (cM S [[120]] rs),some zRl] [(2,14,map Ak rs)],St.mk [some (cDz l a2),some zM,some (cM S [[120]] rs),some zRl] [(2,14,map Ak rs)],St.mk [some (cDz l a3),some zM,some (cM S [[120]] rs),some zRl] [(2,14,map Ak rs)],St.mk [some (cDz l a4),some zM,some (cM S [[120]] rs),some zRl] [(2,14,map Ak rs)],St.mk [some (cDz l a5),some zM,some (cM S [[120]] rs),some zRl] [(2,14,map Ak rs)]]/\((Q (some [D.v (vSs S)])/\Q (some [D.v (vSs S)])/\Q (some [D.v (vSs S)])/\Q (some [D.v (vSs S)])/\Q (some [D.v (vSs S)])/\Q (some [D.v (vSs S)])/\Q (some [D.v (vSs S)])/\Q (some [D.v (vSs S)])/\Q (some [D.v (vSs S)])/\Q (some [D.v (vSs S)])/\Q (some [D.v (vSs S)])/\True)/\(Q (some [D.v (vSs S)])/\Q (some [D.v (vSs S)])/\Q (some [D.v (vSs S)])/\Q (some [D.v (vSs S)])/\Q (some [D.v (vSs S)])/\Q (some [D.v (vSs S)])/\Q (some [D.v (vSs S)])/\Q (some [D.v (vSs S)])/\Q (some [D.v (vSs S)])/\Q (some [D.v (vSs S)])/\Q (some [D.v (vSs S)])/\True)/\True)/\Ab PP 8 [D.ptr 0 0,di 2] (dz l a5) (di w) (dz l a6)/\(w==0)=true/\Q (some (D.acc 3 []))/\Ab PP 8 [D.ptr 0 0,di (wrap i64 ((↑(length [[120]]):Int)+1))] (dz l a6) (di v1) (dz l a7)/\Q nV/\Ar 1 8/\((Q (some [D.acc 3 []])/\True)/\True)/\decide (wrap i64 (0+1)<(↑(length [[120]]):Int))=false/\(∀(e:List D) (E:Ent) (g:Gh) (a:Act) (w:World),FI E g (St.mk [some (cDz l a7),some zM,some (cM S [[120]] rs),some [D.v (V.str nm),D.v (V.int i64 f),D.v (V.int i64 t),dIs nd,dIs gv,D.acc 3 ([]++[V.int i64 (wrap i64 (v1-1))]),D.v (V.int i64 0),D.v (V.int i64 0),D.v (V.int i64 0),dn,dn,dn,dn,D.v (V.int i64 0)]] [(3,1,[]++[V.int i64 (wrap i64 (v1-1))]),(2,14,map Ak rs)]) e a w->∃g',FI E g' (St.mk [some (cDz l a7),some zM,some (cM S [[120]] rs),some (cR (mkV nm f t nd gv [v1-1]))] [(3,1,[vi (v1-1)]),(2,14,map Ak rs)]) e a w)/\Q (map Ak rs)/\Ar (length (map Ak rs)+length (V.agg (V.str (mkV nm f t nd gv [v1-1]).name::V.int i64 (mkV nm f t nd gv [v1-1]).frm::V.int i64 (mkV nm f t nd gv [v1-1]).to::vIs (mkV nm f t nd gv [v1-1]).need::vIs (mkV nm f t nd gv [v1-1]).give::vIs (mkV nm f t nd gv [v1-1]).move::V.int i64 (mkV nm f t nd gv [v1-1]).chan::V.int i64 (mkV nm f t nd gv [v1-1]).act::V.int i64 (mkV nm f t nd gv [v1-1]).letter::vIs (mkV nm f t nd gv [v1-1]).path::vIs (mkV nm f t nd gv [v1-1]).next::AA (mkV nm f t nd gv [v1-1]).takes::vIs (mkV nm f t nd gv [v1-1]).makes::V.int i64 (mkV nm f t nd gv [v1-1]).second::nV)::nV)) 232/\di (wrap i64 ((k:Int)+1))=di (↑(k+1):Int)/\[some (cDz l a7),some zM,some [di 1,D.v (vSs S),D.v (vSs [[120]]),dn,dn,di 0,di 0,D.acc 2 (map Ak rs++V.agg (V.str (mkV nm f t nd gv [v1-1]).name::vi (mkV nm f t nd gv [v1-1]).frm::vi (mkV nm f t nd gv [v1-1]).to::vIs (mkV nm f t nd gv [v1-1]).need::vIs (mkV nm f t nd gv [v1-1]).give::vIs (mkV nm f t nd gv [v1-1]).move::vi (mkV nm f t nd gv [v1-1]).chan::vi (mkV nm f t nd gv [v1-1]).act::vi (mkV nm f t nd gv [v1-1]).letter::vIs (mkV nm f t nd gv [v1-1]).path::vIs (mkV nm f t nd gv [v1-1]).next::AA (mkV nm f t nd gv [v1-1]).takes::vIs (mkV nm f t nd gv [v1-1]).makes::vi (mkV nm f t nd gv [v1-1]).second::nV)::nV),di 0,dn]]=[some (cDz l a7),some zM,some (cM S [[120]] (rs++[mkV nm f t nd gv [v1-1]]))]/\[(2,14,map Ak rs++V.agg (V.str (mkV nm f t nd gv [v1-1]).name::vi (mkV nm f t nd gv [v1-1]).frm::vi (mkV nm f t nd gv [v1-1]).to::vIs (mkV nm f t nd gv [v1-1]).need::vIs (mkV nm f t nd gv [v1-1]).give::vIs (mkV nm f t nd gv [v1-1]).move::vi (mkV nm f t nd gv [v1-1]).chan::vi (mkV nm f t nd gv [v1-1]).act::vi (mkV nm f t nd gv [v1-1]).letter::vIs (mkV nm f t nd gv [v1-1]).path::vIs (mkV nm f t nd gv [v1-1]).next::AA (mkV nm f t nd gv [v1-1]).takes::vIs (mkV nm f t nd gv [v1-1]).makes::vi (mkV nm f t nd gv [v1-1]).second::nV)::nV)]=[(2,14,map Ak (rs++[mkV nm f t nd gv [v1-1]]))]/\I0 fCtr 1 (Ah m) (dz l a') [kl H3 [1,1,1,0,1,0,0],KI.blk 0,kc H3 [1,1,1,1]] (mkE 85 [(0,D.ptr 0 0),(1,db true),(4,D.ptr 1 0),(5,D.ptr 2 0),(6,di (↑(length [[120]]):Int)),(7,di (↑(k+1):Int))]) (stC l a7 S [[120]] (rs++[mkV nm f t nd gv [v1-1]]))) ?_
    rw[hSm,Aj (n:=v1-1) (by omega) (by omega)]
    repeat' first|with_reducible refine And.intro ?_ ?_
    all_goals first|exact h4|exact hkr|exact f4|exact t4|exact n4|exact g4|exact w4|exact hw|exact v14|exact Dp hnm|exact⟨m3⟩|exact Af (by omega)|omega|rfl|trivial|skip
    all_goals first|exact congrArg (fun z=>[some (cDz l a7),some zM,some [di 1,.v (vSs S),.v (vSs [[120]]),.v .nils,.v .nils,di 0,di 0,.acc 2 z,di 0,.v .nils]]) (AJ rs (mkV nm f t nd gv [v1-1]))|exact congrArg (fun z=>[(2,14,z)]) (AJ rs (mkV nm f t nd gv [v1-1]))|(simp only[length_map,length_cons,length_nil];omega)|exact(fun e=>cv_rule (H:=[some (cDz l a7),some zM,some (cM S [[120]] rs),some [.v (.str nm),di f,di t,.v (vIs nd),.v (vIs gv),.acc 3 ([v1-1].map vi),di 0,di 0,di 0,.v .nils,.v .nils,.v .nils,.v .nils,di 0]]) (own:=[(3,1,[v1-1].map vi),(2,14,rs.map Ak)]) (q:=3) (tag:=3) (nm:=nm) (f:=f) (t:=t) (nd:=nd) (gv:=gv) (xs:=[v1-1]) rfl e)
   ·obtain⟨v1,a7,v11,v12,v13,v14⟩:=Aw l hl a6 w3 3 (by decide) (by decide)
    obtain⟨v2,a8,v21,v22,v23,v24⟩:=Aw l hl a7 v13 3 (by decide) (by decide)
    obtain⟨m,a',m1,m2,m3⟩:=ih (3- (k+1)) (by omega) (k+1) a8 (rs++[mkV nm f t nd gv [v1-1,v2-1]]) rfl v23 (by omega) (by simp[hrs]) (mkV_at hnm ⟨f1,f2⟩ ⟨t1,t2⟩ ⟨n2,n3⟩ ⟨g2,g3⟩ (.inr ⟨by rw[hP];rfl,fun t ht=>by
     rw[hP];show-1<=t/\t<((2:Nat):Int)
     simp only[mem_cons,not_mem_nil,or_false] at ht
     omega⟩) hrs hR)
    refine⟨m,a',m1,m2,?_⟩
    subst hP
    refine lv 85 [] (.c1 (cDz l a1) (di r)<|.t<|.h (.dr 21)<|.x (.str nm)<|.c1 (cDz l a2) (di f)<|.c1 (cDz l a3) (di t)<|.c1 (cDz l a4) (dIs nd)<|.c1 (cDz l a5) (dIs gv)<|.h .rn<|.c1 (cDz l a6) (di w)<|.t<|.h (.q 8 0)<|.h (.cl 3 5 3 1)<|.n<|.m (.acc 3 [])<|.c1 (cDz l a7) (di v1)<|.n<|.t<|.m (.acc 3 [vi (v1-1)])<|.c1 (cDz l a8) (di v2)<|.n<|.f<|.h (.q 12 2)<|.h (.cs ⟨[some (cDz l a8),some zM,some (cM S [[120],[121]] rs),some (cR (mkV nm f t nd gv [v1-1,v2-1]))],[(3,1,[vi (v1-1),vi (v2-1)]),(2,14,rs.map Ak)]⟩)<|.ls [ke 0,ke 1,ke 4,ke 5,ke 6,ch 7 (di (k+1:Nat))] (stC l a8 S [[120],[121]] (rs++[mkV nm f t nd gv [v1-1,v2-1]]))) (Ab PP 8 [D.ptr 0 0,di 3] (dz l a) (di r) (dz l a1)/\decide ((k:Int)<wrap i64 (1+r))=true/\0<=(k:Int)/\[V.str (ByteArray.mk #[114]).data.toList,V.str (ByteArray.mk #[115]).data.toList,V.str (ByteArray.mk #[116]).data.toList][Int.toNat (k:Int)]?=some (V.str nm)/\Ab PP 8 [D.ptr 0 0,di (length (map V.str S):Int)] (dz l a1) (di f) (dz l a2)/\Ab PP 8 [D.ptr 0 0,di (length (map V.str S):Int)] (dz l a1) (di f) (dz l a2)/\Q (di f)/\Ab PP 8 [D.ptr 0 0,di (length (map V.str S):Int)] (dz l a2) (di t) (dz l a3)/\Ab PP 8 [D.ptr 0 0,di (length (map V.str S):Int)] (dz l a2) (di t) (dz l a3)/\Q (di t)/\Ab PP 15 [D.ptr 0 0,di (↑(length [[120],[121]]):Int),di 2] (dz l a3) (dIs nd) (dz l a4)/\Ab PP 15 [D.ptr 0 0,di (↑(length [[120],[121]]):Int),di 2] (dz l a3) (dIs nd) (dz l a4)/\Q (dIs nd)/\Ab PP 15 [D.ptr 0 0,di (↑(length [[120],[121]]):Int),di 2] (dz l a4) (dIs gv) (dz l a5)/\Ab PP 15 [D.ptr 0 0,di (↑(length [[120],[121]]):Int),di 2] (dz l a4) (dIs gv) (dz l a5)/\Q (dIs gv)/\Q [St.mk [some (cDz l a1),some zM,some (cM S [[120],[121]] rs),some zRl] [(2,14,map Ak rs)],St.mk [some (cDz l a2),some zM,some (cM S [[120],[121]] rs),some zRl] [(2,14,map Ak rs)],St.mk [some (cDz l a3),some zM,some (cM S [[120],[121]] rs),some zRl] [(2,14,map Ak rs)],St.mk [some (cDz l a4),some zM,some (cM S [[120],[121]] rs),some zRl] [(2,14,map Ak rs)],St.mk [some (cDz l a5),some zM,some (cM S [[120],[121]] rs),some zRl] [(2,14,map Ak rs)]]/\((Q (some [D.v (vSs S)])/\Q (some [D.v (vSs S)])/\Q (some [D.v (vSs S)])/\Q (some [D.v (vSs S)])/\Q (some [D.v (vSs S)])/\Q (some [D.v (vSs S)])/\Q (some [D.v (vSs S)])/\Q (some [D.v (vSs S)])/\Q (some [D.v (vSs S)])/\Q (some [D.v (vSs S)])/\Q (some [D.v (vSs S)])/\True)/\(Q (some [D.v (vSs S)])/\Q (some [D.v (vSs S)])/\Q (some [D.v (vSs S)])/\Q (some [D.v (vSs S)])/\Q (some [D.v (vSs S)])/\Q (some [D.v (vSs S)])/\Q (some [D.v (vSs S)])/\Q (some [D.v (vSs S)])/\Q (some [D.v (vSs S)])/\Q (some [D.v (vSs S)])/\Q (some [D.v (vSs S)])/\True)/\True)/\Ab PP 8 [D.ptr 0 0,di 2] (dz l a5) (di w) (dz l a6)/\(w==0)=true/\Q (some (D.acc 3 []))/\Ab PP 8 [D.ptr 0 0,di (wrap i64 ((↑(length [[120],[121]]):Int)+1))] (dz l a6) (di v1) (dz l a7)/\Q nV/\Ar 1 8/\((Q (some [D.acc 3 []])/\True)/\True)/\decide (wrap i64 (0+1)<(↑(length [[120],[121]]):Int))=true/\some (D.acc 3 [vi (wrap i64 (v1-1))])=some (D.acc 3 [vi (v1-1)])/\Ab PP 8 [D.ptr 0 0,di (wrap i64 ((↑(length [[120],[121]]):Int)+1))] (dz l a7) (di v2) (dz l a8)/\vi (wrap i64 (v1-1))::nV=vi (v1-1)::nV/\Ar 2 8/\((Q (some [D.acc 3 [vi (wrap i64 (v1-1))]])/\True)/\True)/\decide (wrap i64 (wrap i64 (0+1)+1)<(↑(length [[120],[121]]):Int))=false/\(∀(e:List D) (E:Ent) (g:Gh) (a:Act) (w:World),FI E g (St.mk [some (cDz l a8),some zM,some (cM S [[120],[121]] rs),some [D.v (V.str nm),D.v (V.int i64 f),D.v (V.int i64 t),dIs nd,dIs gv,D.acc 3 ([vi (v1-1)]++[V.int i64 (wrap i64 (v2-1))]),D.v (V.int i64 0),D.v (V.int i64 0),D.v (V.int i64 0),dn,dn,dn,dn,D.v (V.int i64 0)]] [(3,1,[vi (v1-1)]++[V.int i64 (wrap i64 (v2-1))]),(2,14,map Ak rs)]) e a w->∃g',FI E g' (St.mk [some (cDz l a8),some zM,some (cM S [[120],[121]] rs),some (cR (mkV nm f t nd gv [v1-1,v2-1]))] [(3,1,[vi (v1-1),vi (v2-1)]),(2,14,map Ak rs)]) e a w)/\Q (map Ak rs)/\Ar (length (map Ak rs)+length (V.agg (V.str (mkV nm f t nd gv [v1-1,v2-1]).name::V.int i64 (mkV nm f t nd gv [v1-1,v2-1]).frm::V.int i64 (mkV nm f t nd gv [v1-1,v2-1]).to::vIs (mkV nm f t nd gv [v1-1,v2-1]).need::vIs (mkV nm f t nd gv [v1-1,v2-1]).give::vIs (mkV nm f t nd gv [v1-1,v2-1]).move::V.int i64 (mkV nm f t nd gv [v1-1,v2-1]).chan::V.int i64 (mkV nm f t nd gv [v1-1,v2-1]).act::V.int i64 (mkV nm f t nd gv [v1-1,v2-1]).letter::vIs (mkV nm f t nd gv [v1-1,v2-1]).path::vIs (mkV nm f t nd gv [v1-1,v2-1]).next::AA (mkV nm f t nd gv [v1-1,v2-1]).takes::vIs (mkV nm f t nd gv [v1-1,v2-1]).makes::V.int i64 (mkV nm f t nd gv [v1-1,v2-1]).second::nV)::nV)) 232/\di (wrap i64 ((k:Int)+1))=di (↑(k+1):Int)/\[some (cDz l a8),some zM,some [di 1,D.v (vSs S),D.v (vSs [[120],[121]]),dn,dn,di 0,di 0,D.acc 2 (map Ak rs++V.agg (V.str (mkV nm f t nd gv [v1-1,v2-1]).name::vi (mkV nm f t nd gv [v1-1,v2-1]).frm::vi (mkV nm f t nd gv [v1-1,v2-1]).to::vIs (mkV nm f t nd gv [v1-1,v2-1]).need::vIs (mkV nm f t nd gv [v1-1,v2-1]).give::vIs (mkV nm f t nd gv [v1-1,v2-1]).move::vi (mkV nm f t nd gv [v1-1,v2-1]).chan::vi (mkV nm f t nd gv [v1-1,v2-1]).act::vi (mkV nm f t nd gv [v1-1,v2-1]).letter::vIs (mkV nm f t nd gv [v1-1,v2-1]).path::vIs (mkV nm f t nd gv [v1-1,v2-1]).next::AA (mkV nm f t nd gv [v1-1,v2-1]).takes::vIs (mkV nm f t nd gv [v1-1,v2-1]).makes::vi (mkV nm f t nd gv [v1-1,v2-1]).second::nV)::nV),di 0,dn]]=[some (cDz l a8),some zM,some (cM S [[120],[121]] (rs++[mkV nm f t nd gv [v1-1,v2-1]]))]/\[(2,14,map Ak rs++V.agg (V.str (mkV nm f t nd gv [v1-1,v2-1]).name::vi (mkV nm f t nd gv [v1-1,v2-1]).frm::vi (mkV nm f t nd gv [v1-1,v2-1]).to::vIs (mkV nm f t nd gv [v1-1,v2-1]).need::vIs (mkV nm f t nd gv [v1-1,v2-1]).give::vIs (mkV nm f t nd gv [v1-1,v2-1]).move::vi (mkV nm f t nd gv [v1-1,v2-1]).chan::vi (mkV nm f t nd gv [v1-1,v2-1]).act::vi (mkV nm f t nd gv [v1-1,v2-1]).letter::vIs (mkV nm f t nd gv [v1-1,v2-1]).path::vIs (mkV nm f t nd gv [v1-1,v2-1]).next::AA (mkV nm f t nd gv [v1-1,v2-1]).takes::vIs (mkV nm f t nd gv [v1-1,v2-1]).makes::vi (mkV nm f t nd gv [v1-1,v2-1]).second::nV)::nV)]=[(2,14,map Ak (rs++[mkV nm f t nd gv [v1-1,v2-1]]))]/\I0 fCtr 1 (Ah m) (dz l a') [kl H3 [1,1,1,0,1,0,0],KI.blk 0,kc H3 [1,1,1,1]] (mkE 85 [(0,D.ptr 0 0),(1,db true),(4,D.ptr 1 0),(5,D.ptr 2 0),(6,di (↑(length [[120],[121]]):Int)),(7,di (↑(k+1):Int))]) (stC l a8 S [[120],[121]] (rs++[mkV nm f t nd gv [v1-1,v2-1]]))) ?_
    rw[hSm,Aj (n:=v1-1) (by omega) (by omega),Aj (n:=v2-1) (by omega) (by omega)]
    repeat' first|with_reducible refine And.intro ?_ ?_
    all_goals first|exact h4|exact hkr|exact f4|exact t4|exact n4|exact g4|exact w4|exact hw|exact v14|exact v24|exact Dp hnm|exact⟨m3⟩|exact Af (by omega)|omega|rfl|trivial|skip
    all_goals first|exact congrArg (fun z=>[some (cDz l a8),some zM,some [di 1,.v (vSs S),.v (vSs [[120],[121]]),.v .nils,.v .nils,di 0,di 0,.acc 2 z,di 0,.v .nils]]) (AJ rs (mkV nm f t nd gv [v1-1,v2-1]))|exact congrArg (fun z=>[(2,14,z)]) (AJ rs (mkV nm f t nd gv [v1-1,v2-1]))|(simp only[length_map,length_cons,length_nil];omega)|exact(fun e=>cv_rule (H:=[some (cDz l a8),some zM,some (cM S [[120],[121]] rs),some [.v (.str nm),di f,di t,.v (vIs nd),.v (vIs gv),.acc 3 ([v1-1,v2-1].map vi),di 0,di 0,di 0,.v .nils,.v .nils,.v .nils,.v .nils,di 0]]) (own:=[(3,1,[v1-1,v2-1].map vi),(2,14,rs.map Ak)]) (q:=3) (tag:=3) (nm:=nm) (f:=f) (t:=t) (nd:=nd) (gv:=gv) (xs:=[v1-1,v2-1]) rfl e)
  ·obtain⟨m,a',m1,m2,m3⟩:=ih (3- (k+1)) (by omega) (k+1) a6 (rs++[mkV nm f t nd gv []]) rfl w3 (by omega) (by simp[hrs]) (mkV_at hnm ⟨f1,f2⟩ ⟨t1,t2⟩ ⟨n2,n3⟩ ⟨g2,g3⟩ (.inl rfl) hrs hR)
   refine⟨m,a',m1,m2,?_⟩
   refine lv 85 [] (.c1 (cDz l a1) (di r)<|.t<|.h (.dr 21)<|.x (.str nm)<|.c1 (cDz l a2) (di f)<|.c1 (cDz l a3) (di t)<|.c1 (cDz l a4) (dIs nd)<|.c1 (cDz l a5) (dIs gv)<|.c1 (cDz l a6) (di w)<|.f<|.ls [ke 0,ke 1,ke 4,ke 5,ke 6,ch 7 (di (k+1:Nat))] (stC l a6 S Pl (rs++[mkV nm f t nd gv []]))) (Ab PP 8 [D.ptr 0 0,di 3] (dz l a) (di r) (dz l a1)/\decide ((k:Int)<wrap i64 (1+r))=true/\0<=(k:Int)/\[V.str (ByteArray.mk #[114]).data.toList,V.str (ByteArray.mk #[115]).data.toList,V.str (ByteArray.mk #[116]).data.toList][Int.toNat (k:Int)]?=some (V.str nm)/\Ab PP 8 [D.ptr 0 0,di (length (map V.str S):Int)] (dz l a1) (di f) (dz l a2)/\Ab PP 8 [D.ptr 0 0,di (length (map V.str S):Int)] (dz l a1) (di f) (dz l a2)/\Q (di f)/\Ab PP 8 [D.ptr 0 0,di (length (map V.str S):Int)] (dz l a2) (di t) (dz l a3)/\Ab PP 8 [D.ptr 0 0,di (length (map V.str S):Int)] (dz l a2) (di t) (dz l a3)/\Q (di t)/\Ab PP 15 [D.ptr 0 0,di (Pl.length:Int),di 2] (dz l a3) (dIs nd) (dz l a4)/\Ab PP 15 [D.ptr 0 0,di (Pl.length:Int),di 2] (dz l a3) (dIs nd) (dz l a4)/\Q (dIs nd)/\Ab PP 15 [D.ptr 0 0,di (Pl.length:Int),di 2] (dz l a4) (dIs gv) (dz l a5)/\Ab PP 15 [D.ptr 0 0,di (Pl.length:Int),di 2] (dz l a4) (dIs gv) (dz l a5)/\Q (dIs gv)/\Q [St.mk [some (cDz l a1),some zM,some (cM S Pl rs),some zRl] [(2,14,map Ak rs)],St.mk [some (cDz l a2),some zM,some (cM S Pl rs),some zRl] [(2,14,map Ak rs)],St.mk [some (cDz l a3),some zM,some (cM S Pl rs),some zRl] [(2,14,map Ak rs)],St.mk [some (cDz l a4),some zM,some (cM S Pl rs),some zRl] [(2,14,map Ak rs)],St.mk [some (cDz l a5),some zM,some (cM S Pl rs),some zRl] [(2,14,map Ak rs)]]/\((Q (some [D.v (vSs S)])/\Q (some [D.v (vSs S)])/\Q (some [D.v (vSs S)])/\Q (some [D.v (vSs S)])/\Q (some [D.v (vSs S)])/\Q (some [D.v (vSs S)])/\Q (some [D.v (vSs S)])/\Q (some [D.v (vSs S)])/\Q (some [D.v (vSs S)])/\Q (some [D.v (vSs S)])/\Q (some [D.v (vSs S)])/\True)/\(Q (some [D.v (vSs S)])/\Q (some [D.v (vSs S)])/\Q (some [D.v (vSs S)])/\Q (some [D.v (vSs S)])/\Q (some [D.v (vSs S)])/\Q (some [D.v (vSs S)])/\Q (some [D.v (vSs S)])/\Q (some [D.v (vSs S)])/\Q (some [D.v (vSs S)])/\Q (some [D.v (vSs S)])/\Q (some [D.v (vSs S)])/\True)/\True)/\Ab PP 8 [D.ptr 0 0,di 2] (dz l a5) (di w) (dz l a6)/\(w==0)=false/\Q (map Ak rs)/\Ar (length (map Ak rs)+length (V.agg (V.str nm::V.int i64 f::V.int i64 t::vIs nd::vIs gv::V.list nV::V.int i64 0::V.int i64 0::V.int i64 0::V.list nV::V.list nV::V.list nV::V.list nV::V.int i64 0::nV)::nV)) 232/\di (wrap i64 ((k:Int)+1))=di (↑(k+1):Int)/\[some (cDz l a6),some zM,some [di 1,D.v (vSs S),D.v (vSs Pl),dn,dn,di 0,di 0,D.acc 2 (map Ak rs++V.agg (V.str nm::vi f::vi t::vIs nd::vIs gv::V.list nV::vi 0::vi 0::vi 0::V.list nV::V.list nV::V.list nV::V.list nV::vi 0::nV)::nV),di 0,dn]]=[some (cDz l a6),some zM,some (cM S Pl (rs++[mkV nm f t nd gv []]))]/\[(2,14,map Ak rs++V.agg (V.str nm::vi f::vi t::vIs nd::vIs gv::V.list nV::vi 0::vi 0::vi 0::V.list nV::V.list nV::V.list nV::V.list nV::vi 0::nV)::nV)]=[(2,14,map Ak (rs++[mkV nm f t nd gv []]))]/\I0 fCtr 1 (Ah m) (dz l a') [kl H3 [1,1,1,0,1,0,0],KI.blk 0,kc H3 [1,1,1,1]] (mkE 85 [(0,D.ptr 0 0),(1,db true),(4,D.ptr 1 0),(5,D.ptr 2 0),(6,di (Pl.length:Int)),(7,di (↑(k+1):Int))]) (stC l a6 S Pl (rs++[mkV nm f t nd gv []]))) ?_
   rw[hSm]
   repeat' first|with_reducible refine And.intro ?_ ?_
   all_goals first|exact h4|exact hkr|exact f4|exact t4|exact n4|exact g4|exact w4|exact eq_false_of_ne_true hw|exact Dp hnm|exact⟨m3⟩|exact Af (by omega)|omega|rfl|trivial|skip
   all_goals first|exact congrArg (fun z=>[some (cDz l a6),some zM,some [di 1,.v (vSs S),.v (vSs Pl),.v .nils,.v .nils,di 0,di 0,.acc 2 z,di 0,.v .nils]]) (AJ rs (mkV nm f t nd gv []))|exact congrArg (fun z=>[(2,14,z)]) (AJ rs (mkV nm f t nd gv []))|(simp only[length_map,length_cons,length_nil];omega)
 ·obtain⟨ys,a2,y1,y2,y3,y4⟩:=Fh l hl a1 h3 Pl.length (by omega) 3 (by decide) (by decide)
  obtain⟨c,hc⟩:∃c,c=Cf 0 ys:=⟨_,rfl⟩
  refine⟨⟨1,S,Pl,[],[],0,0,rs,c⟩,a2,⟨rfl,hS,hP,rfl,rfl,rfl,rfl,by show rs.length<=3;omega,hR,ys,y2,y3,hc⟩,y1,?_⟩
  refine lv 85 [] (.c1 (cDz l a1) (di r)<|.f<|.c1 (cDz l a2) (dIs ys)<|.c (dV c) .r) (Ab PP 8 [D.ptr 0 0,di 3] (dz l a) (di r) (dz l a1)/\decide ((k:Int)<wrap i64 (1+r))=false/\Ab PP 15 [D.ptr 0 0,di (Pl.length:Int),di 3] (dz l a1) (dIs ys) (dz l a2)/\F0 14 [di 0,dIs ys] (dV c)/\Q [some (cDz l a2)]/\D.v (V.agg [vi 1,V.list (map V.str S),V.list (map V.str Pl),V.list [],V.list [],vi 0,vi 0,V.list (map Ak rs),vi c.n,V.list (map eV c.kids)])=Ah (Mod.mk 1 S Pl [] [] 0 0 rs c)) ?_
  refine⟨h4,?_,y4,hc▸cfg28_spec ys (by omega) 0,rfl,rfl⟩
  rw[Aj (by omega) (by omega)];exact decide_eq_false hk
theorem ctrT_ex(l:List UInt8)(hl:l.length<=200)(a:Nat)(ha:a<=l.length):
  ∃(m:Mod) (a':Nat),MadeM m/\a'<=l.length/\Ab PP 11 [.ptr 0 0,db true] (dz l a) (Ah m) (dz l a'):=by
 obtain⟨r1,a1,h1,h2,h3,h4⟩:=Aw l hl a ha 2 (by decide) (by decide)
 obtain⟨r2,a2,h5,h6,h7,h8⟩:=Aw l hl a1 h3 2 (by decide) (by decide)
 obtain⟨S,hS,hS2⟩:∃S:List (List UInt8),(S=[[97]]∨S=[[97],[98]])/\(r1=0/\S=[[97]]∨r1=1/\S=[[97],[98]]):=by
  rcases(show r1=0∨r1=1 by omega) with h|h
  ·exact⟨_,.inl rfl,.inl ⟨h,rfl⟩⟩
  ·exact⟨_,.inr rfl,.inr ⟨h,rfl⟩⟩
 obtain⟨Pl,hP,hP2⟩:∃S:List (List UInt8),(S=[[120]]∨S=[[120],[121]])/\(r2=0/\S=[[120]]∨r2=1/\S=[[120],[121]]):=by
  rcases(show r2=0∨r2=1 by omega) with h|h
  ·exact⟨_,.inl rfl,.inl ⟨h,rfl⟩⟩
  ·exact⟨_,.inr rfl,.inr ⟨h,rfl⟩⟩
 obtain⟨m,a',m1,m2,m3⟩:=ctrT_loop l hl S Pl hS hP _ 0 a2 [] rfl h7 (by omega) rfl (fun i r h=>by simp at h)
 refine⟨m,a',m1,m2,?_⟩
 refine sv fCtr 85 [] (.h (.dr 11)<|.c1 (cDz l a1) (di r1)<|.c1 (cDz l a2) (di r2)<|.h .rn<|.h (.q 3 0)<|.h (.cl 2 7 2 14)<|.ls [ke 0,ke 1,ke 4,ke 5,ch 6 (di Pl.length),ch 7 (di (0:Nat))] (stC l a2 S Pl [])) (Ab PP 8 [D.ptr 0 0,di 2] (dz l a) (di r1) (dz l a1)/\Ab PP 8 [D.ptr 0 0,di 2] (dz l a) (di r1) (dz l a1)/\Q (di r1)/\(∀(x:V),x∈ [V.str (ByteArray.mk #[97]).data.toList,V.str (ByteArray.mk #[98]).data.toList]->V.size x=1)/\0<=(fun x=>x.snd) (i64,wrap i64 (1+r1))/\(fun x=>x.snd) (i64,wrap i64 (1+r1))<=(↑(length [V.str (ByteArray.mk #[97]).data.toList,V.str (ByteArray.mk #[98]).data.toList]):Int)/\Ab PP 8 [D.ptr 0 0,di 2] (dz l a1) (di r2) (dz l a2)/\Ab PP 8 [D.ptr 0 0,di 2] (dz l a1) (di r2) (dz l a2)/\Q (di r2)/\(∀(x:V),x∈ [V.str (ByteArray.mk #[120]).data.toList,V.str (ByteArray.mk #[121]).data.toList]->V.size x=1)/\0<=(fun x=>x.snd) (i64,wrap i64 (1+r2))/\(fun x=>x.snd) (i64,wrap i64 (1+r2))<=(↑(length [V.str (ByteArray.mk #[120]).data.toList,V.str (ByteArray.mk #[121]).data.toList]):Int)/\Q [St.mk [some (cDz l a),some zMl,some zMl] [],St.mk [some (cDz l a1),some zMl,some zMl] [],St.mk [some (cDz l a2),some zMl,some zMl] []]/\True/\di (length (List.drop 0 (take (Int.toNat ((fun x=>x.snd) (i64,wrap i64 (1+r2)))) (V.str (ByteArray.mk #[120]).data.toList::V.str (ByteArray.mk #[121]).data.toList::nV))):Int)=di (Pl.length:Int)/\di 0=di (↑0:Int)/\[some (cDz l a2),some zMl,some [di 1,D.v (V.list (List.drop 0 (take (Int.toNat ((fun x=>x.snd) (i64,wrap i64 (1+r1)))) (V.str (ByteArray.mk #[97]).data.toList::V.str (ByteArray.mk #[98]).data.toList::nV)))),D.v (V.list (List.drop 0 (take (Int.toNat ((fun x=>x.snd) (i64,wrap i64 (1+r2)))) (V.str (ByteArray.mk #[120]).data.toList::V.str (ByteArray.mk #[121]).data.toList::nV)))),dn,dn,di 0,di 0,D.acc 2 nV,di 0,dn]]=[some (cDz l a2),some zM,some (cM S Pl [])]/\Q [(2,14,nV)]/\I0 fCtr (length (dz l a).H) (Ah m) (dz l a') [kl H3 [1,1,1,0,1,0,0],KI.blk 0,kc H3 [1,1,1,1]] (mkE 85 [(0,D.ptr 0 0),(1,db true),(4,D.ptr 1 0),(5,D.ptr 2 0),(6,di (Pl.length:Int)),(7,di (↑0:Int))]) (stC l a2 S Pl [])) ?_
 refine⟨h4,h4,rfl,by simp[V.size],?_,?_,h8,h8,rfl,by simp[V.size],?_,?_,rfl,trivial,?_,rfl,?_,rfl,⟨m3⟩⟩
 ·show 0<=i64.wrap (1+r1);rw[Aj (by omega) (by omega)];omega
 ·show i64.wrap (1+r1)<=2;rw[Aj (by omega) (by omega)];omega
 ·show 0<=i64.wrap (1+r2);rw[Aj (by omega) (by omega)];omega
 ·show i64.wrap (1+r2)<=2;rw[Aj (by omega) (by omega)];omega
 ·rcases hP2 with⟨rfl,rfl⟩|⟨rfl,rfl⟩<;>rfl
 ·rcases hS2 with⟨rfl,rfl⟩|⟨rfl,rfl⟩<;>rcases hP2 with⟨rfl,rfl⟩|⟨rfl,rfl⟩<;>rfl
theorem MadeV.short{ns np k:Nat}{r:Rul}(h:MadeV ns np k r)(hnp:np<=2):r.short:=by
 have h1:=h.need.1
 have h2:=h.give.1
 have h3:r.move.length<=2:=by
  rcases h.move with e|e
  ·rw[e];decide
  ·rw[e.1];exact hnp
 rw[h.rest]
 exact⟨by show r.need.length<=_;omega,by show r.give.length<=_;omega,by show r.move.length<=_;omega,Nat.zero_le _,Nat.zero_le _,Nat.zero_le _,Nat.zero_le _⟩
theorem mapNameV{rs:List Rul}(h3:rs.length<=3){ns np:Nat}(h:∀k r,rs[k]?=some r->MadeV ns np k r):rs.map Rul.name=dl3.take rs.length:=by
 apply ext_getElem?
 intro i
 by_cases hi:i<rs.length
 ·have hx:rs[i]?=some rs[i]:=getElem?_eq_getElem hi
  rw[getElem?_map,hx,List.getElem?_take_of_lt hi,(h i _ hx).name];rfl
 ·rw[getElem?_eq_none (by simp;omega),getElem?_eq_none (by simp;omega)]
theorem MadeM.ok{m:Mod}(h:MadeM m):m.ok:=by
 have hst:1<=m.states.length/\m.states.length<=2:=by rcases h.states with e|e<;>rw[e]<;>decide
 have hpl:1<=m.places.length/\m.places.length<=2:=by rcases h.places with e|e<;>rw[e]<;>decide
 have hb:∀{x a b:Int},a<=x->x<=b->A3 x a b=true:=fun h1 h2=>by simp[A3,h1,h2]
 have hget:∀r∈m.rules,MadeV m.states.length m.places.length (m.rules.idxOf r) r:=fun r hr=>by
  have hi:=List.idxOf_lt_length_of_mem hr
  exact h.rules _ r (by rw[getElem?_eq_getElem hi,List.getElem_idxOf])
 have hc:=h.count
 refine⟨.inl h.kind,?_,?_,?_,?_,?_,?_,?_⟩
 ·simp only[CH,limM,if_pos h.kind,Bool.and_eq_true,decide_eq_true_eq,h.letters,h.levels,h.age]
  exact⟨hb (by omega) (by omega),by omega,hb (by omega) (by omega),by decide,by decide,by decide⟩
 ·rw[Cp,if_pos (by rw[h.kind];rfl),h.ranks];rfl
 ·have hn:=mapNameV h.count h.rules
  rw[Ge,namesM,hn,CK,h.letters]
  have:m.rules.length=0∨m.rules.length=1∨m.rules.length=2∨m.rules.length=3:=by omega
  rcases h.states with e|e<;>rcases h.places with e'|e'<;>rcases this with e2|e2|e2|e2<;>rw[e,e',e2]<;>decide
 ·intro r hr
  have hm:=hget r hr
  exact hm.short (by omega)
 ·intro r hr
  have hm:=hget r hr
  obtain⟨f1,f2⟩:=hm.frm
  obtain⟨t1,t2⟩:=hm.to
  obtain⟨n1,n2⟩:=hm.need
  obtain⟨g1,g2⟩:=hm.give
  have hmv:r.move=[]∨r.move.length=m.places.length/\∀t∈r.move, -1<=t/\t<m.places.length:=hm.move
  have hr:=hm.rest
  generalize r.name=nm at hr
  generalize r.frm=f at*
  generalize r.to=t at*
  generalize r.need=nd at*
  generalize r.give=gv at*
  generalize r.move=mv at*
  subst hr
  rw[G8,if_pos h.kind]
  simp only[Ej,BR,BX,onlyC,mkV,Bool.and_eq_true,all_eq_true,beq_iff_eq,decide_eq_true_eq,and_true,true_and,length_nil]
  refine⟨hb (by omega) (by omega),hb (by omega) (by omega),⟨by omega,by omega,fun x hx=>hb (n2 x hx).1 (by have:=(n2 x hx).2;omega),fun x hx=>hb (g2 x hx).1 (by have:=(g2 x hx).2;omega)⟩,?_⟩
  have hmb:CV m (mkV nm f t nd gv mv)=true:=by
   rcases hmv with e|⟨e1,e2⟩
   ·simp[CV,mkV,e]
   ·simp only[CV,mkV,Bool.or_eq_true,Bool.and_eq_true,all_eq_true,beq_iff_eq]
    exact .inr ⟨by omega,fun x hx=>hb (e2 x hx).1 (by have:=(e2 x hx).2;omega)⟩
  exact hmb
 ·obtain⟨ys,y1,y2,y3⟩:=h.start
  rw[y3]
  exact Ht m h.kind (by omega) 0 ⟨by omega,by omega⟩ ys y1 fun x hx=>by have:=y2 x hx;omega
 ·obtain⟨ys,y1,y2,y3⟩:=h.start
  rw[y3,FK];omega
theorem MadeM.ctm{m:Mod}(h:MadeM m):CtM m:=by
 have hst:1<=m.states.length:=by rcases h.states with e|e<;>rw[e]<;>decide
 refine⟨h.ok,h.kind,?_⟩
 obtain⟨ys,y1,y2,y3⟩:=h.start
 rw[y3]
 exact cfgOK m 0 ⟨by omega,by omega⟩ ys y1 fun x hx=>by have:=y2 x hx;omega
def EO(L:Int)(v:Val):Prop:=∃ks:List Int,ks.length<=2/\(∀x∈ks,0<=x/\x<L)/\v=.mk 0 (ks.map fun x=>.mk x [])
theorem EO.size{L:Int}{v:Val}(h:EO L v):v.size<=3:=by
 obtain⟨ks,h1,_,rfl⟩:=h
 simp only[Val.size,size_vals];omega
theorem cv_word{H:List (Option (List D))}{own:List (Nat×Nat×List V)}{q tag:Nat}{xs:List V}(hq:H[q]?=some (some [di 0,.acc tag xs]))(e:List D):Cv e ⟨H,own⟩ e ⟨H.set q (some [di 0,dl xs]),own⟩:=
 Dr (σ:=⟨H,own⟩) (q:=q) hq (fun g us hr=>by
  have:=DO (ts:=[]) (kn:=false) hr
  exact this) (fun _ x hx=>by
  simp only[mem_cons,not_mem_nil,or_false] at hx
  rcases hx with rfl|rfl<;>rfl) e
theorem cv_word0{H:List (Option (List D))}{own:List (Nat×Nat×List V)}{q:Nat}(hq:H[q]?=some (some [di 0,.v .nils]))(e:List D):Cv e ⟨H,own⟩ e ⟨H.set q (some [di 0,dl []]),own⟩:=
 Dr (σ:=⟨H,own⟩) (q:=q) hq (fun g us hr=>by
  have:=DO (ts:=[]) (kn:=false) hr
  exact this) (fun _ x hx=>by
  simp only[mem_cons,not_mem_nil,or_false] at hx
  rcases hx with rfl|rfl<;>rfl) e
theorem Hp(os:List Val)(v:Val):os.map eV++[Ad v]=(os++[v]).map eV:=by rw[←AN];simp
noncomputable abbrev fWds:Func:= Tryz.f16
noncomputable def cWds:Code:=fWds.body.getD .skip
abbrev stW(l:List UInt8)(a:Nat)(os:List Val):St:=⟨[some (cDz l a)],[(1,2,os.map eV)]⟩
theorem wds_loop(l:List UInt8)(hl:l.length<=200)(n:Nat)(hn:n<=100)(L:Int)(hL:1<=L)(hL2:L<=100)(N:Nat):∀(k a:Nat) (os:List Val),n-k=N->k<=n->a<=l.length->os.length=k->(∀y∈os,EO L y)->
  ∃(ys:List Val) (a':Nat),a'<=l.length/\ys.length=n/\(∀y∈ys,EO L y)/\
  Rn PP fWds 1 (dVs ys) (dz l a') ([.lp (sub cWds [1,1,0,1,0,0]),.blk 0,.code (sub cWds [1,1,1])]++[]) (mkE 40 [(0,.ptr 0 0),(1,di n),(2,di L),(3,di 2),(9,.acc 1 (os.map eV)),(10,di k)]) (stW l a os):=by
 induction N with
 |zero=>
  intro k a os hk hk0 ha hx hos
  refine⟨os,a,ha,by omega,hos,?_⟩
  refine lv 40 [] (.f .r) (decide ((k:Int)<(n:Int))=false/\Q [some (cDz l a)]/\D.v (V.list (map eV os))=dVs os) ?_
  exact⟨decide_eq_false (by omega),rfl,rfl⟩
 |succ N ih=>
  intro k a os hk hk0 ha hx hos
  obtain⟨r,a1,h1,h2,h3,h4⟩:=Aw l hl a ha 3 (by decide) (by decide)
  have hmem:∀(w:Val),EO L w->∀y∈os++[w],EO L y:=fun w hw y hy=>by
   rcases mem_append.1 hy with hy|hy
   ·exact hos y hy
   ·rw[mem_singleton.1 hy];exact hw
  have hkn:decide ((k:Int)<n)=true:=decide_eq_true (by omega)
  rcases(show r=0∨r=1∨r=2 by omega) with rfl|rfl|rfl
  ·obtain⟨w,hw⟩:∃w:Val,w=.mk 0 []:=⟨_,rfl⟩
   obtain⟨ys,a',y1,y2,y3,y4⟩:=ih (k+1) a1 (os++[w]) (by omega) (by omega) h3 (by simp[hx]) (hmem _ ⟨[],by simp,by simp,hw⟩)
   refine⟨ys,a',y1,y2,y3,?_⟩
   refine lv 40 [] (.t<|.c1 (cDz l a1) (di 0)<|.n<|.h (.q 10 1)<|.h (.cs ⟨[some (cDz l a1),some [di 0,dl []]],[(1,2,os.map eV)]⟩)<|.ls [ke 0,ke 1,ke 2,ke 3,ch 9 (.acc 1 ((os++[w]).map eV)),ch 10 (di (k+1:Nat))] (stW l a1 (os++[w]))) (decide ((k:Int)<(n:Int))=true/\Ab PP 8 [D.ptr 0 0,di (wrap i64 (2+1))] (dz l a) (di 0) (dz l a1)/\(∀(e:List D) (E:Ent) (g:Gh) (a:Act) (w:World),FI E g (St.mk [some (cDz l a1),some [D.v (V.int i64 0),dn]] [(1,2,map eV os)]) e a w->∃g',FI E g' (St.mk [some (cDz l a1),some [di 0,dl []]] [(1,2,map eV os)]) e a w)/\Q (map eV os)/\Ar (length (map eV os)+length (V.agg (V.int i64 0::V.list nV::nV)::nV)) 32/\D.acc 1 (map eV os++[V.agg [vi 0,V.list []]])=D.acc 1 (map eV (os++[w]))/\di (wrap i64 ((k:Int)+1))=di (↑(k+1):Int)/\Q [some (cDz l a1)]/\[(1,2,map eV os++V.agg (vi 0::V.list nV::nV)::nV)]=[(1,2,map eV (os++[w]))]/\I0 fWds 1 (dVs ys) (dz l a') [kl cWds [1,1,0,1,0,0],KI.blk 0,kc cWds [1,1,1]] (mkE 40 [(0,D.ptr 0 0),(1,di (n:Int)),(2,di L),(3,di 2),(9,D.acc 1 (map eV (os++[w]))),(10,di (↑(k+1):Int))]) (stW l a1 (os++[w]))) ?_
   have hv:V.agg [vi 0,.list []]=Ad w:=by rw[hw];rfl
   rw[show i64.wrap (2+1)=3 from by decide]
   repeat' first|with_reducible refine And.intro ?_ ?_
   all_goals first|exact hkn|exact h4|exact Af (by omega)|exact⟨y4⟩|(simp only[length_map,length_cons,length_nil];omega)|rfl|trivial|skip
   ·exact fun e=>cv_word0 (H:=[some (cDz l a1),some [di 0,.v .nils]]) (own:=[(1,2,os.map eV)]) (q:=1) rfl e
   ·exact congrArg (D.acc 1) ((congrArg (fun z=>os.map eV++[z]) hv).trans (Hp os w))
   ·exact congrArg (fun z=>[(1,2,z)]) ((congrArg (fun z=>os.map eV++[z]) hv).trans (Hp os w))
  ·obtain⟨x1,a2,x11,x12,x13,x14⟩:=Aw l hl a1 h3 L hL (by omega)
   obtain⟨w,hw⟩:∃w:Val,w=.mk 0 [.mk x1 []]:=⟨_,rfl⟩
   obtain⟨ys,a',y1,y2,y3,y4⟩:=ih (k+1) a2 (os++[w]) (by omega) (by omega) x13 (by simp[hx]) (hmem _ ⟨[x1],by simp,by simp[x11,x12],hw⟩)
   refine⟨ys,a',y1,y2,y3,?_⟩
   refine lv 40 [] (.t<|.c1 (cDz l a1) (di 1)<|.h (.q 6 4)<|.h (.cl 1 1 2 2)<|.n<|.m (.acc 2 [])<|.c1 (cDz l a2) (di x1)<|.n<|.h (.q 10 1)<|.h (.cs ⟨[some (cDz l a2),some [di 0,dl [eV (.mk x1 [])]]],[(2,2,[eV (.mk x1 [])]),(1,2,os.map eV)]⟩)<|.ls [ke 0,ke 1,ke 2,ke 3,ch 9 (.acc 1 ((os++[w]).map eV)),ch 10 (di (k+1:Nat))] (stW l a2 (os++[w]))) (decide ((k:Int)<(n:Int))=true/\Ab PP 8 [D.ptr 0 0,di (wrap i64 (2+1))] (dz l a) (di 1) (dz l a1)/\Q (some (D.acc 2 []))/\Ab PP 8 [D.ptr 0 0,di L] (dz l a1) (di x1) (dz l a2)/\Q nV/\Ar 1 32/\((Q (some [D.acc 2 []])/\True)/\True)/\(∀(e:List D) (E:Ent) (g:Gh) (a:Act) (w:World),FI E g (St.mk [some (cDz l a2),some [D.v (V.int i64 0),D.acc 2 ([]++[V.agg [V.int i64 x1,V.list []]])]] [(2,2,[]++[V.agg [V.int i64 x1,V.list []]]),(1,2,map eV os)]) e a w->∃g',FI E g' (St.mk [some (cDz l a2),some [di 0,dl [eV (Val.mk x1 [])]]] [(2,2,[eV (Val.mk x1 [])]),(1,2,map eV os)]) e a w)/\Q (map eV os)/\Ar (length (map eV os)+length (V.agg (V.int i64 0::V.list (eV (Val.mk x1 [])::nV)::nV)::nV)) 32/\D.acc 1 (map eV os++[V.agg [vi 0,V.list [eV (Val.mk x1 [])]]])=D.acc 1 (map eV (os++[w]))/\di (wrap i64 ((k:Int)+1))=di (↑(k+1):Int)/\Q [some (cDz l a2)]/\[(1,2,map eV os++V.agg (vi 0::V.list (eV (Val.mk x1 [])::nV)::nV)::nV)]=[(1,2,map eV (os++[w]))]/\I0 fWds 1 (dVs ys) (dz l a') [kl cWds [1,1,0,1,0,0],KI.blk 0,kc cWds [1,1,1]] (mkE 40 [(0,D.ptr 0 0),(1,di (n:Int)),(2,di L),(3,di 2),(9,D.acc 1 (map eV (os++[w]))),(10,di (↑(k+1):Int))]) (stW l a2 (os++[w]))) ?_
   have hv:V.agg [vi 0,.list [eV (.mk x1 [])]]=Ad w:=by rw[hw];rfl
   rw[show i64.wrap (2+1)=3 from by decide]
   repeat' first|with_reducible refine And.intro ?_ ?_
   all_goals first|exact hkn|exact h4|exact x14|exact lenOK2 (by decide) (by decide)|exact⟨by decide,by decide⟩|exact Af (by omega)|exact⟨y4⟩|(simp only[length_map,length_cons,length_nil];omega)|rfl|trivial|skip
   ·exact fun e=>cv_word (H:=[some (cDz l a2),some [di 0,.acc 2 [eV (.mk x1 [])]]]) (own:=[(2,2,[eV (.mk x1 [])]),(1,2,os.map eV)]) (q:=1) rfl e
   ·exact congrArg (D.acc 1) ((congrArg (fun z=>os.map eV++[z]) hv).trans (Hp os w))
   ·exact congrArg (fun z=>[(1,2,z)]) ((congrArg (fun z=>os.map eV++[z]) hv).trans (Hp os w))
  ·obtain⟨x1,a2,x11,x12,x13,x14⟩:=Aw l hl a1 h3 L hL (by omega)
   obtain⟨x2,a3,x21,x22,x23,x24⟩:=Aw l hl a2 x13 L hL (by omega)
   obtain⟨w,hw⟩:∃w:Val,w=.mk 0 [.mk x1 [],.mk x2 []]:=⟨_,rfl⟩
   obtain⟨ys,a',y1,y2,y3,y4⟩:=ih (k+1) a3 (os++[w]) (by omega) (by omega) x23 (by simp[hx]) (hmem _ ⟨[x1,x2],by simp,by simp[x11,x12,x21,x22],hw⟩)
   refine⟨ys,a',y1,y2,y3,?_⟩
   refine lv 40 [] (.t<|.c1 (cDz l a1) (di 2)<|.h (.q 6 4)<|.h (.cl 1 1 2 2)<|.n<|.m (.acc 2 [])<|.c1 (cDz l a2) (di x1)<|.n<|.m (.acc 2 [eV (.mk x1 [])])<|.c1 (cDz l a3) (di x2)<|.n<|.h (.q 10 1)<|.h (.cs ⟨[some (cDz l a3),some [di 0,dl [eV (.mk x1 []),eV (.mk x2 [])]]],[(2,2,[eV (.mk x1 []),eV (.mk x2 [])]),(1,2,os.map eV)]⟩)<|.ls [ke 0,ke 1,ke 2,ke 3,ch 9 (.acc 1 ((os++[w]).map eV)),ch 10 (di (k+1:Nat))] (stW l a3 (os++[w]))) (decide ((k:Int)<(n:Int))=true/\Ab PP 8 [D.ptr 0 0,di (wrap i64 (2+1))] (dz l a) (di 2) (dz l a1)/\Q (some (D.acc 2 []))/\Ab PP 8 [D.ptr 0 0,di L] (dz l a1) (di x1) (dz l a2)/\Q nV/\Ar 1 32/\((Q (some [D.acc 2 []])/\True)/\True)/\some (D.acc 2 [V.agg [vi x1,V.list []]])=some (D.acc 2 [eV (Val.mk x1 [])])/\Ab PP 8 [D.ptr 0 0,di L] (dz l a2) (di x2) (dz l a3)/\V.agg (vi x1::V.list nV::nV)::nV=eV (Val.mk x1 [])::nV/\Ar 2 32/\((Q (some [D.acc 2 [V.agg [vi x1,V.list []]]])/\True)/\True)/\(∀(e:List D) (E:Ent) (g:Gh) (a:Act) (w:World),FI E g (St.mk [some (cDz l a3),some [D.v (V.int i64 0),D.acc 2 ([eV (Val.mk x1 [])]++[V.agg [V.int i64 x2,V.list []]])]] [(2,2,[eV (Val.mk x1 [])]++[V.agg [V.int i64 x2,V.list []]]),(1,2,map eV os)]) e a w->∃g',FI E g' (St.mk [some (cDz l a3),some [di 0,dl [eV (Val.mk x1 []),eV (Val.mk x2 [])]]] [(2,2,[eV (Val.mk x1 []),eV (Val.mk x2 [])]),(1,2,map eV os)]) e a w)/\Q (map eV os)/\Ar (length (map eV os)+length (V.agg (V.int i64 0::V.list (eV (Val.mk x1 [])::eV (Val.mk x2 [])::nV)::nV)::nV)) 32/\D.acc 1 (map eV os++[V.agg [vi 0,V.list [eV (Val.mk x1 []),eV (Val.mk x2 [])]]])=D.acc 1 (map eV (os++[w]))/\di (wrap i64 ((k:Int)+1))=di (↑(k+1):Int)/\Q [some (cDz l a3)]/\[(1,2,map eV os++V.agg (vi 0::V.list (eV (Val.mk x1 [])::eV (Val.mk x2 [])::nV)::nV)::nV)]=[(1,2,map eV (os++[w]))]/\I0 fWds 1 (dVs ys) (dz l a') [kl cWds [1,1,0,1,0,0],KI.blk 0,kc cWds [1,1,1]] (mkE 40 [(0,D.ptr 0 0),(1,di (n:Int)),(2,di L),(3,di 2),(9,D.acc 1 (map eV (os++[w]))),(10,di (↑(k+1):Int))]) (stW l a3 (os++[w]))) ?_
   have hv:V.agg [vi 0,.list [eV (.mk x1 []),eV (.mk x2 [])]]=Ad w:=by rw[hw];rfl
   rw[show i64.wrap (2+1)=3 from by decide]
   repeat' first|with_reducible refine And.intro ?_ ?_
   all_goals first|exact hkn|exact h4|exact x14|exact x24|exact lenOK2 (by decide) (by decide)|exact⟨by decide,by decide⟩|exact Af (by omega)|exact⟨y4⟩|(simp only[length_map,length_cons,length_nil];omega)|rfl|trivial|skip
   ·exact fun e=>cv_word (H:=[some (cDz l a3),some [di 0,.acc 2 [eV (.mk x1 []),eV (.mk x2 [])]]]) (own:=[(2,2,[eV (.mk x1 []),eV (.mk x2 [])]),(1,2,os.map eV)]) (q:=1) rfl e
   ·exact congrArg (D.acc 1) ((congrArg (fun z=>os.map eV++[z]) hv).trans (Hp os w))
   ·exact congrArg (fun z=>[(1,2,z)]) ((congrArg (fun z=>os.map eV++[z]) hv).trans (Hp os w))
theorem wds_ex(l:List UInt8)(hl:l.length<=200)(a:Nat)(ha:a<=l.length)(n:Nat)(hn:n<=100)(L:Int)(hL:1<=L)(hL2:L<=100):
  ∃(ys:List Val) (a':Nat),a'<=l.length/\ys.length=n/\(∀y∈ys,EO L y)/\Ab PP 16 [.ptr 0 0,di n,di L,di 2] (dz l a) (dVs ys) (dz l a'):=by
 obtain⟨ys,a',h1,h2,h3,h4⟩:=wds_loop l hl n hn L hL hL2 _ 0 a [] rfl (by omega) ha rfl (by simp)
 refine⟨ys,a',h1,h2,h3,?_⟩
 refine sv fWds 40 [] (.h (.q 2 0)<|.h (.nw 9 1 2)<|.ls [ke 0,ke 1,ke 2,ke 3,ke 9,ch 10 (di (0:Nat))] (stW l a [])) (di 0=di (↑0:Int)/\Q [some (cDz l a)]/\Q [(1,2,nV)]/\I0 fWds (length (dz l a).H) (dVs ys) (dz l a') [kl cWds [1,1,0,1,0,0],KI.blk 0,kc cWds [1,1,1]] (mkE 40 [(0,D.ptr 0 0),(1,di (n:Int)),(2,di L),(3,di 2),(9,D.acc 1 []),(10,di (↑0:Int))]) (stW l a [])) ?_
 exact⟨rfl,rfl,rfl,⟨h4⟩⟩
abbrev dl4:List (List UInt8):=[[114],[115],[116],[117]]
def mkL(nm:List UInt8)(f t ch ac le:Int):Rul:=⟨nm,f,t,[],[],[],ch,ac,le,[],[],[],[],0⟩
abbrev lM(K:Int)(S Pl Le:List (List UInt8))(rk:List Int)(rs:List Rul):List D:=[di K,.v (vSs S),.v (vSs Pl),.v (vSs Le),.v (vIs rk),di 0,di 0,.acc 2 (rs.map Ak),di 0,dl []]
abbrev stL(l:List UInt8)(a:Nat)(K:Int)(S Pl Le:List (List UInt8))(rk:List Int)(rs:List Rul):St:=⟨[some (cDz l a),some zM,some (lM K S Pl Le rk rs)],[(2,14,rs.map Ak)]⟩
structure MadeLR(ns np nl:Nat)(k:Nat)(r:Rul):Prop where
 name:dl4[k]?=some r.name
 frm:0<=r.frm/\r.frm<ns
 to:0<=r.to/\r.to<ns
 act:r.act=0/\r.chan=0/\r.letter=0∨(1<=r.act/\r.act<=2)/\(0<=r.chan/\r.chan<np)/\(0<=r.letter/\r.letter<nl)
 rest:r=mkL r.name r.frm r.to r.chan r.act r.letter
structure MadeL(K:Int)(m:Mod):Prop where
 kind:m.kind=K
 states:∃n:Nat,1<=n/\n<=3/\m.states=([[97],[98],[99]]:List (List UInt8)).take n
 places:m.places=[[120]]∨m.places=[[120],[121]]
 letters:m.letters=[[112]]∨m.letters=[[112],[113]]
 ranks:if K=3 then m.ranks.length=m.letters.length/\∀x∈m.ranks,0<=x/\x<=1 else m.ranks=[]
 levels:m.levels=0
 age:m.age=0
 count:m.rules.length<=4
 rules:∀k r,m.rules[k]?=some r->MadeLR m.states.length m.places.length m.letters.length k r
 start:∃ys:List Val,ys.length=m.places.length/\(∀y∈ys,EO m.letters.length y)/\m.start=.mk 0 (.mk 0 []::ys)
theorem mkL_at{ns np nl:Nat}{rs:List Rul}{k:Nat}{nm:List UInt8}{f t chn ac le:Int}(hnm:dl4[k]?=some nm)(hf:0<=f/\f<ns)(ht:0<=t/\t<ns)(ha:ac=0/\chn=0/\le=0∨(1<=ac/\ac<=2)/\(0<=chn/\chn<np)/\(0<=le/\le<nl))(hrs:rs.length=k)(hR:∀i r,rs[i]?=some r->MadeLR ns np nl i r):∀i r,(rs++[mkL nm f t chn ac le])[i]?=some r->MadeLR ns np nl i r:=fun i r hi=>by
 by_cases hik:i<rs.length
 ·rw[getElem?_append_left hik] at hi;exact hR i r hi
 ·rw[getElem?_append_right (by omega)] at hi
  have h1:i-rs.length=0:=by
   have:=(List.getElem?_eq_some_iff.1 hi).1
   simp at this;omega
  rw[h1] at hi
  simp at hi;subst hi
  have hik2:i=k:=by omega
  subst hik2
  exact⟨hnm,hf,ht,ha,rfl⟩
noncomputable abbrev fChn:Func:= Tryz.f12
noncomputable def cChn:Code:=fChn.body.getD .skip
theorem chn_loop(l:List UInt8)(hl:l.length<=200)(K:Int)(S Pl Le:List (List UInt8))(rk:List Int)(hS:∃n:Nat,1<=n/\n<=3/\S=([[97],[98],[99]]:List (List UInt8)).take n)(hP:Pl=[[120]]∨Pl=[[120],[121]])(hLe:Le=[[112]]∨Le=[[112],[113]])(hrk:if K=3 then rk.length=Le.length/\∀x∈rk,0<=x/\x<=1 else rk=[])(n:Nat):∀(k a:Nat) (rs:List Rul),4-k=n->a<=l.length->k<=4->rs.length=k->(∀i r,rs[i]?=some r->MadeLR S.length Pl.length Le.length i r)->
  ∃(m:Mod) (a':Nat),MadeL K m/\a'<=l.length/\Rn PP fChn 1 (Ah m) (dz l a') ([.lp (sub cChn [1,1,1,0,1,0,0]),.blk 0,.code (sub cChn [1,1,1,1])]++[]) (mkE 92 [(0,.ptr 0 0),(4,.ptr 1 0),(5,.ptr 2 0),(6,di k)]) (stL l a K S Pl Le rk rs):=by
 induction n using Nat.strongRecOn with
 |_ n ih=>
 intro k a rs hn ha hk4 hrs hR
 have hSl:1<=S.length/\S.length<=3:=by obtain⟨n,h1,h2,rfl⟩:=hS;rw[length_take];simp only[length_cons,length_nil];omega
 have hPl:1<=Pl.length/\Pl.length<=2:=by rcases hP with rfl|rfl<;>decide
 have hLl:1<=Le.length/\Le.length<=2:=by rcases hLe with rfl|rfl<;>decide
 have hSm:((S.map V.str).length:Int)=(S.length:Int):=by rw[length_map]
 have hPm:((Pl.map V.str).length:Int)=(Pl.length:Int):=by rw[length_map]
 have hLm:((Le.map V.str).length:Int)=(Le.length:Int):=by rw[length_map]
 obtain⟨r,a1,h1,h2,h3,h4⟩:=Aw l hl a ha 4 (by decide) (by decide)
 by_cases hk:(k:Int)<1+r
 ·obtain⟨f,a2,f1,f2,f3,f4⟩:=Aw l hl a1 h3 S.length (by omega) (by omega)
  obtain⟨t,a3,t1,t2,t3,t4⟩:=Aw l hl a2 f3 S.length (by omega) (by omega)
  obtain⟨ac,a4,c1,c2,c3,c4⟩:=Aw l hl a3 t3 3 (by decide) (by decide)
  obtain⟨nm,hnm⟩:∃nm,dl4[k]?=some nm:=⟨_,getElem?_eq_getElem (show k<dl4.length by show k<4;omega)⟩
  have hkr:decide ((k:Int)<wrap i64 (1+r))=true:=by rw[Aj (by omega) (by omega)];exact decide_eq_true hk
  by_cases hw:(ac !=0)=true
  ·obtain⟨chn,a5,d1,d2,d3,d4⟩:=Aw l hl a4 c3 Pl.length (by omega) (by omega)
   obtain⟨le,a6,e1,e2,e3,e4⟩:=Aw l hl a5 d3 Le.length (by omega) (by omega)
   have hac:ac≠0:=by simpa using hw
   obtain⟨m,a',m1,m2,m3⟩:=ih (4- (k+1)) (by omega) (k+1) a6 (rs++[mkL nm f t chn ac le]) rfl e3 (by omega) (by simp[hrs]) (mkL_at hnm ⟨f1,f2⟩ ⟨t1,t2⟩ (.inr ⟨by omega,⟨d1,d2⟩,⟨e1,e2⟩⟩) hrs hR)
   refine⟨m,a',m1,m2,?_⟩
   refine lv 92 [] (.c1 (cDz l a1) (di r)<|.t<|.h (.dr 17)<|.x (.str nm)<|.c1 (cDz l a2) (di f)<|.c1 (cDz l a3) (di t)<|.c1 (cDz l a4) (di ac)<|.t<|.c1 (cDz l a5) (di chn)<|.c1 (cDz l a6) (di le)<|.ls [ke 0,ke 4,ke 5,ch 6 (di (k+1:Nat))] (stL l a6 K S Pl Le rk (rs++[mkL nm f t chn ac le]))) (Ab PP 8 [D.ptr 0 0,di 4] (dz l a) (di r) (dz l a1)/\decide ((k:Int)<wrap i64 (1+r))=true/\0<=(k:Int)/\[V.str (ByteArray.mk #[114]).data.toList,V.str (ByteArray.mk #[115]).data.toList,V.str (ByteArray.mk #[116]).data.toList,V.str (ByteArray.mk #[117]).data.toList][Int.toNat (k:Int)]?=some (V.str nm)/\Ab PP 8 [D.ptr 0 0,di (length (map V.str S):Int)] (dz l a1) (di f) (dz l a2)/\Ab PP 8 [D.ptr 0 0,di (length (map V.str S):Int)] (dz l a1) (di f) (dz l a2)/\Q (di f)/\Ab PP 8 [D.ptr 0 0,di (length (map V.str S):Int)] (dz l a2) (di t) (dz l a3)/\Ab PP 8 [D.ptr 0 0,di (length (map V.str S):Int)] (dz l a2) (di t) (dz l a3)/\Q (di t)/\Ab PP 8 [D.ptr 0 0,di 3] (dz l a3) (di ac) (dz l a4)/\Ab PP 8 [D.ptr 0 0,di 3] (dz l a3) (di ac) (dz l a4)/\Q (di ac)/\Q [St.mk [some (cDz l a1),some zM,some (lM K S Pl Le rk rs),some zRl] [(2,14,map Ak rs)],St.mk [some (cDz l a2),some zM,some (lM K S Pl Le rk rs),some zRl] [(2,14,map Ak rs)],St.mk [some (cDz l a3),some zM,some (lM K S Pl Le rk rs),some zRl] [(2,14,map Ak rs)],St.mk [some (cDz l a4),some zM,some (lM K S Pl Le rk rs),some zRl] [(2,14,map Ak rs)]]/\((Q (some [D.v (vSs S)])/\Q (some [D.v (vSs S)])/\Q (some [D.v (vSs S)])/\Q (some [D.v (vSs S)])/\Q (some [D.v (vSs S)])/\Q (some [D.v (vSs S)])/\Q (some [D.v (vSs S)])/\Q (some [D.v (vSs S)])/\Q (some [D.v (vSs S)])/\True)/\(Q (some [D.v (vSs S)])/\Q (some [D.v (vSs S)])/\Q (some [D.v (vSs S)])/\Q (some [D.v (vSs S)])/\Q (some [D.v (vSs S)])/\Q (some [D.v (vSs S)])/\Q (some [D.v (vSs S)])/\Q (some [D.v (vSs S)])/\Q (some [D.v (vSs S)])/\True)/\True)/\(ac !=0)=true/\Ab PP 8 [D.ptr 0 0,di (length (map V.str Pl):Int)] (dz l a4) (di chn) (dz l a5)/\Ab PP 8 [D.ptr 0 0,di (length (map V.str Le):Int)] (dz l a5) (di le) (dz l a6)/\(True/\(Q (some [D.v (vSs Le)])/\True)/\True)/\Q (map Ak rs)/\Ar (length (map Ak rs)+length (V.agg (V.str nm::V.int i64 f::V.int i64 t::V.list nV::V.list nV::V.list nV::V.int i64 chn::V.int i64 ac::V.int i64 le::V.list nV::V.list nV::V.list nV::V.list nV::V.int i64 0::nV)::nV)) 232/\di (wrap i64 ((k:Int)+1))=di (↑(k+1):Int)/\[some (cDz l a6),some zM,some [di K,D.v (vSs S),D.v (vSs Pl),D.v (vSs Le),dIs rk,di 0,di 0,D.acc 2 (map Ak rs++V.agg (V.str nm::vi f::vi t::V.list nV::V.list nV::V.list nV::vi chn::vi ac::vi le::V.list nV::V.list nV::V.list nV::V.list nV::vi 0::nV)::nV),di 0,dl nV]]=[some (cDz l a6),some zM,some (lM K S Pl Le rk (rs++[mkL nm f t chn ac le]))]/\[(2,14,map Ak rs++V.agg (V.str nm::vi f::vi t::V.list nV::V.list nV::V.list nV::vi chn::vi ac::vi le::V.list nV::V.list nV::V.list nV::V.list nV::vi 0::nV)::nV)]=[(2,14,map Ak (rs++[mkL nm f t chn ac le]))]/\I0 fChn 1 (Ah m) (dz l a') [kl cChn [1,1,1,0,1,0,0],KI.blk 0,kc cChn [1,1,1,1]] (mkE 92 [(0,D.ptr 0 0),(4,D.ptr 1 0),(5,D.ptr 2 0),(6,di (↑(k+1):Int))]) (stL l a6 K S Pl Le rk (rs++[mkL nm f t chn ac le]))) ?_
   rw[hSm,hPm,hLm]
   repeat' first|with_reducible refine And.intro ?_ ?_
   all_goals first|exact h4|exact hkr|exact f4|exact t4|exact c4|exact d4|exact e4|exact hw|exact Dp hnm|exact⟨m3⟩|exact Af (by omega)|omega|rfl|trivial|skip
   all_goals first|exact congrArg (fun z=>[some (cDz l a6),some zM,some [di K,.v (vSs S),.v (vSs Pl),.v (vSs Le),.v (vIs rk),di 0,di 0,.acc 2 z,di 0,dl []]]) (AJ rs (mkL nm f t chn ac le))|exact congrArg (fun z=>[(2,14,z)]) (AJ rs (mkL nm f t chn ac le))|(simp only[length_map,length_cons,length_nil];omega)
  ·have hac:ac=0:=by simpa using hw
   subst hac
   obtain⟨m,a',m1,m2,m3⟩:=ih (4- (k+1)) (by omega) (k+1) a4 (rs++[mkL nm f t 0 0 0]) rfl c3 (by omega) (by simp[hrs]) (mkL_at hnm ⟨f1,f2⟩ ⟨t1,t2⟩ (.inl ⟨rfl,rfl,rfl⟩) hrs hR)
   refine⟨m,a',m1,m2,?_⟩
   refine lv 92 [] (.c1 (cDz l a1) (di r)<|.t<|.h (.dr 17)<|.x (.str nm)<|.c1 (cDz l a2) (di f)<|.c1 (cDz l a3) (di t)<|.c1 (cDz l a4) (di 0)<|.k<|.ls [ke 0,ke 4,ke 5,ch 6 (di (k+1:Nat))] (stL l a4 K S Pl Le rk (rs++[mkL nm f t 0 0 0]))) (Ab PP 8 [D.ptr 0 0,di 4] (dz l a) (di r) (dz l a1)/\decide ((k:Int)<wrap i64 (1+r))=true/\0<=(k:Int)/\[V.str (ByteArray.mk #[114]).data.toList,V.str (ByteArray.mk #[115]).data.toList,V.str (ByteArray.mk #[116]).data.toList,V.str (ByteArray.mk #[117]).data.toList][Int.toNat (k:Int)]?=some (V.str nm)/\Ab PP 8 [D.ptr 0 0,di (length (map V.str S):Int)] (dz l a1) (di f) (dz l a2)/\Ab PP 8 [D.ptr 0 0,di (length (map V.str S):Int)] (dz l a1) (di f) (dz l a2)/\Q (di f)/\Ab PP 8 [D.ptr 0 0,di (length (map V.str S):Int)] (dz l a2) (di t) (dz l a3)/\Ab PP 8 [D.ptr 0 0,di (length (map V.str S):Int)] (dz l a2) (di t) (dz l a3)/\Q (di t)/\Ab PP 8 [D.ptr 0 0,di 3] (dz l a3) (di 0) (dz l a4)/\Ab PP 8 [D.ptr 0 0,di 3] (dz l a3) (di 0) (dz l a4)/\Q (di 0)/\Q [St.mk [some (cDz l a1),some zM,some (lM K S Pl Le rk rs),some zRl] [(2,14,map Ak rs)],St.mk [some (cDz l a2),some zM,some (lM K S Pl Le rk rs),some zRl] [(2,14,map Ak rs)],St.mk [some (cDz l a3),some zM,some (lM K S Pl Le rk rs),some zRl] [(2,14,map Ak rs)],St.mk [some (cDz l a4),some zM,some (lM K S Pl Le rk rs),some zRl] [(2,14,map Ak rs)]]/\((Q (some [D.v (vSs S)])/\Q (some [D.v (vSs S)])/\Q (some [D.v (vSs S)])/\Q (some [D.v (vSs S)])/\Q (some [D.v (vSs S)])/\Q (some [D.v (vSs S)])/\Q (some [D.v (vSs S)])/\Q (some [D.v (vSs S)])/\Q (some [D.v (vSs S)])/\True)/\(Q (some [D.v (vSs S)])/\Q (some [D.v (vSs S)])/\Q (some [D.v (vSs S)])/\Q (some [D.v (vSs S)])/\Q (some [D.v (vSs S)])/\Q (some [D.v (vSs S)])/\Q (some [D.v (vSs S)])/\Q (some [D.v (vSs S)])/\Q (some [D.v (vSs S)])/\True)/\True)/\Q (map Ak rs)/\Ar (length (map Ak rs)+length (V.agg (V.str nm::V.int i64 f::V.int i64 t::V.list nV::V.list nV::V.list nV::V.int i64 0::V.int i64 0::V.int i64 0::V.list nV::V.list nV::V.list nV::V.list nV::V.int i64 0::nV)::nV)) 232/\di (wrap i64 ((k:Int)+1))=di (↑(k+1):Int)/\[some (cDz l a4),some zM,some [di K,D.v (vSs S),D.v (vSs Pl),D.v (vSs Le),dIs rk,di 0,di 0,D.acc 2 (map Ak rs++V.agg (V.str nm::vi f::vi t::V.list nV::V.list nV::V.list nV::vi 0::vi 0::vi 0::V.list nV::V.list nV::V.list nV::V.list nV::vi 0::nV)::nV),di 0,dl nV]]=[some (cDz l a4),some zM,some (lM K S Pl Le rk (rs++[mkL nm f t 0 0 0]))]/\[(2,14,map Ak rs++V.agg (V.str nm::vi f::vi t::V.list nV::V.list nV::V.list nV::vi 0::vi 0::vi 0::V.list nV::V.list nV::V.list nV::V.list nV::vi 0::nV)::nV)]=[(2,14,map Ak (rs++[mkL nm f t 0 0 0]))]/\I0 fChn 1 (Ah m) (dz l a') [kl cChn [1,1,1,0,1,0,0],KI.blk 0,kc cChn [1,1,1,1]] (mkE 92 [(0,D.ptr 0 0),(4,D.ptr 1 0),(5,D.ptr 2 0),(6,di (↑(k+1):Int))]) (stL l a4 K S Pl Le rk (rs++[mkL nm f t 0 0 0]))) ?_
   rw[hSm]
   repeat' first|with_reducible refine And.intro ?_ ?_
   all_goals first|exact h4|exact hkr|exact f4|exact t4|exact c4|exact Dp hnm|exact⟨m3⟩|exact Af (by omega)|omega|rfl|trivial|skip
   all_goals first|exact congrArg (fun z=>[some (cDz l a4),some zM,some [di K,.v (vSs S),.v (vSs Pl),.v (vSs Le),.v (vIs rk),di 0,di 0,.acc 2 z,di 0,dl []]]) (AJ rs (mkL nm f t 0 0 0))|exact congrArg (fun z=>[(2,14,z)]) (AJ rs (mkL nm f t 0 0 0))|(simp only[length_map,length_cons,length_nil];omega)
 ·obtain⟨ys,a2,y1,y2,y3,y4⟩:=wds_ex l hl a1 h3 Pl.length (by omega) Le.length (by omega) (by omega)
  obtain⟨c,hc⟩:∃c:Val,c=.mk 0 (.mk 0 []::ys):=⟨_,rfl⟩
  refine⟨⟨K,S,Pl,Le,rk,0,0,rs,c⟩,a2,⟨rfl,hS,hP,hLe,hrk,rfl,rfl,by show rs.length<=4;omega,hR,ys,y2,y3,hc⟩,y1,?_⟩
  refine lv 92 [] (.c1 (cDz l a1) (di r)<|.f<|.a 3<|.c1 (cDz l a2) (dVs ys)<|.w .r) (Ab PP 8 [D.ptr 0 0,di 4] (dz l a) (di r) (dz l a1)/\decide ((k:Int)<wrap i64 (1+r))=false/\Ab PP 16 [D.ptr 0 0,di (length (map V.str Pl):Int),di (length (map V.str Le):Int),di 2] (dz l a1) (dVs ys) (dz l a2)/\Q (V.agg (vi 0::V.list nV::nV)::nV)/\Ar (length (V.agg (V.int i64 0::V.list nV::nV)::nV)+length (map eV ys)) 32/\(∀(y:V),y∈map eV ys->V.size y=2)/\Q [some (cDz l a2)]/\D.v (V.agg [vi K,V.list (map V.str S),V.list (map V.str Pl),V.list (map V.str Le),V.list (map vi rk),vi 0,vi 0,V.list (map Ak rs),vi 0,V.list (V.agg [vi 0,V.list []]::[]++(map eV ys))])=Ah (Mod.mk K S Pl Le rk 0 0 rs c)) ?_
  rw[hPm,hLm]
  refine⟨h4,decide_eq_false (by rw[Aj (by omega) (by omega)];exact hk),y4,rfl,⟨?_,?_⟩,fun y hy=>?_,rfl,?_⟩
  ·have:=hPl;simp only[length_map,length_cons,length_nil,y2];omega
  ·have:=hPl;simp only[length_map,length_cons,length_nil,y2];omega
  ·obtain⟨z,_,rfl⟩:=mem_map.1 hy
   rw[AN];rfl
  ·rw[hc];rfl
theorem wkD_one{ts:List Nat}{kn:Bool}{d:D}(h:d.one=true):(wkD ts kn d).one=true:=by
 unfold wkD
 split
 ·cases ts.any _<;>rfl
 ·cases kn<;>rfl
 ·cases kn
  ·exact absurd h (by simp[D.one,V.isAgg])
  ·exact h
 ·exact h
theorem cv_lM{H:List (Option (List D))}{own:List (Nat×Nat×List V)}{q:Nat}{d0:Int}{S Pl Le:V}{rk:V}(hq:H[q]?=some (some [di d0,.v S,.v Pl,.v Le,.v rk,di 0,di 0,.acc 2 [],di 0,.v .nils]))(e:List D):Cv e ⟨H,own⟩ e ⟨H.set q (some ([di d0,.v S,.v Pl,.v Le,.v rk,di 0,di 0,.acc 2 [],di 0,.v .nils].map (wkD [2] false))),own⟩:=
 Dr (σ:=⟨H,own⟩) (q:=q) hq (fun g us hr=>DO hr) (fun h c hc=>by
  obtain⟨d,hd,rfl⟩:=mem_map.1 hc
  exact wkD_one (h d hd)) e
theorem chn_ex(l:List UInt8)(hl:l.length<=200)(a:Nat)(ha:a<=l.length)(K:Int)(hK:K=2∨K=3):
  ∃(m:Mod) (a':Nat),MadeL K m/\a'<=l.length/\Ab PP 12 [.ptr 0 0,di K] (dz l a) (Ah m) (dz l a'):=by
 obtain⟨r1,a1,p1,p2,p3,p4⟩:=Aw l hl a ha 3 (by decide) (by decide)
 obtain⟨r2,a2,q1,q2,q3,q4⟩:=Aw l hl a1 p3 2 (by decide) (by decide)
 obtain⟨r3,a3,u1,u2,u3,u4⟩:=Aw l hl a2 q3 2 (by decide) (by decide)
 obtain⟨n1,rfl⟩:∃n:Nat,r1=n:=⟨r1.toNat,by omega⟩
 obtain⟨n2,rfl⟩:∃n:Nat,r2=n:=⟨r2.toNat,by omega⟩
 obtain⟨n3,rfl⟩:∃n:Nat,r3=n:=⟨r3.toNat,by omega⟩
 obtain⟨S,hS⟩:∃S,S=([[97],[98],[99]]:List (List UInt8)).take (1+n1):=⟨_,rfl⟩
 obtain⟨Pl,hPl⟩:∃S,S=([[120],[121]]:List (List UInt8)).take (1+n2):=⟨_,rfl⟩
 obtain⟨Le,hLe⟩:∃S,S=([[112],[113]]:List (List UInt8)).take (1+n3):=⟨_,rfl⟩
 have hSx:∃n:Nat,1<=n/\n<=3/\S=([[97],[98],[99]]:List (List UInt8)).take n:=⟨1+n1,by omega,by omega,hS⟩
 have hPx:Pl=[[120]]∨Pl=[[120],[121]]:=by
  rcases(show n2=0∨n2=1 by omega) with rfl|rfl
  ·exact .inl hPl
  ·exact .inr hPl
 have hLx:Le=[[112]]∨Le=[[112],[113]]:=by
  rcases(show n3=0∨n3=1 by omega) with rfl|rfl
  ·exact .inl hLe
  ·exact .inr hLe
 rcases hK with rfl|rfl
 ·obtain⟨m,a',m1,m2,m3⟩:=chn_loop l hl 2 S Pl Le [] hSx hPx hLx (by simp) _ 0 a3 [] rfl u3 (by omega) rfl (by simp)
  refine⟨m,a',m1,m2,?_⟩
  refine sv fChn 92 [] (.h (.dr 17)<|.c1 (cDz l a1) (di n1)<|.c1 (cDz l a2) (di n2)<|.c1 (cDz l a3) (di n3)<|.h .rn<|.k<|.h (.q 4 0)<|.h (.cl 2 7 2 14)<|.h (.cs (stL l a3 2 S Pl Le [] []))<|.ls [ke 0,ke 4,ke 5,ch 6 (di (0:Nat))] (stL l a3 2 S Pl Le [] [])) (Ab PP 8 [D.ptr 0 0,di 3] (dz l a) (di (n1:Int)) (dz l a1)/\Ab PP 8 [D.ptr 0 0,di 3] (dz l a) (di (n1:Int)) (dz l a1)/\Q (di (n1:Int))/\(∀(x:V),x∈ [V.str (ByteArray.mk #[97]).data.toList,V.str (ByteArray.mk #[98]).data.toList,V.str (ByteArray.mk #[99]).data.toList]->V.size x=1)/\0<=(fun x=>x.snd) (i64,wrap i64 (1+(n1:Int)))/\(fun x=>x.snd) (i64,wrap i64 (1+(n1:Int)))<=(↑(length [V.str (ByteArray.mk #[97]).data.toList,V.str (ByteArray.mk #[98]).data.toList,V.str (ByteArray.mk #[99]).data.toList]):Int)/\Ab PP 8 [D.ptr 0 0,di 2] (dz l a1) (di (n2:Int)) (dz l a2)/\Ab PP 8 [D.ptr 0 0,di 2] (dz l a1) (di (n2:Int)) (dz l a2)/\Q (di (n2:Int))/\(∀(x:V),x∈ [V.str (ByteArray.mk #[120]).data.toList,V.str (ByteArray.mk #[121]).data.toList]->V.size x=1)/\0<=(fun x=>x.snd) (i64,wrap i64 (1+(n2:Int)))/\(fun x=>x.snd) (i64,wrap i64 (1+(n2:Int)))<=(↑(length [V.str (ByteArray.mk #[120]).data.toList,V.str (ByteArray.mk #[121]).data.toList]):Int)/\Ab PP 8 [D.ptr 0 0,di 2] (dz l a2) (di (n3:Int)) (dz l a3)/\Ab PP 8 [D.ptr 0 0,di 2] (dz l a2) (di (n3:Int)) (dz l a3)/\Q (di (n3:Int))/\(∀(x:V),x∈ [V.str (ByteArray.mk #[112]).data.toList,V.str (ByteArray.mk #[113]).data.toList]->V.size x=1)/\0<=(fun x=>x.snd) (i64,wrap i64 (1+(n3:Int)))/\(fun x=>x.snd) (i64,wrap i64 (1+(n3:Int)))<=(↑(length [V.str (ByteArray.mk #[112]).data.toList,V.str (ByteArray.mk #[113]).data.toList]):Int)/\Q [St.mk [some (cDz l a),some zMl,some zMl] [],St.mk [some (cDz l a1),some zMl,some zMl] [],St.mk [some (cDz l a2),some zMl,some zMl] [],St.mk [some (cDz l a3),some zMl,some zMl] []]/\True/\(∀(e:List D) (E:Ent) (g:Gh) (a:Act) (w:World),FI E g (St.mk [some (cDz l a3),some [D.v (V.int i64 0),dn,dn,dn,dn,D.v (V.int i64 0),D.v (V.int i64 0),dn,D.v (V.int i64 0),dn],some [D.v (V.int i64 2),D.v (V.list (List.drop 0 (take (Int.toNat ((fun x=>x.snd) (i64,wrap i64 (1+(n1:Int))))) [V.str (ByteArray.mk #[97]).data.toList,V.str (ByteArray.mk #[98]).data.toList,V.str (ByteArray.mk #[99]).data.toList]))),D.v (V.list (List.drop 0 (take (Int.toNat ((fun x=>x.snd) (i64,wrap i64 (1+(n2:Int))))) [V.str (ByteArray.mk #[120]).data.toList,V.str (ByteArray.mk #[121]).data.toList]))),D.v (V.list (List.drop 0 (take (Int.toNat ((fun x=>x.snd) (i64,wrap i64 (1+(n3:Int))))) [V.str (ByteArray.mk #[112]).data.toList,V.str (ByteArray.mk #[113]).data.toList]))),dn,D.v (V.int i64 0),D.v (V.int i64 0),D.acc 2 [],D.v (V.int i64 0),dn]] [(2,14,[])]) e a w->∃g',FI E g' (stL l a3 2 S Pl Le [] []) e a w)/\di 0=di (↑0:Int)/\Q [some (cDz l a3),some zM,some (lM 2 S Pl Le [] [])]/\Q [(2,14,nV)]/\I0 fChn (length (dz l a).H) (Ah m) (dz l a') [kl cChn [1,1,1,0,1,0,0],KI.blk 0,kc cChn [1,1,1,1]] (mkE 92 [(0,D.ptr 0 0),(4,D.ptr 1 0),(5,D.ptr 2 0),(6,di (↑0:Int))]) (stL l a3 2 S Pl Le [] [])) ?_
  have w1:wrap i64 (1+(n1:Int))=1+n1:=Aj (by omega) (by omega)
  have w2:wrap i64 (1+(n2:Int))=1+n2:=Aj (by omega) (by omega)
  have w3:wrap i64 (1+(n3:Int))=1+n3:=Aj (by omega) (by omega)
  have z1:∀x∈ [V.str [97],V.str [98],V.str [99]],x.size=1:=by simp[V.size]
  have z2:∀x∈ [V.str [120],V.str [121]],x.size=1:=by simp[V.size]
  have z3:∀x∈ [V.str [112],V.str [113]],x.size=1:=by simp[V.size]
  have k1:V.list (List.drop 0 (take (1+(n1:Int)).toNat [V.str [97],V.str [98],V.str [99]]))=vSs S:=by
   rw[hS,drop_zero,show(1+(n1:Int)).toNat=1+n1 by omega]
   rcases(show n1=0∨n1=1∨n1=2 by omega) with rfl|rfl|rfl<;>rfl
  have k2:V.list (List.drop 0 (take (1+(n2:Int)).toNat [V.str [120],V.str [121]]))=vSs Pl:=by
   rw[hPl,drop_zero,show(1+(n2:Int)).toNat=1+n2 by omega]
   rcases(show n2=0∨n2=1 by omega) with rfl|rfl<;>rfl
  have k3:List.drop 0 (take (1+(n3:Int)).toNat [V.str [112],V.str [113]])=Le.map V.str:=by
   rw[hLe,drop_zero,show(1+(n3:Int)).toNat=1+n3 by omega]
   rcases(show n3=0∨n3=1 by omega) with rfl|rfl<;>rfl
  rw[w1,w2,w3]
  refine⟨p4,p4,rfl,z1,by show 0<=1+(n1:Int);omega,by show 1+(n1:Int)<=3;omega,q4,q4,rfl,z2,by show 0<=1+(n2:Int);omega,by show 1+(n2:Int)<=2;omega,u4,u4,rfl,z3,by show 0<=1+(n3:Int);omega,by show 1+(n3:Int)<=2;omega,rfl,trivial,fun e=>?_,rfl,rfl,rfl,⟨m3⟩⟩
  show Cv e ⟨[some (cDz l a3),some zM,some [di 2,.v (V.list (List.drop 0 (take (1+(n1:Int)).toNat [V.str [97],V.str [98],V.str [99]]))),.v (V.list (List.drop 0 (take (1+(n2:Int)).toNat [V.str [120],V.str [121]]))),.v (V.list (List.drop 0 (take (1+(n3:Int)).toNat [V.str [112],V.str [113]]))),.v .nils,di 0,di 0,.acc 2 [],di 0,.v .nils]],[(2,14,[])]⟩ e _
  rw[k1,k2,k3]
  exact cv_lM (H:=[some (cDz l a3),some zM,some [di 2,.v (vSs S),.v (vSs Pl),.v (vSs Le),.v .nils,di 0,di 0,.acc 2 [],di 0,.v .nils]]) (q:=2) rfl e
 ·obtain⟨rk,a4,v1,v2,v3,v4⟩:=Fh l hl a3 u3 Le.length (by rcases hLx with h|h<;>rw[h]<;>decide) 1 (by decide) (by decide)
  obtain⟨m,a',m1,m2,m3⟩:=chn_loop l hl 3 S Pl Le rk hSx hPx hLx (by rw[if_pos rfl];exact⟨v2,v3⟩) _ 0 a4 [] rfl (by omega) (by omega) rfl (by simp)
  refine⟨m,a',m1,m2,?_⟩
  refine sv fChn 92 [] (.h (.dr 17)<|.c1 (cDz l a1) (di n1)<|.c1 (cDz l a2) (di n2)<|.c1 (cDz l a3) (di n3)<|.h .rn<|.k<|.c1 (cDz l a4) (dIs rk)<|.h (.q 4 0)<|.h (.cl 2 7 2 14)<|.h (.cs (stL l a4 3 S Pl Le rk []))<|.ls [ke 0,ke 4,ke 5,ch 6 (di (0:Nat))] (stL l a4 3 S Pl Le rk [])) (Ab PP 8 [D.ptr 0 0,di 3] (dz l a) (di (n1:Int)) (dz l a1)/\Ab PP 8 [D.ptr 0 0,di 3] (dz l a) (di (n1:Int)) (dz l a1)/\Q (di (n1:Int))/\(∀(x:V),x∈ [V.str (ByteArray.mk #[97]).data.toList,V.str (ByteArray.mk #[98]).data.toList,V.str (ByteArray.mk #[99]).data.toList]->V.size x=1)/\0<=(fun x=>x.snd) (i64,wrap i64 (1+(n1:Int)))/\(fun x=>x.snd) (i64,wrap i64 (1+(n1:Int)))<=(↑(length [V.str (ByteArray.mk #[97]).data.toList,V.str (ByteArray.mk #[98]).data.toList,V.str (ByteArray.mk #[99]).data.toList]):Int)/\Ab PP 8 [D.ptr 0 0,di 2] (dz l a1) (di (n2:Int)) (dz l a2)/\Ab PP 8 [D.ptr 0 0,di 2] (dz l a1) (di (n2:Int)) (dz l a2)/\Q (di (n2:Int))/\(∀(x:V),x∈ [V.str (ByteArray.mk #[120]).data.toList,V.str (ByteArray.mk #[121]).data.toList]->V.size x=1)/\0<=(fun x=>x.snd) (i64,wrap i64 (1+(n2:Int)))/\(fun x=>x.snd) (i64,wrap i64 (1+(n2:Int)))<=(↑(length [V.str (ByteArray.mk #[120]).data.toList,V.str (ByteArray.mk #[121]).data.toList]):Int)/\Ab PP 8 [D.ptr 0 0,di 2] (dz l a2) (di (n3:Int)) (dz l a3)/\Ab PP 8 [D.ptr 0 0,di 2] (dz l a2) (di (n3:Int)) (dz l a3)/\Q (di (n3:Int))/\(∀(x:V),x∈ [V.str (ByteArray.mk #[112]).data.toList,V.str (ByteArray.mk #[113]).data.toList]->V.size x=1)/\0<=(fun x=>x.snd) (i64,wrap i64 (1+(n3:Int)))/\(fun x=>x.snd) (i64,wrap i64 (1+(n3:Int)))<=(↑(length [V.str (ByteArray.mk #[112]).data.toList,V.str (ByteArray.mk #[113]).data.toList]):Int)/\Q [St.mk [some (cDz l a),some zMl,some zMl] [],St.mk [some (cDz l a1),some zMl,some zMl] [],St.mk [some (cDz l a2),some zMl,some zMl] [],St.mk [some (cDz l a3),some zMl,some zMl] []]/\True/\Ab PP 15 [D.ptr 0 0,di (length (List.drop 0 (take (Int.toNat ((fun x=>x.snd) (i64,wrap i64 (1+(n3:Int))))) (V.str (ByteArray.mk #[112]).data.toList::V.str (ByteArray.mk #[113]).data.toList::nV))):Int),di 1] (dz l a3) (dIs rk) (dz l a4)/\(∀(e:List D) (E:Ent) (g:Gh) (a:Act) (w:World),FI E g (St.mk [some (cDz l a4),some [D.v (V.int i64 0),dn,dn,dn,dn,D.v (V.int i64 0),D.v (V.int i64 0),dn,D.v (V.int i64 0),dn],some [D.v (V.int i64 3),D.v (V.list (List.drop 0 (take (Int.toNat ((fun x=>x.snd) (i64,wrap i64 (1+(n1:Int))))) [V.str (ByteArray.mk #[97]).data.toList,V.str (ByteArray.mk #[98]).data.toList,V.str (ByteArray.mk #[99]).data.toList]))),D.v (V.list (List.drop 0 (take (Int.toNat ((fun x=>x.snd) (i64,wrap i64 (1+(n2:Int))))) [V.str (ByteArray.mk #[120]).data.toList,V.str (ByteArray.mk #[121]).data.toList]))),D.v (V.list (List.drop 0 (take (Int.toNat ((fun x=>x.snd) (i64,wrap i64 (1+(n3:Int))))) [V.str (ByteArray.mk #[112]).data.toList,V.str (ByteArray.mk #[113]).data.toList]))),dIs rk,D.v (V.int i64 0),D.v (V.int i64 0),D.acc 2 [],D.v (V.int i64 0),dn]] [(2,14,[])]) e a w->∃g',FI E g' (stL l a4 3 S Pl Le rk []) e a w)/\di 0=di (↑0:Int)/\Q [some (cDz l a4),some zM,some (lM 3 S Pl Le rk [])]/\Q [(2,14,nV)]/\I0 fChn (length (dz l a).H) (Ah m) (dz l a') [kl cChn [1,1,1,0,1,0,0],KI.blk 0,kc cChn [1,1,1,1]] (mkE 92 [(0,D.ptr 0 0),(4,D.ptr 1 0),(5,D.ptr 2 0),(6,di (↑0:Int))]) (stL l a4 3 S Pl Le rk [])) ?_
  have w1:wrap i64 (1+(n1:Int))=1+n1:=Aj (by omega) (by omega)
  have w2:wrap i64 (1+(n2:Int))=1+n2:=Aj (by omega) (by omega)
  have w3:wrap i64 (1+(n3:Int))=1+n3:=Aj (by omega) (by omega)
  have z1:∀x∈ [V.str [97],V.str [98],V.str [99]],x.size=1:=by simp[V.size]
  have z2:∀x∈ [V.str [120],V.str [121]],x.size=1:=by simp[V.size]
  have z3:∀x∈ [V.str [112],V.str [113]],x.size=1:=by simp[V.size]
  have k1:V.list (List.drop 0 (take (1+(n1:Int)).toNat [V.str [97],V.str [98],V.str [99]]))=vSs S:=by
   rw[hS,drop_zero,show(1+(n1:Int)).toNat=1+n1 by omega]
   rcases(show n1=0∨n1=1∨n1=2 by omega) with rfl|rfl|rfl<;>rfl
  have k2:V.list (List.drop 0 (take (1+(n2:Int)).toNat [V.str [120],V.str [121]]))=vSs Pl:=by
   rw[hPl,drop_zero,show(1+(n2:Int)).toNat=1+n2 by omega]
   rcases(show n2=0∨n2=1 by omega) with rfl|rfl<;>rfl
  have k3:List.drop 0 (take (1+(n3:Int)).toNat [V.str [112],V.str [113]])=Le.map V.str:=by
   rw[hLe,drop_zero,show(1+(n3:Int)).toNat=1+n3 by omega]
   rcases(show n3=0∨n3=1 by omega) with rfl|rfl<;>rfl
  rw[w1,w2,w3]
  refine⟨p4,p4,rfl,z1,by show 0<=1+(n1:Int);omega,by show 1+(n1:Int)<=3;omega,q4,q4,rfl,z2,by show 0<=1+(n2:Int);omega,by show 1+(n2:Int)<=2;omega,u4,u4,rfl,z3,by show 0<=1+(n3:Int);omega,by show 1+(n3:Int)<=2;omega,rfl,trivial,?_,fun e=>?_,rfl,rfl,rfl,⟨m3⟩⟩
  ·show Ab PP _ [_,di ((List.drop 0 (take (1+(n3:Int)).toNat [V.str [112],V.str [113]])).length:Int),_] _ _ _
   rw[k3,length_map];exact v4
  show Cv e ⟨[some (cDz l a4),some zM,some [di 3,.v (V.list (List.drop 0 (take (1+(n1:Int)).toNat [V.str [97],V.str [98],V.str [99]]))),.v (V.list (List.drop 0 (take (1+(n2:Int)).toNat [V.str [120],V.str [121]]))),.v (V.list (List.drop 0 (take (1+(n3:Int)).toNat [V.str [112],V.str [113]]))),dIs rk,di 0,di 0,.acc 2 [],di 0,.v .nils]],[(2,14,[])]⟩ e _
  rw[k1,k2,k3]
  exact cv_lM (H:=[some (cDz l a4),some zM,some [di 3,.v (vSs S),.v (vSs Pl),.v (vSs Le),dIs rk,di 0,di 0,.acc 2 [],di 0,.v .nils]]) (q:=2) rfl e
theorem mapNameL{rs:List Rul}(h3:rs.length<=4){ns np nl:Nat}(h:∀k r,rs[k]?=some r->MadeLR ns np nl k r):rs.map Rul.name=dl4.take rs.length:=by
 apply ext_getElem?
 intro i
 by_cases hi:i<rs.length
 ·have hx:rs[i]?=some rs[i]:=getElem?_eq_getElem hi
  rw[getElem?_map,hx,List.getElem?_take_of_lt hi,(h i _ hx).name];rfl
 ·rw[getElem?_eq_none (by simp;omega),getElem?_eq_none (by simp;omega)]
theorem word_lab{L:Int}{v:Val}(h:EO L v):(v.n==0)=true/\decide ((v.kids.length:Int)<=12)=true/\(v.kids.all fun k=>Es L k)=true:=by
 obtain⟨ks,h1,h2,rfl⟩:=h
 refine⟨rfl,decide_eq_true (by simp only[Val.kids,length_map];omega),?_⟩
 simp only[Val.kids,all_eq_true]
 intro k hk
 obtain⟨x,hx,rfl⟩:=mem_map.1 hk
 have:=h2 x hx
 simp only[Es,Val.n,Val.kids,Bool.and_eq_true,decide_eq_true_eq]
 exact⟨decide_eq_true this.1,decide_eq_true this.2,rfl⟩
theorem words_one(t:Typ)(L:Int)(ht:∀v,EO L v->AG t v=true):∀(n:Nat) (ys:List Val),ys.length=n->(∀y∈ys,EO L y)->CF (replicate n t) ys=true
 |0,ys,h,_=>by
  cases ys with
  |nil=>rfl
  |cons y ys=>simp at h
 |n+1,ys,h,hy=>by
  cases ys with
  |nil=>simp at h
  |cons y ys=>
   simp only[replicate_succ,CF,Bool.and_eq_true]
   exact⟨ht y (hy y (by simp)),words_one t L ht n ys (by simpa using h) fun z hz=>hy z (by simp[hz])⟩
theorem words_sz(L:Int):∀(ys:List Val),(∀y∈ys,EO L y)->Val.sizes ys<=3*ys.length
 |[],_=>Nat.le_refl _
 |y::ys,h=>by
  have h1:=(h y (by simp)).size
  have h2:=words_sz L ys fun z hz=>h z (by simp[hz])
  simp only[Val.sizes,length_cons];omega
theorem chan_valid(m:Mod)(hk:m.kind=2∨m.kind=3)(hpl:m.places.length<=2)(s:Int)(hs:0<=s/\s<m.states.length)(ys:List Val)(hy:ys.length=m.places.length)(h:∀y∈ys,EO m.letters.length y):Au (CM m) (.mk 0 (.mk s []::ys))=true:=by
 have hsz:=words_sz _ ys h
 rw[Au,decide_eq_true (by simp only[Val.size,Val.sizes];omega),Bool.true_and,CM]
 have he:∀v,EO m.letters.length v->AG (ER m) v=true:=fun v hv=>by
  obtain⟨h1,h2,h3⟩:=word_lab hv
  rcases hk with hk|hk
  ·rw[show ER m=.word (.lab m.letters.length) by simp[ER,hk]]
   simp only[AG,Bool.and_eq_true]
   exact⟨h1,h2,h3⟩
  ·rw[show ER m=.prio m.letters.length m.ranks by simp[ER,hk]]
   simp only[AG,Bool.and_eq_true]
   exact⟨h1,h2,h3⟩
 simp only[AG,Val.n,Val.kids,CF,Es,Bool.and_eq_true,decide_eq_true_eq,beq_iff_eq]
 refine⟨?_,by simp[hy],⟨decide_eq_true hs.1,decide_eq_true hs.2,by rfl⟩,words_one _ _ he _ ys hy h⟩
 first|trivial|rfl
theorem MadeL.ok{K:Int}{m:Mod}(hK:K=2∨K=3)(h:MadeL K m):m.ok:=by
 have hk:=h.kind
 have hk1:¬m.kind=1:=by omega
 have hst:1<=m.states.length/\m.states.length<=3:=by obtain⟨n,h1,h2,e⟩:=h.states;rw[e,length_take];simp only[length_cons,length_nil];omega
 have hpl:1<=m.places.length/\m.places.length<=2:=by rcases h.places with e|e<;>rw[e]<;>decide
 have hll:1<=m.letters.length/\m.letters.length<=2:=by rcases h.letters with e|e<;>rw[e]<;>decide
 have hb:∀{x a b:Int},a<=x->x<=b->A3 x a b=true:=fun h1 h2=>by simp[A3,h1,h2]
 have hget:∀r∈m.rules,MadeLR m.states.length m.places.length m.letters.length (m.rules.idxOf r) r:=fun r hr=>by
  have hi:=List.idxOf_lt_length_of_mem hr
  exact h.rules _ r (by rw[getElem?_eq_getElem hi,List.getElem_idxOf])
 have hc:=h.count
 refine⟨.inr (by omega),?_,?_,?_,?_,?_,?_,?_⟩
 ·simp only[CH,limM,if_neg hk1,Bool.and_eq_true,decide_eq_true_eq,h.levels,h.age]
  exact⟨hb (by omega) (by omega),by omega,hb (by omega) (by omega),hb (by omega) (by omega),by decide,by decide⟩
 ·have hr:=h.ranks
  rw[Cp]
  rcases hK with rfl|rfl
  ·rw[if_neg (by decide)] at hr
   rw[if_pos (by rw[hk];rfl),hr];rfl
  ·rw[if_pos rfl] at hr
   rw[if_neg (by rw[hk];decide)]
   simp only[Bool.and_eq_true,beq_iff_eq,all_eq_true]
   exact⟨by omega,fun x hx=>hb (hr.2 x hx).1 (by have:=(hr.2 x hx).2;omega)⟩
 ·have hn:=mapNameL h.count h.rules
  obtain⟨n,n1,n2,e⟩:=h.states
  rw[Ge,namesM,hn,CK]
  have:m.rules.length=0∨m.rules.length=1∨m.rules.length=2∨m.rules.length=3∨m.rules.length=4:=by omega
  rcases(show n=1∨n=2∨n=3 by omega) with rfl|rfl|rfl<;>rcases h.places with e'|e'<;>rcases h.letters with e3|e3<;>rcases this with e2|e2|e2|e2|e2<;>rw[e,e',e2,e3]<;>decide+kernel
 ·intro r hr
  rw[(hget r hr).rest]
  exact⟨Nat.zero_le _,Nat.zero_le _,Nat.zero_le _,Nat.zero_le _,Nat.zero_le _,Nat.zero_le _,Nat.zero_le _⟩
 ·intro r hr
  have hm:=hget r hr
  obtain⟨f1,f2⟩:=hm.frm
  obtain⟨t1,t2⟩:=hm.to
  have ha:=hm.act
  have hr:=hm.rest
  generalize r.name=nm at hr
  generalize r.frm=f at*
  generalize r.to=t at*
  generalize r.chan=cn at*
  generalize r.act=ac at*
  generalize r.letter=le at*
  subst hr
  rw[G8,if_neg hk1]
  simp only[Fx,BX,onlyL,mkL,Eg,Bool.and_eq_true,beq_iff_eq,decide_eq_true_eq,and_true,true_and]
  refine⟨hb (by omega) (by omega),hb (by omega) (by omega),?_⟩
  rcases ha with⟨rfl,rfl,rfl⟩|⟨h1,h2,h3⟩
  ·rfl
  ·rw[if_neg (by omega)]
   simp only[Bool.and_eq_true]
   exact⟨hb (by omega) (by omega),hb (by omega) (by omega),hb (by omega) (by omega)⟩
 ·obtain⟨ys,y1,y2,y3⟩:=h.start
  rw[y3]
  exact chan_valid m (by omega) (by omega) 0 ⟨by omega,by omega⟩ ys y1 y2
 ·obtain⟨ys,y1,y2,y3⟩:=h.start
  have:=words_sz _ ys y2
  rw[y3];simp only[Val.size,Val.sizes];omega
noncomputable abbrev fCpy06:Func:= Tryz.f40
noncomputable def cCpy06:Code:=fCpy06.body.getD .skip
abbrev stQ(n:Int)(l:List Val):St:=⟨[some [di 0,.v .nils],some [di n,.acc 1 (l.map eV)]],[(1,2,l.map eV)]⟩
theorem cpy06_loop(v:Val)(hv:v.size<=1000000)(hk:∀x∈v.kids,Ab PP 40 [dV x] σ0 (dV x) σ0)(n:Nat):∀k:Nat,v.kids.length-k=n->
  Rn PP fCpy06 0 (dV v) σ0 ([.lp (sub cCpy06 [1,1,0,1,0,0]),.blk 0,.code (sub cCpy06 [1,1,1])]++[]) (mkE 27 [(1,.v (.ref (Ad v))),(2,.ptr 0 0),(3,.ptr 1 0),(4,di k)]) (stQ v.n (v.kids.take k)):=by
 have hs:=v.size_eq
 have hl:=Val.length_le v.kids
 induction n with
 |zero=>
  intro k hn
  refine lv 27 [1] (.f .r) (decide ((k:Int)<(length (map eV v.kids):Int))=false/\D.v (V.agg [vi v.n,V.list (map eV (take k v.kids))])=dV v) ?_
  rw[take_of_length_le (by omega)]
  exact⟨decide_eq_false (by rw[length_map];omega),rfl⟩
 |succ n ih=>
  intro k hn
  obtain⟨x,hx⟩:∃x,v.kids[k]?=some x:=⟨_,getElem?_eq_getElem (show k<v.kids.length by omega)⟩
  refine lv 27 [1] (.t<|.h (.xs (Ad x))<|.c (dV x)<|.ls [ke 1,ke 2,ke 3,ch 4 (di (k+1:Nat))] (stQ v.n (v.kids.take (k+1)))) (decide ((k:Int)<(length (map eV v.kids):Int))=true/\Q 2/\0<=(k:Int)/\(map eV v.kids)[Int.toNat (k:Int)]?=some (Ad x)/\F0 40 [dV x] (dV x)/\Q (map eV (take k v.kids))/\Ar (length (map eV (take k v.kids))+length (Ad x::nV)) 32/\(True/\True)/\di (wrap i64 ((k:Int)+1))=di (↑(k+1):Int)/\[some [di 0,dn],some [di v.n,D.acc 1 (map eV (take k v.kids)++Ad x::nV)]]=[some [di 0,dn],some [di v.n,D.acc 1 (map eV (take (k+1) v.kids))]]/\[(1,2,map eV (take k v.kids)++Ad x::nV)]=[(1,2,map eV (take (k+1) v.kids))]/\I0 fCpy06 0 (dV v) σ0 [kl cCpy06 [1,1,0,1,0,0],KI.blk 0,kc cCpy06 [1,1,1]] (mkE 27 [(1,D.v (V.ref (Ad v))),(2,D.ptr 0 0),(3,D.ptr 1 0),(4,di (↑(k+1):Int))]) (stQ v.n (take (k+1) v.kids))) ?_
  have ht:v.kids.take (k+1)=v.kids.take k++[x]:=by rw[take_add_one,hx];rfl
  refine⟨decide_eq_true (by rw[length_map];omega),rfl,by omega,Az hx,hk x (mem_of_getElem? hx),rfl,⟨?_,?_⟩,⟨trivial,trivial⟩,Af (by omega),?_,?_,⟨ih (k+1) (by omega)⟩⟩
  ·simp only[length_map,length_take,length_cons,length_nil];omega
  ·simp only[length_map,length_take,length_cons,length_nil];omega
  ·rw[ht,BE]
  ·rw[ht,BE]
theorem cpy06_spec(N:Nat):∀v:Val,v.size<=N->v.size<=1000000->Ab PP 40 [dV v] σ0 (dV v) σ0:=by
 induction N with
 |zero=>intro v h;have:=v.size_pos;omega
 |succ N ih=>
  intro v hN hv
  have hs:=v.size_eq
  refine sv fCpy06 27 [1] (.h .rn<|.h (.q 2 0)<|.h (.cl 1 1 1 2)<|.ls [ke 1,ke 2,ke 3,ch 4 (di (0:Nat))] (stQ v.n [])) (di 0=di (↑0:Int)/\Q [some [di 0,dn],some [di v.n,D.acc 1 nV]]/\Q [(1,2,nV)]/\I0 fCpy06 σ0.H.length (dV v) σ0 [kl cCpy06 [1,1,0,1,0,0],KI.blk 0,kc cCpy06 [1,1,1]] (mkE 27 [(1,D.v (V.ref (Ad v))),(2,D.ptr 0 0),(3,D.ptr 1 0),(4,di (↑0:Int))]) (stQ v.n [])) ?_
  have:=cpy06_loop v hv (fun x hx=>by have:=Val.size_mem hx;exact ih x (by omega) (by omega)) _ 0 rfl
  exact⟨rfl,rfl,rfl,⟨by simpa using this⟩⟩
noncomputable abbrev fPut06:Func:= Tryz.f23
noncomputable def cPut06:Code:=fPut06.body.getD .skip
def AF(v:Val):List Val->Nat
 |[]=>0
 |x::l=>if Av x v<0 then AF v l+1 else 0
def D7(l:List Val)(v:Val):List Val:=match l[AF v l]? with
 |some x=>if (Av x v==0)=true then l else l.take (AF v l)++v::l.drop (AF v l)
 |none=>l.take (AF v l)++v::l.drop (AF v l)
theorem putI_le(v:Val):∀l:List Val,AF v l<=l.length
 |[]=>Nat.le_refl _
 |x::l=>by
  have:=putI_le v l
  unfold AF;split<;>simp only[length_cons]<;>omega
theorem putI_lt(v:Val):∀(l:List Val) (k:Nat),k<AF v l->∃x,l[k]?=some x/\Av x v<0
 |[],k,h=>by simp[AF] at h
 |x::l,k,h=>by
  unfold AF at h
  split at h
  ·rename_i hx
   cases k with
   |zero=>exact⟨x,rfl,hx⟩
   |succ k=>exact putI_lt v l k (by omega)
  ·omega
theorem putI_at(v:Val):∀(l:List Val) (x:Val),l[AF v l]?=some x->¬Av x v<0
 |[],x,h=>by simp at h
 |y::l,x,h=>by
  unfold AF at h
  split at h
  ·exact putI_at v l x (by simpa using h)
  ·rename_i hy
   simp at h;subst h;exact hy
theorem eVsz2(l:List Val):∀x∈l.map eV,x.size=2:=fun x hx=>by
 obtain⟨y,_,rfl⟩:=mem_map.1 hx
 rw[AN];rfl
theorem eVsz3(l:List Val)(i j:Nat):∀x∈ ((l.map eV).take j).drop i,x.size=2:=fun x hx=>eVsz2 l x (mem_of_mem_take (mem_of_mem_drop hx))
theorem put_end(l:List Val)(v:Val)(k:Nat):take k (l.map eV)++[Ad v]++List.drop k (l.map eV)=(l.take k++v::l.drop k).map eV:=by
 rw[←AN];simp[List.map_take,List.map_drop]
theorem put_fin(l:List Val)(v:Val)(k:Nat):D.v (V.list (List.drop 0 (take ((k:Nat):Int).toNat (l.map eV))++[Ad v]++List.drop ((k:Nat):Int).toNat (take (l.map eV).length (l.map eV))))=dVs (l.take k++v::l.drop k):=by
 rw[drop_zero,List.take_length];exact congrArg (fun z=>D.v (V.list z)) (put_end l v k)
theorem put_loop(l:List Val)(v:Val)(hl:Val.sizes l<=1000000)(hv:v.size<=1000000)(n:Nat):∀k:Nat,AF v l-k=n->k<=AF v l->
  Rn PP fPut06 0 (dVs (D7 l v)) σ0 ([.lp (sub cPut06 [1,1,0,0,0]),.blk 0,.code (sub cPut06 [1,1,1])]++[]) (mkE 46 [(0,dVs l),(3,.v (.ref (Ad v))),(5,di k)]) σ0:=by
 have hil:=putI_le v l
 have hll:=Val.length_le l
 induction n with
 |zero=>
  intro k hn hk0
  have hk:k=AF v l:=by omega
  subst hk
  cases hx:l[AF v l]? with
  |none=>
   have e1:D7 l v=l.take (AF v l)++v::l.drop (AF v l):=by rw[D7,hx]
   have hlt:l.length<=AF v l:=List.getElem?_eq_none_iff.1 hx
   rw[e1]
   refine lv 46 [3] (.f<|.k<|.f<|.k<|.a 1<|.w<|.c (dV v)<|.w<|.w<|.r) (decide ((↑(AF v l):Int)<(length (map eV l):Int))=false/\decide ((↑(AF v l):Int)<(length (map eV l):Int))=false/\(∀(x:V),x∈map eV l->V.size x=2)/\0<=(fun x=>x.snd) (i64,(↑(AF v l):Int))/\(fun x=>x.snd) (i64,(↑(AF v l):Int))<=(length (map eV l):Int)/\Ar (length (List.drop 0 (take (Int.toNat ((fun x=>x.snd) (i64,(↑(AF v l):Int)))) (map eV l)))) 32/\(∀(y:V),y∈List.drop 0 (take (Int.toNat ((fun x=>x.snd) (i64,(↑(AF v l):Int)))) (map eV l))->V.size y=2)/\F0 40 [dV v] (dV v)/\Q (List.drop 0 (take (Int.toNat ((fun x=>x.snd) (i64,(↑(AF v l):Int)))) (map eV l)))/\Ar (length (List.drop 0 (take (Int.toNat ((fun x=>x.snd) (i64,(↑(AF v l):Int)))) (map eV l)))+length (Ad v::nV)) 32/\(∀(y:V),y∈ [Ad v]->V.size y=2)/\(∀(x:V),x∈map eV l->V.size x=2)/\0<=(fun x=>x.snd) (i64,(↑(AF v l):Int))/\(fun x=>x.snd) (i64,(↑(AF v l):Int))<=(length (map eV l):Int)/\Q (List.drop 0 (take (Int.toNat ((fun x=>x.snd) (i64,(↑(AF v l):Int)))) (map eV l))++Ad v::nV)/\Ar (length (List.drop 0 (take (Int.toNat ((fun x=>x.snd) (i64,(↑(AF v l):Int)))) (map eV l))++Ad v::nV)+length (List.drop (Int.toNat ((fun x=>x.snd) (i64,(↑(AF v l):Int)))) (take (length (map eV l)) (map eV l)))) 32/\(∀(y:V),y∈List.drop (Int.toNat ((fun x=>x.snd) (i64,(↑(AF v l):Int)))) (take (length (map eV l)) (map eV l))->V.size y=2)/\D.v (V.list (List.drop 0 (take (Int.toNat ((fun x=>x.snd) (i64,(↑(AF v l):Int)))) (map eV l))++[Ad v]++List.drop (Int.toNat ((fun x=>x.snd) (i64,(↑(AF v l):Int)))) (take (length (map eV l)) (map eV l))))=dVs (take (AF v l) l++v::List.drop (AF v l) l)) ?_
   have z0:(0:Int)<=(AF v l:Int):=by omega
   have z1:(AF v l:Int)<=((l.map eV).length:Int):=by rw[length_map];omega
   have z2:∀y∈ [Ad v],y.size=2:=fun y hy=>by rw[mem_singleton.1 hy];rfl
   repeat' first|with_reducible refine And.intro ?_ ?_
   all_goals first|exact decide_eq_false (by rw[length_map];omega)|exact eVsz2 l|exact eVsz3 l _ _|exact z2|exact cpy06_spec _ v (Nat.le_refl _) hv|exact z0|exact z1|exact Nat.zero_le _|rfl|(simp only[length_append,length_drop,length_take,length_map,length_cons,length_nil];omega)|exact put_fin l v _
  |some x=>
   have hlt:=(List.getElem?_eq_some_iff.1 hx).1
   have hc:=putI_at v l x hx
   have hsz:=Val.size_mem (mem_of_getElem? hx)
   have z0':(0:Int)<=(AF v l:Int):=by omega
   by_cases he:(Av x v==0)=true
   ·have e1:D7 l v=l:=by rw[D7,hx];simp only[he,if_true]
    rw[e1]
    refine lv 46 [3] (.t<|.h (.xs (Ad x))<|.c (di (Av x v))<|.f<|.t<|.h (.xs (Ad x))<|.c (db (Av x v==0))<|.t<|.r) (decide ((↑(AF v l):Int)<(length (map eV l):Int))=true/\Q 2/\0<=(↑(AF v l):Int)/\(map eV l)[Int.toNat (↑(AF v l):Int)]?=some (Ad x)/\F0 38 [dV x,dV v] (di (Av x v))/\decide (Av x v<0)=false/\decide ((↑(AF v l):Int)<(length (map eV l):Int))=true/\Q 2/\0<=(↑(AF v l):Int)/\(map eV l)[Int.toNat (↑(AF v l):Int)]?=some (Ad x)/\F0 39 [dV x,dV v] (db (Av x v==0))/\(Av x v==0)=true/\dVs l=dVs l) ?_
    exact⟨decide_eq_true (by rw[length_map];omega),rfl,z0',Az hx,Gk _ x v (Nat.le_refl _) (by omega),decide_eq_false hc,decide_eq_true (by rw[length_map];omega),rfl,z0',Az hx,sam06_spec x v (by omega),he,rfl⟩
   ·have e1:D7 l v=l.take (AF v l)++v::l.drop (AF v l):=by rw[D7,hx];simp only[he];rfl
    have he2:(Av x v==0)=false:=by simpa using he
    rw[e1]
    refine lv 46 [3] (.t<|.h (.xs (Ad x))<|.c (di (Av x v))<|.f<|.t<|.h (.xs (Ad x))<|.c (db (Av x v==0))<|.f<|.a 1<|.w<|.c (dV v)<|.w<|.w<|.r) (decide ((↑(AF v l):Int)<(length (map eV l):Int))=true/\Q 2/\0<=(↑(AF v l):Int)/\(map eV l)[Int.toNat (↑(AF v l):Int)]?=some (Ad x)/\F0 38 [dV x,dV v] (di (Av x v))/\decide (Av x v<0)=false/\decide ((↑(AF v l):Int)<(length (map eV l):Int))=true/\Q 2/\0<=(↑(AF v l):Int)/\(map eV l)[Int.toNat (↑(AF v l):Int)]?=some (Ad x)/\F0 39 [dV x,dV v] (db (Av x v==0))/\(Av x v==0)=false/\(∀(x:V),x∈map eV l->V.size x=2)/\0<=(fun x=>x.snd) (i64,(↑(AF v l):Int))/\(fun x=>x.snd) (i64,(↑(AF v l):Int))<=(length (map eV l):Int)/\Ar (length (List.drop 0 (take (Int.toNat ((fun x=>x.snd) (i64,(↑(AF v l):Int)))) (map eV l)))) 32/\(∀(y:V),y∈List.drop 0 (take (Int.toNat ((fun x=>x.snd) (i64,(↑(AF v l):Int)))) (map eV l))->V.size y=2)/\F0 40 [dV v] (dV v)/\Q (List.drop 0 (take (Int.toNat ((fun x=>x.snd) (i64,(↑(AF v l):Int)))) (map eV l)))/\Ar (length (List.drop 0 (take (Int.toNat ((fun x=>x.snd) (i64,(↑(AF v l):Int)))) (map eV l)))+length (Ad v::nV)) 32/\(∀(y:V),y∈ [Ad v]->V.size y=2)/\(∀(x:V),x∈map eV l->V.size x=2)/\0<=(fun x=>x.snd) (i64,(↑(AF v l):Int))/\(fun x=>x.snd) (i64,(↑(AF v l):Int))<=(length (map eV l):Int)/\Q (List.drop 0 (take (Int.toNat ((fun x=>x.snd) (i64,(↑(AF v l):Int)))) (map eV l))++Ad v::nV)/\Ar (length (List.drop 0 (take (Int.toNat ((fun x=>x.snd) (i64,(↑(AF v l):Int)))) (map eV l))++Ad v::nV)+length (List.drop (Int.toNat ((fun x=>x.snd) (i64,(↑(AF v l):Int)))) (take (length (map eV l)) (map eV l)))) 32/\(∀(y:V),y∈List.drop (Int.toNat ((fun x=>x.snd) (i64,(↑(AF v l):Int)))) (take (length (map eV l)) (map eV l))->V.size y=2)/\D.v (V.list (List.drop 0 (take (Int.toNat ((fun x=>x.snd) (i64,(↑(AF v l):Int)))) (map eV l))++[Ad v]++List.drop (Int.toNat ((fun x=>x.snd) (i64,(↑(AF v l):Int)))) (take (length (map eV l)) (map eV l))))=dVs (take (AF v l) l++v::List.drop (AF v l) l)) ?_
    have z0:(0:Int)<=(AF v l:Int):=by omega
    have z1:(AF v l:Int)<=((l.map eV).length:Int):=by rw[length_map];omega
    have z2:∀y∈ [Ad v],y.size=2:=fun y hy=>by rw[mem_singleton.1 hy];rfl
    repeat' first|with_reducible refine And.intro ?_ ?_
    all_goals first|exact decide_eq_true (by rw[length_map];omega)|exact Az hx|exact Gk _ x v (Nat.le_refl _) (by omega)|exact decide_eq_false hc|exact sam06_spec x v (by omega)|exact he2|exact eVsz2 l|exact eVsz3 l _ _|exact z2|exact cpy06_spec _ v (Nat.le_refl _) hv|exact z0|exact z1|exact Nat.zero_le _|rfl|(simp only[length_append,length_drop,length_take,length_map,length_cons,length_nil];omega)|exact put_fin l v _
 |succ n ih=>
  intro k hn hk0
  obtain⟨x,hx,hc⟩:=putI_lt v l k (by omega)
  have hlt:=(List.getElem?_eq_some_iff.1 hx).1
  have hsz:=Val.size_mem (mem_of_getElem? hx)
  refine lv 46 [3] (.t<|.h (.xs (Ad x))<|.c (di (Av x v))<|.t<|.l [ke 0,ke 3,ch 5 (di (k+1:Nat))]) (decide ((k:Int)<(length (map eV l):Int))=true/\Q 2/\0<=(k:Int)/\(map eV l)[Int.toNat (k:Int)]?=some (Ad x)/\F0 38 [dV x,dV v] (di (Av x v))/\decide (Av x v<0)=true/\di (wrap i64 ((k:Int)+1))=di (↑(k+1):Int)/\I0 fPut06 0 (dVs (D7 l v)) σ0 [kl cPut06 [1,1,0,0,0],KI.blk 0,kc cPut06 [1,1,1]] (mkE 46 [(0,dVs l),(3,D.v (V.ref (Ad v))),(5,di (↑(k+1):Int))]) (St.mk [] [])) ?_
  exact⟨decide_eq_true (by rw[length_map];omega),rfl,by omega,Az hx,Gk _ x v (Nat.le_refl _) (by omega),decide_eq_true hc,Af (by omega),⟨ih (k+1) (by omega) (by omega)⟩⟩
theorem put_spec(l:List Val)(v:Val)(hl:Val.sizes l<=1000000)(hv:v.size<=1000000):Ab PP 23 [dVs l,dV v] σ0 (dVs (D7 l v)) σ0:=by
 refine sv fPut06 46 [3] (.l [ke 0,ke 3,ch 5 (di (0:Nat))]) (di 0=di (↑0:Int)/\I0 fPut06 σ0.H.length (dVs (D7 l v)) σ0 [kl cPut06 [1,1,0,0,0],KI.blk 0,kc cPut06 [1,1,1]] (mkE 46 [(0,dVs l),(3,D.v (V.ref (Ad v))),(5,di (↑0:Int))]) σ0) ?_
 exact⟨rfl,⟨put_loop l v hl hv _ 0 rfl (Nat.zero_le _)⟩⟩
def TokV(np age:Int)(v:Val):Prop:=∃p g:Int,(0<=p/\p<np)/\(0<=g/\g<age+2)/\v=.mk 0 [.mk p [],.mk g []]
structure TokL(np age:Int)(n:Nat)(ts:List Val):Prop where
 tok:∀t∈ts,TokV np age t
 len:ts.length<=n
 asc:∀i x y,ts[i]?=some x->ts[i+1]?=some y->Av x y<0
theorem TokV.sz{np age:Int}{v:Val}(h:TokV np age v):v.size=3:=by
 obtain⟨p,g,_,_,rfl⟩:=h;rfl
theorem toks_sz{np age:Int}:∀(ts:List Val),(∀t∈ts,TokV np age t)->Val.sizes ts=3*ts.length
 |[],_=>rfl
 |t::ts,h=>by
  have h1:=(h t (by simp)).sz
  have h2:=toks_sz ts fun z hz=>h z (by simp[hz])
  simp only[Val.sizes,length_cons];omega
theorem asc1{np age:Int}{v:Val}(h:TokV np age v):TokL np age 1 [v]:=⟨fun t ht=>by rw[mem_singleton.1 ht];exact h,by simp,fun i x y _ hy=>by simp at hy⟩
theorem put_two{np age:Int}{ts:List Val}{v:Val}(h:TokL np age 1 ts)(hv:TokV np age v):TokL np age 2 (D7 ts v):=by
 match ts,h with
 |[],_=>exact⟨(asc1 hv).tok,by simp[D7,AF],(asc1 hv).asc⟩
 |[x],h=>
  have hx:=h.tok x (by simp)
  by_cases hc:Av x v<0
  ·have e:D7 [x] v=[x,v]:=by simp[D7,AF,hc]
   rw[e]
   refine⟨fun t ht=>?_,by simp,fun i a b ha hb=>?_⟩
   ·rcases mem_cons.1 ht with rfl|ht
    ·exact hx
    ·rw[mem_singleton.1 ht];exact hv
   ·match i,ha,hb with
    |0,ha,hb=>simp at ha hb;subst ha hb;exact hc
    |i+1,_,hb=>simp at hb
  ·by_cases he:(Av x v==0)=true
   ·have e:D7 [x] v=[x]:=by simp only[D7,AF,hc,if_false,List.getElem?_cons_zero,he,if_true]
    rw[e]
    exact⟨h.tok,by simp,fun i a b ha hb=>by simp at hb⟩
   ·have e:D7 [x] v=[v,x]:=by simp only[D7,AF,hc,if_false,List.getElem?_cons_zero,he];rfl
    rw[e]
    refine⟨fun t ht=>?_,by simp,fun i a b ha hb=>?_⟩
    ·rcases mem_cons.1 ht with rfl|ht
     ·exact hv
     ·rw[mem_singleton.1 ht];exact hx
    ·match i,ha,hb with
     |0,ha,hb=>
      simp at ha hb;subst ha hb
      have:=(B4.swap v x trivial trivial).2
      have he:Av x v≠0:=by simpa using he
      exact this (by omega)
     |i+1,_,hb=>simp at hb
 |_::_::_,h=>exact absurd h.len (by simp)
noncomputable abbrev fBag:Func:= Tryz.f17
noncomputable def G2:Code:=fBag.body.getD .skip
abbrev Hu(l:List UInt8)(a:Nat):St:=⟨[some (cDz l a),some [di 0,.v .nils]],[]⟩
theorem bag_step(l:List UInt8)(hl:l.length<=200)(m:Mod)(hpl:1<=m.places.length/\m.places.length<=2)(hag:0<=m.age/\m.age<=3)(k:Nat)(hk:k<=2)(a:Nat)(ha:a<=l.length)(ts:List Val)(hts:Val.sizes ts<=1000):
  ∃(t:Val) (a':Nat),TokV m.places.length m.age t/\a'<=l.length/\∀(d:D) (σ':St),Rn PP fBag 1 d σ' ([.lp (sub G2 [1,1,0,1,0,0]),.blk 0,.code (sub G2 [1,1,1])]++[]) (mkE 43 [(0,.ptr 0 0),(4,.v (.ref (AE m))),(6,.ptr 1 0),(7,dVs (D7 ts t)),(8,di k)]) (Hu l a')->
   Rn PP fBag 1 d σ' ([.lp (sub G2 [1,1,0,1,0,0]),.blk 0,.code (sub G2 [1,1,1])]++[]) (mkE 43 [(0,.ptr 0 0),(4,.v (.ref (AE m))),(6,.ptr 1 0),(7,dVs ts),(8,di (k+1:Nat))]) (Hu l a):=by
 obtain⟨p,a1,p1,p2,p3,p4⟩:=Aw l hl a ha m.places.length (by omega) (by omega)
 obtain⟨g,a2,q1,q2,q3,q4⟩:=Aw l hl a1 p3 (m.age+2) (by omega) (by omega)
 obtain⟨t,ht⟩:∃t:Val,t=.mk 0 [.mk p [],.mk g []]:=⟨_,rfl⟩
 refine⟨t,a2,⟨p,g,⟨p1,p2⟩,⟨q1,q2⟩,ht⟩,q3,fun d σ' hrn=>?_⟩
 refine lv 43 [4] (.t<|.c1 (cDz l a1) (di p)<|.c1 (cDz l a2) (di g)<|.c (dVs (D7 ts t))<|.ls [ke 0,ke 4,ke 6,ch 7 (dVs (D7 ts t)),ch 8 (di k)] (Hu l a2)) (decide ((↑(k+1):Int)>0)=true/\Ab PP 8 [D.ptr 0 0,di (length (map V.str m.places):Int)] (dz l a) (di p) (dz l a1)/\Ab PP 8 [D.ptr 0 0,di (wrap i64 (m.age+2))] (dz l a1) (di g) (dz l a2)/\F0 23 [dVs ts,D.v (V.agg [vi 0,V.list [V.agg [vi p,V.list []],V.agg [vi g,V.list []]]])] (dVs (D7 ts t))/\Q (dVs (D7 ts t))/\di (wrap i64 ((↑(k+1):Int)-1))=di (k:Int)/\Q [some (cDz l a2),some [di 0,dn]]/\I0 fBag 1 d σ' [kl G2 [1,1,0,1,0,0],KI.blk 0,kc G2 [1,1,1]] (mkE 43 [(0,D.ptr 0 0),(4,D.v (V.ref (AE m))),(6,D.ptr 1 0),(7,dVs (D7 ts t)),(8,di (k:Int))]) (Hu l a2)) ?_
 rw[show wrap i64 (m.age+2)=m.age+2 from Aj (by omega) (by omega),show wrap i64 ((k+1:Nat)-1:Int)=(k:Int) from by rw[Aj (by omega) (by omega)];omega]
 refine⟨decide_eq_true (by omega),by rw[length_map];exact p4,q4,?_,rfl,rfl,rfl,⟨hrn⟩⟩
 subst ht
 exact put_spec ts (.mk 0 [.mk p [],.mk g []]) (by omega) (by show 3<=1000000;decide)
theorem bag_end(l:List UInt8)(hl:l.length<=200)(m:Mod)(hst:1<=m.states.length/\m.states.length<=3)(a:Nat)(ha:a<=l.length)(ts:List Val):
  ∃(s:Int) (a':Nat),(0<=s/\s<m.states.length)/\a'<=l.length/\Rn PP fBag 1 (dV (.mk 0 [.mk s [],.mk 0 ts])) (dz l a') ([.lp (sub G2 [1,1,0,1,0,0]),.blk 0,.code (sub G2 [1,1,1])]++[]) (mkE 43 [(0,.ptr 0 0),(4,.v (.ref (AE m))),(6,.ptr 1 0),(7,dVs ts),(8,di (0:Nat))]) (Hu l a):=by
 obtain⟨s,a1,p1,p2,p3,p4⟩:=Aw l hl a ha m.states.length (by omega) (by omega)
 refine⟨s,a1,⟨p1,p2⟩,p3,?_⟩
 refine lv 43 [4] (.f<|.c1 (cDz l a1) (di s) .r) (decide ((↑0:Int)>0)=false/\Ab PP 8 [D.ptr 0 0,di (length (map V.str m.states):Int)] (dz l a) (di s) (dz l a1)/\Q [some (cDz l a1)]/\D.v (V.agg [vi 0,V.list [V.agg [vi s,V.list []],V.agg [vi 0,vVs ts]]])=dV (Val.mk 0 [Val.mk s [],Val.mk 0 ts])) ?_
 refine⟨by decide,by rw[length_map];exact p4,rfl,?_⟩
 show D.v (V.agg [vi 0,V.list [Ad (.mk s []),Ad (.mk 0 ts)]])=_
 rw[←AN, ←AN];rfl
theorem slV:BJ PP 29=some (31,2,32,some (.agg #[.int .i64 0,.slice none 0 0])):=by kernel_rfl
theorem bag_lit{o:Oper}{σ:St}(ho:o.op=.buildSlice 29 2 #[(0,.tmp 38),(1,.tmp 40)])(x y:Val):Ai PP o [.v (Ad x),.v (Ad y)] σ (.gro σ.H.length 2 2) ⟨σ.H++[some (Aa [Ad x,Ad y])],σ.own⟩:=
 op_buildSliceO ho (by rfl) rfl slV rfl (ds:=[.v (Ad x),.v (Ad y)]) (xs:=[Ad x,Ad y]) rfl (fun z hz=>by simp at hz;rcases hz with rfl|rfl<;>rfl) (by decide) (by decide) (by decide)
theorem bag_endO(l:List UInt8)(hl:l.length<=200)(m:Mod)(hst:1<=m.states.length/\m.states.length<=3)(a:Nat)(ha:a<=l.length)(ts:List Val):
  ∃(s:Int) (a':Nat),(0<=s/\s<m.states.length)/\a'<=l.length/\Rn PP fBag 1 (.dagg [di 0,.gro 2 2 2]) ⟨[some (cDz l a'),some [di 0,.gro 2 2 2],some (Aa [Ad (.mk s []),Ad (.mk 0 ts)])],[]⟩ ([.lp (sub G2 [1,1,0,1,0,0]),.blk 0,.code (sub G2 [1,1,1])]++[]) (mkE 43 [(0,.ptr 0 0),(4,.v (.ref (AE m))),(6,.ptr 1 0),(7,dVs ts),(8,di (0:Nat))]) (Hu l a):=by
 obtain⟨s,a1,p1,p2,p3,p4⟩:=Aw l hl a ha m.states.length (by omega) (by omega)
 refine⟨s,a1,⟨p1,p2⟩,p3,?_⟩
 refine lv 43 [4] (.f<|.c1 (cDz l a1) (di s)<|.h (.q 6 8)<|.h (.o (.gro 2 2 2) ⟨[some (cDz l a1),some [di 0,.v .nils],some (Aa [Ad (.mk s []),Ad (.mk 0 ts)])],[]⟩)<|.h .g<|.h .ww<|.rd) (decide ((↑0:Int)>0)=false/\Ab PP 8 [D.ptr 0 0,di (length (map V.str m.states):Int)] (dz l a) (di s) (dz l a1)/\Ai PP (Oper.mk (some 41) (Op.buildSlice 29 2 #[(0,Operand.tmp 38),(1,Operand.tmp 40)]) 29 "play.go:141" #[Edge.mk 5 Ground.data,Edge.mk 7 Ground.data] none) [D.v (V.agg [vi s,V.list []]),D.v (V.agg [vi 0,vVs ts])] (St.mk [some (cDz l a1),some [di 0,dn]] []) (D.gro 2 2 2) (St.mk [some (cDz l a1),some [di 0,dn],some [di (Val.n (Val.mk s [])),D.v (vVs (Val.kids (Val.mk s []))),di (Val.n (Val.mk 0 ts)),D.v (vVs (Val.kids (Val.mk 0 ts)))]] [])/\2<=2/\Q [some (cDz l a1),some [di 0,D.gro 2 2 2],some [di (Val.n (Val.mk s [])),D.v (vVs (Val.kids (Val.mk s []))),di (Val.n (Val.mk 0 ts)),D.v (vVs (Val.kids (Val.mk 0 ts)))]]/\Q (D.dagg [di 0,D.gro 2 2 2])) ?_
 exact⟨by decide,by rw[length_map];exact p4,bag_lit (σ:=⟨[some (cDz l a1),some [di 0,.v .nils]],[]⟩) rfl (.mk s []) (.mk 0 ts),by decide,rfl,rfl⟩
theorem cv_nl{σ:St}{t:Nat}(e:List D)(he:e[t]?=some (.v .nils)):Cv e σ (e.set t (.v (.list []))) σ:=fun E g a w hf=>by
 obtain⟨u,hu,hr⟩:=B0 hf.env he
 refine⟨g,hf.wi,?_,hf.defers⟩
 have:=Cu hf.env t (d:=.v (.list [])) (u:=u) (E1 hr)
 rwa[Dm hu] at this
theorem bag_toks(l:List UInt8)(hl:l.length<=200)(m:Mod)(hpl:1<=m.places.length/\m.places.length<=2)(hag:0<=m.age/\m.age<=3)(a:Nat)(ha:a<=l.length)(r:Nat)(hr:r<=2):
  ∃(ts:List Val) (a':Nat),TokL m.places.length m.age 2 ts/\a'<=l.length/\∀(d:D) (σ':St),Rn PP fBag 1 d σ' ([.lp (sub G2 [1,1,0,1,0,0]),.blk 0,.code (sub G2 [1,1,1])]++[]) (mkE 43 [(0,.ptr 0 0),(4,.v (.ref (AE m))),(6,.ptr 1 0),(7,dVs ts),(8,di (0:Nat))]) (Hu l a')->
   Rn PP fBag 1 d σ' ([.lp (sub G2 [1,1,0,1,0,0]),.blk 0,.code (sub G2 [1,1,1])]++[]) (mkE 43 [(0,.ptr 0 0),(4,.v (.ref (AE m))),(6,.ptr 1 0),(7,dVs []),(8,di (r:Nat))]) (Hu l a):=by
 rcases(show r=0∨r=1∨r=2 by omega) with rfl|rfl|rfl
 ·exact⟨[],a,⟨fun t ht=>by simp at ht,by simp,fun i x y hx=>by simp at hx⟩,ha,fun d σ' h=>h⟩
 ·obtain⟨t,a1,h1,h2,h3⟩:=bag_step l hl m hpl hag 0 (by omega) a ha [] (by decide)
  exact⟨D7 [] t,a1,⟨(asc1 h1).tok,by simp[D7,AF],(asc1 h1).asc⟩,h2,h3⟩
 ·obtain⟨t,a1,h1,h2,h3⟩:=bag_step l hl m hpl hag 1 (by omega) a ha [] (by decide)
  obtain⟨t2,a2,h4,h5,h6⟩:=bag_step l hl m hpl hag 0 (by omega) a1 h2 [t] (by simp only[Val.sizes,h1.sz];decide)
  exact⟨D7 [t] t2,a2,put_two (asc1 h1) h4,h5,fun d σ' h=>h3 d σ' (h6 d σ' h)⟩
theorem bag_ex(l:List UInt8)(hl:l.length<=200)(m:Mod)(hst:1<=m.states.length/\m.states.length<=3)(hpl:1<=m.places.length/\m.places.length<=2)(hag:0<=m.age/\m.age<=3)(a:Nat)(ha:a<=l.length):
  ∃(s:Int) (ts:List Val) (a':Nat),(0<=s/\s<m.states.length)/\TokL m.places.length m.age 2 ts/\a'<=l.length/\Ab PP 17 [.ptr 0 0,Ah m,di 2] (dz l a) (dV (.mk 0 [.mk s [],.mk 0 ts])) (dz l a'):=by
 obtain⟨r,a1,p1,p2,p3,p4⟩:=Aw l hl a ha 3 (by decide) (by decide)
 obtain⟨r,rfl⟩:∃n:Nat,r=n:=⟨r.toNat,by omega⟩
 obtain⟨ts,a2,h1,h2,h3⟩:=bag_toks l hl m hpl hag a1 p3 r (by omega)
 obtain⟨s,a3,h4,h5,h6⟩:=bag_end l hl m hst a2 h2 ts
 refine⟨s,ts,a3,h4,h1,h5,?_⟩
 have hrn:=h3 _ _ h6
 refine sv fBag 43 [4] (.h (.q 2 0)<|.h (.ct 7 (dVs []) (Hu l a))<|.c1 (cDz l a1) (di r)<|.ls [ke 0,ke 4,ke 6,ch 7 (dVs []),ch 8 (di r)] (Hu l a1)) ((∀(e:List D),e[7]?=some (dn)->∀(E:Ent) (g:Gh) (a_2:Act) (w:World),FI E g (St.mk [some (cDz l a),some [D.v (V.int i64 0),dn]] (dz l a).own) e a_2 w->∃g',FI E g' (Hu l a) (List.set e 7 (dVs [])) a_2 w)/\Ab PP 8 [D.ptr 0 0,di (wrap i64 (2+1))] (dz l a) (di (r:Int)) (dz l a1)/\Q (dVs [])/\Q (di (r:Int))/\Q [some (cDz l a1),some [di 0,dn]]/\I0 fBag (length (dz l a).H) (dV (Val.mk 0 [Val.mk s [],Val.mk 0 ts])) (dz l a3) [kl G2 [1,1,0,1,0,0],KI.blk 0,kc G2 [1,1,1]] (mkE 43 [(0,D.ptr 0 0),(4,D.v (V.ref (AE m))),(6,D.ptr 1 0),(7,dVs []),(8,di (r:Int))]) (Hu l a1)) ?_
 have w3:wrap i64 (2+1)=3:=by decide
 rw[w3]
 exact⟨fun e he=>cv_nl e he,p4,rfl,rfl,rfl,⟨hrn⟩⟩
theorem bag_exO(l:List UInt8)(hl:l.length<=200)(m:Mod)(hst:1<=m.states.length/\m.states.length<=3)(hpl:1<=m.places.length/\m.places.length<=2)(hag:0<=m.age/\m.age<=3)(a:Nat)(ha:a<=l.length):
  ∃(s:Int) (ts:List Val) (a':Nat),(0<=s/\s<m.states.length)/\TokL m.places.length m.age 2 ts/\a'<=l.length/\Ab PP 17 [.ptr 0 0,Ah m,di 2] (dz l a) (.dagg [di 0,.arr 1 0 2]) ⟨[some (cDz l a'),some [di s,dVs [],di 0,dVs ts]],[]⟩:=by
 obtain⟨r,a1,p1,p2,p3,p4⟩:=Aw l hl a ha 3 (by decide) (by decide)
 obtain⟨r,rfl⟩:∃n:Nat,r=n:=⟨r.toNat,by omega⟩
 obtain⟨ts,a2,h1,h2,h3⟩:=bag_toks l hl m hpl hag a1 p3 r (by omega)
 obtain⟨s,a3,h4,h5,h6⟩:=bag_endO l hl m hst a2 h2 ts
 refine⟨s,ts,a3,h4,h1,h5,?_⟩
 have hrn:=h3 _ _ h6
 refine spec_sel (c1:=[di 0]) (c2:=[]) (T:=[some [di 0,.gro 2 2 2],some (Aa [Ad (.mk s []),Ad (.mk 0 ts)])]) (q:=1) (sz:=2) rfl rfl rfl rfl rfl ?_
 refine sv fBag 43 [4] (.h (.q 2 0)<|.h (.ct 7 (dVs []) (Hu l a))<|.c1 (cDz l a1) (di r)<|.ls [ke 0,ke 4,ke 6,ch 7 (dVs []),ch 8 (di r)] (Hu l a1)) ((∀(e:List D),e[7]?=some (dn)->∀(E:Ent) (g:Gh) (a_2:Act) (w:World),FI E g (St.mk [some (cDz l a),some [D.v (V.int i64 0),dn]] (dz l a).own) e a_2 w->∃g',FI E g' (Hu l a) (List.set e 7 (dVs [])) a_2 w)/\Ab PP 8 [D.ptr 0 0,di (wrap i64 (2+1))] (dz l a) (di (r:Int)) (dz l a1)/\Q (dVs [])/\Q (di (r:Int))/\Q [some (cDz l a1),some [di 0,dn]]/\I0 fBag (length (dz l a).H) (D.dagg ([di 0]++[D.gro (1+1) 2 2])) (St.mk [some (cDz l a3),some [di 0,D.gro 2 2 2],some (Aa [Ad (Val.mk s []),Ad (Val.mk 0 ts)])] []) [kl G2 [1,1,0,1,0,0],KI.blk 0,kc G2 [1,1,1]] (mkE 43 [(0,D.ptr 0 0),(4,D.v (V.ref (AE m))),(6,D.ptr 1 0),(7,dVs []),(8,di (r:Int))]) (Hu l a1)) ?_
 have w3:wrap i64 (2+1)=3:=by decide
 rw[w3]
 exact⟨fun e he=>cv_nl e he,p4,rfl,rfl,rfl,⟨hrn⟩⟩
end Go.Proofs.YtcjhkglbdahfgaaGreat
