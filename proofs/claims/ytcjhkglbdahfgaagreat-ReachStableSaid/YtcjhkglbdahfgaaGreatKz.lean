/-
  A part of the proof.
-/
import Derived.Test.YtcjhkglbdahfgaaGreatEl
namespace Go.Proofs.YtcjhkglbdahfgaaGreat
open Go.Dv Go.Nv
set_option maxRecDepth 20000
open List (all_eq_true append_assoc append_nil cons_append drop_eq_getElem_cons drop_of_length_le drop_zero ext_getElem? flatMap_cons flatten flatten_cons foldl_cons getD_eq_getElem?_getD getElem?_append_left getElem?_append_right getElem?_drop getElem?_eq_getElem getElem?_eq_none getElem?_map getElem?_set getElem?_take getElem?_toArray length length_append length_cons length_drop length_map length_nil length_pos_iff length_set length_take map map_append map_cons map_map map_nil mem_append mem_cons mem_map mem_of_getElem? mem_of_mem_drop mem_of_mem_take mem_or_eq_of_mem_set mem_singleton nil_append not_mem_nil replicate replicate_succ set_cons_succ set_cons_zero size_toArray take take_add_one take_append_drop take_left take_of_length_le take_succ_cons zipWith)
open Go.IntKind (wrap i64 u64)
theorem op_new(s:List UInt8){o:Oper}{c:Call}{fo:Operand}(ho:o.op=.call c)(hc:c.callee=.value fo):Ai PP o [.v (.fn 5 [] []),.v (vBs s)] σ0 (.ptr 0 0) (dz (s.take 200) 0):=by
 have:=Cr (σ:=σ0) ho hc (fD:=.v (.fn 5 [] [])) rfl (ds:=[.v (vBs s)]) [] id (new_spec s) (.cons (.ren (dc:=.v (vBs s)) rfl) .nil) .nil (by simp) rfl (by simp) (by simp) rfl (by rfl)
 simp[F1,Cy,EE,D.ren,D.rens,rho] at this
 exact this
noncomputable abbrev fStb:Func:= Tryz.f3
theorem stable_spec(s:List UInt8)(b:Int)(hb:0<=b/\b<256):Ab PP 3 [.v (vBs s),.v (.int .u8 b)] σ0 (db true) σ0:=by
 obtain⟨l,hl⟩:∃l,l=s.take 200:=⟨_,rfl⟩
 have hll:l.length<=200:=by rw[hl,length_take];omega
 have hnew:=fun(o:Oper) (c:Call) (fo:Operand) (ho:o.op=.call c) (hc:c.callee=.value fo)=>hl▸op_new s ho hc
 obtain⟨m,a1,hmk,m2,m3⟩:=any_ex l hll 0 (Nat.zero_le _)
 obtain⟨c,a2,hc,c2,c3⟩:=hmk.cfg_ex l hll a1 m2
 obtain⟨r,a3,r1,r2,r3,r4⟩:=Aw l hll a2 c2 10 (by decide) (by decide)
 obtain⟨n,rfl⟩:∃n:Nat,r=n:=⟨r.toNat,by omega⟩
 obtain⟨t,C,S,X,hm⟩:=hmk.mdl hc
 have hd1:=dcdG_spec hm n (by omega)
 obtain⟨k,hk⟩:∃k:Nat,(k:Int)=Int.tmod (i64.wrap b) 10/\k<10:=by
  rw[Aj (by omega) (by omega)]
  refine⟨(b.tmod 10).toNat,?_,?_⟩<;>(have:=Int.tmod_lt_of_pos b (show(0:Int)<10 by decide);have:=Int.tmod_nonneg 10 hb.1;omega)
 have hd2:=dcdG_spec hm (n+k) (by omega)
 have hmo:=decG_more m S X c k n (AX m) (An 0)
 have hvb:=decG_b hm n 0 _ _ (hntG_ok hm) (DG.open 0)
 generalize G1 m S X c n (AX m) (An 0)=p at*
 generalize G1 m S X c (n+k) (AX m) (An 0)=q at*
 obtain⟨v,e⟩:=p
 obtain⟨v2,e2⟩:=q
 dsimp only at hd1 hmo hvb
 have hkn:i64.wrap ((n:Int)+Int.tmod (i64.wrap b) 10)=((n+k:Nat):Int):=by rw[←hk.1,Aj (by omega) (by omega)];omega
 by_cases he:(e !=0)=true
 ·refine sv fStb 58 [] (.c (db true)<|.h (.oc (.ptr 0 0) (dz l 0))<|.c1 (cDz l a1) (Ah m)<|.c1 (cDz l a2) (dV c)<|.c1 (cDz l a3) (di n)<|.c (Di (v,e))<|.c (Di (v2,e2))<|.t .r) (F0 4 [] (db true)/\(∀(o:Oper) (c:Call) (fo:Operand),o.op=Op.call c->c.callee=Callee.value fo->Ai PP o [D.v (V.fn 5 [] []),D.v (vBs s)] σ0 (D.ptr 0 0) (dz l 0))/\Ab PP 6 [D.ptr 0 0] (St.mk [some (cDz l 0)] []) (Ah m) (dz l a1)/\Ab PP 7 [D.ptr 0 0,Ah m] (dz l a1) (dV c) (dz l a2)/\Ab PP 8 [D.ptr 0 0,di 10] (dz l a2) (di (n:Int)) (dz l a3)/\F0 9 [Ah m,dV c,di (n:Int)] (Di (v,e))/\iz 10≠0/\F0 9 [Ah m,dV c,di (wrap i64 ((n:Int)+Int.tmod (wrap i64 b) 10))] (Di (v2,e2))/\((v,e).snd !=0)=true/\Q (db true)) ?_
  exact⟨sane_spec,hnew,m3,c3,r4,hd1,by decide,by rw[hkn];exact hd2,he,rfl⟩
 ·have he2:e=0:=by simpa using he
  subst he2
  cases h1:v.decided with
  |false=>
   refine sv fStb 58 [] (.c (db true)<|.h (.oc (.ptr 0 0) (dz l 0))<|.c1 (cDz l a1) (Ah m)<|.c1 (cDz l a2) (dV c)<|.c1 (cDz l a3) (di n)<|.c (Di (v,0))<|.c (Di (v2,e2))<|.k<|.t .r) (F0 4 [] (db true)/\(∀(o:Oper) (c:Call) (fo:Operand),o.op=Op.call c->c.callee=Callee.value fo->Ai PP o [D.v (V.fn 5 [] []),D.v (vBs s)] σ0 (D.ptr 0 0) (dz l 0))/\Ab PP 6 [D.ptr 0 0] (St.mk [some (cDz l 0)] []) (Ah m) (dz l a1)/\Ab PP 7 [D.ptr 0 0,Ah m] (dz l a1) (dV c) (dz l a2)/\Ab PP 8 [D.ptr 0 0,di 10] (dz l a2) (di (n:Int)) (dz l a3)/\F0 9 [Ah m,dV c,di (n:Int)] (Di (v,0))/\iz 10≠0/\F0 9 [Ah m,dV c,di (wrap i64 ((n:Int)+Int.tmod (wrap i64 b) 10))] (Di (v2,e2))/\(!(v,0).fst.decided)=true/\Q (db true)) ?_
   exact⟨sane_spec,hnew,m3,c3,r4,hd1,by decide,by rw[hkn];exact hd2,by rw[h1];rfl,rfl⟩
  |true=>
   have hq:=hmo rfl h1
   rw[Prod.mk.injEq] at hq
   obtain⟨rfl,rfl⟩:=hq
   refine sv fStb 58 [] (.c (db true)<|.h (.oc (.ptr 0 0) (dz l 0))<|.c1 (cDz l a1) (Ah m)<|.c1 (cDz l a2) (dV c)<|.c1 (cDz l a3) (di n)<|.c (Di (v2,0))<|.c (Di (v2,0))<|.k<|.f<|.k<|.c (db true) .r) (F0 4 [] (db true)/\(∀(o:Oper) (c:Call) (fo:Operand),o.op=Op.call c->c.callee=Callee.value fo->Ai PP o [D.v (V.fn 5 [] []),D.v (vBs s)] σ0 (D.ptr 0 0) (dz l 0))/\Ab PP 6 [D.ptr 0 0] (St.mk [some (cDz l 0)] []) (Ah m) (dz l a1)/\Ab PP 7 [D.ptr 0 0,Ah m] (dz l a1) (dV c) (dz l a2)/\Ab PP 8 [D.ptr 0 0,di 10] (dz l a2) (di (n:Int)) (dz l a3)/\F0 9 [Ah m,dV c,di (n:Int)] (Di (v2,0))/\iz 10≠0/\F0 9 [Ah m,dV c,di (wrap i64 ((n:Int)+Int.tmod (wrap i64 b) 10))] (Di (v2,0))/\(!(v2,0).fst.decided)=false/\F0 10 [D.v (V.agg [V.bool (v2,0).fst.decided,V.bool (v2,0).fst.yes,BS (v2,0).fst.run,vIs (v2,0).fst.coefs,vi (v2,0).fst.mod,vIs (v2,0).fst.vals,vVs (v2,0).fst.closed,vi (v2,0).fst.used]),D.v (V.agg [V.bool (v2,0).fst.decided,V.bool (v2,0).fst.yes,BS (v2,0).fst.run,vIs (v2,0).fst.coefs,vi (v2,0).fst.mod,vIs (v2,0).fst.vals,vVs (v2,0).fst.closed,vi (v2,0).fst.used])] (db true)/\Q (db true)) ?_
   exact⟨sane_spec,hnew,m3,c3,r4,hd1,by decide,by rw[hkn];exact hd2,by rw[h1];rfl,rsm_spec v2 hvb,rfl⟩
end Go.Proofs.YtcjhkglbdahfgaaGreat
