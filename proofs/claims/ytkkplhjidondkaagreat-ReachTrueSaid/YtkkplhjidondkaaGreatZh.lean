/-
  A part of the proof.
-/
import Derived.Test.YtkkplhjidondkaaGreatZg
import Derived.Test.YtkkplhjidondkaaGreatZd
import Derived.Test.YtkkplhjidondkaaGreatZf
import Derived.Test.YtkkplhjidondkaaGreatZe
namespace Go.Proofs.YtkkplhjidondkaaGreat
open Go.Dv Go.Nv
set_option maxRecDepth 20000
open List (cons_append length map map_drop map_take nil_append range_succ replicate take take_length)
open Go.IntKind (u64)
open Go.IntKind renaming wrap → yu, i64 → yt
open List renaming length → I, map → U, drop → W
open Option renaming some → G
open Bool renaming true → J, false → O
open Decidable renaming decide → Y
open Int renaming toNat → Z
open Go.Dv.V renaming list → ai, str → ae, agg → ab, int → aa, ref → bz, fn → bw, nils → bv, bool → bu
open Go.Dv.D renaming v → bt, acc → br, ptr → bq, arr → bo, gro → bm, tup → bk, undef → bj, dagg → bi
open Go.Dv.St renaming mk → bh
open Go.Dv.KI renaming blk → bf
open _root_.ByteArray renaming mk → bc
open Go renaming Operand → x8, Program → x7, TypeId → x6, World → x5, Value → yz, Oper → yy, FuncId → yx, Func → yw, IntKind → yv
noncomputable def AkI(P:x7)(rs:List ResultVar)(d:D)(σ':St)(env:List D)(σ:St):Prop:=
 mz P env σ true rs fun ds=>AW (ds.map (ip [] false)) fun ds=>vq ds fun d'=>cond (σ'.own.isEmpty&&σ.own.isEmpty) ((D.okN (I σ'.H) [] d=J/\cm (I σ'.H) [] σ'.H=J)/\σ.H=σ'.H/\d'=d) False
theorem AdI{P:x7}{fn:yw}{d:D}{σ':St}{env:List D}{σ:St}(h:AkI P fn.results.toList d σ' env σ):AA P fn env σ d σ':=by
 obtain⟨ds,h1,hr⟩:=Hp h
 rw[AQ,Ps] at h1
 obtain⟨h2,⟨hokd,h8⟩,hH,h4⟩:=Ar h1
 simp only[HJ,List.isEmpty_iff] at h2
 obtain⟨ho',ho⟩:=h2
 intro E g a w hf hE
 obtain⟨us,h5,h6⟩:=hr.run hf
 have hrun:(results fn a.tmps).run P w=.ok (if h:I us=1 then us[0] else .tuple us.toArray) w:=by
  rw[Hz,Array.mapM_eq_mapM_toList]
  simp_all
 refine⟨_,_,hrun,W0 (m:=I σ'.H) hf.wi (by grind) (by grind) hE (by grind) (by grind),?_⟩
 refine Mm _ _ (by grind) ?_
 have h7:=D7 (ts:=[]) (kn:=false) h6
 subst h4
 generalize ds.map (ip [] false)=ds' at h7
 have hl:=A0 h7
 unfold SS
 split
 ·grind[AB]
 ·rename_i hne
  have:I us≠1:=by
   rw[hl]
   intro h
   match ds',h with
   |[d0],_=>grind
  grind[Ag]
theorem AfB{P:x7}(hm:P.follows .mixedOrders=J){C:Nat}{fn:yw}{d:D}{σ':St}(nt:Nat)(im:List Nat){ks T:List KI}{L:List (Nat×D)}{σ:St}(s:Sc)
  (h:AW (cy nt L) fun env=>vc (CN C) C P (fun env σ1=>AA P fn env σ1 d σ') (fun _ env σ=>AkI P fn.results.toList d σ' env σ) nt im T 10000 (.h .n s) ks env σ):Rn P fn C d σ' (ks++T) (cy nt L) σ:=by
 rw[AQ] at h
 exact Qq (N8 _) (fun _ _ h=>h.2) hm (fun b env σ _ h=>AdI h) (by simp[cy,DN]) h
theorem VN{n:Int}{m:Nat}{L:List D}{Hs:List (Option (List D))}{v:b9}(hm:I v.az=m)(hL:D.okNs (I Hs+3) [] L=J)(hH:cm (I Hs+3) [] Hs=J):
  Rn PP B0 0 (.dagg [di n,.arr 2 0 m]) ⟨G [di n,.arr 2 0 m]::G [di n,.arr 2 0 m]::G L::Hs,[]⟩ ([kl A9 [1,1,0,1,0,0],.blk 0,kc A9 [1,1,1]]++[]) (cy 27 [(1,.v (.ref (Ac v))),(2,.ptr 0 0),(3,.ptr 1 0),(4,di (m:Nat))]) (je n m L Hs):=by
 have e1:∀e:List D,Cv e (je n m L Hs) e ⟨G [di 0,.v .nils]::G [di n,.arr 2 0 m]::G L::Hs,[]⟩:=fun e=>Acm (σ:=je n m L Hs) (p:=1) (q:=2) (i:=1) (n:=m) (sz:=2) (cs:=[di n,.gro 2 m 2]) rfl rfl e
 refine Mh (e1 _) ?_
 clear e1
 refine AfB mixed 27 [1] (.f<|.h (.m (.dagg [di n,.arr 2 0 m]))<|.h .ww<|.r) ?_
 refine fx (by kernel_rfl:(Y ((m:Int)<(I (ce v.az):Int))=O/\2<=2/\Q [di n,bo 2 0 m]/\2<=2/\(D.okN (I (bh (G [di n,bo 2 0 m]::G [di n,bo 2 0 m]::G L::Hs) []).H) [] (bi [di n,bo 2 0 m])=J/\cm (I (bh (G [di n,bo 2 0 m]::G [di n,bo 2 0 m]::G L::Hs) []).H) [] (G [di n,bo 2 0 m]::G [di n,bo 2 0 m]::G L::Hs)=J)/\Q (G [di n,bo 2 0 m]::G [di n,bo 2 0 m]::G L::Hs)/\Q (bi [di n,bo 2 0 m]))=_) ?_
 have hle:(bh (G [di n,.arr 2 0 m]::G [di n,.arr 2 0 m]::G L::Hs) []).H.length=I Hs+3:=by simp
 rw[hle]
 exact⟨HM (by rw[HH];omega),HP _,rfl,HP _,⟨by simp[D.okN,D.okNs],by simp[cm,D.okN,D.okNs,hL,hH]⟩,rfl,rfl⟩
def va(x:b9):Prop:=x.n=0/\x.az.length=2
theorem P1{n:Nat}(l:List b9):cm n [] (dh l)=J:=by
 induction l<;>grind[cm,dh,AO,Di]
theorem UR(ρ τ:Nat->Nat)(l:List b9):Da ρ τ (dh l)=dh l:=by
 induction l<;>grind[Da,dh,A6,Di]
theorem LV(l:List b9):I (dh l)=I l:=by simp[dh]
theorem Acq(v:b9)(hv:v.size<=900)(hk:∀x∈v.az,va x)(n:Nat):∀k:Nat,I v.az-k=n->1<=k->k<=I v.az->
  Rn PP B0 0 (.dagg [di v.n,.arr 2 0 (I v.az)]) ⟨G [di v.n,.arr 2 0 (I v.az)]::G [di v.n,.arr 2 0 (I v.az)]::G (ec 3 (I v.az))::dh v.az,[]⟩ ([kl A9 [1,1,0,1,0,0],.blk 0,kc A9 [1,1,1]]++[]) (cy 27 [(1,.v (.ref (Ac v))),(2,.ptr 0 0),(3,.ptr 1 0),(4,di (k:Nat))]) (je v.n k (ec 3 k) (dh (v.az.take k))):=by
 have hs:=v.size_eq
 have hl:=b9.length_le v.az
 induction n with
 |zero=>
  grind[VN,KX,LV,P1]
 |succ n ih=>
  intro k hn hk1 hk2
  obtain⟨x,hx⟩:∃x,v.az[k]?=G x:=⟨_,HI (show k<I v.az by omega)⟩
  have ht:v.az.take (k+1)=v.az.take k++[x]:=by rw[IW,hx];rfl
  have hlen:I (v.az.take k)=k:=by rw[Ip];omega
  obtain⟨h0,h2⟩:=hk x (HO hx)
  have hst:= @Acp v.n (v.az.take k) (by omega) (by omega) v x (by rw[hlen];exact hx) h0 h2 (by have:=b9.size_mem (HO hx);omega) (.dagg [di v.n,.arr 2 0 (I v.az)]) ⟨G [di v.n,.arr 2 0 (I v.az)]::G [di v.n,.arr 2 0 (I v.az)]::G (ec 3 (I v.az))::dh v.az,[]⟩
  grind
theorem Afk{P:x7}{o:yy}{σ:St}{x y:x8}{t:x6}(ho:o.op=.call { callee:=.builtin .append,args:= #[x,y],argTypes:= #[t,t]}){e:x6}{sz by':Nat}{z:yz}(hs:BR P t=G (e,sz,by',G z))(hzc:z.cells.size=sz)
  {q2 n:Nat} {cs2:List D} (hq2:σ.H[q2]?=G (G cs2)) (hl2:I cs2=n*sz) (hpos:0<n) (hlen:n*by'<=140737488355328) (hlen2:n<=140737488355328):
  Ah P o [.v .nils,.gro q2 n sz] σ (.gro (I σ.H) n sz) ⟨σ.H++[G cs2],σ.own⟩:=by
 intro E g a w K Q hw hds hK
 refine Ta ho hs hzc hq2 hl2 hpos hlen hlen2 E g a w K Q hw ?_ hK
 grind[Af,Ag,CI]
noncomputable abbrev na:=[di 0,bo 2 0 2]
theorem Apd(v:b9)(hv:v.size<=900)(hk:∀x∈v.az,va x)(hn:v.az≠ []):Aa PP 83 [dV v] ba (.dagg [di v.n,.arr 0 0 (I v.az)]) ⟨G (ec 1 (I v.az))::dh v.az,[]⟩:=by
 have hs:=v.size_eq
 have hpos:=List.length_pos_iff.2 hn
 obtain⟨x,hx⟩:∃x,v.az[0]?=G x:=⟨_,HI hpos⟩
 obtain⟨x0,x2⟩:=hk x (HO hx)
 have hxs:=b9.size_mem (HO hx)
 have hsp:=ub x (by grind) (by omega)
 have hlp:=Acq v hv hk _ 1 rfl (HP _) hpos
 have ht:v.az.take 1=[x]:=by grind[List.take_add_one]
 rw[ht] at hlp
 have h0:(v.az.map eV)[Z 0]?=G (Ac x):=Ap (i:=0) hx
 have hlt:(0:Int)<(I (v.az.map eV):Int):=by grind
 have hle:I (G [di v.n,.arr 2 0 (I v.az)]::G [di v.n,.arr 2 0 (I v.az)]::G (ec 3 (I v.az))::dh v.az)=I v.az+3:=by simp[LV]
 refine E3 (σ:=ba) (T:=G [di v.n,.arr 2 0 (I v.az)]::G [di v.n,.arr 2 0 (I v.az)]::G (ec 3 (I v.az))::dh v.az) (fun i=>i+2) (Iu _) (fun i hi=>by grind) (fun i j _ _ h=>by omega) (fun i hi=>?_) (fun i cs hi=>?_) (by rfl) ?_
 ·grind
 ·match i,hi with
  |0,hi=>
   simp at hi;subst hi
   exact⟨by rw[GT 1 3 _ (fun i _=>by omega)];rfl,KX _ _ (by grind)⟩
  |i+1,hi=>
   grind[LW,A6,Di,AO]
 ·show Aa PP _ _ _ (.dagg [di v.n,.arr 2 0 (I v.az)]) _
  generalize (⟨G [di v.n,.arr 2 0 (I v.az)]::G [di v.n,.arr 2 0 (I v.az)]::G (ec 3 (I v.az))::dh v.az,[]⟩:St)=out at hlp⊢
  generalize bi [di v.n,.arr 2 0 (I v.az)]=od at hlp⊢
  have hF:=Di x
  have hlp2:Rn PP B0 0 od out ([kl A9 [1,1,0,1,0,0],.blk 0,kc A9 [1,1,1]]++[]) (cy 27 [(1,.v (.ref (Ac v))),(2,.ptr 0 0),(3,.ptr 1 0),(4,di (1:Nat))]) ⟨[G [di 0,.v .nils],G [di v.n,.gro 4 1 2],G (gy x),G [di 0,.arr 2 0 2],G [di 0,.arr 2 0 2]],[]⟩:=by
   refine C0 (H':=(je v.n 1 (ec 3 1) (dh [x])).H) (e':=cy 27 [(1,.v (.ref (Ac v))),(2,.ptr 0 0),(3,.ptr 1 0),(4,di (1:Nat))]) (m:=0) (fun _ _ h=>h.2) (fun i=>if i=2 then 4 else if i=3 then 2 else i) (Iu _) (fun i hi=>by omega) (fun i j hi hj h=>?_) (fun i cs hi=>?_) (by rfl) (by rfl) hlp
   ·have hi:i<4:=hi
    have hj:j<4:=hj
    grind
   ·have h4:(je v.n 1 (ec 3 1) (dh [x])).H.length=4:=rfl
    rw[h4]
    match i,hi with
    |0,hi=>simp at hi;subst hi;exact⟨rfl,by rfl⟩
    |1,hi=>simp at hi;subst hi;exact⟨rfl,by rfl⟩
    |2,hi=>simp at hi;subst hi;exact⟨rfl,rfl⟩
    |3,hi=>
     have hi:G (G (gy x))=G (G cs):=hi
     grind[A6,AO]
    |i+4,hi=>grind
  clear hlp
  generalize gy x=F at hsp hF hlp2
  refine Pg mixed B0 A9 (by rfl) (by kernel_rfl) (by rfl) (by rfl) 27 (by rfl) [1] (.h .rn<|.n<|.t<|.h (.xs (Ac x))<|.h (.oc (.dagg [di x.n,.arr 2 0 (I x.az)]) ⟨[G [di 0,.v .nils],G [di v.n,.v .nils],G F],[]⟩)<|.h (.o (.gro 3 1 2) ⟨[G [di 0,.v .nils],G [di v.n,.v .nils],G F,G [di 0,.arr 2 0 2]],[]⟩)<|.h (.o (.gro 4 1 2) ⟨[G [di 0,.v .nils],G [di v.n,.v .nils],G F,G [di 0,.arr 2 0 2],G [di 0,.arr 2 0 2]],[]⟩)<|.l [ke 1,ke 2,ke 3,ch 4 (di (1:Nat))]) ?_
  refine fx (by kernel_rfl:(Y (0<(I (ce v.az):Int))=J/\Q 2/\iz 0<=0/\(ce v.az)[Z 0]?=G (Ac x)/\(N0 (Ark x) (bh [G [di 0,dn],G [di v.n,dn]] []) (bi [di x.n,bo 2 0 (I x.az)]) (bh [G [di 0,dn],G [di v.n,dn],G F] []))/\Ah PP qi [bi [di x.n,bo 2 0 (I x.az)]] (bh [G [di 0,dn],G [di v.n,dn],G F] []) (bm 3 1 2) (bh [G [di 0,dn],G [di v.n,dn],G F,G na] [])/\Ah PP xz [dn,bm 3 1 2] (bh [G [di 0,dn],G [di v.n,dn],G F,G na] []) (bm 4 1 2) (bh [G [di 0,dn],G [di v.n,dn],G F,G na,G na] [])/\((Q (G [dn])/\Q (G [dn])/\True)/\True)/\di (yu yt (0+1))=di (↑1:Int)/\I0 B0 (I ba.H) od out sc (At6 v) (bh [G [di 0,dn],G [di v.n,bm 4 1 2],G F,G na,G na] []))=_) ?_
  refine⟨HK hlt,rfl,Il _,h0,fun o c fo ho hc=>?_,?_,Afk rfl ln rfl (q2:=3) (cs2:=[di 0,.arr 2 0 2]) rfl rfl (by decide) (by decide) (by decide),⟨⟨rfl,rfl,trivial⟩,trivial⟩,Ih di (by decide),⟨hlp2⟩⟩
  ·exact RD (H:=[G [di 0,.v .nils],G [di v.n,.v .nils]]) rfl hF hsp ho hc
  ·rw[x0,x2]
   exact Gi rfl ln rfl rfl rfl (by decide) (by decide)
abbrev Hj(x:b9)(b m:Nat):List D:=fh x++[di 0,.arr b 0 m]
theorem Ape(x b:b9)(hx:x.az=[])(hb0:b.n=0)(hb:b.size<=900)(hk:∀y∈b.az,va y)(hn:b.az≠ [])(v:b9)(hv:v.n=0)(hvk:v.az=[x,b]):Aa PP 83 [dV v] ba (.dagg [di 0,.arr 0 0 2]) ⟨G (Hj x 1 (I b.az))::G (ec 2 (I b.az))::dh b.az,[]⟩:=by
 have hsp:=Apd b hb hk hn
 have hcx:=DO _ x (HP _) (by have:=x.size_eq;grind[b9.sizes])
 have hlen:I v.az=2:=by grind
 have hxv:v.az[0]?=G x:=by grind
 have hbv:v.az[1]?=G b:=by grind
 obtain⟨m,hm⟩:∃m,I b.az=m:=⟨_,rfl⟩
 have hO:=LV b.az
 rw[hm] at hsp hO⊢
 refine E3 (σ:=ba) (T:=G [di 0,.arr 2 0 2]::G [di 0,.arr 2 0 2]::G (Hj x 3 m)::G (ec 4 m)::dh b.az) (fun i=>i+2) (Iu _) (fun i hi=>by grind) (fun i j _ _ h=>by omega) (fun i hi=>?_) (fun i cs hi=>?_) (by rfl) ?_
 ·grind
 ·match i,hi with
  |0,hi=>
   grind[D.rens,D.ren,D.okNs,D.okN]
  |1,hi=>
   simp at hi;subst hi
   exact⟨by rw[GT 2 4 _ (fun i _=>by omega)];rfl,KX _ _ (by grind)⟩
  |i+2,hi=>
   grind[LW,A6,Di,AO]
 ·show Aa PP _ _ _ (.dagg [di 0,.arr 2 0 2]) _
  have hend:= @VN 0 2 (Hj x 3 m) (G (ec 4 m)::dh b.az) v hlen (by simp[D.okNs,D.okN]) (by simp only[cm,P1,KX (n:=I (G (ec 4 m)::dh b.az)+3) (ts:=[]) 4 m (by simp[hO];omega),Bool.and_self])
  generalize (⟨G [di 0,.arr 2 0 2]::G [di 0,.arr 2 0 2]::G (Hj x 3 m)::G (ec 4 m)::dh b.az,[]⟩:St)=out at hend⊢
  generalize bi [di 0,.arr 2 0 2]=od at hend⊢
  have hen2:Rn PP B0 0 od out ([kl A9 [1,1,0,1,0,0],.blk 0,kc A9 [1,1,1]]++[]) (cy 27 [(1,.v (.ref (Ac v))),(2,.ptr 0 0),(3,.ptr 1 0),(4,di (2:Nat))]) ⟨G [di 0,.v .nils]::G [di 0,.gro (m+5) 2 2]::none::((G (ec 4 m)::dh b.az++[G [di 0,.arr 3 0 m]])++[G (Hj x 3 m)]),[]⟩:=by
   have hH:(je 0 2 (Hj x 3 m) (G (ec 4 m)::dh b.az)).H.length=m+4:=by simp[hO]
   refine C0 (H':=(je 0 2 (Hj x 3 m) (G (ec 4 m)::dh b.az)).H) (e':=cy 27 [(1,.v (.ref (Ac v))),(2,.ptr 0 0),(3,.ptr 1 0),(4,di (2:Nat))]) (m:=0) (fun _ _ h=>h.2) (fun i=>if i=2 then m+5 else i) (Iu _) (fun i hi=>by omega) (fun i j hi hj h=>?_) (fun i cs hi=>?_) (by rw[hH];simp[cy,D.okNs,D.okN]) (by simp[cy,D.rens,D.ren]) hend
   ·have h:(if i=2 then m+5 else i)=(if j=2 then m+5 else j):=h
    rw[hH] at hi hj
    split at h<;>split at h<;>omega
   ·rw[hH]
    match i,hi with
    |0,hi=>simp at hi;subst hi;exact⟨rfl,by simp[D.okNs,D.okN]⟩
    |1,hi=>simp at hi;subst hi;exact⟨by simp[D.rens,D.ren],by simp[D.okNs,D.okN]⟩
    |2,hi=>
     simp at hi;subst hi
     refine⟨?_,by simp[D.okNs,D.okN]⟩
     show((G (ec 4 m)::dh b.az++[G [di 0,.arr 3 0 m]])++[G (Hj x 3 m)])[m+2]?=_
     rw[Ib (by simp[hO])]
     simp[hO,D.rens,D.ren]
    |3,hi=>
     have hi:G (G (ec 4 m))=G (G cs):=hi
     simp only[Ir] at hi
     subst hi
     exact⟨by rw[GT 4 4 _ (fun i hi=>by rw[HZ (by omega)])];rfl,KX _ _ (by omega)⟩
    |i+4,hi=>
     have hi:(dh b.az)[i]?=G (G cs):=hi
     have hlt:i<m:=by have:=(HL.1 hi).1;omega
     obtain⟨y,hy,rfl⟩:=LW hi
     refine⟨?_,AO (Di y)⟩
     rw[A6 (Di y),HZ (by omega)]
     show((dh b.az++[G [di 0,.arr 3 0 m]])++[G (Hj x 3 m)])[i]?=_
     rw[Ig (by simp[hO];omega),Ig (by omega)]
     exact hi
  have hcall:∀(o:yy) (c:Call) (fo:x8),o.op=.call c->c.callee=.value fo->Ah PP o [.v (.fn 83 [] []),dV b] (gm 0 1 (fh x) []) (.dagg [di 0,.arr 3 0 m]) ⟨G [di 0,.v .nils]::G [di 0,.gro 2 1 2]::G (fh x)::(G (ec 4 m)::dh b.az),[]⟩:=fun o c fo ho hc=>by
   have h:=B3 (σ:=gm 0 1 (fh x) []) ho hc (fD:=.v (.fn 83 [] [])) rfl (ds:=[dV b]) [] id hsp (.cons (.ren (dc:=dV b) rfl) .nil) .nil (by simp) rfl (by simp) (by simp) (by simp[D.okN,D.okNs]) (by show cm _ [] (G (ec 1 m)::dh b.az)=J;simp only[cm,P1,KX (n:=I (G (ec 1 m)::dh b.az)) (ts:=[]) 1 m (by simp[hO];omega),Bool.and_self])
   have e1:Da (d8 3 []) id (G (ec 1 m)::dh b.az)=G (ec 4 m)::dh b.az:=by
    show G (D.rens (d8 3 []) id (ec 1 m))::Da (d8 3 []) id (dh b.az)=_
    rw[UR,GT 1 4 _ (fun i _=>by simp[d8];omega)]
   have e2:(bi [di b.n,.arr 0 0 m]).ren (d8 3 []) id=.dagg [di 0,.arr 3 0 m]:=by rw[hb0];rfl
   have h:Ah PP o [.v (.fn 83 [] []),dV b] (gm 0 1 (fh x) []) ((bi [di b.n,.arr 0 0 m]).ren (d8 3 []) id) ⟨G [di 0,.v .nils]::G [di 0,.gro 2 1 2]::G (fh x)::Da (d8 3 []) id (G (ec 1 m)::dh b.az),[]⟩:=h
   rw[e1,e2] at h
   exact h
  have hsec:Rn PP B0 0 od out ([kl A9 [1,1,0,1,0,0],.blk 0,kc A9 [1,1,1]]++[]) (cy 27 [(1,.v (.ref (Ac v))),(2,.ptr 0 0),(3,.ptr 1 0),(4,di (1:Nat))]) (gm 0 1 (fh x) []):=by
   have hHl:I (G (ec 4 m)::dh b.az)=m+1:=by simp[hO]
   generalize G (ec 4 m)::dh b.az=Hs at hen2 hcall hHl
   have hLs:fh x++[di 0,.arr 3 0 m]=Hj x 3 m:=rfl
   generalize hCF:Hj x 3 m=CF at hen2
   refine lv 27 [1] (.t<|.h (.xs (Ac b))<|.h (.oc (.dagg [di 0,.arr 3 0 m]) ⟨G [di 0,.v .nils]::G [di 0,.gro 2 1 2]::G (fh x)::Hs,[]⟩)<|.h (.o (.gro (m+4) 1 2) ⟨G [di 0,.v .nils]::G [di 0,.gro 2 1 2]::G (fh x)::(Hs++[G [di 0,.arr 3 0 m]]),[]⟩)<|.h (.o (.gro (m+5) 2 2) ⟨G [di 0,.v .nils]::G [di 0,.gro 2 1 2]::none::((Hs++[G [di 0,.arr 3 0 m]])++[G CF]),[]⟩)<|.l [ke 1,ke 2,ke 3,ch 4 (di (2:Nat))]) (Y ((↑1:Int)<(I (ce v.az):Int))=J/\Q 2/\0<=(↑1:Int)/\(ce v.az)[Z (↑1:Int)]?=G (Ac b)/\_/\Ah PP qi [bi [di 0,bo 3 0 m]] (bh (G [di 0,dn]::G [di 0,bm 2 1 2]::G (fh x)::Hs) []) (bm (m+4) 1 2) (bh (G [di 0,dn]::G [di 0,bm 2 1 2]::G (fh x)::(Hs++[G [di 0,bo 3 0 m]])) [])/\Ah PP xz [bm 2 1 2,bm (m+4) 1 2] (bh (G [di 0,dn]::G [di 0,bm 2 1 2]::G (fh x)::(Hs++[G [di 0,bo 3 0 m]])) []) (bm (m+5) 2 2) (bh (G [di 0,dn]::G [di 0,bm 2 1 2]::none::(Hs++[G [di 0,bo 3 0 m]]++[G CF])) [])/\((Q (G [bm 2 1 2])/\Q (G [bm 2 1 2])/\True)/\True)/\di (yu yt ((↑1:Int)+1))=di (↑2:Int)/\_) ⟨HK (by rw[HH];omega),rfl,by omega,Ap hbv,hcall,?_,?_,⟨⟨rfl,rfl,trivial⟩,trivial⟩,Ih di (by decide),iK hen2⟩
   ·refine AhS ?_ rfl ln rfl rfl rfl (by decide) (by decide)
    simp[hHl]
   ·have hN:m+5=I (G [di 0,.v .nils]::G [di 0,.gro 2 1 2]::G (fh x)::(Hs++[G [di 0,.arr 3 0 m]])):=by simp[hHl]
    rw[hN, ←hCF]
    refine KB rfl ln rfl (by decide) (q:=2) (q2:=m+4) (cs:=fh x) (cs2:=[di 0,.arr 3 0 m]) rfl rfl ?_ rfl (by decide) (by decide) (by decide)
    show(Hs++[G [di 0,.arr 3 0 m]])[m+1]?=_
    rw[Ib (by omega)]
    simp[hHl]
  have h0:(v.az.map eV)[Z 0]?=G (Ac x):=Ap (i:=0) hxv
  refine sv B0 27 [1] (.h .rn<|.n<|.t<|.h (.xs (Ac x))<|.c (dV x)<|.h (.p (.v (.list [Ac x])))<|.h .g<|.lo [ke 1,ke 2,ke 3,ch 4 (di (1:Nat))] (gm v.n 1 (fh x) [])) (Y (0<(I (ce v.az):Int))=J/\Q 2/\iz 0<=0/\_/\_/\(∀(τ:St),Ah PP qi [dV x] τ (bt (ai [Ac x])) τ)/\[Ac x]≠ []/\(∀(y:V),y∈ [Ac x]->V.size y=2)/\Ao 1 32/\yp/\di (yu yt (0+1))=di (↑1:Int)/\cm 3 [] [G [di 0,dn],G [di v.n,bm 2 1 2],G (dp x.n x.az)]=J/\Q [G [di 0,dn],G [di v.n,bm 2 1 2],G (fh x)]/\I0 B0 (I ba.H) od out sc (At6 v) (gm v.n 1 (fh x) [])) ⟨HK (by rw[HH];omega),rfl,Il _,h0,hcx,fun τ=>pi x τ rfl,by simp,fun y hy=>by rw[HY.1 hy];rfl,⟨by decide,by decide⟩,yn,Ih di (by decide),rfl,rfl,⟨?_⟩⟩
  grind
noncomputable abbrev F7:=Tryz.f112
noncomputable def Ey:=yl F7
def gI(m i j:Nat):Nat:=if j<i then 5+(m-i)+j else 5+(j-i)
def fj(g:Nat->Nat)(k:Nat):List D:=(List.range k).flatMap fun j=>[di 0,.arr (g j) 0 2]
theorem JE(g:Nat->Nat)(k:Nat):fj g (k+1)=fj g k++[di 0,.arr (g k) 0 2]:=by simp[fj,range_succ]
theorem S6(g:Nat->Nat)(k:Nat):(fj g k).length=2*k:=by
 induction k<;>grind[JE,fj]
theorem Z6(g:Nat->Nat)(k j:Nat)(h:j<k):(fj g k)[2*j+1]?=some (.arr (g j) 0 2):=by
 induction k<;>grind[JE,S6]
theorem Ahq{g:Nat->Nat}{n:Nat}{ts:List Nat}(k:Nat)(h:∀j,j<k->g j<n):D.okNs n ts (fj g k)=true:=by
 induction k<;>grind[JE,JP,D.okNs,D.okN,fj]
theorem U1{ρ g g':Nat->Nat}(k:Nat)(h:∀j,j<k->ρ (g j)=g' j):D.rens ρ id (fj g k)=fj g' k:=by
 induction k<;>grind[JE,JL,D.rens,D.ren,fj]
abbrev j6(ty:D)(s:Int)(n:Nat)(K:List D)(qQ:List (Option (List D))):St:=⟨some [di 0,.v .nils]::some (Az ty)::some [di 0,.arr 3 0 2]::some [di s,cq [],di 0,.arr 4 0 n]::some K::qQ,[]⟩
theorem AlP{n i j:Nat}(hi:i<=n)(hj:j<n):gI n i j<n+5:=by grind[gI]
theorem AlO{n i j:Nat}(hi:i<n)(hj:j<n):(if gI n (i+1) j<5 then gI n (i+1) j else if gI n (i+1) j=n+4 then 5 else gI n (i+1) j+1)=gI n i j:=by
 grind[gI]
theorem AkP{R:List D->St->Prop}{ks:List KI}{e:List D}(ty:D)(hty:D.pls (Az ty)=true)(s:Int)(n i:Nat)(hi:i<n)(qQ:List (Option (List D)))(hQl:qQ.length+1=n)(hQ:∀(k:Nat) (cs:List D),qQ[k]?=some (some cs)->D.pls cs=true)(F:List D)(hF:D.pls F=true)
  (he:D.okNs (n+5) [] e=true) (hee:e=D.rens (fun k=>if k<5 then k else if k=n+4 then 5 else k+1) id e) (h:A2 (CN 0) PP R ks e (j6 ty s n (fj (gI n (i+1)) n) (qQ++[some F]))):A2 (CN 0) PP R ks e (j6 ty s n (fj (gI n i) n) (some F::qQ)):=by
 have hH:(j6 ty s n (fj (gI n (i+1)) n) (qQ++[some F])).H.length=n+5:=by simp;omega
 refine C0 (H':=(j6 ty s n (fj (gI n (i+1)) n) (qQ++[some F])).H) (e':=e) (m:=0) (fun _ _ h=>h.2) (fun k=>if k<5 then k else if k=n+4 then 5 else k+1) (Iu _) (fun i hi=>by omega) (fun a b ha hb h=>?_) (fun k cs hk=>?_) (by grind) hee h
 ·grind
 ·rw[hH]
  match k,hk with
  |0,hk=>simp at hk;subst hk;exact⟨rfl,by rfl⟩
  |1,hk=>
   grind[A6,AO]
  |2,hk=>simp at hk;subst hk;exact⟨rfl,by rfl⟩
  |3,hk=>simp at hk;subst hk;exact⟨rfl,by rfl⟩
  |4,hk=>
   grind[Ahq,AlP,U1,AlO]
  |k+5,hk=>
   have hk:(qQ++[some F])[k]?=some (some cs):=hk
   have hlt:=(HL.1 hk).1
   simp at hlt
   by_cases h1:k<qQ.length
   ·grind[AO,A6]
   ·have e:k=qQ.length:=by omega
    subst e
    rw[Ib (HP _),Nat.sub_self] at hk
    have hk:some (some F)=some (some cs):=hk
    simp only[Ir] at hk
    subst hk
    refine⟨?_,AO hF⟩
    rw[A6 hF,HZ (by omega),Ie (by omega)]
    rfl
abbrev vo(p:Int×Int):List D:=[di p.1,cq [],di p.2,cq []]
theorem Aiu(m:cz)(_:0<=m.age/\m.age<=1000)(ty:D)(hty:D.pls (Az ty)=true)(s:Int)(n i:Nat)(hi:i<n)(hn:n<=1000)(p:Int×Int)(_:0<=p.2/\p.2<m.age+2)(qQ:List (Option (List D)))(hQl:qQ.length+1=n)(hQ:∀(k:Nat) (cs:List D),qQ[k]?=some (some cs)->D.pls cs=true){d:D}{σ':St}
  (next:Rn PP F7 0 d σ' ([kl Ey [1,1,1,1,1,0,1,0,0],.blk 0,kc Ey [1,1,1,1,1,1]]++[]) (cy 76 [(2,.v (.ref (A1 m))),(4,.ptr 0 0),(7,.ptr 1 0),(9,.ptr 2 0),(10,di (i+1:Nat))]) (j6 ty s n (fj (gI n (i+1)) n) (qQ++[some (vo (p.1,E9 m p.2))]))):
  Rn PP F7 0 d σ' ([kl Ey [1,1,1,1,1,0,1,0,0],.blk 0,kc Ey [1,1,1,1,1,1]]++[]) (cy 76 [(2,.v (.ref (A1 m))),(4,.ptr 0 0),(7,.ptr 1 0),(9,.ptr 2 0),(10,di (i:Nat))]) (j6 ty s n (fj (gI n i) n) (some (vo p)::qQ)):=by
 have hr:=AkP (R:=fun env σ1=>AA PP F7 env σ1 d σ') (ks:=[kl Ey [1,1,1,1,1,0,1,0,0],.blk 0,kc Ey [1,1,1,1,1,1]]++[]) (e:=cy 76 [(2,.v (.ref (A1 m))),(4,.ptr 0 0),(7,.ptr 1 0),(9,.ptr 2 0),(10,di (i+1:Nat))]) ty hty s n i hi qQ hQl hQ (vo (p.1,E9 m p.2)) rfl (by simp[cy,D.okNs,D.okN]) (by simp[cy,D.rens,D.ren]) next
 have hK:(fj (gI n i) n)[2*i+1]?=some (.arr 5 0 2):=by
  rw[Z6 _ _ _ hi,gI,HZ (Nat.lt_irrefl _),Nat.sub_self]
 have ho:(if yu .i64 (m.age+1)<yu .i64 (p.2+1) then yu .i64 (m.age+1) else yu .i64 (p.2+1))=E9 m p.2:=rfl
 generalize fj (gI n i) n=K at hr hK⊢
 refine lv 76 [2,3] (.t<|.m (.arr 3 0 2)<|.m (.arr 4 0 n)<|.m (.arr 5 0 2)<|.m (.arr 3 0 2)<|.m (.arr 4 0 n)<|.m (.arr 5 0 2)<|.m (di p.2)<|.l [ke 2,ke 4,ke 7,ke 9,ch 10 (di (i+1:Nat))]) (iz 0<=1/\1<(↑2:Int)/\decide ((i:Int)<(n:Int))=true/\Q (some (bo 3 0 2))/\iz 0<=1/\1<(↑2:Int)/\Q (some (bo 4 0 n))/\0<=(i:Int)/\(i:Int)<(n:Int)/\K[((0+Int.toNat (i:Int)*2)+1)]?=some (bo 5 0 2)/\Q (some (bo 3 0 2))/\iz 0<=1/\1<(↑2:Int)/\Q (some (bo 4 0 n))/\0<=(i:Int)/\(i:Int)<(n:Int)/\K[((0+Int.toNat (i:Int)*2)+1)]?=some (bo 5 0 2)/\iz 0<=1/\1<(↑2:Int)/\Q (some (di p.snd))/\iz 0<=1/\1<(↑2:Int)/\(yh (True))/\di (yu yt ((i:Int)+1))=di (↑(i+1):Int)/\I0 F7 0 d σ' [kl Ey [1,1,1,1,1,0,1,0,0],bf 0,kc Ey [1,1,1,1,1,1]] (cy 76 [(2,bt (iq m)),(4,bq 0 0),(7,bq 1 0),(9,bq 2 0),(10,di (↑(i+1):Int))]) (bh (some [di 0,dn]::some (Az ty)::some [di 0,bo 3 0 2]::some [di s,cq [],di 0,bo 4 0 n]::some K::some [di p.fst,cq [],di (if yu yt (m.age+1)<yu yt (p.snd+1) then yu yt (m.age+1) else yu yt (p.snd+1)),cq []]::qQ) [])) ?_
 have hK2:K[((0+Int.toNat (i:Int)*2)+1)]?=some (.arr 5 0 2):=by rw[show 0+Int.toNat (i:Int)*2+1=2*i+1 by omega];exact hK
 refine⟨by decide,by decide,yr,rfl,by decide,by decide,rfl,by omega,by omega,hK2,rfl,by decide,by decide,rfl,by omega,by omega,hK2,by decide,by decide,rfl,by decide,by decide,⟨trivial,trivial,trivial,trivial,trivial,trivial,trivial,trivial⟩,Ae,⟨?_⟩⟩
 grind
theorem Aec(g:Nat->Nat)(k j:Nat)(h:j<k):(fj g k)[2*j]?=G (di 0):=by
 induction k<;>grind[JE,S6]
theorem Agm{α:Type}{l:List α}{i:Nat}{a b:α}(h1:l[i]?=G a)(h2:l[i+1]?=G b):l.drop i=a::b::l.drop (i+2):=by
 grind[List.drop_eq_getElem_cons]
theorem Aed(g:Nat->Nat)(k j:Nat)(h:j<k):(fj g k).drop (2*j)=di 0:: .arr (g j) 0 2::(fj g k).drop (2*(j+1)):=by grind[Agm,Aec,Z6]
theorem cvC{e:List D}{σ σ1 σ2:St}(h:Cv e σ e σ1)(h2:Cv e σ1 e σ2):Cv e σ e σ2:=by grind[Cv]
def m8(g:Nat->Nat)(T:List b9)(k:Nat):List D:=Ab ((T.take k).map eV)++(fj g (I T)).drop (2*k)
theorem AfW(g:Nat->Nat)(T:List b9)(hT:∀x∈T,x.n=0)(hk2:∀x∈T,I x.az=2)(hg:∀j,j<I T->g j=5+j)(a b c d:Option (List D))(e:List D)(k:Nat):k<=I T->∃Z:List (Option (List D)),I Z=I T/\(∀j,k<=j->Z[j]?=(dh T)[j]?)/\
  Cv e ⟨a::b::c::d::G (fj g (I T))::dh T,[]⟩ e ⟨a::b::c::d::G (m8 g T k)::Z,[]⟩:=by
 induction k with
 |zero=>
  intro _
  refine⟨dh T,LV T,fun j _=>rfl,?_⟩
  exact fun E g a w hf=>⟨g,hf⟩
 |succ k ih=>
  intro hk
  obtain⟨Z,h1,h2,h3⟩:=ih (by omega)
  obtain⟨x,hx⟩:=yk (show k<I T by omega)
  have hz:Z[k]?=G (G (gy x)):=by grind[dh]
  have hx0:=hT x (HO hx)
  have hl:I (Ab ((T.take k).map eV))=2*k:=by grind[AT]
  have hm:m8 g T k=(Ab ((T.take k).map eV)++[di 0])++ .arr (g k) 0 2::(fj g (I T)).drop (2*(k+1)):=by
   grind[m8,Aed]
  have hA:I (Ab ((T.take k).map eV)++[di 0])=2*k+1:=by grind
  have hm':m8 g T (k+1)=(Ab ((T.take k).map eV)++[di 0])++ .v (.list (x.az.map eV))::(fj g (I T)).drop (2*(k+1)):=by
   rw[m8,IW,hx,Option.toList_some, ←EF,hx0];simp
  have hgk:=hg k (by omega)
  refine⟨Z.set k none,by grind,fun j hj=>by grind,cvC h3 ?_⟩
  have hc:=BY (σ:=⟨a::b::c::d::G (m8 g T k)::Z,[]⟩) (p:=4) (q:=k+5) (i:=2*k+1) (sz:=2) (cs:=m8 g T k) (xs:=x.az.map eV) (by decide) rfl hz (by omega) (by
   grind) (fun v hv=>by
   grind[AG,V.size]) e
  simp_all
theorem Ajg(ty:D)(s:Int)(T:List b9)(hT:∀x∈T,x.n=0)(hk2:∀x∈T,I x.az=2)(e:List D):∃Z,Cv e (j6 ty s (I T) (fj (gI (I T) (I T)) (I T)) (dh T)) e ⟨G [di 0,.v .nils]::G (Az ty)::G [di 0,cq [lf s,.mk 0 T]]::none::none::Z,[]⟩:=by
 obtain⟨Z,_,_,h⟩:=AfW (gI (I T) (I T)) T hT hk2 (fun j hj=>by grind[gI]) (G [di 0,.v .nils]) (G (Az ty)) (G [di 0,.arr 3 0 2]) (G [di s,cq [],di 0,.arr 4 0 (I T)]) e (I T) (HP _)
 have hm:m8 (gI (I T) (I T)) T (I T)=Ab (T.map eV):=by
  grind[m8,S6]
 rw[hm] at h
 have sz2:∀l:List b9,∀v∈l.map eV,v.size=2:=fun l v hv=>by
  grind[AG,V.size]
 refine⟨Z,cvC h ?_⟩
 have h1:=BY (σ:=⟨G [di 0,.v .nils]::G (Az ty)::G [di 0,.arr 3 0 2]::G [di s,cq [],di 0,.arr 4 0 (I T)]::G (Ab (T.map eV))::Z,[]⟩) (p:=3) (q:=4) (i:=3) (sz:=2) (cs:=[di s,cq [],di 0,.arr 4 0 (I T)]) (xs:=T.map eV) (by decide) rfl rfl (by decide) (by grind) (sz2 T) e
 refine cvC h1 ?_
 have e3:Ab ([lf s,.mk 0 T].map eV)=[di s,cq [],di 0,cq T]:=by rw[AF,AF];rfl
 have h2:=BY (σ:=⟨G [di 0,.v .nils]::G (Az ty)::G [di 0,.arr 3 0 2]::G [di s,cq [],di 0,cq T]::none::Z,[]⟩) (p:=2) (q:=3) (i:=1) (sz:=2) (cs:=[di 0,.arr 3 0 2]) (xs:=[lf s,.mk 0 T].map eV) (by decide) rfl (by grind) (by decide) rfl (sz2 _) e
 exact h2
noncomputable abbrev BD:=Tryz.f182
noncomputable def Dj:=yl BD
abbrev GG(n:Int)(N:Nat)(C:List D):St:=⟨[G [di 0,.v .nils],G C,G [di n,.arr 1 0 N]],[]⟩
abbrev m0(n:Int)(xs:List b9):St:=GG n (I xs) (Ab (xs.map eV))
noncomputable abbrev GY:List KI:=[kl Dj [1,1,1,1,0,1,0,0],.blk 2,kc Dj [1,1,1,1,1]]
noncomputable abbrev mq:List KI:=[kl Dj [1,1,1,1,0,1,0,0,1,0,0,1,0,0],.blk 4,.blk 3,kc Dj [1,1,1,1,0,1,0,0,1,1]]
theorem ML(A B:List b9)(a b:b9):(Ab ((A++a::B).map eV)).take (I A*2)++Az (dV b)++(Ab ((A++a::B).map eV)).drop (I A*2+2)=Ab ((A++b::B).map eV):=by
 grind[AT,Ha,AF,Az]
theorem Ala(t:cr)(n:Int)(L R:List b9)(x y:b9)(hx:x.size<=1000000)(hlt:As x y<0)(hN:I L+I R<=1000)(d:D)(σ':St)(i:Nat)
  (next:Rn PP BD 0 d σ' (mq++GY) (cy 117 [(2,.v (.ref (vT t))),(4,.ptr 0 0),(5,.ptr 2 0),(7,di i),(8,di (I L:Nat))]) (m0 n (L++x::y::R))):
  Rn PP BD 0 d σ' (mq++GY) (cy 117 [(2,.v (.ref (vT t))),(4,.ptr 0 0),(5,.ptr 2 0),(7,di i),(8,di (I L+1:Nat))]) (m0 n (L++y::x::R)):=by
 have hc:=EJ _ x y (HP _) hx
 have s1:=ML (L++[y]) R x y
 have s2:=ML L (y::R) y x
 have d1:=Ep (l:=L++y::x::R) (i:=I L+1) (x:=x) (by simp)
 have d0:=Ep (l:=L++y::x::R) (i:=I L) (x:=y) (by simp)
 rw[show(L++[y])++x::R=L++y::x::R by simp,show(L++[y])++y::R=L++y::y::R by simp,show(L++[y]).length=I L+1 by simp] at s1
 have c1:=AT (L++y::x::R)
 have c2:=AT (L++y::y::R)
 have n1:I (L++y::x::R)=I L+I R+2:=by grind
 have n2:I (L++y::y::R)=I L+I R+2:=by grind
 have n3:I (L++x::y::R)=I L+I R+2:=by grind
 have next:Rn PP BD 0 d σ' (mq++GY) (cy 117 [(2,.v (.ref (vT t))),(4,.ptr 0 0),(5,.ptr 2 0),(7,di i),(8,di (I L:Nat))]) (GG n (I L+I R+2) (Ab ((L++x::y::R).map eV))):=by grind
 show Rn PP BD 0 d σ' (mq++GY) (cy 117 [(2,.v (.ref (vT t))),(4,.ptr 0 0),(5,.ptr 2 0),(7,di i),(8,di (I L+1:Nat))]) (GG n (I (L++y::x::R)) (Ab ((L++y::x::R).map eV)))
 rw[n1]
 rw[n1] at c1
 rw[n2] at c2
 generalize Ab ((L++y::x::R).map eV)=C at*
 generalize Ab ((L++x::y::R).map eV)=C2 at*
 generalize Ab ((L++y::y::R).map eV)=C1 at*
 have hw:yu .i64 (((I L+1:Nat):Int)-1)=(I L:Int):=by rw[Ak];omega
 have k1:0+Z ((I L+1:Nat):Int)*2=(I L+1)*2:=by omega
 have k0:0+Z (I L:Int)*2=I L*2:=by omega
 refine lv 117 [2,3] (.t<|.m (.arr 1 0 (I L+I R+2))<|.m (dV x)<|.m (.arr 1 0 (I L+I R+2))<|.m (dV y)<|.c (di (As x y))<|.t<|.m (.arr 1 0 (I L+I R+2))<|.m (.arr 1 0 (I L+I R+2))<|.m (.arr 1 0 (I L+I R+2))<|.m (dV y)<|.m (.arr 1 0 (I L+I R+2))<|.m (dV x)<|.h .ww<|.h .ww<|.l [ke 2,ke 4,ke 5,ke 7,ch 8 (di (I L:Nat))]) (Y ((↑(I L+1):Int)>0)=J/\G (bo 1 0 (I L+I R+2))=G (bo 1 0 (I L+I R+2))/\0<=(↑(I L+1):Int)/\(↑(I L+1):Int)<(↑(I L+I R+2):Int)/\0+Z (↑(I L+1):Int)*2+2<=I C/\take 2 (W (0+Z (↑(I L+1):Int)*2) C)=(dp x.n x.az)/\G (bo 1 0 (I L+I R+2))=G (bo 1 0 (I L+I R+2))/\0<=yu yt ((↑(I L+1):Int)-1)/\yu yt ((↑(I L+1):Int)-1)<(↑(I L+I R+2):Int)/\0+Z (yu yt ((↑(I L+1):Int)-1))*2+2<=I C/\take 2 (W (0+Z (yu yt ((↑(I L+1):Int)-1))*2) C)=(dp y.n y.az)/\tz x y/\(yi (True))/\Y (As x y<0)=J/\G (bo 1 0 (I L+I R+2))=G (bo 1 0 (I L+I R+2))/\G (bo 1 0 (I L+I R+2))=G (bo 1 0 (I L+I R+2))/\G (bo 1 0 (I L+I R+2))=G (bo 1 0 (I L+I R+2))/\0<=yu yt ((↑(I L+1):Int)-1)/\yu yt ((↑(I L+1):Int)-1)<(↑(I L+I R+2):Int)/\0+Z (yu yt ((↑(I L+1):Int)-1))*2+2<=I C/\take 2 (W (0+Z (yu yt ((↑(I L+1):Int)-1))*2) C)=(dp y.n y.az)/\G (bo 1 0 (I L+I R+2))=G (bo 1 0 (I L+I R+2))/\0<=(↑(I L+1):Int)/\(↑(I L+1):Int)<(↑(I L+I R+2):Int)/\0+Z (↑(I L+1):Int)*2+2<=I C/\take 2 (W (0+Z (↑(I L+1):Int)*2) C)=(dp x.n x.az)/\0<=(↑(I L+1):Int)/\(↑(I L+1):Int)<(↑(I L+I R+2):Int)/\0+Z (↑(I L+1):Int)*2+2<=I C/\0<=yu yt ((↑(I L+1):Int)-1)/\yu yt ((↑(I L+1):Int)-1)<(↑(I L+I R+2):Int)/\0+Z (yu yt ((↑(I L+1):Int)-1))*2+2<=I (take (0+Z (↑(I L+1):Int)*2) C++Az (bt (ab (vi y.n::dt y.az::nV)))++W (0+Z (↑(I L+1):Int)*2+2) C)/\(True/\(G [bo 1 0 (I L+I R+2)]=G [bo 1 0 (I L+I R+2)]/\True)/\True/\True/\True/\True/\True)/\di (yu yt ((↑(I L+1):Int)-1))=di (I L:Int)/\I0 BD 0 d σ' [kl Dj [1,1,1,1,0,1,0,0,1,0,0,1,0,0],bf 4,bf 3,kc Dj [1,1,1,1,0,1,0,0,1,1],kl Dj ib,bf 2,kc Dj [1,1,1,1,1]] (cy 117 [(2,bt (bz (vT t))),(4,bq 0 0),pv,(7,di (i:Int)),(8,di (I L:Int))]) (bh [G [di 0,dn],G (take (0+Z (yu yt ((↑(I L+1):Int)-1))*2) (take (0+Z (↑(I L+1):Int)*2) C++(dp y.n y.az)++W (0+Z (↑(I L+1):Int)*2+2) C)++(dp x.n x.az)++W (0+Z (yu yt ((↑(I L+1):Int)-1))*2+2) (take (0+Z (↑(I L+1):Int)*2) C++(dp y.n y.az)++W (0+Z (↑(I L+1):Int)*2+2) C)),G [di n,bo 1 0 (I L+I R+2)]] [])) ?_
 simp only[hw,k1,k0]
 have e1:C.take ((I L+1)*2)++[di y.n,.v (dt y.az)]++C.drop ((I L+1)*2+2)=C1:=s1
 have e2:C1.take (I L*2)++[di x.n,.v (dt x.az)]++C1.drop (I L*2+2)=C2:=s2
 have e3:C.take ((I L+1)*2)++Az (.v (.agg (vi y.n::dt y.az::nV)))++C.drop ((I L+1)*2+2)=C1:=s1
 simp only[e1,e2,e3]
 refine⟨yr,trivial,by omega,by omega,by omega,d1,trivial,by omega,by omega,by omega,d0,hc,⟨trivial,trivial,trivial,trivial,trivial⟩,HK hlt,trivial,trivial,trivial,by omega,by omega,by omega,d0,trivial,by omega,by omega,by omega,d1,by omega,by omega,by omega,by omega,by omega,by omega,⟨trivial,yn,trivial,trivial,trivial,trivial,trivial⟩,trivial,⟨next⟩⟩
theorem Aes(t:cr)(n:Int)(N:Nat)(C:List D)(d:D)(σ':St)(i:Nat)(hi:i<=1000)
  (next:Rn PP BD 0 d σ' (GY++[]) (cy 117 [(2,.v (.ref (vT t))),(4,.ptr 0 0),(5,.ptr 2 0),(7,di (i+1:Nat))]) (GG n N C)):
  Rn PP BD 0 d σ' (mq++GY) (cy 117 [(2,.v (.ref (vT t))),(4,.ptr 0 0),(5,.ptr 2 0),(7,di i),(8,di (0:Nat))]) (GG n N C):=by
 exact lv 117 [2,3] (.k<|.f<|.l [ke 2,ke 4,ke 5,ch 7 (di (i+1:Nat))]) (Q false/\di (yu yt ((i:Int)+1))=di (↑(i+1):Int)/\_) ⟨rfl,Ae,iK next⟩
theorem Aer(t:cr)(n:Int)(L R:List b9)(x y:b9)(hx:x.size<=1000000)(hlt:¬As x y<0)(hN:I L+I R<=1000)(d:D)(σ':St)(i:Nat)(hi:i<=1000)
  (next:Rn PP BD 0 d σ' (GY++[]) (cy 117 [(2,.v (.ref (vT t))),(4,.ptr 0 0),(5,.ptr 2 0),(7,di (i+1:Nat))]) (m0 n (L++y::x::R))):
  Rn PP BD 0 d σ' (mq++GY) (cy 117 [(2,.v (.ref (vT t))),(4,.ptr 0 0),(5,.ptr 2 0),(7,di i),(8,di (I L+1:Nat))]) (m0 n (L++y::x::R)):=by
 have hc:=EJ _ x y (HP _) hx
 have d1:=Ep (l:=L++y::x::R) (i:=I L+1) (x:=x) (by simp)
 have d0:=Ep (l:=L++y::x::R) (i:=I L) (x:=y) (by simp)
 have c1:=AT (L++y::x::R)
 have n1:I (L++y::x::R)=I L+I R+2:=by simp;omega
 have next:Rn PP BD 0 d σ' (GY++[]) (cy 117 [(2,.v (.ref (vT t))),(4,.ptr 0 0),(5,.ptr 2 0),(7,di (i+1:Nat))]) (GG n (I (L++y::x::R)) (Ab ((L++y::x::R).map eV))):=next
 show Rn PP BD 0 d σ' (mq++GY) (cy 117 [(2,.v (.ref (vT t))),(4,.ptr 0 0),(5,.ptr 2 0),(7,di i),(8,di (I L+1:Nat))]) (GG n (I (L++y::x::R)) (Ab ((L++y::x::R).map eV)))
 rw[n1] at next⊢
 generalize Ab ((L++y::x::R).map eV)=C at*
 have hw:yu .i64 (((I L+1:Nat):Int)-1)=(I L:Int):=by rw[Ak];omega
 have k1:0+Z ((I L+1:Nat):Int)*2=(I L+1)*2:=by omega
 have k0:0+Z (I L:Int)*2=I L*2:=by omega
 refine lv 117 [2,3] (.t<|.m (.arr 1 0 (I L+I R+2))<|.m (dV x)<|.m (.arr 1 0 (I L+I R+2))<|.m (dV y)<|.c (di (As x y))<|.f<|.l [ke 2,ke 4,ke 5,ch 7 (di (i+1:Nat))]) (Y ((↑(I L+1):Int)>0)=J/\G (bo 1 0 (I L+I R+2))=G (bo 1 0 (I L+I R+2))/\0<=(↑(I L+1):Int)/\(↑(I L+1):Int)<(↑(I L+I R+2):Int)/\0+Z (↑(I L+1):Int)*2+2<=I C/\take 2 (W (0+Z (↑(I L+1):Int)*2) C)=(dp x.n x.az)/\G (bo 1 0 (I L+I R+2))=G (bo 1 0 (I L+I R+2))/\0<=yu yt ((↑(I L+1):Int)-1)/\yu yt ((↑(I L+1):Int)-1)<(↑(I L+I R+2):Int)/\0+Z (yu yt ((↑(I L+1):Int)-1))*2+2<=I C/\take 2 (W (0+Z (yu yt ((↑(I L+1):Int)-1))*2) C)=(dp y.n y.az)/\tz x y/\(yi (True))/\Y (As x y<0)=O/\di (yu yt ((i:Int)+1))=di (↑(i+1):Int)/\I0 BD 0 d σ' GY (cy 117 [(2,bt (bz (vT t))),(4,bq 0 0),pv,(7,di (↑(i+1):Int))]) (bh [G [di 0,dn],G C,G [di n,bo 1 0 (I L+I R+2)]] [])) ?_
 simp only[hw,k1,k0]
 refine⟨yr,trivial,by omega,by omega,by omega,d1,trivial,by omega,by omega,by omega,d0,hc,⟨trivial,trivial,trivial,trivial,trivial⟩,HM hlt,Ae,⟨next⟩⟩
theorem Alb(t:cr)(n:Int)(N:Nat)(C:List D)(d:D)(σ':St)(i:Nat)(hi:i<N)
  (next:Rn PP BD 0 d σ' (mq++GY) (cy 117 [(2,.v (.ref (vT t))),(4,.ptr 0 0),(5,.ptr 2 0),(7,di i),(8,di i)]) (GG n N C)):
  Rn PP BD 0 d σ' (GY++[]) (cy 117 [(2,.v (.ref (vT t))),(4,.ptr 0 0),(5,.ptr 2 0),(7,di i)]) (GG n N C):=by
 exact lv 117 [2,3] (.t<|.l [ke 2,ke 4,ke 5,ke 7,ch 8 (di i)]) (Y ((i:Int)<(N:Int))=J/\Q (di (i:Int))/\_) ⟨yr,rfl,iK next⟩
theorem Ai1(t:cr)(n:Int)(xs:List b9)(i:Nat)(hi:¬i<I xs):
  Rn PP BD 0 (dV (.mk n xs)) ba (GY++[]) (cy 117 [(2,.v (.ref (vT t))),(4,.ptr 0 0),(5,.ptr 2 0),(7,di i)]) (m0 n xs):=by
 have sz2:∀l:List b9,∀v∈l.map eV,v.size=2:=fun l v hv=>by
  grind[AG,V.size]
 have hcv:=fun e=>BY (σ:=m0 n xs) (p:=2) (q:=1) (i:=1) (sz:=2) (cs:=[di n,.arr 1 0 (I xs)]) (xs:=xs.map eV) (by decide) rfl rfl (by decide) (by grind) (sz2 xs) e
 refine Mh (hcv _) ?_
 show Rn PP BD 0 (dV (.mk n xs)) ba (GY++[]) (cy 117 [(2,.v (.ref (vT t))),(4,.ptr 0 0),(5,.ptr 2 0),(7,di i)]) ⟨[G [di 0,.v .nils],none,G [di n,cq xs]],[]⟩
 exact lv 117 [2,3] (.f<|.r) (Y ((i:Int)<(I (U eV xs):Int))=O/\Q (dV (b9.mk n xs))) ⟨HM (by grind),rfl⟩
abbrev leV(a b:b9):Prop:=As a b<=0
theorem Ai0(t:cr)(n:Int)(i:Nat)(hi:i<=1000)(S:List b9)(x:b9)(hx:x.size<=1000000)(d:D)(σ':St)(m:Nat):∀L R:List b9,I L=m->I L+I R+I S<=1000->(L++R).Pairwise leV->(∀r∈R,As x r<=0)->
  (∀ys:List b9,ys.Perm (L++x::R)->ys.Pairwise leV->Rn PP BD 0 d σ' (GY++[]) (cy 117 [(2,.v (.ref (vT t))),(4,.ptr 0 0),(5,.ptr 2 0),(7,di (i+1:Nat))]) (m0 n (ys++S)))->
  Rn PP BD 0 d σ' (mq++GY) (cy 117 [(2,.v (.ref (vT t))),(4,.ptr 0 0),(5,.ptr 2 0),(7,di i),(8,di (I L:Nat))]) (m0 n (L++x::R++S)):=by
 induction m with
 |zero=>
  intro L R hl hN hp hR next
  obtain rfl:L=[]:=List.length_eq_zero_iff.1 hl
  exact Aes t n _ _ d σ' i hi (next (x::R) (List.Perm.refl _) (List.pairwise_cons.2 ⟨hR,hp⟩))
 |succ m ih=>
  intro L R hl hN hp hR next
  obtain⟨L',y,rfl⟩:∃L' y,L=L'++[y]:=⟨L.dropLast,L.getLast (by grind),(List.dropLast_concat_getLast _).symm⟩
  simp only[HW,List.length_singleton] at hl hN
  have e0:L'++[y]++x::R++S=L'++y::x::(R++S):=by simp
  rw[e0,show(L'++[y]).length=I L'+1 by simp]
  by_cases hlt:As x y<0
  ·refine Ala t n L' (R++S) x y hx hlt (by grind) d σ' i ?_
   have h:=ih L' (y::R) (by omega) (by grind) (by simp_all) (fun r hr=>by
    grind) (fun ys hy hs=>next ys (hy.trans (by
     have:=(List.perm_middle (a:=y) (l₁:=L'++[x]) (l₂:=R))
     simp only[IQ,Jz,nil_append] at this⊢
     exact(List.Perm.append_left L' (List.Perm.swap y x R)))) hs)
   simp_all
  ·refine Aer t n L' (R++S) x y hx hlt (by grind) d σ' i hi ?_
   rw[←e0]
   refine next (L'++[y]++x::R) (List.Perm.refl _) ?_
   have hyx:As y x<=0:=(M9 y x).2 hlt
   rw[List.pairwise_append] at hp⊢
   refine⟨hp.1,List.pairwise_cons.2 ⟨hR,hp.2.1⟩,fun a ha b hb=>?_⟩
   rcases Iz.1 hb with rfl|hb
   ·rcases I6.1 ha with ha'|ha'
    ·exact ED ((List.pairwise_append.1 hp.1).2.2 a ha' y (by simp)) hyx
    grind
   grind
theorem Aey(t:cr)(n:Int)(T:List b9)(hT:I T<=900)(hz:∀x∈T,x.size<=1000000)(m:Nat):∀(i:Nat) (xs:List b9),1<=i->I T-i=m->xs.Perm T->(xs.take i).Pairwise leV->
  Rn PP BD 0 (dV (.mk n (sortV T))) ba (GY++[]) (cy 117 [(2,.v (.ref (vT t))),(4,.ptr 0 0),(5,.ptr 2 0),(7,di i)]) (m0 n xs):=by
 induction m with
 |zero=>
  intro i xs hi hm hp hs
  have hl:=hp.length_eq
  grind[Ph,List.take_of_length_le,Ai1]
 |succ m ih=>
  intro i xs hi hm hp hs
  have hl:=hp.length_eq
  obtain⟨x,hx⟩:=yk (show i<I xs by omega)
  have hxs:xs=xs.take i++[x]++xs.drop (i+1):=by
   conv=>lhs;rw[←List.take_append_drop (i+1) xs,IW,hx]
   rfl
  have hli:I (xs.take i)=i:=by grind
  refine Alb t n _ _ _ _ i (by omega) ?_
  have h:=Ai0 t n i (by omega) (xs.drop (i+1)) x (hz x (hp.mem_iff.1 (HO hx))) (dV (.mk n (sortV T))) ba _ (xs.take i) [] rfl (by grind) (by grind) (fun r hr=>by grind) (fun ys hy hs'=>by
   have hyl:=hy.length_eq
   rw[HW,hli,List.length_singleton] at hyl
   refine ih (i+1) (ys++xs.drop (i+1)) (by omega) (by omega) ?_ (by grind)
   exact(hy.append_right (xs.drop (i+1))).trans (by grind))
  grind
noncomputable abbrev m9:List KI:=[kl Dj [1,1,0,1,0,0],.blk 0,kc Dj [1,1,1]]
theorem Aev(l:List cr)(n:Int)(N k:Nat)(hk:k<N)(hN:N<=1000)(C C':List D)(hC:I C=N*2)(t:cr)(x x':b9)(hx:(C.drop (k*2)).take 2=[.v (vi x.n),.v (dt x.az)])(hC':C.take (k*2)++[.v (vi x'.n),.v (dt x'.az)]++C.drop (k*2+2)=C')(ht:l[k]?=G t)(hc:F0 182 [dT t,dV x] (dV x'))(d:D)(σ':St)
  (next:Rn PP BD 0 d σ' (m9++[]) (cy 117 [(2,.v (.ref (vT (.prod l)))),(4,.ptr 0 0),(5,.ptr 2 0),(6,di (k+1:Nat))]) (GG n N C')):
  Rn PP BD 0 d σ' (m9++[]) (cy 117 [(2,.v (.ref (vT (.prod l)))),(4,.ptr 0 0),(5,.ptr 2 0),(6,di k)]) (GG n N C):=by
 have k0:0+Z (k:Int)*2=k*2:=by omega
 refine lv 117 [2,3] (.t<|.k<|.t<|.m (.arr 1 0 N)<|.x (vT t)<|.m (.arr 1 0 N)<|.m (dV x)<|.c (dV x')<|.h .ww<|.k<|.f<|.l [ke 2,ke 4,ke 5,ch 6 (di (k+1:Nat))]) (Y ((k:Int)<(N:Int))=J/\Y ((k:Int)<(I (jw l):Int))=J/\G (bo 1 0 N)=G (bo 1 0 N)/\0<=(k:Int)/\(jw l)[Z (k:Int)]?=G (vT t)/\G (bo 1 0 N)=G (bo 1 0 N)/\0<=(k:Int)/\(k:Int)<(N:Int)/\0+Z (k:Int)*2+2<=I C/\take 2 (W (0+Z (k:Int)*2) C)=(dp x.n x.az)/\F0 182 [bt (vT t),dV x] (dV x')/\0<=(k:Int)/\(k:Int)<(N:Int)/\0+Z (k:Int)*2+2<=I C/\(yj (True))/\(cr.kd (cr.prod l)==5)=O/\di (yu yt ((k:Int)+1))=di (↑(k+1):Int)/\I0 BD 0 d σ' [kl Dj ee,bf 0,kc Dj [1,1,1]] (cy 117 [(qp l),(4,bq 0 0),pv,(6,di (↑(k+1):Int))]) (bh [G [di 0,dn],G (take (0+Z (k:Int)*2) C++(dp x'.n x'.az)++W (0+Z (k:Int)*2+2) C),G [di n,bo 1 0 N]] [])) ?_
 simp only[k0]
 have hC2:C.take (k*2)++[di x'.n,.v (dt x'.az)]++C.drop (k*2+2)=C':=hC'
 simp only[hC2]
 have hlt:=(HL.1 ht).1
 refine⟨yr,HK (by rw[HH];show(k:Int)<(I l:Int);omega),trivial,by omega,?_,trivial,by omega,by omega,by omega,hx,hc,by omega,by omega,by omega,⟨trivial,trivial,trivial,trivial⟩,rfl,Ae,⟨next⟩⟩
 grind[XF,cr.ps]
theorem Aeu(t:cr)(n:Int)(N k:Nat)(hk:k<N)(hN:N<=1000)(C C':List D)(hC:I C=N*2)(x x':b9)(hx:(C.drop (k*2)).take 2=[.v (vi x.n),.v (dt x.az)])(hC':C.take (k*2)++[.v (vi x'.n),.v (dt x'.az)]++C.drop (k*2+2)=C')(hc:F0 182 [dT t,dV x] (dV x'))(d:D)(σ':St)
  (next:Rn PP BD 0 d σ' (m9++[]) (cy 117 [(2,.v (.ref (vT (.bag t)))),(4,.ptr 0 0),(5,.ptr 2 0),(6,di (k+1:Nat))]) (GG n N C')):
  Rn PP BD 0 d σ' (m9++[]) (cy 117 [(2,.v (.ref (vT (.bag t)))),(4,.ptr 0 0),(5,.ptr 2 0),(6,di k)]) (GG n N C):=by
 have k0:0+Z (k:Int)*2=k*2:=by omega
 refine lv 117 [2,3] (.t<|.k<|.f<|.k<|.t<|.m (.arr 1 0 N)<|.x (vT t)<|.m (.arr 1 0 N)<|.m (dV x)<|.c (dV x')<|.h .ww<|.l [ke 2,ke 4,ke 5,ch 6 (di (k+1:Nat))]) (Y ((k:Int)<(N:Int))=J/\false=O/\(cr.kd (cr.bag t)==5)=J/\G (bo 1 0 N)=G (bo 1 0 N)/\iz 0<=0/\G (eT t)=G (vT t)/\G (bo 1 0 N)=G (bo 1 0 N)/\0<=(k:Int)/\(k:Int)<(N:Int)/\0+Z (k:Int)*2+2<=I C/\take 2 (W (0+Z (k:Int)*2) C)=(dp x.n x.az)/\F0 182 [bt (vT t),dV x] (dV x')/\0<=(k:Int)/\(k:Int)<(N:Int)/\0+Z (k:Int)*2+2<=I C/\(yj (True))/\di (yu yt ((k:Int)+1))=di (↑(k+1):Int)/\I0 BD 0 d σ' [kl Dj ee,bf 0,kc Dj [1,1,1]] (cy 117 [(2,bt (bz (vT (cr.bag t)))),(4,bq 0 0),pv,(6,di (↑(k+1):Int))]) (bh [G [di 0,dn],G (take (0+Z (k:Int)*2) C++(dp x'.n x'.az)++W (0+Z (k:Int)*2+2) C),G [di n,bo 1 0 N]] [])) ?_
 simp only[k0]
 have hC2:C.take (k*2)++[di x'.n,.v (dt x'.az)]++C.drop (k*2+2)=C':=hC'
 simp only[hC2]
 exact⟨yr,trivial,rfl,trivial,by decide,Ih G (XF t),trivial,by omega,by omega,by omega,hx,hc,by omega,by omega,by omega,⟨trivial,trivial,trivial,trivial⟩,Ae,⟨next⟩⟩
theorem Pe(t:cr)(n:Int):F0 182 [dT t,dV (.mk n [])] (dV (.mk n [])):=by
 have hc:=DO _ (.mk n []) (HP _) (by show 1<=_;decide)
 by_cases h5:t.kd=5
 ·exact sv BD 117 [2,3] (.c (dV (.mk n []))<|.n<|.k<|.f<|.n<|.k<|.r) (_/\(cr.kd t !=5)=O/\Q (dV (fm n))) ⟨hc,by grind,rfl⟩
 ·exact sv BD 117 [2,3] (.c (dV (.mk n []))<|.n<|.k<|.t<|.r) (_/\(cr.kd t !=5)=J/\Q (dV (fm n))) ⟨hc,bne_iff_ne.2 h5,rfl⟩
theorem Q1(l:List cr)(n:Int)(ks ks':List b9)(hn:ks≠ [])(hl:I ks=I l)(hl':I ks'=I l)(hz:(b9.mk n ks).size<=900)(hs:∀(i:Nat) (t:cr) (x x':b9),l[i]?=G t->ks[i]?=G x->ks'[i]?=G x'->F0 182 [dT t,dV x] (dV x')):F0 182 [dT (.prod l),dV (.mk n ks)] (dV (.mk n ks')):=by
 have hsz:=(b9.mk n ks).size_eq
 have hle:=b9.length_le ks
 have hks:(b9.mk n ks).az=ks:=rfl
 rw[hks] at hsz
 have hcp:=ub (.mk n ks) hn hz
 have sz2:∀l:List b9,∀v∈l.map eV,v.size=2:=fun l v hv=>by
  obtain⟨y,_,rfl⟩:=I2.1 hv
  rw[AG];rfl
 have loop (m:Nat):∀k:Nat,I ks-k=m->k<=I ks->Rn PP BD 0 (dV (.mk n ks')) ba (m9++[]) (cy 117 [(2,.v (.ref (vT (.prod l)))),(4,.ptr 0 0),(5,.ptr 2 0),(6,di k)]) (GG n (I ks) (Ab ((ks'.take k++ks.drop k).map eV))):=by
  induction m with
  |zero=>
   intro k hm hk
   have e:k=I ks':=by omega
   subst e
   rw[take_length,Ic (by omega),I8 ks']
   have hcv:=fun e=>BY (σ:=GG n (I ks) (Ab (ks'.map eV))) (p:=2) (q:=1) (i:=1) (sz:=2) (cs:=[di n,.arr 1 0 (I ks)]) (xs:=ks'.map eV) (by decide) rfl rfl (by decide) (by rw[HH,hl', ←hl];rfl) (sz2 ks') e
   refine Mh (hcv _) ?_
   show Rn PP BD 0 (dV (.mk n ks')) ba (m9++[]) (cy 117 [(2,.v (.ref (vT (.prod l)))),(4,.ptr 0 0),(5,.ptr 2 0),(6,di (I ks'))]) ⟨[G [di 0,.v .nils],none,G [di n,cq ks']],[]⟩
   exact lv 117 [2,3] (.f<|.k<|.r) (Y ((I ks':Int)<(I (U eV ks'):Int))=O/\Q (dV (b9.mk n ks'))) ⟨HM (by rw[HH];omega),rfl⟩
  |succ m ih=>
   intro k hm hk
   obtain⟨t,ht⟩:=yk (show k<I l by omega)
   obtain⟨x,hx⟩:=yk (show k<I ks by omega)
   obtain⟨x',hx'⟩:∃x,ks'[k]?=G x:=⟨_,HI (show k<I ks' by omega)⟩
   have hd:ks.drop k=x::ks.drop (k+1):=by rw[HX (show k<I ks by omega),(HL.1 hx).2]
   have htk:ks'.take (k+1)=ks'.take k++[x']:=by rw[IW,hx'];rfl
   have hkl:I (ks'.take k)=k:=by rw[Ip];omega
   have hm1:=ML (ks'.take k) (ks.drop (k+1)) x x'
   have hat:=Ep (l:=ks'.take k++x::ks.drop (k+1)) (i:=k) (x:=x) (by rw[Ib (by omega),hkl,Nat.sub_self];rfl)
   rw[hkl] at hm1
   rw[hd]
   have hih:=ih (k+1) (by omega) (by omega)
   rw[htk,IQ,List.singleton_append] at hih
   exact Aev l n (I ks) k (by omega) (by omega) _ _ (by rw[AT,HW,HN,IP,hkl];omega) t x x' hat hm1 ht (hs k t x x' ht hx hx') _ _ hih
 have hlp:=loop _ 0 rfl (Iu _)
 have hF:=Di (.mk n ks)
 have hcall:∀(o:yy) (c:Call) (fo:x8),o.op=.call c->c.callee=.value fo->Ah PP o [.v (.fn 83 [] []),dV (.mk n ks)] ⟨[G [di 0,.v .nils]],[]⟩ (.dagg [di n,.arr 1 0 (I ks)]) ⟨[G [di 0,.v .nils],G (gy (.mk n ks))],[]⟩:=fun o c fo ho hc=>RD (H:=[G [di 0,.v .nils]]) rfl hF hcp ho hc
 have hlp:Rn PP BD 0 (dV (.mk n ks')) ba (m9++[]) (cy 117 [(2,.v (.ref (vT (.prod l)))),(4,.ptr 0 0),(5,.ptr 2 0),(6,di (0:Nat))]) (GG n (I ks) (gy (.mk n ks))):=hlp
 clear hcp
 generalize gy (.mk n ks)=F at*
 exact sv BD 117 [2,3] (.h (.oc (.dagg [di n,.arr 1 0 (I ks)]) ⟨[G [di 0,.v .nils],G F],[]⟩)<|.l [ke 2,ke 4,ke 5,ch 6 (di (0:Nat))]) (_/\Q (di 0)/\_) ⟨hcall,rfl,iK hlp⟩
theorem Aew(t:cr)(n:Int)(T:List b9)(hn:T≠ [])(hz:(b9.mk n T).size<=900)(hs:∀x∈T,F0 182 [dT t,dV x] (dV x)):F0 182 [dT (.bag t),dV (.mk n T)] (dV (.mk n (sortV T))):=by
 have hsz:=(b9.mk n T).size_eq
 have hle:=b9.length_le T
 have hks:(b9.mk n T).az=T:=rfl
 rw[hks] at hsz
 have hcp:=ub (.mk n T) hn hz
 have hsl:=Aey (.bag t) n T (by omega) (fun x hx=>by have:=b9.size_mem hx;omega) _ 1 T (HP _) rfl (List.Perm.refl _) (by
  cases T<;>grind)
 have loop (m:Nat):∀k:Nat,I T-k=m->k<=I T->Rn PP BD 0 (dV (.mk n (sortV T))) ba (m9++[]) (cy 117 [(2,.v (.ref (vT (.bag t)))),(4,.ptr 0 0),(5,.ptr 2 0),(6,di k)]) (GG n (I T) (Ab (T.map eV))):=by
  induction m with
  |zero=>
   intro k hm hk
   have hsl:Rn PP BD 0 (dV (.mk n (sortV T))) ba (GY++[]) (cy 117 [(2,.v (.ref (vT (.bag t)))),(4,.ptr 0 0),(5,.ptr 2 0),(7,di (1:Nat))]) (GG n (I T) (Ab (T.map eV))):=hsl
   generalize Ab (T.map eV)=F at*
   exact lv 117 [2,3] (.f<|.k<|.l [ke 2,ke 4,ke 5,ch 7 (di (1:Nat))]) (Y ((k:Int)<(I T:Int))=O/\Q (di 1)/\_) ⟨yq,rfl,iK hsl⟩
  |succ m ih=>
   intro k hm hk
   obtain⟨x,hx⟩:=yk (show k<I T by omega)
   exact Aeu t n (I T) k (by omega) (by omega) _ _ (AT T) x x (Ep hx) (MK hx) (hs x (HO hx)) _ _ (ih (k+1) (by omega) (by omega))
 have hlp:=loop _ 0 rfl (Iu _)
 have hF:=Di (.mk n T)
 have hcall:∀(o:yy) (c:Call) (fo:x8),o.op=.call c->c.callee=.value fo->Ah PP o [.v (.fn 83 [] []),dV (.mk n T)] ⟨[G [di 0,.v .nils]],[]⟩ (.dagg [di n,.arr 1 0 (I T)]) ⟨[G [di 0,.v .nils],G (gy (.mk n T))],[]⟩:=fun o c fo ho hc=>RD (H:=[G [di 0,.v .nils]]) rfl hF hcp ho hc
 have hlp:Rn PP BD 0 (dV (.mk n (sortV T))) ba (m9++[]) (cy 117 [(2,.v (.ref (vT (.bag t)))),(4,.ptr 0 0),(5,.ptr 2 0),(6,di (0:Nat))]) (GG n (I T) (gy (.mk n T))):=hlp
 clear hcp hsl loop
 generalize gy (.mk n T)=F at*
 exact sv BD 117 [2,3] (.h (.oc (.dagg [di n,.arr 1 0 (I T)]) ⟨[G [di 0,.v .nils],G F],[]⟩)<|.l [ke 2,ke 4,ke 5,ch 6 (di (0:Nat))]) (_/\Q (di 0)/\_) ⟨hcall,rfl,iK hlp⟩
theorem Al7(m:cz)(hm:Dz m):F0 103 [Ad m] (db J):=by
 have h1:∀a b x,A4 x a b=J->F0 102 [di x,di a,di b] (db J):=fun a b x h=>h▸CP x a b
 have hb:∀{x a b:Int},a<=x->x<=b->A4 x a b=J:=fun h1 h2=>by simp[A4,h1,h2]
 obtain⟨hst,hpl⟩:=hm.sz
 have hag:=hm.age
 have hc:=hm.count
 have hle:=hm.ax
 have hlv:=hm.ao
 have hk:=hm.kind
 clear hm
 obtain⟨kind,aw,ay,ax,au,ao,age,av,start⟩:=m
 dsimp only at*
 subst hk
 subst hle
 subst hlv
 refine sv VF 81 [1] (.c (db J)<|.c (db J)<|.k<|.f<|.c (db J)<|.c (db J)<|.c (db J) .r) (F0 102 [di (I (U ae (cz.mk 5 aw ay [] au 0 age av start).aw):Int),di 1,di 8] (db J)/\F0 102 [di (I (U ae (cz.mk 5 aw ay [] au 0 age av start).ay):Int),di 1,di 6] (db J)/\Y ((I (U Al (cz.mk 5 aw ay [] au 0 age av start).av):Int)>12)=O/\F0 102 [di (I (U ae (cz.mk 5 aw ay [] au 0 age av start).ax):Int),di 0,di 0] (db J)/\F0 102 [di (cz.mk 5 aw ay [] au 0 age av start).ao,di 0,di 0] (db J)/\F0 102 [di (cz.mk 5 aw ay [] au 0 age av start).age,di 0,di 3] (db J)/\Q (db J)) ?_
 have b1:A4 (I aw:Int) 1 8=J:=hb (by omega) (by omega)
 have b2:A4 (I ay:Int) 1 6=J:=hb (by omega) (by omega)
 have b3:Y ((I av:Int)>12)=O:=yq
 have b4:A4 age 0 3=J:=hb (by omega) (by omega)
 exact⟨by rw[HH];exact h1 _ _ _ b1,by rw[HH];exact h1 _ _ _ b2,by rw[HH];exact b3,h1 _ _ _ rfl,h1 _ _ _ rfl,h1 _ _ _ b4,rfl⟩
theorem Ali(m:cz)(hm:Dz m):F0 104 [Ad m] (db J):=by
 exact sv MS 32 [1] (.t .r) ((m.kind !=3)=J/\db ((I (cc m.au):Int)==0)=db J) ⟨by rw[hm.kind];rfl,by rw[hm.au];rfl⟩
theorem AlC(m:cz)(hm:Dz m):F0 105 [Ad m] (db J):=by
 obtain⟨hst,hpl⟩:=hm.sz
 have hc:=hm.count
 exact Vq m (by simp only[Gk,Cj,Jp,List.flatten_nil,HW,HH,HR,hm.ax];omega) (by omega) hm.named
noncomputable abbrev AmB:=Tryz.f166
theorem AfX(l:List Int)(hl:I l<=3)(b:Int)(h:∀x∈l,0<=x/\x<=b):F0 166 [cx l,di 3,di b] (db J):=by
 have:=NW l (by omega) (I l) 0 b rfl (fun x hx=>by grind[A4])
 refine sv AmB 18 [] (.t<|.c (db J) .r) (Y ((I (U vi l):Int)<=3)=J/\F0 165 [cx l,di (I (U vi l):Int),di 0,di b] (db J)/\Q (db J)) ?_
 grind
noncomputable abbrev AhC:=Tryz.f167
theorem AdU(m:cz)(hp:1<=I m.ay/\m.ay.length<=1000)(ha:0<=m.age/\m.age<=1000)(r:cf)(h1:r.ar=[]∨∃p lo hi:Int,(0<=p/\p<I m.ay)/\(0<=lo/\lo<=hi/\hi<=m.age+1)/\r.ar=[⟨p,lo,hi⟩])(h2:r.aq=[]∨∃p:Int,(0<=p/\p<I m.ay)/\r.aq=[p]):F0 167 [Ad m,BO r] (db J):=by
 have hw:yt.wrap ((I (m.ay.map ae):Int)-1)=(I m.ay:Int)-1:=GO _ _ (by omega)
 have hwa:yt.wrap (m.age+1)=m.age+1:=Ak
 have hm1:I r.aq<=1:=by grind
 have hfew:=AfX r.aq (by omega) ((I m.ay:Int)-1) (fun x hx=>by
  grind)
 have hml:¬(1:Int)<(I (r.aq.map vi):Int):=by grind
 rcases h1 with e|⟨p,lo,hi,⟨p1,p2⟩,⟨l1,l2,l3⟩,e⟩
 ·refine sv AhC 81 [2,3] (.f<|.c (db J)<|.k<|.n<|.f<|.n<|.f .r) (Y ((I (U dj r.ar):Int)>3)=O/\F0 166 [cx r.aq,di 3,di (yu yt ((I (df m.ay):Int)-1))] (db J)/\Y (0<(I (U dj r.ar):Int))=O/\Y (1<(I (cc r.aq):Int))=O/\Q (db J)) ?_
  grind
 ·have hbt:F0 102 [di p,di 0,di ((I m.ay:Int)-1)] (db J):=by
   grind[CP,A4]
  refine sv AhC 81 [2,3] (.f<|.c (db J)<|.k<|.n<|.t<|.x (dj ⟨p,lo,hi⟩)<|.c (db J)<|.k<|.f<|.f<|.f<|.n<|.f<|.n<|.f .r) (Y ((I (U dj r.ar):Int)>3)=O/\F0 166 [cx r.aq,di 3,di (yu yt ((I (df m.ay):Int)-1))] (db J)/\Y (0<(I (U dj r.ar):Int))=J/\iz 0<=0/\(U dj r.ar)[Z 0]?=G (dj (Tk.mk p lo hi))/\F0 102 [di (Tk.mk p lo hi).place,di 0,di (yu yt ((I (df m.ay):Int)-1))] (db J)/\Y ((Tk.mk p lo hi).low<0)=O/\Y ((Tk.mk p lo hi).low>(Tk.mk p lo hi).high)=O/\Y ((Tk.mk p lo hi).high>yu yt (m.age+1))=O/\Y (yu yt (0+1)<(I (U dj r.ar):Int))=O/\Y (1<(I (cc r.aq):Int))=O/\Q (db J)) ?_
  rw[hw,hwa]
  exact⟨by grind,hfew,by grind,Il _,by grind,hbt,HM (by grind),HM (by grind),HM (by grind),by rw[e];rfl,HM hml,rfl⟩
theorem Aoc(m:cz)(hm:GL m)(r:cf)(hr:r∈m.av):F0 106 [Ad m,BO r] (db J):=by
 have h1:∀a b x,A4 x a b=J->F0 102 [di x,di a,di b] (db J):=fun a b x h=>h▸CP x a b
 have hb:∀{x a b:Int},a<=x->x<=b->A4 x a b=J:=fun h1 h2=>by simp[A4,h1,h2]
 obtain⟨i,hi⟩:=List.getElem?_of_mem hr
 have hR:=hm.av i r hi
 obtain⟨hst,hpl⟩:=hm.n.sz
 have ht:=AdU m (by omega) (by have:=hm.n.age;omega) r hR.ar hR.aq
 have hf:=hR.aj
 have hto:=hR.to
 have hw:yt.wrap ((I (m.aw.map ae):Int)-1)=(I m.aw:Int)-1:=GO _ _ (by omega)
 have hre:=hR.rest
 have hk:=hm.n.kind
 clear hm hr hi hR
 generalize r.name=nm at*
 generalize r.aj=f at*
 generalize r.to=t at*
 generalize r.ar=tk at*
 generalize r.aq=mk at*
 subst hre
 obtain⟨kind,aw,ay,ax,au,ao,age,av,start⟩:=m
 dsimp only at*
 subst hk
 refine sv xd 234 [2,3] (.c (db J)<|.c (db J)<|.c (db J) .r) (F0 102 [di (ey nm f t tk mk).aj,di 0,di (yu yt ((I (U ae (cz.mk 5 aw ay ax au ao age av start).aw):Int)-1))] (db J)/\F0 102 [di (ey nm f t tk mk).to,di 0,di (yu yt ((I (U ae (cz.mk 5 aw ay ax au ao age av start).aw):Int)-1))] (db J)/\F0 167 [bt (A1 (cz.mk 5 aw ay ax au ao age av start)),bt (Al (ey nm f t tk mk))] (db J)/\db ((ey nm f t tk mk).second==0)=db J) ?_
 rw[hw]
 have b1:A4 f 0 ((I aw:Int)-1)=J:=hb hf.1 (by omega)
 have b2:A4 t 0 ((I aw:Int)-1)=J:=hb hto.1 (by omega)
 exact⟨h1 _ _ _ b1,h1 _ _ _ b2,ht,rfl⟩
theorem Aiq(m:cz)(hk:m.kind=5)(hag:0<=m.age/\m.age<=1000):F0 59 [Ad m] (dT (Av m)):=by
 obtain⟨kind,aw,ay,ax,au,ao,age,av,start⟩:=m
 dsimp only at*
 subst hk
 refine sv p8 96 [1] (.a 1<|.h .g .r) (Q (ab (vi 2::vi (I (U ae (cz.mk 5 aw ay ax au ao age av start).aw):Int)::ai nV::ai nV::nV)::nV)/\Ao 2 64/\bt (ab [vi 3,vi 0,ai [],ai [ab [vi 2,vi (I (U ae (cz.mk 5 aw ay ax au ao age av start).aw):Int),ai [],ai []],ab [vi 5,vi 0,ai [],ai [ab [vi 3,vi 0,ai [],ai [ab [vi 2,vi (I (U ae (cz.mk 5 aw ay ax au ao age av start).ay):Int),ai [],ai []],ab [vi 2,vi (yu yt ((cz.mk 5 aw ay ax au ao age av start).age+2)),ai [],ai []]]]]]]])=dT (Av (cz.mk 5 aw ay ax au ao age av start))) ⟨rfl,⟨by decide,by decide⟩,?_⟩
 show bt (ab [vi 3,vi 0,ai [],ai [ab [vi 2,vi (I (aw.map ae):Int),ai [],ai []],ab [vi 5,vi 0,ai [],ai [ab [vi 3,vi 0,ai [],ai [ab [vi 2,vi (I (ay.map ae):Int),ai [],ai []],ab [vi 2,vi (yu yt (age+2)),ai [],ai []]]]]]]])=_
 rw[HH,HH,Ak (n:=age+2)]
 show _=bt (vT (.prod [.lab (I aw),.bag (.prod [.lab (I ay),.lab (age+2)])]))
 rfl
theorem AdE(d:Nat)(t:cr)(hd:d<=100)(h:F0 169 [dT t,di d] (db J)):F0 169 [dT (.bag t),di ((d+1:Nat):Int)] (db J):=by
 rw[dT,TR]
 refine sv N9 132 [2] (.f<|.x (vT t)<|.c (db J) .r) (((↑(d+1):Int)==0)=O/\iz 0<=0/\Q (G (vT t))/\F0 169 [bt (vT t),di (yu yt ((↑(d+1):Int)-1))] (db J)/\Q (db J)) ?_
 have hz:(((d+1:Nat):Int)==0)=O:=Iy.2 (by omega)
 rw[show yt.wrap (((d+1:Nat):Int)-1)=d by rw[Ak];omega]
 exact⟨hz,by decide,rfl,h,rfl⟩
theorem Zb(m:cz)(hm:Dz m):F0 169 [dT (Av m),di 8] (db J):=by
 obtain⟨hst,hpl⟩:=hm.sz
 have hag:=hm.age
 refine LQ 7 _ (by decide) rfl rfl fun t ht=>?_
 simp only[Iz,Jr,or_false] at ht
 rcases ht with rfl|rfl
 ·exact JC 6 _ (by omega) (by omega)
 ·refine AdE 6 _ (by decide) (LQ 5 _ (by decide) rfl rfl fun t ht=>?_)
  simp only[Iz,Jr,or_false] at ht
  rcases ht with rfl|rfl
  ·exact JC 4 _ (by omega) (by omega)
  ·exact JC 4 _ (by omega) (by omega)
theorem AcC(m:cz)(hm:Dz m):F0 107 [dT (Av m)] (di 0):=by
 refine sv AhK 6 [1] (.c (db J) .r) (F0 169 [bt (vT (Av m)),di 8] (db J)/\Q (di 0)) ?_
 grind[Zb]
def oe(t:cr)(l:List b9):Nat->Nat->Bool
 |0,_=>true
 |n+1,k=>(Ax t (l.getD k default)&& !(Y (k>0)&&Y (As (l.getD (k-1) default) (l.getD k default)>0)))&&oe t l n (k+1)
theorem Xi(t:cr)(v:b9)(hv:I v.az<=12)(hz:v.size<=1000000)(h:∀k∈v.az,F0 109 [dT t,dV k] (db (Ax t k)))(n:Nat):∀k:Nat,I v.az-k=n->
  Rn PP Ed 0 (db (oe t v.az n k)) ba ([kl C7 [1,1,1,0,1,0,0],.blk 3,kc C7 [1,1,1,1]]++[]) (cy 169 [(2,.v (.ref (ly 5 0 [] [vT t]))),(3,.v (.ref (Ac v))),(6,di k)]) ba:=by
 induction n with
 |zero=>
  intro k hn
  exact lv 169 [2,3] (.f .r) (Y ((k:Int)<(I (ce v.az):Int))=O/\Q (db J)) ⟨HM (by rw[HH];omega),rfl⟩
 |succ n ih=>
  intro k hn
  obtain⟨x,hx⟩:∃r,v.az[k]?=G r:=⟨_,HI (by omega)⟩
  have hlt:Y ((k:Int)<(I (v.az.map eV):Int))=J:=HK (by rw[HH];omega)
  have hxd:v.az.getD k default=x:=by rw[HQ,hx];rfl
  have ho:=h x (HO hx)
  rw[oe,hxd]
  have hih:=ih (k+1) (by omega)
  generalize oe t v.az n (k+1)=b at*
  cases hb:Ax t x with
  |false=>
   rw[hb] at ho
   exact lv 169 [2,3] (.t<|.x (vT t)<|.x (Ac x)<|.c (db O)<|.k<|.k .r) (_/\iz 0<=0/\Q (G (vT t))/\0<=(k:Int)/\(ce v.az)[Z (k:Int)]?=G (Ac x)/\_/\db O=db (false&& !(Y (k>0)&&Y (As (List.getD v.az (k-1) default) x>0))&&b)) ⟨hlt,by decide,rfl,by omega,Ap hx,ho,by rw[Iq,Iq]⟩
  |true=>
   rw[hb] at ho
   cases k with
   |zero=>
    exact lv 169 [2,3] (.t<|.x (vT t)<|.x (Ac x)<|.c (db J)<|.k<|.k<|.k<|.l [ke 2,ke 3,ch 6 (di ((0:Nat)+1:Nat))]) (_/\iz 0<=0/\Q (G (vT t))/\0<=(↑0:Int)/\(ce v.az)[Z (↑0:Int)]?=G (Ac x)/\_/\Q (di (↑(0+1):Int))/\I0 Ed 0 (db (true&& !(Y (0>0)&&Y (As (List.getD v.az (0-1) default) x>0))&&b)) ba pt (cy 169 [(2,bt (bz (ly 5 0 [] [vT t]))),(jx v),(6,di (↑(0+1):Int))]) d6) ⟨hlt,by decide,rfl,by omega,Ap hx,ho,rfl,⟨by simpa using hih⟩⟩
   |succ k=>
    obtain⟨y,hy⟩:∃r,v.az[k]?=G r:=⟨_,HI (by omega)⟩
    have hyd:v.az.getD k default=y:=by rw[HQ,hy];rfl
    rw[show k+1-1=k by omega,hyd]
    have hyz:=b9.size_mem (HO hy)
    have hvz:=b9.size_eq v
    have hcm:=EJ _ y x (HP _) (by omega)
    have hw1:yu yt (((k+1:Nat):Int)-1)=(k:Int):=by rw[Ak];omega
    have hg:Y (((k+1:Nat):Int)>0)=J:=yr
    by_cases hc:As y x>0
    ·refine lv 169 [2,3] (.t<|.x (vT t)<|.x (Ac x)<|.c (db J)<|.k<|.k<|.t<|.x (Ac y)<|.x (Ac x)<|.c (di (As y x))<|.t .r) (Y ((↑(k+1):Int)<(I (ce v.az):Int))=J/\iz 0<=0/\Q (G (vT t))/\0<=(↑(k+1):Int)/\(ce v.az)[Z (↑(k+1):Int)]?=G (Ac x)/\F0 109 [bt (vT t),dV x] (db J)/\Y ((↑(k+1):Int)>0)=J/\0<=yu yt ((↑(k+1):Int)-1)/\(ce v.az)[Z (yu yt ((↑(k+1):Int)-1))]?=G (Ac y)/\0<=(↑(k+1):Int)/\(ce v.az)[Z (↑(k+1):Int)]?=G (Ac x)/\tz y x/\Y (As y x>0)=J/\db O=db (true&& !(Y (k+1>0)&&Y (As y x>0))&&b)) ?_
     rw[hw1]
     exact⟨hlt,by decide,rfl,by omega,Ap hx,ho,hg,by omega,Ap hy,by omega,Ap hx,hcm,HK hc,by rw[HK hc];simp⟩
    ·refine lv 169 [2,3] (.t<|.x (vT t)<|.x (Ac x)<|.c (db J)<|.k<|.k<|.t<|.x (Ac y)<|.x (Ac x)<|.c (di (As y x))<|.f<|.l [ke 2,ke 3,ch 6 (di (k+1+1:Nat))]) (Y ((↑(k+1):Int)<(I (ce v.az):Int))=J/\iz 0<=0/\Q (G (vT t))/\0<=(↑(k+1):Int)/\(ce v.az)[Z (↑(k+1):Int)]?=G (Ac x)/\F0 109 [bt (vT t),dV x] (db J)/\Y ((↑(k+1):Int)>0)=J/\0<=yu yt ((↑(k+1):Int)-1)/\(ce v.az)[Z (yu yt ((↑(k+1):Int)-1))]?=G (Ac y)/\0<=(↑(k+1):Int)/\(ce v.az)[Z (↑(k+1):Int)]?=G (Ac x)/\tz y x/\Y (As y x>0)=O/\di (yu yt ((↑(k+1):Int)+1))=di (↑(k+1+1):Int)/\I0 Ed 0 (db (true&& !(Y (k+1>0)&&Y (As y x>0))&&b)) ba pt (cy 169 [(2,bt (bz (ly 5 0 [] [vT t]))),(jx v),(6,di (↑(k+1+1):Int))]) d6) ?_
     rw[hw1]
     exact⟨hlt,by decide,rfl,by omega,Ap hx,ho,hg,by omega,Ap hy,by omega,Ap hx,hcm,HM hc,Ae,⟨by rw[HM hc];simpa using hih⟩⟩
theorem AgP(t:cr)(l:List b9)(n:Nat):∀k:Nat,I l-k=n->k<=I l->(oe t l n k=J↔(∀i,k<=i->i<I l->Ax t (l.getD i default)=J)/\∀i,k<=i->0<i->i<I l->As (l.getD (i-1) default) (l.getD i default)<=0):=by
 induction n with
 |zero=>
  grind[oe]
 |succ n ih=>
  intro k hn hk
  rw[oe,HJ,HJ,ih (k+1) (by omega) (by omega)]
  simp only[IA,Bool.and_eq_false_iff,Jk]
  constructor
  ·all_goals grind
  ·grind
theorem AjB(t:cr)(l:List b9):oe t l (I l) 0=(l.all (fun k=>Ax t k)&&WH l):=by
 grind[AgP,Pd,Mr,List.getElem?_of_mem,List.pairwise_iff_getElem]
theorem Afv(t:cr)(v:b9)(hz:v.size<=1000000)(h:∀k∈v.az,F0 109 [dT t,dV k] (db (Ax t k))):F0 109 [dT (.bag t),dV v] (db (Ax (.bag t) v)):=by
 rw[dT,TR]
 refine sv Ed 169 [2,3] (.k<|.k<|.k<|.k<|.b .r (.b .r (.l [ke 2,ke 3,ch 6 (di (0:Nat))]))) (((v.n !=0)=J->db O=db (Ax (cr.bag t) v))/\((v.n !=0)=O->(Y ((I (ce v.az):Int)>12)=J->db O=db (Ax (cr.bag t) v))/\(Y ((I (ce v.az):Int)>12)=O->di 0=di (↑0:Int)/\I0 Ed (I ba.H) (db (Ax (cr.bag t) v)) ba pt (cy 169 [(2,bt (bz (ly 5 0 [] [vT t]))),(jx v),(6,di (↑0:Int))]) ba))) ⟨fun h1=>?_,fun h1=>⟨fun h2=>?_,fun h2=>⟨rfl,⟨?_⟩⟩⟩⟩
 ·have h1:(v.n==0)=O:=by simpa using h1
  simp only[Ax,h1,Iq]
 ·have h2:¬((I v.az:Int)<=12):=by simpa using h2
  simp only[Ax,HM h2,Iq,Jv]
 ·have h1:(v.n==0)=J:=by simpa using h1
  have h2:(I v.az:Int)<=12:=by simpa using h2
  simp only[Ax,h1,HK h2,Is]
  rw[←AjB]
  exact Xi t v (by omega) hz h _ 0 rfl
theorem AaX(m:cz)(v:b9)(hv:v.size<=1000000):F0 109 [dT (Av m),dV v] (db (Ax (Av m) v)):=
 M7 _ v hv fun t ht k hk=>by
  have hks:=b9.size_mem hk
  have hvs:=v.size_eq
  simp only[Iz,Jr,or_false] at ht
  rcases ht with rfl|rfl
  ·exact LA _ k
  ·refine Afv _ k (by omega) fun x hx=>M7 _ x (by have:=b9.size_mem hx;have:=k.size_eq;omega) fun t ht y _=>?_
   grind[LA]
theorem Hm(m:cz)(hm:Dz m)(v:b9):F0 58 [dT (Av m),dV v] (db (Ai (Av m) v)):=by
 refine sv AhA 18 [2,3] (.c (di 0)<|.c (di (min (v.size:Int) 129))<|.b (.c (db (Ax (Av m) v)) .r) .r) (_/\_/\(Y (min (↑(ir v):Int) 129<=128)=J->F0 109 [bt (vT (Av m)),dV v] (db (Ax (Av m) v))/\db (Ax (Av m) v)=db (Ai (Av m) v))/\(Y (min (↑(ir v):Int) 129<=128)=O->db O=db (Ai (Av m) v))) ⟨AcC m hm,Hv _ v (HP _) 128 (by decide) (by decide),fun h1=>?_,fun h1=>?_⟩
 all_goals grind[AaX,Ai]
theorem Ye(m:cz)(hm:GL m):F0 57 [Ad m] (di (if Ai (Av m) m.start then 0 else 17)):=
 VZ m _ (by rw[hm.n.kind];rfl) (Al7 m hm) (Ali m hm) (AlC m hm) (Oy m _ _ (by have:=hm.n.count;omega) (by rw[hm.n.kind];rfl) (fun r hr=>Aoc m hm r hr) (Aiq m hm.n.kind (by have:=hm.n.age;omega)) (Hm m hm m.start) _ 0 rfl)
theorem Wa(m:cz)(hm:BG m):F0 57 [Ad m] (di 0):=by
 have:=Ye m hm
 rwa[hm.start_ok,Ie rfl] at this
theorem Hn(m:cz)(hm:BG m)(v:b9):F0 33 [Ad m,dV v] (db (Ai (Av m) v)):=by
 exact sv AhB 14 [2,3] (.c (di 0)<|.c (dT (Av m))<|.c (db (Ai (Av m) v)) .r) (_/\_/\_/\Q (db (Ai (Av m) v))) ⟨Wa m hm,Aiq m hm.kind (by have:=hm.age;omega),Hm m hm v,rfl⟩
noncomputable abbrev AlY:=Tryz.f116
theorem Aiz(a b:Int)(p:Int×Int):F0 182 [dT (.prod [.lab a,.lab b]),dV (pV p)] (dV (pV p)):=by
 refine Q1 [.lab a,.lab b] 0 [lf p.1,lf p.2] [lf p.1,lf p.2] (by simp) rfl rfl (by show 3<=900;decide) (fun i t x x' ht hx hx'=>?_)
 grind[Pe]
theorem NF:∀ps:List (Int×Int),b9.sizes (ps.map pV)=3*I ps
 |[]=>rfl
 |p::ps=>by
  show(pV p).size+b9.sizes (ps.map pV)=_
  rw[NF ps,HN]
  show 3+_=_
  omega
theorem Ns(ps:List (Int×Int)):(b9.mk 0 (ps.map pV)).size=1+3*I ps:=by grind[NF,b9.size]
theorem GS(s:Int)(ps:List (Int×Int)):(d5 s ps).size=3+3*I ps:=by
 show 1+((lf s).size+((b9.mk 0 (ps.map pV)).size+0))=_
 rw[Ns]
 show 1+(1+_)=_
 omega
theorem Alc(m:cz)(s:Int)(ps:List (Int×Int))(hl:I ps<=100):F0 182 [dT (Av m),dV (d5 s ps)] (dV (d5 s (BK ps))):=by
 have hb:F0 182 [dT (.bag (.prod [.lab (I m.ay),.lab (m.age+2)])),dV (.mk 0 (ps.map pV))] (dV (.mk 0 ((BK ps).map pV))):=by
  by_cases e:ps=[]
  ·subst e
   rw[show BK []=[] by simp[BK]]
   exact Pe _ 0
  ·rw[←U8]
   exact Aew _ 0 (ps.map pV) (by simp_all) (by grind[Ns]) (fun x hx=>by
    obtain⟨p,_,rfl⟩:=I2.1 hx
    grind[Aiz])
 grind[Q1,d5,GS,Pe,Av]
theorem SE(m:cz)(hm:Dz m)(s:Int)(ps:List (Int×Int))(hl:I ps<=40)(hv:Ai (Av m) (d5 s (BK ps))=J):F0 116 [dT (Av m),dV (d5 s ps)] (.tup [dV (d5 s (BK ps)),di 0]):=by
 have h1:=AcC m hm
 have h2:=Alc m s ps (by omega)
 have h3:=Hm m hm (d5 s (BK ps))
 rw[hv] at h3
 generalize Av m=t at*
 have hz:=GS s ps
 generalize d5 s (BK ps)=w at*
 generalize d5 s ps=v at*
 exact sv AlY 27 [2,3] (.c (di 0)<|.k<|.c (di (min (v.size:Int) (128+1)))<|.f<|.c (dV w)<|.c (db J)<|.k<|.r) (_/\_/\Y (min (↑(b9.size v):Int) (128+1)>128)=O/\_/\_/\Q (bk [dV w,di 0])) ⟨h1,Hv _ v (HP _) 128 (by decide) (by decide),yq,h2,h3,rfl⟩
theorem Ae3(m:cz)(hm:Dz m)(s:Int)(ps:List (Int×Int))(hl:I ps<=40)(hv:Ai (Av m) (d5 s (BK ps))=O):F0 116 [dT (Av m),dV (d5 s ps)] (.tup [dV (.mk 0 []),di 5]):=by
 have h1:=AcC m hm
 have h2:=Alc m s ps (by omega)
 have h3:=Hm m hm (d5 s (BK ps))
 rw[hv] at h3
 generalize Av m=t at*
 have hz:=GS s ps
 generalize d5 s (BK ps)=w at*
 generalize d5 s ps=v at*
 exact sv AlY 27 [2,3] (.c (di 0)<|.k<|.c (di (min (v.size:Int) (128+1)))<|.f<|.c (dV w)<|.c (db O)<|.k<|.r) (_/\_/\Y (min (↑(b9.size v):Int) (128+1)>128)=O/\_/\_/\Q (bk [dV (b9.mk 0 []),di 5])) ⟨h1,Hv _ v (HP _) 128 (by decide) (by decide),yq,h2,h3,rfl⟩
noncomputable abbrev Amr:=Tryz.f117
theorem KG(m:cz)(hm:BG m):F0 117 [Ad m] (di 0):=by
 have h:=Wa m hm
 have hk:=hm.kind
 refine sv Amr 12 [1] (.c (di 0)<|.k<|.f<|.r) (tv m/\(m.kind !=5)=O/\Q (di 0)) ?_
 grind
noncomputable abbrev AlW:=Tryz.f114
theorem Zv(m:cz)(hm:BG m):F0 114 [Ad m] (.tup [dT (Av m),di 0]):=by
 have h:=Wa m hm
 have h2:=Aiq m hm.kind ⟨hm.age.1,by have:=hm.age.2;omega⟩
 generalize Av m=t at*
 refine sv AlW 13 [1] (.c (di 0)<|.k<|.c (dT t)<|.r) (tv m/\F0 59 [Ad m] (dT t)/\bk [bt (ab [vi (cr.kd t),vi (cr.sz t),ai (U vi (cr.rk t)),ai (U eT (cr.ps t))]),di 0]=bk [dT t,di 0]) ?_
 grind
theorem Aiv(m:cz)(ha:0<=m.age/\m.age<=1000)(ty:D)(hty:D.pls (Az ty)=J)(s:Int)(ps:List (Int×Int))(hn:I ps<=1000)(hp:∀p∈ps,0<=p.2/\p.2<m.age+2){d:D}{σ':St}
  (fin:Rn PP F7 0 d σ' ([kl Ey [1,1,1,1,1,0,1,0,0],.blk 0,kc Ey [1,1,1,1,1,1]]++[]) (cy 76 [(2,.v (.ref (A1 m))),(4,.ptr 0 0),(7,.ptr 1 0),(9,.ptr 2 0),(10,di (I ps:Nat))]) (j6 ty s (I ps) (fj (gI (I ps) (I ps)) (I ps)) (dh ((ft m ps).map pV)))) (k:Nat):∀i:Nat,I ps-i=k->i<=I ps->
  Rn PP F7 0 d σ' ([kl Ey [1,1,1,1,1,0,1,0,0],.blk 0,kc Ey [1,1,1,1,1,1]]++[]) (cy 76 [(2,.v (.ref (A1 m))),(4,.ptr 0 0),(7,.ptr 1 0),(9,.ptr 2 0),(10,di (i:Nat))]) (j6 ty s (I ps) (fj (gI (I ps) i) (I ps)) (dh ((ps.drop i).map pV)++dh ((ft m (ps.take i)).map pV))):=by
 induction k with
 |zero=>
  intro i hk hi
  have e:i=I ps:=by omega
  subst e
  rw[List.drop_length,take_length]
  exact fin
 |succ k ih=>
  intro i hk hi
  obtain⟨p,hx⟩:=yk (show i<I ps by omega)
  have hd:ps.drop i=p::ps.drop (i+1):=by grind[List.drop_eq_getElem_cons]
  have ht:ft m (ps.take (i+1))=ft m (ps.take i)++[(p.1,E9 m p.2)]:=by grind[ft]
  have hih:=ih (i+1) (by omega) (by omega)
  have eQ:dh ((ps.drop (i+1)).map pV)++dh ((ft m (ps.take (i+1))).map pV)=(dh ((ps.drop (i+1)).map pV)++dh ((ft m (ps.take i)).map pV))++[G (vo (p.1,E9 m p.2))]:=by
   rw[ht,IZ,show ∀a b:List b9,dh (a++b)=dh a++dh b from fun a b=>by simp[dh], ←IQ];rfl
  rw[eQ] at hih
  rw[hd]
  refine Aiu m ha ty hty s (I ps) i (by omega) hn p (hp p (HO hx)) (dh ((ps.drop (i+1)).map pV)++dh ((ft m (ps.take i)).map pV)) (by simp[dh,ft];omega) (fun j cs hj=>?_) hih
  rw[show dh ((ps.drop (i+1)).map pV)++dh ((ft m (ps.take i)).map pV)=dh ((ps.drop (i+1)).map pV++(ft m (ps.take i)).map pV) by simp[dh]] at hj
  obtain⟨y,_,rfl⟩:=LW hj
  exact Di y
noncomputable abbrev su:List KI:=[kl Ey [1,1,1,1,1,0,1,0,0],.blk 0,kc Ey [1,1,1,1,1,1]]
theorem AkQ(m:cz)(t:cr)(s:Int)(T:List b9)(hT:∀x∈T,va x)(w:b9)(hs:F0 116 [dT t,dV (.mk 0 [lf s,.mk 0 T])] (.tup [dV w,di 0])):
  Rn PP F7 0 (.tup [dV w,di 0]) ba (su++[]) (cy 76 [(2,.v (.ref (A1 m))),(4,.ptr 0 0),(7,.ptr 1 0),(9,.ptr 2 0),(10,di (I T:Nat))]) (j6 (dT t) s (I T) (fj (gI (I T) (I T)) (I T)) (dh T)):=by
 obtain⟨Z,hcv⟩:=Ajg (dT t) s T (fun x hx=>(hT x hx).1) (fun x hx=>(hT x hx).2) (cy 76 [(2,.v (.ref (A1 m))),(4,.ptr 0 0),(7,.ptr 1 0),(9,.ptr 2 0),(10,di (I T:Nat))])
 refine Mh hcv ?_
 have hgo:Rn PP F7 0 (.tup [dV w,di 0]) ba (su++[]) (cy 76 [(2,.v (.ref (A1 m))),(4,.ptr 0 0),(7,.ptr 1 0),(9,.ptr 2 0),(10,di (I T:Nat))]) ⟨[G [di 0,.v .nils],G (Az (dT t)),G [di 0,cq [lf s,.mk 0 T]]],[]⟩:=by
  exact lv 76 [2,3] (.x (Ac (.mk 0 T))<|.f<|.c (.tup [dV w,di 0])<|.r) (iz 0<=1/\G (eV (b9.mk 0 T))=G (Ac (b9.mk 0 T))/\Y ((I T:Int)<(I (U eV (b9.az (b9.mk 0 T))):Int))=O/\_/\bk [bt (sh w.n w.az),di 0]=bk [dV w,di 0]) ⟨by decide,Ih G (AG _),HM (by grind[b9.az]),hs,rfl⟩
 refine C0 (H':=[G [di 0,.v .nils],G (Az (dT t)),G [di 0,cq [lf s,.mk 0 T]]]) (e':=cy 76 [(2,.v (.ref (A1 m))),(4,.ptr 0 0),(7,.ptr 1 0),(9,.ptr 2 0),(10,di (I T:Nat))]) (m:=0) (fun _ _ h=>h.2) id (Iu _) (fun i _=>rfl) (fun i j _ _ h=>h) (fun i cs hi=>?_) (by rfl) (by rfl) hgo
 match i,hi with
 |0,hi=>simp at hi;subst hi;exact⟨rfl,by rfl⟩
 |1,hi=>
  have hp:D.pls (Az (dT t))=J:=rfl
  grind[A6,AO]
 |2,hi=>
  have hi:G (G [di 0,cq [lf s,.mk 0 T]])=G (G cs):=hi
  simp only[Ir] at hi
  subst hi
  exact⟨rfl,rfl⟩
 |i+3,hi=>grind
theorem WD(m:cz)(hm:BG m)(s:Int)(ps:List (Int×Int))(hw:qv m s ps)(hne:ps≠ [])(hv:Ai (Av m) (d5 s ps)=J)(hv2:Ai (Av m) (d5 s (BK (ft m ps)))=J):F0 112 [Ad m,dV (d5 s ps)] (.tup [dV (d5 s (BK (ft m ps))),di 0]):=by
 have hlen:=hw.len
 have ha:0<=m.age/\m.age<=1000:=⟨hm.age.1,by have:=hm.age.2;omega⟩
 have h1:=KG m hm
 have h2:=Hn m hm (d5 s ps)
 rw[hv] at h2
 have h3:=Zv m hm
 have hol:I (ft m ps)=I ps:=by simp[ft]
 have h4:=SE m hm.n s (ft m ps) (by omega) hv2
 have hcp:=Ape (lf s) (.mk 0 (ps.map pV)) rfl rfl (by grind[Ns]) (fun y hy=>by
  obtain⟨p,_,rfl⟩:=I2.1 hy
  exact⟨rfl,rfl⟩) (by simpa[b9.az] using hne) (d5 s ps) rfl rfl
 have hkl:(b9.mk 0 (ps.map pV)).az.length=I ps:=by show(ps.map pV).length=_;simp
 rw[hkl] at hcp
 have hend:=AkQ m (Av m) s ((ft m ps).map pV) (fun x hx=>by
  obtain⟨p,_,rfl⟩:=I2.1 hx
  exact⟨rfl,rfl⟩) _ h4
 rw[HH,hol] at hend
 have hlp:=Aiv m ha (dT (Av m)) rfl s ps (by omega) (fun p hp=>(hw.tok p hp).2) hend _ 0 rfl (Iu _)
 rw[Jt,show ft m (ps.take 0)=[] by rfl,show dh (([]:List (Int×Int)).map pV)=[] from rfl,I8 (dh _)] at hlp
 obtain⟨n,hn⟩:∃n,I ps=n:=⟨_,rfl⟩
 have hO:I (dh (ps.map pV))=n:=by grind[LV]
 have hOget:=fun(i:Nat) (cs:List D) (h:(dh (ps.map pV))[i]?=G (G cs))=>(LW h).elim fun y hy=>(show D.pls cs=J by grind[Di])
 have hOren:=fun ρ τ=>UR ρ τ (ps.map pV)
 have hOok:=fun n=>P1 (n:=n) (ps.map pV)
 rw[hn] at hcp hlp
 change Aa PP _ _ _ (.dagg [di 0,.arr 0 0 2]) ⟨G (Hj (lf s) 1 n)::G (ec 2 n)::dh (ps.map pV),[]⟩ at hcp
 clear hend h4 hv hv2
 generalize d5 s (BK (ft m ps))=w at*
 generalize d5 s ps=c at*
 generalize dh (ps.map pV)=Q at*
 have hty:D.pls (Az (dT (Av m)))=J:=rfl
 have hcall:∀(o:yy) (cl:Call) (fo:x8),o.op=.call cl->cl.callee=.value fo->Ah PP o [.v (.fn 83 [] []),dV c] ⟨[G [di 0,.v .nils],G (Az (dT (Av m)))],[]⟩ (.dagg [di 0,.arr 2 0 2]) ⟨G [di 0,.v .nils]::G (Az (dT (Av m)))::(G (Hj (lf s) 3 n)::G (ec 4 n)::Q),[]⟩:=fun o cl fo ho hc=>by
  have h:=B3 (σ:=⟨[G [di 0,.v .nils],G (Az (dT (Av m)))],[]⟩) ho hc (fD:=.v (.fn 83 [] [])) rfl (ds:=[dV c]) [] id hcp (.cons (.ren (dc:=dV c) rfl) .nil) .nil (by simp) rfl (by simp) (by simp) (by rfl) (by
   grind[cm,KX,D.okNs,D.okN])
  have e1:Da (d8 2 []) id (G (Hj (lf s) 1 n)::G (ec 2 n)::Q)=G (Hj (lf s) 3 n)::G (ec 4 n)::Q:=by
   show G (D.rens (d8 2 []) id (Hj (lf s) 1 n))::G (D.rens (d8 2 []) id (ec 2 n))::Da (d8 2 []) id Q=_
   rw[hOren,GT 2 4 _ (fun i _=>by grind[d8])]
   rfl
  have h:Ah PP o [.v (.fn 83 [] []),dV c] ⟨[G [di 0,.v .nils],G (Az (dT (Av m)))],[]⟩ ((bi [di 0,.arr 0 0 2]).ren (d8 2 []) id) ⟨G [di 0,.v .nils]::G (Az (dT (Av m)))::Da (d8 2 []) id (G (Hj (lf s) 1 n)::G (ec 2 n)::Q),[]⟩:=h
  rw[e1] at h
  exact h
 have hgo:Rn PP F7 0 (.tup [dV w,di 0]) ba (su++[]) (cy 76 [(2,.v (.ref (A1 m))),(4,.ptr 0 0),(7,.ptr 1 0),(9,.ptr (n+4) 0),(10,di (0:Nat))]) ⟨G [di 0,.v .nils]::G (Az (dT (Av m)))::((G (Hj (lf s) 3 n)::G (ec 4 n)::Q)++[G [di 0,.arr 2 0 2]]),[]⟩:=by
  have hH:(j6 (dT (Av m)) s n (fj (gI n 0) n) Q).H.length=n+5:=by grind
  refine C0 (H':=(j6 (dT (Av m)) s n (fj (gI n 0) n) Q).H) (e':=cy 76 [(2,.v (.ref (A1 m))),(4,.ptr 0 0),(7,.ptr 1 0),(9,.ptr 2 0),(10,di (0:Nat))]) (m:=0) (fun _ _ h=>h.2) (fun i=>if i<2 then i else if i=2 then n+4 else i-1) (Iu _) (fun i hi=>by omega) (fun i j hi hj h=>?_) (fun i cs hi=>?_) (by rfl) (by rfl) hlp
  ·grind
  ·rw[hH]
   match i,hi with
   |0,hi=>simp at hi;subst hi;exact⟨rfl,by rfl⟩
   |1,hi=>
    grind[A6,AO]
   |2,hi=>
    simp at hi;subst hi
    refine⟨?_,by simp[D.okNs,D.okN]⟩
    grind[D.rens,D.ren]
   |3,hi=>
    have hi:G (G [di s,cq [],di 0,.arr 4 0 n])=G (G cs):=hi
    simp only[Ir] at hi
    subst hi
    exact⟨rfl,by rfl⟩
   |4,hi=>
    have hi:G (G (fj (gI n 0) n))=G (G cs):=hi
    simp only[Ir] at hi
    subst hi
    refine⟨?_,Ahq n fun j hj=>AlP (by omega) hj⟩
    rw[U1 (g':=fun j=>4+j) n fun j hj=>?_]
    ·rfl
    grind[gI]
   |i+5,hi=>
    grind[AO,A6]
 have hHs:I (G (Hj (lf s) 3 n)::G (ec 4 n)::Q)=n+2:=by grind
 generalize G (Hj (lf s) 3 n)::G (ec 4 n)::Q=Hs at*
 refine sv F7 76 [2,3] (.c (di 0)<|.k<|.c (db J)<|.k<|.c (.tup [dT (Av m),di 0])<|.h (.oc (.dagg [di 0,.arr 2 0 2]) ⟨G [di 0,.v .nils]::G (Az (dT (Av m)))::Hs,[]⟩)<|.h (.o (.ptr (n+4) 0) ⟨G [di 0,.v .nils]::G (Az (dT (Av m)))::(Hs++[G [di 0,.v .nils]]),[]⟩)<|.h (.o .undef ⟨G [di 0,.v .nils]::G (Az (dT (Av m)))::(Hs++[G [di 0,.arr 2 0 2]]),[]⟩)<|.l [ke 2,ke 4,ke 7,ke 9,ch 10 (di (0:Nat))]) (_/\_/\_/\_/\Ah PP (Oper.mk (G 9) (Op.alloc 31) 0 "ref.go:83" #[] none) [] (bh (G [di 0,dn]::G [di (cr.kd (Av m)),di (cr.sz (Av m)),bt (cw (cr.rk (Av m))),bt (ai [eT (cr.lab (I m.aw:Int)),eT (cr.bag (cr.prod [cr.lab (I m.ay:Int),cr.lab (m.age+2)]))])]::Hs) []) (bq (n+4) 0) (bh (G [di 0,dn]::G [di (cr.kd (Av m)),di (cr.sz (Av m)),bt (cw (cr.rk (Av m))),bt (ai [eT (cr.lab (I m.aw:Int)),eT (cr.bag (cr.prod [cr.lab (I m.ay:Int),cr.lab (m.age+2)]))])]::(Hs++[G [di 0,dn]])) [])/\Ah PP (Oper.mk none (Op.store 31 (Operand.tmp 9) (Operand.tmp 30)) 0 "ref.go:83" #[Edge.mk 2 Ground.data,Edge.mk 1 Ground.data,Edge.mk 1 Ground.chain,Edge.mk 0 Ground.phase,Edge.mk 1 Ground.phase,Edge.mk 2 Ground.phase] none) [bq (n+4) 0,bi na] (bh (G [di 0,dn]::G [di (cr.kd (Av m)),di (cr.sz (Av m)),bt (cw (cr.rk (Av m))),bt (ai [eT (cr.lab (I m.aw:Int)),eT (cr.bag (cr.prod [cr.lab (I m.ay:Int),cr.lab (m.age+2)]))])]::(Hs++[G [di 0,dn]])) []) bj (bh (G [di 0,dn]::G [di (cr.kd (Av m)),di (cr.sz (Av m)),bt (cw (cr.rk (Av m))),bt (ai [eT (cr.lab (I m.aw:Int)),eT (cr.bag (cr.prod [cr.lab (I m.ay:Int),cr.lab (m.age+2)]))])]::(Hs++[G na])) [])/\di 0=di (↑0:Int)/\_) ⟨h1,h2,h3,hcall,?_,?_,rfl,iK hgo⟩
 ·have hN:n+4=I (G [di 0,.v .nils]::G (Az (dT (Av m)))::Hs):=by grind
  rw[hN]
  exact M3 rfl (xs:=[vi 0,.nils]) rfl
 ·have h:=L8 (P:=PP) (o:=Oper.mk none (Op.store 31 (Operand.tmp 9) (Operand.tmp 30)) 0 "ref.go:83" #[Edge.mk 2 Ground.data,Edge.mk 1 Ground.data,Edge.mk 1 Ground.chain,Edge.mk 0 Ground.phase,Edge.mk 1 Ground.phase,Edge.mk 2 Ground.phase] none) (σ:=⟨G [di 0,.v .nils]::G (Az (dT (Av m)))::(Hs++[G [di 0,.v .nils]]),[]⟩) (d:=.dagg [di 0,.arr 2 0 2]) rfl rfl (n:=2) (b:=true) rfl rfl (q:=n+4) (off:=0) (cs:=[di 0,.v .nils]) (by
   grind) (by decide)
  have e:(G [di 0,.v .nils]::G (Az (dT (Av m)))::(Hs++[G [di 0,.v .nils]])).set (n+4) (G [di 0,.arr 2 0 2])=G [di 0,.v .nils]::G (Az (dT (Av m)))::(Hs++[G [di 0,.arr 2 0 2]]):=by
   simp_all
  have h:Ah PP _ [.ptr (n+4) 0,.dagg [di 0,.arr 2 0 2]] ⟨G [di 0,.v .nils]::G (Az (dT (Av m)))::(Hs++[G [di 0,.v .nils]]),[]⟩ .undef ⟨(G [di 0,.v .nils]::G (Az (dT (Av m)))::(Hs++[G [di 0,.v .nils]])).set (n+4) (G [di 0,.arr 2 0 2]),[]⟩:=h
  rw[e] at h
  exact h
theorem WC(m:cz)(hm:BG m)(s:Int)(hv:Ai (Av m) (d5 s [])=J):F0 112 [Ad m,dV (d5 s [])] (.tup [dV (d5 s []),di 0]):=by
 have h1:=KG m hm
 have h2:=Hn m hm (d5 s [])
 rw[hv] at h2
 have h3:=Zv m hm
 have h4:=SE m hm.n s [] (by decide) (by rw[show BK []=[] by simp[BK]];exact hv)
 rw[show BK []=[] by simp[BK]] at h4
 have hcp:=ub (d5 s []) (by simp[d5,b9.az]) (by grind[GS])
 have hcall:∀(o:yy) (cl:Call) (fo:x8),o.op=.call cl->cl.callee=.value fo->Ah PP o [.v (.fn 83 [] []),dV (d5 s [])] ⟨[G [di 0,.v .nils],G (Az (dT (Av m)))],[]⟩ (.dagg [di 0,.arr 2 0 2]) ⟨[G [di 0,.v .nils],G (Az (dT (Av m))),G [di s,cq [],di 0,cq []]],[]⟩:=fun o cl fo ho hc=>RD (x:=d5 s []) (H:=[G [di 0,.v .nils],G (Az (dT (Av m)))]) rfl rfl hcp ho hc
 have hgo:Rn PP F7 0 (.tup [dV (d5 s []),di 0]) ba (su++[]) (cy 76 [(2,.v (.ref (A1 m))),(4,.ptr 0 0),(7,.ptr 1 0),(9,.ptr 3 0),(10,di (0:Nat))]) ⟨[G [di 0,.v .nils],G (Az (dT (Av m))),G [di s,cq [],di 0,cq []],G [di 0,.arr 2 0 2]],[]⟩:=by
  have sz2:∀l:List b9,∀v∈l.map eV,v.size=2:=fun l v hv=>by
   grind[AG,V.size]
  have e3:Ab ([lf s,.mk 0 []].map eV)=[di s,cq [],di 0,cq []]:=by rfl
  have hcv:=fun e=>BY (σ:=⟨[G [di 0,.v .nils],G (Az (dT (Av m))),G [di s,cq [],di 0,cq []],G [di 0,.arr 2 0 2]],[]⟩) (p:=3) (q:=2) (i:=1) (sz:=2) (cs:=[di 0,.arr 2 0 2]) (xs:=[lf s,.mk 0 []].map eV) (by decide) rfl (by rfl) (by decide) rfl (sz2 _) e
  refine Mh (hcv _) ?_
  show Rn PP F7 0 (.tup [dV (d5 s []),di 0]) ba (su++[]) (cy 76 [(2,.v (.ref (A1 m))),(4,.ptr 0 0),(7,.ptr 1 0),(9,.ptr 3 0),(10,di (0:Nat))]) ⟨[G [di 0,.v .nils],G (Az (dT (Av m))),none,G [di 0,cq [lf s,.mk 0 []]]],[]⟩
  clear hcv hcall hcp
  generalize Av m=t at*
  exact lv 76 [2,3] (.x (Ac (.mk 0 []))<|.k<|.c (.tup [dV (d5 s []),di 0])<|.r) (iz 0<=1/\G (eV (b9.mk 0 []))=G (Ac (b9.mk 0 []))/\_/\Q (bk [dV (d5 s []),di 0])) ⟨by decide,Ih G (AG _),h4,rfl⟩
 generalize Av m=t at*
 exact sv F7 76 [2,3] (.c (di 0)<|.k<|.c (db J)<|.k<|.c (.tup [dT t,di 0])<|.h (.oc (.dagg [di 0,.arr 2 0 2]) ⟨[G [di 0,.v .nils],G (Az (dT t)),G [di s,cq [],di 0,cq []]],[]⟩)<|.l [ke 2,ke 4,ke 7,ke 9,ch 10 (di (0:Nat))]) (_/\_/\_/\_/\Q (di 0)/\_) ⟨h1,h2,h3,hcall,rfl,iK hgo⟩
theorem WB(m:cz)(hm:BG m)(c:b9)(hv:Ai (Av m) c=J):F0 112 [Ad m,dV c] (.tup [dV (nz m c),di 0]):=by
 obtain⟨s,ps,rfl,hw⟩:=Pa hv
 obtain⟨e1,hw2⟩:=Z7 ⟨hm.age.1,by have:=hm.age.2;omega⟩ hw
 rw[e1]
 by_cases hne:ps=[]
 ·subst hne
  rw[show BK (ft m [])=[] by simp[BK,ft]]
  grind[WC]
 grind[WD,Uk]
noncomputable abbrev EG:=Tryz.f118
noncomputable def F4:=yl EG
abbrev vP(l:List (Int×Int)):V:=dt (l.map pV)
abbrev kr(L:List (List (Int×Int))):V:=.list (L.map vP)
theorem Z5(ys:List V):F0 118 [.v (.list ys),.v (AD [])] (.v (.list [.list ys])):=by
 refine sv EG 73 [] (.k<|.r) (Q (bt (ai [ai ys]))) ?_
 rfl
abbrev SC(xs:List V):St:=⟨[],[(1,1,xs)]⟩
noncomputable abbrev sx:List KI:=[kl F4 [1,1,1,0,1,0,0],.blk 0,kc F4 [1,1,1,1]]
theorem SF(l:List (Int×Int)):∀x∈ (l.map pV).map eV,V.size x=2:=by grind[AG,V.size]
noncomputable abbrev gp:=fun a₀=>(U eV (U pV a₀))
theorem AdW(tk:Tk)(l:List (Int×Int))(hl:I l<=100)(k:Nat)(p:Int×Int)(hp:l[k]?=G p)(xs:List V)(hxs:I xs<=100)(hm:jr tk l k=J)(d:D)
  (next:Rn PP EG 0 d ba (sx++[]) (cy 73 [(0,.v (vP l)),(1,.v (AD [tk])),(5,.acc 1 (xs++[vP (l.take k++l.drop (k+1))])),(6,di (k+1:Nat))]) (SC (xs++[vP (l.take k++l.drop (k+1))]))):
  Rn PP EG 0 d ba (sx++[]) (cy 73 [(0,.v (vP l)),(1,.v (AD [tk])),(5,.acc 1 xs),(6,di k)]) (SC xs):=by
 have hk:=(HL.1 hp).1
 have hlen:I ((l.map pV).map eV)=I l:=by simp
 have hpx:((l.map pV).map eV)[Z (k:Int)]?=G (Ac (pV p)):=Ap (by rw[I1,hp];rfl)
 have hsz:=SF l
 have hcut:W 0 (take (Z (k:Int)) ((l.map pV).map eV))++W (Z ((k+1:Nat):Int)) (take (I ((l.map pV).map eV)) ((l.map pV).map eV))=((l.take k++l.drop (k+1)).map pV).map eV:=by
  rw[Jt,take_length,IR,IR,IZ,IZ,map_take,map_take,map_drop,map_drop]
 have hc:=Z5 (((l.take k++l.drop (k+1)).map pV).map eV)
 have hw1:yu .i64 ((k:Int)+1)=((k+1:Nat):Int):=by rw[Ak];omega
 unfold jr at hm
 rw[hp] at hm
 simp only[HJ] at hm
 obtain⟨m1,m2,m3⟩:=hm
 generalize hR:vP (l.take k++l.drop (k+1))=R at next
 refine lv 73 [] (.t<|.x (Ac (pV p))<|.x (Ac (lf p.2))<|.x (Ac (pV p))<|.x (Ac (lf p.1))<|.x (dj tk)<|.t<|.x (dj tk)<|.t<|.x (dj tk)<|.t<|.a 2<|.w<|.w<|.c (.v (.list [R]))<|.w<|.ls (pu k) (SC (xs++[R]))) (Y ((k:Int)<(I (gp l):Int))=J/\0<=(k:Int)/\(gp l)[Z (k:Int)]?=G (Ac (pV p))/\iz 0<=1/\G (eV (fm p.snd))=G (Ac (lf p.snd))/\0<=(k:Int)/\(gp l)[Z (k:Int)]?=G (Ac (pV p))/\iz 0<=0/\G (eV (fm p.fst))=G (Ac (lf p.fst))/\iz 0<=0/\Q (G (dj tk))/\(b9.n (lf p.fst)==tk.place)=J/\iz 0<=0/\Q (G (dj tk))/\Y (b9.n (lf p.snd)>=tk.low)=J/\iz 0<=0/\Q (G (dj tk))/\Y (b9.n (lf p.snd)<=tk.high)=J/\(∀(x:V),x∈U eV (U pV l)->V.size x=2)/\0<=(fun x=>x.snd) (e7 k)/\(fun x=>x.snd) (e7 k)<=(I (gp l):Int)/\Ao (I (W 0 (take (Z ((fun x=>x.snd) (e7 k))) (gp l)))) 32/\(∀(y:V),y∈W 0 (take (Z ((fun x=>x.snd) (e7 k))) (gp l))->V.size y=2)/\(∀(x:V),x∈U eV (U pV l)->V.size x=2)/\0<=(fun x=>x.snd) (yt,yu yt ((k:Int)+1))/\(fun x=>x.snd) (yt,yu yt ((k:Int)+1))<=(I (gp l):Int)/\Q (W 0 (take (Z ((fun x=>x.snd) (e7 k))) (gp l)))/\Ao (I (W 0 (take (Z ((fun x=>x.snd) (e7 k))) (gp l)))+I (W (Z ((fun x=>x.snd) (yt,yu yt ((k:Int)+1)))) (take (I (gp l)) (gp l)))) 32/\(∀(y:V),y∈W (Z ((fun x=>x.snd) (yt,yu yt ((k:Int)+1)))) (take (I (gp l)) (gp l))->V.size y=2)/\(∀(x:V),x∈ [dj tk]->V.size x=3)/\0<=(1:Int)/\(1:Int)<=(I (U dj [tk]):Int)/\F0 118 [bt (ai (W 0 (take (Z ((fun x=>x.snd) (e7 k))) (gp l))++W (Z ((fun x=>x.snd) (yt,yu yt ((k:Int)+1)))) (take (I (gp l)) (gp l)))),bt (ai [])] (bt (ai [R]))/\Q xs/\Ao (I xs+I (R::nV)) 24/\(∀(y:V),y∈ [R]->V.size y=1)/\di (yu yt ((k:Int)+1))=di (↑(k+1):Int)/\Q [(1,1,xs++R::nV)]/\I0 EG 0 d ba [kl F4 iv,bf 0,kc F4 [1,1,1,1]] (cy 73 [(0,bt (vP l)),(1,bt (AD [tk])),(5,br 1 (xs++[R])),(6,di (↑(k+1):Int))]) (SC (xs++[R]))) ?_
 rw[hw1]
 have l1:I (W 0 (take (Z (k:Int)) ((l.map pV).map eV)))<=100:=by simp only[IP,Ip,hlen];omega
 have l2:I (W (Z ((k+1:Nat):Int)) (take (I ((l.map pV).map eV)) ((l.map pV).map eV)))<=100:=by simp only[IP,Ip,hlen];omega
 refine⟨HK (by rw[hlen];omega),by omega,hpx,by decide,Ih G (AG _),by omega,hpx,by decide,Ih G (AG _),by decide,rfl,m1,by decide,rfl,m2,by decide,rfl,m3,hsz,by show(0:Int)<=(k:Int);omega,by show(k:Int)<=_;rw[hlen];omega,⟨IE (Nat.mul_le_mul_right 32 l1) (by decide),IE l1 (by decide)⟩,fun y hy=>hsz y (Ji (List.mem_of_mem_drop hy)),hsz,by show(0:Int)<=((k+1:Nat):Int);omega,by show((k+1:Nat):Int)<=_;rw[hlen];omega,rfl,⟨IE (Nat.mul_le_mul_right 32 (Nat.add_le_add l1 l2)) (by decide),IE (Nat.add_le_add l1 l2) (by decide)⟩,fun y hy=>hsz y (Ji (List.mem_of_mem_drop hy)),fun x hx=>by rw[HY.1 hx];rfl,by decide,Il _,?_,rfl,⟨by show(_+1)*24<=_;omega,by show _+1<=_;omega⟩,fun y hy=>by rw[HY.1 hy, ←hR];rfl,rfl,rfl,⟨next⟩⟩
 grind
theorem AdY(tk:Tk)(l:List (Int×Int))(hl:I l<=100)(k:Nat)(p:Int×Int)(hp:l[k]?=G p)(xs:List V)(hm:jr tk l k=O)(d:D)
  (next:Rn PP EG 0 d ba (sx++[]) (cy 73 [(0,.v (vP l)),(1,.v (AD [tk])),(5,.acc 1 xs),(6,di (k+1:Nat))]) (SC xs)):
  Rn PP EG 0 d ba (sx++[]) (cy 73 [(0,.v (vP l)),(1,.v (AD [tk])),(5,.acc 1 xs),(6,di k)]) (SC xs):=by
 have hk:=(HL.1 hp).1
 have hlen:I ((l.map pV).map eV)=I l:=by simp
 have hpx:((l.map pV).map eV)[Z (k:Int)]?=G (Ac (pV p)):=Ap (by rw[I1,hp];rfl)
 unfold jr at hm
 rw[hp] at hm
 simp only at hm
 by_cases m1:(p.1==tk.place)=J
 ·rw[m1,Is] at hm
  by_cases m2:p.2>=tk.low
  ·rw[HK m2,Is] at hm
   exact lv 73 [] (.t<|.x (Ac (pV p))<|.x (Ac (lf p.2))<|.x (Ac (pV p))<|.x (Ac (lf p.1))<|.x (dj tk)<|.t<|.x (dj tk)<|.t<|.x (dj tk)<|.f<|.ls (pu k) (SC xs)) (Y ((k:Int)<(I (gp l):Int))=J/\0<=(k:Int)/\_/\iz 0<=1/\G (eV (fm p.snd))=G (Ac (lf p.snd))/\0<=(k:Int)/\_/\iz 0<=0/\G (eV (fm p.fst))=G (Ac (lf p.fst))/\iz 0<=0/\Q (G (dj tk))/\_/\iz 0<=0/\Q (G (dj tk))/\Y (b9.n (lf p.snd)>=tk.low)=J/\iz 0<=0/\Q (G (dj tk))/\_/\di (yu yt ((k:Int)+1))=di (↑(k+1):Int)/\Q [(1,1,xs)]/\_) ⟨HK (by rw[hlen];omega),by omega,hpx,by decide,Ih G (AG _),by omega,hpx,by decide,Ih G (AG _),by decide,rfl,m1,by decide,rfl,HK m2,by decide,rfl,hm,Ae,rfl,iK next⟩
  ·exact lv 73 [] (.t<|.x (Ac (pV p))<|.x (Ac (lf p.2))<|.x (Ac (pV p))<|.x (Ac (lf p.1))<|.x (dj tk)<|.t<|.x (dj tk)<|.f<|.k<|.ls (pu k) (SC xs)) (Y ((k:Int)<(I (gp l):Int))=J/\0<=(k:Int)/\_/\iz 0<=1/\G (eV (fm p.snd))=G (Ac (lf p.snd))/\0<=(k:Int)/\_/\iz 0<=0/\G (eV (fm p.fst))=G (Ac (lf p.fst))/\iz 0<=0/\Q (G (dj tk))/\_/\iz 0<=0/\Q (G (dj tk))/\Y (b9.n (lf p.snd)>=tk.low)=O/\di (yu yt ((k:Int)+1))=di (↑(k+1):Int)/\Q [(1,1,xs)]/\_) ⟨HK (by rw[hlen];omega),by omega,hpx,by decide,Ih G (AG _),by omega,hpx,by decide,Ih G (AG _),by decide,rfl,m1,by decide,rfl,HM m2,Ae,rfl,iK next⟩
 ·exact lv 73 [] (.t<|.x (Ac (pV p))<|.x (Ac (lf p.2))<|.x (Ac (pV p))<|.x (Ac (lf p.1))<|.x (dj tk)<|.f<|.k<|.k<|.ls (pu k) (SC xs)) (Y ((k:Int)<(I (gp l):Int))=J/\0<=(k:Int)/\_/\iz 0<=1/\G (eV (fm p.snd))=G (Ac (lf p.snd))/\0<=(k:Int)/\_/\iz 0<=0/\G (eV (fm p.fst))=G (Ac (lf p.fst))/\iz 0<=0/\Q (G (dj tk))/\(b9.n (lf p.fst)==tk.place)=O/\di (yu yt ((k:Int)+1))=di (↑(k+1):Int)/\Q [(1,1,xs)]/\_) ⟨HK (by rw[hlen];omega),by omega,hpx,by decide,Ih G (AG _),by omega,hpx,by decide,Ih G (AG _),by decide,rfl,HU m1,Ae,rfl,iK next⟩
theorem Ag7{tk:Tk}{l:List (Int×Int)}{k:Nat}(h:jr tk l k=J):FM tk l (k+1)=FM tk l k++[l.take k++l.drop (k+1)]:=by
 simp[FM,range_succ,List.filter_append,h]
theorem Aj1{tk:Tk}{l:List (Int×Int)}{k:Nat}(h:jr tk l k=O):FM tk l (k+1)=FM tk l k:=by
 simp[FM,range_succ,List.filter_append,h]
theorem Ag8(tk:Tk)(l:List (Int×Int))(k:Nat):I (FM tk l k)<=k:=by
 rw[FM,HH]
 exact IE (List.length_filter_le _ _) (by rw[List.length_range];exact HP _)
theorem AdZ(tk:Tk)(l:List (Int×Int))(hl:I l<=100)(n:Nat):∀k:Nat,I l-k=n->k<=I l->
  Rn PP EG 0 (.v (kr (FM tk l (I l)))) ba (sx++[]) (cy 73 [(0,.v (vP l)),(1,.v (AD [tk])),(5,.acc 1 ((FM tk l k).map vP)),(6,di k)]) (SC ((FM tk l k).map vP)):=by
 have hlen:I ((l.map pV).map eV)=I l:=by simp
 induction n with
 |zero=>
  intro k hn hk
  have e:k=I l:=by omega
  subst e
  obtain⟨xs,hxs⟩:∃xs,xs=(FM tk l (I l)).map vP:=⟨_,rfl⟩
  rw[←hxs]
  exact lv 73 [] (.f<|.r) (Y ((I l:Int)<(I (gp l):Int))=O/\bt (ai xs)=bt (kr (FM tk l (I l)))) ⟨HM (by rw[hlen];omega),by rw[hxs]⟩
 |succ n ih=>
  intro k hn hk
  obtain⟨p,hp⟩:=yk (show k<I l by omega)
  have hih:=ih (k+1) (by omega) (by omega)
  have hcl:=Ag8 tk l k
  cases hm:jr tk l k with
  |true=>
   rw[Ag7 hm,IZ] at hih
   exact AdW tk l hl k p hp _ (by rw[HH];omega) hm _ hih
  |false=>
   rw[Aj1 hm] at hih
   exact AdY tk l hl k p hp _ hm _ hih
theorem Ait(tk:Tk)(l:List (Int×Int))(hl:I l<=100):F0 118 [.v (vP l),.v (AD [tk])] (.v (kr (FM tk l (I l)))):=by
 have h:=AdZ tk l hl _ 0 rfl (Iu _)
 rw[show FM tk l 0=[] from rfl] at h
 generalize FM tk l (I l)=out at h⊢
 exact sv EG 73 [] (.k<|.h (.q 4 0)<|.h (.nw 5 1 1)<|.ls [ke 0,ke 1,ke 5,ch 6 (di (0:Nat))] (SC [])) (Q (di 0)/\Q [(1,1,nV)]/\_) ⟨rfl,rfl,iK h⟩
theorem AdX(ts:List Tk)(ht:ts=[]∨∃tk,ts=[tk])(l:List (Int×Int))(hl:I l<=100):F0 118 [.v (vP l),.v (AD ts)] (.v (kr (S9 ts l))):=by
 rcases ht with rfl|⟨tk,rfl⟩
 ·exact Z5 _
 ·have e:S9 [tk] l=FM tk l (I l):=by
   show(FM tk l (I l)).flatMap (fun x=>[x])=_
   simp
  rw[e]
  exact Ait tk l hl
noncomputable abbrev AlX:=Tryz.f119
theorem NG(p a:Int):F0 119 [di p,di a] (dV (pV (p,a))):=by
 refine sv AlX 11 [] (.r) (bt (ab [vi 0,ai (qg p a)])=dV (pV (p,a))) ?_
 rfl
noncomputable abbrev Lu:=Tryz.f62
noncomputable def RS:=yl Lu
abbrev Y9(r:cf)(t:cr):St:=⟨[G (rC r),G (Az (dT t))],[]⟩
noncomputable abbrev p5:List KI:=[kl RS [1,1,1,1,1,1,1,1,1,0,1,0,0],.blk 0,kc RS [1,1,1,1,1,1,1,1,1,1]]
theorem L1(s:Int)(ps:List (Int×Int)):dV (d5 s ps)=.v (.agg [vi 0,.list [.agg [vi s,.list []],.agg [vi 0,.list ((ps.map pV).map eV)]]]):=by
 show bt (.agg [vi 0,.list [eV (lf s),eV (.mk 0 (ps.map pV))]])=_
 rw[AG,AG];rfl
theorem AjG(m:cz)(r:cf)(hmk:r.aq=[]∨∃p,r.aq=[p])(t:cr)(L:List (List (Int×Int)))(hL:I L<=1000)(i:Nat)(q:List (Int×Int))(hq:L[i]?=G q)(hql:I q<=100)(os:List b9)(w:b9)(hs:F0 116 [dT t,dV (d5 r.to (q++fy r.aq))] (.tup [dV w,di 0]))(hp:F0 45 [cq os,dV w] (cq (BS os w)))(d:D)
  (next:Rn PP Lu 0 d ba (p5++[]) (cy 108 [(3,.v (.ref (A1 m))),(9,.ptr 0 0),(10,.ptr 1 0),(12,.v (kr L)),(13,cq (BS os w)),(14,di (i+1:Nat))]) (Y9 r t)):
  Rn PP Lu 0 d ba (p5++[]) (cy 108 [(3,.v (.ref (A1 m))),(9,.ptr 0 0),(10,.ptr 1 0),(12,.v (kr L)),(13,cq os),(14,di i)]) (Y9 r t):=by
 have hi:=(HL.1 hq).1
 have hlen:I (L.map vP)=I L:=by simp
 have hqx:(L.map vP)[Z (i:Int)]?=G (vP q):=by grind
 have hsz:=SF q
 have hqe:I ((q.map pV).map eV)=I q:=by simp
 have ok:Ao (I ((q.map pV).map eV)) 32:=⟨by omega,by omega⟩
 have ok1:Ao (I ((q.map pV).map eV)+1) 32:=⟨by omega,by omega⟩
 rcases hmk with hm|⟨p,hm⟩
 ·rw[hm,show q++fy []=q by simp,L1] at hs
  exact lv 108 [3,5] (.t<|.x (vP q)<|.a 1<|.w<|.n<|.f<|.h (.q 22 0)<|.h (.un 15)<|.c (.tup [dV w,di 0])<|.k<|.c (cq (BS os w))<|.ls [ke 3,ke 9,ke 10,ke 12,ch 13 (cq (BS os w)),ch 14 (di (i+1:Nat))] (Y9 r t)) (Y ((i:Int)<(I (U vP L):Int))=J/\0<=(i:Int)/\_/\_/\_/\Y (0<(I (cc r.aq):Int))=O/\_/\_/\Q (cq (BS os w))/\di (yu yt ((i:Int)+1))=di (↑(i+1):Int)/\Q (Y9 r t).H/\_) ⟨yr,by omega,hqx,ok,hsz,HM (by grind),hs,hp,rfl,Ae,rfl,iK next⟩
 ·have hs2:F0 116 [dT t,.v (.agg [vi 0,.list [.agg [vi r.to,.list []],.agg [vi 0,.list ((q.map pV).map eV++[Ac (pV (p,0))])]]])] (.tup [dV w,di 0]):=by
   rw[hm,L1] at hs
   have e:(q.map pV).map eV++[Ac (pV (p,0))]=((q++fy [p]).map pV).map eV:=by rw[IZ,IZ];rfl
   grind
  exact lv 108 [3,5] (.t<|.x (vP q)<|.a 1<|.w<|.n<|.t<|.x (vi p)<|.c (dV (pV (p,0)))<|.w<|.n<|.f<|.h (.q 22 0)<|.h (.un 15)<|.c (.tup [dV w,di 0])<|.k<|.c (cq (BS os w))<|.ls [ke 3,ke 9,ke 10,ke 12,ch 13 (cq (BS os w)),ch 14 (di (i+1:Nat))] (Y9 r t)) (Y ((i:Int)<(I (U vP L):Int))=J/\0<=(i:Int)/\_/\_/\_/\Y (0<(I (cc r.aq):Int))=J/\iz 0<=0/\(cc r.aq)[Z 0]?=G (vi p)/\_/\Q (gp q)/\_/\(∀(y:V),y∈ [Ac (pV (p,0))]->V.size y=2)/\Y (yu yt (0+1)<(I (cc r.aq):Int))=O/\_/\_/\Q (cq (BS os w))/\di (yu yt ((i:Int)+1))=di (↑(i+1):Int)/\Q (Y9 r t).H/\_) ⟨yr,by omega,hqx,ok,hsz,HK (by grind),by decide,by grind,NG p 0,rfl,ok1,fun y hy=>by rw[HY.1 hy];rfl,HM (by rw[hm];show ¬yu .i64 (0+1)<(1:Int);decide),hs2,hp,rfl,Ae,rfl,iK next⟩
theorem AjI(m:cz)(r:cf)(hmk:r.aq=[]∨∃p,r.aq=[p])(t:cr)(L:List (List (Int×Int)))(_:I L<=1000)(i:Nat)(q:List (Int×Int))(hq:L[i]?=G q)(hql:I q<=100)(os:List b9)(hs:F0 116 [dT t,dV (d5 r.to (q++fy r.aq))] (.tup [dV (.mk 0 []),di 5])):
  Rn PP Lu 0 (.tup [cq [],di 1]) ba (p5++[]) (cy 108 [(3,.v (.ref (A1 m))),(9,.ptr 0 0),(10,.ptr 1 0),(12,.v (kr L)),(13,cq os),(14,di i)]) (Y9 r t):=by
 have hi:=(HL.1 hq).1
 have hlen:I (L.map vP)=I L:=by simp
 have hqx:(L.map vP)[Z (i:Int)]?=G (vP q):=by grind
 have hsz:=SF q
 have hqe:I ((q.map pV).map eV)=I q:=by simp
 have ok:Ao (I ((q.map pV).map eV)) 32:=⟨by omega,by omega⟩
 have ok1:Ao (I ((q.map pV).map eV)+1) 32:=⟨by omega,by omega⟩
 rcases hmk with hm|⟨p,hm⟩
 ·rw[hm,show q++fy []=q by simp,L1] at hs
  refine lv 108 [3,5] (.t<|.x (vP q)<|.a 1<|.w<|.n<|.f<|.h (.q 22 0)<|.h (.un 15)<|.c (.tup [dV (.mk 0 []),di 5])<|.k<|.r) (Y ((i:Int)<(I (U vP L):Int))=J/\0<=(i:Int)/\(U vP L)[Z (i:Int)]?=G (vP q)/\Ao (I (gp q)) 32/\(∀(y:V),y∈U eV (U pV q)->V.size y=2)/\Y (0<(I (cc r.aq):Int))=O/\F0 116 [bt (ab [vi (cr.kd t),vi (cr.sz t),cw (cr.rk t),ai (U eT (cr.ps t))]),bt (ab [vi 0,ai [ab [vi r.to,ai []],ab [vi 0,ai (gp q)]]])] (bk [dV (b9.mk 0 []),di 5])/\bk [bt (ai []),di 1]=bk [cq [],di 1]) ?_
  grind
 ·have hs2:F0 116 [dT t,.v (.agg [vi 0,.list [.agg [vi r.to,.list []],.agg [vi 0,.list ((q.map pV).map eV++[Ac (pV (p,0))])]]])] (.tup [dV (.mk 0 []),di 5]):=by
   rw[hm,L1] at hs
   have e:(q.map pV).map eV++[Ac (pV (p,0))]=((q++fy [p]).map pV).map eV:=by rw[IZ,IZ];rfl
   grind
  exact lv 108 [3,5] (.t<|.x (vP q)<|.a 1<|.w<|.n<|.t<|.x (vi p)<|.c (dV (pV (p,0)))<|.w<|.n<|.f<|.h (.q 22 0)<|.h (.un 15)<|.c (.tup [dV (.mk 0 []),di 5])<|.k<|.r) (Y ((i:Int)<(I (U vP L):Int))=J/\0<=(i:Int)/\_/\_/\_/\Y (0<(I (cc r.aq):Int))=J/\iz 0<=0/\(cc r.aq)[Z 0]?=G (vi p)/\_/\Q (gp q)/\_/\(∀(y:V),y∈ [Ac (pV (p,0))]->V.size y=2)/\Y (yu yt (0+1)<(I (cc r.aq):Int))=O/\_/\Q (bk [cq [],di 1])) ⟨yr,by omega,hqx,ok,hsz,HK (by grind),by decide,by grind,NG p 0,rfl,ok1,fun y hy=>by rw[HY.1 hy];rfl,HM (by rw[hm];show ¬yu .i64 (0+1)<(1:Int);decide),hs2,rfl⟩
theorem Anp(m:cz)(r:cf)(t:cr)(L:List (List (Int×Int)))(os:List b9):
  Rn PP Lu 0 (.tup [cq os,di 0]) ba (p5++[]) (cy 108 [(3,.v (.ref (A1 m))),(9,.ptr 0 0),(10,.ptr 1 0),(12,.v (kr L)),(13,cq os),(14,di (I L))]) (Y9 r t):=by
 refine lv 108 [3,5] (.f<|.r) (Y ((I L:Int)<(I (U vP L):Int))=O/\bk [cq os,di 0]=bk [cq os,di 0]) ?_
 grind
theorem WW(l:List b9)(v:b9):b9.sizes (BS l v)<=b9.sizes l+v.size:=by
 have hs:∀a b:List b9,b9.sizes (a++b)=b9.sizes a+b9.sizes b:=fun a b=>by
  induction a<;>grind[b9.sizes]
 grind[b9.sizes,List.take_append_drop,BS]
theorem Oe{B:Nat}:∀(ys os:List b9),(∀y∈ys,y.size<=B)->b9.sizes (ys.foldl BS os)<=b9.sizes os+B*I ys
 |[],os,_=>by simp
 |y::ys,os,h=>by
  have h1:=Oe ys (BS os y) fun z hz=>h z (List.mem_cons_of_mem _ hz)
  grind[WW,Nat.mul_add]
def lw(t:cr)(ys:List b9):List b9×Int:=if ys.all (Ai t)=J then(ys.foldl BS [],0) else([],1)
theorem AjH(m:cz)(hm:Dz m)(r:cf)(hmk:r.aq=[]∨∃p,r.aq=[p])(L:List (List (Int×Int)))(hL:I L<=100)(hq:∀q∈L,I q<=30)(k:Nat):∀i:Nat,I L-i=k->i<=I L->(∀q∈L.take i,Ai (Av m) (d5 r.to (BK (q++fy r.aq)))=J)->
  Rn PP Lu 0 (.tup [cq (lw (Av m) (L.map fun q=>d5 r.to (BK (q++fy r.aq)))).1,di (lw (Av m) (L.map fun q=>d5 r.to (BK (q++fy r.aq)))).2]) ba (p5++[]) (cy 108 [(3,.v (.ref (A1 m))),(9,.ptr 0 0),(10,.ptr 1 0),(12,.v (kr L)),(13,cq (((L.take i).map fun q=>d5 r.to (BK (q++fy r.aq))).foldl BS [])),(14,di i)]) (Y9 r (Av m)):=by
 have hml:I (fy r.aq)<=1:=by
  grind
 have hsz:∀q:List (Int×Int),I q<=30->(d5 r.to (BK (q++fy r.aq))).size<=200:=fun q h=>by
  rw[GS,(H9 _).length_eq,HW];omega
 induction k with
 |zero=>
  intro i hk hi hv
  grind[take_length,lw,Anp]
 |succ k ih=>
  intro i hk hi hv
  obtain⟨q,hx⟩:=yk (show i<I L by omega)
  have hqm:=HO hx
  have hql:=hq q hqm
  have ht:L.take (i+1)=L.take i++[q]:=by grind[List.take_add_one]
  have hal:I (q++fy r.aq)<=40:=by grind
  cases hval:Ai (Av m) (d5 r.to (BK (q++fy r.aq))) with
  |true=>
   have hih:=ih (i+1) (by omega) (by omega) (fun q' hq'=>by
    rw[ht] at hq'
    rcases I6.1 hq' with h|h
    ·exact hv q' h
    ·rw[HY.1 h];exact hval)
   rw[ht,IZ,List.foldl_append] at hih
   have hos:=Oe (B:=200) ((L.take i).map fun q=>d5 r.to (BK (q++fy r.aq))) [] (fun y hy=>by
    obtain⟨q',h,rfl⟩:=I2.1 hy
    exact hsz q' (hq q' (Ji h)))
   rw[HH,Ip] at hos
   have hos3:b9.sizes ([]:List b9)=0:=rfl
   exact AjG m r hmk (Av m) L (by omega) i q hx (by omega) _ _ (SE m hm r.to _ hal hval) (Pq _ _ (by omega) (by have:=hsz q hql;omega)) _ hih
  |false=>
   rw[lw,HZ (fun h=>by
    simp_all)]
   exact AjI m r hmk (Av m) L (by omega) i q hx (by omega) _ (Ae3 m hm r.to _ hal hval)
theorem S8{ts:List Tk}(ht:ts=[]∨∃tk,ts=[tk])(l:List (Int×Int)):I (S9 ts l)<=I l+1/\∀q∈S9 ts l,I q<=I l:=by
 rcases ht with rfl|⟨tk,rfl⟩
 ·grind[S9]
 ·have e:S9 [tk] l=FM tk l (I l):=by
   show(FM tk l (I l)).flatMap (fun x=>[x])=_
   simp
  rw[e]
  grind[FM]
theorem AcS(m:cz)(hm:BG m)(i:Nat)(r:cf)(hi:m.av[i]?=G r)(hmk:r.aq=[]∨∃p,r.aq=[p])(htk:r.ar=[]∨∃tk,r.ar=[tk])(s:Int)(ps:List (Int×Int))(hw:qv m s ps)(hv:Ai (Av m) (d5 s ps)=J):F0 62 [Ad m,di i,dV (d5 s ps)] (if s=r.aj then .tup [cq (lw (Av m) ((S9 r.ar ps).map fun q=>d5 r.to (BK (q++fy r.aq)))).1,di (lw (Av m) ((S9 r.ar ps).map fun q=>d5 r.to (BK (q++fy r.aq)))).2] else .tup [cq [],di 0]):=by
 have hlen:=hw.len
 have h1:=KG m hm
 have h2:=Hn m hm (d5 s ps)
 rw[hv] at h2
 have h3:=Zv m hm
 have h4:=AdX r.ar htk ps (by omega)
 have hir:=(HL.1 hi).1
 have hb:=S8 htk ps
 have hlp:=AjH m hm.n r hmk (S9 r.ar ps) (by omega) (fun q hq=>by have:=hb.2 q hq;omega) _ 0 rfl (Iu _) (fun q hq=>by simp at hq)
 by_cases hf:s=r.aj
 ·rw[Ie hf]
  generalize (lw (Av m) ((S9 r.ar ps).map fun q=>d5 r.to (BK (q++fy r.aq))))=out at*
  generalize S9 r.ar ps=L at*
  have hgo:Rn PP Lu 0 (.tup [cq out.1,di out.2]) ba (p5++[]) (cy 108 [(3,.v (.ref (A1 m))),(9,.ptr 0 0),(10,.ptr 1 0),(12,.v (kr L)),(13,.v .nils),(14,di (0:Nat))]) (Y9 r (Av m)):=Mh (ua (t:=13) _ rfl) hlp
  exact sv Lu 108 [3,5] (.c (di 0)<|.k<|.f<|.f<|.c (db J)<|.k<|.x (Al r)<|.x (Ac (lf s))<|.f<|.c (.tup [dT (Av m),di 0])<|.x (Ac (.mk 0 (ps.map pV)))<|.c (.v (kr L))<|.ls [ke 3,ke 9,ke 10,ke 12,ke 13,ch 14 (di (0:Nat))] (Y9 r (Av m))) (_/\Y ((i:Int)<0)=O/\Y ((i:Int)>=(I (U Al m.av):Int))=O/\_/\0<=(i:Int)/\(U Al m.av)[Z (i:Int)]?=G (Al r)/\iz 0<=0/\G (eV (lf s))=G (Ac (lf s))/\yp/\(b9.n (lf s) !=r.aj)=O/\_/\iz 0<=1/\G (eV (b9.mk 0 (U pV ps)))=G (Ac (b9.mk 0 (U pV ps)))/\_/\yp/\Q (di 0)/\Q [G (rC r),G [di (cr.kd (Av m)),di (cr.sz (Av m)),bt (cw (cr.rk (Av m))),bt (ai (eT (cr.lab (I m.aw:Int))::eT (cr.bag (cr.prod [cr.lab (I m.ay:Int),cr.lab (m.age+2)]))::nV))]]/\_) ⟨h1,yq,HM (by rw[HH];omega),h2,by omega,by rw[IR,I1,hi];rfl,by decide,Ih G (AG _),yn,by rw[hf];exact bne_self_eq_false _,h3,by decide,Ih G (AG _),h4,yn,rfl,rfl,iK hgo⟩
 ·rw[HZ hf]
  clear hlp h4
  exact sv Lu 108 [3,5] (.c (di 0)<|.k<|.f<|.f<|.c (db J)<|.k<|.x (Al r)<|.x (Ac (lf s))<|.t<|.r) (_/\Y ((i:Int)<0)=O/\Y ((i:Int)>=(I (U Al m.av):Int))=O/\_/\0<=(i:Int)/\(U Al m.av)[Z (i:Int)]?=G (Al r)/\iz 0<=0/\G (eV (lf s))=G (Ac (lf s))/\yp/\(b9.n (lf s) !=r.aj)=J/\Q (bk [cq [],di 0])) ⟨h1,yq,HM (by rw[HH];omega),h2,by omega,by rw[IR,I1,hi];rfl,by decide,Ih G (AG _),yn,bne_iff_ne.2 hf,rfl⟩
theorem AnY(t:cr){ys zs:List b9}(h:∀y,y∈ys↔y∈zs):lw t ys=lx t zs:=by
 grind[lw,lx,LP]
theorem AcT(m:cz)(hm:BG m)(i:Nat)(r:cf)(hi:m.av[i]?=G r)(c:b9)(hv:Ai (Av m) c=J):F0 62 [Ad m,di i,dV c] (.tup [cq (Qy (Av m) r c).1,di (Qy (Av m) r c).2]):=by
 obtain⟨s,ps,rfl,hw⟩:=Pa hv
 have hr:=hm.av i r hi
 have h:=AcS m hm i r hi (hr.aq.imp id fun⟨p,_,h⟩=>⟨p,h⟩) (hr.ar.imp id fun⟨_,_,_,_,_,h⟩=>⟨_,h⟩) s ps hw hv
 have e:lw (Av m) ((S9 r.ar ps).map fun q=>d5 r.to (BK (q++fy r.aq)))=lx (Av m) (Z1 r (d5 s ps)):=AnY _ fun y=>by
  grind[Z1,Zy,Aa3,AcJ,S7]
 rw[e] at h
 unfold Qy
 rw[Ie hv,Zz]
 by_cases hf:s=r.aj
 ·rw[Ie hf] at h
  rw[Ie (show(lf s).n=r.aj from hf)]
  exact h
 ·rw[HZ hf] at h
  rw[HZ (show ¬(lf s).n=r.aj from hf)]
  exact h
structure v7(m:cz)(t:cr):Prop where
 chk:F0 57 [Ad m] (di 0)
 val:∀c:b9,c.size<=1000->F0 33 [Ad m,dV c] (db (Ai t c))
 kind:m.kind=2∨m.kind=3∨m.kind=5
 few:I m.av<=12
section
variable {m : cz} {t : cr} (hm : v7 m t) {c : b9} (hcs : c.size <= 1000) (hv : Ai t c = true)
include hm
theorem Tl:F0 32 [Ad m] (di 0):=by
 exact sv Ams 12 [1] (.c (di 0)<|.k<|.f .r) (_/\(m.kind==6)=O/\Q (di 0)) ⟨hm.chk,by rcases hm.kind with h|h|h<;>rw[h]<;>rfl,rfl⟩
include hcs hv
theorem Sx:F0 33 [Ad m,dV c] (db J):=hv▸hm.val c hcs
theorem Alp(hk:m.kind=2)(p:List b9×Int)(hp:F0 111 [Ad m,dV c] (dq p)):F0 60 [Ad m,dV c] (dq p):=by
 refine sv xe 38 [2,3] (.c (di 0)<|.c (db J)<|.k<|.t<|.c (dq p) .r) (mf m/\j7 m c/\(m.kind==2)=J/\F0 111 [Ad m,dV c] (dq p)/\bk [cq p.fst,di p.snd]=dq p) ?_
 grind[Tl,Sx]
theorem Alo(hk:m.kind=3)(p:List b9×Int)(hp:F0 111 [Ad m,dV c] (dq p)):F0 60 [Ad m,dV c] (dq p):=by
 refine sv xe 38 [2,3] (.c (di 0)<|.c (db J)<|.k<|.f<|.t<|.c (dq p) .r) (mf m/\j7 m c/\(m.kind==2)=O/\(m.kind==3)=J/\F0 111 [Ad m,dV c] (dq p)/\bk [cq p.fst,di p.snd]=dq p) ?_
 grind[Tl,Sx]
theorem Aln(hk:m.kind=5)(w:b9)(hp:F0 112 [Ad m,dV c] (.tup [dV w,di 0])):F0 60 [Ad m,dV c] (dq ([w],0)):=by
 refine sv xe 38 [2,3] (.c (di 0)<|.c (db J)<|.k<|.f<|.f<|.t<|.c (.tup [dV w,di 0]) .r) (mf m/\j7 m c/\(m.kind==2)=O/\(m.kind==3)=O/\(m.kind==5)=J/\F0 112 [Ad m,dV c] (bk [dV w,di 0])/\bk [bt (ai [ab [vi w.n,dt w.az]]),di 0]=dq ([w],0)) ?_
 grind[Tl,Sx,AG]
theorem AcR(q:List b9×Int)(hq:F0 60 [Ad m,dV c] (dq q)):F0 34 [Ad m,di (-1),dV c] (dq q):=by
 refine sv vy 78 [3,5] (.c (di 0)<|.k<|.k<|.f<|.c (db J)<|.c (dq q) .r) (mf m/\Y (-1>=(I (U Al m.av):Int))=O/\j7 m c/\F0 60 [Ad m,dV c] (dq q)/\bk [cq q.fst,di q.snd]=dq q) ?_
 grind[Tl,Sx]
theorem Anu(hk:m.kind=5)(i:Nat)(hi:i<I m.av)(p:List b9×Int)(hp:F0 62 [Ad m,di i,dV c] (dq p)):F0 34 [Ad m,di i,dV c] (dq p):=by
 refine sv vy 78 [3,5] (.c (di 0)<|.k<|.f<|.f<|.c (db J)<|.k<|.f<|.f<|.t<|.c (dq p) .r) (mf m/\Y ((i:Int)< -1)=O/\Y ((i:Int)>=(I (U Al m.av):Int))=O/\j7 m c/\((i:Int)== -1)=O/\(m.kind==4)=O/\(m.kind==5)=J/\F0 62 [Ad m,di (i:Int),dV c] (dq p)/\bk [cq p.fst,di p.snd]=dq p) ?_
 grind[Tl,Sx]
theorem AjL(hk:m.kind=2∨m.kind=3)(i:Nat)(hi:i<I m.av)(p p0:b9×Int)(hp0:F0 63 [Ad m,di i,dV c] (dP p0))(hp:F0 64 [Ad m,di i,dV c] (dP p)):F0 34 [Ad m,di i,dV c] (dq (Cu p)):=by
 refine sv vy 78 [3,5] (.c (di 0)<|.k<|.f<|.f<|.c (db J)<|.k<|.f<|.f<|.f<|.c (dP p0)<|.t<|.c (dP p)<|.b .r (.b .r .r)) (mf m/\Y ((i:Int)< -1)=O/\Y ((i:Int)>=(I (U Al m.av):Int))=O/\j7 m c/\((i:Int)== -1)=O/\(m.kind==4)=O/\(m.kind==5)=O/\F0 63 [Ad m,di (i:Int),dV c] (dP p0)/\(m.kind !=1)=J/\F0 64 [Ad m,di (i:Int),dV c] (dP p)/\((p.snd==18)=J->bk pw=dq (Cu p))/\((p.snd==18)=O->((p.snd !=0)=J->bk [bt (ai []),di p.snd]=dq (Cu p))/\((p.snd !=0)=O->bk [bt (ai [ab [vi p.fst.n,dt p.fst.az]]),di 0]=dq (Cu p)))) ?_
 grind[Tl,Sx,Cu,AG]
theorem AcX(ap:Int->List b9×Int)(hl:∀i,(ap i).1.length<=1000)(hap:∀i:Int, -1<=i->i<I m.av->F0 34 [Ad m,di i,dV c] (dq (ap i))):
  F0 18 [Ad m,dV c] (fp (CV ap (I m.av+1) (-1) [])):=by
 have hsz:=hm.few
 refine sv Gn 57 [2,3] (.c (di 0)<|.c (db J)<|.h (.q 7 0)<|.h (.nw 7 1 3)<|.ls sa (FE [])) (_/\_/\Q (di (-1))/\Q [(1,3,nV)]/\I0 Gn (I ba.H) (fp (CV ap (I m.av+1) (-1) [])) ba [kl Cy ib,bf 0,kc Cy [1,1,1,1,1]] (cy 57 (tx m c)) (FE [])) ⟨Tl hm,Sx hm hcs hv,rfl,rfl,⟨?_⟩⟩
 exact OK m (by omega) c ap hl hap (I m.av+1) (-1) [] (by omega) (by omega) (by omega) (by simp)
end
section
variable {m : cz} {t : cr} (hm : v7 m t)
include hm
noncomputable abbrev Am9:=Tryz.f183
theorem AlQ(hk:m.kind≠1)(i:Int):F0 183 [Ad m,di i] (di 15):=by
 exact sv Am9 23 [2] (.c (di 0)<|.k<|.t .r) (_/\(m.kind !=1)=J/\Q (di 15)) ⟨hm.chk,bne_iff_ne.2 hk,rfl⟩
noncomputable abbrev AoN:=Tryz.f120
theorem AoW(hk:m.kind≠1)(i:Int)(c:b9):F0 120 [Ad m,di i,dV c] (.tup [db O,di 15]):=by
 refine sv AoN 26 [3,5] (.c (di 15)<|.k .r) (F0 183 [Ad m,di i] (di 15)/\Q (bk [db O,di 15])) ?_
 grind[AlQ]
noncomputable abbrev AmM:=Tryz.f63
theorem Aps(hk:m.kind≠1)(i:Int)(c:b9):F0 63 [Ad m,di i,dV c] (dP (.mk 0 [],15)):=by
 exact sv AmM 116 [3,5] (.c (.tup [db O,di 15])<|.k .r) (_/\bk [bt mg,di 15]=dP (b9.mk 0 [],15)) ⟨AoW hm hk i c,rfl⟩
end
theorem mj.rf{m:cz}(hm:mj m):v7 m (AH m):=⟨Gq m hm.ok,fun c _=>Qr m hm.ok c,by rcases hm.kind with h|h<;>simp[h],hm.few.1⟩
theorem BG.rf{m:cz}(hm:BG m):v7 m (Av m):=⟨Wa m hm,fun c _=>Hn m hm c,.inr (.inr hm.kind),by have:=hm.count;omega⟩
theorem AgY{m:cz}(hm:BG m){c:b9}(hv:Ai (Av m) c=J)(hl:∀i,(Sq m (Av m) c i).1.length<=1000):F0 18 [Ad m,dV c] (fp (CV (Sq m (Av m) c) (I m.av+1) (-1) [])):=by
 have hcs:c.size<=1000:=by
  obtain⟨s,ps,rfl,hw⟩:=Pa hv
  rw[GS];have:=hw.len;omega
 refine AcX hm.rf hcs hv _ hl fun i h1 h2=>?_
 by_cases h0:i<0
 ·have e:i= -1:=by omega
  subst e
  have ea:Sq m (Av m) c (-1)=([nz m c],0):=by rfl
  rw[ea]
  exact AcR hm.rf hcs hv _ (Aln hm.rf hcs hv hm.kind _ (WB m hm c hv))
 ·obtain⟨k,rfl⟩:∃k:Nat,i=k:=⟨i.toNat,by omega⟩
  obtain⟨r,hr⟩:∃r,m.av[k]?=G r:=⟨_,HI (show k<I m.av by omega)⟩
  have ea:Sq m (Av m) c (k:Nat)=Qy (Av m) r c:=by grind[Sq]
  rw[ea]
  exact Anu hm.rf hcs hv hm.kind k (by omega) _ (AcT m hm k r hr c hv)
theorem Aha{m:cz}(hm:mj m){c:b9}(hv:Ai (AH m) c=J)(hl:∀i,(i5 m (AH m) c i).1.length<=1000):F0 18 [Ad m,dV c] (fp (CV (i5 m (AH m) c) (I m.av+1) (-1) [])):=by
 obtain⟨s,ws,rfl,h⟩:=T8 hm.kind hv
 have hcs:(dx s ws).size<=1000:=by grind[sn]
 refine AcX hm.rf hcs hv _ hl fun i h1 h2=>?_
 by_cases h0:i<0
 ·have e:i= -1:=by omega
  subst e
  have ea:i5 m (AH m) (dx s ws) (-1)=(sortV (fq m (dx s ws) (I m.ay)),0):=by rfl
  rw[ea]
  refine AcR hm.rf hcs hv _ ?_
  rcases hm.kind with hk|hk
  ·exact Alp hm.rf hcs hv hk _ (NY hm h)
  ·exact Alo hm.rf hcs hv hk _ (NY hm h)
 ·obtain⟨k,rfl⟩:∃k:Nat,i=k:=⟨i.toNat,by omega⟩
  obtain⟨r,hr⟩:∃r,m.av[k]?=G r:=⟨_,HI (show k<I m.av by omega)⟩
  have ea:i5 m (AH m) (dx s ws) (k:Nat)=Cu (YH (AH m) r (dx s ws)):=by grind[i5]
  rw[ea]
  have hR:=hm.rule r (HO hr)
  obtain⟨j,hj⟩:∃j:Nat,r.chan=j:=⟨r.chan.toNat,by have:=hR.chan;omega⟩
  obtain⟨w,hw⟩:∃w,ws[j]?=G w:=⟨_,HI (by have:=hR.chan;rw[h.len];omega)⟩
  exact AjL hm.rf hcs hv hm.kind k (by omega) _ _ (Aps hm.rf (by rcases hm.kind with h|h<;>rw[h]<;>decide) k (dx s ws)) (Yz hm h hr hj hw)
theorem AbB:PP.underlying 3=G (.int .i64):=by rfl
theorem To:PP.underlying 117=G (.int .u64):=by rfl
theorem KJ:PP.underlying 27=G (.slice 3):=by rfl
theorem JX:BR PP 27=G (3,1,8,G (.int .i64 0)):=by rfl
noncomputable abbrev Aqf:=Tryz.f245
noncomputable abbrev jg:=(IntKind.bits u64)
noncomputable abbrev wl:=fun (a₀:Nat)=>(BitVec.ofInt jg (a₀:Int)&&&BitVec.ofInt jg 4294967295)
noncomputable abbrev Avr:=(BitVec.ofInt jg 1&&&BitVec.ofInt jg 4294967295)
theorem Aol(n:Nat)(h:n<=12):F0 245 [.v (.int .u64 1),.v (.int .u64 (n:Int))] (.tup [.v (.int .u64 0),.v (.int .u64 (n:Int))]):=by
 refine sv Aqf 51 [] .r (iz 0<=32/\iz 0<=32/\iz 0<=32/\iz 0<=32/\iz 0<=32/\bk [bt (aa u64 (yu u64 (yu u64 (yu u64 (Int.fdiv 1 (2^min (Z 32) jg)*Int.fdiv (n:Int) (2^min (Z 32) jg))+Int.fdiv (yu u64 (yu u64 (Int.fdiv 1 (2^min (Z 32) jg)*yu u64 (↑(BitVec.toNat (wl n)):Int))+Int.fdiv (yu u64 (yu u64 (↑(BitVec.toNat Avr):Int)*yu u64 (↑(BitVec.toNat (wl n)):Int))) (2^min (Z 32) jg))) (2^min (Z 32) jg))+Int.fdiv (yu u64 (yu u64 (↑(BitVec.toNat (BitVec.ofInt jg (yu u64 (yu u64 (Int.fdiv 1 (2^min (Z 32) jg)*yu u64 (↑(BitVec.toNat (wl n)):Int))+Int.fdiv (yu u64 (yu u64 (↑(BitVec.toNat Avr):Int)*yu u64 (↑(BitVec.toNat (wl n)):Int))) (2^min (Z 32) jg)))&&&BitVec.ofInt jg 4294967295)):Int)+yu u64 (yu u64 (↑(BitVec.toNat Avr):Int)*Int.fdiv (n:Int) (2^min (Z 32) jg)))) (2^min (Z 32) jg)))),bt (aa u64 (yu u64 (1*(n:Int))))]=bk [bt (aa u64 0),bt (aa u64 (n:Int))]) ?_
 rcases(show n=0∨n=1∨n=2∨n=3∨n=4∨n=5∨n=6∨n=7∨n=8∨n=9∨n=10∨n=11∨n=12 by omega) with rfl|rfl|rfl|rfl|rfl|rfl|rfl|rfl|rfl|rfl|rfl|rfl|rfl<;>exact⟨by decide,by decide,by decide,by decide,by decide,by kernel_rfl⟩
noncomputable abbrev Aqe:=Tryz.f191
theorem Af2(n:Nat)(h:n<=12):F0 191 [.v (.int .u64 1),.v (.int .u64 (n:Int))] (.tup [.v (.int .u64 0),.v (.int .u64 (n:Int))]):=by
 refine sv Aqe 30 [] (.c (.tup [.v (.int .u64 0),.v (.int .u64 (n:Int))]) .r) (F0 245 [bt (aa u64 1),bt (aa u64 (n:Int))] (bk [bt (aa u64 0),bt (aa u64 (n:Int))])/\Q (bk [bt (aa u64 0),bt (aa u64 (n:Int))])) ?_
 grind[Aol]
def G5(x:Int)(n k:Nat):List D:=replicate k (di x)++replicate (n-k) (di 0)
section
variable {P : x7} {o : yy} {σ : St}
theorem QQ{t:x6}{x lo:x8}(ho:o.op=.slice t x (G lo) none none){e:x6}{by':Nat}{z:Option yz}(hs:BR P t=G (e,1,by',z)){q len k:Nat}(hk:k<len):
  Ah P o [.arr q 0 len,di ↑k] σ (.arr q k (len-k)) σ:=by
 have:=Mw (P:=P) (o:=o) (σ:=σ) ho hs (q:=q) (off:=0) (len:=len) (G (.i64,(k:Int))) none rfl rfl (l':=k) (h':=len) (by grind[C9]) hk
 rw[I4] at this;exact this
theorem Xa{t:x6}{x hi:x8}(ho:o.op=.slice t x none (G hi) none){e:x6}{by':Nat}{z:Option yz}(hs:BR P t=G (e,1,by',z)){q len k:Nat}(hk:k<len):
  Ah P o [.arr q 0 len,di ↑k] σ (.arr q 0 k) σ:=by
 have:=Mw (P:=P) (o:=o) (σ:=σ) ho hs (q:=q) (off:=0) (len:=len) none (G (.i64,(k:Int))) rfl rfl (l':=0) (h':=k) (by simp[C9];omega) (by omega)
 exact this
theorem Xc{x y:x8}{t:x6}(ho:o.op=.call { callee:=.builtin .copy,args:= #[x,y],argTypes:= #[t,t]}){e:x6}{by':Nat}{z:Option yz}(hs:BR P t=G (e,1,by',z)){x:Int}{n k:Nat}(hk:k<n):
  Ah P o [.arr 0 k (n-k),.arr 0 0 k] ⟨[G (G5 x n k)],[]⟩ (di ↑(min k (n-k))) ⟨[G (G5 x n (k+min k (n-k)))],[]⟩:=by
 have hl:I (G5 x n k)=n:=by simp[G5];omega
 have:=Afj (P:=P) (o:=o) (σ:=⟨[G (G5 x n k)],[]⟩) ho hs (q:=0) (off:=k) (len:=n-k) (off2:=0) (len2:=k) (k:=min k (n-k)) (cs:=G5 x n k) rfl rfl (by omega) (by omega)
 grind[G5,List.drop_append,List.replicate_append_replicate]
end
theorem AiH(x:Int)(n:Nat):D.pls (replicate n (di x))=J:=by
 induction n with
 |zero=>rfl
 |succ n ih=>rw[IC];simp only[D.pls,ih,Bool.and_true];rfl
theorem Ahm{n:Nat}(h:n<=1000):u64.wrap (n:Int)=n:=by
 have:∀m:Nat,m<=1000->u64.wrap (m:Int)=m:=by decide+kernel
 grind
theorem Aaq{x:Int}{n:Nat}(_:1<=n):take 0 (replicate n (di 0))++U bt (take 1 [vi x])++W 1 (replicate n (di 0))=G5 x n 1:=by
 simp[G5]
noncomputable def Apj:Code:= Tryz.f138.body.getD .skip
set_option maxRecDepth 20000 in
theorem AeK(x:Int)(n:Nat)(hn:n<=100)(m:Nat):∀(k:Nat),n-k=m->1<=k->k<=n->v8 PP (fun env σ1=>AA PP Tryz.f138 env σ1 (.arr 0 0 n) ⟨[G (replicate n (di x))],[]⟩) [kl Apj [1,1,1,1,1,1,0,0,0],.blk 0,kc Apj [1,1,1,1,1,1,1]] (.undef:: .undef:: .undef:: .undef:: .undef:: .undef:: .undef::(.arr 0 0 n)::(di ↑k):: .undef:: .undef:: .undef:: .undef:: .undef:: .undef:: .undef:: .undef:: .undef:: .undef:: .undef:: .undef:: .undef:: .undef:: .undef:: .undef:: .undef:: .undef:: .undef:: .undef:: .undef:: .undef:: .undef:: .undef:: .undef:: .undef:: .undef:: .undef:: .undef:: .undef:: .undef:: .undef:: .undef:: .undef:: .undef:: .undef:: .undef:: .undef:: .undef::[]) ⟨[G (G5 x n k)],[]⟩:=by
 induction m using Nat.strongRecOn with
 |_ m ih=>
  intro k hm hk1 hkn
  refine Ahv ?_
  refine F6 [1,1,1,1,1,1,0,0,0,0] [1,1,1,1,1,1,0,0,0,1] rfl ?_
  refine F6 [1,1,1,1,1,1,0,0,0,0,0] [1,1,1,1,1,1,0,0,0,0,1] rfl ?_
  refine Ee rfl ?_
  refine Ez 8 34 rfl rfl rfl (.inl rfl) rfl (by dsimp only[List.set]) ?_
  refine Ez 7 35 rfl rfl rfl (.inl rfl) rfl (by dsimp only[List.set]) ?_
  first|(refine Eg (G 36) rfl rfl rfl rfl (K8 rfl KJ) (by dsimp only[B5,List.set]) ?_)|(refine Eg (G 36) rfl rfl rfl rfl (Tb (K8 rfl KJ)) (by dsimp only[B5,List.set]) ?_)|(refine Eg (G 36) rfl rfl rfl rfl (Px rfl KJ) (by dsimp only[B5,List.set]) ?_)
  refine Eg (G 37) rfl rfl rfl rfl (KA rfl rfl) (by dsimp only[B5,List.set]) ?_
  refine Lp rfl ?_
  refine TB [1,1,1,1,1,1,0,0,0,0,1,0] [1,1,1,1,1,1,0,0,0,0,1,1] rfl rfl (fun hc1=>?_) (fun hc1=>?_)
  ·skip
   have hlt:k<n:=by grind
   refine TA rfl ?_
   refine Wi [1,1,1,1,1,1,0,0,0,1,0] 1 rfl ?_
   refine AjF mixed rfl [⟨[G (G5 x n k)],[]⟩,⟨[G (G5 x n (k+min k (n-k)))],[]⟩] rfl ?_
   refine XL 8 38 rfl rfl rfl (.inl rfl) rfl (by dsimp only[List.set]) ?_
   refine XL 7 39 rfl rfl rfl (.inl rfl) rfl (by dsimp only[List.set]) ?_
   refine XL 8 40 rfl rfl rfl (.inl rfl) rfl (by dsimp only[List.set]) ?_
   refine PK (G 41) rfl rfl rfl rfl (fun s hs=>QQ rfl JX hlt) (by dsimp only[B5,List.set]) ?_
   refine XL 7 42 rfl rfl rfl (.inl rfl) rfl (by dsimp only[List.set]) ?_
   refine XL 8 43 rfl rfl rfl (.inl rfl) rfl (by dsimp only[List.set]) ?_
   refine PK (G 44) rfl rfl rfl rfl (fun s hs=>Xa rfl JX hlt) (by dsimp only[B5,List.set]) ?_
   refine AmU (G 45) rfl rfl rfl rfl rfl rfl (Xc rfl JX hlt) (by dsimp only[B5,List.set]) ?_
   refine PK (G 46) rfl rfl rfl rfl (fun s hs=>KA rfl rfl) (by dsimp only[B5,List.set]) ?_
   refine XL 46 8 rfl rfl rfl (.inr rfl) rfl (by dsimp only[List.set]) ?_
   refine AmT rfl ⟨by decide+kernel,_,rfl,?_⟩
   refine ZY ?_
   rw[Ak,show(k:Int)+((min k (n-k):Nat):Int)=((k+min k (n-k):Nat):Int) by omega]
   exact Aht (.drop (.drop (.drop (.drop (.drop (.drop (.drop (.keep (.keep (.drop (.drop (.drop (.drop (.drop (.drop (.drop (.drop (.drop (.drop (.drop (.drop (.drop (.drop (.drop (.drop (.drop (.drop (.drop (.drop (.drop (.drop (.drop (.drop (.drop (.drop (.drop (.drop (.drop (.drop (.drop (.drop (.drop (.drop (.drop (.drop (.drop (.drop (.drop .nil)))))))))))))))))))))))))))))))))))))))))))))))) (ih _ (by omega) (k+min k (n-k)) rfl (by omega) (by omega))
  ·skip
   have hge:k=n:=by grind
   subst hge
   rw[show G5 x k k=replicate k (di x) by simp[G5]]
   refine AjE rfl rfl ?_
   refine F6 [1,1,1,1,1,1,1,0] [1,1,1,1,1,1,1,1] rfl ?_
   refine Ee rfl ?_
   refine Ez 7 47 rfl rfl rfl (.inl rfl) rfl (by dsimp only[List.set]) ?_
   refine Ez 47 4 rfl rfl rfl (.inr rfl) rfl (by dsimp only[List.set]) ?_
   refine Lp rfl ?_
   refine Anm rfl ?_
   exact AiB (.tmp rfl .nil) 1 rfl (by simp) (fun i cs h=>by cases i<;>grind[AiH]) (List.Sublist.refl _) (by decide)
set_option maxRecDepth 20000 in
theorem AeJ(x:Int)(n:Nat)(h0:1<=n)(h6:n<=12):Aa PP 138 [dl [vi x],di ↑n] ba (.arr 0 0 n) ⟨[G (replicate n (di x))],[]⟩:=by
 refine Ai3 Apj Tryz.func138 rfl (by rfl) (by grind) _ (by dsimp only[Tryz.f138,length,Nat.reduceAdd,Nat.reduceSub,replicate,cons_append,nil_append]) ?_
 refine F6 [0] [1] rfl ?_
 refine Ee rfl ?_
 refine Apq 4 rfl rfl rfl (.inr rfl) (by dsimp only[Ou]) (by dsimp only[List.set]) ?_
 refine Lp rfl ?_
 refine F6 [1,0] [1,1] rfl ?_
 refine F6 [1,0,0] [1,0,1] rfl ?_
 refine Ee rfl ?_
 refine Ez 1 9 rfl rfl rfl (.inl rfl) rfl (by dsimp only[List.set]) ?_
 refine Eg (G 10) rfl rfl rfl rfl (KA rfl rfl) (by dsimp only[B5,List.set]) ?_
 refine Lp rfl ?_
 refine TB [1,0,1,0] [1,0,1,1] rfl rfl (fun hc1=>?_) (fun hc1=>?_)
 ·grind
 ·skip
  refine TA rfl ?_
  refine F6 [1,1,0] [1,1,1] rfl ?_
  refine Ee rfl ?_
  refine Ez 0 13 rfl rfl rfl (.inl rfl) rfl (by dsimp only[List.set]) ?_
  first|(refine Eg (G 14) rfl rfl rfl rfl (K8 rfl KJ) (by dsimp only[B5,List.set]) ?_)|(refine Eg (G 14) rfl rfl rfl rfl (Tb (K8 rfl KJ)) (by dsimp only[B5,List.set]) ?_)|(refine Eg (G 14) rfl rfl rfl rfl (Px rfl KJ) (by dsimp only[B5,List.set]) ?_)
  refine Eg (G 15) rfl rfl rfl rfl (L9 rfl AbB To) (by dsimp only[B5,List.set]) ?_
  rw[show u64.wrap ((I ([vi x]):Nat):Int)=1 from Ahm (n:=1) (by decide)]
  refine Ez 1 16 rfl rfl rfl (.inl rfl) rfl (by dsimp only[List.set]) ?_
  refine Eg (G 17) rfl rfl rfl rfl (L9 rfl AbB To) (by dsimp only[B5,List.set]) ?_
  rw[Ahm (by omega)]
  refine Eg (G 18) rfl rfl rfl rfl (Py rfl rfl rfl rfl (Af2 n h6)) (by dsimp only[B5,List.set]) ?_
  refine Ez 18 12 rfl rfl rfl (.inl rfl) rfl (by dsimp only[List.set]) ?_
  refine Eg (G 19) rfl rfl rfl rfl (K9 rfl rfl) (by dsimp only[B5,List.set]) ?_
  refine Eg (G 20) rfl rfl rfl rfl (K9 rfl rfl) (by dsimp only[B5,List.set]) ?_
  refine Ez 19 5 rfl rfl rfl (.inr rfl) rfl (by dsimp only[List.set]) ?_
  refine Ez 20 6 rfl rfl rfl (.inr rfl) rfl (by dsimp only[List.set]) ?_
  refine Lp rfl ?_
  refine F6 [1,1,1,0] [1,1,1,1] rfl ?_
  refine F6 [1,1,1,0,0] [1,1,1,0,1] rfl ?_
  refine Ee rfl ?_
  refine Ez 5 21 rfl rfl rfl (.inl rfl) rfl (by dsimp only[List.set]) ?_
  refine Eg (G 22) rfl rfl rfl rfl (KA rfl rfl) (by dsimp only[B5,List.set]) ?_
  refine Ez 22 23 rfl rfl rfl (.inl rfl) rfl (by dsimp only[List.set]) ?_
  refine AgR 23 rfl (fun hb2 env' he=>?_) (fun hb2 env' he=>?_)
  ·grind
  ·dsimp only[List.set] at he;subst he
   refine Ez 6 24 rfl rfl rfl (.inl rfl) rfl (by dsimp only[List.set]) ?_
   refine Eg (G 25) rfl rfl rfl rfl (KA rfl rfl) (by dsimp only[B5,List.set]) ?_
   refine App false 23 25 26 rfl rfl rfl rfl rfl rfl rfl (by dsimp only[List.set]) ?_
   refine Lp rfl ?_
   refine TB [1,1,1,0,1,0] [1,1,1,0,1,1] rfl rfl (fun hc3=>?_) (fun hc3=>?_)
   ·grind
   ·skip
    refine TA rfl ?_
    refine F6 [1,1,1,1,0] [1,1,1,1,1] rfl ?_
    refine Ee rfl ?_
    refine Ez 6 28 rfl rfl rfl (.inl rfl) rfl (by dsimp only[List.set]) ?_
    refine Eg (G 29) rfl rfl rfl rfl (L9 rfl To AbB) (by dsimp only[B5,List.set]) ?_
    rw[Ak]
    refine AhV (G 30) rfl rfl rfl rfl (AiK rfl JX rfl (by omega) (by omega) (by omega)) (by dsimp only[B5,List.set]) (by dsimp only[List.set,List.append,cons_append,nil_append,Az,map,H3,length,Nat.reduceAdd,if_true, ↓reduceIte];first|done|rfl) ?_
    rw[IR]
    refine Ez 30 7 rfl rfl rfl (.inr rfl) rfl (by dsimp only[List.set]) ?_
    refine Lp rfl ?_
    refine F6 [1,1,1,1,1,0] [1,1,1,1,1,1] rfl ?_
    refine Ee rfl ?_
    refine Ez 7 31 rfl rfl rfl (.inl rfl) rfl (by dsimp only[List.set]) ?_
    refine Ez 0 32 rfl rfl rfl (.inl rfl) rfl (by dsimp only[List.set]) ?_
    refine AhV (G 33) rfl rfl rfl rfl (Afi (k:=1) rfl JX rfl (by simp[V.size,V.isAgg]) (by grind) (by decide) (by grind)) (by dsimp only[B5,List.set]) (by dsimp only[List.set,List.append,cons_append,nil_append,Az,map,H3,length,Nat.reduceAdd,if_true, ↓reduceIte];first|done|rfl) ?_
    refine Ez 33 8 rfl rfl rfl (.inr rfl) rfl (by dsimp only[List.set]) ?_
    refine Lp rfl ?_
    rw[Aaq h0]
    refine F6 [1,1,1,1,1,1,0] [1,1,1,1,1,1,1] rfl ?_
    refine Wi [1,1,1,1,1,1,0,0] 0 rfl ?_
    refine AjD [1,1,1,1,1,1,0,0,0] rfl ?_
    try simp only[HR]
    exact Aht (.drop (.drop (.drop (.drop (.drop (.drop (.drop (.keep (.keep (.drop (.drop (.drop (.drop (.drop (.drop (.drop (.drop (.drop (.drop (.drop (.drop (.drop (.drop (.drop (.drop (.drop (.drop (.drop (.drop (.drop (.drop (.drop (.drop (.drop (.drop (.drop (.drop (.drop (.drop (.drop (.drop (.drop (.drop (.drop (.drop (.drop (.drop (.drop .nil)))))))))))))))))))))))))))))))))))))))))))))))) (AeK x n (by omega) _ 1 rfl (by omega) h0)
end Go.Proofs.YtkkplhjidondkaaGreat

namespace Go.Nv
open Go.Dv
open Go.IntKind (u64)
open Go.IntKind renaming wrap → yu, i64 → yt
open List renaming length → I, map → U, drop → W
open Option renaming some → G
open Bool renaming true → J, false → O
open Decidable renaming decide → Y
open Int renaming toNat → Z
open Go.Dv.V renaming list → ai, str → ae, agg → ab, int → aa, ref → bz, fn → bw, nils → bv, bool → bu
open Go.Dv.D renaming v → bt, acc → br, ptr → bq, arr → bo, gro → bm, tup → bk, undef → bj, dagg → bi
open Go.Dv.St renaming mk → bh
open Go.Dv.KI renaming blk → bf
open _root_.ByteArray renaming mk → bc
open Go renaming Operand → x8, Program → x7, TypeId → x6, World → x5, Value → yz, Oper → yy, FuncId → yx, Func → yw, IntKind → yv
section
variable {P : x7} {R : List D -> St -> Prop} {k : List KI} {nt : Nat} {E : List (Nat × D)} {σ : St} {ops : Array yy} {L0 : List yy} {C : cd -> cd -> Prop}
end
end Go.Nv

namespace Go.Proofs.YtkkplhjidondkaaGreat
open Go.Dv Go.Nv
set_option maxRecDepth 20000
open List (length_pos_iff replicate take)
open Go.IntKind (u64)
open Go.IntKind renaming wrap → yu, i64 → yt
open List renaming length → I, map → U, drop → W
open Option renaming some → G
open Bool renaming true → J, false → O
open Decidable renaming decide → Y
open Int renaming toNat → Z
open Go.Dv.V renaming list → ai, str → ae, agg → ab, int → aa, ref → bz, fn → bw, nils → bv, bool → bu
open Go.Dv.D renaming v → bt, acc → br, ptr → bq, arr → bo, gro → bm, tup → bk, undef → bj, dagg → bi
open Go.Dv.St renaming mk → bh
open Go.Dv.KI renaming blk → bf
open _root_.ByteArray renaming mk → bc
open Go renaming Operand → x8, Program → x7, TypeId → x6, World → x5, Value → yz, Oper → yy, FuncId → yx, Func → yw, IntKind → yv
structure AjR(T:List (List Bool))(c:Nat)(O:List Int):Prop where
 len:I O=c
 rng:∀x∈O,x= -1∨(0<=x/\x<I T)
theorem AjR.set{T:List (List Bool)}{c:Nat}{O:List Int}(h:AjR T c O){k row:Nat}(hr:row<I T):AjR T c (O.set k row):=⟨by rw[List.length_set,h.len],fun x hx=>by
 rcases IN hx with hx|rfl
 ·exact h.rng x hx
 omega⟩
theorem M5:∀(l:List cr) (vs:List b9) (k:Nat) (t:cr) (v:b9),BM l vs=J->l[k]?=G t->vs[k]?=G v->Ax t v=J
 |[],_,_,_,_,_,h,_=>by grind
 |_::_,[],_,_,_,_,_,h=>by grind
 |s::l,x::vs,0,t,v,h,h1,h2=>by
  grind[BM]
 |s::l,x::vs,k+1,t,v,h,h1,h2=>by
  simp only[BM,HJ] at h
  exact M5 l vs k t v h.2 (by grind) (by grind)
theorem K7{l:List cr}{c:b9}(h:Ai (.prod l) c=J):c.size<=128/\c.az.length=I l/\BM l c.az=J:=by
 grind[Ai,Ax]
theorem Yk{m:cz}(hk:m.kind=2∨m.kind=3)(c:b9)(h:Ai (AH m) c=J):ChC m c:=by
 obtain⟨h1,h2,h3⟩:=K7 h
 refine⟨h1,by rw[h2];simp;omega,fun k x hx=>?_⟩
 have hkl:=(HL.1 hx).1
 have ht:(cr.lab (I m.aw)::replicate (I m.ay) (EI m))[1+k]?=G (EI m):=by
  rw[show 1+k=k+1 by omega,J0,List.getElem?_replicate]
  rw[Ie]
  simp at h2;omega
 have ho:=M5 _ _ _ _ _ h3 ht hx
 grind[EI,Ax]
theorem AcL{m:cz}(c:b9)(h:Ai (Av m) c=J):vd c:=by
 obtain⟨h1,h2,h3⟩:=K7 h
 have hb:∀b,c.az[1]?=G b->Ax (.bag (.prod [.lab (I m.ay),.lab (m.age+2)])) b=J:=fun b hb=>M5 _ _ 1 _ _ h3 rfl hb
 refine⟨h1,h2,fun b hx=>?_,fun b v hx hv=>?_⟩
 all_goals grind[Ax]
theorem Gt.chm{K:Int}{m:cz}(hK:K=2∨K=3)(h:Gt K m):nf m (AH m):=by
 have hk:m.kind=2∨m.kind=3:=by rw[h.kind];exact hK
 have hpl:1<=I m.ay/\m.ay.length<=2:=by rcases h.ay with e|e<;>rw[e]<;>decide
 refine⟨(h.ok hK).int,Es m (h.ok hK),hk,⟨by have:=h.count;omega,hpl.2⟩,fun r hr=>?_,Yk hk⟩
 obtain⟨i,hi⟩:=List.getElem?_of_mem hr
 have:=(h.av i r hi).act
 omega
theorem BG.tmm{m:cz}(h:BG m):mn m (Av m):=by
 refine⟨h.int,Np m h,h.kind,by have:=h.count;omega,fun r hr=>?_,AcL⟩
 obtain⟨i,hi⟩:=List.getElem?_of_mem hr
 have hr2:=h.av i r hi
 refine⟨?_,?_⟩
 ·rcases hr2.ar with e|⟨_,_,_,_,_,e⟩<;>rw[e]<;>simp
 ·rcases hr2.aq with e|⟨_,_,e⟩<;>rw[e]<;>simp
theorem Ly{t:cr}{c:b9}(h:Ai t c=J):c.size<=128:=by
 grind[Ai]
structure An1(m:cz)(C:b9->Prop)(S:b9->List c9×Int):Prop where
 walks:F0 46 [Ad m] (di 0)
 start:C m.start
 size:∀v,C v->v.size<=1000
 all:∀v,C v->F0 50 [Ad m,dV v] (fp (S v))
 len:∀v,C v->(S v).1.length<=256
 next:∀v,C v->∀s∈ (S v).1,C s.2
abbrev cX(m:cz)(most:Int)(F S:D):List D:=[di m.kind,.v (cp m.aw),.v (cp m.ay),.v (cp m.ax),.v (cw m.au),di m.ao,di m.age,.v (BE m.av),di m.start.n,cq m.start.az,di most,F,S]
abbrev ow1(st:List (List c9)):List (Nat×Nat×List V):=[(1,1,st.map B1)]
abbrev stX(m:cz)(most:Int)(l:List b9)(st:List (List c9)):St:=⟨[G (cX m most (.gro 1 (I l) 2) (.acc 1 (st.map B1))),G (Ab (l.map eV))],ow1 st⟩
theorem Vu:∀{ks:List b9},(∀k∈ks,k.az=[])->ks=(ks.map b9.n).map fun x=>b9.mk x []
 |[],_=>rfl
 |k::ks,h=>by
  have h1:=h k (by simp)
  rw[Ik,Ik, ←Vu fun x hx=>h x (by grind)]
  cases k<;>grind[b9.az,b9.n]
theorem QY:∀(n:Nat) (vs:List b9),I vs=n->BM (replicate n .nat) vs=J->∀v∈vs,(0<=v.n/\v.n<=1048576)/\v.az=[]
 |0,[],_,_,v,hv=>by grind
 |n+1,[],hl,_,_,_=>by grind
 |0,_::_,hl,_,_,_=>by grind
 |n+1,x::vs,hl,h,v,hv=>by
  rw[IC] at h
  simp only[BM,HJ] at h
  rcases Iz.1 hv with rfl|hv
  ·grind[Ax,List.length_eq_zero_iff]
  ·exact QY n vs (by grind) h.2 v hv
theorem MX{m:cz}(hk:m.kind=1){c:b9}(h:Ai (AH m) c=J):AN m c:=by
 have hn:c.n=0:=by
  grind[Ai,AH,Ax]
 rw[AH,show EI m=.nat by grind[EI]] at h
 obtain⟨_,h2,h3⟩:=K7 h
 cases c with
 |mk n ks=>
  subst hn
  simp only[b9.az] at h2 h3
  cases ks with
  |nil=>simp at h2
  |cons x vs=>
   simp only[BM,HJ] at h3
   have hl:I vs=I m.ay:=by simpa using h2
   have hx:=GX (show CA (I m.aw) x=J by simpa only[Ax] using h3.1)
   have hv:=QY _ vs hl h3.2
   have e:b9.mk 0 (x::vs)=De x.n (vs.map b9.n):=by
    rw[De]
    congr 1
    have:=Vu (ks:=vs) fun k hk=>(hv k hk).2
    rw[←this]
    congr 1
    exact hx.1
   rw[e]
   exact RN m x.n ⟨hx.2.1,hx.2.2⟩ _ (by rw[HH,hl]) fun y hy=>by
    obtain⟨v,hv1,rfl⟩:=I2.1 hy
    exact(hv v hv1).1
theorem Qa.ctm{m:cz}(h:Qa m):gu m:=⟨h.ok,h.kind,MX h.kind h.ok.start⟩
abbrev pg(m:cz):cr:=if m.kind=5 then Av m else AH m
def mo(m:cz)(c:b9)(i:Int):List b9×Int:=if m.kind=1 then i6 m c i else if m.kind=5 then Sq m (Av m) c i else i5 m (AH m) c i
def BW(m:cz)(c:b9):List c9×Int:=CV (mo m c) (I m.av+1) (-1) []
abbrev Si(m:cz)(v:b9):Prop:=Ai (pg m) v=J
theorem Gt.chr{K:Int}{m:cz}(_:K=2∨K=3)(h:Gt K m):∀r∈m.av,wz m r:=fun r hr=>by
 obtain⟨i,hi⟩:=List.getElem?_of_mem hr
 have h1:=h.av i r hi
 have hp:1<=I m.ay:=by rcases h.ay with e|e<;>rw[e]<;>decide
 refine⟨h1.to,?_,fun ha=>?_⟩
 ·rcases h1.act with⟨_,e,_⟩|⟨_,e,_⟩<;>omega
 ·rcases h1.act with⟨e,_,_⟩|⟨_,_,e⟩<;>omega
theorem Ft.kinds{m:cz}(h:Ft m):(gu m/\m.kind=1)∨(∃K,(K=2∨K=3)/\Gt K m/\m.kind=K)∨(BG m/\m.kind=5):=by
 cases h with
 |cM h=>exact .inl ⟨h.ctm,h.kind⟩
 |c h=>exact .inl ⟨h.ctm,h.kind⟩
 |l2 h=>exact .inr (.inl ⟨2,.inl rfl,h,h.kind⟩)
 |l3 h=>exact .inr (.inl ⟨3,.inr rfl,h,h.kind⟩)
 |tm h=>exact .inr (.inr ⟨h,h.kind⟩)
theorem Hr{m:cz}(h:m.kind≠5):pg m=AH m:=HZ h
theorem TY{m:cz}(h:m.kind=5):pg m=Av m:=Ie h
theorem xb{m:cz}(h:m.kind=1):mo m=i6 m:=by grind[mo]
theorem AjK{m:cz}(h:m.kind=5):mo m=Sq m (Av m):=by grind[mo]
theorem AjJ{m:cz}{K:Int}(hK:K=2∨K=3)(h:m.kind=K):mo m=i5 m (AH m):=by grind[mo]
theorem Ft.int{m:cz}(h:Ft m):Sf m (pg m):=by
 rcases h.kinds with⟨h,hk⟩|⟨K,hK,h,hk⟩|⟨h,hk⟩
 ·rw[Hr (by omega)];exact h.ok.int
 ·rw[Hr (by omega)];exact(h.ok hK).int
 ·rw[TY hk];exact h.int
theorem Gt.rks{K:Int}{m:cz}(h:Gt K m):I m.au<=1000:=by
 have h1:=h.au
 have h2:I m.ax<=2:=by rcases h.ax with e|e<;>rw[e]<;>simp
 grind
theorem Ft.steps{m:cz}(h:Ft m):An1 m (Si m) (BW m):=by
 have hI:=h.int
 rcases h.kinds with⟨h,hk⟩|⟨K,hK,h,hk⟩|⟨h,hk⟩
 ·have eT:=Hr (m:=m) (by omega)
  have eA:=xb hk
  have hC:∀v,Si m v->AN m v:=fun v hv=>MX hk (by rw[←eT];exact hv)
  have hS:∀v,BW m v=GF m v:=fun v=>by rw[BW,eA];rfl
  exact⟨hI.walks,by rw[Si,eT];exact h.ok.start,fun v hv=>by have:=(hC v hv).sizeM h;omega,fun v hv=>by rw[hS];exact WL m h v (hC v hv),fun v hv=>by rw[hS];have:=(Ma h (hC v hv)).2.1;omega,fun v hv s hs=>by
   rw[hS] at hs
   rw[Si,eT]
   exact((Ma h (hC v hv)).2.2 s hs).ok.validM h⟩
 ·have eT:=Hr (m:=m) (by omega)
  have eA:=AjJ hK hk
  have hst:=(h.chm hK).st h.rks
  have hpl:I m.ay<=2:=by rcases h.ay with e|e<;>rw[e]<;>decide
  have hS:∀v,Ai (AH m) v=J->BW m v=Q7 m (AH m) (i5 m (AH m)) v:=fun v hv=>by rw[BW,eA,Q7,Ie hv]
  refine⟨hI.walks,by rw[Si,eT];exact(h.ok hK).start,fun v hv=>by grind[Ly],fun v hv=>?_,fun v hv=>?_,fun v hv s hs=>?_⟩
  all_goals
   have hv':=hv
   rw[Si,eT] at hv'
   have h1:=Ale hst v (by have:=Ly hv;omega)
  ·grind
  ·grind
  ·rw[Si,eT]
   rw[BW,eA] at hs
   exact(Wn (ap:=i5 m (AH m) v) (Q:=fun s=>Ai (AH m) s.2=J) (fun i v' hv2=>(AcQ (by omega) hpl (h.chr hK) hv' i).2 v' hv2) _ _) s hs
 ·have eT:=TY hk
  have eA:=AjK hk
  have hst:=h.tmm.st
  have hag:=h.age
  have hS:∀v,Ai (Av m) v=J->BW m v=Q7 m (Av m) (Sq m (Av m)) v:=fun v hv=>by rw[BW,eA,Q7,Ie hv]
  refine⟨hI.walks,by rw[Si,eT];exact h.start_ok,fun v hv=>by grind[Ly],fun v hv=>?_,fun v hv=>?_,fun v hv s hs=>?_⟩
  all_goals
   have hv':=hv
   rw[Si,eT] at hv'
   have h1:=Ale hst v (by have:=Ly hv;omega)
  ·grind
  ·grind
  ·rw[Si,eT]
   rw[BW,eA] at hs
   exact(Wn (ap:=Sq m (Av m) v) (Q:=fun s=>Ai (Av m) s.2=J) (fun i v' hv2=>(Y0 (by omega) hv' i).2 v' hv2) _ _) s hs
def ShE(m:cz)(most:Int)(σ':St):Prop:=(∃l st,σ'=stX m most l st)∨∃(l:List b9) (st:List (List c9)),σ'=⟨[G (cX m most (.gro 2 (I l) 2) (.acc 1 (st.map B1))),none,G (Ab (l.map eV))],ow1 st⟩
theorem ShE.len{m:cz}{most:Int}{σ':St}(h:ShE m most σ'):1<=I σ'.H:=by
 rcases h with⟨l,st,rfl⟩|⟨l,st,rfl⟩
 all_goals grind
theorem Gt.chx{K:Int}{m:cz}(hK:K=2∨K=3)(h:Gt K m):mj m:=by
 have hp:1<=I m.ay/\m.ay.length<=2:=by rcases h.ay with e|e<;>rw[e]<;>decide
 have hl:I m.ax<=2:=by rcases h.ax with e|e<;>rw[e]<;>decide
 refine⟨h.ok hK,by have:=h.kind;omega,⟨by have:=h.count;omega,hp.1,hp.2⟩,by omega,fun h3=>?_,h.chr hK⟩
 have hk:=h.kind
 have e:K=3:=by omega
 subst e
 have hr:=h.au
 have hl1:1<=I m.ax:=by rcases h.ax with e|e<;>rw[e]<;>decide
 grind[lz,Db]
theorem Ft.all22{m:cz}(h:Ft m){c:b9}(hc:Si m c):F0 18 [Ad m,dV c] (fp (BW m c)):=by
 rcases h.kinds with⟨h,hk⟩|⟨K,hK,h,hk⟩|⟨h,hk⟩
 ·have eT:=Hr (m:=m) (by omega)
  rw[BW,xb hk]
  exact Anw h (MX hk (by grind))
 ·have eT:=Hr (m:=m) (by omega)
  have hv:Ai (AH m) c=J:=by grind
  rw[BW,AjJ hK hk]
  exact Aha (h.chx hK) hv fun i=>(((h.chm hK).st h.rks).bp c hv i).1
 ·have eT:=TY hk
  have hv:Ai (Av m) c=J:=by grind
  rw[BW,AjK hk]
  exact AgY h hv fun i=>(h.tmm.st.bp c hv i).1
inductive Fq (m:cz) (c0:b9):List c9->b9->Prop where
 |nil:Fq m c0 [] c0
 |snoc {run:List c9} {c:b9} {s:c9} (h:Fq m c0 run c) (h0:(BW m c).2=0) (hs:s∈ (BW m c).1):Fq m c0 (run++[s]) s.2
theorem Fq.ok{m:cz}(hm:Ft m){run:List c9}{c:b9}(h:Fq m m.start run c):Si m c:=by
 induction h with
 |nil=>exact hm.steps.start
 |snoc _ _ hs ih=>exact hm.steps.next _ ih _ hs
theorem Xm(m:cz)(hm:Ft m)(l:List UInt8)(hl:I l<=200)(n:Nat):∀(a:Nat) (c:b9) (run:List c9),a<=I l->Fq m m.start run c->I run+n<=60->
  ∃(d:b9) (run':List c9) (a':Nat),Fq m m.start run' d/\run'.length<=60/\a'<=I l/\
  Rn PP AbK 1 (.tup [dV d,.v (B1 run')]) (dz l a') ([kl Ys [1,1,1,0,1,0,0],.blk 0,kc Ys [1,1,1,1]]++[]) (cy 52 [(0,.ptr 0 0),(4,.v (.ref (A1 m))),(6,.ptr 1 0),(8,.ptr 2 0),(9,RZ run),(10,di n)]) (stN l a c run):=by
 induction n with
 |zero=>
  intro a c run ha hr hn
  refine⟨c,run,a,hr,by omega,ha,?_⟩
  exact lv 52 [4] (.f .r) (Y ((↑0:Int)>0)=O/\Q [G (cn l a)]/\Q (bk [dV c,bt (B1 run)])) ⟨rfl,rfl,rfl⟩
 |succ n ih=>
  intro a c run ha hr hn
  have hc:=Fq.ok hm hr
  have e2:=hm.steps.len c hc
  have hall:=hm.all22 hc
  have snoc:∀s:c9,(BW m c).2=0->s∈ (BW m c).1->Fq m m.start (run++[s]) s.2:=fun s h1 h2=>.snoc hr h1 h2
  generalize BW m c=p at*
  by_cases hA:p.2≠0∨p.1=[]
  ·refine⟨c,run,a,hr,by omega,ha,?_⟩
   refine lv 52 [4] (.t<|.c (fp p)<|.b .r (.t .r)) (Y ((↑(n+1):Int)>0)=J/\_/\((p.snd !=0)=J->Q [G (cn l a)]/\bk [bt (sh c.n c.az),bt (ai (U c8 run))]=bk [dV c,bt (B1 run)])/\((p.snd !=0)=O->((I (U c8 p.fst):Int)==0)=J/\Q [G (cn l a)]/\bk [bt (sh c.n c.az),bt (ai (U c8 run))]=bk [dV c,bt (B1 run)])) ⟨yr,hall,fun h=>⟨rfl,rfl⟩,fun h=>⟨?_,rfl,rfl⟩⟩
   have h:p.2=0:=by simpa using h
   rcases hA with h1|h1
   ·exact absurd h h1
   ·rw[h1];rfl
  ·have h0:p.2=0:=by omega
   have h1:p.1≠ []:=fun h=>hA (.inr h)
   have hlen:0<I p.1:=length_pos_iff.2 h1
   obtain⟨r,a1,r1,r2,r3,r4⟩:=A7 l hl a ha (I p.1) (by omega) (by omega)
   obtain⟨i,rfl⟩:∃i:Nat,r=i:=⟨r.toNat,by omega⟩
   obtain⟨x,hx⟩:∃x,p.1[i]?=G x:=⟨_,HI (show i<I p.1 by omega)⟩
   have hxm:=HO hx
   obtain⟨d,run',a',g1,g2,g3,g4⟩:=ih a1 x.2 (run++[x]) r3 (snoc x h0 hxm) (by simp;omega)
   refine⟨d,run',a',g1,g2,g3,?_⟩
   refine lv 52 [4] (.t<|.c (fp p)<|.f<|.f<|.c1 (cn l a1) (di i)<|.x (c8 x)<|.ls [ke 0,ke 4,ke 6,ke 8,ch 9 (RZ (run++[x])),ch 10 (di n)] (stN l a1 x.2 (run++[x]))) (Y ((↑(n+1):Int)>0)=J/\_/\(p.snd !=0)=O/\((I (U c8 p.fst):Int)==0)=O/\Aa PP 14 [bq 0 0,di (I (U c8 p.fst):Int)] (dz l a) (di (i:Int)) (dz l a1)/\0<=(i:Int)/\(U c8 p.fst)[Z (i:Int)]?=G (c8 x)/\Q (U c8 run)/\Ao (I (U c8 run)+I (ab (vi x.fst::vi x.snd.n::dt x.snd.az::nV)::nV)) 40/\((Q (G (dp x.snd.n x.snd.az))/\True)/\True/\True)/\br 1 (U c8 run++[ab [vi x.fst,vi x.snd.n,dt x.snd.az]])=RZ (run++[x])/\di (yu yt ((↑(n+1):Int)-1))=di (n:Int)/\Q [G (cn l a1),G [di 0,dn],G (dp x.snd.n x.snd.az)]/\[(1,3,U c8 run++ab (vi x.fst::vi x.snd.n::dt x.snd.az::nV)::nV)]=[(1,3,U c8 (run++[x]))]/\_) ⟨decide_eq_true (by omega),hall,by rw[h0];rfl,beq_eq_false_iff_ne.2 (by rw[List.length_map];omega),by rw[List.length_map];exact r4,by omega,Am hx,rfl,⟨?_,?_⟩,(by repeat' first|with_reducible refine And.intro ?_ ?_|rfl|trivial),?_,?_,rfl,?_,iK g4⟩
   ·simp only[HH,HN,HR];omega
   ·simp only[HH,HN,HR];omega
   ·rw[RZ, ←TS]
   ·rw[Ak];congr 2;omega
   ·rw[←TS]
theorem Afx(m:cz)(hm:Ft m)(l:List UInt8)(hl:I l<=200)(a:Nat)(ha:a<=I l)(most:Nat)(hmo:most<=50):
  ∃(d:b9) (run:List c9) (a':Nat),Fq m m.start run d/\run.length<=60/\a'<=I l/\Aa PP 8 [.ptr 0 0,Ad m,di most] (dz l a) (.tup [dV d,.v (B1 run)]) (dz l a'):=by
 obtain⟨n,a1,n1,n2,n3,n4⟩:=A7 l hl a ha (most+1) (by omega) (by omega)
 obtain⟨k,rfl⟩:∃k:Nat,n=k:=⟨n.toNat,by omega⟩
 obtain⟨d,run,a',g1,g2,g3,g4⟩:=Xm m hm l hl k a1 m.start [] n3 .nil (by grind)
 refine⟨d,run,a',g1,g2,g3,?_⟩
 refine sv AbK 52 [4] (.h (.q 3 0)<|.h (.nw 9 1 3)<|.c1 (cn l a1) (di k)<|.ls [ke 0,ke 4,ke 6,ke 8,ke 9,ke 10] (stN l a1 m.start [])) (Aa PP 14 [bq 0 0,di (yu yt ((most:Int)+1))] (dz l a) (di (k:Int)) (dz l a1)/\Q [G (cn l a1),G [di 0,dn],G (dp m.start.n m.start.az)]/\Q [(1,3,nV)]/\_) ⟨by grind[Ak],rfl,rfl,iK g4⟩
noncomputable abbrev ApY:=Tryz.f79
theorem ApN{m:cz}{t:cr}{ap:b9->Int->List b9×Int}(hm:mm m t ap)(c:b9)(hs:c.size<=1000)(hv:Ai t c=J)(i:Int)(h1: -1<=i)(h2:i<I m.av):F0 79 [Ad m,di i,dV c] (dq (ap c i)):=by
 have hval:=hm.int.valid c (by omega)
 have hb:=hm.beh c hs hv i h1 h2
 generalize ap c i=p at hb⊢
 refine sv ApY 36 [3,5] (.c (di 0)<|.k<|.f<|.f<|.c (db J)<|.k<|.c (dq p)<|.r) (s8 m/\Y (i< -1)=O/\Y (i>=(I (U Al m.av):Int))=O/\s9 m c/\F0 91 [Ad m,di i,dV c] (dq p)/\bk [cq p.fst,di p.snd]=dq p) ?_
 grind[Aoa]
theorem gu.st{m:cz}(hm:gu m):mm m (AH m) (i6 m):=by
 have hcf:∀c,Ai (AH m) c=J->AN m c:=fun c hv=>MX hm.kind hv
 refine⟨hm.ok.int,Es m hm.ok,by rw[hm.kind];decide,hm.ay.2.2.2.2,fun c hv i=>?_,fun c _ hv i h1 h2=>RU m hm c (hcf c hv) i h1 h2⟩
 obtain⟨_,h1,h2⟩:=OI hm (hcf c hv) i
 exact⟨by omega,fun v h=>by have h3:v.size<=8:=(h2 v h).ok.sizeM hm;omega⟩
theorem Ft.stm{m:cz}(h:Ft m):mm m (pg m) (mo m):=by
 rcases h.kinds with⟨h,hk⟩|⟨K,hK,h,hk⟩|⟨h,hk⟩
 ·rw[Hr (by omega),xb hk];exact h.st
 ·rw[Hr (by omega),AjJ hK hk];exact(h.chm hK).st h.rks
 ·rw[TY hk,AjK hk];exact h.tmm.st
theorem Wm{ap:Int->List b9×Int}:∀(n:Nat) (i:Int) (acc:List c9),(CV ap n i acc).2=0->∀s∈ (CV ap n i acc).1,s∈acc∨(i<=s.1/\s.1<i+n/\(ap s.1).2=0/\s.2∈ (ap s.1).1)
 |0,i,acc,h,s,hs=>by
  grind[CV]
 |n+1,i,acc,h,s,hs=>by
  rw[CV] at h hs
  split at hs
  ·grind
  ·rename_i h0
   rw[HZ h0] at h
   rcases Wm n (i+1) _ h s hs with h1|⟨h1,h2,h3,h4⟩
   all_goals grind
theorem ZZ{m:cz}{c d:b9}{l:List c9}(h:Fq m c l d):∀(k:Nat) (s:c9),l[k]?=G s->∃e,Fq m c (l.take k) e/\(BW m e).2=0/\s∈ (BW m e).1/\Fq m c (l.take (k+1)) s.2:=by
 induction h with
 |nil=>grind
 | @snoc l d s' h1 h2 h3 ih=>
  intro k s hs
  by_cases hk:k<I l
  ·grind
  ·have hk2:=(HL.1 hs).1
   simp at hk2
   have:k=I l:=by omega
   subst this
   simp at hs;subst hs
   refine⟨d,by rw[List.take_left'];exact h1;rfl,h2,h3,?_⟩
   rw[Im (by simp)]
   exact .snoc h1 h2 h3
theorem Fq.det{m:cz}{c d e:b9}{l:List c9}(h:Fq m c l d)(h2:Fq m c l e):d=e:=by
 cases h with
 |nil=>
  generalize hl:([]:List c9)=l at h2
  cases h2<;>simp_all
 | @snoc l d s h1 h3 h4=>
  generalize hl:l++[s]=l' at h2
  cases h2<;>simp_all
noncomputable abbrev Aoy:=Tryz.f78
theorem Aac{m:cz}{t:cr}{ap:b9->Int->List b9×Int}(hm:mm m t ap):F0 78 [Ad m] (di 0):=by
 exact sv Aoy 12 [1] (.c (di 0)<|.k<|.f .r) (_/\(m.kind==6)=O/\Q (di 0)) ⟨hm.chk,Iy.2 hm.kind,rfl⟩
noncomputable abbrev Ao0:=Tryz.f81
theorem Aax(s:c9)(v:b9)(h:v.size<=1000000):F0 81 [.v (Ac v),.v (.ref (c8 s))] (db (As v s.2==0)):=by
 refine sv Ao0 9 [2] (.c (di (As v s.2)) .r) (F0 41 [dV v,dV s.snd] (di (As v s.snd))/\Q (db (As v s.snd==0))) ?_
 grind[Ky]
abbrev AkW(c:b9):St:=⟨[G [di c.n,cq c.az]],[]⟩
noncomputable abbrev Amj:=Tryz.f43
noncomputable def Akr:=yl Amj
theorem AeO(m:cz)(hm:Ft m)(run:List c9)(d:b9)(hr:Fq m m.start run d)(hl:I run<=64)(n:Nat):∀(k:Nat) (c:b9),I run-k=n->Fq m m.start (run.take k) c->
  Rn PP Amj 0 (.tup [di (I run),di 0]) ba ([kl Akr [1,1,1,0,1,0,0],.blk 1,kc Akr [1,1,1,1]]++[]) (cy 59 [(2,.v (B1 run)),(3,.v (.ref (A1 m))),(9,.ptr 0 0),(30,.v (B1 run)),(31,di (I run)),(32,di k)]) (AkW c):=by
 induction n with
 |zero=>
  intro k c hn hc
  refine lv 59 [3,4] (.f .r) (Y ((k:Int)<(I run:Int))=O/\bk [di (I (U c8 run):Int),di 0]=bk [di (I run:Int),di 0]) ?_
  grind
 |succ n ih=>
  intro k c hn hc
  obtain⟨s,hs⟩:=yk (show k<I run by omega)
  obtain⟨e,g1,g2,g3,g4⟩:=ZZ hr k s hs
  have he:e=c:=g1.det hc
  subst he
  have hst:=hm.steps
  have hco:=g1.ok hm
  have hcn:=g4.ok hm
  have hsz:=hst.size e hco
  rcases Wm _ _ _ g2 s g3 with h1|⟨h1,h2,h3,h4⟩
  ·grind
  have happ:=ApN hm.stm e hsz hco s.1 h1 (by omega)
  obtain⟨b1,b2⟩:=hm.stm.bp e hco s.1
  generalize mo m e s.1=p at happ h3 h4 b1 b2
  obtain⟨L,z⟩:=p
  dsimp only at h3 h4 b1 b2
  subst h3
  have hh:=GZ 81 [] [.ref (c8 s)] (fun v=>As v s.2==0) L (by omega) (fun v hv=>Aax s v (by grind))
  have ha:(L.any fun v=>As v s.2==0)=J:=List.any_eq_true.2 ⟨s.2,h4,by grind[D5]⟩
  rw[ha] at hh
  exact lv 59 [3,4] (.t<|.x (c8 s)<|.c (dq (L,0))<|.h (.q 13 0)<|.h (.fa 1 [11])<|.c (db J)<|.k<|.lo [ke 2,ke 3,ke 9,ke 30,ke 31,ch 32 (di (k+1:Nat))] (AkW s.2)) (Y ((k:Int)<(I run:Int))=J/\0<=(k:Int)/\(U c8 run)[Z (k:Int)]?=G (c8 s)/\_/\_/\di (yu yt ((k:Int)+1))=di (↑(k+1):Int)/\cm 1 [] [G (dp s.snd.n s.snd.az)]=J/\Q [G (dp s.snd.n s.snd.az)]/\_) ⟨yr,by omega,Am hs,happ,hh,by grind[Ae],rfl,rfl,iK (ih (k+1) s.2 (by omega) g4)⟩
theorem AeN(m:cz)(hm:Ft m)(run:List c9)(d:b9)(hr:Fq m m.start run d)(hl:I run<=64):F0 43 [Ad m,dV m.start,.v (B1 run)] (.tup [di (I run),di 0]):=by
 have hs:=hm.steps
 have h1:=hm.int.valid m.start (by have:=hs.size _ hs.start;omega)
 rw[show Ai (pg m) m.start=J from hs.start] at h1
 exact sv Amj 59 [3,4] (.c (di 0)<|.k<|.c (db J)<|.k<|.f<|.lo [ke 2,ke 3,ke 9,ke 30,ch 31 (di (I run)),ch 32 (di (0:Nat))] (AkW m.start)) (_/\_/\Y ((I (U c8 run):Int)>64)=O/\di (I (U c8 run):Int)=di (I run:Int)/\Q (di 0)/\cm 1 [] [G (dp m.start.n m.start.az)]=J/\Q [G (dp m.start.n m.start.az)]/\_) ⟨Aac hm.stm,h1,HM (by grind),by grind,rfl,rfl,rfl,iK (AeO m hm run d hr hl _ 0 m.start rfl .nil)⟩
noncomputable abbrev Amh:=Tryz.f21
theorem Aad(m:cz)(hm:Ft m)(run:List c9)(d:b9)(hr:Fq m m.start run d)(hl:I run<=64):F0 21 [Ad m,.v (B1 run)] (.tup [dV d,di (I run),di 0]):=by
 have hck:=AeN m hm run d hr hl
 by_cases h:run=[]
 ·refine sv Amh 37 [2] (.c (.tup [di (I run),di 0])<|.k<|.t<|.c (dV m.start) .r) (F0 43 [Ad m,dV m.start,bt (B1 run)] (bk [di (I run:Int),di 0])/\((I run:Int)==0)=J/\F0 44 [dV m.start] (dV m.start)/\bk [bt (sh m.start.n m.start.az),di 0,di 0]=bk [dV d,di (I run:Int),di 0]) ?_
  have hd:d=m.start:=by rw[h] at hr;exact hr.det .nil
  have hcp:=LH _ m.start (HP _) (by have:=hm.steps.size _ hm.steps.start;omega)
  grind
 ·obtain⟨s,hs⟩:∃s,run[I run-1]?=G s:=⟨_,HI (show I run-1<I run by have:=length_pos_iff.2 h;omega)⟩
  refine sv Amh 37 [2] (.c (.tup [di (I run),di 0])<|.k<|.f<|.x (c8 s)<|.c (dV s.2) .r) (F0 43 [Ad m,dV m.start,bt (B1 run)] (bk [di (I run:Int),di 0])/\((I run:Int)==0)=O/\0<=yu yt ((I run:Int)-1)/\(U c8 run)[Z (yu yt ((I run:Int)-1))]?=G (c8 s)/\F0 44 [dV s.snd] (dV s.snd)/\bk [bt (sh s.snd.n s.snd.az),di (I run:Int),di 0]=bk [dV d,di (I run:Int),di 0]) ?_
  have hlen:=length_pos_iff.2 h
  obtain⟨e,g1,g2,g3,g4⟩:=ZZ hr _ s hs
  have hd:d=s.2:=by
   rw[Nat.sub_add_cancel hlen,List.take_length] at g4
   exact hr.det g4
  have hcp:=LH _ s.2 (HP _) (by have:=hm.steps.size _ (g4.ok hm);omega)
  have ew:yt.wrap ((I run:Int)-1)=((I run-1:Nat):Int):=by rw[Ak];omega
  simp_all
noncomputable abbrev Ami:=Tryz.f10
theorem Aae(m:cz)(hm:Ft m)(run:List c9)(d c:b9)(hr:Fq m m.start run d)(hl:I run<=64):F0 10 [Ad m,dV c,.v (B1 run)] (di (if (As d c==0)=J then 0 else 40)):=by
 have h1:=Aad m hm run d hr hl
 have h2:=FY d c (by have:=hm.steps.size d (hr.ok hm);omega)
 cases hb:(As d c==0) with
 |true=>
  refine sv Ami 24 [3,4] (.c (.tup [dV d,di (I run),di 0])<|.k<|.c (db J)<|.k<|.r) (F0 21 [Ad m,bt (B1 run)] (bk [dV d,di (I run:Int),di 0])/\F0 22 [dV d,dV c] (db J)/\di 0=di (if true=J then 0 else 40)) ?_
  grind
 |false=>
  refine sv Ami 24 [3,4] (.c (.tup [dV d,di (I run),di 0])<|.k<|.c (db O)<|.k<|.r) (F0 21 [Ad m,bt (B1 run)] (bk [dV d,di (I run:Int),di 0])/\F0 22 [dV d,dV c] (db O)/\di 40=di (if false=J then 0 else 40)) ?_
  grind
inductive jm (S:b9->List c9×Int):Nat->b9->b9->Prop where
 |zero (x:b9):jm S 0 x x
 |succ {k:Nat} {x y:b9} {s:c9} (hs:s∈ (S x).1) (h:jm S k s.2 y):jm S (k+1) x y
theorem jm.snoc{S:b9->List c9×Int}{k:Nat}{x y:b9}{s:c9}(h:jm S k x y)(hs:s∈ (S y).1):jm S (k+1) x s.2:=by
 induction h with
 |zero x=>exact .succ hs (.zero _)
 |succ h1 _ ih=>exact .succ h1 (ih hs)
theorem Fq.rch{m:cz}{c0:b9}{run:List c9}{c:b9}(h:Fq m c0 run c):jm (BW m) (I run) c0 c:=by
 induction h with
 |nil=>exact .zero _
 |snoc _ _ hs ih=>rw[HW];exact ih.snoc hs
theorem AgU(l:List b9)(v:b9):(l.any fun x=>As x v==0)=J↔v∈l:=by
 grind[D5]
structure c6 where
 found:List b9
 before:List Int
 av:List Int
 next:Int
 cand:Int
 used:Int
 deriving Inhabited
abbrev uc(h:c6):V:=.agg [dt h.found,cw h.before,cw h.av,vi h.next,vi h.cand,vi h.used]
abbrev F3(h:c6):D:=.v (uc h)
structure e9 where
 decided:Bool
 yes:Bool
 run:List c9
 coefs:List Int
 mod:Int
 vals:List Int
 closed:List b9
 used:Int
 deriving Inhabited
abbrev ApI(v:e9):V:=.agg [.bool v.decided,.bool v.yes,B1 v.run,cw v.coefs,vi v.mod,cw v.vals,dt v.closed,vi v.used]
abbrev C6(v:e9):D:=.v (ApI v)
def Aq(u:Int):e9:=⟨false,false,[],[],0,[],[],u⟩
def Dl(l:List c9)(u:Int):e9:=⟨true,true,l,[],0,[],[],u⟩
theorem XZ(l:List Int)(hl:I l<=1000000)(h:l≠ []):Aa PP 66 [cx l] ba (.acc 1 (l.map vi)) ⟨[],[(1,1,l.map vi)]⟩:=by
 refine sv vx 8 [] (.a 1<|.w .r) (U vi l≠ []/\Q nV/\Ao (I nV+I (U vi l)) 8/\(∀(y:V),y∈U vi l->V.size y=1)/\[(1,1,nV++U vi l)]=[(1,1,U vi l)]/\br 1 ([]++U vi l)=br 1 (U vi l)) ?_
 grind[V.size]
noncomputable abbrev Aoz:=Tryz.f36
abbrev j0(h:c6):List D:=[.acc 1 (h.found.map eV),.acc 2 (h.before.map vi),.acc 3 (h.av.map vi),di h.next,di h.cand,di h.used]
abbrev fw(h:c6):List (Nat×Nat×List V):=[(3,1,h.av.map vi),(2,1,h.before.map vi),(1,2,h.found.map eV)]
noncomputable abbrev j8:=fun a₀ b₀ c₀=>[(3,1,U vi a₀),(2,1,U vi b₀),(1,2,U eV c₀)]
noncomputable abbrev Avh:=fun a₀=>Aa PP 66 [cx a₀] d6 (br 1 (cc a₀)) (bh [] [(1,1,U vi a₀)])
theorem QB(h:c6)(h1:I h.found<=100000)(hs:∀v∈h.found,v.size<=1000000)(h2:I h.before<=100000)(h3:I h.av<=100000)(hb:h.before≠ [])(hr:h.av≠ []):
  Aa PP 36 [F3 h] ba (.dagg (j0 h)) ⟨[],fw h⟩:=by
 refine sv Aoz 16 [] (.h (.ck 1 1 2 (h.found.map eV))<|.h (.ck 2 1 1 (h.before.map vi))<|.h (.ck 3 1 1 (h.av.map vi))<|.h (.m (.dagg (j0 h))) .rd) (Aa PP 39 [cq h.found] d6 (br 1 (ce h.found)) (bh [] [(1,2,U eV h.found)])/\Avh h.before/\Avh h.av/\(True/\(Q (G [cx h.before])/\True)/\(Q (G [cx h.av])/\Q (G [cx h.av])/\True)/\True)/\6<=6/\[br 1 (ce h.found),br 2 (cc h.before),br 3 (cc h.av),di h.next,di h.cand,di h.used]=j0 h/\Q (j8 h.av h.before h.found)/\bi [br 1 (ce h.found),br 2 (cc h.before),br 3 (cc h.av),di h.next,di h.cand,di h.used]=bi (j0 h)) ?_
 grind[AgV,XZ]
noncomputable abbrev AmL:=Tryz.f27
theorem RW(m:cz)(hm:ei m)(c:b9)(hc:AN m c):F0 27 [Ad m,dV c] (di 0):=by
 have hsz:=hc.size hm
 have h1:=EA m hm.ok c (by omega)
 rw[hc.valid hm] at h1
 exact sv AmL 15 [2,3] (.c (di 0)<|.c (db J) .r) (_/\_/\Q (di 0)) ⟨TK m hm.ok,h1,rfl⟩
def BH(m:cz):c6:=⟨[m.start],[-1],[-1],0,0,0⟩
noncomputable abbrev AbJ:=Tryz.f19
noncomputable abbrev qm:=fun a₀ b₀=>F0 27 [Ad a₀,dV b₀] (di 0)
theorem SK(m:cz)(hm:ei m)(c:b9)(hc:AN m c):F0 19 [Ad m,dV c] (.tup [F3 (BH m),di 0]):=by
 refine sv AbJ 21 [2,3] (.c (di 0)<|.c (dV m.start) .r) (qm m c/\qn m.start/\bk [bt (ab [ai [Ac m.start],ai [vi (-1)],ai [vi (-1)],vi 0,vi 0,vi 0]),di 0]=bk [F3 (BH m),di 0]) ?_
 have hsz:=hm.start.size hm
 grind[RW,Gg,BH,AG]
noncomputable abbrev uo:=Tryz.f122
noncomputable def Api:=yl uo
def SA{α:Type}(l:List α)(i j:Nat):List α:=match l[i]?,l[j]? with
 |some a,some b=>(l.set i b).set j a
 |_,_=>l
def Ei{α:Type}:Nat->Nat->List α->List α
 |0,_,l=>l
 |n+1,i,l=>if 2*i+1<I l then Ei n (i+1) (SA l i (I l-1-i)) else l
theorem LZ{α:Type}(l:List α)(i j:Nat):I (SA l i j)=I l:=by
 grind[SA]
theorem Pk{α:Type}:∀(n i:Nat) (l:List α),I (Ei n i l)=I l
 |0,_,_=>rfl
 |n+1,i,l=>by
  rw[Ei];split
  ·rw[Pk n,LZ]
  ·rfl
theorem KK(s:c9)(l:List c9):Ab ((s::l).map c8)=[di s.1,di s.2.n,cq s.2.az]++Ab (l.map c8):=by
 rfl
theorem Rk(l k:List c9):Ab ((l++k).map c8)=Ab (l.map c8)++Ab (k.map c8):=by
 grind[Ab]
theorem Hb:∀l:List c9,I (Ab (l.map c8))=I l*3
 |[]=>rfl
 |v::l=>by rw[KK,HW,Hb l,HN];grind
theorem VC{l:List c9}{i:Nat}{x:c9}(h:l[i]?=G x):((Ab (l.map c8)).drop (i*3)).take 3=[di x.1,di x.2.n,cq x.2.az]:=by
 obtain⟨hi,rfl⟩:=HL.1 h
 have e:l=l.take i++l[i]::l.drop (i+1):=by simp_all
 grind[KK,Hb,Ab]
theorem Rj{l:List c9}{i:Nat}(hi:i<I l)(x:c9):(Ab (l.map c8)).take (i*3)++[di x.1,di x.2.n,cq x.2.az]++(Ab (l.map c8)).drop (i*3+3)=Ab ((l.set i x).map c8):=by
 have e:l=l.take i++l[i]::l.drop (i+1):=by simp_all
 grind[List.set_eq_take_append_cons_drop,Hb,Rk,KK]
abbrev mr(l:List c9):St:=⟨[G (Ab (l.map c8))],[]⟩
noncomputable abbrev At0:=fun a₀=>(Ab (U c8 a₀))
theorem AeH(N:Nat)(hN:N<=1000)(n:Nat):∀(i:Nat) (l:List c9),I l=N->N-2*i<=2*n->
  Rn PP uo 1 (.tup []) (mr (Ei n i l)) ([kl Api [1,0,0],.blk 0]++[]) (cy 28 [(0,.arr 0 0 N),(2,di i),(3,di ((N:Int)-1-i))]) (mr l):=by
 induction n with
 |zero=>
  intro i l hl hn
  refine lv 28 [] (.f .ro) (Y ((i:Int)<(N:Int)-1- (i:Int))=O/\([]:List KI)=[]/\cm 1 [] [G (Ab (U c8 l))]=J/\[G (Ab (U c8 l))]=[G (Ab (U c8 (Ei 0 i l)))]/\Q (bk [])) ?_
  grind[Aj,cm,Ei]
 |succ n ih=>
  intro i l hl hn
  by_cases h:2*i+1<N
  ·obtain⟨a,ha⟩:=yk (show i<I l by omega)
   obtain⟨b,hb⟩:=yk (show N-1-i<I l by omega)
   refine lv 28 [] (.t<|.m (.v (c8 b))<|.m (.v (c8 a))<|.h .ww<|.h .ww<|.lo [ke 0,ch 2 (di (i+1:Nat)),ch 3 (di ((N:Int)-1- (i+1:Nat)))] (mr ((l.set i b).set (N-1-i) a))) (Y ((i:Int)<(N:Int)-1- (i:Int))=J/\0<=(N:Int)-1- (i:Int)/\(N:Int)-1- (i:Int)<(N:Int)/\0+Z ((N:Int)-1- (i:Int))*3+3<=I (Ab (U c8 l))/\take 3 (W (0+Z ((N:Int)-1- (i:Int))*3) (Ab (U c8 l)))=[di b.fst,di b.snd.n,cq b.snd.az]/\0<=(i:Int)/\(i:Int)<(N:Int)/\0+Z (i:Int)*3+3<=I (Ab (U c8 l))/\take 3 (W (0+Z (i:Int)*3) (Ab (U c8 l)))=[di a.fst,di a.snd.n,cq a.snd.az]/\0<=(i:Int)/\(i:Int)<(N:Int)/\0+Z (i:Int)*3+3<=I (Ab (U c8 l))/\0<=(N:Int)-1- (i:Int)/\(N:Int)-1- (i:Int)<(N:Int)/\0+Z ((N:Int)-1- (i:Int))*3+3<=I (take (0+Z (i:Int)*3) (Ab (U c8 l))++Az (bt (ab (vi b.fst::vi b.snd.n::dt b.snd.az::nV)))++W (0+Z (i:Int)*3+3) (Ab (U c8 l)))/\yo/\di (yu yt ((i:Int)+1))=di (↑(i+1):Int)/\di (yu yt ((N:Int)-1- (i:Int)-1))=di ((N:Int)-1- (↑(i+1):Int))/\cm 1 [] [G (take (0+Z ((N:Int)-1- (i:Int))*3) (take (0+Z (i:Int)*3) (Ab (U c8 l))++[di b.fst,di b.snd.n,cq b.snd.az]++W (0+Z (i:Int)*3+3) (Ab (U c8 l)))++[di a.fst,di a.snd.n,cq a.snd.az]++W (0+Z ((N:Int)-1- (i:Int))*3+3) (take (0+Z (i:Int)*3) (Ab (U c8 l))++[di b.fst,di b.snd.n,cq b.snd.az]++W (0+Z (i:Int)*3+3) (Ab (U c8 l))))]=J/\[G (take (0+Z ((N:Int)-1- (i:Int))*3) (take (0+Z (i:Int)*3) (Ab (U c8 l))++[di b.fst,di b.snd.n,cq b.snd.az]++W (0+Z (i:Int)*3+3) (Ab (U c8 l)))++[di a.fst,di a.snd.n,cq a.snd.az]++W (0+Z ((N:Int)-1- (i:Int))*3+3) (take (0+Z (i:Int)*3) (Ab (U c8 l))++[di b.fst,di b.snd.n,cq b.snd.az]++W (0+Z (i:Int)*3+3) (Ab (U c8 l))))]=[G (Ab (U c8 (List.set (List.set l i b) (N-1-i) a)))]/\I0 uo 1 (bk []) (mr (Ei (n+1) i l)) [kl Api [1,0,0],bf 0] (cy 28 [(0,bo 0 0 N),(2,di (↑(i+1):Int)),(3,di ((N:Int)-1- (↑(i+1):Int)))]) (mr (List.set (List.set l i b) (N-1-i) a))) ?_
   have e0:0+Z (i:Int)*3=i*3:=by omega
   have e1:0+Z ((N:Int)-1-i)*3=(N-1-i)*3:=by omega
   have f1:(Ab (l.map c8)).take (i*3)++[di b.1,di b.2.n,bt (dt b.2.az)]++(Ab (l.map c8)).drop (i*3+3)=Ab ((l.set i b).map c8):=Rj (by omega) b
   have f2:(Ab ((l.set i b).map c8)).take ((N-1-i)*3)++[di a.1,di a.2.n,bt (dt a.2.az)]++(Ab ((l.set i b).map c8)).drop ((N-1-i)*3+3)=Ab (((l.set i b).set (N-1-i) a).map c8):=Rj (by grind) a
   have f3:Az (bt (ab (vi b.1::vi b.2.n::dt b.2.az::nV)))=[di b.1,di b.2.n,bt (dt b.2.az)]:=rfl
   have g1:SA l i (N-1-i)=(l.set i b).set (N-1-i) a:=by grind[SA]
   have g2:Ei (n+1) i l=Ei n (i+1) ((l.set i b).set (N-1-i) a):=by grind[Ei]
   have hll:I (Ab (l.map c8))=N*3:=by rw[Hb,hl]
   have hls:I (Ab ((l.set i b).map c8))=N*3:=by grind
   rw[e0,e1,f3,f1,f2,g2]
   refine⟨yr,by omega,by omega,by omega,VC hb,by omega,by omega,by omega,VC ha,by omega,by omega,by omega,by omega,by omega,by omega,ym,Ae,?_,?_,rfl,⟨ih (i+1) _ (by grind) (by omega)⟩⟩
   ·grind[Ak]
   grind[Aj,cm]
  ·refine lv 28 [] (.f .ro) (Y ((i:Int)<(N:Int)-1- (i:Int))=O/\([]:List KI)=[]/\cm 1 [] [G (Ab (U c8 l))]=J/\[G (Ab (U c8 l))]=[G (Ab (U c8 (Ei (n+1) i l)))]/\Q (bk [])) ?_
   grind[Ei,Aj,cm]
theorem AeG(l:List c9)(hl:I l<=1000):Aa PP 122 [.arr 0 0 (I l)] (mr l) (.tup []) (mr (Ei (I l) 0 l)):=by
 refine sv uo 28 [] (.lo [ke 0,ch 2 (di (0:Nat)),ch 3 (di ((I l:Int)-1- (0:Nat)))] (mr l)) (Q (di 0)/\di (yu yt ((I l:Int)-1))=di ((I l:Int)-1- (↑0:Int))/\cm 1 [] [G (At0 l)]=J/\Q (mr l).H/\_) ⟨rfl,by grind[Ak],Ia.2 ⟨Aj 1 [] _,rfl⟩,rfl,iK (AeH (I l) (by omega) (I l) 0 l rfl (by omega))⟩
theorem AiA:F0 122 [dl []] (.tup []):=by
 exact sv uo 28 [] (.n<|.f .r) (Y (0<yu yt ((I nV:Int)-1))=O/\([]:List KI)=[]/\Q (bk [])) ⟨by decide,rfl,rfl⟩
noncomputable abbrev rp:=Tryz.f68
noncomputable def ru:=yl rp
abbrev dv(h:c6)(m:cz)(c:b9):List D:=[cq h.found,cx h.before,cx h.av,di h.next,di h.cand,di h.used,di m.kind,.v (cp m.aw),.v (cp m.ay),.v (cp m.ax),.v (cw m.au),di m.ao,di m.age,.v (BE m.av),di m.start.n,cq m.start.az,di c.n,cq c.az]
abbrev f0(h:c6)(m:cz)(c:b9):St:=⟨[G (dv h m c)],[]⟩
structure Lw(h:c6):Prop where
 ne:h.found≠ []
 len:I h.found<=128
 size:∀v∈h.found,v.size<=1000
 bl:I h.before=I h.found
 rl:I h.av=I h.found
 back:∀(i:Nat) (b:Int),h.before[i]?=G b-> -1<=b/\b<i
def F9(h:c6):Nat->Int->List c9
 |0,_=>[]
 |f+1,n=>if h.before.getD n.toNat 0>=0 then(h.av.getD n.toNat 0,h.found.getD n.toNat default)::F9 h f (h.before.getD n.toNat 0) else[]
def wayM(h:c6)(n:Int):List c9:=Ei (I (F9 h 200 n)) 0 (F9 h 200 n)
abbrev Qk(j:Nat)(xs:List c9):List (Option (List D)):=replicate j none++[G (Ab (xs.map c8))]
theorem PB(x:List D)(j:Nat)(xs:List c9):(G x::Qk j xs)[j+1]?=G (G (Ab (xs.map c8))):=by
 grind
theorem V8(x:List D)(j:Nat)(xs:List c9)(o:Option (List D)):(G x::Qk j xs).set (j+1) o=G x::(replicate j none++[o]):=by
 simp_all
theorem AdB(h:c6)(hh:Lw h)(m:cz)(c:b9)(f:Nat):∀(n j:Nat) (xs:List c9),n<f->n<I h.found->xs≠ []->I xs+f<=200->
  Rn PP rp 1 (.v (B1 (Ei (I (xs++F9 h f n)) 0 (xs++F9 h f n)))) (f0 h m c) ([kl ru [1,1,0,0,0],.blk 0,kc ru [1,1,1]]++[]) (cy 47 [(0,.ptr 0 0),(1,di n),(5,.gro (j+1) (I xs) 3)]) ⟨G (dv h m c)::Qk j xs,[]⟩:=by
 induction f with
 |zero=>omega
 |succ f ih=>
  intro n j xs h1 h3 h4 h5
  obtain⟨b,hb⟩:∃b,h.before[n]?=G b:=⟨_,HI (by rw[hh.bl];exact h3)⟩
  obtain⟨rl,hr⟩:∃b,h.av[n]?=G b:=⟨_,HI (by rw[hh.rl];exact h3)⟩
  obtain⟨v,hv⟩:∃b,h.found[n]?=G b:=⟨_,HI h3⟩
  have hbk:=hh.back n b hb
  by_cases hb0:b>=0
  ·refine lv 47 [] (.x (vi b)<|.t<|.x (vi rl)<|.h (.xs (Ac v))<|.c (dV v)<|.h (.gx (Ab (xs.map c8)) (G (dv h m c)::Qk (j+1) (xs++[(rl,v)])))<|.x (vi b)<|.l [ke 0,ch 1 (di b.toNat),ch 5 (.gro (j+2) (I (xs++[(rl,v)])) 3)]) (0<=(n:Int)/\(cc h.before)[Z (n:Int)]?=G (vi b)/\Y (b>=0)=J/\0<=(n:Int)/\(cc h.av)[Z (n:Int)]?=G (vi rl)/\Q 2/\0<=(n:Int)/\(ce h.found)[Z (n:Int)]?=G (Ac v)/\qn v/\(G (dv h m c)::Qk j xs)[j+1]?=G (G (At0 xs))/\I (At0 xs)=I xs*3/\[ab [vi rl,vi v.n,dt v.az]]≠ []/\(∀(y:V),y∈ [ab [vi rl,vi v.n,dt v.az]]->V.size y=3)/\Ao (I xs+I (ab (vi rl::vi v.n::dt v.az::nV)::nV)) 40/\ApG (bh (G (dv h m c)::Qk j xs) []).H (G (dv h m c)::Qk (j+1) (xs++[(rl,v)])) (j+1) (Ab (U c8 xs)++Ab [ab [vi rl,vi v.n,dt v.az]])/\yo/\0<=(n:Int)/\(cc h.before)[Z (n:Int)]?=G (vi b)/\di b=di (↑(Z b):Int)/\bm (I (bh (G (dv h m c)::Qk j xs) []).H) (I xs+I (ab (vi rl::vi v.n::dt v.az::nV)::nV)) 3=bm (j+2) (I (xs++[(rl,v)])) 3/\I0 rp 1 (bt (B1 (Ei (I (xs++F9 h (f+1) (n:Int))) 0 (xs++F9 h (f+1) (n:Int))))) (f0 h m c) [kl ru [1,1,0,0,0],bf 0,kc ru [1,1,1]] (cy 47 [jh,(1,di (↑(Z b):Int)),(5,bm (j+2) (I (xs++[(rl,v)])) 3)]) (bh (G (dv h m c)::Qk (j+1) (xs++[(rl,v)])) [])) ?_
   have hw:F9 h (f+1) n=(rl,v)::F9 h f b:=by
    grind[F9]
   obtain⟨b',rfl⟩:∃b':Nat,b=b':=⟨b.toNat,by omega⟩
   have e:Ab (xs.map c8)++Ab [ab [vi rl,vi v.n,dt v.az]]=Ab ((xs++[(rl,v)]).map c8):=by rw[Rk];rfl
   have hi:=ih b' (j+1) (xs++[(rl,v)]) (by omega) (by omega) (by simp)
   rw[hw,show xs++(rl,v)::F9 h f (b':Int)=(xs++[(rl,v)])++F9 h f (b':Int) by simp,e]
   refine⟨by omega,Am hb,HK hb0,by omega,Am hr,rfl,by omega,Ap hv,Gg _ v (HP _) (by have:=hh.size v (HO hv);omega),PB _ _ _,Hb _,by simp,fun y hy=>by rw[HY.1 hy];rfl,⟨?_,?_⟩,⟨?_⟩,ym,by omega,Am hb,rfl,?_,⟨?_⟩⟩
   ·grind
   ·grind
   ·grind[V8,List.replicate_succ']
   all_goals grind
  ·refine lv 47 [] (.x (vi b)<|.f<|.h (.q 5 0)<|.h (.ga 5)<|.h (.q 5 1)<|.h (.oc (.tup []) ⟨G (dv h m c)::Qk j (Ei (I xs) 0 xs),[]⟩)<|.h (.q 6 0)<|.h (.ct 5 (.v (B1 (Ei (I xs) 0 xs))) ⟨G (dv h m c)::(replicate (j+1) none),[]⟩) .r) (0<=(n:Int)/\(cc h.before)[Z (n:Int)]?=G (vi b)/\Y (b>=0)=O/\(N0 [bt (bw 122 [] []),bo (j+1) 0 (I xs)] (bh (G (dv h m c)::Qk j xs) []) (bk []) (bh (G (dv h m c)::Qk j (Ei (I xs) 0 xs)) []))/\(∀(e:List D),e[5]?=G (bo (j+1) 0 (I xs))->∀(E:cd) (g:Gh) (a:Act) (w:x5),FI E g (bh (G (dv h m c)::Qk j (Ei (I xs) 0 xs)) []) e a w->∃g',FI E g' (bh (G (dv h m c)::replicate (j+1) none) []) (List.set e 5 (bt (B1 (Ei (I xs) 0 xs)))) a w)/\Q [G (dv h m c)]/\bt (B1 (Ei (I xs) 0 xs))=bt (B1 (Ei (I (xs++F9 h (f+1) (n:Int))) 0 (xs++F9 h (f+1) (n:Int))))) ?_
   have hw:F9 h (f+1) n=[]:=by
    grind[F9]
   rw[hw,I8]
   refine⟨by omega,Am hb,HM hb0,fun o c' fo ho hc=>?_,fun e he=>?_,rfl,rfl⟩
   ·have:=JM (σ:=⟨G (dv h m c)::Qk j xs,[]⟩) (fs:=[]) (cs:=[]) (ds:=[.arr (j+1) 0 (I xs)]) (d:=.tup []) ho hc (q:=j+1) (PB _ _ _) (Ay _) (Ay _) (.arr .nil) (by rfl) (by simpa using AeG xs (by omega))
    simp_all
   ·have:=Om (σ:=⟨G (dv h m c)::Qk j (Ei (I xs) 0 xs),[]⟩) (q:=j+1) (t:=5) (sz:=3) (xs:=(Ei (I xs) 0 xs).map c8) (by decide) (fun x hx=>by obtain⟨s,_,rfl⟩:=I2.1 hx;rfl) (by grind[Pk]) (PB _ _ _) he
    rw[V8] at this
    rwa[show replicate j none++[none]=replicate (j+1) (none:Option (List D)) by rw[List.replicate_succ']] at this
theorem AdA(h:c6)(hh:Lw h)(m:cz)(c:b9)(n:Nat)(hn:n<I h.found):Aa PP 68 [.ptr 0 0,di n] (f0 h m c) (.v (B1 (wayM h n))) (f0 h m c):=by
 obtain⟨b,hb⟩:∃b,h.before[n]?=G b:=⟨_,HI (by rw[hh.bl];exact hn)⟩
 obtain⟨rl,hr⟩:∃b,h.av[n]?=G b:=⟨_,HI (by rw[hh.rl];exact hn)⟩
 obtain⟨v,hv⟩:∃b,h.found[n]?=G b:=⟨_,HI hn⟩
 have hbk:=hh.back n b hb
 have hlen:=hh.len
 by_cases hb0:b>=0
 ·refine sv rp 47 [] (.n<|.x (vi b)<|.t<|.x (vi rl)<|.h (.xs (Ac v))<|.c (dV v)<|.h (.gx [] (G (dv h m c)::Qk 0 [(rl,v)]))<|.x (vi b)<|.l [ke 0,ch 1 (di b.toNat),ch 5 (.gro 1 [(rl,v)].length 3)]) (0<=(n:Int)/\(cc h.before)[Z (n:Int)]?=G (vi b)/\Y (b>=0)=J/\0<=(n:Int)/\(cc h.av)[Z (n:Int)]?=G (vi rl)/\Q 2/\0<=(n:Int)/\(ce h.found)[Z (n:Int)]?=G (Ac v)/\qn v/\[ab [vi rl,vi v.n,dt v.az]]≠ []/\(∀(y:V),y∈ [ab [vi rl,vi v.n,dt v.az]]->V.size y=3)/\Ao 1 40/\G (dv h m c)::Qk 0 [(rl,v)]=[G (dv h m c),G [di rl,di v.n,cq v.az]]/\yo/\0<=(n:Int)/\(cc h.before)[Z (n:Int)]?=G (vi b)/\di b=di (↑(Z b):Int)/\Q (bm 1 1 3)/\I0 rp (I (f0 h m c).H) (bt (B1 (wayM h (n:Int)))) (f0 h m c) [kl ru [1,1,0,0,0],bf 0,kc ru [1,1,1]] (cy 47 [jh,(1,di (↑(Z b):Int)),(5,bm 1 1 3)]) (bh (G (dv h m c)::Qk 0 [(rl,v)]) [])) ?_
  have hw:F9 h 200 n=(rl,v)::F9 h 199 b:=by
   rw[F9,IR,HQ,HQ,HQ,hb,hr,hv]
   simp only[Jq];rw[Ie hb0]
  obtain⟨b',rfl⟩:∃b':Nat,b=b':=⟨b.toNat,by omega⟩
  have hi:=AdB h hh m c 199 b' 0 [(rl,v)] (by omega) (by omega) (by simp) (by simp)
  refine⟨by omega,Am hb,HK hb0,by omega,Am hr,rfl,by omega,Ap hv,Gg _ v (HP _) (by have:=hh.size v (HO hv);omega),by simp,fun y hy=>by rw[HY.1 hy];rfl,⟨by decide,by decide⟩,rfl,ym,by omega,Am hb,rfl,rfl,⟨?_⟩⟩
  grind[wayM]
 ·refine sv rp 47 [] (.n<|.x (vi b)<|.f<|.c (.tup []) .r) (0<=(n:Int)/\(cc h.before)[Z (n:Int)]?=G (vi b)/\Y (b>=0)=O/\F0 122 [bt (ai [])] (bk [])/\Q [G (dv h m c)]/\bt (ai [])=bt (B1 (wayM h (n:Int)))) ?_
  have hw:F9 h 200 n=[]:=by
   grind[F9]
  exact⟨by omega,Am hb,HM hb0,AiA,rfl,by rw[wayM,hw];rfl⟩
end Go.Proofs.YtkkplhjidondkaaGreat
