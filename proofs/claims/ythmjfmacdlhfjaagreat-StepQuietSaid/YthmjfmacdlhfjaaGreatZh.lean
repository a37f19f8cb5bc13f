/-
  A part of the proof.
-/
import Derived.Test.YthmjfmacdlhfjaaGreatZg
import Derived.Test.YthmjfmacdlhfjaaGreatZf
namespace Go.Proofs.YthmjfmacdlhfjaaGreat
open Go.Dv Go.Nv
set_option maxRecDepth 20000
open List (flatten_nil length length_replicate map map_map replicate take)
open Go.IntKind (u64)
open Go.IntKind renaming wrap → yr, i64 → yq
open List renaming length → I, map → U, drop → W
open Option renaming some → G
open Bool renaming true → J, false → O
open Decidable renaming decide → Y
open Int renaming toNat → Z
open Go.Dv.V renaming list → ai, str → ae, agg → ab, int → aa, ref → bz, fn → bw, nils → bv, bool → bu
open Go.Dv.D renaming v → bt, acc → br, ptr → bq, arr → bo, gro → bm, tup → bl, undef → bk, dagg → bj
open Go.Dv.St renaming mk → bi
open Go.Dv.KI renaming blk → bh
open _root_.ByteArray renaming mk → bg
open Go renaming Operand → x5, Program → x4, TypeId → yz, World → yy, Value → yx, Oper → yw, FuncId → yv, Func → yu, IntKind → yt
mutual
def Ek:bc->bd->bd
 |.prod l,v=>.mk v.n (Sa l v.az)
 |.word t,v=>.mk v.n (v.az.map fun k=>Ek t k)
 |.bag t,v=>.mk v.n (sortV (v.az.map fun k=>Ek t k))
 |.nat,v=>v
 |.lab _,v=>v
 |.prio _ _,v=>v
def Sa:List bc->List bd->List bd
 |t::l,v::vs=>Ek t v::Sa l vs
 |_,_=>[]
end
mutual
def g8:bc->bd->Bool
 |.prod l,v=>(I v.az==I l)&&k6 l v.az
 |.word t,v=>v.az.all fun k=>g8 t k
 |.bag t,v=>v.az.all fun k=>g8 t k
 |.nat,_=>true
 |.lab _,_=>true
 |.prio _ _,_=>true
def k6:List bc->List bd->Bool
 |t::l,v::vs=>g8 t v&&k6 l vs
 |_,_=>true
end
theorem AaT(t:bc)(n:Int)(N k:Nat)(hk:k<N)(hN:N<=1000)(C C':List D)(hC:I C=N*2)(x x':bd)(hx:(C.drop (k*2)).take 2=[.v (vi x.n),.v (cc x.az)])(hC':C.take (k*2)++[.v (vi x'.n),.v (cc x'.az)]++C.drop (k*2+2)=C')(hc:F0 79 [dT t,dV x] (dV x'))(d:D)(σ':St)
  (next:Rn PP B5 0 d σ' (RJ++[]) (b9 117 [(2,.v (.ref (vT (.word t)))),(4,.ptr 0 0),(5,.ptr 2 0),(6,di (k+1:Nat))]) (Er n N C')):
  Rn PP B5 0 d σ' (RJ++[]) (b9 117 [(2,.v (.ref (vT (.word t)))),(4,.ptr 0 0),(5,.ptr 2 0),(6,di k)]) (Er n N C):=by
 have k0:0+Z (k:Int)*2=k*2:=by omega
 refine lv 117 [2,3] (.t<|.k<|.f<|.k<|.t<|.m (.arr 1 0 N)<|.x (vT t)<|.m (.arr 1 0 N)<|.m (dV x)<|.c (dV x')<|.h .ww<|.l [ke 2,ke 4,ke 5,ch 6 (di (k+1:Nat))]) (Y ((k:Int)<(N:Int))=J/\false=O/\true=J/\G (bo 1 0 N)=G (bo 1 0 N)/\iz 0<=0/\G (eT t)=G (vT t)/\G (bo 1 0 N)=G (bo 1 0 N)/\0<=(k:Int)/\(k:Int)<(N:Int)/\0+Z (k:Int)*2+2<=I C/\take 2 (W (0+Z (k:Int)*2) C)=[di x.n,cx x.az]/\F0 79 [bt (vT t),dV x] (dV x')/\0<=(k:Int)/\(k:Int)<(N:Int)/\0+Z (k:Int)*2+2<=I C/\(yh (True))/\di (yr yq ((k:Int)+1))=di (↑(k+1):Int)/\I0 B5 0 d σ' [kl CL [1,1,0,1,0,0],bh 0,kc CL [1,1,1]] (b9 117 [(2,bt (bz (vT (bc.word t)))),(4,bq 0 0),(5,bq 2 0),(6,di (↑(k+1):Int))]) (bi [G [di 0,dn],G (take (0+Z (k:Int)*2) C++[di x'.n,cx x'.az]++W (0+Z (k:Int)*2+2) C),G [di n,bo 1 0 N]] [])) ?_
 simp only[k0]
 have hC2:C.take (k*2)++[di x'.n,.v (cc x'.az)]++C.drop (k*2+2)=C':=hC'
 simp only[hC2]
 exact⟨yp,trivial,trivial,trivial,by decide,Iq G (HJ t),trivial,by omega,by omega,by omega,hx,hc,by omega,by omega,by omega,⟨trivial,trivial,trivial,trivial⟩,As,⟨next⟩⟩
theorem AaV(t:bc)(h3:t.kd≠3)(h4:t.kd≠4)(h5:t.kd≠5)(n:Int)(N k:Nat)(hk:k<N)(hN:N<=1000)(C:List D)(d:D)(σ':St)
  (next:Rn PP B5 0 d σ' (RJ++[]) (b9 117 [(2,.v (.ref (vT t))),(4,.ptr 0 0),(5,.ptr 2 0),(6,di (k+1:Nat))]) (Er n N C)):
  Rn PP B5 0 d σ' (RJ++[]) (b9 117 [(2,.v (.ref (vT t))),(4,.ptr 0 0),(5,.ptr 2 0),(6,di k)]) (Er n N C):=by
 exact lv 117 [2,3] (.t<|.f<|.k<|.f<|.f<|.l [ke 2,ke 4,ke 5,ch 6 (di (k+1:Nat))]) (Y ((k:Int)<(N:Int))=J/\(bc.kd t==3)=O/\(bc.kd t==4)=O/\(bc.kd t==5)=O/\di (yr yq ((k:Int)+1))=di (↑(k+1):Int)/\_) ⟨yp,I7.2 h3,I7.2 h4,I7.2 h5,As,iK next⟩
theorem Ahr(l:List bd):∀v∈l.map eV,v.size=2:=fun v hv=>by
 obtain⟨y,_,rfl⟩:=IA.1 hv
 rw[AR];rfl
theorem Lb(T:bc)(n:Int)(ks ks':List bd)(hn:ks≠ [])(hl:I ks'=I ks)(hz:(bd.mk n ks).size<=900)(d:D)
  (step:∀(k:Nat) (x x':bd) (C C':List D),k<I ks->ks[k]?=G x->ks'[k]?=G x'->I C=I ks*2->(C.drop (k*2)).take 2=[.v (vi x.n),.v (cc x.az)]->C.take (k*2)++[.v (vi x'.n),.v (cc x'.az)]++C.drop (k*2+2)=C'->
   Rn PP B5 0 d bf (RJ++[]) (b9 117 [(2,.v (.ref (vT T))),(4,.ptr 0 0),(5,.ptr 2 0),(6,di (k+1:Nat))]) (Er n (I ks) C')->
   Rn PP B5 0 d bf (RJ++[]) (b9 117 [(2,.v (.ref (vT T))),(4,.ptr 0 0),(5,.ptr 2 0),(6,di k)]) (Er n (I ks) C))
  (fin:Rn PP B5 0 d bf (RJ++[]) (b9 117 [(2,.v (.ref (vT T))),(4,.ptr 0 0),(5,.ptr 2 0),(6,di (I ks))]) (Er n (I ks) (Ad (ks'.map eV)))):
  F0 79 [dT T,dV (.mk n ks)] d:=by
 have hcp:=AkZ (.mk n ks) hn hz
 have loop (m:Nat):∀k:Nat,I ks-k=m->k<=I ks->Rn PP B5 0 d bf (RJ++[]) (b9 117 [(2,.v (.ref (vT T))),(4,.ptr 0 0),(5,.ptr 2 0),(6,di k)]) (Er n (I ks) (Ad ((ks'.take k++ks.drop k).map eV))):=by
  induction m with
  |zero=>
   intro k hm hk
   have e:k=I ks:=by omega
   subst e
   rw[Im (HX _),IG (ks'.take (I ks)),Iw (by omega)]
   exact fin
  |succ m ih=>
   intro k hm hk
   obtain⟨x,hx⟩:=yi (show k<I ks by omega)
   obtain⟨x',hx'⟩:∃x,ks'[k]?=G x:=⟨_,HQ (show k<I ks' by omega)⟩
   have hd:ks.drop k=x::ks.drop (k+1):=by rw[Ih (show k<I ks by omega),(HT.1 hx).2]
   have htk:ks'.take (k+1)=ks'.take k++[x']:=by rw[Jn,hx'];rfl
   have hkl:I (ks'.take k)=k:=by rw[Iy];omega
   have hm1:=Mi (ks'.take k) (ks.drop (k+1)) x x'
   have hat:=Gx (l:=ks'.take k++x::ks.drop (k+1)) (i:=k) (x:=x) (by rw[Il (by omega),hkl,Nat.sub_self];rfl)
   rw[hkl] at hm1
   rw[hd]
   have hih:=ih (k+1) (by omega) (by omega)
   rw[htk,IZ,List.singleton_append] at hih
   exact step k x x' _ _ (by omega) hx hx' (by rw[BC,Ig,HV,IY,hkl];omega) hat hm1 hih
 have hlp:=loop _ 0 rfl (I3 _)
 rw[List.take_zero,List.nil_append,J1] at hlp
 have hF:=Rp (.mk n ks)
 have hcall:∀(o:yw) (c:Call) (fo:x5),o.op=.call c->c.callee=.value fo->Ay PP o [.v (.fn 144 [] []),dV (.mk n ks)] ⟨[G [di 0,.v .nils]],[]⟩ (.dagg [di n,.arr 1 0 (I ks)]) ⟨[G [di 0,.v .nils],G (lg (.mk n ks))],[]⟩:=fun o c fo ho hc=>Aje (H:=[G [di 0,.v .nils]]) rfl hF hcp ho hc
 have hlp:Rn PP B5 0 d bf (RJ++[]) (b9 117 [(2,.v (.ref (vT T))),(4,.ptr 0 0),(5,.ptr 2 0),(6,di (0:Nat))]) (Er n (I ks) (lg (.mk n ks))):=hlp
 clear hcp loop fin step
 generalize lg (.mk n ks)=F at*
 exact sv B5 117 [2,3] (.h (.oc (.dagg [di n,.arr 1 0 (I ks)]) ⟨[G [di 0,.v .nils],G F],[]⟩)<|.l [ke 2,ke 4,ke 5,ch 6 (di (0:Nat))]) (_/\Q (di 0)/\_) ⟨hcall,rfl,iK hlp⟩
theorem NO(T:bc)(h5:T.kd≠5)(n:Int)(ks':List bd)(hl:I ks'<=1000):Rn PP B5 0 (dV (.mk n ks')) bf (RJ++[]) (b9 117 [(2,.v (.ref (vT T))),(4,.ptr 0 0),(5,.ptr 2 0),(6,di (I ks'))]) (Er n (I ks') (Ad (ks'.map eV))):=by
 have hcv:=fun e=>FU (σ:=Er n (I ks') (Ad (ks'.map eV))) (p:=2) (q:=1) (i:=1) (sz:=2) (cs:=[di n,.arr 1 0 (I ks')]) (xs:=ks'.map eV) (by decide) rfl rfl (by decide) (by rw[HP];rfl) (Ahr ks') e
 refine Xr (hcv _) ?_
 show Rn PP B5 0 (dV (.mk n ks')) bf (RJ++[]) (b9 117 [(2,.v (.ref (vT T))),(4,.ptr 0 0),(5,.ptr 2 0),(6,di (I ks'))]) ⟨[G [di 0,.v .nils],none,G [di n,cx ks']],[]⟩
 exact lv 117 [2,3] (.f<|.t<|.r) (Y ((I ks':Int)<(I (U eV ks'):Int))=O/\(bc.kd T !=5)=J/\Q (dV (bd.mk n ks'))) ⟨HU (by rw[HP];omega),bne_iff_ne.2 h5,rfl⟩
theorem UV{a b:List bd}(h:a.Perm b):bd.sizes a=bd.sizes b:=by
 induction h with
 |nil=>rfl
 |cons x _ ih=>simp only[bd.sizes,ih]
 |swap x y l=>simp only[bd.sizes];omega
 |trans _ _ h1 h2=>exact h1.trans h2
theorem ZF(n:Nat):(∀(t:bc) (v:bd),v.size<=n->(Ek t v).size<=v.size)/\∀(l:List bc) (vs:List bd),bd.sizes vs<=n->bd.sizes (Sa l vs)<=bd.sizes vs:=by
 induction n with
 |zero=>exact⟨fun t v h=>absurd v.size_pos (by omega),fun l vs h=>by
   cases vs with
   |nil=>cases l<;>simp[Sa]
   |cons v vs=>have:=v.size_pos;simp only[bd.sizes] at h;omega⟩
 |succ n ih=>
  have hm:∀(t:bc) (vs:List bd),bd.sizes vs<=n->bd.sizes (vs.map fun k=>Ek t k)<=bd.sizes vs:=by
   intro t vs
   induction vs with
   |nil=>intro _;exact HX _
   |cons v vs ihv=>
    intro h
    simp only[bd.sizes] at h
    have h1:=ih.1 t v (by omega)
    have h2:=ihv (by omega)
    simp only[Iu,bd.sizes];omega
  have hV:∀(t:bc) (v:bd),v.size<=n+1->(Ek t v).size<=v.size:=fun t v h=>by
   obtain⟨k,ks⟩:=v
   simp only[bd.size] at h
   cases t with
   |nat=>exact HX _
   |lab _=>exact HX _
   |prio _ _=>exact HX _
   |prod l=>have:=ih.2 l ks (by omega);simp only[Ek,bd.size,bd.az];omega
   |word t=>have:=hm t ks (by omega);simp only[Ek,bd.size,bd.az];omega
   |bag t=>
    have:=hm t ks (by omega)
    have hp:=UV (AN (ks.map fun k=>Ek t k))
    simp only[Ek,bd.size,bd.az,hp];omega
  refine⟨hV,fun l vs=>?_⟩
  induction vs generalizing l with
  |nil=>intro _;cases l<;>simp[Sa]
  |cons v vs ihv=>
   intro h
   simp only[bd.sizes] at h
   cases l with
   |nil=>simp only[Sa,bd.sizes];omega
   |cons t l=>
    have h1:=hV t v (by omega)
    have h2:=ihv l (by have:=v.size_pos;omega)
    simp only[Sa,bd.sizes];omega
theorem ZH(t:bc)(v:bd):(Ek t v).size<=v.size:=(ZF v.size).1 t v (HX _)
theorem ZI:∀(l:List bc) (vs:List bd),I vs=I l->I (Sa l vs)=I vs/\∀(k:Nat) (t:bc) (x:bd),l[k]?=G t->vs[k]?=G x->(Sa l vs)[k]?=G (Ek t x)
 |[],[],_=>⟨rfl,fun k t x h=>by simp at h⟩
 |[],_::_,h=>by simp at h
 |_::_,[],h=>by simp at h
 |t::l,v::vs,h=>by
  obtain⟨g1,g2⟩:=ZI l vs (by simpa using h)
  refine⟨by simp[Sa,g1],fun k t' x h1 h2=>?_⟩
  cases k with
  |zero=>simp at h1 h2;subst h1 h2;rfl
  |succ k=>exact g2 k t' x (by simpa using h1) (by simpa using h2)
theorem Xk:∀(l:List bc) (vs:List bd),k6 l vs=J->∀(k:Nat) (t:bc) (x:bd),l[k]?=G t->vs[k]?=G x->g8 t x=J
 |[],_,_,k,t,x,h,_=>by simp at h
 |_::_,[],_,k,t,x,_,h=>by simp at h
 |t::l,v::vs,h,k,t',x,h1,h2=>by
  simp only[k6,HR] at h
  cases k with
  |zero=>simp at h1 h2;subst h1 h2;exact h.1
  |succ k=>exact Xk l vs h.2 k t' x (by simpa using h1) (by simpa using h2)
theorem VL{C:List D}{k:Nat}{x y:D}(hx:(C.drop (k*2)).take 2=[x,y]):C.take (k*2)++[x,y]++C.drop (k*2+2)=C:=by
 rw[←hx,IZ, ←List.drop_drop,List.take_append_drop,List.take_append_drop]
theorem AaX(N:Nat):∀t:bc,SizeOf.sizeOf t<=N->∀v:bd,v.size<=900->g8 t v=J->F0 79 [dT t,dV v] (dV (Ek t v)):=by
 induction N with
 |zero=>intro t ht;cases t<;>simp at ht
 |succ N ih=>
  intro t ht v hz hsh
  obtain⟨n,ks⟩:=v
  have hks:(bd.mk n ks).az=ks:=rfl
  have hsz:=(bd.mk n ks).size_eq
  have hle:=bd.length_le ks
  rw[hks] at hsz
  by_cases hn:ks=[]
  ·subst hn
   have e:Ek t (.mk n [])=.mk n []:=by
    cases t with
    |nat=>rfl
    |lab _=>rfl
    |prio _ _=>rfl
    |prod l=>cases l<;>rfl
    |word t=>rfl
    |bag t=>show bd.mk n (sortV [])=_;rw[(AN []).eq_nil]
   rw[e]
   exact AaW t n
  ·have hkz:∀k∈ks,k.size<=900:=fun k hk=>by have:=bd.size_mem hk;omega
   have oth:t.kd≠3->t.kd≠4->t.kd≠5->F0 79 [dT t,dV (.mk n ks)] (dV (.mk n ks)):=fun h3 h4 h5=>
    Lb t n ks ks hn rfl hz _ (fun k x x' C C' hk hx hx' _ hC hC' next=>by
     rw[hx] at hx'
     cases hx'
     rw[VL hC] at hC'
     subst hC'
     exact AaV t h3 h4 h5 n _ k hk (by omega) C _ _ next) (NO t h5 n ks (by omega))
   cases t with
   |nat=>exact oth (by simp[bc.kd]) (by simp[bc.kd]) (by simp[bc.kd])
   |lab _=>exact oth (by simp[bc.kd]) (by simp[bc.kd]) (by simp[bc.kd])
   |prio _ _=>exact oth (by simp[bc.kd]) (by simp[bc.kd]) (by simp[bc.kd])
   |prod l=>
    simp only[g8,bd.az,HR,I4] at hsh
    obtain⟨p1,p2⟩:=ZI l ks hsh.1
    refine Lb (.prod l) n ks (Sa l ks) hn p1 hz _ (fun k x x' C C' hk hx hx' hC h1 h2 next=>?_) ?_
    ·obtain⟨t,htk⟩:=yi (show k<I l by omega)
     have hq:=p2 k t x htk hx
     rw[hx'] at hq
     cases hq
     exact AaU l n _ k hk (by omega) C C' hC t x _ h1 h2 htk (ih t (by have:=List.sizeOf_lt_of_mem (HW htk);simp at ht;omega) x (hkz x (HW hx)) (Xk l ks hsh.2 k t x htk hx)) _ _ next
    ·rw[←p1];exact NO (.prod l) (by simp[bc.kd]) n (Sa l ks) (by omega)
   |word t=>
    simp only[g8,bd.az,ID] at hsh
    have hl:I (ks.map fun k=>Ek t k)=I ks:=HP ..
    refine Lb (.word t) n ks (ks.map fun k=>Ek t k) hn hl hz _ (fun k x x' C C' hk hx hx' hC h1 h2 next=>?_) ?_
    ·rw[I9,hx] at hx'
     cases hx'
     exact AaT t n _ k hk (by omega) C C' hC x _ h1 h2 (ih t (by simp at ht;omega) x (hkz x (HW hx)) (hsh x (HW hx))) _ _ next
    ·have:=NO (.word t) (by simp[bc.kd]) n (ks.map fun k=>Ek t k) (by omega)
     rw[hl] at this
     exact this
   |bag t=>
    simp only[g8,bd.az,ID] at hsh
    have hl:I (ks.map fun k=>Ek t k)=I ks:=HP ..
    refine Lb (.bag t) n ks (ks.map fun k=>Ek t k) hn hl hz _ (fun k x x' C C' hk hx hx' hC h1 h2 next=>?_) ?_
    ·rw[I9,hx] at hx'
     cases hx'
     exact AaS t n _ k hk (by omega) C C' hC x _ h1 h2 (ih t (by simp at ht;omega) x (hkz x (HW hx)) (hsh x (HW hx))) _ _ next
    ·have hsl:=AaY (.bag t) n (ks.map fun k=>Ek t k) (by omega) (fun x hx=>by
      obtain⟨k,hk,rfl⟩:=IA.1 hx
      have:=ZH t k;have:=hkz k hk;omega) _ 1 (ks.map fun k=>Ek t k) (HX _) rfl (List.Perm.refl _) (by
      cases ks with
      |nil=>exact List.Pairwise.nil
      |cons a ks=>exact List.pairwise_singleton _ _)
     rw[jy,hl] at hsl
     show Rn PP B5 0 (dV (.mk n (sortV (ks.map fun k=>Ek t k)))) bf _ _ _
     generalize Ad ((ks.map fun k=>Ek t k).map eV)=F at*
     exact lv 117 [2,3] (.f<|.k<|.l [ke 2,ke 4,ke 5,ch 7 (di (1:Nat))]) (Y ((I ks:Int)<(I ks:Int))=O/\Q (di 1)/\_) ⟨yo,rfl,iK hsl⟩
noncomputable abbrev tb:=Tryz.f43
noncomputable abbrev xx:=Tryz.f45
def lz(t:bc)(v:bd):bd×Int:=if (Y ((v.size:Int)<=128)&&Aw t (Ek t v))=J then(Ek t v,0) else(.mk 0 [],5)
theorem S4(t:bc)(ht:B4 8 t=J)(v:bd)(hz:v.size<=900)(hsh:g8 t v=J):F0 43 [dT t,dV v] (.tup [dV (lz t v).1,di (lz t v).2]):=by
 have h1:=QB t ht
 have h2:=AaX _ t (HX _) v hz hsh
 have h3:=Gk t ht (Ek t v)
 have h4:=JX _ v (HX _) 128 (by decide) (by decide)
 unfold lz
 generalize Ek t v=w at*
 by_cases hs:(v.size:Int)<=128
 ·rw[HS hs,I2]
  cases hv:Aw t w with
  |true=>
   rw[hv] at h3
   rw[Io rfl]
   exact sv tb 27 [2,3] (.c (di 0)<|.k<|.c (di (min (v.size:Int) (128+1)))<|.f<|.c (dV w)<|.c (db J)<|.k<|.r) (_/\_/\Y (min (↑(bd.size v):Int) (128+1)>128)=O/\_/\_/\Q (bl [dV (w,0).fst,di (w,0).snd])) ⟨h1,h4,yo,h2,h3,rfl⟩
  |false=>
   rw[hv] at h3
   rw[Ij (by decide)]
   exact sv tb 27 [2,3] (.c (di 0)<|.k<|.c (di (min (v.size:Int) (128+1)))<|.f<|.c (dV w)<|.c (db O)<|.k<|.r) (_/\_/\Y (min (↑(bd.size v):Int) (128+1)>128)=O/\_/\_/\Q (bl [bt (ab [vi 0,ai []]),di 5])) ⟨h1,h4,yo,h2,h3,rfl⟩
 ·rw[HU hs,Iz,Ij (by decide)]
  exact sv tb 27 [2,3] (.c (di 0)<|.k<|.c (di (min (v.size:Int) (128+1)))<|.t<|.r) (_/\_/\Y (min (↑(bd.size v):Int) (128+1)>128)=J/\Q (bl [bt (ab [vi 0,ai []]),di 5])) ⟨h1,h4,yp,rfl⟩
noncomputable abbrev YT:=Tryz.f185
noncomputable def Wm:=yj YT
theorem Pk(n x:Int):F0 185 [dT (.lab n),dV (.mk x [])] (dV (.mk x [])):=by
 exact sv YT 68 [2,3] (.n<|.f<|.f .r) (Y (0<(I (U eV (bd.az (bd.mk x []))):Int))=O/\(bc.kd (bc.lab n)==5)=O/\Q (dV (bd.mk x []))) ⟨rfl,rfl,rfl⟩
theorem Pj(v:Int)(l:List bc)(hl:I l<=1000)(ks ks':List bd)(h1:I ks=I l)(h2:I ks'=I l)
  (hc:∀(i:Nat) (t:bc) (x x':bd),l[i]?=G t->ks[i]?=G x->ks'[i]?=G x'->F0 185 [dT t,dV x] (dV x')) (n:Nat):∀k:Nat,I l-k=n->k<=I l->
  Rn PP YT 0 (dV (.mk v ks')) bf ([kl Wm [1,1,0,1,0,0],.blk 0,kc Wm [1,1,1]]++[]) (b9 68 [(2,.v (.ref (vT (.prod l)))),(4,.ptr 0 0),(5,.ptr 1 0),(12,.v (cc ks)),(13,di (I ks)),(14,di k)]) (ei v (ks'.take k)):=by
 induction n with
 |zero=>
  intro k hn hk
  refine lv 68 [2,3] (.f<|.f .r) (Y ((k:Int)<(I ks:Int))=O/\(bc.kd (bc.prod l)==5)=O/\bt (ab [vi v,ai (U eV (take k ks'))])=dV (bd.mk v ks')) ?_
  rw[Iw (by omega)]
  exact⟨yo,rfl,rfl⟩
 |succ n ih=>
  intro k hn hk
  obtain⟨t,ht⟩:=yi (show k<I l by omega)
  obtain⟨x,hx⟩:=yi (show k<I ks by omega)
  obtain⟨x',hx'⟩:∃x',ks'[k]?=G x':=⟨_,HQ (show k<I ks' by omega)⟩
  have hh:=hc k t x x' ht hx hx'
  have hm:(ks'.take (k+1)).map eV=(ks'.take k).map eV++[ab [vi x'.n,cc x'.az]]:=by rw[Jn,hx',Jq,Option.toList_some,Iu,IP,AR]
  have hz:I (ks'.take k)<=1000:=by rw[Iy];omega
  have hi:=ih (k+1) (by omega) (by omega)
  exact lv 68 [2,3] (.t<|.h (.xs (Au x))<|.t<|.t<|.x (vT t)<|.c (dV x')<|.ls [ke 2,ke 4,ke 5,ke 12,ke 13,ch 14 (di (k+1:Nat))] (ei v (ks'.take (k+1)))) (Y ((k:Int)<(I ks:Int))=J/\Q 2/\0<=(k:Int)/\(U eV ks)[Z (k:Int)]?=G (Au x)/\(bc.kd (bc.prod l)==3)=J/\Y ((k:Int)<(I (U eT (bc.ps (bc.prod l))):Int))=J/\0<=(k:Int)/\(U eT (bc.ps (bc.prod l)))[Z (k:Int)]?=G (vT t)/\_/\yn/\Q (U eV (take k ks'))/\A9 (I (U eV (take k ks'))+I (ab (vi x'.n::cc x'.az::nV)::nV)) 32/\di (yr yq ((k:Int)+1))=di (↑(k+1):Int)/\[G [di 0,dn],G [di v,br 1 (U eV (take k ks')++ab (vi x'.n::cc x'.az::nV)::nV)]]=[G [di 0,dn],G [di v,br 1 (U eV (take (k+1) ks'))]]/\[(1,2,U eV (take k ks')++ab (vi x'.n::cc x'.az::nV)::nV)]=[(1,2,U eV (take (k+1) ks'))]/\_) ⟨yp,rfl,by omega,A1 hx,rfl,HS (by rw[HP];exact Int.ofNat_lt.2 (by show k<I l;omega)),by omega,by rw[←HJ t];exact A3 (a:=l) ht,hh,yl,rfl,⟨by simp only[HP,HV,HZ];omega,by simp only[HP,HV,HZ];omega⟩,As,by rw[hm],by rw[hm],iK hi⟩
theorem Ad6(v:Int)(l:List bc)(hl:I l<=1000)(ks ks':List bd)(h1:I ks=I l)(h2:I ks'=I l)
  (hc:∀(i:Nat) (t:bc) (x x':bd),l[i]?=G t->ks[i]?=G x->ks'[i]?=G x'->F0 185 [dT t,dV x] (dV x')):
  F0 185 [dT (.prod l),dV (.mk v ks)] (dV (.mk v ks')):=by
 exact sv YT 68 [2,3] (.h .rn<|.h (.q 2 0)<|.h (.cl 1 1 1 2)<|.ls [ke 2,ke 4,ke 5,ch 12 (.v (cc ks)),ch 13 (di (I ks)),ch 14 (di (0:Nat))] (ei v [])) (Q (cx ks)/\di (I (U eV (bd.az (bd.mk v ks))):Int)=di (I ks:Int)/\Q (di 0)/\Q [G [di 0,dn],G [di v,br 1 nV]]/\Q [(1,2,nV)]/\_) ⟨rfl,by show di _=_;rw[HP];rfl,rfl,rfl,rfl,iK (Pj v l hl ks ks' h1 h2 hc _ 0 rfl (I3 _))⟩
abbrev ov(v:Int)(xs:List bd):St:=⟨[G [di 0,.v .nils],G [di v,.gro 2 (I xs) 2],G (Ad (xs.map eV))],[]⟩
theorem Ad7{R:List D->St->Prop}{ks:List KI}{e e':List D}(v:Int)(n:Nat)(x:List D)(F:List V)(_:Nat)(_:(0:Nat)<=0)(_:(0:Nat)=0)(he:D.okNs 3 [] e'=J)(hee:e=D.rens (fun i=>if i<2 then i else i+2) id e')
  (h:AI (CN 0) PP R ks e' ⟨[G [di 0,.v .nils],G [di v,.gro 2 n 2],G (Ad F)],[]⟩):AI (CN 0) PP R ks e ⟨[G [di 0,.v .nils],G [di v,.gro 4 n 2],none,G x,G (Ad F)],[]⟩:=by
 refine Dk (σ:=⟨[G [di 0,.v .nils],G [di v,.gro 4 n 2],none,G x,G (Ad F)],[]⟩) (e':=e') (H':=[G [di 0,.v .nils],G [di v,.gro 2 n 2],G (Ad F)]) (m:=0) (fun _ _ h=>h.2) (fun i=>if i<2 then i else i+2) (I3 _) (fun i hi=>by omega) (fun i j _ _ h=>?_) (fun i cs hi=>?_) he hee h
 ·have h:(if i<2 then i else i+2)=(if j<2 then j else j+2):=h
  split at h<;>split at h<;>omega
 ·match i,hi with
  |0,hi=>simp at hi;subst hi;exact⟨rfl,rfl⟩
  |1,hi=>simp at hi;subst hi;exact⟨rfl,rfl⟩
  |2,hi=>
   simp at hi;subst hi
   exact⟨by rw[AS (A5 _)];rfl,Az _ _ _⟩
  |i+3,hi=>simp at hi
theorem QL(v:Int)(t:bc)(ks ks':List bd)(hl:I ks<=1000)(h1:I ks'=I ks)(hs:∀x∈ks',x.size<=1000000)
  (hc:∀(i:Nat) (x x':bd),ks[i]?=G x->ks'[i]?=G x'->F0 185 [dT t,dV x] (dV x')) (n:Nat):∀k:Nat,I ks- (k+1)=n->k<I ks->
  Rn PP YT 0 (dV (.mk v (sortV ks'))) bf ([kl Wm [1,1,0,1,0,0],.blk 0,kc Wm [1,1,1]]++[]) (b9 68 [(2,.v (.ref (vT (.bag t)))),(4,.ptr 0 0),(5,.ptr 1 0),(12,.v (cc ks)),(13,di (I ks)),(14,di (k+1:Nat))]) (ov v (ks'.take (k+1))):=by
 induction n with
 |zero=>
  intro k hn hk
  have e:k+1=I ks':=by omega
  have hsl:I (sortV ks')=I ks':=(AN _).length_eq
  refine lv 68 [2,3] (.f<|.t<|.h (.q 13 2)<|.h (.ga 65)<|.h (.oc (.tup []) ⟨[G [di 0,.v .nils],G [di v,.gro 2 (I ks') 2],G (Ad ((sortV ks').map eV))],[]⟩)<|.h (.q 14 0)<|.h (.cs ⟨[G [di 0,.v .nils],G [di v,cx (sortV ks')],none],[]⟩)<|.r) (Y ((↑(k+1):Int)<(I ks:Int))=O/\(bc.kd (bc.bag t)==5)=J/\(∀(o:yw) (c:Call) (fo:x5),o.op=Op.call c->c.callee=Callee.value fo->Ay PP o [bt (bw 92 [] []),bo 2 0 (I (take (k+1) ks')),bt (bw 39 [] [])] (ov v (take (k+1) ks')) (bl []) (bi [G [di 0,dn],G [di v,bm 2 (I ks') 2],G (Ad (U eV (sortV ks')))] []))/\(∀(e:List D) (E:co) (g:Gh) (a:Act) (w:yy),FI E g (bi [G [di 0,dn],G [di v,bm 2 (I ks') 2],G (Ad (U eV (sortV ks')))] []) e a w->∃g',FI E g' (bi [G [di 0,dn],G [di v,cx (sortV ks')],none] []) e a w)/\Q (dV (bd.mk v (sortV ks')))) ⟨yo,rfl,fun o cl fo hop hc=>?_,fun e=>?_,rfl⟩
  ·rw[e,Iw (HX _)]
   have:=Ov (dc:=[.arr 0 0 (I ks'),dfn 39]) (σ:=ov v ks') (q:=2) (fs:=[]) (cs:=[]) (ds:=[.arr 2 0 (I ks'),dfn 39]) hop hc rfl (A5 _) (A5 _) (.arr (.pl rfl .nil)) rfl (Fw ks' (by omega) hs)
   simpa[ov] using this
  ·exact K5 (σ:=⟨[G [di 0,.v .nils],G [di v,.gro 2 (I ks') 2],G (Ad ((sortV ks').map eV))],[]⟩) (p:=1) (q:=2) (i:=1) (sz:=2) (cs:=[di v,.gro 2 (I ks') 2]) (xs:=(sortV ks').map eV) (by decide) rfl rfl (by decide) (by rw[HP,hsl];rfl) (Fx _) e
 |succ n ih=>
  intro k hn hk
  obtain⟨x,hx⟩:=yi (show k+1<I ks by omega)
  obtain⟨x',hx'⟩:∃x',ks'[k+1]?=G x':=⟨_,HQ (show k+1<I ks' by omega)⟩
  refine lv 68 [2,3] (.t<|.h (.xs (Au x))<|.f<|.k<|.f<|.t<|.x (vT t)<|.c (dV x')<|.lo [ke 2,ke 4,ke 5,ke 12,ke 13,ch 14 (di (k+1+1:Nat))] ⟨[G [di 0,.v .nils],G [di v,.gro 4 (k+1+1) 2],none,G [di x'.n,.v (cc x'.az)],G (Ad ((ks'.take (k+1+1)).map eV))],[]⟩) (Y ((↑(k+1):Int)<(I ks:Int))=J/\Q 2/\0<=(↑(k+1):Int)/\(U eV ks)[Z (↑(k+1):Int)]?=G (Au x)/\(bc.kd (bc.bag t)==3)=O/\(bc.kd (bc.bag t)==4)=O/\(bc.kd (bc.bag t)==5)=J/\iz 0<=0/\G (eT t)=G (vT t)/\F0 185 [bt (vT t),dV x] (dV x')/\yn/\I (Ad (U eV (take (k+1) ks')))=I (take (k+1) ks')*2/\[ab [vi x'.n,cc x'.az]]≠ []/\(∀(y:V),y∈ [ab [vi x'.n,cc x'.az]]->V.size y=2)/\A9 (I (take (k+1) ks')+I (ab (vi x'.n::cc x'.az::nV)::nV)) 32/\di (yr yq ((↑(k+1):Int)+1))=di (↑(k+1+1):Int)/\cp 5 [] [G [di 0,dn],G [di v,bm 4 (I (take (k+1) ks')+I (ab (vi x'.n::cc x'.az::nV)::nV)) 2],none,G [di x'.n,cx x'.az],G (Ad (U eV (take (k+1) ks'))++[di x'.n,cx x'.az])]=J/\[G [di 0,dn],G [di v,bm 4 (I (take (k+1) ks')+I (ab (vi x'.n::cc x'.az::nV)::nV)) 2],none,G [di x'.n,cx x'.az],G (Ad (U eV (take (k+1) ks'))++[di x'.n,cx x'.az])]=[G [di 0,dn],G [di v,bm 4 (k+1+1) 2],none,G [di x'.n,cx x'.az],G (Ad (U eV (take (k+1+1) ks')))]/\I0 YT 0 (dV (bd.mk v (sortV ks'))) bf [kl Wm [1,1,0,1,0,0],bh 0,kc Wm [1,1,1]] (b9 68 [(2,bt (bz (vT (bc.bag t)))),(4,bq 0 0),(5,bq 1 0),(12,cx ks),(13,di (I ks:Int)),(14,di (↑(k+1+1):Int))]) (bi [G [di 0,dn],G [di v,bm 4 (k+1+1) 2],none,G [di x'.n,cx x'.az],G (Ad (U eV (take (k+1+1) ks')))] [])) ?_
  have hk1:=(HT.1 hx).1
  have hh:=hc (k+1) x x' hx hx'
  have ht:ks'.take (k+1+1)=ks'.take (k+1)++[x']:=by rw[Jn (i:=k+1),hx'];rfl
  have hf:Ad ((ks'.take (k+1)).map eV)++[di x'.n,.v (cc x'.az)]=Ad ((ks'.take (k+1+1)).map eV):=by
   rw[ht,DR]
   congr 1
   rw[Iu,IP,AR];rfl
  have hih:=ih (k+1) (by omega) hk1
  have hll:I (ks'.take (k+1))=k+1:=by rw[Iy];omega
  have hll2:I (ks'.take (k+1+1))=k+1+1:=by rw[Iy];omega
  rw[hll,hf]
  refine⟨yp,rfl,by omega,A1 hx,rfl,rfl,rfl,by decide,Iq G (HJ t),hh,yl,by rw[BC,hll],by simp,fun y hy=>by rw[Ii.1 hy];rfl,⟨?_,?_⟩,As,?_,?_,⟨?_⟩⟩
  ·simp only[HV,HZ];omega
  ·simp only[HV,HZ];omega
  ·simp[cp,D.okNs,D.okN,Az]
  ·rfl
  ·rw[ov,hll2] at hih
   exact Ad7 _ _ _ _ 0 (by decide) rfl (by simp[b9,D.okNs,D.okN]) (by simp[b9,D.rens,D.ren]) hih
theorem ZG{R:List D->St->Prop}{ks:List KI}{e e':List D}(v:Int)(n:Nat)(x:List D)(F:List V)(_:(0:Nat)<=0)(_:(0:Nat)=0)(he:D.okNs 3 [] e'=J)(hee:e=D.rens (fun i=>if i<2 then i else i+1) id e')
  (h:AI (CN 0) PP R ks e' ⟨[G [di 0,.v .nils],G [di v,.gro 2 n 2],G (Ad F)],[]⟩):AI (CN 0) PP R ks e ⟨[G [di 0,.v .nils],G [di v,.gro 3 n 2],G x,G (Ad F)],[]⟩:=by
 refine Dk (σ:=⟨[G [di 0,.v .nils],G [di v,.gro 3 n 2],G x,G (Ad F)],[]⟩) (e':=e') (H':=[G [di 0,.v .nils],G [di v,.gro 2 n 2],G (Ad F)]) (m:=0) (fun _ _ h=>h.2) (fun i=>if i<2 then i else i+1) (I3 _) (fun i hi=>by omega) (fun i j _ _ h=>?_) (fun i cs hi=>?_) he hee h
 ·have h:(if i<2 then i else i+1)=(if j<2 then j else j+1):=h
  split at h<;>split at h<;>omega
 ·match i,hi with
  |0,hi=>simp at hi;subst hi;exact⟨rfl,rfl⟩
  |1,hi=>simp at hi;subst hi;exact⟨rfl,rfl⟩
  |2,hi=>
   simp at hi;subst hi
   exact⟨by rw[AS (A5 _)];rfl,Az _ _ _⟩
  |i+3,hi=>simp at hi
theorem Ad9(v:Int)(t:bc):F0 185 [dT (.bag t),dV (.mk v [])] (dV (.mk v [])):=by
 exact sv YT 68 [2,3] (.n<|.f<|.t<|.c (.tup []) .r) (Y (0<(I (U eV (bd.az (bd.mk v []))):Int))=O/\(bc.kd (bc.bag t)==5)=J/\_/\Q (dV (bd.mk v []))) ⟨rfl,rfl,Gp,rfl⟩
theorem Ad8(v:Int)(t:bc)(x x':bd)(ks ks':List bd)(hl:I ks<=999)(h1:I ks'=I ks)(hs:∀y∈x'::ks',y.size<=1000000)
  (hc:∀(i:Nat) (y y':bd),(x::ks)[i]?=G y->(x'::ks')[i]?=G y'->F0 185 [dT t,dV y] (dV y')):
  F0 185 [dT (.bag t),dV (.mk v (x::ks))] (dV (.mk v (sortV (x'::ks')))):=by
 have hlp:=QL v t (x::ks) (x'::ks') (by simp only[HV];omega) (by simp only[HV];omega) hs hc _ 0 rfl (by simp)
 have hh:=hc 0 x x' rfl rfl
 have hf:[di x'.n,bt (cc x'.az)]=Ad ([x'].map eV):=by rw[Iu,IP,AR];rfl
 refine sv YT 68 [2,3] (.h (.q 1 0)<|.h .rn<|.n<|.t<|.h (.xs (Au x))<|.f<|.k<|.f<|.t<|.x (vT t)<|.c (dV x')<|.h (.q 10 4)<|.h .g<|.lo [ke 2,ke 4,ke 5,ke 12,ch 13 (di (I (x::ks))),ch 14 (di (1:Nat))] ⟨[G [di 0,.v .nils],G [di v,.gro 3 1 2],G [di x'.n,.v (cc x'.az)],G (Ad ([x'].map eV))],[]⟩) (Y (0<(I (U eV (bd.az (bd.mk v (x::ks)))):Int))=J/\Q 2/\iz 0<=0/\G (eV x)=G (Au x)/\(bc.kd (bc.bag t)==3)=O/\(bc.kd (bc.bag t)==4)=O/\(bc.kd (bc.bag t)==5)=J/\iz 0<=0/\G (eT t)=G (vT t)/\_/\yn/\[ab [vi x'.n,cc x'.az]]≠ []/\(∀(y:V),y∈ [ab [vi x'.n,cc x'.az]]->V.size y=2)/\A9 1 32/\di (I (U eV (bd.az (bd.mk v (x::ks)))):Int)=di (I (x::ks):Int)/\di (yr yq (0+1))=di (↑1:Int)/\cp 4 [] [G [di 0,dn],G [di (bd.n (bd.mk v (x::ks))),bm 3 1 2],G [di x'.n,cx x'.az],G [di x'.n,cx x'.az]]=J/\[G [di 0,dn],G [di (bd.n (bd.mk v (x::ks))),bm 3 1 2],G [di x'.n,cx x'.az],G [di x'.n,cx x'.az]]=[G [di 0,dn],G [di v,bm 3 1 2],G [di x'.n,cx x'.az],G (Ad (eV x'::nV))]/\I0 YT (I bf.H) (dV (bd.mk v (sortV (x'::ks')))) bf [kl Wm [1,1,0,1,0,0],bh 0,kc Wm [1,1,1]] (b9 68 [(2,bt (bz (vT (bc.bag t)))),(4,bq 0 0),(5,bq 1 0),(12,bt (cc (bd.az (bd.mk v (x::ks))))),(13,di (I (x::ks):Int)),(14,di (↑1:Int))]) (bi [G [di 0,dn],G [di v,bm 3 1 2],G [di x'.n,cx x'.az],G (Ad [eV x'])] [])) ⟨HS (by rw[HP];show(0:Int)<(I (x::ks):Int);simp only[HV];omega),rfl,by decide,Iq G (AR x),rfl,rfl,rfl,by decide,Iq G (HJ t),hh,yl,by simp,fun y hy=>by rw[Ii.1 hy];rfl,⟨by decide,by decide⟩,by rw[HP];rfl,Iq di (by decide),rfl,?_,⟨?_⟩⟩
 ·rw[hf];rfl
 ·exact ZG _ _ _ _ (by decide) rfl (by simp[b9,D.okNs,D.okN]) (by simp[b9,D.rens,D.ren];rfl) hlp
noncomputable abbrev YP:=Tryz.f145
noncomputable def VP:=yj YP
theorem Yq(l:List Int)(hl:I l<=1000)(n:Nat):∀k:Nat,I l-k=n->k<=I l->
  Rn PP YP 0 (.acc 1 (l.map fun x=>eV (lf x))) ⟨[],[(1,2,l.map fun x=>eV (lf x))]⟩ ([kl VP [1,1,0,1,0,0],.blk 0,kc VP [1,1,1]]++[]) (b9 19 [(0,cy l),(3,.acc 1 ((l.take k).map fun x=>eV (lf x))),(6,cy l),(7,di (I l)),(8,di k)]) ⟨[],[(1,2,(l.take k).map fun x=>eV (lf x))]⟩:=by
 induction n with
 |zero=>
  intro k hn hk
  refine lv 19 [] (.f .r) (Y ((k:Int)<(I l:Int))=O/\[(1,2,U (fun x=>eV (lf x)) (take k l))]=[(1,2,U (fun x=>eV (lf x)) l)]/\br 1 (U (fun x=>eV (lf x)) (take k l))=br 1 (U (fun x=>eV (lf x)) l)) ?_
  rw[Iw (by omega)]
  exact⟨yo,rfl,rfl⟩
 |succ n ih=>
  intro k hn hk
  obtain⟨x,hx⟩:=yi (show k<I l by omega)
  have ht:((l.take (k+1)).map fun x=>eV (lf x))=((l.take k).map fun x=>eV (lf x))++[ab [vi x,ai []]]:=by rw[Jn,hx,Jq,Option.toList_some,Iu,IP,AR];rfl
  have ih':=ih (k+1) (by omega) (by omega)
  rw[ht] at ih'
  have hz:I (l.take k)<=1000:=by rw[Iy];omega
  exact lv 19 [] (.t<|.x (vi x)<|.ls [ke 0,ch 3 (.acc 1 (((l.take k).map fun x=>eV (lf x))++[ab [vi x,ai []]])),ke 6,ke 7,ch 8 (di (k+1:Nat))] ⟨[],[(1,2,((l.take k).map fun x=>eV (lf x))++[ab [vi x,ai []]])]⟩) (Y ((k:Int)<(I l:Int))=J/\0<=(k:Int)/\(U vi l)[Z (k:Int)]?=G (vi x)/\Q (U (fun x=>eV (lf x)) (take k l))/\A9 (I (U (fun x=>eV (lf x)) (take k l))+I (ab (vi x::ai nV::nV)::nV)) 32/\Q (br 1 (U (fun x=>eV (lf x)) (take k l)++[ab [vi x,ai []]]))/\di (yr yq ((k:Int)+1))=di (↑(k+1):Int)/\Q [(1,2,U (fun x=>eV (lf x)) (take k l)++ab (vi x::ai nV::nV)::nV)]/\_) ⟨yp,by omega,A3 hx,rfl,⟨by simp only[HP,HV,HZ];omega,by simp only[HP,HV,HZ];omega⟩,rfl,As,rfl,iK ih'⟩
theorem Yp(l:List Int)(hl:I l<=1000):F0 145 [cy l] (.v (.list ((l.map lf).map Au))):=by
 have h:Aa PP 145 [cy l] bf (.acc 1 (l.map fun x=>eV (lf x))) ⟨[],[(1,2,l.map fun x=>eV (lf x))]⟩:=by
  exact sv YP 19 [] (.h (.q 2 0)<|.h (.nw 3 1 2)<|.ls [ke 0,ch 3 (.acc 1 []),ch 6 (cy l),ch 7 (di (I l)),ch 8 (di (0:Nat))] ⟨[],[(1,2,[])]⟩) (Q (br 1 [])/\Q (cy l)/\di (I (U vi l):Int)=di (I l:Int)/\Q (di 0)/\Q [(1,2,nV)]/\_) ⟨rfl,rfl,by rw[HP],rfl,rfl,iK (Yq l hl _ 0 rfl (I3 _))⟩
 have:=Di h
 rwa[show(l.map fun x=>eV (lf x))=(l.map lf).map Au by rw[map_map];exact List.map_congr_left fun x _=>AR _] at this
noncomputable abbrev Aml:=Tryz.f149
theorem AbV(w:List Int)(x:Int)(l:List Int)(hw:w=x::l)(hl:I l<=1000):F0 149 [cy w] (.v (.agg [vi x,cz l])):=by
 have h0:(w.map vi)[((0:Nat):Int).toNat]?=G (vi x):=by rw[hw];rfl
 have h1:=Q9 l (by omega)
 refine sv Aml 10 [] (.x (vi x)<|.c (cy l) .r) (iz 0<=0/\_/\(∀(x:V),x∈U vi w->V.size x=1)/\0<=(1:Int)/\(1:Int)<=(I (U vi w):Int)/\F0 85 [bt (ai (W (Z ((1:Int))) (take (I (U vi w)) (U vi w))))] (cy l)/\Q (bt (ab [vi x,cz l]))) ⟨Iv _,h0,fun y hy=>by obtain⟨z,_,rfl⟩:=IA.1 hy;rfl,by decide,by rw[hw,HP,HV];omega,?_,rfl⟩
 rw[List.take_length,hw]
 exact h1
def fw(nm:List UInt8)(f t:Int)(p nx:List Int):cq:=⟨nm,f,t,[],[],[],0,0,0,p,nx,[],[],0⟩
structure qr(m:ba)(r:cq):Prop where
 aj:0<=r.aj/\r.aj<I m.aw
 to:0<=r.to/\r.to<I m.aw
 pl:(I r.path:Int)<=m.ao
 path:∀x∈r.path,0<=x/\x<I m.ax
 nl:(I r.next:Int)<=m.ao
 next:∀x∈r.next,0<=x/\x<I m.ax
 some:0<I r.path+I r.next
 rest:r=fw r.name r.aj r.to r.path r.next
structure d6(m:ba):Prop where
 kind:m.kind=4
 aw:1<=I m.aw/\m.aw.length<=3
 ay:m.ay=[]
 ax:1<=I m.ax/\m.ax.length<=3
 au:m.au=[]
 ao:m.ao=1∨m.ao=2
 age:m.age=0
 count:I m.av<=4
 named:Db m=J
 av:∀r∈m.av,qr m r
def fm(n:Int)(lv:Int):bc:=if lv=1 then .bag (.lab n) else .bag (.prod [.lab n,.bag (.lab n)])
def BP(m:ba):bc:=.prod [.lab (I m.aw),fm (I m.ax) m.ao]
noncomputable abbrev ve:=Tryz.f112
theorem wt(n:Int):F0 112 [di n,di 1] (dT (.bag (.lab n))):=by
 exact sv ve 19 [] (.c (dT (.lab n))<|.k<|.c (dT (.bag (.lab n))) .r) (_/\_/\bt (ab [vi (bc.kd (bc.bag (bc.lab n))),vi (bc.sz (bc.bag (bc.lab n))),ai [],ai [eT (bc.lab n)]])=dT (bc.bag (bc.lab n))) ⟨CK n,Mb (.lab n),rfl⟩
theorem Akc(n:Int):F0 112 [di n,di 2] (dT (.bag (.prod [.lab n,.bag (.lab n)]))):=by
 exact sv ve 19 [] (.c (dT (.lab n))<|.k<|.c (dT (.bag (.lab n)))<|.c (dT (.bag (.prod [.lab n,.bag (.lab n)]))) .r) (_/\_/\yn/\_/\bt (ab [vi (bc.kd (bc.bag (bc.prod [bc.lab n,bc.bag (bc.lab n)]))),vi (bc.sz (bc.bag (bc.prod [bc.lab n,bc.bag (bc.lab n)]))),ai [],ai [eT (bc.prod [bc.lab n,bc.bag (bc.lab n)])]])=dT (bc.bag (bc.prod [bc.lab n,bc.bag (bc.lab n)]))) ⟨CK n,wt n,yl,Mb (.prod [.lab n,.bag (.lab n)]),rfl⟩
abbrev pb:ko:=⟨0,0,1,6,1,2,0,0⟩
theorem AlP:F0 154 [di 4] (V3 pb):=by
 refine sv nv 29 [] .r (bt (ab [vi 0,vi 0,vi 1,vi 6,vi 1,vi 2,vi 0,vi 0])=V3 pb) ?_
 rfl
noncomputable abbrev Akn:=Tryz.f205
theorem X9(m:ba)(hl:I m.ax<=1000000)(x:Int):F0 205 [di x,.v (.ref (AE m))] (db (A6 x 0 (I m.ax-1))):=by
 exact sv Akn 9 [] (.c (db (A6 x 0 (I m.ax-1))) .r) (F0 161 [di x,di (I (U ae m.ax):Int)] (db (A6 x 0 ((I m.ax:Int)-1)))/\Q (db (A6 x 0 ((I m.ax:Int)-1)))) ⟨by rw[HP];exact Ck x _ hl,rfl⟩
noncomputable abbrev Amg:=Tryz.f165
theorem AhK(m:ba)(hl:I m.ax<=1000000)(r:cq)(h:qr m r)(h1:I r.path<=1000)(h2:I r.next<=1000):F0 165 [Ax m,AZ r] (db J):=by
 have hq:∀l:List Int,I l<=1000->(∀x∈l,0<=x/\x<I m.ax)->F0 167 [cy l,.v (.fn 205 [] [.ref (AE m)])] (db J):=fun l h1 h2=>by
  have h:=Fp 205 [] [.ref (AE m)] (fun x=>A6 x 0 ((I m.ax:Int)-1)) l (by omega) (fun x _=>X9 m hl x)
  rwa[show(l.all fun x=>A6 x 0 ((I m.ax:Int)-1))=J from by
   rw[ID];intro x hx;have:=h2 x hx;simp[A6];omega] at h
 have ha:=h.pl
 have hb:=h.nl
 have hc:=h.some
 exact sv Amg 43 [2,3] (.t<|.t<|.t<|.c (db J)<|.k<|.c (db J)<|.r) (Y ((I (U vi r.path):Int)<=m.ao)=J/\Y ((I (U vi r.next):Int)<=m.ao)=J/\Y (yr yq ((I (U vi r.path):Int)+(I (U vi r.next):Int))>0)=J/\_/\_/\Q (db J)) ⟨HS (by rw[HP];exact ha),HS (by rw[HP];exact hb),HS (by rw[HP,HP,A2];omega),hq _ h1 h.path,hq _ h2 h.next,rfl⟩
theorem Hw(m:ba)(hk:m.kind=4)(hlv:m.ao=1∨m.ao=2):F0 53 [Ax m] (dT (BP m)):=by
 refine sv F8 70 [1] (.c (dT (.lab (I m.aw)))<|.a 1<|.t<|.c (dT (fm (I m.ax) m.ao))<|.r) (F0 111 [di (I (U ae m.aw):Int)] (dT (bc.lab (I m.aw:Int)))/\(m.kind==4)=J/\F0 112 [di (I (U ae m.ax):Int),di m.ao] (dT (fm (I m.ax:Int) m.ao))/\Q (vT (bc.lab (I m.aw:Int))::nV)/\A9 2 64/\bt (ab [vi 3,vi 0,ai [],ai [vT (bc.lab (I m.aw:Int)),vT (fm (I m.ax:Int) m.ao)]])=dT (BP m)) ⟨by rw[HP];exact CK _,by rw[hk];rfl,?_,rfl,⟨by decide,by decide⟩,?_⟩
 ·rw[HP]
  rcases hlv with e|e<;>rw[e]
  ·exact wt _
  ·exact Akc _
 ·unfold BP
  rcases hlv with e|e<;>rw[e]
  ·rw[show fm (I m.ax) 1=.bag (.lab (I m.ax)) from rfl];rfl
  ·rw[show fm (I m.ax) 2=.bag (.prod [.lab (I m.ax),.bag (.lab (I m.ax))]) from rfl];rfl
theorem Abj(nm:List UInt8)(f t:Int)(p nx:List Int)(h1:I p<=1000)(h2:I nx<=1000):F0 169 [AZ (fw nm f t p nx),AZ (fw nm f t p nx)] (db J):=by
 have e:∀l:List Int,I l<=1000000->F0 211 [.v (cz l),.v (cz l)] (db J):=fun l hl=>by simpa using Dr l l hl
 have n0:=e [] (by decide)
 exact sv qm 101 [2,3] (.t<|.t<|.t<|.c (db J)<|.k<|.c (db J)<|.k<|.c (db J)<|.k<|.k<|.k<|.k<|.c (db J)<|.k<|.c (db J)<|.k<|.c (db J)<|.k<|.c (db J)<|.k<|.r) (((fw nm f t p nx).name==(fw nm f t p nx).name)=J/\((fw nm f t p nx).aj==(fw nm f t p nx).aj)=J/\((fw nm f t p nx).to==(fw nm f t p nx).to)=J/\_/\_/\_/\_/\_/\_/\_/\db ((fw nm f t p nx).second==(fw nm f t p nx).second)=db J) ⟨by simp,by simp,by simp,n0,n0,n0,e p (by omega),e nx (by omega),OM [],n0,by simp⟩
theorem d6.right{m:ba}(hm:d6 m)(r:cq)(hr:r∈m.av):F0 109 [Ax m,AZ r] (db J):=by
 have hR:=hm.av r hr
 have hk:=hm.kind
 have hst:=hm.aw
 have hlt:=hm.ax
 have hlv:=hm.ao
 have hpl:=hR.pl
 have hnl:=hR.nl
 have h1:=AhK m (by omega) r hR (by omega) (by omega)
 have hf:=hR.aj
 have ht:=hR.to
 have h2:=Abj r.name r.aj r.to r.path r.next (by omega) (by omega)
 rw[hR.rest] at h1⊢
 generalize r.name=nm at*
 generalize r.aj=f at*
 generalize r.to=t at*
 generalize r.path=p at*
 generalize r.next=nx at*
 have hx:∀x:Int,0<=x->x<I m.aw->F0 161 [di x,di (I (m.aw.map ae):Int)] (db J):=fun x h0 h1=>by
  rw[HP]
  have h:=Ck x (I m.aw) (by omega)
  rwa[show A6 x 0 ((I m.aw:Int)-1)=J by simp[A6];omega] at h
 exact sv Qx 142 [2,3] (.c (db J)<|.k<|.c (db J)<|.k<|.k<|.f<|.f<|.f<|.t<|.c (db J)<|.k<|.c (db J) .r) (_/\_/\(m.kind==1)=O/\(m.kind==2)=O/\(m.kind==3)=O/\(m.kind==4)=J/\_/\_/\Q (db J)) ⟨hx t ht.1 ht.2,hx f hf.1 hf.2,by rw[hk];rfl,by rw[hk];rfl,by rw[hk];rfl,by rw[hk];rfl,h1,h2,rfl⟩
theorem d6.chk1{m:ba}(hm:d6 m)(r:cq)(hr:r∈m.av):F0 108 [AZ r,.v (.ref (AE m))] (db O):=by
 exact sv tj 8 [2] (.c (db J) .r) (_/\Q (db O)) ⟨hm.right r hr,rfl⟩
theorem d6.good{m:ba}(h:d6 m):B4 8 (BP m)=J:=by
 have h1:=h.aw
 have h2:=h.ax
 rcases h.ao with e|e<;>simp only[BP,fm,e,B4,HV,HZ,List.all_cons,List.all_nil,Bool.and_true,HR,IJ,I7,Jt,Ia,Jj,Ij (show ¬(2:Int)=1 by decide)]<;>omega
theorem d6.chk{m:ba}(hm:d6 m):F0 52 [Ax m] (di (if Aw (BP m) m.start then 0 else 17)):=by
 have hst:=hm.aw
 have hlt:=hm.ax
 have hc:=hm.count
 have hb:∀{x a b:Int},a<=x->x<=b->A6 x a b=J:=fun h1 h2=>by simp[A6,h1,h2]
 have:=RW m true true true true false (Aw (BP m) m.start) (by rw[hm.kind];rfl) (fun _=>?_) (fun _=>?_) (fun _=>?_) (fun _=>?_) (fun _=>ZA m _ _ (by rw[hm.kind];rfl) (Hw m hm.kind hm.ao) (F5 _ hm.good _))
 ·exact this
 ·have:=JW pb m (by rw[hm.kind];exact AlP)
  rwa[show C3 pb m=J by
   simp only[C3,HR,Ia,hm.ay,hm.age]
   exact⟨hb (by omega) (by omega),by omega,by decide,hb (by omega) (by omega),hb (by rcases hm.ao with e|e<;>rw[e]<;>decide) (by rcases hm.ao with e|e<;>rw[e]<;>decide),by decide⟩] at this
 ·have:=H8 m (by rw[hm.au];decide)
  rwa[show BJ m=J by rw[BJ,Io (by rw[hm.kind];rfl),hm.au];rfl] at this
 ·have:=O9 m (by simp only[BR,Jx,flatten_nil,Ig,HZ,hm.ay];omega)
  rwa[hm.named] at this
 ·have:=Md 108 [] [.ref (AE m)] (fun _=>false) m.av (by omega) (fun r hr=>hm.chk1 r hr)
  rw[show m.av.any (fun _=>false)=O by simp] at this
  exact this
abbrev qQ{α:Type}(a:α):Prop:=a=a
structure Nd where
 lab:Int
 az:List Int
abbrev cm(n:Nd):V:=.agg [vi n.lab,cz n.az]
abbrev AX(l:List Nd):V:=.list (l.map cm)
noncomputable abbrev Vy:=Tryz.f88
noncomputable def Ei:=yj Vy
theorem Yn(m:ba)(hv:m.ao=1)(l:List bd)(hl:I l<=1000)(n:Nat):∀k:Nat,I l-k=n->k<=I l->
  Rn PP Vy 0 (.acc 1 (l.map fun v=>cm ⟨v.n,[]⟩)) ⟨[],[(1,2,l.map fun v=>cm ⟨v.n,[]⟩)]⟩ ([kl Ei [1,1,0,1,0,0],.blk 0,kc Ei [1,1,1]]++[]) (b9 60 [(2,.v (.ref (AE m))),(5,.acc 1 ((l.take k).map fun v=>cm ⟨v.n,[]⟩)),(15,.v (cc l)),(16,di (I l)),(17,di k)]) ⟨[],[(1,2,(l.take k).map fun v=>cm ⟨v.n,[]⟩)]⟩:=by
 induction n with
 |zero=>
  intro k hn hk
  refine lv 60 [2,3] (.f .r) (Y ((k:Int)<(I l:Int))=O/\[(1,2,U (fun v=>cm (Nd.mk v.n [])) (take k l))]=[(1,2,U (fun v=>cm (Nd.mk v.n [])) l)]/\br 1 (U (fun v=>cm (Nd.mk v.n [])) (take k l))=br 1 (U (fun v=>cm (Nd.mk v.n [])) l)) ?_
  rw[Iw (by omega)]
  exact⟨yo,rfl,rfl⟩
 |succ n ih=>
  intro k hn hk
  obtain⟨x,hx⟩:=yi (show k<I l by omega)
  have ht:((l.take (k+1)).map fun v=>cm ⟨v.n,[]⟩)=((l.take k).map fun v=>cm ⟨v.n,[]⟩)++[ab [vi x.n,ai []]]:=by rw[Jn,hx,Jq,Option.toList_some,Iu,IP];rfl
  have ih':=ih (k+1) (by omega) (by omega)
  rw[ht] at ih'
  have hz:I (l.take k)<=1000:=by rw[Iy];omega
  exact lv 60 [2,3] (.t<|.h (.xs (Au x))<|.t<|.ls [ke 2,ch 5 (.acc 1 (((l.take k).map fun v=>cm ⟨v.n,[]⟩)++[ab [vi x.n,ai []]])),ke 15,ke 16,ch 17 (di (k+1:Nat))] ⟨[],[(1,2,((l.take k).map fun v=>cm ⟨v.n,[]⟩)++[ab [vi x.n,ai []]])]⟩) (Y ((k:Int)<(I l:Int))=J/\qQ 2/\0<=(k:Int)/\(U eV l)[Z (k:Int)]?=G (Au x)/\(m.ao==1)=J/\qQ (U (fun v=>cm (Nd.mk v.n [])) (take k l))/\A9 (I (U (fun v=>cm (Nd.mk v.n [])) (take k l))+I (ab (vi x.n::ai nV::nV)::nV)) 32/\qQ (br 1 (U (fun v=>cm (Nd.mk v.n [])) (take k l)++[ab [vi x.n,ai []]]))/\di (yr yq ((k:Int)+1))=di (↑(k+1):Int)/\qQ [(1,2,U (fun v=>cm (Nd.mk v.n [])) (take k l)++ab (vi x.n::ai nV::nV)::nV)]/\_) ⟨yp,rfl,by omega,A1 hx,by rw[hv];rfl,rfl,⟨by simp only[HP,HV,HZ];omega,by simp only[HP,HV,HZ];omega⟩,rfl,As,rfl,iK ih'⟩
theorem Ym(m:ba)(hv:m.ao=1)(c s b:bd)(hc:c.az=[s,b])(hl:I b.az<=1000):F0 88 [Ax m,dV c] (.v (AX (b.az.map fun v=>⟨v.n,[]⟩))):=by
 have h:Aa PP 88 [Ax m,dV c] bf (.acc 1 (b.az.map fun v=>cm ⟨v.n,[]⟩)) ⟨[],[(1,2,b.az.map fun v=>cm ⟨v.n,[]⟩)]⟩:=by
  exact sv Vy 60 [2,3] (.h (.q 2 0)<|.h (.nw 5 1 2)<|.h (.xs (Au b))<|.ls [ke 2,ch 5 (.acc 1 []),ch 15 (.v (cc b.az)),ch 16 (di (I b.az)),ch 17 (di (0:Nat))] ⟨[],[(1,2,[])]⟩) (qQ 2/\iz 0<=1/\(U eV c.az)[Z 1]?=G (Au b)/\qQ (br 1 [])/\qQ (cx b.az)/\di (I (U eV b.az):Int)=di (I b.az:Int)/\qQ (di 0)/\qQ [(1,2,nV)]/\_) ⟨rfl,by decide,by rw[hc];show G (eV b)=_;rw[AR],rfl,rfl,by rw[HP],rfl,rfl,iK (Yn m hv b.az hl _ 0 rfl (I3 _))⟩
 have:=Di h
 rwa[show(b.az.map fun v=>cm ⟨v.n,[]⟩)=(b.az.map fun v=>(⟨v.n,[]⟩:Nd)).map cm by rw[map_map];rfl] at this
abbrev qx(x:bd)(a:Int)(K Q:List V):St:=⟨[G [di x.n,.v (cc x.az)],G [di a,.acc 2 K]],[(2,1,K),(1,2,Q)]⟩
theorem Af8(R:List V)(m:ba)(l:List bd)(k:Nat)(Q:List V)(hQ:Q.length<=1000)(x:bd)(a:Int)(d:List bd)(hd:d.length<=1000)
  (hout:Rn PP Vy 0 (.acc 1 R) ⟨[],[(1,2,R)]⟩ ([kl Ei [1,1,0,1,0,0],.blk 0,kc Ei [1,1,1]]++[]) (b9 60 [(2,.v (.ref (AE m))),(5,.acc 1 (Q++[cm ⟨a,d.map bd.n⟩])),(15,.v (cc l)),(16,di l.length),(17,di (k+1:Nat))]) ⟨[],[(1,2,Q++[cm ⟨a,d.map bd.n⟩])]⟩) (hk:k<l.length) (hl:l.length<=1000) (n:Nat):∀j:Nat,d.length-j=n->j<=d.length->
  Rn PP Vy 0 (.acc 1 R) ⟨[],[(1,2,R)]⟩ ([kl Ei [1,1,0,1,0,0,1,1,0,0,1,1,1,0,1,0,0],.blk 2,kc Ei [1,1,0,1,0,0,1,1,0,0,1,1,1,1],.blk 1,kc Ei [1,1,0,1,0,0,1,1,1],kl Ei [1,1,0,1,0,0],.blk 0,kc Ei [1,1,1]]++[]) (b9 60 [(2,.v (.ref (AE m))),(5,.acc 1 Q),(8,.ptr 1 0),(15,.v (cc l)),(16,di l.length),(17,di k),(40,.v (cc d)),(41,di d.length),(42,di j)]) (qx x a ((d.take j).map fun v=>vi v.n) Q):=by
 induction n with
 |zero=>
  intro j hn hj
  refine lv 60 [2,3] (.f<|.ls [ke 2,ch 5 (.acc 1 (Q++[cm ⟨a,d.map bd.n⟩])),ke 15,ke 16,ch 17 (di (k+1:Nat))] ⟨[],[(1,2,Q++[cm ⟨a,d.map bd.n⟩])]⟩) (decide ((j:Int)<(d.length:Int))=false/\qQ Q/\A9 (length Q+length (ab (aa yq a::ai (map (fun v=>vi v.n) (take j d))::nV)::nV)) 32/\br 1 (Q++[ab [vi a,ai (map (fun v=>vi v.n) (take j d))]])=br 1 (Q++[cm (Nd.mk a (map bd.n d))])/\di (yr yq ((k:Int)+1))=di (↑(k+1):Int)/\[(1,2,Q++ab (vi a::ai (map (fun v=>vi v.n) (take j d))::nV)::nV)]=[(1,2,Q++cm (Nd.mk a (map bd.n d))::nV)]/\I0 Vy 0 (br 1 R) (bi [] [(1,2,R)]) [kl Ei [1,1,0,1,0,0],bh 0,kc Ei [1,1,1]] (b9 60 [(2,bt (bz (AE m))),(5,br 1 (Q++[cm (Nd.mk a (map bd.n d))])),(15,cx l),(16,di (l.length:Int)),(17,di (↑(k+1):Int))]) (bi [] [(1,2,Q++[cm (Nd.mk a (map bd.n d))])])) ?_
  have he:((d.take j).map fun v=>vi v.n)=(d.map bd.n).map vi:=by rw[Iw (by omega),map_map];rfl
  rw[he]
  exact⟨yo,rfl,⟨by simp only[HV,HZ];omega,by simp only[HV,HZ];omega⟩,rfl,As,rfl,⟨hout⟩⟩
 |succ n ih=>
  intro j hn hj
  obtain⟨y,hy⟩:=yi (show j<d.length by omega)
  have ht:((d.take (j+1)).map fun v=>vi v.n)=((d.take j).map fun v=>vi v.n)++[vi y.n]:=by rw[Jn,hy,Jq,Option.toList_some,Iu,IP]
  have ih':=ih (j+1) (by omega) (by omega)
  rw[ht] at ih'
  have hz:(d.take j).length<=1000:=by rw[Iy];omega
  refine lv 60 [2,3] (.t<|.h (.xs (Au y))<|.w<|.ls [ke 2,ke 5,ke 8,ke 15,ke 16,ke 17,ke 40,ke 41,ch 42 (di (j+1:Nat))] (qx x a (((d.take j).map fun v=>vi v.n)++[vi y.n]) Q)) (decide ((j:Int)<(d.length:Int))=true/\qQ 2/\0<=(j:Int)/\(map eV d)[Int.toNat (j:Int)]?=some (Au y)/\qQ (map (fun v=>vi v.n) (take j d))/\A9 (length (map (fun v=>vi v.n) (take j d))+length (vi y.n::nV)) 8/\(∀(y_1:V),y_1∈ [vi y.n]->V.size y_1=1)/\di (yr yq ((j:Int)+1))=di (↑(j+1):Int)/\qQ [some [di x.n,cx x.az],some [di a,br 2 (map (fun v=>vi v.n) (take j d)++vi y.n::nV)]]/\qQ [(2,1,map (fun v=>vi v.n) (take j d)++vi y.n::nV),(1,2,Q)]/\I0 Vy 0 (br 1 R) (bi [] [(1,2,R)]) [kl Ei [1,1,0,1,0,0,1,1,0,0,1,1,1,0,1,0,0],bh 2,kc Ei [1,1,0,1,0,0,1,1,0,0,1,1,1,1],bh 1,kc Ei [1,1,0,1,0,0,1,1,1],kl Ei [1,1,0,1,0,0],bh 0,kc Ei [1,1,1]] (b9 60 [(2,bt (bz (AE m))),(5,br 1 Q),(8,bq 1 0),(15,cx l),(16,di (l.length:Int)),(17,di (k:Int)),(40,cx d),(41,di (d.length:Int)),(42,di (↑(j+1):Int))]) (qx x a (map (fun v=>vi v.n) (take j d)++[vi y.n]) Q)) ?_
  exact⟨yp,rfl,by omega,A1 hy,rfl,⟨by simp only[HP,HV,HZ];omega,by simp only[HP,HV,HZ];omega⟩,by simp[V.size],As,rfl,rfl,⟨ih'⟩⟩
def ft(v:bd):Nd:=match v.az with|[p,q]=>⟨p.n,q.az.map bd.n⟩|_=>⟨0,[]⟩
theorem Yl(m:ba)(hv:m.ao=2)(l:List bd)(hl:I l<=1000)(hs:∀v∈l,∃p q,v.az=[p,q]/\q.az.length<=1000)(n:Nat):∀k:Nat,I l-k=n->k<=I l->
  Rn PP Vy 0 (.acc 1 (l.map fun v=>cm (ft v))) ⟨[],[(1,2,l.map fun v=>cm (ft v))]⟩ ([kl Ei [1,1,0,1,0,0],.blk 0,kc Ei [1,1,1]]++[]) (b9 60 [(2,.v (.ref (AE m))),(5,.acc 1 ((l.take k).map fun v=>cm (ft v))),(15,.v (cc l)),(16,di (I l)),(17,di k)]) ⟨[],[(1,2,(l.take k).map fun v=>cm (ft v))]⟩:=by
 induction n with
 |zero=>
  intro k hn hk
  refine lv 60 [2,3] (.f .r) (Y ((k:Int)<(I l:Int))=O/\[(1,2,U (fun v=>cm (ft v)) (take k l))]=[(1,2,U (fun v=>cm (ft v)) l)]/\br 1 (U (fun v=>cm (ft v)) (take k l))=br 1 (U (fun v=>cm (ft v)) l)) ?_
  rw[Iw (by omega)]
  exact⟨yo,rfl,rfl⟩
 |succ n ih=>
  intro k hn hk
  obtain⟨x,hx⟩:=yi (show k<I l by omega)
  obtain⟨p,q,hpq,hq⟩:=hs x (HW hx)
  have ht:((l.take (k+1)).map fun v=>cm (ft v))=((l.take k).map fun v=>cm (ft v))++[cm ⟨p.n,q.az.map bd.n⟩]:=by rw[Jn,hx,Jq,Option.toList_some,Iu,IP,ft,hpq]
  have ih':=ih (k+1) (by omega) (by omega)
  rw[ht] at ih'
  have hz:I (l.take k)<=1000:=by rw[Iy];omega
  have hin:=Af8 _ m l k ((l.take k).map fun v=>cm (ft v)) (by rw[HP];exact hz) x p.n q.az hq ih' (by omega) hl _ 0 rfl (I3 _)
  exact lv 60 [2,3] (.t<|.h (.xs (Au x))<|.f<|.h (.xs (Au p))<|.h .rn<|.h (.q 8 0)<|.h (.cl 1 1 2 1)<|.h (.xs (Au q))<|.ls [ke 2,ke 5,ch 8 (.ptr 1 0),ke 15,ke 16,ke 17,ch 40 (.v (cc q.az)),ch 41 (di (I q.az)),ch 42 (di (0:Nat))] (qx x p.n [] ((l.take k).map fun v=>cm (ft v)))) (Y ((k:Int)<(I l:Int))=J/\qQ 2/\0<=(k:Int)/\(U eV l)[Z (k:Int)]?=G (Au x)/\(m.ao==1)=O/\qQ 2/\iz 0<=0/\(U eV x.az)[Z 0]?=G (Au p)/\qQ 2/\iz 0<=1/\(U eV x.az)[Z 1]?=G (Au q)/\qQ (bq 1 0)/\qQ (cx q.az)/\di (I (U eV q.az):Int)=di (I q.az:Int)/\qQ (di 0)/\qQ [G [di x.n,cx x.az],G [di p.n,br 2 nV]]/\qQ [(2,1,nV),(1,2,U (fun v=>cm (ft v)) (take k l))]/\_) ⟨yp,rfl,by omega,A1 hx,by rw[hv];rfl,rfl,by decide,by rw[hpq];show G (eV p)=_;rw[AR],rfl,by decide,by rw[hpq];show G (eV q)=_;rw[AR],rfl,rfl,by rw[HP],rfl,rfl,rfl,iK hin⟩
theorem Yk(m:ba)(hv:m.ao=2)(c s b:bd)(hc:c.az=[s,b])(hl:I b.az<=1000)(hs:∀v∈b.az,∃p q,v.az=[p,q]/\q.az.length<=1000):F0 88 [Ax m,dV c] (.v (AX (b.az.map ft))):=by
 have h:Aa PP 88 [Ax m,dV c] bf (.acc 1 (b.az.map fun v=>cm (ft v))) ⟨[],[(1,2,b.az.map fun v=>cm (ft v))]⟩:=by
  exact sv Vy 60 [2,3] (.h (.q 2 0)<|.h (.nw 5 1 2)<|.h (.xs (Au b))<|.ls [ke 2,ch 5 (.acc 1 []),ch 15 (.v (cc b.az)),ch 16 (di (I b.az)),ch 17 (di (0:Nat))] ⟨[],[(1,2,[])]⟩) (qQ 2/\iz 0<=1/\(U eV c.az)[Z 1]?=G (Au b)/\qQ (br 1 [])/\qQ (cx b.az)/\di (I (U eV b.az):Int)=di (I b.az:Int)/\qQ (di 0)/\qQ [(1,2,nV)]/\_) ⟨rfl,by decide,by rw[hc];show G (eV b)=_;rw[AR],rfl,rfl,by rw[HP],rfl,rfl,iK (Yl m hv b.az hl hs _ 0 rfl (I3 _))⟩
 have:=Di h
 rwa[show(b.az.map fun v=>cm (ft v))=(b.az.map ft).map cm by rw[map_map];rfl] at this
theorem Pl{α:Type}(v:Int)(t:bc)(f g:α->bd)(l:List α)(hl:I l<=1000)(hs:∀x∈l,(g x).size<=1000000)
  (hc:∀x∈l,F0 185 [dT t,dV (f x)] (dV (g x))):
  F0 185 [dT (.bag t),dV (.mk v (l.map f))] (dV (.mk v (sortV (l.map g)))):=by
 cases l with
 |nil=>
  rw[show sortV (([]:List α).map g)=[] from(AN _).eq_nil]
  exact Ad9 v t
 |cons a l=>
  refine Ad8 v t (f a) (g a) (l.map f) (l.map g) (by rw[HP];simp only[HV] at hl;omega) (by rw[HP,HP]) (fun y hy=>?_) (fun i y y' h1 h2=>?_)
  ·rw[←Iu] at hy
   obtain⟨z,hz,rfl⟩:=IA.1 hy
   exact hs z hz
  ·rw[←Iu,I9] at h1 h2
   cases hz:(a::l)[i]? with
   |none=>rw[hz] at h1;simp at h1
   |some z=>
    rw[hz] at h1 h2
    simp only[IT,I1] at h1 h2
    subst h1;subst h2
    exact hc z (HW hz)
theorem ZE(v:Int)(t u:bc)(x x' y y':bd)(h1:F0 185 [dT t,dV x] (dV x'))(h2:F0 185 [dT u,dV y] (dV y')):
  F0 185 [dT (.prod [t,u]),dV (.mk v [x,y])] (dV (.mk v [x',y'])):=by
 refine Ad6 v [t,u] (by simp) [x,y] [x',y'] rfl rfl (fun i a b b' ha hb hb'=>?_)
 match i with
 |0=>simp at ha hb hb';subst ha;subst hb;subst hb';exact h1
 |1=>simp at ha hb hb';subst ha;subst hb;subst hb';exact h2
 |i+2=>simp at ha
def d7(lv:Int)(n:Nd):bd:=if lv=1 then lf n.lab else .mk 0 [lf n.lab,.mk 0 (n.az.map lf)]
def j4(lv:Int)(n:Nd):bd:=if lv=1 then lf n.lab else .mk 0 [lf n.lab,.mk 0 (sortV (n.az.map lf))]
theorem WY:∀l:List Int,bd.sizes (l.map lf)=I l
 |[]=>rfl
 |x::l=>by rw[Iu,bd.sizes,WY l];simp only[bd.size,bd.sizes,HV];omega
theorem O7(lv:Int)(n:Nd):(j4 lv n).size<=I n.az+3:=by
 unfold j4
 split
 ·simp only[bd.size,bd.sizes];omega
 ·simp only[bd.size,bd.sizes]
  rw[La (AN _),WY];omega
def fb(lv s:Int)(l:List Nd):bd:=.mk 0 [lf s,.mk 0 (l.map (d7 lv))]
def gi(lv s:Int)(l:List Nd):bd:=.mk 0 [lf s,.mk 0 (sortV (l.map (j4 lv)))]
theorem Ad5(m:ba)(hlv:m.ao=1∨m.ao=2)(s:Int)(l:List Nd)(hl:I l<=1000)(hk:∀n∈l,I n.az<=1000):
  F0 185 [dT (BP m),dV (fb m.ao s l)] (dV (gi m.ao s l)):=by
 unfold BP fb gi
 refine ZE 0 _ _ _ _ _ _ (Pk _ s) ?_
 rcases hlv with e|e<;>rw[e]
 ·exact Pl 0 (.lab (I m.ax)) (d7 1) (j4 1) l hl (fun x hx=>by have:=O7 1 x;have:=hk x hx;omega) (fun x _=>Pk _ x.lab)
 ·refine Pl 0 (.prod [.lab (I m.ax),.bag (.lab (I m.ax))]) (d7 2) (j4 2) l hl (fun x hx=>by have:=O7 2 x;have:=hk x hx;omega) (fun x hx=>?_)
  have hx:=hk x hx
  exact ZE 0 _ _ _ _ _ _ (Pk _ x.lab) (Pl 0 (.lab (I m.ax)) lf lf x.az hx (fun y _=>by simp only[bd.size,bd.sizes];omega) (fun y _=>Pk _ y))
noncomputable abbrev su:=Tryz.f146
theorem AhQ(t:bc)(hg:B4 8 t=J)(v w:bd)(ha:F0 185 [dT t,dV v] (dV w))(hv:v.size<=128)(hw:w.size<=1000000)(h1:A0 t w=J):F0 146 [dT t,dV v] (.tup [dV w,di 0]):=by
 exact sv su 27 [2,3] (.c (di 0)<|.k<|.c (di (min (v.size:Int) 129))<|.f<|.c (dV w)<|.c (db J)<|.k .r) (_/\_/\Y (min (↑(bd.size v):Int) 129>128)=O/\_/\F0 67 [bt (vT t),dV w] (db J)/\Q (bl [dV w,di 0])) ⟨JG t hg,GM v,yo,ha,h1▸Oz _ t (HX _) w hw,rfl⟩
theorem Afs(t:bc)(hg:B4 8 t=J)(v:bd)(hv:128<v.size):F0 146 [dT t,dV v] (.tup [dV (.mk 0 []),di 5]):=by
 exact sv su 27 [2,3] (.c (di 0)<|.k<|.c (di (min (v.size:Int) 129))<|.t .r) (_/\_/\Y (min (↑(bd.size v):Int) 129>128)=J/\Q (bl [dV (bd.mk 0 []),di 5])) ⟨JG t hg,GM v,yp,rfl⟩
theorem Afr(t:bc)(hg:B4 8 t=J)(v w:bd)(ha:F0 185 [dT t,dV v] (dV w))(hv:v.size<=128)(hw:w.size<=1000000)(h1:A0 t w=O):F0 146 [dT t,dV v] (.tup [dV (.mk 0 []),di 5]):=by
 exact sv su 27 [2,3] (.c (di 0)<|.k<|.c (di (min (v.size:Int) 129))<|.f<|.c (dV w)<|.c (db O)<|.k .r) (_/\_/\Y (min (↑(bd.size v):Int) 129>128)=O/\_/\F0 67 [bt (vT t),dV w] (db O)/\Q (bl [dV (bd.mk 0 []),di 5])) ⟨JG t hg,GM v,yo,ha,h1▸Oz _ t (HX _) w hw,rfl⟩
noncomputable abbrev YL:=Tryz.f82
noncomputable def VO:=yj YL
theorem Wx(l:List Int)(hl:I l<=1000)(n:Nat):∀k:Nat,I l-k=n->k<=I l->
  Rn PP YL 0 (dV (.mk 0 (l.map lf))) bf ([kl VO [1,1,0,1,0,0],.blk 0,kc VO [1,1,1]]++[]) (b9 22 [(0,cy l),(2,.ptr 0 0),(3,.ptr 1 0),(4,di k)]) (ei 0 ((l.take k).map lf)):=by
 induction n with
 |zero=>
  intro k hn hk
  refine lv 22 [] (.f .r) (Y ((k:Int)<(I (U vi l):Int))=O/\bt (ab [vi 0,ai (U eV (U lf (take k l)))])=dV (bd.mk 0 (U lf l))) ?_
  rw[Iw (by omega)]
  exact⟨HU (by rw[HP];omega),rfl⟩
 |succ n ih=>
  intro k hn hk
  obtain⟨x,hx⟩:=yi (show k<I l by omega)
  have hr:=ih (k+1) (by omega) (by omega)
  have e:((l.take (k+1)).map lf).map eV=((l.take k).map lf).map eV++[ab [vi x,ai []]]:=by
   rw[Jn,hx,Jq,Jq];rfl
  have hz:I (l.take k)<=1000:=by rw[Iy];omega
  exact lv 22 [] (.t<|.x (vi x)<|.ls [ke 0,ke 2,ke 3,ch 4 (di (k+1:Nat))] (ei 0 ((l.take (k+1)).map lf))) (Y ((k:Int)<(I (U vi l):Int))=J/\0<=(k:Int)/\(U vi l)[Z (k:Int)]?=G (vi x)/\Q (U eV (U lf (take k l)))/\A9 (I (U eV (U lf (take k l)))+I (ab (vi x::ai nV::nV)::nV)) 32/\yn/\di (yr yq ((k:Int)+1))=di (↑(k+1):Int)/\[G [di 0,dn],G [di 0,br 1 (U eV (U lf (take k l))++ab (vi x::ai nV::nV)::nV)]]=[G [di 0,dn],G [di 0,br 1 (U eV (U lf (take (k+1) l)))]]/\[(1,2,U eV (U lf (take k l))++ab (vi x::ai nV::nV)::nV)]=[(1,2,U eV (U lf (take (k+1) l)))]/\_) ⟨HS (by rw[HP];omega),by omega,A3 hx,rfl,⟨by simp only[HP,HV,HZ];omega,by simp only[HP,HV,HZ];omega⟩,yl,As,by rw[e],by rw[e],iK hr⟩
theorem Ww(l:List Int)(hl:I l<=1000):F0 82 [cy l] (dV (.mk 0 (l.map lf))):=by
 have h:=Wx l hl _ 0 rfl (I3 _)
 exact sv YL 22 [] (.h (.q 2 0)<|.h (.cl 1 1 1 2)<|.ls [ke 0,ke 2,ke 3,ch 4 (di (0:Nat))] (ei 0 [])) (Q (di 0)/\Q (ei 0 []).H/\Q [(1,2,nV)]/\_) ⟨rfl,rfl,rfl,iK h⟩
noncomputable abbrev Wc:=Tryz.f44
noncomputable def RY:=yj Wc
mutual
def fg:bc->Bool
 |.nat=>true
 |.lab n=>Y (1<=n)&&Y (n<=100)
 |.prio n _=>Y (1<=n)&&Y (n<=100)
 |.word t=>fg t
 |.bag t=>fg t
 |.prod l=>Y (I l<=100)&&k7 l
def k7:List bc->Bool
 |[]=>true
 |t::l=>fg t&&k7 l
end
mutual
def gz:bc->Nat
 |.nat=>1
 |.lab _=>1
 |.prio _ _=>4
 |.word t=>1+3*gz t
 |.bag t=>1+3*gz t
 |.prod l=>1+kx l
def kx:List bc->Nat
 |[]=>0
 |t::l=>gz t+kx l
end
structure k8(t:bc)(most:Nat)(v:bd):Prop where
 sh:g8 t v=J
 size:v.size<=gz t
 zero:most=0->A0 t v=J/\Ek t v=v
abbrev jf(l:List Int)(t:bc)(most a:Nat)(s:Int)(v:bd)(a':Nat)(s':Int):Prop:=a'<=I l/\k8 t most v/\Aa PP 44 [.ptr 0 0,dT t,di most] (dk l a s) (dV v) (dk l a' s')
theorem AfL(l:List Int)(hl:I l<=400)(most a:Nat)(ha:a<=I l)(s:Int):∃v a' s',jf l .nat most a s v a' s':=by
 obtain⟨r,a1,s1,h1,h2,h3⟩:=AY l hl a ha s 4 (by decide) (by decide)
 refine⟨.mk r [],a1,s1,h2,⟨rfl,HX _,fun _=>⟨by show(Y (r>=0)&&(Y (r<=1048576)&&true))=J;rw[yp,yp];rfl,rfl⟩⟩,?_⟩
 exact sv Wc 89 [4] (.t<|.c1 (cr l a1 s1) (di r)<|.r) ((bc.kd bc.nat==1)=J/\_/\Q [G (cr l a1 s1)]/\Q (dV (bd.mk r []))) ⟨rfl,h3,rfl,rfl⟩
theorem AfM(l:List Int)(hl:I l<=400)(n:Int)(hn:fg (.lab n)=J)(most a:Nat)(ha:a<=I l)(s:Int):∃v a' s',jf l (.lab n) most a s v a' s':=by
 simp only[fg,HR,Ia] at hn
 obtain⟨r,a1,s1,h1,h2,h3⟩:=AY l hl a ha s n hn.1 (by omega)
 refine⟨.mk r [],a1,s1,h2,⟨rfl,HX _,fun _=>⟨by show(Y (r>=0)&&(Y (r<n)&&true))=J;rw[yp,yp];rfl,rfl⟩⟩,?_⟩
 exact sv Wc 89 [4] (.f<|.t<|.c1 (cr l a1 s1) (di r)<|.r) ((bc.kd (bc.lab n)==1)=O/\(bc.kd (bc.lab n)==2)=J/\_/\Q [G (cr l a1 s1)]/\Q (dV (bd.mk r []))) ⟨rfl,rfl,h3,rfl,rfl⟩
theorem Acn(l:List Int)(hl:I l<=400)(n:Int)(rk:List Int)(hn:fg (.prio n rk)=J)(most a:Nat)(hm:most<=3)(ha:a<=I l)(s:Int):∃v a' s',jf l (.prio n rk) most a s v a' s':=by
 simp only[fg,HR,Ia] at hn
 obtain⟨ys,a1,s1,y1,y2,y3,y4⟩:=QX l hl a ha s n most hn (by omega)
 have hw:=Ww ys (by omega)
 refine⟨.mk 0 (ys.map lf),a1,s1,y1,⟨rfl,by simp only[gz,bd.size,WY];omega,fun h=>?_⟩,?_⟩
 ·have:ys=[]:=List.length_eq_zero_iff.1 (by omega)
  subst this
  exact⟨by simp[A0,bd.n,bd.az],rfl⟩
 exact sv Wc 89 [4] (.f<|.f<|.f<|.t<|.c1 (cr l a1 s1) (cy ys)<|.c (dV (.mk 0 (ys.map lf)))<|.r) ((bc.kd (bc.prio n rk)==1)=O/\(bc.kd (bc.prio n rk)==2)=O/\(bc.kd (bc.prio n rk)==6)=O/\(bc.kd (bc.prio n rk)==7)=J/\_/\_/\Q [G (cr l a1 s1)]/\Q (dV (bd.mk 0 (U lf ys)))) ⟨rfl,rfl,rfl,rfl,y4,hw,rfl,rfl⟩
abbrev i1(l:List Int)(a:Nat)(s:Int)(vs:List bd):St:=⟨[G (cr l a s),G [di 0,.v .nils],G [di 0,.acc 1 (vs.map eV)]],[(1,2,vs.map eV)]⟩
inductive QV (most:Nat):List bc->List bd->Prop where
 |nil:QV most [] []
 |cons {t:bc} {v:bd} {ts:List bc} {vs:List bd}:k8 t most v->QV most ts vs->QV most (t::ts) (v::vs)
theorem QV.snoc{most:Nat}{ts:List bc}{vs:List bd}(h:QV most ts vs){t:bc}{v:bd}(hv:k8 t most v):QV most (ts++[t]) (vs++[v]):=by
 induction h with
 |nil=>exact .cons hv .nil
 |cons h1 _ ih=>exact .cons h1 ih
theorem QV.len{most:Nat}{ts:List bc}{vs:List bd}(h:QV most ts vs):I vs=I ts:=by
 induction h with
 |nil=>rfl
 |cons _ _ ih=>rw[HV,HV,ih]
theorem QV.sh{most:Nat}{ts:List bc}{vs:List bd}(h:QV most ts vs):k6 ts vs=J:=by
 induction h with
 |nil=>rfl
 |cons h1 _ ih=>rw[k6,h1.sh,ih];rfl
theorem QV.sizes{most:Nat}{ts:List bc}{vs:List bd}(h:QV most ts vs):bd.sizes vs<=kx ts:=by
 induction h with
 |nil=>exact HX _
 |cons h1 _ ih=>have:=h1.size;rw[bd.sizes,kx];omega
theorem QV.zero{most:Nat}{ts:List bc}{vs:List bd}(h:QV most ts vs)(h0:most=0):B1 ts vs=J/\Sa ts vs=vs:=by
 induction h with
 |nil=>exact⟨rfl,rfl⟩
 |cons h1 _ ih=>
  obtain⟨e1,e2⟩:=h1.zero h0
  exact⟨by rw[B1,e1,ih.1];rfl,by rw[Sa,e2,ih.2]⟩
theorem OE(l:List Int)(hl:I l<=400)(ts:List bc)(hts:I ts<=100)(most:Nat)(hm:most<=3)(ih:∀t∈ts,∀a s,a<=I l->∃v a' s',jf l t most a s v a' s')(n:Nat):∀(k a:Nat) (s:Int) (vs:List bd),I ts-k=n->k<=I ts->a<=I l->QV most (ts.take k) vs->
  ∃(vs':List bd) (a':Nat) (s':Int),a'<=I l/\QV most ts vs'/\
  Rn PP Wc 1 (dV (.mk 0 vs')) (dk l a' s') ([kl RY [1,1,1,0,1,0,0,1,0,0],.blk 1,kc RY [1,1,1,0,1,0,1],kc RY [1,1,1,1]]++[]) (b9 89 [(0,.ptr 0 0),(2,di most),(4,.v (.ref (vT (.prod ts)))),(6,.ptr 1 0),(7,.ptr 2 0),(8,di k)]) (i1 l a s vs):=by
 induction n with
 |zero=>
  intro k a s vs hn hk ha hd
  rw[Iw (by omega)] at hd
  refine⟨vs,a,s,ha,hd,?_⟩
  exact lv 89 [4] (.f<|.r) (Y ((k:Int)<(I (U eT (bc.ps (bc.prod ts))):Int))=O/\Q [G (cr l a s)]/\Q (dV (bd.mk 0 vs))) ⟨HU (by rw[HP];show ¬((k:Int)<(I ts:Int));omega),rfl,rfl⟩
 |succ n ihn=>
  intro k a s vs hn hk ha hd
  obtain⟨t,ht⟩:=yi (show k<I ts by omega)
  obtain⟨v,a1,s1,h1,h2,h3⟩:=ih t (HW ht) a s ha
  obtain⟨vs',a',s',r1,r2,r3⟩:=ihn (k+1) a1 s1 (vs++[v]) (by omega) (by omega) h1 (by rw[Jn,ht];exact hd.snoc h2)
  refine⟨vs',a',s',r1,r2,?_⟩
  have hvl:=hd.len
  rw[Iy] at hvl
  exact lv 89 [4] (.t<|.x (vT t)<|.c1 (cr l a1 s1) (dV v)<|.lo [ke 0,ke 2,ke 4,ke 6,ke 7,ch 8 (di (k+1:Nat))] (i1 l a1 s1 (vs++[v]))) (Y ((k:Int)<(I (U eT (bc.ps (bc.prod ts))):Int))=J/\0<=(k:Int)/\(U eT (bc.ps (bc.prod ts)))[Z (k:Int)]?=G (vT t)/\_/\Q (U eV vs)/\A9 (I (U eV vs)+I (Au v::nV)) 32/\((Q (G [br 1 (U eV vs)])/\True)/\True)/\di (yr yq ((k:Int)+1))=di (↑(k+1):Int)/\cp 3 [1] [G (cr l a1 s1),G [di 0,dn],G [di 0,br 1 (U eV vs++[Au v])]]=J/\[G (cr l a1 s1),G [di 0,dn],G [di 0,br 1 (U eV vs++Au v::nV)]]=[G (cr l a1 s1),G [di 0,dn],G [di 0,br 1 (U eV (vs++[v]))]]/\[(1,2,U eV vs++Au v::nV)]=[(1,2,U eV (vs++[v]))]/\_) ⟨HS (by rw[HP];show((k:Int)<(I ts:Int));omega),by omega,GQ ht,h3,rfl,⟨by simp only[HP,HV,HZ];omega,by simp only[HP,HV,HZ];omega⟩,⟨⟨rfl,trivial⟩,trivial⟩,As,rfl,by rw[←OP],by rw[←OP],iK r3⟩
theorem Acm(l:List Int)(hl:I l<=400)(ts:List bc)(hts:I ts<=100)(most:Nat)(hm:most<=3)(ih:∀t∈ts,∀a s,a<=I l->∃v a' s',jf l t most a s v a' s')(a:Nat)(ha:a<=I l)(s:Int):∃v a' s',jf l (.prod ts) most a s v a' s':=by
 obtain⟨vs',a',s',r1,r2,r3⟩:=OE l hl ts hts most hm ih _ 0 a s [] rfl (I3 _) ha .nil
 refine⟨.mk 0 vs',a',s',r1,?_,?_⟩
 ·exact⟨by show((I vs'==I ts)&&k6 ts vs')=J;rw[r2.len,beq_self_eq_true,r2.sh];rfl,by show 1+bd.sizes vs'<=1+kx ts;have:=r2.sizes;omega,fun h0=>⟨by show((0:Int)==0&&(((I vs':Int)==(I ts:Int))&&B1 ts vs'))=J;rw[r2.len,(r2.zero h0).1,Bool.and_true,beq_self_eq_true (I ts:Int)];rfl,by show bd.mk 0 (Sa ts vs')=_;rw[(r2.zero h0).2]⟩⟩
 exact sv Wc 89 [4] (.f<|.f<|.f<|.f<|.h (.q 11 0)<|.h (.cl 2 1 1 2)<|.t<|.lo [ke 0,ke 2,ke 4,ke 6,ke 7,ch 8 (di (0:Nat))] (i1 l a s [])) ((bc.kd (bc.prod ts)==1)=O/\(bc.kd (bc.prod ts)==2)=O/\(bc.kd (bc.prod ts)==6)=O/\(bc.kd (bc.prod ts)==7)=O/\(bc.kd (bc.prod ts)==3)=J/\Q (di 0)/\cp 3 [1] [G (cr l a s),G [di 0,dn],G [di 0,br 1 []]]=J/\Q (i1 l a s []).H/\Q [(1,2,nV)]/\_) ⟨rfl,rfl,rfl,rfl,rfl,rfl,rfl,rfl,rfl,iK r3⟩
theorem OF(l:List Int)(hl:I l<=400)(T t:bc)(hps:T.ps=[t])(most:Nat)(hm:most<=3)(ih:∀a s,a<=I l->∃v a' s',jf l t (most-1) a s v a' s')(n:Nat):∀(a:Nat) (s:Int) (vs:List bd),a<=I l->n<=3->I vs+n<=most->(∀v∈vs,k8 t (most-1) v)->
  ∃(vs':List bd) (a':Nat) (s':Int),a'<=I l/\vs'.length<=most/\(∀v∈vs',k8 t (most-1) v)/\
  Rn PP Wc 1 (dV (.mk 0 vs')) (dk l a' s') ([kl RY [1,1,1,1,0,1,0,0],.blk 3,kc RY [1,1,1,1,1]]++[]) (b9 89 [(0,.ptr 0 0),(2,di most),(4,.v (.ref (vT T))),(6,.ptr 1 0),(7,.ptr 2 0),(9,di n)]) (i1 l a s vs):=by
 induction n with
 |zero=>
  intro a s vs ha hn hv hd
  refine⟨vs,a,s,ha,by omega,hd,?_⟩
  exact lv 89 [4] (.f<|.r) (Y ((↑0:Int)>0)=O/\Q [G (cr l a s)]/\Q (dV (bd.mk 0 vs))) ⟨rfl,rfl,rfl⟩
 |succ n ihn=>
  intro a s vs ha hn hv hd
  obtain⟨v,a1,s1,h1,h2,h3⟩:=ih a s ha
  obtain⟨vs',a',s',r1,r2,r3,r4⟩:=ihn a1 s1 (vs++[v]) h1 (by omega) (by rw[Ig];simp only[HV,HZ];omega) (fun w hw=>by
   rcases IE.1 hw with hw|hw
   ·exact hd w hw
   ·rw[Ii.1 hw];exact h2)
  refine⟨vs',a',s',r1,r2,r3,?_⟩
  refine lv 89 [4] (.t<|.x (vT t)<|.c1 (cr l a1 s1) (dV v)<|.lo [ke 0,ke 2,ke 4,ke 6,ke 7,ch 9 (di (n:Nat))] (i1 l a1 s1 (vs++[v]))) (Y ((↑(n+1):Int)>0)=J/\iz 0<=0/\(U eT (bc.ps T))[Z 0]?=G (vT t)/\Aa PP 44 [bq 0 0,bt (vT t),di (if yr yq ((most:Int)-1)>0 then yr yq ((most:Int)-1) else 0)] (bi [G (cr l a s)] []) (dV v) (bi [G (cr l a1 s1)] [])/\Q (U eV vs)/\A9 (I (U eV vs)+I (Au v::nV)) 32/\((Q (G [br 1 (U eV vs)])/\True)/\True)/\di (yr yq ((↑(n+1):Int)-1))=di (n:Int)/\cp 3 [1] [G (cr l a1 s1),G [di 0,dn],G [di 0,br 1 (U eV vs++[Au v])]]=J/\[G (cr l a1 s1),G [di 0,dn],G [di 0,br 1 (U eV vs++Au v::nV)]]=[G (cr l a1 s1),G [di 0,dn],G [di 0,br 1 (U eV (vs++[v]))]]/\[(1,2,U eV vs++Au v::nV)]=[(1,2,U eV (vs++[v]))]/\I0 Wc 1 (dV (bd.mk 0 vs')) (dk l a' s') [kl RY [1,1,1,1,0,1,0,0],bh 3,kc RY [1,1,1,1,1]] (b9 89 [(0,bq 0 0),(2,di (most:Int)),(4,bt (bz (vT T))),(6,bq 1 0),(7,bq 2 0),(9,di (n:Int))]) (i1 l a1 s1 (vs++[v]))) ?_
  have em:(if yr yq ((most:Int)-1)>0 then yr yq ((most:Int)-1) else 0)=((most-1:Nat):Int):=by
   rw[A2]
   split<;>omega
  rw[em,hps]
  exact⟨yp,by decide,Iq G (HJ t),h3,rfl,⟨by simp only[HP,HV,HZ];omega,by simp only[HP,HV,HZ];omega⟩,⟨⟨rfl,trivial⟩,trivial⟩,by rw[A2];congr 2;omega,rfl,by rw[←OP],by rw[←OP],⟨r4⟩⟩
theorem Tt(l:List Int)(hl:I l<=400)(T t:bc)(hps:T.ps=[t])(hk:T.kd=4∨T.kd=5)(most:Nat)(hm:most<=3)(ih:∀a s,a<=I l->∃v a' s',jf l t (most-1) a s v a' s')(a:Nat)(ha:a<=I l)(s:Int):∃(vs':List bd) (a':Nat) (s':Int),a'<=I l/\vs'.length<=most/\(∀v∈vs',k8 t (most-1) v)/\Aa PP 44 [.ptr 0 0,dT T,di most] (dk l a s) (dV (.mk 0 vs')) (dk l a' s'):=by
 obtain⟨r,a1,s1,h1,h2,h3⟩:=AY l hl a ha s (most+1) (by omega) (by omega)
 obtain⟨n,rfl⟩:∃n:Nat,r=n:=⟨r.toNat,by omega⟩
 obtain⟨vs',a',s',r1,r2,r3,r4⟩:=OF l hl T t hps most hm ih n a1 s1 [] h2 (by omega) (by simp;omega) (by simp)
 refine⟨vs',a',s',r1,r2,r3,?_⟩
 refine sv Wc 89 [4] (.f<|.f<|.f<|.f<|.h (.q 11 0)<|.h (.cl 2 1 1 2)<|.f<|.c1 (cr l a1 s1) (di n)<|.lo [ke 0,ke 2,ke 4,ke 6,ke 7,ch 9 (di n)] (i1 l a1 s1 [])) ((bc.kd T==1)=O/\(bc.kd T==2)=O/\(bc.kd T==6)=O/\(bc.kd T==7)=O/\(bc.kd T==3)=O/\Aa PP 19 [bq 0 0,di (yr yq ((most:Int)+1))] (bi [G (cr l a s)] []) (di (n:Int)) (bi [G (cr l a1 s1)] [])/\Q (di (n:Int))/\cp 3 [1] [G (cr l a1 s1),G [di 0,dn],G [di 0,br 1 []]]=J/\Q (i1 l a1 s1 []).H/\Q [(1,2,nV)]/\I0 Wc (I (dk l a s).H) (dV (bd.mk 0 vs')) (dk l a' s') [kl RY [1,1,1,1,0,1,0,0],bh 3,kc RY [1,1,1,1,1]] (b9 89 [(0,bq 0 0),(2,di (most:Int)),(4,bt (bz (vT T))),(6,bq 1 0),(7,bq 2 0),(9,di (n:Int))]) (i1 l a1 s1 [])) ?_
 have e:yq.wrap ((most:Int)+1)=(most:Int)+1:=A2
 rw[e]
 refine⟨?_,?_,?_,?_,?_,h3,rfl,rfl,rfl,rfl,⟨r4⟩⟩<;>(rcases hk with h|h<;>(rw[h];rfl))
theorem WZ{t:bc}{most:Nat}:∀{vs:List bd},(∀v∈vs,k8 t most v)->bd.sizes vs<=I vs*gz t
 |[],_=>by simp[bd.sizes]
 |v::vs,h=>by
  have h1:=(h v (by simp)).size
  have h2:=WZ (vs:=vs) fun w hw=>h w (by simp[hw])
  rw[bd.sizes,HV,Nat.succ_mul];omega
theorem Y6(l:List Int)(hl:I l<=400)(N:Nat):∀(t:bc),SizeOf.sizeOf t<=N->fg t=J->∀(most:Nat),most<=3->∀(a:Nat) (s:Int),a<=I l->∃v a' s',jf l t most a s v a' s':=by
 induction N with
 |zero=>intro t ht;cases t<;>simp at ht
 |succ N ih=>
  intro t ht hd most hm a s ha
  cases t with
  |nat=>exact AfL l hl most a ha s
  |lab n=>exact AfM l hl n hd most a ha s
  |prio n rk=>exact Acn l hl n rk hd most a hm ha s
  |prod ts=>
   simp only[fg,HR,Ia] at hd
   have hts:∀(ts:List bc),k7 ts=J->∀t∈ts,fg t=J:=by
    intro ts
    induction ts with
    |nil=>intro _ t ht;simp at ht
    |cons x xs ihx=>
     intro h t ht
     simp only[k7,HR] at h
     rcases I8.1 ht with rfl|ht
     ·exact h.1
     ·exact ihx h.2 t ht
   exact Acm l hl ts hd.1 most hm (fun t h a s ha=>ih t (by have:=List.sizeOf_lt_of_mem h;simp at ht;omega) (hts ts hd.2 t h) most hm a s ha) a ha s
  |word t=>
   obtain⟨vs,a',s',h1,h2,h3,h4⟩:=Tt l hl (.word t) t rfl (.inl rfl) most hm (fun a s ha=>ih t (by simp at ht;omega) (by simpa only[fg] using hd) (most-1) (by omega) a s ha) a ha s
   have hz:=WZ h3
   refine⟨.mk 0 vs,a',s',h1,⟨by show(vs.all fun k=>g8 t k)=J;exact ID.2 fun v hv=>(h3 v hv).sh,?_,fun h0=>?_⟩,h4⟩
   ·show 1+bd.sizes vs<=1+3*gz t
    have:=Nat.mul_le_mul_right (gz t) (show I vs<=3 by omega)
    omega
   ·have:vs=[]:=List.length_eq_zero_iff.1 (by omega)
    subst this
    exact⟨rfl,rfl⟩
  |bag t=>
   obtain⟨vs,a',s',h1,h2,h3,h4⟩:=Tt l hl (.bag t) t rfl (.inr rfl) most hm (fun a s ha=>ih t (by simp at ht;omega) (by simpa only[fg] using hd) (most-1) (by omega) a s ha) a ha s
   have hz:=WZ h3
   refine⟨.mk 0 vs,a',s',h1,⟨by show(vs.all fun k=>g8 t k)=J;exact ID.2 fun v hv=>(h3 v hv).sh,?_,fun h0=>?_⟩,h4⟩
   ·show 1+bd.sizes vs<=1+3*gz t
    have:=Nat.mul_le_mul_right (gz t) (show I vs<=3 by omega)
    omega
   ·have:vs=[]:=List.length_eq_zero_iff.1 (by omega)
    subst this
    exact⟨rfl,by show bd.mk 0 (sortV [])=_;rw[show sortV []=[] from by simp[sortV]]⟩
noncomputable abbrev vn:=Tryz.f24
theorem Aaz(l:List Int)(hl:I l<=400)(t:bc)(hg:B4 8 t=J)(hd:fg t=J)(hz:gz t<=128)(a:Nat)(s:Int)(ha:a<=I l):∃(v:bd) (a':Nat) (s':Int),Aw t v=J/\a'<=I l/\Aa PP 24 [.ptr 0 0,dT t] (dk l a s) (dV v) (dk l a' s'):=by
 obtain⟨v,a1,s1,h1,h2,h3⟩:=Y6 l hl _ t (HX _) hd 3 (by decide) a s ha
 have hs:=S4 t hg v (by have:=h2.size;omega) h2.sh
 have hv:=Gk t hg (lz t v).1
 generalize lz t v=p at hs hv
 by_cases hp:Aw t p.1=J
 ·refine⟨p.1,a1,s1,hp,h1,?_⟩
  rw[hp] at hv
  exact sv vn 28 [3] (.h (.dr 8)<|.c1 (cr l a1 s1) (dV v)<|.c (.tup [dV p.1,di p.2])<|.c (db J)<|.k<|.r) (_/\_/\Q (dV v)/\_/\Q [bi [G (cr l a s),G [di 0,dn],G [di 0,dn]] [],bi [G (cr l a1 s1),G [di 0,dn],G [di 0,dn]] []]/\True/\_/\Q [G (cr l a1 s1)]/\Q (dV p.fst)) ⟨h3,h3,rfl,hs,rfl,trivial,hv,rfl,rfl⟩
 ·have hp:=Ic hp
  rw[hp] at hv
  obtain⟨w,a2,s2,w1,w2,w3⟩:=Y6 l hl _ t (HX _) hd 0 (by decide) a1 s1 h1
  have hs2:=S4 t hg w (by have:=w2.size;omega) w2.sh
  obtain⟨e1,e2⟩:=w2.zero rfl
  have hwv:Aw t w=J:=by
   rw[Aw,e1,HS (by have:=w2.size;omega)];rfl
  have hsr:lz t w=(w,0):=by
   rw[lz,e2,hwv,HS (by have:=w2.size;omega)];rfl
  rw[hsr] at hs2
  refine⟨w,a2,s2,hwv,w1,?_⟩
  exact sv vn 28 [3] (.h (.dr 8)<|.c1 (cr l a1 s1) (dV v)<|.c (.tup [dV p.1,di p.2])<|.c (db O)<|.k<|.c1 (cr l a2 s2) (dV w)<|.c (.tup [dV w,di 0])<|.r) (_/\_/\Q (dV v)/\_/\Q [bi [G (cr l a s),G [di 0,dn],G [di 0,dn]] [],bi [G (cr l a1 s1),G [di 0,dn],G [di 0,dn]] []]/\True/\_/\_/\_/\Q [G (cr l a2 s2)]/\Q (dV w)) ⟨h3,h3,rfl,hs,rfl,trivial,hv,w3,hs2,rfl,rfl⟩
theorem Ahq{m:ba}{t:bc}(h:F0 31 [Ax m] (di 0))(h2:F0 33 [Ax m] (dT t)):F0 45 [Ax m] (.tup [dT t,di 0]):=by
 exact sv xx 13 [1] (.c (di 0)<|.k<|.c (dT t)<|.r) (_/\_/\Q (bl [dT t,di 0])) ⟨h,h2,rfl⟩
theorem AeX{m:ba}(h:F0 31 [Ax m] (di 17)):F0 45 [Ax m] (.tup [.v (.agg [vi 0,vi 0,.list [],.list []]),di 17]):=by
 exact sv xx 13 [1] (.c (di 17)<|.k<|.r) (_/\Q (bl [bt (ab [vi 0,vi 0,ai [],ai []]),di 17])) ⟨h,rfl⟩
def VZ(n:Nat):bd:=.mk 0 (replicate (n+1) (.mk 0 []))
noncomputable abbrev o5:=Tryz.f46
noncomputable def Aao:=yj o5
theorem T3(m:ba)(N:Nat)(hN:N<=100)(n:Nat):∀(k:Nat) (xs:List bd),N-k=n->k<=N->xs=replicate (k+1) (.mk 0 [])->
  Rn PP o5 0 (dV (VZ N)) bf ([kl Aao [1,1,1,1,0,1,0,0],.blk 0,kc Aao [1,1,1,1,1]]++[]) (b9 32 [(1,.v (.ref (AE m))),(2,.ptr 0 0),(3,.ptr 1 0),(4,di N),(5,di k)]) (ei 0 xs):=by
 induction n with
 |zero=>
  intro k xs hn hk hx
  have e:k=N:=by omega
  subst e
  rw[VZ, ←hx]
  exact lv 32 [1] (.f<|.r) (Y ((k:Int)<(k:Int))=O/\Q (dV (bd.mk 0 xs))) ⟨yo,rfl⟩
 |succ n ih=>
  intro k xs hn hk hx
  have hr:=ih (k+1) (xs++[.mk 0 []]) (by omega) (by omega) (by rw[hx, ←List.replicate_succ'])
  have hl:I xs<=1000:=by rw[hx,length_replicate];omega
  clear hx
  have e:(xs++[bd.mk 0 []]).map eV=xs.map eV++[ab [vi 0,ai []]]:=by rw[Jq];rfl
  exact lv 32 [1] (.t<|.lo [ke 1,ke 2,ke 3,ke 4,ch 5 (di (k+1:Nat))] (ei 0 (xs++[.mk 0 []]))) (Y ((k:Int)<(N:Int))=J/\Q (U eV xs)/\A9 (I (U eV xs)+I (ab (aa yq 0::ai nV::nV)::nV)) 32/\di (yr yq ((k:Int)+1))=di (↑(k+1):Int)/\cp 2 [1] [G [di 0,dn],G [di 0,br 1 (U eV xs++[ab [vi 0,ai []]])]]=J/\[G [di 0,dn],G [di 0,br 1 (U eV xs++ab (vi 0::ai nV::nV)::nV)]]=[G [di 0,dn],G [di 0,br 1 (U eV (xs++[bd.mk 0 []]))]]/\[(1,2,U eV xs++ab (vi 0::ai nV::nV)::nV)]=[(1,2,U eV (xs++[bd.mk 0 []]))]/\_) ⟨yp,rfl,⟨by simp only[HP,HV,HZ];omega,by simp only[HP,HV,HZ];omega⟩,As,rfl,by rw[e],by rw[e],iK hr⟩
theorem Y8(m:ba)(hk:m.kind=4∨m.kind=5):F0 46 [Ax m] (dV (VZ 1)):=by
 have h:=T3 m 1 (by decide) _ 0 [.mk 0 []] rfl (I3 _) rfl
 rcases hk with hk|hk
 ·exact sv o5 32 [1] (.a 1<|.h .g<|.t<|.k<|.lo [ke 1,ke 2,ke 3,ch 4 (di (1:Nat)),ch 5 (di (0:Nat))] (ei 0 [.mk 0 []])) ((m.kind==4)=J/\Q (di 1)/\Q (di 0)/\cp 2 [1] [G [di 0,dn],G [di 0,br 1 [ab [vi 0,ai []]]]]=J/\Q [G [di 0,dn],G [di 0,br 1 (eV (bd.mk 0 [])::nV)]]/\Q [(1,2,eV (bd.mk 0 [])::nV)]/\_) ⟨I4.2 hk,rfl,rfl,rfl,rfl,rfl,iK h⟩
 ·exact sv o5 32 [1] (.a 1<|.h .g<|.f<|.t<|.lo [ke 1,ke 2,ke 3,ch 4 (di (1:Nat)),ch 5 (di (0:Nat))] (ei 0 [.mk 0 []])) ((m.kind==4)=O/\(m.kind==5)=J/\Q (di 1)/\Q (di 0)/\cp 2 [1] [G [di 0,dn],G [di 0,br 1 [ab [vi 0,ai []]]]]=J/\Q [G [di 0,dn],G [di 0,br 1 (eV (bd.mk 0 [])::nV)]]/\Q [(1,2,eV (bd.mk 0 [])::nV)]/\_) ⟨I7.2 (by omega),I4.2 hk,rfl,rfl,rfl,rfl,rfl,iK h⟩
theorem AfO(m:ba)(h4:m.kind≠4)(h5:m.kind≠5)(hp:I m.ay<=100):F0 46 [Ax m] (dV (VZ (I m.ay))):=by
 have h:=T3 m (I m.ay) hp _ 0 [.mk 0 []] rfl (I3 _) rfl
 exact sv o5 32 [1] (.a 1<|.h .g<|.f<|.f<|.lo [ke 1,ke 2,ke 3,ch 4 (di (I m.ay)),ch 5 (di (0:Nat))] (ei 0 [.mk 0 []])) ((m.kind==4)=O/\(m.kind==5)=O/\di (I (U ae m.ay):Int)=di (I m.ay:Int)/\Q (di 0)/\cp 2 [1] [G [di 0,dn],G [di 0,br 1 [ab [vi 0,ai []]]]]=J/\Q [G [di 0,dn],G [di 0,br 1 (eV (bd.mk 0 [])::nV)]]/\Q [(1,2,eV (bd.mk 0 [])::nV)]/\_) ⟨I7.2 h4,I7.2 h5,by rw[HP],rfl,rfl,rfl,rfl,iK h⟩
noncomputable abbrev Amv:=Tryz.f25
abbrev B8(m:ba)(v:bd):ba:=⟨m.kind,m.aw,m.ay,m.ax,m.au,m.ao,m.age,[],v⟩
theorem Lt(m:ba)(w:bd):DSL [bt (ab [vi m.kind,cf m.aw,cf m.ay,cf m.ax,cz m.au,vi m.ao,vi m.age,bv,vi w.n,cc w.az])] [Ax (B8 m w)]:=
 .cons (.v (.agg (.cons (.refl _) (.cons (.refl _) (.cons (.refl _) (.cons (.refl _) (.cons (.refl _) (.cons (.refl _) (.cons (.refl _) (.cons .nils (.cons (.refl _) (.cons (.refl _) .nil)))))))))))) .nil
theorem AcQ(m:ba)(t:bc)(w:bd)(h1:F0 45 [Ax (B8 m (.mk 0 []))] (.tup [.v (.agg [vi 0,vi 0,.list [],.list []]),di 17]))(h2:F0 46 [Ax (B8 m (.mk 0 []))] (dV w))(h3:F0 45 [Ax (B8 m w)] (.tup [dT t,di 0]))(x:ba)(hx:x=B8 m (.mk 0 [])):F0 25 [Ax x] (dT t):=by
 subst hx
 exact sv Amv 25 [1] (.n<|.c (.tup [.v (.agg [vi 0,vi 0,.list [],.list []]),di 17])<|.k<|.c (dV w)<|.n<|.c (.tup [dT t,di 0])<|.k<|.r) (_/\_/\_/\bt (ab [vi (bc.kd t),vi (bc.sz t),ai (U vi (bc.rk t)),ai (U eT (bc.ps t))])=dT t) ⟨h1.sub (Lt m _) (.same _),h2.sub (Lt m _) (.same _),h3.sub (Lt m w) (.same _),rfl⟩
noncomputable abbrev Amw:=Tryz.f10
theorem AcS(l:List Int)(a:Nat)(s:Int)(m:ba)(t:bc)(v:bd)(a':Nat)(s':Int)(h1:F0 25 [Ax (B8 m (.mk 0 []))] (dT t))(h2:Aa PP 24 [.ptr 0 0,dT t] (dk l a s) (dV v) (dk l a' s')):Aa PP 10 [.ptr 0 0,Ax m] (dk l a s) (dV v) (dk l a' s'):=by
 exact sv Amw 14 [3] (.c (dT t)<|.c1 (cr l a' s') (dV v)<|.r) (_/\_/\Q [G (cr l a' s')]/\Q (dV v)) ⟨h1.sub (Lt m (.mk 0 [])) (.same _),h2,rfl,rfl⟩
noncomputable abbrev We:=Tryz.f23
noncomputable def Dd:=yj We
abbrev gu:List D:=[.v (.str []),di 0,di 0,.v .nils,.v .nils,.v .nils,di 0,di 0,di 0,.v .nils,.v .nils,.v .nils,.v .nils,di 0]
abbrev j5(f t:Int)(nd gv mv:List Int):cq:=⟨[],f,t,nd,gv,mv,0,0,0,[],[],[],[],0⟩
abbrev oo(l:List Int)(a:Nat)(s:Int)(f t:Int)(nd gv mv:List Int):St:=⟨[G (cr l a s),G gu,G [.v (.str []),di f,di t,cy nd,cy gv,.acc 1 (mv.map vi),di 0,di 0,di 0,.v .nils,.v .nils,.v .nils,.v .nils,di 0]],[(1,1,mv.map vi)]⟩
abbrev AlL(l:List Int)(a:Nat)(s f t:Int):St:=⟨[G (cr l a s),G gu,G [.v (.str []),di f,di t,.v .nils,.v .nils,.v .nils,di 0,di 0,di 0,.v .nils,.v .nils,.v .nils,.v .nils,di 0]],[]⟩
abbrev AmF(l:List Int)(m:ba)(d:D)(a':Nat)(s':Int)(a:Nat)(s f t:Int):Prop:=Cp (CN 1) PP (fun env σ1=>AL PP We env σ1 d (dk l a' s')) ([KI.code (sub Dd [1,1,1])]++[]) (De (sub Dd [1,1,0])) (W 0 (De (sub Dd [1,1,0])).toList) (b9 168 [(0,.ptr 0 0),(3,.v (.ref (AE m))),(4,.ptr 1 0),(5,.ptr 2 0)]) (AlL l a s f t)
theorem S8(l:List Int)(hl:I l<=400)(m:ba)(hst:1<=I m.aw/\m.aw.length<=100)(a:Nat)(s:Int)(ha:a<=I l):∃(f t:Int) (a2:Nat) (s2:Int),(0<=f/\f<I m.aw)/\(0<=t/\t<I m.aw)/\a2<=I l/\∀(d:D) (a':Nat) (s':Int),AmF l m d a' s' a2 s2 f t->Aa PP 23 [.ptr 0 0,Ax m] (dk l a s) d (dk l a' s'):=by
 obtain⟨f,a1,s1,f1,f2,f3⟩:=AY l hl a ha s (I m.aw) (by omega) (by omega)
 obtain⟨t,a2,s2,t1,t2,t3⟩:=AY l hl a1 f2 s1 (I m.aw) (by omega) (by omega)
 refine⟨f,t,a2,s2,f1,t1,t2,fun d a' s' h=>?_⟩
 have f3':Aa PP 19 [bq 0 0,di (I (m.aw.map ae):Int)] (dk l a s) (di f) (dk l a1 s1):=by rw[HP];exact f3
 have t3':Aa PP 19 [bq 0 0,di (I (m.aw.map ae):Int)] (dk l a1 s1) (di t) (dk l a2 s2):=by rw[HP];exact t3
 exact sv We 168 [3] (.h (.dr 11)<|.c1 (cr l a1 s1) (di f)<|.c1 (cr l a2 s2) (di t)<|.h .rn<|.h (.q 2 0)<|.h (.s [ke 0,ke 3,ke 4,ke 5]) .z) (_/\_/\Q (di f)/\_/\_/\Q (di t)/\Q [bi [G (cr l a s),G lj,G lj] [],bi [G (cr l a1 s1),G lj,G lj] [],bi [G (cr l a2 s2),G lj,G lj] []]/\True/\_) ⟨f3',f3',rfl,t3',t3',rfl,rfl,trivial,iK h⟩
theorem Abp(l:List Int)(hl:I l<=400)(m:ba)(n:Nat)(hn:1<=n/\n<=100)(f t:Int)(nd gv:List Int)(N:Nat):∀(k a:Nat) (s:Int) (mv:List Int),n-k=N->k<=n->a<=I l->I mv=k->(∀x∈mv, -1<=x/\x<n)->
  ∃(mv':List Int) (a':Nat) (s':Int),a'<=I l/\mv'.length=n/\(∀x∈mv', -1<=x/\x<n)/\
  Rn PP We 1 (AZ (j5 f t nd gv mv')) (dk l a' s') ([kl Dd [1,1,1,0,1,0,1,0,1,1,0,1,0,0],.blk 1,.blk 0,kc Dd [1,1,1,1]]++[]) (b9 168 [(0,.ptr 0 0),(3,.v (.ref (AE m))),(4,.ptr 1 0),(5,.ptr 2 0),(6,di n),(7,di k)]) (oo l a s f t nd gv mv):=by
 induction N with
 |zero=>
  intro k a s mv hN hk ha hmv hr
  refine⟨mv,a,s,ha,by omega,hr,?_⟩
  exact lv 168 [3] (.f<|.r) (Y ((k:Int)<(n:Int))=O/\Q [G (cr l a s)]/\bt (ab [ae [],vi f,vi t,ai (U vi nd),ai (U vi gv),ai (U vi mv),vi 0,vi 0,vi 0,ai [],ai [],ai [],ai [],vi 0])=AZ (j5 f t nd gv mv)) ⟨yo,rfl,rfl⟩
 |succ N ih=>
  intro k a s mv hN hk ha hmv hr
  obtain⟨x,a1,s1,x1,x2,x3⟩:=AY l hl a ha s (n+1) (by omega) (by omega)
  obtain⟨mv',a',s',h1,h2,h3,h4⟩:=ih (k+1) a1 s1 (mv++[x-1]) (by omega) (by omega) x2 (by simp[hmv]) (fun y hy=>by
   rcases IE.1 hy with hy|hy
   ·exact hr y hy
   ·rw[Ii.1 hy];omega)
  refine⟨mv',a',s',h1,h2,h3,?_⟩
  refine lv 168 [3] (.t<|.c1 (cr l a1 s1) (di x)<|.lo [ke 0,ke 3,ke 4,ke 5,ke 6,ch 7 (di (k+1:Nat))] (oo l a1 s1 f t nd gv (mv++[x-1]))) (Y ((k:Int)<(n:Int))=J/\Aa PP 19 [bq 0 0,di (yr yq ((n:Int)+1))] (bi [G (cr l a s)] []) (di x) (bi [G (cr l a1 s1)] [])/\Q (U vi mv)/\A9 (I (U vi mv)+I (aa yq (yr yq (x-1))::nV)) 8/\((Q (G [br 1 (U vi mv)])/\True)/\True)/\di (yr yq ((k:Int)+1))=di (↑(k+1):Int)/\cp 3 [1] [G (cr l a1 s1),G gu,G [bt (ae []),di f,di t,cy nd,cy gv,br 1 (U vi mv++[vi (yr yq (x-1))]),di 0,di 0,di 0,dn,dn,dn,dn,di 0]]=J/\[G (cr l a1 s1),G gu,G [bt (ae []),di f,di t,cy nd,cy gv,br 1 (U vi mv++vi (yr yq (x-1))::nV),di 0,di 0,di 0,dn,dn,dn,dn,di 0]]=[G (cr l a1 s1),G gu,G [bt (ae []),di f,di t,cy nd,cy gv,br 1 (U vi (mv++[x-1])),di 0,di 0,di 0,dn,dn,dn,dn,di 0]]/\[(1,1,U vi mv++vi (yr yq (x-1))::nV)]=[(1,1,U vi (mv++[x-1]))]/\I0 We 1 (AZ (j5 f t nd gv mv')) (dk l a' s') [kl Dd [1,1,1,0,1,0,1,0,1,1,0,1,0,0],bh 1,bh 0,kc Dd [1,1,1,1]] (b9 168 [(0,bq 0 0),(3,bt (bz (AE m))),(4,bq 1 0),(5,bq 2 0),(6,di (n:Int)),(7,di (↑(k+1):Int))]) (oo l a1 s1 f t nd gv (mv++[x-1]))) ?_
  rw[A2 (n:=x-1),A2 (n:=(n:Int)+1)]
  exact⟨yp,x3,rfl,⟨by simp only[HP,HV,HZ];omega,by simp only[HP,HV,HZ];omega⟩,⟨⟨rfl,trivial⟩,trivial⟩,As,rfl,by simp,by simp,⟨h4⟩⟩
theorem AhB(l:List Int)(hl:I l<=400)(m:ba)(hk:m.kind=1)(hst:1<=I m.aw/\m.aw.length<=100)(hpl:1<=I m.ay/\m.ay.length<=100)(a:Nat)(s:Int)(ha:a<=I l):∃(f t:Int) (nd gv mv:List Int) (a':Nat) (s':Int),(0<=f/\f<I m.aw)/\(0<=t/\t<I m.aw)/\(I nd=I m.ay/\∀x∈nd,0<=x/\x<=2)/\(I gv=I m.ay/\∀x∈gv,0<=x/\x<=2)/\(mv=[]∨mv.length=I m.ay/\∀x∈mv, -1<=x/\x<I m.ay)/\a'<=I l/\Aa PP 23 [.ptr 0 0,Ax m] (dk l a s) (AZ (j5 f t nd gv mv)) (dk l a' s'):=by
 obtain⟨f,t,a2,s2,f1,t1,t2,hgo⟩:=S8 l hl m hst a s ha
 obtain⟨nd,a3,s3,n1,n2,n3,n4⟩:=Lc l hl a2 t2 s2 (I m.ay) (by omega) 2 (by decide) (by decide)
 obtain⟨gv,a4,s4,g1,g2,g3,g4⟩:=Lc l hl a3 n1 s3 (I m.ay) (by omega) 2 (by decide) (by decide)
 obtain⟨b,a5,s5,b1,b2⟩:=SX l hl a4 g1 s4 3 (by decide) (by decide)
 have hkk:(m.kind==1)=J:=I4.2 hk
 rw[←HP (f:=ae)] at n4 g4
 cases b with
 |false=>
  refine⟨f,t,nd,gv,[],a5,s5,f1,t1,⟨n2,n3⟩,⟨g2,g3⟩,.inl rfl,b1,hgo _ _ _ ?_⟩
  refine Cb (ks:=[KI.code (sub Dd [1,1,1])]) (T:=[]) mixed (CV 1) 1 (fun _ _ h=>h.2) 168 [3] 2 0 (.t<|.c1 (cr l a3 s3) (cy nd)<|.c1 (cr l a4 s4) (cy gv)<|.c1 (cr l a5 s5) (db O)<|.k<|.r) ?_
  refine dq (by kernel_rfl:((m.kind==1)=J/\Aa PP 41 [bq 0 0,di (I (U ae m.ay):Int),di 2] (bi [G (cr l a2 s2)] []) (cy nd) (bi [G (cr l a3 s3)] [])/\Aa PP 41 [bq 0 0,di (I (U ae m.ay):Int),di 2] (bi [G (cr l a3 s3)] []) (cy gv) (bi [G (cr l a4 s4)] [])/\Aa PP 22 [bq 0 0,di 3] (bi [G (cr l a4 s4)] []) (db O) (bi [G (cr l a5 s5)] [])/\Q [G (cr l a5 s5)]/\bt (ab [ae [],vi f,vi t,ai (U vi nd),ai (U vi gv),ai [],vi 0,vi 0,vi 0,ai [],ai [],ai [],ai [],vi 0])=AZ (j5 f t nd gv []))=_) ?_
  exact⟨hkk,n4,g4,b2,rfl,rfl⟩
 |true=>
  obtain⟨mv,a6,s6,m1,m2,m3,m4⟩:=Abp l hl m (I m.ay) hpl f t nd gv _ 0 a5 s5 [] rfl (I3 _) b1 rfl (by simp)
  refine⟨f,t,nd,gv,mv,a6,s6,f1,t1,⟨n2,n3⟩,⟨g2,g3⟩,.inr ⟨m2,m3⟩,m1,hgo _ _ _ ?_⟩
  refine Cb (ks:=[KI.code (sub Dd [1,1,1])]) (T:=[]) mixed (CV 1) 1 (fun _ _ h=>h.2) 168 [3] 2 0 (.t<|.c1 (cr l a3 s3) (cy nd)<|.c1 (cr l a4 s4) (cy gv)<|.c1 (cr l a5 s5) (db J)<|.k<|.h (.q 7 0)<|.h (.cl 2 5 1 1)<|.lo [ke 0,ke 3,ke 4,ke 5,ch 6 (di (I m.ay)),ch 7 (di (0:Nat))] (oo l a5 s5 f t nd gv [])) ?_
  refine dq (by kernel_rfl:((m.kind==1)=J/\Aa PP 41 [bq 0 0,di (I (U ae m.ay):Int),di 2] (bi [G (cr l a2 s2)] []) (cy nd) (bi [G (cr l a3 s3)] [])/\Aa PP 41 [bq 0 0,di (I (U ae m.ay):Int),di 2] (bi [G (cr l a3 s3)] []) (cy gv) (bi [G (cr l a4 s4)] [])/\Aa PP 22 [bq 0 0,di 3] (bi [G (cr l a4 s4)] []) (db J) (bi [G (cr l a5 s5)] [])/\di (I (U ae m.ay):Int)=di (I m.ay:Int)/\di 0=di (↑0:Int)/\cp 3 [1] [G (cr l a5 s5),G gu,G [bt (ae []),di f,di t,cy nd,cy gv,br 1 [],di 0,di 0,di 0,dn,dn,dn,dn,di 0]]=J/\Q [G (cr l a5 s5),G gu,G [bt (ae []),di f,di t,cy nd,cy gv,br 1 nV,di 0,di 0,di 0,dn,dn,dn,dn,di 0]]/\Q [(1,1,nV)]/\I0 We 1 (AZ (j5 f t nd gv mv)) (dk l a6 s6) [kl Dd [1,1,1,0,1,0,1,0,1,1,0,1,0,0],bh 1,bh 0,kc Dd [1,1,1,1]] (b9 168 [(0,bq 0 0),(3,bt (bz (AE m))),(4,bq 1 0),(5,bq 2 0),(6,di (I m.ay:Int)),(7,di (↑0:Int))]) (oo l a5 s5 f t nd gv []))=_) ?_
  exact⟨hkk,n4,g4,b2,by rw[HP],rfl,rfl,rfl,rfl,⟨m4⟩⟩
theorem AhA(l:List Int)(hl:I l<=400)(m:ba)(hk:m.kind=2∨m.kind=3)(hst:1<=I m.aw/\m.aw.length<=100)(hpl:1<=I m.ay/\m.ay.length<=100)(hle:1<=I m.ax/\m.ax.length<=100)(a:Nat)(s:Int)(ha:a<=I l):∃(f t ac chn le:Int) (a':Nat) (s':Int),(0<=f/\f<I m.aw)/\(0<=t/\t<I m.aw)/\(ac=0/\chn=0/\le=0∨(1<=ac/\ac<=2)/\(0<=chn/\chn<I m.ay)/\(0<=le/\le<I m.ax))/\a'<=I l/\Aa PP 23 [.ptr 0 0,Ax m] (dk l a s) (AZ (ii [] f t chn ac le)) (dk l a' s'):=by
 obtain⟨f,t,a2,s2,f1,t1,t2,hgo⟩:=S8 l hl m hst a s ha
 obtain⟨ac,a3,s3,c1,c2,c3⟩:=AY l hl a2 t2 s2 3 (by decide) (by decide)
 have h1:(m.kind==1)=O:=I7.2 (by omega)
 by_cases h0:ac=0
 ·subst h0
  refine⟨f,t,0,0,0,a3,s3,f1,t1,.inl ⟨rfl,rfl,rfl⟩,c2,hgo _ _ _ ?_⟩
  rcases hk with hk|hk
  ·refine Cb (ks:=[KI.code (sub Dd [1,1,1])]) (T:=[]) mixed (CV 1) 1 (fun _ _ h=>h.2) 168 [3] 2 0 (.f<|.t<|.t<|.c1 (cr l a3 s3) (di 0)<|.k<|.r) ?_
   refine dq (by kernel_rfl:((m.kind==1)=O/\(m.kind==2)=J/\Q true/\Aa PP 19 [bq 0 0,di 3] (bi [G (cr l a2 s2)] []) (di 0) (bi [G (cr l a3 s3)] [])/\Q [G (cr l a3 s3)]/\bt (ab [ae [],vi f,vi t,ai [],ai [],ai [],vi 0,vi 0,vi 0,ai [],ai [],ai [],ai [],vi 0])=AZ (ii [] f t 0 0 0))=_) ?_
   exact⟨h1,I4.2 hk,rfl,c3,rfl,rfl⟩
  ·refine Cb (ks:=[KI.code (sub Dd [1,1,1])]) (T:=[]) mixed (CV 1) 1 (fun _ _ h=>h.2) 168 [3] 2 0 (.f<|.f<|.t<|.c1 (cr l a3 s3) (di 0)<|.k<|.r) ?_
   refine dq (by kernel_rfl:((m.kind==1)=O/\(m.kind==2)=O/\(m.kind==3)=J/\Aa PP 19 [bq 0 0,di 3] (bi [G (cr l a2 s2)] []) (di 0) (bi [G (cr l a3 s3)] [])/\Q [G (cr l a3 s3)]/\bt (ab [ae [],vi f,vi t,ai [],ai [],ai [],vi 0,vi 0,vi 0,ai [],ai [],ai [],ai [],vi 0])=AZ (ii [] f t 0 0 0))=_) ?_
   exact⟨h1,I7.2 (by omega),I4.2 hk,c3,rfl,rfl⟩
 ·obtain⟨chn,a4,s4,d1,d2,d3⟩:=AY l hl a3 c2 s3 (I m.ay) (by omega) (by omega)
  obtain⟨le,a5,s5,e1,e2,e3⟩:=AY l hl a4 d2 s4 (I m.ax) (by omega) (by omega)
  refine⟨f,t,ac,chn,le,a5,s5,f1,t1,.inr ⟨by omega,d1,e1⟩,e2,hgo _ _ _ ?_⟩
  rcases hk with hk|hk
  ·refine Cb (ks:=[KI.code (sub Dd [1,1,1])]) (T:=[]) mixed (CV 1) 1 (fun _ _ h=>h.2) 168 [3] 2 0 (.f<|.t<|.t<|.c1 (cr l a3 s3) (di ac)<|.t<|.c1 (cr l a4 s4) (di chn)<|.c1 (cr l a5 s5) (di le)<|.r) ?_
   refine dq (by kernel_rfl:((m.kind==1)=O/\(m.kind==2)=J/\Q true/\Aa PP 19 [bq 0 0,di 3] (bi [G (cr l a2 s2)] []) (di ac) (bi [G (cr l a3 s3)] [])/\(ac !=0)=J/\Aa PP 19 [bq 0 0,di (I (U ae m.ay):Int)] (bi [G (cr l a3 s3)] []) (di chn) (bi [G (cr l a4 s4)] [])/\Aa PP 19 [bq 0 0,di (I (U ae m.ax):Int)] (bi [G (cr l a4 s4)] []) (di le) (bi [G (cr l a5 s5)] [])/\Q [G (cr l a5 s5)]/\bt (ab [ae [],vi f,vi t,ai [],ai [],ai [],vi chn,vi ac,vi le,ai [],ai [],ai [],ai [],vi 0])=AZ (ii [] f t chn ac le))=_) ?_
   rw[HP,HP]
   exact⟨h1,I4.2 hk,rfl,c3,bne_iff_ne.2 h0,d3,e3,rfl,rfl⟩
  ·refine Cb (ks:=[KI.code (sub Dd [1,1,1])]) (T:=[]) mixed (CV 1) 1 (fun _ _ h=>h.2) 168 [3] 2 0 (.f<|.f<|.t<|.c1 (cr l a3 s3) (di ac)<|.t<|.c1 (cr l a4 s4) (di chn)<|.c1 (cr l a5 s5) (di le)<|.r) ?_
   refine dq (by kernel_rfl:((m.kind==1)=O/\(m.kind==2)=O/\(m.kind==3)=J/\Aa PP 19 [bq 0 0,di 3] (bi [G (cr l a2 s2)] []) (di ac) (bi [G (cr l a3 s3)] [])/\(ac !=0)=J/\Aa PP 19 [bq 0 0,di (I (U ae m.ay):Int)] (bi [G (cr l a3 s3)] []) (di chn) (bi [G (cr l a4 s4)] [])/\Aa PP 19 [bq 0 0,di (I (U ae m.ax):Int)] (bi [G (cr l a4 s4)] []) (di le) (bi [G (cr l a5 s5)] [])/\Q [G (cr l a5 s5)]/\bt (ab [ae [],vi f,vi t,ai [],ai [],ai [],vi chn,vi ac,vi le,ai [],ai [],ai [],ai [],vi 0])=AZ (ii [] f t chn ac le))=_) ?_
   rw[HP,HP]
   exact⟨h1,I7.2 (by omega),I4.2 hk,c3,bne_iff_ne.2 h0,d3,e3,rfl,rfl⟩
theorem Ah9(l:List Int)(hl:I l<=400)(m:ba)(hk:m.kind=4)(hst:1<=I m.aw/\m.aw.length<=100)(hle:1<=I m.ax/\m.ax.length<=100)(hlv:1<=m.ao/\m.ao<=2)(a:Nat)(s:Int)(ha:a<=I l):∃(f t:Int) (p q:List Int) (a':Nat) (s':Int),(0<=f/\f<I m.aw)/\(0<=t/\t<I m.aw)/\((I p:Int)<=m.ao/\∀x∈p,0<=x/\x<I m.ax)/\((I q:Int)<=m.ao/\∀x∈q,0<=x/\x<I m.ax)/\0<I p+I q/\a'<=I l/\Aa PP 23 [.ptr 0 0,Ax m] (dk l a s) (AZ (fw [] f t p q)) (dk l a' s'):=by
 obtain⟨f,t,a2,s2,f1,t1,t2,hgo⟩:=S8 l hl m hst a s ha
 obtain⟨p,a3,s3,p1,p2,p3,p4⟩:=QX l hl a2 t2 s2 (I m.ax) m.ao (by omega) (by omega)
 obtain⟨q,a4,s4,q1,q2,q3,q4⟩:=QX l hl a3 p1 s3 (I m.ax) m.ao (by omega) (by omega)
 by_cases h0:I p+I q=0
 ·refine⟨f,t,p,[0],a4,s4,f1,t1,⟨p2,p3⟩,⟨by simp;omega,by simp;omega⟩,by simp,q1,hgo _ _ _ ?_⟩
  refine Cb (ks:=[KI.code (sub Dd [1,1,1])]) (T:=[]) mixed (CV 1) 1 (fun _ _ h=>h.2) 168 [3] 2 0 (.f<|.f<|.f<|.t<|.c1 (cr l a3 s3) (cy p)<|.c1 (cr l a4 s4) (cy q)<|.t<|.r) ?_
  refine dq (by kernel_rfl:((m.kind==1)=O/\(m.kind==2)=O/\(m.kind==3)=O/\(m.kind==4)=J/\Aa PP 42 [bq 0 0,di (I (U ae m.ax):Int),di m.ao] (bi [G (cr l a2 s2)] []) (cy p) (bi [G (cr l a3 s3)] [])/\Aa PP 42 [bq 0 0,di (I (U ae m.ax):Int),di m.ao] (bi [G (cr l a3 s3)] []) (cy q) (bi [G (cr l a4 s4)] [])/\(yr yq ((I (U vi p):Int)+(I (U vi q):Int))==0)=J/\Q [G (cr l a4 s4)]/\bt (ab [ae [],vi f,vi t,ai [],ai [],ai [],vi 0,vi 0,vi 0,ai (U vi p),ai [vi 0],ai [],ai [],vi 0])=AZ (fw [] f t p [0]))=_) ?_
  rw[HP,HP,HP,A2]
  exact⟨I7.2 (by omega),I7.2 (by omega),I7.2 (by omega),I4.2 hk,p4,q4,I4.2 (by omega),rfl,rfl⟩
 ·refine⟨f,t,p,q,a4,s4,f1,t1,⟨p2,p3⟩,⟨q2,q3⟩,by omega,q1,hgo _ _ _ ?_⟩
  refine Cb (ks:=[KI.code (sub Dd [1,1,1])]) (T:=[]) mixed (CV 1) 1 (fun _ _ h=>h.2) 168 [3] 2 0 (.f<|.f<|.f<|.t<|.c1 (cr l a3 s3) (cy p)<|.c1 (cr l a4 s4) (cy q)<|.f<|.r) ?_
  refine dq (by kernel_rfl:((m.kind==1)=O/\(m.kind==2)=O/\(m.kind==3)=O/\(m.kind==4)=J/\Aa PP 42 [bq 0 0,di (I (U ae m.ax):Int),di m.ao] (bi [G (cr l a2 s2)] []) (cy p) (bi [G (cr l a3 s3)] [])/\Aa PP 42 [bq 0 0,di (I (U ae m.ax):Int),di m.ao] (bi [G (cr l a3 s3)] []) (cy q) (bi [G (cr l a4 s4)] [])/\(yr yq ((I (U vi p):Int)+(I (U vi q):Int))==0)=O/\Q [G (cr l a4 s4)]/\bt (ab [ae [],vi f,vi t,ai [],ai [],ai [],vi 0,vi 0,vi 0,ai (U vi p),ai (U vi q),ai [],ai [],vi 0])=AZ (fw [] f t p q))=_) ?_
  rw[HP,HP,HP,A2]
  exact⟨I7.2 (by omega),I7.2 (by omega),I7.2 (by omega),I4.2 hk,p4,q4,I7.2 (by omega),rfl,rfl⟩
abbrev ki(l:List Int)(a:Nat)(s:Int)(f t:Int)(tk:List Tk):St:=⟨[G (cr l a s),G gu,G [.v (.str []),di f,di t,.v .nils,.v .nils,.v .nils,di 0,di 0,di 0,.v .nils,.v .nils,.acc 1 (tk.map ce),.v .nils,di 0]],[(1,3,tk.map ce)]⟩
def r9(m:ba)(t:Tk):Prop:=(0<=t.place/\t.place<I m.ay)/\(0<=t.low/\t.low<=t.high/\t.high<=m.age+1)
theorem Afk(l:List Int)(hl:I l<=400)(m:ba)(hpl:1<=I m.ay/\m.ay.length<=100)(f t:Int)(tk:List Tk)(a:Nat)(s:Int)(ha:a<=I l):∃(mk:List Int) (a':Nat) (s':Int),a'<=I l/\mk.length<=1/\(∀x∈mk,0<=x/\x<I m.ay)/\
  Rn PP We 1 (AZ (d9 [] f t tk mk)) (dk l a' s') ([kl Dd [1,1,1,0,1,0,1,1,1,1,1,1,1,0,1,1,0,0,0],.blk 3,kc Dd [1,1,1,0,1,0,1,1,1,1,1,1,1,0,1,1,1],.blk 0,kc Dd [1,1,1,1]]++[]) (b9 168 [(0,.ptr 0 0),(3,.v (.ref (AE m))),(4,.ptr 1 0),(5,.ptr 2 0),(6,di (I m.ay)),(8,di (0:Nat))]) (ki l a s f t tk):=by
 obtain⟨b,a1,s1,b1,b2⟩:=SX l hl a ha s 2 (by decide) (by decide)
 cases b with
 |false=>
  refine⟨[],a1,s1,b1,by simp,by simp,?_⟩
  exact lv 168 [3] (.f<|.c1 (cr l a1 s1) (db O)<|.k<|.r) (Y ((↑0:Int)>0)=O/\_/\Q [G (cr l a1 s1)]/\bt (ab [ae [],vi f,vi t,ai [],ai [],ai [],vi 0,vi 0,vi 0,ai [],ai [],ai (U ce tk),ai [],vi 0])=AZ (d9 [] f t tk [])) ⟨by decide,b2,rfl,rfl⟩
 |true=>
  obtain⟨x,a2,s2,x1,x2,x3⟩:=AY l hl a1 b1 s1 (I m.ay) (by omega) (by omega)
  refine⟨[x],a2,s2,x2,by simp,by simpa using x1,?_⟩
  exact lv 168 [3] (.f<|.c1 (cr l a1 s1) (db J)<|.k<|.c1 (cr l a2 s2) (di x)<|.r) (Y ((↑0:Int)>0)=O/\_/\_/\Q [G (cr l a2 s2)]/\bt (ab [ae [],vi f,vi t,ai [],ai [],ai [],vi 0,vi 0,vi 0,ai [],ai [],ai (U ce tk),ai [vi x],vi 0])=AZ (d9 [] f t tk [x])) ⟨by decide,b2,x3,rfl,rfl⟩
theorem S9(l:List Int)(hl:I l<=400)(m:ba)(hpl:1<=I m.ay/\m.ay.length<=100)(hag:0<=m.age/\m.age<=50)(f t:Int)(n:Nat):∀(tk:List Tk) (a:Nat) (s:Int),I tk+n<=2->(∀x∈tk,r9 m x)->a<=I l->∃(tk':List Tk) (mk:List Int) (a':Nat) (s':Int),a'<=I l/\tk'.length<=2/\(∀x∈tk',r9 m x)/\mk.length<=1/\(∀x∈mk,0<=x/\x<I m.ay)/\
  Rn PP We 1 (AZ (d9 [] f t tk' mk)) (dk l a' s') ([kl Dd [1,1,1,0,1,0,1,1,1,1,1,1,1,0,1,1,0,0,0],.blk 3,kc Dd [1,1,1,0,1,0,1,1,1,1,1,1,1,0,1,1,1],.blk 0,kc Dd [1,1,1,1]]++[]) (b9 168 [(0,.ptr 0 0),(3,.v (.ref (AE m))),(4,.ptr 1 0),(5,.ptr 2 0),(6,di (I m.ay)),(8,di (n:Nat))]) (ki l a s f t tk):=by
 induction n with
 |zero=>
  intro tk a s hn ht ha
  obtain⟨mk,a',s',h1,h2,h3,h4⟩:=Afk l hl m hpl f t tk a s ha
  exact⟨tk,mk,a',s',h1,by omega,ht,h2,h3,h4⟩
 |succ n ih=>
  intro tk a s hn ht ha
  obtain⟨lo,a1,s1,l1,l2,l3⟩:=AY l hl a ha s (m.age+2) (by omega) (by omega)
  obtain⟨p,a2,s2,p1,p2,p3⟩:=AY l hl a1 l2 s1 (I m.ay) (by omega) (by omega)
  obtain⟨hi,a3,s3,h1,h2,h3⟩:=AY l hl a2 p2 s2 (m.age+2-lo) (by omega) (by omega)
  obtain⟨tk',mk,a',s',r1,r2,r3,r4,r5,r6⟩:=ih (tk++[⟨p,lo,lo+hi⟩]) a3 s3 (by rw[Ig,List.length_singleton];omega) (fun x hx=>by
   rcases IE.1 hx with hx|hx
   ·exact ht x hx
   ·rw[Ii.1 hx];exact⟨p1,by show 0<=lo/\lo<=lo+hi/\lo+hi<=m.age+1;omega⟩) h2
  refine⟨tk',mk,a',s',r1,r2,r3,r4,r5,?_⟩
  refine lv 168 [3] (.t<|.c1 (cr l a1 s1) (di lo)<|.c1 (cr l a2 s2) (di p)<|.c1 (cr l a3 s3) (di hi)<|.lo [ke 0,ke 3,ke 4,ke 5,ke 6,ch 8 (di (n:Nat))] (ki l a3 s3 f t (tk++[⟨p,lo,lo+hi⟩]))) (Y ((↑(n+1):Int)>0)=J/\Aa PP 19 [bq 0 0,di (yr yq (m.age+2))] (bi [G (cr l a s)] []) (di lo) (bi [G (cr l a1 s1)] [])/\Aa PP 19 [bq 0 0,di (I m.ay:Int)] (bi [G (cr l a1 s1)] []) (di p) (bi [G (cr l a2 s2)] [])/\Aa PP 19 [bq 0 0,di (yr yq (yr yq (m.age+2)-lo))] (bi [G (cr l a2 s2)] []) (di hi) (bi [G (cr l a3 s3)] [])/\Q (U ce tk)/\A9 (I (U ce tk)+I (ab (aa yq p::aa yq lo::aa yq (yr yq (lo+hi))::nV)::nV)) 24/\((Q (G [br 1 (U ce tk)])/\Q (G [br 1 (U ce tk)])/\True)/\True)/\di (yr yq ((↑(n+1):Int)-1))=di (n:Int)/\cp 3 [1] [G (cr l a3 s3),G gu,G [bt (ae []),di f,di t,dn,dn,dn,di 0,di 0,di 0,dn,dn,br 1 (U ce tk++[ab [vi p,vi lo,vi (yr yq (lo+hi))]]),dn,di 0]]=J/\[G (cr l a3 s3),G gu,G [bt (ae []),di f,di t,dn,dn,dn,di 0,di 0,di 0,dn,dn,br 1 (U ce tk++ab (vi p::vi lo::vi (yr yq (lo+hi))::nV)::nV),dn,di 0]]=[G (cr l a3 s3),G gu,G [bt (ae []),di f,di t,dn,dn,dn,di 0,di 0,di 0,dn,dn,br 1 (U ce (tk++[Tk.mk p lo (lo+hi)])),dn,di 0]]/\[(1,3,U ce tk++ab (vi p::vi lo::vi (yr yq (lo+hi))::nV)::nV)]=[(1,3,U ce (tk++[Tk.mk p lo (lo+hi)]))]/\I0 We 1 (AZ (d9 [] f t tk' mk)) (dk l a' s') [kl Dd [1,1,1,0,1,0,1,1,1,1,1,1,1,0,1,1,0,0,0],bh 3,kc Dd [1,1,1,0,1,0,1,1,1,1,1,1,1,0,1,1,1],bh 0,kc Dd [1,1,1,1]] (b9 168 [(0,bq 0 0),(3,bt (bz (AE m))),(4,bq 1 0),(5,bq 2 0),(6,di (I m.ay:Int)),(8,di (n:Int))]) (ki l a3 s3 f t (tk++[Tk.mk p lo (lo+hi)]))) ?_
  have e1:yq.wrap (m.age+2)=m.age+2:=A2
  have e2:yq.wrap (m.age+2-lo)=m.age+2-lo:=A2
  have e3:yq.wrap (lo+hi)=lo+hi:=A2
  rw[e1,e2,e3]
  exact⟨yp,l3,p3,h3,rfl,⟨by simp only[HP,HV,HZ];omega,by simp only[HP,HV,HZ];omega⟩,⟨⟨rfl,rfl,trivial⟩,trivial⟩,by rw[A2];congr 2;omega,rfl,by simp,by simp,⟨r6⟩⟩
theorem Ah8(l:List Int)(hl:I l<=400)(m:ba)(hk:m.kind=5)(hst:1<=I m.aw/\m.aw.length<=100)(hpl:1<=I m.ay/\m.ay.length<=100)(hag:0<=m.age/\m.age<=50)(a:Nat)(s:Int)(ha:a<=I l):∃(f t:Int) (tk:List Tk) (mk:List Int) (a':Nat) (s':Int),(0<=f/\f<I m.aw)/\(0<=t/\t<I m.aw)/\tk.length<=2/\(∀x∈tk,r9 m x)/\mk.length<=1/\(∀x∈mk,0<=x/\x<I m.ay)/\a'<=I l/\Aa PP 23 [.ptr 0 0,Ax m] (dk l a s) (AZ (d9 [] f t tk mk)) (dk l a' s'):=by
 obtain⟨f,t,a2,s2,f1,t1,t2,hgo⟩:=S8 l hl m hst a s ha
 obtain⟨u,a3,s3,u1,u2,u3⟩:=AY l hl a2 t2 s2 2 (by decide) (by decide)
 obtain⟨b,a4,s4,b1,b2⟩:=SX l hl a3 u2 s3 8 (by decide) (by decide)
 cases b with
 |false=>
  obtain⟨n,rfl⟩:∃n:Nat,u=n:=⟨u.toNat,by omega⟩
  obtain⟨tk,mk,a',s',r1,r2,r3,r4,r5,r6⟩:=S9 l hl m hpl hag f t n [] a4 s4 (by simp;omega) (by simp) b1
  refine⟨f,t,tk,mk,a',s',f1,t1,r2,r3,r4,r5,r1,hgo _ _ _ ?_⟩
  refine Cb (ks:=[KI.code (sub Dd [1,1,1])]) (T:=[]) mixed (CV 1) 1 (fun _ _ h=>h.2) 168 [3] 2 0 (.f<|.f<|.f<|.f<|.t<|.c1 (cr l a3 s3) (di n)<|.h (.q 22 0)<|.h (.cl 2 11 1 3)<|.c1 (cr l a4 s4) (db O)<|.k<|.lo [ke 0,ke 3,ke 4,ke 5,ch 6 (di (I m.ay)),ch 8 (di (n:Nat))] (ki l a4 s4 f t [])) ?_
  refine dq (by kernel_rfl:((m.kind==1)=O/\(m.kind==2)=O/\(m.kind==3)=O/\(m.kind==4)=O/\(m.kind==5)=J/\Aa PP 19 [bq 0 0,di 2] (bi [G (cr l a2 s2)] []) (di (n:Int)) (bi [G (cr l a3 s3)] [])/\Aa PP 22 [bq 0 0,di 8] (bi [G (cr l a3 s3)] []) (db O) (bi [G (cr l a4 s4)] [])/\di (I (U ae m.ay):Int)=di (I m.ay:Int)/\Q (di (n:Int))/\cp 3 [1] [G (cr l a4 s4),G gu,G [bt (ae []),di f,di t,dn,dn,dn,di 0,di 0,di 0,dn,dn,br 1 [],dn,di 0]]=J/\Q [G (cr l a4 s4),G gu,G [bt (ae []),di f,di t,dn,dn,dn,di 0,di 0,di 0,dn,dn,br 1 nV,dn,di 0]]/\Q [(1,3,nV)]/\I0 We 1 (AZ (d9 [] f t tk mk)) (dk l a' s') [kl Dd [1,1,1,0,1,0,1,1,1,1,1,1,1,0,1,1,0,0,0],bh 3,kc Dd [1,1,1,0,1,0,1,1,1,1,1,1,1,0,1,1,1],bh 0,kc Dd [1,1,1,1]] (b9 168 [(0,bq 0 0),(3,bt (bz (AE m))),(4,bq 1 0),(5,bq 2 0),(6,di (I m.ay:Int)),(8,di (n:Int))]) (ki l a4 s4 f t []))=_) ?_
  exact⟨I7.2 (by omega),I7.2 (by omega),I7.2 (by omega),I7.2 (by omega),I4.2 hk,u3,b2,by rw[HP],rfl,rfl,rfl,rfl,⟨r6⟩⟩
 |true=>
  obtain⟨tk,mk,a',s',r1,r2,r3,r4,r5,r6⟩:=S9 l hl m hpl hag f t 2 [] a4 s4 (by simp) (by simp) b1
  refine⟨f,t,tk,mk,a',s',f1,t1,r2,r3,r4,r5,r1,hgo _ _ _ ?_⟩
  refine Cb (ks:=[KI.code (sub Dd [1,1,1])]) (T:=[]) mixed (CV 1) 1 (fun _ _ h=>h.2) 168 [3] 2 0 (.f<|.f<|.f<|.f<|.t<|.c1 (cr l a3 s3) (di u)<|.h (.q 22 0)<|.h (.cl 2 11 1 3)<|.c1 (cr l a4 s4) (db J)<|.k<|.lo [ke 0,ke 3,ke 4,ke 5,ch 6 (di (I m.ay)),ch 8 (di (2:Nat))] (ki l a4 s4 f t [])) ?_
  refine dq (by kernel_rfl:((m.kind==1)=O/\(m.kind==2)=O/\(m.kind==3)=O/\(m.kind==4)=O/\(m.kind==5)=J/\Aa PP 19 [bq 0 0,di 2] (bi [G (cr l a2 s2)] []) (di u) (bi [G (cr l a3 s3)] [])/\Aa PP 22 [bq 0 0,di 8] (bi [G (cr l a3 s3)] []) (db J) (bi [G (cr l a4 s4)] [])/\di (I (U ae m.ay):Int)=di (I m.ay:Int)/\di 2=di (↑2:Int)/\cp 3 [1] [G (cr l a4 s4),G gu,G [bt (ae []),di f,di t,dn,dn,dn,di 0,di 0,di 0,dn,dn,br 1 [],dn,di 0]]=J/\Q [G (cr l a4 s4),G gu,G [bt (ae []),di f,di t,dn,dn,dn,di 0,di 0,di 0,dn,dn,br 1 nV,dn,di 0]]/\Q [(1,3,nV)]/\I0 We 1 (AZ (d9 [] f t tk mk)) (dk l a' s') [kl Dd [1,1,1,0,1,0,1,1,1,1,1,1,1,0,1,1,0,0,0],bh 3,kc Dd [1,1,1,0,1,0,1,1,1,1,1,1,1,0,1,1,1],bh 0,kc Dd [1,1,1,1]] (b9 168 [(0,bq 0 0),(3,bt (bz (AE m))),(4,bq 1 0),(5,bq 2 0),(6,di (I m.ay:Int)),(8,di (↑2:Int))]) (ki l a4 s4 f t []))=_) ?_
  exact⟨I7.2 (by omega),I7.2 (by omega),I7.2 (by omega),I7.2 (by omega),I4.2 hk,u3,b2,by rw[HP],rfl,rfl,rfl,rfl,⟨r6⟩⟩
noncomputable abbrev Fg:=Tryz.f9
noncomputable def Dg:=yj Fg
abbrev EL(l:List Int)(a:Nat)(s K:Int)(S P L:List (List UInt8))(R:List Int)(lv ag:Int)(rs:List cq):St:=⟨[G (cr l a s),G zM,G [di K,.v (cf S),.v (cf P),.v (cf L),.v (cz R),di lv,di ag,.acc 2 (rs.map AD),di 0,dl []]],[(2,14,rs.map AD)]⟩
abbrev Rq(l:List Int)(a:Nat)(s:Int)(m:ba)(rs:List cq):St:=EL l a s m.kind m.aw m.ay m.ax m.au m.ao m.age rs
abbrev wR(m:ba)(rs:List cq)(c:bd):ba:=⟨m.kind,m.aw,m.ay,m.ax,m.au,m.ao,m.age,rs,c⟩
abbrev ge(r:cq)(nm:List UInt8):cq:=⟨nm,r.aj,r.to,r.am,r.ak,r.move,r.chan,r.act,r.letter,r.path,r.next,r.ar,r.aq,r.second⟩
noncomputable abbrev Vv:List KI:=[kl Dg [1,1,1,1,1,1,1,1,0,1,0,0],.blk 1,kc Dg [1,1,1,1,1,1,1,1,1]]
theorem Ain(l:List Int)(m:ba)(hk:m.kind≠6)(rs:List cq)(a:Nat)(s:Int)(c:bd)(a1:Nat)(s1:Int)(hc:Aa PP 10 [.ptr 0 0,Ax (wR m rs (.mk 0 []))] (dk l a s) (dV c) (dk l a1 s1)):
  Rn PP Fg 1 (Ax (wR m rs c)) (dk l a1 s1) (Vv++[]) (b9 103 [(0,.ptr 0 0),(1,di m.kind),(4,.ptr 1 0),(5,.ptr 2 0),(6,di (0:Nat))]) (Rq l a s m rs):=by
 exact lv 103 [] (.f<|.t<|.c1 (cr l a1 s1) (dV c)<|.r) (Y ((↑0:Int)>0)=O/\(m.kind !=6)=J/\_/\Q [G (cr l a1 s1)]/\bt (ab [vi m.kind,ai (U ae m.aw),ai (U ae m.ay),ai (U ae m.ax),ai (U vi m.au),vi m.ao,vi m.age,ai (U AD rs),vi c.n,ai (U eV c.az)])=Ax (wR m rs c)) ⟨by decide,bne_iff_ne.2 hk,hc,rfl,rfl⟩
theorem AfB(l:List Int)(m:ba)(rs:List cq)(hrl:I rs<=100)(n:Nat)(hn:n+1<=9)(a:Nat)(s:Int)(r:cq)(a1:Nat)(s1:Int)(hr:Aa PP 23 [.ptr 0 0,Ax (wR m rs (.mk 0 []))] (dk l a s) (AZ r) (dk l a1 s1))(d:D)(σ':St)
  (next:Rn PP Fg 1 d σ' (Vv++[]) (b9 103 [(0,.ptr 0 0),(1,di m.kind),(4,.ptr 1 0),(5,.ptr 2 0),(6,di (n:Nat))]) (Rq l a1 s1 m (rs++[ge r (c6 114 (n+1))]))):
  Rn PP Fg 1 d σ' (Vv++[]) (b9 103 [(0,.ptr 0 0),(1,di m.kind),(4,.ptr 1 0),(5,.ptr 2 0),(6,di (n+1:Nat))]) (Rq l a s m rs):=by
 have e:(rs++[ge r (c6 114 (n+1))]).map AD=rs.map AD++[AD (ge r (c6 114 (n+1)))]:=by rw[Jq];rfl
 refine lv 103 [] (.t<|.c1 (cr l a1 s1) (AZ r)<|.h (.q 26 4)<|.h (.p (ds [UInt8.ofNat (48+(n+1))]))<|.lo [ke 0,ke 1,ke 4,ke 5,ch 6 (di (n:Nat))] (Rq l a1 s1 m (rs++[ge r (c6 114 (n+1))]))) (Y ((↑(n+1):Int)>0)=J/\_/\(∀(τ:St),Ay PP (Oper.mk (G 87) (Op.convert 62 9 (Operand.tmp 86)) 9 "make.go:305" #[Edge.mk 3 Ground.data] none) [bt (ai [aa IntKind.u8 (yr IntKind.u8 (yr yq (48+(↑(n+1):Int))))])] τ (bt (ae [UInt8.ofNat (48+(n+1))])) τ)/\2<=9223372036854775807/\Q (U AD rs)/\A9 (I (U AD rs)+I (ab (ae ((bg #[114]).data.toList++[UInt8.ofNat (48+(n+1))])::vi r.aj::vi r.to::cz r.am::cz r.ak::cz r.move::vi r.chan::vi r.act::vi r.letter::cz r.path::cz r.next::AT r.ar::cz r.aq::vi r.second::nV)::nV)) 232/\di (yr yq ((↑(n+1):Int)-1))=di (n:Int)/\cp 3 [2] [G (cr l a1 s1),G zM,G [di m.kind,bt (cf m.aw),bt (cf m.ay),bt (cf m.ax),cy m.au,di m.ao,di m.age,br 2 (U AD rs++[ab [ae ((bg #[114]).data.toList++[UInt8.ofNat (48+(n+1))]),vi r.aj,vi r.to,cz r.am,cz r.ak,cz r.move,vi r.chan,vi r.act,vi r.letter,cz r.path,cz r.next,AT r.ar,cz r.aq,vi r.second]]),di 0,dl []]]=J/\[G (cr l a1 s1),G zM,G [di m.kind,bt (cf m.aw),bt (cf m.ay),bt (cf m.ax),cy m.au,di m.ao,di m.age,br 2 (U AD rs++ab (ae ((bg #[114]).data.toList++[UInt8.ofNat (48+(n+1))])::vi r.aj::vi r.to::cz r.am::cz r.ak::cz r.move::vi r.chan::vi r.act::vi r.letter::cz r.path::cz r.next::AT r.ar::cz r.aq::vi r.second::nV)::nV),di 0,dl nV]]=[G (cr l a1 s1),G zM,G [di m.kind,bt (cf m.aw),bt (cf m.ay),bt (cf m.ax),cy m.au,di m.ao,di m.age,br 2 (U AD (rs++[ge r (c6 114 (n+1))])),di 0,dl nV]]/\[(2,14,U AD rs++ab (ae ((bg #[114]).data.toList++[UInt8.ofNat (48+(n+1))])::vi r.aj::vi r.to::cz r.am::cz r.ak::cz r.move::vi r.chan::vi r.act::vi r.letter::cz r.path::cz r.next::AT r.ar::cz r.aq::vi r.second::nV)::nV)]=[(2,14,U AD (rs++[ge r (c6 114 (n+1))]))]/\_) ⟨yp,hr,fun τ=>?_,by decide,rfl,⟨by simp only[HP,HV,HZ];omega,by simp only[HP,HV,HZ];omega⟩,by rw[A2];congr 2;omega,rfl,by rw[e];rfl,by rw[e];rfl,iK next⟩
 rw[TI (n+1) (by omega)]
 exact MQ (bs:=[UInt8.ofNat (48+(n+1))]) (e0:=5) rfl (by kernel_rfl) (by kernel_rfl) (by kernel_rfl) (by simp)
theorem AfC(l:List Int)(m:ba)(hk:m.kind≠6)(QR:cq->Prop)(hrule:∀(rs:List cq) (a:Nat) (s:Int),a<=I l->∃(r:cq) (a':Nat) (s':Int),(∀nm,QR (ge r nm))/\a'<=I l/\Aa PP 23 [.ptr 0 0,Ax (wR m rs (.mk 0 []))] (dk l a s) (AZ r) (dk l a' s'))
  (QC:bd->Prop) (hcfg:∀(rs:List cq) (a:Nat) (s:Int),a<=I l->∃(c:bd) (a':Nat) (s':Int),QC c/\a'<=I l/\Aa PP 10 [.ptr 0 0,Ax (wR m rs (.mk 0 []))] (dk l a s) (dV c) (dk l a' s')) (n:Nat):∀(rs:List cq) (a:Nat) (s:Int),n<=8->I rs<=50-n->(∀r∈rs,QR r)->a<=I l->
  ∃(rs':List cq) (c:bd) (a':Nat) (s':Int),(∀r∈rs',QR r)/\rs'.map cq.name=rs.map cq.name++(List.range n).reverse.map (fun i=>c6 114 (i+1))/\QC c/\a'<=I l/\
  Rn PP Fg 1 (Ax (wR m rs' c)) (dk l a' s') (Vv++[]) (b9 103 [(0,.ptr 0 0),(1,di m.kind),(4,.ptr 1 0),(5,.ptr 2 0),(6,di (n:Nat))]) (Rq l a s m rs):=by
 induction n with
 |zero=>
  intro rs a s _ _ hrs ha
  obtain⟨c,a',s',h1,h2,h3⟩:=hcfg rs a s ha
  exact⟨rs,c,a',s',hrs,by simp,h1,h2,Ain l m hk rs a s c a' s' h3⟩
 |succ n ih=>
  intro rs a s hn hl hrs ha
  obtain⟨r,a1,s1,h1,h2,h3⟩:=hrule rs a s ha
  obtain⟨rs',c,a',s',r1,r2,r3,r4,r5⟩:=ih (rs++[ge r (c6 114 (n+1))]) a1 s1 (by omega) (by rw[Ig,List.length_singleton];omega) (fun x hx=>by
   rcases IE.1 hx with hx|hx
   ·exact hrs x hx
   ·rw[Ii.1 hx];exact h1 _) h2
  refine⟨rs',c,a',s',r1,?_,r3,r4,AfB l m rs (by omega) n (by omega) a s r a1 s1 h3 _ _ r5⟩
  rw[r2,List.range_succ,List.reverse_append,Jq,IZ];rfl
abbrev AlM(l:List Int)(a:Nat)(s K:Int)(S:List (List UInt8)):St:=⟨[G (cr l a s),G zM,G [di K,.v (cf S),.v .nils,.v .nils,.v .nils,di 0,di 0,.v .nils,di 0,.v .nils]],[]⟩
abbrev Wo(l:List Int)(d:D)(a':Nat)(s':Int)(a:Nat)(s K:Int)(S:List (List UInt8)):Prop:=Cp (CN 1) PP (fun env σ1=>AL PP Fg env σ1 d (dk l a' s')) ([KI.code (sub Dg [1,1,1,0,1]),KI.code (sub Dg [1,1,1,1])]++[]) (De (sub Dg [1,1,1,0,0])) (W 0 (De (sub Dg [1,1,1,0,0])).toList) (b9 103 [(0,.ptr 0 0),(1,di K),(4,.ptr 1 0),(5,.ptr 2 0)]) (AlM l a s K S)
theorem Aim(l:List Int)(hl:I l<=400)(s:Int):∃(K:Int) (ns:Nat) (a2:Nat) (s2:Int),(1<=K/\K<=5)/\(1<=ns/\ns<=3)/\a2<=I l/\∀(d:D) (a':Nat) (s':Int),Wo l d a' s' a2 s2 K ((List.range ns).map (c6 113))->Aa PP 9 [.ptr 0 0,di 0] (dk l 0 s) d (dk l a' s'):=by
 obtain⟨k,a1,s1,k1,k2,k3⟩:=AY l hl 0 (I3 _) s 5 (by decide) (by decide)
 obtain⟨r,a2,s2,r1,r2,r3⟩:=AY l hl a1 k2 s1 3 (by decide) (by decide)
 obtain⟨n,rfl⟩:∃n:Nat,r=n:=⟨r.toNat,by omega⟩
 refine⟨1+k,n+1,a2,s2,by omega,by omega,r2,fun d a' s' h=>?_⟩
 have hn:=EB 113 (n+1) (by omega)
 generalize (List.range (n+1)).map (c6 113)=S at h hn
 refine sv Fg 103 [] (.t<|.c1 (cr l a1 s1) (di k)<|.c1 (cr l a2 s2) (di n)<|.c (.v (cf S))<|.h .rn<|.h (.q 4 0)<|.h (.s [ke 0,ch 1 (di (1+k)),ke 4,ke 5]) .z) ((0==0)=J/\Aa PP 19 [bq 0 0,di 5] (bi [G (cr l 0 s)] []) (di k) (bi [G (cr l a1 s1)] [])/\Aa PP 19 [bq 0 0,di 3] (bi [G (cr l a1 s1)] []) (di (n:Int)) (bi [G (cr l a2 s2)] [])/\F0 20 [bt (ae (bg #[113]).data.toList),di (yr yq (1+(n:Int)))] (bt (cf S))/\di (yr yq (1+k))=di (1+k)/\Nv.It (Cp (CN (I (dk l 0 s).H)) PP (fun env σ1=>AL PP Fg env σ1 d (dk l a' s')) [kc Dg [1,1,1,0,1],kc Dg [1,1,1,1]] (De (sub Dg [1,1,1,0,0])) (W 0 (De (sub Dg [1,1,1,0,0])).toList) (b9 103 [(0,bq 0 0),(1,di (1+k)),(4,bq 1 0),(5,bq 2 0)]) (bi [G (cr l a2 s2),G zMl,G [di (yr yq (1+k)),bt (cf S),dn,dn,dn,di 0,di 0,dn,di 0,dn]] []))) ?_
 have e1:yq.wrap (1+k)=1+k:=A2
 have e2:yq.wrap (1+(n:Int))=((n+1:Nat):Int):=by rw[A2];omega
 rw[e1,e2]
 exact⟨rfl,k3,r3,hn,rfl,⟨h⟩⟩
theorem Nn{D0:List D}{K:Int}{S:List (List UInt8)}{P L:V}{P' L':List (List UInt8)}{R:V}{R':List Int}{lv ag:Int}(hP:P=cf P'∨P=.nils/\P'=[])(hL:L=cf L'∨L=.nils/\L'=[])(hR:R=cz R'∨R=.nils/\R'=[])(e:List D):
  Cv e ⟨[G D0,G zM,G [di K,.v (cf S),.v P,.v L,.v R,di lv,di ag,.acc 2 [],di 0,.v .nils]],[(2,14,[])]⟩ e ⟨[G D0,G zM,G [di K,.v (cf S),.v (cf P'),.v (cf L'),.v (cz R'),di lv,di ag,.acc 2 [],di 0,dl []]],[(2,14,[])]⟩:=by
 refine G1 (σ:=⟨[G D0,G zM,G [di K,.v (cf S),.v P,.v L,.v R,di lv,di ag,.acc 2 [],di 0,.v .nils]],[(2,14,[])]⟩) (q:=2) rfl (fun g us hr=>?_) (fun _ x hx=>?_) e
 ·have:=KV (ts:=[2]) (kn:=false) hr
  rcases hP with rfl|⟨rfl,rfl⟩<;>rcases hL with rfl|⟨rfl,rfl⟩<;>rcases hR with rfl|⟨rfl,rfl⟩<;>exact this
 ·simp only[I8,List.not_mem_nil,or_false] at hx
  rcases hx with rfl|rfl|rfl|rfl|rfl|rfl|rfl|rfl|rfl|rfl<;>rfl
theorem mo1(l:List Int)(m:ba)(K:Int)(S:List (List UInt8))(P:List (List UInt8))(p:Nat)(a2:Nat)(s2:Int)(hp:p<=10)(a a9:Nat)(s s9:Int)(n:Nat)(d:D)(a':Nat)(s':Int)(hk:K=1)(hm:m=⟨K,S,P,[],[],0,0,[],(.mk 0 [])⟩)
  (h1:Aa PP 19 [.ptr 0 0,di 3] (dk l a s) (di p) (dk l a2 s2)) (h2:F0 20 [ds [112],di (p+1:Nat)] (.v (cf P))) (h9:Aa PP 19 [.ptr 0 0,di 5] (dk l a2 s2) (di n) (dk l a9 s9))
  (next:Rn PP Fg 1 d (dk l a' s') (Vv++[]) (b9 103 [(0,.ptr 0 0),(1,di m.kind),(4,.ptr 1 0),(5,.ptr 2 0),(6,di (n:Nat))]) (Rq l a9 s9 m [])):Wo l d a' s' a s K S:=by
 have w1:∀n:Nat,n<=10->yq.wrap (1+(n:Int))=((n+1:Nat):Int):=fun n hn=>by rw[A2];omega
 subst hm
 refine Cb (ks:=[KI.code (sub Dg [1,1,1,0,1]),KI.code (sub Dg [1,1,1,1])]) (T:=[]) mixed (CV 1) 1 (fun _ _ h=>h.2) 103 [] 4 0 (.f<|.f<|.t<|.k<|.c1 (cr l a2 s2) (di p)<|.c (.v (cf P))<|.f<|.f<|.f<|.f<|.f<|.f<|.h (.q 22 0)<|.h (.cl 2 7 2 14)<|.h (.cs (EL l a2 s2 K S P [] [] 0 0 []))<|.c1 (cr l a9 s9) (di n)<|.lo [ke 0,ke 1,ke 4,ke 5,ch 6 (di (n:Nat))] (EL l a9 s9 K S P [] [] 0 0 [])) ?_
 refine dq (by kernel_rfl:((K==2)=O/\(K==3)=O/\(K==1)=J/\Aa PP 19 [bq 0 0,di 3] (bi [G (cr l a s)] []) (di (p:Int)) (bi [G (cr l a2 s2)] [])/\F0 20 [bt (ae (bg #[112]).data.toList),di (yr yq (1+(p:Int)))] (bt (cf P))/\(K==2)=O/\(K==3)=O/\(K==4)=O/\(K==3)=O/\(K==4)=O/\(K==5)=O/\(∀(e:List D) (E:co) (g:Gh) (a:Act) (w:yy),FI E g (bi [G (cr l a2 s2),G zM,G [di K,bt (cf S),bt (cf P),dn,dn,di 0,di 0,br 2 [],di 0,dn]] [(2,14,[])]) e a w->∃g',FI E g' (EL l a2 s2 K S P [] [] 0 0 []) e a w)/\Aa PP 19 [bq 0 0,di 5] (bi [G (cr l a2 s2)] []) (di (n:Int)) (bi [G (cr l a9 s9)] [])/\Q (di (n:Int))/\cp 3 [2] [G (cr l a9 s9),G zM,G [di K,bt (cf S),bt (cf P),bt (cf []),bt (cz []),di 0,di 0,br 2 [],di 0,dl []]]=J/\Q [G (cr l a9 s9),G zM,G [di K,bt (cf S),bt (cf P),bt (cf []),bt (cz []),di 0,di 0,br 2 nV,di 0,dl nV]]/\Q [(2,14,nV)]/\I0 Fg 1 d (dk l a' s') [kl Dg [1,1,1,1,1,1,1,1,0,1,0,0],bh 1,kc Dg [1,1,1,1,1,1,1,1,1]] (b9 103 [(0,bq 0 0),(1,di K),(4,bq 1 0),(5,bq 2 0),(6,di (n:Int))]) (EL l a9 s9 K S P [] [] 0 0 []))=_) ?_
 rw[w1 p hp]
 exact⟨I7.2 (by omega),I7.2 (by omega),I4.2 hk,h1,h2,I7.2 (by omega),I7.2 (by omega),I7.2 (by omega),I7.2 (by omega),I7.2 (by omega),I7.2 (by omega),fun e=>Nn (.inl rfl) (.inr ⟨rfl,rfl⟩) (.inr ⟨rfl,rfl⟩) e,h9,rfl,rfl,rfl,rfl,⟨next⟩⟩
theorem mo2(l:List Int)(m:ba)(K:Int)(S:List (List UInt8))(P L:List (List UInt8))(p q:Nat)(a2 a3:Nat)(s2 s3:Int)(hp:p<=10)(hq:q<=10)(a a9:Nat)(s s9:Int)(n:Nat)(d:D)(a':Nat)(s':Int)(hk:K=2)(hm:m=⟨K,S,P,L,[],0,0,[],(.mk 0 [])⟩)
  (h1:Aa PP 19 [.ptr 0 0,di 2] (dk l a s) (di p) (dk l a2 s2)) (h2:F0 20 [ds [99],di (p+1:Nat)] (.v (cf P))) (h3:Aa PP 19 [.ptr 0 0,di 3] (dk l a2 s2) (di q) (dk l a3 s3)) (h4:F0 20 [ds [108],di (q+1:Nat)] (.v (cf L))) (h9:Aa PP 19 [.ptr 0 0,di 5] (dk l a3 s3) (di n) (dk l a9 s9))
  (next:Rn PP Fg 1 d (dk l a' s') (Vv++[]) (b9 103 [(0,.ptr 0 0),(1,di m.kind),(4,.ptr 1 0),(5,.ptr 2 0),(6,di (n:Nat))]) (Rq l a9 s9 m [])):Wo l d a' s' a s K S:=by
 have w1:∀n:Nat,n<=10->yq.wrap (1+(n:Int))=((n+1:Nat):Int):=fun n hn=>by rw[A2];omega
 subst hm
 refine Cb (ks:=[KI.code (sub Dg [1,1,1,0,1]),KI.code (sub Dg [1,1,1,1])]) (T:=[]) mixed (CV 1) 1 (fun _ _ h=>h.2) 103 [] 4 0 (.t<|.t<|.c1 (cr l a2 s2) (di p)<|.c (.v (cf P))<|.t<|.k<|.k<|.c1 (cr l a3 s3) (di q)<|.c (.v (cf L))<|.f<|.f<|.f<|.h (.q 22 0)<|.h (.cl 2 7 2 14)<|.h (.cs (EL l a3 s3 K S P L [] 0 0 []))<|.c1 (cr l a9 s9) (di n)<|.lo [ke 0,ke 1,ke 4,ke 5,ch 6 (di (n:Nat))] (EL l a9 s9 K S P L [] 0 0 [])) ?_
 refine dq (by kernel_rfl:((K==2)=J/\Q true/\Aa PP 19 [bq 0 0,di 2] (bi [G (cr l a s)] []) (di (p:Int)) (bi [G (cr l a2 s2)] [])/\F0 20 [bt (ae (bg #[99]).data.toList),di (yr yq (1+(p:Int)))] (bt (cf P))/\(K==2)=J/\Aa PP 19 [bq 0 0,di 3] (bi [G (cr l a2 s2)] []) (di (q:Int)) (bi [G (cr l a3 s3)] [])/\F0 20 [bt (ae (bg #[108]).data.toList),di (yr yq (1+(q:Int)))] (bt (cf L))/\(K==3)=O/\(K==4)=O/\(K==5)=O/\(∀(e:List D) (E:co) (g:Gh) (a:Act) (w:yy),FI E g (bi [G (cr l a3 s3),G zM,G [di K,bt (cf S),bt (cf P),bt (cf L),dn,di 0,di 0,br 2 [],di 0,dn]] [(2,14,[])]) e a w->∃g',FI E g' (EL l a3 s3 K S P L [] 0 0 []) e a w)/\Aa PP 19 [bq 0 0,di 5] (bi [G (cr l a3 s3)] []) (di (n:Int)) (bi [G (cr l a9 s9)] [])/\Q (di (n:Int))/\cp 3 [2] [G (cr l a9 s9),G zM,G [di K,bt (cf S),bt (cf P),bt (cf L),bt (cz []),di 0,di 0,br 2 [],di 0,dl []]]=J/\Q [G (cr l a9 s9),G zM,G [di K,bt (cf S),bt (cf P),bt (cf L),bt (cz []),di 0,di 0,br 2 nV,di 0,dl nV]]/\Q [(2,14,nV)]/\I0 Fg 1 d (dk l a' s') [kl Dg [1,1,1,1,1,1,1,1,0,1,0,0],bh 1,kc Dg [1,1,1,1,1,1,1,1,1]] (b9 103 [(0,bq 0 0),(1,di K),(4,bq 1 0),(5,bq 2 0),(6,di (n:Int))]) (EL l a9 s9 K S P L [] 0 0 []))=_) ?_
 rw[w1 p hp,w1 q hq]
 exact⟨I4.2 hk,rfl,h1,h2,I4.2 hk,h3,h4,I7.2 (by omega),I7.2 (by omega),I7.2 (by omega),fun e=>Nn (.inl rfl) (.inl rfl) (.inr ⟨rfl,rfl⟩) e,h9,rfl,rfl,rfl,rfl,⟨next⟩⟩
theorem mo3(l:List Int)(m:ba)(K:Int)(S:List (List UInt8))(P L:List (List UInt8))(R:List Int)(p q:Nat)(a2 a3 a4:Nat)(s2 s3 s4:Int)(hp:p<=10)(hq:q<=10)(a a9:Nat)(s s9:Int)(n:Nat)(d:D)(a':Nat)(s':Int)(hk:K=3)(hm:m=⟨K,S,P,L,R,0,0,[],(.mk 0 [])⟩)
  (h1:Aa PP 19 [.ptr 0 0,di 2] (dk l a s) (di p) (dk l a2 s2)) (h2:F0 20 [ds [99],di (p+1:Nat)] (.v (cf P))) (h3:Aa PP 19 [.ptr 0 0,di 3] (dk l a2 s2) (di q) (dk l a3 s3)) (h4:F0 20 [ds [108],di (q+1:Nat)] (.v (cf L))) (h5:Aa PP 21 [.ptr 0 0,di (I L)] (dk l a3 s3) (cy R) (dk l a4 s4)) (h9:Aa PP 19 [.ptr 0 0,di 5] (dk l a4 s4) (di n) (dk l a9 s9))
  (next:Rn PP Fg 1 d (dk l a' s') (Vv++[]) (b9 103 [(0,.ptr 0 0),(1,di m.kind),(4,.ptr 1 0),(5,.ptr 2 0),(6,di (n:Nat))]) (Rq l a9 s9 m [])):Wo l d a' s' a s K S:=by
 have w1:∀n:Nat,n<=10->yq.wrap (1+(n:Int))=((n+1:Nat):Int):=fun n hn=>by rw[A2];omega
 subst hm
 refine Cb (ks:=[KI.code (sub Dg [1,1,1,0,1]),KI.code (sub Dg [1,1,1,1])]) (T:=[]) mixed (CV 1) 1 (fun _ _ h=>h.2) 103 [] 4 0 (.f<|.t<|.c1 (cr l a2 s2) (di p)<|.c (.v (cf P))<|.f<|.t<|.k<|.c1 (cr l a3 s3) (di q)<|.c (.v (cf L))<|.t<|.c1 (cr l a4 s4) (cy R)<|.f<|.f<|.h (.q 22 0)<|.h (.cl 2 7 2 14)<|.h (.cs (EL l a4 s4 K S P L R 0 0 []))<|.c1 (cr l a9 s9) (di n)<|.lo [ke 0,ke 1,ke 4,ke 5,ch 6 (di (n:Nat))] (EL l a9 s9 K S P L R 0 0 [])) ?_
 refine dq (by kernel_rfl:((K==2)=O/\(K==3)=J/\Aa PP 19 [bq 0 0,di 2] (bi [G (cr l a s)] []) (di (p:Int)) (bi [G (cr l a2 s2)] [])/\F0 20 [bt (ae (bg #[99]).data.toList),di (yr yq (1+(p:Int)))] (bt (cf P))/\(K==2)=O/\(K==3)=J/\Aa PP 19 [bq 0 0,di 3] (bi [G (cr l a2 s2)] []) (di (q:Int)) (bi [G (cr l a3 s3)] [])/\F0 20 [bt (ae (bg #[108]).data.toList),di (yr yq (1+(q:Int)))] (bt (cf L))/\(K==3)=J/\Aa PP 21 [bq 0 0,di (I (U ae L):Int)] (bi [G (cr l a3 s3)] []) (cy R) (bi [G (cr l a4 s4)] [])/\(K==4)=O/\(K==5)=O/\(∀(e:List D) (E:co) (g:Gh) (a:Act) (w:yy),FI E g (bi [G (cr l a4 s4),G zM,G [di K,bt (cf S),bt (cf P),bt (cf L),cy R,di 0,di 0,br 2 [],di 0,dn]] [(2,14,[])]) e a w->∃g',FI E g' (EL l a4 s4 K S P L R 0 0 []) e a w)/\Aa PP 19 [bq 0 0,di 5] (bi [G (cr l a4 s4)] []) (di (n:Int)) (bi [G (cr l a9 s9)] [])/\Q (di (n:Int))/\cp 3 [2] [G (cr l a9 s9),G zM,G [di K,bt (cf S),bt (cf P),bt (cf L),cy R,di 0,di 0,br 2 [],di 0,dl []]]=J/\Q [G (cr l a9 s9),G zM,G [di K,bt (cf S),bt (cf P),bt (cf L),cy R,di 0,di 0,br 2 nV,di 0,dl nV]]/\Q [(2,14,nV)]/\I0 Fg 1 d (dk l a' s') [kl Dg [1,1,1,1,1,1,1,1,0,1,0,0],bh 1,kc Dg [1,1,1,1,1,1,1,1,1]] (b9 103 [(0,bq 0 0),(1,di K),(4,bq 1 0),(5,bq 2 0),(6,di (n:Int))]) (EL l a9 s9 K S P L R 0 0 []))=_) ?_
 rw[w1 p hp,w1 q hq]
 exact⟨I7.2 (by omega),I4.2 hk,h1,h2,I7.2 (by omega),I4.2 hk,h3,h4,I4.2 hk,(by rw[HP];exact h5),I7.2 (by omega),I7.2 (by omega),fun e=>Nn (.inl rfl) (.inl rfl) (.inl rfl) e,h9,rfl,rfl,rfl,rfl,⟨next⟩⟩
theorem mo4(l:List Int)(m:ba)(K:Int)(S:List (List UInt8))(L:List (List UInt8))(p q:Nat)(a2 a3:Nat)(s2 s3:Int)(hp:p<=10)(hq:q<=10)(a a9:Nat)(s s9:Int)(n:Nat)(d:D)(a':Nat)(s':Int)(hk:K=4)(hm:m=⟨K,S,[],L,[],(q+1:Nat),0,[],(.mk 0 [])⟩)
  (h1:Aa PP 19 [.ptr 0 0,di 3] (dk l a s) (di p) (dk l a2 s2)) (h2:F0 20 [ds [108],di (p+1:Nat)] (.v (cf L))) (h3:Aa PP 19 [.ptr 0 0,di 2] (dk l a2 s2) (di q) (dk l a3 s3)) (h9:Aa PP 19 [.ptr 0 0,di 5] (dk l a3 s3) (di n) (dk l a9 s9))
  (next:Rn PP Fg 1 d (dk l a' s') (Vv++[]) (b9 103 [(0,.ptr 0 0),(1,di m.kind),(4,.ptr 1 0),(5,.ptr 2 0),(6,di (n:Nat))]) (Rq l a9 s9 m [])):Wo l d a' s' a s K S:=by
 have w1:∀n:Nat,n<=10->yq.wrap (1+(n:Int))=((n+1:Nat):Int):=fun n hn=>by rw[A2];omega
 subst hm
 refine Cb (ks:=[KI.code (sub Dg [1,1,1,0,1]),KI.code (sub Dg [1,1,1,1])]) (T:=[]) mixed (CV 1) 1 (fun _ _ h=>h.2) 103 [] 4 0 (.f<|.f<|.f<|.f<|.f<|.f<|.f<|.t<|.c1 (cr l a2 s2) (di p)<|.c (.v (cf L))<|.f<|.t<|.c1 (cr l a3 s3) (di q)<|.f<|.h (.q 22 0)<|.h (.cl 2 7 2 14)<|.h (.cs (EL l a3 s3 K S [] L [] (q+1:Nat) 0 []))<|.c1 (cr l a9 s9) (di n)<|.lo [ke 0,ke 1,ke 4,ke 5,ch 6 (di (n:Nat))] (EL l a9 s9 K S [] L [] (q+1:Nat) 0 [])) ?_
 refine dq (by kernel_rfl:((K==2)=O/\(K==3)=O/\(K==1)=O/\(K==6)=O/\(K==5)=O/\(K==2)=O/\(K==3)=O/\(K==4)=J/\Aa PP 19 [bq 0 0,di 3] (bi [G (cr l a s)] []) (di (p:Int)) (bi [G (cr l a2 s2)] [])/\F0 20 [bt (ae (bg #[108]).data.toList),di (yr yq (1+(p:Int)))] (bt (cf L))/\(K==3)=O/\(K==4)=J/\Aa PP 19 [bq 0 0,di 2] (bi [G (cr l a2 s2)] []) (di (q:Int)) (bi [G (cr l a3 s3)] [])/\(K==5)=O/\(∀(e:List D) (E:co) (g:Gh) (a:Act) (w:yy),FI E g (bi [G (cr l a3 s3),G zM,G [di K,bt (cf S),dn,bt (cf L),dn,bt (aa yq (yr yq (1+(q:Int)))),di 0,br 2 [],di 0,dn]] [(2,14,[])]) e a w->∃g',FI E g' (EL l a3 s3 K S [] L [] (↑(q+1):Int) 0 []) e a w)/\Aa PP 19 [bq 0 0,di 5] (bi [G (cr l a3 s3)] []) (di (n:Int)) (bi [G (cr l a9 s9)] [])/\Q (di (n:Int))/\cp 3 [2] [G (cr l a9 s9),G zM,G [di K,bt (cf S),bt (cf []),bt (cf L),bt (cz []),di (↑(q+1):Int),di 0,br 2 [],di 0,dl []]]=J/\Q [G (cr l a9 s9),G zM,G [di K,bt (cf S),bt (cf []),bt (cf L),bt (cz []),di (↑(q+1):Int),di 0,br 2 nV,di 0,dl nV]]/\Q [(2,14,nV)]/\I0 Fg 1 d (dk l a' s') [kl Dg [1,1,1,1,1,1,1,1,0,1,0,0],bh 1,kc Dg [1,1,1,1,1,1,1,1,1]] (b9 103 [(0,bq 0 0),(1,di K),(4,bq 1 0),(5,bq 2 0),(6,di (n:Int))]) (EL l a9 s9 K S [] L [] (↑(q+1):Int) 0 []))=_) ?_
 rw[w1 p hp,w1 q hq]
 exact⟨I7.2 (by omega),I7.2 (by omega),I7.2 (by omega),I7.2 (by omega),I7.2 (by omega),I7.2 (by omega),I7.2 (by omega),I4.2 hk,h1,h2,I7.2 (by omega),I4.2 hk,h3,I7.2 (by omega),fun e=>Nn (.inr ⟨rfl,rfl⟩) (.inl rfl) (.inr ⟨rfl,rfl⟩) e,h9,rfl,rfl,rfl,rfl,⟨next⟩⟩
theorem AlU(l:List Int)(m:ba)(K:Int)(S:List (List UInt8))(P:List (List UInt8))(p:Nat)(ag:Int)(a2 a3 a4:Nat)(s2 s3 s4:Int)(hp:p<=10)(a a9:Nat)(s s9:Int)(n:Nat)(d:D)(a':Nat)(s':Int)(hk:K=5)(hm:m=⟨K,S,P,[],[],0,ag,[],(.mk 0 [])⟩)
  (h1:Aa PP 19 [.ptr 0 0,di 3] (dk l a s) (di p) (dk l a2 s2)) (h2:F0 20 [ds [112],di (p+1:Nat)] (.v (cf P))) (h3:Aa PP 19 [.ptr 0 0,di 2] (dk l a2 s2) (di ag) (dk l a3 s3)) (h4:Aa PP 22 [.ptr 0 0,di 6] (dk l a3 s3) (db O) (dk l a4 s4)) (h9:Aa PP 19 [.ptr 0 0,di 5] (dk l a4 s4) (di n) (dk l a9 s9))
  (next:Rn PP Fg 1 d (dk l a' s') (Vv++[]) (b9 103 [(0,.ptr 0 0),(1,di m.kind),(4,.ptr 1 0),(5,.ptr 2 0),(6,di (n:Nat))]) (Rq l a9 s9 m [])):Wo l d a' s' a s K S:=by
 have w1:∀n:Nat,n<=10->yq.wrap (1+(n:Int))=((n+1:Nat):Int):=fun n hn=>by rw[A2];omega
 subst hm
 refine Cb (ks:=[KI.code (sub Dg [1,1,1,0,1]),KI.code (sub Dg [1,1,1,1])]) (T:=[]) mixed (CV 1) 1 (fun _ _ h=>h.2) 103 [] 4 0 (.f<|.f<|.f<|.f<|.t<|.c1 (cr l a2 s2) (di p)<|.c (.v (cf P))<|.f<|.f<|.f<|.f<|.f<|.t<|.c1 (cr l a3 s3) (di ag)<|.c1 (cr l a4 s4) (db O)<|.k<|.h (.q 22 0)<|.h (.cl 2 7 2 14)<|.h (.cs (EL l a4 s4 K S P [] [] 0 ag []))<|.c1 (cr l a9 s9) (di n)<|.lo [ke 0,ke 1,ke 4,ke 5,ch 6 (di (n:Nat))] (EL l a9 s9 K S P [] [] 0 ag [])) ?_
 refine dq (by kernel_rfl:((K==2)=O/\(K==3)=O/\(K==1)=O/\(K==6)=O/\(K==5)=J/\Aa PP 19 [bq 0 0,di 3] (bi [G (cr l a s)] []) (di (p:Int)) (bi [G (cr l a2 s2)] [])/\F0 20 [bt (ae (bg #[112]).data.toList),di (yr yq (1+(p:Int)))] (bt (cf P))/\(K==2)=O/\(K==3)=O/\(K==4)=O/\(K==3)=O/\(K==4)=O/\(K==5)=J/\Aa PP 19 [bq 0 0,di 2] (bi [G (cr l a2 s2)] []) (di ag) (bi [G (cr l a3 s3)] [])/\Aa PP 22 [bq 0 0,di 6] (bi [G (cr l a3 s3)] []) (db O) (bi [G (cr l a4 s4)] [])/\(∀(e:List D) (E:co) (g:Gh) (a:Act) (w:yy),FI E g (bi [G (cr l a4 s4),G zM,G [di K,bt (cf S),bt (cf P),dn,dn,di 0,di ag,br 2 [],di 0,dn]] [(2,14,[])]) e a w->∃g',FI E g' (EL l a4 s4 K S P [] [] 0 ag []) e a w)/\Aa PP 19 [bq 0 0,di 5] (bi [G (cr l a4 s4)] []) (di (n:Int)) (bi [G (cr l a9 s9)] [])/\Q (di (n:Int))/\cp 3 [2] [G (cr l a9 s9),G zM,G [di K,bt (cf S),bt (cf P),bt (cf []),bt (cz []),di 0,di ag,br 2 [],di 0,dl []]]=J/\Q [G (cr l a9 s9),G zM,G [di K,bt (cf S),bt (cf P),bt (cf []),bt (cz []),di 0,di ag,br 2 nV,di 0,dl nV]]/\Q [(2,14,nV)]/\I0 Fg 1 d (dk l a' s') [kl Dg [1,1,1,1,1,1,1,1,0,1,0,0],bh 1,kc Dg [1,1,1,1,1,1,1,1,1]] (b9 103 [(0,bq 0 0),(1,di K),(4,bq 1 0),(5,bq 2 0),(6,di (n:Int))]) (EL l a9 s9 K S P [] [] 0 ag []))=_) ?_
 rw[w1 p hp]
 exact⟨I7.2 (by omega),I7.2 (by omega),I7.2 (by omega),I7.2 (by omega),I4.2 hk,h1,h2,I7.2 (by omega),I7.2 (by omega),I7.2 (by omega),I7.2 (by omega),I7.2 (by omega),I4.2 hk,h3,h4,fun e=>Nn (.inl rfl) (.inr ⟨rfl,rfl⟩) (.inr ⟨rfl,rfl⟩) e,h9,rfl,rfl,rfl,rfl,⟨next⟩⟩
theorem AlT(l:List Int)(m:ba)(K:Int)(S:List (List UInt8))(P:List (List UInt8))(p:Nat)(ag:Int)(a2 a3 a4:Nat)(s2 s3 s4:Int)(hp:p<=10)(a a9:Nat)(s s9:Int)(n:Nat)(d:D)(a':Nat)(s':Int)(hk:K=5)(hm:m=⟨K,S,P,[],[],0,2,[],(.mk 0 [])⟩)
  (h1:Aa PP 19 [.ptr 0 0,di 3] (dk l a s) (di p) (dk l a2 s2)) (h2:F0 20 [ds [112],di (p+1:Nat)] (.v (cf P))) (h3:Aa PP 19 [.ptr 0 0,di 2] (dk l a2 s2) (di ag) (dk l a3 s3)) (h4:Aa PP 22 [.ptr 0 0,di 6] (dk l a3 s3) (db J) (dk l a4 s4)) (h9:Aa PP 19 [.ptr 0 0,di 5] (dk l a4 s4) (di n) (dk l a9 s9))
  (next:Rn PP Fg 1 d (dk l a' s') (Vv++[]) (b9 103 [(0,.ptr 0 0),(1,di m.kind),(4,.ptr 1 0),(5,.ptr 2 0),(6,di (n:Nat))]) (Rq l a9 s9 m [])):Wo l d a' s' a s K S:=by
 have w1:∀n:Nat,n<=10->yq.wrap (1+(n:Int))=((n+1:Nat):Int):=fun n hn=>by rw[A2];omega
 subst hm
 refine Cb (ks:=[KI.code (sub Dg [1,1,1,0,1]),KI.code (sub Dg [1,1,1,1])]) (T:=[]) mixed (CV 1) 1 (fun _ _ h=>h.2) 103 [] 4 0 (.f<|.f<|.f<|.f<|.t<|.c1 (cr l a2 s2) (di p)<|.c (.v (cf P))<|.f<|.f<|.f<|.f<|.f<|.t<|.c1 (cr l a3 s3) (di ag)<|.c1 (cr l a4 s4) (db J)<|.k<|.h (.q 22 0)<|.h (.cl 2 7 2 14)<|.h (.cs (EL l a4 s4 K S P [] [] 0 2 []))<|.c1 (cr l a9 s9) (di n)<|.lo [ke 0,ke 1,ke 4,ke 5,ch 6 (di (n:Nat))] (EL l a9 s9 K S P [] [] 0 2 [])) ?_
 refine dq (by kernel_rfl:((K==2)=O/\(K==3)=O/\(K==1)=O/\(K==6)=O/\(K==5)=J/\Aa PP 19 [bq 0 0,di 3] (bi [G (cr l a s)] []) (di (p:Int)) (bi [G (cr l a2 s2)] [])/\F0 20 [bt (ae (bg #[112]).data.toList),di (yr yq (1+(p:Int)))] (bt (cf P))/\(K==2)=O/\(K==3)=O/\(K==4)=O/\(K==3)=O/\(K==4)=O/\(K==5)=J/\Aa PP 19 [bq 0 0,di 2] (bi [G (cr l a2 s2)] []) (di ag) (bi [G (cr l a3 s3)] [])/\Aa PP 22 [bq 0 0,di 6] (bi [G (cr l a3 s3)] []) (db J) (bi [G (cr l a4 s4)] [])/\(∀(e:List D) (E:co) (g:Gh) (a:Act) (w:yy),FI E g (bi [G (cr l a4 s4),G zM,G [di K,bt (cf S),bt (cf P),dn,dn,di 0,ig [(0,bq 0 0).snd,(1,di K).snd,bk,bk,(4,bq 1 0).snd,(5,bq 2 0).snd,bk,bk,bk,bk,bk,bk,bk,bk,bk,bk,bk,bk,bk,(1,di K).snd,bt (bu false),bt (bu (K==2)),bt (bu (K==3)),bk,bk,bk,bk,bk,bt (bu true),bt (bu (K==1)),bt (bu (K==6)),bt (bu (K==5)),(0,bq 0 0).snd,di (p:Int),bt (aa yq (yr yq (1+(p:Int)))),bt (cf P),bq 2 (Nat.add 0 2),(1,di K).snd,bt (bu (K==2)),bt (bu false),(1,di K).snd,bt (bu (K==3)),bt (bu (K==3)),bt (bu false),(1,di K).snd,bt (bu (K==4)),bt (bu false),bk,bk,bk,bk,bk,(1,di K).snd,bt (bu false),bk,bk,bk,bk,bk,bk,(1,di K).snd,bt (bu false),bk,bk,bk,bk,(1,di K).snd,bt (bu true),(0,bq 0 0).snd,di ag,bq 2 (Nat.add 0 6),(0,bq 0 0).snd,db J,bq 2 (Nat.add 0 6),bk,bk,bk,bk,bk,bk,bk,bk,bk,bk,bk,bk,bk,bk,bk,bk,bk,bk,bk,bk,bk,bk,bk,bk,bk,bk,bk,bk,bk] (Operand.const (Value.int yq 2)),br 2 [],di 0,dn]] [(2,14,[])]) e a w->∃g',FI E g' (EL l a4 s4 K S P [] [] 0 2 []) e a w)/\Aa PP 19 [bq 0 0,di 5] (bi [G (cr l a4 s4)] []) (di (n:Int)) (bi [G (cr l a9 s9)] [])/\Q (di (n:Int))/\cp 3 [2] [G (cr l a9 s9),G zM,G [di K,bt (cf S),bt (cf P),bt (cf []),bt (cz []),di 0,di 2,br 2 [],di 0,dl []]]=J/\Q [G (cr l a9 s9),G zM,G [di K,bt (cf S),bt (cf P),bt (cf []),bt (cz []),di 0,di 2,br 2 nV,di 0,dl nV]]/\Q [(2,14,nV)]/\I0 Fg 1 d (dk l a' s') [kl Dg [1,1,1,1,1,1,1,1,0,1,0,0],bh 1,kc Dg [1,1,1,1,1,1,1,1,1]] (b9 103 [(0,bq 0 0),(1,di K),(4,bq 1 0),(5,bq 2 0),(6,di (n:Int))]) (EL l a9 s9 K S P [] [] 0 2 []))=_) ?_
 rw[w1 p hp]
 exact⟨I7.2 (by omega),I7.2 (by omega),I7.2 (by omega),I7.2 (by omega),I4.2 hk,h1,h2,I7.2 (by omega),I7.2 (by omega),I7.2 (by omega),I7.2 (by omega),I7.2 (by omega),I4.2 hk,h3,h4,fun e=>Nn (.inl rfl) (.inr ⟨rfl,rfl⟩) (.inr ⟨rfl,rfl⟩) e,h9,rfl,rfl,rfl,rfl,⟨next⟩⟩
theorem d6.num15{m:ba}(hm:d6 m):F0 55 [Ax m] (db J):=by
 have h1:∀a b x,A6 x a b=J->F0 54 [di x,di a,di b] (db J):=fun a b x h=>h▸Cl x a b
 have hb:∀{x a b:Int},a<=x->x<=b->A6 x a b=J:=fun h1 h2=>by simp[A6,h1,h2]
 obtain⟨hk,hst,hpl,hle,_,hlv,hag,hc,_,_⟩:=hm
 obtain⟨kind,aw,ay,ax,au,ao,age,av,start⟩:=m
 dsimp only at*
 subst hk
 subst hpl
 subst hag
 refine sv Qy 81 [1] (.c (db J)<|.c (db J)<|.k<|.f<|.c (db J)<|.c (db J) .r) (F0 54 [di (I (U ae (ba.mk 4 aw [] ax au ao 0 av start).aw):Int),di 1,di 8] (db J)/\F0 54 [di (I (U ae (ba.mk 4 aw [] ax au ao 0 av start).ay):Int),di 0,di 0] (db J)/\Y ((I (U AD (ba.mk 4 aw [] ax au ao 0 av start).av):Int)>12)=O/\F0 54 [di (I (U ae (ba.mk 4 aw [] ax au ao 0 av start).ax):Int),di 1,di 6] (db J)/\F0 54 [di (ba.mk 4 aw [] ax au ao 0 av start).ao,di 1,di 2] (db J)/\db ((ba.mk 4 aw [] ax au ao 0 av start).age==0)=db J) ?_
 have b1:A6 (I aw:Int) 1 8=J:=hb (by omega) (by omega)
 have b2:A6 (I ax:Int) 1 6=J:=hb (by omega) (by omega)
 have b3:Y ((I av:Int)>12)=O:=yo
 have b4:A6 ao 1 2=J:=by rcases hlv with e|e<;>rw[e]<;>rfl
 exact⟨by rw[HP];exact h1 _ _ _ b1,h1 _ _ _ rfl,by rw[HP];exact b3,by rw[HP];exact h1 _ _ _ b2,h1 _ _ _ b4,rfl⟩
theorem d6.rnk15{m:ba}(hm:d6 m):F0 56 [Ax m] (db J):=by
 exact sv HH 32 [1] (.t .r) ((m.kind !=3)=J/\db ((I (U vi m.au):Int)==0)=db J) ⟨by rw[hm.kind];rfl,by rw[hm.au];rfl⟩
theorem d6.nam15{m:ba}(hm:d6 m):F0 57 [Ax m] (db J):=by
 have hst:=hm.aw
 have hlt:=hm.ax
 have hc:=hm.count
 exact OA m (by simp only[Dq,BR,Jx,flatten_nil,Ig,HP,HZ,hm.ay];omega) (by omega) hm.named
theorem TA(l:List Int)(hl:I l<=1000)(n b:Int)(hn:(I l:Int)<=n)(h:∀x∈l,0<=x/\x<=b):F0 117 [cy l,di n,di b] (db J):=by
 have:=F7 l (by omega) (I l) 0 b rfl (fun x hx=>by simp[A6,h x hx])
 exact sv w0 18 [] (.t<|.c (db J) .r) (Y ((I (U vi l):Int)<=n)=J/\F0 116 [cy l,di (I (U vi l):Int),di 0,di b] (db J)/\Q (db J)) ⟨HS (by rw[HP];omega),by rw[HP];exact this,rfl⟩
theorem d6.rt15{m:ba}(hm:d6 m)(r:cq)(hr:r∈m.av):F0 58 [Ax m,AZ r] (db J):=by
 have h1:∀a b x,A6 x a b=J->F0 54 [di x,di a,di b] (db J):=fun a b x h=>h▸Cl x a b
 have hb:∀{x a b:Int},a<=x->x<=b->A6 x a b=J:=fun h1 h2=>by simp[A6,h1,h2]
 have hR:=hm.av r hr
 have hst:=hm.aw
 have hlt:=hm.ax
 have hlv:=hm.ao
 have hf:=hR.aj
 have hto:=hR.to
 have hpl:=hR.pl
 have hnl:=hR.nl
 have hp:=TA r.path (by omega) m.ao ((I m.ax:Int)-1) hpl (fun x hx=>by have:=hR.path x hx;omega)
 have hn:=TA r.next (by omega) m.ao ((I m.ax:Int)-1) hnl (fun x hx=>by have:=hR.next x hx;omega)
 have hs:=hR.some
 have hw:yq.wrap ((I (m.aw.map ae):Int)-1)=(I m.aw:Int)-1:=CQ _ _ (by omega)
 have hw2:yq.wrap ((I (m.ax.map ae):Int)-1)=(I m.ax:Int)-1:=CQ _ _ (by omega)
 have hre:=hR.rest
 have hk:=hm.kind
 clear hm hr hR
 generalize r.name=nm at*
 generalize r.aj=f at*
 generalize r.to=t at*
 generalize r.path=p at*
 generalize r.next=nx at*
 subst hre
 obtain⟨kind,aw,ay,ax,au,ao,age,av,start⟩:=m
 dsimp only at*
 subst hk
 refine sv YN 234 [2,3] (.c (db J)<|.c (db J)<|.c (db J)<|.c (db J)<|.k<|.f .r) (F0 54 [di (fw nm f t p nx).aj,di 0,di (yr yq ((I (U ae (ba.mk 4 aw ay ax au ao age av start).aw):Int)-1))] (db J)/\F0 54 [di (fw nm f t p nx).to,di 0,di (yr yq ((I (U ae (ba.mk 4 aw ay ax au ao age av start).aw):Int)-1))] (db J)/\F0 117 [bt (cz (fw nm f t p nx).path),di (ba.mk 4 aw ay ax au ao age av start).ao,di (yr yq ((I (U ae (ba.mk 4 aw ay ax au ao age av start).ax):Int)-1))] (db J)/\F0 117 [bt (cz (fw nm f t p nx).next),di (ba.mk 4 aw ay ax au ao age av start).ao,di (yr yq ((I (U ae (ba.mk 4 aw ay ax au ao age av start).ax):Int)-1))] (db J)/\(yr yq ((I (U vi (fw nm f t p nx).path):Int)+(I (U vi (fw nm f t p nx).next):Int))==0)=O/\db ((fw nm f t p nx).second==0)=db J) ?_
 rw[hw,hw2]
 have b1:A6 f 0 ((I aw:Int)-1)=J:=hb hf.1 (by omega)
 have b2:A6 t 0 ((I aw:Int)-1)=J:=hb hto.1 (by omega)
 exact⟨h1 _ _ _ b1,h1 _ _ _ b2,hp,hn,I7.2 (by simp only[fw];rw[HP,HP,A2];omega),rfl⟩
theorem t7(m:ba)(hk:m.kind=4)(hlv:m.ao=1∨m.ao=2):F0 33 [Ax m] (dT (BP m)):=by
 obtain⟨kind,aw,ay,ax,au,ao,age,av,start⟩:=m
 dsimp only at*
 subst hk
 rcases hlv with e|e<;>subst e
 ·refine sv Wa 96 [1] (.a 1<|.h .g<|.n<|.f .r) (Y (1<(ba.mk 4 aw ay ax au 1 age av start).ao)=O/\Q (ab (vi 2::vi (I (U ae (ba.mk 4 aw ay ax au 1 age av start).aw):Int)::ai nV::ai nV::nV)::nV)/\A9 2 64/\bt (ab [vi 3,vi 0,ai [],ai [ab [vi 2,vi (I (U ae (ba.mk 4 aw ay ax au 1 age av start).aw):Int),ai [],ai []],ab [vi 5,vi 0,ai [],ai [ab [vi 2,vi (I (U ae (ba.mk 4 aw ay ax au 1 age av start).ax):Int),ai [],ai []]]]]])=dT (BP (ba.mk 4 aw ay ax au 1 age av start))) ⟨rfl,rfl,⟨by decide,by decide⟩,?_⟩
  dsimp only
  rw[HP,HP]
  show _=bt (vT (.prod [.lab (I aw),.bag (.lab (I ax))]))
  rfl
 ·refine sv Wa 96 [1] (.a 1<|.h .g<|.n<|.t<|.n<|.f .r) (Y (1<(ba.mk 4 aw ay ax au 2 age av start).ao)=J/\Y (yr yq (1+1)<(ba.mk 4 aw ay ax au 2 age av start).ao)=O/\Q (ab (vi 2::vi (I (U ae (ba.mk 4 aw ay ax au 2 age av start).aw):Int)::ai nV::ai nV::nV)::nV)/\A9 2 64/\bt (ab [vi 3,vi 0,ai [],ai [ab [vi 2,vi (I (U ae (ba.mk 4 aw ay ax au 2 age av start).aw):Int),ai [],ai []],ab [vi 5,vi 0,ai [],ai [ab [vi 3,vi 0,ai [],ai [ab [vi 2,vi (I (U ae (ba.mk 4 aw ay ax au 2 age av start).ax):Int),ai [],ai []],ab [vi 5,vi 0,ai [],ai [ab [vi 2,vi (I (U ae (ba.mk 4 aw ay ax au 2 age av start).ax):Int),ai [],ai []]]]]]]]]])=dT (BP (ba.mk 4 aw ay ax au 2 age av start))) ⟨rfl,show Y (yq.wrap (1+1)<2)=O by decide,rfl,⟨by decide,by decide⟩,?_⟩
  dsimp only
  rw[HP,HP]
  show _=bt (vT (.prod [.lab (I aw),.bag (.prod [.lab (I ax),.bag (.lab (I ax))])]))
  rfl
theorem d6.chk15{m:ba}(hm:d6 m):F0 31 [Ax m] (di (if Aw (BP m) m.start then 0 else 17)):=
 Pb m _ (by rw[hm.kind];rfl) hm.num15 hm.rnk15 hm.nam15 (K9 m _ _ (by have:=hm.count;omega) (by rw[hm.kind];rfl) (fun r hr=>hm.rt15 r hr) (t7 m hm.kind hm.ao) (Gk _ hm.good m.start) _ 0 rfl)
theorem Agc(a b:Tk):F0 212 [.v (AT [a,b]),.v (AT [a,b])] (db J):=by
 exact sv sg 26 [] (.n<|.x (ce a)<|.x (ce a)<|.h (.p (.v (ce a)))<|.h (.p (db O))<|.n<|.x (ce b)<|.x (ce b)<|.h (.p (.v (ce b)))<|.h (.p (db O))<|.n<|.r) (iz 0<=0/\Q (G (ce a))/\iz 0<=0/\Q (G (ce a))/\(∀(τ:St),Ay PP (Oper.mk (G 23) (Op.load 80 (Operand.tmp 22)) 80 "slices.go:25" #[Edge.mk 6 Ground.data] none) [bt (bz (ce a))] τ (bt (ce a)) τ)/\(∀(τ:St),Ay PP (Oper.mk (G 24) (Op.binOp BinOp.neq 80 (Operand.tmp 19) (Operand.tmp 23) 80) 4 "slices.go:25" #[Edge.mk 3 Ground.data,Edge.mk 7 Ground.data] none) [bt (ce a),bt (ce a)] τ (db O) τ)/\0<=yr yq (0+1)/\Q (G (ce b))/\0<=yr yq (0+1)/\Q (G (ce b))/\(∀(τ:St),Ay PP (Oper.mk (G 23) (Op.load 80 (Operand.tmp 22)) 80 "slices.go:25" #[Edge.mk 6 Ground.data] none) [bt (bz (ce b))] τ (bt (ce b)) τ)/\(∀(τ:St),Ay PP (Oper.mk (G 24) (Op.binOp BinOp.neq 80 (Operand.tmp 19) (Operand.tmp 23) 80) 4 "slices.go:25" #[Edge.mk 3 Ground.data,Edge.mk 7 Ground.data] none) [bt (ce b),bt (ce b)] τ (db O) τ)/\Q (db J)) ⟨by decide,rfl,by decide,rfl,fun τ=>JD rfl WQ,fun τ=>Ou rfl a,by decide,rfl,by decide,rfl,fun τ=>JD rfl WQ,fun τ=>Ou rfl b,rfl⟩
theorem Agd(l:List Tk)(h:I l<=2):F0 212 [.v (AT l),.v (AT l)] (db J):=by
 match l,h with
 |[],_=>exact OM []
 |[a],_=>exact YV a
 |[a,b],_=>exact Agc a b
theorem YF(F:yv)(cs:List V)(l:List Tk)(h:I l<=2)(hp:∀x∈l,F0 F ((([]:List V)++[ce x]++cs).map .v) (db O)):F0 208 [.v (AT l),.v (.fn F [] cs)] (db O):=by
 match l,h with
 |[],_=>exact K1 F cs [] (by simp) (by simp)
 |[a],_=>exact K1 F cs [a] (by simp) hp
 |[a,b],_=>
  have hi:F0 238 [.v (AT [a,b]),.v (.fn F [] cs)] (di (-1)):=by
   exact sv td 19 [] (.n<|.x (ce a)<|.c (db O)<|.n<|.x (ce b)<|.c (db O)<|.n<|.r) (iz 0<=0/\Q (G (ce a))/\F0 F (bt (ce a)::U bt ([]++cs)) (db O)/\0<=yr yq (0+1)/\Q (G (ce b))/\F0 F (bt (ce b)::U bt ([]++cs)) (db O)/\Q (di (-1))) ⟨by decide,rfl,by simpa using hp a (by simp),by decide,rfl,by simpa using hp b (by simp),rfl⟩
  exact sv xz 9 [] (.c (di (-1)) .r) (_/\db (Y (-1>=0))=db O) ⟨hi,rfl⟩
structure tu(m:ba)(r:cq):Prop where
 aj:0<=r.aj/\r.aj<I m.aw
 to:0<=r.to/\r.to<I m.aw
 tl:I r.ar<=2
 ar:∀t∈r.ar,(0<=t.place/\t.place<I m.ay)/\(0<=t.low/\t.low<=t.high/\t.high<=m.age+1)
 ml:I r.aq<=1
 aq:∀x∈r.aq,0<=x/\x<I m.ay
 rest:r=d9 r.name r.aj r.to r.ar r.aq
structure ep(m:ba):Prop where
 kind:m.kind=5
 aw:1<=I m.aw/\m.aw.length<=3
 ay:1<=I m.ay/\m.ay.length<=3
 ax:m.ax=[]
 au:m.au=[]
 ao:m.ao=0
 age:0<=m.age/\m.age<=2
 count:I m.av<=4
 named:Db m=J
 av:∀r∈m.av,tu m r
theorem Agu(m:ba)(hm:I m.ay<=1000000)(hag:0<=m.age/\m.age<=1000)(r:cq)(h1:I r.ar<=2)(h2:I r.aq<=1)(h3:∀t∈r.ar,(0<=t.place/\t.place<I m.ay)/\(0<=t.low/\t.low<=t.high/\t.high<=m.age+1))(h4:∀x∈r.aq,0<=x/\x<I m.ay):F0 166 [Ax m,AZ r] (db J):=by
 refine sv vp 37 [2,3] (.h (.q 2 0)<|.h (.f1 0 [5])<|.t<|.t<|.c (db J)<|.k<|.c (db J)<|.k<|.c (db O)<|.r) (Y ((I (U ce r.ar):Int)<=3)=J/\Y ((I (U vi r.aq):Int)<=3)=J/\_/\F0 167 [cy r.aq,bt (bw 207 [] [bz (vi (I (U ae m.ay):Int))])] (db J)/\F0 208 [bt (AT r.ar),bt (bw 209 [] [bz (vi (I (U ae m.ay):Int)),bz (AE m)])] (db O)/\Q (db J)) ⟨HS (by rw[HP];omega),HS (by rw[HP];omega),S1 _ h2,?_,?_,rfl⟩
 ·rw[HP]
  have h:=Fp 207 [] [.ref (vi (I m.ay))] (fun x=>A6 x 0 ((I m.ay:Int)-1)) r.aq (by omega) (fun x _=>Uy (I m.ay) hm x)
  rwa[show(r.aq.all fun x=>A6 x 0 ((I m.ay:Int)-1))=J from by
   rw[ID];intro x hx;have:=h4 x hx;simp[A6];omega] at h
 ·rw[HP]
  exact YF _ _ r.ar h1 fun x hx=>xj m hm hag x (h3 x hx).1 (h3 x hx).2
theorem Xm(nm:List UInt8)(f t:Int)(tk:List Tk)(mk:List Int)(h1:I tk<=2)(h2:I mk<=1):F0 169 [AZ (d9 nm f t tk mk),AZ (d9 nm f t tk mk)] (db J):=by
 have e:∀l:List Int,I l<=1000000->F0 211 [.v (cz l),.v (cz l)] (db J):=fun l hl=>by simpa using Dr l l hl
 have n0:=e [] (by decide)
 exact sv qm 101 [2,3] (.t<|.t<|.t<|.c (db J)<|.k<|.c (db J)<|.k<|.c (db J)<|.k<|.k<|.k<|.k<|.c (db J)<|.k<|.c (db J)<|.k<|.c (db J)<|.k<|.c (db J)<|.k<|.r) (((d9 nm f t tk mk).name==(d9 nm f t tk mk).name)=J/\((d9 nm f t tk mk).aj==(d9 nm f t tk mk).aj)=J/\((d9 nm f t tk mk).to==(d9 nm f t tk mk).to)=J/\_/\_/\_/\_/\_/\_/\_/\db ((d9 nm f t tk mk).second==(d9 nm f t tk mk).second)=db J) ⟨by simp,by simp,by simp,n0,n0,n0,n0,n0,Agd tk h1,e mk (by omega),by simp⟩
theorem ep.right{m:ba}(hm:ep m)(r:cq)(hr:r∈m.av):F0 109 [Ax m,AZ r] (db J):=by
 have hR:=hm.av r hr
 have hk:=hm.kind
 have hst:=hm.aw
 have hpl:=hm.ay
 have hag:=hm.age
 have h1:=Agu m (by omega) (by omega) r hR.tl hR.ml hR.ar hR.aq
 have hf:=hR.aj
 have ht:=hR.to
 have h2:=Xm r.name r.aj r.to r.ar r.aq hR.tl hR.ml
 rw[hR.rest] at h1⊢
 generalize r.name=nm at*
 generalize r.aj=f at*
 generalize r.to=t at*
 generalize r.ar=tk at*
 generalize r.aq=mk at*
 have hx:∀x:Int,0<=x->x<I m.aw->F0 161 [di x,di (I (m.aw.map ae):Int)] (db J):=fun x h0 h1=>by
  rw[HP]
  have h:=Ck x (I m.aw) (by omega)
  rwa[show A6 x 0 ((I m.aw:Int)-1)=J by simp[A6];omega] at h
 exact sv Qx 142 [2,3] (.c (db J)<|.k<|.c (db J)<|.k<|.k<|.f<|.f<|.f<|.f<|.t<|.c (db J)<|.k<|.c (db J) .r) (_/\_/\(m.kind==1)=O/\(m.kind==2)=O/\(m.kind==3)=O/\(m.kind==4)=O/\(m.kind==5)=J/\_/\_/\Q (db J)) ⟨hx t ht.1 ht.2,hx f hf.1 hf.2,by rw[hk];rfl,by rw[hk];rfl,by rw[hk];rfl,by rw[hk];rfl,by rw[hk];rfl,h1,h2,rfl⟩
theorem ep.chk1{m:ba}(hm:ep m)(r:cq)(hr:r∈m.av):F0 108 [AZ r,.v (.ref (AE m))] (db O):=by
 exact sv tj 8 [2] (.c (db J) .r) (_/\Q (db O)) ⟨hm.right r hr,rfl⟩
theorem ep.good{m:ba}(h:ep m):B4 8 (Cq m)=J:=wh m (by have:=h.aw;omega) (by have:=h.ay;omega) (by have:=h.age;omega)
theorem ep.chk{m:ba}(hm:ep m):F0 52 [Ax m] (di (if Aw (Cq m) m.start then 0 else 17)):=by
 have hst:=hm.aw
 have hpl:=hm.ay
 have hag:=hm.age
 have hc:=hm.count
 have hb:∀{x a b:Int},a<=x->x<=b->A6 x a b=J:=fun h1 h2=>by simp[A6,h1,h2]
 have:=RW m true true true true false (Aw (Cq m) m.start) (by rw[hm.kind];rfl) (fun _=>?_) (fun _=>?_) (fun _=>?_) (fun _=>?_) (fun _=>ZA m _ _ (by rw[hm.kind];rfl) (L7 m hm.kind (by omega)) (F5 _ hm.good _))
 ·exact this
 ·have:=JW pa m (by rw[hm.kind];exact AlO)
  rwa[show C3 pa m=J by
   simp only[C3,HR,Ia,hm.ax,hm.ao]
   exact⟨hb (by omega) (by omega),by omega,hb (by omega) (by omega),by decide,by decide,hb (by omega) (by omega)⟩] at this
 ·have:=H8 m (by rw[hm.au];decide)
  rwa[show BJ m=J by rw[BJ,Io (by rw[hm.kind];rfl),hm.au];rfl] at this
 ·have:=O9 m (by simp only[BR,Jx,flatten_nil,Ig,HZ,hm.ax];omega)
  rwa[hm.named] at this
 ·have:=Md 108 [] [.ref (AE m)] (fun _=>false) m.av (by omega) (fun r hr=>hm.chk1 r hr)
  rw[show m.av.any (fun _=>false)=O by simp] at this
  exact this
theorem ep.num15{m:ba}(hm:ep m):F0 55 [Ax m] (db J):=by
 have h1:∀a b x,A6 x a b=J->F0 54 [di x,di a,di b] (db J):=fun a b x h=>h▸Cl x a b
 have hb:∀{x a b:Int},a<=x->x<=b->A6 x a b=J:=fun h1 h2=>by simp[A6,h1,h2]
 obtain⟨hk,hst,hpl,hle,_,hlv,hag,hc,_,_⟩:=hm
 obtain⟨kind,aw,ay,ax,au,ao,age,av,start⟩:=m
 dsimp only at*
 subst hk
 subst hle
 subst hlv
 refine sv Qy 81 [1] (.c (db J)<|.c (db J)<|.k<|.f<|.c (db J)<|.c (db J)<|.c (db J) .r) (F0 54 [di (I (U ae (ba.mk 5 aw ay [] au 0 age av start).aw):Int),di 1,di 8] (db J)/\F0 54 [di (I (U ae (ba.mk 5 aw ay [] au 0 age av start).ay):Int),di 1,di 6] (db J)/\Y ((I (U AD (ba.mk 5 aw ay [] au 0 age av start).av):Int)>12)=O/\F0 54 [di (I (U ae (ba.mk 5 aw ay [] au 0 age av start).ax):Int),di 0,di 0] (db J)/\F0 54 [di (ba.mk 5 aw ay [] au 0 age av start).ao,di 0,di 0] (db J)/\F0 54 [di (ba.mk 5 aw ay [] au 0 age av start).age,di 0,di 3] (db J)/\Q (db J)) ?_
 have b1:A6 (I aw:Int) 1 8=J:=hb (by omega) (by omega)
 have b2:A6 (I ay:Int) 1 6=J:=hb (by omega) (by omega)
 have b3:Y ((I av:Int)>12)=O:=yo
 have b4:A6 age 0 3=J:=hb (by omega) (by omega)
 exact⟨by rw[HP];exact h1 _ _ _ b1,by rw[HP];exact h1 _ _ _ b2,by rw[HP];exact b3,h1 _ _ _ rfl,h1 _ _ _ rfl,h1 _ _ _ b4,rfl⟩
theorem ep.rnk15{m:ba}(hm:ep m):F0 56 [Ax m] (db J):=by
 exact sv HH 32 [1] (.t .r) ((m.kind !=3)=J/\db ((I (U vi m.au):Int)==0)=db J) ⟨by rw[hm.kind];rfl,by rw[hm.au];rfl⟩
theorem ep.nam15{m:ba}(hm:ep m):F0 57 [Ax m] (db J):=by
 have hst:=hm.aw
 have hpl:=hm.ay
 have hc:=hm.count
 exact OA m (by simp only[Dq,BR,Jx,flatten_nil,Ig,HP,HZ,hm.ax];omega) (by omega) hm.named
theorem WK(m:ba)(hp:1<=I m.ay/\m.ay.length<=1000)(ha:0<=m.age/\m.age<=1000)(r:cq)(h1:I r.ar<=2)(h3:∀t∈r.ar,(0<=t.place/\t.place<I m.ay)/\(0<=t.low/\t.low<=t.high/\t.high<=m.age+1))(h2:I r.aq<=1)(h4:∀x∈r.aq,0<=x/\x<I m.ay):F0 118 [Ax m,AZ r] (db J):=by
 have hw:yq.wrap ((I (m.ay.map ae):Int)-1)=(I m.ay:Int)-1:=CQ _ _ (by omega)
 have hwa:yq.wrap (m.age+1)=m.age+1:=A2
 have hfew:=AcB r.aq (by omega) ((I m.ay:Int)-1) (fun x hx=>by have:=h4 x hx;omega)
 have hml:¬(1:Int)<(I (r.aq.map vi):Int):=by rw[HP];omega
 have hbt:∀t∈r.ar,F0 54 [di t.place,di 0,di ((I m.ay:Int)-1)] (db J):=fun t ht=>by
  have:=Cl t.place 0 ((I m.ay:Int)-1)
  have h:=(h3 t ht).1
  rwa[show A6 t.place 0 ((I m.ay:Int)-1)=J by simp[A6];omega] at this
 obtain⟨tk,e⟩:∃tk,tk=r.ar:=⟨_,rfl⟩
 rw[←e] at h1 h3 hbt
 match tk,h1 with
 |[],_=>
  refine sv YM 81 [2,3] (.f<|.c (db J)<|.k<|.n<|.f<|.n<|.f .r) (Y ((I (U ce r.ar):Int)>3)=O/\F0 117 [cy r.aq,di 3,di (yr yq ((I (U ae m.ay):Int)-1))] (db J)/\Y (0<(I (U ce r.ar):Int))=O/\Y (1<(I (U vi r.aq):Int))=O/\Q (db J)) ?_
  rw[hw]
  exact⟨by rw[←e];rfl,hfew,by rw[←e];rfl,HU hml,rfl⟩
 |[a],_=>
  obtain⟨_,a1,a2,a3⟩:=h3 a (by simp)
  refine sv YM 81 [2,3] (.f<|.c (db J)<|.k<|.n<|.t<|.x (ce a)<|.c (db J)<|.k<|.f<|.f<|.f<|.n<|.f<|.n<|.f .r) (Y ((I (U ce r.ar):Int)>3)=O/\F0 117 [cy r.aq,di 3,di (yr yq ((I (U ae m.ay):Int)-1))] (db J)/\Y (0<(I (U ce r.ar):Int))=J/\iz 0<=0/\(U ce r.ar)[Z 0]?=G (ce a)/\F0 54 [di a.place,di 0,di (yr yq ((I (U ae m.ay):Int)-1))] (db J)/\Y (a.low<0)=O/\Y (a.low>a.high)=O/\Y (a.high>yr yq (m.age+1))=O/\Y (yr yq (0+1)<(I (U ce r.ar):Int))=O/\Y (1<(I (U vi r.aq):Int))=O/\Q (db J)) ?_
  rw[hw,hwa]
  exact⟨by rw[←e];rfl,hfew,by rw[←e];rfl,Iv _,by rw[←e];rfl,hbt a (by simp),yo,yo,yo,by rw[←e];rfl,HU hml,rfl⟩
 |[a,b],_=>
  obtain⟨_,a1,a2,a3⟩:=h3 a (by simp)
  obtain⟨_,b1,b2,b3⟩:=h3 b (by simp)
  refine sv YM 81 [2,3] (.f<|.c (db J)<|.k<|.n<|.t<|.x (ce a)<|.c (db J)<|.k<|.f<|.f<|.f<|.n<|.t<|.x (ce b)<|.c (db J)<|.k<|.f<|.f<|.f<|.n<|.f<|.n<|.f .r) (Y ((I (U ce r.ar):Int)>3)=O/\F0 117 [cy r.aq,di 3,di (yr yq ((I (U ae m.ay):Int)-1))] (db J)/\Y (0<(I (U ce r.ar):Int))=J/\iz 0<=0/\(U ce r.ar)[Z 0]?=G (ce a)/\F0 54 [di a.place,di 0,di (yr yq ((I (U ae m.ay):Int)-1))] (db J)/\Y (a.low<0)=O/\Y (a.low>a.high)=O/\Y (a.high>yr yq (m.age+1))=O/\Y (yr yq (0+1)<(I (U ce r.ar):Int))=J/\0<=yr yq (0+1)/\(U ce r.ar)[Z (yr yq (0+1))]?=G (ce b)/\F0 54 [di b.place,di 0,di (yr yq ((I (U ae m.ay):Int)-1))] (db J)/\Y (b.low<0)=O/\Y (b.low>b.high)=O/\Y (b.high>yr yq (m.age+1))=O/\Y (yr yq (yr yq (0+1)+1)<(I (U ce r.ar):Int))=O/\Y (1<(I (U vi r.aq):Int))=O/\Q (db J)) ?_
  rw[hw,hwa]
  exact⟨by rw[←e];rfl,hfew,by rw[←e];rfl,Iv _,by rw[←e];rfl,hbt a (by simp),yo,yo,yo,by rw[←e];rfl,by decide,by rw[←e];rfl,hbt b (by simp),yo,yo,yo,by rw[←e];rfl,HU hml,rfl⟩
theorem ep.rt15{m:ba}(hm:ep m)(r:cq)(hr:r∈m.av):F0 58 [Ax m,AZ r] (db J):=by
 have h1:∀a b x,A6 x a b=J->F0 54 [di x,di a,di b] (db J):=fun a b x h=>h▸Cl x a b
 have hb:∀{x a b:Int},a<=x->x<=b->A6 x a b=J:=fun h1 h2=>by simp[A6,h1,h2]
 have hR:=hm.av r hr
 have hst:=hm.aw
 have ht:=WK m (by have:=hm.ay;omega) (by have:=hm.age;omega) r hR.tl hR.ar hR.ml hR.aq
 have hf:=hR.aj
 have hto:=hR.to
 have hw:yq.wrap ((I (m.aw.map ae):Int)-1)=(I m.aw:Int)-1:=CQ _ _ (by omega)
 have hre:=hR.rest
 have hk:=hm.kind
 clear hm hr hR
 generalize r.name=nm at*
 generalize r.aj=f at*
 generalize r.to=t at*
 generalize r.ar=tk at*
 generalize r.aq=mk at*
 subst hre
 obtain⟨kind,aw,ay,ax,au,ao,age,av,start⟩:=m
 dsimp only at*
 subst hk
 refine sv YN 234 [2,3] (.c (db J)<|.c (db J)<|.c (db J) .r) (F0 54 [di (d9 nm f t tk mk).aj,di 0,di (yr yq ((I (U ae (ba.mk 5 aw ay ax au ao age av start).aw):Int)-1))] (db J)/\F0 54 [di (d9 nm f t tk mk).to,di 0,di (yr yq ((I (U ae (ba.mk 5 aw ay ax au ao age av start).aw):Int)-1))] (db J)/\F0 118 [bt (AE (ba.mk 5 aw ay ax au ao age av start)),bt (AD (d9 nm f t tk mk))] (db J)/\db ((d9 nm f t tk mk).second==0)=db J) ?_
 rw[hw]
 have b1:A6 f 0 ((I aw:Int)-1)=J:=hb hf.1 (by omega)
 have b2:A6 t 0 ((I aw:Int)-1)=J:=hb hto.1 (by omega)
 exact⟨h1 _ _ _ b1,h1 _ _ _ b2,ht,rfl⟩
theorem ep.chk15{m:ba}(hm:ep m):F0 31 [Ax m] (di (if Aw (Cq m) m.start then 0 else 17)):=
 Pb m _ (by rw[hm.kind];rfl) hm.num15 hm.rnk15 hm.nam15 (K9 m _ _ (by have:=hm.count;omega) (by rw[hm.kind];rfl) (fun r hr=>hm.rt15 r hr) (t6 m hm.kind (by have:=hm.age;omega)) (Gk _ hm.good m.start) _ 0 rfl)
abbrev mc(c:UInt8)(ns np nl nr:Nat):List (List UInt8):=([(List.range ns).map (c6 113),(List.range np).map (c6 c),(List.range nl).map (c6 108)]:List (List (List UInt8))).flatten++(List.range nr).reverse.map (fun i=>c6 114 (i+1))
theorem Yo:∀ns,ns<4->∀np,np<4->∀nl,nl<4->∀nr,nr<5->fu [] (mc 112 ns np nl nr)=J:=by decide+kernel
theorem xc:∀ns,ns<4->∀np,np<4->∀nl,nl<4->∀nr,nr<5->fu [] (mc 99 ns np nl nr)=J:=by decide+kernel
theorem E6(c:UInt8)(n:Nat):I ((List.range n).map (c6 c))=n:=by simp
structure Hp(m:ba)(t:bc):Prop where
 good:B4 8 t=J
 dl:fg t=J
 dz:gz t<=128
 typ:∀v,F0 31 [Ax (B8 m v)] (di (if Aw t v then 0 else 17))/\F0 33 [Ax (B8 m v)] (dT t)
 bad:Aw t (.mk 0 [])=O
 lea:∃w,F0 46 [Ax (B8 m (.mk 0 []))] (dV w)/\Aw t w=J
theorem Hp.cfg{m:ba}{t:bc}(h:Hp m t){l:List Int}(hl:I l<=400)(rs:List cq)(c0:bd)(a:Nat)(s:Int)(ha:a<=I l):∃(c:bd) (a':Nat) (s':Int),Aw t c=J/\a'<=I l/\Aa PP 10 [.ptr 0 0,Ax (wR m rs c0)] (dk l a s) (dV c) (dk l a' s'):=by
 obtain⟨c,a',s',h1,h2,h3⟩:=Aaz l hl t h.good h.dl h.dz a s ha
 obtain⟨w,w1,w2⟩:=h.lea
 have e1:=(h.typ (.mk 0 [])).1
 rw[h.bad] at e1
 have e2:=h.typ w
 rw[w2] at e2
 exact⟨c,a',s',h1,h2,AcS l a s (wR m rs c0) t c a' s' (AcQ m t w (AeX e1) w1 (Ahq e2.1 e2.2) _ rfl) h3⟩
theorem AeR{m:ba}(h:m.okN)(hp:I m.ay<=3)(hst:I m.aw<=3)(hle:I m.ax<=3):fg (AJ m)=J/\gz (AJ m)<=128:=by
 have hz:=h.sz
 have he:fg (BB m)=J/\gz (BB m)<=4:=by
  unfold BB
  split
  ·exact⟨rfl,by show 1<=4;decide⟩
  ·split
   ·refine⟨?_,by show 1+3*1<=4;decide⟩
    show(Y ((1:Int)<=I m.ax)&&Y ((I m.ax:Int)<=100))=J
    rw[HS (by have:=hz.2.2.2.2.2.2.2 (by omega);omega),yp];rfl
   ·refine⟨?_,by show 4<=4;decide⟩
    show(Y ((1:Int)<=I m.ax)&&Y ((I m.ax:Int)<=100))=J
    rw[HS (by have:=hz.2.2.2.2.2.2.2 (by omega);omega),yp];rfl
 have hr:∀n:Nat,k7 (replicate n (BB m))=J/\kx (replicate n (BB m))<=4*n:=by
  intro n
  induction n with
  |zero=>exact⟨rfl,HX _⟩
  |succ n ih=>
   rw[IL]
   exact⟨by rw[k7,he.1,ih.1];rfl,by rw[kx];have:=he.2;have:=ih.2;omega⟩
 obtain⟨h1,h2⟩:=hr (I m.ay)
 refine⟨?_,?_⟩
 ·show(Y (I (replicate (I m.ay) (BB m))+1<=100)&&((Y ((1:Int)<=I m.aw)&&Y ((I m.aw:Int)<=100))&&k7 (replicate (I m.ay) (BB m))))=J
  rw[h1,length_replicate,yp,yp,yp];rfl
 ·show 1+(1+kx (replicate (I m.ay) (BB m)))<=128
  omega
theorem Y5{m:ba}(hst:1<=I m.aw)(hp:I m.ay<=3):Aw (AJ m) (VZ (I m.ay))=J:=by
 have he:A0 (BB m) (.mk 0 [])=J:=by
  unfold BB
  split
  ·rfl
  ·split<;>rfl
 have hr:∀n:Nat,B1 (replicate n (BB m)) (replicate n (.mk 0 []))=J:=by
  intro n
  induction n with
  |zero=>rfl
  |succ n ih=>rw[IL,IL,B1,he,ih];rfl
 have hs:∀n:Nat,bd.sizes (replicate n (bd.mk 0 []))=n:=by
  intro n
  induction n with
  |zero=>rfl
  |succ n ih=>rw[IL,bd.sizes,ih];show 1+n=n+1;omega
 rw[Aw,VZ,bd.size,hs,yp]
 show(((0:Int)==0)&&(((I (replicate (I m.ay+1) (bd.mk 0 [])):Int)==(I (bc.lab (I m.aw)::replicate (I m.ay) (BB m)):Int))&&(Cy (I m.aw) (.mk 0 [])&&B1 (replicate (I m.ay) (BB m)) (replicate (I m.ay) (.mk 0 [])))))=J
 rw[hr,HV,length_replicate,length_replicate,HD (x:=0) ⟨by omega,by omega⟩,beq_self_eq_true ((I m.ay+1:Nat):Int)];rfl
theorem Ad4(m:ba):Aw (AJ m) (.mk 0 [])=O:=by
 show(Y ((1:Int)<=128)&&(((0:Int)==0)&&((((0:Nat):Int)==(I (bc.lab (I m.aw)::replicate (I m.ay) (BB m)):Int))&&B1 _ [])))=O
 rw[show(((0:Nat):Int)==(I (bc.lab (I m.aw)::replicate (I m.ay) (BB m)):Int))=O from I7.2 (by rw[HV];omega)]
 rfl
theorem Yi{m:ba}(h:∀v,(B8 m v).okS)(hp:I m.ay<=3)(hst:I m.aw<=3)(hle:I m.ax<=3):Hp m (AJ m):=by
 have hn:=(h (.mk 0 [])).n
 have hd:=AeR hn hp hst hle
 have hl:F0 46 [Ax (B8 m (.mk 0 []))] (dV (VZ (I m.ay))):=AfO (B8 m (.mk 0 [])) (by rcases hn.kind with e|e|e<;>rw[e]<;>decide) (by rcases hn.kind with e|e|e<;>rw[e]<;>decide) (by show I m.ay<=100;omega)
 have hv:Aw (AJ m) (VZ (I m.ay))=J:=Y5 (m:=m) hn.sz.1 hp
 exact⟨hn.good,hd.1,hd.2,fun v=>⟨QA (B8 m v) (h v),L6 (B8 m v) (h v).n⟩,Ad4 m,_,hl,hv⟩
theorem Af6{m:ba}(h:∀v,d6 (B8 m v)):Hp m (BP m):=by
 have hn:=h (.mk 0 [])
 have hst:1<=I m.aw/\m.aw.length<=3:=hn.aw
 have hle:1<=I m.ax/\m.ax.length<=3:=hn.ax
 have hlv:m.ao=1∨m.ao=2:=hn.ao
 have b1:(Y ((1:Int)<=I m.aw)&&Y ((I m.aw:Int)<=100))=J:=by rw[yp,yp];rfl
 have b2:(Y ((1:Int)<=I m.ax)&&Y ((I m.ax:Int)<=100))=J:=by rw[yp,yp];rfl
 have b3:fg (fm (I m.ax) m.ao)=J/\gz (fm (I m.ax) m.ao)<=60:=by
  unfold fm
  split
  ·exact⟨b2,by show 1+3*1<=60;decide⟩
  ·refine⟨?_,by show 1+3*(1+(1+(1+3*1+0)))<=60;decide⟩
   show(Y (2<=100)&&((Y ((1:Int)<=I m.ax)&&Y ((I m.ax:Int)<=100))&&((Y ((1:Int)<=I m.ax)&&Y ((I m.ax:Int)<=100))&&true)))=J
   rw[b2];rfl
 have b4:∀_:bd,Aw (BP m) (.mk 0 [.mk 0 [],.mk 0 []])=J:=fun _=>by
  have e:A0 (fm (I m.ax) m.ao) (.mk 0 [])=J:=by unfold fm;split<;>rfl
  show(((0:Int)==0)&&((((2:Nat):Int)==((2:Nat):Int))&&(Cy (I m.aw) (.mk 0 [])&&(A0 (fm (I m.ax) m.ao) (.mk 0 [])&&true))))=J
  rw[e,HD (x:=0) ⟨by omega,by omega⟩];rfl
 refine⟨hn.good,?_,?_,fun v=>⟨(h v).chk15,t7 (B8 m v) (h v).kind hlv⟩,rfl,.mk 0 [.mk 0 [],.mk 0 []],Y8 (B8 m (.mk 0 [])) (.inl hn.kind),b4 (.mk 0 [])⟩
 ·show(Y (2<=100)&&((Y ((1:Int)<=I m.aw)&&Y ((I m.aw:Int)<=100))&&(fg (fm (I m.ax) m.ao)&&true)))=J
  rw[b1,b3.1];rfl
 ·show 1+(1+(gz (fm (I m.ax) m.ao)+0))<=128
  have:=b3.2;omega
theorem Af5{m:ba}(h:∀v,ep (B8 m v)):Hp m (Cq m):=by
 have hn:=h (.mk 0 [])
 have hst:1<=I m.aw/\m.aw.length<=3:=hn.aw
 have hpl:1<=I m.ay/\m.ay.length<=3:=hn.ay
 have hag:0<=m.age/\m.age<=2:=hn.age
 have b1:(Y ((1:Int)<=I m.aw)&&Y ((I m.aw:Int)<=100))=J:=by rw[yp,yp];rfl
 have b2:(Y ((1:Int)<=I m.ay)&&Y ((I m.ay:Int)<=100))=J:=by rw[yp,yp];rfl
 have b3:(Y ((1:Int)<=m.age+2)&&Y (m.age+2<=100))=J:=by rw[yp,yp];rfl
 have b4:Aw (Cq m) (.mk 0 [.mk 0 [],.mk 0 []])=J:=by
  show(((0:Int)==0)&&((((2:Nat):Int)==((2:Nat):Int))&&(Cy (I m.aw) (.mk 0 [])&&(true&&true))))=J
  rw[HD (x:=0) ⟨by omega,by omega⟩];rfl
 refine⟨hn.good,?_,by show 1+(1+(1+3*(1+(1+(1+0)))+0))<=128;decide,fun v=>⟨(h v).chk15,t6 (B8 m v) (h v).kind ⟨hag.1,by show m.age<=1000;omega⟩⟩,rfl,.mk 0 [.mk 0 [],.mk 0 []],Y8 (B8 m (.mk 0 [])) (.inr hn.kind),b4⟩
 show(Y (2<=100)&&((Y ((1:Int)<=I m.aw)&&Y ((I m.aw:Int)<=100))&&((Y (2<=100)&&((Y ((1:Int)<=I m.ay)&&Y ((I m.ay:Int)<=100))&&((Y ((1:Int)<=m.age+2)&&Y (m.age+2<=100))&&true)))&&true)))=J
 rw[b1,b2,b3];rfl
abbrev fh:Int:=11400714819323198485
inductive D1 (m:ba):bc->Prop where
 |ct (h:m.ok) (hk:m.kind=1):D1 m (AJ m)
 |ch (h:m.ok) (hk:m.kind=2∨m.kind=3) (hp:I m.ay<=2) (hr:∀r∈m.av,l9 m r):D1 m (AJ m)
 |ns (h:d6 m) (hs:Aw (BP m) m.start=J):D1 m (BP m)
 |tm (h:ep m) (hs:Aw (Cq m) m.start=J):D1 m (Cq m)
theorem Tm{l:List Int}(hl:I l<=400)(m:ba)(hk:m.kind≠6){t:bc}(hnum:Hp m t)(QR:cq->Prop)(hrule:∀(rs:List cq) (a:Nat) (s:Int),a<=I l->∃(r:cq) (a':Nat) (s':Int),(∀nm,QR (ge r nm))/\a'<=I l/\Aa PP 23 [.ptr 0 0,Ax (wR m rs (.mk 0 []))] (dk l a s) (AZ r) (dk l a' s'))
  (n:Nat) (hn:n<=4) (a:Nat) (s:Int) (ha:a<=I l)
  (c9:∀(d:D) (a':Nat) (s':Int),Rn PP Fg 1 d (dk l a' s') (Vv++[]) (b9 103 [(0,.ptr 0 0),(1,di m.kind),(4,.ptr 1 0),(5,.ptr 2 0),(6,di (n:Nat))]) (Rq l a s m [])->Aa PP 9 [.ptr 0 0,di 0] (dk l 0 fh) d (dk l a' s')):
  ∃(rs:List cq) (c:bd) (a':Nat) (s':Int),(∀r∈rs,QR r)/\rs.map cq.name=(List.range n).reverse.map (fun i=>c6 114 (i+1))/\rs.length=n/\Aw t c=J/\a'<=I l/\Aa PP 9 [.ptr 0 0,di 0] (dk l 0 fh) (Ax (wR m rs c)) (dk l a' s'):=by
 obtain⟨rs,c,a',s',h1,h2,h3,h4,h5⟩:=AfC l m hk QR hrule (fun c=>Aw t c=J) (fun rs a s ha=>hnum.cfg hl rs _ a s ha) n [] a s (by omega) (by simp) (by simp) ha
 rw[IP,List.nil_append] at h2
 have h6:=Iq I h2
 rw[HP,HP,List.length_reverse,List.length_range] at h6
 exact⟨rs,c,a',s',h1,h2,h6,h3,h4,c9 _ _ _ h5⟩
theorem CE{x a b:Int}(h1:a<=x)(h2:x<=b):A6 x a b=J:=by simp[A6,h1,h2]
theorem AhG{m:ba}(hk:m.kind=1)(nm:List UInt8){f t:Int}{nd gv mv:List Int}(h1:0<=f/\f<I m.aw)(h2:0<=t/\t<I m.aw)(h3:I nd=I m.ay/\∀x∈nd,0<=x/\x<=2)(h4:I gv=I m.ay/\∀x∈gv,0<=x/\x<=2)(h5:mv=[]∨mv.length=I m.ay/\∀x∈mv, -1<=x/\x<I m.ay)(hp:I m.ay<=10):cq.short (ge (j5 f t nd gv mv) nm)/\Da m (ge (j5 f t nd gv mv) nm)=J:=by
 refine⟨⟨by show I nd<=1000000;omega,by show I gv<=1000000;omega,by show I mv<=1000000;exact h5.elim (fun e=>by rw[e];exact I3 _) (fun h=>by omega),I3 _,I3 _,I3 _,I3 _⟩,?_⟩
 rw[Da,Io hk]
 simp only[Ec,BY,BU,Ow,HR,ID,I4,Ia,I6,true_and,HZ]
 refine⟨CE (by omega) (by omega),CE (by omega) (by omega),⟨by omega,by omega,fun x hx=>CE (h3.2 x hx).1 (by have:=(h3.2 x hx).2;omega),fun x hx=>CE (h4.2 x hx).1 (by have:=(h4.2 x hx).2;omega)⟩,?_⟩
 rcases h5 with e|⟨e1,e2⟩
 ·simp[Dc,e]
 ·simp only[Dc,Bool.or_eq_true,HR,ID,I4]
  exact .inr ⟨by omega,fun x hx=>CE (e2 x hx).1 (by have:=(e2 x hx).2;omega)⟩
theorem AhF{m:ba}(hk:m.kind≠1)(nm:List UInt8){f t ac chn le:Int}(h1:0<=f/\f<I m.aw)(h2:0<=t/\t<I m.aw)(h3:ac=0/\chn=0/\le=0∨(1<=ac/\ac<=2)/\(0<=chn/\chn<I m.ay)/\(0<=le/\le<I m.ax)):cq.short (ge (ii [] f t chn ac le) nm)/\Da m (ge (ii [] f t chn ac le) nm)=J:=by
 refine⟨⟨I3 _,I3 _,I3 _,I3 _,I3 _,I3 _,I3 _⟩,?_⟩
 rw[Da,Ij hk]
 simp only[Es,BU,He,ii,DW,HR,I4,Ia,I6,true_and]
 refine⟨CE (by omega) (by omega),CE (by omega) (by omega),?_⟩
 rcases h3 with⟨rfl,rfl,rfl⟩|⟨h1,h2,h3⟩
 ·rfl
 ·rw[Ij (by omega)]
  simp only[HR]
  exact⟨CE (by omega) (by omega),CE (by omega) (by omega),CE (by omega) (by omega)⟩
theorem AkV{l:List Int}(hl:I l<=400){K:Int}(hK:K=1){ns:Nat}(hns:1<=ns/\ns<=3){a:Nat}(ha:a<=I l){s:Int}(go:∀(d:D) (a':Nat) (s':Int),Wo l d a' s' a s K ((List.range ns).map (c6 113))->Aa PP 9 [.ptr 0 0,di 0] (dk l 0 fh) d (dk l a' s')):
  ∃(m:ba) (t:bc) (a':Nat) (s':Int),Hp m t/\D1 m t/\m.av.length<=4/\a'<=I l/\Aa PP 9 [.ptr 0 0,di 0] (dk l 0 fh) (Ax m) (dk l a' s'):=by
 obtain⟨p,a2,s2,p1,p2,p3⟩:=AY l hl a ha s 3 (by decide) (by decide)
 obtain⟨p,rfl⟩:∃n:Nat,p=n:=⟨p.toNat,by omega⟩
 obtain⟨n,a9,s9,n1,n2,n3⟩:=AY l hl a2 p2 s2 5 (by decide) (by decide)
 obtain⟨n,rfl⟩:∃k:Nat,n=k:=⟨n.toNat,by omega⟩
 have hP:=EB 112 (p+1) (by omega)
 obtain⟨S,hS⟩:∃S,S=(List.range ns).map (c6 113):=⟨_,rfl⟩
 obtain⟨P,hPe⟩:∃S,S=(List.range (p+1)).map (c6 112):=⟨_,rfl⟩
 have hSl:I S=ns:=by rw[hS,E6]
 have hPl:I P=p+1:=by rw[hPe,E6]
 rw[←hS] at go
 rw[←hPe] at hP
 obtain⟨m0,hm0⟩:∃m:ba,m=⟨K,S,P,[],[],0,0,[],.mk 0 []⟩:=⟨_,rfl⟩
 have hk0:m0.kind=1:=by rw[hm0];exact hK
 have okN:∀(rs:List cq) (c:bd),I rs<=4->rs.map cq.name=(List.range (I rs)).reverse.map (fun i=>c6 114 (i+1))->(wR m0 rs c).okN:=fun rs c hr hn=>by
  refine⟨.inl hk0,?_,?_,?_⟩
  ·rw[show HC (wR m0 rs c)=pf from Io hk0,hm0]
   simp only[C3,HR,Ia]
   exact⟨CE (by omega) (by omega),by omega,CE (by omega) (by omega),by decide,by decide,by decide⟩
  ·rw[BJ,Io (by show(m0.kind !=3)=J;rw[hk0];rfl),hm0];rfl
  ·have e:Dq (wR m0 rs c)=mc 112 ns (p+1) 0 (I rs):=by rw[Dq,hn,BR,hm0,hS,hPe];rfl
   rw[Db,e]
   exact Yo ns (by omega) (p+1) (by omega) 0 (by omega) (I rs) (by omega)
 have hnum:Hp m0 (AJ m0):=Yi (fun v=>⟨okN [] v (by decide) rfl,by simp,by simp⟩) (by rw[hm0];show I P<=3;omega) (by rw[hm0];show I S<=3;omega) (by rw[hm0];exact I3 _)
 have hst:1<=I m0.aw/\m0.aw.length<=100:=by rw[hm0];show 1<=I S/\S.length<=100;omega
 have hpl:1<=I m0.ay/\m0.ay.length<=100:=by rw[hm0];show 1<=I P/\P.length<=100;omega
 have hpl2:I m0.ay<=10:=by rw[hm0];show I P<=10;omega
 obtain⟨rs,c,a',s',r1,r2,r3,r4,r5,r6⟩:=Tm hl m0 (by omega) hnum (fun r=>r.short/\Da m0 r=J) (fun rs a s ha=>by
  obtain⟨f,t,nd,gv,mv,a',s',h1,h2,h3,h4,h5,h6,h7⟩:=AhB l hl (wR m0 rs (.mk 0 [])) hk0 hst hpl a s ha
  exact⟨_,a',s',fun nm=>AhG hk0 nm h1 h2 h3 h4 h5 hpl2,h6,h7⟩) n (by omega) a9 s9 n2 (fun d a' s' h=>go d a' s' (by
   have:=mo1 l m0 K S P p a2 s2 (by omega) a a9 s s9 n d a' s' hK hm0 p3 hP n3 h
   exact this))
 have hok:(wR m0 rs c).okN:=okN rs c (by omega) (by rw[r3];exact r2)
 have hsz:c.size<=1000000:=by have:=NF r4;omega
 exact⟨wR m0 rs c,AJ m0,a',s',⟨hnum.good,hnum.dl,hnum.dz,hnum.typ,hnum.bad,hnum.lea⟩,.ct ⟨hok.kind,hok.sized,hok.ranked,hok.named,fun r hr=>(r1 r hr).1,fun r hr=>(r1 r hr).2,r4,hsz⟩ hk0,by show I rs<=4;omega,r5,r6⟩
theorem Zb{l:List Int}(hl:I l<=400)(m0:ba)(hk:m0.kind=2∨m0.kind=3)(ns p q:Nat)(hns:1<=ns/\ns<=3)(hp:p<=1)(hq:q<=2)(R:List Int)(hR:if m0.kind=3 then I R=q+1/\∀x∈R,0<=x/\x<=2 else R=[])(hm:m0=⟨m0.kind,(List.range ns).map (c6 113),(List.range (p+1)).map (c6 99),(List.range (q+1)).map (c6 108),R,0,0,[],.mk 0 []⟩)(n:Nat)(hn:n<=4)(a:Nat)(s:Int)(ha:a<=I l)
  (c9:∀(d:D) (a':Nat) (s':Int),Rn PP Fg 1 d (dk l a' s') (Vv++[]) (b9 103 [(0,.ptr 0 0),(1,di m0.kind),(4,.ptr 1 0),(5,.ptr 2 0),(6,di (n:Nat))]) (Rq l a s m0 [])->Aa PP 9 [.ptr 0 0,di 0] (dk l 0 fh) d (dk l a' s')):∃(m:ba) (t:bc) (a':Nat) (s':Int),Hp m t/\D1 m t/\m.av.length<=4/\a'<=I l/\Aa PP 9 [.ptr 0 0,di 0] (dk l 0 fh) (Ax m) (dk l a' s'):=by
 have e1:m0.aw=(List.range ns).map (c6 113):=by rw[hm]
 have e2:m0.ay=(List.range (p+1)).map (c6 99):=by rw[hm]
 have e3:m0.ax=(List.range (q+1)).map (c6 108):=by rw[hm]
 have e4:m0.au=R:=by rw[hm]
 have e5:m0.ao=0:=by rw[hm]
 have e6:m0.age=0:=by rw[hm]
 have l1:I m0.aw=ns:=by rw[e1,E6]
 have l2:I m0.ay=p+1:=by rw[e2,E6]
 have l3:I m0.ax=q+1:=by rw[e3,E6]
 have hk1:¬m0.kind=1:=by omega
 clear hm
 have okN:∀(rs:List cq) (c:bd),I rs<=4->rs.map cq.name=(List.range (I rs)).reverse.map (fun i=>c6 114 (i+1))->(wR m0 rs c).okN:=fun rs c hr hn=>by
  refine⟨.inr hk,?_,?_,?_⟩
  ·rw[show HC (wR m0 rs c)=mf from Ij hk1]
   simp only[C3,HR,Ia]
   exact⟨CE (by omega) (by omega),by omega,CE (by show(1:Int)<=I m0.ay;omega) (by show(I m0.ay:Int)<=2;omega),CE (by show(1:Int)<=I m0.ax;omega) (by show(I m0.ax:Int)<=6;omega),by rw[e5];decide,by rw[e6];decide⟩
  ·show(if (m0.kind !=3)=J then(I m0.au:Int)==0 else((I m0.au:Int)==I m0.ax)&&m0.au.all fun x=>A6 x 0 5)=J
   rcases hk with hk|hk
   ·rw[Ij (by omega)] at hR
    rw[Io (by rw[hk];rfl),e4,hR];rfl
   ·rw[Io hk] at hR
    rw[Ij (by rw[hk];decide),e4]
    simp only[HR,I4,ID]
    exact⟨by omega,fun x hx=>CE (hR.2 x hx).1 (by have:=(hR.2 x hx).2;omega)⟩
  ·have e:Dq (wR m0 rs c)=mc 99 ns (p+1) (q+1) (I rs):=by
    show [m0.aw,m0.ay,m0.ax].flatten++rs.map cq.name=_
    rw[hn,e1,e2,e3]
   rw[Db,e]
   exact xc ns (by omega) (p+1) (by omega) (q+1) (by omega) (I rs) (by omega)
 have hnum:Hp m0 (AJ m0):=Yi (fun v=>⟨okN [] v (by decide) rfl,by simp,by simp⟩) (by omega) (by omega) (by omega)
 obtain⟨rs,c,a',s',r1,r2,r3,r4,r5,r6⟩:=Tm hl m0 (by omega) hnum (fun r=>(r.short/\Da m0 r=J)/\l9 m0 r) (fun rs a s ha=>by
  obtain⟨f,t,ac,chn,le,a',s',h1,h2,h3,h6,h7⟩:=AhA l hl (wR m0 rs (.mk 0 [])) hk (by show 1<=I m0.aw/\m0.aw.length<=100;omega) (by show 1<=I m0.ay/\m0.ay.length<=100;omega) (by show 1<=I m0.ax/\m0.ax.length<=100;omega) a s ha
  have hc:(0<=chn/\chn<I m0.ay)/\(ac=1->0<=le/\le<I m0.ax):=by
   rcases h3 with⟨_,_,_⟩|⟨_,x,y⟩
   ·omega
   ·exact⟨x,fun _=>y⟩
  exact⟨_,a',s',fun nm=>⟨AhF hk1 nm h1 h2 h3,⟨h2,hc.1,hc.2⟩⟩,h6,h7⟩) n hn a s ha c9
 have hok:(wR m0 rs c).okN:=okN rs c (by omega) (by rw[r3];exact r2)
 have hsz:c.size<=1000000:=by have:=NF r4;omega
 exact⟨wR m0 rs c,AJ m0,a',s',⟨hnum.good,hnum.dl,hnum.dz,hnum.typ,hnum.bad,hnum.lea⟩,.ch ⟨hok.kind,hok.sized,hok.ranked,hok.named,fun r hr=>(r1 r hr).1.1,fun r hr=>(r1 r hr).1.2,r4,hsz⟩ hk (by show I m0.ay<=2;omega) (fun r hr=>⟨(r1 r hr).2.to,(r1 r hr).2.chan,(r1 r hr).2.letter⟩),by show I rs<=4;omega,r5,r6⟩
theorem AkU{l:List Int}(hl:I l<=400){K:Int}(hK:K=2){ns:Nat}(hns:1<=ns/\ns<=3){a:Nat}(ha:a<=I l){s:Int}(go:∀(d:D) (a':Nat) (s':Int),Wo l d a' s' a s K ((List.range ns).map (c6 113))->Aa PP 9 [.ptr 0 0,di 0] (dk l 0 fh) d (dk l a' s')):∃(m:ba) (t:bc) (a':Nat) (s':Int),Hp m t/\D1 m t/\m.av.length<=4/\a'<=I l/\Aa PP 9 [.ptr 0 0,di 0] (dk l 0 fh) (Ax m) (dk l a' s'):=by
 obtain⟨p,a2,s2,p1,p2,p3⟩:=AY l hl a ha s 2 (by decide) (by decide)
 obtain⟨p,rfl⟩:∃n:Nat,p=n:=⟨p.toNat,by omega⟩
 obtain⟨q,a3,s3,q1,q2,q3⟩:=AY l hl a2 p2 s2 3 (by decide) (by decide)
 obtain⟨q,rfl⟩:∃n:Nat,q=n:=⟨q.toNat,by omega⟩
 obtain⟨n,a9,s9,n1,n2,n3⟩:=AY l hl a3 q2 s3 5 (by decide) (by decide)
 obtain⟨n,rfl⟩:∃k:Nat,n=k:=⟨n.toNat,by omega⟩
 have hP:=EB 99 (p+1) (by omega)
 have hL:=EB 108 (q+1) (by omega)
 subst hK
 exact Zb hl ⟨2,(List.range ns).map (c6 113),(List.range (p+1)).map (c6 99),(List.range (q+1)).map (c6 108),[],0,0,[],.mk 0 []⟩ (.inl rfl) ns p q hns (by omega) (by omega) [] rfl rfl n (by omega) a9 s9 n2 (fun d a' s' h=>go d a' s' (mo2 l _ 2 _ _ _ p q a2 a3 s2 s3 (by omega) (by omega) a a9 s s9 n d a' s' rfl rfl p3 hP q3 hL n3 h))
theorem AkT{l:List Int}(hl:I l<=400){K:Int}(hK:K=3){ns:Nat}(hns:1<=ns/\ns<=3){a:Nat}(ha:a<=I l){s:Int}(go:∀(d:D) (a':Nat) (s':Int),Wo l d a' s' a s K ((List.range ns).map (c6 113))->Aa PP 9 [.ptr 0 0,di 0] (dk l 0 fh) d (dk l a' s')):∃(m:ba) (t:bc) (a':Nat) (s':Int),Hp m t/\D1 m t/\m.av.length<=4/\a'<=I l/\Aa PP 9 [.ptr 0 0,di 0] (dk l 0 fh) (Ax m) (dk l a' s'):=by
 obtain⟨p,a2,s2,p1,p2,p3⟩:=AY l hl a ha s 2 (by decide) (by decide)
 obtain⟨p,rfl⟩:∃n:Nat,p=n:=⟨p.toNat,by omega⟩
 obtain⟨q,a3,s3,q1,q2,q3⟩:=AY l hl a2 p2 s2 3 (by decide) (by decide)
 obtain⟨q,rfl⟩:∃n:Nat,q=n:=⟨q.toNat,by omega⟩
 obtain⟨R,a4,s4,R1,R2,R3,R4⟩:=AhD l hl a3 q2 s3 (q+1) (by omega)
 obtain⟨n,a9,s9,n1,n2,n3⟩:=AY l hl a4 R1 s4 5 (by decide) (by decide)
 obtain⟨n,rfl⟩:∃k:Nat,n=k:=⟨n.toNat,by omega⟩
 have hP:=EB 99 (p+1) (by omega)
 have hL:=EB 108 (q+1) (by omega)
 subst hK
 have hR4:Aa PP 21 [.ptr 0 0,di (I ((List.range (q+1)).map (c6 108)))] (dk l a3 s3) (cy R) (dk l a4 s4):=by rw[E6];exact R4
 exact Zb hl ⟨3,(List.range ns).map (c6 113),(List.range (p+1)).map (c6 99),(List.range (q+1)).map (c6 108),R,0,0,[],.mk 0 []⟩ (.inr rfl) ns p q hns (by omega) (by omega) R ⟨R2,R3⟩ rfl n (by omega) a9 s9 n2 (fun d a' s' h=>go d a' s' (mo3 l _ 3 _ _ _ R p q a2 a3 a4 s2 s3 s4 (by omega) (by omega) a a9 s s9 n d a' s' rfl rfl p3 hP q3 hL hR4 n3 h))
theorem AkS{l:List Int}(hl:I l<=400){K:Int}(hK:K=4){ns:Nat}(hns:1<=ns/\ns<=3){a:Nat}(ha:a<=I l){s:Int}(go:∀(d:D) (a':Nat) (s':Int),Wo l d a' s' a s K ((List.range ns).map (c6 113))->Aa PP 9 [.ptr 0 0,di 0] (dk l 0 fh) d (dk l a' s')):∃(m:ba) (t:bc) (a':Nat) (s':Int),Hp m t/\D1 m t/\m.av.length<=4/\a'<=I l/\Aa PP 9 [.ptr 0 0,di 0] (dk l 0 fh) (Ax m) (dk l a' s'):=by
 obtain⟨p,a2,s2,p1,p2,p3⟩:=AY l hl a ha s 3 (by decide) (by decide)
 obtain⟨p,rfl⟩:∃n:Nat,p=n:=⟨p.toNat,by omega⟩
 obtain⟨q,a3,s3,q1,q2,q3⟩:=AY l hl a2 p2 s2 2 (by decide) (by decide)
 obtain⟨q,rfl⟩:∃n:Nat,q=n:=⟨q.toNat,by omega⟩
 obtain⟨n,a9,s9,n1,n2,n3⟩:=AY l hl a3 q2 s3 5 (by decide) (by decide)
 obtain⟨n,rfl⟩:∃k:Nat,n=k:=⟨n.toNat,by omega⟩
 have hL:=EB 108 (p+1) (by omega)
 obtain⟨m0,hm0⟩:∃m:ba,m=⟨K,(List.range ns).map (c6 113),[],(List.range (p+1)).map (c6 108),[],(q+1:Nat),0,[],.mk 0 []⟩:=⟨_,rfl⟩
 have e0:m0.kind=K:=by rw[hm0]
 have e1:m0.aw=(List.range ns).map (c6 113):=by rw[hm0]
 have e2:m0.ay=[]:=by rw[hm0]
 have e3:m0.ax=(List.range (p+1)).map (c6 108):=by rw[hm0]
 have e4:m0.au=[]:=by rw[hm0]
 have e5:m0.ao=(q+1:Nat):=by rw[hm0]
 have e6:m0.age=0:=by rw[hm0]
 have l1:I m0.aw=ns:=by rw[e1,E6]
 have l3:I m0.ax=p+1:=by rw[e3,E6]
 have hk0:m0.kind=4:=by omega
 have okN:∀(rs:List cq) (c:bd),I rs<=4->rs.map cq.name=(List.range (I rs)).reverse.map (fun i=>c6 114 (i+1))->(∀r∈rs,qr m0 r)->d6 (wR m0 rs c):=fun rs c hr hn hq=>by
  refine⟨hk0,by show 1<=I m0.aw/\m0.aw.length<=3;omega,e2,by show 1<=I m0.ax/\m0.ax.length<=3;omega,e4,by show m0.ao=1∨m0.ao=2;omega,e6,hr,?_,fun r hr=>⟨(hq r hr).aj,(hq r hr).to,(hq r hr).pl,(hq r hr).path,(hq r hr).nl,(hq r hr).next,(hq r hr).some,(hq r hr).rest⟩⟩
  have e:Dq (wR m0 rs c)=mc 99 ns 0 (p+1) (I rs):=by
   show [m0.aw,m0.ay,m0.ax].flatten++rs.map cq.name=_
   rw[hn,e1,e2,e3];rfl
  rw[Db,e]
  exact xc ns (by omega) 0 (by omega) (p+1) (by omega) (I rs) (by omega)
 have hnum:Hp m0 (BP m0):=Af6 fun v=>okN [] v (by decide) rfl (by simp)
 obtain⟨rs,c,a',s',r1,r2,r3,r4,r5,r6⟩:=Tm hl m0 (by omega) hnum (qr m0) (fun rs a s ha=>by
  obtain⟨f,t,u,v,a',s',h1,h2,h3,h4,h5,h6,h7⟩:=Ah9 l hl (wR m0 rs (.mk 0 [])) hk0 (by show 1<=I m0.aw/\m0.aw.length<=100;omega) (by show 1<=I m0.ax/\m0.ax.length<=100;omega) (by show 1<=m0.ao/\m0.ao<=2;omega) a s ha
  exact⟨_,a',s',fun nm=>⟨h1,h2,h3.1,h3.2,h4.1,h4.2,h5,rfl⟩,h6,h7⟩) n (by omega) a9 s9 n2 (fun d a' s' h=>go d a' s' (by
   rw[←e0]
   have:=mo4 l m0 m0.kind ((List.range ns).map (c6 113)) ((List.range (p+1)).map (c6 108)) p q a2 a3 s2 s3 (by omega) (by omega) a a9 s s9 n d a' s' hk0 (by rw[hm0]) p3 hL q3 n3 h
   exact this))
 have hok:d6 (wR m0 rs c):=okN rs c (by omega) (by rw[r3];exact r2) r1
 exact⟨wR m0 rs c,BP m0,a',s',⟨hnum.good,hnum.dl,hnum.dz,hnum.typ,hnum.bad,hnum.lea⟩,.ns hok r4,by show I rs<=4;omega,r5,r6⟩
theorem Za{l:List Int}(hl:I l<=400)(m0:ba)(hk:m0.kind=5)(ns p:Nat)(hns:1<=ns/\ns<=3)(hp:p<=2)(hm:m0=⟨m0.kind,(List.range ns).map (c6 113),(List.range (p+1)).map (c6 112),[],[],0,m0.age,[],.mk 0 []⟩)(hag:0<=m0.age/\m0.age<=2)(n:Nat)(hn:n<=4)(a:Nat)(s:Int)(ha:a<=I l)
  (c9:∀(d:D) (a':Nat) (s':Int),Rn PP Fg 1 d (dk l a' s') (Vv++[]) (b9 103 [(0,.ptr 0 0),(1,di m0.kind),(4,.ptr 1 0),(5,.ptr 2 0),(6,di (n:Nat))]) (Rq l a s m0 [])->Aa PP 9 [.ptr 0 0,di 0] (dk l 0 fh) d (dk l a' s')):∃(m:ba) (t:bc) (a':Nat) (s':Int),Hp m t/\D1 m t/\m.av.length<=4/\a'<=I l/\Aa PP 9 [.ptr 0 0,di 0] (dk l 0 fh) (Ax m) (dk l a' s'):=by
 have e1:m0.aw=(List.range ns).map (c6 113):=by rw[hm]
 have e2:m0.ay=(List.range (p+1)).map (c6 112):=by rw[hm]
 have e3:m0.ax=[]:=by rw[hm]
 have e4:m0.au=[]:=by rw[hm]
 have e5:m0.ao=0:=by rw[hm]
 have l1:I m0.aw=ns:=by rw[e1,E6]
 have l2:I m0.ay=p+1:=by rw[e2,E6]
 clear hm
 have okN:∀(rs:List cq) (c:bd),I rs<=4->rs.map cq.name=(List.range (I rs)).reverse.map (fun i=>c6 114 (i+1))->(∀r∈rs,tu m0 r)->ep (wR m0 rs c):=fun rs c hr hn hq=>by
  refine⟨hk,by show 1<=I m0.aw/\m0.aw.length<=3;omega,by show 1<=I m0.ay/\m0.ay.length<=3;omega,e3,e4,e5,hag,hr,?_,fun r hr=>⟨(hq r hr).aj,(hq r hr).to,(hq r hr).tl,(hq r hr).ar,(hq r hr).ml,(hq r hr).aq,(hq r hr).rest⟩⟩
  have e:Dq (wR m0 rs c)=mc 112 ns (p+1) 0 (I rs):=by
   show [m0.aw,m0.ay,m0.ax].flatten++rs.map cq.name=_
   rw[hn,e1,e2,e3];rfl
  rw[Db,e]
  exact Yo ns (by omega) (p+1) (by omega) 0 (by omega) (I rs) (by omega)
 have hnum:Hp m0 (Cq m0):=Af5 fun v=>okN [] v (by decide) rfl (by simp)
 obtain⟨rs,c,a',s',r1,r2,r3,r4,r5,r6⟩:=Tm hl m0 (by omega) hnum (tu m0) (fun rs a s ha=>by
  obtain⟨f,t,tk,mk,a',s',h1,h2,h3,h4,h5,h8,h6,h7⟩:=Ah8 l hl (wR m0 rs (.mk 0 [])) hk (by show 1<=I m0.aw/\m0.aw.length<=100;omega) (by show 1<=I m0.ay/\m0.ay.length<=100;omega) (by show 0<=m0.age/\m0.age<=50;omega) a s ha
  exact⟨_,a',s',fun nm=>⟨h1,h2,h3,h4,h5,h8,rfl⟩,h6,h7⟩) n hn a s ha c9
 have hok:ep (wR m0 rs c):=okN rs c (by omega) (by rw[r3];exact r2) r1
 exact⟨wR m0 rs c,Cq m0,a',s',⟨hnum.good,hnum.dl,hnum.dz,hnum.typ,hnum.bad,hnum.lea⟩,.tm hok r4,by show I rs<=4;omega,r5,r6⟩
theorem AkR{l:List Int}(hl:I l<=400){K:Int}(hK:K=5){ns:Nat}(hns:1<=ns/\ns<=3){a:Nat}(ha:a<=I l){s:Int}(go:∀(d:D) (a':Nat) (s':Int),Wo l d a' s' a s K ((List.range ns).map (c6 113))->Aa PP 9 [.ptr 0 0,di 0] (dk l 0 fh) d (dk l a' s')):∃(m:ba) (t:bc) (a':Nat) (s':Int),Hp m t/\D1 m t/\m.av.length<=4/\a'<=I l/\Aa PP 9 [.ptr 0 0,di 0] (dk l 0 fh) (Ax m) (dk l a' s'):=by
 obtain⟨p,a2,s2,p1,p2,p3⟩:=AY l hl a ha s 3 (by decide) (by decide)
 obtain⟨p,rfl⟩:∃n:Nat,p=n:=⟨p.toNat,by omega⟩
 obtain⟨g,a3,s3,g1,g2,g3⟩:=AY l hl a2 p2 s2 2 (by decide) (by decide)
 obtain⟨b,a4,s4,b1,b2⟩:=SX l hl a3 g2 s3 6 (by decide) (by decide)
 obtain⟨n,a9,s9,n1,n2,n3⟩:=AY l hl a4 b1 s4 5 (by decide) (by decide)
 obtain⟨n,rfl⟩:∃k:Nat,n=k:=⟨n.toNat,by omega⟩
 have hP:=EB 112 (p+1) (by omega)
 subst hK
 cases b with
 |false=>exact Za hl ⟨5,(List.range ns).map (c6 113),(List.range (p+1)).map (c6 112),[],[],0,g,[],.mk 0 []⟩ rfl ns p hns (by omega) rfl (by show 0<=g/\g<=2;omega) n (by omega) a9 s9 n2 (fun d a' s' h=>go d a' s' (AlU l _ 5 _ _ p g a2 a3 a4 s2 s3 s4 (by omega) a a9 s s9 n d a' s' rfl rfl p3 hP g3 b2 n3 h))
 |true=>exact Za hl ⟨5,(List.range ns).map (c6 113),(List.range (p+1)).map (c6 112),[],[],0,2,[],.mk 0 []⟩ rfl ns p hns (by omega) rfl (by show(0:Int)<=2/\(2:Int)<=2;omega) n (by omega) a9 s9 n2 (fun d a' s' h=>go d a' s' (AlT l _ 5 _ _ p g a2 a3 a4 s2 s3 s4 (by omega) a a9 s s9 n d a' s' rfl rfl p3 hP g3 b2 n3 h))
theorem Acb{l:List Int}(hl:I l<=400):∃(m:ba) (t:bc) (a':Nat) (s':Int),Hp m t/\D1 m t/\m.av.length<=4/\a'<=I l/\Aa PP 9 [.ptr 0 0,di 0] (dk l 0 fh) (Ax m) (dk l a' s'):=by
 obtain⟨K,ns,a2,s2,hK,hns,ha,go⟩:=Aim l hl fh
 rcases(show K=1∨K=2∨K=3∨K=4∨K=5 by omega) with h|h|h|h|h
 ·exact AkV hl h hns ha go
 ·exact AkU hl h hns ha go
 ·exact AkT hl h hns ha go
 ·exact AkS hl h hns ha go
 ·exact AkR hl h hns ha go
end Go.Proofs.YthmjfmacdlhfjaaGreat
