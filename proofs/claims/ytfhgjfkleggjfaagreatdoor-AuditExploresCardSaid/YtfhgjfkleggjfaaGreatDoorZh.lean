/-
  A part of the proof.
-/
import Derived.Test.YtfhgjfkleggjfaaGreatDoorZg
import Derived.Test.YtfhgjfkleggjfaaGreatDoorZd
namespace Go.Proofs.YtfhgjfkleggjfaaGreatDoor
open Go.Dv Go.Nv
set_option maxRecDepth 20000
open List (length_pos_iff length_set map map_drop map_set map_take nil_append range_succ take take_length take_zero)
open Go.IntKind (u64)
open Go.IntKind renaming wrap → yu, i64 → yt
open List renaming length → I, map → U, drop → W
open Option renaming some → G
open Bool renaming true → J, false → O
open Decidable renaming decide → Y
open Int renaming toNat → Z
open Go.Dv.V renaming list → ai, str → ae, agg → ab, int → aa, ref → bz, fn → bw, nils → bv, bool → bu
open Go.Dv.D renaming v → bt, acc → br, ptr → bq, arr → bo, gro → bm, tup → bl, undef → bk, dagg → bj
open Go.Dv.St renaming mk → bi
open Go.Dv.KI renaming blk → bh
open _root_.ByteArray renaming mk → bf
open Go renaming Operand → x8, Program → x7, TypeId → x6, World → x5, Value → yz, Oper → yy, FuncId → yx, Func → yw, IntKind → yv
noncomputable abbrev Qi:=Tryz.f135
noncomputable def NB:=yl Qi
theorem Vy(v:bc)(hl:I v.az<=1000)(n:Nat):∀k:Nat,I v.az-k=n->
  Rn PP Qi 0 (.acc 1 ((AR v).map vi)) ⟨[],[(1,1,(AR v).map vi)]⟩ ([kl NB [1,1,0,1,0,0],.blk 0,kc NB [1,1,1]]++[]) (ba 22 [(1,.v (.ref (Ac v))),(3,.acc 1 (((AR v).take k).map vi)),(4,di k)]) ⟨[],[(1,1,((AR v).take k).map vi)]⟩:=by
 have hnl:I (AR v)=I v.az:=H9 _
 induction n with
 |zero=>
  intro k hn
  refine lv 22 [1] (.f .r) (Y ((k:Int)<(I (map eV v.az):Int))=O/\[(1,1,map vi (take k (AR v)))]=[(1,1,map vi (AR v))]/\br 1 (map vi (take k (AR v)))=br 1 (map vi (AR v))) ?_
  rw[Ic (by omega)]
  exact⟨HE (by rw[H9];omega),rfl,rfl⟩
 |succ n ih=>
  intro k hn
  obtain⟨x,hx⟩:∃x,v.az[k]?=G x:=⟨_,HA (show k<I v.az by omega)⟩
  have ht:((AR v).take (k+1)).map vi=((AR v).take k).map vi++[vi x.n]:=by rw[IM,Ir,hx];simp
  have ih':=ih (k+1) (by omega)
  rw[ht] at ih'
  have hz:I ((AR v).take k)<=1000:=by rw[Ig];omega
  generalize AR v=N at ih' hz⊢
  exact lv 22 [1] (.t<|.h (.xs (Ac x))<|.ls [ke 1,ch 3 (.acc 1 ((N.take k).map vi++[vi x.n])),ch 4 (di (k+1:Nat))] ⟨[],[(1,1,(N.take k).map vi++[vi x.n])]⟩) (Y ((k:Int)<(I (map eV v.az):Int))=J/\Q 2/\0<=(k:Int)/\(map eV v.az)[Z (k:Int)]?=G (Ac x)/\Q (map vi (take k N))/\Ao (I (map vi (take k N))+I (vi x.n::nV)) 8/\Q (br 1 (map vi (take k N)++[vi x.n]))/\di (yu yt ((k:Int)+1))=di (↑(k+1):Int)/\Q [(1,1,map vi (take k N)++vi x.n::nV)]/\_) ⟨HC (by rw[H9];omega),rfl,by omega,An hx,rfl,⟨by simp only[H9,HF,HJ];omega,by simp only[H9,HF,HJ];omega⟩,rfl,Ae,rfl,iK ih'⟩
theorem Vx(v:bc)(hl:I v.az<=1000):F0 135 [dV v] (cw (AR v)):=by
 have h:Aa PP 135 [dV v] bd (.acc 1 ((AR v).map vi)) ⟨[],[(1,1,(AR v).map vi)]⟩:=by
  exact sv Qi 22 [1] (.h (.q 2 0)<|.h (.nw 3 1 1)<|.ls [ke 1,ch 3 (.acc 1 []),ch 4 (di (0:Nat))] ⟨[],[(1,1,[])]⟩) (Q gp/\Q (di 0)/\Q [(1,1,nV)]/\_) ⟨rfl,rfl,rfl,iK (Vy v hl _ 0 rfl)⟩
 exact F3 h
noncomputable abbrev Qa:=Tryz.f189
noncomputable def N2:=yl Qa
theorem TS(w:List Int)(hw:I w<=1000)(n:Nat):∀k:Nat,I w-k=n->
  Rn PP Qa 0 (dV (ce w)) bd ([kl N2 [1,1,0,1,0,0],.blk 0,kc N2 [1,1,1]]++[]) (ba 22 [(0,cw w),(2,.ptr 0 0),(3,.ptr 1 0),(4,di k)]) (ij 0 ((w.take k).map lf)):=by
 induction n with
 |zero=>
  intro k hn
  refine lv 22 [] (.f .r) (Y ((k:Int)<(I (map vi w):Int))=O/\bt (ab [vi 0,ai (map eV (map lf (take k w)))])=dV (ce w)) ?_
  rw[Ic (by omega)]
  exact⟨HE (by rw[H9];omega),rfl⟩
 |succ n ih=>
  intro k hn
  obtain⟨x,hx⟩:=yk (show k<I w by omega)
  have ht:(w.take (k+1)).map lf=(w.take k).map lf++[lf x]:=by rw[IM,hx];simp
  have he:eV (lf x)=ab [vi x,ai []]:=by rw[AE];rfl
  refine lv 22 [] (.t<|.x (vi x)<|.ls (Ap3 k) (ij 0 ((w.take (k+1)).map lf))) (Y ((k:Int)<(I (map vi w):Int))=J/\0<=(k:Int)/\(map vi w)[Z (k:Int)]?=G (vi x)/\Q (map eV (map lf (take k w)))/\Ao (I (map eV (map lf (take k w)))+I (ab (gn x)::nV)) 32/\yp/\di (yu yt ((k:Int)+1))=di (↑(k+1):Int)/\[G [di 0,dn],G [di 0,br 1 (map eV (map lf (take k w))++ab (gn x)::nV)]]=[G [di 0,dn],G [di 0,br 1 (map eV (map lf (take (k+1) w)))]]/\[(1,2,map eV (map lf (take k w))++ab (gn x)::nV)]=[(1,2,map eV (map lf (take (k+1) w)))]/\_) ⟨HC (by rw[H9];omega),by omega,Am hx,rfl,⟨?_,?_⟩,yn,Ae,?_,?_,iK (ih (k+1) (by omega))⟩
  ·simp only[H9,Ig,HF,HJ];omega
  ·simp only[H9,Ig,HF,HJ];omega
  ·rw[ht,IQ,Ia,he];rfl
  ·rw[ht,IQ,Ia,he];rfl
theorem TR(w:List Int)(hw:I w<=1000):F0 189 [cw w] (dV (ce w)):=by
 have:=TS w hw _ 0 rfl
 exact sv Qa 22 [] (.h (.q 2 0)<|.h (.cl 1 1 1 2)<|.ls [ke 0,ke 2,ke 3,ch 4 (di (0:Nat))] (ij 0 [])) (Q (di 0)/\Q (ij 0 []).H/\Q [(1,2,nV)]/\I0 Qa (I bd.H) (dV (ce w)) bd [kl N2 d5,bh 0,kc N2 [1,1,1]] (ba 22 [(0,cw w),i7,jr,(4,di (↑0:Int))]) (ij 0 [])) ⟨rfl,rfl,rfl,⟨this⟩⟩
section
open Nv
theorem SY{P:x7}(hm:P.follows .mixedOrders=J){C:Nat}{fn:yw}{d:D}{σ':St}(nt:Nat)(im:List Nat){ks T:List KI}{L:List (Nat×D)}{σ:St}(s:Sc)
  (h:AY (ba nt L) fun env=>vc (CN C) C P (fun env σ1=>Az P fn env σ1 d σ') (fun _ env σ=>xe P fn.results.toList d σ' env σ) nt im T 10000 (.h .n s) ks env σ):Rn P fn C d σ' (ks++T) (ba nt L) σ:=by
 rw[AO] at h
 exact Pj (M5 _) (fun _ _ h=>h.2) hm (fun b env σ _ h=>Sh h) (by simp[ba,DA]) h
end
theorem F7{P:x7}{o:yy}{σ:St}{t:x6}{x:x8}(ho:o.op=.buildSlice t 1 #[(0,x)])
  {e:x6} {sz by':Nat} {z:Option yz} (hs:Cd P t=G (e,sz,by',z)) (hz:z.isSome=J) {d:D} (hd:d.sto=J) (hc:I (Ax d)=sz) (h1:0<sz) (h2:sz<=1000):
  Aj P o [d] σ (.gro (I σ.H) 1 sz) ⟨σ.H++[G (Ax d)],σ.own⟩:=by
 intro E g a w K Q hw hds hK
 simp only[ho,Op.operands] at hds
 obtain⟨i,hu,hi,rfl,rfl,rfl⟩:=AH hs
 obtain⟨zz,hzz⟩:=Option.isSome_iff_exists.1 hz
 obtain⟨u,eu,hr⟩:=A9.1 (by simpa using hds)
 simp only[HN,Io] at eu
 obtain⟨h5,h6,_⟩:=Go.Dv.cells_rep hd hr
 have hul:I u.cells.toList=i.size:=by rw[A4 h5,hc]
 have hf:=JC i.size [u] 0 [] ((Array.range (1*i.size)).map (zz.cells[· %zz.cells.size]!)).toList (by simp) (fun v hv=>by rw[HQ.1 hv];simpa using hul) (by simp)
 simp only[nil_append,Array.toArray_toList] at hf
 have hrun:=run_buildSlice (P:=P) w t e 1 #[(0,u)] _ i zz hu hi hzz (by omega) (by omega) (by simpa using hf)
 obtain⟨g',h3,h4,h5',h6',h7⟩:=hw.newObjR (us:=u.cells.toList) (rest:=[]) (cs:=Ax d) e h5 h6
 rw[Iz] at h3 h6'
 have:=hK g' _ (.slice (G ⟨w.heap.size,0,none⟩) 1 1) h3 h4 (by
  simp only[Ag]
  exact⟨by omega,1,HH _,by rw[h6',hul,Nat.one_mul],by rw[h5']⟩)
 unfold Oper.wp execOp
 simp only[ho]
 simp only[Sem.run_bind]
 have e2:(#[(0,x)].map fun(x:Nat×x8)=>match x with|(i,x)=>(i,a.eval x))= #[(0,u)]:=by simp[eu]
 rw[e2,hrun]
 exact this
abbrev fd(n:Int)(k:Nat)(L:List D)(own:List (Nat×Nat×List V)):St:=⟨[G [di 0,.v .nils],G [di n,.gro 2 k 2],G L],own⟩
abbrev uy(n:Int)(k:Nat)(L:List D)(own:List (Nat×Nat×List V)):St:=⟨[G [di n,.arr 2 0 k],G [di n,.arr 2 0 k],G L],own⟩
theorem ZF{σ:St}{p q i n sz:Nat}{cs:List D}(hp:σ.H[p]?=G (G cs))(hi:cs[i]?=G (.gro q n sz))(e:List D):Cv e σ e ⟨σ.H.set p (G (cs.set i (.arr q 0 n))),σ.own⟩:=
 Ec (σ:=σ) (q:=p) (cs:=cs) (cs':=cs.set i (.arr q 0 n)) hp (fun g us hr=>by
  obtain⟨u,hu,hru⟩:=BF hr hi
  have:=CR hr i (d:=.arr q 0 n) (u:=u) (DS.rep .gro hru)
  rwa[DV hu] at this) (fun h c hc=>by
  rcases IE hc with h2|h2
  ·exact h c h2
  ·rw[h2];rfl) e
abbrev fm(x:bc):List D:=[di x.n,cx x.az]
abbrev kcO(x:bc):List D:=[di x.n,.acc 1 (x.az.map eV)]
abbrev eb(x:bc):List (Nat×Nat×List V):=[(1,2,x.az.map eV)]
def fj(ts:List Nat)(L:List D):Prop:=(∀n,D.okNs n ts L=J)/\∀sel,D.rens sel id L=L
theorem fj.of{ts:List Nat}{L:List D}(h:D.pls L=J):fj ts L:=⟨fun _=>AS h,fun _=>AC h⟩
theorem J5{ρ τ:Nat->Nat}:∀(a b:List D),D.rens ρ τ (a++b)=D.rens ρ τ a++D.rens ρ τ b
 |[],_=>rfl
 |x::a,b=>by simp only[Jr,D.rens,J5 a b]
theorem J7{n:Nat}{ts:List Nat}:∀(a b:List D),D.okNs n ts (a++b)=(D.okNs n ts a&&D.okNs n ts b)
 |[],_=>by simp[D.okNs]
 |x::a,b=>by simp only[Jr,D.okNs,J7 a b,Bool.and_assoc]
theorem fj.app{ts:List Nat}{a b:List D}(h1:fj ts a)(h2:fj ts b):fj ts (a++b):=⟨fun n=>by rw[J7,h1.1,h2.1];rfl,fun sel=>by rw[J5,h1.2,h2.2]⟩
theorem fj.kcO(x:bc):fj [1] (kcO x):=⟨fun n=>by simp[D.okNs,D.okN],fun sel=>by simp[D.rens,D.ren]⟩
theorem Aia{R:List D->St->Prop}{ks:List KI}{e e':List D}(n:Int)(m:Nat)(F:List D)(own:List (Nat×Nat×List V))(hF:fj (own.map (·.1)) F)(he:D.okNs 3 (own.map (·.1)) e'=J)(hee:e=D.rens (fun i=>if i<2 then i else i+1) id e')
  (h:AB (CN 0) PP R ks e' (fd n m F own)) (T:Option (List D)):AB (CN 0) PP R ks e ⟨[G [di 0,.v .nils],G [di n,.gro 3 m 2],T,G F],own⟩:=by
 refine Ce (σ:=⟨[G [di 0,.v .nils],G [di n,.gro 3 m 2],T,G F],own⟩) (e':=e') (H':=(fd n m F own).H) (m:=0) (fun _ _ h=>h.2) (fun i=>if i<2 then i else i+1) (Ik _) (fun i hi=>by omega) (fun i j _ _ h=>?_) (fun i cs hi=>?_) he hee h
 ·have h:(if i<2 then i else i+1)=(if j<2 then j else j+1):=h
  split at h<;>split at h<;>omega
 ·match i,hi with
  |0,hi=>simp at hi;subst hi;exact⟨rfl,by simp[D.okNs,D.okN]⟩
  |1,hi=>simp at hi;subst hi;exact⟨rfl,by simp[D.okNs,D.okN]⟩
  |2,hi=>
   simp at hi;subst hi
   exact⟨by rw[hF.2];rfl,hF.1 _⟩
  |i+3,hi=>simp at hi
theorem Akq{R:List D->St->Prop}{ks:List KI}{e e':List D}(n:Int)(m:Nat)(F:List D)(own:List (Nat×Nat×List V))(hF:fj (own.map (·.1)) F)(he:D.okNs 3 (own.map (·.1)) e'=J)(hee:e=D.rens (fun i=>if i<2 then i else i+2) id e')
  (h:AB (CN 0) PP R ks e' (fd n m F own)) (T U:Option (List D)):AB (CN 0) PP R ks e ⟨[G [di 0,.v .nils],G [di n,.gro 4 m 2],T,U,G F],own⟩:=by
 refine Ce (σ:=⟨[G [di 0,.v .nils],G [di n,.gro 4 m 2],T,U,G F],own⟩) (e':=e') (H':=(fd n m F own).H) (m:=0) (fun _ _ h=>h.2) (fun i=>if i<2 then i else i+2) (Ik _) (fun i hi=>by omega) (fun i j _ _ h=>?_) (fun i cs hi=>?_) he hee h
 ·have h:(if i<2 then i else i+2)=(if j<2 then j else j+2):=h
  split at h<;>split at h<;>omega
 ·match i,hi with
  |0,hi=>simp at hi;subst hi;exact⟨rfl,by simp[D.okNs,D.okN]⟩
  |1,hi=>simp at hi;subst hi;exact⟨rfl,by simp[D.okNs,D.okN]⟩
  |2,hi=>
   simp at hi;subst hi
   exact⟨by rw[hF.2];rfl,hF.1 _⟩
  |i+3,hi=>simp at hi
theorem VD(x:bc)(hx:x.size<=1000000):Aa PP 101 [dV x] bd (.dagg (kcO x)) ⟨[],eb x⟩:=by
 have hk:∀y∈x.az,F0 101 [dV y] (dV y):=fun y hy=>DD _ y (HH _) (by have:=bc.size_mem hy;have:=x.size_eq;omega)
 have hs:=x.size_eq
 have hl:=bc.length_le x.az
 have loop (n:Nat):∀k:Nat,I x.az-k=n->Rn PP AZ 0 (.dagg (kcO x)) ⟨[],eb x⟩ ([kl A6 [1,1,0,1,0,0],.blk 0,kc A6 [1,1,1]]++[]) (ba 27 [(1,.v (.ref (Ac x))),(2,.ptr 0 0),(3,.ptr 1 0),(4,di k)]) (ij x.n (x.az.take k)):=by
  induction n with
  |zero=>
   intro k hn
   rw[Ic (by omega)]
   exact lv 27 [1] (.f<|.h (.m (.dagg (kcO x)))<|.h .ww<|.rd) (Y ((k:Int)<(I (map eV x.az):Int))=O/\2<=2/\[di x.n,br 1 (map eV x.az)]=kcO x/\2<=2/\Q [(1,2,map eV x.az)]/\Q (bj (kcO x))) ⟨HE (by rw[H9];omega),HH _,rfl,HH _,rfl,rfl⟩
  |succ n ih=>
   intro k hn
   obtain⟨y,hy⟩:∃x',x.az[k]?=G x':=⟨_,HA (show k<I x.az by omega)⟩
   have ht:x.az.take (k+1)=x.az.take k++[y]:=by rw[IM,hy];rfl
   refine lv 27 [1] (.t<|.h (.xs (Ac y))<|.c (dV y)<|.ls [ke 1,ke 2,ke 3,ch 4 (di (k+1:Nat))] (ij x.n (x.az.take (k+1)))) (Y ((k:Int)<(I (map eV x.az):Int))=J/\Q 2/\0<=(k:Int)/\(map eV x.az)[Z (k:Int)]?=G (Ac y)/\_/\Q (map eV (take k x.az))/\Ao (I (map eV (take k x.az))+I (Ac y::nV)) 32/\yp/\di (yu yt ((k:Int)+1))=di (↑(k+1):Int)/\[G [di 0,dn],G [di x.n,br 1 (map eV (take k x.az)++Ac y::nV)]]=[G [di 0,dn],G [di x.n,br 1 (map eV (take (k+1) x.az))]]/\[(1,2,map eV (take k x.az)++Ac y::nV)]=[(1,2,map eV (take (k+1) x.az))]/\_) ⟨HC (by rw[H9];omega),rfl,by omega,An hy,hk y (HG hy),rfl,⟨?_,?_⟩,yn,Ae,?_,?_,iK (ih (k+1) (by omega))⟩
   ·simp only[H9,Ig,HF,HJ];omega
   ·simp only[H9,Ig,HF,HJ];omega
   ·rw[ht,B1]
   ·rw[ht,B1]
 have:=loop _ 0 rfl
 exact sv AZ 27 [1] (.h .rn<|.h (.q 2 0)<|.h (.cl 1 1 1 2)<|.ls [ke 1,ke 2,ke 3,ch 4 (di (0:Nat))] (ij x.n [])) (Q (di 0)/\Q (ij x.n []).H/\Q [(1,2,nV)]/\I0 AZ (I bd.H) (bj (kcO x)) (bi [] (eb x)) ly (ba 27 [(1,bt (f7 x)),i7,jr,(4,di (↑0:Int))]) (ij x.n [])) ⟨rfl,rfl,rfl,⟨by simpa using this⟩⟩
theorem Alq{k:Nat}(hk:k<=1000)(x:V):Ao (k+1+I (x::nV)) 32:=⟨by simp only[HF,HJ];omega,by simp only[HF,HJ];omega⟩
section
variable {n : Int} {k : Nat} (hk : k <= 900) {L : List D} (hL : (I L) = (k + 1) * 2) {v : bc} {x : bc} (hx : v.az[k + 1]? = G x) {d : D} {σ' : St}
include hk hL hx
noncomputable abbrev s8:=fun a₀ b₀ c₀ d₀=>[G [di 0,dn],G [di a₀,bm 3 (b₀+1+1) 2],none,G (c₀++fm d₀)]
theorem Ajo(hn:F0 101 [dV x] (dV x))(hl:D.pls L=J)
  (next:Rn PP AZ 0 d σ' ([kl A6 [1,1,0,1,0,0],.blk 0,kc A6 [1,1,1]]++[]) (ba 27 [(1,.v (.ref (Ac v))),(2,.ptr 0 0),(3,.ptr 1 0),(4,di (k+1+1:Nat))]) (fd n (k+1+1) (L++fm x) [])):
  Rn PP AZ 0 d σ' ([kl A6 [1,1,0,1,0,0],.blk 0,kc A6 [1,1,1]]++[]) (ba 27 [(1,.v (.ref (Ac v))),(2,.ptr 0 0),(3,.ptr 1 0),(4,di (k+1:Nat))]) (fd n (k+1) L []):=by
 refine lv 27 [1] (.t<|.h (.xs (Ac x))<|.c (dV x)<|.lo [ke 1,ke 2,ke 3,ch 4 (di (k+1+1:Nat))] ⟨[G [di 0,.v .nils],G [di n,.gro 3 (k+1+1) 2],none,G (L++fm x)],[]⟩) (Y ((↑(k+1):Int)<(I (map eV v.az):Int))=J/\Q 2/\0<=(↑(k+1):Int)/\(map eV v.az)[Z (↑(k+1):Int)]?=G (Ac x)/\qn x/\I L=(k+1)*2/\[Ac x]≠ []/\(∀(y:V),y∈ [Ac x]->V.size y=2)/\Ao (k+1+I (Ac x::nV)) 32/\yp/\di (yu yt ((↑(k+1):Int)+1))=di (↑(k+1+1):Int)/\cm 4 [] [G [di 0,dn],G [di n,bm 3 (k+1+I (Ac x::nV)) 2],none,G (L++(c7 x.n x.az))]=J/\[G [di 0,dn],G [di n,bm 3 (k+1+I (Ac x::nV)) 2],none,G (L++(c7 x.n x.az))]=(s8 n k L x)/\I0 AZ 0 d σ' ly (ba 27 [(1,bt (f7 v)),i7,jr,(4,di (↑(k+1+1):Int))]) (bi (s8 n k L x) [])) ?_
 exact⟨HC (by rw[H9];have:=(HD.1 hx).1;omega),rfl,by omega,An hx,hn,hL,by simp,fun y hy=>by rw[HQ.1 hy];rfl,Alq (by omega) _,yn,Ae,by simp[cm,D.okNs,D.okN,(fj.of hl).app (fj.of (rfl:D.pls (fm x)=J))|>.1],rfl,⟨Aia n (k+1+1) _ [] ((fj.of hl).app (fj.of rfl)) (by simp[ba,D.okNs,D.okN]) (by simp[ba,D.rens,D.ren]) next none⟩⟩
noncomputable abbrev tg:=(Oper.mk (G 24) (Op.call (Call.mk (Callee.builtin Builtin.append) #[Operand.tmp 16,Operand.tmp 23] #[29,29])) 29 "ref.go:96" #[Edge.mk 1 Ground.data,Edge.mk 8 Ground.data,Edge.mk 7 Ground.chain] none)
noncomputable abbrev oq:=(Oper.mk (G 23) (Op.buildSlice 29 1 #[(0,Operand.tmp 22)]) 29 "ref.go:96" #[Edge.mk 7 Ground.data] none)
noncomputable abbrev wj:=fun a₀=>[bt (bw 101 [] []),dV a₀]
theorem Ajn(hn:Aa PP 101 [dV x] bd (.dagg (kcO x)) ⟨[],eb x⟩)(hl:D.pls L=J)
  (next:Rn PP AZ 0 d σ' ([kl A6 [1,1,0,1,0,0],.blk 0,kc A6 [1,1,1]]++[]) (ba 27 [(1,.v (.ref (Ac v))),(2,.ptr 0 0),(3,.ptr 1 0),(4,di (k+1+1:Nat))]) (fd n (k+1+1) (L++kcO x) (eb x))):
  Rn PP AZ 0 d σ' ([kl A6 [1,1,0,1,0,0],.blk 0,kc A6 [1,1,1]]++[]) (ba 27 [(1,.v (.ref (Ac v))),(2,.ptr 0 0),(3,.ptr 1 0),(4,di (k+1:Nat))]) (fd n (k+1) L []):=by
 refine lv 27 [1] (.t<|.h (.xs (Ac x))<|.h (.oc (.dagg (kcO x)) ⟨[G [di 0,.v .nils],G [di n,.gro 2 (k+1) 2],G L],eb x⟩)<|.h (.o (.gro 3 1 2) ⟨[G [di 0,.v .nils],G [di n,.gro 2 (k+1) 2],G L,G (kcO x)],eb x⟩)<|.h (.o (.gro 4 (k+1+1) 2) ⟨[G [di 0,.v .nils],G [di n,.gro 2 (k+1) 2],none,G (kcO x),G (L++kcO x)],eb x⟩)<|.lo [ke 1,ke 2,ke 3,ch 4 (di (k+1+1:Nat))] ⟨[G [di 0,.v .nils],G [di n,.gro 4 (k+1+1) 2],none,G (kcO x),G (L++kcO x)],eb x⟩) (Y ((↑(k+1):Int)<(I (map eV v.az):Int))=J/\Q 2/\0<=(↑(k+1):Int)/\(map eV v.az)[Z (↑(k+1):Int)]?=G (Ac x)/\(N0 (wj x) (fd n (k+1) L []) (bj (kcO x)) (bi [G [di 0,dn],G [di n,bm 2 (k+1) 2],G L] (eb x)))/\Aj PP oq [bj (kcO x)] (bi [G [di 0,dn],G [di n,bm 2 (k+1) 2],G L] (eb x)) (bm 3 1 2) (bi [G [di 0,dn],G [di n,bm 2 (k+1) 2],G L,G (kcO x)] (eb x))/\Aj PP tg [bm 2 (k+1) 2,bm 3 1 2] (bi [G [di 0,dn],G [di n,bm 2 (k+1) 2],G L,G (kcO x)] (eb x)) (bm 4 (k+1+1) 2) (bi [G [di 0,dn],G [di n,bm 2 (k+1) 2],none,G (kcO x),G (L++kcO x)] (eb x))/\((Q (G [bm 2 (k+1) 2])/\Q (G [bm 2 (k+1) 2])/\True)/\True)/\di (yu yt ((↑(k+1):Int)+1))=di (↑(k+1+1):Int)/\cm 5 [1] [G [di 0,dn],G [di n,bm 4 (k+1+1) 2],none,G (kcO x),G (L++kcO x)]=J/\Q [G [di 0,dn],G [di n,bm 4 (k+1+1) 2],none,G (kcO x),G (L++kcO x)]/\Q [(1,2,map eV x.az)]/\I0 AZ 0 d σ' ly (ba 27 [(1,bt (f7 v)),i7,jr,(4,di (↑(k+1+1):Int))]) (bi [G [di 0,dn],G [di n,bm 4 (k+1+1) 2],none,G (kcO x),G (L++kcO x)] (eb x))) ?_
 refine⟨HC (by rw[H9];have:=(HD.1 hx).1;omega),rfl,by omega,An hx,fun o c fo ho hc=>?_,?_,?_,⟨⟨rfl,rfl,trivial⟩,trivial⟩,Ae,?_,rfl,rfl,⟨Akq n (k+1+1) _ (eb x) ((fj.of hl).app (fj.kcO x)) (by simp[ba,D.okNs,D.okN]) (by simp[ba,D.rens,D.ren]) next none (G (kcO x))⟩⟩
 ·have h2:=BX (σ:=fd n (k+1) L []) ho hc (fD:=.v (.fn 101 [] [])) rfl (ds:=[dV x]) [] id hn (.cons (.ren (dc:=dV x) rfl) .nil) .nil (by simp) rfl (by simp) (by simp) (by simp[D.okN,D.okNs]) (by simp[cm])
  simpa[D7,CD,Ev,D.ren,D.rens] using h2
 ·exact F7 rfl jh rfl rfl rfl (by decide) (by decide)
 ·exact JT rfl jh rfl (by decide) (q:=2) (q2:=3) (cs:=L) (cs2:=kcO x) rfl hL rfl rfl (by decide) (by omega) (by omega)
 ·have:=((fj.of hl).app (fj.kcO x)).1 5
  have:=(fj.kcO x).1 5
  simp[cm,D.okNs,D.okN, *]
theorem Ajm(X:List V)(hn:F0 101 [dV x] (dV x))(hl:fj [1] L)
  (next:Rn PP AZ 0 d σ' ([kl A6 [1,1,0,1,0,0],.blk 0,kc A6 [1,1,1]]++[]) (ba 27 [(1,.v (.ref (Ac v))),(2,.ptr 0 0),(3,.ptr 1 0),(4,di (k+1+1:Nat))]) (fd n (k+1+1) (L++fm x) [(1,2,X)])):
  Rn PP AZ 0 d σ' ([kl A6 [1,1,0,1,0,0],.blk 0,kc A6 [1,1,1]]++[]) (ba 27 [(1,.v (.ref (Ac v))),(2,.ptr 0 0),(3,.ptr 1 0),(4,di (k+1:Nat))]) (fd n (k+1) L [(1,2,X)]):=by
 refine lv 27 [1] (.t<|.h (.xs (Ac x))<|.c (dV x)<|.lo [ke 1,ke 2,ke 3,ch 4 (di (k+1+1:Nat))] ⟨[G [di 0,.v .nils],G [di n,.gro 3 (k+1+1) 2],none,G (L++fm x)],[(1,2,X)]⟩) (Y ((↑(k+1):Int)<(I (map eV v.az):Int))=J/\Q 2/\0<=(↑(k+1):Int)/\(map eV v.az)[Z (↑(k+1):Int)]?=G (Ac x)/\qn x/\I L=(k+1)*2/\[Ac x]≠ []/\(∀(y:V),y∈ [Ac x]->V.size y=2)/\Ao (k+1+I (Ac x::nV)) 32/\yp/\di (yu yt ((↑(k+1):Int)+1))=di (↑(k+1+1):Int)/\cm 4 [1] [G [di 0,dn],G [di n,bm 3 (k+1+I (Ac x::nV)) 2],none,G (L++(c7 x.n x.az))]=J/\[G [di 0,dn],G [di n,bm 3 (k+1+I (Ac x::nV)) 2],none,G (L++(c7 x.n x.az))]=(s8 n k L x)/\Q [(1,2,X)]/\I0 AZ 0 d σ' ly (ba 27 [(1,bt (f7 v)),i7,jr,(4,di (↑(k+1+1):Int))]) (bi (s8 n k L x) [(1,2,X)])) ?_
 exact⟨HC (by rw[H9];have:=(HD.1 hx).1;omega),rfl,by omega,An hx,hn,hL,by simp,fun y hy=>by rw[HQ.1 hy];rfl,Alq (by omega) _,yn,Ae,by simp[cm,D.okNs,D.okN,hl.app (fj.of (rfl:D.pls (fm x)=J))|>.1],rfl,rfl,⟨Aia n (k+1+1) _ [(1,2,X)] (hl.app (fj.of rfl)) (by simp[ba,D.okNs,D.okN]) (by simp[ba,D.rens,D.ren]) next none⟩⟩
end
def i3(j i:Nat)(x:bc):List D:=if i=j then kcO x else fm x
def kL(j:Nat)(l:List bc)(k:Nat):List D:=(List.range k).flatMap fun i=>i3 j i (l.getD i ez)
def DY(j:Nat)(l:List bc)(k:Nat):List (Nat×Nat×List V):=if j<k then eb (l.getD j ez) else[]
theorem FN(j:Nat)(l:List bc)(k:Nat):kL j l (k+1)=kL j l k++i3 j k (l.getD k ez):=by simp[kL,range_succ]
theorem PT(j:Nat)(l:List bc)(k:Nat):I (kL j l k)=k*2:=by
 induction k with
 |zero=>rfl
 |succ k ih=>
  rw[FN,HO,ih]
  have:I (i3 j k (l.getD k ez))=2:=by unfold i3;split<;>rfl
  omega
theorem Za(j:Nat)(l:List bc)(k:Nat)(h:k<=j):D.pls (kL j l k)=J:=by
 induction k with
 |zero=>rfl
 |succ k ih=>
  rw[FN,Dc,ih (by omega),i3,HR (by omega)];rfl
theorem Zb(j:Nat)(l:List bc)(k:Nat):fj [1] (kL j l k):=by
 induction k with
 |zero=>exact⟨fun _=>rfl,fun _=>rfl⟩
 |succ k ih=>
  rw[FN]
  refine ih.app ?_
  unfold i3
  split
  ·exact fj.kcO _
  ·exact fj.of rfl
theorem de{l:List bc}{k:Nat}{x:bc}(h:l[k]?=G x):l.getD k ez=x:=by rw[HI,h];rfl
theorem ZL(j:Nat)(v:bc)(hv:v.size<=900)(n:Nat):∀k:Nat,I v.az- (k+1)=n->k<I v.az->
  Rn PP AZ 0 (.dagg [di v.n,.arr 2 0 (I v.az)]) (uy v.n (I v.az) (kL j v.az (I v.az)) (DY j v.az (I v.az))) ([kl A6 [1,1,0,1,0,0],.blk 0,kc A6 [1,1,1]]++[]) (ba 27 [(1,.v (.ref (Ac v))),(2,.ptr 0 0),(3,.ptr 1 0),(4,di (k+1:Nat))]) (fd v.n (k+1) (kL j v.az (k+1)) (DY j v.az (k+1))):=by
 have hs:=v.size_eq
 have hl:=bc.length_le v.az
 have hcp:∀x∈v.az,F0 101 [dV x] (dV x):=fun x hx=>DD _ x (HH _) (by have:=bc.size_mem hx;omega)
 induction n with
 |zero=>
  intro k hn hk0
  have e:k+1=I v.az:=by omega
  rw[e]
  have hlt:¬((I v.az:Nat):Int)<(I (v.az.map eV):Int):=by rw[H9];omega
  have hp1:=Zb j v.az (I v.az)
  have hp2:=Za j v.az (I v.az)
  have e1:∀(τ:List (Nat×Nat×List V)) (e:List D),Cv e (fd v.n (I v.az) (kL j v.az (I v.az)) τ) e ⟨[G [di 0,.v .nils],G [di v.n,.arr 2 0 (I v.az)],G (kL j v.az (I v.az))],τ⟩:=fun τ e=>ZF (σ:=fd v.n (I v.az) (kL j v.az (I v.az)) τ) (p:=1) (q:=2) (i:=1) (n:=I v.az) (sz:=2) (cs:=[di v.n,.gro 2 (I v.az) 2]) rfl rfl e
  by_cases hj:j<I v.az
  ·have eo:DY j v.az (I v.az)=eb (v.az.getD j ez):=by rw[DY,HV hj]
   rw[eo]
   generalize kL j v.az (I v.az)=L at hp1 e1⊢
   generalize v.az.getD j ez=y at e1⊢
   refine SY mixed 27 [1] (.f<|.h (.q 6 0)<|.h (.cs ⟨[G [di 0,.v .nils],G [di v.n,.arr 2 0 (I v.az)],G L],eb y⟩)<|.h (.m (.dagg [di v.n,.arr 2 0 (I v.az)]))<|.h .ww<|.r) ?_
   refine ey (by kernel_rfl:(Y ((I v.az:Int)<(I (map eV v.az):Int))=O/\(∀(e:List D) (E:cf) (g:Gh) (a:Act) (w:x5),FI E g (bi [G [di 0,dn],G [di v.n,bm 2 (I v.az) 2],G L] [(1,2,map eV y.az)]) e a w->∃g',FI E g' (bi [G [di 0,dn],G [di v.n,bo 2 0 (I v.az)],G L] (eb y)) e a w)/\2<=2/\Q [di v.n,bo 2 0 (I v.az)]/\2<=2/\cm 3 [1] [G [di v.n,bo 2 0 (I v.az)],G [di v.n,bo 2 0 (I v.az)],G L]=J/\Q [G [di v.n,bo 2 0 (I v.az)],G [di v.n,bo 2 0 (I v.az)],G L]/\Q [(1,2,map eV y.az)]/\Q (bj [di v.n,bo 2 0 (I v.az)]))=_) ?_
   exact⟨HE hlt,e1 (eb y),HH _,rfl,HH _,by simp[cm,D.okNs,D.okN,hp1.1],rfl,rfl,rfl⟩
  ·have eo:DY j v.az (I v.az)=[]:=by rw[DY,HR hj]
   have hp:=AS (n:=3) (ts:=[]) (hp2 (by omega))
   rw[eo]
   generalize kL j v.az (I v.az)=L at hp e1⊢
   refine SY mixed 27 [1] (.f<|.h (.q 6 0)<|.h (.cs ⟨[G [di 0,.v .nils],G [di v.n,.arr 2 0 (I v.az)],G L],[]⟩)<|.h (.m (.dagg [di v.n,.arr 2 0 (I v.az)]))<|.h .ww<|.r) ?_
   refine ey (by kernel_rfl:(Y ((I v.az:Int)<(I (map eV v.az):Int))=O/\(∀(e:List D) (E:cf) (g:Gh) (a:Act) (w:x5),FI E g (bi [G [di 0,dn],G [di v.n,bm 2 (I v.az) 2],G L] []) e a w->∃g',FI E g' (bi [G [di 0,dn],G [di v.n,bo 2 0 (I v.az)],G L] []) e a w)/\2<=2/\Q [di v.n,bo 2 0 (I v.az)]/\2<=2/\cm 3 [] [G [di v.n,bo 2 0 (I v.az)],G [di v.n,bo 2 0 (I v.az)],G L]=J/\Q [G [di v.n,bo 2 0 (I v.az)],G [di v.n,bo 2 0 (I v.az)],G L]/\Q (bj [di v.n,bo 2 0 (I v.az)]))=_) ?_
   exact⟨HE hlt,e1 [],HH _,rfl,HH _,by simp[cm,D.okNs,D.okN,hp],rfl,rfl⟩
 |succ n ih=>
  intro k hn hk0
  obtain⟨x,hx⟩:∃x,v.az[k+1]?=G x:=⟨_,HA (show k+1<I v.az by omega)⟩
  have hc:=hcp x (HG hx)
  have hih:=ih (k+1) (by omega) (by omega)
  have hlen:=PT j v.az (k+1)
  have hxs:=bc.size_mem (HG hx)
  rw[FN j v.az (k+1),de hx] at hih
  by_cases h1:j<k+1
  ·have e1:∀m,k+1<=m->DY j v.az m=eb (v.az.getD j ez):=fun m hm=>by rw[DY,HV (by omega)]
   rw[e1 _ (HH _)]
   rw[e1 _ (by omega:k+1<=k+1+1),i3,HR (by omega)] at hih
   exact Ajm (by omega) hlen hx _ hc (Zb j v.az (k+1)) hih
  ·have e1:DY j v.az (k+1)=[]:=by rw[DY,HR h1]
   have hp:=Za j v.az (k+1) (by omega)
   rw[e1]
   by_cases h2:k+1=j
   ·rw[i3,HV h2,show DY j v.az (k+1+1)=eb x by rw[DY,HV (by omega),de (by rw[←h2];exact hx)]] at hih
    exact Ajn (by omega) hlen hx (VD x (by omega)) hp hih
   ·rw[i3,HR h2,show DY j v.az (k+1+1)=[] by rw[DY,HR (by omega)]] at hih
    exact Ajo (by omega) hlen hx hc hp hih
noncomputable abbrev wx:=fun a₀=>(ba 27 [(1,bt (f7 a₀)),i7,jr,(4,di (↑1:Int))])
theorem Qu(j:Nat)(hj:1<=j)(v:bc)(hn:v.az≠ [])(hv:v.size<=900):Aa PP 101 [dV v] bd (.dagg [di v.n,.arr 2 0 (I v.az)]) (uy v.n (I v.az) (kL j v.az (I v.az)) (DY j v.az (I v.az))):=by
 have hs:=v.size_eq
 have hpos:=length_pos_iff.2 hn
 obtain⟨x,hx⟩:∃x,v.az[0]?=G x:=⟨_,HA hpos⟩
 have hc:=DD _ x (HH _) (by have:=bc.size_mem (HG hx);omega)
 have hlp:=ZL j v hv _ 0 rfl hpos
 rw[FN j v.az 0,de hx,show kL j v.az 0=[] from rfl,nil_append,i3,HR (by omega),show DY j v.az (0+1)=[] by rw[DY,HR (by omega)]] at hlp
 have h0:(v.az.map eV)[Z 0]?=G (Ac x):=An (i:=0) hx
 have hlt:(0:Int)<(I (v.az.map eV):Int):=by rw[H9];omega
 generalize uy v.n (I v.az) (kL j v.az (I v.az)) (DY j v.az (I v.az))=out at hlp⊢
 generalize bj [di v.n,.arr 2 0 (I v.az)]=od at hlp⊢
 refine Od mixed AZ A6 (by kernel_rfl) (by kernel_rfl) (by kernel_rfl) (by kernel_rfl) 27 (by kernel_rfl) [1] (.h .rn<|.n<|.t<|.h (.xs (Ac x))<|.c (dV x)<|.h (.p (.v (.list [Ac x])))<|.h .g<|.lo [ke 1,ke 2,ke 3,ch 4 (di (1:Nat))] (fd v.n 1 (fm x) [])) ?_
 refine ey (by kernel_rfl:(Y (0<(I (map eV v.az):Int))=J/\Q 2/\iz 0<=0/\(map eV v.az)[Z 0]?=G (Ac x)/\qn x/\(∀(τ:St),Aj PP oq [dV x] τ (bt (ai [Ac x])) τ)/\[Ac x]≠ []/\(∀(y:V),y∈ [Ac x]->V.size y=2)/\Ao 1 32/\yp/\di (yu yt (0+1))=di (↑1:Int)/\cm 3 [] [G [di 0,dn],G [di v.n,bm 2 1 2],G (c7 x.n x.az)]=J/\[G [di 0,dn],G [di v.n,bm 2 1 2],G (c7 x.n x.az)]=[G [di 0,dn],G [di v.n,bm 2 1 2],G (fm x)]/\I0 AZ (I bd.H) od out ly (wx v) (fd v.n 1 (fm x) []))=_) ?_
 exact⟨HC hlt,rfl,Ib _,h0,hc,fun τ=>m6 x τ rfl,by simp,fun y hy=>by rw[HQ.1 hy];rfl,⟨by decide,by decide⟩,yn,HX di (by decide),rfl,rfl,⟨hlp⟩⟩
structure k8(m:b9):Prop where
 ok:m.ok
 kind:m.kind=2∨m.kind=3
 few:I m.av<=12/\1<=I m.ay/\m.ay.length<=2
 ax:I m.ax<=16
 au:m.kind=3->CM m.au=J/\m.au.length=I m.ax
 rule:∀r∈m.av,sj m r
noncomputable abbrev Ae2:=Tryz.f134
theorem MU{m:b9}(hm:k8 m):F0 134 [Af m] (di 0):=by
 have hc:=E5 m hm.ok
 rcases hm.kind with hk|hk
 ·exact sv Ae2 17 [1] (.c (di 0)<|.k<|.f .r) (_/\(m.kind !=2)=O/\Q (di 0)) ⟨hc,by rw[hk];rfl,rfl⟩
 ·exact sv Ae2 17 [1] (.c (di 0)<|.k<|.t<|.f .r) (_/\(m.kind !=2)=J/\(m.kind !=3)=O/\Q (di 0)) ⟨hc,by rw[hk];rfl,by rw[hk];rfl,rfl⟩
theorem Y2(H:List (Option (List D)))(j:Nat)(hj:1<=j)(v:bc)(hn:v.az≠ [])(hv:v.size<=900){o:yy}{cl:Call}{fo:x8}(ho:o.op=.call cl)(hc2:cl.callee=.value fo):Aj PP o [.v (.fn 101 [] []),dV v] ⟨H,[]⟩ (.dagg [di v.n,.arr (I H+2) 0 (I v.az)]) ⟨H++[G [di v.n,.arr (I H+2) 0 (I v.az)],G [di v.n,.arr (I H+2) 0 (I v.az)],G (kL j v.az (I v.az))],DY j v.az (I v.az)⟩:=by
 have hp:=Zb j v.az (I v.az)
 have hp0:=Za j v.az (I v.az)
 have hsp:=Qu j hj v hn hv
 by_cases h1:j<I v.az
 ·have eo:DY j v.az (I v.az)=eb (v.az.getD j ez):=by rw[DY,HV h1]
  rw[eo] at hsp⊢
  generalize kL j v.az (I v.az)=L at hp hsp⊢
  have h:=BX (σ:=⟨H,[]⟩) ho hc2 (fD:=.v (.fn 101 [] [])) rfl (ds:=[dV v]) [] id hsp (.cons (.ren (dc:=dV v) rfl) .nil) .nil (by simp) rfl (by simp) (by simp) (by simp[D.okN,D.okNs]) (by simp[cm,D.okN,D.okNs,hp.1])
  simpa[D7,CD,Ev,D.ren,D.rens,df,hp.2] using h
 ·have eo:DY j v.az (I v.az)=[]:=by rw[DY,HR h1]
  have hp:=hp0 (by omega)
  rw[eo] at hsp⊢
  generalize kL j v.az (I v.az)=L at hp hsp⊢
  have h:=BX (σ:=⟨H,[]⟩) ho hc2 (fD:=.v (.fn 101 [] [])) rfl (ds:=[dV v]) [] id hsp (.cons (.ren (dc:=dV v) rfl) .nil) .nil (by simp) rfl (by simp) (by simp) (by simp[D.okN,D.okNs]) (by simp[cm,D.okN,D.okNs,AS hp])
  simpa[D7,CD,Ev,D.ren,D.rens,df,AC hp] using h
theorem R6(l:List bc)(j:Nat):∀k:Nat,k<=j->k<=I l->kL j l k=Ab ((l.take k).map eV)
 |0,_,_=>rfl
 |k+1,h,hl=>by
  obtain⟨x,hx⟩:=@yk _ l k (by omega)
  rw[FN,R6 l j k (by omega) (by omega),de hx,i3,HR (by omega),IM,hx,Option.toList_some, ←E2]
noncomputable abbrev Ais:=Tryz.f138
theorem TU(s:Int)(ws:List (List Int))(hz:(cb s ws).size<=128)(k:Nat)(w w':List Int)(hk:ws[k]?=G w)(hw:I w'<=100):F0 138 [dV (cb s ws),di k,cw w'] (dV (cb s (ws.set k w'))):=by
 obtain⟨l,hl⟩:∃l,l=(cb s ws).az:=⟨_,rfl⟩
 have hkl:=(HD.1 hk).1
 have hll:I l=1+I ws:=by rw[hl];show(lf s::ws.map ce).length=_;simp;omega
 have hne:(cb s ws).az≠ []:=by rw[←hl];intro e;rw[e] at hll;simp at hll;omega
 have hcp:∀(o:yy) (cl:Call) (fo:x8),o.op=.call cl->cl.callee=.value fo->Aj PP o [.v (.fn 101 [] []),dV (cb s ws)] ⟨[G [di 0,.v .nils]],[]⟩ (.dagg [di 0,.arr 3 0 (I l)]) ⟨[G [di 0,.v .nils],G [di 0,.arr 3 0 (I l)],G [di 0,.arr 3 0 (I l)],G (Ab (l.map eV))],[]⟩:=fun o cl fo ho hc=>by
  have h:=Y2 [G [di 0,.v .nils]] (I l) (by omega) (cb s ws) hne (by omega) ho hc
  rw[←hl] at h
  rw[R6 l (I l) (I l) (HH _) (HH _),take_length,show DY (I l) l (I l)=[] by rw[DY,HR (Nat.lt_irrefl _)]] at h
  exact h
 obtain⟨X,hX⟩:∃X,X=l.set (1+k) (ce w'):=⟨_,rfl⟩
 have hR:cb s (ws.set k w')=.mk 0 X:=by
  rw[hX,hl,cb]
  show _=bc.mk 0 ((lf s::ws.map ce).set (1+k) (ce w'))
  rw[show 1+k=k+1 by omega,IW,map_set]
 rw[hR]
 have hs0:=Pb l (1+k) (ce w') (by omega)
 rw[←hX] at hs0
 have hfl:=AT l
 have hlb:I l<=128:=by have h1:=(cb s ws).size_eq;have h2:=bc.length_le (cb s ws).az;rw[←hl] at h1 h2;omega
 generalize cb s ws=c at hcp⊢
 refine sv Ais 18 [3] (.h (.oc (.dagg [di 0,.arr 3 0 (I l)]) ⟨[G [di 0,.v .nils],G [di 0,.arr 3 0 (I l)],G [di 0,.arr 3 0 (I l)],G (Ab (l.map eV))],[]⟩)<|.c (dV (ce w'))<|.h .ww<|.h (.q 3 0)<|.h (.cs ⟨[G [di 0,.v .nils],G [di 0,.arr 3 0 (I l)],G [di 0,.arr 3 0 (I l)],none,G [di 0,cx X]],[]⟩) .r) ((N0 [bt (bw 101 [] []),dV c] (bi [G [di 0,dn]] []) (bj [di 0,bo 3 0 (I l)]) (bi [G [di 0,dn],G [di 0,bo 3 0 (I l)],G [di 0,bo 3 0 (I l)],G (Ab (U eV l))] []))/\F0 189 [cw w'] (dV (ce w'))/\0<=yu yt (1+(k:Int))/\yu yt (1+(k:Int))<(I l:Int)/\0+Z (yu yt (1+(k:Int)))*2+2<=I (Ab (U eV l))/\yp/\(∀(e:List D) (E:cf) (g:Gh) (a:Act) (w:x5),FI E g (bi [G [di 0,dn],G [di 0,bo 3 0 (I l)],G [di 0,bo 3 0 (I l)],G (take (0+Z (yu yt (1+(k:Int)))*2) (Ab (U eV l))++Ax (dV (ce w'))++W (0+Z (yu yt (1+(k:Int)))*2+2) (Ab (U eV l))),G [di 0,bo 3 0 (I l)]] []) e a w->∃g',FI E g' (bi [G [di 0,dn],G [di 0,bo 3 0 (I l)],G [di 0,bo 3 0 (I l)],none,G [di 0,cx X]] []) e a w)/\bt (ab [vi 0,ai (U eV X)])=dV (bc.mk 0 X)) ?_
 have hw1:yt.wrap (1+(k:Int))=((1+k:Nat):Int):=by rw[Al];omega
 rw[hw1]
 have e1:0+Z ((1+k:Nat):Int)*2=(1+k)*2:=by omega
 rw[e1]
 refine⟨hcp,TR w' (by omega),by omega,by omega,by omega,yn,fun e=>?_,rfl⟩
 rw[show(Ab (l.map eV)).take ((1+k)*2)++Ax (dV (ce w'))++(Ab (l.map eV)).drop ((1+k)*2+2)=Ab (X.map eV) from hs0]
 exact BP (σ:=⟨[G [di 0,.v .nils],G [di 0,.arr 3 0 (I l)],G [di 0,.arr 3 0 (I l)],G (Ab (X.map eV)),G [di 0,.arr 3 0 (I l)]],[]⟩) (p:=4) (q:=3) (i:=1) (sz:=2) (cs:=[di 0,.arr 3 0 (I l)]) (xs:=X.map eV) (by decide) rfl rfl (by decide) (by rw[H9,hX,length_set];rfl) (Ct _) e
noncomputable abbrev FX:=Tryz.f90
noncomputable def BZ:=yl FX
def xr(m:b9)(w:List Int):List (List Int):=if (m.kind==3)=J then C4 (Ca m.au w (I w-1)) else C4 (Cs w (I w))
theorem AeM{w:List Int}(h1:I w<=12)(h2:∀x∈w,0<=x/\x<16):QN w=J:=by
 unfold QN
 rw[HB]
 refine⟨yr,?_⟩
 rw[I2,List.any_eq_false]
 intro x hx
 have:=h2 x hx
 simp;omega
theorem Rs{rk:List Int}(h:CM rk=J):rm rk=J:=h
theorem Aju{m:b9}(hm:k8 m){w:List Int}(h1:I w<=12)(h2:∀x∈w,0<=x/\x<I m.ax):E6 m w=xr m w:=by
 unfold E6 xr
 split
 ·rename_i hk
  obtain⟨r1,r2⟩:=hm.au (by simpa using hk)
  unfold FU
  rw[HV]
  unfold m4
  rw[Rs r1,Ij,HB]
  refine⟨yr,?_⟩
  rw[I2,List.any_eq_false]
  intro x hx
  have:=h2 x hx
  rw[r2]
  simp;omega
 ·have:=hm.ax
  unfold FS
  rw[HV (AeM h1 fun x hx=>by have:=h2 x hx;omega)]
theorem Sy{B:Nat}:∀{l:List bc},(∀v∈l,v.size<=B)->bc.sizes l<=B*I l
 |[],_=>HH _
 |v::l,h=>by
  have h1:=h v (by simp)
  have h2:=Sy (l:=l) fun z hz=>h z (by simp[hz])
  rw[bc.sizes,HF,Nat.mul_succ];omega
theorem AaU(l:List bc)(v:bc):DU (l++[v])=BH (DU l) v:=by
 rw[←Lu (l:=l++[v]) (k:=l++[v]) (fun _=>Iff.rfl), ←Lu (l:=l) (k:=l) (fun _=>Iff.rfl),List.foldl_append];rfl
theorem QS{l:List bc}(h1:I l<=100)(h2:∀v∈l,v.size<=200):bc.sizes (DU l)<=1000000:=by
 have:=Sy (l:=DU l) fun v hv=>h2 v (NS hv)
 have:=Se l
 have:200*I (DU l)<=200*100:=Nat.mul_le_mul_left _ (by omega)
 omega
section
variable {m : b9} (hm : k8 m) {s : Int} {ws : List (List Int)} (h : i1 m s ws) (out : List bc)
include hm h
theorem qz:(cb s ws).size<=128:=by
 have:=Ed hm.kind hm.few.2.2 h
 simp only[Ah,HB,HK] at this
 omega
theorem AcF(k:Nat)(w:List Int)(hw:ws[k]?=G w)(l2:Rn PP FX 0 (du (out,0)) bd ([kl BZ [1,1,1,1,0,1,0,0],.blk 0,kc BZ [1,1,1,1,1]]++[]) (ba 60 [(2,.v (.ref (A1 m))),(3,.v (.ref (Ac (cb s ws)))),(7,cx (DU (e8 m (cb s ws) k++(E6 m w).map (f9 (cb s ws) k)))),(8,di (k+1:Nat))]) bd)(n:Nat):
  ∀j:Nat,I (E6 m w)-j=n->Rn PP FX 0 (du (out,0)) bd ([kl BZ [1,1,1,1,0,1,0,0,1,0,0,1,1,1,1,0,0],.blk 2,.blk 1,kc BZ [1,1,1,1,0,1,0,0,1,1],kl BZ [1,1,1,1,0,1,0,0],.blk 0,kc BZ [1,1,1,1,1]]++[]) (ba 60 [(2,.v (.ref (A1 m))),(3,.v (.ref (Ac (cb s ws)))),(7,cx (DU (e8 m (cb s ws) k++((E6 m w).take j).map (f9 (cb s ws) k)))),(8,di k),(10,dl ((E6 m w).map cz)),(11,di j)]) bd:=by
 have hkl:=(HD.1 hw).1
 have hpl:=h.len
 have hp2:=hm.few.2.2
 have hcz:=qz hm h
 have hww:=h.word w (HG hw)
 have hdl:=Lo m w
 have hlf:=O9 m (cb s ws) k
 have hkk:(cb s ws).az.length=1+I ws:=by show(lf s::ws.map ce).length=_;simp;omega
 induction n with
 |zero=>
  intro j hn
  rw[Ic (by omega)]
  generalize DU (e8 m (cb s ws) k++(E6 m w).map (f9 (cb s ws) k))=acc at l2⊢
  generalize E6 m w=D at hn⊢
  generalize cb s ws=c at l2⊢
  exact lv 60 [2,3] (.f<|.l [ke 2,ke 3,ke 7,ch 8 (di (k+1:Nat))]) (Y ((j:Int)<(I (U cz D):Int))=O/\di (yu yt ((k:Int)+1))=di (↑(k+1):Int)/\_) ⟨HE (by rw[H9];omega),Ae,iK l2⟩
 |succ n ih=>
  intro j hn
  obtain⟨w',hw'⟩:∃w',(E6 m w)[j]?=G w':=⟨_,HA (show j<I (E6 m w) by omega)⟩
  have hmem:=HG hw'
  have hw12:=hdl.2 w' hmem
  have ih':=ih (j+1) (by omega)
  rw[IM,hw',Option.toList_some,IQ, ←IG] at ih'
  rw[Ia,I7,AaU] at ih'
  have hs18:=TU s ws hcz k w w' hw (by omega)
  have ev:f9 (cb s ws) k w'=cb s (ws.set k w'):=by rw[f9,EI,EH hw];rfl
  have hvz:(f9 (cb s ws) k w').size<=200:=O7 hcz (by omega) hw12
  have hbd:bc.sizes (DU (e8 m (cb s ws) k++((E6 m w).take j).map (f9 (cb s ws) k)))<=1000000:=QS (by rw[HO,H9,Ig];omega) fun v hv=>by
   rcases Ix.1 hv with hv|hv
   ·exact O8 hcz (by omega) hv
   ·obtain⟨u,hu,rfl⟩:=Is.1 hv
    exact O7 hcz (by omega) (hdl.2 u (IR hu))
  have hpt:=Om _ _ hbd (by omega:(f9 (cb s ws) k w').size<=1000000)
  rw[←ev] at hs18
  generalize DU (e8 m (cb s ws) k++((E6 m w).take j).map (f9 (cb s ws) k))=acc at ih' hpt⊢
  generalize f9 (cb s ws) k w'=v at ih' hpt hs18
  generalize E6 m w=D at hn hw' ih' hdl⊢
  generalize cb s ws=c at ih' hs18⊢
  exact lv 60 [2,3] (.t<|.x (cz w')<|.c (dV v)<|.c (cx (BH acc v))<|.l [ke 2,ke 3,ch 7 (cx (BH acc v)),ke 8,ke 10,ch 11 (di (j+1:Nat))]) (Y ((j:Int)<(I (U cz D):Int))=J/\0<=(j:Int)/\(U cz D)[Z (j:Int)]?=G (cz w')/\_/\_/\Q (cx (BH acc v))/\di (yu yt ((j:Int)+1))=di (↑(j+1):Int)/\_) ⟨HC (by rw[H9];omega),by omega,by rw[II,Ir,hw'];rfl,hs18,hpt,rfl,Ae,iK ih'⟩
noncomputable abbrev Apn:=[kl BZ [1,1,1,1,0,1,0,0,1,0,0,1,1,1,1,0,0],bh 2,bh 1,kc BZ [1,1,1,1,0,1,0,0,1,1],kl BZ iw,bh 0,kc BZ [1,1,1,1,1]]
theorem Vu(hout:out=DU (e8 m (cb s ws) (I m.ay)))(n:Nat):∀k:Nat,I m.ay-k=n->k<=I m.ay->
  Rn PP FX 0 (du (out,0)) bd ([kl BZ [1,1,1,1,0,1,0,0],.blk 0,kc BZ [1,1,1,1,1]]++[]) (ba 60 [(2,.v (.ref (A1 m))),(3,.v (.ref (Ac (cb s ws)))),(7,cx (DU (e8 m (cb s ws) k))),(8,di k)]) bd:=by
 have hpl:=h.len
 have hp2:=hm.few.2.2
 induction n with
 |zero=>
  intro k hn hk
  rw[hout,show I m.ay=k by omega]
  generalize DU (e8 m (cb s ws) k)=acc
  generalize cb s ws=c
  exact lv 60 [2,3] (.f .r) (Y ((k:Int)<(I (dm m.ay):Int))=O/\bl [cx acc,di 0]=du (acc,0)) ⟨HE (by rw[H9];omega),rfl⟩
 |succ n ih=>
  intro k hn hk
  obtain⟨w,hw⟩:=yk (show k<I ws by omega)
  have hww:=h.word w (HG hw)
  have hlt:=hm.ax
  have hl2:=ih (k+1) (by omega) (by omega)
  rw[Lb,GV hw,JU] at hl2
  have hin:=AcF hm h out k w hw hl2 _ 0 rfl
  rw[take_zero,I7,Iz (e8 m (cb s ws) k),Aju hm hww.1 hww.2] at hin
  have hle:=Vx (ce w) (by show(w.map lf).length<=1000;rw[H9];omega)
  rw[JU] at hle
  have hkid:((cb s ws).az.map eV)[Z ((1+k:Nat):Int)]?=G (Ac (ce w)):=by
   refine An (i:=1+k) ?_
   show(lf s::ws.map ce)[1+k]?=_
   rw[show 1+k=k+1 by omega,Js,Ir,hw];rfl
  have hd2:=VA w hww.1 fun x hx=>by have:=hww.2 x hx;omega
  have hw1:yt.wrap (1+(k:Int))=((1+k:Nat):Int):=by rw[Al];omega
  generalize DU (e8 m (cb s ws) k)=acc at hin⊢
  generalize cb s ws=c at hin hkid⊢
  unfold xr at hin
  by_cases hk3:(m.kind==3)=J
  ·rw[HV hk3] at hin
   obtain⟨r1,r2⟩:=hm.au (by simpa using hk3)
   have hd5:=V8 m.au w r1 hww.1 (by omega) fun x hx=>by have:=hww.2 x hx;omega
   generalize C4 (Ca m.au w (I w-1))=D at hin hd5
   generalize C4 (Cs w (I w))=D2 at hd2
   refine lv 60 [2,3] (.t<|.h (.xs (Ac (ce w)))<|.c (cw w)<|.c (dl (D2.map cz))<|.t<|.c (dl (D.map cz))<|.l [ke 2,ke 3,ke 7,ke 8,ch 10 (dl (D.map cz)),ch 11 (di (0:Nat))]) (Y ((k:Int)<(I (dm m.ay):Int))=J/\Q 2/\0<=yu yt (1+(k:Int))/\(cc c.az)[Z (yu yt (1+(k:Int)))]?=G (Ac (ce w))/\F0 135 [Dv.D.v (Ac (ce w))] (cw w)/\F0 136 [Dv.D.v (cz w)] (dl (U cz D2))/\(m.kind==3)=J/\F0 137 [Dv.D.v (cz m.au),Dv.D.v (cz w)] (dl (U cz D))/\Q (dl (U cz D))/\di 0=di (↑0:Int)/\I0 FX 0 (du (out,0)) bd Apn (ba 60 [(2,Dv.D.v (ic m)),(3,Dv.D.v (f7 c)),(7,Dv.D.v (dt acc)),(8,di (k:Int)),(10,dl (U cz D)),(11,di (↑0:Int))]) bd) ?_
   rw[hw1]
   exact⟨HC (by rw[H9];omega),rfl,by omega,hkid,hle,hd2,hk3,hd5,rfl,rfl,⟨hin⟩⟩
  ·rw[HR hk3] at hin
   generalize C4 (Cs w (I w))=D at hin hd2
   refine lv 60 [2,3] (.t<|.h (.xs (Ac (ce w)))<|.c (cw w)<|.c (dl (D.map cz))<|.f<|.l [ke 2,ke 3,ke 7,ke 8,ch 10 (dl (D.map cz)),ch 11 (di (0:Nat))]) (Y ((k:Int)<(I (dm m.ay):Int))=J/\Q 2/\0<=yu yt (1+(k:Int))/\(cc c.az)[Z (yu yt (1+(k:Int)))]?=G (Ac (ce w))/\F0 135 [Dv.D.v (Ac (ce w))] (cw w)/\F0 136 [Dv.D.v (cz w)] (dl (U cz D))/\(m.kind==3)=O/\Q (dl (U cz D))/\di 0=di (↑0:Int)/\I0 FX 0 (du (out,0)) bd Apn (ba 60 [(2,Dv.D.v (ic m)),(3,Dv.D.v (f7 c)),(7,Dv.D.v (dt acc)),(8,di (k:Int)),(10,dl (U cz D)),(11,di (↑0:Int))]) bd) ?_
   rw[hw1]
   exact⟨HC (by rw[H9];omega),rfl,by omega,hkid,hle,hd2,HM hk3,rfl,rfl,⟨hin⟩⟩
theorem MS:F0 90 [Af m,dV (cb s ws)] (du (sortV (e8 m (cb s ws) (I m.ay)),0)):=by
 obtain⟨a1,a2⟩:=YT h.len
 obtain⟨b1,b2⟩:=Sf (e8 m (cb s ws) (I m.ay))
 have e:sortV (e8 m (cb s ws) (I m.ay))=DU (e8 m (cb s ws) (I m.ay)):=RO Ln a1 b1 fun x=>by rw[b2 x,(A7 _).mem_iff]
 rw[e]
 have hlp:=Vu hm h _ rfl _ 0 rfl (Ik _)
 rw[show DU (e8 m (cb s ws) 0)=[] by simp[e8,DU,sortV,AP]] at hlp
 have hv:=CW m hm.ok (cb s ws) (by have:=qz hm h;omega)
 rw[Ed hm.kind hm.few.2.2 h] at hv
 generalize DU (e8 m (cb s ws) (I m.ay))=out at hlp⊢
 generalize cb s ws=c at hlp hv⊢
 exact sv FX 60 [2,3] (.c (di 0)<|.k<|.c (db J)<|.k<|.h (.q 7 0)<|.h (.ct 7 (cx []) bd)<|.l [ke 2,ke 3,ke 7,ch 8 (di (0:Nat))]) (_/\_/\(∀(e:List D),e[7]?=G (dn)->∀(E:cf) (g:Gh) (a:Act) (w:x5),FI E g bd e a w->∃g',FI E g' bd (List.set e 7 (cx [])) a w)/\Q (di 0)/\_) ⟨MU hm,hv,fun e he=>ZE e he,rfl,iK hlp⟩
end
noncomputable abbrev Tl:=Tryz.f100
section
variable {m : b9} (hm : k8 m) {s : Int} {ws : List (List Int)} (h : i1 m s ws) {i : Nat} {r : cp} (hi : m.av[i]? = G r) {k : Nat} (hk : r.chan = k) {w : List Int} (hw : ws[k]? = G w)
include hm h hi hk hw
noncomputable abbrev v6:=fun a₀ b₀=>F0 25 [Af a₀,dV b₀] (db J)
noncomputable abbrev v7:=fun a₀=>F0 134 [Af a₀] (di 0)
theorem V6:F0 100 [Af m,di i,dV (cb s ws)] (.tup [db ((s==r.aj)&&((r.act !=2)||w.head?==G r.letter)),di 0]):=by
 have hir:=(HD.1 hi).1
 have hfew:=hm.few.1
 have hkd:=MU hm
 have hv:=CW m hm.ok (cb s ws) (by have:=qz hm h;omega)
 rw[Ed hm.kind hm.few.2.2 h] at hv
 have hlen:(I (m.av.map Ai):Int)=I m.av:=by rw[H9]
 have hkl:=(HD.1 hw).1
 have hpl:=h.len
 have hp2:=hm.few.2.2
 have h0:((cb s ws).az.map eV)[Z 0]?=G (Ac (lf s)):=An (i:=0) (by rfl)
 have hkid:((cb s ws).az.map eV)[Z ((1+k:Nat):Int)]?=G (Ac (ce w)):=by
  refine An (i:=1+k) ?_
  show(lf s::ws.map ce)[1+k]?=_
  rw[show 1+k=k+1 by omega,Js,Ir,hw];rfl
 have hw1:yt.wrap (1+r.chan)=((1+k:Nat):Int):=by rw[hk,Al];omega
 generalize cb s ws=c at hv h0 hkid⊢
 by_cases c1:(s==r.aj)=J
 ·have n1:(s !=r.aj)=O:=by rw[bne,c1];rfl
  rw[c1,Ij]
  by_cases c2:(r.act !=2)=J
  ·rw[c2,Bool.true_or]
   refine sv Tl 67 [3,5] (.c (di 0)<|.k<|.f<|.f<|.c (db J)<|.k<|.x (Ai r)<|.h (.xs (Ac (lf s)))<|.f<|.h (.xs (Ac (ce w)))<|.t .r) (v7 m/\Y ((i:Int)<0)=O/\Y ((i:Int)>=(I (U Ai m.av):Int))=O/\v6 m c/\0<=(i:Int)/\(U Ai m.av)[Z (i:Int)]?=G (Ai r)/\Q 2/\iz 0<=0/\(cc c.az)[Z 0]?=G (Ac (lf s))/\yp/\(bc.n (lf s) !=r.aj)=O/\Q 2/\0<=yu yt (1+r.chan)/\(cc c.az)[Z (yu yt (1+r.chan))]?=G (Ac (ce w))/\(r.act !=2)=J/\yp/\Q (bl [db J,di 0])) ?_
   rw[hw1]
   exact⟨hkd,yq,HE (by rw[hlen];omega),hv,by omega,Am hi,rfl,Ib _,h0,yn,n1,rfl,by omega,hkid,c2,yn,rfl⟩
  ·rw[HM c2,Bool.false_or]
   cases w with
   |nil=>
    refine sv Tl 67 [3,5] (.c (di 0)<|.k<|.f<|.f<|.c (db J)<|.k<|.x (Ai r)<|.h (.xs (Ac (lf s)))<|.f<|.h (.xs (Ac (ce [])))<|.f<|.k .r) (v7 m/\Y ((i:Int)<0)=O/\Y ((i:Int)>=(I (U Ai m.av):Int))=O/\v6 m c/\0<=(i:Int)/\(U Ai m.av)[Z (i:Int)]?=G (Ai r)/\Q 2/\iz 0<=0/\(cc c.az)[Z 0]?=G (Ac (lf s))/\yp/\(bc.n (lf s) !=r.aj)=O/\Q 2/\0<=yu yt (1+r.chan)/\(cc c.az)[Z (yu yt (1+r.chan))]?=G (Ac (ce []))/\(r.act !=2)=O/\yp/\bl [db O,di 0]=bl [db (List.head? []==G r.letter),di 0]) ?_
    rw[hw1]
    exact⟨hkd,yq,HE (by rw[hlen];omega),hv,by omega,Am hi,rfl,Ib _,h0,yn,n1,rfl,by omega,hkid,HM c2,yn,rfl⟩
   |cons y w=>
    refine sv Tl 67 [3,5] (.c (di 0)<|.k<|.f<|.f<|.c (db J)<|.k<|.x (Ai r)<|.h (.xs (Ac (lf s)))<|.f<|.h (.xs (Ac (ce (y::w))))<|.f<|.t<|.h (.xs (Ac (lf y))) .r) (v7 m/\Y ((i:Int)<0)=O/\Y ((i:Int)>=(I (U Ai m.av):Int))=O/\v6 m c/\0<=(i:Int)/\(U Ai m.av)[Z (i:Int)]?=G (Ai r)/\Q 2/\iz 0<=0/\(cc c.az)[Z 0]?=G (Ac (lf s))/\yp/\(bc.n (lf s) !=r.aj)=O/\Q 2/\0<=yu yt (1+r.chan)/\(cc c.az)[Z (yu yt (1+r.chan))]?=G (Ac (ce (y::w)))/\(r.act !=2)=O/\Y ((I (U eV (bc.az (ce (y::w)))):Int)>0)=J/\Q 2/\iz 0<=0/\G (eV (lf y))=G (Ac (lf y))/\yo/\bl [db (bc.n (lf y)==r.letter),di 0]=bl [db (List.head? (y::w)==G r.letter),di 0]) ?_
    rw[hw1]
    exact⟨hkd,yq,HE (by rw[hlen];omega),hv,by omega,Am hi,rfl,Ib _,h0,yn,n1,rfl,by omega,hkid,HM c2,HC (by show(0:Int)<(I ((ce (y::w)).az.map eV):Int);rw[H9];show(0:Int)<(I ((y::w).map lf):Int);rw[H9,HF];omega),rfl,Ib _,HX G (AE (lf y)),ym,by simp only[List.head?_cons,Option.some_beq_some];rfl⟩
 ·rw[HM c1,Ih]
  have n1:(s !=r.aj)=J:=by rw[bne,HM c1];rfl
  exact sv Tl 67 [3,5] (.c (di 0)<|.k<|.f<|.f<|.c (db J)<|.k<|.x (Ai r)<|.h (.xs (Ac (lf s)))<|.t .r) (_/\Y ((i:Int)<0)=O/\Y ((i:Int)>=(I (U Ai m.av):Int))=O/\_/\0<=(i:Int)/\(U Ai m.av)[Z (i:Int)]?=G (Ai r)/\Q 2/\iz 0<=0/\_/\yp/\_/\Q (bl [db O,di 0])) ⟨hkd,yq,HE (by rw[hlen];omega),hv,by omega,Am hi,rfl,Ib _,h0,yn,n1,rfl⟩
end
theorem AgZ(j:Nat)(l:List bc):∀k:Nat,k<=I l->(kL j l k).map (gh [] false)=Ab ((l.take k).map eV)
 |0,_=>rfl
 |k+1,h=>by
  obtain⟨x,hx⟩:=@yk _ l k (by omega)
  rw[FN,IQ,AgZ j l k (by omega),de hx,IM,hx,Option.toList_some, ←E2]
  congr 1
  unfold i3
  split<;>rfl
theorem Ain{j:Nat}{l:List bc}{x:bc}(hx:l[j]?=G x):∀n:Nat,j<n->(kL j l n)[j*2+1]?=G (.acc 1 (x.az.map eV))
 |0,h=>by omega
 |n+1,h=>by
  rw[FN]
  by_cases e:j=n
  ·subst e
   rw[HT (by rw[PT];omega),PT,show j*2+1-j*2=1 by omega,i3,HV rfl,de hx];rfl
  ·rw[HW (by rw[PT];omega)]
   exact Ain hx n (by omega)
abbrev ki(r:cp)(n:Nat)(own:List (Nat×Nat×List V))(X:List bc):St:=⟨[G [di 0,.v .nils],G (rC r),G [di 0,.arr 4 0 n],G [di 0,.arr 4 0 n],none,G [di 0,cx X]],own⟩
theorem Lm{r:cp}{n:Nat}{own:List (Nat×Nat×List V)}{L:List D}{X:List bc}(hL:L.map (gh [] false)=Ab (X.map eV))(hX:I X=n)(e:List D):Cv e ⟨[G [di 0,.v .nils],G (rC r),G [di 0,.arr 4 0 n],G [di 0,.arr 4 0 n],G L,G [di 0,.arr 4 0 n]],own⟩ e (ki r n own X):=by
 have h1:=Ec (σ:=⟨[G [di 0,.v .nils],G (rC r),G [di 0,.arr 4 0 n],G [di 0,.arr 4 0 n],G L,G [di 0,.arr 4 0 n]],own⟩) (q:=4) (cs:=L) (cs':=Ab (X.map eV)) rfl (fun g us hr=>by
  have:=CV (ts:=[]) (kn:=false) hr
  rwa[hL] at this) (fun _ c hc=>Iw.1 (E3 X) c hc) e
 refine Ll h1 ?_
 exact BP (σ:=⟨[G [di 0,.v .nils],G (rC r),G [di 0,.arr 4 0 n],G [di 0,.arr 4 0 n],G (Ab (X.map eV)),G [di 0,.arr 4 0 n]],own⟩) (p:=5) (q:=4) (i:=1) (sz:=2) (cs:=[di 0,.arr 4 0 n]) (xs:=X.map eV) (by decide) rfl rfl (by decide) (by rw[H9,hX];rfl) (Ct _) e
theorem Sx:∀(ws:List (List Int)),(∀w∈ws,I w<=13)->bc.sizes (ws.map ce)<=14*I ws
 |[],_=>HH _
 |w::ws,h=>by
  have h1:=h w (by simp)
  have h2:=Sx ws fun z hz=>h z (by simp[hz])
  have h3:=Sb w
  rw[Ia,bc.sizes,HF];omega
theorem Agg{m:b9}(hk:m.kind=2∨m.kind=3){s:Int}{ws:List (List Int)}{w:List Int}(hw:w∈ws)(hl:12<I w):Ah (AF m) (cb s ws)=O:=by
 cases hv:Ah (AF m) (cb s ws) with
 |false=>rfl
 |true=>
  obtain⟨s',ws',e,h⟩:=RK hk hv
  obtain⟨_,e2⟩:=RL e
  rw[e2] at hw
  have:=(h.word w hw).1
  omega
noncomputable abbrev Qo:=Tryz.f55
section
variable {m : b9} (hm : k8 m) {s : Int} {ws : List (List Int)} (h : i1 m s ws) {i : Nat} {r : cp} (hi : m.av[i]? = G r) {k : Nat} (hk : r.chan = k) {w : List Int} (hw : ws[k]? = G w)
include hm h hi hk hw
noncomputable abbrev An9:=fun a₀ (b₀:Nat) c₀=>F0 100 [Af a₀,di (b₀:Int),dV c₀] (bl [db J,di 0])
noncomputable abbrev Aof:=fun a₀=>(bc.az (ce a₀))
noncomputable abbrev Ape:=fun a₀ b₀=>F0 25 [Af a₀,bt (ab [vi 0,dt b₀])] (db J)
theorem Wj:F0 55 [Af m,di i,dV (cb s ws)] (dP (RM (AF m) r (cb s ws))):=by
 have hen:=V6 hm h hi hk hw
 have hir:=(HD.1 hi).1
 have hfew:=hm.few.1
 have hcz:=qz hm h
 have hkl:=(HD.1 hw).1
 have hpl:=h.len
 have hp2:=hm.few.2.2
 have hw12:=(h.word w (HG hw)).1
 rw[Q2 hm.kind hp2 h hk hw]
 obtain⟨l,hl⟩:∃l,l=(cb s ws).az:=⟨_,rfl⟩
 have hll:I l=1+I ws:=by rw[hl];show(lf s::ws.map ce).length=_;simp;omega
 have hne:(cb s ws).az≠ []:=by rw[←hl];intro e;rw[e] at hll;simp at hll;omega
 have hlx:l[1+k]?=G (ce w):=by
  rw[hl];show(lf s::ws.map ce)[1+k]?=_
  rw[show 1+k=k+1 by omega,Js,Ir,hw];rfl
 obtain⟨L,hL⟩:∃L,L=kL (1+k) l (I l):=⟨_,rfl⟩
 have hLl:=PT (1+k) l (I l)
 have hLx:=Ain hlx (I l) (by omega)
 have hLw:=AgZ (1+k) l (I l) (HH _)
 rw[take_length] at hLw
 rw[←hL] at hLl hLx hLw
 have hcp:∀(o:yy) (cl:Call) (fo:x8),o.op=.call cl->cl.callee=.value fo->Aj PP o [.v (.fn 101 [] []),dV (cb s ws)] ⟨[G [di 0,.v .nils],G (rC r)],[]⟩ (.dagg [di 0,.arr 4 0 (I l)]) ⟨[G [di 0,.v .nils],G (rC r),G [di 0,.arr 4 0 (I l)],G [di 0,.arr 4 0 (I l)],G L],eb (ce w)⟩:=fun o cl fo ho hc=>by
  have h:=Y2 [G [di 0,.v .nils],G (rC r)] (1+k) (by omega) (cb s ws) hne (by omega) ho hc
  rw[←hl] at h
  rw[show DY (1+k) l (I l)=eb (ce w) by rw[DY,HV (by omega),de hlx], ←hL] at h
  exact h
 -- what is stored
 have hwk:∀(D':D) (w':List Int),gh [] false D'=.v (.list ((w'.map lf).map eV))->((L.set 0 (di r.to)).set ((1+k)*2+1) D').map (gh [] false)=Ab ((cb r.to (ws.set k w')).az.map eV):=fun D' w' hD=>by
  have hcl:=Lt (l:=l) (s0:=lf s) (x:=ce w) (k:=k) (by rw[hl];rfl) hlx r.to w'
  have e1:BL l (lf s) (ce w) r.to (1+k) w'=(cb r.to (ws.set k w')).az:=by
   have:=EH hw (s:=s) r.to w'
   rw[GU,EI,GV hw, ←hl] at this
   exact HX bc.az this
  rw[map_set,map_set,hLw,hD, ←e1, ←hcl,YX];rfl
 have hXl:∀w':List Int,(cb r.to (ws.set k w')).az.length=I l:=fun w'=>by show(lf r.to::(ws.set k w').map ce).length=_;simp;omega
 have hww:yt.wrap (1+r.chan)=((1+k:Nat):Int):=by rw[hk,Al];omega
 have hr:=hm.rule r (HG hi)
 have hval:∀w':List Int,I w'<=13->F0 25 [Af m,dV (cb r.to (ws.set k w'))] (db (Ah (AF m) (cb r.to (ws.set k w')))):=fun w' hw'=>CW m hm.ok _ (by
  have h1:=Sx (ws.set k w') fun u hu=>by
   rcases IE hu with hu|rfl
   ·have:=(h.word u hu).1;omega
   ·exact hw'
  have h2:(cb r.to (ws.set k w')).size=1+(1+bc.sizes ((ws.set k w').map ce)):=by simp only[cb,bc.size,bc.sizes]
  rw[length_set] at h1
  omega)
 have hLs:(L.set 0 (di r.to))[(1+k)*2+1]?=G (.acc 1 ((ce w).az.map eV)):=by rw[List.getElem?_set_ne (by omega)];exact hLx
 have ep:Nat.add (0+Z ((1+k:Nat):Int)*2) 1=(1+k)*2+1:=by show 0+Z ((1+k:Nat):Int)*2+1=_;omega
 have hwd:=(h.word w (HG hw)).2
 have hlk:I ((ce w).az.map eV)=I w:=by rw[H9];exact H9 _
 have k32:∀n:Nat,n<=2000->Ao n 32:=fun n hn=>⟨by omega,by omega⟩
 by_cases hb:((s==r.aj)&&((r.act !=2)||w.head?==G r.letter))=J
 ·rw[HV hb]
  rw[hb] at hen
  by_cases a1:(r.act==1)=J
  ·rw[HV a1]
   have a2:(r.act==2)=O:=by rw[show r.act=1 by simpa using a1];rfl
   obtain⟨X,hX⟩:∃X,X=(cb r.to (ws.set k (w++[r.letter]))).az:=⟨_,rfl⟩
   have hR:cb r.to (ws.set k (w++[r.letter]))=.mk 0 X:=by rw[hX];rfl
   have hv:=hval (w++[r.letter]) (by rw[HO];simp only[HF,HJ];omega)
   have hk2:=hwk (.acc 1 ((ce w).az.map eV++[.agg [vi r.letter,.list []]])) (w++[r.letter]) (by
    have e:ab [vi r.letter,ai []]=eV (lf r.letter):=by rw[AE];rfl
    show bt (.list ((w.map lf).map eV++[ab [vi r.letter,ai []]]))=_
    rw[e,IQ,IQ];rfl)
   have hXl2:=hXl (w++[r.letter])
   rw[←hX] at hk2 hXl2
   by_cases h12:((I w:Int)==12)=J
   ·have h12':(I w:Int)=12:=by simpa using h12
    rw[HV h12]
    rw[Agg hm.kind (w:=w++[r.letter]) (HG (by rw[List.getElem?_set_self hkl])) (by rw[HO];simp only[HF,HJ];omega),hR] at hv
    generalize cb s ws=c at hen hcp⊢
    refine sv Qo 76 [3,5] (.c (.tup [db J,di 0])<|.k<|.k<|.x (Ai r)<|.h (.oc (.dagg [di 0,.arr 4 0 (I l)]) ⟨[G [di 0,.v .nils],G (rC r),G [di 0,.arr 4 0 (I l)],G [di 0,.arr 4 0 (I l)],G L],eb (ce w)⟩)<|.h (.q 8 5)<|.w<|.h (.q 9 6)<|.m (.acc 1 ((ce w).az.map eV))<|.f<|.t<|.h (.q 14 8)<|.w<|.h (.q 15 0)<|.h (.cs (ki r (I l) [(1,2,(ce w).az.map eV++[.agg [vi r.letter,.list []]])] X))<|.c (db O)<|.k .r) (F0 100 [Af m,di (i:Int),dV c] (bl [db J,di 0])/\0<=(i:Int)/\(U Ai m.av)[Z (i:Int)]?=G (Ai r)/\(N0 [bt (bw 101 [] []),dV c] (bi [G [di 0,dn],G [bt (ae r.name),di r.aj,di r.to,cw r.am,cw r.ak,cw r.move,di r.chan,di r.act,di r.letter,cw r.path,cw r.next,bt (AA r.ar),cw r.aq,di r.second]] []) (bj [di 0,bo 4 0 (I l)]) (bi [G [di 0,dn],G (rC r),G [di 0,bo 4 0 (I l)],G [di 0,bo 4 0 (I l)],G L] (eb (ce w))))/\iz 0<=0/\0<(I l:Int)/\0<I L/\0<=yu yt (1+r.chan)/\yu yt (1+r.chan)<(I l:Int)/\(List.set L (Nat.add (0+Z 0*2) 0) (di r.to))[Nat.add (0+Z (yu yt (1+r.chan))*2) 1]?=G (br 1 (U eV (bc.az (ce w))))/\(r.act==2)=O/\(r.act==1)=J/\Q (U eV (bc.az (ce w)))/\Ao (I (U eV (bc.az (ce w)))+I (ab (aa yt r.letter::ai nV::nV)::nV)) 32/\0<=yu yt (1+r.chan)/\yu yt (1+r.chan)<(I l:Int)/\Nat.add (0+Z (yu yt (1+r.chan))*2) 1<I (List.set L (Nat.add (0+Z 0*2) 0) (di r.to))/\(∀(e:List D) (E:cf) (g:Gh) (a:Act) (w_1:x5),FI E g (bi [G [di 0,dn],G (rC r),G [di 0,bo 4 0 (I l)],G [di 0,bo 4 0 (I l)],G (List.set (List.set L (Nat.add (0+Z 0*2) 0) (di r.to)) (Nat.add (0+Z (yu yt (1+r.chan))*2) 1) (br 1 (U eV (bc.az (ce w))++[ab [aa yt r.letter,ai []]]))),G [di 0,bo 4 0 (I l)]] [(1,2,U eV (bc.az (ce w))++[ab [aa yt r.letter,ai []]])]) e a w_1->∃g',FI E g' (ki r (I l) [(1,2,U eV (bc.az (ce w))++[ab [vi r.letter,ai []]])] X) e a w_1)/\F0 25 [Af m,bt (ab [vi 0,dt X])] (db O)/\bl [bt (ab [vi 0,ai []]),di 1]=dP (ez,1)) ?_
    rw[hww,ep]
    exact⟨hen,by omega,Am hi,hcp,Ib _,by omega,by omega,by omega,by omega,hLs,a2,a1,rfl,k32 _ (by simp only[HF,HJ];omega),by omega,by omega,by rw[length_set];omega,fun e=>Lm hk2 hXl2 e,hv,rfl⟩
   ·rw[HR h12]
    have h12':¬(I w:Int)=12:=by simpa using h12
    rw[Ed hm.kind hp2 (h.set hr.to k (by rw[HO];simp only[HF,HJ];omega) fun x hx=>by
     rcases Ix.1 hx with hx|hx
     ·exact hwd x hx
     ·rw[HQ.1 hx];exact hr.letter (by simpa using a1)),hR] at hv
    rw[hR]
    generalize cb s ws=c at hen hcp⊢
    refine sv Qo 76 [3,5] (.c (.tup [db J,di 0])<|.k<|.k<|.x (Ai r)<|.h (.oc (.dagg [di 0,.arr 4 0 (I l)]) ⟨[G [di 0,.v .nils],G (rC r),G [di 0,.arr 4 0 (I l)],G [di 0,.arr 4 0 (I l)],G L],eb (ce w)⟩)<|.h (.q 8 5)<|.w<|.h (.q 9 6)<|.m (.acc 1 ((ce w).az.map eV))<|.f<|.t<|.h (.q 14 8)<|.w<|.h (.q 15 0)<|.h (.cs (ki r (I l) [(1,2,(ce w).az.map eV++[.agg [vi r.letter,.list []]])] X))<|.c (db J)<|.k .r) (F0 100 [Af m,di (i:Int),dV c] (bl [db J,di 0])/\0<=(i:Int)/\(U Ai m.av)[Z (i:Int)]?=G (Ai r)/\(N0 [bt (bw 101 [] []),dV c] (bi [G [di 0,dn],G [bt (ae r.name),di r.aj,di r.to,cw r.am,cw r.ak,cw r.move,di r.chan,di r.act,di r.letter,cw r.path,cw r.next,bt (AA r.ar),cw r.aq,di r.second]] []) (bj [di 0,bo 4 0 (I l)]) (bi [G [di 0,dn],G (rC r),G [di 0,bo 4 0 (I l)],G [di 0,bo 4 0 (I l)],G L] (eb (ce w))))/\iz 0<=0/\0<(I l:Int)/\0<I L/\0<=yu yt (1+r.chan)/\yu yt (1+r.chan)<(I l:Int)/\(List.set L (Nat.add (0+Z 0*2) 0) (di r.to))[Nat.add (0+Z (yu yt (1+r.chan))*2) 1]?=G (br 1 (U eV (bc.az (ce w))))/\(r.act==2)=O/\(r.act==1)=J/\Q (U eV (bc.az (ce w)))/\Ao (I (U eV (bc.az (ce w)))+I (ab (aa yt r.letter::ai nV::nV)::nV)) 32/\0<=yu yt (1+r.chan)/\yu yt (1+r.chan)<(I l:Int)/\Nat.add (0+Z (yu yt (1+r.chan))*2) 1<I (List.set L (Nat.add (0+Z 0*2) 0) (di r.to))/\(∀(e:List D) (E:cf) (g:Gh) (a:Act) (w_1:x5),FI E g (bi [G [di 0,dn],G (rC r),G [di 0,bo 4 0 (I l)],G [di 0,bo 4 0 (I l)],G (List.set (List.set L (Nat.add (0+Z 0*2) 0) (di r.to)) (Nat.add (0+Z (yu yt (1+r.chan))*2) 1) (br 1 (U eV (bc.az (ce w))++[ab [aa yt r.letter,ai []]]))),G [di 0,bo 4 0 (I l)]] [(1,2,U eV (bc.az (ce w))++[ab [aa yt r.letter,ai []]])]) e a w_1->∃g',FI E g' (ki r (I l) [(1,2,U eV (bc.az (ce w))++[ab [vi r.letter,ai []]])] X) e a w_1)/\F0 25 [Af m,bt (ab [vi 0,dt X])] (db J)/\bl [bt (ab [vi 0,ai (U eV X)]),di 0]=dP (bc.mk 0 X,0)) ?_
    rw[hww,ep]
    exact⟨hen,by omega,Am hi,hcp,Ib _,by omega,by omega,by omega,by omega,hLs,a2,a1,rfl,k32 _ (by simp only[HF,HJ];omega),by omega,by omega,by rw[length_set];omega,fun e=>Lm hk2 hXl2 e,hv,rfl⟩
  ·rw[HR a1]
   by_cases a2:(r.act==2)=J
   ·rw[HV a2]
    obtain⟨X,hX⟩:∃X,X=(cb r.to (ws.set k (w.drop 1))).az:=⟨_,rfl⟩
    have hR:cb r.to (ws.set k (w.drop 1))=.mk 0 X:=by rw[hX];rfl
    have hv:=hval (w.drop 1) (by rw[IF];omega)
    rw[Ed hm.kind hp2 (h.set hr.to k (by rw[IF];omega) fun x hx=>hwd x (I1 hx)),hR] at hv
    have hk2:=hwk (.v (.list (((ce w).az.map eV).drop 1))) (w.drop 1) (by
     show bt (.list (((w.map lf).map eV).drop 1))=_
     rw[←map_drop, ←map_drop])
    have hXl2:=hXl (w.drop 1)
    rw[←hX] at hk2 hXl2
    rw[hR]
    generalize cb s ws=c at hen hcp⊢
    refine sv Qo 76 [3,5] (.c (.tup [db J,di 0])<|.k<|.k<|.x (Ai r)<|.h (.oc (.dagg [di 0,.arr 4 0 (I l)]) ⟨[G [di 0,.v .nils],G (rC r),G [di 0,.arr 4 0 (I l)],G [di 0,.arr 4 0 (I l)],G L],eb (ce w)⟩)<|.h (.q 8 5)<|.w<|.h (.q 9 6)<|.m (.acc 1 ((ce w).az.map eV))<|.t<|.f<|.h (.q 14 8)<|.w<|.h (.q 15 0)<|.h (.cs (ki r (I l) (eb (ce w)) X))<|.c (db J)<|.k .r) (F0 100 [Af m,di (i:Int),dV c] (bl [db J,di 0])/\0<=(i:Int)/\(U Ai m.av)[Z (i:Int)]?=G (Ai r)/\(N0 [bt (bw 101 [] []),dV c] (bi [G [di 0,dn],G [bt (ae r.name),di r.aj,di r.to,cw r.am,cw r.ak,cw r.move,di r.chan,di r.act,di r.letter,cw r.path,cw r.next,bt (AA r.ar),cw r.aq,di r.second]] []) (bj [di 0,bo 4 0 (I l)]) (bi [G [di 0,dn],G (rC r),G [di 0,bo 4 0 (I l)],G [di 0,bo 4 0 (I l)],G L] (eb (ce w))))/\iz 0<=0/\0<(I l:Int)/\0<I L/\0<=yu yt (1+r.chan)/\yu yt (1+r.chan)<(I l:Int)/\(List.set L (Nat.add (0+Z 0*2) 0) (di r.to))[Nat.add (0+Z (yu yt (1+r.chan))*2) 1]?=G (br 1 (U eV (bc.az (ce w))))/\(r.act==2)=J/\(∀(x:V),x∈U eV (bc.az (ce w))->V.size x=2)/\0<=(1:Int)/\(1:Int)<=(I (U eV (bc.az (ce w))):Int)/\(r.act==1)=O/\0<=yu yt (1+r.chan)/\yu yt (1+r.chan)<(I l:Int)/\Nat.add (0+Z (yu yt (1+r.chan))*2) 1<I (List.set L (Nat.add (0+Z 0*2) 0) (di r.to))/\(∀(e:List D) (E:cf) (g:Gh) (a:Act) (w_1:x5),FI E g (bi [G [di 0,dn],G (rC r),G [di 0,bo 4 0 (I l)],G [di 0,bo 4 0 (I l)],G (List.set (List.set L (Nat.add (0+Z 0*2) 0) (di r.to)) (Nat.add (0+Z (yu yt (1+r.chan))*2) 1) (bt (ai (W (Z ((1:Int))) (take (I (U eV (bc.az (ce w)))) (U eV (bc.az (ce w)))))))),G [di 0,bo 4 0 (I l)]] [(1,2,U eV (bc.az (ce w)))]) e a w_1->∃g',FI E g' (ki r (I l) (eb (ce w)) X) e a w_1)/\F0 25 [Af m,bt (ab [vi 0,dt X])] (db J)/\bl [bt (ab [vi 0,ai (U eV X)]),di 0]=dP (bc.mk 0 X,0)) ?_
    rw[hww,ep]
    have h1w:1<=I w:=by
     rw[show(r.act !=2)=O by rw[bne,a2];rfl,Bool.false_or] at hb
     cases w with
     |nil=>simp at hb
     |cons y w=>simp
    have ed:W (Z (1:Int)) (take (I ((ce w).az.map eV)) ((ce w).az.map eV))=((ce w).az.map eV).drop 1:=by rw[take_length];rfl
    rw[ed]
    exact⟨hen,by omega,Am hi,hcp,Ib _,by omega,by omega,by omega,by omega,hLs,a2,Ct _,by decide,by rw[hlk];omega,HM a1,by omega,by omega,by rw[length_set];omega,fun e=>Lm hk2 hXl2 e,hv,rfl⟩
   ·rw[HR a2]
    obtain⟨X,hX⟩:∃X,X=(cb r.to (ws.set k w)).az:=⟨_,rfl⟩
    have hR:cb r.to (ws.set k w)=.mk 0 X:=by rw[hX];rfl
    have hv:=hval w (by omega)
    rw[Ed hm.kind hp2 (h.set hr.to k hw12 hwd),hR] at hv
    have hk2:=hwk (.acc 1 ((ce w).az.map eV)) w rfl
    have hXl2:=hXl w
    rw[←hX] at hk2 hXl2
    rw[hR]
    generalize cb s ws=c at hen hcp⊢
    refine sv Qo 76 [3,5] (.c (.tup [db J,di 0])<|.k<|.k<|.x (Ai r)<|.h (.oc (.dagg [di 0,.arr 4 0 (I l)]) ⟨[G [di 0,.v .nils],G (rC r),G [di 0,.arr 4 0 (I l)],G [di 0,.arr 4 0 (I l)],G L],eb (ce w)⟩)<|.h (.q 8 5)<|.w<|.h (.q 9 6)<|.m (.acc 1 ((ce w).az.map eV))<|.f<|.f<|.h (.q 14 8)<|.w<|.h (.q 15 0)<|.h (.cs (ki r (I l) (eb (ce w)) X))<|.c (db J)<|.k .r) (F0 100 [Af m,di (i:Int),dV c] (bl [db J,di 0])/\0<=(i:Int)/\(U Ai m.av)[Z (i:Int)]?=G (Ai r)/\(N0 [bt (bw 101 [] []),dV c] (bi [G [di 0,dn],G [bt (ae r.name),di r.aj,di r.to,cw r.am,cw r.ak,cw r.move,di r.chan,di r.act,di r.letter,cw r.path,cw r.next,bt (AA r.ar),cw r.aq,di r.second]] []) (bj [di 0,bo 4 0 (I l)]) (bi [G [di 0,dn],G (rC r),G [di 0,bo 4 0 (I l)],G [di 0,bo 4 0 (I l)],G L] (eb (ce w))))/\iz 0<=0/\0<(I l:Int)/\0<I L/\0<=yu yt (1+r.chan)/\yu yt (1+r.chan)<(I l:Int)/\(List.set L (Nat.add (0+Z 0*2) 0) (di r.to))[Nat.add (0+Z (yu yt (1+r.chan))*2) 1]?=G (br 1 (U eV (bc.az (ce w))))/\(r.act==2)=O/\(r.act==1)=O/\0<=yu yt (1+r.chan)/\yu yt (1+r.chan)<(I l:Int)/\Nat.add (0+Z (yu yt (1+r.chan))*2) 1<I (List.set L (Nat.add (0+Z 0*2) 0) (di r.to))/\(∀(e:List D) (E:cf) (g:Gh) (a:Act) (w_1:x5),FI E g (bi [G [di 0,dn],G (rC r),G [di 0,bo 4 0 (I l)],G [di 0,bo 4 0 (I l)],G (List.set (List.set L (Nat.add (0+Z 0*2) 0) (di r.to)) (Nat.add (0+Z (yu yt (1+r.chan))*2) 1) (br 1 (U eV (bc.az (ce w))))),G [di 0,bo 4 0 (I l)]] [(1,2,U eV (bc.az (ce w)))]) e a w_1->∃g',FI E g' (ki r (I l) (eb (ce w)) X) e a w_1)/\F0 25 [Af m,bt (ab [vi 0,dt X])] (db J)/\bl [bt (ab [vi 0,ai (U eV X)]),di 0]=dP (bc.mk 0 X,0)) ?_
    rw[hww,ep]
    exact⟨hen,by omega,Am hi,hcp,Ib _,by omega,by omega,by omega,by omega,hLs,HM a2,HM a1,by omega,by omega,by rw[length_set];omega,fun e=>Lm hk2 hXl2 e,hv,rfl⟩
 ·rw[HR hb]
  rw[HM hb] at hen
  generalize cb s ws=c at hen⊢
  exact sv Qo 76 [3,5] (.c (.tup [db O,di 0])<|.k<|.k .r) (_/\bl [bt (ab [vi 0,ai []]),di 18]=dP (ez,18)) ⟨hen,rfl⟩
end
def d9(b k:Nat):List D:=(List.range k).flatMap fun i=>[di 0,.arr (b+i) 0 2]
theorem Hw(b k:Nat):d9 b (k+1)=d9 b k++[di 0,.arr (b+k) 0 2]:=by simp[d9,range_succ]
theorem Afh(b k:Nat):I (d9 b k)=k*2:=by
 induction k with
 |zero=>rfl
 |succ k ih=>rw[Hw,HO,ih];show k*2+2=_;omega
theorem Hx{n:Nat}{ts:List Nat}(b k:Nat)(h:b+k<=n):D.okNs n ts (d9 b k)=J:=by
 induction k with
 |zero=>rfl
 |succ k ih=>
  rw[Hw,J7,ih (by omega)]
  simp[D.okNs,D.okN];omega
theorem Gj{ρ:Nat->Nat}(b b' k:Nat)(h:∀i,i<k->ρ (b+i)=b'+i):D.rens ρ id (d9 b k)=d9 b' k:=by
 induction k with
 |zero=>rfl
 |succ k ih=>
  rw[Hw,Hw,J5,ih (fun i hi=>h i (by omega))]
  simp[D.rens,D.ren,h k (by omega)]
abbrev fx(x:bc):List D:=Ab (x.az.map eV)
def c6(l:List bc):List (Option (List D)):=l.map fun x=>G (fx x)
theorem Ci(x:bc):D.pls (fx x)=J:=A3 _
theorem JO{l:List bc}{j:Nat}{cs:List D}(h:(c6 l)[j]?=G (G cs)):∃x,l[j]?=G x/\cs=fx x:=by
 rw[c6,Ir] at h
 cases hx:l[j]? with
 |none=>rw[hx] at h;simp at h
 |some x=>rw[hx] at h;simp at h;exact⟨x,rfl,h.symm⟩
theorem ZI(x:bc)(hn:x.az≠ [])(hv:x.size<=900):Aa PP 101 [dV x] bd (.dagg [di x.n,.arr 0 0 (I x.az)]) ⟨[G (fx x)],[]⟩:=by
 have h:=Qu (I x.az) (length_pos_iff.2 hn) x hn hv
 rw[R6 x.az (I x.az) (I x.az) (HH _) (HH _),take_length,show DY (I x.az) x.az (I x.az)=[] by rw[DY,HR (Nat.lt_irrefl _)]] at h
 refine Fq (σ:=bd) (T:=(uy x.n (I x.az) (fx x) []).H) (fun i=>i+2) (Ik _) (fun i hi=>by simp at hi) (fun i j _ _ h=>by simpa using h) (fun i hi=>by simp at hi;subst hi;show 0+2<3;decide) (fun i cs hi=>?_) (by simp[D.okN,D.okNs]) (by simpa[D.ren,D.rens] using h)
 match i,hi with
 |0,hi=>simp at hi;subst hi;exact⟨by simp[AC (Ci x)],AS (Ci x)⟩
 |i+1,hi=>simp at hi
abbrev ib(n:Int)(k:Nat)(L:List D)(Hs:List (Option (List D))):St:=⟨G [di 0,.v .nils]::G [di n,.gro 2 k 2]::G L::Hs,[]⟩
theorem AeF{P:x7}{o:yy}{σ:St}{t:x6}{x:x8}{N:Nat}(hN:I σ.H=N)(ho:o.op=.buildSlice t 1 #[(0,x)])
  {e:x6} {sz by':Nat} {z:Option yz} (hs:Cd P t=G (e,sz,by',z)) (hz:z.isSome=J) {d:D} (hd:d.sto=J) (hc:I (Ax d)=sz) (h1:0<sz) (h2:sz<=1000):
  Aj P o [d] σ (.gro N 1 sz) ⟨σ.H++[G (Ax d)],σ.own⟩:=by
 subst hN
 exact F7 ho hs hz hd hc h1 h2
theorem Qv{H:List (Option (List D))}{N:Nat}(hN:I H=N){x:bc}{F:List D}(hF:D.pls F=J)(hsp:Aa PP 101 [dV x] bd (.dagg [di x.n,.arr 0 0 (I x.az)]) ⟨[G F],[]⟩){o:yy}{cl:Call}{fo:x8}(ho:o.op=.call cl)(hc2:cl.callee=.value fo):
  Aj PP o [.v (.fn 101 [] []),dV x] ⟨H,[]⟩ (.dagg [di x.n,.arr N 0 (I x.az)]) ⟨H++[G F],[]⟩:=by
 subst hN
 have h:=BX (σ:=⟨H,[]⟩) ho hc2 (fD:=.v (.fn 101 [] [])) rfl (ds:=[dV x]) [] id hsp (.cons (.ren (dc:=dV x) rfl) .nil) .nil (by simp) rfl (by simp) (by simp) (by simp[D.okN,D.okNs]) (by simp[cm,D.okN,D.okNs,AS hF])
 simpa[D7,CD,Ev,D.ren,D.rens,df,AC hF] using h
theorem Akp{R:List D->St->Prop}{ks:List KI}{e e':List D}(n:Int)(l:List bc)(x:bc)(S:Option (List D))(he:D.okNs (I l+4) [] e'=J)(hee:e=D.rens (fun i=>if i=2 then I l+5 else i) id e')
  (h:AB (CN 0) PP R ks e' (ib n (I l+1) (d9 3 (I l+1)) (c6 (l++[x])))):
  AB (CN 0) PP R ks e ⟨G [di 0,.v .nils]::G [di n,.gro (I l+5) (I l+1) 2]::none::(((c6 l++[G (fx x)])++[S])++[G (d9 3 (I l+1))]),[]⟩:=by
 have hl:I (c6 l)=I l:=by simp[c6]
 have hl2:I (c6 (l++[x]))=I l+1:=by simp[c6]
 have hH:(ib n (I l+1) (d9 3 (I l+1)) (c6 (l++[x]))).H.length=I l+4:=by simp[hl2]
 refine Ce (e':=e') (H':=(ib n (I l+1) (d9 3 (I l+1)) (c6 (l++[x]))).H) (m:=0) (fun _ _ h=>h.2) (fun i=>if i=2 then I l+5 else i) (Ik _) (fun i hi=>by omega) (fun i j hi hj h=>?_) (fun i cs hi=>?_) (by rw[hH];exact he) hee h
 ·have h:(if i=2 then I l+5 else i)=(if j=2 then I l+5 else j):=h
  rw[hH] at hi hj
  split at h<;>split at h<;>omega
 ·rw[hH]
  match i,hi with
  |0,hi=>simp at hi;subst hi;exact⟨rfl,by simp[D.okNs,D.okN]⟩
  |1,hi=>simp at hi;subst hi;exact⟨by simp[D.rens,D.ren],by simp[D.okNs,D.okN]⟩
  |2,hi=>
   simp at hi;subst hi
   refine⟨?_,Hx _ _ (by omega)⟩
   rw[Gj 3 3 _ (fun i hi=>by rw[HR (by omega)])]
   show(((c6 l++[G (fx x)])++[S])++[G (d9 3 (I l+1))])[I l+2]?=_
   rw[HT (by simp[hl])]
   simp[hl]
  |i+3,hi=>
   have hi:(c6 (l++[x]))[i]?=G (G cs):=hi
   have hlt:i<I l+1:=by have:=(HD.1 hi).1;omega
   obtain⟨y,hy,rfl⟩:=JO hi
   refine⟨?_,AS (Ci y)⟩
   rw[AC (Ci y),HR (by omega)]
   show(((c6 l++[G (fx x)])++[S])++[G (d9 3 (I l+1))])[i]?=_
   rw[HW (by simp[hl];omega),HW (by simp[hl];omega),show c6 l++[G (fx x)]=c6 (l++[x]) by simp[c6]]
   exact hi
theorem ZJ{n:Int}{l:List bc}(hk:I l<=900)(hk1:1<=I l){v:bc}{x:bc}(hx:v.az[I l]?=G x)(h0:x.n=0)(h2:I x.az=2)(hsz:x.size<=900){d:D}{σ':St}
  (next:Rn PP AZ 0 d σ' ([kl A6 [1,1,0,1,0,0],.blk 0,kc A6 [1,1,1]]++[]) (ba 27 [(1,.v (.ref (Ac v))),(2,.ptr 0 0),(3,.ptr 1 0),(4,di (I l+1:Nat))]) (ib n (I l+1) (d9 3 (I l+1)) (c6 (l++[x])))):
  Rn PP AZ 0 d σ' ([kl A6 [1,1,0,1,0,0],.blk 0,kc A6 [1,1,1]]++[]) (ba 27 [(1,.v (.ref (Ac v))),(2,.ptr 0 0),(3,.ptr 1 0),(4,di (I l:Nat))]) (ib n (I l) (d9 3 (I l)) (c6 l)):=by
 have hsp:=ZI x (by intro h;rw[h] at h2;simp at h2) hsz
 have hlt:=(HD.1 hx).1
 have hOl:I (c6 l)=I l:=by simp[c6]
 have hLl:=Afh 3 (I l)
 have hnm:=fun(e e':List D) he hee=>Akp (R:=fun env σ1=>Az PP AZ env σ1 d σ') (ks:=[kl A6 [1,1,0,1,0,0],.blk 0,kc A6 [1,1,1]]) (e:=e) (e':=e') n l x (G [di 0,.arr (I l+3) 0 2]) he hee
 have hLs:=Hw 3 (I l)
 generalize c6 (l++[x])=Hs' at next hnm
 generalize d9 3 (I l+1)=L' at next hnm hLs
 generalize c6 l=Hs at hOl hnm⊢
 generalize d9 3 (I l)=L at hLl hLs⊢
 refine lv 27 [1] (.t<|.h (.xs (Ac x))<|.h (.oc (.dagg [di x.n,.arr (I l+3) 0 (I x.az)]) ⟨G [di 0,.v .nils]::G [di n,.gro 2 (I l) 2]::G L::(Hs++[G (fx x)]),[]⟩)<|.h (.o (.gro (I l+4) 1 2) ⟨G [di 0,.v .nils]::G [di n,.gro 2 (I l) 2]::G L::((Hs++[G (fx x)])++[G [di 0,.arr (I l+3) 0 2]]),[]⟩)<|.h (.o (.gro (I l+5) (I l+1) 2) ⟨G [di 0,.v .nils]::G [di n,.gro 2 (I l) 2]::none::(((Hs++[G (fx x)])++[G [di 0,.arr (I l+3) 0 2]])++[G L']),[]⟩)<|.l [ke 1,ke 2,ke 3,ch 4 (di (I l+1:Nat))]) (Y ((I l:Int)<(I (cc v.az):Int))=J/\Q 2/\0<=(I l:Int)/\(cc v.az)[Z (I l:Int)]?=G (Ac x)/\(N0 (wj x) (ib n (I l) L Hs) (bj [di x.n,bo (I l+3) 0 (I x.az)]) (bi (G [di 0,dn]::G [di n,bm 2 (I l) 2]::G L::(Hs++[G (fx x)])) []))/\Aj PP oq [bj [di x.n,bo (I l+3) 0 (I x.az)]] (bi (G [di 0,dn]::G [di n,bm 2 (I l) 2]::G L::(Hs++[G (fx x)])) []) (bm (I l+4) 1 2) (bi (G [di 0,dn]::G [di n,bm 2 (I l) 2]::G L::(Hs++[G (fx x)]++[G [di 0,bo (I l+3) 0 2]])) [])/\Aj PP tg [bm 2 (I l) 2,bm (I l+4) 1 2] (bi (G [di 0,dn]::G [di n,bm 2 (I l) 2]::G L::(Hs++[G (fx x)]++[G [di 0,bo (I l+3) 0 2]])) []) (bm (I l+5) (I l+1) 2) (bi (G [di 0,dn]::G [di n,bm 2 (I l) 2]::none::(Hs++[G (fx x)]++[G [di 0,bo (I l+3) 0 2]]++[G L'])) [])/\((Q (G [bm 2 (I l) 2])/\Q (G [bm 2 (I l) 2])/\True)/\True)/\di (yu yt ((I l:Int)+1))=di (↑(I l+1):Int)/\I0 AZ 0 d σ' ly (ba 27 [(1,bt (f7 v)),i7,jr,(4,di (↑(I l+1):Int))]) (bi (G [di 0,dn]::G [di n,bm (I l+5) (I l+1) 2]::none::(Hs++[G (fx x)]++[G [di 0,bo (I l+3) 0 2]]++[G L'])) [])) ?_
 refine⟨HC (by rw[H9];omega),rfl,by omega,An hx,fun o c fo ho hc=>Qv (by simp[hOl]) (Ci x) hsp ho hc,?_,?_,⟨⟨rfl,rfl,trivial⟩,trivial⟩,Ae,⟨hnm _ _ (by simp[ba,D.okNs,D.okN]) (by simp[ba,D.rens,D.ren]) next⟩⟩
 ·rw[h0,h2]
  refine AeF ?_ rfl jh rfl rfl rfl (by decide) (by decide)
  simp[hOl]
 ·rw[hLs,Nat.add_comm 3 (I l)]
  have hN:I l+5=I (G [di 0,.v .nils]::G [di n,.gro 2 (I l) 2]::G L::((Hs++[G (fx x)])++[G [di 0,.arr (I l+3) 0 2]])):=by simp[hOl]
  rw[hN]
  refine JT rfl jh rfl (by decide) (q:=2) (q2:=I l+4) (cs:=L) (cs2:=[di 0,.arr (I l+3) 0 2]) rfl hLl ?_ rfl (by decide) (by omega) (by omega)
  show((Hs++[G (fx x)])++[G [di 0,.arr (I l+3) 0 2]])[I l+1]?=_
  rw[HT (by simp[hOl])]
  simp[hOl]
noncomputable def Ahk(P:x7)(rs:List ResultVar)(d:D)(σ':St)(env:List D)(σ:St):Prop:=
 km P env σ true rs fun ds=>AY (ds.map (gh [] false)) fun ds=>Yk ds fun d'=>cond (σ'.own.isEmpty&&σ.own.isEmpty) ((D.okN (I σ'.H) [] d=J/\cm (I σ'.H) [] σ'.H=J)/\σ.H=σ'.H/\d'=d) False
theorem Aba{P:x7}{fn:yw}{d:D}{σ':St}{env:List D}{σ:St}(h:Ahk P fn.results.toList d σ' env σ):Az P fn env σ d σ':=by
 obtain⟨ds,h1,hr⟩:=G4 h
 rw[AO,Oq] at h1
 obtain⟨h2,⟨hokd,h8⟩,hH,h4⟩:=Ap h1
 simp only[HB,List.isEmpty_iff] at h2
 obtain⟨ho',ho⟩:=h2
 intro E g a w hf hE
 obtain⟨us,h5,h6⟩:=hr.run hf
 have hrun:(results fn a.tmps).run P w=.ok (if h:I us=1 then us[0] else .tuple us.toArray) w:=by
  rw[JQ,Array.mapM_eq_mapM_toList]
  simp only[Sem.run_bind,Sem.run_map,h5,Result.andThen_ok]
  by_cases h:I us=1<;>simp[h]
 refine⟨_,_,hrun,WA (m:=I σ'.H) hf.wi (by rw[hH,take_length]) (by rw[hH];exact HH _) hE (by rw[ho'];exact h8) (by rw[ho,ho'];exact List.Sublist.refl _),?_⟩
 refine LB _ _ (by rw[ho'];exact hokd) ?_
 have h7:=CV (ts:=[]) (kn:=false) h6
 subst h4
 generalize ds.map (gh [] false)=ds' at h7
 have hl:=A4 h7
 unfold Rt
 split
 ·rename_i d0
  obtain⟨u,rfl,h3⟩:=A9.1 h7
  simpa using h3
 ·rename_i hne
  have:I us≠1:=by
   rw[hl]
   intro h
   match ds',h with
   |[d0],_=>exact hne d0 rfl
  rw[dif_neg this]
  simp only[Ag]
  exact⟨us,rfl,h7⟩
theorem AcG{P:x7}(hm:P.follows .mixedOrders=J){C:Nat}{fn:yw}{d:D}{σ':St}(nt:Nat)(im:List Nat){ks T:List KI}{L:List (Nat×D)}{σ:St}(s:Sc)
  (h:AY (ba nt L) fun env=>vc (CN C) C P (fun env σ1=>Az P fn env σ1 d σ') (fun _ env σ=>Ahk P fn.results.toList d σ' env σ) nt im T 10000 (.h .n s) ks env σ):Rn P fn C d σ' (ks++T) (ba nt L) σ:=by
 rw[AO] at h
 exact Pj (M5 _) (fun _ _ h=>h.2) hm (fun b env σ _ h=>Aba h) (by simp[ba,DA]) h
theorem Tt{n:Int}{m:Nat}{L:List D}{Hs:List (Option (List D))}{v:bc}(hm:I v.az=m)(hL:D.okNs (I Hs+3) [] L=J)(hH:cm (I Hs+3) [] Hs=J):
  Rn PP AZ 0 (.dagg [di n,.arr 2 0 m]) ⟨G [di n,.arr 2 0 m]::G [di n,.arr 2 0 m]::G L::Hs,[]⟩ ([kl A6 [1,1,0,1,0,0],.blk 0,kc A6 [1,1,1]]++[]) (ba 27 [(1,.v (.ref (Ac v))),(2,.ptr 0 0),(3,.ptr 1 0),(4,di (m:Nat))]) (ib n m L Hs):=by
 have e1:∀e:List D,Cv e (ib n m L Hs) e ⟨G [di 0,.v .nils]::G [di n,.arr 2 0 m]::G L::Hs,[]⟩:=fun e=>ZF (σ:=ib n m L Hs) (p:=1) (q:=2) (i:=1) (n:=m) (sz:=2) (cs:=[di n,.gro 2 m 2]) rfl rfl e
 refine L5 (e1 _) ?_
 clear e1
 refine AcG mixed 27 [1] (.f<|.h (.m (.dagg [di n,.arr 2 0 m]))<|.h .ww<|.r) ?_
 refine ey (by kernel_rfl:(Y ((m:Int)<(I (cc v.az):Int))=O/\2<=2/\Q [di n,bo 2 0 m]/\2<=2/\(D.okN (I (bi (G [di n,bo 2 0 m]::G [di n,bo 2 0 m]::G L::Hs) []).H) [] (bj [di n,bo 2 0 m])=J/\cm (I (bi (G [di n,bo 2 0 m]::G [di n,bo 2 0 m]::G L::Hs) []).H) [] (G [di n,bo 2 0 m]::G [di n,bo 2 0 m]::G L::Hs)=J)/\Q (G [di n,bo 2 0 m]::G [di n,bo 2 0 m]::G L::Hs)/\Q (bj [di n,bo 2 0 m]))=_) ?_
 have hle:(bi (G [di n,.arr 2 0 m]::G [di n,.arr 2 0 m]::G L::Hs) []).H.length=I Hs+3:=by simp
 rw[hle]
 exact⟨HE (by rw[H9];omega),HH _,rfl,HH _,⟨by simp[D.okN,D.okNs],by simp[cm,D.okN,D.okNs,hL,hH]⟩,rfl,rfl⟩
def su(x:bc):Prop:=x.n=0/\x.az.length=2
theorem O1{n:Nat}(l:List bc):cm n [] (c6 l)=J:=by
 induction l with
 |nil=>rfl
 |cons x l ih=>show cm n [] (G (fx x)::c6 l)=J;simp only[cm,ih,AS (Ci x),Bool.and_self]
theorem S8(ρ τ:Nat->Nat)(l:List bc):D7 ρ τ (c6 l)=c6 l:=by
 induction l with
 |nil=>rfl
 |cons x l ih=>
  show G (D.rens ρ τ (fx x))::D7 ρ τ (c6 l)=_
  rw[ih,AC (Ci x)];rfl
theorem G6(l:List bc):I (c6 l)=I l:=by simp[c6]
theorem ZK(v:bc)(hv:v.size<=900)(hk:∀x∈v.az,su x)(n:Nat):∀k:Nat,I v.az-k=n->1<=k->k<=I v.az->
  Rn PP AZ 0 (.dagg [di v.n,.arr 2 0 (I v.az)]) ⟨G [di v.n,.arr 2 0 (I v.az)]::G [di v.n,.arr 2 0 (I v.az)]::G (d9 3 (I v.az))::c6 v.az,[]⟩ ([kl A6 [1,1,0,1,0,0],.blk 0,kc A6 [1,1,1]]++[]) (ba 27 [(1,.v (.ref (Ac v))),(2,.ptr 0 0),(3,.ptr 1 0),(4,di (k:Nat))]) (ib v.n k (d9 3 k) (c6 (v.az.take k))):=by
 have hs:=v.size_eq
 have hl:=bc.length_le v.az
 induction n with
 |zero=>
  intro k hn hk1 hk2
  have e:k=I v.az:=by omega
  subst e
  rw[take_length]
  exact Tt rfl (Hx _ _ (by rw[G6];omega)) (O1 _)
 |succ n ih=>
  intro k hn hk1 hk2
  obtain⟨x,hx⟩:∃x,v.az[k]?=G x:=⟨_,HA (show k<I v.az by omega)⟩
  have hih:=ih (k+1) (by omega) (by omega) (by omega)
  have ht:v.az.take (k+1)=v.az.take k++[x]:=by rw[IM,hx];rfl
  have hlen:I (v.az.take k)=k:=by rw[Ig];omega
  obtain⟨h0,h2⟩:=hk x (HG hx)
  rw[ht] at hih
  have hst:= @ZJ v.n (v.az.take k) (by omega) (by omega) v x (by rw[hlen];exact hx) h0 h2 (by have:=bc.size_mem (HG hx);omega) (.dagg [di v.n,.arr 2 0 (I v.az)]) ⟨G [di v.n,.arr 2 0 (I v.az)]::G [di v.n,.arr 2 0 (I v.az)]::G (d9 3 (I v.az))::c6 v.az,[]⟩
  rw[hlen] at hst
  exact hst hih
theorem Acv{P:x7}{o:yy}{σ:St}{x y:x8}{t:x6}(ho:o.op=.call { callee:=.builtin .append,args:= #[x,y],argTypes:= #[t,t]}){e:x6}{sz by':Nat}{z:yz}(hs:Cd P t=G (e,sz,by',G z))(hzc:z.cells.size=sz)
  {q2 n:Nat} {cs2:List D} (hq2:σ.H[q2]?=G (G cs2)) (hl2:I cs2=n*sz) (hpos:0<n) (hlen:n*by'<=140737488355328) (hlen2:n<=140737488355328):
  Aj P o [.v .nils,.gro q2 n sz] σ (.gro (I σ.H) n sz) ⟨σ.H++[G cs2],σ.own⟩:=by
 intro E g a w K Q hw hds hK
 refine Ry ho hs hzc hq2 hl2 hpos hlen hlen2 E g a w K Q hw ?_ hK
 simp only[Ad] at hds⊢
 obtain⟨u,us,e1,h1,h2⟩:=hds
 refine⟨u,us,e1,?_,h2⟩
 simp only[Ag,Cp] at h1⊢
 exact h1
noncomputable abbrev l9:=[di 0,bo 2 0 2]
theorem AkY(v:bc)(hv:v.size<=900)(hk:∀x∈v.az,su x)(hn:v.az≠ []):Aa PP 101 [dV v] bd (.dagg [di v.n,.arr 0 0 (I v.az)]) ⟨G (d9 1 (I v.az))::c6 v.az,[]⟩:=by
 have hs:=v.size_eq
 have hpos:=length_pos_iff.2 hn
 obtain⟨x,hx⟩:∃x,v.az[0]?=G x:=⟨_,HA hpos⟩
 obtain⟨x0,x2⟩:=hk x (HG hx)
 have hxs:=bc.size_mem (HG hx)
 have hsp:=ZI x (by intro h;rw[h] at x2;simp at x2) (by omega)
 have hlp:=ZK v hv hk _ 1 rfl (HH _) hpos
 have ht:v.az.take 1=[x]:=by rw[show(1:Nat)=0+1 from rfl,IM,hx];rfl
 rw[ht] at hlp
 have h0:(v.az.map eV)[Z 0]?=G (Ac x):=An (i:=0) hx
 have hlt:(0:Int)<(I (v.az.map eV):Int):=by rw[H9];omega
 have hle:I (G [di v.n,.arr 2 0 (I v.az)]::G [di v.n,.arr 2 0 (I v.az)]::G (d9 3 (I v.az))::c6 v.az)=I v.az+3:=by simp[G6]
 refine Fq (σ:=bd) (T:=G [di v.n,.arr 2 0 (I v.az)]::G [di v.n,.arr 2 0 (I v.az)]::G (d9 3 (I v.az))::c6 v.az) (fun i=>i+2) (Ik _) (fun i hi=>by simp at hi) (fun i j _ _ h=>by simpa using h) (fun i hi=>?_) (fun i cs hi=>?_) (by simp[D.okN,D.okNs]) ?_
 ·rw[hle];simp[G6] at hi;show i+2<_;omega
 ·match i,hi with
  |0,hi=>
   simp at hi;subst hi
   exact⟨by rw[Gj 1 3 _ (fun i _=>by show 1+i+2=_;omega)];rfl,Hx _ _ (by simp[G6];omega)⟩
  |i+1,hi=>
   have hi:(c6 v.az)[i]?=G (G cs):=hi
   obtain⟨y,hy,rfl⟩:=JO hi
   exact⟨by rw[AC (Ci y)];exact hi,AS (Ci y)⟩
 ·show Aa PP _ _ _ (.dagg [di v.n,.arr 2 0 (I v.az)]) _
  generalize (⟨G [di v.n,.arr 2 0 (I v.az)]::G [di v.n,.arr 2 0 (I v.az)]::G (d9 3 (I v.az))::c6 v.az,[]⟩:St)=out at hlp⊢
  generalize bj [di v.n,.arr 2 0 (I v.az)]=od at hlp⊢
  have hF:=Ci x
  have hlp2:Rn PP AZ 0 od out ([kl A6 [1,1,0,1,0,0],.blk 0,kc A6 [1,1,1]]++[]) (ba 27 [(1,.v (.ref (Ac v))),(2,.ptr 0 0),(3,.ptr 1 0),(4,di (1:Nat))]) ⟨[G [di 0,.v .nils],G [di v.n,.gro 4 1 2],G (fx x),G [di 0,.arr 2 0 2],G [di 0,.arr 2 0 2]],[]⟩:=by
   refine Ce (H':=(ib v.n 1 (d9 3 1) (c6 [x])).H) (e':=ba 27 [(1,.v (.ref (Ac v))),(2,.ptr 0 0),(3,.ptr 1 0),(4,di (1:Nat))]) (m:=0) (fun _ _ h=>h.2) (fun i=>if i=2 then 4 else if i=3 then 2 else i) (Ik _) (fun i hi=>by omega) (fun i j hi hj h=>?_) (fun i cs hi=>?_) (by simp[ba,D.okNs,D.okN,c6]) (by simp[ba,D.rens,D.ren]) hlp
   ·have h:(if i=2 then 4 else if i=3 then 2 else i)=(if j=2 then 4 else if j=3 then 2 else j):=h
    have hi:i<4:=hi
    have hj:j<4:=hj
    split at h<;>split at h<;>(try split at h)<;>(try split at h)<;>omega
   ·have h4:(ib v.n 1 (d9 3 1) (c6 [x])).H.length=4:=rfl
    rw[h4]
    match i,hi with
    |0,hi=>simp at hi;subst hi;exact⟨rfl,by simp[D.okNs,D.okN]⟩
    |1,hi=>simp at hi;subst hi;exact⟨rfl,by simp[D.okNs,D.okN]⟩
    |2,hi=>simp at hi;subst hi;exact⟨rfl,rfl⟩
    |3,hi=>
     have hi:G (G (fx x))=G (G cs):=hi
     simp only[Ii] at hi
     subst hi
     exact⟨by rw[AC hF];rfl,AS hF⟩
    |i+4,hi=>simp[c6] at hi
  clear hlp
  generalize fx x=F at hsp hF hlp2
  refine Od mixed AZ A6 (by kernel_rfl) (by kernel_rfl) (by kernel_rfl) (by kernel_rfl) 27 (by kernel_rfl) [1] (.h .rn<|.n<|.t<|.h (.xs (Ac x))<|.h (.oc (.dagg [di x.n,.arr 2 0 (I x.az)]) ⟨[G [di 0,.v .nils],G [di v.n,.v .nils],G F],[]⟩)<|.h (.o (.gro 3 1 2) ⟨[G [di 0,.v .nils],G [di v.n,.v .nils],G F,G [di 0,.arr 2 0 2]],[]⟩)<|.h (.o (.gro 4 1 2) ⟨[G [di 0,.v .nils],G [di v.n,.v .nils],G F,G [di 0,.arr 2 0 2],G [di 0,.arr 2 0 2]],[]⟩)<|.l [ke 1,ke 2,ke 3,ch 4 (di (1:Nat))]) ?_
  refine ey (by kernel_rfl:(Y (0<(I (cc v.az):Int))=J/\Q 2/\iz 0<=0/\(cc v.az)[Z 0]?=G (Ac x)/\(N0 (wj x) (bi [G [di 0,dn],G [di v.n,dn]] []) (bj [di x.n,bo 2 0 (I x.az)]) (bi [G [di 0,dn],G [di v.n,dn],G F] []))/\Aj PP oq [bj [di x.n,bo 2 0 (I x.az)]] (bi [G [di 0,dn],G [di v.n,dn],G F] []) (bm 3 1 2) (bi [G [di 0,dn],G [di v.n,dn],G F,G l9] [])/\Aj PP tg [dn,bm 3 1 2] (bi [G [di 0,dn],G [di v.n,dn],G F,G l9] []) (bm 4 1 2) (bi [G [di 0,dn],G [di v.n,dn],G F,G l9,G l9] [])/\((Q (G [dn])/\Q (G [dn])/\True)/\True)/\di (yu yt (0+1))=di (↑1:Int)/\I0 AZ (I bd.H) od out ly (wx v) (bi [G [di 0,dn],G [di v.n,bm 4 1 2],G F,G l9,G l9] []))=_) ?_
  refine⟨HC hlt,rfl,Ib _,h0,fun o c fo ho hc=>?_,?_,Acv rfl jh rfl (q2:=3) (cs2:=[di 0,.arr 2 0 2]) rfl rfl (by decide) (by decide) (by decide),⟨⟨rfl,rfl,trivial⟩,trivial⟩,HX di (by decide),⟨hlp2⟩⟩
  ·exact Qv (H:=[G [di 0,.v .nils],G [di v.n,.v .nils]]) rfl hF hsp ho hc
  ·rw[x0,x2]
   exact F7 rfl jh rfl rfl rfl (by decide) (by decide)
abbrev FA(x:bc)(b m:Nat):List D:=fm x++[di 0,.arr b 0 m]
theorem AkZ(x b:bc)(hx:x.az=[])(hb0:b.n=0)(hb:b.size<=900)(hk:∀y∈b.az,su y)(hn:b.az≠ [])(v:bc)(hv:v.n=0)(hvk:v.az=[x,b]):Aa PP 101 [dV v] bd (.dagg [di 0,.arr 0 0 2]) ⟨G (FA x 1 (I b.az))::G (d9 2 (I b.az))::c6 b.az,[]⟩:=by
 have hsp:=AkY b hb hk hn
 have hcx:=DD _ x (HH _) (by have:=x.size_eq;rw[hx] at this;simp[bc.sizes] at this;omega)
 have hlen:I v.az=2:=by rw[hvk];rfl
 have hxv:v.az[0]?=G x:=by rw[hvk];rfl
 have hbv:v.az[1]?=G b:=by rw[hvk];rfl
 obtain⟨m,hm⟩:∃m,I b.az=m:=⟨_,rfl⟩
 have hO:=G6 b.az
 rw[hm] at hsp hO⊢
 refine Fq (σ:=bd) (T:=G [di 0,.arr 2 0 2]::G [di 0,.arr 2 0 2]::G (FA x 3 m)::G (d9 4 m)::c6 b.az) (fun i=>i+2) (Ik _) (fun i hi=>by simp at hi) (fun i j _ _ h=>by simpa using h) (fun i hi=>?_) (fun i cs hi=>?_) (by simp[D.okN,D.okNs]) ?_
 ·simp[hO] at hi⊢;omega
 ·match i,hi with
  |0,hi=>
   simp at hi;subst hi
   exact⟨by simp[D.rens,D.ren],by simp[D.okNs,D.okN]⟩
  |1,hi=>
   simp at hi;subst hi
   exact⟨by rw[Gj 2 4 _ (fun i _=>by show 2+i+2=_;omega)];rfl,Hx _ _ (by simp[hO];omega)⟩
  |i+2,hi=>
   have hi:(c6 b.az)[i]?=G (G cs):=hi
   obtain⟨y,hy,rfl⟩:=JO hi
   exact⟨by rw[AC (Ci y)];exact hi,AS (Ci y)⟩
 ·show Aa PP _ _ _ (.dagg [di 0,.arr 2 0 2]) _
  have hend:= @Tt 0 2 (FA x 3 m) (G (d9 4 m)::c6 b.az) v hlen (by simp[D.okNs,D.okN]) (by simp only[cm,O1,Hx (n:=I (G (d9 4 m)::c6 b.az)+3) (ts:=[]) 4 m (by simp[hO];omega),Bool.and_self])
  generalize (⟨G [di 0,.arr 2 0 2]::G [di 0,.arr 2 0 2]::G (FA x 3 m)::G (d9 4 m)::c6 b.az,[]⟩:St)=out at hend⊢
  generalize bj [di 0,.arr 2 0 2]=od at hend⊢
  have hen2:Rn PP AZ 0 od out ([kl A6 [1,1,0,1,0,0],.blk 0,kc A6 [1,1,1]]++[]) (ba 27 [(1,.v (.ref (Ac v))),(2,.ptr 0 0),(3,.ptr 1 0),(4,di (2:Nat))]) ⟨G [di 0,.v .nils]::G [di 0,.gro (m+5) 2 2]::none::((G (d9 4 m)::c6 b.az++[G [di 0,.arr 3 0 m]])++[G (FA x 3 m)]),[]⟩:=by
   have hH:(ib 0 2 (FA x 3 m) (G (d9 4 m)::c6 b.az)).H.length=m+4:=by simp[hO]
   refine Ce (H':=(ib 0 2 (FA x 3 m) (G (d9 4 m)::c6 b.az)).H) (e':=ba 27 [(1,.v (.ref (Ac v))),(2,.ptr 0 0),(3,.ptr 1 0),(4,di (2:Nat))]) (m:=0) (fun _ _ h=>h.2) (fun i=>if i=2 then m+5 else i) (Ik _) (fun i hi=>by omega) (fun i j hi hj h=>?_) (fun i cs hi=>?_) (by rw[hH];simp[ba,D.okNs,D.okN]) (by simp[ba,D.rens,D.ren]) hend
   ·have h:(if i=2 then m+5 else i)=(if j=2 then m+5 else j):=h
    rw[hH] at hi hj
    split at h<;>split at h<;>omega
   ·rw[hH]
    match i,hi with
    |0,hi=>simp at hi;subst hi;exact⟨rfl,by simp[D.okNs,D.okN]⟩
    |1,hi=>simp at hi;subst hi;exact⟨by simp[D.rens,D.ren],by simp[D.okNs,D.okN]⟩
    |2,hi=>
     simp at hi;subst hi
     refine⟨?_,by simp[D.okNs,D.okN]⟩
     show((G (d9 4 m)::c6 b.az++[G [di 0,.arr 3 0 m]])++[G (FA x 3 m)])[m+2]?=_
     rw[HT (by simp[hO])]
     simp[hO,D.rens,D.ren]
    |3,hi=>
     have hi:G (G (d9 4 m))=G (G cs):=hi
     simp only[Ii] at hi
     subst hi
     exact⟨by rw[Gj 4 4 _ (fun i hi=>by rw[HR (by omega)])];rfl,Hx _ _ (by omega)⟩
    |i+4,hi=>
     have hi:(c6 b.az)[i]?=G (G cs):=hi
     have hlt:i<m:=by have:=(HD.1 hi).1;omega
     obtain⟨y,hy,rfl⟩:=JO hi
     refine⟨?_,AS (Ci y)⟩
     rw[AC (Ci y),HR (by omega)]
     show((c6 b.az++[G [di 0,.arr 3 0 m]])++[G (FA x 3 m)])[i]?=_
     rw[HW (by simp[hO];omega),HW (by omega)]
     exact hi
  clear hend
  have hcall:∀(o:yy) (c:Call) (fo:x8),o.op=.call c->c.callee=.value fo->Aj PP o [.v (.fn 101 [] []),dV b] (fd 0 1 (fm x) []) (.dagg [di 0,.arr 3 0 m]) ⟨G [di 0,.v .nils]::G [di 0,.gro 2 1 2]::G (fm x)::(G (d9 4 m)::c6 b.az),[]⟩:=fun o c fo ho hc=>by
   have h:=BX (σ:=fd 0 1 (fm x) []) ho hc (fD:=.v (.fn 101 [] [])) rfl (ds:=[dV b]) [] id hsp (.cons (.ren (dc:=dV b) rfl) .nil) .nil (by simp) rfl (by simp) (by simp) (by simp[D.okN,D.okNs]) (by show cm _ [] (G (d9 1 m)::c6 b.az)=J;simp only[cm,O1,Hx (n:=I (G (d9 1 m)::c6 b.az)) (ts:=[]) 1 m (by simp[hO];omega),Bool.and_self])
   have e1:D7 (df 3 []) id (G (d9 1 m)::c6 b.az)=G (d9 4 m)::c6 b.az:=by
    show G (D.rens (df 3 []) id (d9 1 m))::D7 (df 3 []) id (c6 b.az)=_
    rw[S8,Gj 1 4 _ (fun i _=>by simp[df];omega)]
   have e2:(bj [di b.n,.arr 0 0 m]).ren (df 3 []) id=.dagg [di 0,.arr 3 0 m]:=by rw[hb0];rfl
   have h:Aj PP o [.v (.fn 101 [] []),dV b] (fd 0 1 (fm x) []) ((bj [di b.n,.arr 0 0 m]).ren (df 3 []) id) ⟨G [di 0,.v .nils]::G [di 0,.gro 2 1 2]::G (fm x)::D7 (df 3 []) id (G (d9 1 m)::c6 b.az),[]⟩:=h
   rw[e1,e2] at h
   exact h
  have hsec:Rn PP AZ 0 od out ([kl A6 [1,1,0,1,0,0],.blk 0,kc A6 [1,1,1]]++[]) (ba 27 [(1,.v (.ref (Ac v))),(2,.ptr 0 0),(3,.ptr 1 0),(4,di (1:Nat))]) (fd 0 1 (fm x) []):=by
   have hHl:I (G (d9 4 m)::c6 b.az)=m+1:=by simp[hO]
   generalize G (d9 4 m)::c6 b.az=Hs at hen2 hcall hHl
   have hLs:fm x++[di 0,.arr 3 0 m]=FA x 3 m:=rfl
   generalize hCF:FA x 3 m=CF at hen2
   refine lv 27 [1] (.t<|.h (.xs (Ac b))<|.h (.oc (.dagg [di 0,.arr 3 0 m]) ⟨G [di 0,.v .nils]::G [di 0,.gro 2 1 2]::G (fm x)::Hs,[]⟩)<|.h (.o (.gro (m+4) 1 2) ⟨G [di 0,.v .nils]::G [di 0,.gro 2 1 2]::G (fm x)::(Hs++[G [di 0,.arr 3 0 m]]),[]⟩)<|.h (.o (.gro (m+5) 2 2) ⟨G [di 0,.v .nils]::G [di 0,.gro 2 1 2]::none::((Hs++[G [di 0,.arr 3 0 m]])++[G CF]),[]⟩)<|.l [ke 1,ke 2,ke 3,ch 4 (di (2:Nat))]) (Y ((↑1:Int)<(I (cc v.az):Int))=J/\Q 2/\0<=(↑1:Int)/\(cc v.az)[Z (↑1:Int)]?=G (Ac b)/\_/\Aj PP oq [bj [di 0,bo 3 0 m]] (bi (G [di 0,dn]::G [di 0,bm 2 1 2]::G (fm x)::Hs) []) (bm (m+4) 1 2) (bi (G [di 0,dn]::G [di 0,bm 2 1 2]::G (fm x)::(Hs++[G [di 0,bo 3 0 m]])) [])/\Aj PP tg [bm 2 1 2,bm (m+4) 1 2] (bi (G [di 0,dn]::G [di 0,bm 2 1 2]::G (fm x)::(Hs++[G [di 0,bo 3 0 m]])) []) (bm (m+5) 2 2) (bi (G [di 0,dn]::G [di 0,bm 2 1 2]::none::(Hs++[G [di 0,bo 3 0 m]]++[G CF])) [])/\((Q (G [bm 2 1 2])/\Q (G [bm 2 1 2])/\True)/\True)/\di (yu yt ((↑1:Int)+1))=di (↑2:Int)/\_) ⟨HC (by rw[H9];omega),rfl,by omega,An hbv,hcall,?_,?_,⟨⟨rfl,rfl,trivial⟩,trivial⟩,HX di (by decide),iK hen2⟩
   ·refine AeF ?_ rfl jh rfl rfl rfl (by decide) (by decide)
    simp[hHl]
   ·have hN:m+5=I (G [di 0,.v .nils]::G [di 0,.gro 2 1 2]::G (fm x)::(Hs++[G [di 0,.arr 3 0 m]])):=by simp[hHl]
    rw[hN, ←hCF]
    refine JT rfl jh rfl (by decide) (q:=2) (q2:=m+4) (cs:=fm x) (cs2:=[di 0,.arr 3 0 m]) rfl rfl ?_ rfl (by decide) (by decide) (by decide)
    show(Hs++[G [di 0,.arr 3 0 m]])[m+1]?=_
    rw[HT (by omega)]
    simp[hHl]
  have h0:(v.az.map eV)[Z 0]?=G (Ac x):=An (i:=0) hxv
  refine sv AZ 27 [1] (.h .rn<|.n<|.t<|.h (.xs (Ac x))<|.c (dV x)<|.h (.p (.v (.list [Ac x])))<|.h .g<|.lo [ke 1,ke 2,ke 3,ch 4 (di (1:Nat))] (fd v.n 1 (fm x) [])) (Y (0<(I (cc v.az):Int))=J/\Q 2/\iz 0<=0/\_/\_/\(∀(τ:St),Aj PP oq [dV x] τ (bt (ai [Ac x])) τ)/\[Ac x]≠ []/\(∀(y:V),y∈ [Ac x]->V.size y=2)/\Ao 1 32/\yp/\di (yu yt (0+1))=di (↑1:Int)/\cm 3 [] [G [di 0,dn],G [di v.n,bm 2 1 2],G (c7 x.n x.az)]=J/\Q [G [di 0,dn],G [di v.n,bm 2 1 2],G (fm x)]/\I0 AZ (I bd.H) od out ly (wx v) (fd v.n 1 (fm x) [])) ⟨HC (by rw[H9];omega),rfl,Ib _,h0,hcx,fun τ=>m6 x τ rfl,by simp,fun y hy=>by rw[HQ.1 hy];rfl,⟨by decide,by decide⟩,yn,HX di (by decide),rfl,rfl,⟨?_⟩⟩
  rw[hv]
  exact hsec
noncomputable abbrev EV:=Tryz.f91
noncomputable def Eo:=yl EV
def gI(m i j:Nat):Nat:=if j<i then 5+(m-i)+j else 5+(j-i)
def fv(g:Nat->Nat)(k:Nat):List D:=(List.range k).flatMap fun j=>[di 0,.arr (g j) 0 2]
theorem Gk(g:Nat->Nat)(k:Nat):fv g (k+1)=fv g k++[di 0,.arr (g k) 0 2]:=by simp[fv,range_succ]
theorem G7(g:Nat->Nat)(k:Nat):(fv g k).length=2*k:=by
 induction k with
 |zero=>rfl
 |succ k ih=>rw[Gk,HO,ih];show 2*k+2=_;omega
theorem Xm(g:Nat->Nat)(k j:Nat)(h:j<k):(fv g k)[2*j+1]?=some (.arr (g j) 0 2):=by
 induction k with
 |zero=>omega
 |succ k ih=>
  rw[Gk]
  by_cases e:j<k
  ·rw[HW (by rw[G7];omega)];exact ih e
  ·have e:j=k:=by omega
   subst e
   rw[HT (by rw[G7];omega),G7,show 2*j+1-2*j=1 by omega];rfl
theorem Ael{g:Nat->Nat}{n:Nat}{ts:List Nat}(k:Nat)(h:∀j,j<k->g j<n):D.okNs n ts (fv g k)=true:=by
 induction k with
 |zero=>rfl
 |succ k ih=>
  rw[Gk,J7,ih (fun j hj=>h j (by omega))]
  simp[D.okNs,D.okN,h k (by omega)]
theorem So{ρ g g':Nat->Nat}(k:Nat)(h:∀j,j<k->ρ (g j)=g' j):D.rens ρ id (fv g k)=fv g' k:=by
 induction k with
 |zero=>rfl
 |succ k ih=>
  rw[Gk,Gk,J5,ih (fun i hi=>h i (by omega))]
  simp[D.rens,D.ren,h k (by omega)]
abbrev jw(ty:D)(s:Int)(n:Nat)(K:List D)(Q:List (Option (List D))):St:=⟨some [di 0,.v .nils]::some (Ax ty)::some [di 0,.arr 3 0 2]::some [di s,cx [],di 0,.arr 4 0 n]::some K::Q,[]⟩
theorem Aip{n i j:Nat}(hi:i<=n)(hj:j<n):gI n i j<n+5:=by unfold gI;split<;>omega
theorem Aio{n i j:Nat}(hi:i<n)(hj:j<n):(if gI n (i+1) j<5 then gI n (i+1) j else if gI n (i+1) j=n+4 then 5 else gI n (i+1) j+1)=gI n i j:=by
 have e1:gI n (i+1) j=if j<i+1 then 5+(n- (i+1))+j else 5+(j- (i+1)):=rfl
 have e2:gI n i j=if j<i then 5+(n-i)+j else 5+(j-i):=rfl
 generalize gI n (i+1) j=a at e1⊢
 generalize gI n i j=b at e2⊢
 split at e1<;>split at e2<;>split<;>(try split)<;>omega
theorem Ahp{R:List D->St->Prop}{ks:List KI}{e:List D}(ty:D)(hty:D.pls (Ax ty)=true)(s:Int)(n i:Nat)(hi:i<n)(Q:List (Option (List D)))(hQl:Q.length+1=n)(hQ:∀(k:Nat) (cs:List D),Q[k]?=some (some cs)->D.pls cs=true)(F:List D)(hF:D.pls F=true)
  (he:D.okNs (n+5) [] e=true) (hee:e=D.rens (fun k=>if k<5 then k else if k=n+4 then 5 else k+1) id e) (h:AB (CN 0) PP R ks e (jw ty s n (fv (gI n (i+1)) n) (Q++[some F]))):AB (CN 0) PP R ks e (jw ty s n (fv (gI n i) n) (some F::Q)):=by
 have hH:(jw ty s n (fv (gI n (i+1)) n) (Q++[some F])).H.length=n+5:=by simp;omega
 refine Ce (H':=(jw ty s n (fv (gI n (i+1)) n) (Q++[some F])).H) (e':=e) (m:=0) (fun _ _ h=>h.2) (fun k=>if k<5 then k else if k=n+4 then 5 else k+1) (Ik _) (fun i hi=>by omega) (fun a b ha hb h=>?_) (fun k cs hk=>?_) (by rw[hH];exact he) hee h
 ·have h:(if a<5 then a else if a=n+4 then 5 else a+1)=(if b<5 then b else if b=n+4 then 5 else b+1):=h
  rw[hH] at ha hb
  split at h<;>split at h<;>(try split at h)<;>(try split at h)<;>omega
 ·rw[hH]
  match k,hk with
  |0,hk=>simp at hk;subst hk;exact⟨rfl,by simp[D.okNs,D.okN]⟩
  |1,hk=>
   have hk:some (some (Ax ty))=some (some cs):=hk
   simp only[Ii] at hk
   subst hk
   exact⟨by rw[AC hty];rfl,AS hty⟩
  |2,hk=>simp at hk;subst hk;exact⟨rfl,by simp[D.okNs,D.okN]⟩
  |3,hk=>simp at hk;subst hk;exact⟨rfl,by simp[D.okNs,D.okN]⟩
  |4,hk=>
   have hk:some (some (fv (gI n (i+1)) n))=some (some cs):=hk
   simp only[Ii] at hk
   subst hk
   refine⟨?_,Ael n fun j hj=>Aip (by omega) hj⟩
   rw[So (g':=gI n i) n fun j hj=>?_]
   ·rfl
   ·exact Aio hi hj
  |k+5,hk=>
   have hk:(Q++[some F])[k]?=some (some cs):=hk
   have hlt:=(HD.1 hk).1
   simp at hlt
   by_cases h1:k<Q.length
   ·rw[HW h1] at hk
    have hp:=hQ k cs hk
    refine⟨?_,AS hp⟩
    rw[AC hp,HR (by omega),HR (by omega)]
    exact hk
   ·have e:k=Q.length:=by omega
    subst e
    rw[HT (HH _),Nat.sub_self] at hk
    have hk:some (some F)=some (some cs):=hk
    simp only[Ii] at hk
    subst hk
    refine⟨?_,AS hF⟩
    rw[AC hF,HR (by omega),HV (by omega)]
    rfl
abbrev r9(p:Int×Int):List D:=[di p.1,cx [],di p.2,cx []]
theorem Afe(m:b9)(ha:0<=m.age/\m.age<=1000)(ty:D)(hty:D.pls (Ax ty)=true)(s:Int)(n i:Nat)(hi:i<n)(hn:n<=1000)(p:Int×Int)(hp:0<=p.2/\p.2<m.age+2)(Q:List (Option (List D)))(hQl:Q.length+1=n)(hQ:∀(k:Nat) (cs:List D),Q[k]?=some (some cs)->D.pls cs=true){d:D}{σ':St}
  (next:Rn PP EV 0 d σ' ([kl Eo [1,1,1,1,1,0,1,0,0],.blk 0,kc Eo [1,1,1,1,1,1]]++[]) (ba 76 [(2,.v (.ref (A1 m))),(4,.ptr 0 0),(7,.ptr 1 0),(9,.ptr 2 0),(10,di (i+1:Nat))]) (jw ty s n (fv (gI n (i+1)) n) (Q++[some (r9 (p.1,D9 m p.2))]))):
  Rn PP EV 0 d σ' ([kl Eo [1,1,1,1,1,0,1,0,0],.blk 0,kc Eo [1,1,1,1,1,1]]++[]) (ba 76 [(2,.v (.ref (A1 m))),(4,.ptr 0 0),(7,.ptr 1 0),(9,.ptr 2 0),(10,di (i:Nat))]) (jw ty s n (fv (gI n i) n) (some (r9 p)::Q)):=by
 have hr:=Ahp (R:=fun env σ1=>Az PP EV env σ1 d σ') (ks:=[kl Eo [1,1,1,1,1,0,1,0,0],.blk 0,kc Eo [1,1,1,1,1,1]]++[]) (e:=ba 76 [(2,.v (.ref (A1 m))),(4,.ptr 0 0),(7,.ptr 1 0),(9,.ptr 2 0),(10,di (i+1:Nat))]) ty hty s n i hi Q hQl hQ (r9 (p.1,D9 m p.2)) rfl (by simp[ba,D.okNs,D.okN]) (by simp[ba,D.rens,D.ren]) next
 have hK:(fv (gI n i) n)[2*i+1]?=some (.arr 5 0 2):=by
  rw[Xm _ _ _ hi,gI,HR (Nat.lt_irrefl _),Nat.sub_self]
 have ho:(if yu .i64 (m.age+1)<yu .i64 (p.2+1) then yu .i64 (m.age+1) else yu .i64 (p.2+1))=D9 m p.2:=rfl
 generalize fv (gI n i) n=K at hr hK⊢
 clear next
 have hK2:K[((0+Int.toNat (i:Int)*2)+1)]?=some (.arr 5 0 2):=by rw[show 0+Int.toNat (i:Int)*2+1=2*i+1 by omega];exact hK
 refine lv 76 [2,3] (.t<|.m (.arr 3 0 2)<|.m (.arr 4 0 n)<|.m (.arr 5 0 2)<|.m (.arr 3 0 2)<|.m (.arr 4 0 n)<|.m (.arr 5 0 2)<|.m (di p.2)<|.l [ke 2,ke 4,ke 7,ke 9,ch 10 (di (i+1:Nat))]) (iz 0<=1/\1<(↑2:Int)/\decide ((i:Int)<(n:Int))=true/\(some (bo 3 0 2))=(some (bo 3 0 2))/\iz 0<=1/\1<(↑2:Int)/\(some (bo 4 0 n))=(some (bo 4 0 n))/\0<=(i:Int)/\(i:Int)<(n:Int)/\_/\(some (bo 3 0 2))=(some (bo 3 0 2))/\iz 0<=1/\1<(↑2:Int)/\(some (bo 4 0 n))=(some (bo 4 0 n))/\0<=(i:Int)/\(i:Int)<(n:Int)/\_/\iz 0<=1/\1<(↑2:Int)/\(some (di p.snd))=(some (di p.snd))/\iz 0<=1/\1<(↑2:Int)/\(yh (True))/\di (yu yt ((i:Int)+1))=di (↑(i+1):Int)/\I0 EV 0 d σ' [kl Eo [1,1,1,1,1,0,1,0,0],bh 0,kc Eo [1,1,1,1,1,1]] (ba 76 [(2,bt (ic m)),(4,bq 0 0),(7,bq 1 0),(9,bq 2 0),(10,di (↑(i+1):Int))]) (bi (some [di 0,dn]::some (Ax ty)::some [di 0,bo 3 0 2]::some [di s,cx [],di 0,bo 4 0 n]::some K::some [di p.fst,cx [],di (if yu yt (m.age+1)<yu yt (p.snd+1) then yu yt (m.age+1) else yu yt (p.snd+1)),cx []]::Q) [])) ⟨by decide,by decide,yr,rfl,by decide,by decide,rfl,by omega,by omega,hK2,rfl,by decide,by decide,rfl,by omega,by omega,hK2,by decide,by decide,rfl,by decide,by decide,⟨trivial,trivial,trivial,trivial,trivial,trivial,trivial,trivial⟩,Ae,⟨?_⟩⟩
 rw[ho]
 exact hr
theorem Abt(g:Nat->Nat)(k j:Nat)(h:j<k):(fv g k)[2*j]?=G (di 0):=by
 induction k with
 |zero=>omega
 |succ k ih=>
  rw[Gk]
  by_cases e:j<k
  ·rw[HW (by rw[G7];omega)];exact ih e
  ·have e:j=k:=by omega
   subst e
   rw[HT (by rw[G7];omega),G7,Nat.sub_self];rfl
theorem Adt{α:Type}{l:List α}{i:Nat}{a b:α}(h1:l[i]?=G a)(h2:l[i+1]?=G b):l.drop i=a::b::l.drop (i+2):=by
 obtain⟨k1,e1⟩:=HD.1 h1
 obtain⟨k2,e2⟩:=HD.1 h2
 rw[HP k1,HP k2,e1,e2]
theorem Abu(g:Nat->Nat)(k j:Nat)(h:j<k):(fv g k).drop (2*j)=di 0:: .arr (g j) 0 2::(fv g k).drop (2*(j+1)):=Adt (Abt g k j h) (Xm g k j h)
theorem X7{α:Type}(A B:List α)(x y:α):(A++x::B).set (I A) y=A++y::B:=by simp
theorem vm{e:List D}{σ σ1 σ2:St}(h:Cv e σ e σ1)(h2:Cv e σ1 e σ2):Cv e σ e σ2:=fun E g a w hf=>by
 obtain⟨g1,h1⟩:=h E g a w hf
 exact h2 E g1 a w h1
def Wu(g:Nat->Nat)(T:List bc)(k:Nat):List D:=Ab ((T.take k).map eV)++(fv g (I T)).drop (2*k)
theorem Ada(g:Nat->Nat)(T:List bc)(hT:∀x∈T,x.n=0)(hk2:∀x∈T,I x.az=2)(hg:∀j,j<I T->g j=5+j)(a b c d:Option (List D))(e:List D)(k:Nat):k<=I T->∃Z:List (Option (List D)),I Z=I T/\(∀j,k<=j->Z[j]?=(c6 T)[j]?)/\
  Cv e ⟨a::b::c::d::G (fv g (I T))::c6 T,[]⟩ e ⟨a::b::c::d::G (Wu g T k)::Z,[]⟩:=by
 induction k with
 |zero=>
  intro _
  refine⟨c6 T,G6 T,fun j _=>rfl,?_⟩
  rw[Wu,take_zero,Nat.mul_zero,Jk]
  exact fun E g a w hf=>⟨g,hf⟩
 |succ k ih=>
  intro hk
  obtain⟨Z,h1,h2,h3⟩:=ih (by omega)
  obtain⟨x,hx⟩:=yk (show k<I T by omega)
  have hz:Z[k]?=G (G (fx x)):=by rw[h2 k (HH _),c6,Ir,hx];rfl
  have hx0:=hT x (HG hx)
  have hl:I (Ab ((T.take k).map eV))=2*k:=by rw[AT,Ig];omega
  have hm:Wu g T k=(Ab ((T.take k).map eV)++[di 0])++ .arr (g k) 0 2::(fv g (I T)).drop (2*(k+1)):=by
   rw[Wu,Abu g (I T) k (by omega)];simp
  have hA:I (Ab ((T.take k).map eV)++[di 0])=2*k+1:=by rw[HO,hl];rfl
  have hm':Wu g T (k+1)=(Ab ((T.take k).map eV)++[di 0])++ .v (.list (x.az.map eV))::(fv g (I T)).drop (2*(k+1)):=by
   rw[Wu,IM,hx,Option.toList_some, ←E2,hx0];simp
  have hgk:=hg k (by omega)
  refine⟨Z.set k none,by rw[length_set];exact h1,fun j hj=>by rw[List.getElem?_set_ne (by omega)];exact h2 j (by omega),vm h3 ?_⟩
  have hc:=BP (σ:=⟨a::b::c::d::G (Wu g T k)::Z,[]⟩) (p:=4) (q:=k+5) (i:=2*k+1) (sz:=2) (cs:=Wu g T k) (xs:=x.az.map eV) (by decide) rfl hz (by omega) (by
   rw[hm,HT (by omega),hA,Nat.sub_self,hgk,H9,hk2 x (HG hx),Nat.add_comm 5 k];rfl) (fun v hv=>by
   obtain⟨y,_,rfl⟩:=Is.1 hv
   rw[AE];rfl) e
  have e1:(Wu g T k).set (2*k+1) (.v (.list (x.az.map eV)))=Wu g T (k+1):=by
   rw[hm,hm', ←hA,X7]
  rw[e1] at hc
  exact hc
theorem AfK(ty:D)(s:Int)(T:List bc)(hT:∀x∈T,x.n=0)(hk2:∀x∈T,I x.az=2)(e:List D):∃Z,Cv e (jw ty s (I T) (fv (gI (I T) (I T)) (I T)) (c6 T)) e ⟨G [di 0,.v .nils]::G (Ax ty)::G [di 0,cx [lf s,.mk 0 T]]::none::none::Z,[]⟩:=by
 obtain⟨Z,_,_,h⟩:=Ada (gI (I T) (I T)) T hT hk2 (fun j hj=>by unfold gI;rw[HV hj];omega) (G [di 0,.v .nils]) (G (Ax ty)) (G [di 0,.arr 3 0 2]) (G [di s,cx [],di 0,.arr 4 0 (I T)]) e (I T) (HH _)
 have hm:Wu (gI (I T) (I T)) T (I T)=Ab (T.map eV):=by
  rw[Wu,take_length,HU (by rw[G7];omega),Iz]
 rw[hm] at h
 have sz2:∀l:List bc,∀v∈l.map eV,v.size=2:=fun l v hv=>by
  obtain⟨y,_,rfl⟩:=Is.1 hv
  rw[AE];rfl
 refine⟨Z,vm h ?_⟩
 have h1:=BP (σ:=⟨G [di 0,.v .nils]::G (Ax ty)::G [di 0,.arr 3 0 2]::G [di s,cx [],di 0,.arr 4 0 (I T)]::G (Ab (T.map eV))::Z,[]⟩) (p:=3) (q:=4) (i:=3) (sz:=2) (cs:=[di s,cx [],di 0,.arr 4 0 (I T)]) (xs:=T.map eV) (by decide) rfl rfl (by decide) (by rw[H9];rfl) (sz2 T) e
 refine vm h1 ?_
 have e3:Ab ([lf s,.mk 0 T].map eV)=[di s,cx [],di 0,cx T]:=by rw[A8,A8];rfl
 have h2:=BP (σ:=⟨G [di 0,.v .nils]::G (Ax ty)::G [di 0,.arr 3 0 2]::G [di s,cx [],di 0,cx T]::none::Z,[]⟩) (p:=2) (q:=3) (i:=1) (sz:=2) (cs:=[di 0,.arr 3 0 2]) (xs:=[lf s,.mk 0 T].map eV) (by decide) rfl (by rw[e3];rfl) (by decide) rfl (sz2 _) e
 exact h2
noncomputable abbrev B7:=Tryz.f145
noncomputable def CT:=yl B7
abbrev FT(n:Int)(N:Nat)(C:List D):St:=⟨[G [di 0,.v .nils],G C,G [di n,.arr 1 0 N]],[]⟩
abbrev lk(n:Int)(xs:List bc):St:=FT n (I xs) (Ab (xs.map eV))
noncomputable abbrev Gq:List KI:=[kl CT [1,1,1,1,0,1,0,0],.blk 2,kc CT [1,1,1,1,1]]
noncomputable abbrev kh:List KI:=[kl CT [1,1,1,1,0,1,0,0,1,0,0,1,0,0],.blk 4,.blk 3,kc CT [1,1,1,1,0,1,0,0,1,1]]
theorem Md(A B:List bc)(a b:bc):(Ab ((A++a::B).map eV)).take (I A*2)++Ax (dV b)++(Ab ((A++a::B).map eV)).drop (I A*2+2)=Ab ((A++b::B).map eV):=by
 have h:=AT A
 rw[DL,DL,A8,A8, ←h]
 simp[Ax]
theorem Ah2(t:cy)(n:Int)(L R:List bc)(x y:bc)(hx:x.size<=1000000)(hlt:Aq x y<0)(hN:I L+I R<=1000)(d:D)(σ':St)(i:Nat)
  (next:Rn PP B7 0 d σ' (kh++Gq) (ba 117 [(2,.v (.ref (vT t))),(4,.ptr 0 0),(5,.ptr 2 0),(7,di i),(8,di (I L:Nat))]) (lk n (L++x::y::R))):
  Rn PP B7 0 d σ' (kh++Gq) (ba 117 [(2,.v (.ref (vT t))),(4,.ptr 0 0),(5,.ptr 2 0),(7,di i),(8,di (I L+1:Nat))]) (lk n (L++y::x::R)):=by
 have hc:=Dh _ x y (HH _) hx
 have s1:=Md (L++[y]) R x y
 have s2:=Md L (y::R) y x
 have d1:=Dz (l:=L++y::x::R) (i:=I L+1) (x:=x) (by simp)
 have d0:=Dz (l:=L++y::x::R) (i:=I L) (x:=y) (by simp)
 rw[show(L++[y])++x::R=L++y::x::R by simp,show(L++[y])++y::R=L++y::y::R by simp,show(L++[y]).length=I L+1 by simp] at s1
 have c1:=AT (L++y::x::R)
 have c2:=AT (L++y::y::R)
 have n1:I (L++y::x::R)=I L+I R+2:=by simp;omega
 have n2:I (L++y::y::R)=I L+I R+2:=by simp;omega
 have n3:I (L++x::y::R)=I L+I R+2:=by simp;omega
 have next:Rn PP B7 0 d σ' (kh++Gq) (ba 117 [(2,.v (.ref (vT t))),(4,.ptr 0 0),(5,.ptr 2 0),(7,di i),(8,di (I L:Nat))]) (FT n (I L+I R+2) (Ab ((L++x::y::R).map eV))):=by rw[←n3];exact next
 show Rn PP B7 0 d σ' (kh++Gq) (ba 117 [(2,.v (.ref (vT t))),(4,.ptr 0 0),(5,.ptr 2 0),(7,di i),(8,di (I L+1:Nat))]) (FT n (I (L++y::x::R)) (Ab ((L++y::x::R).map eV)))
 rw[n1]
 rw[n1] at c1
 rw[n2] at c2
 generalize Ab ((L++y::x::R).map eV)=C at*
 generalize Ab ((L++x::y::R).map eV)=C2 at*
 generalize Ab ((L++y::y::R).map eV)=C1 at*
 have hw:yu .i64 (((I L+1:Nat):Int)-1)=(I L:Int):=by rw[Al];omega
 have k1:0+Z ((I L+1:Nat):Int)*2=(I L+1)*2:=by omega
 have k0:0+Z (I L:Int)*2=I L*2:=by omega
 refine lv 117 [2,3] (.t<|.m (.arr 1 0 (I L+I R+2))<|.m (dV x)<|.m (.arr 1 0 (I L+I R+2))<|.m (dV y)<|.c (di (Aq x y))<|.t<|.m (.arr 1 0 (I L+I R+2))<|.m (.arr 1 0 (I L+I R+2))<|.m (.arr 1 0 (I L+I R+2))<|.m (dV y)<|.m (.arr 1 0 (I L+I R+2))<|.m (dV x)<|.h .ww<|.h .ww<|.l [ke 2,ke 4,ke 5,ke 7,ch 8 (di (I L:Nat))]) (Y ((↑(I L+1):Int)>0)=J/\G (bo 1 0 (I L+I R+2))=G (bo 1 0 (I L+I R+2))/\0<=(↑(I L+1):Int)/\(↑(I L+1):Int)<(↑(I L+I R+2):Int)/\0+Z (↑(I L+1):Int)*2+2<=I C/\take 2 (W (0+Z (↑(I L+1):Int)*2) C)=(c7 x.n x.az)/\G (bo 1 0 (I L+I R+2))=G (bo 1 0 (I L+I R+2))/\0<=yu yt ((↑(I L+1):Int)-1)/\yu yt ((↑(I L+1):Int)-1)<(↑(I L+I R+2):Int)/\0+Z (yu yt ((↑(I L+1):Int)-1))*2+2<=I C/\take 2 (W (0+Z (yu yt ((↑(I L+1):Int)-1))*2) C)=(c7 y.n y.az)/\ma x y/\(yi (True))/\Y (Aq x y<0)=J/\G (bo 1 0 (I L+I R+2))=G (bo 1 0 (I L+I R+2))/\G (bo 1 0 (I L+I R+2))=G (bo 1 0 (I L+I R+2))/\G (bo 1 0 (I L+I R+2))=G (bo 1 0 (I L+I R+2))/\0<=yu yt ((↑(I L+1):Int)-1)/\yu yt ((↑(I L+1):Int)-1)<(↑(I L+I R+2):Int)/\0+Z (yu yt ((↑(I L+1):Int)-1))*2+2<=I C/\take 2 (W (0+Z (yu yt ((↑(I L+1):Int)-1))*2) C)=(c7 y.n y.az)/\G (bo 1 0 (I L+I R+2))=G (bo 1 0 (I L+I R+2))/\0<=(↑(I L+1):Int)/\(↑(I L+1):Int)<(↑(I L+I R+2):Int)/\0+Z (↑(I L+1):Int)*2+2<=I C/\take 2 (W (0+Z (↑(I L+1):Int)*2) C)=(c7 x.n x.az)/\0<=(↑(I L+1):Int)/\(↑(I L+1):Int)<(↑(I L+I R+2):Int)/\0+Z (↑(I L+1):Int)*2+2<=I C/\0<=yu yt ((↑(I L+1):Int)-1)/\yu yt ((↑(I L+1):Int)-1)<(↑(I L+I R+2):Int)/\0+Z (yu yt ((↑(I L+1):Int)-1))*2+2<=I (take (0+Z (↑(I L+1):Int)*2) C++Ax (bt (ab (vi y.n::dt y.az::nV)))++W (0+Z (↑(I L+1):Int)*2+2) C)/\(True/\(G [bo 1 0 (I L+I R+2)]=G [bo 1 0 (I L+I R+2)]/\True)/\True/\True/\True/\True/\True)/\di (yu yt ((↑(I L+1):Int)-1))=di (I L:Int)/\I0 B7 0 d σ' [kl CT [1,1,1,1,0,1,0,0,1,0,0,1,0,0],bh 4,bh 3,kc CT [1,1,1,1,0,1,0,0,1,1],kl CT iw,bh 2,kc CT [1,1,1,1,1]] (ba 117 [(2,bt (bz (vT t))),(4,bq 0 0),mf,(7,di (i:Int)),(8,di (I L:Int))]) (bi [G [di 0,dn],G (take (0+Z (yu yt ((↑(I L+1):Int)-1))*2) (take (0+Z (↑(I L+1):Int)*2) C++(c7 y.n y.az)++W (0+Z (↑(I L+1):Int)*2+2) C)++(c7 x.n x.az)++W (0+Z (yu yt ((↑(I L+1):Int)-1))*2+2) (take (0+Z (↑(I L+1):Int)*2) C++(c7 y.n y.az)++W (0+Z (↑(I L+1):Int)*2+2) C)),G [di n,bo 1 0 (I L+I R+2)]] [])) ?_
 simp only[hw,k1,k0]
 have e1:C.take ((I L+1)*2)++[di y.n,.v (dt y.az)]++C.drop ((I L+1)*2+2)=C1:=s1
 have e2:C1.take (I L*2)++[di x.n,.v (dt x.az)]++C1.drop (I L*2+2)=C2:=s2
 have e3:C.take ((I L+1)*2)++Ax (.v (.agg (vi y.n::dt y.az::nV)))++C.drop ((I L+1)*2+2)=C1:=s1
 simp only[e1,e2,e3]
 refine⟨yr,trivial,by omega,by omega,by omega,d1,trivial,by omega,by omega,by omega,d0,hc,⟨trivial,trivial,trivial,trivial,trivial⟩,HC hlt,trivial,trivial,trivial,by omega,by omega,by omega,d0,trivial,by omega,by omega,by omega,d1,by omega,by omega,by omega,by omega,by omega,by omega,⟨trivial,yn,trivial,trivial,trivial,trivial,trivial⟩,trivial,⟨next⟩⟩
theorem Ab4(t:cy)(n:Int)(N:Nat)(C:List D)(d:D)(σ':St)(i:Nat)(hi:i<=1000)
  (next:Rn PP B7 0 d σ' (Gq++[]) (ba 117 [(2,.v (.ref (vT t))),(4,.ptr 0 0),(5,.ptr 2 0),(7,di (i+1:Nat))]) (FT n N C)):
  Rn PP B7 0 d σ' (kh++Gq) (ba 117 [(2,.v (.ref (vT t))),(4,.ptr 0 0),(5,.ptr 2 0),(7,di i),(8,di (0:Nat))]) (FT n N C):=by
 exact lv 117 [2,3] (.k<|.f<|.l [ke 2,ke 4,ke 5,ch 7 (di (i+1:Nat))]) (Q false/\di (yu yt ((i:Int)+1))=di (↑(i+1):Int)/\_) ⟨rfl,Ae,iK next⟩
theorem Ab3(t:cy)(n:Int)(L R:List bc)(x y:bc)(hx:x.size<=1000000)(hlt:¬Aq x y<0)(hN:I L+I R<=1000)(d:D)(σ':St)(i:Nat)(hi:i<=1000)
  (next:Rn PP B7 0 d σ' (Gq++[]) (ba 117 [(2,.v (.ref (vT t))),(4,.ptr 0 0),(5,.ptr 2 0),(7,di (i+1:Nat))]) (lk n (L++y::x::R))):
  Rn PP B7 0 d σ' (kh++Gq) (ba 117 [(2,.v (.ref (vT t))),(4,.ptr 0 0),(5,.ptr 2 0),(7,di i),(8,di (I L+1:Nat))]) (lk n (L++y::x::R)):=by
 have hc:=Dh _ x y (HH _) hx
 have d1:=Dz (l:=L++y::x::R) (i:=I L+1) (x:=x) (by simp)
 have d0:=Dz (l:=L++y::x::R) (i:=I L) (x:=y) (by simp)
 have c1:=AT (L++y::x::R)
 have n1:I (L++y::x::R)=I L+I R+2:=by simp;omega
 have next:Rn PP B7 0 d σ' (Gq++[]) (ba 117 [(2,.v (.ref (vT t))),(4,.ptr 0 0),(5,.ptr 2 0),(7,di (i+1:Nat))]) (FT n (I (L++y::x::R)) (Ab ((L++y::x::R).map eV))):=next
 show Rn PP B7 0 d σ' (kh++Gq) (ba 117 [(2,.v (.ref (vT t))),(4,.ptr 0 0),(5,.ptr 2 0),(7,di i),(8,di (I L+1:Nat))]) (FT n (I (L++y::x::R)) (Ab ((L++y::x::R).map eV)))
 rw[n1] at next⊢
 rw[n1] at c1
 generalize Ab ((L++y::x::R).map eV)=C at*
 have hw:yu .i64 (((I L+1:Nat):Int)-1)=(I L:Int):=by rw[Al];omega
 have k1:0+Z ((I L+1:Nat):Int)*2=(I L+1)*2:=by omega
 have k0:0+Z (I L:Int)*2=I L*2:=by omega
 refine lv 117 [2,3] (.t<|.m (.arr 1 0 (I L+I R+2))<|.m (dV x)<|.m (.arr 1 0 (I L+I R+2))<|.m (dV y)<|.c (di (Aq x y))<|.f<|.l [ke 2,ke 4,ke 5,ch 7 (di (i+1:Nat))]) (Y ((↑(I L+1):Int)>0)=J/\G (bo 1 0 (I L+I R+2))=G (bo 1 0 (I L+I R+2))/\0<=(↑(I L+1):Int)/\(↑(I L+1):Int)<(↑(I L+I R+2):Int)/\0+Z (↑(I L+1):Int)*2+2<=I C/\take 2 (W (0+Z (↑(I L+1):Int)*2) C)=(c7 x.n x.az)/\G (bo 1 0 (I L+I R+2))=G (bo 1 0 (I L+I R+2))/\0<=yu yt ((↑(I L+1):Int)-1)/\yu yt ((↑(I L+1):Int)-1)<(↑(I L+I R+2):Int)/\0+Z (yu yt ((↑(I L+1):Int)-1))*2+2<=I C/\take 2 (W (0+Z (yu yt ((↑(I L+1):Int)-1))*2) C)=(c7 y.n y.az)/\ma x y/\(yi (True))/\Y (Aq x y<0)=O/\di (yu yt ((i:Int)+1))=di (↑(i+1):Int)/\I0 B7 0 d σ' Gq (ba 117 [(2,bt (bz (vT t))),(4,bq 0 0),mf,(7,di (↑(i+1):Int))]) (bi [G [di 0,dn],G C,G [di n,bo 1 0 (I L+I R+2)]] [])) ?_
 simp only[hw,k1,k0]
 refine⟨yr,trivial,by omega,by omega,by omega,d1,trivial,by omega,by omega,by omega,d0,hc,⟨trivial,trivial,trivial,trivial,trivial⟩,HE hlt,Ae,⟨next⟩⟩
theorem Ah3(t:cy)(n:Int)(N:Nat)(C:List D)(d:D)(σ':St)(i:Nat)(hi:i<N)
  (next:Rn PP B7 0 d σ' (kh++Gq) (ba 117 [(2,.v (.ref (vT t))),(4,.ptr 0 0),(5,.ptr 2 0),(7,di i),(8,di i)]) (FT n N C)):
  Rn PP B7 0 d σ' (Gq++[]) (ba 117 [(2,.v (.ref (vT t))),(4,.ptr 0 0),(5,.ptr 2 0),(7,di i)]) (FT n N C):=by
 exact lv 117 [2,3] (.t<|.l [ke 2,ke 4,ke 5,ke 7,ch 8 (di i)]) (Y ((i:Int)<(N:Int))=J/\Q (di (i:Int))/\_) ⟨yr,rfl,iK next⟩
theorem Afk(t:cy)(n:Int)(xs:List bc)(i:Nat)(hi:¬i<I xs):
  Rn PP B7 0 (dV (.mk n xs)) bd (Gq++[]) (ba 117 [(2,.v (.ref (vT t))),(4,.ptr 0 0),(5,.ptr 2 0),(7,di i)]) (lk n xs):=by
 have sz2:∀l:List bc,∀v∈l.map eV,v.size=2:=fun l v hv=>by
  obtain⟨y,_,rfl⟩:=Is.1 hv
  rw[AE];rfl
 have hcv:=fun e=>BP (σ:=lk n xs) (p:=2) (q:=1) (i:=1) (sz:=2) (cs:=[di n,.arr 1 0 (I xs)]) (xs:=xs.map eV) (by decide) rfl rfl (by decide) (by rw[H9];rfl) (sz2 xs) e
 refine L5 (hcv _) ?_
 show Rn PP B7 0 (dV (.mk n xs)) bd (Gq++[]) (ba 117 [(2,.v (.ref (vT t))),(4,.ptr 0 0),(5,.ptr 2 0),(7,di i)]) ⟨[G [di 0,.v .nils],none,G [di n,cx xs]],[]⟩
 exact lv 117 [2,3] (.f<|.r) (Y ((i:Int)<(I (U eV xs):Int))=O/\Q (dV (bc.mk n xs))) ⟨HE (by rw[H9];omega),rfl⟩
abbrev vn(a b:bc):Prop:=Aq a b<=0
theorem Afj(t:cy)(n:Int)(i:Nat)(hi:i<=1000)(S:List bc)(x:bc)(hx:x.size<=1000000)(d:D)(σ':St)(m:Nat):∀L R:List bc,I L=m->I L+I R+I S<=1000->(L++R).Pairwise vn->(∀r∈R,Aq x r<=0)->
  (∀ys:List bc,ys.Perm (L++x::R)->ys.Pairwise vn->Rn PP B7 0 d σ' (Gq++[]) (ba 117 [(2,.v (.ref (vT t))),(4,.ptr 0 0),(5,.ptr 2 0),(7,di (i+1:Nat))]) (lk n (ys++S)))->
  Rn PP B7 0 d σ' (kh++Gq) (ba 117 [(2,.v (.ref (vT t))),(4,.ptr 0 0),(5,.ptr 2 0),(7,di i),(8,di (I L:Nat))]) (lk n (L++x::R++S)):=by
 induction m with
 |zero=>
  intro L R hl hN hp hR next
  obtain rfl:L=[]:=List.length_eq_zero_iff.1 hl
  exact Ab4 t n _ _ d σ' i hi (next (x::R) (List.Perm.refl _) (List.pairwise_cons.2 ⟨hR,hp⟩))
 |succ m ih=>
  intro L R hl hN hp hR next
  obtain⟨L',y,rfl⟩:∃L' y,L=L'++[y]:=⟨L.dropLast,L.getLast (by intro h;rw[h] at hl;simp at hl),(List.dropLast_concat_getLast _).symm⟩
  simp only[HO,List.length_singleton] at hl hN
  have e0:L'++[y]++x::R++S=L'++y::x::(R++S):=by simp
  rw[e0,show(L'++[y]).length=I L'+1 by simp]
  by_cases hlt:Aq x y<0
  ·refine Ah2 t n L' (R++S) x y hx hlt (by rw[HO];omega) d σ' i ?_
   have h:=ih L' (y::R) (by omega) (by simp only[HF];omega) (by simpa using hp) (fun r hr=>by
    rcases Iq.1 hr with rfl|hr
    ·omega
    ·exact hR r hr) (fun ys hy hs=>next ys (hy.trans (by
     have:=(List.perm_middle (a:=y) (l₁:=L'++[x]) (l₂:=R))
     simp only[IG,List.singleton_append,Jr,nil_append] at this⊢
     exact(List.Perm.append_left L' (List.Perm.swap y x R)))) hs)
   rw[show L'++x::y::R++S=L'++x::y::(R++S) by simp] at h
   exact h
  ·refine Ab3 t n L' (R++S) x y hx hlt (by rw[HO];omega) d σ' i hi ?_
   rw[←e0]
   refine next (L'++[y]++x::R) (List.Perm.refl _) ?_
   have hyx:Aq y x<=0:=(FM y x).2 hlt
   rw[List.pairwise_append] at hp⊢
   refine⟨hp.1,List.pairwise_cons.2 ⟨hR,hp.2.1⟩,fun a ha b hb=>?_⟩
   rcases Iq.1 hb with rfl|hb
   ·rcases Ix.1 ha with ha'|ha'
    ·exact Ey ((List.pairwise_append.1 hp.1).2.2 a ha' y (by simp)) hyx
    ·simp only[HQ] at ha';subst ha';exact hyx
   ·exact hp.2.2 a ha b hb
theorem AbA(t:cy)(n:Int)(T:List bc)(hT:I T<=900)(hz:∀x∈T,x.size<=1000000)(m:Nat):∀(i:Nat) (xs:List bc),1<=i->I T-i=m->xs.Perm T->(xs.take i).Pairwise vn->
  Rn PP B7 0 (dV (.mk n (sortV T))) bd (Gq++[]) (ba 117 [(2,.v (.ref (vT t))),(4,.ptr 0 0),(5,.ptr 2 0),(7,di i)]) (lk n xs):=by
 induction m with
 |zero=>
  intro i xs hi hm hp hs
  have hl:=hp.length_eq
  have e:xs=sortV T:=Oe hp (by rw[Ic (by omega)] at hs;exact hs.imp fun h=>HC h)
  rw[←e]
  exact Afk t n xs i (by omega)
 |succ m ih=>
  intro i xs hi hm hp hs
  have hl:=hp.length_eq
  obtain⟨x,hx⟩:=yk (show i<I xs by omega)
  have hxs:xs=xs.take i++[x]++xs.drop (i+1):=by
   conv=>lhs;rw[←List.take_append_drop (i+1) xs,IM,hx]
   rfl
  have hli:I (xs.take i)=i:=by rw[Ig];omega
  refine Ah3 t n _ _ _ _ i (by omega) ?_
  have h:=Afj t n i (by omega) (xs.drop (i+1)) x (hz x (hp.mem_iff.1 (HG hx))) (dV (.mk n (sortV T))) bd _ (xs.take i) [] rfl (by rw[hli,IF,HJ];omega) (by rw[Iz];exact hs) (fun r hr=>by simp at hr) (fun ys hy hs'=>by
   have hyl:=hy.length_eq
   rw[HO,hli,List.length_singleton] at hyl
   refine ih (i+1) (ys++xs.drop (i+1)) (by omega) (by omega) ?_ (by rw[Jj (by omega),Ic (by omega)];exact hs')
   exact(hy.append_right (xs.drop (i+1))).trans (by rw[←hxs];exact hp))
  rw[hli, ←hxs] at h
  exact h
noncomputable abbrev lr:List KI:=[kl CT [1,1,0,1,0,0],.blk 0,kc CT [1,1,1]]
theorem Ab7(l:List cy)(n:Int)(N k:Nat)(hk:k<N)(hN:N<=1000)(C C':List D)(hC:I C=N*2)(t:cy)(x x':bc)(hx:(C.drop (k*2)).take 2=[.v (vi x.n),.v (dt x.az)])(hC':C.take (k*2)++[.v (vi x'.n),.v (dt x'.az)]++C.drop (k*2+2)=C')(ht:l[k]?=G t)(hc:F0 145 [dT t,dV x] (dV x'))(d:D)(σ':St)
  (next:Rn PP B7 0 d σ' (lr++[]) (ba 117 [(2,.v (.ref (vT (.prod l)))),(4,.ptr 0 0),(5,.ptr 2 0),(6,di (k+1:Nat))]) (FT n N C')):
  Rn PP B7 0 d σ' (lr++[]) (ba 117 [(2,.v (.ref (vT (.prod l)))),(4,.ptr 0 0),(5,.ptr 2 0),(6,di k)]) (FT n N C):=by
 have k0:0+Z (k:Int)*2=k*2:=by omega
 refine lv 117 [2,3] (.t<|.k<|.t<|.m (.arr 1 0 N)<|.x (vT t)<|.m (.arr 1 0 N)<|.m (dV x)<|.c (dV x')<|.h .ww<|.k<|.f<|.l [ke 2,ke 4,ke 5,ch 6 (di (k+1:Nat))]) (Y ((k:Int)<(N:Int))=J/\Y ((k:Int)<(I (io l):Int))=J/\G (bo 1 0 N)=G (bo 1 0 N)/\0<=(k:Int)/\(io l)[Z (k:Int)]?=G (vT t)/\G (bo 1 0 N)=G (bo 1 0 N)/\0<=(k:Int)/\(k:Int)<(N:Int)/\0+Z (k:Int)*2+2<=I C/\take 2 (W (0+Z (k:Int)*2) C)=(c7 x.n x.az)/\F0 145 [bt (vT t),dV x] (dV x')/\0<=(k:Int)/\(k:Int)<(N:Int)/\0+Z (k:Int)*2+2<=I C/\(yj (True))/\(cy.kd (cy.prod l)==5)=O/\di (yu yt ((k:Int)+1))=di (↑(k+1):Int)/\I0 B7 0 d σ' [kl CT d5,bh 0,kc CT [1,1,1]] (ba 117 [(oy l),(4,bq 0 0),mf,(6,di (↑(k+1):Int))]) (bi [G [di 0,dn],G (take (0+Z (k:Int)*2) C++(c7 x'.n x'.az)++W (0+Z (k:Int)*2+2) C),G [di n,bo 1 0 N]] [])) ?_
 simp only[k0]
 have hC2:C.take (k*2)++[di x'.n,.v (dt x'.az)]++C.drop (k*2+2)=C':=hC'
 simp only[hC2]
 have hlt:=(HD.1 ht).1
 refine⟨yr,HC (by rw[H9];show(k:Int)<(I l:Int);omega),trivial,by omega,?_,trivial,by omega,by omega,by omega,hx,hc,by omega,by omega,by omega,⟨trivial,trivial,trivial,trivial⟩,rfl,Ae,⟨next⟩⟩
 show(l.map eT)[Z (k:Int)]?=_
 rw[Ir,show Z (k:Int)=k by omega,ht]
 exact HX G (V7 t)
theorem Ab6(t:cy)(n:Int)(N k:Nat)(hk:k<N)(hN:N<=1000)(C C':List D)(hC:I C=N*2)(x x':bc)(hx:(C.drop (k*2)).take 2=[.v (vi x.n),.v (dt x.az)])(hC':C.take (k*2)++[.v (vi x'.n),.v (dt x'.az)]++C.drop (k*2+2)=C')(hc:F0 145 [dT t,dV x] (dV x'))(d:D)(σ':St)
  (next:Rn PP B7 0 d σ' (lr++[]) (ba 117 [(2,.v (.ref (vT (.bag t)))),(4,.ptr 0 0),(5,.ptr 2 0),(6,di (k+1:Nat))]) (FT n N C')):
  Rn PP B7 0 d σ' (lr++[]) (ba 117 [(2,.v (.ref (vT (.bag t)))),(4,.ptr 0 0),(5,.ptr 2 0),(6,di k)]) (FT n N C):=by
 have k0:0+Z (k:Int)*2=k*2:=by omega
 refine lv 117 [2,3] (.t<|.k<|.f<|.k<|.t<|.m (.arr 1 0 N)<|.x (vT t)<|.m (.arr 1 0 N)<|.m (dV x)<|.c (dV x')<|.h .ww<|.l [ke 2,ke 4,ke 5,ch 6 (di (k+1:Nat))]) (Y ((k:Int)<(N:Int))=J/\false=O/\(cy.kd (cy.bag t)==5)=J/\G (bo 1 0 N)=G (bo 1 0 N)/\iz 0<=0/\G (eT t)=G (vT t)/\G (bo 1 0 N)=G (bo 1 0 N)/\0<=(k:Int)/\(k:Int)<(N:Int)/\0+Z (k:Int)*2+2<=I C/\take 2 (W (0+Z (k:Int)*2) C)=(c7 x.n x.az)/\F0 145 [bt (vT t),dV x] (dV x')/\0<=(k:Int)/\(k:Int)<(N:Int)/\0+Z (k:Int)*2+2<=I C/\(yj (True))/\di (yu yt ((k:Int)+1))=di (↑(k+1):Int)/\I0 B7 0 d σ' [kl CT d5,bh 0,kc CT [1,1,1]] (ba 117 [(2,bt (bz (vT (cy.bag t)))),(4,bq 0 0),mf,(6,di (↑(k+1):Int))]) (bi [G [di 0,dn],G (take (0+Z (k:Int)*2) C++(c7 x'.n x'.az)++W (0+Z (k:Int)*2+2) C),G [di n,bo 1 0 N]] [])) ?_
 simp only[k0]
 have hC2:C.take (k*2)++[di x'.n,.v (dt x'.az)]++C.drop (k*2+2)=C':=hC'
 simp only[hC2]
 exact⟨yr,trivial,rfl,trivial,by decide,HX G (V7 t),trivial,by omega,by omega,by omega,hx,hc,by omega,by omega,by omega,⟨trivial,trivial,trivial,trivial⟩,Ae,⟨next⟩⟩
theorem KN(t:cy)(n:Int):F0 145 [dT t,dV (.mk n [])] (dV (.mk n [])):=by
 have hc:=DD _ (.mk n []) (HH _) (by show 1<=_;decide)
 by_cases h5:t.kd=5
 ·exact sv B7 117 [2,3] (.c (dV (.mk n []))<|.n<|.k<|.f<|.n<|.k<|.r) (_/\(cy.kd t !=5)=O/\Q (dV (fz n))) ⟨hc,by rw[h5];rfl,rfl⟩
 ·exact sv B7 117 [2,3] (.c (dV (.mk n []))<|.n<|.k<|.t<|.r) (_/\(cy.kd t !=5)=J/\Q (dV (fz n))) ⟨hc,bne_iff_ne.2 h5,rfl⟩
theorem Ps(l:List cy)(n:Int)(ks ks':List bc)(hn:ks≠ [])(hl:I ks=I l)(hl':I ks'=I l)(hz:(bc.mk n ks).size<=900)(hs:∀(i:Nat) (t:cy) (x x':bc),l[i]?=G t->ks[i]?=G x->ks'[i]?=G x'->F0 145 [dT t,dV x] (dV x')):F0 145 [dT (.prod l),dV (.mk n ks)] (dV (.mk n ks')):=by
 have hsz:=(bc.mk n ks).size_eq
 have hle:=bc.length_le ks
 have hks:(bc.mk n ks).az=ks:=rfl
 rw[hks] at hsz
 have hcp:=ZI (.mk n ks) hn hz
 have sz2:∀l:List bc,∀v∈l.map eV,v.size=2:=fun l v hv=>by
  obtain⟨y,_,rfl⟩:=Is.1 hv
  rw[AE];rfl
 have loop (m:Nat):∀k:Nat,I ks-k=m->k<=I ks->Rn PP B7 0 (dV (.mk n ks')) bd (lr++[]) (ba 117 [(2,.v (.ref (vT (.prod l)))),(4,.ptr 0 0),(5,.ptr 2 0),(6,di k)]) (FT n (I ks) (Ab ((ks'.take k++ks.drop k).map eV))):=by
  induction m with
  |zero=>
   intro k hm hk
   have e:k=I ks':=by omega
   subst e
   rw[take_length,HU (by omega),Iz ks']
   have hcv:=fun e=>BP (σ:=FT n (I ks) (Ab (ks'.map eV))) (p:=2) (q:=1) (i:=1) (sz:=2) (cs:=[di n,.arr 1 0 (I ks)]) (xs:=ks'.map eV) (by decide) rfl rfl (by decide) (by rw[H9,hl', ←hl];rfl) (sz2 ks') e
   refine L5 (hcv _) ?_
   show Rn PP B7 0 (dV (.mk n ks')) bd (lr++[]) (ba 117 [(2,.v (.ref (vT (.prod l)))),(4,.ptr 0 0),(5,.ptr 2 0),(6,di (I ks'))]) ⟨[G [di 0,.v .nils],none,G [di n,cx ks']],[]⟩
   exact lv 117 [2,3] (.f<|.k<|.r) (Y ((I ks':Int)<(I (U eV ks'):Int))=O/\Q (dV (bc.mk n ks'))) ⟨HE (by rw[H9];omega),rfl⟩
  |succ m ih=>
   intro k hm hk
   obtain⟨t,ht⟩:=yk (show k<I l by omega)
   obtain⟨x,hx⟩:=yk (show k<I ks by omega)
   obtain⟨x',hx'⟩:∃x,ks'[k]?=G x:=⟨_,HA (show k<I ks' by omega)⟩
   have hd:ks.drop k=x::ks.drop (k+1):=by rw[HP (show k<I ks by omega),(HD.1 hx).2]
   have htk:ks'.take (k+1)=ks'.take k++[x']:=by rw[IM,hx'];rfl
   have hkl:I (ks'.take k)=k:=by rw[Ig];omega
   have hm1:=Md (ks'.take k) (ks.drop (k+1)) x x'
   have hat:=Dz (l:=ks'.take k++x::ks.drop (k+1)) (i:=k) (x:=x) (by rw[HT (by omega),hkl,Nat.sub_self];rfl)
   rw[hkl] at hm1
   rw[hd]
   have hih:=ih (k+1) (by omega) (by omega)
   rw[htk,IG,List.singleton_append] at hih
   exact Ab7 l n (I ks) k (by omega) (by omega) _ _ (by rw[AT,HO,HF,IF,hkl];omega) t x x' hat hm1 ht (hs k t x x' ht hx hx') _ _ hih
 have hlp:=loop _ 0 rfl (Ik _)
 rw[take_zero,nil_append,Jk] at hlp
 have hF:=Ci (.mk n ks)
 have hcall:∀(o:yy) (c:Call) (fo:x8),o.op=.call c->c.callee=.value fo->Aj PP o [.v (.fn 101 [] []),dV (.mk n ks)] ⟨[G [di 0,.v .nils]],[]⟩ (.dagg [di n,.arr 1 0 (I ks)]) ⟨[G [di 0,.v .nils],G (fx (.mk n ks))],[]⟩:=fun o c fo ho hc=>Qv (H:=[G [di 0,.v .nils]]) rfl hF hcp ho hc
 have hlp:Rn PP B7 0 (dV (.mk n ks')) bd (lr++[]) (ba 117 [(2,.v (.ref (vT (.prod l)))),(4,.ptr 0 0),(5,.ptr 2 0),(6,di (0:Nat))]) (FT n (I ks) (fx (.mk n ks))):=hlp
 clear hcp
 generalize fx (.mk n ks)=F at*
 exact sv B7 117 [2,3] (.h (.oc (.dagg [di n,.arr 1 0 (I ks)]) ⟨[G [di 0,.v .nils],G F],[]⟩)<|.l [ke 2,ke 4,ke 5,ch 6 (di (0:Nat))]) (_/\Q (di 0)/\_) ⟨hcall,rfl,iK hlp⟩
theorem Ab8(t:cy)(n:Int)(T:List bc)(hn:T≠ [])(hz:(bc.mk n T).size<=900)(hs:∀x∈T,F0 145 [dT t,dV x] (dV x)):F0 145 [dT (.bag t),dV (.mk n T)] (dV (.mk n (sortV T))):=by
 have hsz:=(bc.mk n T).size_eq
 have hle:=bc.length_le T
 have hks:(bc.mk n T).az=T:=rfl
 rw[hks] at hsz
 have hcp:=ZI (.mk n T) hn hz
 have hsl:=AbA (.bag t) n T (by omega) (fun x hx=>by have:=bc.size_mem hx;omega) _ 1 T (HH _) rfl (List.Perm.refl _) (by
  cases T with
  |nil=>exact List.Pairwise.nil
  |cons a T=>exact List.pairwise_singleton _ _)
 have loop (m:Nat):∀k:Nat,I T-k=m->k<=I T->Rn PP B7 0 (dV (.mk n (sortV T))) bd (lr++[]) (ba 117 [(2,.v (.ref (vT (.bag t)))),(4,.ptr 0 0),(5,.ptr 2 0),(6,di k)]) (FT n (I T) (Ab (T.map eV))):=by
  induction m with
  |zero=>
   intro k hm hk
   have hsl:Rn PP B7 0 (dV (.mk n (sortV T))) bd (Gq++[]) (ba 117 [(2,.v (.ref (vT (.bag t)))),(4,.ptr 0 0),(5,.ptr 2 0),(7,di (1:Nat))]) (FT n (I T) (Ab (T.map eV))):=hsl
   generalize Ab (T.map eV)=F at*
   exact lv 117 [2,3] (.f<|.k<|.l [ke 2,ke 4,ke 5,ch 7 (di (1:Nat))]) (Y ((k:Int)<(I T:Int))=O/\Q (di 1)/\_) ⟨yq,rfl,iK hsl⟩
  |succ m ih=>
   intro k hm hk
   obtain⟨x,hx⟩:=yk (show k<I T by omega)
   exact Ab6 t n (I T) k (by omega) (by omega) _ _ (AT T) x x (Dz hx) (Mc hx) (hs x (HG hx)) _ _ (ih (k+1) (by omega) (by omega))
 have hlp:=loop _ 0 rfl (Ik _)
 have hF:=Ci (.mk n T)
 have hcall:∀(o:yy) (c:Call) (fo:x8),o.op=.call c->c.callee=.value fo->Aj PP o [.v (.fn 101 [] []),dV (.mk n T)] ⟨[G [di 0,.v .nils]],[]⟩ (.dagg [di n,.arr 1 0 (I T)]) ⟨[G [di 0,.v .nils],G (fx (.mk n T))],[]⟩:=fun o c fo ho hc=>Qv (H:=[G [di 0,.v .nils]]) rfl hF hcp ho hc
 have hlp:Rn PP B7 0 (dV (.mk n (sortV T))) bd (lr++[]) (ba 117 [(2,.v (.ref (vT (.bag t)))),(4,.ptr 0 0),(5,.ptr 2 0),(6,di (0:Nat))]) (FT n (I T) (fx (.mk n T))):=hlp
 clear hcp hsl loop
 generalize fx (.mk n T)=F at*
 exact sv B7 117 [2,3] (.h (.oc (.dagg [di n,.arr 1 0 (I T)]) ⟨[G [di 0,.v .nils],G F],[]⟩)<|.l [ke 2,ke 4,ke 5,ch 6 (di (0:Nat))]) (_/\Q (di 0)/\_) ⟨hcall,rfl,iK hlp⟩
theorem AhY(m:b9)(hm:Dj m):F0 31 [Af m] (db J):=by
 have h1:∀a b x,Ay x a b=J->F0 30 [di x,di a,di b] (db J):=fun a b x h=>h▸CC x a b
 have hb:∀{x a b:Int},a<=x->x<=b->Ay x a b=J:=fun h1 h2=>by simp[Ay,h1,h2]
 obtain⟨hst,hpl⟩:=hm.sz
 have hag:=hm.age
 have hc:=hm.count
 have hle:=hm.ax
 have hlv:=hm.ao
 have hk:=hm.kind
 clear hm
 obtain⟨kind,aw,ay,ax,au,ao,age,av,start⟩:=m
 dsimp only at*
 subst hk
 subst hle
 subst hlv
 refine sv Tj 81 [1] (.c (db J)<|.c (db J)<|.k<|.f<|.c (db J)<|.c (db J)<|.c (db J) .r) (F0 30 [di (I (U ae (b9.mk 5 aw ay [] au 0 age av start).aw):Int),di 1,di 8] (db J)/\F0 30 [di (I (U ae (b9.mk 5 aw ay [] au 0 age av start).ay):Int),di 1,di 6] (db J)/\Y ((I (U Ai (b9.mk 5 aw ay [] au 0 age av start).av):Int)>12)=O/\F0 30 [di (I (U ae (b9.mk 5 aw ay [] au 0 age av start).ax):Int),di 0,di 0] (db J)/\F0 30 [di (b9.mk 5 aw ay [] au 0 age av start).ao,di 0,di 0] (db J)/\F0 30 [di (b9.mk 5 aw ay [] au 0 age av start).age,di 0,di 3] (db J)/\Q (db J)) ?_
 have b1:Ay (I aw:Int) 1 8=J:=hb (by omega) (by omega)
 have b2:Ay (I ay:Int) 1 6=J:=hb (by omega) (by omega)
 have b3:Y ((I av:Int)>12)=O:=yq
 have b4:Ay age 0 3=J:=hb (by omega) (by omega)
 exact⟨by rw[H9];exact h1 _ _ _ b1,by rw[H9];exact h1 _ _ _ b2,by rw[H9];exact b3,h1 _ _ _ rfl,h1 _ _ _ rfl,h1 _ _ _ b4,rfl⟩
theorem AhD(m:b9)(hm:Dj m):F0 32 [Af m] (db J):=by
 exact sv Mh 32 [1] (.t .r) ((m.kind !=3)=J/\db ((I (U vi m.au):Int)==0)=db J) ⟨by rw[hm.kind];rfl,by rw[hm.au];rfl⟩
theorem Aid(m:b9)(hm:Dj m):F0 33 [Af m] (db J):=by
 obtain⟨hst,hpl⟩:=hm.sz
 have hc:=hm.count
 exact SV m (by simp only[EP,BW,IY,List.flatten_nil,HO,H9,HJ,hm.ax];omega) (by omega) hm.named
noncomputable abbrev AiS:=Tryz.f60
theorem Add(l:List Int)(hl:I l<=3)(b:Int)(h:∀x∈l,0<=x/\x<=b):F0 60 [cw l,di 3,di b] (db J):=by
 have:=GN l (by omega) (I l) 0 b rfl (fun x hx=>by simp[Ay,h x hx])
 exact sv AiS 18 [] (.t<|.c (db J) .r) (Y ((I (U vi l):Int)<=3)=J/\F0 59 [cw l,di (I (U vi l):Int),di 0,di b] (db J)/\Q (db J)) ⟨HC (by rw[H9];omega),by rw[H9];exact this,rfl⟩
noncomputable abbrev Aez:=Tryz.f61
theorem Abl(m:b9)(hp:1<=I m.ay/\m.ay.length<=1000)(ha:0<=m.age/\m.age<=1000)(r:cp)(h1:r.ar=[]∨∃p lo hi:Int,(0<=p/\p<I m.ay)/\(0<=lo/\lo<=hi/\hi<=m.age+1)/\r.ar=[⟨p,lo,hi⟩])(h2:r.aq=[]∨∃p:Int,(0<=p/\p<I m.ay)/\r.aq=[p]):F0 61 [Af m,Cu r] (db J):=by
 have hw:yt.wrap ((I (m.ay.map ae):Int)-1)=(I m.ay:Int)-1:=Ds _ _ (by omega)
 have hwa:yt.wrap (m.age+1)=m.age+1:=Al
 have hm1:I r.aq<=1:=by rcases h2 with e|⟨_,_,e⟩<;>rw[e]<;>simp
 have hfew:=Add r.aq (by omega) ((I m.ay:Int)-1) (fun x hx=>by
  rcases h2 with e|⟨p,hp,e⟩
  ·rw[e] at hx;simp at hx
  ·rw[e] at hx;rw[HQ.1 hx];omega)
 have hml:¬(1:Int)<(I (r.aq.map vi):Int):=by rw[H9];omega
 rcases h1 with e|⟨p,lo,hi,⟨p1,p2⟩,⟨l1,l2,l3⟩,e⟩
 ·refine sv Aez 81 [2,3] (.f<|.c (db J)<|.k<|.n<|.f<|.n<|.f .r) (Y ((I (U dx r.ar):Int)>3)=O/\F0 60 [cw r.aq,di 3,di (yu yt ((I (dm m.ay):Int)-1))] (db J)/\Y (0<(I (U dx r.ar):Int))=O/\Y (1<(I (U vi r.aq):Int))=O/\Q (db J)) ?_
  rw[hw]
  exact⟨by rw[e];rfl,hfew,by rw[e];rfl,HE hml,rfl⟩
 ·have hbt:F0 30 [di p,di 0,di ((I m.ay:Int)-1)] (db J):=by
   have:=CC p 0 ((I m.ay:Int)-1)
   rwa[show Ay p 0 ((I m.ay:Int)-1)=J by simp[Ay];omega] at this
  refine sv Aez 81 [2,3] (.f<|.c (db J)<|.k<|.n<|.t<|.x (dx ⟨p,lo,hi⟩)<|.c (db J)<|.k<|.f<|.f<|.f<|.n<|.f<|.n<|.f .r) (Y ((I (U dx r.ar):Int)>3)=O/\F0 60 [cw r.aq,di 3,di (yu yt ((I (dm m.ay):Int)-1))] (db J)/\Y (0<(I (U dx r.ar):Int))=J/\iz 0<=0/\(U dx r.ar)[Z 0]?=G (dx (Tk.mk p lo hi))/\F0 30 [di (Tk.mk p lo hi).place,di 0,di (yu yt ((I (dm m.ay):Int)-1))] (db J)/\Y ((Tk.mk p lo hi).low<0)=O/\Y ((Tk.mk p lo hi).low>(Tk.mk p lo hi).high)=O/\Y ((Tk.mk p lo hi).high>yu yt (m.age+1))=O/\Y (yu yt (0+1)<(I (U dx r.ar):Int))=O/\Y (1<(I (U vi r.aq):Int))=O/\Q (db J)) ?_
  rw[hw,hwa]
  exact⟨by rw[e];rfl,hfew,by rw[e];rfl,Ib _,by rw[e];rfl,hbt,HE (by show ¬lo<0;omega),HE (by show ¬lo>hi;omega),HE (by show ¬hi>m.age+1;omega),by rw[e];rfl,HE hml,rfl⟩
theorem Akn(m:b9)(hm:FZ m)(r:cp)(hr:r∈m.av):F0 34 [Af m,Cu r] (db J):=by
 have h1:∀a b x,Ay x a b=J->F0 30 [di x,di a,di b] (db J):=fun a b x h=>h▸CC x a b
 have hb:∀{x a b:Int},a<=x->x<=b->Ay x a b=J:=fun h1 h2=>by simp[Ay,h1,h2]
 obtain⟨i,hi⟩:=List.getElem?_of_mem hr
 have hR:=hm.av i r hi
 obtain⟨hst,hpl⟩:=hm.n.sz
 have ht:=Abl m (by omega) (by have:=hm.n.age;omega) r hR.ar hR.aq
 have hf:=hR.aj
 have hto:=hR.to
 have hw:yt.wrap ((I (m.aw.map ae):Int)-1)=(I m.aw:Int)-1:=Ds _ _ (by omega)
 have hre:=hR.rest
 have hk:=hm.n.kind
 clear hm hr hi hR
 generalize r.name=nm at*
 generalize r.aj=f at*
 generalize r.to=t at*
 generalize r.ar=tk at*
 generalize r.aq=mk at*
 subst hre
 obtain⟨kind,aw,ay,ax,au,ao,age,av,start⟩:=m
 dsimp only at*
 subst hk
 refine sv ud 234 [2,3] (.c (db J)<|.c (db J)<|.c (db J) .r) (F0 30 [di (er nm f t tk mk).aj,di 0,di (yu yt ((I (U ae (b9.mk 5 aw ay ax au ao age av start).aw):Int)-1))] (db J)/\F0 30 [di (er nm f t tk mk).to,di 0,di (yu yt ((I (U ae (b9.mk 5 aw ay ax au ao age av start).aw):Int)-1))] (db J)/\F0 61 [bt (A1 (b9.mk 5 aw ay ax au ao age av start)),bt (Ai (er nm f t tk mk))] (db J)/\db ((er nm f t tk mk).second==0)=db J) ?_
 rw[hw]
 have b1:Ay f 0 ((I aw:Int)-1)=J:=hb hf.1 (by omega)
 have b2:Ay t 0 ((I aw:Int)-1)=J:=hb hto.1 (by omega)
 exact⟨h1 _ _ _ b1,h1 _ _ _ b2,ht,rfl⟩
theorem xm(m:b9)(hk:m.kind=5)(hag:0<=m.age/\m.age<=1000):F0 36 [Af m] (dT (As m)):=by
 obtain⟨kind,aw,ay,ax,au,ao,age,av,start⟩:=m
 dsimp only at*
 subst hk
 refine sv nq 96 [1] (.a 1<|.h .g .r) (Q (ab (vi 2::vi (I (U ae (b9.mk 5 aw ay ax au ao age av start).aw):Int)::ai nV::ai nV::nV)::nV)/\Ao 2 64/\bt (ab [vi 3,vi 0,ai [],ai [ab [vi 2,vi (I (U ae (b9.mk 5 aw ay ax au ao age av start).aw):Int),ai [],ai []],ab [vi 5,vi 0,ai [],ai [ab [vi 3,vi 0,ai [],ai [ab [vi 2,vi (I (U ae (b9.mk 5 aw ay ax au ao age av start).ay):Int),ai [],ai []],ab [vi 2,vi (yu yt ((b9.mk 5 aw ay ax au ao age av start).age+2)),ai [],ai []]]]]]]])=dT (As (b9.mk 5 aw ay ax au ao age av start))) ⟨rfl,⟨by decide,by decide⟩,?_⟩
 show bt (ab [vi 3,vi 0,ai [],ai [ab [vi 2,vi (I (aw.map ae):Int),ai [],ai []],ab [vi 5,vi 0,ai [],ai [ab [vi 3,vi 0,ai [],ai [ab [vi 2,vi (I (ay.map ae):Int),ai [],ai []],ab [vi 2,vi (yu yt (age+2)),ai [],ai []]]]]]]])=_
 rw[H9,H9,Al (n:=age+2)]
 show _=bt (vT (.prod [.lab (I aw),.bag (.prod [.lab (I ay),.lab (age+2)])]))
 rfl
theorem AaW(d:Nat)(t:cy)(hd:d<=100)(h:F0 104 [dT t,di d] (db J)):F0 104 [dT (.bag t),di ((d+1:Nat):Int)] (db J):=by
 rw[dT,Sg]
 refine sv M6 132 [2] (.f<|.x (vT t)<|.c (db J) .r) (((↑(d+1):Int)==0)=O/\iz 0<=0/\Q (G (vT t))/\F0 104 [bt (vT t),di (yu yt ((↑(d+1):Int)-1))] (db J)/\Q (db J)) ?_
 have hz:(((d+1:Nat):Int)==0)=O:=Ip.2 (by omega)
 rw[show yt.wrap (((d+1:Nat):Int)-1)=d by rw[Al];omega]
 exact⟨hz,by decide,rfl,h,rfl⟩
theorem WD(m:b9)(hm:Dj m):F0 104 [dT (As m),di 8] (db J):=by
 obtain⟨hst,hpl⟩:=hm.sz
 have hag:=hm.age
 refine Lv 7 _ (by decide) rfl rfl fun t ht=>?_
 simp only[Iq,Ji,or_false] at ht
 rcases ht with rfl|rfl
 ·exact Hr 6 _ (by omega) (by omega)
 ·refine AaW 6 _ (by decide) (Lv 5 _ (by decide) rfl rfl fun t ht=>?_)
  simp only[Iq,Ji,or_false] at ht
  rcases ht with rfl|rfl
  ·exact Hr 4 _ (by omega) (by omega)
  ·exact Hr 4 _ (by omega) (by omega)
theorem xa(m:b9)(hm:Dj m):F0 63 [dT (As m)] (di 0):=by
 exact sv Ae7 6 [1] (.c (db J) .r) (_/\Q (di 0)) ⟨WD m hm,rfl⟩
def ny(t:cy)(l:List bc):Nat->Nat->Bool
 |0,_=>true
 |n+1,k=>(Ar t (l.getD k default)&& !(Y (k>0)&&Y (Aq (l.getD (k-1) default) (l.getD k default)>0)))&&ny t l n (k+1)
theorem Vj(t:cy)(v:bc)(hv:I v.az<=12)(hz:v.size<=1000000)(h:∀k∈v.az,F0 65 [dT t,dV k] (db (Ar t k)))(n:Nat):∀k:Nat,I v.az-k=n->
  Rn PP DM 0 (db (ny t v.az n k)) bd ([kl Cw [1,1,1,0,1,0,0],.blk 3,kc Cw [1,1,1,1]]++[]) (ba 169 [(2,.v (.ref (jd 5 0 [] [vT t]))),(3,.v (.ref (Ac v))),(6,di k)]) bd:=by
 induction n with
 |zero=>
  intro k hn
  exact lv 169 [2,3] (.f .r) (Y ((k:Int)<(I (cc v.az):Int))=O/\Q (db J)) ⟨HE (by rw[H9];omega),rfl⟩
 |succ n ih=>
  intro k hn
  obtain⟨x,hx⟩:∃r,v.az[k]?=G r:=⟨_,HA (by omega)⟩
  have hlt:Y ((k:Int)<(I (v.az.map eV):Int))=J:=HC (by rw[H9];omega)
  have hxd:v.az.getD k default=x:=by rw[HI,hx];rfl
  have ho:=h x (HG hx)
  rw[ny,hxd]
  have hih:=ih (k+1) (by omega)
  generalize ny t v.az n (k+1)=b at*
  cases hb:Ar t x with
  |false=>
   rw[hb] at ho
   exact lv 169 [2,3] (.t<|.x (vT t)<|.x (Ac x)<|.c (db O)<|.k<|.k .r) (_/\iz 0<=0/\Q (G (vT t))/\0<=(k:Int)/\(cc v.az)[Z (k:Int)]?=G (Ac x)/\_/\db O=db (false&& !(Y (k>0)&&Y (Aq (List.getD v.az (k-1) default) x>0))&&b)) ⟨hlt,by decide,rfl,by omega,An hx,ho,by rw[Ih,Ih]⟩
  |true=>
   rw[hb] at ho
   cases k with
   |zero=>
    exact lv 169 [2,3] (.t<|.x (vT t)<|.x (Ac x)<|.c (db J)<|.k<|.k<|.k<|.l [ke 2,ke 3,ch 6 (di ((0:Nat)+1:Nat))]) (_/\iz 0<=0/\Q (G (vT t))/\0<=(↑0:Int)/\(cc v.az)[Z (↑0:Int)]?=G (Ac x)/\_/\Q (di (↑(0+1):Int))/\I0 DM 0 (db (true&& !(Y (0>0)&&Y (Aq (List.getD v.az (0-1) default) x>0))&&b)) bd mc (ba 169 [(2,bt (bz (jd 5 0 [] [vT t]))),(ip v),(6,di (↑(0+1):Int))]) dh) ⟨hlt,by decide,rfl,by omega,An hx,ho,rfl,⟨by simpa using hih⟩⟩
   |succ k=>
    obtain⟨y,hy⟩:∃r,v.az[k]?=G r:=⟨_,HA (by omega)⟩
    have hyd:v.az.getD k default=y:=by rw[HI,hy];rfl
    rw[show k+1-1=k by omega,hyd]
    have hyz:=bc.size_mem (HG hy)
    have hvz:=bc.size_eq v
    have hcm:=Dh _ y x (HH _) (by omega)
    have hw1:yu yt (((k+1:Nat):Int)-1)=(k:Int):=by rw[Al];omega
    have hg:Y (((k+1:Nat):Int)>0)=J:=yr
    by_cases hc:Aq y x>0
    ·refine lv 169 [2,3] (.t<|.x (vT t)<|.x (Ac x)<|.c (db J)<|.k<|.k<|.t<|.x (Ac y)<|.x (Ac x)<|.c (di (Aq y x))<|.t .r) (Y ((↑(k+1):Int)<(I (cc v.az):Int))=J/\iz 0<=0/\Q (G (vT t))/\0<=(↑(k+1):Int)/\(cc v.az)[Z (↑(k+1):Int)]?=G (Ac x)/\F0 65 [bt (vT t),dV x] (db J)/\Y ((↑(k+1):Int)>0)=J/\0<=yu yt ((↑(k+1):Int)-1)/\(cc v.az)[Z (yu yt ((↑(k+1):Int)-1))]?=G (Ac y)/\0<=(↑(k+1):Int)/\(cc v.az)[Z (↑(k+1):Int)]?=G (Ac x)/\ma y x/\Y (Aq y x>0)=J/\db O=db (true&& !(Y (k+1>0)&&Y (Aq y x>0))&&b)) ?_
     rw[hw1]
     exact⟨hlt,by decide,rfl,by omega,An hx,ho,hg,by omega,An hy,by omega,An hx,hcm,HC hc,by rw[HC hc];simp⟩
    ·refine lv 169 [2,3] (.t<|.x (vT t)<|.x (Ac x)<|.c (db J)<|.k<|.k<|.t<|.x (Ac y)<|.x (Ac x)<|.c (di (Aq y x))<|.f<|.l [ke 2,ke 3,ch 6 (di (k+1+1:Nat))]) (Y ((↑(k+1):Int)<(I (cc v.az):Int))=J/\iz 0<=0/\Q (G (vT t))/\0<=(↑(k+1):Int)/\(cc v.az)[Z (↑(k+1):Int)]?=G (Ac x)/\F0 65 [bt (vT t),dV x] (db J)/\Y ((↑(k+1):Int)>0)=J/\0<=yu yt ((↑(k+1):Int)-1)/\(cc v.az)[Z (yu yt ((↑(k+1):Int)-1))]?=G (Ac y)/\0<=(↑(k+1):Int)/\(cc v.az)[Z (↑(k+1):Int)]?=G (Ac x)/\ma y x/\Y (Aq y x>0)=O/\di (yu yt ((↑(k+1):Int)+1))=di (↑(k+1+1):Int)/\I0 DM 0 (db (true&& !(Y (k+1>0)&&Y (Aq y x>0))&&b)) bd mc (ba 169 [(2,bt (bz (jd 5 0 [] [vT t]))),(ip v),(6,di (↑(k+1+1):Int))]) dh) ?_
     rw[hw1]
     exact⟨hlt,by decide,rfl,by omega,An hx,ho,hg,by omega,An hy,by omega,An hx,hcm,HE hc,Ae,⟨by rw[HE hc];simpa using hih⟩⟩
theorem AdS(t:cy)(l:List bc)(n:Nat):∀k:Nat,I l-k=n->k<=I l->(ny t l n k=J↔(∀i,k<=i->i<I l->Ar t (l.getD i default)=J)/\∀i,k<=i->0<i->i<I l->Aq (l.getD (i-1) default) (l.getD i default)<=0):=by
 induction n with
 |zero=>
  intro k hn hk
  exact⟨fun _=>⟨fun i h1 h2=>by omega,fun i h1 _ h2=>by omega⟩,fun _=>rfl⟩
 |succ n ih=>
  intro k hn hk
  rw[ny,HB,HB,ih (k+1) (by omega) (by omega)]
  simp only[I2,Bool.and_eq_false_iff,IU]
  constructor
  ·rintro ⟨⟨h1,h2⟩,h3,h4⟩
   refine⟨fun i hi1 hi2=>?_,fun i hi1 h0 hi2=>?_⟩
   ·by_cases e:i=k
    ·rw[e];exact h1
    ·exact h3 i (by omega) hi2
   ·by_cases e:i=k
    ·subst e;rcases h2 with h2|h2<;>omega
    ·exact h4 i (by omega) h0 hi2
  ·rintro ⟨h1,h2⟩
   refine⟨⟨h1 k (HH _) (by omega),?_⟩,fun i hi1 hi2=>h1 i (by omega) hi2,fun i hi1 h0 hi2=>h2 i (by omega) h0 hi2⟩
   by_cases h0:k>0
   ·right;have:=h2 k (HH _) h0 (by omega);omega
   ·left;exact h0
theorem Agn(t:cy)(l:List bc):ny t l (I l) 0=(l.all (fun k=>Ar t k)&&UA l):=by
 rw[Bool.eq_iff_iff,AdS t l (I l) 0 (Nat.sub_zero _) (Ik _),HB,Iw,Oc]
 constructor
 ·rintro ⟨h1,h2⟩
  refine⟨fun x hx=>?_,LG l fun i hi=>?_⟩
  ·obtain⟨i,hi⟩:=List.getElem?_of_mem hx
   have:=h1 i (Ik _) (HD.1 hi).1
   rwa[HI,hi] at this
  ·have:=h2 (i+1) (Ik _) (by omega) hi
   rwa[show i+1-1=i by omega] at this
 ·rintro ⟨h1,h2⟩
  refine⟨fun i _ hi=>?_,fun i _ h0 hi=>?_⟩
  ·rw[HI,HA hi]
   exact h1 _ (List.getElem_mem hi)
  ·have:=List.pairwise_iff_getElem.1 h2 (i-1) i (by omega) hi (by omega)
   rw[HI,HI,HA hi,HA (show i-1<I l by omega)]
   exact this
theorem Ac6(t:cy)(v:bc)(hz:v.size<=1000000)(h:∀k∈v.az,F0 65 [dT t,dV k] (db (Ar t k))):F0 65 [dT (.bag t),dV v] (db (Ar (.bag t) v)):=by
 rw[dT,Sg]
 refine sv DM 169 [2,3] (.k<|.k<|.k<|.k<|.b .r (.b .r (.l [ke 2,ke 3,ch 6 (di (0:Nat))]))) (((v.n !=0)=J->db O=db (Ar (cy.bag t) v))/\((v.n !=0)=O->(Y ((I (cc v.az):Int)>12)=J->db O=db (Ar (cy.bag t) v))/\(Y ((I (cc v.az):Int)>12)=O->di 0=di (↑0:Int)/\I0 DM (I bd.H) (db (Ar (cy.bag t) v)) bd mc (ba 169 [(2,bt (bz (jd 5 0 [] [vT t]))),(ip v),(6,di (↑0:Int))]) bd))) ⟨fun h1=>?_,fun h1=>⟨fun h2=>?_,fun h2=>⟨rfl,⟨?_⟩⟩⟩⟩
 ·have h1:(v.n==0)=O:=by simpa using h1
  simp only[Ar,h1,Ih]
 ·have h2:¬((I v.az:Int)<=12):=by simpa using h2
  simp only[Ar,HE h2,Ih,Jn]
 ·have h1:(v.n==0)=J:=by simpa using h1
  have h2:(I v.az:Int)<=12:=by simpa using h2
  simp only[Ar,h1,HC h2,Ij]
  rw[←Agn]
  exact Vj t v (by omega) hz h _ 0 rfl
theorem YE(m:b9)(v:bc)(hv:v.size<=1000000):F0 65 [dT (As m),dV v] (db (Ar (As m) v)):=
 LU _ v hv fun t ht k hk=>by
  have hks:=bc.size_mem hk
  have hvs:=v.size_eq
  simp only[Iq,Ji,or_false] at ht
  rcases ht with rfl|rfl
  ·exact KZ _ k
  ·refine Ac6 _ k (by omega) fun x hx=>LU _ x (by have:=bc.size_mem hx;have:=k.size_eq;omega) fun t ht y _=>?_
   simp only[Iq,Ji,or_false] at ht
   rcases ht with rfl|rfl<;>exact KZ _ y
theorem G1(m:b9)(hm:Dj m)(v:bc):F0 35 [dT (As m),dV v] (db (Ah (As m) v)):=by
 refine sv Aex 18 [2,3] (.c (di 0)<|.c (di (min (v.size:Int) 129))<|.b (.c (db (Ar (As m) v)) .r) .r) (_/\_/\(Y (min (↑(bc.size v):Int) 129<=128)=J->F0 65 [bt (vT (As m)),dV v] (db (Ar (As m) v))/\db (Ar (As m) v)=db (Ah (As m) v))/\(Y (min (↑(bc.size v):Int) 129<=128)=O->db O=db (Ah (As m) v))) ⟨xa m hm,GB _ v (HH _) 128 (by decide) (by decide),fun h1=>?_,fun h1=>?_⟩
 ·have h1:=HL h1
  have h2:(v.size:Int)<=128:=by rw[I9] at h1;split at h1<;>omega
  exact⟨YE m v (by omega),by rw[Ah,HC h2,Ij]⟩
 ·have h1:=Iu h1
  rw[Ah,HE (show ¬(v.size:Int)<=128 by rw[I9] at h1;split at h1<;>omega),Ih]
theorem VR(m:b9)(hm:FZ m):F0 15 [Af m] (di (if Ah (As m) m.start then 0 else 17)):=
 T7 m _ (by rw[hm.n.kind];rfl) (AhY m hm) (AhD m hm) (Aid m hm) (Nw m _ _ (by have:=hm.n.count;omega) (by rw[hm.n.kind];rfl) (fun r hr=>Akn m hm r hr) (xm m hm.n.kind (by have:=hm.n.age;omega)) (G1 m hm m.start) _ 0 rfl)
theorem T8(m:b9)(hm:BB m):F0 15 [Af m] (di 0):=by
 have:=VR m hm
 rwa[hm.start_ok,HV rfl] at this
theorem G2(m:b9)(hm:BB m)(v:bc):F0 25 [Af m,dV v] (db (Ah (As m) v)):=by
 exact sv Aey 14 [2,3] (.c (di 0)<|.c (dT (As m))<|.c (db (Ah (As m) v)) .r) (_/\_/\_/\Q (db (Ah (As m) v))) ⟨T8 m hm,xm m hm.kind (by have:=hm.age;omega),G1 m hm v,rfl⟩
noncomputable abbrev Aiz:=Tryz.f95
theorem Afi(a b:Int)(p:Int×Int):F0 145 [dT (.prod [.lab a,.lab b]),dV (pV p)] (dV (pV p)):=by
 refine Ps [.lab a,.lab b] 0 [lf p.1,lf p.2] [lf p.1,lf p.2] (by simp) rfl rfl (by show 3<=900;decide) (fun i t x x' ht hx hx'=>?_)
 match i,ht,hx,hx' with
 |0,ht,hx,hx'=>simp at ht hx hx';subst ht hx hx';exact KN _ _
 |1,ht,hx,hx'=>simp at ht hx hx';subst ht hx hx';exact KN _ _
 |i+2,ht,_,_=>simp at ht
theorem MC:∀ps:List (Int×Int),bc.sizes (ps.map pV)=3*I ps
 |[]=>rfl
 |p::ps=>by
  show(pV p).size+bc.sizes (ps.map pV)=_
  rw[MC ps,HF]
  show 3+_=_
  omega
theorem Mx(ps:List (Int×Int)):(bc.mk 0 (ps.map pV)).size=1+3*I ps:=by rw[bc.size_eq];show 1+bc.sizes (ps.map pV)=_;rw[MC]
theorem Gi(s:Int)(ps:List (Int×Int)):(dq s ps).size=3+3*I ps:=by
 rw[bc.size_eq]
 show 1+((lf s).size+((bc.mk 0 (ps.map pV)).size+0))=_
 rw[Mx]
 show 1+(1+_)=_
 omega
theorem Ah4(m:b9)(s:Int)(ps:List (Int×Int))(hl:I ps<=100):F0 145 [dT (As m),dV (dq s ps)] (dV (dq s (B9 ps))):=by
 have hb:F0 145 [dT (.bag (.prod [.lab (I m.ay),.lab (m.age+2)])),dV (.mk 0 (ps.map pV))] (dV (.mk 0 ((B9 ps).map pV))):=by
  by_cases e:ps=[]
  ·subst e
   rw[show B9 []=[] by simp[B9]]
   exact KN _ 0
  ·rw[←Sv]
   exact Ab8 _ 0 (ps.map pV) (by simpa using e) (by rw[Mx];omega) (fun x hx=>by
    obtain⟨p,_,rfl⟩:=Is.1 hx
    exact Afi _ _ p)
 refine Ps [.lab (I m.aw),.bag (.prod [.lab (I m.ay),.lab (m.age+2)])] 0 [lf s,.mk 0 (ps.map pV)] [lf s,.mk 0 ((B9 ps).map pV)] (by simp) rfl rfl (by show(dq s ps).size<=900;rw[Gi];omega) (fun i t x x' ht hx hx'=>?_)
 match i,ht,hx,hx' with
 |0,ht,hx,hx'=>simp at ht hx hx';subst ht hx hx';exact KN _ _
 |1,ht,hx,hx'=>simp at ht hx hx';subst ht hx hx';exact hb
 |i+2,ht,_,_=>simp at ht
theorem Rg(m:b9)(hm:Dj m)(s:Int)(ps:List (Int×Int))(hl:I ps<=40)(hv:Ah (As m) (dq s (B9 ps))=J):F0 95 [dT (As m),dV (dq s ps)] (.tup [dV (dq s (B9 ps)),di 0]):=by
 have h1:=xa m hm
 have h2:=Ah4 m s ps (by omega)
 have h3:=G1 m hm (dq s (B9 ps))
 rw[hv] at h3
 generalize As m=t at*
 have hz:=Gi s ps
 generalize dq s (B9 ps)=w at*
 generalize dq s ps=v at*
 exact sv Aiz 27 [2,3] (.c (di 0)<|.k<|.c (di (min (v.size:Int) (128+1)))<|.f<|.c (dV w)<|.c (db J)<|.k<|.r) (_/\_/\Y (min (↑(bc.size v):Int) (128+1)>128)=O/\_/\_/\Q (bl [dV w,di 0])) ⟨h1,GB _ v (HH _) 128 (by decide) (by decide),yq,h2,h3,rfl⟩
theorem AbE(m:b9)(hm:Dj m)(s:Int)(ps:List (Int×Int))(hl:I ps<=40)(hv:Ah (As m) (dq s (B9 ps))=O):F0 95 [dT (As m),dV (dq s ps)] (.tup [dV (.mk 0 []),di 5]):=by
 have h1:=xa m hm
 have h2:=Ah4 m s ps (by omega)
 have h3:=G1 m hm (dq s (B9 ps))
 rw[hv] at h3
 generalize As m=t at*
 have hz:=Gi s ps
 generalize dq s (B9 ps)=w at*
 generalize dq s ps=v at*
 exact sv Aiz 27 [2,3] (.c (di 0)<|.k<|.c (di (min (v.size:Int) (128+1)))<|.f<|.c (dV w)<|.c (db O)<|.k<|.r) (_/\_/\Y (min (↑(bc.size v):Int) (128+1)>128)=O/\_/\_/\Q (bl [dV (bc.mk 0 []),di 5])) ⟨h1,GB _ v (HH _) 128 (by decide) (by decide),yq,h2,h3,rfl⟩
noncomputable abbrev AiG:=Tryz.f96
theorem JW(m:b9)(hm:BB m):F0 96 [Af m] (di 0):=by
 have h:=T8 m hm
 have hk:=hm.kind
 exact sv AiG 12 [1] (.c (di 0)<|.k<|.f<|.r) (_/\(m.kind !=5)=O/\Q (di 0)) ⟨h,by rw[hk];rfl,rfl⟩
noncomputable abbrev Aiw:=Tryz.f93
theorem Xb(m:b9)(hm:BB m):F0 93 [Af m] (.tup [dT (As m),di 0]):=by
 have h:=T8 m hm
 have h2:=xm m hm.kind ⟨hm.age.1,by have:=hm.age.2;omega⟩
 generalize As m=t at*
 exact sv Aiw 13 [1] (.c (di 0)<|.k<|.c (dT t)<|.r) (_/\_/\Q (bl [dT t,di 0])) ⟨h,h2,rfl⟩
theorem Aff(m:b9)(ha:0<=m.age/\m.age<=1000)(ty:D)(hty:D.pls (Ax ty)=J)(s:Int)(ps:List (Int×Int))(hn:I ps<=1000)(hp:∀p∈ps,0<=p.2/\p.2<m.age+2){d:D}{σ':St}
  (fin:Rn PP EV 0 d σ' ([kl Eo [1,1,1,1,1,0,1,0,0],.blk 0,kc Eo [1,1,1,1,1,1]]++[]) (ba 76 [(2,.v (.ref (A1 m))),(4,.ptr 0 0),(7,.ptr 1 0),(9,.ptr 2 0),(10,di (I ps:Nat))]) (jw ty s (I ps) (fv (gI (I ps) (I ps)) (I ps)) (c6 ((e9 m ps).map pV)))) (k:Nat):∀i:Nat,I ps-i=k->i<=I ps->
  Rn PP EV 0 d σ' ([kl Eo [1,1,1,1,1,0,1,0,0],.blk 0,kc Eo [1,1,1,1,1,1]]++[]) (ba 76 [(2,.v (.ref (A1 m))),(4,.ptr 0 0),(7,.ptr 1 0),(9,.ptr 2 0),(10,di (i:Nat))]) (jw ty s (I ps) (fv (gI (I ps) i) (I ps)) (c6 ((ps.drop i).map pV)++c6 ((e9 m (ps.take i)).map pV))):=by
 induction k with
 |zero=>
  intro i hk hi
  have e:i=I ps:=by omega
  subst e
  rw[List.drop_length,take_length]
  exact fin
 |succ k ih=>
  intro i hk hi
  obtain⟨p,hx⟩:=yk (show i<I ps by omega)
  have hd:ps.drop i=p::ps.drop (i+1):=by rw[HP (show i<I ps by omega),(HD.1 hx).2]
  have ht:e9 m (ps.take (i+1))=e9 m (ps.take i)++[(p.1,D9 m p.2)]:=by rw[IM,hx];simp[e9]
  have hih:=ih (i+1) (by omega) (by omega)
  have eQ:c6 ((ps.drop (i+1)).map pV)++c6 ((e9 m (ps.take (i+1))).map pV)=(c6 ((ps.drop (i+1)).map pV)++c6 ((e9 m (ps.take i)).map pV))++[G (r9 (p.1,D9 m p.2))]:=by
   rw[ht,IQ,show ∀a b:List bc,c6 (a++b)=c6 a++c6 b from fun a b=>by simp[c6], ←IG];rfl
  rw[eQ] at hih
  rw[hd]
  refine Afe m ha ty hty s (I ps) i (by omega) hn p (hp p (HG hx)) (c6 ((ps.drop (i+1)).map pV)++c6 ((e9 m (ps.take i)).map pV)) (by simp[c6,e9];omega) (fun j cs hj=>?_) hih
  rw[show c6 ((ps.drop (i+1)).map pV)++c6 ((e9 m (ps.take i)).map pV)=c6 ((ps.drop (i+1)).map pV++(e9 m (ps.take i)).map pV) by simp[c6]] at hj
  obtain⟨y,_,rfl⟩:=JO hj
  exact Ci y
noncomputable abbrev p8:List KI:=[kl Eo [1,1,1,1,1,0,1,0,0],.blk 0,kc Eo [1,1,1,1,1,1]]
theorem Ahq(m:b9)(t:cy)(s:Int)(T:List bc)(hT:∀x∈T,su x)(w:bc)(hs:F0 95 [dT t,dV (.mk 0 [lf s,.mk 0 T])] (.tup [dV w,di 0])):
  Rn PP EV 0 (.tup [dV w,di 0]) bd (p8++[]) (ba 76 [(2,.v (.ref (A1 m))),(4,.ptr 0 0),(7,.ptr 1 0),(9,.ptr 2 0),(10,di (I T:Nat))]) (jw (dT t) s (I T) (fv (gI (I T) (I T)) (I T)) (c6 T)):=by
 obtain⟨Z,hcv⟩:=AfK (dT t) s T (fun x hx=>(hT x hx).1) (fun x hx=>(hT x hx).2) (ba 76 [(2,.v (.ref (A1 m))),(4,.ptr 0 0),(7,.ptr 1 0),(9,.ptr 2 0),(10,di (I T:Nat))])
 refine L5 hcv ?_
 have hgo:Rn PP EV 0 (.tup [dV w,di 0]) bd (p8++[]) (ba 76 [(2,.v (.ref (A1 m))),(4,.ptr 0 0),(7,.ptr 1 0),(9,.ptr 2 0),(10,di (I T:Nat))]) ⟨[G [di 0,.v .nils],G (Ax (dT t)),G [di 0,cx [lf s,.mk 0 T]]],[]⟩:=by
  exact lv 76 [2,3] (.x (Ac (.mk 0 T))<|.f<|.c (.tup [dV w,di 0])<|.r) (iz 0<=1/\G (eV (bc.mk 0 T))=G (Ac (bc.mk 0 T))/\Y ((I T:Int)<(I (U eV (bc.az (bc.mk 0 T))):Int))=O/\_/\bl [bt (ab [vi w.n,ai (cc w.az)]),di 0]=bl [dV w,di 0]) ⟨by decide,HX G (AE _),HE (by rw[H9];show ¬((I T:Int)<(I T:Int));omega),hs,rfl⟩
 refine Ce (H':=[G [di 0,.v .nils],G (Ax (dT t)),G [di 0,cx [lf s,.mk 0 T]]]) (e':=ba 76 [(2,.v (.ref (A1 m))),(4,.ptr 0 0),(7,.ptr 1 0),(9,.ptr 2 0),(10,di (I T:Nat))]) (m:=0) (fun _ _ h=>h.2) id (Ik _) (fun i _=>rfl) (fun i j _ _ h=>h) (fun i cs hi=>?_) (by simp[ba,D.okNs,D.okN]) (by simp[ba,D.rens,D.ren]) hgo
 match i,hi with
 |0,hi=>simp at hi;subst hi;exact⟨rfl,by simp[D.okNs,D.okN]⟩
 |1,hi=>
  have hi:G (G (Ax (dT t)))=G (G cs):=hi
  simp only[Ii] at hi
  subst hi
  have hp:D.pls (Ax (dT t))=J:=rfl
  exact⟨by rw[AC hp];rfl,AS hp⟩
 |2,hi=>
  have hi:G (G [di 0,cx [lf s,.mk 0 T]])=G (G cs):=hi
  simp only[Ii] at hi
  subst hi
  exact⟨rfl,rfl⟩
 |i+3,hi=>simp at hi
theorem U6(m:b9)(hm:BB m)(s:Int)(ps:List (Int×Int))(hw:nc m s ps)(hne:ps≠ [])(hv:Ah (As m) (dq s ps)=J)(hv2:Ah (As m) (dq s (B9 (e9 m ps)))=J):F0 91 [Af m,dV (dq s ps)] (.tup [dV (dq s (B9 (e9 m ps))),di 0]):=by
 have hlen:=hw.len
 have ha:0<=m.age/\m.age<=1000:=⟨hm.age.1,by have:=hm.age.2;omega⟩
 have h1:=JW m hm
 have h2:=G2 m hm (dq s ps)
 rw[hv] at h2
 have h3:=Xb m hm
 have hol:I (e9 m ps)=I ps:=by simp[e9]
 have h4:=Rg m hm.n s (e9 m ps) (by omega) hv2
 have hcp:=AkZ (lf s) (.mk 0 (ps.map pV)) rfl rfl (by rw[Mx];omega) (fun y hy=>by
  obtain⟨p,_,rfl⟩:=Is.1 hy
  exact⟨rfl,rfl⟩) (by simpa[bc.az] using hne) (dq s ps) rfl rfl
 have hkl:(bc.mk 0 (ps.map pV)).az.length=I ps:=by show(ps.map pV).length=_;simp
 rw[hkl] at hcp
 have hend:=Ahq m (As m) s ((e9 m ps).map pV) (fun x hx=>by
  obtain⟨p,_,rfl⟩:=Is.1 hx
  exact⟨rfl,rfl⟩) _ h4
 rw[H9,hol] at hend
 have hlp:=Aff m ha (dT (As m)) rfl s ps (by omega) (fun p hp=>(hw.tok p hp).2) hend _ 0 rfl (Ik _)
 rw[Jk,show e9 m (ps.take 0)=[] by rw[take_zero];rfl,show c6 (([]:List (Int×Int)).map pV)=[] from rfl,Iz (c6 _)] at hlp
 obtain⟨n,hn⟩:∃n,I ps=n:=⟨_,rfl⟩
 have hO:I (c6 (ps.map pV))=n:=by rw[G6,H9,hn]
 have hOget:=fun(i:Nat) (cs:List D) (h:(c6 (ps.map pV))[i]?=G (G cs))=>(JO h).elim fun y hy=>(show D.pls cs=J by rw[hy.2];exact Ci y)
 have hOren:=fun ρ τ=>S8 ρ τ (ps.map pV)
 have hOok:=fun n=>O1 (n:=n) (ps.map pV)
 rw[hn] at hcp hlp
 change Aa PP _ _ _ (.dagg [di 0,.arr 0 0 2]) ⟨G (FA (lf s) 1 n)::G (d9 2 n)::c6 (ps.map pV),[]⟩ at hcp
 clear hend h4 hv hv2
 generalize dq s (B9 (e9 m ps))=w at*
 generalize dq s ps=c at*
 generalize c6 (ps.map pV)=Q at*
 have hty:D.pls (Ax (dT (As m)))=J:=rfl
 have hcall:∀(o:yy) (cl:Call) (fo:x8),o.op=.call cl->cl.callee=.value fo->Aj PP o [.v (.fn 101 [] []),dV c] ⟨[G [di 0,.v .nils],G (Ax (dT (As m)))],[]⟩ (.dagg [di 0,.arr 2 0 2]) ⟨G [di 0,.v .nils]::G (Ax (dT (As m)))::(G (FA (lf s) 3 n)::G (d9 4 n)::Q),[]⟩:=fun o cl fo ho hc=>by
  have h:=BX (σ:=⟨[G [di 0,.v .nils],G (Ax (dT (As m)))],[]⟩) ho hc (fD:=.v (.fn 101 [] [])) rfl (ds:=[dV c]) [] id hcp (.cons (.ren (dc:=dV c) rfl) .nil) .nil (by simp) rfl (by simp) (by simp) (by simp[D.okN,D.okNs]) (by
   show cm _ [] (G (FA (lf s) 1 n)::G (d9 2 n)::Q)=J
   simp only[cm,hOok,Hx (n:=I (G (FA (lf s) 1 n)::G (d9 2 n)::Q)) (ts:=[]) 2 n (by simp[hO];omega),Bool.and_true]
   simp[D.okNs,D.okN])
  have e1:D7 (df 2 []) id (G (FA (lf s) 1 n)::G (d9 2 n)::Q)=G (FA (lf s) 3 n)::G (d9 4 n)::Q:=by
   show G (D.rens (df 2 []) id (FA (lf s) 1 n))::G (D.rens (df 2 []) id (d9 2 n))::D7 (df 2 []) id Q=_
   rw[hOren,Gj 2 4 _ (fun i _=>by simp[df];omega)]
   simp[D.rens,D.ren,df]
  have h:Aj PP o [.v (.fn 101 [] []),dV c] ⟨[G [di 0,.v .nils],G (Ax (dT (As m)))],[]⟩ ((bj [di 0,.arr 0 0 2]).ren (df 2 []) id) ⟨G [di 0,.v .nils]::G (Ax (dT (As m)))::D7 (df 2 []) id (G (FA (lf s) 1 n)::G (d9 2 n)::Q),[]⟩:=h
  rw[e1] at h
  exact h
 have hgo:Rn PP EV 0 (.tup [dV w,di 0]) bd (p8++[]) (ba 76 [(2,.v (.ref (A1 m))),(4,.ptr 0 0),(7,.ptr 1 0),(9,.ptr (n+4) 0),(10,di (0:Nat))]) ⟨G [di 0,.v .nils]::G (Ax (dT (As m)))::((G (FA (lf s) 3 n)::G (d9 4 n)::Q)++[G [di 0,.arr 2 0 2]]),[]⟩:=by
  have hH:(jw (dT (As m)) s n (fv (gI n 0) n) Q).H.length=n+5:=by simp[hO]
  refine Ce (H':=(jw (dT (As m)) s n (fv (gI n 0) n) Q).H) (e':=ba 76 [(2,.v (.ref (A1 m))),(4,.ptr 0 0),(7,.ptr 1 0),(9,.ptr 2 0),(10,di (0:Nat))]) (m:=0) (fun _ _ h=>h.2) (fun i=>if i<2 then i else if i=2 then n+4 else i-1) (Ik _) (fun i hi=>by omega) (fun i j hi hj h=>?_) (fun i cs hi=>?_) (by rw[hH];simp[ba,D.okNs,D.okN]) (by simp[ba,D.rens,D.ren]) hlp
  ·have h:(if i<2 then i else if i=2 then n+4 else i-1)=(if j<2 then j else if j=2 then n+4 else j-1):=h
   rw[hH] at hi hj
   split at h<;>split at h<;>(try split at h)<;>(try split at h)<;>omega
  ·rw[hH]
   match i,hi with
   |0,hi=>simp at hi;subst hi;exact⟨rfl,by simp[D.okNs,D.okN]⟩
   |1,hi=>
    have hi:G (G (Ax (dT (As m))))=G (G cs):=hi
    simp only[Ii] at hi
    subst hi
    exact⟨by rw[AC hty];rfl,AS hty⟩
   |2,hi=>
    simp at hi;subst hi
    refine⟨?_,by simp[D.okNs,D.okN]⟩
    show((G (FA (lf s) 3 n)::G (d9 4 n)::Q)++[G [di 0,.arr 2 0 2]])[n+2]?=_
    rw[HT (by simp[hO])]
    simp[hO,D.rens,D.ren]
   |3,hi=>
    have hi:G (G [di s,cx [],di 0,.arr 4 0 n])=G (G cs):=hi
    simp only[Ii] at hi
    subst hi
    exact⟨rfl,by simp[D.okNs,D.okN]⟩
   |4,hi=>
    have hi:G (G (fv (gI n 0) n))=G (G cs):=hi
    simp only[Ii] at hi
    subst hi
    refine⟨?_,Ael n fun j hj=>Aip (by omega) hj⟩
    rw[So (g':=fun j=>4+j) n fun j hj=>?_]
    ·rfl
    ·show(if gI n 0 j<2 then gI n 0 j else if gI n 0 j=2 then n+4 else gI n 0 j-1)=4+j
     have e2:gI n 0 j=5+j:=by unfold gI;rw[HR (by omega)];omega
     rw[e2,HR (by omega),HR (by omega)];omega
   |i+5,hi=>
    have hi:Q[i]?=G (G cs):=hi
    have hlt:=(HD.1 hi).1
    have hp:=hOget i cs hi
    refine⟨?_,AS hp⟩
    rw[AC hp,HR (by omega),HR (by omega)]
    show(Q++[G [di 0,.arr 2 0 2]])[i]?=_
    rw[HW hlt]
    exact hi
 have hHs:I (G (FA (lf s) 3 n)::G (d9 4 n)::Q)=n+2:=by simp[hO]
 generalize G (FA (lf s) 3 n)::G (d9 4 n)::Q=Hs at*
 refine sv EV 76 [2,3] (.c (di 0)<|.k<|.c (db J)<|.k<|.c (.tup [dT (As m),di 0])<|.h (.oc (.dagg [di 0,.arr 2 0 2]) ⟨G [di 0,.v .nils]::G (Ax (dT (As m)))::Hs,[]⟩)<|.h (.o (.ptr (n+4) 0) ⟨G [di 0,.v .nils]::G (Ax (dT (As m)))::(Hs++[G [di 0,.v .nils]]),[]⟩)<|.h (.o .undef ⟨G [di 0,.v .nils]::G (Ax (dT (As m)))::(Hs++[G [di 0,.arr 2 0 2]]),[]⟩)<|.l [ke 2,ke 4,ke 7,ke 9,ch 10 (di (0:Nat))]) (_/\_/\_/\_/\Aj PP (Oper.mk (G 9) (Op.alloc 31) 0 "ref.go:83" #[] none) [] (bi (G [di 0,dn]::G [di (cy.kd (As m)),di (cy.sz (As m)),bt (cz (cy.rk (As m))),bt (ai [eT (cy.lab (I m.aw:Int)),eT (cy.bag (cy.prod [cy.lab (I m.ay:Int),cy.lab (m.age+2)]))])]::Hs) []) (bq (n+4) 0) (bi (G [di 0,dn]::G [di (cy.kd (As m)),di (cy.sz (As m)),bt (cz (cy.rk (As m))),bt (ai [eT (cy.lab (I m.aw:Int)),eT (cy.bag (cy.prod [cy.lab (I m.ay:Int),cy.lab (m.age+2)]))])]::(Hs++[G [di 0,dn]])) [])/\Aj PP (Oper.mk none (Op.store 31 (Operand.tmp 9) (Operand.tmp 30)) 0 "ref.go:83" #[Edge.mk 2 Ground.data,Edge.mk 1 Ground.data,Edge.mk 1 Ground.chain,Edge.mk 0 Ground.phase,Edge.mk 1 Ground.phase,Edge.mk 2 Ground.phase] none) [bq (n+4) 0,bj l9] (bi (G [di 0,dn]::G [di (cy.kd (As m)),di (cy.sz (As m)),bt (cz (cy.rk (As m))),bt (ai [eT (cy.lab (I m.aw:Int)),eT (cy.bag (cy.prod [cy.lab (I m.ay:Int),cy.lab (m.age+2)]))])]::(Hs++[G [di 0,dn]])) []) bk (bi (G [di 0,dn]::G [di (cy.kd (As m)),di (cy.sz (As m)),bt (cz (cy.rk (As m))),bt (ai [eT (cy.lab (I m.aw:Int)),eT (cy.bag (cy.prod [cy.lab (I m.ay:Int),cy.lab (m.age+2)]))])]::(Hs++[G l9])) [])/\di 0=di (↑0:Int)/\_) ⟨h1,h2,h3,hcall,?_,?_,rfl,iK hgo⟩
 ·have hN:n+4=I (G [di 0,.v .nils]::G (Ax (dT (As m)))::Hs):=by simp[hHs]
  rw[hN]
  exact LQ rfl (xs:=[vi 0,.nils]) rfl
 ·have h:=KX (P:=PP) (o:=Oper.mk none (Op.store 31 (Operand.tmp 9) (Operand.tmp 30)) 0 "ref.go:83" #[Edge.mk 2 Ground.data,Edge.mk 1 Ground.data,Edge.mk 1 Ground.chain,Edge.mk 0 Ground.phase,Edge.mk 1 Ground.phase,Edge.mk 2 Ground.phase] none) (σ:=⟨G [di 0,.v .nils]::G (Ax (dT (As m)))::(Hs++[G [di 0,.v .nils]]),[]⟩) (d:=.dagg [di 0,.arr 2 0 2]) rfl rfl (n:=2) (b:=true) rfl rfl (q:=n+4) (off:=0) (cs:=[di 0,.v .nils]) (by
   show(Hs++[G [di 0,.v .nils]])[n+2]?=_
   rw[HT (by omega),hHs,Nat.sub_self];rfl) (by decide)
  have e:(G [di 0,.v .nils]::G (Ax (dT (As m)))::(Hs++[G [di 0,.v .nils]])).set (n+4) (G [di 0,.arr 2 0 2])=G [di 0,.v .nils]::G (Ax (dT (As m)))::(Hs++[G [di 0,.arr 2 0 2]]):=by
   show G [di 0,.v .nils]::G (Ax (dT (As m)))::(Hs++[G [di 0,.v .nils]]).set (n+2) (G [di 0,.arr 2 0 2])=_
   rw[←hHs,X7 Hs [] _ _]
  have h:Aj PP _ [.ptr (n+4) 0,.dagg [di 0,.arr 2 0 2]] ⟨G [di 0,.v .nils]::G (Ax (dT (As m)))::(Hs++[G [di 0,.v .nils]]),[]⟩ .undef ⟨(G [di 0,.v .nils]::G (Ax (dT (As m)))::(Hs++[G [di 0,.v .nils]])).set (n+4) (G [di 0,.arr 2 0 2]),[]⟩:=h
  rw[e] at h
  exact h
theorem U5(m:b9)(hm:BB m)(s:Int)(hv:Ah (As m) (dq s [])=J):F0 91 [Af m,dV (dq s [])] (.tup [dV (dq s []),di 0]):=by
 have h1:=JW m hm
 have h2:=G2 m hm (dq s [])
 rw[hv] at h2
 have h3:=Xb m hm
 have h4:=Rg m hm.n s [] (by decide) (by rw[show B9 []=[] by simp[B9]];exact hv)
 rw[show B9 []=[] by simp[B9]] at h4
 have hcp:=ZI (dq s []) (by simp[dq,bc.az]) (by rw[Gi];decide)
 have hcall:∀(o:yy) (cl:Call) (fo:x8),o.op=.call cl->cl.callee=.value fo->Aj PP o [.v (.fn 101 [] []),dV (dq s [])] ⟨[G [di 0,.v .nils],G (Ax (dT (As m)))],[]⟩ (.dagg [di 0,.arr 2 0 2]) ⟨[G [di 0,.v .nils],G (Ax (dT (As m))),G [di s,cx [],di 0,cx []]],[]⟩:=fun o cl fo ho hc=>Qv (x:=dq s []) (H:=[G [di 0,.v .nils],G (Ax (dT (As m)))]) rfl rfl hcp ho hc
 have hgo:Rn PP EV 0 (.tup [dV (dq s []),di 0]) bd (p8++[]) (ba 76 [(2,.v (.ref (A1 m))),(4,.ptr 0 0),(7,.ptr 1 0),(9,.ptr 3 0),(10,di (0:Nat))]) ⟨[G [di 0,.v .nils],G (Ax (dT (As m))),G [di s,cx [],di 0,cx []],G [di 0,.arr 2 0 2]],[]⟩:=by
  have sz2:∀l:List bc,∀v∈l.map eV,v.size=2:=fun l v hv=>by
   obtain⟨y,_,rfl⟩:=Is.1 hv
   rw[AE];rfl
  have e3:Ab ([lf s,.mk 0 []].map eV)=[di s,cx [],di 0,cx []]:=by rw[A8,A8];rfl
  have hcv:=fun e=>BP (σ:=⟨[G [di 0,.v .nils],G (Ax (dT (As m))),G [di s,cx [],di 0,cx []],G [di 0,.arr 2 0 2]],[]⟩) (p:=3) (q:=2) (i:=1) (sz:=2) (cs:=[di 0,.arr 2 0 2]) (xs:=[lf s,.mk 0 []].map eV) (by decide) rfl (by rw[e3];rfl) (by decide) rfl (sz2 _) e
  refine L5 (hcv _) ?_
  show Rn PP EV 0 (.tup [dV (dq s []),di 0]) bd (p8++[]) (ba 76 [(2,.v (.ref (A1 m))),(4,.ptr 0 0),(7,.ptr 1 0),(9,.ptr 3 0),(10,di (0:Nat))]) ⟨[G [di 0,.v .nils],G (Ax (dT (As m))),none,G [di 0,cx [lf s,.mk 0 []]]],[]⟩
  clear hcv hcall hcp
  generalize As m=t at*
  exact lv 76 [2,3] (.x (Ac (.mk 0 []))<|.k<|.c (.tup [dV (dq s []),di 0])<|.r) (iz 0<=1/\G (eV (bc.mk 0 []))=G (Ac (bc.mk 0 []))/\_/\Q (bl [dV (dq s []),di 0])) ⟨by decide,HX G (AE _),h4,rfl⟩
 generalize As m=t at*
 exact sv EV 76 [2,3] (.c (di 0)<|.k<|.c (db J)<|.k<|.c (.tup [dT t,di 0])<|.h (.oc (.dagg [di 0,.arr 2 0 2]) ⟨[G [di 0,.v .nils],G (Ax (dT t)),G [di s,cx [],di 0,cx []]],[]⟩)<|.l [ke 2,ke 4,ke 7,ke 9,ch 10 (di (0:Nat))]) (_/\_/\_/\_/\Q (di 0)/\_) ⟨h1,h2,h3,hcall,rfl,iK hgo⟩
theorem U4(m:b9)(hm:BB m)(c:bc)(hv:Ah (As m) c=J):F0 91 [Af m,dV c] (.tup [dV (ln m c),di 0]):=by
 obtain⟨s,ps,rfl,hw⟩:=NZ hv
 obtain⟨e1,hw2⟩:=Xn ⟨hm.age.1,by have:=hm.age.2;omega⟩ hw
 rw[e1]
 by_cases hne:ps=[]
 ·subst hne
  rw[show B9 (e9 m [])=[] by simp[B9,e9]]
  exact U5 m hm s hv
 ·exact U6 m hm s ps hw hne hv (Sm hw2)
noncomputable abbrev E4:=Tryz.f97
noncomputable def ES:=yl E4
abbrev vP(l:List (Int×Int)):V:=dt (l.map pV)
abbrev jl(L:List (List (Int×Int))):V:=.list (L.map vP)
theorem Xl(ys:List V):F0 97 [.v (.list ys),.v (AA [])] (.v (.list [.list ys])):=by
 refine sv E4 73 [] (.k<|.r) (Q (bt (ai [ai ys]))) ?_
 rfl
abbrev Rd(xs:List V):St:=⟨[],[(1,1,xs)]⟩
noncomputable abbrev p9:List KI:=[kl ES [1,1,1,0,1,0,0],.blk 0,kc ES [1,1,1,1]]
theorem Rh(l:List (Int×Int)):∀x∈ (l.map pV).map eV,V.size x=2:=fun v hv=>by
 obtain⟨y,_,rfl⟩:=Is.1 hv
 rw[AE];rfl
noncomputable abbrev f0:=fun a₀=>(U eV (U pV a₀))
theorem Abn(tk:Tk)(l:List (Int×Int))(hl:I l<=100)(k:Nat)(p:Int×Int)(hp:l[k]?=G p)(xs:List V)(hxs:I xs<=100)(hm:ik tk l k=J)(d:D)
  (next:Rn PP E4 0 d bd (p9++[]) (ba 73 [(0,.v (vP l)),(1,.v (AA [tk])),(5,.acc 1 (xs++[vP (l.take k++l.drop (k+1))])),(6,di (k+1:Nat))]) (Rd (xs++[vP (l.take k++l.drop (k+1))]))):
  Rn PP E4 0 d bd (p9++[]) (ba 73 [(0,.v (vP l)),(1,.v (AA [tk])),(5,.acc 1 xs),(6,di k)]) (Rd xs):=by
 have hk:=(HD.1 hp).1
 have hlen:I ((l.map pV).map eV)=I l:=by simp
 have hpx:((l.map pV).map eV)[Z (k:Int)]?=G (Ac (pV p)):=An (by rw[Ir,hp];rfl)
 have hsz:=Rh l
 have hcut:W 0 (take (Z (k:Int)) ((l.map pV).map eV))++W (Z ((k+1:Nat):Int)) (take (I ((l.map pV).map eV)) ((l.map pV).map eV))=((l.take k++l.drop (k+1)).map pV).map eV:=by
  rw[Jk,take_length,II,II,IQ,IQ,map_take,map_take,map_drop,map_drop]
 have hc:=Xl (((l.take k++l.drop (k+1)).map pV).map eV)
 have hw1:yu .i64 ((k:Int)+1)=((k+1:Nat):Int):=by rw[Al];omega
 unfold ik at hm
 rw[hp] at hm
 simp only[HB] at hm
 obtain⟨m1,m2,m3⟩:=hm
 generalize hR:vP (l.take k++l.drop (k+1))=R at next
 refine lv 73 [] (.t<|.x (Ac (pV p))<|.x (Ac (lf p.2))<|.x (Ac (pV p))<|.x (Ac (lf p.1))<|.x (dx tk)<|.t<|.x (dx tk)<|.t<|.x (dx tk)<|.t<|.a 2<|.w<|.w<|.c (.v (.list [R]))<|.w<|.ls (me k) (Rd (xs++[R]))) (Y ((k:Int)<(I (f0 l):Int))=J/\0<=(k:Int)/\(f0 l)[Z (k:Int)]?=G (Ac (pV p))/\iz 0<=1/\G (eV (fz p.snd))=G (Ac (lf p.snd))/\0<=(k:Int)/\(f0 l)[Z (k:Int)]?=G (Ac (pV p))/\iz 0<=0/\G (eV (fz p.fst))=G (Ac (lf p.fst))/\iz 0<=0/\Q (G (dx tk))/\(bc.n (lf p.fst)==tk.place)=J/\iz 0<=0/\Q (G (dx tk))/\Y (bc.n (lf p.snd)>=tk.low)=J/\iz 0<=0/\Q (G (dx tk))/\Y (bc.n (lf p.snd)<=tk.high)=J/\(∀(x:V),x∈U eV (U pV l)->V.size x=2)/\0<=(fun x=>x.snd) (ec k)/\(fun x=>x.snd) (ec k)<=(I (f0 l):Int)/\Ao (I (W 0 (take (Z ((fun x=>x.snd) (ec k))) (f0 l)))) 32/\(∀(y:V),y∈W 0 (take (Z ((fun x=>x.snd) (ec k))) (f0 l))->V.size y=2)/\(∀(x:V),x∈U eV (U pV l)->V.size x=2)/\0<=(fun x=>x.snd) (yt,yu yt ((k:Int)+1))/\(fun x=>x.snd) (yt,yu yt ((k:Int)+1))<=(I (f0 l):Int)/\Q (W 0 (take (Z ((fun x=>x.snd) (ec k))) (f0 l)))/\Ao (I (W 0 (take (Z ((fun x=>x.snd) (ec k))) (f0 l)))+I (W (Z ((fun x=>x.snd) (yt,yu yt ((k:Int)+1)))) (take (I (f0 l)) (f0 l)))) 32/\(∀(y:V),y∈W (Z ((fun x=>x.snd) (yt,yu yt ((k:Int)+1)))) (take (I (f0 l)) (f0 l))->V.size y=2)/\(∀(x:V),x∈ [dx tk]->V.size x=3)/\0<=(1:Int)/\(1:Int)<=(I (U dx [tk]):Int)/\F0 97 [bt (ai (W 0 (take (Z ((fun x=>x.snd) (ec k))) (f0 l))++W (Z ((fun x=>x.snd) (yt,yu yt ((k:Int)+1)))) (take (I (f0 l)) (f0 l)))),bt (ai [])] (bt (ai [R]))/\Q xs/\Ao (I xs+I (R::nV)) 24/\(∀(y:V),y∈ [R]->V.size y=1)/\di (yu yt ((k:Int)+1))=di (↑(k+1):Int)/\Q [(1,1,xs++R::nV)]/\I0 E4 0 d bd [kl ES gi,bh 0,kc ES [1,1,1,1]] (ba 73 [(0,bt (vP l)),(1,bt (AA [tk])),(5,br 1 (xs++[R])),(6,di (↑(k+1):Int))]) (Rd (xs++[R]))) ?_
 rw[hw1]
 rw[hcut]
 have l1:I (W 0 (take (Z (k:Int)) ((l.map pV).map eV)))<=100:=by simp only[IF,Ig,hlen];omega
 have l2:I (W (Z ((k+1:Nat):Int)) (take (I ((l.map pV).map eV)) ((l.map pV).map eV)))<=100:=by simp only[IF,Ig,hlen];omega
 refine⟨HC (by rw[hlen];omega),by omega,hpx,by decide,HX G (AE _),by omega,hpx,by decide,HX G (AE _),by decide,rfl,m1,by decide,rfl,m2,by decide,rfl,m3,hsz,by show(0:Int)<=(k:Int);omega,by show(k:Int)<=_;rw[hlen];omega,⟨I6 (Nat.mul_le_mul_right 32 l1) (by decide),I6 l1 (by decide)⟩,fun y hy=>hsz y (IR (I1 hy)),hsz,by show(0:Int)<=((k+1:Nat):Int);omega,by show((k+1:Nat):Int)<=_;rw[hlen];omega,rfl,⟨I6 (Nat.mul_le_mul_right 32 (Nat.add_le_add l1 l2)) (by decide),I6 (Nat.add_le_add l1 l2) (by decide)⟩,fun y hy=>hsz y (IR (I1 hy)),fun x hx=>by rw[HQ.1 hx];rfl,by decide,Ib _,?_,rfl,⟨by show(_+1)*24<=_;omega,by show _+1<=_;omega⟩,fun y hy=>by rw[HQ.1 hy, ←hR];rfl,rfl,rfl,⟨next⟩⟩
 rw[←hR]
 exact hc
theorem Abp(tk:Tk)(l:List (Int×Int))(hl:I l<=100)(k:Nat)(p:Int×Int)(hp:l[k]?=G p)(xs:List V)(hm:ik tk l k=O)(d:D)
  (next:Rn PP E4 0 d bd (p9++[]) (ba 73 [(0,.v (vP l)),(1,.v (AA [tk])),(5,.acc 1 xs),(6,di (k+1:Nat))]) (Rd xs)):
  Rn PP E4 0 d bd (p9++[]) (ba 73 [(0,.v (vP l)),(1,.v (AA [tk])),(5,.acc 1 xs),(6,di k)]) (Rd xs):=by
 have hk:=(HD.1 hp).1
 have hlen:I ((l.map pV).map eV)=I l:=by simp
 have hpx:((l.map pV).map eV)[Z (k:Int)]?=G (Ac (pV p)):=An (by rw[Ir,hp];rfl)
 unfold ik at hm
 rw[hp] at hm
 simp only at hm
 by_cases m1:(p.1==tk.place)=J
 ·rw[m1,Ij] at hm
  by_cases m2:p.2>=tk.low
  ·rw[HC m2,Ij] at hm
   exact lv 73 [] (.t<|.x (Ac (pV p))<|.x (Ac (lf p.2))<|.x (Ac (pV p))<|.x (Ac (lf p.1))<|.x (dx tk)<|.t<|.x (dx tk)<|.t<|.x (dx tk)<|.f<|.ls (me k) (Rd xs)) (Y ((k:Int)<(I (f0 l):Int))=J/\0<=(k:Int)/\_/\iz 0<=1/\G (eV (fz p.snd))=G (Ac (lf p.snd))/\0<=(k:Int)/\_/\iz 0<=0/\G (eV (fz p.fst))=G (Ac (lf p.fst))/\iz 0<=0/\Q (G (dx tk))/\_/\iz 0<=0/\Q (G (dx tk))/\Y (bc.n (lf p.snd)>=tk.low)=J/\iz 0<=0/\Q (G (dx tk))/\_/\di (yu yt ((k:Int)+1))=di (↑(k+1):Int)/\Q [(1,1,xs)]/\_) ⟨HC (by rw[hlen];omega),by omega,hpx,by decide,HX G (AE _),by omega,hpx,by decide,HX G (AE _),by decide,rfl,m1,by decide,rfl,HC m2,by decide,rfl,hm,Ae,rfl,iK next⟩
  ·exact lv 73 [] (.t<|.x (Ac (pV p))<|.x (Ac (lf p.2))<|.x (Ac (pV p))<|.x (Ac (lf p.1))<|.x (dx tk)<|.t<|.x (dx tk)<|.f<|.k<|.ls (me k) (Rd xs)) (Y ((k:Int)<(I (f0 l):Int))=J/\0<=(k:Int)/\_/\iz 0<=1/\G (eV (fz p.snd))=G (Ac (lf p.snd))/\0<=(k:Int)/\_/\iz 0<=0/\G (eV (fz p.fst))=G (Ac (lf p.fst))/\iz 0<=0/\Q (G (dx tk))/\_/\iz 0<=0/\Q (G (dx tk))/\Y (bc.n (lf p.snd)>=tk.low)=O/\di (yu yt ((k:Int)+1))=di (↑(k+1):Int)/\Q [(1,1,xs)]/\_) ⟨HC (by rw[hlen];omega),by omega,hpx,by decide,HX G (AE _),by omega,hpx,by decide,HX G (AE _),by decide,rfl,m1,by decide,rfl,HE m2,Ae,rfl,iK next⟩
 ·exact lv 73 [] (.t<|.x (Ac (pV p))<|.x (Ac (lf p.2))<|.x (Ac (pV p))<|.x (Ac (lf p.1))<|.x (dx tk)<|.f<|.k<|.k<|.ls (me k) (Rd xs)) (Y ((k:Int)<(I (f0 l):Int))=J/\0<=(k:Int)/\_/\iz 0<=1/\G (eV (fz p.snd))=G (Ac (lf p.snd))/\0<=(k:Int)/\_/\iz 0<=0/\G (eV (fz p.fst))=G (Ac (lf p.fst))/\iz 0<=0/\Q (G (dx tk))/\(bc.n (lf p.fst)==tk.place)=O/\di (yu yt ((k:Int)+1))=di (↑(k+1):Int)/\Q [(1,1,xs)]/\_) ⟨HC (by rw[hlen];omega),by omega,hpx,by decide,HX G (AE _),by omega,hpx,by decide,HX G (AE _),by decide,rfl,HM m1,Ae,rfl,iK next⟩
theorem AdD{tk:Tk}{l:List (Int×Int)}{k:Nat}(h:ik tk l k=J):Fk tk l (k+1)=Fk tk l k++[l.take k++l.drop (k+1)]:=by
 simp[Fk,range_succ,List.filter_append,h]
theorem Agc{tk:Tk}{l:List (Int×Int)}{k:Nat}(h:ik tk l k=O):Fk tk l (k+1)=Fk tk l k:=by
 simp[Fk,range_succ,List.filter_append,h]
theorem T4(tk:Tk)(l:List (Int×Int))(k:Nat):I (Fk tk l k)<=k:=by
 rw[Fk,H9]
 exact I6 (List.length_filter_le _ _) (by rw[List.length_range];exact HH _)
theorem Abq(tk:Tk)(l:List (Int×Int))(hl:I l<=100)(n:Nat):∀k:Nat,I l-k=n->k<=I l->
  Rn PP E4 0 (.v (jl (Fk tk l (I l)))) bd (p9++[]) (ba 73 [(0,.v (vP l)),(1,.v (AA [tk])),(5,.acc 1 ((Fk tk l k).map vP)),(6,di k)]) (Rd ((Fk tk l k).map vP)):=by
 have hlen:I ((l.map pV).map eV)=I l:=by simp
 induction n with
 |zero=>
  intro k hn hk
  have e:k=I l:=by omega
  subst e
  obtain⟨xs,hxs⟩:∃xs,xs=(Fk tk l (I l)).map vP:=⟨_,rfl⟩
  rw[←hxs]
  exact lv 73 [] (.f<|.r) (Y ((I l:Int)<(I (f0 l):Int))=O/\bt (ai xs)=bt (jl (Fk tk l (I l)))) ⟨HE (by rw[hlen];omega),by rw[hxs]⟩
 |succ n ih=>
  intro k hn hk
  obtain⟨p,hp⟩:=yk (show k<I l by omega)
  have hih:=ih (k+1) (by omega) (by omega)
  have hcl:=T4 tk l k
  cases hm:ik tk l k with
  |true=>
   rw[AdD hm,IQ] at hih
   exact Abn tk l hl k p hp _ (by rw[H9];omega) hm _ hih
  |false=>
   rw[Agc hm] at hih
   exact Abp tk l hl k p hp _ hm _ hih
theorem Afd(tk:Tk)(l:List (Int×Int))(hl:I l<=100):F0 97 [.v (vP l),.v (AA [tk])] (.v (jl (Fk tk l (I l)))):=by
 have h:=Abq tk l hl _ 0 rfl (Ik _)
 rw[show Fk tk l 0=[] from rfl] at h
 generalize Fk tk l (I l)=out at h⊢
 exact sv E4 73 [] (.k<|.h (.q 4 0)<|.h (.nw 5 1 1)<|.ls [ke 0,ke 1,ke 5,ch 6 (di (0:Nat))] (Rd [])) (Q (di 0)/\Q [(1,1,nV)]/\_) ⟨rfl,rfl,iK h⟩
theorem Abo(ts:List Tk)(ht:ts=[]∨∃tk,ts=[tk])(l:List (Int×Int))(hl:I l<=100):F0 97 [.v (vP l),.v (AA ts)] (.v (jl (Sq ts l))):=by
 rcases ht with rfl|⟨tk,rfl⟩
 ·exact Xl _
 ·have e:Sq [tk] l=Fk tk l (I l):=by
   show(Fk tk l (I l)).flatMap (fun x=>[x])=_
   simp
  rw[e]
  exact Afd tk l hl
noncomputable abbrev Aix:=Tryz.f98
theorem MD(p a:Int):F0 98 [di p,di a] (dV (pV (p,a))):=by
 refine sv Aix 11 [] (.r) (bt (ab [vi 0,ai (ql p a)])=dV (pV (p,a))) ?_
 rfl
noncomputable abbrev Hg:=Tryz.f53
noncomputable def Q5:=yl Hg
abbrev jk(r:cp)(t:cy):St:=⟨[G (rC r),G (Ax (dT t))],[]⟩
noncomputable abbrev ni:List KI:=[kl Q5 [1,1,1,1,1,1,1,1,1,0,1,0,0],.blk 0,kc Q5 [1,1,1,1,1,1,1,1,1,1]]
theorem KM(s:Int)(ps:List (Int×Int)):dV (dq s ps)=.v (.agg [vi 0,.list [.agg [vi s,.list []],.agg [vi 0,.list ((ps.map pV).map eV)]]]):=by
 show bt (.agg [vi 0,.list [eV (lf s),eV (.mk 0 (ps.map pV))]])=_
 rw[AE,AE];rfl
theorem Ago(m:b9)(r:cp)(hmk:r.aq=[]∨∃p,r.aq=[p])(t:cy)(L:List (List (Int×Int)))(hL:I L<=1000)(i:Nat)(q:List (Int×Int))(hq:L[i]?=G q)(hql:I q<=100)(os:List bc)(w:bc)(hs:F0 95 [dT t,dV (dq r.to (q++ee r.aq))] (.tup [dV w,di 0]))(hp:F0 67 [cx os,dV w] (cx (BH os w)))(d:D)
  (next:Rn PP Hg 0 d bd (ni++[]) (ba 108 [(3,.v (.ref (A1 m))),(9,.ptr 0 0),(10,.ptr 1 0),(12,.v (jl L)),(13,cx (BH os w)),(14,di (i+1:Nat))]) (jk r t)):
  Rn PP Hg 0 d bd (ni++[]) (ba 108 [(3,.v (.ref (A1 m))),(9,.ptr 0 0),(10,.ptr 1 0),(12,.v (jl L)),(13,cx os),(14,di i)]) (jk r t):=by
 have hi:=(HD.1 hq).1
 have hlen:I (L.map vP)=I L:=by simp
 have hqx:(L.map vP)[Z (i:Int)]?=G (vP q):=by rw[II,Ir,hq];rfl
 have hsz:=Rh q
 have hqe:I ((q.map pV).map eV)=I q:=by simp
 have ok:Ao (I ((q.map pV).map eV)) 32:=⟨by show _*32<=_;omega,by show _<=_;omega⟩
 have ok1:Ao (I ((q.map pV).map eV)+1) 32:=⟨by show(_+1)*32<=_;omega,by show _+1<=_;omega⟩
 rcases hmk with hm|⟨p,hm⟩
 ·rw[hm,show q++ee []=q by simp,KM] at hs
  exact lv 108 [3,5] (.t<|.x (vP q)<|.a 1<|.w<|.n<|.f<|.h (.q 22 0)<|.h (.un 15)<|.c (.tup [dV w,di 0])<|.k<|.c (cx (BH os w))<|.ls [ke 3,ke 9,ke 10,ke 12,ch 13 (cx (BH os w)),ch 14 (di (i+1:Nat))] (jk r t)) (Y ((i:Int)<(I (U vP L):Int))=J/\0<=(i:Int)/\_/\_/\_/\Y (0<(I (U vi r.aq):Int))=O/\_/\_/\Q (cx (BH os w))/\di (yu yt ((i:Int)+1))=di (↑(i+1):Int)/\Q (jk r t).H/\_) ⟨HC (by rw[hlen];omega),by omega,hqx,ok,hsz,HE (by rw[hm];decide),hs,hp,rfl,Ae,rfl,iK next⟩
 ·have hs2:F0 95 [dT t,.v (.agg [vi 0,.list [.agg [vi r.to,.list []],.agg [vi 0,.list ((q.map pV).map eV++[Ac (pV (p,0))])]]])] (.tup [dV w,di 0]):=by
   rw[hm,KM] at hs
   have e:(q.map pV).map eV++[Ac (pV (p,0))]=((q++ee [p]).map pV).map eV:=by rw[IQ,IQ];rfl
   rw[e]
   exact hs
  exact lv 108 [3,5] (.t<|.x (vP q)<|.a 1<|.w<|.n<|.t<|.x (vi p)<|.c (dV (pV (p,0)))<|.w<|.n<|.f<|.h (.q 22 0)<|.h (.un 15)<|.c (.tup [dV w,di 0])<|.k<|.c (cx (BH os w))<|.ls [ke 3,ke 9,ke 10,ke 12,ch 13 (cx (BH os w)),ch 14 (di (i+1:Nat))] (jk r t)) (Y ((i:Int)<(I (U vP L):Int))=J/\0<=(i:Int)/\_/\_/\_/\Y (0<(I (U vi r.aq):Int))=J/\iz 0<=0/\(U vi r.aq)[Z 0]?=G (vi p)/\_/\Q (f0 q)/\_/\(∀(y:V),y∈ [Ac (pV (p,0))]->V.size y=2)/\Y (yu yt (0+1)<(I (U vi r.aq):Int))=O/\_/\_/\Q (cx (BH os w))/\di (yu yt ((i:Int)+1))=di (↑(i+1):Int)/\Q (jk r t).H/\_) ⟨HC (by rw[hlen];omega),by omega,hqx,ok,hsz,HC (by rw[hm];show(0:Int)<1;decide),by decide,by rw[hm];rfl,MD p 0,rfl,ok1,fun y hy=>by rw[HQ.1 hy];rfl,HE (by rw[hm];show ¬yu .i64 (0+1)<(1:Int);decide),hs2,hp,rfl,Ae,rfl,iK next⟩
theorem Agq(m:b9)(r:cp)(hmk:r.aq=[]∨∃p,r.aq=[p])(t:cy)(L:List (List (Int×Int)))(hL:I L<=1000)(i:Nat)(q:List (Int×Int))(hq:L[i]?=G q)(hql:I q<=100)(os:List bc)(hs:F0 95 [dT t,dV (dq r.to (q++ee r.aq))] (.tup [dV (.mk 0 []),di 5])):
  Rn PP Hg 0 (.tup [cx [],di 1]) bd (ni++[]) (ba 108 [(3,.v (.ref (A1 m))),(9,.ptr 0 0),(10,.ptr 1 0),(12,.v (jl L)),(13,cx os),(14,di i)]) (jk r t):=by
 have hi:=(HD.1 hq).1
 have hlen:I (L.map vP)=I L:=by simp
 have hqx:(L.map vP)[Z (i:Int)]?=G (vP q):=by rw[II,Ir,hq];rfl
 have hsz:=Rh q
 have hqe:I ((q.map pV).map eV)=I q:=by simp
 have ok:Ao (I ((q.map pV).map eV)) 32:=⟨by show _*32<=_;omega,by show _<=_;omega⟩
 have ok1:Ao (I ((q.map pV).map eV)+1) 32:=⟨by show(_+1)*32<=_;omega,by show _+1<=_;omega⟩
 rcases hmk with hm|⟨p,hm⟩
 ·rw[hm,show q++ee []=q by simp,KM] at hs
  exact lv 108 [3,5] (.t<|.x (vP q)<|.a 1<|.w<|.n<|.f<|.h (.q 22 0)<|.h (.un 15)<|.c (.tup [dV (.mk 0 []),di 5])<|.k<|.r) (Y ((i:Int)<(I (U vP L):Int))=J/\0<=(i:Int)/\_/\_/\_/\Y (0<(I (U vi r.aq):Int))=O/\_/\Q (bl [cx [],di 1])) ⟨HC (by rw[hlen];omega),by omega,hqx,ok,hsz,HE (by rw[hm];decide),hs,rfl⟩
 ·have hs2:F0 95 [dT t,.v (.agg [vi 0,.list [.agg [vi r.to,.list []],.agg [vi 0,.list ((q.map pV).map eV++[Ac (pV (p,0))])]]])] (.tup [dV (.mk 0 []),di 5]):=by
   rw[hm,KM] at hs
   have e:(q.map pV).map eV++[Ac (pV (p,0))]=((q++ee [p]).map pV).map eV:=by rw[IQ,IQ];rfl
   rw[e]
   exact hs
  exact lv 108 [3,5] (.t<|.x (vP q)<|.a 1<|.w<|.n<|.t<|.x (vi p)<|.c (dV (pV (p,0)))<|.w<|.n<|.f<|.h (.q 22 0)<|.h (.un 15)<|.c (.tup [dV (.mk 0 []),di 5])<|.k<|.r) (Y ((i:Int)<(I (U vP L):Int))=J/\0<=(i:Int)/\_/\_/\_/\Y (0<(I (U vi r.aq):Int))=J/\iz 0<=0/\(U vi r.aq)[Z 0]?=G (vi p)/\_/\Q (f0 q)/\_/\(∀(y:V),y∈ [Ac (pV (p,0))]->V.size y=2)/\Y (yu yt (0+1)<(I (U vi r.aq):Int))=O/\_/\Q (bl [cx [],di 1])) ⟨HC (by rw[hlen];omega),by omega,hqx,ok,hsz,HC (by rw[hm];show(0:Int)<1;decide),by decide,by rw[hm];rfl,MD p 0,rfl,ok1,fun y hy=>by rw[HQ.1 hy];rfl,HE (by rw[hm];show ¬yu .i64 (0+1)<(1:Int);decide),hs2,rfl⟩
theorem Aj1(m:b9)(r:cp)(t:cy)(L:List (List (Int×Int)))(os:List bc):
  Rn PP Hg 0 (.tup [cx os,di 0]) bd (ni++[]) (ba 108 [(3,.v (.ref (A1 m))),(9,.ptr 0 0),(10,.ptr 1 0),(12,.v (jl L)),(13,cx os),(14,di (I L))]) (jk r t):=by
 have hlen:I (L.map vP)=I L:=by simp
 exact lv 108 [3,5] (.f<|.r) (Y ((I L:Int)<(I (U vP L):Int))=O/\Q (bl [cx os,di 0])) ⟨HE (by rw[hlen];omega),rfl⟩
theorem UO(l:List bc)(v:bc):bc.sizes (BH l v)<=bc.sizes l+v.size:=by
 have hs:∀a b:List bc,bc.sizes (a++b)=bc.sizes a+bc.sizes b:=fun a b=>by
  induction a with
  |nil=>simp[bc.sizes]
  |cons x a ih=>simp only[Jr,bc.sizes,ih];omega
 have ht:∀k,bc.sizes l=bc.sizes (l.take k)+bc.sizes (l.drop k):=fun k=>by rw[←hs,List.take_append_drop]
 have key:bc.sizes (l.take (AQ v l)++v::l.drop (AQ v l))<=bc.sizes l+v.size:=by
  rw[hs,ht (AQ v l)];simp only[bc.sizes];omega
 unfold BH
 split
 ·split
  ·omega
  ·exact key
 ·exact key
theorem MX{B:Nat}:∀(ys os:List bc),(∀y∈ys,y.size<=B)->bc.sizes (ys.foldl BH os)<=bc.sizes os+B*I ys
 |[],os,_=>by simp
 |y::ys,os,h=>by
  have h1:=MX ys (BH os y) fun z hz=>h z (List.mem_cons_of_mem _ hz)
  have h2:=UO os y
  have h3:=h y (List.mem_cons_self ..)
  rw[IN,HF,Nat.mul_add]
  omega
def jb(t:cy)(ys:List bc):List bc×Int:=if ys.all (Ah t)=J then(ys.foldl BH [],0) else([],1)
theorem Agp(m:b9)(hm:Dj m)(r:cp)(hmk:r.aq=[]∨∃p,r.aq=[p])(L:List (List (Int×Int)))(hL:I L<=100)(hq:∀q∈L,I q<=30)(k:Nat):∀i:Nat,I L-i=k->i<=I L->(∀q∈L.take i,Ah (As m) (dq r.to (B9 (q++ee r.aq)))=J)->
  Rn PP Hg 0 (.tup [cx (jb (As m) (L.map fun q=>dq r.to (B9 (q++ee r.aq)))).1,di (jb (As m) (L.map fun q=>dq r.to (B9 (q++ee r.aq)))).2]) bd (ni++[]) (ba 108 [(3,.v (.ref (A1 m))),(9,.ptr 0 0),(10,.ptr 1 0),(12,.v (jl L)),(13,cx (((L.take i).map fun q=>dq r.to (B9 (q++ee r.aq))).foldl BH [])),(14,di i)]) (jk r (As m)):=by
 have hml:I (ee r.aq)<=1:=by
  rcases hmk with h|⟨p,h⟩
  ·rw[h];exact Ik _
  ·rw[h];exact HH _
 have hsz:∀q:List (Int×Int),I q<=30->(dq r.to (B9 (q++ee r.aq))).size<=200:=fun q h=>by
  rw[Gi,(GK _).length_eq,HO];omega
 induction k with
 |zero=>
  intro i hk hi hv
  have e:i=I L:=by omega
  subst e
  rw[take_length] at hv⊢
  rw[jb,HV (Iw.2 fun y hy=>by
   obtain⟨q,h,rfl⟩:=Is.1 hy
   exact hv q h)]
  exact Aj1 m r _ L _
 |succ k ih=>
  intro i hk hi hv
  obtain⟨q,hx⟩:=yk (show i<I L by omega)
  have hqm:=HG hx
  have hql:=hq q hqm
  have ht:L.take (i+1)=L.take i++[q]:=by rw[IM,hx];rfl
  have hal:I (q++ee r.aq)<=40:=by rw[HO];omega
  cases hval:Ah (As m) (dq r.to (B9 (q++ee r.aq))) with
  |true=>
   have hih:=ih (i+1) (by omega) (by omega) (fun q' hq'=>by
    rw[ht] at hq'
    rcases Ix.1 hq' with h|h
    ·exact hv q' h
    ·rw[HQ.1 h];exact hval)
   rw[ht,IQ,List.foldl_append] at hih
   have hos:=MX (B:=200) ((L.take i).map fun q=>dq r.to (B9 (q++ee r.aq))) [] (fun y hy=>by
    obtain⟨q',h,rfl⟩:=Is.1 hy
    exact hsz q' (hq q' (IR h)))
   rw[H9,Ig] at hos
   have hos2:200*min i (I L)<=200*100:=Nat.mul_le_mul_left _ (by omega)
   have hos3:bc.sizes ([]:List bc)=0:=rfl
   exact Ago m r hmk (As m) L (by omega) i q hx (by omega) _ _ (Rg m hm r.to _ hal hval) (Om _ _ (by omega) (by have:=hsz q hql;omega)) _ hih
  |false=>
   rw[jb,HR (fun h=>by
    have:=Iw.1 h _ (Is.2 ⟨q,hqm,rfl⟩)
    rw[hval] at this;exact absurd this (by decide))]
   exact Agq m r hmk (As m) L (by omega) i q hx (by omega) _ (AbE m hm r.to _ hal hval)
theorem RJ(tk:Tk)(l:List (Int×Int))(k:Nat):∀q∈Fk tk l k,I q<=I l:=fun q hq=>by
 obtain⟨j,_,rfl⟩:=Is.1 hq
 rw[HO,Ig,IF];omega
theorem Rb{ts:List Tk}(ht:ts=[]∨∃tk,ts=[tk])(l:List (Int×Int)):I (Sq ts l)<=I l+1/\∀q∈Sq ts l,I q<=I l:=by
 rcases ht with rfl|⟨tk,rfl⟩
 ·exact⟨by show 1<=_;omega,fun q hq=>by rw[HQ.1 hq];exact HH _⟩
 ·have e:Sq [tk] l=Fk tk l (I l):=by
   show(Fk tk l (I l)).flatMap (fun x=>[x])=_
   simp
  rw[e]
  exact⟨by have:=T4 tk l (I l);omega,RJ tk l _⟩
theorem Aas(m:b9)(hm:BB m)(i:Nat)(r:cp)(hi:m.av[i]?=G r)(hmk:r.aq=[]∨∃p,r.aq=[p])(htk:r.ar=[]∨∃tk,r.ar=[tk])(s:Int)(ps:List (Int×Int))(hw:nc m s ps)(hv:Ah (As m) (dq s ps)=J):F0 53 [Af m,di i,dV (dq s ps)] (if s=r.aj then .tup [cx (jb (As m) ((Sq r.ar ps).map fun q=>dq r.to (B9 (q++ee r.aq)))).1,di (jb (As m) ((Sq r.ar ps).map fun q=>dq r.to (B9 (q++ee r.aq)))).2] else .tup [cx [],di 0]):=by
 have hlen:=hw.len
 have h1:=JW m hm
 have h2:=G2 m hm (dq s ps)
 rw[hv] at h2
 have h3:=Xb m hm
 have h4:=Abo r.ar htk ps (by omega)
 have hir:=(HD.1 hi).1
 have hfew:=hm.count
 have hb:=Rb htk ps
 have hlp:=Agp m hm.n r hmk (Sq r.ar ps) (by omega) (fun q hq=>by have:=hb.2 q hq;omega) _ 0 rfl (Ik _) (fun q hq=>by simp at hq)
 rw[take_zero,show List.foldl BH [] (([]:List (List (Int×Int))).map fun q=>dq r.to (B9 (q++ee r.aq)))=[] from rfl] at hlp
 have hkids:(dq s ps).az=[lf s,.mk 0 (ps.map pV)]:=rfl
 by_cases hf:s=r.aj
 ·rw[HV hf]
  generalize (jb (As m) ((Sq r.ar ps).map fun q=>dq r.to (B9 (q++ee r.aq))))=out at*
  generalize Sq r.ar ps=L at*
  have hgo:Rn PP Hg 0 (.tup [cx out.1,di out.2]) bd (ni++[]) (ba 108 [(3,.v (.ref (A1 m))),(9,.ptr 0 0),(10,.ptr 1 0),(12,.v (jl L)),(13,.v .nils),(14,di (0:Nat))]) (jk r (As m)):=L5 (ZE (t:=13) _ rfl) hlp
  exact sv Hg 108 [3,5] (.c (di 0)<|.k<|.f<|.f<|.c (db J)<|.k<|.x (Ai r)<|.x (Ac (lf s))<|.f<|.c (.tup [dT (As m),di 0])<|.x (Ac (.mk 0 (ps.map pV)))<|.c (.v (jl L))<|.ls [ke 3,ke 9,ke 10,ke 12,ke 13,ch 14 (di (0:Nat))] (jk r (As m))) (_/\Y ((i:Int)<0)=O/\Y ((i:Int)>=(I (U Ai m.av):Int))=O/\_/\0<=(i:Int)/\(U Ai m.av)[Z (i:Int)]?=G (Ai r)/\iz 0<=0/\G (eV (lf s))=G (Ac (lf s))/\yp/\(bc.n (lf s) !=r.aj)=O/\_/\iz 0<=1/\G (eV (bc.mk 0 (U pV ps)))=G (Ac (bc.mk 0 (U pV ps)))/\_/\yp/\Q (di 0)/\Q [G (rC r),G [di (cy.kd (As m)),di (cy.sz (As m)),bt (cz (cy.rk (As m))),bt (ai (eT (cy.lab (I m.aw:Int))::eT (cy.bag (cy.prod [cy.lab (I m.ay:Int),cy.lab (m.age+2)]))::nV))]]/\_) ⟨h1,yq,HE (by rw[H9];omega),h2,by omega,by rw[II,Ir,hi];rfl,by decide,HX G (AE _),yn,by rw[hf];exact bne_self_eq_false _,h3,by decide,HX G (AE _),h4,yn,rfl,rfl,iK hgo⟩
 ·rw[HR hf]
  clear hlp h4
  exact sv Hg 108 [3,5] (.c (di 0)<|.k<|.f<|.f<|.c (db J)<|.k<|.x (Ai r)<|.x (Ac (lf s))<|.t<|.r) (_/\Y ((i:Int)<0)=O/\Y ((i:Int)>=(I (U Ai m.av):Int))=O/\_/\0<=(i:Int)/\(U Ai m.av)[Z (i:Int)]?=G (Ai r)/\iz 0<=0/\G (eV (lf s))=G (Ac (lf s))/\yp/\(bc.n (lf s) !=r.aj)=J/\Q (bl [cx [],di 0])) ⟨h1,yq,HE (by rw[H9];omega),h2,by omega,by rw[II,Ir,hi];rfl,by decide,HX G (AE _),yn,bne_iff_ne.2 hf,rfl⟩
theorem Akk(t:cy){ys zs:List bc}(h:∀y,y∈ys↔y∈zs):jb t ys=jc t zs:=by
 unfold jb jc
 have e:ys.all (Ah t)=zs.all (Ah t):=by
  rw[Bool.eq_iff_iff,Iw,Iw]
  exact⟨fun H y hy=>H y ((h y).2 hy),fun H y hy=>H y ((h y).1 hy)⟩
 rw[e,Lu h]
theorem Aat(m:b9)(hm:BB m)(i:Nat)(r:cp)(hi:m.av[i]?=G r)(c:bc)(hv:Ah (As m) c=J):F0 53 [Af m,di i,dV c] (.tup [cx (Hv (As m) r c).1,di (Hv (As m) r c).2]):=by
 obtain⟨s,ps,rfl,hw⟩:=NZ hv
 have hr:=hm.av i r hi
 have h:=Aas m hm i r hi (hr.aq.imp id fun⟨p,_,h⟩=>⟨p,h⟩) (hr.ar.imp id fun⟨_,_,_,_,_,h⟩=>⟨_,h⟩) s ps hw hv
 have e:jb (As m) ((Sq r.ar ps).map fun q=>dq r.to (B9 (q++ee r.aq)))=jc (As m) (Xh r (dq s ps)):=Akk _ fun y=>by
  rw[Xh,Xe,XX]
  simp only[Is,Aaj]
  exact⟨fun⟨q,h1,h2⟩=>⟨q,(Oa _ _ _).2 h1,h2⟩,fun⟨q,h1,h2⟩=>⟨q,(Oa _ _ _).1 h1,h2⟩⟩
 rw[e] at h
 unfold Hv
 rw[HV hv,Xf]
 by_cases hf:s=r.aj
 ·rw[HV hf] at h
  rw[HV (show(lf s).n=r.aj from hf)]
  exact h
 ·rw[HR hf] at h
  rw[HR (show ¬(lf s).n=r.aj from hf)]
  exact h
end Go.Proofs.YtfhgjfkleggjfaaGreatDoor
