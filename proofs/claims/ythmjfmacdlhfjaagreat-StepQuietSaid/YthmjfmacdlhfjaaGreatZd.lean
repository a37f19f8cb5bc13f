/-
  A part of the proof.
-/
import Derived.Test.YthmjfmacdlhfjaaGreatZc
import Derived.Shelf.SlSortCmp.WholeK
import Derived.Shelf.SlGeneric
import Derived.Ground.SlsfProg
import Derived.Shelf.SlSortCmp.Whole1
namespace Go.Proofs.YthmjfmacdlhfjaaGreat
open Go.Dv Go.Nv
set_option maxRecDepth 20000
open List (all_cons flatten_nil headD replicate zipWith)
open Go.IntKind (u64)
open Go.IntKind renaming wrap → yr, i64 → yq
open List renaming length → I, map → U, drop → W
open Option renaming some → G
open Bool renaming true → J, false → O
open Decidable renaming decide → Y
open Int renaming toNat → Z
open Go.Dv.V renaming list → ai, str → ae, agg → ab, int → aa, ref → bz, fn → bw, nils → bv, bool → bu
open Go.Dv.D renaming v → bt, acc → br, ptr → bq, arr → bo, gro → bm, tup → bl, undef → bk, dagg → bj
open Go.Dv.St renaming mk → bi
open Go.Dv.KI renaming blk → bh
open _root_.ByteArray renaming mk → bg
open Go renaming Operand → x5, Program → x4, TypeId → yz, World → yy, Value → yx, Oper → yw, FuncId → yv, Func → yu, IntKind → yt
inductive bc where
 |nat
 |lab (n:Int)
 |prod (l:List bc)
 |word (t:bc)
 |bag (t:bc)
 |prio (n:Int) (r:List Int)
 deriving Inhabited
mutual
def bc.enc:bc->V
 |.nat=>.agg [vi 1,vi 0,.list [],.list []]
 |.lab n=>.agg [vi 2,vi n,.list [],.list []]
 |.prod l=>.agg [vi 3,vi 0,.list [],.list (bc.encs l)]
 |.word t=>.agg [vi 4,vi 0,.list [],.list [t.enc]]
 |.bag t=>.agg [vi 5,vi 0,.list [],.list [t.enc]]
 |.prio n r=>.agg [vi 7,vi n,cz r,.list []]
def bc.encs:List bc->List V
 |[]=>[]
 |t::l=>t.enc::bc.encs l
end
theorem bc.encs_map:∀l:List bc,bc.encs l=l.map bc.enc
 |[]=>rfl
 |t::l=>by simp[bc.encs,bc.encs_map l]
abbrev il(k n:Int)(r:List Int)(l:List V):V:=.agg [vi k,vi n,cz r,.list l]
def bc.kd:bc->Int
 |.nat=>1|.lab _=>2|.prod _=>3|.word _=>4|.bag _=>5|.prio _ _=>7
def bc.sz:bc->Int
 |.lab n=>n|.prio n _=>n|_=>0
def bc.rk:bc->List Int
 |.prio _ r=>r|_=>[]
def bc.ps:bc->List bc
 |.prod l=>l|.word t=>[t]|.bag t=>[t]|_=>[]
abbrev eT:bc->V:=bc.enc
abbrev vT(t:bc):V:=il t.kd t.sz t.rk (t.ps.map eT)
abbrev dT(t:bc):D:=.v (vT t)
theorem HJ(t:bc):eT t=vT t:=by cases t<;>simp only[eT,bc.enc,bc.encs_map]<;>rfl
theorem GQ{a:List bc}{i:Nat}{x:bc}(h:a[i]?=G x):(a.map eT)[((i:Nat):Int).toNat]?=G (vT x):=by rw[←HJ];exact A3 h
theorem L4(t:bc):vT (.word t)=il 4 0 [] [vT t]:=by rw[←HJ t];rfl
theorem Sr(t:bc):vT (.bag t)=il 5 0 [] [vT t]:=by rw[←HJ t];rfl
noncomputable abbrev Amp:=Tryz.f126
def Cy(n:Int)(v:bd):Bool:=Y (v.n>=0)&&(Y (v.n<n)&&((I v.az:Int)==0))
theorem T4(n:Int)(v:bd):F0 126 [dV v,di n] (db (Cy n v)):=by
 refine sv Amp 20 [2] (.b (.b .r .r) .r) ((Y (v.n>=0)=J->(Y (v.n<n)=J->db ((I (U eV v.az):Int)==0)=db (Cy n v))/\(Y (v.n<n)=O->db O=db (Cy n v)))/\(Y (v.n>=0)=O->db O=db (Cy n v))) ?_
 refine⟨fun h1=>⟨fun h2=>?_,fun h2=>?_⟩,fun h1=>?_⟩<;>(try simp only[HP] at*)<;>simp_all [Cy]<;>(intros;omega)
noncomputable abbrev mh:=Tryz.f128
noncomputable def mo:=yj mh
def ja(l:List bd):Nat->Bool
 |0=>true
 |k+1=>if AB (l.getD (k+1) default) (l.getD k default)<0 then false else ja l k
theorem AaR(l:List bd)(hs:bd.sizes l<=1000000)(k:Nat):k<I l->
  Rn PP mh 0 (db (ja l k)) bf ([kl mo [1,0,1,0,0],.blk 0,kc mo [1,1]]++[]) (b9 25 [(0,cx l),(1,dfn 39),(5,di k)]) bf:=by
 induction k with
 |zero=>
  intro hk
  exact lv 25 [] (.f .r) (Y ((↑0:Int)>0)=O/\Q (db J)) ⟨rfl,rfl⟩
 |succ k ih=>
  intro hk
  refine lv 25 [] (.t<|.x (Au (l.getD (k+1) default))<|.x (Au (l.getD k default))<|.c (di (AB (l.getD (k+1) default) (l.getD k default)))<|.b .r (.l [ke 0,ke 1,ch 5 (di k)])) (Y ((↑(k+1):Int)>0)=J/\0<=(↑(k+1):Int)/\(U eV l)[Z (↑(k+1):Int)]?=G (Au (List.getD l (k+1) default))/\0<=yr yq ((↑(k+1):Int)-1)/\(U eV l)[Z (yr yq ((↑(k+1):Int)-1))]?=G (Au (List.getD l k default))/\F0 39 [bt (Au (List.getD l (k+1) default)),bt (Au (List.getD l k default))] (di (AB (List.getD l (k+1) default) (List.getD l k default)))/\(Y (AB (List.getD l (k+1) default) (List.getD l k default)<0)=J->db O=db (ja l (k+1)))/\(Y (AB (List.getD l (k+1) default) (List.getD l k default)<0)=O->di (yr yq ((↑(k+1):Int)-1))=di (k:Int)/\I0 mh 0 (db (ja l (k+1))) bf [kl mo [1,0,1,0,0],bh 0,kc mo [1,1]] (b9 25 [(0,cx l),(1,bt (bw 39 [] [])),(5,di (k:Int))]) (bi [] []))) ?_
  have h1:yq.wrap (((k+1:Nat):Int)-1)=k:=by rw[A2 (by have:=bd.length_le l;omega) (by have:=bd.length_le l;omega)];omega
  have hx:l[k+1]?=G (l.getD (k+1) default):=by rw[HY,HQ hk];rfl
  have hy:l[k]?=G (l.getD k default):=by rw[HY,HQ (by omega)];rfl
  have hz:(l.getD (k+1) default).size<=1000000:=by have:=bd.size_mem (HW hx);omega
  rw[h1]
  refine⟨by simp,by omega,A1 hx,by omega,A1 hy,JK _ _ _ (HX _) hz,fun h2=>?_,fun h2=>⟨rfl,⟨?_⟩⟩⟩
  ·simp only[ja,Io (Ib h2)]
  ·simp only[ja,Ij (IB h2)]
   exact ih (by omega)
def Xg(l:List bd):Bool:=ja l (I l-1)
theorem AaO(l:List bd)(hs:bd.sizes l<=1000000):F0 128 [cx l,dfn 39] (db (Xg l)):=by
 cases l with
 |nil=>
  exact sv mh 25 [] (.n<|.f .r) (Y (yr yq ((I (U eV []):Int)-1)>0)=O/\Q (db J)) ⟨rfl,rfl⟩
 |cons v l=>
  refine sv mh 25 [] (.l [ke 0,ke 1,ch 5 (di (I l:Nat))]) (di (yr yq ((I (U eV (v::l)):Int)-1))=di (I l:Int)/\I0 mh (I bf.H) (db (Xg (v::l))) bf [kl mo [1,0,1,0,0],bh 0,kc mo [1,1]] (b9 25 [(0,cx (v::l)),(1,dfn 39),(5,di (I l:Int))]) bf) ?_
  have:=bd.length_le (v::l)
  have h1:yq.wrap ((I ((v::l).map eV):Int)-1)=I l:=by
   rw[HP,HV] at*
   rw[A2];omega
  rw[h1]
  exact⟨rfl,⟨AaR (v::l) hs (I l) (by simp)⟩⟩
mutual
def A0:bc->bd->Bool
 |.nat,v=>Y (v.n>=0)&&(Y (v.n<=1048576)&&((I v.az:Int)==0))
 |.lab n,v=>Cy n v
 |.prod l,v=>(v.n==0)&&(((I v.az:Int)==I l)&&B1 l v.az)
 |.word t,v=>(v.n==0)&&(Y ((I v.az:Int)<=12)&&v.az.all (fun k=>A0 t k))
 |.bag t,v=>((v.n==0)&&(Y ((I v.az:Int)<=12)&&v.az.all (fun k=>A0 t k)))&&Xg v.az
 |.prio n _,v=>(v.n==0)&&(Y ((I v.az:Int)<=12)&&v.az.all (fun k=>Cy n k))
def B1:List bc->List bd->Bool
 |t::l,v::vs=>A0 t v&&B1 l vs
 |_,_=>true
end
noncomputable abbrev i3:=Tryz.f67
noncomputable def jk:=yj i3
noncomputable abbrev Ak5:=Tryz.f127
noncomputable abbrev AiF:=Tryz.f177
noncomputable abbrev Akw:=Tryz.f131
theorem Sb{α:Type}(l:List α)(p:α->Bool):(!l.any fun k=> !p k)=l.all p:=by
 induction l with
 |nil=>rfl
 |cons x l ih=>simp only[List.any_cons,all_cons,Bool.not_or,Bool.not_not,ih]
theorem Yg(n:Int)(r:List Int)(v:bd):F0 131 [dV v,.v (.ref (vT (.prio n r)))] (db (!Cy n v)):=by
 exact sv Akw 9 [2] (.c (db (Cy n v)) .r) (_/\Q (db !Cy n v)) ⟨T4 n v,rfl⟩
theorem Vr(t:bc)(v:bd)(h:F0 67 [dT t,dV v] (db (A0 t v))):F0 177 [dV v,.v (.ref (vT t))] (db (!A0 t v)):=by
 exact sv AiF 8 [2] (.c (db (A0 t v)) .r) (_/\Q (db !A0 t v)) ⟨h,rfl⟩
def ER(t:bc)(v:bd):Bool:=(v.n==0)&&(Y ((I v.az:Int)<=12)&&v.az.all (fun k=>A0 t k))
theorem wv{v:bd}(h:Y ((I (v.az.map eV):Int)<=12)=J):I v.az<=1000000:=by
 have h:=Ib h
 rw[HP] at h
 omega
theorem Ql(t:bc)(v:bd)(h:∀k∈v.az,F0 67 [dT t,dV k] (db (A0 t k))):F0 127 [dV v,dT t] (db (ER t v)):=by
 refine sv Ak5 21 [2,3] (.b (.b (.c (db (v.az.any fun k=> !A0 t k)) .r) .r) .r) (((v.n==0)=J->(Y ((I (U eV v.az):Int)<=12)=J->F0 130 [cx v.az,bt (bw 177 [] [bz (vT t)])] (db (List.any v.az fun k=> !A0 t k))/\(db !List.any v.az fun k=> !A0 t k)=db (ER t v))/\(Y ((I (U eV v.az):Int)<=12)=O->db O=db (ER t v)))/\((v.n==0)=O->db O=db (ER t v))) ⟨fun h1=>⟨fun h2=>⟨Gw _ [] [_] _ v.az (wv h2) fun k hk=>Vr t k (h k hk),?_⟩,fun h2=>?_⟩,fun h1=>?_⟩
 ·rw[Sb];simp_all [ER]
 all_goals (simp_all [ER]<;>(intros;omega))
theorem Af2(v:bd):F0 67 [dT .nat,dV v] (db (A0 .nat v)):=by
 refine sv i3 110 [2,3] (.k<|.b (.b .r .r) .r) ((Y (v.n>=0)=J->(Y (v.n<=1048576)=J->db ((I (U eV v.az):Int)==0)=db (A0 bc.nat v))/\(Y (v.n<=1048576)=O->db O=db (A0 bc.nat v)))/\(Y (v.n>=0)=O->db O=db (A0 bc.nat v))) ?_
 refine⟨fun h1=>⟨fun h2=>?_,fun h2=>?_⟩,fun h1=>?_⟩<;>simp_all [A0]<;>(intros;omega)
theorem Af3(n:Int)(v:bd):F0 67 [dT (.lab n),dV v] (db (A0 (.lab n) v)):=by
 exact sv i3 110 [2,3] (.c (db (Cy n v)) .r) (_/\db (Cy n v)=db (A0 (bc.lab n) v)) ⟨T4 n v,by simp only[A0]⟩
theorem AbL(n:Int)(r:List Int)(v:bd):F0 67 [dT (.prio n r),dV v] (db (A0 (.prio n r) v)):=by
 refine sv i3 110 [2,3] (.k<|.k<|.k<|.k<|.k<|.k<|.b (.b (.c (db (v.az.any fun k=> !Cy n k)) .r) .r) .r) (((v.n==0)=J->(Y ((I (U eV v.az):Int)<=12)=J->F0 130 [cx v.az,bt (bw 131 [] [bz (vT (bc.prio n r))])] (db (List.any v.az fun k=> !Cy n k))/\(db !List.any v.az fun k=> !Cy n k)=db (A0 (bc.prio n r) v))/\(Y ((I (U eV v.az):Int)<=12)=O->db O=db (A0 (bc.prio n r) v)))/\((v.n==0)=O->db O=db (A0 (bc.prio n r) v))) ⟨fun h1=>⟨fun h2=>⟨Gw _ [] [_] _ v.az (wv h2) fun k hk=>Yg n r k,?_⟩,fun h2=>?_⟩,fun h1=>?_⟩
 ·rw[Sb];simp_all [A0]
 all_goals (simp_all [A0]<;>(intros;omega))
theorem AbJ(t:bc)(v:bd)(h:∀k∈v.az,F0 67 [dT t,dV k] (db (A0 t k))):F0 67 [dT (.word t),dV v] (db (A0 (.word t) v)):=by
 rw[dT,L4]
 exact sv i3 110 [2,3] (.x (vT t)<|.c (db (ER t v)) .r) (iz 0<=0/\Q (G (vT t))/\_/\db (ER t v)=db (A0 (bc.word t) v)) ⟨by decide,rfl,Ql t v h,by simp only[A0,ER]⟩
theorem Af4(t:bc)(v:bd)(hv:v.size<=1000000)(h:∀k∈v.az,F0 67 [dT t,dV k] (db (A0 t k))):F0 67 [dT (.bag t),dV v] (db (A0 (.bag t) v)):=by
 rw[dT,Sr]
 have:=bd.size_eq v
 refine sv i3 110 [2,3] (.x (vT t)<|.c (db (ER t v))<|.b (.c (db (Xg v.az)) .r) .r) (iz 0<=0/\Q (G (vT t))/\_/\(ER t v=J->F0 128 [cx v.az,bt (bw 39 [] [])] (db (Xg v.az))/\db (Xg v.az)=db (A0 (bc.bag t) v))/\(ER t v=O->db O=db (A0 (bc.bag t) v))) ⟨by decide,rfl,Ql t v h,fun h1=>⟨AaO v.az (by omega),?_⟩,fun h1=>?_⟩
 ·simp only[ER] at h1;simp only[A0,h1,I2]
 ·simp only[ER] at h1;simp only[A0,h1,Iz]
theorem XB(l:List bc)(v:bd)(hl:I v.az=I l)(hv:I v.az<=1000000)(h:∀t∈l,∀k∈v.az,F0 67 [dT t,dV k] (db (A0 t k)))(n:Nat):∀k:Nat,I l-k=n->
  Rn PP i3 0 (db (B1 (l.drop k) (v.az.drop k))) bf ([kl jk [1,0,1,0,1,1,1,1,1,0,1,0,1,0,0],.blk 1,kc jk [1,0,1,0,1,1,1,1,1,0,1,1],.blk 0,kc jk [1,1]]++[]) (b9 110 [(2,.v (.ref (vT (.prod l)))),(46,cx v.az),(47,di (I v.az)),(48,di k)]) bf:=by
 induction n using Nat.strongRecOn with
 |_ n ih=>
 intro k hn
 refine lv 110 [2,3] (.b (.e fun x:bd=>.x (Au x)<|.e fun t:bc=>.x (vT t)<|.c (db (A0 t x))<|.b .r (.ls [ke 2,ke 46,ke 47,ch 48 (di (k+1:Nat))] bf)) .r) ((Y ((k:Int)<(I v.az:Int))=J->∃a,0<=(k:Int)/\(U eV v.az)[Z (k:Int)]?=G (Au a)/\∃a_1,0<=(k:Int)/\(U eT (bc.ps (bc.prod l)))[Z (k:Int)]?=G (vT a_1)/\Aa PP 67 [bt (vT a_1),dV a] (bi [] []) (db (A0 a_1 a)) (bi [] [])/\yn/\((!A0 a_1 a)=J->db O=db (B1 (W k l) (W k v.az)))/\((!A0 a_1 a)=O->di (yr yq ((k:Int)+1))=di (↑(k+1):Int)/\Nv.It (AI (CN 0) PP (fun env σ1=>AL PP i3 env σ1 (db (B1 (W k l) (W k v.az))) bf) [kl jk [1,0,1,0,1,1,1,1,1,0,1,0,1,0,0],bh 1,kc jk [1,0,1,0,1,1,1,1,1,0,1,1],bh 0,kc jk [1,1]] (b9 110 [(2,bt (bz (vT (bc.prod l)))),(46,cx v.az),(47,di (I v.az:Int)),(48,di (↑(k+1):Int))]) bf)))/\(Y ((k:Int)<(I v.az:Int))=O->db J=db (B1 (W k l) (W k v.az)))) ⟨fun h1=>?_,fun h1=>?_⟩
 ·have hk:k<I v.az:=by simpa using h1
  have hk2:k<I l:=by omega
  have hx:v.az[k]?=G v.az[k]:=HQ hk
  have hy:l[k]?=G l[k]:=HQ hk2
  rw[Ih hk,Ih hk2]
  generalize v.az[k]=x at hx⊢
  generalize l[k]=t at hy⊢
  refine⟨x,by omega,A1 hx,t,by omega,GQ hy,h t (HW hy) x (HW hx),yl,fun h2=>?_,fun h2=>⟨As,⟨?_⟩⟩⟩
  ·have h2:A0 t x=O:=by simpa using h2
   simp only[B1,h2,Iz]
  ·have h2:A0 t x=J:=by simpa using h2
   simp only[B1,h2,I2]
   exact ih (I l- (k+1)) (by omega) (k+1) rfl
 ·have hk:I v.az<=k:=by simpa using h1
  rw[Im hk,Im (by omega)];simp only[B1]
theorem AbK(l:List bc)(v:bd)(hv:v.size<=1000000)(h:∀t∈l,∀k∈v.az,F0 67 [dT t,dV k] (db (A0 t k))):F0 67 [dT (.prod l),dV v] (db (A0 (.prod l) v)):=by
 have hlen:=bd.length_le v.az
 have hsz:=bd.size_eq v
 refine sv i3 110 [2,3] (.k<|.k<|.k<|.b .r (.b .r (.l [ke 2,ke 46,ch 47 (di (I v.az)),ch 48 (di (0:Nat))]))) (((v.n !=0)=J->db O=db (A0 (bc.prod l) v))/\((v.n !=0)=O->(((I (U eV v.az):Int) !=(I (U eT (bc.ps (bc.prod l))):Int))=J->db O=db (A0 (bc.prod l) v))/\(((I (U eV v.az):Int) !=(I (U eT (bc.ps (bc.prod l))):Int))=O->di (I (U eV v.az):Int)=di (I v.az:Int)/\di 0=di (↑0:Int)/\I0 i3 (I bf.H) (db (A0 (bc.prod l) v)) bf [kl jk [1,0,1,0,1,1,1,1,1,0,1,0,1,0,0],bh 1,kc jk [1,0,1,0,1,1,1,1,1,0,1,1],bh 0,kc jk [1,1]] (b9 110 [(2,bt (bz (vT (bc.prod l)))),(46,cx v.az),(47,di (I v.az:Int)),(48,di (↑0:Int))]) bf))) ⟨fun h1=>?_,fun h1=>⟨fun h2=>?_,fun h2=>⟨by rw[HP],rfl,⟨?_⟩⟩⟩⟩
 ·have h1:(v.n==0)=O:=by simpa using h1
  simp only[A0,h1,Iz]
 ·have h2:((I v.az:Int)==I l)=O:=by simpa[bc.ps] using h2
  simp only[A0,h2,Iz,J3]
 ·have h1:(v.n==0)=J:=by simpa using h1
  have h2:(I v.az:Int)=I l:=by simpa[bc.ps] using h2
  have h3:((I v.az:Int)==I l)=J:=by simpa using h2
  simp only[A0,h1,h3,I2]
  exact XB l v (by omega) (by omega) h _ 0 rfl
theorem Oz(N:Nat):∀(t:bc),SizeOf.sizeOf t<=N->∀v:bd,v.size<=1000000->F0 67 [dT t,dV v] (db (A0 t v)):=by
 induction N with
 |zero=>intro t ht;cases t<;>simp at ht<;>omega
 |succ N ih=>
  intro t ht v hv
  have hk:∀k∈v.az,k.size<=1000000:=fun k hk=>by have:=bd.size_mem hk;have:=bd.size_eq v;omega
  cases t with
  |nat=>exact Af2 v
  |lab n=>exact Af3 n v
  |prio n r=>exact AbL n r v
  |word t=>exact AbJ t v fun k h=>ih t (by simp at ht;omega) k (hk k h)
  |bag t=>exact Af4 t v hv fun k h=>ih t (by simp at ht;omega) k (hk k h)
  |prod l=>exact AbK l v hv fun t h k h'=>ih t (by have:=List.sizeOf_lt_of_mem h;simp at ht;omega) k (hk k h')
noncomputable abbrev oz:=Tryz.f220
noncomputable def mr:=yj oz
theorem Acy(F:yv)(fs cs:List V)(p:bc->Bool)(l:List (bc))(hl:I l<=1000000)(hp:∀x∈l,F0 F ((fs++[vT x]++cs).map .v) (db (p x)))(n:Nat):∀k:Nat,I l-k=n->
  Rn PP oz 0 (di (c7 p (l.drop k) k)) bf ([kl mr [1,0,1,0,0],.blk 0,kc mr [1,1]]++[]) (b9 19 [(0,dl (l.map eT)),(1,.v (.fn F fs cs)),(7,di (I l)),(8,di k)]) bf:=by
 induction n using Nat.strongRecOn with
 |_ n ih=>
 intro k hn
 refine lv 19 [] (.b (.e fun x:bc=>.x (vT x)<|.c (db (p x))<|.b .r (.l [ke 0,ke 1,ke 7,ch 8 (di (k+1:Nat))])) .r) ((Y ((k:Int)<(I l:Int))=J->∃a,0<=(k:Int)/\(U eT l)[Z (k:Int)]?=G (vT a)/\Aa PP F (U bt (fs++[vT a]++cs)) (bi [] []) (db (p a)) (bi [] [])/\(p a=J->di (k:Int)=di (c7 p (W k l) k))/\(p a=O->di (yr yq ((k:Int)+1))=di (↑(k+1):Int)/\Nv.It (AI (CN 0) PP (fun env σ1=>AL PP oz env σ1 (di (c7 p (W k l) k)) bf) [kl mr [1,0,1,0,0],bh 0,kc mr [1,1]] (b9 19 [(0,bt (ai (U eT l))),(1,bt (bw F fs cs)),(7,di (I l:Int)),(8,di (↑(k+1):Int))]) bf)))/\(Y ((k:Int)<(I l:Int))=O->di (-1)=di (c7 p (W k l) k))) ⟨fun h=>?_,fun h=>?_⟩
 ·have hk:k<I l:=by simpa using h
  have hx:l[k]?=G l[k]:=HQ hk
  rw[Ih hk]
  generalize l[k]=x at hx⊢
  refine⟨x,by omega,GQ hx,hp x (HW hx),fun hf=>by simp[c7,hf],fun hf=>⟨As,⟨?_⟩⟩⟩
  simp only[c7,hf]
  exact ih (I l- (k+1)) (by omega) (k+1) rfl
 ·have hk:I l<=k:=by simpa using h
  rw[Im hk];rfl
theorem Acx(F:yv)(fs cs:List V)(p:bc->Bool)(l:List (bc))(hl:I l<=1000000)(hp:∀x∈l,F0 F ((fs++[vT x]++cs).map .v) (db (p x))):
  F0 220 [dl (l.map eT),.v (.fn F fs cs)] (di (c7 p l 0)):=by
 refine sv oz 19 [] (.l [ke 0,ke 1,ch 7 (di (I l)),ch 8 (di (0:Nat))]) (di (I (U eT l):Int)=di (I l:Int)/\Q (di 0)/\I0 oz (I bf.H) (di (c7 p l 0)) bf [kl mr [1,0,1,0,0],bh 0,kc mr [1,1]] (b9 19 [(0,dl (U eT l)),(1,bt (bw F fs cs)),(7,di (I l:Int)),(8,di (↑0:Int))]) bf) ⟨by simp,rfl,⟨?_⟩⟩
 exact Acy F fs cs p l hl hp _ 0 rfl
noncomputable abbrev Ak8:=Tryz.f175
theorem Mc(F:yv)(fs cs:List V)(p:bc->Bool)(l:List (bc))(hl:I l<=1000000)(hp:∀x∈l,F0 F ((fs++[vT x]++cs).map .v) (db (p x))):
  F0 175 [dl (l.map eT),.v (.fn F fs cs)] (db (l.any p)):=by
 exact sv Ak8 9 [] (.c (di (c7 p l 0)) .r) (_/\db (Y (c7 p l 0>=0))=db (List.any l p)) ⟨Acx F fs cs p l hl hp,by rw[←Kz]⟩
noncomputable abbrev Amf:=Tryz.f218
noncomputable abbrev Akm:=Tryz.f242
noncomputable abbrev Akr:=Tryz.f174
def Xx(x:Int):Bool:=Y (x<0)||Y (x>=6)
theorem Abs(x:Int):F0 242 [di x] (db (Xx x)):=by
 refine sv Akm 9 [] (.b .r .r) ((Y (x<0)=J->db J=db (Xx x))/\(Y (x<0)=O->db (Y (x>=6))=db (Xx x))) ?_
 refine⟨fun h=>?_,fun h=>?_⟩<;>simp[Xx, *]
def Ed(r:List Int):Bool:=Y ((I r:Int)>=1)&&(Y ((I r:Int)<=6)&& !(r.any Xx))
theorem Abr(r:List Int):F0 218 [cy r] (db (Ed r)):=by
 refine sv Amf 16 [] (.b (.b (.c (db (r.any Xx)) .r) .r) .r) ((Y ((I (U vi r):Int)>=1)=J->(Y ((I (U vi r):Int)<=6)=J->F0 155 [cy r,bt (bw 242 [] [])] (db (List.any r Xx))/\(db !List.any r Xx)=db (Ed r))/\(Y ((I (U vi r):Int)<=6)=O->db O=db (Ed r)))/\(Y ((I (U vi r):Int)>=1)=O->db O=db (Ed r))) ?_
 refine⟨fun h1=>⟨fun h2=>⟨DO _ [] [] Xx r (by have h2:=Ib h2;rw[HP] at h2;omega) fun x _=>Abs x,?_⟩,fun h2=>?_⟩,fun h1=>?_⟩<;>(try simp only[HP] at*)<;>simp only[Ed,h1,I2,Iz]<;>simp only[h2,I2,Iz]
theorem Abw(r:List Int)(h:Ed r=J):F0 174 [cy r,dl []] (db J):=by
 refine sv Akr 18 [2] (.c (db (Ed r))<|.t<|.k<|.c (db O) .r) (F0 218 [cy r] (db (Ed r))/\Ed r=J/\F0 155 [bt (ai []),bt (bw 219 [] [bz (cz r)])] (db O)/\(db !false)=db J) ?_
 exact⟨Abr r,h,DO _ [] [_] (fun _=>false) [] (by simp) (fun x hx=>by simp at hx),rfl⟩
noncomputable abbrev lc:=Tryz.f124
noncomputable abbrev Ame:=Tryz.f176
def B4:Nat->bc->Bool
 |0,_=>false
 |d+1,.nat=>true
 |d+1,.lab n=>Y (n>=1)&&Y (n<=16)
 |d+1,.prio n r=>(n==I r)&&Ed r
 |d+1,.word t=>B4 d t
 |d+1,.bag t=>B4 d t
 |d+1,.prod l=> !((I l:Int)==0)&&(!decide ((I l:Int)>8)&&l.all (B4 d))
theorem H3(t:bc)(d:Nat)(hd:d<=100)(h:F0 124 [dT t,di d] (db J)):F0 176 [dT t,.v (.ref (vi ((d+1:Nat):Int)))] (db O):=by
 refine sv Ame 9 [2] (.c (db J) .r) (F0 124 [bt (vT t),di (yr yq ((↑(d+1):Int)-1))] (db J)/\Q (db O)) ⟨?_,rfl⟩
 rw[show yq.wrap (((d+1:Nat):Int)-1)=d by rw[A2];omega]
 exact h
theorem Xy(d:Nat):F0 124 [dT .nat,di ((d+1:Nat):Int)] (db J):=by
 have hz:(((d+1:Nat):Int)==0)=O:=I7.2 (by omega)
 exact sv lc 94 [2,3] (.f .r) (_/\Q (db J)) ⟨hz,rfl⟩
theorem Xz(d:Nat)(n:Int)(h1:1<=n)(h2:n<=16):F0 124 [dT (.lab n),di ((d+1:Nat):Int)] (db J):=by
 have hz:(((d+1:Nat):Int)==0)=O:=I7.2 (by omega)
 exact sv lc 94 [2,3] (.f<|.k<|.k<|.k<|.k<|.k<|.k<|.t .r) (_/\Y (bc.sz (bc.lab n)>=1)=J/\db (Y (bc.sz (bc.lab n)<=16))=db J) ⟨hz,HS h1,Iq db (HS h2)⟩
theorem UU(d:Nat)(n:Int)(r:List Int)(h1:n=I r)(h2:Ed r=J):F0 124 [dT (.prio n r),di ((d+1:Nat):Int)] (db J):=by
 have hz:(((d+1:Nat):Int)==0)=O:=I7.2 (by omega)
 have h3:=h2
 simp only[Ed,HR,Ia] at h3
 refine sv lc 94 [2,3] (.f<|.t<|.k<|.k<|.k<|.k<|.k<|.k<|.t<|.c (db J) .r) (_/\Y ((I (U vi (bc.rk (bc.prio n r))):Int)>0)=J/\(bc.sz (bc.prio n r)==(I (U vi (bc.rk (bc.prio n r))):Int))=J/\_/\Q (db J)) ⟨hz,HS ?_,?_,Abw r h2,rfl⟩
 ·simp only[bc.rk,HP];omega
 ·simp only[bc.sz,bc.rk,HP,h1,beq_self_eq_true]
theorem US(d:Nat)(t:bc)(hd:d<=100)(h:F0 124 [dT t,di d] (db J)):F0 124 [dT (.word t),di ((d+1:Nat):Int)] (db J):=by
 have hz:(((d+1:Nat):Int)==0)=O:=I7.2 (by omega)
 exact sv lc 94 [2,3] (.f<|.c (db O) .r) (_/\_/\Q (db J)) ⟨hz,Mc _ [] [_] (fun _=>false) [t] (by simp) (fun x hx=>by rw[Ii.1 hx];exact H3 t d hd h),rfl⟩
theorem X0(d:Nat)(t:bc)(hd:d<=100)(h:F0 124 [dT t,di d] (db J)):F0 124 [dT (.bag t),di ((d+1:Nat):Int)] (db J):=by
 have hz:(((d+1:Nat):Int)==0)=O:=I7.2 (by omega)
 exact sv lc 94 [2,3] (.f<|.c (db O) .r) (_/\_/\Q (db J)) ⟨hz,Mc _ [] [_] (fun _=>false) [t] (by simp) (fun x hx=>by rw[Ii.1 hx];exact H3 t d hd h),rfl⟩
theorem UT(d:Nat)(l:List bc)(hd:d<=100)(h1:((I l:Int)==0)=O)(h2:Y ((I l:Int)>8)=O)(h:∀t∈l,F0 124 [dT t,di d] (db J)):F0 124 [dT (.prod l),di ((d+1:Nat):Int)] (db J):=by
 have hz:(((d+1:Nat):Int)==0)=O:=I7.2 (by omega)
 refine sv lc 94 [2,3] (.f<|.k<|.k<|.k<|.k<|.k<|.k<|.k<|.k<|.f<|.f<|.c (db O) .r) (_/\((I (U eT (bc.ps (bc.prod l))):Int)==0)=O/\Y ((I (U eT (bc.ps (bc.prod l))):Int)>8)=O/\F0 175 [bt (ai (U eT (bc.ps (bc.prod l)))),bt (bw 176 [] [bz (vi (↑(d+1):Int))])] (db O)/\Q (db J)) ⟨hz,by simpa[bc.ps] using h1,by simpa[bc.ps] using h2,?_,rfl⟩
 have h3:¬((I l:Int)>8):=IB h2
 have:=Mc 176 [] [.ref (vi ((d+1:Nat):Int))] (fun _=>false) l (by omega) (fun x hx=>H3 x d hd (h x hx))
 rw[show l.any (fun _=>false)=O by induction l<;>simp_all] at this
 exact this
theorem GF:∀(d:Nat) (t:bc),d<=100->B4 d t=J->F0 124 [dT t,di d] (db J)
 |0,t,_,h=>by simp[B4] at h
 |d+1,.nat,_,h=>Xy d
 |d+1,.lab n,_,h=>by
  simp only[B4,HR,Ia] at h
  exact Xz d n h.1 h.2
 |d+1,.prio n r,_,h=>by
  simp only[B4,HR,I4] at h
  exact UU d n r h.1 h.2
 |d+1,.word t,hd,h=>US d t (by omega) (GF d t (by omega) (by simpa only[B4] using h))
 |d+1,.bag t,hd,h=>X0 d t (by omega) (GF d t (by omega) (by simpa only[B4] using h))
 |d+1,.prod l,hd,h=>by
  simp only[B4,HR,IJ,ID] at h
  exact UT d l (by omega) h.1 h.2.1 fun t ht=>GF d t (by omega) (h.2.2 t ht)
noncomputable abbrev Akz:=Tryz.f65
theorem JG(t:bc)(h:B4 8 t=J):F0 65 [dT t] (di 0):=by
 exact sv Akz 6 [1] (.c (db J) .r) (_/\Q (di 0)) ⟨GF 8 t (by omega) h,rfl⟩
noncomputable abbrev nc:=Tryz.f125
noncomputable def mz:=yj nc
theorem AcZ(N:Nat):∀v:bd,v.size<=N->∀m:Int,0<=m->m<=1000->F0 125 [dV v,di m] (di (min (v.size:Int) (m+1))):=by
 induction N with
 |zero=>intro v hv;have:=v.size_pos;omega
 |succ N ihN=>
  intro v hv m hm0 hm1
  have hsz:=v.size_eq
  have loop (n:Nat):∀(k:Nat) (a:Int),I v.az-k=n->k+1<=a->a<=m+1->
    Rn PP nc 0 (di (min (a+(bd.sizes (v.az.drop k):Int)) (m+1))) bf ([kl mz [1,1,0,1,0,0],.blk 0,kc mz [1,1,1]]++[]) (b9 27 [(1,di m),(5,di a),(9,cx v.az),(10,di (I v.az)),(11,di k)]) bf:=by
   induction n using Nat.strongRecOn with
   |_ n ih=>
   intro k a hn ha0 ha1
   refine lv 27 [2] (.b (.e fun x:bd=>.x (Au x)<|.b .r<|.c (di (min (x.size:Int) (m-a+1)))<|.ls [ke 1,ch 5 (di (min (a+(x.size:Int)) (m+1))),ke 9,ke 10,ch 11 (di (k+1:Nat))] bf) .r) ((Y ((k:Int)<(I v.az:Int))=J->∃a_2,0<=(k:Int)/\(U eV v.az)[Z (k:Int)]?=G (Au a_2)/\(Y (a>m)=J->di a=di (min (a+(↑(bd.sizes (W k v.az)):Int)) (m+1)))/\(Y (a>m)=O->Aa PP 125 [dV a_2,di (yr yq (m-a))] (bi [] []) (di (min (↑(bd.size a_2):Int) (m-a+1))) (bi [] [])/\di (yr yq (a+min (↑(bd.size a_2):Int) (m-a+1)))=di (min (a+(↑(bd.size a_2):Int)) (m+1))/\di (yr yq ((k:Int)+1))=di (↑(k+1):Int)/\Nv.It (AI (CN 0) PP (fun env σ1=>AL PP nc env σ1 (di (min (a+(↑(bd.sizes (W k v.az)):Int)) (m+1))) bf) [kl mz [1,1,0,1,0,0],bh 0,kc mz [1,1,1]] (b9 27 [(1,di m),(5,di (min (a+(↑(bd.size a_2):Int)) (m+1))),(9,cx v.az),(10,di (I v.az:Int)),(11,di (↑(k+1):Int))]) bf)))/\(Y ((k:Int)<(I v.az:Int))=O->di a=di (min (a+(↑(bd.sizes (W k v.az)):Int)) (m+1)))) ⟨fun h=>?_,fun h=>?_⟩
   ·have hk:k<I v.az:=by simpa using h
    have hx:v.az[k]?=G v.az[k]:=HQ hk
    rw[Ih hk]
    generalize v.az[k]=x at hx⊢
    have hxs:=bd.size_mem (HW hx)
    have hx1:=x.size_pos
    simp only[bd.sizes]
    refine⟨x,by omega,A1 hx,fun h1=>?_,fun h1=>⟨?_,?_,As,⟨?_⟩⟩⟩
    ·have h1:=Ib h1
     rw[IR];split<;>congr 1<;>omega
    ·rw[A2]
     have h1:=IB h1
     exact ihN x (by omega) (m-a) (by omega) (by omega)
    ·have h1:=IB h1
     rw[A2 (by rw[IR];split<;>omega) (by rw[IR];split<;>omega)]
     simp only[IR];congr 1;split<;>split<;>omega
    ·have h1:=IB h1
     have:=ih (I v.az- (k+1)) (by omega) (k+1) (min (a+(x.size:Int)) (m+1)) rfl (by rw[IR];split<;>omega) (by rw[IR];split<;>omega)
     rw[show min (min (a+(x.size:Int)) (m+1)+(bd.sizes (v.az.drop (k+1)):Int)) (m+1)=min (a+((x.size+bd.sizes (v.az.drop (k+1)):Nat):Int)) (m+1) by simp only[IR];(repeat' split)<;>omega] at this
     exact this
   ·have hk:I v.az<=k:=by simpa using h
    rw[Im hk]
    simp only[bd.sizes];rw[IR];split<;>congr 1<;>omega
  refine sv nc 27 [2] (.l [ke 1,ch 5 (di 1),ke 9,ch 10 (di (I v.az)),ch 11 (di (0:Nat))]) (Q (di 1)/\di (I (U eV v.az):Int)=di (I v.az:Int)/\Q (di 0)/\I0 nc (I bf.H) (di (min (↑(bd.size v):Int) (m+1))) bf [kl mz [1,1,0,1,0,0],bh 0,kc mz [1,1,1]] (b9 27 [(1,di m),(5,di 1),(9,cx v.az),(10,di (I v.az:Int)),(11,di (↑0:Int))]) bf) ⟨rfl,by rw[HP],rfl,⟨?_⟩⟩
  have:=loop _ 0 1 rfl (by omega) (by omega)
  rw[J1,show(1:Int)+(bd.sizes v.az:Int)=v.size by omega] at this
  exact this
noncomputable abbrev AiC:=Tryz.f66
theorem GM(v:bd):F0 66 [dV v] (di (min (v.size:Int) 129)):=by
 exact sv AiC 6 [1] (.c (di (min (v.size:Int) 129)) .r) (_/\di (if 129<min (↑(bd.size v):Int) 129 then 129 else min (↑(bd.size v):Int) 129)=di (min (↑(bd.size v):Int) 129)) ⟨AcZ _ v (HX _) 128 (by decide) (by decide),by rw[Ij (by rw[IR];split<;>omega)]⟩
noncomputable abbrev Akx:=Tryz.f36
def Aw(t:bc)(v:bd):Bool:=Y ((v.size:Int)<=128)&&A0 t v
theorem F5(t:bc)(h:B4 8 t=J)(v:bd):F0 36 [dT t,dV v] (db (Aw t v)):=by
 refine sv Akx 18 [2,3] (.c (di 0)<|.c (di (min (v.size:Int) 129))<|.b (.c (db (A0 t v)) .r) .r) (_/\_/\(Y (min (↑(bd.size v):Int) 129<=128)=J->F0 67 [bt (vT t),dV v] (db (A0 t v))/\db (A0 t v)=db (Aw t v))/\(Y (min (↑(bd.size v):Int) 129<=128)=O->db O=db (Aw t v))) ⟨JG t h,GM v,fun h1=>?_,fun h1=>?_⟩
 ·have h1:=Ib h1
  have h2:(v.size:Int)<=128:=by rw[IR] at h1;split at h1<;>omega
  exact⟨Oz _ t (HX _) v (by omega),by rw[Aw,HS h2,I2]⟩
 ·have h1:=IB h1
  rw[Aw,HU (show ¬(v.size:Int)<=128 by rw[IR] at h1;split at h1<;>omega),Iz]
theorem PV(t:bc)(h:B4 8 t=J)(v:bd)(_:v.size<=1000000):F0 36 [dT t,dV v] (db (Aw t v)):=F5 t h v
noncomputable abbrev nv:=Tryz.f154
structure ko where
 pl:Int
 ph:Int
 ll:Int
 lh:Int
 vl:Int
 vh:Int
 al:Int
 ah:Int
abbrev V3(l:ko):D:=.v (.agg [vi l.pl,vi l.ph,vi l.ll,vi l.lh,vi l.vl,vi l.vh,vi l.al,vi l.ah])
abbrev pf:ko:=⟨1,6,0,0,0,0,0,0⟩
abbrev mf:ko:=⟨1,2,1,6,0,0,0,0⟩
abbrev pa:ko:=⟨1,6,0,0,0,0,0,3⟩
theorem AlS:F0 154 [di 1] (V3 pf):=by
 refine sv nv 29 [] .r (bt (ab [vi 1,vi 6,vi 0,vi 0,vi 0,vi 0,vi 0,vi 0])=V3 pf) ?_
 rfl
theorem AlR:F0 154 [di 2] (V3 mf):=by
 refine sv nv 29 [] .r (bt (ab [vi 1,vi 2,vi 1,vi 6,vi 0,vi 0,vi 0,vi 0])=V3 mf) ?_
 rfl
theorem AlQ:F0 154 [di 3] (V3 mf):=by
 refine sv nv 29 [] .r (bt (ab [vi 1,vi 2,vi 1,vi 6,vi 0,vi 0,vi 0,vi 0])=V3 mf) ?_
 rfl
theorem AlO:F0 154 [di 5] (V3 pa):=by
 refine sv nv 29 [] .r (bt (ab [vi 1,vi 6,vi 0,vi 0,vi 0,vi 0,vi 0,vi 3])=V3 pa) ?_
 rfl
noncomputable abbrev Ai6:=Tryz.f104
def C3(l:ko)(m:ba):Bool:=A6 (I m.aw) 1 8&&(Y ((I m.av:Int)<=12)&&(A6 (I m.ay) l.pl l.ph&&(A6 (I m.ax) l.ll l.lh&&(A6 m.ao l.vl l.vh&&A6 m.age l.al l.ah))))
theorem JW(l:ko)(m:ba)(h:F0 154 [di m.kind] (V3 l)):F0 104 [Ax m] (db (C3 l m)):=by
 refine sv Ai6 63 [1] (.c (V3 l)<|.c (db (A6 (I m.aw) 1 8))<|.b (.b (.c (db (A6 (I m.ay) l.pl l.ph))<|.b (.c (db (A6 (I m.ax) l.ll l.lh))<|.b (.c (db (A6 m.ao l.vl l.vh))<|.b (.c (db (A6 m.age l.al l.ah)) .r) .r) .r) .r) .r) .r) (F0 154 [di m.kind] (V3 l)/\F0 103 [di (I (U ae m.aw):Int),di 1,di 8] (db (A6 (I m.aw:Int) 1 8))/\(A6 (I m.aw:Int) 1 8=J->(Y ((I (U AD m.av):Int)<=12)=J->iz 0<=0/\0<(↑2:Int)/\iz 0<=1/\1<(↑2:Int)/\F0 103 [di (I (U ae m.ay):Int),di l.pl,di l.ph] (db (A6 (I m.ay:Int) l.pl l.ph))/\(A6 (I m.ay:Int) l.pl l.ph=J->iz 0<=0/\0<(↑2:Int)/\iz 0<=1/\1<(↑2:Int)/\F0 103 [di (I (U ae m.ax):Int),di l.ll,di l.lh] (db (A6 (I m.ax:Int) l.ll l.lh))/\(A6 (I m.ax:Int) l.ll l.lh=J->iz 0<=0/\0<(↑2:Int)/\iz 0<=1/\1<(↑2:Int)/\F0 103 [di m.ao,di l.vl,di l.vh] (db (A6 m.ao l.vl l.vh))/\(A6 m.ao l.vl l.vh=J->iz 0<=0/\0<(↑2:Int)/\iz 0<=1/\1<(↑2:Int)/\F0 103 [di m.age,di l.al,di l.ah] (db (A6 m.age l.al l.ah))/\db (A6 m.age l.al l.ah)=db (C3 l m))/\(A6 m.ao l.vl l.vh=O->db O=db (C3 l m)))/\(A6 (I m.ax:Int) l.ll l.lh=O->db O=db (C3 l m)))/\(A6 (I m.ay:Int) l.pl l.ph=O->db O=db (C3 l m)))/\(Y ((I (U AD m.av):Int)<=12)=O->db O=db (C3 l m)))/\(A6 (I m.aw:Int) 1 8=O->db O=db (C3 l m))) ?_
 repeat' first|with_reducible refine And.intro ?_ ?_|intro _
 all_goals first|exact h|exact DV _ _ _|(simp only[HP];exact DV _ _ _)|decide|(simp_all [C3];done)|(simp_all [C3]<;>(intro h1<;>exfalso;omega))
noncomputable abbrev AfV:=Tryz.f105
noncomputable abbrev AcE:=Tryz.f156
theorem PO(x:Int):F0 156 [di x] (db (!A6 x 0 5)):=by
 exact sv AcE 6 [] (.c (db (A6 x 0 5)) .r) (_/\Q (db !A6 x 0 5)) ⟨DV x 0 5,rfl⟩
def BJ(m:ba):Bool:=if (m.kind !=3)=J then(I m.au:Int)==0 else((I m.au:Int)==I m.ax)&&m.au.all fun x=>A6 x 0 5
theorem H8(m:ba)(hm:I m.au<=1000000):F0 105 [Ax m] (db (BJ m)):=by
 refine sv AfV 23 [1] (.b .r (.b (.c (db (m.au.any fun x=> !A6 x 0 5)) .r) .r)) (((m.kind !=3)=J->db ((I (U vi m.au):Int)==0)=db (BJ m))/\((m.kind !=3)=O->(((I (U vi m.au):Int)==(I (U ae m.ax):Int))=J->F0 155 [cy m.au,bt (bw 156 [] [])] (db (List.any m.au fun x=> !A6 x 0 5))/\(db !List.any m.au fun x=> !A6 x 0 5)=db (BJ m))/\(((I (U vi m.au):Int)==(I (U ae m.ax):Int))=O->db O=db (BJ m)))) ⟨fun h1=>?_,fun h1=>⟨fun h2=>⟨DO _ [] [] _ m.au hm fun x _=>PO x,?_⟩,fun h2=>?_⟩⟩
 ·simp only[BJ,h1,Jj,HP]
 ·rw[Sb];simp only[HP] at h2;simp[BJ,h1,h2]
 ·simp only[HP] at h2;simp[BJ,h1,h2]
noncomputable abbrev AfX:=Tryz.f111
theorem CK(n:Int):F0 111 [di n] (dT (.lab n)):=by
 refine sv AfX 5 [] .r (bt (ab [vi 2,vi n,ai [],ai []])=dT (bc.lab n)) ?_
 rfl
noncomputable abbrev xy:=Tryz.f113
theorem Vo(t:bc):F0 113 [di 4,dT t] (dT (.word t)):=by
 refine sv xy 9 [3] .r (bt (ab [vi 4,vi 0,ai [],ai [vT t]])=dT (bc.word t)) ?_
 rw[dT,L4];rfl
theorem Mb(t:bc):F0 113 [di 5,dT t] (dT (.bag t)):=by
 refine sv xy 9 [3] .r (bt (ab [vi 5,vi 0,ai [],ai [vT t]])=dT (bc.bag t)) ?_
 rw[dT,Sr];rfl
noncomputable abbrev F8:=Tryz.f53
noncomputable def Eh:=yj F8
abbrev Ho(l:List bc):D:=.acc 1 (l.map eT)
abbrev XM(l:List bc):St:=⟨[G [di 0,di 0,.v .nils,.v .nils]],[(1,4,l.map eT)]⟩
theorem C5(l:List bc)(t:bc):l.map eT++[vT t]=(l++[t]).map eT:=by rw[←HJ];simp
def BB(m:ba):bc:=if m.kind=1 then .nat else if m.kind=2 then .word (.lab (I m.ax)) else .prio (I m.ax) m.au
def AJ(m:ba):bc:=.prod (.lab (I m.aw)::replicate (I m.ay) (BB m))
theorem Rk(m:ba)(hm:I m.ay<=1000)(hk:m.kind=1)(n:Nat):∀(k:Nat) (xs:List bc),I m.ay-k=n->k<=I m.ay->I xs<=k+1->
  Rn PP F8 0 (dT (.prod (xs++replicate n (.nat)))) bf ([kl Eh [1,1,0,1,0,1,1,1,1,1,0,0],.blk 1,.blk 0,kc Eh [1,1,1]]++[]) (b9 70 [(1,.v (.ref (AE m))),(2,.ptr 0 0),(3,Ho xs),(14,di (I m.ay)),(15,di k)]) (XM xs):=by
 induction n with
 |zero=>
  intro k xs hn hk0 hxs
  refine lv 70 [1] (.f .r) (Y ((k:Int)<(I m.ay:Int))=O/\bt (ab [vi 3,vi 0,ai [],ai (U eT xs)])=dT (bc.prod (xs++replicate 0 bc.nat))) ⟨yo,?_⟩
  rw[List.replicate_zero,IG];rfl
 |succ n ih=>
  intro k xs hn hk0 hxs
  have h:=ih (k+1) (xs++[.nat]) (by omega) (by omega) (by simp only[Ig,HV,HZ];omega)
  rw[IZ] at h
  refine lv 70 [1] (.t<|.f<|.f<|.ls [ke 1,ke 2,ch 3 (Ho (xs++[.nat])),ke 14,ch 15 (di (k+1:Nat))] (XM (xs++[.nat]))) (Y ((k:Int)<(I m.ay:Int))=J/\(m.kind==2)=O/\(m.kind==3)=O/\Q (U eT xs)/\A9 (I (U eT xs)+I (ab (aa yq 1::aa yq 0::ai nV::ai nV::nV)::nV)) 64/\br 1 (U eT xs++[ab [vi 1,vi 0,ai [],ai []]])=Ho (xs++[bc.nat])/\di (yr yq ((k:Int)+1))=di (↑(k+1):Int)/\Q (XM (xs++[.nat])).H/\[(1,4,U eT xs++ab (vi 1::vi 0::ai nV::ai nV::nV)::nV)]=[(1,4,U eT (xs++[bc.nat]))]/\_) ⟨yp,by rw[hk];rfl,by rw[hk];rfl,rfl,⟨?_,?_⟩,?_,As,rfl,?_,iK h⟩
  ·simp only[HP,HV,HZ];omega
  ·simp only[HP,HV,HZ];omega
  ·rw[Ho, ←C5];rfl
  ·rw[←C5];rfl
theorem Rj(m:ba)(hm:I m.ay<=1000)(hk:m.kind=2)(n:Nat):∀(k:Nat) (xs:List bc),I m.ay-k=n->k<=I m.ay->I xs<=k+1->
  Rn PP F8 0 (dT (.prod (xs++replicate n (.word (.lab (I m.ax)))))) bf ([kl Eh [1,1,0,1,0,1,1,1,1,1,0,0],.blk 1,.blk 0,kc Eh [1,1,1]]++[]) (b9 70 [(1,.v (.ref (AE m))),(2,.ptr 0 0),(3,Ho xs),(14,di (I m.ay)),(15,di k)]) (XM xs):=by
 induction n with
 |zero=>
  intro k xs hn hk0 hxs
  refine lv 70 [1] (.f .r) (Y ((k:Int)<(I m.ay:Int))=O/\bt (ab [vi 3,vi 0,ai [],ai (U eT xs)])=dT (bc.prod (xs++replicate 0 (bc.word (bc.lab (I m.ax:Int)))))) ⟨yo,?_⟩
  rw[List.replicate_zero,IG];rfl
 |succ n ih=>
  intro k xs hn hk0 hxs
  refine lv 70 [1] (.t<|.t<|.c (dT (.lab (I m.ax)))<|.c (dT (.word (.lab (I m.ax))))<|.ls [ke 1,ke 2,ch 3 (Ho (xs++[.word (.lab (I m.ax))])),ke 14,ch 15 (di (k+1:Nat))] (XM (xs++[.word (.lab (I m.ax))]))) (Y ((k:Int)<(I m.ay:Int))=J/\(m.kind==2)=J/\F0 111 [di (I (U ae m.ax):Int)] (dT (bc.lab (I m.ax:Int)))/\F0 113 [di 4,bt (vT (bc.lab (I m.ax:Int)))] (dT (bc.word (bc.lab (I m.ax:Int))))/\Q (U eT xs)/\A9 (I (U eT xs)+I (ab (vi (bc.kd (bc.word (bc.lab (I m.ax:Int))))::vi (bc.sz (bc.word (bc.lab (I m.ax:Int))))::cz (bc.rk (bc.word (bc.lab (I m.ax:Int))))::ai (U eT (bc.ps (bc.word (bc.lab (I m.ax:Int)))))::nV)::nV)) 64/\br 1 (U eT xs++[ab [vi (bc.kd (bc.word (bc.lab (I m.ax:Int)))),vi (bc.sz (bc.word (bc.lab (I m.ax:Int)))),cz (bc.rk (bc.word (bc.lab (I m.ax:Int)))),ai [eT (bc.lab (I m.ax:Int))]]])=Ho (xs++[bc.word (bc.lab (I m.ax:Int))])/\di (yr yq ((k:Int)+1))=di (↑(k+1):Int)/\Q [G [di 0,di 0,dn,dn]]/\[(1,4,U eT xs++ab (vi (bc.kd (bc.word (bc.lab (I m.ax:Int))))::vi (bc.sz (bc.word (bc.lab (I m.ax:Int))))::cz (bc.rk (bc.word (bc.lab (I m.ax:Int))))::ai (eT (bc.lab (I m.ax:Int))::nV)::nV)::nV)]=[(1,4,U eT (xs++[bc.word (bc.lab (I m.ax:Int))]))]/\I0 F8 0 (dT (bc.prod (xs++replicate (n+1) (bc.word (bc.lab (I m.ax:Int)))))) bf [kl Eh [1,1,0,1,0,1,1,1,1,1,0,0],bh 1,bh 0,kc Eh [1,1,1]] (b9 70 [(1,bt (bz (AE m))),(2,bq 0 0),(3,Ho (xs++[bc.word (bc.lab (I m.ax:Int))])),(14,di (I m.ay:Int)),(15,di (↑(k+1):Int))]) (XM (xs++[bc.word (bc.lab (I m.ax:Int))]))) ?_
  have h:=ih (k+1) (xs++[.word (.lab (I m.ax))]) (by omega) (by omega) (by simp only[Ig,HV,HZ];omega)
  rw[IZ] at h
  refine⟨yp,by rw[hk];rfl,by rw[HP];exact CK _,Vo _,rfl,⟨?_,?_⟩,?_,As,rfl,?_,⟨h⟩⟩
  ·simp only[HP,HV,HZ];omega
  ·simp only[HP,HV,HZ];omega
  ·rw[Ho, ←C5];rfl
  ·rw[←C5];rfl
theorem Ri(m:ba)(hm:I m.ay<=1000)(hr:I m.au<=1000000)(hk:m.kind=3)(n:Nat):∀(k:Nat) (xs:List bc),I m.ay-k=n->k<=I m.ay->I xs<=k+1->
  Rn PP F8 0 (dT (.prod (xs++replicate n (.prio (I m.ax) m.au)))) bf ([kl Eh [1,1,0,1,0,1,1,1,1,1,0,0],.blk 1,.blk 0,kc Eh [1,1,1]]++[]) (b9 70 [(1,.v (.ref (AE m))),(2,.ptr 0 0),(3,Ho xs),(14,di (I m.ay)),(15,di k)]) (XM xs):=by
 induction n with
 |zero=>
  intro k xs hn hk0 hxs
  refine lv 70 [1] (.f .r) (Y ((k:Int)<(I m.ay:Int))=O/\bt (ab [vi 3,vi 0,ai [],ai (U eT xs)])=dT (bc.prod (xs++replicate 0 (bc.prio (I m.ax:Int) m.au)))) ⟨yo,?_⟩
  rw[List.replicate_zero,IG];rfl
 |succ n ih=>
  intro k xs hn hk0 hxs
  have h:=ih (k+1) (xs++[.prio (I m.ax) m.au]) (by omega) (by omega) (by simp only[Ig,HV,HZ];omega)
  rw[IZ] at h
  refine lv 70 [1] (.t<|.f<|.t<|.c (cy m.au)<|.ls [ke 1,ke 2,ch 3 (Ho (xs++[.prio (I m.ax) m.au])),ke 14,ch 15 (di (k+1:Nat))] (XM (xs++[.prio (I m.ax) m.au]))) (Y ((k:Int)<(I m.ay:Int))=J/\(m.kind==2)=O/\(m.kind==3)=J/\_/\Q (U eT xs)/\A9 (I (U eT xs)+I (ab (aa yq 7::aa yq (I (U ae m.ax):Int)::cz m.au::ai nV::nV)::nV)) 64/\br 1 (U eT xs++[ab [vi 7,vi (I (U ae m.ax):Int),cz m.au,ai []]])=Ho (xs++[bc.prio (I m.ax:Int) m.au])/\di (yr yq ((k:Int)+1))=di (↑(k+1):Int)/\Q [G [di 0,di 0,dn,dn]]/\[(1,4,U eT xs++ab (vi 7::vi (I (U ae m.ax):Int)::cz m.au::ai nV::nV)::nV)]=[(1,4,U eT (xs++[bc.prio (I m.ax:Int) m.au]))]/\_) ⟨yp,by rw[hk];rfl,by rw[hk];rfl,Q9 m.au hr,rfl,⟨?_,?_⟩,?_,As,rfl,?_,iK h⟩
  ·simp only[HP,HV,HZ];omega
  ·simp only[HP,HV,HZ];omega
  ·rw[Ho, ←C5];rw[HP];rfl
  ·rw[←C5];rw[HP];rfl
theorem JT(m:ba)(hm:I m.ay<=1000)(hr:I m.au<=1000000)(hk:m.kind=1∨m.kind=2∨m.kind=3):F0 53 [Ax m] (dT (AJ m)):=by
 refine sv F8 70 [1] (.c (dT (.lab (I m.aw)))<|.a 1<|.f<|.f<|.ls [ke 1,ke 2,ch 3 (Ho [.lab (I m.aw)]),ch 14 (di (I m.ay)),ch 15 (di (0:Nat))] (XM [.lab (I m.aw)])) (F0 111 [di (I (U ae m.aw):Int)] (dT (bc.lab (I m.aw:Int)))/\(m.kind==4)=O/\(m.kind==5)=O/\br 1 [vT (bc.lab (I m.aw:Int))]=Ho [bc.lab (I m.aw:Int)]/\di (I (U ae m.ay):Int)=di (I m.ay:Int)/\Q (di 0)/\Q [G [di 0,di 0,dn,dn]]/\Q [(1,4,vT (bc.lab (I m.aw:Int))::nV)]/\I0 F8 (I bf.H) (dT (AJ m)) bf [kl Eh [1,1,0,1,0,1,1,1,1,1,0,0],bh 1,bh 0,kc Eh [1,1,1]] (b9 70 [(1,bt (bz (AE m))),(2,bq 0 0),(3,Ho [bc.lab (I m.aw:Int)]),(14,di (I m.ay:Int)),(15,di (↑0:Int))]) (XM [bc.lab (I m.aw:Int)])) ⟨by rw[HP];exact CK _,by rcases hk with h|h|h<;>rw[h]<;>rfl,by rcases hk with h|h|h<;>rw[h]<;>rfl,rfl,by rw[HP],rfl,rfl,rfl,⟨?_⟩⟩
 rcases hk with h|h|h
 ·have:=Rk m hm h _ 0 [.lab (I m.aw)] rfl (by omega) (by simp)
  rw[Nat.sub_zero] at this
  rw[AJ,show BB m=.nat by simp[BB,h]]
  exact this
 ·have:=Rj m hm h _ 0 [.lab (I m.aw)] rfl (by omega) (by simp)
  rw[Nat.sub_zero] at this
  rw[AJ,show BB m=.word (.lab (I m.ax)) by simp[BB,h]]
  exact this
 ·have:=Ri m hm hr h _ 0 [.lab (I m.aw)] rfl (by omega) (by simp)
  rw[Nat.sub_zero] at this
  rw[AJ,show BB m=.prio (I m.ax) m.au by simp[BB,h]]
  exact this
noncomputable abbrev n5:=Tryz.f160
noncomputable def mt:=yj n5
theorem Ac0(F:yv)(fs cs:List V)(p:cq->Bool)(l:List (cq))(hl:I l<=1000000)(hp:∀x∈l,F0 F ((fs++[AD x]++cs).map .v) (db (p x)))(n:Nat):∀k:Nat,I l-k=n->
  Rn PP n5 0 (di (c7 p (l.drop k) k)) bf ([kl mt [1,0,1,0,0],.blk 0,kc mt [1,1]]++[]) (b9 19 [(0,dl (l.map AD)),(1,.v (.fn F fs cs)),(7,di (I l)),(8,di k)]) bf:=by
 induction n using Nat.strongRecOn with
 |_ n ih=>
 intro k hn
 refine lv 19 [] (.b (.e fun x:cq=>.x (AD x)<|.c (db (p x))<|.b .r (.l [ke 0,ke 1,ke 7,ch 8 (di (k+1:Nat))])) .r) ((Y ((k:Int)<(I l:Int))=J->∃a,0<=(k:Int)/\(U AD l)[Z (k:Int)]?=G (AD a)/\Aa PP F (U bt (fs++[AD a]++cs)) (bi [] []) (db (p a)) (bi [] [])/\(p a=J->di (k:Int)=di (c7 p (W k l) k))/\(p a=O->di (yr yq ((k:Int)+1))=di (↑(k+1):Int)/\Nv.It (AI (CN 0) PP (fun env σ1=>AL PP n5 env σ1 (di (c7 p (W k l) k)) bf) [kl mt [1,0,1,0,0],bh 0,kc mt [1,1]] (b9 19 [(0,bt (ai (U AD l))),(1,bt (bw F fs cs)),(7,di (I l:Int)),(8,di (↑(k+1):Int))]) bf)))/\(Y ((k:Int)<(I l:Int))=O->di (-1)=di (c7 p (W k l) k))) ⟨fun h=>?_,fun h=>?_⟩
 ·have hk:k<I l:=by simpa using h
  have hx:l[k]?=G l[k]:=HQ hk
  rw[Ih hk]
  generalize l[k]=x at hx⊢
  refine⟨x,by omega,A3 hx,hp x (HW hx),fun hf=>by simp[c7,hf],fun hf=>⟨As,⟨?_⟩⟩⟩
  simp only[c7,hf]
  exact ih (I l- (k+1)) (by omega) (k+1) rfl
 ·have hk:I l<=k:=by simpa using h
  rw[Im hk];rfl
theorem Acz(F:yv)(fs cs:List V)(p:cq->Bool)(l:List (cq))(hl:I l<=1000000)(hp:∀x∈l,F0 F ((fs++[AD x]++cs).map .v) (db (p x))):
  F0 160 [dl (l.map AD),.v (.fn F fs cs)] (di (c7 p l 0)):=by
 refine sv n5 19 [] (.l [ke 0,ke 1,ch 7 (di (I l)),ch 8 (di (0:Nat))]) (di (I (U AD l):Int)=di (I l:Int)/\Q (di 0)/\I0 n5 (I bf.H) (di (c7 p l 0)) bf [kl mt [1,0,1,0,0],bh 0,kc mt [1,1]] (b9 19 [(0,dl (U AD l)),(1,bt (bw F fs cs)),(7,di (I l:Int)),(8,di (↑0:Int))]) bf) ⟨by simp,rfl,⟨?_⟩⟩
 exact Ac0 F fs cs p l hl hp _ 0 rfl
noncomputable abbrev Ak9:=Tryz.f107
theorem Md(F:yv)(fs cs:List V)(p:cq->Bool)(l:List (cq))(hl:I l<=1000000)(hp:∀x∈l,F0 F ((fs++[AD x]++cs).map .v) (db (p x))):
  F0 107 [dl (l.map AD),.v (.fn F fs cs)] (db (l.any p)):=by
 exact sv Ak9 9 [] (.c (di (c7 p l 0)) .r) (_/\db (Y (c7 p l 0>=0))=db (List.any l p)) ⟨Acz F fs cs p l hl hp,by rw[←Kz]⟩
def HC(m:ba):ko:=if m.kind=1 then pf else mf
def Da(m:ba)(r:cq):Bool:=if m.kind=1 then Ec m r else Es m r
structure ba.okN(m:ba):Prop where
 kind:m.kind=1∨m.kind=2∨m.kind=3
 sized:C3 (HC m) m=J
 ranked:BJ m=J
 named:Db m=J
structure ba.okS(m:ba):Prop where
 n:m.okN
 rshort:∀r∈m.av,r.short
 right:∀r∈m.av,Da m r=J
structure ba.ok(m:ba):Prop where
 kind:m.kind=1∨m.kind=2∨m.kind=3
 sized:C3 (HC m) m=J
 ranked:BJ m=J
 named:Db m=J
 rshort:∀r∈m.av,r.short
 right:∀r∈m.av,Da m r=J
 start:Aw (AJ m) m.start=J
 ssize:m.start.size<=1000000
theorem ba.ok.n{m:ba}(h:m.ok):m.okN:=⟨h.kind,h.sized,h.ranked,h.named⟩
theorem ba.ok.s{m:ba}(h:m.ok):m.okS:=⟨h.n,h.rshort,h.right⟩
instance {m:ba}:Coe m.ok m.okN:=⟨ba.ok.n⟩
instance {m:ba}:Coe m.okS m.okN:=⟨ba.okS.n⟩
instance {m:ba}:Coe m.ok m.okS:=⟨ba.ok.s⟩
theorem Ci{x a b:Int}(h:A6 x a b=J):a<=x/\x<=b:=by simpa[A6] using h
theorem ba.okN.sz{m:ba}(h:m.okN):1<=I m.aw/\m.aw.length<=8/\m.av.length<=12/\1<=I m.ay/\m.ay.length<=6/\m.ax.length<=6/\m.au.length<=6/\(m.kind≠1->1<=I m.ax):=by
 have hs:=h.sized
 simp only[C3,HR,Ia] at hs
 obtain⟨h1,h2,h3,h4,h5,h6⟩:=hs
 have h1:=Ci h1
 have h3:=Ci h3
 have h4:=Ci h4
 have hr:=h.ranked
 have hl:(HC m).pl=1/\(HC m).ph<=6/\(HC m).lh<=6/\(m.kind≠1->(HC m).ll=1):=by
  unfold HC
  split
  ·rename_i hk
   exact⟨rfl,by decide,by decide,fun hk2=>absurd hk hk2⟩
  ·exact⟨rfl,by decide,by decide,fun _=>rfl⟩
 have hrk:I m.au=0∨m.au.length=I m.ax:=by
  unfold BJ at hr
  split at hr
  ·exact .inl (by simpa using hr)
  ·right
   simp only[HR,I4] at hr
   exact Int.ofNat_inj.1 hr.1
 obtain⟨a1,a2,a3,a4⟩:=hl
 refine⟨by omega,by omega,by omega,by omega,by omega,by omega,by omega,fun hk=>?_⟩
 have:=a4 hk
 omega
theorem ba.ok.sz{m:ba}(h:m.ok):1<=I m.aw/\m.aw.length<=8/\m.av.length<=12/\1<=I m.ay/\m.ay.length<=6/\m.ax.length<=6/\m.au.length<=6/\(m.kind≠1->1<=I m.ax):=h.n.sz
theorem ba.okS.short{m:ba}(h:m.okS):m.short:=by
 obtain⟨h1,h2,h3,h4,h5,h6,h7,h8⟩:=h.n.sz
 exact⟨by omega,by omega,by omega,by omega,by omega,h.rshort⟩
theorem ba.ok.short{m:ba}(h:m.ok):m.short:=h.s.short
theorem ba.okN.good{m:ba}(h:m.okN):B4 8 (AJ m)=J:=by
 obtain⟨h1,h2,h3,h4,h5,h6,h7,h8⟩:=h.sz
 have he:B4 7 (BB m)=J:=by
  unfold BB
  split
  ·rfl
  ·rename_i hk
   split
   ·have:=h8 hk
    simp only[B4,HR,Ia];omega
   ·rename_i hk2
    have hk3:m.kind=3:=by rcases h.kind with h|h|h<;>omega
    have hr:=h.ranked
    simp only[BJ,hk3,bne_self_eq_false,J6,if_false,HR,I4,ID] at hr
    have:=h8 hk
    simp only[B4,Ed,HR,I4,Ia,IJ,List.any_eq_false,Bool.not_eq_true]
    refine⟨by omega,by omega,by omega,fun x hx=>?_⟩
    have:=Ci (hr.2 x hx)
    simp only[Xx,Bool.or_eq_false_iff,Jt];omega
 simp only[AJ,B4,HV,List.length_replicate,all_cons,HR,IJ,I7,Jt,Ia,ID]
 refine⟨by omega,by omega,⟨by omega,by omega⟩,fun t ht=>?_⟩
 rw[(List.mem_replicate.1 ht).2];exact he
theorem ba.ok.good{m:ba}(h:m.ok):B4 8 (AJ m)=J:=h.n.good
theorem Afm(m:ba)(hm:m.okS)(r:cq)(hr:r∈m.av):F0 109 [Ax m,AZ r] (db J):=by
 have h:=hm.right r hr
 rcases hm.n.kind with hk|hk
 ·rw[Da,Io hk] at h
  rw[←h];exact Rw m hm.short hk r (hm.rshort r hr)
 ·rw[Da,Ij (by omega)] at h
  rw[←h];exact Rv m hm.short hk r (hm.rshort r hr)
noncomputable abbrev tj:=Tryz.f108
theorem Zx(m:ba)(hm:m.okS)(r:cq)(hr:r∈m.av):F0 108 [AZ r,.v (.ref (AE m))] (db O):=by
 exact sv tj 8 [2] (.c (db J) .r) (_/\Q (db O)) ⟨Afm m hm r hr,rfl⟩
noncomputable abbrev Am3:=Tryz.f110
theorem ZA(m:ba)(t:bc)(b:Bool)(hk:(m.kind==6)=O)(hT:F0 53 [Ax m] (dT t))(hV:F0 36 [dT t,dV m.start] (db b)):F0 110 [Ax m] (db b):=by
 exact sv Am3 22 [1] (.f<|.c (dT t)<|.c (db b) .r) (_/\_/\_/\Q (db b)) ⟨hk,hT,hV,rfl⟩
noncomputable abbrev Amx:=Tryz.f52
def j0(b1 b2 b3 b4 b5 b6:Bool):Int:=if b1 then(if b2 then(if b3 then(if b4 then(if b5 then 16 else(if b6 then 0 else 17)) else 13) else 14) else 1) else 15
theorem RW(m:ba)(b1 b2 b3 b4 b5 b6:Bool)(h1:A6 m.kind 1 6=b1)(h2:b1=J->F0 104 [Ax m] (db b2))(h3:b2=J->F0 105 [Ax m] (db b3))(h4:b2=J->F0 106 [Ax m] (db b4))
  (h5:b2=J->F0 107 [.v (Ht m.av),.v (.fn 108 [] [.ref (AE m)])] (db b5)) (h6:b5=O->F0 110 [Ax m] (db b6)):F0 52 [Ax m] (di (j0 b1 b2 b3 b4 b5 b6)):=by
 have h1:=h1▸DV m.kind 1 6
 have nb:∀{b:Bool},(!b)=O->b=J:=fun h=>by simpa using h
 have nt:∀{b:Bool},(!b)=J->b=O:=fun h=>by simpa using h
 exact sv Amx 29 [1] (.c (db b1)<|.b .r<|.c (db b2)<|.b .r<|.c (db b3)<|.b .r<|.c (db b4)<|.b .r<|.c (db b5)<|.b .r<|.c (db b6)<|.b .r .r) (_/\((!b1)=J->di 15=di (j0 b1 b2 b3 b4 b5 b6))/\((!b1)=O->F0 104 [Ax m] (db b2)/\((!b2)=J->di 1=di (j0 b1 b2 b3 b4 b5 b6))/\((!b2)=O->F0 105 [Ax m] (db b3)/\((!b3)=J->di 14=di (j0 b1 b2 b3 b4 b5 b6))/\((!b3)=O->F0 106 [Ax m] (db b4)/\((!b4)=J->di 13=di (j0 b1 b2 b3 b4 b5 b6))/\((!b4)=O->F0 107 [bt (Ht m.av),bt (bw 108 [] [bz (AE m)])] (db b5)/\(b5=J->di 16=di (j0 b1 b2 b3 b4 b5 b6))/\(b5=O->F0 110 [Ax m] (db b6)/\((!b6)=J->di 17=di (j0 b1 b2 b3 b4 b5 b6))/\((!b6)=O->di 0=di (j0 b1 b2 b3 b4 b5 b6)))))))) ⟨h1,fun e=>by rw[nt e];rfl,fun e1=>⟨h2 (nb e1),fun e=>by rw[nb e1,nt e];rfl,fun e2=>⟨h3 (nb e2),fun e=>by rw[nb e1,nb e2,nt e];rfl,fun e3=>⟨h4 (nb e2),fun e=>by rw[nb e1,nb e2,nb e3,nt e];rfl,fun e4=>⟨h5 (nb e2),fun e=>by rw[nb e1,nb e2,nb e3,nb e4,e];rfl,fun e5=>⟨h6 e5,fun e=>by rw[nb e1,nb e2,nb e3,nb e4,e5,nt e];rfl,fun e=>by rw[nb e1,nb e2,nb e3,nb e4,e5,nb e];rfl⟩⟩⟩⟩⟩⟩
theorem Agn(m:ba)(hm:m.okS):F0 52 [Ax m] (di (if Aw (AJ m) m.start then 0 else 17)):=by
 obtain⟨h1,h2,h3,h4,h5,h6,h7,h8⟩:=hm.n.sz
 have:=RW m true true true true false (Aw (AJ m) m.start) (by rcases hm.n.kind with h|h|h<;>rw[h]<;>rfl) (fun _=>?_) (fun _=>?_) (fun _=>?_) (fun _=>?_) (fun _=>ZA m _ _ (by rcases hm.n.kind with h|h|h<;>rw[h]<;>rfl) (JT m (by omega) (by omega) hm.n.kind) (F5 _ hm.n.good _))
 ·exact this
 ·have:=JW (HC m) m (by
   unfold HC
   rcases hm.n.kind with h|h|h<;>rw[h]
   ·exact AlS
   ·exact AlR
   ·exact AlQ)
  rwa[hm.n.sized] at this
 ·have:=H8 m (by omega)
  rwa[hm.n.ranked] at this
 ·have:=O9 m (by simp only[BR,Jx,flatten_nil,Ig,HZ];omega)
  rwa[hm.n.named] at this
 ·have:=Md 108 [] [.ref (AE m)] (fun _=>false) m.av (by omega) (fun r hr=>Zx m hm r hr)
  rw[show m.av.any (fun _=>false)=O by simp] at this
  exact this
theorem HL(m:ba)(hm:m.ok):F0 52 [Ax m] (di 0):=by
 have:=Agn m hm
 rwa[hm.start,Io rfl] at this
noncomputable abbrev tc:=Tryz.f29
theorem Aca(m:ba)(hm:m.ok)(v:bd):F0 29 [Ax m,dV v] (db (Aw (AJ m) v)):=by
 obtain⟨h1,h2,h3,h4,h5,h6,h7,h8⟩:=hm.sz
 exact sv tc 14 [2,3] (.c (di 0)<|.c (dT (AJ m))<|.c (db (Aw (AJ m) v)) .r) (_/\_/\_/\Q (db (Aw (AJ m) v))) ⟨HL m hm,JT m (by omega) (by omega) hm.kind,F5 _ hm.good v,rfl⟩
theorem Qj(m:ba)(hm:m.ok)(v:bd)(_:v.size<=1000000):F0 29 [Ax m,dV v] (db (Aw (AJ m) v)):=Aca m hm v
noncomputable abbrev AiG:=Tryz.f170
theorem Vt(c:UInt8):F0 170 [.v (vb c)] (db (DL c)):=by
 refine sv AiG 21 [] (.b (.b .r (.b (.b .r .r) .r)) (.k<|.b (.b .r .r) .r)) ((Y ((↑(UInt8.toNat c):Int)>=97)=J->(Y ((↑(UInt8.toNat c):Int)<=122)=J->db J=db (DL c))/\(Y ((↑(UInt8.toNat c):Int)<=122)=O->(Y ((↑(UInt8.toNat c):Int)>=48)=J->(Y ((↑(UInt8.toNat c):Int)<=57)=J->db J=db (DL c))/\(Y ((↑(UInt8.toNat c):Int)<=57)=O->db ((↑(UInt8.toNat c):Int)==95)=db (DL c)))/\(Y ((↑(UInt8.toNat c):Int)>=48)=O->db ((↑(UInt8.toNat c):Int)==95)=db (DL c))))/\(Y ((↑(UInt8.toNat c):Int)>=97)=O->(Y ((↑(UInt8.toNat c):Int)>=48)=J->(Y ((↑(UInt8.toNat c):Int)<=57)=J->db J=db (DL c))/\(Y ((↑(UInt8.toNat c):Int)<=57)=O->db ((↑(UInt8.toNat c):Int)==95)=db (DL c)))/\(Y ((↑(UInt8.toNat c):Int)>=48)=O->db ((↑(UInt8.toNat c):Int)==95)=db (DL c)))) ?_
 repeat' first|with_reducible refine And.intro ?_ ?_|intro _
 all_goals simp only[DL,QP,i4, *]<;>simp
noncomputable abbrev Ml:=Tryz.f114
noncomputable def KB:=yj Ml
theorem Xt(p:UInt8->Bool):∀s:List UInt8,Hj p s=I s->∀c∈s,p c=J
 |[],_,_,h=>absurd h (by simp)
 |x::s,h,c,hc=>by
  unfold Hj at h
  split at h
  ·rename_i hx
   rcases I8.1 hc with rfl|hc
   ·exact hx
   ·exact Xt p s (by simpa using h) c hc
  ·simp at h
theorem QZ(s:List UInt8)(hs:I s<=12)(hw:En s=J)(n:Nat):∀k:Nat,I s-k=n->
  Rn PP Ml 0 (db J) bf ([kl KB [1,0,1,0,0],.blk 0,kc KB [1,1]]++[]) (b9 33 [(0,ds s),(3,di k)]) bf:=by
 induction n using Nat.strongRecOn with
 |_ n ih=>
 intro k hn
 simp only[En,HR,bne_iff_ne,ne_eq,I4] at hw
 obtain⟨w1,w2,w3,w4⟩:=hw
 have hall:=Xt DL s (Int.ofNat_inj.1 w4)
 have h0:s[0]?=G (s.headD 0):=by cases s with
  |nil=>simp at w1
  |cons a s=>rfl
 simp only[QP,HR] at w3
 refine lv 33 [] (.b (.e fun c:UInt8=>.y c<|.c (db J)<|.l [ke 0,ch 3 (di (k+1:Nat))]) (.t<|.t<|.y (s.headD 0)<|.t<|.y (s.headD 0) .r)) ((Y ((k:Int)<(I s:Int))=J->∃a,0<=(k:Int)/\s[Z (k:Int)]?=G a/\Aa PP 170 [bt (aa IntKind.u8 (↑(UInt8.toNat a):Int))] (bi [] []) (db J) (bi [] [])/\di (yr yq ((k:Int)+1))=di (↑(k+1):Int)/\Nv.It (AI (CN 0) PP (fun env σ1=>AL PP Ml env σ1 (db J) bf) [kl KB [1,0,1,0,0],bh 0,kc KB [1,1]] (b9 33 [(0,bt (ae s)),(3,di (↑(k+1):Int))]) bf))/\(Y ((k:Int)<(I s:Int))=O->Y ((I s:Int)>=1)=J/\Y ((I s:Int)<=12)=J/\iz 0<=0/\s[Z 0]?=G (headD s 0)/\Y ((↑(UInt8.toNat (headD s 0)):Int)>=97)=J/\iz 0<=0/\s[Z 0]?=G (headD s 0)/\db (Y ((↑(UInt8.toNat (headD s 0)):Int)<=122))=db J)) ⟨fun h=>?_,fun h=>?_⟩
 ·have hk:k<I s:=by simpa using h
  have hx:s[k]?=G s[k]:=HQ hk
  generalize s[k]=c at hx
  refine⟨c,by omega,by simpa using hx,hall c (HW hx)▸Vt c,As,⟨?_⟩⟩
  exact ih (I s- (k+1)) (by omega) (k+1) rfl
 ·refine⟨HS ?_,w2,by decide,h0,w3.1,by decide,h0,Iq db w3.2⟩
  cases s with
  |nil=>simp at w1
  |cons a s=>simp only[HV];omega
theorem QY(s:List UInt8)(hw:En s=J):F0 114 [ds s] (db J):=by
 have hs:I s<=12:=by
  simp only[En,HR,Ia] at hw
  omega
 exact sv Ml 33 [] (.l [ke 0,ch 3 (di (0:Nat))]) (Q (di 0)/\_) ⟨rfl,iK (QZ s hs hw _ 0 rfl)⟩
noncomputable abbrev Agb:=Tryz.f54
theorem Cl(x a b:Int):F0 54 [di x,di a,di b] (db (A6 x a b)):=by
 refine sv Agb 15 [] (.b .r .r) ((Y (x>=a)=J->db (Y (x<=b))=db (A6 x a b))/\(Y (x>=a)=O->db O=db (A6 x a b))) ⟨fun h=>?_,fun h=>?_⟩
 ·have h:a<=x:=by simpa using h
  simp[A6,h]
 ·have h:¬a<=x:=by simpa using h
  simp[A6,h]
noncomputable abbrev Qy:=Tryz.f55
theorem Vm(m:ba)(hm:m.okN):F0 55 [Ax m] (db J):=by
 have h1:∀a b x,A6 x a b=J->F0 54 [di x,di a,di b] (db J):=fun a b x h=>h▸Cl x a b
 have hs:=hm.sized
 simp only[C3,HR,Ia] at hs
 obtain⟨s1,s2,s3,s4,s5,s6⟩:=hs
 have hk:=hm.kind
 clear hm
 obtain⟨kind,aw,ay,ax,au,ao,age,av,start⟩:=m
 dsimp only at*
 rcases hk with hk|hk|hk<;>subst hk
 ·refine sv Qy 81 [1] (.c (db J)<|.c (db J)<|.k<|.f<|.c (db J)<|.c (db J) .r) (F0 54 [di (I (U ae (ba.mk 1 aw ay ax au ao age av start).aw):Int),di 1,di 8] (db J)/\F0 54 [di (I (U ae (ba.mk 1 aw ay ax au ao age av start).ay):Int),di 1,di 6] (db J)/\Y ((I (U AD (ba.mk 1 aw ay ax au ao age av start).av):Int)>12)=O/\F0 54 [di (I (U ae (ba.mk 1 aw ay ax au ao age av start).ax):Int),di 0,di 0] (db J)/\_/\db ((ba.mk 1 aw ay ax au ao age av start).age==0)=db J) ⟨by rw[HP];exact h1 _ _ _ s1,by rw[HP];exact h1 _ _ _ s3,by rw[HP];show Y ((I av:Int)>12)=O;exact yo,by rw[HP];exact h1 _ _ _ s4,h1 _ _ _ s5,?_⟩
  have:=Ci s6
  rw[show age=0 by simp only[HC] at this;simp at this;omega];rfl
 ·refine sv Qy 81 [1] (.c (db J)<|.c (db J)<|.k<|.f<|.c (db J)<|.c (db J) .r) (F0 54 [di (I (U ae (ba.mk 2 aw ay ax au ao age av start).aw):Int),di 1,di 8] (db J)/\F0 54 [di (I (U ae (ba.mk 2 aw ay ax au ao age av start).ay):Int),di 1,di 2] (db J)/\Y ((I (U AD (ba.mk 2 aw ay ax au ao age av start).av):Int)>12)=O/\F0 54 [di (I (U ae (ba.mk 2 aw ay ax au ao age av start).ax):Int),di 1,di 6] (db J)/\_/\db ((ba.mk 2 aw ay ax au ao age av start).age==0)=db J) ⟨by rw[HP];exact h1 _ _ _ s1,by rw[HP];exact h1 _ _ _ s3,by rw[HP];show Y ((I av:Int)>12)=O;exact yo,by rw[HP];exact h1 _ _ _ s4,h1 _ _ _ s5,?_⟩
  have:=Ci s6
  rw[show age=0 by simp only[HC] at this;simp at this;omega];rfl
 ·refine sv Qy 81 [1] (.c (db J)<|.c (db J)<|.k<|.f<|.c (db J)<|.c (db J) .r) (F0 54 [di (I (U ae (ba.mk 3 aw ay ax au ao age av start).aw):Int),di 1,di 8] (db J)/\F0 54 [di (I (U ae (ba.mk 3 aw ay ax au ao age av start).ay):Int),di 1,di 2] (db J)/\Y ((I (U AD (ba.mk 3 aw ay ax au ao age av start).av):Int)>12)=O/\F0 54 [di (I (U ae (ba.mk 3 aw ay ax au ao age av start).ax):Int),di 1,di 6] (db J)/\_/\db ((ba.mk 3 aw ay ax au ao age av start).age==0)=db J) ⟨by rw[HP];exact h1 _ _ _ s1,by rw[HP];exact h1 _ _ _ s3,by rw[HP];show Y ((I av:Int)>12)=O;exact yo,by rw[HP];exact h1 _ _ _ s4,h1 _ _ _ s5,?_⟩
  have:=Ci s6
  rw[show age=0 by simp only[HC] at this;simp at this;omega];rfl
noncomputable abbrev HH:=Tryz.f56
noncomputable def N3:=yj HH
theorem Abq(m:ba)(hm:m.okN)(hk:m.kind≠3):F0 56 [Ax m] (db J):=by
 have h:=hm.ranked
 rw[BJ,Io (bne_iff_ne.2 hk)] at h
 exact sv HH 32 [1] (.t .r) ((m.kind !=3)=J/\db ((I (U vi m.au):Int)==0)=db J) ⟨bne_iff_ne.2 hk,by rw[HP];exact Iq db h⟩
theorem UP(m:ba)(hm:m.okN)(hk:m.kind=3)(n:Nat):∀k:Nat,I m.au-k=n->
  Rn PP HH 0 (db J) bf ([kl N3 [1,1,1,0,1,0,0],.blk 0,kc N3 [1,1,1,1]]++[]) (b9 32 [(1,.v (.ref (AE m))),(3,di k)]) bf:=by
 induction n using Nat.strongRecOn with
 |_ n ih=>
 intro k hn
 have h:=hm.ranked
 simp only[BJ,hk,bne_self_eq_false,J6,if_false,HR,ID] at h
 have hz:=hm.sz
 refine lv 32 [1] (.b (.e fun x:Int=>.x (vi x)<|.c (db J)<|.l [ke 1,ch 3 (di (k+1:Nat))]) .r) ((Y ((k:Int)<(I (U vi m.au):Int))=J->∃a,0<=(k:Int)/\(U vi m.au)[Z (k:Int)]?=G (vi a)/\Aa PP 54 [di a,di 0,di 5] (bi [] []) (db J) (bi [] [])/\di (yr yq ((k:Int)+1))=di (↑(k+1):Int)/\Nv.It (AI (CN 0) PP (fun env σ1=>AL PP HH env σ1 (db J) bf) [kl N3 [1,1,1,0,1,0,0],bh 0,kc N3 [1,1,1,1]] (b9 32 [(1,bt (bz (AE m))),(3,di (↑(k+1):Int))]) bf))/\(Y ((k:Int)<(I (U vi m.au):Int))=O->Q (db J))) ⟨fun h1=>?_,fun h1=>rfl⟩
 have hk1:k<I m.au:=by simpa using h1
 have hx:m.au[k]?=G m.au[k]:=HQ hk1
 generalize m.au[k]=x at hx
 refine⟨x,by omega,A3 hx,h.2 x (HW hx)▸Cl x 0 5,As,⟨?_⟩⟩
 exact ih (I m.au- (k+1)) (by omega) (k+1) rfl
theorem Afl(m:ba)(hm:m.okN)(hk:m.kind=3):F0 56 [Ax m] (db J):=by
 have h:=hm.ranked
 simp only[BJ,hk,bne_self_eq_false,J6,if_false,HR] at h
 refine sv HH 32 [1] (.f<|.f<|.l [ke 1,ch 3 (di (0:Nat))]) ((m.kind !=3)=O/\((I (U vi m.au):Int) !=(I (U ae m.ax):Int))=O/\Q (di 0)/\_) ⟨by rw[hk];rfl,by rw[HP,HP];simpa using h.1,rfl,iK (UP m hm hk _ 0 rfl)⟩
theorem UO(m:ba)(hm:m.okN):F0 56 [Ax m] (db J):=by
 by_cases hk:m.kind=3
 ·exact Afl m hm hk
 ·exact Abq m hm hk
noncomputable abbrev YQ:=Tryz.f115
noncomputable def VQ:=yj YQ
theorem YA(l:List (List UInt8))(hl:I l<=1000)(s:List UInt8)(n:Nat):∀k:Nat,I l-k=n->
  Rn PP YQ 0 (db ((l.drop k).any (· ==s))) bf ([kl VQ [1,1,0,1,0,0],.blk 0,kc VQ [1,1,1]]++[]) (b9 18 [(0,ds s),(3,dl (l.map ae)),(4,di k)]) bf:=by
 induction n using Nat.strongRecOn with
 |_ n ih=>
 intro k hn
 refine lv 18 [] (.b (.e fun x:List UInt8=>.x (.str x)<|.b .r (.l [ke 0,ke 3,ch 4 (di (k+1:Nat))])) .r) ((Y ((k:Int)<(I (U ae l):Int))=J->∃a,0<=(k:Int)/\(U ae l)[Z (k:Int)]?=G (ae a)/\((a==s)=J->db J=db (List.any (W k l) fun x=>x==s))/\((a==s)=O->di (yr yq ((k:Int)+1))=di (↑(k+1):Int)/\Nv.It (AI (CN 0) PP (fun env σ1=>AL PP YQ env σ1 (db (List.any (W k l) fun x=>x==s)) bf) [kl VQ [1,1,0,1,0,0],bh 0,kc VQ [1,1,1]] (b9 18 [(0,bt (ae s)),(3,bt (ai (U ae l))),(4,di (↑(k+1):Int))]) bf)))/\(Y ((k:Int)<(I (U ae l):Int))=O->db O=db (List.any (W k l) fun x=>x==s))) ⟨fun h=>?_,fun h=>?_⟩
 ·have hk:k<I l:=by simpa using h
  have hx:l[k]?=G l[k]:=HQ hk
  rw[Ih hk]
  generalize l[k]=x at hx⊢
  refine⟨x,by omega,K0 hx,fun h1=>?_,fun h1=>⟨As,⟨?_⟩⟩⟩
  ·rw[List.any_cons,h1,Bool.true_or]
  ·rw[List.any_cons,h1,Bool.false_or]
   exact ih (I l- (k+1)) (by omega) (k+1) rfl
 ·have hk:I l<=k:=by simpa using h
  rw[Im hk];rfl
theorem Y9(s:List UInt8):F0 115 [ds s] (db (Vu s)):=by
 refine sv YQ 18 [] (.l [ke 0,ch 3 (dl (mg.map ae)),ch 4 (di (0:Nat))]) (bt (ai [ae (bg #[109,111,100,101,108]).data.toList,ae (bg #[115,116,97,116,101,115]).data.toList,ae (bg #[112,108,97,99,101,115]).data.toList,ae (bg #[108,101,116,116,101,114,115]).data.toList,ae (bg #[108,101,118,101,108,115]).data.toList,ae (bg #[97,103,101]).data.toList,ae (bg #[114,117,108,101]).data.toList,ae (bg #[110,101,101,100]).data.toList,ae (bg #[103,105,118,101]).data.toList,ae (bg #[109,111,118,101]).data.toList,ae (bg #[101,109,112,116,121]).data.toList,ae (bg #[115,101,110,100]).data.toList,ae (bg #[114,101,99,101,105,118,101]).data.toList,ae (bg #[112,97,116,104]).data.toList,ae (bg #[110,101,120,116]).data.toList,ae (bg #[116,97,107,101]).data.toList,ae (bg #[109,97,107,101]).data.toList,ae (bg #[115,116,97,114,116]).data.toList])=dl (U ae mg)/\Q (di 0)/\I0 YQ (I bf.H) (db (Vu s)) bf [kl VQ [1,1,0,1,0,0],bh 0,kc VQ [1,1,1]] (b9 18 [(0,bt (ae s)),(3,dl (U ae mg)),(4,di (↑0:Int))]) bf) ⟨rfl,rfl,⟨?_⟩⟩
 exact YA mg (by decide) s _ 0 rfl
theorem xd:∀(l u:List (List UInt8)),fu u l=J->(∀s∈l,En s=J/\Vu s=O/\u.contains s=O)/\l.Nodup
 |[],_,_=>⟨fun s hs=>absurd hs (by simp),List.nodup_nil⟩
 |x::l,u,h=>by
  simp only[fu,HR,IJ] at h
  obtain⟨h1,h2,h3,h4⟩:=h
  obtain⟨h5,h6⟩:=xd l (u++[x]) h4
  refine⟨fun s hs=>?_,?_⟩
  ·rcases I8.1 hs with rfl|hs
   ·exact⟨h1,h2,h3⟩
   ·obtain⟨a,b,c⟩:=h5 s hs
    refine⟨a,b,?_⟩
    simp at c⊢
    exact c.1
  ·refine List.nodup_cons.2 ⟨fun hx=>?_,h6⟩
   have:=(h5 x hx).2.2
   simp at this
noncomputable abbrev EM:=Tryz.f57
noncomputable def BZ:=yj EM
theorem RD(l:List (List UInt8))(hl:I l<=1000000)(hd:l.Nodup)(i:Nat)(hi:i<I l)
  (hout:Rn PP EM 0 (db J) bf ([kl BZ [1,1,1,0,1,0,0],.blk 2,kc BZ [1,1,1,1]]++[]) (b9 65 [(3,dl (l.map ae)),(5,di (i+1:Nat))]) bf) (n:Nat):∀k:Nat,i-k=n->
  Rn PP EM 0 (db J) bf ([kl BZ [1,1,1,0,1,0,0,1,0,0,1,1,0,0],.blk 4,.blk 3,kc BZ [1,1,1,0,1,0,0,1,1],kl BZ [1,1,1,0,1,0,0],.blk 2,kc BZ [1,1,1,1]]++[]) (b9 65 [(3,dl (l.map ae)),(5,di i),(6,di k)]) bf:=by
 induction n using Nat.strongRecOn with
 |_ n ih=>
 intro k hn
 refine lv 65 [1] (.b (.e fun a:List UInt8=>.x (.str a)<|.e fun b:List UInt8=>.x (.str b)<|.f<|.l [ke 3,ke 5,ch 6 (di (k+1:Nat))]) (.l [ke 3,ch 5 (di (i+1:Nat))])) ((Y ((k:Int)<(i:Int))=J->∃a,0<=(k:Int)/\(U ae l)[Z (k:Int)]?=G (ae a)/\∃a_1,0<=(i:Int)/\(U ae l)[Z (i:Int)]?=G (ae a_1)/\(a==a_1)=O/\di (yr yq ((k:Int)+1))=di (↑(k+1):Int)/\Nv.It (AI (CN 0) PP (fun env σ1=>AL PP EM env σ1 (db J) bf) [kl BZ [1,1,1,0,1,0,0,1,0,0,1,1,0,0],bh 4,bh 3,kc BZ [1,1,1,0,1,0,0,1,1],kl BZ [1,1,1,0,1,0,0],bh 2,kc BZ [1,1,1,1]] (b9 65 [(3,bt (ai (U ae l))),(5,di (i:Int)),(6,di (↑(k+1):Int))]) (bi [] [])))/\(Y ((k:Int)<(i:Int))=O->di (yr yq ((i:Int)+1))=di (↑(i+1):Int)/\I0 EM 0 (db J) bf [kl BZ [1,1,1,0,1,0,0],bh 2,kc BZ [1,1,1,1]] (b9 65 [(3,bt (ai (U ae l))),(5,di (↑(i+1):Int))]) bf)) ⟨fun h=>?_,fun h=>⟨As,⟨hout⟩⟩⟩
 have hk:k<i:=by simpa using h
 have hx:l[k]?=G l[k]:=HQ (by omega)
 have hy:l[i]?=G l[i]:=HQ hi
 have hxy:l[k]≠l[i]:=List.pairwise_iff_getElem.1 hd k i (by omega) hi hk
 exact⟨l[k],by omega,K0 hx,l[i],by omega,K0 hy,I7.2 hxy,As,⟨ih (i- (k+1)) (by omega) (k+1) rfl⟩⟩
theorem RE(l:List (List UInt8))(hl:I l<=1000000)(hd:l.Nodup)(hw:∀s∈l,En s=J/\Vu s=O)(n:Nat):∀i:Nat,I l-i=n->
  Rn PP EM 0 (db J) bf ([kl BZ [1,1,1,0,1,0,0],.blk 2,kc BZ [1,1,1,1]]++[]) (b9 65 [(3,dl (l.map ae)),(5,di i)]) bf:=by
 induction n using Nat.strongRecOn with
 |_ n ih=>
 intro i hn
 refine lv 65 [1] (.b (.e fun s:List UInt8=>.x (.str s)<|.c (db J)<|.x (.str s)<|.c (db O)<|.l [ke 3,ke 5,ch 6 (di (0:Nat))]) .r) ((Y ((i:Int)<(I (U ae l):Int))=J->∃a,0<=(i:Int)/\(U ae l)[Z (i:Int)]?=G (ae a)/\Aa PP 114 [bt (ae a)] (bi [] []) (db J) (bi [] [])/\0<=(i:Int)/\(U ae l)[Z (i:Int)]?=G (ae a)/\Aa PP 115 [bt (ae a)] (bi [] []) (db O) (bi [] [])/\di 0=di (↑0:Int)/\Nv.It (AI (CN 0) PP (fun env σ1=>AL PP EM env σ1 (db J) bf) [kl BZ [1,1,1,0,1,0,0,1,0,0,1,1,0,0],bh 4,bh 3,kc BZ [1,1,1,0,1,0,0,1,1],kl BZ [1,1,1,0,1,0,0],bh 2,kc BZ [1,1,1,1]] (b9 65 [(3,bt (ai (U ae l))),(5,di (i:Int)),(6,di (↑0:Int))]) bf))/\(Y ((i:Int)<(I (U ae l):Int))=O->Q (db J))) ⟨fun h=>?_,fun h=>rfl⟩
 have hk:i<I l:=by simpa using h
 have hx:l[i]?=G l[i]:=HQ hk
 have h3:=RD l hl hd i hk (ih (I l- (i+1)) (by omega) (i+1) rfl) _ 0 rfl
 generalize l[i]=s at hx
 obtain⟨w1,w2⟩:=hw s (HW hx)
 exact⟨s,by omega,K0 hx,QY s w1,by omega,K0 hx,w2▸Y9 s,rfl,⟨h3⟩⟩
theorem RF(m:ba)(hlen:I (Dq m)<=100)(hrl:I m.av<=100)(hnm:Db m=J)(n:Nat):∀(k:Nat) (xs:List (List UInt8)),I m.av-k=n->xs++(m.av.drop k).map cq.name=Dq m->
  Rn PP EM 0 (db J) bf ([kl BZ [1,1,0,1,0,0],.blk 0,kc BZ [1,1,1]]++[]) (b9 65 [(1,.v (.ref (AE m))),(3,U0 xs),(4,di k)]) (i2 xs):=by
 induction n with
 |zero=>
  intro k xs hn hx
  refine lv 65 [1] (.f<|.h (.q 6 0)<|.h (.un 3)<|.ls [ch 3 (dl (xs.map ae)),ch 5 (di (0:Nat))] bf) (Y ((k:Int)<(I (U AD m.av):Int))=O/\bt (ai (U ae xs))=dl (U ae xs)/\Q (di 0)/\I0 EM 0 (db J) bf [kl BZ [1,1,1,0,1,0,0],bh 2,kc BZ [1,1,1,1]] (b9 65 [(3,dl (U ae xs)),(5,di (↑0:Int))]) bf) ⟨by rw[HP];exact yo,rfl,rfl,⟨?_⟩⟩
  rw[Im (by omega)] at hx
  rw[IP,IG] at hx
  subst hx
  obtain⟨h1,h2⟩:=xd _ _ hnm
  exact RE _ (by omega) h2 (fun s hs=>⟨(h1 s hs).1,(h1 s hs).2.1⟩) _ 0 rfl
 |succ n ih=>
  intro k xs hn hx
  refine lv 65 [1] (.t<|.e fun r:cq=>.h (.xs (AD r))<|.w<|.ls [ke 1,ch 3 (U0 (xs++[r.name])),ch 4 (di (k+1:Nat))] (i2 (xs++[r.name]))) (Y ((k:Int)<(I (U AD m.av):Int))=J/\∃a,14=14/\0<=(k:Int)/\(U AD m.av)[Z (k:Int)]?=G (AD a)/\Q (U ae xs)/\A9 (I (U ae xs)+I (ae a.name::nV)) 16/\(∀(y:V),y∈ [ae a.name]->V.size y=1)/\br 1 (U ae xs++[ae a.name])=U0 (xs++[a.name])/\di (yr yq ((k:Int)+1))=di (↑(k+1):Int)/\[(1,1,U ae xs++ae a.name::nV)]=[(1,1,U ae (xs++[a.name]))]/\I0 EM 0 (db J) bf [kl BZ [1,1,0,1,0,0],bh 0,kc BZ [1,1,1]] (b9 65 [(1,bt (bz (AE m))),(3,U0 (xs++[a.name])),(4,di (↑(k+1):Int))]) (i2 (xs++[a.name]))) ?_
  have hk:k<I m.av:=by omega
  have hr:m.av[k]?=G m.av[k]:=HQ hk
  rw[Ih hk] at hx
  generalize m.av[k]=r at hr hx
  have hxl:I xs<=100:=by
   have:=Iq I hx
   simp only[Ig] at this;omega
  refine⟨by rw[HP];exact yp,r,rfl,by omega,A3 hr,rfl,⟨?_,?_⟩,by simp[V.size],by simp,As,by simp,⟨?_⟩⟩
  ·simp only[HP,HV,HZ];omega
  ·simp only[HP,HV,HZ];omega
  ·exact ih (k+1) (xs++[r.name]) (by omega) (by rw[←hx];simp)
theorem OA(m:ba)(hlen:I (Dq m)<=100)(hrl:I m.av<=100)(hnm:Db m=J):F0 57 [Ax m] (db J):=by
 have hl2:=hlen
 simp only[Dq,BR,Jx,flatten_nil,Ig,HP,HZ] at hl2
 have hb:BR m=m.aw++m.ay++m.ax:=by simp[BR]
 refine sv EM 65 [1] (.a 1<|.w<|.w<|.w<|.ls [ke 1,ch 3 (U0 (BR m)),ch 4 (di (0:Nat))] (i2 (BR m))) (A9 (I (U ae m.aw)) 16/\(∀(y:V),y∈U ae m.aw->V.size y=1)/\Q (U ae m.aw)/\A9 (I (U ae m.aw)+I (U ae m.ay)) 16/\(∀(y:V),y∈U ae m.ay->V.size y=1)/\Q (U ae m.aw++U ae m.ay)/\A9 (I (U ae m.aw++U ae m.ay)+I (U ae m.ax)) 16/\(∀(y:V),y∈U ae m.ax->V.size y=1)/\br 1 (U ae m.aw++U ae m.ay++U ae m.ax)=U0 (BR m)/\Q (di 0)/\[(1,1,U ae m.aw++U ae m.ay++U ae m.ax)]=[(1,1,U ae (BR m))]/\I0 EM (I bf.H) (db J) bf [kl BZ [1,1,0,1,0,0],bh 0,kc BZ [1,1,1]] (b9 65 [(1,bt (bz (AE m))),(3,U0 (BR m)),(4,di (↑0:Int))]) (i2 (BR m))) ⟨⟨?_,?_⟩,by simp[V.size],rfl,⟨?_,?_⟩,by simp[V.size],rfl,⟨?_,?_⟩,by simp[V.size],by simp[hb],rfl,by simp[hb],⟨?_⟩⟩
 all_goals try (simp only[HP,Ig];omega)
 exact RF m hlen hrl hnm _ 0 (BR m) rfl rfl
theorem Vn(m:ba)(hm:m.okN):F0 57 [Ax m] (db J):=by
 have hsz:=hm.sz
 exact OA m (by simp only[Dq,BR,Jx,flatten_nil,Ig,HP,HZ];omega) (by omega) hm.named
noncomputable abbrev Qz:=Tryz.f116
noncomputable def N5:=yj Qz
theorem Vq(l:List Int)(hl:I l<=1000000)(n a b:Int)(hn:I l=n)(hx:∀x∈l,A6 x a b=J)(N:Nat):∀k:Nat,I l-k=N->
  Rn PP Qz 0 (db J) bf ([kl N5 [1,0,1,0,0],.blk 0,kc N5 [1,1]]++[]) (b9 28 [(0,cy l),(1,di n),(2,di a),(3,di b),(9,di k)]) bf:=by
 induction N using Nat.strongRecOn with
 |_ N ih=>
 intro k hk
 refine lv 28 [] (.b (.e fun x:Int=>.x (vi x)<|.c (db J)<|.l [ke 0,ke 1,ke 2,ke 3,ch 9 (di (k+1:Nat))]) .r) ((Y ((k:Int)<(I (U vi l):Int))=J->∃a_2,0<=(k:Int)/\(U vi l)[Z (k:Int)]?=G (vi a_2)/\Aa PP 54 [di a_2,di a,di b] (bi [] []) (db J) (bi [] [])/\di (yr yq ((k:Int)+1))=di (↑(k+1):Int)/\Nv.It (AI (CN 0) PP (fun env σ1=>AL PP Qz env σ1 (db J) bf) [kl N5 [1,0,1,0,0],bh 0,kc N5 [1,1]] (b9 28 [(0,cy l),(1,di n),(2,di a),(3,di b),(9,di (↑(k+1):Int))]) bf))/\(Y ((k:Int)<(I (U vi l):Int))=O->db ((I (U vi l):Int)==n)=db J)) ⟨fun h=>?_,fun h=>?_⟩
 ·have hk1:k<I l:=by simpa using h
  have hy:l[k]?=G l[k]:=HQ hk1
  generalize l[k]=x at hy
  exact⟨x,by omega,A3 hy,hx x (HW hy)▸Cl x a b,As,⟨ih (I l- (k+1)) (by omega) (k+1) rfl⟩⟩
 ·rw[HP,hn,beq_self_eq_true]
theorem F7(l:List Int)(hl:I l<=1000000)(n a b:Int)(hn:I l=n)(hx:∀x∈l,A6 x a b=J):F0 116 [cy l,di n,di a,di b] (db J):=by
 exact sv Qz 28 [] (.l [ke 0,ke 1,ke 2,ke 3,ch 9 (di (0:Nat))]) (Q (di 0)/\_) ⟨rfl,iK (Vq l hl n a b hn hx _ 0 rfl)⟩
noncomputable abbrev YN:=Tryz.f58
theorem CQ{α β:Type}(f:α->β)(l:List α)(h:I l<=1000000):yq.wrap ((I (l.map f):Int)-1)=(I l:Int)-1:=by
 rw[HP,A2]
theorem er{α β:Type}(f:α->β){l:List α}(h:l=[]):Y ((I (l.map f):Int)>0)=O:=by subst h;rfl
theorem Xu(m:ba)(hm:m.okS)(r:cq)(hr:r∈m.av):F0 58 [Ax m,AZ r] (db J):=by
 have h1:∀a b x,A6 x a b=J->F0 54 [di x,di a,di b] (db J):=fun a b x h=>h▸Cl x a b
 have hs:=hm.short
 have hsz:=hm.n.sz
 have hrs:=hm.rshort r hr
 have hR:=hm.right r hr
 have hk:=hm.n.kind
 clear hm hr
 obtain⟨kind,aw,ay,ax,au,ao,age,av,start⟩:=m
 have hst:=hs.aw
 have hpl:=hs.ay
 have hlt:=hs.ax
 clear hs
 dsimp only at*
 rcases hk with hk|hk|hk<;>subst hk
 ·simp only[Da,Jj,Ec,BY,Dc,BU,Ow,HR,I4,Ia,ID] at hR
  obtain⟨a1,a2,⟨a3,a4,a5,a6⟩,a7, -, -, -, -, -, -,b1,b2,b3,b4,b5,b6,b7,b8⟩:=hR
  refine sv YN 234 [2,3] (.c (db J)<|.c (db J)<|.c (db J)<|.c (db J)<|.k<|.b (.c (db J)<|.k<|.k<|.f<|.f<|.f<|.k<|.f<|.f<|.k<|.f<|.f .r) (.k<|.k<|.f<|.f<|.f<|.k<|.f<|.f<|.k<|.f<|.f .r)) (F0 54 [di r.aj,di 0,di (yr yq ((I (U ae (ba.mk 1 aw ay ax au ao age av start).aw):Int)-1))] (db J)/\F0 54 [di r.to,di 0,di (yr yq ((I (U ae (ba.mk 1 aw ay ax au ao age av start).aw):Int)-1))] (db J)/\F0 116 [cy r.am,di (I (U ae (ba.mk 1 aw ay ax au ao age av start).ay):Int),di 0,di 16] (db J)/\F0 116 [cy r.ak,di (I (U ae (ba.mk 1 aw ay ax au ao age av start).ay):Int),di 0,di 16] (db J)/\(Y ((I (U vi r.move):Int)>0)=J->F0 116 [cy r.move,di (I (U ae (ba.mk 1 aw ay ax au ao age av start).ay):Int),di (-1),di (yr yq ((I (U ae (ba.mk 1 aw ay ax au ao age av start).ay):Int)-1))] (db J)/\(r.chan !=0)=O/\(r.act !=0)=O/\(r.letter !=0)=O/\Y ((I (U vi r.path):Int)>0)=O/\Y ((I (U vi r.next):Int)>0)=O/\Y ((I (U ce r.ar):Int)>0)=O/\Y ((I (U vi r.aq):Int)>0)=O/\db (r.second==0)=db J)/\(Y ((I (U vi r.move):Int)>0)=O->(r.chan !=0)=O/\(r.act !=0)=O/\(r.letter !=0)=O/\Y ((I (U vi r.path):Int)>0)=O/\Y ((I (U vi r.next):Int)>0)=O/\Y ((I (U ce r.ar):Int)>0)=O/\Y ((I (U vi r.aq):Int)>0)=O/\db (r.second==0)=db J)) ?_
  rw[CQ _ _ hst,CQ _ _ hpl]
  have hmv:I (r.move.map vi)>0->F0 116 [cy r.move,di (I (ay.map ae):Int),di (-1),di ((I ay:Int)-1)] (db J):=fun h=>by
   rw[HP] at h
   simp only[Bool.or_eq_true,I4,HR,ID] at a7
   rcases a7 with a7|⟨a7,a8⟩
   ·omega
   ·rw[HP];exact F7 _ hrs.move _ _ _ a7 a8
  refine⟨h1 _ _ _ a2,h1 _ _ _ a1,?_,?_,fun h=>⟨hmv (by simpa using h),?_⟩,fun h=>?_⟩
  ·rw[HP];exact F7 _ hrs.am _ _ _ a3 a5
  ·rw[HP];exact F7 _ hrs.ak _ _ _ a4 a6
  ·refine⟨by rw[b1];rfl,by rw[b2];rfl,by rw[b3];rfl,er _ (Ib b4),er _ (Ib b5),er _ b6,er _ (Ib b7),by rw[b8];rfl⟩
  ·refine⟨by rw[b1];rfl,by rw[b2];rfl,by rw[b3];rfl,er _ (Ib b4),er _ (Ib b5),er _ b6,er _ (Ib b7),by rw[b8];rfl⟩
 ·rw[Da,Ij (fun h=>absurd h (by show ¬(_:Int)=1;simp only;decide))] at hR
  simp only[Es,BU,He,HR,I4,Ia] at hR
  simp only[DW] at hR
  obtain⟨a1,a2,a3, -, -, -,c1,c2,c3, -, -, -,b4,b5,b6,b7,b8⟩:=hR
  have hl:=hsz.2.2.2.2.2.2.2 (by decide)
  have hA:A6 r.act 0 2=J/\A6 r.chan 0 ((I ay:Int)-1)=J/\A6 r.letter 0 ((I ax:Int)-1)=J/\(r.act=0->r.chan=0/\r.letter=0):=by
   split at a3
   ·rename_i h0
    have h0:r.act=0:=by simpa using h0
    simp only[HR,I4] at a3
    rw[h0,a3.1,a3.2]
    refine⟨by decide,?_,?_,fun _=>⟨rfl,rfl⟩⟩<;>simp only[A6,HR,Ia]<;>omega
   ·rename_i h0
    have h0:r.act≠0:=by simpa using h0
    simp only[HR] at a3
    have:=Ci a3.1
    refine⟨?_,a3.2.1,a3.2.2,fun h=>absurd h h0⟩
    simp only[A6,HR,Ia];omega
  obtain⟨d1,d2,d3,d4⟩:=hA
  refine sv YN 234 [2,3] (.c (db J)<|.c (db J)<|.k<|.k<|.k<|.k<|.f<|.f<|.f<|.k<|.c (db J)<|.c (db J)<|.c (db J)<|.k<|.b (.f<|.f<|.k<|.f<|.f<|.k<|.f<|.f .r) (.k<|.k<|.f<|.f<|.k<|.f<|.f .r)) (F0 54 [di r.aj,di 0,di (yr yq ((I (U ae (ba.mk 2 aw ay ax au ao age av start).aw):Int)-1))] (db J)/\F0 54 [di r.to,di 0,di (yr yq ((I (U ae (ba.mk 2 aw ay ax au ao age av start).aw):Int)-1))] (db J)/\Y ((I (U vi r.am):Int)>0)=O/\Y ((I (U vi r.ak):Int)>0)=O/\Y ((I (U vi r.move):Int)>0)=O/\F0 54 [di r.act,di 0,di 2] (db J)/\F0 54 [di r.chan,di 0,di (yr yq ((I (U ae (ba.mk 2 aw ay ax au ao age av start).ay):Int)-1))] (db J)/\F0 54 [di r.letter,di 0,di (yr yq ((I (U ae (ba.mk 2 aw ay ax au ao age av start).ax):Int)-1))] (db J)/\((r.act==0)=J->(r.chan !=0)=O/\(r.letter !=0)=O/\Y ((I (U vi r.path):Int)>0)=O/\Y ((I (U vi r.next):Int)>0)=O/\Y ((I (U ce r.ar):Int)>0)=O/\Y ((I (U vi r.aq):Int)>0)=O/\db (r.second==0)=db J)/\((r.act==0)=O->Y ((I (U vi r.path):Int)>0)=O/\Y ((I (U vi r.next):Int)>0)=O/\Y ((I (U ce r.ar):Int)>0)=O/\Y ((I (U vi r.aq):Int)>0)=O/\db (r.second==0)=db J)) ?_
  rw[CQ _ _ hst,CQ _ _ hpl,CQ _ _ hlt]
  refine⟨h1 _ _ _ a2,h1 _ _ _ a1,er _ (Ib c1),er _ (Ib c2),er _ (Ib c3),h1 _ _ _ d1,h1 _ _ _ d2,h1 _ _ _ d3,fun h=>?_,fun h=>?_⟩
  ·have:=d4 (by simpa using h)
   exact⟨by rw[this.1];rfl,by rw[this.2];rfl,er _ (Ib b4),er _ (Ib b5),er _ b6,er _ (Ib b7),by rw[b8];rfl⟩
  ·exact⟨er _ (Ib b4),er _ (Ib b5),er _ b6,er _ (Ib b7),by rw[b8];rfl⟩
 ·rw[Da,Ij (fun h=>absurd h (by show ¬(_:Int)=1;simp only;decide))] at hR
  simp only[Es,BU,He,HR,I4,Ia] at hR
  simp only[DW] at hR
  obtain⟨a1,a2,a3, -, -, -,c1,c2,c3, -, -, -,b4,b5,b6,b7,b8⟩:=hR
  have hl:=hsz.2.2.2.2.2.2.2 (by decide)
  have hA:A6 r.act 0 2=J/\A6 r.chan 0 ((I ay:Int)-1)=J/\A6 r.letter 0 ((I ax:Int)-1)=J/\(r.act=0->r.chan=0/\r.letter=0):=by
   split at a3
   ·rename_i h0
    have h0:r.act=0:=by simpa using h0
    simp only[HR,I4] at a3
    rw[h0,a3.1,a3.2]
    refine⟨by decide,?_,?_,fun _=>⟨rfl,rfl⟩⟩<;>simp only[A6,HR,Ia]<;>omega
   ·rename_i h0
    have h0:r.act≠0:=by simpa using h0
    simp only[HR] at a3
    have:=Ci a3.1
    refine⟨?_,a3.2.1,a3.2.2,fun h=>absurd h h0⟩
    simp only[A6,HR,Ia];omega
  obtain⟨d1,d2,d3,d4⟩:=hA
  refine sv YN 234 [2,3] (.c (db J)<|.c (db J)<|.k<|.k<|.k<|.k<|.f<|.f<|.f<|.k<|.c (db J)<|.c (db J)<|.c (db J)<|.k<|.b (.f<|.f<|.k<|.f<|.f<|.k<|.f<|.f .r) (.k<|.k<|.f<|.f<|.k<|.f<|.f .r)) (F0 54 [di r.aj,di 0,di (yr yq ((I (U ae (ba.mk 3 aw ay ax au ao age av start).aw):Int)-1))] (db J)/\F0 54 [di r.to,di 0,di (yr yq ((I (U ae (ba.mk 3 aw ay ax au ao age av start).aw):Int)-1))] (db J)/\Y ((I (U vi r.am):Int)>0)=O/\Y ((I (U vi r.ak):Int)>0)=O/\Y ((I (U vi r.move):Int)>0)=O/\F0 54 [di r.act,di 0,di 2] (db J)/\F0 54 [di r.chan,di 0,di (yr yq ((I (U ae (ba.mk 3 aw ay ax au ao age av start).ay):Int)-1))] (db J)/\F0 54 [di r.letter,di 0,di (yr yq ((I (U ae (ba.mk 3 aw ay ax au ao age av start).ax):Int)-1))] (db J)/\((r.act==0)=J->(r.chan !=0)=O/\(r.letter !=0)=O/\Y ((I (U vi r.path):Int)>0)=O/\Y ((I (U vi r.next):Int)>0)=O/\Y ((I (U ce r.ar):Int)>0)=O/\Y ((I (U vi r.aq):Int)>0)=O/\db (r.second==0)=db J)/\((r.act==0)=O->Y ((I (U vi r.path):Int)>0)=O/\Y ((I (U vi r.next):Int)>0)=O/\Y ((I (U ce r.ar):Int)>0)=O/\Y ((I (U vi r.aq):Int)>0)=O/\db (r.second==0)=db J)) ?_
  rw[CQ _ _ hst,CQ _ _ hpl,CQ _ _ hlt]
  refine⟨h1 _ _ _ a2,h1 _ _ _ a1,er _ (Ib c1),er _ (Ib c2),er _ (Ib c3),h1 _ _ _ d1,h1 _ _ _ d2,h1 _ _ _ d3,fun h=>?_,fun h=>?_⟩
  ·have:=d4 (by simpa using h)
   exact⟨by rw[this.1];rfl,by rw[this.2];rfl,er _ (Ib b4),er _ (Ib b5),er _ b6,er _ (Ib b7),by rw[b8];rfl⟩
  ·exact⟨er _ (Ib b4),er _ (Ib b5),er _ b6,er _ (Ib b7),by rw[b8];rfl⟩
noncomputable abbrev AiR:=Tryz.f62
theorem V8(l:List Int)(hl:I l<=1000000):F0 62 [cy l] (cy l):=by
 exact sv AiR 5 [] (.a 1<|.w .r) (A9 (I (U vi l)) 8/\(∀(y:V),y∈U vi l->V.size y=1)/\Q (cy l)) ⟨⟨by simp;omega,by simp;omega⟩,CT l,rfl⟩
noncomputable abbrev AiB:=Tryz.f30
theorem ML(a b:Int):F0 30 [di a,di b] (di (B0 a b)):=by
 refine sv AiB 11 [] (.b .r<|.b .r .r) ((Y (a<b)=J->di (-1)=di (B0 a b))/\(Y (a<b)=O->(Y (a>b)=J->di 1=di (B0 a b))/\(Y (a>b)=O->di 0=di (B0 a b)))) ?_
 refine⟨fun h=>?_,fun h=>⟨fun h1=>?_,fun h1=>?_⟩⟩<;>simp_all [B0]<;>omega
noncomputable abbrev Qv:=Tryz.f60
noncomputable def N2:=yj Qv
theorem JX(N:Nat):∀v:bd,v.size<=N->∀m:Int,0<=m->m<=1000->F0 60 [dV v,di m] (di (min (v.size:Int) (m+1))):=by
 induction N with
 |zero=>intro v hv;have:=v.size_pos;omega
 |succ N ihN=>
  intro v hv m hm0 hm1
  have hsz:=v.size_eq
  have loop (n:Nat):∀(k:Nat) (a:Int),I v.az-k=n->k+1<=a->a<=m+1->
    Rn PP Qv 0 (di (min (a+(bd.sizes (v.az.drop k):Int)) (m+1))) bf ([kl N2 [1,1,0,1,0,0],.blk 0,kc N2 [1,1,1]]++[]) (b9 31 [(1,di m),(2,.v (.ref (Au v))),(5,di a),(6,di k)]) bf:=by
   induction n using Nat.strongRecOn with
   |_ n ih=>
   intro k a hn ha0 ha1
   refine lv 31 [2] (.b (.b (.e fun x:bd=>.x (Au x)<|.c (di (min (x.size:Int) (m-a+1)))<|.l [ke 1,ke 2,ch 5 (di (min (a+(x.size:Int)) (m+1))),ch 6 (di (k+1:Nat))]) .r) .r) ((Y ((k:Int)<(I (U eV v.az):Int))=J->(Y (a<=m)=J->∃a_3,0<=(k:Int)/\(U eV v.az)[Z (k:Int)]?=G (Au a_3)/\Aa PP 60 [dV a_3,di (yr yq (m-a))] (bi [] []) (di (min (↑(bd.size a_3):Int) (m-a+1))) (bi [] [])/\di (yr yq (a+min (↑(bd.size a_3):Int) (m-a+1)))=di (min (a+(↑(bd.size a_3):Int)) (m+1))/\di (yr yq ((k:Int)+1))=di (↑(k+1):Int)/\Nv.It (AI (CN 0) PP (fun env σ1=>AL PP Qv env σ1 (di (min (a+(↑(bd.sizes (W k v.az)):Int)) (m+1))) bf) [kl N2 [1,1,0,1,0,0],bh 0,kc N2 [1,1,1]] (b9 31 [(1,di m),(2,bt (bz (Au v))),(5,di (min (a+(↑(bd.size a_3):Int)) (m+1))),(6,di (↑(k+1):Int))]) bf))/\(Y (a<=m)=O->di a=di (min (a+(↑(bd.sizes (W k v.az)):Int)) (m+1))))/\(Y ((k:Int)<(I (U eV v.az):Int))=O->di a=di (min (a+(↑(bd.sizes (W k v.az)):Int)) (m+1)))) ⟨fun h=>⟨fun h1=>?_,fun h1=>?_⟩,fun h=>?_⟩
   ·have hk:k<I v.az:=by simpa using h
    have hx:v.az[k]?=G v.az[k]:=HQ hk
    rw[Ih hk]
    generalize v.az[k]=x at hx⊢
    have hxs:=bd.size_mem (HW hx)
    have hx1:=x.size_pos
    simp only[bd.sizes]
    have h1:=Ib h1
    refine⟨x,by omega,A1 hx,?_,?_,As,⟨?_⟩⟩
    ·rw[A2]
     exact ihN x (by omega) (m-a) (by omega) (by omega)
    ·rw[A2 (by rw[IR];split<;>omega) (by rw[IR];split<;>omega)]
     simp only[IR];congr 1;split<;>split<;>omega
    ·have:=ih (I v.az- (k+1)) (by omega) (k+1) (min (a+(x.size:Int)) (m+1)) rfl (by rw[IR];split<;>omega) (by rw[IR];split<;>omega)
     rw[show min (min (a+(x.size:Int)) (m+1)+(bd.sizes (v.az.drop (k+1)):Int)) (m+1)=min (a+((x.size+bd.sizes (v.az.drop (k+1)):Nat):Int)) (m+1) by simp only[IR];(repeat' split)<;>omega] at this
     exact this
   ·have h1:=IB h1
    rw[IR];split<;>congr 1<;>omega
   ·have hk:I v.az<=k:=by simpa using h
    rw[Im hk]
    simp only[bd.sizes];rw[IR];split<;>congr 1<;>omega
  refine sv Qv 31 [2] (.l [ke 1,ke 2,ch 5 (di 1),ch 6 (di (0:Nat))]) (Q (di 1)/\Q (di 0)/\I0 Qv (I bf.H) (di (min (↑(bd.size v):Int) (m+1))) bf [kl N2 [1,1,0,1,0,0],bh 0,kc N2 [1,1,1]] (b9 31 [(1,di m),(2,bt (bz (Au v))),(5,di 1),(6,di (↑0:Int))]) bf) ⟨rfl,rfl,⟨?_⟩⟩
  have:=loop _ 0 1 rfl (by omega) (by omega)
  rw[J1,show(1:Int)+(bd.sizes v.az:Int)=v.size by omega] at this
  exact this
theorem My{a b:Int}:B0 a b=0↔a=b:=by unfold B0;(repeat' split)<;>omega
theorem Adc(a b:bd):AB a b=if B0 a.n b.n=0 then(if B0 (I a.az) (I b.az)=0 then BG AB a.az b.az else B0 (I a.az) (I b.az)) else B0 a.n b.n:=by
 cases a;cases b;simp only[AB,OY];rfl
noncomputable abbrev Q2:=Tryz.f14
noncomputable def N7:=yj Q2
theorem Q8(N:Nat):∀a b:bd,a.size<=N->a.fit->F0 14 [dV a,dV b] (di (AB a b)):=by
 induction N with
 |zero=>intro v _ hv;have:=v.size_pos;omega
 |succ N ihN=>
  intro a b ha ha1
  have hsz:=a.size_eq
  have hlen:=ha1.len
  have loop (hab:I a.az=I b.az) (n:Nat):∀k:Nat,I a.az-k=n->
    Rn PP Q2 0 (di (BG AB (a.az.drop k) (b.az.drop k))) bf ([kl N7 [1,1,1,0,1,0,0],.blk 0,kc N7 [1,1,1,1]]++[]) (b9 52 [(2,.v (.ref (Au a))),(3,.v (.ref (Au b))),(5,di k)]) bf:=by
   induction n using Nat.strongRecOn with
   |_ n ih=>
   intro k hn
   refine lv 52 [2,3] (.b (.e fun x:bd=>.x (Au x)<|.e fun y:bd=>.x (Au y)<|.c (di (AB x y))<|.b .r (.l [ke 2,ke 3,ch 5 (di (k+1:Nat))])) .r) ((Y ((k:Int)<(I (U eV a.az):Int))=J->∃a_2,0<=(k:Int)/\(U eV a.az)[Z (k:Int)]?=G (Au a_2)/\∃a_3,0<=(k:Int)/\(U eV b.az)[Z (k:Int)]?=G (Au a_3)/\Aa PP 14 [dV a_2,dV a_3] (bi [] []) (di (AB a_2 a_3)) (bi [] [])/\((AB a_2 a_3 !=0)=J->di (AB a_2 a_3)=di (BG AB (W k a.az) (W k b.az)))/\((AB a_2 a_3 !=0)=O->di (yr yq ((k:Int)+1))=di (↑(k+1):Int)/\Nv.It (AI (CN 0) PP (fun env σ1=>AL PP Q2 env σ1 (di (BG AB (W k a.az) (W k b.az))) bf) [kl N7 [1,1,1,0,1,0,0],bh 0,kc N7 [1,1,1,1]] (b9 52 [(2,bt (bz (Au a))),(3,bt (bz (Au b))),(5,di (↑(k+1):Int))]) (bi [] []))))/\(Y ((k:Int)<(I (U eV a.az):Int))=O->di 0=di (BG AB (W k a.az) (W k b.az)))) ⟨fun h=>?_,fun h=>?_⟩
   ·have hk:k<I a.az:=by simpa using h
    have hk2:k<I b.az:=by omega
    have hx:a.az[k]?=G a.az[k]:=HQ hk
    have hy:b.az[k]?=G b.az[k]:=HQ hk2
    rw[Ih hk,Ih hk2]
    generalize a.az[k]=x at hx⊢
    generalize b.az[k]=y at hy⊢
    have hxs:=bd.size_mem (HW hx)
    refine⟨x,by omega,A1 hx,y,by omega,A1 hy,ihN x y (by omega) (ha1.mem (HW hx)),fun h1=>?_,fun h1=>⟨As,⟨?_⟩⟩⟩
    ·have h1:AB x y≠0:=by simpa using h1
     simp only[BG,Ij h1]
    ·have h1:AB x y=0:=by simpa using h1
     simp only[BG,Io h1]
     exact ih (I a.az- (k+1)) (by omega) (k+1) rfl
   ·have hk:I a.az<=k:=by simpa using h
    rw[Im hk,Im (by omega)];rfl
  refine sv Q2 52 [2,3] (.b (.c (di (B0 a.n b.n)) .r) (.b (.c (di (B0 (I a.az) (I b.az))) .r) (.l [ke 2,ke 3,ch 5 (di (0:Nat))]))) (((a.n !=bd.n b)=J->F0 30 [di a.n,di b.n] (di (B0 a.n b.n))/\di (B0 a.n b.n)=di (AB a b))/\((a.n !=bd.n b)=O->(((I (U eV a.az):Int) !=(I (U eV b.az):Int))=J->F0 30 [di (I (U eV a.az):Int),di (I (U eV b.az):Int)] (di (B0 (I a.az:Int) (I b.az:Int)))/\di (B0 (I a.az:Int) (I b.az:Int))=di (AB a b))/\(((I (U eV a.az):Int) !=(I (U eV b.az):Int))=O->di 0=di (↑0:Int)/\I0 Q2 (I bf.H) (di (AB a b)) bf [kl N7 [1,1,1,0,1,0,0],bh 0,kc N7 [1,1,1,1]] (b9 52 [(2,bt (bz (Au a))),(3,bt (bz (Au b))),(5,di (↑0:Int))]) bf))) ?_
  rw[Adc]
  refine⟨fun h=>⟨ML _ _,?_⟩,fun h=>⟨fun h1=>⟨?_,?_⟩,fun h1=>⟨rfl,⟨?_⟩⟩⟩⟩
  ·rw[Ij (fun e=>(bne_iff_ne.1 h) (My.1 e))]
  ·rw[HP,HP];exact ML _ _
  ·have h:a.n=b.n:=by simpa using h
   have h1:(I a.az:Int)≠b.az.length:=by simpa using h1
   rw[Io (My.2 h),Ij (fun e=>h1 (My.1 e))]
  ·have h:a.n=b.n:=by simpa using h
   have h1:(I a.az:Int)=I b.az:=by simpa using h1
   rw[Io (My.2 h),Io (My.2 h1)]
   exact loop (Int.ofNat_inj.1 h1) _ 0 rfl
theorem GX(N:Nat)(a b:bd)(_:a.size<=N)(h:a.size<=1000000):F0 14 [dV a,dV b] (di (AB a b)):=Q8 _ a b (HX _) (bd.fit_of a h)
noncomputable abbrev Ai7:=Tryz.f13
theorem Xn(a b:bd)(ha:a.fit):F0 13 [dV a,dV b] (db (AB a b==0)):=by
 exact sv Ai7 9 [2,3] (.c (di (AB a b)) .r) (_/\Q (db (AB a b==0))) ⟨Q8 _ a b (HX _) ha,rfl⟩
theorem UJ(a b:bd)(ha:a.size<=1000000):F0 13 [dV a,dV b] (db (AB a b==0)):=Xn a b (bd.fit_of a ha)
noncomputable abbrev Qw:=Tryz.f171
noncomputable def N4:=yj Qw
theorem UR(r:List Int)(hr:Ed r=J)(n:Nat):∀k:Nat,I r-k=n->
  Rn PP Qw 0 (db J) bf ([kl N4 [1,0,1,0,0],.blk 0,kc N4 [1,1]]++[]) (b9 30 [(0,cy r),(3,di k)]) bf:=by
 induction n using Nat.strongRecOn with
 |_ n ih=>
 intro k hn
 simp only[Ed,HR,IJ,List.any_eq_false] at hr
 obtain⟨h1,h2,h3⟩:=hr
 have hlen:=Ib h2
 refine lv 30 [] (.b (.e fun x:Int=>.x (vi x)<|.f<|.x (vi x)<|.f<|.l [ke 0,ch 3 (di (k+1:Nat))]) (.t .r)) ((Y ((k:Int)<(I (U vi r):Int))=J->∃a,0<=(k:Int)/\(U vi r)[Z (k:Int)]?=G (vi a)/\Y (a<0)=O/\0<=(k:Int)/\(U vi r)[Z (k:Int)]?=G (vi a)/\Y (a>=6)=O/\di (yr yq ((k:Int)+1))=di (↑(k+1):Int)/\Nv.It (AI (CN 0) PP (fun env σ1=>AL PP Qw env σ1 (db J) bf) [kl N4 [1,0,1,0,0],bh 0,kc N4 [1,1]] (b9 30 [(0,cy r),(3,di (↑(k+1):Int))]) bf))/\(Y ((k:Int)<(I (U vi r):Int))=O->Y ((I (U vi r):Int)>=1)=J/\db (Y ((I (U vi r):Int)<=6))=db J)) ⟨fun h=>?_,fun h=>⟨by rw[HP];exact h1,by rw[HP];exact Iq db h2⟩⟩
 have hk:k<I r:=by simpa using h
 have hx:r[k]?=G r[k]:=HQ hk
 generalize r[k]=x at hx
 have h4:=h3 x (HW hx)
 simp only[Xx,Bool.not_eq_true,Bool.or_eq_false_iff] at h4
 exact⟨x,by omega,A3 hx,h4.1,by omega,A3 hx,h4.2,As,⟨ih (I r- (k+1)) (by omega) (k+1) rfl⟩⟩
theorem UQ(r:List Int)(hr:Ed r=J):F0 171 [cy r] (db J):=by
 exact sv Qw 30 [] (.l [ke 0,ch 3 (di (0:Nat))]) (Q (di 0)/\_) ⟨rfl,iK (UR r hr _ 0 rfl)⟩
noncomputable abbrev Wa:=Tryz.f33
noncomputable def TY:=yj Wa
abbrev XL(l:List bc)(n:Nat):St:=⟨[G [di 0,di 0,.v .nils,.v .nils],G [di 3,di 0,.v (.list []),.acc 1 (l.map eT)],G [di 2,di n,.v (.list []),.v (.list [])]],[(1,4,l.map eT)]⟩
theorem UH(m:ba)(hm:m.okN)(hk:m.kind=1)(n:Nat):∀(k:Nat) (xs:List bc),I m.ay-k=n->k<=I m.ay->I xs<=k+1->
  Rn PP Wa 0 (dT (.prod (xs++replicate n (.nat)))) bf ([kl TY [1,1,1,0,1,0,1,1,1,1,1,0,0],.blk 1,.blk 0,kc TY [1,1,1,1]]++[]) (b9 96 [(1,.v (.ref (AE m))),(2,.ptr 0 0),(3,.ptr 1 0),(4,.ptr 2 0),(8,di k)]) (XL xs (I m.ax)):=by
 have hsz:=hm.sz
 induction n with
 |zero=>
  intro k xs hn hk0 hxs
  refine lv 96 [1] (.f .r) (Y ((k:Int)<(I (U ae m.ay):Int))=O/\bt (ab [vi 3,vi 0,ai [],ai (U eT xs)])=dT (bc.prod (xs++replicate 0 bc.nat))) ⟨by rw[HP];exact yo,?_⟩
  rw[List.replicate_zero,IG];rfl
 |succ n ih=>
  intro k xs hn hk0 hxs
  have h:=ih (k+1) (xs++[.nat]) (by omega) (by omega) (by simp only[Ig,HV,HZ];omega)
  rw[IZ] at h
  refine lv 96 [1] (.t<|.f<|.f<|.ls [ke 1,ke 2,ke 3,ke 4,ch 8 (di (k+1:Nat))] (XL (xs++[.nat]) (I m.ax))) (Y ((k:Int)<(I (U ae m.ay):Int))=J/\(m.kind==2)=O/\(m.kind==3)=O/\Q (U eT xs)/\A9 (I (U eT xs)+I (ab (aa yq 1::aa yq 0::ai nV::ai nV::nV)::nV)) 64/\di (yr yq ((k:Int)+1))=di (↑(k+1):Int)/\[G [di 0,di 0,dn,dn],G [di 3,di 0,bt (ai nV),br 1 (U eT xs++ab (vi 1::vi 0::ai nV::ai nV::nV)::nV)],G [di 2,di (I m.ax:Int),bt (ai nV),bt (ai nV)]]=[G [di 0,di 0,dn,dn],G [di 3,di 0,bt (ai nV),br 1 (U eT (xs++[bc.nat]))],G [di 2,di (I m.ax:Int),bt (ai nV),bt (ai nV)]]/\[(1,4,U eT xs++ab (vi 1::vi 0::ai nV::ai nV::nV)::nV)]=[(1,4,U eT (xs++[bc.nat]))]/\_) ⟨by rw[HP];exact yp,by rw[hk];rfl,by rw[hk];rfl,rfl,⟨?_,?_⟩,As,?_,?_,iK h⟩
  ·simp only[HP,HV,HZ];omega
  ·simp only[HP,HV,HZ];omega
  ·rw[←C5];rfl
  ·rw[←C5];rfl
theorem UG(m:ba)(hm:m.okN)(hk:m.kind=2)(n:Nat):∀(k:Nat) (xs:List bc),I m.ay-k=n->k<=I m.ay->I xs<=k+1->
  Rn PP Wa 0 (dT (.prod (xs++replicate n (.word (.lab (I m.ax)))))) bf ([kl TY [1,1,1,0,1,0,1,1,1,1,1,0,0],.blk 1,.blk 0,kc TY [1,1,1,1]]++[]) (b9 96 [(1,.v (.ref (AE m))),(2,.ptr 0 0),(3,.ptr 1 0),(4,.ptr 2 0),(8,di k)]) (XL xs (I m.ax)):=by
 have hsz:=hm.sz
 induction n with
 |zero=>
  intro k xs hn hk0 hxs
  refine lv 96 [1] (.f .r) (Y ((k:Int)<(I (U ae m.ay):Int))=O/\bt (ab [vi 3,vi 0,ai [],ai (U eT xs)])=dT (bc.prod (xs++replicate 0 (bc.word (bc.lab (I m.ax:Int)))))) ⟨by rw[HP];exact yo,?_⟩
  rw[List.replicate_zero,IG];rfl
 |succ n ih=>
  intro k xs hn hk0 hxs
  have h:=ih (k+1) (xs++[.word (.lab (I m.ax))]) (by omega) (by omega) (by simp only[Ig,HV,HZ];omega)
  rw[IZ] at h
  refine lv 96 [1] (.t<|.t<|.f<|.ls [ke 1,ke 2,ke 3,ke 4,ch 8 (di (k+1:Nat))] (XL (xs++[.word (.lab (I m.ax))]) (I m.ax))) (Y ((k:Int)<(I (U ae m.ay):Int))=J/\(m.kind==2)=J/\(m.kind==3)=O/\Q (U eT xs)/\A9 (I (U eT xs)+I (ab (aa yq 4::aa yq 0::ai nV::ai (ab (aa yq 2::aa yq (I m.ax:Int)::ai nV::ai nV::nV)::nV)::nV)::nV)) 64/\di (yr yq ((k:Int)+1))=di (↑(k+1):Int)/\[G [di 0,di 0,dn,dn],G [di 3,di 0,bt (ai nV),br 1 (U eT xs++ab (vi 4::vi 0::ai nV::ai (ab (vi 2::vi (I m.ax:Int)::ai nV::ai nV::nV)::nV)::nV)::nV)],G [di 2,di (I m.ax:Int),bt (ai nV),bt (ai nV)]]=[G [di 0,di 0,dn,dn],G [di 3,di 0,bt (ai nV),br 1 (U eT (xs++[bc.word (bc.lab (I m.ax:Int))]))],G [di 2,di (I m.ax:Int),bt (ai nV),bt (ai nV)]]/\[(1,4,U eT xs++ab (vi 4::vi 0::ai nV::ai (ab (vi 2::vi (I m.ax:Int)::ai nV::ai nV::nV)::nV)::nV)::nV)]=[(1,4,U eT (xs++[bc.word (bc.lab (I m.ax:Int))]))]/\_) ⟨by rw[HP];exact yp,by rw[hk];rfl,by rw[hk];rfl,rfl,⟨?_,?_⟩,As,?_,?_,iK h⟩
  ·simp only[HP,HV,HZ];omega
  ·simp only[HP,HV,HZ];omega
  ·rw[←C5];rfl
  ·rw[←C5];rfl
theorem UF(m:ba)(hm:m.okN)(hk:m.kind=3)(n:Nat):∀(k:Nat) (xs:List bc),I m.ay-k=n->k<=I m.ay->I xs<=k+1->
  Rn PP Wa 0 (dT (.prod (xs++replicate n (.prio (I m.ax) m.au)))) bf ([kl TY [1,1,1,0,1,0,1,1,1,1,1,0,0],.blk 1,.blk 0,kc TY [1,1,1,1]]++[]) (b9 96 [(1,.v (.ref (AE m))),(2,.ptr 0 0),(3,.ptr 1 0),(4,.ptr 2 0),(8,di k)]) (XL xs (I m.ax)):=by
 have hsz:=hm.sz
 induction n with
 |zero=>
  intro k xs hn hk0 hxs
  refine lv 96 [1] (.f .r) (Y ((k:Int)<(I (U ae m.ay):Int))=O/\bt (ab [vi 3,vi 0,ai [],ai (U eT xs)])=dT (bc.prod (xs++replicate 0 (bc.prio (I m.ax:Int) m.au)))) ⟨by rw[HP];exact yo,?_⟩
  rw[List.replicate_zero,IG];rfl
 |succ n ih=>
  intro k xs hn hk0 hxs
  have h:=ih (k+1) (xs++[.prio (I m.ax) m.au]) (by omega) (by omega) (by simp only[Ig,HV,HZ];omega)
  rw[IZ] at h
  refine lv 96 [1] (.t<|.f<|.t<|.c (cy m.au)<|.ls [ke 1,ke 2,ke 3,ke 4,ch 8 (di (k+1:Nat))] (XL (xs++[.prio (I m.ax) m.au]) (I m.ax))) (Y ((k:Int)<(I (U ae m.ay):Int))=J/\(m.kind==2)=O/\(m.kind==3)=J/\_/\Q (U eT xs)/\A9 (I (U eT xs)+I (ab (aa yq 7::aa yq (I (U ae m.ax):Int)::cz m.au::ai nV::nV)::nV)) 64/\di (yr yq ((k:Int)+1))=di (↑(k+1):Int)/\[G [di 0,di 0,dn,dn],G [di 3,di 0,bt (ai nV),br 1 (U eT xs++ab (vi 7::vi (I (U ae m.ax):Int)::cz m.au::ai nV::nV)::nV)],G [di 2,di (I m.ax:Int),bt (ai nV),bt (ai nV)]]=[G [di 0,di 0,dn,dn],G [di 3,di 0,bt (ai nV),br 1 (U eT (xs++[bc.prio (I m.ax:Int) m.au]))],G [di 2,di (I m.ax:Int),bt (ai nV),bt (ai nV)]]/\[(1,4,U eT xs++ab (vi 7::vi (I (U ae m.ax):Int)::cz m.au::ai nV::nV)::nV)]=[(1,4,U eT (xs++[bc.prio (I m.ax:Int) m.au]))]/\_) ⟨by rw[HP];exact yp,by rw[hk];rfl,by rw[hk];rfl,V8 m.au (by omega),rfl,⟨?_,?_⟩,As,?_,?_,iK h⟩
  ·simp only[HP,HV,HZ];omega
  ·simp only[HP,HV,HZ];omega
  ·rw[←C5];rw[HP];rfl
  ·rw[←C5];rw[HP];rfl
theorem L6(m:ba)(hm:m.okN):F0 33 [Ax m] (dT (AJ m)):=by
 have hk:=hm.kind
 refine sv Wa 96 [1] (.a 1<|.h .g<|.f<|.f<|.ls [ke 1,ke 2,ke 3,ke 4,ch 8 (di (0:Nat))] (XL [.lab (I m.aw)] (I m.ax))) ((m.kind==4)=O/\(m.kind==5)=O/\Q (di 0)/\[G [di 0,di 0,dn,dn],G [di 3,di 0,bt (ai nV),br 1 (ab (vi 2::vi (I (U ae m.aw):Int)::ai nV::ai nV::nV)::nV)],G [di 2,di (I (U ae m.ax):Int),bt (ai nV),bt (ai nV)]]=[G [di 0,di 0,dn,dn],G [di 3,di 0,bt (ai nV),br 1 (eT (bc.lab (I m.aw:Int))::nV)],G [di 2,di (I m.ax:Int),bt (ai nV),bt (ai nV)]]/\[(1,4,ab (vi 2::vi (I (U ae m.aw):Int)::ai nV::ai nV::nV)::nV)]=[(1,4,eT (bc.lab (I m.aw:Int))::nV)]/\I0 Wa (I bf.H) (dT (AJ m)) bf [kl TY [1,1,1,0,1,0,1,1,1,1,1,0,0],bh 1,bh 0,kc TY [1,1,1,1]] (b9 96 [(1,bt (bz (AE m))),(2,bq 0 0),(3,bq 1 0),(4,bq 2 0),(8,di (↑0:Int))]) (XL [bc.lab (I m.aw:Int)] (I m.ax))) ⟨by rcases hk with h|h|h<;>rw[h]<;>rfl,by rcases hk with h|h|h<;>rw[h]<;>rfl,rfl,by rw[HP,HP];rfl,by rw[HP];rfl,⟨?_⟩⟩
 rcases hk with h|h|h
 ·have:=UH m hm h _ 0 [.lab (I m.aw)] rfl (by omega) (by simp)
  rw[Nat.sub_zero] at this
  rw[AJ,show BB m=.nat by simp[BB,h]]
  exact this
 ·have:=UG m hm h _ 0 [.lab (I m.aw)] rfl (by omega) (by simp)
  rw[Nat.sub_zero] at this
  rw[AJ,show BB m=.word (.lab (I m.ax)) by simp[BB,h]]
  exact this
 ·have:=UF m hm h _ 0 [.lab (I m.aw)] rfl (by omega) (by simp)
  rw[Nat.sub_zero] at this
  rw[AJ,show BB m=.prio (I m.ax) m.au by simp[BB,h]]
  exact this
noncomputable abbrev MB:=Tryz.f120
noncomputable def Ph:=yj MB
theorem Sp(d:Nat):F0 120 [dT .nat,di ((d+1:Nat):Int)] (db J):=by
 have hz:(((d+1:Nat):Int)==0)=O:=I7.2 (by omega)
 exact sv MB 132 [2] (.f .r) (_/\Q (db J)) ⟨hz,rfl⟩
theorem NE(d:Nat)(n:Int)(h1:1<=n)(h2:n<=16):F0 120 [dT (.lab n),di ((d+1:Nat):Int)] (db J):=by
 have hz:(((d+1:Nat):Int)==0)=O:=I7.2 (by omega)
 exact sv MB 132 [2] (.f<|.k<|.k<|.k<|.k<|.k<|.t<|.t .r) (_/\Y (bc.sz (bc.lab n)>=1)=J/\Y (bc.sz (bc.lab n)<=16)=J/\Q (db J)) ⟨hz,HS h1,HS h2,rfl⟩
theorem P3(d:Nat)(n:Int)(r:List Int)(h1:n=I r)(h2:Ed r=J):F0 120 [dT (.prio n r),di ((d+1:Nat):Int)] (db J):=by
 have hz:(((d+1:Nat):Int)==0)=O:=I7.2 (by omega)
 have h3:=h2
 simp only[Ed,HR,Ia] at h3
 refine sv MB 132 [2] (.f<|.t<|.k<|.k<|.k<|.k<|.k<|.t<|.t<|.k<|.t<|.c (db J) .r) (_/\Y ((I (U vi (bc.rk (bc.prio n r))):Int)>0)=J/\Y (bc.sz (bc.prio n r)>=1)=J/\Y (bc.sz (bc.prio n r)<=6)=J/\((I (U vi (bc.rk (bc.prio n r))):Int)==bc.sz (bc.prio n r))=J/\_/\Q (db J)) ⟨hz,HS ?_,HS ?_,HS ?_,?_,UQ r h2,rfl⟩
 ·simp only[bc.rk,HP];omega
 ·simp only[bc.sz];omega
 ·simp only[bc.sz];omega
 ·simp only[bc.sz,bc.rk,HP,h1,beq_self_eq_true]
theorem P1(d:Nat)(t:bc)(hd:d<=100)(h:F0 120 [dT t,di d] (db J)):F0 120 [dT (.word t),di ((d+1:Nat):Int)] (db J):=by
 rw[dT,L4]
 refine sv MB 132 [2] (.f<|.x (vT t)<|.c (db J) .r) (((↑(d+1):Int)==0)=O/\iz 0<=0/\Q (G (vT t))/\F0 120 [bt (vT t),di (yr yq ((↑(d+1):Int)-1))] (db J)/\Q (db J)) ?_
 have hz:(((d+1:Nat):Int)==0)=O:=I7.2 (by omega)
 rw[show yq.wrap (((d+1:Nat):Int)-1)=d by rw[A2];omega]
 exact⟨hz,by decide,rfl,h,rfl⟩
theorem Wz(d:Nat)(l:List bc)(hd:d<=100)(hl:I l<=8)(h:∀t∈l,F0 120 [dT t,di d] (db J))(n:Nat):∀k:Nat,I l-k=n->
  Rn PP MB 0 (db J) bf ([kl Ph [1,1,0,1,0,1,1,1,1,1,1,1,1,1,0,1,0,1,0,0],.blk 1,kc Ph [1,1,0,1,0,1,1,1,1,1,1,1,1,1,0,1,1],.blk 0,kc Ph [1,1,1]]++[]) (b9 132 [(1,di ((d+1:Nat):Int)),(2,.v (.ref (vT (.prod l)))),(5,di k)]) bf:=by
 induction n using Nat.strongRecOn with
 |_ n ih=>
 intro k hn
 refine lv 132 [2] (.b (.e fun t:bc=>.x (vT t)<|.c (db J)<|.l [ke 1,ke 2,ch 5 (di (k+1:Nat))]) .r) ((Y ((k:Int)<(I (U eT (bc.ps (bc.prod l))):Int))=J->∃a,0<=(k:Int)/\(U eT (bc.ps (bc.prod l)))[Z (k:Int)]?=G (vT a)/\Aa PP 120 [bt (vT a),di (yr yq ((↑(d+1):Int)-1))] (bi [] []) (db J) (bi [] [])/\di (yr yq ((k:Int)+1))=di (↑(k+1):Int)/\Nv.It (AI (CN 0) PP (fun env σ1=>AL PP MB env σ1 (db J) bf) [kl Ph [1,1,0,1,0,1,1,1,1,1,1,1,1,1,0,1,0,1,0,0],bh 1,kc Ph [1,1,0,1,0,1,1,1,1,1,1,1,1,1,0,1,1],bh 0,kc Ph [1,1,1]] (b9 132 [(1,di (↑(d+1):Int)),(2,bt (bz (vT (bc.prod l)))),(5,di (↑(k+1):Int))]) bf))/\(Y ((k:Int)<(I (U eT (bc.ps (bc.prod l))):Int))=O->Q (db J))) ?_
 rw[show yq.wrap (((d+1:Nat):Int)-1)=d by rw[A2];omega]
 refine⟨fun h1=>?_,fun h1=>rfl⟩
 have hk:k<I l:=by simpa[bc.ps] using h1
 have hx:l[k]?=G l[k]:=HQ hk
 generalize l[k]=t at hx
 exact⟨t,by omega,GQ hx,h t (HW hx),As,⟨ih (I l- (k+1)) (by omega) (k+1) rfl⟩⟩
theorem P2(d:Nat)(l:List bc)(hd:d<=100)(h1:((I l:Int)==0)=O)(h2:Y ((I l:Int)>8)=O)(h:∀t∈l,F0 120 [dT t,di d] (db J)):F0 120 [dT (.prod l),di ((d+1:Nat):Int)] (db J):=by
 have hz:(((d+1:Nat):Int)==0)=O:=I7.2 (by omega)
 have h3:¬((I l:Int)>8):=IB h2
 have h4:(I l:Int)≠0:=by simpa using h1
 refine sv MB 132 [2] (.f<|.k<|.k<|.k<|.k<|.k<|.k<|.k<|.k<|.k<|.k<|.f<|.f<|.l [ke 1,ke 2,ch 5 (di (0:Nat))]) (_/\Y ((I (U eT (bc.ps (bc.prod l))):Int)<1)=O/\Y ((I (U eT (bc.ps (bc.prod l))):Int)>8)=O/\Q (di 0)/\_) ⟨hz,HU ?_,by simpa[bc.ps] using h2,rfl,iK (Wz d l hd (by omega) h _ 0 rfl)⟩
 simp only[bc.ps,HP];omega
theorem Wy(m:ba)(hm:m.okN):F0 120 [dT (AJ m),di 8] (db J):=by
 have hg:=hm.good
 simp only[AJ,B4,HR,IJ,ID] at hg
 obtain⟨h1,h2,h3⟩:=hg
 refine P2 7 _ (by omega) h1 h2 fun t ht=>?_
 have hgt:=h3 t ht
 rcases I8.1 ht with rfl|ht
 ·simp only[B4,HR,Ia] at hgt
  exact NE 6 _ hgt.1 hgt.2
 ·have e:=(List.mem_replicate.1 ht).2
  subst e
  unfold BB at hgt⊢
  split
  ·exact Sp 6
  ·rename_i hk
   rw[Ij hk] at hgt
   split
   ·rename_i hk2
    rw[Io hk2] at hgt
    simp only[B4,HR,Ia] at hgt
    exact P1 6 _ (by omega) (NE 5 _ hgt.1 hgt.2)
   ·rename_i hk2
    rw[Ij hk2] at hgt
    simp only[B4,HR,I4] at hgt
    exact P3 6 _ _ hgt.1 hgt.2
noncomputable abbrev w5:=Tryz.f59
theorem VH(m:ba)(hm:m.okN):F0 59 [dT (AJ m)] (di 0):=by
 exact sv w5 6 [1] (.c (db J) .r) (_/\Q (di 0)) ⟨Wy m hm,rfl⟩
noncomputable abbrev DT:=Tryz.f61
noncomputable def C6:=yj DT
theorem Tc(v:bd):F0 61 [dT .nat,dV v] (db (A0 .nat v)):=by
 refine sv DT 169 [2,3] (.k<|.b (.b .r .r) .r) ((Y (v.n>=0)=J->(Y (v.n<=1048576)=J->db ((I (U eV v.az):Int)==0)=db (A0 bc.nat v))/\(Y (v.n<=1048576)=O->db O=db (A0 bc.nat v)))/\(Y (v.n>=0)=O->db O=db (A0 bc.nat v))) ?_
 refine⟨fun h1=>⟨fun h2=>?_,fun h2=>?_⟩,fun h1=>?_⟩<;>simp_all [A0]<;>(intros;omega)
theorem O5(n:Int)(v:bd):F0 61 [dT (.lab n),dV v] (db (A0 (.lab n) v)):=by
 refine sv DT 169 [2,3] (.k<|.k<|.b (.b .r .r) .r) ((Y (v.n>=0)=J->(Y (v.n<bc.sz (bc.lab n))=J->db ((I (U eV v.az):Int)==0)=db (A0 (bc.lab n) v))/\(Y (v.n<bc.sz (bc.lab n))=O->db O=db (A0 (bc.lab n) v)))/\(Y (v.n>=0)=O->db O=db (A0 (bc.lab n) v))) ?_
 refine⟨fun h1=>⟨fun h2=>?_,fun h2=>?_⟩,fun h1=>?_⟩<;>(try simp only[bc.sz,HP] at*)<;>simp only[A0,Cy,h1,I2,Iz]<;>(by_cases hh:v.n<n<;>simp_all)<;>(intros;omega)
theorem Vh(t:bc)(v:bd)(hv:I v.az<=12)(h:∀k∈v.az,F0 61 [dT t,dV k] (db (A0 t k)))(n:Nat):∀k:Nat,I v.az-k=n->
  Rn PP DT 0 (db ((v.az.drop k).all fun x=>A0 t x)) bf ([kl C6 [1,1,1,0,1,0,0],.blk 3,kc C6 [1,1,1,1]]++[]) (b9 169 [(2,.v (.ref (il 4 0 [] [vT t]))),(3,.v (.ref (Au v))),(6,di k)]) bf:=by
 induction n using Nat.strongRecOn with
 |_ n ih=>
 intro k hn
 refine lv 169 [2,3] (.b (.e fun x:bd=>.x (vT t)<|.x (Au x)<|.c (db (A0 t x))<|.b .r (.l [ke 2,ke 3,ch 6 (di (k+1:Nat))])) .r) ((Y ((k:Int)<(I (U eV v.az):Int))=J->∃a,iz 0<=0/\G (vT t)=G (vT t)/\0<=(k:Int)/\(U eV v.az)[Z (k:Int)]?=G (Au a)/\Aa PP 61 [bt (vT t),dV a] (bi [] []) (db (A0 t a)) (bi [] [])/\((!A0 t a)=J->db O=db (List.all (W k v.az) fun x=>A0 t x))/\((!A0 t a)=O->di (yr yq ((k:Int)+1))=di (↑(k+1):Int)/\Nv.It (AI (CN 0) PP (fun env σ1=>AL PP DT env σ1 (db (List.all (W k v.az) fun x=>A0 t x)) bf) [kl C6 [1,1,1,0,1,0,0],bh 3,kc C6 [1,1,1,1]] (b9 169 [(2,bt (bz (il 4 0 [] [vT t]))),(3,bt (bz (Au v))),(6,di (↑(k+1):Int))]) (bi [] []))))/\(Y ((k:Int)<(I (U eV v.az):Int))=O->db J=db (List.all (W k v.az) fun x=>A0 t x))) ⟨fun h1=>?_,fun h1=>?_⟩
 ·have hk:k<I v.az:=by simpa using h1
  have hx:v.az[k]?=G v.az[k]:=HQ hk
  rw[Ih hk]
  generalize v.az[k]=x at hx⊢
  refine⟨x,by decide,rfl,by omega,A1 hx,h x (HW hx),fun h2=>?_,fun h2=>⟨As,⟨?_⟩⟩⟩
  ·have h2:A0 t x=O:=by simpa using h2
   rw[all_cons,h2,Iz]
  ·have h2:A0 t x=J:=by simpa using h2
   rw[all_cons,h2,I2]
   exact ih (I v.az- (k+1)) (by omega) (k+1) rfl
 ·have hk:I v.az<=k:=by simpa using h1
  rw[Im hk];rfl
theorem Qd(t:bc)(v:bd)(h:∀k∈v.az,F0 61 [dT t,dV k] (db (A0 t k))):F0 61 [dT (.word t),dV v] (db (A0 (.word t) v)):=by
 rw[dT,L4]
 refine sv DT 169 [2,3] (.k<|.k<|.k<|.k<|.b .r (.b .r (.l [ke 2,ke 3,ch 6 (di (0:Nat))]))) (((v.n !=0)=J->db O=db (A0 (bc.word t) v))/\((v.n !=0)=O->(Y ((I (U eV v.az):Int)>12)=J->db O=db (A0 (bc.word t) v))/\(Y ((I (U eV v.az):Int)>12)=O->di 0=di (↑0:Int)/\I0 DT (I bf.H) (db (A0 (bc.word t) v)) bf [kl C6 [1,1,1,0,1,0,0],bh 3,kc C6 [1,1,1,1]] (b9 169 [(2,bt (bz (il 4 0 [] [vT t]))),(3,bt (bz (Au v))),(6,di (↑0:Int))]) bf))) ⟨fun h1=>?_,fun h1=>⟨fun h2=>?_,fun h2=>⟨rfl,⟨?_⟩⟩⟩⟩
 ·have h1:(v.n==0)=O:=by simpa using h1
  simp only[A0,h1,Iz]
 ·have h2:¬((I v.az:Int)<=12):=by simpa using h2
  simp only[A0,HU h2,Iz,J3]
 ·have h1:(v.n==0)=J:=by simpa using h1
  have h2:(I v.az:Int)<=12:=by simpa using h2
  simp only[A0,h1,HS h2,I2]
  exact Vh t v (by omega) h _ 0 rfl
theorem Vj(sz:Int)(r:List Int)(v:bd)(hv:I v.az<=12)(n:Nat):∀k:Nat,I v.az-k=n->
  Rn PP DT 0 (db ((v.az.drop k).all fun x=>Cy sz x)) bf ([kl C6 [1,1,1,0,1,0,0],.blk 3,kc C6 [1,1,1,1]]++[]) (b9 169 [(2,.v (.ref (vT (.prio sz r)))),(3,.v (.ref (Au v))),(6,di k)]) bf:=by
 induction n using Nat.strongRecOn with
 |_ n ih=>
 intro k hn
 refine lv 169 [2,3] (.b (.e fun x:bd=>.k<|.h (.xs (Au x))<|.b .r (.h (.xs (Au x))<|.b .r (.h (.xs (Au x))<|.b .r (.l [ke 2,ke 3,ch 6 (di (k+1:Nat))])))) .r) ((Y ((k:Int)<(I (U eV v.az):Int))=J->∃a,2=2/\0<=(k:Int)/\(U eV v.az)[Z (k:Int)]?=G (Au a)/\(Y (a.n<0)=J->db O=db (List.all (W k v.az) fun x=>Cy sz x))/\(Y (a.n<0)=O->2=2/\0<=(k:Int)/\(U eV v.az)[Z (k:Int)]?=G (Au a)/\(Y (a.n>=bc.sz (bc.prio sz r))=J->db O=db (List.all (W k v.az) fun x=>Cy sz x))/\(Y (a.n>=bc.sz (bc.prio sz r))=O->2=2/\0<=(k:Int)/\(U eV v.az)[Z (k:Int)]?=G (Au a)/\(Y ((I (U eV a.az):Int)>0)=J->db O=db (List.all (W k v.az) fun x=>Cy sz x))/\(Y ((I (U eV a.az):Int)>0)=O->di (yr yq ((k:Int)+1))=di (↑(k+1):Int)/\Nv.It (AI (CN 0) PP (fun env σ1=>AL PP DT env σ1 (db (List.all (W k v.az) fun x=>Cy sz x)) bf) [kl C6 [1,1,1,0,1,0,0],bh 3,kc C6 [1,1,1,1]] (b9 169 [(2,bt (bz (vT (bc.prio sz r)))),(3,bt (bz (Au v))),(6,di (↑(k+1):Int))]) (bi [] []))))))/\(Y ((k:Int)<(I (U eV v.az):Int))=O->db J=db (List.all (W k v.az) fun x=>Cy sz x))) ⟨fun h1=>?_,fun h1=>?_⟩
 ·have hk:k<I v.az:=by simpa using h1
  have hx:v.az[k]?=G v.az[k]:=HQ hk
  rw[Ih hk]
  generalize v.az[k]=x at hx⊢
  refine⟨x,rfl,by omega,A1 hx,fun h2=>?_,fun h2=>⟨rfl,by omega,A1 hx,fun h3=>?_,fun h3=>⟨rfl,by omega,A1 hx,fun h4=>?_,fun h4=>⟨As,⟨?_⟩⟩⟩⟩⟩
  ·have h2:¬(x.n>=0):=by have:=Ib h2;omega
   rw[all_cons,Cy,HU h2,Iz,Iz]
  ·have h3:¬(x.n<sz):=by have:=Ib h3;simp only[bc.sz] at this;omega
   rw[all_cons,Cy,HU h3,Iz,J3,Iz]
  ·have h4:((I x.az:Int)==0)=O:=by have:=Ib h4;rw[HP] at this;exact I7.2 (by omega)
   rw[all_cons,Cy,h4,J3,J3,Iz]
  ·have h2:x.n>=0:=by have:=IB h2;omega
   have h3:x.n<sz:=by have:=IB h3;simp only[bc.sz] at this;omega
   have h4:((I x.az:Int)==0)=J:=by have:=IB h4;rw[HP] at this;exact I4.2 (by omega)
   rw[all_cons,Cy,HS h2,HS h3,h4,I2,I2,I2]
   exact ih (I v.az- (k+1)) (by omega) (k+1) rfl
 ·have hk:I v.az<=k:=by simpa using h1
  rw[Im hk];rfl
theorem Qf(sz:Int)(r:List Int)(v:bd):F0 61 [dT (.prio sz r),dV v] (db (A0 (.prio sz r) v)):=by
 refine sv DT 169 [2,3] (.k<|.k<|.k<|.k<|.b .r (.b .r (.l [ke 2,ke 3,ch 6 (di (0:Nat))]))) (((v.n !=0)=J->db O=db (A0 (bc.prio sz r) v))/\((v.n !=0)=O->(Y ((I (U eV v.az):Int)>12)=J->db O=db (A0 (bc.prio sz r) v))/\(Y ((I (U eV v.az):Int)>12)=O->di 0=di (↑0:Int)/\I0 DT (I bf.H) (db (A0 (bc.prio sz r) v)) bf [kl C6 [1,1,1,0,1,0,0],bh 3,kc C6 [1,1,1,1]] (b9 169 [(2,bt (bz (vT (bc.prio sz r)))),(3,bt (bz (Au v))),(6,di (↑0:Int))]) bf))) ⟨fun h1=>?_,fun h1=>⟨fun h2=>?_,fun h2=>⟨rfl,⟨?_⟩⟩⟩⟩
 ·have h1:(v.n==0)=O:=by simpa using h1
  simp only[A0,h1,Iz]
 ·have h2:¬((I v.az:Int)<=12):=by simpa using h2
  simp only[A0,HU h2,Iz,J3]
 ·have h1:(v.n==0)=J:=by simpa using h1
  have h2:(I v.az:Int)<=12:=by simpa using h2
  simp only[A0,h1,HS h2,I2]
  exact Vj sz r v (by omega) _ 0 rfl
theorem Vk(l:List bc)(v:bd)(hl:I v.az=I l)(hv:I v.az<=1000000)(h:∀t∈l,∀k∈v.az,F0 61 [dT t,dV k] (db (A0 t k)))(n:Nat):∀k:Nat,I l-k=n->
  Rn PP DT 0 (db (B1 (l.drop k) (v.az.drop k))) bf ([kl C6 [1,0,1,0,1,1,1,1,1,1,1,0,1,0,1,0,0],.blk 1,kc C6 [1,0,1,0,1,1,1,1,1,1,1,0,1,1],.blk 0,kc C6 [1,1]]++[]) (b9 169 [(2,.v (.ref (vT (.prod l)))),(3,.v (.ref (Au v))),(5,di k)]) bf:=by
 induction n using Nat.strongRecOn with
 |_ n ih=>
 intro k hn
 refine lv 169 [2,3] (.b (.e fun t:bc=>.x (vT t)<|.e fun x:bd=>.x (Au x)<|.c (db (A0 t x))<|.b .r (.l [ke 2,ke 3,ch 5 (di (k+1:Nat))])) .r) ((Y ((k:Int)<(I (U eV v.az):Int))=J->∃a,0<=(k:Int)/\(U eT (bc.ps (bc.prod l)))[Z (k:Int)]?=G (vT a)/\∃a_1,0<=(k:Int)/\(U eV v.az)[Z (k:Int)]?=G (Au a_1)/\Aa PP 61 [bt (vT a),dV a_1] (bi [] []) (db (A0 a a_1)) (bi [] [])/\((!A0 a a_1)=J->db O=db (B1 (W k l) (W k v.az)))/\((!A0 a a_1)=O->di (yr yq ((k:Int)+1))=di (↑(k+1):Int)/\Nv.It (AI (CN 0) PP (fun env σ1=>AL PP DT env σ1 (db (B1 (W k l) (W k v.az))) bf) [kl C6 [1,0,1,0,1,1,1,1,1,1,1,0,1,0,1,0,0],bh 1,kc C6 [1,0,1,0,1,1,1,1,1,1,1,0,1,1],bh 0,kc C6 [1,1]] (b9 169 [(2,bt (bz (vT (bc.prod l)))),(3,bt (bz (Au v))),(5,di (↑(k+1):Int))]) (bi [] []))))/\(Y ((k:Int)<(I (U eV v.az):Int))=O->db J=db (B1 (W k l) (W k v.az)))) ⟨fun h1=>?_,fun h1=>?_⟩
 ·have hk:k<I v.az:=by simpa using h1
  have hk2:k<I l:=by omega
  have hx:v.az[k]?=G v.az[k]:=HQ hk
  have hy:l[k]?=G l[k]:=HQ hk2
  rw[Ih hk,Ih hk2]
  generalize v.az[k]=x at hx⊢
  generalize l[k]=t at hy⊢
  refine⟨t,by omega,GQ hy,x,by omega,A1 hx,h t (HW hy) x (HW hx),fun h2=>?_,fun h2=>⟨As,⟨?_⟩⟩⟩
  ·have h2:A0 t x=O:=by simpa using h2
   simp only[B1,h2,Iz]
  ·have h2:A0 t x=J:=by simpa using h2
   simp only[B1,h2,I2]
   exact ih (I l- (k+1)) (by omega) (k+1) rfl
 ·have hk:I v.az<=k:=by simpa using h1
  rw[Im hk,Im (by omega)];simp only[B1]
theorem Qe(l:List bc)(v:bd)(hv:v.size<=1000000)(h:∀t∈l,∀k∈v.az,F0 61 [dT t,dV k] (db (A0 t k))):F0 61 [dT (.prod l),dV v] (db (A0 (.prod l) v)):=by
 have hlen:=bd.length_le v.az
 have hsz:=bd.size_eq v
 refine sv DT 169 [2,3] (.k<|.k<|.k<|.k<|.b .r (.b .r (.l [ke 2,ke 3,ch 5 (di (0:Nat))]))) (((v.n !=0)=J->db O=db (A0 (bc.prod l) v))/\((v.n !=0)=O->(((I (U eV v.az):Int) !=(I (U eT (bc.ps (bc.prod l))):Int))=J->db O=db (A0 (bc.prod l) v))/\(((I (U eV v.az):Int) !=(I (U eT (bc.ps (bc.prod l))):Int))=O->di 0=di (↑0:Int)/\I0 DT (I bf.H) (db (A0 (bc.prod l) v)) bf [kl C6 [1,0,1,0,1,1,1,1,1,1,1,0,1,0,1,0,0],bh 1,kc C6 [1,0,1,0,1,1,1,1,1,1,1,0,1,1],bh 0,kc C6 [1,1]] (b9 169 [(2,bt (bz (vT (bc.prod l)))),(3,bt (bz (Au v))),(5,di (↑0:Int))]) bf))) ⟨fun h1=>?_,fun h1=>⟨fun h2=>?_,fun h2=>⟨rfl,⟨?_⟩⟩⟩⟩
 ·have h1:(v.n==0)=O:=by simpa using h1
  simp only[A0,h1,Iz]
 ·have h2:((I v.az:Int)==I l)=O:=by simpa[bc.ps] using h2
  simp only[A0,h2,Iz,J3]
 ·have h1:(v.n==0)=J:=by simpa using h1
  have h2:(I v.az:Int)=I l:=by simpa[bc.ps] using h2
  have h3:((I v.az:Int)==I l)=J:=by simpa using h2
  simp only[A0,h1,h3,I2]
  exact Vk l v (by omega) (by omega) h _ 0 rfl
theorem AbP(m:ba)(v:bd):F0 61 [dT (BB m),dV v] (db (A0 (BB m) v)):=by
 unfold BB
 split
 ·exact Tc v
 ·split
  ·exact Qd _ v fun k _=>O5 _ k
  ·exact Qf _ _ v
theorem Yh(m:ba)(v:bd)(hv:v.size<=1000000):F0 61 [dT (AJ m),dV v] (db (A0 (AJ m) v)):=
 Qe _ v hv fun t ht k _=>by
  rcases I8.1 ht with rfl|ht
  ·exact O5 _ k
  ·rw[(List.mem_replicate.1 ht).2];exact AbP m k
noncomputable abbrev xv:=Tryz.f32
theorem P0(m:ba)(hm:m.okN)(v:bd):F0 32 [dT (AJ m),dV v] (db (Aw (AJ m) v)):=by
 refine sv xv 18 [2,3] (.c (di 0)<|.c (di (min (v.size:Int) 129))<|.b (.c (db (A0 (AJ m) v)) .r) .r) (_/\_/\(Y (min (↑(bd.size v):Int) 129<=128)=J->F0 61 [bt (vT (AJ m)),dV v] (db (A0 (AJ m) v))/\db (A0 (AJ m) v)=db (Aw (AJ m) v))/\(Y (min (↑(bd.size v):Int) 129<=128)=O->db O=db (Aw (AJ m) v))) ⟨VH m hm,JX _ v (HX _) 128 (by decide) (by decide),fun h1=>?_,fun h1=>?_⟩
 ·have h1:=Ib h1
  have h2:(v.size:Int)<=128:=by rw[IR] at h1;split at h1<;>omega
  exact⟨Yh m v (by omega),by rw[Aw,HS h2,I2]⟩
 ·have h1:=IB h1
  rw[Aw,HU (show ¬(v.size:Int)<=128 by rw[IR] at h1;split at h1<;>omega),Iz]
noncomputable abbrev MZ:=Tryz.f31
noncomputable def HN:=yj MZ
theorem K9(m:ba)(t:bc)(b:Bool)(hl:I m.av<=1000000)(hk:(m.kind==6)=O)(hR:∀r∈m.av,F0 58 [Ax m,AZ r] (db J))(hT:F0 33 [Ax m] (dT t))(hV:F0 32 [dT t,dV m.start] (db b))(n:Nat):∀k:Nat,I m.av-k=n->
  Rn PP MZ 0 (di (if b then 0 else 17)) bf ([kl HN [1,1,1,1,1,0,1,0,0],.blk 0,kc HN [1,1,1,1,1,1]]++[]) (b9 52 [(1,.v (.ref (AE m))),(3,di k)]) bf:=by
 induction n using Nat.strongRecOn with
 |_ n ih=>
 intro k hn
 refine lv 52 [1] (.b (.e fun r:cq=>.x (AD r)<|.c (db J)<|.l [ke 1,ch 3 (di (k+1:Nat))]) (.f<|.c (dT t)<|.c (db b)<|.b .r .r)) ((Y ((k:Int)<(I (U AD m.av):Int))=J->∃a,0<=(k:Int)/\(U AD m.av)[Z (k:Int)]?=G (AD a)/\Aa PP 58 [Ax m,AZ a] (bi [] []) (db J) (bi [] [])/\di (yr yq ((k:Int)+1))=di (↑(k+1):Int)/\Nv.It (AI (CN 0) PP (fun env σ1=>AL PP MZ env σ1 (di (if b=J then 0 else 17)) bf) [kl HN [1,1,1,1,1,0,1,0,0],bh 0,kc HN [1,1,1,1,1,1]] (b9 52 [(1,bt (bz (AE m))),(3,di (↑(k+1):Int))]) (bi [] [])))/\(Y ((k:Int)<(I (U AD m.av):Int))=O->(m.kind==6)=O/\F0 33 [Ax m] (dT t)/\F0 32 [bt (vT t),dV m.start] (db b)/\((!b)=J->di 17=di (if b=J then 0 else 17))/\((!b)=O->di 0=di (if b=J then 0 else 17)))) ⟨fun h=>?_,fun h=>⟨hk,hT,hV,fun e=>?_,fun e=>?_⟩⟩
 ·have hk:k<I m.av:=by simpa using h
  have hx:m.av[k]?=G m.av[k]:=HQ hk
  generalize m.av[k]=r at hx
  exact⟨r,by omega,A3 hx,hR r (HW hx),As,⟨ih (I m.av- (k+1)) (by omega) (k+1) rfl⟩⟩
 ·cases b<;>first|rfl|exact absurd e (by decide)
 ·cases b<;>first|rfl|exact absurd e (by decide)
theorem Pb(m:ba)(e:Int)(h1:A6 m.kind 1 6=J)(h2:F0 55 [Ax m] (db J))(h3:F0 56 [Ax m] (db J))(h4:F0 57 [Ax m] (db J))
  (hl:Rn PP MZ 0 (di e) bf ([kl HN [1,1,1,1,1,0,1,0,0],.blk 0,kc HN [1,1,1,1,1,1]]++[]) (b9 52 [(1,.v (.ref (AE m))),(3,di (0:Nat))]) bf):F0 31 [Ax m] (di e):=by
 have h1:=h1▸Cl m.kind 1 6
 exact sv MZ 52 [1] (.c (db J)<|.c (db J)<|.c (db J)<|.c (db J)<|.l [ke 1,ch 3 (di (0:Nat))]) (_/\_/\_/\_/\Q (di 0)/\_) ⟨h1,h2,h3,h4,rfl,iK hl⟩
theorem QA(m:ba)(hm:m.okS):F0 31 [Ax m] (di (if Aw (AJ m) m.start then 0 else 17)):=
 Pb m _ (by rcases hm.n.kind with h|h|h<;>rw[h]<;>rfl) (Vm m hm) (UO m hm) (Vn m hm) (K9 m _ _ (by have:=hm.n.sz;omega) (by rcases hm.n.kind with h|h|h<;>rw[h]<;>rfl) (fun r hr=>Xu m hm r hr) (L6 m hm) (P0 m hm m.start) _ 0 rfl)
theorem VG(m:ba)(hm:m.ok):F0 31 [Ax m] (di 0):=by
 have:=QA m hm
 rwa[hm.start,Io rfl] at this
noncomputable abbrev xw:=Tryz.f15
theorem P4(m:ba)(hm:m.ok)(v:bd):F0 15 [Ax m,dV v] (db (Aw (AJ m) v)):=by
 exact sv xw 14 [2,3] (.c (di 0)<|.c (dT (AJ m))<|.c (db (Aw (AJ m) v)) .r) (_/\_/\_/\Q (db (Aw (AJ m) v))) ⟨VG m hm,L6 m hm,P0 m hm v,rfl⟩
abbrev vBs(l:List UInt8):V:=.list (l.map vb)
abbrev cDz(l:List UInt8)(a:Nat):List D:=[.v (vBs l),di a]
abbrev dz(l:List UInt8)(a:Nat):St:=⟨[G (cDz l a)],[]⟩
def EP(s:Int)(l:List Int):bd:=.mk 0 (.mk s []::l.map fun x=>.mk x [])
abbrev pr:List (List UInt8):=[[114],[115],[116]]
def uj(nm:List UInt8)(f t:Int)(nd gv:List Int):cq:=⟨nm,f,t,nd,gv,[],0,0,0,[],[],[],[],0⟩
abbrev zM:List D:=[di 0,.v .nils,.v .nils,.v .nils,.v .nils,di 0,di 0,.v .nils,di 0,.v .nils]
structure tg(ns np:Nat)(k:Nat)(r:cq):Prop where
 name:pr[k]?=G r.name
 aj:0<=r.aj/\r.aj<ns
 to:0<=r.to/\r.to<ns
 am:I r.am=np/\∀x∈r.am,0<=x/\x<=2
 ak:I r.ak=np/\∀x∈r.ak,0<=x/\x<=2
 rest:r=uj r.name r.aj r.to r.am r.ak
structure wz(m:ba):Prop where
 kind:m.kind=1
 aw:m.aw=[[97]]∨m.aw=[[97],[98]]
 ay:m.ay=[[120]]∨m.ay=[[120],[121]]
 ax:m.ax=[]
 au:m.au=[]
 ao:m.ao=0
 age:m.age=0
 count:I m.av<=3
 pos:1<=I m.av
 av:∀k r,m.av[k]?=G r->tg (I m.aw) (I m.ay) k r
 start:∃ys:List Int,I ys=I m.ay/\(∀x∈ys,0<=x/\x<=3)/\m.start=EP 0 ys
theorem AfD{rs:List cq}(h3:I rs<=3){ns np:Nat}(h:∀k r,rs[k]?=G r->tg ns np k r):rs.map cq.name=pr.take (I rs):=by
 apply List.ext_getElem?
 intro i
 by_cases hi:i<I rs
 ·have hx:rs[i]?=G rs[i]:=HQ hi
  rw[I9,hx,List.getElem?_take_of_lt hi,(h i _ hx).name];rfl
 ·rw[IF (by simp;omega),IF (by simp;omega)]
theorem Aa0(ys:List Int)(n:Nat)(h:I ys=n)(h0:∀x∈ys,0<=x/\x<=1048576):B1 (replicate n .nat) (ys.map fun x=>bd.mk x [])=J:=by
 induction n generalizing ys with
 |zero=>cases ys with
  |nil=>rfl
  |cons y ys=>simp at h
 |succ n ih=>cases ys with
  |nil=>simp at h
  |cons y ys=>
   have:=h0 y (by simp)
   simp only[IL,Iu,B1,A0,HR,Ia,I4]
   exact⟨⟨this.1,this.2,rfl⟩,ih ys (by simpa using h) fun x hx=>h0 x (by simp[hx])⟩
theorem JA(ys:List Int):bd.sizes (ys.map fun x=>bd.mk x [])=I ys:=by
 induction ys with
 |nil=>rfl
 |cons y ys ih=>simp only[Iu,bd.sizes,ih,HV,bd.size];omega
theorem G6(s:Int)(ys:List Int):(EP s ys).size=2+I ys:=by
 simp only[EP,bd.size,bd.sizes,JA];omega
theorem JM(m:ba)(hk:m.kind=1)(hpl:I m.ay<=100)(s:Int)(hs:0<=s/\s<I m.aw)(ys:List Int)(hy:I ys=I m.ay)(h:∀x∈ys,0<=x/\x<=1048576):Aw (AJ m) (EP s ys)=J:=by
 rw[Aw,HS (by rw[G6];omega),I2,AJ,show BB m=.nat by simp[BB,hk]]
 simp only[A0,EP,bd.n,bd.az,B1,Cy,HR,Ia,I4]
 refine⟨?_,by simp[hy],⟨HS hs.1,HS hs.2,by rfl⟩,Aa0 ys _ hy h⟩
 first|trivial|rfl
theorem wz.ok{m:ba}(h:wz m):m.ok:=by
 have hst:1<=I m.aw/\m.aw.length<=2:=by rcases h.aw with e|e<;>rw[e]<;>decide
 have hpl:1<=I m.ay/\m.ay.length<=2:=by rcases h.ay with e|e<;>rw[e]<;>decide
 have hb:∀{x a b:Int},a<=x->x<=b->A6 x a b=J:=fun h1 h2=>by simp[A6,h1,h2]
 have hget:∀r∈m.av,tg (I m.aw) (I m.ay) (m.av.idxOf r) r:=fun r hr=>by
  have hi:=List.idxOf_lt_length_of_mem hr
  exact h.av _ r (by rw[HQ hi,List.getElem_idxOf])
 have hc:=h.count
 refine⟨.inl h.kind,?_,?_,?_,?_,?_,?_,?_⟩
 ·simp only[C3,HC,Io h.kind,HR,Ia,h.ax,h.ao,h.age]
  exact⟨hb (by omega) (by omega),by omega,hb (by omega) (by omega),by decide,by decide,by decide⟩
 ·rw[BJ,Io (by rw[h.kind];rfl),h.au];rfl
 ·have hn:=AfD h.count h.av
  rw[Db,Dq,hn,BR,h.ax]
  have:I m.av=0∨m.av.length=1∨m.av.length=2∨m.av.length=3:=by omega
  rcases h.aw with e|e<;>rcases h.ay with e'|e'<;>rcases this with e2|e2|e2|e2<;>rw[e,e',e2]<;>decide
 ·intro r hr
  have hm:=hget r hr
  have h1:=hm.am.1
  have h2:=hm.ak.1
  rw[hm.rest]
  exact⟨by show I r.am<=_;omega,by show I r.ak<=_;omega,I3 _,I3 _,I3 _,I3 _,I3 _⟩
 ·intro r hr
  have hm:=hget r hr
  obtain⟨f1,f2⟩:=hm.aj
  obtain⟨t1,t2⟩:=hm.to
  obtain⟨n1,n2⟩:=hm.am
  obtain⟨g1,g2⟩:=hm.ak
  have hr:=hm.rest
  generalize r.name=nm at hr
  generalize r.aj=f at*
  generalize r.to=t at*
  generalize r.am=nd at*
  generalize r.ak=gv at*
  subst hr
  rw[Da,Io h.kind]
  simp only[Ec,BY,Dc,BU,Ow,uj,HR,ID,I4,Ia,I6,true_and,HZ]
  refine⟨hb (by omega) (by omega),hb (by omega) (by omega),⟨by omega,by omega,fun x hx=>hb (n2 x hx).1 (by have:=(n2 x hx).2;omega),fun x hx=>hb (g2 x hx).1 (by have:=(g2 x hx).2;omega)⟩,?_⟩
  simp
 ·obtain⟨ys,y1,y2,y3⟩:=h.start
  rw[y3]
  exact JM m h.kind (by omega) 0 ⟨by omega,by omega⟩ ys y1 fun x hx=>by have:=y2 x hx;omega
 ·obtain⟨ys,y1,y2,y3⟩:=h.start
  rw[y3,G6];omega
abbrev lf(y:Int):bd:=.mk y []
structure nj(c:bd)(s:Int)(ys:List Int):Prop where
 eq:c=EP s ys
 len:I c.az=I ys+1
 head:c.az[0]?=G (lf s)
 at':∀(i:Nat) (y:Int),ys[i]?=G y->c.az[i+1]?=G (lf y)
theorem isC(s:Int)(ys:List Int):nj (EP s ys) s ys:=
 ⟨rfl,by simp[EP,bd.az],rfl,fun i y h=>by simp[EP,bd.az,h]⟩
def Gu:List Int->List Int->Bool
 |n::ns,y::ys=> !decide (y<n)&&Gu ns ys
 |_,_=>true
def ic(r:cq)(s:Int)(ys:List Int):Bool:=(s==r.aj)&&Gu r.am ys
abbrev cR(r:cq):List D:=[.v (.str r.name),di r.aj,di r.to,cy r.am,cy r.ak,cy r.move,di r.chan,di r.act,di r.letter,cy r.path,cy r.next,.v (AT r.ar),cy r.aq,di r.second]
def ST:List bd->List Int->List Int->bd×Int
 |xs,w::ws,g::gs=>if Y (w+g>1048576)=J then(.mk 0 [],1) else ST (xs++[lf (w+g)]) ws gs
 |xs,_,_=>(.mk 0 xs,0)
abbrev dP(p:bd×Int):D:=.tup [dV p.1,di p.2]
def oh(r:cq)(ys:List Int):List Int:=zipWith (fun y n=>y-n) ys r.am
abbrev ik(r:cq)(ws:List Int):St:=⟨[G [di 0,.v .nils],G (cR r),G (cb ws)],[]⟩
abbrev m5(r:cq)(ws:List Int)(xs:List bd):St:=⟨[G [di 0,.v .nils],G (cR r),G (cb ws),G [di 0,.acc 1 (xs.map eV)]],[(1,2,xs.map eV)]⟩
def i9(r:cq)(s:Int)(ys:List Int):bd×Int:=if ic r s ys=J then ST [lf r.to] (oh r ys) r.ak else(.mk 0 [],18)
def Cx(p:bd×Int):List bd×Int:=if (p.2==18)=J then([],0) else if (p.2 !=0)=J then([],p.2) else([p.1],0)
abbrev dm(p:List bd×Int):D:=.tup [cx p.1,di p.2]
abbrev da:=Int×bd
abbrev dh(s:da):V:=.agg [vi s.1,vi s.2.n,cc s.2.az]
abbrev Hr(l:List da):V:=.list (l.map dh)
abbrev l4(l:List da):D:=.acc 1 (l.map dh)
abbrev lk(l:List da):St:=⟨[],[(1,3,l.map dh)]⟩
theorem Ss(l:List da)(s:da):l.map dh++[dh s]=(l++[s]).map dh:=by simp
def CJ(ap:Int->List bd×Int):Nat->Int->List da->List da×Int
 |0,_,acc=>if Y ((I acc:Int)>256)=J then([],1) else(acc,0)
 |n+1,i,acc=>if ((ap i).2 !=0)=J then([],(ap i).2) else CJ ap n (i+1) (acc++(ap i).1.map fun v=>(i,v))
abbrev fi(p:List da×Int):D:=.tup [.v (Hr p.1),di p.2]
def ez(c:bd):Int:=(c.az.headD (.mk 0 [])).n
def df(c:bd):List Int:=c.az.tail.map bd.n
theorem Tq(ys:List Int):(ys.map lf).map bd.n=ys:=by
 induction ys with
 |nil=>rfl
 |cons y ys ih=>simp only[Iu,ih,lf,bd.n]
theorem Xd(s:Int)(ys:List Int):ez (EP s ys)=s:=rfl
theorem RC(s:Int)(ys:List Int):df (EP s ys)=ys:=by
 show(U lf ys).map bd.n=ys
 exact Tq ys
structure C7(m:ba)(c:bd):Prop where
 eq:c=EP (ez c) (df c)
 st:0<=ez c/\ez c<I m.aw
 len:I (df c)=I m.ay
 nm:∀y∈df c,0<=y/\y<=1048576
theorem tq(m:ba)(s:Int)(hs:0<=s/\s<I m.aw)(ys:List Int)(hy:I ys=I m.ay)(h:∀y∈ys,0<=y/\y<=1048576):C7 m (EP s ys):=
 ⟨by rw[Xd,RC],by rw[Xd];exact hs,by rw[RC];exact hy,by rw[RC];exact h⟩
structure jm(m:ba):Prop where
 ok:m.ok
 kind:m.kind=1
 move:∀r∈m.av,r.move=[]
 start:C7 m m.start
 few:I m.aw<=2/\m.ay.length<=2
structure tv(m:ba)(r:cq):Prop where
 aj:0<=r.aj/\r.aj<I m.aw
 to:0<=r.to/\r.to<I m.aw
 needL:I r.am=I m.ay
 giveL:I r.ak=I m.ay
 am:∀x∈r.am,0<=x/\x<=16
 ak:∀x∈r.ak,0<=x/\x<=16
 move:r.move=[]
theorem jm.rule{m:ba}(h:jm m){r:cq}(hr:r∈m.av):tv m r:=by
 have h1:=h.ok.right r hr
 rw[Da,Io h.kind] at h1
 simp only[Ec,BY,HR,ID,I4] at h1
 obtain⟨h2,h3,⟨h4,h5,h6,h7⟩,_⟩:=h1
 have h2:=Ci h2
 have h3:=Ci h3
 exact⟨⟨h3.1,by omega⟩,⟨h2.1,by omega⟩,by omega,by omega,fun x hx=>Ci (h6 x hx),fun x hx=>Ci (h7 x hx),h.move r hr⟩
theorem jm.ay{m:ba}(h:jm m):1<=I m.ay/\m.ay.length<=6/\1<=I m.aw/\m.aw.length<=8/\m.av.length<=12:=by
 obtain⟨h1,h2,h3,h4,h5,_⟩:=h.ok.sz
 omega
theorem C7.isC{m:ba}{c:bd}(h:C7 m c):nj c (ez c) (df c):=by
 have:=_root_.Go.Proofs.YthmjfmacdlhfjaaGreat.isC (ez c) (df c)
 rwa[←h.eq] at this
theorem C7.size{m:ba}(hm:jm m){c:bd}(h:C7 m c):c.size<=8:=by
 rw[h.eq,G6,h.len]
 have:=hm.ay;omega
theorem C7.valid{m:ba}(hm:jm m){c:bd}(h:C7 m c):Aw (AJ m) c=J:=by
 rw[h.eq]
 exact JM m hm.kind (by have:=hm.ay;omega) _ h.st _ h.len h.nm
def ka(m:ba)(c:bd)(i:Int):List bd×Int:=if i<0 then([],0) else match m.av[i.toNat]? with
 |some r=>Cx (i9 r (ez c) (df c))
 |none=>([],0)
def MD(m:ba)(c:bd):List da×Int:=CJ (ka m c) (I m.av+1) (-1) []
def KS(r:cq)(ys:List Int):List Int:=zipWith (fun w g=>w+g) (oh r ys) r.ak
theorem R5:∀(ws gs:List Int) (xs:List bd),((ST xs ws gs).2=0/\(ST xs ws gs).1=.mk 0 (xs++(zipWith (fun w g=>w+g) ws gs).map lf)/\∀y∈zipWith (fun w g=>w+g) ws gs,y<=1048576)∨ST xs ws gs=(.mk 0 [],1)
 |[],gs,xs=>.inl ⟨by simp[ST],by simp[ST],by simp⟩
 |w::ws,[],xs=>.inl ⟨by simp[ST],by simp[ST],by simp⟩
 |w::ws,g::gs,xs=>by
  by_cases h:w+g>1048576
  ·exact .inr (by rw[ST,Io (HS h)])
  ·rw[ST,Ij (by rw[HU h];decide)]
   rcases R5 ws gs (xs++[lf (w+g)]) with⟨h1,h2,h3⟩|h1
   ·refine .inl ⟨h1,by rw[h2];simp,fun y hy=>?_⟩
    simp only[List.zipWith_cons_cons,I8] at hy
    rcases hy with rfl|hy
    ·omega
    ·exact h3 y hy
   ·exact .inr h1
theorem Ti:∀{ns ys:List Int},Gu ns ys=J->∀(i:Nat) (n y:Int),ns[i]?=G n->ys[i]?=G y->n<=y
 |[],ys,_,i,n,y,h,_=>by simp at h
 |n::ns,[],_,i,n',y,_,h=>by simp at h
 |n::ns,y::ys,h,i,n',y',h1,h2=>by
  simp only[Gu,HR,IJ,Jt] at h
  cases i with
  |zero=>simp at h1 h2;subst h1;subst h2;omega
  |succ i=>exact Ti h.2 i n' y' (by simpa using h1) (by simpa using h2)
theorem VV{m:ba}{r:cq}(hr:tv m r){ys:List Int}(hy:I ys=I m.ay):I (KS r ys)=I m.ay:=by
 have h1:=hr.needL;have h2:=hr.giveL
 simp only[KS,oh,List.length_zipWith];omega
theorem ZO{r:cq}{ys:List Int}{i:Nat}{z:Int}(h:(KS r ys)[i]?=G z):∃y n g,ys[i]?=G y/\r.am[i]?=G n/\r.ak[i]?=G g/\z=y-n+g:=by
 simp only[KS,oh,List.getElem?_zipWith] at h
 split at h
 ·rename_i w g h1 h2
  split at h1
  ·rename_i y n h3 h4
   simp at h h1
   exact⟨y,n,g,h3,h4,h2,by omega⟩
  ·simp at h1
 ·simp at h
theorem Ajp{m:ba}{r:cq}(hr:tv m r){c:bd}(hc:C7 m c):
  ((i9 r (ez c) (df c)).2=0/\ez c=r.aj/\(i9 r (ez c) (df c)).1=EP r.to (KS r (df c))/\C7 m (EP r.to (KS r (df c))))∨(i9 r (ez c) (df c)).2=1∨(i9 r (ez c) (df c)).2=18:=by
 unfold i9
 split
 ·rename_i he
  simp only[ic,HR,I4] at he
  rcases R5 (oh r (df c)) r.ak [lf r.to] with⟨h1,h2,h3⟩|h1
  ·refine .inl ⟨h1,he.1,by rw[h2];rfl,tq m _ hr.to _ (VV hr hc.len) fun z hz=>⟨?_,h3 z hz⟩⟩
   obtain⟨i,hi⟩:=List.getElem?_of_mem hz
   obtain⟨y,n,g,a1,a2,a3,rfl⟩:=ZO hi
   have b1:=Ti he.2 i n y a2 a1
   have b2:=(hr.ak g (HW a3)).1
   omega
  ·exact .inr (.inl (by rw[h1]))
 ·exact .inr (.inr rfl)
structure ZR(m:ba)(c:bd)(s:da):Prop where
 rule:∃(i:Nat) (r:cq),s.1=i/\m.av[i]?=G r/\ez c=r.aj/\s.2=EP r.to (KS r (df c))/\i9 r (ez c) (df c)=(s.2,0)
 ok:C7 m s.2
theorem ZK{m:ba}(hm:jm m){c:bd}(hc:C7 m c)(i:Int):((ka m c i).2=0∨(ka m c i).2=1)/\(ka m c i).1.length<=1/\∀v∈ (ka m c i).1,ZR m c (i,v):=by
 unfold ka
 split
 ·exact⟨.inl rfl,by simp,by simp⟩
 ·rename_i h0
  split
  ·rename_i r hi
   have hr:=hm.rule (HW hi)
   rcases Ajp hr hc with⟨h1,h2,h3,h4⟩|h1|h1
   ·have:Cx (i9 r (ez c) (df c))=([EP r.to (KS r (df c))],0):=by
     rw[Cx,Ij (by rw[h1];decide),Ij (by rw[h1];decide),h3]
    rw[this]
    refine⟨.inl rfl,by simp,fun v hv=>?_⟩
    rw[Ii.1 hv]
    exact⟨⟨i.toNat,r,by show i=_;omega,hi,h2,rfl,by rw[←h3, ←h1]⟩,h4⟩
   ·have:Cx (i9 r (ez c) (df c))=([],1):=by rw[Cx,Ij (by rw[h1];decide),Io (by rw[h1];decide),h1]
    rw[this];exact⟨.inr rfl,by simp,by simp⟩
   ·have:Cx (i9 r (ez c) (df c))=([],0):=by rw[Cx,Io (by rw[h1];decide)]
    rw[this];exact⟨.inl rfl,by simp,by simp⟩
  ·exact⟨.inl rfl,by simp,by simp⟩
theorem ZM{ap:Int->List bd×Int}(he:∀i,(ap i).2=0∨(ap i).2=1)(hl:∀i,(ap i).1.length<=1){Q:da->Prop}(hq:∀i,∀v∈ (ap i).1,Q (i,v)):∀(n:Nat) (i:Int) (acc:List da),(∀s∈acc,Q s)->
  ((CJ ap n i acc).2=0∨(CJ ap n i acc).2=1)/\(CJ ap n i acc).1.length<=I acc+n/\∀s∈ (CJ ap n i acc).1,Q s
 |0,i,acc,ha=>by
  rw[CJ]
  split
  ·exact⟨.inr rfl,by simp,by simp⟩
  ·exact⟨.inl rfl,by simp,ha⟩
 |n+1,i,acc,ha=>by
  rw[CJ]
  split
  ·exact⟨he i,by simp,by simp⟩
  ·obtain⟨h1,h2,h3⟩:=ZM he hl hq n (i+1) (acc++(ap i).1.map fun v=>(i,v)) (fun s hs=>by
    rcases IE.1 hs with hs|hs
    ·exact ha s hs
    ·obtain⟨v,hv,rfl⟩:=IA.1 hs
     exact hq i v hv)
   have:=hl i
   exact⟨h1,by simp only[Ig,HP] at h2;omega,h3⟩
theorem Xb{m:ba}(hm:jm m){c:bd}(hc:C7 m c):((MD m c).2=0∨(MD m c).2=1)/\(MD m c).1.length<=13/\∀s∈ (MD m c).1,ZR m c s:=by
 have:=hm.ay
 obtain⟨h1,h2,h3⟩:=ZM (ap:=ka m c) (fun i=>(ZK hm hc i).1) (fun i=>(ZK hm hc i).2.1) (Q:=ZR m c) (fun i=>(ZK hm hc i).2.2) (I m.av+1) (-1) [] (by simp)
 exact⟨h1,by simp only[HZ] at h2;exact IN h2 (by omega),h3⟩
inductive nh (m:ba) (c:bd):List da->bd->Prop where
 |nil:nh m c [] c
 |snoc {l:List da} {d:bd} {s:da}:nh m c l d->(MD m d).2=0->s∈ (MD m d).1->nh m c (l++[s]) s.2
theorem nh.ok{m:ba}(hm:jm m){c d:bd}{l:List da}(hc:C7 m c)(h:nh m c l d):C7 m d:=by
 induction h with
 |nil=>exact hc
 |snoc _ _ hs ih=>exact((Xb hm ih).2.2 _ hs).ok
structure gn{α:Type}(c:α->α->Int)(S:α->Prop):Prop where
 refl:∀x,S x->c x x=0
 eq:∀x y,S x->S y->c x y=0->x=y
 swap:∀x y,S x->S y->(c x y<0↔0<c y x)
 trans:∀x y z,S x->S y->S z->c x y<0->c y z<0->c x z<0
theorem Adf:gn B0 fun _=>True:=by
 constructor<;>simp only[B0]<;>intros<;>(repeat' split at*)<;>(repeat' split)<;>omega
theorem Ade{α:Type}{c:α->α->Int}{S:α->Prop}(h:gn c S):gn (BG c) fun l=>∀x∈l,S x:=by
 have rfl':∀l:List α,(∀x∈l,S x)->BG c l l=0:=by
  intro l
  induction l with
  |nil=>intro _;rfl
  |cons x l ih=>intro hs;rw[BG,Io (h.refl x (hs x (by simp)))];exact ih fun y hy=>hs y (by simp[hy])
 have eq':∀a b:List α,(∀x∈a,S x)->(∀x∈b,S x)->BG c a b=0->a=b:=by
  intro a
  induction a with
  |nil=>intro b _ _ e;cases b with
   |nil=>rfl
   |cons y b=>simp[BG] at e
  |cons x a ih=>intro b ha hb e;cases b with
   |nil=>simp[BG] at e
   |cons y b=>
    simp only[BG] at e
    split at e
    ·rename_i h0
     rw[h.eq x y (ha x (by simp)) (hb y (by simp)) h0,ih b (fun z hz=>ha z (by simp[hz])) (fun z hz=>hb z (by simp[hz])) e]
    ·exact absurd e (by assumption)
 have c0:∀x y,S x->S y->(c x y=0↔c y x=0):=fun x y hx hy=>by
  have h1:=h.swap x y hx hy
  have h2:=h.swap y x hy hx
  constructor<;>intro _<;>omega
 have sw:∀a b:List α,(∀x∈a,S x)->(∀x∈b,S x)->(BG c a b<0↔0<BG c b a):=by
  intro a
  induction a with
  |nil=>intro b _ _;cases b<;>simp[BG]
  |cons x a ih=>intro b ha hb;cases b with
   |nil=>simp[BG]
   |cons y b=>
    have hx:=ha x (by simp);have hy:=hb y (by simp)
    simp only[BG]
    by_cases h0:c x y=0
    ·rw[Io h0,Io ((c0 x y hx hy).1 h0)];exact ih b (fun z hz=>ha z (by simp[hz])) (fun z hz=>hb z (by simp[hz]))
    ·rw[Ij h0,Ij (fun e=>h0 ((c0 x y hx hy).2 e))];exact h.swap x y hx hy
 have tr:∀a b d:List α,(∀x∈a,S x)->(∀x∈b,S x)->(∀x∈d,S x)->BG c a b<0->BG c b d<0->BG c a d<0:=by
  intro a
  induction a with
  |nil=>intro b d _ _ _ h1 h2;cases b with
   |nil=>simp[BG] at h1
   |cons y b=>cases d with
    |nil=>simp[BG] at h2
    |cons z d=>simp[BG]
  |cons x a ih=>intro b d ha hb hd h1 h2;cases b with
   |nil=>simp[BG] at h1
   |cons y b=>cases d with
    |nil=>simp[BG] at h2
    |cons z d=>
     have hx:=ha x (by simp);have hy:=hb y (by simp);have hz:=hd z (by simp)
     have ha':∀w∈a,S w:=fun w hw=>ha w (by simp[hw])
     have hb':∀w∈b,S w:=fun w hw=>hb w (by simp[hw])
     have hd':∀w∈d,S w:=fun w hw=>hd w (by simp[hw])
     simp only[BG] at*
     by_cases e1:c x y=0
     ·have:=h.eq x y hx hy e1;subst this
      rw[Io e1] at h1
      by_cases e2:c x z=0
      ·rw[Io e2] at h2⊢
       exact ih b d ha' hb' hd' h1 h2
      ·rw[Ij e2] at h2⊢;exact h2
     ·rw[Ij e1] at h1
      by_cases e2:c y z=0
      ·have:=h.eq y z hy hz e2;subst this
       rw[Ij e1];exact h1
      ·rw[Ij e2] at h2
       have:=h.trans x y z hx hy hz h1 h2
       rw[Ij (by omega)];exact this
 exact⟨rfl',eq',sw,tr⟩
theorem HK(a b:bd):AB a b=if B0 a.n b.n=0 then(if B0 (I a.az) (I b.az)=0 then BG AB a.az b.az else B0 (I a.az) (I b.az)) else B0 a.n b.n:=by
 rw[OZ, ←ul]
theorem bd.ext:∀{a b:bd},a.n=b.n->a.az=b.az->a=b
 |.mk _ _,.mk _ _,rfl,rfl=>rfl
theorem Zr(N:Nat):gn AB fun v=>v.size<=N:=by
 induction N with
 |zero=>exact⟨fun x h=>absurd x.size_pos (by omega),fun x _ h=>absurd x.size_pos (by omega),fun x _ h=>absurd x.size_pos (by omega),fun x _ _ h=>absurd x.size_pos (by omega)⟩
 |succ N ih=>
  have hL:=Ade ih
  have hk:∀v:bd,v.size<=N+1->∀x∈v.az,x.size<=N:=fun v hv x hx=>by
   have:=v.size_eq;have:=bd.size_mem hx;omega
  have h1:=Adf
  have i0:∀x y:Int,B0 x y=0↔B0 y x=0:=fun x y=>by
   have a:=h1.swap x y trivial trivial
   have b:=h1.swap y x trivial trivial
   constructor<;>intro _<;>omega
  refine⟨fun x hx=>?_,fun x y hx hy e=>?_,fun x y hx hy=>?_,fun x y z hx hy hz e1 e2=>?_⟩
  ·rw[HK,Io (h1.refl _ trivial),Io (h1.refl _ trivial)];exact hL.refl _ (hk x hx)
  ·rw[HK] at e
   split at e
   ·rename_i a1
    split at e
    ·exact bd.ext (h1.eq _ _ trivial trivial a1) (hL.eq _ _ (hk x hx) (hk y hy) e)
    ·exact absurd e (by assumption)
   ·exact absurd e (by assumption)
  ·rw[HK,HK y x]
   by_cases a1:B0 x.n y.n=0
   ·rw[Io a1,Io ((i0 _ _).1 a1)]
    by_cases a2:B0 (I x.az) (I y.az)=0
    ·rw[Io a2,Io ((i0 _ _).1 a2)];exact hL.swap _ _ (hk x hx) (hk y hy)
    ·rw[Ij a2,Ij (fun e=>a2 ((i0 _ _).2 e))];exact h1.swap _ _ trivial trivial
   ·rw[Ij a1,Ij (fun e=>a1 ((i0 _ _).2 e))];exact h1.swap _ _ trivial trivial
  ·rw[HK] at e1 e2⊢
   by_cases a1:B0 x.n y.n=0
   ·rw[Io a1] at e1
    have b1:=h1.eq _ _ trivial trivial a1
    rw[b1]
    by_cases c1:B0 y.n z.n=0
    ·rw[Io c1] at e2⊢
     by_cases a2:B0 (I x.az) (I y.az)=0
     ·rw[Io a2] at e1
      have b2:=h1.eq _ _ trivial trivial a2
      rw[b2]
      by_cases c2:B0 (I y.az) (I z.az)=0
      ·rw[Io c2] at e2⊢;exact hL.trans _ _ _ (hk x hx) (hk y hy) (hk z hz) e1 e2
      ·rw[Ij c2] at e2⊢;exact e2
     ·rw[Ij a2] at e1
      by_cases c2:B0 (I y.az) (I z.az)=0
      ·have b2:=h1.eq _ _ trivial trivial c2
       rw[←b2,Ij a2];exact e1
      ·rw[Ij c2] at e2
       have:=h1.trans _ _ _ trivial trivial trivial e1 e2
       rw[Ij (by omega)];exact this
    ·rw[Ij c1] at e2⊢;exact e2
   ·rw[Ij a1] at e1
    by_cases c1:B0 y.n z.n=0
    ·have b1:=h1.eq _ _ trivial trivial c1
     rw[←b1,Ij a1];exact e1
    ·rw[Ij c1] at e2
     have:=h1.trans _ _ _ trivial trivial trivial e1 e2
     rw[Ij (by omega)];exact this
theorem BD:gn AB fun _=>True:=by
 have h:∀x y z:bd,gn AB fun v=>v.size<=x.size+y.size+z.size:=fun x y z=>Zr _
 exact⟨fun x _=>(h x x x).refl x (by omega),fun x y _ _ e=>(h x y y).eq x y (by omega) (by omega) e,fun x y _ _=>(h x y y).swap x y (by omega) (by omega),fun x y z _ _ _ e1 e2=>(h x y z).trans x y z (by omega) (by omega) (by omega) e1 e2⟩
theorem GV{a b:bd}:AB a b=0↔a=b:=⟨fun h=>BD.eq a b trivial trivial h,fun h=>by rw[h];exact BD.refl b trivial⟩
theorem FQ(a b:bd):AB a b<=0↔¬AB b a<0:=by
 have:=BD.swap b a trivial trivial
 omega
theorem Ez{a b c:bd}(h1:AB a b<=0)(h2:AB b c<=0):AB a c<=0:=by
 by_cases e1:AB a b=0
 ·rw[GV.1 e1];exact h2
 ·by_cases e2:AB b c=0
  ·rw[←GV.1 e2];exact h1
  ·have:=BD.trans a b c trivial trivial trivial (by omega) (by omega)
   omega
theorem JH(a b:bd):AB a b<=0∨AB b a<=0:=by
 have:=BD.swap b a trivial trivial
 omega
theorem S0(l:List bd):∀k:Nat,k<I l->(ja l k=J↔∀i,i<k->AB (l.getD i default) (l.getD (i+1) default)<=0)
 |0,_=>⟨fun _ i h=>absurd h (Nat.not_lt_zero i),fun _=>rfl⟩
 |k+1,hk=>by
  have ih:=S0 l k (by omega)
  rw[ja]
  split
  ·rename_i h
   refine⟨fun h=>by simp at h,fun h2=>?_⟩
   have:=(FQ _ _).1 (h2 k (by omega))
   exact absurd h this
  ·rename_i h
   rw[ih]
   refine⟨fun h2 i hi=>?_,fun h2 i hi=>h2 i (by omega)⟩
   by_cases e:i=k
   ·subst e;exact(FQ _ _).2 h
   ·exact h2 i (by omega)
theorem LN:∀(l:List bd),(∀i,i+1<I l->AB (l.getD i default) (l.getD (i+1) default)<=0)->l.Pairwise fun a b=>AB a b<=0
 |[],_=>.nil
 |[_],_=>List.pairwise_singleton _ _
 |x::y::l,h=>by
  have ih:=LN (y::l) fun i hi=>h (i+1) (by simp at hi⊢;omega)
  have h0:AB x y<=0:=h 0 (by simp)
  refine List.pairwise_cons.2 ⟨fun z hz=>?_,ih⟩
  rcases I8.1 hz with rfl|hz
  ·exact h0
  ·exact Ez h0 ((List.pairwise_cons.1 ih).1 z hz)
theorem NN(l:List bd):Xg l=J↔l.Pairwise fun a b=>AB a b<=0:=by
 unfold Xg
 cases l with
 |nil=>exact⟨fun _=>.nil,fun _=>rfl⟩
 |cons x l=>
  rw[S0 _ _ (by simp)]
  constructor
  ·exact fun h=>LN _ fun i hi=>h i (by simp at hi⊢;omega)
  ·intro h i hi
   have hi:i<I l:=by simpa using hi
   have h1:i<I (x::l):=by simp;omega
   have h2:i+1<I (x::l):=by simp;omega
   have:=List.pairwise_iff_getElem.1 h i (i+1) h1 h2 (by omega)
   rw[HY,HY,HQ h1,HQ h2]
   exact this
end Go.Proofs.YthmjfmacdlhfjaaGreat

namespace Go.Proofs
open Go.Shelf
open Go.IntKind (u64)
open Go.IntKind renaming wrap → yr, i64 → yq
open List renaming length → I, map → U, drop → W
open Option renaming some → G
open Bool renaming true → J, false → O
open Decidable renaming decide → Y
open Int renaming toNat → Z
open Go.Dv.V renaming list → ai, str → ae, agg → ab, int → aa, ref → bz, fn → bw, nils → bv, bool → bu
open Go.Dv.D renaming v → bt, acc → br, ptr → bq, arr → bo, gro → bm, tup → bl, undef → bk, dagg → bj
open Go.Dv.St renaming mk → bi
open Go.Dv.KI renaming blk → bh
open _root_.ByteArray renaming mk → bg
open Go renaming Operand → x5, Program → x4, TypeId → yz, World → yy, Value → yx, Oper → yw, FuncId → yv, Func → yu, IntKind → yt
def Tryz.sortV_ren:Go.Shelf.Ren:=⟨fun|6=>92|15=>152|14=>151|28=>195|29=>196|20=>187|21=>188|22=>189|23=>190|24=>191|25=>192|26=>193|27=>194|46=>230|47=>231|48=>232|49=>233|50=>234|57=>252|n=>n,fun|22=>29|24=>31|25=>45|3=>3|39=>77|0=>0|53=>201|55=>54|4=>4|46=>195|45=>194|50=>188|5=>5|9=>9|66=>229|70=>232|76=>247|77=>248|n=>n,fun|n=>n⟩
theorem Tryz.sortV:Go.Proofs.SlLaysF0.n6 Tryz.prog Tryz.sortV_ren:={
 mixed:=by kernel_rfl
 f6:=⟨Tryz.f92.name,by decide,Tryz.func92.trans (Iq G (by kernel_rfl))⟩
 f14:=⟨Tryz.f151.name,by decide,Tryz.func151.trans (Iq G (by kernel_rfl))⟩
 f15:=Tryz.func152.trans (Iq G (by kernel_rfl))
 f20:=⟨Tryz.f187.name,by decide,Tryz.func187.trans (Iq G (by kernel_rfl))⟩
 f21:=⟨Tryz.f188.name,by decide,Tryz.func188.trans (Iq G (by kernel_rfl))⟩
 f22:=⟨Tryz.f189.name,by decide,Tryz.func189.trans (Iq G (by kernel_rfl))⟩
 f23:=⟨Tryz.f190.name,by decide,Tryz.func190.trans (Iq G (by kernel_rfl))⟩
 f24:=⟨Tryz.f191.name,by decide,Tryz.func191.trans (Iq G (by kernel_rfl))⟩
 f25:=⟨Tryz.f192.name,by decide,Tryz.func192.trans (Iq G (by kernel_rfl))⟩
 f26:=⟨Tryz.f193.name,by decide,Tryz.func193.trans (Iq G (by kernel_rfl))⟩
 f27:=⟨Tryz.f194.name,by decide,Tryz.func194.trans (Iq G (by kernel_rfl))⟩
 f28:=Tryz.func195.trans (Iq G (by kernel_rfl))
 f29:=Tryz.func196.trans (Iq G (by kernel_rfl))
 f46:=⟨Tryz.f230.name,by decide,Tryz.func230.trans (Iq G (by kernel_rfl))⟩
 f47:=Tryz.func231.trans (Iq G (by kernel_rfl))
 f48:=Tryz.func232.trans (Iq G (by kernel_rfl))
 f49:=⟨Tryz.f233.name,by decide,Tryz.func233.trans (Iq G (by kernel_rfl))⟩
 f50:=⟨Tryz.f234.name,by decide,Tryz.func234.trans (Iq G (by kernel_rfl))⟩
 f57:=⟨Tryz.f252.name,by decide,Tryz.func252.trans (Iq G (by kernel_rfl))⟩
 t0:=Tryz.underlying0
 a0:=Tryz.isAgg0
 z0:=Tryz.sizeOf0
 v0:=Tryz.zeroValue0
 t3:=Tryz.underlying3
 a3:=Tryz.isAgg3
 z3:=Tryz.sizeOf3
 v3:=Tryz.zeroValue3
 t4:=Tryz.underlying4
 a4:=Tryz.isAgg4
 z4:=Tryz.sizeOf4
 v4:=Tryz.zeroValue4
 t5:=Tryz.underlying5
 a5:=Tryz.isAgg5
 z5:=Tryz.sizeOf5
 v5:=Tryz.zeroValue5
 t9:=Tryz.underlying9
 a9:=Tryz.isAgg9
 z9:=Tryz.sizeOf9
 v9:=Tryz.zeroValue9
 t22:=Tryz.underlying29
 a22:=Tryz.isAgg29
 z22:=Tryz.sizeOf29
 v22:=Tryz.zeroValue29
 t25:=Tryz.underlying45
 a25:=Tryz.isAgg45
 z25:=Tryz.sizeOf45
 v25:=Tryz.zeroValue45
 t39:=Tryz.underlying77
 a39:=Tryz.isAgg77
 z39:=Tryz.sizeOf77
 v39:=Tryz.zeroValue77
 t45:=Tryz.underlying194
 a45:=Tryz.isAgg194
 z45:=Tryz.sizeOf194
 v45:=Tryz.zeroValue194
 t46:=Tryz.underlying195
 a46:=Tryz.isAgg195
 z46:=Tryz.sizeOf195
 v46:=Tryz.zeroValue195
 t50:=Tryz.underlying188
 a50:=Tryz.isAgg188
 z50:=Tryz.sizeOf188
 v50:=Tryz.zeroValue188
 t53:=Tryz.underlying201
 a53:=Tryz.isAgg201
 z53:=Tryz.sizeOf201
 v53:=Tryz.zeroValue201
 t55:=Tryz.underlying54
 a55:=Tryz.isAgg54
 z55:=Tryz.sizeOf54
 v55:=Tryz.zeroValue54
 t66:=Tryz.underlying229
 a66:=Tryz.isAgg229
 z66:=Tryz.sizeOf229
 v66:=Tryz.zeroValue229
 t70:=Tryz.underlying232
 a70:=Tryz.isAgg232
 z70:=Tryz.sizeOf232
 v70:=Tryz.zeroValue232
 t76:=Tryz.underlying247
 a76:=Tryz.isAgg247
 z76:=Tryz.sizeOf247
 v76:=Tryz.zeroValue247
 t77:=Tryz.underlying248
 a77:=Tryz.isAgg248
 z77:=Tryz.sizeOf248
 v77:=Tryz.zeroValue248 }
end Go.Proofs
namespace Go.Proofs.YthmjfmacdlhfjaaGreat
open Go.Dv Go.Nv Go.Shelf Go.RowKit Go.Lib Go.Sort
set_option maxRecDepth 20000
open List (flatMap_cons)
open Go.IntKind (u64)
open Go.IntKind renaming wrap → yr, i64 → yq
open List renaming length → I, map → U, drop → W
open Option renaming some → G
open Bool renaming true → J, false → O
open Decidable renaming decide → Y
open Int renaming toNat → Z
open Go.Dv.V renaming list → ai, str → ae, agg → ab, int → aa, ref → bz, fn → bw, nils → bv, bool → bu
open Go.Dv.D renaming v → bt, acc → br, ptr → bq, arr → bo, gro → bm, tup → bl, undef → bk, dagg → bj
open Go.Dv.St renaming mk → bi
open Go.Dv.KI renaming blk → bh
open _root_.ByteArray renaming mk → bg
open Go renaming Operand → x5, Program → x4, TypeId → yz, World → yy, Value → yx, Oper → yw, FuncId → yv, Func → yu, IntKind → yt
theorem YG{g g':Gh}{w w':yy}{σ':St}(h:WI ⟨g,w,⟨[],[]⟩⟩ g' σ' w'):∃q os,w'=grow (w.drewN q) os:=by
 refine⟨w'.drawn-w.drawn,w'.heap.extract w.heap.size w'.heap.size,?_⟩
 have h1:=h.drawn trivial;have h2:=h.os;have h3:=h.tape;have h4:=h.output;have h5:=h.size
 have h6:∀b,b<w.heap.size->w'.heap[b]?=w.heap[b]?:=fun b hb=>(h.keep b hb EA).1
 have e:w'.heap=w.heap++w'.heap.extract w.heap.size w'.heap.size:=by
  apply Array.ext_getElem?
  intro i
  by_cases hi:i<w.heap.size
  ·rw[h6 i hi,Array.getElem?_append_left hi]
  ·rw[Array.getElem?_append_right (by omega),Array.getElem?_extract]
   have h5:w.heap.size<=w'.heap.size:=h5
   by_cases hj:i<w'.heap.size
   ·rw[Io (by omega)];congr 1;omega
   ·rw[Ij (by omega),Array.getElem?_eq_none (by omega)]
 cases w'
 simp only[grow,World.drewN] at*
 subst h2;subst h3;subst h4
 congr 1
 have h1:w.drawn<=_:=h1
 omega
abbrev i8(M:cg):={p:bd×List yx//p.1.size<=1000000/\repC M (eV p.1) p.2}
instance (M:cg):Inhabited (i8 M):=⟨⟨(.mk 0 [],[.int .i64 0,.slice none 0 0]),by decide,by simp[bd.enc,bd.encs,repC,repA,V.isAgg];exact⟨_,_,⟨rfl,rfl⟩,rfl,_,rfl,_,_,rfl⟩⟩⟩
def Ds{M:cg}(x:i8 M):List yx:=x.1.2
def nq{M:cg}(x y:i8 M):Int:=AB x.1.1 y.1.1
theorem RQ(v:bd):(eV v).size=2:=by rw[AR];rfl
theorem Lr{M:cg}(x:i8 M):I (Ds x)=2:=by
 have:=FL x.2.2
 rw[RQ] at this;exact this
theorem AlK{M:cg}:SWO (ltOf (nq (M:=M))) where
 irrefl x:=by simp only[ltOf,nq,BD.refl _ trivial];decide
 trans x y z h1 h2:=by
  exact HS (BD.trans _ _ _ trivial trivial trivial (Ib h1) (Ib h2))
 ntrans x y z h1 h2:=by
  have h1:¬AB x.1.1 y.1.1<0:=IB h1
  have h2:¬AB y.1.1 z.1.1<0:=IB h2
  refine HU fun h3=>?_
  have h3:AB x.1.1 z.1.1<0:=h3
  by_cases e:AB x.1.1 y.1.1=0
  ·have:=GV.1 e;rw[this] at h3;exact h2 h3
  ·have h4:AB y.1.1 x.1.1<0:=(BD.swap _ _ trivial trivial).2 (by omega)
   exact h2 (BD.trans _ _ _ trivial trivial trivial h4 h3)
theorem Ads{g:Gh}{l:List bd}(hl:∀v∈l,v.size<=1000000){us:List yx}(h:Ar g (Ad (l.map eV)) us)(h1:∀c∈Ad (l.map eV),c.one=J):∃ps:List (i8 g.M),ps.map (fun p=>p.1.1)=l/\ps.flatMap Ds=us:=by
 have hA:repA g.M ((l.map eV).flatMap V.cellsV) us:=by
  have hlen:=AF h
  refine Rx (by rw[hlen,Ad,HP]) fun j y hj=>?_
  obtain⟨v,h2,h3⟩:=BL h (i:=j) (d:=.v y) (by rw[Ad,I9,hj];rfl)
  refine⟨?_,v,h2,by simpa only[Av] using h3⟩
  have:=h1 (.v y) (IA.2 ⟨y,HW hj,rfl⟩)
  simpa[D.one] using this
 have hE:=EU (sz:=2) (xs:=l.map eV) (fun y hy=>by obtain⟨v,_,rfl⟩:=IA.1 hy;exact RQ v) hA
 clear h h1 hA
 induction l generalizing us with
 |nil=>
  simp only[IP,repE] at hE
  exact⟨[],rfl,by simp[hE]⟩
 |cons v l ih=>
  simp only[Iu,repE] at hE
  obtain⟨u1,u2,rfl,_,h3,h4⟩:=hE
  obtain⟨ps,h5,h6⟩:=ih (fun v hv=>hl v (by simp[hv])) h4
  exact⟨⟨(v,u1),hl v (by simp),h3⟩::ps,by simp[h5],by simp[h6,Ds]⟩
theorem cells_rep{g:Gh}(ps:List (i8 g.M)):Ar g (Ad ((ps.map fun p=>p.1.1).map eV)) (ps.flatMap Ds)/\∀c∈Ad ((ps.map fun p=>p.1.1).map eV),c.one=J:=by
 refine F2 (sz:=2) ?_
 induction ps with
 |nil=>simp[repE]
 |cons p ps ih=>
  simp only[Iu,flatMap_cons,repE]
  exact⟨_,_,rfl,Lr p,p.2.2,ih⟩
theorem T9{M:cg}:∀(ps:List (i8 M)) (t:Nat),t<I ps*2->(ps.flatMap Ds)[t]?=G ((Ds (ps.getD (t/2) default))[t%2]!)
 |[],t,h=>by simp at h
 |p::ps,t,h=>by
  have h2:=Lr p
  rw[flatMap_cons]
  by_cases ht:t<2
  ·rw[Ip (by omega),show t/2=0 by omega,show t%2=t by omega,List.getD_cons_zero]
   simp[h2,ht]
  ·rw[Il (by omega),h2,T9 ps (t-2) (by simp at h;omega)]
   have e1:t/2=(t-2)/2+1:=by omega
   have e2:(t-2)%2=t%2:=by omega
   rw[e1,e2,List.getD_cons_succ]
theorem K2{M:cg}(d:Array (i8 M)):(flatK Ds 2 d).toList=d.toList.flatMap Ds:=by
 apply List.ext_getElem?
 intro t
 have hlen:∀l:List (i8 M),I (l.flatMap Ds)=I l*2:=by
  intro l
  induction l with
  |nil=>rfl
  |cons p l ih=>rw[flatMap_cons,Ig,ih,Lr,HV];omega
 by_cases ht:t<d.size*2
 ·rw[T9 _ t (by simpa using ht),J2]
  have h1:=get_flatK Ds 2 d t ht
  have hs:t<(flatK Ds 2 d).size:=by rw[size_flatK];exact ht
  rw[getElem!_pos (flatK Ds 2 d) t hs] at h1
  rw[Array.getElem?_eq_getElem hs,h1]
  congr 3
  simp[Array.getElem!_eq_getD,Jk,HY]
 ·rw[IF (by rw[I5,size_flatK];omega),IF (by rw[hlen];simp;omega)]
def sortV(l:List bd):List bd:=l.mergeSort fun a b=>Y (AB a b<=0)
theorem AN(l:List bd):(sortV l).Perm l:=List.mergeSort_perm l _
theorem KG(l:List bd):(sortV l).Pairwise fun a b=>Y (AB a b<=0)=J:=
 List.pairwise_mergeSort (le:=fun a b=>Y (AB a b<=0)) (fun a b c h1 h2=>HS (Ez (Ib h1) (Ib h2))) (fun a b=>by
  simp only[Bool.or_eq_true,Ia];exact JH a b) l
theorem NQ{l k:List bd}(hp:k.Perm l)(hs:k.Pairwise fun a b=>Y (AB a b<=0)=J):k=sortV l:=by
 refine List.Perm.eq_of_pairwise (fun a b _ _ h1 h2=>?_) hs (KG l) (hp.trans (AN l).symm)
 have h1:AB a b<=0:=Ib h1
 have h2:AB b a<=0:=Ib h2
 have:=BD.swap b a trivial trivial
 have:=BD.swap a b trivial trivial
 exact GV.1 (by omega)
theorem Ada{g:Gh}{w:yy}{σ:St}(hw:c8 g σ w){blk:Nat}(hM:∀o,g.M blk o=none)(n:Nat):CmpLays PP 39 #[] (Ds (M:=g.M)) 2 nq blk 0 n w:=by
 intro m os dk _ x y
 obtain⟨W,hW⟩:∃W,W=sortWorldK Ds 2 w blk 0 m dk os:=⟨_,rfl⟩
 rw[←hW]
 have hmem:∀b o v,g.M b o=G v->W.cell? ⟨b,o,none⟩=G v:=by
  intro b o v h
  have hne:b≠blk:=fun e=>by rw[e,hM] at h;simp at h
  have hc:=hw.mem b o v h
  have hlt:b<w.heap.size:=hw.mem_lt h
  rw[hW,sortWorldK,cell?_grow _ _ _ (by rw[size_putRowK];exact hlt),cell?_putRowK_other _ _ _ _ _ _ _ hne]
  exact hc
 have hrep:c8 { M:=g.M,β:=g.β,n:=0,ι:=fun _ _=>none,κ:=g.κ } ⟨[],[]⟩ W:=
  { n:=rfl,mem:=hmem,obj:=fun i cs hi=>by simp at hi,inj:=fun i j cs ds hi=>by simp at hi,own:=fun k sz xs hx=>by simp at hx,tags:=by simp,sep:=fun x hx=>by simp at hx,ownObj:=fun x hx=>by simp at hx,fresh:=fun _ _ _=>rfl,gl:=hw.gl,gw:=fun p hp=>by simp[G8] at hp }
 have arg:∀z:i8 g.M,Av { M:=g.M,β:=g.β,n:=0,ι:=fun _ _=>none,κ:=g.κ } (dV z.1.1) (.agg (Ds z).toArray):=by
  intro z
  simp only[Av]
  exact⟨Ds z,by rw[←AR];exact z.2.2,rfl⟩
 have hs:=(JK _ x.1.1 y.1.1 (HX _) x.2.1).2 _ W [.agg (Ds x).toArray,.agg (Ds y).toArray] hrep (A8.2 ⟨_,_,rfl,arg x,arg y⟩)
 refine Calls.mono hs ?_
 rintro e w' ⟨u,g',rfl,hwi,hd⟩
 simp only[Av,AM] at hd
 exact⟨by rw[hd];rfl,YG hwi⟩
theorem Fw(l:List bd)(hl:I l<=100000)(hs:∀v∈l,v.size<=1000000):
  Aa PP 92 [.arr 0 0 (I l),dfn 39] ⟨[G (Ad (l.map eV))],[]⟩ (.tup []) ⟨[G (Ad ((sortV l).map eV))],[]⟩:=by
 refine⟨⟨_, Tryz.func92,by kernel_rfl,by kernel_rfl⟩,fun g w args hw hargs=>?_⟩
 obtain⟨u0,u1,rfl,h0,h1⟩:=A8.1 hargs
 simp only[Av] at h0 h1
 obtain⟨hn,cap,hcap,rfl⟩:=h0
 obtain⟨us1,vs1,rfl,hu1,hv1⟩:=GH.1 h1
 simp only[F1] at hu1 hv1
 subst hu1;subst hv1
 obtain⟨us,rest,et,hb,hr,hone,hM,hκ⟩:=hw.obj 0 _ rfl
 obtain⟨ps,hp1,hp2⟩:=Ads hs hr hone
 have hpl:I ps=I l:=by rw[←hp1,HP]
 have hul:I us=I l*2:=by
  have:=Iq Array.size (show flatK Ds 2 ps.toArray=us.toArray by rw[←hp2];apply IV;rw[K2])
  rw[size_flatK] at this;simp at this;omega
 have hF:(flatK Ds 2 ps.toArray).toList=us:=by rw[K2, ←hp2]
 have hH:HoldsK Ds 2 w (g.β 0) 0 ps.toArray:=by
  intro j hj
  have hj':j<I us:=by rw[size_flatK] at hj;simp at hj;omega
  refine⟨?_,by simp[World.frozen?,hb]⟩
  have hg:(us++rest)[j]?=G us[j]:=by rw[Ip hj',HQ hj']
  have hg2:(flatK Ds 2 ps.toArray)[j]! =us[j]:=by
   rw[getElem!_pos (flatK Ds 2 ps.toArray) j hj]
   have:(flatK Ds 2 ps.toArray).toList[j]?=G us[j]:=by rw[hF,HQ hj']
   rw[J2,Array.getElem?_eq_getElem hj] at this
   exact Is this
  simp only[World.cell?,hb,IC,hg2,id]
  simpa using hg
 have hblk:g.β 0<w.heap.size:=GR hb
 have eg:∀args w,(callFunc 39 args).run PP w=.ok (.enter 39 args) w:=enters_of Tryz.func39 (by kernel_rfl) rfl
 have hcon:=AnyQ.slices_SortFunc Tryz.sortV 2 Tryz.isAgg31 Tryz.sizeOf31 (Ds (M:=g.M)) Lr (fun x v hv=>KJ x.2.2 v hv) nq AlK 39 #[] (g.β 0) 0 cap ps.toArray w eg (Ada hw hM _) hH hblk (by simp;omega)
 change Calls PP 92 _ _ _ at hcon
 rw[show ps.toArray.size=I l by simp[hpl]] at hcon
 refine Calls.mono hcon ?_
 rintro e w' ⟨rfl,d',n,os,hperm,hsorted,rfl⟩
 obtain⟨hsz,_,hperm⟩:=hperm
 have hdl:d'.toList.map (fun p=>p.1.1)=sortV l:=by
  refine NQ ?_ ?_
  ·rw[←hp1]
   have h2:d'.toList.Perm ps:=by simpa[Array.extract_eq_self_of_le,hsz,hpl] using hperm
   exact h2.map _
  ·rw[List.pairwise_iff_getElem]
   intro i j hi hj hij
   have hi':i<d'.size:=by simpa using hi
   have hj':j<d'.size:=by simpa using hj
   have h3:=hsorted i j (I3 _) hij (by simp only[Jp] at hsz;omega)
   simp only[ltOf,nq,Jt,getElem!_pos d' i hi',getElem!_pos d' j hj'] at h3
   simp only[List.getElem_map,Array.getElem_toList,Ia]
   exact(FQ _ _).2 h3
 have hd2:d'.size=I l:=by rw[hsz];simp[hpl]
 have hF2:(flatK Ds 2 d').toList=d'.toList.flatMap Ds:=K2 d'
 have hFl:I (d'.toList.flatMap Ds)=I us:=by rw[←hF2,I5,size_flatK,hd2];omega
 have hcs:=cells_rep d'.toList
 rw[hdl] at hcs
 have hb2:(putRowK Ds 2 (Sort.ahead w n) (g.β 0) 0 d').heap[g.β 0]?=G (.cells ((d'.toList.flatMap Ds)++rest).toArray et (0,0)):=by
  simp only[putRowK,putRow,mapBlock,Sort.ahead,Array.getElem?_modify,hb,onCells,Jj,IT]
  congr 2
  apply Array.ext_getElem?
  intro t
  simp only[putCells,Array.getElem?_mapIdx,Nat.sub_zero,I3,true_and,IC,id,IW,Jp]
  by_cases ht:t<I us
  ·have htF:t<(flatK Ds 2 d').size:=by rw[size_flatK,hd2];omega
   rw[Ip ht,Ip (by omega),HQ ht,IT,Io htF, ←hF2,J2,getElem!_pos (flatK Ds 2 d') t htF,Array.getElem?_eq_getElem htF]
  ·have htF:¬t<(flatK Ds 2 d').size:=by rw[size_flatK,hd2];omega
   rw[Il (by omega),Il (by omega),hFl]
   simp only[Ij htF,Option.map_id']
 have h2:=(WI.start hw).setObj (cs':=Ad ((sortV l).map eV)) (q:=0) (w':=putRowK Ds 2 (Sort.ahead w n) (g.β 0) 0 d') rfl hb2 (by rw[←hκ,Ig,Ig,hFl]) hcs.1 hcs.2 (fun b hb'=>by
  simp only[putRowK,putRow,mapBlock,Sort.ahead,Array.getElem?_modify]
  rw[Ij (fun h=>hb' h.symm)]) (by rw[size_putRowK];rfl) rfl rfl rfl (drawn:=.of (Nat.le_add_right _ _))
 have h3:=h2.grow (w':=sortWorldK Ds 2 w (g.β 0) 0 n d' os) (M':=g.M) (cg.le_refl _) (fun b hb'=>⟨heap_grow_old _ _ hb',fun _=>rfl⟩) (fun b o v h=>by
  rw[sortWorldK,cell?_grow _ _ _ (h2.rep.mem_lt h)];exact h2.rep.mem b o v h) (by rw[sortWorldK,size_grow];exact Nat.le_add_right _ _) rfl rfl rfl
 exact⟨_,g,rfl,h3,by simp only[Av];exact⟨[],rfl,by simp[Ar]⟩⟩
end Go.Proofs.YthmjfmacdlhfjaaGreat

namespace Go.Proofs
open Go.Shelf
open Go.IntKind (u64)
open Go.IntKind renaming wrap → yr, i64 → yq
open List renaming length → I, map → U, drop → W
open Option renaming some → G
open Bool renaming true → J, false → O
open Decidable renaming decide → Y
open Int renaming toNat → Z
open Go.Dv.V renaming list → ai, str → ae, agg → ab, int → aa, ref → bz, fn → bw, nils → bv, bool → bu
open Go.Dv.D renaming v → bt, acc → br, ptr → bq, arr → bo, gro → bm, tup → bl, undef → bk, dagg → bj
open Go.Dv.St renaming mk → bi
open Go.Dv.KI renaming blk → bh
open _root_.ByteArray renaming mk → bg
open Go renaming Operand → x5, Program → x4, TypeId → yz, World → yy, Value → yx, Oper → yw, FuncId → yv, Func → yu, IntKind → yt
def Tryz.sortW_ren:Go.Shelf.Ren:=⟨fun|6=>214|15=>152|14=>240|28=>195|29=>196|20=>253|21=>254|22=>255|23=>256|24=>257|25=>258|26=>259|27=>260|46=>266|47=>231|48=>232|49=>267|50=>268|57=>272|n=>n,fun|22=>142|24=>22|25=>213|3=>3|39=>77|0=>0|53=>201|55=>54|4=>4|46=>195|45=>194|50=>188|5=>5|9=>9|66=>229|70=>232|76=>247|77=>248|n=>n,fun|n=>n⟩
theorem Tryz.sortW:Go.Proofs.SlLaysF.n6 Tryz.prog Tryz.sortW_ren:={
 mixed:=by kernel_rfl
 f6:=⟨Tryz.f214.name,by decide,Tryz.func214.trans (Iq G (by kernel_rfl))⟩
 f14:=⟨Tryz.f240.name,by decide,Tryz.func240.trans (Iq G (by kernel_rfl))⟩
 f15:=Tryz.func152.trans (Iq G (by kernel_rfl))
 f20:=⟨Tryz.f253.name,by decide,Tryz.func253.trans (Iq G (by kernel_rfl))⟩
 f21:=⟨Tryz.f254.name,by decide,Tryz.func254.trans (Iq G (by kernel_rfl))⟩
 f22:=⟨Tryz.f255.name,by decide,Tryz.func255.trans (Iq G (by kernel_rfl))⟩
 f23:=⟨Tryz.f256.name,by decide,Tryz.func256.trans (Iq G (by kernel_rfl))⟩
 f24:=⟨Tryz.f257.name,by decide,Tryz.func257.trans (Iq G (by kernel_rfl))⟩
 f25:=⟨Tryz.f258.name,by decide,Tryz.func258.trans (Iq G (by kernel_rfl))⟩
 f26:=⟨Tryz.f259.name,by decide,Tryz.func259.trans (Iq G (by kernel_rfl))⟩
 f27:=⟨Tryz.f260.name,by decide,Tryz.func260.trans (Iq G (by kernel_rfl))⟩
 f28:=Tryz.func195.trans (Iq G (by kernel_rfl))
 f29:=Tryz.func196.trans (Iq G (by kernel_rfl))
 f46:=⟨Tryz.f266.name,by decide,Tryz.func266.trans (Iq G (by kernel_rfl))⟩
 f47:=Tryz.func231.trans (Iq G (by kernel_rfl))
 f48:=Tryz.func232.trans (Iq G (by kernel_rfl))
 f49:=⟨Tryz.f267.name,by decide,Tryz.func267.trans (Iq G (by kernel_rfl))⟩
 f50:=⟨Tryz.f268.name,by decide,Tryz.func268.trans (Iq G (by kernel_rfl))⟩
 f57:=⟨Tryz.f272.name,by decide,Tryz.func272.trans (Iq G (by kernel_rfl))⟩
 t0:=Tryz.underlying0
 a0:=Tryz.isAgg0
 z0:=Tryz.sizeOf0
 v0:=Tryz.zeroValue0
 t3:=Tryz.underlying3
 a3:=Tryz.isAgg3
 z3:=Tryz.sizeOf3
 v3:=Tryz.zeroValue3
 t4:=Tryz.underlying4
 a4:=Tryz.isAgg4
 z4:=Tryz.sizeOf4
 v4:=Tryz.zeroValue4
 t5:=Tryz.underlying5
 a5:=Tryz.isAgg5
 z5:=Tryz.sizeOf5
 v5:=Tryz.zeroValue5
 t9:=Tryz.underlying9
 a9:=Tryz.isAgg9
 z9:=Tryz.sizeOf9
 v9:=Tryz.zeroValue9
 t22:=Tryz.underlying142
 a22:=Tryz.isAgg142
 z22:=Tryz.sizeOf142
 v22:=Tryz.zeroValue142
 a24:=Tryz.isAgg22
 z24:=Tryz.sizeOf22
 t25:=Tryz.underlying213
 a25:=Tryz.isAgg213
 z25:=Tryz.sizeOf213
 v25:=Tryz.zeroValue213
 t39:=Tryz.underlying77
 a39:=Tryz.isAgg77
 z39:=Tryz.sizeOf77
 v39:=Tryz.zeroValue77
 t45:=Tryz.underlying194
 a45:=Tryz.isAgg194
 z45:=Tryz.sizeOf194
 v45:=Tryz.zeroValue194
 t46:=Tryz.underlying195
 a46:=Tryz.isAgg195
 z46:=Tryz.sizeOf195
 v46:=Tryz.zeroValue195
 t50:=Tryz.underlying188
 a50:=Tryz.isAgg188
 z50:=Tryz.sizeOf188
 v50:=Tryz.zeroValue188
 t53:=Tryz.underlying201
 a53:=Tryz.isAgg201
 z53:=Tryz.sizeOf201
 v53:=Tryz.zeroValue201
 t55:=Tryz.underlying54
 a55:=Tryz.isAgg54
 z55:=Tryz.sizeOf54
 v55:=Tryz.zeroValue54
 t66:=Tryz.underlying229
 a66:=Tryz.isAgg229
 z66:=Tryz.sizeOf229
 v66:=Tryz.zeroValue229
 t70:=Tryz.underlying232
 a70:=Tryz.isAgg232
 z70:=Tryz.sizeOf232
 v70:=Tryz.zeroValue232
 t76:=Tryz.underlying247
 a76:=Tryz.isAgg247
 z76:=Tryz.sizeOf247
 v76:=Tryz.zeroValue247
 t77:=Tryz.underlying248
 a77:=Tryz.isAgg248
 z77:=Tryz.sizeOf248
 v77:=Tryz.zeroValue248 }
end Go.Proofs
namespace Go.Proofs.YthmjfmacdlhfjaaGreat
open Go.Dv Go.Nv Go.Shelf Go.RowKit Go.Lib Go.Sort
set_option maxRecDepth 20000
open Go.IntKind (u64)
open Go.IntKind renaming wrap → yr, i64 → yq
open List renaming length → I, map → U, drop → W
open Option renaming some → G
open Bool renaming true → J, false → O
open Decidable renaming decide → Y
open Int renaming toNat → Z
open Go.Dv.V renaming list → ai, str → ae, agg → ab, int → aa, ref → bz, fn → bw, nils → bv, bool → bu
open Go.Dv.D renaming v → bt, acc → br, ptr → bq, arr → bo, gro → bm, tup → bl, undef → bk, dagg → bj
open Go.Dv.St renaming mk → bi
open Go.Dv.KI renaming blk → bh
open _root_.ByteArray renaming mk → bg
open Go renaming Operand → x5, Program → x4, TypeId → yz, World → yy, Value → yx, Oper → yw, FuncId → yv, Func → yu, IntKind → yt
abbrev dw(w:List Int):bd:=.mk 0 (w.map lf)
def G3(a b:List Int):Int:=AB (dw a) (dw b)
theorem Rb{a b:List Int}(h:dw a=dw b):a=b:=by
 have h:=Iq (fun v:bd=>v.az.map bd.n) h
 simpa only[Tq,bd.az] using h
abbrev l8(M:cg):={p:List Int×yx//p.1.length<=1000000/\repV M (cz p.1) p.2}
instance (M:cg):Inhabited (l8 M):=⟨⟨([],.slice none 0 0),by decide,Dm _⟩⟩
def Hm{M:cg}(x:l8 M):yx:=x.1.2
def nu{M:cg}(x y:l8 M):Int:=G3 x.1.1 y.1.1
theorem AlJ{M:cg}:SWO (ltOf (nu (M:=M))) where
 irrefl x:=by simp only[ltOf,nu,G3,BD.refl _ trivial];decide
 trans x y z h1 h2:=by
  have h1:AB (dw x.1.1) (dw y.1.1)<0:=Ib h1
  have h2:AB (dw y.1.1) (dw z.1.1)<0:=Ib h2
  exact HS (BD.trans (dw x.1.1) (dw y.1.1) (dw z.1.1) trivial trivial trivial h1 h2)
 ntrans x y z h1 h2:=by
  have h1:¬G3 x.1.1 y.1.1<0:=IB h1
  have h2:¬G3 y.1.1 z.1.1<0:=IB h2
  refine HU fun h3=>?_
  have h3:G3 x.1.1 z.1.1<0:=h3
  have h1':AB (dw y.1.1) (dw x.1.1)<=0:=(FQ _ _).2 h1
  have h2':AB (dw z.1.1) (dw y.1.1)<=0:=(FQ _ _).2 h2
  exact(FQ _ _).1 (Ez h2' h1') h3
theorem Z2{g:Gh}{l:List (List Int)}(hl:∀v∈l,I v<=1000000){us:List yx}(h:Ar g (Ad (l.map cz)) us):∃ps:List (l8 g.M),ps.map (fun p=>p.1.1)=l/\us=ps.map Hm:=by
 induction l generalizing us with
 |nil=>exact⟨[],rfl,by simpa[Ad,Ar] using h⟩
 |cons v l ih=>
  have h':Ar g (.v (cz v)::Ad (l.map cz)) us:=h
  simp only[Ar] at h'
  obtain⟨u,us',rfl,h1,h2⟩:=h'
  obtain⟨ps,h5,h6⟩:=ih (fun v hv=>hl v (by simp[hv])) h2
  simp only[Av] at h1
  exact⟨⟨(v,u),hl v (by simp),h1⟩::ps,by simp[h5],by simp[h6,Hm]⟩
theorem VM{g:Gh}(ps:List (l8 g.M)):Ar g (Ad ((ps.map fun p=>p.1.1).map cz)) (ps.map Hm)/\∀c∈Ad ((ps.map fun p=>p.1.1).map cz),c.one=J:=by
 induction ps with
 |nil=>exact⟨by simp[Ad,Ar],by simp[Ad]⟩
 |cons p ps ih=>
  constructor
  ·show Ar g (.v (cz p.1.1)::Ad ((ps.map fun p=>p.1.1).map cz)) (Hm p::ps.map Hm)
   simp only[Ar]
   exact⟨_,_,rfl,by simp only[Av];exact p.2.2,ih.1⟩
  ·intro c hc
   have hc:c∈bt (cz p.1.1)::Ad ((ps.map fun p=>p.1.1).map cz):=hc
   rcases I8.1 hc with rfl|hc
   ·rfl
   ·exact ih.2 c hc
def sortW(l:List (List Int)):List (List Int):=l.mergeSort fun a b=>Y (G3 a b<=0)
theorem D7(l:List (List Int)):(sortW l).Perm l:=List.mergeSort_perm l _
theorem Aba{l k:List (List Int)}(hp:k.Perm l)(hs:k.Pairwise fun a b=>Y (G3 a b<=0)=J):k=sortW l:=by
 have hso:(sortW l).Pairwise fun a b=>Y (G3 a b<=0)=J:=List.pairwise_mergeSort (le:=fun a b=>Y (G3 a b<=0)) (fun a b c h1 h2=>HS (Ez (Ib h1) (Ib h2))) (fun a b=>by
  simp only[Bool.or_eq_true,Ia];exact JH (dw a) (dw b)) l
 refine List.Perm.eq_of_pairwise (fun a b _ _ h1 h2=>?_) hs hso (hp.trans (D7 l).symm)
 have h1:AB (dw a) (dw b)<=0:=Ib h1
 have h2:AB (dw b) (dw a)<=0:=Ib h2
 have:=BD.swap (dw b) (dw a) trivial trivial
 have:=BD.swap (dw a) (dw b) trivial trivial
 exact Rb (GV.1 (by omega))
abbrev th:Prop:=∀a b:List Int,I a<=1000000->I b<=1000000->F0 215 [cy a,cy b] (di (G3 a b))
theorem Zq(hC:th){g:Gh}{w:yy}{σ:St}(hw:c8 g σ w){blk:Nat}(hM:∀o,g.M blk o=none)(n:Nat):CmpLays1 PP 215 #[] (Hm (M:=g.M)) nu blk 0 n w:=by
 intro m os dk _ x y
 obtain⟨W,hW⟩:∃W,W=sortWorld Hm w blk 0 m dk os:=⟨_,rfl⟩
 rw[←hW]
 have hmem:∀b o v,g.M b o=G v->W.cell? ⟨b,o,none⟩=G v:=by
  intro b o v h
  have hne:b≠blk:=fun e=>by rw[e,hM] at h;simp at h
  have hc:=hw.mem b o v h
  have hlt:b<w.heap.size:=hw.mem_lt h
  rw[hW,sortWorld,cell?_grow _ _ _ (by rw[Go.Sort.size_putRow];exact hlt),cell?_putRow_other _ _ _ _ _ _ (.inl hne)]
  exact hc
 have hrep:c8 { M:=g.M,β:=g.β,n:=0,ι:=fun _ _=>none,κ:=g.κ } ⟨[],[]⟩ W:=
  { n:=rfl,mem:=hmem,obj:=fun i cs hi=>by simp at hi,inj:=fun i j cs ds hi=>by simp at hi,own:=fun k sz xs hx=>by simp at hx,tags:=by simp,sep:=fun x hx=>by simp at hx,ownObj:=fun x hx=>by simp at hx,fresh:=fun _ _ _=>rfl,gl:=hw.gl,gw:=fun p hp=>by simp[G8] at hp }
 have arg:∀z:l8 g.M,Av { M:=g.M,β:=g.β,n:=0,ι:=fun _ _=>none,κ:=g.κ } (cy z.1.1) (Hm z):=by
  intro z
  simp only[Av]
  exact z.2.2
 have hs:=(hC x.1.1 y.1.1 x.2.1 y.2.1).2 _ W [Hm x,Hm y] hrep (A8.2 ⟨_,_,rfl,arg x,arg y⟩)
 refine Calls.mono hs ?_
 rintro e w' ⟨u,g',rfl,hwi,hd⟩
 simp only[Av,AM] at hd
 exact⟨by rw[hd];rfl,YG hwi⟩
theorem ME(hC:th)(l:List (List Int))(hl:I l<=100000)(hs:∀v∈l,I v<=1000000):
  Aa PP 214 [.arr 0 0 (I l),dfn 215] ⟨[G (Ad (l.map cz))],[]⟩ (.tup []) ⟨[G (Ad ((sortW l).map cz))],[]⟩:=by
 refine⟨⟨_, Tryz.func214,by kernel_rfl,by kernel_rfl⟩,fun g w args hw hargs=>?_⟩
 obtain⟨u0,u1,rfl,h0,h1⟩:=A8.1 hargs
 simp only[Av] at h0 h1
 obtain⟨hn,cap,hcap,rfl⟩:=h0
 obtain⟨us1,vs1,rfl,hu1,hv1⟩:=GH.1 h1
 simp only[F1] at hu1 hv1
 subst hu1;subst hv1
 obtain⟨us,rest,et,hb,hr,hone,hM,hκ⟩:=hw.obj 0 _ rfl
 obtain⟨ps,hp1,hp2⟩:=Z2 hs hr
 have hpl:I ps=I l:=by rw[←hp1,HP]
 have hul:I us=I l:=by rw[hp2,HP,hpl]
 have hH:Holds Hm w (g.β 0) 0 ps.toArray:=by
  intro j hj
  have hj':j<I ps:=by simpa using hj
  refine⟨?_,by simp[World.frozen?,hb]⟩
  have hg:(us++rest)[j]?=G (Hm ps[j]):=by rw[Ip (by omega),hp2,I9,HQ hj'];rfl
  rw[getElem!_pos ps.toArray j hj]
  simp only[World.cell?,hb,IC,id]
  simpa using hg
 have hblk:g.β 0<w.heap.size:=GR hb
 have eg:∀args w,(callFunc 215 args).run PP w=.ok (.enter 215 args) w:=enters_of Tryz.func215 (by kernel_rfl) rfl
 have hcon:=Any.slices_SortFunc Tryz.sortW (Hm (M:=g.M)) (fun x=>Du (x:=cz x.1.1) rfl x.2.2) nu AlJ 215 #[] (g.β 0) 0 cap ps.toArray w eg (Zq hC hw hM _) hH hblk (by simp;omega)
 change Calls PP 214 _ _ _ at hcon
 rw[show ps.toArray.size=I l by simp[hpl]] at hcon
 refine Calls.mono hcon ?_
 rintro e w' ⟨rfl,d',n,os,hperm,hsorted,rfl⟩
 obtain⟨hsz,_,hperm⟩:=hperm
 have hdl:d'.toList.map (fun p=>p.1.1)=sortW l:=by
  refine Aba ?_ ?_
  ·rw[←hp1]
   have h2:d'.toList.Perm ps:=by simpa[Array.extract_eq_self_of_le,hsz,hpl] using hperm
   exact h2.map _
  ·rw[List.pairwise_iff_getElem]
   intro i j hi hj hij
   have hi':i<d'.size:=by simpa using hi
   have hj':j<d'.size:=by simpa using hj
   have h3:=hsorted i j (I3 _) hij (by simp only[Jp] at hsz;omega)
   simp only[ltOf,nu,Jt,getElem!_pos d' i hi',getElem!_pos d' j hj'] at h3
   simp only[List.getElem_map,Array.getElem_toList,Ia]
   exact(FQ _ _).2 h3
 have hd2:d'.size=I l:=by rw[hsz];simp[hpl]
 have hFl:I (d'.toList.map Hm)=I us:=by rw[HP,I5,hd2,hul]
 have hcs:=VM d'.toList
 rw[hdl] at hcs
 have hb2:(putRow Hm (Sort.ahead w n) (g.β 0) 0 d').heap[g.β 0]?=G (.cells ((d'.toList.map Hm)++rest).toArray et (0,0)):=by
  simp only[putRow,mapBlock,Sort.ahead,Array.getElem?_modify,hb,onCells,Jj,IT]
  congr 2
  apply Array.ext_getElem?
  intro t
  simp only[putCells,Array.getElem?_mapIdx,Nat.sub_zero,I3,true_and,IC,id,IW,Jp]
  by_cases ht:t<I us
  ·have htF:t<d'.size:=by omega
   rw[Ip ht,Ip (by omega),HQ ht,IT,Io htF,I9,J2,getElem!_pos d' t htF,Array.getElem?_eq_getElem htF];rfl
  ·have htF:¬t<d'.size:=by omega
   rw[Il (by omega),Il (by omega),hFl]
   simp only[Ij htF,Option.map_id']
 have h2:=(WI.start hw).setObj (cs':=Ad ((sortW l).map cz)) (q:=0) (w':=putRow Hm (Sort.ahead w n) (g.β 0) 0 d') rfl hb2 (by rw[←hκ,Ig,Ig,hFl]) hcs.1 hcs.2 (fun b hb'=>by
  simp only[putRow,mapBlock,Sort.ahead,Array.getElem?_modify]
  rw[Ij (fun h=>hb' h.symm)]) (by rw[Go.Sort.size_putRow];rfl) rfl rfl rfl (drawn:=.of (Nat.le_add_right _ _))
 have h3:=h2.grow (w':=sortWorld Hm w (g.β 0) 0 n d' os) (M':=g.M) (cg.le_refl _) (fun b hb'=>⟨heap_grow_old _ _ hb',fun _=>rfl⟩) (fun b o v h=>by
  rw[sortWorld,cell?_grow _ _ _ (h2.rep.mem_lt h)];exact h2.rep.mem b o v h) (by rw[sortWorld,size_grow];exact Nat.le_add_right _ _) rfl rfl rfl
 exact⟨_,g,rfl,h3,by simp only[Av];exact⟨[],rfl,by simp[Ar]⟩⟩
end Go.Proofs.YthmjfmacdlhfjaaGreat

namespace Go.Proofs.YthmjfmacdlhfjaaGreat
open Go.Dv Go.Nv
set_option maxRecDepth 20000
open Go.IntKind (u64)
open Go.IntKind renaming wrap → yr, i64 → yq
open List renaming length → I, map → U, drop → W
open Option renaming some → G
open Bool renaming true → J, false → O
open Decidable renaming decide → Y
open Int renaming toNat → Z
open Go.Dv.V renaming list → ai, str → ae, agg → ab, int → aa, ref → bz, fn → bw, nils → bv, bool → bu
open Go.Dv.D renaming v → bt, acc → br, ptr → bq, arr → bo, gro → bm, tup → bl, undef → bk, dagg → bj
open Go.Dv.St renaming mk → bi
open Go.Dv.KI renaming blk → bh
open _root_.ByteArray renaming mk → bg
open Go renaming Operand → x5, Program → x4, TypeId → yz, World → yy, Value → yx, Oper → yw, FuncId → yv, Func → yu, IntKind → yt
end Go.Proofs.YthmjfmacdlhfjaaGreat

namespace Go.Nv
open Go.Dv
open Go.IntKind (u64)
open Go.IntKind renaming wrap → yr, i64 → yq
open List renaming length → I, map → U, drop → W
open Option renaming some → G
open Bool renaming true → J, false → O
open Decidable renaming decide → Y
open Int renaming toNat → Z
open Go.Dv.V renaming list → ai, str → ae, agg → ab, int → aa, ref → bz, fn → bw, nils → bv, bool → bu
open Go.Dv.D renaming v → bt, acc → br, ptr → bq, arr → bo, gro → bm, tup → bl, undef → bk, dagg → bj
open Go.Dv.St renaming mk → bi
open Go.Dv.KI renaming blk → bh
open _root_.ByteArray renaming mk → bg
open Go renaming Operand → x5, Program → x4, TypeId → yz, World → yy, Value → yx, Oper → yw, FuncId → yv, Func → yu, IntKind → yt
section
variable {C : co -> co -> Prop} {P : x4} {R : List D -> St -> Prop} {k : List KI} {env : List D} {σ : St} {ops : Array yw} {L : List yw} {o : yw}
end
section
variable {P : x4} {R : List D -> St -> Prop} {k : List KI} {nt : Nat} {E : List (Nat × D)} {σ : St} {ops : Array yw} {L0 : List yw} {C : co -> co -> Prop}
end
section
variable {P : x4} {fn : yu} {d : D} {σ' : St} {m : Nat} {k : List KI} {E : List (Nat × D)} {σ : St}
end
theorem G1{σ:St}{q:Nat}{cs cs':List D}(hq:σ.H[q]?=G (G cs))(h:∀(g:Gh) (us:List yx),Ar g cs us->Ar g cs' us)(h1:(∀c∈cs,c.one=J)->∀c∈cs',c.one=J)(e:List D):Cv e σ e ⟨σ.H.set q (G cs'),σ.own⟩:=fun E g a w hf=>by
 refine⟨g,?_,hf.env,hf.defers⟩
 have hw:=hf.wi
 obtain⟨us,rest,et,hb,hr,h2,hM,hκ⟩:=hw.rep.obj q cs hq
 exact hw.setObj hq hb hκ (h g us hr) (h1 h2) (fun _ _=>rfl) rfl rfl rfl rfl
theorem TN{env:List D}{σ:St}{q t sz n:Nat}{xs:List V}(hsz:0<sz)(hs:∀x∈xs,x.size=sz)(hn:n=I xs)(hq:σ.H[q]?=G (G (Ad xs)))(ht:env[t]?=G (.arr q 0 n)):Cv env σ (env.set t (.v (.list xs))) ⟨σ.H.set q none,σ.own⟩:=fun E g a w hf=>by
 subst hn
 have hone:∀y∈xs.flatMap V.cellsV,y.isAgg=O:=fun y hy=>by
  obtain⟨_,_,_,_,_,h1,_⟩:=hf.wi.rep.obj q _ hq
  have:=h1 (.v y) (IA.2 ⟨y,hy,rfl⟩)
  simpa[D.one] using this
 have hz:Fz (Ey [q] σ.H) env (env.set t (.v (.list xs))):=by
  refine MV (n:=1) (Fz.refl env) ht (.inr (.inr ⟨q,0,sz,Ad xs,xs,.inl rfl,rfl,hsz,hs,by simp[Ey,hq],fun j y hy=>?_⟩))
  exact⟨hone y (HW hy),.v y,by rw[IC,Ad,I9,hy];rfl,.v y,.same,rfl⟩
 obtain⟨g',hf'⟩:=Q6 [q] hz E g a w hf
 exact⟨g',by simpa[HE] using hf'⟩
theorem V5{σ:St}{p q i:Nat}{cs:List D}{xs:List V}(hp:σ.H[p]?=G (G cs))(hq:σ.H[q]?=G (G (xs.map .v)))(hpq:p≠q)(hi:cs[i]?=G (.arr q 0 (I xs)))(hx:∀x∈xs,x.isAgg=O)(e:List D):
  Cv e σ e ⟨(σ.H.set q none).set p (G (cs.set i (.v (.list xs)))),σ.own⟩:=fun E g a w hf=>by
 obtain⟨us,rest,et,hb,hr,h1,hM,_⟩:=hf.wi.rep.obj q _ hq
 have hus:I us=I xs:=by have:=AF hr;simpa using this
 have hA:repA g.M xs us:=Hx (Fu xs) hr h1
 let M':cg:=fun b o=>if b=g.β q then us[o]? else g.M b o
 have hle:g.M.le M':=fun b o v hm=>by
  simp only[M']
  rw[Ij]; ·exact hm
  intro e;subst e;rw[hM o] at hm;simp at hm
 have hlg:g.le { g with M:=M' }:=⟨hle,HX _,fun _ _=>rfl,fun _ _ _ h=>h,fun _ _=>rfl⟩
 have hin:eb M' (g.β q) 0 us:=fun j v hj=>by simp[M',hj]
 have hE:∀{ys:List V} {vs:List yx},(∀y∈ys,y.isAgg=O)->repA M' ys vs->repE M' 1 ys vs:=by
  intro ys
  induction ys with
  |nil=>intro vs _ h;simpa only[repA,repE] using h
  |cons y ys ih=>
   intro vs hy h
   simp only[repA] at h
   obtain⟨u,us',rfl,ha,h1,h2⟩:=h
   simp only[repE]
   exact⟨[u],us',rfl,rfl,h1,ih (fun z hz=>hy z (by simp[hz])) h2⟩
 have hw':WI E { g with M:=M' } ⟨σ.H.set q none,σ.own⟩ w:=hf.wi.setObjG hle hq (fun c hc=>by simp at hc) (fun b _ hne=>⟨rfl,fun o=>by simp[M',hne]⟩) (fun b o v hm=>by
   simp only[M'] at hm
   split at hm
   ·rename_i e;subst e
    simp only[World.cell?,hb,IW];exact Df hm
   ·exact hf.wi.rep.mem b o v hm) (HX _) rfl rfl rfl
 have hp':(σ.H.set q none)[p]?=G (G cs):=by rw[List.getElem?_set_ne (fun e=>hpq e.symm)];exact hp
 obtain⟨us2,rest2,et2,hb2,hr2,h12,_,hκ2⟩:=hw'.rep.obj p cs hp'
 obtain⟨u,hu,hru⟩:=BL hr2 hi
 simp only[Av] at hru
 obtain⟨_,cap,hcap,rfl⟩:=hru
 have hlist:repV M' (.list xs) (.slice (G ⟨g.β q,0,none⟩) (I xs) cap):=CY (by omega) hin (hE hx (repA.mono hle _ _ hA)) hcap
 have hset:=CZ hr2 i (d:=.v (.list xs)) (u:=.slice (G ⟨g.β q,0,none⟩) (I xs) cap) (by simp only[Av];exact hlist)
 rw[Eb hu] at hset
 have h3:=hw'.setObj hp' hb2 hκ2 hset (fun c hc=>by
  rcases IX hc with h|h
  ·exact h12 c h
  ·rw[h];rfl) (fun _ _=>rfl) rfl rfl rfl rfl
 exact⟨_,h3,Ar.mono hlg _ _ hf.env,hf.defers⟩
end Go.Nv
