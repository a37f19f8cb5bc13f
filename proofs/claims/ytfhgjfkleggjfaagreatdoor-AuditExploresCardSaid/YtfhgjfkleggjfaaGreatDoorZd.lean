/-
  A part of the proof.
-/
import Derived.Test.YtfhgjfkleggjfaaGreatDoorZc
namespace Go.Proofs.YtfhgjfkleggjfaaGreatDoor
open Go.Dv Go.Nv
set_option maxRecDepth 20000
open List (all_cons flatten_nil headD replicate take zipWith)
open Go.IntKind (u64)
open Go.IntKind renaming wrap → yu, i64 → yt
open List renaming length → I, map → U, drop → W
open Option renaming some → G
open Bool renaming true → J, false → O
open Decidable renaming decide → Y
open Int renaming toNat → Z
open Go.Dv.V renaming list → ai, str → ae, agg → ab, int → aa, ref → bz, fn → bw, nils → bv, bool → bu
open Go.Dv.D renaming v → bt, acc → br, ptr → bq, arr → bo, gro → bm, tup → bl, undef → bk, dagg → bj
open Go.Dv.St renaming mk → bi
open Go.Dv.KI renaming blk → bh
open _root_.ByteArray renaming mk → bf
open Go renaming Operand → x8, Program → x7, TypeId → x6, World → x5, Value → yz, Oper → yy, FuncId → yx, Func → yw, IntKind → yv
inductive cy where
 |nat
 |lab (n:Int)
 |prod (l:List cy)
 |word (t:cy)
 |bag (t:cy)
 |prio (n:Int) (r:List Int)
 deriving Inhabited
mutual
def cy.enc:cy->V
 |.nat=>.agg [vi 1,vi 0,.list [],.list []]
 |.lab n=>.agg [vi 2,vi n,.list [],.list []]
 |.prod l=>.agg [vi 3,vi 0,.list [],.list (cy.encs l)]
 |.word t=>.agg [vi 4,vi 0,.list [],.list [t.enc]]
 |.bag t=>.agg [vi 5,vi 0,.list [],.list [t.enc]]
 |.prio n r=>.agg [vi 7,vi n,cz r,.list []]
def cy.encs:List cy->List V
 |[]=>[]
 |t::l=>t.enc::cy.encs l
end
theorem cy.encs_map:∀l:List cy,cy.encs l=l.map cy.enc
 |[]=>rfl
 |t::l=>by simp[cy.encs,cy.encs_map l]
abbrev jd(k n:Int)(r:List Int)(l:List V):V:=.agg [vi k,vi n,cz r,.list l]
def cy.kd:cy->Int
 |.nat=>1|.lab _=>2|.prod _=>3|.word _=>4|.bag _=>5|.prio _ _=>7
def cy.sz:cy->Int
 |.lab n=>n|.prio n _=>n|_=>0
def cy.rk:cy->List Int
 |.prio _ r=>r|_=>[]
def cy.ps:cy->List cy
 |.prod l=>l|.word t=>[t]|.bag t=>[t]|_=>[]
abbrev eT:cy->V:=cy.enc
abbrev vT(t:cy):V:=jd t.kd t.sz t.rk (t.ps.map eT)
abbrev dT(t:cy):D:=.v (vT t)
theorem V7(t:cy):eT t=vT t:=by cases t<;>simp only[eT,cy.enc,cy.encs_map]<;>rfl
theorem OD{a:List cy}{i:Nat}{x:cy}(h:a[i]?=G x):(a.map eT)[((i:Nat):Int).toNat]?=G (vT x):=by rw[←V7];exact Am h
theorem NT(t:cy):vT (.word t)=jd 4 0 [] [vT t]:=by rw[←V7 t];rfl
theorem Sg(t:cy):vT (.bag t)=jd 5 0 [] [vT t]:=by rw[←V7 t];rfl
noncomputable abbrev AlN:=Tryz.f200
def Cx(n:Int)(v:bc):Bool:=Y (v.n>=0)&&(Y (v.n<n)&&((I v.az:Int)==0))
theorem Tc(n:Int)(v:bc):F0 200 [dV v,di n] (db (Cx n v)):=by
 refine sv AlN 20 [2] (.b (.b .r .r) .r) ((Y (v.n>=0)=J->(Y (v.n<n)=J->db ((I (cc v.az):Int)==0)=db (Cx n v))/\(Y (v.n<n)=O->db O=db (Cx n v)))/\(Y (v.n>=0)=O->db O=db (Cx n v))) ?_
 refine⟨fun h1=>⟨fun h2=>?_,fun h2=>?_⟩,fun h1=>?_⟩<;>(try simp only[H9] at*)<;>simp_all [Cx]<;>(intros;omega)
noncomputable abbrev pq:=Tryz.f202
noncomputable def pw:=yl pq
def Ws(l:List bc):Nat->Bool
 |0=>true
 |k+1=>if Aq (l.getD (k+1) default) (l.getD k default)<0 then false else Ws l k
theorem Ab5(l:List bc)(hs:bc.sizes l<=1000000)(k:Nat):k<I l->
  Rn PP pq 0 (db (Ws l k)) bd ([kl pw [1,0,1,0,0],.blk 0,kc pw [1,1]]++[]) (ba 25 [(0,cx l),(1,dfn 22),(5,di k)]) bd:=by
 induction k with
 |zero=>
  intro hk
  exact lv 25 [] (.f .r) (Y ((↑0:Int)>0)=O/\Q (db J)) ⟨rfl,rfl⟩
 |succ k ih=>
  intro hk
  refine lv 25 [] (.t<|.x (Ac (l.getD (k+1) default))<|.x (Ac (l.getD k default))<|.c (di (Aq (l.getD (k+1) default) (l.getD k default)))<|.b .r (.l [ke 0,ke 1,ch 5 (di k)])) (Y ((↑(k+1):Int)>0)=J/\0<=(↑(k+1):Int)/\(U eV l)[Z (↑(k+1):Int)]?=G (Ac (List.getD l (k+1) default))/\0<=yu yt ((↑(k+1):Int)-1)/\(U eV l)[Z (yu yt ((↑(k+1):Int)-1))]?=G (Ac (List.getD l k default))/\F0 22 [bt (Ac (List.getD l (k+1) default)),bt (Ac (List.getD l k default))] (di (Aq (List.getD l (k+1) default) (List.getD l k default)))/\(Y (Aq (List.getD l (k+1) default) (List.getD l k default)<0)=J->db O=db (Ws l (k+1)))/\(Y (Aq (List.getD l (k+1) default) (List.getD l k default)<0)=O->di (yu yt ((↑(k+1):Int)-1))=di (k:Int)/\I0 pq 0 (db (Ws l (k+1))) bd [kl pw [1,0,1,0,0],bh 0,kc pw [1,1]] (ba 25 [(0,cx l),(1,bt mb),(5,di (k:Int))]) dh)) ?_
  have h1:yt.wrap (((k+1:Nat):Int)-1)=k:=by rw[Al (by have:=bc.length_le l;omega) (by have:=bc.length_le l;omega)];omega
  have hx:l[k+1]?=G (l.getD (k+1) default):=by rw[HI,HA hk];rfl
  have hy:l[k]?=G (l.getD k default):=by rw[HI,HA (by omega)];rfl
  have hz:(l.getD (k+1) default).size<=1000000:=by have:=bc.size_mem (HG hx);omega
  rw[h1]
  refine⟨by simp,by omega,An hx,by omega,An hy,Mt _ _ _ (HH _) hz,fun h2=>?_,fun h2=>⟨rfl,⟨?_⟩⟩⟩
  ·simp only[Ws,HV (HL h2)]
  ·simp only[Ws,HR (Iu h2)]
   exact ih (by omega)
def UA(l:List bc):Bool:=Ws l (I l-1)
theorem Ab2(l:List bc)(hs:bc.sizes l<=1000000):F0 202 [cx l,dfn 22] (db (UA l)):=by
 cases l with
 |nil=>
  exact sv pq 25 [] (.n<|.f .r) (Y (yu yt ((I (U eV []):Int)-1)>0)=O/\Q (db J)) ⟨rfl,rfl⟩
 |cons v l=>
  refine sv pq 25 [] (.l [ke 0,ke 1,ch 5 (di (I l:Nat))]) (di (yu yt ((I (U eV (v::l)):Int)-1))=di (I l:Int)/\I0 pq (I bd.H) (db (UA (v::l))) bd [kl pw [1,0,1,0,0],bh 0,kc pw [1,1]] (ba 25 [(0,cx (v::l)),(1,dfn 22),(5,di (I l:Int))]) bd) ?_
  have:=bc.length_le (v::l)
  have h1:yt.wrap ((I ((v::l).map eV):Int)-1)=I l:=by
   rw[H9,HF] at*
   rw[Al];omega
  rw[h1]
  exact⟨rfl,⟨Ab5 (v::l) hs (I l) (by simp)⟩⟩
mutual
def Ar:cy->bc->Bool
 |.nat,v=>Y (v.n>=0)&&(Y (v.n<=1048576)&&((I v.az:Int)==0))
 |.lab n,v=>Cx n v
 |.prod l,v=>(v.n==0)&&(((I v.az:Int)==I l)&&BA l v.az)
 |.word t,v=>(v.n==0)&&(Y ((I v.az:Int)<=12)&&v.az.all (fun k=>Ar t k))
 |.bag t,v=>((v.n==0)&&(Y ((I v.az:Int)<=12)&&v.az.all (fun k=>Ar t k)))&&UA v.az
 |.prio n _,v=>(v.n==0)&&(Y ((I v.az:Int)<=12)&&v.az.all (fun k=>Cx n k))
def BA:List cy->List bc->Bool
 |t::l,v::vs=>Ar t v&&BA l vs
 |_,_=>true
end
noncomputable abbrev kr:=Tryz.f171
noncomputable def pi:=yl kr
noncomputable abbrev AkC:=Tryz.f201
noncomputable abbrev AiE:=Tryz.f235
noncomputable abbrev Ak7:=Tryz.f205
theorem RP{α:Type}(l:List α)(p:α->Bool):(!l.any fun k=> !p k)=l.all p:=by
 induction l with
 |nil=>rfl
 |cons x l ih=>simp only[List.any_cons,all_cons,Bool.not_or,Bool.not_not,ih]
theorem YB(n:Int)(r:List Int)(v:bc):F0 205 [dV v,.v (.ref (vT (.prio n r)))] (db (!Cx n v)):=by
 exact sv Ak7 9 [2] (.c (db (Cx n v)) .r) (_/\Q (db !Cx n v)) ⟨Tc n v,rfl⟩
theorem Vv(t:cy)(v:bc)(h:F0 171 [dT t,dV v] (db (Ar t v))):F0 235 [dV v,.v (.ref (vT t))] (db (!Ar t v)):=by
 exact sv AiE 8 [2] (.c (db (Ar t v)) .r) (_/\Q (db !Ar t v)) ⟨h,rfl⟩
def EU(t:cy)(v:bc):Bool:=(v.n==0)&&(Y ((I v.az:Int)<=12)&&v.az.all (fun k=>Ar t k))
theorem Aim{v:bc}(h:Y ((I (v.az.map eV):Int)<=12)=J):I v.az<=1000000:=by
 have h:=HL h
 rw[H9] at h
 omega
theorem PN(t:cy)(v:bc)(h:∀k∈v.az,F0 171 [dT t,dV k] (db (Ar t k))):F0 201 [dV v,dT t] (db (EU t v)):=by
 refine sv AkC 21 [2,3] (.b (.b (.c (db (v.az.any fun k=> !Ar t k)) .r) .r) .r) (((v.n==0)=J->(Y ((I (cc v.az):Int)<=12)=J->F0 204 [cx v.az,bt (bw 235 [] [bz (vT t)])] (db (List.any v.az fun k=> !Ar t k))/\(db !List.any v.az fun k=> !Ar t k)=db (EU t v))/\(Y ((I (cc v.az):Int)<=12)=O->db O=db (EU t v)))/\((v.n==0)=O->db O=db (EU t v))) ⟨fun h1=>⟨fun h2=>⟨JB _ [] [_] _ v.az (Aim h2) fun k hk=>Vv t k (h k hk),?_⟩,fun h2=>?_⟩,fun h1=>?_⟩
 ·rw[RP];simp_all [EU]
 all_goals (simp_all [EU]<;>(intros;omega))
theorem AfA(v:bc):F0 171 [dT .nat,dV v] (db (Ar .nat v)):=by
 refine sv kr 110 [2,3] (.k<|.b (.b .r .r) .r) ((Y (v.n>=0)=J->(Y (v.n<=1048576)=J->db ((I (cc v.az):Int)==0)=db (Ar cy.nat v))/\(Y (v.n<=1048576)=O->db O=db (Ar cy.nat v)))/\(Y (v.n>=0)=O->db O=db (Ar cy.nat v))) ?_
 refine⟨fun h1=>⟨fun h2=>?_,fun h2=>?_⟩,fun h1=>?_⟩<;>simp_all [Ar]<;>(intros;omega)
theorem AfB(n:Int)(v:bc):F0 171 [dT (.lab n),dV v] (db (Ar (.lab n) v)):=by
 exact sv kr 110 [2,3] (.c (db (Cx n v)) .r) (_/\db (Cx n v)=db (Ar (cy.lab n) v)) ⟨Tc n v,by simp only[Ar]⟩
theorem Ac1(n:Int)(r:List Int)(v:bc):F0 171 [dT (.prio n r),dV v] (db (Ar (.prio n r) v)):=by
 refine sv kr 110 [2,3] (.k<|.k<|.k<|.k<|.k<|.k<|.b (.b (.c (db (v.az.any fun k=> !Cx n k)) .r) .r) .r) (((v.n==0)=J->(Y ((I (cc v.az):Int)<=12)=J->F0 204 [cx v.az,bt (bw 205 [] [bz (vT (cy.prio n r))])] (db (List.any v.az fun k=> !Cx n k))/\(db !List.any v.az fun k=> !Cx n k)=db (Ar (cy.prio n r) v))/\(Y ((I (cc v.az):Int)<=12)=O->db O=db (Ar (cy.prio n r) v)))/\((v.n==0)=O->db O=db (Ar (cy.prio n r) v))) ⟨fun h1=>⟨fun h2=>⟨JB _ [] [_] _ v.az (Aim h2) fun k hk=>YB n r k,?_⟩,fun h2=>?_⟩,fun h1=>?_⟩
 ·rw[RP];simp_all [Ar]
 all_goals (simp_all [Ar]<;>(intros;omega))
theorem Acy(t:cy)(v:bc)(h:∀k∈v.az,F0 171 [dT t,dV k] (db (Ar t k))):F0 171 [dT (.word t),dV v] (db (Ar (.word t) v)):=by
 rw[dT,NT]
 exact sv kr 110 [2,3] (.x (vT t)<|.c (db (EU t v)) .r) (iz 0<=0/\Q (G (vT t))/\_/\db (EU t v)=db (Ar (cy.word t) v)) ⟨by decide,rfl,PN t v h,by simp only[Ar,EU]⟩
theorem AfC(t:cy)(v:bc)(hv:v.size<=1000000)(h:∀k∈v.az,F0 171 [dT t,dV k] (db (Ar t k))):F0 171 [dT (.bag t),dV v] (db (Ar (.bag t) v)):=by
 rw[dT,Sg]
 have:=bc.size_eq v
 refine sv kr 110 [2,3] (.x (vT t)<|.c (db (EU t v))<|.b (.c (db (UA v.az)) .r) .r) (iz 0<=0/\Q (G (vT t))/\_/\(EU t v=J->F0 202 [cx v.az,bt mb] (db (UA v.az))/\db (UA v.az)=db (Ar (cy.bag t) v))/\(EU t v=O->db O=db (Ar (cy.bag t) v))) ⟨by decide,rfl,PN t v h,fun h1=>⟨Ab2 v.az (by omega),?_⟩,fun h1=>?_⟩
 ·simp only[EU] at h1;simp only[Ar,h1,Ij]
 ·simp only[EU] at h1;simp only[Ar,h1,Ih]
noncomputable abbrev io:=fun a₀=>(U eT (cy.ps (cy.prod a₀)))
noncomputable abbrev oy:=fun a₀=>(2,bt (bz (vT (cy.prod a₀))))
noncomputable abbrev Aqg:=[kl pi [1,0,1,0,1,1,1,1,1,0,1,0,1,0,0],bh 1,kc pi [1,0,1,0,1,1,1,1,1,0,1,1],bh 0,kc pi [1,1]]
theorem XZ(l:List cy)(v:bc)(hl:I v.az=I l)(hv:I v.az<=1000000)(h:∀t∈l,∀k∈v.az,F0 171 [dT t,dV k] (db (Ar t k)))(n:Nat):∀k:Nat,I l-k=n->
  Rn PP kr 0 (db (BA (l.drop k) (v.az.drop k))) bd ([kl pi [1,0,1,0,1,1,1,1,1,0,1,0,1,0,0],.blk 1,kc pi [1,0,1,0,1,1,1,1,1,0,1,1],.blk 0,kc pi [1,1]]++[]) (ba 110 [(2,.v (.ref (vT (.prod l)))),(46,cx v.az),(47,di (I v.az)),(48,di k)]) bd:=by
 induction n using Nat.strongRecOn with
 |_ n ih=>
 intro k hn
 refine lv 110 [2,3] (.b (.e fun x:bc=>.x (Ac x)<|.e fun t:cy=>.x (vT t)<|.c (db (Ar t x))<|.b .r (.ls [ke 2,ke 46,ke 47,ch 48 (di (k+1:Nat))] bd)) .r) ((Y ((k:Int)<(I v.az:Int))=J->∃a,0<=(k:Int)/\(cc v.az)[Z (k:Int)]?=G (Ac a)/\∃a_1,0<=(k:Int)/\(io l)[Z (k:Int)]?=G (vT a_1)/\Aa PP 171 [bt (vT a_1),dV a] dh (db (Ar a_1 a)) dh/\yp/\((!Ar a_1 a)=J->db O=db (BA (W k l) (W k v.az)))/\((!Ar a_1 a)=O->di (yu yt ((k:Int)+1))=di (↑(k+1):Int)/\Nv.It (AB (CN 0) PP (fun env σ1=>Az PP kr env σ1 (db (BA (W k l) (W k v.az))) bd) Aqg (ba 110 [(oy l),(46,cx v.az),(47,di (I v.az:Int)),(48,di (↑(k+1):Int))]) bd)))/\(Y ((k:Int)<(I v.az:Int))=O->db J=db (BA (W k l) (W k v.az)))) ⟨fun h1=>?_,fun h1=>?_⟩
 ·have hk:k<I v.az:=by simpa using h1
  have hk2:k<I l:=by omega
  have hx:v.az[k]?=G v.az[k]:=HA hk
  have hy:l[k]?=G l[k]:=HA hk2
  rw[HP hk,HP hk2]
  generalize v.az[k]=x at hx⊢
  generalize l[k]=t at hy⊢
  refine⟨x,by omega,An hx,t,by omega,OD hy,h t (HG hy) x (HG hx),yn,fun h2=>?_,fun h2=>⟨Ae,⟨?_⟩⟩⟩
  ·have h2:Ar t x=O:=by simpa using h2
   simp only[BA,h2,Ih]
  ·have h2:Ar t x=J:=by simpa using h2
   simp only[BA,h2,Ij]
   exact ih (I l- (k+1)) (by omega) (k+1) rfl
 ·have hk:I v.az<=k:=by simpa using h1
  rw[HU hk,HU (by omega)];simp only[BA]
theorem Ac0(l:List cy)(v:bc)(hv:v.size<=1000000)(h:∀t∈l,∀k∈v.az,F0 171 [dT t,dV k] (db (Ar t k))):F0 171 [dT (.prod l),dV v] (db (Ar (.prod l) v)):=by
 have hlen:=bc.length_le v.az
 have hsz:=bc.size_eq v
 refine sv kr 110 [2,3] (.k<|.k<|.k<|.b .r (.b .r (.l [ke 2,ke 46,ch 47 (di (I v.az)),ch 48 (di (0:Nat))]))) (((v.n !=0)=J->db O=db (Ar (cy.prod l) v))/\((v.n !=0)=O->(((I (cc v.az):Int) !=(I (io l):Int))=J->db O=db (Ar (cy.prod l) v))/\(((I (cc v.az):Int) !=(I (io l):Int))=O->di (I (cc v.az):Int)=di (I v.az:Int)/\di 0=di (↑0:Int)/\I0 kr (I bd.H) (db (Ar (cy.prod l) v)) bd Aqg (ba 110 [(oy l),(46,cx v.az),(47,di (I v.az:Int)),(48,di (↑0:Int))]) bd))) ⟨fun h1=>?_,fun h1=>⟨fun h2=>?_,fun h2=>⟨by rw[H9],rfl,⟨?_⟩⟩⟩⟩
 ·have h1:(v.n==0)=O:=by simpa using h1
  simp only[Ar,h1,Ih]
 ·have h2:((I v.az:Int)==I l)=O:=by simpa[cy.ps] using h2
  simp only[Ar,h2,Ih,Jn]
 ·have h1:(v.n==0)=J:=by simpa using h1
  have h2:(I v.az:Int)=I l:=by simpa[cy.ps] using h2
  have h3:((I v.az:Int)==I l)=J:=by simpa using h2
  simp only[Ar,h1,h3,Ij]
  exact XZ l v (by omega) (by omega) h _ 0 rfl
theorem Acz(N:Nat):∀(t:cy),SizeOf.sizeOf t<=N->∀v:bc,v.size<=1000000->F0 171 [dT t,dV v] (db (Ar t v)):=by
 induction N with
 |zero=>intro t ht;cases t<;>simp at ht<;>omega
 |succ N ih=>
  intro t ht v hv
  have hk:∀k∈v.az,k.size<=1000000:=fun k hk=>by have:=bc.size_mem hk;have:=bc.size_eq v;omega
  cases t with
  |nat=>exact AfA v
  |lab n=>exact AfB n v
  |prio n r=>exact Ac1 n r v
  |word t=>exact Acy t v fun k h=>ih t (by simp at ht;omega) k (hk k h)
  |bag t=>exact AfC t v hv fun k h=>ih t (by simp at ht;omega) k (hk k h)
  |prod l=>exact Ac0 l v hv fun t h k h'=>ih t (by have:=List.sizeOf_lt_of_mem h;simp at ht;omega) k (hk k h')
noncomputable abbrev q7:=Tryz.f252
noncomputable def o4:=yl q7
theorem AcN(F:yx)(fs cs:List V)(p:cy->Bool)(l:List (cy))(hl:I l<=1000000)(hp:∀x∈l,F0 F ((fs++[vT x]++cs).map .v) (db (p x)))(n:Nat):∀k:Nat,I l-k=n->
  Rn PP q7 0 (di (d6 p (l.drop k) k)) bd ([kl o4 [1,0,1,0,0],.blk 0,kc o4 [1,1]]++[]) (ba 19 [(0,dl (l.map eT)),(1,.v (.fn F fs cs)),(7,di (I l)),(8,di k)]) bd:=by
 induction n using Nat.strongRecOn with
 |_ n ih=>
 intro k hn
 refine lv 19 [] (.b (.e fun x:cy=>.x (vT x)<|.c (db (p x))<|.b .r (.l (qq k))) .r) ((Y ((k:Int)<(I l:Int))=J->∃a,0<=(k:Int)/\(U eT l)[Z (k:Int)]?=G (vT a)/\Aa PP F (U bt (fs++[vT a]++cs)) dh (db (p a)) dh/\(p a=J->di (k:Int)=di (d6 p (W k l) k))/\(p a=O->di (yu yt ((k:Int)+1))=di (↑(k+1):Int)/\Nv.It (AB (CN 0) PP (fun env σ1=>Az PP q7 env σ1 (di (d6 p (W k l) k)) bd) [kl o4 [1,0,1,0,0],bh 0,kc o4 [1,1]] (ba 19 [(0,bt (ai (U eT l))),(1,bt (bw F fs cs)),(7,di (I l:Int)),(8,di (↑(k+1):Int))]) bd)))/\(Y ((k:Int)<(I l:Int))=O->di (-1)=di (d6 p (W k l) k))) ⟨fun h=>?_,fun h=>?_⟩
 ·have hk:k<I l:=by simpa using h
  have hx:l[k]?=G l[k]:=HA hk
  rw[HP hk]
  generalize l[k]=x at hx⊢
  refine⟨x,by omega,OD hx,hp x (HG hx),fun hf=>by simp[d6,hf],fun hf=>⟨Ae,⟨?_⟩⟩⟩
  simp only[d6,hf]
  exact ih (I l- (k+1)) (by omega) (k+1) rfl
 ·have hk:I l<=k:=by simpa using h
  rw[HU hk];rfl
theorem AcM(F:yx)(fs cs:List V)(p:cy->Bool)(l:List (cy))(hl:I l<=1000000)(hp:∀x∈l,F0 F ((fs++[vT x]++cs).map .v) (db (p x))):
  F0 252 [dl (l.map eT),.v (.fn F fs cs)] (di (d6 p l 0)):=by
 refine sv q7 19 [] (.l [ke 0,ke 1,ch 7 (di (I l)),ch 8 (di (0:Nat))]) (di (I (U eT l):Int)=di (I l:Int)/\Q (di 0)/\I0 q7 (I bd.H) (di (d6 p l 0)) bd [kl o4 [1,0,1,0,0],bh 0,kc o4 [1,1]] (ba 19 [(0,dl (U eT l)),(1,bt (bw F fs cs)),(7,di (I l:Int)),(8,di (↑0:Int))]) bd) ⟨by simp,rfl,⟨?_⟩⟩
 exact AcN F fs cs p l hl hp _ 0 rfl
noncomputable abbrev AkF:=Tryz.f233
theorem LZ(F:yx)(fs cs:List V)(p:cy->Bool)(l:List (cy))(hl:I l<=1000000)(hp:∀x∈l,F0 F ((fs++[vT x]++cs).map .v) (db (p x))):
  F0 233 [dl (l.map eT),.v (.fn F fs cs)] (db (l.any p)):=by
 exact sv AkF 9 [] (.c (di (d6 p l 0)) .r) (_/\db (Y (d6 p l 0>=0))=db (List.any l p)) ⟨AcM F fs cs p l hl hp,by rw[←GP]⟩
noncomputable abbrev AlI:=Tryz.f250
noncomputable abbrev Ak0:=Tryz.f259
noncomputable abbrev Ak4:=Tryz.f232
def UJ(x:Int):Bool:=Y (x<0)||Y (x>=6)
theorem AbW(x:Int):F0 259 [di x] (db (UJ x)):=by
 refine sv Ak0 9 [] (.b .r .r) ((Y (x<0)=J->db J=db (UJ x))/\(Y (x<0)=O->db (Y (x>=6))=db (UJ x))) ?_
 refine⟨fun h=>?_,fun h=>?_⟩<;>simp[UJ, *]
def CM(r:List Int):Bool:=Y ((I r:Int)>=1)&&(Y ((I r:Int)<=6)&& !(r.any UJ))
theorem AbV(r:List Int):F0 250 [cw r] (db (CM r)):=by
 refine sv AlI 16 [] (.b (.b (.c (db (r.any UJ)) .r) .r) .r) ((Y ((I (U vi r):Int)>=1)=J->(Y ((I (U vi r):Int)<=6)=J->F0 107 [cw r,bt (bw 259 [] [])] (db (List.any r UJ))/\(db !List.any r UJ)=db (CM r))/\(Y ((I (U vi r):Int)<=6)=O->db O=db (CM r)))/\(Y ((I (U vi r):Int)>=1)=O->db O=db (CM r))) ?_
 refine⟨fun h1=>⟨fun h2=>⟨Ez _ [] [] UJ r (by have h2:=HL h2;rw[H9] at h2;omega) fun x _=>AbW x,?_⟩,fun h2=>?_⟩,fun h1=>?_⟩<;>(try simp only[H9] at*)<;>simp only[CM,h1,Ij,Ih]<;>simp only[h2,Ij,Ih]
theorem Aca(r:List Int)(h:CM r=J):F0 232 [cw r,dl []] (db J):=by
 refine sv Ak4 18 [2] (.c (db (CM r))<|.t<|.k<|.c (db O) .r) (F0 250 [cw r] (db (CM r))/\CM r=J/\F0 107 [bt (ai []),bt (bw 251 [] [bz (cz r)])] (db O)/\(db !false)=db J) ?_
 exact⟨AbV r,h,Ez _ [] [_] (fun _=>false) [] (by simp) (fun x hx=>by simp at hx),rfl⟩
noncomputable abbrev nh:=Tryz.f198
noncomputable abbrev AlH:=Tryz.f234
def CB:Nat->cy->Bool
 |0,_=>false
 |d+1,.nat=>true
 |d+1,.lab n=>Y (n>=1)&&Y (n<=16)
 |d+1,.prio n r=>(n==I r)&&CM r
 |d+1,.word t=>CB d t
 |d+1,.bag t=>CB d t
 |d+1,.prod l=> !((I l:Int)==0)&&(!decide ((I l:Int)>8)&&l.all (CB d))
theorem Hz(t:cy)(d:Nat)(hd:d<=100)(h:F0 198 [dT t,di d] (db J)):F0 234 [dT t,.v (.ref (vi ((d+1:Nat):Int)))] (db O):=by
 refine sv AlH 9 [2] (.c (db J) .r) (F0 198 [bt (vT t),di (yu yt ((↑(d+1):Int)-1))] (db J)/\Q (db O)) ⟨?_,rfl⟩
 rw[show yt.wrap (((d+1:Nat):Int)-1)=d by rw[Al];omega]
 exact h
theorem XF(d:Nat):F0 198 [dT .nat,di ((d+1:Nat):Int)] (db J):=by
 have hz:(((d+1:Nat):Int)==0)=O:=Ip.2 (by omega)
 exact sv nh 94 [2,3] (.f .r) (_/\Q (db J)) ⟨hz,rfl⟩
theorem XG(d:Nat)(n:Int)(h1:1<=n)(h2:n<=16):F0 198 [dT (.lab n),di ((d+1:Nat):Int)] (db J):=by
 have hz:(((d+1:Nat):Int)==0)=O:=Ip.2 (by omega)
 exact sv nh 94 [2,3] (.f<|.k<|.k<|.k<|.k<|.k<|.k<|.t .r) (_/\Y (cy.sz (cy.lab n)>=1)=J/\db (Y (cy.sz (cy.lab n)<=16))=db J) ⟨hz,HC h1,HX db (HC h2)⟩
theorem UM(d:Nat)(n:Int)(r:List Int)(h1:n=I r)(h2:CM r=J):F0 198 [dT (.prio n r),di ((d+1:Nat):Int)] (db J):=by
 have hz:(((d+1:Nat):Int)==0)=O:=Ip.2 (by omega)
 have h3:=h2
 simp only[CM,HB,HK] at h3
 refine sv nh 94 [2,3] (.f<|.t<|.k<|.k<|.k<|.k<|.k<|.k<|.t<|.c (db J) .r) (_/\Y ((I (U vi (cy.rk (cy.prio n r))):Int)>0)=J/\(cy.sz (cy.prio n r)==(I (U vi (cy.rk (cy.prio n r))):Int))=J/\_/\Q (db J)) ⟨hz,HC ?_,?_,Aca r h2,rfl⟩
 ·simp only[cy.rk,H9];omega
 ·simp only[cy.sz,cy.rk,H9,h1,beq_self_eq_true]
theorem UK(d:Nat)(t:cy)(hd:d<=100)(h:F0 198 [dT t,di d] (db J)):F0 198 [dT (.word t),di ((d+1:Nat):Int)] (db J):=by
 have hz:(((d+1:Nat):Int)==0)=O:=Ip.2 (by omega)
 exact sv nh 94 [2,3] (.f<|.c (db O) .r) (_/\_/\Q (db J)) ⟨hz,LZ _ [] [_] (fun _=>false) [t] (by simp) (fun x hx=>by rw[HQ.1 hx];exact Hz t d hd h),rfl⟩
theorem XH(d:Nat)(t:cy)(hd:d<=100)(h:F0 198 [dT t,di d] (db J)):F0 198 [dT (.bag t),di ((d+1:Nat):Int)] (db J):=by
 have hz:(((d+1:Nat):Int)==0)=O:=Ip.2 (by omega)
 exact sv nh 94 [2,3] (.f<|.c (db O) .r) (_/\_/\Q (db J)) ⟨hz,LZ _ [] [_] (fun _=>false) [t] (by simp) (fun x hx=>by rw[HQ.1 hx];exact Hz t d hd h),rfl⟩
theorem UL(d:Nat)(l:List cy)(hd:d<=100)(h1:((I l:Int)==0)=O)(h2:Y ((I l:Int)>8)=O)(h:∀t∈l,F0 198 [dT t,di d] (db J)):F0 198 [dT (.prod l),di ((d+1:Nat):Int)] (db J):=by
 have hz:(((d+1:Nat):Int)==0)=O:=Ip.2 (by omega)
 refine sv nh 94 [2,3] (.f<|.k<|.k<|.k<|.k<|.k<|.k<|.k<|.k<|.f<|.f<|.c (db O) .r) (_/\((I (io l):Int)==0)=O/\Y ((I (io l):Int)>8)=O/\F0 233 [bt (ai (io l)),bt (bw 234 [] [bz (vi (↑(d+1):Int))])] (db O)/\Q (db J)) ⟨hz,by simpa[cy.ps] using h1,by simpa[cy.ps] using h2,?_,rfl⟩
 have h3:¬((I l:Int)>8):=Iu h2
 have:=LZ 234 [] [.ref (vi ((d+1:Nat):Int))] (fun _=>false) l (by omega) (fun x hx=>Hz x d hd (h x hx))
 rw[show l.any (fun _=>false)=O by induction l<;>simp_all] at this
 exact this
theorem GE:∀(d:Nat) (t:cy),d<=100->CB d t=J->F0 198 [dT t,di d] (db J)
 |0,t,_,h=>by simp[CB] at h
 |d+1,.nat,_,h=>XF d
 |d+1,.lab n,_,h=>by
  simp only[CB,HB,HK] at h
  exact XG d n h.1 h.2
 |d+1,.prio n r,_,h=>by
  simp only[CB,HB,Il] at h
  exact UM d n r h.1 h.2
 |d+1,.word t,hd,h=>UK d t (by omega) (GE d t (by omega) (by simpa only[CB] using h))
 |d+1,.bag t,hd,h=>XH d t (by omega) (GE d t (by omega) (by simpa only[CB] using h))
 |d+1,.prod l,hd,h=>by
  simp only[CB,HB,I2,Iw] at h
  exact UL d l (by omega) h.1 h.2.1 fun t ht=>GE d t (by omega) (h.2.2 t ht)
noncomputable abbrev Ak9:=Tryz.f169
theorem YH(t:cy)(h:CB 8 t=J):F0 169 [dT t] (di 0):=by
 exact sv Ak9 6 [1] (.c (db J) .r) (_/\Q (di 0)) ⟨GE 8 t (by omega) h,rfl⟩
noncomputable abbrev qc:=Tryz.f199
noncomputable def o9:=yl qc
noncomputable abbrev jy:=fun a₀=>(bc.size a₀)
theorem Ad3(N:Nat):∀v:bc,v.size<=N->∀m:Int,0<=m->m<=1000->F0 199 [dV v,di m] (di (min (v.size:Int) (m+1))):=by
 induction N with
 |zero=>intro v hv;have:=v.size_pos;omega
 |succ N ihN=>
  intro v hv m hm0 hm1
  have hsz:=v.size_eq
  have loop (n:Nat):∀(k:Nat) (a:Int),I v.az-k=n->k+1<=a->a<=m+1->
    Rn PP qc 0 (di (min (a+(bc.sizes (v.az.drop k):Int)) (m+1))) bd ([kl o9 [1,1,0,1,0,0],.blk 0,kc o9 [1,1,1]]++[]) (ba 27 [(1,di m),(5,di a),(9,cx v.az),(10,di (I v.az)),(11,di k)]) bd:=by
   induction n using Nat.strongRecOn with
   |_ n ih=>
   intro k a hn ha0 ha1
   refine lv 27 [2] (.b (.e fun x:bc=>.x (Ac x)<|.b .r<|.c (di (min (x.size:Int) (m-a+1)))<|.ls [ke 1,ch 5 (di (min (a+(x.size:Int)) (m+1))),ke 9,ke 10,ch 11 (di (k+1:Nat))] bd) .r) ((Y ((k:Int)<(I v.az:Int))=J->∃a_2,0<=(k:Int)/\(cc v.az)[Z (k:Int)]?=G (Ac a_2)/\(Y (a>m)=J->di a=di (min (a+(↑(bc.sizes (W k v.az)):Int)) (m+1)))/\(Y (a>m)=O->Aa PP 199 [dV a_2,di (yu yt (m-a))] dh (di (min (↑(jy a_2):Int) (m-a+1))) dh/\di (yu yt (a+min (↑(jy a_2):Int) (m-a+1)))=di (min (a+(↑(jy a_2):Int)) (m+1))/\di (yu yt ((k:Int)+1))=di (↑(k+1):Int)/\Nv.It (AB (CN 0) PP (fun env σ1=>Az PP qc env σ1 (di (min (a+(↑(bc.sizes (W k v.az)):Int)) (m+1))) bd) [kl o9 d5,bh 0,kc o9 [1,1,1]] (ba 27 [(1,di m),(5,di (min (a+(↑(jy a_2):Int)) (m+1))),(9,cx v.az),(10,di (I v.az:Int)),(11,di (↑(k+1):Int))]) bd)))/\(Y ((k:Int)<(I v.az:Int))=O->di a=di (min (a+(↑(bc.sizes (W k v.az)):Int)) (m+1)))) ⟨fun h=>?_,fun h=>?_⟩
   ·have hk:k<I v.az:=by simpa using h
    have hx:v.az[k]?=G v.az[k]:=HA hk
    rw[HP hk]
    generalize v.az[k]=x at hx⊢
    have hxs:=bc.size_mem (HG hx)
    have hx1:=x.size_pos
    simp only[bc.sizes]
    refine⟨x,by omega,An hx,fun h1=>?_,fun h1=>⟨?_,?_,Ae,⟨?_⟩⟩⟩
    ·have h1:=HL h1
     rw[I9];split<;>congr 1<;>omega
    ·rw[Al]
     have h1:=Iu h1
     exact ihN x (by omega) (m-a) (by omega) (by omega)
    ·have h1:=Iu h1
     rw[Al (by rw[I9];split<;>omega) (by rw[I9];split<;>omega)]
     simp only[I9];congr 1;split<;>split<;>omega
    ·have h1:=Iu h1
     have:=ih (I v.az- (k+1)) (by omega) (k+1) (min (a+(x.size:Int)) (m+1)) rfl (by rw[I9];split<;>omega) (by rw[I9];split<;>omega)
     rw[show min (min (a+(x.size:Int)) (m+1)+(bc.sizes (v.az.drop (k+1)):Int)) (m+1)=min (a+((x.size+bc.sizes (v.az.drop (k+1)):Nat):Int)) (m+1) by simp only[I9];(repeat' split)<;>omega] at this
     exact this
   ·have hk:I v.az<=k:=by simpa using h
    rw[HU hk]
    simp only[bc.sizes];rw[I9];split<;>congr 1<;>omega
  refine sv qc 27 [2] (.l [ke 1,ch 5 (di 1),ke 9,ch 10 (di (I v.az)),ch 11 (di (0:Nat))]) (Q (di 1)/\di (I (cc v.az):Int)=di (I v.az:Int)/\Q (di 0)/\I0 qc (I bd.H) (di (min (↑(jy v):Int) (m+1))) bd [kl o9 d5,bh 0,kc o9 [1,1,1]] (ba 27 [(1,di m),(5,di 1),(9,cx v.az),(10,di (I v.az:Int)),(11,di (↑0:Int))]) bd) ⟨rfl,by rw[H9],rfl,⟨?_⟩⟩
  have:=loop _ 0 1 rfl (by omega) (by omega)
  rw[Jk,show(1:Int)+(bc.sizes v.az:Int)=v.size by omega] at this
  exact this
noncomputable abbrev AiB:=Tryz.f170
theorem US(v:bc):F0 170 [dV v] (di (min (v.size:Int) 129)):=by
 exact sv AiB 6 [1] (.c (di (min (v.size:Int) 129)) .r) (_/\di (if 129<min (↑(jy v):Int) 129 then 129 else min (↑(jy v):Int) 129)=di (min (↑(jy v):Int) 129)) ⟨Ad3 _ v (HH _) 128 (by decide) (by decide),by rw[HR (by rw[I9];split<;>omega)]⟩
noncomputable abbrev Ak8:=Tryz.f122
def Ah(t:cy)(v:bc):Bool:=Y ((v.size:Int)<=128)&&Ar t v
theorem KV(t:cy)(h:CB 8 t=J)(v:bc):F0 122 [dT t,dV v] (db (Ah t v)):=by
 refine sv Ak8 18 [2,3] (.c (di 0)<|.c (di (min (v.size:Int) 129))<|.b (.c (db (Ar t v)) .r) .r) (_/\_/\(Y (min (↑(bc.size v):Int) 129<=128)=J->F0 171 [bt (vT t),dV v] (db (Ar t v))/\db (Ar t v)=db (Ah t v))/\(Y (min (↑(bc.size v):Int) 129<=128)=O->db O=db (Ah t v))) ⟨YH t h,US v,fun h1=>?_,fun h1=>?_⟩
 ·have h1:=HL h1
  have h2:(v.size:Int)<=128:=by rw[I9] at h1;split at h1<;>omega
  exact⟨Acz _ t (HH _) v (by omega),by rw[Ah,HC h2,Ij]⟩
 ·have h1:=Iu h1
  rw[Ah,HE (show ¬(v.size:Int)<=128 by rw[I9] at h1;split at h1<;>omega),Ih]
noncomputable abbrev r6:=Tryz.f106
structure m9 where
 pl:Int
 ph:Int
 ll:Int
 lh:Int
 vl:Int
 vh:Int
 al:Int
 ah:Int
abbrev ZB(l:m9):D:=.v (.agg [vi l.pl,vi l.ph,vi l.ll,vi l.lh,vi l.vl,vi l.vh,vi l.al,vi l.ah])
abbrev wa:m9:=⟨1,6,0,0,0,0,0,0⟩
abbrev qf:m9:=⟨1,2,1,6,0,0,0,0⟩
abbrev t6:m9:=⟨1,6,0,0,0,0,0,3⟩
theorem AlB:F0 106 [di 1] (ZB wa):=by
 refine sv r6 29 [] .r (bt (ab [vi 1,vi 6,vi 0,vi 0,vi 0,vi 0,vi 0,vi 0])=ZB wa) ?_
 rfl
theorem AlA:F0 106 [di 2] (ZB qf):=by
 refine sv r6 29 [] .r (bt (ab [vi 1,vi 2,vi 1,vi 6,vi 0,vi 0,vi 0,vi 0])=ZB qf) ?_
 rfl
theorem Al9:F0 106 [di 3] (ZB qf):=by
 refine sv r6 29 [] .r (bt (ab [vi 1,vi 2,vi 1,vi 6,vi 0,vi 0,vi 0,vi 0])=ZB qf) ?_
 rfl
theorem Al8:F0 106 [di 5] (ZB t6):=by
 refine sv r6 29 [] .r (bt (ab [vi 1,vi 6,vi 0,vi 0,vi 0,vi 0,vi 0,vi 3])=ZB t6) ?_
 rfl
noncomputable abbrev Ai0:=Tryz.f69
def CE(l:m9)(m:b9):Bool:=Ay (I m.aw) 1 8&&(Y ((I m.av:Int)<=12)&&(Ay (I m.ay) l.pl l.ph&&(Ay (I m.ax) l.ll l.lh&&(Ay m.ao l.vl l.vh&&Ay m.age l.al l.ah))))
theorem MG(l:m9)(m:b9)(h:F0 106 [di m.kind] (ZB l)):F0 69 [Af m] (db (CE l m)):=by
 refine sv Ai0 63 [1] (.c (ZB l)<|.c (db (Ay (I m.aw) 1 8))<|.b (.b (.c (db (Ay (I m.ay) l.pl l.ph))<|.b (.c (db (Ay (I m.ax) l.ll l.lh))<|.b (.c (db (Ay m.ao l.vl l.vh))<|.b (.c (db (Ay m.age l.al l.ah)) .r) .r) .r) .r) .r) .r) (F0 106 [di m.kind] (ZB l)/\F0 68 [di (I (dm m.aw):Int),di 1,di 8] (db (Ay (I m.aw:Int) 1 8))/\(Ay (I m.aw:Int) 1 8=J->(Y ((I (U Ai m.av):Int)<=12)=J->iz 0<=0/\0<(↑2:Int)/\iz 0<=1/\1<(↑2:Int)/\F0 68 [di (I (dm m.ay):Int),di l.pl,di l.ph] (db (Ay (I m.ay:Int) l.pl l.ph))/\(Ay (I m.ay:Int) l.pl l.ph=J->iz 0<=0/\0<(↑2:Int)/\iz 0<=1/\1<(↑2:Int)/\F0 68 [di (I (dm m.ax):Int),di l.ll,di l.lh] (db (Ay (I m.ax:Int) l.ll l.lh))/\(Ay (I m.ax:Int) l.ll l.lh=J->iz 0<=0/\0<(↑2:Int)/\iz 0<=1/\1<(↑2:Int)/\F0 68 [di m.ao,di l.vl,di l.vh] (db (Ay m.ao l.vl l.vh))/\(Ay m.ao l.vl l.vh=J->iz 0<=0/\0<(↑2:Int)/\iz 0<=1/\1<(↑2:Int)/\F0 68 [di m.age,di l.al,di l.ah] (db (Ay m.age l.al l.ah))/\db (Ay m.age l.al l.ah)=db (CE l m))/\(Ay m.ao l.vl l.vh=O->db O=db (CE l m)))/\(Ay (I m.ax:Int) l.ll l.lh=O->db O=db (CE l m)))/\(Ay (I m.ay:Int) l.pl l.ph=O->db O=db (CE l m)))/\(Y ((I (U Ai m.av):Int)<=12)=O->db O=db (CE l m)))/\(Ay (I m.aw:Int) 1 8=O->db O=db (CE l m))) ?_
 repeat' first|with_reducible refine And.intro ?_ ?_|intro _
 all_goals first|exact h|exact DN _ _ _|(simp only[H9];exact DN _ _ _)|decide|(simp_all [CE];done)|(simp_all [CE]<;>(intro h1<;>exfalso;omega))
noncomputable abbrev AfP:=Tryz.f70
noncomputable abbrev Adg:=Tryz.f108
theorem P6(x:Int):F0 108 [di x] (db (!Ay x 0 5)):=by
 exact sv Adg 6 [] (.c (db (Ay x 0 5)) .r) (_/\Q (db !Ay x 0 5)) ⟨DN x 0 5,rfl⟩
def BV(m:b9):Bool:=if (m.kind !=3)=J then(I m.au:Int)==0 else((I m.au:Int)==I m.ax)&&m.au.all fun x=>Ay x 0 5
theorem LE(m:b9)(hm:I m.au<=1000000):F0 70 [Af m] (db (BV m)):=by
 refine sv AfP 23 [1] (.b .r (.b (.c (db (m.au.any fun x=> !Ay x 0 5)) .r) .r)) (((m.kind !=3)=J->db ((I (U vi m.au):Int)==0)=db (BV m))/\((m.kind !=3)=O->(((I (U vi m.au):Int)==(I (dm m.ax):Int))=J->F0 107 [cw m.au,bt (bw 108 [] [])] (db (List.any m.au fun x=> !Ay x 0 5))/\(db !List.any m.au fun x=> !Ay x 0 5)=db (BV m))/\(((I (U vi m.au):Int)==(I (dm m.ax):Int))=O->db O=db (BV m)))) ⟨fun h1=>?_,fun h1=>⟨fun h2=>⟨Ez _ [] [] _ m.au hm fun x _=>P6 x,?_⟩,fun h2=>?_⟩⟩
 ·simp only[BV,h1,IJ,H9]
 ·rw[RP];simp only[H9] at h2;simp[BV,h1,h2]
 ·simp only[H9] at h2;simp[BV,h1,h2]
noncomputable abbrev AfQ:=Tryz.f172
theorem EE(n:Int):F0 172 [di n] (dT (.lab n)):=by
 refine sv AfQ 5 [] .r (bt (ab [vi 2,vi n,ai [],ai []])=dT (cy.lab n)) ?_
 rfl
noncomputable abbrev Ae1:=Tryz.f174
theorem Vq(t:cy):F0 174 [di 4,dT t] (dT (.word t)):=by
 refine sv Ae1 9 [3] .r (bt (ab [vi 4,vi 0,ai [],ai [vT t]])=dT (cy.word t)) ?_
 rw[dT,NT];rfl
theorem YP(t:cy):F0 174 [di 5,dT t] (dT (.bag t)):=by
 refine sv Ae1 9 [3] .r (bt (ab [vi 5,vi 0,ai [],ai [vT t]])=dT (cy.bag t)) ?_
 rw[dT,Sg];rfl
noncomputable abbrev FW:=Tryz.f123
noncomputable def Ee:=yl FW
abbrev Hp(l:List cy):D:=.acc 1 (l.map eT)
abbrev Yn(l:List cy):St:=⟨[G [di 0,di 0,.v .nils,.v .nils]],[(1,4,l.map eT)]⟩
theorem Cr(l:List cy)(t:cy):l.map eT++[vT t]=(l++[t]).map eT:=by rw[←V7];simp
def Cl(m:b9):cy:=if m.kind=1 then .nat else if m.kind=2 then .word (.lab (I m.ax)) else .prio (I m.ax) m.au
def AF(m:b9):cy:=.prod (.lab (I m.aw)::replicate (I m.ay) (Cl m))
noncomputable abbrev qo:=fun a₀=>(ab [vi 3,vi 0,ai [],ai (U eT a₀)])
noncomputable abbrev ve:=(vi 1::vi 0::ai nV::ai nV::nV)
theorem Ra(m:b9)(hm:I m.ay<=1000)(hk:m.kind=1)(n:Nat):∀(k:Nat) (xs:List cy),I m.ay-k=n->k<=I m.ay->I xs<=k+1->
  Rn PP FW 0 (dT (.prod (xs++replicate n (.nat)))) bd ([kl Ee [1,1,0,1,0,1,1,1,1,1,0,0],.blk 1,.blk 0,kc Ee [1,1,1]]++[]) (ba 70 [(1,.v (.ref (A1 m))),(2,.ptr 0 0),(3,Hp xs),(14,di (I m.ay)),(15,di k)]) (Yn xs):=by
 induction n with
 |zero=>
  intro k xs hn hk0 hxs
  refine lv 70 [1] (.f .r) (Y ((k:Int)<(I m.ay:Int))=O/\bt (qo xs)=dT (cy.prod (xs++replicate 0 cy.nat))) ⟨yq,?_⟩
  rw[List.replicate_zero,Iz];rfl
 |succ n ih=>
  intro k xs hn hk0 hxs
  have h:=ih (k+1) (xs++[.nat]) (by omega) (by omega) (by simp only[HO,HF,HJ];omega)
  rw[IG] at h
  refine lv 70 [1] (.t<|.f<|.f<|.ls [ke 1,ke 2,ch 3 (Hp (xs++[.nat])),ke 14,ch 15 (di (k+1:Nat))] (Yn (xs++[.nat]))) (Y ((k:Int)<(I m.ay:Int))=J/\(m.kind==2)=O/\(m.kind==3)=O/\Q (U eT xs)/\Ao (I (U eT xs)+I (ab (aa yt 1::aa yt 0::ai nV::ai nV::nV)::nV)) 64/\br 1 (U eT xs++[ab [vi 1,vi 0,ai [],ai []]])=Hp (xs++[cy.nat])/\di (yu yt ((k:Int)+1))=di (↑(k+1):Int)/\Q (Yn (xs++[.nat])).H/\[(1,4,U eT xs++ab ve::nV)]=[(1,4,U eT (xs++[cy.nat]))]/\_) ⟨yr,by rw[hk];rfl,by rw[hk];rfl,rfl,⟨?_,?_⟩,?_,Ae,rfl,?_,iK h⟩
  ·simp only[H9,HF,HJ];omega
  ·simp only[H9,HF,HJ];omega
  ·rw[Hp, ←Cr];rfl
  ·rw[←Cr];rfl
noncomputable abbrev An7:=fun a₀=>F0 172 [di (I (dm a₀):Int)] (dT (cy.lab (I a₀:Int)))
noncomputable abbrev i7:=(2,bq 0 0)
noncomputable abbrev k6:=[di 0,di 0,dn,dn]
theorem QZ(m:b9)(hm:I m.ay<=1000)(hk:m.kind=2)(n:Nat):∀(k:Nat) (xs:List cy),I m.ay-k=n->k<=I m.ay->I xs<=k+1->
  Rn PP FW 0 (dT (.prod (xs++replicate n (.word (.lab (I m.ax)))))) bd ([kl Ee [1,1,0,1,0,1,1,1,1,1,0,0],.blk 1,.blk 0,kc Ee [1,1,1]]++[]) (ba 70 [(1,.v (.ref (A1 m))),(2,.ptr 0 0),(3,Hp xs),(14,di (I m.ay)),(15,di k)]) (Yn xs):=by
 induction n with
 |zero=>
  intro k xs hn hk0 hxs
  refine lv 70 [1] (.f .r) (Y ((k:Int)<(I m.ay:Int))=O/\bt (ab [vi 3,vi 0,ai [],ai (U eT xs)])=dT (cy.prod (xs++replicate 0 (cy.word (cy.lab (I m.ax:Int)))))) ⟨yq,?_⟩
  rw[List.replicate_zero,Iz];rfl
 |succ n ih=>
  intro k xs hn hk0 hxs
  refine lv 70 [1] (.t<|.t<|.c (dT (.lab (I m.ax)))<|.c (dT (.word (.lab (I m.ax))))<|.ls [ke 1,ke 2,ch 3 (Hp (xs++[.word (.lab (I m.ax))])),ke 14,ch 15 (di (k+1:Nat))] (Yn (xs++[.word (.lab (I m.ax))]))) (Y ((k:Int)<(I m.ay:Int))=J/\(m.kind==2)=J/\F0 172 [di (I (U ae m.ax):Int)] (dT (cy.lab (I m.ax:Int)))/\F0 174 [di 4,bt (vT (cy.lab (I m.ax:Int)))] (dT (cy.word (cy.lab (I m.ax:Int))))/\Q (U eT xs)/\Ao (I (U eT xs)+I (ab (vi (cy.kd (cy.word (cy.lab (I m.ax:Int))))::vi (cy.sz (cy.word (cy.lab (I m.ax:Int))))::cz (cy.rk (cy.word (cy.lab (I m.ax:Int))))::ai (U eT (cy.ps (cy.word (cy.lab (I m.ax:Int)))))::nV)::nV)) 64/\br 1 (U eT xs++[ab [vi (cy.kd (cy.word (cy.lab (I m.ax:Int)))),vi (cy.sz (cy.word (cy.lab (I m.ax:Int)))),cz (cy.rk (cy.word (cy.lab (I m.ax:Int)))),ai [eT (cy.lab (I m.ax:Int))]]])=Hp (xs++[cy.word (cy.lab (I m.ax:Int))])/\di (yu yt ((k:Int)+1))=di (↑(k+1):Int)/\Q [G [di 0,di 0,dn,dn]]/\[(1,4,U eT xs++ab (vi (cy.kd (cy.word (cy.lab (I m.ax:Int))))::vi (cy.sz (cy.word (cy.lab (I m.ax:Int))))::cz (cy.rk (cy.word (cy.lab (I m.ax:Int))))::ai (eT (cy.lab (I m.ax:Int))::nV)::nV)::nV)]=[(1,4,U eT (xs++[cy.word (cy.lab (I m.ax:Int))]))]/\I0 FW 0 (dT (cy.prod (xs++replicate (n+1) (cy.word (cy.lab (I m.ax:Int)))))) bd [kl Ee [1,1,0,1,0,1,1,1,1,1,0,0],bh 1,bh 0,kc Ee [1,1,1]] (ba 70 [(1,bt (bz (A1 m))),(2,bq 0 0),(3,Hp (xs++[cy.word (cy.lab (I m.ax:Int))])),(14,di (I m.ay:Int)),(15,di (↑(k+1):Int))]) (Yn (xs++[cy.word (cy.lab (I m.ax:Int))]))) ?_
  have h:=ih (k+1) (xs++[.word (.lab (I m.ax))]) (by omega) (by omega) (by simp only[HO,HF,HJ];omega)
  rw[IG] at h
  refine⟨yr,by rw[hk];rfl,by rw[H9];exact EE _,Vq _,rfl,⟨?_,?_⟩,?_,Ae,rfl,?_,⟨h⟩⟩
  ·simp only[H9,HF,HJ];omega
  ·simp only[H9,HF,HJ];omega
  ·rw[Hp, ←Cr];rfl
  ·rw[←Cr];rfl
theorem QY(m:b9)(hm:I m.ay<=1000)(hr:I m.au<=1000000)(hk:m.kind=3)(n:Nat):∀(k:Nat) (xs:List cy),I m.ay-k=n->k<=I m.ay->I xs<=k+1->
  Rn PP FW 0 (dT (.prod (xs++replicate n (.prio (I m.ax) m.au)))) bd ([kl Ee [1,1,0,1,0,1,1,1,1,1,0,0],.blk 1,.blk 0,kc Ee [1,1,1]]++[]) (ba 70 [(1,.v (.ref (A1 m))),(2,.ptr 0 0),(3,Hp xs),(14,di (I m.ay)),(15,di k)]) (Yn xs):=by
 induction n with
 |zero=>
  intro k xs hn hk0 hxs
  refine lv 70 [1] (.f .r) (Y ((k:Int)<(I m.ay:Int))=O/\bt (qo xs)=dT (cy.prod (xs++replicate 0 (cy.prio (I m.ax:Int) m.au)))) ⟨yq,?_⟩
  rw[List.replicate_zero,Iz];rfl
 |succ n ih=>
  intro k xs hn hk0 hxs
  have h:=ih (k+1) (xs++[.prio (I m.ax) m.au]) (by omega) (by omega) (by simp only[HO,HF,HJ];omega)
  rw[IG] at h
  refine lv 70 [1] (.t<|.f<|.t<|.c (cw m.au)<|.ls [ke 1,ke 2,ch 3 (Hp (xs++[.prio (I m.ax) m.au])),ke 14,ch 15 (di (k+1:Nat))] (Yn (xs++[.prio (I m.ax) m.au]))) (Y ((k:Int)<(I m.ay:Int))=J/\(m.kind==2)=O/\(m.kind==3)=J/\_/\Q (U eT xs)/\Ao (I (U eT xs)+I (ab (aa yt 7::aa yt (I (dm m.ax):Int)::cz m.au::ai nV::nV)::nV)) 64/\br 1 (U eT xs++[ab [vi 7,vi (I (dm m.ax):Int),cz m.au,ai []]])=Hp (xs++[cy.prio (I m.ax:Int) m.au])/\di (yu yt ((k:Int)+1))=di (↑(k+1):Int)/\Q [G k6]/\[(1,4,U eT xs++ab (vi 7::vi (I (dm m.ax):Int)::cz m.au::ai nV::nV)::nV)]=[(1,4,U eT (xs++[cy.prio (I m.ax:Int) m.au]))]/\_) ⟨yr,by rw[hk];rfl,by rw[hk];rfl,ZY m.au hr,rfl,⟨?_,?_⟩,?_,Ae,rfl,?_,iK h⟩
  ·simp only[H9,HF,HJ];omega
  ·simp only[H9,HF,HJ];omega
  ·rw[Hp, ←Cr];rw[H9];rfl
  ·rw[←Cr];rw[H9];rfl
theorem MA(m:b9)(hm:I m.ay<=1000)(hr:I m.au<=1000000)(hk:m.kind=1∨m.kind=2∨m.kind=3):F0 123 [Af m] (dT (AF m)):=by
 refine sv FW 70 [1] (.c (dT (.lab (I m.aw)))<|.a 1<|.f<|.f<|.ls [ke 1,ke 2,ch 3 (Hp [.lab (I m.aw)]),ch 14 (di (I m.ay)),ch 15 (di (0:Nat))] (Yn [.lab (I m.aw)])) (F0 172 [di (I (U ae m.aw):Int)] (dT (cy.lab (I m.aw:Int)))/\(m.kind==4)=O/\(m.kind==5)=O/\br 1 [vT (cy.lab (I m.aw:Int))]=Hp [cy.lab (I m.aw:Int)]/\di (I (U ae m.ay):Int)=di (I m.ay:Int)/\Q (di 0)/\Q [G [di 0,di 0,dn,dn]]/\Q [(1,4,vT (cy.lab (I m.aw:Int))::nV)]/\I0 FW (I bd.H) (dT (AF m)) bd [kl Ee [1,1,0,1,0,1,1,1,1,1,0,0],bh 1,bh 0,kc Ee [1,1,1]] (ba 70 [(1,bt (bz (A1 m))),(2,bq 0 0),(3,Hp [cy.lab (I m.aw:Int)]),(14,di (I m.ay:Int)),(15,di (↑0:Int))]) (Yn [cy.lab (I m.aw:Int)])) ⟨by rw[H9];exact EE _,by rcases hk with h|h|h<;>rw[h]<;>rfl,by rcases hk with h|h|h<;>rw[h]<;>rfl,rfl,by rw[H9],rfl,rfl,rfl,⟨?_⟩⟩
 rcases hk with h|h|h
 ·have:=Ra m hm h _ 0 [.lab (I m.aw)] rfl (by omega) (by simp)
  rw[Nat.sub_zero] at this
  rw[AF,show Cl m=.nat by simp[Cl,h]]
  exact this
 ·have:=QZ m hm h _ 0 [.lab (I m.aw)] rfl (by omega) (by simp)
  rw[Nat.sub_zero] at this
  rw[AF,show Cl m=.word (.lab (I m.ax)) by simp[Cl,h]]
  exact this
 ·have:=QY m hm hr h _ 0 [.lab (I m.aw)] rfl (by omega) (by simp)
  rw[Nat.sub_zero] at this
  rw[AF,show Cl m=.prio (I m.ax) m.au by simp[Cl,h]]
  exact this
noncomputable abbrev q8:=Tryz.f112
noncomputable def o5:=yl q8
theorem AcP(F:yx)(fs cs:List V)(p:cp->Bool)(l:List (cp))(hl:I l<=1000000)(hp:∀x∈l,F0 F ((fs++[Ai x]++cs).map .v) (db (p x)))(n:Nat):∀k:Nat,I l-k=n->
  Rn PP q8 0 (di (d6 p (l.drop k) k)) bd ([kl o5 [1,0,1,0,0],.blk 0,kc o5 [1,1]]++[]) (ba 19 [(0,dl (l.map Ai)),(1,.v (.fn F fs cs)),(7,di (I l)),(8,di k)]) bd:=by
 induction n using Nat.strongRecOn with
 |_ n ih=>
 intro k hn
 refine lv 19 [] (.b (.e fun x:cp=>.x (Ai x)<|.c (db (p x))<|.b .r (.l (qq k))) .r) ((Y ((k:Int)<(I l:Int))=J->∃a,0<=(k:Int)/\(U Ai l)[Z (k:Int)]?=G (Ai a)/\Aa PP F (U bt (fs++[Ai a]++cs)) dh (db (p a)) dh/\(p a=J->di (k:Int)=di (d6 p (W k l) k))/\(p a=O->di (yu yt ((k:Int)+1))=di (↑(k+1):Int)/\Nv.It (AB (CN 0) PP (fun env σ1=>Az PP q8 env σ1 (di (d6 p (W k l) k)) bd) [kl o5 [1,0,1,0,0],bh 0,kc o5 [1,1]] (ba 19 [(0,bt (ai (U Ai l))),(1,bt (bw F fs cs)),(7,di (I l:Int)),(8,di (↑(k+1):Int))]) bd)))/\(Y ((k:Int)<(I l:Int))=O->di (-1)=di (d6 p (W k l) k))) ⟨fun h=>?_,fun h=>?_⟩
 ·have hk:k<I l:=by simpa using h
  have hx:l[k]?=G l[k]:=HA hk
  rw[HP hk]
  generalize l[k]=x at hx⊢
  refine⟨x,by omega,Am hx,hp x (HG hx),fun hf=>by simp[d6,hf],fun hf=>⟨Ae,⟨?_⟩⟩⟩
  simp only[d6,hf]
  exact ih (I l- (k+1)) (by omega) (k+1) rfl
 ·have hk:I l<=k:=by simpa using h
  rw[HU hk];rfl
theorem AcO(F:yx)(fs cs:List V)(p:cp->Bool)(l:List (cp))(hl:I l<=1000000)(hp:∀x∈l,F0 F ((fs++[Ai x]++cs).map .v) (db (p x))):
  F0 112 [dl (l.map Ai),.v (.fn F fs cs)] (di (d6 p l 0)):=by
 refine sv q8 19 [] (.l [ke 0,ke 1,ch 7 (di (I l)),ch 8 (di (0:Nat))]) (di (I (U Ai l):Int)=di (I l:Int)/\Q (di 0)/\I0 q8 (I bd.H) (di (d6 p l 0)) bd [kl o5 [1,0,1,0,0],bh 0,kc o5 [1,1]] (ba 19 [(0,dl (U Ai l)),(1,bt (bw F fs cs)),(7,di (I l:Int)),(8,di (↑0:Int))]) bd) ⟨by simp,rfl,⟨?_⟩⟩
 exact AcP F fs cs p l hl hp _ 0 rfl
noncomputable abbrev AkG:=Tryz.f72
theorem PU(F:yx)(fs cs:List V)(p:cp->Bool)(l:List (cp))(hl:I l<=1000000)(hp:∀x∈l,F0 F ((fs++[Ai x]++cs).map .v) (db (p x))):
  F0 72 [dl (l.map Ai),.v (.fn F fs cs)] (db (l.any p)):=by
 exact sv AkG 9 [] (.c (di (d6 p l 0)) .r) (_/\db (Y (d6 p l 0>=0))=db (List.any l p)) ⟨AcO F fs cs p l hl hp,by rw[←GP]⟩
def QF(m:b9):m9:=if m.kind=1 then wa else qf
def Er(m:b9)(r:cp):Bool:=if m.kind=1 then DW m r else EO m r
structure b9.okN(m:b9):Prop where
 kind:m.kind=1∨m.kind=2∨m.kind=3
 sized:CE (QF m) m=J
 ranked:BV m=J
 named:Ew m=J
structure b9.okS(m:b9):Prop where
 n:m.okN
 rshort:∀r∈m.av,r.short
 right:∀r∈m.av,Er m r=J
structure b9.ok(m:b9):Prop where
 kind:m.kind=1∨m.kind=2∨m.kind=3
 sized:CE (QF m) m=J
 ranked:BV m=J
 named:Ew m=J
 rshort:∀r∈m.av,r.short
 right:∀r∈m.av,Er m r=J
 start:Ah (AF m) m.start=J
 ssize:m.start.size<=1000000
theorem b9.ok.n{m:b9}(h:m.ok):m.okN:=⟨h.kind,h.sized,h.ranked,h.named⟩
theorem b9.ok.s{m:b9}(h:m.ok):m.okS:=⟨h.n,h.rshort,h.right⟩
instance {m:b9}:Coe m.ok m.okN:=⟨b9.ok.n⟩
instance {m:b9}:Coe m.okS m.okN:=⟨b9.okS.n⟩
instance {m:b9}:Coe m.ok m.okS:=⟨b9.ok.s⟩
theorem Cj{x a b:Int}(h:Ay x a b=J):a<=x/\x<=b:=by simpa[Ay] using h
theorem b9.okN.sz{m:b9}(h:m.okN):1<=I m.aw/\m.aw.length<=8/\m.av.length<=12/\1<=I m.ay/\m.ay.length<=6/\m.ax.length<=6/\m.au.length<=6/\(m.kind≠1->1<=I m.ax):=by
 have hs:=h.sized
 simp only[CE,HB,HK] at hs
 obtain⟨h1,h2,h3,h4,h5,h6⟩:=hs
 have h1:=Cj h1
 have h3:=Cj h3
 have h4:=Cj h4
 have hr:=h.ranked
 have hl:(QF m).pl=1/\(QF m).ph<=6/\(QF m).lh<=6/\(m.kind≠1->(QF m).ll=1):=by
  unfold QF
  split
  ·rename_i hk
   exact⟨rfl,by decide,by decide,fun hk2=>absurd hk hk2⟩
  ·exact⟨rfl,by decide,by decide,fun _=>rfl⟩
 have hrk:I m.au=0∨m.au.length=I m.ax:=by
  unfold BV at hr
  split at hr
  ·exact .inl (by simpa using hr)
  ·right
   simp only[HB,Il] at hr
   exact Int.ofNat_inj.1 hr.1
 obtain⟨a1,a2,a3,a4⟩:=hl
 refine⟨by omega,by omega,by omega,by omega,by omega,by omega,by omega,fun hk=>?_⟩
 have:=a4 hk
 omega
theorem b9.ok.sz{m:b9}(h:m.ok):1<=I m.aw/\m.aw.length<=8/\m.av.length<=12/\1<=I m.ay/\m.ay.length<=6/\m.ax.length<=6/\m.au.length<=6/\(m.kind≠1->1<=I m.ax):=h.n.sz
theorem b9.okS.short{m:b9}(h:m.okS):m.short:=by
 obtain⟨h1,h2,h3,h4,h5,h6,h7,h8⟩:=h.n.sz
 exact⟨by omega,by omega,by omega,by omega,by omega,h.rshort⟩
theorem b9.ok.short{m:b9}(h:m.ok):m.short:=h.s.short
theorem b9.okN.good{m:b9}(h:m.okN):CB 8 (AF m)=J:=by
 obtain⟨h1,h2,h3,h4,h5,h6,h7,h8⟩:=h.sz
 have he:CB 7 (Cl m)=J:=by
  unfold Cl
  split
  ·rfl
  ·rename_i hk
   split
   ·have:=h8 hk
    simp only[CB,HB,HK];omega
   ·rename_i hk2
    have hk3:m.kind=3:=by rcases h.kind with h|h|h<;>omega
    have hr:=h.ranked
    simp only[BV,hk3,bne_self_eq_false,Jq,if_false,HB,Il,Iw] at hr
    have:=h8 hk
    simp only[CB,CM,HB,Il,HK,I2,List.any_eq_false,Bool.not_eq_true]
    refine⟨by omega,by omega,by omega,fun x hx=>?_⟩
    have:=Cj (hr.2 x hx)
    simp only[UJ,Bool.or_eq_false_iff,IU];omega
 simp only[AF,CB,HF,List.length_replicate,all_cons,HB,I2,Ip,IU,HK,Iw]
 refine⟨by omega,by omega,⟨by omega,by omega⟩,fun t ht=>?_⟩
 rw[(List.mem_replicate.1 ht).2];exact he
theorem b9.ok.good{m:b9}(h:m.ok):CB 8 (AF m)=J:=h.n.good
theorem Afs(m:b9)(hm:m.okS)(r:cp)(hr:r∈m.av):F0 74 [Af m,Cu r] (db J):=by
 have h:=hm.right r hr
 rcases hm.n.kind with hk|hk
 ·rw[Er,HV hk] at h
  rw[←h];exact Rq m hm.short hk r (hm.rshort r hr)
 ·rw[Er,HR (by omega)] at h
  rw[←h];exact Rp m hm.short hk r (hm.rshort r hr)
noncomputable abbrev AiY:=Tryz.f73
theorem Aab(m:b9)(hm:m.okS)(r:cp)(hr:r∈m.av):F0 73 [Cu r,.v (.ref (A1 m))] (db O):=by
 exact sv AiY 8 [2] (.c (db J) .r) (_/\Q (db O)) ⟨Afs m hm r hr,rfl⟩
noncomputable abbrev AlU:=Tryz.f75
theorem AeH(m:b9)(t:cy)(b:Bool)(hk:(m.kind==6)=O)(hT:F0 123 [Af m] (dT t))(hV:F0 122 [dT t,dV m.start] (db b)):F0 75 [Af m] (db b):=by
 exact sv AlU 22 [1] (.f<|.c (dT t)<|.c (db b) .r) (_/\_/\_/\Q (db b)) ⟨hk,hT,hV,rfl⟩
noncomputable abbrev AlR:=Tryz.f41
def mx(b1 b2 b3 b4 b5 b6:Bool):Int:=if b1 then(if b2 then(if b3 then(if b4 then(if b5 then 16 else(if b6 then 0 else 17)) else 13) else 14) else 1) else 15
theorem Aaa(m:b9)(b1 b2 b3 b4 b5 b6:Bool)(h1:Ay m.kind 1 6=b1)(h2:b1=J->F0 69 [Af m] (db b2))(h3:b2=J->F0 70 [Af m] (db b3))(h4:b2=J->F0 71 [Af m] (db b4))
  (h5:b2=J->F0 72 [.v (Dq m.av),.v (.fn 73 [] [.ref (A1 m)])] (db b5)) (h6:b5=O->F0 75 [Af m] (db b6)):F0 41 [Af m] (di (mx b1 b2 b3 b4 b5 b6)):=by
 have h1:=h1▸DN m.kind 1 6
 have nb:∀{b:Bool},(!b)=O->b=J:=fun h=>by simpa using h
 have nt:∀{b:Bool},(!b)=J->b=O:=fun h=>by simpa using h
 exact sv AlR 29 [1] (.c (db b1)<|.b .r<|.c (db b2)<|.b .r<|.c (db b3)<|.b .r<|.c (db b4)<|.b .r<|.c (db b5)<|.b .r<|.c (db b6)<|.b .r .r) (_/\((!b1)=J->di 15=di (mx b1 b2 b3 b4 b5 b6))/\((!b1)=O->F0 69 [Af m] (db b2)/\((!b2)=J->di 1=di (mx b1 b2 b3 b4 b5 b6))/\((!b2)=O->F0 70 [Af m] (db b3)/\((!b3)=J->di 14=di (mx b1 b2 b3 b4 b5 b6))/\((!b3)=O->F0 71 [Af m] (db b4)/\((!b4)=J->di 13=di (mx b1 b2 b3 b4 b5 b6))/\((!b4)=O->F0 72 [bt (Dq m.av),bt (bw 73 [] [bz (A1 m)])] (db b5)/\(b5=J->di 16=di (mx b1 b2 b3 b4 b5 b6))/\(b5=O->F0 75 [Af m] (db b6)/\((!b6)=J->di 17=di (mx b1 b2 b3 b4 b5 b6))/\((!b6)=O->di 0=di (mx b1 b2 b3 b4 b5 b6)))))))) ⟨h1,fun e=>by rw[nt e];rfl,fun e1=>⟨h2 (nb e1),fun e=>by rw[nb e1,nt e];rfl,fun e2=>⟨h3 (nb e2),fun e=>by rw[nb e1,nb e2,nt e];rfl,fun e3=>⟨h4 (nb e2),fun e=>by rw[nb e1,nb e2,nb e3,nt e];rfl,fun e4=>⟨h5 (nb e2),fun e=>by rw[nb e1,nb e2,nb e3,nb e4,e];rfl,fun e5=>⟨h6 e5,fun e=>by rw[nb e1,nb e2,nb e3,nb e4,e5,nt e];rfl,fun e=>by rw[nb e1,nb e2,nb e3,nb e4,e5,nb e];rfl⟩⟩⟩⟩⟩⟩
theorem Agf(m:b9)(hm:m.okS):F0 41 [Af m] (di (if Ah (AF m) m.start then 0 else 17)):=by
 obtain⟨h1,h2,h3,h4,h5,h6,h7,h8⟩:=hm.n.sz
 have:=Aaa m true true true true false (Ah (AF m) m.start) (by rcases hm.n.kind with h|h|h<;>rw[h]<;>rfl) (fun _=>?_) (fun _=>?_) (fun _=>?_) (fun _=>?_) (fun _=>AeH m _ _ (by rcases hm.n.kind with h|h|h<;>rw[h]<;>rfl) (MA m (by omega) (by omega) hm.n.kind) (KV _ hm.n.good _))
 ·exact this
 ·have:=MG (QF m) m (by
   unfold QF
   rcases hm.n.kind with h|h|h<;>rw[h]
   ·exact AlB
   ·exact AlA
   ·exact Al9)
  rwa[hm.n.sized] at this
 ·have:=LE m (by omega)
  rwa[hm.n.ranked] at this
 ·have:=SU m (by simp only[BW,IY,flatten_nil,HO,HJ];omega)
  rwa[hm.n.named] at this
 ·have:=PU 73 [] [.ref (A1 m)] (fun _=>false) m.av (by omega) (fun r hr=>Aab m hm r hr)
  rw[show m.av.any (fun _=>false)=O by simp] at this
  exact this
theorem JH(m:b9)(hm:m.ok):F0 41 [Af m] (di 0):=by
 have:=Agf m hm
 rwa[hm.start,HV rfl] at this
noncomputable abbrev AiC:=Tryz.f177
theorem AcA(m:b9)(hm:m.ok)(v:bc):F0 177 [Af m,dV v] (db (Ah (AF m) v)):=by
 obtain⟨h1,h2,h3,h4,h5,h6,h7,h8⟩:=hm.sz
 exact sv AiC 14 [2,3] (.c (di 0)<|.c (dT (AF m))<|.c (db (Ah (AF m) v)) .r) (_/\_/\_/\Q (db (Ah (AF m) v))) ⟨JH m hm,MA m (by omega) (by omega) hm.kind,KV _ hm.good v,rfl⟩
theorem LW(m:b9)(hm:m.ok)(v:bc)(_:v.size<=1000000):F0 177 [Af m,dV v] (db (Ah (AF m) v)):=AcA m hm v
noncomputable abbrev Alr:=Tryz.f19
theorem AaP(m:b9)(hm:m.ok):F0 19 [Af m] (di 0):=by
 exact sv Alr 12 [1] (.c (di 0)<|.k<|.f .r) (_/\(m.kind==6)=O/\Q (di 0)) ⟨JH m hm,by rcases hm.kind with h|h|h<;>rw[h]<;>rfl,rfl⟩
noncomputable abbrev Ai5:=Tryz.f128
theorem X0(a b:bc)(ha:a.fit):F0 128 [dV a,dV b] (db (Aq a b==0)):=by
 exact sv Ai5 9 [2,3] (.c (di (Aq a b)) .r) (_/\Q (db (Aq a b==0))) ⟨Ty _ a b (HH _) ha,rfl⟩
theorem U9(a b:bc)(ha:a.size<=1000000):F0 128 [dV a,dV b] (db (Aq a b==0)):=X0 a b (bc.fit_of a ha)
noncomputable abbrev AiF:=Tryz.f103
theorem Vw(c:UInt8):F0 103 [.v (vb c)] (db (DH c)):=by
 refine sv AiF 21 [] (.b (.b .r (.b (.b .r .r) .r)) (.k<|.b (.b .r .r) .r)) ((Y ((↑(UInt8.toNat c):Int)>=97)=J->(Y ((↑(UInt8.toNat c):Int)<=122)=J->db J=db (DH c))/\(Y ((↑(UInt8.toNat c):Int)<=122)=O->(Y ((↑(UInt8.toNat c):Int)>=48)=J->(Y ((↑(UInt8.toNat c):Int)<=57)=J->db J=db (DH c))/\(Y ((↑(UInt8.toNat c):Int)<=57)=O->db ((↑(UInt8.toNat c):Int)==95)=db (DH c)))/\(Y ((↑(UInt8.toNat c):Int)>=48)=O->db ((↑(UInt8.toNat c):Int)==95)=db (DH c))))/\(Y ((↑(UInt8.toNat c):Int)>=97)=O->(Y ((↑(UInt8.toNat c):Int)>=48)=J->(Y ((↑(UInt8.toNat c):Int)<=57)=J->db J=db (DH c))/\(Y ((↑(UInt8.toNat c):Int)<=57)=O->db ((↑(UInt8.toNat c):Int)==95)=db (DH c)))/\(Y ((↑(UInt8.toNat c):Int)>=48)=O->db ((↑(UInt8.toNat c):Int)==95)=db (DH c)))) ?_
 repeat' first|with_reducible refine And.intro ?_ ?_|intro _
 all_goals simp only[DH,QG,ku, *]<;>simp
noncomputable abbrev Mf:=Tryz.f57
noncomputable def Ky:=yl Mf
theorem XB(p:UInt8->Bool):∀s:List UInt8,Hl p s=I s->∀c∈s,p c=J
 |[],_,_,h=>absurd h (by simp)
 |x::s,h,c,hc=>by
  unfold Hl at h
  split at h
  ·rename_i hx
   rcases Iq.1 hc with rfl|hc
   ·exact hx
   ·exact XB p s (by simpa using h) c hc
  ·simp at h
theorem QP(s:List UInt8)(hs:I s<=12)(hw:El s=J)(n:Nat):∀k:Nat,I s-k=n->
  Rn PP Mf 0 (db J) bd ([kl Ky [1,0,1,0,0],.blk 0,kc Ky [1,1]]++[]) (ba 33 [(0,ds s),(3,di k)]) bd:=by
 induction n using Nat.strongRecOn with
 |_ n ih=>
 intro k hn
 simp only[El,HB,bne_iff_ne,ne_eq,Il] at hw
 obtain⟨w1,w2,w3,w4⟩:=hw
 have hall:=XB DH s (Int.ofNat_inj.1 w4)
 have h0:s[0]?=G (s.headD 0):=by cases s with
  |nil=>simp at w1
  |cons a s=>rfl
 simp only[QG,HB] at w3
 refine lv 33 [] (.b (.e fun c:UInt8=>.y c<|.c (db J)<|.l [ke 0,ch 3 (di (k+1:Nat))]) (.t<|.t<|.y (s.headD 0)<|.t<|.y (s.headD 0) .r)) ((Y ((k:Int)<(I s:Int))=J->∃a,0<=(k:Int)/\s[Z (k:Int)]?=G a/\Aa PP 103 [bt (aa IntKind.u8 (↑(UInt8.toNat a):Int))] dh (db J) dh/\di (yu yt ((k:Int)+1))=di (↑(k+1):Int)/\Nv.It (AB (CN 0) PP (fun env σ1=>Az PP Mf env σ1 (db J) bd) [kl Ky [1,0,1,0,0],bh 0,kc Ky [1,1]] (ba 33 [(0,bt (ae s)),(3,di (↑(k+1):Int))]) bd))/\(Y ((k:Int)<(I s:Int))=O->Y ((I s:Int)>=1)=J/\Y ((I s:Int)<=12)=J/\iz 0<=0/\s[Z 0]?=G (headD s 0)/\Y ((↑(UInt8.toNat (headD s 0)):Int)>=97)=J/\iz 0<=0/\s[Z 0]?=G (headD s 0)/\db (Y ((↑(UInt8.toNat (headD s 0)):Int)<=122))=db J)) ⟨fun h=>?_,fun h=>?_⟩
 ·have hk:k<I s:=by simpa using h
  have hx:s[k]?=G s[k]:=HA hk
  generalize s[k]=c at hx
  refine⟨c,by omega,by simpa using hx,hall c (HG hx)▸Vw c,Ae,⟨?_⟩⟩
  exact ih (I s- (k+1)) (by omega) (k+1) rfl
 ·refine⟨HC ?_,w2,by decide,h0,w3.1,by decide,h0,HX db w3.2⟩
  cases s with
  |nil=>simp at w1
  |cons a s=>simp only[HF];omega
theorem QO(s:List UInt8)(hw:El s=J):F0 57 [ds s] (db J):=by
 have hs:I s<=12:=by
  simp only[El,HB,HK] at hw
  omega
 exact sv Mf 33 [] (.l [ke 0,ch 3 (di (0:Nat))]) (Q (di 0)/\_) ⟨rfl,iK (QP s hs hw _ 0 rfl)⟩
noncomputable abbrev AfT:=Tryz.f30
theorem CC(x a b:Int):F0 30 [di x,di a,di b] (db (Ay x a b)):=by
 refine sv AfT 15 [] (.b .r .r) ((Y (x>=a)=J->db (Y (x<=b))=db (Ay x a b))/\(Y (x>=a)=O->db O=db (Ay x a b))) ⟨fun h=>?_,fun h=>?_⟩
 ·have h:a<=x:=by simpa using h
  simp[Ay,h]
 ·have h:¬a<=x:=by simpa using h
  simp[Ay,h]
noncomputable abbrev Tj:=Tryz.f31
theorem Vk(m:b9)(hm:m.okN):F0 31 [Af m] (db J):=by
 have h1:∀a b x,Ay x a b=J->F0 30 [di x,di a,di b] (db J):=fun a b x h=>h▸CC x a b
 have hs:=hm.sized
 simp only[CE,HB,HK] at hs
 obtain⟨s1,s2,s3,s4,s5,s6⟩:=hs
 have hk:=hm.kind
 clear hm
 obtain⟨kind,aw,ay,ax,au,ao,age,av,start⟩:=m
 dsimp only at*
 rcases hk with hk|hk|hk<;>subst hk
 ·refine sv Tj 81 [1] (.c (db J)<|.c (db J)<|.k<|.f<|.c (db J)<|.c (db J) .r) (F0 30 [di (I (U ae (b9.mk 1 aw ay ax au ao age av start).aw):Int),di 1,di 8] (db J)/\F0 30 [di (I (U ae (b9.mk 1 aw ay ax au ao age av start).ay):Int),di 1,di 6] (db J)/\Y ((I (U Ai (b9.mk 1 aw ay ax au ao age av start).av):Int)>12)=O/\F0 30 [di (I (U ae (b9.mk 1 aw ay ax au ao age av start).ax):Int),di 0,di 0] (db J)/\_/\db ((b9.mk 1 aw ay ax au ao age av start).age==0)=db J) ⟨by rw[H9];exact h1 _ _ _ s1,by rw[H9];exact h1 _ _ _ s3,by rw[H9];show Y ((I av:Int)>12)=O;exact yq,by rw[H9];exact h1 _ _ _ s4,h1 _ _ _ s5,?_⟩
  have:=Cj s6
  rw[show age=0 by simp only[QF] at this;simp at this;omega];rfl
 ·refine sv Tj 81 [1] (.c (db J)<|.c (db J)<|.k<|.f<|.c (db J)<|.c (db J) .r) (F0 30 [di (I (U ae (b9.mk 2 aw ay ax au ao age av start).aw):Int),di 1,di 8] (db J)/\F0 30 [di (I (U ae (b9.mk 2 aw ay ax au ao age av start).ay):Int),di 1,di 2] (db J)/\Y ((I (U Ai (b9.mk 2 aw ay ax au ao age av start).av):Int)>12)=O/\F0 30 [di (I (U ae (b9.mk 2 aw ay ax au ao age av start).ax):Int),di 1,di 6] (db J)/\_/\db ((b9.mk 2 aw ay ax au ao age av start).age==0)=db J) ⟨by rw[H9];exact h1 _ _ _ s1,by rw[H9];exact h1 _ _ _ s3,by rw[H9];show Y ((I av:Int)>12)=O;exact yq,by rw[H9];exact h1 _ _ _ s4,h1 _ _ _ s5,?_⟩
  have:=Cj s6
  rw[show age=0 by simp only[QF] at this;simp at this;omega];rfl
 ·refine sv Tj 81 [1] (.c (db J)<|.c (db J)<|.k<|.f<|.c (db J)<|.c (db J) .r) (F0 30 [di (I (U ae (b9.mk 3 aw ay ax au ao age av start).aw):Int),di 1,di 8] (db J)/\F0 30 [di (I (U ae (b9.mk 3 aw ay ax au ao age av start).ay):Int),di 1,di 2] (db J)/\Y ((I (U Ai (b9.mk 3 aw ay ax au ao age av start).av):Int)>12)=O/\F0 30 [di (I (U ae (b9.mk 3 aw ay ax au ao age av start).ax):Int),di 1,di 6] (db J)/\_/\db ((b9.mk 3 aw ay ax au ao age av start).age==0)=db J) ⟨by rw[H9];exact h1 _ _ _ s1,by rw[H9];exact h1 _ _ _ s3,by rw[H9];show Y ((I av:Int)>12)=O;exact yq,by rw[H9];exact h1 _ _ _ s4,h1 _ _ _ s5,?_⟩
  have:=Cj s6
  rw[show age=0 by simp only[QF] at this;simp at this;omega];rfl
noncomputable abbrev Mh:=Tryz.f32
noncomputable def N6:=yl Mh
theorem AbU(m:b9)(hm:m.okN)(hk:m.kind≠3):F0 32 [Af m] (db J):=by
 have h:=hm.ranked
 rw[BV,HV (bne_iff_ne.2 hk)] at h
 exact sv Mh 32 [1] (.t .r) ((m.kind !=3)=J/\db ((I (U vi m.au):Int)==0)=db J) ⟨bne_iff_ne.2 hk,by rw[H9];exact HX db h⟩
theorem UH(m:b9)(hm:m.okN)(hk:m.kind=3)(n:Nat):∀k:Nat,I m.au-k=n->
  Rn PP Mh 0 (db J) bd ([kl N6 [1,1,1,0,1,0,0],.blk 0,kc N6 [1,1,1,1]]++[]) (ba 32 [(1,.v (.ref (A1 m))),(3,di k)]) bd:=by
 induction n using Nat.strongRecOn with
 |_ n ih=>
 intro k hn
 have h:=hm.ranked
 simp only[BV,hk,bne_self_eq_false,Jq,if_false,HB,Iw] at h
 have hz:=hm.sz
 refine lv 32 [1] (.b (.e fun x:Int=>.x (vi x)<|.c (db J)<|.l [ke 1,ch 3 (di (k+1:Nat))]) .r) ((Y ((k:Int)<(I (U vi m.au):Int))=J->∃a,0<=(k:Int)/\(U vi m.au)[Z (k:Int)]?=G (vi a)/\Aa PP 30 [di a,di 0,di 5] dh (db J) dh/\di (yu yt ((k:Int)+1))=di (↑(k+1):Int)/\Nv.It (AB (CN 0) PP (fun env σ1=>Az PP Mh env σ1 (db J) bd) [kl N6 gi,bh 0,kc N6 [1,1,1,1]] (ba 32 [(1,bt (ic m)),(3,di (↑(k+1):Int))]) bd))/\(Y ((k:Int)<(I (U vi m.au):Int))=O->Q (db J))) ⟨fun h1=>?_,fun h1=>rfl⟩
 have hk1:k<I m.au:=by simpa using h1
 have hx:m.au[k]?=G m.au[k]:=HA hk1
 generalize m.au[k]=x at hx
 refine⟨x,by omega,Am hx,h.2 x (HG hx)▸CC x 0 5,Ae,⟨?_⟩⟩
 exact ih (I m.au- (k+1)) (by omega) (k+1) rfl
theorem Afr(m:b9)(hm:m.okN)(hk:m.kind=3):F0 32 [Af m] (db J):=by
 have h:=hm.ranked
 simp only[BV,hk,bne_self_eq_false,Jq,if_false,HB] at h
 refine sv Mh 32 [1] (.f<|.f<|.l [ke 1,ch 3 (di (0:Nat))]) ((m.kind !=3)=O/\((I (U vi m.au):Int) !=(I (dm m.ax):Int))=O/\Q (di 0)/\_) ⟨by rw[hk];rfl,by rw[H9,H9];simpa using h.1,rfl,iK (UH m hm hk _ 0 rfl)⟩
theorem UG(m:b9)(hm:m.okN):F0 32 [Af m] (db J):=by
 by_cases hk:m.kind=3
 ·exact Afr m hm hk
 ·exact AbU m hm hk
noncomputable abbrev Zr:=Tryz.f58
noncomputable def Wd:=yl Zr
theorem YZ(l:List (List UInt8))(hl:I l<=1000)(s:List UInt8)(n:Nat):∀k:Nat,I l-k=n->
  Rn PP Zr 0 (db ((l.drop k).any (· ==s))) bd ([kl Wd [1,1,0,1,0,0],.blk 0,kc Wd [1,1,1]]++[]) (ba 18 [(0,ds s),(3,dl (l.map ae)),(4,di k)]) bd:=by
 induction n using Nat.strongRecOn with
 |_ n ih=>
 intro k hn
 refine lv 18 [] (.b (.e fun x:List UInt8=>.x (.str x)<|.b .r (.l [ke 0,ke 3,ch 4 (di (k+1:Nat))])) .r) ((Y ((k:Int)<(I (U ae l):Int))=J->∃a,0<=(k:Int)/\(U ae l)[Z (k:Int)]?=G (ae a)/\((a==s)=J->db J=db (List.any (W k l) fun x=>x==s))/\((a==s)=O->di (yu yt ((k:Int)+1))=di (↑(k+1):Int)/\Nv.It (AB (CN 0) PP (fun env σ1=>Az PP Zr env σ1 (db (List.any (W k l) fun x=>x==s)) bd) [kl Wd d5,bh 0,kc Wd [1,1,1]] (ba 18 [(0,bt (ae s)),(3,bt (ky l)),(4,di (↑(k+1):Int))]) bd)))/\(Y ((k:Int)<(I (U ae l):Int))=O->db O=db (List.any (W k l) fun x=>x==s))) ⟨fun h=>?_,fun h=>?_⟩
 ·have hk:k<I l:=by simpa using h
  have hx:l[k]?=G l[k]:=HA hk
  rw[HP hk]
  generalize l[k]=x at hx⊢
  refine⟨x,by omega,C0 hx,fun h1=>?_,fun h1=>⟨Ae,⟨?_⟩⟩⟩
  ·rw[List.any_cons,h1,Bool.true_or]
  ·rw[List.any_cons,h1,Bool.false_or]
   exact ih (I l- (k+1)) (by omega) (k+1) rfl
 ·have hk:I l<=k:=by simpa using h
  rw[HU hk];rfl
theorem YY(s:List UInt8):F0 58 [ds s] (db (Vz s)):=by
 refine sv Zr 18 [] (.l [ke 0,ch 3 (dl (pp.map ae)),ch 4 (di (0:Nat))]) (bt (ai [ae (bf #[109,111,100,101,108]).data.toList,ae (bf #[115,116,97,116,101,115]).data.toList,ae (bf #[112,108,97,99,101,115]).data.toList,ae (bf #[108,101,116,116,101,114,115]).data.toList,ae (bf #[108,101,118,101,108,115]).data.toList,ae (bf #[97,103,101]).data.toList,ae (bf #[114,117,108,101]).data.toList,ae (bf #[110,101,101,100]).data.toList,ae (bf #[103,105,118,101]).data.toList,ae (bf #[109,111,118,101]).data.toList,ae (bf #[101,109,112,116,121]).data.toList,ae (bf #[115,101,110,100]).data.toList,ae (bf #[114,101,99,101,105,118,101]).data.toList,ae (bf #[112,97,116,104]).data.toList,ae (bf #[110,101,120,116]).data.toList,ae (bf #[116,97,107,101]).data.toList,ae (bf #[109,97,107,101]).data.toList,ae (bf #[115,116,97,114,116]).data.toList])=dl (U ae pp)/\Q (di 0)/\I0 Zr (I bd.H) (db (Vz s)) bd [kl Wd d5,bh 0,kc Wd [1,1,1]] (ba 18 [(0,bt (ae s)),(3,dl (U ae pp)),(4,di (↑0:Int))]) bd) ⟨rfl,rfl,⟨?_⟩⟩
 exact YZ pp (by decide) s _ 0 rfl
theorem Aer:∀(l u:List (List UInt8)),gk u l=J->(∀s∈l,El s=J/\Vz s=O/\u.contains s=O)/\l.Nodup
 |[],_,_=>⟨fun s hs=>absurd hs (by simp),List.nodup_nil⟩
 |x::l,u,h=>by
  simp only[gk,HB,I2] at h
  obtain⟨h1,h2,h3,h4⟩:=h
  obtain⟨h5,h6⟩:=Aer l (u++[x]) h4
  refine⟨fun s hs=>?_,?_⟩
  ·rcases Iq.1 hs with rfl|hs
   ·exact⟨h1,h2,h3⟩
   ·obtain⟨a,b,c⟩:=h5 s hs
    refine⟨a,b,?_⟩
    simp at c⊢
    exact c.1
  ·refine List.nodup_cons.2 ⟨fun hx=>?_,h6⟩
   have:=(h5 x hx).2.2
   simp at this
noncomputable abbrev EQ:=Tryz.f33
noncomputable def BS:=yl EQ
noncomputable abbrev Ap0:=[kl BS [1,1,1,0,1,0,0,1,0,0,1,1,0,0],bh 4,bh 3,kc BS [1,1,1,0,1,0,0,1,1],kl BS gi,bh 2,kc BS [1,1,1,1]]
theorem R0(l:List (List UInt8))(hl:I l<=1000000)(hd:l.Nodup)(i:Nat)(hi:i<I l)
  (hout:Rn PP EQ 0 (db J) bd ([kl BS [1,1,1,0,1,0,0],.blk 2,kc BS [1,1,1,1]]++[]) (ba 65 [(3,dl (l.map ae)),(5,di (i+1:Nat))]) bd) (n:Nat):∀k:Nat,i-k=n->
  Rn PP EQ 0 (db J) bd ([kl BS [1,1,1,0,1,0,0,1,0,0,1,1,0,0],.blk 4,.blk 3,kc BS [1,1,1,0,1,0,0,1,1],kl BS [1,1,1,0,1,0,0],.blk 2,kc BS [1,1,1,1]]++[]) (ba 65 [(3,dl (l.map ae)),(5,di i),(6,di k)]) bd:=by
 induction n using Nat.strongRecOn with
 |_ n ih=>
 intro k hn
 refine lv 65 [1] (.b (.e fun a:List UInt8=>.x (.str a)<|.e fun b:List UInt8=>.x (.str b)<|.f<|.l [ke 3,ke 5,ch 6 (di (k+1:Nat))]) (.l [ke 3,ch 5 (di (i+1:Nat))])) ((Y ((k:Int)<(i:Int))=J->∃a,0<=(k:Int)/\(U ae l)[Z (k:Int)]?=G (ae a)/\∃a_1,0<=(i:Int)/\(U ae l)[Z (i:Int)]?=G (ae a_1)/\(a==a_1)=O/\di (yu yt ((k:Int)+1))=di (↑(k+1):Int)/\Nv.It (AB (CN 0) PP (fun env σ1=>Az PP EQ env σ1 (db J) bd) Ap0 (ba 65 [(3,bt (ky l)),(5,di (i:Int)),(6,di (↑(k+1):Int))]) dh))/\(Y ((k:Int)<(i:Int))=O->di (yu yt ((i:Int)+1))=di (↑(i+1):Int)/\I0 EQ 0 (db J) bd [kl BS gi,bh 2,kc BS [1,1,1,1]] (ba 65 [(3,bt (ky l)),(5,di (↑(i+1):Int))]) bd)) ⟨fun h=>?_,fun h=>⟨Ae,⟨hout⟩⟩⟩
 have hk:k<i:=by simpa using h
 have hx:l[k]?=G l[k]:=HA (by omega)
 have hy:l[i]?=G l[i]:=HA hi
 have hxy:l[k]≠l[i]:=List.pairwise_iff_getElem.1 hd k i (by omega) hi hk
 exact⟨l[k],by omega,C0 hx,l[i],by omega,C0 hy,Ip.2 hxy,Ae,⟨ih (i- (k+1)) (by omega) (k+1) rfl⟩⟩
theorem R1(l:List (List UInt8))(hl:I l<=1000000)(hd:l.Nodup)(hw:∀s∈l,El s=J/\Vz s=O)(n:Nat):∀i:Nat,I l-i=n->
  Rn PP EQ 0 (db J) bd ([kl BS [1,1,1,0,1,0,0],.blk 2,kc BS [1,1,1,1]]++[]) (ba 65 [(3,dl (l.map ae)),(5,di i)]) bd:=by
 induction n using Nat.strongRecOn with
 |_ n ih=>
 intro i hn
 refine lv 65 [1] (.b (.e fun s:List UInt8=>.x (.str s)<|.c (db J)<|.x (.str s)<|.c (db O)<|.l [ke 3,ke 5,ch 6 (di (0:Nat))]) .r) ((Y ((i:Int)<(I (U ae l):Int))=J->∃a,0<=(i:Int)/\(U ae l)[Z (i:Int)]?=G (ae a)/\Aa PP 57 [bt (ae a)] dh (db J) dh/\0<=(i:Int)/\(U ae l)[Z (i:Int)]?=G (ae a)/\Aa PP 58 [bt (ae a)] dh (db O) dh/\di 0=di (↑0:Int)/\Nv.It (AB (CN 0) PP (fun env σ1=>Az PP EQ env σ1 (db J) bd) Ap0 (ba 65 [(3,bt (ky l)),(5,di (i:Int)),(6,di (↑0:Int))]) bd))/\(Y ((i:Int)<(I (U ae l):Int))=O->Q (db J))) ⟨fun h=>?_,fun h=>rfl⟩
 have hk:i<I l:=by simpa using h
 have hx:l[i]?=G l[i]:=HA hk
 have h3:=R0 l hl hd i hk (ih (I l- (i+1)) (by omega) (i+1) rfl) _ 0 rfl
 generalize l[i]=s at hx
 obtain⟨w1,w2⟩:=hw s (HG hx)
 exact⟨s,by omega,C0 hx,QO s w1,by omega,C0 hx,w2▸YY s,rfl,⟨h3⟩⟩
theorem R2(m:b9)(hlen:I (EP m)<=100)(hrl:I m.av<=100)(hnm:Ew m=J)(n:Nat):∀(k:Nat) (xs:List (List UInt8)),I m.av-k=n->xs++(m.av.drop k).map cp.name=EP m->
  Rn PP EQ 0 (db J) bd ([kl BS [1,1,0,1,0,0],.blk 0,kc BS [1,1,1]]++[]) (ba 65 [(1,.v (.ref (A1 m))),(3,TJ xs),(4,di k)]) (kp xs):=by
 induction n with
 |zero=>
  intro k xs hn hx
  refine lv 65 [1] (.f<|.h (.q 6 0)<|.h (.un 3)<|.ls [ch 3 (dl (xs.map ae)),ch 5 (di (0:Nat))] bd) (Y ((k:Int)<(I (U Ai m.av):Int))=O/\bt (ai (dm xs))=dl (dm xs)/\Q (di 0)/\I0 EQ 0 (db J) bd [kl BS gi,bh 2,kc BS [1,1,1,1]] (ba 65 [(3,dl (dm xs)),(5,di (↑0:Int))]) bd) ⟨by rw[H9];exact yq,rfl,rfl,⟨?_⟩⟩
  rw[HU (by omega)] at hx
  rw[I7,Iz] at hx
  subst hx
  obtain⟨h1,h2⟩:=Aer _ _ hnm
  exact R1 _ (by omega) h2 (fun s hs=>⟨(h1 s hs).1,(h1 s hs).2.1⟩) _ 0 rfl
 |succ n ih=>
  intro k xs hn hx
  refine lv 65 [1] (.t<|.e fun r:cp=>.h (.xs (Ai r))<|.w<|.ls [ke 1,ch 3 (TJ (xs++[r.name])),ch 4 (di (k+1:Nat))] (kp (xs++[r.name]))) (Y ((k:Int)<(I (U Ai m.av):Int))=J/\∃a,14=14/\0<=(k:Int)/\(U Ai m.av)[Z (k:Int)]?=G (Ai a)/\Q (dm xs)/\Ao (I (dm xs)+I (ae a.name::nV)) 16/\(∀(y:V),y∈ [ae a.name]->V.size y=1)/\br 1 (U ae xs++[ae a.name])=TJ (xs++[a.name])/\di (yu yt ((k:Int)+1))=di (↑(k+1):Int)/\[(1,1,U ae xs++ae a.name::nV)]=[(1,1,U ae (xs++[a.name]))]/\I0 EQ 0 (db J) bd [kl BS d5,bh 0,kc BS [1,1,1]] (ba 65 [(1,bt (ic m)),(3,TJ (xs++[a.name])),(4,di (↑(k+1):Int))]) (kp (xs++[a.name]))) ?_
  have hk:k<I m.av:=by omega
  have hr:m.av[k]?=G m.av[k]:=HA hk
  rw[HP hk] at hx
  generalize m.av[k]=r at hr hx
  have hxl:I xs<=100:=by
   have:=HX I hx
   simp only[HO] at this;omega
  refine⟨by rw[H9];exact yr,r,rfl,by omega,Am hr,rfl,⟨?_,?_⟩,by simp[V.size],by simp,Ae,by simp,⟨?_⟩⟩
  ·simp only[H9,HF,HJ];omega
  ·simp only[H9,HF,HJ];omega
  ·exact ih (k+1) (xs++[r.name]) (by omega) (by rw[←hx];simp)
theorem SV(m:b9)(hlen:I (EP m)<=100)(hrl:I m.av<=100)(hnm:Ew m=J):F0 33 [Af m] (db J):=by
 have hl2:=hlen
 simp only[EP,BW,IY,flatten_nil,HO,H9,HJ] at hl2
 have hb:BW m=m.aw++m.ay++m.ax:=by simp[BW]
 refine sv EQ 65 [1] (.a 1<|.w<|.w<|.w<|.ls [ke 1,ch 3 (TJ (BW m)),ch 4 (di (0:Nat))] (kp (BW m))) (Ao (I (dm m.aw)) 16/\(∀(y:V),y∈U ae m.aw->V.size y=1)/\Q (dm m.aw)/\Ao (I (dm m.aw)+I (dm m.ay)) 16/\(∀(y:V),y∈U ae m.ay->V.size y=1)/\Q (U ae m.aw++U ae m.ay)/\Ao (I (U ae m.aw++U ae m.ay)+I (dm m.ax)) 16/\(∀(y:V),y∈U ae m.ax->V.size y=1)/\br 1 (U ae m.aw++U ae m.ay++U ae m.ax)=TJ (BW m)/\Q (di 0)/\[(1,1,U ae m.aw++U ae m.ay++U ae m.ax)]=[(1,1,U ae (BW m))]/\I0 EQ (I bd.H) (db J) bd [kl BS d5,bh 0,kc BS [1,1,1]] (ba 65 [(1,bt (ic m)),(3,TJ (BW m)),(4,di (↑0:Int))]) (kp (BW m))) ⟨⟨?_,?_⟩,by simp[V.size],rfl,⟨?_,?_⟩,by simp[V.size],rfl,⟨?_,?_⟩,by simp[V.size],by simp[hb],rfl,by simp[hb],⟨?_⟩⟩
 all_goals try (simp only[H9,HO];omega)
 exact R2 m hlen hrl hnm _ 0 (BW m) rfl rfl
theorem Vo(m:b9)(hm:m.okN):F0 33 [Af m] (db J):=by
 have hsz:=hm.sz
 exact SV m (by simp only[EP,BW,IY,flatten_nil,HO,H9,HJ];omega) (by omega) hm.named
noncomputable abbrev Qh:=Tryz.f59
noncomputable def NA:=yl Qh
theorem Vt(l:List Int)(hl:I l<=1000000)(n a b:Int)(hn:I l=n)(hx:∀x∈l,Ay x a b=J)(N:Nat):∀k:Nat,I l-k=N->
  Rn PP Qh 0 (db J) bd ([kl NA [1,0,1,0,0],.blk 0,kc NA [1,1]]++[]) (ba 28 [(0,cw l),(1,di n),(2,di a),(3,di b),(9,di k)]) bd:=by
 induction N using Nat.strongRecOn with
 |_ N ih=>
 intro k hk
 refine lv 28 [] (.b (.e fun x:Int=>.x (vi x)<|.c (db J)<|.l [ke 0,ke 1,ke 2,ke 3,ch 9 (di (k+1:Nat))]) .r) ((Y ((k:Int)<(I (U vi l):Int))=J->∃a_2,0<=(k:Int)/\(U vi l)[Z (k:Int)]?=G (vi a_2)/\Aa PP 30 [di a_2,di a,di b] dh (db J) dh/\di (yu yt ((k:Int)+1))=di (↑(k+1):Int)/\Nv.It (AB (CN 0) PP (fun env σ1=>Az PP Qh env σ1 (db J) bd) [kl NA [1,0,1,0,0],bh 0,kc NA [1,1]] (ba 28 [(0,cw l),(1,di n),(2,di a),(3,di b),(9,di (↑(k+1):Int))]) bd))/\(Y ((k:Int)<(I (U vi l):Int))=O->db ((I (U vi l):Int)==n)=db J)) ⟨fun h=>?_,fun h=>?_⟩
 ·have hk1:k<I l:=by simpa using h
  have hy:l[k]?=G l[k]:=HA hk1
  generalize l[k]=x at hy
  exact⟨x,by omega,Am hy,hx x (HG hy)▸CC x a b,Ae,⟨ih (I l- (k+1)) (by omega) (k+1) rfl⟩⟩
 ·rw[H9,hn,beq_self_eq_true]
theorem GN(l:List Int)(hl:I l<=1000000)(n a b:Int)(hn:I l=n)(hx:∀x∈l,Ay x a b=J):F0 59 [cw l,di n,di a,di b] (db J):=by
 exact sv Qh 28 [] (.l [ke 0,ke 1,ke 2,ke 3,ch 9 (di (0:Nat))]) (Q (di 0)/\_) ⟨rfl,iK (Vt l hl n a b hn hx _ 0 rfl)⟩
noncomputable abbrev ud:=Tryz.f34
theorem Ds{α β:Type}(f:α->β)(l:List α)(h:I l<=1000000):yt.wrap ((I (l.map f):Int)-1)=(I l:Int)-1:=by
 rw[H9,Al]
theorem fq{α β:Type}(f:α->β){l:List α}(h:l=[]):Y ((I (l.map f):Int)>0)=O:=by subst h;rfl
theorem XC(m:b9)(hm:m.okS)(r:cp)(hr:r∈m.av):F0 34 [Af m,Cu r] (db J):=by
 have h1:∀a b x,Ay x a b=J->F0 30 [di x,di a,di b] (db J):=fun a b x h=>h▸CC x a b
 have hs:=hm.short
 have hsz:=hm.n.sz
 have hrs:=hm.rshort r hr
 have hR:=hm.right r hr
 have hk:=hm.n.kind
 clear hm hr
 obtain⟨kind,aw,ay,ax,au,ao,age,av,start⟩:=m
 have hst:=hs.aw
 have hpl:=hs.ay
 have hlt:=hs.ax
 clear hs
 dsimp only at*
 rcases hk with hk|hk|hk<;>subst hk
 ·simp only[Er,IJ,DW,BR,De,BU,Oy,HB,Il,HK,Iw] at hR
  obtain⟨a1,a2,⟨a3,a4,a5,a6⟩,a7, -, -, -, -, -, -,b1,b2,b3,b4,b5,b6,b7,b8⟩:=hR
  refine sv ud 234 [2,3] (.c (db J)<|.c (db J)<|.c (db J)<|.c (db J)<|.k<|.b (.c (db J)<|.k<|.k<|.f<|.f<|.f<|.k<|.f<|.f<|.k<|.f<|.f .r) (.k<|.k<|.f<|.f<|.f<|.k<|.f<|.f<|.k<|.f<|.f .r)) (F0 30 [di r.aj,di 0,di (yu yt ((I (U ae (b9.mk 1 aw ay ax au ao age av start).aw):Int)-1))] (db J)/\F0 30 [di r.to,di 0,di (yu yt ((I (U ae (b9.mk 1 aw ay ax au ao age av start).aw):Int)-1))] (db J)/\F0 59 [cw r.am,di (I (U ae (b9.mk 1 aw ay ax au ao age av start).ay):Int),di 0,di 16] (db J)/\F0 59 [cw r.ak,di (I (U ae (b9.mk 1 aw ay ax au ao age av start).ay):Int),di 0,di 16] (db J)/\(Y ((I (U vi r.move):Int)>0)=J->F0 59 [cw r.move,di (I (U ae (b9.mk 1 aw ay ax au ao age av start).ay):Int),di (-1),di (yu yt ((I (U ae (b9.mk 1 aw ay ax au ao age av start).ay):Int)-1))] (db J)/\(r.chan !=0)=O/\(r.act !=0)=O/\(r.letter !=0)=O/\Y ((I (U vi r.path):Int)>0)=O/\Y ((I (U vi r.next):Int)>0)=O/\Y ((I (U dx r.ar):Int)>0)=O/\Y ((I (U vi r.aq):Int)>0)=O/\db (r.second==0)=db J)/\(Y ((I (U vi r.move):Int)>0)=O->(r.chan !=0)=O/\(r.act !=0)=O/\(r.letter !=0)=O/\Y ((I (U vi r.path):Int)>0)=O/\Y ((I (U vi r.next):Int)>0)=O/\Y ((I (U dx r.ar):Int)>0)=O/\Y ((I (U vi r.aq):Int)>0)=O/\db (r.second==0)=db J)) ?_
  rw[Ds _ _ hst,Ds _ _ hpl]
  have hmv:I (r.move.map vi)>0->F0 59 [cw r.move,di (I (ay.map ae):Int),di (-1),di ((I ay:Int)-1)] (db J):=fun h=>by
   rw[H9] at h
   simp only[Bool.or_eq_true,Il,HB,Iw] at a7
   rcases a7 with a7|⟨a7,a8⟩
   ·omega
   ·rw[H9];exact GN _ hrs.move _ _ _ a7 a8
  refine⟨h1 _ _ _ a2,h1 _ _ _ a1,?_,?_,fun h=>⟨hmv (by simpa using h),?_⟩,fun h=>?_⟩
  ·rw[H9];exact GN _ hrs.am _ _ _ a3 a5
  ·rw[H9];exact GN _ hrs.ak _ _ _ a4 a6
  ·refine⟨by rw[b1];rfl,by rw[b2];rfl,by rw[b3];rfl,fq _ (HL b4),fq _ (HL b5),fq _ b6,fq _ (HL b7),by rw[b8];rfl⟩
  ·refine⟨by rw[b1];rfl,by rw[b2];rfl,by rw[b3];rfl,fq _ (HL b4),fq _ (HL b5),fq _ b6,fq _ (HL b7),by rw[b8];rfl⟩
 ·rw[Er,HR (fun h=>absurd h (by show ¬(_:Int)=1;simp only;decide))] at hR
  simp only[EO,BU,LR,HB,Il,HK] at hR
  simp only[Eg] at hR
  obtain⟨a1,a2,a3, -, -, -,c1,c2,c3, -, -, -,b4,b5,b6,b7,b8⟩:=hR
  have hl:=hsz.2.2.2.2.2.2.2 (by decide)
  have hA:Ay r.act 0 2=J/\Ay r.chan 0 ((I ay:Int)-1)=J/\Ay r.letter 0 ((I ax:Int)-1)=J/\(r.act=0->r.chan=0/\r.letter=0):=by
   split at a3
   ·rename_i h0
    have h0:r.act=0:=by simpa using h0
    simp only[HB,Il] at a3
    rw[h0,a3.1,a3.2]
    refine⟨by decide,?_,?_,fun _=>⟨rfl,rfl⟩⟩<;>simp only[Ay,HB,HK]<;>omega
   ·rename_i h0
    have h0:r.act≠0:=by simpa using h0
    simp only[HB] at a3
    have:=Cj a3.1
    refine⟨?_,a3.2.1,a3.2.2,fun h=>absurd h h0⟩
    simp only[Ay,HB,HK];omega
  obtain⟨d1,d2,d3,d4⟩:=hA
  refine sv ud 234 [2,3] (.c (db J)<|.c (db J)<|.k<|.k<|.k<|.k<|.f<|.f<|.f<|.k<|.c (db J)<|.c (db J)<|.c (db J)<|.k<|.b (.f<|.f<|.k<|.f<|.f<|.k<|.f<|.f .r) (.k<|.k<|.f<|.f<|.k<|.f<|.f .r)) (F0 30 [di r.aj,di 0,di (yu yt ((I (U ae (b9.mk 2 aw ay ax au ao age av start).aw):Int)-1))] (db J)/\F0 30 [di r.to,di 0,di (yu yt ((I (U ae (b9.mk 2 aw ay ax au ao age av start).aw):Int)-1))] (db J)/\Y ((I (U vi r.am):Int)>0)=O/\Y ((I (U vi r.ak):Int)>0)=O/\Y ((I (U vi r.move):Int)>0)=O/\F0 30 [di r.act,di 0,di 2] (db J)/\F0 30 [di r.chan,di 0,di (yu yt ((I (U ae (b9.mk 2 aw ay ax au ao age av start).ay):Int)-1))] (db J)/\F0 30 [di r.letter,di 0,di (yu yt ((I (U ae (b9.mk 2 aw ay ax au ao age av start).ax):Int)-1))] (db J)/\((r.act==0)=J->(r.chan !=0)=O/\(r.letter !=0)=O/\Y ((I (U vi r.path):Int)>0)=O/\Y ((I (U vi r.next):Int)>0)=O/\Y ((I (U dx r.ar):Int)>0)=O/\Y ((I (U vi r.aq):Int)>0)=O/\db (r.second==0)=db J)/\((r.act==0)=O->Y ((I (U vi r.path):Int)>0)=O/\Y ((I (U vi r.next):Int)>0)=O/\Y ((I (U dx r.ar):Int)>0)=O/\Y ((I (U vi r.aq):Int)>0)=O/\db (r.second==0)=db J)) ?_
  rw[Ds _ _ hst,Ds _ _ hpl,Ds _ _ hlt]
  refine⟨h1 _ _ _ a2,h1 _ _ _ a1,fq _ (HL c1),fq _ (HL c2),fq _ (HL c3),h1 _ _ _ d1,h1 _ _ _ d2,h1 _ _ _ d3,fun h=>?_,fun h=>?_⟩
  ·have:=d4 (by simpa using h)
   exact⟨by rw[this.1];rfl,by rw[this.2];rfl,fq _ (HL b4),fq _ (HL b5),fq _ b6,fq _ (HL b7),by rw[b8];rfl⟩
  ·exact⟨fq _ (HL b4),fq _ (HL b5),fq _ b6,fq _ (HL b7),by rw[b8];rfl⟩
 ·rw[Er,HR (fun h=>absurd h (by show ¬(_:Int)=1;simp only;decide))] at hR
  simp only[EO,BU,LR,HB,Il,HK] at hR
  simp only[Eg] at hR
  obtain⟨a1,a2,a3, -, -, -,c1,c2,c3, -, -, -,b4,b5,b6,b7,b8⟩:=hR
  have hl:=hsz.2.2.2.2.2.2.2 (by decide)
  have hA:Ay r.act 0 2=J/\Ay r.chan 0 ((I ay:Int)-1)=J/\Ay r.letter 0 ((I ax:Int)-1)=J/\(r.act=0->r.chan=0/\r.letter=0):=by
   split at a3
   ·rename_i h0
    have h0:r.act=0:=by simpa using h0
    simp only[HB,Il] at a3
    rw[h0,a3.1,a3.2]
    refine⟨by decide,?_,?_,fun _=>⟨rfl,rfl⟩⟩<;>simp only[Ay,HB,HK]<;>omega
   ·rename_i h0
    have h0:r.act≠0:=by simpa using h0
    simp only[HB] at a3
    have:=Cj a3.1
    refine⟨?_,a3.2.1,a3.2.2,fun h=>absurd h h0⟩
    simp only[Ay,HB,HK];omega
  obtain⟨d1,d2,d3,d4⟩:=hA
  refine sv ud 234 [2,3] (.c (db J)<|.c (db J)<|.k<|.k<|.k<|.k<|.f<|.f<|.f<|.k<|.c (db J)<|.c (db J)<|.c (db J)<|.k<|.b (.f<|.f<|.k<|.f<|.f<|.k<|.f<|.f .r) (.k<|.k<|.f<|.f<|.k<|.f<|.f .r)) (F0 30 [di r.aj,di 0,di (yu yt ((I (U ae (b9.mk 3 aw ay ax au ao age av start).aw):Int)-1))] (db J)/\F0 30 [di r.to,di 0,di (yu yt ((I (U ae (b9.mk 3 aw ay ax au ao age av start).aw):Int)-1))] (db J)/\Y ((I (U vi r.am):Int)>0)=O/\Y ((I (U vi r.ak):Int)>0)=O/\Y ((I (U vi r.move):Int)>0)=O/\F0 30 [di r.act,di 0,di 2] (db J)/\F0 30 [di r.chan,di 0,di (yu yt ((I (U ae (b9.mk 3 aw ay ax au ao age av start).ay):Int)-1))] (db J)/\F0 30 [di r.letter,di 0,di (yu yt ((I (U ae (b9.mk 3 aw ay ax au ao age av start).ax):Int)-1))] (db J)/\((r.act==0)=J->(r.chan !=0)=O/\(r.letter !=0)=O/\Y ((I (U vi r.path):Int)>0)=O/\Y ((I (U vi r.next):Int)>0)=O/\Y ((I (U dx r.ar):Int)>0)=O/\Y ((I (U vi r.aq):Int)>0)=O/\db (r.second==0)=db J)/\((r.act==0)=O->Y ((I (U vi r.path):Int)>0)=O/\Y ((I (U vi r.next):Int)>0)=O/\Y ((I (U dx r.ar):Int)>0)=O/\Y ((I (U vi r.aq):Int)>0)=O/\db (r.second==0)=db J)) ?_
  rw[Ds _ _ hst,Ds _ _ hpl,Ds _ _ hlt]
  refine⟨h1 _ _ _ a2,h1 _ _ _ a1,fq _ (HL c1),fq _ (HL c2),fq _ (HL c3),h1 _ _ _ d1,h1 _ _ _ d2,h1 _ _ _ d3,fun h=>?_,fun h=>?_⟩
  ·have:=d4 (by simpa using h)
   exact⟨by rw[this.1];rfl,by rw[this.2];rfl,fq _ (HL b4),fq _ (HL b5),fq _ b6,fq _ (HL b7),by rw[b8];rfl⟩
  ·exact⟨fq _ (HL b4),fq _ (HL b5),fq _ b6,fq _ (HL b7),by rw[b8];rfl⟩
noncomputable abbrev AiV:=Tryz.f66
theorem Kq(l:List Int)(hl:I l<=1000000):F0 66 [cw l] (cw l):=by
 exact sv AiV 5 [] (.a 1<|.w .r) (Ao (I (U vi l)) 8/\(∀(y:V),y∈U vi l->V.size y=1)/\Q (cw l)) ⟨⟨by simp;omega,by simp;omega⟩,Hy l,rfl⟩
noncomputable abbrev AiA:=Tryz.f23
theorem GM(a b:Int):F0 23 [di a,di b] (di (AL a b)):=by
 refine sv AiA 11 [] (.b .r<|.b .r .r) ((Y (a<b)=J->di (-1)=di (AL a b))/\(Y (a<b)=O->(Y (a>b)=J->di 1=di (AL a b))/\(Y (a>b)=O->di 0=di (AL a b)))) ?_
 refine⟨fun h=>?_,fun h=>⟨fun h1=>?_,fun h1=>?_⟩⟩<;>simp_all [AL]<;>omega
noncomputable abbrev Qd:=Tryz.f64
noncomputable def N5:=yl Qd
noncomputable abbrev f7:=fun a₀=>(bz (Ac a₀))
theorem GB(N:Nat):∀v:bc,v.size<=N->∀m:Int,0<=m->m<=1000->F0 64 [dV v,di m] (di (min (v.size:Int) (m+1))):=by
 induction N with
 |zero=>intro v hv;have:=v.size_pos;omega
 |succ N ihN=>
  intro v hv m hm0 hm1
  have hsz:=v.size_eq
  have loop (n:Nat):∀(k:Nat) (a:Int),I v.az-k=n->k+1<=a->a<=m+1->
    Rn PP Qd 0 (di (min (a+(bc.sizes (v.az.drop k):Int)) (m+1))) bd ([kl N5 [1,1,0,1,0,0],.blk 0,kc N5 [1,1,1]]++[]) (ba 31 [(1,di m),(2,.v (.ref (Ac v))),(5,di a),(6,di k)]) bd:=by
   induction n using Nat.strongRecOn with
   |_ n ih=>
   intro k a hn ha0 ha1
   refine lv 31 [2] (.b (.b (.e fun x:bc=>.x (Ac x)<|.c (di (min (x.size:Int) (m-a+1)))<|.l [ke 1,ke 2,ch 5 (di (min (a+(x.size:Int)) (m+1))),ch 6 (di (k+1:Nat))]) .r) .r) ((Y ((k:Int)<(I (cc v.az):Int))=J->(Y (a<=m)=J->∃a_3,0<=(k:Int)/\(cc v.az)[Z (k:Int)]?=G (Ac a_3)/\Aa PP 64 [dV a_3,di (yu yt (m-a))] dh (di (min (↑(jy a_3):Int) (m-a+1))) dh/\di (yu yt (a+min (↑(jy a_3):Int) (m-a+1)))=di (min (a+(↑(jy a_3):Int)) (m+1))/\di (yu yt ((k:Int)+1))=di (↑(k+1):Int)/\Nv.It (AB (CN 0) PP (fun env σ1=>Az PP Qd env σ1 (di (min (a+(↑(bc.sizes (W k v.az)):Int)) (m+1))) bd) [kl N5 d5,bh 0,kc N5 [1,1,1]] (ba 31 [(1,di m),(2,bt (f7 v)),(5,di (min (a+(↑(jy a_3):Int)) (m+1))),(6,di (↑(k+1):Int))]) bd))/\(Y (a<=m)=O->di a=di (min (a+(↑(bc.sizes (W k v.az)):Int)) (m+1))))/\(Y ((k:Int)<(I (cc v.az):Int))=O->di a=di (min (a+(↑(bc.sizes (W k v.az)):Int)) (m+1)))) ⟨fun h=>⟨fun h1=>?_,fun h1=>?_⟩,fun h=>?_⟩
   ·have hk:k<I v.az:=by simpa using h
    have hx:v.az[k]?=G v.az[k]:=HA hk
    rw[HP hk]
    generalize v.az[k]=x at hx⊢
    have hxs:=bc.size_mem (HG hx)
    have hx1:=x.size_pos
    simp only[bc.sizes]
    have h1:=HL h1
    refine⟨x,by omega,An hx,?_,?_,Ae,⟨?_⟩⟩
    ·rw[Al]
     exact ihN x (by omega) (m-a) (by omega) (by omega)
    ·rw[Al (by rw[I9];split<;>omega) (by rw[I9];split<;>omega)]
     simp only[I9];congr 1;split<;>split<;>omega
    ·have:=ih (I v.az- (k+1)) (by omega) (k+1) (min (a+(x.size:Int)) (m+1)) rfl (by rw[I9];split<;>omega) (by rw[I9];split<;>omega)
     rw[show min (min (a+(x.size:Int)) (m+1)+(bc.sizes (v.az.drop (k+1)):Int)) (m+1)=min (a+((x.size+bc.sizes (v.az.drop (k+1)):Nat):Int)) (m+1) by simp only[I9];(repeat' split)<;>omega] at this
     exact this
   ·have h1:=Iu h1
    rw[I9];split<;>congr 1<;>omega
   ·have hk:I v.az<=k:=by simpa using h
    rw[HU hk]
    simp only[bc.sizes];rw[I9];split<;>congr 1<;>omega
  refine sv Qd 31 [2] (.l [ke 1,ke 2,ch 5 (di 1),ch 6 (di (0:Nat))]) (Q (di 1)/\Q (di 0)/\I0 Qd (I bd.H) (di (min (↑(jy v):Int) (m+1))) bd [kl N5 d5,bh 0,kc N5 [1,1,1]] (ba 31 [(1,di m),(2,bt (f7 v)),(5,di 1),(6,di (↑0:Int))]) bd) ⟨rfl,rfl,⟨?_⟩⟩
  have:=loop _ 0 1 rfl (by omega) (by omega)
  rw[Jk,show(1:Int)+(bc.sizes v.az:Int)=v.size by omega] at this
  exact this
theorem Mu{a b:Int}:AL a b=0↔a=b:=by unfold AL;(repeat' split)<;>omega
theorem Ad7(a b:bc):Aq a b=if AL a.n b.n=0 then(if AL (I a.az) (I b.az)=0 then B0 Aq a.az b.az else AL (I a.az) (I b.az)) else AL a.n b.n:=by
 cases a;cases b;simp only[Aq,OM];rfl
noncomputable abbrev Qm:=Tryz.f11
noncomputable def NE:=yl Qm
noncomputable abbrev ip:=fun a₀=>(3,bt (f7 a₀))
theorem Qy(N:Nat):∀a b:bc,a.size<=N->a.fit->F0 11 [dV a,dV b] (di (Aq a b)):=by
 induction N with
 |zero=>intro v _ hv;have:=v.size_pos;omega
 |succ N ihN=>
  intro a b ha ha1
  have hsz:=a.size_eq
  have hlen:=ha1.len
  have loop (hab:I a.az=I b.az) (n:Nat):∀k:Nat,I a.az-k=n->
    Rn PP Qm 0 (di (B0 Aq (a.az.drop k) (b.az.drop k))) bd ([kl NE [1,1,1,0,1,0,0],.blk 0,kc NE [1,1,1,1]]++[]) (ba 52 [(2,.v (.ref (Ac a))),(3,.v (.ref (Ac b))),(5,di k)]) bd:=by
   induction n using Nat.strongRecOn with
   |_ n ih=>
   intro k hn
   refine lv 52 [2,3] (.b (.e fun x:bc=>.x (Ac x)<|.e fun y:bc=>.x (Ac y)<|.c (di (Aq x y))<|.b .r (.l [ke 2,ke 3,ch 5 (di (k+1:Nat))])) .r) ((Y ((k:Int)<(I (cc a.az):Int))=J->∃a_2,0<=(k:Int)/\(cc a.az)[Z (k:Int)]?=G (Ac a_2)/\∃a_3,0<=(k:Int)/\(cc b.az)[Z (k:Int)]?=G (Ac a_3)/\Aa PP 11 [dV a_2,dV a_3] dh (di (Aq a_2 a_3)) dh/\((Aq a_2 a_3 !=0)=J->di (Aq a_2 a_3)=di (B0 Aq (W k a.az) (W k b.az)))/\((Aq a_2 a_3 !=0)=O->di (yu yt ((k:Int)+1))=di (↑(k+1):Int)/\Nv.It (AB (CN 0) PP (fun env σ1=>Az PP Qm env σ1 (di (B0 Aq (W k a.az) (W k b.az))) bd) [kl NE gi,bh 0,kc NE [1,1,1,1]] (ba 52 [(2,bt (f7 a)),(ip b),(5,di (↑(k+1):Int))]) dh)))/\(Y ((k:Int)<(I (cc a.az):Int))=O->di 0=di (B0 Aq (W k a.az) (W k b.az)))) ⟨fun h=>?_,fun h=>?_⟩
   ·have hk:k<I a.az:=by simpa using h
    have hk2:k<I b.az:=by omega
    have hx:a.az[k]?=G a.az[k]:=HA hk
    have hy:b.az[k]?=G b.az[k]:=HA hk2
    rw[HP hk,HP hk2]
    generalize a.az[k]=x at hx⊢
    generalize b.az[k]=y at hy⊢
    have hxs:=bc.size_mem (HG hx)
    refine⟨x,by omega,An hx,y,by omega,An hy,ihN x y (by omega) (ha1.mem (HG hx)),fun h1=>?_,fun h1=>⟨Ae,⟨?_⟩⟩⟩
    ·have h1:Aq x y≠0:=by simpa using h1
     simp only[B0,HR h1]
    ·have h1:Aq x y=0:=by simpa using h1
     simp only[B0,HV h1]
     exact ih (I a.az- (k+1)) (by omega) (k+1) rfl
   ·have hk:I a.az<=k:=by simpa using h
    rw[HU hk,HU (by omega)];rfl
  refine sv Qm 52 [2,3] (.b (.c (di (AL a.n b.n)) .r) (.b (.c (di (AL (I a.az) (I b.az))) .r) (.l [ke 2,ke 3,ch 5 (di (0:Nat))]))) (((a.n !=bc.n b)=J->F0 23 [di a.n,di b.n] (di (AL a.n b.n))/\di (AL a.n b.n)=di (Aq a b))/\((a.n !=bc.n b)=O->(((I (cc a.az):Int) !=(I (cc b.az):Int))=J->F0 23 [di (I (cc a.az):Int),di (I (cc b.az):Int)] (di (AL (I a.az:Int) (I b.az:Int)))/\di (AL (I a.az:Int) (I b.az:Int))=di (Aq a b))/\(((I (cc a.az):Int) !=(I (cc b.az):Int))=O->di 0=di (↑0:Int)/\I0 Qm (I bd.H) (di (Aq a b)) bd [kl NE gi,bh 0,kc NE [1,1,1,1]] (ba 52 [(2,bt (f7 a)),(ip b),(5,di (↑0:Int))]) bd))) ?_
  rw[Ad7]
  refine⟨fun h=>⟨GM _ _,?_⟩,fun h=>⟨fun h1=>⟨?_,?_⟩,fun h1=>⟨rfl,⟨?_⟩⟩⟩⟩
  ·rw[HR (fun e=>(bne_iff_ne.1 h) (Mu.1 e))]
  ·rw[H9,H9];exact GM _ _
  ·have h:a.n=b.n:=by simpa using h
   have h1:(I a.az:Int)≠b.az.length:=by simpa using h1
   rw[HV (Mu.2 h),HR (fun e=>h1 (Mu.1 e))]
  ·have h:a.n=b.n:=by simpa using h
   have h1:(I a.az:Int)=I b.az:=by simpa using h1
   rw[HV (Mu.2 h),HV (Mu.2 h1)]
   exact loop (Int.ofNat_inj.1 h1) _ 0 rfl
theorem Dh(N:Nat)(a b:bc)(_:a.size<=N)(h:a.size<=1000000):F0 11 [dV a,dV b] (di (Aq a b)):=Qy _ a b (HH _) (bc.fit_of a h)
noncomputable abbrev Ai3:=Tryz.f14
theorem X8(a b:bc)(ha:a.fit):F0 14 [dV a,dV b] (db (Aq a b==0)):=by
 exact sv Ai3 9 [2,3] (.c (di (Aq a b)) .r) (_/\Q (db (Aq a b==0))) ⟨Qy _ a b (HH _) ha,rfl⟩
theorem GD(a b:bc)(ha:a.size<=1000000):F0 14 [dV a,dV b] (db (Aq a b==0)):=X8 a b (bc.fit_of a ha)
noncomputable abbrev Qe:=Tryz.f152
noncomputable def N7:=yl Qe
theorem UI(r:List Int)(hr:CM r=J)(n:Nat):∀k:Nat,I r-k=n->
  Rn PP Qe 0 (db J) bd ([kl N7 [1,0,1,0,0],.blk 0,kc N7 [1,1]]++[]) (ba 30 [(0,cw r),(3,di k)]) bd:=by
 induction n using Nat.strongRecOn with
 |_ n ih=>
 intro k hn
 simp only[CM,HB,I2,List.any_eq_false] at hr
 obtain⟨h1,h2,h3⟩:=hr
 have hlen:=HL h2
 refine lv 30 [] (.b (.e fun x:Int=>.x (vi x)<|.f<|.x (vi x)<|.f<|.l [ke 0,ch 3 (di (k+1:Nat))]) (.t .r)) ((Y ((k:Int)<(I (U vi r):Int))=J->∃a,0<=(k:Int)/\(U vi r)[Z (k:Int)]?=G (vi a)/\Y (a<0)=O/\0<=(k:Int)/\(U vi r)[Z (k:Int)]?=G (vi a)/\Y (a>=6)=O/\di (yu yt ((k:Int)+1))=di (↑(k+1):Int)/\Nv.It (AB (CN 0) PP (fun env σ1=>Az PP Qe env σ1 (db J) bd) [kl N7 [1,0,1,0,0],bh 0,kc N7 [1,1]] (ba 30 [(0,cw r),(3,di (↑(k+1):Int))]) bd))/\(Y ((k:Int)<(I (U vi r):Int))=O->Y ((I (U vi r):Int)>=1)=J/\db (Y ((I (U vi r):Int)<=6))=db J)) ⟨fun h=>?_,fun h=>⟨by rw[H9];exact h1,by rw[H9];exact HX db h2⟩⟩
 have hk:k<I r:=by simpa using h
 have hx:r[k]?=G r[k]:=HA hk
 generalize r[k]=x at hx
 have h4:=h3 x (HG hx)
 simp only[UJ,Bool.not_eq_true,Bool.or_eq_false_iff] at h4
 exact⟨x,by omega,Am hx,h4.1,by omega,Am hx,h4.2,Ae,⟨ih (I r- (k+1)) (by omega) (k+1) rfl⟩⟩
theorem MJ(r:List Int)(hr:CM r=J):F0 152 [cw r] (db J):=by
 exact sv Qe 30 [] (.l [ke 0,ch 3 (di (0:Nat))]) (Q (di 0)/\_) ⟨rfl,iK (UI r hr _ 0 rfl)⟩
noncomputable abbrev nq:=Tryz.f36
noncomputable def TA:=yl nq
abbrev Ym(l:List cy)(n:Nat):St:=⟨[G [di 0,di 0,.v .nils,.v .nils],G [di 3,di 0,.v (.list []),.acc 1 (l.map eT)],G [di 2,di n,.v (.list []),.v (.list [])]],[(1,4,l.map eT)]⟩
theorem U3(m:b9)(hm:m.okN)(hk:m.kind=1)(n:Nat):∀(k:Nat) (xs:List cy),I m.ay-k=n->k<=I m.ay->I xs<=k+1->
  Rn PP nq 0 (dT (.prod (xs++replicate n (.nat)))) bd ([kl TA [1,1,1,0,1,0,1,1,1,1,1,0,0],.blk 1,.blk 0,kc TA [1,1,1,1]]++[]) (ba 96 [(1,.v (.ref (A1 m))),(2,.ptr 0 0),(3,.ptr 1 0),(4,.ptr 2 0),(8,di k)]) (Ym xs (I m.ax)):=by
 have hsz:=hm.sz
 induction n with
 |zero=>
  intro k xs hn hk0 hxs
  refine lv 96 [1] (.f .r) (Y ((k:Int)<(I (dm m.ay):Int))=O/\bt (qo xs)=dT (cy.prod (xs++replicate 0 cy.nat))) ⟨by rw[H9];exact yq,?_⟩
  rw[List.replicate_zero,Iz];rfl
 |succ n ih=>
  intro k xs hn hk0 hxs
  have h:=ih (k+1) (xs++[.nat]) (by omega) (by omega) (by simp only[HO,HF,HJ];omega)
  rw[IG] at h
  refine lv 96 [1] (.t<|.f<|.f<|.ls [ke 1,ke 2,ke 3,ke 4,ch 8 (di (k+1:Nat))] (Ym (xs++[.nat]) (I m.ax))) (Y ((k:Int)<(I (dm m.ay):Int))=J/\(m.kind==2)=O/\(m.kind==3)=O/\Q (U eT xs)/\Ao (I (U eT xs)+I (ab (aa yt 1::aa yt 0::ai nV::ai nV::nV)::nV)) 64/\di (yu yt ((k:Int)+1))=di (↑(k+1):Int)/\[G k6,G [di 3,di 0,bt (ai nV),br 1 (U eT xs++ab ve::nV)],G [di 2,di (I m.ax:Int),bt (ai nV),bt (ai nV)]]=[G k6,G [di 3,di 0,bt (ai nV),br 1 (U eT (xs++[cy.nat]))],G [di 2,di (I m.ax:Int),bt (ai nV),bt (ai nV)]]/\[(1,4,U eT xs++ab ve::nV)]=[(1,4,U eT (xs++[cy.nat]))]/\_) ⟨by rw[H9];exact yr,by rw[hk];rfl,by rw[hk];rfl,rfl,⟨?_,?_⟩,Ae,?_,?_,iK h⟩
  ·simp only[H9,HF,HJ];omega
  ·simp only[H9,HF,HJ];omega
  ·rw[←Cr];rfl
  ·rw[←Cr];rfl
theorem U2(m:b9)(hm:m.okN)(hk:m.kind=2)(n:Nat):∀(k:Nat) (xs:List cy),I m.ay-k=n->k<=I m.ay->I xs<=k+1->
  Rn PP nq 0 (dT (.prod (xs++replicate n (.word (.lab (I m.ax)))))) bd ([kl TA [1,1,1,0,1,0,1,1,1,1,1,0,0],.blk 1,.blk 0,kc TA [1,1,1,1]]++[]) (ba 96 [(1,.v (.ref (A1 m))),(2,.ptr 0 0),(3,.ptr 1 0),(4,.ptr 2 0),(8,di k)]) (Ym xs (I m.ax)):=by
 have hsz:=hm.sz
 induction n with
 |zero=>
  intro k xs hn hk0 hxs
  refine lv 96 [1] (.f .r) (Y ((k:Int)<(I (dm m.ay):Int))=O/\bt (qo xs)=dT (cy.prod (xs++replicate 0 (cy.word (cy.lab (I m.ax:Int)))))) ⟨by rw[H9];exact yq,?_⟩
  rw[List.replicate_zero,Iz];rfl
 |succ n ih=>
  intro k xs hn hk0 hxs
  have h:=ih (k+1) (xs++[.word (.lab (I m.ax))]) (by omega) (by omega) (by simp only[HO,HF,HJ];omega)
  rw[IG] at h
  refine lv 96 [1] (.t<|.t<|.f<|.ls [ke 1,ke 2,ke 3,ke 4,ch 8 (di (k+1:Nat))] (Ym (xs++[.word (.lab (I m.ax))]) (I m.ax))) (Y ((k:Int)<(I (dm m.ay):Int))=J/\(m.kind==2)=J/\(m.kind==3)=O/\Q (U eT xs)/\Ao (I (U eT xs)+I (ab (aa yt 4::aa yt 0::ai nV::ai (ab (aa yt 2::aa yt (I m.ax:Int)::ai nV::ai nV::nV)::nV)::nV)::nV)) 64/\di (yu yt ((k:Int)+1))=di (↑(k+1):Int)/\[G k6,G [di 3,di 0,bt (ai nV),br 1 (U eT xs++ab (vi 4::vi 0::ai nV::ai (ab (vi 2::vi (I m.ax:Int)::ai nV::ai nV::nV)::nV)::nV)::nV)],G [di 2,di (I m.ax:Int),bt (ai nV),bt (ai nV)]]=[G k6,G [di 3,di 0,bt (ai nV),br 1 (U eT (xs++[cy.word (cy.lab (I m.ax:Int))]))],G [di 2,di (I m.ax:Int),bt (ai nV),bt (ai nV)]]/\[(1,4,U eT xs++ab (vi 4::vi 0::ai nV::ai (ab (vi 2::vi (I m.ax:Int)::ai nV::ai nV::nV)::nV)::nV)::nV)]=[(1,4,U eT (xs++[cy.word (cy.lab (I m.ax:Int))]))]/\_) ⟨by rw[H9];exact yr,by rw[hk];rfl,by rw[hk];rfl,rfl,⟨?_,?_⟩,Ae,?_,?_,iK h⟩
  ·simp only[H9,HF,HJ];omega
  ·simp only[H9,HF,HJ];omega
  ·rw[←Cr];rfl
  ·rw[←Cr];rfl
theorem U1(m:b9)(hm:m.okN)(hk:m.kind=3)(n:Nat):∀(k:Nat) (xs:List cy),I m.ay-k=n->k<=I m.ay->I xs<=k+1->
  Rn PP nq 0 (dT (.prod (xs++replicate n (.prio (I m.ax) m.au)))) bd ([kl TA [1,1,1,0,1,0,1,1,1,1,1,0,0],.blk 1,.blk 0,kc TA [1,1,1,1]]++[]) (ba 96 [(1,.v (.ref (A1 m))),(2,.ptr 0 0),(3,.ptr 1 0),(4,.ptr 2 0),(8,di k)]) (Ym xs (I m.ax)):=by
 have hsz:=hm.sz
 induction n with
 |zero=>
  intro k xs hn hk0 hxs
  refine lv 96 [1] (.f .r) (Y ((k:Int)<(I (dm m.ay):Int))=O/\bt (qo xs)=dT (cy.prod (xs++replicate 0 (cy.prio (I m.ax:Int) m.au)))) ⟨by rw[H9];exact yq,?_⟩
  rw[List.replicate_zero,Iz];rfl
 |succ n ih=>
  intro k xs hn hk0 hxs
  have h:=ih (k+1) (xs++[.prio (I m.ax) m.au]) (by omega) (by omega) (by simp only[HO,HF,HJ];omega)
  rw[IG] at h
  refine lv 96 [1] (.t<|.f<|.t<|.c (cw m.au)<|.ls [ke 1,ke 2,ke 3,ke 4,ch 8 (di (k+1:Nat))] (Ym (xs++[.prio (I m.ax) m.au]) (I m.ax))) (Y ((k:Int)<(I (dm m.ay):Int))=J/\(m.kind==2)=O/\(m.kind==3)=J/\_/\Q (U eT xs)/\Ao (I (U eT xs)+I (ab (aa yt 7::aa yt (I (dm m.ax):Int)::cz m.au::ai nV::nV)::nV)) 64/\di (yu yt ((k:Int)+1))=di (↑(k+1):Int)/\[G k6,G [di 3,di 0,bt (ai nV),br 1 (U eT xs++ab (vi 7::vi (I (dm m.ax):Int)::cz m.au::ai nV::nV)::nV)],G [di 2,di (I m.ax:Int),bt (ai nV),bt (ai nV)]]=[G k6,G [di 3,di 0,bt (ai nV),br 1 (U eT (xs++[cy.prio (I m.ax:Int) m.au]))],G [di 2,di (I m.ax:Int),bt (ai nV),bt (ai nV)]]/\[(1,4,U eT xs++ab (vi 7::vi (I (dm m.ax):Int)::cz m.au::ai nV::nV)::nV)]=[(1,4,U eT (xs++[cy.prio (I m.ax:Int) m.au]))]/\_) ⟨by rw[H9];exact yr,by rw[hk];rfl,by rw[hk];rfl,Kq m.au (by omega),rfl,⟨?_,?_⟩,Ae,?_,?_,iK h⟩
  ·simp only[H9,HF,HJ];omega
  ·simp only[H9,HF,HJ];omega
  ·rw[←Cr];rw[H9];rfl
  ·rw[←Cr];rw[H9];rfl
noncomputable abbrev jr:=(3,bq 1 0)
theorem Pn(m:b9)(hm:m.okN):F0 36 [Af m] (dT (AF m)):=by
 have hk:=hm.kind
 refine sv nq 96 [1] (.a 1<|.h .g<|.f<|.f<|.ls [ke 1,ke 2,ke 3,ke 4,ch 8 (di (0:Nat))] (Ym [.lab (I m.aw)] (I m.ax))) ((m.kind==4)=O/\(m.kind==5)=O/\Q (di 0)/\[G k6,G [di 3,di 0,bt (ai nV),br 1 (ab (vi 2::vi (I (dm m.aw):Int)::ai nV::ai nV::nV)::nV)],G [di 2,di (I (dm m.ax):Int),bt (ai nV),bt (ai nV)]]=[G k6,G [di 3,di 0,bt (ai nV),br 1 (eT (cy.lab (I m.aw:Int))::nV)],G [di 2,di (I m.ax:Int),bt (ai nV),bt (ai nV)]]/\[(1,4,ab (vi 2::vi (I (dm m.aw):Int)::ai nV::ai nV::nV)::nV)]=[(1,4,eT (cy.lab (I m.aw:Int))::nV)]/\I0 nq (I bd.H) (dT (AF m)) bd [kl TA [1,1,1,0,1,0,1,1,1,1,1,0,0],bh 1,bh 0,kc TA [1,1,1,1]] (ba 96 [(1,bt (ic m)),i7,jr,(4,bq 2 0),(8,di (↑0:Int))]) (Ym [cy.lab (I m.aw:Int)] (I m.ax))) ⟨by rcases hk with h|h|h<;>rw[h]<;>rfl,by rcases hk with h|h|h<;>rw[h]<;>rfl,rfl,by rw[H9,H9];rfl,by rw[H9];rfl,⟨?_⟩⟩
 rcases hk with h|h|h
 ·have:=U3 m hm h _ 0 [.lab (I m.aw)] rfl (by omega) (by simp)
  rw[Nat.sub_zero] at this
  rw[AF,show Cl m=.nat by simp[Cl,h]]
  exact this
 ·have:=U2 m hm h _ 0 [.lab (I m.aw)] rfl (by omega) (by simp)
  rw[Nat.sub_zero] at this
  rw[AF,show Cl m=.word (.lab (I m.ax)) by simp[Cl,h]]
  exact this
 ·have:=U1 m hm h _ 0 [.lab (I m.aw)] rfl (by omega) (by simp)
  rw[Nat.sub_zero] at this
  rw[AF,show Cl m=.prio (I m.ax) m.au by simp[Cl,h]]
  exact this
noncomputable abbrev M6:=Tryz.f104
noncomputable def OQ:=yl M6
theorem AaV(d:Nat):F0 104 [dT .nat,di ((d+1:Nat):Int)] (db J):=by
 have hz:(((d+1:Nat):Int)==0)=O:=Ip.2 (by omega)
 exact sv M6 132 [2] (.f .r) (_/\Q (db J)) ⟨hz,rfl⟩
theorem Hr(d:Nat)(n:Int)(h1:1<=n)(h2:n<=16):F0 104 [dT (.lab n),di ((d+1:Nat):Int)] (db J):=by
 have hz:(((d+1:Nat):Int)==0)=O:=Ip.2 (by omega)
 exact sv M6 132 [2] (.f<|.k<|.k<|.k<|.k<|.k<|.t<|.t .r) (_/\Y (cy.sz (cy.lab n)>=1)=J/\Y (cy.sz (cy.lab n)<=16)=J/\Q (db J)) ⟨hz,HC h1,HC h2,rfl⟩
theorem WF(d:Nat)(n:Int)(r:List Int)(h1:n=I r)(h2:CM r=J):F0 104 [dT (.prio n r),di ((d+1:Nat):Int)] (db J):=by
 have hz:(((d+1:Nat):Int)==0)=O:=Ip.2 (by omega)
 have h3:=h2
 simp only[CM,HB,HK] at h3
 refine sv M6 132 [2] (.f<|.t<|.k<|.k<|.k<|.k<|.k<|.t<|.t<|.k<|.t<|.c (db J) .r) (_/\Y ((I (U vi (cy.rk (cy.prio n r))):Int)>0)=J/\Y (cy.sz (cy.prio n r)>=1)=J/\Y (cy.sz (cy.prio n r)<=6)=J/\((I (U vi (cy.rk (cy.prio n r))):Int)==cy.sz (cy.prio n r))=J/\_/\Q (db J)) ⟨hz,HC ?_,HC ?_,HC ?_,?_,MJ r h2,rfl⟩
 ·simp only[cy.rk,H9];omega
 ·simp only[cy.sz];omega
 ·simp only[cy.sz];omega
 ·simp only[cy.sz,cy.rk,H9,h1,beq_self_eq_true]
theorem WC(d:Nat)(t:cy)(hd:d<=100)(h:F0 104 [dT t,di d] (db J)):F0 104 [dT (.word t),di ((d+1:Nat):Int)] (db J):=by
 rw[dT,NT]
 refine sv M6 132 [2] (.f<|.x (vT t)<|.c (db J) .r) (((↑(d+1):Int)==0)=O/\iz 0<=0/\Q (G (vT t))/\F0 104 [bt (vT t),di (yu yt ((↑(d+1):Int)-1))] (db J)/\Q (db J)) ?_
 have hz:(((d+1:Nat):Int)==0)=O:=Ip.2 (by omega)
 rw[show yt.wrap (((d+1:Nat):Int)-1)=d by rw[Al];omega]
 exact⟨hz,by decide,rfl,h,rfl⟩
theorem WG(d:Nat)(l:List cy)(hd:d<=100)(hl:I l<=8)(h:∀t∈l,F0 104 [dT t,di d] (db J))(n:Nat):∀k:Nat,I l-k=n->
  Rn PP M6 0 (db J) bd ([kl OQ [1,1,0,1,0,1,1,1,1,1,1,1,1,1,0,1,0,1,0,0],.blk 1,kc OQ [1,1,0,1,0,1,1,1,1,1,1,1,1,1,0,1,1],.blk 0,kc OQ [1,1,1]]++[]) (ba 132 [(1,di ((d+1:Nat):Int)),(2,.v (.ref (vT (.prod l)))),(5,di k)]) bd:=by
 induction n using Nat.strongRecOn with
 |_ n ih=>
 intro k hn
 refine lv 132 [2] (.b (.e fun t:cy=>.x (vT t)<|.c (db J)<|.l [ke 1,ke 2,ch 5 (di (k+1:Nat))]) .r) ((Y ((k:Int)<(I (io l):Int))=J->∃a,0<=(k:Int)/\(io l)[Z (k:Int)]?=G (vT a)/\Aa PP 104 [bt (vT a),di (yu yt ((↑(d+1):Int)-1))] dh (db J) dh/\di (yu yt ((k:Int)+1))=di (↑(k+1):Int)/\Nv.It (AB (CN 0) PP (fun env σ1=>Az PP M6 env σ1 (db J) bd) [kl OQ [1,1,0,1,0,1,1,1,1,1,1,1,1,1,0,1,0,1,0,0],bh 1,kc OQ [1,1,0,1,0,1,1,1,1,1,1,1,1,1,0,1,1],bh 0,kc OQ [1,1,1]] (ba 132 [(1,di (↑(d+1):Int)),(oy l),(5,di (↑(k+1):Int))]) bd))/\(Y ((k:Int)<(I (io l):Int))=O->Q (db J))) ?_
 rw[show yt.wrap (((d+1:Nat):Int)-1)=d by rw[Al];omega]
 refine⟨fun h1=>?_,fun h1=>rfl⟩
 have hk:k<I l:=by simpa[cy.ps] using h1
 have hx:l[k]?=G l[k]:=HA hk
 generalize l[k]=t at hx
 exact⟨t,by omega,OD hx,h t (HG hx),Ae,⟨ih (I l- (k+1)) (by omega) (k+1) rfl⟩⟩
theorem Lv(d:Nat)(l:List cy)(hd:d<=100)(h1:((I l:Int)==0)=O)(h2:Y ((I l:Int)>8)=O)(h:∀t∈l,F0 104 [dT t,di d] (db J)):F0 104 [dT (.prod l),di ((d+1:Nat):Int)] (db J):=by
 have hz:(((d+1:Nat):Int)==0)=O:=Ip.2 (by omega)
 have h3:¬((I l:Int)>8):=Iu h2
 have h4:(I l:Int)≠0:=by simpa using h1
 refine sv M6 132 [2] (.f<|.k<|.k<|.k<|.k<|.k<|.k<|.k<|.k<|.k<|.k<|.f<|.f<|.l [ke 1,ke 2,ch 5 (di (0:Nat))]) (_/\Y ((I (io l):Int)<1)=O/\Y ((I (io l):Int)>8)=O/\Q (di 0)/\_) ⟨hz,HE ?_,by simpa[cy.ps] using h2,rfl,iK (WG d l hd (by omega) h _ 0 rfl)⟩
 simp only[cy.ps,H9];omega
theorem WE(m:b9)(hm:m.okN):F0 104 [dT (AF m),di 8] (db J):=by
 have hg:=hm.good
 simp only[AF,CB,HB,I2,Iw] at hg
 obtain⟨h1,h2,h3⟩:=hg
 refine Lv 7 _ (by omega) h1 h2 fun t ht=>?_
 have hgt:=h3 t ht
 rcases Iq.1 ht with rfl|ht
 ·simp only[CB,HB,HK] at hgt
  exact Hr 6 _ hgt.1 hgt.2
 ·have e:=(List.mem_replicate.1 ht).2
  subst e
  unfold Cl at hgt⊢
  split
  ·exact AaV 6
  ·rename_i hk
   rw[HR hk] at hgt
   split
   ·rename_i hk2
    rw[HV hk2] at hgt
    simp only[CB,HB,HK] at hgt
    exact WC 6 _ (by omega) (Hr 5 _ hgt.1 hgt.2)
   ·rename_i hk2
    rw[HR hk2] at hgt
    simp only[CB,HB,Il] at hgt
    exact WF 6 _ _ hgt.1 hgt.2
noncomputable abbrev Ae7:=Tryz.f63
theorem VT(m:b9)(hm:m.okN):F0 63 [dT (AF m)] (di 0):=by
 exact sv Ae7 6 [1] (.c (db J) .r) (_/\Q (di 0)) ⟨WE m hm,rfl⟩
noncomputable abbrev DM:=Tryz.f65
noncomputable def Cw:=yl DM
theorem Ac4(v:bc):F0 65 [dT .nat,dV v] (db (Ar .nat v)):=by
 refine sv DM 169 [2,3] (.k<|.b (.b .r .r) .r) ((Y (v.n>=0)=J->(Y (v.n<=1048576)=J->db ((I (cc v.az):Int)==0)=db (Ar cy.nat v))/\(Y (v.n<=1048576)=O->db O=db (Ar cy.nat v)))/\(Y (v.n>=0)=O->db O=db (Ar cy.nat v))) ?_
 refine⟨fun h1=>⟨fun h2=>?_,fun h2=>?_⟩,fun h1=>?_⟩<;>simp_all [Ar]<;>(intros;omega)
theorem KZ(n:Int)(v:bc):F0 65 [dT (.lab n),dV v] (db (Ar (.lab n) v)):=by
 refine sv DM 169 [2,3] (.k<|.k<|.b (.b .r .r) .r) ((Y (v.n>=0)=J->(Y (v.n<cy.sz (cy.lab n))=J->db ((I (cc v.az):Int)==0)=db (Ar (cy.lab n) v))/\(Y (v.n<cy.sz (cy.lab n))=O->db O=db (Ar (cy.lab n) v)))/\(Y (v.n>=0)=O->db O=db (Ar (cy.lab n) v))) ?_
 refine⟨fun h1=>⟨fun h2=>?_,fun h2=>?_⟩,fun h1=>?_⟩<;>(try simp only[cy.sz,H9] at*)<;>simp only[Ar,Cx,h1,Ij,Ih]<;>(by_cases hh:v.n<n<;>simp_all)<;>(intros;omega)
noncomputable abbrev mc:=[kl Cw gi,bh 3,kc Cw [1,1,1,1]]
theorem UX(t:cy)(v:bc)(hv:I v.az<=12)(h:∀k∈v.az,F0 65 [dT t,dV k] (db (Ar t k)))(n:Nat):∀k:Nat,I v.az-k=n->
  Rn PP DM 0 (db ((v.az.drop k).all fun x=>Ar t x)) bd ([kl Cw [1,1,1,0,1,0,0],.blk 3,kc Cw [1,1,1,1]]++[]) (ba 169 [(2,.v (.ref (jd 4 0 [] [vT t]))),(3,.v (.ref (Ac v))),(6,di k)]) bd:=by
 induction n using Nat.strongRecOn with
 |_ n ih=>
 intro k hn
 refine lv 169 [2,3] (.b (.e fun x:bc=>.x (vT t)<|.x (Ac x)<|.c (db (Ar t x))<|.b .r (.l [ke 2,ke 3,ch 6 (di (k+1:Nat))])) .r) ((Y ((k:Int)<(I (cc v.az):Int))=J->∃a,iz 0<=0/\G (vT t)=G (vT t)/\0<=(k:Int)/\(cc v.az)[Z (k:Int)]?=G (Ac a)/\Aa PP 65 [bt (vT t),dV a] dh (db (Ar t a)) dh/\((!Ar t a)=J->db O=db (List.all (W k v.az) fun x=>Ar t x))/\((!Ar t a)=O->di (yu yt ((k:Int)+1))=di (↑(k+1):Int)/\Nv.It (AB (CN 0) PP (fun env σ1=>Az PP DM env σ1 (db (List.all (W k v.az) fun x=>Ar t x)) bd) mc (ba 169 [(2,bt (bz (jd 4 0 [] [vT t]))),(ip v),(6,di (↑(k+1):Int))]) dh)))/\(Y ((k:Int)<(I (cc v.az):Int))=O->db J=db (List.all (W k v.az) fun x=>Ar t x))) ⟨fun h1=>?_,fun h1=>?_⟩
 ·have hk:k<I v.az:=by simpa using h1
  have hx:v.az[k]?=G v.az[k]:=HA hk
  rw[HP hk]
  generalize v.az[k]=x at hx⊢
  refine⟨x,by decide,rfl,by omega,An hx,h x (HG hx),fun h2=>?_,fun h2=>⟨Ae,⟨?_⟩⟩⟩
  ·have h2:Ar t x=O:=by simpa using h2
   rw[all_cons,h2,Ih]
  ·have h2:Ar t x=J:=by simpa using h2
   rw[all_cons,h2,Ij]
   exact ih (I v.az- (k+1)) (by omega) (k+1) rfl
 ·have hk:I v.az<=k:=by simpa using h1
  rw[HU hk];rfl
theorem YD(t:cy)(v:bc)(h:∀k∈v.az,F0 65 [dT t,dV k] (db (Ar t k))):F0 65 [dT (.word t),dV v] (db (Ar (.word t) v)):=by
 rw[dT,NT]
 refine sv DM 169 [2,3] (.k<|.k<|.k<|.k<|.b .r (.b .r (.l [ke 2,ke 3,ch 6 (di (0:Nat))]))) (((v.n !=0)=J->db O=db (Ar (cy.word t) v))/\((v.n !=0)=O->(Y ((I (cc v.az):Int)>12)=J->db O=db (Ar (cy.word t) v))/\(Y ((I (cc v.az):Int)>12)=O->di 0=di (↑0:Int)/\I0 DM (I bd.H) (db (Ar (cy.word t) v)) bd mc (ba 169 [(2,bt (bz (jd 4 0 [] [vT t]))),(ip v),(6,di (↑0:Int))]) bd))) ⟨fun h1=>?_,fun h1=>⟨fun h2=>?_,fun h2=>⟨rfl,⟨?_⟩⟩⟩⟩
 ·have h1:(v.n==0)=O:=by simpa using h1
  simp only[Ar,h1,Ih]
 ·have h2:¬((I v.az:Int)<=12):=by simpa using h2
  simp only[Ar,HE h2,Ih,Jn]
 ·have h1:(v.n==0)=J:=by simpa using h1
  have h2:(I v.az:Int)<=12:=by simpa using h2
  simp only[Ar,h1,HC h2,Ij]
  exact UX t v (by omega) h _ 0 rfl
theorem UY(sz:Int)(r:List Int)(v:bc)(hv:I v.az<=12)(n:Nat):∀k:Nat,I v.az-k=n->
  Rn PP DM 0 (db ((v.az.drop k).all fun x=>Cx sz x)) bd ([kl Cw [1,1,1,0,1,0,0],.blk 3,kc Cw [1,1,1,1]]++[]) (ba 169 [(2,.v (.ref (vT (.prio sz r)))),(3,.v (.ref (Ac v))),(6,di k)]) bd:=by
 induction n using Nat.strongRecOn with
 |_ n ih=>
 intro k hn
 refine lv 169 [2,3] (.b (.e fun x:bc=>.k<|.h (.xs (Ac x))<|.b .r (.h (.xs (Ac x))<|.b .r (.h (.xs (Ac x))<|.b .r (.l [ke 2,ke 3,ch 6 (di (k+1:Nat))])))) .r) ((Y ((k:Int)<(I (cc v.az):Int))=J->∃a,2=2/\0<=(k:Int)/\(cc v.az)[Z (k:Int)]?=G (Ac a)/\(Y (a.n<0)=J->db O=db (List.all (W k v.az) fun x=>Cx sz x))/\(Y (a.n<0)=O->2=2/\0<=(k:Int)/\(cc v.az)[Z (k:Int)]?=G (Ac a)/\(Y (a.n>=cy.sz (cy.prio sz r))=J->db O=db (List.all (W k v.az) fun x=>Cx sz x))/\(Y (a.n>=cy.sz (cy.prio sz r))=O->2=2/\0<=(k:Int)/\(cc v.az)[Z (k:Int)]?=G (Ac a)/\(Y ((I (cc a.az):Int)>0)=J->db O=db (List.all (W k v.az) fun x=>Cx sz x))/\(Y ((I (cc a.az):Int)>0)=O->di (yu yt ((k:Int)+1))=di (↑(k+1):Int)/\Nv.It (AB (CN 0) PP (fun env σ1=>Az PP DM env σ1 (db (List.all (W k v.az) fun x=>Cx sz x)) bd) mc (ba 169 [(2,bt (bz (vT (cy.prio sz r)))),(ip v),(6,di (↑(k+1):Int))]) dh)))))/\(Y ((k:Int)<(I (cc v.az):Int))=O->db J=db (List.all (W k v.az) fun x=>Cx sz x))) ⟨fun h1=>?_,fun h1=>?_⟩
 ·have hk:k<I v.az:=by simpa using h1
  have hx:v.az[k]?=G v.az[k]:=HA hk
  rw[HP hk]
  generalize v.az[k]=x at hx⊢
  refine⟨x,rfl,by omega,An hx,fun h2=>?_,fun h2=>⟨rfl,by omega,An hx,fun h3=>?_,fun h3=>⟨rfl,by omega,An hx,fun h4=>?_,fun h4=>⟨Ae,⟨?_⟩⟩⟩⟩⟩
  ·have h2:¬(x.n>=0):=by have:=HL h2;omega
   rw[all_cons,Cx,HE h2,Ih,Ih]
  ·have h3:¬(x.n<sz):=by have:=HL h3;simp only[cy.sz] at this;omega
   rw[all_cons,Cx,HE h3,Ih,Jn,Ih]
  ·have h4:((I x.az:Int)==0)=O:=by have:=HL h4;rw[H9] at this;exact Ip.2 (by omega)
   rw[all_cons,Cx,h4,Jn,Jn,Ih]
  ·have h2:x.n>=0:=by have:=Iu h2;omega
   have h3:x.n<sz:=by have:=Iu h3;simp only[cy.sz] at this;omega
   have h4:((I x.az:Int)==0)=J:=by have:=Iu h4;rw[H9] at this;exact Il.2 (by omega)
   rw[all_cons,Cx,HC h2,HC h3,h4,Ij,Ij,Ij]
   exact ih (I v.az- (k+1)) (by omega) (k+1) rfl
 ·have hk:I v.az<=k:=by simpa using h1
  rw[HU hk];rfl
theorem YG(sz:Int)(r:List Int)(v:bc):F0 65 [dT (.prio sz r),dV v] (db (Ar (.prio sz r) v)):=by
 refine sv DM 169 [2,3] (.k<|.k<|.k<|.k<|.b .r (.b .r (.l [ke 2,ke 3,ch 6 (di (0:Nat))]))) (((v.n !=0)=J->db O=db (Ar (cy.prio sz r) v))/\((v.n !=0)=O->(Y ((I (cc v.az):Int)>12)=J->db O=db (Ar (cy.prio sz r) v))/\(Y ((I (cc v.az):Int)>12)=O->di 0=di (↑0:Int)/\I0 DM (I bd.H) (db (Ar (cy.prio sz r) v)) bd mc (ba 169 [(2,bt (bz (vT (cy.prio sz r)))),(ip v),(6,di (↑0:Int))]) bd))) ⟨fun h1=>?_,fun h1=>⟨fun h2=>?_,fun h2=>⟨rfl,⟨?_⟩⟩⟩⟩
 ·have h1:(v.n==0)=O:=by simpa using h1
  simp only[Ar,h1,Ih]
 ·have h2:¬((I v.az:Int)<=12):=by simpa using h2
  simp only[Ar,HE h2,Ih,Jn]
 ·have h1:(v.n==0)=J:=by simpa using h1
  have h2:(I v.az:Int)<=12:=by simpa using h2
  simp only[Ar,h1,HC h2,Ij]
  exact UY sz r v (by omega) _ 0 rfl
noncomputable abbrev Ap9:=[kl Cw [1,0,1,0,1,1,1,1,1,1,1,0,1,0,1,0,0],bh 1,kc Cw [1,0,1,0,1,1,1,1,1,1,1,0,1,1],bh 0,kc Cw [1,1]]
theorem UZ(l:List cy)(v:bc)(hl:I v.az=I l)(hv:I v.az<=1000000)(h:∀t∈l,∀k∈v.az,F0 65 [dT t,dV k] (db (Ar t k)))(n:Nat):∀k:Nat,I l-k=n->
  Rn PP DM 0 (db (BA (l.drop k) (v.az.drop k))) bd ([kl Cw [1,0,1,0,1,1,1,1,1,1,1,0,1,0,1,0,0],.blk 1,kc Cw [1,0,1,0,1,1,1,1,1,1,1,0,1,1],.blk 0,kc Cw [1,1]]++[]) (ba 169 [(2,.v (.ref (vT (.prod l)))),(3,.v (.ref (Ac v))),(5,di k)]) bd:=by
 induction n using Nat.strongRecOn with
 |_ n ih=>
 intro k hn
 refine lv 169 [2,3] (.b (.e fun t:cy=>.x (vT t)<|.e fun x:bc=>.x (Ac x)<|.c (db (Ar t x))<|.b .r (.l [ke 2,ke 3,ch 5 (di (k+1:Nat))])) .r) ((Y ((k:Int)<(I (cc v.az):Int))=J->∃a,0<=(k:Int)/\(io l)[Z (k:Int)]?=G (vT a)/\∃a_1,0<=(k:Int)/\(cc v.az)[Z (k:Int)]?=G (Ac a_1)/\Aa PP 65 [bt (vT a),dV a_1] dh (db (Ar a a_1)) dh/\((!Ar a a_1)=J->db O=db (BA (W k l) (W k v.az)))/\((!Ar a a_1)=O->di (yu yt ((k:Int)+1))=di (↑(k+1):Int)/\Nv.It (AB (CN 0) PP (fun env σ1=>Az PP DM env σ1 (db (BA (W k l) (W k v.az))) bd) Ap9 (ba 169 [(oy l),(ip v),(5,di (↑(k+1):Int))]) dh)))/\(Y ((k:Int)<(I (cc v.az):Int))=O->db J=db (BA (W k l) (W k v.az)))) ⟨fun h1=>?_,fun h1=>?_⟩
 ·have hk:k<I v.az:=by simpa using h1
  have hk2:k<I l:=by omega
  have hx:v.az[k]?=G v.az[k]:=HA hk
  have hy:l[k]?=G l[k]:=HA hk2
  rw[HP hk,HP hk2]
  generalize v.az[k]=x at hx⊢
  generalize l[k]=t at hy⊢
  refine⟨t,by omega,OD hy,x,by omega,An hx,h t (HG hy) x (HG hx),fun h2=>?_,fun h2=>⟨Ae,⟨?_⟩⟩⟩
  ·have h2:Ar t x=O:=by simpa using h2
   simp only[BA,h2,Ih]
  ·have h2:Ar t x=J:=by simpa using h2
   simp only[BA,h2,Ij]
   exact ih (I l- (k+1)) (by omega) (k+1) rfl
 ·have hk:I v.az<=k:=by simpa using h1
  rw[HU hk,HU (by omega)];simp only[BA]
theorem LU(l:List cy)(v:bc)(hv:v.size<=1000000)(h:∀t∈l,∀k∈v.az,F0 65 [dT t,dV k] (db (Ar t k))):F0 65 [dT (.prod l),dV v] (db (Ar (.prod l) v)):=by
 have hlen:=bc.length_le v.az
 have hsz:=bc.size_eq v
 refine sv DM 169 [2,3] (.k<|.k<|.k<|.k<|.b .r (.b .r (.l [ke 2,ke 3,ch 5 (di (0:Nat))]))) (((v.n !=0)=J->db O=db (Ar (cy.prod l) v))/\((v.n !=0)=O->(((I (cc v.az):Int) !=(I (io l):Int))=J->db O=db (Ar (cy.prod l) v))/\(((I (cc v.az):Int) !=(I (io l):Int))=O->di 0=di (↑0:Int)/\I0 DM (I bd.H) (db (Ar (cy.prod l) v)) bd Ap9 (ba 169 [(oy l),(ip v),(5,di (↑0:Int))]) bd))) ⟨fun h1=>?_,fun h1=>⟨fun h2=>?_,fun h2=>⟨rfl,⟨?_⟩⟩⟩⟩
 ·have h1:(v.n==0)=O:=by simpa using h1
  simp only[Ar,h1,Ih]
 ·have h2:((I v.az:Int)==I l)=O:=by simpa[cy.ps] using h2
  simp only[Ar,h2,Ih,Jn]
 ·have h1:(v.n==0)=J:=by simpa using h1
  have h2:(I v.az:Int)=I l:=by simpa[cy.ps] using h2
  have h3:((I v.az:Int)==I l)=J:=by simpa using h2
  simp only[Ar,h1,h3,Ij]
  exact UZ l v (by omega) (by omega) h _ 0 rfl
theorem Ac5(m:b9)(v:bc):F0 65 [dT (Cl m),dV v] (db (Ar (Cl m) v)):=by
 unfold Cl
 split
 ·exact Ac4 v
 ·split
  ·exact YD _ v fun k _=>KZ _ k
  ·exact YG _ _ v
theorem YF(m:b9)(v:bc)(hv:v.size<=1000000):F0 65 [dT (AF m),dV v] (db (Ar (AF m) v)):=
 LU _ v hv fun t ht k _=>by
  rcases Iq.1 ht with rfl|ht
  ·exact KZ _ k
  ·rw[(List.mem_replicate.1 ht).2];exact Ac5 m k
noncomputable abbrev Aex:=Tryz.f35
theorem Pi(m:b9)(hm:m.okN)(v:bc):F0 35 [dT (AF m),dV v] (db (Ah (AF m) v)):=by
 refine sv Aex 18 [2,3] (.c (di 0)<|.c (di (min (v.size:Int) 129))<|.b (.c (db (Ar (AF m) v)) .r) .r) (_/\_/\(Y (min (↑(bc.size v):Int) 129<=128)=J->F0 65 [bt (vT (AF m)),dV v] (db (Ar (AF m) v))/\db (Ar (AF m) v)=db (Ah (AF m) v))/\(Y (min (↑(bc.size v):Int) 129<=128)=O->db O=db (Ah (AF m) v))) ⟨VT m hm,GB _ v (HH _) 128 (by decide) (by decide),fun h1=>?_,fun h1=>?_⟩
 ·have h1:=HL h1
  have h2:(v.size:Int)<=128:=by rw[I9] at h1;split at h1<;>omega
  exact⟨YF m v (by omega),by rw[Ah,HC h2,Ij]⟩
 ·have h1:=Iu h1
  rw[Ah,HE (show ¬(v.size:Int)<=128 by rw[I9] at h1;split at h1<;>omega),Ih]
noncomputable abbrev Nn:=Tryz.f15
noncomputable def KB:=yl Nn
theorem Nw(m:b9)(t:cy)(b:Bool)(hl:I m.av<=1000000)(hk:(m.kind==6)=O)(hR:∀r∈m.av,F0 34 [Af m,Cu r] (db J))(hT:F0 36 [Af m] (dT t))(hV:F0 35 [dT t,dV m.start] (db b))(n:Nat):∀k:Nat,I m.av-k=n->
  Rn PP Nn 0 (di (if b then 0 else 17)) bd ([kl KB [1,1,1,1,1,0,1,0,0],.blk 0,kc KB [1,1,1,1,1,1]]++[]) (ba 52 [(1,.v (.ref (A1 m))),(3,di k)]) bd:=by
 induction n using Nat.strongRecOn with
 |_ n ih=>
 intro k hn
 refine lv 52 [1] (.b (.e fun r:cp=>.x (Ai r)<|.c (db J)<|.l [ke 1,ch 3 (di (k+1:Nat))]) (.f<|.c (dT t)<|.c (db b)<|.b .r .r)) ((Y ((k:Int)<(I (U Ai m.av):Int))=J->∃a,0<=(k:Int)/\(U Ai m.av)[Z (k:Int)]?=G (Ai a)/\Aa PP 34 [Af m,Cu a] dh (db J) dh/\di (yu yt ((k:Int)+1))=di (↑(k+1):Int)/\Nv.It (AB (CN 0) PP (fun env σ1=>Az PP Nn env σ1 (di (if b=J then 0 else 17)) bd) [kl KB [1,1,1,1,1,0,1,0,0],bh 0,kc KB [1,1,1,1,1,1]] (ba 52 [(1,bt (ic m)),(3,di (↑(k+1):Int))]) dh))/\(Y ((k:Int)<(I (U Ai m.av):Int))=O->(m.kind==6)=O/\F0 36 [Af m] (dT t)/\F0 35 [bt (vT t),dV m.start] (db b)/\((!b)=J->di 17=di (if b=J then 0 else 17))/\((!b)=O->di 0=di (if b=J then 0 else 17)))) ⟨fun h=>?_,fun h=>⟨hk,hT,hV,fun e=>?_,fun e=>?_⟩⟩
 ·have hk:k<I m.av:=by simpa using h
  have hx:m.av[k]?=G m.av[k]:=HA hk
  generalize m.av[k]=r at hx
  exact⟨r,by omega,Am hx,hR r (HG hx),Ae,⟨ih (I m.av- (k+1)) (by omega) (k+1) rfl⟩⟩
 ·cases b<;>first|rfl|exact absurd e (by decide)
 ·cases b<;>first|rfl|exact absurd e (by decide)
theorem T7(m:b9)(e:Int)(h1:Ay m.kind 1 6=J)(h2:F0 31 [Af m] (db J))(h3:F0 32 [Af m] (db J))(h4:F0 33 [Af m] (db J))
  (hl:Rn PP Nn 0 (di e) bd ([kl KB [1,1,1,1,1,0,1,0,0],.blk 0,kc KB [1,1,1,1,1,1]]++[]) (ba 52 [(1,.v (.ref (A1 m))),(3,di (0:Nat))]) bd):F0 15 [Af m] (di e):=by
 have h1:=h1▸CC m.kind 1 6
 exact sv Nn 52 [1] (.c (db J)<|.c (db J)<|.c (db J)<|.c (db J)<|.l [ke 1,ch 3 (di (0:Nat))]) (_/\_/\_/\_/\Q (di 0)/\_) ⟨h1,h2,h3,h4,rfl,iK hl⟩
theorem Aac(m:b9)(hm:m.okS):F0 15 [Af m] (di (if Ah (AF m) m.start then 0 else 17)):=
 T7 m _ (by rcases hm.n.kind with h|h|h<;>rw[h]<;>rfl) (Vk m hm) (UG m hm) (Vo m hm) (Nw m _ _ (by have:=hm.n.sz;omega) (by rcases hm.n.kind with h|h|h<;>rw[h]<;>rfl) (fun r hr=>XC m hm r hr) (Pn m hm) (Pi m hm m.start) _ 0 rfl)
theorem E5(m:b9)(hm:m.ok):F0 15 [Af m] (di 0):=by
 have:=Aac m hm
 rwa[hm.start,HV rfl] at this
noncomputable abbrev Aey:=Tryz.f25
theorem Pk(m:b9)(hm:m.ok)(v:bc):F0 25 [Af m,dV v] (db (Ah (AF m) v)):=by
 exact sv Aey 14 [2,3] (.c (di 0)<|.c (dT (AF m))<|.c (db (Ah (AF m) v)) .r) (_/\_/\_/\Q (db (Ah (AF m) v))) ⟨E5 m hm,Pn m hm,Pi m hm v,rfl⟩
theorem CW(m:b9)(hm:m.ok)(v:bc)(_:v.size<=1000000):F0 25 [Af m,dV v] (db (Ah (AF m) v)):=Pk m hm v
abbrev i4(l:List UInt8):V:=.list (l.map vb)
abbrev cr(l:List UInt8)(a:Nat):List D:=[.v (i4 l),di a]
abbrev dz(l:List UInt8)(a:Nat):St:=⟨[G (cr l a)],[]⟩
noncomputable abbrev Ai9:=Tryz.f7
theorem A2(l:List UInt8)(hl:I l<=200)(a:Nat)(ha:a<=I l)(n:Int)(hn:1<=n)(hn2:n<=1000):
  ∃(r:Int) (a':Nat),0<=r/\r<n/\a'<=I l/\Aa PP 7 [.ptr 0 0,di n] (dz l a) (di r) (dz l a'):=by
 by_cases h:a<I l
 ·refine⟨(l[a].toNat:Int)%n,a+1,Int.emod_nonneg _ (by omega),Int.emod_lt_of_pos _ (by omega),h,?_⟩
  refine sv Ai9 36 [] (.f<|.x (vb l[a]) .r) (yo/\Y ((a:Int)>=(I (U vb l):Int))=O/\0<=yu yt (yu yt ((a:Int)+1)-1)/\(U vb l)[Z (yu yt (yu yt ((a:Int)+1)-1))]?=G (aa IntKind.u8 (↑(UInt8.toNat l[a]):Int))/\n≠0/\yo/\[G [bt (i4 l),di (yu yt ((a:Int)+1))]]=[G (cr l (a+1))]/\di (Int.tmod (yu yt (↑(UInt8.toNat l[a]):Int)) n)=di ((↑(UInt8.toNat l[a]):Int)%n)) ?_
  have hx:l[a]?=G l[a]:=HA h
  have hb:l[a].toNat<256:=UInt8.toNat_lt _
  generalize l[a]=c at hx hb
  rw[show yt.wrap (yt.wrap ((a:Int)+1)-1)=a by rw[Al (n:=(a:Int)+1),Al];omega]
  refine⟨ym,by rw[H9];exact yq,by omega,Am hx,by omega,ym,?_,?_⟩
  ·rw[Al];rfl
  ·rw[Al,Int.tmod_eq_emod_of_nonneg (by omega)]
 ·refine⟨0,a,by omega,by omega,ha,?_⟩
  exact sv Ai9 36 [] (.t .r) (yo/\Y ((a:Int)>=(I (U vb l):Int))=J/\Q [G (cr l a)]/\Q (di 0)) ⟨ym,by rw[H9];exact yr,rfl,rfl⟩
noncomputable abbrev Zs:=Tryz.f37
noncomputable def We:=yl Zs
abbrev ul(l:List UInt8)(a:Nat)(xs:List Int):St:=⟨[G (cr l a)],[(1,1,xs.map vi)]⟩
theorem Zd(l:List UInt8)(hl:I l<=200)(n:Nat)(hn:n<=100)(most:Int)(hm:0<=most)(hm2:most<=100)(N:Nat):∀(k:Nat) (a:Nat) (xs:List Int),n-k=N->k<=n->a<=I l->I xs=k->(∀x∈xs,0<=x/\x<=most)->
  ∃(ys:List Int) (a':Nat),a'<=I l/\ys.length=n/\(∀x∈ys,0<=x/\x<=most)/\
  Rn PP Zs 1 (cw ys) (dz l a') ([kl We [1,1,0,1,0,0],.blk 0,kc We [1,1,1]]++[]) (ba 22 [(0,.ptr 0 0),(1,di n),(2,di most),(7,.acc 1 (xs.map vi)),(8,di k)]) (ul l a xs):=by
 induction N with
 |zero=>
  intro k a xs hk hk0 ha hx hxs
  by_cases hkn:k=n
  ·refine⟨xs,a,ha,by omega,hxs,?_⟩
   exact lv 22 [] (.f .r) (Y ((k:Int)<(n:Int))=O/\Q [G (cr l a)]/\Q (cw xs)) ⟨yq,rfl,rfl⟩
  ·exact absurd hk0 (by omega)
 |succ N ih=>
  intro k a xs hk hk0 ha hx hxs
  obtain⟨r,a1,h1,h2,h3,h4⟩:=A2 l hl a ha (most+1) (by omega) (by omega)
  obtain⟨ys,a',h5,h6,h7,h8⟩:=ih (k+1) a1 (xs++[r]) (by omega) (by omega) h3 (by simp[hx]) (fun x hx=>by
   rcases Ix.1 hx with hx|hx
   ·exact hxs x hx
   ·rw[HQ.1 hx];omega)
  refine⟨ys,a',h5,h6,h7,?_⟩
  refine lv 22 [] (.t<|.c1 (cr l a1) (di r)<|.ls [ke 0,ke 1,ke 2,ch 7 (.acc 1 ((xs++[r]).map vi)),ch 8 (di (k+1:Nat))] (ul l a1 (xs++[r]))) (Y ((k:Int)<(n:Int))=J/\Aa PP 7 [bq 0 0,di (yu yt (most+1))] (dz l a) (di r) (dz l a1)/\Q (U vi xs)/\Ao (I (U vi xs)+I (aa yt r::nV)) 8/\br 1 (U vi xs++[vi r])=br 1 (U vi (xs++[r]))/\di (yu yt ((k:Int)+1))=di (↑(k+1):Int)/\Q [G (cr l a1)]/\[(1,1,U vi xs++vi r::nV)]=[(1,1,U vi (xs++[r]))]/\_) ⟨yr,?_,rfl,⟨?_,?_⟩,by simp,Ae,rfl,by simp,iK h8⟩
  ·rw[Al];exact h4
  ·simp only[H9,HF,HJ];omega
  ·simp only[H9,HF,HJ];omega
theorem GQ(l:List UInt8)(hl:I l<=200)(a:Nat)(ha:a<=I l)(n:Nat)(hn:n<=100)(most:Int)(hm:0<=most)(hm2:most<=100):
  ∃(ys:List Int) (a':Nat),a'<=I l/\ys.length=n/\(∀x∈ys,0<=x/\x<=most)/\Aa PP 37 [.ptr 0 0,di n,di most] (dz l a) (cw ys) (dz l a'):=by
 obtain⟨ys,a',h1,h2,h3,h4⟩:=Zd l hl n hn most hm hm2 _ 0 a [] rfl (by omega) ha rfl (by simp)
 refine⟨ys,a',h1,h2,h3,?_⟩
 exact sv Zs 22 [] (.h (.q 2 0)<|.h (.nw 7 1 1)<|.ls [ke 0,ke 1,ke 2,ke 7,ch 8 (di (0:Nat))] (ul l a [])) (Q (di 0)/\Q (ul l a []).H/\Q [(1,1,nV)]/\_) ⟨rfl,rfl,rfl,iK h4⟩
noncomputable abbrev Qn:=Tryz.f38
noncomputable def NG:=yl Qn
abbrev mm(s:Int)(xs:List bc):St:=⟨[G [di 0,.v .nils],G [di 0,.acc 1 (xs.map eV)]],[(1,2,xs.map eV)]⟩
def Dp(s:Int)(l:List Int):bc:=.mk 0 (.mk s []::l.map fun x=>.mk x [])
noncomputable abbrev gn:=fun a₀=>(vi a₀::ai nV::nV)
noncomputable abbrev tw:=fun a₀=>(ab [vi 0,ai (U eV a₀)])
theorem VX(l:List Int)(hl:I l<=1000)(s:Int)(n:Nat):∀(k:Nat) (xs:List bc),I l-k=n->I xs=k+1->
  Rn PP Qn 0 (dV (.mk 0 (xs++(l.drop k).map fun x=>.mk x []))) bd ([kl NG [1,1,0,1,0,0],.blk 0,kc NG [1,1,1]]++[]) (ba 28 [(1,cw l),(4,.ptr 0 0),(5,.ptr 1 0),(6,di k)]) (mm s xs):=by
 induction n with
 |zero=>
  intro k xs hk hx
  refine lv 28 [] (.f .r) (Y ((k:Int)<(I (U vi l):Int))=O/\bt (tw xs)=dV (bc.mk 0 (xs++U (fun x=>bc.mk x []) (W k l)))) ⟨by rw[H9];exact yq,?_⟩
  rw[HU (by omega),I7,Iz];rfl
 |succ n ih=>
  intro k xs hk hxl
  refine lv 28 [] (.t<|.e fun x:Int=>.x (vi x)<|.ls [ke 1,ke 4,ke 5,ch 6 (di (k+1:Nat))] (mm s (xs++[.mk x []]))) (Y ((k:Int)<(I (U vi l):Int))=J/\∃a,0<=(k:Int)/\(U vi l)[Z (k:Int)]?=G (vi a)/\Q (U eV xs)/\Ao (I (U eV xs)+I (ab (gn a)::nV)) 32/\yp/\di (yu yt ((k:Int)+1))=di (↑(k+1):Int)/\[G [di 0,dn],G [di 0,br 1 (U eV xs++ab (gn a)::nV)]]=[G [di 0,dn],G [di 0,br 1 (U eV (xs++[bc.mk a []]))]]/\[(1,2,U eV xs++ab (gn a)::nV)]=[(1,2,U eV (xs++[bc.mk a []]))]/\I0 Qn 0 (dV (bc.mk 0 (xs++U (fun x=>bc.mk x []) (W k l)))) bd [kl NG d5,bh 0,kc NG [1,1,1]] (ba 28 [(1,cw l),(4,bq 0 0),(5,bq 1 0),(6,di (↑(k+1):Int))]) (mm s (xs++[bc.mk a []]))) ?_
  have hk1:k<I l:=by omega
  have hx:l[k]?=G l[k]:=HA hk1
  rw[HP hk1]
  generalize l[k]=x at hx⊢
  have h:=ih (k+1) (xs++[.mk x []]) (by omega) (by simp[hxl])
  rw[IG] at h
  refine⟨by rw[H9];exact yr,x,by omega,Am hx,rfl,⟨?_,?_⟩,yn,Ae,?_,?_,⟨h⟩⟩
  ·simp only[H9,HF,HJ];omega
  ·simp only[H9,HF,HJ];omega
  ·rw[←B1];rfl
  ·rw[←B1];rfl
noncomputable abbrev fz:=fun a₀=>(bc.mk a₀ [])
theorem Nx(l:List Int)(hl:I l<=1000)(s:Int):F0 38 [di s,cw l] (dV (Dp s l)):=by
 exact sv Qn 28 [] (.a 1<|.h .g<|.ls [ke 1,ke 4,ke 5,ch 6 (di (0:Nat))] (mm s [.mk s []])) (Q (di 0)/\Q [G [di 0,dn],G [di 0,br 1 (eV (fz s)::nV)]]/\Q [(1,2,eV (fz s)::nV)]/\_) ⟨rfl,rfl,rfl,iK (VX l hl s _ 0 [.mk s []] rfl rfl)⟩
abbrev kg:List (List UInt8):=[[114],[115],[116]]
def lc(nm:List UInt8)(f t:Int)(nd gv:List Int):cp:=⟨nm,f,t,nd,gv,[],0,0,0,[],[],[],[],0⟩
abbrev cM(S Pl:List (List UInt8))(rs:List cp):List D:=[di 1,.v (co S),.v (co Pl),.v .nils,.v .nils,di 0,di 0,.acc 2 (rs.map Ai),di 0,.v .nils]
abbrev zM:List D:=[di 0,.v .nils,.v .nils,.v .nils,.v .nils,di 0,di 0,.v .nils,di 0,.v .nils]
abbrev jv(l:List UInt8)(a:Nat)(S Pl:List (List UInt8))(rs:List cp):St:=⟨[G (cr l a),G zM,G (cM S Pl rs)],[(2,14,rs.map Ai)]⟩
structure uh(ns np:Nat)(k:Nat)(r:cp):Prop where
 name:kg[k]?=G r.name
 aj:0<=r.aj/\r.aj<ns
 to:0<=r.to/\r.to<ns
 am:I r.am=np/\∀x∈r.am,0<=x/\x<=2
 ak:I r.ak=np/\∀x∈r.ak,0<=x/\x<=2
 rest:r=lc r.name r.aj r.to r.am r.ak
structure RT(m:b9):Prop where
 kind:m.kind=1
 aw:m.aw=[[97]]∨m.aw=[[97],[98]]
 ay:m.ay=[[120]]∨m.ay=[[120],[121]]
 ax:m.ax=[]
 au:m.au=[]
 ao:m.ao=0
 age:m.age=0
 count:I m.av<=3
 pos:1<=I m.av
 av:∀k r,m.av[k]?=G r->uh (I m.aw) (I m.ay) k r
 start:∃ys:List Int,I ys=I m.ay/\(∀x∈ys,0<=x/\x<=3)/\m.start=Dp 0 ys
theorem AV(rs:List cp)(r:cp):rs.map Ai++[Ai r]=(rs++[r]).map Ai:=by simp
noncomputable abbrev Zv:=Tryz.f16
noncomputable def QK:=yl Zv
noncomputable abbrev l4:=fun a₀=>[(2,14,U Ai a₀)]
noncomputable abbrev e6:=fun a₀=>(G [bt (co a₀)])
noncomputable abbrev gd:=(0,bq 0 0)
noncomputable abbrev Amx:=fun a₀ b₀ c₀ d₀=>Aa PP 7 [bq 0 0,di 3] (dz a₀ b₀) (di c₀) (dz a₀ d₀)
noncomputable abbrev Anp:=fun a₀ b₀ c₀ d₀ e₀=>(ae a₀::vi b₀::vi c₀::cz d₀::cz e₀::ai nV::vi 0::vi 0::vi 0::ai nV::ai nV::ai nV::ai nV::vi 0::nV)
noncomputable abbrev Ao1:=(bf #[115])
noncomputable abbrev Aon:=fun a₀ b₀ c₀ d₀ e₀=>(ab [vi 1,ai (U ae a₀),ai (dm b₀),ai [],ai [],vi 0,vi 0,ai (U Ai c₀),vi d₀,ai (U eV e₀)])
noncomputable abbrev qp:=fun a₀ b₀ c₀ d₀ e₀=>[G (cr a₀ b₀),G zM,G (cM c₀ d₀ e₀),G ei]
noncomputable abbrev Aop:=(bf #[114])
noncomputable abbrev Apf:=fun a₀ b₀ c₀ d₀ e₀=>(ab (ae a₀::aa yt b₀::aa yt c₀::cz d₀::cz e₀::ai nV::aa yt 0::aa yt 0::aa yt 0::ai nV::ai nV::ai nV::ai nV::aa yt 0::nV)::nV)
noncomputable abbrev Ap1:=fun a₀=>[ke 0,ke 1,ke 4,ke 5,ke 6,ch 7 (di (a₀+1:Nat))]
noncomputable abbrev mf:=(5,bq 2 0)
noncomputable abbrev qu:=(4,bq 1 0)
noncomputable abbrev Aqm:=[kl QK gi,bh 0,kc QK [1,1,1,1]]
noncomputable abbrev Aqx:=(bf #[116])
theorem Ady(l:List UInt8)(hl:I l<=200)(S Pl:List (List UInt8))(hS:S=[[97]]∨S=[[97],[98]])(hP:Pl=[[120]]∨Pl=[[120],[121]])(n:Nat):∀(k a:Nat) (rs:List cp),3-k=n->a<=I l->k<=3->I rs=k->(∀i r,rs[i]?=G r->uh (I S) (I Pl) i r)->
  ∃(m:b9) (a':Nat),RT m/\a'<=I l/\Rn PP Zv 1 (Af m) (dz l a') ([kl QK [1,1,1,0,1,0,0],.blk 0,kc QK [1,1,1,1]]++[]) (ba 85 [(0,.ptr 0 0),(1,db O),(4,.ptr 1 0),(5,.ptr 2 0),(6,di (I Pl)),(7,di k)]) (jv l a S Pl rs):=by
 induction n using Nat.strongRecOn with
 |_ n ih=>
 intro k a rs hn ha hk3 hrs hR
 have hSl:1<=I S/\S.length<=2:=by rcases hS with rfl|rfl<;>decide
 have hPl:1<=I Pl/\Pl.length<=2:=by rcases hP with rfl|rfl<;>decide
 obtain⟨r,a1,h1,h2,h3,h4⟩:=A2 l hl a ha 3 (by decide) (by decide)
 by_cases hk:(k:Int)<1+r
 ·obtain⟨f,a2,f1,f2,f3,f4⟩:=A2 l hl a1 h3 (I S) (by omega) (by omega)
  obtain⟨t,a3,t1,t2,t3,t4⟩:=A2 l hl a2 f3 (I S) (by omega) (by omega)
  obtain⟨nd,a4,n1,n2,n3,n4⟩:=GQ l hl a3 t3 (I Pl) (by omega) 2 (by decide) (by decide)
  obtain⟨gv,a5,g1,g2,g3,g4⟩:=GQ l hl a4 n1 (I Pl) (by omega) 2 (by decide) (by decide)
  obtain⟨nm,hnm⟩:∃nm,kg[k]?=G nm:=⟨_,HA (show k<I kg by show k<3;omega)⟩
  obtain⟨m,a',m1,m2,m3⟩:=ih (3- (k+1)) (by omega) (k+1) a5 (rs++[lc nm f t nd gv]) rfl g1 (by omega) (by simp[hrs]) (fun i r hi=>by
   by_cases hik:i<I rs
   ·rw[HW hik] at hi;exact hR i r hi
   ·rw[HT (by omega)] at hi
    have:i-I rs=0:=by
     have:=(HD.1 hi).1
     simp at this;omega
    rw[this] at hi
    simp at hi;subst hi
    have hik2:i=k:=by omega
    subst hik2
    exact⟨hnm,⟨f1,f2⟩,⟨t1,t2⟩,⟨n2,n3⟩,⟨g2,g3⟩,rfl⟩)
  refine⟨m,a',m1,m2,?_⟩
  refine lv 85 [] (.c1 (cr l a1) (di r)<|.t<|.h (.dr 21)<|.x (.str nm)<|.c1 (cr l a2) (di f)<|.c1 (cr l a3) (di t)<|.c1 (cr l a4) (cw nd)<|.c1 (cr l a5) (cw gv)<|.ls (Ap1 k) (jv l a5 S Pl (rs++[lc nm f t nd gv]))) (Amx l a r a1/\Y ((k:Int)<yu yt (1+r))=J/\0<=(k:Int)/\[ae Aop.data.toList,ae Ao1.data.toList,ae Aqx.data.toList][Z (k:Int)]?=G (ae nm)/\Aa PP 7 [bq 0 0,di (I (U ae S):Int)] (dz l a1) (di f) (dz l a2)/\Aa PP 7 [bq 0 0,di (I (U ae S):Int)] (dz l a1) (di f) (dz l a2)/\Q (di f)/\Aa PP 7 [bq 0 0,di (I (U ae S):Int)] (dz l a2) (di t) (dz l a3)/\Aa PP 7 [bq 0 0,di (I (U ae S):Int)] (dz l a2) (di t) (dz l a3)/\Q (di t)/\Aa PP 37 [bq 0 0,di (I Pl:Int),di 2] (dz l a3) (cw nd) (dz l a4)/\Aa PP 37 [bq 0 0,di (I Pl:Int),di 2] (dz l a3) (cw nd) (dz l a4)/\Q (cw nd)/\Aa PP 37 [bq 0 0,di (I Pl:Int),di 2] (dz l a4) (cw gv) (dz l a5)/\Aa PP 37 [bq 0 0,di (I Pl:Int),di 2] (dz l a4) (cw gv) (dz l a5)/\Q (cw gv)/\Q [bi (qp l a1 S Pl rs) (l4 rs),bi (qp l a2 S Pl rs) (l4 rs),bi (qp l a3 S Pl rs) (l4 rs),bi (qp l a4 S Pl rs) (l4 rs),bi (qp l a5 S Pl rs) (l4 rs)]/\((yf (Q (e6 S)))/\(yf (Q (e6 S)))/\True)/\Q (U Ai rs)/\Ao (I (U Ai rs)+I (Apf nm f t nd gv)) 232/\di (yu yt ((k:Int)+1))=di (↑(k+1):Int)/\[G (cr l a5),G zM,G [di 1,bt (co S),bt (co Pl),dn,dn,di 0,di 0,br 2 (U Ai rs++ab (Anp nm f t nd gv)::nV),di 0,dn]]=[G (cr l a5),G zM,G (cM S Pl (rs++[lc nm f t nd gv]))]/\[(2,14,U Ai rs++ab (Anp nm f t nd gv)::nV)]=[(2,14,U Ai (rs++[lc nm f t nd gv]))]/\I0 Zv 1 (Af m) (dz l a') Aqm (ba 85 [gd,(1,db O),qu,mf,(6,di (I Pl:Int)),(7,di (↑(k+1):Int))]) (jv l a5 S Pl (rs++[lc nm f t nd gv]))) ?_
  rw[show(I (S.map ae):Int)=(I S:Int) by rw[H9]]
  refine⟨h4,?_,by omega,C0 hnm,f4,f4,rfl,t4,t4,rfl,n4,n4,rfl,g4,g4,rfl,rfl,by simp,rfl,⟨?_,?_⟩,Ae,?_,?_,⟨m3⟩⟩
  ·rw[Al];exact HC hk
  ·simp only[H9,HF,HJ];omega
  ·simp only[H9,HF,HJ];omega
  ·show _=[G (cr l a5),G zM,G [di 1,.v (co S),.v (co Pl),.v .nils,.v .nils,di 0,di 0,.acc 2 ((rs++[lc nm f t nd gv]).map Ai),di 0,.v .nils]]
   rw[←AV];rfl
  ·rw[←AV];rfl
 ·obtain⟨ys,a2,y1,y2,y3,y4⟩:=GQ l hl a1 h3 (I Pl) (by omega) 3 (by decide) (by decide)
  obtain⟨c,hc⟩:∃c,c=Dp 0 ys:=⟨_,rfl⟩
  refine⟨⟨1,S,Pl,[],[],0,0,rs,c⟩,a2,⟨rfl,hS,hP,rfl,rfl,rfl,rfl,by show I rs<=3;omega,by show 1<=I rs;omega,hR,ys,y2,y3,hc⟩,y1,?_⟩
  refine lv 85 [] (.c1 (cr l a1) (di r)<|.f<|.c1 (cr l a2) (cw ys)<|.c (dV c) .r) (_/\Y ((k:Int)<yu yt (1+r))=O/\_/\F0 38 [di 0,cw ys] (dV c)/\Q [G (cr l a2)]/\bt (Aon S Pl rs c.n c.az)=Af (b9.mk 1 S Pl [] [] 0 0 rs c)) ⟨h4,?_,y4,hc▸Nx ys (by omega) 0,rfl,rfl⟩
  rw[Al];exact HE hk
noncomputable abbrev oo:=[ae (bf #[97]).data.toList,ae (bf #[98]).data.toList]
noncomputable abbrev jo:=[ae (bf #[120]).data.toList,ae (bf #[121]).data.toList]
noncomputable abbrev qk:=(ae (bf #[120]).data.toList::ae (bf #[121]).data.toList::nV)
noncomputable abbrev ge:=fun a₀ b₀=>[G (cr a₀ b₀),G nn,G nn]
noncomputable abbrev wn:=(ae (bf #[97]).data.toList::ae (bf #[98]).data.toList::nV)
theorem Ajl(l:List UInt8)(hl:I l<=200)(a:Nat)(ha:a<=I l):
  ∃(m:b9) (a':Nat),RT m/\a'<=I l/\Aa PP 16 [.ptr 0 0,db O] (dz l a) (Af m) (dz l a'):=by
 obtain⟨r1,a1,h1,h2,h3,h4⟩:=A2 l hl a ha 2 (by decide) (by decide)
 obtain⟨r2,a2,h5,h6,h7,h8⟩:=A2 l hl a1 h3 2 (by decide) (by decide)
 obtain⟨S,hS,hS2⟩:∃S:List (List UInt8),(S=[[97]]∨S=[[97],[98]])/\(r1=0/\S=[[97]]∨r1=1/\S=[[97],[98]]):=by
  rcases(show r1=0∨r1=1 by omega) with h|h
  ·exact⟨_,.inl rfl,.inl ⟨h,rfl⟩⟩
  ·exact⟨_,.inr rfl,.inr ⟨h,rfl⟩⟩
 obtain⟨Pl,hP,hP2⟩:∃S:List (List UInt8),(S=[[120]]∨S=[[120],[121]])/\(r2=0/\S=[[120]]∨r2=1/\S=[[120],[121]]):=by
  rcases(show r2=0∨r2=1 by omega) with h|h
  ·exact⟨_,.inl rfl,.inl ⟨h,rfl⟩⟩
  ·exact⟨_,.inr rfl,.inr ⟨h,rfl⟩⟩
 obtain⟨m,a',m1,m2,m3⟩:=Ady l hl S Pl hS hP _ 0 a2 [] rfl h7 (by omega) rfl (fun i r h=>by simp at h)
 refine⟨m,a',m1,m2,?_⟩
 refine sv Zv 85 [] (.h (.dr 11)<|.c1 (cr l a1) (di r1)<|.c1 (cr l a2) (di r2)<|.h .rn<|.h (.q 3 0)<|.h (.cl 2 7 2 14)<|.ls [ke 0,ke 1,ke 4,ke 5,ch 6 (di (I Pl)),ch 7 (di (0:Nat))] (jv l a2 S Pl [])) (_/\_/\Q (di r1)/\(∀(x:V),x∈ oo->V.size x=1)/\0<=(fun x=>x.snd) (yt,yu yt (1+r1))/\(fun x=>x.snd) (yt,yu yt (1+r1))<=(↑(I oo):Int)/\_/\_/\Q (di r2)/\(∀(x:V),x∈ jo->V.size x=1)/\0<=(fun x=>x.snd) (yt,yu yt (1+r2))/\(fun x=>x.snd) (yt,yu yt (1+r2))<=(↑(I jo):Int)/\Q [bi (ge l a) [],bi (ge l a1) [],bi (ge l a2) []]/\True/\di (I (W 0 (take (Z ((fun x=>x.snd) (yt,yu yt (1+r2)))) qk)):Int)=di (I Pl:Int)/\Q (di 0)/\[G (cr l a2),G nn,G [di 1,bt (ai (W 0 (take (Z ((fun x=>x.snd) (yt,yu yt (1+r1)))) wn))),bt (ai (W 0 (take (Z ((fun x=>x.snd) (yt,yu yt (1+r2)))) qk))),dn,dn,di 0,di 0,br 2 nV,di 0,dn]]=[G (cr l a2),G zM,G (cM S Pl [])]/\Q [(2,14,nV)]/\_) ⟨h4,h4,rfl,by simp[V.size],?_,?_,h8,h8,rfl,by simp[V.size],?_,?_,rfl,trivial,?_,rfl,?_,rfl,iK m3⟩
 ·show 0<=yt.wrap (1+r1);rw[Al];omega
 ·show yt.wrap (1+r1)<=2;rw[Al];omega
 ·show 0<=yt.wrap (1+r2);rw[Al];omega
 ·show yt.wrap (1+r2)<=2;rw[Al];omega
 ·rcases hP2 with⟨rfl,rfl⟩|⟨rfl,rfl⟩<;>rfl
 ·rcases hS2 with⟨rfl,rfl⟩|⟨rfl,rfl⟩<;>rcases hP2 with⟨rfl,rfl⟩|⟨rfl,rfl⟩<;>rfl
theorem AfF{rs:List cp}(h3:I rs<=3){ns np:Nat}(h:∀k r,rs[k]?=G r->uh ns np k r):rs.map cp.name=kg.take (I rs):=by
 apply List.ext_getElem?
 intro i
 by_cases hi:i<I rs
 ·have hx:rs[i]?=G rs[i]:=HA hi
  rw[Ir,hx,List.getElem?_take_of_lt hi,(h i _ hx).name];rfl
 ·rw[Iy (by simp;omega),Iy (by simp;omega)]
theorem AaX(ys:List Int)(n:Nat)(h:I ys=n)(h0:∀x∈ys,0<=x/\x<=1048576):BA (replicate n .nat) (ys.map fun x=>bc.mk x [])=J:=by
 induction n generalizing ys with
 |zero=>cases ys with
  |nil=>rfl
  |cons y ys=>simp at h
 |succ n ih=>cases ys with
  |nil=>simp at h
  |cons y ys=>
   have:=h0 y (by simp)
   simp only[I4,Ia,BA,Ar,HB,HK,Il]
   exact⟨⟨this.1,this.2,rfl⟩,ih ys (by simpa using h) fun x hx=>h0 x (by simp[hx])⟩
theorem J1(ys:List Int):bc.sizes (ys.map fun x=>bc.mk x [])=I ys:=by
 induction ys with
 |nil=>rfl
 |cons y ys ih=>simp only[Ia,bc.sizes,ih,HF,bc.size];omega
theorem F1(s:Int)(ys:List Int):(Dp s ys).size=2+I ys:=by
 simp only[Dp,bc.size,bc.sizes,J1];omega
theorem Gw(m:b9)(hk:m.kind=1)(hpl:I m.ay<=100)(s:Int)(hs:0<=s/\s<I m.aw)(ys:List Int)(hy:I ys=I m.ay)(h:∀x∈ys,0<=x/\x<=1048576):Ah (AF m) (Dp s ys)=J:=by
 rw[Ah,HC (by rw[F1];omega),Ij,AF,show Cl m=.nat by simp[Cl,hk]]
 simp only[Ar,Dp,bc.n,bc.az,BA,Cx,HB,HK,Il]
 refine⟨?_,by simp[hy],⟨HC hs.1,HC hs.2,by rfl⟩,AaX ys _ hy h⟩
 first|trivial|rfl
theorem RT.ok{m:b9}(h:RT m):m.ok:=by
 have hst:1<=I m.aw/\m.aw.length<=2:=by rcases h.aw with e|e<;>rw[e]<;>decide
 have hpl:1<=I m.ay/\m.ay.length<=2:=by rcases h.ay with e|e<;>rw[e]<;>decide
 have hb:∀{x a b:Int},a<=x->x<=b->Ay x a b=J:=fun h1 h2=>by simp[Ay,h1,h2]
 have hget:∀r∈m.av,uh (I m.aw) (I m.ay) (m.av.idxOf r) r:=fun r hr=>by
  have hi:=List.idxOf_lt_length_of_mem hr
  exact h.av _ r (by rw[HA hi,List.getElem_idxOf])
 have hc:=h.count
 refine⟨.inl h.kind,?_,?_,?_,?_,?_,?_,?_⟩
 ·simp only[CE,QF,HV h.kind,HB,HK,h.ax,h.ao,h.age]
  exact⟨hb (by omega) (by omega),by omega,hb (by omega) (by omega),by decide,by decide,by decide⟩
 ·rw[BV,HV (by rw[h.kind];rfl),h.au];rfl
 ·have hn:=AfF h.count h.av
  rw[Ew,EP,hn,BW,h.ax]
  have:I m.av=0∨m.av.length=1∨m.av.length=2∨m.av.length=3:=by omega
  rcases h.aw with e|e<;>rcases h.ay with e'|e'<;>rcases this with e2|e2|e2|e2<;>rw[e,e',e2]<;>decide
 ·intro r hr
  have hm:=hget r hr
  have h1:=hm.am.1
  have h2:=hm.ak.1
  rw[hm.rest]
  exact⟨by show I r.am<=_;omega,by show I r.ak<=_;omega,Ik _,Ik _,Ik _,Ik _,Ik _⟩
 ·intro r hr
  have hm:=hget r hr
  obtain⟨f1,f2⟩:=hm.aj
  obtain⟨t1,t2⟩:=hm.to
  obtain⟨n1,n2⟩:=hm.am
  obtain⟨g1,g2⟩:=hm.ak
  have hr:=hm.rest
  generalize r.name=nm at hr
  generalize r.aj=f at*
  generalize r.to=t at*
  generalize r.am=nd at*
  generalize r.ak=gv at*
  subst hr
  rw[Er,HV h.kind]
  simp only[DW,BR,De,BU,Oy,lc,HB,Iw,Il,HK,Io,true_and,HJ]
  refine⟨hb (by omega) (by omega),hb (by omega) (by omega),⟨by omega,by omega,fun x hx=>hb (n2 x hx).1 (by have:=(n2 x hx).2;omega),fun x hx=>hb (g2 x hx).1 (by have:=(g2 x hx).2;omega)⟩,?_⟩
  simp
 ·obtain⟨ys,y1,y2,y3⟩:=h.start
  rw[y3]
  exact Gw m h.kind (by omega) 0 ⟨by omega,by omega⟩ ys y1 fun x hx=>by have:=y2 x hx;omega
 ·obtain⟨ys,y1,y2,y3⟩:=h.start
  rw[y3,F1];omega
abbrev lf(y:Int):bc:=.mk y []
structure j4(c:bc)(s:Int)(ys:List Int):Prop where
 eq:c=Dp s ys
 len:I c.az=I ys+1
 head:c.az[0]?=G (lf s)
 at':∀(i:Nat) (y:Int),ys[i]?=G y->c.az[i+1]?=G (lf y)
theorem isC(s:Int)(ys:List Int):j4 (Dp s ys) s ys:=
 ⟨rfl,by simp[Dp,bc.az],rfl,fun i y h=>by simp[Dp,bc.az,h]⟩
noncomputable abbrev AiR:=Tryz.f146
theorem V1(m:b9)(hm:m.ok)(hk:m.kind=1)(i:Nat)(hi:i<I m.av):F0 146 [Af m,di i] (di 0):=by
 exact sv AiR 23 [2] (.c (di 0)<|.k<|.f<|.f<|.f .r) (_/\(m.kind !=1)=O/\Y ((i:Int)<0)=O/\Y ((i:Int)>=(I (U Ai m.av):Int))=O/\Q (di 0)) ⟨E5 m hm,by rw[hk];rfl,yq,by rw[H9];exact yq,rfl⟩
noncomputable abbrev Zu:=Tryz.f147
noncomputable def Wg:=yl Zu
def DI:List Int->List Int->Bool
 |n::ns,y::ys=> !decide (y<n)&&DI ns ys
 |_,_=>true
def gj(r:cp)(s:Int)(ys:List Int):Bool:=(s==r.aj)&&DI r.am ys
theorem Z8(r:cp)(c:bc)(s:Int)(ys:List Int)(hc:j4 c s ys)(hl:I r.am=I ys)(hl2:I ys<=1000)(n:Nat):∀k:Nat,I r.am-k=n->
  Rn PP Zu 0 (db (DI (r.am.drop k) (ys.drop k))) bd ([kl Wg [1,1,0,1,0,0],.blk 0,kc Wg [1,1,1]]++[]) (ba 34 [(2,.v (.ref (Ai r))),(3,.v (.ref (Ac c))),(5,di k)]) bd:=by
 induction n using Nat.strongRecOn with
 |_ n ih=>
 intro k hn
 refine lv 34 [2,3] (.b (.e fun y:Int=>.h (.xs (Ac (lf y)))<|.e fun x:Int=>.x (vi x)<|.b .r (.l [ke 2,ke 3,ch 5 (di (k+1:Nat))])) .r) ((Y ((k:Int)<(I (U vi r.am):Int))=J->∃a,2=2/\0<=yu yt (1+(k:Int))/\(cc c.az)[Z (yu yt (1+(k:Int)))]?=G (Ac (lf a))/\∃a_1,0<=(k:Int)/\(U vi r.am)[Z (k:Int)]?=G (vi a_1)/\(Y (bc.n (lf a)<a_1)=J->db O=db (DI (W k r.am) (W k ys)))/\(Y (bc.n (lf a)<a_1)=O->di (yu yt ((k:Int)+1))=di (↑(k+1):Int)/\Nv.It (AB (CN 0) PP (fun env σ1=>Az PP Zu env σ1 (db (DI (W k r.am) (W k ys))) bd) [kl Wg d5,bh 0,kc Wg [1,1,1]] (ba 34 [(2,bt (bz (Ai r))),(ip c),(5,di (↑(k+1):Int))]) dh)))/\(Y ((k:Int)<(I (U vi r.am):Int))=O->db J=db (DI (W k r.am) (W k ys)))) ⟨fun h=>?_,fun h=>?_⟩
 ·have hk:k<I r.am:=by simpa using h
  have hk2:k<I ys:=by omega
  have hx:r.am[k]?=G r.am[k]:=HA hk
  have hy:ys[k]?=G ys[k]:=HA hk2
  have hcy:=hc.at' k _ hy
  rw[HP hk,HP hk2]
  generalize r.am[k]=x at hx⊢
  generalize ys[k]=y at hcy⊢
  have e1:yt.wrap (1+(k:Int))=((k+1:Nat):Int):=by rw[Al];omega
  rw[e1]
  refine⟨y,rfl,by omega,An hcy,x,by omega,Am hx,fun h1=>?_,fun h1=>⟨Ae,⟨?_⟩⟩⟩
  ·have h1:Y (y<x)=J:=h1
   simp only[DI,h1,Bool.not_true,Ih]
  ·have h1:Y (y<x)=O:=h1
   simp only[DI,h1,Bool.not_false,Ij]
   exact ih (I r.am- (k+1)) (by omega) (k+1) rfl
 ·have hk:I r.am<=k:=by simpa using h
  rw[HU hk];simp only[DI]
theorem Z7(r:cp)(c:bc)(s:Int)(ys:List Int)(hc:j4 c s ys)(hl:I r.am=I ys)(hl2:I ys<=1000):F0 147 [Cu r,dV c] (db (gj r s ys)):=by
 refine sv Zu 34 [2,3] (.h (.xs (Ac (lf s)))<|.b .r (.l [ke 2,ke 3,ch 5 (di (0:Nat))])) (Q 2/\iz 0<=0/\(cc c.az)[Z 0]?=G (Ac (lf s))/\((bc.n (lf s) !=r.aj)=J->db O=db (gj r s ys))/\((bc.n (lf s) !=r.aj)=O->di 0=di (↑0:Int)/\I0 Zu (I bd.H) (db (gj r s ys)) bd [kl Wg d5,bh 0,kc Wg [1,1,1]] (ba 34 [(2,bt (bz (Ai r))),(ip c),(5,di (↑0:Int))]) dh)) ⟨rfl,by decide,An (i:=0) hc.head,fun h=>?_,fun h=>⟨rfl,⟨?_⟩⟩⟩
 ·have h:(s !=r.aj)=J:=h
  have h:(s==r.aj)=O:=by simpa using h
  simp only[gj,h,Ih]
 ·have h:(s !=r.aj)=O:=h
  have h:(s==r.aj)=J:=by simpa using h
  simp only[gj,h,Ij]
  exact Z8 r c s ys hc hl hl2 _ 0 rfl
noncomputable abbrev AiU:=Tryz.f99
theorem V5(m:b9)(hm:m.ok)(hk:m.kind=1)(i:Nat)(r:cp)(hi:m.av[i]?=G r)(c:bc)(hcs:c.size<=1000000)(hv:Ah (AF m) c=J)(s:Int)(ys:List Int)(hc:j4 c s ys)(hl:I r.am=I ys)(hl2:I ys<=1000):F0 99 [Af m,di i,dV c] (.tup [db (gj r s ys),di 0]):=by
 have h1:=CW m hm c hcs
 rw[hv] at h1
 exact sv AiU 26 [3,5] (.c (di 0)<|.c (db J)<|.x (Ai r)<|.c (db (gj r s ys)) .r) (_/\_/\0<=(i:Int)/\(U Ai m.av)[Z (i:Int)]?=G (Ai r)/\_/\Q (bl [db (gj r s ys),di 0])) ⟨V1 m hm hk i (HD.1 hi).1,h1,by omega,Am hi,Z7 r c s ys hc hl hl2,rfl⟩
noncomputable abbrev Mj:=Tryz.f54
noncomputable def EW:=yl Mj
abbrev cR(r:cp):List D:=[.v (.str r.name),di r.aj,di r.to,cw r.am,cw r.ak,cw r.move,di r.chan,di r.act,di r.letter,cw r.path,cw r.next,.v (AA r.ar),cw r.aq,di r.second]
def FG:List bc->List Int->List Int->bc×Int
 |xs,w::ws,g::gs=>if Y (w+g>1048576)=J then(.mk 0 [],1) else FG (xs++[lf (w+g)]) ws gs
 |xs,_,_=>(.mk 0 xs,0)
abbrev dP(p:bc×Int):D:=.tup [dV p.1,di p.2]
abbrev Wt(xs:List bc)(ws gs:List Int):D:=dP (FG xs ws gs)
def rr(r:cp)(ys:List Int):List Int:=zipWith (fun y n=>y-n) ys r.am
abbrev gm(r:cp)(ws:List Int):St:=⟨[G [di 0,.v .nils],G (cR r),G (dp ws)],[]⟩
abbrev j9(r:cp)(ws:List Int)(xs:List bc):St:=⟨[G [di 0,.v .nils],G (cR r),G (dp ws),G [di 0,.acc 1 (xs.map eV)]],[(1,2,xs.map eV)]⟩
noncomputable abbrev l8:=(ab [vi 0,ai []])
noncomputable abbrev j0:=(6,bq 0 0)
theorem Ags(r:cp)(ws:List Int)(hw:I ws<=1000)(hg:I r.ak=I ws)(hb:∀w∈ws, -10000000<=w/\w<=10000000)(hb2:∀w∈r.ak, -10000000<=w/\w<=10000000)(n:Nat):∀(k:Nat) (xs:List bc),I ws-k=n->I xs<=k+1->
  Rn PP Mj 0 (Wt xs (ws.drop k) (r.ak.drop k)) bd ([kl EW [1,1,1,1,1,1,1,1,0,1,0,0],.blk 2,kc EW [1,1,1,1,1,1,1,1,1]]++[]) (ba 116 [(6,.ptr 0 0),(10,.ptr 1 0),(11,.arr 2 0 (I ws)),(14,.ptr 3 0),(15,di k)]) (j9 r ws xs):=by
 induction n with
 |zero=>
  intro k xs hn hx
  refine lv 116 [3,5] (.f .r) (Y ((k:Int)<(I ws:Int))=O/\bl [bt (tw xs),di 0]=Wt xs (W k ws) (W k r.ak)) ⟨yq,?_⟩
  rw[HU (show I ws<=k by omega)]
  simp only[Wt,FG];rfl
 |succ n ih=>
  intro k xs hn hx
  obtain⟨w,hw1⟩:=yk (show k<I ws by omega)
  obtain⟨g,hg1⟩:∃g,r.ak[k]?=G g:=⟨_,HA (show k<I r.ak by omega)⟩
  refine lv 116 [3,5] (.t<|.m (di w)<|.x (vi g)<|.b .r (.m (.acc 1 (xs.map eV))<|.m (di w)<|.x (vi g)<|.lo [ke 6,ke 10,ke 11,ke 14,ch 15 (di (k+1:Nat))] (j9 r ws (xs++[lf (w+g)])))) (Y ((k:Int)<(I ws:Int))=J/\0<=(k:Int)/\(k:Int)<(I ws:Int)/\(dp ws)[0+Z (k:Int)*1]?=G (di w)/\0<=(k:Int)/\(U vi r.ak)[Z (k:Int)]?=G (vi g)/\yo/\(Y (yu yt (w+g)>1048576)=J->bl [bt l8,di 1]=Wt xs (W k ws) (W k r.ak))/\(Y (yu yt (w+g)>1048576)=O->Q (G (br 1 (U eV xs)))/\0<=(k:Int)/\(k:Int)<(I ws:Int)/\(dp ws)[0+Z (k:Int)*1]?=G (di w)/\0<=(k:Int)/\(U vi r.ak)[Z (k:Int)]?=G (vi g)/\Q (U eV xs)/\Ao (I (U eV xs)+I (ab (aa yt (yu yt (w+g))::ai nV::nV)::nV)) 32/\(yj (True))/\di (yu yt ((k:Int)+1))=di (↑(k+1):Int)/\cm 4 [1] [G [di 0,dn],G (cR r),G (dp ws),G [di 0,br 1 (U eV xs++[ab [vi (yu yt (w+g)),ai []]])]]=J/\[G [di 0,dn],G (cR r),G (dp ws),G [di 0,br 1 (U eV xs++ab (vi (yu yt (w+g))::ai nV::nV)::nV)]]=[G [di 0,dn],G (cR r),G (dp ws),G [di 0,br 1 (U eV (xs++[lf (w+g)]))]]/\[(1,2,U eV xs++ab (vi (yu yt (w+g))::ai nV::nV)::nV)]=[(1,2,U eV (xs++[lf (w+g)]))]/\I0 Mj 0 (Wt xs (W k ws) (W k r.ak)) bd [kl EW [1,1,1,1,1,1,1,1,0,1,0,0],bh 2,kc EW [1,1,1,1,1,1,1,1,1]] (ba 116 [j0,(10,bq 1 0),(11,bo 2 0 (I ws)),(14,bq 3 0),(15,di (↑(k+1):Int))]) (j9 r ws (xs++[lf (w+g)])))) ?_
  have b1:=hb w (HG hw1)
  have b2:=hb2 g (HG hg1)
  have e1:yt.wrap (w+g)=w+g:=Al
  have e2:(dp ws)[0+Z (k:Int)*1]?=G (di w):=by simp[dp,hw1]
  have e3:ws.drop k=w::ws.drop (k+1):=by rw[HP (by omega)];congr 1;rw[HA (by omega)] at hw1;simpa using hw1
  have e4:r.ak.drop k=g::r.ak.drop (k+1):=by rw[HP (by omega)];congr 1;rw[HA (by omega)] at hg1;simpa using hg1
  rw[e1,e3,e4]
  refine⟨yr,by omega,by omega,e2,by omega,Am hg1,ym,fun h=>?_,fun h=>⟨rfl,by omega,by omega,e2,by omega,Am hg1,rfl,⟨?_,?_⟩,⟨trivial,trivial,trivial,trivial⟩,Ae,?_,?_,?_,⟨?_⟩⟩⟩
  ·simp only[Wt,FG,h,IJ];rfl
  ·simp only[H9,HF,HJ];omega
  ·simp only[H9,HF,HJ];omega
  ·simp[cm,D.okNs,D.okN,Dw]
  ·rw[←B1];rfl
  ·rw[←B1];rfl
  ·have:=ih (k+1) (xs++[lf (w+g)]) (by omega) (by simp;omega)
   simp only[Wt,FG,h,Jq,if_false]
   exact this
def j6(r:cp)(s:Int)(ys:List Int):bc×Int:=if gj r s ys=J then FG [lf r.to] (rr r ys) r.ak else(.mk 0 [],18)
noncomputable abbrev AiH:=Tryz.f24
theorem JA(m:b9)(hm:m.ok):F0 24 [Af m] (di 0):=by
 exact sv AiH 12 [1] (.c (di 0)<|.k<|.f .r) (_/\(m.kind==6)=O/\Q (di 0)) ⟨E5 m hm,by rcases hm.kind with h|h|h<;>rw[h]<;>rfl,rfl⟩
noncomputable abbrev ue:=Tryz.f51
theorem AhH(m:b9)(hm:m.ok)(hk:m.kind=1)(c:bc)(hcs:c.size<=1000000)(hv:Ah (AF m) c=J):F0 51 [Af m,dV c] (.tup [dl [],di 0]):=by
 have h1:=CW m hm c hcs
 rw[hv] at h1
 exact sv ue 38 [2,3] (.c (di 0)<|.c (db J)<|.k<|.f<|.f<|.f .r) (_/\_/\(m.kind==2)=O/\(m.kind==3)=O/\(m.kind==5)=O/\Q (bl [dl [],di 0])) ⟨JA m hm,h1,by rw[hk];rfl,by rw[hk];rfl,by rw[hk];rfl,rfl⟩
noncomputable abbrev Zz:=Tryz.f26
def BG(p:bc×Int):List bc×Int:=if (p.2==18)=J then([],0) else if (p.2 !=0)=J then([],p.2) else([p.1],0)
abbrev du(p:List bc×Int):D:=.tup [cx p.1,di p.2]
noncomputable abbrev n7:=[bt (ai []),di 0]
theorem Aj7(m:b9)(hm:m.ok)(hk:m.kind=1)(c:bc)(hcs:c.size<=1000000)(hv:Ah (AF m) c=J):F0 26 [Af m,di (-1),dV c] (du ([],0)):=by
 have h1:=CW m hm c hcs
 rw[hv] at h1
 exact sv Zz 78 [3,5] (.c (di 0)<|.k<|.k<|.f<|.c (db J)<|.c (.tup [dl [],di 0]) .r) (_/\Y (-1>=(I (U Ai m.av):Int))=O/\_/\_/\bl n7=du ([],0)) ⟨JA m hm,yq,h1,AhH m hm hk c hcs hv,rfl⟩
theorem Aj8(m:b9)(hm:m.ok)(hk:m.kind=1)(i:Nat)(hi:i<I m.av)(c:bc)(hcs:c.size<=1000000)(hv:Ah (AF m) c=J)(p:bc×Int)(hp:F0 54 [Af m,di i,dV c] (dP p)):
  F0 26 [Af m,di i,dV c] (du (BG p)):=by
 have h1:=CW m hm c hcs
 rw[hv] at h1
 refine sv Zz 78 [3,5] (.c (di 0)<|.k<|.f<|.f<|.c (db J)<|.k<|.f<|.f<|.f<|.c (dP p)<|.f<|.b .r (.b .r .r)) (_/\Y ((i:Int)< -1)=O/\Y ((i:Int)>=(I (U Ai m.av):Int))=O/\_/\((i:Int)== -1)=O/\(m.kind==4)=O/\(m.kind==5)=O/\_/\(m.kind !=1)=O/\((p.snd==18)=J->bl n7=du (BG p))/\((p.snd==18)=O->((p.snd !=0)=J->bl [bt (ai []),di p.snd]=du (BG p))/\((p.snd !=0)=O->bl [bt (ai [ab [vi p.fst.n,dt p.fst.az]]),di 0]=du (BG p)))) ⟨JA m hm,yq,by rw[H9];exact yq,h1,Ip.2 (by omega),by rw[hk];rfl,by rw[hk];rfl,hp,by rw[hk];rfl,fun h=>?_,fun h=>⟨fun h2=>?_,fun h2=>?_⟩⟩
 ·rw[BG,HV h];rfl
 ·rw[BG,HR (by rw[h];decide),HV h2];rfl
 ·rw[BG,HR (by rw[h];decide),HR (by rw[h2];decide)]
  show _=bl [.v (.list [eV p.1]),di 0]
  rw[AE]
abbrev c8:=Int×bc
abbrev d8(s:c8):V:=.agg [vi s.1,vi s.2.n,dt s.2.az]
abbrev Aw(l:List c8):V:=.list (l.map d8)
noncomputable abbrev F8:=Tryz.f12
noncomputable def Co:=yl F8
abbrev GZ(l:List c8):D:=.acc 1 (l.map d8)
abbrev FF(l:List c8):St:=⟨[],[(1,3,l.map d8)]⟩
theorem Ge(l:List c8)(s:c8):l.map d8++[d8 s]=(l++[s]).map d8:=by simp
def Cz(ap:Int->List bc×Int):Nat->Int->List c8->List c8×Int
 |0,_,acc=>if Y ((I acc:Int)>256)=J then([],1) else(acc,0)
 |n+1,i,acc=>if ((ap i).2 !=0)=J then([],(ap i).2) else Cz ap n (i+1) (acc++(ap i).1.map fun v=>(i,v))
abbrev e7(p:List c8×Int):D:=.tup [.v (Aw p.1),di p.2]
theorem AdY(m:b9)(c:bc)(rl:Int)(hr1: -1<=rl)(hr2:rl<=1000)(l:List bc)(hl0:I l<=1000)(p:List c8×Int)(fin:List c8)(hf:I fin<=100000)
  (hout:Rn PP F8 0 (e7 p) bd ([kl Co [1,1,1,1,0,1,0,0],.blk 0,kc Co [1,1,1,1,1]]++[]) (ba 57 [(2,.v (.ref (A1 m))),(3,.v (.ref (Ac c))),(7,GZ fin),(8,di (rl+1))]) (FF fin)) (n:Nat):∀(k:Nat) (xs:List c8),I l-k=n->xs++(l.drop k).map (fun v=>(rl,v))=fin->
  Rn PP F8 0 (e7 p) bd ([kl Co [1,1,1,1,0,1,0,0,1,0,0,1,1,1,0,0],.blk 2,.blk 1,kc Co [1,1,1,1,0,1,0,0,1,1],kl Co [1,1,1,1,0,1,0,0],.blk 0,kc Co [1,1,1,1,1]]++[]) (ba 57 [(2,.v (.ref (A1 m))),(3,.v (.ref (Ac c))),(7,GZ xs),(8,di rl),(9,cx l),(11,di k)]) (FF xs):=by
 induction n with
 |zero=>
  intro k xs hn hx
  rw[HU (by omega),I7,Iz] at hx
  subst hx
  exact lv 57 [2,3] (.f<|.l [ke 2,ke 3,ke 7,ch 8 (di (rl+1))]) (Y ((k:Int)<(I (U eV l):Int))=O/\di (yu yt (rl+1))=di (rl+1)/\_) ⟨by rw[H9];exact yq,by rw[Al],iK hout⟩
 |succ n ih=>
  intro k xs hn hx
  have hk:k<I l:=by omega
  have hv:l[k]?=G l[k]:=HA hk
  rw[HP hk] at hx
  generalize l[k]=v at hv hx
  have hlen:=HX I hx
  simp only[HO,H9,HF,IF] at hlen
  refine lv 57 [2,3] (.t<|.x (Ac v)<|.w<|.ls [ke 2,ke 3,ch 7 (GZ (xs++[(rl,v)])),ke 8,ke 9,ch 11 (di (k+1:Nat))] (FF (xs++[(rl,v)]))) (Y ((k:Int)<(I (U eV l):Int))=J/\0<=(k:Int)/\(U eV l)[Z (k:Int)]?=G (Ac v)/\Q (U d8 xs)/\Ao (I (U d8 xs)+I (ab (aa yt rl::vi v.n::dt v.az::nV)::nV)) 40/\(∀(y:V),y∈ [ab [vi rl,vi v.n,dt v.az]]->V.size y=3)/\br 1 (U d8 xs++[ab [vi rl,vi v.n,dt v.az]])=GZ (xs++[(rl,v)])/\di (yu yt ((k:Int)+1))=di (↑(k+1):Int)/\[(1,3,U d8 xs++ab (vi rl::vi v.n::dt v.az::nV)::nV)]=[(1,3,U d8 (xs++[(rl,v)]))]/\_) ⟨by rw[H9];exact yr,by omega,An hv,rfl,⟨?_,?_⟩,by simp[V.size],?_,Ae,?_,iK (ih (k+1) (xs++[(rl,v)]) (by omega) (by rw[←hx];simp))⟩
  ·simp only[H9,HF,HJ];omega
  ·simp only[H9,HF,HJ];omega
  ·rw[GZ, ←Ge]
  ·rw[←Ge]
theorem NK(m:b9)(hm:I m.av<=12)(c:bc)(ap:Int->List bc×Int)(hl:∀i,(ap i).1.length<=1000)(hap:∀i:Int, -1<=i->i<I m.av->F0 26 [Af m,di i,dV c] (du (ap i)))(n:Nat):∀(rl:Int) (xs:List c8), -1<=rl->rl<=I m.av->(I m.av-rl).toNat=n->I xs<=(rl+1).toNat*1000->
  Rn PP F8 0 (e7 (Cz ap n rl xs)) bd ([kl Co [1,1,1,1,0,1,0,0],.blk 0,kc Co [1,1,1,1,1]]++[]) (ba 57 [(2,.v (.ref (A1 m))),(3,.v (.ref (Ac c))),(7,GZ xs),(8,di rl)]) (FF xs):=by
 induction n with
 |zero=>
  intro rl xs h1 h2 hn hx
  refine lv 57 [2,3] (.f<|.b .r .r) (Y (rl<(I (U Ai m.av):Int))=O/\(Y ((I (U d8 xs):Int)>256)=J->bl [bt (ai []),di 1]=e7 (Cz ap 0 rl xs))/\(Y ((I (U d8 xs):Int)>256)=O->bl [bt (ai (U d8 xs)),di 0]=e7 (Cz ap 0 rl xs))) ⟨by rw[H9];exact yq,fun h=>?_,fun h=>?_⟩
  ·rw[H9] at h;rw[Cz,HV h];rfl
  ·rw[H9] at h;rw[Cz,HR (by rw[h];decide)]
 |succ n ih=>
  intro rl xs h1 h2 hn hx
  have hp:=hap rl h1 (by omega)
  have hi:=ih (rl+1) (xs++(ap rl).1.map fun v=>(rl,v)) (by omega) (by omega) (by omega) (by have:=hl rl;simp only[HO,H9];omega)
  have hll:=hl rl
  rw[Cz]
  generalize ap rl=q at*
  refine lv 57 [2,3] (.t<|.c (du q)<|.b .r (.l [ke 2,ke 3,ke 7,ke 8,ke 9,ch 11 (di (0:Nat))])) (Y (rl<(I (U Ai m.av):Int))=J/\_/\((q.snd !=0)=J->bl [bt (ai []),di q.snd]=e7 (if (q.snd !=0)=J then([],q.snd) else Cz ap n (rl+1) (xs++U (fun v=>(rl,v)) q.fst)))/\((q.snd !=0)=O->di 0=di (↑0:Int)/\I0 F8 0 (e7 (if (q.snd !=0)=J then([],q.snd) else Cz ap n (rl+1) (xs++U (fun v=>(rl,v)) q.fst))) bd [kl Co [1,1,1,1,0,1,0,0,1,0,0,1,1,1,0,0],bh 2,bh 1,kc Co [1,1,1,1,0,1,0,0,1,1],kl Co iw,bh 0,kc Co [1,1,1,1,1]] (ba 57 [(2,bt (ic m)),(ip c),(7,br 1 (U d8 xs)),(8,di rl),(9,cx q.fst),(11,di (↑0:Int))]) (FF xs))) ⟨by rw[H9];exact yr,hp,fun h=>?_,fun h=>⟨rfl,⟨?_⟩⟩⟩
  ·rw[HV h];rfl
  ·rw[HR (by rw[h];decide)]
   exact AdY m c rl h1 (by omega) q.1 hll _ _ (by simp only[HO,H9];omega) hi _ 0 xs rfl (by simp)
noncomputable abbrev tz:=fun a₀ b₀=>[(2,bt (bz (A1 a₀))),(3,bt (f7 b₀)),(7,br 1 []),(8,di (-1))]
noncomputable abbrev sb:=[ke 2,ke 3,ke 7,ch 8 (di (-1))]
theorem Wn(m:b9)(hm:m.ok)(c:bc)(hcs:c.size<=1000000)(hv:Ah (AF m) c=J)(ap:Int->List bc×Int)(hl:∀i,(ap i).1.length<=1000)(hap:∀i:Int, -1<=i->i<I m.av->F0 26 [Af m,di i,dV c] (du (ap i))):
  F0 12 [Af m,dV c] (e7 (Cz ap (I m.av+1) (-1) [])):=by
 have hsz:=hm.sz
 have h1:=CW m hm c hcs
 rw[hv] at h1
 refine sv F8 57 [2,3] (.c (di 0)<|.c (db J)<|.h (.q 7 0)<|.h (.nw 7 1 3)<|.ls sb (FF [])) (_/\_/\Q (di (-1))/\Q [(1,3,nV)]/\I0 F8 (I bd.H) (e7 (Cz ap (I m.av+1) (-1) [])) bd [kl Co iw,bh 0,kc Co [1,1,1,1,1]] (ba 57 (tz m c)) (FF [])) ⟨JA m hm,h1,rfl,rfl,⟨?_⟩⟩
 exact NK m (by omega) c ap hl hap (I m.av+1) (-1) [] (by omega) (by omega) (by omega) (by simp)
noncomputable abbrev Alt:=Tryz.f5
theorem Ac7(s:List UInt8):Aa PP 5 [.v (i4 s)] bd (.ptr 0 0) (dz (s.take 200) 0):=by
 by_cases h:I s>200
 ·refine sv Alt 11 [] (.t .ro) (Y ((I (U vb s):Int)>200)=J/\(∀(x:V),x∈U vb s->V.size x=1)/\0<=(200:Int)/\(200:Int)<=(I (U vb s):Int)/\cm 1 [] [G [bt (ai (W 0 (take (Z ((200:Int))) (U vb s)))),di 0]]=J/\[G [bt (ai (W 0 (take (Z ((200:Int))) (U vb s)))),di 0]]=[G (cr (take 200 s) 0)]/\Q (bq 0 0)) ?_
  have e:(s.take 200).map vb=W 0 (take (Z 200) (s.map vb)):=by rw[List.map_take];rfl
  refine⟨by rw[H9];exact yr,by simp[V.size],by decide,by show(200:Int)<=_;rw[H9];omega,rfl,?_,rfl⟩
  rw[cr,i4,e];rfl
 ·refine sv Alt 11 [] (.f .ro) (Y ((I (U vb s):Int)>200)=O/\cm 1 [] [G [bt (i4 s),di 0]]=J/\[G [bt (i4 s),di 0]]=[G (cr (take 200 s) 0)]/\Q (bq 0 0)) ⟨by rw[H9];exact yq,rfl,?_,rfl⟩
  rw[Ic (by omega)];rfl
def fw(c:bc):Int:=(c.az.headD (.mk 0 [])).n
def ej(c:bc):List Int:=c.az.tail.map bc.n
theorem YS(ys:List Int):(ys.map lf).map bc.n=ys:=by
 induction ys with
 |nil=>rfl
 |cons y ys ih=>simp only[Ia,ih,lf,bc.n]
theorem Xx(s:Int)(ys:List Int):fw (Dp s ys)=s:=rfl
theorem O3(s:Int)(ys:List Int):ej (Dp s ys)=ys:=by
 show(U lf ys).map bc.n=ys
 exact YS ys
structure BT(m:b9)(c:bc):Prop where
 eq:c=Dp (fw c) (ej c)
 st:0<=fw c/\fw c<I m.aw
 len:I (ej c)=I m.ay
 nm:∀y∈ej c,0<=y/\y<=1048576
theorem ub(m:b9)(s:Int)(hs:0<=s/\s<I m.aw)(ys:List Int)(hy:I ys=I m.ay)(h:∀y∈ys,0<=y/\y<=1048576):BT m (Dp s ys):=
 ⟨by rw[Xx,O3],by rw[Xx];exact hs,by rw[O3];exact hy,by rw[O3];exact h⟩
structure ka(m:b9):Prop where
 ok:m.ok
 kind:m.kind=1
 move:∀r∈m.av,r.move=[]
 start:BT m m.start
 few:I m.aw<=2/\m.ay.length<=2
structure xu(m:b9)(r:cp):Prop where
 aj:0<=r.aj/\r.aj<I m.aw
 to:0<=r.to/\r.to<I m.aw
 needL:I r.am=I m.ay
 giveL:I r.ak=I m.ay
 am:∀x∈r.am,0<=x/\x<=16
 ak:∀x∈r.ak,0<=x/\x<=16
 move:r.move=[]
theorem ka.rule{m:b9}(h:ka m){r:cp}(hr:r∈m.av):xu m r:=by
 have h1:=h.ok.right r hr
 rw[Er,HV h.kind] at h1
 simp only[DW,BR,HB,Iw,Il] at h1
 obtain⟨h2,h3,⟨h4,h5,h6,h7⟩,_⟩:=h1
 have h2:=Cj h2
 have h3:=Cj h3
 exact⟨⟨h3.1,by omega⟩,⟨h2.1,by omega⟩,by omega,by omega,fun x hx=>Cj (h6 x hx),fun x hx=>Cj (h7 x hx),h.move r hr⟩
theorem ka.ay{m:b9}(h:ka m):1<=I m.ay/\m.ay.length<=6/\1<=I m.aw/\m.aw.length<=8/\m.av.length<=12:=by
 obtain⟨h1,h2,h3,h4,h5,_⟩:=h.ok.sz
 omega
theorem BT.isC{m:b9}{c:bc}(h:BT m c):j4 c (fw c) (ej c):=by
 have:=_root_.Go.Proofs.YtfhgjfkleggjfaaGreatDoor.isC (fw c) (ej c)
 rwa[←h.eq] at this
theorem BT.size{m:b9}(hm:ka m){c:bc}(h:BT m c):c.size<=8:=by
 rw[h.eq,F1,h.len]
 have:=hm.ay;omega
theorem BT.valid{m:b9}(hm:ka m){c:bc}(h:BT m c):Ah (AF m) c=J:=by
 rw[h.eq]
 exact Gw m hm.kind (by have:=hm.ay;omega) _ h.st _ h.len h.nm
def mj(m:b9)(c:bc)(i:Int):List bc×Int:=if i<0 then([],0) else match m.av[i.toNat]? with
 |some r=>BG (j6 r (fw c) (ej c))
 |none=>([],0)
def ME(m:b9)(c:bc):List c8×Int:=Cz (mj m c) (I m.av+1) (-1) []
def KE(r:cp)(ys:List Int):List Int:=zipWith (fun w g=>w+g) (rr r ys) r.ak
theorem Rv:∀(ws gs:List Int) (xs:List bc),((FG xs ws gs).2=0/\(FG xs ws gs).1=.mk 0 (xs++(zipWith (fun w g=>w+g) ws gs).map lf)/\∀y∈zipWith (fun w g=>w+g) ws gs,y<=1048576)∨FG xs ws gs=(.mk 0 [],1)
 |[],gs,xs=>.inl ⟨by simp[FG],by simp[FG],by simp⟩
 |w::ws,[],xs=>.inl ⟨by simp[FG],by simp[FG],by simp⟩
 |w::ws,g::gs,xs=>by
  by_cases h:w+g>1048576
  ·exact .inr (by rw[FG,HV (HC h)])
  ·rw[FG,HR (by rw[HE h];decide)]
   rcases Rv ws gs (xs++[lf (w+g)]) with⟨h1,h2,h3⟩|h1
   ·refine .inl ⟨h1,by rw[h2];simp,fun y hy=>?_⟩
    simp only[List.zipWith_cons_cons,Iq] at hy
    rcases hy with rfl|hy
    ·omega
    ·exact h3 y hy
   ·exact .inr h1
theorem SS:∀{ns ys:List Int},DI ns ys=J->∀(i:Nat) (n y:Int),ns[i]?=G n->ys[i]?=G y->n<=y
 |[],ys,_,i,n,y,h,_=>by simp at h
 |n::ns,[],_,i,n',y,_,h=>by simp at h
 |n::ns,y::ys,h,i,n',y',h1,h2=>by
  simp only[DI,HB,I2,IU] at h
  cases i with
  |zero=>simp at h1 h2;subst h1;subst h2;omega
  |succ i=>exact SS h.2 i n' y' (by simpa using h1) (by simpa using h2)
theorem Wo{m:b9}{r:cp}(hr:xu m r){ys:List Int}(hy:I ys=I m.ay):I (KE r ys)=I m.ay:=by
 have h1:=hr.needL;have h2:=hr.giveL
 simp only[KE,rr,List.length_zipWith];omega
theorem Aax{r:cp}{ys:List Int}{i:Nat}{z:Int}(h:(KE r ys)[i]?=G z):∃y n g,ys[i]?=G y/\r.am[i]?=G n/\r.ak[i]?=G g/\z=y-n+g:=by
 simp only[KE,rr,List.getElem?_zipWith] at h
 split at h
 ·rename_i w g h1 h2
  split at h1
  ·rename_i y n h3 h4
   simp at h h1
   exact⟨y,n,g,h3,h4,h2,by omega⟩
  ·simp at h1
 ·simp at h
theorem Aj3{m:b9}{r:cp}(hr:xu m r){c:bc}(hc:BT m c):
  ((j6 r (fw c) (ej c)).2=0/\fw c=r.aj/\(j6 r (fw c) (ej c)).1=Dp r.to (KE r (ej c))/\BT m (Dp r.to (KE r (ej c))))∨(j6 r (fw c) (ej c)).2=1∨(j6 r (fw c) (ej c)).2=18:=by
 unfold j6
 split
 ·rename_i he
  simp only[gj,HB,Il] at he
  rcases Rv (rr r (ej c)) r.ak [lf r.to] with⟨h1,h2,h3⟩|h1
  ·refine .inl ⟨h1,he.1,by rw[h2];rfl,ub m _ hr.to _ (Wo hr hc.len) fun z hz=>⟨?_,h3 z hz⟩⟩
   obtain⟨i,hi⟩:=List.getElem?_of_mem hz
   obtain⟨y,n,g,a1,a2,a3,rfl⟩:=Aax hi
   have b1:=SS he.2 i n y a2 a1
   have b2:=(hr.ak g (HG a3)).1
   omega
  ·exact .inr (.inl (by rw[h1]))
 ·exact .inr (.inr rfl)
structure Aa2(m:b9)(c:bc)(s:c8):Prop where
 rule:∃(i:Nat) (r:cp),s.1=i/\m.av[i]?=G r/\fw c=r.aj/\s.2=Dp r.to (KE r (ej c))/\j6 r (fw c) (ej c)=(s.2,0)
 ok:BT m s.2
theorem xb{m:b9}(hm:ka m){c:bc}(hc:BT m c)(i:Int):((mj m c i).2=0∨(mj m c i).2=1)/\(mj m c i).1.length<=1/\∀v∈ (mj m c i).1,Aa2 m c (i,v):=by
 unfold mj
 split
 ·exact⟨.inl rfl,by simp,by simp⟩
 ·rename_i h0
  split
  ·rename_i r hi
   have hr:=hm.rule (HG hi)
   rcases Aj3 hr hc with⟨h1,h2,h3,h4⟩|h1|h1
   ·have:BG (j6 r (fw c) (ej c))=([Dp r.to (KE r (ej c))],0):=by
     rw[BG,HR (by rw[h1];decide),HR (by rw[h1];decide),h3]
    rw[this]
    refine⟨.inl rfl,by simp,fun v hv=>?_⟩
    rw[HQ.1 hv]
    exact⟨⟨i.toNat,r,by show i=_;omega,hi,h2,rfl,by rw[←h3, ←h1]⟩,h4⟩
   ·have:BG (j6 r (fw c) (ej c))=([],1):=by rw[BG,HR (by rw[h1];decide),HV (by rw[h1];decide),h1]
    rw[this];exact⟨.inr rfl,by simp,by simp⟩
   ·have:BG (j6 r (fw c) (ej c))=([],0):=by rw[BG,HV (by rw[h1];decide)]
    rw[this];exact⟨.inl rfl,by simp,by simp⟩
  ·exact⟨.inl rfl,by simp,by simp⟩
theorem RQ{ap:Int->List bc×Int}(he:∀i,(ap i).2=0∨(ap i).2=1)(hl:∀i,(ap i).1.length<=1){Q:c8->Prop}(hq:∀i,∀v∈ (ap i).1,Q (i,v)):∀(n:Nat) (i:Int) (acc:List c8),(∀s∈acc,Q s)->
  ((Cz ap n i acc).2=0∨(Cz ap n i acc).2=1)/\(Cz ap n i acc).1.length<=I acc+n/\∀s∈ (Cz ap n i acc).1,Q s
 |0,i,acc,ha=>by
  rw[Cz]
  split
  ·exact⟨.inr rfl,by simp,by simp⟩
  ·exact⟨.inl rfl,by simp,ha⟩
 |n+1,i,acc,ha=>by
  rw[Cz]
  split
  ·exact⟨he i,by simp,by simp⟩
  ·obtain⟨h1,h2,h3⟩:=RQ he hl hq n (i+1) (acc++(ap i).1.map fun v=>(i,v)) (fun s hs=>by
    rcases Ix.1 hs with hs|hs
    ·exact ha s hs
    ·obtain⟨v,hv,rfl⟩:=Is.1 hs
     exact hq i v hv)
   have:=hl i
   exact⟨h1,by simp only[HO,H9] at h2;omega,h3⟩
theorem Xw{m:b9}(hm:ka m){c:bc}(hc:BT m c):((ME m c).2=0∨(ME m c).2=1)/\(ME m c).1.length<=13/\∀s∈ (ME m c).1,Aa2 m c s:=by
 have:=hm.ay
 obtain⟨h1,h2,h3⟩:=RQ (ap:=mj m c) (fun i=>(xb hm hc i).1) (fun i=>(xb hm hc i).2.1) (Q:=Aa2 m c) (fun i=>(xb hm hc i).2.2) (I m.av+1) (-1) [] (by simp)
 exact⟨h1,by simp only[HJ] at h2;exact I6 h2 (by omega),h3⟩
inductive qh (m:b9) (c:bc):List c8->bc->Prop where
 |nil:qh m c [] c
 |snoc {l:List c8} {d:bc} {s:c8}:qh m c l d->(ME m d).2=0->s∈ (ME m d).1->qh m c (l++[s]) s.2
theorem qh.ok{m:b9}(hm:ka m){c d:bc}{l:List c8}(hc:BT m c)(h:qh m c l d):BT m d:=by
 induction h with
 |nil=>exact hc
 |snoc _ _ hs ih=>exact((Xw hm ih).2.2 _ hs).ok
structure iy{α:Type}(c:α->α->Int)(S:α->Prop):Prop where
 refl:∀x,S x->c x x=0
 eq:∀x y,S x->S y->c x y=0->x=y
 swap:∀x y,S x->S y->(c x y<0↔0<c y x)
 trans:∀x y z,S x->S y->S z->c x y<0->c y z<0->c x z<0
theorem JG:iy AL fun _=>True:=by
 constructor<;>simp only[AL]<;>intros<;>(repeat' split at*)<;>(repeat' split)<;>omega
theorem Ad8{α:Type}{c:α->α->Int}{S:α->Prop}(h:iy c S):iy (B0 c) fun l=>∀x∈l,S x:=by
 have rfl':∀l:List α,(∀x∈l,S x)->B0 c l l=0:=by
  intro l
  induction l with
  |nil=>intro _;rfl
  |cons x l ih=>intro hs;rw[B0,HV (h.refl x (hs x (by simp)))];exact ih fun y hy=>hs y (by simp[hy])
 have eq':∀a b:List α,(∀x∈a,S x)->(∀x∈b,S x)->B0 c a b=0->a=b:=by
  intro a
  induction a with
  |nil=>intro b _ _ e;cases b with
   |nil=>rfl
   |cons y b=>simp[B0] at e
  |cons x a ih=>intro b ha hb e;cases b with
   |nil=>simp[B0] at e
   |cons y b=>
    simp only[B0] at e
    split at e
    ·rename_i h0
     rw[h.eq x y (ha x (by simp)) (hb y (by simp)) h0,ih b (fun z hz=>ha z (by simp[hz])) (fun z hz=>hb z (by simp[hz])) e]
    ·exact absurd e (by assumption)
 have c0:∀x y,S x->S y->(c x y=0↔c y x=0):=fun x y hx hy=>by
  have h1:=h.swap x y hx hy
  have h2:=h.swap y x hy hx
  constructor<;>intro _<;>omega
 have sw:∀a b:List α,(∀x∈a,S x)->(∀x∈b,S x)->(B0 c a b<0↔0<B0 c b a):=by
  intro a
  induction a with
  |nil=>intro b _ _;cases b<;>simp[B0]
  |cons x a ih=>intro b ha hb;cases b with
   |nil=>simp[B0]
   |cons y b=>
    have hx:=ha x (by simp);have hy:=hb y (by simp)
    simp only[B0]
    by_cases h0:c x y=0
    ·rw[HV h0,HV ((c0 x y hx hy).1 h0)];exact ih b (fun z hz=>ha z (by simp[hz])) (fun z hz=>hb z (by simp[hz]))
    ·rw[HR h0,HR (fun e=>h0 ((c0 x y hx hy).2 e))];exact h.swap x y hx hy
 have tr:∀a b d:List α,(∀x∈a,S x)->(∀x∈b,S x)->(∀x∈d,S x)->B0 c a b<0->B0 c b d<0->B0 c a d<0:=by
  intro a
  induction a with
  |nil=>intro b d _ _ _ h1 h2;cases b with
   |nil=>simp[B0] at h1
   |cons y b=>cases d with
    |nil=>simp[B0] at h2
    |cons z d=>simp[B0]
  |cons x a ih=>intro b d ha hb hd h1 h2;cases b with
   |nil=>simp[B0] at h1
   |cons y b=>cases d with
    |nil=>simp[B0] at h2
    |cons z d=>
     have hx:=ha x (by simp);have hy:=hb y (by simp);have hz:=hd z (by simp)
     have ha':∀w∈a,S w:=fun w hw=>ha w (by simp[hw])
     have hb':∀w∈b,S w:=fun w hw=>hb w (by simp[hw])
     have hd':∀w∈d,S w:=fun w hw=>hd w (by simp[hw])
     simp only[B0] at*
     by_cases e1:c x y=0
     ·have:=h.eq x y hx hy e1;subst this
      rw[HV e1] at h1
      by_cases e2:c x z=0
      ·rw[HV e2] at h2⊢
       exact ih b d ha' hb' hd' h1 h2
      ·rw[HR e2] at h2⊢;exact h2
     ·rw[HR e1] at h1
      by_cases e2:c y z=0
      ·have:=h.eq y z hy hz e2;subst this
       rw[HR e1];exact h1
      ·rw[HR e2] at h2
       have:=h.trans x y z hx hy hz h1 h2
       rw[HR (by omega)];exact this
 exact⟨rfl',eq',sw,tr⟩
theorem Gv(a b:bc):Aq a b=if AL a.n b.n=0 then(if AL (I a.az) (I b.az)=0 then B0 Aq a.az b.az else AL (I a.az) (I b.az)) else AL a.n b.n:=by
 rw[ON, ←or3]
theorem bc.ext:∀{a b:bc},a.n=b.n->a.az=b.az->a=b
 |.mk _ _,.mk _ _,rfl,rfl=>rfl
theorem ZX(N:Nat):iy Aq fun v=>v.size<=N:=by
 induction N with
 |zero=>exact⟨fun x h=>absurd x.size_pos (by omega),fun x _ h=>absurd x.size_pos (by omega),fun x _ h=>absurd x.size_pos (by omega),fun x _ _ h=>absurd x.size_pos (by omega)⟩
 |succ N ih=>
  have hL:=Ad8 ih
  have hk:∀v:bc,v.size<=N+1->∀x∈v.az,x.size<=N:=fun v hv x hx=>by
   have:=v.size_eq;have:=bc.size_mem hx;omega
  have h1:=JG
  have i0:∀x y:Int,AL x y=0↔AL y x=0:=fun x y=>by
   have a:=h1.swap x y trivial trivial
   have b:=h1.swap y x trivial trivial
   constructor<;>intro _<;>omega
  refine⟨fun x hx=>?_,fun x y hx hy e=>?_,fun x y hx hy=>?_,fun x y z hx hy hz e1 e2=>?_⟩
  ·rw[Gv,HV (h1.refl _ trivial),HV (h1.refl _ trivial)];exact hL.refl _ (hk x hx)
  ·rw[Gv] at e
   split at e
   ·rename_i a1
    split at e
    ·exact bc.ext (h1.eq _ _ trivial trivial a1) (hL.eq _ _ (hk x hx) (hk y hy) e)
    ·exact absurd e (by assumption)
   ·exact absurd e (by assumption)
  ·rw[Gv,Gv y x]
   by_cases a1:AL x.n y.n=0
   ·rw[HV a1,HV ((i0 _ _).1 a1)]
    by_cases a2:AL (I x.az) (I y.az)=0
    ·rw[HV a2,HV ((i0 _ _).1 a2)];exact hL.swap _ _ (hk x hx) (hk y hy)
    ·rw[HR a2,HR (fun e=>a2 ((i0 _ _).2 e))];exact h1.swap _ _ trivial trivial
   ·rw[HR a1,HR (fun e=>a1 ((i0 _ _).2 e))];exact h1.swap _ _ trivial trivial
  ·rw[Gv] at e1 e2⊢
   by_cases a1:AL x.n y.n=0
   ·rw[HV a1] at e1
    have b1:=h1.eq _ _ trivial trivial a1
    rw[b1]
    by_cases c1:AL y.n z.n=0
    ·rw[HV c1] at e2⊢
     by_cases a2:AL (I x.az) (I y.az)=0
     ·rw[HV a2] at e1
      have b2:=h1.eq _ _ trivial trivial a2
      rw[b2]
      by_cases c2:AL (I y.az) (I z.az)=0
      ·rw[HV c2] at e2⊢;exact hL.trans _ _ _ (hk x hx) (hk y hy) (hk z hz) e1 e2
      ·rw[HR c2] at e2⊢;exact e2
     ·rw[HR a2] at e1
      by_cases c2:AL (I y.az) (I z.az)=0
      ·have b2:=h1.eq _ _ trivial trivial c2
       rw[←b2,HR a2];exact e1
      ·rw[HR c2] at e2
       have:=h1.trans _ _ _ trivial trivial trivial e1 e2
       rw[HR (by omega)];exact this
    ·rw[HR c1] at e2⊢;exact e2
   ·rw[HR a1] at e1
    by_cases c1:AL y.n z.n=0
    ·have b1:=h1.eq _ _ trivial trivial c1
     rw[←b1,HR a1];exact e1
    ·rw[HR c1] at e2
     have:=h1.trans _ _ _ trivial trivial trivial e1 e2
     rw[HR (by omega)];exact this
theorem Bz:iy Aq fun _=>True:=by
 have h:∀x y z:bc,iy Aq fun v=>v.size<=x.size+y.size+z.size:=fun x y z=>ZX _
 exact⟨fun x _=>(h x x x).refl x (by omega),fun x y _ _ e=>(h x y y).eq x y (by omega) (by omega) e,fun x y _ _=>(h x y y).swap x y (by omega) (by omega),fun x y z _ _ _ e1 e2=>(h x y z).trans x y z (by omega) (by omega) (by omega) e1 e2⟩
theorem EB{a b:bc}:Aq a b=0↔a=b:=⟨fun h=>Bz.eq a b trivial trivial h,fun h=>by rw[h];exact Bz.refl b trivial⟩
theorem FM(a b:bc):Aq a b<=0↔¬Aq b a<0:=by
 have:=Bz.swap b a trivial trivial
 omega
theorem Ey{a b c:bc}(h1:Aq a b<=0)(h2:Aq b c<=0):Aq a c<=0:=by
 by_cases e1:Aq a b=0
 ·rw[EB.1 e1];exact h2
 ·by_cases e2:Aq b c=0
  ·rw[←EB.1 e2];exact h1
  ·have:=Bz.trans a b c trivial trivial trivial (by omega) (by omega)
   omega
theorem J9(a b:bc):Aq a b<=0∨Aq b a<=0:=by
 have:=Bz.swap b a trivial trivial
 omega
theorem Sr(l:List bc):∀k:Nat,k<I l->(Ws l k=J↔∀i,i<k->Aq (l.getD i default) (l.getD (i+1) default)<=0)
 |0,_=>⟨fun _ i h=>absurd h (Nat.not_lt_zero i),fun _=>rfl⟩
 |k+1,hk=>by
  have ih:=Sr l k (by omega)
  rw[Ws]
  split
  ·rename_i h
   refine⟨fun h=>by simp at h,fun h2=>?_⟩
   have:=(FM _ _).1 (h2 k (by omega))
   exact absurd h this
  ·rename_i h
   rw[ih]
   refine⟨fun h2 i hi=>?_,fun h2 i hi=>h2 i (by omega)⟩
   by_cases e:i=k
   ·subst e;exact(FM _ _).2 h
   ·exact h2 i (by omega)
theorem LG:∀(l:List bc),(∀i,i+1<I l->Aq (l.getD i default) (l.getD (i+1) default)<=0)->l.Pairwise fun a b=>Aq a b<=0
 |[],_=>.nil
 |[_],_=>List.pairwise_singleton _ _
 |x::y::l,h=>by
  have ih:=LG (y::l) fun i hi=>h (i+1) (by simp at hi⊢;omega)
  have h0:Aq x y<=0:=h 0 (by simp)
  refine List.pairwise_cons.2 ⟨fun z hz=>?_,ih⟩
  rcases Iq.1 hz with rfl|hz
  ·exact h0
  ·exact Ey h0 ((List.pairwise_cons.1 ih).1 z hz)
theorem Oc(l:List bc):UA l=J↔l.Pairwise fun a b=>Aq a b<=0:=by
 unfold UA
 cases l with
 |nil=>exact⟨fun _=>.nil,fun _=>rfl⟩
 |cons x l=>
  rw[Sr _ _ (by simp)]
  constructor
  ·exact fun h=>LG _ fun i hi=>h i (by simp at hi⊢;omega)
  ·intro h i hi
   have hi:i<I l:=by simpa using hi
   have h1:i<I (x::l):=by simp;omega
   have h2:i+1<I (x::l):=by simp;omega
   have:=List.pairwise_iff_getElem.1 h i (i+1) h1 h2 (by omega)
   rw[HI,HI,HA h1,HA h2]
   exact this
end Go.Proofs.YtfhgjfkleggjfaaGreatDoor
