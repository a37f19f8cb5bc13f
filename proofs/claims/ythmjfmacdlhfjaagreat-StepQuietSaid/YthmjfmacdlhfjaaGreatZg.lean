/-
  A part of the proof.
-/
import Derived.Test.YthmjfmacdlhfjaaGreatZf
import Derived.Test.YthmjfmacdlhfjaaGreatZe
import Derived.Laws.IdiomStrings
import Derived.Test.YthmjfmacdlhfjaaGreatZc
import Derived.Test.YthmjfmacdlhfjaaGreatZd
namespace Go.Proofs.YthmjfmacdlhfjaaGreat
open Go.Dv Go.Nv
set_option maxRecDepth 20000
open Go.IntKind (u64)
open Go.IntKind renaming wrap → yr, i64 → yq
open List renaming length → I, map → U, drop → W
open Option renaming some → G
open Bool renaming true → J, false → O
open Decidable renaming decide → Y
open Int renaming toNat → Z
open Go.Dv.V renaming list → ai, str → ae, agg → ab, int → aa, ref → bz, fn → bw, nils → bv, bool → bu
open Go.Dv.D renaming v → bt, acc → br, ptr → bq, arr → bo, gro → bm, tup → bl, undef → bk, dagg → bj
open Go.Dv.St renaming mk → bi
open Go.Dv.KI renaming blk → bh
open _root_.ByteArray renaming mk → bg
open Go renaming Operand → x5, Program → x4, TypeId → yz, World → yy, Value → yx, Oper → yw, FuncId → yv, Func → yu, IntKind → yt
theorem xi{ap:Int->List bd×Int}{Q:da->Prop}(hq:∀i,∀v∈ (ap i).1,Q (i,v)):∀(n:Nat) (i:Int) (acc:List da),(∀s∈acc,Q s)->(CJ ap n i acc).1.length<=256/\∀s∈ (CJ ap n i acc).1,Q s
 |0,i,acc,ha=>by
  rw[CJ]
  split
  ·exact⟨by simp,by simp⟩
  ·rename_i h
   exact⟨by have:=IB (Ic h);show I acc<=256;omega,ha⟩
 |n+1,i,acc,ha=>by
  rw[CJ]
  split
  ·exact⟨by simp,by simp⟩
  ·exact xi hq n (i+1) (acc++(ap i).1.map fun v=>(i,v)) (fun s hs=>by
    rcases IE.1 hs with hs|hs
    ·exact ha s hs
    ·obtain⟨v,hv,rfl⟩:=IA.1 hs
     exact hq i v hv)
def ri(p:List bd×Int):Prop:=I p.1<=1000/\∀v∈p.1,v.size<=1000
theorem AbN{p:bd×Int}(h:p.1.size<=1000):ri (Cx p):=by
 unfold Cx
 split
 ·exact⟨by simp,by simp⟩
 ·split
  ·exact⟨by simp,by simp⟩
  ·exact⟨by simp,fun v hv=>by rw[Ii.1 hv];exact h⟩
structure jn(m:ba)(t:bc)(ap:bd->Int->List bd×Int):Prop where
 int:Wn m t
 chk:F0 52 [Ax m] (di 0)
 kind:m.kind≠6
 few:I m.av<=12
 bp:∀c:bd,Aw t c=J->∀i:Int,ri (ap c i)
 beh:∀c:bd,c.size<=1000->Aw t c=J->∀i:Int, -1<=i->i<I m.av->F0 27 [Ax m,di i,dV c] (dm (ap c i))
theorem sd{m:ba}{t:bc}{ap:bd->Int->List bd×Int}(hm:jn m t ap):F0 28 [Ax m] (di 0):=by
 exact sv Aki 12 [1] (.c (di 0)<|.k<|.f .r) (_/\(m.kind==6)=O/\Q (di 0)) ⟨hm.chk,I7.2 hm.kind,rfl⟩
theorem te{m:ba}{t:bc}{ap:bd->Int->List bd×Int}(hm:jn m t ap)(c:bd)(hs:c.size<=1000):F0 26 [Ax m,dV c] (di (if Aw t c=J then 0 else 17)):=by
 have h1:=hm.int.valid c (by omega)
 cases hv:Aw t c with
 |true=>
  rw[hv] at h1
  show Aa PP _ _ _ (di 0) _
  exact sv wl 15 [2,3] (.c (di 0)<|.c (db J) .r) (_/\_/\Q (di 0)) ⟨sd hm,h1,rfl⟩
 |false=>
  rw[hv] at h1
  show Aa PP _ _ _ (di 17) _
  exact sv wl 15 [2,3] (.c (di 0)<|.c (db O) .r) (_/\_/\Q (di 17)) ⟨sd hm,h1,rfl⟩
def M7(m:ba)(t:bc)(ap:bd->Int->List bd×Int)(c:bd):List da×Int:=if Aw t c=J then CJ (ap c) (I m.av+1) (-1) [] else([],17)
theorem tf{m:ba}{t:bc}{ap:bd->Int->List bd×Int}(hm:jn m t ap)(c:bd)(hs:c.size<=1000):((M7 m t ap c).1.length<=256/\∀s∈ (M7 m t ap c).1,s.2.size<=1000)/\F0 11 [Ax m,dV c] (fi (M7 m t ap c)):=by
 have hc:=te hm c hs
 unfold M7
 cases hv:Aw t c with
 |false=>
  rw[hv] at hc
  have hc:F0 26 [Ax m,dV c] (di 17):=hc
  rw[Ij (by decide)]
  refine⟨⟨by simp,by simp⟩,?_⟩
  exact sv MC 53 [2,3] (.c (di 17) .r) (_/\bl [bt (ai []),di 17]=fi ([],17)) ⟨hc,rfl⟩
 |true=>
  rw[hv] at hc
  have hc:F0 26 [Ax m,dV c] (di 0):=hc
  rw[Io rfl]
  have hb:=hm.bp c hv
  have hap:=fun i h1 h2=>hm.beh c hs hv i h1 h2
  generalize ap c=ap at hb hap⊢
  refine⟨xi (ap:=ap) (Q:=fun s=>s.2.size<=1000) (fun i v hv=>(hb i).2 v hv) (I m.av+1) (-1) [] (by simp),?_⟩
  refine sv MC 53 [2,3] (.c (di 0)<|.h (.q 5 0)<|.h (.nw 7 1 3)<|.ls [ke 2,ke 3,ke 7,ch 8 (di (-1))] (lk [])) (_/\Q (di (-1))/\Q [(1,3,nV)]/\I0 MC (I bf.H) (fi (CJ ap (I m.av+1) (-1) [])) bf [kl DU [1,1,1,0,1,0,0],bh 0,kc DU [1,1,1,1]] (b9 53 [(2,bt (bz (AE m))),(3,bt (bz (Au c))),(7,br 1 []),(8,di (-1))]) (lk [])) ⟨hc,rfl,rfl,⟨?_⟩⟩
  exact Xo m hm.few c ap (fun i=>(hb i).1) (fun i h1 h2=>hap i h1 h2) (I m.av+1) (-1) [] (by omega) (by omega) (by omega) (by simp)
theorem se{m:ba}{c:bd}(hk:m.kind=2∨m.kind=3){l:List bd}(hl:F0 63 [Ax m,dV c] (dm (l,0))):F0 34 [Ax m,dV c] (cx l):=by
 rcases hk with hk|hk
 ·exact sv ow 31 [2,3] (.t<|.c (dm (l,0)) .r) ((m.kind==2)=J/\_/\Q (cx l)) ⟨by rw[hk];rfl,hl,rfl⟩
 ·exact sv ow 31 [2,3] (.f<|.t<|.c (dm (l,0)) .r) ((m.kind==2)=O/\(m.kind==3)=J/\_/\Q (cx l)) ⟨by rw[hk];rfl,by rw[hk];rfl,hl,rfl⟩
theorem u4{m:ba}{c:bd}(hk:m.kind=5){v:bd}(hl:F0 64 [Ax m,dV c] (.tup [dV v,di 0])):F0 34 [Ax m,dV c] (cx [v]):=by
 refine sv ow 31 [2,3] (.f<|.f<|.t<|.c (.tup [dV v,di 0]) .r) ((m.kind==2)=O/\(m.kind==3)=O/\(m.kind==5)=J/\_/\bt (ai [ab [vi v.n,cc v.az]])=cx [v]) ⟨by rw[hk];rfl,by rw[hk];rfl,by rw[hk];rfl,hl,?_⟩
 show bt (.list [Au v])=cx [v]
 rw[←AR];rfl
theorem Z6{m:ba}{c:bd}{l:List bd}(h:F0 34 [Ax m,dV c] (cx l)):F0 27 [Ax m,di (-1),dV c] (dm (l,0)):=by
 exact sv mj 56 [3,5] (.c (cx l) .r) (_/\bl [cx l,di 0]=dm (l,0)) ⟨h,rfl⟩
theorem AmC{m:ba}(hk:m.kind=2∨m.kind=3)(i:Nat)(c:bd)(p:bd×Int)(hp:F0 51 [Ax m,di i,dV c] (dP p)):F0 27 [Ax m,di i,dV c] (dm (Cx p)):=by
 exact sv mj 56 [3,5] (.f<|.f<|.f<|.f<|.c (dP p)<|.c (dm (Cx p)) .r) (((i:Int)== -1)=O/\(m.kind==1)=O/\(m.kind==4)=O/\(m.kind==5)=O/\_/\_/\bl [bt (cc (Cx p).fst),di (Cx p).snd]=dm (Cx p)) ⟨I7.2 (by omega),by rcases hk with h|h<;>(rw[h];rfl),by rcases hk with h|h<;>(rw[h];rfl),by rcases hk with h|h<;>(rw[h];rfl),hp,PA p,rfl⟩
theorem AmA{m:ba}(hk:m.kind=5)(i:Nat)(c:bd)(p:List bd×Int)(hp:F0 50 [Ax m,di i,dV c] (dm p)):F0 27 [Ax m,di i,dV c] (dm p):=by
 exact sv mj 56 [3,5] (.f<|.f<|.f<|.t<|.c (dm p) .r) (((i:Int)== -1)=O/\(m.kind==1)=O/\(m.kind==4)=O/\(m.kind==5)=J/\_/\bl [cx p.fst,di p.snd]=dm p) ⟨I7.2 (by omega),by rw[hk];rfl,by rw[hk];rfl,by rw[hk];rfl,hp,rfl⟩
def fj(m:ba)(t:bc)(c:bd)(i:Int):List bd×Int:=if i<0 then(sortV (fk m c (I m.ay)),0) else match m.av[i.toNat]? with
 |some r=>Cx (QS t r c)
 |none=>([],0)
theorem ip.st{m:ba}{t:bc}(hm:ip m t)(hr:I m.au<=1000):jn m t (fj m t):=by
 refine⟨hm.int,hm.chk,by rcases hm.kind with h|h<;>(rw[h];decide),hm.few.1,fun c hv i=>?_,fun c hs hv i h1 h2=>?_⟩
 ·have hsh:=hm.shape c hv
  have hl:=hsh.len
  have h2:=hm.few.2
  unfold fj
  split
  ·have hlen:=RH m c (I m.ay)
   refine⟨by show(sortV _).length<=1000;rw[(AN _).length_eq];omega,fun v hv=>?_⟩
   have:=Tv hsh.size (by omega) ((AN _).mem_iff.1 hv)
   omega
  ·split
   ·rename_i r hr
    have:=hsh.size
    exact AbN (TX m t hm _ r hr c (by omega)).1
   ·exact⟨by simp,by simp⟩
 ·unfold fj
  by_cases h0:i<0
  ·have:i= -1:=by omega
   subst this
   rw[Io h0]
   exact Z6 (se hm.kind (OC m t hm hr c hv))
  ·obtain⟨k,rfl⟩:∃k:Nat,i=k:=⟨i.toNat,by omega⟩
   have hk:k<I m.av:=by omega
   have hr:m.av[k]?=G m.av[k]:=HQ hk
   rw[Ij h0,show((k:Nat):Int).toNat=k by omega,hr]
   exact AmC hm.kind k c _ (TX m t hm k _ hr c hs).2
def ZJ(m:ba)(t:bc)(c:bd)(i:Int):List bd×Int:=if i<0 then([lu m c],0) else match m.av[i.toNat]? with
 |some r=>Rl t r c
 |none=>([],0)
theorem jo.st{m:ba}{t:bc}(hm:jo m t):jn m t (ZJ m t):=by
 refine⟨hm.int,hm.chk,by rw[hm.kind];decide,hm.few,fun c hv i=>?_,fun c hs hv i h1 h2=>?_⟩
 ·unfold ZJ
  split
  ·exact⟨by simp,fun y hy=>by rw[Ii.1 hy];exact(NL m t hm c hv).1⟩
  ·split
   ·rename_i r hr
    have:=WN (t:=t) (r:=r) (fun _=>hm.shape c hv) (hm.rule r (HW hr))
    exact⟨by omega,this.2⟩
   ·exact⟨by simp,by simp⟩
 ·unfold ZJ
  by_cases h0:i<0
  ·have:i= -1:=by omega
   subst this
   rw[Io h0]
   exact Z6 (u4 hm.kind (NL m t hm c hv).2)
  ·obtain⟨k,rfl⟩:∃k:Nat,i=k:=⟨i.toNat,by omega⟩
   have hk:k<I m.av:=by omega
   have hr:m.av[k]?=G m.av[k]:=HQ hk
   rw[Ij h0,show((k:Nat):Int).toNat=k by omega,hr]
   exact AmA hm.kind k c _ (WT m t hm k _ hr c hs)
theorem Gt:∀(l:List bc) (vs:List bd) (k:Nat) (t:bc) (v:bd),B1 l vs=J->l[k]?=G t->vs[k]?=G v->A0 t v=J
 |[],_,_,_,_,_,h,_=>by simp at h
 |_::_,[],_,_,_,_,_,h=>by simp at h
 |s::l,x::vs,0,t,v,h,h1,h2=>by
  simp only[B1,HR] at h
  simp at h1 h2
  subst h1;subst h2;exact h.1
 |s::l,x::vs,k+1,t,v,h,h1,h2=>by
  simp only[B1,HR] at h
  exact Gt l vs k t v h.2 (by simpa using h1) (by simpa using h2)
theorem Ev{l:List bc}{c:bd}(h:Aw (.prod l) c=J):c.size<=128/\c.az.length=I l/\B1 l c.az=J:=by
 simp only[Aw,A0,HR,Ia,I4] at h
 obtain⟨h1,h2,h3,h4⟩:=h
 exact⟨by omega,by omega,h4⟩
theorem Yf{l:List bc}{c:bd}(h:A0 (.prod l) c=J):I c.az=I l/\B1 l c.az=J:=by
 simp only[A0,HR,I4] at h
 exact⟨by omega,h.2.2⟩
theorem VJ{m:ba}(hk:m.kind=2∨m.kind=3)(c:bd)(h:Aw (AJ m) c=J):u6 m c:=by
 rw[AJ] at h
 obtain⟨h1,h2,h3⟩:=Ev h
 refine⟨h1,by rw[h2];simp;omega,fun k x hx=>?_⟩
 have hkl:=(HT.1 hx).1
 have ht:(bc.lab (I m.aw)::List.replicate (I m.ay) (BB m))[1+k]?=G (BB m):=by
  rw[show 1+k=k+1 by omega,J8,List.getElem?_replicate]
  rw[Io]
  simp at h2;omega
 have ho:=Gt _ _ _ _ _ h3 ht hx
 rcases hk with hk|hk
 ·rw[show BB m=.word (.lab (I m.ax)) by simp[BB,hk]] at ho
  simp only[A0,HR,Ia] at ho
  have:=ho.2.1
  omega
 ·rw[show BB m=.prio (I m.ax) m.au by simp[BB,hk]] at ho
  simp only[A0,HR,Ia] at ho
  have:=ho.2.1
  omega
theorem ZB{m:ba}(c:bd)(h:Aw (Cq m) c=J):pm c:=by
 rw[Cq] at h
 obtain⟨h1,h2,h3⟩:=Ev h
 have hb:∀b,c.az[1]?=G b->A0 (.bag (.prod [.lab (I m.ay),.lab (m.age+2)])) b=J:=fun b hb=>Gt _ _ 1 _ _ h3 rfl hb
 refine⟨h1,h2,fun b hx=>?_,fun b v hx hv=>?_⟩
 ·have ho:=hb b hx
  simp only[A0,HR] at ho
  have:=Ib ho.1.2.1
  omega
 ·have ho:=hb b hx
  rw[A0] at ho
  simp only[HR,ID] at ho
  exact(Yf (ho.1.2.2 v hv)).1
theorem NF{t:bc}{c:bd}(h:Aw t c=J):c.size<=128:=by
 simp only[Aw,HR,Ia] at h
 omega
end Go.Proofs.YthmjfmacdlhfjaaGreat

namespace Go.Dv
open Go.IntKind (u64)
open Go.IntKind renaming wrap → yr, i64 → yq
open List renaming length → I, map → U, drop → W
open Option renaming some → G
open Bool renaming true → J, false → O
open Decidable renaming decide → Y
open Int renaming toNat → Z
open Go.Dv.V renaming list → ai, str → ae, agg → ab, int → aa, ref → bz, fn → bw, nils → bv, bool → bu
open Go.Dv.D renaming v → bt, acc → br, ptr → bq, arr → bo, gro → bm, tup → bl, undef → bk, dagg → bj
open Go.Dv.St renaming mk → bi
open Go.Dv.KI renaming blk → bh
open _root_.ByteArray renaming mk → bg
open Go renaming Operand → x5, Program → x4, TypeId → yz, World → yy, Value → yx, Oper → yw, FuncId → yv, Func → yu, IntKind → yt
section
variable {P : x4} {o : yw} {σ : St} {d : D}
theorem LW{x y:x5}{t:yz}(ho:o.op=.call { callee:=.builtin .append,args:= #[x,y],argTypes:= #[t,t]}){e:yz}{sz by':Nat}{z:Option yx}(hs:Ce P t=G (e,sz,by',z))(hsz:0<sz)
  {q len off m:Nat} {cs:List D} (hq:σ.H[q]?=G (G cs)) (hroom:(len+m)*sz<=I cs) (hsrc:off+m*sz<=I cs):
  Ay P o [.gro q len sz,.arr q off m] σ (.gro q (len+m) sz) ⟨σ.H.set q (G (cs.take (len*sz)++(cs.drop off).take (m*sz)++cs.drop (len*sz+m*sz))),σ.own⟩:=by
 intro E g a w K Q hw hds hK
 simp only[ho,Op.operands,Call.operands] at hds
 obtain⟨u,v,eq,hu,hv⟩:=A8.1 (by simpa using hds)
 simp only[Ie,I6] at eq
 simp only[Av] at hu hv
 obtain⟨hqn,cap,hcap,hκ,rfl⟩:=hu
 obtain⟨_,cap2,hc2,rfl⟩:=hv
 obtain⟨i,ht,hi,hisz,hib,hiz⟩:=AK hs
 obtain⟨us,rest,et,hb,hr,h1,hM,hκ1⟩:=hw.rep.obj q cs hq
 have hul:I us=I cs:=AF hr
 obtain⟨vs,hvs⟩:∃vs,vs=(us.drop off).take (m*sz):=⟨_,rfl⟩
 have h5:Ar g ((cs.drop off).take (m*sz)) vs:=hvs▸Cr (Cu hr off) _
 have h6:∀c∈ (cs.drop off).take (m*sz),c.one=J:=fun c hc=>h1 c (II (Jr hc))
 have hvl0:I vs=m*sz:=by rw[hvs,Iy,IY];omega
 have hvl:I vs=m*i.size:=by rw[hvl0,hisz]
 have hnews:∀j u,vs[j]?=G u->w.cell? ((⟨g.β q,off,none⟩:Addr).add j)=G u:=fun j u hj=>by
  rw[Addr.add_lit];simp only[World.cell?,hb,IW]
  rw[hvs,Jw] at hj
  split at hj
  ·rw[List.getElem?_drop] at hj;exact Df hj
  ·simp at hj
 rw[Jm] at hroom
 have hroom':len+m<=cap:=by
  have:(len+m)*sz<=cap*sz:=by rw[hκ, ←hκ1,Ig,Jm];omega
  exact Nat.le_of_mul_le_mul_right this hsz
 have hone:∀u∈vs,u.oneCell'=J:=Ct h6 h5
 have hfit:len*i.size+I vs<=(us++rest).toArray.size:=by
  rw[Jp,Ig,hisz];omega
 have hrun:=dy (P:=P) w t o.type e et i ht hi (g.β q) len cap (us++rest).toArray hb ⟨g.β q,off,none⟩ m cap2 vs hvl hnews hone hroom' hfit
 have hrow:(us++rest).toArray.toList.take (len*i.size)++vs++(us++rest).toArray.toList.drop (len*i.size+I vs)=(us.take (len*sz)++vs++us.drop (len*sz+m*sz))++rest:=by
  simp only[hisz,hvl0]
  rw[J0 (by omega),List.drop_append_of_le_length (by omega)]
  simp
 rw[hrow] at hrun
 have hw1:=hw.setObj (cs':=cs.take (len*sz)++(cs.drop off).take (m*sz)++cs.drop (len*sz+m*sz)) (w':=w.setRow (g.β q) ((us.take (len*sz)++vs++us.drop (len*sz+m*sz))++rest).toArray) hq (us:=us.take (len*sz)++vs++us.drop (len*sz+m*sz)) (rest:=rest) (e:=et) (setRow_heap w _ _ _ et _ hb)
  (by rw[←hκ1];simp only[Ig,Iy,IY];omega)
  (A7 (A7 (Cr hr _) h5) (Cu hr _))
  (fun c hc=>by
   rcases IE.1 hc with h|h
   ·rcases IE.1 h with h|h
    ·exact h1 c (Jr h)
    ·exact h6 c h
   ·exact h1 c (II h)) (fun b hb=>setRow_other w _ _ _ hb) (by simp) rfl rfl rfl
 have:=hK g _ (.slice (G ⟨g.β q,0,none⟩) (len+m) cap) hw1 (Gh.le_refl g) (by simp only[Av];exact⟨hqn,cap,hroom',hκ,rfl⟩)
 unfold Oper.wp execOp
 simp only[ho,resolve,invoke,builtin,Sem.run_bind,Sem.run_pure,Result.andThen_ok,List.map_toArray,Iu,IP,eq.1,eq.2,hrun]
 exact this
theorem MP{t:yz}{x a b c:x5}(ho:o.op=.slice t x (G a) (G b) (G c)){e:yz}{sz by':Nat}{z:Option yx}(hs:Ce P t=G (e,sz,by',z)){q n i j:Nat}{k1 k2 k3:yt}(hij:i<=j)(hj:j<=n):
  Ay P o [.gro q n sz,.v (.int k1 i),.v (.int k2 j),.v (.int k3 n)] σ .undef σ:=by
 refine AA fun E g ρ w hw hds=>?_
 obtain⟨i',hu,hi',hsz,_,_⟩:=AK hs
 simp only[ho,Op.operands,Option.toList_some,J7,List.nil_append,Iu,IP] at hds
 have hds:Ar g [.gro q n sz,.v (.int k1 i),.v (.int k2 j),.v (.int k3 n)] [ρ x,ρ a,ρ b,ρ c]:=by simpa using hds
 simp only[Ar] at hds
 obtain⟨u0,us0,e0,h0,u1,us1,e1,h1,u2,us2,e2,h2,u3,us3,e3,h3,rfl⟩:=hds
 simp only[Ie] at e0
 obtain⟨e0,rfl⟩:=e0
 simp only[Ie] at e1
 obtain⟨e1,rfl⟩:=e1
 simp only[Ie] at e2
 obtain⟨e2,rfl⟩:=e2
 simp only[Ie,I6] at e3
 simp only[Av,AM] at h0 h1 h2 h3
 obtain⟨_,cap,hc,_,rfl⟩:=h0
 have b1:=run_sliceBound (P:=P) w k3 n cap
 have b2:=run_sliceBound (P:=P) w k2 j n
 have b3:=run_sliceBound (P:=P) w k1 i j
 refine⟨.slice (if n=i then G ⟨g.β q,0,none⟩ else G ((⟨g.β q,0,none⟩:Addr).add (i*i'.size))) (j-i) (n-i),?_,trivial⟩
 simp only[execOp,ho,IT,e0,e1,e2,e3,h1,h2,h3,Instr.sliceAt,Instr.slice,Sem.run_bind,run_underlying hu,Result.andThen_ok]
 simp[Instr.sliceBounds,b1 _ (by omega) (by omega),b2 _ (by omega) (by omega),b3 _ (by omega) (by omega),sizeOf,typeInfo,hi']
theorem MM{t:yz}{x a b:x5}(ho:o.op=.slice t x (G a) (G b) none){e:yz}{sz by':Nat}{z:Option yx}(hs:Ce P t=G (e,sz,by',z))(hsz:0<sz){q n i j:Nat}{cs:List D}(hq:σ.H[q]?=G (G cs))(hij:i<j)(hj:j*sz<=I cs){k1 k2:yt}:
  Ay P o [.gro q n sz,.v (.int k1 i),.v (.int k2 j)] σ (.arr q (i*sz) (j-i)) σ:=by
 refine AA fun E g ρ w hw hds=>?_
 obtain⟨i',hu,hi',hs2,_,_⟩:=AK hs
 have hds:Ar g [.gro q n sz,.v (.int k1 i),.v (.int k2 j)] [ρ x,ρ a,ρ b]:=by simpa[ho,Op.operands] using hds
 obtain⟨u0,u1,u2,e0,h0,h1,h2⟩:=E8.1 hds
 simp only[Ie,I6] at e0
 obtain⟨e0,e1,e2⟩:=e0
 simp only[Av,AM] at h0 h1 h2
 obtain⟨hqn,cap,hc,hκ,rfl⟩:=h0
 obtain⟨us,rest,et,hb,hr,hone,hM,hκ1⟩:=hw.rep.obj q cs hq
 have hul:=AF hr
 have hjc:j<=cap:=by
  have:j*sz<=cap*sz:=by rw[hκ, ←hκ1,Ig];omega
  exact Nat.le_of_mul_le_mul_right this hsz
 have b2:=run_sliceBound (P:=P) w k2 j cap
 have b3:=run_sliceBound (P:=P) w k1 i j
 refine⟨.slice (G ⟨g.β q,i*sz,none⟩) (j-i) (cap-i),?_,by simp only[Av];exact⟨hqn,cap-i,by omega,rfl⟩⟩
 simp only[execOp,ho,IT,J4,e0,e1,e2,h1,h2,Instr.sliceAt,Instr.slice,Sem.run_bind,run_underlying hu,Result.andThen_ok]
 simp[Instr.sliceBounds,b2 _ (by omega) (by omega),b3 _ (by omega) (by omega),sizeOf,typeInfo,hi',hs2,show ¬cap=i by omega,Addr.add_lit]
theorem MO{t:yz}{x a:x5}(ho:o.op=.slice t x (G a) none none){e:yz}{sz by':Nat}{z:Option yx}(hs:Ce P t=G (e,sz,by',z)){q n:Nat}{k1:yt}:
  Ay P o [.gro q n sz,.v (.int k1 n)] σ (.v (.list [])) σ:=by
 refine AA fun E g ρ w hw hds=>?_
 obtain⟨i',hu,hi',hs2,_,_⟩:=AK hs
 have hds:Ar g [.gro q n sz,.v (.int k1 n)] [ρ x,ρ a]:=by simpa[ho,Op.operands] using hds
 obtain⟨u0,u1,e0,h0,h1⟩:=A8.1 hds
 simp only[Ie,I6] at e0
 obtain⟨e0,e1⟩:=e0
 simp only[Av,AM] at h0 h1
 obtain⟨hqn,cap,hc,hκ,rfl⟩:=h0
 have b3:=run_sliceBound (P:=P) w k1 n n
 refine⟨.slice (if cap=n then G ⟨g.β q,0,none⟩ else G ((⟨g.β q,0,none⟩:Addr).add (n*i'.size))) 0 (cap-n),?_,by simp only[Av];rw[B3];exact⟨_,_,rfl,I3 _,.inl rfl⟩⟩
 simp only[execOp,ho,IT,J4,e0,e1,h1,Instr.sliceAt,Instr.slice,Sem.run_bind,run_underlying hu,Result.andThen_ok]
 simp[Instr.sliceBounds,b3 _ (by omega) (by omega),sizeOf,typeInfo,hi']
theorem MN{t:yz}{x a:x5}(ho:o.op=.slice t x none (G a) none){e:yz}{sz by':Nat}{z:Option yx}(hs:Ce P t=G (e,sz,by',z)){q n i:Nat}{k1:yt}(hi:i<=n):
  Ay P o [.gro q n sz,.v (.int k1 i)] σ (.gro q i sz) σ:=by
 refine AA fun E g ρ w hw hds=>?_
 obtain⟨i',hu,hi',hs2,_,_⟩:=AK hs
 have hds:Ar g [.gro q n sz,.v (.int k1 i)] [ρ x,ρ a]:=by simpa[ho,Op.operands] using hds
 obtain⟨u0,u1,e0,h0,h1⟩:=A8.1 hds
 simp only[Ie,I6] at e0
 obtain⟨e0,e1⟩:=e0
 simp only[Av,AM] at h0 h1
 obtain⟨hqn,cap,hc,hκ,rfl⟩:=h0
 have b3:=run_sliceBound (P:=P) w k1 i cap
 refine⟨.slice (G ⟨g.β q,0,none⟩) i cap,?_,by simp only[Av];exact⟨hqn,cap,by omega,hκ,rfl⟩⟩
 simp only[execOp,ho,IT,J4,e0,e1,h1,Instr.sliceAt,Instr.slice,Sem.run_bind,run_underlying hu,Result.andThen_ok]
 simp[Instr.sliceBounds,b3 _ (by omega) (by omega),sizeOf,typeInfo,hi',Addr.add_lit]
theorem HA{x y:x5}{t:yz}(ho:o.op=.call { callee:=.builtin .append,args:= #[x,y],argTypes:= #[t,t]}){e:yz}{sz by':Nat}{z:Option yx}(hs:Ce P t=G (e,sz,by',z)){q len:Nat}:
  Ay P o [.gro q len sz,.v (.list [])] σ (.gro q len sz) σ:=by
 refine AA fun E g ρ w hw hds=>?_
 obtain⟨i',hu,hi',hs2,_,_⟩:=AK hs
 simp only[ho,Op.operands,Call.operands] at hds
 obtain⟨u,v,eq,h1,h2⟩:=A8.1 (by simpa using hds)
 simp only[Ie,I6] at eq
 have h1':=h1
 simp only[Av,B3] at h1 h2
 obtain⟨hqn,cap,hc,hκ,rfl⟩:=h1
 obtain⟨a2,c2,rfl,_,_⟩:=h2
 have hrun:=Hb (P:=P) w t o.type e i' hu hi' (G ⟨g.β q,0,none⟩) a2 len cap c2 hc
 refine⟨_,?_,h1'⟩
 simp only[execOp,ho,resolve,invoke,builtin,Sem.run_bind,Sem.run_pure,Result.andThen_ok,List.map_toArray,Iu,IP,eq.1,eq.2,HZ,hrun]
theorem MG{M:cg}:∀{bs:List UInt8} {us:List yx},repE M 1 (bs.map fun c=>aa .u8 c.toNat) us->us=bs.map fun c=>.int .u8 (c.toNat:Int)
 |[],us,h=>by simpa[repE] using h
 |c::bs,us,h=>by
  simp only[Iu,repE] at h
  obtain⟨u1,u2,rfl,_,h3,h4⟩:=h
  simp only[repC] at h3
  rw[h3,MG h4];rfl
theorem MQ{src dst e0:yz}{x:x5}(ho:o.op=.convert src dst x)(hs:P.underlying src=G (.slice e0))(he:P.underlying e0=G (.int .u8))(hd:P.underlying dst=G .string)(bs:List UInt8)(hb:bs≠ []):
  Ay P o [.v (.list (bs.map fun c=>aa .u8 c.toNat))] σ (.v (.str bs)) σ:=by
 refine AA fun E g ρ w hw hds=>?_
 simp only[ho,Op.operands] at hds
 obtain⟨u,eu,hu⟩:=AH.1 (by simpa using hds)
 simp only[Ie,I6] at eu
 simp only[Av] at hu
 obtain⟨ad,cap,e1,hc,hor⟩:=Cd (sz:=1) hu (by simp[V.size]) (by decide)
 rcases hor with h|⟨b,off,us,rfl,hin,hE⟩
 ·exact absurd (List.map_eq_nil_iff.1 h) hb
 have hus:=MG hE
 have hl:I (bs.map fun c=>aa .u8 (c.toNat:Int))=I bs:=HP _
 have hrun:=run_convert_bytes_back (P:=P) w src dst e0 ⟨b,off,none⟩ cap bs hs he hd (fun j hj=>by
  refine Ex hw hin j _ ?_
  rw[hus,I9,HQ hj];rfl)
 refine⟨.string ⟨bs.toArray⟩,?_,by simp only[Av,CU]⟩
 subst e1
 rw[hl] at eu
 simp only[execOp,ho,eu,Sem.run_bind,hrun,Result.andThen_ok,Sem.run_pure]
end
end Go.Dv

namespace Go.Proofs.YthmjfmacdlhfjaaGreat
open Go.Dv Go.Nv
set_option maxRecDepth 20000
open Go.IntKind (u64)
open Go.IntKind renaming wrap → yr, i64 → yq
open List renaming length → I, map → U, drop → W
open Option renaming some → G
open Bool renaming true → J, false → O
open Decidable renaming decide → Y
open Int renaming toNat → Z
open Go.Dv.V renaming list → ai, str → ae, agg → ab, int → aa, ref → bz, fn → bw, nils → bv, bool → bu
open Go.Dv.D renaming v → bt, acc → br, ptr → bq, arr → bo, gro → bm, tup → bl, undef → bk, dagg → bj
open Go.Dv.St renaming mk → bi
open Go.Dv.KI renaming blk → bh
open _root_.ByteArray renaming mk → bg
open Go renaming Operand → x5, Program → x4, TypeId → yz, World → yy, Value → yx, Oper → yw, FuncId → yv, Func → yu, IntKind → yt
abbrev du(n:Int):D:=.v (.int .u64 n)
abbrev cr(l:List Int)(a:Nat)(s:Int):List D:=[cy l,di a,du s]
abbrev dk(l:List Int)(a:Nat)(s:Int):St:=⟨[G (cr l a s)],[]⟩
def j3(s x:Int):Int:=yr u64 (yr u64 (yr u64 (s+x)*6364136223846793005)+1442695040888963407)
def ui(y k:Int):Int:=yr u64 (↑(BitVec.toNat (BitVec.ofInt (IntKind.bits u64) y^^^BitVec.ofInt (IntKind.bits u64) (Int.fdiv y (2^min (Z k) (IntKind.bits u64))))):Int)
def pw(s:Int):Int:=ui (yr u64 (ui s 33*18397679294719823053)) 29
theorem Si(n:Int):0<=yr u64 n/\yr u64 n<18446744073709551616:=by
 simp only[yr,IntKind.bits,IntKind.signed]
 constructor
 ·simp;omega
 ·simp;omega
noncomputable abbrev vm:=Tryz.f40
theorem AfN(l:List Int)(hl:I l<=400)(a:Nat)(ha:a<=I l)(s:Int):∃(y:Int) (a':Nat) (s':Int),(0<=y/\y<18446744073709551616)/\a'<=I l/\Aa PP 40 [.ptr 0 0] (dk l a s) (du y) (dk l a' s'):=by
 by_cases h:a<I l
 ·refine⟨pw (j3 s (yr u64 l[a])),a+1,j3 s (yr u64 l[a]),Si _,h,?_⟩
  have hx:l[a]?=G l[a]:=HQ h
  generalize l[a]=x at hx
  exact sv vm 60 [] (.t<|.x (vi x)<|.r) (ym/\Y ((a:Int)<(I (U vi l):Int))=J/\0<=(a:Int)/\(U vi l)[Z (a:Int)]?=G (vi x)/\ym/\iz 0<=33/\ym/\iz 0<=29/\[G [cy l,di (yr yq ((a:Int)+1)),bt (aa u64 (yr u64 (yr u64 (yr u64 (s+yr u64 x)*6364136223846793005)+1442695040888963407)))]]=[G (cr l (a+1) (j3 s (yr u64 x)))]/\bt (aa u64 (yr u64 (↑(BitVec.toNat (BitVec.ofInt (IntKind.bits u64) (yr u64 (yr u64 (↑(BitVec.toNat (BitVec.ofInt (IntKind.bits u64) (yr u64 (yr u64 (yr u64 (s+yr u64 x)*6364136223846793005)+1442695040888963407))^^^BitVec.ofInt (IntKind.bits u64) (Int.fdiv (yr u64 (yr u64 (yr u64 (s+yr u64 x)*6364136223846793005)+1442695040888963407)) (2^min (Z 33) (IntKind.bits u64))))):Int)*18397679294719823053))^^^BitVec.ofInt (IntKind.bits u64) (Int.fdiv (yr u64 (yr u64 (↑(BitVec.toNat (BitVec.ofInt (IntKind.bits u64) (yr u64 (yr u64 (yr u64 (s+yr u64 x)*6364136223846793005)+1442695040888963407))^^^BitVec.ofInt (IntKind.bits u64) (Int.fdiv (yr u64 (yr u64 (yr u64 (s+yr u64 x)*6364136223846793005)+1442695040888963407)) (2^min (Z 33) (IntKind.bits u64))))):Int)*18397679294719823053)) (2^min (Z 29) (IntKind.bits u64))))):Int)))=du (pw (j3 s (yr u64 x)))) ⟨yk,by rw[HP];exact yp,by omega,A3 hx,yk,by decide,yk,by decide,by rw[As];rfl,rfl⟩
 ·refine⟨pw (j3 s 0),a,j3 s 0,Si _,ha,?_⟩
  exact sv vm 60 [] (.f<|.r) (ym/\Y ((a:Int)<(I (U vi l):Int))=O/\iz 0<=33/\ym/\iz 0<=29/\Q [G (cr l a (j3 s 0))]/\bt (aa u64 (yr u64 (↑(BitVec.toNat (BitVec.ofInt (IntKind.bits u64) (yr u64 (yr u64 (↑(BitVec.toNat (BitVec.ofInt (IntKind.bits u64) (yr u64 (yr u64 (yr u64 (s+0)*6364136223846793005)+1442695040888963407))^^^BitVec.ofInt (IntKind.bits u64) (Int.fdiv (yr u64 (yr u64 (yr u64 (s+0)*6364136223846793005)+1442695040888963407)) (2^min (Z 33) (IntKind.bits u64))))):Int)*18397679294719823053))^^^BitVec.ofInt (IntKind.bits u64) (Int.fdiv (yr u64 (yr u64 (↑(BitVec.toNat (BitVec.ofInt (IntKind.bits u64) (yr u64 (yr u64 (yr u64 (s+0)*6364136223846793005)+1442695040888963407))^^^BitVec.ofInt (IntKind.bits u64) (Int.fdiv (yr u64 (yr u64 (yr u64 (s+0)*6364136223846793005)+1442695040888963407)) (2^min (Z 33) (IntKind.bits u64))))):Int)*18397679294719823053)) (2^min (Z 29) (IntKind.bits u64))))):Int)))=du (pw (j3 s 0))) ⟨yk,by rw[HP];exact yo,by decide,yk,by decide,rfl,rfl⟩
noncomputable abbrev Amt:=Tryz.f19
theorem AY(l:List Int)(hl:I l<=400)(a:Nat)(ha:a<=I l)(s n:Int)(hn:1<=n)(hn2:n<=1000):∃(r:Int) (a':Nat) (s':Int),(0<=r/\r<n)/\a'<=I l/\Aa PP 19 [.ptr 0 0,di n] (dk l a s) (di r) (dk l a' s'):=by
 obtain⟨y,a',s',hy,ha',h⟩:=AfN l hl a ha s
 refine⟨(y/2)%n,a',s',⟨Int.emod_nonneg _ (by omega),Int.emod_lt_of_pos _ (by omega)⟩,ha',?_⟩
 have e:Int.tmod (yr yq (Int.fdiv y (2^min (Z 1) (IntKind.bits u64)))) n=(y/2)%n:=by
  have e1:(2:Int)^min (Z 1) (IntKind.bits u64)=2:=by decide
  rw[e1,Int.fdiv_eq_ediv_of_nonneg _ (by decide),A2,Int.tmod_eq_emod_of_nonneg (by omega)]
 exact sv Amt 13 [] (.f<|.c1 (cr l a' s') (du y)<|.r) (Y (n<1)=O/\_/\iz 0<=1/\n≠0/\Q [G (cr l a' s')]/\di (Int.tmod (yr yq (Int.fdiv y (2^min (Z 1) (IntKind.bits u64)))) n)=di (y/2%n)) ⟨yo,h,by decide,by omega,rfl,Iq di e⟩
noncomputable abbrev Ams:=Tryz.f22
theorem SX(l:List Int)(hl:I l<=400)(a:Nat)(ha:a<=I l)(s n:Int)(hn:1<=n)(hn2:n<=1000):∃(b:Bool) (a':Nat) (s':Int),a'<=I l/\Aa PP 22 [.ptr 0 0,di n] (dk l a s) (db b) (dk l a' s'):=by
 obtain⟨r,a',s',_,ha',h⟩:=AY l hl a ha s n hn hn2
 refine⟨r==0,a',s',ha',?_⟩
 exact sv Ams 9 [] (.c1 (cr l a' s') (di r)<|.r) (_/\Q [G (cr l a' s')]/\Q (db (r==0))) ⟨h,rfl,rfl⟩
noncomputable abbrev tx:=Tryz.f41
noncomputable def w9:=yj tx
abbrev pq(l:List Int)(a:Nat)(s:Int)(xs:List Int):St:=⟨[G (cr l a s)],[(1,1,xs.map vi)]⟩
theorem Abc(l:List Int)(hl:I l<=400)(n:Nat)(hn:n<=100)(most:Int)(hm:0<=most)(hm2:most<=100)(N:Nat):∀(k:Nat) (a:Nat) (s:Int) (xs:List Int),n-k=N->k<=n->a<=I l->I xs=k->(∀x∈xs,0<=x/\x<=most)->
  ∃(ys:List Int) (a':Nat) (s':Int),a'<=I l/\ys.length=n/\(∀x∈ys,0<=x/\x<=most)/\
  Rn PP tx 1 (cy ys) (dk l a' s') ([kl w9 [1,1,0,1,0,0],.blk 0,kc w9 [1,1,1]]++[]) (b9 22 [(0,.ptr 0 0),(1,di n),(2,di most),(7,.acc 1 (xs.map vi)),(8,di k)]) (pq l a s xs):=by
 induction N with
 |zero=>
  intro k a s xs hk hk0 ha hx hxs
  refine⟨xs,a,s,ha,by omega,hxs,?_⟩
  exact lv 22 [] (.f .r) (Y ((k:Int)<(n:Int))=O/\Q [G (cr l a s)]/\Q (cy xs)) ⟨yo,rfl,rfl⟩
 |succ N ih=>
  intro k a s xs hk hk0 ha hx hxs
  obtain⟨r,a1,s1,h1,h3,h4⟩:=AY l hl a ha s (most+1) (by omega) (by omega)
  obtain⟨ys,a',s',h5,h6,h7,h8⟩:=ih (k+1) a1 s1 (xs++[r]) (by omega) (by omega) h3 (by simp[hx]) (fun x hx=>by
   rcases IE.1 hx with hx|hx
   ·exact hxs x hx
   ·rw[Ii.1 hx];omega)
  refine⟨ys,a',s',h5,h6,h7,?_⟩
  refine lv 22 [] (.t<|.c1 (cr l a1 s1) (di r)<|.ls [ke 0,ke 1,ke 2,ch 7 (.acc 1 ((xs++[r]).map vi)),ch 8 (di (k+1:Nat))] (pq l a1 s1 (xs++[r]))) (Y ((k:Int)<(n:Int))=J/\Aa PP 19 [bq 0 0,di (yr yq (most+1))] (bi [G (cr l a s)] []) (di r) (bi [G (cr l a1 s1)] [])/\Q (U vi xs)/\A9 (I (U vi xs)+I (aa yq r::nV)) 8/\br 1 (U vi xs++[vi r])=br 1 (U vi (xs++[r]))/\di (yr yq ((k:Int)+1))=di (↑(k+1):Int)/\Q [G (cr l a1 s1)]/\[(1,1,U vi xs++vi r::nV)]=[(1,1,U vi (xs++[r]))]/\_) ⟨yp,?_,rfl,⟨?_,?_⟩,by simp,As,rfl,by simp,iK h8⟩
  ·rw[A2];exact h4
  ·simp only[HP,HV,HZ];omega
  ·simp only[HP,HV,HZ];omega
theorem Lc(l:List Int)(hl:I l<=400)(a:Nat)(ha:a<=I l)(s:Int)(n:Nat)(hn:n<=100)(most:Int)(hm:0<=most)(hm2:most<=100):
  ∃(ys:List Int) (a':Nat) (s':Int),a'<=I l/\ys.length=n/\(∀x∈ys,0<=x/\x<=most)/\Aa PP 41 [.ptr 0 0,di n,di most] (dk l a s) (cy ys) (dk l a' s'):=by
 obtain⟨ys,a',s',h1,h2,h3,h4⟩:=Abc l hl n hn most hm hm2 _ 0 a s [] rfl (by omega) ha rfl (by simp)
 refine⟨ys,a',s',h1,h2,h3,?_⟩
 exact sv tx 22 [] (.h (.q 2 0)<|.h (.nw 7 1 1)<|.ls [ke 0,ke 1,ke 2,ke 7,ch 8 (di (0:Nat))] (pq l a s [])) (Q (di 0)/\Q (pq l a s []).H/\Q [(1,1,nV)]/\_) ⟨rfl,rfl,rfl,iK h4⟩
noncomputable abbrev Amq:=Tryz.f42
theorem QX(l:List Int)(hl:I l<=400)(a:Nat)(ha:a<=I l)(s L most:Int)(hL:1<=L/\L<=100)(hm:0<=most/\most<=50):
  ∃(ys:List Int) (a':Nat) (s':Int),a'<=I l/\(I ys:Int)<=most/\(∀x∈ys,0<=x/\x<L)/\Aa PP 42 [.ptr 0 0,di L,di most] (dk l a s) (cy ys) (dk l a' s'):=by
 obtain⟨r,a1,s1,h1,h2,h3⟩:=AY l hl a ha s (most+1) (by omega) (by omega)
 obtain⟨n,rfl⟩:∃n:Nat,r=n:=⟨r.toNat,by omega⟩
 obtain⟨ys,a',s',y1,y2,y3,y4⟩:=Lc l hl a1 h2 s1 n (by omega) (L-1) (by omega) (by omega)
 refine⟨ys,a',s',y1,by omega,fun x hx=>by have:=y3 x hx;omega,?_⟩
 refine sv Amq 15 [] (.c1 (cr l a1 s1) (di n)<|.c1 (cr l a' s') (cy ys)<|.r) (Aa PP 19 [bq 0 0,di (yr yq (most+1))] (bi [G (cr l a s)] []) (di (n:Int)) (bi [G (cr l a1 s1)] [])/\Aa PP 41 [bq 0 0,di (n:Int),di (yr yq (L-1))] (bi [G (cr l a1 s1)] []) (cy ys) (bi [G (cr l a' s')] [])/\Q [G (cr l a' s')]/\cy ys=cy ys) ?_
 rw[A2 (n:=most+1),A2 (n:=L-1)]
 exact⟨h3,y4,rfl,rfl⟩
noncomputable abbrev Amr:=Tryz.f21
theorem AhD(l:List Int)(hl:I l<=400)(a:Nat)(ha:a<=I l)(s:Int)(n:Nat)(hn:n<=100):
  ∃(ys:List Int) (a':Nat) (s':Int),a'<=I l/\ys.length=n/\(∀x∈ys,0<=x/\x<=2)/\Aa PP 21 [.ptr 0 0,di n] (dk l a s) (cy ys) (dk l a' s'):=by
 obtain⟨ys,a',s',y1,y2,y3,y4⟩:=Lc l hl a ha s n hn 2 (by decide) (by decide)
 refine⟨ys,a',s',y1,y2,y3,?_⟩
 exact sv Amr 8 [] (.c1 (cr l a' s') (cy ys)<|.r) (_/\Q [G (cr l a' s')]/\Q (cy ys)) ⟨y4,rfl,rfl⟩
def c6(c:UInt8)(i:Nat):List UInt8:=[c,UInt8.ofNat (48+i)]
noncomputable abbrev tz:=Tryz.f20
noncomputable def wa:=yj tz
theorem TI(k:Nat)(hk:k<=9):aa IntKind.u8 (yr IntKind.u8 (yr yq (48+(k:Int))))=aa .u8 (UInt8.ofNat (48+k)).toNat:=by
 match k,hk with
 |0,_=>rfl
 |1,_=>rfl
 |2,_=>rfl
 |3,_=>rfl
 |4,_=>rfl
 |5,_=>rfl
 |6,_=>rfl
 |7,_=>rfl
 |8,_=>rfl
 |9,_=>rfl
theorem AbU(c:UInt8)(n:Nat)(hn:n<=9)(N:Nat):∀k:Nat,n-k=N->k<=n->
  Rn PP tz 0 (.v (cf ((List.range n).map (c6 c)))) bf ([kl wa [1,1,0,1,0,0],.blk 0,kc wa [1,1,1]]++[]) (b9 23 [(0,ds [c]),(1,di n),(5,.acc 1 (((List.range k).map (c6 c)).map ae)),(6,di k)]) ⟨[],[(1,1,((List.range k).map (c6 c)).map ae)]⟩:=by
 induction N with
 |zero=>
  intro k hk hk0
  have e:k=n:=by omega
  subst e
  exact lv 23 [] (.f .r) (Y ((k:Int)<(k:Int))=O/\Q (bt (cf (U (c6 c) (List.range k))))) ⟨yo,rfl⟩
 |succ N ih=>
  intro k hk hk0
  have e:((List.range (k+1)).map (c6 c)).map ae=((List.range k).map (c6 c)).map ae++[ae (c6 c k)]:=by rw[List.range_succ];simp
  have hr:=ih (k+1) (by omega) (by omega)
  rw[e] at hr
  refine lv 23 [] (.t<|.h (.q 5 6)<|.h (.p (ds [UInt8.ofNat (48+k)]))<|.ls [ke 0,ke 1,ch 5 (.acc 1 (((List.range k).map (c6 c)).map ae++[ae (c6 c k)])),ch 6 (di (k+1:Nat))] ⟨[],[(1,1,((List.range k).map (c6 c)).map ae++[ae (c6 c k)])]⟩) (Y ((k:Int)<(n:Int))=J/\(∀(τ:St),Ay PP (Oper.mk (G 18) (Op.convert 62 9 (Operand.tmp 17)) 9 "make.go:271" #[Edge.mk 5 Ground.data] none) [bt (ai [aa IntKind.u8 (yr IntKind.u8 (yr yq (48+(k:Int))))])] τ (bt (ae [UInt8.ofNat (48+k)])) τ)/\2<=9223372036854775807/\Q (U ae (U (c6 c) (List.range k)))/\A9 (I (U ae (U (c6 c) (List.range k)))+I (ae ([c]++[UInt8.ofNat (48+k)])::nV)) 16/\Q (br 1 (U ae (U (c6 c) (List.range k))++[ae (c6 c k)]))/\di (yr yq ((k:Int)+1))=di (↑(k+1):Int)/\Q [(1,1,U ae (U (c6 c) (List.range k))++ae (c6 c k)::nV)]/\_) ⟨yp,fun τ=>?_,by decide,rfl,⟨by simp only[HP,List.length_range,HV,HZ];omega,by simp only[HP,List.length_range,HV,HZ];omega⟩,rfl,As,rfl,iK hr⟩
  rw[TI k (by omega)]
  exact MQ (bs:=[UInt8.ofNat (48+k)]) (e0:=5) rfl (by kernel_rfl) (by kernel_rfl) (by kernel_rfl) (by simp)
theorem EB(c:UInt8)(n:Nat)(hn:n<=9):F0 20 [ds [c],di n] (.v (cf ((List.range n).map (c6 c)))):=by
 have h:=AbU c n hn _ 0 rfl (I3 _)
 exact sv tz 23 [] (.h (.q 2 0)<|.h (.nw 5 1 1)<|.ls [ke 0,ke 1,ke 5,ch 6 (di (0:Nat))] ⟨[],[(1,1,[])]⟩) (Q (di 0)/\Q [(1,1,nV)]/\_) ⟨rfl,rfl,iK h⟩
abbrev Hn(m:ba):List D:=[di m.kind,.v (cf m.aw),.v (cf m.ay),.v (cf m.ax),.v (cz m.au),di m.ao,di m.age,.v (Ht m.av),di m.start.n,cx m.start.az]
abbrev EK(l:List Int)(a:Nat)(s:Int)(m:ba)(c:bd):St:=⟨[G (cr l a s),G (Hn m),G [di c.n,cx c.az]],[]⟩
structure ra(m:ba)(c:bd)(s:da):Prop where
 rule: -1<=s.1/\s.1<I m.av
 len:I s.2.az=I c.az
 size:s.2.size<=1000
 state:∃k0 s0,c.az[0]?=G k0/\s.2.az[0]?=G s0/\(s.1<0->s0.n=k0.n)/\∀i:Nat,s.1=i->∃r,m.av[i]?=G r/\r.aj=k0.n/\r.to=s0.n
noncomputable abbrev o6:=Tryz.f5
noncomputable def xh:=yj o6
noncomputable abbrev AlX:List KI:=[kl xh [1,1,1,1,1,1,1,0,1,0,0],.blk 0,kc xh [1,1,1,1,1,1,1,1]]
theorem Acg(l:List Int)(a:Nat)(s:Int)(m:ba)(hr:I m.av<=100)(c:bd)(hcz:c.size<=1000)(L:List da)(hL:I L<=1000)(h:∀x∈L,ra m c x)(n:Nat):∀j:Nat,I L-j=n->j<=I L->
  Rn PP o6 0 (db J) bf (AlX++[]) (b9 100 [(4,.ptr 1 0),(5,.ptr 2 0),(36,.v (Hr L)),(37,di (I L)),(38,di j)]) (EK l a s m c):=by
 induction n with
 |zero=>
  intro j hn hj
  exact lv 100 [] (.f<|.r) (Y ((j:Int)<(I L:Int))=O/\Q (db J)) ⟨yo,rfl⟩
 |succ n ih=>
  intro j hn hj
  obtain⟨x,hx⟩:=yi (show j<I L by omega)
  obtain⟨⟨h1,h2⟩,h3,hz,k0,s0,h4,h5,h6,h7⟩:=h x (HW hx)
  have hr':=ih (j+1) (by omega) (by omega)
  have hle:(I (x.2.az.map eV) !=I (c.az.map eV))=O:=by rw[HP,HP,h3];exact bne_self_eq_false _
  have hle2:((I (x.2.az.map eV):Int) !=(I (c.az.map eV):Int))=O:=by rw[HP,HP,h3];exact bne_self_eq_false _
  by_cases hn:x.1<0
  ·have h6:=h6 hn
   exact lv 100 [] (.t<|.x (dh x)<|.f<|.f<|.f<|.h (.xs (Au k0))<|.f<|.h (.xs (Au s0))<|.f<|.lo [ke 4,ke 5,ke 36,ke 37,ch 38 (di (j+1:Nat))] (EK l a s m c)) (Y ((j:Int)<(I L:Int))=J/\0<=(j:Int)/\(U dh L)[Z (j:Int)]?=G (dh x)/\Y (x.fst< -1)=O/\Y (x.fst>=(I (U AD m.av):Int))=O/\_/\Q 2/\iz 0<=0/\(U eV c.az)[Z 0]?=G (Au k0)/\Y (x.fst>=0)=O/\Q 2/\iz 0<=0/\(U eV x.snd.az)[Z 0]?=G (Au s0)/\(s0.n !=bd.n k0)=O/\di (yr yq ((j:Int)+1))=di (↑(j+1):Int)/\cp 3 [] [G (cr l a s),G (Hn m),G [di c.n,cx c.az]]=J/\Q (EK l a s m c).H/\_) ⟨yp,by omega,A3 hx,yo,HU (by rw[HP];omega),hle2,rfl,by decide,A1 (i:=0) h4,yo,rfl,by decide,A1 (i:=0) h5,by rw[h6];exact bne_self_eq_false _,by rw[As],rfl,rfl,iK hr'⟩
  ·obtain⟨i,hi⟩:∃i:Nat,x.1=i:=⟨x.1.toNat,by omega⟩
   obtain⟨r,r1,r2,r3⟩:=h7 i hi
   have hix:(m.av.map AD)[Z x.1]?=G (AD r):=by rw[hi];exact A3 r1
   exact lv 100 [] (.t<|.x (dh x)<|.f<|.f<|.f<|.h (.xs (Au k0))<|.t<|.x (AD r)<|.x (AD r)<|.h (.xs (Au k0))<|.f<|.h (.xs (Au s0))<|.f<|.lo [ke 4,ke 5,ke 36,ke 37,ch 38 (di (j+1:Nat))] (EK l a s m c)) (Y ((j:Int)<(I L:Int))=J/\0<=(j:Int)/\(U dh L)[Z (j:Int)]?=G (dh x)/\Y (x.fst< -1)=O/\Y (x.fst>=(I (U AD m.av):Int))=O/\_/\Q 2/\iz 0<=0/\(U eV c.az)[Z 0]?=G (Au k0)/\Y (x.fst>=0)=J/\0<=x.fst/\_/\0<=x.fst/\_/\Q 2/\iz 0<=0/\(U eV c.az)[Z 0]?=G (Au k0)/\(yh (True))/\(r.aj !=bd.n k0)=O/\Q 2/\iz 0<=0/\(U eV x.snd.az)[Z 0]?=G (Au s0)/\(s0.n !=r.to)=O/\di (yr yq ((j:Int)+1))=di (↑(j+1):Int)/\cp 3 [] [G (cr l a s),G (Hn m),G [di c.n,cx c.az]]=J/\Q (EK l a s m c).H/\_) ⟨yp,by omega,A3 hx,yo,HU (by rw[HP];omega),hle2,rfl,by decide,A1 (i:=0) h4,yp,by omega,hix,by omega,hix,rfl,by decide,A1 (i:=0) h4,⟨trivial,trivial,trivial,trivial⟩,by rw[r2];exact bne_self_eq_false _,rfl,by decide,A1 (i:=0) h5,by rw[r3];exact bne_self_eq_false _,by rw[As],rfl,rfl,iK hr'⟩
noncomputable abbrev Ak2:=Tryz.f8
theorem Y1(l:List Int):Aa PP 8 [cy l] bf (.ptr 0 0) (dk l 0 11400714819323198485):=by
 exact sv Ak2 6 [] (.ro) (cp 1 [] [G [cy l,di 0,bt (aa u64 11400714819323198485)]]=J/\Q [G (cr l 0 11400714819323198485)]/\Q (bq 0 0)) ⟨rfl,rfl,rfl⟩
noncomputable abbrev Ak3:=Tryz.f7
theorem DN(l:List Int):F0 7 [cy l] (db (Y ((I l:Int)<=400))):=by
 refine sv Ak3 6 [] .r (db (Y ((I (U vi l):Int)<=400))=db (Y ((I l:Int)<=400))) ?_
 rw[HP]
theorem FN(l:List Int){o:yw}{c:Call}{fo:x5}(ho:o.op=.call c)(hc:c.callee=.value fo):Ay PP o [.v (.fn 8 [] []),cy l] bf (.ptr 0 0) (dk l 0 11400714819323198485):=by
 have:=B7 (σ:=bf) ho hc (fD:=.v (.fn 8 [] [])) rfl (ds:=[cy l]) [] id (Y1 l) (.cons (.ren (dc:=cy l) rfl) .nil) .nil (by simp) rfl (by simp) (by simp) rfl (by rfl)
 simp[Dp,CM,Ge,D.ren,D.rens,dv] at this
 exact this
structure jg(l:List Int)(m:ba)(c:bd)(a1:Nat)(s1:Int)(a2:Nat)(s2:Int):Prop where
 few:I l<=400
 mod:Aa PP 9 [.ptr 0 0,di 0] (dk l 0 11400714819323198485) (Ax m) (dk l a1 s1)
 cfg:Aa PP 10 [.ptr 0 0,Ax m] (dk l a1 s1) (dV c) (dk l a2 s2)
 av:I m.av<=100
 csz:c.size<=1000
abbrev U6:Prop:=F0 6 [] (db J)
theorem Ach(haw:U6)(l:List Int)(hl:400<I l):F0 5 [cy l] (db J):=by
 have hf:=DN l
 rw[yo] at hf
 exact sv o6 100 [] (.c (db J)<|.c (db O)<|.k<|.c (db J)<|.r) (_/\_/\_/\Q (db J)) ⟨haw,hf,haw,rfl⟩
theorem Ait(haw:U6){l:List Int}{m:ba}{c:bd}{a1 a2:Nat}{s1 s2:Int}(hx:jg l m c a1 s1 a2 s2)(p:List da×Int)(hA:F0 11 [Ax m,dV c] (fi p))(he:p.2=0∨p.2=1)(hL:I p.1<=1000)(h:p.2=0->∀x∈p.1,ra m c x):F0 5 [cy l] (db J):=by
 have hf:=DN l
 rw[HS (by have:=hx.few;omega)] at hf
 rcases he with he|he
 ·have hlp:=Acg l a2 s2 m hx.av c hx.csz p.1 hL (h he) _ 0 rfl (I3 _)
  exact sv o6 100 [] (.c (db J)<|.c (db J)<|.k<|.h (.oc (.ptr 0 0) (dk l 0 11400714819323198485))<|.c1 (cr l a1 s1) (Ax m)<|.c1 (cr l a2 s2) (dV c)<|.c (fi p)<|.f<|.lo [ke 4,ke 5,ch 36 (.v (Hr p.1)),ch 37 (di (I p.1)),ch 38 (di (0:Nat))] (EK l a2 s2 m c)) (_/\_/\(∀(o:yw) (c:Call) (fo:x5),o.op=Op.call c->c.callee=Callee.value fo->Ay PP o [bt (bw 8 [] []),cy l] bf (bq 0 0) (dk l 0 11400714819323198485))/\_/\_/\_/\(p.snd !=0)=O/\Q (bt (Hr p.fst))/\di (I (U dh p.fst):Int)=di (I p.fst:Int)/\Q (di 0)/\cp 3 [] [G (cr l a2 s2),G [di m.kind,bt (cf m.aw),bt (cf m.ay),bt (cf m.ax),cy m.au,di m.ao,di m.age,bt (Ht m.av),di m.start.n,cx m.start.az],G [di c.n,cx c.az]]=J/\Q [G (cr l a2 s2),G (Hn m),G [di c.n,cx c.az]]/\_) ⟨haw,hf,fun o c fo ho hc=>FN l ho hc,hx.mod,hx.cfg,hA,by rw[he];rfl,rfl,by rw[HP],rfl,rfl,rfl,iK hlp⟩
 ·exact sv o6 100 [] (.c (db J)<|.c (db J)<|.k<|.h (.oc (.ptr 0 0) (dk l 0 11400714819323198485))<|.c1 (cr l a1 s1) (Ax m)<|.c1 (cr l a2 s2) (dV c)<|.c (fi p)<|.t<|.r) (_/\_/\(∀(o:yw) (c:Call) (fo:x5),o.op=Op.call c->c.callee=Callee.value fo->Ay PP o [bt (bw 8 [] []),cy l] bf (bq 0 0) (dk l 0 11400714819323198485))/\_/\_/\_/\(p.snd !=0)=J/\db (p.snd==1)=db J) ⟨haw,hf,fun o c fo ho hc=>FN l ho hc,hx.mod,hx.cfg,hA,by rw[he];rfl,by rw[he];rfl⟩
noncomputable abbrev lm:=Tryz.f4
noncomputable def w8:=yj lm
noncomputable abbrev AlY:List KI:=[kl w8 [1,1,1,1,1,1,1,1,0,1,0,0],.blk 1,kc w8 [1,1,1,1,1,1,1,1,1]]
theorem Acj(l:List Int)(a:Nat)(s:Int)(m:ba)(c:bd)(L:List bd)(hL:I L<=1000)(h:∀y∈L,F0 17 [Ax m,dV y,dV c] (.tup [db J,di 0])/\F0 17 [Ax m,dV c,dV y] (.tup [db O,di 0]))(n:Nat):∀j:Nat,I L-j=n->j<=I L->
  Rn PP lm 0 (db J) bf (AlY++[]) (b9 84 [(4,.ptr 1 0),(5,.ptr 2 0),(50,cx L),(51,di (I L)),(52,di j)]) (EK l a s m c):=by
 induction n with
 |zero=>
  intro j hn hj
  exact lv 84 [] (.f<|.r) (Y ((j:Int)<(I L:Int))=O/\Q (db J)) ⟨yo,rfl⟩
 |succ n ih=>
  intro j hn hj
  obtain⟨y,hy⟩:=yi (show j<I L by omega)
  obtain⟨h1,h2⟩:=h y (HW hy)
  have hr':=ih (j+1) (by omega) (by omega)
  exact lv 84 [] (.t<|.h (.xs (Au y))<|.c (.tup [db J,di 0])<|.c (.tup [db O,di 0])<|.k<|.k<|.k<|.k<|.lo [ke 4,ke 5,ke 50,ke 51,ch 52 (di (j+1:Nat))] (EK l a s m c)) (Y ((j:Int)<(I L:Int))=J/\Q 2/\0<=(j:Int)/\(U eV L)[Z (j:Int)]?=G (Au y)/\_/\_/\di (yr yq ((j:Int)+1))=di (↑(j+1):Int)/\cp 3 [] [G (cr l a s),G (Hn m),G [di c.n,cx c.az]]=J/\Q (EK l a s m c).H/\_) ⟨yp,rfl,by omega,A1 hy,h1,h2,by rw[As],rfl,rfl,iK hr'⟩
theorem Ack(haw:U6)(l:List Int)(hl:400<I l):F0 4 [cy l] (db J):=by
 have hf:=DN l
 rw[yo] at hf
 exact sv lm 84 [] (.c (db J)<|.c (db O)<|.k<|.c (db J)<|.r) (_/\_/\_/\Q (db J)) ⟨haw,hf,haw,rfl⟩
theorem Acl(haw:U6){l:List Int}{m:ba}{c:bd}{a1 a2:Nat}{s1 s2:Int}(hx:jg l m c a1 s1 a2 s2)(hk:m.kind=2∨m.kind=3)(L:List bd)(hQ:F0 16 [Ax m,dV c] (.tup [cx L,di 0]))(hL:I L<=1000)(h:∀y∈L,F0 17 [Ax m,dV y,dV c] (.tup [db J,di 0])/\F0 17 [Ax m,dV c,dV y] (.tup [db O,di 0])):F0 4 [cy l] (db J):=by
 have hf:=DN l
 rw[HS (by have:=hx.few;omega)] at hf
 have hlp:=Acj l a2 s2 m c L hL h _ 0 rfl (I3 _)
 exact sv lm 84 [] (.c (db J)<|.c (db J)<|.k<|.h (.oc (.ptr 0 0) (dk l 0 11400714819323198485))<|.c1 (cr l a1 s1) (Ax m)<|.c1 (cr l a2 s2) (dV c)<|.c (.tup [cx L,di 0])<|.f<|.f<|.f<|.f<|.lo [ke 4,ke 5,ch 50 (cx L),ch 51 (di (I L)),ch 52 (di (0:Nat))] (EK l a2 s2 m c)) (_/\_/\(∀(o:yw) (c:Call) (fo:x5),o.op=Op.call c->c.callee=Callee.value fo->Ay PP o [bt (bw 8 [] []),cy l] bf (bq 0 0) (dk l 0 11400714819323198485))/\_/\_/\_/\(0 !=0)=O/\(m.kind==5)=O/\(m.kind==1)=O/\(m.kind==4)=O/\Q (cx L)/\di (I (U eV L):Int)=di (I L:Int)/\Q (di 0)/\cp 3 [] [G (cr l a2 s2),G [di m.kind,bt (cf m.aw),bt (cf m.ay),bt (cf m.ax),cy m.au,di m.ao,di m.age,bt (Ht m.av),di m.start.n,cx m.start.az],G [di c.n,cx c.az]]=J/\Q [G (cr l a2 s2),G (Hn m),G [di c.n,cx c.az]]/\_) ⟨haw,hf,fun o c fo ho hc=>FN l ho hc,hx.mod,hx.cfg,hQ,rfl,I7.2 (by omega),I7.2 (by omega),I7.2 (by omega),rfl,by rw[HP],rfl,rfl,rfl,iK hlp⟩
theorem Aci(haw:U6){l:List Int}{m:ba}{c:bd}{a1 a2:Nat}{s1 s2:Int}(hx:jg l m c a1 s1 a2 s2)(hk:m.kind=5)(v:bd)(hQ:F0 16 [Ax m,dV c] (.tup [cx [v],di 0])):F0 4 [cy l] (db J):=by
 have hf:=DN l
 rw[HS (by have:=hx.few;omega)] at hf
 exact sv lm 84 [] (.c (db J)<|.c (db J)<|.k<|.h (.oc (.ptr 0 0) (dk l 0 11400714819323198485))<|.c1 (cr l a1 s1) (Ax m)<|.c1 (cr l a2 s2) (dV c)<|.c (.tup [cx [v],di 0])<|.f<|.t<|.r) (_/\_/\(∀(o:yw) (c:Call) (fo:x5),o.op=Op.call c->c.callee=Callee.value fo->Ay PP o [bt (bw 8 [] []),cy l] bf (bq 0 0) (dk l 0 11400714819323198485))/\_/\_/\_/\(0 !=0)=O/\(m.kind==5)=J/\Q (db J)) ⟨haw,hf,fun o c fo ho hc=>FN l ho hc,hx.mod,hx.cfg,hQ,rfl,I4.2 hk,rfl⟩
theorem Tr(haw:U6){l:List Int}{m:ba}{c:bd}{a1 a2:Nat}{s1 s2:Int}(hx:jg l m c a1 s1 a2 s2)(hk:m.kind=1∨m.kind=4)(hQ:F0 16 [Ax m,dV c] (.tup [cx [],di 0])):F0 4 [cy l] (db J):=by
 have hf:=DN l
 rw[HS (by have:=hx.few;omega)] at hf
 rcases hk with hk|hk
 ·exact sv lm 84 [] (.c (db J)<|.c (db J)<|.k<|.h (.oc (.ptr 0 0) (dk l 0 11400714819323198485))<|.c1 (cr l a1 s1) (Ax m)<|.c1 (cr l a2 s2) (dV c)<|.c (.tup [cx [],di 0])<|.f<|.f<|.t<|.r) (_/\_/\(∀(o:yw) (c:Call) (fo:x5),o.op=Op.call c->c.callee=Callee.value fo->Ay PP o [bt (bw 8 [] []),cy l] bf (bq 0 0) (dk l 0 11400714819323198485))/\_/\_/\_/\(0 !=0)=O/\(m.kind==5)=O/\(m.kind==1)=J/\Q (db J)) ⟨haw,hf,fun o c fo ho hc=>FN l ho hc,hx.mod,hx.cfg,hQ,rfl,I7.2 (by omega),I4.2 hk,rfl⟩
 ·exact sv lm 84 [] (.c (db J)<|.c (db J)<|.k<|.h (.oc (.ptr 0 0) (dk l 0 11400714819323198485))<|.c1 (cr l a1 s1) (Ax m)<|.c1 (cr l a2 s2) (dV c)<|.c (.tup [cx [],di 0])<|.f<|.f<|.f<|.t<|.r) (_/\_/\(∀(o:yw) (c:Call) (fo:x5),o.op=Op.call c->c.callee=Callee.value fo->Ay PP o [bt (bw 8 [] []),cy l] bf (bq 0 0) (dk l 0 11400714819323198485))/\_/\_/\_/\(0 !=0)=O/\(m.kind==5)=O/\(m.kind==1)=O/\(m.kind==4)=J/\Q (db J)) ⟨haw,hf,fun o c fo ho hc=>FN l ho hc,hx.mod,hx.cfg,hQ,rfl,I7.2 (by omega),I7.2 (by omega),I4.2 hk,rfl⟩
def mm(ap:Int->List bd×Int):Nat->Int->List da
 |0,_=>[]
 |n+1,i=>((ap i).1.map fun v=>(i,v))++mm ap n (i+1)
theorem Ux{ap:Int->List bd×Int}:∀(n:Nat) (i:Int) (acc:List da),(CJ ap n i acc).2=0->(CJ ap n i acc).1=acc++mm ap n i/\∀j,i<=j->j<i+n->(ap j).2=0
 |0,i,acc,h=>by
  rw[CJ] at h⊢
  split at h
  ·cases h
  ·rename_i h1
   rw[Ij h1]
   exact⟨(IG _).symm,fun j h1 h2=>by omega⟩
 |n+1,i,acc,h=>by
  rw[CJ] at h⊢
  split at h
  ·rename_i h1
   have h:(ap i).2=0:=h
   rw[h] at h1;cases h1
  ·rename_i h1
   rw[Ij h1]
   obtain⟨h2,h3⟩:=Ux n (i+1) _ h
   refine⟨by rw[h2,mm,IZ],fun j h4 h5=>?_⟩
   by_cases hj:j=i
   ·subst hj
    simpa using h1
   ·exact h3 j (by omega) (by omega)
structure rj(m:ba)(ys:List bd):Prop where
 len:I ys<=1000
 size:∀v∈ys,v.size<=1000
 asc:gg AB ys
 val:∀v∈ys,F0 15 [Ax m,dV v] (db J)
noncomputable abbrev Wd:=Tryz.f3
noncomputable def G7:=yj Wd
noncomputable abbrev sp:List KI:=[kl G7 [1,1,1,1,1,1,1,1,0,1,0,0],.blk 0,kc G7 [1,1,1,1,1,1,1,1,1]]
theorem Aiy(l:List Int)(a:Nat)(s:Int)(m:ba)(c:bd)(L:List da)(hL:I L<=1000)(i:Int)(hi: -1<=i/\i<=1000)(ys:List bd)(hy:rj m ys)(A R:List da)(hA:L=A++(ys.map fun v=>(i,v))++R)
  (out:Rn PP Wd 0 (db J) bf (sp++[]) (b9 112 [(4,.ptr 1 0),(5,.ptr 2 0),(6,.v (Hr L)),(8,di (I A+I ys:Nat)),(9,di (i+1))]) (EK l a s m c)) (n:Nat):∀j:Nat,I ys-j=n->j<=I ys->
  Rn PP Wd 0 (db J) bf ([kl G7 [1,1,1,1,1,1,1,1,0,1,0,0,1,0,0,1,1,1,0,0],.blk 2,.blk 1,kc G7 [1,1,1,1,1,1,1,1,0,1,0,0,1,1]]++sp++[]) (b9 112 [(4,.ptr 1 0),(5,.ptr 2 0),(6,.v (Hr L)),(8,di (I A+j:Nat)),(9,di i),(10,cx ys),(55,cx ys),(56,di (I ys)),(57,di j)]) (EK l a s m c):=by
 induction n with
 |zero=>
  intro j hn hj
  have e:j=I ys:=by omega
  subst e
  exact lv 112 [] (.f<|.lo [ke 4,ke 5,ke 6,ke 8,ch 9 (di (i+1))] (EK l a s m c)) (Y ((I ys:Int)<(I ys:Int))=O/\di (yr yq (i+1))=di (i+1)/\cp 3 [] [G (cr l a s),G (Hn m),G [di c.n,cx c.az]]=J/\Q (EK l a s m c).H/\_) ⟨yo,by rw[A2],rfl,rfl,iK out⟩
 |succ n ih=>
  intro j hn hj
  obtain⟨y,hyj⟩:=yi (show j<I ys by omega)
  have hr':=ih (j+1) (by omega) (by omega)
  have hAl:I A+I ys<=I L:=by rw[hA];simp
  have hix:L[I A+j]?=G (i,y):=by
   rw[hA,IZ,Il (by omega),show I A+j-I A=j by omega,Ip (by rw[HP];omega),I9,hyj];rfl
  have hyz:=hy.size y (HW hyj)
  have hsm:=UJ y y (by omega)
  rw[show(AB y y==0)=J by rw[GV.2 rfl];rfl] at hsm
  have hv:=hy.val y (HW hyj)
  by_cases h0:j=0
  ·subst h0
   exact lv 112 [] (.t<|.h (.xs (Au y))<|.f<|.x (dh (i,y))<|.f<|.x (dh (i,y))<|.c (db J)<|.k<|.f<|.k<|.c (db J)<|.k<|.lo [ke 4,ke 5,ke 6,ch 8 (di (I A+1:Nat)),ke 9,ke 10,ke 55,ke 56,ch 57 (di (1:Nat))] (EK l a s m c)) (Y ((↑0:Int)<(I ys:Int))=J/\Q 2/\0<=(↑0:Int)/\(U eV ys)[Z (↑0:Int)]?=G (Au y)/\Y ((↑(I A+0):Int)>=(I (U dh L):Int))=O/\0<=(↑(I A+0):Int)/\(U dh L)[Z (↑(I A+0):Int)]?=G (dh (i,y))/\((i,y).fst !=i)=O/\0<=(↑(I A+0):Int)/\(U dh L)[Z (↑(I A+0):Int)]?=G (dh (i,y))/\_/\Y ((↑0:Int)>0)=O/\_/\(yh (True))/\di (yr yq ((↑(I A+0):Int)+1))=di (↑(I A+1):Int)/\Q (di (↑1:Int))/\cp 3 [] [G (cr l a s),G (Hn m),G [di c.n,cx c.az]]=J/\Q (EK l a s m c).H/\_) ⟨yp,rfl,by omega,A1 hyj,HU (by rw[HP];omega),by omega,A3 hix,bne_self_eq_false _,by omega,A3 hix,hsm,yo,hv,⟨trivial,trivial,trivial,trivial⟩,by rw[As],rfl,rfl,rfl,iK hr'⟩
  ·obtain⟨z,hz⟩:=yi (show j-1<I ys by omega)
   refine lv 112 [] (.t<|.h (.xs (Au y))<|.f<|.x (dh (i,y))<|.f<|.x (dh (i,y))<|.c (db J)<|.k<|.t<|.h (.xs (Au z))<|.c (di (AB z y))<|.f<|.c (db J)<|.k<|.lo [ke 4,ke 5,ke 6,ch 8 (di (I A+(j+1):Nat)),ke 9,ke 10,ke 55,ke 56,ch 57 (di (j+1:Nat))] (EK l a s m c)) (Y ((j:Int)<(I ys:Int))=J/\Q 2/\0<=(j:Int)/\(U eV ys)[Z (j:Int)]?=G (Au y)/\Y ((↑(I A+j):Int)>=(I (U dh L):Int))=O/\0<=(↑(I A+j):Int)/\(U dh L)[Z (↑(I A+j):Int)]?=G (dh (i,y))/\((i,y).fst !=i)=O/\0<=(↑(I A+j):Int)/\(U dh L)[Z (↑(I A+j):Int)]?=G (dh (i,y))/\F0 13 [bt (ab [vi (bd.n (i,y).snd),cc (bd.az (i,y).snd)]),dV y] (db J)/\Y ((j:Int)>0)=J/\Q 2/\0<=yr yq ((j:Int)-1)/\(U eV ys)[Z (yr yq ((j:Int)-1))]?=G (Au z)/\F0 14 [dV z,dV y] (di (AB z y))/\Y (AB z y>=0)=O/\F0 15 [Ax m,dV y] (db J)/\(yg (True))/\di (yr yq ((↑(I A+j):Int)+1))=di (↑(I A+(j+1)):Int)/\di (yr yq ((j:Int)+1))=di (↑(j+1):Int)/\cp 3 [] [G (cr l a s),G (Hn m),G [di c.n,cx c.az]]=J/\Q (EK l a s m c).H/\I0 Wd 0 (db J) bf [kl G7 [1,1,1,1,1,1,1,1,0,1,0,0,1,0,0,1,1,1,0,0],bh 2,bh 1,kc G7 [1,1,1,1,1,1,1,1,0,1,0,0,1,1],kl G7 [1,1,1,1,1,1,1,1,0,1,0,0],bh 0,kc G7 [1,1,1,1,1,1,1,1,1]] (b9 112 [(4,bq 1 0),(5,bq 2 0),(6,bt (Hr L)),(8,di (↑(I A+(j+1)):Int)),(9,di i),(10,cx ys),(55,cx ys),(56,di (I ys:Int)),(57,di (↑(j+1):Int))]) (EK l a s m c)) ?_
   have hzz:=hy.size z (HW hz)
   have hlt:AB z y<0:=by
    have h1:=List.pairwise_iff_getElem.1 hy.asc (j-1) j (by omega) (by omega) (by omega)
    rw[HQ (by omega)] at hz hyj
    rw[Is hz,Is hyj] at h1
    exact h1
   rw[show yq.wrap ((j:Int)-1)=((j-1:Nat):Int) by rw[A2];omega]
   exact⟨yp,rfl,by omega,A1 hyj,HU (by rw[HP];omega),by omega,A3 hix,bne_self_eq_false _,by omega,A3 hix,hsm,yp,rfl,by omega,A1 hz,GX _ z y (HX _) (by omega),yo,hv,⟨trivial,trivial,trivial,trivial,trivial⟩,by rw[As];rfl,by rw[As],rfl,rfl,⟨hr'⟩⟩
theorem Acs(l:List Int)(a:Nat)(s:Int)(m:ba)(hm:I m.av<=100)(c:bd)(L:List da)(hL:I L<=1000)(ap:Int->List bd×Int)(hap:∀i:Int, -1<=i->i<I m.av->F0 12 [Ax m,di i,dV c] (dm (ap i))/\(ap i).2=0/\rj m (ap i).1)(n:Nat):∀(i:Int) (A:List da),(I m.av:Int)-i=n-> -1<=i->L=A++mm ap n i->
  Rn PP Wd 0 (db J) bf (sp++[]) (b9 112 [(4,.ptr 1 0),(5,.ptr 2 0),(6,.v (Hr L)),(8,di (I A:Nat)),(9,di i)]) (EK l a s m c):=by
 induction n with
 |zero=>
  intro i A hn hi hLA
  have e:I A=I L:=by rw[hLA,mm,IG]
  exact lv 112 [] (.f<|.r) (Y (i<(I (U AD m.av):Int))=O/\db ((I A:Int)==(I (U dh L):Int))=db J) ⟨HU (by rw[HP];omega),by rw[HP,e];exact Iq db (beq_self_eq_true _)⟩
 |succ n ih=>
  intro i A hn hi hLA
  obtain⟨h1,h2,h3⟩:=hap i hi (by omega)
  rw[mm, ←IZ] at hLA
  have hr:=ih (i+1) (A++(ap i).1.map fun v=>(i,v)) (by omega) (by omega) hLA
  rw[Ig,HP] at hr
  have hin:=Aiy l a s m c L hL i (by omega) (ap i).1 h3 A _ hLA hr _ 0 rfl (I3 _)
  generalize ap i=p at*
  exact lv 112 [] (.t<|.c (dm p)<|.f<|.lo [ke 4,ke 5,ke 6,ch 8 (di (I A+0:Nat)),ke 9,ch 10 (cx p.1),ch 55 (cx p.1),ch 56 (di (I p.1)),ch 57 (di (0:Nat))] (EK l a s m c)) (Y (i<(I (U AD m.av):Int))=J/\_/\(p.snd !=0)=O/\Q (di (I A:Int))/\Q (cx p.fst)/\Q (cx p.fst)/\di (I (U eV p.fst):Int)=di (I p.fst:Int)/\Q (di 0)/\cp 3 [] [G (cr l a s),G (Hn m),G [di c.n,cx c.az]]=J/\Q (EK l a s m c).H/\_) ⟨HS (by rw[HP];omega),h1,by rw[h2];rfl,rfl,rfl,rfl,by rw[HP],rfl,rfl,rfl,iK hin⟩
theorem Acu(haw:U6)(l:List Int)(hl:400<I l):F0 3 [cy l] (db J):=by
 have hf:=DN l
 rw[yo] at hf
 exact sv Wd 112 [] (.c (db J)<|.c (db O)<|.k<|.c (db J)<|.r) (_/\_/\_/\Q (db J)) ⟨haw,hf,haw,rfl⟩
theorem Aix(haw:U6){l:List Int}{m:ba}{c:bd}{a1 a2:Nat}{s1 s2:Int}(hx:jg l m c a1 s1 a2 s2)(ap:Int->List bd×Int)(p:List da×Int)(hp:p=CJ ap (I m.av+1) (-1) [])(hA:F0 11 [Ax m,dV c] (fi p))(he:p.2=0∨p.2=1)(hL:I p.1<=1000)(hap:∀i:Int, -1<=i->i<I m.av->F0 12 [Ax m,di i,dV c] (dm (ap i))/\rj m (ap i).1):F0 3 [cy l] (db J):=by
 have hf:=DN l
 rw[HS (by have:=hx.few;omega)] at hf
 rcases he with he|he
 ·have hcat:=Ux (I m.av+1) (-1) [] (by rw[←hp];exact he)
  rw[←hp,List.nil_append] at hcat
  have hlp:=Acs l a2 s2 m hx.av c p.1 hL ap (fun i h1 h2=>⟨(hap i h1 h2).1,hcat.2 i h1 (by omega),(hap i h1 h2).2⟩) (I m.av+1) (-1) [] (by omega) (Iv _) hcat.1
  clear hcat hp
  exact sv Wd 112 [] (.c (db J)<|.c (db J)<|.k<|.h (.oc (.ptr 0 0) (dk l 0 11400714819323198485))<|.c1 (cr l a1 s1) (Ax m)<|.c1 (cr l a2 s2) (dV c)<|.c (fi p)<|.f<|.lo [ke 4,ke 5,ch 6 (.v (Hr p.1)),ch 8 (di (0:Nat)),ch 9 (di (-1))] (EK l a2 s2 m c)) (_/\_/\(∀(o:yw) (c:Call) (fo:x5),o.op=Op.call c->c.callee=Callee.value fo->Ay PP o [bt (bw 8 [] []),cy l] bf (bq 0 0) (dk l 0 11400714819323198485))/\_/\_/\_/\(p.snd !=0)=O/\Q (bt (Hr p.fst))/\Q (di 0)/\Q (di (-1))/\cp 3 [] [G (cr l a2 s2),G [di m.kind,bt (cf m.aw),bt (cf m.ay),bt (cf m.ax),cy m.au,di m.ao,di m.age,bt (Ht m.av),di m.start.n,cx m.start.az],G [di c.n,cx c.az]]=J/\Q [G (cr l a2 s2),G (Hn m),G [di c.n,cx c.az]]/\_) ⟨haw,hf,fun o c fo ho hc=>FN l ho hc,hx.mod,hx.cfg,hA,by rw[he];rfl,rfl,rfl,rfl,rfl,rfl,iK hlp⟩
 ·exact sv Wd 112 [] (.c (db J)<|.c (db J)<|.k<|.h (.oc (.ptr 0 0) (dk l 0 11400714819323198485))<|.c1 (cr l a1 s1) (Ax m)<|.c1 (cr l a2 s2) (dV c)<|.c (fi p)<|.t<|.r) (_/\_/\(∀(o:yw) (c:Call) (fo:x5),o.op=Op.call c->c.callee=Callee.value fo->Ay PP o [bt (bw 8 [] []),cy l] bf (bq 0 0) (dk l 0 11400714819323198485))/\_/\_/\_/\(p.snd !=0)=J/\db (p.snd==1)=db J) ⟨haw,hf,fun o c fo ho hc=>FN l ho hc,hx.mod,hx.cfg,hA,by rw[he];rfl,by rw[he];rfl⟩
noncomputable abbrev Amd:=Tryz.f12
theorem v6{m:ba}{t:bc}{ap:bd->Int->List bd×Int}(hm:jn m t ap)(c:bd)(hs:c.size<=1000)(hv:Aw t c=J)(i:Int)(h1: -1<=i)(h2:i<I m.av):F0 12 [Ax m,di i,dV c] (dm (ap c i)):=by
 have hval:=hm.int.valid c (by omega)
 rw[hv] at hval
 have hb:=hm.beh c hs hv i h1 h2
 generalize ap c i=p at hb⊢
 exact sv Amd 36 [3,5] (.c (di 0)<|.k<|.f<|.f<|.c (db J)<|.k<|.c (dm p)<|.r) (_/\Y (i< -1)=O/\Y (i>=(I (U AD m.av):Int))=O/\_/\_/\bl [cx p.fst,di p.snd]=dm p) ⟨sd hm,yo,HU (by rw[HP];omega),hval,hb,rfl⟩
noncomputable abbrev Akk:=Tryz.f16
theorem o9{m:ba}{t:bc}{ap:bd->Int->List bd×Int}(hm:jn m t ap)(c:bd)(hs:c.size<=1000)(hv:Aw t c=J)(l:List bd)(hq:F0 34 [Ax m,dV c] (cx l)):F0 16 [Ax m,dV c] (.tup [cx l,di 0]):=by
 have hc:=te hm c hs
 rw[hv,Io rfl] at hc
 exact sv Akk 16 [2,3] (.c (di 0)<|.k<|.c (cx l)<|.r) (_/\_/\Q (bl [cx l,di 0])) ⟨hc,hq,rfl⟩
structure kr(m:ba)(t:bc)(ap:bd->Int->List bd×Int):Prop where
 st:jn m t ap
 prod:∃l,t=.prod l
 code:∀c,Aw t c=J->∀i,(ap c i).2=0∨(ap c i).2=1
 asc:∀c,Aw t c=J->∀i,gg AB (ap c i).1
 typ:∀c,Aw t c=J->∀i,∀v∈ (ap c i).1,Aw t v=J
 back:∀c,Aw t c=J->∀i,i<0->∀v∈ (ap c i).1,(v.az.getD 0 dt).n=(c.az.getD 0 dt).n
 rule:∀c,Aw t c=J->∀i,0<=i->∀v∈ (ap c i).1,∃r,m.av[i.toNat]?=G r/\r.aj=(c.az.getD 0 dt).n/\r.to=(v.az.getD 0 dt).n
 kid:∀c,Aw t c=J->0<I c.az
 v15:∀v,Aw t v=J->F0 15 [Ax m,dV v] (db J)
theorem Sd{ap:Int->List bd×Int}(h:∀i,(ap i).2=0∨(ap i).2=1):∀(n:Nat) (i:Int) (acc:List da),(CJ ap n i acc).2=0∨(CJ ap n i acc).2=1
 |0,i,acc=>by
  rw[CJ]
  split
  ·exact .inr rfl
  ·exact .inl rfl
 |n+1,i,acc=>by
  rw[CJ]
  split
  ·exact h i
  ·exact Sd h n (i+1) _
theorem ZN{ap:Int->List bd×Int}{Q:da->Prop}:∀(n:Nat) (i:Int) (acc:List da),(∀j,i<=j->j<i+n->∀v∈ (ap j).1,Q (j,v))->(∀s∈acc,Q s)->∀s∈ (CJ ap n i acc).1,Q s
 |0,i,acc,_,ha=>by
  rw[CJ]
  split
  ·intro s hs;simp at hs
  ·exact ha
 |n+1,i,acc,hq,ha=>by
  rw[CJ]
  split
  ·intro s hs;simp at hs
  ·refine ZN n (i+1) _ (fun j h1 h2=>hq j (by omega) (by omega)) fun s hs=>?_
   rcases IE.1 hs with hs|hs
   ·exact ha s hs
   ·obtain⟨v,hv,rfl⟩:=IA.1 hs
    exact hq i (Iv _) (by omega) v hv
theorem xt{c:bd}(h:0<I c.az):c.az[0]?=G (c.az.getD 0 dt):=by
 rw[HY,HQ h];rfl
theorem AfH(haw:U6){l:List Int}{m:ba}{c:bd}{a1 a2:Nat}{s1 s2:Int}(hx:jg l m c a1 s1 a2 s2){t:bc}{ap:bd->Int->List bd×Int}(hm:kr m t ap)(hv:Aw t c=J):F0 5 [cy l] (db J):=by
 obtain⟨⟨hL,_⟩,hA⟩:=tf hm.st c hx.csz
 have he:M7 m t ap c=CJ (ap c) (I m.av+1) (-1) []:=by rw[M7,Io hv]
 rw[he] at hL hA
 refine Ait haw hx _ hA (Sd (hm.code c hv) _ _ _) (by omega) fun _=>?_
 refine ZN (Q:=ra m c) _ _ _ (fun j h1 h2 v hj=>?_) (by simp)
 have hvv:=hm.typ c hv j v hj
 obtain⟨tl,ht⟩:=hm.prod
 have p1:=Ev (ht▸hv)
 have p2:=Ev (ht▸hvv)
 refine⟨⟨h1,by show j<_;omega⟩,by show I v.az=_;rw[p1.2.1,p2.2.1],(hm.st.bp c hv j).2 v hj,c.az.getD 0 dt,v.az.getD 0 dt,xt (hm.kid c hv),xt (hm.kid v hvv),fun hj0=>hm.back c hv j hj0 v hj,fun i hi=>?_⟩
 have hi:j=i:=hi
 obtain⟨r,r1,r2,r3⟩:=hm.rule c hv j (by omega) v hj
 rw[hi,Ji] at r1
 exact⟨r,r1,r2,r3⟩
theorem AfP(haw:U6){l:List Int}{m:ba}{c:bd}{a1 a2:Nat}{s1 s2:Int}(hx:jg l m c a1 s1 a2 s2){t:bc}{ap:bd->Int->List bd×Int}(hm:kr m t ap)(hv:Aw t c=J):F0 3 [cy l] (db J):=by
 obtain⟨⟨hL,_⟩,hA⟩:=tf hm.st c hx.csz
 have he:M7 m t ap c=CJ (ap c) (I m.av+1) (-1) []:=by rw[M7,Io hv]
 refine Aix haw hx (ap c) _ he hA (by rw[he];exact Sd (hm.code c hv) _ _ _) (by omega) fun i h1 h2=>⟨v6 hm.st c hx.csz hv i h1 h2,?_⟩
 obtain⟨b1,b2⟩:=hm.st.bp c hv i
 exact⟨b1,b2,hm.asc c hv i,fun v hvv=>hm.v15 v (hm.typ c hv i v hvv)⟩
section
variable {P : x4} {o : yw} {σ : St}
end
end Go.Proofs.YthmjfmacdlhfjaaGreat

namespace Go.Nv
open Go.Dv
open Go.IntKind (u64)
open Go.IntKind renaming wrap → yr, i64 → yq
open List renaming length → I, map → U, drop → W
open Option renaming some → G
open Bool renaming true → J, false → O
open Decidable renaming decide → Y
open Int renaming toNat → Z
open Go.Dv.V renaming list → ai, str → ae, agg → ab, int → aa, ref → bz, fn → bw, nils → bv, bool → bu
open Go.Dv.D renaming v → bt, acc → br, ptr → bq, arr → bo, gro → bm, tup → bl, undef → bk, dagg → bj
open Go.Dv.St renaming mk → bi
open Go.Dv.KI renaming blk → bh
open _root_.ByteArray renaming mk → bg
open Go renaming Operand → x5, Program → x4, TypeId → yz, World → yy, Value → yx, Oper → yw, FuncId → yv, Func → yu, IntKind → yt
section
variable {P : x4} {R : List D -> St -> Prop} {k : List KI} {nt : Nat} {E : List (Nat × D)} {σ : St} {ops : Array yw} {L0 : List yw} {C : co -> co -> Prop}
end
end Go.Nv

namespace Go.Proofs.YthmjfmacdlhfjaaGreat
open Go.Dv Go.Nv
set_option maxRecDepth 20000
open List (all_cons length map nil_append replicate take)
open Go.IntKind (u64)
open Go.IntKind renaming wrap → yr, i64 → yq
open List renaming length → I, map → U, drop → W
open Option renaming some → G
open Bool renaming true → J, false → O
open Decidable renaming decide → Y
open Int renaming toNat → Z
open Go.Dv.V renaming list → ai, str → ae, agg → ab, int → aa, ref → bz, fn → bw, nils → bv, bool → bu
open Go.Dv.D renaming v → bt, acc → br, ptr → bq, arr → bo, gro → bm, tup → bl, undef → bk, dagg → bj
open Go.Dv.St renaming mk → bi
open Go.Dv.KI renaming blk → bh
open _root_.ByteArray renaming mk → bg
open Go renaming Operand → x5, Program → x4, TypeId → yz, World → yy, Value → yx, Oper → yw, FuncId → yv, Func → yu, IntKind → yt
structure tw(T:List (List Bool))(c:Nat)(O:List Int):Prop where
 len:I O=c
 rng:∀x∈O,x= -1∨(0<=x/\x<I T)
theorem tw.set{T:List (List Bool)}{c:Nat}{O:List Int}(h:tw T c O){k row:Nat}(hr:row<I T):tw T c (O.set k row):=⟨by rw[List.length_set,h.len],fun x hx=>by
 rcases IX hx with hx|rfl
 ·exact h.rng x hx
 ·exact .inr ⟨by omega,by omega⟩⟩
def i7(t:bc)(q:bd->bd->Bool):Prop:=∀a b,A0 t a=J->A0 t b=J->F0 68 [dT t,dV a,dV b] (db (q a b))
noncomputable abbrev lw:=Tryz.f68
noncomputable def m8:=yj lw
theorem Z9(n:Int):i7 (.lab n) (fun a b=>a.n==b.n):=fun a b _ _=>by
 refine sv lw 87 [3,4,5] (.k<|.k .r) (Q (db (a.n==bd.n b))) ?_
 rfl
def Ep:List (bd->bd->Bool)->List bd->List bd->Bool
 |q::qs,x::xs,y::ys=>q x y&&Ep qs xs ys
 |_,_,_=>true
theorem Z8{l:List bc}{qs:List (bd->bd->Bool)}(hl:I l<=1000){a b:bd}(ha:I a.az=I l)(hb:I b.az=I l)
  (h:∀(i:Nat) (t:bc) (x y:bd),l[i]?=G t->a.az[i]?=G x->b.az[i]?=G y->∃q:bd->bd->Bool,qs[i]?=G q/\F0 68 [dT t,dV x,dV y] (db (q x y))) (m:Nat):∀k:Nat,I l-k=m->
  Rn PP lw 0 (db (Ep (qs.drop k) (a.az.drop k) (b.az.drop k))) bf ([kl m8 [1,0,1,0,1,1,1,1,1,0,0,1,0,0],.blk 1,kc m8 [1,0,1,0,1,1,1,1,1,0,1],.blk 0,kc m8 [1,1]]++[]) (b9 87 [(4,.v (.ref (Au a))),(5,.v (.ref (Au b))),(28,.v (.list (l.map eT))),(29,di (I l)),(30,di k)]) bf:=by
 induction m with
 |zero=>
  intro k hm
  rw[show Ep (qs.drop k) (a.az.drop k) (b.az.drop k)=J by rw[List.drop_eq_nil_of_le («as» :=a.az) (by omega)];cases qs.drop k<;>rfl]
  exact lv 87 [3,4,5] (.f .r) (Y ((k:Int)<(I l:Int))=O/\Q (db J)) ⟨yo,rfl⟩
 |succ m ih=>
  intro k hm
  obtain⟨t,ht⟩:=@yi _ l k (by omega)
  obtain⟨x,hx⟩:∃r,a.az[k]?=G r:=⟨_,HQ (by omega)⟩
  obtain⟨y,hy⟩:∃r,b.az[k]?=G r:=⟨_,HQ (by omega)⟩
  obtain⟨q,hq,hs⟩:=h k t x y ht hx hy
  have e:Ep (qs.drop k) (a.az.drop k) (b.az.drop k)=(q x y&&Ep (qs.drop (k+1)) (a.az.drop (k+1)) (b.az.drop (k+1))):=by rw[dx hq,dx hx,dx hy];rfl
  rw[e]
  have hih:=ih (k+1) (by omega)
  generalize Ep (qs.drop (k+1)) (a.az.drop (k+1)) (b.az.drop (k+1))=r at*
  cases hqq:q x y with
  |false=>
   rw[hqq] at hs
   exact lv 87 [3,4,5] (.t<|.x (vT t)<|.x (Au x)<|.x (Au y)<|.c (db O)<|.k .r) (Y ((k:Int)<(I l:Int))=J/\0<=(k:Int)/\(U eT l)[Z (k:Int)]?=G (vT t)/\0<=(k:Int)/\(U eV a.az)[Z (k:Int)]?=G (Au x)/\0<=(k:Int)/\(U eV b.az)[Z (k:Int)]?=G (Au y)/\_/\yn/\Q (db O)) ⟨yp,by omega,GQ ht,by omega,A1 hx,by omega,A1 hy,hs,yl,rfl⟩
  |true=>
   rw[hqq] at hs
   rw[I2]
   exact lv 87 [3,4,5] (.t<|.x (vT t)<|.x (Au x)<|.x (Au y)<|.c (db J)<|.k<|.lo [ke 4,ke 5,ke 28,ke 29,ch 30 (di (k+1:Nat))] bf) (Y ((k:Int)<(I l:Int))=J/\0<=(k:Int)/\(U eT l)[Z (k:Int)]?=G (vT t)/\0<=(k:Int)/\(U eV a.az)[Z (k:Int)]?=G (Au x)/\0<=(k:Int)/\(U eV b.az)[Z (k:Int)]?=G (Au y)/\_/\yn/\di (yr yq ((k:Int)+1))=di (↑(k+1):Int)/\cp 0 [] []=J/\_) ⟨yp,by omega,GQ ht,by omega,A1 hx,by omega,A1 hy,hs,yl,As,rfl,iK hih⟩
theorem Oy:∀{l:List bc} {vs:List bd} {i:Nat} {t:bc} {v:bd},B1 l vs=J->l[i]?=G t->vs[i]?=G v->A0 t v=J
 |[],_,i,t,v,_,h,_=>by simp at h
 |_::_,[],i,t,v,_,_,h=>by simp at h
 |t0::l,v0::vs,0,t,v,h,h1,h2=>by
  simp only[B1,HR] at h
  simp only[List.getElem?_cons_zero,I1] at h1 h2
  subst h1;subst h2;exact h.1
 |t0::l,v0::vs,i+1,t,v,h,h1,h2=>by
  simp only[B1,HR] at h
  exact Oy h.2 (by simpa using h1) (by simpa using h2)
theorem Ad1(l:List bc)(hl:l.length<=1000)(qs:List (bd->bd->Bool))(h:∀(i:Nat) (t:bc),l[i]?=some t->∃q:bd->bd->Bool,qs[i]?=some q/\i7 t q):i7 (.prod l) (fun a b=>Ep qs a.az b.az):=fun a b ha hb=>by
 simp only[A0,HR,I4] at ha hb
 have:=Z8 hl (qs:=qs) (a:=a) (b:=b) (by omega) (by omega) (fun i t x y ht hx hy=>by
  obtain⟨q,h1,h2⟩:=h i t ht
  exact⟨q,h1,h2 x y (Oy ha.2.2 ht hx) (Oy hb.2.2 ht hy)⟩) _ 0 rfl
 refine sv lw 87 [3,4,5] (.k<|.k<|.k<|.l [ke 4,ke 5,ch 28 (.v (.list (l.map eT))),ch 29 (di l.length),ch 30 (di (0:Nat))]) (bt (ai (map eT (bc.ps (bc.prod l))))=bt (ai (map eT l))/\di (length (map eT (bc.ps (bc.prod l))):Int)=di (l.length:Int)/\di 0=di (↑0:Int)/\I0 lw bf.H.length (db ((fun a b=>Ep qs a.az b.az) a b)) bf [kl m8 [1,0,1,0,1,1,1,1,1,0,0,1,0,0],bh 1,kc m8 [1,0,1,0,1,1,1,1,1,0,1],bh 0,kc m8 [1,1]] (b9 87 [(4,bt (bz (Au a))),(5,bt (bz (Au b))),(28,bt (ai (map eT l))),(29,di (l.length:Int)),(30,di (↑0:Int))]) bf) ?_
 exact⟨rfl,by rw[HP];rfl,rfl,⟨this⟩⟩
noncomputable abbrev na:=Tryz.f132
noncomputable def my:=yj na
noncomputable abbrev AkC:=Tryz.f180
def EE(q:bd->bd->Bool):List bd->List bd->Bool
 |[],_=>true
 |x::a,b=>if Y (c7 (q x) b 0<0)=J then false else EE q a (b.drop ((c7 (q x) b 0).toNat+1))
theorem YC{α:Type}(p:α->Bool):∀(l:List α) (k:Nat),c7 p l k= -1∨((k:Int)<=c7 p l k/\c7 p l k<k+I l)
 |[],k=>.inl rfl
 |x::l,k=>by
  rw[c7]
  split
  ·exact .inr ⟨Iv _,by simp only[HV];omega⟩
  ·rcases YC p l (k+1) with h|⟨h1,h2⟩
   ·exact .inl h
   ·exact .inr ⟨by omega,by simp only[HV];omega⟩
theorem YW{t:bc}{x y:bd}{b:Bool}(h:F0 68 [dT t,dV x,dV y] (db b)):F0 180 [dV y,.v (.ref (vT t)),.v (.ref (Au x))] (db b):=by
 exact sv AkC 9 [3] (.c (db b) .r) (_/\Q (db b)) ⟨h,rfl⟩
theorem AcN{t:bc}{q:bd->bd->Bool}(a:List bd)(ha:I a<=1000)(m:Nat):∀(k:Nat) (b:List bd),I b<=1000->(∀x∈a,∀y∈b,F0 68 [dT t,dV x,dV y] (db (q x y)))->I a-k=m->
  Rn PP na 0 (db (EE q (a.drop k) b)) bf ([kl my [1,0,1,0,0],.blk 0,kc my [1,1]]++[]) (b9 26 [(2,cx b),(3,.v (.ref (vT t))),(10,cx a),(11,di (I a)),(12,di k)]) bf:=by
 induction m with
 |zero=>
  intro k b hbl hq hm
  rw[Im (by omega)]
  exact lv 26 [3] (.f .r) (Y ((k:Int)<(I a:Int))=O/\Q (db J)) ⟨yo,rfl⟩
 |succ m ih=>
  intro k b hbl hq hm
  obtain⟨x,hx⟩:=@yi _ a k (by omega)
  have hix:=T5 180 [] [.ref (vT t),.ref (Au x)] (q x) b (by omega) (fun y hy=>YW (hq x (HW hx) y hy))
  have hor:=YC (q x) b 0
  rw[dx hx,EE]
  generalize c7 (q x) b 0=i at*
  by_cases h0:Y (i<0)=J
  ·rw[Io h0]
   exact lv 26 [3] (.t<|.x (Au x)<|.h (.q 4 1)<|.h (.fa 0 [8])<|.c (di i)<|.t .r) (Y ((k:Int)<(I a:Int))=J/\0<=(k:Int)/\(U eV a)[Z (k:Int)]?=G (Au x)/\_/\_/\Q (db O)) ⟨yp,by omega,A1 hx,hix,h0,rfl⟩
  ·rw[Ij h0]
   have hf:=Ic h0
   have hi0:0<=i:=by have:=IB hf;omega
   have hw:yr yq (i+1)=i+1:=A2
   have hih:=ih (k+1) (b.drop (i.toNat+1)) (by rw[IY];omega) (fun x hx y hy=>hq x hx y (II hy)) (by omega)
   refine lv 26 [3] (.t<|.x (Au x)<|.h (.q 4 1)<|.h (.fa 0 [8])<|.c (di i)<|.f<|.lo [ch 2 (cx (b.drop (i.toNat+1))),ke 3,ke 10,ke 11,ch 12 (di (k+1:Nat))] bf) (Y ((k:Int)<(I a:Int))=J/\0<=(k:Int)/\(U eV a)[Z (k:Int)]?=G (Au x)/\F0 179 [cx b,bt (bw 180 [] [bz (vT t),bz (Au x)])] (di i)/\Y (i<0)=O/\(∀(x:V),x∈U eV b->V.size x=2)/\0<=(fun x=>x.snd) (yq,yr yq (i+1))/\(fun x=>x.snd) (yq,yr yq (i+1))<=(I (U eV b):Int)/\bt (ai (W (Z ((fun x=>x.snd) (yq,yr yq (i+1)))) (take (I (U eV b)) (U eV b))))=cx (W (Z i+1) b)/\di (yr yq ((k:Int)+1))=di (↑(k+1):Int)/\cp 0 [] []=J/\I0 na 0 (db (EE q (W (k+1) a) (W (Z i+1) b))) bf [kl my [1,0,1,0,0],bh 0,kc my [1,1]] (b9 26 [(2,cx (W (Z i+1) b)),(3,bt (bz (vT t))),(10,cx a),(11,di (I a:Int)),(12,di (↑(k+1):Int))]) bf) ?_
   rw[hw]
   refine⟨yp,by omega,A1 hx,hix,hf,fun y hy=>by obtain⟨z,_,rfl⟩:=IA.1 hy;rw[AR];rfl,by show(0:Int)<=i+1;omega,by rw[HP];show i+1<=(I b:Int);omega,?_,As,rfl,⟨hih⟩⟩
   rw[List.take_length]
   show bt (ai (W (Z (i+1)) (b.map eV)))=_
   rw[show Z (i+1)=i.toNat+1 by omega, ←List.map_drop]
theorem AcM{t:bc}{q:bd->bd->Bool}(a b:List bd)(ha:I a<=1000)(hb:I b<=1000)(h:∀x∈a,∀y∈b,F0 68 [dT t,dV x,dV y] (db (q x y))):F0 132 [dT t,cx a,cx b] (db (EE q a b)):=by
 have:=AcN a ha _ 0 b hb h rfl
 exact sv na 26 [3] (.l [ke 2,ke 3,ch 10 (cx a),ch 11 (di (I a)),ch 12 (di (0:Nat))]) (Q (cx a)/\di (I (U eV a):Int)=di (I a:Int)/\Q (di 0)/\I0 na (I bf.H) (db (EE q a b)) bf [kl my [1,0,1,0,0],bh 0,kc my [1,1]] (b9 26 [(2,cx b),(3,bt (bz (vT t))),(10,cx a),(11,di (I a:Int)),(12,di (↑0:Int))]) bf) ⟨rfl,by rw[HP],rfl,⟨this⟩⟩
theorem Ad0{t:bc}{q:bd->bd->Bool}(h:i7 t q):i7 (.word t) (fun a b=>EE q a.az b.az):=fun a b ha hb=>by
 simp only[A0,HR,I4,ID,Ia] at ha hb
 have:=AcM (t:=t) (q:=q) a.az b.az (by omega) (by omega) (fun x hx y hy=>h x y (ha.2.2 x hx) (hb.2.2 y hy))
 rw[dT,L4]
 exact sv lw 87 [3,4,5] (.k<|.k<|.k<|.k<|.x (vT t)<|.c (db (EE q a.az b.az))<|.r) (iz 0<=0/\Q (G (vT t))/\F0 132 [bt (vT t),cx a.az,cx b.az] (db (EE q a.az b.az))/\Q (db (EE q a.az b.az))) ⟨Iv _,rfl,this,rfl⟩
section
variable {t : bc} {q : bd -> bd -> Bool} {a b : List bd} (ha : (I a) <= 12) (hb : (I b) <= 12) (h : ∀ x ∈ a, ∀ y ∈ b, Aa PP 68 [dT t, dV x, dV y] bf (db (q x y)) bf) {d : D}
include ha hb h
end
noncomputable abbrev qy:=Tryz.f137
noncomputable def qw:=yj qy
theorem AbO(l:List bd)(hl:I l<=1000)(m:Nat):∀k:Nat,I l-k=m->
  Rn PP qy 0 (cy (l.map bd.n)) bf ([kl qw [1,1,0,1,0,0],.blk 0,kc qw [1,1,1]]++[]) (b9 19 [(3,.acc 1 (((l.take k).map bd.n).map vi)),(6,cx l),(7,di (I l)),(8,di k)]) ⟨[],[(1,1,((l.take k).map bd.n).map vi)]⟩:=by
 induction m with
 |zero=>
  intro k hm
  rw[Iw (by omega)]
  exact lv 19 [] (.f .r) (Y ((k:Int)<(I l:Int))=O/\Q (cy (U bd.n l))) ⟨yo,rfl⟩
 |succ m ih=>
  intro k hm
  obtain⟨x,hx⟩:=@yi _ l k (by omega)
  have e:((l.take (k+1)).map bd.n).map vi=((l.take k).map bd.n).map vi++[vi x.n]:=by rw[Jn,hx];simp
  have hih:=ih (k+1) (by omega)
  rw[e] at hih
  refine lv 19 [] (.t<|.x (Au x)<|.w<|.lo [ch 3 (.acc 1 (((l.take k).map bd.n).map vi++[vi x.n])),ke 6,ke 7,ch 8 (di (k+1:Nat))] ⟨[],[(1,1,((l.take k).map bd.n).map vi++[vi x.n])]⟩) (Y ((k:Int)<(I l:Int))=J/\0<=(k:Int)/\(U eV l)[Z (k:Int)]?=G (Au x)/\Q (U vi (U bd.n (take k l)))/\A9 (I (U vi (U bd.n (take k l)))+I (vi x.n::nV)) 8/\(∀(y:V),y∈ [vi x.n]->V.size y=1)/\Q (br 1 (U vi (U bd.n (take k l))++[vi x.n]))/\di (yr yq ((k:Int)+1))=di (↑(k+1):Int)/\cp 0 [1] []=J/\Q [(1,1,U vi (U bd.n (take k l))++vi x.n::nV)]/\_) ⟨yp,by omega,A1 hx,rfl,⟨?_,?_⟩,fun y hy=>by rw[Ii.1 hy];rfl,rfl,As,rfl,rfl,iK hih⟩
  ·simp only[HP,Iy,HV,HZ];omega
  ·simp only[HP,Iy,HV,HZ];omega
theorem SZ(l:List bd)(hl:I l<=1000):F0 137 [cx l] (cy (l.map bd.n)):=by
 have:=AbO l hl _ 0 rfl
 exact sv qy 19 [] (.h (.q 2 0)<|.h (.nw 3 1 1)<|.ls [ch 3 (.acc 1 []),ch 6 (cx l),ch 7 (di (I l)),ch 8 (di (0:Nat))] ⟨[],[(1,1,[])]⟩) (Q (br 1 [])/\Q (cx l)/\di (I (U eV l):Int)=di (I l:Int)/\Q (di 0)/\Q [(1,1,nV)]/\I0 qy (I bf.H) (cy (U bd.n l)) bf [kl qw [1,1,0,1,0,0],bh 0,kc qw [1,1,1]] (b9 19 [(3,br 1 []),(6,cx l),(7,di (I l:Int)),(8,di (↑0:Int))]) (bi [] [(1,1,[])])) ⟨rfl,rfl,by rw[HP],rfl,rfl,⟨this⟩⟩
noncomputable abbrev Akv:=Tryz.f227
noncomputable abbrev Aku:=Tryz.f251
def e8(rk:List Int)(x:Int):Int:=rk.getD x.toNat 0
theorem wd{rk:List Int}{x:Int}(h:0<=x/\x<I rk):rk[x.toNat]?=G (e8 rk x):=by
 rw[e8,HY,HQ (by omega)];rfl
theorem XE(rk b:List Int)(x y:Int)(p:Nat)(hx:0<=x/\x<I rk)(hy:b[p]?=G y)(hyr:0<=y/\y<I rk):F0 251 [di x,.v (.ref (cz rk)),.v (.ref (cz b)),.v (.ref (vi p))] (db (Y (e8 rk x>e8 rk y))):=by
 exact sv Aku 18 [] (.x (vi (e8 rk x))<|.x (vi y)<|.x (vi (e8 rk y)) .r) (0<=x/\(U vi rk)[Z x]?=G (vi (e8 rk x))/\0<=(p:Int)/\(U vi b)[Z (p:Int)]?=G (vi y)/\0<=y/\(U vi rk)[Z y]?=G (vi (e8 rk y))/\Q (db (Y (e8 rk x>e8 rk y)))) ⟨hx.1,by rw[I9,wd hx];rfl,by omega,A3 hy,hyr.1,by rw[I9,wd hyr];rfl,rfl⟩
def ky(rk b:List Int)(from_ p:Nat)(y:Int):Bool:= !(((b.take p).drop from_).any fun x=>Y (e8 rk x>e8 rk y))
theorem XF(rk b:List Int)(from_ p:Nat)(y:Int)(hf:from_<=p)(hb:I b<=1000)(hbr:∀x∈b,0<=x/\x<I rk)(hy:b[p]?=G y):F0 227 [cy rk,cy b,di from_,di p] (db (ky rk b from_ p y)):=by
 have hpl:=(HT.1 hy).1
 refine sv Akv 16 [4,5,7] (.c (db (((b.take p).drop from_).any fun x=>Y (e8 rk x>e8 rk y))) .r) ((∀(x:V),x∈U vi b->V.size x=1)/\0<=(fun x=>x.snd) (yq,(from_:Int))/\(fun x=>x.snd) (yq,(from_:Int))<=(fun x=>x.snd) (yq,(p:Int))/\(fun x=>x.snd) (yq,(p:Int))<=(I (U vi b):Int)/\F0 155 [bt (ai (W (Z ((fun x=>x.snd) (yq,(from_:Int)))) (take (Z ((fun x=>x.snd) (yq,(p:Int)))) (U vi b)))),bt (bw 251 [] [bz (cz rk),bz (cz b),bz (vi (p:Int))])] (db (List.any (W from_ (take p b)) fun x=>Y (e8 rk x>e8 rk y)))/\(db !List.any (W from_ (take p b)) fun x=>Y (e8 rk x>e8 rk y))=db (ky rk b from_ p y)) ⟨CT b,by show(0:Int)<=from_;omega,by show(from_:Int)<=p;omega,by rw[HP];show(p:Int)<=I b;omega,?_,rfl⟩
 have:=DO 251 [] [.ref (cz rk),.ref (cz b),.ref (vi p)] (fun x=>Y (e8 rk x>e8 rk y)) ((b.take p).drop from_) (by rw[IY,Iy];omega) (fun x hx=>XE rk b x y p (hbr x (Jr (II hx))) hy (hbr y (HW hy)))
 rw[List.map_drop,List.map_take] at this
 exact this
noncomputable abbrev qu:=Tryz.f183
noncomputable def Aan:=yj qu
def pL(rk b:List Int)(x:Int)(g:Nat->Bool)(f:Nat):Nat->Nat->Bool
 |0,_=>false
 |n+1,p=>(b[p]?==G x&&(ky rk b f p x&&g (p+1)))||pL rk b x g f n (p+1)
def pS(rk b:List Int):List Int->Nat->Bool
 |[],f=>(f:Int)==I b
 |x::a,f=>pL rk b x (pS rk b a) f (I b-f) f
theorem Aby{rk b:List Int}(hb:I b<=1000)(hbr:∀x∈b,0<=x/\x<I rk){x:Int}{a A:List Int}(hA:A=x::a)(ha:I a<=1000)(ih:∀f:Nat,f<=I b->∃l:List Int,I l<=I a/\F0 183 [cy rk,cy a,cy b,di f] (.tup [cy l,db (pS rk b a f)]))(f:Nat)(m:Nat):∀p:Nat,I b-p=m->f<=p->
  ∃l:List Int,I l<=I a+1/\Rn PP qu 0 (.tup [cy l,db (pL rk b x (pS rk b a) f m p)]) bf ([kl Aan [1,1,0,1,0,0],.blk 0,kc Aan [1,1,1]]++[]) (b9 58 [(0,cy rk),(1,cy A),(2,cy b),(3,di f),(10,di p)]) bf:=by
 induction m with
 |zero=>
  intro p hm hp
  refine⟨[],by simp,?_⟩
  rw[pL]
  exact lv 58 [] (.f .r) (Y ((p:Int)<(I (U vi b):Int))=O/\Q (bl [cy [],db O])) ⟨HU (by rw[HP];omega),rfl⟩
 |succ m ihm=>
  intro p hm hp
  obtain⟨y,hy⟩:=@yi _ b p (by omega)
  have hA0:(A.map vi)[Z 0]?=G (vi x):=by rw[hA];rfl
  have hA1:1<=(I (A.map vi):Int):=by rw[hA];simp only[HP,HV];omega
  have hAd:((A.map vi).take (I (A.map vi))).drop (Z (1:Int))=a.map vi:=by rw[List.take_length,hA];rfl
  have hlt:Y ((p:Int)<(I (b.map vi):Int))=J:=HS (by rw[HP];omega)
  have hbe:∀z:Int,(z !=z)=O:=fun z=>by simp
  have hw:yr yq ((p:Int)+1)=((p+1:Nat):Int):=by rw[A2];omega
  obtain⟨l2,h2l,h2⟩:=ihm (p+1) (by omega) (by omega)
  rw[pL]
  by_cases h1:y=x
  ·subst h1
   have hc:=XF rk b f p y hp hb hbr hy
   cases hcv:ky rk b f p y with
   |false=>
    rw[hcv] at hc
    refine⟨l2,h2l,?_⟩
    rw[hy,Iz,J3,Bool.false_or]
    exact lv 58 [] (.t<|.x (vi y)<|.x (vi y)<|.f<|.c (db O)<|.k<|.l [ke 0,ke 1,ke 2,ke 3,ch 10 (di (p+1:Nat))]) (_/\0<=(p:Int)/\(U vi b)[Z (p:Int)]?=G (vi y)/\iz 0<=0/\_/\(y !=y)=O/\_/\di (yr yq ((p:Int)+1))=di (↑(p+1):Int)/\_) ⟨hlt,by omega,A3 hy,Iv _,hA0,hbe y,hc,As,iK h2⟩
   |true=>
    rw[hcv] at hc
    obtain⟨l1,h1l,h3⟩:=ih (p+1) (by omega)
    cases hs:pS rk b a (p+1) with
    |false=>
     rw[hs] at h3
     refine⟨l2,h2l,?_⟩
     rw[hy,J3,J3,Bool.false_or]
     refine lv 58 [] (.t<|.x (vi y)<|.x (vi y)<|.f<|.c (db J)<|.k<|.c (.tup [cy l1,db O])<|.k<|.l [ke 0,ke 1,ke 2,ke 3,ch 10 (di (p+1:Nat))]) (_/\0<=(p:Int)/\(U vi b)[Z (p:Int)]?=G (vi y)/\iz 0<=0/\_/\(y !=y)=O/\_/\(∀(x:V),x∈U vi A->V.size x=1)/\0<=(1:Int)/\_/\F0 183 [cy rk,bt (ai (W (Z ((1:Int))) (take (I (U vi A)) (U vi A)))),cy b,di (yr yq ((p:Int)+1))] (bl [cy l1,db O])/\di (yr yq ((p:Int)+1))=di (↑(p+1):Int)/\_) ⟨hlt,by omega,A3 hy,Iv _,hA0,hbe y,hc,CT A,by decide,hA1,?_,As,iK h2⟩
     rw[hw,hAd];exact h3
    |true=>
     rw[hs] at h3
     refine⟨(p:Int)::l1,by simp;omega,?_⟩
     rw[hy,I2,beq_self_eq_true,I2,Bool.true_or]
     refine lv 58 [] (.t<|.x (vi y)<|.x (vi y)<|.f<|.c (db J)<|.k<|.c (.tup [cy l1,db J])<|.k<|.a 1<|.w<|.r) (_/\0<=(p:Int)/\(U vi b)[Z (p:Int)]?=G (vi y)/\iz 0<=0/\_/\(y !=y)=O/\_/\(∀(x:V),x∈U vi A->V.size x=1)/\0<=(1:Int)/\_/\F0 183 [cy rk,bt (ai (W (Z ((1:Int))) (take (I (U vi A)) (U vi A)))),cy b,di (yr yq ((p:Int)+1))] (bl [cy l1,db J])/\Q (vi (p:Int)::nV)/\A9 (I (aa yq (p:Int)::nV)+I (U vi l1)) 8/\(∀(y:V),y∈U vi l1->V.size y=1)/\Q (bl [cy ((p:Int)::l1),db J])) ⟨hlt,by omega,A3 hy,Iv _,hA0,hbe y,hc,CT A,by decide,hA1,?_,rfl,⟨?_,?_⟩,CT l1,rfl⟩
     ·rw[hw,hAd];exact h3
     ·simp only[HP,HV,HZ];omega
     ·simp only[HP,HV,HZ];omega
  ·refine⟨l2,h2l,?_⟩
   rw[hy,show(G y==G x)=O from I7.2 (by simpa using h1),Iz,Bool.false_or]
   exact lv 58 [] (.t<|.x (vi y)<|.x (vi x)<|.t<|.k<|.l [ke 0,ke 1,ke 2,ke 3,ch 10 (di (p+1:Nat))]) (_/\0<=(p:Int)/\(U vi b)[Z (p:Int)]?=G (vi y)/\iz 0<=0/\_/\(y !=x)=J/\di (yr yq ((p:Int)+1))=di (↑(p+1):Int)/\_) ⟨hlt,by omega,A3 hy,Iv _,hA0,by simpa using h1,As,iK h2⟩
theorem SI{rk b:List Int}(hb:I b<=1000)(hbr:∀x∈b,0<=x/\x<I rk):∀(a:List Int),I a<=1000->∀f:Nat,f<=I b->∃l:List Int,I l<=I a/\F0 183 [cy rk,cy a,cy b,di f] (.tup [cy l,db (pS rk b a f)])
 |[],_,f,hf=>by
  refine⟨[],HX _,?_⟩
  refine sv qu 58 [] (.k .r) (bl [bt (ai []),db ((f:Int)==(I (U vi b):Int))]=bl [cy [],db (pS rk b [] f)]) ?_
  rw[HP];rfl
 |x::a,ha,f,hf=>by
  have ha:I a+1<=1000:=ha
  obtain⟨A,hA⟩:∃A,A=x::a:=⟨_,rfl⟩
  obtain⟨l,hl,h⟩:=Aby hb hbr hA (by omega) (fun f hf=>SI hb hbr a (by omega) f hf) f _ f rfl (HX _)
  refine⟨l,hl,?_⟩
  have hAl:(I (A.map vi):Int)≠0:=by rw[hA];simp only[HP,HV];omega
  rw[pS, ←hA]
  exact sv qu 58 [] (.f<|.l [ke 0,ke 1,ke 2,ke 3,ch 10 (di f)]) (((I (U vi A):Int)==0)=O/\Q (di (f:Int))/\_) ⟨I7.2 hAl,rfl,iK h⟩
noncomputable abbrev Ami:=Tryz.f139
noncomputable abbrev Amh:=Tryz.f136
def FM(rk a b:List Int):Bool:=pS rk b a 0
theorem Ab3{rk a b:List Int}(hr:I rk<=1000)(ha:VX rk a=J)(hb:VX rk b=J):∃l:List Int,F0 139 [cy rk,cy a,cy b] (.tup [cy l,db (FM rk a b)]):=by
 have h1:=GK ha
 have h2:=GK hb
 have v1:=NX rk a hr (by omega)
 have v2:=NX rk b hr (by omega)
 rw[ha] at v1
 rw[hb] at v2
 obtain⟨l,_,h⟩:=SI (by omega) h2.2 a (by omega) 0 (by omega)
 refine⟨l,?_⟩
 exact sv Ami 24 [] (.c (db J)<|.k<|.c (db J)<|.k<|.c (.tup [cy l,db (FM rk a b)]) .r) (_/\_/\_/\Q (bl [cy l,db (FM rk a b)])) ⟨v1,v2,h,rfl⟩
theorem Ab2{rk a b:List Int}(hr:I rk<=1000)(ha:VX rk a=J)(hb:VX rk b=J):F0 136 [cy rk,cy a,cy b] (db (FM rk a b)):=by
 obtain⟨l,h⟩:=Ab3 hr ha hb
 exact sv Amh 17 [] (.c (.tup [cy l,db (FM rk a b)]) .r) (_/\Q (db (FM rk a b))) ⟨h,rfl⟩
theorem Acv{n:Int}{v:bd}(h:Cy n v=J):0<=v.n/\v.n<n:=by
 unfold Cy at h
 simp only[HR,Ia] at h
 omega
theorem Ad2(n:Int)(r:List Int)(hr:kj r=J)(hn:n=I r):i7 (.prio n r) (fun a b=>FM r (a.az.map bd.n) (b.az.map bd.n)):=fun a b ha hb=>by
 simp only[A0,HR,I4,ID,Ia] at ha hb
 have hrl:I r<=1000:=by
  unfold kj at hr
  simp only[HR,Ia] at hr
  omega
 have hv:∀v:bd,(I v.az:Int)<=12->(∀k∈v.az,Cy n k=J)->VX r (v.az.map bd.n)=J:=fun v h1 h2=>by
  unfold VX
  rw[hr,I2,HR,IJ]
  refine⟨HS (by rw[HP];omega),List.any_eq_false.2 fun x hx=>?_⟩
  obtain⟨k,hk,rfl⟩:=IA.1 hx
  have:=Acv (h2 k hk)
  simp;omega
 have h1:=SZ a.az (by omega)
 have h2:=SZ b.az (by omega)
 have h3:=Ab2 hrl (hv a ha.2.1 ha.2.2) (hv b hb.2.1 hb.2.2)
 exact sv lw 87 [3,4,5] (.k<|.k<|.k<|.k<|.k<|.k<|.c (cy (a.az.map bd.n))<|.c (cy (b.az.map bd.n))<|.c (db (FM r (a.az.map bd.n) (b.az.map bd.n))) .r) (_/\_/\_/\Q (db (FM r (U bd.n a.az) (U bd.n b.az)))) ⟨h1,h2,h3,rfl⟩
noncomputable abbrev Am2:=Tryz.f37
noncomputable abbrev Akl:=Tryz.f17
theorem Adx{t:bc}{q:bd->bd->Bool}(h:i7 t q)(a b:bd)(ha:A0 t a=J)(hb:A0 t b=J):F0 37 [dT t,dV a,dV b] (db (q a b)):=by
 exact sv Am2 11 [3,4,5] (.c (db (q a b)) .r) (_/\Q (db (q a b))) ⟨h a b ha hb,rfl⟩
theorem PD{m:ba}{t:bc}{q:bd->bd->Bool}(hT:F0 35 [Ax m] (.tup [dT t,di 0]))(ht:B4 8 t=J)(h:i7 t q)(a b:bd)(ha:Aw t a=J)(hb:Aw t b=J):F0 17 [Ax m,dV a,dV b] (.tup [db (q a b),di 0]):=by
 have ha':=ha
 have hb':=hb
 simp only[Aw,HR,Ia] at ha' hb'
 have v1:=PV t ht a (by omega)
 have v2:=PV t ht b (by omega)
 rw[ha] at v1
 rw[hb] at v2
 have h3:=Adx h a b ha'.2 hb'.2
 exact sv Akl 34 [3,4,5] (.c (.tup [dT t,di 0])<|.k<|.c (db J)<|.k<|.c (db J)<|.k<|.c (db (q a b)) .r) (_/\_/\_/\_/\Q (bl [db (q a b),di 0])) ⟨hT,v1,v2,h3,rfl⟩
noncomputable abbrev Ak1:=Tryz.f35
theorem Qk{m:ba}{t:bc}(h1:F0 52 [Ax m] (di 0))(h2:F0 53 [Ax m] (dT t)):F0 35 [Ax m] (.tup [dT t,di 0]):=by
 exact sv Ak1 13 [1] (.c (di 0)<|.k<|.c (dT t) .r) (_/\_/\Q (bl [dT t,di 0])) ⟨h1,h2,rfl⟩
def de(s:Int)(ws:List (List Int)):bd:=.mk 0 (lf s::ws.map dw)
structure iq(m:ba)(s:Int)(ws:List (List Int)):Prop where
 st:0<=s/\s<I m.aw
 len:I ws=I m.ay
 word:∀w∈ws,I w<=12/\∀x∈w,0<=x/\x<I m.ax
theorem Gv{n:Int}{v:bd}(h:Cy n v=J):v=lf v.n/\0<=v.n/\v.n<n:=by
 simp only[Cy,HR,Ia,I4] at h
 obtain⟨h1,h2,h3⟩:=h
 cases v with
 |mk a ks=>
  have h3:(I ks:Int)=0:=h3
  have:ks=[]:=Js (by omega)
  subst this
  exact⟨rfl,h1,h2⟩
theorem HD{n x:Int}(h:0<=x/\x<n):Cy n (lf x)=J:=by
 simp only[Cy,bd.n,bd.az,HR,Ia]
 exact⟨HS h.1,HS h.2,rfl⟩
theorem Qn{n:Int}:∀{ks:List bd},(ks.all fun k=>Cy n k)=J->∃w:List Int,ks=w.map lf/\∀x∈w,0<=x/\x<n
 |[],_=>⟨[],rfl,by simp⟩
 |k::ks,h=>by
  simp only[all_cons,HR] at h
  obtain⟨h1,h2,h3⟩:=Gv h.1
  obtain⟨w,e,hw⟩:=Qn h.2
  refine⟨k.n::w,?_,fun x hx=>?_⟩
  ·rw[Iu, ←h1, ←e]
  ·rcases I8.1 hx with rfl|hx
   ·exact⟨h2,h3⟩
   ·exact hw x hx
theorem AcP{m:ba}(hk:m.kind=2∨m.kind=3){v:bd}(h:A0 (BB m) v=J):∃w:List Int,v=dw w/\w.length<=12/\∀x∈w,0<=x/\x<I m.ax:=by
 have h2:v.n=0/\(I v.az:Int)<=12/\(v.az.all fun k=>Cy (I m.ax) k)=J:=by
  rcases hk with hk|hk
  ·rw[show BB m=.word (.lab (I m.ax)) by simp[BB,hk]] at h
   simp only[A0,HR,Ia,I4] at h
   exact⟨h.1,h.2.1,h.2.2⟩
  ·rw[show BB m=.prio (I m.ax) m.au by simp[BB,hk]] at h
   simp only[A0,HR,Ia,I4] at h
   exact⟨h.1,h.2.1,h.2.2⟩
 obtain⟨h1,h3,h4⟩:=h2
 obtain⟨w,e,hw⟩:=Qn h4
 cases v with
 |mk a ks=>
  simp only[bd.n,bd.az] at h1 h3 e
  subst h1;subst e
  exact⟨w,rfl,by rw[HP] at h3;omega,hw⟩
theorem AiX{m:ba}(hk:m.kind=2∨m.kind=3){w:List Int}(h1:I w<=12)(h2:∀x∈w,0<=x/\x<I m.ax):A0 (BB m) (dw w)=J:=by
 have h4:((w.map lf).all fun k=>Cy (I m.ax) k)=J:=ID.2 fun k hk=>by
  obtain⟨x,hx,rfl⟩:=IA.1 hk
  exact HD (h2 x hx)
 have h5:I (w.map lf)=I w:=HP _
 rcases hk with hk|hk
 ·rw[show BB m=.word (.lab (I m.ax)) by simp[BB,hk]]
  simp only[A0,bd.n,bd.az,HR,Ia,I4]
  exact⟨trivial,HS (by have:=h5;omega),h4⟩
 ·rw[show BB m=.prio (I m.ax) m.au by simp[BB,hk]]
  simp only[A0,bd.n,bd.az,HR,Ia,I4]
  exact⟨trivial,HS (by have:=h5;omega),h4⟩
theorem Q4{m:ba}(hk:m.kind=2∨m.kind=3):∀(n:Nat) (vs:List bd),I vs=n->B1 (replicate n (BB m)) vs=J->∃ws:List (List Int),vs=ws.map dw/\∀w∈ws,I w<=12/\∀x∈w,0<=x/\x<I m.ax
 |0,vs,hl,_=>⟨[],by simpa using hl,by simp⟩
 |n+1,[],hl,_=>by simp at hl
 |n+1,v::vs,hl,h=>by
  simp only[IL,B1,HR] at h
  obtain⟨w,e,h1,h2⟩:=AcP hk h.1
  obtain⟨ws,e2,h3⟩:=Q4 hk n vs (by simpa using hl) h.2
  refine⟨w::ws,by rw[Iu, ←e, ←e2],fun x hx=>?_⟩
  rcases I8.1 hx with rfl|hx
  ·exact⟨h1,h2⟩
  ·exact h3 x hx
theorem YX{m:ba}(hk:m.kind=2∨m.kind=3):∀(ws:List (List Int)),(∀w∈ws,I w<=12/\∀x∈w,0<=x/\x<I m.ax)->B1 (replicate (I ws) (BB m)) (ws.map dw)=J
 |[],_=>rfl
 |w::ws,h=>by
  simp only[HV,IL,Iu,B1,HR]
  exact⟨AiX hk (h w (by simp)).1 (h w (by simp)).2,YX hk ws fun x hx=>h x (by simp[hx])⟩
theorem Aax(w:List Int):(dw w).size=1+I w:=by rw[bd.size,JA]
theorem Sk:∀(ws:List (List Int)),(∀w∈ws,I w<=12)->bd.sizes (ws.map dw)<=13*I ws
 |[],_=>HX _
 |w::ws,h=>by
  have h1:=h w (by simp)
  have h2:=Sk ws fun z hz=>h z (by simp[hz])
  have h3:=Aax w
  rw[Iu,bd.sizes,HV];omega
theorem KA{m:ba}(hk:m.kind=2∨m.kind=3){c:bd}(h:Aw (AJ m) c=J):∃s ws,c=de s ws/\iq m s ws:=by
 simp only[Aw,AJ,A0,HR,Ia,I4] at h
 obtain⟨_,h2,h3,h4⟩:=h
 cases c with
 |mk a ks=>
  simp only[bd.n,bd.az] at h2 h3 h4
  subst h2
  cases ks with
  |nil=>simp at h3;omega
  |cons k ks=>
   simp only[B1,HR] at h4
   simp only[HV,List.length_replicate] at h3
   obtain⟨l1,l2⟩:=Gv (by simpa[A0] using h4.1)
   obtain⟨ws,e,hw⟩:=Q4 hk (I m.ay) ks (by omega) h4.2
   refine⟨k.n,ws,by rw[de, ←l1, ←e],l2,?_,hw⟩
   have:=Iq I e
   rw[HP] at this;omega
theorem Pd{m:ba}(hk:m.kind=2∨m.kind=3)(hp:I m.ay<=2){s:Int}{ws:List (List Int)}(h:iq m s ws):Aw (AJ m) (de s ws)=J:=by
 have hz:=Sk ws fun w hw=>(h.word w hw).1
 have hl:=h.len
 have h4:=YX hk ws h.word
 rw[hl] at h4
 simp only[Aw,AJ,A0,de,bd.n,bd.az,HR,Ia,I4,B1]
 refine⟨?_,trivial,?_,HD h.st,h4⟩
 ·have e:(bd.mk 0 (lf s::ws.map dw)).size=1+(1+bd.sizes (ws.map dw)):=by simp only[bd.size,bd.sizes]
  exact yp
 ·simp[hl]
theorem O6(w:List Int):BA (dw w)=w:=Tq w
theorem G5(s:Int)(ws:List (List Int)):(de s ws).az.getD 0 dt=lf s:=rfl
theorem Mz{s:Int}{ws:List (List Int)}{k:Nat}{w:List Int}(h:ws[k]?=G w):(de s ws).az.getD (1+k) dt=dw w:=by
 rw[show 1+k=k+1 by omega,HY]
 show((lf s::ws.map dw)[k+1]?).getD dt=dw w
 rw[J8,I9,h];rfl
theorem G4{s:Int}{ws:List (List Int)}{k:Nat}{w:List Int}(h:ws[k]?=G w)(s':Int)(w':List Int):HM (de s ws) k s' w'=de s' (ws.set k w'):=by
 rw[HM,G5,Mz h,de,BT]
 show bd.mk 0 (((lf s::ws.map dw).set 0 (.mk s' [])).set (1+k) (.mk 0 (w'.map lf)))=_
 rw[List.set_cons_zero,show 1+k=k+1 by omega,Jv,de,List.map_set]
theorem QF{m:ba}(hk:m.kind=2∨m.kind=3)(hp:I m.ay<=2){s:Int}{ws:List (List Int)}(h:iq m s ws){r:cq}{k:Nat}(hrk:r.chan=k){w:List Int}(hw:ws[k]?=G w):
  QS (AJ m) r (de s ws)=if ((s==r.aj)&&((r.act !=2)||w.head?==G r.letter))=J then
   if (r.act==1)=J then(if ((I w:Int)==12)=J then(dt,1) else(de r.to (ws.set k (w++[r.letter])),0))
   else if (r.act==2)=J then(de r.to (ws.set k (w.drop 1)),0) else(de r.to (ws.set k w),0)
  else(dt,18):=by
 have ek:r.chan.toNat=k:=by rw[hrk];rfl
 unfold QS sx
 rw[Io (Pd hk hp h),ek,G5,Mz hw,O6]
 simp only[G4 hw]
 rfl
theorem Tw{m:ba}{s:Int}{ws:List (List Int)}(hl:I ws=I m.ay):∀K:Nat,K<=I ws->∀v,v∈fk m (de s ws) K↔∃k w w',k<K/\ws[k]?=G w/\w'∈GY m w/\v=de s (ws.set k w'):=by
 intro K hK v
 simp only[fk,List.mem_flatMap,List.mem_range,IA]
 constructor
 ·rintro ⟨k,hk,w',h1,rfl⟩
  obtain⟨w,hw⟩:=yi (show k<I ws by omega)
  rw[Mz hw,O6] at h1
  exact⟨k,w,w',hk,hw,h1,by rw[gd,G5,G4 hw];rfl⟩
 ·rintro ⟨k,w,w',hk,hw,h1,rfl⟩
  refine⟨k,hk,w',?_,?_⟩
  ·rw[Mz hw,O6];exact h1
  ·rw[gd,G5,G4 hw];rfl
theorem Z0{s s':Int}{ws ws':List (List Int)}(h:de s ws=de s' ws'):s=s'/\ws=ws':=by
 simp only[de,bd.mk.injEq,Ie,true_and] at h
 refine⟨by have:=h.1;simpa using this,?_⟩
 exact(List.map_inj_right fun a b e=>Rb e).1 h.2
theorem FD{m:ba}{w w':List Int}(h:w'∈GY m w):I w'+1=I w/\∀x∈w',x∈w:=by
 have hd:∀i,i<I w->I (gj w i)+1=I w/\∀x∈gj w i,x∈w:=fun i hi=>by
  refine⟨by rw[gj,Ig,Iy,IY];omega,fun x hx=>?_⟩
  rcases IE.1 hx with hx|hx
  ·exact Jr hx
  ·exact II hx
 unfold GY at h
 split at h
 ·unfold Gf at h
  split at h
  ·obtain⟨i,hi,rfl⟩:=IA.1 (((DZ _).2 w').1 h)
   have:=List.mem_range.1 (List.mem_filter.1 hi).1
   exact hd i (by omega)
  ·simp at h
 ·unfold Ft at h
  split at h
  ·obtain⟨i,hi,rfl⟩:=IA.1 (((DZ _).2 w').1 h)
   exact hd i (List.mem_range.1 hi)
  ·simp at h
theorem VK(m:ba)(w:List Int):(GY m w).Nodup:=by
 unfold GY Gf Ft
 split
 ·split
  ·exact JN OX (DZ _).1
  ·exact .nil
 ·split
  ·exact JN OX (DZ _).1
  ·exact .nil
theorem Y7{m:ba}{s:Int}{ws:List (List Int)}(hl:I ws=I m.ay):∀K:Nat,K<=I ws->(fk m (de s ws) K).Nodup:=by
 intro K
 induction K with
 |zero=>intro _;exact .nil
 |succ K ih=>
  intro hK
  obtain⟨w,hw⟩:=yi (show K<I ws by omega)
  rw[OG,Mz hw,O6]
  refine List.nodup_append.2 ⟨ih (by omega),?_,fun a ha b hb e=>?_⟩
  ·refine(List.pairwise_map.2 ((VK m w).imp fun{a b} hab e=>hab ?_))
   rw[gd,gd,G5,G4 hw,G4 hw] at e
   have:=Iq (fun l=>l[K]?) (Z0 e).2
   simp only[List.getElem?_set_self (show K<I ws by omega)] at this
   exact Is this
  ·obtain⟨k,u,u',hk,hu,h1,rfl⟩:=(Tw hl K (by omega) a).1 ha
   obtain⟨w',h2,rfl⟩:=IA.1 hb
   rw[gd,G5,G4 hw] at e
   have:=Iq (fun l=>l[k]?) (Z0 e).2
   simp only[List.getElem?_set_self (show k<I ws by omega)] at this
   rw[List.getElem?_set_ne (by omega),hu] at this
   have h3:=(FD h1).1
   rw[Is this] at h3
   omega
theorem S3(l:List bd):(sortV l).Pairwise fun a b=>AB a b<=0:=(KG l).imp fun{a b} h=>Ib h
theorem OD{m:ba}{s:Int}{ws:List (List Int)}(hl:I ws=I m.ay):gg AB (sortV (fk m (de s ws) (I m.ay)))/\∀v,v∈sortV (fk m (de s ws) (I m.ay))↔∃k w w',ws[k]?=G w/\w'∈GY m w/\v=de s (ws.set k w'):=by
 have hn:=Y7 (s:=s) hl (I m.ay) (by omega)
 refine⟨ZC BD (S3 _) ((AN _).nodup_iff.2 hn),fun v=>?_⟩
 rw[(AN _).mem_iff,Tw hl _ (by omega)]
 constructor
 ·rintro ⟨k,w,w',_,h⟩;exact⟨k,w,w',h⟩
 ·rintro ⟨k,w,w',h⟩
  have:=(HT.1 h.1).1
  exact⟨k,w,w',by omega,h⟩
theorem iq.set{m:ba}{s:Int}{ws:List (List Int)}(h:iq m s ws){s':Int}(hs:0<=s'/\s'<I m.aw)(k:Nat){w:List Int}(h1:I w<=12)(h2:∀x∈w,0<=x/\x<I m.ax):iq m s' (ws.set k w):=
 ⟨hs,by rw[List.length_set];exact h.len,fun u hu=>by
  rcases IX hu with hu|rfl
  ·exact h.word u hu
  ·exact⟨h1,h2⟩⟩
structure l9(m:ba)(r:cq):Prop where
 to:0<=r.to/\r.to<I m.aw
 chan:0<=r.chan/\r.chan<I m.ay
 letter:r.act=1->0<=r.letter/\r.letter<I m.ax
theorem Ago{m:ba}(hk:m.kind=2∨m.kind=3)(hp:I m.ay<=2){s:Int}{ws:List (List Int)}(h:iq m s ws){r:cq}(hr:l9 m r):
  ((QS (AJ m) r (de s ws)).2=0/\∃s' ws',(QS (AJ m) r (de s ws)).1=de s' ws'/\iq m s' ws')∨(QS (AJ m) r (de s ws)).2=1∨(QS (AJ m) r (de s ws)).2=18:=by
 obtain⟨k,hrk⟩:∃k:Nat,r.chan=k:=⟨r.chan.toNat,by have:=hr.chan;omega⟩
 obtain⟨w,hw⟩:∃w,ws[k]?=G w:=⟨_,HQ (by have:=hr.chan;rw[h.len];omega)⟩
 have hww:=h.word w (HW hw)
 rw[QF hk hp h hrk hw]
 split
 ·split
  ·rename_i h1
   split
   ·exact .inr (.inl rfl)
   ·rename_i h2
    have h2:¬(I w:Int)=12:=by simpa using h2
    refine .inl ⟨rfl,_,_,rfl,h.set hr.to k (by rw[Ig];simp only[HV,HZ];omega) fun x hx=>?_⟩
    rcases IE.1 hx with hx|hx
    ·exact hww.2 x hx
    ·rw[Ii.1 hx];exact hr.letter (by simpa using h1)
  ·split
   ·exact .inl ⟨rfl,_,_,rfl,h.set hr.to k (by rw[IY];omega) fun x hx=>hww.2 x (II hx)⟩
   ·exact .inl ⟨rfl,_,_,rfl,h.set hr.to k hww.1 hww.2⟩
 ·exact .inr (.inr rfl)
theorem xm{m:ba}{s:Int}{ws:List (List Int)}(h:iq m s ws){v:bd}(hv:v∈sortV (fk m (de s ws) (I m.ay))):∃ws',v=de s ws'/\iq m s ws':=by
 obtain⟨k,w,w',hw,h1,rfl⟩:=((OD h.len).2 v).1 hv
 have hww:=h.word w (HW hw)
 obtain⟨d1,d2⟩:=FD h1
 exact⟨_,rfl,h.set h.st k (by omega) fun x hx=>hww.2 x (d2 x hx)⟩
theorem QN{m:ba}(hk:m.kind=2∨m.kind=3)(hp:I m.ay<=2)(hr:∀r∈m.av,l9 m r){c:bd}(hc:Aw (AJ m) c=J)(i:Int):((fj m (AJ m) c i).2=0∨(fj m (AJ m) c i).2=1)/\∀v∈ (fj m (AJ m) c i).1,Aw (AJ m) v=J:=by
 obtain⟨s,ws,rfl,h⟩:=KA hk hc
 unfold fj
 split
 ·refine⟨.inl rfl,fun v hv=>?_⟩
  obtain⟨ws',rfl,h'⟩:=xm h hv
  exact Pd hk hp h'
 ·split
  ·rename_i r hri
   rcases Ago hk hp h (hr r (HW hri)) with⟨h1,s',ws',h2,h3⟩|h1|h1
   ·have:Cx (QS (AJ m) r (de s ws))=([de s' ws'],0):=by
     rw[Cx,Ij (by rw[h1];decide),Ij (by rw[h1];decide),h2]
    rw[this]
    exact⟨.inl rfl,fun v hv=>by rw[Ii.1 hv];exact Pd hk hp h3⟩
   ·have:Cx (QS (AJ m) r (de s ws))=([],1):=by rw[Cx,Ij (by rw[h1];decide),Io (by rw[h1];decide),h1]
    rw[this];exact⟨.inr rfl,by simp⟩
   ·have:Cx (QS (AJ m) r (de s ws))=([],0):=by rw[Cx,Io (by rw[h1];decide)]
    rw[this];exact⟨.inl rfl,by simp⟩
  ·exact⟨.inl rfl,by simp⟩
def f7(s:Int)(ps:List (Int×Int)):bd:=.mk 0 [lf s,.mk 0 (ps.map pV)]
def Rz(l:List (Int×Int)):List (Int×Int):=l.mergeSort fun a b=>Y (AB (pV a) (pV b)<=0)
theorem Kq(l:List (Int×Int)):(Rz l).Perm l:=List.mergeSort_perm l _
theorem SJ(l:List (Int×Int)):((Rz l).map pV).Pairwise fun a b=>AB a b<=0:=
 List.pairwise_map.2 ((List.pairwise_mergeSort (le:=fun a b=>Y (AB (pV a) (pV b)<=0)) (fun a b c h1 h2=>HS (Ez (Ib h1) (Ib h2))) (fun a b=>by rcases JH (pV a) (pV b) with h|h<;>simp[h]) l).imp fun{a b} h=>Ib h)
theorem Abb(l:List (Int×Int)):sortV (l.map pV)=(Rz l).map pV:=
 (NQ ((Kq l).map pV) ((SJ l).imp fun{a b} h=>HS h)).symm
theorem Agr(s:Int)(l:List (Int×Int)):DY s l=f7 s (Rz l):=by rw[DY,Abb];rfl
structure pn(m:ba)(s:Int)(ps:List (Int×Int)):Prop where
 st:0<=s/\s<I m.aw
 len:I ps<=12
 tok:∀p∈ps,(0<=p.1/\p.1<I m.ay)/\0<=p.2/\p.2<m.age+2
 srt:(ps.map pV).Pairwise fun a b=>AB a b<=0
theorem Sy{ks:List bd}(h:(I ks:Int)=2):∃x y,ks=[x,y]:=by
 match ks,h with
 |[x,y],_=>exact⟨x,y,rfl⟩
abbrev m9(m:ba):bc:=.prod [.lab (I m.ay),.lab (m.age+2)]
theorem AaD{m:ba}{v:bd}(h:A0 (m9 m) v=J):∃p:Int×Int,v=pV p/\(0<=p.1/\p.1<I m.ay)/\0<=p.2/\p.2<m.age+2:=by
 simp only[A0,HR,I4] at h
 obtain⟨h1,h2,h3⟩:=h
 cases v with
 |mk a ks=>
  have h1:a=0:=h1
  have h2:(I ks:Int)=2:=h2
  have h3:B1 [.lab (I m.ay),.lab (m.age+2)] ks=J:=h3
  subst h1
  obtain⟨x,y,rfl⟩:=Sy h2
  ·have h3:=Ik.1 h3
   have h4:=Ik.1 h3.2
   obtain⟨x1,x2⟩:=Gv (by simpa[A0] using h3.1)
   obtain⟨y1,y2⟩:=Gv (by simpa[A0] using h4.1)
   exact⟨(x.n,y.n),by show _=bd.mk 0 [lf x.n,lf y.n];rw[←x1, ←y1],x2,y2⟩
theorem Ahp{m:ba}{p:Int×Int}(h:(0<=p.1/\p.1<I m.ay)/\0<=p.2/\p.2<m.age+2):A0 (m9 m) (pV p)=J:=by
 rw[A0]
 exact Ik.2 ⟨rfl,Ik.2 ⟨rfl,Ik.2 ⟨by rw[A0];exact HD h.1,Ik.2 ⟨by rw[A0];exact HD h.2,rfl⟩⟩⟩⟩
theorem P6{m:ba}:∀{ks:List bd},(ks.all fun k=>A0 (m9 m) k)=J->∃ps:List (Int×Int),ks=ps.map pV/\∀p∈ps,(0<=p.1/\p.1<I m.ay)/\0<=p.2/\p.2<m.age+2
 |[],_=>⟨[],rfl,by simp⟩
 |k::ks,h=>by
  simp only[all_cons,HR] at h
  obtain⟨p,e,hp⟩:=AaD h.1
  obtain⟨ps,e2,hps⟩:=P6 h.2
  refine⟨p::ps,by rw[Iu, ←e, ←e2],fun x hx=>?_⟩
  rcases I8.1 hx with rfl|hx
  ·exact hp
  ·exact hps x hx
theorem WL{m:ba}{c:bd}(h:Aw (Cq m) c=J):∃s ps,c=f7 s ps/\pn m s ps:=by
 simp only[Aw,Cq,A0,HR,Ia,I4] at h
 obtain⟨_,h2,h3,h4⟩:=h
 cases c with
 |mk a ks=>
  have h2:a=0:=h2
  have h3:(I ks:Int)=2:=h3
  have h4:B1 [.lab (I m.aw),.bag (m9 m)] ks=J:=h4
  subst h2
  obtain⟨x,y,rfl⟩:=Sy h3
  ·have h4:=Ik.1 h4
   obtain⟨x1,x2⟩:=Gv (by simpa[A0] using h4.1)
   have hy:=(Ik.1 h4.2).1
   rw[A0] at hy
   simp only[HR,Ia,I4] at hy
   obtain⟨⟨y1,y2,y3⟩,y4⟩:=hy
   obtain⟨ps,e,hps⟩:=P6 y3
   cases y with
   |mk b vs=>
    have y1:b=0:=y1
    have y2:(I vs:Int)<=12:=y2
    have e:vs=ps.map pV:=e
    have y4:Xg vs=J:=y4
    subst y1;subst e
    refine⟨x.n,ps,by rw[f7, ←x1],x2,by have hl:I (ps.map pV)=I ps:=HP _;have y2:(I (ps.map pV):Int)<=12:=y2;omega,hps,(NN _).1 y4⟩
theorem AaE{m:ba}{s:Int}{ps:List (Int×Int)}(h:pn m s ps):Aw (Cq m) (f7 s ps)=J:=by
 have hz:=WX ps
 have hl:=h.len
 have ha:((ps.map pV).all fun k=>A0 (m9 m) k)=J:=ID.2 fun k hk=>by
  obtain⟨p,hp,rfl⟩:=IA.1 hk
  exact Ahp (h.tok p hp)
 have e:(f7 s ps).size=1+(1+(1+bd.sizes (ps.map pV)+0)):=by simp only[f7,bd.size,bd.sizes]
 have hb:A0 (.bag (m9 m)) (.mk 0 (ps.map pV))=J:=by
  rw[A0]
  simp only[HR]
  have hlm:I (ps.map pV)=I ps:=HP _
  exact⟨⟨rfl,HS (by show(I (ps.map pV):Int)<=12;omega),ha⟩,(NN _).2 h.srt⟩
 rw[Aw,yp,I2,Cq,A0]
 exact Ik.2 ⟨rfl,Ik.2 ⟨rfl,Ik.2 ⟨by rw[A0];exact HD h.st,Ik.2 ⟨hb,rfl⟩⟩⟩⟩
theorem Afn(ps:List (Int×Int)):GL (.mk 0 (ps.map pV))=ps:=by
 show(ps.map pV).map _=ps
 rw[List.map_map]
 exact(List.map_congr_left fun p _=>rfl).trans (List.map_id ps)
theorem AeT(s:Int)(ps:List (Int×Int)):(f7 s ps).az.getD 0 dt=lf s:=rfl
theorem AeS(s:Int)(ps:List (Int×Int)):(f7 s ps).az.getD 1 dt=.mk 0 (ps.map pV):=rfl
theorem WR{m:ba}(ha:0<=m.age/\m.age<=1000){s:Int}{ps:List (Int×Int)}(h:pn m s ps):lu m (f7 s ps)=f7 s (Rz (fd m ps))/\pn m s (Rz (fd m ps)):=by
 have e:lu m (f7 s ps)=f7 s (Rz (fd m ps)):=by rw[lu,AeT,AeS,Afn,Agr];rfl
 refine⟨e,h.st,?_,fun p hp=>?_,SJ _⟩
 ·rw[(Kq _).length_eq,fd,HP];exact h.len
 ·have hp:=(Kq _).mem_iff.1 hp
  obtain⟨q,hq,rfl⟩:=IA.1 hp
  have:=h.tok q hq
  refine⟨this.1,?_⟩
  show 0<=Gg m q.2/\Gg m q.2<m.age+2
  unfold Gg
  rw[A2,A2]
  split<;>omega
theorem AeU{m:ba}{s:Int}{ps:List (Int×Int)}{r:cq}:((Rl (Cq m) r (f7 s ps)).2=0∨(Rl (Cq m) r (f7 s ps)).2=1∨(Rl (Cq m) r (f7 s ps)).2=17)/\∀v∈ (Rl (Cq m) r (f7 s ps)).1,Aw (Cq m) v=J:=by
 unfold Rl jv
 split
 ·split
  ·split
   ·rename_i ha
    exact⟨.inl rfl,fun v hv=>ID.1 ha v (Hq hv)⟩
   ·exact⟨.inr (.inl rfl),by simp⟩
  ·exact⟨.inl rfl,by simp⟩
 ·exact⟨.inr (.inr rfl),by simp⟩
theorem VU{m:ba}(ha:0<=m.age/\m.age<=1000){c:bd}(hc:Aw (Cq m) c=J)(i:Int):((ZJ m (Cq m) c i).2=0∨(ZJ m (Cq m) c i).2=1)/\∀v∈ (ZJ m (Cq m) c i).1,Aw (Cq m) v=J:=by
 obtain⟨s,ps,rfl,h⟩:=WL hc
 unfold ZJ
 split
 ·obtain⟨e,h2⟩:=WR ha h
  exact⟨.inl rfl,fun v hv=>by rw[Ii.1 hv,e];exact AaE h2⟩
 ·split
  ·rename_i r hr
   obtain⟨h1,h2⟩:=AeU (m:=m) (s:=s) (ps:=ps) (r:=r)
   refine⟨?_,h2⟩
   rcases h1 with h1|h1|h1
   ·exact .inl h1
   ·exact .inr h1
   ·exfalso
    unfold Rl at h1
    rw[Io hc] at h1
    split at h1
    ·unfold jv at h1;split at h1<;>simp at h1
    ·simp at h1
  ·exact⟨.inl rfl,by simp⟩
theorem To:∀{ks:List bd},(∀k∈ks,k.az=[])->ks=(ks.map bd.n).map fun x=>bd.mk x []
 |[],_=>rfl
 |k::ks,h=>by
  have h1:=h k (by simp)
  rw[Iu,Iu, ←To fun x hx=>h x (by simp[hx])]
  cases k with|mk n l=>simp only[bd.az] at h1;subst h1;rfl
theorem Qi:∀(n:Nat) (vs:List bd),I vs=n->B1 (replicate n .nat) vs=J->∀v∈vs,(0<=v.n/\v.n<=1048576)/\v.az=[]
 |0,[],_,_,v,hv=>by simp at hv
 |n+1,[],hl,_,_,_=>by simp at hl
 |0,_::_,hl,_,_,_=>by simp at hl
 |n+1,x::vs,hl,h,v,hv=>by
  rw[IL] at h
  simp only[B1,HR] at h
  rcases I8.1 hv with rfl|hv
  ·have h1:=h.1
   simp only[A0,HR,Ia,I4] at h1
   exact⟨⟨h1.1,h1.2.1⟩,List.length_eq_zero_iff.1 (by omega)⟩
  ·exact Qi n vs (by simpa using hl) h.2 v hv
theorem RT{m:ba}(hk:m.kind=1){c:bd}(h:Aw (AJ m) c=J):C7 m c:=by
 have hn:c.n=0:=by
  simp only[Aw,AJ,A0,HR,I4] at h
  exact h.2.1
 rw[AJ,show BB m=.nat by simp[BB,hk]] at h
 obtain⟨_,h2,h3⟩:=Ev h
 cases c with
 |mk n ks=>
  simp only[bd.n] at hn
  subst hn
  simp only[bd.az] at h2 h3
  cases ks with
  |nil=>simp at h2
  |cons x vs=>
   simp only[B1,HR] at h3
   have hl:I vs=I m.ay:=by simpa using h2
   have hx:=Gv (show Cy (I m.aw) x=J by simpa only[A0] using h3.1)
   have hv:=Qi _ vs hl h3.2
   have e:bd.mk 0 (x::vs)=EP x.n (vs.map bd.n):=by
    rw[EP]
    congr 1
    have:=To (ks:=vs) fun k hk=>(hv k hk).2
    rw[←this]
    congr 1
    exact hx.1
   rw[e]
   exact tq m x.n ⟨hx.2.1,hx.2.2⟩ _ (by rw[HP,hl]) fun y hy=>by
    obtain⟨v,hv1,rfl⟩:=IA.1 hy
    exact(hv v hv1).1
noncomputable abbrev w0:=Tryz.f117
theorem AcB(l:List Int)(hl:I l<=3)(b:Int)(h:∀x∈l,0<=x/\x<=b):F0 117 [cy l,di 3,di b] (db J):=by
 have:=F7 l (by omega) (I l) 0 b rfl (fun x hx=>by simp[A6,h x hx])
 exact sv w0 18 [] (.t<|.c (db J) .r) (Y ((I (U vi l):Int)<=3)=J/\F0 116 [cy l,di (I (U vi l):Int),di 0,di b] (db J)/\Q (db J)) ⟨HS (by rw[HP];omega),by rw[HP];exact this,rfl⟩
noncomputable abbrev YM:=Tryz.f118
theorem t6(m:ba)(hk:m.kind=5)(hag:0<=m.age/\m.age<=1000):F0 33 [Ax m] (dT (Cq m)):=by
 obtain⟨kind,aw,ay,ax,au,ao,age,av,start⟩:=m
 dsimp only at*
 subst hk
 refine sv Wa 96 [1] (.a 1<|.h .g .r) (Q (ab (vi 2::vi (I (U ae (ba.mk 5 aw ay ax au ao age av start).aw):Int)::ai nV::ai nV::nV)::nV)/\A9 2 64/\bt (ab [vi 3,vi 0,ai [],ai [ab [vi 2,vi (I (U ae (ba.mk 5 aw ay ax au ao age av start).aw):Int),ai [],ai []],ab [vi 5,vi 0,ai [],ai [ab [vi 3,vi 0,ai [],ai [ab [vi 2,vi (I (U ae (ba.mk 5 aw ay ax au ao age av start).ay):Int),ai [],ai []],ab [vi 2,vi (yr yq ((ba.mk 5 aw ay ax au ao age av start).age+2)),ai [],ai []]]]]]]])=dT (Cq (ba.mk 5 aw ay ax au ao age av start))) ⟨rfl,⟨by decide,by decide⟩,?_⟩
 show bt (ab [vi 3,vi 0,ai [],ai [ab [vi 2,vi (I (aw.map ae):Int),ai [],ai []],ab [vi 5,vi 0,ai [],ai [ab [vi 3,vi 0,ai [],ai [ab [vi 2,vi (I (ay.map ae):Int),ai [],ai []],ab [vi 2,vi (yr yq (age+2)),ai [],ai []]]]]]]])=_
 rw[HP,HP,A2 (n:=age+2)]
 show _=bt (vT (.prod [.lab (I aw),.bag (.prod [.lab (I ay),.lab (age+2)])]))
 rfl
theorem Aay(d:Nat)(t:bc)(hd:d<=100)(h:F0 120 [dT t,di d] (db J)):F0 120 [dT (.bag t),di ((d+1:Nat):Int)] (db J):=by
 rw[dT,Sr]
 refine sv MB 132 [2] (.f<|.x (vT t)<|.c (db J) .r) (((↑(d+1):Int)==0)=O/\iz 0<=0/\Q (G (vT t))/\F0 120 [bt (vT t),di (yr yq ((↑(d+1):Int)-1))] (db J)/\Q (db J)) ?_
 have hz:(((d+1:Nat):Int)==0)=O:=I7.2 (by omega)
 rw[show yq.wrap (((d+1:Nat):Int)-1)=d by rw[A2];omega]
 exact⟨hz,by decide,rfl,h,rfl⟩
def lr(t:bc)(l:List bd):Nat->Nat->Bool
 |0,_=>true
 |n+1,k=>(A0 t (l.getD k default)&& !(Y (k>0)&&Y (AB (l.getD (k-1) default) (l.getD k default)>0)))&&lr t l n (k+1)
theorem Vl(t:bc)(v:bd)(hv:I v.az<=12)(hz:v.size<=1000000)(h:∀k∈v.az,F0 61 [dT t,dV k] (db (A0 t k)))(n:Nat):∀k:Nat,I v.az-k=n->
  Rn PP DT 0 (db (lr t v.az n k)) bf ([kl C6 [1,1,1,0,1,0,0],.blk 3,kc C6 [1,1,1,1]]++[]) (b9 169 [(2,.v (.ref (il 5 0 [] [vT t]))),(3,.v (.ref (Au v))),(6,di k)]) bf:=by
 induction n with
 |zero=>
  intro k hn
  exact lv 169 [2,3] (.f .r) (Y ((k:Int)<(I (U eV v.az):Int))=O/\Q (db J)) ⟨HU (by rw[HP];omega),rfl⟩
 |succ n ih=>
  intro k hn
  obtain⟨x,hx⟩:∃r,v.az[k]?=G r:=⟨_,HQ (by omega)⟩
  have hlt:Y ((k:Int)<(I (v.az.map eV):Int))=J:=HS (by rw[HP];omega)
  have hxd:v.az.getD k default=x:=by rw[HY,hx];rfl
  have ho:=h x (HW hx)
  rw[lr,hxd]
  have hih:=ih (k+1) (by omega)
  generalize lr t v.az n (k+1)=b at*
  cases hb:A0 t x with
  |false=>
   rw[hb] at ho
   exact lv 169 [2,3] (.t<|.x (vT t)<|.x (Au x)<|.c (db O)<|.k<|.k .r) (_/\iz 0<=0/\Q (G (vT t))/\0<=(k:Int)/\(U eV v.az)[Z (k:Int)]?=G (Au x)/\_/\db O=db (false&& !(Y (k>0)&&Y (AB (List.getD v.az (k-1) default) x>0))&&b)) ⟨hlt,by decide,rfl,by omega,A1 hx,ho,by rw[Iz,Iz]⟩
  |true=>
   rw[hb] at ho
   cases k with
   |zero=>
    exact lv 169 [2,3] (.t<|.x (vT t)<|.x (Au x)<|.c (db J)<|.k<|.k<|.k<|.l [ke 2,ke 3,ch 6 (di ((0:Nat)+1:Nat))]) (_/\iz 0<=0/\Q (G (vT t))/\0<=(↑0:Int)/\(U eV v.az)[Z (↑0:Int)]?=G (Au x)/\_/\Q (di (↑(0+1):Int))/\I0 DT 0 (db (true&& !(Y (0>0)&&Y (AB (List.getD v.az (0-1) default) x>0))&&b)) bf [kl C6 [1,1,1,0,1,0,0],bh 3,kc C6 [1,1,1,1]] (b9 169 [(2,bt (bz (il 5 0 [] [vT t]))),(3,bt (bz (Au v))),(6,di (↑(0+1):Int))]) (bi [] [])) ⟨hlt,by decide,rfl,by omega,A1 hx,ho,rfl,⟨by simpa using hih⟩⟩
   |succ k=>
    obtain⟨y,hy⟩:∃r,v.az[k]?=G r:=⟨_,HQ (by omega)⟩
    have hyd:v.az.getD k default=y:=by rw[HY,hy];rfl
    rw[show k+1-1=k by omega,hyd]
    have hyz:=bd.size_mem (HW hy)
    have hvz:=bd.size_eq v
    have hcm:=GX _ y x (HX _) (by omega)
    have hw1:yr yq (((k+1:Nat):Int)-1)=(k:Int):=by rw[A2];omega
    have hg:Y (((k+1:Nat):Int)>0)=J:=yp
    by_cases hc:AB y x>0
    ·refine lv 169 [2,3] (.t<|.x (vT t)<|.x (Au x)<|.c (db J)<|.k<|.k<|.t<|.x (Au y)<|.x (Au x)<|.c (di (AB y x))<|.t .r) (Y ((↑(k+1):Int)<(I (U eV v.az):Int))=J/\iz 0<=0/\Q (G (vT t))/\0<=(↑(k+1):Int)/\(U eV v.az)[Z (↑(k+1):Int)]?=G (Au x)/\F0 61 [bt (vT t),dV x] (db J)/\Y ((↑(k+1):Int)>0)=J/\0<=yr yq ((↑(k+1):Int)-1)/\(U eV v.az)[Z (yr yq ((↑(k+1):Int)-1))]?=G (Au y)/\0<=(↑(k+1):Int)/\(U eV v.az)[Z (↑(k+1):Int)]?=G (Au x)/\F0 14 [dV y,dV x] (di (AB y x))/\Y (AB y x>0)=J/\db O=db (true&& !(Y (k+1>0)&&Y (AB y x>0))&&b)) ?_
     rw[hw1]
     exact⟨hlt,by decide,rfl,by omega,A1 hx,ho,hg,by omega,A1 hy,by omega,A1 hx,hcm,HS hc,by rw[HS hc];simp⟩
    ·refine lv 169 [2,3] (.t<|.x (vT t)<|.x (Au x)<|.c (db J)<|.k<|.k<|.t<|.x (Au y)<|.x (Au x)<|.c (di (AB y x))<|.f<|.l [ke 2,ke 3,ch 6 (di (k+1+1:Nat))]) (Y ((↑(k+1):Int)<(I (U eV v.az):Int))=J/\iz 0<=0/\Q (G (vT t))/\0<=(↑(k+1):Int)/\(U eV v.az)[Z (↑(k+1):Int)]?=G (Au x)/\F0 61 [bt (vT t),dV x] (db J)/\Y ((↑(k+1):Int)>0)=J/\0<=yr yq ((↑(k+1):Int)-1)/\(U eV v.az)[Z (yr yq ((↑(k+1):Int)-1))]?=G (Au y)/\0<=(↑(k+1):Int)/\(U eV v.az)[Z (↑(k+1):Int)]?=G (Au x)/\F0 14 [dV y,dV x] (di (AB y x))/\Y (AB y x>0)=O/\di (yr yq ((↑(k+1):Int)+1))=di (↑(k+1+1):Int)/\I0 DT 0 (db (true&& !(Y (k+1>0)&&Y (AB y x>0))&&b)) bf [kl C6 [1,1,1,0,1,0,0],bh 3,kc C6 [1,1,1,1]] (b9 169 [(2,bt (bz (il 5 0 [] [vT t]))),(3,bt (bz (Au v))),(6,di (↑(k+1+1):Int))]) (bi [] [])) ?_
     rw[hw1]
     exact⟨hlt,by decide,rfl,by omega,A1 hx,ho,hg,by omega,A1 hy,by omega,A1 hx,hcm,HU hc,As,⟨by rw[HU hc];simpa using hih⟩⟩
theorem Ad3(t:bc)(l:List bd)(n:Nat):∀k:Nat,I l-k=n->k<=I l->(lr t l n k=J↔(∀i,k<=i->i<I l->A0 t (l.getD i default)=J)/\∀i,k<=i->0<i->i<I l->AB (l.getD (i-1) default) (l.getD i default)<=0):=by
 induction n with
 |zero=>
  intro k hn hk
  exact⟨fun _=>⟨fun i h1 h2=>by omega,fun i h1 _ h2=>by omega⟩,fun _=>rfl⟩
 |succ n ih=>
  intro k hn hk
  rw[lr,HR,HR,ih (k+1) (by omega) (by omega)]
  simp only[IJ,Bool.and_eq_false_iff,Jt]
  constructor
  ·rintro ⟨⟨h1,h2⟩,h3,h4⟩
   refine⟨fun i hi1 hi2=>?_,fun i hi1 h0 hi2=>?_⟩
   ·by_cases e:i=k
    ·rw[e];exact h1
    ·exact h3 i (by omega) hi2
   ·by_cases e:i=k
    ·subst e;rcases h2 with h2|h2<;>omega
    ·exact h4 i (by omega) h0 hi2
  ·rintro ⟨h1,h2⟩
   refine⟨⟨h1 k (HX _) (by omega),?_⟩,fun i hi1 hi2=>h1 i (by omega) hi2,fun i hi1 h0 hi2=>h2 i (by omega) h0 hi2⟩
   by_cases h0:k>0
   ·right;have:=h2 k (HX _) h0 (by omega);omega
   ·left;exact h0
theorem Ags(t:bc)(l:List bd):lr t l (I l) 0=(l.all (fun k=>A0 t k)&&Xg l):=by
 rw[Bool.eq_iff_iff,Ad3 t l (I l) 0 (Nat.sub_zero _) (I3 _),HR,ID,NN]
 constructor
 ·rintro ⟨h1,h2⟩
  refine⟨fun x hx=>?_,LN l fun i hi=>?_⟩
  ·obtain⟨i,hi⟩:=List.getElem?_of_mem hx
   have:=h1 i (I3 _) (HT.1 hi).1
   rwa[HY,hi] at this
  ·have:=h2 (i+1) (I3 _) (by omega) hi
   rwa[show i+1-1=i by omega] at this
 ·rintro ⟨h1,h2⟩
  refine⟨fun i _ hi=>?_,fun i _ h0 hi=>?_⟩
  ·rw[HY,HQ hi]
   exact h1 _ (List.getElem_mem hi)
  ·have:=List.pairwise_iff_getElem.1 h2 (i-1) i (by omega) hi (by omega)
   rw[HY,HY,HQ hi,HQ (show i-1<I l by omega)]
   exact this
theorem AbQ(t:bc)(v:bd)(hz:v.size<=1000000)(h:∀k∈v.az,F0 61 [dT t,dV k] (db (A0 t k))):F0 61 [dT (.bag t),dV v] (db (A0 (.bag t) v)):=by
 rw[dT,Sr]
 refine sv DT 169 [2,3] (.k<|.k<|.k<|.k<|.b .r (.b .r (.l [ke 2,ke 3,ch 6 (di (0:Nat))]))) (((v.n !=0)=J->db O=db (A0 (bc.bag t) v))/\((v.n !=0)=O->(Y ((I (U eV v.az):Int)>12)=J->db O=db (A0 (bc.bag t) v))/\(Y ((I (U eV v.az):Int)>12)=O->di 0=di (↑0:Int)/\I0 DT (I bf.H) (db (A0 (bc.bag t) v)) bf [kl C6 [1,1,1,0,1,0,0],bh 3,kc C6 [1,1,1,1]] (b9 169 [(2,bt (bz (il 5 0 [] [vT t]))),(3,bt (bz (Au v))),(6,di (↑0:Int))]) bf))) ⟨fun h1=>?_,fun h1=>⟨fun h2=>?_,fun h2=>⟨rfl,⟨?_⟩⟩⟩⟩
 ·have h1:(v.n==0)=O:=by simpa using h1
  simp only[A0,h1,Iz]
 ·have h2:¬((I v.az:Int)<=12):=by simpa using h2
  simp only[A0,HU h2,Iz,J3]
 ·have h1:(v.n==0)=J:=by simpa using h1
  have h2:(I v.az:Int)<=12:=by simpa using h2
  simp only[A0,h1,HS h2,I2]
  rw[←Ags]
  exact Vl t v (by omega) hz h _ 0 rfl
theorem KW:∀(d:Nat) (t:bc),d<=100->B4 d t=J->F0 120 [dT t,di d] (db J)
 |0,t,_,h=>by cases t<;>simp[B4] at h
 |d+1,.nat,_,_=>Sp d
 |d+1,.lab n,_,h=>by
  simp only[B4,HR,Ia] at h
  exact NE d n h.1 h.2
 |d+1,.prio n r,_,h=>by
  simp only[B4,HR,I4] at h
  exact P3 d n r h.1 h.2
 |d+1,.word t,hd,h=>P1 d t (by omega) (KW d t (by omega) (by simpa only[B4] using h))
 |d+1,.bag t,hd,h=>Aay d t (by omega) (KW d t (by omega) (by simpa only[B4] using h))
 |d+1,.prod l,hd,h=>by
  simp only[B4,HR,IJ,ID] at h
  exact P2 d l (by omega) h.1 h.2.1 fun t ht=>KW d t (by omega) (h.2.2 t ht)
theorem AbR(n:Nat):∀(t:bc),SizeOf.sizeOf t<=n->∀v:bd,v.size<=1000000->F0 61 [dT t,dV v] (db (A0 t v)):=by
 induction n with
 |zero=>intro t ht;cases t<;>simp at ht
 |succ n ih=>
  intro t ht v hv
  have hk:∀k∈v.az,k.size<=1000000:=fun k hk=>by have:=bd.size_mem hk;have:=v.size_eq;omega
  cases t with
  |nat=>exact Tc v
  |lab n=>exact O5 n v
  |prio n r=>exact Qf n r v
  |word t=>exact Qd t v fun k h=>ih t (by simp at ht;omega) k (hk k h)
  |bag t=>exact AbQ t v hv fun k h=>ih t (by simp at ht;omega) k (hk k h)
  |prod l=>exact Qe l v hv fun t h k hk2=>ih t (by have:=List.sizeOf_lt_of_mem h;simp at ht;omega) k (hk k hk2)
theorem QB(t:bc)(h:B4 8 t=J):F0 59 [dT t] (di 0):=by
 exact sv w5 6 [1] (.c (db J) .r) (_/\Q (di 0)) ⟨KW 8 t (by decide) h,rfl⟩
theorem Gk(t:bc)(h:B4 8 t=J)(v:bd):F0 32 [dT t,dV v] (db (Aw t v)):=by
 refine sv xv 18 [2,3] (.c (di 0)<|.c (di (min (v.size:Int) 129))<|.b (.c (db (A0 t v)) .r) .r) (_/\_/\(Y (min (↑(bd.size v):Int) 129<=128)=J->F0 61 [bt (vT t),dV v] (db (A0 t v))/\db (A0 t v)=db (Aw t v))/\(Y (min (↑(bd.size v):Int) 129<=128)=O->db O=db (Aw t v))) ⟨QB t h,JX _ v (HX _) 128 (by decide) (by decide),fun h1=>?_,fun h1=>?_⟩
 ·have h1:=Ib h1
  have h2:(v.size:Int)<=128:=by rw[IR] at h1;split at h1<;>omega
  exact⟨AbR _ t (HX _) v (by omega),by rw[Aw,HS h2,I2]⟩
 ·have h1:=IB h1
  rw[Aw,HU (show ¬(v.size:Int)<=128 by rw[IR] at h1;split at h1<;>omega),Iz]
theorem TQ:gn AB jh:=BD
theorem So(l:List bd):gg AB (Rc l)/\∀x,x∈Rc l↔x∈l:=by
 obtain⟨h1,h2⟩:=Mw TQ (q:=kz) (fun x y=>by rw[kz,I4];exact GV) (S3 l)
 exact⟨h1,fun x=>(h2 x).trans (AN l).mem_iff⟩
section
variable {α : Type} {c : α -> α -> Int}
end
section
open Nv
theorem Ts{P:x4}(hm:P.follows .mixedOrders=J){C:Nat}{fn:yu}{d:D}{σ':St}(nt:Nat)(im:List Nat){ks T:List KI}{L:List (Nat×D)}{σ:St}(s:Sc)
  (h:B9 (b9 nt L) fun env=>vc (CN C) C P (fun env σ1=>AL P fn env σ1 d σ') (fun _ env σ=>uv P fn.results.toList d σ' env σ) nt im T 10000 (.h .n s) ks env σ):Rn P fn C d σ' (ks++T) (b9 nt L) σ:=by
 rw[Bz] at h
 exact Rd (CV _) (fun _ _ h=>h.2) hm (fun b env σ _ h=>Su h) (by simp[b9,Ew]) h
end
theorem M9{P:x4}{o:yw}{σ:St}{t:yz}{x:x5}(ho:o.op=.buildSlice t 1 #[(0,x)])
  {e:yz} {sz by':Nat} {z:Option yx} (hs:Ce P t=G (e,sz,by',z)) (hz:z.isSome=J) {d:D} (hd:d.sto=J) (hc:I (BK d)=sz) (h1:0<sz) (h2:sz<=1000):
  Ay P o [d] σ (.gro (I σ.H) 1 sz) ⟨σ.H++[G (BK d)],σ.own⟩:=by
 intro E g a w K Q hw hds hK
 simp only[ho,Op.operands] at hds
 obtain⟨i,hu,hi,rfl,rfl,rfl⟩:=AK hs
 obtain⟨zz,hzz⟩:=Option.isSome_iff_exists.1 hz
 obtain⟨u,eu,hr⟩:=AH.1 (by simpa using hds)
 simp only[Ie,I6] at eu
 obtain⟨h5,h6,_⟩:=Go.Dv.cells_rep hd hr
 have hul:I u.cells.toList=i.size:=by rw[AF h5,hc]
 have hf:=Lq i.size [u] 0 [] ((Array.range (1*i.size)).map (zz.cells[· %zz.cells.size]!)).toList (by simp) (fun v hv=>by rw[Ii.1 hv];simpa using hul) (by simp)
 simp only[nil_append,Array.toArray_toList] at hf
 have hrun:=run_buildSlice (P:=P) w t e 1 #[(0,u)] _ i zz hu hi hzz (by omega) (by omega) (by simpa using hf)
 obtain⟨g',h3,h4,h5',h6',h7⟩:=hw.newObjR (us:=u.cells.toList) (rest:=[]) (cs:=BK d) e h5 h6
 rw[IG] at h3 h6'
 have:=hK g' _ (.slice (G ⟨w.heap.size,0,none⟩) 1 1) h3 h4 (by
  simp only[Av]
  exact⟨by omega,1,HX _,by rw[h6',hul,Nat.one_mul],by rw[h5']⟩)
 unfold Oper.wp execOp
 simp only[ho]
 simp only[Sem.run_bind]
 have e2:(#[(0,x)].map fun(x:Nat×x5)=>match x with|(i,x)=>(i,a.eval x))= #[(0,u)]:=by simp[eu]
 rw[e2,hrun]
 exact this
abbrev fe(n:Int)(k:Nat)(L:List D)(own:List (Nat×Nat×List V)):St:=⟨[G [di 0,.v .nils],G [di n,.gro 2 k 2],G L],own⟩
abbrev p8(n:Int)(k:Nat)(L:List D)(own:List (Nat×Nat×List V)):St:=⟨[G [di n,.arr 2 0 k],G [di n,.arr 2 0 k],G L],own⟩
theorem Agh{σ:St}{p q i n sz:Nat}{cs:List D}(hp:σ.H[p]?=G (G cs))(hi:cs[i]?=G (.gro q n sz))(e:List D):Cv e σ e ⟨σ.H.set p (G (cs.set i (.arr q 0 n))),σ.own⟩:=
 G1 (σ:=σ) (q:=p) (cs:=cs) (cs':=cs.set i (.arr q 0 n)) hp (fun g us hr=>by
  obtain⟨u,hu,hru⟩:=BL hr hi
  have:=CZ hr i (d:=.arr q 0 n) (u:=u) (DS.rep .gro hru)
  rwa[Eb hu] at this) (fun h c hc=>by
  rcases IX hc with h2|h2
  ·exact h c h2
  ·rw[h2];rfl) e
abbrev gk(x:bd):List D:=[di x.n,cx x.az]
abbrev kcO(x:bd):List D:=[di x.n,.acc 1 (x.az.map eV)]
abbrev fz(x:bd):List (Nat×Nat×List V):=[(1,2,x.az.map eV)]
def e9(ts:List Nat)(L:List D):Prop:=(∀n,D.okNs n ts L=J)/\∀sel,D.rens sel id L=L
theorem e9.of{ts:List Nat}{L:List D}(h:D.pls L=J):e9 ts L:=⟨fun _=>B2 h,fun _=>AS h⟩
theorem PM{ρ τ:Nat->Nat}:∀(a b:List D),D.rens ρ τ (a++b)=D.rens ρ τ a++D.rens ρ τ b
 |[],_=>rfl
 |x::a,b=>by simp only[J7,D.rens,PM a b]
theorem Qc{n:Nat}{ts:List Nat}:∀(a b:List D),D.okNs n ts (a++b)=(D.okNs n ts a&&D.okNs n ts b)
 |[],_=>by simp[D.okNs]
 |x::a,b=>by simp only[J7,D.okNs,Qc a b,Bool.and_assoc]
theorem e9.app{ts:List Nat}{a b:List D}(h1:e9 ts a)(h2:e9 ts b):e9 ts (a++b):=⟨fun n=>by rw[Qc,h1.1,h2.1];rfl,fun sel=>by rw[PM,h1.2,h2.2]⟩
theorem e9.kcO(x:bd):e9 [1] (kcO x):=⟨fun n=>by simp[D.okNs,D.okN],fun sel=>by simp[D.rens,D.ren]⟩
theorem wo{R:List D->St->Prop}{ks:List KI}{e e':List D}(n:Int)(m:Nat)(F:List D)(own:List (Nat×Nat×List V))(hF:e9 (own.map (·.1)) F)(he:D.okNs 3 (own.map (·.1)) e'=J)(hee:e=D.rens (fun i=>if i<2 then i else i+1) id e')
  (h:AI (CN 0) PP R ks e' (fe n m F own)) (T:Option (List D)):AI (CN 0) PP R ks e ⟨[G [di 0,.v .nils],G [di n,.gro 3 m 2],T,G F],own⟩:=by
 refine Dk (σ:=⟨[G [di 0,.v .nils],G [di n,.gro 3 m 2],T,G F],own⟩) (e':=e') (H':=(fe n m F own).H) (m:=0) (fun _ _ h=>h.2) (fun i=>if i<2 then i else i+1) (I3 _) (fun i hi=>by omega) (fun i j _ _ h=>?_) (fun i cs hi=>?_) he hee h
 ·have h:(if i<2 then i else i+1)=(if j<2 then j else j+1):=h
  split at h<;>split at h<;>omega
 ·match i,hi with
  |0,hi=>simp at hi;subst hi;exact⟨rfl,by simp[D.okNs,D.okN]⟩
  |1,hi=>simp at hi;subst hi;exact⟨rfl,by simp[D.okNs,D.okN]⟩
  |2,hi=>
   simp at hi;subst hi
   exact⟨by rw[hF.2];rfl,hF.1 _⟩
  |i+3,hi=>simp at hi
theorem Aka{R:List D->St->Prop}{ks:List KI}{e e':List D}(n:Int)(m:Nat)(F:List D)(own:List (Nat×Nat×List V))(hF:e9 (own.map (·.1)) F)(he:D.okNs 3 (own.map (·.1)) e'=J)(hee:e=D.rens (fun i=>if i<2 then i else i+2) id e')
  (h:AI (CN 0) PP R ks e' (fe n m F own)) (T U:Option (List D)):AI (CN 0) PP R ks e ⟨[G [di 0,.v .nils],G [di n,.gro 4 m 2],T,U,G F],own⟩:=by
 refine Dk (σ:=⟨[G [di 0,.v .nils],G [di n,.gro 4 m 2],T,U,G F],own⟩) (e':=e') (H':=(fe n m F own).H) (m:=0) (fun _ _ h=>h.2) (fun i=>if i<2 then i else i+2) (I3 _) (fun i hi=>by omega) (fun i j _ _ h=>?_) (fun i cs hi=>?_) he hee h
 ·have h:(if i<2 then i else i+2)=(if j<2 then j else j+2):=h
  split at h<;>split at h<;>omega
 ·match i,hi with
  |0,hi=>simp at hi;subst hi;exact⟨rfl,by simp[D.okNs,D.okN]⟩
  |1,hi=>simp at hi;subst hi;exact⟨rfl,by simp[D.okNs,D.okN]⟩
  |2,hi=>
   simp at hi;subst hi
   exact⟨by rw[hF.2];rfl,hF.1 _⟩
  |i+3,hi=>simp at hi
theorem V6(x:bd)(hx:x.size<=1000000):Aa PP 144 [dV x] bf (.dagg (kcO x)) ⟨[],fz x⟩:=by
 have hk:∀y∈x.az,F0 144 [dV y] (dV y):=fun y hy=>GU _ y (HX _) (by have:=bd.size_mem hy;have:=x.size_eq;omega)
 have hs:=x.size_eq
 have hl:=bd.length_le x.az
 have loop (n:Nat):∀k:Nat,I x.az-k=n->Rn PP CB 0 (.dagg (kcO x)) ⟨[],fz x⟩ ([kl B6 [1,1,0,1,0,0],.blk 0,kc B6 [1,1,1]]++[]) (b9 27 [(1,.v (.ref (Au x))),(2,.ptr 0 0),(3,.ptr 1 0),(4,di k)]) (ei x.n (x.az.take k)):=by
  induction n with
  |zero=>
   intro k hn
   rw[Iw (by omega)]
   exact lv 27 [1] (.f<|.h (.m (.dagg (kcO x)))<|.h .ww<|.rd) (Y ((k:Int)<(I (map eV x.az):Int))=O/\2<=2/\[di x.n,br 1 (map eV x.az)]=kcO x/\2<=2/\Q [(1,2,map eV x.az)]/\Q (bj (kcO x))) ⟨HU (by rw[HP];omega),HX _,rfl,HX _,rfl,rfl⟩
  |succ n ih=>
   intro k hn
   obtain⟨y,hy⟩:∃x',x.az[k]?=G x':=⟨_,HQ (show k<I x.az by omega)⟩
   have ht:x.az.take (k+1)=x.az.take k++[y]:=by rw[Jn,hy];rfl
   refine lv 27 [1] (.t<|.h (.xs (Au y))<|.c (dV y)<|.ls [ke 1,ke 2,ke 3,ch 4 (di (k+1:Nat))] (ei x.n (x.az.take (k+1)))) (Y ((k:Int)<(I (map eV x.az):Int))=J/\Q 2/\0<=(k:Int)/\(map eV x.az)[Z (k:Int)]?=G (Au y)/\_/\Q (map eV (take k x.az))/\A9 (I (map eV (take k x.az))+I (Au y::nV)) 32/\yn/\di (yr yq ((k:Int)+1))=di (↑(k+1):Int)/\[G [di 0,dn],G [di x.n,br 1 (map eV (take k x.az)++Au y::nV)]]=[G [di 0,dn],G [di x.n,br 1 (map eV (take (k+1) x.az))]]/\[(1,2,map eV (take k x.az)++Au y::nV)]=[(1,2,map eV (take (k+1) x.az))]/\_) ⟨HS (by rw[HP];omega),rfl,by omega,A1 hy,hk y (HW hy),rfl,⟨?_,?_⟩,yl,As,?_,?_,iK (ih (k+1) (by omega))⟩
   ·simp only[HP,Iy,HV,HZ];omega
   ·simp only[HP,Iy,HV,HZ];omega
   ·rw[ht,Dt]
   ·rw[ht,Dt]
 have:=loop _ 0 rfl
 exact sv CB 27 [1] (.h .rn<|.h (.q 2 0)<|.h (.cl 1 1 1 2)<|.ls [ke 1,ke 2,ke 3,ch 4 (di (0:Nat))] (ei x.n [])) (Q (di 0)/\Q (ei x.n []).H/\Q [(1,2,nV)]/\I0 CB (I bf.H) (bj (kcO x)) (bi [] (fz x)) [kl B6 [1,1,0,1,0,0],bh 0,kc B6 [1,1,1]] (b9 27 [(1,bt (bz (Au x))),(2,bq 0 0),(3,bq 1 0),(4,di (↑0:Int))]) (ei x.n [])) ⟨rfl,rfl,rfl,⟨by simpa using this⟩⟩
theorem va{k:Nat}(hk:k<=1000)(x:V):A9 (k+1+I (x::nV)) 32:=⟨by simp only[HV,HZ];omega,by simp only[HV,HZ];omega⟩
section
variable {n : Int} {k : Nat} (hk : k <= 900) {L : List D} (hL : (I L) = (k + 1) * 2) {v : bd} {x : bd} (hx : v.az[k + 1]? = G x) {d : D} {σ' : St}
include hk hL hx
theorem Ajd(hn:F0 144 [dV x] (dV x))(hl:D.pls L=true)
  (next:Rn PP CB 0 d σ' ([kl B6 [1,1,0,1,0,0],.blk 0,kc B6 [1,1,1]]++[]) (b9 27 [(1,.v (.ref (Au v))),(2,.ptr 0 0),(3,.ptr 1 0),(4,di (k+1+1:Nat))]) (fe n (k+1+1) (L++gk x) [])):
  Rn PP CB 0 d σ' ([kl B6 [1,1,0,1,0,0],.blk 0,kc B6 [1,1,1]]++[]) (b9 27 [(1,.v (.ref (Au v))),(2,.ptr 0 0),(3,.ptr 1 0),(4,di (k+1:Nat))]) (fe n (k+1) L []):=by
 refine lv 27 [1] (.t<|.h (.xs (Au x))<|.c (dV x)<|.lo [ke 1,ke 2,ke 3,ch 4 (di (k+1+1:Nat))] ⟨[some [di 0,.v .nils],some [di n,.gro 3 (k+1+1) 2],none,some (L++gk x)],[]⟩) (decide ((↑(k+1):Int)<(length (map eV v.az):Int))=true/\Q 2/\0<=(↑(k+1):Int)/\(map eV v.az)[Int.toNat (↑(k+1):Int)]?=some (Au x)/\F0 144 [dV x] (dV x)/\length L=(k+1)*2/\[Au x]≠ []/\(∀(y:V),y∈ [Au x]->V.size y=2)/\A9 (k+1+length (Au x::nV)) 32/\yn/\di (yr yq ((↑(k+1):Int)+1))=di (↑(k+1+1):Int)/\cp 4 [] [some [di 0,dn],some [di n,bm 3 (k+1+length (Au x::nV)) 2],none,some (L++[di x.n,cx x.az])]=true/\[some [di 0,dn],some [di n,bm 3 (k+1+length (Au x::nV)) 2],none,some (L++[di x.n,cx x.az])]=[some [di 0,dn],some [di n,bm 3 (k+1+1) 2],none,some (L++gk x)]/\I0 CB 0 d σ' [kl B6 [1,1,0,1,0,0],bh 0,kc B6 [1,1,1]] (b9 27 [(1,bt (bz (Au v))),(2,bq 0 0),(3,bq 1 0),(4,di (↑(k+1+1):Int))]) (bi [some [di 0,dn],some [di n,bm 3 (k+1+1) 2],none,some (L++gk x)] [])) ?_
 exact⟨HS (by rw[HP];have:=(HT.1 hx).1;omega),rfl,by omega,A1 hx,hn,hL,by simp,fun y hy=>by rw[Ii.1 hy];rfl,va (by omega) _,yl,As,by simp[cp,D.okNs,D.okN,(e9.of hl).app (e9.of (rfl:D.pls (gk x)=true))|>.1],rfl,⟨wo n (k+1+1) _ [] ((e9.of hl).app (e9.of rfl)) (by simp[b9,D.okNs,D.okN]) (by simp[b9,D.rens,D.ren]) next none⟩⟩
theorem Ajc(hn:Aa PP 144 [dV x] bf (.dagg (kcO x)) ⟨[],fz x⟩)(hl:D.pls L=true)
  (next:Rn PP CB 0 d σ' ([kl B6 [1,1,0,1,0,0],.blk 0,kc B6 [1,1,1]]++[]) (b9 27 [(1,.v (.ref (Au v))),(2,.ptr 0 0),(3,.ptr 1 0),(4,di (k+1+1:Nat))]) (fe n (k+1+1) (L++kcO x) (fz x))):
  Rn PP CB 0 d σ' ([kl B6 [1,1,0,1,0,0],.blk 0,kc B6 [1,1,1]]++[]) (b9 27 [(1,.v (.ref (Au v))),(2,.ptr 0 0),(3,.ptr 1 0),(4,di (k+1:Nat))]) (fe n (k+1) L []):=by
 refine lv 27 [1] (.t<|.h (.xs (Au x))<|.h (.oc (.dagg (kcO x)) ⟨[some [di 0,.v .nils],some [di n,.gro 2 (k+1) 2],some L],fz x⟩)<|.h (.o (.gro 3 1 2) ⟨[some [di 0,.v .nils],some [di n,.gro 2 (k+1) 2],some L,some (kcO x)],fz x⟩)<|.h (.o (.gro 4 (k+1+1) 2) ⟨[some [di 0,.v .nils],some [di n,.gro 2 (k+1) 2],none,some (kcO x),some (L++kcO x)],fz x⟩)<|.lo [ke 1,ke 2,ke 3,ch 4 (di (k+1+1:Nat))] ⟨[some [di 0,.v .nils],some [di n,.gro 4 (k+1+1) 2],none,some (kcO x),some (L++kcO x)],fz x⟩) (decide ((↑(k+1):Int)<(length (map eV v.az):Int))=true/\Q 2/\0<=(↑(k+1):Int)/\(map eV v.az)[Int.toNat (↑(k+1):Int)]?=some (Au x)/\(∀(o:yw) (c:Call) (fo:x5),o.op=Op.call c->c.callee=Callee.value fo->Ay PP o [bt (bw 144 [] []),dV x] (fe n (k+1) L []) (bj (kcO x)) (bi [some [di 0,dn],some [di n,bm 2 (k+1) 2],some L] (fz x)))/\Ay PP (Oper.mk (some 23) (Op.buildSlice 29 1 #[(0,Operand.tmp 22)]) 29 "ref.go:96" #[Edge.mk 7 Ground.data] none) [bj (kcO x)] (bi [some [di 0,dn],some [di n,bm 2 (k+1) 2],some L] (fz x)) (bm 3 1 2) (bi [some [di 0,dn],some [di n,bm 2 (k+1) 2],some L,some (kcO x)] (fz x))/\Ay PP (Oper.mk (some 24) (Op.call (Call.mk (Callee.builtin Builtin.append) #[Operand.tmp 16,Operand.tmp 23] #[29,29])) 29 "ref.go:96" #[Edge.mk 1 Ground.data,Edge.mk 8 Ground.data,Edge.mk 7 Ground.chain] none) [bm 2 (k+1) 2,bm 3 1 2] (bi [some [di 0,dn],some [di n,bm 2 (k+1) 2],some L,some (kcO x)] (fz x)) (bm 4 (k+1+1) 2) (bi [some [di 0,dn],some [di n,bm 2 (k+1) 2],none,some (kcO x),some (L++kcO x)] (fz x))/\((Q (some [bm 2 (k+1) 2])/\Q (some [bm 2 (k+1) 2])/\True)/\True)/\di (yr yq ((↑(k+1):Int)+1))=di (↑(k+1+1):Int)/\cp 5 [1] [some [di 0,dn],some [di n,bm 4 (k+1+1) 2],none,some (kcO x),some (L++kcO x)]=true/\Q [some [di 0,dn],some [di n,bm 4 (k+1+1) 2],none,some (kcO x),some (L++kcO x)]/\Q [(1,2,map eV x.az)]/\I0 CB 0 d σ' [kl B6 [1,1,0,1,0,0],bh 0,kc B6 [1,1,1]] (b9 27 [(1,bt (bz (Au v))),(2,bq 0 0),(3,bq 1 0),(4,di (↑(k+1+1):Int))]) (bi [some [di 0,dn],some [di n,bm 4 (k+1+1) 2],none,some (kcO x),some (L++kcO x)] (fz x))) ?_
 refine⟨HS (by rw[HP];have:=(HT.1 hx).1;omega),rfl,by omega,A1 hx,fun o c fo ho hc=>?_,?_,?_,⟨⟨rfl,rfl,trivial⟩,trivial⟩,As,?_,rfl,rfl,⟨Aka n (k+1+1) _ (fz x) ((e9.of hl).app (e9.kcO x)) (by simp[b9,D.okNs,D.okN]) (by simp[b9,D.rens,D.ren]) next none (some (kcO x))⟩⟩
 ·have h2:=B7 (σ:=fe n (k+1) L []) ho hc (fD:=.v (.fn 144 [] [])) rfl (ds:=[dV x]) [] id hn (.cons (.ren (dc:=dV x) rfl) .nil) .nil (by simp) rfl (by simp) (by simp) (by simp[D.okN,D.okNs]) (by simp[cp])
  simpa[Dp,CM,Ge,D.ren,D.rens] using h2
 ·exact M9 rfl qa rfl rfl rfl (by decide) (by decide)
 ·exact Vg rfl qa rfl (by decide) (q:=2) (q2:=3) (cs:=L) (cs2:=kcO x) rfl hL rfl rfl (by decide) (by omega) (by omega)
 ·have:=((e9.of hl).app (e9.kcO x)).1 5
  have:=(e9.kcO x).1 5
  simp[cp,D.okNs,D.okN, *]
theorem Ajb(X:List V)(hn:F0 144 [dV x] (dV x))(hl:e9 [1] L)
  (next:Rn PP CB 0 d σ' ([kl B6 [1,1,0,1,0,0],.blk 0,kc B6 [1,1,1]]++[]) (b9 27 [(1,.v (.ref (Au v))),(2,.ptr 0 0),(3,.ptr 1 0),(4,di (k+1+1:Nat))]) (fe n (k+1+1) (L++gk x) [(1,2,X)])):
  Rn PP CB 0 d σ' ([kl B6 [1,1,0,1,0,0],.blk 0,kc B6 [1,1,1]]++[]) (b9 27 [(1,.v (.ref (Au v))),(2,.ptr 0 0),(3,.ptr 1 0),(4,di (k+1:Nat))]) (fe n (k+1) L [(1,2,X)]):=by
 refine lv 27 [1] (.t<|.h (.xs (Au x))<|.c (dV x)<|.lo [ke 1,ke 2,ke 3,ch 4 (di (k+1+1:Nat))] ⟨[some [di 0,.v .nils],some [di n,.gro 3 (k+1+1) 2],none,some (L++gk x)],[(1,2,X)]⟩) (decide ((↑(k+1):Int)<(length (map eV v.az):Int))=true/\Q 2/\0<=(↑(k+1):Int)/\(map eV v.az)[Int.toNat (↑(k+1):Int)]?=some (Au x)/\F0 144 [dV x] (dV x)/\length L=(k+1)*2/\[Au x]≠ []/\(∀(y:V),y∈ [Au x]->V.size y=2)/\A9 (k+1+length (Au x::nV)) 32/\yn/\di (yr yq ((↑(k+1):Int)+1))=di (↑(k+1+1):Int)/\cp 4 [1] [some [di 0,dn],some [di n,bm 3 (k+1+length (Au x::nV)) 2],none,some (L++[di x.n,cx x.az])]=true/\[some [di 0,dn],some [di n,bm 3 (k+1+length (Au x::nV)) 2],none,some (L++[di x.n,cx x.az])]=[some [di 0,dn],some [di n,bm 3 (k+1+1) 2],none,some (L++gk x)]/\Q [(1,2,X)]/\I0 CB 0 d σ' [kl B6 [1,1,0,1,0,0],bh 0,kc B6 [1,1,1]] (b9 27 [(1,bt (bz (Au v))),(2,bq 0 0),(3,bq 1 0),(4,di (↑(k+1+1):Int))]) (bi [some [di 0,dn],some [di n,bm 3 (k+1+1) 2],none,some (L++gk x)] [(1,2,X)])) ?_
 exact⟨HS (by rw[HP];have:=(HT.1 hx).1;omega),rfl,by omega,A1 hx,hn,hL,by simp,fun y hy=>by rw[Ii.1 hy];rfl,va (by omega) _,yl,As,by simp[cp,D.okNs,D.okN,hl.app (e9.of (rfl:D.pls (gk x)=true))|>.1],rfl,rfl,⟨wo n (k+1+1) _ [(1,2,X)] (hl.app (e9.of rfl)) (by simp[b9,D.okNs,D.okN]) (by simp[b9,D.rens,D.ren]) next none⟩⟩
end
def iu(j i:Nat)(x:bd):List D:=if i=j then kcO x else gk x
def kL(j:Nat)(l:List bd)(k:Nat):List D:=(List.range k).flatMap fun i=>iu j i (l.getD i dt)
def Gr(j:Nat)(l:List bd)(k:Nat):List (Nat×Nat×List V):=if j<k then fz (l.getD j dt) else[]
theorem Ky(j:Nat)(l:List bd)(k:Nat):kL j l (k+1)=kL j l k++iu j k (l.getD k dt):=by simp[kL,List.range_succ]
theorem Aiz(j:Nat)(l:List bd)(k:Nat):I (kL j l k)=k*2:=by
 induction k with
 |zero=>rfl
 |succ k ih=>
  rw[Ky,Ig,ih]
  have:I (iu j k (l.getD k dt))=2:=by unfold iu;split<;>rfl
  omega
theorem xq(j:Nat)(l:List bd)(k:Nat)(h:k<=j):D.pls (kL j l k)=J:=by
 induction k with
 |zero=>rfl
 |succ k ih=>
  rw[Ky,Cw,ih (by omega),iu,Ij (by omega)];rfl
theorem xr(j:Nat)(l:List bd)(k:Nat):e9 [1] (kL j l k):=by
 induction k with
 |zero=>exact⟨fun _=>rfl,fun _=>rfl⟩
 |succ k ih=>
  rw[Ky]
  refine ih.app ?_
  unfold iu
  split
  ·exact e9.kcO _
  ·exact e9.of rfl
theorem dp{l:List bd}{k:Nat}{x:bd}(h:l[k]?=G x):l.getD k dt=x:=by rw[HY,h];rfl
theorem Zd(j:Nat)(v:bd)(hv:v.size<=900)(n:Nat):∀k:Nat,I v.az- (k+1)=n->k<I v.az->
  Rn PP CB 0 (.dagg [di v.n,.arr 2 0 (I v.az)]) (p8 v.n (I v.az) (kL j v.az (I v.az)) (Gr j v.az (I v.az))) ([kl B6 [1,1,0,1,0,0],.blk 0,kc B6 [1,1,1]]++[]) (b9 27 [(1,.v (.ref (Au v))),(2,.ptr 0 0),(3,.ptr 1 0),(4,di (k+1:Nat))]) (fe v.n (k+1) (kL j v.az (k+1)) (Gr j v.az (k+1))):=by
 have hs:=v.size_eq
 have hl:=bd.length_le v.az
 have hcp:∀x∈v.az,F0 144 [dV x] (dV x):=fun x hx=>GU _ x (HX _) (by have:=bd.size_mem hx;omega)
 induction n with
 |zero=>
  intro k hn hk0
  have e:k+1=I v.az:=by omega
  rw[e]
  have hlt:¬((I v.az:Nat):Int)<(I (v.az.map eV):Int):=by rw[HP];omega
  have hp1:=xr j v.az (I v.az)
  have hp2:=xq j v.az (I v.az)
  have e1:∀(τ:List (Nat×Nat×List V)) (e:List D),Cv e (fe v.n (I v.az) (kL j v.az (I v.az)) τ) e ⟨[G [di 0,.v .nils],G [di v.n,.arr 2 0 (I v.az)],G (kL j v.az (I v.az))],τ⟩:=fun τ e=>Agh (σ:=fe v.n (I v.az) (kL j v.az (I v.az)) τ) (p:=1) (q:=2) (i:=1) (n:=I v.az) (sz:=2) (cs:=[di v.n,.gro 2 (I v.az) 2]) rfl rfl e
  by_cases hj:j<I v.az
  ·have eo:Gr j v.az (I v.az)=fz (v.az.getD j dt):=by rw[Gr,Io hj]
   rw[eo]
   generalize kL j v.az (I v.az)=L at hp1 e1⊢
   generalize v.az.getD j dt=y at e1⊢
   refine Ts mixed 27 [1] (.f<|.h (.q 6 0)<|.h (.cs ⟨[G [di 0,.v .nils],G [di v.n,.arr 2 0 (I v.az)],G L],fz y⟩)<|.h (.m (.dagg [di v.n,.arr 2 0 (I v.az)]))<|.h .ww<|.r) ?_
   refine dq (by kernel_rfl:(Y ((I v.az:Int)<(I (map eV v.az):Int))=O/\(∀(e:List D) (E:co) (g:Gh) (a:Act) (w:yy),FI E g (bi [G [di 0,dn],G [di v.n,bm 2 (I v.az) 2],G L] [(1,2,map eV y.az)]) e a w->∃g',FI E g' (bi [G [di 0,dn],G [di v.n,bo 2 0 (I v.az)],G L] (fz y)) e a w)/\2<=2/\Q [di v.n,bo 2 0 (I v.az)]/\2<=2/\cp 3 [1] [G [di v.n,bo 2 0 (I v.az)],G [di v.n,bo 2 0 (I v.az)],G L]=J/\Q [G [di v.n,bo 2 0 (I v.az)],G [di v.n,bo 2 0 (I v.az)],G L]/\Q [(1,2,map eV y.az)]/\Q (bj [di v.n,bo 2 0 (I v.az)]))=_) ?_
   exact⟨HU hlt,e1 (fz y),HX _,rfl,HX _,by simp[cp,D.okNs,D.okN,hp1.1],rfl,rfl,rfl⟩
  ·have eo:Gr j v.az (I v.az)=[]:=by rw[Gr,Ij hj]
   have hp:=B2 (n:=3) (ts:=[]) (hp2 (by omega))
   rw[eo]
   generalize kL j v.az (I v.az)=L at hp e1⊢
   refine Ts mixed 27 [1] (.f<|.h (.q 6 0)<|.h (.cs ⟨[G [di 0,.v .nils],G [di v.n,.arr 2 0 (I v.az)],G L],[]⟩)<|.h (.m (.dagg [di v.n,.arr 2 0 (I v.az)]))<|.h .ww<|.r) ?_
   refine dq (by kernel_rfl:(Y ((I v.az:Int)<(I (map eV v.az):Int))=O/\(∀(e:List D) (E:co) (g:Gh) (a:Act) (w:yy),FI E g (bi [G [di 0,dn],G [di v.n,bm 2 (I v.az) 2],G L] []) e a w->∃g',FI E g' (bi [G [di 0,dn],G [di v.n,bo 2 0 (I v.az)],G L] []) e a w)/\2<=2/\Q [di v.n,bo 2 0 (I v.az)]/\2<=2/\cp 3 [] [G [di v.n,bo 2 0 (I v.az)],G [di v.n,bo 2 0 (I v.az)],G L]=J/\Q [G [di v.n,bo 2 0 (I v.az)],G [di v.n,bo 2 0 (I v.az)],G L]/\Q (bj [di v.n,bo 2 0 (I v.az)]))=_) ?_
   exact⟨HU hlt,e1 [],HX _,rfl,HX _,by simp[cp,D.okNs,D.okN,hp],rfl,rfl⟩
 |succ n ih=>
  intro k hn hk0
  obtain⟨x,hx⟩:∃x,v.az[k+1]?=G x:=⟨_,HQ (show k+1<I v.az by omega)⟩
  have hc:=hcp x (HW hx)
  have hih:=ih (k+1) (by omega) (by omega)
  have hlen:=Aiz j v.az (k+1)
  have hxs:=bd.size_mem (HW hx)
  rw[Ky j v.az (k+1),dp hx] at hih
  by_cases h1:j<k+1
  ·have e1:∀m,k+1<=m->Gr j v.az m=fz (v.az.getD j dt):=fun m hm=>by rw[Gr,Io (by omega)]
   rw[e1 _ (HX _)]
   rw[e1 _ (by omega:k+1<=k+1+1),iu,Ij (by omega)] at hih
   exact Ajb (by omega) hlen hx _ hc (xr j v.az (k+1)) hih
  ·have e1:Gr j v.az (k+1)=[]:=by rw[Gr,Ij h1]
   have hp:=xq j v.az (k+1) (by omega)
   rw[e1]
   by_cases h2:k+1=j
   ·rw[iu,Io h2,show Gr j v.az (k+1+1)=fz x by rw[Gr,Io (by omega),dp (by rw[←h2];exact hx)]] at hih
    exact Ajc (by omega) hlen hx (V6 x (by omega)) hp hih
   ·rw[iu,Ij h2,show Gr j v.az (k+1+1)=[] by rw[Gr,Ij (by omega)]] at hih
    exact Ajd (by omega) hlen hx hc hp hih
theorem Zc(j:Nat)(hj:1<=j)(v:bd)(hn:v.az≠ [])(hv:v.size<=900):Aa PP 144 [dV v] bf (.dagg [di v.n,.arr 2 0 (I v.az)]) (p8 v.n (I v.az) (kL j v.az (I v.az)) (Gr j v.az (I v.az))):=by
 have hs:=v.size_eq
 have hpos:=List.length_pos_iff.2 hn
 obtain⟨x,hx⟩:∃x,v.az[0]?=G x:=⟨_,HQ hpos⟩
 have hc:=GU _ x (HX _) (by have:=bd.size_mem (HW hx);omega)
 have hlp:=Zd j v hv _ 0 rfl hpos
 rw[Ky j v.az 0,dp hx,show kL j v.az 0=[] from rfl,nil_append,iu,Ij (by omega),show Gr j v.az (0+1)=[] by rw[Gr,Ij (by omega)]] at hlp
 have h0:(v.az.map eV)[Z 0]?=G (Au x):=A1 (i:=0) hx
 have hlt:(0:Int)<(I (v.az.map eV):Int):=by rw[HP];omega
 generalize p8 v.n (I v.az) (kL j v.az (I v.az)) (Gr j v.az (I v.az))=out at hlp⊢
 generalize bj [di v.n,.arr 2 0 (I v.az)]=od at hlp⊢
 refine S2 mixed CB B6 (by kernel_rfl) (by kernel_rfl) (by kernel_rfl) (by kernel_rfl) 27 (by kernel_rfl) [1] (.h .rn<|.n<|.t<|.h (.xs (Au x))<|.c (dV x)<|.h (.p (.v (.list [Au x])))<|.h .g<|.lo [ke 1,ke 2,ke 3,ch 4 (di (1:Nat))] (fe v.n 1 (gk x) [])) ?_
 refine dq (by kernel_rfl:(Y (0<(I (map eV v.az):Int))=J/\Q 2/\iz 0<=0/\(map eV v.az)[Z 0]?=G (Au x)/\F0 144 [dV x] (dV x)/\(∀(τ:St),Ay PP (Oper.mk (G 23) (Op.buildSlice 29 1 #[(0,Operand.tmp 22)]) 29 "ref.go:96" #[Edge.mk 7 Ground.data] none) [dV x] τ (bt (ai [Au x])) τ)/\[Au x]≠ []/\(∀(y:V),y∈ [Au x]->V.size y=2)/\A9 1 32/\yn/\di (yr yq (0+1))=di (↑1:Int)/\cp 3 [] [G [di 0,dn],G [di v.n,bm 2 1 2],G [di x.n,cx x.az]]=J/\[G [di 0,dn],G [di v.n,bm 2 1 2],G [di x.n,cx x.az]]=[G [di 0,dn],G [di v.n,bm 2 1 2],G (gk x)]/\I0 CB (I bf.H) od out [kl B6 [1,1,0,1,0,0],bh 0,kc B6 [1,1,1]] (b9 27 [(1,bt (bz (Au v))),(2,bq 0 0),(3,bq 1 0),(4,di (↑1:Int))]) (fe v.n 1 (gk x) []))=_) ?_
 exact⟨HS hlt,rfl,Iv _,h0,hc,fun τ=>l7 x τ rfl,by simp,fun y hy=>by rw[Ii.1 hy];rfl,⟨by decide,by decide⟩,yl,Iq di (by decide),rfl,rfl,⟨hlp⟩⟩
structure ChX(m:ba):Prop where
 ok:m.ok
 kind:m.kind=2∨m.kind=3
 few:I m.av<=12/\1<=I m.ay/\m.ay.length<=2
 ax:I m.ax<=16
 au:m.kind=3->Ed m.au=J/\m.au.length=I m.ax
 rule:∀r∈m.av,l9 m r
theorem YB(l:List bd)(j:Nat):∀k:Nat,k<=j->k<=I l->kL j l k=Ad ((l.take k).map eV)
 |0,_,_=>rfl
 |k+1,h,hl=>by
  obtain⟨x,hx⟩:=@yi _ l k (by omega)
  rw[Ky,YB l j k (by omega) (by omega),dp hx,iu,Ij (by omega),Jn,hx,Option.toList_some, ←GS]
section
variable {m : ba} (hm : ChX m) {s : Int} {ws : List (List Int)} (h : iq m s ws) (out : List bd)
include hm h
end
abbrev lg(x:bd):List D:=Ad (x.az.map eV)
theorem Rp(x:bd):D.pls (lg x)=J:=A5 _
theorem AkZ(x:bd)(hn:x.az≠ [])(hv:x.size<=900):Aa PP 144 [dV x] bf (.dagg [di x.n,.arr 0 0 (I x.az)]) ⟨[G (lg x)],[]⟩:=by
 have h:=Zc (I x.az) (List.length_pos_iff.2 hn) x hn hv
 rw[YB x.az (I x.az) (I x.az) (HX _) (HX _),List.take_length,show Gr (I x.az) x.az (I x.az)=[] by rw[Gr,Ij (Nat.lt_irrefl _)]] at h
 refine Gn (σ:=bf) (T:=(p8 x.n (I x.az) (lg x) []).H) (fun i=>i+2) (I3 _) (fun i hi=>by simp at hi) (fun i j _ _ h=>by simpa using h) (fun i hi=>by simp at hi;subst hi;show 0+2<3;decide) (fun i cs hi=>?_) (by simp[D.okN,D.okNs]) (by simpa[D.ren,D.rens] using h)
 match i,hi with
 |0,hi=>simp at hi;subst hi;exact⟨by simp[AS (Rp x)],B2 (Rp x)⟩
 |i+1,hi=>simp at hi
theorem Aje{H:List (Option (List D))}{N:Nat}(hN:I H=N){x:bd}{F:List D}(hF:D.pls F=J)(hsp:Aa PP 144 [dV x] bf (.dagg [di x.n,.arr 0 0 (I x.az)]) ⟨[G F],[]⟩){o:yw}{cl:Call}{fo:x5}(ho:o.op=.call cl)(hc2:cl.callee=.value fo):
  Ay PP o [.v (.fn 144 [] []),dV x] ⟨H,[]⟩ (.dagg [di x.n,.arr N 0 (I x.az)]) ⟨H++[G F],[]⟩:=by
 subst hN
 have h:=B7 (σ:=⟨H,[]⟩) ho hc2 (fD:=.v (.fn 144 [] [])) rfl (ds:=[dV x]) [] id hsp (.cons (.ren (dc:=dV x) rfl) .nil) .nil (by simp) rfl (by simp) (by simp) (by simp[D.okN,D.okNs]) (by simp[cp,D.okN,D.okNs,B2 hF])
 simpa[Dp,CM,Ge,D.ren,D.rens,dv,AS hF] using h
noncomputable abbrev B5:=Tryz.f79
noncomputable def CL:=yj B5
abbrev Er(n:Int)(N:Nat)(C:List D):St:=⟨[G [di 0,.v .nils],G C,G [di n,.arr 1 0 N]],[]⟩
abbrev jy(n:Int)(xs:List bd):St:=Er n (I xs) (Ad (xs.map eV))
noncomputable abbrev GP:List KI:=[kl CL [1,1,1,1,0,1,0,0],.blk 2,kc CL [1,1,1,1,1]]
noncomputable abbrev jp:List KI:=[kl CL [1,1,1,1,0,1,0,0,1,0,0,1,0,0],.blk 4,.blk 3,kc CL [1,1,1,1,0,1,0,0,1,1]]
theorem Mi(A B:List bd)(a b:bd):(Ad ((A++a::B).map eV)).take (I A*2)++BK (dV b)++(Ad ((A++a::B).map eV)).drop (I A*2+2)=Ad ((A++b::B).map eV):=by
 have h:=BC A
 rw[DR,DR,AO,AO, ←h]
 simp[BK]
theorem Ah1(t:bc)(n:Int)(L R:List bd)(x y:bd)(hx:x.size<=1000000)(hlt:AB x y<0)(hN:I L+I R<=1000)(d:D)(σ':St)(i:Nat)
  (next:Rn PP B5 0 d σ' (jp++GP) (b9 117 [(2,.v (.ref (vT t))),(4,.ptr 0 0),(5,.ptr 2 0),(7,di i),(8,di (I L:Nat))]) (jy n (L++x::y::R))):
  Rn PP B5 0 d σ' (jp++GP) (b9 117 [(2,.v (.ref (vT t))),(4,.ptr 0 0),(5,.ptr 2 0),(7,di i),(8,di (I L+1:Nat))]) (jy n (L++y::x::R)):=by
 have hc:=GX _ x y (HX _) hx
 have s1:=Mi (L++[y]) R x y
 have s2:=Mi L (y::R) y x
 have d1:=Gx (l:=L++y::x::R) (i:=I L+1) (x:=x) (by simp)
 have d0:=Gx (l:=L++y::x::R) (i:=I L) (x:=y) (by simp)
 rw[show(L++[y])++x::R=L++y::x::R by simp,show(L++[y])++y::R=L++y::y::R by simp,show(L++[y]).length=I L+1 by simp] at s1
 have c1:=BC (L++y::x::R)
 have c2:=BC (L++y::y::R)
 have n1:I (L++y::x::R)=I L+I R+2:=by simp;omega
 have n2:I (L++y::y::R)=I L+I R+2:=by simp;omega
 have n3:I (L++x::y::R)=I L+I R+2:=by simp;omega
 have next:Rn PP B5 0 d σ' (jp++GP) (b9 117 [(2,.v (.ref (vT t))),(4,.ptr 0 0),(5,.ptr 2 0),(7,di i),(8,di (I L:Nat))]) (Er n (I L+I R+2) (Ad ((L++x::y::R).map eV))):=by rw[←n3];exact next
 show Rn PP B5 0 d σ' (jp++GP) (b9 117 [(2,.v (.ref (vT t))),(4,.ptr 0 0),(5,.ptr 2 0),(7,di i),(8,di (I L+1:Nat))]) (Er n (I (L++y::x::R)) (Ad ((L++y::x::R).map eV)))
 rw[n1]
 rw[n1] at c1
 rw[n2] at c2
 generalize Ad ((L++y::x::R).map eV)=C at*
 generalize Ad ((L++x::y::R).map eV)=C2 at*
 generalize Ad ((L++y::y::R).map eV)=C1 at*
 have hw:yr .i64 (((I L+1:Nat):Int)-1)=(I L:Int):=by rw[A2];omega
 have k1:0+Z ((I L+1:Nat):Int)*2=(I L+1)*2:=by omega
 have k0:0+Z (I L:Int)*2=I L*2:=by omega
 refine lv 117 [2,3] (.t<|.m (.arr 1 0 (I L+I R+2))<|.m (dV x)<|.m (.arr 1 0 (I L+I R+2))<|.m (dV y)<|.c (di (AB x y))<|.t<|.m (.arr 1 0 (I L+I R+2))<|.m (.arr 1 0 (I L+I R+2))<|.m (.arr 1 0 (I L+I R+2))<|.m (dV y)<|.m (.arr 1 0 (I L+I R+2))<|.m (dV x)<|.h .ww<|.h .ww<|.l [ke 2,ke 4,ke 5,ke 7,ch 8 (di (I L:Nat))]) (Y ((↑(I L+1):Int)>0)=J/\G (bo 1 0 (I L+I R+2))=G (bo 1 0 (I L+I R+2))/\0<=(↑(I L+1):Int)/\(↑(I L+1):Int)<(↑(I L+I R+2):Int)/\0+Z (↑(I L+1):Int)*2+2<=I C/\take 2 (W (0+Z (↑(I L+1):Int)*2) C)=[di x.n,cx x.az]/\G (bo 1 0 (I L+I R+2))=G (bo 1 0 (I L+I R+2))/\0<=yr yq ((↑(I L+1):Int)-1)/\yr yq ((↑(I L+1):Int)-1)<(↑(I L+I R+2):Int)/\0+Z (yr yq ((↑(I L+1):Int)-1))*2+2<=I C/\take 2 (W (0+Z (yr yq ((↑(I L+1):Int)-1))*2) C)=[di y.n,cx y.az]/\F0 14 [dV x,dV y] (di (AB x y))/\(yg (True))/\Y (AB x y<0)=J/\G (bo 1 0 (I L+I R+2))=G (bo 1 0 (I L+I R+2))/\G (bo 1 0 (I L+I R+2))=G (bo 1 0 (I L+I R+2))/\G (bo 1 0 (I L+I R+2))=G (bo 1 0 (I L+I R+2))/\0<=yr yq ((↑(I L+1):Int)-1)/\yr yq ((↑(I L+1):Int)-1)<(↑(I L+I R+2):Int)/\0+Z (yr yq ((↑(I L+1):Int)-1))*2+2<=I C/\take 2 (W (0+Z (yr yq ((↑(I L+1):Int)-1))*2) C)=[di y.n,cx y.az]/\G (bo 1 0 (I L+I R+2))=G (bo 1 0 (I L+I R+2))/\0<=(↑(I L+1):Int)/\(↑(I L+1):Int)<(↑(I L+I R+2):Int)/\0+Z (↑(I L+1):Int)*2+2<=I C/\take 2 (W (0+Z (↑(I L+1):Int)*2) C)=[di x.n,cx x.az]/\0<=(↑(I L+1):Int)/\(↑(I L+1):Int)<(↑(I L+I R+2):Int)/\0+Z (↑(I L+1):Int)*2+2<=I C/\0<=yr yq ((↑(I L+1):Int)-1)/\yr yq ((↑(I L+1):Int)-1)<(↑(I L+I R+2):Int)/\0+Z (yr yq ((↑(I L+1):Int)-1))*2+2<=I (take (0+Z (↑(I L+1):Int)*2) C++BK (bt (ab (vi y.n::cc y.az::nV)))++W (0+Z (↑(I L+1):Int)*2+2) C)/\(True/\(G [bo 1 0 (I L+I R+2)]=G [bo 1 0 (I L+I R+2)]/\True)/\True/\True/\True/\True/\True)/\di (yr yq ((↑(I L+1):Int)-1))=di (I L:Int)/\I0 B5 0 d σ' [kl CL [1,1,1,1,0,1,0,0,1,0,0,1,0,0],bh 4,bh 3,kc CL [1,1,1,1,0,1,0,0,1,1],kl CL [1,1,1,1,0,1,0,0],bh 2,kc CL [1,1,1,1,1]] (b9 117 [(2,bt (bz (vT t))),(4,bq 0 0),(5,bq 2 0),(7,di (i:Int)),(8,di (I L:Int))]) (bi [G [di 0,dn],G (take (0+Z (yr yq ((↑(I L+1):Int)-1))*2) (take (0+Z (↑(I L+1):Int)*2) C++[di y.n,cx y.az]++W (0+Z (↑(I L+1):Int)*2+2) C)++[di x.n,cx x.az]++W (0+Z (yr yq ((↑(I L+1):Int)-1))*2+2) (take (0+Z (↑(I L+1):Int)*2) C++[di y.n,cx y.az]++W (0+Z (↑(I L+1):Int)*2+2) C)),G [di n,bo 1 0 (I L+I R+2)]] [])) ?_
 simp only[hw,k1,k0]
 have e1:C.take ((I L+1)*2)++[di y.n,.v (cc y.az)]++C.drop ((I L+1)*2+2)=C1:=s1
 have e2:C1.take (I L*2)++[di x.n,.v (cc x.az)]++C1.drop (I L*2+2)=C2:=s2
 have e3:C.take ((I L+1)*2)++BK (.v (.agg (vi y.n::cc y.az::nV)))++C.drop ((I L+1)*2+2)=C1:=s1
 simp only[e1,e2,e3]
 refine⟨yp,trivial,by omega,by omega,by omega,d1,trivial,by omega,by omega,by omega,d0,hc,⟨trivial,trivial,trivial,trivial,trivial⟩,HS hlt,trivial,trivial,trivial,by omega,by omega,by omega,d0,trivial,by omega,by omega,by omega,d1,by omega,by omega,by omega,by omega,by omega,by omega,⟨trivial,yl,trivial,trivial,trivial,trivial,trivial⟩,trivial,⟨next⟩⟩
theorem AaQ(t:bc)(n:Int)(N:Nat)(C:List D)(d:D)(σ':St)(i:Nat)(hi:i<=1000)
  (next:Rn PP B5 0 d σ' (GP++[]) (b9 117 [(2,.v (.ref (vT t))),(4,.ptr 0 0),(5,.ptr 2 0),(7,di (i+1:Nat))]) (Er n N C)):
  Rn PP B5 0 d σ' (jp++GP) (b9 117 [(2,.v (.ref (vT t))),(4,.ptr 0 0),(5,.ptr 2 0),(7,di i),(8,di (0:Nat))]) (Er n N C):=by
 exact lv 117 [2,3] (.k<|.f<|.l [ke 2,ke 4,ke 5,ch 7 (di (i+1:Nat))]) (Q false/\di (yr yq ((i:Int)+1))=di (↑(i+1):Int)/\_) ⟨rfl,As,iK next⟩
theorem AaP(t:bc)(n:Int)(L R:List bd)(x y:bd)(hx:x.size<=1000000)(hlt:¬AB x y<0)(hN:I L+I R<=1000)(d:D)(σ':St)(i:Nat)(hi:i<=1000)
  (next:Rn PP B5 0 d σ' (GP++[]) (b9 117 [(2,.v (.ref (vT t))),(4,.ptr 0 0),(5,.ptr 2 0),(7,di (i+1:Nat))]) (jy n (L++y::x::R))):
  Rn PP B5 0 d σ' (jp++GP) (b9 117 [(2,.v (.ref (vT t))),(4,.ptr 0 0),(5,.ptr 2 0),(7,di i),(8,di (I L+1:Nat))]) (jy n (L++y::x::R)):=by
 have hc:=GX _ x y (HX _) hx
 have d1:=Gx (l:=L++y::x::R) (i:=I L+1) (x:=x) (by simp)
 have d0:=Gx (l:=L++y::x::R) (i:=I L) (x:=y) (by simp)
 have c1:=BC (L++y::x::R)
 have n1:I (L++y::x::R)=I L+I R+2:=by simp;omega
 have next:Rn PP B5 0 d σ' (GP++[]) (b9 117 [(2,.v (.ref (vT t))),(4,.ptr 0 0),(5,.ptr 2 0),(7,di (i+1:Nat))]) (Er n (I (L++y::x::R)) (Ad ((L++y::x::R).map eV))):=next
 show Rn PP B5 0 d σ' (jp++GP) (b9 117 [(2,.v (.ref (vT t))),(4,.ptr 0 0),(5,.ptr 2 0),(7,di i),(8,di (I L+1:Nat))]) (Er n (I (L++y::x::R)) (Ad ((L++y::x::R).map eV)))
 rw[n1] at next⊢
 rw[n1] at c1
 generalize Ad ((L++y::x::R).map eV)=C at*
 have hw:yr .i64 (((I L+1:Nat):Int)-1)=(I L:Int):=by rw[A2];omega
 have k1:0+Z ((I L+1:Nat):Int)*2=(I L+1)*2:=by omega
 have k0:0+Z (I L:Int)*2=I L*2:=by omega
 refine lv 117 [2,3] (.t<|.m (.arr 1 0 (I L+I R+2))<|.m (dV x)<|.m (.arr 1 0 (I L+I R+2))<|.m (dV y)<|.c (di (AB x y))<|.f<|.l [ke 2,ke 4,ke 5,ch 7 (di (i+1:Nat))]) (Y ((↑(I L+1):Int)>0)=J/\G (bo 1 0 (I L+I R+2))=G (bo 1 0 (I L+I R+2))/\0<=(↑(I L+1):Int)/\(↑(I L+1):Int)<(↑(I L+I R+2):Int)/\0+Z (↑(I L+1):Int)*2+2<=I C/\take 2 (W (0+Z (↑(I L+1):Int)*2) C)=[di x.n,cx x.az]/\G (bo 1 0 (I L+I R+2))=G (bo 1 0 (I L+I R+2))/\0<=yr yq ((↑(I L+1):Int)-1)/\yr yq ((↑(I L+1):Int)-1)<(↑(I L+I R+2):Int)/\0+Z (yr yq ((↑(I L+1):Int)-1))*2+2<=I C/\take 2 (W (0+Z (yr yq ((↑(I L+1):Int)-1))*2) C)=[di y.n,cx y.az]/\F0 14 [dV x,dV y] (di (AB x y))/\(yg (True))/\Y (AB x y<0)=O/\di (yr yq ((i:Int)+1))=di (↑(i+1):Int)/\I0 B5 0 d σ' GP (b9 117 [(2,bt (bz (vT t))),(4,bq 0 0),(5,bq 2 0),(7,di (↑(i+1):Int))]) (bi [G [di 0,dn],G C,G [di n,bo 1 0 (I L+I R+2)]] [])) ?_
 simp only[hw,k1,k0]
 refine⟨yp,trivial,by omega,by omega,by omega,d1,trivial,by omega,by omega,by omega,d0,hc,⟨trivial,trivial,trivial,trivial,trivial⟩,HU hlt,As,⟨next⟩⟩
theorem Ah2(t:bc)(n:Int)(N:Nat)(C:List D)(d:D)(σ':St)(i:Nat)(hi:i<N)
  (next:Rn PP B5 0 d σ' (jp++GP) (b9 117 [(2,.v (.ref (vT t))),(4,.ptr 0 0),(5,.ptr 2 0),(7,di i),(8,di i)]) (Er n N C)):
  Rn PP B5 0 d σ' (GP++[]) (b9 117 [(2,.v (.ref (vT t))),(4,.ptr 0 0),(5,.ptr 2 0),(7,di i)]) (Er n N C):=by
 exact lv 117 [2,3] (.t<|.l [ke 2,ke 4,ke 5,ke 7,ch 8 (di i)]) (Y ((i:Int)<(N:Int))=J/\Q (di (i:Int))/\_) ⟨yp,rfl,iK next⟩
theorem Afa(t:bc)(n:Int)(xs:List bd)(i:Nat)(hi:¬i<I xs):
  Rn PP B5 0 (dV (.mk n xs)) bf (GP++[]) (b9 117 [(2,.v (.ref (vT t))),(4,.ptr 0 0),(5,.ptr 2 0),(7,di i)]) (jy n xs):=by
 have sz2:∀l:List bd,∀v∈l.map eV,v.size=2:=fun l v hv=>by
  obtain⟨y,_,rfl⟩:=IA.1 hv
  rw[AR];rfl
 have hcv:=fun e=>FU (σ:=jy n xs) (p:=2) (q:=1) (i:=1) (sz:=2) (cs:=[di n,.arr 1 0 (I xs)]) (xs:=xs.map eV) (by decide) rfl rfl (by decide) (by rw[HP];rfl) (sz2 xs) e
 refine Xr (hcv _) ?_
 show Rn PP B5 0 (dV (.mk n xs)) bf (GP++[]) (b9 117 [(2,.v (.ref (vT t))),(4,.ptr 0 0),(5,.ptr 2 0),(7,di i)]) ⟨[G [di 0,.v .nils],none,G [di n,cx xs]],[]⟩
 exact lv 117 [2,3] (.f<|.r) (Y ((i:Int)<(I (U eV xs):Int))=O/\Q (dV (bd.mk n xs))) ⟨HU (by rw[HP];omega),rfl⟩
abbrev rq(a b:bd):Prop:=AB a b<=0
theorem AeZ(t:bc)(n:Int)(i:Nat)(hi:i<=1000)(S:List bd)(x:bd)(hx:x.size<=1000000)(d:D)(σ':St)(m:Nat):∀L R:List bd,I L=m->I L+I R+I S<=1000->(L++R).Pairwise rq->(∀r∈R,AB x r<=0)->
  (∀ys:List bd,ys.Perm (L++x::R)->ys.Pairwise rq->Rn PP B5 0 d σ' (GP++[]) (b9 117 [(2,.v (.ref (vT t))),(4,.ptr 0 0),(5,.ptr 2 0),(7,di (i+1:Nat))]) (jy n (ys++S)))->
  Rn PP B5 0 d σ' (jp++GP) (b9 117 [(2,.v (.ref (vT t))),(4,.ptr 0 0),(5,.ptr 2 0),(7,di i),(8,di (I L:Nat))]) (jy n (L++x::R++S)):=by
 induction m with
 |zero=>
  intro L R hl hN hp hR next
  obtain rfl:L=[]:=List.length_eq_zero_iff.1 hl
  exact AaQ t n _ _ d σ' i hi (next (x::R) (List.Perm.refl _) (List.pairwise_cons.2 ⟨hR,hp⟩))
 |succ m ih=>
  intro L R hl hN hp hR next
  obtain⟨L',y,rfl⟩:∃L' y,L=L'++[y]:=⟨L.dropLast,L.getLast (by intro h;rw[h] at hl;simp at hl),(List.dropLast_concat_getLast _).symm⟩
  simp only[Ig,List.length_singleton] at hl hN
  have e0:L'++[y]++x::R++S=L'++y::x::(R++S):=by simp
  rw[e0,show(L'++[y]).length=I L'+1 by simp]
  by_cases hlt:AB x y<0
  ·refine Ah1 t n L' (R++S) x y hx hlt (by rw[Ig];omega) d σ' i ?_
   have h:=ih L' (y::R) (by omega) (by simp only[HV];omega) (by simpa using hp) (fun r hr=>by
    rcases I8.1 hr with rfl|hr
    ·omega
    ·exact hR r hr) (fun ys hy hs=>next ys (hy.trans (by
     have:=(List.perm_middle (a:=y) (l₁:=L'++[x]) (l₂:=R))
     simp only[IZ,List.singleton_append,J7,nil_append] at this⊢
     exact(List.Perm.append_left L' (List.Perm.swap y x R)))) hs)
   rw[show L'++x::y::R++S=L'++x::y::(R++S) by simp] at h
   exact h
  ·refine AaP t n L' (R++S) x y hx hlt (by rw[Ig];omega) d σ' i hi ?_
   rw[←e0]
   refine next (L'++[y]++x::R) (List.Perm.refl _) ?_
   have hyx:AB y x<=0:=(FQ y x).2 hlt
   rw[List.pairwise_append] at hp⊢
   refine⟨hp.1,List.pairwise_cons.2 ⟨hR,hp.2.1⟩,fun a ha b hb=>?_⟩
   rcases I8.1 hb with rfl|hb
   ·rcases IE.1 ha with ha'|ha'
    ·exact Ez ((List.pairwise_append.1 hp.1).2.2 a ha' y (by simp)) hyx
    ·simp only[Ii] at ha';subst ha';exact hyx
   ·exact hp.2.2 a ha b hb
theorem AaY(t:bc)(n:Int)(T:List bd)(hT:I T<=900)(hz:∀x∈T,x.size<=1000000)(m:Nat):∀(i:Nat) (xs:List bd),1<=i->I T-i=m->xs.Perm T->(xs.take i).Pairwise rq->
  Rn PP B5 0 (dV (.mk n (sortV T))) bf (GP++[]) (b9 117 [(2,.v (.ref (vT t))),(4,.ptr 0 0),(5,.ptr 2 0),(7,di i)]) (jy n xs):=by
 induction m with
 |zero=>
  intro i xs hi hm hp hs
  have hl:=hp.length_eq
  have e:xs=sortV T:=NQ hp (by rw[Iw (by omega)] at hs;exact hs.imp fun h=>HS h)
  rw[←e]
  exact Afa t n xs i (by omega)
 |succ m ih=>
  intro i xs hi hm hp hs
  have hl:=hp.length_eq
  obtain⟨x,hx⟩:=yi (show i<I xs by omega)
  have hxs:xs=xs.take i++[x]++xs.drop (i+1):=by
   conv=>lhs;rw[←List.take_append_drop (i+1) xs,Jn,hx]
   rfl
  have hli:I (xs.take i)=i:=by rw[Iy];omega
  refine Ah2 t n _ _ _ _ i (by omega) ?_
  have h:=AeZ t n i (by omega) (xs.drop (i+1)) x (hz x (hp.mem_iff.1 (HW hx))) (dV (.mk n (sortV T))) bf _ (xs.take i) [] rfl (by rw[hli,IY,HZ];omega) (by rw[IG];exact hs) (fun r hr=>by simp at hr) (fun ys hy hs'=>by
   have hyl:=hy.length_eq
   rw[Ig,hli,List.length_singleton] at hyl
   refine ih (i+1) (ys++xs.drop (i+1)) (by omega) (by omega) ?_ (by rw[J0 (by omega),Iw (by omega)];exact hs')
   exact(hy.append_right (xs.drop (i+1))).trans (by rw[←hxs];exact hp))
  rw[hli, ←hxs] at h
  exact h
noncomputable abbrev RJ:List KI:=[kl CL [1,1,0,1,0,0],.blk 0,kc CL [1,1,1]]
theorem AaU(l:List bc)(n:Int)(N k:Nat)(hk:k<N)(hN:N<=1000)(C C':List D)(hC:I C=N*2)(t:bc)(x x':bd)(hx:(C.drop (k*2)).take 2=[.v (vi x.n),.v (cc x.az)])(hC':C.take (k*2)++[.v (vi x'.n),.v (cc x'.az)]++C.drop (k*2+2)=C')(ht:l[k]?=G t)(hc:F0 79 [dT t,dV x] (dV x'))(d:D)(σ':St)
  (next:Rn PP B5 0 d σ' (RJ++[]) (b9 117 [(2,.v (.ref (vT (.prod l)))),(4,.ptr 0 0),(5,.ptr 2 0),(6,di (k+1:Nat))]) (Er n N C')):
  Rn PP B5 0 d σ' (RJ++[]) (b9 117 [(2,.v (.ref (vT (.prod l)))),(4,.ptr 0 0),(5,.ptr 2 0),(6,di k)]) (Er n N C):=by
 have k0:0+Z (k:Int)*2=k*2:=by omega
 refine lv 117 [2,3] (.t<|.k<|.t<|.m (.arr 1 0 N)<|.x (vT t)<|.m (.arr 1 0 N)<|.m (dV x)<|.c (dV x')<|.h .ww<|.k<|.f<|.l [ke 2,ke 4,ke 5,ch 6 (di (k+1:Nat))]) (Y ((k:Int)<(N:Int))=J/\Y ((k:Int)<(I (U eT (bc.ps (bc.prod l))):Int))=J/\G (bo 1 0 N)=G (bo 1 0 N)/\0<=(k:Int)/\(U eT (bc.ps (bc.prod l)))[Z (k:Int)]?=G (vT t)/\G (bo 1 0 N)=G (bo 1 0 N)/\0<=(k:Int)/\(k:Int)<(N:Int)/\0+Z (k:Int)*2+2<=I C/\take 2 (W (0+Z (k:Int)*2) C)=[di x.n,cx x.az]/\F0 79 [bt (vT t),dV x] (dV x')/\0<=(k:Int)/\(k:Int)<(N:Int)/\0+Z (k:Int)*2+2<=I C/\(yh (True))/\(bc.kd (bc.prod l)==5)=O/\di (yr yq ((k:Int)+1))=di (↑(k+1):Int)/\I0 B5 0 d σ' [kl CL [1,1,0,1,0,0],bh 0,kc CL [1,1,1]] (b9 117 [(2,bt (bz (vT (bc.prod l)))),(4,bq 0 0),(5,bq 2 0),(6,di (↑(k+1):Int))]) (bi [G [di 0,dn],G (take (0+Z (k:Int)*2) C++[di x'.n,cx x'.az]++W (0+Z (k:Int)*2+2) C),G [di n,bo 1 0 N]] [])) ?_
 simp only[k0]
 have hC2:C.take (k*2)++[di x'.n,.v (cc x'.az)]++C.drop (k*2+2)=C':=hC'
 simp only[hC2]
 have hlt:=(HT.1 ht).1
 refine⟨yp,HS (by rw[HP];show(k:Int)<(I l:Int);omega),trivial,by omega,?_,trivial,by omega,by omega,by omega,hx,hc,by omega,by omega,by omega,⟨trivial,trivial,trivial,trivial⟩,rfl,As,⟨next⟩⟩
 show(l.map eT)[Z (k:Int)]?=_
 rw[I9,show Z (k:Int)=k by omega,ht]
 exact Iq G (HJ t)
theorem AaS(t:bc)(n:Int)(N k:Nat)(hk:k<N)(hN:N<=1000)(C C':List D)(hC:I C=N*2)(x x':bd)(hx:(C.drop (k*2)).take 2=[.v (vi x.n),.v (cc x.az)])(hC':C.take (k*2)++[.v (vi x'.n),.v (cc x'.az)]++C.drop (k*2+2)=C')(hc:F0 79 [dT t,dV x] (dV x'))(d:D)(σ':St)
  (next:Rn PP B5 0 d σ' (RJ++[]) (b9 117 [(2,.v (.ref (vT (.bag t)))),(4,.ptr 0 0),(5,.ptr 2 0),(6,di (k+1:Nat))]) (Er n N C')):
  Rn PP B5 0 d σ' (RJ++[]) (b9 117 [(2,.v (.ref (vT (.bag t)))),(4,.ptr 0 0),(5,.ptr 2 0),(6,di k)]) (Er n N C):=by
 have k0:0+Z (k:Int)*2=k*2:=by omega
 refine lv 117 [2,3] (.t<|.k<|.f<|.k<|.t<|.m (.arr 1 0 N)<|.x (vT t)<|.m (.arr 1 0 N)<|.m (dV x)<|.c (dV x')<|.h .ww<|.l [ke 2,ke 4,ke 5,ch 6 (di (k+1:Nat))]) (Y ((k:Int)<(N:Int))=J/\false=O/\(bc.kd (bc.bag t)==5)=J/\G (bo 1 0 N)=G (bo 1 0 N)/\iz 0<=0/\G (eT t)=G (vT t)/\G (bo 1 0 N)=G (bo 1 0 N)/\0<=(k:Int)/\(k:Int)<(N:Int)/\0+Z (k:Int)*2+2<=I C/\take 2 (W (0+Z (k:Int)*2) C)=[di x.n,cx x.az]/\F0 79 [bt (vT t),dV x] (dV x')/\0<=(k:Int)/\(k:Int)<(N:Int)/\0+Z (k:Int)*2+2<=I C/\(yh (True))/\di (yr yq ((k:Int)+1))=di (↑(k+1):Int)/\I0 B5 0 d σ' [kl CL [1,1,0,1,0,0],bh 0,kc CL [1,1,1]] (b9 117 [(2,bt (bz (vT (bc.bag t)))),(4,bq 0 0),(5,bq 2 0),(6,di (↑(k+1):Int))]) (bi [G [di 0,dn],G (take (0+Z (k:Int)*2) C++[di x'.n,cx x'.az]++W (0+Z (k:Int)*2+2) C),G [di n,bo 1 0 N]] [])) ?_
 simp only[k0]
 have hC2:C.take (k*2)++[di x'.n,.v (cc x'.az)]++C.drop (k*2+2)=C':=hC'
 simp only[hC2]
 exact⟨yp,trivial,rfl,trivial,by decide,Iq G (HJ t),trivial,by omega,by omega,by omega,hx,hc,by omega,by omega,by omega,⟨trivial,trivial,trivial,trivial⟩,As,⟨next⟩⟩
theorem AaW(t:bc)(n:Int):F0 79 [dT t,dV (.mk n [])] (dV (.mk n [])):=by
 have hc:=GU _ (.mk n []) (HX _) (by show 1<=_;decide)
 by_cases h5:t.kd=5
 ·exact sv B5 117 [2,3] (.c (dV (.mk n []))<|.n<|.k<|.f<|.n<|.k<|.r) (_/\(bc.kd t !=5)=O/\Q (dV (bd.mk n []))) ⟨hc,by rw[h5];rfl,rfl⟩
 ·exact sv B5 117 [2,3] (.c (dV (.mk n []))<|.n<|.k<|.t<|.r) (_/\(bc.kd t !=5)=J/\Q (dV (bd.mk n []))) ⟨hc,bne_iff_ne.2 h5,rfl⟩
end Go.Proofs.YthmjfmacdlhfjaaGreat
