/-
  A part of the proof.
-/
import Derived.Test.YtkkplhjidondkaaGreatZa
import Derived.Laws.CopyRow
import Derived.Lib.AppendZeros
namespace Go.Dv
open List (length_pos_iff length_set map_map replicate)
open Go.IntKind (u64)
open Go.IntKind renaming wrap → yu, i64 → yt
open List renaming length → I, map → U, drop → W
open Option renaming some → G
open Bool renaming true → J, false → O
open Decidable renaming decide → Y
open Int renaming toNat → Z
open Go.Dv.V renaming list → ai, str → ae, agg → ab, int → aa, ref → bz, fn → bw, nils → bv, bool → bu
open Go.Dv.D renaming v → bt, acc → br, ptr → bq, arr → bo, gro → bm, tup → bk, undef → bj, dagg → bi
open Go.Dv.St renaming mk → bh
open Go.Dv.KI renaming blk → bf
open _root_.ByteArray renaming mk → bc
open Go renaming Operand → x8, Program → x7, TypeId → x6, World → x5, Value → yz, Oper → yy, FuncId → yx, Func → yw, IntKind → yv
def Cy:List (Option (List D))->List Nat->List (Option (List D))->List (Option (List D))
 |H,q::qs,o::os=>Cy (H.set q o) qs os
 |H,[],os=>H++os
 |H,_::_,[]=>H
def ez(n:Nat)(qs:List Nat)(j:Nat):Nat:=match qs[j]? with
 |some q=>q
 |none=>n+(j-I qs)
theorem Lt:∀(qs:List Nat) (H os:List (Option (List D))),I qs<=I os->I (Cy H qs os)=I H+(I os-I qs)
 |[],H,os,_=>by simp[Cy]
 |q::qs,H,[],h=>by grind
 |q::qs,H,o::os,h=>by
  simp only[Cy]
  rw[Lt qs _ os (by grind)]
  simp
theorem Sh:∀(qs:List Nat) (H os:List (Option (List D))),I qs<=I os->∀{i:Nat} {cs:List D},(Cy H qs os)[i]?=G (G cs)->
  (∃j,ez (I H) qs j=i/\os[j]?=G (G cs))∨(i<I H/\i∉qs/\H[i]?=G (G cs))
 |[],H,os,_,i,cs,h=>by
  grind[Cy,ez]
 |q::qs,H,[],h,_,_,_=>by grind
 |q::qs,H,o::os,h,i,cs,hg=>by
  rcases Sh qs (H.set q o) os (by grind) hg with⟨j,h1,h2⟩|⟨h1,h2,h3⟩
  ·refine .inl ⟨j+1,?_,by grind⟩
   grind[ez]
  ·simp only[length_set] at h1
   rw[List.getElem?_set] at h3
   split at h3
   ·rename_i e;subst e
    simp only[h1,IT,Ir] at h3
    exact .inl ⟨0,by rfl,by grind⟩
   grind
def ij(g:Gh)(qs:List Nat):Gh:={ M:=g.M,β:=fun j=>g.β (qs.getD j 0),n:=I qs,ι:=fun _ _=>none,κ:=fun j=>g.κ (qs.getD j 0)}
theorem VK{qs:List Nat}{j q:Nat}(h:qs[j]?=G q):qs.getD j 0=q:=by grind
theorem dm.callee{g:Gh}{σ σc:St}{w:x5}(h:dm g σ w){qs:List Nat}(hnd:qs.Nodup)(hown:σc.own=[])(hlen:I σc.H=I qs)
  (hq:∀(j q:Nat) (csc:List D),qs[j]?=G q->σc.H[j]?=G (G csc)->∃cs,σ.H[q]?=G (G cs)/\(∀us,Af g cs us->Af (ij g qs) csc us)/\∀c∈csc,c.one=J):dm (ij g qs) σc w where
 n:=hlen.symm
 mem:=h.mem
 gl:=h.gl
 gw:=h.gw
 obj:=fun j csc hj=>by
  have hlt:j<I qs:=by grind
  have hqj:qs[j]?=G qs[j]:=HI hlt
  obtain⟨cs,h1,h2,h3⟩:=hq j _ csc hqj hj
  obtain⟨us,rest,e,hb,hr,_,hM,hκ⟩:=h.obj _ cs h1
  have e1:(ij g qs).β j=g.β qs[j]:=by grind[ij]
  have e2:(ij g qs).κ j=g.κ qs[j]:=by grind[ij]
  exact⟨us,rest,e,by grind,h2 us hr,h3,by rw[e1];exact hM,by omega⟩
 inj:=fun i j c1 c2 hi hj hij=>by
  have hlti:i<I qs:=by grind
  have hltj:j<I qs:=by grind
  have hqi:qs[i]?=G qs[i]:=HI hlti
  have hqj:qs[j]?=G qs[j]:=HI hltj
  obtain⟨ci,h1,_⟩:=hq i _ c1 hqi hi
  obtain⟨cj,h2,_⟩:=hq j _ c2 hqj hj
  simp only[ij,VK hqi,VK hqj] at hij
  have:=h.inj _ _ _ _ h1 h2 hij
  grind[List.getElem_inj]
 own:=fun k sz xs hx=>by grind
 tags:=by grind
 sep:=fun x hx=>by grind
 ownObj:=fun x hx=>by grind
 fresh:=fun _ _ _=>rfl
def Dz(g gc':Gh)(k:Nat)(own':List (Nat×Nat×List V))(τ:Nat->Nat):Gh:=
 { M:=gc'.M,n:=g.n+(gc'.n-k),β:=fun j=>if j<g.n then g.β j else gc'.β (k+(j-g.n)),κ:=fun j=>if j<g.n then g.κ j else gc'.κ (k+(j-g.n)),ι:=fun t m=>match own'.find? (fun x=>τ x.1==t) with|G x=>gc'.ι x.1 m|none=>g.ι t m }
def DM(τ:Nat->Nat)(own':List (Nat×Nat×List V)):List (Nat×Nat×List V):=own'.map fun x=>(τ x.1,x.2)
theorem GF{g gc':Gh}{k:Nat}{own':List (Nat×Nat×List V)}{τ:Nat->Nat}(hτ:∀x∈own',∀y∈own',τ x.1=τ y.1->x.1=y.1){y:Nat×Nat×List V}(hy:y∈own')(m:Nat):(Dz g gc' k own' τ).ι (τ y.1) m=gc'.ι y.1 m:=by
 grind[Dz]
theorem Cn{g gc':Gh}{k:Nat}{own':List (Nat×Nat×List V)}{τ:Nat->Nat}{t:Nat}(h:∀x∈own',τ x.1≠t)(m:Nat):(Dz g gc' k own' τ).ι t m=g.ι t m:=by
 grind[Dz]
theorem WI.back{E:cd}{g gc':Gh}{σ σc σc':St}{w w':x5}(hw:WI E g σ w){qs:List Nat}(hown:σc.own=[])(hlen:I σc.H=I qs)
  (hq:∀(j q:Nat),qs[j]?=G q->∃cs,σ.H[q]?=G (G cs)) (h:WI ⟨ij g qs,w,σc⟩ gc' σc' w') {τ:Nat->Nat} (hτ:∀x∈σc'.own,∀y∈σc'.own,τ x.1=τ y.1->x.1=y.1)
  (hfr:∀x∈σc'.own,∀y∈σ.own,τ x.1≠y.1) {H2:List (Option (List D))} (hlen2:I H2=I σc'.H)
  (hout:∀(j:Nat) (cs2:List D),H2[j]?=G (G cs2)->∃csc,σc'.H[j]?=G (G csc)/\(∀us,Af gc' csc us->Af (Dz g gc' (I qs) σc'.own τ) cs2 us)/\∀c∈cs2,c.one=J):
  WI E (Dz g gc' (I qs) σc'.own τ) ⟨Cy σ.H qs H2,DM τ σc'.own++σ.own⟩ w'/\g.le (Dz g gc' (I qs) σc'.own τ):=by
 have hn':gc'.n=I σc'.H:=h.rep.n
 have hkn:I qs<=gc'.n:=h.nE
 have hgn:g.n=I σ.H:=hw.rep.n
 have hold:∀y∈σ.own,∀x∈σc'.own,τ x.1≠y.1:=fun y hy x hx=>hfr x hx y hy
 have hle:g.le (Dz g gc' (I qs) σc'.own τ):=by
  refine⟨h.M,Nat.le_add_right _ _,fun o ho=>Ie ho,fun t m u ht=>?_,fun o ho=>Ie ho⟩
  by_cases hx:∃x∈σc'.own,τ x.1=t
  ·obtain⟨x,hx,rfl⟩:=hx
   rw[hw.rep.fresh (τ x.1) (fun y hy e=>hfr x hx y hy e.symm) m] at ht
   grind
  grind[Dz]
 -- the callee's blocks
 have hpriv:∀b,cd.priv ⟨ij g qs,w,σc⟩ b->∃(j q:Nat),qs[j]?=G q/\b=g.β q:=by
  rintro b (⟨j,cs,hj,e⟩|⟨x,hx,_⟩)
  all_goals grind[ij]
 have hβ:∀j,j<gc'.n->(Dz g gc' (I qs) σc'.own τ).β (ez (I σ.H) qs j)=gc'.β j/\(Dz g gc' (I qs) σc'.own τ).κ (ez (I σ.H) qs j)=gc'.κ j:=by
  intro j hj
  by_cases hlt:j<I qs
  ·have h2:=h.βE j hlt
   have h3:=h.κE j hlt
   grind[ij,ez,Dz]
  grind[ez,Dz]
 -- what a block of the callee can be
 have hobjc:∀(j:Nat) (csc:List D),σc'.H[j]?=G (G csc)->w.heap.size<=gc'.β j∨∃(j' q:Nat),qs[j']?=G q/\gc'.β j=g.β q:=by
  intro j csc hj
  rcases h.objs j csc hj with h1|h1
  all_goals grind
 have hownc:∀x∈σc'.own,∀u,gc'.ι x.1 (I x.2.2)=G u->∀b,Co u=G b->w.heap.size<=b∨∃(j' q:Nat),qs[j']?=G q/\b=g.β q:=by
  intro x hx u hu b hb
  rcases h.owns x hx u hu b hb with h1|h1
  all_goals grind
 have hoff:∀(i:Nat) (cs:List D),σ.H[i]?=G (G cs)->i∉qs->∀(j q:Nat),qs[j]?=G q->g.β i≠g.β q:=by
  intro i cs hi hni j q hj e
  obtain⟨c2,h2⟩:=hq j q hj
  have:=hw.rep.inj i q _ _ hi h2 e
  grind
 have keepOld:∀(i:Nat) (cs:List D),σ.H[i]?=G (G cs)->i∉qs->w'.heap[g.β i]?=w.heap[g.β i]?/\∀o,gc'.M (g.β i) o=g.M (g.β i) o:=by
  intro i cs hi hni
  refine h.keep (g.β i) (hw.rep.obj_lt hi) (fun hp=>?_)
  grind
 have keepOwn:∀x∈σ.own,∀u,g.ι x.1 (I x.2.2)=G u->∀b,Co u=G b->(b<w.heap.size/\∀(j q:Nat),qs[j]?=G q->b≠g.β q)/\w'.heap[b]?=w.heap[b]?/\∀o,gc'.M b o=g.M b o:=by
  intro x hx u hu b hb
  have hlt:=hw.rep.own_lt hx hu hb
  have hne:∀(j q:Nat),qs[j]?=G q->b≠g.β q:=fun j q hj e=>by
   obtain⟨c2,h2⟩:=hq j q hj
   exact hw.rep.ownObj x hx u hu b hb q c2 h2 e.symm
  refine⟨⟨hlt,hne⟩,h.keep b hlt (fun hp=>?_)⟩
  grind
 have get:∀{i:Nat} {cs:List D},(Cy σ.H qs H2)[i]?=G (G cs)->(∃j,ez (I σ.H) qs j=i/\H2[j]?=G (G cs)/\j<gc'.n)∨(i<I σ.H/\i∉qs/\σ.H[i]?=G (G cs)):=by
  intro i cs hi
  rcases Sh qs σ.H H2 (by omega) hi with⟨j,h1,h2⟩|h1
  all_goals grind
 have memO:∀{x:Nat×Nat×List V},x∈DM τ σc'.own++σ.own->(∃y∈σc'.own,x=(τ y.1,y.2))∨x∈σ.own:=by
  grind[DM]
 refine⟨hw.update (fun b=>∃(j q:Nat),qs[j]?=G q/\b=g.β q) ?_ (fun b hb hx=>h.keep b hb (fun hp=>hx (hpriv b hp))) h.M (Nat.le_add_right _ _) (fun o ho=>Ie ho) (fun o ho=>Ie ho) h.size h.os h.tape h.output ?_ ?_ ?_ (drawn:=h.drawn),hle⟩
 ·rintro b ⟨j,q,hj,rfl⟩
  obtain⟨c2,h2⟩:=hq j q hj
  exact hw.objs q c2 h2
 ·refine⟨?_,h.rep.mem,fun i cs hi=>?_,fun i j c1 c2 hi hj hij=>?_,fun k sz xs hx=>?_,?_,fun x hx y hy hne u u' hu hu' b hb=>?_,fun x hx u hu b hb i cs hi=>?_,fun k hk m=>?_,h.rep.gl,h.rep.gw⟩
  ·grind[Dz,Lt]
  ·rcases get hi with⟨j,rfl,h2,hj⟩|⟨h1,h2,h3⟩
   ·obtain⟨csc,h4,h5,h6⟩:=hout j cs h2
    obtain⟨us,rest,e,hb,hr,_,hM,hκ⟩:=h.rep.obj j csc h4
    obtain⟨e1,e2⟩:=hβ j hj
    exact⟨us,rest,e,by grind,h5 us hr,h6,by rw[e1];exact hM,by omega⟩
   ·obtain⟨us,rest,e,hb,hr,h4,hM,hκ⟩:=hw.rep.obj i cs h3
    obtain⟨k1,k2⟩:=keepOld i cs h3 h2
    have e1:(Dz g gc' (I qs) σc'.own τ).β i=g.β i:=Ie (by omega)
    have e2:(Dz g gc' (I qs) σc'.own τ).κ i=g.κ i:=Ie (by omega)
    exact⟨us,rest,e,by grind,Af.mono hle _ _ hr,h4,by rw[e1];exact fun o=>(k2 o).trans (hM o),by omega⟩
  ·rcases get hi with⟨ji,rfl,h2,hji⟩|⟨h1,h2,h3⟩<;>rcases get hj with⟨jj,rfl,h5,hjj⟩|⟨h4,h5,h6⟩
   ·rw[(hβ ji hji).1,(hβ jj hjj).1] at hij
    obtain⟨ci,hci,_⟩:=hout ji _ h2
    obtain⟨cj,hcj,_⟩:=hout jj _ h5
    rw[h.rep.inj ji jj _ _ hci hcj hij]
   ·rw[(hβ ji hji).1,show(Dz g gc' (I qs) σc'.own τ).β j=g.β j from Ie (by omega)] at hij
    have hlt:=hw.rep.obj_lt h6
    grind
   ·rw[(hβ jj hjj).1,show(Dz g gc' (I qs) σc'.own τ).β i=g.β i from Ie (by omega)] at hij
    have hlt:=hw.rep.obj_lt h3
    grind
   ·rw[show(Dz g gc' (I qs) σc'.own τ).β i=g.β i from Ie (by omega),show(Dz g gc' (I qs) σc'.own τ).β j=g.β j from Ie (by omega)] at hij
    exact hw.rep.inj i j _ _ h3 h6 hij
  ·rcases memO hx with⟨y,hy,e⟩|hx
   ·obtain⟨h0,u,hu,h3,h4,h5⟩:=h.rep.own y.1 sz xs (by grind)
    grind[GF,Dz]
   ·obtain⟨h0,u,hu,h3,h4,h5⟩:=hw.rep.own k sz xs hx
    exact⟨h0,u,by grind[Cn],h3.mono h.M,h4.kept fun b hb=>(keepOwn _ hx u hu b hb).2,fun m hm=>by grind[Cn]⟩
  ·simp only[IZ]
   refine List.nodup_append.2 ⟨?_,hw.rep.tags,fun a ha b hb e=>?_⟩
   ·have:(DM τ σc'.own).map (·.1)=(σc'.own.map (·.1)).map τ:=by simp[DM]
    rw[this]
    refine List.pairwise_map.2 (List.Pairwise.imp_of_mem ?_ h.rep.tags)
    grind
   ·obtain⟨x,hx,rfl⟩:=I2.1 ha
    obtain⟨z,hz,rfl⟩:=I2.1 hx
    grind
  ·rcases memO hx with⟨x',hx',rfl⟩|hx<;>rcases memO hy with⟨y',hy',rfl⟩|hy
   ·rw[GF hτ hx'] at hu;rw[GF hτ hy'] at hu'
    exact h.rep.sep x' hx' y' hy' (fun e=>hne (by grind)) u u' hu hu' b hb
   ·rw[GF hτ hx'] at hu;rw[Cn (hold _ hy)] at hu'
    grind
   ·grind[Cn,GF]
   ·rw[Cn (hold _ hx)] at hu;rw[Cn (hold _ hy)] at hu'
    exact hw.rep.sep x hx y hy hne u u' hu hu' b hb
  ·rcases memO hx with⟨x',hx',rfl⟩|hx<;>rcases get hi with⟨ji,rfl,h2,hji⟩|⟨h1,h2,h3⟩
   ·rw[GF hτ hx'] at hu
    obtain⟨ci,hci,_⟩:=hout ji _ h2
    rw[(hβ ji hji).1]
    exact h.rep.ownObj x' hx' u hu b hb ji ci hci
   ·rw[GF hτ hx'] at hu
    rw[show(Dz g gc' (I qs) σc'.own τ).β i=g.β i from Ie (by omega)]
    have hlt:=hw.rep.obj_lt h3
    grind
   ·grind[Cn]
   ·rw[Cn (hold _ hx)] at hu
    rw[show(Dz g gc' (I qs) σc'.own τ).β i=g.β i from Ie (by omega)]
    exact hw.rep.ownObj x hx u hu b hb i cs h3
  ·rw[Cn (fun x hx e=>hk (τ x.1,x.2) (I6.2 (.inl (I2.2 ⟨x,hx,rfl⟩))) e)]
   exact hw.rep.fresh k (fun x hx=>hk x (I6.2 (.inr hx))) m
 ·intro i cs hi
  rcases get hi with⟨j,rfl,h2,hj⟩|⟨h1,h2,h3⟩
  ·obtain⟨csc,h4,_⟩:=hout j cs h2
   rw[(hβ j hj).1]
   rcases hobjc j csc h4 with h5|⟨j',q,h5,h6⟩
   ·exact .inl (IE hw.size h5)
   ·obtain⟨c2,h7⟩:=hq j' q h5
    rw[h6];exact hw.objs q c2 h7
  ·rw[show(Dz g gc' (I qs) σc'.own τ).β i=g.β i from Ie (by omega)]
   exact hw.objs i cs h3
 ·intro x hx u hu b hb
  rcases memO hx with⟨x',hx',rfl⟩|hx
  ·rw[GF hτ hx'] at hu
   rcases hownc x' hx' u hu b hb with h5|⟨j',q,h5,h6⟩
   ·exact .inl (IE hw.size h5)
   ·obtain⟨c2,h7⟩:=hq j' q h5
    rw[h6];exact hw.objs q c2 h7
  ·rw[Cn (hold _ hx)] at hu
   exact hw.owns x hx u hu b hb
mutual
def D.ren(ρ τ:Nat->Nat):D->D
 |.v x=>.v x
 |.acc t xs=>.acc (τ t) xs
 |.ptr o off=>.ptr (ρ o) off
 |.arr o off len=>.arr (ρ o) off len
 |.gro o len sz=>.gro (ρ o) len sz
 |.raw x=>.raw x
 |.rv x u=>.rv x u
 |.dagg cs=>.dagg (D.rens ρ τ cs)
 |.dfn f fs cs=>.dfn f (D.rens ρ τ fs) (D.rens ρ τ cs)
 |.tup ds=>.tup (D.rens ρ τ ds)
 |.err=>.err
 |.undef=>.undef
def D.rens(ρ τ:Nat->Nat):List D->List D
 |[]=>[]
 |d::ds=>d.ren ρ τ::D.rens ρ τ ds
end
mutual
def D.okN(n:Nat)(ts:List Nat):D->Bool
 |.acc t _=>ts.contains t
 |.ptr o _|.arr o _ _|.gro o _ _=>Y (o<n)
 |.dagg cs=>D.okNs n ts cs
 |.dfn _ fs cs=>D.okNs n ts fs&&D.okNs n ts cs
 |.tup ds=>D.okNs n ts ds
 |_=>true
def D.okNs(n:Nat)(ts:List Nat):List D->Bool
 |[]=>true
 |d::ds=>d.okN n ts&&D.okNs n ts ds
end
mutual
theorem LA{g g':Gh}{ρ τ ρ' τ':Nat->Nat}{n:Nat}{ts:List Nat}(hM:∀x u,repV g.M x u->repV g'.M x u)(ho:∀o,o<n->ρ o<g.n->ρ' o<g'.n/\g'.β (ρ' o)=g.β (ρ o)/\g'.κ (ρ' o)=g.κ (ρ o))
  (hι:∀t,ts.contains t=J->∀m u,g.ι (τ t) m=G u->g'.ι (τ' t) m=G u):∀(d:D) (u:yz),d.okN n ts=J->Ag g (d.ren ρ τ) u->Ag g' (d.ren ρ' τ') u
 |.v x,u,_,h=>by grind[D.ren,Ag]
 |.acc t xs,u,hk,h=>by grind[D.ren,Ag,D.okN]
 |.ptr o off,u,hk,h=>by
  grind[D.okN,D.ren,Ag]
 |.arr o off len,u,hk,h=>by
  grind[D.okN,D.ren,Ag]
 |.gro o len sz,u,hk,h=>by
  grind[D.okN,D.ren,Ag]
 |.raw x,u,_,h=>by grind[D.ren,Ag]
 |.rv x u0,u,_,h=>by grind[D.ren,Ag]
 |.dagg cs,u,hk,h=>by
  obtain⟨us,e,h1⟩:=h
  exact⟨us,e,DX hM ho hι cs us (by simpa[D.okN] using hk) h1⟩
 |.dfn f fs cs,u,hk,h=>by
  simp only[D.okN,HJ] at hk
  obtain⟨us,vs,e,h1,h2⟩:=h
  exact⟨us,vs,e,DX hM ho hι fs us hk.1 h1,DX hM ho hι cs vs hk.2 h2⟩
 |.tup ds,u,hk,h=>by
  obtain⟨us,e,h1⟩:=h
  exact⟨us,e,DX hM ho hι ds us (by simpa[D.okN] using hk) h1⟩
 |.err,u,_,h=>by grind[D.ren,Ag]
 |.undef,u,_,_=>by grind[D.ren,Ag]
theorem DX{g g':Gh}{ρ τ ρ' τ':Nat->Nat}{n:Nat}{ts:List Nat}(hM:∀x u,repV g.M x u->repV g'.M x u)(ho:∀o,o<n->ρ o<g.n->ρ' o<g'.n/\g'.β (ρ' o)=g.β (ρ o)/\g'.κ (ρ' o)=g.κ (ρ o))
  (hι:∀t,ts.contains t=J->∀m u,g.ι (τ t) m=G u->g'.ι (τ' t) m=G u):∀(ds:List D) (us:List yz),D.okNs n ts ds=J->Af g (D.rens ρ τ ds) us->Af g' (D.rens ρ' τ' ds) us
 |[],us,_,h=>by grind[D.rens,Af]
 |d::ds,us,hk,h=>by
  simp only[D.okNs,HJ] at hk
  obtain⟨u,us',e,h1,h2⟩:=h
  exact⟨u,us',e,LA hM ho hι d u hk.1 h1,DX hM ho hι ds us' hk.2 h2⟩
end
mutual
theorem NU:∀d:D,d.ren id id=d
 |.v _|.acc .. |.ptr .. |.arr .. |.gro .. |.raw _|.rv .. |.err|.undef=>by simp[D.ren]
 |.dagg cs=>by simp[D.ren,FE cs]
 |.dfn f fs cs=>by simp[D.ren,FE fs,FE cs]
 |.tup ds=>by simp[D.ren,FE ds]
theorem FE:∀ds:List D,D.rens id id ds=ds
 |[]=>rfl
 |d::ds=>by simp[D.rens,NU d,FE ds]
end
mutual
theorem Aa0:∀(ρ τ:Nat->Nat) (d:D),(d.ren ρ τ).one=d.one
 |ρ,τ,d=>by cases d<;>simp[D.ren,D.one]
end
theorem Vj{ρ τ:Nat->Nat}:∀{ds:List D},(∀c∈ds,c.one=J)->∀c∈D.rens ρ τ ds,c.one=J
 |[],_,c,hc=>by grind[D.rens]
 |d::ds,h,c,hc=>by
  simp only[D.rens,Iz] at hc
  rcases hc with rfl|hc
  ·grind[Aa0]
  ·exact Vj (fun c hc=>h c (by simp[hc])) c hc
inductive pk (n:Nat) (qs:List Nat):D->D->Prop
 |ren {dc:D} (h:dc.okN (I qs) []=J):pk n qs (dc.ren (ez n qs) id) dc
 |acc {t:Nat} {xs:List V}:pk n qs (.acc t xs) (.v (.list xs))
 |undef {d:D}:pk n qs d .undef
inductive E4 (n:Nat) (qs:List Nat):List D->List D->Prop
 |nil:E4 n qs [] []
 |cons {d dc:D} {ds dcs:List D} (h:pk n qs d dc) (hs:E4 n qs ds dcs):E4 n qs (d::ds) (dc::dcs)
inductive Qh (H:List (Option (List D))) (qs:List Nat):List Nat->List (Option (List D))->Prop
 |nil:Qh H qs [] []
 |cons {q:Nat} {js:List Nat} {cs csc:List D} {os:List (Option (List D))} (h:H[q]?=G (G cs)) (ha:E4 (I H) qs cs csc) (h1:csc.all D.one=J) (hs:Qh H qs js os):Qh H qs (q::js) (G csc::os)
theorem Qh.length{H:List (Option (List D))}{qs:List Nat}:∀{js:List Nat} {os:List (Option (List D))},Qh H qs js os->os.length=js.length
 |_,_,.nil=>rfl
 |_,_,.cons _ _ _ hs=>by simp[hs.length]
theorem Qh.get{H:List (Option (List D))}{qs:List Nat}:∀{js:List Nat} {os:List (Option (List D))},Qh H qs js os->∀{j q:Nat},js[j]?=G q->∃cs csc,H[q]?=G (G cs)/\os[j]?=G (G csc)/\E4 (I H) qs cs csc/\∀c∈csc,c.one=J
 |_,_,.nil,j,q,h=>by grind
 |_,_,.cons h ha h1 hs,j,q,hj=>by
  cases j with
  |zero=>grind
  |succ j=>obtain⟨cs,csc,h2,h3,h4⟩:=hs.get hj;grind
theorem AlC{n:Nat}{qs:List Nat}{j:Nat}(h:j<I qs):ez n qs j=qs.getD j 0:=by
 grind[ez]
theorem pk.rep{g:Gh}{qs:List Nat}{d dc:D}(h:pk g.n qs d dc){u:yz}(hr:Ag g d u):Ag (ij g qs) dc u:=by
 cases h with
 |ren hk=>
  have:=LA (g:=g) (g':=ij g qs) (ρ:=ez g.n qs) (τ:=id) (ρ':=id) (τ':=id) (n:=I qs) (ts:=[]) (fun _ _ h=>h) (fun o ho _=>⟨ho,by grind[ij,AlC]⟩) (fun t ht=>by grind) dc u hk hr
  grind[NU]
 |acc=>exact hr.1
 |undef=>grind[Ag]
theorem E4.rep{g:Gh}{qs:List Nat}:∀{ds dcs:List D},E4 g.n qs ds dcs->∀{us:List yz},Af g ds us->Af (ij g qs) dcs us
 |_,_,.nil,us,h=>by grind[Af]
 |_,_,.cons h hs,us,hr=>by
  obtain⟨u,us',e,h1,h2⟩:=hr
  exact⟨u,us',e,h.rep h1,hs.rep h2⟩
def PL:D->Option (yx×List D×List D)
 |.v (.fn f fs cs)=>G (f,fs.map .v,cs.map .v)
 |.dfn f fs cs=>G (f,fs,cs)
 |_=>none
theorem Tz{g:Gh}{d:D}{f:yx}{fs cs:List D}(h:PL d=G (f,fs,cs)){u:yz}(hr:Ag g d u):∃us vs,u=.func (.func f) us.toArray vs.toArray/\Af g fs us/\Af g cs vs:=by
 unfold PL at h
 grind[Ag,H8,HA]
def cm(n:Nat)(ts:List Nat):List (Option (List D))->Bool
 |[]=>true
 |some cs::H=>D.okNs n ts cs&&cm n ts H
 |none::H=>cm n ts H
theorem ME{n:Nat}{ts:List Nat}:∀{H:List (Option (List D))},cm n ts H=J->∀{j:Nat} {cs:List D},H[j]?=G (G cs)->D.okNs n ts cs=J
 |[],_,j,cs,h=>by grind
 |some c::H,hk,j,cs,h=>by
  simp only[cm,HJ] at hk
  cases j with
  |zero=>grind
  |succ j=>exact ME hk.2 (by simpa using h)
 |none::H,hk,j,cs,h=>by
  simp only[cm] at hk
  cases j with
  |zero=>grind
  |succ j=>exact ME hk (by simpa using h)
def CO(ρ τ:Nat->Nat)(H:List (Option (List D))):List (Option (List D)):=H.map (Option.map (D.rens ρ τ))
section
variable {P : x7} {o : yy} {σ : St}
theorem B3{c:Call}{fo:x8}(ho:o.op=.call c)(hc:c.callee=.value fo){fD:D}{f:yx}{fs cs:List D}(hf:PL fD=some (f,fs,cs)){ds dsc:List D}{σc σc':St}{dc:D}(qs:List Nat)(τ:Nat->Nat)
  (hspec:Aa P f dsc σc dc σc') (hargs:E4 σ.H.length qs (fs++ds++cs) dsc) (hobjs:Qh σ.H qs qs σc.H) (hnd:qs.Nodup) (hown:σc.own=[]) (hτ:∀x∈σc'.own,∀y∈σc'.own,τ x.1=τ y.1->x.1=y.1)
  (hfr:∀x∈σc'.own,∀y∈σ.own,τ x.1≠y.1) (hokd:dc.okN σc'.H.length (σc'.own.map (·.1))=true) (hokH:cm σc'.H.length (σc'.own.map (·.1)) σc'.H=true):
  Ai P o (fD::ds) σ (dc.ren (ez σ.H.length qs) τ) ⟨Cy σ.H qs (CO (ez σ.H.length qs) τ σc'.H),DM τ σc'.own++σ.own⟩:=by
 intro E g a w K Q hw hds hK
 have hn:g.n=σ.H.length:=hw.rep.n
 simp only[ho,Op.operands,Call.operands,hc] at hds
 have h':Af g (fD::ds) (a.eval fo::c.args.toList.map a.eval):=by grind
 simp only[Af] at h'
 obtain⟨u,us',e,h1,h2⟩:=h'
 simp only[HV] at e
 obtain⟨e1,e2⟩:=e
 obtain⟨us,vs,e3,h3,h4⟩:=Tz hf h1
 refine G4 (_E:=E) (_g:=g) ho hc hspec.1 (e1.trans e3) e2 ?_
 rw[←hn] at hargs
 have hq:∀(j q:Nat),qs[j]?=some q->∃cs csc,σ.H[q]?=some (some cs)/\σc.H[j]?=some (some csc)/\E4 g.n qs cs csc/\∀c∈csc,c.one=true:=fun j q hj=>by rw[hn];exact hobjs.get hj
 have hrep:dm (ij g qs) σc w:=hw.rep.callee hnd hown hobjs.length (fun j q csc hj hcj=>by
  obtain⟨cs,csc',h5,h6,h7,h8⟩:=hq j q hj
  rw[h6] at hcj;simp at hcj;subst hcj
  exact⟨cs,h5,fun us hr=>h7.rep hr,h8⟩)
 refine Calls.mono (hspec.2 _ w _ hrep (hargs.rep (Aw (Aw h3 h2) h4))) ?_
 rintro e w' ⟨r,gc',rfl,hw',hr⟩
 have hn':gc'.n=σc'.H.length:=hw'.rep.n
 have hρ:∀j,j<σc'.H.length->ez σ.H.length qs j<(Dz g gc' qs.length σc'.own τ).n/\(Dz g gc' qs.length σc'.own τ).β (ez σ.H.length qs j)=gc'.β j/\(Dz g gc' qs.length σc'.own τ).κ (ez σ.H.length qs j)=gc'.κ j:=by
  intro j hj
  by_cases hlt:j<qs.length
  ·have hqj:qs[j]?=some qs[j]:=HI hlt
   obtain⟨cs,_,hcs,_⟩:=hq j _ hqj
   have h5:qs[j]<g.n:=hw.rep.lt_n hcs
   have h6:=hw'.βE j hlt
   have h7:=hw'.κE j hlt
   grind[ij,ez,Dz]
  grind[ez,Dz]
 have hren:∀(dd:D) (v:yz),dd.okN σc'.H.length (σc'.own.map (·.1))=true->Ag gc' dd v->Ag (Dz g gc' qs.length σc'.own τ) (dd.ren (ez σ.H.length qs) τ) v:=by
  intro dd v hk hv
  refine LA (g:=gc') (g':=Dz g gc' qs.length σc'.own τ) (ρ:=id) (τ:=id) (ρ':=ez σ.H.length qs) (τ':=τ) (n:=σc'.H.length) (ts:=σc'.own.map (·.1)) (fun _ _ h=>h) (fun o ho _=>hρ o ho) (fun t ht m x hx=>?_) dd v hk (by grind[NU])
  grind[Dz]
 have hrens:∀(dd:List D) (v:List yz),D.okNs σc'.H.length (σc'.own.map (·.1)) dd=true->Af gc' dd v->Af (Dz g gc' qs.length σc'.own τ) (D.rens (ez σ.H.length qs) τ dd) v:=by
  intro dd v hk hv
  refine DX (g:=gc') (g':=Dz g gc' qs.length σc'.own τ) (ρ:=id) (τ:=id) (ρ':=ez σ.H.length qs) (τ':=τ) (n:=σc'.H.length) (ts:=σc'.own.map (·.1)) (fun _ _ h=>h) (fun o ho _=>hρ o ho) (fun t ht m x hx=>?_) dd v hk (by grind[FE])
  grind[Dz]
 obtain⟨h8,h9⟩:=hw.back hown hobjs.length (fun j q hj=>by grind) hw' hτ hfr (H2:=CO (ez σ.H.length qs) τ σc'.H) (by simp[CO]) (fun j cs2 hj=>by
  simp only[CO,I1] at hj
  cases hcj:σc'.H[j]? with
  |none=>grind
  |some oc=>
   cases oc with
   |none=>grind
   |some csc=>
    simp[hcj] at hj
    subst hj
    obtain⟨_,_,_,_,_,h1c,_⟩:=hw'.rep.obj j csc hcj
    grind[ME,Vj])
 grind
end
theorem WI.kill{E:cd}{g:Gh}{σ:St}{w:x5}(hw:WI E g σ w){q:Nat}{cs:List D}(hq:σ.H[q]?=G (G cs)):WI E g ⟨σ.H.set q none,σ.own⟩ w:=
 hw.setObjG (M':=g.M) (oc:=none) (c6.le_refl _) hq (fun _ h=>by simp at h) (fun _ _ _=>⟨rfl,fun _=>rfl⟩) hw.rep.mem (HP _) rfl rfl rfl
theorem H3{H:List (Option (List D))}{q i:Nat}{cs:List D}(h:(H.set q none)[i]?=G (G cs)):i≠q/\H[i]?=G (G cs):=by
 rw[List.getElem?_set] at h
 split at h
 ·split at h<;>simp at h
 ·rename_i e;exact⟨fun e'=>e e'.symm,h⟩
theorem WI.rename{E:cd}{g:Gh}{σ:St}{w:x5}(hw:WI E g σ w){q:Nat}{cs:List D}(hq:σ.H[q]?=G (G cs)):
  ∃g',WI E g' ⟨σ.H.set q none++[G cs],σ.own⟩ w/\g.le g'/\g'.β (I σ.H)=g.β q/\g'.κ (I σ.H)=g.κ q/\g'.n=I σ.H+1:=by
 obtain⟨us,rest,e,hb,hr,h1,hM,hκ⟩:=hw.rep.obj q cs hq
 obtain⟨h2,h3⟩:=(hw.kill hq).addObj (b:=g.β q) (us:=us) (rest:=rest) (e:=e) (cs:=cs) hb (hw.objs q cs hq) hM
  (fun i ci hi e'=>by
   obtain⟨hne,hi'⟩:=H3 hi
   exact hne (hw.rep.inj i q _ _ hi' hq e'))
  (fun x hx u hu hb'=>hw.rep.ownObj x hx u hu _ hb' q cs hq rfl) hr h1
 refine⟨_,h2,h3,?_,?_,?_⟩
 ·simp[hw.rep.n]
 ·simp only[hw.rep.n,IT];exact hκ
 ·simp[hw.rep.n]
theorem WI.newObjR{E:cd}{g:Gh}{σ:St}{w:x5}(hw:WI E g σ w){us rest:List yz}{cs:List D}(e:x6)(hr:Af g cs us)(h1:∀c∈cs,c.one=J):
  ∃g',WI E g' ⟨σ.H++[G cs],σ.own⟩ (w.alloc (.cells (us++rest).toArray e))/\g.le g'/\g'.β (I σ.H)=w.heap.size/\g'.κ (I σ.H)=I (us++rest)/\g'.n=I σ.H+1:=by
 have h2:=(hw.alloc (.cells (us++rest).toArray e)).addObj (b:=w.heap.size) (us:=us) (rest:=rest) (e:=e) (cs:=cs) (heap_alloc_new w _) (.inl hw.size) (hw.rep.new_none (HP _))
  (fun i cs hi=>Nat.ne_of_lt (hw.rep.obj_lt hi)) (fun x hx u hu hb=>by have:=hw.rep.own_lt hx hu hb;omega) hr h1
 exact⟨_,h2.1,h2.2,by simp[hw.rep.n],by simp[hw.rep.n],by simp[hw.rep.n]⟩
section
variable {P : x7} {o : yy} {σ : St} {d : D}
theorem KH{x y:x8}{t:x6}(ho:o.op=.call { callee:=.builtin .append,args:= #[x,y],argTypes:= #[t,t]}){e:x6}{sz by':Nat}{z:yz}(hs:BS P t=G (e,sz,by',G z))(hzc:z.cells.size=sz)(_hsz:0<sz)
  {q q2 len n:Nat} {cs cs2:List D} (hq:σ.H[q]?=G (G cs)) (hl:I cs=len*sz) (hq2:σ.H[q2]?=G (G cs2)) (hl2:I cs2=n*sz) (_hpos:0<n) (hlen:(len+n)*by'<=140737488355328) (hlen2:len+n<=140737488355328):
  Ai P o [.gro q len sz,.gro q2 n sz] σ (.gro (I σ.H) (len+n) sz) ⟨σ.H.set q none++[G (cs++cs2)],σ.own⟩:=by
 intro E g a w K Q hw hds hK
 simp only[ho,Op.operands,Call.operands] at hds
 have hds':Af g [.gro q len sz,.gro q2 n sz] [a.eval x,a.eval y]:=by simpa using hds
 simp only[Af] at hds'
 obtain⟨u,us0,eu,hu,v,vs0,ev,hv,rfl⟩:=hds'
 simp only[HV] at eu
 obtain⟨ex,rfl⟩:=eu
 simp only[HV,Ix] at ev
 simp only[Ag] at hu hv
 obtain⟨hqn,cap,hcap,hκ,rfl⟩:=hu
 obtain⟨_,cap2,hcap2,_,rfl⟩:=hv
 obtain⟨i,ht,hi,hisz,hib,hiz⟩:=AF hs
 obtain⟨us,rest,et,hb,hr,h1,hM,hκ1⟩:=hw.rep.obj q cs hq
 obtain⟨vs,rest2,et2,hb2,hr2,h12,hM2,_⟩:=hw.rep.obj q2 cs2 hq2
 have hul:I us=len*sz:=by rw[A1 hr,hl]
 have hvl:I vs=n*i.size:=by rw[A1 hr2,hl2,hisz]
 have hnews:∀j u,vs[j]?=G u->w.cell? ((⟨g.β q2,0,none⟩:Addr).add j)=G u:=fun j u hj=>by
  rw[Addr.add_lit];simp only[World.cell?,hb2,I4,List.getElem?_toArray];exact AbG hj
 have holds:∀j u,us[j]?=G u->w.cell? ((⟨g.β q,0,none⟩:Addr).add j)=G u:=fun j u hj=>by
  rw[Addr.add_lit];simp only[World.cell?,hb,I4,List.getElem?_toArray];exact AbG hj
 have hone:∀u∈vs,u.oneCell'=J:=Cp h12 hr2
 have hcs:∀c∈cs++cs2,c.one=J:=fun c hc=>by
  rcases I6.1 hc with h|h
  ·exact h1 c h
  ·exact h12 c h
 have hlt:I us<=I (us++rest):=by simp
 obtain⟨u',w',g',hrun,hw',hle,hd⟩:∃u' w' g',(Builtin.append_ #[t,t] o.type #[.slice (G ⟨g.β q,0,none⟩) len cap,.slice (G ⟨g.β q2,0,none⟩) n cap2]).run P w=.ok u' w'/\
   WI E g' ⟨σ.H.set q none++[G (cs++cs2)],σ.own⟩ w'/\g.le g'/\Ag g' (.gro (I σ.H) (len+n) sz) u':=by
  by_cases hroom:len+n<=cap
  ·have hfit:len*i.size+I vs<=(us++rest).toArray.size:=by
    rw[IY,hκ1, ←hκ,hvl,hisz, ←IV]
    exact Nat.mul_le_mul_right _ hroom
   have hrun:=eb (P:=P) w t o.type e et i ht hi (g.β q) len cap (us++rest).toArray hb ⟨g.β q2,0,none⟩ n cap2 vs hvl hnews hone hroom hfit
   have hrow:(us++rest).toArray.toList.take (len*i.size)++vs++(us++rest).toArray.toList.drop (len*i.size+I vs)=(us++vs)++rest.drop (I vs):=by
    simp only[hisz, ←hul]
    rw[List.take_left',List.drop_append,Ic (by omega)]<;>simp
   rw[hrow] at hrun
   have hlen3:I ((us++vs)++rest.drop (I vs))=g.κ q:=by
    rw[←hκ1]
    simp only[IY,HW] at hfit
    simp only[HW,IP]
    rw[hisz, ←hul] at hfit
    omega
   have hw1:=hw.setObj (cs':=cs++cs2) (w':=w.setRow (g.β q) ((us++vs)++rest.drop (I vs)).toArray) hq (us:=us++vs) (rest:=rest.drop (I vs)) (e:=et) (setRow_heap w _ _ _ et _ hb) hlen3 (Aw hr hr2) hcs (fun b hb=>setRow_other w _ _ _ hb) (by simp) rfl rfl rfl
   have hq':(σ.H.set q (G (cs++cs2)))[q]?=G (G (cs++cs2)):=by
    rw[List.getElem?_set];simp;exact(HL.1 hq).1
   obtain⟨g',h3,h4,h5,h6,h7⟩:=hw1.rename (q:=q) hq'
   simp only[List.set_set,length_set] at h3 h5 h6 h7
   exact⟨_,_,g',hrun,h3,h4,by simp only[Ag];exact⟨by omega,cap,hroom,by rw[h6];exact hκ,by rw[h5]⟩⟩
  ·have hfitc:Builtin.nextslicecap (len+n) cap*i.bytes<=281474976710656:=growslice_fits (by omega) (by rw[hib];exact hlen)
   have hrun:=run_append_grow (P:=P) w t o.type e i z ht hi hiz ⟨g.β q,0,none⟩ len cap us (by rw[hul,hisz]) holds ⟨g.β q2,0,none⟩ n cap2 vs hvl hnews (by omega) (by omega) hfitc
   have hge:=grownCap_ge w (len+n) cap e
   have hcell:us.toArray++vs.toArray++Builtin.zeroCells z.cells (grownCap w (len+n) cap e- (len+n))=((us++vs)++(Builtin.zeroCells z.cells (grownCap w (len+n) cap e- (len+n))).toList).toArray:=by
    apply IL;simp
   rw[hcell] at hrun
   obtain⟨g',h3,h4,h5,h6,h7⟩:=(hw.drew.kill hq).newObjR (us:=us++vs) (rest:=(Builtin.zeroCells z.cells (grownCap w (len+n) cap e- (len+n))).toList) (cs:=cs++cs2) e (Aw hr hr2) hcs
   simp only[length_set] at h3 h5 h6 h7
   refine⟨_,_,g',hrun,h3,h4,?_⟩
   simp only[Ag]
   refine⟨by omega,_,hge,?_,by rw[h5];rfl⟩
   rw[h6]
   simp only[HW,Iw,size_zeroCells,hzc,hul,hvl,hisz, ←IV]
   congr 1;omega
 have:=hK g' w' u' hw' hle hd
 unfold Oper.wp execOp
 simp only[ho,resolve,invoke,builtin,Sem.run_bind,Sem.run_pure,Result.andThen_ok,List.map_toArray,Ik,IF,ex,ev,hrun]
 exact this
end
inductive Gz:List x8->List D->List D->Prop
 |nil:Gz [] [] []
 |same {x:x8} {d:D} {xs:List x8} {ds ds':List D} (h:Gz xs ds ds'):Gz (x::xs) (d::ds) (d::ds')
 |const {u:yz} {d:D} {xs:List x8} {ds ds':List D} (h:Gz xs ds ds'):Gz (.const u::xs) (d::ds) (.raw u::ds')
theorem Gz.rep{g:Gh}{a:Act}:∀{xs:List x8} {ds ds':List D},Gz xs ds ds'->Af g ds (xs.map a.eval)->Af g ds' (xs.map a.eval)
 |_,_,_,.nil,h=>by rfl
 |_,_,_,.same h',h=>by
  simp only[Ik,Af] at h⊢
  obtain⟨u,us,e,h1,h2⟩:=h
  simp only[HV] at e
  obtain⟨e1,e2⟩:=e
  exact⟨_,_,rfl,by grind,h'.rep (by grind)⟩
 |_,_,_,.const h',h=>by
  simp only[Ik,Af] at h⊢
  obtain⟨u,us,e,h1,h2⟩:=h
  simp only[HV] at e
  obtain⟨e1,e2⟩:=e
  exact⟨_,_,rfl,by rfl,h'.rep (by grind)⟩
section
variable {P : x7} {o : yy} {σ : St} {d : D}
theorem Tj{x y:x8}{t:x6}(ho:o.op=.call { callee:=.builtin .append,args:= #[x,y],argTypes:= #[t,t]}){e:x6}{sz by':Nat}{z:yz}(hs:BS P t=G (e,sz,by',G z))(hzc:z.cells.size=sz)
  {q2 n:Nat} {cs2:List D} (hq2:σ.H[q2]?=G (G cs2)) (hl2:I cs2=n*sz) (hpos:0<n) (hlen:n*by'<=140737488355328) (hlen2:n<=140737488355328):
  Ai P o [.raw (.slice none 0 0),.gro q2 n sz] σ (.gro (I σ.H) n sz) ⟨σ.H++[G cs2],σ.own⟩:=by
 intro E g a w K Q hw hds hK
 simp only[ho,Op.operands,Call.operands] at hds
 obtain⟨u,v,eq,hu,hv⟩:=Au.1 (by simpa using hds)
 simp only[HV,Ix] at eq
 simp only[Ag] at hu hv
 subst hu
 obtain⟨_,cap2,hcap2,_,rfl⟩:=hv
 obtain⟨i,ht,hi,hisz,hib,hiz⟩:=AF hs
 obtain⟨vs,rest2,et2,hb2,hr2,h12,hM2,_⟩:=hw.rep.obj q2 cs2 hq2
 have hvl:I vs=n*i.size:=by grind[A1]
 have hnews:∀j u,vs[j]?=G u->w.cell? ((⟨g.β q2,0,none⟩:Addr).add j)=G u:=fun j u hj=>by
  grind[World.cell?,Addr.add]
 have hrun:=run_append_nil (P:=P) w t o.type e i z ht hi hiz ⟨g.β q2,0,none⟩ n cap2 vs hvl hnews hpos (by omega) (by grind)
 have hge:=grownCap_ge w n 0 e
 have hcell:vs.toArray++Builtin.zeroCells z.cells (grownCap w n 0 e-n)=(vs++(Builtin.zeroCells z.cells (grownCap w n 0 e-n)).toList).toArray:=by
  grind
 rw[hcell] at hrun
 obtain⟨g',h3,h4,h5,h6,h7⟩:=hw.drew.newObjR (us:=vs) (rest:=(Builtin.zeroCells z.cells (grownCap w n 0 e-n)).toList) (cs:=cs2) e hr2 h12
 have hd:Ag g' (.gro (I σ.H) n sz) (.slice (G ⟨w.heap.size,0,none⟩) n (grownCap w n 0 e)):=by
  simp only[Ag]
  refine⟨by omega,_,hge,?_,by simp_all⟩
  rw[h6]
  simp only[HW,Iw,size_zeroCells,hzc,hvl,hisz, ←IV]
  grind
 have:=hK g' _ _ h3 h4 hd
 unfold Oper.wp execOp
 simp only[ho,resolve,invoke,builtin,Sem.run_bind,Sem.run_pure,Result.andThen_ok,List.map_toArray,Ik,IF,eq.1,eq.2,hrun]
 exact this
end
theorem WI.review{E:cd}{g:Gh}{σ:St}{w:x5}(hw:WI E g σ w){q:Nat}{cs cs':List D}(hq:σ.H[q]?=G (G cs))(h:∀us,Af g cs us->Af g cs' us)(h1:∀c∈cs',c.one=J):WI E g ⟨σ.H.set q (G cs'),σ.own⟩ w:=by
 obtain⟨us,rest,e,hb,hr,_,_,hκ⟩:=hw.rep.obj q cs hq
 exact hw.setObj hq hb hκ (h us hr) h1 (fun _ _=>rfl) rfl rfl rfl rfl
theorem DA{α:Type}{l:List α}{s:Nat}{u:α}(h:l[s]?=G u):l.set s u=l:=by
 apply List.ext_getElem?
 grind
theorem Z5{g:Gh}{d:D}{x:V}{u:yz}(h:d.toV=G x)(hr:Ag g d u):repC g.M x u.cells.toList:=KB (K9 h hr)
section
variable {P : x7} {o : yy} {σ : St} {d : D}
theorem Ajs{e:x6}{x:x8}(ho:o.op=.box e x){y:V}(hy:d.toV=G y):Ai P o [d] σ (.v (.ref y)) σ:=by
 intro E g a w K Q hw hds hK
 simp only[ho,Op.operands,AB] at hds
 obtain⟨u,eu,hd⟩:=hds
 simp at eu
 have hc:=Z5 hy hd
 obtain⟨hw',hle⟩:=hw.newImm u.cells.toList [] e
 rw[I8] at hw'
 have:=hK _ _ (.pointer (G ⟨w.heap.size,0,none⟩)) hw' hle (by
  simp only[Ag,DB]
  exact⟨w.heap.size,0,u.cells.toList,rfl,Qg g.M w.heap.size _,repC.mono hle.M _ _ hc⟩)
 unfold Oper.wp execOp
 simpa[ho,eu,Instr.box,newVar,newRow,Oper.upon] using this
end
section
variable {P : x7} {o : yy}
end
section
variable {C : cd -> cd -> Prop} {P : x7} {R : List D -> St -> Prop} {c : Code} {p : List Nat} {k : List KI} {env env' : List D} {σ σ' : St} {i : Nat} {o : yy} {d : D}
end
def RS:yz->Option V
 |.slice none 0 0=>G .nils
 |u=>RR u
def FK:List yz->Option (List V)
 |[]=>G []
 |u::us=>match RS u,FK us with
  |some x,some xs=>G (x::xs)
  |_,_=>none
theorem O0{M:c6}{u:yz}{x:V}(h:RS u=G x):x.isAgg=O/\repC M x [u]:=by
 grind[RS,V.isAgg,repC,KX]
theorem Fp{M:c6}:∀{us:List yz} {xs:List V},FK us=G xs->repA M xs us
 |[],xs,h=>by grind[FK,repA]
 |u::us,xs,h=>by
  simp only[FK] at h
  split at h
  ·rename_i x xs' h1 h2
   simp at h;subst h
   obtain⟨h3,h4⟩:=O0 (M:=M) h1
   exact⟨u,us,rfl,h3,h4,Fp h2⟩
  grind
def OV(P:x7)(t:x6):Option (List V):=
 match (P.info? t).bind (·.zero) with
 |some z=>FK z.cells.toList
 |none=>none
theorem LV{P:x7}{t:x6}{xs:List V}(h:OV P t=G xs):∃i z,P.info? t=G i/\i.zero=G z/\FK z.cells.toList=G xs:=by
 unfold OV at h
 split at h
 ·rename_i z hz
  cases hi:P.info? t<;>grind
 grind
def ApI(P:x7)(t:x6):Option (List V×List (Nat×Nat)):=
 match OV P t,P.underlying t with
 |some z,some (.struct fs)=>(fs.toList.mapM (fun f=>(P.info? f.type).map fun i=>(f.offset,i.size))).map fun p=>(z,p)
 |_,_=>none
section
variable {P : x7} {o : yy} {σ : St} {d : D}
theorem MB{e:x6}(ho:o.op=.alloc e){xs:List V}(hz:OV P e=G xs):Ai P o [] σ (.ptr (I σ.H) 0) ⟨σ.H++[G (xs.map .v)],σ.own⟩:=by
 intro E g a w K Q hw hds hK
 obtain⟨i,z,hi,hz1,hc⟩:=LV hz
 obtain⟨h2,h3⟩:=DL (g:=g) (Fp hc)
 obtain⟨g',hw',hle,hβ,hn⟩:=hw.newObj e h2 h3
 have:=hK g' _ (.pointer (G ⟨w.heap.size,0,none⟩)) hw' hle (by grind[Ag])
 unfold Oper.wp execOp
 simpa[ho,Instr.alloc,zeroValue,typeInfo,hi,hz1,newVar,newRow,Oper.upon] using this
theorem AaX{t:x6}{parts:Array (Nat×x8)}(ho:o.op=.build t parts){z:List V}{ay:List (Nat×Nat)}(hb:ApI P t=G (z,ay)){ds:List D}{xs:List (Nat×V)}{out:List V}
  (hx:Dp parts.toList ds=G xs) (hf:Hh (ay[·]?) z xs=G out):Ai P o ds σ (.v (.agg out)) σ:=by
 intro E g a w K Q hw hds hK
 simp only[ho,Op.operands] at hds
 have hpr:=Hq hx (a:=a) (g:=g) (by grind[Function.comp_def])
 unfold ApI at hb
 have key:∃U,P.built t (parts.toList.map fun p=>(p.1,a.eval p.2))=G U/\repA g.M out U.toList:=by
  cases hz:OV P t with
  |none=>grind
  |some z0=>
   obtain⟨i,zv,hi,hz1,hcv⟩:=LV hz
   cases hu:P.underlying t with
   |none=>grind
   |some dd=>
    cases dd<;>simp only[hz,hu,reduceCtorEq] at hb
    case struct fs=>
     cases hp:fs.toList.mapM (fun f=>(P.info? f.type).map fun i=>(f.offset,i.size)) with
     |none=>grind
     |some pl=>
      simp[hp] at hb
      obtain⟨rfl,rfl⟩:=hb
      obtain⟨U,hU,hrU⟩:=LK hpr (Fp (M:=g.M) hcv) hf
      exact⟨U,by simpa[Program.built,hi,hu,hz1,hp] using hU,hrU⟩
 obtain⟨U,hU,hrU⟩:=key
 have:=hK g w (.agg U) hw g.le_refl (by grind[Ag,Db])
 have hrun:=run_build (P:=P) w t (parts.map fun p=>(p.1,a.eval p.2)) U (by simp_all)
 unfold Oper.wp execOp
 simp only[ho]
 simp only[Sem.run_bind]
 rw[show(parts.map fun(x:Nat×x8)=>match x with|(i,x)=>(i,a.eval x))=parts.map fun p=>(p.1,a.eval p.2) from rfl,hrun]
 exact this
theorem Afo{t:x6}{x y:x8}(ho:o.op=.makeSlice t x y){e:x6}{by':Nat}{z:yz}(hs:BS P t=G (e,1,by',G z)){zv:V}(hz:RS z=G zv){k k':yv}{n:Int}(h0:0<=n)(hn:(by':Int)*n<=281474976710656)(hn2:n<=9223372036854775807):
  Ai P o [.v (.int k n),.v (.int k' n)] σ (.arr (I σ.H) 0 n.toNat) ⟨σ.H++[G (replicate n.toNat (.v zv))],σ.own⟩:=by
 intro E g a w K Q hw hds hK
 simp only[ho,Op.operands,Au] at hds
 obtain⟨u,v,eq,h1,h2⟩:=hds
 simp only[Ik,IF,HV,Ix] at eq
 obtain⟨e1,e2⟩:=eq
 simp only[Ag,AC] at h1 h2
 subst h1 h2
 obtain⟨i,hu,hi,hsz,hby,hzz⟩:=AF hs
 obtain⟨hza,hzc⟩:=O0 (M:=g.M) hz
 have hz1:z.cells= #[z]:=by
  grind[Dc,N2]
 have hrun:=run_make (P:=P) w t e i z hu hi hzz k k' n n h0 (Il _) (by grind) hn2
 rw[hsz,Nat.mul_one,hz1,JV] at hrun
 have hr:∀m,Af g (replicate m (.v zv)) (replicate m z):=by
  intro m
  induction m<;>grind[Af,Ag,BJ]
 obtain⟨g',hw',hle,hβ,hn'⟩:=hw.newObj e (hr n.toNat) (fun c hc=>by grind[D.one])
 have:=hK g' _ (.slice (G ⟨w.heap.size,0,none⟩) n.toNat n.toNat) hw' hle (by grind[Ag])
 unfold Oper.wp execOp
 simp only[ho,e1,e2,Sem.run_bind,hrun,Result.andThen_ok]
 exact this
end
def AqV(cs cs':List D):Prop:=(∀g us,Af g cs us->Af g cs' us)/\((∀c∈cs,c.one=J)->∀c∈cs',c.one=J)
inductive W1:D->D->Prop
 |same {d:D}:W1 d d
 |acc {k:Nat} {xs:List V}:W1 (.acc k xs) (.v (.list xs))
 |nils:W1 (.v .nils) (.v (.list []))
 |rawnil:W1 (.raw (.slice none 0 0)) (.v .nils)
 |rv {x:V} {u:yz}:W1 (.rv x u) (.v x)
theorem W1.rep{d d':D}(h:W1 d d'){g:Gh}{u:yz}(hr:Ag g d u):Ag g d' u:=by
 cases h<;>grind[Ag,CH,DD]
theorem W1.one{d d':D}(h:W1 d d')(h1:d.one=J):d'.one=J:=by
 cases h with
 |same=>exact h1
 |acc=>rfl
 |nils=>rfl
 |rawnil=>rfl
 |rv=>grind[D.one]
inductive YG:List D->List D->Prop
 |nil:YG [] []
 |cons {d d':D} {cs cs':List D} (h:W1 d d') (hs:YG cs cs'):YG (d::cs) (d'::cs')
theorem YG.sees:∀{cs cs':List D},YG cs cs'->AqV cs cs'
 |_,_,.nil=>⟨fun _ _ h=>h,fun h=>h⟩
 |_,_,.cons h hs=>by
  refine⟨fun g us hr=>?_,fun h1 c hc=>?_⟩
  ·obtain⟨u,us',e,h2,h3⟩:=hr
   exact⟨u,us',e,h.rep h2,hs.sees.1 g us' h3⟩
  ·rcases Iz.1 hc with e|hc
   ·rw[e];exact h.one (h1 _ (List.mem_cons_self))
   ·exact hs.sees.2 (fun c hc=>h1 c (List.mem_cons_of_mem _ hc)) c hc
theorem YG.refl:∀cs:List D,YG cs cs
 |[]=>.nil
 |_::cs=>.cons .same (YG.refl cs)
theorem YG.set{d d':D}(h:W1 d d'):∀{cs:List D} {j:Nat},cs[j]?=G d->YG cs (cs.set j d')
 |[],j,hj=>by grind
 |c::cs,0,hj=>by simp at hj;subst hj;exact .cons h (YG.refl cs)
 |c::cs,j+1,hj=>by exact .cons .same (YG.set h hj)
theorem gk{P:x7}{o:yy}{ds ds':List D}{σ σ':St}{d:D}(hs:YG ds ds')(h:Ai P o ds' σ d σ'):Ai P o ds σ d σ':=fun E g a w K Q hw hds hK=>h E g a w K Q hw (hs.sees.1 g _ hds) hK
theorem Ag8{env:List D}{σ:St}(q j k sz:Nat){cs:List D}(hq:σ.H[q]?=G (G cs))(hj:cs[j]?=G (.v .nils))(hk:∀x∈σ.own,x.1≠k)(hsz:0<sz):
  Cv env σ env ⟨σ.H.set q (G (cs.set j (.acc k []))),(k,sz,[])::σ.own⟩:=fun E g a w hf=>by
 obtain⟨hw1,hle1⟩:=hf.wi.addOwn (k:=k) (sz:=sz) (xs:=[]) (u:=.slice none 0 0) hk ⟨hsz,by simp⟩ (DD _) (.inl ⟨none,rfl⟩) (fun b hb=>by grind[Co])
 obtain⟨_,_,_,_,_,h1,_⟩:=hf.wi.rep.obj q cs hq
 have hw2:=hw1.review (cs':=cs.set j (.acc k [])) hq (fun us hr=>by
  obtain⟨u,hu,hru⟩:=BA hr hj
  simp only[Ag,CH] at hru
  have:=CI hr j (d:=.acc k []) (u:=.slice none 0 0) (by grind[Ag,DD])
  grind[DA]) (fun c hc=>by
  grind[D.one])
 exact⟨_,hw2,Af.mono hle1 _ _ hf.env,hf.defers⟩
theorem E9{g:Gh}{sz:Nat}:∀{ys:List V} {us:List yz},repE g.M sz ys us->Af g ((ys.flatMap V.cellsV).map .v) us/\∀c∈ (ys.flatMap V.cellsV).map bt,c.one=J
 |[],us,h=>by grind[repE,Af]
 |y::ys,us,h=>by
  obtain⟨u1,u2,rfl,hl,h1,h2⟩:=h
  obtain⟨h3,h4⟩:=E9 h2
  have hA:repA g.M y.cellsV u1:=by
   cases hy:y.isAgg with
   |true=>
    cases y with
    |agg cs=>simpa only[V.cellsV,repC] using h1
    |_=>simp[V.isAgg] at hy
   |false=>
    obtain⟨u',e1,_,_⟩:=Dc hy h1
    have e:y.cellsV=[y]:=by cases y<;>simp_all [V.cellsV,V.isAgg]
    rw[e,e1]
    simp only[repA]
    exact⟨u',[],rfl,hy,by rw[←e1];exact h1,rfl⟩
  grind[DL,Aw]
section
variable {P : x7} {o : yy} {σ : St} {d : D}
theorem Sj{E:cd}{g:Gh}{w:x5}(hw:WI E g σ w){t ty e:x6}{sz by':Nat}{z:yz}(hs:BS P t=G (e,sz,by',G z))(hzc:z.cells.size=sz)
  {q len n cap cap2:Nat} {cs cs2:List D} {vs:List yz} {ad:Addr} (hq:σ.H[q]?=G (G cs)) (hl:I cs=len*sz) (hvl0:I vs=n*sz) (hr2:Af g cs2 vs) (h12:∀c∈cs2,c.one=J) (hnews:∀j u,vs[j]?=G u->w.cell? (ad.add j)=G u)
  (_hcap:len<=cap) (hκ:cap*sz=g.κ q) (_hpos:0<n) (hlen:(len+n)*by'<=140737488355328) (hlen2:len+n<=140737488355328):
  ∃u' w' g',(Builtin.append_ #[t,t] ty #[.slice (G ⟨g.β q,0,none⟩) len cap,.slice (G ad) n cap2]).run P w=.ok u' w'/\
   WI E g' ⟨σ.H.set q none++[G (cs++cs2)],σ.own⟩ w'/\g.le g'/\Ag g' (.gro (I σ.H) (len+n) sz) u':=by
 obtain⟨i,ht,hi,hisz,hib,hiz⟩:=AF hs
 obtain⟨us,rest,et,hb,hr,h1,hM,hκ1⟩:=hw.rep.obj q cs hq
 have hul:I us=len*sz:=by grind[A1]
 have hvl:I vs=n*i.size:=by grind
 have holds:∀j u,us[j]?=G u->w.cell? ((⟨g.β q,0,none⟩:Addr).add j)=G u:=fun j u hj=>by
  grind[World.cell?,Addr.add]
 have hone:∀u∈vs,u.oneCell'=J:=Cp h12 hr2
 have hcs:∀c∈cs++cs2,c.one=J:=fun c hc=>by
  grind
 by_cases hroom:len+n<=cap
 ·have hfit:len*i.size+I vs<=(us++rest).toArray.size:=by
   rw[IY,hκ1, ←hκ,hvl,hisz, ←IV]
   exact Nat.mul_le_mul_right _ hroom
  have hrun:=eb (P:=P) w t ty e et i ht hi (g.β q) len cap (us++rest).toArray hb ad n cap2 vs hvl hnews hone hroom hfit
  have hrow:(us++rest).toArray.toList.take (len*i.size)++vs++(us++rest).toArray.toList.drop (len*i.size+I vs)=(us++vs)++rest.drop (I vs):=by
   simp only[hisz, ←hul]
   rw[List.take_left',List.drop_append,Ic (by omega)]<;>simp
  have hlen3:I ((us++vs)++rest.drop (I vs))=g.κ q:=by
   grind
  have hw1:=hw.setObj (cs':=cs++cs2) (w':=w.setRow (g.β q) ((us++vs)++rest.drop (I vs)).toArray) hq (us:=us++vs) (rest:=rest.drop (I vs)) (e:=et) (setRow_heap w _ _ _ et _ hb) hlen3 (Aw hr hr2) hcs (fun b hb=>setRow_other w _ _ _ hb) (by simp) rfl rfl rfl
  have hq':(σ.H.set q (G (cs++cs2)))[q]?=G (G (cs++cs2)):=by
   grind
  obtain⟨g',h3,h4,h5,h6,h7⟩:=hw1.rename (q:=q) hq'
  grind[List.set_set,Ag]
 ·have hfitc:Builtin.nextslicecap (len+n) cap*i.bytes<=281474976710656:=growslice_fits (by omega) (by grind)
  have hrun:=run_append_grow (P:=P) w t ty e i z ht hi hiz ⟨g.β q,0,none⟩ len cap us (by grind) holds ad n cap2 vs hvl hnews (by omega) (by omega) hfitc
  have hge:=grownCap_ge w (len+n) cap e
  have hcell:us.toArray++vs.toArray++Builtin.zeroCells z.cells (grownCap w (len+n) cap e- (len+n))=((us++vs)++(Builtin.zeroCells z.cells (grownCap w (len+n) cap e- (len+n))).toList).toArray:=by
   grind
  rw[hcell] at hrun
  obtain⟨g',h3,h4,h5,h6,h7⟩:=(hw.drew.kill hq).newObjR (us:=us++vs) (rest:=(Builtin.zeroCells z.cells (grownCap w (len+n) cap e- (len+n))).toList) (cs:=cs++cs2) e (Aw hr hr2) hcs
  simp only[length_set] at h3 h5 h6 h7
  refine⟨_,_,g',hrun,h3,h4,?_⟩
  refine⟨by omega,_,hge,?_,by simp_all⟩
  rw[h6]
  simp only[HW,Iw,size_zeroCells,hzc,hul,hvl,hisz, ←IV]
  grind
def Ab(ys:List V):List D:=(ys.flatMap V.cellsV).map .v
theorem MA{x y:x8}{t:x6}(ho:o.op=.call { callee:=.builtin .append,args:= #[x,y],argTypes:= #[t,t]}){e:x6}{sz by':Nat}{z:yz}(hs:BS P t=G (e,sz,by',G z))(hzc:z.cells.size=sz)(hsz:0<sz)
  {q len:Nat} {cs:List D} {ys:List V} (hq:σ.H[q]?=G (G cs)) (hl:I cs=len*sz) (hys:∀y∈ys,y.size=sz) (hpos:ys≠ []) (hlen:(len+I ys)*by'<=140737488355328) (hlen2:len+I ys<=140737488355328):
  Ai P o [.gro q len sz,.v (.list ys)] σ (.gro (I σ.H) (len+I ys) sz) ⟨σ.H.set q none++[G (cs++Ab ys)],σ.own⟩:=by
 intro E g a w K Q hw hds hK
 simp only[ho,Op.operands,Call.operands] at hds
 obtain⟨u,v,eq,hu,hv⟩:=Au.1 (by simpa using hds)
 simp only[HV,Ix] at eq
 obtain⟨hqn,cap,hcap,hκ,rfl⟩:=hu
 obtain⟨ad,cap2,rfl,hc2,hor⟩:=Cd hv hys hsz
 rcases hor with h|⟨b,off,us,rfl,hin,hE⟩
 ·grind
 obtain⟨h5,h6⟩:=E9 hE
 obtain⟨u',w',g',hrun,hw',hle,hd⟩:=Sj (ty:=o.type) (cap2:=cap2) hw hs hzc hq hl (BX hE) h5 h6 (ED hw hin) hcap hκ (length_pos_iff.2 hpos) hlen hlen2
 have:=hK g' w' u' hw' hle hd
 unfold Oper.wp execOp
 simp only[ho,resolve,invoke,builtin,Sem.run_bind,Sem.run_pure,Result.andThen_ok,List.map_toArray,Ik,IF,eq.1,eq.2,hrun]
 exact this
theorem Lm{x y:x8}{t:x6}(ho:o.op=.call { callee:=.builtin .append,args:= #[x,y],argTypes:= #[t,t]}){e:x6}{sz by':Nat}{z:yz}(hs:BS P t=G (e,sz,by',G z))(hzc:z.cells.size=sz)(hsz:0<sz)
  {ys:List V} (hys:∀y∈ys,y.size=sz) (hpos:ys≠ []) (hlen:I ys*by'<=140737488355328) (hlen2:I ys<=140737488355328):
  Ai P o [.v .nils,.v (.list ys)] σ (.gro (I σ.H) (I ys) sz) ⟨σ.H++[G (Ab ys)],σ.own⟩:=by
 intro E g a w K Q hw hds hK
 simp only[ho,Op.operands,Call.operands] at hds
 obtain⟨u,v,eq,hu,hv⟩:=Au.1 (by simpa using hds)
 simp only[HV,Ix] at eq
 simp only[Ag,CH] at hu hv
 subst hu
 obtain⟨ad,cap2,rfl,hc2,hor⟩:=Cd hv hys hsz
 rcases hor with h|⟨b,off,us,rfl,hin,hE⟩
 ·grind
 obtain⟨h5,h6⟩:=E9 hE
 obtain⟨i,ht,hi,hisz,hib,hiz⟩:=AF hs
 have hvl:I us=I ys*i.size:=by grind[BX]
 have hrun:=run_append_nil (P:=P) w t o.type e i z ht hi hiz ⟨b,off,none⟩ (I ys) cap2 us hvl (ED hw hin) (length_pos_iff.2 hpos) (by omega) (by grind)
 have hge:=grownCap_ge w (I ys) 0 e
 have hcell:us.toArray++Builtin.zeroCells z.cells (grownCap w (I ys) 0 e-I ys)=(us++(Builtin.zeroCells z.cells (grownCap w (I ys) 0 e-I ys)).toList).toArray:=by
  grind
 rw[hcell] at hrun
 obtain⟨g',h3,h4,h5',h6',h7⟩:=hw.drew.newObjR (us:=us) (rest:=(Builtin.zeroCells z.cells (grownCap w (I ys) 0 e-I ys)).toList) (cs:=Ab ys) e h5 h6
 have hd:Ag g' (.gro (I σ.H) (I ys) sz) (.slice (G ⟨w.heap.size,0,none⟩) (I ys) (grownCap w (I ys) 0 e)):=by
  refine⟨by omega,_,hge,?_,by simp_all⟩
  rw[h6']
  simp only[HW,Iw,size_zeroCells,hzc,hvl,hisz, ←IV]
  grind
 have:=hK g' _ _ h3 h4 hd
 unfold Oper.wp execOp
 simp only[ho,resolve,invoke,builtin,Sem.run_bind,Sem.run_pure,Result.andThen_ok,List.map_toArray,Ik,IF,eq.1,eq.2,hrun]
 exact this
end
def Lw(L:Nat->Option (List D)):Nat->D->V->Prop
 |0,d,x=>∃d',W1 d d'/\d'.toV=G x
 |n+1,d,x=>(∃d',W1 d d'/\d'.toV=G x)∨
  (∃o off cs x',d=.ptr o off/\x=.ref x'/\L o=G cs/\∀j y,x'.cellsV[j]?=G y->y.isAgg=O/\∃c,cs[off+j]?=G c/\Lw L n c y)∨
  (∃o off sz cs xs,(d=.arr o off (I xs)∨(∃sz',d=.gro o (I xs) sz'/\off=0))/\x=.list xs/\0<sz/\(∀y∈xs,y.size=sz)/\L o=G cs/\∀j y,(xs.flatMap V.cellsV)[j]?=G y->y.isAgg=O/\∃c,cs[off+j]?=G c/\Lw L n c y)
theorem SY{M:c6}:∀{ys:List V} {us:List yz},I us=I ys->(∀(j:Nat) (y:V),ys[j]?=G y->y.isAgg=O/\∃v,us[j]?=G v/\repV M y v)->repA M ys us
 |[],us,hl,_=>by simp only[repA];exact List.eq_nil_of_length_eq_zero (by simpa using hl)
 |y::ys,[],hl,_=>by simp at hl
 |y::ys,u::us,hl,h=>by
  simp only[repA]
  obtain⟨h1,v,h2,h3⟩:=h 0 y rfl
  simp at h2;subst h2
  exact⟨u,us,rfl,h1,(BJ h1).1 h3,SY (by simpa using hl) (fun j y' hj=>by have:=h (j+1) y' (by simpa using hj);simpa using this)⟩
theorem J4{M:c6}{x:V}{us:List yz}(h:repA M x.cellsV us):repC M x us:=by
 cases x<;>grind[V.cellsV,repC,repA]
theorem Qa(x:V):I x.cellsV=x.size:=by cases x<;>simp[V.cellsV,V.size]
theorem FC{M:c6}{sz:Nat}:∀{xs:List V} {us:List yz},(∀y∈xs,y.size=sz)->repA M (xs.flatMap V.cellsV) us->repE M sz xs us
 |[],us,_,h=>by simpa[repA,repE] using h
 |x::xs,us,hs,h=>by
  simp only[List.flatMap_cons] at h
  have h1:=JN h (I x.cellsV)
  have h2:=JO h (I x.cellsV)
  rw[List.take_left] at h1
  rw[List.drop_left] at h2
  simp only[repE]
  have hl:I (us.take (I x.cellsV))=I x.cellsV:=DY h1
  exact⟨us.take (I x.cellsV),us.drop (I x.cellsV),(List.take_append_drop _ _).symm,by rw[hl,Qa];exact hs x List.mem_cons_self,J4 h1,FC (fun y hy=>hs y (List.mem_cons_of_mem _ hy)) h2⟩
theorem Rk{g:Gh}{M':c6}{L:Nat->Option (List D)}(hM:g.M.le M')(hL:∀o cs,L o=G cs->∃us,Af g cs us/\fe M' (g.β o) 0 us):∀(n:Nat) (d:D) (x:V) (u:yz),Lw L n d x->Ag g d u->repV M' x u:=by
 have base:∀(d:D) (x:V) (u:yz),(∃d',W1 d d'/\d'.toV=G x)->Ag g d u->repV M' x u:=by
  rintro d x u ⟨d',h1,h2⟩ hr
  exact(K9 h2 (h1.rep hr)).mono hM
 intro n
 induction n with
 |zero=>grind[Lw]
 |succ n ih=>
  intro d x u h hr
  have cells:∀(o off:Nat) (cs:List D) (ys:List V),L o=G cs->(∀(j:Nat) (y:V),ys[j]?=G y->y.isAgg=O/\∃c,cs[off+j]?=G c/\Lw L n c y)->∃ws,fe M' (g.β o) off ws/\repA M' ys ws:=by
   intro o off cs ys ho hys
   obtain⟨us,h1,h2⟩:=hL o cs ho
   have hlen:off+I ys<=I us∨ys=[]:=by
    by_cases hn:ys=[]
    ·grind
    ·left
     have hp:0<I ys:=length_pos_iff.2 hn
     obtain⟨_,c,hc,_⟩:=hys (I ys-1) (ys[I ys-1]'(by omega)) (HI (by omega))
     grind[A1]
   refine⟨(us.drop off).take (I ys),?_,?_⟩
   all_goals grind[SY,BA,fe]
  simp only[Lw] at h
  rcases h with h|⟨o,off,cs,x',rfl,rfl,ho,hc⟩|⟨o,off,sz,cs,xs,hd,rfl,hsz,hss,ho,hc⟩
  ·grind
  ·obtain⟨ws,h1,h2⟩:=cells o off cs _ ho hc
   grind[Ag,DB,J4]
  ·obtain⟨ws,h1,h2⟩:=cells o off cs _ ho hc
   have hE:=FC hss h2
   grind[B4,Ag]
inductive Sr (L:Nat->Option (List D)):List D->List V->Prop
 |nil:Sr L [] []
 |cons {n:Nat} {d:D} {x:V} {ds:List D} {xs:List V} (h:Lw L n d x) (hs:Sr L ds xs):Sr L (d::ds) (x::xs)
 |fn {f:yx} {cs:List D} {ys:List V} {ds:List D} {xs:List V} (h:Sr L cs ys) (hs:Sr L ds xs):Sr L (.dfn f [] cs::ds) (.fn f [] ys::xs)
theorem Sr.rep{g:Gh}{M':c6}{L:Nat->Option (List D)}(hM:g.M.le M')(hL:∀o cs,L o=G cs->∃us,Af g cs us/\fe M' (g.β o) 0 us){gc:Gh}(hgc:gc.M=M'):∀{ds:List D} {xs:List V} {us:List yz},Sr L ds xs->Af g ds us->Af gc (xs.map .v) us
 |_,_,us,.nil,h=>by grind[Af]
 |_,_,us,.cons h hs,hr=>by
  simp only[Af,Ik,Ag] at hr⊢
  obtain⟨u,us',e,h1,h2⟩:=hr
  exact⟨u,us',e,by grind[Rk],hs.rep hM hL hgc h2⟩
 |_,_,us,.fn h hs,hr=>by
  simp only[Af,Ik,Ag] at hr⊢
  obtain⟨u,us',e,⟨u1,u2,e2,rfl,h2⟩,h3⟩:=hr
  refine⟨u,us',e,H8.2 ⟨[],u2,e2,by rfl,Pu (GV _) (h.rep hM hL hgc h2)⟩,hs.rep hM hL hgc h3⟩
section
variable {P : x7} {o : yy} {σ : St} {d : D}
end
def MI(F:List Nat)(H:List (Option (List D))):List (Option (List D)):=F.foldl (fun H q=>H.set q none) H
theorem Lp:∀(F:List Nat) (H:List (Option (List D))),I (MI F H)=I H
 |[],H=>rfl
 |q::F,H=>by simp only[MI,IX];exact(Lp F _).trans (by simp)
theorem FU:∀(F:List Nat) (H:List (Option (List D))) {i:Nat} {cs:List D},(MI F H)[i]?=G (G cs)->i∉F/\H[i]?=G (G cs)
 |[],H,i,cs,h=>⟨by simp,h⟩
 |q::F,H,i,cs,h=>by
  simp only[MI,IX] at h
  obtain⟨h1,h2⟩:=FU F _ h
  obtain⟨h3,h4⟩:=H3 h2
  exact⟨by simp[h1,h3],h4⟩
inductive Fz (L:Nat->Option (List D)):List D->List D->Prop
 |nil:Fz L [] []
 |keep {d:D} {ds ds':List D} (hs:Fz L ds ds'):Fz L (d::ds) (d::ds')
 |view {n:Nat} {d:D} {x:V} {ds ds':List D} (h:Lw L n d x) (hs:Fz L ds ds'):Fz L (d::ds) (.v x::ds')
theorem Fz.rep{g g':Gh}{L:Nat->Option (List D)}(hg:g.le g')(hL:∀o cs,L o=G cs->∃us,Af g cs us/\fe g'.M (g.β o) 0 us):∀{ds ds':List D} {us:List yz},Fz L ds ds'->Af g ds us->Af g' ds' us
 |_,_,us,.nil,h=>by grind[Af]
 |_,_,us,.keep hs,hr=>by
  simp only[Af] at hr⊢
  obtain⟨u,us',e,h1,h2⟩:=hr
  exact⟨u,us',e,Ag.mono hg _ _ h1,hs.rep hg hL h2⟩
 |_,_,us,.view h hs,hr=>by
  simp only[Af,Ag] at hr⊢
  obtain⟨u,us',e,h1,h2⟩:=hr
  exact⟨u,us',e,Rk hg.M hL _ _ _ _ h h1,hs.rep hg hL h2⟩
def EE(F:List Nat)(H:List (Option (List D)))(o:Nat):Option (List D):=if o∈F then(H[o]?).join else none
theorem Alc{E:cd}{g:Gh}{σ:St}{w:x5}(F:List Nat)(hw:WI E g σ w):∃g',g.le g'/\WI E g' ⟨MI F σ.H,σ.own⟩ w/\∀{env env':List D} {us:List yz},Fz (EE F σ.H) env env'->Af g env us->Af g' env' us:=by
 classical
 let X:Nat->Prop:=fun b=>∃i∈F,∃cs,σ.H[i]?=G (G cs)/\b=g.β i
 let M':c6:=fun b o=>if X b then w.cell? ⟨b,o,none⟩ else g.M b o
 have hXnone:∀b,X b->∀o,g.M b o=none:=by
  rintro b ⟨i,_,cs,hi,rfl⟩ o
  obtain⟨_,_,_,_,_,_,h,_⟩:=hw.rep.obj i cs hi
  grind
 have hle:g.M.le M':=fun b o v h=>by
  grind
 have hg:g.le { g with M:=M' }:=⟨hle,HP _,fun _ _=>rfl,fun _ _ _ h=>h,fun _ _=>rfl⟩
 have hXother:∀i cs,i∉F->σ.H[i]?=G (G cs)->¬X (g.β i):=by
  rintro i cs hi hH ⟨j,hj,cj,hcj,e⟩
  exact hi (by rw[hw.rep.inj i j _ _ hH hcj e];exact hj)
 have hXown:∀x∈σ.own,∀u,g.ι x.1 (I x.2.2)=G u->∀b,Co u=G b->¬X b:=by
  rintro x hx u hu b hb ⟨j,hj,cj,hcj,e⟩
  exact hw.rep.ownObj x hx u hu b hb j cj hcj e.symm
 refine⟨{ g with M:=M' },hg,?_,fun hz hr=>hz.rep hg (fun o cs ho=>?_) hr⟩
 ·refine hw.update X (fun b hb=>?_) (fun b _ hb=>⟨rfl,fun o=>by grind⟩) hle (HP _) (fun _ _=>rfl) (fun _ _=>rfl) (HP _) rfl rfl rfl ?_ (fun i cs hi=>hw.objs i cs (FU F _ hi).2) hw.owns
  ·obtain⟨i,_,cs,hi,rfl⟩:=hb;exact hw.objs i cs hi
  ·refine⟨by rw[Lp];exact hw.rep.n,fun b o v hm=>?_,fun i cs hi=>?_,fun i j c1 c2 hi hj=>hw.rep.inj i j _ _ (FU F _ hi).2 (FU F _ hj).2,fun k sz xs hx=>?_,hw.rep.tags,hw.rep.sep,fun x hx u hu b hb i cs hi=>hw.rep.ownObj x hx u hu b hb i cs (FU F _ hi).2,hw.rep.fresh,hw.rep.gl.mono hle,hw.rep.gw⟩
   ·simp only[M'] at hm
    split at hm
    ·exact hm
    ·exact hw.rep.mem b o v hm
   ·obtain⟨h1,h2⟩:=FU F _ hi
    obtain⟨us,rest,e,h3,h4,h5,h6,h7⟩:=hw.rep.obj i cs h2
    grind[Af.mono]
   ·obtain⟨h0,u,hu,h3,h4,h5⟩:=hw.rep.own k sz xs hx
    exact⟨h0,u,hu,h3.mono hle,h4.kept fun b hb=>⟨rfl,fun o=>by grind⟩,h5⟩
 ·simp only[EE] at ho
  split at ho
  ·rename_i hF
   have ho':σ.H[o]?=G (G cs):=by
    grind
   obtain⟨us,rest,e,hb,hr,_⟩:=hw.rep.obj o cs ho'
   refine⟨us,hr,fun j v hj=>?_⟩
   simp only[M',Ie (show X (g.β o) from⟨o,hF,cs,ho',rfl⟩),World.cell?,hb,I4,List.getElem?_toArray]
   grind
  grind
theorem RM{env env':List D}{σ:St}(F:List Nat)(hz:Fz (EE F σ.H) env env'):Cv env σ env' ⟨MI F σ.H,σ.own⟩:=fun E g a w hf=>by
 obtain⟨g',_,hw',hr⟩:=Alc F hf.wi
 exact⟨g',hw',hr hz hf.env,hf.defers⟩
section
variable {P : x7} {o : yy} {σ : St} {d : D}
theorem J5{t:x6}{len:Nat}{parts:Array (Nat×x8)}(ho:o.op=.buildSlice t len parts)(hp:parts.toList=((parts.toList.map (·.2)).zipIdx 0).map fun x=>(x.2,x.1))(hlen:parts.size=len)
  {e:x6} {sz by':Nat} {z:Option yz} (hs:BS P t=G (e,sz,by',z)) (hz:z.isSome=J) {ds:List D} {xs:List V} (hx:Fx ds=G xs) (hsz:∀x∈xs,x.size=sz) (h0:0<len) (h1:0<sz) (h2:len*sz<=1000)
  (k:Nat) (hk:∀x∈σ.own,x.1≠k):Ai P o ds σ (.acc k xs) ⟨σ.H,(k,sz,xs)::σ.own⟩:=by
 intro E g a w K Q hw hds hK
 simp only[ho,Op.operands] at hds
 obtain⟨i,hu,hi,rfl,rfl,rfl⟩:=AF hs
 obtain⟨zz,hzz⟩:=Option.isSome_iff_exists.1 hz
 have hlm:I (parts.toList.map fun p=>a.eval p.2)=len:=by grind
 have hds':Af g ds (parts.toList.map fun p=>a.eval p.2):=by grind[Function.comp_def]
 obtain⟨hr,hcs⟩:=JG hx hds' hsz
 have hxl:I xs=len:=by rw[G5 hx, ←A1 hds',hlm]
 have hpos:0<len*i.size:=Nat.mul_pos h0 h1
 have hf:=K0 i.size (parts.toList.map fun p=>a.eval p.2) 0 [] ((Array.range (len*i.size)).map (zz.cells[· %zz.cells.size]!)).toList (by simp) hcs (by grind)
 have hpp:((parts.toList.map fun p=>a.eval p.2).zipIdx 0).map (fun x=>(x.2,x.1))=parts.toList.map fun p=>(p.1,a.eval p.2):=by
  have e1:(parts.toList.map fun p=>a.eval p.2)=(parts.toList.map (·.2)).map a.eval:=by simp
  rw[e1,List.zipIdx_map,map_map]
  conv=>rhs;rw[hp,map_map]
  rfl
 rw[hpp] at hf
 simp only[List.nil_append,Array.toArray_toList] at hf
 have hrun:=run_buildSlice (P:=P) w t e len (parts.map fun p=>(p.1,a.eval p.2)) _ i zz hu hi hzz (by omega) (by omega) (by simpa using hf)
 generalize hus:(parts.toList.map fun p=>a.eval p.2).flatMap (·.cells.toList)=us at hr hrun
 obtain⟨hw1,hle1⟩:=hw.newImm us [] e
 rw[I8] at hw1
 have hul:I us=len*i.size:=by grind[BX]
 have hrep:repV (Wz g.M w.heap.size us) (.list xs) (.slice (G ⟨w.heap.size,0,none⟩) len len):=by
  have:=Dh (cap:=len) h1 (Qg g.M w.heap.size us) (repE.mono hle1.M _ _ _ hr) (by omega)
  grind
 have hperm:Perm (Wz g.M w.heap.size us) (w.alloc (.cells us.toArray e)) i.size (.slice (G ⟨w.heap.size,0,none⟩) len len):=
  .inr ⟨w.heap.size,0,len,len,us.toArray,e,rfl,heap_alloc_new w _,HP _,by grind,fun o ho'=>by grind[Wz],hw.rep.gw.new (HP _)⟩
 have hb:∀b,Co (.slice (G ⟨w.heap.size,0,none⟩) len len)=G b->b=w.heap.size:=fun b hb=>by
  grind[Co]
 obtain⟨hw',hle⟩:=hw1.addOwn (k:=k) (sz:=i.size) (xs:=xs) hk ⟨h1,hsz⟩ hrep hperm (fun b hb'=>by
  rw[hb b hb']
  exact⟨hw.size,fun j cs hj=>Nat.ne_of_lt (hw.rep.obj_lt hj),fun x hx' u' hu' hb2=>by have:=hw.rep.own_lt hx' hu' hb2;omega⟩)
 have:=hK _ _ (.slice (G ⟨w.heap.size,0,none⟩) len len) hw' (Gh.le_trans hle1 hle) (by
  grind[Ag])
 unfold Oper.wp execOp
 simp only[ho]
 simp only[Sem.run_bind]
 rw[show(parts.map fun(x:Nat×x8)=>match x with|(i,x)=>(i,a.eval x))=parts.map fun p=>(p.1,a.eval p.2) from rfl,hrun]
 exact this
end
theorem Perm.drop{M:c6}{w:x5}{sz:Nat}{a:Option Addr}{len cap:Nat}(h:Perm M w sz (.slice a len cap)){l:Nat}(hl:l<=len):Perm M w sz (.slice (if cap=l then a else a.map (·.add (l*sz))) (len-l) (cap-l)):=by
 rcases h with⟨a',e⟩|⟨b,f,len',cap',cur,e',e,hh,hlc,hc,hM⟩
 ·grind[Perm]
 ·simp only[Value.slice.injEq] at e
  obtain⟨rfl,rfl,rfl⟩:=e
  by_cases hcl:cap=l
  ·subst hcl
   obtain rfl:len=cap:=by omega
   exact .inl ⟨G ⟨b,f,none⟩,by simp⟩
  ·rw[HZ hcl]
   refine .inr ⟨b,f+l*sz,len-l,cap-l,cur,e',by simp[Addr.add_lit],hh,by omega,?_,fun o ho=>hM o ?_,hM.ng⟩
   ·have:l*sz+(cap-l)*sz=cap*sz:=by rw[←IV];grind
    omega
   ·have:l*sz+(len-l)*sz=len*sz:=by rw[←IV];grind
    omega
section
variable {C : cd -> cd -> Prop} {P : x7} {R : List D -> St -> Prop} {c : Code} {p : List Nat} {κ : List KI} {env env1 env' : List D} {σ σ' : St} {i : Nat} {o : yy} {d : D}
end
theorem WI.trans{E:cd}{g g':Gh}{σ σ':St}{w w1 w':x5}(h:WI E g σ w)(hk:∀b,b<E.w.heap.size->¬E.priv b->w1.heap[b]?=w.heap[b]?)(hsz:w.heap.size<=w1.heap.size)(hos:w1.os=w.os)(htp:w1.tape=w.tape)(hou:w1.output=w.output)
  (h':WI ⟨g,w1,σ⟩ g' σ' w') (hdr:BO w.drawn w1.drawn:=by first|exact BO.refl _|exact BO.succ _|assumption):WI E g' σ' w' where
 rep:=h'.rep
 M:=c6.le_trans h.M h'.M
 size:=IE h.size (IE hsz h'.size)
 keep:=fun b hb hp=>by
  have hnp:¬cd.priv ⟨g,w1,σ⟩ b:=by
   rintro (⟨i,cs,hi,e⟩|⟨x,hx,u,hu,hb'⟩)
   ·have e':b=g.β i:=e
    rw[e'] at hb hp
    rcases h.objs i cs hi with h1|h1
    all_goals grind
   ·rcases h.owns x hx u hu b hb' with h1|h1
    all_goals grind
  have hlt:b<w1.heap.size:=by have:=h.size;omega
  obtain⟨h1,h2⟩:=h'.keep b hlt hnp
  obtain⟨h3,h4⟩:=h.keep b hb hp
  grind
 os:=h'.os.trans (hos.trans h.os)
 tape:=h'.tape.trans (htp.trans h.tape)
 output:=h'.output.trans (hou.trans h.output)
 drawn:=h.drawn.trans (hdr.trans h'.drawn)
 nE:=IE h.nE h'.nE
 βE:=fun o ho=>(h'.βE o (Jm ho h.nE)).trans (h.βE o ho)
 κE:=fun o ho=>(h'.κE o (Jm ho h.nE)).trans (h.κE o ho)
 objs:=fun i cs hi=>by
  rcases h'.objs i cs hi with h1|h1
  ·left;have:=h.size;grind
  ·rcases h1 with⟨j,cj,hj,e⟩|⟨x,hx,u,hu,hb⟩
   ·rw[e];exact h.objs j cj hj
   ·exact h.owns x hx u hu _ hb
 owns:=fun x hx u hu b hb=>by
  rcases h'.owns x hx u hu b hb with h1|h1
  ·left;have:=h.size;grind
  ·rcases h1 with⟨j,cj,hj,e⟩|⟨y,hy,u',hu',hb'⟩
   ·rw[e];exact h.objs j cj hj
   ·exact h.owns y hy u' hu' b hb'
structure Adr(r:Nat)(o:Obj)(E:cd):Prop where
 at_:E.w.heap[r]?=G o
 priv:¬E.priv r
 mem:∀x,E.g.M r x=none
theorem Adr.now{r:Nat}{o:Obj}{E:cd}{g:Gh}{σ:St}{w:x5}(h:Adr r o E)(hw:WI E g σ w):w.heap[r]?=G o/\(∀x,g.M r x=none)/\(∀i cs,σ.H[i]?=G (G cs)->g.β i≠r)/\(∀x∈σ.own,∀u,g.ι x.1 (I x.2.2)=G u->Co u≠G r):=by
 have hlt:r<E.w.heap.size:=(ID.1 h.at_).1
 obtain⟨h1,h2⟩:=hw.keep r hlt h.priv
 refine⟨h1.trans h.at_,fun x=>(h2 x).trans (h.mem x),fun i cs hi e=>?_,fun x hx u hu hb=>?_⟩
 ·rcases hw.objs i cs hi with h3|h3
  ·omega
  ·rw[e] at h3;exact h.priv h3
 ·rcases hw.owns x hx u hu r hb with h3|h3
  ·omega
  ·exact h.priv h3
theorem dm.side{g:Gh}{σ:St}{w:x5}(h:dm g σ w){r:Nat}(hM:∀x,g.M r x=none)(hobj:∀i cs,σ.H[i]?=G (G cs)->g.β i≠r)(hown:∀x∈σ.own,∀u,g.ι x.1 (I x.2.2)=G u->Co u≠G r)
  {w':x5} (hk:∀b,b≠r->w'.heap[b]?=w.heap[b]?):dm g σ w' where
 n:=h.n
 gl:=h.gl
 gw:=h.gw.keepG fun p hp _=>hk p.1 fun e=>by
  obtain⟨v,hv⟩:=h.gl.sized p hp
  grind
 mem:=fun b o v hm=>by
  have hne:b≠r:=fun e=>by grind
  have:=h.mem b o v hm
  grind[World.cell?]
 obj:=fun i cs hi=>by
  obtain⟨us,rest,e,h1,h2⟩:=h.obj i cs hi
  grind
 inj:=h.inj
 own:=fun k sz xs hx=>by
  obtain⟨h0,u,hu,h1,h2,h3⟩:=h.own k sz xs hx
  exact⟨h0,u,hu,h1,h2.kept fun b hb=>⟨hk b (fun e=>hown _ hx u hu (by grind)),fun _=>rfl⟩,h3⟩
 tags:=h.tags
 sep:=h.sep
 ownObj:=h.ownObj
 fresh:=h.fresh
structure vw(r:Nat)(o:Obj)(E0 E:cd):Prop where
 side:Adr r o E
 new:E0.w.heap.size<=r
 link:∀(g:Gh) (σ:St) (w:x5),WI E g σ w->WI E0 g σ w
section
variable {C : cd -> cd -> Prop} {P : x7} {R : List D -> St -> Prop} {c : Code} {p : List Nat} {k : List KI} {env env' : List D} {σ σ' : St} {i : Nat} {o : yy} {d : D}
theorem vw.of{E0:cd}{g:Gh}{w w1:x5}{r:Nat}{ob:Obj}(hw:WI E0 g σ w)(hk:∀b,b≠r->w1.heap[b]?=w.heap[b]?)(hr:w1.heap[r]?=G ob)(hsz:w.heap.size<=w1.heap.size)(hos:w1.os=w.os)(htp:w1.tape=w.tape)(hou:w1.output=w.output)(hEr:E0.w.heap.size<=r)
  (hM:∀x,g.M r x=none) (hobj:∀i cs,σ.H[i]?=G (G cs)->g.β i≠r) (hown:∀x∈σ.own,∀u,g.ι x.1 (I x.2.2)=G u->Co u≠G r) (hdr:BO w.drawn w1.drawn:=by first|exact BO.refl _|exact BO.succ _|assumption):
  vw r ob E0 ⟨g,w1,σ⟩/\WI ⟨g,w1,σ⟩ g σ w1:=by
 refine⟨⟨⟨hr,?_,hM⟩,hEr,fun g' σ' w' h'=>hw.trans (fun b hb _=>hk b (by omega)) hsz hos htp hou h'⟩,WI.start (hw.rep.side hM hobj hown hk)⟩
 grind[cd.priv]
end
def GP:Nat->List (List UInt8)->List MapEntry
 |_,[]=>[]
 |n,s::l=>⟨.string ⟨s.toArray⟩,.bool true,n⟩::GP (n+1) l
def Ds(l:List (List UInt8)):Obj:=.map (GP 0 l).toArray (I l)
theorem AcP(a b:List UInt8):((⟨a.toArray⟩:ByteArray)==⟨b.toArray⟩)=(a==b):=by
 have:((⟨a.toArray⟩:ByteArray)==⟨b.toArray⟩)=(a.toArray==b.toArray):=rfl
 grind
theorem PM(s:List UInt8):∀(l:List (List UInt8)) (n m:Nat),∃q,Instr.findNow .string (.string ⟨s.toArray⟩) (GP n l) m=G (if l.contains s then G (q,.bool true) else none)
 |[],n,m=>⟨0,by rfl⟩
 |x::l,n,m=>by
  obtain⟨q,hq⟩:=PM s l (n+1) (m+1)
  simp only[GP,Instr.findNow,Instr.sameNow,AcP,List.contains_cons]
  by_cases h:s=x
  ·simp_all
  ·have hb:(s==x)=O:=by grind
   simp only[hb,Bool.false_or]
   grind
theorem No:∀(l:List (List UInt8)) (n:Nat) (s:List UInt8),GP n (l++[s])=GP n l++[⟨.string ⟨s.toArray⟩,.bool true,n+I l⟩]
 |[],n,s=>by simp[GP]
 |x::l,n,s=>by simp only[Jz,GP,No l (n+1) s,HN,Nat.add_assoc,Nat.add_comm 1]
section
variable {C : cd -> cd -> Prop} {P : x7} {R : List D -> St -> Prop} {c : Code} {p : List Nat} {k : List KI} {env env' : List D} {σ σ' : St} {i : Nat} {o : yy} {d : D}
end
section
variable {P : x7} {o : yy} {σ : St} {d : D}
theorem RP{E:cd}{g:Gh}{w:x5}(hw:WI E g σ w){t ty e:x6}{by':Nat}{z:Option yz}(hs:BS P t=G (e,1,by',z)){q:Nat}{cs:List D}(hq:σ.H[q]?=G (G cs)){off len cap sLen sCap:Nat}{a:Addr}{ds:List D}{vs:List yz}
  (hvs:Af g ds vs) (h1:∀d∈ds,d.one=J) (hn:I ds=Nat.min sLen len) (hsrc:∀j v,vs[j]?=G v->w.cell? (a.add j)=G v) (hfit:off+I ds<=I cs):
  ∃w',(Builtin.copy_ #[t,t] ty #[.slice (G ⟨g.β q,off,none⟩) len cap,.slice (G a) sLen sCap]).run P w=.ok (goInt (I ds)) w'/\WI E g ⟨σ.H.set q (G (cs.take off++ds++cs.drop (off+I ds))),σ.own⟩ w':=by
 obtain⟨i,hu,hi,hsz,_⟩:=AF hs
 obtain⟨us,rest,et,hb,hr,hone,hM,hκ⟩:=hw.rep.obj q cs hq
 have hul:=A1 hr
 have hvl:=A1 hvs
 have hrun:=run_copy_row (P:=P) w t t ty e (g.β q) off len cap a sLen sCap (us++rest).toArray et vs hu (by grind) hb (by omega) hsrc (by grind) (Cp h1 hvs)
 rw[hvl] at hrun
 refine⟨_,hrun,?_⟩
 have e1:(us++rest).toArray.toList.take off++vs++(us++rest).toArray.toList.drop (off+I ds)=(us.take off++vs++us.drop (off+I ds))++rest:=by
  grind
 rw[e1]
 refine hw.setObj hq (us:=us.take off++vs++us.drop (off+I ds)) (rest:=rest) (setRow_heap w (g.β q) _ _ et _ hb) ?_ (Aw (Aw (Ce hr _) hvs) (Cq hr _)) ?_ (fun b hb'=>setRow_other w _ _ _ hb') (by simp) rfl rfl rfl
 all_goals grind
theorem Aaw{g:Gh}:∀{xs:List V} {us:List yz},(∀x∈xs,x.isAgg=O)->repE g.M 1 xs us->Af g (xs.map .v) us
 |[],us,_,h=>by simpa[repE,Af] using h
 |x::xs,us,hx,h=>by
  simp only[repE] at h
  obtain⟨ws,us',rfl,hl,h1,h2⟩:=h
  obtain⟨u,rfl,_⟩:=Dc (hx x (by simp)) h1
  simp only[Ik,Af,Ag]
  exact⟨u,us',rfl,(BJ (hx x (by simp))).2 h1,Aaw (fun y hy=>hx y (by simp[hy])) h2⟩
theorem Aft{x y:x8}{t:x6}(ho:o.op=.call { callee:=.builtin .copy,args:= #[x,y],argTypes:= #[t,t]}){e:x6}{by':Nat}{z:Option yz}(hs:BS P t=G (e,1,by',z)){q off len k:Nat}{cs:List D}(hq:σ.H[q]?=G (G cs)){xs:List V}
  (hx:∀x∈xs,x.size=1/\x.isAgg=O) (hk:k=Nat.min (I xs) len) (h0:0<k) (hfit:off+k<=I cs):
  Ai P o [.arr q off len,.v (.list xs)] σ (.v (.int .i64 (k:Int))) ⟨σ.H.set q (G (cs.take off++(xs.take k).map .v++cs.drop (off+k))),σ.own⟩:=by
 intro E g a w K Q hw hds hK
 simp only[ho,Op.operands,Call.operands] at hds
 obtain⟨u,v,eq,h1,h2⟩:=Au.1 (by simpa using hds)
 simp only[HV,Ix] at eq
 simp only[Ag] at h1 h2
 obtain⟨_,cap,_,rfl⟩:=h1
 obtain⟨a2,c2,rfl,hc2,hor⟩:=Cd h2 (fun x hx'=>(hx x hx').1) (by decide)
 have hkx:k<=I xs:=by grind
 rcases hor with rfl|⟨b2,off2,us2,rfl,hin,hE⟩
 ·grind
 have hd2:=Ce (Aaw (fun x hx'=>(hx x hx').2) hE) k
 rw[←List.map_take] at hd2
 have hlen:I ((xs.take k).map bt)=k:=by grind
 obtain⟨w',hrun,hw'⟩:=RP (P:=P) (ty:=o.type) hw hs hq (off:=off) (len:=len) (cap:=cap) (a:=⟨b2,off2,none⟩) (sLen:=I xs) (sCap:=c2) hd2 (fun d hd=>by
   grind[D.one]) (by omega) (fun j v hj=>ED hw hin j v (by grind)) (by omega)
 rw[hlen] at hrun hw'
 have:=hK g w' (goInt k) hw' g.le_refl (by simp[Ag,AC,goInt])
 unfold Oper.wp execOp
 simp only[ho,resolve,invoke,builtin,Sem.run_bind,Sem.run_pure,Result.andThen_ok]
 grind[Oper.upon,Result.andThen]
theorem Afu{x y:x8}{t:x6}(ho:o.op=.call { callee:=.builtin .copy,args:= #[x,y],argTypes:= #[t,t]}){e:x6}{by':Nat}{z:Option yz}(hs:BS P t=G (e,1,by',z)){q off len off2 len2 k:Nat}{cs:List D}(hq:σ.H[q]?=G (G cs))
  (hk:k=Nat.min len2 len) (hfit:off+k<=I cs) (hfit2:off2+k<=I cs):
  Ai P o [.arr q off len,.arr q off2 len2] σ (.v (.int .i64 (k:Int))) ⟨σ.H.set q (G (cs.take off++(cs.drop off2).take k++cs.drop (off+k))),σ.own⟩:=by
 intro E g a w K Q hw hds hK
 simp only[ho,Op.operands,Call.operands] at hds
 obtain⟨u,v,eq,h1,h2⟩:=Au.1 (by simpa using hds)
 simp only[HV,Ix] at eq
 simp only[Ag] at h1 h2
 obtain⟨_,cap,_,rfl⟩:=h1
 obtain⟨_,c2,_,rfl⟩:=h2
 obtain⟨us,rest,et,hb,hr,hone,hM,hκ⟩:=hw.rep.obj q cs hq
 have hlen:I ((cs.drop off2).take k)=k:=by grind
 have hul:=A1 hr
 obtain⟨w',hrun,hw'⟩:=RP (P:=P) (ty:=o.type) hw hs hq (off:=off) (len:=len) (cap:=cap) (a:=⟨g.β q,off2,none⟩) (sLen:=len2) (sCap:=c2) (Ce (Cq hr off2) k) (fun d hd=>hone d (List.mem_of_mem_drop (Ji hd))) (by omega) (fun j v hj=>by
   grind[World.cell?,Addr.add]) (by omega)
 rw[hlen] at hrun hw'
 have:=hK g w' (goInt k) hw' g.le_refl (by simp[Ag,AC,goInt])
 unfold Oper.wp execOp
 simp only[ho,resolve,invoke,builtin,Sem.run_bind,Sem.run_pure,Result.andThen_ok]
 grind[Oper.upon,Result.andThen]
theorem M4{t:x6}{x:x8}{lo hi:Option x8}(ho:o.op=.slice t x lo hi none){e:x6}{by':Nat}{z:Option yz}(hs:BS P t=G (e,1,by',z)){q off len:Nat}
  (l h:Option (yv×Int)) (hlo:lo.isSome=l.isSome) (hhi:hi.isSome=h.isSome) {l' h':Nat} (hb:C8 len (l.map (·.2)) (h.map (·.2))=G (l',h')) (hlt:l'<len):
  Ai P o (.arr q off len::(EO l++EO h)) σ (.arr q (off+l') (h'-l')) σ:=by
 refine A6 fun E g ρ w hw hds=>?_
 obtain⟨i,hu,hi',hsz,_,_⟩:=AF hs
 have hb2:=hb
 unfold C8 at hb2
 simp only at hb2
 split at hb2
 case isFalse=>grind
 rename_i hcond
 simp only[Ir,Prod.mk.injEq] at hb2
 have main:∀u (lv hv:Option yz),ρ x=u->lv=l.map (fun p=>Value.int p.1 p.2)->hv=h.map (fun p=>Value.int p.1 p.2)->lo.map ρ=lv->hi.map ρ=hv->Ag g (.arr q off len) u->
   ∃u,(execOp ρ o).run P w=.ok (.value u) w/\Ag g (.arr q (off+l') (h'-l')) u:=by
  intro u lv hv eu el eh e1 e2 hr
  simp only[Ag] at hr⊢
  obtain⟨hq,cap,hc,rfl⟩:=hr
  refine⟨.slice (G ⟨g.β q,off+l',none⟩) (h'-l') (cap-l'),?_,hq,cap-l',by omega,rfl⟩
  have hbr:=E7 (P:=P) w true len cap hc l h hb
  simp only[execOp,ho,eu,e1,e2,el,eh,Jw,Instr.sliceAt,Instr.slice,Sem.run_bind,run_underlying hu,Result.andThen_ok,hbr]
  simp[sizeOf,typeInfo,hi',hsz,show ¬cap=l' by omega,Addr.add_lit]
 simp only[ho,Op.operands] at hds
 cases lo with
 |none=>
  cases l with
  |some _=>grind
  |none=>
   cases hi with
   |none=>
    cases h<;>grind[AB,EO]
   |some ho'=>
    cases h<;>grind[Au,EO,Ag,AC]
 |some lo'=>
  cases l with
  |none=>grind
  |some lq=>
   cases hi with
   |none=>
    cases h<;>grind[Au,EO,Ag,AC]
   |some ho'=>
    cases h with
    |none=>grind
    |some p=>
     obtain⟨u,v,v2,eu,h1,h2,h3⟩:=EW.1 (by simpa[EO] using hds)
     grind[Ag,AC]
theorem Ajc{fn:yw}{env:List D}{σ':St}{q off len:Nat}(hr:So P env σ fn.results.toList [.arr q off len])(m:Nat)(hH:σ'.H=σ.H.take m)(hm:m<=I σ.H)(hc:∀(i:Nat) (cs:List D),σ'.H[i]?=G (G cs)->D.pls cs=J)
  (hown:σ'.own.Sublist σ.own) (hq:q<m):A9 P fn env σ (.arr q off len) σ':=by
 intro E g a w hf hE
 obtain⟨us,h1,h2⟩:=hr.run hf
 obtain⟨u,rfl,h3⟩:=AB.1 h2
 have hml:I σ'.H=m:=by grind
 have hrun:(results fn a.tmps).run P w=.ok u w:=by
  rw[H6,Array.mapM_eq_mapM_toList]
  simp_all
 refine⟨_,_,hrun,hf.wi.restrict hH hm (by omega) hc hown,?_⟩
 grind[Ag]
theorem D4{c:Call}{fo:x8}(ho:o.op=.call c)(hc:c.callee=.value fo){f:yx}{fs cs:List V}{ds:List D}(hp:D.pls ds=J){os:List D}(hos:D.pls os=J){len:Nat}
  (hspec:Aa P f (fs.map .v++ds++cs.map .v) ⟨[],[]⟩ (.arr 0 0 len) ⟨[G os],[]⟩):Ai P o (.v (.fn f fs cs)::ds) σ (.arr (I σ.H) 0 len) ⟨σ.H++[G os],σ.own⟩:=by
 intro E g a w K Q hw hds hK
 obtain⟨us,vs,ws,hf,hargs,h1,h2,h3⟩:=DQ ho hc hds
 refine G4 (_E:=E) (_g:=g) ho hc hspec.1 hf hargs ?_
 have hargs':Af { M:=g.M,β:=g.β,n:=0,ι:=fun _ _=>none,κ:=g.κ } (fs.map .v++ds++cs.map .v) (us++ws++vs):=
  BK (by rfl) (by grind[Du,Ca]) (Aw (Aw h1 h3) h2)
 refine Calls.mono (hspec.2 _ w _ hw.rep.empty hargs') ?_
 rintro e w' ⟨u,g',rfl,hw',hr⟩
 obtain⟨h4,h5⟩:=hw.back0 (by rfl) hw'
 simp only[Ag] at hr
 obtain⟨vs',rest',e',hb,hrv,hone,hMn,_⟩:=hw'.rep.obj 0 os (by simp)
 have hge:w.heap.size<=g'.β 0:=by
  rcases hw'.objs 0 os (by simp) with h|h
  all_goals grind[Hb]
 obtain⟨h6,h7⟩:=h4.addObj (b:=g'.β 0) (us:=vs') (rest:=rest') (e:=e') (cs:=os) hb (.inl (IE hw.size hge)) hMn
  (fun i cs hi=>by have:=hw.rep.obj_lt hi;grind) (fun x hx v hv hvb=>by have:=hw.rep.own_lt hx hv hvb;omega) (BK (by rfl) hos hrv) hone
 refine⟨u,rfl,hK _ _ _ h6 (Gh.le_trans h5 h7) ?_⟩
 simp only[Ag]
 obtain⟨_,cap,hcap,rfl⟩:=hr
 exact⟨by rw[hw.rep.n];omega,cap,hcap,by rw[hw.rep.n];simp⟩
theorem FG{f:yx}{first captured:Array x8}(ho:o.op=.makeFunc (.func f) first captured)(hl:first.size=0){cs:List D}:Ai P o cs σ (.dfn f [] cs) σ:=by
 refine A6 fun E g ρ w hw hds=>?_
 have h0:first= #[]:=Array.eq_empty_of_size_eq_zero hl
 subst h0
 simp only[ho,Op.operands] at hds
 refine⟨.func (.func f) #[] (captured.map ρ),?_,?_⟩
 ·simp[execOp,ho,Instr.makeFunc]
 ·simp only[Ag]
  exact⟨[],captured.toList.map ρ,by congr 1;grind,by rfl,by grind⟩
end
mutual
inductive VS:V->V->Prop
 |refl (x:V):VS x x
 |nils:VS .nils (.list [])
 |agg {cs ds:List V} (h:jz cs ds):VS (.agg cs) (.agg ds)
 |list {cs ds:List V} (h:jz cs ds):VS (.list cs) (.list ds)
 |ref {x y:V} (h:VS x y):VS (.ref x) (.ref y)
inductive jz:List V->List V->Prop
 |nil:jz [] []
 |cons {x y:V} {xs ys:List V} (h:VS x y) (hs:jz xs ys):jz (x::xs) (y::ys)
end
theorem VS.isAgg{x y:V}(h:VS x y):y.isAgg=x.isAgg:=by cases h<;>rfl
theorem jz.length:∀{xs ys:List V},jz xs ys->ys.length=xs.length
 |_,_,.nil=>rfl
 |_,_,.cons _ hs=>by simp[hs.length]
theorem jz.refl:∀xs:List V,jz xs xs
 |[]=>.nil
 |x::xs=>.cons (.refl x) (jz.refl xs)
mutual
theorem VS.repC{M:c6}:∀{x y:V},VS x y->∀{ws:List yz},repC M x ws->Dv.repC M y ws
 |_,_,.refl _,_,h=>h
 |_,_,.nils,ws,h=>by
  grind[repC]
 |_,_,.agg h,_,hr=>by simp only[Dv.repC] at hr⊢;exact h.repA hr
 |_,_,.list h,_,hr=>by
  simp only[Dv.repC] at hr⊢
  obtain⟨a,cap,e,hc,hor⟩:=hr
  rw[h.length]
  refine⟨a,cap,e,hc,?_⟩
  rcases hor with rfl|⟨b,off,sz,us,h1,h2,h3,h4⟩
  ·left;cases h;rfl
  ·exact .inr ⟨b,off,sz,us,h1,h2,h3,h.repE h4⟩
 |_,_,.ref h,_,hr=>by
  simp only[Dv.repC] at hr⊢
  obtain⟨b,off,us,e,hi,hx⟩:=hr
  exact⟨b,off,us,e,hi,h.repC hx⟩
theorem jz.repA{M:c6}:∀{xs ys:List V},jz xs ys->∀{us:List yz},Dv.repA M xs us->Dv.repA M ys us
 |_,_,.nil,_,h=>h
 |_,_,.cons h hs,_,hr=>by
  simp only[Dv.repA] at hr⊢
  obtain⟨u,us',e,ha,h1,h2⟩:=hr
  exact⟨u,us',e,by rw[h.isAgg];exact ha,h.repC h1,hs.repA h2⟩
theorem jz.repE{M:c6}{sz:Nat}:∀{xs ys:List V},jz xs ys->∀{us:List yz},Dv.repE M sz xs us->Dv.repE M sz ys us
 |_,_,.nil,_,h=>h
 |_,_,.cons h hs,_,hr=>by
  simp only[Dv.repE] at hr⊢
  obtain⟨u1,u2,e,hl,h1,h2⟩:=hr
  exact⟨u1,u2,e,hl,h.repC h1,hs.repE h2⟩
end
theorem VS.repV{M:c6}{x y:V}(h:VS x y){u:yz}(hr:repV M x u):Dv.repV M y u:=by
 obtain⟨ws,h1,h2⟩:=hr
 refine⟨ws,h.repC h1,?_⟩
 rw[h2]
 cases h<;>rfl
inductive DS:D->D->Prop
 |same (d:D):DS d d
 |v {x y:V} (h:VS x y):DS (.v x) (.v y)
 |gro {q len sz:Nat}:DS (.gro q len sz) (.arr q 0 len)
 |acc {k:Nat} {xs:List V}:DS (.acc k xs) (.v (.list xs))
inductive DSL:List D->List D->Prop
 |nil:DSL [] []
 |cons {d e:D} {ds es:List D} (h:DS d e) (hs:DSL ds es):DSL (d::ds) (e::es)
theorem DS.rep{g:Gh}{d e:D}(h:DS d e){u:yz}(hr:Ag g d u):Ag g e u:=by
 cases h with
 |same=>exact hr
 |v h=>simp only[Ag] at hr⊢;exact h.repV hr
 |gro=>
  grind[Ag]
 |acc=>grind[Ag]
theorem DSL.rep{g:Gh}:∀{ds es:List D},DSL ds es->∀{us:List yz},Af g ds us->Af g es us
 |_,_,.nil,_,h=>h
 |_,_,.cons h hs,_,hr=>by
  simp only[Af] at hr⊢
  obtain⟨u,us',e,h1,h2⟩:=hr
  exact⟨u,us',e,h.rep h1,hs.rep h2⟩
theorem DSL.refl:∀ds:List D,DSL ds ds
 |[]=>.nil
 |d::ds=>.cons (.same d) (DSL.refl ds)
theorem Aa.sub{P:x7}{f:yx}{ds es:List D}{σ σ':St}{d e:D}(h:Aa P f es σ d σ')(hs:DSL ds es)(hd:DS d e):Aa P f ds σ e σ':=by
 refine⟨h.1,fun g w args hw hargs=>Calls.mono (h.2 g w args hw (hs.rep hargs)) ?_⟩
 rintro x w' ⟨u,g',rfl,hw',hr⟩
 exact⟨u,g',rfl,hw',hd.rep hr⟩
theorem Ail{env env':List D}{σ:St}(h:DSL env env'):Cv env σ env' σ:=fun _ g _ _ hf=>⟨g,hf.wi,h.rep hf.env,hf.defers⟩
section
variable {P : x7} {o : yy} {σ : St}
theorem QH{op:BinOp}{t ty e:x6}{x:x8}(ho:o.op=.binOp op t x (.const (.slice none 0 0)) ty)(hu:P.underlying t=G (.slice e))(hop:op=.eql∨op=.neq)(ρ:x8->yz)(w:x5){a:Option Addr}{len cap:Nat}(e1:ρ x=.slice a len cap)(e2:ρ (.const (.slice none 0 0))=.slice none 0 0):
  (execOp ρ o).run P w=.ok (.value (.bool (if op=.eql then a.isNone else !a.isNone))) w:=by
 have heq:(Op.equal t (.slice a len cap) (.slice none 0 0)).run P w=.ok a.isNone w:=by
  have gen:∀d,(Op.equalIn (d+1) t (.slice a len cap) (.slice none 0 0)).run P w=.ok a.isNone w:=fun d=>by
   cases a<;>simp[Op.equalIn,run_underlying hu]
  exact gen 9999
 rcases hop with rfl|rfl<;>simp[execOp,ho,e1,e2,eqGuard,binOp,heq]
theorem M8{t:x6}{parts:Array (Nat×x8)}(ho:o.op=.buildSlice t 0 parts)(hp:parts= #[]){e:x6}{sz by':Nat}{z:Option yz}(hs:BS P t=G (e,sz,by',z)):
  Ai P o [] σ (.gro (I σ.H) 0 sz) ⟨σ.H++[G []],σ.own⟩:=by
 intro E g a w K Q hw hds hK
 obtain⟨i,hu,hi,rfl,rfl,rfl⟩:=AF hs
 subst hp
 obtain⟨g',h3,h4,h5,h6,h7⟩:=hw.newObjR (us:=[]) (rest:=[]) (cs:=[]) e (by rfl) (by simp)
 have:=hK g' _ (.slice (G ⟨w.heap.size,0,none⟩) 0 0) h3 h4 (by
  grind[Ag])
 unfold Oper.wp execOp
 simpa[ho,Instr.buildSlice,run_underlying hu,sizeOf,typeInfo,hi,Instr.fill,newRow,Oper.upon,show Array.range 0= #[] from rfl] using this
theorem ER{c:Call}{fo:x8}(ho:o.op=.call c)(hc:c.callee=.value fo){f:yx}{fs cs:List V}{ds:List D}(hp:D.pls ds=J){Hc:List (Option (List D))}{j:Nat}{os:List D}(hj:Hc[j]?=G (G os))(hos:D.pls os=J){len:Nat}
  (hspec:Aa P f (fs.map .v++ds++cs.map .v) ⟨[],[]⟩ (.arr j 0 len) ⟨Hc,[]⟩):Ai P o (.v (.fn f fs cs)::ds) σ (.arr (I σ.H) 0 len) ⟨σ.H++[G os],σ.own⟩:=by
 intro E g a w K Q hw hds hK
 obtain⟨us,vs,ws,hf,hargs,h1,h2,h3⟩:=DQ ho hc hds
 refine G4 (_E:=E) (_g:=g) ho hc hspec.1 hf hargs ?_
 have hargs':Af { M:=g.M,β:=g.β,n:=0,ι:=fun _ _=>none,κ:=g.κ } (fs.map .v++ds++cs.map .v) (us++ws++vs):=
  BK (by rfl) (by grind[Du,Ca]) (Aw (Aw h1 h3) h2)
 refine Calls.mono (hspec.2 _ w _ hw.rep.empty hargs') ?_
 rintro e w' ⟨u,g',rfl,hw',hr⟩
 obtain⟨h4,h5⟩:=hw.back0 (by rfl) hw'
 simp only[Ag] at hr
 obtain⟨vs',rest',e',hb,hrv,hone,hMn,_⟩:=hw'.rep.obj j os hj
 have hge:w.heap.size<=g'.β j:=by
  rcases hw'.objs j os hj with h|h
  all_goals grind[Hb]
 obtain⟨h6,h7⟩:=h4.addObj (b:=g'.β j) (us:=vs') (rest:=rest') (e:=e') (cs:=os) hb (.inl (IE hw.size hge)) hMn
  (fun i cs hi=>by have:=hw.rep.obj_lt hi;grind) (fun x hx v hv hvb=>by have:=hw.rep.own_lt hx hv hvb;omega) (BK (by rfl) hos hrv) hone
 refine⟨u,rfl,hK _ _ _ h6 (Gh.le_trans h5 h7) ?_⟩
 simp only[Ag]
 obtain⟨_,cap,hcap,rfl⟩:=hr
 exact⟨by rw[hw.rep.n];omega,cap,hcap,by rw[hw.rep.n];simp⟩
end
end Go.Dv

namespace Go.Nv
open Go.Dv
open Go.IntKind (u64)
open Go.IntKind renaming wrap → yu, i64 → yt
open List renaming length → I, map → U, drop → W
open Option renaming some → G
open Bool renaming true → J, false → O
open Decidable renaming decide → Y
open Int renaming toNat → Z
open Go.Dv.V renaming list → ai, str → ae, agg → ab, int → aa, ref → bz, fn → bw, nils → bv, bool → bu
open Go.Dv.D renaming v → bt, acc → br, ptr → bq, arr → bo, gro → bm, tup → bk, undef → bj, dagg → bi
open Go.Dv.St renaming mk → bh
open Go.Dv.KI renaming blk → bf
open _root_.ByteArray renaming mk → bc
open Go renaming Operand → x8, Program → x7, TypeId → x6, World → x5, Value → yz, Oper → yy, FuncId → yx, Func → yw, IntKind → yv
abbrev vi(n:Int):V:=.int .i64 n
abbrev di(n:Int):D:=.v (.int .i64 n)
abbrev db(b:Bool):D:=.v (.bool b)
abbrev vb(c:UInt8):V:=.int .u8 c.toNat
abbrev ds(s:List UInt8):D:=.v (.str s)
abbrev nV:List V:=[]
abbrev iz(n:Int):Int:=n
inductive Aqo where
 |x (v:V)                                  -- the element of a list
 |xs (v:V)                                 -- the same,of a size to be shown
 |y (c:UInt8)                              -- a byte of a string
 |c (d:D)                                  -- what a call returns (data)
 |ca (xs:List V) (d:D)                   -- the same;the arguments as the contract has them
 |c1 (os:List D) (d:D)                   -- a call that is handed one object:its cells behind
 |c1k (k k' sz:Nat) (os:List D) (xs:List V)  -- the same;it returns an owned list
 |ck (k k' sz:Nat) (xs:List V)           -- a call that returns an owned list
 |ckn (k k' sz:Nat) (xs:List V)          -- the same,handed nil
 |k                                          -- a truth value that is known
 |t
 |f
 |l (sl:List (Nat×Option D)) (σ:Option St)   -- a loop's head:what is known there
 |lo (sl:List (Nat×Option D)) (σ:St)   -- the same,with open cells
 |n                                          -- into a loop
 |m (d:D)                                  -- a cell
 |w                                          -- a write to an open place
 |ww                                         -- the same,of a struct
 |cs (σ:St)                                -- the state,seen otherwise
 |ct (t:Nat) (d:D) (σ:St)              -- a slot and the state,seen otherwise
 |oc (d:D) (σ:St)                        -- any call
 |gx (cs:List D) (H:List (Option (List D)))  -- a growing list is appended to,in a state that is not known whole
 |o (d:D) (σ:St)                         -- any operation
 |p (d:D)                                  -- any operation that leaves the state as it is
 |g                                          -- an empty literal that grows
 |ga (s:Nat)                               -- a list that grew,as an array
 |cj (j:Nat) (H:List (Option (List D))) (os:List D) (len:Nat)   -- a call that returns a new array
 |un (s:Nat)                               -- a slot's list is appended to no longer
 |dr (k:Nat)                               -- a list's right to be appended to is given up
 |fa (q:Nat) (ss:List Nat)               -- a struct or array becomes data,seen from G slots
 |f1 (q:Nat) (ss:List Nat)               -- a variable of one cell becomes data
 |fl (q s:Nat) (xs:List V)               -- a list of one-cell elements becomes data
 |q (r i:Nat)                              -- nothing before operation i of region r
 |cl (q j k sz:Nat)                        -- a cell's nil may be appended to
 |nw (s k sz:Nat)                          -- a slot's nil may be appended to
 |a (k:Nat)                                -- a list that is made may be appended to
 |s (sl:List (Nat×Option D))             -- the walk stops ahead of an operation
 |r
 |rn
 |ro
 |rd                                         -- a return of structs with lists of their own
inductive Sc:Type 1 where
 |z
 |e {A:Type} (f:A->Sc)
 |b (s t:Sc)
 |h (i:Aqo) (s:Sc)
namespace Sc
abbrev x(v:V)(s:Sc):Sc:=.h (.x v) s
abbrev y(c:UInt8)(s:Sc):Sc:=.h (.y c) s
abbrev c(d:D)(s:Sc):Sc:=.h (.c d) s
abbrev ca(xs:List V)(d:D)(s:Sc):Sc:=.h (.ca xs d) s
abbrev c1(os:List D)(d:D)(s:Sc):Sc:=.h (.c1 os d) s
abbrev k(s:Sc):Sc:=.h .k s
abbrev t(s:Sc):Sc:=.h .t s
abbrev f(s:Sc):Sc:=.h .f s
abbrev a(k:Nat)(s:Sc):Sc:=.h (.a k) s
abbrev n(s:Sc):Sc:=.h .n s
abbrev m(d:D)(s:Sc):Sc:=.h (.m d) s
abbrev w(s:Sc):Sc:=.h .w s
abbrev q(r i:Nat)(h:Aqo)(s:Sc):Sc:=.h (.q r i) (.h h s)
abbrev r:Sc:=.h .r .z
abbrev rn:Sc:=.h .rn .z
abbrev ro:Sc:=.h .ro .z
abbrev rd:Sc:=.h .rd .z
abbrev lo(sl:List (Nat×Option D))(σ:St):Sc:=.h (.lo sl σ) .z
abbrev l(sl:List (Nat×Option D)):Sc:=.h (.l sl none) .z
abbrev ls(sl:List (Nat×Option D))(σ:St):Sc:=.h (.l sl (G σ)) .z
end Sc
noncomputable def AX{α β:Type}(l:List α)(k:List α->β):β:=
 List.rec (motive:=fun _=>(List α->β)->β) (fun k=>k []) (fun a _ ih k=>ih fun r=>k (a::r)) l k
theorem AQ{α β:Type}:∀(l:List α) (k:List α->β),AX l k=k l
 |[],_=>rfl
 |a::l,k=>by
  have h:AX (a::l) k=AX l fun r=>k (a::r):=rfl
  rw[h,AQ l]
noncomputable def CT{α β:Type}(l:List α)(i:Nat)(x:α)(k:List α->β):β:=
 List.rec (motive:=fun _=>Nat->(List α->β)->β) (fun _ k=>k []) (fun a t ih i k=>Nat.rec (motive:=fun _=>β) (k (x::t)) (fun j _=>ih j fun r=>k (a::r)) i) l i k
theorem B8{α β:Type}(x:α):∀(l:List α) (i:Nat) (k:List α->β),CT l i x k=k (l.set i x)
 |[],_,_=>rfl
 |a::l,0,k=>rfl
 |a::l,i+1,k=>by
  have h:CT (a::l) (i+1) x k=CT l i x fun r=>k (a::r):=rfl
  rw[h,B8 x l];rfl
noncomputable def DE{β:Type}(env:List D)(t:Option Tmp)(d:D)(k:List D->β):β:=match t with
 |some t=>CT env t d k
 |none=>k env
theorem DF{β:Type}(env:List D)(t:Option Tmp)(d:D)(k:List D->β):DE env t d k=k (B5 env t d):=by
 cases t<;>grind[B8,DE,B5]
noncomputable def AL{α β:Type}(l:List α)(x:α)(k:List α->β):β:=
 List.rec (motive:=fun _=>(List α->β)->β) (fun k=>k [x]) (fun a _ ih k=>ih fun r=>k (a::r)) l k
theorem AK{α β:Type}(x:α):∀(l:List α) (k:List α->β),AL l x k=k (l++[x])
 |[],_=>rfl
 |a::l,k=>by
  have h:AL (a::l) x k=AL l x fun r=>k (a::r):=rfl
  rw[h,AK x l];rfl
noncomputable def cy(n:Nat)(L:List (Nat×D)):List D:=L.foldl (fun e p=>e.set p.1 p.2) (List.replicate n .undef)
def AoE:yz->D
 |.slice none 0 0=>.v .nils
 |u=>O1 u
noncomputable def lj(env:List D):x8->D
 |.tmp t=>env.getD t .undef
 |.const u=>AoE u
 |.global n=>Agk n
 |.func f=>.v (.fn f [] [])
theorem Vz{g:Gh}{u:yz}:Ag g (AoE u) u:=by
 unfold AoE
 split
 ·simp[Ag]
 grind[NT]
theorem AeW{g:Gh}{env:List D}{a:Act}(hG:Gx g.M)(h:Af g env a.tmps.toList)(x:x8):Ag g (lj env x) (a.eval x):=by
 cases x with
 |tmp t=>exact Gf h t
 |const u=>exact Vz
 |global n=>exact Mw hG h (.global n)
 |func f=>exact Mw hG h (.func f)
theorem QP{g:Gh}{env:List D}{a:Act}(hG:Gx g.M)(h:Af g env a.tmps.toList):∀(l:List x8),Af g (l.map (lj env)) (l.map a.eval)
 |[]=>by simp[Af]
 |x::l=>by exact⟨_,_,rfl,AeW hG h x,QP hG h l⟩
def kq(a b:yv):Bool:=Y (a=b)
noncomputable def Ao0(P:x7)(op:BinOp)(t:x6)(x y:V)(K:V->Prop):Prop:=
 match x,y with
 |.int kd a,.int kd' b=>
  match op with
  |.quo=>cond (kq kd kd') (b≠0/\K (.int kd (kd.wrap (a.tdiv b)))) False
  |.rem=>cond (kq kd kd') (b≠0/\K (.int kd (a.tmod b))) False
  |.shl=>0<=b/\K (.int kd (kd.wrap (a*2^(min b.toNat kd.bits))))
  |.shr=>0<=b/\K (.int kd (a.fdiv (2^(min b.toNat kd.bits))))
  |op=>cond (kq kd kd') (match ApJ op kd a b with|G z=>K z|none=>False) False
 |.str a,.str b=>
  match op with
  |.add=>I a+I b<=9223372036854775807/\K (.str (a++b))
  |op=>match xp op a b with|G z=>K z|none=>False
 |.bool a,.bool b=>match P.underlying t with
  |some .bool=>match op with
   |.eql=>K (.bool (a==b))
   |.neq=>K (.bool (a !=b))
   |_=>False
  |_=>False
 |_,_=>False
theorem As{b:Bool}{x:Prop}(h:cond b x False):b=J/\x:=by grind
theorem AiC{P:x7}{op:BinOp}{t ty:x6}{x y:V}{K:V->Prop}(h:Ao0 P op t x y K){o:yy}{a b:x8}(ho:o.op=.binOp op t a b ty):
  ∃z,K z/\∀σ,Ai P o [.v x,.v y] σ (.v z) σ:=by
 unfold Ao0 at h
 split at h
 ·rename_i kd a kd' b
  split at h
  ·obtain⟨e,hb,h'⟩:=As h
   have e:=HT e;subst e
   exact⟨_,h',fun σ=>AaQ ho rfl hb⟩
  ·obtain⟨e,hb,h'⟩:=As h
   have e:=HT e;subst e
   exact⟨_,h',fun σ=>AaQ ho rfl hb⟩
  ·exact⟨_,h.2,fun σ=>AhN ho rfl h.1⟩
  ·exact⟨_,h.2,fun σ=>AhN ho rfl h.1⟩
  ·obtain⟨e,h'⟩:=As h
   have e:=HT e;grind[KG]
 all_goals grind[AaW,Ajt,Ajr]
noncomputable def D8:List D->Option (List V)
 |[]=>G []
 |.v x::ds=>match D8 ds with
  |some xs=>G (x::xs)
  |none=>none
 |.acc _ xs::ds=>match D8 ds with
  |some ys=>G (.list xs::ys)
  |none=>none
 |_::_=>none
theorem GX:∀{ds:List D} {xs:List V},D8 ds=G xs->Fx ds=G xs
 |[],xs,h=>by grind[D8,Fx]
 |d::ds,xs,h=>by
  cases d<;>simp only[D8] at h<;>first|(split at h<;>first|(rename_i h1;simp at h;subst h;simp[Fx,D.toV,GX h1])|simp at h)|simp at h
noncomputable def nq:List (Nat×x8)->List D->Option (List (Nat×V))
 |[],[]=>G []
 |p::ps,.v x::ds=>match nq ps ds with
  |some xs=>G ((p.1,x)::xs)
  |none=>none
 |p::ps,.acc _ l::ds=>match nq ps ds with
  |some xs=>G ((p.1,.list l)::xs)
  |none=>none
 |_,_=>none
theorem YY:∀{ps:List (Nat×x8)} {ds:List D} {xs:List (Nat×V)},nq ps ds=G xs->Dp ps ds=G xs
 |[],[],xs,h=>by grind[nq,Dp]
 |[],_::_,xs,h=>by grind[nq]
 |_::_,[],xs,h=>by grind[nq]
 |p::ps,d::ds,xs,h=>by
  cases d<;>simp only[nq] at h<;>first|(split at h<;>first|(rename_i h1;simp at h;subst h;simp[Dp,D.toV,YY h1])|simp at h)|simp at h
def uc:List (Nat×x8)->Nat->Bool
 |[],_=>true
 |p::ps,i=>Nat.beq p.1 i&&uc ps (Nat.succ i)
theorem SU:∀{ps:List (Nat×x8)} {i:Nat},uc ps i=J->ps=((ps.map (·.2)).zipIdx i).map fun x=>(x.2,x.1)
 |[],i,_=>rfl
 |p::ps,i,h=>by
  simp only[uc,HJ] at h
  have h1:=Ii h.1
  simp only[Ik,List.zipIdx_cons]
  rw[←SU h.2]
  grind
noncomputable def vu(sz:Nat)(xs:List V):Bool:=xs.all fun x=>Nat.beq x.size sz
theorem LS{sz:Nat}{xs:List V}(h:vu sz xs=J):∀x∈xs,x.size=sz:=fun x hx=>Ii (I5.1 h x hx)
noncomputable def WH(cs:List V)(fo n:Nat)(b:Bool)(K:V->Prop):Prop:=match b with
 |true=>cond (Nat.ble (fo+n) (I cs)) (K (.agg ((cs.drop fo).take n))) False
 |false=>match cs[fo]? with
  |some y=>K y
  |none=>False
theorem U4{cs:List V}{fo n:Nat}{b:Bool}{K:V->Prop}(h:WH cs fo n b K):∃y,K y/\M1 cs fo n b=G y:=by
 unfold WH at h
 grind[M1,Nat.le_of_ble_eq_true]
noncomputable def xi(P:x7)(s:x6)(f:Nat)(cs:List V)(K:V->Prop):Prop:=match Ru P s f with
 |some (fo,1,false)=>WH cs fo 1 false K
 |some (fo,n+1,true)=>WH cs fo (n+1) true K
 |_=>False
noncomputable def xh(P:x7)(t:x6)(cs:List V)(i:Int)(K:V->Prop):Prop:=match oo P t with
 |some (len,1,false)=>0<=i/\i<len/\WH cs (i.toNat*1) 1 false K
 |some (len,n,true)=>0<=i/\i<len/\WH cs (i.toNat*n) n true K
 |_=>False
theorem Zw{P:x7}{t:x6}{cs:List V}{i:Int}{K:V->Prop}(h:xh P t cs i K):
  ∃y len sz b,K y/\oo P t=G (len,sz,b)/\(b=O->sz=1)/\0<=i/\i<len/\M1 cs (i.toNat*sz) sz b=G y:=by
 grind[xh,U4]
noncomputable def ve(n:Nat)(l h:Option Int)(K:Nat->Nat->Prop):Prop:=match l,h with
 |none,none=>K 0 n
 |some l,none=>0<=l/\l<=n/\K l.toNat n
 |none,some h=>0<=h/\h<=n/\K 0 h.toNat
 |some l,some h=>0<=l/\l<=h/\h<=n/\K l.toNat h.toNat
theorem AhA{n:Nat}{l h:Option Int}{K:Nat->Nat->Prop}(hh:ve n l h K):∃a b,K a b/\C8 n l h=G (a,b):=by
 unfold ve at hh
 grind[C8]
def Cs(P:x7)(o:yy)(ds:List D)(K:Sc->D->Prop):Prop:=∃s d,K s d/\∀σ,Ai P o ds σ d σ
theorem Cs.v{P:x7}{o:yy}{ds:List D}{K:Sc->D->Prop}{s:Sc}{z:V}(hk:K s (.v z))(h:∀σ,Ai P o ds σ (.v z) σ):Cs P o ds K:=⟨s,_,hk,h⟩
def Aga:x8->Bool
 |.const (.slice none 0 0)=>true
 |_=>false
theorem VD{x:x8}(h:Aga x=J):x=.const (.slice none 0 0):=by
 grind[Aga]
noncomputable def Aoz(P:x7)(op:BinOp)(t:x6)(b:x8)(x:V)(K:V->Prop):Prop:=cond (Aga b) (match P.underlying t with
 |some (.slice _)=>match op,x with
  |.eql,.list xs=>xs≠ []/\K (.bool false)
  |.neq,.list xs=>xs≠ []/\K (.bool true)
  |.eql,.nils=>K (.bool true)
  |.neq,.nils=>K (.bool false)
  |_,_=>False
 |_=>False) False
theorem P2{P:x7}{o:yy}{op:BinOp}{t ty e:x6}{a:x8}(ho:o.op=.binOp op t a (.const (.slice none 0 0)) ty)(hu:P.underlying t=G (.slice e))(hop:op=.eql∨op=.neq){x:V}{isn:Bool}
  (hx:∀M u,repV M x u->∃ad len cap,u=.slice ad len cap/\ad.isNone=isn) (σ:St):Ai P o [.v x,.v .nils] σ (.v (.bool (if op=.eql then isn else !isn))) σ:=by
 intro E g ac w K Q hw hds hK
 simp only[ho,Op.operands] at hds
 obtain⟨u,v,eq,h1,h2⟩:=Au.1 hds
 simp only[Ik,IF,HV,Ix] at eq
 obtain⟨ad,len,cap,rfl,rfl⟩:=hx _ _ h1
 have hrun:=QH (P:=P) ho hu hop ac.eval w eq.1 rfl
 have:=hK g w (.bool (if op=.eql then ad.isNone else !ad.isNone)) hw g.le_refl (by simp[Ag])
 unfold Oper.wp
 rw[hrun]
 exact this
theorem Vy{xs:List V}(hx:xs≠ [])(M:c6)(u:yz)(h:repV M (.list xs) u):∃ad len cap,u=.slice ad len cap/\ad.isNone=O:=by
 grind[B4]
theorem Vx(M:c6)(u:yz)(h:repV M .nils u):∃ad len cap,u=.slice ad len cap/\ad.isNone=J:=by
 simp_all
theorem Ai8{P:x7}{op:BinOp}{t ty:x6}{x:V}{a b:x8}{K:V->Prop}(h:Aoz P op t b x K){o:yy}(ho:o.op=.binOp op t a b ty):∃z,K z/\∀σ,Ai P o [.v x,.v .nils] σ (.v z) σ:=by
 unfold Aoz at h
 obtain⟨h1,h2⟩:=As h
 have hb:=VD h1;subst hb
 split at h2
 ·rename_i e hu
  split at h2
  ·exact⟨_,h2.2,fun σ=>P2 ho hu (.inl rfl) (Vy h2.1) σ⟩
  ·exact⟨_,h2.2,fun σ=>P2 ho hu (.inr rfl) (Vy h2.1) σ⟩
  ·exact⟨_,h2,fun σ=>P2 ho hu (.inl rfl) Vx σ⟩
  ·exact⟨_,h2,fun σ=>P2 ho hu (.inr rfl) Vx σ⟩
  grind
 grind
noncomputable def Aoy(P:x7)(op:BinOp)(t:x6)(b:x8)(isn:Bool)(K:V->Prop):Prop:=cond (Aga b) (match P.underlying t with
 |some (.slice _)=>(match op with
  |.eql=>K (.bool isn)
  |.neq=>K (.bool !isn)
  |_=>False)
 |_=>False) False
theorem Ai7{P:x7}{op:BinOp}{t ty:x6}{y:V}{ad:Option Addr}{len cap:Nat}{a b:x8}{K:V->Prop}(h:Aoy P op t b ad.isNone K){o:yy}(ho:o.op=.binOp op t a b ty):∃z,K z/\∀σ,Ai P o [.rv y (.slice ad len cap),.v .nils] σ (.v z) σ:=by
 unfold Aoy at h
 obtain⟨h1,h2⟩:=As h
 have hb:=VD h1;subst hb
 have main:∀{e:x6},P.underlying t=G (.slice e)->op=.eql∨op=.neq->∀σ,Ai P o [.rv y (.slice ad len cap),.v .nils] σ (.v (.bool (if op=.eql then ad.isNone else !ad.isNone))) σ:=by
  intro e hu hop σ E g ac w K Q hw hds hK
  simp only[ho,Op.operands] at hds
  obtain⟨u,v,eq,h1,h2⟩:=Au.1 hds
  simp only[Ik,IF,HV,Ix] at eq
  obtain⟨rfl,_⟩:=h1
  have hrun:=QH (P:=P) ho hu hop ac.eval w eq.1 rfl
  have:=hK g w (.bool (if op=.eql then ad.isNone else !ad.isNone)) hw g.le_refl (by simp[Ag])
  unfold Oper.wp
  rw[hrun]
  exact this
 grind
theorem UJ{P:x7}{f:yx}{ds ds':List D}{σ σ':St}{d:D}(h:∀a cap,Aa P f (ds++ .rv (.list []) (.slice a 0 cap)::ds') σ d σ'):Aa P f (ds++ .v (.list [])::ds') σ d σ':=by
 refine⟨(h none 0).1,fun g w args hw hargs=>?_⟩
 have split:∀{ds:List D} {us:List yz},Af g (ds++ .v (.list [])::ds') us->∃a cap,Af g (ds++ .rv (.list []) (.slice a 0 cap)::ds') us:=by
  intro ds
  induction ds<;>grind[Af,Ag,B4]
 obtain⟨a,cap,h5⟩:=split hargs
 exact(h a cap).2 g w args hw h5
noncomputable def Ph:List D->Option (List V)
 |[]=>G []
 |.v .nils::ds=>match Ph ds with
  |some xs=>G (.list []::xs)
  |none=>none
 |.v x::ds=>match Ph ds with
  |some xs=>G (x::xs)
  |none=>none
 |.acc _ xs::ds=>match Ph ds with
  |some ys=>G (.list xs::ys)
  |none=>none
 |_::_=>none
theorem FQ{g:Gh}{u:yz}(h:Ag g (.v .nils) u):Ag g (.v (.list [])) u:=by
 grind[Ag,CH,DD]
theorem FP{g:Gh}:∀{ds:List D} {xs:List V} {us:List yz},Ph ds=G xs->Af g ds us->Af g (xs.map .v) us
 |[],xs,us,h,hr=>by grind[Ph]
 |d::ds,xs,us,h,hr=>by
  obtain⟨u,us',rfl,h1,h2⟩:=hr
  unfold Ph at h
  split at h
  ·rename_i e;simp at e
  ·rename_i ds' e;simp only[HV] at e;obtain⟨rfl,rfl⟩:=e
   split at h
   ·rename_i ys hy;simp at h;subst h
    simp only[Ik,Af];exact⟨_,_,rfl,FQ h1,FP hy h2⟩
   ·simp at h
  ·rename_i x ds' e;simp only[HV] at e;obtain⟨rfl,rfl⟩:=e
   split at h
   ·rename_i ys hy;simp at h;subst h
    simp only[Ik,Af];exact⟨_,_,rfl,h1,FP hy h2⟩
   ·simp at h
  ·rename_i k l ds' e;simp only[HV] at e;obtain⟨rfl,rfl⟩:=e
   split at h
   ·rename_i ys hy;simp at h;subst h
    simp only[Ik,Af];exact⟨_,_,rfl,Pv h1,FP hy h2⟩
   ·simp at h
  grind
theorem Mb{g:Gh}{ds:List D}{xs:List V}{us:List yz}(h:D8 ds=G xs)(hr:Af g ds us):Af g (xs.map .v) us:=
 HA (Pu (GX h) hr)
noncomputable def Aea(P:x7)(f:yx)(fs cs:List V)(ds:List D)(s:Sc)(K:Sc->D->Prop):Prop:=match s with
 |.h (.c d) s=>cond d.pl (match Ph ds with
  |some xs=>Aa P f ((fs++xs++cs).map .v) ⟨[],[]⟩ d ⟨[],[]⟩/\K s d
  |none=>False) False
 |.h (.ca ys d) s=>cond d.pl (match D8 ds with
  |some xs=>jz (fs++xs++cs) ys/\Aa P f (ys.map .v) ⟨[],[]⟩ d ⟨[],[]⟩/\K s d
  |none=>False) False
 |_=>False
theorem Anx:∀{xs ys:List V},jz xs ys->Dv.DSL (xs.map .v) (ys.map .v)
 |_,_,.nil=>.nil
 |_,_,.cons h hs=>.cons (.v h) (Anx hs)
theorem U6{P:x7}{f:yx}{fs cs:List V}{ds:List D}{s:Sc}{K:Sc->D->Prop}(h:Aea P f fs cs ds s K){o:yy}{c:Call}{fo:x8}(ho:o.op=.call c)(hc:c.callee=.value fo):
  Cs P o (.v (.fn f fs cs)::ds) K:=by
 unfold Aea at h
 split at h
 ·rename_i d s
  obtain⟨h1,h2⟩:=As h
  split at h2
  ·rename_i xs hx
   refine⟨_,_,h2.2,fun σ=>BR (fun g us hr=>?_) (P5 (d:=d) (ds:=xs.map .v) ho hc (Ca xs) h1 (by simpa[IZ] using h2.1))⟩
   grind[Af,FP]
  grind
 ·rename_i ys d s
  obtain⟨h1,h2⟩:=As h
  split at h2
  ·rename_i xs hx
   obtain⟨h3,h4,h5⟩:=h2
   have h4':=h4.sub (e:=d) (by simpa using Anx h3) (.same d)
   refine⟨_,_,h5,fun σ=>BR (fun g us hr=>?_) (P5 (d:=d) (ds:=xs.map .v) ho hc (Ca xs) h1 (by simpa[IZ] using h4'))⟩
   grind[Af,Mb]
  grind
 grind
noncomputable def Pe(P:x7)(c:Call)(ds:List D)(K:V->Prop):Prop:=match c.callee,ds with
 |.builtin .len,[.v (.list xs)]=>match c.args.toList,c.argTypes.toList with
  |[_],[t]=>match P.underlying t with
   |some (.slice _)=>K (.int .i64 (I xs))
   |_=>False
  |_,_=>False
 |.builtin .len,[.v .nils]=>match c.args.toList,c.argTypes.toList with
  |[_],[t]=>match P.underlying t with
   |some (.slice _)=>K (.int .i64 0)
   |_=>False
  |_,_=>False
 |.builtin .len,[.arr _ _ n]=>match c.args.toList,c.argTypes.toList with
  |[_],[t]=>match P.underlying t with
   |some (.slice _)=>K (.int .i64 n)
   |_=>False
  |_,_=>False
 |.builtin .len,[.gro _ n _]=>match c.args.toList,c.argTypes.toList with
  |[_],[t]=>match P.underlying t with
   |some (.slice _)=>K (.int .i64 n)
   |_=>False
  |_,_=>False
 |.builtin .len,[.v (.str s)]=>match c.args.toList,c.argTypes.toList with
  |[_],[t]=>match P.underlying t with
   |some .string=>K (.int .i64 (I s))
   |_=>False
  |_,_=>False
 |.builtin .max,[.v (.int kd a),.v (.int ke b)]=>match c.args.toList with
  |[_,_]=>cond (kq kd ke) (K (.int kd (if b>a then b else a))) False
  |_=>False
 |.builtin .min,[.v (.int kd a),.v (.int ke b)]=>match c.args.toList with
  |[_,_]=>cond (kq kd ke) (K (.int kd (if b<a then b else a))) False
  |_=>False
 |_,_=>False
theorem S9{P:x7}{c:Call}{ds:List D}{K:V->Prop}(h:Pe P c ds K){o:yy}(ho:o.op=.call c):∃z,K z/\∀σ,Ai P o ds σ (.v z) σ:=by
 have mk1:∀{b:Builtin} {x:x8} {t:x6},c.callee=.builtin b->c.args.toList=[x]->c.argTypes.toList=[t]->o.op=.call { callee:=.builtin b,args:= #[x],argTypes:= #[t]}:=by
  intro b x t hc h1 h2
  rw[ho];cases c;congr 2
  all_goals grind
 have mk2:∀{b:Builtin} {x y:x8},c.callee=.builtin b->c.args.toList=[x,y]->o.op=.call { callee:=.builtin b,args:= #[x,y],argTypes:=c.argTypes }:=by
  intro b x y hc h1
  rw[ho];cases c;congr 2
  grind
 unfold Pe at h
 split at h
 ·rename_i xs hc
  split at h
  all_goals grind[KE]
 ·rename_i hc
  split at h
  ·rename_i x t h1 h2
   split at h
   ·rename_i e hu
    refine⟨_,h,fun σ=>BR (fun g us hr=>?_) (KE (xs:=[]) (mk1 hc h1 h2) hu)⟩
    grind[FQ,Af]
   grind
  grind
 ·rename_i q off n hc
  split at h
  all_goals grind[P4]
 ·rename_i q n sz hc
  split at h
  ·rename_i x t h1 h2
   split at h
   ·rename_i e hu
    refine⟨_,h,fun σ=>BR (fun g us hr=>?_) (P4 (q:=q) (off:=0) (mk1 hc h1 h2) hu)⟩
    grind[Ag,Af]
   grind
  grind
 ·rename_i xs hc
  split at h
  all_goals grind[Ajm]
 ·rename_i kd a ke b hc
  split at h
  ·rename_i x y h1
   obtain⟨e,h2⟩:=As h
   have e:=HT e;grind[AlS]
  grind
 ·rename_i kd a ke b hc
  split at h
  ·rename_i x y h1
   obtain⟨e,h2⟩:=As h
   have e:=HT e;grind[AlR]
  grind
 grind
noncomputable def AhC(P:x7)(t:x6)(ps:List (Nat×x8))(ds:List D)(s:Sc)(K:Sc->V->Prop):Prop:=match s with
 |.h .rn s=>(match ApI P t,nq ps ds with
  |some (z,ay),some xs=>(match Hh (ay[·]?) z xs with
   |some out=>AX out fun out=>K s (.agg out)
   |none=>False)
  |_,_=>False)
 |s=>(match Y9 P t,nq ps ds with
  |some (z,ay),some xs=>(match Hh (ay[·]?) z xs with
   |some out=>AX out fun out=>K s (.agg out)
   |none=>False)
  |_,_=>False)
noncomputable def Pg(P:x7)(t:x6)(len:Nat)(ps:List (Nat×x8))(ds:List D)(K:List V->Prop):Prop:=match BS P t with
 |some (_,sz,_,z)=>match len with
  |0=>match ps,ds with
   |[],[]=>K []
   |_,_=>False
  |len+1=>match D8 ds with
   |some xs=>cond (uc ps 0&&Nat.beq (I ps) (len+1)&&z.isSome&&Nat.blt 0 sz&&Nat.ble ((len+1)*sz) 1000&&vu sz xs) (K xs) False
   |none=>False
 |none=>False
theorem SA{P:x7}{t:x6}{len:Nat}{ps:Array (Nat×x8)}{ds:List D}{K:List V->Prop}(h:Pg P t len ps.toList ds K){o:yy}(ho:o.op=.buildSlice t len ps):∃xs,K xs/\∀σ,Ai P o ds σ (.v (.list xs)) σ:=by
 unfold Pg at h
 split at h
 ·rename_i e sz by' z hs
  split at h
  ·grind[NE]
  ·rename_i len
   split at h
   ·rename_i xs hx
    obtain⟨h1,h2⟩:=As h
    simp only[HJ] at h1
    obtain⟨⟨⟨⟨⟨g1,g2⟩,g3⟩,g4⟩,g5⟩,g6⟩:=h1
    have hl:ps.size=len+1:=by simp_all
    exact⟨_,h2,fun σ=>ES ho (SU g1) hl hs g3 (GX hx) (LS g6) (by omega) (Io g4) (by simp_all)⟩
   grind
 grind
noncomputable def K8(P:x7)(t:x6)(x:D)(l h:Option (yv×Int))(K:V->Prop):Prop:=match x with
 |.v (.str s)=>match P.underlying t with
  |some .string=>ve (I s) (l.map (·.2)) (h.map (·.2)) fun a b=>K (.str ((s.take b).drop a))
  |_=>False
 |.v (.list xs)=>match BS P t with
  |some (_,sz,_,_)=>cond (Nat.blt 0 sz) ((∀x∈xs,x.size=sz)/\ve (I xs) (l.map (·.2)) (h.map (·.2)) fun a b=>K (.list ((xs.take b).drop a))) False
  |none=>False
 |_=>False
noncomputable def Zq(P:x7)(t:x6)(lo hi:Bool)(ds:List D)(K:V->Prop):Prop:=match lo,hi,ds with
 |false,false,[x]=>K8 P t x none none K
 |true,false,[x,.v (.int kd i)]=>K8 P t x (G (kd,i)) none K
 |false,true,[x,.v (.int kd i)]=>K8 P t x none (G (kd,i)) K
 |true,true,[x,.v (.int kd i),.v (.int ke j)]=>K8 P t x (G (kd,i)) (G (ke,j)) K
 |_,_,_=>False
theorem Hu{P:x7}{t:x6}{x:D}{l h':Option (yv×Int)}{K:V->Prop}(h:K8 P t x l h' K){o:yy}{xo:x8}{lo hi:Option x8}(ho:o.op=.slice t xo lo hi none)(h1:lo.isSome=l.isSome)(h2:hi.isSome=h'.isSome):
  ∃y,K y/\∀σ,Ai P o (x::(EO l++EO h')) σ (.v y) σ:=by
 unfold K8 at h
 split at h
 ·grind[AhA,AaO]
 ·split at h
  ·rename_i e sz by' z hs
   obtain⟨g1,g2,g3⟩:=As h
   obtain⟨a,b,h3,hp⟩:=AhA g3
   exact⟨_,h3,fun σ=>AaP ho hs g2 (Io g1) l h' h1 h2 hp⟩
  grind
 grind
theorem Zp{P:x7}{t:x6}{lo hi:Option x8}{ds:List D}{K:V->Prop}(h:Zq P t lo.isSome hi.isSome ds K){o:yy}{xo:x8}(ho:o.op=.slice t xo lo hi none):
  ∃y,K y/\∀σ,Ai P o ds σ (.v y) σ:=by
 unfold Zq at h
 split at h
 ·rename_i e1 e2;exact Hu h ho e1 e2
 ·rename_i e1 e2;exact Hu h ho e1 e2
 ·rename_i e1 e2;exact Hu h ho e1 e2
 ·rename_i e1 e2;exact Hu h ho e1 e2
 grind
noncomputable def vEl(xs:List V)(i:Int)(sz:Nat)(s:Sc)(K:Sc->V->Prop):Prop:=match s with
 |.h (.x y) s=>cond (Nat.beq y.size sz) (0<=i/\xs[i.toNat]?=G y/\K s y) False
 |.h (.xs y) s=>y.size=sz/\0<=i/\xs[i.toNat]?=G y/\K s y
 |_=>False
noncomputable def Zu(P:x7)(t:x6)(x:V)(k:Prop):Prop:=match DU P t,x with
 |some (1,false),.agg _=>False
 |some (1,false),_=>k
 |some (n,true),.agg cs=>cond (Nat.beq (I cs) n) k False
 |_,_=>False
theorem Ama{x:V}(h:∀cs,x=.agg cs->False):x.isAgg=O:=by cases x<;>first|rfl|grind
theorem Zt{P:x7}{t:x6}{x:V}{k:Prop}(h:Zu P t x k){o:yy}{a:x8}(ho:o.op=.load t a):k/\∀σ,Ai P o [.v (.ref x)] σ (.v x) σ:=by
 unfold Zu at h
 split at h
 ·grind
 ·rename_i ht hx;exact⟨h,fun σ=>FS ho ht (Ama hx)⟩
 ·rename_i n cs ht
  obtain⟨h1,h2⟩:=As h
  have:=Ii h1;subst this
  exact⟨h2,fun σ=>Rb ho ht⟩
 grind
noncomputable def AdU(P:x7)(o:yy)(ds:List D)(s:Sc)(K:Sc->D->Prop):Prop:=
 match o.op,ds with
 |.binOp op t _ b _,[.v x,.v .nils]=>Aoz P op t b x fun z=>K s (.v z)
 |.binOp op t _ b _,[.rv _ (.slice ad _ _),.v .nils]=>Aoy P op t b ad.isNone fun z=>K s (.v z)
 |.binOp op t _ _ _,[.v x,.v y]=>Ao0 P op t x y fun z=>K s (.v z)
 |.unOp op _ _,[.v x]=>match unI op x with
  |some z=>K s (.v z)
  |none=>False
 |.convert st t _,[.v (.int _ n)]=>match P.underlying st,P.underlying t with
  |some _,some (.int kd)=>K s (.v (.int kd (kd.wrap n)))
  |_,_=>False
 |.extract _ i,[.tup xs]=>match xs[i]? with
  |some d=>K s d
  |none=>False
 |.nilCheck _,[.ptr q f]=>K s (.ptr q f)
 |.nilCheck _,[.v (.ref x)]=>K s (.v (.ref x))
 |.field st _ f,[.v (.agg cs)]=>xi P st f cs fun y=>K s (.v y)
 |.fieldAddr st _ f,[.ptr q off]=>match Ru P st f with
  |some (fo,_+1,_)=>K s (.ptr q (Nat.add off fo))
  |_=>False
 |.fieldAddr st _ f,[.v (.ref (.agg cs))]=>xi P st f cs fun y=>K s (.v (.ref y))
 |.indexAddr t _ _,[.v (.list xs),.v (.int _ i)]=>match BS P t with
  |some (_,sz,_,_)=>vEl xs i sz s fun s y=>K s (.v (.ref y))
  |none=>False
 |.indexAddr t _ _,[.arr q off len,.v (.int _ i)]=>match BS P t with
  |some (_,sz,_,_)=>0<=i/\i<len/\K s (.ptr q (off+i.toNat*sz))
  |none=>False
 |.indexAddr t _ _,[.ptr q off,.v (.int _ i)]=>match oo P t with
  |some (len,sz,_)=>0<=i/\i<len/\K s (.ptr q (off+i.toNat*sz))
  |none=>False
 |.indexAddr t _ _,[.v (.ref (.agg cs)),.v (.int _ i)]=>xh P t cs i fun y=>K s (.v (.ref y))
 |.index t _ _,[.v (.str l),.v (.int _ i)]=>match P.underlying t with
  |some .string=>(match s with
   |.h (.y c) s=>0<=i/\l[i.toNat]?=G c/\K s (.v (vb c))
   |s=>∃c:UInt8,0<=i/\l[i.toNat]?=G c/\K s (.v (vb c)))
  |_=>False
 |.index t _ _,[.v (.agg cs),.v (.int _ i)]=>xh P t cs i fun y=>K s (.v y)
 |.load t _,[.v (.ref x)]=>Zu P t x (K s (.v x))
 |.build t ps,ds=>AhC P t ps.toList ds s fun s x=>K s (.v x)
 |.buildSlice t len ps,ds=>Pg P t len ps.toList ds fun xs=>K s (.v (.list xs))
 |.makeFunc (.func f) fs _,ds=>match D8 ds with
  |some xs=>cond (Nat.ble fs.size (I xs)) (K s (.v (.fn f (xs.take fs.size) (xs.drop fs.size)))) False
  |none=>False
 |.slice t _ lo hi none,ds=>Zq P t lo.isSome hi.isSome ds fun x=>K s (.v x)
 |.call c,.v (.fn f fs cs)::ds=>match c.callee with
  |.value _=>Aea P f fs cs ds s K
  |_=>False
 |.call c,ds=>Pe P c ds fun x=>K s (.v x)
 |_,_=>False
theorem Zx{P:x7}{st:x6}{f:Nat}{cs:List V}{K:V->Prop}(h:xi P st f cs K):∃y fo n b,K y/\Ru P st f=G (fo,n,b)/\n≠0/\(b=O->n=1)/\M1 cs fo n b=G y:=by
 grind[xi,U4]
theorem Aln{xs:List V}{i:Int}{sz:Nat}{s:Sc}{K:Sc->V->Prop}(h:vEl xs i sz s K):∃y s',K s' y/\y.size=sz/\0<=i/\xs[i.toNat]?=G y:=by
 unfold vEl at h
 grind[Nat.eq_of_beq_eq_true]
theorem AdT{P:x7}{o:yy}{ds:List D}{s:Sc}{K:Sc->D->Prop}(h:AdU P o ds s K):Cs P o ds K:=by
 unfold AdU at h
 split at h
 ·grind[Ai8,Cs]
 ·rename_i op t a b ty x ad l c ho
  obtain⟨z,h1,h2⟩:=Ai7 h ho
  exact .v h1 h2
 ·grind[AiC,Cs]
 ·grind[Ao8,Cs]
 ·grind[LG,Cs]
 ·grind[KF,Cs]
 ·grind[M6,Cs]
 ·rename_i a x ho;exact .v h fun σ=>M5 ho
 ·grind[Zx,Afs,Cs]
 ·rename_i st a f q off ho
  split at h
  ·rename_i fo n b hf;exact⟨_,_,h,fun σ=>AaT ho hf (by simp)⟩
  grind
 ·grind[Zx,FT,Cs]
 ·grind[Aln,Ajp,Cs]
 ·grind[Ajq,Cs]
 ·grind[Afr,Cs]
 ·grind[Zw,Afq,Cs]
 ·grind[Ajo,Cs]
 ·grind[Zw,Ajn,Cs]
 ·grind[Zt,Cs]
 ·rename_i t ps ho
  unfold AhC at h
  split at h
  all_goals grind[AQ,AaX,YY,P6,Cs]
 ·grind[SA,Cs]
 ·rename_i f fs cap ho
  split at h
  ·rename_i xs hx
   obtain⟨h1,h2⟩:=As h
   have hl:fs.size<=I xs:=by simp_all
   refine .v h2 fun σ=>BR (fun g us hr=>Mb hx hr) ?_
   grind[Th,GV,List.take_append_drop]
  grind
 ·grind[Zp,Cs]
 all_goals grind[U6,S9,Cs]
end Go.Nv

namespace Go.Dv
open Go.IntKind (u64)
open Go.IntKind renaming wrap → yu, i64 → yt
open List renaming length → I, map → U, drop → W
open Option renaming some → G
open Bool renaming true → J, false → O
open Decidable renaming decide → Y
open Int renaming toNat → Z
open Go.Dv.V renaming list → ai, str → ae, agg → ab, int → aa, ref → bz, fn → bw, nils → bv, bool → bu
open Go.Dv.D renaming v → bt, acc → br, ptr → bq, arr → bo, gro → bm, tup → bk, undef → bj, dagg → bi
open Go.Dv.St renaming mk → bh
open Go.Dv.KI renaming blk → bf
open _root_.ByteArray renaming mk → bc
open Go renaming Operand → x8, Program → x7, TypeId → x6, World → x5, Value → yz, Oper → yy, FuncId → yx, Func → yw, IntKind → yv
theorem WI.addOwnP{E:cd}{g:Gh}{σ:St}{w:x5}(hw:WI E g σ w){k sz:Nat}{xs:List V}{u:yz}(hk:∀x∈σ.own,x.1≠k)(hsz:0<sz/\∀x∈xs,x.size=sz)(hr:repV g.M (.list xs) u)(hp:Perm g.M w sz u)
  (hb:∀b,Co u=G b->(E.w.heap.size<=b∨E.priv b)/\(∀i cs,σ.H[i]?=G (G cs)->g.β i≠b)/\∀x∈σ.own,∀u',g.ι x.1 (I x.2.2)=G u'->Co u'≠G b):
  WI E { g with ι:=fun k' m=>if k'=k then(if m=I xs then G u else none) else g.ι k' m } ⟨σ.H,(k,sz,xs)::σ.own⟩ w/\
  g.le { g with ι:=fun k' m=>if k'=k then(if m=I xs then G u else none) else g.ι k' m }:=by
 have hle:g.le { g with ι:=fun k' m=>if k'=k then(if m=I xs then G u else none) else g.ι k' m }:=by
  refine⟨c6.le_refl _,HP _,fun _ _=>rfl,fun k' m u' h=>?_,fun _ _=>rfl⟩
  by_cases e:k'=k
  ·subst e;rw[hw.rep.fresh k' hk m] at h;grind
  grind
 have hold:∀x∈σ.own,(if x.1=k then(if I x.2.2=I xs then G u else none) else g.ι x.1 (I x.2.2))=g.ι x.1 (I x.2.2):=fun x hx=>HZ (hk x hx)
 refine⟨hw.update (fun _=>False) (fun _ h=>h.elim) (fun _ _ _=>⟨rfl,fun _=>rfl⟩) (c6.le_refl _) (HP _) (fun _ _=>rfl) (fun _ _=>rfl) (HP _) rfl rfl rfl ?_ hw.objs ?_,hle⟩
 ·refine⟨hw.rep.n,hw.rep.mem,fun i cs hi=>?_,hw.rep.inj,fun k' sz' xs' hx=>?_,?_,fun x hx y hy hne u1 u2 h1 h2 b hb1=>?_,fun x hx u1 h1 b hb1 i cs hi=>?_,fun k' hk' m=>?_,hw.rep.gl,hw.rep.gw⟩
  ·obtain⟨us,rest,e,h2,h3,h4,h5⟩:=hw.rep.obj i cs hi
   grind[Af.mono]
  ·rcases Iz.1 hx with e|hx
   ·grind
   ·obtain⟨h0,u',hu,h3,h4,h5⟩:=hw.rep.own k' sz' xs' hx
    grind
  ·simp only[Ik,List.nodup_cons]
   refine⟨fun h=>?_,hw.rep.tags⟩
   grind
  ·rcases Iz.1 hx with rfl|hx<;>rcases Iz.1 hy with rfl|hy
   ·omega
   ·grind
   ·grind
   ·exact hw.rep.sep x hx y hy hne u1 u2 ((hold x hx).symm.trans h1) ((hold y hy).symm.trans h2) b hb1
  ·rcases Iz.1 hx with rfl|hx
   ·grind
   ·exact hw.rep.ownObj x hx u1 ((hold x hx).symm.trans h1) b hb1 i cs hi
  ·have hne:¬k'=k:=fun e=>hk' (k,sz,xs) (by simp) e.symm
   simp only[HZ hne]
   exact hw.rep.fresh k' (fun x hx=>hk' x (by grind)) m
 ·intro x hx u1 h1 b hb1
  rcases Iz.1 hx with rfl|hx
  ·grind
  ·exact hw.owns x hx u1 ((hold x hx).symm.trans h1) b hb1
end Go.Dv
namespace Go.Nv
open Go.Dv
open Go.IntKind (u64)
open Go.IntKind renaming wrap → yu, i64 → yt
open List renaming length → I, map → U, drop → W
open Option renaming some → G
open Bool renaming true → J, false → O
open Decidable renaming decide → Y
open Int renaming toNat → Z
open Go.Dv.V renaming list → ai, str → ae, agg → ab, int → aa, ref → bz, fn → bw, nils → bv, bool → bu
open Go.Dv.D renaming v → bt, acc → br, ptr → bq, arr → bo, gro → bm, tup → bk, undef → bj, dagg → bi
open Go.Dv.St renaming mk → bh
open Go.Dv.KI renaming blk → bf
open _root_.ByteArray renaming mk → bc
open Go renaming Operand → x8, Program → x7, TypeId → x6, World → x5, Value → yz, Oper → yy, FuncId → yx, Func → yw, IntKind → yv
section
variable {P : x7} {o : yy} {σ : St}
theorem Xp{x y:x8}{t tn:x6}(ho:o.op=.call { callee:=.builtin .append,args:= #[x,y],argTypes:= #[t,tn]}){e:x6}{sz by':Nat}{z:yz}(hs:BS P t=G (e,sz,by',G z))(hzc:z.cells.size=sz)(h0:0<sz){kn:yv}(htn:P.underlying tn=G (.int kn))
  {kd:yv} {n:Int} (hn:0<n) (hlen:n.toNat*by'<=140737488355328) (hlen2:n.toNat<=140737488355328):
  Ai P o [.v .nils,.v (.int kd n)] σ (.gro (I σ.H) n.toNat sz) ⟨σ.H++[G []],σ.own⟩:=by
 intro E g a w K Q hw hds hK
 simp only[ho,Op.operands,Call.operands] at hds
 obtain⟨u,v,eq,hu,hv⟩:=Au.1 (by simpa using hds)
 simp only[HV,Ix] at eq
 simp only[Ag,CH,AC] at hu hv
 subst hu hv
 obtain⟨m,rfl⟩:∃m:Nat,n=m:=⟨n.toNat,by omega⟩
 simp only[IR] at hlen hlen2 hK⊢
 obtain⟨i,ht,hi,hisz,hib,hiz⟩:=AF hs
 have hrun:=Lib.run_append_nil_zeros (P:=P) w t tn o.type e i z kd kn ht htn hi hiz m (by omega) (by omega) (by omega) (by grind)
 have hge:=grownCap_ge w m 0 e
 generalize hcs:Builtin.zeroCells z.cells m++Builtin.zeroCells z.cells (grownCap w m 0 e-m)=cs at hrun
 have hsize:cs.size=grownCap w m 0 e*sz:=by
  rw[←hcs]
  simp only[Array.size_append,size_zeroCells,hzc, ←IV]
  grind
 obtain⟨g',h3,h4,h5',h6',h7⟩:=hw.drew.newObjR (us:=[]) (rest:=cs.toList) (cs:=[]) e (by rfl) (by simp)
 have hd:Ag g' (.gro (I σ.H) m sz) (.slice (G ⟨w.heap.size,0,none⟩) m (grownCap w m 0 e)):=by
  simp only[Ag]
  simp_all
 have:=hK g' _ _ h3 h4 hd
 unfold Oper.wp execOp
 simp only[ho,resolve,invoke,builtin,Sem.run_bind,Sem.run_pure,Result.andThen_ok,List.map_toArray,Ik,IF,eq.1,eq.2,hrun]
 exact this
theorem Xm{t:x6}{x hx:x8}(ho:o.op=.slice t x none (G hx) none){e:x6}{sz by':Nat}{z:Option yz}(hs:BS P t=G (e,sz,by',z))(h0:0<sz){q len:Nat}{cs:List D}(hq:σ.H[q]?=G (G cs)){kd:yv}(k:Nat)(hk:∀x∈σ.own,x.1≠k):
  Ai P o [.gro q len sz,.v (.int kd 0)] σ (.acc k []) ⟨σ.H.set q none,(k,sz,[])::σ.own⟩:=by
 intro E g a w K Q hw hds hK
 simp only[ho,Op.operands] at hds
 obtain⟨u,v,eq,h1,h2⟩:=Au.1 (by simpa using hds)
 simp only[HV,Ix] at eq
 simp only[Ag,AC] at h1 h2
 subst h2
 obtain⟨hqn,cap,hcap,hκ,rfl⟩:=h1
 obtain⟨i,hu,hi',hsz,_,_⟩:=AF hs
 obtain⟨us,rest,et,hb,hr,hone,hM,hkk⟩:=hw.rep.obj q cs hq
 have hrep:repV g.M (.list []) (.slice (G ⟨g.β q,0,none⟩) 0 cap):=by grind[B4]
 obtain⟨hw2,hle⟩:=(hw.kill hq).addOwnP (k:=k) (sz:=sz) (xs:=[]) (u:=.slice (G ⟨g.β q,0,none⟩) 0 cap) hk ⟨h0,by simp⟩ hrep
  (.inr ⟨g.β q,0,0,cap,_,et,rfl,hb,Iu _,by grind,fun o _=>hM o,hw.rep.obj_ng hq⟩) (fun b hb'=>by
   simp only[Co] at hb'
   split at hb'
   ·grind
   ·simp at hb';subst hb'
    refine⟨hw.objs q cs hq,fun i c hi=>?_,fun x hx u' hu' hb2=>hw.rep.ownObj x hx u' hu' _ hb2 q cs hq rfl⟩
    obtain⟨hne,hi2⟩:=H3 hi
    exact fun e=>hne (hw.rep.inj i q _ _ hi2 hq e))
 have:=hK _ _ (.slice (G ⟨g.β q,0,none⟩) 0 cap) hw2 hle (by grind[Ag])
 have hbr:=E7 (P:=P) w true len cap hcap none (G (kd,0)) (l':=0) (h':=0) (by rfl)
 unfold Oper.wp execOp
 simp only[ho,eq.1,eq.2,Jw,IJ,Instr.sliceAt,Instr.slice,Sem.run_bind,run_underlying hu,Result.andThen_ok]
 simp only[Jw,IJ] at hbr
 rw[hbr]
 simp only[Result.andThen_ok,sizeOf,typeInfo,Sem.run_pure,Sem.run_bind]
 by_cases hc0:cap=0
 ·simpa[Addr.add_lit,Oper.upon,hi'] using this
 ·simpa[hc0,Addr.add_lit,Oper.upon,hi',show ¬0=cap by omega] using this
theorem Xo{x:x8}{t:x6}(ho:o.op=.call { callee:=.builtin .cap,args:= #[x],argTypes:= #[t]}){e:x6}(ht:P.underlying t=G (.slice e)):Ai P o [.v .nils] σ (.v (.int .i64 0)) σ:=by
 refine A6 fun E g ρ w hw hds=>?_
 simp only[ho,Op.operands,Call.operands,AB] at hds
 obtain⟨u,e,h1⟩:=hds
 simp at e
 simp only[Ag,CH] at h1
 subst h1
 exact⟨_,by simp[execOp,ho,e,resolve,invoke,builtin,Builtin.cap_,run_underlying ht,goInt];rfl,by simp[Ag]⟩
theorem QZ{t:x6}{x hx:x8}(ho:o.op=.slice t x none (G hx) none){e:x6}(hu:P.underlying t=G (.slice e)){inf:TypeInfo}(hi:P.info? e=G inf){kd:yv}:Ai P o [.v .nils,.v (.int kd 0)] σ (.v .nils) σ:=by
 refine A6 fun E g ρ w hw hds=>?_
 simp only[ho,Op.operands] at hds
 obtain⟨u,v,eq,h1,h2⟩:=Au.1 (by simpa using hds)
 simp only[HV,Ix] at eq
 simp only[Ag,AC,CH] at h1 h2
 subst h1 h2
 have hbr:=E7 (P:=P) w true 0 0 (HP _) none (G (kd,0)) (l':=0) (h':=0) (by rfl)
 simp only[Jw,IJ] at hbr
 refine⟨.slice none 0 0,?_,by simp[Ag]⟩
 simp only[execOp,ho,eq.1,eq.2,Jw,IJ,Instr.sliceAt,Instr.slice,Sem.run_bind,run_underlying hu,Result.andThen_ok]
 rw[hbr]
 simp[sizeOf,typeInfo,hi]
end
def o5:List (Nat×x8)->List D->Option (List (Nat×D))
 |[],[]=>G []
 |p::ps,d::ds=>match o5 ps ds with
  |some xs=>G ((p.1,d)::xs)
  |none=>none
 |_,_=>none
def XF(ay:List (Nat×Nat)):List D->List (Nat×D)->Option (List D)
 |cells,[]=>G cells
 |cells,p::xs=>match ay[p.1]? with
  |some (off,size)=>cond (p.2.sto&&Nat.beq (I (Az p.2)) size&&Nat.ble (off+size) (I cells)) (XF ay (cells.take off++Az p.2++cells.drop (off+size)) xs) none
  |none=>none
theorem fy{g:Gh}:∀{ds:List D} {us:List yz},Af g ds us->I us=I ds
 |[],us,h=>by grind[Af]
 |d::ds,us,h=>by
  obtain⟨u,us',rfl,_,h⟩:=h
  simp[fy h]
theorem QQ{g:Gh}:∀{ds es:List D} {us vs:List yz},Af g ds us->Af g es vs->Af g (ds++es) (us++vs)
 |[],es,us,vs,h,h2=>by grind[Af]
 |d::ds,es,us,vs,h,h2=>by
  obtain⟨u,us',rfl,h1,h⟩:=h
  exact⟨u,us'++vs,rfl,h1,QQ h h2⟩
theorem UY{g:Gh}:∀{ds:List D} {us:List yz} (n:Nat),Af g ds us->Af g (ds.take n) (us.take n)
 |ds,us,0,_=>by simp[Af]
 |[],us,n+1,h=>by grind[Af]
 |d::ds,us,n+1,h=>by
  obtain⟨u,us',rfl,h1,h⟩:=h
  exact⟨u,us'.take n,rfl,h1,UY n h⟩
theorem UZ{g:Gh}:∀{ds:List D} {us:List yz} (n:Nat),Af g ds us->Af g (ds.drop n) (us.drop n)
 |ds,us,0,h=>by grind
 |[],us,n+1,h=>by grind[Af]
 |d::ds,us,n+1,h=>by
  obtain⟨u,us',rfl,h1,h⟩:=h
  exact UZ n h
theorem R0{g:Gh}{a:Act}{ay:List (Nat×Nat)}:∀{ps:List (Nat×x8)} {ds:List D} {xs:List (Nat×D)} {cells out:List D} {cu:Array yz},o5 ps ds=G xs->Af g ds (ps.map fun p=>a.eval p.2)->Af g cells cu.toList->XF ay cells xs=G out->
  ∃U,Instr.fill (ay[·]?) cu (ps.map fun p=>(p.1,a.eval p.2))=G U/\Af g out U.toList
 |[],[],xs,cells,out,cu,hx,_,hc,hf=>by
  grind[o5,XF,Instr.fill]
 |[],_::_,xs,cells,out,cu,hx,_,hc,hf=>by grind[o5]
 |_::_,[],xs,cells,out,cu,hx,_,hc,hf=>by grind[o5]
 |p::ps,d::ds,xs,cells,out,cu,hx,hds,hc,hf=>by
  simp only[o5] at hx
  split at hx
  ·rename_i ys hys
   simp at hx;subst hx
   obtain⟨u,us',e,h1,h2⟩:=hds
   obtain⟨rfl,rfl⟩:=e
   simp only[XF] at hf
   split at hf
   ·rename_i off size hp
    cases hcd:(d.sto&&Nat.beq (I (Az d)) size&&Nat.ble (off+size) (I cells)) with
    |false=>grind
    |true=>
     rw[hcd] at hf
     simp only[cond_true] at hf
     simp only[HJ] at hcd
     obtain⟨⟨c1,c2⟩,c3⟩:=hcd
     have c2:=Ii c2
     have c3:=Io c3
     obtain⟨r1,r2,r3⟩:=cells_rep c1 h1
     have hl:cu.size=I cells:=by grind[Array.length_toList,fy]
     have hs:(a.eval p.2).cells.size=size:=by grind[Array.length_toList,fy]
     have hsp:=ZT off (a.eval p.2).cells.toList cu (by grind)
     simp only[Iw,hs] at hsp
     have hc':Af g (cells.take off++Az d++cells.drop (off+size)) (((a.eval p.2).cells.toList.zipIdx 0).foldl (fun cs (x:yz×Nat)=>cs.setIfInBounds (off+x.2) x.1) cu).toList:=by
      grind[QQ,UY,UZ]
     obtain⟨U,hU,hrU⟩:=R0 hys h2 hc' hf
     grind[Instr.fill,Array.toList_zipIdx]
   grind
  grind
section
variable {P : x7} {o : yy} {σ : St}
def PG(P:x7)(t:x6):Bool:=match P.underlying t with
 |some (.struct _)=>true
 |_=>false
theorem AaY{t:x6}{parts:Array (Nat×x8)}(ho:o.op=.build t parts){z:List V}{ay:List (Nat×Nat)}(hst:PG P t=J)(hb:Y9 P t=G (z,ay)){ds:List D}{xs:List (Nat×D)}{out:List D}
  (hx:o5 parts.toList ds=G xs) (hf:XF ay (z.map .v) xs=G out):Ai P o ds σ (.dagg out) σ:=by
 intro E g a w K Q hw hds hK
 simp only[ho,Op.operands] at hds
 unfold Y9 at hb
 unfold PG at hst
 have key:∃U,P.built t (parts.toList.map fun p=>(p.1,a.eval p.2))=G U/\Af g out U.toList:=by
  cases hz:YZ P t with
  |none=>grind
  |some z0=>
   obtain⟨i,zv,hi,hz1,hcv⟩:=LU hz
   cases hu:P.underlying t with
   |none=>grind
   |some dd=>
    cases dd<;>simp only[hz,hu,reduceCtorEq] at hb hst
    case struct fs=>
     cases hp:fs.toList.mapM (fun f=>(P.info? f.type).map fun i=>(f.offset,i.size)) with
     |none=>grind
     |some pl=>
      simp[hp] at hb
      obtain⟨rfl,rfl⟩:=hb
      obtain⟨U,hU,hrU⟩:=R0 (a:=a) hx (by grind[Function.comp_def]) (DL (GI (M:=g.M) hcv)).1 hf
      grind[Program.built]
 obtain⟨U,hU,hrU⟩:=key
 have:=hK g w (.agg U) hw g.le_refl (by grind[Ag])
 have hrun:=run_build (P:=P) w t (parts.map fun p=>(p.1,a.eval p.2)) U (by simp_all)
 unfold Oper.wp execOp
 simp only[ho]
 simp only[Sem.run_bind]
 rw[show(parts.map fun(x:Nat×x8)=>match x with|(i,x)=>(i,a.eval x))=parts.map fun p=>(p.1,a.eval p.2) from rfl,hrun]
 exact this
end
end Go.Nv

namespace Go.Dv
open List (replicate)
open Go.IntKind (u64)
open Go.IntKind renaming wrap → yu, i64 → yt
open List renaming length → I, map → U, drop → W
open Option renaming some → G
open Bool renaming true → J, false → O
open Decidable renaming decide → Y
open Int renaming toNat → Z
open Go.Dv.V renaming list → ai, str → ae, agg → ab, int → aa, ref → bz, fn → bw, nils → bv, bool → bu
open Go.Dv.D renaming v → bt, acc → br, ptr → bq, arr → bo, gro → bm, tup → bk, undef → bj, dagg → bi
open Go.Dv.St renaming mk → bh
open Go.Dv.KI renaming blk → bf
open _root_.ByteArray renaming mk → bc
open Go renaming Operand → x8, Program → x7, TypeId → x6, World → x5, Value → yz, Oper → yy, FuncId → yx, Func → yw, IntKind → yv
section
variable {P : x7} {o : yy} {σ : St}
theorem AaR{t:x6}{a:x8}(ho:o.op=.load t a){n:Nat}(ht:TS P t n){q off:Nat}{cs:List D}(hH:σ.H[q]?=G (G cs))(hn:off+n<=I cs){ds:List D}(hd:(cs.drop off).take n=ds):Ai P o [.ptr q off] σ (.dagg ds) σ:=by
 subst hd
 refine A6 fun E g ρ w hw hds=>?_
 simp only[ho,Op.operands,AB] at hds
 obtain⟨u,e,h1⟩:=hds
 simp at e
 simp only[Ag] at h1
 obtain⟨_,rfl⟩:=h1
 obtain⟨us,rest,et,hb,hr,h1,_⟩:=hw.rep.obj q cs hH
 have hra:=Ce (Cq hr off) n
 have hl:I us=I cs:=A1 hr
 have hld:=run_loadCells_list (P:=P) w ⟨g.β q,off,none⟩ ((us.drop off).take n) (fun j v hj=>by
  grind[World.cell?,Addr.add])
 have hlen:I ((us.drop off).take n)=n:=by grind
 rw[hlen] at hld
 refine⟨.agg ((us.drop off).take n).toArray,?_,by grind[Ag]⟩
 simp only[execOp,ho,e,Instr.loadAt,Instr.sureAddr,loadVar,Sem.run_bind,Sem.run_pure,Result.andThen_ok,Dg ht,dw ht,hld,IT]
end
theorem MQ{α:Type}(l:List α):∀(n i:Nat),i<n*I l->(replicate n l).flatten[i]?=l[i%l.length]?
 |0,i,h=>by simp at h
 |n+1,i,h=>by
  rw[IC,List.flatten_cons]
  by_cases hi:i<I l
  ·rw[Ig hi,Nat.mod_eq_of_lt hi]
  ·rw[Ib (by omega),MQ l n (i-I l) (by rw[IV] at h;omega),Nat.mod_eq_sub_mod (a:=i) (by omega)]
theorem JB{α:Type}(l:List α):∀n:Nat,(replicate n l).flatten.length=n*I l
 |0=>by simp
 |n+1=>by simp_all
theorem Ln(z:Array yz)(n:Nat):madeCells z (n*z.size)=(replicate n z.toList).flatten.toArray:=by
 apply Array.ext_getElem?
 grind[MQ,madeCells,JB]
section
variable {P : x7} {o : yy} {σ : St} {d : D}
theorem Afn{t:x6}{x y:x8}(ho:o.op=.makeSlice t x y){e:x6}{sz by':Nat}{z:yz}(hs:BS P t=G (e,sz,by',G z)){zs:List V}(hz:FK z.cells.toList=G zs)(hzc:z.cells.size=sz){k1 k2:yv}{n:Int}(h0:0<=n)(hn:(by':Int)*n<=281474976710656)(hn2:n<=9223372036854775807):
  Ai P o [.v (.int k1 0),.v (.int k2 n)] σ (.gro (I σ.H) 0 sz) ⟨σ.H++[G ((replicate n.toNat zs).flatten.map .v)],σ.own⟩:=by
 intro E g a w K Q hw hds hK
 simp only[ho,Op.operands,Au] at hds
 obtain⟨u,v,eq,h1',h2⟩:=hds
 simp only[Ik,IF,HV,Ix] at eq
 obtain⟨e1,e2⟩:=eq
 simp only[Ag,AC] at h1' h2
 subst h1' h2
 obtain⟨i,hu,hi,hsz,hby,hzz⟩:=AF hs
 have hrun:=run_make (P:=P) w t e i z hu hi hzz k1 k2 0 n (Il _) h0 (by grind) hn2
 rw[hsz, ←hzc,Ln] at hrun
 obtain⟨hr1,ho1⟩:=DL (g:=g) (Fp (M:=g.M) hz)
 have hr:∀m,Af g ((replicate m zs).flatten.map .v) (replicate m z.cells.toList).flatten/\∀c∈ (replicate m zs).flatten.map bt,c.one=J:=by
  intro m
  induction m<;>grind[Af,Aw]
 obtain⟨g',hw',hle,hβ,hκ,hn'⟩:=hw.newObjR (us:=(replicate n.toNat z.cells.toList).flatten) (rest:=[]) e (hr n.toNat).1 (hr n.toNat).2
 rw[I8] at hw' hκ
 have:=hK g' _ (.slice (G ⟨w.heap.size,0,none⟩) 0 n.toNat) hw' hle (by
  grind[Ag,JB])
 unfold Oper.wp execOp
 simp only[ho,e1,e2,Sem.run_bind,hrun,Result.andThen_ok]
 exact this
theorem Ti{x y:x8}{t:x6}(ho:o.op=.call { callee:=.builtin .append,args:= #[x,y],argTypes:= #[t,t]}){e:x6}{sz by':Nat}{z:Option yz}(hs:BS P t=G (e,sz,by',z))(hsz:0<sz)
  {q len:Nat} {cs:List D} {ys:List V} (hq:σ.H[q]?=G (G cs)) (hroom:(len+I ys)*sz<=I cs) (hys:∀y∈ys,y.size=sz) (hpos:ys≠ []):
  Ai P o [.gro q len sz,.v (.list ys)] σ (.gro q (len+I ys) sz) ⟨σ.H.set q (G (cs.take (len*sz)++Ab ys++cs.drop (len*sz+I (Ab ys)))),σ.own⟩:=by
 intro E g a w K Q hw hds hK
 simp only[ho,Op.operands,Call.operands] at hds
 obtain⟨u,v,eq,hu,hv⟩:=Au.1 (by simpa using hds)
 simp only[HV,Ix] at eq
 simp only[Ag] at hu hv
 obtain⟨hqn,cap,hcap,hκ,rfl⟩:=hu
 obtain⟨ad,cap2,rfl,hc2,hor⟩:=Cd hv hys hsz
 rcases hor with h|⟨b,off,vs,rfl,hin,hE⟩
 ·grind
 obtain⟨h5,h6⟩:=E9 hE
 obtain⟨i,ht,hi,hisz,hib,hiz⟩:=AF hs
 obtain⟨us,rest,et,hb,hr,h1,hM,hκ1⟩:=hw.rep.obj q cs hq
 have hul:I us=I cs:=A1 hr
 have hvl0:I vs=I ys*sz:=BX hE
 have hvl:I vs=I ys*i.size:=by grind
 have hfl:I (Ab ys)=I vs:=(A1 h5).symm
 rw[IV] at hroom
 have hroom':len+I ys<=cap:=by
  have:(len+I ys)*sz<=cap*sz:=by grind
  exact Nat.le_of_mul_le_mul_right this hsz
 have hone:∀u∈vs,u.oneCell'=J:=Cp h6 h5
 have hfit:len*i.size+I vs<=(us++rest).toArray.size:=by
  grind
 have hrun:=eb (P:=P) w t o.type e et i ht hi (g.β q) len cap (us++rest).toArray hb ⟨b,off,none⟩ (I ys) cap2 vs hvl (ED hw hin) hone hroom' hfit
 have hrow:(us++rest).toArray.toList.take (len*i.size)++vs++(us++rest).toArray.toList.drop (len*i.size+I vs)=(us.take (len*sz)++vs++us.drop (len*sz+I vs))++rest:=by
  grind
 rw[hrow] at hrun
 have hw1:=hw.setObj (cs':=cs.take (len*sz)++Ab ys++cs.drop (len*sz+I (Ab ys))) (w':=w.setRow (g.β q) ((us.take (len*sz)++vs++us.drop (len*sz+I vs))++rest).toArray) hq (us:=us.take (len*sz)++vs++us.drop (len*sz+I vs)) (rest:=rest) (e:=et) (setRow_heap w _ _ _ et _ hb)
  (by grind)
  (Aw (Aw (Ce hr _) h5) (by grind[Cq]))
  (fun c hc=>by
   rcases I6.1 hc with h|h
   ·rcases I6.1 h with h|h
    ·grind
    ·exact h6 c h
   grind) (fun b hb=>setRow_other w _ _ _ hb) (by simp) rfl rfl rfl
 have:=hK g _ (.slice (G ⟨g.β q,0,none⟩) (len+I ys) cap) hw1 (Gh.le_refl g) (by grind[Ag])
 unfold Oper.wp execOp
 simp only[ho,resolve,invoke,builtin,Sem.run_bind,Sem.run_pure,Result.andThen_ok,List.map_toArray,Ik,IF,eq.1,eq.2,hrun]
 exact this
end
end Go.Dv

namespace Go.Nv
open Go.Dv
open List (replicate)
open Go.IntKind (u64)
open Go.IntKind renaming wrap → yu, i64 → yt
open List renaming length → I, map → U, drop → W
open Option renaming some → G
open Bool renaming true → J, false → O
open Decidable renaming decide → Y
open Int renaming toNat → Z
open Go.Dv.V renaming list → ai, str → ae, agg → ab, int → aa, ref → bz, fn → bw, nils → bv, bool → bu
open Go.Dv.D renaming v → bt, acc → br, ptr → bq, arr → bo, gro → bm, tup → bk, undef → bj, dagg → bi
open Go.Dv.St renaming mk → bh
open Go.Dv.KI renaming blk → bf
open _root_.ByteArray renaming mk → bc
open Go renaming Operand → x8, Program → x7, TypeId → x6, World → x5, Value → yz, Oper → yy, FuncId → yx, Func → yw, IntKind → yv
inductive Kd where
 |pure
 |load (q off n:Nat)
 |eff
noncomputable def Cb(τ:St)(q off n:Nat):Option (List D):=match τ.H[q]? with
 |some (some cs)=>cond (Nat.ble (off+n) (I cs)) (G ((cs.drop off).take n)) none
 |_=>none
theorem FM{τ:St}{q off n:Nat}{l:List D}(h:Cb τ q off n=G l):∃cs,τ.H[q]?=G (G cs)/\off+n<=I cs/\(cs.drop off).take n=l:=by
 unfold Cb at h
 split at h
 ·rename_i cs hcs
  cases hb:Nat.ble (off+n) (I cs)<;>simp_all
 grind
theorem J2{τ:St}{q off n:Nat}{cs:List D}(h:τ.H[q]?=G (G cs))(hl:off+n<=I cs):Cb τ q off n=G ((cs.drop off).take n):=by
 grind[Cb,Nat.ble_eq_true_of_le]
def rz(P:x7)(o:yy)(ds:List D)(σ:St)(d:D)(σ':St):Kd->Prop
 |.pure=>σ'=σ/\∀τ,Ai P o ds τ d τ
 |.load q off n=>σ'=σ/\(Cb σ q off n).isSome=J/\∀τ,Cb τ q off n=Cb σ q off n->Ai P o ds τ d τ
 |.eff=>Ai P o ds σ d σ'
theorem rz.op{P:x7}{o:yy}{ds:List D}{σ σ':St}{d:D}{kd:Kd}(h:rz P o ds σ d σ' kd):Ai P o ds σ d σ':=by
 cases kd with
 |pure=>obtain⟨rfl,h⟩:=h;grind
 |load q off n=>obtain⟨rfl,_,h⟩:=h;grind
 |eff=>exact h
abbrev KO:=Sc->D->St->Kd->Prop
def jm(P:x7)(o:yy)(ds:List D)(σ:St)(K:KO):Prop:=∃s d σ' kd,K s d σ' kd/\rz P o ds σ d σ' kd
def ApZ(l:List Nat)(t:Nat):Bool:=l.any (Nat.beq t)
noncomputable def EG(own:List (Nat×Nat×List V))(k:Nat):Bool:=own.all fun x=> !Nat.beq x.1 k
theorem CK{own:List (Nat×Nat×List V)}{k:Nat}(h:EG own k=J):∀x∈own,x.1≠k:=fun x hx e=>by
 have:=I5.1 h x hx
 simp_all
noncomputable def ue{β:Type}(own:List (Nat×Nat×List V))(k sz:Nat)(zs:List V)(K:List (Nat×Nat×List V)->β):β:=
 List.rec (motive:=fun _=>(List (Nat×Nat×List V)->β)->β) (fun K=>K []) (fun x _ ih K=>ih fun r=>Bool.rec (K (x::r)) (K ((k,sz,zs)::r)) (Nat.beq x.1 k)) own K
theorem Tc{β:Type}(k sz:Nat)(zs:List V):∀(own:List (Nat×Nat×List V)) (K:List (Nat×Nat×List V)->β),ue own k sz zs K=K (own.map (H7 k sz zs))
 |[],_=>rfl
 |x::own,K=>by
  have h:ue (x::own) k sz zs K=ue own k sz zs fun r=>Bool.rec (K (x::r)) (K ((k,sz,zs)::r)) (Nat.beq x.1 k):=rfl
  rw[h,Tc k sz zs own]
  simp only[Ik,H7]
  by_cases e:x.1=k
  ·simp_all
  ·rw[HZ e,show Nat.beq x.1 k=O from by cases h:Nat.beq x.1 k<;>simp_all]
noncomputable def QX(own:List (Nat×Nat×List V))(k:Nat):Option (Nat×List V):=
 List.rec none (fun x _ ih=>Bool.rec ih (G x.2) (Nat.beq x.1 k)) own
theorem NY{k:Nat}{p:Nat×List V}:∀{own:List (Nat×Nat×List V)},QX own k=G p->(k,p.1,p.2)∈own
 |[],h=>by grind[QX]
 |x::l,h=>by
  have e:QX (x::l) k=Bool.rec (QX l k) (G x.2) (Nat.beq x.1 k):=rfl
  rw[e] at h
  cases hb:Nat.beq x.1 k with
  |false=>rw[hb] at h;exact List.mem_cons_of_mem _ (NY h)
  |true=>
   rw[hb] at h
   have:=Ii hb;grind
abbrev Ao(n by':Nat):Prop:=n*by'<=140737488355328/\n<=140737488355328
section
variable {P : x7} {o : yy} {σ : St}
theorem JS{x y:x8}{t:x6}(ho:o.op=.call { callee:=.builtin .append,args:= #[x,y],argTypes:= #[t,t]}){e:x6}{sz by':Nat}{z:yz}(hs:BS P t=G (e,sz,by',G z))(hzc:z.cells.size=sz)
  (k:Nat) (hk:∀x∈σ.own,x.1≠k) (h0:0<sz) {ys:List V} (hsy:∀y∈ys,y.size=sz) (hlen:I ys*by'<=140737488355328) (hlen2:I ys<=140737488355328):
  Ai P o [.v .nils,.v (.list ys)] σ (.acc k ys) ⟨σ.H,(k,sz,ys)::σ.own⟩:=by
 intro E g a w K Q hw hds hK
 simp only[ho,Op.operands,Call.operands] at hds
 obtain⟨u,v,eq,h1,h2⟩:=Au.1 (by simpa using hds)
 simp only[HV,Ix] at eq
 simp only[Ag,CH] at h1 h2
 obtain⟨hw1,hle1⟩:=hw.addOwn (k:=k) (sz:=sz) (xs:=[]) (u:=.slice none 0 0) hk ⟨h0,by simp⟩ (DD _) (.inl ⟨none,rfl⟩) (fun b hb=>by grind[Co])
 obtain⟨u',w',g',hrun,hw',hle,hr⟩:=N8 (P:=P) (ty:=o.type) hw1 hs hzc (k:=k) (xs:=[]) (by simp) hsy (by grind) (by grind) (u:=.slice none 0 0) (by simp) (h2.mono hle1.M)
 have hown:σ.own.map (H7 k sz ys)=σ.own:=by
  conv=>rhs;rw[←List.map_id σ.own]
  grind[List.map_congr_left,H7]
 simp only[List.nil_append,Ik,hown] at hw' hr
 have e1:H7 k sz ys (k,sz,[])=(k,sz,ys):=by simp[H7]
 rw[e1] at hw'
 have:=hK g' w' u' hw' (Gh.le_trans hle1 hle) hr
 unfold Oper.wp execOp
 simp_all[resolve,invoke,builtin,Oper.upon]
theorem M9{t:x6}{parts:Array (Nat×x8)}(ho:o.op=.buildSlice t 0 parts)(hp:parts= #[]){e:x6}{sz by':Nat}{z:Option yz}(hs:BS P t=G (e,sz,by',z))(hsz:0<sz)(k:Nat)(hk:∀x∈σ.own,x.1≠k):
  Ai P o [] σ (.acc k []) ⟨σ.H,(k,sz,[])::σ.own⟩:=by
 intro E g a w K Q hw hds hK
 obtain⟨i,hu,hi,rfl,rfl,rfl⟩:=AF hs
 subst hp
 have hw1:=hw.alloc (.cells #[] e (0,0))
 obtain⟨hw2,hle2⟩:=hw1.addOwn (k:=k) (sz:=i.size) (xs:=[]) (u:=.slice (G ⟨w.heap.size,0,none⟩) 0 0) hk ⟨hsz,by simp⟩ (by grind[B4]) (.inl ⟨_,rfl⟩) (fun b hb=>by grind[Co])
 have:=hK _ _ (.slice (G ⟨w.heap.size,0,none⟩) 0 0) hw2 hle2 (by grind[Ag,B4])
 unfold Oper.wp execOp
 simpa[ho,Instr.buildSlice,run_underlying hu,sizeOf,typeInfo,hi,Instr.fill,newRow,Oper.upon,show Array.range 0= #[] from rfl] using this
end
noncomputable def AiA(P:x7)(t:x6)(q off:Nat)(σ:St)(s:Sc)(K:KO):Prop:=match DU P t with
 |some (1,false)=>(match s with
  |.h (.m d) s=>(match σ.H[q]? with
   |some (some cs)=>cs[off]?=G d/\K s d σ (.load q off 1)
   |_=>False)
  |s=>(match σ.H[q]? with
   |some (some cs)=>(match cs[off]? with
    |some d=>K s d σ (.load q off 1)
    |none=>False)
   |_=>False))
 |some (n,true)=>(match s with
  |.h (.m (.dagg ds)) s=>(match σ.H[q]? with
   |some (some cs)=>off+n<=I cs/\(cs.drop off).take n=ds/\K s (.dagg ds) σ (.load q off n)
   |_=>False)
  |.h (.m (.v (.agg xs))) s=>(match σ.H[q]? with
   |some (some cs)=>off+n<=I cs/\(cs.drop off).take n=xs.map .v/\K s (.v (.agg xs)) σ (.load q off n)
   |_=>False)
  |s=>match σ.H[q]? with
  |some (some cs)=>cond (Nat.ble (off+n) (I cs)) (match D8 ((cs.drop off).take n) with
   |some xs=>K s (.v (.agg xs)) σ (.load q off n)
   |none=>False) False
  |_=>False)
 |_=>False
theorem PR{cs:List D}{off:Nat}{d:D}(h:cs[off]?=G d):off+1<=I cs/\(cs.drop off).take 1=[d]:=by
 grind[List.drop_eq_getElem_cons]
theorem AfN{P:x7}{o:yy}{σ:St}{t:x6}{a:x8}(ho:o.op=.load t a)(ht:DU P t=G (1,false)){q off:Nat}{cs:List D}{d:D}(hq:σ.H[q]?=G (G cs))(hd:cs[off]?=G d):
  rz P o [.ptr q off] σ d σ (.load q off 1):=by
 obtain⟨h1,h2⟩:=PR hd
 have hc:=J2 hq h1
 refine⟨rfl,by grind,fun τ hτ=>?_⟩
 rw[hc,h2] at hτ
 obtain⟨cs',h3,h4,h5⟩:=FM hτ
 refine AaS ho ht h3 ?_
 have:((cs'.drop off).take 1)[0]?=G d:=by grind
 grind
theorem AdW{P:x7}{t:x6}{q off:Nat}{σ:St}{s:Sc}{K:KO}(h:AiA P t q off σ s K){o:yy}{a:x8}(ho:o.op=.load t a):jm P o [.ptr q off] σ K:=by
 unfold AiA at h
 split at h
 ·grind[AfN,jm]
 ·rename_i n ht
  split at h
  ·split at h
   ·rename_i cs hq
    obtain⟨hl,hd,h2⟩:=h
    have hc:=J2 hq hl
    refine⟨_,_,_,_,h2,rfl,by grind,fun τ hτ=>?_⟩
    rw[hc] at hτ
    obtain⟨cs',h3,h4,h5⟩:=FM hτ
    exact AaR ho ht h3 h4 (by grind)
   grind
  ·split at h
   ·rename_i cs hq
    obtain⟨hl,hd,h2⟩:=h
    have hc:=J2 hq hl
    refine⟨_,_,_,_,h2,rfl,by grind,fun τ hτ=>?_⟩
    rw[hc] at hτ
    obtain⟨cs',h3,h4,h5⟩:=FM hτ
    exact Rc ho ht h3 h4 (by grind[GV])
   grind
  split at h
  ·rename_i cs hq
   obtain⟨h1,h2⟩:=As h
   split at h2
   ·rename_i xs hx
    have hl:=Io h1
    have hc:=J2 hq hl
    refine⟨_,_,_,_,h2,rfl,by grind,fun τ hτ=>?_⟩
    rw[hc] at hτ
    obtain⟨cs',h3,h4,h5⟩:=FM hτ
    exact Rc ho ht h3 h4 (by grind[GX])
   grind
  grind
 grind
noncomputable def Zo(P:x7)(t:x6)(q off:Nat)(d:D)(σ:St)(s:Sc)(K:KO):Prop:=match DU P t with
 |some (1,false)=>(match σ.H[q]? with
  |some (some cs)=>cond d.one (match s with
   |.h .w s=>off<I cs/\CT σ.H q (G (cs.set off d)) fun H=>K s .undef ⟨H,σ.own⟩ .eff
   |s=>cond (Nat.blt off (I cs)) (CT cs off d fun cs=>CT σ.H q (G cs) fun H=>K s .undef ⟨H,σ.own⟩ .eff) False) False
  |_=>False)
 |some (n,true)=>(match σ.H[q]? with
  |some (some cs)=>(match s with
   |.h .ww s=>cond (d.sto&&Nat.beq (I (Az d)) n) (off+n<=I cs/\CT σ.H q (G (cs.take off++Az d++cs.drop (off+n))) fun H=>K s .undef ⟨H,σ.own⟩ .eff) False
   |s=>cond (d.sto&&Nat.beq (I (Az d)) n&&Nat.ble (off+n) (I cs)) (AX (cs.take off++Az d++cs.drop (off+n)) fun cs=>CT σ.H q (G cs) fun H=>K s .undef ⟨H,σ.own⟩ .eff) False)
  |_=>False)
 |_=>False
theorem Zn{P:x7}{t:x6}{q off:Nat}{d:D}{σ:St}{s:Sc}{K:KO}(h:Zo P t q off d σ s K){o:yy}{a b:x8}(ho:o.op=.store t a b):jm P o [.ptr q off,d] σ K:=by
 unfold Zo at h
 split at h
 ·rename_i ht
  split at h
  ·rename_i cs hq
   obtain⟨h1,h2⟩:=As h
   split at h2
   ·rw[B8] at h2
    exact⟨_,_,_,_,h2.2,QY ho h1 ht hq h2.1⟩
   ·obtain⟨h3,h4⟩:=As h2
    rw[B8,B8] at h4
    exact⟨_,_,_,_,h4,QY ho h1 ht hq (Io h3)⟩
  grind
 ·rename_i n ht
  split at h
  ·rename_i cs hq
   split at h
   ·obtain⟨h1,h2,h3⟩:=As h
    simp only[HJ] at h1
    rw[B8] at h3
    exact⟨_,_,_,_,h3,LD ho h1.1 ht (Ii h1.2) hq h2⟩
   obtain⟨h1,h2⟩:=As h
   simp only[HJ] at h1
   rw[AQ,B8] at h2
   exact⟨_,_,_,_,h2,LD ho h1.1.1 ht (Ii h1.1.2) hq (Io h1.2)⟩
  grind
 grind
structure Aqp(H H':List (Option (List D)))(q:Nat)(l:List D):Prop where
 eq:H'=H.set q none++[G l]
noncomputable def Ao1(P:x7)(t:x6)(x y:D)(σ:St)(s:Sc)(K:KO):Prop:=match BS P t,y with
 |some (_,sz,by',some z),.v (.list ys)=>cond (Nat.beq z.cells.size sz&&Nat.blt 0 sz) (match x with
  |.acc k xs=>(match QX σ.own k with
   |some (sz',xs')=>cond (Nat.beq sz' sz) (xs'=xs/\Ao (I xs+I ys) by'/\(match s with
    |.h .w s=>(∀y∈ys,y.size=sz)/\ue σ.own k sz (xs++ys) fun own=>K s (.acc k (xs++ys)) ⟨σ.H,own⟩ .eff
    |s=>cond (vu sz ys) (ue σ.own k sz (xs++ys) fun own=>K s (.acc k (xs++ys)) ⟨σ.H,own⟩ .eff) False)) False
   |none=>False)
  |.v .nils=>(match s with
   |.h (.a k) (.h .w s)=>cond (EG σ.own k) (Ao (I ys) by'/\(∀y∈ys,y.size=sz)/\K s (.acc k ys) ⟨σ.H,(k,sz,ys)::σ.own⟩ .eff) False
   |.h (.a k) s=>cond (EG σ.own k&&vu sz ys) (Ao (I ys) by'/\K s (.acc k ys) ⟨σ.H,(k,sz,ys)::σ.own⟩ .eff) False
   |.h (.gx _ H') s=>ys≠ []/\(∀y∈ys,y.size=sz)/\Ao (I ys) by'/\H'=σ.H++[G (Ab ys)]/\K s (.gro (I σ.H) (I ys) sz) ⟨H',σ.own⟩ .eff
   |.h .g s=>ys≠ []/\(∀y∈ys,y.size=sz)/\Ao (I ys) by'/\AL σ.H (G (Ab ys)) fun H=>K s (.gro (I σ.H) (I ys) sz) ⟨H,σ.own⟩ .eff
   |_=>False)
  |.gro q len sz'=>(match s with
   |.h (.gx cs H') s=>cond (Nat.beq sz' sz) (σ.H[q]?=G (G cs)/\cs.length=len*sz/\ys≠ []/\(∀y∈ys,y.size=sz)/\Ao (len+I ys) by'/\Aqp σ.H H' q (cs++Ab ys)/\K s (.gro (I σ.H) (len+I ys) sz) ⟨H',σ.own⟩ .eff) False
   |.h .w s=>(match σ.H[q]? with
    |some (some cs)=>cond (Nat.beq sz' sz) ((len+I ys)*sz<=I cs/\ys≠ []/\(∀y∈ys,y.size=sz)/\CT σ.H q (G (cs.take (len*sz)++Ab ys++cs.drop (len*sz+I (Ab ys)))) fun H=>K s (.gro q (len+I ys) sz) ⟨H,σ.own⟩ .eff) False
    |_=>False)
   |s=>match σ.H[q]? with
   |some (some cs)=>cond (Nat.beq sz' sz) (I cs=len*sz/\ys≠ []/\(∀y∈ys,y.size=sz)/\Ao (len+I ys) by'/\CT σ.H q none fun H=>AL H (G (cs++Ab ys)) fun H=>K s (.gro (I σ.H) (len+I ys) sz) ⟨H,σ.own⟩ .eff) False
   |_=>False)
  |_=>False) False
 |_,_=>False
theorem AiD{P:x7}{t:x6}{x y:D}{σ:St}{s:Sc}{K:KO}(h:Ao1 P t x y σ s K){o:yy}{a b:x8}(ho:o.op=.call { callee:=.builtin .append,args:= #[a,b],argTypes:= #[t,t]}):jm P o [x,y] σ K:=by
 unfold Ao1 at h
 split at h
 ·rename_i e sz by' z ys hs
  obtain⟨h1,h2⟩:=As h
  simp only[HJ] at h1
  have hz:=Ii h1.1
  have hp:=Io h1.2
  split at h2
  ·rename_i k xs
   split at h2
   ·rename_i sz' xs' hg
    obtain⟨h3,rfl,h4,h5⟩:=As h2
    have:=Ii h3;subst this
    have hm:=NY hg
    split at h5
    ·rw[Tc] at h5
     exact⟨_,_,_,_,h5.2,Re ho hs hz hm h5.1 h4.1 h4.2⟩
    ·obtain⟨h6,h7⟩:=As h5
     rw[Tc] at h7
     exact⟨_,_,_,_,h7,Re ho hs hz hm (LS h6) h4.1 h4.2⟩
   grind
  ·split at h2
   ·obtain⟨h3,h4,h5,h6⟩:=As h2
    exact⟨_,_,_,_,h6,JS ho hs hz _ (CK h3) hp h5 h4.1 h4.2⟩
   ·obtain⟨h3,h4,h5⟩:=As h2
    rw[HJ] at h3
    exact⟨_,_,_,_,h5,JS ho hs hz _ (CK h3.1) hp (LS h3.2) h4.1 h4.2⟩
   ·obtain⟨h3,h4,h5,rfl,h6⟩:=h2
    exact⟨_,_,_,_,h6,Lm ho hs hz hp h4 h3 h5.1 h5.2⟩
   ·obtain⟨h3,h4,h5,h6⟩:=h2
    rw[AK] at h6
    exact⟨_,_,_,_,h6,Lm ho hs hz hp h4 h3 h5.1 h5.2⟩
   grind
  ·rename_i q len sz'
   split at h2
   ·obtain⟨h3,hq,h4,h5,h6,h7,h9,h8⟩:=As h2
    have:=Ii h3;subst this
    have e:=h9.eq;subst e
    exact⟨_,_,_,_,h8,MA ho hs hz hp hq h4 h6 h5 h7.1 h7.2⟩
   ·split at h2
    ·rename_i cs hq
     obtain⟨h3,h4,h5,h6,h7⟩:=As h2
     have:=Ii h3;subst this
     rw[B8] at h7
     exact⟨_,_,_,_,h7,Ti ho hs hp hq h4 h6 h5⟩
    grind
   split at h2
   ·rename_i cs hq
    obtain⟨h3,h4,h5,h6,h7,h8⟩:=As h2
    have:=Ii h3;subst this
    rw[B8,AK] at h8
    exact⟨_,_,_,_,h8,MA ho hs hz hp hq h4 h6 h5 h7.1 h7.2⟩
   grind
  grind
 grind
noncomputable def Ai9(P:x7)(t:x6)(_ _:yv)(a b:Int)(σ:St)(s:Sc)(K:KO):Prop:=match BS P t with
 |some (_,sz,by',some z)=>(match s with
  |.h (.a k) s=>cond (Nat.blt 0 sz&&EG σ.own k) (a=0/\0<=b/\(by':Int)*b<=281474976710656/\b<=9223372036854775807/\K s (.acc k []) ⟨σ.H,(k,sz,[])::σ.own⟩ .eff) False
  |.h .g s=>(match FK z.cells.toList with
   |some zs=>cond (Nat.beq z.cells.size sz) (a=0/\0<=b/\(by':Int)*b<=281474976710656/\b<=9223372036854775807/\AL σ.H (G ((replicate b.toNat zs).flatten.map .v)) fun H=>K s (.gro (I σ.H) 0 sz) ⟨H,σ.own⟩ .eff) False
   |none=>False)
  |s=>(match RS z with
   |some zv=>cond (Nat.beq sz 1) (a=b/\0<=b/\(by':Int)*b<=281474976710656/\b<=9223372036854775807/\AL σ.H (G (replicate b.toNat (.v zv))) fun H=>K s (.arr (I σ.H) 0 b.toNat) ⟨H,σ.own⟩ .eff) False
   |none=>False))
 |_=>False
theorem AdV{P:x7}{t:x6}{k1 k2:yv}{a b:Int}{σ:St}{s:Sc}{K:KO}(h:Ai9 P t k1 k2 a b σ s K){o:yy}{x y:x8}(ho:o.op=.makeSlice t x y):jm P o [.v (.int k1 a),.v (.int k2 b)] σ K:=by
 unfold Ai9 at h
 split at h
 ·rename_i e sz by' z hs
  split at h
  ·obtain⟨h1,rfl,h2,h3,h4,h5⟩:=As h
   rw[HJ] at h1
   exact⟨_,_,_,_,h5,Afp ho hs (Io h1.1) _ (CK h1.2) h2 h3 h4⟩
  ·split at h
   ·rename_i zs hzs
    obtain⟨h1,rfl,h2,h3,h4,h5⟩:=As h
    rw[AK] at h5
    exact⟨_,_,_,_,h5,Afn ho hs hzs (Ii h1) h2 h3 h4⟩
   grind
  ·split at h
   ·rename_i zv hzv
    obtain⟨h1,rfl,h2,h3,h4,h5⟩:=As h
    have:=Ii h1;subst this
    rw[AK] at h5
    exact⟨_,_,_,_,h5,Afo ho hs hzv h2 h3 h4⟩
   grind
 grind
def qOf:List D->Option Nat
 |[]=>none
 |.ptr q _::_=>G q
 |.arr q _ _::_=>G q
 |_::ds=>qOf ds
noncomputable def Se(q:Nat):List D->Option (List D)
 |[]=>G []
 |.ptr q' off::ds=>cond (Nat.beq q' q) (match Se q ds with
  |some dc=>G (.ptr 0 off::dc)
  |none=>none) none
 |.arr q' off len::ds=>cond (Nat.beq q' q) (match Se q ds with
  |some dc=>G (.arr 0 off len::dc)
  |none=>none) none
 |d::ds=>cond d.pl (match Se q ds with
  |some dc=>G (d::dc)
  |none=>none) none
theorem Nr{α:Type}{b:Bool}{x:Option α}{r:α}(h:cond b x none=G r):b=J/\x=G r:=by grind
theorem K5{q:Nat}:∀{ds dc:List D},Se q ds=G dc->Eh q ds dc
 |[],dc,h=>by simp[Se] at h;subst h;exact .nil
 |d::ds,dc,h=>by
  unfold Se at h
  split at h
  ·grind
  ·rename_i q' off ds' e;obtain⟨rfl,rfl⟩:=e
   obtain⟨h1,h2⟩:=Nr h
   have:=Ii h1;subst this
   split at h2
   ·rename_i dc' hd;simp at h2;subst h2;exact .ptr (K5 hd)
   grind
  ·rename_i q' off len ds' e;obtain⟨rfl,rfl⟩:=e
   obtain⟨h1,h2⟩:=Nr h
   have:=Ii h1;subst this
   split at h2
   ·rename_i dc' hd;simp at h2;subst h2;exact .arr (K5 hd)
   grind
  ·rename_i d' ds' _ _ e;obtain⟨rfl,rfl⟩:=e
   obtain⟨h1,h2⟩:=Nr h
   split at h2
   ·rename_i dc' hd;simp at h2;subst h2;exact .pl h1 (K5 hd)
   grind
noncomputable def Z2(P:x7)(f:yx)(fs cs:List V)(ds:List D)(σ:St)(s:Sc)(K:KO):Prop:=match s with
 |.h (.ck k k' sz xs) s=>cond (EG σ.own k) (match Ph ds with
  |some ys=>Aa P f ((fs++ys++cs).map .v) ⟨[],[]⟩ (.acc k' xs) ⟨[],[(k',sz,xs)]⟩/\K s (.acc k xs) ⟨σ.H,(k,sz,xs)::σ.own⟩ .eff
  |none=>False) False
 |.h (.ckn k k' sz xs) s=>cond (EG σ.own k) (match D8 ds with
  |some ys=>Aa P f ((fs++ys++cs).map .v) ⟨[],[]⟩ (.acc k' xs) ⟨[],[(k',sz,xs)]⟩/\K s (.acc k xs) ⟨σ.H,(k,sz,xs)::σ.own⟩ .eff
  |none=>False) False
 |.h (.cj j Hc os len) s=>(match Ph ds,Hc[j]? with
  |some ys,some (some os')=>cond (D.pls os') (os=os'/\Aa P f ((fs++ys++cs).map .v) ⟨[],[]⟩ (.arr j 0 len) ⟨Hc,[]⟩/\AL σ.H (G os') fun H=>K s (.arr (I σ.H) 0 len) ⟨H,σ.own⟩ .eff) False
  |_,_=>False)
 |.h (.c1 os' d) s=>(match qOf ds with
  |some q=>(match σ.H[q]?,Se q (ds.map D.un) with
   |some (some os),some dc=>cond (D.pls os&&D.pls os'&&d.pl) (Aa P f (fs.map .v++dc++cs.map .v) ⟨[G os],[]⟩ d ⟨[G os'],[]⟩/\CT σ.H q (G os') fun H=>K s d ⟨H,σ.own⟩ .eff) False
   |_,_=>False)
  |none=>False)
 |.h (.c1k k k' sz os' xs) s=>(match qOf ds with
  |some q=>(match σ.H[q]?,Se q (ds.map D.un) with
   |some (some os),some dc=>cond (D.pls os&&D.pls os'&&EG σ.own k) (Aa P f (fs.map .v++dc++cs.map .v) ⟨[G os],[]⟩ (.acc k' xs) ⟨[G os'],[(k',sz,xs)]⟩/\CT σ.H q (G os') fun H=>K s (.acc k xs) ⟨H,(k,sz,xs)::σ.own⟩ .eff) False
   |_,_=>False)
  |none=>False)
 |s=>AdU P {(default:yy) with op:=.call { callee:=.value (.func f),args:= #[],argTypes:= #[]}} (.v (.fn f fs cs)::ds.map D.un) s fun s d=>K s d σ .pure
theorem Z1{P:x7}{f:yx}{fs cs:List V}{ds:List D}{σ:St}{s:Sc}{K:KO}(h:Z2 P f fs cs ds σ s K){o:yy}{c:Call}{fo:x8}(ho:o.op=.call c)(hc:c.callee=.value fo):jm P o (.v (.fn f fs cs)::ds) σ K:=by
 unfold Z2 at h
 split at h
 ·obtain⟨h1,h2⟩:=As h
  split at h2
  ·rename_i ys hy
   refine⟨_,_,_,_,h2.2,BR (fun g us hr=>?_) (Ll (ds:=ys.map .v) ho hc (Ca ys) _ (CK h1) (by simpa[IZ] using h2.1))⟩
   grind[Af,FP]
  grind
 ·obtain⟨h1,h2⟩:=As h
  split at h2
  ·rename_i ys hy
   refine⟨_,_,_,_,h2.2,BR (fun g us hr=>?_) (Ll (ds:=ys.map .v) ho hc (Ca ys) _ (CK h1) (by simpa[IZ] using h2.1))⟩
   grind[Af,Mb]
  grind
 ·split at h
  ·rename_i ys os' hy hj
   obtain⟨h1,_,h2,h3⟩:=As h
   rw[AK] at h3
   refine⟨_,_,_,_,h3,BR (fun g us hr=>?_) (ER (ds:=ys.map .v) ho hc (Ca ys) hj h1 (by simpa[IZ] using h2))⟩
   grind[Af,FP]
  grind
 ·split at h
  ·rename_i q hq
   split at h
   ·rename_i os dc hos hdc
    obtain⟨h1,h2,h3⟩:=As h
    simp only[HJ] at h1
    rw[B8] at h3
    refine⟨_,_,_,_,h3,BR (fun g us hr=>?_) (JQ (ds:=ds.map D.un) ho hc hos h1.1.1 h1.1.2 (K5 hdc) h1.2 h2)⟩
    grind[Af,EV]
   grind
  grind
 ·split at h
  ·rename_i q hq
   split at h
   ·rename_i os dc hos hdc
    obtain⟨h1,h2,h3⟩:=As h
    simp only[HJ] at h1
    rw[B8] at h3
    refine⟨_,_,_,_,h3,BR (fun g us hr=>?_) (Rd (ds:=ds.map D.un) ho hc hos h1.1.1 h1.1.2 (K5 hdc) _ (CK h1.2) h2)⟩
    grind[Af,EV]
   grind
  grind
 ·have h':Aea P f fs cs (ds.map D.un) _ (fun s d=>K s d σ .pure):=h
  obtain⟨s',d,h1,h2⟩:=U6 h' ho hc
  refine⟨_,_,_,_,h1,rfl,fun τ=>BR (fun g us hr=>?_) (h2 τ)⟩
  grind[Af,EV]
noncomputable def SB(P:x7)(t:x6)(len:Nat)(ps:List (Nat×x8))(ds:List D)(k:Nat)(σ:St)(s:Sc)(K:KO):Prop:=match BS P t with
 |some (_,sz,_,z)=>cond (EG σ.own k&&Nat.blt 0 sz) (match len with
  |0=>(match ps,ds with
   |[],[]=>K s (.acc k []) ⟨σ.H,(k,sz,[])::σ.own⟩ .eff
   |_,_=>False)
  |len+1=>(match D8 ds with
   |some xs=>cond (uc ps 0&&Nat.beq (I ps) (len+1)&&z.isSome&&Nat.ble ((len+1)*sz) 1000&&vu sz xs) (K s (.acc k xs) ⟨σ.H,(k,sz,xs)::σ.own⟩ .eff) False
   |none=>False)) False
 |none=>False
theorem WJ{P:x7}{t:x6}{len:Nat}{ps:Array (Nat×x8)}{ds:List D}{k:Nat}{σ:St}{s:Sc}{K:KO}(h:SB P t len ps.toList ds k σ s K){o:yy}(ho:o.op=.buildSlice t len ps):jm P o ds σ K:=by
 unfold SB at h
 split at h
 ·rename_i e sz by' z hs
  obtain⟨h1,h2⟩:=As h
  rw[HJ] at h1
  have hp:=Io h1.2
  split at h2
  ·split at h2
   ·rename_i hps
    exact⟨_,_,_,_,h2,M9 ho (by grind) hs hp _ (CK h1.1)⟩
   grind
  ·rename_i len
   split at h2
   ·rename_i xs hx
    obtain⟨h3,h4⟩:=As h2
    simp only[HJ] at h3
    obtain⟨⟨⟨⟨g1,g2⟩,g3⟩,g5⟩,g6⟩:=h3
    have hl:ps.size=len+1:=by simp_all
    exact⟨_,_,_,_,h4,J5 ho (SU g1) hl hs g3 (GX hx) (LS g6) (by omega) hp (by simp_all) _ (CK h1.1)⟩
   grind
 grind
noncomputable def vP(P:x7)(o:yy)(ds:List D)(σ:St)(s:Sc)(K:KO):Prop:=AdU P o (ds.map D.un) s fun s d=>K s d σ .pure
theorem S8{P:x7}{o:yy}{ds:List D}{σ:St}{s:Sc}{K:KO}(h:vP P o ds σ s K):jm P o ds σ K:=by
 obtain⟨s',d,h1,h2⟩:=AdT h
 exact⟨_,_,_,_,h1,rfl,fun τ=>Tl (h2 τ)⟩
noncomputable def AiE(P:x7)(t tn:x6)(n:Int)(σ:St)(s:Sc)(K:KO):Prop:=match BS P t,P.underlying tn with
 |some (_,sz,by',some z),some (.int _)=>cond (Nat.beq z.cells.size sz&&Nat.blt 0 sz) (0<n/\Ao n.toNat by'/\AL σ.H (G []) fun H=>K s (.gro (I σ.H) n.toNat sz) ⟨H,σ.own⟩ .eff) False
 |_,_=>False
theorem Aec{P:x7}{t tn:x6}{kd:yv}{n:Int}{σ:St}{s:Sc}{K:KO}(h:AiE P t tn n σ s K){o:yy}{a b:x8}(ho:o.op=.call { callee:=.builtin .append,args:= #[a,b],argTypes:= #[t,tn]}):jm P o [.v .nils,.v (.int kd n)] σ K:=by
 unfold AiE at h
 split at h
 ·rename_i e sz by' z k hs hu
  obtain⟨h1,h2,h3,h4⟩:=As h
  rw[HJ] at h1
  rw[AK] at h4
  exact⟨_,_,_,_,h4,Xp ho hs (Ii h1.1) (Io h1.2) hu h2 h3.1 h3.2⟩
 grind
noncomputable def ApW(P:x7)(t:x6)(s:Sc)(σ:St)(K:KO):Prop:=match P.underlying t with
 |some (.slice _)=>K s (.v (.int .i64 0)) σ .pure
 |_=>False
noncomputable def xf(P:x7)(t:x6)(x:D)(i:Int)(σ:St)(s:Sc)(K:KO):Prop:=match x with
 |.v .nils=>(match P.underlying t with
  |some (.slice e)=>(match P.info? e with
   |some _=>i=0/\K s (.v .nils) σ .pure
   |none=>False)
  |_=>False)
 |.gro q _ sz=>(match s,BS P t,σ.H[q]? with
  |.h (.a k) s,some (_,sz',_,_),some (some _)=>cond (Nat.beq sz' sz&&Nat.blt 0 sz&&EG σ.own k) (i=0/\CT σ.H q none fun H=>K s (.acc k []) ⟨H,(k,sz,[])::σ.own⟩ .eff) False
  |_,_,_=>False)
 |_=>False
theorem Ai5{P:x7}{t:x6}{x:D}{kd:yv}{i:Int}{σ:St}{s:Sc}{K:KO}(h:xf P t x i σ s K){o:yy}{a b:x8}(ho:o.op=.slice t a none (G b) none):jm P o [x,.v (.int kd i)] σ K:=by
 unfold xf at h
 split at h
 ·split at h
  ·rename_i e hu
   split at h
   ·rename_i inf hi
    obtain⟨rfl,h⟩:=h
    exact⟨_,_,_,_,h,rfl,fun τ=>QZ ho hu hi⟩
   grind
  grind
 ·rename_i q len sz
  split at h
  ·rename_i k s' e sz' by' z cs hs hq
   obtain⟨h1,rfl,h2⟩:=As h
   simp only[HJ] at h1
   have:=Ii h1.1.1;subst this
   rw[B8] at h2
   exact⟨_,_,_,_,h2,Xm ho hs (Io h1.1.2) hq _ (CK h1.2)⟩
  grind
 grind
section
variable {P : x7} {o : yy} {σ : St}
theorem CU{t:x6}{x:x8}{lo hi:Option x8}(ho:o.op=.slice t x lo hi none){e:x6}{sz by':Nat}{z:Option yz}(hs:BS P t=G (e,sz,by',z)){q off len:Nat}
  (l h:Option (yv×Int)) (hlo:lo.isSome=l.isSome) (hhi:hi.isSome=h.isSome) {l' h':Nat} (hb:C8 len (l.map (·.2)) (h.map (·.2))=G (l',h')) (hlt:l'<len):
  Ai P o (.arr q off len::(EO l++EO h)) σ (.arr q (off+l'*sz) (h'-l')) σ:=by
 refine A6 fun E g ρ w hw hds=>?_
 obtain⟨i,hu,hi',hsz,_,_⟩:=AF hs
 have hb2:=hb
 unfold C8 at hb2
 simp only at hb2
 split at hb2
 case isFalse=>grind
 rename_i hcond
 simp only[Ir,Prod.mk.injEq] at hb2
 have main:∀u (lv hv:Option yz),ρ x=u->lv=l.map (fun p=>Value.int p.1 p.2)->hv=h.map (fun p=>Value.int p.1 p.2)->lo.map ρ=lv->hi.map ρ=hv->Ag g (.arr q off len) u->
   ∃u,(execOp ρ o).run P w=.ok (.value u) w/\Ag g (.arr q (off+l'*sz) (h'-l')) u:=by
  intro u lv hv eu el eh e1 e2 hr
  obtain⟨hq,cap,hc,rfl⟩:=hr
  refine⟨.slice (G ⟨g.β q,off+l'*sz,none⟩) (h'-l') (cap-l'),?_,hq,cap-l',by omega,rfl⟩
  have hbr:=E7 (P:=P) w true len cap hc l h hb
  simp only[execOp,ho,eu,e1,e2,el,eh,Jw,Instr.sliceAt,Instr.slice,Sem.run_bind,run_underlying hu,Result.andThen_ok,hbr]
  simp[sizeOf,typeInfo,hi',hsz,show ¬cap=l' by omega,Addr.add_lit]
 simp only[ho,Op.operands] at hds
 cases lo with
 |none=>
  cases l with
  |some _=>grind
  |none=>
   cases hi with
   |none=>
    cases h<;>grind[AB,EO]
   |some ho'=>
    cases h<;>grind[Au,EO,Ag,AC]
 |some lo'=>
  cases l with
  |none=>grind
  |some lq=>
   cases hi with
   |none=>
    cases h<;>grind[Au,EO,Ag,AC]
   |some ho'=>
    cases h<;>grind[EW,EO,Ag,AC]
end
noncomputable def xe(P:x7)(t:x6)(q off n:Nat)(i:Int)(σ:St)(s:Sc)(K:KO):Prop:=match BS P t with
 |some (_,sz,_,_)=>0<=i/\i<(n:Int)/\K s (.arr q (off+i.toNat*sz) (n-i.toNat)) σ .pure
 |none=>False
theorem Ai4{P:x7}{t:x6}{q off n:Nat}{kd:yv}{i:Int}{σ:St}{s:Sc}{K:KO}(h:xe P t q off n i σ s K){o:yy}{a b:x8}(ho:o.op=.slice t a (G b) none none):jm P o [.arr q off n,.v (.int kd i)] σ K:=by
 unfold xe at h
 split at h
 ·rename_i e sz by' z hs
  obtain⟨h1,h2,h3⟩:=h
  refine⟨_,_,_,_,h3,rfl,fun τ=>?_⟩
  have hb:C8 n ((G (kd,i)).map (·.2)) ((none:Option (yv×Int)).map (·.2))=G (i.toNat,n):=by
   grind[C8]
  have:=CU (σ:=τ) (q:=q) (off:=off) ho hs (G (kd,i)) none rfl rfl hb (by omega)
  grind[EO]
 grind
theorem AiU{g:Gh}{q n sz:Nat}{u:yz}(h:Ag g (.gro q n sz) u):Ag g (.arr q 0 n) u:=by
 grind[Ag]
theorem Ai3{P:x7}{q n sz:Nat}{ds:List D}{o:yy}{σ:St}{K:KO}(h:jm P o (.arr q 0 n::ds) σ K):jm P o (.gro q n sz::ds) σ K:=by
 have hsub:∀g us,Af g (.gro q n sz::ds) us->Af g (.arr q 0 n::ds) us:=fun g us hr=>by
  grind[Af,AiU]
 obtain⟨s',d,σ',kd,h5,h6⟩:=h
 refine⟨s',d,σ',kd,h5,?_⟩
 cases kd with
 |pure=>exact⟨h6.1,fun τ=>BR hsub (h6.2 τ)⟩
 |load q off n=>grind[BR,rz]
 |eff=>exact BR hsub h6
noncomputable def xg(P:x7)(im:List Nat)(o:yy)(ds:List D)(σ:St)(s:Sc)(K:KO):Prop:=match s with
 |.h (.o d σ') s=>Ai P o ds σ d σ'/\K s d σ' .eff
 |.h (.p d) s=>(∀τ,Ai P o ds τ d τ)/\K s d σ .pure
 |s=>match o.op with
  |.move _=>(match ds with
   |[d]=>K s d σ .pure
   |_=>False)
  |.assign _=>(match ds with
   |[d]=>K s d σ .pure
   |_=>False)
  |.pick _ _ _=>(match ds with
   |[.v (.bool b),d1,d2]=>Bool.rec (K s d2 σ .pure) (K s d1 σ .pure) b
   |_=>False)
  |.box _ _=>(match ds,o.dst with
   |[d],some t=>Bool.rec (cond d.sto (AX (Az d) fun cs=>AL σ.H (G cs) fun H=>K s (.ptr (I σ.H) 0) ⟨H,σ.own⟩ .eff) False) (match d.toV with
    |some y=>K s (.v (.ref y)) σ .pure
    |none=>False) (ApZ im t)
   |_,_=>False)
  |.alloc e=>(match ds,OV P e with
   |[],some xs=>AX (xs.map .v) fun cs=>AL σ.H (G cs) fun H=>K s (.ptr (I σ.H) 0) ⟨H,σ.own⟩ .eff
   |_,_=>False)
  |.store t _ _=>(match ds with
   |[.ptr q off,d]=>Zo P t q off d σ s K
   |_=>False)
  |.load t _=>(match ds with
   |[.ptr q off]=>AiA P t q off σ s K
   |ds=>vP P o ds σ s K)
  |.makeSlice t _ _=>(match ds with
   |[.v (.int k1 a),.v (.int k2 b)]=>Ai9 P t k1 k2 a b σ s K
   |_=>False)
  |.build t ps=>(match s with
   |.h .g s=>cond (PG P t) (match Y9 P t,o5 ps.toList ds with
    |some (z,ay),some xs=>(match XF ay (z.map .v) xs with
     |some out=>AX out fun out=>K s (.dagg out) σ .pure
     |none=>False)
    |_,_=>False) False
   |s=>vP P o ds σ s K)
  |.buildSlice t len ps=>(match s with
   |.h (.a k) s=>SB P t len ps.toList ds k σ s K
   |.h .g s=>(match len,ps.toList,ds,BS P t with
    |0,[],[],some (_,sz,_,_)=>AL σ.H (G []) fun H=>K s (.gro (I σ.H) 0 sz) ⟨H,σ.own⟩ .eff
    |_,_,_,_=>False)
   |s=>vP P o ds σ s K)
  |.slice t _ none (some _) none=>(match ds with
   |[.v .nils,.v (.int _ i)]=>xf P t (.v .nils) i σ s K
   |[.gro q n sz,.v (.int _ i)]=>xf P t (.gro q n sz) i σ s K
   |ds=>vP P o ds σ s K)
  |.slice t _ (some _) none none=>(match ds with
   |[.gro q n _,.v (.int _ i)]=>xe P t q 0 n i σ s K
   |[.arr q off n,.v (.int _ i)]=>xe P t q off n i σ s K
   |ds=>vP P o ds σ s K)
  |.call c=>(match c.callee,ds with
   |.builtin .append,[.v .nils,.v (.int _ n)]=>(match c.args.toList,c.argTypes.toList with
    |[_,_],[t,t']=>AiE P t t' n σ s K
    |_,_=>False)
   |.builtin .append,[x,y]=>(match c.args.toList,c.argTypes.toList with
    |[_,_],[t,t']=>cond (Nat.beq t t') (Ao1 P t x y.un σ s K) False
    |_,_=>False)
   |.builtin .cap,[.v .nils]=>(match c.args.toList,c.argTypes.toList with
    |[_],[t]=>ApW P t s σ K
    |_,_=>False)
   |.value _,.v (.fn f fs cs)::ds=>Z2 P f fs cs ds σ s K
   |_,ds=>vP P o ds σ s K)
  |_=>vP P o ds σ s K
theorem Zs{P:x7}{im:List Nat}{o:yy}{ds:List D}{σ:St}{s:Sc}{K:KO}(h:xg P im o ds σ s K):jm P o ds σ K:=by
 unfold xg at h
 split at h
 ·exact⟨_,_,_,_,h.2,h.1⟩
 ·exact⟨_,_,_,_,h.2,rfl,h.1⟩
 ·split at h
  ·rename_i x ho
   split at h
   ·exact⟨_,_,_,_,h,rfl,fun τ=>P3 ho⟩
   grind
  ·rename_i x ho
   split at h
   ·exact⟨_,_,_,_,h,rfl,fun τ=>JR ho⟩
   grind
  ·rename_i x y z ho
   split at h
   ·rename_i b d1 d2
    cases b
    ·exact⟨_,_,_,_,h,rfl,fun τ=>Tg ho (b:=false)⟩
    ·exact⟨_,_,_,_,h,rfl,fun τ=>Tg ho (b:=true)⟩
   grind
  ·rename_i e x ho
   split at h
   ·rename_i d t _
    cases hm:ApZ im t with
    |false=>
     rw[hm] at h
     obtain⟨h1,h2⟩:=As h
     rw[AQ,AK] at h2
     exact⟨_,_,_,_,h2,AlX ho h1⟩
    |true=>
     rw[hm] at h
     split at h
     ·rename_i y hy;exact⟨_,_,_,_,h,rfl,fun τ=>Ajs ho hy⟩
     grind
   grind
  ·rename_i e ho
   split at h
   ·rename_i xs hz
    rw[AQ,AK] at h
    exact⟨_,_,_,_,h,MB ho hz⟩
   grind
  ·grind[Zn]
  ·grind[AdW,S8]
  ·grind[AdV]
  ·rename_i t ps ho
   split at h
   ·obtain⟨hst,h⟩:=As h
    split at h
    ·rename_i z ay xs hb hx
     split at h
     ·rename_i out hf
      rw[AQ] at h
      exact⟨_,_,_,_,h,rfl,fun τ=>AaY ho hst hb hx hf⟩
     grind
    grind
   grind[S8]
  ·rename_i t len ps ho
   split at h
   ·grind[WJ]
   ·split at h
    ·have hs:=(by assumption:BS P t=_)
     rw[AK] at h
     exact⟨_,_,_,_,h,M8 ho (by grind) hs⟩
    grind
   grind[S8]
  ·grind[Ai5,S8]
  ·grind[Ai3,Ai4,S8]
  ·rename_i c ho
   have mk2:∀{b:Builtin} {x y:x8} {t t':x6},c.callee=.builtin b->c.args.toList=[x,y]->c.argTypes.toList=[t,t']->o.op=.call { callee:=.builtin b,args:= #[x,y],argTypes:= #[t,t']}:=by
    intro b x y t t' hc h1 h2
    rw[ho];cases c;congr 2
    all_goals grind
   split at h
   ·rename_i kd n hc
    split at h
    all_goals grind[Aec]
   ·rename_i x y _ hc
    split at h
    ·rename_i a b t t' h1 h2
     obtain⟨h3,h4⟩:=As h
     have:=Ii h3;have hoo:o.op=.call { callee:=.builtin .append,args:= #[a,b],argTypes:= #[t,t]}:=by
      grind
     obtain⟨s',d,σ',kd,h5,h6⟩:=AiD h4 hoo
     have hsub:∀g us,Af g [x,y] us->Af g [x,y.un] us:=fun g us hr=>by
      grind[Pv,Af]
     refine⟨s',d,σ',kd,h5,?_⟩
     cases kd with
     |pure=>exact⟨h6.1,fun τ=>BR hsub (h6.2 τ)⟩
     |load q off n=>grind[BR,rz]
     |eff=>exact BR hsub h6
    grind
   ·rename_i hc
    split at h
    ·rename_i x t h1 h2
     unfold ApW at h
     split at h
     ·rename_i e hu
      refine⟨_,_,_,_,h,rfl,fun τ=>Xo (x:=x) (t:=t) ?_ hu⟩
      rw[ho];cases c;congr 2
      all_goals grind
     grind
    grind
   all_goals grind[Z1,S8]
  grind[S8]
def v8:Op->Bool
 |.call c=>(match c.callee with|.value _=>true|_=>false)
 |_=>false
theorem AlY{o:Op}(h:v8 o=J):∃(c:Call) (fo:x8),o=.call c/\c.callee=.value fo:=by
 cases o<;>simp only[v8] at h<;>try (simp at h;done)
 grind
noncomputable def jt(P:x7)(im:List Nat)(o:yy)(ds:List D)(σ:St)(s:Sc)(K:KO):Prop:=match s with
 |.h (.oc d σ') s'=>Bool.rec (xg P im o ds σ (.h (.oc d σ') s') K) ((∀(o:yy) (c:Call) (fo:x8),o.op=.call c->c.callee=.value fo->Ai P o ds σ d σ')/\K s' d σ' .eff) (v8 o.op)
 |s=>xg P im o ds σ s K
theorem CG{P:x7}{im:List Nat}{o:yy}{ds:List D}{σ:St}{s:Sc}{K:KO}(h:jt P im o ds σ s K):jm P o ds σ K:=by
 unfold jt at h
 split at h
 ·rename_i d σ' s'
  cases hq:v8 o.op with
  |true=>
   rw[hq] at h
   obtain⟨h1,h2⟩:=(h:(∀(o:yy) (c:Call) (fo:x8),o.op=.call c->c.callee=.value fo->Ai P o ds σ d σ')/\K s' d σ' .eff)
   obtain⟨c,fo,e1,e2⟩:=AlY hq
   exact⟨_,_,_,_,h2,h1 _ _ _ e1 e2⟩
  |false=>
   rw[hq] at h
   exact Zs h
 grind[Zs]
abbrev shG(g:Gh)(m:Nat)(ts:List Nat):Gh:={ g with n:=m,ι:=fun k j=>if ts.contains k then g.ι k j else none }
mutual
theorem Mu{g:Gh}{m:Nat}{ts:List Nat}:∀(d:D) (u:yz),d.okN m ts=J->Ag g d u->Ag (shG g m ts) d u
 |.v x,u,_,h=>by grind[Ag]
 |.acc k xs,u,hk,h=>by
  grind[D.okN,Ag]
 |.ptr o f,u,hk,h=>by
  grind[D.okN,Ag]
 |.arr o f l,u,hk,h=>by
  grind[D.okN,Ag]
 |.gro o f l,u,hk,h=>by
  grind[D.okN,Ag]
 |.raw x,u,_,h=>by grind[Ag]
 |.err,u,_,h=>by grind[Ag]
 |.rv x u0,u,_,h=>by grind[Ag]
 |.dagg cs,u,hk,h=>by
  obtain⟨us,e,h1⟩:=h
  exact⟨us,e,En cs us hk h1⟩
 |.dfn f fs cs,u,hk,h=>by
  simp only[D.okN,HJ] at hk
  obtain⟨us,vs,e,h1,h2⟩:=h
  exact⟨us,vs,e,En fs us hk.1 h1,En cs vs hk.2 h2⟩
 |.tup ds,u,hk,h=>by
  obtain⟨us,e,h1⟩:=h
  exact⟨us,e,En ds us hk h1⟩
 |.undef,u,_,_=>by grind[Ag]
theorem En{g:Gh}{m:Nat}{ts:List Nat}:∀(ds:List D) (us:List yz),D.okNs m ts ds=J->Af g ds us->Af (shG g m ts) ds us
 |[],us,_,h=>by grind[Af]
 |d::ds,us,hk,h=>by
  simp only[D.okNs,HJ] at hk
  obtain⟨u,us',e,h1,h2⟩:=h
  exact⟨u,us',e,Mu d u hk.1 h1,En ds us' hk.2 h2⟩
end
theorem WB{E:cd}{g:Gh}{σ σ':St}{w:x5}(hw:WI E g σ w){m:Nat}(hH:σ'.H=σ.H.take m)(hm:m<=I σ.H)(hE:E.g.n<=m)(hc:cm m (σ'.own.map (·.1)) σ'.H=J)(hown:σ'.own.Sublist σ.own):
  WI E (shG g m (σ'.own.map (·.1))) σ' w:=by
 have get:∀(i:Nat) (cs:List D),σ'.H[i]?=G (G cs)->σ.H[i]?=G (G cs)/\i<m:=by
  grind
 have hι:∀x∈σ'.own,(if (σ'.own.map (·.1)).contains x.1 then g.ι x.1 (I x.2.2) else none)=g.ι x.1 (I x.2.2):=fun x hx=>Ie (by grind)
 refine{ rep:=⟨?_,hw.rep.mem,fun i cs hi=>?_,fun i j cs ds hi hj=>hw.rep.inj i j cs ds (get i cs hi).1 (get j ds hj).1,fun k sz xs hx=>?_,?_,fun x hx y hy hne u u' hu hu' b hb=>?_,fun x hx u hu b hb i cs hi=>?_,fun k hk j=>?_,hw.rep.gl,hw.rep.gw⟩,M:=hw.M,size:=hw.size,keep:=hw.keep,os:=hw.os,tape:=hw.tape,output:=hw.output,nE:=hE,βE:=fun o ho=>hw.βE o ho,κE:=fun o ho=>hw.κE o ho,objs:=fun i cs hi=>hw.objs i cs (get i cs hi).1,owns:=fun x hx u hu b hb=>?_,drawn:=hw.drawn }
 ·grind
 ·obtain⟨us,rest,e,h1,h2,h3,h4⟩:=hw.rep.obj i cs (get i cs hi).1
  exact⟨us,rest,e,h1,En cs us (ME hc hi) h2,h3,h4⟩
 ·obtain⟨h0,u,hu,h1,h2,h3⟩:=hw.rep.own k sz xs (hown.subset hx)
  grind
 ·exact(hown.map _).nodup hw.rep.tags
 ·exact hw.rep.sep x (hown.subset hx) y (hown.subset hy) hne u u' ((hι x hx).symm.trans hu) ((hι y hy).symm.trans hu') b hb
 ·exact hw.rep.ownObj x (hown.subset hx) u ((hι x hx).symm.trans hu) b hb i cs (get i cs hi).1
 ·grind
 ·exact hw.owns x (hown.subset hx) u ((hι x hx).symm.trans hu) b hb
abbrev CN(m:Nat)(E0 E:cd):Prop:=E0=E/\E.g.n<=m
theorem NF(m:Nat):NA (CN m):=⟨fun h _ _ _ hw=>by grind⟩
section
variable {P : x7} {R : List D -> St -> Prop} {k : List KI} {env : List D} {σ : St}
theorem Al8{C:cd->cd->Prop}{m:Nat}(hCm:∀E0 E,C E0 E->E.g.n<=m){σ':St}{h:Nat}(hH:σ'.H=σ.H.take h)(hh:h<=I σ.H)(hm:m<=h)(he:D.okNs h (σ'.own.map (·.1)) env=J)(hc:cm h (σ'.own.map (·.1)) σ'.H=J)(hown:σ'.own.Sublist σ.own)(hr:A2 C P R k env σ'):A2 C P R k env σ:=fun E0 E _ a w B hC hf hB=>
 hr E0 E _ a w B hC ⟨WB hf.wi hH hh (IE (hCm _ _ hC) hm) hc hown,En _ _ he hf.env,hf.defers⟩ hB
end
noncomputable def FJ{β:Type}(l:List D)(i:Nat)(k:D->β):β:=
 List.rec (motive:=fun _=>Nat->(D->β)->β) (fun _ k=>k .undef) (fun a _ ih i k=>Nat.rec (motive:=fun _=>β) (k a) (fun j _=>ih j k) i) l i k
theorem D5{β:Type}:∀(l:List D) (i:Nat) (k:D->β),FJ l i k=k (l.getD i .undef)
 |[],_,_=>rfl
 |a::l,0,k=>rfl
 |a::l,i+1,k=>by
  have h:FJ (a::l) (i+1) k=FJ l i k:=rfl
  rw[h,D5 l];simp
noncomputable def wy{β:Type}(env:List D)(x:x8)(K:D->β):β:=match x with
 |.tmp t=>FJ env t K
 |x=>K (lj env x)
theorem Ant{β:Type}(env:List D)(x:x8)(K:D->β):wy env x K=K (lj env x):=by
 cases x<;>simp[wy,D5,lj]
noncomputable def VR{β:Type}(env:List D)(l:List x8)(K:List D->β):β:=
 List.rec (motive:=fun _=>(List D->β)->β) (fun K=>K []) (fun x _ ih K=>wy env x fun d=>ih fun ds=>K (d::ds)) l K
theorem Nn{β:Type}(env:List D):∀(l:List x8) (K:List D->β),VR env l K=K (l.map (lj env))
 |[],_=>rfl
 |x::l,K=>by
  have h:VR env (x::l) K=wy env x fun d=>VR env l fun ds=>K (d::ds):=rfl
  rw[h,Ant,Nn env l];rfl
theorem getD_some{env:List D}{t:Nat}{d:D}(h:env.getD t .undef=d)(hd:d≠ .undef):env[t]?=G d:=by
 grind
theorem DSL.refl:∀l:List D,DSL l l
 |[]=>.nil
 |d::l=>.cons (.same d) (DSL.refl l)
theorem DSL.set{l:List D}{t:Nat}{d e:D}(h:l[t]?=G d)(hs:DS d e):DSL l (l.set t e):=by
 induction l generalizing t with
 |nil=>grind
 |cons a l ih=>
  cases t with
  |zero=>simp at h;subst h;exact .cons hs (DSL.refl l)
  |succ t=>exact .cons (.same a) (ih (by grind))
theorem Np{env:List D}{σ:St}:Cv env σ env σ:=by grind[Cv]
theorem Oj{L:Nat->Option (List D)}:∀{ds ds':List D} {s n:Nat} {d:D} {x:V},Fz L ds ds'->ds[s]?=G d->Lw L n d x->Fz L ds (ds'.set s (.v x))
 |_,_,s,n,d,x,.nil,h,hl=>by grind
 |_,_,0,n,d,x,.keep hs,h,hl=>by simp at h;subst h;exact .view hl hs
 |_,_,0,n,d,x,.view _ hs,h,hl=>by simp at h;subst h;exact .view hl hs
 |_,_,s+1,n,d,x,.keep hs,h,hl=>by exact .keep (Oj hs (by grind) hl)
 |_,_,s+1,n,d,x,.view h' hs,h,hl=>by exact .view h' (Oj hs (by grind) hl)
theorem Fz.refl{L:Nat->Option (List D)}:∀l:List D,Fz L l l
 |[]=>.nil
 |_::l=>.keep (Fz.refl l)
theorem Q7:∀{cs:List D} {xs:List V},D8 cs=G xs->∀{j:Nat} {y:V},xs[j]?=G y->∃c,cs[j]?=G c/\c.toV=G y
 |[],xs,h,j,y,hy=>by grind[D8]
 |c::cs,xs,h,j,y,hy=>by
  cases c<;>simp only[D8] at h<;>first|(split at h<;>first|(rename_i ys h1;simp at h;subst h;cases j with|zero=>(simp at hy;subst hy;exact⟨_,rfl,rfl⟩)|succ j=>(obtain⟨c,h2,h3⟩:=Q7 h1 (j:=j) (by simpa using hy);exact⟨c,by simpa using h2,h3⟩))|simp at h)|simp at h
theorem AfP{H:List (Option (List D))}{q:Nat}{cs:List D}{xs:List V}(hq:H[q]?=G (G cs))(hx:D8 cs=G xs)(ha:xs.all (fun x=> !x.isAgg)=J):Lw (EE [q] H) 1 (.ptr q 0) (.ref (.agg xs)):=by
 refine .inr (.inl ⟨q,0,cs,.agg xs,rfl,rfl,by grind[EE],fun j y hy=>?_⟩)
 have hm:=HO (show xs[j]?=G y from hy)
 obtain⟨c,h1,h2⟩:=Q7 hx (show xs[j]?=G y from hy)
 exact⟨by grind,c,by grind,c,.same,h2⟩
theorem AfO{H:List (Option (List D))}{q:Nat}{c:D}{x:V}(hq:H[q]?=G (G [c]))(hx:c.toV=G x)(ha:x.isAgg=O):Lw (EE [q] H) 1 (.ptr q 0) (.ref x):=by
 refine .inr (.inl ⟨q,0,[c],x,rfl,rfl,by grind[EE],fun j y hy=>?_⟩)
 have hc:x.cellsV=[x]:=by cases x<;>simp_all [V.cellsV,V.isAgg]
 rw[hc] at hy
 cases j with
 |zero=>simp at hy;subst hy;exact⟨ha,c,rfl,c,.same,hx⟩
 |succ j=>grind
noncomputable def SQ(q:Nat)(x:V)(ss:List Nat)(env:List D)(K:List D->Prop):Prop:=
 List.rec (motive:=fun _=>List D->Prop) (fun env=>K env) (fun s _ ih env=>FJ env s fun d=>match d with
  |.ptr q' 0=>cond (Nat.beq q' q) (CT env s (.v (.ref x)) ih) False
  |_=>False) ss env
theorem Pq{L:Nat->Option (List D)}{q:Nat}{x:V}(hl:Lw L 1 (.ptr q 0) (.ref x)){K:List D->Prop}{env0:List D}:∀{ss:List Nat} {env:List D},Fz L env0 env->(∀t:Nat,env[t]?=env0[t]?∨env[t]?=G (bt (.ref x)))->SQ q x ss env K->∃env',K env'/\Fz L env0 env'
 |[],env,hz,_,h=>⟨env,h,hz⟩
 |s::ss,env,hz,hi,h=>by
  have e:SQ q x (s::ss) env K=FJ env s fun d=>match d with
   |.ptr q' 0=>cond (Nat.beq q' q) (CT env s (.v (.ref x)) fun env=>SQ q x ss env K) False
   |_=>False:=rfl
  rw[e,D5] at h
  split at h
  ·rename_i q' hd
   obtain⟨h1,h2⟩:=As h
   have:=Ii h1;subst this
   rw[B8] at h2
   have hs:=getD_some hd (by simp)
   have hs0:env0[s]?=G (.ptr q' 0):=by
    grind
   refine Pq hl (Oj hz hs0 hl) (fun t=>?_) h2
   grind
  grind
noncomputable def d8(r i:Nat)(s:Sc)(env:List D)(σ:St)(K:Sc->List D->St->Prop):Prop:=
 Sc.rec (motive:=fun _=>List D->St->Prop)
  (fun env σ=>K .z env σ)
  (fun _ ih env σ=>∃a,ih a env σ)
  (fun s t _ _ env σ=>K (.b s t) env σ)
  (fun h s ih env σ=>match h with
   |.q r' i'=>cond (Nat.beq r r'&&Nat.beq i i') (ih env σ) (K (.h (.q r' i') s) env σ)
   |.un t=>FJ env t fun d=>match d with
    |.acc _ xs=>CT env t (.v (.list xs)) fun env=>ih env σ
    |.rv x _=>CT env t (.v x) fun env=>ih env σ
    |_=>False
   |.ga t=>FJ env t fun d=>match d with
    |.gro q n _=>CT env t (.arr q 0 n) fun env=>ih env σ
    |_=>False
   |.fa q ss=>match σ.H[q]? with
    |some (some cs)=>(match D8 cs with
     |some xs=>cond (xs.all fun x=> !x.isAgg) (SQ q (.agg xs) ss env fun env=>CT σ.H q none fun H=>ih env ⟨H,σ.own⟩) False
     |none=>False)
    |_=>False
   |.f1 q ss=>match σ.H[q]? with
    |some (some [c])=>(match c.toV with
     |some x=>cond (!x.isAgg) (SQ q x ss env fun env=>CT σ.H q none fun H=>ih env ⟨H,σ.own⟩) False
     |none=>False)
    |_=>False
   |.fl q t xs=>match σ.H[q]? with
    |some (some cs)=>FJ env t fun d=>match d with
     |.arr q' 0 n=>cond (Nat.beq q' q) (cs=xs.map .v/\n=I xs/\CT env t (.v (.list xs)) fun env=>CT σ.H q none fun H=>ih env ⟨H,σ.own⟩) False
     |_=>False
    |_=>False
   |.cl q j k sz=>match σ.H[q]? with
    |some (some cs)=>(match cs[j]? with
     |some (.v .nils)=>cond (EG σ.own k&&Nat.blt 0 sz) (CT cs j (.acc k []) fun cs=>CT σ.H q (G cs) fun H=>ih env ⟨H,(k,sz,[])::σ.own⟩) False
     |_=>False)
    |_=>False
   |.nw t k sz=>FJ env t fun d=>match d with
    |.v .nils=>cond (EG σ.own k&&Nat.blt 0 sz) (CT env t (.acc k []) fun env=>ih env ⟨σ.H,(k,sz,[])::σ.own⟩) False
    |_=>False
   |.cs σ'=>(AX σ.H fun H=>AX σ.own fun own=>∀e:List D,Cv e ⟨H,own⟩ e σ')/\ih env σ'
   |.ct t d σ'=>FJ env t fun d0=>match d0 with
    |.undef=>False
    |d0=>(∀e:List D,e[t]?=G d0->Cv e σ (e.set t d) σ')/\CT env t d fun env=>ih env σ'
   |h=>K (.h h s) env σ) s env σ
theorem Ap7{env:List D}{σ:St}{t:Nat}{x:V}{u:yz}(ht:env[t]?=G (.rv x u)):Cv env σ (env.set t (.v x)) σ:=fun E g a w hf=>by
 obtain⟨v,hv,hr⟩:=BA hf.env ht
 refine⟨g,hf.wi,?_,hf.defers⟩
 have:=CI hf.env t (d:=.v x) (u:=v) (by grind[Ag])
 grind[DA]
theorem Ap8{env:List D}{σ:St}{t k sz:Nat}(ht:env[t]?=G (.v .nils))(hk:∀x∈σ.own,x.1≠k)(hsz:0<sz):Cv env σ (env.set t (.acc k [])) ⟨σ.H,(k,sz,[])::σ.own⟩:=fun E g a w hf=>by
 obtain⟨hw1,hle1⟩:=hf.wi.addOwn (k:=k) (sz:=sz) (xs:=[]) (u:=.slice none 0 0) hk ⟨hsz,by simp⟩ (DD _) (.inl ⟨none,rfl⟩) (fun b hb=>by grind[Co])
 obtain⟨u,hu,hr⟩:=BA hf.env ht
 simp only[Ag,CH] at hr
 refine⟨_,hw1,?_,hf.defers⟩
 have:=CI (Af.mono hle1 _ _ hf.env) t (d:=.acc k []) (u:=.slice none 0 0) (by grind[Ag,DD])
 grind[DA]
theorem Ap9{env:List D}{σ:St}{q t:Nat}{xs:List V}(hq:σ.H[q]?=G (G (xs.map .v)))(ht:env[t]?=G (.arr q 0 (I xs))):Cv env σ (env.set t (.v (.list xs))) ⟨σ.H.set q none,σ.own⟩:=fun E g a w hf=>by
 have hone:∀x∈xs,x.isAgg=O:=fun x hx=>by
  obtain⟨_,_,_,_,_,h1,_⟩:=hf.wi.rep.obj q _ hq
  have:=h1 (.v x) (I2.2 ⟨x,hx,rfl⟩)
  grind[D.one]
 have hfl:xs.flatMap V.cellsV=xs:=by
  clear hq ht hf
  induction xs with
  |nil=>rfl
  |cons x xs ih=>
   have hc:x.cellsV=[x]:=by cases x<;>simp_all [V.cellsV,V.isAgg]
   grind
 have hz:Fz (EE [q] σ.H) env (env.set t (.v (.list xs))):=by
  refine Oj (n:=1) (Fz.refl env) ht (.inr (.inr ⟨q,0,1,xs.map .v,xs,.inl rfl,rfl,by omega,fun y hy=>?_,by grind[EE],fun j y hy=>?_⟩))
  ·have:=hone y hy;cases y<;>simp_all [V.size,V.isAgg]
  ·rw[hfl] at hy
   exact⟨hone y (HO hy),.v y,by grind,.v y,.same,rfl⟩
 obtain⟨g',hf'⟩:=RM [q] hz E g a w hf
 grind[MI]
theorem QW{r i:Nat}{K:Sc->List D->St->Prop}:∀{s:Sc} {env:List D} {σ:St},d8 r i s env σ K->∃s' env' σ',K s' env' σ'/\Cv env σ env' σ'/\env'.length=I env
 |.z,env,σ,h=>⟨_,_,_,h,Np,rfl⟩
 |.e f,env,σ,h=>by
  obtain⟨a,h⟩:=(h:∃a,d8 r i (f a) env σ K)
  exact QW h
 |.b s t,env,σ,h=>⟨_,_,_,h,Np,rfl⟩
 |.h hh s,env,σ,h=>by
  have tr:∀{env1:List D} {σ1:St},Cv env σ env1 σ1->I env1=I env->d8 r i s env1 σ1 K->∃s' env' σ',K s' env' σ'/\Cv env σ env' σ'/\env'.length=I env:=by
   intro env1 σ1 hc hl hp
   obtain⟨s',env',σ',h1,h2,h3⟩:=QW hp
   exact⟨s',env',σ',h1,fun E g a w hf=>by obtain⟨g1,hf1⟩:=hc E g a w hf;exact h2 E g1 a w hf1,h3.trans hl⟩
  cases hh with
  |q r' i'=>
   have h':cond (Nat.beq r r'&&Nat.beq i i') (d8 r i s env σ K) (K (.h (.q r' i') s) env σ):=h
   cases hb:(Nat.beq r r'&&Nat.beq i i') with
   |true=>rw[hb] at h';exact tr Np rfl h'
   |false=>rw[hb] at h';exact⟨_,_,_,h',Np,rfl⟩
  |un t=>
   have h':FJ env t fun d=>match d with
    |.acc _ xs=>CT env t (.v (.list xs)) fun env=>d8 r i s env σ K
    |.rv x _=>CT env t (.v x) fun env=>d8 r i s env σ K
    |_=>False:=h
   rw[D5] at h'
   split at h'
   ·rename_i k xs hd
    rw[B8] at h'
    exact tr (Ail (DSL.set (getD_some hd (by simp)) .acc)) (by simp) h'
   ·rename_i x u hd
    rw[B8] at h'
    exact tr (Ap7 (getD_some hd (by simp))) (by simp) h'
   ·exact h'.elim
  |ga t=>
   have h':FJ env t fun d=>match d with
    |.gro q n _=>CT env t (.arr q 0 n) fun env=>d8 r i s env σ K
    |_=>False:=h
   rw[D5] at h'
   split at h'
   ·rename_i q n sz hd
    rw[B8] at h'
    exact tr (Ail (DSL.set (getD_some hd (by simp)) .gro)) (by simp) h'
   ·exact h'.elim
  |fa q ss=>
   have h':match σ.H[q]? with
    |some (some cs)=>(match D8 cs with
     |some xs=>cond (xs.all fun x=> !x.isAgg) (SQ q (.agg xs) ss env fun env=>CT σ.H q none fun H=>d8 r i s env ⟨H,σ.own⟩ K) False
     |none=>False)
    |_=>False:=h
   split at h'
   ·rename_i cs hq
    split at h'
    ·rename_i xs hx
     obtain⟨h1,h2⟩:=As h'
     obtain⟨env',h3,h4⟩:=Pq (env0:=env) (AfP hq hx h1) (Fz.refl env) (fun t=>.inl rfl) h2
     rw[B8] at h3
     have hl:I env'=I env:=by
      have:∀{a b:List D} {L},Fz L a b->I b=I a:=by
       intro a b L hz;induction hz<;>simp_all
      exact this h4
     exact tr (by have:=RM [q] h4;simpa[MI] using this) hl h3
    ·exact h'.elim
   ·exact h'.elim
  |f1 q ss=>
   have h':match σ.H[q]? with
    |some (some [c])=>(match c.toV with
     |some x=>cond (!x.isAgg) (SQ q x ss env fun env=>CT σ.H q none fun H=>d8 r i s env ⟨H,σ.own⟩ K) False
     |none=>False)
    |_=>False:=h
   split at h'
   ·rename_i c hq
    split at h'
    ·rename_i x hx
     obtain⟨h1,h2⟩:=As h'
     obtain⟨env',h3,h4⟩:=Pq (env0:=env) (AfO hq hx (by simpa using h1)) (Fz.refl env) (fun t=>.inl rfl) h2
     rw[B8] at h3
     have hl:I env'=I env:=by
      have:∀{a b:List D} {L},Fz L a b->I b=I a:=by
       intro a b L hz;induction hz<;>simp_all
      exact this h4
     exact tr (by have:=RM [q] h4;simpa[MI] using this) hl h3
    ·exact h'.elim
   ·exact h'.elim
  |fl q t xs=>
   have h':match σ.H[q]? with
    |some (some cs)=>FJ env t fun d=>match d with
     |.arr q' 0 n=>cond (Nat.beq q' q) (cs=xs.map .v/\n=I xs/\CT env t (.v (.list xs)) fun env=>CT σ.H q none fun H=>d8 r i s env ⟨H,σ.own⟩ K) False
     |_=>False
    |_=>False:=h
   split at h'
   ·rename_i cs hq
    rw[D5] at h'
    split at h'
    ·rename_i q' n hd
     obtain⟨h1,rfl,rfl,h2⟩:=As h'
     have:=Ii h1;subst this
     rw[B8,B8] at h2
     exact tr (Ap9 hq (getD_some hd (by simp))) (by simp) h2
    ·exact h'.elim
   ·exact h'.elim
  |cl q j k sz=>
   have h':match σ.H[q]? with
    |some (some cs)=>(match cs[j]? with
     |some (.v .nils)=>cond (EG σ.own k&&Nat.blt 0 sz) (CT cs j (.acc k []) fun cs=>CT σ.H q (G cs) fun H=>d8 r i s env ⟨H,(k,sz,[])::σ.own⟩ K) False
     |_=>False)
    |_=>False:=h
   split at h'
   ·rename_i cs hq
    split at h'
    ·rename_i hj
     obtain⟨h1,h2⟩:=As h'
     rw[HJ] at h1
     rw[B8,B8] at h2
     exact tr (Ag8 q j k sz hq hj (CK h1.1) (Io h1.2)) rfl h2
    ·exact h'.elim
   ·exact h'.elim
  |nw t k sz=>
   have h':FJ env t fun d=>match d with
    |.v .nils=>cond (EG σ.own k&&Nat.blt 0 sz) (CT env t (.acc k []) fun env=>d8 r i s env ⟨σ.H,(k,sz,[])::σ.own⟩ K) False
    |_=>False:=h
   rw[D5] at h'
   split at h'
   ·rename_i hd
    obtain⟨h1,h2⟩:=As h'
    rw[HJ] at h1
    rw[B8] at h2
    exact tr (Ap8 (getD_some hd (by simp)) (CK h1.1) (Io h1.2)) (by simp) h2
   ·exact h'.elim
  |cs σ'=>
   obtain⟨h1,h2⟩:=(h:(AX σ.H fun H=>AX σ.own fun own=>∀e:List D,Cv e ⟨H,own⟩ e σ')/\d8 r i s env σ' K)
   rw[AQ,AQ] at h1
   exact tr (h1 env) rfl h2
  |ct t d σ'=>
   have h':FJ env t fun d0=>match d0 with
    |.undef=>False
    |d0=>(∀e:List D,e[t]?=G d0->Cv e σ (e.set t d) σ')/\CT env t d fun env=>d8 r i s env σ' K:=h
   rw[D5] at h'
   split at h'
   ·exact h'.elim
   ·rename_i hne
    rw[B8] at h'
    exact tr (h'.1 env (getD_some rfl (fun e=>hne e))) (by simp) h'.2
  |_=>exact⟨_,_,_,h,Np,rfl⟩
noncomputable def qv(env:List D)(t:Option Nat)(b:Bool)(K:List D->Prop):Prop:=match t with
 |some t=>CT env t (.v (.bool b)) K
 |none=>K env
noncomputable def Aeb(s:Sc)(b:Bool)(t:Option Nat)(env:List D)(K:Bool->Sc->List D->Prop):Prop:=match s with
 |.b s1 s2=>(b=J->qv env t true fun env=>K true s1 env)/\(b=O->qv env t false fun env=>K false s2 env)
 |.h .t s=>b=J/\qv env t true fun env=>K true s env
 |.h .f s=>b=O/\qv env t false fun env=>K false s env
 |.h .k s=>K b s env
 |s=>K b s env
theorem AeH{env:List D}{t:Nat}{b:Bool}(h:env[t]?=G (.v (.bool b))):env.set t (.v (.bool b))=env:=DA h
theorem U7{s:Sc}{b:Bool}{t:Option Nat}{env:List D}{K:Bool->Sc->List D->Prop}(h:Aeb s b t env K)(ht:∀t',t=G t'->env[t']?=G (.v (.bool b))):∃s',K b s' env:=by
 have up:∀{b':Bool} {K':List D->Prop},b=b'->qv env t b' K'->K' env:=by
  intro b' K' e hu
  subst e
  cases t<;>grind[qv,B8,AeH]
 unfold Aeb at h
 split at h
 ·cases b<;>grind
 ·grind
 all_goals grind
noncomputable def Al6(ops:Array yy)(i j:Nat):Bool:=(ops.toList.take i).any fun o=>match o.guard with
 |some (j',_)=>Nat.beq j' j
 |none=>false
noncomputable def Hw(ops:Array yy)(i:Nat)(o:yy)(s:Sc)(env:List D)(K:Bool->Sc->List D->Prop):Prop:=match o.guard with
 |none=>K true s env
 |some (j,want)=>match (ops[j]?).bind (·.dst) with
  |some t=>FJ env t fun d=>match d with
   |.v (.bool b)=>Bool.rec (Aeb s b (G t) env fun b s env=>K (b==want) s env) (K (b==want) s env) (Al6 ops i j)
   |.tup _=>K false s env
   |_=>False
  |none=>False
theorem LZ{ops:Array yy}{i:Nat}{o:yy}{s:Sc}{env:List D}{K:Bool->Sc->List D->Prop}(h:Hw ops i o s env K):∃b s',K b s' env/\BW env ops o=G b:=by
 unfold Hw at h
 unfold BW
 split at h
 ·grind
 ·rename_i j want hg
  split at h
  ·rename_i t hj
   rw[D5] at h
   split at h
   ·rename_i b hd
    cases hs:Al6 ops i j with
    |true=>rw[hs] at h;grind
    |false=>
     rw[hs] at h
     grind[U7]
   all_goals grind
  grind
noncomputable def WG(env:List D)(sl:List (Nat×Option D))(K:List (Nat×D)->Prop):Prop:=
 List.rec (motive:=fun _=>(List (Nat×D)->Prop)->Prop) (fun K=>K []) (fun p _ ih K=>FJ env p.1 fun d0=>match p.2 with
  |none=>ih fun L=>K ((p.1,d0)::L)
  |some d=>d0=d/\ih fun L=>K ((p.1,d)::L)) sl K
theorem L6{env:List D}:∀{sl:List (Nat×Option D)} {K:List (Nat×D)->Prop},WG env sl K->∃L,K L/\∀p∈L,env.getD p.1 .undef=p.2
 |[],K,h=>⟨[],h,by simp⟩
 |(t,o)::sl,K,h=>by
  have h':FJ env t fun d0=>match (generalizing:=false) o with
   |none=>WG env sl fun L=>K ((t,d0)::L)
   |some d=>d0=d/\WG env sl fun L=>K ((t,d)::L):=h
  rw[D5] at h'
  cases o with
  |none=>
   obtain⟨L,h1,h2⟩:=L6 h'
   grind
  |some d=>
   obtain⟨L,h1,h2⟩:=L6 h'.2
   grind
theorem DN:∀(L:List (Nat×D)) (e:List D),I (L.foldl (fun e p=>e.set p.1 p.2) e)=I e
 |[],e=>rfl
 |p::L,e=>by rw[IX,DN L];simp
theorem Abp{env:List D}:∀{L:List (Nat×D)} {e:List D},(∀p∈L,env.getD p.1 .undef=p.2)->I e=I env->(∀(i:Nat) (d:D),e[i]?=G d->d=.undef∨env[i]?=G d)->∀(i:Nat) (d:D),(L.foldl (fun e p=>e.set p.1 p.2) e)[i]?=G d->d=.undef∨env[i]?=G d
 |[],e,_,_,h,i,d,hd=>h i d hd
 |p::L,e,hL,hl,h,i,d,hd=>by
  refine Abp (L:=L) (e:=e.set p.1 p.2) (fun q hq=>hL q (List.mem_cons_of_mem _ hq)) (by simp[hl]) (fun i d hd=>?_) i d hd
  grind
theorem Oa{env:List D}{nt:Nat}{L:List (Nat×D)}(hn:I env=nt)(h2:∀p∈L,env.getD p.1 .undef=p.2):I (cy nt L)=I env/\∀(i:Nat) (d:D),(cy nt L)[i]?=G d->d=.undef∨env[i]?=G d:=
 by grind[cy,DN,Abp]
noncomputable def YH(P:x7)(im:List Nat)(r:Nat)(ops:Array yy)(Z:List yy->List (Nat×D)->St->Prop)(L:List yy)(i:Nat)(s:Sc)(env:List D)(σ:St)(K:Sc->List D->St->Prop):Prop:=
 List.rec (motive:=fun _=>Nat->Sc->List D->St->Prop) (fun i s env σ=>d8 r i s env σ K)
  (fun o L ih i s env σ=>d8 r i s env σ fun s env σ=>match s with
   |.h (.s sl) _=>WG env sl fun sl=>Z (o::L) sl σ
   |s=>Hw ops i o s env fun b s env=>
    Bool.rec (DE env o.dst (.tup []) fun env=>ih (Nat.succ i) s env σ)
     (VR env o.op.operands.toList fun ds=>jt P im o ds σ s fun s d σ _=>DE env o.dst d fun env=>ih (Nat.succ i) s env σ) b) L i s env σ
def Cg(C:cd->cd->Prop)(P:x7)(R:List D->St->Prop)(k:List KI)(ops:Array yy)(L:List yy)(env:List D)(σ:St):Prop:=
 ∀(E0 E:cd) (g:Gh) (a:Act) (w:x5) (B:Exit->Act->x5->Prop),C E0 E->FI E g σ env a w->
  (∀g' env' σ' a' w',FI E0 g' σ' env' a' w'->R env' σ'->B .ret a' w'/\B .normal a' w')->wpList P ops (KQ P B k) L a w
section
variable {C : cd -> cd -> Prop} {P : x7} {R : List D -> St -> Prop} {k : List KI}
theorem Cg.cv{ops:Array yy}{L:List yy}{env env':List D}{σ σ':St}(h:Cv env σ env' σ')(hk:Cg C P R k ops L env' σ'):Cg C P R k ops L env σ:=fun E0 E g a w B hC hf hB=>by
 obtain⟨g',hf'⟩:=h E g a w hf
 exact hk E0 E g' a w B hC hf' hB
theorem Cg.forget{ops:Array yy}{L:List yy}{env env':List D}{σ:St}(h:I env'=I env/\∀(i:Nat) (d:D),env'[i]?=G d->d=.undef∨env[i]?=G d)(hk:Cg C P R k ops L env' σ):Cg C P R k ops L env σ:=fun E0 E g a w B hC hf hB=>
 hk E0 E g a w B hC ⟨hf.wi,H9 hf.env h.1 h.2,hf.defers⟩ hB
theorem Cg.op{ops:Array yy}{L:List yy}{o:yy}{env:List D}{σ σ':St}{d:D}(hg:BW env ops o=G true)(h:Ai P o (o.op.operands.toList.map (lj env)) σ d σ')(hk:Cg C P R k ops L (B5 env o.dst d) σ'):Cg C P R k ops (o::L) env σ:=fun E0 E g a w B hC hf hB=>by
 unfold wpList
 rw[Ie (CD hf.env hg)]
 refine .inl (h E g a w _ _ hf.wi (QP hf.wi.rep.gl hf.env _) fun g' w' u hw' hg' hd=>?_)
 exact hk E0 E g' _ _ B hC (hf.put hw' hg' hd o.dst) hB
theorem Cg.skip{ops:Array yy}{L:List yy}{o:yy}{env:List D}{σ:St}(hg:BW env ops o=G false)(hk:Cg C P R k ops L (B5 env o.dst (.tup [])) σ):Cg C P R k ops (o::L) env σ:=fun E0 E g a w B hC hf hB=>by
 unfold wpList
 rw[HZ (by rw[CD hf.env hg];simp)]
 exact hk E0 E g _ _ B hC (hf.put hf.wi g.le_refl (NS g) o.dst) hB
theorem Pc{im:List Nat}{r:Nat}{ops:Array yy}{Z:List yy->List (Nat×D)->St->Prop}{K:Sc->List D->St->Prop}{n:Nat}(hZ:∀L sl σ,Z L sl σ->Cg C P R k ops L (cy n sl) σ)(hK:∀s env σ,I env=n->K s env σ->A2 C P R k env σ):∀{L:List yy} {i:Nat} {s:Sc} {env:List D} {σ:St},I env=n->YH P im r ops Z L i s env σ K->Cg C P R k ops L env σ
 |[],i,s,env,σ,hl,h=>by
  obtain⟨s1,env1,σ1,h1,h2,h3⟩:=QW (show d8 r i s env σ K from h)
  exact Cg.cv h2 fun E0 E g a w B hC hf hB=>by
   unfold wpList;exact hK _ _ _ (h3.trans hl) h1 E0 E g a w B hC hf hB
 |o::L,i,s,env,σ,hl,h=>by
  have h':d8 r i s env σ fun s env σ=>match s with
   |.h (.s sl) _=>WG env sl fun sl=>Z (o::L) sl σ
   |s=>Hw ops i o s env fun b s env=>
    Bool.rec (DE env o.dst (.tup []) fun env=>YH P im r ops Z L (Nat.succ i) s env σ K)
     (VR env o.op.operands.toList fun ds=>jt P im o ds σ s fun s d σ _=>DE env o.dst d fun env=>YH P im r ops Z L (Nat.succ i) s env σ K) b:=h
  obtain⟨s1,env1,σ1,h1,h2,h3⟩:=QW h'
  refine Cg.cv h2 ?_
  have main:(Hw ops i o s1 env1 fun b s env=>
    Bool.rec (DE env o.dst (.tup []) fun env=>YH P im r ops Z L (Nat.succ i) s env σ1 K)
     (VR env o.op.operands.toList fun ds=>jt P im o ds σ1 s fun s d σ _=>DE env o.dst d fun env=>YH P im r ops Z L (Nat.succ i) s env σ K) b)->Cg C P R k ops (o::L) env1 σ1:=by
   intro h1
   obtain⟨b,s2,h4,h5⟩:=LZ h1
   cases b with
   |false=>
    have h6:DE env1 o.dst (.tup []) fun env=>YH P im r ops Z L (Nat.succ i) s2 env σ1 K:=h4
    rw[DF] at h6
    refine Cg.skip h5 (Pc hZ hK ?_ h6)
    cases o.dst<;>simp[B5,h3,hl]
   |true=>
    have h6:VR env1 o.op.operands.toList fun ds=>jt P im o ds σ1 s2 fun s d σ _=>DE env1 o.dst d fun env=>YH P im r ops Z L (Nat.succ i) s env σ K:=h4
    rw[Nn] at h6
    obtain⟨s3,d,σ3,kd,h7,h8⟩:=CG h6
    rw[DF] at h7
    refine Cg.op h5 h8.op (Pc hZ hK ?_ h7)
    cases o.dst<;>simp[B5,h3,hl]
  grind[L6,Cg.forget,Oa]
end
end Go.Nv
