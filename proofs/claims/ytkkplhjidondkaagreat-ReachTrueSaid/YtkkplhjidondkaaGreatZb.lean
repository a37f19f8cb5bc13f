/-
  A part of the proof.
-/
import Derived.Test.YtkkplhjidondkaaGreatZa
import Derived.Laws.CopyRow
import Derived.Lib.AppendZeros
namespace Go.Dv
open List (length_pos_iff length_set map_map replicate)
open Go.IntKind (u64)
open Go.IntKind renaming wrap → yu, i64 → yt
open List renaming length → I, map → U, drop → W
open Option renaming some → G
open Bool renaming true → J, false → O
open Decidable renaming decide → Y
open Int renaming toNat → Z
open Go.Dv.V renaming list → ai, str → ae, agg → ab, int → aa, ref → bz, fn → bw, nils → bv, bool → bu
open Go.Dv.D renaming v → bt, acc → br, ptr → bq, arr → bo, gro → bm, tup → bk, undef → bj, dagg → bi
open Go.Dv.St renaming mk → bh
open Go.Dv.KI renaming blk → bf
open _root_.ByteArray renaming mk → bc
open Go renaming Operand → x8, Program → x7, TypeId → x6, World → x5, Value → yz, Oper → yy, FuncId → yx, Func → yw, IntKind → yv
def Cx:List (Option (List D))->List Nat->List (Option (List D))->List (Option (List D))
 |H,q::qs,o::os=>Cx (H.set q o) qs os
 |H,[],os=>H++os
 |H,_::_,[]=>H
def d8(n:Nat)(qs:List Nat)(j:Nat):Nat:=match qs[j]? with
 |some q=>q
 |none=>n+(j-I qs)
theorem Lo:∀(qs:List Nat) (H os:List (Option (List D))),I qs<=I os->I (Cx H qs os)=I H+(I os-I qs)
 |[],H,os,_=>by simp[Cx]
 |q::qs,H,[],h=>by simp at h
 |q::qs,H,o::os,h=>by
  simp only[Cx]
  rw[Lo qs _ os (by simpa using h)]
  simp
theorem RV:∀(qs:List Nat) (H os:List (Option (List D))),I qs<=I os->∀{i:Nat} {cs:List D},(Cx H qs os)[i]?=G (G cs)->
  (∃j,d8 (I H) qs j=i/\os[j]?=G (G cs))∨(i<I H/\i∉qs/\H[i]?=G (G cs))
 |[],H,os,_,i,cs,h=>by
  grind[Cx,d8]
 |q::qs,H,[],h,_,_,_=>by grind
 |q::qs,H,o::os,h,i,cs,hg=>by
  simp only[Cx] at hg
  rcases RV qs (H.set q o) os (by grind) hg with⟨j,h1,h2⟩|⟨h1,h2,h3⟩
  ·refine .inl ⟨j+1,?_,by grind⟩
   grind[d8]
  ·simp only[length_set] at h1
   rw[List.getElem?_set] at h3
   split at h3
   ·rename_i e;subst e
    simp only[h1,IT,Ir] at h3
    exact .inl ⟨0,by rfl,by grind⟩
   grind
def ij(g:Gh)(qs:List Nat):Gh:={ M:=g.M,β:=fun j=>g.β (qs.getD j 0),n:=I qs,ι:=fun _ _=>none,κ:=fun j=>g.κ (qs.getD j 0)}
theorem VA{qs:List Nat}{j q:Nat}(h:qs[j]?=G q):qs.getD j 0=q:=by grind
theorem dm.callee{g:Gh}{σ σc:St}{w:x5}(h:dm g σ w){qs:List Nat}(hnd:qs.Nodup)(hown:σc.own=[])(hlen:I σc.H=I qs)
  (hq:∀(j q:Nat) (csc:List D),qs[j]?=G q->σc.H[j]?=G (G csc)->∃cs,σ.H[q]?=G (G cs)/\(∀us,Af g cs us->Af (ij g qs) csc us)/\∀c∈csc,c.one=J):dm (ij g qs) σc w where
 n:=hlen.symm
 mem:=h.mem
 gl:=h.gl
 gw:=h.gw
 obj:=fun j csc hj=>by
  have hlt:j<I qs:=by grind
  have hqj:qs[j]?=G qs[j]:=HI hlt
  obtain⟨cs,h1,h2,h3⟩:=hq j _ csc hqj hj
  obtain⟨us,rest,e,hb,hr,_,hM,hκ⟩:=h.obj _ cs h1
  have e1:(ij g qs).β j=g.β qs[j]:=by grind[ij]
  have e2:(ij g qs).κ j=g.κ qs[j]:=by grind[ij]
  exact⟨us,rest,e,by grind,h2 us hr,h3,by rw[e1];exact hM,by omega⟩
 inj:=fun i j c1 c2 hi hj hij=>by
  have hlti:i<I qs:=by grind
  have hltj:j<I qs:=by grind
  have hqi:qs[i]?=G qs[i]:=HI hlti
  have hqj:qs[j]?=G qs[j]:=HI hltj
  obtain⟨ci,h1,_⟩:=hq i _ c1 hqi hi
  obtain⟨cj,h2,_⟩:=hq j _ c2 hqj hj
  simp only[ij,VA hqi,VA hqj] at hij
  have:=h.inj _ _ _ _ h1 h2 hij
  grind[List.getElem_inj]
 own:=fun k sz xs hx=>by grind
 tags:=by grind
 sep:=fun x hx=>by grind
 ownObj:=fun x hx=>by grind
 fresh:=fun _ _ _=>rfl
def Du(g gc':Gh)(k:Nat)(own':List (Nat×Nat×List V))(τ:Nat->Nat):Gh:=
 { M:=gc'.M,n:=g.n+(gc'.n-k),β:=fun j=>if j<g.n then g.β j else gc'.β (k+(j-g.n)),κ:=fun j=>if j<g.n then g.κ j else gc'.κ (k+(j-g.n)),ι:=fun t m=>match own'.find? (fun x=>τ x.1==t) with|G x=>gc'.ι x.1 m|none=>g.ι t m }
def DM(τ:Nat->Nat)(own':List (Nat×Nat×List V)):List (Nat×Nat×List V):=own'.map fun x=>(τ x.1,x.2)
theorem G9{g gc':Gh}{k:Nat}{own':List (Nat×Nat×List V)}{τ:Nat->Nat}(hτ:∀x∈own',∀y∈own',τ x.1=τ y.1->x.1=y.1){y:Nat×Nat×List V}(hy:y∈own')(m:Nat):(Du g gc' k own' τ).ι (τ y.1) m=gc'.ι y.1 m:=by
 grind[Du]
theorem Cn{g gc':Gh}{k:Nat}{own':List (Nat×Nat×List V)}{τ:Nat->Nat}{t:Nat}(h:∀x∈own',τ x.1≠t)(m:Nat):(Du g gc' k own' τ).ι t m=g.ι t m:=by
 grind[Du]
theorem WI.back{E:cd}{g gc':Gh}{σ σc σc':St}{w w':x5}(hw:WI E g σ w){qs:List Nat}(hown:σc.own=[])(hlen:I σc.H=I qs)
  (hq:∀(j q:Nat),qs[j]?=G q->∃cs,σ.H[q]?=G (G cs)) (h:WI ⟨ij g qs,w,σc⟩ gc' σc' w') {τ:Nat->Nat} (hτ:∀x∈σc'.own,∀y∈σc'.own,τ x.1=τ y.1->x.1=y.1)
  (hfr:∀x∈σc'.own,∀y∈σ.own,τ x.1≠y.1) {H2:List (Option (List D))} (hlen2:I H2=I σc'.H)
  (hout:∀(j:Nat) (cs2:List D),H2[j]?=G (G cs2)->∃csc,σc'.H[j]?=G (G csc)/\(∀us,Af gc' csc us->Af (Du g gc' (I qs) σc'.own τ) cs2 us)/\∀c∈cs2,c.one=J):
  WI E (Du g gc' (I qs) σc'.own τ) ⟨Cx σ.H qs H2,DM τ σc'.own++σ.own⟩ w'/\g.le (Du g gc' (I qs) σc'.own τ):=by
 have hn':gc'.n=I σc'.H:=h.rep.n
 have hkn:I qs<=gc'.n:=h.nE
 have hgn:g.n=I σ.H:=hw.rep.n
 have hold:∀y∈σ.own,∀x∈σc'.own,τ x.1≠y.1:=fun y hy x hx=>hfr x hx y hy
 have hle:g.le (Du g gc' (I qs) σc'.own τ):=by
  refine⟨h.M,Nat.le_add_right _ _,fun o ho=>Ie ho,fun t m u ht=>?_,fun o ho=>Ie ho⟩
  by_cases hx:∃x∈σc'.own,τ x.1=t
  ·obtain⟨x,hx,rfl⟩:=hx
   rw[hw.rep.fresh (τ x.1) (fun y hy e=>hfr x hx y hy e.symm) m] at ht
   grind
  grind[Du]
 -- the callee's blocks
 have hpriv:∀b,cd.priv ⟨ij g qs,w,σc⟩ b->∃(j q:Nat),qs[j]?=G q/\b=g.β q:=by
  rintro b (⟨j,cs,hj,e⟩|⟨x,hx,_⟩)
  all_goals grind[ij]
 have hβ:∀j,j<gc'.n->(Du g gc' (I qs) σc'.own τ).β (d8 (I σ.H) qs j)=gc'.β j/\(Du g gc' (I qs) σc'.own τ).κ (d8 (I σ.H) qs j)=gc'.κ j:=by
  intro j hj
  by_cases hlt:j<I qs
  ·have hqj:qs[j]?=G qs[j]:=HI hlt
   obtain⟨cs,hcs⟩:=hq j _ hqj
   have h1:qs[j]<g.n:=hw.rep.lt_n hcs
   have h2:=h.βE j hlt
   have h3:=h.κE j hlt
   grind[ij,d8,Du]
  grind[d8,Du]
 -- what a block of the callee can be
 have hobjc:∀(j:Nat) (csc:List D),σc'.H[j]?=G (G csc)->w.heap.size<=gc'.β j∨∃(j' q:Nat),qs[j']?=G q/\gc'.β j=g.β q:=by
  intro j csc hj
  rcases h.objs j csc hj with h1|h1
  all_goals grind
 have hownc:∀x∈σc'.own,∀u,gc'.ι x.1 (I x.2.2)=G u->∀b,Co u=G b->w.heap.size<=b∨∃(j' q:Nat),qs[j']?=G q/\b=g.β q:=by
  intro x hx u hu b hb
  rcases h.owns x hx u hu b hb with h1|h1
  all_goals grind
 have hoff:∀(i:Nat) (cs:List D),σ.H[i]?=G (G cs)->i∉qs->∀(j q:Nat),qs[j]?=G q->g.β i≠g.β q:=by
  intro i cs hi hni j q hj e
  obtain⟨c2,h2⟩:=hq j q hj
  have:=hw.rep.inj i q _ _ hi h2 e
  grind
 have keepOld:∀(i:Nat) (cs:List D),σ.H[i]?=G (G cs)->i∉qs->w'.heap[g.β i]?=w.heap[g.β i]?/\∀o,gc'.M (g.β i) o=g.M (g.β i) o:=by
  intro i cs hi hni
  refine h.keep (g.β i) (hw.rep.obj_lt hi) (fun hp=>?_)
  grind
 have keepOwn:∀x∈σ.own,∀u,g.ι x.1 (I x.2.2)=G u->∀b,Co u=G b->(b<w.heap.size/\∀(j q:Nat),qs[j]?=G q->b≠g.β q)/\w'.heap[b]?=w.heap[b]?/\∀o,gc'.M b o=g.M b o:=by
  intro x hx u hu b hb
  have hlt:=hw.rep.own_lt hx hu hb
  have hne:∀(j q:Nat),qs[j]?=G q->b≠g.β q:=fun j q hj e=>by
   obtain⟨c2,h2⟩:=hq j q hj
   exact hw.rep.ownObj x hx u hu b hb q c2 h2 e.symm
  refine⟨⟨hlt,hne⟩,h.keep b hlt (fun hp=>?_)⟩
  grind
 have get:∀{i:Nat} {cs:List D},(Cx σ.H qs H2)[i]?=G (G cs)->(∃j,d8 (I σ.H) qs j=i/\H2[j]?=G (G cs)/\j<gc'.n)∨(i<I σ.H/\i∉qs/\σ.H[i]?=G (G cs)):=by
  intro i cs hi
  rcases RV qs σ.H H2 (by omega) hi with⟨j,h1,h2⟩|h1
  all_goals grind
 have memO:∀{x:Nat×Nat×List V},x∈DM τ σc'.own++σ.own->(∃y∈σc'.own,x=(τ y.1,y.2))∨x∈σ.own:=by
  grind[DM]
 refine⟨hw.update (fun b=>∃(j q:Nat),qs[j]?=G q/\b=g.β q) ?_ (fun b hb hx=>h.keep b hb (fun hp=>hx (hpriv b hp))) h.M (Nat.le_add_right _ _) (fun o ho=>Ie ho) (fun o ho=>Ie ho) h.size h.os h.tape h.output ?_ ?_ ?_ (drawn:=h.drawn),hle⟩
 ·rintro b ⟨j,q,hj,rfl⟩
  obtain⟨c2,h2⟩:=hq j q hj
  exact hw.objs q c2 h2
 ·refine⟨?_,h.rep.mem,fun i cs hi=>?_,fun i j c1 c2 hi hj hij=>?_,fun k sz xs hx=>?_,?_,fun x hx y hy hne u u' hu hu' b hb=>?_,fun x hx u hu b hb i cs hi=>?_,fun k hk m=>?_,h.rep.gl,h.rep.gw⟩
  ·grind[Du,Lo]
  ·rcases get hi with⟨j,rfl,h2,hj⟩|⟨h1,h2,h3⟩
   ·obtain⟨csc,h4,h5,h6⟩:=hout j cs h2
    obtain⟨us,rest,e,hb,hr,_,hM,hκ⟩:=h.rep.obj j csc h4
    obtain⟨e1,e2⟩:=hβ j hj
    exact⟨us,rest,e,by grind,h5 us hr,h6,by rw[e1];exact hM,by omega⟩
   ·obtain⟨us,rest,e,hb,hr,h4,hM,hκ⟩:=hw.rep.obj i cs h3
    obtain⟨k1,k2⟩:=keepOld i cs h3 h2
    have e1:(Du g gc' (I qs) σc'.own τ).β i=g.β i:=Ie (by omega)
    have e2:(Du g gc' (I qs) σc'.own τ).κ i=g.κ i:=Ie (by omega)
    exact⟨us,rest,e,by grind,Af.mono hle _ _ hr,h4,by rw[e1];exact fun o=>(k2 o).trans (hM o),by omega⟩
  ·rcases get hi with⟨ji,rfl,h2,hji⟩|⟨h1,h2,h3⟩<;>rcases get hj with⟨jj,rfl,h5,hjj⟩|⟨h4,h5,h6⟩
   ·rw[(hβ ji hji).1,(hβ jj hjj).1] at hij
    obtain⟨ci,hci,_⟩:=hout ji _ h2
    obtain⟨cj,hcj,_⟩:=hout jj _ h5
    rw[h.rep.inj ji jj _ _ hci hcj hij]
   ·rw[(hβ ji hji).1,show(Du g gc' (I qs) σc'.own τ).β j=g.β j from Ie (by omega)] at hij
    obtain⟨ci,hci,_⟩:=hout ji _ h2
    have hlt:=hw.rep.obj_lt h6
    grind
   ·rw[(hβ jj hjj).1,show(Du g gc' (I qs) σc'.own τ).β i=g.β i from Ie (by omega)] at hij
    obtain⟨cj,hcj,_⟩:=hout jj _ h5
    have hlt:=hw.rep.obj_lt h3
    grind
   ·rw[show(Du g gc' (I qs) σc'.own τ).β i=g.β i from Ie (by omega),show(Du g gc' (I qs) σc'.own τ).β j=g.β j from Ie (by omega)] at hij
    exact hw.rep.inj i j _ _ h3 h6 hij
  ·rcases memO hx with⟨y,hy,e⟩|hx
   ·simp only[Prod.mk.injEq] at e
    obtain⟨rfl,e2⟩:=e
    obtain⟨h0,u,hu,h3,h4,h5⟩:=h.rep.own y.1 sz xs (by grind)
    grind[G9,Du]
   ·obtain⟨h0,u,hu,h3,h4,h5⟩:=hw.rep.own k sz xs hx
    exact⟨h0,u,by grind[Cn],h3.mono h.M,h4.kept fun b hb=>(keepOwn _ hx u hu b hb).2,fun m hm=>by grind[Cn]⟩
  ·simp only[IZ]
   refine List.nodup_append.2 ⟨?_,hw.rep.tags,fun a ha b hb e=>?_⟩
   ·have:(DM τ σc'.own).map (·.1)=(σc'.own.map (·.1)).map τ:=by simp[DM]
    rw[this]
    refine List.pairwise_map.2 (List.Pairwise.imp_of_mem ?_ h.rep.tags)
    grind
   ·obtain⟨x,hx,rfl⟩:=I2.1 ha
    obtain⟨y,hy,rfl⟩:=I2.1 hb
    obtain⟨z,hz,rfl⟩:=I2.1 hx
    grind
  ·rcases memO hx with⟨x',hx',rfl⟩|hx<;>rcases memO hy with⟨y',hy',rfl⟩|hy
   ·rw[G9 hτ hx'] at hu;rw[G9 hτ hy'] at hu'
    exact h.rep.sep x' hx' y' hy' (fun e=>hne (by grind)) u u' hu hu' b hb
   ·rw[G9 hτ hx'] at hu;rw[Cn (hold _ hy)] at hu'
    grind
   ·grind[Cn,G9]
   ·rw[Cn (hold _ hx)] at hu;rw[Cn (hold _ hy)] at hu'
    exact hw.rep.sep x hx y hy hne u u' hu hu' b hb
  ·rcases memO hx with⟨x',hx',rfl⟩|hx<;>rcases get hi with⟨ji,rfl,h2,hji⟩|⟨h1,h2,h3⟩
   ·rw[G9 hτ hx'] at hu
    obtain⟨ci,hci,_⟩:=hout ji _ h2
    rw[(hβ ji hji).1]
    exact h.rep.ownObj x' hx' u hu b hb ji ci hci
   ·rw[G9 hτ hx'] at hu
    rw[show(Du g gc' (I qs) σc'.own τ).β i=g.β i from Ie (by omega)]
    have hlt:=hw.rep.obj_lt h3
    grind
   ·rw[Cn (hold _ hx)] at hu
    grind
   ·rw[Cn (hold _ hx)] at hu
    rw[show(Du g gc' (I qs) σc'.own τ).β i=g.β i from Ie (by omega)]
    exact hw.rep.ownObj x hx u hu b hb i cs h3
  ·rw[Cn (fun x hx e=>hk (τ x.1,x.2) (I6.2 (.inl (I2.2 ⟨x,hx,rfl⟩))) e)]
   exact hw.rep.fresh k (fun x hx=>hk x (I6.2 (.inr hx))) m
 ·intro i cs hi
  rcases get hi with⟨j,rfl,h2,hj⟩|⟨h1,h2,h3⟩
  ·obtain⟨csc,h4,_⟩:=hout j cs h2
   rw[(hβ j hj).1]
   rcases hobjc j csc h4 with h5|⟨j',q,h5,h6⟩
   ·exact .inl (IE hw.size h5)
   ·obtain⟨c2,h7⟩:=hq j' q h5
    rw[h6];exact hw.objs q c2 h7
  ·rw[show(Du g gc' (I qs) σc'.own τ).β i=g.β i from Ie (by omega)]
   exact hw.objs i cs h3
 ·intro x hx u hu b hb
  rcases memO hx with⟨x',hx',rfl⟩|hx
  ·rw[G9 hτ hx'] at hu
   rcases hownc x' hx' u hu b hb with h5|⟨j',q,h5,h6⟩
   ·exact .inl (IE hw.size h5)
   ·obtain⟨c2,h7⟩:=hq j' q h5
    rw[h6];exact hw.objs q c2 h7
  ·rw[Cn (hold _ hx)] at hu
   exact hw.owns x hx u hu b hb
mutual
def D.ren(ρ τ:Nat->Nat):D->D
 |.v x=>.v x
 |.acc t xs=>.acc (τ t) xs
 |.ptr o off=>.ptr (ρ o) off
 |.arr o off len=>.arr (ρ o) off len
 |.gro o len sz=>.gro (ρ o) len sz
 |.raw x=>.raw x
 |.rv x u=>.rv x u
 |.dagg cs=>.dagg (D.rens ρ τ cs)
 |.dfn f fs cs=>.dfn f (D.rens ρ τ fs) (D.rens ρ τ cs)
 |.tup ds=>.tup (D.rens ρ τ ds)
 |.err=>.err
 |.undef=>.undef
def D.rens(ρ τ:Nat->Nat):List D->List D
 |[]=>[]
 |d::ds=>d.ren ρ τ::D.rens ρ τ ds
end
mutual
def D.okN(n:Nat)(ts:List Nat):D->Bool
 |.acc t _=>ts.contains t
 |.ptr o _|.arr o _ _|.gro o _ _=>Y (o<n)
 |.dagg cs=>D.okNs n ts cs
 |.dfn _ fs cs=>D.okNs n ts fs&&D.okNs n ts cs
 |.tup ds=>D.okNs n ts ds
 |_=>true
def D.okNs(n:Nat)(ts:List Nat):List D->Bool
 |[]=>true
 |d::ds=>d.okN n ts&&D.okNs n ts ds
end
mutual
theorem L5{g g':Gh}{ρ τ ρ' τ':Nat->Nat}{n:Nat}{ts:List Nat}(hM:∀x u,repV g.M x u->repV g'.M x u)(ho:∀o,o<n->ρ o<g.n->ρ' o<g'.n/\g'.β (ρ' o)=g.β (ρ o)/\g'.κ (ρ' o)=g.κ (ρ o))
  (hι:∀t,ts.contains t=J->∀m u,g.ι (τ t) m=G u->g'.ι (τ' t) m=G u):∀(d:D) (u:yz),d.okN n ts=J->Ag g (d.ren ρ τ) u->Ag g' (d.ren ρ' τ') u
 |.v x,u,_,h=>by simp only[D.ren,Ag] at h⊢;exact hM _ _ h
 |.acc t xs,u,hk,h=>by simp only[D.ren,Ag] at h⊢;exact⟨hM _ _ h.1,hι t (by simpa[D.okN] using hk) _ _ h.2⟩
 |.ptr o off,u,hk,h=>by
  simp only[D.okN,HS] at hk
  simp only[D.ren,Ag] at h⊢
  obtain⟨h1,h2,_⟩:=ho o hk h.1
  exact⟨h1,by rw[h2];exact h.2⟩
 |.arr o off len,u,hk,h=>by
  simp only[D.okN,HS] at hk
  simp only[D.ren,Ag] at h⊢
  obtain⟨h1,h2,_⟩:=ho o hk h.1
  exact⟨h1,by rw[h2];exact h.2⟩
 |.gro o len sz,u,hk,h=>by
  simp only[D.okN,HS] at hk
  simp only[D.ren,Ag] at h⊢
  obtain⟨h1,h2,h3⟩:=ho o hk h.1
  exact⟨h1,by rw[h2,h3];exact h.2⟩
 |.raw x,u,_,h=>by simpa only[D.ren,Ag] using h
 |.rv x u0,u,_,h=>by simp only[D.ren,Ag] at h⊢;exact⟨h.1,hM _ _ h.2⟩
 |.dagg cs,u,hk,h=>by
  simp only[D.ren,Ag] at h⊢
  obtain⟨us,e,h1⟩:=h
  exact⟨us,e,DX hM ho hι cs us (by simpa[D.okN] using hk) h1⟩
 |.dfn f fs cs,u,hk,h=>by
  simp only[D.okN,HJ] at hk
  simp only[D.ren,Ag] at h⊢
  obtain⟨us,vs,e,h1,h2⟩:=h
  exact⟨us,vs,e,DX hM ho hι fs us hk.1 h1,DX hM ho hι cs vs hk.2 h2⟩
 |.tup ds,u,hk,h=>by
  simp only[D.ren,Ag] at h⊢
  obtain⟨us,e,h1⟩:=h
  exact⟨us,e,DX hM ho hι ds us (by simpa[D.okN] using hk) h1⟩
 |.err,u,_,h=>by simpa only[D.ren,Ag] using h
 |.undef,u,_,_=>by simp only[D.ren,Ag]
theorem DX{g g':Gh}{ρ τ ρ' τ':Nat->Nat}{n:Nat}{ts:List Nat}(hM:∀x u,repV g.M x u->repV g'.M x u)(ho:∀o,o<n->ρ o<g.n->ρ' o<g'.n/\g'.β (ρ' o)=g.β (ρ o)/\g'.κ (ρ' o)=g.κ (ρ o))
  (hι:∀t,ts.contains t=J->∀m u,g.ι (τ t) m=G u->g'.ι (τ' t) m=G u):∀(ds:List D) (us:List yz),D.okNs n ts ds=J->Af g (D.rens ρ τ ds) us->Af g' (D.rens ρ' τ' ds) us
 |[],us,_,h=>by simpa only[D.rens,Af] using h
 |d::ds,us,hk,h=>by
  simp only[D.okNs,HJ] at hk
  simp only[D.rens,Af] at h⊢
  obtain⟨u,us',e,h1,h2⟩:=h
  exact⟨u,us',e,L5 hM ho hι d u hk.1 h1,DX hM ho hι ds us' hk.2 h2⟩
end
mutual
theorem NO:∀d:D,d.ren id id=d
 |.v _|.acc .. |.ptr .. |.arr .. |.gro .. |.raw _|.rv .. |.err|.undef=>by simp[D.ren]
 |.dagg cs=>by simp[D.ren,FD cs]
 |.dfn f fs cs=>by simp[D.ren,FD fs,FD cs]
 |.tup ds=>by simp[D.ren,FD ds]
theorem FD:∀ds:List D,D.rens id id ds=ds
 |[]=>rfl
 |d::ds=>by simp[D.rens,NO d,FD ds]
end
mutual
theorem Aav:∀(ρ τ:Nat->Nat) (d:D),(d.ren ρ τ).one=d.one
 |ρ,τ,d=>by cases d<;>simp[D.ren,D.one]
end
theorem UQ{ρ τ:Nat->Nat}:∀{ds:List D},(∀c∈ds,c.one=J)->∀c∈D.rens ρ τ ds,c.one=J
 |[],_,c,hc=>by simp[D.rens] at hc
 |d::ds,h,c,hc=>by
  simp only[D.rens,Iz] at hc
  rcases hc with rfl|hc
  ·rw[Aav];exact h d (by simp)
  ·exact UQ (fun c hc=>h c (by simp[hc])) c hc
inductive pp (n:Nat) (qs:List Nat):D->D->Prop
 |ren {dc:D} (h:dc.okN (I qs) []=J):pp n qs (dc.ren (d8 n qs) id) dc
 |acc {t:Nat} {xs:List V}:pp n qs (.acc t xs) (.v (.list xs))
 |undef {d:D}:pp n qs d .undef
inductive E2 (n:Nat) (qs:List Nat):List D->List D->Prop
 |nil:E2 n qs [] []
 |cons {d dc:D} {ds dcs:List D} (h:pp n qs d dc) (hs:E2 n qs ds dcs):E2 n qs (d::ds) (dc::dcs)
inductive PZ (H:List (Option (List D))) (qs:List Nat):List Nat->List (Option (List D))->Prop
 |nil:PZ H qs [] []
 |cons {q:Nat} {js:List Nat} {cs csc:List D} {os:List (Option (List D))} (h:H[q]?=G (G cs)) (ha:E2 (I H) qs cs csc) (h1:csc.all D.one=J) (hs:PZ H qs js os):PZ H qs (q::js) (G csc::os)
theorem PZ.length{H:List (Option (List D))}{qs:List Nat}:∀{js:List Nat} {os:List (Option (List D))},PZ H qs js os->os.length=js.length
 |_,_,.nil=>rfl
 |_,_,.cons _ _ _ hs=>by simp[hs.length]
theorem PZ.get{H:List (Option (List D))}{qs:List Nat}:∀{js:List Nat} {os:List (Option (List D))},PZ H qs js os->∀{j q:Nat},js[j]?=G q->∃cs csc,H[q]?=G (G cs)/\os[j]?=G (G csc)/\E2 (I H) qs cs csc/\∀c∈csc,c.one=J
 |_,_,.nil,j,q,h=>by grind
 |_,_,.cons h ha h1 hs,j,q,hj=>by
  cases j with
  |zero=>grind
  |succ j=>simp at hj;obtain⟨cs,csc,h2,h3,h4⟩:=hs.get hj;grind
theorem Alj{n:Nat}{qs:List Nat}{j:Nat}(h:j<I qs):d8 n qs j=qs.getD j 0:=by
 grind[d8]
theorem pp.rep{g:Gh}{qs:List Nat}{d dc:D}(h:pp g.n qs d dc){u:yz}(hr:Ag g d u):Ag (ij g qs) dc u:=by
 cases h with
 |ren hk=>
  have:=L5 (g:=g) (g':=ij g qs) (ρ:=d8 g.n qs) (τ:=id) (ρ':=id) (τ':=id) (n:=I qs) (ts:=[]) (fun _ _ h=>h) (fun o ho _=>⟨ho,by grind[ij,Alj]⟩) (fun t ht=>by grind) dc u hk hr
  grind[NO]
 |acc=>simp only[Ag] at hr⊢;exact hr.1
 |undef=>grind[Ag]
theorem E2.rep{g:Gh}{qs:List Nat}:∀{ds dcs:List D},E2 g.n qs ds dcs->∀{us:List yz},Af g ds us->Af (ij g qs) dcs us
 |_,_,.nil,us,h=>by grind[Af]
 |_,_,.cons h hs,us,hr=>by
  simp only[Af] at hr⊢
  obtain⟨u,us',e,h1,h2⟩:=hr
  exact⟨u,us',e,h.rep h1,hs.rep h2⟩
def PD:D->Option (yx×List D×List D)
 |.v (.fn f fs cs)=>G (f,fs.map .v,cs.map .v)
 |.dfn f fs cs=>G (f,fs,cs)
 |_=>none
theorem Tq{g:Gh}{d:D}{f:yx}{fs cs:List D}(h:PD d=G (f,fs,cs)){u:yz}(hr:Ag g d u):∃us vs,u=.func (.func f) us.toArray vs.toArray/\Af g fs us/\Af g cs vs:=by
 unfold PD at h
 grind[Ag,H4,H6]
def cm(n:Nat)(ts:List Nat):List (Option (List D))->Bool
 |[]=>true
 |some cs::H=>D.okNs n ts cs&&cm n ts H
 |none::H=>cm n ts H
theorem M6{n:Nat}{ts:List Nat}:∀{H:List (Option (List D))},cm n ts H=J->∀{j:Nat} {cs:List D},H[j]?=G (G cs)->D.okNs n ts cs=J
 |[],_,j,cs,h=>by simp at h
 |some c::H,hk,j,cs,h=>by
  simp only[cm,HJ] at hk
  cases j with
  |zero=>simp at h;subst h;exact hk.1
  |succ j=>exact M6 hk.2 (by simpa using h)
 |none::H,hk,j,cs,h=>by
  simp only[cm] at hk
  cases j with
  |zero=>simp at h
  |succ j=>exact M6 hk (by simpa using h)
def Da(ρ τ:Nat->Nat)(H:List (Option (List D))):List (Option (List D)):=H.map (Option.map (D.rens ρ τ))
section
variable {P : x7} {o : yy} {σ : St}
theorem B3{c:Call}{fo:x8}(ho:o.op=.call c)(hc:c.callee=.value fo){fD:D}{f:yx}{fs cs:List D}(hf:PD fD=some (f,fs,cs)){ds dsc:List D}{σc σc':St}{dc:D}(qs:List Nat)(τ:Nat->Nat)
  (hspec:Aa P f dsc σc dc σc') (hargs:E2 σ.H.length qs (fs++ds++cs) dsc) (hobjs:PZ σ.H qs qs σc.H) (hnd:qs.Nodup) (hown:σc.own=[]) (hτ:∀x∈σc'.own,∀y∈σc'.own,τ x.1=τ y.1->x.1=y.1)
  (hfr:∀x∈σc'.own,∀y∈σ.own,τ x.1≠y.1) (hokd:dc.okN σc'.H.length (σc'.own.map (·.1))=true) (hokH:cm σc'.H.length (σc'.own.map (·.1)) σc'.H=true):
  Ah P o (fD::ds) σ (dc.ren (d8 σ.H.length qs) τ) ⟨Cx σ.H qs (Da (d8 σ.H.length qs) τ σc'.H),DM τ σc'.own++σ.own⟩:=by
 intro E g a w K Q hw hds hK
 have hn:g.n=σ.H.length:=hw.rep.n
 simp only[ho,Op.operands,Call.operands,hc] at hds
 have h':Af g (fD::ds) (a.eval fo::c.args.toList.map a.eval):=by grind
 simp only[Af] at h'
 obtain⟨u,us',e,h1,h2⟩:=h'
 simp only[HV] at e
 obtain⟨e1,e2⟩:=e
 obtain⟨us,vs,e3,h3,h4⟩:=Tq hf h1
 refine Gz (_E:=E) (_g:=g) ho hc hspec.1 (e1.trans e3) e2 ?_
 rw[←hn] at hargs
 have hq:∀(j q:Nat),qs[j]?=some q->∃cs csc,σ.H[q]?=some (some cs)/\σc.H[j]?=some (some csc)/\E2 g.n qs cs csc/\∀c∈csc,c.one=true:=fun j q hj=>by rw[hn];exact hobjs.get hj
 have hrep:dm (ij g qs) σc w:=hw.rep.callee hnd hown hobjs.length (fun j q csc hj hcj=>by
  obtain⟨cs,csc',h5,h6,h7,h8⟩:=hq j q hj
  rw[h6] at hcj;simp at hcj;subst hcj
  exact⟨cs,h5,fun us hr=>h7.rep hr,h8⟩)
 refine Calls.mono (hspec.2 _ w _ hrep (hargs.rep (Aw (Aw h3 h2) h4))) ?_
 rintro e w' ⟨r,gc',rfl,hw',hr⟩
 have hn':gc'.n=σc'.H.length:=hw'.rep.n
 have hkn:qs.length<=gc'.n:=hw'.nE
 have hρ:∀j,j<σc'.H.length->d8 σ.H.length qs j<(Du g gc' qs.length σc'.own τ).n/\(Du g gc' qs.length σc'.own τ).β (d8 σ.H.length qs j)=gc'.β j/\(Du g gc' qs.length σc'.own τ).κ (d8 σ.H.length qs j)=gc'.κ j:=by
  intro j hj
  by_cases hlt:j<qs.length
  ·have hqj:qs[j]?=some qs[j]:=HI hlt
   obtain⟨cs,_,hcs,_⟩:=hq j _ hqj
   have h5:qs[j]<g.n:=hw.rep.lt_n hcs
   have h6:=hw'.βE j hlt
   have h7:=hw'.κE j hlt
   grind[ij,d8,Du]
  grind[d8,Du]
 have hren:∀(dd:D) (v:yz),dd.okN σc'.H.length (σc'.own.map (·.1))=true->Ag gc' dd v->Ag (Du g gc' qs.length σc'.own τ) (dd.ren (d8 σ.H.length qs) τ) v:=by
  intro dd v hk hv
  refine L5 (g:=gc') (g':=Du g gc' qs.length σc'.own τ) (ρ:=id) (τ:=id) (ρ':=d8 σ.H.length qs) (τ':=τ) (n:=σc'.H.length) (ts:=σc'.own.map (·.1)) (fun _ _ h=>h) (fun o ho _=>hρ o ho) (fun t ht m x hx=>?_) dd v hk (by grind[NO])
  grind[Du]
 have hrens:∀(dd:List D) (v:List yz),D.okNs σc'.H.length (σc'.own.map (·.1)) dd=true->Af gc' dd v->Af (Du g gc' qs.length σc'.own τ) (D.rens (d8 σ.H.length qs) τ dd) v:=by
  intro dd v hk hv
  refine DX (g:=gc') (g':=Du g gc' qs.length σc'.own τ) (ρ:=id) (τ:=id) (ρ':=d8 σ.H.length qs) (τ':=τ) (n:=σc'.H.length) (ts:=σc'.own.map (·.1)) (fun _ _ h=>h) (fun o ho _=>hρ o ho) (fun t ht m x hx=>?_) dd v hk (by grind[FD])
  grind[Du]
 obtain⟨h8,h9⟩:=hw.back hown hobjs.length (fun j q hj=>by grind) hw' hτ hfr (H2:=Da (d8 σ.H.length qs) τ σc'.H) (by simp[Da]) (fun j cs2 hj=>by
  simp only[Da,I1] at hj
  cases hcj:σc'.H[j]? with
  |none=>grind
  |some oc=>
   cases oc with
   |none=>grind
   |some csc=>
    simp[hcj] at hj
    subst hj
    obtain⟨_,_,_,_,_,h1c,_⟩:=hw'.rep.obj j csc hcj
    grind[M6,UQ])
 grind
end
theorem WI.kill{E:cd}{g:Gh}{σ:St}{w:x5}(hw:WI E g σ w){q:Nat}{cs:List D}(hq:σ.H[q]?=G (G cs)):WI E g ⟨σ.H.set q none,σ.own⟩ w:=
 hw.setObjG (M':=g.M) (oc:=none) (dy.le_refl _) hq (fun _ h=>by simp at h) (fun _ _ _=>⟨rfl,fun _=>rfl⟩) hw.rep.mem (HP _) rfl rfl rfl
theorem Hw{H:List (Option (List D))}{q i:Nat}{cs:List D}(h:(H.set q none)[i]?=G (G cs)):i≠q/\H[i]?=G (G cs):=by
 rw[List.getElem?_set] at h
 split at h
 ·split at h<;>simp at h
 ·rename_i e;exact⟨fun e'=>e e'.symm,h⟩
theorem WI.rename{E:cd}{g:Gh}{σ:St}{w:x5}(hw:WI E g σ w){q:Nat}{cs:List D}(hq:σ.H[q]?=G (G cs)):
  ∃g',WI E g' ⟨σ.H.set q none++[G cs],σ.own⟩ w/\g.le g'/\g'.β (I σ.H)=g.β q/\g'.κ (I σ.H)=g.κ q/\g'.n=I σ.H+1:=by
 obtain⟨us,rest,e,hb,hr,h1,hM,hκ⟩:=hw.rep.obj q cs hq
 obtain⟨h2,h3⟩:=(hw.kill hq).addObj (b:=g.β q) (us:=us) (rest:=rest) (e:=e) (cs:=cs) hb (hw.objs q cs hq) hM
  (fun i ci hi e'=>by
   obtain⟨hne,hi'⟩:=Hw hi
   exact hne (hw.rep.inj i q _ _ hi' hq e'))
  (fun x hx u hu hb'=>hw.rep.ownObj x hx u hu _ hb' q cs hq rfl) hr h1
 refine⟨_,h2,h3,?_,?_,?_⟩
 ·simp[hw.rep.n]
 ·simp only[hw.rep.n,IT];exact hκ
 ·simp[hw.rep.n]
theorem WI.newObjR{E:cd}{g:Gh}{σ:St}{w:x5}(hw:WI E g σ w){us rest:List yz}{cs:List D}(e:x6)(hr:Af g cs us)(h1:∀c∈cs,c.one=J):
  ∃g',WI E g' ⟨σ.H++[G cs],σ.own⟩ (w.alloc (.cells (us++rest).toArray e))/\g.le g'/\g'.β (I σ.H)=w.heap.size/\g'.κ (I σ.H)=I (us++rest)/\g'.n=I σ.H+1:=by
 have h2:=(hw.alloc (.cells (us++rest).toArray e)).addObj (b:=w.heap.size) (us:=us) (rest:=rest) (e:=e) (cs:=cs) (heap_alloc_new w _) (.inl hw.size) (hw.rep.new_none (HP _))
  (fun i cs hi=>Nat.ne_of_lt (hw.rep.obj_lt hi)) (fun x hx u hu hb=>by have:=hw.rep.own_lt hx hu hb;omega) hr h1
 exact⟨_,h2.1,h2.2,by simp[hw.rep.n],by simp[hw.rep.n],by simp[hw.rep.n]⟩
section
variable {P : x7} {o : yy} {σ : St} {d : D}
theorem KB{x y:x8}{t:x6}(ho:o.op=.call { callee:=.builtin .append,args:= #[x,y],argTypes:= #[t,t]}){e:x6}{sz by':Nat}{z:yz}(hs:BR P t=G (e,sz,by',G z))(hzc:z.cells.size=sz)(_hsz:0<sz)
  {q q2 len n:Nat} {cs cs2:List D} (hq:σ.H[q]?=G (G cs)) (hl:I cs=len*sz) (hq2:σ.H[q2]?=G (G cs2)) (hl2:I cs2=n*sz) (_hpos:0<n) (hlen:(len+n)*by'<=140737488355328) (hlen2:len+n<=140737488355328):
  Ah P o [.gro q len sz,.gro q2 n sz] σ (.gro (I σ.H) (len+n) sz) ⟨σ.H.set q none++[G (cs++cs2)],σ.own⟩:=by
 intro E g a w K Q hw hds hK
 simp only[ho,Op.operands,Call.operands] at hds
 have hds':Af g [.gro q len sz,.gro q2 n sz] [a.eval x,a.eval y]:=by simpa using hds
 simp only[Af] at hds'
 obtain⟨u,us0,eu,hu,v,vs0,ev,hv,rfl⟩:=hds'
 simp only[HV] at eu
 obtain⟨ex,rfl⟩:=eu
 simp only[HV,Ix] at ev
 simp only[Ag] at hu hv
 obtain⟨hqn,cap,hcap,hκ,rfl⟩:=hu
 obtain⟨_,cap2,hcap2,_,rfl⟩:=hv
 obtain⟨i,ht,hi,hisz,hib,hiz⟩:=AE hs
 obtain⟨us,rest,et,hb,hr,h1,hM,hκ1⟩:=hw.rep.obj q cs hq
 obtain⟨vs,rest2,et2,hb2,hr2,h12,hM2,_⟩:=hw.rep.obj q2 cs2 hq2
 have hul:I us=len*sz:=by rw[A0 hr,hl]
 have hvl:I vs=n*i.size:=by rw[A0 hr2,hl2,hisz]
 have hnews:∀j u,vs[j]?=G u->w.cell? ((⟨g.β q2,0,none⟩:Addr).add j)=G u:=fun j u hj=>by
  rw[Addr.add_lit];simp only[World.cell?,hb2,I4,List.getElem?_toArray];exact AbA hj
 have holds:∀j u,us[j]?=G u->w.cell? ((⟨g.β q,0,none⟩:Addr).add j)=G u:=fun j u hj=>by
  rw[Addr.add_lit];simp only[World.cell?,hb,I4,List.getElem?_toArray];exact AbA hj
 have hone:∀u∈vs,u.oneCell'=J:=Cp h12 hr2
 have hcs:∀c∈cs++cs2,c.one=J:=fun c hc=>by
  rcases I6.1 hc with h|h
  ·exact h1 c h
  ·exact h12 c h
 have hlt:I us<=I (us++rest):=by simp
 obtain⟨u',w',g',hrun,hw',hle,hd⟩:∃u' w' g',(Builtin.append_ #[t,t] o.type #[.slice (G ⟨g.β q,0,none⟩) len cap,.slice (G ⟨g.β q2,0,none⟩) n cap2]).run P w=.ok u' w'/\
   WI E g' ⟨σ.H.set q none++[G (cs++cs2)],σ.own⟩ w'/\g.le g'/\Ag g' (.gro (I σ.H) (len+n) sz) u':=by
  by_cases hroom:len+n<=cap
  ·have hfit:len*i.size+I vs<=(us++rest).toArray.size:=by
    rw[IY,hκ1, ←hκ,hvl,hisz, ←IV]
    exact Nat.mul_le_mul_right _ hroom
   have hrun:=eb (P:=P) w t o.type e et i ht hi (g.β q) len cap (us++rest).toArray hb ⟨g.β q2,0,none⟩ n cap2 vs hvl hnews hone hroom hfit
   have hrow:(us++rest).toArray.toList.take (len*i.size)++vs++(us++rest).toArray.toList.drop (len*i.size+I vs)=(us++vs)++rest.drop (I vs):=by
    simp only[hisz, ←hul]
    rw[List.take_left',List.drop_append,Ic (by omega)]<;>simp
   rw[hrow] at hrun
   have hlen3:I ((us++vs)++rest.drop (I vs))=g.κ q:=by
    rw[←hκ1]
    simp only[IY,HW] at hfit
    simp only[HW,IP]
    rw[hisz, ←hul] at hfit
    omega
   have hw1:=hw.setObj (cs':=cs++cs2) (w':=w.setRow (g.β q) ((us++vs)++rest.drop (I vs)).toArray) hq (us:=us++vs) (rest:=rest.drop (I vs)) (e:=et) (setRow_heap w _ _ _ et _ hb) hlen3 (Aw hr hr2) hcs (fun b hb=>setRow_other w _ _ _ hb) (by simp) rfl rfl rfl
   have hq':(σ.H.set q (G (cs++cs2)))[q]?=G (G (cs++cs2)):=by
    rw[List.getElem?_set];simp;exact(HL.1 hq).1
   obtain⟨g',h3,h4,h5,h6,h7⟩:=hw1.rename (q:=q) hq'
   simp only[List.set_set,length_set] at h3 h5 h6 h7
   exact⟨_,_,g',hrun,h3,h4,by simp only[Ag];exact⟨by omega,cap,hroom,by rw[h6];exact hκ,by rw[h5]⟩⟩
  ·have hfitc:Builtin.nextslicecap (len+n) cap*i.bytes<=281474976710656:=growslice_fits (by omega) (by rw[hib];exact hlen)
   have hrun:=run_append_grow (P:=P) w t o.type e i z ht hi hiz ⟨g.β q,0,none⟩ len cap us (by rw[hul,hisz]) holds ⟨g.β q2,0,none⟩ n cap2 vs hvl hnews (by omega) (by omega) hfitc
   have hge:=grownCap_ge w (len+n) cap e
   have hcell:us.toArray++vs.toArray++Builtin.zeroCells z.cells (grownCap w (len+n) cap e- (len+n))=((us++vs)++(Builtin.zeroCells z.cells (grownCap w (len+n) cap e- (len+n))).toList).toArray:=by
    apply IL;simp
   rw[hcell] at hrun
   obtain⟨g',h3,h4,h5,h6,h7⟩:=(hw.drew.kill hq).newObjR (us:=us++vs) (rest:=(Builtin.zeroCells z.cells (grownCap w (len+n) cap e- (len+n))).toList) (cs:=cs++cs2) e (Aw hr hr2) hcs
   simp only[length_set] at h3 h5 h6 h7
   refine⟨_,_,g',hrun,h3,h4,?_⟩
   simp only[Ag]
   refine⟨by omega,_,hge,?_,by rw[h5];rfl⟩
   rw[h6]
   simp only[HW,Iw,size_zeroCells,hzc,hul,hvl,hisz, ←IV]
   congr 1;omega
 have:=hK g' w' u' hw' hle hd
 unfold Oper.wp execOp
 simp only[ho,resolve,invoke,builtin,Sem.run_bind,Sem.run_pure,Result.andThen_ok,List.map_toArray,Ik,IF,ex,ev,hrun]
 exact this
end
inductive Gw:List x8->List D->List D->Prop
 |nil:Gw [] [] []
 |same {x:x8} {d:D} {xs:List x8} {ds ds':List D} (h:Gw xs ds ds'):Gw (x::xs) (d::ds) (d::ds')
 |const {u:yz} {d:D} {xs:List x8} {ds ds':List D} (h:Gw xs ds ds'):Gw (.const u::xs) (d::ds) (.raw u::ds')
theorem Gw.rep{g:Gh}{a:Act}:∀{xs:List x8} {ds ds':List D},Gw xs ds ds'->Af g ds (xs.map a.eval)->Af g ds' (xs.map a.eval)
 |_,_,_,.nil,h=>by rfl
 |_,_,_,.same h',h=>by
  simp only[Ik,Af] at h⊢
  obtain⟨u,us,e,h1,h2⟩:=h
  simp only[HV] at e
  obtain⟨e1,e2⟩:=e
  exact⟨_,_,rfl,by grind,h'.rep (by grind)⟩
 |_,_,_,.const h',h=>by
  simp only[Ik,Af] at h⊢
  obtain⟨u,us,e,h1,h2⟩:=h
  simp only[HV] at e
  obtain⟨e1,e2⟩:=e
  exact⟨_,_,rfl,by rfl,h'.rep (by grind)⟩
section
variable {P : x7} {o : yy} {σ : St} {d : D}
theorem Ta{x y:x8}{t:x6}(ho:o.op=.call { callee:=.builtin .append,args:= #[x,y],argTypes:= #[t,t]}){e:x6}{sz by':Nat}{z:yz}(hs:BR P t=G (e,sz,by',G z))(hzc:z.cells.size=sz)
  {q2 n:Nat} {cs2:List D} (hq2:σ.H[q2]?=G (G cs2)) (hl2:I cs2=n*sz) (hpos:0<n) (hlen:n*by'<=140737488355328) (hlen2:n<=140737488355328):
  Ah P o [.raw (.slice none 0 0),.gro q2 n sz] σ (.gro (I σ.H) n sz) ⟨σ.H++[G cs2],σ.own⟩:=by
 intro E g a w K Q hw hds hK
 simp only[ho,Op.operands,Call.operands] at hds
 obtain⟨u,v,eq,hu,hv⟩:=Au.1 (by simpa using hds)
 simp only[HV,Ix] at eq
 simp only[Ag] at hu hv
 subst hu
 obtain⟨_,cap2,hcap2,_,rfl⟩:=hv
 obtain⟨i,ht,hi,hisz,hib,hiz⟩:=AE hs
 obtain⟨vs,rest2,et2,hb2,hr2,h12,hM2,_⟩:=hw.rep.obj q2 cs2 hq2
 have hvl:I vs=n*i.size:=by grind[A0]
 have hnews:∀j u,vs[j]?=G u->w.cell? ((⟨g.β q2,0,none⟩:Addr).add j)=G u:=fun j u hj=>by
  grind[World.cell?,Addr.add]
 have hrun:=run_append_nil (P:=P) w t o.type e i z ht hi hiz ⟨g.β q2,0,none⟩ n cap2 vs hvl hnews hpos (by omega) (by grind)
 have hge:=grownCap_ge w n 0 e
 have hcell:vs.toArray++Builtin.zeroCells z.cells (grownCap w n 0 e-n)=(vs++(Builtin.zeroCells z.cells (grownCap w n 0 e-n)).toList).toArray:=by
  grind
 rw[hcell] at hrun
 obtain⟨g',h3,h4,h5,h6,h7⟩:=hw.drew.newObjR (us:=vs) (rest:=(Builtin.zeroCells z.cells (grownCap w n 0 e-n)).toList) (cs:=cs2) e hr2 h12
 have hd:Ag g' (.gro (I σ.H) n sz) (.slice (G ⟨w.heap.size,0,none⟩) n (grownCap w n 0 e)):=by
  simp only[Ag]
  refine⟨by omega,_,hge,?_,by simp_all⟩
  rw[h6]
  simp only[HW,Iw,size_zeroCells,hzc,hvl,hisz, ←IV]
  grind
 have:=hK g' _ _ h3 h4 hd
 unfold Oper.wp execOp
 simp only[ho,resolve,invoke,builtin,Sem.run_bind,Sem.run_pure,Result.andThen_ok,List.map_toArray,Ik,IF,eq.1,eq.2,hrun]
 exact this
end
theorem WI.review{E:cd}{g:Gh}{σ:St}{w:x5}(hw:WI E g σ w){q:Nat}{cs cs':List D}(hq:σ.H[q]?=G (G cs))(h:∀us,Af g cs us->Af g cs' us)(h1:∀c∈cs',c.one=J):WI E g ⟨σ.H.set q (G cs'),σ.own⟩ w:=by
 obtain⟨us,rest,e,hb,hr,_,_,hκ⟩:=hw.rep.obj q cs hq
 exact hw.setObj hq hb hκ (h us hr) h1 (fun _ _=>rfl) rfl rfl rfl rfl
theorem DA{α:Type}{l:List α}{s:Nat}{u:α}(h:l[s]?=G u):l.set s u=l:=by
 apply List.ext_getElem?
 grind
theorem Zx{g:Gh}{d:D}{x:V}{u:yz}(h:d.toV=G x)(hr:Ag g d u):repC g.M x u.cells.toList:=K6 (K5 h hr)
section
variable {P : x7} {o : yy} {σ : St} {d : D}
theorem AiR{e:x6}{x:x8}(ho:o.op=.box e x){y:V}(hy:d.toV=G y):Ah P o [d] σ (.v (.ref y)) σ:=by
 intro E g a w K Q hw hds hK
 simp only[ho,Op.operands,AB] at hds
 obtain⟨u,eu,hd⟩:=hds
 simp at eu
 have hc:=Zx hy hd
 obtain⟨hw',hle⟩:=hw.newImm u.cells.toList [] e
 rw[I8] at hw'
 have:=hK _ _ (.pointer (G ⟨w.heap.size,0,none⟩)) hw' hle (by
  simp only[Ag,DB]
  exact⟨w.heap.size,0,u.cells.toList,rfl,PX g.M w.heap.size _,repC.mono hle.M _ _ hc⟩)
 unfold Oper.wp execOp
 simpa[ho,eu,Instr.box,newVar,newRow,Oper.upon] using this
end
section
variable {P : x7} {o : yy}
end
section
variable {C : cd -> cd -> Prop} {P : x7} {R : List D -> St -> Prop} {c : Code} {p : List Nat} {k : List KI} {env env' : List D} {σ σ' : St} {i : Nat} {o : yy} {d : D}
end
def RH:yz->Option V
 |.slice none 0 0=>G .nils
 |u=>RG u
def FK:List yz->Option (List V)
 |[]=>G []
 |u::us=>match RH u,FK us with
  |some x,some xs=>G (x::xs)
  |_,_=>none
theorem Ot{M:dy}{u:yz}{x:V}(h:RH u=G x):x.isAgg=O/\repC M x [u]:=by
 grind[RH,V.isAgg,repC,KS]
theorem EX{M:dy}:∀{us:List yz} {xs:List V},FK us=G xs->repA M xs us
 |[],xs,h=>by simp[FK] at h;subst h;simp[repA]
 |u::us,xs,h=>by
  simp only[FK] at h
  split at h
  ·rename_i x xs' h1 h2
   simp at h;subst h
   obtain⟨h3,h4⟩:=Ot (M:=M) h1
   simp only[repA]
   exact⟨u,us,rfl,h3,h4,EX h2⟩
  ·simp at h
def OO(P:x7)(t:x6):Option (List V):=
 match (P.info? t).bind (·.zero) with
 |some z=>FK z.cells.toList
 |none=>none
theorem LN{P:x7}{t:x6}{xs:List V}(h:OO P t=G xs):∃i z,P.info? t=G i/\i.zero=G z/\FK z.cells.toList=G xs:=by
 unfold OO at h
 split at h
 ·rename_i z hz
  cases hi:P.info? t<;>grind
 grind
def Apl(P:x7)(t:x6):Option (List V×List (Nat×Nat)):=
 match OO P t,P.underlying t with
 |some z,some (.struct fs)=>(fs.toList.mapM (fun f=>(P.info? f.type).map fun i=>(f.offset,i.size))).map fun p=>(z,p)
 |_,_=>none
section
variable {P : x7} {o : yy} {σ : St} {d : D}
theorem M3{e:x6}(ho:o.op=.alloc e){xs:List V}(hz:OO P e=G xs):Ah P o [] σ (.ptr (I σ.H) 0) ⟨σ.H++[G (xs.map .v)],σ.own⟩:=by
 intro E g a w K Q hw hds hK
 obtain⟨i,z,hi,hz1,hc⟩:=LN hz
 obtain⟨h2,h3⟩:=DL (g:=g) (EX hc)
 obtain⟨g',hw',hle,hβ,hn⟩:=hw.newObj e h2 h3
 have:=hK g' _ (.pointer (G ⟨w.heap.size,0,none⟩)) hw' hle (by grind[Ag])
 unfold Oper.wp execOp
 simpa[ho,Instr.alloc,zeroValue,typeInfo,hi,hz1,newVar,newRow,Oper.upon] using this
theorem AaS{t:x6}{parts:Array (Nat×x8)}(ho:o.op=.build t parts){z:List V}{ay:List (Nat×Nat)}(hb:Apl P t=G (z,ay)){ds:List D}{xs:List (Nat×V)}{out:List V}
  (hx:Dm parts.toList ds=G xs) (hf:Hd (ay[·]?) z xs=G out):Ah P o ds σ (.v (.agg out)) σ:=by
 intro E g a w K Q hw hds hK
 simp only[ho,Op.operands] at hds
 have hpr:=Hl hx (a:=a) (g:=g) (by grind[Function.comp_def])
 unfold Apl at hb
 have key:∃U,P.built t (parts.toList.map fun p=>(p.1,a.eval p.2))=G U/\repA g.M out U.toList:=by
  cases hz:OO P t with
  |none=>grind
  |some z0=>
   obtain⟨i,zv,hi,hz1,hcv⟩:=LN hz
   cases hu:P.underlying t with
   |none=>grind
   |some dd=>
    cases dd<;>simp only[hz,hu,reduceCtorEq] at hb
    case struct fs=>
     cases hp:fs.toList.mapM (fun f=>(P.info? f.type).map fun i=>(f.offset,i.size)) with
     |none=>grind
     |some pl=>
      simp[hp] at hb
      obtain⟨rfl,rfl⟩:=hb
      obtain⟨U,hU,hrU⟩:=LC hpr (EX (M:=g.M) hcv) hf
      exact⟨U,by simpa[Program.built,hi,hu,hz1,hp] using hU,hrU⟩
 obtain⟨U,hU,hrU⟩:=key
 have:=hK g w (.agg U) hw g.le_refl (by grind[Ag,CY])
 have hrun:=run_build (P:=P) w t (parts.map fun p=>(p.1,a.eval p.2)) U (by simp_all)
 unfold Oper.wp execOp
 simp only[ho]
 simp only[Sem.run_bind]
 rw[show(parts.map fun(x:Nat×x8)=>match x with|(i,x)=>(i,a.eval x))=parts.map fun p=>(p.1,a.eval p.2) from rfl,hrun]
 exact this
theorem Afd{t:x6}{x y:x8}(ho:o.op=.makeSlice t x y){e:x6}{by':Nat}{z:yz}(hs:BR P t=G (e,1,by',G z)){zv:V}(hz:RH z=G zv){k k':yv}{n:Int}(h0:0<=n)(hn:(by':Int)*n<=281474976710656)(hn2:n<=9223372036854775807):
  Ah P o [.v (.int k n),.v (.int k' n)] σ (.arr (I σ.H) 0 n.toNat) ⟨σ.H++[G (replicate n.toNat (.v zv))],σ.own⟩:=by
 intro E g a w K Q hw hds hK
 simp only[ho,Op.operands,Au] at hds
 obtain⟨u,v,eq,h1,h2⟩:=hds
 simp only[Ik,IF,HV,Ix] at eq
 obtain⟨e1,e2⟩:=eq
 simp only[Ag,AC] at h1 h2
 subst h1 h2
 obtain⟨i,hu,hi,hsz,hby,hzz⟩:=AE hs
 obtain⟨hza,hzc⟩:=Ot (M:=g.M) hz
 have hz1:z.cells= #[z]:=by
  grind[CZ,Nq]
 have hrun:=run_make (P:=P) w t e i z hu hi hzz k k' n n h0 (Il _) (by grind) hn2
 rw[hsz,Nat.mul_one,hz1,JR] at hrun
 have hr:∀m,Af g (replicate m (.v zv)) (replicate m z):=by
  intro m
  induction m<;>grind[Af,Ag,BI]
 obtain⟨g',hw',hle,hβ,hn'⟩:=hw.newObj e (hr n.toNat) (fun c hc=>by grind[D.one])
 have:=hK g' _ (.slice (G ⟨w.heap.size,0,none⟩) n.toNat n.toNat) hw' hle (by grind[Ag])
 unfold Oper.wp execOp
 simp only[ho,e1,e2,Sem.run_bind,hrun,Result.andThen_ok]
 exact this
end
def Aqv(cs cs':List D):Prop:=(∀g us,Af g cs us->Af g cs' us)/\((∀c∈cs,c.one=J)->∀c∈cs',c.one=J)
inductive Wq:D->D->Prop
 |same {d:D}:Wq d d
 |acc {k:Nat} {xs:List V}:Wq (.acc k xs) (.v (.list xs))
 |nils:Wq (.v .nils) (.v (.list []))
 |rawnil:Wq (.raw (.slice none 0 0)) (.v .nils)
 |rv {x:V} {u:yz}:Wq (.rv x u) (.v x)
theorem Wq.rep{d d':D}(h:Wq d d'){g:Gh}{u:yz}(hr:Ag g d u):Ag g d' u:=by
 cases h<;>grind[Ag,CI,DD]
theorem Wq.one{d d':D}(h:Wq d d')(h1:d.one=J):d'.one=J:=by
 cases h with
 |same=>exact h1
 |acc=>rfl
 |nils=>rfl
 |rawnil=>rfl
 |rv=>grind[D.one]
inductive Y5:List D->List D->Prop
 |nil:Y5 [] []
 |cons {d d':D} {cs cs':List D} (h:Wq d d') (hs:Y5 cs cs'):Y5 (d::cs) (d'::cs')
theorem Y5.sees:∀{cs cs':List D},Y5 cs cs'->Aqv cs cs'
 |_,_,.nil=>⟨fun _ _ h=>h,fun h=>h⟩
 |_,_,.cons h hs=>by
  refine⟨fun g us hr=>?_,fun h1 c hc=>?_⟩
  ·simp only[Af] at hr⊢
   obtain⟨u,us',e,h2,h3⟩:=hr
   exact⟨u,us',e,h.rep h2,hs.sees.1 g us' h3⟩
  ·rcases Iz.1 hc with e|hc
   ·rw[e];exact h.one (h1 _ (List.mem_cons_self))
   ·exact hs.sees.2 (fun c hc=>h1 c (List.mem_cons_of_mem _ hc)) c hc
theorem Y5.refl:∀cs:List D,Y5 cs cs
 |[]=>.nil
 |_::cs=>.cons .same (Y5.refl cs)
theorem Y5.set{d d':D}(h:Wq d d'):∀{cs:List D} {j:Nat},cs[j]?=G d->Y5 cs (cs.set j d')
 |[],j,hj=>by simp at hj
 |c::cs,0,hj=>by simp at hj;subst hj;exact .cons h (Y5.refl cs)
 |c::cs,j+1,hj=>by simp at hj;exact .cons .same (Y5.set h hj)
theorem gk{P:x7}{o:yy}{ds ds':List D}{σ σ':St}{d:D}(hs:Y5 ds ds')(h:Ah P o ds' σ d σ'):Ah P o ds σ d σ':=fun E g a w K Q hw hds hK=>h E g a w K Q hw (hs.sees.1 g _ hds) hK
theorem Agr{env:List D}{σ:St}(q j k sz:Nat){cs:List D}(hq:σ.H[q]?=G (G cs))(hj:cs[j]?=G (.v .nils))(hk:∀x∈σ.own,x.1≠k)(hsz:0<sz):
  Cv env σ env ⟨σ.H.set q (G (cs.set j (.acc k []))),(k,sz,[])::σ.own⟩:=fun E g a w hf=>by
 obtain⟨hw1,hle1⟩:=hf.wi.addOwn (k:=k) (sz:=sz) (xs:=[]) (u:=.slice none 0 0) hk ⟨hsz,by simp⟩ (DD _) (.inl ⟨none,rfl⟩) (fun b hb=>by grind[Co])
 obtain⟨_,_,_,_,_,h1,_⟩:=hf.wi.rep.obj q cs hq
 have hw2:=hw1.review (cs':=cs.set j (.acc k [])) hq (fun us hr=>by
  obtain⟨u,hu,hru⟩:=BA hr hj
  simp only[Ag,CI] at hru
  subst hru
  have:=CJ hr j (d:=.acc k []) (u:=.slice none 0 0) (by grind[Ag,DD])
  grind[DA]) (fun c hc=>by
  grind[D.one])
 exact⟨_,hw2,Af.mono hle1 _ _ hf.env,hf.defers⟩
theorem E7{g:Gh}{sz:Nat}:∀{ys:List V} {us:List yz},repE g.M sz ys us->Af g ((ys.flatMap V.cellsV).map .v) us/\∀c∈ (ys.flatMap V.cellsV).map bt,c.one=J
 |[],us,h=>by simp only[repE] at h;subst h;simp[Af]
 |y::ys,us,h=>by
  simp only[repE] at h
  obtain⟨u1,u2,rfl,hl,h1,h2⟩:=h
  obtain⟨h3,h4⟩:=E7 h2
  have hA:repA g.M y.cellsV u1:=by
   cases hy:y.isAgg with
   |true=>
    cases y with
    |agg cs=>simpa only[V.cellsV,repC] using h1
    |_=>simp[V.isAgg] at hy
   |false=>
    obtain⟨u',e1,_,_⟩:=CZ hy h1
    have e:y.cellsV=[y]:=by cases y<;>simp_all [V.cellsV,V.isAgg]
    rw[e,e1]
    simp only[repA]
    exact⟨u',[],rfl,hy,by rw[←e1];exact h1,rfl⟩
  obtain⟨h5,h6⟩:=DL (g:=g) hA
  refine⟨by simpa using Aw h5 h3,fun c hc=>?_⟩
  simp only[List.flatMap_cons,IZ,I6] at hc
  rcases hc with hc|hc
  ·exact h6 c hc
  ·exact h4 c hc
section
variable {P : x7} {o : yy} {σ : St} {d : D}
theorem RX{E:cd}{g:Gh}{w:x5}(hw:WI E g σ w){t ty e:x6}{sz by':Nat}{z:yz}(hs:BR P t=G (e,sz,by',G z))(hzc:z.cells.size=sz)
  {q len n cap cap2:Nat} {cs cs2:List D} {vs:List yz} {ad:Addr} (hq:σ.H[q]?=G (G cs)) (hl:I cs=len*sz) (hvl0:I vs=n*sz) (hr2:Af g cs2 vs) (h12:∀c∈cs2,c.one=J) (hnews:∀j u,vs[j]?=G u->w.cell? (ad.add j)=G u)
  (_hcap:len<=cap) (hκ:cap*sz=g.κ q) (_hpos:0<n) (hlen:(len+n)*by'<=140737488355328) (hlen2:len+n<=140737488355328):
  ∃u' w' g',(Builtin.append_ #[t,t] ty #[.slice (G ⟨g.β q,0,none⟩) len cap,.slice (G ad) n cap2]).run P w=.ok u' w'/\
   WI E g' ⟨σ.H.set q none++[G (cs++cs2)],σ.own⟩ w'/\g.le g'/\Ag g' (.gro (I σ.H) (len+n) sz) u':=by
 obtain⟨i,ht,hi,hisz,hib,hiz⟩:=AE hs
 obtain⟨us,rest,et,hb,hr,h1,hM,hκ1⟩:=hw.rep.obj q cs hq
 have hul:I us=len*sz:=by grind[A0]
 have hvl:I vs=n*i.size:=by grind
 have holds:∀j u,us[j]?=G u->w.cell? ((⟨g.β q,0,none⟩:Addr).add j)=G u:=fun j u hj=>by
  grind[World.cell?,Addr.add]
 have hone:∀u∈vs,u.oneCell'=J:=Cp h12 hr2
 have hcs:∀c∈cs++cs2,c.one=J:=fun c hc=>by
  grind
 by_cases hroom:len+n<=cap
 ·have hfit:len*i.size+I vs<=(us++rest).toArray.size:=by
   rw[IY,hκ1, ←hκ,hvl,hisz, ←IV]
   exact Nat.mul_le_mul_right _ hroom
  have hrun:=eb (P:=P) w t ty e et i ht hi (g.β q) len cap (us++rest).toArray hb ad n cap2 vs hvl hnews hone hroom hfit
  have hrow:(us++rest).toArray.toList.take (len*i.size)++vs++(us++rest).toArray.toList.drop (len*i.size+I vs)=(us++vs)++rest.drop (I vs):=by
   simp only[hisz, ←hul]
   rw[List.take_left',List.drop_append,Ic (by omega)]<;>simp
  rw[hrow] at hrun
  have hlen3:I ((us++vs)++rest.drop (I vs))=g.κ q:=by
   grind
  have hw1:=hw.setObj (cs':=cs++cs2) (w':=w.setRow (g.β q) ((us++vs)++rest.drop (I vs)).toArray) hq (us:=us++vs) (rest:=rest.drop (I vs)) (e:=et) (setRow_heap w _ _ _ et _ hb) hlen3 (Aw hr hr2) hcs (fun b hb=>setRow_other w _ _ _ hb) (by simp) rfl rfl rfl
  have hq':(σ.H.set q (G (cs++cs2)))[q]?=G (G (cs++cs2)):=by
   grind
  obtain⟨g',h3,h4,h5,h6,h7⟩:=hw1.rename (q:=q) hq'
  grind[List.set_set,Ag]
 ·have hfitc:Builtin.nextslicecap (len+n) cap*i.bytes<=281474976710656:=growslice_fits (by omega) (by grind)
  have hrun:=run_append_grow (P:=P) w t ty e i z ht hi hiz ⟨g.β q,0,none⟩ len cap us (by grind) holds ad n cap2 vs hvl hnews (by omega) (by omega) hfitc
  have hge:=grownCap_ge w (len+n) cap e
  have hcell:us.toArray++vs.toArray++Builtin.zeroCells z.cells (grownCap w (len+n) cap e- (len+n))=((us++vs)++(Builtin.zeroCells z.cells (grownCap w (len+n) cap e- (len+n))).toList).toArray:=by
   grind
  rw[hcell] at hrun
  obtain⟨g',h3,h4,h5,h6,h7⟩:=(hw.drew.kill hq).newObjR (us:=us++vs) (rest:=(Builtin.zeroCells z.cells (grownCap w (len+n) cap e- (len+n))).toList) (cs:=cs++cs2) e (Aw hr hr2) hcs
  simp only[length_set] at h3 h5 h6 h7
  refine⟨_,_,g',hrun,h3,h4,?_⟩
  simp only[Ag]
  refine⟨by omega,_,hge,?_,by simp_all⟩
  rw[h6]
  simp only[HW,Iw,size_zeroCells,hzc,hul,hvl,hisz, ←IV]
  grind
def Ab(ys:List V):List D:=(ys.flatMap V.cellsV).map .v
theorem M2{x y:x8}{t:x6}(ho:o.op=.call { callee:=.builtin .append,args:= #[x,y],argTypes:= #[t,t]}){e:x6}{sz by':Nat}{z:yz}(hs:BR P t=G (e,sz,by',G z))(hzc:z.cells.size=sz)(hsz:0<sz)
  {q len:Nat} {cs:List D} {ys:List V} (hq:σ.H[q]?=G (G cs)) (hl:I cs=len*sz) (hys:∀y∈ys,y.size=sz) (hpos:ys≠ []) (hlen:(len+I ys)*by'<=140737488355328) (hlen2:len+I ys<=140737488355328):
  Ah P o [.gro q len sz,.v (.list ys)] σ (.gro (I σ.H) (len+I ys) sz) ⟨σ.H.set q none++[G (cs++Ab ys)],σ.own⟩:=by
 intro E g a w K Q hw hds hK
 simp only[ho,Op.operands,Call.operands] at hds
 obtain⟨u,v,eq,hu,hv⟩:=Au.1 (by simpa using hds)
 simp only[HV,Ix] at eq
 simp only[Ag] at hu hv
 obtain⟨hqn,cap,hcap,hκ,rfl⟩:=hu
 obtain⟨ad,cap2,rfl,hc2,hor⟩:=Cd hv hys hsz
 rcases hor with h|⟨b,off,us,rfl,hin,hE⟩
 ·grind
 obtain⟨h5,h6⟩:=E7 hE
 obtain⟨u',w',g',hrun,hw',hle,hd⟩:=RX (ty:=o.type) (cap2:=cap2) hw hs hzc hq hl (BX hE) h5 h6 (EB hw hin) hcap hκ (length_pos_iff.2 hpos) hlen hlen2
 have:=hK g' w' u' hw' hle hd
 unfold Oper.wp execOp
 simp only[ho,resolve,invoke,builtin,Sem.run_bind,Sem.run_pure,Result.andThen_ok,List.map_toArray,Ik,IF,eq.1,eq.2,hrun]
 exact this
theorem Lg{x y:x8}{t:x6}(ho:o.op=.call { callee:=.builtin .append,args:= #[x,y],argTypes:= #[t,t]}){e:x6}{sz by':Nat}{z:yz}(hs:BR P t=G (e,sz,by',G z))(hzc:z.cells.size=sz)(hsz:0<sz)
  {ys:List V} (hys:∀y∈ys,y.size=sz) (hpos:ys≠ []) (hlen:I ys*by'<=140737488355328) (hlen2:I ys<=140737488355328):
  Ah P o [.v .nils,.v (.list ys)] σ (.gro (I σ.H) (I ys) sz) ⟨σ.H++[G (Ab ys)],σ.own⟩:=by
 intro E g a w K Q hw hds hK
 simp only[ho,Op.operands,Call.operands] at hds
 obtain⟨u,v,eq,hu,hv⟩:=Au.1 (by simpa using hds)
 simp only[HV,Ix] at eq
 simp only[Ag,CI] at hu hv
 subst hu
 obtain⟨ad,cap2,rfl,hc2,hor⟩:=Cd hv hys hsz
 rcases hor with h|⟨b,off,us,rfl,hin,hE⟩
 ·grind
 obtain⟨h5,h6⟩:=E7 hE
 obtain⟨i,ht,hi,hisz,hib,hiz⟩:=AE hs
 have hvl:I us=I ys*i.size:=by grind[BX]
 have hrun:=run_append_nil (P:=P) w t o.type e i z ht hi hiz ⟨b,off,none⟩ (I ys) cap2 us hvl (EB hw hin) (length_pos_iff.2 hpos) (by omega) (by grind)
 have hge:=grownCap_ge w (I ys) 0 e
 have hcell:us.toArray++Builtin.zeroCells z.cells (grownCap w (I ys) 0 e-I ys)=(us++(Builtin.zeroCells z.cells (grownCap w (I ys) 0 e-I ys)).toList).toArray:=by
  grind
 rw[hcell] at hrun
 obtain⟨g',h3,h4,h5',h6',h7⟩:=hw.drew.newObjR (us:=us) (rest:=(Builtin.zeroCells z.cells (grownCap w (I ys) 0 e-I ys)).toList) (cs:=Ab ys) e h5 h6
 have hd:Ag g' (.gro (I σ.H) (I ys) sz) (.slice (G ⟨w.heap.size,0,none⟩) (I ys) (grownCap w (I ys) 0 e)):=by
  simp only[Ag]
  refine⟨by omega,_,hge,?_,by simp_all⟩
  rw[h6']
  simp only[HW,Iw,size_zeroCells,hzc,hvl,hisz, ←IV]
  grind
 have:=hK g' _ _ h3 h4 hd
 unfold Oper.wp execOp
 simp only[ho,resolve,invoke,builtin,Sem.run_bind,Sem.run_pure,Result.andThen_ok,List.map_toArray,Ik,IF,eq.1,eq.2,hrun]
 exact this
end
def Lr(L:Nat->Option (List D)):Nat->D->V->Prop
 |0,d,x=>∃d',Wq d d'/\d'.toV=G x
 |n+1,d,x=>(∃d',Wq d d'/\d'.toV=G x)∨
  (∃o off cs x',d=.ptr o off/\x=.ref x'/\L o=G cs/\∀j y,x'.cellsV[j]?=G y->y.isAgg=O/\∃c,cs[off+j]?=G c/\Lr L n c y)∨
  (∃o off sz cs xs,(d=.arr o off (I xs)∨(∃sz',d=.gro o (I xs) sz'/\off=0))/\x=.list xs/\0<sz/\(∀y∈xs,y.size=sz)/\L o=G cs/\∀j y,(xs.flatMap V.cellsV)[j]?=G y->y.isAgg=O/\∃c,cs[off+j]?=G c/\Lr L n c y)
theorem SP{M:dy}:∀{ys:List V} {us:List yz},I us=I ys->(∀(j:Nat) (y:V),ys[j]?=G y->y.isAgg=O/\∃v,us[j]?=G v/\repV M y v)->repA M ys us
 |[],us,hl,_=>by simp only[repA];exact List.eq_nil_of_length_eq_zero (by simpa using hl)
 |y::ys,[],hl,_=>by simp at hl
 |y::ys,u::us,hl,h=>by
  simp only[repA]
  obtain⟨h1,v,h2,h3⟩:=h 0 y rfl
  simp at h2;subst h2
  exact⟨u,us,rfl,h1,(BI h1).1 h3,SP (by simpa using hl) (fun j y' hj=>by have:=h (j+1) y' (by simpa using hj);simpa using this)⟩
theorem J2{M:dy}{x:V}{us:List yz}(h:repA M x.cellsV us):repC M x us:=by
 cases x<;>grind[V.cellsV,repC,repA]
theorem PR(x:V):I x.cellsV=x.size:=by cases x<;>simp[V.cellsV,V.size]
theorem FB{M:dy}{sz:Nat}:∀{xs:List V} {us:List yz},(∀y∈xs,y.size=sz)->repA M (xs.flatMap V.cellsV) us->repE M sz xs us
 |[],us,_,h=>by simpa[repA,repE] using h
 |x::xs,us,hs,h=>by
  simp only[List.flatMap_cons] at h
  have h1:=JJ h (I x.cellsV)
  have h2:=JK h (I x.cellsV)
  rw[List.take_left] at h1
  rw[List.drop_left] at h2
  simp only[repE]
  have hl:I (us.take (I x.cellsV))=I x.cellsV:=DY h1
  exact⟨us.take (I x.cellsV),us.drop (I x.cellsV),(List.take_append_drop _ _).symm,by rw[hl,PR];exact hs x List.mem_cons_self,J2 h1,FB (fun y hy=>hs y (List.mem_cons_of_mem _ hy)) h2⟩
theorem Ra{g:Gh}{M':dy}{L:Nat->Option (List D)}(hM:g.M.le M')(hL:∀o cs,L o=G cs->∃us,Af g cs us/\fg M' (g.β o) 0 us):∀(n:Nat) (d:D) (x:V) (u:yz),Lr L n d x->Ag g d u->repV M' x u:=by
 have base:∀(d:D) (x:V) (u:yz),(∃d',Wq d d'/\d'.toV=G x)->Ag g d u->repV M' x u:=by
  rintro d x u ⟨d',h1,h2⟩ hr
  exact(K5 h2 (h1.rep hr)).mono hM
 intro n
 induction n with
 |zero=>grind[Lr]
 |succ n ih=>
  intro d x u h hr
  have cells:∀(o off:Nat) (cs:List D) (ys:List V),L o=G cs->(∀(j:Nat) (y:V),ys[j]?=G y->y.isAgg=O/\∃c,cs[off+j]?=G c/\Lr L n c y)->∃ws,fg M' (g.β o) off ws/\repA M' ys ws:=by
   intro o off cs ys ho hys
   obtain⟨us,h1,h2⟩:=hL o cs ho
   have hlen:off+I ys<=I us∨ys=[]:=by
    by_cases hn:ys=[]
    ·grind
    ·left
     have hp:0<I ys:=length_pos_iff.2 hn
     obtain⟨_,c,hc,_⟩:=hys (I ys-1) (ys[I ys-1]'(by omega)) (HI (by omega))
     grind[A0]
   refine⟨(us.drop off).take (I ys),?_,?_⟩
   all_goals grind[SP,BA,fg]
  simp only[Lr] at h
  rcases h with h|⟨o,off,cs,x',rfl,rfl,ho,hc⟩|⟨o,off,sz,cs,xs,hd,rfl,hsz,hss,ho,hc⟩
  ·grind
  ·obtain⟨ws,h1,h2⟩:=cells o off cs _ ho hc
   grind[Ag,DB,J2]
  ·obtain⟨ws,h1,h2⟩:=cells o off cs _ ho hc
   have hE:=FB hss h2
   grind[B4,Ag]
inductive Sh (L:Nat->Option (List D)):List D->List V->Prop
 |nil:Sh L [] []
 |cons {n:Nat} {d:D} {x:V} {ds:List D} {xs:List V} (h:Lr L n d x) (hs:Sh L ds xs):Sh L (d::ds) (x::xs)
 |fn {f:yx} {cs:List D} {ys:List V} {ds:List D} {xs:List V} (h:Sh L cs ys) (hs:Sh L ds xs):Sh L (.dfn f [] cs::ds) (.fn f [] ys::xs)
theorem Sh.rep{g:Gh}{M':dy}{L:Nat->Option (List D)}(hM:g.M.le M')(hL:∀o cs,L o=G cs->∃us,Af g cs us/\fg M' (g.β o) 0 us){gc:Gh}(hgc:gc.M=M'):∀{ds:List D} {xs:List V} {us:List yz},Sh L ds xs->Af g ds us->Af gc (xs.map .v) us
 |_,_,us,.nil,h=>by grind[Af]
 |_,_,us,.cons h hs,hr=>by
  simp only[Af,Ik,Ag] at hr⊢
  obtain⟨u,us',e,h1,h2⟩:=hr
  exact⟨u,us',e,by grind[Ra],hs.rep hM hL hgc h2⟩
 |_,_,us,.fn h hs,hr=>by
  simp only[Af,Ik,Ag] at hr⊢
  obtain⟨u,us',e,⟨u1,u2,e2,rfl,h2⟩,h3⟩:=hr
  refine⟨u,us',e,H4.2 ⟨[],u2,e2,by rfl,Pn (GQ _) (h.rep hM hL hgc h2)⟩,hs.rep hM hL hgc h3⟩
section
variable {P : x7} {o : yy} {σ : St} {d : D}
end
def MA(F:List Nat)(H:List (Option (List D))):List (Option (List D)):=F.foldl (fun H q=>H.set q none) H
theorem Lj:∀(F:List Nat) (H:List (Option (List D))),I (MA F H)=I H
 |[],H=>rfl
 |q::F,H=>by simp only[MA,IX];exact(Lj F _).trans (by simp)
theorem FV:∀(F:List Nat) (H:List (Option (List D))) {i:Nat} {cs:List D},(MA F H)[i]?=G (G cs)->i∉F/\H[i]?=G (G cs)
 |[],H,i,cs,h=>⟨by simp,h⟩
 |q::F,H,i,cs,h=>by
  simp only[MA,IX] at h
  obtain⟨h1,h2⟩:=FV F _ h
  obtain⟨h3,h4⟩:=Hw h2
  exact⟨by simp[h1,h3],h4⟩
inductive Fz (L:Nat->Option (List D)):List D->List D->Prop
 |nil:Fz L [] []
 |keep {d:D} {ds ds':List D} (hs:Fz L ds ds'):Fz L (d::ds) (d::ds')
 |view {n:Nat} {d:D} {x:V} {ds ds':List D} (h:Lr L n d x) (hs:Fz L ds ds'):Fz L (d::ds) (.v x::ds')
theorem Fz.rep{g g':Gh}{L:Nat->Option (List D)}(hg:g.le g')(hL:∀o cs,L o=G cs->∃us,Af g cs us/\fg g'.M (g.β o) 0 us):∀{ds ds':List D} {us:List yz},Fz L ds ds'->Af g ds us->Af g' ds' us
 |_,_,us,.nil,h=>by grind[Af]
 |_,_,us,.keep hs,hr=>by
  simp only[Af] at hr⊢
  obtain⟨u,us',e,h1,h2⟩:=hr
  exact⟨u,us',e,Ag.mono hg _ _ h1,hs.rep hg hL h2⟩
 |_,_,us,.view h hs,hr=>by
  simp only[Af,Ag] at hr⊢
  obtain⟨u,us',e,h1,h2⟩:=hr
  exact⟨u,us',e,Ra hg.M hL _ _ _ _ h h1,hs.rep hg hL h2⟩
def EC(F:List Nat)(H:List (Option (List D)))(o:Nat):Option (List D):=if o∈F then(H[o]?).join else none
theorem Ak8{E:cd}{g:Gh}{σ:St}{w:x5}(F:List Nat)(hw:WI E g σ w):∃g',g.le g'/\WI E g' ⟨MA F σ.H,σ.own⟩ w/\∀{env env':List D} {us:List yz},Fz (EC F σ.H) env env'->Af g env us->Af g' env' us:=by
 classical
 let X:Nat->Prop:=fun b=>∃i∈F,∃cs,σ.H[i]?=G (G cs)/\b=g.β i
 let M':dy:=fun b o=>if X b then w.cell? ⟨b,o,none⟩ else g.M b o
 have hXnone:∀b,X b->∀o,g.M b o=none:=by
  rintro b ⟨i,_,cs,hi,rfl⟩ o
  obtain⟨_,_,_,_,_,_,h,_⟩:=hw.rep.obj i cs hi
  grind
 have hle:g.M.le M':=fun b o v h=>by
  grind
 have hg:g.le { g with M:=M' }:=⟨hle,HP _,fun _ _=>rfl,fun _ _ _ h=>h,fun _ _=>rfl⟩
 have hXother:∀i cs,i∉F->σ.H[i]?=G (G cs)->¬X (g.β i):=by
  rintro i cs hi hH ⟨j,hj,cj,hcj,e⟩
  exact hi (by rw[hw.rep.inj i j _ _ hH hcj e];exact hj)
 have hXown:∀x∈σ.own,∀u,g.ι x.1 (I x.2.2)=G u->∀b,Co u=G b->¬X b:=by
  rintro x hx u hu b hb ⟨j,hj,cj,hcj,e⟩
  exact hw.rep.ownObj x hx u hu b hb j cj hcj e.symm
 refine⟨{ g with M:=M' },hg,?_,fun hz hr=>hz.rep hg (fun o cs ho=>?_) hr⟩
 ·refine hw.update X (fun b hb=>?_) (fun b _ hb=>⟨rfl,fun o=>by grind⟩) hle (HP _) (fun _ _=>rfl) (fun _ _=>rfl) (HP _) rfl rfl rfl ?_ (fun i cs hi=>hw.objs i cs (FV F _ hi).2) hw.owns
  ·obtain⟨i,_,cs,hi,rfl⟩:=hb;exact hw.objs i cs hi
  ·refine⟨by rw[Lj];exact hw.rep.n,fun b o v hm=>?_,fun i cs hi=>?_,fun i j c1 c2 hi hj=>hw.rep.inj i j _ _ (FV F _ hi).2 (FV F _ hj).2,fun k sz xs hx=>?_,hw.rep.tags,hw.rep.sep,fun x hx u hu b hb i cs hi=>hw.rep.ownObj x hx u hu b hb i cs (FV F _ hi).2,hw.rep.fresh,hw.rep.gl.mono hle,hw.rep.gw⟩
   ·simp only[M'] at hm
    split at hm
    ·exact hm
    ·exact hw.rep.mem b o v hm
   ·obtain⟨h1,h2⟩:=FV F _ hi
    obtain⟨us,rest,e,h3,h4,h5,h6,h7⟩:=hw.rep.obj i cs h2
    grind[Af.mono]
   ·obtain⟨h0,u,hu,h3,h4,h5⟩:=hw.rep.own k sz xs hx
    exact⟨h0,u,hu,h3.mono hle,h4.kept fun b hb=>⟨rfl,fun o=>by grind⟩,h5⟩
 ·simp only[EC] at ho
  split at ho
  ·rename_i hF
   have ho':σ.H[o]?=G (G cs):=by
    grind
   obtain⟨us,rest,e,hb,hr,_⟩:=hw.rep.obj o cs ho'
   refine⟨us,hr,fun j v hj=>?_⟩
   simp only[M',Ie (show X (g.β o) from⟨o,hF,cs,ho',rfl⟩),World.cell?,hb,I4,List.getElem?_toArray]
   grind
  grind
theorem RB{env env':List D}{σ:St}(F:List Nat)(hz:Fz (EC F σ.H) env env'):Cv env σ env' ⟨MA F σ.H,σ.own⟩:=fun E g a w hf=>by
 obtain⟨g',_,hw',hr⟩:=Ak8 F hf.wi
 exact⟨g',hw',hr hz hf.env,hf.defers⟩
section
variable {P : x7} {o : yy} {σ : St} {d : D}
theorem N6{t:x6}{len:Nat}{parts:Array (Nat×x8)}(ho:o.op=.buildSlice t len parts)(hp:parts.toList=((parts.toList.map (·.2)).zipIdx 0).map fun x=>(x.2,x.1))(hlen:parts.size=len)
  {e:x6} {sz by':Nat} {z:Option yz} (hs:BR P t=G (e,sz,by',z)) (hz:z.isSome=J) {ds:List D} {xs:List V} (hx:Fv ds=G xs) (hsz:∀x∈xs,x.size=sz) (h0:0<len) (h1:0<sz) (h2:len*sz<=1000)
  (k:Nat) (hk:∀x∈σ.own,x.1≠k):Ah P o ds σ (.acc k xs) ⟨σ.H,(k,sz,xs)::σ.own⟩:=by
 intro E g a w K Q hw hds hK
 simp only[ho,Op.operands] at hds
 obtain⟨i,hu,hi,rfl,rfl,rfl⟩:=AE hs
 obtain⟨zz,hzz⟩:=Option.isSome_iff_exists.1 hz
 have hlm:I (parts.toList.map fun p=>a.eval p.2)=len:=by grind
 have hds':Af g ds (parts.toList.map fun p=>a.eval p.2):=by grind[Function.comp_def]
 obtain⟨hr,hcs⟩:=JD hx hds' hsz
 have hxl:I xs=len:=by rw[G0 hx, ←A0 hds',hlm]
 have hpos:0<len*i.size:=Nat.mul_pos h0 h1
 have hf:=JY i.size (parts.toList.map fun p=>a.eval p.2) 0 [] ((Array.range (len*i.size)).map (zz.cells[· %zz.cells.size]!)).toList (by simp) hcs (by grind)
 have hpp:((parts.toList.map fun p=>a.eval p.2).zipIdx 0).map (fun x=>(x.2,x.1))=parts.toList.map fun p=>(p.1,a.eval p.2):=by
  have e1:(parts.toList.map fun p=>a.eval p.2)=(parts.toList.map (·.2)).map a.eval:=by simp
  rw[e1,List.zipIdx_map,map_map]
  conv=>rhs;rw[hp,map_map]
  rfl
 rw[hpp] at hf
 simp only[List.nil_append,Array.toArray_toList] at hf
 have hrun:=run_buildSlice (P:=P) w t e len (parts.map fun p=>(p.1,a.eval p.2)) _ i zz hu hi hzz (by omega) (by omega) (by simpa using hf)
 generalize hus:(parts.toList.map fun p=>a.eval p.2).flatMap (·.cells.toList)=us at hr hrun
 obtain⟨hw1,hle1⟩:=hw.newImm us [] e
 rw[I8] at hw1
 have hul:I us=len*i.size:=by grind[BX]
 have hrep:repV (Wo g.M w.heap.size us) (.list xs) (.slice (G ⟨w.heap.size,0,none⟩) len len):=by
  have:=Dg (cap:=len) h1 (PX g.M w.heap.size us) (repE.mono hle1.M _ _ _ hr) (by omega)
  grind
 have hperm:Perm (Wo g.M w.heap.size us) (w.alloc (.cells us.toArray e)) i.size (.slice (G ⟨w.heap.size,0,none⟩) len len):=
  .inr ⟨w.heap.size,0,len,len,us.toArray,e,rfl,heap_alloc_new w _,HP _,by grind,fun o ho'=>by grind[Wo],hw.rep.gw.new (HP _)⟩
 have hb:∀b,Co (.slice (G ⟨w.heap.size,0,none⟩) len len)=G b->b=w.heap.size:=fun b hb=>by
  grind[Co]
 obtain⟨hw',hle⟩:=hw1.addOwn (k:=k) (sz:=i.size) (xs:=xs) hk ⟨h1,hsz⟩ hrep hperm (fun b hb'=>by
  rw[hb b hb']
  exact⟨hw.size,fun j cs hj=>Nat.ne_of_lt (hw.rep.obj_lt hj),fun x hx' u' hu' hb2=>by have:=hw.rep.own_lt hx' hu' hb2;omega⟩)
 have:=hK _ _ (.slice (G ⟨w.heap.size,0,none⟩) len len) hw' (Gh.le_trans hle1 hle) (by
  grind[Ag])
 unfold Oper.wp execOp
 simp only[ho]
 simp only[Sem.run_bind]
 rw[show(parts.map fun(x:Nat×x8)=>match x with|(i,x)=>(i,a.eval x))=parts.map fun p=>(p.1,a.eval p.2) from rfl,hrun]
 exact this
end
theorem Perm.drop{M:dy}{w:x5}{sz:Nat}{a:Option Addr}{len cap:Nat}(h:Perm M w sz (.slice a len cap)){l:Nat}(hl:l<=len):Perm M w sz (.slice (if cap=l then a else a.map (·.add (l*sz))) (len-l) (cap-l)):=by
 rcases h with⟨a',e⟩|⟨b,f,len',cap',cur,e',e,hh,hlc,hc,hM⟩
 ·grind[Perm]
 ·simp only[Value.slice.injEq] at e
  obtain⟨rfl,rfl,rfl⟩:=e
  by_cases hcl:cap=l
  ·subst hcl
   obtain rfl:len=cap:=by omega
   exact .inl ⟨G ⟨b,f,none⟩,by simp⟩
  ·rw[HZ hcl]
   refine .inr ⟨b,f+l*sz,len-l,cap-l,cur,e',by simp[Addr.add_lit],hh,by omega,?_,fun o ho=>hM o ?_,hM.ng⟩
   ·have:l*sz+(cap-l)*sz=cap*sz:=by rw[←IV];grind
    omega
   ·have:l*sz+(len-l)*sz=len*sz:=by rw[←IV];grind
    omega
section
variable {C : cd -> cd -> Prop} {P : x7} {R : List D -> St -> Prop} {c : Code} {p : List Nat} {κ : List KI} {env env1 env' : List D} {σ σ' : St} {i : Nat} {o : yy} {d : D}
end
theorem WI.trans{E:cd}{g g':Gh}{σ σ':St}{w w1 w':x5}(h:WI E g σ w)(hk:∀b,b<E.w.heap.size->¬E.priv b->w1.heap[b]?=w.heap[b]?)(hsz:w.heap.size<=w1.heap.size)(hos:w1.os=w.os)(htp:w1.tape=w.tape)(hou:w1.output=w.output)
  (h':WI ⟨g,w1,σ⟩ g' σ' w') (hdr:BN w.drawn w1.drawn:=by first|exact BN.refl _|exact BN.succ _|assumption):WI E g' σ' w' where
 rep:=h'.rep
 M:=dy.le_trans h.M h'.M
 size:=IE h.size (IE hsz h'.size)
 keep:=fun b hb hp=>by
  have hnp:¬cd.priv ⟨g,w1,σ⟩ b:=by
   rintro (⟨i,cs,hi,e⟩|⟨x,hx,u,hu,hb'⟩)
   ·have e':b=g.β i:=e
    rw[e'] at hb hp
    rcases h.objs i cs hi with h1|h1
    all_goals grind
   ·rcases h.owns x hx u hu b hb' with h1|h1
    all_goals grind
  have hlt:b<w1.heap.size:=by have:=h.size;omega
  obtain⟨h1,h2⟩:=h'.keep b hlt hnp
  obtain⟨h3,h4⟩:=h.keep b hb hp
  grind
 os:=h'.os.trans (hos.trans h.os)
 tape:=h'.tape.trans (htp.trans h.tape)
 output:=h'.output.trans (hou.trans h.output)
 drawn:=h.drawn.trans (hdr.trans h'.drawn)
 nE:=IE h.nE h'.nE
 βE:=fun o ho=>(h'.βE o (Jm ho h.nE)).trans (h.βE o ho)
 κE:=fun o ho=>(h'.κE o (Jm ho h.nE)).trans (h.κE o ho)
 objs:=fun i cs hi=>by
  rcases h'.objs i cs hi with h1|h1
  ·left;have:=h.size;grind
  ·rcases h1 with⟨j,cj,hj,e⟩|⟨x,hx,u,hu,hb⟩
   ·rw[e];exact h.objs j cj hj
   ·exact h.owns x hx u hu _ hb
 owns:=fun x hx u hu b hb=>by
  rcases h'.owns x hx u hu b hb with h1|h1
  ·left;have:=h.size;grind
  ·rcases h1 with⟨j,cj,hj,e⟩|⟨y,hy,u',hu',hb'⟩
   ·rw[e];exact h.objs j cj hj
   ·exact h.owns y hy u' hu' b hb'
structure Adg(r:Nat)(o:Obj)(E:cd):Prop where
 at_:E.w.heap[r]?=G o
 priv:¬E.priv r
 mem:∀x,E.g.M r x=none
theorem Adg.now{r:Nat}{o:Obj}{E:cd}{g:Gh}{σ:St}{w:x5}(h:Adg r o E)(hw:WI E g σ w):w.heap[r]?=G o/\(∀x,g.M r x=none)/\(∀i cs,σ.H[i]?=G (G cs)->g.β i≠r)/\(∀x∈σ.own,∀u,g.ι x.1 (I x.2.2)=G u->Co u≠G r):=by
 have hlt:r<E.w.heap.size:=(ID.1 h.at_).1
 obtain⟨h1,h2⟩:=hw.keep r hlt h.priv
 refine⟨h1.trans h.at_,fun x=>(h2 x).trans (h.mem x),fun i cs hi e=>?_,fun x hx u hu hb=>?_⟩
 ·rcases hw.objs i cs hi with h3|h3
  ·omega
  ·rw[e] at h3;exact h.priv h3
 ·rcases hw.owns x hx u hu r hb with h3|h3
  ·omega
  ·exact h.priv h3
theorem dm.side{g:Gh}{σ:St}{w:x5}(h:dm g σ w){r:Nat}(hM:∀x,g.M r x=none)(hobj:∀i cs,σ.H[i]?=G (G cs)->g.β i≠r)(hown:∀x∈σ.own,∀u,g.ι x.1 (I x.2.2)=G u->Co u≠G r)
  {w':x5} (hk:∀b,b≠r->w'.heap[b]?=w.heap[b]?):dm g σ w' where
 n:=h.n
 gl:=h.gl
 gw:=h.gw.keepG fun p hp _=>hk p.1 fun e=>by
  obtain⟨v,hv⟩:=h.gl.sized p hp
  grind
 mem:=fun b o v hm=>by
  have hne:b≠r:=fun e=>by grind
  have:=h.mem b o v hm
  grind[World.cell?]
 obj:=fun i cs hi=>by
  obtain⟨us,rest,e,h1,h2⟩:=h.obj i cs hi
  grind
 inj:=h.inj
 own:=fun k sz xs hx=>by
  obtain⟨h0,u,hu,h1,h2,h3⟩:=h.own k sz xs hx
  exact⟨h0,u,hu,h1,h2.kept fun b hb=>⟨hk b (fun e=>hown _ hx u hu (by grind)),fun _=>rfl⟩,h3⟩
 tags:=h.tags
 sep:=h.sep
 ownObj:=h.ownObj
 fresh:=h.fresh
structure ue(r:Nat)(o:Obj)(E0 E:cd):Prop where
 side:Adg r o E
 new:E0.w.heap.size<=r
 link:∀(g:Gh) (σ:St) (w:x5),WI E g σ w->WI E0 g σ w
section
variable {C : cd -> cd -> Prop} {P : x7} {R : List D -> St -> Prop} {c : Code} {p : List Nat} {k : List KI} {env env' : List D} {σ σ' : St} {i : Nat} {o : yy} {d : D}
theorem ue.of{E0:cd}{g:Gh}{w w1:x5}{r:Nat}{ob:Obj}(hw:WI E0 g σ w)(hk:∀b,b≠r->w1.heap[b]?=w.heap[b]?)(hr:w1.heap[r]?=G ob)(hsz:w.heap.size<=w1.heap.size)(hos:w1.os=w.os)(htp:w1.tape=w.tape)(hou:w1.output=w.output)(hEr:E0.w.heap.size<=r)
  (hM:∀x,g.M r x=none) (hobj:∀i cs,σ.H[i]?=G (G cs)->g.β i≠r) (hown:∀x∈σ.own,∀u,g.ι x.1 (I x.2.2)=G u->Co u≠G r) (hdr:BN w.drawn w1.drawn:=by first|exact BN.refl _|exact BN.succ _|assumption):
  ue r ob E0 ⟨g,w1,σ⟩/\WI ⟨g,w1,σ⟩ g σ w1:=by
 refine⟨⟨⟨hr,?_,hM⟩,hEr,fun g' σ' w' h'=>hw.trans (fun b hb _=>hk b (by omega)) hsz hos htp hou h'⟩,WI.start (hw.rep.side hM hobj hown hk)⟩
 grind[cd.priv]
end
def GK:Nat->List (List UInt8)->List MapEntry
 |_,[]=>[]
 |n,s::l=>⟨.string ⟨s.toArray⟩,.bool true,n⟩::GK (n+1) l
def Dq(l:List (List UInt8)):Obj:=.map (GK 0 l).toArray (I l)
theorem AcH(a b:List UInt8):((⟨a.toArray⟩:ByteArray)==⟨b.toArray⟩)=(a==b):=by
 have:((⟨a.toArray⟩:ByteArray)==⟨b.toArray⟩)=(a.toArray==b.toArray):=rfl
 grind
theorem PE(s:List UInt8):∀(l:List (List UInt8)) (n m:Nat),∃q,Instr.findNow .string (.string ⟨s.toArray⟩) (GK n l) m=G (if l.contains s then G (q,.bool true) else none)
 |[],n,m=>⟨0,by rfl⟩
 |x::l,n,m=>by
  obtain⟨q,hq⟩:=PE s l (n+1) (m+1)
  simp only[GK,Instr.findNow,Instr.sameNow,AcH,List.contains_cons]
  by_cases h:s=x
  ·simp_all
  ·have hb:(s==x)=O:=by grind
   simp only[hb,Bool.false_or]
   grind
theorem MV:∀(l:List (List UInt8)) (n:Nat) (s:List UInt8),GK n (l++[s])=GK n l++[⟨.string ⟨s.toArray⟩,.bool true,n+I l⟩]
 |[],n,s=>by simp[GK]
 |x::l,n,s=>by simp only[Jz,GK,MV l (n+1) s,HN,Nat.add_assoc,Nat.add_comm 1]
section
variable {C : cd -> cd -> Prop} {P : x7} {R : List D -> St -> Prop} {c : Code} {p : List Nat} {k : List KI} {env env' : List D} {σ σ' : St} {i : Nat} {o : yy} {d : D}
end
section
variable {P : x7} {o : yy} {σ : St} {d : D}
theorem RE{E:cd}{g:Gh}{w:x5}(hw:WI E g σ w){t ty e:x6}{by':Nat}{z:Option yz}(hs:BR P t=G (e,1,by',z)){q:Nat}{cs:List D}(hq:σ.H[q]?=G (G cs)){off len cap sLen sCap:Nat}{a:Addr}{ds:List D}{vs:List yz}
  (hvs:Af g ds vs) (h1:∀d∈ds,d.one=J) (hn:I ds=Nat.min sLen len) (hsrc:∀j v,vs[j]?=G v->w.cell? (a.add j)=G v) (hfit:off+I ds<=I cs):
  ∃w',(Builtin.copy_ #[t,t] ty #[.slice (G ⟨g.β q,off,none⟩) len cap,.slice (G a) sLen sCap]).run P w=.ok (goInt (I ds)) w'/\WI E g ⟨σ.H.set q (G (cs.take off++ds++cs.drop (off+I ds))),σ.own⟩ w':=by
 obtain⟨i,hu,hi,hsz,_⟩:=AE hs
 obtain⟨us,rest,et,hb,hr,hone,hM,hκ⟩:=hw.rep.obj q cs hq
 have hul:=A0 hr
 have hvl:=A0 hvs
 have hrun:=run_copy_row (P:=P) w t t ty e (g.β q) off len cap a sLen sCap (us++rest).toArray et vs hu (by grind) hb (by omega) hsrc (by grind) (Cp h1 hvs)
 rw[hvl] at hrun
 refine⟨_,hrun,?_⟩
 have e1:(us++rest).toArray.toList.take off++vs++(us++rest).toArray.toList.drop (off+I ds)=(us.take off++vs++us.drop (off+I ds))++rest:=by
  grind
 rw[e1]
 refine hw.setObj hq (us:=us.take off++vs++us.drop (off+I ds)) (rest:=rest) (setRow_heap w (g.β q) _ _ et _ hb) ?_ (Aw (Aw (Ce hr _) hvs) (Cq hr _)) ?_ (fun b hb'=>setRow_other w _ _ _ hb') (by simp) rfl rfl rfl
 all_goals grind
theorem Aar{g:Gh}:∀{xs:List V} {us:List yz},(∀x∈xs,x.isAgg=O)->repE g.M 1 xs us->Af g (xs.map .v) us
 |[],us,_,h=>by simpa[repE,Af] using h
 |x::xs,us,hx,h=>by
  simp only[repE] at h
  obtain⟨ws,us',rfl,hl,h1,h2⟩:=h
  obtain⟨u,rfl,_⟩:=CZ (hx x (by simp)) h1
  simp only[Ik,Af,Ag]
  exact⟨u,us',rfl,(BI (hx x (by simp))).2 h1,Aar (fun y hy=>hx y (by simp[hy])) h2⟩
theorem Afi{x y:x8}{t:x6}(ho:o.op=.call { callee:=.builtin .copy,args:= #[x,y],argTypes:= #[t,t]}){e:x6}{by':Nat}{z:Option yz}(hs:BR P t=G (e,1,by',z)){q off len k:Nat}{cs:List D}(hq:σ.H[q]?=G (G cs)){xs:List V}
  (hx:∀x∈xs,x.size=1/\x.isAgg=O) (hk:k=Nat.min (I xs) len) (h0:0<k) (hfit:off+k<=I cs):
  Ah P o [.arr q off len,.v (.list xs)] σ (.v (.int .i64 (k:Int))) ⟨σ.H.set q (G (cs.take off++(xs.take k).map .v++cs.drop (off+k))),σ.own⟩:=by
 intro E g a w K Q hw hds hK
 simp only[ho,Op.operands,Call.operands] at hds
 obtain⟨u,v,eq,h1,h2⟩:=Au.1 (by simpa using hds)
 simp only[HV,Ix] at eq
 simp only[Ag] at h1 h2
 obtain⟨_,cap,_,rfl⟩:=h1
 obtain⟨a2,c2,rfl,hc2,hor⟩:=Cd h2 (fun x hx'=>(hx x hx').1) (by decide)
 have hkx:k<=I xs:=by grind
 rcases hor with rfl|⟨b2,off2,us2,rfl,hin,hE⟩
 ·grind
 have hd2:=Ce (Aar (fun x hx'=>(hx x hx').2) hE) k
 rw[←List.map_take] at hd2
 have hlen:I ((xs.take k).map bt)=k:=by grind
 obtain⟨w',hrun,hw'⟩:=RE (P:=P) (ty:=o.type) hw hs hq (off:=off) (len:=len) (cap:=cap) (a:=⟨b2,off2,none⟩) (sLen:=I xs) (sCap:=c2) hd2 (fun d hd=>by
   grind[D.one]) (by omega) (fun j v hj=>EB hw hin j v (by grind)) (by omega)
 rw[hlen] at hrun hw'
 have:=hK g w' (goInt k) hw' g.le_refl (by simp[Ag,AC,goInt])
 unfold Oper.wp execOp
 simp only[ho,resolve,invoke,builtin,Sem.run_bind,Sem.run_pure,Result.andThen_ok]
 grind[Oper.upon,Result.andThen]
theorem Afj{x y:x8}{t:x6}(ho:o.op=.call { callee:=.builtin .copy,args:= #[x,y],argTypes:= #[t,t]}){e:x6}{by':Nat}{z:Option yz}(hs:BR P t=G (e,1,by',z)){q off len off2 len2 k:Nat}{cs:List D}(hq:σ.H[q]?=G (G cs))
  (hk:k=Nat.min len2 len) (hfit:off+k<=I cs) (hfit2:off2+k<=I cs):
  Ah P o [.arr q off len,.arr q off2 len2] σ (.v (.int .i64 (k:Int))) ⟨σ.H.set q (G (cs.take off++(cs.drop off2).take k++cs.drop (off+k))),σ.own⟩:=by
 intro E g a w K Q hw hds hK
 simp only[ho,Op.operands,Call.operands] at hds
 obtain⟨u,v,eq,h1,h2⟩:=Au.1 (by simpa using hds)
 simp only[HV,Ix] at eq
 simp only[Ag] at h1 h2
 obtain⟨_,cap,_,rfl⟩:=h1
 obtain⟨_,c2,_,rfl⟩:=h2
 obtain⟨us,rest,et,hb,hr,hone,hM,hκ⟩:=hw.rep.obj q cs hq
 have hlen:I ((cs.drop off2).take k)=k:=by grind
 have hul:=A0 hr
 obtain⟨w',hrun,hw'⟩:=RE (P:=P) (ty:=o.type) hw hs hq (off:=off) (len:=len) (cap:=cap) (a:=⟨g.β q,off2,none⟩) (sLen:=len2) (sCap:=c2) (Ce (Cq hr off2) k) (fun d hd=>hone d (List.mem_of_mem_drop (Ji hd))) (by omega) (fun j v hj=>by
   grind[World.cell?,Addr.add]) (by omega)
 rw[hlen] at hrun hw'
 have:=hK g w' (goInt k) hw' g.le_refl (by simp[Ag,AC,goInt])
 unfold Oper.wp execOp
 simp only[ho,resolve,invoke,builtin,Sem.run_bind,Sem.run_pure,Result.andThen_ok]
 grind[Oper.upon,Result.andThen]
theorem Mw{t:x6}{x:x8}{lo hi:Option x8}(ho:o.op=.slice t x lo hi none){e:x6}{by':Nat}{z:Option yz}(hs:BR P t=G (e,1,by',z)){q off len:Nat}
  (l h:Option (yv×Int)) (hlo:lo.isSome=l.isSome) (hhi:hi.isSome=h.isSome) {l' h':Nat} (hb:C9 len (l.map (·.2)) (h.map (·.2))=G (l',h')) (hlt:l'<len):
  Ah P o (.arr q off len::(EM l++EM h)) σ (.arr q (off+l') (h'-l')) σ:=by
 refine A5 fun E g ρ w hw hds=>?_
 obtain⟨i,hu,hi',hsz,_,_⟩:=AE hs
 have hb2:=hb
 unfold C9 at hb2
 simp only at hb2
 split at hb2
 case isFalse=>grind
 rename_i hcond
 simp only[Ir,Prod.mk.injEq] at hb2
 have main:∀u (lv hv:Option yz),ρ x=u->lv=l.map (fun p=>Value.int p.1 p.2)->hv=h.map (fun p=>Value.int p.1 p.2)->lo.map ρ=lv->hi.map ρ=hv->Ag g (.arr q off len) u->
   ∃u,(execOp ρ o).run P w=.ok (.value u) w/\Ag g (.arr q (off+l') (h'-l')) u:=by
  intro u lv hv eu el eh e1 e2 hr
  simp only[Ag] at hr⊢
  obtain⟨hq,cap,hc,rfl⟩:=hr
  refine⟨.slice (G ⟨g.β q,off+l',none⟩) (h'-l') (cap-l'),?_,hq,cap-l',by omega,rfl⟩
  have hbr:=E5 (P:=P) w true len cap hc l h hb
  simp only[execOp,ho,eu,e1,e2,el,eh,Jw,Instr.sliceAt,Instr.slice,Sem.run_bind,run_underlying hu,Result.andThen_ok,hbr]
  simp[sizeOf,typeInfo,hi',hsz,show ¬cap=l' by omega,Addr.add_lit]
 simp only[ho,Op.operands] at hds
 cases lo with
 |none=>
  cases l with
  |some _=>grind
  |none=>
   cases hi with
   |none=>
    cases h<;>grind[AB,EM]
   |some ho'=>
    cases h<;>grind[Au,EM,Ag,AC]
 |some lo'=>
  cases l with
  |none=>grind
  |some lq=>
   cases hi with
   |none=>
    cases h<;>grind[Au,EM,Ag,AC]
   |some ho'=>
    cases h with
    |none=>grind
    |some p=>
     obtain⟨u,v,v2,eu,h1,h2,h3⟩:=ET.1 (by simpa[EM] using hds)
     grind[Ag,AC]
theorem AiB{fn:yw}{env:List D}{σ':St}{q off len:Nat}(hr:Se P env σ fn.results.toList [.arr q off len])(m:Nat)(hH:σ'.H=σ.H.take m)(hm:m<=I σ.H)(hc:∀(i:Nat) (cs:List D),σ'.H[i]?=G (G cs)->D.pls cs=J)
  (hown:σ'.own.Sublist σ.own) (hq:q<m):AA P fn env σ (.arr q off len) σ':=by
 intro E g a w hf hE
 obtain⟨us,h1,h2⟩:=hr.run hf
 obtain⟨u,rfl,h3⟩:=AB.1 h2
 have hml:I σ'.H=m:=by grind
 have hrun:(results fn a.tmps).run P w=.ok u w:=by
  rw[Hz,Array.mapM_eq_mapM_toList]
  simp_all
 refine⟨_,_,hrun,hf.wi.restrict hH hm (by omega) hc hown,?_⟩
 grind[Ag]
theorem D3{c:Call}{fo:x8}(ho:o.op=.call c)(hc:c.callee=.value fo){f:yx}{fs cs:List V}{ds:List D}(hp:D.pls ds=J){os:List D}(hos:D.pls os=J){len:Nat}
  (hspec:Aa P f (fs.map .v++ds++cs.map .v) ⟨[],[]⟩ (.arr 0 0 len) ⟨[G os],[]⟩):Ah P o (.v (.fn f fs cs)::ds) σ (.arr (I σ.H) 0 len) ⟨σ.H++[G os],σ.own⟩:=by
 intro E g a w K Q hw hds hK
 obtain⟨us,vs,ws,hf,hargs,h1,h2,h3⟩:=DQ ho hc hds
 refine Gz (_E:=E) (_g:=g) ho hc hspec.1 hf hargs ?_
 have hargs':Af { M:=g.M,β:=g.β,n:=0,ι:=fun _ _=>none,κ:=g.κ } (fs.map .v++ds++cs.map .v) (us++ws++vs):=
  BJ (by rfl) (by grind[Ds,Ca]) (Aw (Aw h1 h3) h2)
 refine Calls.mono (hspec.2 _ w _ hw.rep.empty hargs') ?_
 rintro e w' ⟨u,g',rfl,hw',hr⟩
 obtain⟨h4,h5⟩:=hw.back0 (by rfl) hw'
 simp only[Ag] at hr
 obtain⟨vs',rest',e',hb,hrv,hone,hMn,_⟩:=hw'.rep.obj 0 os (by simp)
 have hge:w.heap.size<=g'.β 0:=by
  rcases hw'.objs 0 os (by simp) with h|h
  all_goals grind[GV]
 obtain⟨h6,h7⟩:=h4.addObj (b:=g'.β 0) (us:=vs') (rest:=rest') (e:=e') (cs:=os) hb (.inl (IE hw.size hge)) hMn
  (fun i cs hi=>by have:=hw.rep.obj_lt hi;grind) (fun x hx v hv hvb=>by have:=hw.rep.own_lt hx hv hvb;omega) (BJ (by rfl) hos hrv) hone
 refine⟨u,rfl,hK _ _ _ h6 (Gh.le_trans h5 h7) ?_⟩
 simp only[Ag]
 obtain⟨_,cap,hcap,rfl⟩:=hr
 exact⟨by rw[hw.rep.n];omega,cap,hcap,by rw[hw.rep.n];simp⟩
theorem FF{f:yx}{first captured:Array x8}(ho:o.op=.makeFunc (.func f) first captured)(hl:first.size=0){cs:List D}:Ah P o cs σ (.dfn f [] cs) σ:=by
 refine A5 fun E g ρ w hw hds=>?_
 have h0:first= #[]:=Array.eq_empty_of_size_eq_zero hl
 subst h0
 simp only[ho,Op.operands] at hds
 refine⟨.func (.func f) #[] (captured.map ρ),?_,?_⟩
 ·simp[execOp,ho,Instr.makeFunc]
 ·simp only[Ag]
  exact⟨[],captured.toList.map ρ,by congr 1;grind,by rfl,by grind⟩
end
mutual
inductive VS:V->V->Prop
 |refl (x:V):VS x x
 |nils:VS .nils (.list [])
 |agg {cs ds:List V} (h:jz cs ds):VS (.agg cs) (.agg ds)
 |list {cs ds:List V} (h:jz cs ds):VS (.list cs) (.list ds)
 |ref {x y:V} (h:VS x y):VS (.ref x) (.ref y)
inductive jz:List V->List V->Prop
 |nil:jz [] []
 |cons {x y:V} {xs ys:List V} (h:VS x y) (hs:jz xs ys):jz (x::xs) (y::ys)
end
theorem VS.isAgg{x y:V}(h:VS x y):y.isAgg=x.isAgg:=by cases h<;>rfl
theorem jz.length:∀{xs ys:List V},jz xs ys->ys.length=xs.length
 |_,_,.nil=>rfl
 |_,_,.cons _ hs=>by simp[hs.length]
theorem jz.refl:∀xs:List V,jz xs xs
 |[]=>.nil
 |x::xs=>.cons (.refl x) (jz.refl xs)
mutual
theorem VS.repC{M:dy}:∀{x y:V},VS x y->∀{ws:List yz},repC M x ws->Dv.repC M y ws
 |_,_,.refl _,_,h=>h
 |_,_,.nils,ws,h=>by
  grind[repC]
 |_,_,.agg h,_,hr=>by simp only[Dv.repC] at hr⊢;exact h.repA hr
 |_,_,.list h,_,hr=>by
  simp only[Dv.repC] at hr⊢
  obtain⟨a,cap,e,hc,hor⟩:=hr
  rw[h.length]
  refine⟨a,cap,e,hc,?_⟩
  rcases hor with rfl|⟨b,off,sz,us,h1,h2,h3,h4⟩
  ·left;cases h;rfl
  ·exact .inr ⟨b,off,sz,us,h1,h2,h3,h.repE h4⟩
 |_,_,.ref h,_,hr=>by
  simp only[Dv.repC] at hr⊢
  obtain⟨b,off,us,e,hi,hx⟩:=hr
  exact⟨b,off,us,e,hi,h.repC hx⟩
theorem jz.repA{M:dy}:∀{xs ys:List V},jz xs ys->∀{us:List yz},Dv.repA M xs us->Dv.repA M ys us
 |_,_,.nil,_,h=>h
 |_,_,.cons h hs,_,hr=>by
  simp only[Dv.repA] at hr⊢
  obtain⟨u,us',e,ha,h1,h2⟩:=hr
  exact⟨u,us',e,by rw[h.isAgg];exact ha,h.repC h1,hs.repA h2⟩
theorem jz.repE{M:dy}{sz:Nat}:∀{xs ys:List V},jz xs ys->∀{us:List yz},Dv.repE M sz xs us->Dv.repE M sz ys us
 |_,_,.nil,_,h=>h
 |_,_,.cons h hs,_,hr=>by
  simp only[Dv.repE] at hr⊢
  obtain⟨u1,u2,e,hl,h1,h2⟩:=hr
  exact⟨u1,u2,e,hl,h.repC h1,hs.repE h2⟩
end
theorem VS.repV{M:dy}{x y:V}(h:VS x y){u:yz}(hr:repV M x u):Dv.repV M y u:=by
 obtain⟨ws,h1,h2⟩:=hr
 refine⟨ws,h.repC h1,?_⟩
 rw[h2]
 cases h<;>rfl
inductive DS:D->D->Prop
 |same (d:D):DS d d
 |v {x y:V} (h:VS x y):DS (.v x) (.v y)
 |gro {q len sz:Nat}:DS (.gro q len sz) (.arr q 0 len)
 |acc {k:Nat} {xs:List V}:DS (.acc k xs) (.v (.list xs))
inductive DSL:List D->List D->Prop
 |nil:DSL [] []
 |cons {d e:D} {ds es:List D} (h:DS d e) (hs:DSL ds es):DSL (d::ds) (e::es)
theorem DS.rep{g:Gh}{d e:D}(h:DS d e){u:yz}(hr:Ag g d u):Ag g e u:=by
 cases h with
 |same=>exact hr
 |v h=>simp only[Ag] at hr⊢;exact h.repV hr
 |gro=>
  grind[Ag]
 |acc=>grind[Ag]
theorem DSL.rep{g:Gh}:∀{ds es:List D},DSL ds es->∀{us:List yz},Af g ds us->Af g es us
 |_,_,.nil,_,h=>h
 |_,_,.cons h hs,_,hr=>by
  simp only[Af] at hr⊢
  obtain⟨u,us',e,h1,h2⟩:=hr
  exact⟨u,us',e,h.rep h1,hs.rep h2⟩
theorem DSL.refl:∀ds:List D,DSL ds ds
 |[]=>.nil
 |d::ds=>.cons (.same d) (DSL.refl ds)
theorem Aa.sub{P:x7}{f:yx}{ds es:List D}{σ σ':St}{d e:D}(h:Aa P f es σ d σ')(hs:DSL ds es)(hd:DS d e):Aa P f ds σ e σ':=by
 refine⟨h.1,fun g w args hw hargs=>Calls.mono (h.2 g w args hw (hs.rep hargs)) ?_⟩
 rintro x w' ⟨u,g',rfl,hw',hr⟩
 exact⟨u,g',rfl,hw',hd.rep hr⟩
theorem AhM{env env':List D}{σ:St}(h:DSL env env'):Cv env σ env' σ:=fun _ g _ _ hf=>⟨g,hf.wi,h.rep hf.env,hf.defers⟩
section
variable {P : x7} {o : yy} {σ : St}
theorem Q8{op:BinOp}{t ty e:x6}{x:x8}(ho:o.op=.binOp op t x (.const (.slice none 0 0)) ty)(hu:P.underlying t=G (.slice e))(hop:op=.eql∨op=.neq)(ρ:x8->yz)(w:x5){a:Option Addr}{len cap:Nat}(e1:ρ x=.slice a len cap)(e2:ρ (.const (.slice none 0 0))=.slice none 0 0):
  (execOp ρ o).run P w=.ok (.value (.bool (if op=.eql then a.isNone else !a.isNone))) w:=by
 have heq:(Op.equal t (.slice a len cap) (.slice none 0 0)).run P w=.ok a.isNone w:=by
  have gen:∀d,(Op.equalIn (d+1) t (.slice a len cap) (.slice none 0 0)).run P w=.ok a.isNone w:=fun d=>by
   cases a<;>simp[Op.equalIn,run_underlying hu]
  exact gen 9999
 rcases hop with rfl|rfl<;>simp[execOp,ho,e1,e2,eqGuard,binOp,heq]
theorem M0{t:x6}{parts:Array (Nat×x8)}(ho:o.op=.buildSlice t 0 parts)(hp:parts= #[]){e:x6}{sz by':Nat}{z:Option yz}(hs:BR P t=G (e,sz,by',z)):
  Ah P o [] σ (.gro (I σ.H) 0 sz) ⟨σ.H++[G []],σ.own⟩:=by
 intro E g a w K Q hw hds hK
 obtain⟨i,hu,hi,rfl,rfl,rfl⟩:=AE hs
 subst hp
 obtain⟨g',h3,h4,h5,h6,h7⟩:=hw.newObjR (us:=[]) (rest:=[]) (cs:=[]) e (by rfl) (by simp)
 have:=hK g' _ (.slice (G ⟨w.heap.size,0,none⟩) 0 0) h3 h4 (by
  grind[Ag])
 unfold Oper.wp execOp
 simpa[ho,Instr.buildSlice,run_underlying hu,sizeOf,typeInfo,hi,Instr.fill,newRow,Oper.upon,show Array.range 0= #[] from rfl] using this
theorem EP{c:Call}{fo:x8}(ho:o.op=.call c)(hc:c.callee=.value fo){f:yx}{fs cs:List V}{ds:List D}(hp:D.pls ds=J){Hc:List (Option (List D))}{j:Nat}{os:List D}(hj:Hc[j]?=G (G os))(hos:D.pls os=J){len:Nat}
  (hspec:Aa P f (fs.map .v++ds++cs.map .v) ⟨[],[]⟩ (.arr j 0 len) ⟨Hc,[]⟩):Ah P o (.v (.fn f fs cs)::ds) σ (.arr (I σ.H) 0 len) ⟨σ.H++[G os],σ.own⟩:=by
 intro E g a w K Q hw hds hK
 obtain⟨us,vs,ws,hf,hargs,h1,h2,h3⟩:=DQ ho hc hds
 refine Gz (_E:=E) (_g:=g) ho hc hspec.1 hf hargs ?_
 have hargs':Af { M:=g.M,β:=g.β,n:=0,ι:=fun _ _=>none,κ:=g.κ } (fs.map .v++ds++cs.map .v) (us++ws++vs):=
  BJ (by rfl) (by grind[Ds,Ca]) (Aw (Aw h1 h3) h2)
 refine Calls.mono (hspec.2 _ w _ hw.rep.empty hargs') ?_
 rintro e w' ⟨u,g',rfl,hw',hr⟩
 obtain⟨h4,h5⟩:=hw.back0 (by rfl) hw'
 simp only[Ag] at hr
 obtain⟨vs',rest',e',hb,hrv,hone,hMn,_⟩:=hw'.rep.obj j os hj
 have hge:w.heap.size<=g'.β j:=by
  rcases hw'.objs j os hj with h|h
  all_goals grind[GV]
 obtain⟨h6,h7⟩:=h4.addObj (b:=g'.β j) (us:=vs') (rest:=rest') (e:=e') (cs:=os) hb (.inl (IE hw.size hge)) hMn
  (fun i cs hi=>by have:=hw.rep.obj_lt hi;grind) (fun x hx v hv hvb=>by have:=hw.rep.own_lt hx hv hvb;omega) (BJ (by rfl) hos hrv) hone
 refine⟨u,rfl,hK _ _ _ h6 (Gh.le_trans h5 h7) ?_⟩
 simp only[Ag]
 obtain⟨_,cap,hcap,rfl⟩:=hr
 exact⟨by rw[hw.rep.n];omega,cap,hcap,by rw[hw.rep.n];simp⟩
end
end Go.Dv

namespace Go.Nv
open Go.Dv
open Go.IntKind (u64)
open Go.IntKind renaming wrap → yu, i64 → yt
open List renaming length → I, map → U, drop → W
open Option renaming some → G
open Bool renaming true → J, false → O
open Decidable renaming decide → Y
open Int renaming toNat → Z
open Go.Dv.V renaming list → ai, str → ae, agg → ab, int → aa, ref → bz, fn → bw, nils → bv, bool → bu
open Go.Dv.D renaming v → bt, acc → br, ptr → bq, arr → bo, gro → bm, tup → bk, undef → bj, dagg → bi
open Go.Dv.St renaming mk → bh
open Go.Dv.KI renaming blk → bf
open _root_.ByteArray renaming mk → bc
open Go renaming Operand → x8, Program → x7, TypeId → x6, World → x5, Value → yz, Oper → yy, FuncId → yx, Func → yw, IntKind → yv
abbrev vi(n:Int):V:=.int .i64 n
abbrev di(n:Int):D:=.v (.int .i64 n)
abbrev db(b:Bool):D:=.v (.bool b)
abbrev vb(c:UInt8):V:=.int .u8 c.toNat
abbrev ds(s:List UInt8):D:=.v (.str s)
abbrev nV:List V:=[]
abbrev iz(n:Int):Int:=n
inductive ApF where
 |x (v:V)                                  -- the element of a list
 |xs (v:V)                                 -- the same,of a size to be shown
 |y (c:UInt8)                              -- a byte of a string
 |c (d:D)                                  -- what a call returns (data)
 |ca (xs:List V) (d:D)                   -- the same;the arguments as the contract has them
 |c1 (os:List D) (d:D)                   -- a call that is handed one object:its cells behind
 |c1k (k k' sz:Nat) (os:List D) (xs:List V)  -- the same;it returns an owned list
 |ck (k k' sz:Nat) (xs:List V)           -- a call that returns an owned list
 |ckn (k k' sz:Nat) (xs:List V)          -- the same,handed nil
 |k                                          -- a truth value that is known
 |t
 |f
 |l (sl:List (Nat×Option D)) (σ:Option St)   -- a loop's head:what is known there
 |lo (sl:List (Nat×Option D)) (σ:St)   -- the same,with open cells
 |n                                          -- into a loop
 |m (d:D)                                  -- a cell
 |w                                          -- a write to an open place
 |ww                                         -- the same,of a struct
 |cs (σ:St)                                -- the state,seen otherwise
 |ct (t:Nat) (d:D) (σ:St)              -- a slot and the state,seen otherwise
 |oc (d:D) (σ:St)                        -- any call
 |gx (cs:List D) (H:List (Option (List D)))  -- a growing list is appended to,in a state that is not known whole
 |o (d:D) (σ:St)                         -- any operation
 |p (d:D)                                  -- any operation that leaves the state as it is
 |g                                          -- an empty literal that grows
 |ga (s:Nat)                               -- a list that grew,as an array
 |cj (j:Nat) (H:List (Option (List D))) (os:List D) (len:Nat)   -- a call that returns a new array
 |un (s:Nat)                               -- a slot's list is appended to no longer
 |dr (k:Nat)                               -- a list's right to be appended to is given up
 |fa (q:Nat) (ss:List Nat)               -- a struct or array becomes data,seen from G slots
 |f1 (q:Nat) (ss:List Nat)               -- a variable of one cell becomes data
 |fl (q s:Nat) (xs:List V)               -- a list of one-cell elements becomes data
 |q (r i:Nat)                              -- nothing before operation i of region r
 |cl (q j k sz:Nat)                        -- a cell's nil may be appended to
 |nw (s k sz:Nat)                          -- a slot's nil may be appended to
 |a (k:Nat)                                -- a list that is made may be appended to
 |s (sl:List (Nat×Option D))             -- the walk stops ahead of an operation
 |r
 |rn
 |ro
 |rd                                         -- a return of structs with lists of their own
inductive Sc:Type 1 where
 |z
 |e {A:Type} (f:A->Sc)
 |b (s t:Sc)
 |h (i:ApF) (s:Sc)
namespace Sc
abbrev x(v:V)(s:Sc):Sc:=.h (.x v) s
abbrev y(c:UInt8)(s:Sc):Sc:=.h (.y c) s
abbrev c(d:D)(s:Sc):Sc:=.h (.c d) s
abbrev ca(xs:List V)(d:D)(s:Sc):Sc:=.h (.ca xs d) s
abbrev c1(os:List D)(d:D)(s:Sc):Sc:=.h (.c1 os d) s
abbrev k(s:Sc):Sc:=.h .k s
abbrev t(s:Sc):Sc:=.h .t s
abbrev f(s:Sc):Sc:=.h .f s
abbrev a(k:Nat)(s:Sc):Sc:=.h (.a k) s
abbrev n(s:Sc):Sc:=.h .n s
abbrev m(d:D)(s:Sc):Sc:=.h (.m d) s
abbrev w(s:Sc):Sc:=.h .w s
abbrev q(r i:Nat)(h:ApF)(s:Sc):Sc:=.h (.q r i) (.h h s)
abbrev r:Sc:=.h .r .z
abbrev rn:Sc:=.h .rn .z
abbrev ro:Sc:=.h .ro .z
abbrev rd:Sc:=.h .rd .z
abbrev lo(sl:List (Nat×Option D))(σ:St):Sc:=.h (.lo sl σ) .z
abbrev l(sl:List (Nat×Option D)):Sc:=.h (.l sl none) .z
abbrev ls(sl:List (Nat×Option D))(σ:St):Sc:=.h (.l sl (G σ)) .z
end Sc
noncomputable def AW{α β:Type}(l:List α)(k:List α->β):β:=
 List.rec (motive:=fun _=>(List α->β)->β) (fun k=>k []) (fun a _ ih k=>ih fun r=>k (a::r)) l k
theorem AQ{α β:Type}:∀(l:List α) (k:List α->β),AW l k=k l
 |[],_=>rfl
 |a::l,k=>by
  have h:AW (a::l) k=AW l fun r=>k (a::r):=rfl
  rw[h,AQ l]
noncomputable def CR{α β:Type}(l:List α)(i:Nat)(x:α)(k:List α->β):β:=
 List.rec (motive:=fun _=>Nat->(List α->β)->β) (fun _ k=>k []) (fun a t ih i k=>Nat.rec (motive:=fun _=>β) (k (x::t)) (fun j _=>ih j fun r=>k (a::r)) i) l i k
theorem B8{α β:Type}(x:α):∀(l:List α) (i:Nat) (k:List α->β),CR l i x k=k (l.set i x)
 |[],_,_=>rfl
 |a::l,0,k=>rfl
 |a::l,i+1,k=>by
  have h:CR (a::l) (i+1) x k=CR l i x fun r=>k (a::r):=rfl
  rw[h,B8 x l];rfl
noncomputable def DE{β:Type}(env:List D)(t:Option Tmp)(d:D)(k:List D->β):β:=match t with
 |some t=>CR env t d k
 |none=>k env
theorem DF{β:Type}(env:List D)(t:Option Tmp)(d:D)(k:List D->β):DE env t d k=k (B5 env t d):=by
 cases t<;>grind[B8,DE,B5]
noncomputable def AL{α β:Type}(l:List α)(x:α)(k:List α->β):β:=
 List.rec (motive:=fun _=>(List α->β)->β) (fun k=>k [x]) (fun a _ ih k=>ih fun r=>k (a::r)) l k
theorem AK{α β:Type}(x:α):∀(l:List α) (k:List α->β),AL l x k=k (l++[x])
 |[],_=>rfl
 |a::l,k=>by
  have h:AL (a::l) x k=AL l x fun r=>k (a::r):=rfl
  rw[h,AK x l];rfl
noncomputable def cy(n:Nat)(L:List (Nat×D)):List D:=L.foldl (fun e p=>e.set p.1 p.2) (List.replicate n .undef)
def Aok:yz->D
 |.slice none 0 0=>.v .nils
 |u=>Ou u
noncomputable def lm(env:List D):x8->D
 |.tmp t=>env.getD t .undef
 |.const u=>Aok u
 |.global n=>AfV n
 |.func f=>.v (.fn f [] [])
theorem Vn{g:Gh}{u:yz}:Ag g (Aok u) u:=by
 unfold Aok
 split
 ·simp[Ag]
 grind[NN]
theorem AeL{g:Gh}{env:List D}{a:Act}(hG:Gu g.M)(h:Af g env a.tmps.toList)(x:x8):Ag g (lm env x) (a.eval x):=by
 cases x with
 |tmp t=>exact Ge h t
 |const u=>exact Vn
 |global n=>exact Mo hG h (.global n)
 |func f=>exact Mo hG h (.func f)
theorem QF{g:Gh}{env:List D}{a:Act}(hG:Gu g.M)(h:Af g env a.tmps.toList):∀(l:List x8),Af g (l.map (lm env)) (l.map a.eval)
 |[]=>by simp[Af]
 |x::l=>by simp only[Ik,Af];exact⟨_,_,rfl,AeL hG h x,QF hG h l⟩
def kq(a b:yv):Bool:=Y (a=b)
noncomputable def AnW(P:x7)(op:BinOp)(t:x6)(x y:V)(K:V->Prop):Prop:=
 match x,y with
 |.int kd a,.int kd' b=>
  match op with
  |.quo=>cond (kq kd kd') (b≠0/\K (.int kd (kd.wrap (a.tdiv b)))) False
  |.rem=>cond (kq kd kd') (b≠0/\K (.int kd (a.tmod b))) False
  |.shl=>0<=b/\K (.int kd (kd.wrap (a*2^(min b.toNat kd.bits))))
  |.shr=>0<=b/\K (.int kd (a.fdiv (2^(min b.toNat kd.bits))))
  |op=>cond (kq kd kd') (match Apm op kd a b with|G z=>K z|none=>False) False
 |.str a,.str b=>
  match op with
  |.add=>I a+I b<=9223372036854775807/\K (.str (a++b))
  |op=>match xw op a b with|G z=>K z|none=>False
 |.bool a,.bool b=>match P.underlying t with
  |some .bool=>match op with
   |.eql=>K (.bool (a==b))
   |.neq=>K (.bool (a !=b))
   |_=>False
  |_=>False
 |_,_=>False
theorem Ar{b:Bool}{x:Prop}(h:cond b x False):b=J/\x:=by grind
theorem Ain{P:x7}{op:BinOp}{t ty:x6}{x y:V}{K:V->Prop}(h:AnW P op t x y K){o:yy}{a b:x8}(ho:o.op=.binOp op t a b ty):
  ∃z,K z/\∀σ,Ah P o [.v x,.v y] σ (.v z) σ:=by
 unfold AnW at h
 split at h
 ·rename_i kd a kd' b
  split at h
  ·obtain⟨e,hb,h'⟩:=Ar h
   have e:=HT e;subst e
   exact⟨_,h',fun σ=>AaL ho rfl hb⟩
  ·obtain⟨e,hb,h'⟩:=Ar h
   have e:=HT e;subst e
   exact⟨_,h',fun σ=>AaL ho rfl hb⟩
  ·exact⟨_,h.2,fun σ=>Ahy ho rfl h.1⟩
  ·exact⟨_,h.2,fun σ=>Ahy ho rfl h.1⟩
  ·obtain⟨e,h'⟩:=Ar h
   have e:=HT e;grind[KA]
 all_goals grind[AaR,AiS,AiQ]
noncomputable def D8:List D->Option (List V)
 |[]=>G []
 |.v x::ds=>match D8 ds with
  |some xs=>G (x::xs)
  |none=>none
 |.acc _ xs::ds=>match D8 ds with
  |some ys=>G (.list xs::ys)
  |none=>none
 |_::_=>none
theorem GR:∀{ds:List D} {xs:List V},D8 ds=G xs->Fv ds=G xs
 |[],xs,h=>by simpa[D8,Fv] using h
 |d::ds,xs,h=>by
  cases d<;>simp only[D8] at h<;>first|(split at h<;>first|(rename_i h1;simp at h;subst h;simp[Fv,D.toV,GR h1])|simp at h)|simp at h
noncomputable def nr:List (Nat×x8)->List D->Option (List (Nat×V))
 |[],[]=>G []
 |p::ps,.v x::ds=>match nr ps ds with
  |some xs=>G ((p.1,x)::xs)
  |none=>none
 |p::ps,.acc _ l::ds=>match nr ps ds with
  |some xs=>G ((p.1,.list l)::xs)
  |none=>none
 |_,_=>none
theorem YQ:∀{ps:List (Nat×x8)} {ds:List D} {xs:List (Nat×V)},nr ps ds=G xs->Dm ps ds=G xs
 |[],[],xs,h=>by simpa[nr,Dm] using h
 |[],_::_,xs,h=>by simp[nr] at h
 |_::_,[],xs,h=>by simp[nr] at h
 |p::ps,d::ds,xs,h=>by
  obtain⟨i,q⟩:=p
  cases d<;>simp only[nr] at h<;>first|(split at h<;>first|(rename_i h1;simp at h;subst h;simp[Dm,D.toV,YQ h1])|simp at h)|simp at h
def ut:List (Nat×x8)->Nat->Bool
 |[],_=>true
 |p::ps,i=>Nat.beq p.1 i&&ut ps (Nat.succ i)
theorem SL:∀{ps:List (Nat×x8)} {i:Nat},ut ps i=J->ps=((ps.map (·.2)).zipIdx i).map fun x=>(x.2,x.1)
 |[],i,_=>rfl
 |p::ps,i,h=>by
  simp only[ut,HJ] at h
  have h1:=Ii h.1
  simp only[Ik,List.zipIdx_cons]
  rw[←SL h.2]
  cases p;simp_all
noncomputable def u9(sz:Nat)(xs:List V):Bool:=xs.all fun x=>Nat.beq x.size sz
theorem LL{sz:Nat}{xs:List V}(h:u9 sz xs=J):∀x∈xs,x.size=sz:=fun x hx=>Ii (I5.1 h x hx)
noncomputable def W6(cs:List V)(fo n:Nat)(b:Bool)(K:V->Prop):Prop:=match b with
 |true=>cond (Nat.ble (fo+n) (I cs)) (K (.agg ((cs.drop fo).take n))) False
 |false=>match cs[fo]? with
  |some y=>K y
  |none=>False
theorem TU{cs:List V}{fo n:Nat}{b:Bool}{K:V->Prop}(h:W6 cs fo n b K):∃y,K y/\Mt cs fo n b=G y:=by
 unfold W6 at h
 grind[Mt,Nat.le_of_ble_eq_true]
noncomputable def xp(P:x7)(s:x6)(f:Nat)(cs:List V)(K:V->Prop):Prop:=match Rh P s f with
 |some (fo,1,false)=>W6 cs fo 1 false K
 |some (fo,n+1,true)=>W6 cs fo (n+1) true K
 |_=>False
noncomputable def xn(P:x7)(t:x6)(cs:List V)(i:Int)(K:V->Prop):Prop:=match ow P t with
 |some (len,1,false)=>0<=i/\i<len/\W6 cs (i.toNat*1) 1 false K
 |some (len,n,true)=>0<=i/\i<len/\W6 cs (i.toNat*n) n true K
 |_=>False
theorem Zo{P:x7}{t:x6}{cs:List V}{i:Int}{K:V->Prop}(h:xn P t cs i K):
  ∃y len sz b,K y/\ow P t=G (len,sz,b)/\(b=O->sz=1)/\0<=i/\i<len/\Mt cs (i.toNat*sz) sz b=G y:=by
 grind[xn,TU]
noncomputable def vp(n:Nat)(l h:Option Int)(K:Nat->Nat->Prop):Prop:=match l,h with
 |none,none=>K 0 n
 |some l,none=>0<=l/\l<=n/\K l.toNat n
 |none,some h=>0<=h/\h<=n/\K 0 h.toNat
 |some l,some h=>0<=l/\l<=h/\h<=n/\K l.toNat h.toNat
theorem Ahn{n:Nat}{l h:Option Int}{K:Nat->Nat->Prop}(hh:vp n l h K):∃a b,K a b/\C9 n l h=G (a,b):=by
 unfold vp at hh
 grind[C9]
def Cs(P:x7)(o:yy)(ds:List D)(K:Sc->D->Prop):Prop:=∃s d,K s d/\∀σ,Ah P o ds σ d σ
theorem Cs.v{P:x7}{o:yy}{ds:List D}{K:Sc->D->Prop}{s:Sc}{z:V}(hk:K s (.v z))(h:∀σ,Ah P o ds σ (.v z) σ):Cs P o ds K:=⟨s,_,hk,h⟩
def AfN:x8->Bool
 |.const (.slice none 0 0)=>true
 |_=>false
theorem V2{x:x8}(h:AfN x=J):x=.const (.slice none 0 0):=by
 grind[AfN]
noncomputable def AnV(P:x7)(op:BinOp)(t:x6)(b:x8)(x:V)(K:V->Prop):Prop:=cond (AfN b) (match P.underlying t with
 |some (.slice _)=>match op,x with
  |.eql,.list xs=>xs≠ []/\K (.bool false)
  |.neq,.list xs=>xs≠ []/\K (.bool true)
  |.eql,.nils=>K (.bool true)
  |.neq,.nils=>K (.bool false)
  |_,_=>False
 |_=>False) False
theorem Pv{P:x7}{o:yy}{op:BinOp}{t ty e:x6}{a:x8}(ho:o.op=.binOp op t a (.const (.slice none 0 0)) ty)(hu:P.underlying t=G (.slice e))(hop:op=.eql∨op=.neq){x:V}{isn:Bool}
  (hx:∀M u,repV M x u->∃ad len cap,u=.slice ad len cap/\ad.isNone=isn) (σ:St):Ah P o [.v x,.v .nils] σ (.v (.bool (if op=.eql then isn else !isn))) σ:=by
 intro E g ac w K Q hw hds hK
 simp only[ho,Op.operands] at hds
 obtain⟨u,v,eq,h1,h2⟩:=Au.1 hds
 simp only[Ik,IF,HV,Ix] at eq
 simp only[Ag] at h1
 obtain⟨ad,len,cap,rfl,rfl⟩:=hx _ _ h1
 have hrun:=Q8 (P:=P) ho hu hop ac.eval w eq.1 rfl
 have:=hK g w (.bool (if op=.eql then ad.isNone else !ad.isNone)) hw g.le_refl (by simp[Ag])
 unfold Oper.wp
 rw[hrun]
 exact this
theorem Vm{xs:List V}(hx:xs≠ [])(M:dy)(u:yz)(h:repV M (.list xs) u):∃ad len cap,u=.slice ad len cap/\ad.isNone=O:=by
 grind[B4]
theorem Vl(M:dy)(u:yz)(h:repV M .nils u):∃ad len cap,u=.slice ad len cap/\ad.isNone=J:=by
 simp_all
theorem Aij{P:x7}{op:BinOp}{t ty:x6}{x:V}{a b:x8}{K:V->Prop}(h:AnV P op t b x K){o:yy}(ho:o.op=.binOp op t a b ty):∃z,K z/\∀σ,Ah P o [.v x,.v .nils] σ (.v z) σ:=by
 unfold AnV at h
 obtain⟨h1,h2⟩:=Ar h
 have hb:=V2 h1;subst hb
 split at h2
 ·rename_i e hu
  split at h2
  ·exact⟨_,h2.2,fun σ=>Pv ho hu (.inl rfl) (Vm h2.1) σ⟩
  ·exact⟨_,h2.2,fun σ=>Pv ho hu (.inr rfl) (Vm h2.1) σ⟩
  ·exact⟨_,h2,fun σ=>Pv ho hu (.inl rfl) Vl σ⟩
  ·exact⟨_,h2,fun σ=>Pv ho hu (.inr rfl) Vl σ⟩
  grind
 grind
noncomputable def AnU(P:x7)(op:BinOp)(t:x6)(b:x8)(isn:Bool)(K:V->Prop):Prop:=cond (AfN b) (match P.underlying t with
 |some (.slice _)=>(match op with
  |.eql=>K (.bool isn)
  |.neq=>K (.bool !isn)
  |_=>False)
 |_=>False) False
theorem Aii{P:x7}{op:BinOp}{t ty:x6}{y:V}{ad:Option Addr}{len cap:Nat}{a b:x8}{K:V->Prop}(h:AnU P op t b ad.isNone K){o:yy}(ho:o.op=.binOp op t a b ty):∃z,K z/\∀σ,Ah P o [.rv y (.slice ad len cap),.v .nils] σ (.v z) σ:=by
 unfold AnU at h
 obtain⟨h1,h2⟩:=Ar h
 have hb:=V2 h1;subst hb
 have main:∀{e:x6},P.underlying t=G (.slice e)->op=.eql∨op=.neq->∀σ,Ah P o [.rv y (.slice ad len cap),.v .nils] σ (.v (.bool (if op=.eql then ad.isNone else !ad.isNone))) σ:=by
  intro e hu hop σ E g ac w K Q hw hds hK
  simp only[ho,Op.operands] at hds
  obtain⟨u,v,eq,h1,h2⟩:=Au.1 hds
  simp only[Ik,IF,HV,Ix] at eq
  simp only[Ag] at h1
  obtain⟨rfl,_⟩:=h1
  have hrun:=Q8 (P:=P) ho hu hop ac.eval w eq.1 rfl
  have:=hK g w (.bool (if op=.eql then ad.isNone else !ad.isNone)) hw g.le_refl (by simp[Ag])
  unfold Oper.wp
  rw[hrun]
  exact this
 grind
theorem U7{P:x7}{f:yx}{ds ds':List D}{σ σ':St}{d:D}(h:∀a cap,Aa P f (ds++ .rv (.list []) (.slice a 0 cap)::ds') σ d σ'):Aa P f (ds++ .v (.list [])::ds') σ d σ':=by
 refine⟨(h none 0).1,fun g w args hw hargs=>?_⟩
 have split:∀{ds:List D} {us:List yz},Af g (ds++ .v (.list [])::ds') us->∃a cap,Af g (ds++ .rv (.list []) (.slice a 0 cap)::ds') us:=by
  intro ds
  induction ds<;>grind[Af,Ag,B4]
 obtain⟨a,cap,h5⟩:=split hargs
 exact(h a cap).2 g w args hw h5
noncomputable def OZ:List D->Option (List V)
 |[]=>G []
 |.v .nils::ds=>match OZ ds with
  |some xs=>G (.list []::xs)
  |none=>none
 |.v x::ds=>match OZ ds with
  |some xs=>G (x::xs)
  |none=>none
 |.acc _ xs::ds=>match OZ ds with
  |some ys=>G (.list xs::ys)
  |none=>none
 |_::_=>none
theorem FR{g:Gh}{u:yz}(h:Ag g (.v .nils) u):Ag g (.v (.list [])) u:=by
 grind[Ag,CI,DD]
theorem FQ{g:Gh}:∀{ds:List D} {xs:List V} {us:List yz},OZ ds=G xs->Af g ds us->Af g (xs.map .v) us
 |[],xs,us,h,hr=>by simp[OZ] at h;subst h;simpa using hr
 |d::ds,xs,us,h,hr=>by
  simp only[Af] at hr
  obtain⟨u,us',rfl,h1,h2⟩:=hr
  unfold OZ at h
  split at h
  ·rename_i e;simp at e
  ·rename_i ds' e;simp only[HV] at e;obtain⟨rfl,rfl⟩:=e
   split at h
   ·rename_i ys hy;simp at h;subst h
    simp only[Ik,Af];exact⟨_,_,rfl,FR h1,FQ hy h2⟩
   ·simp at h
  ·rename_i x ds' e;simp only[HV] at e;obtain⟨rfl,rfl⟩:=e
   split at h
   ·rename_i ys hy;simp at h;subst h
    simp only[Ik,Af];exact⟨_,_,rfl,h1,FQ hy h2⟩
   ·simp at h
  ·rename_i k l ds' e;simp only[HV] at e;obtain⟨rfl,rfl⟩:=e
   split at h
   ·rename_i ys hy;simp at h;subst h
    simp only[Ik,Af];exact⟨_,_,rfl,Po h1,FQ hy h2⟩
   ·simp at h
  ·simp at h
theorem LU{g:Gh}{ds:List D}{xs:List V}{us:List yz}(h:D8 ds=G xs)(hr:Af g ds us):Af g (xs.map .v) us:=
 H6 (Pn (GR h) hr)
noncomputable def AdQ(P:x7)(f:yx)(fs cs:List V)(ds:List D)(s:Sc)(K:Sc->D->Prop):Prop:=match s with
 |.h (.c d) s=>cond d.pl (match OZ ds with
  |some xs=>Aa P f ((fs++xs++cs).map .v) ⟨[],[]⟩ d ⟨[],[]⟩/\K s d
  |none=>False) False
 |.h (.ca ys d) s=>cond d.pl (match D8 ds with
  |some xs=>jz (fs++xs++cs) ys/\Aa P f (ys.map .v) ⟨[],[]⟩ d ⟨[],[]⟩/\K s d
  |none=>False) False
 |_=>False
theorem AmS:∀{xs ys:List V},jz xs ys->Dv.DSL (xs.map .v) (ys.map .v)
 |_,_,.nil=>.nil
 |_,_,.cons h hs=>.cons (.v h) (AmS hs)
theorem TW{P:x7}{f:yx}{fs cs:List V}{ds:List D}{s:Sc}{K:Sc->D->Prop}(h:AdQ P f fs cs ds s K){o:yy}{c:Call}{fo:x8}(ho:o.op=.call c)(hc:c.callee=.value fo):
  Cs P o (.v (.fn f fs cs)::ds) K:=by
 unfold AdQ at h
 split at h
 ·rename_i d s
  obtain⟨h1,h2⟩:=Ar h
  split at h2
  ·rename_i xs hx
   refine⟨_,_,h2.2,fun σ=>BQ (fun g us hr=>?_) (Py (d:=d) (ds:=xs.map .v) ho hc (Ca xs) h1 (by simpa[IZ] using h2.1))⟩
   grind[Af,FQ]
  grind
 ·rename_i ys d s
  obtain⟨h1,h2⟩:=Ar h
  split at h2
  ·rename_i xs hx
   obtain⟨h3,h4,h5⟩:=h2
   have h4':=h4.sub (e:=d) (by simpa using AmS h3) (.same d)
   refine⟨_,_,h5,fun σ=>BQ (fun g us hr=>?_) (Py (d:=d) (ds:=xs.map .v) ho hc (Ca xs) h1 (by simpa[IZ] using h4'))⟩
   grind[Af,LU]
  grind
 grind
noncomputable def OX(P:x7)(c:Call)(ds:List D)(K:V->Prop):Prop:=match c.callee,ds with
 |.builtin .len,[.v (.list xs)]=>match c.args.toList,c.argTypes.toList with
  |[_],[t]=>match P.underlying t with
   |some (.slice _)=>K (.int .i64 (I xs))
   |_=>False
  |_,_=>False
 |.builtin .len,[.v .nils]=>match c.args.toList,c.argTypes.toList with
  |[_],[t]=>match P.underlying t with
   |some (.slice _)=>K (.int .i64 0)
   |_=>False
  |_,_=>False
 |.builtin .len,[.arr _ _ n]=>match c.args.toList,c.argTypes.toList with
  |[_],[t]=>match P.underlying t with
   |some (.slice _)=>K (.int .i64 n)
   |_=>False
  |_,_=>False
 |.builtin .len,[.gro _ n _]=>match c.args.toList,c.argTypes.toList with
  |[_],[t]=>match P.underlying t with
   |some (.slice _)=>K (.int .i64 n)
   |_=>False
  |_,_=>False
 |.builtin .len,[.v (.str s)]=>match c.args.toList,c.argTypes.toList with
  |[_],[t]=>match P.underlying t with
   |some .string=>K (.int .i64 (I s))
   |_=>False
  |_,_=>False
 |.builtin .max,[.v (.int kd a),.v (.int ke b)]=>match c.args.toList with
  |[_,_]=>cond (kq kd ke) (K (.int kd (if b>a then b else a))) False
  |_=>False
 |.builtin .min,[.v (.int kd a),.v (.int ke b)]=>match c.args.toList with
  |[_,_]=>cond (kq kd ke) (K (.int kd (if b<a then b else a))) False
  |_=>False
 |_,_=>False
theorem Sz{P:x7}{c:Call}{ds:List D}{K:V->Prop}(h:OX P c ds K){o:yy}(ho:o.op=.call c):∃z,K z/\∀σ,Ah P o ds σ (.v z) σ:=by
 have mk1:∀{b:Builtin} {x:x8} {t:x6},c.callee=.builtin b->c.args.toList=[x]->c.argTypes.toList=[t]->o.op=.call { callee:=.builtin b,args:= #[x],argTypes:= #[t]}:=by
  intro b x t hc h1 h2
  rw[ho];cases c;simp only at hc h1 h2;subst hc
  congr 2
  all_goals grind
 have mk2:∀{b:Builtin} {x y:x8},c.callee=.builtin b->c.args.toList=[x,y]->o.op=.call { callee:=.builtin b,args:= #[x,y],argTypes:=c.argTypes }:=by
  intro b x y hc h1
  rw[ho];cases c;simp only at hc h1;subst hc
  congr 2
  grind
 unfold OX at h
 split at h
 ·rename_i xs hc
  split at h
  all_goals grind[K8]
 ·rename_i hc
  split at h
  ·rename_i x t h1 h2
   split at h
   ·rename_i e hu
    refine⟨_,h,fun σ=>BQ (fun g us hr=>?_) (K8 (xs:=[]) (mk1 hc h1 h2) hu)⟩
    grind[FR,Af]
   grind
  grind
 ·rename_i q off n hc
  split at h
  all_goals grind[Px]
 ·rename_i q n sz hc
  split at h
  ·rename_i x t h1 h2
   split at h
   ·rename_i e hu
    refine⟨_,h,fun σ=>BQ (fun g us hr=>?_) (Px (q:=q) (off:=0) (mk1 hc h1 h2) hu)⟩
    grind[Ag,Af]
   grind
  grind
 ·rename_i xs hc
  split at h
  all_goals grind[AiL]
 ·rename_i kd a ke b hc
  split at h
  ·rename_i x y h1
   obtain⟨e,h2⟩:=Ar h
   have e:=HT e;grind[Al0]
  grind
 ·rename_i kd a ke b hc
  split at h
  ·rename_i x y h1
   obtain⟨e,h2⟩:=Ar h
   have e:=HT e;grind[Alz]
  grind
 grind
noncomputable def Ahp(P:x7)(t:x6)(ps:List (Nat×x8))(ds:List D)(s:Sc)(K:Sc->V->Prop):Prop:=match s with
 |.h .rn s=>(match Apl P t,nr ps ds with
  |some (z,ay),some xs=>(match Hd (ay[·]?) z xs with
   |some out=>AW out fun out=>K s (.agg out)
   |none=>False)
  |_,_=>False)
 |s=>(match Yy P t,nr ps ds with
  |some (z,ay),some xs=>(match Hd (ay[·]?) z xs with
   |some out=>AW out fun out=>K s (.agg out)
   |none=>False)
  |_,_=>False)
noncomputable def OY(P:x7)(t:x6)(len:Nat)(ps:List (Nat×x8))(ds:List D)(K:List V->Prop):Prop:=match BR P t with
 |some (_,sz,_,z)=>match len with
  |0=>match ps,ds with
   |[],[]=>K []
   |_,_=>False
  |len+1=>match D8 ds with
   |some xs=>cond (ut ps 0&&Nat.beq (I ps) (len+1)&&z.isSome&&Nat.blt 0 sz&&Nat.ble ((len+1)*sz) 1000&&u9 sz xs) (K xs) False
   |none=>False
 |none=>False
theorem S0{P:x7}{t:x6}{len:Nat}{ps:Array (Nat×x8)}{ds:List D}{K:List V->Prop}(h:OY P t len ps.toList ds K){o:yy}(ho:o.op=.buildSlice t len ps):∃xs,K xs/\∀σ,Ah P o ds σ (.v (.list xs)) σ:=by
 unfold OY at h
 split at h
 ·rename_i e sz by' z hs
  split at h
  ·grind[N7]
  ·rename_i len
   split at h
   ·rename_i xs hx
    obtain⟨h1,h2⟩:=Ar h
    simp only[HJ] at h1
    obtain⟨⟨⟨⟨⟨g1,g2⟩,g3⟩,g4⟩,g5⟩,g6⟩:=h1
    have hl:ps.size=len+1:=by simp_all
    exact⟨_,h2,fun σ=>EQ ho (SL g1) hl hs g3 (GR hx) (LL g6) (by omega) (Io g4) (by simp_all)⟩
   grind
 grind
noncomputable def K4(P:x7)(t:x6)(x:D)(l h:Option (yv×Int))(K:V->Prop):Prop:=match x with
 |.v (.str s)=>match P.underlying t with
  |some .string=>vp (I s) (l.map (·.2)) (h.map (·.2)) fun a b=>K (.str ((s.take b).drop a))
  |_=>False
 |.v (.list xs)=>match BR P t with
  |some (_,sz,_,_)=>cond (Nat.blt 0 sz) ((∀x∈xs,x.size=sz)/\vp (I xs) (l.map (·.2)) (h.map (·.2)) fun a b=>K (.list ((xs.take b).drop a))) False
  |none=>False
 |_=>False
noncomputable def Zi(P:x7)(t:x6)(lo hi:Bool)(ds:List D)(K:V->Prop):Prop:=match lo,hi,ds with
 |false,false,[x]=>K4 P t x none none K
 |true,false,[x,.v (.int kd i)]=>K4 P t x (G (kd,i)) none K
 |false,true,[x,.v (.int kd i)]=>K4 P t x none (G (kd,i)) K
 |true,true,[x,.v (.int kd i),.v (.int ke j)]=>K4 P t x (G (kd,i)) (G (ke,j)) K
 |_,_,_=>False
theorem Ho{P:x7}{t:x6}{x:D}{l h':Option (yv×Int)}{K:V->Prop}(h:K4 P t x l h' K){o:yy}{xo:x8}{lo hi:Option x8}(ho:o.op=.slice t xo lo hi none)(h1:lo.isSome=l.isSome)(h2:hi.isSome=h'.isSome):
  ∃y,K y/\∀σ,Ah P o (x::(EM l++EM h')) σ (.v y) σ:=by
 unfold K4 at h
 split at h
 ·grind[Ahn,AaJ]
 ·split at h
  ·rename_i e sz by' z hs
   obtain⟨g1,g2,g3⟩:=Ar h
   obtain⟨a,b,h3,hp⟩:=Ahn g3
   exact⟨_,h3,fun σ=>AaK ho hs g2 (Io g1) l h' h1 h2 hp⟩
  grind
 grind
theorem Zh{P:x7}{t:x6}{lo hi:Option x8}{ds:List D}{K:V->Prop}(h:Zi P t lo.isSome hi.isSome ds K){o:yy}{xo:x8}(ho:o.op=.slice t xo lo hi none):
  ∃y,K y/\∀σ,Ah P o ds σ (.v y) σ:=by
 unfold Zi at h
 split at h
 ·rename_i e1 e2;exact Ho h ho e1 e2
 ·rename_i e1 e2;exact Ho h ho e1 e2
 ·rename_i e1 e2;exact Ho h ho e1 e2
 ·rename_i e1 e2;exact Ho h ho e1 e2
 grind
noncomputable def vEl(xs:List V)(i:Int)(sz:Nat)(s:Sc)(K:Sc->V->Prop):Prop:=match s with
 |.h (.x y) s=>cond (Nat.beq y.size sz) (0<=i/\xs[i.toNat]?=G y/\K s y) False
 |.h (.xs y) s=>y.size=sz/\0<=i/\xs[i.toNat]?=G y/\K s y
 |_=>False
noncomputable def Zm(P:x7)(t:x6)(x:V)(k:Prop):Prop:=match DU P t,x with
 |some (1,false),.agg _=>False
 |some (1,false),_=>k
 |some (n,true),.agg cs=>cond (Nat.beq (I cs) n) k False
 |_,_=>False
theorem Al8{x:V}(h:∀cs,x=.agg cs->False):x.isAgg=O:=by cases x<;>first|rfl|grind
theorem Zl{P:x7}{t:x6}{x:V}{k:Prop}(h:Zm P t x k){o:yy}{a:x8}(ho:o.op=.load t a):k/\∀σ,Ah P o [.v (.ref x)] σ (.v x) σ:=by
 unfold Zm at h
 split at h
 ·grind
 ·rename_i ht hx;exact⟨h,fun σ=>FT ho ht (Al8 hx)⟩
 ·rename_i n cs ht
  obtain⟨h1,h2⟩:=Ar h
  have:=Ii h1;subst this
  exact⟨h2,fun σ=>QR ho ht⟩
 grind
noncomputable def AdK(P:x7)(o:yy)(ds:List D)(s:Sc)(K:Sc->D->Prop):Prop:=
 match o.op,ds with
 |.binOp op t _ b _,[.v x,.v .nils]=>AnV P op t b x fun z=>K s (.v z)
 |.binOp op t _ b _,[.rv _ (.slice ad _ _),.v .nils]=>AnU P op t b ad.isNone fun z=>K s (.v z)
 |.binOp op t _ _ _,[.v x,.v y]=>AnW P op t x y fun z=>K s (.v z)
 |.unOp op _ _,[.v x]=>match unI op x with
  |some z=>K s (.v z)
  |none=>False
 |.convert st t _,[.v (.int _ n)]=>match P.underlying st,P.underlying t with
  |some _,some (.int kd)=>K s (.v (.int kd (kd.wrap n)))
  |_,_=>False
 |.extract _ i,[.tup xs]=>match xs[i]? with
  |some d=>K s d
  |none=>False
 |.nilCheck _,[.ptr q f]=>K s (.ptr q f)
 |.nilCheck _,[.v (.ref x)]=>K s (.v (.ref x))
 |.field st _ f,[.v (.agg cs)]=>xp P st f cs fun y=>K s (.v y)
 |.fieldAddr st _ f,[.ptr q off]=>match Rh P st f with
  |some (fo,_+1,_)=>K s (.ptr q (Nat.add off fo))
  |_=>False
 |.fieldAddr st _ f,[.v (.ref (.agg cs))]=>xp P st f cs fun y=>K s (.v (.ref y))
 |.indexAddr t _ _,[.v (.list xs),.v (.int _ i)]=>match BR P t with
  |some (_,sz,_,_)=>vEl xs i sz s fun s y=>K s (.v (.ref y))
  |none=>False
 |.indexAddr t _ _,[.arr q off len,.v (.int _ i)]=>match BR P t with
  |some (_,sz,_,_)=>0<=i/\i<len/\K s (.ptr q (off+i.toNat*sz))
  |none=>False
 |.indexAddr t _ _,[.ptr q off,.v (.int _ i)]=>match ow P t with
  |some (len,sz,_)=>0<=i/\i<len/\K s (.ptr q (off+i.toNat*sz))
  |none=>False
 |.indexAddr t _ _,[.v (.ref (.agg cs)),.v (.int _ i)]=>xn P t cs i fun y=>K s (.v (.ref y))
 |.index t _ _,[.v (.str l),.v (.int _ i)]=>match P.underlying t with
  |some .string=>(match s with
   |.h (.y c) s=>0<=i/\l[i.toNat]?=G c/\K s (.v (vb c))
   |s=>∃c:UInt8,0<=i/\l[i.toNat]?=G c/\K s (.v (vb c)))
  |_=>False
 |.index t _ _,[.v (.agg cs),.v (.int _ i)]=>xn P t cs i fun y=>K s (.v y)
 |.load t _,[.v (.ref x)]=>Zm P t x (K s (.v x))
 |.build t ps,ds=>Ahp P t ps.toList ds s fun s x=>K s (.v x)
 |.buildSlice t len ps,ds=>OY P t len ps.toList ds fun xs=>K s (.v (.list xs))
 |.makeFunc (.func f) fs _,ds=>match D8 ds with
  |some xs=>cond (Nat.ble fs.size (I xs)) (K s (.v (.fn f (xs.take fs.size) (xs.drop fs.size)))) False
  |none=>False
 |.slice t _ lo hi none,ds=>Zi P t lo.isSome hi.isSome ds fun x=>K s (.v x)
 |.call c,.v (.fn f fs cs)::ds=>match c.callee with
  |.value _=>AdQ P f fs cs ds s K
  |_=>False
 |.call c,ds=>OX P c ds fun x=>K s (.v x)
 |_,_=>False
theorem Zp{P:x7}{st:x6}{f:Nat}{cs:List V}{K:V->Prop}(h:xp P st f cs K):∃y fo n b,K y/\Rh P st f=G (fo,n,b)/\n≠0/\(b=O->n=1)/\Mt cs fo n b=G y:=by
 grind[xp,TU]
theorem AkJ{xs:List V}{i:Int}{sz:Nat}{s:Sc}{K:Sc->V->Prop}(h:vEl xs i sz s K):∃y s',K s' y/\y.size=sz/\0<=i/\xs[i.toNat]?=G y:=by
 unfold vEl at h
 grind[Nat.eq_of_beq_eq_true]
theorem AdJ{P:x7}{o:yy}{ds:List D}{s:Sc}{K:Sc->D->Prop}(h:AdK P o ds s K):Cs P o ds K:=by
 unfold AdK at h
 split at h
 ·grind[Aij,Cs]
 ·rename_i op t a b ty x ad l c ho
  obtain⟨z,h1,h2⟩:=Aii h ho
  exact .v h1 h2
 ·grind[Ain,Cs]
 ·grind[Aoe,Cs]
 ·grind[L9,Cs]
 ·grind[K9,Cs]
 ·grind[My,Cs]
 ·rename_i a x ho;exact .v h fun σ=>Mx ho
 ·grind[Zp,Afh,Cs]
 ·rename_i st a f q off ho
  split at h
  ·rename_i fo n b hf;exact⟨_,_,h,fun σ=>AaO ho hf (by simp)⟩
  grind
 ·grind[Zp,FU,Cs]
 ·grind[AkJ,AiO,Cs]
 ·grind[AiP,Cs]
 ·grind[Afg,Cs]
 ·grind[Zo,Aff,Cs]
 ·grind[AiN,Cs]
 ·grind[Zo,AiM,Cs]
 ·grind[Zl,Cs]
 ·rename_i t ps ho
  unfold Ahp at h
  split at h
  all_goals grind[AQ,AaS,YQ,UZ,Cs]
 ·grind[S0,Cs]
 ·rename_i f fs cap ho
  split at h
  ·rename_i xs hx
   obtain⟨h1,h2⟩:=Ar h
   have hl:fs.size<=I xs:=by simp_all
   refine .v h2 fun σ=>BQ (fun g us hr=>LU hx hr) ?_
   grind[SY,GQ,List.take_append_drop]
  grind
 ·grind[Zh,Cs]
 all_goals grind[TW,Sz,Cs]
end Go.Nv

namespace Go.Dv
open Go.IntKind (u64)
open Go.IntKind renaming wrap → yu, i64 → yt
open List renaming length → I, map → U, drop → W
open Option renaming some → G
open Bool renaming true → J, false → O
open Decidable renaming decide → Y
open Int renaming toNat → Z
open Go.Dv.V renaming list → ai, str → ae, agg → ab, int → aa, ref → bz, fn → bw, nils → bv, bool → bu
open Go.Dv.D renaming v → bt, acc → br, ptr → bq, arr → bo, gro → bm, tup → bk, undef → bj, dagg → bi
open Go.Dv.St renaming mk → bh
open Go.Dv.KI renaming blk → bf
open _root_.ByteArray renaming mk → bc
open Go renaming Operand → x8, Program → x7, TypeId → x6, World → x5, Value → yz, Oper → yy, FuncId → yx, Func → yw, IntKind → yv
theorem WI.addOwnP{E:cd}{g:Gh}{σ:St}{w:x5}(hw:WI E g σ w){k sz:Nat}{xs:List V}{u:yz}(hk:∀x∈σ.own,x.1≠k)(hsz:0<sz/\∀x∈xs,x.size=sz)(hr:repV g.M (.list xs) u)(hp:Perm g.M w sz u)
  (hb:∀b,Co u=G b->(E.w.heap.size<=b∨E.priv b)/\(∀i cs,σ.H[i]?=G (G cs)->g.β i≠b)/\∀x∈σ.own,∀u',g.ι x.1 (I x.2.2)=G u'->Co u'≠G b):
  WI E { g with ι:=fun k' m=>if k'=k then(if m=I xs then G u else none) else g.ι k' m } ⟨σ.H,(k,sz,xs)::σ.own⟩ w/\
  g.le { g with ι:=fun k' m=>if k'=k then(if m=I xs then G u else none) else g.ι k' m }:=by
 have hle:g.le { g with ι:=fun k' m=>if k'=k then(if m=I xs then G u else none) else g.ι k' m }:=by
  refine⟨dy.le_refl _,HP _,fun _ _=>rfl,fun k' m u' h=>?_,fun _ _=>rfl⟩
  by_cases e:k'=k
  ·subst e;rw[hw.rep.fresh k' hk m] at h;grind
  grind
 have hold:∀x∈σ.own,(if x.1=k then(if I x.2.2=I xs then G u else none) else g.ι x.1 (I x.2.2))=g.ι x.1 (I x.2.2):=fun x hx=>HZ (hk x hx)
 refine⟨hw.update (fun _=>False) (fun _ h=>h.elim) (fun _ _ _=>⟨rfl,fun _=>rfl⟩) (dy.le_refl _) (HP _) (fun _ _=>rfl) (fun _ _=>rfl) (HP _) rfl rfl rfl ?_ hw.objs ?_,hle⟩
 ·refine⟨hw.rep.n,hw.rep.mem,fun i cs hi=>?_,hw.rep.inj,fun k' sz' xs' hx=>?_,?_,fun x hx y hy hne u1 u2 h1 h2 b hb1=>?_,fun x hx u1 h1 b hb1 i cs hi=>?_,fun k' hk' m=>?_,hw.rep.gl,hw.rep.gw⟩
  ·obtain⟨us,rest,e,h2,h3,h4,h5⟩:=hw.rep.obj i cs hi
   grind[Af.mono]
  ·rcases Iz.1 hx with e|hx
   ·grind
   ·obtain⟨h0,u',hu,h3,h4,h5⟩:=hw.rep.own k' sz' xs' hx
    grind
  ·simp only[Ik,List.nodup_cons]
   refine⟨fun h=>?_,hw.rep.tags⟩
   grind
  ·rcases Iz.1 hx with rfl|hx<;>rcases Iz.1 hy with rfl|hy
   ·omega
   ·grind
   ·grind
   ·exact hw.rep.sep x hx y hy hne u1 u2 ((hold x hx).symm.trans h1) ((hold y hy).symm.trans h2) b hb1
  ·rcases Iz.1 hx with rfl|hx
   ·grind
   ·exact hw.rep.ownObj x hx u1 ((hold x hx).symm.trans h1) b hb1 i cs hi
  ·have hne:¬k'=k:=fun e=>hk' (k,sz,xs) (by simp) e.symm
   simp only[HZ hne]
   exact hw.rep.fresh k' (fun x hx=>hk' x (by grind)) m
 ·intro x hx u1 h1 b hb1
  rcases Iz.1 hx with rfl|hx
  ·grind
  ·exact hw.owns x hx u1 ((hold x hx).symm.trans h1) b hb1
end Go.Dv
namespace Go.Nv
open Go.Dv
open Go.IntKind (u64)
open Go.IntKind renaming wrap → yu, i64 → yt
open List renaming length → I, map → U, drop → W
open Option renaming some → G
open Bool renaming true → J, false → O
open Decidable renaming decide → Y
open Int renaming toNat → Z
open Go.Dv.V renaming list → ai, str → ae, agg → ab, int → aa, ref → bz, fn → bw, nils → bv, bool → bu
open Go.Dv.D renaming v → bt, acc → br, ptr → bq, arr → bo, gro → bm, tup → bk, undef → bj, dagg → bi
open Go.Dv.St renaming mk → bh
open Go.Dv.KI renaming blk → bf
open _root_.ByteArray renaming mk → bc
open Go renaming Operand → x8, Program → x7, TypeId → x6, World → x5, Value → yz, Oper → yy, FuncId → yx, Func → yw, IntKind → yv
section
variable {P : x7} {o : yy} {σ : St}
theorem Xe{x y:x8}{t tn:x6}(ho:o.op=.call { callee:=.builtin .append,args:= #[x,y],argTypes:= #[t,tn]}){e:x6}{sz by':Nat}{z:yz}(hs:BR P t=G (e,sz,by',G z))(hzc:z.cells.size=sz)(h0:0<sz){kn:yv}(htn:P.underlying tn=G (.int kn))
  {kd:yv} {n:Int} (hn:0<n) (hlen:n.toNat*by'<=140737488355328) (hlen2:n.toNat<=140737488355328):
  Ah P o [.v .nils,.v (.int kd n)] σ (.gro (I σ.H) n.toNat sz) ⟨σ.H++[G []],σ.own⟩:=by
 intro E g a w K Q hw hds hK
 simp only[ho,Op.operands,Call.operands] at hds
 obtain⟨u,v,eq,hu,hv⟩:=Au.1 (by simpa using hds)
 simp only[HV,Ix] at eq
 simp only[Ag,CI,AC] at hu hv
 subst hu hv
 obtain⟨m,rfl⟩:∃m:Nat,n=m:=⟨n.toNat,by omega⟩
 simp only[IR] at hlen hlen2 hK⊢
 obtain⟨i,ht,hi,hisz,hib,hiz⟩:=AE hs
 have hrun:=Lib.run_append_nil_zeros (P:=P) w t tn o.type e i z kd kn ht htn hi hiz m (by omega) (by omega) (by omega) (by grind)
 have hge:=grownCap_ge w m 0 e
 generalize hcs:Builtin.zeroCells z.cells m++Builtin.zeroCells z.cells (grownCap w m 0 e-m)=cs at hrun
 have hsize:cs.size=grownCap w m 0 e*sz:=by
  rw[←hcs]
  simp only[Array.size_append,size_zeroCells,hzc, ←IV]
  grind
 obtain⟨g',h3,h4,h5',h6',h7⟩:=hw.drew.newObjR (us:=[]) (rest:=cs.toList) (cs:=[]) e (by rfl) (by simp)
 have hd:Ag g' (.gro (I σ.H) m sz) (.slice (G ⟨w.heap.size,0,none⟩) m (grownCap w m 0 e)):=by
  simp only[Ag]
  simp_all
 have hcell:(([]:List yz)++cs.toList).toArray=cs:=by simp
 rw[hcell] at h3
 have:=hK g' _ _ h3 h4 hd
 unfold Oper.wp execOp
 simp only[ho,resolve,invoke,builtin,Sem.run_bind,Sem.run_pure,Result.andThen_ok,List.map_toArray,Ik,IF,eq.1,eq.2,hrun]
 exact this
theorem Xb{t:x6}{x hx:x8}(ho:o.op=.slice t x none (G hx) none){e:x6}{sz by':Nat}{z:Option yz}(hs:BR P t=G (e,sz,by',z))(h0:0<sz){q len:Nat}{cs:List D}(hq:σ.H[q]?=G (G cs)){kd:yv}(k:Nat)(hk:∀x∈σ.own,x.1≠k):
  Ah P o [.gro q len sz,.v (.int kd 0)] σ (.acc k []) ⟨σ.H.set q none,(k,sz,[])::σ.own⟩:=by
 intro E g a w K Q hw hds hK
 simp only[ho,Op.operands] at hds
 obtain⟨u,v,eq,h1,h2⟩:=Au.1 (by simpa using hds)
 simp only[HV,Ix] at eq
 simp only[Ag,AC] at h1 h2
 subst h2
 obtain⟨hqn,cap,hcap,hκ,rfl⟩:=h1
 obtain⟨i,hu,hi',hsz,_,_⟩:=AE hs
 obtain⟨us,rest,et,hb,hr,hone,hM,hkk⟩:=hw.rep.obj q cs hq
 have hrep:repV g.M (.list []) (.slice (G ⟨g.β q,0,none⟩) 0 cap):=by grind[B4]
 obtain⟨hw2,hle⟩:=(hw.kill hq).addOwnP (k:=k) (sz:=sz) (xs:=[]) (u:=.slice (G ⟨g.β q,0,none⟩) 0 cap) hk ⟨h0,by simp⟩ hrep
  (.inr ⟨g.β q,0,0,cap,_,et,rfl,hb,Iu _,by grind,fun o _=>hM o,hw.rep.obj_ng hq⟩) (fun b hb'=>by
   simp only[Co] at hb'
   split at hb'
   ·grind
   ·simp at hb';subst hb'
    refine⟨hw.objs q cs hq,fun i c hi=>?_,fun x hx u' hu' hb2=>hw.rep.ownObj x hx u' hu' _ hb2 q cs hq rfl⟩
    obtain⟨hne,hi2⟩:=Hw hi
    exact fun e=>hne (hw.rep.inj i q _ _ hi2 hq e))
 have:=hK _ _ (.slice (G ⟨g.β q,0,none⟩) 0 cap) hw2 hle (by grind[Ag])
 have hbr:=E5 (P:=P) w true len cap hcap none (G (kd,0)) (l':=0) (h':=0) (by rfl)
 unfold Oper.wp execOp
 simp only[ho,eq.1,eq.2,Jw,IJ,Instr.sliceAt,Instr.slice,Sem.run_bind,run_underlying hu,Result.andThen_ok]
 simp only[Jw,IJ] at hbr
 rw[hbr]
 simp only[Result.andThen_ok,sizeOf,typeInfo,Sem.run_pure,Sem.run_bind]
 by_cases hc0:cap=0
 ·subst hc0;simpa[Addr.add_lit,Oper.upon,hi'] using this
 ·simpa[hc0,Addr.add_lit,Oper.upon,hi',show ¬0=cap by omega] using this
theorem Xd{x:x8}{t:x6}(ho:o.op=.call { callee:=.builtin .cap,args:= #[x],argTypes:= #[t]}){e:x6}(ht:P.underlying t=G (.slice e)):Ah P o [.v .nils] σ (.v (.int .i64 0)) σ:=by
 refine A5 fun E g ρ w hw hds=>?_
 simp only[ho,Op.operands,Call.operands,AB] at hds
 obtain⟨u,e,h1⟩:=hds
 simp at e
 simp only[Ag,CI] at h1
 subst h1
 exact⟨_,by simp[execOp,ho,e,resolve,invoke,builtin,Builtin.cap_,run_underlying ht,goInt];rfl,by simp[Ag]⟩
theorem QP{t:x6}{x hx:x8}(ho:o.op=.slice t x none (G hx) none){e:x6}(hu:P.underlying t=G (.slice e)){inf:TypeInfo}(hi:P.info? e=G inf){kd:yv}:Ah P o [.v .nils,.v (.int kd 0)] σ (.v .nils) σ:=by
 refine A5 fun E g ρ w hw hds=>?_
 simp only[ho,Op.operands] at hds
 obtain⟨u,v,eq,h1,h2⟩:=Au.1 (by simpa using hds)
 simp only[HV,Ix] at eq
 simp only[Ag,AC,CI] at h1 h2
 subst h1 h2
 have hbr:=E5 (P:=P) w true 0 0 (HP _) none (G (kd,0)) (l':=0) (h':=0) (by rfl)
 simp only[Jw,IJ] at hbr
 refine⟨.slice none 0 0,?_,by simp[Ag]⟩
 simp only[execOp,ho,eq.1,eq.2,Jw,IJ,Instr.sliceAt,Instr.slice,Sem.run_bind,run_underlying hu,Result.andThen_ok]
 rw[hbr]
 simp[sizeOf,typeInfo,hi]
end
def oy:List (Nat×x8)->List D->Option (List (Nat×D))
 |[],[]=>G []
 |p::ps,d::ds=>match oy ps ds with
  |some xs=>G ((p.1,d)::xs)
  |none=>none
 |_,_=>none
def X5(ay:List (Nat×Nat)):List D->List (Nat×D)->Option (List D)
 |cells,[]=>G cells
 |cells,p::xs=>match ay[p.1]? with
  |some (off,size)=>cond (p.2.sto&&Nat.beq (I (Az p.2)) size&&Nat.ble (off+size) (I cells)) (X5 ay (cells.take off++Az p.2++cells.drop (off+size)) xs) none
  |none=>none
theorem e6{g:Gh}:∀{ds:List D} {us:List yz},Af g ds us->I us=I ds
 |[],us,h=>by simp only[Af] at h;simp[h]
 |d::ds,us,h=>by
  simp only[Af] at h
  obtain⟨u,us',rfl,_,h⟩:=h
  simp[e6 h]
theorem QG{g:Gh}:∀{ds es:List D} {us vs:List yz},Af g ds us->Af g es vs->Af g (ds++es) (us++vs)
 |[],es,us,vs,h,h2=>by simp only[Af] at h;subst h;exact h2
 |d::ds,es,us,vs,h,h2=>by
  simp only[Af] at h
  obtain⟨u,us',rfl,h1,h⟩:=h
  simp only[Jz,Af]
  exact⟨u,us'++vs,rfl,h1,QG h h2⟩
theorem UM{g:Gh}:∀{ds:List D} {us:List yz} (n:Nat),Af g ds us->Af g (ds.take n) (us.take n)
 |ds,us,0,_=>by simp[Af]
 |[],us,n+1,h=>by simp only[Af] at h;subst h;simp[Af]
 |d::ds,us,n+1,h=>by
  simp only[Af] at h
  obtain⟨u,us',rfl,h1,h⟩:=h
  simp only[List.take_succ_cons,Af]
  exact⟨u,us'.take n,rfl,h1,UM n h⟩
theorem UN{g:Gh}:∀{ds:List D} {us:List yz} (n:Nat),Af g ds us->Af g (ds.drop n) (us.drop n)
 |ds,us,0,h=>by simpa using h
 |[],us,n+1,h=>by simp only[Af] at h;subst h;simp[Af]
 |d::ds,us,n+1,h=>by
  simp only[Af] at h
  obtain⟨u,us',rfl,h1,h⟩:=h
  simp only[List.drop_succ_cons]
  exact UN n h
theorem Rp{g:Gh}{a:Act}{ay:List (Nat×Nat)}:∀{ps:List (Nat×x8)} {ds:List D} {xs:List (Nat×D)} {cells out:List D} {cu:Array yz},oy ps ds=G xs->Af g ds (ps.map fun p=>a.eval p.2)->Af g cells cu.toList->X5 ay cells xs=G out->
  ∃U,Instr.fill (ay[·]?) cu (ps.map fun p=>(p.1,a.eval p.2))=G U/\Af g out U.toList
 |[],[],xs,cells,out,cu,hx,_,hc,hf=>by
  grind[oy,X5,Instr.fill]
 |[],_::_,xs,cells,out,cu,hx,_,hc,hf=>by grind[oy]
 |_::_,[],xs,cells,out,cu,hx,_,hc,hf=>by grind[oy]
 |p::ps,d::ds,xs,cells,out,cu,hx,hds,hc,hf=>by
  simp only[oy] at hx
  split at hx
  ·rename_i ys hys
   simp at hx;subst hx
   simp only[Ik,Af] at hds
   obtain⟨u,us',e,h1,h2⟩:=hds
   simp at e
   obtain⟨rfl,rfl⟩:=e
   simp only[X5] at hf
   split at hf
   ·rename_i off size hp
    cases hcd:(d.sto&&Nat.beq (I (Az d)) size&&Nat.ble (off+size) (I cells)) with
    |false=>grind
    |true=>
     rw[hcd] at hf
     simp only[cond_true] at hf
     simp only[HJ] at hcd
     obtain⟨⟨c1,c2⟩,c3⟩:=hcd
     have c2:=Ii c2
     have c3:=Io c3
     obtain⟨r1,r2,r3⟩:=cells_rep c1 h1
     have hl:cu.size=I cells:=by grind[Array.length_toList,e6]
     have hs:(a.eval p.2).cells.size=size:=by grind[Array.length_toList,e6]
     have hsp:=ZN off (a.eval p.2).cells.toList cu (by grind)
     simp only[Iw,hs] at hsp
     have hc':Af g (cells.take off++Az d++cells.drop (off+size)) (((a.eval p.2).cells.toList.zipIdx 0).foldl (fun cs (x:yz×Nat)=>cs.setIfInBounds (off+x.2) x.1) cu).toList:=by
      grind[QG,UM,UN]
     obtain⟨U,hU,hrU⟩:=Rp hys h2 hc' hf
     grind[Instr.fill,Array.toList_zipIdx]
   grind
  grind
section
variable {P : x7} {o : yy} {σ : St}
def P8(P:x7)(t:x6):Bool:=match P.underlying t with
 |some (.struct _)=>true
 |_=>false
theorem AaT{t:x6}{parts:Array (Nat×x8)}(ho:o.op=.build t parts){z:List V}{ay:List (Nat×Nat)}(hst:P8 P t=J)(hb:Yy P t=G (z,ay)){ds:List D}{xs:List (Nat×D)}{out:List D}
  (hx:oy parts.toList ds=G xs) (hf:X5 ay (z.map .v) xs=G out):Ah P o ds σ (.dagg out) σ:=by
 intro E g a w K Q hw hds hK
 simp only[ho,Op.operands] at hds
 unfold Yy at hb
 unfold P8 at hst
 have key:∃U,P.built t (parts.toList.map fun p=>(p.1,a.eval p.2))=G U/\Af g out U.toList:=by
  cases hz:YR P t with
  |none=>grind
  |some z0=>
   obtain⟨i,zv,hi,hz1,hcv⟩:=LM hz
   cases hu:P.underlying t with
   |none=>grind
   |some dd=>
    cases dd<;>simp only[hz,hu,reduceCtorEq] at hb hst
    case struct fs=>
     cases hp:fs.toList.mapM (fun f=>(P.info? f.type).map fun i=>(f.offset,i.size)) with
     |none=>grind
     |some pl=>
      simp[hp] at hb
      obtain⟨rfl,rfl⟩:=hb
      obtain⟨U,hU,hrU⟩:=Rp (a:=a) hx (by grind[Function.comp_def]) (DL (GC (M:=g.M) hcv)).1 hf
      grind[Program.built]
 obtain⟨U,hU,hrU⟩:=key
 have:=hK g w (.agg U) hw g.le_refl (by grind[Ag])
 have hrun:=run_build (P:=P) w t (parts.map fun p=>(p.1,a.eval p.2)) U (by simp_all)
 unfold Oper.wp execOp
 simp only[ho]
 simp only[Sem.run_bind]
 rw[show(parts.map fun(x:Nat×x8)=>match x with|(i,x)=>(i,a.eval x))=parts.map fun p=>(p.1,a.eval p.2) from rfl,hrun]
 exact this
end
end Go.Nv

namespace Go.Dv
open List (replicate)
open Go.IntKind (u64)
open Go.IntKind renaming wrap → yu, i64 → yt
open List renaming length → I, map → U, drop → W
open Option renaming some → G
open Bool renaming true → J, false → O
open Decidable renaming decide → Y
open Int renaming toNat → Z
open Go.Dv.V renaming list → ai, str → ae, agg → ab, int → aa, ref → bz, fn → bw, nils → bv, bool → bu
open Go.Dv.D renaming v → bt, acc → br, ptr → bq, arr → bo, gro → bm, tup → bk, undef → bj, dagg → bi
open Go.Dv.St renaming mk → bh
open Go.Dv.KI renaming blk → bf
open _root_.ByteArray renaming mk → bc
open Go renaming Operand → x8, Program → x7, TypeId → x6, World → x5, Value → yz, Oper → yy, FuncId → yx, Func → yw, IntKind → yv
section
variable {P : x7} {o : yy} {σ : St}
theorem AaM{t:x6}{a:x8}(ho:o.op=.load t a){n:Nat}(ht:Y6 P t n){q off:Nat}{cs:List D}(hH:σ.H[q]?=G (G cs))(hn:off+n<=I cs){ds:List D}(hd:(cs.drop off).take n=ds):Ah P o [.ptr q off] σ (.dagg ds) σ:=by
 subst hd
 refine A5 fun E g ρ w hw hds=>?_
 simp only[ho,Op.operands,AB] at hds
 obtain⟨u,e,h1⟩:=hds
 simp at e
 simp only[Ag] at h1
 obtain⟨_,rfl⟩:=h1
 obtain⟨us,rest,et,hb,hr,h1,_⟩:=hw.rep.obj q cs hH
 have hra:=Ce (Cq hr off) n
 have hl:I us=I cs:=A0 hr
 have hld:=run_loadCells_list (P:=P) w ⟨g.β q,off,none⟩ ((us.drop off).take n) (fun j v hj=>by
  grind[World.cell?,Addr.add])
 have hlen:I ((us.drop off).take n)=n:=by grind
 rw[hlen] at hld
 refine⟨.agg ((us.drop off).take n).toArray,?_,by grind[Ag]⟩
 simp only[execOp,ho,e,Instr.loadAt,Instr.sureAddr,loadVar,Sem.run_bind,Sem.run_pure,Result.andThen_ok,Df ht,dw ht,hld,IT]
end
theorem MI{α:Type}(l:List α):∀(n i:Nat),i<n*I l->(replicate n l).flatten[i]?=l[i%l.length]?
 |0,i,h=>by simp at h
 |n+1,i,h=>by
  rw[IC,Jp]
  by_cases hi:i<I l
  ·rw[Ig hi,Nat.mod_eq_of_lt hi]
  ·rw[Ib (by omega),MI l n (i-I l) (by rw[IV] at h;omega),Nat.mod_eq_sub_mod (a:=i) (by omega)]
theorem J8{α:Type}(l:List α):∀n:Nat,(replicate n l).flatten.length=n*I l
 |0=>by simp
 |n+1=>by simp_all
theorem Lh(z:Array yz)(n:Nat):madeCells z (n*z.size)=(replicate n z.toList).flatten.toArray:=by
 apply Array.ext_getElem?
 grind[MI,madeCells,J8]
section
variable {P : x7} {o : yy} {σ : St} {d : D}
theorem Afc{t:x6}{x y:x8}(ho:o.op=.makeSlice t x y){e:x6}{sz by':Nat}{z:yz}(hs:BR P t=G (e,sz,by',G z)){zs:List V}(hz:FK z.cells.toList=G zs)(hzc:z.cells.size=sz){k1 k2:yv}{n:Int}(h0:0<=n)(hn:(by':Int)*n<=281474976710656)(hn2:n<=9223372036854775807):
  Ah P o [.v (.int k1 0),.v (.int k2 n)] σ (.gro (I σ.H) 0 sz) ⟨σ.H++[G ((replicate n.toNat zs).flatten.map .v)],σ.own⟩:=by
 intro E g a w K Q hw hds hK
 simp only[ho,Op.operands,Au] at hds
 obtain⟨u,v,eq,h1',h2⟩:=hds
 simp only[Ik,IF,HV,Ix] at eq
 obtain⟨e1,e2⟩:=eq
 simp only[Ag,AC] at h1' h2
 subst h1' h2
 obtain⟨i,hu,hi,hsz,hby,hzz⟩:=AE hs
 have hrun:=run_make (P:=P) w t e i z hu hi hzz k1 k2 0 n (Il _) h0 (by grind) hn2
 rw[hsz, ←hzc,Lh] at hrun
 obtain⟨hr1,ho1⟩:=DL (g:=g) (EX (M:=g.M) hz)
 have hr:∀m,Af g ((replicate m zs).flatten.map .v) (replicate m z.cells.toList).flatten/\∀c∈ (replicate m zs).flatten.map bt,c.one=J:=by
  intro m
  induction m<;>grind[Af,Aw]
 obtain⟨g',hw',hle,hβ,hκ,hn'⟩:=hw.newObjR (us:=(replicate n.toNat z.cells.toList).flatten) (rest:=[]) e (hr n.toNat).1 (hr n.toNat).2
 rw[I8] at hw' hκ
 have:=hK g' _ (.slice (G ⟨w.heap.size,0,none⟩) 0 n.toNat) hw' hle (by
  grind[Ag,J8])
 unfold Oper.wp execOp
 simp only[ho,e1,e2,Sem.run_bind,hrun,Result.andThen_ok]
 exact this
theorem SZ{x y:x8}{t:x6}(ho:o.op=.call { callee:=.builtin .append,args:= #[x,y],argTypes:= #[t,t]}){e:x6}{sz by':Nat}{z:Option yz}(hs:BR P t=G (e,sz,by',z))(hsz:0<sz)
  {q len:Nat} {cs:List D} {ys:List V} (hq:σ.H[q]?=G (G cs)) (hroom:(len+I ys)*sz<=I cs) (hys:∀y∈ys,y.size=sz) (hpos:ys≠ []):
  Ah P o [.gro q len sz,.v (.list ys)] σ (.gro q (len+I ys) sz) ⟨σ.H.set q (G (cs.take (len*sz)++Ab ys++cs.drop (len*sz+I (Ab ys)))),σ.own⟩:=by
 intro E g a w K Q hw hds hK
 simp only[ho,Op.operands,Call.operands] at hds
 obtain⟨u,v,eq,hu,hv⟩:=Au.1 (by simpa using hds)
 simp only[HV,Ix] at eq
 simp only[Ag] at hu hv
 obtain⟨hqn,cap,hcap,hκ,rfl⟩:=hu
 obtain⟨ad,cap2,rfl,hc2,hor⟩:=Cd hv hys hsz
 rcases hor with h|⟨b,off,vs,rfl,hin,hE⟩
 ·grind
 obtain⟨h5,h6⟩:=E7 hE
 obtain⟨i,ht,hi,hisz,hib,hiz⟩:=AE hs
 obtain⟨us,rest,et,hb,hr,h1,hM,hκ1⟩:=hw.rep.obj q cs hq
 have hul:I us=I cs:=A0 hr
 have hvl0:I vs=I ys*sz:=BX hE
 have hvl:I vs=I ys*i.size:=by grind
 have hfl:I (Ab ys)=I vs:=(A0 h5).symm
 rw[IV] at hroom
 have hroom':len+I ys<=cap:=by
  have:(len+I ys)*sz<=cap*sz:=by grind
  exact Nat.le_of_mul_le_mul_right this hsz
 have hone:∀u∈vs,u.oneCell'=J:=Cp h6 h5
 have hfit:len*i.size+I vs<=(us++rest).toArray.size:=by
  grind
 have hrun:=eb (P:=P) w t o.type e et i ht hi (g.β q) len cap (us++rest).toArray hb ⟨b,off,none⟩ (I ys) cap2 vs hvl (EB hw hin) hone hroom' hfit
 have hrow:(us++rest).toArray.toList.take (len*i.size)++vs++(us++rest).toArray.toList.drop (len*i.size+I vs)=(us.take (len*sz)++vs++us.drop (len*sz+I vs))++rest:=by
  grind
 rw[hrow] at hrun
 have hw1:=hw.setObj (cs':=cs.take (len*sz)++Ab ys++cs.drop (len*sz+I (Ab ys))) (w':=w.setRow (g.β q) ((us.take (len*sz)++vs++us.drop (len*sz+I vs))++rest).toArray) hq (us:=us.take (len*sz)++vs++us.drop (len*sz+I vs)) (rest:=rest) (e:=et) (setRow_heap w _ _ _ et _ hb)
  (by grind)
  (Aw (Aw (Ce hr _) h5) (by grind[Cq]))
  (fun c hc=>by
   rcases I6.1 hc with h|h
   ·rcases I6.1 h with h|h
    ·grind
    ·exact h6 c h
   grind) (fun b hb=>setRow_other w _ _ _ hb) (by simp) rfl rfl rfl
 have:=hK g _ (.slice (G ⟨g.β q,0,none⟩) (len+I ys) cap) hw1 (Gh.le_refl g) (by grind[Ag])
 unfold Oper.wp execOp
 simp only[ho,resolve,invoke,builtin,Sem.run_bind,Sem.run_pure,Result.andThen_ok,List.map_toArray,Ik,IF,eq.1,eq.2,hrun]
 exact this
end
end Go.Dv

namespace Go.Nv
open Go.Dv
open List (replicate)
open Go.IntKind (u64)
open Go.IntKind renaming wrap → yu, i64 → yt
open List renaming length → I, map → U, drop → W
open Option renaming some → G
open Bool renaming true → J, false → O
open Decidable renaming decide → Y
open Int renaming toNat → Z
open Go.Dv.V renaming list → ai, str → ae, agg → ab, int → aa, ref → bz, fn → bw, nils → bv, bool → bu
open Go.Dv.D renaming v → bt, acc → br, ptr → bq, arr → bo, gro → bm, tup → bk, undef → bj, dagg → bi
open Go.Dv.St renaming mk → bh
open Go.Dv.KI renaming blk → bf
open _root_.ByteArray renaming mk → bc
open Go renaming Operand → x8, Program → x7, TypeId → x6, World → x5, Value → yz, Oper → yy, FuncId → yx, Func → yw, IntKind → yv
inductive Kd where
 |pure
 |load (q off n:Nat)
 |eff
noncomputable def Cb(τ:St)(q off n:Nat):Option (List D):=match τ.H[q]? with
 |some (some cs)=>cond (Nat.ble (off+n) (I cs)) (G ((cs.drop off).take n)) none
 |_=>none
theorem FN{τ:St}{q off n:Nat}{l:List D}(h:Cb τ q off n=G l):∃cs,τ.H[q]?=G (G cs)/\off+n<=I cs/\(cs.drop off).take n=l:=by
 unfold Cb at h
 split at h
 ·rename_i cs hcs
  cases hb:Nat.ble (off+n) (I cs)<;>simp_all
 grind
theorem J1{τ:St}{q off n:Nat}{cs:List D}(h:τ.H[q]?=G (G cs))(hl:off+n<=I cs):Cb τ q off n=G ((cs.drop off).take n):=by
 grind[Cb,Nat.ble_eq_true_of_le]
def re(P:x7)(o:yy)(ds:List D)(σ:St)(d:D)(σ':St):Kd->Prop
 |.pure=>σ'=σ/\∀τ,Ah P o ds τ d τ
 |.load q off n=>σ'=σ/\(Cb σ q off n).isSome=J/\∀τ,Cb τ q off n=Cb σ q off n->Ah P o ds τ d τ
 |.eff=>Ah P o ds σ d σ'
theorem re.op{P:x7}{o:yy}{ds:List D}{σ σ':St}{d:D}{kd:Kd}(h:re P o ds σ d σ' kd):Ah P o ds σ d σ':=by
 cases kd with
 |pure=>obtain⟨rfl,h⟩:=h;grind
 |load q off n=>obtain⟨rfl,_,h⟩:=h;grind
 |eff=>exact h
abbrev KO:=Sc->D->St->Kd->Prop
def jn(P:x7)(o:yy)(ds:List D)(σ:St)(K:KO):Prop:=∃s d σ' kd,K s d σ' kd/\re P o ds σ d σ' kd
def Ap2(l:List Nat)(t:Nat):Bool:=l.any (Nat.beq t)
noncomputable def EE(own:List (Nat×Nat×List V))(k:Nat):Bool:=own.all fun x=> !Nat.beq x.1 k
theorem CL{own:List (Nat×Nat×List V)}{k:Nat}(h:EE own k=J):∀x∈own,x.1≠k:=fun x hx e=>by
 have:=I5.1 h x hx
 simp_all
noncomputable def uv{β:Type}(own:List (Nat×Nat×List V))(k sz:Nat)(zs:List V)(K:List (Nat×Nat×List V)->β):β:=
 List.rec (motive:=fun _=>(List (Nat×Nat×List V)->β)->β) (fun K=>K []) (fun x _ ih K=>ih fun r=>Bool.rec (K (x::r)) (K ((k,sz,zs)::r)) (Nat.beq x.1 k)) own K
theorem ST{β:Type}(k sz:Nat)(zs:List V):∀(own:List (Nat×Nat×List V)) (K:List (Nat×Nat×List V)->β),uv own k sz zs K=K (own.map (H3 k sz zs))
 |[],_=>rfl
 |x::own,K=>by
  have h:uv (x::own) k sz zs K=uv own k sz zs fun r=>Bool.rec (K (x::r)) (K ((k,sz,zs)::r)) (Nat.beq x.1 k):=rfl
  rw[h,ST k sz zs own]
  simp only[Ik,H3]
  by_cases e:x.1=k
  ·rw[Ie e,e,Nat.beq_refl]
  ·rw[HZ e,show Nat.beq x.1 k=O from by cases h:Nat.beq x.1 k with|false=>rfl|true=>exact absurd (Ii h) e]
noncomputable def QN(own:List (Nat×Nat×List V))(k:Nat):Option (Nat×List V):=
 List.rec none (fun x _ ih=>Bool.rec ih (G x.2) (Nat.beq x.1 k)) own
theorem NS{k:Nat}{p:Nat×List V}:∀{own:List (Nat×Nat×List V)},QN own k=G p->(k,p.1,p.2)∈own
 |[],h=>by have:QN [] k=none:=rfl;rw[this] at h;simp at h
 |x::l,h=>by
  have e:QN (x::l) k=Bool.rec (QN l k) (G x.2) (Nat.beq x.1 k):=rfl
  rw[e] at h
  cases hb:Nat.beq x.1 k with
  |false=>rw[hb] at h;exact List.mem_cons_of_mem _ (NS h)
  |true=>
   rw[hb] at h
   have:=Ii hb;subst this
   simp at h;subst h;simp
abbrev Ao(n by':Nat):Prop:=n*by'<=140737488355328/\n<=140737488355328
section
variable {P : x7} {o : yy} {σ : St}
theorem JO{x y:x8}{t:x6}(ho:o.op=.call { callee:=.builtin .append,args:= #[x,y],argTypes:= #[t,t]}){e:x6}{sz by':Nat}{z:yz}(hs:BR P t=G (e,sz,by',G z))(hzc:z.cells.size=sz)
  (k:Nat) (hk:∀x∈σ.own,x.1≠k) (h0:0<sz) {ys:List V} (hsy:∀y∈ys,y.size=sz) (hlen:I ys*by'<=140737488355328) (hlen2:I ys<=140737488355328):
  Ah P o [.v .nils,.v (.list ys)] σ (.acc k ys) ⟨σ.H,(k,sz,ys)::σ.own⟩:=by
 intro E g a w K Q hw hds hK
 simp only[ho,Op.operands,Call.operands] at hds
 obtain⟨u,v,eq,h1,h2⟩:=Au.1 (by simpa using hds)
 simp only[HV,Ix] at eq
 simp only[Ag,CI] at h1 h2
 subst h1
 obtain⟨hw1,hle1⟩:=hw.addOwn (k:=k) (sz:=sz) (xs:=[]) (u:=.slice none 0 0) hk ⟨h0,by simp⟩ (DD _) (.inl ⟨none,rfl⟩) (fun b hb=>by grind[Co])
 obtain⟨u',w',g',hrun,hw',hle,hr⟩:=Nx (P:=P) (ty:=o.type) hw1 hs hzc (k:=k) (xs:=[]) (by simp) hsy (by grind) (by grind) (u:=.slice none 0 0) (by simp) (h2.mono hle1.M)
 have hown:σ.own.map (H3 k sz ys)=σ.own:=by
  conv=>rhs;rw[←List.map_id σ.own]
  grind[List.map_congr_left,H3]
 simp only[List.nil_append,Ik,hown] at hw' hr
 have e1:H3 k sz ys (k,sz,[])=(k,sz,ys):=by simp[H3]
 rw[e1] at hw'
 have:=hK g' w' u' hw' (Gh.le_trans hle1 hle) hr
 unfold Oper.wp execOp
 simp_all[resolve,invoke,builtin,Oper.upon]
theorem M1{t:x6}{parts:Array (Nat×x8)}(ho:o.op=.buildSlice t 0 parts)(hp:parts= #[]){e:x6}{sz by':Nat}{z:Option yz}(hs:BR P t=G (e,sz,by',z))(hsz:0<sz)(k:Nat)(hk:∀x∈σ.own,x.1≠k):
  Ah P o [] σ (.acc k []) ⟨σ.H,(k,sz,[])::σ.own⟩:=by
 intro E g a w K Q hw hds hK
 obtain⟨i,hu,hi,rfl,rfl,rfl⟩:=AE hs
 subst hp
 have hw1:=hw.alloc (.cells #[] e (0,0))
 obtain⟨hw2,hle2⟩:=hw1.addOwn (k:=k) (sz:=i.size) (xs:=[]) (u:=.slice (G ⟨w.heap.size,0,none⟩) 0 0) hk ⟨hsz,by simp⟩ (by grind[B4]) (.inl ⟨_,rfl⟩) (fun b hb=>by grind[Co])
 have:=hK _ _ (.slice (G ⟨w.heap.size,0,none⟩) 0 0) hw2 hle2 (by grind[Ag,B4])
 unfold Oper.wp execOp
 simpa[ho,Instr.buildSlice,run_underlying hu,sizeOf,typeInfo,hi,Instr.fill,newRow,Oper.upon,show Array.range 0= #[] from rfl] using this
end
noncomputable def Ail(P:x7)(t:x6)(q off:Nat)(σ:St)(s:Sc)(K:KO):Prop:=match DU P t with
 |some (1,false)=>(match s with
  |.h (.m d) s=>(match σ.H[q]? with
   |some (some cs)=>cs[off]?=G d/\K s d σ (.load q off 1)
   |_=>False)
  |s=>(match σ.H[q]? with
   |some (some cs)=>(match cs[off]? with
    |some d=>K s d σ (.load q off 1)
    |none=>False)
   |_=>False))
 |some (n,true)=>(match s with
  |.h (.m (.dagg ds)) s=>(match σ.H[q]? with
   |some (some cs)=>off+n<=I cs/\(cs.drop off).take n=ds/\K s (.dagg ds) σ (.load q off n)
   |_=>False)
  |.h (.m (.v (.agg xs))) s=>(match σ.H[q]? with
   |some (some cs)=>off+n<=I cs/\(cs.drop off).take n=xs.map .v/\K s (.v (.agg xs)) σ (.load q off n)
   |_=>False)
  |s=>match σ.H[q]? with
  |some (some cs)=>cond (Nat.ble (off+n) (I cs)) (match D8 ((cs.drop off).take n) with
   |some xs=>K s (.v (.agg xs)) σ (.load q off n)
   |none=>False) False
  |_=>False)
 |_=>False
theorem PI{cs:List D}{off:Nat}{d:D}(h:cs[off]?=G d):off+1<=I cs/\(cs.drop off).take 1=[d]:=by
 grind[List.drop_eq_getElem_cons]
theorem AfC{P:x7}{o:yy}{σ:St}{t:x6}{a:x8}(ho:o.op=.load t a)(ht:DU P t=G (1,false)){q off:Nat}{cs:List D}{d:D}(hq:σ.H[q]?=G (G cs))(hd:cs[off]?=G d):
  re P o [.ptr q off] σ d σ (.load q off 1):=by
 obtain⟨h1,h2⟩:=PI hd
 have hc:=J1 hq h1
 refine⟨rfl,by grind,fun τ hτ=>?_⟩
 rw[hc,h2] at hτ
 obtain⟨cs',h3,h4,h5⟩:=FN hτ
 refine AaN ho ht h3 ?_
 have:((cs'.drop off).take 1)[0]?=G d:=by grind
 grind
theorem AdM{P:x7}{t:x6}{q off:Nat}{σ:St}{s:Sc}{K:KO}(h:Ail P t q off σ s K){o:yy}{a:x8}(ho:o.op=.load t a):jn P o [.ptr q off] σ K:=by
 unfold Ail at h
 split at h
 ·grind[AfC,jn]
 ·rename_i n ht
  split at h
  ·split at h
   ·rename_i cs hq
    obtain⟨hl,hd,h2⟩:=h
    have hc:=J1 hq hl
    refine⟨_,_,_,_,h2,rfl,by grind,fun τ hτ=>?_⟩
    rw[hc] at hτ
    obtain⟨cs',h3,h4,h5⟩:=FN hτ
    exact AaM ho ht h3 h4 (by grind)
   grind
  ·split at h
   ·rename_i cs hq
    obtain⟨hl,hd,h2⟩:=h
    have hc:=J1 hq hl
    refine⟨_,_,_,_,h2,rfl,by grind,fun τ hτ=>?_⟩
    rw[hc] at hτ
    obtain⟨cs',h3,h4,h5⟩:=FN hτ
    exact QS ho ht h3 h4 (by grind[GQ])
   grind
  split at h
  ·rename_i cs hq
   obtain⟨h1,h2⟩:=Ar h
   split at h2
   ·rename_i xs hx
    have hl:=Io h1
    have hc:=J1 hq hl
    refine⟨_,_,_,_,h2,rfl,by grind,fun τ hτ=>?_⟩
    rw[hc] at hτ
    obtain⟨cs',h3,h4,h5⟩:=FN hτ
    exact QS ho ht h3 h4 (by grind[GR])
   grind
  grind
 grind
noncomputable def Zg(P:x7)(t:x6)(q off:Nat)(d:D)(σ:St)(s:Sc)(K:KO):Prop:=match DU P t with
 |some (1,false)=>(match σ.H[q]? with
  |some (some cs)=>cond d.one (match s with
   |.h .w s=>off<I cs/\CR σ.H q (G (cs.set off d)) fun H=>K s .undef ⟨H,σ.own⟩ .eff
   |s=>cond (Nat.blt off (I cs)) (CR cs off d fun cs=>CR σ.H q (G cs) fun H=>K s .undef ⟨H,σ.own⟩ .eff) False) False
  |_=>False)
 |some (n,true)=>(match σ.H[q]? with
  |some (some cs)=>(match s with
   |.h .ww s=>cond (d.sto&&Nat.beq (I (Az d)) n) (off+n<=I cs/\CR σ.H q (G (cs.take off++Az d++cs.drop (off+n))) fun H=>K s .undef ⟨H,σ.own⟩ .eff) False
   |s=>cond (d.sto&&Nat.beq (I (Az d)) n&&Nat.ble (off+n) (I cs)) (AW (cs.take off++Az d++cs.drop (off+n)) fun cs=>CR σ.H q (G cs) fun H=>K s .undef ⟨H,σ.own⟩ .eff) False)
  |_=>False)
 |_=>False
theorem Zf{P:x7}{t:x6}{q off:Nat}{d:D}{σ:St}{s:Sc}{K:KO}(h:Zg P t q off d σ s K){o:yy}{a b:x8}(ho:o.op=.store t a b):jn P o [.ptr q off,d] σ K:=by
 unfold Zg at h
 split at h
 ·rename_i ht
  split at h
  ·rename_i cs hq
   obtain⟨h1,h2⟩:=Ar h
   split at h2
   ·rw[B8] at h2
    exact⟨_,_,_,_,h2.2,QO ho h1 ht hq h2.1⟩
   ·obtain⟨h3,h4⟩:=Ar h2
    rw[B8,B8] at h4
    exact⟨_,_,_,_,h4,QO ho h1 ht hq (Io h3)⟩
  grind
 ·rename_i n ht
  split at h
  ·rename_i cs hq
   split at h
   ·obtain⟨h1,h2,h3⟩:=Ar h
    simp only[HJ] at h1
    rw[B8] at h3
    exact⟨_,_,_,_,h3,L8 ho h1.1 ht (Ii h1.2) hq h2⟩
   obtain⟨h1,h2⟩:=Ar h
   simp only[HJ] at h1
   rw[AQ,B8] at h2
   exact⟨_,_,_,_,h2,L8 ho h1.1.1 ht (Ii h1.1.2) hq (Io h1.2)⟩
  grind
 grind
structure ApG(H H':List (Option (List D)))(q:Nat)(l:List D):Prop where
 eq:H'=H.set q none++[G l]
noncomputable def AnX(P:x7)(t:x6)(x y:D)(σ:St)(s:Sc)(K:KO):Prop:=match BR P t,y with
 |some (_,sz,by',some z),.v (.list ys)=>cond (Nat.beq z.cells.size sz&&Nat.blt 0 sz) (match x with
  |.acc k xs=>(match QN σ.own k with
   |some (sz',xs')=>cond (Nat.beq sz' sz) (xs'=xs/\Ao (I xs+I ys) by'/\(match s with
    |.h .w s=>(∀y∈ys,y.size=sz)/\uv σ.own k sz (xs++ys) fun own=>K s (.acc k (xs++ys)) ⟨σ.H,own⟩ .eff
    |s=>cond (u9 sz ys) (uv σ.own k sz (xs++ys) fun own=>K s (.acc k (xs++ys)) ⟨σ.H,own⟩ .eff) False)) False
   |none=>False)
  |.v .nils=>(match s with
   |.h (.a k) (.h .w s)=>cond (EE σ.own k) (Ao (I ys) by'/\(∀y∈ys,y.size=sz)/\K s (.acc k ys) ⟨σ.H,(k,sz,ys)::σ.own⟩ .eff) False
   |.h (.a k) s=>cond (EE σ.own k&&u9 sz ys) (Ao (I ys) by'/\K s (.acc k ys) ⟨σ.H,(k,sz,ys)::σ.own⟩ .eff) False
   |.h (.gx _ H') s=>ys≠ []/\(∀y∈ys,y.size=sz)/\Ao (I ys) by'/\H'=σ.H++[G (Ab ys)]/\K s (.gro (I σ.H) (I ys) sz) ⟨H',σ.own⟩ .eff
   |.h .g s=>ys≠ []/\(∀y∈ys,y.size=sz)/\Ao (I ys) by'/\AL σ.H (G (Ab ys)) fun H=>K s (.gro (I σ.H) (I ys) sz) ⟨H,σ.own⟩ .eff
   |_=>False)
  |.gro q len sz'=>(match s with
   |.h (.gx cs H') s=>cond (Nat.beq sz' sz) (σ.H[q]?=G (G cs)/\cs.length=len*sz/\ys≠ []/\(∀y∈ys,y.size=sz)/\Ao (len+I ys) by'/\ApG σ.H H' q (cs++Ab ys)/\K s (.gro (I σ.H) (len+I ys) sz) ⟨H',σ.own⟩ .eff) False
   |.h .w s=>(match σ.H[q]? with
    |some (some cs)=>cond (Nat.beq sz' sz) ((len+I ys)*sz<=I cs/\ys≠ []/\(∀y∈ys,y.size=sz)/\CR σ.H q (G (cs.take (len*sz)++Ab ys++cs.drop (len*sz+I (Ab ys)))) fun H=>K s (.gro q (len+I ys) sz) ⟨H,σ.own⟩ .eff) False
    |_=>False)
   |s=>match σ.H[q]? with
   |some (some cs)=>cond (Nat.beq sz' sz) (I cs=len*sz/\ys≠ []/\(∀y∈ys,y.size=sz)/\Ao (len+I ys) by'/\CR σ.H q none fun H=>AL H (G (cs++Ab ys)) fun H=>K s (.gro (I σ.H) (len+I ys) sz) ⟨H,σ.own⟩ .eff) False
   |_=>False)
  |_=>False) False
 |_,_=>False
theorem Aio{P:x7}{t:x6}{x y:D}{σ:St}{s:Sc}{K:KO}(h:AnX P t x y σ s K){o:yy}{a b:x8}(ho:o.op=.call { callee:=.builtin .append,args:= #[a,b],argTypes:= #[t,t]}):jn P o [x,y] σ K:=by
 unfold AnX at h
 split at h
 ·rename_i e sz by' z ys hs
  obtain⟨h1,h2⟩:=Ar h
  simp only[HJ] at h1
  have hz:=Ii h1.1
  have hp:=Io h1.2
  split at h2
  ·rename_i k xs
   split at h2
   ·rename_i sz' xs' hg
    obtain⟨h3,rfl,h4,h5⟩:=Ar h2
    have:=Ii h3;subst this
    have hm:=NS hg
    split at h5
    ·rw[ST] at h5
     exact⟨_,_,_,_,h5.2,QU ho hs hz hm h5.1 h4.1 h4.2⟩
    ·obtain⟨h6,h7⟩:=Ar h5
     rw[ST] at h7
     exact⟨_,_,_,_,h7,QU ho hs hz hm (LL h6) h4.1 h4.2⟩
   grind
  ·split at h2
   ·obtain⟨h3,h4,h5,h6⟩:=Ar h2
    exact⟨_,_,_,_,h6,JO ho hs hz _ (CL h3) hp h5 h4.1 h4.2⟩
   ·obtain⟨h3,h4,h5⟩:=Ar h2
    rw[HJ] at h3
    exact⟨_,_,_,_,h5,JO ho hs hz _ (CL h3.1) hp (LL h3.2) h4.1 h4.2⟩
   ·obtain⟨h3,h4,h5,rfl,h6⟩:=h2
    exact⟨_,_,_,_,h6,Lg ho hs hz hp h4 h3 h5.1 h5.2⟩
   ·obtain⟨h3,h4,h5,h6⟩:=h2
    rw[AK] at h6
    exact⟨_,_,_,_,h6,Lg ho hs hz hp h4 h3 h5.1 h5.2⟩
   grind
  ·rename_i q len sz'
   split at h2
   ·obtain⟨h3,hq,h4,h5,h6,h7,h9,h8⟩:=Ar h2
    have:=Ii h3;subst this
    have e:=h9.eq;subst e
    exact⟨_,_,_,_,h8,M2 ho hs hz hp hq h4 h6 h5 h7.1 h7.2⟩
   ·split at h2
    ·rename_i cs hq
     obtain⟨h3,h4,h5,h6,h7⟩:=Ar h2
     have:=Ii h3;subst this
     rw[B8] at h7
     exact⟨_,_,_,_,h7,SZ ho hs hp hq h4 h6 h5⟩
    grind
   split at h2
   ·rename_i cs hq
    obtain⟨h3,h4,h5,h6,h7,h8⟩:=Ar h2
    have:=Ii h3;subst this
    rw[B8,AK] at h8
    exact⟨_,_,_,_,h8,M2 ho hs hz hp hq h4 h6 h5 h7.1 h7.2⟩
   grind
  grind
 grind
noncomputable def Aik(P:x7)(t:x6)(_ _:yv)(a b:Int)(σ:St)(s:Sc)(K:KO):Prop:=match BR P t with
 |some (_,sz,by',some z)=>(match s with
  |.h (.a k) s=>cond (Nat.blt 0 sz&&EE σ.own k) (a=0/\0<=b/\(by':Int)*b<=281474976710656/\b<=9223372036854775807/\K s (.acc k []) ⟨σ.H,(k,sz,[])::σ.own⟩ .eff) False
  |.h .g s=>(match FK z.cells.toList with
   |some zs=>cond (Nat.beq z.cells.size sz) (a=0/\0<=b/\(by':Int)*b<=281474976710656/\b<=9223372036854775807/\AL σ.H (G ((replicate b.toNat zs).flatten.map .v)) fun H=>K s (.gro (I σ.H) 0 sz) ⟨H,σ.own⟩ .eff) False
   |none=>False)
  |s=>(match RH z with
   |some zv=>cond (Nat.beq sz 1) (a=b/\0<=b/\(by':Int)*b<=281474976710656/\b<=9223372036854775807/\AL σ.H (G (replicate b.toNat (.v zv))) fun H=>K s (.arr (I σ.H) 0 b.toNat) ⟨H,σ.own⟩ .eff) False
   |none=>False))
 |_=>False
theorem AdL{P:x7}{t:x6}{k1 k2:yv}{a b:Int}{σ:St}{s:Sc}{K:KO}(h:Aik P t k1 k2 a b σ s K){o:yy}{x y:x8}(ho:o.op=.makeSlice t x y):jn P o [.v (.int k1 a),.v (.int k2 b)] σ K:=by
 unfold Aik at h
 split at h
 ·rename_i e sz by' z hs
  split at h
  ·obtain⟨h1,rfl,h2,h3,h4,h5⟩:=Ar h
   rw[HJ] at h1
   exact⟨_,_,_,_,h5,Afe ho hs (Io h1.1) _ (CL h1.2) h2 h3 h4⟩
  ·split at h
   ·rename_i zs hzs
    obtain⟨h1,rfl,h2,h3,h4,h5⟩:=Ar h
    rw[AK] at h5
    exact⟨_,_,_,_,h5,Afc ho hs hzs (Ii h1) h2 h3 h4⟩
   grind
  ·split at h
   ·rename_i zv hzv
    obtain⟨h1,rfl,h2,h3,h4,h5⟩:=Ar h
    have:=Ii h1;subst this
    rw[AK] at h5
    exact⟨_,_,_,_,h5,Afd ho hs hzv h2 h3 h4⟩
   grind
 grind
def qOf:List D->Option Nat
 |[]=>none
 |.ptr q _::_=>G q
 |.arr q _ _::_=>G q
 |_::ds=>qOf ds
noncomputable def RT(q:Nat):List D->Option (List D)
 |[]=>G []
 |.ptr q' off::ds=>cond (Nat.beq q' q) (match RT q ds with
  |some dc=>G (.ptr 0 off::dc)
  |none=>none) none
 |.arr q' off len::ds=>cond (Nat.beq q' q) (match RT q ds with
  |some dc=>G (.arr 0 off len::dc)
  |none=>none) none
 |d::ds=>cond d.pl (match RT q ds with
  |some dc=>G (d::dc)
  |none=>none) none
theorem MY{α:Type}{b:Bool}{x:Option α}{r:α}(h:cond b x none=G r):b=J/\x=G r:=by grind
theorem K1{q:Nat}:∀{ds dc:List D},RT q ds=G dc->Eh q ds dc
 |[],dc,h=>by simp[RT] at h;subst h;exact .nil
 |d::ds,dc,h=>by
  unfold RT at h
  split at h
  ·grind
  ·rename_i q' off ds' e;simp only[HV] at e;obtain⟨rfl,rfl⟩:=e
   obtain⟨h1,h2⟩:=MY h
   have:=Ii h1;subst this
   split at h2
   ·rename_i dc' hd;simp at h2;subst h2;exact .ptr (K1 hd)
   grind
  ·rename_i q' off len ds' e;simp only[HV] at e;obtain⟨rfl,rfl⟩:=e
   obtain⟨h1,h2⟩:=MY h
   have:=Ii h1;subst this
   split at h2
   ·rename_i dc' hd;simp at h2;subst h2;exact .arr (K1 hd)
   grind
  ·rename_i d' ds' _ _ e;simp only[HV] at e;obtain⟨rfl,rfl⟩:=e
   obtain⟨h1,h2⟩:=MY h
   split at h2
   ·rename_i dc' hd;simp at h2;subst h2;exact .pl h1 (K1 hd)
   grind
noncomputable def Zu(P:x7)(f:yx)(fs cs:List V)(ds:List D)(σ:St)(s:Sc)(K:KO):Prop:=match s with
 |.h (.ck k k' sz xs) s=>cond (EE σ.own k) (match OZ ds with
  |some ys=>Aa P f ((fs++ys++cs).map .v) ⟨[],[]⟩ (.acc k' xs) ⟨[],[(k',sz,xs)]⟩/\K s (.acc k xs) ⟨σ.H,(k,sz,xs)::σ.own⟩ .eff
  |none=>False) False
 |.h (.ckn k k' sz xs) s=>cond (EE σ.own k) (match D8 ds with
  |some ys=>Aa P f ((fs++ys++cs).map .v) ⟨[],[]⟩ (.acc k' xs) ⟨[],[(k',sz,xs)]⟩/\K s (.acc k xs) ⟨σ.H,(k,sz,xs)::σ.own⟩ .eff
  |none=>False) False
 |.h (.cj j Hc os len) s=>(match OZ ds,Hc[j]? with
  |some ys,some (some os')=>cond (D.pls os') (os=os'/\Aa P f ((fs++ys++cs).map .v) ⟨[],[]⟩ (.arr j 0 len) ⟨Hc,[]⟩/\AL σ.H (G os') fun H=>K s (.arr (I σ.H) 0 len) ⟨H,σ.own⟩ .eff) False
  |_,_=>False)
 |.h (.c1 os' d) s=>(match qOf ds with
  |some q=>(match σ.H[q]?,RT q (ds.map D.un) with
   |some (some os),some dc=>cond (D.pls os&&D.pls os'&&d.pl) (Aa P f (fs.map .v++dc++cs.map .v) ⟨[G os],[]⟩ d ⟨[G os'],[]⟩/\CR σ.H q (G os') fun H=>K s d ⟨H,σ.own⟩ .eff) False
   |_,_=>False)
  |none=>False)
 |.h (.c1k k k' sz os' xs) s=>(match qOf ds with
  |some q=>(match σ.H[q]?,RT q (ds.map D.un) with
   |some (some os),some dc=>cond (D.pls os&&D.pls os'&&EE σ.own k) (Aa P f (fs.map .v++dc++cs.map .v) ⟨[G os],[]⟩ (.acc k' xs) ⟨[G os'],[(k',sz,xs)]⟩/\CR σ.H q (G os') fun H=>K s (.acc k xs) ⟨H,(k,sz,xs)::σ.own⟩ .eff) False
   |_,_=>False)
  |none=>False)
 |s=>AdK P {(default:yy) with op:=.call { callee:=.value (.func f),args:= #[],argTypes:= #[]}} (.v (.fn f fs cs)::ds.map D.un) s fun s d=>K s d σ .pure
theorem Zt{P:x7}{f:yx}{fs cs:List V}{ds:List D}{σ:St}{s:Sc}{K:KO}(h:Zu P f fs cs ds σ s K){o:yy}{c:Call}{fo:x8}(ho:o.op=.call c)(hc:c.callee=.value fo):jn P o (.v (.fn f fs cs)::ds) σ K:=by
 unfold Zu at h
 split at h
 ·obtain⟨h1,h2⟩:=Ar h
  split at h2
  ·rename_i ys hy
   refine⟨_,_,_,_,h2.2,BQ (fun g us hr=>?_) (Lf (ds:=ys.map .v) ho hc (Ca ys) _ (CL h1) (by simpa[IZ] using h2.1))⟩
   grind[Af,FQ]
  grind
 ·obtain⟨h1,h2⟩:=Ar h
  split at h2
  ·rename_i ys hy
   refine⟨_,_,_,_,h2.2,BQ (fun g us hr=>?_) (Lf (ds:=ys.map .v) ho hc (Ca ys) _ (CL h1) (by simpa[IZ] using h2.1))⟩
   grind[Af,LU]
  grind
 ·split at h
  ·rename_i ys os' hy hj
   obtain⟨h1,_,h2,h3⟩:=Ar h
   rw[AK] at h3
   refine⟨_,_,_,_,h3,BQ (fun g us hr=>?_) (EP (ds:=ys.map .v) ho hc (Ca ys) hj h1 (by simpa[IZ] using h2))⟩
   grind[Af,FQ]
  grind
 ·split at h
  ·rename_i q hq
   split at h
   ·rename_i os dc hos hdc
    obtain⟨h1,h2,h3⟩:=Ar h
    simp only[HJ] at h1
    rw[B8] at h3
    refine⟨_,_,_,_,h3,BQ (fun g us hr=>?_) (JM (ds:=ds.map D.un) ho hc hos h1.1.1 h1.1.2 (K1 hdc) h1.2 h2)⟩
    grind[Af,ES]
   grind
  grind
 ·split at h
  ·rename_i q hq
   split at h
   ·rename_i os dc hos hdc
    obtain⟨h1,h2,h3⟩:=Ar h
    simp only[HJ] at h1
    rw[B8] at h3
    refine⟨_,_,_,_,h3,BQ (fun g us hr=>?_) (QT (ds:=ds.map D.un) ho hc hos h1.1.1 h1.1.2 (K1 hdc) _ (CL h1.2) h2)⟩
    grind[Af,ES]
   grind
  grind
 ·have h':AdQ P f fs cs (ds.map D.un) _ (fun s d=>K s d σ .pure):=h
  obtain⟨s',d,h1,h2⟩:=TW h' ho hc
  refine⟨_,_,_,_,h1,rfl,fun τ=>BQ (fun g us hr=>?_) (h2 τ)⟩
  grind[Af,ES]
noncomputable def S1(P:x7)(t:x6)(len:Nat)(ps:List (Nat×x8))(ds:List D)(k:Nat)(σ:St)(s:Sc)(K:KO):Prop:=match BR P t with
 |some (_,sz,_,z)=>cond (EE σ.own k&&Nat.blt 0 sz) (match len with
  |0=>(match ps,ds with
   |[],[]=>K s (.acc k []) ⟨σ.H,(k,sz,[])::σ.own⟩ .eff
   |_,_=>False)
  |len+1=>(match D8 ds with
   |some xs=>cond (ut ps 0&&Nat.beq (I ps) (len+1)&&z.isSome&&Nat.ble ((len+1)*sz) 1000&&u9 sz xs) (K s (.acc k xs) ⟨σ.H,(k,sz,xs)::σ.own⟩ .eff) False
   |none=>False)) False
 |none=>False
theorem W7{P:x7}{t:x6}{len:Nat}{ps:Array (Nat×x8)}{ds:List D}{k:Nat}{σ:St}{s:Sc}{K:KO}(h:S1 P t len ps.toList ds k σ s K){o:yy}(ho:o.op=.buildSlice t len ps):jn P o ds σ K:=by
 unfold S1 at h
 split at h
 ·rename_i e sz by' z hs
  obtain⟨h1,h2⟩:=Ar h
  rw[HJ] at h1
  have hp:=Io h1.2
  split at h2
  ·split at h2
   ·rename_i hps
    exact⟨_,_,_,_,h2,M1 ho (by grind) hs hp _ (CL h1.1)⟩
   grind
  ·rename_i len
   split at h2
   ·rename_i xs hx
    obtain⟨h3,h4⟩:=Ar h2
    simp only[HJ] at h3
    obtain⟨⟨⟨⟨g1,g2⟩,g3⟩,g5⟩,g6⟩:=h3
    have hl:ps.size=len+1:=by simp_all
    exact⟨_,_,_,_,h4,N6 ho (SL g1) hl hs g3 (GR hx) (LL g6) (by omega) hp (by simp_all) _ (CL h1.1)⟩
   grind
 grind
noncomputable def vP(P:x7)(o:yy)(ds:List D)(σ:St)(s:Sc)(K:KO):Prop:=AdK P o (ds.map D.un) s fun s d=>K s d σ .pure
theorem Sy{P:x7}{o:yy}{ds:List D}{σ:St}{s:Sc}{K:KO}(h:vP P o ds σ s K):jn P o ds σ K:=by
 obtain⟨s',d,h1,h2⟩:=AdJ h
 exact⟨_,_,_,_,h1,rfl,fun τ=>Tb (h2 τ)⟩
noncomputable def Aip(P:x7)(t tn:x6)(n:Int)(σ:St)(s:Sc)(K:KO):Prop:=match BR P t,P.underlying tn with
 |some (_,sz,by',some z),some (.int _)=>cond (Nat.beq z.cells.size sz&&Nat.blt 0 sz) (0<n/\Ao n.toNat by'/\AL σ.H (G []) fun H=>K s (.gro (I σ.H) n.toNat sz) ⟨H,σ.own⟩ .eff) False
 |_,_=>False
theorem AdS{P:x7}{t tn:x6}{kd:yv}{n:Int}{σ:St}{s:Sc}{K:KO}(h:Aip P t tn n σ s K){o:yy}{a b:x8}(ho:o.op=.call { callee:=.builtin .append,args:= #[a,b],argTypes:= #[t,tn]}):jn P o [.v .nils,.v (.int kd n)] σ K:=by
 unfold Aip at h
 split at h
 ·rename_i e sz by' z k hs hu
  obtain⟨h1,h2,h3,h4⟩:=Ar h
  rw[HJ] at h1
  rw[AK] at h4
  exact⟨_,_,_,_,h4,Xe ho hs (Ii h1.1) (Io h1.2) hu h2 h3.1 h3.2⟩
 grind
noncomputable def Apz(P:x7)(t:x6)(s:Sc)(σ:St)(K:KO):Prop:=match P.underlying t with
 |some (.slice _)=>K s (.v (.int .i64 0)) σ .pure
 |_=>False
noncomputable def xl(P:x7)(t:x6)(x:D)(i:Int)(σ:St)(s:Sc)(K:KO):Prop:=match x with
 |.v .nils=>(match P.underlying t with
  |some (.slice e)=>(match P.info? e with
   |some _=>i=0/\K s (.v .nils) σ .pure
   |none=>False)
  |_=>False)
 |.gro q _ sz=>(match s,BR P t,σ.H[q]? with
  |.h (.a k) s,some (_,sz',_,_),some (some _)=>cond (Nat.beq sz' sz&&Nat.blt 0 sz&&EE σ.own k) (i=0/\CR σ.H q none fun H=>K s (.acc k []) ⟨H,(k,sz,[])::σ.own⟩ .eff) False
  |_,_,_=>False)
 |_=>False
theorem Aig{P:x7}{t:x6}{x:D}{kd:yv}{i:Int}{σ:St}{s:Sc}{K:KO}(h:xl P t x i σ s K){o:yy}{a b:x8}(ho:o.op=.slice t a none (G b) none):jn P o [x,.v (.int kd i)] σ K:=by
 unfold xl at h
 split at h
 ·split at h
  ·rename_i e hu
   split at h
   ·rename_i inf hi
    obtain⟨rfl,h⟩:=h
    exact⟨_,_,_,_,h,rfl,fun τ=>QP ho hu hi⟩
   grind
  grind
 ·rename_i q len sz
  split at h
  ·rename_i k s' e sz' by' z cs hs hq
   obtain⟨h1,rfl,h2⟩:=Ar h
   simp only[HJ] at h1
   have:=Ii h1.1.1;subst this
   rw[B8] at h2
   exact⟨_,_,_,_,h2,Xb ho hs (Io h1.1.2) hq _ (CL h1.2)⟩
  grind
 grind
section
variable {P : x7} {o : yy} {σ : St}
theorem CT{t:x6}{x:x8}{lo hi:Option x8}(ho:o.op=.slice t x lo hi none){e:x6}{sz by':Nat}{z:Option yz}(hs:BR P t=G (e,sz,by',z)){q off len:Nat}
  (l h:Option (yv×Int)) (hlo:lo.isSome=l.isSome) (hhi:hi.isSome=h.isSome) {l' h':Nat} (hb:C9 len (l.map (·.2)) (h.map (·.2))=G (l',h')) (hlt:l'<len):
  Ah P o (.arr q off len::(EM l++EM h)) σ (.arr q (off+l'*sz) (h'-l')) σ:=by
 refine A5 fun E g ρ w hw hds=>?_
 obtain⟨i,hu,hi',hsz,_,_⟩:=AE hs
 have hb2:=hb
 unfold C9 at hb2
 simp only at hb2
 split at hb2
 case isFalse=>grind
 rename_i hcond
 simp only[Ir,Prod.mk.injEq] at hb2
 have main:∀u (lv hv:Option yz),ρ x=u->lv=l.map (fun p=>Value.int p.1 p.2)->hv=h.map (fun p=>Value.int p.1 p.2)->lo.map ρ=lv->hi.map ρ=hv->Ag g (.arr q off len) u->
   ∃u,(execOp ρ o).run P w=.ok (.value u) w/\Ag g (.arr q (off+l'*sz) (h'-l')) u:=by
  intro u lv hv eu el eh e1 e2 hr
  simp only[Ag] at hr⊢
  obtain⟨hq,cap,hc,rfl⟩:=hr
  refine⟨.slice (G ⟨g.β q,off+l'*sz,none⟩) (h'-l') (cap-l'),?_,hq,cap-l',by omega,rfl⟩
  have hbr:=E5 (P:=P) w true len cap hc l h hb
  simp only[execOp,ho,eu,e1,e2,el,eh,Jw,Instr.sliceAt,Instr.slice,Sem.run_bind,run_underlying hu,Result.andThen_ok,hbr]
  simp[sizeOf,typeInfo,hi',hsz,show ¬cap=l' by omega,Addr.add_lit]
 simp only[ho,Op.operands] at hds
 cases lo with
 |none=>
  cases l with
  |some _=>grind
  |none=>
   cases hi with
   |none=>
    cases h<;>grind[AB,EM]
   |some ho'=>
    cases h<;>grind[Au,EM,Ag,AC]
 |some lo'=>
  cases l with
  |none=>grind
  |some lq=>
   cases hi with
   |none=>
    cases h<;>grind[Au,EM,Ag,AC]
   |some ho'=>
    cases h with
    |none=>grind
    |some p=>
     obtain⟨u,v,v2,eu,h1,h2,h3⟩:=ET.1 (by simpa[EM] using hds)
     grind[Ag,AC]
end
noncomputable def xk(P:x7)(t:x6)(q off n:Nat)(i:Int)(σ:St)(s:Sc)(K:KO):Prop:=match BR P t with
 |some (_,sz,_,_)=>0<=i/\i<(n:Int)/\K s (.arr q (off+i.toNat*sz) (n-i.toNat)) σ .pure
 |none=>False
theorem Aif{P:x7}{t:x6}{q off n:Nat}{kd:yv}{i:Int}{σ:St}{s:Sc}{K:KO}(h:xk P t q off n i σ s K){o:yy}{a b:x8}(ho:o.op=.slice t a (G b) none none):jn P o [.arr q off n,.v (.int kd i)] σ K:=by
 unfold xk at h
 split at h
 ·rename_i e sz by' z hs
  obtain⟨h1,h2,h3⟩:=h
  refine⟨_,_,_,_,h3,rfl,fun τ=>?_⟩
  have hb:C9 n ((G (kd,i)).map (·.2)) ((none:Option (yv×Int)).map (·.2))=G (i.toNat,n):=by
   grind[C9]
  have:=CT (σ:=τ) (q:=q) (off:=off) ho hs (G (kd,i)) none rfl rfl hb (by omega)
  grind[EM]
 grind
theorem Ai5{g:Gh}{q n sz:Nat}{u:yz}(h:Ag g (.gro q n sz) u):Ag g (.arr q 0 n) u:=by
 grind[Ag]
theorem Aie{P:x7}{q n sz:Nat}{ds:List D}{o:yy}{σ:St}{K:KO}(h:jn P o (.arr q 0 n::ds) σ K):jn P o (.gro q n sz::ds) σ K:=by
 have hsub:∀g us,Af g (.gro q n sz::ds) us->Af g (.arr q 0 n::ds) us:=fun g us hr=>by
  grind[Af,Ai5]
 obtain⟨s',d,σ',kd,h5,h6⟩:=h
 refine⟨s',d,σ',kd,h5,?_⟩
 cases kd with
 |pure=>exact⟨h6.1,fun τ=>BQ hsub (h6.2 τ)⟩
 |load q off n=>grind[BQ,re]
 |eff=>exact BQ hsub h6
noncomputable def xm(P:x7)(im:List Nat)(o:yy)(ds:List D)(σ:St)(s:Sc)(K:KO):Prop:=match s with
 |.h (.o d σ') s=>Ah P o ds σ d σ'/\K s d σ' .eff
 |.h (.p d) s=>(∀τ,Ah P o ds τ d τ)/\K s d σ .pure
 |s=>match o.op with
  |.move _=>(match ds with
   |[d]=>K s d σ .pure
   |_=>False)
  |.assign _=>(match ds with
   |[d]=>K s d σ .pure
   |_=>False)
  |.pick _ _ _=>(match ds with
   |[.v (.bool b),d1,d2]=>Bool.rec (K s d2 σ .pure) (K s d1 σ .pure) b
   |_=>False)
  |.box _ _=>(match ds,o.dst with
   |[d],some t=>Bool.rec (cond d.sto (AW (Az d) fun cs=>AL σ.H (G cs) fun H=>K s (.ptr (I σ.H) 0) ⟨H,σ.own⟩ .eff) False) (match d.toV with
    |some y=>K s (.v (.ref y)) σ .pure
    |none=>False) (Ap2 im t)
   |_,_=>False)
  |.alloc e=>(match ds,OO P e with
   |[],some xs=>AW (xs.map .v) fun cs=>AL σ.H (G cs) fun H=>K s (.ptr (I σ.H) 0) ⟨H,σ.own⟩ .eff
   |_,_=>False)
  |.store t _ _=>(match ds with
   |[.ptr q off,d]=>Zg P t q off d σ s K
   |_=>False)
  |.load t _=>(match ds with
   |[.ptr q off]=>Ail P t q off σ s K
   |ds=>vP P o ds σ s K)
  |.makeSlice t _ _=>(match ds with
   |[.v (.int k1 a),.v (.int k2 b)]=>Aik P t k1 k2 a b σ s K
   |_=>False)
  |.build t ps=>(match s with
   |.h .g s=>cond (P8 P t) (match Yy P t,oy ps.toList ds with
    |some (z,ay),some xs=>(match X5 ay (z.map .v) xs with
     |some out=>AW out fun out=>K s (.dagg out) σ .pure
     |none=>False)
    |_,_=>False) False
   |s=>vP P o ds σ s K)
  |.buildSlice t len ps=>(match s with
   |.h (.a k) s=>S1 P t len ps.toList ds k σ s K
   |.h .g s=>(match len,ps.toList,ds,BR P t with
    |0,[],[],some (_,sz,_,_)=>AL σ.H (G []) fun H=>K s (.gro (I σ.H) 0 sz) ⟨H,σ.own⟩ .eff
    |_,_,_,_=>False)
   |s=>vP P o ds σ s K)
  |.slice t _ none (some _) none=>(match ds with
   |[.v .nils,.v (.int _ i)]=>xl P t (.v .nils) i σ s K
   |[.gro q n sz,.v (.int _ i)]=>xl P t (.gro q n sz) i σ s K
   |ds=>vP P o ds σ s K)
  |.slice t _ (some _) none none=>(match ds with
   |[.gro q n _,.v (.int _ i)]=>xk P t q 0 n i σ s K
   |[.arr q off n,.v (.int _ i)]=>xk P t q off n i σ s K
   |ds=>vP P o ds σ s K)
  |.call c=>(match c.callee,ds with
   |.builtin .append,[.v .nils,.v (.int _ n)]=>(match c.args.toList,c.argTypes.toList with
    |[_,_],[t,t']=>Aip P t t' n σ s K
    |_,_=>False)
   |.builtin .append,[x,y]=>(match c.args.toList,c.argTypes.toList with
    |[_,_],[t,t']=>cond (Nat.beq t t') (AnX P t x y.un σ s K) False
    |_,_=>False)
   |.builtin .cap,[.v .nils]=>(match c.args.toList,c.argTypes.toList with
    |[_],[t]=>Apz P t s σ K
    |_,_=>False)
   |.value _,.v (.fn f fs cs)::ds=>Zu P f fs cs ds σ s K
   |_,ds=>vP P o ds σ s K)
  |_=>vP P o ds σ s K
theorem Zk{P:x7}{im:List Nat}{o:yy}{ds:List D}{σ:St}{s:Sc}{K:KO}(h:xm P im o ds σ s K):jn P o ds σ K:=by
 unfold xm at h
 split at h
 ·exact⟨_,_,_,_,h.2,h.1⟩
 ·exact⟨_,_,_,_,h.2,rfl,h.1⟩
 ·split at h
  ·rename_i x ho
   split at h
   ·exact⟨_,_,_,_,h,rfl,fun τ=>Pw ho⟩
   grind
  ·rename_i x ho
   split at h
   ·exact⟨_,_,_,_,h,rfl,fun τ=>JN ho⟩
   grind
  ·rename_i x y z ho
   split at h
   ·rename_i b d1 d2
    cases b
    ·exact⟨_,_,_,_,h,rfl,fun τ=>SX ho (b:=false)⟩
    ·exact⟨_,_,_,_,h,rfl,fun τ=>SX ho (b:=true)⟩
   grind
  ·rename_i e x ho
   split at h
   ·rename_i d t _
    cases hm:Ap2 im t with
    |false=>
     rw[hm] at h
     obtain⟨h1,h2⟩:=Ar h
     rw[AQ,AK] at h2
     exact⟨_,_,_,_,h2,Al5 ho h1⟩
    |true=>
     rw[hm] at h
     simp only at h
     split at h
     ·rename_i y hy;exact⟨_,_,_,_,h,rfl,fun τ=>AiR ho hy⟩
     grind
   grind
  ·rename_i e ho
   split at h
   ·rename_i xs hz
    rw[AQ,AK] at h
    exact⟨_,_,_,_,h,M3 ho hz⟩
   grind
  ·grind[Zf]
  ·grind[AdM,Sy]
  ·grind[AdL]
  ·rename_i t ps ho
   split at h
   ·obtain⟨hst,h⟩:=Ar h
    split at h
    ·rename_i z ay xs hb hx
     split at h
     ·rename_i out hf
      rw[AQ] at h
      exact⟨_,_,_,_,h,rfl,fun τ=>AaT ho hst hb hx hf⟩
     grind
    grind
   grind[Sy]
  ·rename_i t len ps ho
   split at h
   ·grind[W7]
   ·split at h
    ·have hps:ps.toList=[]:=by omega
     have hs:=(by assumption:BR P t=_)
     rw[AK] at h
     exact⟨_,_,_,_,h,M0 ho (by grind) hs⟩
    grind
   grind[Sy]
  ·grind[Aig,Sy]
  ·grind[Aie,Aif,Sy]
  ·rename_i c ho
   have mk2:∀{b:Builtin} {x y:x8} {t t':x6},c.callee=.builtin b->c.args.toList=[x,y]->c.argTypes.toList=[t,t']->o.op=.call { callee:=.builtin b,args:= #[x,y],argTypes:= #[t,t']}:=by
    intro b x y t t' hc h1 h2
    rw[ho];cases c;simp only at hc h1 h2;subst hc
    congr 2
    all_goals grind
   split at h
   ·rename_i kd n hc
    split at h
    all_goals grind[AdS]
   ·rename_i x y _ hc
    split at h
    ·rename_i a b t t' h1 h2
     obtain⟨h3,h4⟩:=Ar h
     have:=Ii h3;subst this
     have hoo:o.op=.call { callee:=.builtin .append,args:= #[a,b],argTypes:= #[t,t]}:=by
      grind
     obtain⟨s',d,σ',kd,h5,h6⟩:=Aio h4 hoo
     have hsub:∀g us,Af g [x,y] us->Af g [x,y.un] us:=fun g us hr=>by
      grind[Po,Af]
     refine⟨s',d,σ',kd,h5,?_⟩
     cases kd with
     |pure=>exact⟨h6.1,fun τ=>BQ hsub (h6.2 τ)⟩
     |load q off n=>grind[BQ,re]
     |eff=>exact BQ hsub h6
    grind
   ·rename_i hc
    split at h
    ·rename_i x t h1 h2
     unfold Apz at h
     split at h
     ·rename_i e hu
      refine⟨_,_,_,_,h,rfl,fun τ=>Xd (x:=x) (t:=t) ?_ hu⟩
      rw[ho];cases c;simp only at hc h1 h2;subst hc
      congr 2
      all_goals grind
     grind
    grind
   all_goals grind[Zt,Sy]
  grind[Sy]
def vm:Op->Bool
 |.call c=>(match c.callee with|.value _=>true|_=>false)
 |_=>false
theorem Al6{o:Op}(h:vm o=J):∃(c:Call) (fo:x8),o=.call c/\c.callee=.value fo:=by
 cases o<;>simp only[vm] at h<;>try (simp at h;done)
 grind
noncomputable def ju(P:x7)(im:List Nat)(o:yy)(ds:List D)(σ:St)(s:Sc)(K:KO):Prop:=match s with
 |.h (.oc d σ') s'=>Bool.rec (xm P im o ds σ (.h (.oc d σ') s') K) ((∀(o:yy) (c:Call) (fo:x8),o.op=.call c->c.callee=.value fo->Ah P o ds σ d σ')/\K s' d σ' .eff) (vm o.op)
 |s=>xm P im o ds σ s K
theorem CH{P:x7}{im:List Nat}{o:yy}{ds:List D}{σ:St}{s:Sc}{K:KO}(h:ju P im o ds σ s K):jn P o ds σ K:=by
 unfold ju at h
 split at h
 ·rename_i d σ' s'
  cases hq:vm o.op with
  |true=>
   rw[hq] at h
   obtain⟨h1,h2⟩:=(h:(∀(o:yy) (c:Call) (fo:x8),o.op=.call c->c.callee=.value fo->Ah P o ds σ d σ')/\K s' d σ' .eff)
   obtain⟨c,fo,e1,e2⟩:=Al6 hq
   exact⟨_,_,_,_,h2,h1 _ _ _ e1 e2⟩
  |false=>
   rw[hq] at h
   exact Zk h
 grind[Zk]
end Go.Nv
