/-
  A part of the proof.
-/
import Derived.Test.YtpmahmngmgnnbaaGreatDoorZa
import Derived.Laws.CopyRow
import Derived.Lib.AppendZeros
namespace Go.Dv
open List (getElem?_set replicate)
open Go.IntKind (wrap)
def EL:List (Option (List D))->List Nat->List (Option (List D))->List (Option (List D))
 |H,q::qs,o::os=>EL (H.set q o) qs os
 |H,[],os=>H++os
 |H,_::_,[]=>H
def rho(n:Nat)(qs:List Nat)(j:Nat):Nat:=match qs[j]? with
 |some q=>q
 |none=>n+(j-qs.length)
theorem GY:∀(qs:List Nat) (H os:List (Option (List D))),qs.length<=os.length->(EL H qs os).length=H.length+(os.length-qs.length)
 |[],H,os,_=>by simp[EL]
 |q::qs,H,[],h=>by simp at h
 |q::qs,H,o::os,h=>by
  simp only[EL]
  rw[GY qs _ os (by simpa using h)]
  simp
theorem Mu:∀(qs:List Nat) (H os:List (Option (List D))),qs.length<=os.length->∀{i:Nat} {cs:List D},(EL H qs os)[i]?=some (some cs)->
  (∃j,rho H.length qs j=i/\os[j]?=some (some cs))∨(i<H.length/\i∉qs/\H[i]?=some (some cs))
 |[],H,os,_,i,cs,h=>by
  simp only[EL] at h
  by_cases hi:i<H.length
  ·rw[HK hi] at h
   exact .inr ⟨hi,by simp,h⟩
  ·rw[HH (by omega)] at h
   exact .inl ⟨i-H.length,by simp[rho];omega,h⟩
 |q::qs,H,[],h,_,_,_=>by simp at h
 |q::qs,H,o::os,h,i,cs,hg=>by
  simp only[EL] at hg
  rcases Mu qs (H.set q o) os (by simpa using h) hg with⟨j,h1,h2⟩|⟨h1,h2,h3⟩
  ·refine .inl ⟨j+1,?_,by simpa using h2⟩
   rw[←h1]
   simp[rho]
  ·simp only[List.length_set] at h1
   rw[getElem?_set] at h3
   split at h3
   ·rename_i e;subst e
    simp only[h1,I6,HU] at h3
    exact .inl ⟨0,by simp[rho],by simp[h3]⟩
   ·rename_i e
    exact .inr ⟨h1,by simp only[Ib,not_or];exact⟨fun e'=>e e'.symm,h2⟩,h3⟩
def gIn(g:Gh)(qs:List Nat):Gh:={ M:=g.M,β:=fun j=>g.β (qs.getD j 0),n:=qs.length,ι:=fun _ _=>none,κ:=fun j=>g.κ (qs.getD j 0)}
theorem Dg{qs:List Nat}{j q:Nat}(h:qs[j]?=some q):qs.getD j 0=q:=by simp[H6,h]
theorem WRep.callee{g:Gh}{σ σc:St}{w:World}(h:WRep g σ w){qs:List Nat}(hnd:qs.Nodup)(hown:σc.own=[])(hlen:σc.H.length=qs.length)
  (hq:∀(j q:Nat) (csc:List D),qs[j]?=some q->σc.H[j]?=some (some csc)->∃cs,σ.H[q]?=some (some cs)/\(∀us,Ab g cs us->Ab (gIn g qs) csc us)/\∀c∈csc,c.one=true):WRep (gIn g qs) σc w where
 n:=hlen.symm
 mem:=h.mem
 gl:=h.gl
 gw:=h.gw
 obj:=fun j csc hj=>by
  have hlt:j<qs.length:=by rw[←hlen];exact(H0.1 hj).1
  have hqj:qs[j]?=some qs[j]:=Hx hlt
  obtain⟨cs,h1,h2,h3⟩:=hq j _ csc hqj hj
  obtain⟨us,rest,e,hb,hr,_,hM,hκ⟩:=h.obj _ cs h1
  have e1:(gIn g qs).β j=g.β qs[j]:=by simp only[gIn,Dg hqj]
  have e2:(gIn g qs).κ j=g.κ qs[j]:=by simp only[gIn,Dg hqj]
  exact⟨us,rest,e,by rw[e1];exact hb,h2 us hr,h3,by rw[e1];exact hM,by rw[e2];exact hκ⟩
 inj:=fun i j c1 c2 hi hj hij=>by
  have hlti:i<qs.length:=by rw[←hlen];exact(H0.1 hi).1
  have hltj:j<qs.length:=by rw[←hlen];exact(H0.1 hj).1
  have hqi:qs[i]?=some qs[i]:=Hx hlti
  have hqj:qs[j]?=some qs[j]:=Hx hltj
  obtain⟨ci,h1,_⟩:=hq i _ c1 hqi hi
  obtain⟨cj,h2,_⟩:=hq j _ c2 hqj hj
  simp only[gIn,Dg hqi,Dg hqj] at hij
  have:=h.inj _ _ _ _ h1 h2 hij
  exact(List.getElem_inj hnd).1 this
 own:=fun k sz xs hx=>by rw[hown] at hx;simp at hx
 tags:=by rw[hown];simp
 sep:=fun x hx=>by rw[hown] at hx;simp at hx
 ownObj:=fun x hx=>by rw[hown] at hx;simp at hx
 fresh:=fun _ _ _=>rfl
def C6(g gc':Gh)(k:Nat)(own':List (Nat×Nat×List V))(τ:Nat->Nat):Gh:=
 { M:=gc'.M,n:=g.n+(gc'.n-k),β:=fun j=>if j<g.n then g.β j else gc'.β (k+(j-g.n)),κ:=fun j=>if j<g.n then g.κ j else gc'.κ (k+(j-g.n)),ι:=fun t m=>match own'.find? (fun x=>τ x.1==t) with|some x=>gc'.ι x.1 m|none=>g.ι t m }
theorem Vj{own':List (Nat×Nat×List V)}{τ:Nat->Nat}(hτ:∀x∈own',∀y∈own',τ x.1=τ y.1->x.1=y.1){y:Nat×Nat×List V}(hy:y∈own'):∃x,own'.find? (fun x=>τ x.1==τ y.1)=some x/\x.1=y.1:=by
 cases h:own'.find? (fun x=>τ x.1==τ y.1) with
 |none=>have:=List.find?_eq_none.1 h y hy;simp at this
 |some x=>exact⟨x,rfl,hτ x (List.mem_of_find?_eq_some h) y hy (by have:=List.find?_some h;simpa using this)⟩
theorem S3{own':List (Nat×Nat×List V)}{τ:Nat->Nat}{t:Nat}(h:∀x∈own',τ x.1≠t):own'.find? (fun x=>τ x.1==t)=none:=List.find?_eq_none.2 fun x hx=>by simp[h x hx]
def FW(τ:Nat->Nat)(own':List (Nat×Nat×List V)):List (Nat×Nat×List V):=own'.map fun x=>(τ x.1,x.2)
theorem CI{g gc':Gh}{k:Nat}{own':List (Nat×Nat×List V)}{τ:Nat->Nat}(hτ:∀x∈own',∀y∈own',τ x.1=τ y.1->x.1=y.1){y:Nat×Nat×List V}(hy:y∈own')(m:Nat):(C6 g gc' k own' τ).ι (τ y.1) m=gc'.ι y.1 m:=by
 obtain⟨x,h1,h2⟩:=Vj hτ hy
 simp only[C6,h1,h2]
theorem AX{g gc':Gh}{k:Nat}{own':List (Nat×Nat×List V)}{τ:Nat->Nat}{t:Nat}(h:∀x∈own',τ x.1≠t)(m:Nat):(C6 g gc' k own' τ).ι t m=g.ι t m:=by
 simp only[C6,S3 h]
theorem WI.back{E:Ent}{g gc':Gh}{σ σc σc':St}{w w':World}(hw:WI E g σ w){qs:List Nat}(hown:σc.own=[])(hlen:σc.H.length=qs.length)
  (hq:∀(j q:Nat),qs[j]?=some q->∃cs,σ.H[q]?=some (some cs)) (h:WI ⟨gIn g qs,w,σc⟩ gc' σc' w') {τ:Nat->Nat} (hτ:∀x∈σc'.own,∀y∈σc'.own,τ x.1=τ y.1->x.1=y.1)
  (hfr:∀x∈σc'.own,∀y∈σ.own,τ x.1≠y.1) {H2:List (Option (List D))} (hlen2:H2.length=σc'.H.length)
  (hout:∀(j:Nat) (cs2:List D),H2[j]?=some (some cs2)->∃csc,σc'.H[j]?=some (some csc)/\(∀us,Ab gc' csc us->Ab (C6 g gc' qs.length σc'.own τ) cs2 us)/\∀c∈cs2,c.one=true):
  WI E (C6 g gc' qs.length σc'.own τ) ⟨EL σ.H qs H2,FW τ σc'.own++σ.own⟩ w'/\g.le (C6 g gc' qs.length σc'.own τ):=by
 have hn':gc'.n=σc'.H.length:=h.rep.n
 have hkn:qs.length<=gc'.n:=h.nE
 have hgn:g.n=σ.H.length:=hw.rep.n
 have hold:∀y∈σ.own,∀x∈σc'.own,τ x.1≠y.1:=fun y hy x hx=>hfr x hx y hy
 have hle:g.le (C6 g gc' qs.length σc'.own τ):=by
  refine⟨h.M,Nat.le_add_right _ _,fun o ho=>HJ ho,fun t m u ht=>?_,fun o ho=>HJ ho⟩
  by_cases hx:∃x∈σc'.own,τ x.1=t
  ·obtain⟨x,hx,rfl⟩:=hx
   rw[hw.rep.fresh (τ x.1) (fun y hy e=>hfr x hx y hy e.symm) m] at ht
   simp at ht
  ·rw[AX (fun x hx' e=>hx ⟨x,hx',e⟩)];exact ht
 -- the callee's blocks
 have hpriv:∀b,Ent.priv ⟨gIn g qs,w,σc⟩ b->∃(j q:Nat),qs[j]?=some q/\b=g.β q:=by
  rintro b (⟨j,cs,hj,e⟩|⟨x,hx,_⟩)
  ·have hlt:j<qs.length:=by rw[←hlen];exact(H0.1 hj).1
   have hqj:qs[j]?=some qs[j]:=Hx hlt
   exact⟨j,_,hqj,by rw[e];simp only[gIn,Dg hqj]⟩
  ·simp only[hown] at hx;simp at hx
 have hβ:∀j,j<gc'.n->(C6 g gc' qs.length σc'.own τ).β (rho σ.H.length qs j)=gc'.β j/\(C6 g gc' qs.length σc'.own τ).κ (rho σ.H.length qs j)=gc'.κ j:=by
  intro j hj
  by_cases hlt:j<qs.length
  ·have hqj:qs[j]?=some qs[j]:=Hx hlt
   obtain⟨cs,hcs⟩:=hq j _ hqj
   have h1:qs[j]<g.n:=hw.rep.lt_n hcs
   have h2:=h.βE j hlt
   have h3:=h.κE j hlt
   simp only[gIn,Dg hqj] at h2 h3
   simp only[rho,hqj,C6,HJ h1,h2,h3,and_self]
  ·have hqj:qs[j]?=none:=Ik (by omega)
   have h1:¬σ.H.length+(j-qs.length)<g.n:=by omega
   have h2:qs.length+(σ.H.length+(j-qs.length)-g.n)=j:=by omega
   simp only[rho,hqj,C6,HF h1,h2,and_self]
 -- what a block of the callee can be
 have hobjc:∀(j:Nat) (csc:List D),σc'.H[j]?=some (some csc)->w.heap.size<=gc'.β j∨∃(j' q:Nat),qs[j']?=some q/\gc'.β j=g.β q:=by
  intro j csc hj
  rcases h.objs j csc hj with h1|h1
  ·exact .inl h1
  ·exact .inr (hpriv _ h1)
 have hownc:∀x∈σc'.own,∀u,gc'.ι x.1 x.2.2.length=some u->∀b,B8 u=some b->w.heap.size<=b∨∃(j' q:Nat),qs[j']?=some q/\b=g.β q:=by
  intro x hx u hu b hb
  rcases h.owns x hx u hu b hb with h1|h1
  ·exact .inl h1
  ·exact .inr (hpriv _ h1)
 have hoff:∀(i:Nat) (cs:List D),σ.H[i]?=some (some cs)->i∉qs->∀(j q:Nat),qs[j]?=some q->g.β i≠g.β q:=by
  intro i cs hi hni j q hj e
  obtain⟨c2,h2⟩:=hq j q hj
  have:=hw.rep.inj i q _ _ hi h2 e
  subst this
  exact hni (H4 hj)
 have keepOld:∀(i:Nat) (cs:List D),σ.H[i]?=some (some cs)->i∉qs->w'.heap[g.β i]?=w.heap[g.β i]?/\∀o,gc'.M (g.β i) o=g.M (g.β i) o:=by
  intro i cs hi hni
  refine h.keep (g.β i) (hw.rep.obj_lt hi) (fun hp=>?_)
  obtain⟨j,q,hj,e⟩:=hpriv _ hp
  exact hoff i cs hi hni j q hj e
 have keepOwn:∀x∈σ.own,∀u,g.ι x.1 x.2.2.length=some u->∀b,B8 u=some b->(b<w.heap.size/\∀(j q:Nat),qs[j]?=some q->b≠g.β q)/\w'.heap[b]?=w.heap[b]?/\∀o,gc'.M b o=g.M b o:=by
  intro x hx u hu b hb
  have hlt:=hw.rep.own_lt hx hu hb
  have hne:∀(j q:Nat),qs[j]?=some q->b≠g.β q:=fun j q hj e=>by
   obtain⟨c2,h2⟩:=hq j q hj
   exact hw.rep.ownObj x hx u hu b hb q c2 h2 e.symm
  refine⟨⟨hlt,hne⟩,h.keep b hlt (fun hp=>?_)⟩
  obtain⟨j,q,hj,e⟩:=hpriv _ hp
  exact hne j q hj e
 have get:∀{i:Nat} {cs:List D},(EL σ.H qs H2)[i]?=some (some cs)->(∃j,rho σ.H.length qs j=i/\H2[j]?=some (some cs)/\j<gc'.n)∨(i<σ.H.length/\i∉qs/\σ.H[i]?=some (some cs)):=by
  intro i cs hi
  rcases Mu qs σ.H H2 (by omega) hi with⟨j,h1,h2⟩|h1
  ·exact .inl ⟨j,h1,h2,by rw[hn', ←hlen2];exact(H0.1 h2).1⟩
  ·exact .inr h1
 have memO:∀{x:Nat×Nat×List V},x∈FW τ σc'.own++σ.own->(∃y∈σc'.own,x=(τ y.1,y.2))∨x∈σ.own:=by
  intro x hx
  rcases Ij.1 hx with hx|hx
  ·obtain⟨y,hy,e⟩:=Ie.1 hx;exact .inl ⟨y,hy,e.symm⟩
  ·exact .inr hx
 refine⟨hw.update (fun b=>∃(j q:Nat),qs[j]?=some q/\b=g.β q) ?_ (fun b hb hx=>h.keep b hb (fun hp=>hx (hpriv b hp))) h.M (Nat.le_add_right _ _) (fun o ho=>HJ ho) (fun o ho=>HJ ho) h.size h.os h.tape h.output ?_ ?_ ?_ (drawn:=h.drawn),hle⟩
 ·rintro b ⟨j,q,hj,rfl⟩
  obtain⟨c2,h2⟩:=hq j q hj
  exact hw.objs q c2 h2
 ·refine⟨?_,h.rep.mem,fun i cs hi=>?_,fun i j c1 c2 hi hj hij=>?_,fun k sz xs hx=>?_,?_,fun x hx y hy hne u u' hu hu' b hb=>?_,fun x hx u hu b hb i cs hi=>?_,fun k hk m=>?_,h.rep.gl,h.rep.gw⟩
  ·simp only[C6];rw[GY qs _ _ (by omega)];omega
  ·rcases get hi with⟨j,rfl,h2,hj⟩|⟨h1,h2,h3⟩
   ·obtain⟨csc,h4,h5,h6⟩:=hout j cs h2
    obtain⟨us,rest,e,hb,hr,_,hM,hκ⟩:=h.rep.obj j csc h4
    obtain⟨e1,e2⟩:=hβ j hj
    exact⟨us,rest,e,by rw[e1];exact hb,h5 us hr,h6,by rw[e1];exact hM,by rw[e2];exact hκ⟩
   ·obtain⟨us,rest,e,hb,hr,h4,hM,hκ⟩:=hw.rep.obj i cs h3
    obtain⟨k1,k2⟩:=keepOld i cs h3 h2
    have e1:(C6 g gc' qs.length σc'.own τ).β i=g.β i:=HJ (by omega)
    have e2:(C6 g gc' qs.length σc'.own τ).κ i=g.κ i:=HJ (by omega)
    exact⟨us,rest,e,by rw[e1];exact k1.trans hb,Ab.mono hle _ _ hr,h4,by rw[e1];exact fun o=>(k2 o).trans (hM o),by rw[e2];exact hκ⟩
  ·rcases get hi with⟨ji,rfl,h2,hji⟩|⟨h1,h2,h3⟩<;>rcases get hj with⟨jj,rfl,h5,hjj⟩|⟨h4,h5,h6⟩
   ·rw[(hβ ji hji).1,(hβ jj hjj).1] at hij
    obtain⟨ci,hci,_⟩:=hout ji _ h2
    obtain⟨cj,hcj,_⟩:=hout jj _ h5
    rw[h.rep.inj ji jj _ _ hci hcj hij]
   ·rw[(hβ ji hji).1,show(C6 g gc' qs.length σc'.own τ).β j=g.β j from HJ (by omega)] at hij
    obtain⟨ci,hci,_⟩:=hout ji _ h2
    have hlt:=hw.rep.obj_lt h6
    rcases hobjc ji ci hci with h7|⟨j',q,h7,h8⟩
    ·omega
    ·exact absurd (hij.symm.trans h8) (hoff j _ h6 h5 j' q h7)
   ·rw[(hβ jj hjj).1,show(C6 g gc' qs.length σc'.own τ).β i=g.β i from HJ (by omega)] at hij
    obtain⟨cj,hcj,_⟩:=hout jj _ h5
    have hlt:=hw.rep.obj_lt h3
    rcases hobjc jj cj hcj with h7|⟨j',q,h7,h8⟩
    ·omega
    ·exact absurd (hij.trans h8) (hoff i _ h3 h2 j' q h7)
   ·rw[show(C6 g gc' qs.length σc'.own τ).β i=g.β i from HJ (by omega),show(C6 g gc' qs.length σc'.own τ).β j=g.β j from HJ (by omega)] at hij
    exact hw.rep.inj i j _ _ h3 h6 hij
  ·rcases memO hx with⟨y,hy,e⟩|hx
   ·simp only[Prod.mk.injEq] at e
    obtain⟨rfl,e2⟩:=e
    obtain⟨h0,u,hu,h3,h4,h5⟩:=h.rep.own y.1 sz xs (by rw[show(y.1,sz,xs)=y from by rw[e2]];exact hy)
    exact⟨h0,u,by rw[CI hτ hy];exact hu,h3,h4,fun m hm=>by rw[CI hτ hy];exact h5 m hm⟩
   ·obtain⟨h0,u,hu,h3,h4,h5⟩:=hw.rep.own k sz xs hx
    exact⟨h0,u,by rw[AX (hold _ hx)];exact hu,h3.mono h.M,h4.kept fun b hb=>(keepOwn _ hx u hu b hb).2,fun m hm=>by rw[AX (hold _ hx)];exact h5 m hm⟩
  ·simp only[IC]
   refine List.nodup_append.2 ⟨?_,hw.rep.tags,fun a ha b hb e=>?_⟩
   ·have:(FW τ σc'.own).map (·.1)=(σc'.own.map (·.1)).map τ:=by simp[FW,Function.comp_def]
    rw[this]
    refine List.pairwise_map.2 (List.Pairwise.imp_of_mem ?_ h.rep.tags)
    intro a b ha hb hne e
    obtain⟨x,hx,rfl⟩:=Ie.1 ha
    obtain⟨y,hy,rfl⟩:=Ie.1 hb
    exact hne (hτ x hx y hy e)
   ·obtain⟨x,hx,rfl⟩:=Ie.1 ha
    obtain⟨y,hy,rfl⟩:=Ie.1 hb
    obtain⟨z,hz,rfl⟩:=Ie.1 hx
    exact hfr z hz y hy e
  ·rcases memO hx with⟨x',hx',rfl⟩|hx<;>rcases memO hy with⟨y',hy',rfl⟩|hy
   ·rw[CI hτ hx'] at hu;rw[CI hτ hy'] at hu'
    exact h.rep.sep x' hx' y' hy' (fun e=>hne (by simp only[e])) u u' hu hu' b hb
   ·rw[CI hτ hx'] at hu;rw[AX (hold _ hy)] at hu'
    intro hb'
    obtain⟨⟨hlt,hne'⟩,_⟩:=keepOwn y hy u' hu' b hb'
    rcases hownc x' hx' u hu b hb with h7|⟨j',q,h7,h8⟩
    ·omega
    ·exact hne' j' q h7 h8
   ·rw[AX (hold _ hx)] at hu;rw[CI hτ hy'] at hu'
    intro hb'
    obtain⟨⟨hlt,hne'⟩,_⟩:=keepOwn x hx u hu b hb
    rcases hownc y' hy' u' hu' b hb' with h7|⟨j',q,h7,h8⟩
    ·omega
    ·exact hne' j' q h7 h8
   ·rw[AX (hold _ hx)] at hu;rw[AX (hold _ hy)] at hu'
    exact hw.rep.sep x hx y hy hne u u' hu hu' b hb
  ·rcases memO hx with⟨x',hx',rfl⟩|hx<;>rcases get hi with⟨ji,rfl,h2,hji⟩|⟨h1,h2,h3⟩
   ·rw[CI hτ hx'] at hu
    obtain⟨ci,hci,_⟩:=hout ji _ h2
    rw[(hβ ji hji).1]
    exact h.rep.ownObj x' hx' u hu b hb ji ci hci
   ·rw[CI hτ hx'] at hu
    rw[show(C6 g gc' qs.length σc'.own τ).β i=g.β i from HJ (by omega)]
    have hlt:=hw.rep.obj_lt h3
    rcases hownc x' hx' u hu b hb with h7|⟨j',q,h7,h8⟩
    ·omega
    ·rw[h8];exact hoff i _ h3 h2 j' q h7
   ·rw[AX (hold _ hx)] at hu
    obtain⟨ci,hci,_⟩:=hout ji _ h2
    rw[(hβ ji hji).1]
    obtain⟨⟨hlt,hne'⟩,_⟩:=keepOwn x hx u hu b hb
    rcases hobjc ji ci hci with h7|⟨j',q,h7,h8⟩
    ·omega
    ·rw[h8];exact fun e=>hne' j' q h7 e.symm
   ·rw[AX (hold _ hx)] at hu
    rw[show(C6 g gc' qs.length σc'.own τ).β i=g.β i from HJ (by omega)]
    exact hw.rep.ownObj x hx u hu b hb i cs h3
  ·rw[AX (fun x hx e=>hk (τ x.1,x.2) (Ij.2 (.inl (Ie.2 ⟨x,hx,rfl⟩))) e)]
   exact hw.rep.fresh k (fun x hx=>hk x (Ij.2 (.inr hx))) m
 ·intro i cs hi
  rcases get hi with⟨j,rfl,h2,hj⟩|⟨h1,h2,h3⟩
  ·obtain⟨csc,h4,_⟩:=hout j cs h2
   rw[(hβ j hj).1]
   rcases hobjc j csc h4 with h5|⟨j',q,h5,h6⟩
   ·exact .inl (Is hw.size h5)
   ·obtain⟨c2,h7⟩:=hq j' q h5
    rw[h6];exact hw.objs q c2 h7
  ·rw[show(C6 g gc' qs.length σc'.own τ).β i=g.β i from HJ (by omega)]
   exact hw.objs i cs h3
 ·intro x hx u hu b hb
  rcases memO hx with⟨x',hx',rfl⟩|hx
  ·rw[CI hτ hx'] at hu
   rcases hownc x' hx' u hu b hb with h5|⟨j',q,h5,h6⟩
   ·exact .inl (Is hw.size h5)
   ·obtain⟨c2,h7⟩:=hq j' q h5
    rw[h6];exact hw.objs q c2 h7
  ·rw[AX (hold _ hx)] at hu
   exact hw.owns x hx u hu b hb
mutual
def D.ren(ρ τ:Nat->Nat):D->D
 |.v x=>.v x
 |.acc t xs=>.acc (τ t) xs
 |.ptr o off=>.ptr (ρ o) off
 |.arr o off len=>.arr (ρ o) off len
 |.gro o len sz=>.gro (ρ o) len sz
 |.raw x=>.raw x
 |.rv x u=>.rv x u
 |.dagg cs=>.dagg (D.rens ρ τ cs)
 |.dfn f fs cs=>.dfn f (D.rens ρ τ fs) (D.rens ρ τ cs)
 |.tup ds=>.tup (D.rens ρ τ ds)
 |.err=>.err
 |.undef=>.undef
def D.rens(ρ τ:Nat->Nat):List D->List D
 |[]=>[]
 |d::ds=>d.ren ρ τ::D.rens ρ τ ds
end
mutual
def D.okN(n:Nat)(ts:List Nat):D->Bool
 |.acc t _=>ts.contains t
 |.ptr o _|.arr o _ _|.gro o _ _=>decide (o<n)
 |.dagg cs=>D.okNs n ts cs
 |.dfn _ fs cs=>D.okNs n ts fs&&D.okNs n ts cs
 |.tup ds=>D.okNs n ts ds
 |_=>true
def D.okNs(n:Nat)(ts:List Nat):List D->Bool
 |[]=>true
 |d::ds=>d.okN n ts&&D.okNs n ts ds
end
mutual
theorem K4{g g':Gh}{ρ τ ρ' τ':Nat->Nat}{n:Nat}{ts:List Nat}(hM:∀x u,repV g.M x u->repV g'.M x u)(ho:∀o,o<n->ρ o<g.n->ρ' o<g'.n/\g'.β (ρ' o)=g.β (ρ o)/\g'.κ (ρ' o)=g.κ (ρ o))
  (hι:∀t,ts.contains t=true->∀m u,g.ι (τ t) m=some u->g'.ι (τ' t) m=some u):∀(d:D) (u:Value),d.okN n ts=true->Ac g (d.ren ρ τ) u->Ac g' (d.ren ρ' τ') u
 |.v x,u,_,h=>by simp only[D.ren,Ac] at h⊢;exact hM _ _ h
 |.acc t xs,u,hk,h=>by simp only[D.ren,Ac] at h⊢;exact⟨hM _ _ h.1,hι t (by simpa[D.okN] using hk) _ _ h.2⟩
 |.ptr o off,u,hk,h=>by
  simp only[D.okN,H8] at hk
  simp only[D.ren,Ac] at h⊢
  obtain⟨h1,h2,_⟩:=ho o hk h.1
  exact⟨h1,by rw[h2];exact h.2⟩
 |.arr o off len,u,hk,h=>by
  simp only[D.okN,H8] at hk
  simp only[D.ren,Ac] at h⊢
  obtain⟨h1,h2,_⟩:=ho o hk h.1
  exact⟨h1,by rw[h2];exact h.2⟩
 |.gro o len sz,u,hk,h=>by
  simp only[D.okN,H8] at hk
  simp only[D.ren,Ac] at h⊢
  obtain⟨h1,h2,h3⟩:=ho o hk h.1
  exact⟨h1,by rw[h2,h3];exact h.2⟩
 |.raw x,u,_,h=>by simpa only[D.ren,Ac] using h
 |.rv x u0,u,_,h=>by simp only[D.ren,Ac] at h⊢;exact⟨h.1,hM _ _ h.2⟩
 |.dagg cs,u,hk,h=>by
  simp only[D.ren,Ac] at h⊢
  obtain⟨us,e,h1⟩:=h
  exact⟨us,e,D3 hM ho hι cs us (by simpa[D.okN] using hk) h1⟩
 |.dfn f fs cs,u,hk,h=>by
  simp only[D.okN,Hy] at hk
  simp only[D.ren,Ac] at h⊢
  obtain⟨us,vs,e,h1,h2⟩:=h
  exact⟨us,vs,e,D3 hM ho hι fs us hk.1 h1,D3 hM ho hι cs vs hk.2 h2⟩
 |.tup ds,u,hk,h=>by
  simp only[D.ren,Ac] at h⊢
  obtain⟨us,e,h1⟩:=h
  exact⟨us,e,D3 hM ho hι ds us (by simpa[D.okN] using hk) h1⟩
 |.err,u,_,h=>by simpa only[D.ren,Ac] using h
 |.undef,u,_,_=>by simp only[D.ren,Ac]
theorem D3{g g':Gh}{ρ τ ρ' τ':Nat->Nat}{n:Nat}{ts:List Nat}(hM:∀x u,repV g.M x u->repV g'.M x u)(ho:∀o,o<n->ρ o<g.n->ρ' o<g'.n/\g'.β (ρ' o)=g.β (ρ o)/\g'.κ (ρ' o)=g.κ (ρ o))
  (hι:∀t,ts.contains t=true->∀m u,g.ι (τ t) m=some u->g'.ι (τ' t) m=some u):∀(ds:List D) (us:List Value),D.okNs n ts ds=true->Ab g (D.rens ρ τ ds) us->Ab g' (D.rens ρ' τ' ds) us
 |[],us,_,h=>by simpa only[D.rens,Ab] using h
 |d::ds,us,hk,h=>by
  simp only[D.okNs,Hy] at hk
  simp only[D.rens,Ab] at h⊢
  obtain⟨u,us',e,h1,h2⟩:=h
  exact⟨u,us',e,K4 hM ho hι d u hk.1 h1,D3 hM ho hι ds us' hk.2 h2⟩
end
mutual
theorem Rp:∀d:D,d.ren id id=d
 |.v _|.acc .. |.ptr .. |.arr .. |.gro .. |.raw _|.rv .. |.err|.undef=>by simp[D.ren]
 |.dagg cs=>by simp[D.ren,FB cs]
 |.dfn f fs cs=>by simp[D.ren,FB fs,FB cs]
 |.tup ds=>by simp[D.ren,FB ds]
theorem FB:∀ds:List D,D.rens id id ds=ds
 |[]=>rfl
 |d::ds=>by simp[D.rens,Rp d,FB ds]
end
mutual
theorem Xh:∀(ρ τ:Nat->Nat) (d:D),(d.ren ρ τ).one=d.one
 |ρ,τ,d=>by cases d<;>simp[D.ren,D.one]
end
theorem NK{ρ τ:Nat->Nat}:∀{ds:List D},(∀c∈ds,c.one=true)->∀c∈D.rens ρ τ ds,c.one=true
 |[],_,c,hc=>by simp[D.rens] at hc
 |d::ds,h,c,hc=>by
  simp only[D.rens,Ib] at hc
  rcases hc with rfl|hc
  ·rw[Xh];exact h d (by simp)
  ·exact NK (fun c hc=>h c (by simp[hc])) c hc
inductive Y3 (n:Nat) (qs:List Nat):D->D->Prop
 |ren {dc:D} (h:dc.okN qs.length []=true):Y3 n qs (dc.ren (rho n qs) id) dc
 |acc {t:Nat} {xs:List V}:Y3 n qs (.acc t xs) (.v (.list xs))
 |undef {d:D}:Y3 n qs d .undef
inductive Hg (n:Nat) (qs:List Nat):List D->List D->Prop
 |nil:Hg n qs [] []
 |cons {d dc:D} {ds dcs:List D} (h:Y3 n qs d dc) (hs:Hg n qs ds dcs):Hg n qs (d::ds) (dc::dcs)
inductive Mx (H:List (Option (List D))) (qs:List Nat):List Nat->List (Option (List D))->Prop
 |nil:Mx H qs [] []
 |cons {q:Nat} {js:List Nat} {cs csc:List D} {os:List (Option (List D))} (h:H[q]?=some (some cs)) (ha:Hg H.length qs cs csc) (h1:csc.all D.one=true) (hs:Mx H qs js os):Mx H qs (q::js) (some csc::os)
theorem Mx.length{H:List (Option (List D))}{qs:List Nat}:∀{js:List Nat} {os:List (Option (List D))},Mx H qs js os->os.length=js.length
 |_,_,.nil=>rfl
 |_,_,.cons _ _ _ hs=>by simp[hs.length]
theorem Mx.get{H:List (Option (List D))}{qs:List Nat}:∀{js:List Nat} {os:List (Option (List D))},Mx H qs js os->∀{j q:Nat},js[j]?=some q->∃cs csc,H[q]?=some (some cs)/\os[j]?=some (some csc)/\Hg H.length qs cs csc/\∀c∈csc,c.one=true
 |_,_,.nil,j,q,h=>by simp at h
 |_,_,.cons h ha h1 hs,j,q,hj=>by
  cases j with
  |zero=>simp at hj;subst hj;exact⟨_,_,h,by simp,ha,by simpa using h1⟩
  |succ j=>simp at hj;obtain⟨cs,csc,h2,h3,h4⟩:=hs.get hj;exact⟨cs,csc,h2,by simpa using h3,h4⟩
theorem YQ{n:Nat}{qs:List Nat}{j:Nat}(h:j<qs.length):rho n qs j=qs.getD j 0:=by
 have hqj:qs[j]?=some qs[j]:=Hx h
 simp only[rho,hqj,Dg hqj]
theorem Y3.rep{g:Gh}{qs:List Nat}{d dc:D}(h:Y3 g.n qs d dc){u:Value}(hr:Ac g d u):Ac (gIn g qs) dc u:=by
 cases h with
 |ren hk=>
  have:=K4 (g:=g) (g':=gIn g qs) (ρ:=rho g.n qs) (τ:=id) (ρ':=id) (τ':=id) (n:=qs.length) (ts:=[]) (fun _ _ h=>h) (fun o ho _=>⟨ho,by simp only[gIn,id,YQ ho,and_self]⟩) (fun t ht=>by simp at ht) dc u hk hr
  rwa[Rp] at this
 |acc=>simp only[Ac] at hr⊢;exact hr.1
 |undef=>simp only[Ac]
theorem Hg.rep{g:Gh}{qs:List Nat}:∀{ds dcs:List D},Hg g.n qs ds dcs->∀{us:List Value},Ab g ds us->Ab (gIn g qs) dcs us
 |_,_,.nil,us,h=>by simpa only[Ab] using h
 |_,_,.cons h hs,us,hr=>by
  simp only[Ab] at hr⊢
  obtain⟨u,us',e,h1,h2⟩:=hr
  exact⟨u,us',e,h.rep h1,hs.rep h2⟩
def Nj:D->Option (FuncId×List D×List D)
 |.v (.fn f fs cs)=>some (f,fs.map .v,cs.map .v)
 |.dfn f fs cs=>some (f,fs,cs)
 |_=>none
theorem MZ{g:Gh}{d:D}{f:FuncId}{fs cs:List D}(h:Nj d=some (f,fs,cs)){u:Value}(hr:Ac g d u):∃us vs,u=.func (.func f) us.toArray vs.toArray/\Ab g fs us/\Ab g cs vs:=by
 unfold Nj at h
 split at h
 ·simp only[HU,Prod.mk.injEq] at h
  obtain⟨rfl,rfl,rfl⟩:=h
  simp only[Ac,Gx] at hr
  obtain⟨us,vs,e,h1,h2⟩:=hr
  exact⟨us,vs,e,CV h1,CV h2⟩
 ·simp only[HU,Prod.mk.injEq] at h
  obtain⟨rfl,rfl,rfl⟩:=h
  simpa only[Ac] using hr
 ·simp at h
def okH(n:Nat)(ts:List Nat):List (Option (List D))->Bool
 |[]=>true
 |some cs::H=>D.okNs n ts cs&&okH n ts H
 |none::H=>okH n ts H
theorem KC{n:Nat}{ts:List Nat}:∀{H:List (Option (List D))},okH n ts H=true->∀{j:Nat} {cs:List D},H[j]?=some (some cs)->D.okNs n ts cs=true
 |[],_,j,cs,h=>by simp at h
 |some c::H,hk,j,cs,h=>by
  simp only[okH,Hy] at hk
  cases j with
  |zero=>simp at h;subst h;exact hk.1
  |succ j=>exact KC hk.2 (by simpa using h)
 |none::H,hk,j,cs,h=>by
  simp only[okH] at hk
  cases j with
  |zero=>simp at h
  |succ j=>exact KC hk (by simpa using h)
def Yi(ρ τ:Nat->Nat)(H:List (Option (List D))):List (Option (List D)):=H.map (Option.map (D.rens ρ τ))
section
variable {P : Program} {o : Oper} {σ : St}
theorem NT{c:Call}{fo:Operand}(ho:o.op=.call c)(hc:c.callee=.value fo){fD:D}{f:FuncId}{fs cs:List D}(hf:Nj fD=some (f,fs,cs)){ds dsc:List D}{σc σc':St}{dc:D}(qs:List Nat)(τ:Nat->Nat)
  (hspec:Aa P f dsc σc dc σc') (hargs:Hg σ.H.length qs (fs++ds++cs) dsc) (hobjs:Mx σ.H qs qs σc.H) (hnd:qs.Nodup) (hown:σc.own=[]) (hτ:∀x∈σc'.own,∀y∈σc'.own,τ x.1=τ y.1->x.1=y.1)
  (hfr:∀x∈σc'.own,∀y∈σ.own,τ x.1≠y.1) (hokd:dc.okN σc'.H.length (σc'.own.map (·.1))=true) (hokH:okH σc'.H.length (σc'.own.map (·.1)) σc'.H=true):
  Ap P o (fD::ds) σ (dc.ren (rho σ.H.length qs) τ) ⟨EL σ.H qs (Yi (rho σ.H.length qs) τ σc'.H),FW τ σc'.own++σ.own⟩:=by
 intro E g a w K Q hw hds hK
 have hn:g.n=σ.H.length:=hw.rep.n
 simp only[ho,Op.operands,Call.operands,hc] at hds
 have h':Ab g (fD::ds) (a.eval fo::c.args.toList.map a.eval):=by simpa using hds
 simp only[Ab] at h'
 obtain⟨u,us',e,h1,h2⟩:=h'
 simp only[HB] at e
 obtain⟨e1,e2⟩:=e
 obtain⟨us,vs,e3,h3,h4⟩:=MZ hf h1
 refine F2 (_E:=E) (_g:=g) ho hc hspec.1 (e1.trans e3) e2 ?_
 rw[←hn] at hargs
 have hq:∀(j q:Nat),qs[j]?=some q->∃cs csc,σ.H[q]?=some (some cs)/\σc.H[j]?=some (some csc)/\Hg g.n qs cs csc/\∀c∈csc,c.one=true:=fun j q hj=>by rw[hn];exact hobjs.get hj
 have hrep:WRep (gIn g qs) σc w:=hw.rep.callee hnd hown hobjs.length (fun j q csc hj hcj=>by
  obtain⟨cs,csc',h5,h6,h7,h8⟩:=hq j q hj
  rw[h6] at hcj;simp at hcj;subst hcj
  exact⟨cs,h5,fun us hr=>h7.rep hr,h8⟩)
 refine Calls.mono (hspec.2 _ w _ hrep (hargs.rep (Aw (Aw h3 h2) h4))) ?_
 rintro e w' ⟨r,gc',rfl,hw',hr⟩
 have hn':gc'.n=σc'.H.length:=hw'.rep.n
 have hkn:qs.length<=gc'.n:=hw'.nE
 have hρ:∀j,j<σc'.H.length->rho σ.H.length qs j<(C6 g gc' qs.length σc'.own τ).n/\(C6 g gc' qs.length σc'.own τ).β (rho σ.H.length qs j)=gc'.β j/\(C6 g gc' qs.length σc'.own τ).κ (rho σ.H.length qs j)=gc'.κ j:=by
  intro j hj
  by_cases hlt:j<qs.length
  ·have hqj:qs[j]?=some qs[j]:=Hx hlt
   obtain⟨cs,_,hcs,_⟩:=hq j _ hqj
   have h5:qs[j]<g.n:=hw.rep.lt_n hcs
   have h6:=hw'.βE j hlt
   have h7:=hw'.κE j hlt
   simp only[gIn,Dg hqj] at h6 h7
   simp only[rho,hqj,C6,HJ h5,h6,h7,and_self,HZ]
   omega
  ·have hqj:qs[j]?=none:=Ik (by omega)
   have h5:¬σ.H.length+(j-qs.length)<g.n:=by omega
   have h6:qs.length+(σ.H.length+(j-qs.length)-g.n)=j:=by omega
   simp only[rho,hqj,C6,HF h5,h6,and_self,HZ]
   omega
 have hren:∀(dd:D) (v:Value),dd.okN σc'.H.length (σc'.own.map (·.1))=true->Ac gc' dd v->Ac (C6 g gc' qs.length σc'.own τ) (dd.ren (rho σ.H.length qs) τ) v:=by
  intro dd v hk hv
  refine K4 (g:=gc') (g':=C6 g gc' qs.length σc'.own τ) (ρ:=id) (τ:=id) (ρ':=rho σ.H.length qs) (τ':=τ) (n:=σc'.H.length) (ts:=σc'.own.map (·.1)) (fun _ _ h=>h) (fun o ho _=>hρ o ho) (fun t ht m x hx=>?_) dd v hk (by rw[Rp];exact hv)
  simp only[List.contains_iff_mem,Ie] at ht
  obtain⟨y,hy,rfl⟩:=ht
  rw[CI hτ hy];exact hx
 have hrens:∀(dd:List D) (v:List Value),D.okNs σc'.H.length (σc'.own.map (·.1)) dd=true->Ab gc' dd v->Ab (C6 g gc' qs.length σc'.own τ) (D.rens (rho σ.H.length qs) τ dd) v:=by
  intro dd v hk hv
  refine D3 (g:=gc') (g':=C6 g gc' qs.length σc'.own τ) (ρ:=id) (τ:=id) (ρ':=rho σ.H.length qs) (τ':=τ) (n:=σc'.H.length) (ts:=σc'.own.map (·.1)) (fun _ _ h=>h) (fun o ho _=>hρ o ho) (fun t ht m x hx=>?_) dd v hk (by rw[FB];exact hv)
  simp only[List.contains_iff_mem,Ie] at ht
  obtain⟨y,hy,rfl⟩:=ht
  rw[CI hτ hy];exact hx
 obtain⟨h8,h9⟩:=hw.back hown hobjs.length (fun j q hj=>by obtain⟨cs,_,h5,_⟩:=hq j q hj;exact⟨cs,h5⟩) hw' hτ hfr (H2:=Yi (rho σ.H.length qs) τ σc'.H) (by simp[Yi]) (fun j cs2 hj=>by
  simp only[Yi,Ic] at hj
  cases hcj:σc'.H[j]? with
  |none=>simp[hcj] at hj
  |some oc=>
   cases oc with
   |none=>simp[hcj] at hj
   |some csc=>
    simp[hcj] at hj
    subst hj
    obtain⟨_,_,_,_,_,h1c,_⟩:=hw'.rep.obj j csc hcj
    exact⟨csc,rfl,fun us hus=>hrens csc us (KC hokH hcj) hus,NK h1c⟩)
 exact⟨r,rfl,hK _ _ _ h8 h9 (hren dc r hokd hr)⟩
end
theorem WI.kill{E:Ent}{g:Gh}{σ:St}{w:World}(hw:WI E g σ w){q:Nat}{cs:List D}(hq:σ.H[q]?=some (some cs)):WI E g ⟨σ.H.set q none,σ.own⟩ w:=
 hw.setObjG (M':=g.M) (oc:=none) (Mem.le_refl _) hq (fun _ h=>by simp at h) (fun _ _ _=>⟨rfl,fun _=>rfl⟩) hw.rep.mem (H5 _) rfl rfl rfl
theorem E5{H:List (Option (List D))}{q i:Nat}{cs:List D}(h:(H.set q none)[i]?=some (some cs)):i≠q/\H[i]?=some (some cs):=by
 rw[getElem?_set] at h
 split at h
 ·split at h<;>simp at h
 ·rename_i e;exact⟨fun e'=>e e'.symm,h⟩
theorem WI.rename{E:Ent}{g:Gh}{σ:St}{w:World}(hw:WI E g σ w){q:Nat}{cs:List D}(hq:σ.H[q]?=some (some cs)):
  ∃g',WI E g' ⟨σ.H.set q none++[some cs],σ.own⟩ w/\g.le g'/\g'.β σ.H.length=g.β q/\g'.κ σ.H.length=g.κ q/\g'.n=σ.H.length+1:=by
 obtain⟨us,rest,e,hb,hr,h1,hM,hκ⟩:=hw.rep.obj q cs hq
 obtain⟨h2,h3⟩:=(hw.kill hq).addObj (b:=g.β q) (us:=us) (rest:=rest) (e:=e) (cs:=cs) hb (hw.objs q cs hq) hM
  (fun i ci hi e'=>by
   obtain⟨hne,hi'⟩:=E5 hi
   exact hne (hw.rep.inj i q _ _ hi' hq e'))
  (fun x hx u hu hb'=>hw.rep.ownObj x hx u hu _ hb' q cs hq rfl) hr h1
 refine⟨_,h2,h3,?_,?_,?_⟩
 ·simp[hw.rep.n]
 ·simp only[hw.rep.n,I6];exact hκ
 ·simp[hw.rep.n]
theorem WI.newObjR{E:Ent}{g:Gh}{σ:St}{w:World}(hw:WI E g σ w){us rest:List Value}{cs:List D}(e:TypeId)(hr:Ab g cs us)(h1:∀c∈cs,c.one=true):
  ∃g',WI E g' ⟨σ.H++[some cs],σ.own⟩ (w.alloc (.cells (us++rest).toArray e))/\g.le g'/\g'.β σ.H.length=w.heap.size/\g'.κ σ.H.length=(us++rest).length/\g'.n=σ.H.length+1:=by
 have h2:=(hw.alloc (.cells (us++rest).toArray e)).addObj (b:=w.heap.size) (us:=us) (rest:=rest) (e:=e) (cs:=cs) (heap_alloc_new w _) (.inl hw.size) (hw.rep.new_none (H5 _))
  (fun i cs hi=>Nat.ne_of_lt (hw.rep.obj_lt hi)) (fun x hx u hu hb=>by have:=hw.rep.own_lt hx hu hb;omega) hr h1
 exact⟨_,h2.1,h2.2,by simp[hw.rep.n],by simp[hw.rep.n],by simp[hw.rep.n]⟩
section
variable {P : Program} {o : Oper} {σ : St} {d : D}
end
inductive DP:List Operand->List D->List D->Prop
 |nil:DP [] [] []
 |same {x:Operand} {d:D} {xs:List Operand} {ds ds':List D} (h:DP xs ds ds'):DP (x::xs) (d::ds) (d::ds')
 |const {u:Value} {d:D} {xs:List Operand} {ds ds':List D} (h:DP xs ds ds'):DP (.const u::xs) (d::ds) (.raw u::ds')
theorem DP.rep{g:Gh}{a:Act}:∀{xs:List Operand} {ds ds':List D},DP xs ds ds'->Ab g ds (xs.map a.eval)->Ab g ds' (xs.map a.eval)
 |_,_,_,.nil,h=>by simpa only[Ab] using h
 |_,_,_,.same h',h=>by
  simp only[HO,Ab] at h⊢
  obtain⟨u,us,e,h1,h2⟩:=h
  simp only[HB] at e
  obtain⟨e1,e2⟩:=e
  exact⟨_,_,rfl,by rw[e1];exact h1,h'.rep (by rw[e2];exact h2)⟩
 |_,_,_,.const h',h=>by
  simp only[HO,Ab] at h⊢
  obtain⟨u,us,e,h1,h2⟩:=h
  simp only[HB] at e
  obtain⟨e1,e2⟩:=e
  exact⟨_,_,rfl,by simp only[Ac,Act.eval],h'.rep (by rw[e2];exact h2)⟩
section
variable {P : Program} {o : Oper} {σ : St} {d : D}
end
theorem WI.review{E:Ent}{g:Gh}{σ:St}{w:World}(hw:WI E g σ w){q:Nat}{cs cs':List D}(hq:σ.H[q]?=some (some cs))(h:∀us,Ab g cs us->Ab g cs' us)(h1:∀c∈cs',c.one=true):WI E g ⟨σ.H.set q (some cs'),σ.own⟩ w:=by
 obtain⟨us,rest,e,hb,hr,_,_,hκ⟩:=hw.rep.obj q cs hq
 exact hw.setObj hq hb hκ (h us hr) h1 (fun _ _=>rfl) rfl rfl rfl rfl
theorem Er{α:Type}{l:List α}{s:Nat}{u:α}(h:l[s]?=some u):l.set s u=l:=by
 apply List.ext_getElem?
 intro i
 rw[getElem?_set]
 split
 ·rename_i e;subst e
  split
  ·exact h.symm
  ·rw[Ik (by omega)]
 ·rfl
theorem QI{g:Gh}{d:D}{x:V}{u:Value}(h:d.toV=some x)(hr:Ac g d u):repC g.M x u.cells.toList:=E8 (F5 h hr)
section
variable {P : Program} {o : Oper} {σ : St} {d : D}
theorem X0{e:TypeId}{x:Operand}(ho:o.op=.box e x){y:V}(hy:d.toV=some y):Ap P o [d] σ (.v (.ref y)) σ:=by
 intro E g a w K Q hw hds hK
 simp only[ho,Op.operands,Av] at hds
 obtain⟨u,eu,hd⟩:=hds
 simp at eu
 have hc:=QI hy hd
 obtain⟨hw',hle⟩:=hw.newImm u.cells.toList [] e
 rw[Il] at hw'
 have:=hK _ _ (.pointer (some ⟨w.heap.size,0,none⟩)) hw' hle (by
  simp only[Ac,Ci]
  exact⟨w.heap.size,0,u.cells.toList,rfl,KZ g.M w.heap.size _,repC.mono hle.M _ _ hc⟩)
 unfold Oper.wp execOp
 simpa[ho,eu,Instr.box,newVar,newRow,Oper.upon] using this
end
section
variable {P : Program} {o : Oper}
end
section
variable {C : Ent -> Ent -> Prop} {P : Program} {R : List D -> St -> Prop} {c : Code} {p : List Nat} {k : List KI} {env env' : List D} {σ σ' : St} {i : Nat} {o : Oper} {d : D}
end
def Mk:Value->Option V
 |.slice none 0 0=>some .nils
 |u=>Ol u
def Ed:List Value->Option (List V)
 |[]=>some []
 |u::us=>match Mk u,Ed us with
  |some x,some xs=>some (x::xs)
  |_,_=>none
theorem JX{M:Mem}{u:Value}{x:V}(h:Mk u=some x):x.isAgg=false/\repC M x [u]:=by
 unfold Mk at h
 split at h
 ·simp at h;subst h;simp[V.isAgg,repC]
 ·exact JW h
theorem Ec{M:Mem}:∀{us:List Value} {xs:List V},Ed us=some xs->repA M xs us
 |[],xs,h=>by simp[Ed] at h;subst h;simp[repA]
 |u::us,xs,h=>by
  simp only[Ed] at h
  split at h
  ·rename_i x xs' h1 h2
   simp at h;subst h
   obtain⟨h3,h4⟩:=JX (M:=M) h1
   simp only[repA]
   exact⟨u,us,rfl,h3,h4,Ec h2⟩
  ·simp at h
def Gm(P:Program)(t:TypeId):Option (List V):=
 match (P.info? t).bind (·.zero) with
 |some z=>Ed z.cells.toList
 |none=>none
theorem IZ{P:Program}{t:TypeId}{xs:List V}(h:Gm P t=some xs):∃i z,P.info? t=some i/\i.zero=some z/\Ed z.cells.toList=some xs:=by
 unfold Gm at h
 split at h
 ·rename_i z hz
  cases hi:P.info? t with
  |none=>simp[hi] at hz
  |some i=>exact⟨i,z,rfl,by simpa[hi] using hz,h⟩
 ·simp at h
def AaZ(P:Program)(t:TypeId):Option (List V×List (Nat×Nat)):=
 match Gm P t,P.underlying t with
 |some z,some (.struct fs)=>(fs.toList.mapM (fun f=>(P.info? f.type).map fun i=>(f.offset,i.size))).map fun p=>(z,p)
 |_,_=>none
section
variable {P : Program} {o : Oper} {σ : St} {d : D}
theorem LL{e:TypeId}(ho:o.op=.alloc e){xs:List V}(hz:Gm P e=some xs):Ap P o [] σ (.ptr σ.H.length 0) ⟨σ.H++[some (xs.map .v)],σ.own⟩:=by
 intro E g a w K Q hw hds hK
 obtain⟨i,z,hi,hz1,hc⟩:=IZ hz
 obtain⟨h2,h3⟩:=CW (g:=g) (Ec hc)
 obtain⟨g',hw',hle,hβ,hn⟩:=hw.newObj e h2 h3
 have:=hK g' _ (.pointer (some ⟨w.heap.size,0,none⟩)) hw' hle (by simp only[Ac];exact⟨by omega,by rw[hβ]⟩)
 unfold Oper.wp execOp
 simpa[ho,Instr.alloc,zeroValue,typeInfo,hi,hz1,newVar,newRow,Oper.upon] using this
theorem RT{t:TypeId}{parts:Array (Nat×Operand)}(ho:o.op=.build t parts){z:List V}{places:List (Nat×Nat)}(hb:AaZ P t=some (z,places)){ds:List D}{xs:List (Nat×V)}{out:List V}
  (hx:Cf parts.toList ds=some xs) (hf:Ev (places[·]?) z xs=some out):Ap P o ds σ (.v (.agg out)) σ:=by
 intro E g a w K Q hw hds hK
 simp only[ho,Op.operands] at hds
 have hpr:=E2 hx (a:=a) (g:=g) (by simpa[Function.comp_def] using hds)
 unfold AaZ at hb
 have key:∃U,P.built t (parts.toList.map fun p=>(p.1,a.eval p.2))=some U/\repA g.M out U.toList:=by
  cases hz:Gm P t with
  |none=>simp[hz] at hb
  |some z0=>
   obtain⟨i,zv,hi,hz1,hcv⟩:=IZ hz
   cases hu:P.underlying t with
   |none=>simp[hz,hu] at hb
   |some dd=>
    cases dd<;>simp only[hz,hu,reduceCtorEq] at hb
    case struct fs=>
     cases hp:fs.toList.mapM (fun f=>(P.info? f.type).map fun i=>(f.offset,i.size)) with
     |none=>simp[hp] at hb
     |some pl=>
      simp[hp] at hb
      obtain⟨rfl,rfl⟩:=hb
      obtain⟨U,hU,hrU⟩:=GE hpr (Ec (M:=g.M) hcv) hf
      exact⟨U,by simpa[Program.built,hi,hu,hz1,hp] using hU,hrU⟩
 obtain⟨U,hU,hrU⟩:=key
 have:=hK g w (.agg U) hw g.le_refl (by simp only[Ac,BR];exact⟨U.toList,hrU,by simp⟩)
 have hrun:=run_build (P:=P) w t (parts.map fun p=>(p.1,a.eval p.2)) U (by simpa using hU)
 unfold Oper.wp execOp
 simp only[ho]
 simp only[Sem.run_bind]
 rw[show(parts.map fun(x:Nat×Operand)=>match x with|(i,x)=>(i,a.eval x))=parts.map fun p=>(p.1,a.eval p.2) from rfl,hrun]
 exact this
theorem U5{t:TypeId}{x y:Operand}(ho:o.op=.makeSlice t x y){e:TypeId}{by':Nat}{z:Value}(hs:BW P t=some (e,1,by',some z)){zv:V}(hz:Mk z=some zv){k k':IntKind}{n:Int}(h0:0<=n)(hn:(by':Int)*n<=281474976710656)(hn2:n<=9223372036854775807):
  Ap P o [.v (.int k n),.v (.int k' n)] σ (.arr σ.H.length 0 n.toNat) ⟨σ.H++[some (replicate n.toNat (.v zv))],σ.own⟩:=by
 intro E g a w K Q hw hds hK
 simp only[ho,Op.operands,Am] at hds
 obtain⟨u,v,eq,h1,h2⟩:=hds
 simp only[HO,Iu,HB,HZ] at eq
 obtain⟨e1,e2⟩:=eq
 simp only[Ac,As] at h1 h2
 subst h1 h2
 obtain⟨i,hu,hi,hsz,hby,hzz⟩:=A8 hs
 obtain⟨hza,hzc⟩:=JX (M:=g.M) hz
 have hz1:z.cells= #[z]:=by
  obtain⟨u',e,_,h3⟩:=Cm hza hzc
  simp at e;subst e;exact Mq h3
 have hrun:=run_make (P:=P) w t e i z hu hi hzz k k' n n h0 (HP _) (by rw[hby];exact hn) hn2
 rw[hsz,Nat.mul_one,hz1,KF] at hrun
 have hr:∀m,Ab g (replicate m (.v zv)) (replicate m z):=by
  intro m
  induction m with
  |zero=>simp[Ab]
  |succ m ih=>simp only[Iq,Ab,Ac];exact⟨z,_,rfl,(AT hza).2 hzc,ih⟩
 obtain⟨g',hw',hle,hβ,hn'⟩:=hw.newObj e (hr n.toNat) (fun c hc=>by rw[List.mem_replicate] at hc;rw[hc.2];simp[D.one,hza])
 have:=hK g' _ (.slice (some ⟨w.heap.size,0,none⟩) n.toNat n.toNat) hw' hle (by simp only[Ac];exact⟨by omega,n.toNat,H5 _,by rw[hβ]⟩)
 unfold Oper.wp execOp
 simp only[ho,e1,e2,Sem.run_bind,hrun,Result.andThen_ok]
 exact this
end
def Abq(cs cs':List D):Prop:=(∀g us,Ab g cs us->Ab g cs' us)/\((∀c∈cs,c.one=true)->∀c∈cs',c.one=true)
inductive He:D->D->Prop
 |same {d:D}:He d d
 |acc {k:Nat} {xs:List V}:He (.acc k xs) (.v (.list xs))
 |nils:He (.v .nils) (.v (.list []))
 |rawnil:He (.raw (.slice none 0 0)) (.v .nils)
 |rv {x:V} {u:Value}:He (.rv x u) (.v x)
theorem He.rep{d d':D}(h:He d d'){g:Gh}{u:Value}(hr:Ac g d u):Ac g d' u:=by
 cases h with
 |same=>exact hr
 |acc=>simp only[Ac] at hr⊢;exact hr.1
 |nils=>simp only[Ac,BQ] at hr⊢;subst hr;exact Dd _
 |rawnil=>simp only[Ac,BQ] at hr⊢;exact hr
 |rv=>simp only[Ac] at hr⊢;rw[hr.1];exact hr.2
theorem He.one{d d':D}(h:He d d')(h1:d.one=true):d'.one=true:=by
 cases h with
 |same=>exact h1
 |acc=>rfl
 |nils=>rfl
 |rawnil=>rfl
 |rv=>simpa[D.one] using h1
inductive Tw:List D->List D->Prop
 |nil:Tw [] []
 |cons {d d':D} {cs cs':List D} (h:He d d') (hs:Tw cs cs'):Tw (d::cs) (d'::cs')
theorem Tw.refl:∀cs:List D,Tw cs cs
 |[]=>.nil
 |_::cs=>.cons .same (Tw.refl cs)
theorem Tw.set{d d':D}(h:He d d'):∀{cs:List D} {j:Nat},cs[j]?=some d->Tw cs (cs.set j d')
 |[],j,hj=>by simp at hj
 |c::cs,0,hj=>by simp at hj;subst hj;exact .cons h (Tw.refl cs)
 |c::cs,j+1,hj=>by simp at hj;exact .cons .same (Tw.set h hj)
theorem ZJ{env:List D}{σ:St}{q:Nat}{cs cs':List D}(hq:σ.H[q]?=some (some cs))(h:Abq cs cs'):Cv env σ env ⟨σ.H.set q (some cs'),σ.own⟩:=fun E g a w hf=>by
 obtain⟨_,_,_,_,_,h1,_⟩:=hf.wi.rep.obj q cs hq
 exact⟨g,hf.wi.review hq (fun us hr=>h.1 g us hr) (h.2 h1),hf.env,hf.defers⟩
theorem Vz{env:List D}{σ:St}(q j k sz:Nat){cs:List D}(hq:σ.H[q]?=some (some cs))(hj:cs[j]?=some (.v .nils))(hk:∀x∈σ.own,x.1≠k)(hsz:0<sz):
  Cv env σ env ⟨σ.H.set q (some (cs.set j (.acc k []))),(k,sz,[])::σ.own⟩:=fun E g a w hf=>by
 obtain⟨hw1,hle1⟩:=hf.wi.addOwn (k:=k) (sz:=sz) (xs:=[]) (u:=.slice none 0 0) hk ⟨hsz,by simp⟩ (Dd _) (.inl ⟨none,rfl⟩) (fun b hb=>by simp[B8] at hb)
 obtain⟨_,_,_,_,_,h1,_⟩:=hf.wi.rep.obj q cs hq
 have hw2:=hw1.review (cs':=cs.set j (.acc k [])) hq (fun us hr=>by
  obtain⟨u,hu,hru⟩:=BJ hr hj
  simp only[Ac,BQ] at hru
  subst hru
  have:=CU hr j (d:=.acc k []) (u:=.slice none 0 0) (by simp only[Ac];exact⟨Dd _,by simp⟩)
  rwa[Er hu] at this) (fun c hc=>by
  rcases List.mem_or_eq_of_mem_set hc with h|h
  ·exact h1 c h
  ·subst h;rfl)
 exact⟨_,hw2,Ab.mono hle1 _ _ hf.env,hf.defers⟩
theorem DB{g:Gh}{sz:Nat}:∀{ys:List V} {us:List Value},repE g.M sz ys us->Ab g ((ys.flatMap V.cellsV).map .v) us/\∀c∈ (ys.flatMap V.cellsV).map D.v,c.one=true
 |[],us,h=>by simp only[repE] at h;subst h;simp[Ab]
 |y::ys,us,h=>by
  simp only[repE] at h
  obtain⟨u1,u2,rfl,hl,h1,h2⟩:=h
  obtain⟨h3,h4⟩:=DB h2
  have hA:repA g.M y.cellsV u1:=by
   cases hy:y.isAgg with
   |true=>
    cases y with
    |agg cs=>simpa only[V.cellsV,repC] using h1
    |_=>simp[V.isAgg] at hy
   |false=>
    obtain⟨u',e1,_,_⟩:=Cm hy h1
    have e:y.cellsV=[y]:=by cases y<;>simp_all [V.cellsV,V.isAgg]
    rw[e,e1]
    simp only[repA]
    exact⟨u',[],rfl,hy,by rw[←e1];exact h1,rfl⟩
  obtain⟨h5,h6⟩:=CW (g:=g) hA
  refine⟨by simpa using Aw h5 h3,fun c hc=>?_⟩
  simp only[List.flatMap_cons,IC,Ij] at hc
  rcases hc with hc|hc
  ·exact h6 c hc
  ·exact h4 c hc
section
variable {P : Program} {o : Oper} {σ : St} {d : D}
theorem Mv{E:Ent}{g:Gh}{w:World}(hw:WI E g σ w){t ty e:TypeId}{sz by':Nat}{z:Value}(hs:BW P t=some (e,sz,by',some z))(hzc:z.cells.size=sz)
  {q len n cap cap2:Nat} {cs cs2:List D} {vs:List Value} {ad:Addr} (hq:σ.H[q]?=some (some cs)) (hl:cs.length=len*sz) (hvl0:vs.length=n*sz) (hr2:Ab g cs2 vs) (h12:∀c∈cs2,c.one=true) (hnews:∀j u,vs[j]?=some u->w.cell? (ad.add j)=some u)
  (_hcap:len<=cap) (hκ:cap*sz=g.κ q) (_hpos:0<n) (hlen:(len+n)*by'<=140737488355328) (hlen2:len+n<=140737488355328):
  ∃u' w' g',(Builtin.append_ #[t,t] ty #[.slice (some ⟨g.β q,0,none⟩) len cap,.slice (some ad) n cap2]).run P w=.ok u' w'/\
   WI E g' ⟨σ.H.set q none++[some (cs++cs2)],σ.own⟩ w'/\g.le g'/\Ac g' (.gro σ.H.length (len+n) sz) u':=by
 obtain⟨i,ht,hi,hisz,hib,hiz⟩:=A8 hs
 obtain⟨us,rest,et,hb,hr,h1,hM,hκ1⟩:=hw.rep.obj q cs hq
 have hul:us.length=len*sz:=by rw[A7 hr,hl]
 have hvl:vs.length=n*i.size:=by rw[hvl0,hisz]
 have holds:∀j u,us[j]?=some u->w.cell? ((⟨g.β q,0,none⟩:Addr).add j)=some u:=fun j u hj=>by
  rw[Addr.add_lit];simp only[World.cell?,hb,Ih,I1];exact Dw hj
 have hone:∀u∈vs,u.oneCell'=true:=CG h12 hr2
 have hcs:∀c∈cs++cs2,c.one=true:=fun c hc=>by
  rcases Ij.1 hc with h|h
  ·exact h1 c h
  ·exact h12 c h
 by_cases hroom:len+n<=cap
 ·have hfit:len*i.size+vs.length<=(us++rest).toArray.size:=by
   rw[IB,hκ1, ←hκ,hvl,hisz, ←I8]
   exact Nat.mul_le_mul_right _ hroom
  have hrun:=run_append_room' (P:=P) w t ty e et i ht hi (g.β q) len cap (us++rest).toArray hb ad n cap2 vs hvl hnews hone hroom hfit
  have hrow:(us++rest).toArray.toList.take (len*i.size)++vs++(us++rest).toArray.toList.drop (len*i.size+vs.length)=(us++vs)++rest.drop vs.length:=by
   simp only[hisz, ←hul]
   rw[List.take_left',List.drop_append,HI (by omega)]<;>simp
  rw[hrow] at hrun
  have hlen3:((us++vs)++rest.drop vs.length).length=g.κ q:=by
   rw[←hκ1]
   simp only[IB,HC] at hfit
   simp only[HC,I3]
   rw[hisz, ←hul] at hfit
   omega
  have hw1:=hw.setObj (cs':=cs++cs2) (w':=w.setRow (g.β q) ((us++vs)++rest.drop vs.length).toArray) hq (us:=us++vs) (rest:=rest.drop vs.length) (e:=et) (setRow_heap w _ _ _ et _ hb) hlen3 (Aw hr hr2) hcs (fun b hb=>setRow_other w _ _ _ hb) (by simp) rfl rfl rfl
  have hq':(σ.H.set q (some (cs++cs2)))[q]?=some (some (cs++cs2)):=by
   rw[getElem?_set];simp;exact(H0.1 hq).1
  obtain⟨g',h3,h4,h5,h6,h7⟩:=hw1.rename (q:=q) hq'
  simp only[List.set_set,List.length_set] at h3 h5 h6 h7
  exact⟨_,_,g',hrun,h3,h4,by simp only[Ac];exact⟨by omega,cap,hroom,by rw[h6];exact hκ,by rw[h5]⟩⟩
 ·have hfitc:Builtin.nextslicecap (len+n) cap*i.bytes<=281474976710656:=growslice_fits (by omega) (by rw[hib];exact hlen)
  have hrun:=run_append_grow (P:=P) w t ty e i z ht hi hiz ⟨g.β q,0,none⟩ len cap us (by rw[hul,hisz]) holds ad n cap2 vs hvl hnews (by omega) (by omega) hfitc
  have hge:=grownCap_ge w (len+n) cap e
  have hcell:us.toArray++vs.toArray++Builtin.zeroCells z.cells (grownCap w (len+n) cap e- (len+n))=((us++vs)++(Builtin.zeroCells z.cells (grownCap w (len+n) cap e- (len+n))).toList).toArray:=by
   apply Iz;simp
  rw[hcell] at hrun
  obtain⟨g',h3,h4,h5,h6,h7⟩:=(hw.drew.kill hq).newObjR (us:=us++vs) (rest:=(Builtin.zeroCells z.cells (grownCap w (len+n) cap e- (len+n))).toList) (cs:=cs++cs2) e (Aw hr hr2) hcs
  simp only[List.length_set] at h3 h5 h6 h7
  refine⟨_,_,g',hrun,h3,h4,?_⟩
  simp only[Ac]
  refine⟨by omega,_,hge,?_,by rw[h5];rfl⟩
  rw[h6]
  simp only[HC,HY,size_zeroCells,hzc,hul,hvl,hisz, ←I8]
  congr 1;omega
def B5(ys:List V):List D:=(ys.flatMap V.cellsV).map .v
theorem Jw{x y:Operand}{t:TypeId}(ho:o.op=.call { callee:=.builtin .append,args:= #[x,y],argTypes:= #[t,t]}){e:TypeId}{sz by':Nat}{z:Value}(hs:BW P t=some (e,sz,by',some z))(hzc:z.cells.size=sz)(hsz:0<sz)
  {q len:Nat} {cs:List D} {ys:List V} (hq:σ.H[q]?=some (some cs)) (hl:cs.length=len*sz) (hys:∀y∈ys,y.size=sz) (hpos:ys≠ []) (hlen:(len+ys.length)*by'<=140737488355328) (hlen2:len+ys.length<=140737488355328):
  Ap P o [.gro q len sz,.v (.list ys)] σ (.gro σ.H.length (len+ys.length) sz) ⟨σ.H.set q none++[some (cs++B5 ys)],σ.own⟩:=by
 intro E g a w K Q hw hds hK
 simp only[ho,Op.operands,Call.operands] at hds
 obtain⟨u,v,eq,hu,hv⟩:=Am.1 (by simpa using hds)
 simp only[HB,HZ] at eq
 simp only[Ac] at hu hv
 obtain⟨hqn,cap,hcap,hκ,rfl⟩:=hu
 obtain⟨ad,cap2,rfl,hc2,hor⟩:=BI hv hys hsz
 rcases hor with h|⟨b,off,us,rfl,hin,hE⟩
 ·exact absurd h hpos
 obtain⟨h5,h6⟩:=DB hE
 obtain⟨u',w',g',hrun,hw',hle,hd⟩:=Mv (ty:=o.type) (cap2:=cap2) hw hs hzc hq hl (AU hE) h5 h6 (D4 hw hin) hcap hκ (List.length_pos_iff.2 hpos) hlen hlen2
 have:=hK g' w' u' hw' hle hd
 unfold Oper.wp execOp
 simp only[ho,resolve,invoke,builtin,Sem.run_bind,Sem.run_pure,Result.andThen_ok,List.map_toArray,HO,Iu,eq.1,eq.2,hrun]
 exact this
theorem G6{x y:Operand}{t:TypeId}(ho:o.op=.call { callee:=.builtin .append,args:= #[x,y],argTypes:= #[t,t]}){e:TypeId}{sz by':Nat}{z:Value}(hs:BW P t=some (e,sz,by',some z))(hzc:z.cells.size=sz)(hsz:0<sz)
  {ys:List V} (hys:∀y∈ys,y.size=sz) (hpos:ys≠ []) (hlen:ys.length*by'<=140737488355328) (hlen2:ys.length<=140737488355328):
  Ap P o [.v .nils,.v (.list ys)] σ (.gro σ.H.length ys.length sz) ⟨σ.H++[some (B5 ys)],σ.own⟩:=by
 intro E g a w K Q hw hds hK
 simp only[ho,Op.operands,Call.operands] at hds
 obtain⟨u,v,eq,hu,hv⟩:=Am.1 (by simpa using hds)
 simp only[HB,HZ] at eq
 simp only[Ac,BQ] at hu hv
 subst hu
 obtain⟨ad,cap2,rfl,hc2,hor⟩:=BI hv hys hsz
 rcases hor with h|⟨b,off,us,rfl,hin,hE⟩
 ·exact absurd h hpos
 obtain⟨h5,h6⟩:=DB hE
 obtain⟨i,ht,hi,hisz,hib,hiz⟩:=A8 hs
 have hvl:us.length=ys.length*i.size:=by rw[AU hE,hisz]
 have hrun:=run_append_nil (P:=P) w t o.type e i z ht hi hiz ⟨b,off,none⟩ ys.length cap2 us hvl (D4 hw hin) (List.length_pos_iff.2 hpos) (by omega) (by rw[hib];omega)
 have hge:=grownCap_ge w ys.length 0 e
 have hcell:us.toArray++Builtin.zeroCells z.cells (grownCap w ys.length 0 e-ys.length)=(us++(Builtin.zeroCells z.cells (grownCap w ys.length 0 e-ys.length)).toList).toArray:=by
  apply Iz;simp
 rw[hcell] at hrun
 obtain⟨g',h3,h4,h5',h6',h7⟩:=hw.drew.newObjR (us:=us) (rest:=(Builtin.zeroCells z.cells (grownCap w ys.length 0 e-ys.length)).toList) (cs:=B5 ys) e h5 h6
 have hd:Ac g' (.gro σ.H.length ys.length sz) (.slice (some ⟨w.heap.size,0,none⟩) ys.length (grownCap w ys.length 0 e)):=by
  simp only[Ac]
  refine⟨by omega,_,hge,?_,by rw[h5'];rfl⟩
  rw[h6']
  simp only[HC,HY,size_zeroCells,hzc,hvl,hisz, ←I8]
  congr 1;omega
 have:=hK g' _ _ h3 h4 hd
 unfold Oper.wp execOp
 simp only[ho,resolve,invoke,builtin,Sem.run_bind,Sem.run_pure,Result.andThen_ok,List.map_toArray,HO,Iu,eq.1,eq.2,hrun]
 exact this
end
def EK(L:Nat->Option (List D)):Nat->D->V->Prop
 |0,d,x=>∃d',He d d'/\d'.toV=some x
 |n+1,d,x=>(∃d',He d d'/\d'.toV=some x)∨
  (∃o off cs x',d=.ptr o off/\x=.ref x'/\L o=some cs/\∀j y,x'.cellsV[j]?=some y->y.isAgg=false/\∃c,cs[off+j]?=some c/\EK L n c y)∨
  (∃o off sz cs xs,(d=.arr o off xs.length∨(∃sz',d=.gro o xs.length sz'/\off=0))/\x=.list xs/\0<sz/\(∀y∈xs,y.size=sz)/\L o=some cs/\∀j y,(xs.flatMap V.cellsV)[j]?=some y->y.isAgg=false/\∃c,cs[off+j]?=some c/\EK L n c y)
theorem Rl{M:Mem}:∀{ys:List V} {us:List Value},us.length=ys.length->(∀(j:Nat) (y:V),ys[j]?=some y->y.isAgg=false/\∃v,us[j]?=some v/\repV M y v)->repA M ys us
 |[],us,hl,_=>by simp only[repA];exact IE (by simpa using hl)
 |y::ys,[],hl,_=>by simp at hl
 |y::ys,u::us,hl,h=>by
  simp only[repA]
  obtain⟨h1,v,h2,h3⟩:=h 0 y rfl
  simp at h2;subst h2
  exact⟨u,us,rfl,h1,(AT h1).1 h3,Rl (by simpa using hl) (fun j y' hj=>by have:=h (j+1) y' (by simpa using hj);simpa using this)⟩
theorem Fg{M:Mem}{x:V}{us:List Value}(h:repA M x.cellsV us):repC M x us:=by
 cases x with
 |agg cs=>simpa only[V.cellsV,repC] using h
 |_=>
  simp only[V.cellsV,repA] at h
  obtain⟨u,us',rfl,_,h1,rfl⟩:=h
  exact h1
theorem KV(x:V):x.cellsV.length=x.size:=by cases x<;>simp[V.cellsV,V.size]
theorem E9{M:Mem}{sz:Nat}:∀{xs:List V} {us:List Value},(∀y∈xs,y.size=sz)->repA M (xs.flatMap V.cellsV) us->repE M sz xs us
 |[],us,_,h=>by simpa[repA,repE] using h
 |x::xs,us,hs,h=>by
  simp only[List.flatMap_cons] at h
  have h1:=F9 h x.cellsV.length
  have h2:=FA h x.cellsV.length
  rw[List.take_left] at h1
  rw[List.drop_left] at h2
  simp only[repE]
  have hl:(us.take x.cellsV.length).length=x.cellsV.length:=C9 h1
  exact⟨us.take x.cellsV.length,us.drop x.cellsV.length,(List.take_append_drop _ _).symm,by rw[hl,KV];exact hs x List.mem_cons_self,Fg h1,E9 (fun y hy=>hs y (List.mem_cons_of_mem _ hy)) h2⟩
theorem LQ{g:Gh}{M':Mem}{L:Nat->Option (List D)}(hM:g.M.le M')(hL:∀o cs,L o=some cs->∃us,Ab g cs us/\inM M' (g.β o) 0 us):∀(n:Nat) (d:D) (x:V) (u:Value),EK L n d x->Ac g d u->repV M' x u:=by
 have base:∀(d:D) (x:V) (u:Value),(∃d',He d d'/\d'.toV=some x)->Ac g d u->repV M' x u:=by
  rintro d x u ⟨d',h1,h2⟩ hr
  exact(F5 h2 (h1.rep hr)).mono hM
 intro n
 induction n with
 |zero=>intro d x u h hr;exact base d x u (by simpa only[EK] using h) hr
 |succ n ih=>
  intro d x u h hr
  have cells:∀(o off:Nat) (cs:List D) (ys:List V),L o=some cs->(∀(j:Nat) (y:V),ys[j]?=some y->y.isAgg=false/\∃c,cs[off+j]?=some c/\EK L n c y)->∃ws,inM M' (g.β o) off ws/\repA M' ys ws:=by
   intro o off cs ys ho hys
   obtain⟨us,h1,h2⟩:=hL o cs ho
   have hlen:off+ys.length<=us.length∨ys=[]:=by
    by_cases hn:ys=[]
    ·exact .inr hn
    ·left
     have hp:0<ys.length:=List.length_pos_iff.2 hn
     obtain⟨_,c,hc,_⟩:=hys (ys.length-1) (ys[ys.length-1]'(by omega)) (Hx (by omega))
     have:=(H0.1 hc).1
     rw[A7 h1];omega
   refine⟨(us.drop off).take ys.length,?_,?_⟩
   ·have:=GB (GC h2 off) ys.length
    simpa using this
   ·refine Rl ?_ (fun j y hj=>?_)
    ·rcases hlen with h|h
     ·simp;omega
     ·simp[h]
    ·obtain⟨h3,c,hc,h4⟩:=hys j y hj
     obtain⟨v,hv,hrv⟩:=BJ h1 hc
     refine⟨h3,v,?_,ih c y v h4 hrv⟩
     have hjl:=(H0.1 hj).1
     rw[IJ,HJ hjl,List.getElem?_drop];exact hv
  simp only[EK] at h
  rcases h with h|⟨o,off,cs,x',rfl,rfl,ho,hc⟩|⟨o,off,sz,cs,xs,hd,rfl,hsz,hss,ho,hc⟩
  ·exact base d x u h hr
  ·obtain⟨ws,h1,h2⟩:=cells o off cs _ ho hc
   simp only[Ac] at hr
   rw[Ci]
   exact⟨g.β o,off,ws,hr.2,h1,Fg h2⟩
  ·obtain⟨ws,h1,h2⟩:=cells o off cs _ ho hc
   have hE:=E9 hss h2
   rw[AJ]
   rcases hd with rfl|⟨sz',rfl,rfl⟩
   ·simp only[Ac] at hr
    obtain⟨_,cap,hcap,rfl⟩:=hr
    exact⟨_,cap,rfl,hcap,.inr ⟨g.β o,off,sz,ws,rfl,hsz,h1,hE⟩⟩
   ·simp only[Ac] at hr
    obtain⟨_,cap,hcap,_,rfl⟩:=hr
    exact⟨_,cap,rfl,hcap,.inr ⟨g.β o,0,sz,ws,rfl,hsz,h1,hE⟩⟩
inductive Mz (L:Nat->Option (List D)):List D->List V->Prop
 |nil:Mz L [] []
 |cons {n:Nat} {d:D} {x:V} {ds:List D} {xs:List V} (h:EK L n d x) (hs:Mz L ds xs):Mz L (d::ds) (x::xs)
 |fn {f:FuncId} {cs:List D} {ys:List V} {ds:List D} {xs:List V} (h:Mz L cs ys) (hs:Mz L ds xs):Mz L (.dfn f [] cs::ds) (.fn f [] ys::xs)
theorem Mz.rep{g:Gh}{M':Mem}{L:Nat->Option (List D)}(hM:g.M.le M')(hL:∀o cs,L o=some cs->∃us,Ab g cs us/\inM M' (g.β o) 0 us){gc:Gh}(hgc:gc.M=M'):∀{ds:List D} {xs:List V} {us:List Value},Mz L ds xs->Ab g ds us->Ab gc (xs.map .v) us
 |_,_,us,.nil,h=>by simpa only[Iu,Ab] using h
 |_,_,us,.cons h hs,hr=>by
  simp only[Ab,HO,Ac] at hr⊢
  obtain⟨u,us',e,h1,h2⟩:=hr
  exact⟨u,us',e,by rw[hgc];exact LQ hM hL _ _ _ _ h h1,hs.rep hM hL hgc h2⟩
 |_,_,us,.fn h hs,hr=>by
  simp only[Ab,HO,Ac] at hr⊢
  obtain⟨u,us',e,⟨u1,u2,e2,rfl,h2⟩,h3⟩:=hr
  refine⟨u,us',e,Gx.2 ⟨[],u2,e2,by simp[Eh],Gy (Eo _) (h.rep hM hL hgc h2)⟩,hs.rep hM hL hgc h3⟩
section
variable {P : Program} {o : Oper} {σ : St} {d : D}
end
def GA(F:List Nat)(H:List (Option (List D))):List (Option (List D)):=F.foldl (fun H q=>H.set q none) H
theorem G9:∀(F:List Nat) (H:List (Option (List D))),(GA F H).length=H.length
 |[],H=>rfl
 |q::F,H=>by simp only[GA,IA];exact(G9 F _).trans (by simp)
theorem D5:∀(F:List Nat) (H:List (Option (List D))) {i:Nat} {cs:List D},(GA F H)[i]?=some (some cs)->i∉F/\H[i]?=some (some cs)
 |[],H,i,cs,h=>⟨by simp,h⟩
 |q::F,H,i,cs,h=>by
  simp only[GA,IA] at h
  obtain⟨h1,h2⟩:=D5 F _ h
  obtain⟨h3,h4⟩:=E5 h2
  exact⟨by simp[h1,h3],h4⟩
inductive Fz (L:Nat->Option (List D)):List D->List D->Prop
 |nil:Fz L [] []
 |keep {d:D} {ds ds':List D} (hs:Fz L ds ds'):Fz L (d::ds) (d::ds')
 |view {n:Nat} {d:D} {x:V} {ds ds':List D} (h:EK L n d x) (hs:Fz L ds ds'):Fz L (d::ds) (.v x::ds')
theorem Fz.rep{g g':Gh}{L:Nat->Option (List D)}(hg:g.le g')(hL:∀o cs,L o=some cs->∃us,Ab g cs us/\inM g'.M (g.β o) 0 us):∀{ds ds':List D} {us:List Value},Fz L ds ds'->Ab g ds us->Ab g' ds' us
 |_,_,us,.nil,h=>by simpa only[Ab] using h
 |_,_,us,.keep hs,hr=>by
  simp only[Ab] at hr⊢
  obtain⟨u,us',e,h1,h2⟩:=hr
  exact⟨u,us',e,Ac.mono hg _ _ h1,hs.rep hg hL h2⟩
 |_,_,us,.view h hs,hr=>by
  simp only[Ab,Ac] at hr⊢
  obtain⟨u,us',e,h1,h2⟩:=hr
  exact⟨u,us',e,LQ hg.M hL _ _ _ _ h h1,hs.rep hg hL h2⟩
def EF(F:List Nat)(H:List (Option (List D)))(o:Nat):Option (List D):=if o∈F then(H[o]?).join else none
theorem Y5{E:Ent}{g:Gh}{σ:St}{w:World}(F:List Nat)(hw:WI E g σ w):∃g',g.le g'/\WI E g' ⟨GA F σ.H,σ.own⟩ w/\∀{env env':List D} {us:List Value},Fz (EF F σ.H) env env'->Ab g env us->Ab g' env' us:=by
 classical
 let X:Nat->Prop:=fun b=>∃i∈F,∃cs,σ.H[i]?=some (some cs)/\b=g.β i
 let M':Mem:=fun b o=>if X b then w.cell? ⟨b,o,none⟩ else g.M b o
 have hXnone:∀b,X b->∀o,g.M b o=none:=by
  rintro b ⟨i,_,cs,hi,rfl⟩ o
  obtain⟨_,_,_,_,_,_,h,_⟩:=hw.rep.obj i cs hi
  exact h o
 have hle:g.M.le M':=fun b o v h=>by
  simp only[M']
  split
  ·exact hw.rep.mem b o v h
  ·exact h
 have hg:g.le { g with M:=M' }:=⟨hle,H5 _,fun _ _=>rfl,fun _ _ _ h=>h,fun _ _=>rfl⟩
 have hXother:∀i cs,i∉F->σ.H[i]?=some (some cs)->¬X (g.β i):=by
  rintro i cs hi hH ⟨j,hj,cj,hcj,e⟩
  exact hi (by rw[hw.rep.inj i j _ _ hH hcj e];exact hj)
 have hXown:∀x∈σ.own,∀u,g.ι x.1 x.2.2.length=some u->∀b,B8 u=some b->¬X b:=by
  rintro x hx u hu b hb ⟨j,hj,cj,hcj,e⟩
  exact hw.rep.ownObj x hx u hu b hb j cj hcj e.symm
 refine⟨{ g with M:=M' },hg,?_,fun hz hr=>hz.rep hg (fun o cs ho=>?_) hr⟩
 ·refine hw.update X (fun b hb=>?_) (fun b _ hb=>⟨rfl,fun o=>by simp only[M',HF hb]⟩) hle (H5 _) (fun _ _=>rfl) (fun _ _=>rfl) (H5 _) rfl rfl rfl ?_ (fun i cs hi=>hw.objs i cs (D5 F _ hi).2) hw.owns
  ·obtain⟨i,_,cs,hi,rfl⟩:=hb;exact hw.objs i cs hi
  ·refine⟨by rw[G9];exact hw.rep.n,fun b o v hm=>?_,fun i cs hi=>?_,fun i j c1 c2 hi hj=>hw.rep.inj i j _ _ (D5 F _ hi).2 (D5 F _ hj).2,fun k sz xs hx=>?_,hw.rep.tags,hw.rep.sep,fun x hx u hu b hb i cs hi=>hw.rep.ownObj x hx u hu b hb i cs (D5 F _ hi).2,hw.rep.fresh,hw.rep.gl.mono hle,hw.rep.gw⟩
   ·simp only[M'] at hm
    split at hm
    ·exact hm
    ·exact hw.rep.mem b o v hm
   ·obtain⟨h1,h2⟩:=D5 F _ hi
    obtain⟨us,rest,e,h3,h4,h5,h6,h7⟩:=hw.rep.obj i cs h2
    exact⟨us,rest,e,h3,Ab.mono hg _ _ h4,h5,fun o=>by simp only[M',HF (hXother i cs h1 h2)];exact h6 o,h7⟩
   ·obtain⟨h0,u,hu,h3,h4,h5⟩:=hw.rep.own k sz xs hx
    exact⟨h0,u,hu,h3.mono hle,h4.kept fun b hb=>⟨rfl,fun o=>by simp only[M',HF (hXown _ hx u hu b hb)]⟩,h5⟩
 ·simp only[EF] at ho
  split at ho
  ·rename_i hF
   have ho':σ.H[o]?=some (some cs):=by
    cases h:σ.H[o]? with
    |none=>simp[h] at ho
    |some c=>simp[h] at ho;rw[ho]
   obtain⟨us,rest,e,hb,hr,_⟩:=hw.rep.obj o cs ho'
   refine⟨us,hr,fun j v hj=>?_⟩
   simp only[M',HJ (show X (g.β o) from⟨o,hF,cs,ho',rfl⟩),World.cell?,hb,Ih,I1]
   exact Dw hj
  ·simp at ho
theorem SK{env env':List D}{σ:St}(F:List Nat)(hz:Fz (EF F σ.H) env env'):Cv env σ env' ⟨GA F σ.H,σ.own⟩:=fun E g a w hf=>by
 obtain⟨g',_,hw',hr⟩:=Y5 F hf.wi
 exact⟨g',hw',hr hz hf.env,hf.defers⟩
section
variable {P : Program} {o : Oper} {σ : St} {d : D}
theorem Fj{t:TypeId}{len:Nat}{parts:Array (Nat×Operand)}(ho:o.op=.buildSlice t len parts)(hp:parts.toList=((parts.toList.map (·.2)).zipIdx 0).map fun x=>(x.2,x.1))(hlen:parts.size=len)
  {e:TypeId} {sz by':Nat} {z:Option Value} (hs:BW P t=some (e,sz,by',z)) (hz:z.isSome=true) {ds:List D} {xs:List V} (hx:Dk ds=some xs) (hsz:∀x∈xs,x.size=sz) (h0:0<len) (h1:0<sz) (h2:len*sz<=1000)
  (k:Nat) (hk:∀x∈σ.own,x.1≠k):Ap P o ds σ (.acc k xs) ⟨σ.H,(k,sz,xs)::σ.own⟩:=by
 intro E g a w K Q hw hds hK
 simp only[ho,Op.operands] at hds
 obtain⟨i,hu,hi,rfl,rfl,rfl⟩:=A8 hs
 obtain⟨zz,hzz⟩:=Option.isSome_iff_exists.1 hz
 have hlm:(parts.toList.map fun p=>a.eval p.2).length=len:=by simp[hlen]
 have hds':Ab g ds (parts.toList.map fun p=>a.eval p.2):=by simpa[Function.comp_def] using hds
 obtain⟨hr,hcs⟩:=F4 hx hds' hsz
 have hxl:xs.length=len:=by rw[DV hx, ←A7 hds',hlm]
 have hpos:0<len*i.size:=Nat.mul_pos h0 h1
 have hf:=GF i.size (parts.toList.map fun p=>a.eval p.2) 0 [] ((Array.range (len*i.size)).map (zz.cells[· %zz.cells.size]!)).toList (by simp) hcs (by simp[hlen])
 have hpp:((parts.toList.map fun p=>a.eval p.2).zipIdx 0).map (fun x=>(x.2,x.1))=parts.toList.map fun p=>(p.1,a.eval p.2):=by
  have e1:(parts.toList.map fun p=>a.eval p.2)=(parts.toList.map (·.2)).map a.eval:=by simp
  rw[e1,List.zipIdx_map,List.map_map]
  conv=>rhs;rw[hp,List.map_map]
  rfl
 rw[hpp] at hf
 simp only[List.nil_append,Array.toArray_toList] at hf
 have hrun:=run_buildSlice (P:=P) w t e len (parts.map fun p=>(p.1,a.eval p.2)) _ i zz hu hi hzz (by omega) (by omega) (by simpa using hf)
 generalize hus:(parts.toList.map fun p=>a.eval p.2).flatMap (·.cells.toList)=us at hr hrun
 obtain⟨hw1,hle1⟩:=hw.newImm us [] e
 rw[Il] at hw1
 have hul:us.length=len*i.size:=by rw[AU hr,hxl]
 have hrep:repV (Ha g.M w.heap.size us) (.list xs) (.slice (some ⟨w.heap.size,0,none⟩) len len):=by
  have:=C0 (cap:=len) h1 (KZ g.M w.heap.size us) (repE.mono hle1.M _ _ _ hr) (by omega)
  rwa[hxl] at this
 have hperm:Hf (Ha g.M w.heap.size us) (w.alloc (.cells us.toArray e)) i.size (.slice (some ⟨w.heap.size,0,none⟩) len len):=
  .inr ⟨w.heap.size,0,len,len,us.toArray,e,rfl,heap_alloc_new w _,H5 _,by simp[hul],fun o ho'=>by simp only[Ha,I6];exact Ik (by omega),hw.rep.gw.new (H5 _)⟩
 have hb:∀b,B8 (.slice (some ⟨w.heap.size,0,none⟩) len len)=some b->b=w.heap.size:=fun b hb=>by
  simp only[B8] at hb
  split at hb
  ·simp at hb
  ·simpa using hb.symm
 obtain⟨hw',hle⟩:=hw1.addOwn (k:=k) (sz:=i.size) (xs:=xs) hk ⟨h1,hsz⟩ hrep hperm (fun b hb'=>by
  rw[hb b hb']
  exact⟨hw.size,fun j cs hj=>Nat.ne_of_lt (hw.rep.obj_lt hj),fun x hx' u' hu' hb2=>by have:=hw.rep.own_lt hx' hu' hb2;omega⟩)
 have:=hK _ _ (.slice (some ⟨w.heap.size,0,none⟩) len len) hw' (Gh.le_trans hle1 hle) (by
  simp only[Ac]
  exact⟨hrep,by simp⟩)
 unfold Oper.wp execOp
 simp only[ho]
 simp only[Sem.run_bind]
 rw[show(parts.map fun(x:Nat×Operand)=>match x with|(i,x)=>(i,a.eval x))=parts.map fun p=>(p.1,a.eval p.2) from rfl,hrun]
 exact this
end
theorem Hf.drop{M:Mem}{w:World}{sz:Nat}{a:Option Addr}{len cap:Nat}(h:Hf M w sz (.slice a len cap)){l:Nat}(hl:l<=len):Hf M w sz (.slice (if cap=l then a else a.map (·.add (l*sz))) (len-l) (cap-l)):=by
 rcases h with⟨a',e⟩|⟨b,f,len',cap',cur,e',e,hh,hlc,hc,hM⟩
 ·simp only[Value.slice.injEq] at e
  obtain⟨rfl,rfl,rfl⟩:=e
  obtain rfl:l=0:=by omega
  exact .inl ⟨_,by simp;rfl⟩
 ·simp only[Value.slice.injEq] at e
  obtain⟨rfl,rfl,rfl⟩:=e
  by_cases hcl:cap=l
  ·subst hcl
   obtain rfl:len=cap:=by omega
   exact .inl ⟨some ⟨b,f,none⟩,by simp⟩
  ·rw[HF hcl]
   refine .inr ⟨b,f+l*sz,len-l,cap-l,cur,e',by simp[Addr.add_lit],hh,by omega,?_,fun o ho=>hM o ?_,hM.ng⟩
   ·have:l*sz+(cap-l)*sz=cap*sz:=by rw[←I8];congr 1;omega
    omega
   ·have:l*sz+(len-l)*sz=len*sz:=by rw[←I8];congr 1;omega
    omega
section
variable {C : Ent -> Ent -> Prop} {P : Program} {R : List D -> St -> Prop} {c : Code} {p : List Nat} {κ : List KI} {env env1 env' : List D} {σ σ' : St} {i : Nat} {o : Oper} {d : D}
end
theorem WI.trans{E:Ent}{g g':Gh}{σ σ':St}{w w1 w':World}(h:WI E g σ w)(hk:∀b,b<E.w.heap.size->¬E.priv b->w1.heap[b]?=w.heap[b]?)(hsz:w.heap.size<=w1.heap.size)(hos:w1.os=w.os)(htp:w1.tape=w.tape)(hou:w1.output=w.output)
  (h':WI ⟨g,w1,σ⟩ g' σ' w') (hdr:AQ w.drawn w1.drawn:=by first|exact AQ.refl _|exact AQ.succ _|assumption):WI E g' σ' w' where
 rep:=h'.rep
 M:=Mem.le_trans h.M h'.M
 size:=Is h.size (Is hsz h'.size)
 keep:=fun b hb hp=>by
  have hnp:¬Ent.priv ⟨g,w1,σ⟩ b:=by
   rintro (⟨i,cs,hi,e⟩|⟨x,hx,u,hu,hb'⟩)
   ·have e':b=g.β i:=e
    rw[e'] at hb hp
    rcases h.objs i cs hi with h1|h1
    ·omega
    ·exact hp h1
   ·rcases h.owns x hx u hu b hb' with h1|h1
    ·omega
    ·exact hp h1
  have hlt:b<w1.heap.size:=by have:=h.size;omega
  obtain⟨h1,h2⟩:=h'.keep b hlt hnp
  obtain⟨h3,h4⟩:=h.keep b hb hp
  exact⟨h1.trans ((hk b hb hp).trans h3),fun o=>(h2 o).trans (h4 o)⟩
 os:=h'.os.trans (hos.trans h.os)
 tape:=h'.tape.trans (htp.trans h.tape)
 output:=h'.output.trans (hou.trans h.output)
 drawn:=h.drawn.trans (hdr.trans h'.drawn)
 nE:=Is h.nE h'.nE
 βE:=fun o ho=>(h'.βE o (IG ho h.nE)).trans (h.βE o ho)
 κE:=fun o ho=>(h'.κE o (IG ho h.nE)).trans (h.κE o ho)
 objs:=fun i cs hi=>by
  rcases h'.objs i cs hi with h1|h1
  ·left;have:=h.size;simp only at h1;omega
  ·rcases h1 with⟨j,cj,hj,e⟩|⟨x,hx,u,hu,hb⟩
   ·rw[e];exact h.objs j cj hj
   ·exact h.owns x hx u hu _ hb
 owns:=fun x hx u hu b hb=>by
  rcases h'.owns x hx u hu b hb with h1|h1
  ·left;have:=h.size;simp only at h1;omega
  ·rcases h1 with⟨j,cj,hj,e⟩|⟨y,hy,u',hu',hb'⟩
   ·rw[e];exact h.objs j cj hj
   ·exact h.owns y hy u' hu' b hb'
structure Tj(r:Nat)(o:Obj)(E:Ent):Prop where
 at_:E.w.heap[r]?=some o
 priv:¬E.priv r
 mem:∀x,E.g.M r x=none
theorem Tj.now{r:Nat}{o:Obj}{E:Ent}{g:Gh}{σ:St}{w:World}(h:Tj r o E)(hw:WI E g σ w):w.heap[r]?=some o/\(∀x,g.M r x=none)/\(∀i cs,σ.H[i]?=some (some cs)->g.β i≠r)/\(∀x∈σ.own,∀u,g.ι x.1 x.2.2.length=some u->B8 u≠some r):=by
 have hlt:r<E.w.heap.size:=(Ir.1 h.at_).1
 obtain⟨h1,h2⟩:=hw.keep r hlt h.priv
 refine⟨h1.trans h.at_,fun x=>(h2 x).trans (h.mem x),fun i cs hi e=>?_,fun x hx u hu hb=>?_⟩
 ·rcases hw.objs i cs hi with h3|h3
  ·omega
  ·rw[e] at h3;exact h.priv h3
 ·rcases hw.owns x hx u hu r hb with h3|h3
  ·omega
  ·exact h.priv h3
theorem WRep.side{g:Gh}{σ:St}{w:World}(h:WRep g σ w){r:Nat}(hM:∀x,g.M r x=none)(hobj:∀i cs,σ.H[i]?=some (some cs)->g.β i≠r)(hown:∀x∈σ.own,∀u,g.ι x.1 x.2.2.length=some u->B8 u≠some r)
  {w':World} (hk:∀b,b≠r->w'.heap[b]?=w.heap[b]?):WRep g σ w' where
 n:=h.n
 gl:=h.gl
 gw:=h.gw.keepG fun p hp _=>hk p.1 fun e=>by
  obtain⟨v,hv⟩:=h.gl.sized p hp
  rw[e,hM 0] at hv;simp at hv
 mem:=fun b o v hm=>by
  have hne:b≠r:=fun e=>by subst e;rw[hM o] at hm;simp at hm
  have:=h.mem b o v hm
  simp only[World.cell?] at this⊢
  rw[hk b hne];exact this
 obj:=fun i cs hi=>by
  obtain⟨us,rest,e,h1,h2⟩:=h.obj i cs hi
  exact⟨us,rest,e,by rw[hk _ (hobj i cs hi)];exact h1,h2⟩
 inj:=h.inj
 own:=fun k sz xs hx=>by
  obtain⟨h0,u,hu,h1,h2,h3⟩:=h.own k sz xs hx
  exact⟨h0,u,hu,h1,h2.kept fun b hb=>⟨hk b (fun e=>hown _ hx u hu (by rw[←e];exact hb)),fun _=>rfl⟩,h3⟩
 tags:=h.tags
 sep:=h.sep
 ownObj:=h.ownObj
 fresh:=h.fresh
structure Mw(r:Nat)(o:Obj)(E0 E:Ent):Prop where
 side:Tj r o E
 new:E0.w.heap.size<=r
 link:∀(g:Gh) (σ:St) (w:World),WI E g σ w->WI E0 g σ w
section
variable {C : Ent -> Ent -> Prop} {P : Program} {R : List D -> St -> Prop} {c : Code} {p : List Nat} {k : List KI} {env env' : List D} {σ σ' : St} {i : Nat} {o : Oper} {d : D}
theorem Mw.of{E0:Ent}{g:Gh}{w w1:World}{r:Nat}{ob:Obj}(hw:WI E0 g σ w)(hk:∀b,b≠r->w1.heap[b]?=w.heap[b]?)(hr:w1.heap[r]?=some ob)(hsz:w.heap.size<=w1.heap.size)(hos:w1.os=w.os)(htp:w1.tape=w.tape)(hou:w1.output=w.output)(hEr:E0.w.heap.size<=r)
  (hM:∀x,g.M r x=none) (hobj:∀i cs,σ.H[i]?=some (some cs)->g.β i≠r) (hown:∀x∈σ.own,∀u,g.ι x.1 x.2.2.length=some u->B8 u≠some r) (hdr:AQ w.drawn w1.drawn:=by first|exact AQ.refl _|exact AQ.succ _|assumption):
  Mw r ob E0 ⟨g,w1,σ⟩/\WI ⟨g,w1,σ⟩ g σ w1:=by
 refine⟨⟨⟨hr,?_,hM⟩,hEr,fun g' σ' w' h'=>hw.trans (fun b hb _=>hk b (by omega)) hsz hos htp hou h'⟩,WI.start (hw.rep.side hM hobj hown hk)⟩
 rintro (⟨i,cs,hi,e⟩|⟨x,hx,u,hu,hb⟩)
 ·exact hobj i cs hi e.symm
 ·exact hown x hx u hu hb
end
def DI:Nat->List (List UInt8)->List MapEntry
 |_,[]=>[]
 |n,s::l=>⟨.string ⟨s.toArray⟩,.bool true,n⟩::DI (n+1) l
def Ch(l:List (List UInt8)):Obj:=.map (DI 0 l).toArray l.length
theorem SZ(a b:List UInt8):((⟨a.toArray⟩:ByteArray)==⟨b.toArray⟩)=(a==b):=by
 have:((⟨a.toArray⟩:ByteArray)==⟨b.toArray⟩)=(a.toArray==b.toArray):=rfl
 rw[this];simp
theorem KM(s:List UInt8):∀(l:List (List UInt8)) (n m:Nat),∃q,Instr.findNow .string (.string ⟨s.toArray⟩) (DI n l) m=some (if l.contains s then some (q,.bool true) else none)
 |[],n,m=>⟨0,by simp[DI,Instr.findNow]⟩
 |x::l,n,m=>by
  obtain⟨q,hq⟩:=KM s l (n+1) (m+1)
  simp only[DI,Instr.findNow,Instr.sameNow,SZ,List.contains_cons]
  by_cases h:s=x
  ·subst h;exact⟨m,by simp⟩
  ·have hb:(s==x)=false:=by simpa using h
   simp only[hb,Bool.false_or]
   exact⟨q,hq⟩
theorem J0:∀(l:List (List UInt8)) (n:Nat) (s:List UInt8),DI n (l++[s])=DI n l++[⟨.string ⟨s.toArray⟩,.bool true,n+l.length⟩]
 |[],n,s=>by simp[DI]
 |x::l,n,s=>by simp only[IW,DI,J0 l (n+1) s,H3,Nat.add_assoc,Nat.add_comm 1]
section
variable {C : Ent -> Ent -> Prop} {P : Program} {R : List D -> St -> Prop} {c : Code} {p : List Nat} {k : List KI} {env env' : List D} {σ σ' : St} {i : Nat} {o : Oper} {d : D}
end
section
variable {P : Program} {o : Oper} {σ : St} {d : D}
end
mutual
inductive VS:V->V->Prop
 |refl (x:V):VS x x
 |nils:VS .nils (.list [])
 |agg {cs ds:List V} (h:VSL cs ds):VS (.agg cs) (.agg ds)
 |list {cs ds:List V} (h:VSL cs ds):VS (.list cs) (.list ds)
 |ref {x y:V} (h:VS x y):VS (.ref x) (.ref y)
inductive VSL:List V->List V->Prop
 |nil:VSL [] []
 |cons {x y:V} {xs ys:List V} (h:VS x y) (hs:VSL xs ys):VSL (x::xs) (y::ys)
end
theorem VS.isAgg{x y:V}(h:VS x y):y.isAgg=x.isAgg:=by cases h<;>rfl
theorem VSL.length:∀{xs ys:List V},VSL xs ys->ys.length=xs.length
 |_,_,.nil=>rfl
 |_,_,.cons _ hs=>by simp[hs.length]
theorem VSL.refl:∀xs:List V,VSL xs xs
 |[]=>.nil
 |x::xs=>.cons (.refl x) (VSL.refl xs)
mutual
theorem VS.repC{M:Mem}:∀{x y:V},VS x y->∀{ws:List Value},repC M x ws->Dv.repC M y ws
 |_,_,.refl _,_,h=>h
 |_,_,.nils,ws,h=>by
  simp only[Dv.repC] at h⊢
  subst h
  exact⟨none,0,rfl,H5 _,.inl trivial⟩
 |_,_,.agg h,_,hr=>by simp only[Dv.repC] at hr⊢;exact h.repA hr
 |_,_,.list h,_,hr=>by
  simp only[Dv.repC] at hr⊢
  obtain⟨a,cap,e,hc,hor⟩:=hr
  rw[h.length]
  refine⟨a,cap,e,hc,?_⟩
  rcases hor with rfl|⟨b,off,sz,us,h1,h2,h3,h4⟩
  ·left;cases h;rfl
  ·exact .inr ⟨b,off,sz,us,h1,h2,h3,h.repE h4⟩
 |_,_,.ref h,_,hr=>by
  simp only[Dv.repC] at hr⊢
  obtain⟨b,off,us,e,hi,hx⟩:=hr
  exact⟨b,off,us,e,hi,h.repC hx⟩
theorem VSL.repA{M:Mem}:∀{xs ys:List V},VSL xs ys->∀{us:List Value},Dv.repA M xs us->Dv.repA M ys us
 |_,_,.nil,_,h=>h
 |_,_,.cons h hs,_,hr=>by
  simp only[Dv.repA] at hr⊢
  obtain⟨u,us',e,ha,h1,h2⟩:=hr
  exact⟨u,us',e,by rw[h.isAgg];exact ha,h.repC h1,hs.repA h2⟩
theorem VSL.repE{M:Mem}{sz:Nat}:∀{xs ys:List V},VSL xs ys->∀{us:List Value},Dv.repE M sz xs us->Dv.repE M sz ys us
 |_,_,.nil,_,h=>h
 |_,_,.cons h hs,_,hr=>by
  simp only[Dv.repE] at hr⊢
  obtain⟨u1,u2,e,hl,h1,h2⟩:=hr
  exact⟨u1,u2,e,hl,h.repC h1,hs.repE h2⟩
end
theorem VS.repV{M:Mem}{x y:V}(h:VS x y){u:Value}(hr:repV M x u):Dv.repV M y u:=by
 obtain⟨ws,h1,h2⟩:=hr
 refine⟨ws,h.repC h1,?_⟩
 rw[h2]
 cases h<;>rfl
inductive DS:D->D->Prop
 |same (d:D):DS d d
 |v {x y:V} (h:VS x y):DS (.v x) (.v y)
 |gro {q len sz:Nat}:DS (.gro q len sz) (.arr q 0 len)
 |acc {k:Nat} {xs:List V}:DS (.acc k xs) (.v (.list xs))
inductive DSL:List D->List D->Prop
 |nil:DSL [] []
 |cons {d e:D} {ds es:List D} (h:DS d e) (hs:DSL ds es):DSL (d::ds) (e::es)
theorem DS.rep{g:Gh}{d e:D}(h:DS d e){u:Value}(hr:Ac g d u):Ac g e u:=by
 cases h with
 |same=>exact hr
 |v h=>simp only[Ac] at hr⊢;exact h.repV hr
 |gro=>
  simp only[Ac] at hr⊢
  obtain⟨h1,cap,h2,_,h3⟩:=hr
  exact⟨h1,cap,h2,h3⟩
 |acc=>simp only[Ac] at hr⊢;exact hr.1
theorem DSL.rep{g:Gh}:∀{ds es:List D},DSL ds es->∀{us:List Value},Ab g ds us->Ab g es us
 |_,_,.nil,_,h=>h
 |_,_,.cons h hs,_,hr=>by
  simp only[Ab] at hr⊢
  obtain⟨u,us',e,h1,h2⟩:=hr
  exact⟨u,us',e,h.rep h1,hs.rep h2⟩
theorem DSL.refl:∀ds:List D,DSL ds ds
 |[]=>.nil
 |d::ds=>.cons (.same d) (DSL.refl ds)
theorem Aa.sub{P:Program}{f:FuncId}{ds es:List D}{σ σ':St}{d e:D}(h:Aa P f es σ d σ')(hs:DSL ds es)(hd:DS d e):Aa P f ds σ e σ':=by
 refine⟨h.1,fun g w args hw hargs=>Calls.mono (h.2 g w args hw (hs.rep hargs)) ?_⟩
 rintro x w' ⟨u,g',rfl,hw',hr⟩
 exact⟨u,g',rfl,hw',hd.rep hr⟩
theorem W1{env env':List D}{σ:St}(h:DSL env env'):Cv env σ env' σ:=fun E g a w hf=>⟨g,hf.wi,h.rep hf.env,hf.defers⟩
section
variable {P : Program} {o : Oper} {σ : St}
theorem Lx{op:BinOp}{t ty e:TypeId}{x:Operand}(ho:o.op=.binOp op t x (.const (.slice none 0 0)) ty)(hu:P.underlying t=some (.slice e))(hop:op=.eql∨op=.neq)(ρ:Operand->Value)(w:World){a:Option Addr}{len cap:Nat}(e1:ρ x=.slice a len cap)(e2:ρ (.const (.slice none 0 0))=.slice none 0 0):
  (execOp ρ o).run P w=.ok (.value (.bool (if op=.eql then a.isNone else !a.isNone))) w:=by
 have heq:(Op.equal t (.slice a len cap) (.slice none 0 0)).run P w=.ok a.isNone w:=by
  have gen:∀d,(Op.equalIn (d+1) t (.slice a len cap) (.slice none 0 0)).run P w=.ok a.isNone w:=fun d=>by
   cases a<;>simp[Op.equalIn,run_underlying hu]
  exact gen 9999
 rcases hop with rfl|rfl<;>simp[execOp,ho,e1,e2,eqGuard,binOp,heq]
theorem Ju{t:TypeId}{parts:Array (Nat×Operand)}(ho:o.op=.buildSlice t 0 parts)(hp:parts= #[]){e:TypeId}{sz by':Nat}{z:Option Value}(hs:BW P t=some (e,sz,by',z)):
  Ap P o [] σ (.gro σ.H.length 0 sz) ⟨σ.H++[some []],σ.own⟩:=by
 intro E g a w K Q hw hds hK
 obtain⟨i,hu,hi,rfl,rfl,rfl⟩:=A8 hs
 subst hp
 obtain⟨g',h3,h4,h5,h6,h7⟩:=hw.newObjR (us:=[]) (rest:=[]) (cs:=[]) e (by simp[Ab]) (by simp)
 have:=hK g' _ (.slice (some ⟨w.heap.size,0,none⟩) 0 0) h3 h4 (by
  simp only[Ac]
  exact⟨by omega,0,H5 _,by rw[h6];simp,by rw[h5]⟩)
 unfold Oper.wp execOp
 simpa[ho,Instr.buildSlice,run_underlying hu,sizeOf,typeInfo,hi,Instr.fill,newRow,Oper.upon,show Array.range 0= #[] from rfl] using this
theorem K8{c:Call}{fo:Operand}(ho:o.op=.call c)(hc:c.callee=.value fo){f:FuncId}{fs cs:List V}{ds:List D}(hp:D.pls ds=true){Hc:List (Option (List D))}{j:Nat}{os:List D}(hj:Hc[j]?=some (some os))(hos:D.pls os=true){len:Nat}
  (hspec:Aa P f (fs.map .v++ds++cs.map .v) ⟨[],[]⟩ (.arr j 0 len) ⟨Hc,[]⟩):Ap P o (.v (.fn f fs cs)::ds) σ (.arr σ.H.length 0 len) ⟨σ.H++[some os],σ.own⟩:=by
 intro E g a w K Q hw hds hK
 obtain⟨us,vs,ws,hf,hargs,h1,h2,h3⟩:=CZ ho hc hds
 refine F2 (_E:=E) (_g:=g) ho hc hspec.1 hf hargs ?_
 have hargs':Ab { M:=g.M,β:=g.β,n:=0,ι:=fun _ _=>none,κ:=g.κ } (fs.map .v++ds++cs.map .v) (us++ws++vs):=
  AV (by rfl) (by simp[ED,C2,hp]) (Aw (Aw h1 h3) h2)
 refine Calls.mono (hspec.2 _ w _ hw.rep.empty hargs') ?_
 rintro e w' ⟨u,g',rfl,hw',hr⟩
 obtain⟨h4,h5⟩:=hw.back0 (by rfl) hw'
 simp only[Ac] at hr
 obtain⟨vs',rest',e',hb,hrv,hone,hMn,_⟩:=hw'.rep.obj j os hj
 have hge:w.heap.size<=g'.β j:=by
  rcases hw'.objs j os hj with h|h
  ·exact h
  ·exact absurd h Fl
 obtain⟨h6,h7⟩:=h4.addObj (b:=g'.β j) (us:=vs') (rest:=rest') (e:=e') (cs:=os) hb (.inl (Is hw.size hge)) hMn
  (fun i cs hi=>by have:=hw.rep.obj_lt hi;simp only;omega) (fun x hx v hv hvb=>by have:=hw.rep.own_lt hx hv hvb;omega) (AV (by rfl) hos hrv) hone
 refine⟨u,rfl,hK _ _ _ h6 (Gh.le_trans h5 h7) ?_⟩
 simp only[Ac]
 obtain⟨_,cap,hcap,rfl⟩:=hr
 exact⟨by rw[hw.rep.n];omega,cap,hcap,by rw[hw.rep.n];simp⟩
end
end Go.Dv

namespace Go.Nv
open Go.Dv
open Go.IntKind (wrap)
abbrev vi(n:Int):V:=.int .i64 n
abbrev di(n:Int):D:=.v (.int .i64 n)
abbrev db(b:Bool):D:=.v (.bool b)
abbrev vb(c:UInt8):V:=.int .u8 c.toNat
abbrev ds(s:List UInt8):D:=.v (.str s)
abbrev nV:List V:=[]
abbrev iz(n:Int):Int:=n
inductive Abs where
 |x (v:V)                                  -- the element of a list
 |xs (v:V)                                 -- the same,of a size to be shown
 |y (c:UInt8)                              -- a byte of a string
 |c (d:D)                                  -- what a call returns (data)
 |ca (xs:List V) (d:D)                   -- the same;the arguments as the contract has them
 |c1 (os:List D) (d:D)                   -- a call that is handed one object:its cells behind
 |c1k (k k' sz:Nat) (os:List D) (xs:List V)  -- the same;it returns an owned list
 |ck (k k' sz:Nat) (xs:List V)           -- a call that returns an owned list
 |ckn (k k' sz:Nat) (xs:List V)          -- the same,handed nil
 |k                                          -- a truth value that is known
 |t
 |f
 |l (sl:List (Nat×Option D)) (σ:Option St)   -- a loop's head:what is known there
 |lo (sl:List (Nat×Option D)) (σ:St)   -- the same,with open cells
 |n                                          -- into a loop
 |m (d:D)                                  -- a cell
 |w                                          -- a write to an open place
 |ww                                         -- the same,of a struct
 |cs (σ:St)                                -- the state,seen otherwise
 |ct (t:Nat) (d:D) (σ:St)              -- a slot and the state,seen otherwise
 |oc (d:D) (σ:St)                        -- any call
 |gx (cs:List D) (H:List (Option (List D)))  -- a growing list is appended to,in a state that is not known whole
 |o (d:D) (σ:St)                         -- any operation
 |p (d:D)                                  -- any operation that leaves the state as it is
 |g                                          -- an empty literal that grows
 |ga (s:Nat)                               -- a list that grew,as an array
 |cj (j:Nat) (H:List (Option (List D))) (os:List D) (len:Nat)   -- a call that returns a new array
 |un (s:Nat)                               -- a slot's list is appended to no longer
 |dr (k:Nat)                               -- a list's right to be appended to is given up
 |fa (q:Nat) (ss:List Nat)               -- a struct or array becomes data,seen from some slots
 |f1 (q:Nat) (ss:List Nat)               -- a variable of one cell becomes data
 |fl (q s:Nat) (xs:List V)               -- a list of one-cell elements becomes data
 |q (r i:Nat)                              -- nothing before operation i of region r
 |cl (q j k sz:Nat)                        -- a cell's nil may be appended to
 |nw (s k sz:Nat)                          -- a slot's nil may be appended to
 |a (k:Nat)                                -- a list that is made may be appended to
 |s (sl:List (Nat×Option D))             -- the walk stops ahead of an operation
 |r
 |rn
 |ro
 |rd                                         -- a return of structs with lists of their own
inductive Sc:Type 1 where
 |z
 |e {A:Type} (f:A->Sc)
 |b (s t:Sc)
 |h (i:Abs) (s:Sc)
namespace Sc
abbrev x(v:V)(s:Sc):Sc:=.h (.x v) s
abbrev y(c:UInt8)(s:Sc):Sc:=.h (.y c) s
abbrev c(d:D)(s:Sc):Sc:=.h (.c d) s
abbrev ca(xs:List V)(d:D)(s:Sc):Sc:=.h (.ca xs d) s
abbrev c1(os:List D)(d:D)(s:Sc):Sc:=.h (.c1 os d) s
abbrev k(s:Sc):Sc:=.h .k s
abbrev t(s:Sc):Sc:=.h .t s
abbrev f(s:Sc):Sc:=.h .f s
abbrev a(k:Nat)(s:Sc):Sc:=.h (.a k) s
abbrev n(s:Sc):Sc:=.h .n s
abbrev m(d:D)(s:Sc):Sc:=.h (.m d) s
abbrev w(s:Sc):Sc:=.h .w s
abbrev q(r i:Nat)(h:Abs)(s:Sc):Sc:=.h (.q r i) (.h h s)
abbrev r:Sc:=.h .r .z
abbrev rn:Sc:=.h .rn .z
abbrev ro:Sc:=.h .ro .z
abbrev rd:Sc:=.h .rd .z
abbrev lo(sl:List (Nat×Option D))(σ:St):Sc:=.h (.lo sl σ) .z
abbrev l(sl:List (Nat×Option D)):Sc:=.h (.l sl none) .z
abbrev ls(sl:List (Nat×Option D))(σ:St):Sc:=.h (.l sl (some σ)) .z
end Sc
noncomputable def AH{α β:Type}(l:List α)(k:List α->β):β:=
 List.rec (motive:=fun _=>(List α->β)->β) (fun k=>k []) (fun a _ ih k=>ih fun r=>k (a::r)) l k
theorem AE{α β:Type}:∀(l:List α) (k:List α->β),AH l k=k l
 |[],_=>rfl
 |a::l,k=>by
  have h:AH (a::l) k=AH l fun r=>k (a::r):=rfl
  rw[h,AE l]
noncomputable def BX{α β:Type}(l:List α)(i:Nat)(x:α)(k:List α->β):β:=
 List.rec (motive:=fun _=>Nat->(List α->β)->β) (fun _ k=>k []) (fun a t ih i k=>Nat.rec (motive:=fun _=>β) (k (x::t)) (fun j _=>ih j fun r=>k (a::r)) i) l i k
theorem AG{α β:Type}(x:α):∀(l:List α) (i:Nat) (k:List α->β),BX l i x k=k (l.set i x)
 |[],_,_=>rfl
 |a::l,0,k=>rfl
 |a::l,i+1,k=>by
  have h:BX (a::l) (i+1) x k=BX l i x fun r=>k (a::r):=rfl
  rw[h,AG x l];rfl
noncomputable def C4{β:Type}(env:List D)(t:Option Tmp)(d:D)(k:List D->β):β:=match t with
 |some t=>BX env t d k
 |none=>k env
theorem C1{β:Type}(env:List D)(t:Option Tmp)(d:D)(k:List D->β):C4 env t d k=k (BU env t d):=by
 cases t with
 |none=>rfl
 |some t=>exact AG d env t k
noncomputable def A5{α β:Type}(l:List α)(x:α)(k:List α->β):β:=
 List.rec (motive:=fun _=>(List α->β)->β) (fun k=>k [x]) (fun a _ ih k=>ih fun r=>k (a::r)) l k
theorem A4{α β:Type}(x:α):∀(l:List α) (k:List α->β),A5 l x k=k (l++[x])
 |[],_=>rfl
 |a::l,k=>by
  have h:A5 (a::l) x k=A5 l x fun r=>k (a::r):=rfl
  rw[h,A4 x l];rfl
noncomputable def mkE(n:Nat)(L:List (Nat×D)):List D:=L.foldl (fun e p=>e.set p.1 p.2) (List.replicate n .undef)
def Aav:Value->D
 |.slice none 0 0=>.v .nils
 |u=>Om u
noncomputable def evN(env:List D):Operand->D
 |.tmp t=>env.getD t .undef
 |.const u=>Aav u
 |.global n=>Vh n
 |.func f=>.v (.fn f [] [])
theorem NZ{g:Gh}{u:Value}:Ac g (Aav u) u:=by
 unfold Aav
 split
 ·simp[Ac]
 ·exact JH g u
theorem Uo{g:Gh}{env:List D}{a:Act}(hG:GlobOK g.M)(h:Ab g env a.tmps.toList)(x:Operand):Ac g (evN env x) (a.eval x):=by
 cases x with
 |tmp t=>exact Cl h t
 |const u=>exact NZ
 |global n=>exact G1 hG h (.global n)
 |func f=>exact G1 hG h (.func f)
theorem L4{g:Gh}{env:List D}{a:Act}(hG:GlobOK g.M)(h:Ab g env a.tmps.toList):∀(l:List Operand),Ab g (l.map (evN env)) (l.map a.eval)
 |[]=>by simp[Ab]
 |x::l=>by simp only[HO,Ab];exact⟨_,_,rfl,Uo hG h x,L4 hG h l⟩
def kq(a b:IntKind):Bool:=decide (a=b)
noncomputable def Aah(P:Program)(op:BinOp)(t:TypeId)(x y:V)(K:V->Prop):Prop:=
 match x,y with
 |.int kd a,.int kd' b=>
  match op with
  |.quo=>cond (kq kd kd') (b≠0/\K (.int kd (kd.wrap (a.tdiv b)))) False
  |.rem=>cond (kq kd kd') (b≠0/\K (.int kd (a.tmod b))) False
  |.shl=>0<=b/\K (.int kd (kd.wrap (a*2^(min b.toNat kd.bits))))
  |.shr=>0<=b/\K (.int kd (a.fdiv (2^(min b.toNat kd.bits))))
  |op=>cond (kq kd kd') (match Aba op kd a b with|some z=>K z|none=>False) False
 |.str a,.str b=>
  match op with
  |.add=>a.length+b.length<=9223372036854775807/\K (.str (a++b))
  |op=>match Aac op a b with|some z=>K z|none=>False
 |.bool a,.bool b=>match P.underlying t with
  |some .bool=>match op with
   |.eql=>K (.bool (a==b))
   |.neq=>K (.bool (a !=b))
   |_=>False
  |_=>False
 |_,_=>False
theorem Aj{b:Bool}{x:Prop}(h:cond b x False):b=true/\x:=by cases b<;>simp_all
theorem WR{P:Program}{op:BinOp}{t ty:TypeId}{x y:V}{K:V->Prop}(h:Aah P op t x y K){o:Oper}{a b:Operand}(ho:o.op=.binOp op t a b ty):
  ∃z,K z/\∀σ,Ap P o [.v x,.v y] σ (.v z) σ:=by
 unfold Aah at h
 split at h
 ·rename_i kd a kd' b
  split at h
  ·obtain⟨e,hb,h'⟩:=Aj h
   have e:=H9 e;subst e
   exact⟨_,h',fun σ=>RF ho rfl hb⟩
  ·obtain⟨e,hb,h'⟩:=Aj h
   have e:=H9 e;subst e
   exact⟨_,h',fun σ=>RF ho rfl hb⟩
  ·exact⟨_,h.2,fun σ=>Wh ho rfl h.1⟩
  ·exact⟨_,h.2,fun σ=>Wh ho rfl h.1⟩
  ·obtain⟨e,h'⟩:=Aj h
   have e:=H9 e;subst e
   split at h'
   ·rename_i z hz;exact⟨z,h',fun σ=>X2 ho hz⟩
   ·exact h'.elim
 ·split at h
  ·exact⟨_,h.2,fun σ=>RS ho h.1⟩
  ·split at h
   ·rename_i z hz;exact⟨z,h,fun σ=>X1 ho hz⟩
   ·exact h.elim
 ·rename_i a b
  split at h
  ·rename_i hu
   split at h
   ·exact⟨_,h,fun σ=>by have:=RR (P:=P) (σ:=σ) ho hu (a:=a) (b:=b) (.inl rfl);simpa using this⟩
   ·exact⟨_,h,fun σ=>by have:=RR (P:=P) (σ:=σ) ho hu (a:=a) (b:=b) (.inr rfl);simpa using this⟩
   ·exact h.elim
  ·exact h.elim
 ·exact h.elim
noncomputable def Cy:List D->Option (List V)
 |[]=>some []
 |.v x::ds=>match Cy ds with
  |some xs=>some (x::xs)
  |none=>none
 |.acc _ xs::ds=>match Cy ds with
  |some ys=>some (.list xs::ys)
  |none=>none
 |_::_=>none
theorem Ep:∀{ds:List D} {xs:List V},Cy ds=some xs->Dk ds=some xs
 |[],xs,h=>by simpa[Cy,Dk] using h
 |d::ds,xs,h=>by
  cases d<;>simp only[Cy] at h<;>first|(split at h<;>first|(rename_i h1;simp at h;subst h;simp[Dk,D.toV,Ep h1])|simp at h)|simp at h
noncomputable def Tx:List (Nat×Operand)->List D->Option (List (Nat×V))
 |[],[]=>some []
 |p::ps,.v x::ds=>match Tx ps ds with
  |some xs=>some ((p.1,x)::xs)
  |none=>none
 |p::ps,.acc _ l::ds=>match Tx ps ds with
  |some xs=>some ((p.1,.list l)::xs)
  |none=>none
 |_,_=>none
theorem M0:∀{ps:List (Nat×Operand)} {ds:List D} {xs:List (Nat×V)},Tx ps ds=some xs->Cf ps ds=some xs
 |[],[],xs,h=>by simpa[Tx,Cf] using h
 |[],_::_,xs,h=>by simp[Tx] at h
 |_::_,[],xs,h=>by simp[Tx] at h
 |p::ps,d::ds,xs,h=>by
  obtain⟨i,q⟩:=p
  cases d<;>simp only[Tx] at h<;>first|(split at h<;>first|(rename_i h1;simp at h;subst h;simp[Cf,D.toV,M0 h1])|simp at h)|simp at h
def YN:List (Nat×Operand)->Nat->Bool
 |[],_=>true
 |p::ps,i=>Nat.beq p.1 i&&YN ps (Nat.succ i)
theorem MG:∀{ps:List (Nat×Operand)} {i:Nat},YN ps i=true->ps=((ps.map (·.2)).zipIdx i).map fun x=>(x.2,x.1)
 |[],i,_=>rfl
 |p::ps,i,h=>by
  simp only[YN,Hy] at h
  have h1:=HM h.1
  simp only[HO,List.zipIdx_cons]
  rw[←MG h.2]
  cases p;simp_all
noncomputable def Td(sz:Nat)(xs:List V):Bool:=xs.all fun x=>Nat.beq x.size sz
theorem GZ{sz:Nat}{xs:List V}(h:Td sz xs=true):∀x∈xs,x.size=sz:=fun x hx=>HM (Ii.1 h x hx)
noncomputable def O7(cs:List V)(fo n:Nat)(b:Bool)(K:V->Prop):Prop:=match b with
 |true=>cond (Nat.ble (fo+n) cs.length) (K (.agg ((cs.drop fo).take n))) False
 |false=>match cs[fo]? with
  |some y=>K y
  |none=>False
theorem Gr{cs:List V}{fo n:Nat}{b:Bool}{K:V->Prop}(h:O7 cs fo n b K):∃y,K y/\EJ cs fo n b=some y:=by
 unfold O7 at h
 split at h
 ·obtain⟨h1,h2⟩:=Aj h
  refine⟨_,h2,?_⟩
  simp[EJ,HR h1]
 ·split at h
  ·rename_i y hy;exact⟨y,h,by simp[EJ,hy]⟩
  ·exact h.elim
noncomputable def ZZ(P:Program)(s:TypeId)(f:Nat)(cs:List V)(K:V->Prop):Prop:=match LW P s f with
 |some (fo,1,false)=>O7 cs fo 1 false K
 |some (fo,n+1,true)=>O7 cs fo (n+1) true K
 |_=>False
noncomputable def ZY(P:Program)(t:TypeId)(cs:List V)(i:Int)(K:V->Prop):Prop:=match W9 P t with
 |some (len,1,false)=>0<=i/\i<len/\O7 cs (i.toNat*1) 1 false K
 |some (len,n,true)=>0<=i/\i<len/\O7 cs (i.toNat*n) n true K
 |_=>False
theorem Q9{P:Program}{t:TypeId}{cs:List V}{i:Int}{K:V->Prop}(h:ZY P t cs i K):
  ∃y len sz b,K y/\W9 P t=some (len,sz,b)/\(b=false->sz=1)/\0<=i/\i<len/\EJ cs (i.toNat*sz) sz b=some y:=by
 unfold ZY at h
 split at h
 ·rename_i len ht
  obtain⟨y,h3,h4⟩:=Gr h.2.2
  exact⟨y,len,1,false,h3,ht,fun _=>rfl,h.1,h.2.1,h4⟩
 ·rename_i len n ht
  obtain⟨y,h3,h4⟩:=Gr h.2.2
  exact⟨y,len,n,true,h3,ht,fun h=>by simp at h,h.1,h.2.1,h4⟩
 ·exact h.elim
noncomputable def vSl(n:Nat)(l h:Option Int)(K:Nat->Nat->Prop):Prop:=match l,h with
 |none,none=>K 0 n
 |some l,none=>0<=l/\l<=n/\K l.toNat n
 |none,some h=>0<=h/\h<=n/\K 0 h.toNat
 |some l,some h=>0<=l/\l<=h/\h<=n/\K l.toNat h.toNat
theorem VK{n:Nat}{l h:Option Int}{K:Nat->Nat->Prop}(hh:vSl n l h K):∃a b,K a b/\Ct n l h=some (a,b):=by
 unfold vSl at hh
 split at hh
 ·exact⟨_,_,hh,by simp[Ct]⟩
 ·exact⟨_,_,hh.2.2,by simp only[Ct,Option.getD];rw[HJ (by omega)];simp⟩
 ·exact⟨_,_,hh.2.2,by simp only[Ct,Option.getD];rw[HJ (by omega)];simp⟩
 ·exact⟨_,_,hh.2.2.2,by simp only[Ct,Option.getD];rw[HJ (by omega)]⟩
def O1(P:Program)(o:Oper)(ds:List D)(K:Sc->D->Prop):Prop:=∃s d,K s d/\∀σ,Ap P o ds σ d σ
theorem O1.v{P:Program}{o:Oper}{ds:List D}{K:Sc->D->Prop}{s:Sc}{z:V}(hk:K s (.v z))(h:∀σ,Ap P o ds σ (.v z) σ):O1 P o ds K:=⟨s,_,hk,h⟩
def Vc:Operand->Bool
 |.const (.slice none 0 0)=>true
 |_=>false
theorem Oi{x:Operand}(h:Vc x=true):x=.const (.slice none 0 0):=by
 unfold Vc at h
 split at h
 ·rfl
 ·simp at h
noncomputable def Aag(P:Program)(op:BinOp)(t:TypeId)(b:Operand)(x:V)(K:V->Prop):Prop:=cond (Vc b) (match P.underlying t with
 |some (.slice _)=>match op,x with
  |.eql,.list xs=>xs≠ []/\K (.bool false)
  |.neq,.list xs=>xs≠ []/\K (.bool true)
  |.eql,.nils=>K (.bool true)
  |.neq,.nils=>K (.bool false)
  |_,_=>False
 |_=>False) False
theorem K7{P:Program}{o:Oper}{op:BinOp}{t ty e:TypeId}{a:Operand}(ho:o.op=.binOp op t a (.const (.slice none 0 0)) ty)(hu:P.underlying t=some (.slice e))(hop:op=.eql∨op=.neq){x:V}{isn:Bool}
  (hx:∀M u,repV M x u->∃ad len cap,u=.slice ad len cap/\ad.isNone=isn) (σ:St):Ap P o [.v x,.v .nils] σ (.v (.bool (if op=.eql then isn else !isn))) σ:=by
 intro E g ac w K Q hw hds hK
 simp only[ho,Op.operands] at hds
 obtain⟨u,v,eq,h1,h2⟩:=Am.1 hds
 simp only[HO,Iu,HB,HZ] at eq
 simp only[Ac] at h1
 obtain⟨ad,len,cap,rfl,rfl⟩:=hx _ _ h1
 have hrun:=Lx (P:=P) ho hu hop ac.eval w eq.1 rfl
 have:=hK g w (.bool (if op=.eql then ad.isNone else !ad.isNone)) hw g.le_refl (by simp[Ac])
 unfold Oper.wp
 rw[hrun]
 exact this
theorem NY{xs:List V}(hx:xs≠ [])(M:Mem)(u:Value)(h:repV M (.list xs) u):∃ad len cap,u=.slice ad len cap/\ad.isNone=false:=by
 obtain⟨ad,cap,rfl,_,hor⟩:=AJ.1 h
 rcases hor with h|⟨b,off,sz,us,rfl,_⟩
 ·exact absurd h hx
 ·exact⟨_,_,_,rfl,rfl⟩
theorem NX(M:Mem)(u:Value)(h:repV M .nils u):∃ad len cap,u=.slice ad len cap/\ad.isNone=true:=by
 rw[BQ] at h;exact⟨_,_,_,h,rfl⟩
theorem WN{P:Program}{op:BinOp}{t ty:TypeId}{x:V}{a b:Operand}{K:V->Prop}(h:Aag P op t b x K){o:Oper}(ho:o.op=.binOp op t a b ty):∃z,K z/\∀σ,Ap P o [.v x,.v .nils] σ (.v z) σ:=by
 unfold Aag at h
 obtain⟨h1,h2⟩:=Aj h
 have hb:=Oi h1;subst hb
 split at h2
 ·rename_i e hu
  split at h2
  ·exact⟨_,h2.2,fun σ=>K7 ho hu (.inl rfl) (NY h2.1) σ⟩
  ·exact⟨_,h2.2,fun σ=>K7 ho hu (.inr rfl) (NY h2.1) σ⟩
  ·exact⟨_,h2,fun σ=>K7 ho hu (.inl rfl) NX σ⟩
  ·exact⟨_,h2,fun σ=>K7 ho hu (.inr rfl) NX σ⟩
  ·exact h2.elim
 ·exact h2.elim
noncomputable def Aaf(P:Program)(op:BinOp)(t:TypeId)(b:Operand)(isn:Bool)(K:V->Prop):Prop:=cond (Vc b) (match P.underlying t with
 |some (.slice _)=>(match op with
  |.eql=>K (.bool isn)
  |.neq=>K (.bool !isn)
  |_=>False)
 |_=>False) False
theorem WM{P:Program}{op:BinOp}{t ty:TypeId}{y:V}{ad:Option Addr}{len cap:Nat}{a b:Operand}{K:V->Prop}(h:Aaf P op t b ad.isNone K){o:Oper}(ho:o.op=.binOp op t a b ty):∃z,K z/\∀σ,Ap P o [.rv y (.slice ad len cap),.v .nils] σ (.v z) σ:=by
 unfold Aaf at h
 obtain⟨h1,h2⟩:=Aj h
 have hb:=Oi h1;subst hb
 have main:∀{e:TypeId},P.underlying t=some (.slice e)->op=.eql∨op=.neq->∀σ,Ap P o [.rv y (.slice ad len cap),.v .nils] σ (.v (.bool (if op=.eql then ad.isNone else !ad.isNone))) σ:=by
  intro e hu hop σ E g ac w K Q hw hds hK
  simp only[ho,Op.operands] at hds
  obtain⟨u,v,eq,h1,h2⟩:=Am.1 hds
  simp only[HO,Iu,HB,HZ] at eq
  simp only[Ac] at h1
  obtain⟨rfl,_⟩:=h1
  have hrun:=Lx (P:=P) ho hu hop ac.eval w eq.1 rfl
  have:=hK g w (.bool (if op=.eql then ad.isNone else !ad.isNone)) hw g.le_refl (by simp[Ac])
  unfold Oper.wp
  rw[hrun]
  exact this
 split at h2
 ·rename_i e hu
  split at h2
  ·exact⟨_,h2,fun σ=>main hu (.inl rfl) σ⟩
  ·exact⟨_,h2,fun σ=>main hu (.inr rfl) σ⟩
  ·exact h2.elim
 ·exact h2.elim
theorem TX{P:Program}{f:FuncId}{ds ds':List D}{σ σ':St}{d:D}(h:∀a cap,Aa P f (ds++ .rv (.list []) (.slice a 0 cap)::ds') σ d σ'):Aa P f (ds++ .v (.list [])::ds') σ d σ':=by
 refine⟨(h none 0).1,fun g w args hw hargs=>?_⟩
 have split:∀{ds:List D} {us:List Value},Ab g (ds++ .v (.list [])::ds') us->∃a cap,Ab g (ds++ .rv (.list []) (.slice a 0 cap)::ds') us:=by
  intro ds
  induction ds with
  |nil=>
   intro us h
   simp only[List.nil_append,Ab] at h
   obtain⟨u,us',rfl,h3,h4⟩:=h
   simp only[Ac] at h3
   obtain⟨a,cap,rfl,_,hor⟩:=AJ.1 h3
   exact⟨a,cap,by simp only[List.nil_append,Ab];exact⟨_,_,rfl,by simp only[Ac];exact⟨rfl,h3⟩,h4⟩⟩
  |cons x ds ih=>
   intro us h
   simp only[IW,Ab] at h⊢
   obtain⟨u,us',rfl,h3,h4⟩:=h
   obtain⟨a,cap,h5⟩:=ih h4
   exact⟨a,cap,_,_,rfl,h3,h5⟩
 obtain⟨a,cap,h5⟩:=split hargs
 exact(h a cap).2 g w args hw h5
noncomputable def Gu:List D->Option (List V)
 |[]=>some []
 |.v .nils::ds=>match Gu ds with
  |some xs=>some (.list []::xs)
  |none=>none
 |.v x::ds=>match Gu ds with
  |some xs=>some (x::xs)
  |none=>none
 |.acc _ xs::ds=>match Gu ds with
  |some ys=>some (.list xs::ys)
  |none=>none
 |_::_=>none
theorem Es{g:Gh}{u:Value}(h:Ac g (.v .nils) u):Ac g (.v (.list [])) u:=by
 simp only[Ac,BQ] at h⊢
 subst h;exact Dd _
theorem D2{g:Gh}:∀{ds:List D} {xs:List V} {us:List Value},Gu ds=some xs->Ab g ds us->Ab g (xs.map .v) us
 |[],xs,us,h,hr=>by simp[Gu] at h;subst h;simpa using hr
 |d::ds,xs,us,h,hr=>by
  simp only[Ab] at hr
  obtain⟨u,us',rfl,h1,h2⟩:=hr
  unfold Gu at h
  split at h
  ·rename_i e;simp at e
  ·rename_i ds' e;simp only[HB] at e;obtain⟨rfl,rfl⟩:=e
   split at h
   ·rename_i ys hy;simp at h;subst h
    simp only[HO,Ab];exact⟨_,_,rfl,Es h1,D2 hy h2⟩
   ·simp at h
  ·rename_i x ds' e;simp only[HB] at e;obtain⟨rfl,rfl⟩:=e
   split at h
   ·rename_i ys hy;simp at h;subst h
    simp only[HO,Ab];exact⟨_,_,rfl,h1,D2 hy h2⟩
   ·simp at h
  ·rename_i k l ds' e;simp only[HB] at e;obtain⟨rfl,rfl⟩:=e
   split at h
   ·rename_i ys hy;simp at h;subst h
    simp only[HO,Ab];exact⟨_,_,rfl,K3 h1,D2 hy h2⟩
   ·simp at h
  ·simp at h
theorem Hk{g:Gh}{ds:List D}{xs:List V}{us:List Value}(h:Cy ds=some xs)(hr:Ab g ds us):Ab g (xs.map .v) us:=
 CV (Gy (Ep h) hr)
noncomputable def TI(P:Program)(f:FuncId)(fs cs:List V)(ds:List D)(s:Sc)(K:Sc->D->Prop):Prop:=match s with
 |.h (.c d) s=>cond d.pl (match Gu ds with
  |some xs=>Aa P f ((fs++xs++cs).map .v) ⟨[],[]⟩ d ⟨[],[]⟩/\K s d
  |none=>False) False
 |.h (.ca ys d) s=>cond d.pl (match Cy ds with
  |some xs=>VSL (fs++xs++cs) ys/\Aa P f (ys.map .v) ⟨[],[]⟩ d ⟨[],[]⟩/\K s d
  |none=>False) False
 |_=>False
theorem ZI:∀{xs ys:List V},VSL xs ys->Dv.DSL (xs.map .v) (ys.map .v)
 |_,_,.nil=>.nil
 |_,_,.cons h hs=>.cons (.v h) (ZI hs)
theorem N1{P:Program}{f:FuncId}{fs cs:List V}{ds:List D}{s:Sc}{K:Sc->D->Prop}(h:TI P f fs cs ds s K){o:Oper}{c:Call}{fo:Operand}(ho:o.op=.call c)(hc:c.callee=.value fo):
  O1 P o (.v (.fn f fs cs)::ds) K:=by
 unfold TI at h
 split at h
 ·rename_i d s
  obtain⟨h1,h2⟩:=Aj h
  split at h2
  ·rename_i xs hx
   refine⟨_,_,h2.2,fun σ=>AM (fun g us hr=>?_) (NU (d:=d) (ds:=xs.map .v) ho hc (C2 xs) h1 (by simpa[IC] using h2.1))⟩
   simp only[Ab] at hr⊢
   obtain⟨u,us',e,h3,h4⟩:=hr
   exact⟨u,us',e,h3,D2 hx h4⟩
  ·exact h2.elim
 ·rename_i ys d s
  obtain⟨h1,h2⟩:=Aj h
  split at h2
  ·rename_i xs hx
   obtain⟨h3,h4,h5⟩:=h2
   have h4':=h4.sub (e:=d) (by simpa using ZI h3) (.same d)
   refine⟨_,_,h5,fun σ=>AM (fun g us hr=>?_) (NU (d:=d) (ds:=xs.map .v) ho hc (C2 xs) h1 (by simpa[IC] using h4'))⟩
   simp only[Ab] at hr⊢
   obtain⟨u,us',e,h3,h4⟩:=hr
   exact⟨u,us',e,h3,Hk hx h4⟩
  ·exact h2.elim
 ·exact h.elim
noncomputable def Kw(P:Program)(c:Call)(ds:List D)(K:V->Prop):Prop:=match c.callee,ds with
 |.builtin .len,[.v (.list xs)]=>match c.args.toList,c.argTypes.toList with
  |[_],[t]=>match P.underlying t with
   |some (.slice _)=>K (.int .i64 xs.length)
   |_=>False
  |_,_=>False
 |.builtin .len,[.v .nils]=>match c.args.toList,c.argTypes.toList with
  |[_],[t]=>match P.underlying t with
   |some (.slice _)=>K (.int .i64 0)
   |_=>False
  |_,_=>False
 |.builtin .len,[.arr _ _ n]=>match c.args.toList,c.argTypes.toList with
  |[_],[t]=>match P.underlying t with
   |some (.slice _)=>K (.int .i64 n)
   |_=>False
  |_,_=>False
 |.builtin .len,[.gro _ n _]=>match c.args.toList,c.argTypes.toList with
  |[_],[t]=>match P.underlying t with
   |some (.slice _)=>K (.int .i64 n)
   |_=>False
  |_,_=>False
 |.builtin .len,[.v (.str s)]=>match c.args.toList,c.argTypes.toList with
  |[_],[t]=>match P.underlying t with
   |some .string=>K (.int .i64 s.length)
   |_=>False
  |_,_=>False
 |.builtin .max,[.v (.int kd a),.v (.int ke b)]=>match c.args.toList with
  |[_,_]=>cond (kq kd ke) (K (.int kd (if b>a then b else a))) False
  |_=>False
 |.builtin .min,[.v (.int kd a),.v (.int ke b)]=>match c.args.toList with
  |[_,_]=>cond (kq kd ke) (K (.int kd (if b<a then b else a))) False
  |_=>False
 |_,_=>False
theorem M6{P:Program}{c:Call}{ds:List D}{K:V->Prop}(h:Kw P c ds K){o:Oper}(ho:o.op=.call c):∃z,K z/\∀σ,Ap P o ds σ (.v z) σ:=by
 have mk1:∀{b:Builtin} {x:Operand} {t:TypeId},c.callee=.builtin b->c.args.toList=[x]->c.argTypes.toList=[t]->o.op=.call { callee:=.builtin b,args:= #[x],argTypes:= #[t]}:=by
  intro b x t hc h1 h2
  rw[ho];cases c;simp only at hc h1 h2;subst hc
  congr 2
  ·apply Iz;simpa using h1
  ·apply Iz;simpa using h2
 have mk2:∀{b:Builtin} {x y:Operand},c.callee=.builtin b->c.args.toList=[x,y]->o.op=.call { callee:=.builtin b,args:= #[x,y],argTypes:=c.argTypes }:=by
  intro b x y hc h1
  rw[ho];cases c;simp only at hc h1;subst hc
  congr 2
  apply Iz;simpa using h1
 unfold Kw at h
 split at h
 ·rename_i xs hc
  split at h
  ·rename_i x t h1 h2
   split at h
   ·rename_i e hu;exact⟨_,h,fun σ=>RK (mk1 hc h1 h2) hu⟩
   ·exact h.elim
  ·exact h.elim
 ·rename_i hc
  split at h
  ·rename_i x t h1 h2
   split at h
   ·rename_i e hu
    refine⟨_,h,fun σ=>AM (fun g us hr=>?_) (RK (xs:=[]) (mk1 hc h1 h2) hu)⟩
    rw[Av] at hr⊢
    obtain⟨u,e,hr⟩:=hr
    exact⟨u,e,Es hr⟩
   ·exact h.elim
  ·exact h.elim
 ·rename_i q off n hc
  split at h
  ·rename_i x t h1 h2
   split at h
   ·rename_i e hu;exact⟨_,h,fun σ=>RL (mk1 hc h1 h2) hu⟩
   ·exact h.elim
  ·exact h.elim
 ·rename_i q n sz hc
  split at h
  ·rename_i x t h1 h2
   split at h
   ·rename_i e hu
    refine⟨_,h,fun σ=>AM (fun g us hr=>?_) (RL (q:=q) (off:=0) (mk1 hc h1 h2) hu)⟩
    rw[Av] at hr⊢
    obtain⟨u,e,hr⟩:=hr
    refine⟨u,e,?_⟩
    simp only[Ac] at hr⊢
    obtain⟨k1,cap,k2,_,k3⟩:=hr
    exact⟨k1,cap,k2,k3⟩
   ·exact h.elim
  ·exact h.elim
 ·rename_i xs hc
  split at h
  ·rename_i x t h1 h2
   split at h
   ·rename_i hu;exact⟨_,h,fun σ=>Xw (mk1 hc h1 h2) hu⟩
   ·exact h.elim
  ·exact h.elim
 ·rename_i kd a ke b hc
  split at h
  ·rename_i x y h1
   obtain⟨e,h2⟩:=Aj h
   have e:=H9 e;subst e
   exact⟨_,h2,fun σ=>Za (mk2 hc h1)⟩
  ·exact h.elim
 ·rename_i kd a ke b hc
  split at h
  ·rename_i x y h1
   obtain⟨e,h2⟩:=Aj h
   have e:=H9 e;subst e
   exact⟨_,h2,fun σ=>YZ (mk2 hc h1)⟩
  ·exact h.elim
 ·exact h.elim
noncomputable def VN(P:Program)(t:TypeId)(ps:List (Nat×Operand))(ds:List D)(s:Sc)(K:Sc->V->Prop):Prop:=match s with
 |.h .rn s=>(match AaZ P t,Tx ps ds with
  |some (z,places),some xs=>(match Ev (places[·]?) z xs with
   |some out=>AH out fun out=>K s (.agg out)
   |none=>False)
  |_,_=>False)
 |s=>(match PK P t,Tx ps ds with
  |some (z,places),some xs=>(match Ev (places[·]?) z xs with
   |some out=>AH out fun out=>K s (.agg out)
   |none=>False)
  |_,_=>False)
noncomputable def Kx(P:Program)(t:TypeId)(len:Nat)(ps:List (Nat×Operand))(ds:List D)(K:List V->Prop):Prop:=match BW P t with
 |some (_,sz,_,z)=>match len with
  |0=>match ps,ds with
   |[],[]=>K []
   |_,_=>False
  |len+1=>match Cy ds with
   |some xs=>cond (YN ps 0&&Nat.beq ps.length (len+1)&&z.isSome&&Nat.blt 0 sz&&Nat.ble ((len+1)*sz) 1000&&Td sz xs) (K xs) False
   |none=>False
 |none=>False
theorem M7{P:Program}{t:TypeId}{len:Nat}{ps:Array (Nat×Operand)}{ds:List D}{K:List V->Prop}(h:Kx P t len ps.toList ds K){o:Oper}(ho:o.op=.buildSlice t len ps):∃xs,K xs/\∀σ,Ap P o ds σ (.v (.list xs)) σ:=by
 unfold Kx at h
 split at h
 ·rename_i e sz by' z hs
  split at h
  ·split at h
   ·rename_i hps
    exact⟨_,h,fun σ=>J8 ho (by apply Iz;simpa using hps) hs⟩
   ·exact h.elim
  ·rename_i len
   split at h
   ·rename_i xs hx
    obtain⟨h1,h2⟩:=Aj h
    simp only[Hy] at h1
    obtain⟨⟨⟨⟨⟨g1,g2⟩,g3⟩,g4⟩,g5⟩,g6⟩:=h1
    have hl:ps.size=len+1:=by have:=HM g2;simpa using this
    exact⟨_,h2,fun σ=>K9 ho (MG g1) hl hs g3 (Ep hx) (GZ g6) (by omega) (HR g4) (by simpa using g5)⟩
   ·exact h.elim
 ·exact h.elim
noncomputable def F3(P:Program)(t:TypeId)(x:D)(l h:Option (IntKind×Int))(K:V->Prop):Prop:=match x with
 |.v (.str s)=>match P.underlying t with
  |some .string=>vSl s.length (l.map (·.2)) (h.map (·.2)) fun a b=>K (.str ((s.take b).drop a))
  |_=>False
 |.v (.list xs)=>match BW P t with
  |some (_,sz,_,_)=>cond (Nat.blt 0 sz) ((∀x∈xs,x.size=sz)/\vSl xs.length (l.map (·.2)) (h.map (·.2)) fun a b=>K (.list ((xs.take b).drop a))) False
  |none=>False
 |_=>False
noncomputable def Q1(P:Program)(t:TypeId)(lo hi:Bool)(ds:List D)(K:V->Prop):Prop:=match lo,hi,ds with
 |false,false,[x]=>F3 P t x none none K
 |true,false,[x,.v (.int kd i)]=>F3 P t x (some (kd,i)) none K
 |false,true,[x,.v (.int kd i)]=>F3 P t x none (some (kd,i)) K
 |true,true,[x,.v (.int kd i),.v (.int ke j)]=>F3 P t x (some (kd,i)) (some (ke,j)) K
 |_,_,_=>False
theorem E3{P:Program}{t:TypeId}{x:D}{l h':Option (IntKind×Int)}{K:V->Prop}(h:F3 P t x l h' K){o:Oper}{xo:Operand}{lo hi:Option Operand}(ho:o.op=.slice t xo lo hi none)(h1:lo.isSome=l.isSome)(h2:hi.isSome=h'.isSome):
  ∃y,K y/\∀σ,Ap P o (x::(En l++En h')) σ (.v y) σ:=by
 unfold F3 at h
 split at h
 ·split at h
  ·rename_i hu
   obtain⟨a,b,h3,hp⟩:=VK h
   exact⟨_,h3,fun σ=>RD ho hu l h' h1 h2 hp⟩
  ·exact h.elim
 ·split at h
  ·rename_i e sz by' z hs
   obtain⟨g1,g2,g3⟩:=Aj h
   obtain⟨a,b,h3,hp⟩:=VK g3
   exact⟨_,h3,fun σ=>RE ho hs g2 (HR g1) l h' h1 h2 hp⟩
  ·exact h.elim
 ·exact h.elim
theorem Q0{P:Program}{t:TypeId}{lo hi:Option Operand}{ds:List D}{K:V->Prop}(h:Q1 P t lo.isSome hi.isSome ds K){o:Oper}{xo:Operand}(ho:o.op=.slice t xo lo hi none):
  ∃y,K y/\∀σ,Ap P o ds σ (.v y) σ:=by
 unfold Q1 at h
 split at h
 ·rename_i e1 e2;exact E3 h ho e1 e2
 ·rename_i e1 e2;exact E3 h ho e1 e2
 ·rename_i e1 e2;exact E3 h ho e1 e2
 ·rename_i e1 e2;exact E3 h ho e1 e2
 ·exact h.elim
noncomputable def vEl(xs:List V)(i:Int)(sz:Nat)(s:Sc)(K:Sc->V->Prop):Prop:=match s with
 |.h (.x y) s=>cond (Nat.beq y.size sz) (0<=i/\xs[i.toNat]?=some y/\K s y) False
 |.h (.xs y) s=>y.size=sz/\0<=i/\xs[i.toNat]?=some y/\K s y
 |_=>False
noncomputable def Q7(P:Program)(t:TypeId)(x:V)(k:Prop):Prop:=match Cz P t,x with
 |some (1,false),.agg _=>False
 |some (1,false),_=>k
 |some (n,true),.agg cs=>cond (Nat.beq cs.length n) k False
 |_,_=>False
theorem Zf{x:V}(h:∀cs,x=.agg cs->False):x.isAgg=false:=by cases x<;>first|rfl|exact(h _ rfl).elim
theorem Q6{P:Program}{t:TypeId}{x:V}{k:Prop}(h:Q7 P t x k){o:Oper}{a:Operand}(ho:o.op=.load t a):k/\∀σ,Ap P o [.v (.ref x)] σ (.v x) σ:=by
 unfold Q7 at h
 split at h
 ·exact h.elim
 ·rename_i ht hx;exact⟨h,fun σ=>RH ho ht (Zf hx)⟩
 ·rename_i n cs ht
  obtain⟨h1,h2⟩:=Aj h
  have:=HM h1;subst this
  exact⟨h2,fun σ=>LH ho ht⟩
 ·exact h.elim
noncomputable def TD(P:Program)(o:Oper)(ds:List D)(s:Sc)(K:Sc->D->Prop):Prop:=
 match o.op,ds with
 |.binOp op t a b _,[.v x,.v .nils]=>Aag P op t b x fun z=>K s (.v z)
 |.binOp op t _ b _,[.rv _ (.slice ad _ _),.v .nils]=>Aaf P op t b ad.isNone fun z=>K s (.v z)
 |.binOp op t _ _ _,[.v x,.v y]=>Aah P op t x y fun z=>K s (.v z)
 |.unOp op _ _,[.v x]=>match unI op x with
  |some z=>K s (.v z)
  |none=>False
 |.convert st t _,[.v (.int _ n)]=>match P.underlying st,P.underlying t with
  |some _,some (.int kd)=>K s (.v (.int kd (kd.wrap n)))
  |_,_=>False
 |.extract _ i,[.tup xs]=>match xs[i]? with
  |some d=>K s d
  |none=>False
 |.nilCheck _,[.ptr q f]=>K s (.ptr q f)
 |.nilCheck _,[.v (.ref x)]=>K s (.v (.ref x))
 |.field st _ f,[.v (.agg cs)]=>ZZ P st f cs fun y=>K s (.v y)
 |.fieldAddr st _ f,[.ptr q off]=>match LW P st f with
  |some (fo,_+1,_)=>K s (.ptr q (Nat.add off fo))
  |_=>False
 |.fieldAddr st _ f,[.v (.ref (.agg cs))]=>ZZ P st f cs fun y=>K s (.v (.ref y))
 |.indexAddr t _ _,[.v (.list xs),.v (.int _ i)]=>match BW P t with
  |some (_,sz,_,_)=>vEl xs i sz s fun s y=>K s (.v (.ref y))
  |none=>False
 |.indexAddr t _ _,[.arr q off len,.v (.int _ i)]=>match BW P t with
  |some (_,sz,_,_)=>0<=i/\i<len/\K s (.ptr q (off+i.toNat*sz))
  |none=>False
 |.indexAddr t _ _,[.ptr q off,.v (.int _ i)]=>match W9 P t with
  |some (len,sz,_)=>0<=i/\i<len/\K s (.ptr q (off+i.toNat*sz))
  |none=>False
 |.indexAddr t _ _,[.v (.ref (.agg cs)),.v (.int _ i)]=>ZY P t cs i fun y=>K s (.v (.ref y))
 |.index t _ _,[.v (.str l),.v (.int _ i)]=>match P.underlying t with
  |some .string=>(match s with
   |.h (.y c) s=>0<=i/\l[i.toNat]?=some c/\K s (.v (vb c))
   |s=>∃c:UInt8,0<=i/\l[i.toNat]?=some c/\K s (.v (vb c)))
  |_=>False
 |.index t _ _,[.v (.agg cs),.v (.int _ i)]=>ZY P t cs i fun y=>K s (.v y)
 |.load t _,[.v (.ref x)]=>Q7 P t x (K s (.v x))
 |.build t ps,ds=>VN P t ps.toList ds s fun s x=>K s (.v x)
 |.buildSlice t len ps,ds=>Kx P t len ps.toList ds fun xs=>K s (.v (.list xs))
 |.makeFunc (.func f) fs _,ds=>match Cy ds with
  |some xs=>cond (Nat.ble fs.size xs.length) (K s (.v (.fn f (xs.take fs.size) (xs.drop fs.size)))) False
  |none=>False
 |.slice t _ lo hi none,ds=>Q1 P t lo.isSome hi.isSome ds fun x=>K s (.v x)
 |.call c,.v (.fn f fs cs)::ds=>match c.callee with
  |.value _=>TI P f fs cs ds s K
  |_=>False
 |.call c,ds=>Kw P c ds fun x=>K s (.v x)
 |_,_=>False
theorem QB{P:Program}{st:TypeId}{f:Nat}{cs:List V}{K:V->Prop}(h:ZZ P st f cs K):∃y fo n b,K y/\LW P st f=some (fo,n,b)/\n≠0/\(b=false->n=1)/\EJ cs fo n b=some y:=by
 unfold ZZ at h
 split at h
 ·rename_i fo hf;obtain⟨y,h1,h2⟩:=Gr h;exact⟨y,fo,1,false,h1,hf,by simp,by simp,h2⟩
 ·rename_i fo n hf;obtain⟨y,h1,h2⟩:=Gr h;exact⟨y,fo,n+1,true,h1,hf,by simp,by simp,h2⟩
 ·exact h.elim
theorem Y8{xs:List V}{i:Int}{sz:Nat}{s:Sc}{K:Sc->V->Prop}(h:vEl xs i sz s K):∃y s',K s' y/\y.size=sz/\0<=i/\xs[i.toNat]?=some y:=by
 unfold vEl at h
 split at h
 ·obtain⟨h1,h2,h3,h4⟩:=Aj h
  exact⟨_,_,h4,HM h1,h2,h3⟩
 ·exact⟨_,_,h.2.2.2,h.1,h.2.1,h.2.2.1⟩
 ·exact h.elim
theorem TC{P:Program}{o:Oper}{ds:List D}{s:Sc}{K:Sc->D->Prop}(h:TD P o ds s K):O1 P o ds K:=by
 unfold TD at h
 split at h
 ·rename_i op t a b ty x ho
  obtain⟨z,h1,h2⟩:=WN h ho
  exact .v h1 h2
 ·rename_i op t a b ty x ad l c ho
  obtain⟨z,h1,h2⟩:=WM h ho
  exact .v h1 h2
 ·rename_i op t a b ty x y _ ho
  obtain⟨z,h1,h2⟩:=WR h ho
  exact .v h1 h2
 ·rename_i op t a x ho
  split at h
  ·rename_i z hz;exact .v h fun σ=>Aap ho hz
  ·exact h.elim
 ·rename_i st t a kd n ho
  split at h
  ·rename_i d kd' h1 h2;exact .v h fun σ=>UA ho h1 h2
  ·exact h.elim
 ·rename_i a i xs ho
  split at h
  ·rename_i d hd;exact⟨_,_,h,fun σ=>OW ho hd⟩
  ·exact h.elim
 ·rename_i a q f ho;exact⟨_,_,h,fun σ=>Jt ho⟩
 ·rename_i a x ho;exact .v h fun σ=>Js ho
 ·rename_i st a f cs ho
  obtain⟨y,fo,n,b,h1,h2,h3,h4,h5⟩:=QB h
  exact .v h1 fun σ=>U9 ho h2 h4 h5
 ·rename_i st a f q off ho
  split at h
  ·rename_i fo n b hf;exact⟨_,_,h,fun σ=>RP ho hf (by simp)⟩
  ·exact h.elim
 ·rename_i st a f cs ho
  obtain⟨y,fo,n,b,h1,h2,h3,h4,h5⟩:=QB h
  exact .v h1 fun σ=>RO ho h2 h3 h4 h5
 ·rename_i t a b xs kd i ho
  split at h
  ·rename_i e sz by' z hs
   obtain⟨y,s',h1,h2,h3,h4⟩:=Y8 h
   exact .v h1 fun σ=>Xy ho hs h3 h4 h2
  ·exact h.elim
 ·rename_i t a b q off len kd i ho
  split at h
  ·rename_i e sz by' z hs;exact⟨_,_,h.2.2,fun σ=>Xz ho hs h.1 h.2.1⟩
  ·exact h.elim
 ·rename_i t a b q off kd i ho
  split at h
  ·rename_i len sz bb hs;exact⟨_,_,h.2.2,fun σ=>U8 ho hs h.1 h.2.1⟩
  ·exact h.elim
 ·rename_i t a b cs kd i ho
  obtain⟨y,len,sz,bb,h1,h2,h3,h4,h5,h6⟩:=Q9 h
  exact .v h1 fun σ=>U7 ho h2 h3 h4 h5 h6
 ·rename_i t a b l kd i ho
  split at h
  ·rename_i hu
   split at h
   ·exact .v h.2.2 fun σ=>RM ho hu h.1 h.2.1
   ·obtain⟨c,h0,h1,h2⟩:=h
    exact .v h2 fun σ=>RM ho hu h0 h1
  ·exact h.elim
 ·rename_i t a b cs kd i ho
  obtain⟨y,len,sz,bb,h1,h2,h3,h4,h5,h6⟩:=Q9 h
  exact .v h1 fun σ=>Xx ho h2 h3 h4 h5 h6
 ·rename_i t a x ho
  obtain⟨h1,h2⟩:=Q6 h ho
  exact .v h1 h2
 ·rename_i t ps ho
  unfold VN at h
  split at h
  ·split at h
   ·rename_i z places xs hb hx
    split at h
    ·rename_i out hf
     rw[AE] at h
     exact .v h fun σ=>RT ho hb (M0 hx) hf
    ·exact h.elim
   ·exact h.elim
  ·split at h
   ·rename_i z places xs hb hx
    split at h
    ·rename_i out hf
     rw[AE] at h
     exact .v h fun σ=>NV ho hb (M0 hx) hf
    ·exact h.elim
   ·exact h.elim
 ·rename_i t len ps ho
  obtain⟨y,h1,h2⟩:=M7 h ho
  exact .v h1 h2
 ·rename_i f fs cap ho
  split at h
  ·rename_i xs hx
   obtain⟨h1,h2⟩:=Aj h
   have hl:fs.size<=xs.length:=by simpa using h1
   refine .v h2 fun σ=>AM (fun g us hr=>Hk hx hr) ?_
   have:=MP (P:=P) (σ:=σ) ho (fs:=(xs.take fs.size).map .v) (cs:=(xs.drop fs.size).map .v) (by simp;omega) (Eo _) (Eo _)
   rw[←IC,List.take_append_drop] at this
   exact this
  ·exact h.elim
 ·rename_i t a lo hi ho
  obtain⟨y,h1,h2⟩:=Q0 h ho
  exact .v h1 h2
 ·rename_i c f fs cs ds ho
  split at h
  ·rename_i fo hc;exact N1 h ho hc
  ·exact h.elim
 ·rename_i c ho _
  obtain⟨y,h1,h2⟩:=M6 h ho
  exact .v h1 h2
 ·exact h.elim
end Go.Nv

namespace Go.Dv
open Go.IntKind (wrap)
theorem WI.addOwnP{E:Ent}{g:Gh}{σ:St}{w:World}(hw:WI E g σ w){k sz:Nat}{xs:List V}{u:Value}(hk:∀x∈σ.own,x.1≠k)(hsz:0<sz/\∀x∈xs,x.size=sz)(hr:repV g.M (.list xs) u)(hp:Hf g.M w sz u)
  (hb:∀b,B8 u=some b->(E.w.heap.size<=b∨E.priv b)/\(∀i cs,σ.H[i]?=some (some cs)->g.β i≠b)/\∀x∈σ.own,∀u',g.ι x.1 x.2.2.length=some u'->B8 u'≠some b):
  WI E { g with ι:=fun k' m=>if k'=k then(if m=xs.length then some u else none) else g.ι k' m } ⟨σ.H,(k,sz,xs)::σ.own⟩ w/\
  g.le { g with ι:=fun k' m=>if k'=k then(if m=xs.length then some u else none) else g.ι k' m }:=by
 have hle:g.le { g with ι:=fun k' m=>if k'=k then(if m=xs.length then some u else none) else g.ι k' m }:=by
  refine⟨Mem.le_refl _,H5 _,fun _ _=>rfl,fun k' m u' h=>?_,fun _ _=>rfl⟩
  by_cases e:k'=k
  ·subst e;rw[hw.rep.fresh k' hk m] at h;simp at h
  ·simp only[HF e];exact h
 have hold:∀x∈σ.own,(if x.1=k then(if x.2.2.length=xs.length then some u else none) else g.ι x.1 x.2.2.length)=g.ι x.1 x.2.2.length:=fun x hx=>HF (hk x hx)
 refine⟨hw.update (fun _=>False) (fun _ h=>h.elim) (fun _ _ _=>⟨rfl,fun _=>rfl⟩) (Mem.le_refl _) (H5 _) (fun _ _=>rfl) (fun _ _=>rfl) (H5 _) rfl rfl rfl ?_ hw.objs ?_,hle⟩
 ·refine⟨hw.rep.n,hw.rep.mem,fun i cs hi=>?_,hw.rep.inj,fun k' sz' xs' hx=>?_,?_,fun x hx y hy hne u1 u2 h1 h2 b hb1=>?_,fun x hx u1 h1 b hb1 i cs hi=>?_,fun k' hk' m=>?_,hw.rep.gl,hw.rep.gw⟩
  ·obtain⟨us,rest,e,h2,h3,h4,h5⟩:=hw.rep.obj i cs hi
   exact⟨us,rest,e,h2,Ab.mono hle _ _ h3,h4,h5⟩
  ·rcases Ib.1 hx with e|hx
   ·simp only[Prod.mk.injEq] at e
    obtain⟨rfl,rfl,rfl⟩:=e
    refine⟨hsz,u,by simp,hr,hp,fun m hm=>?_⟩
    simp only[I6];exact HF (by omega)
   ·obtain⟨h0,u',hu,h3,h4,h5⟩:=hw.rep.own k' sz' xs' hx
    have hne:¬k'=k:=hk _ hx
    refine⟨h0,u',by simp only[HF hne];exact hu,h3,h4,fun m hm=>by simp only[HF hne];exact h5 m hm⟩
  ·simp only[HO,List.nodup_cons]
   refine⟨fun h=>?_,hw.rep.tags⟩
   obtain⟨x,hx,e⟩:=Ie.1 h
   exact hk x hx e
  ·rcases Ib.1 hx with rfl|hx<;>rcases Ib.1 hy with rfl|hy
   ·exact absurd rfl hne
   ·simp at h1;subst h1
    have h2':g.ι y.1 y.2.2.length=some u2:=(hold y hy).symm.trans h2
    exact(hb b hb1).2.2 y hy u2 h2'
   ·simp at h2;subst h2
    have h1':g.ι x.1 x.2.2.length=some u1:=(hold x hx).symm.trans h1
    intro hb2
    exact(hb b hb2).2.2 x hx u1 h1' hb1
   ·exact hw.rep.sep x hx y hy hne u1 u2 ((hold x hx).symm.trans h1) ((hold y hy).symm.trans h2) b hb1
  ·rcases Ib.1 hx with rfl|hx
   ·simp at h1;subst h1
    exact(hb b hb1).2.1 i cs hi
   ·exact hw.rep.ownObj x hx u1 ((hold x hx).symm.trans h1) b hb1 i cs hi
  ·have hne:¬k'=k:=fun e=>hk' (k,sz,xs) (by simp) e.symm
   simp only[HF hne]
   exact hw.rep.fresh k' (fun x hx=>hk' x (by simp[hx])) m
 ·intro x hx u1 h1 b hb1
  rcases Ib.1 hx with rfl|hx
  ·simp at h1;subst h1
   exact(hb b hb1).1
  ·exact hw.owns x hx u1 ((hold x hx).symm.trans h1) b hb1
end Go.Dv
namespace Go.Nv
open Go.Dv
open Go.IntKind (wrap)
section
variable {P : Program} {o : Oper} {σ : St}
theorem OY{x y:Operand}{t tn:TypeId}(ho:o.op=.call { callee:=.builtin .append,args:= #[x,y],argTypes:= #[t,tn]}){e:TypeId}{sz by':Nat}{z:Value}(hs:BW P t=some (e,sz,by',some z))(hzc:z.cells.size=sz)(h0:0<sz){kn:IntKind}(htn:P.underlying tn=some (.int kn))
  {kd:IntKind} {n:Int} (hn:0<n) (hlen:n.toNat*by'<=140737488355328) (hlen2:n.toNat<=140737488355328):
  Ap P o [.v .nils,.v (.int kd n)] σ (.gro σ.H.length n.toNat sz) ⟨σ.H++[some []],σ.own⟩:=by
 intro E g a w K Q hw hds hK
 simp only[ho,Op.operands,Call.operands] at hds
 obtain⟨u,v,eq,hu,hv⟩:=Am.1 (by simpa using hds)
 simp only[HB,HZ] at eq
 simp only[Ac,BQ,As] at hu hv
 subst hu hv
 obtain⟨m,rfl⟩:∃m:Nat,n=m:=⟨n.toNat,by omega⟩
 simp only[I5] at hlen hlen2 hK⊢
 obtain⟨i,ht,hi,hisz,hib,hiz⟩:=A8 hs
 have hrun:=Lib.run_append_nil_zeros (P:=P) w t tn o.type e i z kd kn ht htn hi hiz m (by omega) (by omega) (by omega) (by rw[hib];omega)
 have hge:=grownCap_ge w m 0 e
 generalize hcs:Builtin.zeroCells z.cells m++Builtin.zeroCells z.cells (grownCap w m 0 e-m)=cs at hrun
 have hsize:cs.size=grownCap w m 0 e*sz:=by
  rw[←hcs]
  simp only[Array.size_append,size_zeroCells,hzc, ←I8]
  congr 1;omega
 obtain⟨g',h3,h4,h5',h6',h7⟩:=hw.drew.newObjR (us:=[]) (rest:=cs.toList) (cs:=[]) e (by simp[Ab]) (by simp)
 have hd:Ac g' (.gro σ.H.length m sz) (.slice (some ⟨w.heap.size,0,none⟩) m (grownCap w m 0 e)):=by
  simp only[Ac]
  refine⟨by omega,_,hge,?_,by rw[h5'];rfl⟩
  rw[h6'];simp[hsize]
 have hcell:(([]:List Value)++cs.toList).toArray=cs:=by simp
 rw[hcell] at h3
 have:=hK g' _ _ h3 h4 hd
 unfold Oper.wp execOp
 simp only[ho,resolve,invoke,builtin,Sem.run_bind,Sem.run_pure,Result.andThen_ok,List.map_toArray,HO,Iu,eq.1,eq.2,hrun]
 exact this
theorem OV{t:TypeId}{x hx:Operand}(ho:o.op=.slice t x none (some hx) none){e:TypeId}{sz by':Nat}{z:Option Value}(hs:BW P t=some (e,sz,by',z))(h0:0<sz){q len:Nat}{cs:List D}(hq:σ.H[q]?=some (some cs)){kd:IntKind}(k:Nat)(hk:∀x∈σ.own,x.1≠k):
  Ap P o [.gro q len sz,.v (.int kd 0)] σ (.acc k []) ⟨σ.H.set q none,(k,sz,[])::σ.own⟩:=by
 intro E g a w K Q hw hds hK
 simp only[ho,Op.operands] at hds
 obtain⟨u,v,eq,h1,h2⟩:=Am.1 (by simpa using hds)
 simp only[HB,HZ] at eq
 simp only[Ac,As] at h1 h2
 subst h2
 obtain⟨hqn,cap,hcap,hκ,rfl⟩:=h1
 obtain⟨i,hu,hi',hsz,_,_⟩:=A8 hs
 obtain⟨us,rest,et,hb,hr,hone,hM,hkk⟩:=hw.rep.obj q cs hq
 have hrep:repV g.M (.list []) (.slice (some ⟨g.β q,0,none⟩) 0 cap):=by rw[AJ];exact⟨_,cap,rfl,HW _,.inl rfl⟩
 obtain⟨hw2,hle⟩:=(hw.kill hq).addOwnP (k:=k) (sz:=sz) (xs:=[]) (u:=.slice (some ⟨g.β q,0,none⟩) 0 cap) hk ⟨h0,by simp⟩ hrep
  (.inr ⟨g.β q,0,0,cap,_,et,rfl,hb,HW _,by rw[Ih];simp only[IB];rw[hkk, ←hκ];exact H5 _,fun o _=>hM o,hw.rep.obj_ng hq⟩) (fun b hb'=>by
   simp only[B8] at hb'
   split at hb'
   ·simp at hb'
   ·simp at hb';subst hb'
    refine⟨hw.objs q cs hq,fun i c hi=>?_,fun x hx u' hu' hb2=>hw.rep.ownObj x hx u' hu' _ hb2 q cs hq rfl⟩
    obtain⟨hne,hi2⟩:=E5 hi
    exact fun e=>hne (hw.rep.inj i q _ _ hi2 hq e))
 have:=hK _ _ (.slice (some ⟨g.β q,0,none⟩) 0 cap) hw2 hle (by simp only[Ac];exact⟨hrep,by simp⟩)
 have hbr:=DA (P:=P) w true len cap hcap none (some (kd,0)) (l':=0) (h':=0) (by simp[Ct])
 unfold Oper.wp execOp
 simp only[ho,eq.1,eq.2,IT,Ix,Instr.sliceAt,Instr.slice,Sem.run_bind,run_underlying hu,Result.andThen_ok]
 simp only[IT,Ix] at hbr
 rw[hbr]
 simp only[Result.andThen_ok,sizeOf,typeInfo,hi',Sem.run_pure,Sem.run_bind]
 by_cases hc0:cap=0
 ·subst hc0;simpa[Addr.add_lit,Oper.upon,hi'] using this
 ·simpa[hc0,Addr.add_lit,Oper.upon,hi',show ¬0=cap by omega] using this
theorem OX{x:Operand}{t:TypeId}(ho:o.op=.call { callee:=.builtin .cap,args:= #[x],argTypes:= #[t]}){e:TypeId}(ht:P.underlying t=some (.slice e)):Ap P o [.v .nils] σ (.v (.int .i64 0)) σ:=by
 refine Ar fun E g ρ w hw hds=>?_
 simp only[ho,Op.operands,Call.operands,Av] at hds
 obtain⟨u,e,h1⟩:=hds
 simp at e
 simp only[Ac,BQ] at h1
 subst h1
 exact⟨_,by simp[execOp,ho,e,resolve,invoke,builtin,Builtin.cap_,run_underlying ht,goInt];rfl,by simp[Ac]⟩
theorem LE{t:TypeId}{x hx:Operand}(ho:o.op=.slice t x none (some hx) none){e:TypeId}(hu:P.underlying t=some (.slice e)){inf:TypeInfo}(hi:P.info? e=some inf){kd:IntKind}:Ap P o [.v .nils,.v (.int kd 0)] σ (.v .nils) σ:=by
 refine Ar fun E g ρ w hw hds=>?_
 simp only[ho,Op.operands] at hds
 obtain⟨u,v,eq,h1,h2⟩:=Am.1 (by simpa using hds)
 simp only[HB,HZ] at eq
 simp only[Ac,As,BQ] at h1 h2
 subst h1 h2
 have hbr:=DA (P:=P) w true 0 0 (H5 _) none (some (kd,0)) (l':=0) (h':=0) (by simp[Ct])
 simp only[IT,Ix] at hbr
 refine⟨.slice none 0 0,?_,by simp[Ac]⟩
 simp only[execOp,ho,eq.1,eq.2,IT,Ix,Instr.sliceAt,Instr.slice,Sem.run_bind,run_underlying hu,Result.andThen_ok]
 rw[hbr]
 simp[sizeOf,typeInfo,hi]
end
def VI:List (Nat×Operand)->List D->Option (List (Nat×D))
 |[],[]=>some []
 |p::ps,d::ds=>match VI ps ds with
  |some xs=>some ((p.1,d)::xs)
  |none=>none
 |_,_=>none
def Pz(places:List (Nat×Nat)):List D->List (Nat×D)->Option (List D)
 |cells,[]=>some cells
 |cells,p::xs=>match places[p.1]? with
  |some (off,size)=>cond (p.2.sto&&Nat.beq (B9 p.2).length size&&Nat.ble (off+size) cells.length) (Pz places (cells.take off++B9 p.2++cells.drop (off+size)) xs) none
  |none=>none
theorem repDs_length'{g:Gh}:∀{ds:List D} {us:List Value},Ab g ds us->us.length=ds.length
 |[],us,h=>by simp only[Ab] at h;simp[h]
 |d::ds,us,h=>by
  simp only[Ab] at h
  obtain⟨u,us',rfl,_,h⟩:=h
  simp[repDs_length' h]
theorem Hq{g:Gh}:∀{ds es:List D} {us vs:List Value},Ab g ds us->Ab g es vs->Ab g (ds++es) (us++vs)
 |[],es,us,vs,h,h2=>by simp only[Ab] at h;subst h;exact h2
 |d::ds,es,us,vs,h,h2=>by
  simp only[Ab] at h
  obtain⟨u,us',rfl,h1,h⟩:=h
  simp only[IW,Ab]
  exact⟨u,us'++vs,rfl,h1,Hq h h2⟩
theorem NH{g:Gh}:∀{ds:List D} {us:List Value} (n:Nat),Ab g ds us->Ab g (ds.take n) (us.take n)
 |ds,us,0,_=>by simp[Ab]
 |[],us,n+1,h=>by simp only[Ab] at h;subst h;simp[Ab]
 |d::ds,us,n+1,h=>by
  simp only[Ab] at h
  obtain⟨u,us',rfl,h1,h⟩:=h
  simp only[List.take_succ_cons,Ab]
  exact⟨u,us'.take n,rfl,h1,NH n h⟩
theorem NI{g:Gh}:∀{ds:List D} {us:List Value} (n:Nat),Ab g ds us->Ab g (ds.drop n) (us.drop n)
 |ds,us,0,h=>by simpa using h
 |[],us,n+1,h=>by simp only[Ab] at h;subst h;simp[Ab]
 |d::ds,us,n+1,h=>by
  simp only[Ab] at h
  obtain⟨u,us',rfl,h1,h⟩:=h
  simp only[List.drop_succ_cons]
  exact NI n h
theorem LZ{g:Gh}{a:Act}{places:List (Nat×Nat)}:∀{ps:List (Nat×Operand)} {ds:List D} {xs:List (Nat×D)} {cells out:List D} {cu:Array Value},VI ps ds=some xs->Ab g ds (ps.map fun p=>a.eval p.2)->Ab g cells cu.toList->Pz places cells xs=some out->
  ∃U,Instr.fill (places[·]?) cu (ps.map fun p=>(p.1,a.eval p.2))=some U/\Ab g out U.toList
 |[],[],xs,cells,out,cu,hx,_,hc,hf=>by
  simp[VI] at hx;subst hx
  simp[Pz] at hf;subst hf
  exact⟨cu,rfl,hc⟩
 |[],_::_,xs,cells,out,cu,hx,_,hc,hf=>by simp[VI] at hx
 |_::_,[],xs,cells,out,cu,hx,_,hc,hf=>by simp[VI] at hx
 |p::ps,d::ds,xs,cells,out,cu,hx,hds,hc,hf=>by
  simp only[VI] at hx
  split at hx
  ·rename_i ys hys
   simp at hx;subst hx
   simp only[HO,Ab] at hds
   obtain⟨u,us',e,h1,h2⟩:=hds
   simp at e
   obtain⟨rfl,rfl⟩:=e
   simp only[Pz] at hf
   split at hf
   ·rename_i off size hp
    cases hcd:(d.sto&&Nat.beq (B9 d).length size&&Nat.ble (off+size) cells.length) with
    |false=>rw[hcd] at hf;simp at hf
    |true=>
     rw[hcd] at hf
     simp only[cond_true] at hf
     simp only[Hy] at hcd
     obtain⟨⟨c1,c2⟩,c3⟩:=hcd
     have c2:=HM c2
     have c3:=HR c3
     obtain⟨r1,r2,r3⟩:=J4 c1 h1
     have hl:cu.size=cells.length:=by rw[←HY];exact repDs_length' hc
     have hs:(a.eval p.2).cells.size=size:=by rw[←HY,repDs_length' r1,c2]
     have hsp:=QP off (a.eval p.2).cells.toList cu (by simp only[HY];omega)
     simp only[HY,hs] at hsp
     have hc':Ab g (cells.take off++B9 d++cells.drop (off+size)) (((a.eval p.2).cells.toList.zipIdx 0).foldl (fun cs (x:Value×Nat)=>cs.setIfInBounds (off+x.2) x.1) cu).toList:=by
      rw[hsp]
      exact Hq (Hq (NH off hc) r1) (NI (off+size) hc)
     obtain⟨U,hU,hrU⟩:=LZ hys h2 hc' hf
     refine⟨U,?_,hrU⟩
     simp only[HO]
     unfold Instr.fill
     simp only[hp,hs]
     rw[HF (by simp;omega), ←hU]
     congr 1
     rw[←Array.foldl_toList,Array.toList_zipIdx]
   ·simp at hf
  ·simp at hx
section
variable {P : Program} {o : Oper} {σ : St}
def KH(P:Program)(t:TypeId):Bool:=match P.underlying t with
 |some (.struct _)=>true
 |_=>false
theorem RU{t:TypeId}{parts:Array (Nat×Operand)}(ho:o.op=.build t parts){z:List V}{places:List (Nat×Nat)}(hst:KH P t=true)(hb:PK P t=some (z,places)){ds:List D}{xs:List (Nat×D)}{out:List D}
  (hx:VI parts.toList ds=some xs) (hf:Pz places (z.map .v) xs=some out):Ap P o ds σ (.dagg out) σ:=by
 intro E g a w K Q hw hds hK
 simp only[ho,Op.operands] at hds
 unfold PK at hb
 unfold KH at hst
 have key:∃U,P.built t (parts.toList.map fun p=>(p.1,a.eval p.2))=some U/\Ab g out U.toList:=by
  cases hz:zeroV P t with
  |none=>simp[hz] at hb
  |some z0=>
   obtain⟨i,zv,hi,hz1,hcv⟩:=IY hz
   cases hu:P.underlying t with
   |none=>simp[hz,hu] at hb
   |some dd=>
    cases dd<;>simp only[hz,hu,reduceCtorEq] at hb hst
    case struct fs=>
     cases hp:fs.toList.mapM (fun f=>(P.info? f.type).map fun i=>(f.offset,i.size)) with
     |none=>simp[hp] at hb
     |some pl=>
      simp[hp] at hb
      obtain⟨rfl,rfl⟩:=hb
      obtain⟨U,hU,hrU⟩:=LZ (a:=a) hx (by simpa[Function.comp_def] using hds) (CW (Eb (M:=g.M) hcv)).1 hf
      exact⟨U,by simpa[Program.built,hi,hu,hz1,hp] using hU,hrU⟩
 obtain⟨U,hU,hrU⟩:=key
 have:=hK g w (.agg U) hw g.le_refl (by simp only[Ac];exact⟨U.toList,by simp,hrU⟩)
 have hrun:=run_build (P:=P) w t (parts.map fun p=>(p.1,a.eval p.2)) U (by simpa using hU)
 unfold Oper.wp execOp
 simp only[ho]
 simp only[Sem.run_bind]
 rw[show(parts.map fun(x:Nat×Operand)=>match x with|(i,x)=>(i,a.eval x))=parts.map fun p=>(p.1,a.eval p.2) from rfl,hrun]
 exact this
end
end Go.Nv

namespace Go.Dv
open List (replicate)
open Go.IntKind (wrap)
section
variable {P : Program} {o : Oper} {σ : St}
theorem RI{t:TypeId}{a:Operand}(ho:o.op=.load t a){n:Nat}(ht:Nq P t n){q off:Nat}{cs:List D}(hH:σ.H[q]?=some (some cs))(hn:off+n<=cs.length){ds:List D}(hd:(cs.drop off).take n=ds):Ap P o [.ptr q off] σ (.dagg ds) σ:=by
 subst hd
 refine Ar fun E g ρ w hw hds=>?_
 simp only[ho,Op.operands,Av] at hds
 obtain⟨u,e,h1⟩:=hds
 simp at e
 simp only[Ac] at h1
 obtain⟨_,rfl⟩:=h1
 obtain⟨us,rest,et,hb,hr,h1,_⟩:=hw.rep.obj q cs hH
 have hra:=Cj (Ck hr off) n
 have hl:us.length=cs.length:=A7 hr
 have hld:=run_loadCells_list (P:=P) w ⟨g.β q,off,none⟩ ((us.drop off).take n) (fun j v hj=>by
  rw[IJ] at hj
  split at hj
  ·rw[List.getElem?_drop] at hj
   rw[Addr.add_lit]
   simp only[World.cell?,hb,I1];exact Dw hj
  ·simp at hj)
 have hlen:((us.drop off).take n).length=n:=by simp;omega
 rw[hlen] at hld
 refine⟨.agg ((us.drop off).take n).toArray,?_,by simp only[Ac];exact⟨_,rfl,hra⟩⟩
 simp only[execOp,ho,e,Instr.loadAt,Instr.sureAddr,loadVar,Sem.run_bind,Sem.run_pure,Result.andThen_ok,BZ ht,run_sizeOf' ht,hld,I6]
end
theorem Jz{α:Type}(l:List α):∀(n i:Nat),i<n*l.length->(replicate n l).flatten[i]?=l[i%l.length]?
 |0,i,h=>by simp at h
 |n+1,i,h=>by
  rw[Iq,IK]
  by_cases hi:i<l.length
  ·rw[HK hi,Nat.mod_eq_of_lt hi]
  ·rw[HH (by omega),Jz l n (i-l.length) (by rw[I8] at h;omega),Nat.mod_eq_sub_mod (a:=i) (by omega)]
theorem Fs{α:Type}(l:List α):∀n:Nat,(replicate n l).flatten.length=n*l.length
 |0=>by simp
 |n+1=>by rw[Iq,IK,HC,Fs l n,I8];omega
theorem LO(z:Array Value)(n:Nat):madeCells z (n*z.size)=(replicate n z.toList).flatten.toArray:=by
 apply Array.ext_getElem?
 intro i
 by_cases hi:i<n*z.size
 ·have hz:0<z.size:=by
   rcases Nat.eq_zero_or_pos z.size with h|h
   ·rw[h] at hi;simp at hi
   ·exact h
  have hm:=Nat.mod_lt i hz
  have h1:=Jz z.toList n i (by rw[HY];exact hi)
  have h2:(replicate n z.toList).flatten.toArray[i]?=(replicate n z.toList).flatten[i]?:=by simp
  rw[h2,h1,HY,IQ,Array.getElem?_eq_getElem hm]
  simp[madeCells,hi,hm]
 ·rw[Array.getElem?_eq_none (by rw[size_madeCells];omega),Array.getElem?_eq_none (by simp only[IB,Fs,HY];omega)]
section
variable {P : Program} {o : Oper} {σ : St} {d : D}
theorem U4{t:TypeId}{x y:Operand}(ho:o.op=.makeSlice t x y){e:TypeId}{sz by':Nat}{z:Value}(hs:BW P t=some (e,sz,by',some z)){zs:List V}(hz:Ed z.cells.toList=some zs)(hzc:z.cells.size=sz){k1 k2:IntKind}{n:Int}(h0:0<=n)(hn:(by':Int)*n<=281474976710656)(hn2:n<=9223372036854775807):
  Ap P o [.v (.int k1 0),.v (.int k2 n)] σ (.gro σ.H.length 0 sz) ⟨σ.H++[some ((replicate n.toNat zs).flatten.map .v)],σ.own⟩:=by
 intro E g a w K Q hw hds hK
 simp only[ho,Op.operands,Am] at hds
 obtain⟨u,v,eq,h1',h2⟩:=hds
 simp only[HO,Iu,HB,HZ] at eq
 obtain⟨e1,e2⟩:=eq
 simp only[Ac,As] at h1' h2
 subst h1' h2
 obtain⟨i,hu,hi,hsz,hby,hzz⟩:=A8 hs
 have hrun:=run_make (P:=P) w t e i z hu hi hzz k1 k2 0 n (HP _) h0 (by rw[hby];exact hn) hn2
 rw[hsz, ←hzc,LO] at hrun
 obtain⟨hr1,ho1⟩:=CW (g:=g) (Ec (M:=g.M) hz)
 have hr:∀m,Ab g ((replicate m zs).flatten.map .v) (replicate m z.cells.toList).flatten/\∀c∈ (replicate m zs).flatten.map D.v,c.one=true:=by
  intro m
  induction m with
  |zero=>simp[Ab]
  |succ m ih=>
   simp only[Iq,IK,IC]
   refine⟨Aw hr1 ih.1,fun c hc=>?_⟩
   rcases Ij.1 hc with h|h
   ·exact ho1 c h
   ·exact ih.2 c h
 obtain⟨g',hw',hle,hβ,hκ,hn'⟩:=hw.newObjR (us:=(replicate n.toNat z.cells.toList).flatten) (rest:=[]) e (hr n.toNat).1 (hr n.toNat).2
 rw[Il] at hw' hκ
 have:=hK g' _ (.slice (some ⟨w.heap.size,0,none⟩) 0 n.toNat) hw' hle (by
  simp only[Ac]
  exact⟨by omega,n.toNat,HW _,by rw[hκ,Fs,HY,hzc],by rw[hβ]⟩)
 unfold Oper.wp execOp
 simp only[ho,e1,e2,Sem.run_bind,hrun,Result.andThen_ok]
 exact this
theorem MQ{x y:Operand}{t:TypeId}(ho:o.op=.call { callee:=.builtin .append,args:= #[x,y],argTypes:= #[t,t]}){e:TypeId}{sz by':Nat}{z:Option Value}(hs:BW P t=some (e,sz,by',z))(hsz:0<sz)
  {q len:Nat} {cs:List D} {ys:List V} (hq:σ.H[q]?=some (some cs)) (hroom:(len+ys.length)*sz<=cs.length) (hys:∀y∈ys,y.size=sz) (hpos:ys≠ []):
  Ap P o [.gro q len sz,.v (.list ys)] σ (.gro q (len+ys.length) sz) ⟨σ.H.set q (some (cs.take (len*sz)++B5 ys++cs.drop (len*sz+(B5 ys).length))),σ.own⟩:=by
 intro E g a w K Q hw hds hK
 simp only[ho,Op.operands,Call.operands] at hds
 obtain⟨u,v,eq,hu,hv⟩:=Am.1 (by simpa using hds)
 simp only[HB,HZ] at eq
 simp only[Ac] at hu hv
 obtain⟨hqn,cap,hcap,hκ,rfl⟩:=hu
 obtain⟨ad,cap2,rfl,hc2,hor⟩:=BI hv hys hsz
 rcases hor with h|⟨b,off,vs,rfl,hin,hE⟩
 ·exact absurd h hpos
 obtain⟨h5,h6⟩:=DB hE
 obtain⟨i,ht,hi,hisz,hib,hiz⟩:=A8 hs
 obtain⟨us,rest,et,hb,hr,h1,hM,hκ1⟩:=hw.rep.obj q cs hq
 have hul:us.length=cs.length:=A7 hr
 have hvl0:vs.length=ys.length*sz:=AU hE
 have hvl:vs.length=ys.length*i.size:=by rw[hvl0,hisz]
 have hfl:(B5 ys).length=vs.length:=(A7 h5).symm
 rw[I8] at hroom
 have hroom':len+ys.length<=cap:=by
  have:(len+ys.length)*sz<=cap*sz:=by rw[hκ, ←hκ1,HC,I8];omega
  exact Nat.le_of_mul_le_mul_right this hsz
 have hone:∀u∈vs,u.oneCell'=true:=CG h6 h5
 have hfit:len*i.size+vs.length<=(us++rest).toArray.size:=by
  rw[IB,HC,hisz];omega
 have hrun:=run_append_room' (P:=P) w t o.type e et i ht hi (g.β q) len cap (us++rest).toArray hb ⟨b,off,none⟩ ys.length cap2 vs hvl (D4 hw hin) hone hroom' hfit
 have hrow:(us++rest).toArray.toList.take (len*i.size)++vs++(us++rest).toArray.toList.drop (len*i.size+vs.length)=(us.take (len*sz)++vs++us.drop (len*sz+vs.length))++rest:=by
  simp only[hisz]
  rw[IN (by omega),List.drop_append_of_le_length (by omega)]
  simp
 rw[hrow] at hrun
 have hw1:=hw.setObj (cs':=cs.take (len*sz)++B5 ys++cs.drop (len*sz+(B5 ys).length)) (w':=w.setRow (g.β q) ((us.take (len*sz)++vs++us.drop (len*sz+vs.length))++rest).toArray) hq (us:=us.take (len*sz)++vs++us.drop (len*sz+vs.length)) (rest:=rest) (e:=et) (setRow_heap w _ _ _ et _ hb)
  (by rw[←hκ1];simp only[HC,HS,I3];omega)
  (Aw (Aw (Cj hr _) h5) (by rw[hfl];exact Ck hr _))
  (fun c hc=>by
   rcases Ij.1 hc with h|h
   ·rcases Ij.1 h with h|h
    ·exact h1 c (List.mem_of_mem_take h)
    ·exact h6 c h
   ·exact h1 c (List.mem_of_mem_drop h)) (fun b hb=>setRow_other w _ _ _ hb) (by simp) rfl rfl rfl
 have:=hK g _ (.slice (some ⟨g.β q,0,none⟩) (len+ys.length) cap) hw1 (Gh.le_refl g) (by simp only[Ac];exact⟨hqn,cap,hroom',hκ,rfl⟩)
 unfold Oper.wp execOp
 simp only[ho,resolve,invoke,builtin,Sem.run_bind,Sem.run_pure,Result.andThen_ok,List.map_toArray,HO,Iu,eq.1,eq.2,hrun]
 exact this
end
end Go.Dv

namespace Go.Nv
open Go.Dv
open List (replicate)
open Go.IntKind (wrap)
inductive Kd where
 |pure
 |load (q off n:Nat)
 |eff
noncomputable def AO(τ:St)(q off n:Nat):Option (List D):=match τ.H[q]? with
 |some (some cs)=>cond (Nat.ble (off+n) cs.length) (some ((cs.drop off).take n)) none
 |_=>none
theorem D1{τ:St}{q off n:Nat}{l:List D}(h:AO τ q off n=some l):∃cs,τ.H[q]?=some (some cs)/\off+n<=cs.length/\(cs.drop off).take n=l:=by
 unfold AO at h
 split at h
 ·rename_i cs hcs
  cases hb:Nat.ble (off+n) cs.length with
  |false=>rw[hb] at h;simp at h
  |true=>rw[hb] at h;simp at h;exact⟨cs,hcs,HR hb,h⟩
 ·simp at h
theorem EH{τ:St}{q off n:Nat}{cs:List D}(h:τ.H[q]?=some (some cs))(hl:off+n<=cs.length):AO τ q off n=some ((cs.drop off).take n):=by
 unfold AO
 rw[h]
 simp only[Nat.ble_eq_true_of_le hl,cond_true]
def Aad(P:Program)(o:Oper)(ds:List D)(σ:St)(d:D)(σ':St):Kd->Prop
 |.pure=>σ'=σ/\∀τ,Ap P o ds τ d τ
 |.load q off n=>σ'=σ/\(AO σ q off n).isSome=true/\∀τ,AO τ q off n=AO σ q off n->Ap P o ds τ d τ
 |.eff=>Ap P o ds σ d σ'
theorem Aad.op{P:Program}{o:Oper}{ds:List D}{σ σ':St}{d:D}{kd:Kd}(h:Aad P o ds σ d σ' kd):Ap P o ds σ d σ':=by
 cases kd with
 |pure=>obtain⟨rfl,h⟩:=h;exact h _
 |load q off n=>obtain⟨rfl,_,h⟩:=h;exact h _ rfl
 |eff=>exact h
abbrev KO:=Sc->D->St->Kd->Prop
def VOK(P:Program)(o:Oper)(ds:List D)(σ:St)(K:KO):Prop:=∃s d σ' kd,K s d σ' kd/\Aad P o ds σ d σ' kd
def Abj(l:List Nat)(t:Nat):Bool:=l.any (Nat.beq t)
noncomputable def CY(own:List (Nat×Nat×List V))(k:Nat):Bool:=own.all fun x=> !Nat.beq x.1 k
theorem BT{own:List (Nat×Nat×List V)}{k:Nat}(h:CY own k=true):∀x∈own,x.1≠k:=fun x hx e=>by
 have:=Ii.1 h x hx
 rw[e,Nat.beq_refl] at this;simp at this
noncomputable def YV{β:Type}(own:List (Nat×Nat×List V))(k sz:Nat)(zs:List V)(K:List (Nat×Nat×List V)->β):β:=
 List.rec (motive:=fun _=>(List (Nat×Nat×List V)->β)->β) (fun K=>K []) (fun x _ ih K=>ih fun r=>Bool.rec (K (x::r)) (K ((k,sz,zs)::r)) (Nat.beq x.1 k)) own K
theorem MO{β:Type}(k sz:Nat)(zs:List V):∀(own:List (Nat×Nat×List V)) (K:List (Nat×Nat×List V)->β),YV own k sz zs K=K (own.map (E7 k sz zs))
 |[],_=>rfl
 |x::own,K=>by
  have h:YV (x::own) k sz zs K=YV own k sz zs fun r=>Bool.rec (K (x::r)) (K ((k,sz,zs)::r)) (Nat.beq x.1 k):=rfl
  rw[h,MO k sz zs own]
  simp only[HO,E7]
  by_cases e:x.1=k
  ·rw[HJ e,e,Nat.beq_refl]
  ·rw[HF e,show Nat.beq x.1 k=false from by cases h:Nat.beq x.1 k with|false=>rfl|true=>exact absurd (HM h) e]
noncomputable def LC(own:List (Nat×Nat×List V))(k:Nat):Option (Nat×List V):=
 List.rec none (fun x _ ih=>Bool.rec ih (some x.2) (Nat.beq x.1 k)) own
theorem JJ{k:Nat}{p:Nat×List V}:∀{own:List (Nat×Nat×List V)},LC own k=some p->(k,p.1,p.2)∈own
 |[],h=>by have:LC [] k=none:=rfl;rw[this] at h;simp at h
 |x::l,h=>by
  have e:LC (x::l) k=Bool.rec (LC l k) (some x.2) (Nat.beq x.1 k):=rfl
  rw[e] at h
  cases hb:Nat.beq x.1 k with
  |false=>rw[hb] at h;exact List.mem_cons_of_mem _ (JJ h)
  |true=>
   rw[hb] at h
   have:=HM hb;subst this
   simp at h;subst h;simp
abbrev Ax(n by':Nat):Prop:=n*by'<=140737488355328/\n<=140737488355328
section
variable {P : Program} {o : Oper} {σ : St}
theorem FQ{x y:Operand}{t:TypeId}(ho:o.op=.call { callee:=.builtin .append,args:= #[x,y],argTypes:= #[t,t]}){e:TypeId}{sz by':Nat}{z:Value}(hs:BW P t=some (e,sz,by',some z))(hzc:z.cells.size=sz)
  (k:Nat) (hk:∀x∈σ.own,x.1≠k) (h0:0<sz) {ys:List V} (hsy:∀y∈ys,y.size=sz) (hlen:ys.length*by'<=140737488355328) (hlen2:ys.length<=140737488355328):
  Ap P o [.v .nils,.v (.list ys)] σ (.acc k ys) ⟨σ.H,(k,sz,ys)::σ.own⟩:=by
 intro E g a w K Q hw hds hK
 simp only[ho,Op.operands,Call.operands] at hds
 obtain⟨u,v,eq,h1,h2⟩:=Am.1 (by simpa using hds)
 simp only[HB,HZ] at eq
 simp only[Ac,BQ] at h1 h2
 subst h1
 obtain⟨hw1,hle1⟩:=hw.addOwn (k:=k) (sz:=sz) (xs:=[]) (u:=.slice none 0 0) hk ⟨h0,by simp⟩ (Dd _) (.inl ⟨none,rfl⟩) (fun b hb=>by simp[B8] at hb)
 obtain⟨u',w',g',hrun,hw',hle,hr⟩:=J6 (P:=P) (ty:=o.type) hw1 hs hzc (k:=k) (xs:=[]) (by simp) hsy (by simpa using hlen) (by simpa using hlen2) (u:=.slice none 0 0) (by simp) (h2.mono hle1.M)
 have hown:σ.own.map (E7 k sz ys)=σ.own:=by
  conv=>rhs;rw[←List.map_id σ.own]
  exact List.map_congr_left fun x hx=>by simp[E7,hk x hx]
 simp only[List.nil_append,HO,hown] at hw' hr
 have e1:E7 k sz ys (k,sz,[])=(k,sz,ys):=by simp[E7]
 rw[e1] at hw'
 have:=hK g' w' u' hw' (Gh.le_trans hle1 hle) hr
 unfold Oper.wp execOp
 simp only[ho,resolve,invoke,builtin,Sem.run_bind,Sem.run_pure,Result.andThen_ok,List.map_toArray,HO,Iu,eq.1,eq.2,hrun]
 exact this
theorem Jv{t:TypeId}{parts:Array (Nat×Operand)}(ho:o.op=.buildSlice t 0 parts)(hp:parts= #[]){e:TypeId}{sz by':Nat}{z:Option Value}(hs:BW P t=some (e,sz,by',z))(hsz:0<sz)(k:Nat)(hk:∀x∈σ.own,x.1≠k):
  Ap P o [] σ (.acc k []) ⟨σ.H,(k,sz,[])::σ.own⟩:=by
 intro E g a w K Q hw hds hK
 obtain⟨i,hu,hi,rfl,rfl,rfl⟩:=A8 hs
 subst hp
 have hw1:=hw.alloc (.cells #[] e (0,0))
 obtain⟨hw2,hle2⟩:=hw1.addOwn (k:=k) (sz:=i.size) (xs:=[]) (u:=.slice (some ⟨w.heap.size,0,none⟩) 0 0) hk ⟨hsz,by simp⟩ (by rw[AJ];exact⟨_,0,rfl,H5 _,.inl rfl⟩) (.inl ⟨_,rfl⟩) (fun b hb=>by simp[B8] at hb)
 have:=hK _ _ (.slice (some ⟨w.heap.size,0,none⟩) 0 0) hw2 hle2 (by simp only[Ac];exact⟨by rw[AJ];exact⟨_,0,rfl,H5 _,.inl rfl⟩,by simp⟩)
 unfold Oper.wp execOp
 simpa[ho,Instr.buildSlice,run_underlying hu,sizeOf,typeInfo,hi,Instr.fill,newRow,Oper.upon,show Array.range 0= #[] from rfl] using this
end
noncomputable def WP(P:Program)(t:TypeId)(q off:Nat)(σ:St)(s:Sc)(K:KO):Prop:=match Cz P t with
 |some (1,false)=>(match s with
  |.h (.m d) s=>(match σ.H[q]? with
   |some (some cs)=>cs[off]?=some d/\K s d σ (.load q off 1)
   |_=>False)
  |s=>(match σ.H[q]? with
   |some (some cs)=>(match cs[off]? with
    |some d=>K s d σ (.load q off 1)
    |none=>False)
   |_=>False))
 |some (n,true)=>(match s with
  |.h (.m (.dagg ds)) s=>(match σ.H[q]? with
   |some (some cs)=>off+n<=cs.length/\(cs.drop off).take n=ds/\K s (.dagg ds) σ (.load q off n)
   |_=>False)
  |.h (.m (.v (.agg xs))) s=>(match σ.H[q]? with
   |some (some cs)=>off+n<=cs.length/\(cs.drop off).take n=xs.map .v/\K s (.v (.agg xs)) σ (.load q off n)
   |_=>False)
  |s=>match σ.H[q]? with
  |some (some cs)=>cond (Nat.ble (off+n) cs.length) (match Cy ((cs.drop off).take n) with
   |some xs=>K s (.v (.agg xs)) σ (.load q off n)
   |none=>False) False
  |_=>False)
 |_=>False
theorem KN{cs:List D}{off:Nat}{d:D}(h:cs[off]?=some d):off+1<=cs.length/\(cs.drop off).take 1=[d]:=by
 have hlt:=(H0.1 h).1
 refine⟨hlt,?_⟩
 rw[HD hlt,List.take_succ_cons,List.take_zero,(H0.1 h).2]
theorem Of{P:Program}{o:Oper}{σ:St}{t:TypeId}{a:Operand}(ho:o.op=.load t a)(ht:Cz P t=some (1,false)){q off:Nat}{cs:List D}{d:D}(hq:σ.H[q]?=some (some cs))(hd:cs[off]?=some d):
  Aad P o [.ptr q off] σ d σ (.load q off 1):=by
 obtain⟨h1,h2⟩:=KN hd
 have hc:=EH hq h1
 refine⟨rfl,by rw[hc];rfl,fun τ hτ=>?_⟩
 rw[hc,h2] at hτ
 obtain⟨cs',h3,h4,h5⟩:=D1 hτ
 refine RJ ho ht h3 ?_
 have:((cs'.drop off).take 1)[0]?=some d:=by rw[h5];rfl
 simpa using this
theorem TF{P:Program}{t:TypeId}{q off:Nat}{σ:St}{s:Sc}{K:KO}(h:WP P t q off σ s K){o:Oper}{a:Operand}(ho:o.op=.load t a):VOK P o [.ptr q off] σ K:=by
 unfold WP at h
 split at h
 ·rename_i ht
  split at h
  ·split at h
   ·rename_i cs hq;exact⟨_,_,_,_,h.2,Of ho ht hq h.1⟩
   ·exact h.elim
  ·split at h
   ·rename_i cs hq
    split at h
    ·rename_i d hd;exact⟨_,_,_,_,h,Of ho ht hq hd⟩
    ·exact h.elim
   ·exact h.elim
 ·rename_i n ht
  split at h
  ·split at h
   ·rename_i cs hq
    obtain⟨hl,hd,h2⟩:=h
    have hc:=EH hq hl
    refine⟨_,_,_,_,h2,rfl,by rw[hc];rfl,fun τ hτ=>?_⟩
    rw[hc] at hτ
    obtain⟨cs',h3,h4,h5⟩:=D1 hτ
    exact RI ho ht h3 h4 (by rw[h5];exact hd)
   ·exact h.elim
  ·split at h
   ·rename_i cs hq
    obtain⟨hl,hd,h2⟩:=h
    have hc:=EH hq hl
    refine⟨_,_,_,_,h2,rfl,by rw[hc];rfl,fun τ hτ=>?_⟩
    rw[hc] at hτ
    obtain⟨cs',h3,h4,h5⟩:=D1 hτ
    exact LI ho ht h3 h4 (by rw[h5,hd];exact Eo _)
   ·exact h.elim
  split at h
  ·rename_i cs hq
   obtain⟨h1,h2⟩:=Aj h
   split at h2
   ·rename_i xs hx
    have hl:=HR h1
    have hc:=EH hq hl
    refine⟨_,_,_,_,h2,rfl,by rw[hc];rfl,fun τ hτ=>?_⟩
    rw[hc] at hτ
    obtain⟨cs',h3,h4,h5⟩:=D1 hτ
    exact LI ho ht h3 h4 (by rw[h5];exact Ep hx)
   ·exact h2.elim
  ·exact h.elim
 ·exact h.elim
noncomputable def Qz(P:Program)(t:TypeId)(q off:Nat)(d:D)(σ:St)(s:Sc)(K:KO):Prop:=match Cz P t with
 |some (1,false)=>(match σ.H[q]? with
  |some (some cs)=>cond d.one (match s with
   |.h .w s=>off<cs.length/\BX σ.H q (some (cs.set off d)) fun H=>K s .undef ⟨H,σ.own⟩ .eff
   |s=>cond (Nat.blt off cs.length) (BX cs off d fun cs=>BX σ.H q (some cs) fun H=>K s .undef ⟨H,σ.own⟩ .eff) False) False
  |_=>False)
 |some (n,true)=>(match σ.H[q]? with
  |some (some cs)=>(match s with
   |.h .ww s=>cond (d.sto&&Nat.beq (B9 d).length n) (off+n<=cs.length/\BX σ.H q (some (cs.take off++B9 d++cs.drop (off+n))) fun H=>K s .undef ⟨H,σ.own⟩ .eff) False
   |s=>cond (d.sto&&Nat.beq (B9 d).length n&&Nat.ble (off+n) cs.length) (AH (cs.take off++B9 d++cs.drop (off+n)) fun cs=>BX σ.H q (some cs) fun H=>K s .undef ⟨H,σ.own⟩ .eff) False)
  |_=>False)
 |_=>False
theorem Qy{P:Program}{t:TypeId}{q off:Nat}{d:D}{σ:St}{s:Sc}{K:KO}(h:Qz P t q off d σ s K){o:Oper}{a b:Operand}(ho:o.op=.store t a b):VOK P o [.ptr q off,d] σ K:=by
 unfold Qz at h
 split at h
 ·rename_i ht
  split at h
  ·rename_i cs hq
   obtain⟨h1,h2⟩:=Aj h
   split at h2
   ·rw[AG] at h2
    exact⟨_,_,_,_,h2.2,LD ho h1 ht hq h2.1⟩
   ·obtain⟨h3,h4⟩:=Aj h2
    rw[AG,AG] at h4
    exact⟨_,_,_,_,h4,LD ho h1 ht hq (HR h3)⟩
  ·exact h.elim
 ·rename_i n ht
  split at h
  ·rename_i cs hq
   split at h
   ·obtain⟨h1,h2,h3⟩:=Aj h
    simp only[Hy] at h1
    rw[AG] at h3
    exact⟨_,_,_,_,h3,K6 ho h1.1 ht (HM h1.2) hq h2⟩
   obtain⟨h1,h2⟩:=Aj h
   simp only[Hy] at h1
   rw[AE,AG] at h2
   exact⟨_,_,_,_,h2,K6 ho h1.1.1 ht (HM h1.1.2) hq (HR h1.2)⟩
  ·exact h.elim
 ·exact h.elim
structure AbQ(H H':List (Option (List D)))(q:Nat)(l:List D):Prop where
 eq:H'=H.set q none++[some l]
noncomputable def Aai(P:Program)(t:TypeId)(x y:D)(σ:St)(s:Sc)(K:KO):Prop:=match BW P t,y with
 |some (_,sz,by',some z),.v (.list ys)=>cond (Nat.beq z.cells.size sz&&Nat.blt 0 sz) (match x with
  |.acc k xs=>(match LC σ.own k with
   |some (sz',xs')=>cond (Nat.beq sz' sz) (xs'=xs/\Ax (xs.length+ys.length) by'/\(match s with
    |.h .w s=>(∀y∈ys,y.size=sz)/\YV σ.own k sz (xs++ys) fun own=>K s (.acc k (xs++ys)) ⟨σ.H,own⟩ .eff
    |s=>cond (Td sz ys) (YV σ.own k sz (xs++ys) fun own=>K s (.acc k (xs++ys)) ⟨σ.H,own⟩ .eff) False)) False
   |none=>False)
  |.v .nils=>(match s with
   |.h (.a k) (.h .w s)=>cond (CY σ.own k) (Ax ys.length by'/\(∀y∈ys,y.size=sz)/\K s (.acc k ys) ⟨σ.H,(k,sz,ys)::σ.own⟩ .eff) False
   |.h (.a k) s=>cond (CY σ.own k&&Td sz ys) (Ax ys.length by'/\K s (.acc k ys) ⟨σ.H,(k,sz,ys)::σ.own⟩ .eff) False
   |.h (.gx _ H') s=>ys≠ []/\(∀y∈ys,y.size=sz)/\Ax ys.length by'/\H'=σ.H++[some (B5 ys)]/\K s (.gro σ.H.length ys.length sz) ⟨H',σ.own⟩ .eff
   |.h .g s=>ys≠ []/\(∀y∈ys,y.size=sz)/\Ax ys.length by'/\A5 σ.H (some (B5 ys)) fun H=>K s (.gro σ.H.length ys.length sz) ⟨H,σ.own⟩ .eff
   |_=>False)
  |.gro q len sz'=>(match s with
   |.h (.gx cs H') s=>cond (Nat.beq sz' sz) (σ.H[q]?=some (some cs)/\cs.length=len*sz/\ys≠ []/\(∀y∈ys,y.size=sz)/\Ax (len+ys.length) by'/\AbQ σ.H H' q (cs++B5 ys)/\K s (.gro σ.H.length (len+ys.length) sz) ⟨H',σ.own⟩ .eff) False
   |.h .w s=>(match σ.H[q]? with
    |some (some cs)=>cond (Nat.beq sz' sz) ((len+ys.length)*sz<=cs.length/\ys≠ []/\(∀y∈ys,y.size=sz)/\BX σ.H q (some (cs.take (len*sz)++B5 ys++cs.drop (len*sz+(B5 ys).length))) fun H=>K s (.gro q (len+ys.length) sz) ⟨H,σ.own⟩ .eff) False
    |_=>False)
   |s=>match σ.H[q]? with
   |some (some cs)=>cond (Nat.beq sz' sz) (cs.length=len*sz/\ys≠ []/\(∀y∈ys,y.size=sz)/\Ax (len+ys.length) by'/\BX σ.H q none fun H=>A5 H (some (cs++B5 ys)) fun H=>K s (.gro σ.H.length (len+ys.length) sz) ⟨H,σ.own⟩ .eff) False
   |_=>False)
  |_=>False) False
 |_,_=>False
theorem WS{P:Program}{t:TypeId}{x y:D}{σ:St}{s:Sc}{K:KO}(h:Aai P t x y σ s K){o:Oper}{a b:Operand}(ho:o.op=.call { callee:=.builtin .append,args:= #[a,b],argTypes:= #[t,t]}):VOK P o [x,y] σ K:=by
 unfold Aai at h
 split at h
 ·rename_i e sz by' z ys hs
  obtain⟨h1,h2⟩:=Aj h
  simp only[Hy] at h1
  have hz:=HM h1.1
  have hp:=HR h1.2
  split at h2
  ·rename_i k xs
   split at h2
   ·rename_i sz' xs' hg
    obtain⟨h3,rfl,h4,h5⟩:=Aj h2
    have:=HM h3;subst this
    have hm:=JJ hg
    split at h5
    ·rw[MO] at h5
     exact⟨_,_,_,_,h5.2,LK ho hs hz hm h5.1 h4.1 h4.2⟩
    ·obtain⟨h6,h7⟩:=Aj h5
     rw[MO] at h7
     exact⟨_,_,_,_,h7,LK ho hs hz hm (GZ h6) h4.1 h4.2⟩
   ·exact h2.elim
  ·split at h2
   ·obtain⟨h3,h4,h5,h6⟩:=Aj h2
    exact⟨_,_,_,_,h6,FQ ho hs hz _ (BT h3) hp h5 h4.1 h4.2⟩
   ·obtain⟨h3,h4,h5⟩:=Aj h2
    rw[Hy] at h3
    exact⟨_,_,_,_,h5,FQ ho hs hz _ (BT h3.1) hp (GZ h3.2) h4.1 h4.2⟩
   ·obtain⟨h3,h4,h5,rfl,h6⟩:=h2
    exact⟨_,_,_,_,h6,G6 ho hs hz hp h4 h3 h5.1 h5.2⟩
   ·obtain⟨h3,h4,h5,h6⟩:=h2
    rw[A4] at h6
    exact⟨_,_,_,_,h6,G6 ho hs hz hp h4 h3 h5.1 h5.2⟩
   ·exact h2.elim
  ·rename_i q len sz'
   split at h2
   ·obtain⟨h3,hq,h4,h5,h6,h7,h9,h8⟩:=Aj h2
    have:=HM h3;subst this
    have e:=h9.eq;subst e
    exact⟨_,_,_,_,h8,Jw ho hs hz hp hq h4 h6 h5 h7.1 h7.2⟩
   ·split at h2
    ·rename_i cs hq
     obtain⟨h3,h4,h5,h6,h7⟩:=Aj h2
     have:=HM h3;subst this
     rw[AG] at h7
     exact⟨_,_,_,_,h7,MQ ho hs hp hq h4 h6 h5⟩
    ·exact h2.elim
   split at h2
   ·rename_i cs hq
    obtain⟨h3,h4,h5,h6,h7,h8⟩:=Aj h2
    have:=HM h3;subst this
    rw[AG,A4] at h8
    exact⟨_,_,_,_,h8,Jw ho hs hz hp hq h4 h6 h5 h7.1 h7.2⟩
   ·exact h2.elim
  ·exact h2.elim
 ·exact h.elim
noncomputable def WO(P:Program)(t:TypeId)(k1 k2:IntKind)(a b:Int)(σ:St)(s:Sc)(K:KO):Prop:=match BW P t with
 |some (_,sz,by',some z)=>(match s with
  |.h (.a k) s=>cond (Nat.blt 0 sz&&CY σ.own k) (a=0/\0<=b/\(by':Int)*b<=281474976710656/\b<=9223372036854775807/\K s (.acc k []) ⟨σ.H,(k,sz,[])::σ.own⟩ .eff) False
  |.h .g s=>(match Ed z.cells.toList with
   |some zs=>cond (Nat.beq z.cells.size sz) (a=0/\0<=b/\(by':Int)*b<=281474976710656/\b<=9223372036854775807/\A5 σ.H (some ((replicate b.toNat zs).flatten.map .v)) fun H=>K s (.gro σ.H.length 0 sz) ⟨H,σ.own⟩ .eff) False
   |none=>False)
  |s=>(match Mk z with
   |some zv=>cond (Nat.beq sz 1) (a=b/\0<=b/\(by':Int)*b<=281474976710656/\b<=9223372036854775807/\A5 σ.H (some (replicate b.toNat (.v zv))) fun H=>K s (.arr σ.H.length 0 b.toNat) ⟨H,σ.own⟩ .eff) False
   |none=>False))
 |_=>False
theorem TE{P:Program}{t:TypeId}{k1 k2:IntKind}{a b:Int}{σ:St}{s:Sc}{K:KO}(h:WO P t k1 k2 a b σ s K){o:Oper}{x y:Operand}(ho:o.op=.makeSlice t x y):VOK P o [.v (.int k1 a),.v (.int k2 b)] σ K:=by
 unfold WO at h
 split at h
 ·rename_i e sz by' z hs
  split at h
  ·obtain⟨h1,rfl,h2,h3,h4,h5⟩:=Aj h
   rw[Hy] at h1
   exact⟨_,_,_,_,h5,U6 ho hs (HR h1.1) _ (BT h1.2) h2 h3 h4⟩
  ·split at h
   ·rename_i zs hzs
    obtain⟨h1,rfl,h2,h3,h4,h5⟩:=Aj h
    rw[A4] at h5
    exact⟨_,_,_,_,h5,U4 ho hs hzs (HM h1) h2 h3 h4⟩
   ·exact h.elim
  ·split at h
   ·rename_i zv hzv
    obtain⟨h1,rfl,h2,h3,h4,h5⟩:=Aj h
    have:=HM h1;subst this
    rw[A4] at h5
    exact⟨_,_,_,_,h5,U5 ho hs hzv h2 h3 h4⟩
   ·exact h.elim
 ·exact h.elim
def qOf:List D->Option Nat
 |[]=>none
 |.ptr q _::_=>some q
 |.arr q _ _::_=>some q
 |_::ds=>qOf ds
noncomputable def Mr(q:Nat):List D->Option (List D)
 |[]=>some []
 |.ptr q' off::ds=>cond (Nat.beq q' q) (match Mr q ds with
  |some dc=>some (.ptr 0 off::dc)
  |none=>none) none
 |.arr q' off len::ds=>cond (Nat.beq q' q) (match Mr q ds with
  |some dc=>some (.arr 0 off len::dc)
  |none=>none) none
 |d::ds=>cond d.pl (match Mr q ds with
  |some dc=>some (d::dc)
  |none=>none) none
theorem J2{α:Type}{b:Bool}{x:Option α}{r:α}(h:cond b x none=some r):b=true/\x=some r:=by cases b<;>simp_all
theorem Fx{q:Nat}:∀{ds dc:List D},Mr q ds=some dc->Dj q ds dc
 |[],dc,h=>by simp[Mr] at h;subst h;exact .nil
 |d::ds,dc,h=>by
  unfold Mr at h
  split at h
  ·rename_i e;simp at e
  ·rename_i q' off ds' e;simp only[HB] at e;obtain⟨rfl,rfl⟩:=e
   obtain⟨h1,h2⟩:=J2 h
   have:=HM h1;subst this
   split at h2
   ·rename_i dc' hd;simp at h2;subst h2;exact .ptr (Fx hd)
   ·simp at h2
  ·rename_i q' off len ds' e;simp only[HB] at e;obtain⟨rfl,rfl⟩:=e
   obtain⟨h1,h2⟩:=J2 h
   have:=HM h1;subst this
   split at h2
   ·rename_i dc' hd;simp at h2;subst h2;exact .arr (Fx hd)
   ·simp at h2
  ·rename_i d' ds' _ _ e;simp only[HB] at e;obtain⟨rfl,rfl⟩:=e
   obtain⟨h1,h2⟩:=J2 h
   split at h2
   ·rename_i dc' hd;simp at h2;subst h2;exact .pl h1 (Fx hd)
   ·simp at h2
noncomputable def QG(P:Program)(f:FuncId)(fs cs:List V)(ds:List D)(σ:St)(s:Sc)(K:KO):Prop:=match s with
 |.h (.ck k k' sz xs) s=>cond (CY σ.own k) (match Gu ds with
  |some ys=>Aa P f ((fs++ys++cs).map .v) ⟨[],[]⟩ (.acc k' xs) ⟨[],[(k',sz,xs)]⟩/\K s (.acc k xs) ⟨σ.H,(k,sz,xs)::σ.own⟩ .eff
  |none=>False) False
 |.h (.ckn k k' sz xs) s=>cond (CY σ.own k) (match Cy ds with
  |some ys=>Aa P f ((fs++ys++cs).map .v) ⟨[],[]⟩ (.acc k' xs) ⟨[],[(k',sz,xs)]⟩/\K s (.acc k xs) ⟨σ.H,(k,sz,xs)::σ.own⟩ .eff
  |none=>False) False
 |.h (.cj j Hc os len) s=>(match Gu ds,Hc[j]? with
  |some ys,some (some os')=>cond (D.pls os') (os=os'/\Aa P f ((fs++ys++cs).map .v) ⟨[],[]⟩ (.arr j 0 len) ⟨Hc,[]⟩/\A5 σ.H (some os') fun H=>K s (.arr σ.H.length 0 len) ⟨H,σ.own⟩ .eff) False
  |_,_=>False)
 |.h (.c1 os' d) s=>(match qOf ds with
  |some q=>(match σ.H[q]?,Mr q (ds.map D.un) with
   |some (some os),some dc=>cond (D.pls os&&D.pls os'&&d.pl) (Aa P f (fs.map .v++dc++cs.map .v) ⟨[some os],[]⟩ d ⟨[some os'],[]⟩/\BX σ.H q (some os') fun H=>K s d ⟨H,σ.own⟩ .eff) False
   |_,_=>False)
  |none=>False)
 |.h (.c1k k k' sz os' xs) s=>(match qOf ds with
  |some q=>(match σ.H[q]?,Mr q (ds.map D.un) with
   |some (some os),some dc=>cond (D.pls os&&D.pls os'&&CY σ.own k) (Aa P f (fs.map .v++dc++cs.map .v) ⟨[some os],[]⟩ (.acc k' xs) ⟨[some os'],[(k',sz,xs)]⟩/\BX σ.H q (some os') fun H=>K s (.acc k xs) ⟨H,(k,sz,xs)::σ.own⟩ .eff) False
   |_,_=>False)
  |none=>False)
 |s=>TD P {(default:Oper) with op:=.call { callee:=.value (.func f),args:= #[],argTypes:= #[]}} (.v (.fn f fs cs)::ds.map D.un) s fun s d=>K s d σ .pure
theorem QF{P:Program}{f:FuncId}{fs cs:List V}{ds:List D}{σ:St}{s:Sc}{K:KO}(h:QG P f fs cs ds σ s K){o:Oper}{c:Call}{fo:Operand}(ho:o.op=.call c)(hc:c.callee=.value fo):VOK P o (.v (.fn f fs cs)::ds) σ K:=by
 unfold QG at h
 split at h
 ·obtain⟨h1,h2⟩:=Aj h
  split at h2
  ·rename_i ys hy
   refine⟨_,_,_,_,h2.2,AM (fun g us hr=>?_) (G5 (ds:=ys.map .v) ho hc (C2 ys) _ (BT h1) (by simpa[IC] using h2.1))⟩
   simp only[Ab] at hr⊢
   obtain⟨u,us',e,h3,h4⟩:=hr
   exact⟨u,us',e,h3,D2 hy h4⟩
  ·exact h2.elim
 ·obtain⟨h1,h2⟩:=Aj h
  split at h2
  ·rename_i ys hy
   refine⟨_,_,_,_,h2.2,AM (fun g us hr=>?_) (G5 (ds:=ys.map .v) ho hc (C2 ys) _ (BT h1) (by simpa[IC] using h2.1))⟩
   simp only[Ab] at hr⊢
   obtain⟨u,us',e,h3,h4⟩:=hr
   exact⟨u,us',e,h3,Hk hy h4⟩
  ·exact h2.elim
 ·split at h
  ·rename_i ys os' hy hj
   obtain⟨h1,_,h2,h3⟩:=Aj h
   rw[A4] at h3
   refine⟨_,_,_,_,h3,AM (fun g us hr=>?_) (K8 (ds:=ys.map .v) ho hc (C2 ys) hj h1 (by simpa[IC] using h2))⟩
   simp only[Ab] at hr⊢
   obtain⟨u,us',e,h3,h4⟩:=hr
   exact⟨u,us',e,h3,D2 hy h4⟩
  ·exact h.elim
 ·split at h
  ·rename_i q hq
   split at h
   ·rename_i os dc hos hdc
    obtain⟨h1,h2,h3⟩:=Aj h
    simp only[Hy] at h1
    rw[AG] at h3
    refine⟨_,_,_,_,h3,AM (fun g us hr=>?_) (UB (ds:=ds.map D.un) ho hc hos h1.1.1 h1.1.2 (Fx hdc) h1.2 h2)⟩
    simp only[Ab] at hr⊢
    obtain⟨u,us',e,h3,h4⟩:=hr
    exact⟨u,us',e,h3,Ff h4⟩
   ·exact h.elim
  ·exact h.elim
 ·split at h
  ·rename_i q hq
   split at h
   ·rename_i os dc hos hdc
    obtain⟨h1,h2,h3⟩:=Aj h
    simp only[Hy] at h1
    rw[AG] at h3
    refine⟨_,_,_,_,h3,AM (fun g us hr=>?_) (LJ (ds:=ds.map D.un) ho hc hos h1.1.1 h1.1.2 (Fx hdc) _ (BT h1.2) h2)⟩
    simp only[Ab] at hr⊢
    obtain⟨u,us',e,h3,h4⟩:=hr
    exact⟨u,us',e,h3,Ff h4⟩
   ·exact h.elim
  ·exact h.elim
 ·have h':TI P f fs cs (ds.map D.un) _ (fun s d=>K s d σ .pure):=h
  obtain⟨s',d,h1,h2⟩:=N1 h' ho hc
  refine⟨_,_,_,_,h1,rfl,fun τ=>AM (fun g us hr=>?_) (h2 τ)⟩
  simp only[Ab] at hr⊢
  obtain⟨u,us',e,h3,h4⟩:=hr
  exact⟨u,us',e,h3,Ff h4⟩
noncomputable def M8(P:Program)(t:TypeId)(len:Nat)(ps:List (Nat×Operand))(ds:List D)(k:Nat)(σ:St)(s:Sc)(K:KO):Prop:=match BW P t with
 |some (_,sz,_,z)=>cond (CY σ.own k&&Nat.blt 0 sz) (match len with
  |0=>(match ps,ds with
   |[],[]=>K s (.acc k []) ⟨σ.H,(k,sz,[])::σ.own⟩ .eff
   |_,_=>False)
  |len+1=>(match Cy ds with
   |some xs=>cond (YN ps 0&&Nat.beq ps.length (len+1)&&z.isSome&&Nat.ble ((len+1)*sz) 1000&&Td sz xs) (K s (.acc k xs) ⟨σ.H,(k,sz,xs)::σ.own⟩ .eff) False
   |none=>False)) False
 |none=>False
theorem O8{P:Program}{t:TypeId}{len:Nat}{ps:Array (Nat×Operand)}{ds:List D}{k:Nat}{σ:St}{s:Sc}{K:KO}(h:M8 P t len ps.toList ds k σ s K){o:Oper}(ho:o.op=.buildSlice t len ps):VOK P o ds σ K:=by
 unfold M8 at h
 split at h
 ·rename_i e sz by' z hs
  obtain⟨h1,h2⟩:=Aj h
  rw[Hy] at h1
  have hp:=HR h1.2
  split at h2
  ·split at h2
   ·rename_i hps
    exact⟨_,_,_,_,h2,Jv ho (by apply Iz;simpa using hps) hs hp _ (BT h1.1)⟩
   ·exact h2.elim
  ·rename_i len
   split at h2
   ·rename_i xs hx
    obtain⟨h3,h4⟩:=Aj h2
    simp only[Hy] at h3
    obtain⟨⟨⟨⟨g1,g2⟩,g3⟩,g5⟩,g6⟩:=h3
    have hl:ps.size=len+1:=by have:=HM g2;simpa using this
    exact⟨_,_,_,_,h4,Fj ho (MG g1) hl hs g3 (Ep hx) (GZ g6) (by omega) hp (by simpa using g5) _ (BT h1.1)⟩
   ·exact h2.elim
 ·exact h.elim
noncomputable def vP(P:Program)(o:Oper)(ds:List D)(σ:St)(s:Sc)(K:KO):Prop:=TD P o (ds.map D.un) s fun s d=>K s d σ .pure
theorem M5{P:Program}{o:Oper}{ds:List D}{σ:St}{s:Sc}{K:KO}(h:vP P o ds σ s K):VOK P o ds σ K:=by
 obtain⟨s',d,h1,h2⟩:=TC h
 exact⟨_,_,_,_,h1,rfl,fun τ=>X3 (h2 τ)⟩
noncomputable def WT(P:Program)(t tn:TypeId)(n:Int)(σ:St)(s:Sc)(K:KO):Prop:=match BW P t,P.underlying tn with
 |some (_,sz,by',some z),some (.int _)=>cond (Nat.beq z.cells.size sz&&Nat.blt 0 sz) (0<n/\Ax n.toNat by'/\A5 σ.H (some []) fun H=>K s (.gro σ.H.length n.toNat sz) ⟨H,σ.own⟩ .eff) False
 |_,_=>False
theorem TK{P:Program}{t tn:TypeId}{kd:IntKind}{n:Int}{σ:St}{s:Sc}{K:KO}(h:WT P t tn n σ s K){o:Oper}{a b:Operand}(ho:o.op=.call { callee:=.builtin .append,args:= #[a,b],argTypes:= #[t,tn]}):VOK P o [.v .nils,.v (.int kd n)] σ K:=by
 unfold WT at h
 split at h
 ·rename_i e sz by' z k hs hu
  obtain⟨h1,h2,h3,h4⟩:=Aj h
  rw[Hy] at h1
  rw[A4] at h4
  exact⟨_,_,_,_,h4,OY ho hs (HM h1.1) (HR h1.2) hu h2 h3.1 h3.2⟩
 ·exact h.elim
noncomputable def Abh(P:Program)(t:TypeId)(s:Sc)(σ:St)(K:KO):Prop:=match P.underlying t with
 |some (.slice _)=>K s (.v (.int .i64 0)) σ .pure
 |_=>False
noncomputable def ZW(P:Program)(t:TypeId)(x:D)(i:Int)(σ:St)(s:Sc)(K:KO):Prop:=match x with
 |.v .nils=>(match P.underlying t with
  |some (.slice e)=>(match P.info? e with
   |some _=>i=0/\K s (.v .nils) σ .pure
   |none=>False)
  |_=>False)
 |.gro q _ sz=>(match s,BW P t,σ.H[q]? with
  |.h (.a k) s,some (_,sz',_,_),some (some _)=>cond (Nat.beq sz' sz&&Nat.blt 0 sz&&CY σ.own k) (i=0/\BX σ.H q none fun H=>K s (.acc k []) ⟨H,(k,sz,[])::σ.own⟩ .eff) False
  |_,_,_=>False)
 |_=>False
theorem Q3{P:Program}{t:TypeId}{x:D}{kd:IntKind}{i:Int}{σ:St}{s:Sc}{K:KO}(h:ZW P t x i σ s K){o:Oper}{a b:Operand}(ho:o.op=.slice t a none (some b) none):VOK P o [x,.v (.int kd i)] σ K:=by
 unfold ZW at h
 split at h
 ·split at h
  ·rename_i e hu
   split at h
   ·rename_i inf hi
    obtain⟨rfl,h⟩:=h
    exact⟨_,_,_,_,h,rfl,fun τ=>LE ho hu hi⟩
   ·exact h.elim
  ·exact h.elim
 ·rename_i q len sz
  split at h
  ·rename_i k s' e sz' by' z cs hs hq
   obtain⟨h1,rfl,h2⟩:=Aj h
   simp only[Hy] at h1
   have:=HM h1.1.1;subst this
   rw[AG] at h2
   exact⟨_,_,_,_,h2,OV ho hs (HR h1.1.2) hq _ (BT h1.2)⟩
  ·exact h.elim
 ·exact h.elim
section
variable {P : Program} {o : Oper} {σ : St}
theorem LG{t:TypeId}{x:Operand}{lo hi:Option Operand}(ho:o.op=.slice t x lo hi none){e:TypeId}{sz by':Nat}{z:Option Value}(hs:BW P t=some (e,sz,by',z)){q off len:Nat}
  (l h:Option (IntKind×Int)) (hlo:lo.isSome=l.isSome) (hhi:hi.isSome=h.isSome) {l' h':Nat} (hb:Ct len (l.map (·.2)) (h.map (·.2))=some (l',h')) (hlt:l'<len):
  Ap P o (.arr q off len::(En l++En h)) σ (.arr q (off+l'*sz) (h'-l')) σ:=by
 refine Ar fun E g ρ w hw hds=>?_
 obtain⟨i,hu,hi',hsz,_,_⟩:=A8 hs
 have hb2:=hb
 unfold Ct at hb2
 simp only at hb2
 split at hb2
 case isFalse=>simp at hb2
 rename_i hcond
 simp only[HU,Prod.mk.injEq] at hb2
 have main:∀u (lv hv:Option Value),ρ x=u->lv=l.map (fun p=>Value.int p.1 p.2)->hv=h.map (fun p=>Value.int p.1 p.2)->lo.map ρ=lv->hi.map ρ=hv->Ac g (.arr q off len) u->
   ∃u,(execOp ρ o).run P w=.ok (.value u) w/\Ac g (.arr q (off+l'*sz) (h'-l')) u:=by
  intro u lv hv eu el eh e1 e2 hr
  simp only[Ac] at hr⊢
  obtain⟨hq,cap,hc,rfl⟩:=hr
  refine⟨.slice (some ⟨g.β q,off+l'*sz,none⟩) (h'-l') (cap-l'),?_,hq,cap-l',by omega,rfl⟩
  have hbr:=DA (P:=P) w true len cap hc l h hb
  simp only[execOp,ho,eu,e1,e2,el,eh,IT,Instr.sliceAt,Instr.slice,Sem.run_bind,run_underlying hu,Result.andThen_ok,hbr]
  simp[sizeOf,typeInfo,hi',hsz,show ¬cap=l' by omega,Addr.add_lit]
 simp only[ho,Op.operands] at hds
 cases lo with
 |none=>
  cases l with
  |some _=>simp at hlo
  |none=>
   cases hi with
   |none=>
    cases h with
    |some _=>simp at hhi
    |none=>
     obtain⟨u,eu,h1⟩:=Av.1 (by simpa[En] using hds)
     simp at eu
     exact main u none none eu rfl rfl rfl rfl h1
   |some ho'=>
    cases h with
    |none=>simp at hhi
    |some p=>
     obtain⟨u,v,eu,h1,h2⟩:=Am.1 (by simpa[En] using hds)
     simp only[HB,HZ] at eu
     simp only[Ac,As] at h2
     exact main u none _ eu.1 rfl (by simp;rfl) rfl (by simp[eu.2,h2]) h1
 |some lo'=>
  cases l with
  |none=>simp at hlo
  |some lq=>
   cases hi with
   |none=>
    cases h with
    |some _=>simp at hhi
    |none=>
     obtain⟨u,v,eu,h1,h2⟩:=Am.1 (by simpa[En] using hds)
     simp only[HB,HZ] at eu
     simp only[Ac,As] at h2
     exact main u _ none eu.1 (by simp;rfl) rfl (by simp[eu.2,h2]) rfl h1
   |some ho'=>
    cases h with
    |none=>simp at hhi
    |some p=>
     obtain⟨u,v,v2,eu,h1,h2,h3⟩:=DW.1 (by simpa[En] using hds)
     simp only[HB,HZ] at eu
     simp only[Ac,As] at h2 h3
     exact main u _ _ eu.1 (by simp;rfl) (by simp;rfl) (by simp[eu.2.1,h2]) (by simp[eu.2.2,h3]) h1
end
noncomputable def ZV(P:Program)(t:TypeId)(q off n:Nat)(i:Int)(σ:St)(s:Sc)(K:KO):Prop:=match BW P t with
 |some (_,sz,_,_)=>0<=i/\i<(n:Int)/\K s (.arr q (off+i.toNat*sz) (n-i.toNat)) σ .pure
 |none=>False
theorem Q2{P:Program}{t:TypeId}{q off n:Nat}{kd:IntKind}{i:Int}{σ:St}{s:Sc}{K:KO}(h:ZV P t q off n i σ s K){o:Oper}{a b:Operand}(ho:o.op=.slice t a (some b) none none):VOK P o [.arr q off n,.v (.int kd i)] σ K:=by
 unfold ZV at h
 split at h
 ·rename_i e sz by' z hs
  obtain⟨h1,h2,h3⟩:=h
  refine⟨_,_,_,_,h3,rfl,fun τ=>?_⟩
  have hb:Ct n ((some (kd,i)).map (·.2)) ((none:Option (IntKind×Int)).map (·.2))=some (i.toNat,n):=by
   simp only[Ix,IT,Ct,IL,Option.getD_none]
   rw[HJ (by omega)]
   simp
  have:=LG (σ:=τ) (q:=q) (off:=off) ho hs (some (kd,i)) none rfl rfl hb (by omega)
  simpa[En] using this
 ·exact h.elim
theorem QT{g:Gh}{q n sz:Nat}{u:Value}(h:Ac g (.gro q n sz) u):Ac g (.arr q 0 n) u:=by
 simp only[Ac] at h⊢
 obtain⟨h1,cap,h2,_,h3⟩:=h
 exact⟨h1,cap,h2,h3⟩
theorem WJ{P:Program}{q n sz:Nat}{ds:List D}{o:Oper}{σ:St}{K:KO}(h:VOK P o (.arr q 0 n::ds) σ K):VOK P o (.gro q n sz::ds) σ K:=by
 have hsub:∀g us,Ab g (.gro q n sz::ds) us->Ab g (.arr q 0 n::ds) us:=fun g us hr=>by
  simp only[Ab] at hr⊢
  obtain⟨u,us',e,h1,h2⟩:=hr
  exact⟨u,us',e,QT h1,h2⟩
 obtain⟨s',d,σ',kd,h5,h6⟩:=h
 refine⟨s',d,σ',kd,h5,?_⟩
 cases kd with
 |pure=>exact⟨h6.1,fun τ=>AM hsub (h6.2 τ)⟩
 |load q off n=>exact⟨h6.1,h6.2.1,fun τ hτ=>AM hsub (h6.2.2 τ hτ)⟩
 |eff=>exact AM hsub h6
noncomputable def ZX(P:Program)(im:List Nat)(o:Oper)(ds:List D)(σ:St)(s:Sc)(K:KO):Prop:=match s with
 |.h (.o d σ') s=>Ap P o ds σ d σ'/\K s d σ' .eff
 |.h (.p d) s=>(∀τ,Ap P o ds τ d τ)/\K s d σ .pure
 |s=>match o.op with
  |.move _=>(match ds with
   |[d]=>K s d σ .pure
   |_=>False)
  |.assign _=>(match ds with
   |[d]=>K s d σ .pure
   |_=>False)
  |.pick _ _ _=>(match ds with
   |[.v (.bool b),d1,d2]=>Bool.rec (K s d2 σ .pure) (K s d1 σ .pure) b
   |_=>False)
  |.box _ _=>(match ds,o.dst with
   |[d],some t=>Bool.rec (cond d.sto (AH (B9 d) fun cs=>A5 σ.H (some cs) fun H=>K s (.ptr σ.H.length 0) ⟨H,σ.own⟩ .eff) False) (match d.toV with
    |some y=>K s (.v (.ref y)) σ .pure
    |none=>False) (Abj im t)
   |_,_=>False)
  |.alloc e=>(match ds,Gm P e with
   |[],some xs=>AH (xs.map .v) fun cs=>A5 σ.H (some cs) fun H=>K s (.ptr σ.H.length 0) ⟨H,σ.own⟩ .eff
   |_,_=>False)
  |.store t _ _=>(match ds with
   |[.ptr q off,d]=>Qz P t q off d σ s K
   |_=>False)
  |.load t _=>(match ds with
   |[.ptr q off]=>WP P t q off σ s K
   |ds=>vP P o ds σ s K)
  |.makeSlice t _ _=>(match ds with
   |[.v (.int k1 a),.v (.int k2 b)]=>WO P t k1 k2 a b σ s K
   |_=>False)
  |.build t ps=>(match s with
   |.h .g s=>cond (KH P t) (match PK P t,VI ps.toList ds with
    |some (z,places),some xs=>(match Pz places (z.map .v) xs with
     |some out=>AH out fun out=>K s (.dagg out) σ .pure
     |none=>False)
    |_,_=>False) False
   |s=>vP P o ds σ s K)
  |.buildSlice t len ps=>(match s with
   |.h (.a k) s=>M8 P t len ps.toList ds k σ s K
   |.h .g s=>(match len,ps.toList,ds,BW P t with
    |0,[],[],some (_,sz,_,_)=>A5 σ.H (some []) fun H=>K s (.gro σ.H.length 0 sz) ⟨H,σ.own⟩ .eff
    |_,_,_,_=>False)
   |s=>vP P o ds σ s K)
  |.slice t _ none (some _) none=>(match ds with
   |[.v .nils,.v (.int _ i)]=>ZW P t (.v .nils) i σ s K
   |[.gro q n sz,.v (.int _ i)]=>ZW P t (.gro q n sz) i σ s K
   |ds=>vP P o ds σ s K)
  |.slice t _ (some _) none none=>(match ds with
   |[.gro q n _,.v (.int _ i)]=>ZV P t q 0 n i σ s K
   |[.arr q off n,.v (.int _ i)]=>ZV P t q off n i σ s K
   |ds=>vP P o ds σ s K)
  |.call c=>(match c.callee,ds with
   |.builtin .append,[.v .nils,.v (.int _ n)]=>(match c.args.toList,c.argTypes.toList with
    |[_,_],[t,t']=>WT P t t' n σ s K
    |_,_=>False)
   |.builtin .append,[x,y]=>(match c.args.toList,c.argTypes.toList with
    |[_,_],[t,t']=>cond (Nat.beq t t') (Aai P t x y.un σ s K) False
    |_,_=>False)
   |.builtin .cap,[.v .nils]=>(match c.args.toList,c.argTypes.toList with
    |[_],[t]=>Abh P t s σ K
    |_,_=>False)
   |.value _,.v (.fn f fs cs)::ds=>QG P f fs cs ds σ s K
   |_,ds=>vP P o ds σ s K)
  |_=>vP P o ds σ s K
theorem Q5{P:Program}{im:List Nat}{o:Oper}{ds:List D}{σ:St}{s:Sc}{K:KO}(h:ZX P im o ds σ s K):VOK P o ds σ K:=by
 unfold ZX at h
 split at h
 ·exact⟨_,_,_,_,h.2,h.1⟩
 ·exact⟨_,_,_,_,h.2,rfl,h.1⟩
 ·split at h
  ·rename_i x ho
   split at h
   ·exact⟨_,_,_,_,h,rfl,fun τ=>Xv ho⟩
   ·exact h.elim
  ·rename_i x ho
   split at h
   ·exact⟨_,_,_,_,h,rfl,fun τ=>RV ho⟩
   ·exact h.elim
  ·rename_i x y z ho
   split at h
   ·rename_i b d1 d2
    cases b
    ·exact⟨_,_,_,_,h,rfl,fun τ=>RG ho (b:=false)⟩
    ·exact⟨_,_,_,_,h,rfl,fun τ=>RG ho (b:=true)⟩
   ·exact h.elim
  ·rename_i e x ho
   split at h
   ·rename_i d t _
    cases hm:Abj im t with
    |false=>
     rw[hm] at h
     obtain⟨h1,h2⟩:=Aj h
     rw[AE,A4] at h2
     exact⟨_,_,_,_,h2,Zb ho h1⟩
    |true=>
     rw[hm] at h
     simp only at h
     split at h
     ·rename_i y hy;exact⟨_,_,_,_,h,rfl,fun τ=>X0 ho hy⟩
     ·exact h.elim
   ·exact h.elim
  ·rename_i e ho
   split at h
   ·rename_i xs hz
    rw[AE,A4] at h
    exact⟨_,_,_,_,h,LL ho hz⟩
   ·exact h.elim
  ·rename_i t x y ho
   split at h
   ·exact Qy h ho
   ·exact h.elim
  ·rename_i t x ho
   split at h
   ·exact TF h ho
   ·exact M5 h
  ·rename_i t x y ho
   split at h
   ·exact TE h ho
   ·exact h.elim
  ·rename_i t ps ho
   split at h
   ·obtain⟨hst,h⟩:=Aj h
    split at h
    ·rename_i z places xs hb hx
     split at h
     ·rename_i out hf
      rw[AE] at h
      exact⟨_,_,_,_,h,rfl,fun τ=>RU ho hst hb hx hf⟩
     ·exact h.elim
    ·exact h.elim
   ·exact M5 h
  ·rename_i t len ps ho
   split at h
   ·exact O8 h ho
   ·split at h
    ·have hps:ps.toList=[]:=by assumption
     have hs:=(by assumption:BW P t=_)
     rw[A4] at h
     exact⟨_,_,_,_,h,Ju ho (by apply Iz;simpa using hps) hs⟩
    ·exact h.elim
   ·exact M5 h
  ·rename_i t a b ho
   split at h
   ·exact Q3 h ho
   ·exact Q3 h ho
   ·exact M5 h
  ·rename_i t a b ho
   split at h
   ·exact WJ (Q2 h ho)
   ·exact Q2 h ho
   ·exact M5 h
  ·rename_i c ho
   have mk2:∀{b:Builtin} {x y:Operand} {t t':TypeId},c.callee=.builtin b->c.args.toList=[x,y]->c.argTypes.toList=[t,t']->o.op=.call { callee:=.builtin b,args:= #[x,y],argTypes:= #[t,t']}:=by
    intro b x y t t' hc h1 h2
    rw[ho];cases c;simp only at hc h1 h2;subst hc
    congr 2
    ·apply Iz;simpa using h1
    ·apply Iz;simpa using h2
   split at h
   ·rename_i kd n hc
    split at h
    ·rename_i a b t t' h1 h2;exact TK h (mk2 hc h1 h2)
    ·exact h.elim
   ·rename_i x y _ hc
    split at h
    ·rename_i a b t t' h1 h2
     obtain⟨h3,h4⟩:=Aj h
     have:=HM h3;subst this
     have hoo:o.op=.call { callee:=.builtin .append,args:= #[a,b],argTypes:= #[t,t]}:=by
      rw[ho];cases c;simp only at hc h1 h2;subst hc
      congr 2
      ·apply Iz;simpa using h1
      ·apply Iz;simpa using h2
     obtain⟨s',d,σ',kd,h5,h6⟩:=WS h4 hoo
     have hsub:∀g us,Ab g [x,y] us->Ab g [x,y.un] us:=fun g us hr=>by
      rw[Am] at hr⊢
      obtain⟨u,v,e,h1,h2⟩:=hr
      exact⟨u,v,e,h1,K3 h2⟩
     refine⟨s',d,σ',kd,h5,?_⟩
     cases kd with
     |pure=>exact⟨h6.1,fun τ=>AM hsub (h6.2 τ)⟩
     |load q off n=>exact⟨h6.1,h6.2.1,fun τ hτ=>AM hsub (h6.2.2 τ hτ)⟩
     |eff=>exact AM hsub h6
    ·exact h.elim
   ·rename_i hc
    split at h
    ·rename_i x t h1 h2
     unfold Abh at h
     split at h
     ·rename_i e hu
      refine⟨_,_,_,_,h,rfl,fun τ=>OX (x:=x) (t:=t) ?_ hu⟩
      rw[ho];cases c;simp only at hc h1 h2;subst hc
      congr 2
      ·apply Iz;simpa using h1
      ·apply Iz;simpa using h2
     ·exact h.elim
    ·exact h.elim
   ·rename_i fo f fs cs ds hc;exact QF h ho hc
   ·exact M5 h
  ·exact M5 h
def ocQ:Op->Bool
 |.call c=>(match c.callee with|.value _=>true|_=>false)
 |_=>false
theorem Zd{o:Op}(h:ocQ o=true):∃(c:Call) (fo:Operand),o=.call c/\c.callee=.value fo:=by
 cases o<;>simp only[ocQ] at h<;>try (simp at h;done)
 rename_i c
 split at h
 ·rename_i fo hc;exact⟨c,fo,rfl,hc⟩
 ·simp at h
noncomputable def vOp(P:Program)(im:List Nat)(o:Oper)(ds:List D)(σ:St)(s:Sc)(K:KO):Prop:=match s with
 |.h (.oc d σ') s'=>Bool.rec (ZX P im o ds σ (.h (.oc d σ') s') K) ((∀(o:Oper) (c:Call) (fo:Operand),o.op=.call c->c.callee=.value fo->Ap P o ds σ d σ')/\K s' d σ' .eff) (ocQ o.op)
 |s=>ZX P im o ds σ s K
theorem Lh{P:Program}{im:List Nat}{o:Oper}{ds:List D}{σ:St}{s:Sc}{K:KO}(h:vOp P im o ds σ s K):VOK P o ds σ K:=by
 unfold vOp at h
 split at h
 ·rename_i d σ' s'
  cases hq:ocQ o.op with
  |true=>
   rw[hq] at h
   obtain⟨h1,h2⟩:=(h:(∀(o:Oper) (c:Call) (fo:Operand),o.op=.call c->c.callee=.value fo->Ap P o ds σ d σ')/\K s' d σ' .eff)
   obtain⟨c,fo,e1,e2⟩:=Zd hq
   exact⟨_,_,_,_,h2,h1 _ _ _ e1 e2⟩
  |false=>
   rw[hq] at h
   exact Q5 h
 ·exact Q5 h
abbrev shG(g:Gh)(m:Nat)(ts:List Nat):Gh:={ g with n:=m,ι:=fun k j=>if ts.contains k then g.ι k j else none }
mutual
theorem Rj{g:Gh}{m:Nat}{ts:List Nat}:∀(d:D) (u:Value),d.okN m ts=true->Ac g d u->Ac (shG g m ts) d u
 |.v x,u,_,h=>by simpa only[Ac] using h
 |.acc k xs,u,hk,h=>by
  simp only[D.okN] at hk
  simp only[Ac] at h⊢
  exact⟨h.1,by rw[HJ hk];exact h.2⟩
 |.ptr o f,u,hk,h=>by
  simp only[D.okN,H8] at hk
  simp only[Ac] at h⊢
  exact⟨hk,h.2⟩
 |.arr o f l,u,hk,h=>by
  simp only[D.okN,H8] at hk
  simp only[Ac] at h⊢
  exact⟨hk,h.2⟩
 |.gro o f l,u,hk,h=>by
  simp only[D.okN,H8] at hk
  simp only[Ac] at h⊢
  exact⟨hk,h.2⟩
 |.raw x,u,_,h=>by simpa only[Ac] using h
 |.err,u,_,h=>by simpa only[Ac] using h
 |.rv x u0,u,_,h=>by simpa only[Ac] using h
 |.dagg cs,u,hk,h=>by
  simp only[D.okN] at hk
  simp only[Ac] at h⊢
  obtain⟨us,e,h1⟩:=h
  exact⟨us,e,DD cs us hk h1⟩
 |.dfn f fs cs,u,hk,h=>by
  simp only[D.okN,Hy] at hk
  simp only[Ac] at h⊢
  obtain⟨us,vs,e,h1,h2⟩:=h
  exact⟨us,vs,e,DD fs us hk.1 h1,DD cs vs hk.2 h2⟩
 |.tup ds,u,hk,h=>by
  simp only[D.okN] at hk
  simp only[Ac] at h⊢
  obtain⟨us,e,h1⟩:=h
  exact⟨us,e,DD ds us hk h1⟩
 |.undef,u,_,_=>by simp only[Ac]
theorem DD{g:Gh}{m:Nat}{ts:List Nat}:∀(ds:List D) (us:List Value),D.okNs m ts ds=true->Ab g ds us->Ab (shG g m ts) ds us
 |[],us,_,h=>by simpa only[Ab] using h
 |d::ds,us,hk,h=>by
  simp only[D.okNs,Hy] at hk
  simp only[Ab] at h⊢
  obtain⟨u,us',e,h1,h2⟩:=h
  exact⟨u,us',e,Rj d u hk.1 h1,DD ds us' hk.2 h2⟩
end
theorem Y4{E:Ent}{g:Gh}{σ σ':St}{w:World}(hw:WI E g σ w){m:Nat}(hH:σ'.H=σ.H.take m)(hm:m<=σ.H.length)(hE:E.g.n<=m)(hc:okH m (σ'.own.map (·.1)) σ'.H=true)(hown:σ'.own.Sublist σ.own):
  WI E (shG g m (σ'.own.map (·.1))) σ' w:=by
 have get:∀(i:Nat) (cs:List D),σ'.H[i]?=some (some cs)->σ.H[i]?=some (some cs)/\i<m:=by
  intro i cs hi
  rw[hH,IJ] at hi
  split at hi
  ·exact⟨hi,by assumption⟩
  ·simp at hi
 have hι:∀x∈σ'.own,(if (σ'.own.map (·.1)).contains x.1 then g.ι x.1 x.2.2.length else none)=g.ι x.1 x.2.2.length:=fun x hx=>HJ (by rw[List.contains_iff_mem];exact Ie.2 ⟨x,hx,rfl⟩)
 refine{ rep:=⟨?_,hw.rep.mem,fun i cs hi=>?_,fun i j cs ds hi hj=>hw.rep.inj i j cs ds (get i cs hi).1 (get j ds hj).1,fun k sz xs hx=>?_,?_,fun x hx y hy hne u u' hu hu' b hb=>?_,fun x hx u hu b hb i cs hi=>?_,fun k hk j=>?_,hw.rep.gl,hw.rep.gw⟩,M:=hw.M,size:=hw.size,keep:=hw.keep,os:=hw.os,tape:=hw.tape,output:=hw.output,nE:=hE,βE:=fun o ho=>hw.βE o ho,κE:=fun o ho=>hw.κE o ho,objs:=fun i cs hi=>hw.objs i cs (get i cs hi).1,owns:=fun x hx u hu b hb=>?_,drawn:=hw.drawn }
 ·simp[hH];omega
 ·obtain⟨us,rest,e,h1,h2,h3,h4⟩:=hw.rep.obj i cs (get i cs hi).1
  exact⟨us,rest,e,h1,DD cs us (KC hc hi) h2,h3,h4⟩
 ·obtain⟨h0,u,hu,h1,h2,h3⟩:=hw.rep.own k sz xs (hown.subset hx)
  refine⟨h0,u,(hι _ hx).trans hu,h1,h2,fun j hj=>?_⟩
  simp only
  split
  ·exact h3 j hj
  ·rfl
 ·exact(hown.map _).nodup hw.rep.tags
 ·exact hw.rep.sep x (hown.subset hx) y (hown.subset hy) hne u u' ((hι x hx).symm.trans hu) ((hι y hy).symm.trans hu') b hb
 ·exact hw.rep.ownObj x (hown.subset hx) u ((hι x hx).symm.trans hu) b hb i cs (get i cs hi).1
 ·simp only
  rw[HF]
  intro h
  rw[List.contains_iff_mem] at h
  obtain⟨x,hx,e⟩:=Ie.1 h
  exact hk x hx e
 ·exact hw.owns x (hown.subset hx) u ((hι x hx).symm.trans hu) b hb
abbrev CN(m:Nat)(E0 E:Ent):Prop:=E0=E/\E.g.n<=m
theorem MV(m:Nat):FS (CN m):=⟨fun h _ _ _ hw=>by rw[h.1];exact hw⟩
section
variable {P : Program} {R : List D -> St -> Prop} {k : List KI} {env : List D} {σ : St}
theorem YI{C:Ent->Ent->Prop}{m:Nat}(hCm:∀E0 E,C E0 E->E.g.n<=m){σ':St}{h:Nat}(hH:σ'.H=σ.H.take h)(hh:h<=σ.H.length)(hm:m<=h)(he:D.okNs h (σ'.own.map (·.1)) env=true)(hc:okH h (σ'.own.map (·.1)) σ'.H=true)(hown:σ'.own.Sublist σ.own)(hr:A9 C P R k env σ'):A9 C P R k env σ:=fun E0 E g a w B hC hf hB=>
 hr E0 E _ a w B hC ⟨Y4 hf.wi hH hh (Is (hCm _ _ hC) hm) hc hown,DD _ _ he hf.env,hf.defers⟩ hB
end
noncomputable def Dz{β:Type}(l:List D)(i:Nat)(k:D->β):β:=
 List.rec (motive:=fun _=>Nat->(D->β)->β) (fun _ k=>k .undef) (fun a _ ih i k=>Nat.rec (motive:=fun _=>β) (k a) (fun j _=>ih j k) i) l i k
theorem Cr{β:Type}:∀(l:List D) (i:Nat) (k:D->β),Dz l i k=k (l.getD i .undef)
 |[],_,_=>rfl
 |a::l,0,k=>rfl
 |a::l,i+1,k=>by
  have h:Dz (a::l) (i+1) k=Dz l i k:=rfl
  rw[h,Cr l];simp
noncomputable def evK{β:Type}(env:List D)(x:Operand)(K:D->β):β:=match x with
 |.tmp t=>Dz env t K
 |x=>K (evN env x)
theorem ZF{β:Type}(env:List D)(x:Operand)(K:D->β):evK env x K=K (evN env x):=by
 cases x<;>simp[evK,Cr,evN]
noncomputable def GJ{β:Type}(env:List D)(l:List Operand)(K:List D->β):β:=
 List.rec (motive:=fun _=>(List D->β)->β) (fun K=>K []) (fun x _ ih K=>evK env x fun d=>ih fun ds=>K (d::ds)) l K
theorem GI{β:Type}(env:List D):∀(l:List Operand) (K:List D->β),GJ env l K=K (l.map (evN env))
 |[],_=>rfl
 |x::l,K=>by
  have h:GJ env (x::l) K=evK env x fun d=>GJ env l fun ds=>K (d::ds):=rfl
  rw[h,ZF,GI env l];rfl
theorem getD_some{env:List D}{t:Nat}{d:D}(h:env.getD t .undef=d)(hd:d≠ .undef):env[t]?=some d:=by
 rw[H6] at h
 cases e:env[t]? with
 |none=>rw[e] at h;exact absurd h.symm hd
 |some x=>rw[e] at h;simpa using h
theorem DSL.refl:∀l:List D,DSL l l
 |[]=>.nil
 |d::l=>.cons (.same d) (DSL.refl l)
theorem DSL.set{l:List D}{t:Nat}{d e:D}(h:l[t]?=some d)(hs:DS d e):DSL l (l.set t e):=by
 induction l generalizing t with
 |nil=>simp at h
 |cons a l ih=>
  cases t with
  |zero=>simp at h;subst h;exact .cons hs (DSL.refl l)
  |succ t=>exact .cons (.same a) (ih (by simpa using h))
theorem GO{env:List D}{σ:St}:Cv env σ env σ:=fun E g a w hf=>⟨g,hf⟩
theorem Oj{L:Nat->Option (List D)}:∀{ds ds':List D} {s n:Nat} {d:D} {x:V},Fz L ds ds'->ds[s]?=some d->EK L n d x->Fz L ds (ds'.set s (.v x))
 |_,_,s,n,d,x,.nil,h,hl=>by simp at h
 |_,_,0,n,d,x,.keep hs,h,hl=>by simp at h;subst h;exact .view hl hs
 |_,_,0,n,d,x,.view _ hs,h,hl=>by simp at h;subst h;exact .view hl hs
 |_,_,s+1,n,d,x,.keep hs,h,hl=>by simp only[List.set_cons_succ];exact .keep (Oj hs (by simpa using h) hl)
 |_,_,s+1,n,d,x,.view h' hs,h,hl=>by simp only[List.set_cons_succ];exact .view h' (Oj hs (by simpa using h) hl)
theorem Fz.refl{L:Nat->Option (List D)}:∀l:List D,Fz L l l
 |[]=>.nil
 |_::l=>.keep (Fz.refl l)
theorem Ln:∀{cs:List D} {xs:List V},Cy cs=some xs->∀{j:Nat} {y:V},xs[j]?=some y->∃c,cs[j]?=some c/\c.toV=some y
 |[],xs,h,j,y,hy=>by simp[Cy] at h;subst h;simp at hy
 |c::cs,xs,h,j,y,hy=>by
  cases c<;>simp only[Cy] at h<;>first|(split at h<;>first|(rename_i ys h1;simp at h;subst h;cases j with|zero=>(simp at hy;subst hy;exact⟨_,rfl,rfl⟩)|succ j=>(obtain⟨c,h2,h3⟩:=Ln h1 (j:=j) (by simpa using hy);exact⟨c,by simpa using h2,h3⟩))|simp at h)|simp at h
theorem US{H:List (Option (List D))}{q:Nat}{cs:List D}{xs:List V}(hq:H[q]?=some (some cs))(hx:Cy cs=some xs)(ha:xs.all (fun x=> !x.isAgg)=true):EK (EF [q] H) 1 (.ptr q 0) (.ref (.agg xs)):=by
 refine .inr (.inl ⟨q,0,cs,.agg xs,rfl,rfl,by simp[EF,hq],fun j y hy=>?_⟩)
 have hm:=H4 (show xs[j]?=some y from hy)
 obtain⟨c,h1,h2⟩:=Ln hx (show xs[j]?=some y from hy)
 exact⟨by simpa using Ii.1 ha y hm,c,by rw[Ih];exact h1,c,.same,h2⟩
theorem UR{H:List (Option (List D))}{q:Nat}{c:D}{x:V}(hq:H[q]?=some (some [c]))(hx:c.toV=some x)(ha:x.isAgg=false):EK (EF [q] H) 1 (.ptr q 0) (.ref x):=by
 refine .inr (.inl ⟨q,0,[c],x,rfl,rfl,by simp[EF,hq],fun j y hy=>?_⟩)
 have hc:x.cellsV=[x]:=by cases x<;>simp_all [V.cellsV,V.isAgg]
 rw[hc] at hy
 cases j with
 |zero=>simp at hy;subst hy;exact⟨ha,c,rfl,c,.same,hx⟩
 |succ j=>simp at hy
noncomputable def MF(q:Nat)(x:V)(ss:List Nat)(env:List D)(K:List D->Prop):Prop:=
 List.rec (motive:=fun _=>List D->Prop) (fun env=>K env) (fun s _ ih env=>Dz env s fun d=>match d with
  |.ptr q' 0=>cond (Nat.beq q' q) (BX env s (.v (.ref x)) ih) False
  |_=>False) ss env
theorem K0{L:Nat->Option (List D)}{q:Nat}{x:V}(hl:EK L 1 (.ptr q 0) (.ref x)){K:List D->Prop}{env0:List D}:∀{ss:List Nat} {env:List D},Fz L env0 env->(∀t:Nat,env[t]?=env0[t]?∨env[t]?=some (D.v (.ref x)))->MF q x ss env K->∃env',K env'/\Fz L env0 env'
 |[],env,hz,_,h=>⟨env,h,hz⟩
 |s::ss,env,hz,hi,h=>by
  have e:MF q x (s::ss) env K=Dz env s fun d=>match d with
   |.ptr q' 0=>cond (Nat.beq q' q) (BX env s (.v (.ref x)) fun env=>MF q x ss env K) False
   |_=>False:=rfl
  rw[e,Cr] at h
  split at h
  ·rename_i q' hd
   obtain⟨h1,h2⟩:=Aj h
   have:=HM h1;subst this
   rw[AG] at h2
   have hs:=getD_some hd (by simp)
   have hs0:env0[s]?=some (.ptr q' 0):=by
    rcases hi s with h3|h3
    ·rw[←h3];exact hs
    ·rw[hs] at h3;simp at h3
   refine K0 hl (Oj hz hs0 hl) (fun t=>?_) h2
   rw[List.getElem?_set]
   split
   ·rename_i e;subst e
    rw[HJ (H0.1 hs).1];exact .inr rfl
   ·exact hi t
  ·exact h.elim
noncomputable def pre(r i:Nat)(s:Sc)(env:List D)(σ:St)(K:Sc->List D->St->Prop):Prop:=
 Sc.rec (motive:=fun _=>List D->St->Prop)
  (fun env σ=>K .z env σ)
  (fun _ ih env σ=>∃a,ih a env σ)
  (fun s t _ _ env σ=>K (.b s t) env σ)
  (fun h s ih env σ=>match h with
   |.q r' i'=>cond (Nat.beq r r'&&Nat.beq i i') (ih env σ) (K (.h (.q r' i') s) env σ)
   |.un t=>Dz env t fun d=>match d with
    |.acc _ xs=>BX env t (.v (.list xs)) fun env=>ih env σ
    |.rv x _=>BX env t (.v x) fun env=>ih env σ
    |_=>False
   |.ga t=>Dz env t fun d=>match d with
    |.gro q n _=>BX env t (.arr q 0 n) fun env=>ih env σ
    |_=>False
   |.fa q ss=>match σ.H[q]? with
    |some (some cs)=>(match Cy cs with
     |some xs=>cond (xs.all fun x=> !x.isAgg) (MF q (.agg xs) ss env fun env=>BX σ.H q none fun H=>ih env ⟨H,σ.own⟩) False
     |none=>False)
    |_=>False
   |.f1 q ss=>match σ.H[q]? with
    |some (some [c])=>(match c.toV with
     |some x=>cond (!x.isAgg) (MF q x ss env fun env=>BX σ.H q none fun H=>ih env ⟨H,σ.own⟩) False
     |none=>False)
    |_=>False
   |.fl q t xs=>match σ.H[q]? with
    |some (some cs)=>Dz env t fun d=>match d with
     |.arr q' 0 n=>cond (Nat.beq q' q) (cs=xs.map .v/\n=xs.length/\BX env t (.v (.list xs)) fun env=>BX σ.H q none fun H=>ih env ⟨H,σ.own⟩) False
     |_=>False
    |_=>False
   |.cl q j k sz=>match σ.H[q]? with
    |some (some cs)=>(match cs[j]? with
     |some (.v .nils)=>cond (CY σ.own k&&Nat.blt 0 sz) (BX cs j (.acc k []) fun cs=>BX σ.H q (some cs) fun H=>ih env ⟨H,(k,sz,[])::σ.own⟩) False
     |_=>False)
    |_=>False
   |.nw t k sz=>Dz env t fun d=>match d with
    |.v .nils=>cond (CY σ.own k&&Nat.blt 0 sz) (BX env t (.acc k []) fun env=>ih env ⟨σ.H,(k,sz,[])::σ.own⟩) False
    |_=>False
   |.cs σ'=>(AH σ.H fun H=>AH σ.own fun own=>∀e:List D,Cv e ⟨H,own⟩ e σ')/\ih env σ'
   |.ct t d σ'=>Dz env t fun d0=>match d0 with
    |.undef=>False
    |d0=>(∀e:List D,e[t]?=some d0->Cv e σ (e.set t d) σ')/\BX env t d fun env=>ih env σ'
   |h=>K (.h h s) env σ) s env σ
theorem AaT{env:List D}{σ:St}{t:Nat}{x:V}{u:Value}(ht:env[t]?=some (.rv x u)):Cv env σ (env.set t (.v x)) σ:=fun E g a w hf=>by
 obtain⟨v,hv,hr⟩:=BJ hf.env ht
 simp only[Ac] at hr
 refine⟨g,hf.wi,?_,hf.defers⟩
 have:=CU hf.env t (d:=.v x) (u:=v) (by simp only[Ac];rw[hr.1];exact hr.2)
 rwa[Er hv] at this
theorem AaU{env:List D}{σ:St}{t k sz:Nat}(ht:env[t]?=some (.v .nils))(hk:∀x∈σ.own,x.1≠k)(hsz:0<sz):Cv env σ (env.set t (.acc k [])) ⟨σ.H,(k,sz,[])::σ.own⟩:=fun E g a w hf=>by
 obtain⟨hw1,hle1⟩:=hf.wi.addOwn (k:=k) (sz:=sz) (xs:=[]) (u:=.slice none 0 0) hk ⟨hsz,by simp⟩ (Dd _) (.inl ⟨none,rfl⟩) (fun b hb=>by simp[B8] at hb)
 obtain⟨u,hu,hr⟩:=BJ hf.env ht
 simp only[Ac,BQ] at hr
 subst hr
 refine⟨_,hw1,?_,hf.defers⟩
 have:=CU (Ab.mono hle1 _ _ hf.env) t (d:=.acc k []) (u:=.slice none 0 0) (by simp only[Ac];exact⟨Dd _,by simp⟩)
 rwa[Er hu] at this
theorem AaV{env:List D}{σ:St}{q t:Nat}{xs:List V}(hq:σ.H[q]?=some (some (xs.map .v)))(ht:env[t]?=some (.arr q 0 xs.length)):Cv env σ (env.set t (.v (.list xs))) ⟨σ.H.set q none,σ.own⟩:=fun E g a w hf=>by
 have hone:∀x∈xs,x.isAgg=false:=fun x hx=>by
  obtain⟨_,_,_,_,_,h1,_⟩:=hf.wi.rep.obj q _ hq
  have:=h1 (.v x) (Ie.2 ⟨x,hx,rfl⟩)
  simpa[D.one] using this
 have hfl:xs.flatMap V.cellsV=xs:=by
  clear hq ht hf
  induction xs with
  |nil=>rfl
  |cons x xs ih=>
   have hx:=hone x (by simp)
   have hc:x.cellsV=[x]:=by cases x<;>simp_all [V.cellsV,V.isAgg]
   rw[List.flatMap_cons,hc,ih fun y hy=>hone y (by simp[hy])];rfl
 have hz:Fz (EF [q] σ.H) env (env.set t (.v (.list xs))):=by
  refine Oj (n:=1) (Fz.refl env) ht (.inr (.inr ⟨q,0,1,xs.map .v,xs,.inl rfl,rfl,by omega,fun y hy=>?_,by simp[EF,hq],fun j y hy=>?_⟩))
  ·have:=hone y hy;cases y<;>simp_all [V.size,V.isAgg]
  ·rw[hfl] at hy
   exact⟨hone y (H4 hy),.v y,by rw[Ih,Ic,hy];rfl,.v y,.same,rfl⟩
 obtain⟨g',hf'⟩:=SK [q] hz E g a w hf
 exact⟨g',by simpa[GA] using hf'⟩
theorem LB{r i:Nat}{K:Sc->List D->St->Prop}:∀{s:Sc} {env:List D} {σ:St},pre r i s env σ K->∃s' env' σ',K s' env' σ'/\Cv env σ env' σ'/\env'.length=env.length
 |.z,env,σ,h=>⟨_,_,_,h,GO,rfl⟩
 |.e f,env,σ,h=>by
  obtain⟨a,h⟩:=(h:∃a,pre r i (f a) env σ K)
  exact LB h
 |.b s t,env,σ,h=>⟨_,_,_,h,GO,rfl⟩
 |.h hh s,env,σ,h=>by
  have tr:∀{env1:List D} {σ1:St},Cv env σ env1 σ1->env1.length=env.length->pre r i s env1 σ1 K->∃s' env' σ',K s' env' σ'/\Cv env σ env' σ'/\env'.length=env.length:=by
   intro env1 σ1 hc hl hp
   obtain⟨s',env',σ',h1,h2,h3⟩:=LB hp
   exact⟨s',env',σ',h1,fun E g a w hf=>by obtain⟨g1,hf1⟩:=hc E g a w hf;exact h2 E g1 a w hf1,h3.trans hl⟩
  cases hh with
  |q r' i'=>
   have h':cond (Nat.beq r r'&&Nat.beq i i') (pre r i s env σ K) (K (.h (.q r' i') s) env σ):=h
   cases hb:(Nat.beq r r'&&Nat.beq i i') with
   |true=>rw[hb] at h';exact tr GO rfl h'
   |false=>rw[hb] at h';exact⟨_,_,_,h',GO,rfl⟩
  |un t=>
   have h':Dz env t fun d=>match d with
    |.acc _ xs=>BX env t (.v (.list xs)) fun env=>pre r i s env σ K
    |.rv x _=>BX env t (.v x) fun env=>pre r i s env σ K
    |_=>False:=h
   rw[Cr] at h'
   split at h'
   ·rename_i k xs hd
    rw[AG] at h'
    exact tr (W1 (DSL.set (getD_some hd (by simp)) .acc)) (by simp) h'
   ·rename_i x u hd
    rw[AG] at h'
    exact tr (AaT (getD_some hd (by simp))) (by simp) h'
   ·exact h'.elim
  |ga t=>
   have h':Dz env t fun d=>match d with
    |.gro q n _=>BX env t (.arr q 0 n) fun env=>pre r i s env σ K
    |_=>False:=h
   rw[Cr] at h'
   split at h'
   ·rename_i q n sz hd
    rw[AG] at h'
    exact tr (W1 (DSL.set (getD_some hd (by simp)) .gro)) (by simp) h'
   ·exact h'.elim
  |fa q ss=>
   have h':match σ.H[q]? with
    |some (some cs)=>(match Cy cs with
     |some xs=>cond (xs.all fun x=> !x.isAgg) (MF q (.agg xs) ss env fun env=>BX σ.H q none fun H=>pre r i s env ⟨H,σ.own⟩ K) False
     |none=>False)
    |_=>False:=h
   split at h'
   ·rename_i cs hq
    split at h'
    ·rename_i xs hx
     obtain⟨h1,h2⟩:=Aj h'
     obtain⟨env',h3,h4⟩:=K0 (env0:=env) (US hq hx h1) (Fz.refl env) (fun t=>.inl rfl) h2
     rw[AG] at h3
     have hl:env'.length=env.length:=by
      have:∀{a b:List D} {L},Fz L a b->b.length=a.length:=by
       intro a b L hz;induction hz<;>simp_all
      exact this h4
     exact tr (by have:=SK [q] h4;simpa[GA] using this) hl h3
    ·exact h'.elim
   ·exact h'.elim
  |f1 q ss=>
   have h':match σ.H[q]? with
    |some (some [c])=>(match c.toV with
     |some x=>cond (!x.isAgg) (MF q x ss env fun env=>BX σ.H q none fun H=>pre r i s env ⟨H,σ.own⟩ K) False
     |none=>False)
    |_=>False:=h
   split at h'
   ·rename_i c hq
    split at h'
    ·rename_i x hx
     obtain⟨h1,h2⟩:=Aj h'
     obtain⟨env',h3,h4⟩:=K0 (env0:=env) (UR hq hx (by simpa using h1)) (Fz.refl env) (fun t=>.inl rfl) h2
     rw[AG] at h3
     have hl:env'.length=env.length:=by
      have:∀{a b:List D} {L},Fz L a b->b.length=a.length:=by
       intro a b L hz;induction hz<;>simp_all
      exact this h4
     exact tr (by have:=SK [q] h4;simpa[GA] using this) hl h3
    ·exact h'.elim
   ·exact h'.elim
  |fl q t xs=>
   have h':match σ.H[q]? with
    |some (some cs)=>Dz env t fun d=>match d with
     |.arr q' 0 n=>cond (Nat.beq q' q) (cs=xs.map .v/\n=xs.length/\BX env t (.v (.list xs)) fun env=>BX σ.H q none fun H=>pre r i s env ⟨H,σ.own⟩ K) False
     |_=>False
    |_=>False:=h
   split at h'
   ·rename_i cs hq
    rw[Cr] at h'
    split at h'
    ·rename_i q' n hd
     obtain⟨h1,rfl,rfl,h2⟩:=Aj h'
     have:=HM h1;subst this
     rw[AG,AG] at h2
     exact tr (AaV hq (getD_some hd (by simp))) (by simp) h2
    ·exact h'.elim
   ·exact h'.elim
  |cl q j k sz=>
   have h':match σ.H[q]? with
    |some (some cs)=>(match cs[j]? with
     |some (.v .nils)=>cond (CY σ.own k&&Nat.blt 0 sz) (BX cs j (.acc k []) fun cs=>BX σ.H q (some cs) fun H=>pre r i s env ⟨H,(k,sz,[])::σ.own⟩ K) False
     |_=>False)
    |_=>False:=h
   split at h'
   ·rename_i cs hq
    split at h'
    ·rename_i hj
     obtain⟨h1,h2⟩:=Aj h'
     rw[Hy] at h1
     rw[AG,AG] at h2
     exact tr (Vz q j k sz hq hj (BT h1.1) (HR h1.2)) rfl h2
    ·exact h'.elim
   ·exact h'.elim
  |nw t k sz=>
   have h':Dz env t fun d=>match d with
    |.v .nils=>cond (CY σ.own k&&Nat.blt 0 sz) (BX env t (.acc k []) fun env=>pre r i s env ⟨σ.H,(k,sz,[])::σ.own⟩ K) False
    |_=>False:=h
   rw[Cr] at h'
   split at h'
   ·rename_i hd
    obtain⟨h1,h2⟩:=Aj h'
    rw[Hy] at h1
    rw[AG] at h2
    exact tr (AaU (getD_some hd (by simp)) (BT h1.1) (HR h1.2)) (by simp) h2
   ·exact h'.elim
  |cs σ'=>
   obtain⟨h1,h2⟩:=(h:(AH σ.H fun H=>AH σ.own fun own=>∀e:List D,Cv e ⟨H,own⟩ e σ')/\pre r i s env σ' K)
   rw[AE,AE] at h1
   exact tr (h1 env) rfl h2
  |ct t d σ'=>
   have h':Dz env t fun d0=>match d0 with
    |.undef=>False
    |d0=>(∀e:List D,e[t]?=some d0->Cv e σ (e.set t d) σ')/\BX env t d fun env=>pre r i s env σ' K:=h
   rw[Cr] at h'
   split at h'
   ·exact h'.elim
   ·rename_i hne
    rw[AG] at h'
    exact tr (h'.1 env (getD_some rfl (fun e=>hne e))) (by simp) h'.2
  |_=>exact⟨_,_,_,h,GO,rfl⟩
noncomputable def upd(env:List D)(t:Option Nat)(b:Bool)(K:List D->Prop):Prop:=match t with
 |some t=>BX env t (.v (.bool b)) K
 |none=>K env
noncomputable def TJ(s:Sc)(b:Bool)(t:Option Nat)(env:List D)(K:Bool->Sc->List D->Prop):Prop:=match s with
 |.b s1 s2=>(b=true->upd env t true fun env=>K true s1 env)/\(b=false->upd env t false fun env=>K false s2 env)
 |.h .t s=>b=true/\upd env t true fun env=>K true s env
 |.h .f s=>b=false/\upd env t false fun env=>K false s env
 |.h .k s=>K b s env
 |s=>K b s env
theorem Ub{env:List D}{t:Nat}{b:Bool}(h:env[t]?=some (.v (.bool b))):env.set t (.v (.bool b))=env:=Er h
theorem N2{s:Sc}{b:Bool}{t:Option Nat}{env:List D}{K:Bool->Sc->List D->Prop}(h:TJ s b t env K)(ht:∀t',t=some t'->env[t']?=some (.v (.bool b))):∃s',K b s' env:=by
 have up:∀{b':Bool} {K':List D->Prop},b=b'->upd env t b' K'->K' env:=by
  intro b' K' e hu
  subst e
  cases t with
  |none=>exact hu
  |some t=>simp only[upd,AG] at hu;rwa[Ub (ht t rfl)] at hu
 unfold TJ at h
 split at h
 ·cases b with
  |true=>exact⟨_,up rfl (h.1 rfl)⟩
  |false=>exact⟨_,up rfl (h.2 rfl)⟩
 ·obtain⟨rfl,h⟩:=h;exact⟨_,up rfl h⟩
 ·obtain⟨rfl,h⟩:=h;exact⟨_,up rfl h⟩
 ·exact⟨_,h⟩
 ·exact⟨_,h⟩
noncomputable def YH(ops:Array Oper)(i j:Nat):Bool:=(ops.toList.take i).any fun o=>match o.guard with
 |some (j',_)=>Nat.beq j' j
 |none=>false
noncomputable def E4(ops:Array Oper)(i:Nat)(o:Oper)(s:Sc)(env:List D)(K:Bool->Sc->List D->Prop):Prop:=match o.guard with
 |none=>K true s env
 |some (j,want)=>match (ops[j]?).bind (·.dst) with
  |some t=>Dz env t fun d=>match d with
   |.v (.bool b)=>Bool.rec (TJ s b (some t) env fun b s env=>K (b==want) s env) (K (b==want) s env) (YH ops i j)
   |.tup _=>K false s env
   |_=>False
  |none=>False
theorem Hi{ops:Array Oper}{i:Nat}{o:Oper}{s:Sc}{env:List D}{K:Bool->Sc->List D->Prop}(h:E4 ops i o s env K):∃b s',K b s' env/\BP env ops o=some b:=by
 unfold E4 at h
 unfold BP
 split at h
 ·rename_i hg;exact⟨true,s,h,by simp[hg]⟩
 ·rename_i j want hg
  split at h
  ·rename_i t hj
   rw[Cr] at h
   split at h
   ·rename_i b hd
    have ht:=getD_some hd (by simp)
    cases hs:YH ops i j with
    |true=>rw[hs] at h;exact⟨_,s,h,by simp[hg,hj,ht]⟩
    |false=>
     rw[hs] at h
     obtain⟨s',h1⟩:=N2 h (fun t' e=>by simp at e;subst e;exact ht)
     exact⟨_,s',h1,by simp[hg,hj,ht]⟩
   ·rename_i ds hd
    have ht:=getD_some hd (by simp)
    exact⟨false,s,h,by simp[hg,hj,ht]⟩
   ·exact h.elim
  ·exact h.elim
noncomputable def O6(env:List D)(sl:List (Nat×Option D))(K:List (Nat×D)->Prop):Prop:=
 List.rec (motive:=fun _=>(List (Nat×D)->Prop)->Prop) (fun K=>K []) (fun p _ ih K=>Dz env p.1 fun d0=>match p.2 with
  |none=>ih fun L=>K ((p.1,d0)::L)
  |some d=>d0=d/\ih fun L=>K ((p.1,d)::L)) sl K
theorem Gq{env:List D}:∀{sl:List (Nat×Option D)} {K:List (Nat×D)->Prop},O6 env sl K->∃L,K L/\∀p∈L,env.getD p.1 .undef=p.2
 |[],K,h=>⟨[],h,by simp⟩
 |(t,o)::sl,K,h=>by
  have h':Dz env t fun d0=>match (generalizing:=false) o with
   |none=>O6 env sl fun L=>K ((t,d0)::L)
   |some d=>d0=d/\O6 env sl fun L=>K ((t,d)::L):=h
  rw[Cr] at h'
  cases o with
  |none=>
   obtain⟨L,h1,h2⟩:=Gq h'
   refine⟨_,h1,fun p hp=>?_⟩
   rcases Ib.1 hp with rfl|hp
   ·rfl
   ·exact h2 p hp
  |some d=>
   obtain⟨L,h1,h2⟩:=Gq h'.2
   refine⟨_,h1,fun p hp=>?_⟩
   rcases Ib.1 hp with rfl|hp
   ·exact h'.1
   ·exact h2 p hp
theorem DG:∀(L:List (Nat×D)) (e:List D),(L.foldl (fun e p=>e.set p.1 p.2) e).length=e.length
 |[],e=>rfl
 |p::L,e=>by rw[IA,DG L];simp
theorem Sn{env:List D}:∀{L:List (Nat×D)} {e:List D},(∀p∈L,env.getD p.1 .undef=p.2)->e.length=env.length->(∀(i:Nat) (d:D),e[i]?=some d->d=.undef∨env[i]?=some d)->∀(i:Nat) (d:D),(L.foldl (fun e p=>e.set p.1 p.2) e)[i]?=some d->d=.undef∨env[i]?=some d
 |[],e,_,_,h,i,d,hd=>h i d hd
 |p::L,e,hL,hl,h,i,d,hd=>by
  refine Sn (L:=L) (e:=e.set p.1 p.2) (fun q hq=>hL q (List.mem_cons_of_mem _ hq)) (by simp[hl]) (fun i d hd=>?_) i d hd
  rw[List.getElem?_set] at hd
  split at hd
  ·rename_i e1;subst e1
   split at hd
   ·rename_i hlt
    simp at hd;subst hd
    refine .inr ?_
    have:=hL p (List.mem_cons_self)
    rw[H6] at this
    rw[Hx (by omega)] at this⊢
    simpa using this
   ·simp at hd
  ·exact h i d hd
theorem JR{env:List D}{nt:Nat}{L:List (Nat×D)}(hn:env.length=nt)(h2:∀p∈L,env.getD p.1 .undef=p.2):(mkE nt L).length=env.length/\∀(i:Nat) (d:D),(mkE nt L)[i]?=some d->d=.undef∨env[i]?=some d:=
 ⟨by simp[mkE,DG,hn],Sn h2 (by simp[hn]) (fun i d hd=>by
  rw[List.getElem?_replicate] at hd
  split at hd
  ·simp at hd;exact .inl hd.symm
  ·simp at hd)⟩
noncomputable def PN(P:Program)(im:List Nat)(r:Nat)(ops:Array Oper)(Z:List Oper->List (Nat×D)->St->Prop)(L:List Oper)(i:Nat)(s:Sc)(env:List D)(σ:St)(K:Sc->List D->St->Prop):Prop:=
 List.rec (motive:=fun _=>Nat->Sc->List D->St->Prop) (fun i s env σ=>pre r i s env σ K)
  (fun o L ih i s env σ=>pre r i s env σ fun s env σ=>match s with
   |.h (.s sl) _=>O6 env sl fun sl=>Z (o::L) sl σ
   |s=>E4 ops i o s env fun b s env=>
    Bool.rec (C4 env o.dst (.tup []) fun env=>ih (Nat.succ i) s env σ)
     (GJ env o.op.operands.toList fun ds=>vOp P im o ds σ s fun s d σ _=>C4 env o.dst d fun env=>ih (Nat.succ i) s env σ) b) L i s env σ
def AK(C:Ent->Ent->Prop)(P:Program)(R:List D->St->Prop)(k:List KI)(ops:Array Oper)(L:List Oper)(env:List D)(σ:St):Prop:=
 ∀(E0 E:Ent) (g:Gh) (a:Act) (w:World) (B:Exit->Act->World->Prop),C E0 E->FI E g σ env a w->
  (∀g' env' σ' a' w',FI E0 g' σ' env' a' w'->R env' σ'->B .ret a' w'/\B .normal a' w')->wpList P ops (KQ P B k) L a w
section
variable {C : Ent -> Ent -> Prop} {P : Program} {R : List D -> St -> Prop} {k : List KI}
theorem AK.cv{ops:Array Oper}{L:List Oper}{env env':List D}{σ σ':St}(h:Cv env σ env' σ')(hk:AK C P R k ops L env' σ'):AK C P R k ops L env σ:=fun E0 E g a w B hC hf hB=>by
 obtain⟨g',hf'⟩:=h E g a w hf
 exact hk E0 E g' a w B hC hf' hB
theorem AK.forget{ops:Array Oper}{L:List Oper}{env env':List D}{σ:St}(h:env'.length=env.length/\∀(i:Nat) (d:D),env'[i]?=some d->d=.undef∨env[i]?=some d)(hk:AK C P R k ops L env' σ):AK C P R k ops L env σ:=fun E0 E g a w B hC hf hB=>
 hk E0 E g a w B hC ⟨hf.wi,EA hf.env h.1 h.2,hf.defers⟩ hB
theorem AK.op{ops:Array Oper}{L:List Oper}{o:Oper}{env:List D}{σ σ':St}{d:D}(hg:BP env ops o=some true)(h:Ap P o (o.op.operands.toList.map (evN env)) σ d σ')(hk:AK C P R k ops L (BU env o.dst d) σ'):AK C P R k ops (o::L) env σ:=fun E0 E g a w B hC hf hB=>by
 unfold wpList
 rw[HJ (BH hf.env hg)]
 refine .inl (h E g a w _ _ hf.wi (L4 hf.wi.rep.gl hf.env _) fun g' w' u hw' hg' hd=>?_)
 exact hk E0 E g' _ _ B hC (hf.put hw' hg' hd o.dst) hB
theorem AK.skip{ops:Array Oper}{L:List Oper}{o:Oper}{env:List D}{σ:St}(hg:BP env ops o=some false)(hk:AK C P R k ops L (BU env o.dst (.tup [])) σ):AK C P R k ops (o::L) env σ:=fun E0 E g a w B hC hf hB=>by
 unfold wpList
 rw[HF (by rw[BH hf.env hg];simp)]
 exact hk E0 E g _ _ B hC (hf.put hf.wi g.le_refl (JG g) o.dst) hB
theorem Kv{im:List Nat}{r:Nat}{ops:Array Oper}{Z:List Oper->List (Nat×D)->St->Prop}{K:Sc->List D->St->Prop}{n:Nat}(hZ:∀L sl σ,Z L sl σ->AK C P R k ops L (mkE n sl) σ)(hK:∀s env σ,env.length=n->K s env σ->A9 C P R k env σ):∀{L:List Oper} {i:Nat} {s:Sc} {env:List D} {σ:St},env.length=n->PN P im r ops Z L i s env σ K->AK C P R k ops L env σ
 |[],i,s,env,σ,hl,h=>by
  obtain⟨s1,env1,σ1,h1,h2,h3⟩:=LB (show pre r i s env σ K from h)
  exact AK.cv h2 fun E0 E g a w B hC hf hB=>by
   unfold wpList;exact hK _ _ _ (h3.trans hl) h1 E0 E g a w B hC hf hB
 |o::L,i,s,env,σ,hl,h=>by
  have h':pre r i s env σ fun s env σ=>match s with
   |.h (.s sl) _=>O6 env sl fun sl=>Z (o::L) sl σ
   |s=>E4 ops i o s env fun b s env=>
    Bool.rec (C4 env o.dst (.tup []) fun env=>PN P im r ops Z L (Nat.succ i) s env σ K)
     (GJ env o.op.operands.toList fun ds=>vOp P im o ds σ s fun s d σ _=>C4 env o.dst d fun env=>PN P im r ops Z L (Nat.succ i) s env σ K) b:=h
  obtain⟨s1,env1,σ1,h1,h2,h3⟩:=LB h'
  refine AK.cv h2 ?_
  have main:(E4 ops i o s1 env1 fun b s env=>
    Bool.rec (C4 env o.dst (.tup []) fun env=>PN P im r ops Z L (Nat.succ i) s env σ1 K)
     (GJ env o.op.operands.toList fun ds=>vOp P im o ds σ1 s fun s d σ _=>C4 env o.dst d fun env=>PN P im r ops Z L (Nat.succ i) s env σ K) b)->AK C P R k ops (o::L) env1 σ1:=by
   intro h1
   obtain⟨b,s2,h4,h5⟩:=Hi h1
   cases b with
   |false=>
    have h6:C4 env1 o.dst (.tup []) fun env=>PN P im r ops Z L (Nat.succ i) s2 env σ1 K:=h4
    rw[C1] at h6
    refine AK.skip h5 (Kv hZ hK ?_ h6)
    cases o.dst<;>simp[BU,h3,hl]
   |true=>
    have h6:GJ env1 o.op.operands.toList fun ds=>vOp P im o ds σ1 s2 fun s d σ _=>C4 env1 o.dst d fun env=>PN P im r ops Z L (Nat.succ i) s env σ K:=h4
    rw[GI] at h6
    obtain⟨s3,d,σ3,kd,h7,h8⟩:=Lh h6
    rw[C1] at h7
    refine AK.op h5 h8.op (Kv hZ hK ?_ h7)
    cases o.dst<;>simp[BU,h3,hl]
  split at h1
  ·obtain⟨sl,h4,h5⟩:=Gq h1
   exact AK.forget (JR (h3.trans hl) h5) (hZ _ _ _ h4)
  ·exact main h1
end
end Go.Nv
