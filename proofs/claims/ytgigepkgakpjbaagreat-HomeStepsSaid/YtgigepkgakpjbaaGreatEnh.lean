/-
  A part of the proof.
-/
import Derived.Test.YtgigepkgakpjbaaGreatZf
import Derived.Test.YtgigepkgakpjbaaGreatZc
import Derived.ChangeArms
import Derived.DataReads
open Go.Dv Go.Nv Go.RowKit
set_option maxRecDepth 20000
open Go.IntKind (u64)
open Go.IntKind renaming wrap->yu,i64->yt
open List renaming length->I,map->U,drop->W
open Option renaming some->G
open Bool renaming true->J,false->O
open Decidable renaming decide->Y
open Int renaming toNat->Z
open Go.Dv.V renaming list->ae,str->ab,agg->aa,int->a8,ref->bz,fn->bw,nils->bv,bool->bu
open Go.Dv.D renaming v->bt,acc->br,ptr->bq,arr->bo,gro->bm,tup->bl,undef->bk,dagg->bj
open Go.Dv.St renaming mk->bi
open Go.Dv.KI renaming blk->bh
open _root_.ByteArray renaming mk->bf
open Go renaming Operand->x8,Program->x7,TypeId->x6,World->x5,Value->yz,Oper->yy,FuncId->yx,Func->yw,IntKind->yv
namespace Go.Proofs.YtgigepkgakpjbaaGreat
theorem ik{M:c6}{sz:Nat}{y:V}{u2:List yz}(hl:I u2=sz)(hy:repC M y u2):∀(xs:List V) (u1:List yz),repE M sz xs u1->repE M sz (xs++[y]) (u1++u2)
 |[],u1,h=>by
  simp only[repE] at h
  subst h
  simp only[List.nil_append,repE]
  exact⟨u2,[],by simp,hl,hy,rfl⟩
 |x::xs,u1,h=>by
  simp only[repE] at h
  obtain⟨v1,v2,rfl,h1,h2,h3⟩:=h
  simp only[JM,repE]
  exact⟨v1,v2++u2,by simp,h1,h2,ik hl hy xs v2 h3⟩
theorem fe{α:Type}{a:List α}{i:Nat}(h:i<I a):∃x,a[i]?=some x:=⟨_,HK h⟩
theorem lx(a:Addr)(i j:Nat):(a.add i).add j=a.add (i+j):=by
 unfold Addr.add
 by_cases hi:i=0<;>by_cases hj:j=0<;>simp[hi,hj,Nat.add_assoc]
theorem j0{w:x5}{x:Addr}{v:yz}(h:w.cell? x=some v):x.spot=none:=by
 cases hs:x.spot with
 |none=>rfl
 |some s=>
  unfold World.cell? at h
  split at h
  ·rw[hs] at h;simp at h
  ·simp at h
theorem ic{H:Type}{enc:x6×yz->H}{w:x5}{base:Nat}{spare:Nat->Bool}{held:Bool}{Q:V->Prop}{T e:x6}{sz:Nat}(hsz:0<sz)(uT:PP.underlying T=some (.slice e))(ce:PP.cellsOf e=sz){fuel:Nat}{c:yz}{x:DataW H×List MemPlace}(h:DataW.trod enc PP w base spare held fuel T [c]=some x)
  (hel:∀m,m<fuel->∀cs y,I cs=sz->DataW.trod enc PP w base spare held m e cs=some y->∃v:V,Q v/\repC (memOf w) v cs):∃vs:List V,I vs<=9223372036854775807/\(∀v∈vs,Q v)/\repC (memOf w) (.list vs) [c]:=by
 rcases DataW.trod_slice uT h with⟨hc,_⟩|⟨a,len,cap,elems,rest,m,hnm,hc,_,_,hlc,hcm,_,hcell,_⟩
 ·refine⟨[],II _,fun v hv=>by simp at hv,?_⟩
  rw[hc]
  simp only[repC]
  exact⟨none,0,rfl,HR _,.inl trivial⟩
 ·have build:∀k,k<=len->∃(ts:List V) (us:List yz),(I ts=k/\∀v∈ts,Q v)/\us.length=sz*k/\repE (memOf w) sz ts us/\∀j v,us[j]?=some v->w.cell? (a.add j)=some v:=by
   intro k
   induction k with
   |zero=>exact fun _=>⟨[],[],⟨rfl,fun v hv=>by simp at hv⟩,rfl,by simp[repE],fun j v hj=>by simp at hj⟩
   |succ k ihk=>
    intro hk
    obtain⟨ts,us,⟨e1,e5⟩,e2,e3,e4⟩:=ihk (by omega)
    have hb:=hcell k (by omega)
    obtain⟨y,hy⟩:=fe (a:=elems) (i:=k) (by omega)
    rw[hy,ce] at hb
    obtain⟨cs',hcs,ht⟩:=Option.bind_eq_some_iff.1 hb
    obtain⟨_,hlen,hat⟩:=World.cells?_some hcs
    obtain⟨t,htf,htr⟩:=hel m (by omega) cs' y hlen ht
    refine⟨ts++[t],us++cs',⟨by simp[e1],fun v hv=>by rcases IV.1 hv with hv|hv<;>first|exact e5 v hv|(rw[Ia.1 hv];exact htf)⟩,by simp[e2,hlen,Nat.mul_succ],ik hlen htr _ _ e3,fun j v hj=>?_⟩
    by_cases hjk:j<I us
    ·rw[I5 hjk] at hj;exact e4 j v hj
    ·rw[I2 (by omega)] at hj
     have hj2:j-I us<sz:=by have:=(HN.1 hj).1;omega
     have:=hat (j-I us) hj2
     rw[hj,lx,show k*sz+(j-I us)=j by rw[Nat.mul_comm] at e2;omega] at this
     exact this
  obtain⟨ts,us,⟨e1,e5⟩,e2,e3,e4⟩:=build len (HR _)
  refine⟨ts,by rw[e1];exact Jn hlc hcm,e5,?_⟩
  rw[hc]
  simp only[repC]
  refine⟨some a,cap,by rw[e1],by rw[e1];exact hlc,?_⟩
  rcases Nat.eq_zero_or_pos len with hz|hz
  ·left
   exact List.eq_nil_of_length_eq_zero (by omega)
  ·right
   obtain⟨v,hv⟩:=fe (a:=us) (i:=0) (by rw[e2];exact Nat.mul_pos hsz hz)
   have h00:=j0 (e4 0 v hv)
   obtain⟨b,off,spot⟩:=a
   simp only[Addr.add] at h00
   subst h00
   exact⟨b,off,sz,us,rfl,hsz,fun j v hj=>by
    have:=e4 j v hj
    rw[Addr.add_lit] at this
    exact this,e3⟩
theorem gu{α:Type}{f:α->V}{q:α->Prop}:∀{vs:List V},(∀v∈vs,∃a,q a/\v=f a)->∃l:List α,vs=l.map f/\∀a∈l,q a
 |[],_=>⟨[],rfl,fun a h=>by cases h⟩
 |v::vs,h=>by
  obtain⟨a,ha,hv⟩:=h v (by simp)
  obtain⟨l,hl,hq⟩:=gu (vs:=vs) (f:=f) (q:=q) fun v hv=>h v (List.mem_cons_of_mem _ hv)
  exact⟨a::l,by rw[hv,hl];rfl,fun b hb=>(IN.1 hb).elim (fun h=>h▸ha) (hq b)⟩
theorem uVal:PP.underlying 34=some (.struct #[Field.mk "N" 3 0 false "" "" 0,Field.mk "Kids" 23 1 false "" "" 8]):=by kernel_rfl
theorem oq:PP.underlying 23=some (.slice 34):=by kernel_rfl
theorem uArc:PP.underlying 63=some (.struct #[Field.mk "Label" 3 0 false "" "" 0,Field.mk "To" 3 1 false "" "" 8]):=by kernel_rfl
theorem tu:PP.underlying 53=some (.slice 63):=by kernel_rfl
theorem p6:PP.underlying 24=some (.slice 53):=by kernel_rfl
theorem uGr:PP.underlying 26=some (.struct #[Field.mk "Configs" 23 0 false "" "" 0,Field.mk "Arcs" 24 1 false "" "" 24]):=by kernel_rfl
theorem jf:PP.underlying 3=some (.int .i64):=by kernel_rfl
theorem g9:PP.cellsOf 34=2:=by kernel_rfl
theorem g8:PP.cellsOf 3=1:=by kernel_rfl
theorem ii:PP.cellsOf 23=1:=by kernel_rfl
theorem ju:PP.cellsOf 63=2:=by kernel_rfl
theorem kx:PP.cellsOf 53=1:=by kernel_rfl
theorem j9:PP.cellsOf 24=1:=by kernel_rfl
theorem m7:PP.cellsOf 26=2:=by kernel_rfl
section
variable {H : Type} {enc : x6 × yz -> H} {w : x5} {base : Nat} {spare : Nat -> Bool} {held : Bool}
theorem p7(fuel:Nat):∀(cs:List yz) (x:DataW H×List MemPlace),DataW.trod enc PP w base spare held fuel 34 cs=some x->∃v:V,(∃t:b9,t.fit/\v=eV t)/\repC (memOf w) v cs:=by
 induction fuel using Nat.strongRecOn with
 |_ fuel ih=>
 intro cs x h
 obtain⟨ys,n,rfl,_,hl,hyl,hf⟩:=DataW.trod_struct uVal h
 rw[g9] at hl
 match cs,hl with
 |[c0,c1],_=>
 have h0:=hf 0 _ rfl
 have h1:=hf 1 _ rfl
 have hy2:I ys=2:=hyl
 obtain⟨y0,hy0⟩:=fe (a:=ys) (i:=0) (by omega)
 obtain⟨y1,hy1⟩:=fe (a:=ys) (i:=1) (by omega)
 rw[hy0] at h0
 rw[hy1] at h1
 replace h0:DataW.trod enc PP w base spare held n 3 [c0]=some y0:=by simpa[g8] using h0
 replace h1:DataW.trod enc PP w base spare held n 23 [c1]=some y1:=by simpa[ii] using h1
 obtain⟨l,hc0,_,_⟩:=DataW.trod_int jf h0
 simp only[HX,IL] at hc0
 subst hc0
 obtain⟨vs,g1,g2,g3⟩:=ic (by decide) oq g9 h1 (fun m hm cs y _ hy=>ih m (by omega) cs y hy)
 obtain⟨ks,rfl,hk⟩:=gu g2
 rw[HJ] at g1
 refine⟨_,⟨.mk l ks,⟨g1,b9.fits_of hk⟩,rfl⟩,?_⟩
 simp only[eV,b9.enc,encs_map,repC,repA]
 exact⟨_,_,rfl,rfl,rfl,_,_,rfl,rfl,by simpa only[repC] using g3,rfl⟩
theorem qy(fuel:Nat)(cs:List yz)(x:DataW H×List MemPlace)(h:DataW.trod enc PP w base spare held fuel 63 cs=some x):∃v:V,(∃a:Aw,True/\v=cg a)/\repC (memOf w) v cs:=by
 obtain⟨ys,n,rfl,_,hl,hyl,hf⟩:=DataW.trod_struct uArc h
 rw[ju] at hl
 match cs,hl with
 |[c0,c1],_=>
 have h0:=hf 0 _ rfl
 have h1:=hf 1 _ rfl
 have hy2:I ys=2:=hyl
 obtain⟨y0,hy0⟩:=fe (a:=ys) (i:=0) (by omega)
 obtain⟨y1,hy1⟩:=fe (a:=ys) (i:=1) (by omega)
 rw[hy0] at h0
 rw[hy1] at h1
 replace h0:DataW.trod enc PP w base spare held n 3 [c0]=some y0:=by simpa[g8] using h0
 replace h1:DataW.trod enc PP w base spare held n 3 [c1]=some y1:=by simpa[g8] using h1
 obtain⟨l,e0,_,_⟩:=DataW.trod_int jf h0
 obtain⟨t,e1,_,_⟩:=DataW.trod_int jf h1
 simp only[HX,IL] at e0 e1
 subst e0 e1
 refine⟨_,⟨(l,t),trivial,rfl⟩,?_⟩
 simp only[repC,repA]
 exact⟨_,_,rfl,rfl,rfl,_,_,rfl,rfl,rfl,rfl⟩
theorem graph_in{c:Array yz}{d:DataW H}{p:List MemPlace}(h:DataW.Trod enc PP w base spare held 26 (.agg c) d p):∃G:Gph,(I G.cs<=9223372036854775807/\G.ar.length<=9223372036854775807/\(∀l∈G.ar,I l<=9223372036854775807)/\∀v∈G.cs,v.fit)/\repV (memOf w) (vG G) (.agg c):=by
 obtain⟨fuel,hf⟩:=h
 obtain⟨ys,n,rfl,_,hl,hyl,hf⟩:=DataW.trod_struct uGr hf
 rw[m7] at hl
 have hcs:(Value.agg c).cells.toList=c.toList:=rfl
 rw[hcs] at hl hf
 match hc:c.toList,hl with
 |[c0,c1],_=>
 rw[hc] at hf
 have h0:=hf 0 _ rfl
 have h1:=hf 1 _ rfl
 have hy3:I ys=2:=hyl
 obtain⟨y0,hy0⟩:=fe (a:=ys) (i:=0) (by omega)
 obtain⟨y1,hy1⟩:=fe (a:=ys) (i:=1) (by omega)
 rw[hy0] at h0
 rw[hy1] at h1
 replace h0:DataW.trod enc PP w base spare held n 23 [c0]=some y0:=by simpa[ii] using h0
 replace h1:DataW.trod enc PP w base spare held n 24 [c1]=some y1:=by simpa[j9] using h1
 obtain⟨vs,g1,g2,g3⟩:=ic (by decide) oq g9 h0 (fun m _ cs y _ hy=>p7 m cs y hy)
 obtain⟨ks,rfl,hk⟩:=gu g2
 obtain⟨us,k1,k2,k3⟩:=ic (Q:=fun v=>∃l:List Aw,I l<=9223372036854775807/\v=Ai l) (by decide) p6 kx h1 (fun m _ cs y hl hy=>by
  match cs,hl with
  |[c],_=>
  obtain⟨vs,g1,g2,g3⟩:=ic (by decide) tu ju hy (fun m _ cs y _ hy=>qy m cs y hy)
  obtain⟨l,rfl,_⟩:=gu g2
  exact⟨_,⟨l,by simpa using g1,rfl⟩,g3⟩)
 obtain⟨A,rfl,hA⟩:=gu k2
 refine⟨⟨ks,A⟩,⟨by simpa using g1,by simpa using k1,hA,hk⟩,?_⟩
 rw[Cx]
 refine⟨c.toList,?_,by simp⟩
 rw[hc]
 simp only[repA]
 exact⟨_,_,rfl,rfl,g3,_,_,rfl,rfl,k3,rfl⟩
end
theorem law_graph{f:yx}(hspec:∀(s:List UInt8) (G:Gph) (x y z u:Int),I G.ar<=9223372036854775807->(∀l∈G.ar,I l<=9223372036854775807)->(∀v∈G.cs,v.fit)->Aa PP f [.v (j1 s),dG G,di x,di y,di z,di u] ⟨[],[]⟩ (.v (.bool true)) ⟨[],[]⟩)
  {a:Option Addr} {len cap:Nat} {zs:List Int} {c:Array yz} {G:Gph} {n1 n2 n3 n4:Int} {w:x5} (h0:IsRow .u8 w a len cap zs) (h1:(I G.cs<=9223372036854775807/\G.ar.length<=9223372036854775807/\(∀l∈G.ar,I l<=9223372036854775807)/\∀v∈G.cs,v.fit)/\repV (memOf w) (vG G) (.agg c)):
  Calls PP f #[.slice a len cap,.agg c,.int .i64 n1,.int .i64 n2,.int .i64 n3,.int .i64 n4] w fun e w'=>e=.returned (.bool true)/\Below w.heap.size w w':=by
 obtain⟨s,hs⟩:=jt _ (lz h0)
 have hr0:=kz h0
 rw[hs] at hr0
 refine Calls.mono ((hspec s G n1 n2 n3 n4 h1.1.2.1 h1.1.2.2.1 h1.1.2.2.2).2 (g0 w) w [.slice a len cap,.agg c,.int .i64 n1,.int .i64 n2,.int .i64 n3,.int .i64 n4] (wrep0 w) ?_) ?_
 ·simp only[Ag]
  refine⟨_,_,rfl,by simp only[Ah];exact hr0,_,_,rfl,by simp only[Ah];exact h1.2,_,_,rfl,by simp only[Ah,AC],_,_,rfl,by simp only[Ah,AC],_,_,rfl,by simp only[Ah,AC],_,_,rfl,by simp only[Ah,AC],rfl⟩
 ·rintro e w' ⟨u,g',rfl,hw,hr⟩
  simp only[Ah,EP] at hr
  subst hr
  exact⟨rfl,ly hw⟩
end Go.Proofs.YtgigepkgakpjbaaGreat
