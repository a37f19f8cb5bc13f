/-
  A part of the proof.
-/
import Derived.Test.YtpmahmngmgnnbaaGreatDoorZg
import Derived.Test.YtpmahmngmgnnbaaGreatDoorZe
import Derived.ChangeArms
import Derived.DataReads
namespace Go.Proofs.YtpmahmngmgnnbaaGreatDoor
open Go.Dv Go.Nv Go.RowKit
set_option maxRecDepth 20000
open Go.IntKind (wrap)
theorem repE_snoc{M:Mem}{sz:Nat}{y:V}{u2:List Value}(hl:u2.length=sz)(hy:repC M y u2):∀(xs:List V) (u1:List Value),repE M sz xs u1->repE M sz (xs++[y]) (u1++u2)
 |[],u1,h=>by
  simp only[repE] at h
  subst h
  simp only[List.nil_append,repE]
  exact⟨u2,[],by simp,hl,hy,rfl⟩
 |x::xs,u1,h=>by
  simp only[repE] at h
  obtain⟨v1,v2,rfl,h1,h2,h3⟩:=h
  simp only[IW,repE]
  exact⟨v1,v2++u2,by simp,h1,h2,repE_snoc hl hy xs v2 h3⟩
theorem Ge{α:Type}{a:List α}{i:Nat}(h:i<a.length):∃x,a[i]?=some x:=⟨_,Hx h⟩
theorem uVal:PP.underlying 25=some (.struct #[Field.mk "N" 3 0 false "" "" 0,Field.mk "Kids" 23 1 false "" "" 8]):=by kernel_rfl
theorem uVals:PP.underlying 23=some (.slice 25):=by kernel_rfl
theorem uQst:PP.underlying 27=some (.struct #[Field.mk "Kind" 3 0 false "" "" 0,Field.mk "Place" 3 1 false "" "" 8,Field.mk "Target" 25 2 false "" "" 16]):=by kernel_rfl
theorem uInt64:PP.underlying 3=some (.int .i64):=by kernel_rfl
theorem add_addr(a:Addr)(i j:Nat):(a.add i).add j=a.add (i+j):=by
 unfold Addr.add
 by_cases hi:i=0<;>by_cases hj:j=0<;>simp[hi,hj,Nat.add_assoc]
theorem cellsVal:PP.cellsOf 25=2:=by kernel_rfl
theorem cellsInt:PP.cellsOf 3=1:=by kernel_rfl
theorem cellsVals:PP.cellsOf 23=1:=by kernel_rfl
theorem cellsQst:PP.cellsOf 27=4:=by kernel_rfl
theorem spot_none{w:World}{x:Addr}{v:Value}(h:w.cell? x=some v):x.spot=none:=by
 cases hs:x.spot with
 |none=>rfl
 |some s=>
  unfold World.cell? at h
  split at h
  ·rw[hs] at h;simp at h
  ·simp at h
theorem val_of{H:Type}{enc:TypeId×Value->H}{w:World}{base:Nat}{spare:Nat->Bool}{held:Bool}(fuel:Nat):∀(cs:List Value) (x:DataW H×List MemPlace),DataW.trod enc PP w base spare held fuel 25 cs=some x->∃t:Val,t.fit/\repC (memOf w) (eV t) cs:=by
 induction fuel using Nat.strongRecOn with
 |_ fuel ih=>
 intro cs x h
 obtain⟨ys,n,rfl,_,hl,hyl,hf⟩:=DataW.trod_struct uVal h
 rw[cellsVal] at hl
 match cs,hl with
 |[c0,c1],_=>
 have h0:=hf 0 _ rfl
 have h1:=hf 1 _ rfl
 have hy2:ys.length=2:=hyl
 obtain⟨y0,hy0⟩:=Ge (a:=ys) (i:=0) (by omega)
 obtain⟨y1,hy1⟩:=Ge (a:=ys) (i:=1) (by omega)
 rw[hy0] at h0
 rw[hy1] at h1
 replace h0:DataW.trod enc PP w base spare held n 3 [c0]=some y0:=by simpa[cellsInt] using h0
 replace h1:DataW.trod enc PP w base spare held n 23 [c1]=some y1:=by simpa[cellsVals] using h1
 obtain⟨l,hc0,_,_⟩:=DataW.trod_int uInt64 h0
 simp only[HB,HZ] at hc0
 subst hc0
 have fin:∀ks:List Val,ks.length<=9223372036854775807->(∀v∈ks,v.fit)->repC (memOf w) (.list (ks.map eV)) [c1]->∃t:Val,t.fit/\repC (memOf w) (eV t) [.int .i64 l,c1]:=by
  intro ks hkl hkf hk
  refine⟨.mk l ks,⟨hkl,Val.fits_of hkf⟩,?_⟩
  simp only[eV,Val.enc,encs_map,repC,repA]
  exact⟨_,_,rfl,rfl,rfl,_,_,rfl,rfl,by simpa only[repC] using hk,rfl⟩
 rcases DataW.trod_slice uVals h1 with⟨hc,_⟩|⟨a,len,cap,elems,rest,m,hnm,hc,_,_,hlc,hcm,hel,hcell,_⟩
 ·refine fin [] (HW _) (fun v hv=>by simp at hv) ?_
  rw[hc]
  simp only[Iu,repC]
  exact⟨none,0,rfl,H5 _,.inl trivial⟩
 ·have build:∀k,k<=len->∃(ts:List Val) (us:List Value),(ts.length=k/\∀v∈ts,v.fit)/\us.length=2*k/\repE (memOf w) 2 (ts.map eV) us/\∀j v,us[j]?=some v->w.cell? (a.add j)=some v:=by
   intro k
   induction k with
   |zero=>exact fun _=>⟨[],[],⟨rfl,fun v hv=>by simp at hv⟩,rfl,by simp[repE],fun j v hj=>by simp at hj⟩
   |succ k ihk=>
    intro hk
    obtain⟨ts,us,⟨e1,e5⟩,e2,e3,e4⟩:=ihk (by omega)
    have hb:=hcell k (by omega)
    obtain⟨y,hy⟩:=Ge (a:=elems) (i:=k) (by omega)
    rw[hy,cellsVal] at hb
    obtain⟨cs',hcs,ht⟩:=Option.bind_eq_some_iff.1 hb
    obtain⟨_,hlen,hat⟩:=World.cells?_some hcs
    obtain⟨t,htf,htr⟩:=ih m (by omega) cs' y ht
    refine⟨ts++[t],us++cs',⟨by simp[e1],fun v hv=>by rcases Ij.1 hv with hv|hv<;>first|exact e5 v hv|(rw[HE.1 hv];exact htf)⟩,by simp[e2,hlen];omega,?_,fun j v hj=>?_⟩
    ·rw[IC]
     exact repE_snoc hlen htr _ _ e3
    ·by_cases hjk:j<us.length
     ·rw[HK hjk] at hj;exact e4 j v hj
     ·rw[HH (by omega)] at hj
      have hj2:j-us.length<2:=by have:=(H0.1 hj).1;omega
      have:=hat (j-us.length) hj2
      rw[hj,add_addr,show k*2+(j-us.length)=j by omega] at this
      exact this
  obtain⟨ts,us,⟨e1,e5⟩,e2,e3,e4⟩:=build len (H5 _)
  refine fin ts (by rw[e1];exact Is hlc hcm) e5 ?_
  rw[hc]
  simp only[repC,Hw]
  refine⟨some a,cap,by rw[e1],by rw[e1];exact hlc,?_⟩
  rcases Nat.eq_zero_or_pos len with hz|hz
  ·left
   have:ts=[]:=IE (by omega)
   rw[this];rfl
  ·right
   obtain⟨v,hv⟩:=Ge (a:=us) (i:=0) (by omega)
   have h00:=spot_none (e4 0 v hv)
   obtain⟨b,off,spot⟩:=a
   simp only[Addr.add] at h00
   subst h00
   exact⟨b,off,2,us,rfl,by omega,fun j v hj=>by
    have:=e4 j v hj
    rw[Addr.add_lit] at this
    exact this,e3⟩
theorem qst_in{H:Type}{enc:TypeId×Value->H}{w:World}{base:Nat}{spare:Nat->Bool}{held:Bool}{c:Array Value}{d:DataW H}{p:List MemPlace}(h:DataW.Trod enc PP w base spare held 27 (.agg c) d p):∃q:Qst,q.target.fit/\repV (memOf w) (vQ q) (.agg c):=by
 obtain⟨fuel,hf⟩:=h
 obtain⟨ys,n,rfl,_,hl,hyl,hf⟩:=DataW.trod_struct uQst hf
 rw[cellsQst] at hl
 have hcs:(Value.agg c).cells.toList=c.toList:=rfl
 rw[hcs] at hl hf
 match hc:c.toList,hl with
 |[c0,c1,c2,c3],_=>
 rw[hc] at hf
 have h0:=hf 0 _ rfl
 have h1:=hf 1 _ rfl
 have h2:=hf 2 _ rfl
 have hy3:ys.length=3:=hyl
 obtain⟨y0,hy0⟩:=Ge (a:=ys) (i:=0) (by omega)
 obtain⟨y1,hy1⟩:=Ge (a:=ys) (i:=1) (by omega)
 obtain⟨y2,hy2⟩:=Ge (a:=ys) (i:=2) (by omega)
 rw[hy0] at h0
 rw[hy1] at h1
 rw[hy2] at h2
 replace h0:DataW.trod enc PP w base spare held n 3 [c0]=some y0:=by simpa[cellsInt] using h0
 replace h1:DataW.trod enc PP w base spare held n 3 [c1]=some y1:=by simpa[cellsInt] using h1
 replace h2:DataW.trod enc PP w base spare held n 25 [c2,c3]=some y2:=by simpa[cellsVal] using h2
 obtain⟨k,e0,_,_⟩:=DataW.trod_int uInt64 h0
 obtain⟨pl,e1,_,_⟩:=DataW.trod_int uInt64 h1
 simp only[HB,HZ] at e0 e1
 subst e0 e1
 obtain⟨v,hv,hr⟩:=val_of n _ _ h2
 rw[Cb] at hr
 refine⟨⟨k,pl,v⟩,hv,?_⟩
 rw[BR]
 refine⟨c.toList,?_,by simp⟩
 rw[hc]
 simp only[repC,repA] at hr⊢
 exact⟨_,_,rfl,rfl,rfl,_,_,rfl,rfl,rfl,hr⟩
theorem law_quest{f:FuncId}(hspec:∀(s:List UInt8) (q:Qst) (d:List UInt8) (x:Int) (y:UInt8),q.target.fit->Aa PP f [.v (vBs s),dQ q,ds d,di x,.v (vb y)] ⟨[],[]⟩ (.v (.bool true)) ⟨[],[]⟩)
  {a:Option Addr} {len cap:Nat} {zs:List Int} {c:Array Value} {q:Qst} {s1:ByteArray} {n2 n3:Int} {w:World} (h0:IsRow .u8 w a len cap zs) (h1:q.target.fit/\repV (memOf w) (vQ q) (.agg c)) (h3:(Lit.int .u8 n3).wf=true) (hG:GlobOK (memOf w)/\GW w):
  Calls PP f #[.slice a len cap,.agg c,.string s1,.int .i64 n2,.int .u8 n3] w fun e w'=>e=.returned (.bool true)/\Below w.heap.size w w':=by
 obtain⟨s,hs⟩:=GX _ (bytes_ok h0)
 have hr0:=isRow_rep h0
 rw[hs] at hr0
 have hy:=byte_ok h3
 obtain⟨y,rfl⟩:∃y:UInt8,n3=(y.toNat:Int):=⟨UInt8.ofNat n3.toNat,by
  have h1:(UInt8.ofNat n3.toNat).toNat=n3.toNat%256:=by simp
  rw[h1];omega⟩
 refine Calls.mono ((hspec s q s1.data.toList n2 y h1.1).2 (g0 w) w [.slice a len cap,.agg c,.string s1,.int .i64 n2,.int .u8 (y.toNat:Int)] (wrep0 w hG.1 hG.2) ?_) ?_
 ·simp only[Ab]
  refine⟨_,_,rfl,by simp only[Ac];exact hr0,_,_,rfl,by simp only[Ac];exact h1.2,_,_,rfl,by simp only[Ac,AI],_,_,rfl,by simp only[Ac,As],_,_,rfl,by simp only[Ac,As],rfl⟩
 ·rintro e w' ⟨u,g',rfl,hw,hr⟩
  simp only[Ac,Cq] at hr
  subst hr
  exact⟨rfl,below_of hw⟩
end Go.Proofs.YtpmahmngmgnnbaaGreatDoor
