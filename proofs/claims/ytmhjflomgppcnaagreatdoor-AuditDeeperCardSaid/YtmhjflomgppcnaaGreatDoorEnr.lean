/-
  A part of the proof.
-/
import Derived.Test.YtmhjflomgppcnaaGreatDoorZd
import Derived.Lib.ItoaNum
import Derived.Test.YtmhjflomgppcnaaGreatDoorRows
import Derived.Below
import Derived.Lib.SmallJoins
import Derived.MakeChecks
import Derived.FnData
import Derived.OpenShut
namespace Go.Proofs.YtmhjflomgppcnaaGreatDoor
open Go.Dv Go.Nv Go.RowKit Go.ChangeShapes Go.WideShapes Go.Joins
open Go.IntKind (wrap i64 u64)
def IsRow(k:IntKind)(w:World)(a:Option Addr)(len cap:Nat)(zs:List Int):Prop:=
 (a=none/\len=0/\cap=0/\zs=[])∨
 ∃x,a=some x/\len<=cap/\cap<=maxLen/\zs.length=cap/\(∀i,i<zs.length->w.cell? (x.add i)=some (.int k (zs.getD i 0)))/\∀n∈zs,(Lit.int k n).wf=true
def memOf(w:World):Mem:=fun b o=>w.cell? ⟨b,o,none⟩
def g0(w:World):Gh:={ M:=memOf w,β:=fun _=>0,n:=0,ι:=fun _ _=>none,κ:=fun _=>0 }
theorem wrep0(w:World)(hG:D5 (memOf w))(hW:GW w):WRep (g0 w) ⟨[],[]⟩ w where
 n:=rfl
 mem:=fun b o v h=>h
 obj:=fun i cs hi=>by simp at hi
 inj:=fun i j cs ds hi=>by simp at hi
 own:=fun k sz xs hx=>by simp at hx
 tags:=by simp
 sep:=fun x hx=>by simp at hx
 ownObj:=fun x hx=>by simp at hx
 fresh:=fun _ _ _=>rfl
 gl:=hG
 gw:=hW
theorem repE_ints(M:Mem)(k:IntKind):∀xs:List Int,repE M 1 (xs.map (V.int k)) (xs.map (Value.int k))
 |[]=>by simp[repE]
 |x::xs=>by simp only[HU,repE];exact⟨[.int k x],xs.map (Value.int k),rfl,rfl,by simp[repC],repE_ints M k xs⟩
theorem isRow_rep{k:IntKind}{w:World}{a:Option Addr}{len cap:Nat}{zs:List Int}(h:IsRow k w a len cap zs):repV (memOf w) (.list ((zs.take len).map (V.int k))) (.slice a len cap):=by
 rw[AU]
 rcases h with⟨rfl,rfl,rfl,rfl⟩|⟨x,rfl,hl,_,hz,hc,_⟩
 ·exact⟨none,0,rfl,HB _,.inl rfl⟩
 ·have hlen:((zs.take len).map (V.int k)).length=len:=by simp;omega
  refine⟨some x,cap,by rw[hlen],by rw[hlen];exact hl,?_⟩
  rcases Nat.eq_zero_or_pos len with h0|hpos
  ·exact .inl (IL (by rw[hlen];exact h0))
  ·right
   have hspot:x.spot=none:=by
    have h0:=hc 0 (by omega)
    cases hs:x.spot with
    |none=>rfl
    |some s=>
     have:x.add 0=x:=by simp[Addr.add]
     rw[this] at h0
     unfold World.cell? at h0
     split at h0
     ·rw[hs] at h0;simp at h0
     ·simp at h0
   obtain⟨b,off,spot⟩:=x
   simp only at hspot
   subst hspot
   refine⟨b,off,1,(zs.take len).map (Value.int k),rfl,by omega,fun j v hj=>?_,repE_ints _ k _⟩
   simp only[Ik] at hj
   cases hz2:(zs.take len)[j]? with
   |none=>simp[hz2] at hj
   |some z=>
    simp[hz2] at hj
    have hjl:j<len:=by have:=(H7.1 hz2).1;simp at this;omega
    have hzj:zs[j]?=some z:=by rw[IQ] at hz2;simpa[hjl] using hz2
    have:=hc j (by omega)
    rw[Addr.add_lit] at this
    simp only[memOf]
    rw[this, ←hj]
    simp[HC,hzj]
theorem below_of{w w':World}{g':Gh}{σ':St}(h:WI ⟨g0 w,w,⟨[],[]⟩⟩ g' σ' w'):Below w.heap.size w w':=by
 exact⟨h.os,h.tape,h.output,h.size,fun b hb=>(h.keep b hb Eh).1⟩
theorem byte_ok{n:Int}(h:(Lit.int .u8 n).wf=true):0<=n/\n<256:=by
 simp only[Lit.wf,H5,HE,show IntKind.u8.min=0 from by decide,show IntKind.u8.max=255 from by decide] at h
 omega
theorem bytes_ok{w:World}{a:Option Addr}{len cap:Nat}{zs:List Int}(h:IsRow .u8 w a len cap zs):∀x∈zs.take len,0<=x/\x<256:=by
 intro x hx
 rcases h with⟨_,_,_,rfl⟩|⟨_,_,_,_,_,_,hw⟩
 ·simp at hx
 ·exact byte_ok (hw x (IK hx))
theorem bytes_of:∀l:List Int,(∀x∈l,0<=x/\x<256)->∃s:List UInt8,l.map (V.int .u8)=s.map vb
 |[],_=>⟨[],rfl⟩
 |x::l,h=>by
  obtain⟨s,hs⟩:=bytes_of l fun y hy=>h y (by simp[hy])
  have hx:=h x (by simp)
  refine⟨UInt8.ofNat x.toNat::s,?_⟩
  rw[HU,HU,hs]
  have:((UInt8.ofNat x.toNat).toNat:Int)=x:=by
   have h1:(UInt8.ofNat x.toNat).toNat=x.toNat%256:=by simp
   rw[h1];omega
  rw[show V.int .u8 x=vb (UInt8.ofNat x.toNat) from by rw[vb,this]]
theorem law_bytesG{f:FuncId}(hspec:∀s:List UInt8,Aa PP f [.v (vBs s)] ⟨[],[]⟩ (.v (.bool true)) ⟨[],[]⟩){a:Option Addr}{len cap:Nat}{zs:List Int}{w:World}(h:IsRow .u8 w a len cap zs)(hG:D5 (memOf w)/\GW w):
  Calls PP f #[.slice a len cap] w fun e w'=>e=.returned (.bool true)/\Below w.heap.size w w':=by
 obtain⟨s,hs⟩:=bytes_of _ (bytes_ok h)
 have hr0:=isRow_rep h
 rw[hs] at hr0
 refine Calls.mono ((hspec s).2 (g0 w) w [.slice a len cap] (wrep0 w hG.1 hG.2) (A2.2 ⟨_,rfl,by simp only[Ae];exact hr0⟩)) ?_
 rintro e w' ⟨u,g',rfl,hw,hr⟩
 simp only[Ae,DJ] at hr
 subst hr
 exact⟨rfl,below_of hw⟩
set_option maxRecDepth 20000
section
variable {w : World} {enc : TypeId × Value -> Unit} {spare : Nat -> Bool} {held : Bool}
theorem Dd{fuel:Nat}{cs:List Value}{x:DataW Unit×List MemPlace}{s:List UInt8}{b1 b2 b3:Bool}(hx:x.1=.agg [.lit (.string s),.lit (.bool b1),.lit (.bool b2),.lit (.bool b3)])
  (h:DataW.trod enc PP w 0 spare held fuel 161 cs=some x):cs=[.string ⟨s.toArray⟩,.bool b1,.bool b2,.bool b3]:=by
 obtain⟨y0,y1,y2,y3,n,rfl,hl,h0,h1,h2,h3⟩:=trod_struct4 Tryz.underlying161 h
 obtain⟨s',e0,f0,_⟩:=DataW.trod_string Tryz.underlying9 h0
 obtain⟨c1,e1,f1⟩:=DataW.trod_bool Tryz.underlying4 h1
 obtain⟨c2,e2,f2⟩:=DataW.trod_bool Tryz.underlying4 h2
 obtain⟨c3,e3,f3⟩:=DataW.trod_bool Tryz.underlying4 h3
 have hl:cs.length=4:=hl.trans (by kernel_rfl)
 simp only[f0,f1,f2,f3,DataW.agg.injEq,HH,DataW.lit.injEq,Lit.string.injEq,Lit.bool.injEq,Ih] at hx
 obtain⟨g0,rfl,rfl,rfl⟩:=hx
 rw[show PP.cellsOf 9=1 by kernel_rfl] at e0
 rw[show PP.cellsOf 4=1 by kernel_rfl] at e1 e2 e3
 match cs,hl with
 |[a,b,c,d],_=>
  simp at e0 e1 e2 e3
  subst e0 e1 e2 e3
  rw[←g0]
theorem forms_cells{fuel:Nat}{cs:List Value}{p:List MemPlace}(h:DataW.trod enc PP w 0 spare held fuel 162 cs=some (Rows.laid_coverability_question_forms,p))(M:Mem):repC M vForms cs:=by
 obtain⟨xs,m,rfl,hx,hl,hn,hi⟩:=DataW.trod_array Tryz.underlying162 h
 have hl:cs.length=28:=hl.trans (by kernel_rfl)
 rw[show PP.cellsOf 161=4 by kernel_rfl] at hi
 match xs,hn with
 |[x0,x1,x2,x3,x4,x5,x6],_=>
  simp only[Rows.laid_coverability_question_forms,Prod.mk.injEq,DataW.agg.injEq,HU,I1,HH,Ih] at hx
  obtain⟨⟨h0,h1,h2,h3,h4,h5,h6⟩,_⟩:=hx
  have k0:=Dd h0.symm (hi 0 (by decide))
  have k1:=Dd h1.symm (hi 1 (by decide))
  have k2:=Dd h2.symm (hi 2 (by decide))
  have k3:=Dd h3.symm (hi 3 (by decide))
  have k4:=Dd h4.symm (hi 4 (by decide))
  have k5:=Dd h5.symm (hi 5 (by decide))
  have k6:=Dd h6.symm (hi 6 (by decide))
  match cs,hl with
  |[a0,a1,a2,a3,a4,a5,a6,a7,a8,a9,a10,a11,a12,a13,a14,a15,a16,a17,a18,a19,a20,a21,a22,a23,a24,a25,a26,a27],_=>
   simp at k0 k1 k2 k3 k4 k5 k6
   simp only[vForms,vForm,repC,repA,Jk,List.nil_append]
   refine⟨_,_,rfl,rfl,by rw[k0.1],_,_,rfl,rfl,by rw[k0.2.1],_,_,rfl,rfl,by rw[k0.2.2.1],_,_,rfl,rfl,by rw[k0.2.2.2],?_⟩
   refine⟨_,_,rfl,rfl,by rw[k1.1],_,_,rfl,rfl,by rw[k1.2.1],_,_,rfl,rfl,by rw[k1.2.2.1],_,_,rfl,rfl,by rw[k1.2.2.2],?_⟩
   refine⟨_,_,rfl,rfl,by rw[k2.1],_,_,rfl,rfl,by rw[k2.2.1],_,_,rfl,rfl,by rw[k2.2.2.1],_,_,rfl,rfl,by rw[k2.2.2.2],?_⟩
   refine⟨_,_,rfl,rfl,by rw[k3.1],_,_,rfl,rfl,by rw[k3.2.1],_,_,rfl,rfl,by rw[k3.2.2.1],_,_,rfl,rfl,by rw[k3.2.2.2],?_⟩
   refine⟨_,_,rfl,rfl,by rw[k4.1],_,_,rfl,rfl,by rw[k4.2.1],_,_,rfl,rfl,by rw[k4.2.2.1],_,_,rfl,rfl,by rw[k4.2.2.2],?_⟩
   refine⟨_,_,rfl,rfl,by rw[k5.1],_,_,rfl,rfl,by rw[k5.2.1],_,_,rfl,rfl,by rw[k5.2.2.1],_,_,rfl,rfl,by rw[k5.2.2.2],?_⟩
   refine⟨_,_,rfl,rfl,by rw[k6.1],_,_,rfl,rfl,by rw[k6.2.1],_,_,rfl,rfl,by rw[k6.2.2.1],_,_,rfl,rfl,by rw[k6.2.2.2],?_⟩
   rfl
end
abbrev laid6:List (String×DataW Unit):=[("math/bits.deBruijn32tab",Rows.laid_math_bits_deBruijn32tab),("math/bits.deBruijn64tab",Rows.laid_math_bits_deBruijn64tab),("internal/strconv.uint64pow10",Rows.laid_internal_strconv_uint64pow10),("coverability/question.forms",Rows.laid_coverability_question_forms)]
theorem forms_ok{w:World}(h:laidMetH PP laid6 w):D5 (memOf w)/\GW w:=by
 rw[MakeChecks.laidMetH_plain _ _ _ (by kernel_rfl)] at h
 obtain⟨ps,⟨_,_,_,_,_,_,_,_,_,_,⟨_,_,_,_,_,_,_,_,_,_,⟨_,_,_,_,_,_,_,_,_,_,⟨g,t,cs,f,p,q,hg,ht,hv,hd,_⟩,_⟩,_⟩,_⟩,_,_⟩:=h
 obtain rfl: 0 =g:=HT ((show PP.globalNamed "coverability/question.forms"=some 0 by kernel_rfl).symm.trans hg)
 obtain rfl:162=t:=HT ((show(PP.globals[0]?).map (·.type)=some 162 by kernel_rfl).symm.trans ht)
 have at_:∀{n:String} {g:Nat} {cs:Array Value},PP.globalNamed n=some g->w.var? PP n=some cs->inM (memOf w) g 0 cs.toList:=fun hg hv j v hj=>by
  simp only[memOf]
  rw[Io,World.var?_cell hg hv]
  simpa using hj
 refine⟨⟨fun x hx=>?_,Ji⟩,fun x hx=>by simp[FP] at hx⟩
 simp only[GLOB,Ij,IU,or_false] at hx
 subst hx
 exact⟨cs.toList,at_ hg hv,forms_cells hd _⟩
end Go.Proofs.YtmhjflomgppcnaaGreatDoor
