/-
  A part of the proof.
-/
import Derived.Test.YtfhgjfkleggjfaaGreatDoorZd
import Derived.Lib.ItoaNum
import Derived.Test.YtfhgjfkleggjfaaGreatDoorRows
import Derived.Below
import Derived.Lib.SmallJoins
import Derived.MakeChecks
import Derived.FnData
import Derived.OpenShut
namespace Go.Proofs.YtfhgjfkleggjfaaGreatDoor
open Go.Dv Go.Nv Go.RowKit Go.ChangeShapes Go.WideShapes Go.Joins
open Go.IntKind (u64)
open Go.IntKind renaming wrap → yu, i64 → yt
open List renaming length → I, map → U, drop → W
open Option renaming some → G
open Bool renaming true → J, false → O
open Decidable renaming decide → Y
open Int renaming toNat → Z
open Go.Dv.V renaming list → ai, str → ae, agg → ab, int → aa, ref → bz, fn → bw, nils → bv, bool → bu
open Go.Dv.D renaming v → bt, acc → br, ptr → bq, arr → bo, gro → bm, tup → bl, undef → bk, dagg → bj
open Go.Dv.St renaming mk → bi
open Go.Dv.KI renaming blk → bh
open _root_.ByteArray renaming mk → bf
open Go renaming Operand → x8, Program → x7, TypeId → x6, World → x5, Value → yz, Oper → yy, FuncId → yx, Func → yw, IntKind → yv
def IsRow(k:yv)(w:x5)(a:Option Addr)(len cap:Nat)(zs:List Int):Prop:=
 (a=none/\len=0/\cap=0/\zs=[])∨
 ∃x,a=G x/\len<=cap/\cap<=maxLen/\zs.length=cap/\(∀i,i<I zs->w.cell? (x.add i)=G (.int k (zs.getD i 0)))/\∀n∈zs,(Lit.int k n).wf=J
def memOf(w:x5):cd:=fun b o=>w.cell? ⟨b,o,none⟩
def g0(w:x5):Gh:={ M:=memOf w,β:=fun _=>0,n:=0,ι:=fun _ _=>none,κ:=fun _=>0 }
theorem wrep0(w:x5)(hG:Eh (memOf w))(hW:GW w):dw (g0 w) ⟨[],[]⟩ w where
 n:=rfl
 mem:=fun b o v h=>h
 obj:=fun i cs hi=>by simp at hi
 inj:=fun i j cs ds hi=>by simp at hi
 own:=fun k sz xs hx=>by simp at hx
 tags:=by simp
 sep:=fun x hx=>by simp at hx
 ownObj:=fun x hx=>by simp at hx
 fresh:=fun _ _ _=>rfl
 gl:=hG
 gw:=hW
theorem gt(M:cd)(k:yv):∀xs:List Int,repE M 1 (xs.map (aa k)) (xs.map (Value.int k))
 |[]=>by simp[repE]
 |x::xs=>by simp only[Ia,repE];exact⟨[.int k x],xs.map (Value.int k),rfl,rfl,by simp[repC],gt M k xs⟩
theorem i2{k:yv}{w:x5}{a:Option Addr}{len cap:Nat}{zs:List Int}(h:IsRow k w a len cap zs):repV (memOf w) (.list ((zs.take len).map (aa k))) (.slice a len cap):=by
 rw[B3]
 rcases h with⟨rfl,rfl,rfl,rfl⟩|⟨x,rfl,hl,_,hz,hc,_⟩
 ·exact⟨none,0,rfl,HH _,.inl rfl⟩
 ·have hlen:I ((zs.take len).map (aa k))=len:=by simp;omega
  refine⟨G x,cap,by rw[hlen],by rw[hlen];exact hl,?_⟩
  rcases Nat.eq_zero_or_pos len with h0|hpos
  ·exact .inl (IT (by rw[hlen];exact h0))
  ·right
   have hspot:x.spot=none:=by
    have h0:=hc 0 (by omega)
    cases hs:x.spot with
    |none=>rfl
    |some s=>
     have:x.add 0=x:=by simp[Addr.add]
     rw[this] at h0
     unfold World.cell? at h0
     split at h0
     ·rw[hs] at h0;simp at h0
     ·simp at h0
   obtain⟨b,off,spot⟩:=x
   simp only at hspot
   subst hspot
   refine⟨b,off,1,(zs.take len).map (Value.int k),rfl,by omega,fun j v hj=>?_,gt _ k _⟩
   simp only[Ir] at hj
   cases hz2:(zs.take len)[j]? with
   |none=>simp[hz2] at hj
   |some z=>
    simp[hz2] at hj
    have hjl:j<len:=by have:=(HD.1 hz2).1;simp at this;omega
    have hzj:zs[j]?=G z:=by rw[IX] at hz2;simpa[hjl] using hz2
    have:=hc j (by omega)
    rw[Addr.add_lit] at this
    simp only[memOf]
    rw[this, ←hj]
    simp[HI,hzj]
theorem jf{w w':x5}{g':Gh}{σ':St}(h:WI ⟨g0 w,w,⟨[],[]⟩⟩ g' σ' w'):Below w.heap.size w w':=by
 exact⟨h.os,h.tape,h.output,h.size,fun b hb=>(h.keep b hb ED).1⟩
theorem kf{n:Int}(h:(Lit.int .u8 n).wf=J):0<=n/\n<256:=by
 simp only[Lit.wf,HB,HK,show IntKind.u8.min=0 from by decide,show IntKind.u8.max=255 from by decide] at h
 omega
theorem jg{w:x5}{a:Option Addr}{len cap:Nat}{zs:List Int}(h:IsRow .u8 w a len cap zs):∀x∈zs.take len,0<=x/\x<256:=by
 intro x hx
 rcases h with⟨_,_,_,rfl⟩|⟨_,_,_,_,_,_,hw⟩
 ·simp at hx
 ·exact kf (hw x (IR hx))
theorem g8:∀l:List Int,(∀x∈l,0<=x/\x<256)->∃s:List UInt8,l.map (aa .u8)=s.map vb
 |[],_=>⟨[],rfl⟩
 |x::l,h=>by
  obtain⟨s,hs⟩:=g8 l fun y hy=>h y (by simp[hy])
  have hx:=h x (by simp)
  refine⟨UInt8.ofNat x.toNat::s,?_⟩
  rw[Ia,Ia,hs]
  have:((UInt8.ofNat x.toNat).toNat:Int)=x:=by
   have h1:(UInt8.ofNat x.toNat).toNat=x.toNat%256:=by simp
   rw[h1];omega
  rw[show aa .u8 x=vb (UInt8.ofNat x.toNat) from by rw[vb,this]]
theorem law_bytesG{f:yx}(hspec:∀s:List UInt8,Aa PP f [.v (i4 s)] ⟨[],[]⟩ (.v (.bool true)) ⟨[],[]⟩){a:Option Addr}{len cap:Nat}{zs:List Int}{w:x5}(h:IsRow .u8 w a len cap zs)(hG:Eh (memOf w)/\GW w):
  Calls PP f #[.slice a len cap] w fun e w'=>e=.returned (.bool true)/\Below w.heap.size w w':=by
 obtain⟨s,hs⟩:=g8 _ (jg h)
 have hr0:=i2 h
 rw[hs] at hr0
 refine Calls.mono ((hspec s).2 (g0 w) w [.slice a len cap] (wrep0 w hG.1 hG.2) (A9.2 ⟨_,rfl,by simp only[Ag];exact hr0⟩)) ?_
 rintro e w' ⟨u,g',rfl,hw,hr⟩
 simp only[Ag,Es] at hr
 subst hr
 exact⟨rfl,jf hw⟩
set_option maxRecDepth 20000
abbrev laid6:List (String×DataW Unit):=[("math/bits.deBruijn32tab",Rows.laid_math_bits_deBruijn32tab),("math/bits.deBruijn64tab",Rows.laid_math_bits_deBruijn64tab),("internal/strconv.uint64pow10",Rows.laid_internal_strconv_uint64pow10)]
theorem forms_ok{w:x5}(_:laidMetH PP laid6 w):Eh (memOf w)/\GW w:=⟨⟨fun p hp=>by simp[k9] at hp,Jp⟩,fun p hp=>by simp[Gy] at hp⟩
end Go.Proofs.YtfhgjfkleggjfaaGreatDoor
