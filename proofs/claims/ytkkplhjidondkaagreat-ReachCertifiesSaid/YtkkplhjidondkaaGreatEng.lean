/-
  A part of the proof.
-/
import Derived.Test.YtkkplhjidondkaaGreatZd
import Derived.Below
namespace Go.Proofs.YtkkplhjidondkaaGreat
open Go.Dv Go.Nv Go.RowKit
open Go.IntKind (u64)
open Go.IntKind renaming wrap → yu, i64 → yt
open List renaming length → I, map → U, drop → W
open Option renaming some → G
open Bool renaming true → J, false → O
open Decidable renaming decide → Y
open Int renaming toNat → Z
open Go.Dv.V renaming list → ai, str → ae, agg → ab, int → aa, ref → bz, fn → bw, nils → bv, bool → bu
open Go.Dv.D renaming v → bt, acc → br, ptr → bq, arr → bo, gro → bm, tup → bk, undef → bj, dagg → bi
open Go.Dv.St renaming mk → bh
open Go.Dv.KI renaming blk → bf
open _root_.ByteArray renaming mk → bc
open Go renaming Operand → x8, Program → x7, TypeId → x6, World → x5, Value → yz, Oper → yy, FuncId → yx, Func → yw, IntKind → yv
def IsRow(k:yv)(w:x5)(a:Option Addr)(len cap:Nat)(zs:List Int):Prop:=
 (a=none/\len=0/\cap=0/\zs=[])∨
 ∃x,a=G x/\len<=cap/\cap<=maxLen/\zs.length=cap/\(∀i,i<I zs->w.cell? (x.add i)=G (.int k (zs.getD i 0)))/\∀n∈zs,(Lit.int k n).wf=J
def memOf(w:x5):c6:=fun b o=>w.cell? ⟨b,o,none⟩
def g0(w:x5):Gh:={ M:=memOf w,β:=fun _=>0,n:=0,ι:=fun _ _=>none,κ:=fun _=>0 }
theorem wrep0(w:x5):dm (g0 w) ⟨[],[]⟩ w where
 n:=rfl
 mem:=fun b o v h=>h
 obj:=fun i cs hi=>by grind
 inj:=fun i j cs ds hi=>by grind
 own:=fun k sz xs hx=>by grind
 tags:=by simp
 sep:=fun x hx=>by grind
 ownObj:=fun x hx=>by grind
 fresh:=fun _ _ _=>rfl
 gl:=⟨fun p hp=>by grind[mj],trivial⟩
 gw:=fun p hp=>by grind[Gy]
theorem g9(M:c6)(k:yv):∀xs:List Int,repE M 1 (xs.map (aa k)) (xs.map (Value.int k))
 |[]=>by rfl
 |x::xs=>by exact⟨[.int k x],xs.map (Value.int k),rfl,rfl,by simp[repC],g9 M k xs⟩
theorem iv{k:yv}{w:x5}{a:Option Addr}{len cap:Nat}{zs:List Int}(h:IsRow k w a len cap zs):repV (memOf w) (.list ((zs.take len).map (aa k))) (.slice a len cap):=by
 rw[B4]
 rcases h with⟨rfl,rfl,rfl,rfl⟩|⟨x,rfl,hl,_,hz,hc,_⟩
 ·simp_all
 ·have hlen:I ((zs.take len).map (aa k))=len:=by grind
  refine⟨G x,cap,by grind,by omega,?_⟩
  rcases Nat.eq_zero_or_pos len with h0|hpos
  ·grind
  ·right
   have hspot:x.spot=none:=by
    have h0:=hc 0 (by omega)
    cases hs:x.spot with
    |none=>rfl
    |some s=>
     have:x.add 0=x:=by simp[Addr.add]
     rw[this] at h0
     unfold World.cell? at h0
     split at h0
     ·rw[hs] at h0;simp at h0
     ·simp at h0
   obtain⟨b,off,spot⟩:=x
   subst hspot
   refine⟨b,off,1,(zs.take len).map (Value.int k),rfl,by omega,fun j v hj=>?_,g9 _ k _⟩
   grind[Addr.add_lit,memOf]
theorem ig{w w':x5}{g':Gh}{σ':St}(h:WI ⟨g0 w,w,⟨[],[]⟩⟩ g' σ' w'):Below w.heap.size w w':=by
 exact⟨h.os,h.tape,h.output,h.size,fun b hb=>(h.keep b hb Hb).1⟩
theorem jd{n:Int}(h:(Lit.int .u8 n).wf=J):0<=n/\n<256:=by
 simp only[Lit.wf,HJ,HS,show IntKind.u8.min=0 from by decide,show IntKind.u8.max=255 from by decide] at h
 omega
theorem ii{w:x5}{a:Option Addr}{len cap:Nat}{zs:List Int}(h:IsRow .u8 w a len cap zs):∀x∈zs.take len,0<=x/\x<256:=by
 intro x hx
 rcases h with⟨_,_,_,rfl⟩|⟨_,_,_,_,_,_,hw⟩
 ·grind
 ·exact jd (hw x (Ji hx))
theorem gi:∀l:List Int,(∀x∈l,0<=x/\x<256)->∃s:List UInt8,l.map (aa .u8)=s.map vb
 |[],_=>⟨[],rfl⟩
 |x::l,h=>by
  obtain⟨s,hs⟩:=gi l fun y hy=>h y (by simp[hy])
  have hx:=h x (by simp)
  refine⟨UInt8.ofNat x.toNat::s,?_⟩
  have:((UInt8.ofNat x.toNat).toNat:Int)=x:=by
   have h1:(UInt8.ofNat x.toNat).toNat=x.toNat%256:=by simp
   rw[h1];omega
  grind
theorem law_bytes{f:yx}(hspec:∀s:List UInt8,Aa PP f [.v (jr s)] ⟨[],[]⟩ (.v (.bool true)) ⟨[],[]⟩){a:Option Addr}{len cap:Nat}{zs:List Int}{w:x5}(h:IsRow .u8 w a len cap zs):
  Calls PP f #[.slice a len cap] w fun e w'=>e=.returned (.bool true)/\Below w.heap.size w w':=by
 obtain⟨s,hs⟩:=gi _ (ii h)
 have hr0:=iv h
 rw[hs] at hr0
 refine Calls.mono ((hspec s).2 (g0 w) w [.slice a len cap] (wrep0 w) (AB.2 ⟨_,rfl,by exact hr0⟩)) ?_
 grind[Ag,DW,ig]
theorem pu{f:yx}(hspec:∀(s:List UInt8) (b:Int),0<=b/\b<256->Aa PP f [.v (jr s),.v (.int .u8 b)] ⟨[],[]⟩ (.v (.bool true)) ⟨[],[]⟩){a:Option Addr}{len cap:Nat}{zs:List Int}{x:Int}{w:x5}(h:IsRow .u8 w a len cap zs)(hx:(Lit.int .u8 x).wf=J):
  Calls PP f #[.slice a len cap,.int .u8 x] w fun e w'=>e=.returned (.bool true)/\Below w.heap.size w w':=by
 obtain⟨s,hs⟩:=gi _ (ii h)
 have hr0:=iv h
 refine Calls.mono ((hspec s x (jd hx)).2 (g0 w) w [.slice a len cap,.int .u8 x] (wrep0 w) ?_) ?_
 all_goals grind[Af,Ag,AC,DW,ig,g0]
end Go.Proofs.YtkkplhjidondkaaGreat
