/-
  A part of the proof.
-/
import Derived.Test.YthmjfmacdlhfjaaGreatZd
import Derived.Below
namespace Go.Proofs.YthmjfmacdlhfjaaGreat
open Go.Dv Go.Nv Go.RowKit
open Go.IntKind (u64)
open Go.IntKind renaming wrap → yr, i64 → yq
open List renaming length → I, map → U, drop → W
open Option renaming some → G
open Bool renaming true → J, false → O
open Decidable renaming decide → Y
open Int renaming toNat → Z
open Go.Dv.V renaming list → ai, str → ae, agg → ab, int → aa, ref → bz, fn → bw, nils → bv, bool → bu
open Go.Dv.D renaming v → bt, acc → br, ptr → bq, arr → bo, gro → bm, tup → bl, undef → bk, dagg → bj
open Go.Dv.St renaming mk → bi
open Go.Dv.KI renaming blk → bh
open _root_.ByteArray renaming mk → bg
open Go renaming Operand → x5, Program → x4, TypeId → yz, World → yy, Value → yx, Oper → yw, FuncId → yv, Func → yu, IntKind → yt
def IsRow(k:yt)(w:yy)(a:Option Addr)(len cap:Nat)(zs:List Int):Prop:=
 (a=none/\len=0/\cap=0/\zs=[])∨
 ∃x,a=G x/\len<=cap/\cap<=maxLen/\zs.length=cap/\(∀i,i<I zs->w.cell? (x.add i)=G (.int k (zs.getD i 0)))/\∀n∈zs,(Lit.int k n).wf=J
def memOf(w:yy):cg:=fun b o=>w.cell? ⟨b,o,none⟩
def g0(w:yy):Gh:={ M:=memOf w,β:=fun _=>0,n:=0,ι:=fun _ _=>none,κ:=fun _=>0 }
theorem wrep0(w:yy):c8 (g0 w) ⟨[],[]⟩ w where
 n:=rfl
 mem:=fun b o v h=>h
 obj:=fun i cs hi=>by simp at hi
 inj:=fun i j cs ds hi=>by simp at hi
 own:=fun k sz xs hx=>by simp at hx
 tags:=by simp
 sep:=fun x hx=>by simp at hx
 ownObj:=fun x hx=>by simp at hx
 fresh:=fun _ _ _=>rfl
 gl:=⟨fun p hp=>by simp[jl] at hp,trivial⟩
 gw:=fun p hp=>by simp[G8] at hp
theorem fp(M:cg)(k:yt):∀xs:List Int,repE M 1 (xs.map (aa k)) (xs.map (Value.int k))
 |[]=>by simp[repE]
 |x::xs=>by simp only[Iu,repE];exact⟨[.int k x],xs.map (Value.int k),rfl,rfl,by simp[repC],fp M k xs⟩
theorem gb{k:yt}{w:yy}{a:Option Addr}{len cap:Nat}{zs:List Int}(h:IsRow k w a len cap zs):repV (memOf w) (.list ((zs.take len).map (aa k))) (.slice a len cap):=by
 rw[B3]
 rcases h with⟨rfl,rfl,rfl,rfl⟩|⟨x,rfl,hl,_,hz,hc,_⟩
 ·exact⟨none,0,rfl,HX _,.inl rfl⟩
 ·have hlen:I ((zs.take len).map (aa k))=len:=by simp;omega
  refine⟨G x,cap,by rw[hlen],by rw[hlen];exact hl,?_⟩
  rcases Nat.eq_zero_or_pos len with h0|hpos
  ·exact .inl (Js (by rw[hlen];exact h0))
  ·right
   have hspot:x.spot=none:=by
    have h0:=hc 0 (by omega)
    cases hs:x.spot with
    |none=>rfl
    |some s=>
     have:x.add 0=x:=by simp[Addr.add]
     rw[this] at h0
     unfold World.cell? at h0
     split at h0
     ·rw[hs] at h0;simp at h0
     ·simp at h0
   obtain⟨b,off,spot⟩:=x
   simp only at hspot
   subst hspot
   refine⟨b,off,1,(zs.take len).map (Value.int k),rfl,by omega,fun j v hj=>?_,fp _ k _⟩
   simp only[I9] at hj
   cases hz2:(zs.take len)[j]? with
   |none=>simp[hz2] at hj
   |some z=>
    simp[hz2] at hj
    have hjl:j<len:=by have:=(HT.1 hz2).1;simp at this;omega
    have hzj:zs[j]?=G z:=by rw[Jw] at hz2;simpa[hjl] using hz2
    have:=hc j (by omega)
    rw[Addr.add_lit] at this
    simp only[memOf]
    rw[this, ←hj]
    simp[HY,hzj]
theorem ir{w w':yy}{g':Gh}{σ':St}(h:WI ⟨g0 w,w,⟨[],[]⟩⟩ g' σ' w'):Below w.heap.size w w':=by
 exact⟨h.os,h.tape,h.output,h.size,fun b hb=>(h.keep b hb EA).1⟩
theorem law_ints{f:yv}(hspec:∀l:List Int,Aa PP f [.v (cz l)] ⟨[],[]⟩ (.v (.bool true)) ⟨[],[]⟩){a:Option Addr}{len cap:Nat}{zs:List Int}{w:yy}(h:IsRow .i64 w a len cap zs):
  Calls PP f #[.slice a len cap] w fun e w'=>e=.returned (.bool true)/\Below w.heap.size w w':=by
 have hr0:=gb h
 refine Calls.mono ((hspec (zs.take len)).2 (g0 w) w [.slice a len cap] (wrep0 w) (AH.2 ⟨_,rfl,by simp only[Av];exact hr0⟩)) ?_
 rintro e w' ⟨u,g',rfl,hw,hr⟩
 simp only[Av,Et] at hr
 subst hr
 exact⟨rfl,ir hw⟩
end Go.Proofs.YthmjfmacdlhfjaaGreat
