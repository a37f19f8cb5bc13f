/-
  A part of the proof.
-/
import Derived.Test.YtcjhkglbdahfgaaGreatEd
import Derived.Below
namespace Go.Proofs.YtcjhkglbdahfgaaGreat
open Go.Dv Go.Nv Go.RowKit
open List (all_eq_true append_assoc append_nil cons_append drop_eq_getElem_cons drop_of_length_le drop_zero ext_getElem? flatMap_cons flatten flatten_cons foldl_cons getD_eq_getElem?_getD getElem?_append_left getElem?_append_right getElem?_drop getElem?_eq_getElem getElem?_eq_none getElem?_map getElem?_set getElem?_take getElem?_toArray length length_append length_cons length_drop length_map length_nil length_pos_iff length_set length_take map map_append map_cons map_map map_nil mem_append mem_cons mem_map mem_of_getElem? mem_of_mem_drop mem_of_mem_take mem_or_eq_of_mem_set mem_singleton nil_append not_mem_nil replicate replicate_succ set_cons_succ set_cons_zero size_toArray take take_add_one take_append_drop take_left take_of_length_le take_succ_cons zipWith)
open Go.IntKind (wrap i64 u64)
def IsRow(k:IntKind)(w:World)(a:Option Addr)(len cap:Nat)(zs:List Int):Prop:=
 (a=none/\len=0/\cap=0/\zs=[])∨
 ∃x,a=some x/\len<=cap/\cap<=maxLen/\zs.length=cap/\(∀i,i<zs.length->w.cell? (x.add i)=some (.int k (zs.getD i 0)))/\∀n∈zs,(Lit.int k n).wf=true
def memOf(w:World):Mem:=fun b o=>w.cell? ⟨b,o,none⟩
def g0(w:World):Gh:={ M:=memOf w,β:=fun _=>0,n:=0,ι:=fun _ _=>none,κ:=fun _=>0 }
theorem wrep0(w:World):WRep (g0 w) ⟨[],[]⟩ w where
 n:=rfl
 mem:=fun b o v h=>h
 obj:=fun i cs hi=>by simp at hi
 inj:=fun i j cs ds hi=>by simp at hi
 own:=fun k sz xs hx=>by simp at hx
 tags:=by simp
 sep:=fun x hx=>by simp at hx
 ownObj:=fun x hx=>by simp at hx
 fresh:=fun _ _ _=>rfl
 gl:=⟨fun p hp=>by simp[GLOB] at hp,trivial⟩
 gw:=fun p hp=>by simp[FM] at hp
theorem repE_ints(M:Mem)(k:IntKind):∀xs:List Int,repE M 1 (xs.map (V.int k)) (xs.map (Value.int k))
 |[]=>by simp[repE]
 |x::xs=>by simp only[map_cons,repE];exact⟨[.int k x],xs.map (Value.int k),rfl,rfl,by simp[repC],repE_ints M k xs⟩
theorem isRow_rep{k:IntKind}{w:World}{a:Option Addr}{len cap:Nat}{zs:List Int}(h:IsRow k w a len cap zs):repV (memOf w) (.list ((zs.take len).map (V.int k))) (.slice a len cap):=by
 rw[AO]
 rcases h with⟨rfl,rfl,rfl,rfl⟩|⟨x,rfl,hl,_,hz,hc,_⟩
 ·exact⟨none,0,rfl,Nat.le_refl _,.inl rfl⟩
 ·have hlen:((zs.take len).map (V.int k)).length=len:=by simp;omega
  refine⟨some x,cap,by rw[hlen],by rw[hlen];exact hl,?_⟩
  rcases Nat.eq_zero_or_pos len with h0|hpos
  ·exact .inl (List.eq_nil_of_length_eq_zero (by rw[hlen];exact h0))
  ·right
   have hspot:x.spot=none:=by
    have h0:=hc 0 (by omega)
    cases hs:x.spot with
    |none=>rfl
    |some s=>
     have:x.add 0=x:=by simp[Addr.add]
     rw[this] at h0
     unfold World.cell? at h0
     split at h0
     ·rw[hs] at h0;simp at h0
     ·simp at h0
   obtain⟨b,off,spot⟩:=x
   simp only at hspot
   subst hspot
   refine⟨b,off,1,(zs.take len).map (Value.int k),rfl,by omega,fun j v hj=>?_,repE_ints _ k _⟩
   simp only[getElem?_map] at hj
   cases hz2:(zs.take len)[j]? with
   |none=>simp[hz2] at hj
   |some z=>
    simp[hz2] at hj
    have hjl:j<len:=by have:=(List.getElem?_eq_some_iff.1 hz2).1;simp at this;omega
    have hzj:zs[j]?=some z:=by rw[getElem?_take] at hz2;simpa[hjl] using hz2
    have:=hc j (by omega)
    rw[Addr.add_lit] at this
    simp only[memOf]
    rw[this, ←hj]
    simp[getD_eq_getElem?_getD,hzj]
theorem below_of{w w':World}{g':Gh}{σ':St}(h:WI ⟨g0 w,w,⟨[],[]⟩⟩ g' σ' w'):Below w.heap.size w w':=by
 exact⟨h.os,h.tape,h.output,h.size,fun b hb=>(h.keep b hb FC).1⟩
theorem byte_ok{n:Int}(h:(Lit.int .u8 n).wf=true):0<=n/\n<256:=by
 simp only[Lit.wf,Bool.and_eq_true,decide_eq_true_eq,show IntKind.u8.min=0 from by decide,show IntKind.u8.max=255 from by decide] at h
 omega
theorem bytes_ok{w:World}{a:Option Addr}{len cap:Nat}{zs:List Int}(h:IsRow .u8 w a len cap zs):∀x∈zs.take len,0<=x/\x<256:=by
 intro x hx
 rcases h with⟨_,_,_,rfl⟩|⟨_,_,_,_,_,_,hw⟩
 ·simp at hx
 ·exact byte_ok (hw x (mem_of_mem_take hx))
theorem bytes_of:∀l:List Int,(∀x∈l,0<=x/\x<256)->∃s:List UInt8,l.map (V.int .u8)=s.map vb
 |[],_=>⟨[],rfl⟩
 |x::l,h=>by
  obtain⟨s,hs⟩:=bytes_of l fun y hy=>h y (by simp[hy])
  have hx:=h x (by simp)
  refine⟨UInt8.ofNat x.toNat::s,?_⟩
  rw[map_cons,map_cons,hs]
  have:((UInt8.ofNat x.toNat).toNat:Int)=x:=by
   have h1:(UInt8.ofNat x.toNat).toNat=x.toNat%256:=by simp
   rw[h1];omega
  rw[show V.int .u8 x=vb (UInt8.ofNat x.toNat) from by rw[vb,this]]
theorem law_bytes{f:FuncId}(hspec:∀s:List UInt8,Ab PP f [.v (vBs s)] ⟨[],[]⟩ (.v (.bool true)) ⟨[],[]⟩){a:Option Addr}{len cap:Nat}{zs:List Int}{w:World}(h:IsRow .u8 w a len cap zs):
  Calls PP f #[.slice a len cap] w fun e w'=>e=.returned (.bool true)/\Below w.heap.size w w':=by
 obtain⟨s,hs⟩:=bytes_of _ (bytes_ok h)
 have hr0:=isRow_rep h
 rw[hs] at hr0
 refine Calls.mono ((hspec s).2 (g0 w) w [.slice a len cap] (wrep0 w) (A0.2 ⟨_,rfl,by simp only[Ae];exact hr0⟩)) ?_
 rintro e w' ⟨u,g',rfl,hw,hr⟩
 simp only[Ae,Da] at hr
 subst hr
 exact⟨rfl,below_of hw⟩
theorem law_bytesB{f:FuncId}(hspec:∀(s:List UInt8) (b:Int),0<=b/\b<256->Ab PP f [.v (vBs s),.v (.int .u8 b)] ⟨[],[]⟩ (.v (.bool true)) ⟨[],[]⟩){a:Option Addr}{len cap:Nat}{zs:List Int}{x:Int}{w:World}(h:IsRow .u8 w a len cap zs)(hx:(Lit.int .u8 x).wf=true):
  Calls PP f #[.slice a len cap,.int .u8 x] w fun e w'=>e=.returned (.bool true)/\Below w.heap.size w w':=by
 obtain⟨s,hs⟩:=bytes_of _ (bytes_ok h)
 have hr0:=isRow_rep h
 rw[hs] at hr0
 refine Calls.mono ((hspec s x (byte_ok hx)).2 (g0 w) w [.slice a len cap,.int .u8 x] (wrep0 w) ?_) ?_
 ·simp only[Ac]
  exact⟨_,_,rfl,by simp only[Ae];exact hr0,_,_,rfl,by simp only[Ae,A1],rfl⟩
 rintro e w' ⟨u,g',rfl,hw,hr⟩
 simp only[Ae,Da] at hr
 subst hr
 exact⟨rfl,below_of hw⟩
end Go.Proofs.YtcjhkglbdahfgaaGreat
