/-
  A part of the proof.
-/
import Derived.Calls
import Derived.Laws.AppendOwn
import Derived.Laws.MakeOwn
import Derived.Laws.Slices
import Derived.Laws.Rows
import Derived.Tactics
import Derived.Laws.Strings
import Derived.Great.BuildSlice
import Derived.Lib.Strings
import Derived.Orders
import Derived.Test.YtkkplhjidondkaaGreatProg
import Derived.KernelRfl
namespace Go
abbrev HH:=@List.length_map
abbrev HI:=@List.getElem?_eq_getElem
abbrev HJ:=@Bool.and_eq_true
abbrev HK:=@decide_eq_true
abbrev HL:=@List.getElem?_eq_some_iff
abbrev HM:=@decide_eq_false
abbrev HN:=@List.length_cons
abbrev HO:=@List.mem_of_getElem?
abbrev HP:=@Nat.le_refl
abbrev HQ:=@List.getD_eq_getElem?_getD
abbrev HR:=@List.length_nil
abbrev HS:=@decide_eq_true_eq
abbrev HT:=@of_decide_eq_true
abbrev HU:=@eq_false_of_ne_true
abbrev HV:=@List.cons.injEq
abbrev HW:=@List.length_append
abbrev HX:=@List.drop_eq_getElem_cons
abbrev HY:=@List.mem_singleton
abbrev HZ:=@if_neg
abbrev Ia:=@Bool.and_eq_true_iff
abbrev Ib:=@List.getElem?_append_right
abbrev Ic:=@List.drop_of_length_le
abbrev Ie:=@if_pos
abbrev Ig:=@List.getElem?_append_left
abbrev Ih:=@congrArg
abbrev Ii:=@Nat.eq_of_beq_eq_true
abbrev Ij:=@Option.some.inj
abbrev Ik:=@List.map_cons
abbrev Il:=@Int.le_refl
abbrev Im:=@List.take_of_length_le
abbrev Io:=@Nat.le_of_ble_eq_true
abbrev Ip:=@List.length_take
abbrev Iq:=@Bool.false_and
abbrev Ir:=@Option.some.injEq
abbrev Is:=@Bool.true_and
abbrev Iu:=@Nat.zero_le
abbrev Iv:=@beq_iff_eq
abbrev Iw:=@Array.length_toList
abbrev Ix:=@and_true
abbrev Iy:=@beq_eq_false_iff_ne
abbrev Iz:=@List.mem_cons
abbrev I1:=@List.getElem?_map
abbrev I2:=@List.mem_map
abbrev I3:=@of_decide_eq_false
abbrev I4:=@Nat.zero_add
abbrev I5:=@List.all_eq_true
abbrev I6:=@List.mem_append
abbrev I7:=@List.getElem?_eq_none
abbrev I8:=@List.append_nil
abbrev I9:=@List.mem_of_mem_drop
abbrev IA:=@Bool.not_eq_true'
abbrev IB:=@And.intro
abbrev IC:=@List.replicate_succ
abbrev ID:=@Array.getElem?_eq_some_iff
abbrev IE:=@Nat.le_trans
abbrev IF:=@List.map_nil
abbrev IG:=@Nat.add_zero
abbrev II:=@Int.min_def
abbrev IJ:=@Option.map_some
abbrev IK:=@List.getElem?_cons_zero
abbrev IL:=@Array.ext'
abbrev IM:=@List.getElem?_toArray
abbrev IN:=@List.mem_or_eq_of_mem_set
abbrev IP:=@List.length_drop
abbrev IQ:=@List.append_assoc
abbrev IR:=@Int.toNat_natCast
abbrev IT:=@if_true
abbrev IU:=@Array.getD_eq_getD_getElem?
abbrev IV:=@Nat.add_mul
abbrev IW:=@List.take_add_one
abbrev IX:=@List.foldl_cons
abbrev IY:=@List.size_toArray
abbrev IZ:=@List.map_append
abbrev Ji:=@List.mem_of_mem_take
abbrev Jj:=@List.eq_nil_of_length_eq_zero
abbrev Jk:=@decide_eq_false_iff_not
abbrev Jm:=@Nat.lt_of_lt_of_le
abbrev Jn:=@List.set_cons_succ
abbrev Jo:=@List.getElem?_take
abbrev Jp:=@List.flatten_cons
abbrev Jq:=@Option.getD_some
abbrev Jr:=@List.not_mem_nil
abbrev Js:=@List.take_append_of_le_length
abbrev Jt:=@List.drop_zero
abbrev Ju:=@Array.getElem?_toList
abbrev Jv:=@Bool.and_false
abbrev Jw:=@Option.map_none
abbrev Jx:=@True.intro
abbrev Jy:=@Bool.false_eq_true
abbrev Jz:=@List.cons_append
abbrev J0:=@List.getElem?_cons_succ
end Go
namespace Go.Dv
open Go.IntKind (u64)
open Go.IntKind renaming wrap → yu, i64 → yt
open List renaming length → I, map → U, drop → W
open Option renaming some → G
open Bool renaming true → J, false → O
open Decidable renaming decide → Y
open Int renaming toNat → Z
open _root_.ByteArray renaming mk → bc
open Go renaming Operand → x8, Program → x7, TypeId → x6, World → x5, Value → yz, Oper → yy, FuncId → yx, Func → yw, IntKind → yv
inductive V where
 |int (k:yv) (n:Int)
 |bool (b:Bool)
 |str (s:List UInt8)
 |list (xs:List V)
 |agg (cs:List V)
 |ref (x:V)
 |fn (f:yx) (fs cs:List V)
 |nilfn
 |nilp
 |nils
 |ifc (t:x6) (x:V)
 deriving Inhabited
def V.isAgg:V->Bool
 |.agg _=>true
 |_=>false
def V.size:V->Nat
 |.agg cs=>I cs
 |_=>1
abbrev dy:=Nat->Nat->Option yz
def fg(M:dy)(b off:Nat)(ws:List yz):Prop:=∀j v,ws[j]?=G v->M b (off+j)=G v
def Xq:V->List yz->yz
 |.agg _,ws=>.agg ws.toArray
 |_,ws=>ws.headD (.tuple #[])
mutual
def repC(M:dy):V->List yz->Prop
 |.int k n,ws=>ws=[.int k n]
 |.bool b,ws=>ws=[.bool b]
 |.str s,ws=>ws=[.string ⟨s.toArray⟩]
 |.list xs,ws=>∃a cap,ws=[.slice a (I xs) cap]/\xs.length<=cap/\(xs=[]∨∃b off sz us,a=G ⟨b,off,none⟩/\0<sz/\fg M b off us/\repE M sz xs us)
 |.agg cs,ws=>repA M cs ws
 |.ref x,ws=>∃b off us,ws=[.pointer (G ⟨b,off,none⟩)]/\fg M b off us/\repC M x us
 |.fn f fs cs,ws=>∃us vs,ws=[.func (.func f) us.toArray vs.toArray]/\GH M fs us/\GH M cs vs
 |.nilfn,ws=>ws=[.nilFunc]
 |.nilp,ws=>ws=[.pointer none]
 |.nils,ws=>ws=[.slice none 0 0]
 |.ifc t x,ws=>∃us,ws=[.iface t (Xq x us)]/\repC M x us
def repE(M:dy)(sz:Nat):List V->List yz->Prop
 |[],us=>us=[]
 |x::xs,us=>∃u1 u2,us=u1++u2/\u1.length=sz/\repC M x u1/\repE M sz xs u2
def repA(M:dy):List V->List yz->Prop
 |[],us=>us=[]
 |c::cs,us=>∃u us',us=u::us'/\c.isAgg=O/\repC M c [u]/\repA M cs us'
def GH(M:dy):List V->List yz->Prop
 |[],us=>us=[]
 |x::xs,us=>∃u us' ws,us=u::us'/\repC M x ws/\u=Xq x ws/\GH M xs us'
end
def repV(M:dy)(x:V)(u:yz):Prop:=∃ws,repC M x ws/\u=Xq x ws
def dy.le(M M':dy):Prop:=∀b o v,M b o=G v->M' b o=G v
theorem dy.le_refl(M:dy):M.le M:=fun _ _ _ h=>h
theorem dy.le_trans{M M' M'':dy}(h:M.le M')(h':M'.le M''):M.le M'':=by grind[dy.le]
theorem fg.mono{M M':dy}{b off:Nat}{ws:List yz}(hm:M.le M')(h:fg M b off ws):fg M' b off ws:=fun j v e=>hm _ _ _ (h j v e)
mutual
theorem repC.mono{M M':dy}(hm:M.le M'):∀(x:V) (ws:List yz),repC M x ws->repC M' x ws
 |.int k n,ws,h=>h
 |.bool b,ws,h=>h
 |.str s,ws,h=>h
 |.list xs,ws,h=>by
  simp only[repC] at h⊢
  obtain⟨a,cap,e,hc,h⟩:=h
  refine⟨a,cap,e,hc,?_⟩
  rcases h with h|⟨b,off,sz,us,ha,hs,hi,he⟩
  ·exact .inl h
  ·exact .inr ⟨b,off,sz,us,ha,hs,hi.mono hm,repE.mono hm sz xs us he⟩
 |.agg cs,ws,h=>by simp only[repC] at h⊢;exact repA.mono hm cs ws h
 |.ref x,ws,h=>by
  simp only[repC] at h⊢
  obtain⟨b,off,us,e,hi,hx⟩:=h
  exact⟨b,off,us,e,hi.mono hm,repC.mono hm x us hx⟩
 |.fn f fs cs,ws,h=>by
  simp only[repC] at h⊢
  obtain⟨us,vs,e,h1,h2⟩:=h
  exact⟨us,vs,e,GH.mono hm fs us h1,GH.mono hm cs vs h2⟩
 |.nilfn,ws,h=>h
 |.nilp,ws,h=>h
 |.nils,ws,h=>h
 |.ifc t x,ws,h=>by
  simp only[repC] at h⊢
  obtain⟨us,e,hx⟩:=h
  exact⟨us,e,repC.mono hm x us hx⟩
theorem repE.mono{M M':dy}(hm:M.le M')(sz:Nat):∀(xs:List V) (us:List yz),repE M sz xs us->repE M' sz xs us
 |[],us,h=>h
 |x::xs,us,h=>by
  simp only[repE] at h⊢
  obtain⟨u1,u2,e,hl,h1,h2⟩:=h
  exact⟨u1,u2,e,hl,repC.mono hm x u1 h1,repE.mono hm sz xs u2 h2⟩
theorem repA.mono{M M':dy}(hm:M.le M'):∀(cs:List V) (us:List yz),repA M cs us->repA M' cs us
 |[],us,h=>h
 |c::cs,us,h=>by
  simp only[repA] at h⊢
  obtain⟨u,us',e,ha,h1,h2⟩:=h
  exact⟨u,us',e,ha,repC.mono hm c [u] h1,repA.mono hm cs us' h2⟩
theorem GH.mono{M M':dy}(hm:M.le M'):∀(xs:List V) (us:List yz),GH M xs us->GH M' xs us
 |[],us,h=>h
 |x::xs,us,h=>by
  simp only[GH] at h⊢
  obtain⟨u,us',ws,e,h1,h2,h3⟩:=h
  exact⟨u,us',ws,e,repC.mono hm x ws h1,h2,GH.mono hm xs us' h3⟩
end
theorem repV.mono{M M':dy}(hm:M.le M'){x:V}{u:yz}(h:repV M x u):repV M' x u:=
 by grind[repC.mono,repV]
theorem DY{M:dy}:∀{cs:List V} {us:List yz},repA M cs us->I us=I cs
 |[],us,h=>by simp only[repA] at h;simp[h]
 |c::cs,us,h=>by
  simp only[repA] at h
  obtain⟨u,us',rfl,_,_,h2⟩:=h
  simp[DY h2]
theorem G6{M:dy}:∀{x:V} {ws:List yz},repC M x ws->I ws=x.size
 |.int k n,ws,h=>by grind[repC,V.size]
 |.bool b,ws,h=>by grind[repC,V.size]
 |.str s,ws,h=>by grind[repC,V.size]
 |.list xs,ws,h=>by grind[repC,V.size]
 |.agg cs,ws,h=>by grind[repC,V.size,DY]
 |.ref x,ws,h=>by grind[repC,V.size]
 |.fn f fs cs,ws,h=>by grind[repC,V.size]
 |.nilfn,ws,h=>by grind[repC,V.size]
 |.nilp,ws,h=>by grind[repC,V.size]
 |.nils,ws,h=>by grind[repC,V.size]
 |.ifc t x,ws,h=>by grind[repC,V.size]
theorem CZ{M:dy}{x:V}{ws:List yz}(hx:x.isAgg=O)(h:repC M x ws):∃u,ws=[u]/\Xq x ws=u/\u.oneCell'=J:=by
 cases x<;>grind[repC,Xq,V.isAgg,Value.oneCell']
theorem BI{M:dy}{x:V}{u:yz}(hx:x.isAgg=O):repV M x u↔repC M x [u]:=by
 grind[CZ,repV]
@[simp] theorem AC {M:dy} {k:yv} {n:Int} {u:yz}:repV M (.int k n) u↔u=.int k n:=by rw[BI rfl];simp[repC]
@[simp] theorem DW {M:dy} {b:Bool} {u:yz}:repV M (.bool b) u↔u=.bool b:=by rw[BI rfl];simp[repC]
@[simp] theorem Dr {M:dy} {s:List UInt8} {u:yz}:repV M (.str s) u↔u=.string ⟨s.toArray⟩:=by rw[BI rfl];simp[repC]
@[simp] theorem Akd {M:dy} {u:yz}:repV M .nilfn u↔u=.nilFunc:=by rw[BI rfl];simp[repC]
@[simp] theorem CI {M:dy} {u:yz}:repV M .nils u↔u=.slice none 0 0:=by rw[BI rfl];simp[repC]
@[simp] theorem Alk {M:dy} {u:yz}:repV M .nilp u↔u=.pointer none:=by rw[BI rfl];simp[repC]
theorem B4{M:dy}{xs:List V}{u:yz}:repV M (.list xs) u↔∃a cap,u=.slice a (I xs) cap/\xs.length<=cap/\(xs=[]∨∃b off sz us,a=G ⟨b,off,none⟩/\0<sz/\fg M b off us/\repE M sz xs us):=by
 rw[BI rfl];simp[repC]
theorem DD(M:dy):repV M (.list []) (.slice none 0 0):=by grind[B4]
theorem DB{M:dy}{x:V}{u:yz}:repV M (.ref x) u↔∃b off us,u=.pointer (G ⟨b,off,none⟩)/\fg M b off us/\repC M x us:=by rw[BI rfl];simp[repC]
theorem H4{M:dy}{f:yx}{fs cs:List V}{u:yz}:repV M (.fn f fs cs) u↔∃us vs,u=.func (.func f) us.toArray vs.toArray/\GH M fs us/\GH M cs vs:=by rw[BI rfl];simp[repC]
theorem CY{M:dy}{cs:List V}{u:yz}:repV M (.agg cs) u↔∃ws,repA M cs ws/\u=.agg ws.toArray:=by rfl
theorem D1{M:dy}{x:V}{u:yz}(hx:x.isAgg=O)(h:repV M x u):u.oneCell'=J:=by
 obtain⟨ws,h,e⟩:=h
 grind[CZ]
theorem K6{M:dy}{x:V}{u:yz}(h:repV M x u):repC M x u.cells.toList:=by
 obtain⟨ws,h,e⟩:=h
 cases hx:x.isAgg with
 |false=>
  obtain⟨u',e1,e2,h3⟩:=CZ hx h
  rw[e,e2]
  have:u'.cells= #[u']:=by cases u'<;>simp_all [Value.cells,Value.oneCell']
  grind
 |true=>
  cases x<;>grind[Xq,Value.cells,repC]
theorem H7{M:dy}:∀{cs:List V} {us:List yz},repA M cs us->∀u∈us,u.oneCell'=J
 |[],us,h=>by simp only[repA] at h;simp[h]
 |c::cs,us,h=>by
  simp only[repA] at h
  obtain⟨u,us',rfl,ha,h1,h2⟩:=h
  intro u0 hu
  rcases Iz.1 hu with rfl|hu
  ·obtain⟨u',e1,_,h3⟩:=CZ ha h1
   have:u0=u':=by simpa using e1
   rw[this];exact h3
  ·exact H7 h2 u0 hu
theorem Lc{M:dy}{x:V}{us:List yz}(h:repC M x us):∀u∈us,u.oneCell'=J:=by
 cases hx:x.isAgg with
 |false=>
  grind[CZ]
 |true=>
  cases x<;>grind[repC,H7,Value.oneCell']
inductive D where
 |v (x:V)
 |acc (k:Nat) (xs:List V)
 |ptr (o off:Nat)
 |arr (o off len:Nat)
 |gro (o len sz:Nat)
 |raw (x:yz)
 |rv (x:V) (u:yz)
 |dagg (cs:List D)
 |dfn (f:yx) (fs cs:List D)
 |tup (ds:List D)
 |err
 |undef
 deriving Inhabited
structure Gh where
 M:dy
 β:Nat->Nat
 n:Nat
 ι:Nat->Nat->Option yz
 κ:Nat->Nat
mutual
def Ag(g:Gh):D->yz->Prop
 |.v x,u=>repV g.M x u
 |.acc k xs,u=>repV g.M (.list xs) u/\g.ι k (I xs)=G u
 |.ptr o off,u=>o<g.n/\u=.pointer (G ⟨g.β o,off,none⟩)
 |.arr o off len,u=>o<g.n/\∃cap,len<=cap/\u=.slice (G ⟨g.β o,off,none⟩) len cap
 |.gro o len sz,u=>o<g.n/\∃cap,len<=cap/\cap*sz=g.κ o/\u=.slice (G ⟨g.β o,0,none⟩) len cap
 |.raw x,u=>u=x
 |.rv x u0,u=>u=u0/\repV g.M x u0
 |.dagg cs,u=>∃us,u=.agg us.toArray/\Af g cs us
 |.dfn f fs cs,u=>∃us vs,u=.func (.func f) us.toArray vs.toArray/\Af g fs us/\Af g cs vs
 |.tup ds,u=>∃us,u=.tuple us.toArray/\Af g ds us
 |.err,u=>∃t p,u=.iface t p
 |.undef,_=>True
def Af(g:Gh):List D->List yz->Prop
 |[],us=>us=[]
 |d::ds,us=>∃u us',us=u::us'/\Ag g d u/\Af g ds us'
end
structure Gh.le(g g':Gh):Prop where
 M:g.M.le g'.M
 n:g.n<=g'.n
 β:∀o,o<g.n->g'.β o=g.β o
 ι:∀k m u,g.ι k m=G u->g'.ι k m=G u
 κ:∀o,o<g.n->g'.κ o=g.κ o
theorem Gh.le_refl(g:Gh):g.le g:=⟨g.M.le_refl,HP _,fun _ _=>rfl,fun _ _ _ h=>h,fun _ _=>rfl⟩
theorem Gh.le_trans{g g' g'':Gh}(h:g.le g')(h':g'.le g''):g.le g'':=
 ⟨dy.le_trans h.M h'.M,IE h.n h'.n,fun o ho=>(h'.β o (Jm ho h.n)).trans (h.β o ho),fun k m u e=>h'.ι k m u (h.ι k m u e),fun o ho=>(h'.κ o (Jm ho h.n)).trans (h.κ o ho)⟩
mutual
theorem Ag.mono{g g':Gh}(hg:g.le g'):∀(d:D) (u:yz),Ag g d u->Ag g' d u
 |.v x,u,h=>by simp only[Ag] at h⊢;exact h.mono hg.M
 |.acc k xs,u,h=>by simp only[Ag] at h⊢;exact⟨h.1.mono hg.M,hg.ι _ _ _ h.2⟩
 |.ptr o off,u,h=>by simp only[Ag] at h⊢;exact⟨Jm h.1 hg.n,by rw[hg.β o h.1];exact h.2⟩
 |.arr o off len,u,h=>by simp only[Ag] at h⊢;exact⟨Jm h.1 hg.n,by rw[hg.β o h.1];exact h.2⟩
 |.gro o len sz,u,h=>by simp only[Ag] at h⊢;exact⟨Jm h.1 hg.n,by rw[hg.β o h.1,hg.κ o h.1];exact h.2⟩
 |.raw x,u,h=>by simpa only[Ag] using h
 |.rv x u0,u,h=>by simp only[Ag] at h⊢;exact⟨h.1,h.2.mono hg.M⟩
 |.dagg cs,u,h=>by
  simp only[Ag] at h⊢
  obtain⟨us,e,h1⟩:=h
  exact⟨us,e,Af.mono hg cs us h1⟩
 |.dfn f fs cs,u,h=>by
  simp only[Ag] at h⊢
  obtain⟨us,vs,e,h1,h2⟩:=h
  exact⟨us,vs,e,Af.mono hg fs us h1,Af.mono hg cs vs h2⟩
 |.tup ds,u,h=>by
  simp only[Ag] at h⊢
  obtain⟨us,e,h1⟩:=h
  exact⟨us,e,Af.mono hg ds us h1⟩
 |.err,u,h=>by simpa only[Ag] using h
 |.undef,u,_=>by simp only[Ag]
theorem Af.mono{g g':Gh}(hg:g.le g'):∀(ds:List D) (us:List yz),Af g ds us->Af g' ds us
 |[],us,h=>by simpa only[Af] using h
 |d::ds,us,h=>by
  simp only[Af] at h⊢
  obtain⟨u,us',e,h1,h2⟩:=h
  exact⟨u,us',e,Ag.mono hg d u h1,Af.mono hg ds us' h2⟩
end
theorem A0{g:Gh}:∀{ds:List D} {us:List yz},Af g ds us->I us=I ds
 |[],us,h=>by simp only[Af] at h;simp[h]
 |d::ds,us,h=>by
  simp only[Af] at h
  obtain⟨u,us',rfl,_,h2⟩:=h
  simp[A0 h2]
theorem BA{g:Gh}:∀{ds:List D} {us:List yz},Af g ds us->∀{i:Nat} {d:D},ds[i]?=G d->∃u,us[i]?=G u/\Ag g d u
 |[],us,h,i,d,hd=>by simp at hd
 |d::ds,us,h,i,d',hd=>by
  simp only[Af] at h
  obtain⟨u,us',rfl,h1,h2⟩:=h
  cases i with
  |zero=>simp at hd;subst hd;exact⟨u,by simp,h1⟩
  |succ i=>simp at hd;obtain⟨u',e,h3⟩:=BA h2 hd;exact⟨u',by simpa using e,h3⟩
theorem CJ{g:Gh}:∀{ds:List D} {us:List yz},Af g ds us->∀(i:Nat) {d:D} {u:yz},Ag g d u->Af g (ds.set i d) (us.set i u)
 |[],us,h,i,d,u,_=>by simp only[Af] at h;simp[h,Af]
 |d0::ds,us,h,i,d,u,hd=>by
  simp only[Af] at h
  obtain⟨u0,us',rfl,h1,h2⟩:=h
  cases i with
  |zero=>simp only[List.set_cons_zero,Af];exact⟨u,us',rfl,hd,h2⟩
  |succ i=>simp only[Jn,Af];exact⟨u0,_,rfl,h1,CJ h2 i hd⟩
theorem Aw{g:Gh}:∀{ds ds':List D} {us us':List yz},Af g ds us->Af g ds' us'->Af g (ds++ds') (us++us')
 |[],ds',us,us',h,h'=>by simp only[Af] at h;simpa[h] using h'
 |d::ds,ds',us,us',h,h'=>by
  simp only[Af] at h
  obtain⟨u,us1,rfl,h1,h2⟩:=h
  simp only[Jz,Af]
  exact⟨u,_,rfl,h1,Aw h2 h'⟩
theorem AbA{α:Type}{l r:List α}{i:Nat}{x:α}(h:l[i]?=G x):(l++r)[i]?=G x:=by
 grind
theorem H5{g:Gh}:∀{ds:List D} {us:List yz},Af g ds us->∀{ds':List D},I ds'=I ds->(∀(i:Nat) (d':D),ds'[i]?=G d'->d'=.undef∨ds[i]?=G d')->Af g ds' us
 |[],us,h,ds',hl,_=>by
  have:ds'=[]:=List.eq_nil_of_length_eq_zero (by simpa using hl)
  subst this;exact h
 |d::ds,us,h,[],hl,_=>by simp at hl
 |d::ds,us,h,d'::ds',hl,hw=>by
  simp only[Af] at h⊢
  obtain⟨u,us',rfl,h1,h2⟩:=h
  refine⟨u,us',rfl,?_,H5 h2 (by simpa using hl) (fun i x hx=>by have:=hw (i+1) x (by simpa using hx);simpa using this)⟩
  rcases hw 0 d' (by simp) with rfl|e
  ·simp only[Ag]
  ·simp at e;subst e;exact h1
end Go.Dv

namespace Go.Dv
open List (replicate)
open Go.IntKind (u64)
open Go.IntKind renaming wrap → yu, i64 → yt
open List renaming length → I, map → U, drop → W
open Option renaming some → G
open Bool renaming true → J, false → O
open Decidable renaming decide → Y
open Int renaming toNat → Z
open Go.Dv.V renaming list → ai, str → ae, agg → ab, int → aa, ref → bz, fn → bw, nils → bv, bool → bu
open Go.Dv.D renaming v → bt, acc → br, ptr → bq, arr → bo, gro → bm, tup → bk, undef → bj, dagg → bi
open _root_.ByteArray renaming mk → bc
open Go renaming Operand → x8, Program → x7, TypeId → x6, World → x5, Value → yz, Oper → yy, FuncId → yx, Func → yw, IntKind → yv
abbrev DRW:Prop:=True
def BN(a b:Nat):Prop:=DRW->a<=b
theorem BN.of{a b:Nat}(h:a<=b):BN a b:=fun _=>h
theorem BN.refl(a:Nat):BN a a:=.of (HP _)
theorem BN.succ(a:Nat):BN a (a+1):=.of (Nat.le_succ _)
theorem BN.trans{a b c:Nat}(h:BN a b)(h':BN b c):BN a c:=by grind[BN]
def ml:List (Nat×V):=[]
def v6(_:dy):Prop:=True
theorem v6.mono{M M':dy}(h:v6 M)(_:M.le M'):v6 M':=h
structure Gu(M:dy):Prop where
 known:∀p∈ml,∃us,fg M p.1 0 us/\repC M p.2 us
 more:v6 M
theorem Gu.mono{M M':dy}(h:Gu M)(hle:M.le M'):Gu M':=⟨fun p hp=>
 let ⟨us,h1,h2⟩:=h.known p hp
 ⟨us,h1.mono hle,repC.mono hle _ _ h2⟩,h.more.mono hle⟩
def Gv:List (Nat×Nat):=[]
def GW(w:x5):Prop:=∀p∈Gv,∃cs e x,w.heap[p.1]?=G (.cells cs e x)/\cs.size=p.2
theorem GW.mono{w w':x5}(h:GW w)(hs:∀(b:Nat) (cs:Array yz) (e:x6) (x:Nat×Nat),w.heap[b]?=G (.cells cs e x)->∃cs' e' x',w'.heap[b]?=G (.cells cs' e' x')/\cs'.size=cs.size):GW w':=fun p hp=>by
 obtain⟨cs,e,x,h1,h2⟩:=h p hp
 obtain⟨cs',e',x',h3,h4⟩:=hs _ _ _ _ h1
 exact⟨cs',e',x',h3,h4.trans h2⟩
theorem GW.keep{w w':x5}(h:GW w)(hs:∀b,b<w.heap.size->w'.heap[b]?=w.heap[b]?):GW w':=h.mono fun b cs e x hb=>⟨cs,e,x,(hs b (ID.1 hb).1).trans hb,rfl⟩
theorem GW.keepG{w w':x5}(h:GW w)(hs:∀p∈Gv,p.1<w.heap.size->w'.heap[p.1]?=w.heap[p.1]?):GW w':=fun p hp=>by
 obtain⟨cs,e,x,h1,h2⟩:=h p hp
 exact⟨cs,e,x,(hs p hp (ID.1 h1).1).trans h1,h2⟩
theorem Gu.sized{M:dy}(_:Gu M):∀p∈Gv,∃v,M p.1 0=G v:=fun p hp=>by simp[Gv] at hp
structure St where
 H:List (Option (List D))
 own:List (Nat×Nat×List V)
def D.one:D->Bool
 |.v x=> !x.isAgg
 |.acc .. |.ptr .. |.arr .. |.gro .. |.dfn .. =>true
 |.raw x=>x.oneCell'
 |.rv x _=> !x.isAgg
 |_=>false
def Co:yz->Option Nat
 |.slice (some a) _ cap=>if cap=0 then none else G a.block
 |_=>none
structure NoM(M:dy)(b n:Nat):Prop where
 none:∀o,n<=o->M b o=Option.none
 ng:∀p∈Gv,p.1≠b
instance {M:dy} {b n:Nat}:CoeFun (NoM M b n) fun _=>∀o,n<=o->M b o=Option.none:=⟨NoM.none⟩
def Perm(M:dy)(w:x5)(sz:Nat)(u:yz):Prop:=
 (∃a,u=.slice a 0 0)∨∃b f len cap cur e,u=.slice (G ⟨b,f,none⟩) len cap/\w.heap[b]?=G (.cells cur e (0,0))/\len<=cap/\f+cap*sz<=cur.size/\NoM M b (f+len*sz)
structure dm(g:Gh)(σ:St)(w:x5):Prop where
 n:g.n=I σ.H
 mem:∀b o v,g.M b o=G v->w.cell? ⟨b,o,none⟩=G v
 obj:∀i cs,σ.H[i]?=G (G cs)->∃us rest e,w.heap[g.β i]?=G (.cells (us++rest).toArray e (0,0))/\Af g cs us/\(∀c∈cs,c.one=J)/\(∀o,g.M (g.β i) o=none)/\(us++rest).length=g.κ i
 inj:∀i j cs ds,σ.H[i]?=G (G cs)->σ.H[j]?=G (G ds)->g.β i=g.β j->i=j
 own:∀k sz xs,(k,sz,xs)∈σ.own->(0<sz/\∀x∈xs,x.size=sz)/\∃u,g.ι k (I xs)=G u/\repV g.M (.list xs) u/\Perm g.M w sz u/\∀m,I xs<m->g.ι k m=none
 tags:(σ.own.map (·.1)).Nodup
 sep:∀x∈σ.own,∀y∈σ.own,x.1≠y.1->∀u u',g.ι x.1 (I x.2.2)=G u->g.ι y.1 (I y.2.2)=G u'->∀b,Co u=G b->Co u'≠G b
 ownObj:∀x∈σ.own,∀u,g.ι x.1 (I x.2.2)=G u->∀b,Co u=G b->∀i cs,σ.H[i]?=G (G cs)->g.β i≠b
 fresh:∀k,(∀x∈σ.own,x.1≠k)->∀m,g.ι k m=none
 gl:Gu g.M
 gw:GW w
structure cd where
 g:Gh
 w:x5
 σ:St
def cd.priv(E:cd)(b:Nat):Prop:=
 (∃i cs,E.σ.H[i]?=G (G cs)/\b=E.g.β i)∨(∃x∈E.σ.own,∃u,E.g.ι x.1 (I x.2.2)=G u/\Co u=G b)
structure WI(E:cd)(g:Gh)(σ:St)(w:x5):Prop where
 rep:dm g σ w
 M:E.g.M.le g.M
 size:E.w.heap.size<=w.heap.size
 keep:∀b,b<E.w.heap.size->¬E.priv b->w.heap[b]?=E.w.heap[b]?/\∀o,g.M b o=E.g.M b o
 os:w.os=E.w.os
 tape:w.tape=E.w.tape
 output:w.output=E.w.output
 nE:E.g.n<=g.n
 βE:∀o,o<E.g.n->g.β o=E.g.β o
 κE:∀o,o<E.g.n->g.κ o=E.g.κ o
 objs:∀i cs,σ.H[i]?=G (G cs)->E.w.heap.size<=g.β i∨E.priv (g.β i)
 owns:∀x∈σ.own,∀u,g.ι x.1 (I x.2.2)=G u->∀b,Co u=G b->E.w.heap.size<=b∨E.priv b
 drawn:BN E.w.drawn w.drawn
structure FI(E:cd)(g:Gh)(σ:St)(env:List D)(a:Act)(w:x5):Prop where
 wi:WI E g σ w
 env:Af g env a.tmps.toList
 defers:a.defers=[]
theorem WI.start{g:Gh}{w:x5}{σ:St}(h:dm g σ w):WI ⟨g,w,σ⟩ g σ w where
 rep:=h
 M:=dy.le_refl _
 size:=HP _
 keep:=fun _ _ _=>⟨rfl,fun _=>rfl⟩
 os:=rfl
 tape:=rfl
 output:=rfl
 nE:=HP _
 βE:=fun _ _=>rfl
 κE:=fun _ _=>rfl
 objs:=fun i cs h=>.inr (.inl ⟨i,cs,h,rfl⟩)
 owns:=fun x hx u hu _ hb=>.inr (.inr ⟨x,hx,u,hu,hb⟩)
 drawn:=BN.refl _
def Ou:yz->D
 |.int k n=>.v (.int k n)
 |.bool b=>.v (.bool b)
 |.string s=>.v (.str s.data.toList)
 |.slice none 0 0=>.v (.list [])
 |.nilFunc=>.v .nilfn
 |.pointer none=>.v .nilp
 |_=>.undef
theorem NN(g:Gh)(u:yz):Ag g (Ou u) u:=by
 unfold Ou
 split<;>simp[Ag,DD]
def AfV(n:Nat):D:=match ml.find? (·.1==n) with|G p=>.v (.ref p.2)|none=>.undef
theorem Aas{g:Gh}(_:Gu g.M)(n:Nat):Ag g (AfV n) (.pointer (G ⟨n,0,none⟩)):=by
 unfold AfV
 grind[Ag,ml]
def gr(env:List D):x8->D
 |.tmp t=>env.getD t .undef
 |.const u=>Ou u
 |.global n=>AfV n
 |.func f=>.v (.fn f [] [])
theorem Ge{g:Gh}{env:List D}{a:Act}(h:Af g env a.tmps.toList)(t:Nat):Ag g (gr env (.tmp t)) (a.eval (.tmp t)):=by
 simp only[gr,Act.eval]
 cases hd:env[t]? with
 |none=>grind[Ag]
 |some d=>
  obtain⟨u,hu,hr⟩:=BA h hd
  simp_all
theorem Mo{g:Gh}{env:List D}{a:Act}(hG:Gu g.M)(h:Af g env a.tmps.toList)(x:x8):Ag g (gr env x) (a.eval x):=by
 cases x<;>grind[Ge,NN,Aas,gr,Ag,H4,Act.eval,GH]
def EH(env:List D)(o:yy):List D:=o.op.operands.toList.map (gr env)
theorem FS{g:Gh}{env:List D}{a:Act}(hG:Gu g.M)(h:Af g env a.tmps.toList):∀(l:List x8),Af g (l.map (gr env)) (l.map a.eval)
 |[]=>by simp[Af]
 |x::l=>by simp only[Ik,Af];exact⟨_,_,rfl,Mo hG h x,FS hG h l⟩
def Ah(P:x7)(o:yy)(ds:List D)(σ:St)(d:D)(σ':St):Prop:=
 ∀(E:cd) (g:Gh) (a:Act) (w:x5) (K:Act->x5->Prop) (Q:Exit->Act->x5->Prop),WI E g σ w->
  Af g ds (o.op.operands.toList.map a.eval)->
  (∀g' w' u,WI E g' σ' w'->g.le g'->Ag g' d u->K (a.put o.dst u) w')->o.wp P a w K Q
theorem NM(g:Gh):Ag g (.tup []) undef:=by simp only[Ag];exact⟨[],rfl,by rfl⟩
def B5(env:List D):Option Tmp->D->List D
 |some t,d=>env.set t d
 |none,_=>env
theorem FI.put{E:cd}{g g':Gh}{σ σ':St}{env:List D}{a:Act}{w w':x5}(h:FI E g σ env a w)(hw:WI E g' σ' w')(hg:g.le g'){u:yz}{d:D}(hd:Ag g' d u)(t:Option Tmp):
  FI E g' σ' (B5 env t d) (a.put t u) w':=by
 refine⟨hw,?_,?_⟩
 ·cases t with
  |none=>exact Af.mono hg _ _ h.env
  |some t=>
   simp only[B5,Act.put,Array.toList_setIfInBounds]
   exact CJ (Af.mono hg _ _ h.env) t hd
 ·cases t<;>exact h.defers
def BV(env:List D)(ops:Array yy)(o:yy):Option Bool:=
 match o.guard with
 |none=>G true
 |some (j,want)=>match ((ops[j]?).bind (·.dst)).bind (env[·]?) with
  |some (.v (.bool b))=>G (b==want)
  |some (.tup _)=>G false
  |_=>none
theorem CG{g:Gh}{env:List D}{a:Act}(h:Af g env a.tmps.toList){ops:Array yy}{o:yy}{b:Bool}(hw:BV env ops o=G b):
  Region.wanted o (yielded ops a.tmps)=b:=by
 unfold BV at hw
 unfold Region.wanted
 cases hg:o.guard with
 |none=>grind
 |some p=>
  obtain⟨j,want⟩:=p
  simp only[hg] at hw⊢
  cases hj:(ops[j]?).bind (·.dst)<;>grind[BA,Option.some.injEq,Ag,DW,yielded]
inductive KI where
 |code (c:Code)
 |blk (id:Nat)
 |lp (c:Code)
def ApT(P:x7)(c:Code)(Q:Exit->Act->x5->Prop)(a:Act)(w:x5):Prop:=
 ∀(b:Frame) (k:List Item) (cs:List Frame),
  ∃e a' w',Q e a' w'/\Arrives P (lone (b.at a (.code c:: .inLoop c::k)) cs w) b k cs e a' w'
def KQ(P:x7)(B:Exit->Act->x5->Prop):List KI->Exit->Act->x5->Prop
 |[],e,a,w=>B e a w
 |.code c::k,e,a,w=>match e with
  |.normal=>c.wp P (KQ P B k) a w
  |e=>KQ P B k e a w
 |.lp c::k,e,a,w=>match e with
  |.normal=>ApT P c (KQ P B k) a w
  |e=>KQ P B k e a w
 |.blk id::k,e,a,w=>match e with
  |.exit id'=>if id'=id then KQ P B k .normal a w else KQ P B k (.exit id') a w
  |e=>KQ P B k e a w
def A2(C:cd->cd->Prop)(P:x7)(R:List D->St->Prop)(k:List KI)(env:List D)(σ:St):Prop:=
 ∀(E0 E:cd) (g:Gh) (a:Act) (w:x5) (B:Exit->Act->x5->Prop),C E0 E->FI E g σ env a w->
  (∀g' env' σ' a' w',FI E0 g' σ' env' a' w'->R env' σ'->B .ret a' w'/\B .normal a' w')->KQ P B k .normal a w
abbrev An2(E0 E:cd):Prop:=E0=E
structure N1(C:cd->cd->Prop):Prop where
 ok:∀{E0 E:cd},C E0 E->∀{g:Gh} {σ:St} {w:x5},WI E g σ w->WI E0 g σ w
theorem Ae9:N1 An2:=⟨fun h _ _ _ hw=>by grind⟩
theorem FI.link{C:cd->cd->Prop}(L:N1 C){E0 E:cd}(hC:C E0 E){g:Gh}{σ:St}{env:List D}{a:Act}{w:x5}(h:FI E g σ env a w):FI E0 g σ env a w:=⟨L.ok hC h.wi,h.env,h.defers⟩
abbrev v8(P:x7)(R:List D->St->Prop)(k:List KI)(env:List D)(σ:St):Prop:=A2 An2 P R k env σ
section
variable {C : cd -> cd -> Prop} {P : x7} {R : List D -> St -> Prop} {k : List KI} {env : List D} {σ : St}
theorem Pj(L:N1 C)(h:R env σ):A2 C P R [] env σ:=fun _ _ _ _ _ _ hC hf hB=>(hB _ _ _ _ _ (hf.link L hC) h).2
theorem Wr{B:Exit->Act->x5->Prop}{a:Act}{w:x5}(h:B .ret a w):∀k:List KI,KQ P B k .ret a w
 |[]=>h
 |.code _::k=>by simp only[KQ];exact Wr h k
 |.lp _::k=>by simp only[KQ];exact Wr h k
 |.blk _::k=>by simp only[KQ];exact Wr h k
theorem UF(L:N1 C)(h:R env σ):A2 C P R (.code .ret::k) env σ:=fun _ _ _ _ _ _ hC hf hB=>by
 simp only[KQ]
 exact wp_ret (Wr (hB _ _ _ _ _ (hf.link L hC) h).1 k)
theorem UE(h:A2 C P R k env σ):A2 C P R (.code .skip::k) env σ:=by grind[KQ,wp_skip,A2]
theorem ZX{l:Nat}(h:A2 C P R k env σ):A2 C P R (.code (.label l)::k) env σ:=by grind[KQ,wp_label,A2]
theorem ZY{id:Nat}(h:A2 C P R k env σ):A2 C P R (.blk id::k) env σ:=by grind[KQ,A2]
theorem ZW{x y:Code}(h:A2 C P R (.code x:: .code y::k) env σ):A2 C P R (.code (.seq x y)::k) env σ:=fun E0 E g a w B hC hf hB=>by
 have:=h E0 E g a w B hC hf hB
 simp only[KQ] at this⊢
 exact wp_seq (wp_mono this fun e a w q=>by cases e<;>exact q)
theorem Q9{id:Nat}{c:Code}(h:A2 C P R (.code c:: .blk id::k) env σ):A2 C P R (.code (.block id c)::k) env σ:=fun E0 E g a w B hC hf hB=>by
 have:=h E0 E g a w B hC hf hB
 simp only[KQ] at this⊢
 grind[wp_block,wp_mono,Exit.inBlock]
theorem UI{c:x8}{x y:Code}{b:Bool}(hc:gr env c=.v (.bool b))(ht:b=J->A2 C P R (.code x::k) env σ)(hf:b=O->A2 C P R (.code y::k) env σ):
  A2 C P R (.code (.cond c x y)::k) env σ:=fun E0 E g a w B hC hfi hB=>by
 have hr:=Mo hfi.wi.rep.gl hfi.env c
 rw[hc] at hr
 have hr':a.eval c=.bool b:=by grind[Ag,DW]
 simp only[KQ]
 refine wp_cond_split hr' (fun hb=>?_) (fun hb=>?_)
 ·have:=ht hb E0 E g a w B hC hfi hB;grind[KQ]
 ·have:=hf hb E0 E g a w B hC hfi hB;grind[KQ]
theorem Ahv{c:Code}(h:A2 C P R (.code c:: .lp c::k) env σ):A2 C P R (.lp c::k) env σ:=fun E0 E g a w B hC hfi hB=>by
 have:=h E0 E g a w B hC hfi hB
 simp only[KQ] at this⊢
 intro b kk cs
 obtain⟨e,a₁,w₁,hq,harr⟩:=this b (.inLoop c::kk) cs
 cases e with
 |normal=>
  simp only at hq
  obtain⟨e₂,a₂,w₂,hq₂,harr₂⟩:=hq b kk cs
  exact⟨e₂,a₂,w₂,hq₂,.of_steps (Steps.trans harr (.one step_inLoop)) harr₂⟩
 |exit id=>exact⟨_,a₁,w₁,hq,.pass (x:=.inLoop c) rfl (fun _ _=>.inl (by simp)) harr⟩
 |goto l=>exact⟨_,a₁,w₁,hq,.pass (x:=.inLoop c) rfl (fun _ _=>.inl (by simp)) harr⟩
 |ret=>grind[Arrives]
 |panic ch=>grind[Arrives]
 |outgrown=>grind[Arrives]
theorem fd{c:Code}(h:A2 C P R (.lp c::k) env σ):A2 C P R (.code (.loop c)::k) env σ:=fun E0 E g a w B hC hfi hB=>by
 have:=h E0 E g a w B hC hfi hB
 simp only[KQ] at this⊢
 intro b kk cs
 obtain⟨e,a',w',hq,harr⟩:=this b kk cs
 exact⟨e,a',w',hq,.of_steps (.one step_loop) harr⟩
def HA(id:Nat):List KI->Option (List KI)
 |[]=>none
 |.blk id'::k=>if id'=id then G k else HA id k
 |_::k=>HA id k
theorem Qb{B:Exit->Act->x5->Prop}{a:Act}{w:x5}{id:Nat}:∀{k k':List KI},HA id k=G k'->KQ P B k' .normal a w->KQ P B k (.exit id) a w
 |[],k',h,_=>by simp[HA] at h
 |.code c::k,k',h,q=>by simp only[HA] at h;simp only[KQ];exact Qb h q
 |.lp c::k,k',h,q=>by simp only[HA] at h;simp only[KQ];exact Qb h q
 |.blk id'::k,k',h,q=>by
  simp only[HA] at h
  simp only[KQ]
  by_cases e:id'=id
  ·rw[Ie e] at h
   simp at h;subst h
   rw[Ie e.symm];exact q
  ·rw[HZ e] at h
   rw[HZ (fun x=>e x.symm)]
   exact Qb h q
theorem UH{id:Nat}{k':List KI}(hk:HA id k=G k')(h:A2 C P R k' env σ):A2 C P R (.code (.exit id)::k) env σ:=by grind[KQ,wp_exit,Qb,A2]
theorem Hx{env':List D}(hl:I env'=I env)(he:∀(i:Nat) (d':D),env'[i]?=G d'->d'=.undef∨env[i]?=G d')(h:A2 C P R k env' σ):A2 C P R k env σ:=fun E0 E g a w B hC hfi hB=>
 h E0 E g a w B hC ⟨hfi.wi,H5 hfi.env hl he,hfi.defers⟩ hB
end
def Wt(P:x7)(f:yx):Prop:=∃fn,P.funcs[f]?=G fn/\(fn.name=="runtime.NumGoroutine")=O/\fn.body.isNone=O
def Aa(P:x7)(f:yx)(ds:List D)(σ:St)(d:D)(σ':St):Prop:=
 Wt P f/\∀(g:Gh) (w:x5) (args:List yz),dm g σ w->Af g ds args->
  Calls P f args.toArray w fun e w'=>∃u g',e=.returned u/\WI ⟨g,w,σ⟩ g' σ' w'/\Ag g' d u
def AA(P:x7)(fn:yw)(env:List D)(σ:St)(d:D)(σ':St):Prop:=
 ∀E g a w,FI E g σ env a w->E.g.n<=I σ'.H->∃u g',(results fn a.tmps).run P w=.ok u w/\WI E g' σ' w/\Ag g' d u
theorem SD{P:x7}{f:yx}{fn:yw}{c:Code}{ds:List D}{σ σ':St}{d:D}(hf:P.funcs[f]?=G fn)(hb:fn.body=G c)(hn:(fn.name=="runtime.NumGoroutine")=O)
  (hH:I σ.H<=I σ'.H) (h:v8 P (fun env σ1=>AA P fn env σ1 d σ') [.code c] (ds++replicate (fn.ntmps-I ds) .undef) σ):Aa P f ds σ d σ':=by
 refine⟨⟨fn,hf,hn,by grind⟩,fun g w args hw hargs=>?_⟩
 refine calls_of_wp hf hb ?_
 have hfi:FI ⟨g,w,σ⟩ g σ (ds++replicate (fn.ntmps-I ds) .undef) { tmps:=args.toArray++Array.replicate (fn.ntmps-args.toArray.size) undef,defers:=[]} w:=by
  refine⟨WI.start hw,?_,rfl⟩
  have hl:=A0 hargs
  simp only[Array.toList_append,Array.toList_replicate,IY,hl]
  refine Aw hargs ?_
  generalize fn.ntmps-I ds=m
  induction m<;>grind[Af,Ag]
 have:=h ⟨g,w,σ⟩ ⟨g,w,σ⟩ g _ w (bodyPost P fn fun e w'=>∃u g',e=.returned u/\WI ⟨g,w,σ⟩ g' σ' w'/\Ag g' d u) rfl hfi ?_
 ·simp only[KQ] at this
  omega
 ·intro g' env' σ1 a' w' hfi' hR
  obtain⟨u,g2,h1,h2,h3⟩:=hR _ _ _ _ hfi' (by rw[hw.n];exact hH)
  have:a'.defers=[]/\∃v,(results fn a'.tmps).run P w'=.ok v w'/\∃u g',Ending.returned v=.returned u/\WI ⟨g,w,σ⟩ g' σ' w'/\Ag g' d u:=
   ⟨hfi'.defers,u,h1,u,g2,rfl,h2,h3⟩
  exact⟨this,this⟩
end Go.Dv

namespace Go.Dv
open List (drop_eq_getElem_cons ext_getElem? length_singleton map_map nil_append replicate)
open Go.IntKind (u64)
open Go.IntKind renaming wrap → yu, i64 → yt
open List renaming length → I, map → U, drop → W
open Option renaming some → G
open Bool renaming true → J, false → O
open Decidable renaming decide → Y
open Int renaming toNat → Z
open Go.Dv.V renaming list → ai, str → ae, agg → ab, int → aa, ref → bz, fn → bw, nils → bv, bool → bu
open Go.Dv.D renaming v → bt, acc → br, ptr → bq, arr → bo, gro → bm, tup → bk, undef → bj, dagg → bi
open Go.Dv.St renaming mk → bh
open Go.Dv.KI renaming blk → bf
open _root_.ByteArray renaming mk → bc
open Go renaming Operand → x8, Program → x7, TypeId → x6, World → x5, Value → yz, Oper → yy, FuncId → yx, Func → yw, IntKind → yv
def DU(P:x7)(t:x6):Option (Nat×Bool):=
 match P.info? t,P.underlying t with
 |some i,some d=>G (i.size,match d with|.struct _|.array _ _=>true|_=>false)
 |_,_=>none
def PY(P:x7)(t:x6):Prop:=DU P t=G (1,false)
def Y6(P:x7)(t:x6)(n:Nat):Prop:=DU P t=G (n,true)
def BR(P:x7)(t:x6):Option (x6×Nat×Nat×Option yz):=
 match P.underlying t with
 |some (.slice e)=>(P.info? e).map fun i=>(e,i.size,i.bytes,i.zero)
 |_=>none
def Rh(P:x7)(s:x6)(f:Nat):Option (Nat×Nat×Bool):=
 match P.underlying s with
 |some (.struct fs)=>(fs[f]?).bind fun x=>(DU P x.type).map fun p=>(x.offset,p.1,p.2)
 |_=>none
def ow(P:x7)(t:x6):Option (Nat×Nat×Bool):=
 match P.underlying t with
 |some (.array n e)=>(DU P e).map fun p=>(n,p.1,p.2)
 |_=>none
theorem LY{P:x7}{t:x6}{n:Nat}{b:Bool}(h:DU P t=G (n,b)):
  ∃i d,P.info? t=G i/\P.underlying t=G d/\i.size=n/\(match d with|.struct _|.array _ _=>true|_=>false)=b:=by
 grind[DU]
theorem Df{P:x7}{t:x6}{n:Nat}{b:Bool}(h:DU P t=G (n,b))(w:x5):(isAgg t).run P w=.ok b w:=by
 obtain⟨i,d,hi,hd,_,hb⟩:=LY h
 unfold isAgg
 rw[Sem.run_bind,run_underlying hd w]
 subst hb
 cases d<;>simp
theorem dw{P:x7}{t:x6}{n:Nat}{b:Bool}(h:DU P t=G (n,b))(w:x5):(sizeOf t).run P w=.ok n w:=by
 obtain⟨i,d,hi,hd,hn,_⟩:=LY h
 simp[sizeOf,typeInfo,hi,hn]
theorem AE{P:x7}{t e:x6}{sz by':Nat}{z:Option yz}(h:BR P t=G (e,sz,by',z)):
  ∃i,P.underlying t=G (.slice e)/\P.info? e=G i/\i.size=sz/\i.bytes=by'/\i.zero=z:=by
 unfold BR at h
 split at h
 ·rename_i e' he
  cases hi:P.info? e'<;>grind
 grind
theorem J7{P:x7}{s:x6}{f off n:Nat}{b:Bool}(h:Rh P s f=G (off,n,b)):
  ∃fs x,P.underlying s=G (.struct fs)/\fs[f]?=G x/\x.offset=off/\DU P x.type=G (n,b):=by
 unfold Rh at h
 grind[DU]
theorem KW{P:x7}{t:x6}{len n:Nat}{b:Bool}(h:ow P t=G (len,n,b)):
  ∃e,P.underlying t=G (.array len e)/\DU P e=G (n,b):=by
 grind[ow,DU]
section
variable {P : x7} {o : yy} {ds : List D} {σ σ' : St} {d : D}
theorem A5(h:∀E g (ρ:x8->yz) w,WI E g σ w->Af g ds (o.op.operands.toList.map ρ)->∃u,(execOp ρ o).run P w=.ok (.value u) w/\Ag g d u):Ah P o ds σ d σ:=by
 intro E g a w K Q hw hds hK
 obtain⟨u,hr,hd⟩:=h E g a.eval w hw hds
 unfold Oper.wp
 rw[hr]
 exact hK g w u hw g.le_refl hd
theorem BQ{ds':List D}(hs:∀g us,Af g ds us->Af g ds' us)(h:Ah P o ds' σ d σ'):Ah P o ds σ d σ':=
 by grind[Ah]
def D.un:D->D
 |.acc _ xs=>.v (.list xs)
 |d=>d
theorem Po{g:Gh}{d:D}{u:yz}(h:Ag g d u):Ag g d.un u:=by
 cases d<;>simp only[D.un]<;>first|exact h|grind[Ag]
theorem ES{g:Gh}:∀{ds:List D} {us:List yz},Af g ds us->Af g (ds.map D.un) us
 |[],us,h=>by simpa using h
 |d::ds,us,h=>by
  simp only[Af,Ik] at h⊢
  obtain⟨u,us',e,h1,h2⟩:=h
  exact⟨u,us',e,Po h1,ES h2⟩
theorem Tb(h:Ah P o (ds.map D.un) σ d σ'):Ah P o ds σ d σ':=by grind[ES,Ah]
theorem AB{g:Gh}{d:D}{us:List yz}:Af g [d] us↔∃u,us=[u]/\Ag g d u:=by
 grind[Af]
theorem Au{g:Gh}{d e:D}{us:List yz}:Af g [d,e] us↔∃u v,us=[u,v]/\Ag g d u/\Ag g e v:=by
 grind[Af]
theorem ET{g:Gh}{d e f:D}{us:List yz}:Af g [d,e,f] us↔∃u v x,us=[u,v,x]/\Ag g d u/\Ag g e v/\Ag g f x:=by
 grind[Af]
theorem Pw{x:x8}(ho:o.op=.move x):Ah P o [d] σ d σ:=by
 refine A5 fun E g ρ w hw hds=>?_
 simp only[ho,Op.operands,AB] at hds
 obtain⟨u,e,hd⟩:=hds
 simp at e
 exact⟨u,by simp[execOp,ho,e],hd⟩
theorem JN{x:x8}(ho:o.op=.assign x):Ah P o [d] σ d σ:=by
 refine A5 fun E g ρ w hw hds=>?_
 simp only[ho,Op.operands,AB] at hds
 obtain⟨u,e,hd⟩:=hds
 simp at e
 exact⟨u,by simp[execOp,ho,e],hd⟩
theorem SX{c x y:x8}(ho:o.op=.pick c x y){b:Bool}{d1 d2:D}:Ah P o [.v (.bool b),d1,d2] σ (if b then d1 else d2) σ:=by
 refine A5 fun E g ρ w hw hds=>?_
 simp only[ho,Op.operands,ET] at hds
 obtain⟨u,v,z,e,h1,h2,h3⟩:=hds
 simp only[Ik,IF,HV,Ix] at e
 obtain⟨e1,e2,e3⟩:=e
 simp only[Ag,DW] at h1
 refine⟨if b then v else z,?_,?_⟩
 ·simp only[execOp,ho,e1,h1,e2,e3]
  rfl
 grind
def Apm(op:BinOp)(k:yv)(a b:Int):Option V:=
 match op with
 |.add=>G (.int k (k.wrap (a+b)))
 |.sub=>G (.int k (k.wrap (a-b)))
 |.mul=>G (.int k (k.wrap (a*b)))
 |.and=>G (.int k (k.wrap (BitVec.ofInt k.bits a&&&BitVec.ofInt k.bits b).toNat))
 |.or=>G (.int k (k.wrap (BitVec.ofInt k.bits a|||BitVec.ofInt k.bits b).toNat))
 |.xor=>G (.int k (k.wrap (BitVec.ofInt k.bits a^^^BitVec.ofInt k.bits b).toNat))
 |.andNot=>G (.int k (k.wrap (BitVec.ofInt k.bits a&&& ~~~BitVec.ofInt k.bits b).toNat))
 |.eql=>G (.bool (a==b))
 |.neq=>G (.bool (a !=b))
 |.lss=>G (.bool (a<b))
 |.leq=>G (.bool (a<=b))
 |.gtr=>G (.bool (a>b))
 |.geq=>G (.bool (a>=b))
 |_=>none
theorem KA{op:BinOp}{t ty:x6}{x y:x8}(ho:o.op=.binOp op t x y ty){k:yv}{a b:Int}{r:V}(hr:Apm op k a b=G r):
  Ah P o [.v (.int k a),.v (.int k b)] σ (.v r) σ:=by
 refine A5 fun E g ρ w hw hds=>?_
 simp only[ho,Op.operands,Au] at hds
 obtain⟨u,v,e,h1,h2⟩:=hds
 simp only[Ik,IF,HV,Ix] at e
 obtain⟨e1,e2⟩:=e
 simp only[Ag,AC] at h1 h2
 subst h1 h2
 cases op<;>simp only[Apm,Ir,reduceCtorEq] at hr<;>subst hr<;>
  simp[execOp,ho,e1,e2,eqGuard,binOp,Op.intArith,Op.intBits,Op.intCmp,Ag]
def Ap1(op:BinOp)(k:yv)(a b:Int):Option V:=
 match op with
 |.quo=>G (.int k (k.wrap (a.tdiv b)))
 |.rem=>G (.int k (a.tmod b))
 |_=>none
theorem AaL{op:BinOp}{t ty:x6}{x y:x8}(ho:o.op=.binOp op t x y ty){k:yv}{a b:Int}{r:V}(hr:Ap1 op k a b=G r)(hb:b≠0):
  Ah P o [.v (.int k a),.v (.int k b)] σ (.v r) σ:=by
 refine A5 fun E g ρ w hw hds=>?_
 simp only[ho,Op.operands,Au] at hds
 obtain⟨u,v,e,h1,h2⟩:=hds
 simp only[Ik,IF,HV,Ix] at e
 obtain⟨e1,e2⟩:=e
 simp only[Ag,AC] at h1 h2
 subst h1 h2
 cases op<;>simp only[Ap1,Ir,reduceCtorEq] at hr<;>subst hr<;>
  simp[execOp,ho,e1,e2,eqGuard,binOp,Op.intDiv,hb,Ag]
def shI(op:BinOp)(k:yv)(a b:Int):Option V:=
 match op with
 |.shl=>G (.int k (k.wrap (a*2^(min b.toNat k.bits))))
 |.shr=>G (.int k (a.fdiv (2^(min b.toNat k.bits))))
 |_=>none
theorem Ahy{op:BinOp}{t ty:x6}{x y:x8}(ho:o.op=.binOp op t x y ty){k k':yv}{a b:Int}{r:V}(hr:shI op k a b=G r)(hb:0<=b):
  Ah P o [.v (.int k a),.v (.int k' b)] σ (.v r) σ:=by
 refine A5 fun E g ρ w hw hds=>?_
 simp only[ho,Op.operands,Au] at hds
 obtain⟨u,v,e,h1,h2⟩:=hds
 simp only[Ik,IF,HV,Ix] at e
 obtain⟨e1,e2⟩:=e
 simp only[Ag,AC] at h1 h2
 subst h1 h2
 have hb':¬b<0:=by omega
 cases op<;>simp only[shI,Ir,reduceCtorEq] at hr<;>subst hr<;>
  simp[execOp,ho,e1,e2,eqGuard,binOp,Op.shift,hb',Ag]
def xw(op:BinOp)(a b:List UInt8):Option V:=
 match op with
 |.eql=>G (.bool (a==b))
 |.neq=>G (.bool !(a==b))
 |.lss=>G (.bool (Op.bytesLess a b))
 |.leq=>G (.bool (Op.bytesLess a b||a==b))
 |.gtr=>G (.bool !(Op.bytesLess a b||a==b))
 |.geq=>G (.bool !(Op.bytesLess a b))
 |_=>none
theorem SG(l:List UInt8):ByteArray.size ⟨l.toArray⟩=I l:=by rfl
theorem AiS{op:BinOp}{t ty:x6}{x y:x8}(ho:o.op=.binOp op t x y ty){a b:List UInt8}{r:V}(hr:xw op a b=G r):
  Ah P o [.v (.str a),.v (.str b)] σ (.v r) σ:=by
 refine A5 fun E g ρ w hw hds=>?_
 simp only[ho,Op.operands,Au] at hds
 obtain⟨u,v,e,h1,h2⟩:=hds
 simp only[Ik,IF,HV,Ix] at e
 obtain⟨e1,e2⟩:=e
 simp only[Ag,Dr] at h1 h2
 subst h1 h2
 cases op<;>simp only[xw,Ir,reduceCtorEq] at hr<;>subst hr<;>
  simp[execOp,ho,e1,e2,eqGuard,binOp,Op.stringOp,Ag]
theorem AaR{t ty:x6}{x y:x8}(ho:o.op=.binOp .add t x y ty){a b:List UInt8}(hl:I a+I b<=9223372036854775807):
  Ah P o [.v (.str a),.v (.str b)] σ (.v (.str (a++b))) σ:=by
 refine A5 fun E g ρ w hw hds=>?_
 simp only[ho,Op.operands,Au] at hds
 obtain⟨u,v,e,h1,h2⟩:=hds
 simp only[Ik,IF,HV,Ix] at e
 obtain⟨e1,e2⟩:=e
 simp only[Ag,Dr] at h1 h2
 subst h1 h2
 have hs:∀l:List UInt8,ByteArray.size ⟨l.toArray⟩=I l:=fun l=>by rfl
 have hn:¬(((I a+I b:Nat):Int)>yt.max):=by
  have:yt.max=9223372036854775807:=by decide
  omega
 refine⟨.string ⟨(a++b).toArray⟩,?_,by simp[Ag]⟩
 have hap:(⟨a.toArray⟩:ByteArray)++⟨b.toArray⟩=⟨(a++b).toArray⟩:=by
  rfl
 simp only[execOp,ho,e1,e2,binOp,Op.stringOp,hs,hn,if_false,hap]
 rfl
theorem AiQ{op:BinOp}{t ty:x6}{x y:x8}(ho:o.op=.binOp op t x y ty)(hu:P.underlying t=G .bool){a b:Bool}(hop:op=.eql∨op=.neq):
  Ah P o [.v (.bool a),.v (.bool b)] σ (.v (.bool (if op=.eql then a==b else a !=b))) σ:=by
 refine A5 fun E g ρ w hw hds=>?_
 simp only[ho,Op.operands,Au] at hds
 obtain⟨u,v,e,h1,h2⟩:=hds
 simp only[Ik,IF,HV,Ix] at e
 obtain⟨e1,e2⟩:=e
 simp only[Ag,DW] at h1 h2
 subst h1 h2
 have heq:(Op.equal t (.bool a) (.bool b)).run P w=.ok (a==b) w:=by
  have gen:∀d,(Op.equalIn (d+1) t (.bool a) (.bool b)).run P w=.ok (a==b) w:=fun d=>by
   simp only[Op.equalIn,Sem.run_bind,run_underlying hu,Result.andThen_ok]
   rfl
  exact gen 9999
 refine⟨.bool (if op=.eql then a==b else a !=b),?_,by simp[Ag]⟩
 rcases hop with rfl|rfl<;>
  simp[execOp,ho,e1,e2,eqGuard,binOp,heq,bne]
def unI(op:UnOp)(x:V):Option V:=
 match op,x with
 |.not,.bool b=>G (.bool !b)
 |.neg,.int k n=>G (.int k (k.wrap (0-n)))
 |_,_=>none
theorem Aoe{op:UnOp}{t:x6}{x:x8}(ho:o.op=.unOp op t x){a r:V}(hr:unI op a=G r):Ah P o [.v a] σ (.v r) σ:=by
 refine A5 fun E g ρ w hw hds=>?_
 simp only[ho,Op.operands,AB] at hds
 obtain⟨u,e,h1⟩:=hds
 simp at e
 unfold unI at hr
 split at hr
 ·simp at hr;subst hr
  simp only[Ag,DW] at h1
  exact⟨_,by simp[execOp,ho,e,h1,Op.unary];rfl,by simp[Ag]⟩
 ·simp only[Ir] at hr;subst hr
  simp only[Ag,AC] at h1
  exact⟨_,by simp only[execOp,ho,e,h1,Op.unary,Op.intArith];rfl,by simp[Ag]⟩
 grind
theorem L9{src dst:x6}{x:x8}(ho:o.op=.convert src dst x){k k':yv}{n:Int}{ds':TypeDesc}(hs:P.underlying src=G ds')(hd:P.underlying dst=G (.int k')):
  Ah P o [.v (.int k n)] σ (.v (.int k' (k'.wrap n))) σ:=by
 refine A5 fun E g ρ w hw hds=>?_
 simp only[ho,Op.operands,AB] at hds
 obtain⟨u,e,h1⟩:=hds
 simp at e
 simp only[Ag,AC] at h1
 refine⟨.int k' (k'.wrap n),?_,by simp[Ag]⟩
 simp only[execOp,ho,e,h1,convert,Sem.run_bind,run_underlying hs,run_underlying hd,Result.andThen_ok,Conv.intToInt]
 rfl
theorem K9{x:x8}{i:Nat}(ho:o.op=.extract x i){ds:List D}(hd:ds[i]?=G d):Ah P o [.tup ds] σ d σ:=by
 refine A5 fun E g ρ w hw hds=>?_
 simp only[ho,Op.operands,AB] at hds
 obtain⟨u,e,h1⟩:=hds
 simp at e
 simp only[Ag] at h1
 obtain⟨us,rfl,h2⟩:=h1
 obtain⟨u,hu,h3⟩:=BA h2 hd
 exact⟨u,by simp[execOp,ho,e,Instr.extract,hu],h3⟩
theorem My{x:x8}(ho:o.op=.nilCheck x){q off:Nat}:Ah P o [.ptr q off] σ (.ptr q off) σ:=by
 refine A5 fun E g ρ w hw hds=>?_
 simp only[ho,Op.operands,AB] at hds
 obtain⟨u,e,h1⟩:=hds
 simp at e
 refine⟨u,?_,h1⟩
 simp only[Ag] at h1
 simp[execOp,ho,e,h1.2]
theorem Mx{x:x8}(ho:o.op=.nilCheck x){y:V}:Ah P o [.v (.ref y)] σ (.v (.ref y)) σ:=by
 refine A5 fun E g ρ w hw hds=>?_
 simp only[ho,Op.operands,AB] at hds
 obtain⟨u,e,h1⟩:=hds
 simp at e
 refine⟨u,?_,h1⟩
 simp only[Ag,DB] at h1
 obtain⟨b,off,us,rfl,_⟩:=h1
 simp[execOp,ho,e]
theorem K8{x:x8}{t:x6}(ho:o.op=.call { callee:=.builtin .len,args:= #[x],argTypes:= #[t]}){e:x6}(ht:P.underlying t=G (.slice e)){xs:List V}:
  Ah P o [.v (.list xs)] σ (.v (.int .i64 (I xs))) σ:=by
 refine A5 fun E g ρ w hw hds=>?_
 simp only[ho,Op.operands,Call.operands,AB] at hds
 obtain⟨u,e,h1⟩:=hds
 simp at e
 simp only[Ag,B4] at h1
 obtain⟨a,cap,rfl,_⟩:=h1
 exact⟨_,by simp[execOp,ho,e,resolve,invoke,builtin,Builtin.len_,run_underlying ht,goInt];rfl,by simp[Ag]⟩
theorem Px{x:x8}{t:x6}(ho:o.op=.call { callee:=.builtin .len,args:= #[x],argTypes:= #[t]}){e:x6}(ht:P.underlying t=G (.slice e)){q off len:Nat}:
  Ah P o [.arr q off len] σ (.v (.int .i64 len)) σ:=by
 refine A5 fun E g ρ w hw hds=>?_
 simp only[ho,Op.operands,Call.operands,AB] at hds
 obtain⟨u,e,h1⟩:=hds
 simp at e
 simp only[Ag] at h1
 obtain⟨_,cap,_,rfl⟩:=h1
 exact⟨_,by simp[execOp,ho,e,resolve,invoke,builtin,Builtin.len_,run_underlying ht,goInt];rfl,by simp[Ag]⟩
theorem AiL{x:x8}{t:x6}(ho:o.op=.call { callee:=.builtin .len,args:= #[x],argTypes:= #[t]})(ht:P.underlying t=G .string){s:List UInt8}:
  Ah P o [.v (.str s)] σ (.v (.int .i64 (I s))) σ:=by
 refine A5 fun E g ρ w hw hds=>?_
 simp only[ho,Op.operands,Call.operands,AB] at hds
 obtain⟨u,e,h1⟩:=hds
 simp at e
 simp only[Ag,Dr] at h1
 subst h1
 exact⟨_,by simp[execOp,ho,e,resolve,invoke,builtin,Builtin.len_,run_underlying ht,goInt,SG];rfl,by simp[Ag]⟩
theorem Al0{x y:x8}{ts:Array x6}(ho:o.op=.call { callee:=.builtin .max,args:= #[x,y],argTypes:=ts }){k:yv}{a b:Int}:
  Ah P o [.v (.int k a),.v (.int k b)] σ (.v (.int k (if b>a then b else a))) σ:=by
 refine A5 fun E g ρ w hw hds=>?_
 simp only[ho,Op.operands,Call.operands] at hds
 have hds':=Au.1 (by simpa using hds)
 obtain⟨u,v,e,h1,h2⟩:=hds'
 simp only[HV,Ix] at e
 simp only[Ag,AC] at h1 h2
 exact⟨_,by simp[execOp,ho,e.1,e.2,h1,h2,resolve,invoke,builtin,Builtin.max_,Builtin.max2];rfl,by simp[Ag]⟩
theorem Alz{x y:x8}{ts:Array x6}(ho:o.op=.call { callee:=.builtin .min,args:= #[x,y],argTypes:=ts }){k:yv}{a b:Int}:
  Ah P o [.v (.int k a),.v (.int k b)] σ (.v (.int k (if b<a then b else a))) σ:=by
 refine A5 fun E g ρ w hw hds=>?_
 simp only[ho,Op.operands,Call.operands] at hds
 have hds':=Au.1 (by simpa using hds)
 obtain⟨u,v,e,h1,h2⟩:=hds'
 simp only[HV,Ix] at e
 simp only[Ag,AC] at h1 h2
 exact⟨_,by simp[execOp,ho,e.1,e.2,h1,h2,resolve,invoke,builtin,Builtin.min_,Builtin.min2];rfl,by simp[Ag]⟩
end
section
variable {M : dy}
theorem UO:∀{cs:List V} {us:List yz},repA M cs us->∀{i:Nat} {c:V},cs[i]?=G c->∃u,us[i]?=G u/\c.isAgg=O/\repC M c [u]
 |[],us,h,i,c,hc=>by simp at hc
 |c0::cs,us,h,i,c,hc=>by
  simp only[repA] at h
  obtain⟨u,us',rfl,ha,h1,h2⟩:=h
  cases i with
  |zero=>simp at hc;subst hc;exact⟨u,by simp,ha,h1⟩
  |succ i=>simp at hc;obtain⟨u',e,h3⟩:=UO h2 hc;exact⟨u',by simpa using e,h3⟩
theorem JK:∀{cs:List V} {us:List yz},repA M cs us->∀(n:Nat),repA M (cs.drop n) (us.drop n)
 |[],us,h,n=>by simp only[repA] at h;simp[h,repA]
 |c0::cs,us,h,n=>by
  cases n with
  |zero=>simpa using h
  |succ n=>
   simp only[repA] at h
   obtain⟨u,us',rfl,ha,h1,h2⟩:=h
   simpa using JK h2 n
theorem JJ:∀{cs:List V} {us:List yz},repA M cs us->∀(n:Nat),repA M (cs.take n) (us.take n)
 |[],us,h,n=>by simp only[repA] at h;simp[h,repA]
 |c0::cs,us,h,n=>by
  cases n with
  |zero=>simp[repA]
  |succ n=>
   simp only[repA] at h
   obtain⟨u,us',rfl,ha,h1,h2⟩:=h
   simp only[List.take_succ_cons,repA]
   exact⟨u,_,rfl,ha,h1,JJ h2 n⟩
theorem BX{sz:Nat}:∀{xs:List V} {us:List yz},repE M sz xs us->I us=I xs*sz
 |[],us,h=>by simp only[repE] at h;simp[h]
 |x::xs,us,h=>by
  simp only[repE] at h
  obtain⟨u1,u2,rfl,hl,h1,h2⟩:=h
  simp[BX h2,hl,IV,Nat.add_comm]
theorem UK{sz:Nat}:∀{xs:List V} {us:List yz},repE M sz xs us->∀{i:Nat} {x:V},xs[i]?=G x->
  ∃u1,repC M x u1/\u1.length=sz/\∀j v,u1[j]?=G v->us[i*sz+j]?=G v
 |[],us,h,i,c,hc=>by simp at hc
 |x0::xs,us,h,i,x,hc=>by
  simp only[repE] at h
  obtain⟨u1,u2,rfl,hl,h1,h2⟩:=h
  cases i with
  |zero=>
   simp at hc;subst hc
   refine⟨u1,h1,hl,fun j v hj=>?_⟩
   have:j<I u1:=(HL.1 hj).1
   rw[Nat.zero_mul,I4,Ig this];exact hj
  |succ i=>
   simp at hc
   obtain⟨u',hr,hl',hg⟩:=UK h2 hc
   refine⟨u',hr,hl',fun j v hj=>?_⟩
   have e:(i+1)*sz+j=I u1+(i*sz+j):=by rw[hl,IV];omega
   rw[e,Ib (by omega)]
   have:I u1+(i*sz+j)-I u1=i*sz+j:=by omega
   rw[this];exact hg j v hj
theorem QE{sz:Nat}:∀{xs:List V} {us:List yz},repE M sz xs us->∀(n:Nat),repE M sz (xs.drop n) (us.drop (n*sz))
 |[],us,h,n=>by simp only[repE] at h;simp[h,repE]
 |x::xs,us,h,n=>by
  cases n with
  |zero=>simpa using h
  |succ n=>
   simp only[repE] at h
   obtain⟨u1,u2,rfl,hl,h1,h2⟩:=h
   have:=QE h2 n
   have e:(n+1)*sz=I u1+n*sz:=by rw[hl,IV];omega
   have e2:(u1++u2).drop (I u1+n*sz)=u2.drop (n*sz):=by
    rw[List.drop_append,Ic (Nat.le_add_right (I u1) (n*sz)),nil_append,Nat.add_sub_cancel_left]
   rw[e,e2]
   exact this
theorem QD{sz:Nat}:∀{xs:List V} {us:List yz},repE M sz xs us->∀(n:Nat),repE M sz (xs.take n) (us.take (n*sz))
 |[],us,h,n=>by simp only[repE] at h;simp[h,repE]
 |x::xs,us,h,n=>by
  cases n with
  |zero=>simp[repE]
  |succ n=>
   simp only[repE] at h
   obtain⟨u1,u2,rfl,hl,h1,h2⟩:=h
   simp only[List.take_succ_cons,repE]
   have e:(n+1)*sz=I u1+n*sz:=by rw[hl,IV];omega
   refine⟨u1,u2.take (n*sz),?_,hl,h1,QD h2 n⟩
   rw[e,List.take_append,Im (Nat.le_add_right _ _),Nat.add_sub_cancel_left]
theorem V5{b off:Nat}{us:List yz}(h:fg M b off us)(n:Nat):fg M b (off+n) (us.drop n):=by grind[fg]
theorem V4{b off:Nat}{us:List yz}(h:fg M b off us)(n:Nat):fg M b off (us.take n):=by grind[fg]
end
def Mt(cs:List V)(fo n:Nat)(b:Bool):Option V:=if b then(if fo+n<=I cs then G (.agg ((cs.drop fo).take n)) else none) else cs[fo]?
theorem Ms{M:dy}{cs:List V}{us:List yz}{fo n:Nat}{b:Bool}{x:V}(h:Mt cs fo n b=G x)(hr:repA M cs us)(hn:b=O->n=1):
  repC M x ((us.drop fo).take n)/\x.isAgg=b/\((us.drop fo).take n).length=n:=by
 grind[DY,Mt,repC,JJ,JK,UO,drop_eq_getElem_cons,V.isAgg]
def D.toV:D->Option V
 |.v x=>G x
 |.acc _ xs=>G (.list xs)
 |_=>none
def Fv:List D->Option (List V)
 |[]=>G []
 |d::ds=>match d.toV,Fv ds with
  |some x,some xs=>G (x::xs)
  |_,_=>none
theorem K5{g:Gh}{d:D}{x:V}{u:yz}(h:d.toV=G x)(hr:Ag g d u):repV g.M x u:=by
 cases d<;>simp[D.toV] at h<;>subst h
 all_goals grind[Ag]
theorem GP{g:Gh}:∀{ds:List D} {xs:List V} {us:List yz},Fv ds=G xs->Af g ds us->(∀c∈ds,c.one=J)->repA g.M xs us
 |[],xs,us,h,hr,_=>by simp[Fv] at h;subst h;simpa[Af,repA] using hr
 |d::ds,xs,us,h,hr,h1=>by
  simp only[Fv] at h
  split at h
  ·rename_i x xs' hx hxs
   simp at h;subst h
   simp only[Af] at hr
   obtain⟨u,us',rfl,h2,h3⟩:=hr
   simp only[repA]
   have hxa:x.isAgg=O:=by
    have:=h1 d (by simp)
    cases d<;>simp[D.toV] at hx<;>subst hx<;>simp_all [D.one,V.isAgg]
   exact⟨u,us',rfl,hxa,(BI hxa).1 (K5 hx h2),GP hxs h3 (fun c hc=>h1 c (by simp[hc]))⟩
  ·simp at h
section
variable {P : x7} {o : yy} {σ : St} {d : D}
theorem EB{E:cd}{g:Gh}{w:x5}(hw:WI E g σ w){b off:Nat}{us:List yz}(h:fg g.M b off us):∀j v,us[j]?=G v->w.cell? ((⟨b,off,none⟩:Addr).add j)=G v:=fun j v hj=>by
 rw[Addr.add_lit];exact hw.rep.mem _ _ _ (h j v hj)
theorem FT{t:x6}{a:x8}(ho:o.op=.load t a)(ht:PY P t){x:V}(hx:x.isAgg=O):Ah P o [.v (.ref x)] σ (.v x) σ:=by
 refine A5 fun E g ρ w hw hds=>?_
 simp only[ho,Op.operands,AB] at hds
 obtain⟨u,e,h1⟩:=hds
 simp at e
 simp only[Ag,DB] at h1
 obtain⟨b,off,us,rfl,hi,hr⟩:=h1
 obtain⟨u',rfl,hm,_⟩:=CZ hx hr
 have hc:w.cell? ⟨b,off,none⟩=G u':=by have:=hw.rep.mem _ _ _ (hi 0 u' (by simp));omega
 refine⟨u',?_,by grind[Ag,BI]⟩
 simp[execOp,ho,e,Instr.loadAt,Instr.sureAddr,loadVar,Df ht,hc]
theorem QR{t:x6}{a:x8}(ho:o.op=.load t a){cs:List V}(ht:Y6 P t (I cs)):Ah P o [.v (.ref (.agg cs))] σ (.v (.agg cs)) σ:=by
 refine A5 fun E g ρ w hw hds=>?_
 simp only[ho,Op.operands,AB] at hds
 obtain⟨u,e,h1⟩:=hds
 simp at e
 simp only[Ag,DB] at h1
 obtain⟨b,off,us,rfl,hi,hr⟩:=h1
 simp only[repC] at hr
 have hl:=DY hr
 have hld:=run_loadCells_list (P:=P) w ⟨b,off,none⟩ us (EB hw hi)
 rw[hl] at hld
 refine⟨.agg us.toArray,?_,by grind[Ag,CY]⟩
 simp[execOp,ho,e,Instr.loadAt,Instr.sureAddr,loadVar,Df ht,dw ht,hld]
theorem AaN{t:x6}{a:x8}(ho:o.op=.load t a)(ht:PY P t){q off:Nat}{cs:List D}(hH:σ.H[q]?=G (G cs))(hc:cs[off]?=G d):Ah P o [.ptr q off] σ d σ:=by
 refine A5 fun E g ρ w hw hds=>?_
 simp only[ho,Op.operands,AB] at hds
 obtain⟨u,e,h1⟩:=hds
 simp at e
 simp only[Ag] at h1
 obtain⟨_,rfl⟩:=h1
 obtain⟨us,rest,et,hb,hr,_,_⟩:=hw.rep.obj q cs hH
 obtain⟨u',hu,hd⟩:=BA hr hc
 have hcell:w.cell? ⟨g.β q,off,none⟩=G u':=by grind[World.cell?]
 refine⟨u',?_,hd⟩
 simp[execOp,ho,e,Instr.loadAt,Instr.sureAddr,loadVar,Df ht,hcell]
theorem Cq{g:Gh}:∀{cs:List D} {us:List yz},Af g cs us->∀(n:Nat),Af g (cs.drop n) (us.drop n)
 |[],us,h,n=>by simp only[Af] at h;simp[h,Af]
 |c0::cs,us,h,n=>by
  cases n with
  |zero=>simpa using h
  |succ n=>
   simp only[Af] at h
   obtain⟨u,us',rfl,h1,h2⟩:=h
   simpa using Cq h2 n
theorem Ce{g:Gh}:∀{cs:List D} {us:List yz},Af g cs us->∀(n:Nat),Af g (cs.take n) (us.take n)
 |[],us,h,n=>by simp only[Af] at h;simp[h,Af]
 |c0::cs,us,h,n=>by
  cases n with
  |zero=>simp[Af]
  |succ n=>
   simp only[Af] at h
   obtain⟨u,us',rfl,h1,h2⟩:=h
   simp only[List.take_succ_cons,Af]
   exact⟨u,_,rfl,h1,Ce h2 n⟩
theorem QS{t:x6}{a:x8}(ho:o.op=.load t a){n:Nat}(ht:Y6 P t n){q off:Nat}{cs:List D}(hH:σ.H[q]?=G (G cs)){xs:List V}
  (hn:off+n<=I cs) (hc:Fv ((cs.drop off).take n)=G xs):Ah P o [.ptr q off] σ (.v (.agg xs)) σ:=by
 refine A5 fun E g ρ w hw hds=>?_
 simp only[ho,Op.operands,AB] at hds
 obtain⟨u,e,h1⟩:=hds
 simp at e
 simp only[Ag] at h1
 obtain⟨_,rfl⟩:=h1
 obtain⟨us,rest,et,hb,hr,h1,_⟩:=hw.rep.obj q cs hH
 have hra:=GP hc (Ce (Cq hr off) n) (fun c hc'=>h1 c (List.mem_of_mem_drop (Ji hc')))
 have hl:I us=I cs:=A0 hr
 have hld:=run_loadCells_list (P:=P) w ⟨g.β q,off,none⟩ ((us.drop off).take n) (fun j v hj=>by
  grind[World.cell?,Addr.add])
 have hlen:I ((us.drop off).take n)=n:=by grind
 rw[hlen] at hld
 refine⟨.agg ((us.drop off).take n).toArray,?_,by grind[Ag,CY]⟩
 simp only[execOp,ho,e,Instr.loadAt,Instr.sureAddr,loadVar,Sem.run_bind,Sem.run_pure,Result.andThen_ok,Df ht,dw ht,hld,IT]
theorem AaO{s:x6}{x:x8}{f:Nat}(ho:o.op=.fieldAddr s x f){fo n:Nat}{b:Bool}(hf:Rh P s f=G (fo,n,b))(hn:n≠0){q off:Nat}:Ah P o [.ptr q off] σ (.ptr q (off+fo)) σ:=by
 refine A5 fun E g ρ w hw hds=>?_
 simp only[ho,Op.operands,AB] at hds
 obtain⟨u,e,h1⟩:=hds
 simp at e
 simp only[Ag] at h1
 obtain⟨hq,rfl⟩:=h1
 obtain⟨fs,y,hs,hy,hoff,hz⟩:=J7 hf
 refine⟨.pointer (G ⟨g.β q,off+fo,none⟩),?_,by grind[Ag]⟩
 simp[execOp,ho,e,Instr.fieldAt,run_underlying hs,hy,Instr.sureAddr,fieldPlace,dw hz,hn,Addr.add_lit,hoff]
theorem FU{s:x6}{x:x8}{f:Nat}(ho:o.op=.fieldAddr s x f){fo n:Nat}{b:Bool}(hf:Rh P s f=G (fo,n,b))(hn:n≠0)(hn1:b=O->n=1){cs:List V}{y:V}(hp:Mt cs fo n b=G y):
  Ah P o [.v (.ref (.agg cs))] σ (.v (.ref y)) σ:=by
 refine A5 fun E g ρ w hw hds=>?_
 simp only[ho,Op.operands,AB] at hds
 obtain⟨u,e,h1⟩:=hds
 simp at e
 simp only[Ag,DB] at h1
 obtain⟨bb,off,us,rfl,hi,hr⟩:=h1
 obtain⟨fs,z,hs,hy,hoff,hz⟩:=J7 hf
 simp only[repC] at hr
 obtain⟨h3,_,_⟩:=Ms hp hr hn1
 refine⟨.pointer (G ⟨bb,off+fo,none⟩),?_,by simp only[Ag,DB];grind[fg]⟩
 simp[execOp,ho,e,Instr.fieldAt,run_underlying hs,hy,Instr.sureAddr,fieldPlace,dw hz,hn,Addr.add_lit,hoff]
theorem UG{M:dy}{t:x6}{n:Nat}{b:Bool}(hz:DU P t=G (n,b)){cs:List V}{us:List yz}{fo:Nat}{y:V}(hp:Mt cs fo n b=G y)(hr:repA M cs us)(hn1:b=O->n=1)(w:x5):
  ∃u,(part t us.toArray fo).run P w=.ok u w/\repV M y u:=by
 obtain⟨h3,ha,hl⟩:=Ms hp hr hn1
 cases b with
 |true=>
  refine⟨.agg ((us.drop fo).take n).toArray,?_,?_⟩
  ·simp only[part,Sem.run_bind,Df hz,dw hz,Result.andThen_ok,IT,Sem.run_pure]
   grind
  ·cases y<;>grind[CY,repC,V.isAgg]
 |false=>
  obtain⟨u,e1,_,_⟩:=CZ ha h3
  obtain rfl:=hn1 rfl
  have hu:us[fo]?=G u:=by
   have:((us.drop fo).take 1)[0]?=G u:=by grind
   grind
  refine⟨u,?_,(BI ha).2 (by grind)⟩
  simp[part,Df hz,hu]
theorem Afh{s:x6}{x:x8}{f:Nat}(ho:o.op=.field s x f){fo n:Nat}{b:Bool}(hf:Rh P s f=G (fo,n,b))(hn1:b=O->n=1){cs:List V}{y:V}(hp:Mt cs fo n b=G y):
  Ah P o [.v (.agg cs)] σ (.v y) σ:=by
 refine A5 fun E g ρ w hw hds=>?_
 simp only[ho,Op.operands,AB] at hds
 obtain⟨u,e,h1⟩:=hds
 simp at e
 simp only[Ag,CY] at h1
 obtain⟨us,hr,rfl⟩:=h1
 obtain⟨fs,z,hs,hy,hoff,hz⟩:=J7 hf
 obtain⟨v,hrun,hv⟩:=UG hz hp hr hn1 w
 refine⟨v,?_,by grind[Ag]⟩
 simp only[execOp,ho,e,Instr.field,Sem.run_bind,run_underlying hs,Result.andThen_ok,hy,asAgg,Sem.run_pure,hoff,hrun]
theorem AiO{t:x6}{x ix:x8}(ho:o.op=.indexAddr t x ix){e:x6}{sz by':Nat}{z:Option yz}(hs:BR P t=G (e,sz,by',z)){xs:List V}{y:V}{k:yv}{i:Int}(h0:0<=i)
  (hx:xs[i.toNat]?=G y) (hy:y.size=sz):Ah P o [.v (.list xs),.v (.int k i)] σ (.v (.ref y)) σ:=by
 refine A5 fun E g ρ w hw hds=>?_
 simp only[ho,Op.operands,Au] at hds
 obtain⟨u,v,eq,h1,h2⟩:=hds
 simp only[Ik,IF,HV,Ix] at eq
 obtain⟨e1,e2⟩:=eq
 simp only[Ag,AC,B4] at h1 h2
 subst h2
 obtain⟨a,cap,rfl,hc,h1⟩:=h1
 have hlt:i.toNat<I xs:=(HL.1 hx).1
 rcases h1 with rfl|⟨b,off,sz',us,rfl,hsz,hi,hr⟩
 ·grind
 obtain⟨inf,hu,hinf,hsize,_,_⟩:=AE hs
 obtain⟨u1,hc1,hl1,hg⟩:=UK hr hx
 have hss:sz'=sz:=by grind[G6]
 subst hss
 refine⟨.pointer (G ⟨b,off+i.toNat*sz',none⟩),?_,?_⟩
 ·have hlt':i<(I xs:Int):=by omega
  simp[execOp,ho,e1,e2,Instr.indexAt,asIntOf,run_underlying hu,h0,hlt',sizeOf,typeInfo,hinf,hsize,Addr.add_lit]
 ·simp only[Ag,DB]
  grind[fg]
theorem AiP{t:x6}{x ix:x8}(ho:o.op=.indexAddr t x ix){e:x6}{sz by':Nat}{z:Option yz}(hs:BR P t=G (e,sz,by',z)){q off len:Nat}{k:yv}{i:Int}(h0:0<=i)(h1:i<len):
  Ah P o [.arr q off len,.v (.int k i)] σ (.ptr q (off+i.toNat*sz)) σ:=by
 refine A5 fun E g ρ w hw hds=>?_
 simp only[ho,Op.operands,Au] at hds
 obtain⟨u,v,eq,h1',h2⟩:=hds
 simp only[Ik,IF,HV,Ix] at eq
 obtain⟨e1,e2⟩:=eq
 simp only[Ag,AC] at h1' h2
 subst h2
 obtain⟨hq,cap,hc,rfl⟩:=h1'
 obtain⟨inf,hu,hinf,hsize,_,_⟩:=AE hs
 refine⟨.pointer (G ⟨g.β q,off+i.toNat*sz,none⟩),?_,by grind[Ag]⟩
 simp[execOp,ho,e1,e2,Instr.indexAt,asIntOf,run_underlying hu,h0,h1,sizeOf,typeInfo,hinf,hsize,Addr.add_lit]
theorem Afg{t:x6}{x ix:x8}(ho:o.op=.indexAddr t x ix){len sz:Nat}{b:Bool}(hs:ow P t=G (len,sz,b)){q off:Nat}{k:yv}{i:Int}(h0:0<=i)(h1:i<len):
  Ah P o [.ptr q off,.v (.int k i)] σ (.ptr q (off+i.toNat*sz)) σ:=by
 refine A5 fun E g ρ w hw hds=>?_
 simp only[ho,Op.operands,Au] at hds
 obtain⟨u,v,eq,h1',h2⟩:=hds
 simp only[Ik,IF,HV,Ix] at eq
 obtain⟨e1,e2⟩:=eq
 simp only[Ag,AC] at h1' h2
 subst h2
 obtain⟨hq,rfl⟩:=h1'
 obtain⟨e,hu,hz⟩:=KW hs
 refine⟨.pointer (G ⟨g.β q,off+i.toNat*sz,none⟩),?_,by grind[Ag]⟩
 simp[execOp,ho,e1,e2,Instr.indexAt,asIntOf,run_underlying hu,h0,h1,dw hz,Addr.add_lit,Instr.sureAddr]
theorem Aff{t:x6}{x ix:x8}(ho:o.op=.indexAddr t x ix){len sz:Nat}{b:Bool}(hs:ow P t=G (len,sz,b))(hn1:b=O->sz=1){cs:List V}{y:V}{k:yv}{i:Int}(h0:0<=i)(h1:i<len)
  (hp:Mt cs (i.toNat*sz) sz b=G y):Ah P o [.v (.ref (.agg cs)),.v (.int k i)] σ (.v (.ref y)) σ:=by
 refine A5 fun E g ρ w hw hds=>?_
 simp only[ho,Op.operands,Au] at hds
 obtain⟨u,v,eq,h1',h2⟩:=hds
 simp only[Ik,IF,HV,Ix] at eq
 obtain⟨e1,e2⟩:=eq
 simp only[Ag,AC,DB] at h1' h2
 subst h2
 obtain⟨bb,off,us,rfl,hi,hr⟩:=h1'
 obtain⟨e,hu,hz⟩:=KW hs
 simp only[repC] at hr
 obtain⟨h3,_,_⟩:=Ms hp hr hn1
 refine⟨.pointer (G ⟨bb,off+i.toNat*sz,none⟩),?_,by grind[Ag,DB,V4,V5]⟩
 simp[execOp,ho,e1,e2,Instr.indexAt,asIntOf,run_underlying hu,h0,h1,dw hz,Addr.add_lit,Instr.sureAddr]
theorem AiN{t:x6}{x ix:x8}(ho:o.op=.index t x ix)(ht:P.underlying t=G .string){s:List UInt8}{k:yv}{i:Int}{c:UInt8}(h0:0<=i)(hc:s[i.toNat]?=G c):
  Ah P o [.v (.str s),.v (.int k i)] σ (.v (.int .u8 c.toNat)) σ:=by
 refine A5 fun E g ρ w hw hds=>?_
 simp only[ho,Op.operands,Au] at hds
 obtain⟨u,v,eq,h1',h2⟩:=hds
 simp only[Ik,IF,HV,Ix] at eq
 obtain⟨e1,e2⟩:=eq
 simp only[Ag,AC,Dr] at h1' h2
 subst h1' h2
 refine⟨.int .u8 c.toNat,?_,by simp[Ag]⟩
 have hlt:i.toNat<I s:=(HL.1 hc).1
 have hb:(⟨s.toArray⟩:ByteArray)[i.toNat]?=G c:=by
  rw[getElem?_pos _ _ (by grind[SG])]
  have:=(HL.1 hc).2
  simp only[Ir]
  rw[←this];rfl
 simp[execOp,ho,e1,e2,Instr.index,asIntOf,run_underlying ht,h0,hb]
theorem AiM{t:x6}{x ix:x8}(ho:o.op=.index t x ix){len sz:Nat}{b:Bool}(hs:ow P t=G (len,sz,b))(hn1:b=O->sz=1){cs:List V}{y:V}{k:yv}{i:Int}(h0:0<=i)(h1:i<len)
  (hp:Mt cs (i.toNat*sz) sz b=G y):Ah P o [.v (.agg cs),.v (.int k i)] σ (.v y) σ:=by
 refine A5 fun E g ρ w hw hds=>?_
 simp only[ho,Op.operands,Au] at hds
 obtain⟨u,v,eq,h1',h2⟩:=hds
 simp only[Ik,IF,HV,Ix] at eq
 obtain⟨e1,e2⟩:=eq
 simp only[Ag,AC,CY] at h1' h2
 subst h2
 obtain⟨us,hr,rfl⟩:=h1'
 obtain⟨e,hu,hz⟩:=KW hs
 obtain⟨v,hrun,hv⟩:=UG hz hp hr hn1 w
 refine⟨v,?_,by grind[Ag]⟩
 simp[execOp,ho,e1,e2,Instr.index,asIntOf,run_underlying hu,h0,h1,dw hz,hrun]
end
theorem WI.update{E:cd}{g g':Gh}{σ σ':St}{w w':x5}(hw:WI E g σ w)(X:Nat->Prop)(hX:∀b,X b->E.w.heap.size<=b∨E.priv b)
  (keep:∀b,b<w.heap.size->¬X b->w'.heap[b]?=w.heap[b]?/\∀o,g'.M b o=g.M b o)
  (hle:g.M.le g'.M) (hn:g.n<=g'.n) (hβ:∀o,o<g.n->g'.β o=g.β o) (hκ:∀o,o<g.n->g'.κ o=g.κ o) (size:w.heap.size<=w'.heap.size) (os:w'.os=w.os) (tape:w'.tape=w.tape) (output:w'.output=w.output)
  (rep:dm g' σ' w') (objs:∀i cs,σ'.H[i]?=G (G cs)->E.w.heap.size<=g'.β i∨E.priv (g'.β i))
  (owns:∀x∈σ'.own,∀u,g'.ι x.1 (I x.2.2)=G u->∀b,Co u=G b->E.w.heap.size<=b∨E.priv b)
  (drawn:BN w.drawn w'.drawn:=by first|exact BN.refl _|exact BN.succ _|assumption):WI E g' σ' w' where
 rep:=rep
 M:=dy.le_trans hw.M hle
 size:=IE hw.size size
 keep:=fun b hb hp=>by
  grind[keep]
 os:=os.trans hw.os
 tape:=tape.trans hw.tape
 output:=output.trans hw.output
 nE:=IE hw.nE hn
 βE:=fun o ho=>(hβ o (Jm ho hw.nE)).trans (hw.βE o ho)
 κE:=fun o ho=>(hκ o (Jm ho hw.nE)).trans (hw.κE o ho)
 objs:=objs
 owns:=owns
 drawn:=hw.drawn.trans drawn
theorem MD{w:x5}{b:Nat}{o:Obj}(h:w.heap[b]?=G o):b<w.heap.size:=by grind
theorem dm.mem_lt{g:Gh}{σ:St}{w:x5}(h:dm g σ w){b o:Nat}{v:yz}(hm:g.M b o=G v):b<w.heap.size:=
 World.block_lt_of_cell? w ⟨b,o,none⟩ (h.mem b o v hm)
theorem dm.new_none{g:Gh}{σ:St}{w:x5}(h:dm g σ w){b:Nat}(hb:w.heap.size<=b)(o:Nat):g.M b o=none:=by
 cases e:g.M b o with
 |none=>rfl
 |some v=>have:=h.mem_lt e;omega
theorem dm.own_lt{g:Gh}{σ:St}{w:x5}(h:dm g σ w){x:Nat×Nat×List V}(hx:x∈σ.own){u:yz}(hu:g.ι x.1 (I x.2.2)=G u){b:Nat}(hb:Co u=G b):b<w.heap.size:=by
 obtain⟨_,u',hu',_,hp,_⟩:=h.own x.1 x.2.1 x.2.2 hx
 rw[hu] at hu'
 obtain rfl:u=u':=by grind
 rcases hp with⟨a,rfl⟩|⟨b',f,len,cap,cur,e,rfl,hh,_⟩
 ·cases a<;>simp[Co] at hb
 grind[Co]
theorem dm.obj_lt{g:Gh}{σ:St}{w:x5}(h:dm g σ w){i:Nat}{cs:List D}(hi:σ.H[i]?=G (G cs)):g.β i<w.heap.size:=by
 obtain⟨us,rest,e,hb,_⟩:=h.obj i cs hi
 grind
theorem dm.lt_n{g:Gh}{σ:St}{w:x5}(h:dm g σ w){i:Nat}{cs:List D}(hi:σ.H[i]?=G (G cs)):i<g.n:=by
 rw[h.n];grind
theorem Perm.kept{M M':dy}{w w':x5}{sz:Nat}{u:yz}(h:Perm M w sz u)(hk:∀b,Co u=G b->w'.heap[b]?=w.heap[b]?/\∀o,M' b o=M b o):Perm M' w' sz u:=by
 rcases h with⟨a,rfl⟩|⟨b,f,len,cap,cur,e,rfl,hh,hl,hc,hM⟩
 ·exact .inl ⟨a,rfl⟩
 ·by_cases h0:cap=0
  ·grind[Perm]
  ·obtain⟨h1,h2⟩:=hk b (by grind[Co])
   exact .inr ⟨b,f,len,cap,cur,e,rfl,h1.trans hh,hl,hc,fun o ho=>(h2 o).trans (hM o ho),hM.ng⟩
theorem dm.obj_ng{g:Gh}{σ:St}{w:x5}(h:dm g σ w){i:Nat}{cs:List D}(hi:σ.H[i]?=G (G cs)):∀p∈Gv,p.1≠g.β i:=fun p hp e=>by
 obtain⟨v,hv⟩:=h.gl.sized p hp
 obtain⟨_,_,_,_,_,_,hM,_⟩:=h.obj i cs hi
 grind
theorem Perm.ng{M:dy}{w:x5}{sz:Nat}{u:yz}(_:Perm M w sz u){b:Nat}(_:Co u=G b):∀p∈Gv,p.1≠b:=by
 grind[Gv]
theorem dm.own_ng{g:Gh}{σ:St}{w:x5}(_:dm g σ w){k sz:Nat}{xs:List V}(_:(k,sz,xs)∈σ.own){u:yz}(_:g.ι k (I xs)=G u){b:Nat}(_:Co u=G b):∀p∈Gv,p.1≠b:=by
 grind[Gv]
theorem GW.lt{w:x5}(h:GW w){p:Nat×Nat}(hp:p∈Gv):p.1<w.heap.size:=by
 obtain⟨cs,e,x,h1,_⟩:=h p hp
 grind
theorem GW.new{w:x5}(h:GW w){b:Nat}(hb:w.heap.size<=b):∀p∈Gv,p.1≠b:=fun p hp e=>by have:=h.lt hp;omega
theorem dm.grow{g:Gh}{σ:St}{w w':x5}(h:dm g σ w){M':dy}(hle:g.M.le M')(keep:∀b,b<w.heap.size->w'.heap[b]?=w.heap[b]?/\∀o,M' b o=g.M b o)
  (mem:∀b o v,M' b o=G v->w'.cell? ⟨b,o,none⟩=G v):dm { g with M:=M' } σ w':=by
 have hg:g.le { g with M:=M' }:=⟨hle,HP _,fun _ _=>rfl,fun _ _ _ h=>h,fun _ _=>rfl⟩
 refine⟨h.n,mem,fun i cs hi=>?_,h.inj,fun k sz xs hx=>?_,h.tags,h.sep,h.ownObj,h.fresh,h.gl.mono hle,h.gw.keep fun b hb=>(keep b hb).1⟩
 ·obtain⟨us,rest,e,hb,hr,h1,hM,hκ⟩:=h.obj i cs hi
  grind[Af.mono]
 ·obtain⟨h0,u,hu,hr,hp,hf⟩:=h.own k sz xs hx
  exact⟨h0,u,hu,hr.mono hle,hp.kept fun b hb=>keep b (h.own_lt hx hu hb),hf⟩
theorem WI.grow{E:cd}{g:Gh}{σ:St}{w w':x5}(hw:WI E g σ w){M':dy}(hle:g.M.le M')(keep:∀b,b<w.heap.size->w'.heap[b]?=w.heap[b]?/\∀o,M' b o=g.M b o)
  (mem:∀b o v,M' b o=G v->w'.cell? ⟨b,o,none⟩=G v) (size:w.heap.size<=w'.heap.size) (os:w'.os=w.os) (tape:w'.tape=w.tape) (output:w'.output=w.output) (drawn:BN w.drawn w'.drawn:=by first|exact BN.refl _|exact BN.succ _|assumption):WI E { g with M:=M' } σ w':=
 hw.update (fun _=>False) (fun _ h=>h.elim) (fun b hb _=>keep b hb) hle (HP _) (fun _ _=>rfl) (fun _ _=>rfl) size os tape output (hw.rep.grow hle keep mem) hw.objs hw.owns
theorem O0(w:x5)(o:Obj){b i:Nat}{v:yz}(h:w.cell? ⟨b,i,none⟩=G v):(w.alloc o).cell? ⟨b,i,none⟩=G v:=by
 grind[World.cell?,World.alloc]
theorem WI.alloc{E:cd}{g:Gh}{σ:St}{w:x5}(hw:WI E g σ w)(o:Obj):WI E g σ (w.alloc o):=by
 have:=hw.grow (w':=w.alloc o) (M':=g.M) (dy.le_refl _) (fun b hb=>⟨heap_alloc_old w o b hb,fun _=>rfl⟩) (fun b i v h=>O0 w o (hw.rep.mem b i v h)) (by simp) rfl rfl rfl
 omega
theorem WI.drew{E:cd}{g:Gh}{σ:St}{w:x5}(hw:WI E g σ w):WI E g σ w.drew:=by
 have:=hw.grow (w':=w.drew) (M':=g.M) (dy.le_refl _) (fun b hb=>⟨rfl,fun _=>rfl⟩) (fun b i v h=>hw.rep.mem b i v h) (HP _) rfl rfl rfl
 omega
theorem WI.addObj{E:cd}{g:Gh}{σ:St}{w:x5}(hw:WI E g σ w){b:Nat}{us rest:List yz}{e:x6}{cs:List D}(hb:w.heap[b]?=G (.cells (us++rest).toArray e (0,0)))(hE:E.w.heap.size<=b∨E.priv b)(hM:∀o,g.M b o=none)
  (hno:∀i cs,σ.H[i]?=G (G cs)->g.β i≠b) (hown:∀x∈σ.own,∀u,g.ι x.1 (I x.2.2)=G u->Co u≠G b) (hr:Af g cs us) (h1:∀c∈cs,c.one=J):
  WI E { g with n:=g.n+1,β:=fun o=>if o=g.n then b else g.β o,κ:=fun o=>if o=g.n then(us++rest).length else g.κ o } ⟨σ.H++[G cs],σ.own⟩ w/\g.le { g with n:=g.n+1,β:=fun o=>if o=g.n then b else g.β o,κ:=fun o=>if o=g.n then(us++rest).length else g.κ o }:=by
 have hle:g.le { g with n:=g.n+1,β:=fun o=>if o=g.n then b else g.β o,κ:=fun o=>if o=g.n then(us++rest).length else g.κ o }:=⟨dy.le_refl _,Nat.le_succ _,fun o ho=>HZ (by omega),fun _ _ _ h=>h,fun o ho=>HZ (by omega)⟩
 have split:∀i cs',(σ.H++[G cs])[i]?=G (G cs')->(σ.H[i]?=G (G cs')/\i<g.n)∨(i=g.n/\cs'=cs):=by
  intro i cs' hi
  by_cases hlt:i<I σ.H
  ·rw[Ig hlt] at hi
   exact .inl ⟨hi,by rw[hw.rep.n];omega⟩
  ·rw[Ib (by omega)] at hi
   have:i-I σ.H=0:=by
    grind
   rw[this] at hi
   simp at hi
   exact .inr ⟨by rw[hw.rep.n];omega,hi.symm⟩
 refine⟨hw.update (fun _=>False) (fun _ h=>h.elim) (fun _ _ _=>⟨rfl,fun _=>rfl⟩) (dy.le_refl _) (Nat.le_succ _) (fun o ho=>HZ (by omega)) (fun o ho=>HZ (by omega)) (HP _) rfl rfl rfl ?_ ?_ hw.owns,hle⟩
 ·refine⟨by simp[hw.rep.n],hw.rep.mem,fun i cs' hi=>?_,fun i j cs1 cs2 hi hj hij=>?_,hw.rep.own,hw.rep.tags,hw.rep.sep,fun x hx u hu b' hb' i cs' hi=>?_,hw.rep.fresh,hw.rep.gl,hw.rep.gw⟩
  ·rcases split i cs' hi with⟨h,hlt⟩|⟨rfl,rfl⟩
   ·obtain⟨us',rest',e',h2,h3,h4,h5,h6⟩:=hw.rep.obj i cs' h
    grind[Af.mono]
   grind[Af.mono]
  ·rcases split i cs1 hi with⟨h,hlt⟩|⟨rfl,rfl⟩<;>rcases split j cs2 hj with⟨h',hlt'⟩|⟨rfl,rfl⟩
   ·simp only[HZ (show ¬i=g.n by omega),HZ (show ¬j=g.n by omega)] at hij
    exact hw.rep.inj i j _ _ h h' hij
   all_goals grind
  ·rcases split i cs' hi with⟨h,hlt⟩|⟨rfl,rfl⟩
   ·simp only[HZ (show ¬i=g.n by omega)]
    exact hw.rep.ownObj x hx u hu b' hb' i cs' h
   grind
 ·intro i cs' hi
  rcases split i cs' hi with⟨h,hlt⟩|⟨rfl,rfl⟩
  ·simp only[HZ (show ¬i=g.n by omega)];exact hw.objs i cs' h
  grind
theorem WI.addOwn{E:cd}{g:Gh}{σ:St}{w:x5}(hw:WI E g σ w){k sz:Nat}{xs:List V}{u:yz}(hk:∀x∈σ.own,x.1≠k)(hsz:0<sz/\∀x∈xs,x.size=sz)(hr:repV g.M (.list xs) u)(hp:Perm g.M w sz u)
  (hb:∀b,Co u=G b->E.w.heap.size<=b/\(∀i cs,σ.H[i]?=G (G cs)->g.β i≠b)/\∀x∈σ.own,∀u',g.ι x.1 (I x.2.2)=G u'->Co u'≠G b):
  WI E { g with ι:=fun k' m=>if k'=k then(if m=I xs then G u else none) else g.ι k' m } ⟨σ.H,(k,sz,xs)::σ.own⟩ w/\
  g.le { g with ι:=fun k' m=>if k'=k then(if m=I xs then G u else none) else g.ι k' m }:=by
 have hle:g.le { g with ι:=fun k' m=>if k'=k then(if m=I xs then G u else none) else g.ι k' m }:=by
  refine⟨dy.le_refl _,HP _,fun _ _=>rfl,fun k' m u' h=>?_,fun _ _=>rfl⟩
  by_cases e:k'=k
  ·subst e;rw[hw.rep.fresh k' hk m] at h;grind
  grind
 have hold:∀x∈σ.own,(if x.1=k then(if I x.2.2=I xs then G u else none) else g.ι x.1 (I x.2.2))=g.ι x.1 (I x.2.2):=fun x hx=>HZ (hk x hx)
 refine⟨hw.update (fun _=>False) (fun _ h=>h.elim) (fun _ _ _=>⟨rfl,fun _=>rfl⟩) (dy.le_refl _) (HP _) (fun _ _=>rfl) (fun _ _=>rfl) (HP _) rfl rfl rfl ?_ hw.objs ?_,hle⟩
 ·refine⟨hw.rep.n,hw.rep.mem,fun i cs hi=>?_,hw.rep.inj,fun k' sz' xs' hx=>?_,?_,fun x hx y hy hne u1 u2 h1 h2 b hb1=>?_,fun x hx u1 h1 b hb1 i cs hi=>?_,fun k' hk' m=>?_,hw.rep.gl,hw.rep.gw⟩
  ·obtain⟨us,rest,e,h2,h3,h4,h5⟩:=hw.rep.obj i cs hi
   grind[Af.mono]
  ·rcases Iz.1 hx with e|hx
   ·grind
   ·obtain⟨h0,u',hu,h3,h4,h5⟩:=hw.rep.own k' sz' xs' hx
    grind
  ·simp only[Ik,List.nodup_cons]
   refine⟨fun h=>?_,hw.rep.tags⟩
   grind
  ·rcases Iz.1 hx with rfl|hx<;>rcases Iz.1 hy with rfl|hy
   ·omega
   ·grind
   ·grind
   ·exact hw.rep.sep x hx y hy hne u1 u2 ((hold x hx).symm.trans h1) ((hold y hy).symm.trans h2) b hb1
  ·rcases Iz.1 hx with rfl|hx
   ·grind
   ·exact hw.rep.ownObj x hx u1 ((hold x hx).symm.trans h1) b hb1 i cs hi
  ·have hne:¬k'=k:=fun e=>hk' (k,sz,xs) (by simp) e.symm
   simp only[HZ hne]
   exact hw.rep.fresh k' (fun x hx=>hk' x (by grind)) m
 ·intro x hx u1 h1 b hb1
  rcases Iz.1 hx with rfl|hx
  ·grind
  ·exact hw.owns x hx u1 ((hold x hx).symm.trans h1) b hb1
def Az:D->List D
 |.v (.agg xs)=>xs.map .v
 |.dagg cs=>cs
 |d=>[d]
def D.sto:D->Bool
 |.v _|.acc .. |.ptr .. |.arr .. |.gro .. |.dfn .. =>true
 |.dagg cs=>cs.all D.one
 |.raw x=>x.oneCell'
 |.rv x _=> !x.isAgg
 |_=>false
theorem DL{g:Gh}:∀{xs:List V} {us:List yz},repA g.M xs us->Af g (xs.map .v) us/\∀c∈xs.map bt,c.one=J
 |[],us,h=>by simp only[repA] at h;simp[h,Af]
 |x::xs,us,h=>by
  simp only[repA] at h
  obtain⟨u,us',rfl,ha,h1,h2⟩:=h
  obtain⟨h3,h4⟩:=DL h2
  refine⟨?_,?_⟩
  ·simp only[Ik,Af,Ag]
   exact⟨u,us',rfl,(BI ha).2 h1,h3⟩
  ·intro c hc
   simp only[Ik,Iz] at hc
   rcases hc with rfl|hc
   ·simp[D.one,ha]
   ·exact h4 c hc
theorem Nq{u:yz}(h:u.oneCell'=J):u.cells= #[u]:=by cases u<;>simp_all [Value.cells,Value.oneCell']
theorem FC{g:Gh}{d:D}{u:yz}(h1:d.one=J)(h:Ag g d u):u.oneCell'=J:=by
 cases d with
 |v x=>grind[Ag,D1,D.one]
 |acc k xs=>simp only[Ag] at h;exact D1 (x:=.list xs) rfl h.1
 |ptr q off=>simp only[Ag] at h;rw[h.2];rfl
 |arr q off len=>grind[Ag,Value.oneCell']
 |gro q len sz=>grind[Ag,Value.oneCell']
 |dfn f fs cs=>grind[Ag,Value.oneCell']
 |raw x=>grind[Ag,D.one]
 |rv x u0=>grind[Ag,D1,D.one]
 |dagg cs=>grind[D.one]
 |tup ds=>grind[D.one]
 |err=>grind[D.one]
 |undef=>grind[D.one]
theorem Cp{g:Gh}:∀{cs:List D} {us:List yz},(∀c∈cs,c.one=J)->Af g cs us->∀u∈us,u.oneCell'=J
 |[],us,_,h=>by simp only[Af] at h;simp[h]
 |c::cs,us,h1,h=>by
  simp only[Af] at h
  obtain⟨u,us',rfl,h2,h3⟩:=h
  intro x hx
  simp only[Iz] at hx
  rcases hx with rfl|hx
  ·exact FC (h1 c (by simp)) h2
  ·exact Cp (fun c hc=>h1 c (by simp[hc])) h3 x hx
theorem cells_rep{g:Gh}{d:D}{u:yz}(hs:d.sto=J)(h:Ag g d u):Af g (Az d) u.cells.toList/\(∀c∈Az d,c.one=J)/\(∀x∈u.cells.toList,x.oneCell'=J):=by
 have one:d.one=J->u.oneCell'=J->Az d=[d]->Af g (Az d) u.cells.toList/\(∀c∈Az d,c.one=J)/\(∀x∈u.cells.toList,x.oneCell'=J):=by
  grind[Nq,Af]
 cases d with
 |v x=>
  cases hx:x.isAgg with
  |false=>exact one (by grind[D.one]) (by grind[Ag,D1]) (by cases x with|agg _=>grind[V.isAgg]|_=>rfl)
  |true=>
   cases x<;>grind[Ag,CY,Az,Value.cells,DL,H7,V.isAgg]
 |acc k xs=>exact one rfl (by simp only[Ag] at h;exact D1 (x:=.list xs) rfl h.1) rfl
 |ptr q off=>exact one rfl (by simp only[Ag] at h;rw[h.2];rfl) rfl
 |arr q off len=>grind[Ag,Az,D.one,Value.oneCell']
 |dfn f fs cs=>grind[Ag,Az,D.one,Value.oneCell']
 |gro q len sz=>exact one rfl (FC rfl h) rfl
 |rv x u0=>grind[D.sto,D.one,FC,Az]
 |raw x=>grind[D.sto,D.one,FC,Az]
 |dagg cs=>
  grind[Ag,D.sto,Az,Value.cells,Cp]
 |tup ds=>grind[D.sto]
 |err=>grind[D.sto]
 |undef=>grind[D.sto]
theorem WI.setObj{E:cd}{g:Gh}{σ:St}{w w':x5}(hw:WI E g σ w){q:Nat}{cs cs':List D}(hq:σ.H[q]?=G (G cs)){us rest:List yz}{e:x6}(hb:w'.heap[g.β q]?=G (.cells (us++rest).toArray e (0,0)))(hκ:I (us++rest)=g.κ q)
  (hr:Af g cs' us) (h1:∀c∈cs',c.one=J) (keep:∀b,b≠g.β q->w'.heap[b]?=w.heap[b]?) (size:w'.heap.size=w.heap.size) (os:w'.os=w.os) (tape:w'.tape=w.tape) (output:w'.output=w.output) (drawn:BN w.drawn w'.drawn:=by first|exact BN.refl _|exact BN.succ _|assumption):
  WI E g ⟨σ.H.set q (G cs'),σ.own⟩ w':=by
 have hMq:∀o,g.M (g.β q) o=none:=by obtain⟨_,_,_,_,_,_,h,_⟩:=hw.rep.obj q cs hq;exact h
 have split:∀(i:Nat) (cs1:List D),(σ.H.set q (G cs'))[i]?=G (G cs1)->(i=q/\cs1=cs')∨(i≠q/\σ.H[i]?=G (G cs1)):=by
  grind
 have live:∀(i:Nat) (cs1:List D),(σ.H.set q (G cs'))[i]?=G (G cs1)->∃cs2,σ.H[i]?=G (G cs2):=by
  grind
 refine hw.update (fun b=>b=g.β q) (fun b e=>by subst e;exact hw.objs q cs hq) (fun b _ hne=>⟨keep b hne,fun _=>rfl⟩) (dy.le_refl _) (HP _) (fun _ _=>rfl) (fun _ _=>rfl) (by omega) os tape output ?_ ?_ hw.owns
 ·refine⟨by simp[hw.rep.n],fun b o v hm=>?_,fun i cs1 hi=>?_,fun i j c1 c2 hi hj hij=>?_,fun k sz xs hx=>?_,hw.rep.tags,hw.rep.sep,fun x hx u hu b hb' i cs1 hi=>?_,hw.rep.fresh,hw.rep.gl,hw.rep.gw.mono fun b cs0 e0 x0 hb0=>by
   by_cases hbq:b=g.β q
   ·subst hbq
    obtain⟨us1,rest1,e1,h2,_,_,_,h3⟩:=hw.rep.obj q cs hq
    grind
   grind⟩
  ·have hne:b≠g.β q:=fun e=>by grind
   have:=hw.rep.mem b o v hm
   grind[World.cell?]
  ·rcases split i cs1 hi with⟨rfl,rfl⟩|⟨hne,h⟩
   ·grind
   ·obtain⟨us',rest',e',h2,h3,h4,h5⟩:=hw.rep.obj i cs1 h
    refine⟨us',rest',e',?_,h3,h4,h5⟩
    rw[keep _ (fun e=>hne (hw.rep.inj i q _ _ h hq e))];exact h2
  ·obtain⟨c3,h3⟩:=live i c1 hi
   obtain⟨c4,h4⟩:=live j c2 hj
   exact hw.rep.inj i j _ _ h3 h4 hij
  ·obtain⟨h0,u,hu,h3,h4,h5⟩:=hw.rep.own k sz xs hx
   refine⟨h0,u,hu,h3,h4.kept fun b hb'=>⟨keep b ?_,fun _=>rfl⟩,h5⟩
   exact fun e=>hw.rep.ownObj _ hx u hu b hb' q cs hq e.symm
  ·obtain⟨c3,h3⟩:=live i cs1 hi
   exact hw.rep.ownObj x hx u hu b hb' i c3 h3
 ·intro i cs1 hi
  obtain⟨c3,h3⟩:=live i cs1 hi
  exact hw.objs i c3 h3
section
variable {P : x7} {o : yy} {σ : St} {d : D}
theorem WI.newObj{E:cd}{g:Gh}{w:x5}(hw:WI E g σ w){us:List yz}{cs:List D}(e:x6)(hr:Af g cs us)(h1:∀c∈cs,c.one=J):
  ∃g',WI E g' ⟨σ.H++[G cs],σ.own⟩ (w.alloc (.cells us.toArray e))/\g.le g'/\g'.β (I σ.H)=w.heap.size/\g'.n=I σ.H+1:=by
 have h2:=(hw.alloc (.cells us.toArray e)).addObj (b:=w.heap.size) (us:=us) (rest:=[]) (e:=e) (cs:=cs) (by grind[heap_alloc_new]) (.inl hw.size) (hw.rep.new_none (HP _))
  (fun i cs hi=>Nat.ne_of_lt (hw.rep.obj_lt hi)) (fun x hx u hu hb=>by have:=hw.rep.own_lt hx hu hb;omega) hr h1
 exact⟨_,h2.1,h2.2,by simp[hw.rep.n],by simp[hw.rep.n]⟩
theorem Al5{e:x6}{x:x8}(ho:o.op=.box e x)(hs:d.sto=J):Ah P o [d] σ (.ptr (I σ.H) 0) ⟨σ.H++[G (Az d)],σ.own⟩:=by
 intro E g a w K Q hw hds hK
 simp only[ho,Op.operands,AB] at hds
 obtain⟨u,eu,hd⟩:=hds
 simp at eu
 obtain⟨h2,h3,_⟩:=cells_rep hs hd
 obtain⟨g',hw',hle,hβ,hn⟩:=hw.newObj e h2 h3
 have:=hK g' _ (.pointer (G ⟨w.heap.size,0,none⟩)) hw' hle (by grind[Ag])
 unfold Oper.wp execOp
 simpa[ho,eu,Instr.box,newVar,newRow,Oper.upon] using this
def RG:yz->Option V
 |.int k n=>G (.int k n)
 |.bool b=>G (.bool b)
 |.string s=>G (.str s.data.toList)
 |.slice none 0 0=>G (.list [])
 |.nilFunc=>G .nilfn
 |.pointer none=>G .nilp
 |_=>none
def KR:List yz->Option (List V)
 |[]=>G []
 |u::us=>match RG u,KR us with
  |some x,some xs=>G (x::xs)
  |_,_=>none
theorem KS{M:dy}{u:yz}{x:V}(h:RG u=G x):x.isAgg=O/\repC M x [u]:=by
 unfold RG at h
 split at h<;>simp at h<;>subst h<;>simp[V.isAgg,repC]
theorem GC{M:dy}:∀{us:List yz} {xs:List V},KR us=G xs->repA M xs us
 |[],xs,h=>by simp[KR] at h;subst h;simp[repA]
 |u::us,xs,h=>by
  simp only[KR] at h
  split at h
  ·rename_i x xs' h1 h2
   simp at h;subst h
   obtain⟨h3,h4⟩:=KS (M:=M) h1
   simp only[repA]
   exact⟨u,us,rfl,h3,h4,GC h2⟩
  ·simp at h
def YR(P:x7)(t:x6):Option (List V):=
 match (P.info? t).bind (·.zero) with
 |some z=>KR z.cells.toList
 |none=>none
theorem LM{t:x6}{xs:List V}(h:YR P t=G xs):∃i z,P.info? t=G i/\i.zero=G z/\KR z.cells.toList=G xs:=by
 unfold YR at h
 split at h
 ·rename_i z hz
  cases hi:P.info? t<;>grind
 grind
theorem L8{t:x6}{x y:x8}(ho:o.op=.store t x y)(hs:d.sto=J){n:Nat}{b:Bool}(ht:DU P t=G (n,b))(hn:I (Az d)=n){q off:Nat}{cs:List D}(hq:σ.H[q]?=G (G cs))(hoff:off+n<=I cs):
  Ah P o [.ptr q off,d] σ .undef ⟨σ.H.set q (G (cs.take off++Az d++cs.drop (off+n))),σ.own⟩:=by
 intro E g a w K Q hw hds hK
 simp only[ho,Op.operands,Au] at hds
 obtain⟨u,v,eq,h1,h2⟩:=hds
 simp only[Ik,IF,HV,Ix] at eq
 obtain⟨e1,e2⟩:=eq
 simp only[Ag] at h1
 obtain⟨hlt,rfl⟩:=h1
 obtain⟨us,rest,e,hb,hr,hone,hM,hκ⟩:=hw.rep.obj q cs hq
 obtain⟨h3,h4,h5⟩:=cells_rep hs h2
 have hl:I us=I cs:=A0 hr
 have hl2:I v.cells.toList=n:=by grind[A0]
 have hst:=run_storeCells_at P (g.β q) off e v.cells.toList 0 (us++rest).toArray w hb (by grind) h5
 simp only[IG,hl2] at hst
 rw[show(us++rest).take off++v.cells.toList++(us++rest).drop (off+n)=(us.take off++v.cells.toList++us.drop (off+n))++rest from by
  grind] at hst
 have hw':=hw.setObj (cs':=cs.take off++Az d++cs.drop (off+n)) hq (us:=us.take off++v.cells.toList++us.drop (off+n)) (rest:=rest) (e:=e)
  (w':=w.setRow (g.β q) ((us.take off++v.cells.toList++us.drop (off+n))++rest).toArray) (setRow_heap w _ _ _ e _ hb) (by grind)
  (Aw (Aw (Ce hr off) h3) (Cq hr (off+n)))
  (fun c hc=>by
   grind)
  (fun b hb=>setRow_other w _ _ _ hb) (by simp) rfl rfl rfl
 have:=hK g _ undef hw' g.le_refl (by simp[Ag])
 have hsz:v.cells.size=n:=by omega
 unfold Oper.wp execOp
 simp only[ho,e1,e2,Instr.storeAt,Instr.sureAddr,Sem.run_bind,Sem.run_pure,Result.andThen_ok,storeVar,dw ht,hsz,ne_eq,not_true_eq_false,if_false,hst]
 exact this
theorem QO{t:x6}{x y:x8}(ho:o.op=.store t x y)(hs:d.one=J)(ht:PY P t){q off:Nat}{cs:List D}(hq:σ.H[q]?=G (G cs))(hoff:off<I cs):
  Ah P o [.ptr q off,d] σ .undef ⟨σ.H.set q (G (cs.set off d)),σ.own⟩:=by
 have hc:Az d=[d]:=by
  cases d with
  |v x=>cases x<;>simp_all [D.one,Az,V.isAgg]
  |dagg cs=>grind[D.one]
  |_=>rfl
 have hs':d.sto=J:=by cases d<;>simp_all [D.one,D.sto]
 have h:=L8 (P:=P) (σ:=σ) (n:=1) (off:=off) ho hs' ht (by grind) hq (by omega)
 grind[List.set_eq_take_append_cons_drop]
def V.cellsV:V->List V
 |.agg cs=>cs
 |x=>[x]
theorem Mk{M:dy}{x:V}{u:yz}(h:repV M x u):repA M x.cellsV u.cells.toList/\u.cells.size=x.size:=by
 have hc:=K6 h
 have hl:u.cells.size=x.size:=by grind[Array.length_toList,G6]
 refine⟨?_,hl⟩
 cases hx:x.isAgg with
 |true=>
  cases x<;>grind[V.cellsV,repC,V.isAgg]
 |false=>
  have e:x.cellsV=[x]:=by cases x<;>simp_all [V.cellsV,V.isAgg]
  grind[CZ,repA]
def Hd(place:Nat->Option (Nat×Nat))(cells:List V):List (Nat×V)->Option (List V)
 |[]=>G cells
 |(i,x)::rest=>
  match place i with
  |none=>none
  |some (off,size)=>if x.size=size/\off+size<=I cells then Hd place (cells.take off++x.cellsV++cells.drop (off+size)) rest else none
theorem Og{place place':Nat->Option (Nat×Nat)}{out:List V}(hp:∀i p,place i=G p->place' i=G p):∀(xs:List (Nat×V)) (cells:List V),Hd place cells xs=G out->Hd place' cells xs=G out
 |[],cells,h=>by simpa[Hd] using h
 |(i,x)::xs,cells,h=>by
  simp only[Hd] at h⊢
  cases hi:place i with
  |none=>simp[hi] at h
  |some p=>
   rw[hp i p hi]
   simp only[hi] at h⊢
   split at h
   ·rename_i hc;rw[Ie hc];exact Og hp xs _ h
   ·simp at h
theorem J5{M:dy}:∀{xs ys:List V} {us vs:List yz},repA M xs us->repA M ys vs->repA M (xs++ys) (us++vs)
 |[],ys,us,vs,h,h'=>by simp only[repA] at h;simpa[h] using h'
 |x::xs,ys,us,vs,h,h'=>by
  simp only[repA] at h
  obtain⟨u,us1,rfl,ha,h1,h2⟩:=h
  simp only[Jz,repA]
  exact⟨u,_,rfl,ha,h1,J5 h2 h'⟩
theorem ZN(off:Nat)(l:List yz)(cs:Array yz)(h:off+I l<=cs.size):
  ((l.zipIdx 0).foldl (fun cs (x:yz×Nat)=>cs.setIfInBounds (off+x.2) x.1) cs).toList=cs.toList.take off++l++cs.toList.drop (off+I l):=by
 obtain⟨h1,h2⟩:=Great.foldl_set off l 0 cs
 apply ext_getElem?
 grind
inductive K2 (M:dy):List (Nat×V)->List (Nat×yz)->Prop
 |nil:K2 M [] []
 |cons {i:Nat} {x:V} {u:yz} {xs:List (Nat×V)} {us:List (Nat×yz)} (h:repV M x u) (hr:K2 M xs us):K2 M ((i,x)::xs) ((i,u)::us)
theorem LC{M:dy}{place:Nat->Option (Nat×Nat)}:∀{xs:List (Nat×V)} {us:List (Nat×yz)} {cells out:List V} {cu:Array yz},K2 M xs us->repA M cells cu.toList->Hd place cells xs=G out->
  ∃U,Instr.fill place cu us=G U/\repA M out U.toList
 |[],us,cells,out,cu,h,hc,hf=>by
  cases h
  simp[Hd] at hf;subst hf
  exact⟨cu,rfl,hc⟩
 |(i,x)::xs,us,cells,out,cu,h,hc,hf=>by
  cases h with
  |cons hx hr=>
   rename_i u us
   simp only[Hd] at hf
   cases hp:place i with
   |none=>simp[hp] at hf
   |some p=>
    obtain⟨off,size⟩:=p
    simp only[hp] at hf
    split at hf
    ·rename_i hcond
     obtain⟨hA,hsz⟩:=Mk hx
     have hl:cu.size=I cells:=by rw[←Iw];exact DY hc
     have hs:u.cells.size=size:=hsz.trans hcond.1
     have hsp:=ZN off u.cells.toList cu (by simp only[Iw];omega)
     simp only[Iw,hs] at hsp
     have hc':repA M (cells.take off++x.cellsV++cells.drop (off+size)) ((u.cells.toList.zipIdx 0).foldl (fun cs (x:yz×Nat)=>cs.setIfInBounds (off+x.2) x.1) cu).toList:=by
      rw[hsp]
      exact J5 (J5 (JJ hc off) hA) (JK hc (off+size))
     obtain⟨U,hU,hrU⟩:=LC hr hc' hf
     refine⟨U,?_,hrU⟩
     unfold Instr.fill
     simp only[hp,hs]
     rw[HZ (by simp;omega), ←hU]
     congr 1
     rw[←Array.foldl_toList,Array.toList_zipIdx]
    ·simp at hf
def Yy(P:x7)(t:x6):Option (List V×List (Nat×Nat)):=
 match YR P t,P.underlying t with
 |some z,some (.struct fs)=>(fs.toList.mapM (fun f=>(P.info? f.type).map fun i=>(f.offset,i.size))).map fun p=>(z,p)
 |some z,some (.array n e)=>(P.info? e).map fun i=>(z,(List.range n).map fun j=>(j*i.size,i.size))
 |_,_=>none
def Dm:List (Nat×x8)->List D->Option (List (Nat×V))
 |[],[]=>G []
 |(i,_)::ps,d::ds=>match d.toV,Dm ps ds with
  |some x,some xs=>G ((i,x)::xs)
  |_,_=>none
 |_,_=>none
theorem Hl{g:Gh}{a:Act}:∀{ps:List (Nat×x8)} {ds:List D} {xs:List (Nat×V)},Dm ps ds=G xs->Af g ds (ps.map fun p=>a.eval p.2)->K2 g.M xs (ps.map fun p=>(p.1,a.eval p.2))
 |[],[],xs,h,_=>by simp[Dm] at h;subst h;exact .nil
 |[],_::_,xs,h,_=>by grind[Dm]
 |(i,_)::ps,[],xs,h,_=>by grind[Dm]
 |(i,x)::ps,d::ds,xs,h,hr=>by
  simp only[Dm] at h
  split at h
  ·rename_i y ys hy hys
   simp at h;subst h
   simp only[Ik,Af] at hr
   obtain⟨u,us',e,h1,h2⟩:=hr
   simp at e
   obtain⟨rfl,rfl⟩:=e
   exact .cons (K5 hy h1) (Hl hys h2)
  grind
theorem UZ{t:x6}{parts:Array (Nat×x8)}(ho:o.op=.build t parts){z:List V}{ay:List (Nat×Nat)}(hb:Yy P t=G (z,ay)){ds:List D}{xs:List (Nat×V)}{out:List V}
  (hx:Dm parts.toList ds=G xs) (hf:Hd (ay[·]?) z xs=G out):Ah P o ds σ (.v (.agg out)) σ:=by
 intro E g a w K Q hw hds hK
 simp only[ho,Op.operands] at hds
 have hpr:=Hl hx (a:=a) (g:=g) (by grind[Function.comp_def])
 unfold Yy at hb
 have key:∃U,P.built t (parts.toList.map fun p=>(p.1,a.eval p.2))=G U/\repA g.M out U.toList:=by
  cases hz:YR P t with
  |none=>grind
  |some z0=>
   obtain⟨i,zv,hi,hz1,hcv⟩:=LM hz
   cases hu:P.underlying t with
   |none=>grind
   |some dd=>
    cases dd<;>simp only[hz,hu,reduceCtorEq] at hb
    case struct fs=>
     cases hp:fs.toList.mapM (fun f=>(P.info? f.type).map fun i=>(f.offset,i.size)) with
     |none=>grind
     |some pl=>
      simp[hp] at hb
      obtain⟨rfl,rfl⟩:=hb
      obtain⟨U,hU,hrU⟩:=LC hpr (GC (M:=g.M) hcv) hf
      exact⟨U,by simpa[Program.built,hi,hu,hz1,hp] using hU,hrU⟩
    case array n e=>
     cases hp:P.info? e with
     |none=>grind
     |some ie=>
      simp[hp] at hb
      obtain⟨rfl,rfl⟩:=hb
      have hf':Hd (fun i=>G (i*ie.size,ie.size)) z0 xs=G out:=by
       grind[Og]
      obtain⟨U,hU,hrU⟩:=LC hpr (GC (M:=g.M) hcv) hf'
      grind[Program.built]
 obtain⟨U,hU,hrU⟩:=key
 have:=hK g w (.agg U) hw g.le_refl (by grind[Ag,CY])
 have hrun:=run_build (P:=P) w t (parts.map fun p=>(p.1,a.eval p.2)) U (by simp_all)
 unfold Oper.wp execOp
 simp only[ho]
 simp only[Sem.run_bind]
 rw[show(parts.map fun(x:Nat×x8)=>match x with|(i,x)=>(i,a.eval x))=parts.map fun p=>(p.1,a.eval p.2) from rfl,hrun]
 exact this
end
def H3(k sz:Nat)(zs:List V)(x:Nat×Nat×List V):Nat×Nat×List V:=if x.1=k then(k,sz,zs) else x
theorem UJ{k sz:Nat}{zs:List V}(x:Nat×Nat×List V):(H3 k sz zs x).1=x.1:=by grind[H3]
theorem WI.setOwn{E:cd}{g:Gh}{σ:St}{w w':x5}(hw:WI E g σ w){k sz:Nat}{xs zs:List V}(hx:(k,sz,xs)∈σ.own){u u':yz}(hu:g.ι k (I xs)=G u){M':dy}(hle:g.M.le M')
  (keep:∀b,b<w.heap.size->Co u≠G b->w'.heap[b]?=w.heap[b]?/\∀o,M' b o=g.M b o) (mem:∀b o v,M' b o=G v->w'.cell? ⟨b,o,none⟩=G v)
  (size:w.heap.size<=w'.heap.size) (os:w'.os=w.os) (tape:w'.tape=w.tape) (output:w'.output=w.output)
  (hzs:∀x∈zs,x.size=sz) (hr:repV M' (.list zs) u') (hp:Perm M' w' sz u') (hb:∀b,Co u'=G b->Co u=G b∨w.heap.size<=b) (hlen:I xs<I zs∨(I zs=I xs/\u'=u)) (drawn:BN w.drawn w'.drawn:=by first|exact BN.refl _|exact BN.succ _|assumption):
  WI E { g with M:=M',ι:=fun k' m=>if k'=k/\m=I zs then G u' else g.ι k' m } ⟨σ.H,σ.own.map (H3 k sz zs)⟩ w'/\
  g.le { g with M:=M',ι:=fun k' m=>if k'=k/\m=I zs then G u' else g.ι k' m }:=by
 obtain⟨hsz,u0,hu0,_,_,hfr⟩:=hw.rep.own k sz xs hx
 have hlg:g.le { g with M:=M',ι:=fun k' m=>if k'=k/\m=I zs then G u' else g.ι k' m }:=by
  refine⟨hle,HP _,fun _ _=>rfl,fun k' m v h=>?_,fun _ _=>rfl⟩
  grind
 -- two entries with one tag are one
 have uniq:∀y∈σ.own,y.1=k->y=(k,sz,xs):=by
  intro y hy e
  have hnd:=hw.rep.tags
  clear hfr hlg hw
  generalize σ.own=l at*
  induction l<;>grind
 have old:∀y∈σ.own,y.1≠k->(if y.1=k/\y.2.2.length=I zs then G u' else g.ι y.1 (I y.2.2))=g.ι y.1 (I y.2.2):=fun y _ e=>HZ (fun h=>e h.1)
 -- each new entry
 have cases_:∀y'∈σ.own.map (H3 k sz zs),(y'=(k,sz,zs))∨(y'∈σ.own/\y'.1≠k):=by
  grind[H3]
 have sep0:∀y∈σ.own,y.1≠k->∀v,g.ι y.1 (I y.2.2)=G v->∀b,Co v=G b->Co u'≠G b:=by
  intro y hy e v hv b hvb hub
  rcases hb b hub with h|h
  ·exact hw.rep.sep (k,sz,xs) hx y hy (fun h=>e h.symm) u v hu hv b h hvb
  ·have:=hw.rep.own_lt hy hv hvb;omega
 refine⟨hw.update (fun b=>Co u=G b) (fun b h=>hw.owns _ hx u hu b h) (fun b hb1 h=>keep b hb1 h) hle (HP _) (fun _ _=>rfl) (fun _ _=>rfl) size os tape output ?_ hw.objs ?_,hlg⟩
 ·refine⟨hw.rep.n,mem,fun i cs hi=>?_,hw.rep.inj,fun k' sz' xs' hx'=>?_,?_,fun x1 hx1 y1 hy1 hne u1 u2 h1 h2 b hb1=>?_,fun x1 hx1 u1 h1 b hb1 i cs hi=>?_,fun k' hk' m=>?_,hw.rep.gl.mono hle,hw.rep.gw.keepG fun p hp hlt=>(keep p.1 hlt fun e=>hw.rep.own_ng hx hu e p hp rfl).1⟩
  ·obtain⟨us,rest,e,h2,h3,h4,h5,h6⟩:=hw.rep.obj i cs hi
   obtain⟨k1,k2⟩:=keep _ (MD h2) (fun h=>hw.rep.ownObj _ hx u hu _ h i cs hi rfl)
   grind[Af.mono]
  ·rcases cases_ _ hx' with e|⟨hy,e⟩
   ·grind
   ·obtain⟨h0,v,hv,h3,h4,h5⟩:=hw.rep.own k' sz' xs' hy
    refine⟨h0,v,(old _ hy e).trans hv,h3.mono hle,h4.kept fun b hvb=>keep b (hw.rep.own_lt hy hv hvb) ?_,fun m hm=>?_⟩
    ·exact fun h=>hw.rep.sep (k,sz,xs) hx _ hy (fun h=>e h.symm) u v hu hv b h hvb
    grind
  ·rw[map_map]
   have:(Prod.fst ∘H3 k sz zs)=Prod.fst:=funext fun x=>UJ x
   rw[this];exact hw.rep.tags
  ·rcases cases_ _ hx1 with rfl|⟨hy,e⟩<;>rcases cases_ _ hy1 with rfl|⟨hy',e'⟩
   ·omega
   ·grind
   ·grind
   ·exact hw.rep.sep x1 hy y1 hy' hne u1 u2 ((old _ hy e).symm.trans h1) ((old _ hy' e').symm.trans h2) b hb1
  ·rcases cases_ _ hx1 with rfl|⟨hy,e⟩
   ·simp at h1;subst h1
    rcases hb b hb1 with h|h
    ·exact hw.rep.ownObj _ hx u hu b h i cs hi
    ·have:=hw.rep.obj_lt hi
     grind
   ·exact hw.rep.ownObj x1 hy u1 ((old _ hy e).symm.trans h1) b hb1 i cs hi
  ·have hne:¬(k'=k):=fun e=>hk' (k,sz,zs) (I2.2 ⟨_,hx,by simp[H3]⟩) e.symm
   simp only[HZ (show ¬(k'=k/\m=I zs) from fun h=>hne h.1)]
   refine hw.rep.fresh k' (fun y hy e=>?_) m
   grind[UJ]
 ·intro x1 hx1 u1 h1 b hb1
  rcases cases_ _ hx1 with rfl|⟨hy,e⟩
  ·simp at h1;subst h1
   rcases hb b hb1 with h|h
   ·exact hw.owns _ hx u hu b h
   ·exact .inl (IE hw.size h)
  ·exact hw.owns x1 hy u1 ((old _ hy e).symm.trans h1) b hb1
def Wo(M:dy)(b:Nat)(us:List yz):dy:=fun b' o=>if b'=b then us[o]? else M b' o
theorem Ada{g:Gh}{σ:St}{w:x5}(h:dm g σ w){b:Nat}(hb:w.heap.size<=b)(us:List yz):g.M.le (Wo g.M b us):=fun b' o v hm=>by
 have:=h.mem_lt hm
 grind[Wo]
theorem PX(M:dy)(b:Nat)(us:List yz):fg (Wo M b us) b 0 us:=by grind[Wo,fg]
theorem OL{M:dy}{b b':Nat}{us:List yz}(h:b'≠b)(o:Nat):Wo M b us b' o=M b' o:=by simp[Wo,h]
theorem WI.newImm{E:cd}{g:Gh}{σ:St}{w:x5}(hw:WI E g σ w)(us rest:List yz)(e:x6):
  WI E { g with M:=Wo g.M w.heap.size us } σ (w.alloc (.cells (us++rest).toArray e))/\g.le { g with M:=Wo g.M w.heap.size us }:=by
 refine⟨hw.grow (Ada hw.rep (HP _) us) (fun b hb=>⟨heap_alloc_old w _ b hb,OL (Nat.ne_of_lt hb)⟩) (fun b o v hm=>?_) (by simp) rfl rfl rfl,⟨Ada hw.rep (HP _) us,HP _,fun _ _=>rfl,fun _ _ _ h=>h,fun _ _=>rfl⟩⟩
 unfold Wo at hm
 split at hm
 ·grind[World.cell?,World.alloc]
 ·exact O0 w _ (hw.rep.mem b o v hm)
theorem J4{M:dy}{sz:Nat}:∀{xs ys:List V} {us vs:List yz},repE M sz xs us->repE M sz ys vs->repE M sz (xs++ys) (us++vs)
 |[],ys,us,vs,h,h'=>by simp only[repE] at h;simpa[h] using h'
 |x::xs,ys,us,vs,h,h'=>by
  simp only[repE] at h
  obtain⟨u1,u2,rfl,hl,h1,h2⟩:=h
  simp only[Jz,repE]
  exact⟨u1,u2++vs,by simp,hl,h1,J4 h2 h'⟩
theorem Lb{M:dy}{sz:Nat}:∀{xs:List V} {us:List yz},repE M sz xs us->∀u∈us,u.oneCell'=J
 |[],us,h=>by simp only[repE] at h;simp[h]
 |x::xs,us,h=>by
  simp only[repE] at h
  obtain⟨u1,u2,rfl,hl,h1,h2⟩:=h
  intro u hu
  rcases I6.1 hu with hu|hu
  ·exact Lc h1 u hu
  ·exact Lb h2 u hu
theorem Cd{M:dy}{xs:List V}{u:yz}{sz:Nat}(h:repV M (.list xs) u)(hs:∀x∈xs,x.size=sz)(_:0<sz):
  ∃a cap,u=.slice a (I xs) cap/\xs.length<=cap/\(xs=[]∨∃b off us,a=G ⟨b,off,none⟩/\fg M b off us/\repE M sz xs us):=by
 rw[B4] at h
 obtain⟨a,cap,e,hc,h⟩:=h
 refine⟨a,cap,e,hc,?_⟩
 rcases h with h|⟨b,off,sz',us,ha,hsz',hi,hr⟩
 ·grind
 ·cases xs with
  |nil=>grind
  |cons x xs=>
   have hx:=hs x (by simp)
   grind[G6,repE]
theorem Dg{M:dy}{xs:List V}{b f sz cap:Nat}{us:List yz}(hsz:0<sz)(hi:fg M b f us)(hr:repE M sz xs us)(hc:I xs<=cap):repV M (.list xs) (.slice (G ⟨b,f,none⟩) (I xs) cap):=by
 grind[B4]
section
variable {P : x7} {o : yy} {σ : St} {d : D}
theorem JY(s:Nat):∀(vs:List yz) (i0:Nat) (d9 rest:List yz),I d9=i0*s->(∀v∈vs,v.cells.size=s)->I rest=I vs*s->
  Instr.fill (fun i=>G (i*s,s)) (d9++rest).toArray ((vs.zipIdx i0).map fun x=>(x.2,x.1))=G (d9++vs.flatMap (·.cells.toList)).toArray
 |[],i0,d9,rest,_,_,hr=>by
  have:rest=[]:=List.eq_nil_of_length_eq_zero (by simpa using hr)
  subst this;simp[Instr.fill]
 |v::vs,i0,d9,rest,hp,hv,hr=>by
  have hvs:=hv v (by simp)
  have hr':I rest=s+I vs*s:=by rw[hr,HN,IV,Nat.one_mul,Nat.add_comm]
  have hsp:=ZN (i0*s) v.cells.toList (d9++rest).toArray (by simp only[IY,HW,Iw];omega)
  simp only[Iw,hvs] at hsp
  have e1:(d9++rest).take (i0*s)=d9:=by rw[←hp];simp
  have e2:(d9++rest).drop (i0*s+s)=rest.drop s:=by rw[←hp];simp
  simp only[e1,e2] at hsp
  have ih:=JY s vs (i0+1) (d9++v.cells.toList) (rest.drop s) (by simp[hp,hvs,IV]) (fun x hx=>hv x (by simp[hx])) (by simp;omega)
  simp only[List.zipIdx_cons,Ik]
  unfold Instr.fill
  simp only[hvs]
  rw[HZ (by simp;omega)]
  have e3:(v.cells.zipIdx.foldl (fun cs (x:yz×Nat)=>cs.setIfInBounds (i0*s+x.2) x.1) (d9++rest).toArray)=(d9++v.cells.toList++rest.drop s).toArray:=by
   rw[←Array.foldl_toList,Array.toList_zipIdx]
   apply IL
   rw[hsp]
  rw[e3,ih]
  simp
theorem JD{g:Gh}{sz:Nat}:∀{ds:List D} {xs:List V} {us:List yz},Fv ds=G xs->Af g ds us->(∀x∈xs,x.size=sz)->repE g.M sz xs (us.flatMap (·.cells.toList))/\(∀v∈us,v.cells.size=sz)
 |[],xs,us,h,hr,_=>by simp[Fv] at h;subst h;simp only[Af] at hr;subst hr;simp[repE]
 |d::ds,xs,us,h,hr,hs=>by
  simp only[Fv] at h
  split at h
  ·rename_i x xs' hx hxs
   simp at h;subst h
   simp only[Af] at hr
   obtain⟨u,us',rfl,h2,h3⟩:=hr
   have hv:=K5 hx h2
   obtain⟨_,hsz⟩:=Mk hv
   obtain⟨h4,h5⟩:=JD hxs h3 (fun y hy=>hs y (by simp[hy]))
   have hu:u.cells.size=sz:=hsz.trans (hs x (by simp))
   refine⟨?_,?_⟩
   ·simp only[List.flatMap_cons,repE]
    exact⟨_,_,rfl,by simpa using hu,K6 hv,h4⟩
   ·intro v hv'
    rcases Iz.1 hv' with rfl|h
    ·exact hu
    ·exact h5 v h
  ·simp at h
theorem G0:∀{ds:List D} {xs:List V},Fv ds=G xs->I xs=I ds
 |[],xs,h=>by simp[Fv] at h;simp[←h]
 |d::ds,xs,h=>by
  simp only[Fv] at h
  split at h
  ·rename_i x xs' hx hxs
   simp at h;subst h
   simp[G0 hxs]
  ·simp at h
theorem EQ{t:x6}{len:Nat}{parts:Array (Nat×x8)}(ho:o.op=.buildSlice t len parts)(hp:parts.toList=((parts.toList.map (·.2)).zipIdx 0).map fun x=>(x.2,x.1))(hlen:parts.size=len)
  {e:x6} {sz by':Nat} {z:Option yz} (hs:BR P t=G (e,sz,by',z)) (hz:z.isSome=J) {ds:List D} {xs:List V} (hx:Fv ds=G xs) (hsz:∀x∈xs,x.size=sz) (h0:0<len) (h1:0<sz) (h2:len*sz<=1000):
  Ah P o ds σ (.v (.list xs)) σ:=by
 intro E g a w K Q hw hds hK
 simp only[ho,Op.operands] at hds
 obtain⟨i,hu,hi,rfl,rfl,rfl⟩:=AE hs
 obtain⟨zz,hzz⟩:=Option.isSome_iff_exists.1 hz
 have hlm:I (parts.toList.map fun p=>a.eval p.2)=len:=by grind
 have hds':Af g ds (parts.toList.map fun p=>a.eval p.2):=by grind[Function.comp_def]
 obtain⟨hr,hcs⟩:=JD hx hds' hsz
 have hxl:I xs=len:=by rw[G0 hx, ←A0 hds',hlm]
 have hpos:0<len*i.size:=Nat.mul_pos h0 h1
 have hf:=JY i.size (parts.toList.map fun p=>a.eval p.2) 0 [] ((Array.range (len*i.size)).map (zz.cells[· %zz.cells.size]!)).toList (by simp) hcs (by grind)
 have hpp:((parts.toList.map fun p=>a.eval p.2).zipIdx 0).map (fun x=>(x.2,x.1))=parts.toList.map fun p=>(p.1,a.eval p.2):=by
  have e1:(parts.toList.map fun p=>a.eval p.2)=(parts.toList.map (·.2)).map a.eval:=by simp
  rw[e1,List.zipIdx_map,map_map]
  conv=>rhs;rw[hp,map_map]
  rfl
 rw[hpp] at hf
 simp only[nil_append,Array.toArray_toList] at hf
 have hrun:=run_buildSlice (P:=P) w t e len (parts.map fun p=>(p.1,a.eval p.2)) _ i zz hu hi hzz (by omega) (by omega) (by simpa using hf)
 obtain⟨hw',hle⟩:=hw.newImm ((parts.toList.map fun p=>a.eval p.2).flatMap (·.cells.toList)) [] e
 rw[I8] at hw'
 have:=hK _ _ (.slice (G ⟨w.heap.size,0,none⟩) len len) hw' hle (by
  simp only[Ag]
  have:=Dg (cap:=len) h1 (PX g.M w.heap.size _) (repE.mono hle.M _ _ _ hr) (by omega)
  grind)
 unfold Oper.wp execOp
 simp only[ho]
 simp only[Sem.run_bind]
 rw[show(parts.map fun(x:Nat×x8)=>match x with|(i,x)=>(i,a.eval x))=parts.map fun p=>(p.1,a.eval p.2) from rfl,hrun]
 exact this
theorem N7{t:x6}{parts:Array (Nat×x8)}(ho:o.op=.buildSlice t 0 parts)(hp:parts= #[]){e:x6}{sz by':Nat}{z:Option yz}(hs:BR P t=G (e,sz,by',z)):
  Ah P o [] σ (.v (.list [])) σ:=by
 intro E g a w K Q hw hds hK
 obtain⟨i,hu,hi,rfl,rfl,rfl⟩:=AE hs
 subst hp
 have:=hK g _ (.slice (G ⟨w.heap.size,0,none⟩) 0 0) (hw.alloc (.cells #[] e)) g.le_refl (by
  grind[Ag,B4])
 unfold Oper.wp execOp
 simpa[ho,Instr.buildSlice,run_underlying hu,sizeOf,typeInfo,hi,Instr.fill,newRow,Oper.upon,show Array.range 0= #[] from rfl] using this
end
section
variable {P : x7} {o : yy} {σ : St} {d : D}
theorem Mi(w:x5)(t ty e:x6)(i:TypeInfo)(ht:P.underlying t=G (.slice e))(hi:P.info? e=G i)(a a2:Option Addr)(n c c2:Nat)(hc:n<=c):
  (Builtin.append_ #[t,t] ty #[.slice a n c,.slice a2 0 c2]).run P w=.ok (.slice a n c) w:=by
 have hf:(Builtin.firstCells i.size 0 (.slice a2 0 c2)).run P w=.ok #[] w:=by
  cases a2<;>simp[Builtin.firstCells,loadCells,loadCellsFrom]
 cases a<;>simp[Builtin.append_,run_underlying ht,sizeOf,typeInfo,hi,Builtin.lenOf,hc,hf,storeCells]
theorem eb(w:x5)(t ty e e':x6)(i:TypeInfo)(ht:P.underlying t=G (.slice e))(hi:P.info? e=G i)
  (g sLen sCap:Nat) (cur:Array yz) (hg:w.heap[g]?=G (.cells cur e' (0,0)))
  (a:Addr) (m c:Nat) (news:List yz) (hl:I news=m*i.size) (hnews:∀j u,news[j]?=G u->w.cell? (a.add j)=G u) (h1:∀u∈news,u.oneCell'=J)
  (hroom:sLen+m<=sCap) (hfit:sLen*i.size+I news<=cur.size):
  (Builtin.append_ #[t,t] ty #[.slice (G ⟨g,0,none⟩) sLen sCap,.slice (G a) m c]).run P w=
   .ok (.slice (G ⟨g,0,none⟩) (sLen+m) sCap) (w.setRow g (cur.toList.take (sLen*i.size)++news++cur.toList.drop (sLen*i.size+I news)).toArray):=by
 have hf:=run_firstCells_some (P:=P) w i.size m a m c news hl hnews
 have hst:=run_storeCells_at P g (sLen*i.size) e' news 0 cur w hg (by omega) h1
 simp only[IG] at hst
 simp[Builtin.append_,run_underlying ht,sizeOf,typeInfo,hi,Builtin.lenOf,hroom,hf,Addr.add_lit,hst]
theorem Lq(w:x5)(t ty e e':x6)(i:TypeInfo)(ht:P.underlying t=G (.slice e))(hi:P.info? e=G i)
  (g p sLen sCap:Nat) (cur:Array yz) (hg:w.heap[g]?=G (.cells cur e' (0,0)))
  (a:Addr) (m c:Nat) (news:List yz) (hl:I news=m*i.size) (hnews:∀j u,news[j]?=G u->w.cell? (a.add j)=G u) (h1:∀u∈news,u.oneCell'=J)
  (hroom:sLen+m<=sCap) (hfit:p+sLen*i.size+I news<=cur.size):
  (Builtin.append_ #[t,t] ty #[.slice (G ⟨g,p,none⟩) sLen sCap,.slice (G a) m c]).run P w=
   .ok (.slice (G ⟨g,p,none⟩) (sLen+m) sCap) (w.setRow g (cur.toList.take (p+sLen*i.size)++news++cur.toList.drop (p+sLen*i.size+I news)).toArray):=by
 have hf:=run_firstCells_some (P:=P) w i.size m a m c news hl hnews
 have hst:=run_storeCells_at P g (p+sLen*i.size) e' news 0 cur w hg (by omega) h1
 simp only[IG] at hst
 simp[Builtin.append_,run_underlying ht,sizeOf,typeInfo,hi,Builtin.lenOf,hroom,hf,Addr.add_lit,hst]
theorem Nx{E:cd}{g:Gh}{w:x5}(hw:WI E g σ w){t ty e:x6}{sz by':Nat}{z:yz}(hs:BR P t=G (e,sz,by',G z))(hzc:z.cells.size=sz){k:Nat}{xs ys:List V}(hx:(k,sz,xs)∈σ.own)
  (hsy:∀y∈ys,y.size=sz) (hlen:(I xs+I ys)*by'<=140737488355328) (hlen2:I xs+I ys<=140737488355328) {u v:yz} (hu:g.ι k (I xs)=G u) (hv:repV g.M (.list ys) v):
  ∃u' w' g',(Builtin.append_ #[t,t] ty #[u,v]).run P w=.ok u' w'/\WI E g' ⟨σ.H,σ.own.map (H3 k sz (xs++ys))⟩ w'/\g.le g'/\Ag g' (.acc k (xs++ys)) u':=by
 obtain⟨⟨hsz,hsx⟩,u0,hu0,hr0,hp0,hfr⟩:=hw.rep.own k sz xs hx
 obtain rfl:u=u0:=by grind
 obtain⟨i,ht,hi,hisz,hib,hiz⟩:=AE hs
 have hzs:∀x∈xs++ys,x.size=sz:=fun x hx=>by
  grind
 obtain⟨a2,cap2,rfl,hc2,hv⟩:=Cd hv hsy hsz
 obtain⟨a1,cap1,e1,hc1,hr1⟩:=Cd hr0 hsx hsz
 -- what is left to do once the run and the new header are known
 have fin:∀(u':yz) (w':x5) (M':dy),(Builtin.append_ #[t,t] ty #[u,.slice a2 (I ys) cap2]).run P w=.ok u' w'->g.M.le M'->
   (∀b,b<w.heap.size->Co u≠G b->w'.heap[b]?=w.heap[b]?/\∀o,M' b o=g.M b o)->(∀b o v,M' b o=G v->w'.cell? ⟨b,o,none⟩=G v)->
   w.heap.size<=w'.heap.size->w'.os=w.os->w'.tape=w.tape->w'.output=w.output->repV M' (.list (xs++ys)) u'->Perm M' w' sz u'->(∀b,Co u'=G b->Co u=G b∨w.heap.size<=b)->
   (I xs<I (xs++ys)∨(I (xs++ys)=I xs/\u'=u))->BN w.drawn w'.drawn->
   ∃u' w' g',(Builtin.append_ #[t,t] ty #[u,.slice a2 (I ys) cap2]).run P w=.ok u' w'/\WI E g' ⟨σ.H,σ.own.map (H3 k sz (xs++ys))⟩ w'/\g.le g'/\Ag g' (.acc k (xs++ys)) u':=by
  intro u' w' M' hrun hle keep mem size os tape output hr hp hb hl dr
  obtain⟨h1,h2⟩:=hw.setOwn hx hu hle keep mem size os tape output hzs hr hp hb hl
  grind[Ag]
 cases hys:ys with
 |nil=>
  subst hys
  refine fin u w g.M ?_ (dy.le_refl _) (fun b _ _=>⟨rfl,fun _=>rfl⟩) hw.rep.mem (HP _) rfl rfl rfl (by grind) hp0 (fun b hb=>.inl hb) (.inr ⟨by simp,rfl⟩) (BN.refl _)
  grind[Mi]
 |cons y0 ys0=>
  rw[←hys]
  have hne:ys≠ []:=by grind
  have hpos:0<I ys:=List.length_pos_iff.2 hne
  rcases hv with h|⟨b2,off2,vs,rfl,hi2,hr2⟩
  ·grind
  have hvl:I vs=I ys*i.size:=by grind[BX]
  have hcells2:=EB hw hi2
  have hvone:=Lb hr2
  have grows:∀(us:List yz) (old:Nat),repE g.M sz xs us->old<I xs+I ys->
    (Builtin.append_ #[t,t] ty #[u,.slice (G ⟨b2,off2,none⟩) (I ys) cap2]).run P w=
     .ok (.slice (G ⟨w.heap.size,0,none⟩) (I xs+I ys) (grownCap w (I xs+I ys) old e))
      (w.drew.alloc (.cells (us.toArray++vs.toArray++Builtin.zeroCells z.cells (grownCap w (I xs+I ys) old e- (I xs+I ys))) e))->
    ∃u' w' g',(Builtin.append_ #[t,t] ty #[u,.slice (G ⟨b2,off2,none⟩) (I ys) cap2]).run P w=.ok u' w'/\WI E g' ⟨σ.H,σ.own.map (H3 k sz (xs++ys))⟩ w'/\g.le g'/\Ag g' (.acc k (xs++ys)) u':=by
   intro us old hus hold hrun
   have hge:=grownCap_ge w (I xs+I ys) old e
   have hcell:us.toArray++vs.toArray++Builtin.zeroCells z.cells (grownCap w (I xs+I ys) old e- (I xs+I ys))=((us++vs)++(Builtin.zeroCells z.cells (grownCap w (I xs+I ys) old e- (I xs+I ys))).toList).toArray:=by
    grind
   rw[hcell] at hrun
   have hE:=J4 hus hr2
   obtain⟨hw2,hle2⟩:=hw.drew.newImm (us++vs) (Builtin.zeroCells z.cells (grownCap w (I xs+I ys) old e- (I xs+I ys))).toList e
   refine fin _ _ (Wo g.M w.heap.size (us++vs)) hrun hle2.M (fun b hb _=>⟨heap_alloc_old w.drew _ b hb,OL (Nat.ne_of_lt hb)⟩) hw2.rep.mem (by simp) rfl rfl rfl ?_ ?_ ?_ (.inl (by grind)) (BN.succ _)
   ·have:=Dg (cap:=grownCap w (I xs+I ys) old e) hsz (PX g.M w.heap.size (us++vs)) (repE.mono hle2.M _ _ _ hE) (by grind)
    grind
   ·refine .inr ⟨w.heap.size,0,I xs+I ys,_,_,e,rfl,heap_alloc_new w.drew _,hge,?_,fun o ho=>?_,hw.rep.gw.new (HP _)⟩
    ·simp only[IY,HW,Iw,size_zeroCells,hzc,BX hus,BX hr2, ←IV,I4]
     grind
    grind[Wo,BX]
   grind[Co]
  have h63:((I xs+I ys:Nat):Int)<=9223372036854775807:=by omega
  have hfit:∀old,old<I xs+I ys->Builtin.nextslicecap (I xs+I ys) old*i.bytes<=281474976710656:=fun old ho=>growslice_fits ho (by grind)
  have hdrew:∀j v,vs[j]?=G v->w.cell? ((⟨b2,off2,none⟩:Addr).add j)=G v:=hcells2
  rcases hp0 with⟨a,ea⟩|⟨b,f,len,cap,cur,et,eu,hb,hlc,hcc,hMb⟩
  ·-- no room at all
   have hxn:xs=[]:=by
    grind
   subst hxn
   simp only[HR,I4] at*
   subst ea
   cases a with
   |none=>
    refine grows [] 0 (by rfl) hpos ?_
    have:=run_append_nil (P:=P) w t ty e i z ht hi hiz ⟨b2,off2,none⟩ (I ys) cap2 vs hvl hdrew hpos (by omega) (by grind)
    grind
   |some a=>
    refine grows [] 0 (by rfl) hpos ?_
    have:=run_append_grow (P:=P) w t ty e i z ht hi hiz a 0 0 [] (by simp) (by simp) ⟨b2,off2,none⟩ (I ys) cap2 vs hvl hdrew (by omega) (by omega) (by grind)
    grind
  ·obtain⟨rfl,rfl,rfl⟩:a1=G ⟨b,f,none⟩/\xs.length=len/\cap1=cap:=by
    grind
   obtain⟨us,hus,hui⟩:∃us,repE g.M sz xs us/\fg g.M b f us:=by
    rcases hr1 with rfl|⟨b',off',us,ea,hi1,hr1⟩
    ·exact⟨[],by rfl,fun j v hj=>by grind⟩
    grind
   have hul:=BX hus
   by_cases hroom:I xs+I ys<=cap1
   ·-- in place
    have hcur:f+I xs*i.size+I vs<=cur.size:=by
     rw[hvl,hisz,Nat.add_assoc, ←IV]
     exact IE (Nat.add_le_add_left (Nat.mul_le_mul_right _ hroom) f) hcc
    have hrun:=Lq (P:=P) w t ty e et i ht hi b f (I xs) cap1 cur hb ⟨b2,off2,none⟩ (I ys) cap2 vs hvl hdrew hvone hroom hcur
    rw[←eu] at hrun
    have hcap0:cap1≠0:=by omega
    have hob:Co u=G b:=by grind[Co]
    -- the new cells
    let M':dy:=fun b' o=>if b'=b/\f+I xs*sz<=o then vs[o- (f+I xs*sz)]? else g.M b' o
    have hM':g.M.le M':=fun b' o v hm=>by
     simp only[M']
     rw[HZ]; ·exact hm
     rintro ⟨rfl,ho⟩
     rw[hMb o ho] at hm;grind
    have hin:fg M' b f (us++vs):=fun j v hj=>by
     simp only[M']
     by_cases hj1:f+I xs*sz<=f+j
     ·rw[Ie ⟨trivial,hj1⟩,show f+j- (f+I xs*sz)=j-I xs*sz by omega]
      grind[List.getElem?_append_right]
     ·rw[HZ (fun h=>hj1 h.2)]
      rw[Ig (by omega)] at hj
      have:=hui j v hj;omega
    refine fin _ _ M' hrun hM' (fun b' _ hne=>?_) (fun b' o v hm=>?_) (by simp) rfl rfl rfl ?_ ?_ (fun b' hb'=>?_) (.inl (by grind)) (BN.refl _)
    ·have hbb:b'≠b:=fun h=>hne (by grind)
     grind[World.setRow]
    ·simp only[M'] at hm
     by_cases hb':b'=b
     ·subst hb'
      rw[cell_setRow_same w b' o cur _ et _ hb]
      have hl1:I (cur.toList.take (f+I xs*i.size))=f+I xs*sz:=by
       simp only[Ip,Iw,hisz]
       have:=IE (Nat.add_le_add_left (Nat.mul_le_mul_right sz hlc) f) hcc
       omega
      by_cases ho:f+I xs*sz<=o
      ·grind
      ·rw[HZ (fun h=>ho h.2)] at hm
       have hold:=hw.rep.mem b' o v hm
       grind[World.cell?]
     ·rw[HZ (fun h=>hb' h.1)] at hm
      rw[cell_setRow_other w b _ _ hb']
      exact hw.rep.mem b' o v hm
    ·grind[Dg,repE.mono,J4]
    ·refine .inr ⟨b,f,I xs+I ys,cap1,_,et,rfl,setRow_heap w b cur _ et _ hb,hroom,?_,fun o ho=>?_,hw.rep.own_ng hx hu hob⟩
     ·simp only[IY,HW,Ip,IP,Iw]
      omega
     ·simp only[M']
      rw[Ie ⟨trivial,by grind⟩]
      refine List.getElem?_eq_none ?_
      rw[hvl,hisz];rw[IV] at ho;omega
    grind[Co]
   ·have:=run_append_grow (P:=P) w t ty e i z ht hi hiz ⟨b,f,none⟩ (I xs) cap1 us (by grind) (EB hw hui) ⟨b2,off2,none⟩ (I ys) cap2 vs hvl hdrew (by omega) h63 (hfit cap1 (by omega))
    refine grows us cap1 hus (by omega) ?_
    grind
theorem QU{x y:x8}{t:x6}(ho:o.op=.call { callee:=.builtin .append,args:= #[x,y],argTypes:= #[t,t]}){e:x6}{sz by':Nat}{z:yz}(hs:BR P t=G (e,sz,by',G z))(hzc:z.cells.size=sz)
  {k:Nat} {xs ys:List V} (hx:(k,sz,xs)∈σ.own) (hsy:∀y∈ys,y.size=sz) (hlen:(I xs+I ys)*by'<=140737488355328) (hlen2:I xs+I ys<=140737488355328):
  Ah P o [.acc k xs,.v (.list ys)] σ (.acc k (xs++ys)) ⟨σ.H,σ.own.map (H3 k sz (xs++ys))⟩:=by
 intro E g a w K Q hw hds hK
 simp only[ho,Op.operands,Call.operands] at hds
 obtain⟨u,v,eq,h1,h2⟩:=Au.1 (by simpa using hds)
 simp only[HV,Ix] at eq
 simp only[Ag] at h1 h2
 obtain⟨u',w',g',hrun,hw',hle,hr⟩:=Nx (P:=P) (ty:=o.type) hw hs hzc hx hsy hlen hlen2 h1.2 h2
 have:=hK g' w' u' hw' hle hr
 unfold Oper.wp execOp
 simp only[ho,resolve,invoke,builtin,Sem.run_bind,Sem.run_pure,Result.andThen_ok,List.map_toArray,Ik,IF,eq.1,eq.2,hrun]
 exact this
end
section
variable {P : x7} {o : yy} {σ : St} {d : D}
theorem ZQ{M:dy}{xs:List V}{a:Option Addr}{len cap sz:Nat}(hr:repV M (.list xs) (.slice a len cap))(hs:∀x∈xs,x.size=sz)(hsz:0<sz){l h:Nat}(hl:l<=h)(hh:h<=I xs):
  len=I xs/\xs.length<=cap/\repV M (.list ((xs.take h).drop l)) (.slice (if cap=l then a else a.map (·.add (l*sz))) (h-l) (cap-l)):=by
 obtain⟨a',cap',e,hc,hr2⟩:=Cd hr hs hsz
 simp only[Value.slice.injEq] at e
 obtain⟨rfl,rfl,rfl⟩:=e
 refine⟨rfl,hc,?_⟩
 have hlen:I ((xs.take h).drop l)=h-l:=by grind
 rw[B4]
 refine⟨_,cap-l,by rw[hlen],by omega,?_⟩
 rcases Nat.lt_or_ge l h with hlt|hge
 ·rcases hr2 with rfl|⟨b,off,us,rfl,hi,hr3⟩
  ·grind
  refine .inr ⟨b,off+l*sz,sz,(us.take (h*sz)).drop (l*sz),?_,hsz,V5 (V4 hi _) _,QE (QD hr3 h) l⟩
  grind[Addr.add_lit]
 grind
def C9(n:Nat)(l h:Option Int):Option (Nat×Nat):=
 let h':=h.getD n
 let l':=l.getD 0
 if 0<=l'/\l'<=h'/\h'<=n then G (l'.toNat,h'.toNat) else none
theorem E5(w:x5)(isS:Bool)(len cap:Nat)(hc:len<=cap)(l h:Option (yv×Int)){l' h':Nat}(hb:C9 len (l.map (·.2)) (h.map (·.2))=G (l',h')):
  (Instr.sliceBounds isS len cap (l.map fun p=>.int p.1 p.2) (h.map fun p=>.int p.1 p.2) none).run P w=.ok (l',h',cap) w:=by
 unfold C9 at hb
 simp only at hb
 split at hb
 ·rename_i hcond
  simp only[Ir,Prod.mk.injEq] at hb
  obtain⟨rfl,rfl⟩:=hb
  cases l with
  |none=>
   cases h with
   |none=>rfl
   |some p=>
    simp only[Jw,IJ,Option.getD_none,Jq] at hcond⊢
    simp[Instr.sliceBounds,run_sliceBound w p.1 p.2 cap _ (by omega) (by omega)]
  |some q=>
   cases h with
   |none=>
    simp only[Jw,IJ,Option.getD_none,Jq] at hcond⊢
    simp[Instr.sliceBounds,run_sliceBound w q.1 q.2 len _ (by omega) (by omega)]
   |some p=>
    simp only[IJ,Jq] at hcond⊢
    simp[Instr.sliceBounds,run_sliceBound w p.1 p.2 cap _ (by omega) (by omega),run_sliceBound w q.1 q.2 p.2.toNat _ (by omega) (by omega)]
 grind
def EM:Option (yv×Int)->List D
 |none=>[]
 |some p=>[.v (.int p.1 p.2)]
theorem AaK{t:x6}{x:x8}{lo hi:Option x8}(ho:o.op=.slice t x lo hi none){e:x6}{sz by':Nat}{z:Option yz}(hs:BR P t=G (e,sz,by',z)){xs:List V}(hsx:∀x∈xs,x.size=sz)(hsz:0<sz)
  (l h:Option (yv×Int)) (hlo:lo.isSome=l.isSome) (hhi:hi.isSome=h.isSome) {l' h':Nat} (hb:C9 (I xs) (l.map (·.2)) (h.map (·.2))=G (l',h')):
  Ah P o (.v (.list xs)::(EM l++EM h)) σ (.v (.list ((xs.take h').drop l'))) σ:=by
 refine A5 fun E g ρ w hw hds=>?_
 obtain⟨i,hu,hi',rfl,rfl,rfl⟩:=AE hs
 have hb2:=hb
 unfold C9 at hb2
 simp only at hb2
 split at hb2
 case isFalse=>grind
 rename_i hcond
 simp only[Ir,Prod.mk.injEq] at hb2
 have main:∀u (lv hv:Option yz),ρ x=u->lv=l.map (fun p=>Value.int p.1 p.2)->hv=h.map (fun p=>Value.int p.1 p.2)->lo.map ρ=lv->hi.map ρ=hv->repV g.M (.list xs) u->
   ∃u,(execOp ρ o).run P w=.ok (.value u) w/\Ag g (.v (.list ((xs.take h').drop l'))) u:=by
  intro u lv hv eu el eh e1 e2 hr
  obtain⟨a,cap,rfl,hc,_⟩:=B4.1 hr
  obtain⟨_,_,hres⟩:=ZQ hr hsx hsz (l:=l') (h:=h') (by omega) (by omega)
  refine⟨_,?_,by simp only[Ag];exact hres⟩
  have hbr:=E5 (P:=P) w true (I xs) cap hc l h hb
  simp only[execOp,ho,eu,e1,e2,el,eh,Jw,Instr.sliceAt,Instr.slice,Sem.run_bind,run_underlying hu,Result.andThen_ok,hbr]
  simp[sizeOf,typeInfo,hi']
 simp only[ho,Op.operands] at hds
 cases lo with
 |none=>
  cases l with
  |some _=>grind
  |none=>
   cases hi with
   |none=>
    cases h<;>grind[AB,EM,Ag]
   |some ho'=>
    cases h<;>grind[Au,EM,Ag,AC]
 |some lo'=>
  cases l with
  |none=>grind
  |some q=>
   cases hi with
   |none=>
    cases h<;>grind[Au,EM,Ag,AC]
   |some ho'=>
    cases h with
    |none=>grind
    |some p=>
     obtain⟨u,v,v2,eu,h1,h2,h3⟩:=ET.1 (by simpa[EM] using hds)
     grind[Ag,AC]
theorem AaJ{t:x6}{x:x8}{lo hi:Option x8}(ho:o.op=.slice t x lo hi none)(hu:P.underlying t=G .string){s:List UInt8}
  (l h:Option (yv×Int)) (hlo:lo.isSome=l.isSome) (hhi:hi.isSome=h.isSome) {l' h':Nat} (hb:C9 (I s) (l.map (·.2)) (h.map (·.2))=G (l',h')):
  Ah P o (.v (.str s)::(EM l++EM h)) σ (.v (.str ((s.take h').drop l'))) σ:=by
 refine A5 fun E g ρ w hw hds=>?_
 have main:∀u (lv hv:Option yz),ρ x=u->lv=l.map (fun p=>Value.int p.1 p.2)->hv=h.map (fun p=>Value.int p.1 p.2)->lo.map ρ=lv->hi.map ρ=hv->u=.string ⟨s.toArray⟩->
   ∃u,(execOp ρ o).run P w=.ok (.value u) w/\Ag g (.v (.str ((s.take h').drop l'))) u:=by
  intro u lv hv eu el eh e1 e2 hr
  subst hr
  refine⟨.string ⟨((s.take h').drop l').toArray⟩,?_,by grind[Ag,Dr]⟩
  have hbr:=E5 (P:=P) w false (I s) (I s) (HP _) l h hb
  have hx:(⟨s.toArray⟩:ByteArray).extract l' h'=⟨((s.take h').drop l').toArray⟩:=by
   apply ByteArray.ext
   grind[Lib.extract_data,List.drop_take]
  simp only[execOp,ho,eu,e1,e2,el,eh,Jw,Instr.sliceAt,Instr.slice,Sem.run_bind,run_underlying hu,Result.andThen_ok,Option.isSome_none,Jy,if_false,SG]
  simp_all
 simp only[ho,Op.operands] at hds
 cases lo with
 |none=>
  cases l with
  |some _=>grind
  |none=>
   cases hi with
   |none=>
    cases h<;>grind[AB,EM,Ag,Dr]
   |some ho'=>
    cases h<;>grind[Au,EM,Ag,AC,Dr]
 |some lo'=>
  cases l with
  |none=>grind
  |some q=>
   cases hi with
   |none=>
    cases h<;>grind[Au,EM,Ag,AC,Dr]
   |some ho'=>
    cases h with
    |none=>grind
    |some p=>
     obtain⟨u,v,v2,eu,h1,h2,h3⟩:=ET.1 (by simpa[EM] using hds)
     grind[Ag,AC,Dr]
theorem JR(z:yz)(n:Nat):madeCells #[z] n=(replicate n z).toArray:=by
 grind[madeCells]
theorem AiK{t:x6}{x y:x8}(ho:o.op=.makeSlice t x y){e:x6}{by':Nat}{z:yz}(hs:BR P t=G (e,1,by',G z)){zv:V}(hz:RG z=G zv){k k':yv}{n:Int}(h0:0<=n)(hn:(by':Int)*n<=281474976710656)(hn2:n<=9223372036854775807):
  Ah P o [.v (.int k n),.v (.int k' n)] σ (.arr (I σ.H) 0 n.toNat) ⟨σ.H++[G (replicate n.toNat (.v zv))],σ.own⟩:=by
 intro E g a w K Q hw hds hK
 simp only[ho,Op.operands,Au] at hds
 obtain⟨u,v,eq,h1,h2⟩:=hds
 simp only[Ik,IF,HV,Ix] at eq
 obtain⟨e1,e2⟩:=eq
 simp only[Ag,AC] at h1 h2
 subst h1 h2
 obtain⟨i,hu,hi,hsz,hby,hzz⟩:=AE hs
 obtain⟨hza,hzc⟩:=KS (M:=g.M) hz
 have hz1:z.cells= #[z]:=by
  grind[CZ,Nq]
 have hrun:=run_make (P:=P) w t e i z hu hi hzz k k' n n h0 (Il _) (by grind) hn2
 rw[hsz,Nat.mul_one,hz1,JR] at hrun
 have hr:∀m,Af g (replicate m (.v zv)) (replicate m z):=by
  intro m
  induction m<;>grind[Af,Ag,BI]
 obtain⟨g',hw',hle,hβ,hn'⟩:=hw.newObj e (hr n.toNat) (fun c hc=>by grind[D.one])
 have:=hK g' _ (.slice (G ⟨w.heap.size,0,none⟩) n.toNat n.toNat) hw' hle (by grind[Ag])
 unfold Oper.wp execOp
 simp only[ho,e1,e2,Sem.run_bind,hrun,Result.andThen_ok]
 exact this
theorem Afe{t:x6}{x y:x8}(ho:o.op=.makeSlice t x y){e:x6}{sz by':Nat}{z:yz}(hs:BR P t=G (e,sz,by',G z))(h1:0<sz)(k:Nat)(hk:∀x∈σ.own,x.1≠k){k1 k2:yv}{n:Int}(h0:0<=n)(hn:(by':Int)*n<=281474976710656)(hn2:n<=9223372036854775807):
  Ah P o [.v (.int k1 0),.v (.int k2 n)] σ (.acc k []) ⟨σ.H,(k,sz,[])::σ.own⟩:=by
 intro E g a w K Q hw hds hK
 simp only[ho,Op.operands,Au] at hds
 obtain⟨u,v,eq,h1',h2⟩:=hds
 simp only[Ik,IF,HV,Ix] at eq
 obtain⟨e1,e2⟩:=eq
 simp only[Ag,AC] at h1' h2
 subst h1' h2
 obtain⟨i,hu,hi,hsz,hby,hzz⟩:=AE hs
 have hrun:=run_make (P:=P) w t e i z hu hi hzz k1 k2 0 n (Il _) h0 (by grind) hn2
 have hrep:repV g.M (.list []) (.slice (G ⟨w.heap.size,0,none⟩) 0 n.toNat):=by grind[B4]
 obtain⟨hw',hle⟩:=(hw.alloc (.cells (madeCells z.cells (n.toNat*i.size)) e)).addOwn (k:=k) (sz:=sz) (xs:=[]) (u:=.slice (G ⟨w.heap.size,0,none⟩) 0 n.toNat) hk ⟨h1,by simp⟩
  hrep (.inr ⟨w.heap.size,0,0,n.toNat,_,e,rfl,heap_alloc_new w _,Iu _,by grind[size_madeCells],fun o _=>hw.rep.new_none (HP _) o,hw.rep.gw.new (HP _)⟩) (fun b hb=>by
   simp only[Co] at hb
   split at hb
   ·grind
   ·simp at hb;subst hb
    exact⟨hw.size,fun i cs hi=>Nat.ne_of_lt (hw.rep.obj_lt hi),fun x hx u' hu' hb'=>by have:=hw.rep.own_lt hx hu' hb';omega⟩)
 have:=hK _ _ _ hw' hle (by simp only[Ag];exact⟨hrep,by simp⟩)
 unfold Oper.wp execOp
 simp only[ho,e1,e2,Sem.run_bind,hrun,Result.andThen_ok]
 exact this
end
def D.plain:D->Bool
 |.v _=>true
 |_=>false
theorem Pn{g:Gh}:∀{ds:List D} {xs:List V} {us:List yz},Fv ds=G xs->Af g ds us->GH g.M xs us
 |[],xs,us,h,hr=>by simp[Fv] at h;subst h;simpa[Af,GH] using hr
 |d::ds,xs,us,h,hr=>by
  simp only[Fv] at h
  split at h
  ·rename_i x xs' hx hxs
   simp at h;subst h
   simp only[Af] at hr
   obtain⟨u,us',rfl,h2,h3⟩:=hr
   simp only[GH]
   obtain⟨ws,h4,h5⟩:=K5 hx h2
   exact⟨u,us',ws,rfl,h4,h5,Pn hxs h3⟩
  ·simp at h
theorem H6{g:Gh}:∀{xs:List V} {us:List yz},GH g.M xs us->Af g (xs.map .v) us
 |[],us,h=>by simpa[Af,GH] using h
 |x::xs,us,h=>by
  simp only[GH] at h
  obtain⟨u,us',ws,rfl,h1,h2,h3⟩:=h
  simp only[Ik,Af,Ag]
  exact⟨u,us',rfl,⟨ws,h1,h2⟩,H6 h3⟩
section
variable {P : x7} {o : yy} {σ : St} {d : D}
theorem SY{f:yx}{first captured:Array x8}(ho:o.op=.makeFunc (.func f) first captured){fs cs:List D}{xs ys:List V}(hl:I fs=first.size)(hf:Fv fs=G xs)(hc:Fv cs=G ys):
  Ah P o (fs++cs) σ (.v (.fn f xs ys)) σ:=by
 refine A5 fun E g ρ w hw hds=>?_
 simp only[ho,Op.operands,Array.toList_append,IZ] at hds
 have h1:=Ce hds (I fs)
 have h2:=Cq hds (I fs)
 have hl':I (first.toList.map ρ)=I fs:=by grind
 rw[List.take_left,List.take_left' hl'] at h1
 rw[List.drop_left,List.drop_left' hl'] at h2
 refine⟨.func (.func f) (first.map ρ) (captured.map ρ),?_,?_⟩
 ·simp[execOp,ho,Instr.makeFunc]
 grind[Ag,H4,Array.toList_map,Pn]
end
theorem WI.setObjG{E:cd}{g:Gh}{σ:St}{w w':x5}(hw:WI E g σ w){M':dy}(hle:g.M.le M'){q:Nat}{cs:List D}{oc:Option (List D)}(hq:σ.H[q]?=G (G cs))
  (hb:∀cs',oc=G cs'->∃us rest e,w'.heap[g.β q]?=G (.cells (us++rest).toArray e (0,0))/\Af { g with M:=M' } cs' us/\(∀c∈cs',c.one=J)/\(∀o,M' (g.β q) o=none)/\(us++rest).length=g.κ q)
  (keep:∀b,b<w.heap.size->b≠g.β q->w'.heap[b]?=w.heap[b]?/\∀o,M' b o=g.M b o) (mem:∀b o v,M' b o=G v->w'.cell? ⟨b,o,none⟩=G v)
  (size:w.heap.size<=w'.heap.size) (os:w'.os=w.os) (tape:w'.tape=w.tape) (output:w'.output=w.output) (drawn:BN w.drawn w'.drawn:=by first|exact BN.refl _|exact BN.succ _|assumption):
  WI E { g with M:=M' } ⟨σ.H.set q oc,σ.own⟩ w':=by
 have hlg:g.le { g with M:=M' }:=⟨hle,HP _,fun _ _=>rfl,fun _ _ _ h=>h,fun _ _=>rfl⟩
 have split:∀(i:Nat) (cs1:List D),(σ.H.set q oc)[i]?=G (G cs1)->(i=q/\oc=G cs1)∨(i≠q/\σ.H[i]?=G (G cs1)):=by
  grind
 have live:∀(i:Nat) (cs1:List D),(σ.H.set q oc)[i]?=G (G cs1)->∃cs2,σ.H[i]?=G (G cs2):=by
  grind
 refine hw.update (fun b=>b=g.β q) (fun b e=>by subst e;exact hw.objs q cs hq) (fun b hb hne=>keep b hb hne) hle (HP _) (fun _ _=>rfl) (fun _ _=>rfl) size os tape output ?_ ?_ hw.owns
 ·refine⟨by simp[hw.rep.n],mem,fun i cs1 hi=>?_,fun i j c1 c2 hi hj hij=>?_,fun k sz xs hx=>?_,hw.rep.tags,hw.rep.sep,fun x hx u hu b hb' i cs1 hi=>?_,hw.rep.fresh,hw.rep.gl.mono hle,hw.rep.gw.keepG fun p hp hlt=>(keep p.1 hlt (hw.rep.obj_ng hq p hp)).1⟩
  ·rcases split i cs1 hi with⟨rfl,e⟩|⟨hne,h⟩
   ·grind
   ·obtain⟨us',rest',e',h2,h3,h4,h5,h6⟩:=hw.rep.obj i cs1 h
    obtain⟨k1,k2⟩:=keep _ (MD h2) (fun e=>hne (hw.rep.inj i q _ _ h hq e))
    grind[Af.mono]
  ·obtain⟨c3,h3⟩:=live i c1 hi
   obtain⟨c4,h4⟩:=live j c2 hj
   exact hw.rep.inj i j _ _ h3 h4 hij
  ·obtain⟨h0,u,hu,h3,h4,h5⟩:=hw.rep.own k sz xs hx
   refine⟨h0,u,hu,h3.mono hle,h4.kept fun b hb'=>keep b (hw.rep.own_lt hx hu hb') ?_,h5⟩
   exact fun e=>hw.rep.ownObj _ hx u hu b hb' q cs hq e.symm
  ·obtain⟨c3,h3⟩:=live i cs1 hi
   exact hw.rep.ownObj x hx u hu b hb' i c3 h3
 ·intro i cs1 hi
  obtain⟨c3,h3⟩:=live i cs1 hi
  exact hw.objs i c3 h3
mutual
def D.pl:D->Bool
 |.v _=>true
 |.raw _=>true
 |.rv .. =>true
 |.tup ds=>D.pls ds
 |.err=>true
 |.undef=>true
 |_=>false
def D.pls:List D->Bool
 |[]=>true
 |d::ds=>d.pl&&D.pls ds
end
mutual
theorem Mn{g g':Gh}(hM:g'.M=g.M):∀{d:D} {u:yz},d.pl=J->Ag g d u->Ag g' d u
 |.v x,u,_,h=>by simp only[Ag] at h⊢;rw[hM];exact h
 |.tup ds,u,hp,h=>by
  simp only[Ag] at h⊢
  obtain⟨us,e,h1⟩:=h
  exact⟨us,e,BJ hM (by simpa[D.pl] using hp) h1⟩
 |.undef,u,_,_=>by simp only[Ag]
 |.raw x,u,_,h=>by simpa only[Ag] using h
 |.err,u,_,h=>by simpa only[Ag] using h
 |.rv x u0,u,_,h=>by simp only[Ag] at h⊢;rw[hM];exact h
 |.acc ..,_,hp,_=>by simp[D.pl] at hp
 |.ptr ..,_,hp,_=>by simp[D.pl] at hp
 |.arr ..,_,hp,_=>by simp[D.pl] at hp
 |.dagg ..,_,hp,_=>by simp[D.pl] at hp
 |.dfn ..,_,hp,_=>by simp[D.pl] at hp
theorem BJ{g g':Gh}(hM:g'.M=g.M):∀{ds:List D} {us:List yz},D.pls ds=J->Af g ds us->Af g' ds us
 |[],us,_,h=>by simpa[Af] using h
 |d::ds,us,hp,h=>by
  simp only[D.pls,HJ] at hp
  simp only[Af] at h⊢
  obtain⟨u,us',e,h1,h2⟩:=h
  exact⟨u,us',e,Mn hM hp.1 h1,BJ hM hp.2 h2⟩
end
theorem Ca(xs:List V):D.pls (xs.map .v)=J:=by induction xs<;>simp_all [D.pls,D.pl]
theorem Ds:∀(a b:List D),D.pls (a++b)=(D.pls a&&D.pls b)
 |[],b=>by simp[D.pls]
 |d::a,b=>by simp[D.pls,Ds a b,Bool.and_assoc]
section
variable {P : x7} {o : yy} {σ : St} {d : D}
theorem Gz{_E:cd}{_g:Gh}{a:Act}{w:x5}{K:Act->x5->Prop}{Q:Exit->Act->x5->Prop}{c:Call}{fo:x8}(ho:o.op=.call c)(hc:c.callee=.value fo){f:yx}(hcall:Wt P f){us vs ws:List yz}
  (hf:a.eval fo=.func (.func f) us.toArray vs.toArray) (hargs:c.args.toList.map a.eval=ws)
  (h:Calls P f (us++ws++vs).toArray w fun e w'=>∃u,e=.returned u/\K (a.put o.dst u) w'):o.wp P a w K Q:=by
 obtain⟨fn,h1,h2,h3⟩:=hcall
 have hargs':c.args.map a.eval=ws.toArray:=by grind
 unfold Oper.wp execOp
 simp only[ho,resolve,hc,hf,hargs',Deferred.ofValue,Sem.run_bind,Sem.run_pure,Result.andThen_ok,invoke,callFunc,run_program,h1,h2,h3,Jy,if_false]
 grind[Calls.mono,Oper.upon]
theorem DQ{g:Gh}{a:Act}{c:Call}{fo:x8}(ho:o.op=.call c)(hc:c.callee=.value fo){f:yx}{fs cs:List V}{ds:List D}(h:Af g (.v (.fn f fs cs)::ds) (o.op.operands.toList.map a.eval)):
  ∃us vs ws,a.eval fo=.func (.func f) us.toArray vs.toArray/\c.args.toList.map a.eval=ws/\Af g (fs.map .v) us/\Af g (cs.map .v) vs/\Af g ds ws:=by
 grind[Op.operands,Call.operands,Af,Ag,H4,H6]
theorem dm.empty{g:Gh}{w:x5}(h:dm g σ w):dm { M:=g.M,β:=g.β,n:=0,ι:=fun _ _=>none,κ:=g.κ } ⟨[],[]⟩ w where
 n:=rfl
 mem:=h.mem
 gl:=h.gl
 gw:=h.gw
 obj:=fun i cs hi=>by grind
 inj:=fun i j cs ds hi=>by grind
 own:=fun k sz xs hx=>by grind
 tags:=by simp
 sep:=fun x hx=>by grind
 ownObj:=fun x hx=>by grind
 fresh:=fun _ _ _=>rfl
theorem GV{g:Gh}{w:x5}{b:Nat}:¬cd.priv ⟨g,w,⟨[],[]⟩⟩ b:=by
 grind[cd.priv]
theorem WI.back0{E:cd}{g gc gc':Gh}{w w':x5}{σc':St}(hw:WI E g σ w)(hM:gc.M=g.M)(h:WI ⟨gc,w,⟨[],[]⟩⟩ gc' σc' w'):WI E { g with M:=gc'.M } σ w'/\g.le { g with M:=gc'.M }:=by
 have hle:g.M.le gc'.M:=by rw[←hM];exact h.M
 refine⟨hw.grow hle (fun b hb=>?_) h.rep.mem h.size h.os h.tape h.output (drawn:=h.drawn),⟨hle,HP _,fun _ _=>rfl,fun _ _ _ h=>h,fun _ _=>rfl⟩⟩
 obtain⟨h1,h2⟩:=h.keep b hb GV
 grind
theorem Py{c:Call}{fo:x8}(ho:o.op=.call c)(hc:c.callee=.value fo){f:yx}{fs cs:List V}{ds:List D}(hp:D.pls ds=J)(hd:d.pl=J)
  (hspec:Aa P f (fs.map .v++ds++cs.map .v) ⟨[],[]⟩ d ⟨[],[]⟩):Ah P o (.v (.fn f fs cs)::ds) σ d σ:=by
 intro E g a w K Q hw hds hK
 obtain⟨us,vs,ws,hf,hargs,h1,h2,h3⟩:=DQ ho hc hds
 refine Gz (_E:=E) (_g:=g) ho hc hspec.1 hf hargs ?_
 have hargs':Af { M:=g.M,β:=g.β,n:=0,ι:=fun _ _=>none,κ:=g.κ } (fs.map .v++ds++cs.map .v) (us++ws++vs):=
  BJ (by rfl) (by grind[Ds,Ca]) (Aw (Aw h1 h3) h2)
 refine Calls.mono (hspec.2 _ w _ hw.rep.empty hargs') ?_
 rintro e w' ⟨u,g',rfl,hw',hr⟩
 obtain⟨h4,h5⟩:=hw.back0 (by rfl) hw'
 exact⟨u,rfl,hK _ _ _ h4 h5 (Mn (by rfl) hd hr)⟩
theorem Lf{c:Call}{fo:x8}(ho:o.op=.call c)(hc:c.callee=.value fo){f:yx}{fs cs:List V}{ds:List D}(hp:D.pls ds=J){k' sz:Nat}{xs:List V}(k:Nat)(hk:∀x∈σ.own,x.1≠k)
  (hspec:Aa P f (fs.map .v++ds++cs.map .v) ⟨[],[]⟩ (.acc k' xs) ⟨[],[(k',sz,xs)]⟩):Ah P o (.v (.fn f fs cs)::ds) σ (.acc k xs) ⟨σ.H,(k,sz,xs)::σ.own⟩:=by
 intro E g a w K Q hw hds hK
 obtain⟨us,vs,ws,hf,hargs,h1,h2,h3⟩:=DQ ho hc hds
 refine Gz (_E:=E) (_g:=g) ho hc hspec.1 hf hargs ?_
 have hargs':Af { M:=g.M,β:=g.β,n:=0,ι:=fun _ _=>none,κ:=g.κ } (fs.map .v++ds++cs.map .v) (us++ws++vs):=
  BJ (by rfl) (by grind[Ds,Ca]) (Aw (Aw h1 h3) h2)
 refine Calls.mono (hspec.2 _ w _ hw.rep.empty hargs') ?_
 rintro e w' ⟨u,g',rfl,hw',hr⟩
 obtain⟨h4,h5⟩:=hw.back0 (by rfl) hw'
 simp only[Ag] at hr
 obtain⟨hsz,u',hu',hr',hp',_⟩:=hw'.rep.own k' sz xs (by simp)
 obtain rfl:u=u':=by grind
 obtain⟨h6,h7⟩:=h4.addOwn (k:=k) (sz:=sz) (xs:=xs) (u:=u) hk hsz hr' hp' (fun b hb=>by
  rcases hw'.owns (k',sz,xs) (by simp) u hr.2 b hb with h|h
  ·refine⟨IE hw.size h,fun i cs hi=>?_,fun x hx v hv hvb=>?_⟩
   ·have:=hw.rep.obj_lt hi;grind
   ·have:=hw.rep.own_lt hx hv hvb;grind
  grind[GV])
 exact⟨u,rfl,hK _ _ _ h6 (Gh.le_trans h5 h7) (by grind[Ag])⟩
inductive Eh (q:Nat):List D->List D->Prop
 |nil:Eh q [] []
 |pl {d:D} {ds dc:List D} (hp:d.pl=J) (h:Eh q ds dc):Eh q (d::ds) (d::dc)
 |ptr {off:Nat} {ds dc:List D} (h:Eh q ds dc):Eh q (.ptr q off::ds) (.ptr 0 off::dc)
 |arr {off len:Nat} {ds dc:List D} (h:Eh q ds dc):Eh q (.arr q off len::ds) (.arr 0 off len::dc)
theorem Eh.rep{q:Nat}{g gc:Gh}(hM:gc.M=g.M)(hβ:gc.β 0=g.β q)(hn:0<gc.n):∀{ds dc:List D},Eh q ds dc->∀{us:List yz},Af g ds us->Af gc dc us
 |_,_,.nil,us,h=>by simpa[Af] using h
 |_,_,.pl hp h',us,h=>by
  simp only[Af] at h⊢
  obtain⟨u,us',e,h1,h2⟩:=h
  exact⟨u,us',e,Mn hM hp h1,Eh.rep hM hβ hn h' h2⟩
 |_,_,.ptr h',us,h=>by
  simp only[Af] at h⊢
  obtain⟨u,us',e,h1,h2⟩:=h
  refine⟨u,us',e,?_,Eh.rep hM hβ hn h' h2⟩
  simp only[Ag] at h1⊢
  exact⟨hn,by rw[hβ];exact h1.2⟩
 |_,_,.arr h',us,h=>by
  simp only[Af] at h⊢
  obtain⟨u,us',e,h1,h2⟩:=h
  refine⟨u,us',e,?_,Eh.rep hM hβ hn h' h2⟩
  simp only[Ag] at h1⊢
  exact⟨hn,by rw[hβ];exact h1.2⟩
theorem dm.one{g:Gh}{w:x5}(h:dm g σ w){q:Nat}{cs:List D}(hq:σ.H[q]?=G (G cs))(hp:D.pls cs=J):dm { M:=g.M,β:=fun _=>g.β q,n:=1,ι:=fun _ _=>none,κ:=fun _=>g.κ q } ⟨[G cs],[]⟩ w where
 n:=rfl
 mem:=h.mem
 gl:=h.gl
 gw:=h.gw
 obj:=fun i cs' hi=>by
  cases i with
  |zero=>
   simp at hi;subst hi
   obtain⟨us,rest,e,hb,hr,h1,hM,hκ⟩:=h.obj q cs hq
   grind[BJ]
  |succ i=>grind
 inj:=fun i j cs1 cs2 hi hj _=>by
  grind
 own:=fun k sz xs hx=>by grind
 tags:=by simp
 sep:=fun x hx=>by grind
 ownObj:=fun x hx=>by grind
 fresh:=fun _ _ _=>rfl
theorem UW{M:dy}{b0:Nat}{w:x5}{b:Nat}{ι:Nat->Nat->Option yz}{κ:Nat->Nat}{cs:List D}(h:cd.priv ⟨{ M,β:=fun _=>b0,n:=1,ι,κ },w,⟨[G cs],[]⟩⟩ b):b=b0:=by
 rcases h with⟨i,cs',hi,e⟩|⟨x,hx,_⟩
 all_goals grind
theorem WI.back1{E:cd}{g g':Gh}{w w':x5}{q:Nat}{cs cs':List D}{own':List (Nat×Nat×List V)}(hw:WI E g σ w)(hq:σ.H[q]?=G (G cs))(hp':D.pls cs'=J)
  (h:WI ⟨{ M:=g.M,β:=fun _=>g.β q,n:=1,ι:=fun _ _=>none,κ:=fun _=>g.κ q },w,⟨[G cs],[]⟩⟩ g' ⟨[G cs'],own'⟩ w'):WI E { g with M:=g'.M } ⟨σ.H.set q (G cs'),σ.own⟩ w'/\g.le { g with M:=g'.M }:=by
 refine⟨hw.setObjG h.M hq (fun c hc=>?_) (fun b hb hne=>?_) h.rep.mem h.size h.os h.tape h.output (drawn:=h.drawn),⟨h.M,HP _,fun _ _=>rfl,fun _ _ _ h=>h,fun _ _=>rfl⟩⟩
 ·simp at hc;subst hc
  obtain⟨us,rest,e,hb,hr,h1,hM,hκ⟩:=h.rep.obj 0 cs' (by simp)
  have hβ:g'.β 0=g.β q:=h.βE 0 (by simp)
  have hκ':g'.κ 0=g.κ q:=h.κE 0 (by simp)
  grind[BJ]
 ·exact h.keep b hb (fun hpr=>hne (UW hpr))
theorem JM{c:Call}{fo:x8}(ho:o.op=.call c)(hc:c.callee=.value fo){f:yx}{fs cs:List V}{ds dc:List D}{q:Nat}{os os':List D}(hq:σ.H[q]?=G (G os))(hos:D.pls os=J)(hos':D.pls os'=J)(ha:Eh q ds dc)(hd:d.pl=J)
  (hspec:Aa P f (fs.map .v++dc++cs.map .v) ⟨[G os],[]⟩ d ⟨[G os'],[]⟩):Ah P o (.v (.fn f fs cs)::ds) σ d ⟨σ.H.set q (G os'),σ.own⟩:=by
 intro E g a w K Q hw hds hK
 obtain⟨us,vs,ws,hf,hargs,h1,h2,h3⟩:=DQ ho hc hds
 refine Gz (_E:=E) (_g:=g) ho hc hspec.1 hf hargs ?_
 have hargs':Af { M:=g.M,β:=fun _=>g.β q,n:=1,ι:=fun _ _=>none,κ:=fun _=>g.κ q } (fs.map .v++dc++cs.map .v) (us++ws++vs):=
  Aw (Aw (BJ (by rfl) (Ca fs) h1) (Eh.rep (q:=q) (g:=g) (by rfl) (by rfl) (by simp) ha h3)) (BJ (by rfl) (Ca cs) h2)
 refine Calls.mono (hspec.2 _ w _ (hw.rep.one hq hos) hargs') ?_
 rintro e w' ⟨u,g',rfl,hw',hr⟩
 obtain⟨h4,h5⟩:=hw.back1 hq hos' hw'
 exact⟨u,rfl,hK _ _ _ h4 h5 (Mn (by rfl) hd hr)⟩
theorem QT{c:Call}{fo:x8}(ho:o.op=.call c)(hc:c.callee=.value fo){f:yx}{fs cs:List V}{ds dc:List D}{q:Nat}{os os':List D}(hq:σ.H[q]?=G (G os))(hos:D.pls os=J)(hos':D.pls os'=J)(ha:Eh q ds dc)
  {k' sz:Nat} {xs:List V} (k:Nat) (hk:∀x∈σ.own,x.1≠k) (hspec:Aa P f (fs.map .v++dc++cs.map .v) ⟨[G os],[]⟩ (.acc k' xs) ⟨[G os'],[(k',sz,xs)]⟩):
  Ah P o (.v (.fn f fs cs)::ds) σ (.acc k xs) ⟨σ.H.set q (G os'),(k,sz,xs)::σ.own⟩:=by
 intro E g a w K Q hw hds hK
 obtain⟨us,vs,ws,hf,hargs,h1,h2,h3⟩:=DQ ho hc hds
 refine Gz (_E:=E) (_g:=g) ho hc hspec.1 hf hargs ?_
 have hargs':Af { M:=g.M,β:=fun _=>g.β q,n:=1,ι:=fun _ _=>none,κ:=fun _=>g.κ q } (fs.map .v++dc++cs.map .v) (us++ws++vs):=
  Aw (Aw (BJ (by rfl) (Ca fs) h1) (Eh.rep (q:=q) (g:=g) (by rfl) (by rfl) (by simp) ha h3)) (BJ (by rfl) (Ca cs) h2)
 refine Calls.mono (hspec.2 _ w _ (hw.rep.one hq hos) hargs') ?_
 rintro e w' ⟨u,g',rfl,hw',hr⟩
 obtain⟨h4,h5⟩:=hw.back1 hq hos' hw'
 simp only[Ag] at hr
 obtain⟨hsz,u',hu',hr',hp',_⟩:=hw'.rep.own k' sz xs (by simp)
 obtain rfl:u=u':=by grind
 have hβ:g'.β 0=g.β q:=hw'.βE 0 (by simp)
 obtain⟨h6,h7⟩:=h4.addOwn (k:=k) (sz:=sz) (xs:=xs) (u:=u) hk hsz hr' hp' (fun b hb=>by
  have hne:g'.β 0≠b:=hw'.rep.ownObj (k',sz,xs) (by simp) u hr.2 b hb 0 os' (by simp)
  rcases hw'.owns (k',sz,xs) (by simp) u hr.2 b hb with h|h
  ·refine⟨IE hw.size h,fun i cs hi=>?_,fun x hx v hv hvb=>?_⟩
   ·obtain⟨cs2,hc2⟩:∃cs2,σ.H[i]?=G (G cs2):=by
     grind
    have:=hw.rep.obj_lt hc2;grind
   ·have:=hw.rep.own_lt hx hv hvb;grind
  ·exact absurd (UW h) (fun e=>hne (by omega)))
 exact⟨u,rfl,hK _ _ _ h6 (Gh.le_trans h5 h7) (by grind[Ag])⟩
end
theorem WI.restrict{E:cd}{g:Gh}{σ σ':St}{w:x5}(hw:WI E g σ w){m:Nat}(hH:σ'.H=σ.H.take m)(hm:m<=I σ.H)(hE:E.g.n<=m)(hc:∀(i:Nat) (cs:List D),σ'.H[i]?=G (G cs)->D.pls cs=J)(hown:σ'.own.Sublist σ.own):
  WI E { g with n:=m,ι:=fun k j=>if k∈σ'.own.map (·.1) then g.ι k j else none } σ' w:=by
 have get:∀(i:Nat) (cs:List D),σ'.H[i]?=G (G cs)->σ.H[i]?=G (G cs)/\i<m:=by
  grind
 have hι:∀x∈σ'.own,(if x.1∈σ'.own.map (·.1) then g.ι x.1 (I x.2.2) else none)=g.ι x.1 (I x.2.2):=fun x hx=>Ie (I2.2 ⟨x,hx,rfl⟩)
 refine{ rep:=⟨?_,hw.rep.mem,fun i cs hi=>?_,fun i j cs ds hi hj=>hw.rep.inj i j cs ds (get i cs hi).1 (get j ds hj).1,fun k sz xs hx=>?_,?_,fun x hx y hy hne u u' hu hu' b hb=>?_,fun x hx u hu b hb i cs hi=>?_,fun k hk j=>?_,hw.rep.gl,hw.rep.gw⟩,M:=hw.M,size:=hw.size,keep:=hw.keep,os:=hw.os,tape:=hw.tape,output:=hw.output,nE:=hE,βE:=fun o ho=>hw.βE o ho,κE:=fun o ho=>hw.κE o ho,objs:=fun i cs hi=>hw.objs i cs (get i cs hi).1,owns:=fun x hx u hu b hb=>?_,drawn:=hw.drawn }
 ·grind
 ·obtain⟨us,rest,e,h1,h2,h3,h4⟩:=hw.rep.obj i cs (get i cs hi).1
  grind[BJ]
 ·obtain⟨h0,u,hu,h1,h2,h3⟩:=hw.rep.own k sz xs (hown.subset hx)
  grind
 ·exact(hown.map _).nodup hw.rep.tags
 ·exact hw.rep.sep x (hown.subset hx) y (hown.subset hy) hne u u' ((hι x hx).symm.trans hu) ((hι y hy).symm.trans hu') b hb
 ·exact hw.rep.ownObj x (hown.subset hx) u ((hι x hx).symm.trans hu) b hb i cs (get i cs hi).1
 ·grind
 ·exact hw.owns x (hown.subset hx) u ((hι x hx).symm.trans hu) b hb
inductive Se (P:x7) (env:List D) (σ:St):List ResultVar->List D->Prop
 |nil:Se P env σ [] []
 |tmp {t:Tmp} {d:D} {rs:List ResultVar} {ds:List D} (h:env[t]?=G d) (hr:Se P env σ rs ds):Se P env σ (.tmp t::rs) (d::ds)
 |cellA {a:Tmp} {t:x6} {q off n:Nat} {cs:List D} {xs:List V} {rs:List ResultVar} {ds:List D} (h:env[a]?=G (.ptr q off)) (hH:σ.H[q]?=G (G cs)) (ht:Y6 P t n) (hn:off+n<=I cs)
   (hc:Fv ((cs.drop off).take n)=G xs) (hr:Se P env σ rs ds):Se P env σ (.cell a t::rs) (.v (.agg xs)::ds)
 |cell1 {a:Tmp} {t:x6} {q off:Nat} {cs:List D} {d:D} {rs:List ResultVar} {ds:List D} (h:env[a]?=G (.ptr q off)) (hH:σ.H[q]?=G (G cs)) (ht:PY P t) (hc:cs[off]?=G d) (hr:Se P env σ rs ds):
   Se P env σ (.cell a t::rs) (d::ds)
 |cellD {a:Tmp} {t:x6} {q off n:Nat} {cs:List D} {rs:List ResultVar} {ds:List D} (h:env[a]?=G (.ptr q off)) (hH:σ.H[q]?=G (G cs)) (ht:Y6 P t n) (hn:off+n<=I cs) (hr:Se P env σ rs ds):
   Se P env σ (.cell a t::rs) (.dagg ((cs.drop off).take n)::ds)
theorem er{g:Gh}{env:List D}{a:Act}(h:Af g env a.tmps.toList){t:Nat}{d:D}(hd:env[t]?=G d):Ag g d (a.tmps.getD t undef):=by
 have:=Ge h t
 grind[gr,Act.eval]
def rj(tmps:Array yz):ResultVar->Sem yz
 |.tmp t=>pure (tmps.getD t undef)
 |.cell a t=>do loadVar t (←asAddr (tmps.getD a undef))
theorem Hz(fn:yw)(tmps:Array yz):results fn tmps=(do let vs ←fn.results.mapM (rj tmps);pure (if h:vs.size=1 then vs[0] else .tuple vs)):=by
 rfl
theorem Se.run{P:x7}{env:List D}{σ:St}{E:cd}{g:Gh}{a:Act}{w:x5}(hf:FI E g σ env a w):∀{rs:List ResultVar} {ds:List D},Se P env σ rs ds->
  ∃us,(rs.mapM (rj a.tmps)).run P w=.ok us w/\Af g ds us
 |_,_,.nil=>⟨[],by simp,by rfl⟩
 |_,_,.tmp (t:=t) h hr=>by
  obtain⟨us,h1,h2⟩:=Se.run hf hr
  refine⟨a.tmps.getD t undef::us,?_,?_⟩
  ·grind[rj,Sem.run_bind,Sem.run_pure,Result.andThen_ok]
  ·simp only[Af];exact⟨_,us,rfl,er hf.env h,h2⟩
 |_,_,.cellA (n:=n) (cs:=cs) (off:=off) (q:=q) h hH ht hn hc hr=>by
  obtain⟨us,h1,h2⟩:=Se.run hf hr
  have hp:=er hf.env h
  simp only[Ag] at hp
  obtain⟨us',rest',et,hb,hrr,hone,_⟩:=hf.wi.rep.obj q cs hH
  have hra:=GP hc (Ce (Cq hrr off) n) (fun c hc'=>hone c (List.mem_of_mem_drop (Ji hc')))
  have hl:I us'=I cs:=A0 hrr
  have hld:=run_loadCells_list (P:=P) w ⟨g.β q,off,none⟩ ((us'.drop off).take n) (fun j v hj=>by
   grind[World.cell?,Addr.add])
  have hlen:I ((us'.drop off).take n)=n:=by grind
  rw[hlen] at hld
  refine⟨.agg ((us'.drop off).take n).toArray::us,?_,?_⟩
  ·rw[List.mapM_cons]
   simp only[rj,Sem.run_bind,Sem.run_pure,Result.andThen_ok,hp.2,asAddr,loadVar,Df ht,dw ht,hld,IT,h1]
  grind[Af,Ag,CY]
 |_,_,.cell1 (cs:=cs) (off:=off) (q:=q) h hH ht hc hr=>by
  obtain⟨us,h1,h2⟩:=Se.run hf hr
  have hp:=er hf.env h
  simp only[Ag] at hp
  obtain⟨us',rest',et,hb,hrr,hone,_⟩:=hf.wi.rep.obj q cs hH
  obtain⟨u',hu,hd⟩:=BA hrr hc
  have hcell:w.cell? ⟨g.β q,off,none⟩=G u':=by grind[World.cell?]
  refine⟨u'::us,?_,?_⟩
  ·rw[List.mapM_cons]
   simp only[rj,Sem.run_bind,hp.2,asAddr,Sem.run_pure,Result.andThen_ok,loadVar,Df ht,Jy,if_false,run_load,hcell,h1]
  grind[Af]
 |_,_,.cellD (n:=n) (cs:=cs) (off:=off) (q:=q) h hH ht hn hr=>by
  obtain⟨us,h1,h2⟩:=Se.run hf hr
  have hp:=er hf.env h
  simp only[Ag] at hp
  obtain⟨us',rest',et,hb,hrr,hone,_⟩:=hf.wi.rep.obj q cs hH
  have hra:=Ce (Cq hrr off) n
  have hl:I us'=I cs:=A0 hrr
  have hld:=run_loadCells_list (P:=P) w ⟨g.β q,off,none⟩ ((us'.drop off).take n) (fun j v hj=>by
   grind[World.cell?,Addr.add])
  have hlen:I ((us'.drop off).take n)=n:=by grind
  rw[hlen] at hld
  refine⟨.agg ((us'.drop off).take n).toArray::us,?_,?_⟩
  ·rw[List.mapM_cons]
   simp only[rj,Sem.run_bind,Sem.run_pure,Result.andThen_ok,hp.2,asAddr,loadVar,Df ht,dw ht,hld,IT,h1]
  grind[Af,Ag]
def SS:List D->D
 |[d]=>d
 |ds=>.tup ds
theorem Aa.un{P:x7}{f:yx}{ds:List D}{σ:St}{k sz:Nat}{xs:List V}{H:List (Option (List D))}(hH:∀(i:Nat) (cs:List D),H[i]?=G (G cs)->D.pls cs=J)(hn:I σ.H<=I H)
  (h:Aa P f ds σ (.acc k xs) ⟨H,[(k,sz,xs)]⟩):Aa P f ds σ (.v (.list xs)) ⟨H,[]⟩:=by
 refine⟨h.1,fun g w args hw hargs=>?_⟩
 refine Calls.mono (h.2 g w args hw hargs) ?_
 rintro e w' ⟨u,g',rfl,hw',hr⟩
 refine⟨u,_,rfl,hw'.restrict (σ':=⟨H,[]⟩) (m:=I H) (by simp) (HP _) (by simp only[hw.n];exact hn) hH (by simp),?_⟩
 grind[Ag]
section
variable {C : cd -> cd -> Prop} {P : x7} {R : List D -> St -> Prop} {k : List KI} {env : List D} {σ : St}
theorem GQ:∀xs:List V,Fv (xs.map .v)=G xs
 |[]=>rfl
 |x::xs=>by simp[Fv,D.toV,GQ xs]
end
def NV(acc:List Nat)(o:yy):Nat:=o.after.toList.foldl (fun s e=>if Region.binds .any e then s|||2^e.on|||acc.getD e.on 0 else s) 0
def Fp:List Nat->List yy->List Nat
 |acc,[]=>acc
 |acc,o::os=>Fp (acc++[NV acc o]) os
theorem Od(acc:List Nat)(i:Nat):∀(es:List Edge) (s:Nat),(es.foldl (fun s e=>if Region.binds .any e then s|||2^e.on|||acc.getD e.on 0 else s) s).testBit i=J->
  s.testBit i=J∨∃e∈es,Region.binds .any e=J/\(i=e.on∨(acc.getD e.on 0).testBit i=J)
 |[],s,h=>.inl h
 |e::es,s,h=>by
  simp only[IX] at h
  rcases Od acc i es _ h with h|⟨e',he,hb,hi⟩
  all_goals grind
def DC(ops:Array yy)(S:Nat->Bool):Prop:=∀i o,ops[i]?=G o->S i=J->∀e∈o.after,Region.binds .any e=J->S e.on=J
def Apv(acc:List Nat)(S:Nat->Bool):Prop:=∀j m,acc[j]?=G m->S j=J->∀i,m.testBit i=J->S i=J
theorem Rg{acc:List Nat}{S:Nat->Bool}{o:yy}(hg:Apv acc S)(hd:∀e∈o.after,Region.binds .any e=J->S e.on=J):∀i,(NV acc o).testBit i=J->S i=J:=by
 intro i hi
 rcases Od acc i _ _ hi with h|⟨e,he,hb,h⟩
 ·grind
 ·have hs:=hd e (by grind) hb
  rcases h with rfl|h
  ·exact hs
  ·cases hm:acc[e.on]? with
   |none=>grind
   |some m=>
    rw[HQ,hm] at h
    exact hg e.on m hm hs i h
theorem Tn{ops:Array yy}{S:Nat->Bool}(hdc:DC ops S):∀(os:List yy) (acc:List Nat),(∀k,os[k]?=ops[I acc+k]?)->Apv acc S->Apv (Fp acc os) S
 |[],acc,_,hg=>hg
 |o::os,acc,ha,hg=>by
  simp only[Fp]
  refine Tn hdc os _ (fun k=>?_) ?_
  ·have:=ha (k+1)
   simp only[HW,length_singleton]
   rw[show I acc+1+k=I acc+(k+1) by omega]
   simpa using this
  ·intro j m hj hs i hi
   by_cases hlt:j<I acc
   ·rw[Ig hlt] at hj
    exact hg j m hj hs i hi
   ·have hj':j=I acc:=by
     have:=(HL.1 hj).1
     simp at this;omega
    subst hj'
    rw[Ib (HP _)] at hj
    simp at hj
    subst hj
    have ho:ops[I acc]?=G o:=by have:=ha 0;simpa using this.symm
    exact Rg hg (hdc _ o ho hs) i hi
theorem OG:∀(os:List yy) (acc:List Nat),∃r,Fp acc os=acc++r
 |[],acc=>⟨[],by simp[Fp]⟩
 |o::os,acc=>by
  obtain⟨r,h⟩:=OG os (acc++[NV acc o])
  grind[Fp]
theorem Wg:∀(os:List yy) (acc:List Nat) (k:Nat) (o:yy),os[k]?=G o->∃acc',(Fp acc os)[I acc+k]?=G (NV acc' o)/\∃r,Fp acc os=acc'++r
 |[],acc,k,o,h=>by grind
 |o0::os,acc,k,o,h=>by
  simp only[Fp]
  cases k with
  |zero=>
   simp at h;subst h
   obtain⟨r,hr⟩:=OG os (acc++[NV acc o0])
   grind
  |succ k=>
   simp at h
   obtain⟨acc',h1,h2⟩:=Wg os (acc++[NV acc o0]) k o h
   grind
theorem QH{ops:Array yy}{S:Nat->Bool}(hdc:DC ops S){j:Nat}{o:yy}(ho:ops[j]?=G o)(hr:∀e∈o.after,Region.binds .any e=J->S e.on=J):
  ∀i,((Fp [] ops.toList).getD j 0).testBit i=J->S i=J:=by
 intro i hi
 obtain⟨acc',h1,r,h2⟩:=Wg ops.toList [] j o (by grind)
 simp only[HR,I4] at h1
 rw[HQ,h1] at hi
 have hg:=Tn hdc ops.toList [] (fun k=>by simp) (fun j m hj=>by grind)
 rw[h2] at hg
 exact Rg (acc:=acc') (fun j m hj=>hg j m (by grind)) hr i hi
theorem P7{ops:Array yy}{S:Nat->Bool}(hdc:DC ops S){j:Nat}(hs:S j=J):∀i,((Fp [] ops.toList).getD j 0).testBit i=J->S i=J:=by
 intro i hi
 have hg:=Tn hdc ops.toList [] (fun k=>by simp) (fun j m hj=>by grind)
 cases hm:(Fp [] ops.toList)[j]? with
 |none=>grind
 |some m=>
  rw[HQ,hm] at hi
  exact hg j m hm hs i hi
def H8(ops:Array yy)(o:yy):List Tmp:=
 (o.op.operands.toList.filterMap fun|.tmp t=>G t|_=>none)++(match o.guard with|G (j,_)=>((ops[j]?).bind (·.dst)).toList|none=>[])
def Ty(ops:Array yy)(x y:yy):Bool:=
 (match x.dst with|G t=>(H8 ops y).contains t||y.dst==G t|none=>false)||(match y.dst with|G t=>(H8 ops x).contains t|none=>false)
def vr(ops:Array yy)(effs:List Bool):Bool:=
 let b:=Fp [] ops.toList
 (List.range ops.size).all fun j=>
  match ops[j]? with
  |none=>false
  |some oj=>
   oj.after.all (fun e=> !Region.binds .any e||Y (e.on<j))&&
   (List.range j).all fun i=>
    match ops[i]? with
    |none=>false
    |some oi=> !(Ty ops oi oj||(effs.getD i false&&effs.getD j false))||(b.getD j 0).testBit i
theorem WV{ops:Array yy}{effs:List Bool}(h:vr ops effs=J){j:Nat}{o:yy}(ho:ops[j]?=G o):∀e∈o.after,Region.binds .any e=J->e.on<j:=by
 intro e he hb
 have hlt:j<ops.size:=(ID.1 ho).1
 have h1:=I5.1 h j (by grind)
 grind[Array.all_eq_true_iff_forall_mem]
theorem Mp{ops:Array yy}{effs:List Bool}(h:vr ops effs=J){i j:Nat}{oi oj:yy}(hi:ops[i]?=G oi)(hj:ops[j]?=G oj)(hij:i<j)(hc:Ty ops oi oj=J∨(effs.getD i false=J/\effs.getD j false=J)):
  ((Fp [] ops.toList).getD j 0).testBit i=J:=by
 have hlt:j<ops.size:=(ID.1 hj).1
 have h1:=I5.1 h j (by grind)
 grind
abbrev It:=Option Tmp×D×Bool
def CW(S:Nat->Bool)(e:List D)(x:It×Nat):List D:=if S x.2 then B5 e x.1.1 x.1.2.1 else e
def YF(items:List It)(S:Nat->Bool)(env0:List D):List D:=(items.zipIdx 0).foldl (CW S) env0
def D9(S:Nat->Bool)(c:Nat)(x:It×Nat):Nat:=if S x.2&&x.1.2.2 then c+1 else c
def VP(items:List It)(S:Nat->Bool):Nat:=(items.zipIdx 0).foldl (D9 S) 0
theorem US{e:List D}{t:Option Tmp}{d:D}(s:Nat):(B5 e t d)[s]?=if t=G s then(e[s]?).map (fun _=>d) else e[s]?:=by
 cases t<;>grind[B5]
theorem J6{S S':Nat->Bool}{t:Tmp}:∀(l:List (It×Nat)) (e e':List D),(∀x∈l,x.1.1=G t->S x.2=S' x.2)->e[t]?=e'[t]?->(l.foldl (CW S) e)[t]?=(l.foldl (CW S') e')[t]?
 |[],e,e',_,h=>h
 |x::l,e,e',hl,h=>by
  simp only[IX]
  refine J6 l _ _ (fun y hy=>hl y (by simp[hy])) ?_
  by_cases hx:x.1.1=G t
  ·have:=hl x (by simp) hx
   unfold CW
   rw[this]
   split
   ·simp[US,hx,h]
   ·exact h
  ·unfold CW
   have hp:∀e:List D,(B5 e x.1.1 x.1.2.1)[t]?=e[t]?:=fun e=>by rw[US,HZ hx]
   split<;>split<;>simp[hp,h]
theorem MH{S S':Nat->Bool}:∀(l:List (It×Nat)) (c:Nat),(∀x∈l,x.1.2.2=J->S x.2=S' x.2)->l.foldl (D9 S) c=l.foldl (D9 S') c
 |[],c,_=>rfl
 |x::l,c,hl=>by
  simp only[IX]
  have:D9 S c x=D9 S' c x:=by
   unfold D9
   cases hx:x.1.2.2 with
   |false=>simp
   |true=>rw[hl x (by simp) hx]
  rw[this]
  exact MH l _ (fun y hy=>hl y (by simp[hy]))
theorem KF{items:List It}{x:It×Nat}(h:x∈items.zipIdx 0):items[x.2]?=G x.1:=by
 grind
theorem Agk{items:List It}{S:Nat->Bool}{env0:List D}{j:Nat}{it:It}(hj:items[j]?=G it)(hS:S j=O)(hlast:∀(i:Nat) (x:It),items[i]?=G x->S i=J->j<i->it.1=none∨x.1≠it.1):
  YF items (fun i=>S i||i==j) env0=B5 (YF items S env0) it.1 it.2.1:=by
 have hjl:j<I items:=(HL.1 hj).1
 have hsplit:items=items.take j++it::items.drop (j+1):=by
  grind[drop_eq_getElem_cons,List.take_append_drop]
 have hlen:I (items.take j)=j:=by grind
 have hz:items.zipIdx 0=(items.take j).zipIdx 0++(it,j)::(items.drop (j+1)).zipIdx (j+1):=by
  grind[List.zipIdx_cons]
 unfold YF
 rw[hz,List.foldl_append,List.foldl_append,IX,IX]
 have e1:(items.take j).zipIdx.foldl (CW fun i=>S i||i==j) env0=(items.take j).zipIdx.foldl (CW S) env0:=by
  have:∀(l:List (It×Nat)) (e:List D),(∀x∈l,x.2≠j)->l.foldl (CW fun i=>S i||i==j) e=l.foldl (CW S) e:=by
   intro l
   induction l<;>grind[CW]
  grind
 rw[e1]
 generalize (items.take j).zipIdx.foldl (CW S) env0=E
 have s1:CW (fun i=>S i||i==j) E (it,j)=B5 E it.1 it.2.1:=by simp[CW]
 have s2:CW S E (it,j)=E:=by grind[CW]
 rw[s1,s2]
 -- what follows does not touch the slot
 have later:∀(l:List (It×Nat)) (e:List D),(∀x∈l,x.2≠j/\(S x.2=J->it.1=none∨x.1.1≠it.1))->l.foldl (CW fun i=>S i||i==j) (B5 e it.1 it.2.1)=B5 (l.foldl (CW S) e) it.1 it.2.1:=by
  intro l
  induction l with
  |nil=>grind
  |cons x l ih=>
   intro e hl
   simp only[IX]
   obtain⟨hx,hd⟩:=hl x (by simp)
   have hh:CW (fun i=>S i||i==j) (B5 e it.1 it.2.1) x=B5 (CW S e x) it.1 it.2.1:=by
    unfold CW
    have hxj:(x.2==j)=O:=by grind
    simp only[hxj,Bool.or_false]
    split
    ·rename_i hs
     rcases hd hs with h|h
     ·rw[h];rfl
     ·cases h1:it.1 with
      |none=>rfl
      |some t=>
       cases h2:x.1.1<;>grind[B5,List.set_comm]
    ·rfl
   grind
 grind
theorem Agy{items:List It}{S:Nat->Bool}{j:Nat}{it:It}(hj:items[j]?=G it)(hS:S j=O):VP items (fun i=>S i||i==j)=VP items S+(if it.2.2 then 1 else 0):=by
 have hjl:j<I items:=(HL.1 hj).1
 have hsplit:items=items.take j++it::items.drop (j+1):=by
  grind[drop_eq_getElem_cons,List.take_append_drop]
 have hlen:I (items.take j)=j:=by grind
 have hz:items.zipIdx 0=(items.take j).zipIdx 0++(it,j)::(items.drop (j+1)).zipIdx (j+1):=by
  grind[List.zipIdx_cons]
 have same:∀(l:List (It×Nat)) (c:Nat),(∀x∈l,x.2≠j)->l.foldl (D9 fun i=>S i||i==j) c=l.foldl (D9 S) c:=by
  intro l
  induction l<;>grind[D9]
 have shift:∀(l:List (It×Nat)) (c d:Nat),l.foldl (D9 S) (c+d)=l.foldl (D9 S) c+d:=by
  intro l
  induction l<;>grind[D9]
 unfold VP
 rw[hz,List.foldl_append,List.foldl_append,IX,IX]
 grind[D9]
abbrev Ef:=Bool×Option Nat
def Xl(ops:Array yy)(i f:Nat):Bool:=((Fp [] ops.toList).getD i 0).testBit f
inductive GM (P:x7) (ops:Array yy) (sts:Bool->List St) (fr:Nat):List yy->List D->Nat->List D->List Ef->List D->Nat->Prop
 |nil {env:List D} {j:Nat}:GM P ops sts fr [] env j [] [] env j
 |skip {o:yy} {rest:List yy} {env env':List D} {j j':Nat} {vals:List D} {effs:List Ef} (hne:ops.size- (I rest+1)≠fr) (hw:BV env ops o=G false) (h:GM P ops sts fr rest (B5 env o.dst (.tup [])) j vals effs env' j'):
   GM P ops sts fr (o::rest) env j (.tup []::vals) ((false,none)::effs) env' j'
 |quiet {o:yy} {rest:List yy} {env env':List D} {j j':Nat} {vals:List D} {effs:List Ef} {d:D} (hne:ops.size- (I rest+1)≠fr) (hw:BV env ops o=G true) (ho:∀b,∀s∈sts b,Ah P o (EH env o) s d s) (h:GM P ops sts fr rest (B5 env o.dst d) j vals effs env' j'):
   GM P ops sts fr (o::rest) env j (d::vals) ((false,none)::effs) env' j'
 |eff {o:yy} {rest:List yy} {env env':List D} {j j':Nat} {vals:List D} {effs:List Ef} {d:D} (hne:ops.size- (I rest+1)≠fr) (hw:BV env ops o=G true) (ho:∀b s,(sts b)[j]?=G s->(b=O->Xl ops (ops.size- (I rest+1)) fr=O)->∃s',(sts b)[j+1]?=G s'/\Ah P o (EH env o) s d s')
   (h:GM P ops sts fr rest (B5 env o.dst d) (j+1) vals effs env' j'):GM P ops sts fr (o::rest) env j (d::vals) ((true,none)::effs) env' j'
 |quietW {o:yy} {rest:List yy} {env env':List D} {j j':Nat} {vals:List D} {effs:List Ef} {d:D} (lim:Nat) (hne:ops.size- (I rest+1)≠fr) (hw:BV env ops o=G true) (ho:∀(b:Bool) (c:Nat) (s:St),c<=lim->(sts b)[c]?=G s->Ah P o (EH env o) s d s) (h:GM P ops sts fr rest (B5 env o.dst d) j vals effs env' j'):
   GM P ops sts fr (o::rest) env j (d::vals) ((false,G lim)::effs) env' j'
 |free {o:yy} {rest:List yy} {env env':List D} {j j':Nat} {vals:List D} {effs:List Ef} {d:D} (hf:fr=ops.size- (I rest+1)) (hw:BV env ops o=G true) (ho:∀(c:Nat) (s:St),(sts false)[c]?=G s->∃s',(sts true)[c]?=G s'/\Ah P o (EH env o) s d s') (h:GM P ops sts fr rest (B5 env o.dst d) j vals effs env' j'):
   GM P ops sts fr (o::rest) env j (d::vals) ((false,none)::effs) env' j'
def AS:List yy->List D->List Ef->List It
 |o::os,d::ds,b::bs=>(o.dst,d,b.1)::AS os ds bs
 |_,_,_=>[]
def R6(items:List It)(env0:List D):List D:=items.foldl (fun e it=>B5 e it.1 it.2.1) env0
def VQ(items:List It):Nat:=items.foldl (fun c it=>if it.2.2 then c+1 else c) 0
theorem Hf(items:List It)(it:It)(env0:List D):R6 (items++[it]) env0=B5 (R6 items env0) it.1 it.2.1:=by simp[R6]
theorem Hg(items:List It)(it:It):VQ (items++[it])=VQ items+if it.2.2 then 1 else 0:=by grind[VQ]
def Apw(P:x7)(ops:Array yy)(sts:Bool->List St)(fr:Nat)(items:List It)(lims:List Ef)(env0:List D)(i:Nat)(o:yy):Prop:=
 ∃d b,items[i]?=G (o.dst,d,b)/\
  ((BV (R6 (items.take i) env0) ops o=G false/\d=.tup []/\b=O/\i≠fr)∨
   (BV (R6 (items.take i) env0) ops o=G true/\b=O/\i≠fr/\∀(b:Bool) (c:Nat) (s:St),(sts b)[c]?=G s->(∀lim,(lims[i]?).bind (·.2)=G lim->c<=lim)->Ah P o (EH (R6 (items.take i) env0) o) s d s)∨
   (BV (R6 (items.take i) env0) ops o=G true/\b=true/\i≠fr/\∀bb s,(sts bb)[VQ (items.take i)]?=G s->(bb=O->Xl ops i fr=O)->∃s',(sts bb)[VQ (items.take i)+1]?=G s'/\Ah P o (EH (R6 (items.take i) env0) o) s d s')∨
   (BV (R6 (items.take i) env0) ops o=G true/\b=O/\i=fr/\∀(c:Nat) (s:St),(sts false)[c]?=G s->∃s',(sts true)[c]?=G s'/\Ah P o (EH (R6 (items.take i) env0) o) s d s'))
theorem GM.facts{P:x7}{ops:Array yy}{sts:Bool->List St}{fr:Nat}{rest:List yy}{env env':List D}{j j':Nat}{vals:List D}{effs:List Ef}(h:GM P ops sts fr rest env j vals effs env' j'):
  ∀(d9:List It) (pe:List Ef) (env0:List D),I pe=I d9->I d9+I rest=ops.size->env=R6 d9 env0->j=VQ d9->
   (∀k o,rest[k]?=G o->Apw P ops sts fr (d9++AS rest vals effs) (pe++effs) env0 (I d9+k) o)/\env'=R6 (d9++AS rest vals effs) env0/\j'=VQ (d9++AS rest vals effs)/\(AS rest vals effs).length=I rest/\effs.map (·.1)=(AS rest vals effs).map (·.2.2):=by
 induction h with
 |nil=>grind[AS]
 | @skip o rest env env' j j' vals effs hne hw h ih=>
  intro d9 pe env0 hp hl he hj
  have hidx:ops.size- (I rest+1)=I d9:=by grind
  obtain⟨f1,f2,f3,f4,f5⟩:=ih (d9++[(o.dst,bk [],false)]) (pe++[((false,none):Ef)]) env0 (by grind) (by grind) (by rw[Hf,he]) (by grind[Hg])
  have hap:d9++[(o.dst,bk [],false)]++AS rest vals effs=d9++AS (o::rest) (.tup []::vals) (((false,none):Ef)::effs):=by simp[AS]
  have hap2:pe++[((false,none):Ef)]++effs=pe++((false,none):Ef)::effs:=by simp
  rw[hap] at f1 f2 f3
  rw[hap2] at f1
  refine⟨fun k o' hk=>?_,f2,f3,by grind,by grind[AS]⟩
  cases k with
  |zero=>
   simp at hk;subst hk
   have hat:(pe++((false,none):Ef)::effs)[I d9+0]?=G ((false,none):Ef):=by grind
   rw[hidx] at hne
   refine⟨.tup [],false,by grind,.inl ⟨?_,rfl,rfl,hne⟩⟩
   grind
  |succ k=>
   have:=f1 k o' (by grind)
   simp only[HW,length_singleton] at this
   grind
 | @quiet o rest env env' j j' vals effs d hne hw ho h ih=>
  intro d9 pe env0 hp hl he hj
  have hidx:ops.size- (I rest+1)=I d9:=by grind
  obtain⟨f1,f2,f3,f4,f5⟩:=ih (d9++[(o.dst,d,false)]) (pe++[((false,none):Ef)]) env0 (by grind) (by grind) (by rw[Hf,he]) (by grind[Hg])
  have hap:d9++[(o.dst,d,false)]++AS rest vals effs=d9++AS (o::rest) (d::vals) (((false,none):Ef)::effs):=by simp[AS]
  have hap2:pe++[((false,none):Ef)]++effs=pe++((false,none):Ef)::effs:=by simp
  rw[hap] at f1 f2 f3
  rw[hap2] at f1
  refine⟨fun k o' hk=>?_,f2,f3,by grind,by grind[AS]⟩
  cases k with
  |zero=>
   simp at hk;subst hk
   have hat:(pe++((false,none):Ef)::effs)[I d9+0]?=G ((false,none):Ef):=by grind
   rw[hidx] at hne
   refine⟨d,false,by grind,.inr (.inl ⟨?_,rfl,hne,?_⟩)⟩
   ·grind
   grind
  |succ k=>
   have:=f1 k o' (by grind)
   simp only[HW,length_singleton] at this
   grind
 | @eff o rest env env' j j' vals effs d hne hw ho h ih=>
  intro d9 pe env0 hp hl he hj
  have hidx:ops.size- (I rest+1)=I d9:=by grind
  obtain⟨f1,f2,f3,f4,f5⟩:=ih (d9++[(o.dst,d,true)]) (pe++[((true,none):Ef)]) env0 (by grind) (by grind) (by rw[Hf,he]) (by grind[Hg])
  have hap:d9++[(o.dst,d,true)]++AS rest vals effs=d9++AS (o::rest) (d::vals) (((true,none):Ef)::effs):=by simp[AS]
  have hap2:pe++[((true,none):Ef)]++effs=pe++((true,none):Ef)::effs:=by simp
  rw[hap] at f1 f2 f3
  rw[hap2] at f1
  refine⟨fun k o' hk=>?_,f2,f3,by grind,by grind[AS]⟩
  cases k with
  |zero=>
   simp at hk;subst hk
   have hat:(pe++((true,none):Ef)::effs)[I d9+0]?=G ((true,none):Ef):=by grind
   rw[hidx] at hne ho
   refine⟨d,true,by grind,.inr (.inr (.inl ⟨?_,rfl,hne,?_⟩))⟩
   all_goals simp_all
  |succ k=>
   have:=f1 k o' (by grind)
   simp only[HW,length_singleton] at this
   grind
 | @quietW o rest env env' j j' vals effs d lim hne hw ho h ih=>
  intro d9 pe env0 hp hl he hj
  have hidx:ops.size- (I rest+1)=I d9:=by grind
  obtain⟨f1,f2,f3,f4,f5⟩:=ih (d9++[(o.dst,d,false)]) (pe++[((false,G lim):Ef)]) env0 (by grind) (by grind) (by rw[Hf,he]) (by grind[Hg])
  have hap:d9++[(o.dst,d,false)]++AS rest vals effs=d9++AS (o::rest) (d::vals) (((false,G lim):Ef)::effs):=by simp[AS]
  have hap2:pe++[((false,G lim):Ef)]++effs=pe++((false,G lim):Ef)::effs:=by simp
  rw[hap] at f1 f2 f3
  rw[hap2] at f1
  refine⟨fun k o' hk=>?_,f2,f3,by grind,by grind[AS]⟩
  cases k with
  |zero=>
   simp at hk;subst hk
   have hat:(pe++((false,G lim):Ef)::effs)[I d9+0]?=G ((false,G lim):Ef):=by grind
   rw[hidx] at hne
   refine⟨d,false,by grind,.inr (.inl ⟨?_,rfl,hne,?_⟩)⟩
   all_goals grind
  |succ k=>
   have:=f1 k o' (by grind)
   simp only[HW,length_singleton] at this
   grind
 | @free o rest env env' j j' vals effs d hf hw ho h ih=>
  intro d9 pe env0 hp hl he hj
  have hidx:ops.size- (I rest+1)=I d9:=by grind
  obtain⟨f1,f2,f3,f4,f5⟩:=ih (d9++[(o.dst,d,false)]) (pe++[((false,none):Ef)]) env0 (by grind) (by grind) (by rw[Hf,he]) (by grind[Hg])
  have hap:d9++[(o.dst,d,false)]++AS rest vals effs=d9++AS (o::rest) (d::vals) (((false,none):Ef)::effs):=by simp[AS]
  have hap2:pe++[((false,none):Ef)]++effs=pe++((false,none):Ef)::effs:=by simp
  rw[hap] at f1 f2 f3
  rw[hap2] at f1
  refine⟨fun k o' hk=>?_,f2,f3,by grind,by grind[AS]⟩
  cases k with
  |zero=>
   simp at hk;subst hk
   have hat:(pe++((false,none):Ef)::effs)[I d9+0]?=G ((false,none):Ef):=by grind
   rw[hidx] at hf
   refine⟨d,false,by grind,.inr (.inr (.inr ⟨?_,rfl,hf.symm,?_⟩))⟩
   all_goals simp_all
  |succ k=>
   have:=f1 k o' (by grind)
   simp only[HW,length_singleton] at this
   grind
theorem AbY(items:List It)(i:Nat)(env0:List D):YF items (fun k=>Y (k<i)) env0=R6 (items.take i) env0:=by
 have gen:∀(l:List It) (s:Nat) (e:List D),(l.zipIdx s).foldl (CW fun k=>Y (k<i)) e=(l.take (i-s)).foldl (fun e it=>B5 e it.1 it.2.1) e:=by
  intro l
  induction l with
  |nil=>simp_all
  |cons x l ih=>
   intro s e
   simp only[List.zipIdx_cons,IX]
   rw[ih]
   by_cases h:s<i
   ·rw[show i-s=(i- (s+1))+1 by omega,List.take_succ_cons,IX]
    simp[CW,h]
   ·rw[show i-s=0 by omega,show i- (s+1)=0 by omega]
    simp[CW,h]
 grind[YF,R6]
theorem T3(items:List It)(i:Nat):VP items (fun k=>Y (k<i))=VQ (items.take i):=by
 have gen:∀(l:List It) (s c:Nat),(l.zipIdx s).foldl (D9 fun k=>Y (k<i)) c=(l.take (i-s)).foldl (fun c it=>if it.2.2 then c+1 else c) c:=by
  intro l
  induction l with
  |nil=>simp_all
  |cons x l ih=>
   intro s e
   simp only[List.zipIdx_cons,IX]
   rw[ih]
   by_cases h:s<i
   ·rw[show i-s=(i- (s+1))+1 by omega,List.take_succ_cons,IX]
    simp[D9,h]
   ·rw[show i-s=0 by omega,show i- (s+1)=0 by omega]
    simp[D9,h]
 grind[VP,VQ]
theorem XU(l:List It):VQ l=(l.map (·.2.2)).count true:=by
 have gen:∀(l:List It) (c:Nat),l.foldl (fun c it=>if it.2.2 then c+1 else c) c=c+(l.map (·.2.2)).count true:=by
  intro l
  induction l<;>grind
 grind[VQ]
theorem Ajy{items:List It}{S S':Nat->Bool}(h:∀(k:Nat) (x:It),items[k]?=G x->x.2.2=true->S k=true->S' k=true):VP items S<=VP items S':=by
 have gen:∀(l:List (It×Nat)) (c c':Nat),(∀x∈l,x.1.2.2=true->S x.2=true->S' x.2=true)->c<=c'->l.foldl (D9 S) c<=l.foldl (D9 S') c':=by
  intro l
  induction l with
  |nil=>grind
  |cons x l ih=>
   intro c c' hl hc
   simp only[IX]
   refine ih _ _ (fun y hy=>hl y (List.mem_cons_of_mem _ hy)) ?_
   grind[D9]
 exact gen _ 0 0 (fun x hx=>h x.2 x.1 (KF hx)) (HP _)
def Aid(ops:Array yy)(lims:List Ef):Bool:=
 (List.range (I lims)).all fun i=>
  match (lims[i]?).bind (·.2) with
  |none=>true
  |some lim=>(List.range (I lims)).any fun e=>(lims.map (·.1)).getD e false&&Y (((lims.map (·.1)).take e).count true=lim)&&((Fp [] ops.toList).getD e 0).testBit i
def Ll(ops:Array yy)(lims:List Ef):Bool:=vr ops (lims.map (·.1))&&Aid ops lims
theorem XC{ops:Array yy}{o:yy}{env env':List D}(h:∀t∈H8 ops o,env[t]?=env'[t]?):EH env o=EH env' o:=by
 unfold EH
 refine List.map_congr_left fun x hx=>?_
 cases x<;>grind[H8,gr]
theorem Sv{ops:Array yy}{o:yy}{env env':List D}(h:∀t∈H8 ops o,env[t]?=env'[t]?):BV env ops o=BV env' ops o:=by
 unfold BV
 cases hg:o.guard with
 |none=>rfl
 |some p=>
  obtain⟨j,want⟩:=p
  simp only
  cases hj:(ops[j]?).bind (·.dst)<;>grind[H8]
section
variable {C : cd -> cd -> Prop} {P : x7} {R : List D -> St -> Prop} {k : List KI} {env : List D} {σ : St}
theorem Wx{ops:Array yy}{sts:Bool->List St}{fr:Nat}{items:List It}{effs:List Bool}{lims:List Ef}{env0:List D}{Q:Exit->Act->x5->Prop}{E:cd}{J:Gh->Prop}(hJ:∀g g':Gh,g.le g'->J g->J g')(hreg:vr ops effs=true)(hwin:Aid ops lims=true)(hle:effs=lims.map (·.1))(hlen:I items=ops.size)(heff:effs=items.map (·.2.2))
  (hfact:∀i o,ops[i]?=G o->Apw P ops sts fr items lims env0 i o)
  (hfin:∀g a w,J g->(∃s,(sts (Y (fr<ops.size)))[VQ items]?=G s/\FI E g s (R6 items env0) a w)->Q .normal a w):
  ∀(fuel:Nat) (listed:Array Bool) (a:Act) (w:x5) (g:Gh) (s:St),listed.size=ops.size->DC ops (fun i=>listed.getD i false)->
   (I ((List.range ops.size).filter fun i=> !listed.getD i false))=fuel->
   (sts (listed.getD fr false))[VP items (fun i=>listed.getD i false)]?=G s->J g->FI E g s (YF items (fun i=>listed.getD i false) env0) a w->wpAny P .any ops Q fuel listed a w:=by
 -- nothing is ready:all are listed
 have done_:∀(listed:Array Bool),listed.size=ops.size->Region.ready .any ops listed=[]->∀i,i<ops.size->listed.getD i false=true:=by
  intro listed hsz hr i
  induction i using Nat.strongRecOn with
  |_ i ih=>
   intro hi
   cases hl:listed.getD i false with
   |true=>rfl
   |false=>
    exfalso
    have hmem:i∈Region.ready .any ops listed:=by
     grind[Region.ready,WV]
    grind
 have finish:∀(listed:Array Bool) (a:Act) (w:x5) (g:Gh) (s:St),listed.size=ops.size->(∀i,i<ops.size->listed.getD i false=true)->(sts (listed.getD fr false))[VP items (fun i=>listed.getD i false)]?=G s->
   J g->FI E g s (YF items (fun i=>listed.getD i false) env0) a w->Q .normal a w:=by
  intro listed a w g s hsz hall hs hj hf
  have e1:YF items (fun i=>listed.getD i false) env0=R6 items env0:=by
   have:=AbY items ops.size env0
   rw[Im (by omega)] at this
   rw[←this]
   apply ext_getElem?
   grind[J6,YF]
  have e2:VP items (fun i=>listed.getD i false)=VQ items:=by
   have:=T3 items ops.size
   grind
  grind
 intro fuel
 induction fuel with
 |zero=>
  grind[Region.ready,List.filter_eq_nil_iff,wpAny]
 |succ fuel ih=>
  intro listed a w g s hsz hdc hcount hs hj hf
  refine⟨fun hr=>finish listed a w g s hsz (done_ listed hsz hr) hs hj hf,fun i hi=>?_⟩
  -- an operation that is ready
  unfold Region.ready at hi
  rw[List.mem_filter] at hi
  obtain⟨hi1,hi2⟩:=hi
  have hi':i<ops.size:=by grind
  have ho:ops[i]?=G ops[i]:=by grind
  generalize hoo:ops[i]=o at ho
  rw[ho] at hi2
  simp only[HJ,IA,IJ,Jq] at hi2
  obtain⟨hnl,hall⟩:=hi2
  have hnl':listed.getD i false=O:=by
   grind
  have hready:∀e∈o.after,Region.binds .any e=true->listed.getD e.on false=true:=by
   grind[Array.all_eq_true_iff_forall_mem]
  have hpre:=QH hdc ho hready
  have hpost:=fun(j:Nat) (hs:listed.getD j false=true)=>P7 (S:=fun i=>listed.getD i false) hdc hs
  obtain⟨d,b,hit,hcase⟩:=hfact i o ho
  have hil:i<I items:=by omega
  -- every other operation that shares a slot is ordered with it
  have opAt:∀(k:Nat) (x:It),items[k]?=G x->∃ok,ops[k]?=G ok/\x.1=ok.dst:=by
   intro k x hk
   have hkl:k<ops.size:=by grind
   have hok:ops[k]?=G ops[k]:=by grind
   obtain⟨d',b',h1,_⟩:=hfact k _ hok
   grind
  have lt_listed:∀(k:Nat) (ok:yy),ops[k]?=G ok->k<i->(Ty ops ok o=true∨(effs.getD k false=true/\effs.getD i false=true))->listed.getD k false=true:=
   fun k ok hk hlt hc=>hpre k (Mp hreg hk ho hlt hc)
  have gt_not:∀(k:Nat) (ok:yy),ops[k]?=G ok->i<k->(Ty ops o ok=true∨(effs.getD i false=true/\effs.getD k false=true))->listed.getD k false=O:=by
   intro k ok hk hlt hc
   cases hl:listed.getD k false with
   |false=>rfl
   |true=>
    have:=hpost k hl i (Mp hreg ho hk hlt hc)
    grind
  have agree:∀t∈H8 ops o,(YF items (fun i=>listed.getD i false) env0)[t]?=(R6 (items.take i) env0)[t]?:=by
   intro t ht
   rw[←AbY]
   refine J6 _ _ _ (fun x hx hxt=>?_) rfl
   have hx2:=KF hx
   obtain⟨ok,hok,hdst⟩:=opAt x.2 x.1 hx2
   rw[hdst] at hxt
   rcases Nat.lt_trichotomy x.2 i with h|h|h
   ·grind[Ty]
   ·grind
   grind[Ty]
  have hlast:∀(k:Nat) (x:It),items[k]?=G x->listed.getD k false=true->i<k->o.dst=none∨x.1≠o.dst:=by
   intro k x hk hl hlt
   cases hd:o.dst with
   |none=>grind
   |some t=>
    grind[Ty]
  have hadd:=Agk (S:=fun i=>listed.getD i false) (env0:=env0) hit hnl' hlast
  have hcadd:=Agy (S:=fun i=>listed.getD i false) hit hnl'
  have hS':(fun k=>(listed.setIfInBounds i true).getD k false)=fun k=>listed.getD k false||k==i:=by
   funext k
   simp only[IU,Array.getElem?_setIfInBounds]
   grind
  have hcnt':I ((List.range ops.size).filter fun k=> !(listed.setIfInBounds i true).getD k false)=fuel:=by
   have e1:(List.range ops.size).filter (fun k=> !(listed.setIfInBounds i true).getD k false)=((List.range ops.size).filter fun k=> !listed.getD k false).filter (fun k=>k !=i):=by
    rw[List.filter_filter]
    refine List.filter_congr fun k _=>?_
    have:=congrFun hS' k
    grind
   rw[e1]
   have hnd:((List.range ops.size).filter fun k=> !listed.getD k false).Nodup:=List.filter_sublist.nodup List.nodup_range
   have hm:i∈ (List.range ops.size).filter fun k=> !listed.getD k false:=List.mem_filter.2 ⟨hi1,by grind⟩
   have hf1:=hnd.erase_eq_filter i
   grind
  have hdc':DC ops (fun k=>(listed.setIfInBounds i true).getD k false):=by
   rw[hS']
   grind[DC]
  -- the count of effects so far
  have hcb:b=true->VP items (fun k=>listed.getD k false)=VQ (items.take i):=by
   intro hbt
   rw[←T3]
   have hei:effs.getD i false=true:=by grind
   refine MH _ _ (fun x hx hxb=>?_)
   have hx2:=KF hx
   obtain⟨ok,hok,_⟩:=opAt x.2 x.1 hx2
   have hex:effs.getD x.2 false=true:=by grind
   rcases Nat.lt_trichotomy x.2 i with h|h|h
   ·grind
   all_goals grind
  have hw:=Sv agree
  have hev:=XC agree
  have next:∀(g':Gh) (a':Act) (w':x5) (s':St),(sts ((listed.setIfInBounds i true).getD fr false))[VP items (fun k=>(listed.setIfInBounds i true).getD k false)]?=G s'->J g'->FI E g' s' (B5 (YF items (fun k=>listed.getD k false) env0) o.dst d) a' w'->wpAny P .any ops Q fuel (listed.setIfInBounds i true) a' w':=by
   grind
  unfold wpOp
  rw[ho]
  simp only
  have hflag:i≠fr->(listed.setIfInBounds i true).getD fr false=listed.getD fr false:=by
   intro hne
   have:=congrFun hS' fr
   grind
  rcases hcase with⟨hwant,rfl,rfl,hne⟩|⟨hwant,rfl,hne,hop⟩|⟨hwant,rfl,hne,hop⟩|⟨hwant,rfl,hfr,hop⟩
  ·rw[HZ (by rw[CG hf.env (hw.trans hwant)];simp)]
   refine next g _ w s ?_ hj (hf.put hf.wi g.le_refl (NM g) o.dst)
   grind
  ·rw[Ie (CG hf.env (hw.trans hwant))]
   refine .inl ?_
   rw[←hev] at hop
   have hlim:∀lim,(lims[i]?).bind (·.2)=G lim->VP items (fun k=>listed.getD k false)<=lim:=by
    intro lim hlm
    have hil2:i<I lims:=by
     grind
    have h1:=I5.1 hwin i (by grind)
    rw[hlm] at h1
    obtain⟨e,_,h2⟩:=List.any_eq_true.1 h1
    simp only[HJ,HS, ←hle] at h2
    obtain⟨⟨h3,h4⟩,h5⟩:=h2
    have hnote:listed.getD e false=O:=by
     grind
    rw[heff, ←List.map_take, ←XU] at h4
    rw[←h4, ←T3]
    refine Ajy fun k x hk hx hS=>?_
    obtain⟨ok,hok,_⟩:=opAt k x hk
    have hex:effs.getD k false=true:=by rw[heff,HQ,I1,hk];grind
    rcases Nat.lt_trichotomy k e with h|h|h
    ·simp[h]
    ·grind
    ·have hek:e<ops.size:=by grind
     have:=hpost k hS e (Mp hreg (show ops[e]?=G ops[e] by grind) hok h (.inr ⟨h3,hex⟩))
     grind
   refine hop _ _ s hs hlim E g a w _ _ hf.wi (FS hf.wi.rep.gl hf.env _) fun g' w' u h1 h2 h3=>?_
   refine next g' _ w' s ?_ (hJ g g' h2 hj) (hf.put h1 h2 h3 o.dst)
   grind
  ·rw[Ie (CG hf.env (hw.trans hwant))]
   refine .inl ?_
   rw[hcb rfl] at hs
   rw[←hev] at hop
   obtain⟨s2,hs2,hop2⟩:=hop _ s hs (fun hb=>by
    grind[Xl])
   refine hop2 E g a w _ _ hf.wi (FS hf.wi.rep.gl hf.env _) fun g' w' u h1 h2 h3=>?_
   refine next g' _ w' s2 ?_ (hJ g g' h2 hj) (hf.put h1 h2 h3 o.dst)
   grind
  ·rw[Ie (CG hf.env (hw.trans hwant))]
   refine .inl ?_
   rw[←hfr,hnl'] at hs
   rw[←hev] at hop
   obtain⟨s2,hs2,hop2⟩:=hop _ s hs
   refine hop2 E g a w _ _ hf.wi (FS hf.wi.rep.gl hf.env _) fun g' w' u h1 h2 h3=>?_
   refine next g' _ w' s2 ?_ (hJ g g' h2 hj) (hf.put h1 h2 h3 o.dst)
   have hset:(listed.setIfInBounds i true).getD fr false=true:=by
    have:=congrFun hS' fr
    grind
   grind
theorem Acd{id:Nat}{ops:Array yy}{E:cd}{J:Gh->Prop}(hJ:∀g g':Gh,g.le g'->J g->J g'){B:Exit->Act->x5->Prop}{g:Gh}{a:Act}{w:x5}(hm:P.follows .mixedOrders=true)(sts:Bool->List St)(fr:Nat){vals:List D}{effs:List Ef}{env':List D}{j':Nat}{σ':St}(h0:(sts false)[0]?=G σ)(hj:(sts (Y (fr<ops.size)))[j']?=G σ')
  (h:GM P ops sts fr ops.toList env 0 vals effs env' j') (hreg:Ll ops effs=true) (hfi:FI E g σ env a w) (hjg:J g) (hk:∀g' a' w',J g'->FI E g' σ' env' a' w'->KQ P B k .normal a' w'):KQ P B (.code (.region id ops true)::k) .normal a w:=by
 simp only[KQ]
 obtain⟨f1,f2,f3,f4,f5⟩:=h.facts [] [] env rfl (by simp) (by rfl) (by rfl)
 simp only[nil_append,HR,I4] at f1 f2 f3
 have hreg1:vr ops (effs.map (·.1))=true:=by grind[Ll]
 have hreg2:Aid ops effs=true:=by grind[Ll]
 clear hreg
 have f1':∀i o,ops[i]?=G o->Apw P ops sts fr (AS ops.toList vals effs) effs env i o:=fun i o ho=>f1 i o (by grind)
 have f4':I (AS ops.toList vals effs)=ops.size:=by omega
 refine wp_region_any hm ?_
 have hS0:(fun i=>(Array.replicate ops.size false).getD i false)=fun _=>false:=by
  funext i
  simp only[IU,Array.getElem?_replicate]
  grind
 have he0:∀(l:List (It×Nat)) (e:List D),l.foldl (CW fun _=>false) e=e:=by
  intro l;induction l<;>grind[CW]
 have hc0:∀(l:List (It×Nat)) (c:Nat),l.foldl (D9 fun _=>false) c=c:=by
  intro l;induction l<;>grind[D9]
 have hfi':FI E g σ env a { w with drawn:=w.drawn+1 }:=⟨hfi.wi.drew,hfi.env,hfi.defers⟩
 obtain⟨es,hes⟩:∃es,es=effs.map (·.1):=⟨_,rfl⟩
 rw[←hes] at hreg1 f5
 refine Wx (sts:=sts) (fr:=fr) (items:=AS ops.toList vals effs) (effs:=es) (lims:=effs) (env0:=env) (E:=E) hJ hreg1 hreg2 hes f4' f5 f1' (fun g' a' w' hj' hx=>?_) ops.size _ a _ g σ (by simp) ?_ ?_ ?_ hjg ?_
 ·grind
 ·intro i o _ hs
  rw[hS0] at hs
  grind
 ·have:(List.range ops.size).filter (fun i=> !(Array.replicate ops.size false).getD i false)=List.range ops.size:=by
   simp_all
  grind
 ·have h0f:(Array.replicate ops.size false).getD fr false=O:=congrFun hS0 fr
  grind[VP]
 grind[YF]
theorem JI{id:Nat}{ops:Array yy}(hm:P.follows .mixedOrders=true)(sts:Bool->List St)(fr:Nat){vals:List D}{effs:List Ef}{env':List D}{j':Nat}{σ':St}(h0:(sts false)[0]?=G σ)(hj:(sts (Y (fr<ops.size)))[j']?=G σ')
  (h:GM P ops sts fr ops.toList env 0 vals effs env' j') (hreg:Ll ops effs=true) (hk:A2 C P R k env' σ'):A2 C P R (.code (.region id ops true)::k) env σ:=fun E0 E _ _ _ B hC hfi hB=>
 Acd (J:=fun _=>True) (fun _ _ _ _=>trivial) hm sts fr h0 hj h hreg hfi trivial fun g' a' w' _ hf=>hk E0 E g' a' w' B hC hf hB
end
def sub:Code->List Nat->Code
 |c,[]=>c
 |.seq a b,n::p=>if n=0 then sub a p else sub b p
 |.cond _ a b,n::p=>if n=0 then sub a p else sub b p
 |.block _ a,_::p=>sub a p
 |.loop a,_::p=>sub a p
 |.scope a,_::p=>sub a p
 |_,_::_=>.skip
def Bz:Code->Array yy
 |.region _ ops _=>ops
 |_=> #[]
def DT(C:cd->cd->Prop)(P:x7)(R:List D->St->Prop)(c:Code)(p:List Nat)(i:Nat)(k:List KI)(env:List D)(σ:St):Prop:=
 ∀(E0 E:cd) (g:Gh) (a:Act) (w:x5) (B:Exit->Act->x5->Prop),C E0 E->FI E g σ env a w->
  (∀g' env' σ' a' w',FI E0 g' σ' env' a' w'->R env' σ'->B .ret a' w'/\B .normal a' w')->wpList P (Bz (sub c p)) (KQ P B k) ((Bz (sub c p)).toList.drop i) a w
def Cv(env:List D)(σ:St)(env':List D)(σ':St):Prop:=∀(E:cd) (g:Gh) (a:Act) (w:x5),FI E g σ env a w->∃g',FI E g' σ' env' a w
section
variable {C : cd -> cd -> Prop} {P : x7} {R : List D -> St -> Prop} {c : Code} {p : List Nat} {k : List KI} {env env' : List D} {σ σ' : St} {i : Nat} {o : yy} {d : D}
theorem F6(q r:List Nat)(h:sub c p=.seq (sub c q) (sub c r))(hk:A2 C P R (.code (sub c q):: .code (sub c r)::k) env σ):A2 C P R (.code (sub c p)::k) env σ:=by grind[ZW]
theorem Wi(q:List Nat)(id:Nat)(h:sub c p=.block id (sub c q))(hk:A2 C P R (.code (sub c q):: .blk id::k) env σ):A2 C P R (.code (sub c p)::k) env σ:=by grind[Q9]
theorem AjD(q:List Nat)(h:sub c p=.loop (sub c q))(hk:A2 C P R (.lp (sub c q)::k) env σ):A2 C P R (.code (sub c p)::k) env σ:=by grind[fd]
theorem TB(q r:List Nat){t:x8}{b:Bool}(h:sub c p=.cond t (sub c q) (sub c r))(hc:gr env t=.v (.bool b))(ht:b=J->A2 C P R (.code (sub c q)::k) env σ)(hf:b=O->A2 C P R (.code (sub c r)::k) env σ):
  A2 C P R (.code (sub c p)::k) env σ:=by grind[UI]
theorem TA(h:sub c p=.skip)(hk:A2 C P R k env σ):A2 C P R (.code (sub c p)::k) env σ:=by grind[UE]
theorem AjE{id:Nat}{k':List KI}(h:sub c p=.exit id)(hp:HA id k=G k')(hk:A2 C P R k' env σ):A2 C P R (.code (sub c p)::k) env σ:=by grind[UH]
theorem AjC(L:N1 C)(h:sub c p=.ret)(hk:R env σ):A2 C P R (.code (sub c p)::k) env σ:=by grind[UF]
theorem Anm(h:sub c p=.ret)(hk:R env σ):v8 P R (.code (sub c p)::k) env σ:=AjC Ae9 h hk
theorem Ee{id:Nat}(h:sub c p=.region id (Bz (sub c p)) false)(hk:DT C P R c p 0 k env σ):A2 C P R (.code (sub c p)::k) env σ:=by
 rw[h]
 intro E0 E g a w B hC hfi hB
 simp only[KQ]
 exact wp_region_list (by have:=hk E0 E g a w B hC hfi hB;grind)
theorem Mh(h:Cv env σ env' σ')(hk:A2 C P R k env' σ'):A2 C P R k env σ:=fun E0 E g a w B hC hf hB=>by
 obtain⟨g',hf'⟩:=h E g a w hf
 exact hk E0 E g' a w B hC hf' hB
theorem Afa(ho:(Bz (sub c p))[i]?=G o):((Bz (sub c p)).toList.drop i)=o::(Bz (sub c p)).toList.drop (i+1):=by
 grind[drop_eq_getElem_cons]
theorem Eg(t:Option Tmp)(ho:(Bz (sub c p))[i]?=G o){ds:List D}(hg:BV env (Bz (sub c p)) o=G true)(ht:o.dst=t)(hds:EH env o=ds)(h:Ah P o ds σ d σ')(he:B5 env t d=env')(hk:DT C P R c p (i+1) k env' σ'):DT C P R c p i k env σ:=by
 subst ht he hds
 intro E0 E g a w B hC hf hB
 rw[Afa ho]
 unfold wpList
 rw[Ie (CG hf.env hg)]
 refine .inl (h E g a w _ _ hf.wi (FS hf.wi.rep.gl hf.env _) fun g' w' u hw' hg' hd=>?_)
 exact hk E0 E g' _ _ B hC (hf.put hw' hg' hd o.dst) hB
theorem AhV{σ2:St}(t:Option Tmp)(ho:(Bz (sub c p))[i]?=G o){ds:List D}(hg:BV env (Bz (sub c p)) o=G true)(ht:o.dst=t)(hds:EH env o=ds)(h:Ah P o ds σ d σ')(he:B5 env t d=env')(hσ:σ'=σ2)(hk:DT C P R c p (i+1) k env' σ2):DT C P R c p i k env σ:=by
 grind[Eg]
theorem App(b:Bool)(s s1 t:Nat){x y:x8}(ho:(Bz (sub c p))[i]?=G o)(hg:BV env (Bz (sub c p)) o=G true)(ht:o.dst=G t)(hop:o.op=.pick (.tmp s) x y)(hs:env[s]?=G (.v (.bool b)))(hx:(if b then x else y)=.tmp s1)(h1:env[s1]?=G d)(he:env.set t d=env')
  (hk:DT C P R c p (i+1) k env' σ):DT C P R c p i k env σ:=by
 refine Eg (G t) ho hg ht (ds:=[.v (.bool b),gr env x,gr env y]) ?_ (SX hop) ?_ hk
 all_goals grind[EH,Op.operands,gr,B5]
theorem VI{s:Nat}(hs:env[s]?=G d):gr env (.tmp s)=d:=by grind[gr]
theorem Ez(s t:Nat)(ho:(Bz (sub c p))[i]?=G o)(hg:BV env (Bz (sub c p)) o=G true)(ht:o.dst=G t)(hop:o.op=.move (.tmp s)∨o.op=.assign (.tmp s))(hs:env[s]?=G d)(he:env.set t d=env')(hk:DT C P R c p (i+1) k env' σ):DT C P R c p i k env σ:=by
 have hds:EH env o=[d]:=by grind[EH,Op.operands,gr]
 refine Eg (G t) ho hg ht hds ?_ he hk
 grind[Pw,JN]
theorem Apq{u:yz}(t:Nat)(ho:(Bz (sub c p))[i]?=G o)(hg:BV env (Bz (sub c p)) o=G true)(ht:o.dst=G t)(hop:o.op=.move (.const u)∨o.op=.assign (.const u))(hs:Ou u=d)(he:env.set t d=env')(hk:DT C P R c p (i+1) k env' σ):DT C P R c p i k env σ:=by
 have hds:EH env o=[d]:=by grind[EH,Op.operands,gr]
 refine Eg (G t) ho hg ht hds ?_ he hk
 grind[Pw,JN]
theorem Lp(h:(Bz (sub c p)).size=i)(hk:A2 C P R k env σ):DT C P R c p i k env σ:=by
 intro E0 E g a w B hC hf hB
 rw[Ic (by simp[h])]
 exact hk E0 E g a w B hC hf hB
theorem AgR(t:Nat){b:Bool}(hs:env[t]?=G (.v (.bool b)))(ht:b=J->∀env',env.set t (.v (.bool true))=env'->DT C P R c p i k env' σ)(hf:b=O->∀env',env.set t (.v (.bool false))=env'->DT C P R c p i k env' σ):DT C P R c p i k env σ:=by
 have key:∀b',b=b'->env.set t (.v (.bool b'))=env:=by
  intro b' e;subst e
  apply ext_getElem?
  grind
 cases b<;>grind
inductive Wk:List D->List D->Prop
 |nil:Wk [] []
 |keep {d:D} {l l':List D} (h:Wk l l'):Wk (d::l) (d::l')
 |drop {d:D} {l l':List D} (h:Wk l l'):Wk (d::l) (.undef::l')
theorem Wk.ok:∀{l l':List D},Wk l l'->I l'=I l/\∀(i:Nat) (d':D),l'[i]?=G d'->d'=.undef∨l[i]?=G d'
 |_,_,.nil=>⟨rfl,fun i d' h=>by grind⟩
 |_,_,.keep h=>by
  obtain⟨h1,h2⟩:=h.ok
  grind
 |_,_,.drop h=>by
  obtain⟨h1,h2⟩:=h.ok
  grind
theorem Aht(hw:Wk env env')(h:A2 C P R k env' σ):A2 C P R k env σ:=Hx hw.ok.1 hw.ok.2 h
def li(P:x7)(c:Code)(p:List Nat)(sts:Bool->List St)(fr:Nat)(i:Nat)(env:List D)(j:Nat)(effs:List Ef)(K:List D->Nat->List Ef->Prop):Prop:=
 ∃vals effs' env' j',GM P (Bz (sub c p)) sts fr ((Bz (sub c p)).toList.drop i) env j vals effs' env' j'/\K env' j' (effs++effs')
theorem AmT{sts:Bool->List St}{fr:Nat}{j:Nat}{effs:List Ef}{K:List D->Nat->List Ef->Prop}(h:(Bz (sub c p)).size=i)(hk:K env j effs):li P c p sts fr i env j effs K:=by
 refine⟨[],[],env,j,?_,by grind⟩
 rw[Ic (by simp[h])]
 exact .nil
theorem de(ho:(Bz (sub c p))[i]?=G o):((Bz (sub c p)).toList.drop i)=o::(Bz (sub c p)).toList.drop (i+1):=by
 grind[drop_eq_getElem_cons]
theorem R8(t:Option Tmp){sts:Bool->List St}{fr:Nat}{j:Nat}{effs:List Ef}{K:List D->Nat->List Ef->Prop}(ho:(Bz (sub c p))[i]?=G o)(hg:BV env (Bz (sub c p)) o=G true){ds:List D}(hds:EH env o=ds)
  (ht:o.dst=t) (h:∀b,∀s∈sts b,Ah P o ds s d s) (he:B5 env t d=env') (hk:li P c p sts fr (i+1) env' j (effs++[(false,none)]) K) (hne:i≠fr:=by decide):li P c p sts fr i env j effs K:=by
 obtain⟨vals,effs',env2,j',h1,h2⟩:=hk
 subst ht hds he
 refine⟨d::vals,(false,none)::effs',env2,j',?_,by grind⟩
 rw[de ho]
 exact .quiet (by grind) hg h h1
theorem PK(t:Option Tmp){sts:List St}{fr:Nat}{j:Nat}{effs:List Ef}{K:List D->Nat->List Ef->Prop}(ho:(Bz (sub c p))[i]?=G o)(hg:BV env (Bz (sub c p)) o=G true){ds:List D}(hds:EH env o=ds)
  (ht:o.dst=t) (h:∀s∈sts,Ah P o ds s d s) (he:B5 env t d=env') (hk:li P c p (fun _=>sts) fr (i+1) env' j (effs++[(false,none)]) K) (hne:i≠fr:=by decide):li P c p (fun _=>sts) fr i env j effs K:=
 R8 t ho hg hds ht (fun _=>h) he hk hne
def DV(LF LT:List St):Bool->List St
 |false=>LF
 |true=>LT
theorem AmU(t:Option Tmp){sts:List St}{fr:Nat}{j:Nat}{effs:List Ef}{K:List D->Nat->List Ef->Prop}(ho:(Bz (sub c p))[i]?=G o)(hg:BV env (Bz (sub c p)) o=G true){ds:List D}(hds:EH env o=ds){s s':St}(hs:sts[j]?=G s)(hs':sts[j+1]?=G s')
  (ht:o.dst=t) (h:Ah P o ds s d s') (he:B5 env t d=env') (hk:li P c p (fun _=>sts) fr (i+1) env' (j+1) (effs++[(true,none)]) K) (hne:i≠fr:=by decide):li P c p (fun _=>sts) fr i env j effs K:=by
 obtain⟨vals,effs',env2,j',h1,h2⟩:=hk
 subst ht hds he
 refine⟨d::vals,(true,none)::effs',env2,j',?_,by grind⟩
 rw[de ho]
 exact .eff (by grind) hg (fun b x hx _=>⟨s',hs',by grind⟩) h1
theorem XL{sts:Bool->List St}{fr:Nat}{j:Nat}{effs:List Ef}{K:List D->Nat->List Ef->Prop}(s t:Nat)(ho:(Bz (sub c p))[i]?=G o)(hg:BV env (Bz (sub c p)) o=G true)(ht:o.dst=G t)(hop:o.op=.move (.tmp s)∨o.op=.assign (.tmp s))(hs:env[s]?=G d)
  (he:env.set t d=env') (hk:li P c p sts fr (i+1) env' j (effs++[(false,none)]) K) (hne:i≠fr:=by decide):li P c p sts fr i env j effs K:=by
 have hds:EH env o=[d]:=by grind[EH,Op.operands,gr]
 refine R8 (G t) ho hg hds ht (fun _ _ _=>?_) he hk hne
 grind[Pw,JN]
theorem AjF{id:Nat}(hm:P.follows .mixedOrders=J)(h:sub c p=.region id (Bz (sub c p)) true)(sts:List St)(h0:sts[0]?=G σ)
  (hk:li P c p (fun _=>sts) 1000000 0 env 0 [] (fun env' j' effs=>Ll (Bz (sub c p)) effs=J/\∃σ',sts[j']?=G σ'/\A2 C P R k env' σ')):A2 C P R (.code (sub c p)::k) env σ:=by
 obtain⟨vals,effs,env',j',h1,h2,σ',h3,h4⟩:=hk
 grind[JI]
theorem Ai3{f:yx}{fn:yw}{ds:List D}{σ σ':St}{d:D}(c:Code)(hf:P.funcs[f]?=G fn)(hb:fn.body=G c)(hn:(fn.name=="runtime.NumGoroutine")=O)(hH:I σ.H<=I σ'.H)
  (env:List D) (he:ds++replicate (fn.ntmps-I ds) .undef=env) (h:v8 P (fun env σ1=>AA P fn env σ1 d σ') [.code (sub c [])] env σ):Aa P f ds σ d σ':=by
 grind[SD,sub]
end
end Go.Dv

namespace Go.Proofs.YtkkplhjidondkaaGreat
open Go.Dv
open Go.IntKind (u64)
open Go.IntKind renaming wrap → yu, i64 → yt
open List renaming length → I, map → U, drop → W
open Option renaming some → G
open Bool renaming true → J, false → O
open Decidable renaming decide → Y
open Int renaming toNat → Z
open Go.Dv.V renaming list → ai, str → ae, agg → ab, int → aa, ref → bz, fn → bw, nils → bv, bool → bu
open Go.Dv.D renaming v → bt, acc → br, ptr → bq, arr → bo, gro → bm, tup → bk, undef → bj, dagg → bi
open Go.Dv.St renaming mk → bh
open Go.Dv.KI renaming blk → bf
open _root_.ByteArray renaming mk → bc
open Go renaming Operand → x8, Program → x7, TypeId → x6, World → x5, Value → yz, Oper → yy, FuncId → yx, Func → yw, IntKind → yv
noncomputable abbrev PP:x7:= Tryz.prog
theorem mixed:PP.follows .mixedOrders=J:=by rfl
end Go.Proofs.YtkkplhjidondkaaGreat
