/-
  A part of the proof.
-/
import Derived.Calls
import Derived.Laws.AppendOwn
import Derived.Laws.MakeOwn
import Derived.Laws.Slices
import Derived.Laws.Rows
import Derived.Tactics
import Derived.Laws.Strings
import Derived.Great.BuildSlice
import Derived.Lib.Strings
import Derived.Orders
import Derived.Test.YtkkplhjidondkaaGreatProg
import Derived.KernelRfl
namespace Go
abbrev HH:=@List.length_map
abbrev HI:=@List.getElem?_eq_getElem
abbrev HJ:=@Bool.and_eq_true
abbrev HK:=@decide_eq_true
abbrev HL:=@List.getElem?_eq_some_iff
abbrev HM:=@decide_eq_false
abbrev HN:=@List.length_cons
abbrev HO:=@List.mem_of_getElem?
abbrev HP:=@Nat.le_refl
abbrev HQ:=@List.getD_eq_getElem?_getD
abbrev HR:=@List.length_nil
abbrev HS:=@decide_eq_true_eq
abbrev HT:=@of_decide_eq_true
abbrev HU:=@eq_false_of_ne_true
abbrev HV:=@List.cons.injEq
abbrev HW:=@List.length_append
abbrev HX:=@List.drop_eq_getElem_cons
abbrev HY:=@List.mem_singleton
abbrev HZ:=@if_neg
abbrev Ia:=@Bool.and_eq_true_iff
abbrev Ib:=@List.getElem?_append_right
abbrev Ic:=@List.drop_of_length_le
abbrev Ie:=@if_pos
abbrev Ig:=@List.getElem?_append_left
abbrev Ih:=@congrArg
abbrev Ii:=@Nat.eq_of_beq_eq_true
abbrev Ij:=@Option.some.inj
abbrev Ik:=@List.map_cons
abbrev Il:=@Int.le_refl
abbrev Im:=@List.take_of_length_le
abbrev Io:=@Nat.le_of_ble_eq_true
abbrev Ip:=@List.length_take
abbrev Iq:=@Bool.false_and
abbrev Ir:=@Option.some.injEq
abbrev Is:=@Bool.true_and
abbrev Iu:=@Nat.zero_le
abbrev Iv:=@beq_iff_eq
abbrev Iw:=@Array.length_toList
abbrev Ix:=@and_true
abbrev Iy:=@beq_eq_false_iff_ne
abbrev Iz:=@List.mem_cons
abbrev I1:=@List.getElem?_map
abbrev I2:=@List.mem_map
abbrev I3:=@of_decide_eq_false
abbrev I4:=@Nat.zero_add
abbrev I5:=@List.all_eq_true
abbrev I6:=@List.mem_append
abbrev I7:=@List.getElem?_eq_none
abbrev I8:=@List.append_nil
abbrev I9:=@List.mem_of_mem_drop
abbrev IA:=@Bool.not_eq_true'
abbrev IB:=@And.intro
abbrev IC:=@List.replicate_succ
abbrev ID:=@Array.getElem?_eq_some_iff
abbrev IE:=@Nat.le_trans
abbrev IF:=@List.map_nil
abbrev IG:=@Nat.add_zero
abbrev II:=@Int.min_def
abbrev IJ:=@Option.map_some
abbrev IK:=@List.getElem?_cons_zero
abbrev IL:=@Array.ext'
abbrev IM:=@List.getElem?_toArray
abbrev IN:=@List.mem_or_eq_of_mem_set
abbrev IP:=@List.length_drop
abbrev IQ:=@List.append_assoc
abbrev IR:=@Int.toNat_natCast
abbrev IT:=@if_true
abbrev IU:=@Array.getD_eq_getD_getElem?
abbrev IV:=@Nat.add_mul
abbrev IW:=@List.take_add_one
abbrev IX:=@List.foldl_cons
abbrev IY:=@List.size_toArray
abbrev IZ:=@List.map_append
abbrev Ji:=@List.mem_of_mem_take
abbrev Jj:=@List.eq_nil_of_length_eq_zero
abbrev Jk:=@decide_eq_false_iff_not
abbrev Jm:=@Nat.lt_of_lt_of_le
abbrev Jn:=@List.set_cons_succ
abbrev Jo:=@List.getElem?_take
abbrev Jp:=@List.flatten_cons
abbrev Jq:=@Option.getD_some
abbrev Jr:=@List.not_mem_nil
abbrev Js:=@List.take_append_of_le_length
abbrev Jt:=@List.drop_zero
abbrev Ju:=@Array.getElem?_toList
abbrev Jv:=@Bool.and_false
abbrev Jw:=@Option.map_none
abbrev Jx:=@True.intro
abbrev Jy:=@Bool.false_eq_true
abbrev Jz:=@List.cons_append
abbrev J0:=@List.getElem?_cons_succ
end Go
namespace Go.Dv
open Go.IntKind (u64)
open Go.IntKind renaming wrap → yu, i64 → yt
open List renaming length → I, map → U, drop → W
open Option renaming some → G
open Bool renaming true → J, false → O
open Decidable renaming decide → Y
open Int renaming toNat → Z
open _root_.ByteArray renaming mk → bc
open Go renaming Operand → x8, Program → x7, TypeId → x6, World → x5, Value → yz, Oper → yy, FuncId → yx, Func → yw, IntKind → yv
inductive V where
 |int (k:yv) (n:Int)
 |bool (b:Bool)
 |str (s:List UInt8)
 |list (xs:List V)
 |agg (cs:List V)
 |ref (x:V)
 |fn (f:yx) (fs cs:List V)
 |nilfn
 |nilp
 |nils
 |ifc (t:x6) (x:V)
 deriving Inhabited
def V.isAgg:V->Bool
 |.agg _=>true
 |_=>false
def V.size:V->Nat
 |.agg cs=>I cs
 |_=>1
abbrev c6:=Nat->Nat->Option yz
def fe(M:c6)(b off:Nat)(ws:List yz):Prop:=∀j v,ws[j]?=G v->M b (off+j)=G v
def X1:V->List yz->yz
 |.agg _,ws=>.agg ws.toArray
 |_,ws=>ws.headD (.tuple #[])
mutual
def repC(M:c6):V->List yz->Prop
 |.int k n,ws=>ws=[.int k n]
 |.bool b,ws=>ws=[.bool b]
 |.str s,ws=>ws=[.string ⟨s.toArray⟩]
 |.list xs,ws=>∃a cap,ws=[.slice a (I xs) cap]/\xs.length<=cap/\(xs=[]∨∃b off sz us,a=G ⟨b,off,none⟩/\0<sz/\fe M b off us/\repE M sz xs us)
 |.agg cs,ws=>repA M cs ws
 |.ref x,ws=>∃b off us,ws=[.pointer (G ⟨b,off,none⟩)]/\fe M b off us/\repC M x us
 |.fn f fs cs,ws=>∃us vs,ws=[.func (.func f) us.toArray vs.toArray]/\GM M fs us/\GM M cs vs
 |.nilfn,ws=>ws=[.nilFunc]
 |.nilp,ws=>ws=[.pointer none]
 |.nils,ws=>ws=[.slice none 0 0]
 |.ifc t x,ws=>∃us,ws=[.iface t (X1 x us)]/\repC M x us
def repE(M:c6)(sz:Nat):List V->List yz->Prop
 |[],us=>us=[]
 |x::xs,us=>∃u1 u2,us=u1++u2/\u1.length=sz/\repC M x u1/\repE M sz xs u2
def repA(M:c6):List V->List yz->Prop
 |[],us=>us=[]
 |c::cs,us=>∃u us',us=u::us'/\c.isAgg=O/\repC M c [u]/\repA M cs us'
def GM(M:c6):List V->List yz->Prop
 |[],us=>us=[]
 |x::xs,us=>∃u us' ws,us=u::us'/\repC M x ws/\u=X1 x ws/\GM M xs us'
end
def repV(M:c6)(x:V)(u:yz):Prop:=∃ws,repC M x ws/\u=X1 x ws
def c6.le(M M':c6):Prop:=∀b o v,M b o=G v->M' b o=G v
theorem c6.le_refl(M:c6):M.le M:=fun _ _ _ h=>h
theorem c6.le_trans{M M' M'':c6}(h:M.le M')(h':M'.le M''):M.le M'':=by grind[c6.le]
theorem fe.mono{M M':c6}{b off:Nat}{ws:List yz}(hm:M.le M')(h:fe M b off ws):fe M' b off ws:=fun j v e=>hm _ _ _ (h j v e)
mutual
theorem repC.mono{M M':c6}(hm:M.le M'):∀(x:V) (ws:List yz),repC M x ws->repC M' x ws
 |.int k n,ws,h=>h
 |.bool b,ws,h=>h
 |.str s,ws,h=>h
 |.list xs,ws,h=>by
  obtain⟨a,cap,e,hc,h⟩:=h
  refine⟨a,cap,e,hc,?_⟩
  rcases h with h|⟨b,off,sz,us,ha,hs,hi,he⟩
  ·exact .inl h
  ·exact .inr ⟨b,off,sz,us,ha,hs,hi.mono hm,repE.mono hm sz xs us he⟩
 |.agg cs,ws,h=>by exact repA.mono hm cs ws h
 |.ref x,ws,h=>by
  obtain⟨b,off,us,e,hi,hx⟩:=h
  exact⟨b,off,us,e,hi.mono hm,repC.mono hm x us hx⟩
 |.fn f fs cs,ws,h=>by
  obtain⟨us,vs,e,h1,h2⟩:=h
  exact⟨us,vs,e,GM.mono hm fs us h1,GM.mono hm cs vs h2⟩
 |.nilfn,ws,h=>h
 |.nilp,ws,h=>h
 |.nils,ws,h=>h
 |.ifc t x,ws,h=>by
  obtain⟨us,e,hx⟩:=h
  exact⟨us,e,repC.mono hm x us hx⟩
theorem repE.mono{M M':c6}(hm:M.le M')(sz:Nat):∀(xs:List V) (us:List yz),repE M sz xs us->repE M' sz xs us
 |[],us,h=>h
 |x::xs,us,h=>by
  obtain⟨u1,u2,e,hl,h1,h2⟩:=h
  exact⟨u1,u2,e,hl,repC.mono hm x u1 h1,repE.mono hm sz xs u2 h2⟩
theorem repA.mono{M M':c6}(hm:M.le M'):∀(cs:List V) (us:List yz),repA M cs us->repA M' cs us
 |[],us,h=>h
 |c::cs,us,h=>by
  obtain⟨u,us',e,ha,h1,h2⟩:=h
  exact⟨u,us',e,ha,repC.mono hm c [u] h1,repA.mono hm cs us' h2⟩
theorem GM.mono{M M':c6}(hm:M.le M'):∀(xs:List V) (us:List yz),GM M xs us->GM M' xs us
 |[],us,h=>h
 |x::xs,us,h=>by
  obtain⟨u,us',ws,e,h1,h2,h3⟩:=h
  exact⟨u,us',ws,e,repC.mono hm x ws h1,h2,GM.mono hm xs us' h3⟩
end
theorem repV.mono{M M':c6}(hm:M.le M'){x:V}{u:yz}(h:repV M x u):repV M' x u:=
 by grind[repC.mono,repV]
theorem DY{M:c6}:∀{cs:List V} {us:List yz},repA M cs us->I us=I cs
 |[],us,h=>by grind[repA]
 |c::cs,us,h=>by
  obtain⟨u,us',rfl,_,_,h2⟩:=h
  simp[DY h2]
theorem GB{M:c6}:∀{x:V} {ws:List yz},repC M x ws->I ws=x.size
 |.int k n,ws,h=>by grind[repC,V.size]
 |.bool b,ws,h=>by grind[repC,V.size]
 |.str s,ws,h=>by grind[repC,V.size]
 |.list xs,ws,h=>by grind[repC,V.size]
 |.agg cs,ws,h=>by grind[repC,V.size,DY]
 |.ref x,ws,h=>by grind[repC,V.size]
 |.fn f fs cs,ws,h=>by grind[repC,V.size]
 |.nilfn,ws,h=>by grind[repC,V.size]
 |.nilp,ws,h=>by grind[repC,V.size]
 |.nils,ws,h=>by grind[repC,V.size]
 |.ifc t x,ws,h=>by grind[repC,V.size]
theorem Dc{M:c6}{x:V}{ws:List yz}(hx:x.isAgg=O)(h:repC M x ws):∃u,ws=[u]/\X1 x ws=u/\u.oneCell'=J:=by
 cases x<;>grind[repC,X1,V.isAgg,Value.oneCell']
theorem BJ{M:c6}{x:V}{u:yz}(hx:x.isAgg=O):repV M x u↔repC M x [u]:=by
 grind[Dc,repV]
@[simp] theorem AC {M:c6} {k:yv} {n:Int} {u:yz}:repV M (.int k n) u↔u=.int k n:=by rw[BJ rfl];simp[repC]
@[simp] theorem DW {M:c6} {b:Bool} {u:yz}:repV M (.bool b) u↔u=.bool b:=by rw[BJ rfl];simp[repC]
@[simp] theorem Dt {M:c6} {s:List UInt8} {u:yz}:repV M (.str s) u↔u=.string ⟨s.toArray⟩:=by rw[BJ rfl];simp[repC]
@[simp] theorem Ak3 {M:c6} {u:yz}:repV M .nilfn u↔u=.nilFunc:=by rw[BJ rfl];simp[repC]
@[simp] theorem CH {M:c6} {u:yz}:repV M .nils u↔u=.slice none 0 0:=by rw[BJ rfl];simp[repC]
@[simp] theorem AlD {M:c6} {u:yz}:repV M .nilp u↔u=.pointer none:=by rw[BJ rfl];simp[repC]
theorem B4{M:c6}{xs:List V}{u:yz}:repV M (.list xs) u↔∃a cap,u=.slice a (I xs) cap/\xs.length<=cap/\(xs=[]∨∃b off sz us,a=G ⟨b,off,none⟩/\0<sz/\fe M b off us/\repE M sz xs us):=by
 rw[BJ rfl];simp[repC]
theorem DD(M:c6):repV M (.list []) (.slice none 0 0):=by grind[B4]
theorem DB{M:c6}{x:V}{u:yz}:repV M (.ref x) u↔∃b off us,u=.pointer (G ⟨b,off,none⟩)/\fe M b off us/\repC M x us:=by rw[BJ rfl];simp[repC]
theorem H8{M:c6}{f:yx}{fs cs:List V}{u:yz}:repV M (.fn f fs cs) u↔∃us vs,u=.func (.func f) us.toArray vs.toArray/\GM M fs us/\GM M cs vs:=by rw[BJ rfl];simp[repC]
theorem Db{M:c6}{cs:List V}{u:yz}:repV M (.agg cs) u↔∃ws,repA M cs ws/\u=.agg ws.toArray:=by rfl
theorem D3{M:c6}{x:V}{u:yz}(hx:x.isAgg=O)(h:repV M x u):u.oneCell'=J:=by
 obtain⟨ws,h,e⟩:=h
 grind[Dc]
theorem KB{M:c6}{x:V}{u:yz}(h:repV M x u):repC M x u.cells.toList:=by
 obtain⟨ws,h,e⟩:=h
 cases hx:x.isAgg with
 |false=>
  obtain⟨u',e1,e2,h3⟩:=Dc hx h
  have:u'.cells= #[u']:=by cases u'<;>simp_all [Value.cells,Value.oneCell']
  grind
 |true=>
  cases x<;>grind[X1,Value.cells,repC]
theorem HB{M:c6}:∀{cs:List V} {us:List yz},repA M cs us->∀u∈us,u.oneCell'=J
 |[],us,h=>by grind[repA]
 |c::cs,us,h=>by
  obtain⟨u,us',rfl,ha,h1,h2⟩:=h
  intro u0 hu
  rcases Iz.1 hu with rfl|hu
  ·obtain⟨u',e1,_,h3⟩:=Dc ha h1
   have:u0=u':=by simpa using e1
   rw[this];exact h3
  ·exact HB h2 u0 hu
theorem Lj{M:c6}{x:V}{us:List yz}(h:repC M x us):∀u∈us,u.oneCell'=J:=by
 cases hx:x.isAgg with
 |false=>
  grind[Dc]
 |true=>
  cases x<;>grind[repC,HB,Value.oneCell']
inductive D where
 |v (x:V)
 |acc (k:Nat) (xs:List V)
 |ptr (o off:Nat)
 |arr (o off len:Nat)
 |gro (o len sz:Nat)
 |raw (x:yz)
 |rv (x:V) (u:yz)
 |dagg (cs:List D)
 |dfn (f:yx) (fs cs:List D)
 |tup (ds:List D)
 |err
 |undef
 deriving Inhabited
structure Gh where
 M:c6
 β:Nat->Nat
 n:Nat
 ι:Nat->Nat->Option yz
 κ:Nat->Nat
mutual
def Ag(g:Gh):D->yz->Prop
 |.v x,u=>repV g.M x u
 |.acc k xs,u=>repV g.M (.list xs) u/\g.ι k (I xs)=G u
 |.ptr o off,u=>o<g.n/\u=.pointer (G ⟨g.β o,off,none⟩)
 |.arr o off len,u=>o<g.n/\∃cap,len<=cap/\u=.slice (G ⟨g.β o,off,none⟩) len cap
 |.gro o len sz,u=>o<g.n/\∃cap,len<=cap/\cap*sz=g.κ o/\u=.slice (G ⟨g.β o,0,none⟩) len cap
 |.raw x,u=>u=x
 |.rv x u0,u=>u=u0/\repV g.M x u0
 |.dagg cs,u=>∃us,u=.agg us.toArray/\Af g cs us
 |.dfn f fs cs,u=>∃us vs,u=.func (.func f) us.toArray vs.toArray/\Af g fs us/\Af g cs vs
 |.tup ds,u=>∃us,u=.tuple us.toArray/\Af g ds us
 |.err,u=>∃t p,u=.iface t p
 |.undef,_=>True
def Af(g:Gh):List D->List yz->Prop
 |[],us=>us=[]
 |d::ds,us=>∃u us',us=u::us'/\Ag g d u/\Af g ds us'
end
structure Gh.le(g g':Gh):Prop where
 M:g.M.le g'.M
 n:g.n<=g'.n
 β:∀o,o<g.n->g'.β o=g.β o
 ι:∀k m u,g.ι k m=G u->g'.ι k m=G u
 κ:∀o,o<g.n->g'.κ o=g.κ o
theorem Gh.le_refl(g:Gh):g.le g:=⟨g.M.le_refl,HP _,fun _ _=>rfl,fun _ _ _ h=>h,fun _ _=>rfl⟩
theorem Gh.le_trans{g g' g'':Gh}(h:g.le g')(h':g'.le g''):g.le g'':=
 ⟨c6.le_trans h.M h'.M,IE h.n h'.n,fun o ho=>(h'.β o (Jm ho h.n)).trans (h.β o ho),fun k m u e=>h'.ι k m u (h.ι k m u e),fun o ho=>(h'.κ o (Jm ho h.n)).trans (h.κ o ho)⟩
mutual
theorem Ag.mono{g g':Gh}(hg:g.le g'):∀(d:D) (u:yz),Ag g d u->Ag g' d u
 |.v x,u,h=>by simp only[Ag] at h⊢;exact h.mono hg.M
 |.acc k xs,u,h=>by exact⟨h.1.mono hg.M,hg.ι _ _ _ h.2⟩
 |.ptr o off,u,h=>by exact⟨Jm h.1 hg.n,by rw[hg.β o h.1];exact h.2⟩
 |.arr o off len,u,h=>by exact⟨Jm h.1 hg.n,by rw[hg.β o h.1];exact h.2⟩
 |.gro o len sz,u,h=>by exact⟨Jm h.1 hg.n,by rw[hg.β o h.1,hg.κ o h.1];exact h.2⟩
 |.raw x,u,h=>by grind[Ag]
 |.rv x u0,u,h=>by exact⟨h.1,h.2.mono hg.M⟩
 |.dagg cs,u,h=>by
  obtain⟨us,e,h1⟩:=h
  exact⟨us,e,Af.mono hg cs us h1⟩
 |.dfn f fs cs,u,h=>by
  obtain⟨us,vs,e,h1,h2⟩:=h
  exact⟨us,vs,e,Af.mono hg fs us h1,Af.mono hg cs vs h2⟩
 |.tup ds,u,h=>by
  obtain⟨us,e,h1⟩:=h
  exact⟨us,e,Af.mono hg ds us h1⟩
 |.err,u,h=>by grind[Ag]
 |.undef,u,_=>by grind[Ag]
theorem Af.mono{g g':Gh}(hg:g.le g'):∀(ds:List D) (us:List yz),Af g ds us->Af g' ds us
 |[],us,h=>by grind[Af]
 |d::ds,us,h=>by
  obtain⟨u,us',e,h1,h2⟩:=h
  exact⟨u,us',e,Ag.mono hg d u h1,Af.mono hg ds us' h2⟩
end
theorem A1{g:Gh}:∀{ds:List D} {us:List yz},Af g ds us->I us=I ds
 |[],us,h=>by grind[Af]
 |d::ds,us,h=>by
  obtain⟨u,us',rfl,_,h2⟩:=h
  simp[A1 h2]
theorem BA{g:Gh}:∀{ds:List D} {us:List yz},Af g ds us->∀{i:Nat} {d:D},ds[i]?=G d->∃u,us[i]?=G u/\Ag g d u
 |[],us,h,i,d,hd=>by grind
 |d::ds,us,h,i,d',hd=>by
  obtain⟨u,us',rfl,h1,h2⟩:=h
  cases i with
  |zero=>simp at hd;subst hd;exact⟨u,by simp,h1⟩
  |succ i=>simp at hd;obtain⟨u',e,h3⟩:=BA h2 hd;exact⟨u',by simpa using e,h3⟩
theorem CI{g:Gh}:∀{ds:List D} {us:List yz},Af g ds us->∀(i:Nat) {d:D} {u:yz},Ag g d u->Af g (ds.set i d) (us.set i u)
 |[],us,h,i,d,u,_=>by grind[Af]
 |d0::ds,us,h,i,d,u,hd=>by
  obtain⟨u0,us',rfl,h1,h2⟩:=h
  cases i with
  |zero=>simp only[List.set_cons_zero,Af];exact⟨u,us',rfl,hd,h2⟩
  |succ i=>simp only[Jn,Af];exact⟨u0,_,rfl,h1,CI h2 i hd⟩
theorem Aw{g:Gh}:∀{ds ds':List D} {us us':List yz},Af g ds us->Af g ds' us'->Af g (ds++ds') (us++us')
 |[],ds',us,us',h,h'=>by grind[Af]
 |d::ds,ds',us,us',h,h'=>by
  obtain⟨u,us1,rfl,h1,h2⟩:=h
  exact⟨u,_,rfl,h1,Aw h2 h'⟩
theorem AbG{α:Type}{l r:List α}{i:Nat}{x:α}(h:l[i]?=G x):(l++r)[i]?=G x:=by
 grind
theorem H9{g:Gh}:∀{ds:List D} {us:List yz},Af g ds us->∀{ds':List D},I ds'=I ds->(∀(i:Nat) (d':D),ds'[i]?=G d'->d'=.undef∨ds[i]?=G d')->Af g ds' us
 |[],us,h,ds',hl,_=>by
  grind
 |d::ds,us,h,[],hl,_=>by grind
 |d::ds,us,h,d'::ds',hl,hw=>by
  obtain⟨u,us',rfl,h1,h2⟩:=h
  refine⟨u,us',rfl,?_,H9 h2 (by simpa using hl) (fun i x hx=>by have:=hw (i+1) x (by simpa using hx);simpa using this)⟩
  rcases hw 0 d' (by simp) with rfl|e
  all_goals grind[Ag]
end Go.Dv

namespace Go.Dv
open List (replicate)
open Go.IntKind (u64)
open Go.IntKind renaming wrap → yu, i64 → yt
open List renaming length → I, map → U, drop → W
open Option renaming some → G
open Bool renaming true → J, false → O
open Decidable renaming decide → Y
open Int renaming toNat → Z
open Go.Dv.V renaming list → ai, str → ae, agg → ab, int → aa, ref → bz, fn → bw, nils → bv, bool → bu
open Go.Dv.D renaming v → bt, acc → br, ptr → bq, arr → bo, gro → bm, tup → bk, undef → bj, dagg → bi
open _root_.ByteArray renaming mk → bc
open Go renaming Operand → x8, Program → x7, TypeId → x6, World → x5, Value → yz, Oper → yy, FuncId → yx, Func → yw, IntKind → yv
abbrev DRW:Prop:=True
def BO(a b:Nat):Prop:=DRW->a<=b
theorem BO.of{a b:Nat}(h:a<=b):BO a b:=fun _=>h
theorem BO.refl(a:Nat):BO a a:=.of (HP _)
theorem BO.succ(a:Nat):BO a (a+1):=.of (Nat.le_succ _)
theorem BO.trans{a b c:Nat}(h:BO a b)(h':BO b c):BO a c:=by grind[BO]
def mj:List (Nat×V):=[]
def wq(_:c6):Prop:=True
theorem wq.mono{M M':c6}(h:wq M)(_:M.le M'):wq M':=h
structure Gx(M:c6):Prop where
 known:∀p∈mj,∃us,fe M p.1 0 us/\repC M p.2 us
 more:wq M
theorem Gx.mono{M M':c6}(h:Gx M)(hle:M.le M'):Gx M':=⟨fun p hp=>
 let ⟨us,h1,h2⟩:=h.known p hp
 ⟨us,h1.mono hle,repC.mono hle _ _ h2⟩,h.more.mono hle⟩
def Gy:List (Nat×Nat):=[]
def GW(w:x5):Prop:=∀p∈Gy,∃cs e x,w.heap[p.1]?=G (.cells cs e x)/\cs.size=p.2
theorem GW.mono{w w':x5}(h:GW w)(hs:∀(b:Nat) (cs:Array yz) (e:x6) (x:Nat×Nat),w.heap[b]?=G (.cells cs e x)->∃cs' e' x',w'.heap[b]?=G (.cells cs' e' x')/\cs'.size=cs.size):GW w':=fun p hp=>by
 obtain⟨cs,e,x,h1,h2⟩:=h p hp
 obtain⟨cs',e',x',h3,h4⟩:=hs _ _ _ _ h1
 exact⟨cs',e',x',h3,h4.trans h2⟩
theorem GW.keep{w w':x5}(h:GW w)(hs:∀b,b<w.heap.size->w'.heap[b]?=w.heap[b]?):GW w':=h.mono fun b cs e x hb=>⟨cs,e,x,(hs b (ID.1 hb).1).trans hb,rfl⟩
theorem GW.keepG{w w':x5}(h:GW w)(hs:∀p∈Gy,p.1<w.heap.size->w'.heap[p.1]?=w.heap[p.1]?):GW w':=fun p hp=>by
 obtain⟨cs,e,x,h1,h2⟩:=h p hp
 exact⟨cs,e,x,(hs p hp (ID.1 h1).1).trans h1,h2⟩
theorem Gx.sized{M:c6}(_:Gx M):∀p∈Gy,∃v,M p.1 0=G v:=fun p hp=>by simp[Gy] at hp
structure St where
 H:List (Option (List D))
 own:List (Nat×Nat×List V)
def D.one:D->Bool
 |.v x=> !x.isAgg
 |.acc .. |.ptr .. |.arr .. |.gro .. |.dfn .. =>true
 |.raw x=>x.oneCell'
 |.rv x _=> !x.isAgg
 |_=>false
def Co:yz->Option Nat
 |.slice (some a) _ cap=>if cap=0 then none else G a.block
 |_=>none
structure NoM(M:c6)(b n:Nat):Prop where
 none:∀o,n<=o->M b o=Option.none
 ng:∀p∈Gy,p.1≠b
instance {M:c6} {b n:Nat}:CoeFun (NoM M b n) fun _=>∀o,n<=o->M b o=Option.none:=⟨NoM.none⟩
def Perm(M:c6)(w:x5)(sz:Nat)(u:yz):Prop:=
 (∃a,u=.slice a 0 0)∨∃b f len cap cur e,u=.slice (G ⟨b,f,none⟩) len cap/\w.heap[b]?=G (.cells cur e (0,0))/\len<=cap/\f+cap*sz<=cur.size/\NoM M b (f+len*sz)
structure dm(g:Gh)(σ:St)(w:x5):Prop where
 n:g.n=I σ.H
 mem:∀b o v,g.M b o=G v->w.cell? ⟨b,o,none⟩=G v
 obj:∀i cs,σ.H[i]?=G (G cs)->∃us rest e,w.heap[g.β i]?=G (.cells (us++rest).toArray e (0,0))/\Af g cs us/\(∀c∈cs,c.one=J)/\(∀o,g.M (g.β i) o=none)/\(us++rest).length=g.κ i
 inj:∀i j cs ds,σ.H[i]?=G (G cs)->σ.H[j]?=G (G ds)->g.β i=g.β j->i=j
 own:∀k sz xs,(k,sz,xs)∈σ.own->(0<sz/\∀x∈xs,x.size=sz)/\∃u,g.ι k (I xs)=G u/\repV g.M (.list xs) u/\Perm g.M w sz u/\∀m,I xs<m->g.ι k m=none
 tags:(σ.own.map (·.1)).Nodup
 sep:∀x∈σ.own,∀y∈σ.own,x.1≠y.1->∀u u',g.ι x.1 (I x.2.2)=G u->g.ι y.1 (I y.2.2)=G u'->∀b,Co u=G b->Co u'≠G b
 ownObj:∀x∈σ.own,∀u,g.ι x.1 (I x.2.2)=G u->∀b,Co u=G b->∀i cs,σ.H[i]?=G (G cs)->g.β i≠b
 fresh:∀k,(∀x∈σ.own,x.1≠k)->∀m,g.ι k m=none
 gl:Gx g.M
 gw:GW w
structure cd where
 g:Gh
 w:x5
 σ:St
def cd.priv(E:cd)(b:Nat):Prop:=
 (∃i cs,E.σ.H[i]?=G (G cs)/\b=E.g.β i)∨(∃x∈E.σ.own,∃u,E.g.ι x.1 (I x.2.2)=G u/\Co u=G b)
structure WI(E:cd)(g:Gh)(σ:St)(w:x5):Prop where
 rep:dm g σ w
 M:E.g.M.le g.M
 size:E.w.heap.size<=w.heap.size
 keep:∀b,b<E.w.heap.size->¬E.priv b->w.heap[b]?=E.w.heap[b]?/\∀o,g.M b o=E.g.M b o
 os:w.os=E.w.os
 tape:w.tape=E.w.tape
 output:w.output=E.w.output
 nE:E.g.n<=g.n
 βE:∀o,o<E.g.n->g.β o=E.g.β o
 κE:∀o,o<E.g.n->g.κ o=E.g.κ o
 objs:∀i cs,σ.H[i]?=G (G cs)->E.w.heap.size<=g.β i∨E.priv (g.β i)
 owns:∀x∈σ.own,∀u,g.ι x.1 (I x.2.2)=G u->∀b,Co u=G b->E.w.heap.size<=b∨E.priv b
 drawn:BO E.w.drawn w.drawn
structure FI(E:cd)(g:Gh)(σ:St)(env:List D)(a:Act)(w:x5):Prop where
 wi:WI E g σ w
 env:Af g env a.tmps.toList
 defers:a.defers=[]
theorem WI.start{g:Gh}{w:x5}{σ:St}(h:dm g σ w):WI ⟨g,w,σ⟩ g σ w where
 rep:=h
 M:=c6.le_refl _
 size:=HP _
 keep:=fun _ _ _=>⟨rfl,fun _=>rfl⟩
 os:=rfl
 tape:=rfl
 output:=rfl
 nE:=HP _
 βE:=fun _ _=>rfl
 κE:=fun _ _=>rfl
 objs:=fun i cs h=>.inr (.inl ⟨i,cs,h,rfl⟩)
 owns:=fun x hx u hu _ hb=>.inr (.inr ⟨x,hx,u,hu,hb⟩)
 drawn:=BO.refl _
def O1:yz->D
 |.int k n=>.v (.int k n)
 |.bool b=>.v (.bool b)
 |.string s=>.v (.str s.data.toList)
 |.slice none 0 0=>.v (.list [])
 |.nilFunc=>.v .nilfn
 |.pointer none=>.v .nilp
 |_=>.undef
theorem NT(g:Gh)(u:yz):Ag g (O1 u) u:=by
 unfold O1
 split<;>simp[Ag,DD]
def Agk(n:Nat):D:=match mj.find? (·.1==n) with|G p=>.v (.ref p.2)|none=>.undef
theorem Aax{g:Gh}(_:Gx g.M)(n:Nat):Ag g (Agk n) (.pointer (G ⟨n,0,none⟩)):=by
 grind[Agk,Ag,mj]
def gr(env:List D):x8->D
 |.tmp t=>env.getD t .undef
 |.const u=>O1 u
 |.global n=>Agk n
 |.func f=>.v (.fn f [] [])
theorem Gf{g:Gh}{env:List D}{a:Act}(h:Af g env a.tmps.toList)(t:Nat):Ag g (gr env (.tmp t)) (a.eval (.tmp t)):=by
 simp only[gr,Act.eval]
 cases hd:env[t]? with
 |none=>grind[Ag]
 |some d=>
  obtain⟨u,hu,hr⟩:=BA h hd
  simp_all
theorem Mw{g:Gh}{env:List D}{a:Act}(hG:Gx g.M)(h:Af g env a.tmps.toList)(x:x8):Ag g (gr env x) (a.eval x):=by
 cases x<;>grind[Gf,NT,Aax,gr,Ag,H8,Act.eval,GM]
def EJ(env:List D)(o:yy):List D:=o.op.operands.toList.map (gr env)
theorem FR{g:Gh}{env:List D}{a:Act}(hG:Gx g.M)(h:Af g env a.tmps.toList):∀(l:List x8),Af g (l.map (gr env)) (l.map a.eval)
 |[]=>by simp[Af]
 |x::l=>by exact⟨_,_,rfl,Mw hG h x,FR hG h l⟩
def Ai(P:x7)(o:yy)(ds:List D)(σ:St)(d:D)(σ':St):Prop:=
 ∀(E:cd) (g:Gh) (a:Act) (w:x5) (K:Act->x5->Prop) (Q:Exit->Act->x5->Prop),WI E g σ w->
  Af g ds (o.op.operands.toList.map a.eval)->
  (∀g' w' u,WI E g' σ' w'->g.le g'->Ag g' d u->K (a.put o.dst u) w')->o.wp P a w K Q
theorem NS(g:Gh):Ag g (.tup []) undef:=by exact⟨[],rfl,by rfl⟩
def B5(env:List D):Option Tmp->D->List D
 |some t,d=>env.set t d
 |none,_=>env
theorem FI.put{E:cd}{g g':Gh}{σ σ':St}{env:List D}{a:Act}{w w':x5}(h:FI E g σ env a w)(hw:WI E g' σ' w')(hg:g.le g'){u:yz}{d:D}(hd:Ag g' d u)(t:Option Tmp):
  FI E g' σ' (B5 env t d) (a.put t u) w':=by
 refine⟨hw,?_,?_⟩
 ·cases t with
  |none=>exact Af.mono hg _ _ h.env
  |some t=>
   simp only[B5,Act.put,Array.toList_setIfInBounds]
   exact CI (Af.mono hg _ _ h.env) t hd
 ·cases t<;>exact h.defers
def BW(env:List D)(ops:Array yy)(o:yy):Option Bool:=
 match o.guard with
 |none=>G true
 |some (j,want)=>match ((ops[j]?).bind (·.dst)).bind (env[·]?) with
  |some (.v (.bool b))=>G (b==want)
  |some (.tup _)=>G false
  |_=>none
theorem CD{g:Gh}{env:List D}{a:Act}(h:Af g env a.tmps.toList){ops:Array yy}{o:yy}{b:Bool}(hw:BW env ops o=G b):
  Region.wanted o (yielded ops a.tmps)=b:=by
 unfold BW at hw
 unfold Region.wanted
 cases hg:o.guard with
 |none=>grind
 |some p=>
  obtain⟨j,want⟩:=p
  cases hj:(ops[j]?).bind (·.dst)<;>grind[BA,Option.some.injEq,Ag,DW,yielded]
inductive KI where
 |code (c:Code)
 |blk (id:Nat)
 |lp (c:Code)
def Aq3(P:x7)(c:Code)(Q:Exit->Act->x5->Prop)(a:Act)(w:x5):Prop:=
 ∀(b:Frame) (k:List Item) (cs:List Frame),
  ∃e a' w',Q e a' w'/\Arrives P (lone (b.at a (.code c:: .inLoop c::k)) cs w) b k cs e a' w'
def KQ(P:x7)(B:Exit->Act->x5->Prop):List KI->Exit->Act->x5->Prop
 |[],e,a,w=>B e a w
 |.code c::k,e,a,w=>match e with
  |.normal=>c.wp P (KQ P B k) a w
  |e=>KQ P B k e a w
 |.lp c::k,e,a,w=>match e with
  |.normal=>Aq3 P c (KQ P B k) a w
  |e=>KQ P B k e a w
 |.blk id::k,e,a,w=>match e with
  |.exit id'=>if id'=id then KQ P B k .normal a w else KQ P B k (.exit id') a w
  |e=>KQ P B k e a w
def A2(C:cd->cd->Prop)(P:x7)(R:List D->St->Prop)(k:List KI)(env:List D)(σ:St):Prop:=
 ∀(E0 E:cd) (g:Gh) (a:Act) (w:x5) (B:Exit->Act->x5->Prop),C E0 E->FI E g σ env a w->
  (∀g' env' σ' a' w',FI E0 g' σ' env' a' w'->R env' σ'->B .ret a' w'/\B .normal a' w')->KQ P B k .normal a w
abbrev AnX(E0 E:cd):Prop:=E0=E
structure NA(C:cd->cd->Prop):Prop where
 ok:∀{E0 E:cd},C E0 E->∀{g:Gh} {σ:St} {w:x5},WI E g σ w->WI E0 g σ w
theorem AeJ:NA AnX:=⟨fun h _ _ _ hw=>by grind⟩
theorem FI.link{C:cd->cd->Prop}(L:NA C){E0 E:cd}(hC:C E0 E){g:Gh}{σ:St}{env:List D}{a:Act}{w:x5}(h:FI E g σ env a w):FI E0 g σ env a w:=⟨L.ok hC h.wi,h.env,h.defers⟩
abbrev wt(P:x7)(R:List D->St->Prop)(k:List KI)(env:List D)(σ:St):Prop:=A2 AnX P R k env σ
section
variable {C : cd -> cd -> Prop} {P : x7} {R : List D -> St -> Prop} {k : List KI} {env : List D} {σ : St}
theorem Pr(L:NA C)(h:R env σ):A2 C P R [] env σ:=fun _ _ _ _ _ _ hC hf hB=>(hB _ _ _ _ _ (hf.link L hC) h).2
theorem W2{B:Exit->Act->x5->Prop}{a:Act}{w:x5}(h:B .ret a w):∀k:List KI,KQ P B k .ret a w
 |[]=>h
 |.code _::k=>by exact W2 h k
 |.lp _::k=>by exact W2 h k
 |.blk _::k=>by exact W2 h k
theorem UR(L:NA C)(h:R env σ):A2 C P R (.code .ret::k) env σ:=fun _ _ _ _ _ _ hC hf hB=>by
 exact wp_ret (W2 (hB _ _ _ _ _ (hf.link L hC) h).1 k)
theorem UQ(h:A2 C P R k env σ):A2 C P R (.code .skip::k) env σ:=by grind[KQ,wp_skip,A2]
theorem Aad{l:Nat}(h:A2 C P R k env σ):A2 C P R (.code (.label l)::k) env σ:=by grind[KQ,wp_label,A2]
theorem Aae{id:Nat}(h:A2 C P R k env σ):A2 C P R (.blk id::k) env σ:=by grind[KQ,A2]
theorem Aac{x y:Code}(h:A2 C P R (.code x:: .code y::k) env σ):A2 C P R (.code (.seq x y)::k) env σ:=fun E0 E g a w B hC hf hB=>by
 have:=h E0 E g a w B hC hf hB
 exact wp_seq (wp_mono this fun e a w q=>by cases e<;>exact q)
theorem QI{id:Nat}{c:Code}(h:A2 C P R (.code c:: .blk id::k) env σ):A2 C P R (.code (.block id c)::k) env σ:=fun E0 E g a w B hC hf hB=>by
 have:=h E0 E g a w B hC hf hB
 simp only[KQ] at this⊢
 grind[wp_block,wp_mono,Exit.inBlock]
theorem UU{c:x8}{x y:Code}{b:Bool}(hc:gr env c=.v (.bool b))(ht:b=J->A2 C P R (.code x::k) env σ)(hf:b=O->A2 C P R (.code y::k) env σ):
  A2 C P R (.code (.cond c x y)::k) env σ:=fun E0 E g a w B hC hfi hB=>by
 have hr:=Mw hfi.wi.rep.gl hfi.env c
 have hr':a.eval c=.bool b:=by grind[Ag,DW]
 refine wp_cond_split hr' (fun hb=>?_) (fun hb=>?_)
 ·have:=ht hb E0 E g a w B hC hfi hB;grind[KQ]
 ·have:=hf hb E0 E g a w B hC hfi hB;grind[KQ]
theorem AhK{c:Code}(h:A2 C P R (.code c:: .lp c::k) env σ):A2 C P R (.lp c::k) env σ:=fun E0 E g a w B hC hfi hB=>by
 have:=h E0 E g a w B hC hfi hB
 simp only[KQ] at this⊢
 intro b kk cs
 obtain⟨e,a₁,w₁,hq,harr⟩:=this b (.inLoop c::kk) cs
 cases e with
 |normal=>
  obtain⟨e₂,a₂,w₂,hq₂,harr₂⟩:=hq b kk cs
  exact⟨e₂,a₂,w₂,hq₂,.of_steps (Steps.trans harr (.one step_inLoop)) harr₂⟩
 |exit id=>exact⟨_,a₁,w₁,hq,.pass (x:=.inLoop c) rfl (fun _ _=>.inl (by simp)) harr⟩
 |goto l=>exact⟨_,a₁,w₁,hq,.pass (x:=.inLoop c) rfl (fun _ _=>.inl (by simp)) harr⟩
 |ret=>grind[Arrives]
 |panic ch=>grind[Arrives]
 |outgrown=>grind[Arrives]
theorem fc{c:Code}(h:A2 C P R (.lp c::k) env σ):A2 C P R (.code (.loop c)::k) env σ:=fun E0 E g a w B hC hfi hB=>by
 have:=h E0 E g a w B hC hfi hB
 intro b kk cs
 obtain⟨e,a',w',hq,harr⟩:=this b kk cs
 exact⟨e,a',w',hq,.of_steps (.one step_loop) harr⟩
def HE(id:Nat):List KI->Option (List KI)
 |[]=>none
 |.blk id'::k=>if id'=id then G k else HE id k
 |_::k=>HE id k
theorem Qj{B:Exit->Act->x5->Prop}{a:Act}{w:x5}{id:Nat}:∀{k k':List KI},HE id k=G k'->KQ P B k' .normal a w->KQ P B k (.exit id) a w
 |[],k',h,_=>by simp[HE] at h
 |.code c::k,k',h,q=>by simp only[HE] at h;simp only[KQ];exact Qj h q
 |.lp c::k,k',h,q=>by simp only[HE] at h;simp only[KQ];exact Qj h q
 |.blk id'::k,k',h,q=>by
  simp only[HE] at h
  simp only[KQ]
  by_cases e:id'=id
  ·rw[Ie e] at h
   simp at h;subst h
   rw[Ie e.symm];exact q
  ·rw[HZ e] at h
   rw[HZ (fun x=>e x.symm)]
   exact Qj h q
theorem UT{id:Nat}{k':List KI}(hk:HE id k=G k')(h:A2 C P R k' env σ):A2 C P R (.code (.exit id)::k) env σ:=by grind[KQ,wp_exit,Qj,A2]
theorem H4{env':List D}(hl:I env'=I env)(he:∀(i:Nat) (d':D),env'[i]?=G d'->d'=.undef∨env[i]?=G d')(h:A2 C P R k env' σ):A2 C P R k env σ:=fun E0 E g a w B hC hfi hB=>
 h E0 E g a w B hC ⟨hfi.wi,H9 hfi.env hl he,hfi.defers⟩ hB
end
def W4(P:x7)(f:yx):Prop:=∃fn,P.funcs[f]?=G fn/\(fn.name=="runtime.NumGoroutine")=O/\fn.body.isNone=O
def Aa(P:x7)(f:yx)(ds:List D)(σ:St)(d:D)(σ':St):Prop:=
 W4 P f/\∀(g:Gh) (w:x5) (args:List yz),dm g σ w->Af g ds args->
  Calls P f args.toArray w fun e w'=>∃u g',e=.returned u/\WI ⟨g,w,σ⟩ g' σ' w'/\Ag g' d u
def A9(P:x7)(fn:yw)(env:List D)(σ:St)(d:D)(σ':St):Prop:=
 ∀E g a w,FI E g σ env a w->E.g.n<=I σ'.H->∃u g',(results fn a.tmps).run P w=.ok u w/\WI E g' σ' w/\Ag g' d u
theorem SM{P:x7}{f:yx}{fn:yw}{c:Code}{ds:List D}{σ σ':St}{d:D}(hf:P.funcs[f]?=G fn)(hb:fn.body=G c)(hn:(fn.name=="runtime.NumGoroutine")=O)
  (hH:I σ.H<=I σ'.H) (h:wt P (fun env σ1=>A9 P fn env σ1 d σ') [.code c] (ds++replicate (fn.ntmps-I ds) .undef) σ):Aa P f ds σ d σ':=by
 refine⟨⟨fn,hf,hn,by grind⟩,fun g w args hw hargs=>?_⟩
 refine calls_of_wp hf hb ?_
 have hfi:FI ⟨g,w,σ⟩ g σ (ds++replicate (fn.ntmps-I ds) .undef) { tmps:=args.toArray++Array.replicate (fn.ntmps-args.toArray.size) undef,defers:=[]} w:=by
  refine⟨WI.start hw,?_,rfl⟩
  have hl:=A1 hargs
  simp only[Array.toList_append,Array.toList_replicate,IY,hl]
  refine Aw hargs ?_
  generalize fn.ntmps-I ds=m
  induction m<;>grind[Af,Ag]
 have:=h ⟨g,w,σ⟩ ⟨g,w,σ⟩ g _ w (bodyPost P fn fun e w'=>∃u g',e=.returned u/\WI ⟨g,w,σ⟩ g' σ' w'/\Ag g' d u) rfl hfi ?_
 ·simp only[KQ] at this
  omega
 ·intro g' env' σ1 a' w' hfi' hR
  obtain⟨u,g2,h1,h2,h3⟩:=hR _ _ _ _ hfi' (by rw[hw.n];exact hH)
  have:a'.defers=[]/\∃v,(results fn a'.tmps).run P w'=.ok v w'/\∃u g',Ending.returned v=.returned u/\WI ⟨g,w,σ⟩ g' σ' w'/\Ag g' d u:=
   ⟨hfi'.defers,u,h1,u,g2,rfl,h2,h3⟩
  exact⟨this,this⟩
end Go.Dv

namespace Go.Dv
open List (drop_eq_getElem_cons ext_getElem? length_singleton map_map nil_append replicate)
open Go.IntKind (u64)
open Go.IntKind renaming wrap → yu, i64 → yt
open List renaming length → I, map → U, drop → W
open Option renaming some → G
open Bool renaming true → J, false → O
open Decidable renaming decide → Y
open Int renaming toNat → Z
open Go.Dv.V renaming list → ai, str → ae, agg → ab, int → aa, ref → bz, fn → bw, nils → bv, bool → bu
open Go.Dv.D renaming v → bt, acc → br, ptr → bq, arr → bo, gro → bm, tup → bk, undef → bj, dagg → bi
open Go.Dv.St renaming mk → bh
open Go.Dv.KI renaming blk → bf
open _root_.ByteArray renaming mk → bc
open Go renaming Operand → x8, Program → x7, TypeId → x6, World → x5, Value → yz, Oper → yy, FuncId → yx, Func → yw, IntKind → yv
def DU(P:x7)(t:x6):Option (Nat×Bool):=
 match P.info? t,P.underlying t with
 |some i,some d=>G (i.size,match d with|.struct _|.array _ _=>true|_=>false)
 |_,_=>none
def Sp(P:x7)(t:x6):Prop:=DU P t=G (1,false)
def TS(P:x7)(t:x6)(n:Nat):Prop:=DU P t=G (n,true)
def BS(P:x7)(t:x6):Option (x6×Nat×Nat×Option yz):=
 match P.underlying t with
 |some (.slice e)=>(P.info? e).map fun i=>(e,i.size,i.bytes,i.zero)
 |_=>none
def Ru(P:x7)(s:x6)(f:Nat):Option (Nat×Nat×Bool):=
 match P.underlying s with
 |some (.struct fs)=>(fs[f]?).bind fun x=>(DU P x.type).map fun p=>(x.offset,p.1,p.2)
 |_=>none
def oo(P:x7)(t:x6):Option (Nat×Nat×Bool):=
 match P.underlying t with
 |some (.array n e)=>(DU P e).map fun p=>(n,p.1,p.2)
 |_=>none
theorem Mg{P:x7}{t:x6}{n:Nat}{b:Bool}(h:DU P t=G (n,b)):
  ∃i d,P.info? t=G i/\P.underlying t=G d/\i.size=n/\(match d with|.struct _|.array _ _=>true|_=>false)=b:=by
 grind[DU]
theorem Dg{P:x7}{t:x6}{n:Nat}{b:Bool}(h:DU P t=G (n,b))(w:x5):(isAgg t).run P w=.ok b w:=by
 obtain⟨i,d,hi,hd,_,hb⟩:=Mg h
 unfold isAgg
 rw[Sem.run_bind,run_underlying hd w]
 subst hb
 cases d<;>simp
theorem dw{P:x7}{t:x6}{n:Nat}{b:Bool}(h:DU P t=G (n,b))(w:x5):(sizeOf t).run P w=.ok n w:=by
 obtain⟨i,d,hi,hd,hn,_⟩:=Mg h
 simp[sizeOf,typeInfo,hi,hn]
theorem AF{P:x7}{t e:x6}{sz by':Nat}{z:Option yz}(h:BS P t=G (e,sz,by',z)):
  ∃i,P.underlying t=G (.slice e)/\P.info? e=G i/\i.size=sz/\i.bytes=by'/\i.zero=z:=by
 unfold BS at h
 split at h
 ·rename_i e' he
  cases hi:P.info? e'<;>grind
 grind
theorem JA{P:x7}{s:x6}{f off n:Nat}{b:Bool}(h:Ru P s f=G (off,n,b)):
  ∃fs x,P.underlying s=G (.struct fs)/\fs[f]?=G x/\x.offset=off/\DU P x.type=G (n,b):=by
 unfold Ru at h
 grind[DU]
theorem Lc{P:x7}{t:x6}{len n:Nat}{b:Bool}(h:oo P t=G (len,n,b)):
  ∃e,P.underlying t=G (.array len e)/\DU P e=G (n,b):=by
 grind[oo,DU]
section
variable {P : x7} {o : yy} {ds : List D} {σ σ' : St} {d : D}
theorem A6(h:∀E g (ρ:x8->yz) w,WI E g σ w->Af g ds (o.op.operands.toList.map ρ)->∃u,(execOp ρ o).run P w=.ok (.value u) w/\Ag g d u):Ai P o ds σ d σ:=by
 intro E g a w K Q hw hds hK
 obtain⟨u,hr,hd⟩:=h E g a.eval w hw hds
 unfold Oper.wp
 rw[hr]
 exact hK g w u hw g.le_refl hd
theorem BR{ds':List D}(hs:∀g us,Af g ds us->Af g ds' us)(h:Ai P o ds' σ d σ'):Ai P o ds σ d σ':=
 by grind[Ai]
def D.un:D->D
 |.acc _ xs=>.v (.list xs)
 |d=>d
theorem Pv{g:Gh}{d:D}{u:yz}(h:Ag g d u):Ag g d.un u:=by
 cases d<;>simp only[D.un]<;>first|exact h|grind[Ag]
theorem EV{g:Gh}:∀{ds:List D} {us:List yz},Af g ds us->Af g (ds.map D.un) us
 |[],us,h=>by grind
 |d::ds,us,h=>by
  obtain⟨u,us',e,h1,h2⟩:=h
  exact⟨u,us',e,Pv h1,EV h2⟩
theorem Tl(h:Ai P o (ds.map D.un) σ d σ'):Ai P o ds σ d σ':=by grind[EV,Ai]
theorem AB{g:Gh}{d:D}{us:List yz}:Af g [d] us↔∃u,us=[u]/\Ag g d u:=by
 grind[Af]
theorem Au{g:Gh}{d e:D}{us:List yz}:Af g [d,e] us↔∃u v,us=[u,v]/\Ag g d u/\Ag g e v:=by
 grind[Af]
theorem EW{g:Gh}{d e f:D}{us:List yz}:Af g [d,e,f] us↔∃u v x,us=[u,v,x]/\Ag g d u/\Ag g e v/\Ag g f x:=by
 grind[Af]
theorem P3{x:x8}(ho:o.op=.move x):Ai P o [d] σ d σ:=by
 refine A6 fun E g ρ w hw hds=>?_
 simp only[ho,Op.operands,AB] at hds
 obtain⟨u,e,hd⟩:=hds
 simp at e
 exact⟨u,by simp[execOp,ho,e],hd⟩
theorem JR{x:x8}(ho:o.op=.assign x):Ai P o [d] σ d σ:=by
 refine A6 fun E g ρ w hw hds=>?_
 simp only[ho,Op.operands,AB] at hds
 obtain⟨u,e,hd⟩:=hds
 simp at e
 exact⟨u,by simp[execOp,ho,e],hd⟩
theorem Tg{c x y:x8}(ho:o.op=.pick c x y){b:Bool}{d1 d2:D}:Ai P o [.v (.bool b),d1,d2] σ (if b then d1 else d2) σ:=by
 refine A6 fun E g ρ w hw hds=>?_
 simp only[ho,Op.operands,EW] at hds
 obtain⟨u,v,z,e,h1,h2,h3⟩:=hds
 simp only[Ik,IF,HV,Ix] at e
 obtain⟨e1,e2,e3⟩:=e
 simp only[Ag,DW] at h1
 refine⟨if b then v else z,?_,?_⟩
 ·simp only[execOp,ho,e1,h1,e2,e3]
  rfl
 grind
def ApJ(op:BinOp)(k:yv)(a b:Int):Option V:=
 match op with
 |.add=>G (.int k (k.wrap (a+b)))
 |.sub=>G (.int k (k.wrap (a-b)))
 |.mul=>G (.int k (k.wrap (a*b)))
 |.and=>G (.int k (k.wrap (BitVec.ofInt k.bits a&&&BitVec.ofInt k.bits b).toNat))
 |.or=>G (.int k (k.wrap (BitVec.ofInt k.bits a|||BitVec.ofInt k.bits b).toNat))
 |.xor=>G (.int k (k.wrap (BitVec.ofInt k.bits a^^^BitVec.ofInt k.bits b).toNat))
 |.andNot=>G (.int k (k.wrap (BitVec.ofInt k.bits a&&& ~~~BitVec.ofInt k.bits b).toNat))
 |.eql=>G (.bool (a==b))
 |.neq=>G (.bool (a !=b))
 |.lss=>G (.bool (a<b))
 |.leq=>G (.bool (a<=b))
 |.gtr=>G (.bool (a>b))
 |.geq=>G (.bool (a>=b))
 |_=>none
theorem KG{op:BinOp}{t ty:x6}{x y:x8}(ho:o.op=.binOp op t x y ty){k:yv}{a b:Int}{r:V}(hr:ApJ op k a b=G r):
  Ai P o [.v (.int k a),.v (.int k b)] σ (.v r) σ:=by
 refine A6 fun E g ρ w hw hds=>?_
 simp only[ho,Op.operands,Au] at hds
 obtain⟨u,v,e,h1,h2⟩:=hds
 simp only[Ik,IF,HV,Ix] at e
 obtain⟨e1,e2⟩:=e
 simp only[Ag,AC] at h1 h2
 subst h1 h2
 cases op<;>simp only[ApJ,Ir,reduceCtorEq] at hr<;>subst hr<;>
  simp[execOp,ho,e1,e2,eqGuard,binOp,Op.intArith,Op.intBits,Op.intCmp,Ag]
def ApY(op:BinOp)(k:yv)(a b:Int):Option V:=
 match op with
 |.quo=>G (.int k (k.wrap (a.tdiv b)))
 |.rem=>G (.int k (a.tmod b))
 |_=>none
theorem AaQ{op:BinOp}{t ty:x6}{x y:x8}(ho:o.op=.binOp op t x y ty){k:yv}{a b:Int}{r:V}(hr:ApY op k a b=G r)(hb:b≠0):
  Ai P o [.v (.int k a),.v (.int k b)] σ (.v r) σ:=by
 refine A6 fun E g ρ w hw hds=>?_
 simp only[ho,Op.operands,Au] at hds
 obtain⟨u,v,e,h1,h2⟩:=hds
 simp only[Ik,IF,HV,Ix] at e
 obtain⟨e1,e2⟩:=e
 simp only[Ag,AC] at h1 h2
 subst h1 h2
 cases op<;>simp only[ApY,Ir,reduceCtorEq] at hr<;>subst hr<;>
  simp[execOp,ho,e1,e2,eqGuard,binOp,Op.intDiv,hb,Ag]
def shI(op:BinOp)(k:yv)(a b:Int):Option V:=
 match op with
 |.shl=>G (.int k (k.wrap (a*2^(min b.toNat k.bits))))
 |.shr=>G (.int k (a.fdiv (2^(min b.toNat k.bits))))
 |_=>none
theorem AhN{op:BinOp}{t ty:x6}{x y:x8}(ho:o.op=.binOp op t x y ty){k k':yv}{a b:Int}{r:V}(hr:shI op k a b=G r)(hb:0<=b):
  Ai P o [.v (.int k a),.v (.int k' b)] σ (.v r) σ:=by
 refine A6 fun E g ρ w hw hds=>?_
 simp only[ho,Op.operands,Au] at hds
 obtain⟨u,v,e,h1,h2⟩:=hds
 simp only[Ik,IF,HV,Ix] at e
 obtain⟨e1,e2⟩:=e
 simp only[Ag,AC] at h1 h2
 subst h1 h2
 have hb':¬b<0:=by omega
 cases op<;>simp only[shI,Ir,reduceCtorEq] at hr<;>subst hr<;>
  simp[execOp,ho,e1,e2,eqGuard,binOp,Op.shift,hb',Ag]
def xp(op:BinOp)(a b:List UInt8):Option V:=
 match op with
 |.eql=>G (.bool (a==b))
 |.neq=>G (.bool !(a==b))
 |.lss=>G (.bool (Op.bytesLess a b))
 |.leq=>G (.bool (Op.bytesLess a b||a==b))
 |.gtr=>G (.bool !(Op.bytesLess a b||a==b))
 |.geq=>G (.bool !(Op.bytesLess a b))
 |_=>none
theorem SP(l:List UInt8):ByteArray.size ⟨l.toArray⟩=I l:=by rfl
theorem Ajt{op:BinOp}{t ty:x6}{x y:x8}(ho:o.op=.binOp op t x y ty){a b:List UInt8}{r:V}(hr:xp op a b=G r):
  Ai P o [.v (.str a),.v (.str b)] σ (.v r) σ:=by
 refine A6 fun E g ρ w hw hds=>?_
 simp only[ho,Op.operands,Au] at hds
 obtain⟨u,v,e,h1,h2⟩:=hds
 simp only[Ik,IF,HV,Ix] at e
 obtain⟨e1,e2⟩:=e
 simp only[Ag,Dt] at h1 h2
 subst h1 h2
 cases op<;>simp only[xp,Ir,reduceCtorEq] at hr<;>subst hr<;>
  simp[execOp,ho,e1,e2,eqGuard,binOp,Op.stringOp,Ag]
theorem AaW{t ty:x6}{x y:x8}(ho:o.op=.binOp .add t x y ty){a b:List UInt8}(hl:I a+I b<=9223372036854775807):
  Ai P o [.v (.str a),.v (.str b)] σ (.v (.str (a++b))) σ:=by
 refine A6 fun E g ρ w hw hds=>?_
 simp only[ho,Op.operands,Au] at hds
 obtain⟨u,v,e,h1,h2⟩:=hds
 simp only[Ik,IF,HV,Ix] at e
 obtain⟨e1,e2⟩:=e
 simp only[Ag,Dt] at h1 h2
 subst h1 h2
 have hs:∀l:List UInt8,ByteArray.size ⟨l.toArray⟩=I l:=fun l=>by rfl
 have hn:¬(((I a+I b:Nat):Int)>yt.max):=by
  have:yt.max=9223372036854775807:=by decide
  omega
 refine⟨.string ⟨(a++b).toArray⟩,?_,by simp[Ag]⟩
 have hap:(⟨a.toArray⟩:ByteArray)++⟨b.toArray⟩=⟨(a++b).toArray⟩:=by
  rfl
 simp only[execOp,ho,e1,e2,binOp,Op.stringOp,hs,hn,if_false,hap]
 rfl
theorem Ajr{op:BinOp}{t ty:x6}{x y:x8}(ho:o.op=.binOp op t x y ty)(hu:P.underlying t=G .bool){a b:Bool}(hop:op=.eql∨op=.neq):
  Ai P o [.v (.bool a),.v (.bool b)] σ (.v (.bool (if op=.eql then a==b else a !=b))) σ:=by
 refine A6 fun E g ρ w hw hds=>?_
 simp only[ho,Op.operands,Au] at hds
 obtain⟨u,v,e,h1,h2⟩:=hds
 simp only[Ik,IF,HV,Ix] at e
 obtain⟨e1,e2⟩:=e
 simp only[Ag,DW] at h1 h2
 subst h1 h2
 have heq:(Op.equal t (.bool a) (.bool b)).run P w=.ok (a==b) w:=by
  have gen:∀d,(Op.equalIn (d+1) t (.bool a) (.bool b)).run P w=.ok (a==b) w:=fun d=>by
   simp only[Op.equalIn,Sem.run_bind,run_underlying hu,Result.andThen_ok]
   rfl
  exact gen 9999
 refine⟨.bool (if op=.eql then a==b else a !=b),?_,by simp[Ag]⟩
 rcases hop with rfl|rfl<;>
  simp[execOp,ho,e1,e2,eqGuard,binOp,heq,bne]
def unI(op:UnOp)(x:V):Option V:=
 match op,x with
 |.not,.bool b=>G (.bool !b)
 |.neg,.int k n=>G (.int k (k.wrap (0-n)))
 |_,_=>none
theorem Ao8{op:UnOp}{t:x6}{x:x8}(ho:o.op=.unOp op t x){a r:V}(hr:unI op a=G r):Ai P o [.v a] σ (.v r) σ:=by
 refine A6 fun E g ρ w hw hds=>?_
 simp only[ho,Op.operands,AB] at hds
 obtain⟨u,e,h1⟩:=hds
 simp at e
 unfold unI at hr
 split at hr
 ·simp at hr;subst hr
  simp only[Ag,DW] at h1
  exact⟨_,by simp[execOp,ho,e,h1,Op.unary];rfl,by simp[Ag]⟩
 ·simp only[Ir] at hr;subst hr
  simp only[Ag,AC] at h1
  exact⟨_,by simp only[execOp,ho,e,h1,Op.unary,Op.intArith];rfl,by simp[Ag]⟩
 grind
theorem LG{src dst:x6}{x:x8}(ho:o.op=.convert src dst x){k k':yv}{n:Int}{ds':TypeDesc}(hs:P.underlying src=G ds')(hd:P.underlying dst=G (.int k')):
  Ai P o [.v (.int k n)] σ (.v (.int k' (k'.wrap n))) σ:=by
 refine A6 fun E g ρ w hw hds=>?_
 simp only[ho,Op.operands,AB] at hds
 obtain⟨u,e,h1⟩:=hds
 simp at e
 simp only[Ag,AC] at h1
 refine⟨.int k' (k'.wrap n),?_,by simp[Ag]⟩
 simp only[execOp,ho,e,h1,convert,Sem.run_bind,run_underlying hs,run_underlying hd,Result.andThen_ok,Conv.intToInt]
 rfl
theorem KF{x:x8}{i:Nat}(ho:o.op=.extract x i){ds:List D}(hd:ds[i]?=G d):Ai P o [.tup ds] σ d σ:=by
 refine A6 fun E g ρ w hw hds=>?_
 simp only[ho,Op.operands,AB] at hds
 obtain⟨u,e,h1⟩:=hds
 simp at e
 obtain⟨us,rfl,h2⟩:=h1
 obtain⟨u,hu,h3⟩:=BA h2 hd
 exact⟨u,by simp[execOp,ho,e,Instr.extract,hu],h3⟩
theorem M6{x:x8}(ho:o.op=.nilCheck x){q off:Nat}:Ai P o [.ptr q off] σ (.ptr q off) σ:=by
 refine A6 fun E g ρ w hw hds=>?_
 simp only[ho,Op.operands,AB] at hds
 obtain⟨u,e,h1⟩:=hds
 simp at e
 refine⟨u,?_,h1⟩
 simp[execOp,ho,e,h1.2]
theorem M5{x:x8}(ho:o.op=.nilCheck x){y:V}:Ai P o [.v (.ref y)] σ (.v (.ref y)) σ:=by
 refine A6 fun E g ρ w hw hds=>?_
 simp only[ho,Op.operands,AB] at hds
 obtain⟨u,e,h1⟩:=hds
 simp at e
 refine⟨u,?_,h1⟩
 simp only[Ag,DB] at h1
 obtain⟨b,off,us,rfl,_⟩:=h1
 simp[execOp,ho,e]
theorem KE{x:x8}{t:x6}(ho:o.op=.call { callee:=.builtin .len,args:= #[x],argTypes:= #[t]}){e:x6}(ht:P.underlying t=G (.slice e)){xs:List V}:
  Ai P o [.v (.list xs)] σ (.v (.int .i64 (I xs))) σ:=by
 refine A6 fun E g ρ w hw hds=>?_
 simp only[ho,Op.operands,Call.operands,AB] at hds
 obtain⟨u,e,h1⟩:=hds
 simp at e
 simp only[Ag,B4] at h1
 obtain⟨a,cap,rfl,_⟩:=h1
 exact⟨_,by simp[execOp,ho,e,resolve,invoke,builtin,Builtin.len_,run_underlying ht,goInt];rfl,by simp[Ag]⟩
theorem P4{x:x8}{t:x6}(ho:o.op=.call { callee:=.builtin .len,args:= #[x],argTypes:= #[t]}){e:x6}(ht:P.underlying t=G (.slice e)){q off len:Nat}:
  Ai P o [.arr q off len] σ (.v (.int .i64 len)) σ:=by
 refine A6 fun E g ρ w hw hds=>?_
 simp only[ho,Op.operands,Call.operands,AB] at hds
 obtain⟨u,e,h1⟩:=hds
 simp at e
 obtain⟨_,cap,_,rfl⟩:=h1
 exact⟨_,by simp[execOp,ho,e,resolve,invoke,builtin,Builtin.len_,run_underlying ht,goInt];rfl,by simp[Ag]⟩
theorem Ajm{x:x8}{t:x6}(ho:o.op=.call { callee:=.builtin .len,args:= #[x],argTypes:= #[t]})(ht:P.underlying t=G .string){s:List UInt8}:
  Ai P o [.v (.str s)] σ (.v (.int .i64 (I s))) σ:=by
 refine A6 fun E g ρ w hw hds=>?_
 simp only[ho,Op.operands,Call.operands,AB] at hds
 obtain⟨u,e,h1⟩:=hds
 simp at e
 simp only[Ag,Dt] at h1
 subst h1
 exact⟨_,by simp[execOp,ho,e,resolve,invoke,builtin,Builtin.len_,run_underlying ht,goInt,SP];rfl,by simp[Ag]⟩
theorem AlS{x y:x8}{ts:Array x6}(ho:o.op=.call { callee:=.builtin .max,args:= #[x,y],argTypes:=ts }){k:yv}{a b:Int}:
  Ai P o [.v (.int k a),.v (.int k b)] σ (.v (.int k (if b>a then b else a))) σ:=by
 refine A6 fun E g ρ w hw hds=>?_
 simp only[ho,Op.operands,Call.operands] at hds
 have hds':=Au.1 (by simpa using hds)
 obtain⟨u,v,e,h1,h2⟩:=hds'
 simp only[HV,Ix] at e
 simp only[Ag,AC] at h1 h2
 exact⟨_,by simp[execOp,ho,e.1,e.2,h1,h2,resolve,invoke,builtin,Builtin.max_,Builtin.max2];rfl,by simp[Ag]⟩
theorem AlR{x y:x8}{ts:Array x6}(ho:o.op=.call { callee:=.builtin .min,args:= #[x,y],argTypes:=ts }){k:yv}{a b:Int}:
  Ai P o [.v (.int k a),.v (.int k b)] σ (.v (.int k (if b<a then b else a))) σ:=by
 refine A6 fun E g ρ w hw hds=>?_
 simp only[ho,Op.operands,Call.operands] at hds
 have hds':=Au.1 (by simpa using hds)
 obtain⟨u,v,e,h1,h2⟩:=hds'
 simp only[HV,Ix] at e
 simp only[Ag,AC] at h1 h2
 exact⟨_,by simp[execOp,ho,e.1,e.2,h1,h2,resolve,invoke,builtin,Builtin.min_,Builtin.min2];rfl,by simp[Ag]⟩
end
section
variable {M : c6}
theorem Vg:∀{cs:List V} {us:List yz},repA M cs us->∀{i:Nat} {c:V},cs[i]?=G c->∃u,us[i]?=G u/\c.isAgg=O/\repC M c [u]
 |[],us,h,i,c,hc=>by grind
 |c0::cs,us,h,i,c,hc=>by
  obtain⟨u,us',rfl,ha,h1,h2⟩:=h
  cases i with
  |zero=>simp at hc;subst hc;exact⟨u,by simp,ha,h1⟩
  |succ i=>simp at hc;obtain⟨u',e,h3⟩:=Vg h2 hc;exact⟨u',by simpa using e,h3⟩
theorem JO:∀{cs:List V} {us:List yz},repA M cs us->∀(n:Nat),repA M (cs.drop n) (us.drop n)
 |[],us,h,n=>by grind[repA]
 |c0::cs,us,h,n=>by
  cases n with
  |zero=>grind
  |succ n=>
   obtain⟨u,us',rfl,ha,h1,h2⟩:=h
   simpa using JO h2 n
theorem JN:∀{cs:List V} {us:List yz},repA M cs us->∀(n:Nat),repA M (cs.take n) (us.take n)
 |[],us,h,n=>by grind[repA]
 |c0::cs,us,h,n=>by
  cases n with
  |zero=>rfl
  |succ n=>
   obtain⟨u,us',rfl,ha,h1,h2⟩:=h
   exact⟨u,_,rfl,ha,h1,JN h2 n⟩
theorem BX{sz:Nat}:∀{xs:List V} {us:List yz},repE M sz xs us->I us=I xs*sz
 |[],us,h=>by grind[repE]
 |x::xs,us,h=>by
  obtain⟨u1,u2,rfl,hl,h1,h2⟩:=h
  simp[BX h2,hl,IV,Nat.add_comm]
theorem UW{sz:Nat}:∀{xs:List V} {us:List yz},repE M sz xs us->∀{i:Nat} {x:V},xs[i]?=G x->
  ∃u1,repC M x u1/\u1.length=sz/\∀j v,u1[j]?=G v->us[i*sz+j]?=G v
 |[],us,h,i,c,hc=>by grind
 |x0::xs,us,h,i,x,hc=>by
  obtain⟨u1,u2,rfl,hl,h1,h2⟩:=h
  cases i with
  |zero=>
   simp at hc;subst hc
   refine⟨u1,h1,hl,fun j v hj=>?_⟩
   have:j<I u1:=(HL.1 hj).1
   rw[Nat.zero_mul,I4,Ig this];exact hj
  |succ i=>
   simp at hc
   obtain⟨u',hr,hl',hg⟩:=UW h2 hc
   refine⟨u',hr,hl',fun j v hj=>?_⟩
   have e:(i+1)*sz+j=I u1+(i*sz+j):=by rw[hl,IV];omega
   rw[e,Ib (by omega)]
   have:I u1+(i*sz+j)-I u1=i*sz+j:=by omega
   rw[this];exact hg j v hj
theorem QO{sz:Nat}:∀{xs:List V} {us:List yz},repE M sz xs us->∀(n:Nat),repE M sz (xs.drop n) (us.drop (n*sz))
 |[],us,h,n=>by grind[repE]
 |x::xs,us,h,n=>by
  cases n with
  |zero=>grind
  |succ n=>
   obtain⟨u1,u2,rfl,hl,h1,h2⟩:=h
   have:=QO h2 n
   have e2:(u1++u2).drop (I u1+n*sz)=u2.drop (n*sz):=by
    rw[List.drop_append,Ic (Nat.le_add_right (I u1) (n*sz)),nil_append,Nat.add_sub_cancel_left]
   grind
theorem QN{sz:Nat}:∀{xs:List V} {us:List yz},repE M sz xs us->∀(n:Nat),repE M sz (xs.take n) (us.take (n*sz))
 |[],us,h,n=>by grind[repE]
 |x::xs,us,h,n=>by
  cases n with
  |zero=>simp[repE]
  |succ n=>
   obtain⟨u1,u2,rfl,hl,h1,h2⟩:=h
   have e:(n+1)*sz=I u1+n*sz:=by rw[hl,IV];omega
   refine⟨u1,u2.take (n*sz),?_,hl,h1,QN h2 n⟩
   grind
theorem VG{b off:Nat}{us:List yz}(h:fe M b off us)(n:Nat):fe M b (off+n) (us.drop n):=by grind[fe]
theorem VF{b off:Nat}{us:List yz}(h:fe M b off us)(n:Nat):fe M b off (us.take n):=by grind[fe]
end
def M1(cs:List V)(fo n:Nat)(b:Bool):Option V:=if b then(if fo+n<=I cs then G (.agg ((cs.drop fo).take n)) else none) else cs[fo]?
theorem M0{M:c6}{cs:List V}{us:List yz}{fo n:Nat}{b:Bool}{x:V}(h:M1 cs fo n b=G x)(hr:repA M cs us)(hn:b=O->n=1):
  repC M x ((us.drop fo).take n)/\x.isAgg=b/\((us.drop fo).take n).length=n:=by
 grind[DY,M1,repC,JN,JO,Vg,drop_eq_getElem_cons,V.isAgg]
def D.toV:D->Option V
 |.v x=>G x
 |.acc _ xs=>G (.list xs)
 |_=>none
def Fx:List D->Option (List V)
 |[]=>G []
 |d::ds=>match d.toV,Fx ds with
  |some x,some xs=>G (x::xs)
  |_,_=>none
theorem K9{g:Gh}{d:D}{x:V}{u:yz}(h:d.toV=G x)(hr:Ag g d u):repV g.M x u:=by
 cases d<;>simp[D.toV] at h<;>subst h
 all_goals grind[Ag]
theorem GU{g:Gh}:∀{ds:List D} {xs:List V} {us:List yz},Fx ds=G xs->Af g ds us->(∀c∈ds,c.one=J)->repA g.M xs us
 |[],xs,us,h,hr,_=>by grind[Fx,Af,repA]
 |d::ds,xs,us,h,hr,h1=>by
  simp only[Fx] at h
  split at h
  ·rename_i x xs' hx hxs
   simp at h;subst h
   obtain⟨u,us',rfl,h2,h3⟩:=hr
   have hxa:x.isAgg=O:=by
    have:=h1 d (by simp)
    cases d<;>simp[D.toV] at hx<;>subst hx<;>simp_all [D.one,V.isAgg]
   exact⟨u,us',rfl,hxa,(BJ hxa).1 (K9 hx h2),GU hxs h3 (fun c hc=>h1 c (by simp[hc]))⟩
  grind
section
variable {P : x7} {o : yy} {σ : St} {d : D}
theorem ED{E:cd}{g:Gh}{w:x5}(hw:WI E g σ w){b off:Nat}{us:List yz}(h:fe g.M b off us):∀j v,us[j]?=G v->w.cell? ((⟨b,off,none⟩:Addr).add j)=G v:=fun j v hj=>by
 rw[Addr.add_lit];exact hw.rep.mem _ _ _ (h j v hj)
theorem FS{t:x6}{a:x8}(ho:o.op=.load t a)(ht:Sp P t){x:V}(hx:x.isAgg=O):Ai P o [.v (.ref x)] σ (.v x) σ:=by
 refine A6 fun E g ρ w hw hds=>?_
 simp only[ho,Op.operands,AB] at hds
 obtain⟨u,e,h1⟩:=hds
 simp at e
 simp only[Ag,DB] at h1
 obtain⟨b,off,us,rfl,hi,hr⟩:=h1
 obtain⟨u',rfl,hm,_⟩:=Dc hx hr
 have hc:w.cell? ⟨b,off,none⟩=G u':=by have:=hw.rep.mem _ _ _ (hi 0 u' (by simp));omega
 refine⟨u',?_,by grind[Ag,BJ]⟩
 simp[execOp,ho,e,Instr.loadAt,Instr.sureAddr,loadVar,Dg ht,hc]
theorem Rb{t:x6}{a:x8}(ho:o.op=.load t a){cs:List V}(ht:TS P t (I cs)):Ai P o [.v (.ref (.agg cs))] σ (.v (.agg cs)) σ:=by
 refine A6 fun E g ρ w hw hds=>?_
 simp only[ho,Op.operands,AB] at hds
 obtain⟨u,e,h1⟩:=hds
 simp at e
 simp only[Ag,DB] at h1
 obtain⟨b,off,us,rfl,hi,hr⟩:=h1
 simp only[repC] at hr
 have hl:=DY hr
 have hld:=run_loadCells_list (P:=P) w ⟨b,off,none⟩ us (ED hw hi)
 rw[hl] at hld
 refine⟨.agg us.toArray,?_,by grind[Ag,Db]⟩
 simp[execOp,ho,e,Instr.loadAt,Instr.sureAddr,loadVar,Dg ht,dw ht,hld]
theorem AaS{t:x6}{a:x8}(ho:o.op=.load t a)(ht:Sp P t){q off:Nat}{cs:List D}(hH:σ.H[q]?=G (G cs))(hc:cs[off]?=G d):Ai P o [.ptr q off] σ d σ:=by
 refine A6 fun E g ρ w hw hds=>?_
 simp only[ho,Op.operands,AB] at hds
 obtain⟨u,e,h1⟩:=hds
 simp at e
 obtain⟨_,rfl⟩:=h1
 obtain⟨us,rest,et,hb,hr,_,_⟩:=hw.rep.obj q cs hH
 obtain⟨u',hu,hd⟩:=BA hr hc
 have hcell:w.cell? ⟨g.β q,off,none⟩=G u':=by grind[World.cell?]
 refine⟨u',?_,hd⟩
 simp[execOp,ho,e,Instr.loadAt,Instr.sureAddr,loadVar,Dg ht,hcell]
theorem Cq{g:Gh}:∀{cs:List D} {us:List yz},Af g cs us->∀(n:Nat),Af g (cs.drop n) (us.drop n)
 |[],us,h,n=>by grind[Af]
 |c0::cs,us,h,n=>by
  cases n with
  |zero=>grind
  |succ n=>
   obtain⟨u,us',rfl,h1,h2⟩:=h
   simpa using Cq h2 n
theorem Ce{g:Gh}:∀{cs:List D} {us:List yz},Af g cs us->∀(n:Nat),Af g (cs.take n) (us.take n)
 |[],us,h,n=>by grind[Af]
 |c0::cs,us,h,n=>by
  cases n with
  |zero=>simp[Af]
  |succ n=>
   obtain⟨u,us',rfl,h1,h2⟩:=h
   exact⟨u,_,rfl,h1,Ce h2 n⟩
theorem Rc{t:x6}{a:x8}(ho:o.op=.load t a){n:Nat}(ht:TS P t n){q off:Nat}{cs:List D}(hH:σ.H[q]?=G (G cs)){xs:List V}
  (hn:off+n<=I cs) (hc:Fx ((cs.drop off).take n)=G xs):Ai P o [.ptr q off] σ (.v (.agg xs)) σ:=by
 refine A6 fun E g ρ w hw hds=>?_
 simp only[ho,Op.operands,AB] at hds
 obtain⟨u,e,h1⟩:=hds
 simp at e
 obtain⟨_,rfl⟩:=h1
 obtain⟨us,rest,et,hb,hr,h1,_⟩:=hw.rep.obj q cs hH
 have hra:=GU hc (Ce (Cq hr off) n) (fun c hc'=>h1 c (List.mem_of_mem_drop (Ji hc')))
 have hl:I us=I cs:=A1 hr
 have hld:=run_loadCells_list (P:=P) w ⟨g.β q,off,none⟩ ((us.drop off).take n) (fun j v hj=>by
  grind[World.cell?,Addr.add])
 have hlen:I ((us.drop off).take n)=n:=by grind
 rw[hlen] at hld
 refine⟨.agg ((us.drop off).take n).toArray,?_,by grind[Ag,Db]⟩
 simp only[execOp,ho,e,Instr.loadAt,Instr.sureAddr,loadVar,Sem.run_bind,Sem.run_pure,Result.andThen_ok,Dg ht,dw ht,hld,IT]
theorem AaT{s:x6}{x:x8}{f:Nat}(ho:o.op=.fieldAddr s x f){fo n:Nat}{b:Bool}(hf:Ru P s f=G (fo,n,b))(hn:n≠0){q off:Nat}:Ai P o [.ptr q off] σ (.ptr q (off+fo)) σ:=by
 refine A6 fun E g ρ w hw hds=>?_
 simp only[ho,Op.operands,AB] at hds
 obtain⟨u,e,h1⟩:=hds
 simp at e
 obtain⟨hq,rfl⟩:=h1
 obtain⟨fs,y,hs,hy,hoff,hz⟩:=JA hf
 refine⟨.pointer (G ⟨g.β q,off+fo,none⟩),?_,by grind[Ag]⟩
 simp[execOp,ho,e,Instr.fieldAt,run_underlying hs,hy,Instr.sureAddr,fieldPlace,dw hz,hn,Addr.add_lit,hoff]
theorem FT{s:x6}{x:x8}{f:Nat}(ho:o.op=.fieldAddr s x f){fo n:Nat}{b:Bool}(hf:Ru P s f=G (fo,n,b))(hn:n≠0)(hn1:b=O->n=1){cs:List V}{y:V}(hp:M1 cs fo n b=G y):
  Ai P o [.v (.ref (.agg cs))] σ (.v (.ref y)) σ:=by
 refine A6 fun E g ρ w hw hds=>?_
 simp only[ho,Op.operands,AB] at hds
 obtain⟨u,e,h1⟩:=hds
 simp at e
 simp only[Ag,DB] at h1
 obtain⟨bb,off,us,rfl,hi,hr⟩:=h1
 obtain⟨fs,z,hs,hy,hoff,hz⟩:=JA hf
 obtain⟨h3,_,_⟩:=M0 hp hr hn1
 refine⟨.pointer (G ⟨bb,off+fo,none⟩),?_,by simp only[Ag,DB];grind[fe]⟩
 simp[execOp,ho,e,Instr.fieldAt,run_underlying hs,hy,Instr.sureAddr,fieldPlace,dw hz,hn,Addr.add_lit,hoff]
theorem US{M:c6}{t:x6}{n:Nat}{b:Bool}(hz:DU P t=G (n,b)){cs:List V}{us:List yz}{fo:Nat}{y:V}(hp:M1 cs fo n b=G y)(hr:repA M cs us)(hn1:b=O->n=1)(w:x5):
  ∃u,(part t us.toArray fo).run P w=.ok u w/\repV M y u:=by
 obtain⟨h3,ha,hl⟩:=M0 hp hr hn1
 cases b with
 |true=>
  refine⟨.agg ((us.drop fo).take n).toArray,?_,?_⟩
  ·simp only[part,Sem.run_bind,Dg hz,dw hz,Result.andThen_ok,IT,Sem.run_pure]
   grind
  ·cases y<;>grind[Db,repC,V.isAgg]
 |false=>
  obtain⟨u,e1,_,_⟩:=Dc ha h3
  have hu:us[fo]?=G u:=by
   have:((us.drop fo).take 1)[0]?=G u:=by grind
   grind
  refine⟨u,?_,(BJ ha).2 (by grind)⟩
  simp[part,Dg hz,hu]
theorem Afs{s:x6}{x:x8}{f:Nat}(ho:o.op=.field s x f){fo n:Nat}{b:Bool}(hf:Ru P s f=G (fo,n,b))(hn1:b=O->n=1){cs:List V}{y:V}(hp:M1 cs fo n b=G y):
  Ai P o [.v (.agg cs)] σ (.v y) σ:=by
 refine A6 fun E g ρ w hw hds=>?_
 simp only[ho,Op.operands,AB] at hds
 obtain⟨u,e,h1⟩:=hds
 simp at e
 simp only[Ag,Db] at h1
 obtain⟨us,hr,rfl⟩:=h1
 obtain⟨fs,z,hs,hy,hoff,hz⟩:=JA hf
 obtain⟨v,hrun,hv⟩:=US hz hp hr hn1 w
 refine⟨v,?_,by grind[Ag]⟩
 simp only[execOp,ho,e,Instr.field,Sem.run_bind,run_underlying hs,Result.andThen_ok,hy,asAgg,Sem.run_pure,hoff,hrun]
theorem Ajp{t:x6}{x ix:x8}(ho:o.op=.indexAddr t x ix){e:x6}{sz by':Nat}{z:Option yz}(hs:BS P t=G (e,sz,by',z)){xs:List V}{y:V}{k:yv}{i:Int}(h0:0<=i)
  (hx:xs[i.toNat]?=G y) (hy:y.size=sz):Ai P o [.v (.list xs),.v (.int k i)] σ (.v (.ref y)) σ:=by
 refine A6 fun E g ρ w hw hds=>?_
 simp only[ho,Op.operands,Au] at hds
 obtain⟨u,v,eq,h1,h2⟩:=hds
 simp only[Ik,IF,HV,Ix] at eq
 obtain⟨e1,e2⟩:=eq
 simp only[Ag,AC,B4] at h1 h2
 subst h2
 obtain⟨a,cap,rfl,hc,h1⟩:=h1
 have hlt:i.toNat<I xs:=(HL.1 hx).1
 rcases h1 with rfl|⟨b,off,sz',us,rfl,hsz,hi,hr⟩
 ·grind
 obtain⟨inf,hu,hinf,hsize,_,_⟩:=AF hs
 obtain⟨u1,hc1,hl1,hg⟩:=UW hr hx
 have hss:sz'=sz:=by grind[GB]
 subst hss
 refine⟨.pointer (G ⟨b,off+i.toNat*sz',none⟩),?_,?_⟩
 ·have hlt':i<(I xs:Int):=by omega
  simp[execOp,ho,e1,e2,Instr.indexAt,asIntOf,run_underlying hu,h0,hlt',sizeOf,typeInfo,hinf,hsize,Addr.add_lit]
 grind[Ag,DB,fe]
theorem Ajq{t:x6}{x ix:x8}(ho:o.op=.indexAddr t x ix){e:x6}{sz by':Nat}{z:Option yz}(hs:BS P t=G (e,sz,by',z)){q off len:Nat}{k:yv}{i:Int}(h0:0<=i)(h1:i<len):
  Ai P o [.arr q off len,.v (.int k i)] σ (.ptr q (off+i.toNat*sz)) σ:=by
 refine A6 fun E g ρ w hw hds=>?_
 simp only[ho,Op.operands,Au] at hds
 obtain⟨u,v,eq,h1',h2⟩:=hds
 simp only[Ik,IF,HV,Ix] at eq
 obtain⟨e1,e2⟩:=eq
 simp only[Ag,AC] at h1' h2
 subst h2
 obtain⟨hq,cap,hc,rfl⟩:=h1'
 obtain⟨inf,hu,hinf,hsize,_,_⟩:=AF hs
 refine⟨.pointer (G ⟨g.β q,off+i.toNat*sz,none⟩),?_,by grind[Ag]⟩
 simp[execOp,ho,e1,e2,Instr.indexAt,asIntOf,run_underlying hu,h0,h1,sizeOf,typeInfo,hinf,hsize,Addr.add_lit]
theorem Afr{t:x6}{x ix:x8}(ho:o.op=.indexAddr t x ix){len sz:Nat}{b:Bool}(hs:oo P t=G (len,sz,b)){q off:Nat}{k:yv}{i:Int}(h0:0<=i)(h1:i<len):
  Ai P o [.ptr q off,.v (.int k i)] σ (.ptr q (off+i.toNat*sz)) σ:=by
 refine A6 fun E g ρ w hw hds=>?_
 simp only[ho,Op.operands,Au] at hds
 obtain⟨u,v,eq,h1',h2⟩:=hds
 simp only[Ik,IF,HV,Ix] at eq
 obtain⟨e1,e2⟩:=eq
 simp only[Ag,AC] at h1' h2
 subst h2
 obtain⟨hq,rfl⟩:=h1'
 obtain⟨e,hu,hz⟩:=Lc hs
 refine⟨.pointer (G ⟨g.β q,off+i.toNat*sz,none⟩),?_,by grind[Ag]⟩
 simp[execOp,ho,e1,e2,Instr.indexAt,asIntOf,run_underlying hu,h0,h1,dw hz,Addr.add_lit,Instr.sureAddr]
theorem Afq{t:x6}{x ix:x8}(ho:o.op=.indexAddr t x ix){len sz:Nat}{b:Bool}(hs:oo P t=G (len,sz,b))(hn1:b=O->sz=1){cs:List V}{y:V}{k:yv}{i:Int}(h0:0<=i)(h1:i<len)
  (hp:M1 cs (i.toNat*sz) sz b=G y):Ai P o [.v (.ref (.agg cs)),.v (.int k i)] σ (.v (.ref y)) σ:=by
 refine A6 fun E g ρ w hw hds=>?_
 simp only[ho,Op.operands,Au] at hds
 obtain⟨u,v,eq,h1',h2⟩:=hds
 simp only[Ik,IF,HV,Ix] at eq
 obtain⟨e1,e2⟩:=eq
 simp only[Ag,AC,DB] at h1' h2
 subst h2
 obtain⟨bb,off,us,rfl,hi,hr⟩:=h1'
 obtain⟨e,hu,hz⟩:=Lc hs
 obtain⟨h3,_,_⟩:=M0 hp hr hn1
 refine⟨.pointer (G ⟨bb,off+i.toNat*sz,none⟩),?_,by grind[Ag,DB,VF,VG]⟩
 simp[execOp,ho,e1,e2,Instr.indexAt,asIntOf,run_underlying hu,h0,h1,dw hz,Addr.add_lit,Instr.sureAddr]
theorem Ajo{t:x6}{x ix:x8}(ho:o.op=.index t x ix)(ht:P.underlying t=G .string){s:List UInt8}{k:yv}{i:Int}{c:UInt8}(h0:0<=i)(hc:s[i.toNat]?=G c):
  Ai P o [.v (.str s),.v (.int k i)] σ (.v (.int .u8 c.toNat)) σ:=by
 refine A6 fun E g ρ w hw hds=>?_
 simp only[ho,Op.operands,Au] at hds
 obtain⟨u,v,eq,h1',h2⟩:=hds
 simp only[Ik,IF,HV,Ix] at eq
 obtain⟨e1,e2⟩:=eq
 simp only[Ag,AC,Dt] at h1' h2
 subst h1' h2
 refine⟨.int .u8 c.toNat,?_,by simp[Ag]⟩
 have hlt:i.toNat<I s:=(HL.1 hc).1
 have hb:(⟨s.toArray⟩:ByteArray)[i.toNat]?=G c:=by
  rw[getElem?_pos _ _ (by grind[SP])]
  have:=(HL.1 hc).2
  rw[←this];rfl
 simp[execOp,ho,e1,e2,Instr.index,asIntOf,run_underlying ht,h0,hb]
theorem Ajn{t:x6}{x ix:x8}(ho:o.op=.index t x ix){len sz:Nat}{b:Bool}(hs:oo P t=G (len,sz,b))(hn1:b=O->sz=1){cs:List V}{y:V}{k:yv}{i:Int}(h0:0<=i)(h1:i<len)
  (hp:M1 cs (i.toNat*sz) sz b=G y):Ai P o [.v (.agg cs),.v (.int k i)] σ (.v y) σ:=by
 refine A6 fun E g ρ w hw hds=>?_
 simp only[ho,Op.operands,Au] at hds
 obtain⟨u,v,eq,h1',h2⟩:=hds
 simp only[Ik,IF,HV,Ix] at eq
 obtain⟨e1,e2⟩:=eq
 simp only[Ag,AC,Db] at h1' h2
 subst h2
 obtain⟨us,hr,rfl⟩:=h1'
 obtain⟨e,hu,hz⟩:=Lc hs
 obtain⟨v,hrun,hv⟩:=US hz hp hr hn1 w
 refine⟨v,?_,by grind[Ag]⟩
 simp[execOp,ho,e1,e2,Instr.index,asIntOf,run_underlying hu,h0,h1,dw hz,hrun]
end
theorem WI.update{E:cd}{g g':Gh}{σ σ':St}{w w':x5}(hw:WI E g σ w)(X:Nat->Prop)(hX:∀b,X b->E.w.heap.size<=b∨E.priv b)
  (keep:∀b,b<w.heap.size->¬X b->w'.heap[b]?=w.heap[b]?/\∀o,g'.M b o=g.M b o)
  (hle:g.M.le g'.M) (hn:g.n<=g'.n) (hβ:∀o,o<g.n->g'.β o=g.β o) (hκ:∀o,o<g.n->g'.κ o=g.κ o) (size:w.heap.size<=w'.heap.size) (os:w'.os=w.os) (tape:w'.tape=w.tape) (output:w'.output=w.output)
  (rep:dm g' σ' w') (objs:∀i cs,σ'.H[i]?=G (G cs)->E.w.heap.size<=g'.β i∨E.priv (g'.β i))
  (owns:∀x∈σ'.own,∀u,g'.ι x.1 (I x.2.2)=G u->∀b,Co u=G b->E.w.heap.size<=b∨E.priv b)
  (drawn:BO w.drawn w'.drawn:=by first|exact BO.refl _|exact BO.succ _|assumption):WI E g' σ' w' where
 rep:=rep
 M:=c6.le_trans hw.M hle
 size:=IE hw.size size
 keep:=fun b hb hp=>by
  grind[keep]
 os:=os.trans hw.os
 tape:=tape.trans hw.tape
 output:=output.trans hw.output
 nE:=IE hw.nE hn
 βE:=fun o ho=>(hβ o (Jm ho hw.nE)).trans (hw.βE o ho)
 κE:=fun o ho=>(hκ o (Jm ho hw.nE)).trans (hw.κE o ho)
 objs:=objs
 owns:=owns
 drawn:=hw.drawn.trans drawn
theorem ML{w:x5}{b:Nat}{o:Obj}(h:w.heap[b]?=G o):b<w.heap.size:=by grind
theorem dm.mem_lt{g:Gh}{σ:St}{w:x5}(h:dm g σ w){b o:Nat}{v:yz}(hm:g.M b o=G v):b<w.heap.size:=
 World.block_lt_of_cell? w ⟨b,o,none⟩ (h.mem b o v hm)
theorem dm.new_none{g:Gh}{σ:St}{w:x5}(h:dm g σ w){b:Nat}(hb:w.heap.size<=b)(o:Nat):g.M b o=none:=by
 cases e:g.M b o with
 |none=>rfl
 |some v=>have:=h.mem_lt e;omega
theorem dm.own_lt{g:Gh}{σ:St}{w:x5}(h:dm g σ w){x:Nat×Nat×List V}(hx:x∈σ.own){u:yz}(hu:g.ι x.1 (I x.2.2)=G u){b:Nat}(hb:Co u=G b):b<w.heap.size:=by
 obtain⟨_,u',hu',_,hp,_⟩:=h.own x.1 x.2.1 x.2.2 hx
 obtain rfl:u=u':=by grind
 rcases hp with⟨a,rfl⟩|⟨b',f,len,cap,cur,e,rfl,hh,_⟩
 ·cases a<;>simp[Co] at hb
 grind[Co]
theorem dm.obj_lt{g:Gh}{σ:St}{w:x5}(h:dm g σ w){i:Nat}{cs:List D}(hi:σ.H[i]?=G (G cs)):g.β i<w.heap.size:=by
 obtain⟨us,rest,e,hb,_⟩:=h.obj i cs hi
 grind
theorem dm.lt_n{g:Gh}{σ:St}{w:x5}(h:dm g σ w){i:Nat}{cs:List D}(hi:σ.H[i]?=G (G cs)):i<g.n:=by
 rw[h.n];grind
theorem Perm.kept{M M':c6}{w w':x5}{sz:Nat}{u:yz}(h:Perm M w sz u)(hk:∀b,Co u=G b->w'.heap[b]?=w.heap[b]?/\∀o,M' b o=M b o):Perm M' w' sz u:=by
 rcases h with⟨a,rfl⟩|⟨b,f,len,cap,cur,e,rfl,hh,hl,hc,hM⟩
 ·exact .inl ⟨a,rfl⟩
 ·by_cases h0:cap=0
  ·grind[Perm]
  ·obtain⟨h1,h2⟩:=hk b (by grind[Co])
   exact .inr ⟨b,f,len,cap,cur,e,rfl,h1.trans hh,hl,hc,fun o ho=>(h2 o).trans (hM o ho),hM.ng⟩
theorem dm.obj_ng{g:Gh}{σ:St}{w:x5}(h:dm g σ w){i:Nat}{cs:List D}(hi:σ.H[i]?=G (G cs)):∀p∈Gy,p.1≠g.β i:=fun p hp e=>by
 obtain⟨v,hv⟩:=h.gl.sized p hp
 obtain⟨_,_,_,_,_,_,hM,_⟩:=h.obj i cs hi
 grind
theorem Perm.ng{M:c6}{w:x5}{sz:Nat}{u:yz}(_:Perm M w sz u){b:Nat}(_:Co u=G b):∀p∈Gy,p.1≠b:=by
 grind[Gy]
theorem dm.own_ng{g:Gh}{σ:St}{w:x5}(_:dm g σ w){k sz:Nat}{xs:List V}(_:(k,sz,xs)∈σ.own){u:yz}(_:g.ι k (I xs)=G u){b:Nat}(_:Co u=G b):∀p∈Gy,p.1≠b:=by
 grind[Gy]
theorem GW.lt{w:x5}(h:GW w){p:Nat×Nat}(hp:p∈Gy):p.1<w.heap.size:=by
 obtain⟨cs,e,x,h1,_⟩:=h p hp
 grind
theorem GW.new{w:x5}(h:GW w){b:Nat}(hb:w.heap.size<=b):∀p∈Gy,p.1≠b:=fun p hp e=>by have:=h.lt hp;omega
theorem dm.grow{g:Gh}{σ:St}{w w':x5}(h:dm g σ w){M':c6}(hle:g.M.le M')(keep:∀b,b<w.heap.size->w'.heap[b]?=w.heap[b]?/\∀o,M' b o=g.M b o)
  (mem:∀b o v,M' b o=G v->w'.cell? ⟨b,o,none⟩=G v):dm { g with M:=M' } σ w':=by
 have hg:g.le { g with M:=M' }:=⟨hle,HP _,fun _ _=>rfl,fun _ _ _ h=>h,fun _ _=>rfl⟩
 refine⟨h.n,mem,fun i cs hi=>?_,h.inj,fun k sz xs hx=>?_,h.tags,h.sep,h.ownObj,h.fresh,h.gl.mono hle,h.gw.keep fun b hb=>(keep b hb).1⟩
 ·obtain⟨us,rest,e,hb,hr,h1,hM,hκ⟩:=h.obj i cs hi
  grind[Af.mono]
 ·obtain⟨h0,u,hu,hr,hp,hf⟩:=h.own k sz xs hx
  exact⟨h0,u,hu,hr.mono hle,hp.kept fun b hb=>keep b (h.own_lt hx hu hb),hf⟩
theorem WI.grow{E:cd}{g:Gh}{σ:St}{w w':x5}(hw:WI E g σ w){M':c6}(hle:g.M.le M')(keep:∀b,b<w.heap.size->w'.heap[b]?=w.heap[b]?/\∀o,M' b o=g.M b o)
  (mem:∀b o v,M' b o=G v->w'.cell? ⟨b,o,none⟩=G v) (size:w.heap.size<=w'.heap.size) (os:w'.os=w.os) (tape:w'.tape=w.tape) (output:w'.output=w.output) (drawn:BO w.drawn w'.drawn:=by first|exact BO.refl _|exact BO.succ _|assumption):WI E { g with M:=M' } σ w':=
 hw.update (fun _=>False) (fun _ h=>h.elim) (fun b hb _=>keep b hb) hle (HP _) (fun _ _=>rfl) (fun _ _=>rfl) size os tape output (hw.rep.grow hle keep mem) hw.objs hw.owns
theorem O7(w:x5)(o:Obj){b i:Nat}{v:yz}(h:w.cell? ⟨b,i,none⟩=G v):(w.alloc o).cell? ⟨b,i,none⟩=G v:=by
 grind[World.cell?,World.alloc]
theorem WI.alloc{E:cd}{g:Gh}{σ:St}{w:x5}(hw:WI E g σ w)(o:Obj):WI E g σ (w.alloc o):=by
 have:=hw.grow (w':=w.alloc o) (M':=g.M) (c6.le_refl _) (fun b hb=>⟨heap_alloc_old w o b hb,fun _=>rfl⟩) (fun b i v h=>O7 w o (hw.rep.mem b i v h)) (by simp) rfl rfl rfl
 omega
theorem WI.drew{E:cd}{g:Gh}{σ:St}{w:x5}(hw:WI E g σ w):WI E g σ w.drew:=by
 have:=hw.grow (w':=w.drew) (M':=g.M) (c6.le_refl _) (fun b hb=>⟨rfl,fun _=>rfl⟩) (fun b i v h=>hw.rep.mem b i v h) (HP _) rfl rfl rfl
 omega
theorem WI.addObj{E:cd}{g:Gh}{σ:St}{w:x5}(hw:WI E g σ w){b:Nat}{us rest:List yz}{e:x6}{cs:List D}(hb:w.heap[b]?=G (.cells (us++rest).toArray e (0,0)))(hE:E.w.heap.size<=b∨E.priv b)(hM:∀o,g.M b o=none)
  (hno:∀i cs,σ.H[i]?=G (G cs)->g.β i≠b) (hown:∀x∈σ.own,∀u,g.ι x.1 (I x.2.2)=G u->Co u≠G b) (hr:Af g cs us) (h1:∀c∈cs,c.one=J):
  WI E { g with n:=g.n+1,β:=fun o=>if o=g.n then b else g.β o,κ:=fun o=>if o=g.n then(us++rest).length else g.κ o } ⟨σ.H++[G cs],σ.own⟩ w/\g.le { g with n:=g.n+1,β:=fun o=>if o=g.n then b else g.β o,κ:=fun o=>if o=g.n then(us++rest).length else g.κ o }:=by
 have hle:g.le { g with n:=g.n+1,β:=fun o=>if o=g.n then b else g.β o,κ:=fun o=>if o=g.n then(us++rest).length else g.κ o }:=⟨c6.le_refl _,Nat.le_succ _,fun o ho=>HZ (by omega),fun _ _ _ h=>h,fun o ho=>HZ (by omega)⟩
 have split:∀i cs',(σ.H++[G cs])[i]?=G (G cs')->(σ.H[i]?=G (G cs')/\i<g.n)∨(i=g.n/\cs'=cs):=by
  intro i cs' hi
  by_cases hlt:i<I σ.H
  ·rw[Ig hlt] at hi
   exact .inl ⟨hi,by rw[hw.rep.n];omega⟩
  ·rw[Ib (by omega)] at hi
   have:i-I σ.H=0:=by
    grind
   rw[this] at hi
   simp at hi
   exact .inr ⟨by rw[hw.rep.n];omega,hi.symm⟩
 refine⟨hw.update (fun _=>False) (fun _ h=>h.elim) (fun _ _ _=>⟨rfl,fun _=>rfl⟩) (c6.le_refl _) (Nat.le_succ _) (fun o ho=>HZ (by omega)) (fun o ho=>HZ (by omega)) (HP _) rfl rfl rfl ?_ ?_ hw.owns,hle⟩
 ·refine⟨by simp[hw.rep.n],hw.rep.mem,fun i cs' hi=>?_,fun i j cs1 cs2 hi hj hij=>?_,hw.rep.own,hw.rep.tags,hw.rep.sep,fun x hx u hu b' hb' i cs' hi=>?_,hw.rep.fresh,hw.rep.gl,hw.rep.gw⟩
  ·rcases split i cs' hi with⟨h,hlt⟩|⟨rfl,rfl⟩
   ·obtain⟨us',rest',e',h2,h3,h4,h5,h6⟩:=hw.rep.obj i cs' h
    grind[Af.mono]
   grind[Af.mono]
  ·rcases split i cs1 hi with⟨h,hlt⟩|⟨rfl,rfl⟩<;>rcases split j cs2 hj with⟨h',hlt'⟩|⟨rfl,rfl⟩
   ·simp only[HZ (show ¬i=g.n by omega),HZ (show ¬j=g.n by omega)] at hij
    exact hw.rep.inj i j _ _ h h' hij
   all_goals grind
  ·rcases split i cs' hi with⟨h,hlt⟩|⟨rfl,rfl⟩
   ·simp only[HZ (show ¬i=g.n by omega)]
    exact hw.rep.ownObj x hx u hu b' hb' i cs' h
   grind
 ·intro i cs' hi
  rcases split i cs' hi with⟨h,hlt⟩|⟨rfl,rfl⟩
  ·simp only[HZ (show ¬i=g.n by omega)];exact hw.objs i cs' h
  grind
theorem WI.addOwn{E:cd}{g:Gh}{σ:St}{w:x5}(hw:WI E g σ w){k sz:Nat}{xs:List V}{u:yz}(hk:∀x∈σ.own,x.1≠k)(hsz:0<sz/\∀x∈xs,x.size=sz)(hr:repV g.M (.list xs) u)(hp:Perm g.M w sz u)
  (hb:∀b,Co u=G b->E.w.heap.size<=b/\(∀i cs,σ.H[i]?=G (G cs)->g.β i≠b)/\∀x∈σ.own,∀u',g.ι x.1 (I x.2.2)=G u'->Co u'≠G b):
  WI E { g with ι:=fun k' m=>if k'=k then(if m=I xs then G u else none) else g.ι k' m } ⟨σ.H,(k,sz,xs)::σ.own⟩ w/\
  g.le { g with ι:=fun k' m=>if k'=k then(if m=I xs then G u else none) else g.ι k' m }:=by
 have hle:g.le { g with ι:=fun k' m=>if k'=k then(if m=I xs then G u else none) else g.ι k' m }:=by
  refine⟨c6.le_refl _,HP _,fun _ _=>rfl,fun k' m u' h=>?_,fun _ _=>rfl⟩
  by_cases e:k'=k
  ·subst e;rw[hw.rep.fresh k' hk m] at h;grind
  grind
 have hold:∀x∈σ.own,(if x.1=k then(if I x.2.2=I xs then G u else none) else g.ι x.1 (I x.2.2))=g.ι x.1 (I x.2.2):=fun x hx=>HZ (hk x hx)
 refine⟨hw.update (fun _=>False) (fun _ h=>h.elim) (fun _ _ _=>⟨rfl,fun _=>rfl⟩) (c6.le_refl _) (HP _) (fun _ _=>rfl) (fun _ _=>rfl) (HP _) rfl rfl rfl ?_ hw.objs ?_,hle⟩
 ·refine⟨hw.rep.n,hw.rep.mem,fun i cs hi=>?_,hw.rep.inj,fun k' sz' xs' hx=>?_,?_,fun x hx y hy hne u1 u2 h1 h2 b hb1=>?_,fun x hx u1 h1 b hb1 i cs hi=>?_,fun k' hk' m=>?_,hw.rep.gl,hw.rep.gw⟩
  ·obtain⟨us,rest,e,h2,h3,h4,h5⟩:=hw.rep.obj i cs hi
   grind[Af.mono]
  ·rcases Iz.1 hx with e|hx
   ·grind
   ·obtain⟨h0,u',hu,h3,h4,h5⟩:=hw.rep.own k' sz' xs' hx
    grind
  ·simp only[Ik,List.nodup_cons]
   refine⟨fun h=>?_,hw.rep.tags⟩
   grind
  ·rcases Iz.1 hx with rfl|hx<;>rcases Iz.1 hy with rfl|hy
   ·omega
   ·grind
   ·grind
   ·exact hw.rep.sep x hx y hy hne u1 u2 ((hold x hx).symm.trans h1) ((hold y hy).symm.trans h2) b hb1
  ·rcases Iz.1 hx with rfl|hx
   ·grind
   ·exact hw.rep.ownObj x hx u1 ((hold x hx).symm.trans h1) b hb1 i cs hi
  ·have hne:¬k'=k:=fun e=>hk' (k,sz,xs) (by simp) e.symm
   simp only[HZ hne]
   exact hw.rep.fresh k' (fun x hx=>hk' x (by grind)) m
 ·intro x hx u1 h1 b hb1
  rcases Iz.1 hx with rfl|hx
  ·grind
  ·exact hw.owns x hx u1 ((hold x hx).symm.trans h1) b hb1
def Az:D->List D
 |.v (.agg xs)=>xs.map .v
 |.dagg cs=>cs
 |d=>[d]
def D.sto:D->Bool
 |.v _|.acc .. |.ptr .. |.arr .. |.gro .. |.dfn .. =>true
 |.dagg cs=>cs.all D.one
 |.raw x=>x.oneCell'
 |.rv x _=> !x.isAgg
 |_=>false
theorem DL{g:Gh}:∀{xs:List V} {us:List yz},repA g.M xs us->Af g (xs.map .v) us/\∀c∈xs.map bt,c.one=J
 |[],us,h=>by grind[repA,Af]
 |x::xs,us,h=>by
  obtain⟨u,us',rfl,ha,h1,h2⟩:=h
  obtain⟨h3,h4⟩:=DL h2
  grind[Af,Ag,BJ,D.one]
theorem N2{u:yz}(h:u.oneCell'=J):u.cells= #[u]:=by cases u<;>simp_all [Value.cells,Value.oneCell']
theorem FD{g:Gh}{d:D}{u:yz}(h1:d.one=J)(h:Ag g d u):u.oneCell'=J:=by
 cases d with
 |v x=>grind[Ag,D3,D.one]
 |acc k xs=>exact D3 (x:=.list xs) rfl h.1
 |ptr q off=>rw[h.2];rfl
 |arr q off len=>grind[Ag,Value.oneCell']
 |gro q len sz=>grind[Ag,Value.oneCell']
 |dfn f fs cs=>grind[Ag,Value.oneCell']
 |raw x=>grind[Ag,D.one]
 |rv x u0=>grind[Ag,D3,D.one]
 |dagg cs=>grind[D.one]
 |tup ds=>grind[D.one]
 |err=>grind[D.one]
 |undef=>grind[D.one]
theorem Cp{g:Gh}:∀{cs:List D} {us:List yz},(∀c∈cs,c.one=J)->Af g cs us->∀u∈us,u.oneCell'=J
 |[],us,_,h=>by grind[Af]
 |c::cs,us,h1,h=>by
  obtain⟨u,us',rfl,h2,h3⟩:=h
  intro x hx
  simp only[Iz] at hx
  rcases hx with rfl|hx
  ·exact FD (h1 c (by simp)) h2
  ·exact Cp (fun c hc=>h1 c (by simp[hc])) h3 x hx
theorem cells_rep{g:Gh}{d:D}{u:yz}(hs:d.sto=J)(h:Ag g d u):Af g (Az d) u.cells.toList/\(∀c∈Az d,c.one=J)/\(∀x∈u.cells.toList,x.oneCell'=J):=by
 have one:d.one=J->u.oneCell'=J->Az d=[d]->Af g (Az d) u.cells.toList/\(∀c∈Az d,c.one=J)/\(∀x∈u.cells.toList,x.oneCell'=J):=by
  grind[N2,Af]
 cases d with
 |v x=>
  cases hx:x.isAgg with
  |false=>exact one (by grind[D.one]) (by grind[Ag,D3]) (by cases x with|agg _=>grind[V.isAgg]|_=>rfl)
  |true=>
   cases x<;>grind[Ag,Db,Az,Value.cells,DL,HB,V.isAgg]
 |acc k xs=>exact one rfl (by exact D3 (x:=.list xs) rfl h.1) rfl
 |ptr q off=>exact one rfl (by rw[h.2];rfl) rfl
 |arr q off len=>grind[Ag,Az,D.one,Value.oneCell']
 |dfn f fs cs=>grind[Ag,Az,D.one,Value.oneCell']
 |gro q len sz=>exact one rfl (FD rfl h) rfl
 |rv x u0=>grind[D.sto,D.one,FD,Az]
 |raw x=>grind[D.sto,D.one,FD,Az]
 |dagg cs=>
  grind[Ag,D.sto,Az,Value.cells,Cp]
 |tup ds=>grind[D.sto]
 |err=>grind[D.sto]
 |undef=>grind[D.sto]
theorem WI.setObj{E:cd}{g:Gh}{σ:St}{w w':x5}(hw:WI E g σ w){q:Nat}{cs cs':List D}(hq:σ.H[q]?=G (G cs)){us rest:List yz}{e:x6}(hb:w'.heap[g.β q]?=G (.cells (us++rest).toArray e (0,0)))(hκ:I (us++rest)=g.κ q)
  (hr:Af g cs' us) (h1:∀c∈cs',c.one=J) (keep:∀b,b≠g.β q->w'.heap[b]?=w.heap[b]?) (size:w'.heap.size=w.heap.size) (os:w'.os=w.os) (tape:w'.tape=w.tape) (output:w'.output=w.output) (drawn:BO w.drawn w'.drawn:=by first|exact BO.refl _|exact BO.succ _|assumption):
  WI E g ⟨σ.H.set q (G cs'),σ.own⟩ w':=by
 have hMq:∀o,g.M (g.β q) o=none:=by obtain⟨_,_,_,_,_,_,h,_⟩:=hw.rep.obj q cs hq;exact h
 have split:∀(i:Nat) (cs1:List D),(σ.H.set q (G cs'))[i]?=G (G cs1)->(i=q/\cs1=cs')∨(i≠q/\σ.H[i]?=G (G cs1)):=by
  grind
 have live:∀(i:Nat) (cs1:List D),(σ.H.set q (G cs'))[i]?=G (G cs1)->∃cs2,σ.H[i]?=G (G cs2):=by
  grind
 refine hw.update (fun b=>b=g.β q) (fun b e=>by subst e;exact hw.objs q cs hq) (fun b _ hne=>⟨keep b hne,fun _=>rfl⟩) (c6.le_refl _) (HP _) (fun _ _=>rfl) (fun _ _=>rfl) (by omega) os tape output ?_ ?_ hw.owns
 ·refine⟨by simp[hw.rep.n],fun b o v hm=>?_,fun i cs1 hi=>?_,fun i j c1 c2 hi hj hij=>?_,fun k sz xs hx=>?_,hw.rep.tags,hw.rep.sep,fun x hx u hu b hb' i cs1 hi=>?_,hw.rep.fresh,hw.rep.gl,hw.rep.gw.mono fun b cs0 e0 x0 hb0=>by
   by_cases hbq:b=g.β q
   ·obtain⟨us1,rest1,e1,h2,_,_,_,h3⟩:=hw.rep.obj q cs hq
    grind
   grind⟩
  ·have:=hw.rep.mem b o v hm
   grind[World.cell?]
  ·rcases split i cs1 hi with⟨rfl,rfl⟩|⟨hne,h⟩
   ·grind
   ·obtain⟨us',rest',e',h2,h3,h4,h5⟩:=hw.rep.obj i cs1 h
    refine⟨us',rest',e',?_,h3,h4,h5⟩
    rw[keep _ (fun e=>hne (hw.rep.inj i q _ _ h hq e))];exact h2
  ·obtain⟨c3,h3⟩:=live i c1 hi
   obtain⟨c4,h4⟩:=live j c2 hj
   exact hw.rep.inj i j _ _ h3 h4 hij
  ·obtain⟨h0,u,hu,h3,h4,h5⟩:=hw.rep.own k sz xs hx
   refine⟨h0,u,hu,h3,h4.kept fun b hb'=>⟨keep b ?_,fun _=>rfl⟩,h5⟩
   exact fun e=>hw.rep.ownObj _ hx u hu b hb' q cs hq e.symm
  ·obtain⟨c3,h3⟩:=live i cs1 hi
   exact hw.rep.ownObj x hx u hu b hb' i c3 h3
 ·intro i cs1 hi
  obtain⟨c3,h3⟩:=live i cs1 hi
  exact hw.objs i c3 h3
section
variable {P : x7} {o : yy} {σ : St} {d : D}
theorem WI.newObj{E:cd}{g:Gh}{w:x5}(hw:WI E g σ w){us:List yz}{cs:List D}(e:x6)(hr:Af g cs us)(h1:∀c∈cs,c.one=J):
  ∃g',WI E g' ⟨σ.H++[G cs],σ.own⟩ (w.alloc (.cells us.toArray e))/\g.le g'/\g'.β (I σ.H)=w.heap.size/\g'.n=I σ.H+1:=by
 have h2:=(hw.alloc (.cells us.toArray e)).addObj (b:=w.heap.size) (us:=us) (rest:=[]) (e:=e) (cs:=cs) (by grind[heap_alloc_new]) (.inl hw.size) (hw.rep.new_none (HP _))
  (fun i cs hi=>Nat.ne_of_lt (hw.rep.obj_lt hi)) (fun x hx u hu hb=>by have:=hw.rep.own_lt hx hu hb;omega) hr h1
 exact⟨_,h2.1,h2.2,by simp[hw.rep.n],by simp[hw.rep.n]⟩
theorem AlX{e:x6}{x:x8}(ho:o.op=.box e x)(hs:d.sto=J):Ai P o [d] σ (.ptr (I σ.H) 0) ⟨σ.H++[G (Az d)],σ.own⟩:=by
 intro E g a w K Q hw hds hK
 simp only[ho,Op.operands,AB] at hds
 obtain⟨u,eu,hd⟩:=hds
 simp at eu
 obtain⟨h2,h3,_⟩:=cells_rep hs hd
 obtain⟨g',hw',hle,hβ,hn⟩:=hw.newObj e h2 h3
 have:=hK g' _ (.pointer (G ⟨w.heap.size,0,none⟩)) hw' hle (by grind[Ag])
 unfold Oper.wp execOp
 simpa[ho,eu,Instr.box,newVar,newRow,Oper.upon] using this
def RR:yz->Option V
 |.int k n=>G (.int k n)
 |.bool b=>G (.bool b)
 |.string s=>G (.str s.data.toList)
 |.slice none 0 0=>G (.list [])
 |.nilFunc=>G .nilfn
 |.pointer none=>G .nilp
 |_=>none
def KW:List yz->Option (List V)
 |[]=>G []
 |u::us=>match RR u,KW us with
  |some x,some xs=>G (x::xs)
  |_,_=>none
theorem KX{M:c6}{u:yz}{x:V}(h:RR u=G x):x.isAgg=O/\repC M x [u]:=by
 unfold RR at h
 split at h<;>simp at h<;>subst h<;>simp[V.isAgg,repC]
theorem GI{M:c6}:∀{us:List yz} {xs:List V},KW us=G xs->repA M xs us
 |[],xs,h=>by grind[KW,repA]
 |u::us,xs,h=>by
  simp only[KW] at h
  split at h
  ·rename_i x xs' h1 h2
   simp at h;subst h
   obtain⟨h3,h4⟩:=KX (M:=M) h1
   exact⟨u,us,rfl,h3,h4,GI h2⟩
  grind
def YZ(P:x7)(t:x6):Option (List V):=
 match (P.info? t).bind (·.zero) with
 |some z=>KW z.cells.toList
 |none=>none
theorem LU{t:x6}{xs:List V}(h:YZ P t=G xs):∃i z,P.info? t=G i/\i.zero=G z/\KW z.cells.toList=G xs:=by
 unfold YZ at h
 split at h
 ·rename_i z hz
  cases hi:P.info? t<;>grind
 grind
theorem LD{t:x6}{x y:x8}(ho:o.op=.store t x y)(hs:d.sto=J){n:Nat}{b:Bool}(ht:DU P t=G (n,b))(hn:I (Az d)=n){q off:Nat}{cs:List D}(hq:σ.H[q]?=G (G cs))(hoff:off+n<=I cs):
  Ai P o [.ptr q off,d] σ .undef ⟨σ.H.set q (G (cs.take off++Az d++cs.drop (off+n))),σ.own⟩:=by
 intro E g a w K Q hw hds hK
 simp only[ho,Op.operands,Au] at hds
 obtain⟨u,v,eq,h1,h2⟩:=hds
 simp only[Ik,IF,HV,Ix] at eq
 obtain⟨e1,e2⟩:=eq
 simp only[Ag] at h1
 obtain⟨hlt,rfl⟩:=h1
 obtain⟨us,rest,e,hb,hr,hone,hM,hκ⟩:=hw.rep.obj q cs hq
 obtain⟨h3,h4,h5⟩:=cells_rep hs h2
 have hl:I us=I cs:=A1 hr
 have hl2:I v.cells.toList=n:=by grind[A1]
 have hst:=run_storeCells_at P (g.β q) off e v.cells.toList 0 (us++rest).toArray w hb (by grind) h5
 simp only[IG,hl2] at hst
 rw[show(us++rest).take off++v.cells.toList++(us++rest).drop (off+n)=(us.take off++v.cells.toList++us.drop (off+n))++rest from by
  grind] at hst
 have hw':=hw.setObj (cs':=cs.take off++Az d++cs.drop (off+n)) hq (us:=us.take off++v.cells.toList++us.drop (off+n)) (rest:=rest) (e:=e)
  (w':=w.setRow (g.β q) ((us.take off++v.cells.toList++us.drop (off+n))++rest).toArray) (setRow_heap w _ _ _ e _ hb) (by grind)
  (Aw (Aw (Ce hr off) h3) (Cq hr (off+n)))
  (fun c hc=>by
   grind)
  (fun b hb=>setRow_other w _ _ _ hb) (by simp) rfl rfl rfl
 have:=hK g _ undef hw' g.le_refl (by simp[Ag])
 have hsz:v.cells.size=n:=by omega
 unfold Oper.wp execOp
 simp only[ho,e1,e2,Instr.storeAt,Instr.sureAddr,Sem.run_bind,Sem.run_pure,Result.andThen_ok,storeVar,dw ht,hsz,ne_eq,not_true_eq_false,if_false,hst]
 exact this
theorem QY{t:x6}{x y:x8}(ho:o.op=.store t x y)(hs:d.one=J)(ht:Sp P t){q off:Nat}{cs:List D}(hq:σ.H[q]?=G (G cs))(hoff:off<I cs):
  Ai P o [.ptr q off,d] σ .undef ⟨σ.H.set q (G (cs.set off d)),σ.own⟩:=by
 have hc:Az d=[d]:=by
  cases d with
  |v x=>cases x<;>simp_all [D.one,Az,V.isAgg]
  |dagg cs=>grind[D.one]
  |_=>rfl
 have hs':d.sto=J:=by cases d<;>simp_all [D.one,D.sto]
 have h:=LD (P:=P) (σ:=σ) (n:=1) (off:=off) ho hs' ht (by grind) hq (by omega)
 grind[List.set_eq_take_append_cons_drop]
def V.cellsV:V->List V
 |.agg cs=>cs
 |x=>[x]
theorem Ms{M:c6}{x:V}{u:yz}(h:repV M x u):repA M x.cellsV u.cells.toList/\u.cells.size=x.size:=by
 have hc:=KB h
 have hl:u.cells.size=x.size:=by grind[Array.length_toList,GB]
 refine⟨?_,hl⟩
 cases hx:x.isAgg with
 |true=>
  cases x<;>grind[V.cellsV,repC,V.isAgg]
 |false=>
  have e:x.cellsV=[x]:=by cases x<;>simp_all [V.cellsV,V.isAgg]
  grind[Dc,repA]
def Hh(place:Nat->Option (Nat×Nat))(cells:List V):List (Nat×V)->Option (List V)
 |[]=>G cells
 |(i,x)::rest=>
  match place i with
  |none=>none
  |some (off,size)=>if x.size=size/\off+size<=I cells then Hh place (cells.take off++x.cellsV++cells.drop (off+size)) rest else none
theorem Oo{place place':Nat->Option (Nat×Nat)}{out:List V}(hp:∀i p,place i=G p->place' i=G p):∀(xs:List (Nat×V)) (cells:List V),Hh place cells xs=G out->Hh place' cells xs=G out
 |[],cells,h=>by grind[Hh]
 |(i,x)::xs,cells,h=>by
  simp only[Hh] at h⊢
  cases hi:place i with
  |none=>grind
  |some p=>
   rw[hp i p hi]
   simp only[hi] at h⊢
   split at h
   ·rename_i hc;rw[Ie hc];exact Oo hp xs _ h
   grind
theorem J8{M:c6}:∀{xs ys:List V} {us vs:List yz},repA M xs us->repA M ys vs->repA M (xs++ys) (us++vs)
 |[],ys,us,vs,h,h'=>by grind[repA]
 |x::xs,ys,us,vs,h,h'=>by
  obtain⟨u,us1,rfl,ha,h1,h2⟩:=h
  exact⟨u,_,rfl,ha,h1,J8 h2 h'⟩
theorem ZT(off:Nat)(l:List yz)(cs:Array yz)(h:off+I l<=cs.size):
  ((l.zipIdx 0).foldl (fun cs (x:yz×Nat)=>cs.setIfInBounds (off+x.2) x.1) cs).toList=cs.toList.take off++l++cs.toList.drop (off+I l):=by
 obtain⟨h1,h2⟩:=Great.foldl_set off l 0 cs
 apply ext_getElem?
 grind
inductive K6 (M:c6):List (Nat×V)->List (Nat×yz)->Prop
 |nil:K6 M [] []
 |cons {i:Nat} {x:V} {u:yz} {xs:List (Nat×V)} {us:List (Nat×yz)} (h:repV M x u) (hr:K6 M xs us):K6 M ((i,x)::xs) ((i,u)::us)
theorem LK{M:c6}{place:Nat->Option (Nat×Nat)}:∀{xs:List (Nat×V)} {us:List (Nat×yz)} {cells out:List V} {cu:Array yz},K6 M xs us->repA M cells cu.toList->Hh place cells xs=G out->
  ∃U,Instr.fill place cu us=G U/\repA M out U.toList
 |[],us,cells,out,cu,h,hc,hf=>by
  cases h
  simp[Hh] at hf;subst hf
  exact⟨cu,rfl,hc⟩
 |(i,x)::xs,us,cells,out,cu,h,hc,hf=>by
  cases h with
  |cons hx hr=>
   rename_i u us
   simp only[Hh] at hf
   cases hp:place i with
   |none=>grind
   |some p=>
    obtain⟨off,size⟩:=p
    simp only[hp] at hf
    split at hf
    ·rename_i hcond
     obtain⟨hA,hsz⟩:=Ms hx
     have hl:cu.size=I cells:=by rw[←Iw];exact DY hc
     have hs:u.cells.size=size:=hsz.trans hcond.1
     have hsp:=ZT off u.cells.toList cu (by grind)
     simp only[Iw,hs] at hsp
     have hc':repA M (cells.take off++x.cellsV++cells.drop (off+size)) ((u.cells.toList.zipIdx 0).foldl (fun cs (x:yz×Nat)=>cs.setIfInBounds (off+x.2) x.1) cu).toList:=by
      grind[J8,JN,JO]
     obtain⟨U,hU,hrU⟩:=LK hr hc' hf
     grind[Instr.fill,Array.toList_zipIdx]
    grind
def Y9(P:x7)(t:x6):Option (List V×List (Nat×Nat)):=
 match YZ P t,P.underlying t with
 |some z,some (.struct fs)=>(fs.toList.mapM (fun f=>(P.info? f.type).map fun i=>(f.offset,i.size))).map fun p=>(z,p)
 |some z,some (.array n e)=>(P.info? e).map fun i=>(z,(List.range n).map fun j=>(j*i.size,i.size))
 |_,_=>none
def Dp:List (Nat×x8)->List D->Option (List (Nat×V))
 |[],[]=>G []
 |(i,_)::ps,d::ds=>match d.toV,Dp ps ds with
  |some x,some xs=>G ((i,x)::xs)
  |_,_=>none
 |_,_=>none
theorem Hq{g:Gh}{a:Act}:∀{ps:List (Nat×x8)} {ds:List D} {xs:List (Nat×V)},Dp ps ds=G xs->Af g ds (ps.map fun p=>a.eval p.2)->K6 g.M xs (ps.map fun p=>(p.1,a.eval p.2))
 |[],[],xs,h,_=>by simp[Dp] at h;subst h;exact .nil
 |[],_::_,xs,h,_=>by grind[Dp]
 |(i,_)::ps,[],xs,h,_=>by grind[Dp]
 |(i,x)::ps,d::ds,xs,h,hr=>by
  simp only[Dp] at h
  split at h
  ·rename_i y ys hy hys
   simp at h;subst h
   obtain⟨u,us',e,h1,h2⟩:=hr
   obtain⟨rfl,rfl⟩:=e
   exact .cons (K9 hy h1) (Hq hys h2)
  grind
theorem P6{t:x6}{parts:Array (Nat×x8)}(ho:o.op=.build t parts){z:List V}{ay:List (Nat×Nat)}(hb:Y9 P t=G (z,ay)){ds:List D}{xs:List (Nat×V)}{out:List V}
  (hx:Dp parts.toList ds=G xs) (hf:Hh (ay[·]?) z xs=G out):Ai P o ds σ (.v (.agg out)) σ:=by
 intro E g a w K Q hw hds hK
 simp only[ho,Op.operands] at hds
 have hpr:=Hq hx (a:=a) (g:=g) (by grind[Function.comp_def])
 unfold Y9 at hb
 have key:∃U,P.built t (parts.toList.map fun p=>(p.1,a.eval p.2))=G U/\repA g.M out U.toList:=by
  cases hz:YZ P t with
  |none=>grind
  |some z0=>
   obtain⟨i,zv,hi,hz1,hcv⟩:=LU hz
   cases hu:P.underlying t with
   |none=>grind
   |some dd=>
    cases dd<;>simp only[hz,hu,reduceCtorEq] at hb
    case struct fs=>
     cases hp:fs.toList.mapM (fun f=>(P.info? f.type).map fun i=>(f.offset,i.size)) with
     |none=>grind
     |some pl=>
      simp[hp] at hb
      obtain⟨rfl,rfl⟩:=hb
      obtain⟨U,hU,hrU⟩:=LK hpr (GI (M:=g.M) hcv) hf
      exact⟨U,by simpa[Program.built,hi,hu,hz1,hp] using hU,hrU⟩
    case array n e=>
     cases hp:P.info? e with
     |none=>grind
     |some ie=>
      have hf':Hh (fun i=>G (i*ie.size,ie.size)) z0 xs=G out:=by
       grind[Oo]
      obtain⟨U,hU,hrU⟩:=LK hpr (GI (M:=g.M) hcv) hf'
      grind[Program.built]
 obtain⟨U,hU,hrU⟩:=key
 have:=hK g w (.agg U) hw g.le_refl (by grind[Ag,Db])
 have hrun:=run_build (P:=P) w t (parts.map fun p=>(p.1,a.eval p.2)) U (by simp_all)
 unfold Oper.wp execOp
 simp only[ho]
 simp only[Sem.run_bind]
 rw[show(parts.map fun(x:Nat×x8)=>match x with|(i,x)=>(i,a.eval x))=parts.map fun p=>(p.1,a.eval p.2) from rfl,hrun]
 exact this
end
def H7(k sz:Nat)(zs:List V)(x:Nat×Nat×List V):Nat×Nat×List V:=if x.1=k then(k,sz,zs) else x
theorem UV{k sz:Nat}{zs:List V}(x:Nat×Nat×List V):(H7 k sz zs x).1=x.1:=by grind[H7]
theorem WI.setOwn{E:cd}{g:Gh}{σ:St}{w w':x5}(hw:WI E g σ w){k sz:Nat}{xs zs:List V}(hx:(k,sz,xs)∈σ.own){u u':yz}(hu:g.ι k (I xs)=G u){M':c6}(hle:g.M.le M')
  (keep:∀b,b<w.heap.size->Co u≠G b->w'.heap[b]?=w.heap[b]?/\∀o,M' b o=g.M b o) (mem:∀b o v,M' b o=G v->w'.cell? ⟨b,o,none⟩=G v)
  (size:w.heap.size<=w'.heap.size) (os:w'.os=w.os) (tape:w'.tape=w.tape) (output:w'.output=w.output)
  (hzs:∀x∈zs,x.size=sz) (hr:repV M' (.list zs) u') (hp:Perm M' w' sz u') (hb:∀b,Co u'=G b->Co u=G b∨w.heap.size<=b) (hlen:I xs<I zs∨(I zs=I xs/\u'=u)) (drawn:BO w.drawn w'.drawn:=by first|exact BO.refl _|exact BO.succ _|assumption):
  WI E { g with M:=M',ι:=fun k' m=>if k'=k/\m=I zs then G u' else g.ι k' m } ⟨σ.H,σ.own.map (H7 k sz zs)⟩ w'/\
  g.le { g with M:=M',ι:=fun k' m=>if k'=k/\m=I zs then G u' else g.ι k' m }:=by
 obtain⟨hsz,u0,hu0,_,_,hfr⟩:=hw.rep.own k sz xs hx
 have hlg:g.le { g with M:=M',ι:=fun k' m=>if k'=k/\m=I zs then G u' else g.ι k' m }:=by
  refine⟨hle,HP _,fun _ _=>rfl,fun k' m v h=>?_,fun _ _=>rfl⟩
  grind
 -- two entries with one tag are one
 have old:∀y∈σ.own,y.1≠k->(if y.1=k/\y.2.2.length=I zs then G u' else g.ι y.1 (I y.2.2))=g.ι y.1 (I y.2.2):=fun y _ e=>HZ (fun h=>e h.1)
 -- each new entry
 have cases_:∀y'∈σ.own.map (H7 k sz zs),(y'=(k,sz,zs))∨(y'∈σ.own/\y'.1≠k):=by
  grind[H7]
 have sep0:∀y∈σ.own,y.1≠k->∀v,g.ι y.1 (I y.2.2)=G v->∀b,Co v=G b->Co u'≠G b:=by
  intro y hy e v hv b hvb hub
  rcases hb b hub with h|h
  ·exact hw.rep.sep (k,sz,xs) hx y hy (fun h=>e h.symm) u v hu hv b h hvb
  ·have:=hw.rep.own_lt hy hv hvb;omega
 refine⟨hw.update (fun b=>Co u=G b) (fun b h=>hw.owns _ hx u hu b h) (fun b hb1 h=>keep b hb1 h) hle (HP _) (fun _ _=>rfl) (fun _ _=>rfl) size os tape output ?_ hw.objs ?_,hlg⟩
 ·refine⟨hw.rep.n,mem,fun i cs hi=>?_,hw.rep.inj,fun k' sz' xs' hx'=>?_,?_,fun x1 hx1 y1 hy1 hne u1 u2 h1 h2 b hb1=>?_,fun x1 hx1 u1 h1 b hb1 i cs hi=>?_,fun k' hk' m=>?_,hw.rep.gl.mono hle,hw.rep.gw.keepG fun p hp hlt=>(keep p.1 hlt fun e=>hw.rep.own_ng hx hu e p hp rfl).1⟩
  ·obtain⟨us,rest,e,h2,h3,h4,h5,h6⟩:=hw.rep.obj i cs hi
   obtain⟨k1,k2⟩:=keep _ (ML h2) (fun h=>hw.rep.ownObj _ hx u hu _ h i cs hi rfl)
   grind[Af.mono]
  ·rcases cases_ _ hx' with e|⟨hy,e⟩
   ·grind
   ·obtain⟨h0,v,hv,h3,h4,h5⟩:=hw.rep.own k' sz' xs' hy
    refine⟨h0,v,(old _ hy e).trans hv,h3.mono hle,h4.kept fun b hvb=>keep b (hw.rep.own_lt hy hv hvb) ?_,fun m hm=>?_⟩
    ·exact fun h=>hw.rep.sep (k,sz,xs) hx _ hy (fun h=>e h.symm) u v hu hv b h hvb
    grind
  ·rw[map_map]
   have:(Prod.fst ∘H7 k sz zs)=Prod.fst:=funext fun x=>UV x
   rw[this];exact hw.rep.tags
  ·rcases cases_ _ hx1 with rfl|⟨hy,e⟩<;>rcases cases_ _ hy1 with rfl|⟨hy',e'⟩
   ·omega
   ·grind
   ·grind
   ·exact hw.rep.sep x1 hy y1 hy' hne u1 u2 ((old _ hy e).symm.trans h1) ((old _ hy' e').symm.trans h2) b hb1
  ·rcases cases_ _ hx1 with rfl|⟨hy,e⟩
   ·simp at h1;subst h1
    rcases hb b hb1 with h|h
    ·exact hw.rep.ownObj _ hx u hu b h i cs hi
    ·have:=hw.rep.obj_lt hi
     grind
   ·exact hw.rep.ownObj x1 hy u1 ((old _ hy e).symm.trans h1) b hb1 i cs hi
  ·have hne:¬(k'=k):=fun e=>hk' (k,sz,zs) (I2.2 ⟨_,hx,by simp[H7]⟩) e.symm
   simp only[HZ (show ¬(k'=k/\m=I zs) from fun h=>hne h.1)]
   refine hw.rep.fresh k' (fun y hy e=>?_) m
   grind[UV]
 ·intro x1 hx1 u1 h1 b hb1
  rcases cases_ _ hx1 with rfl|⟨hy,e⟩
  ·simp at h1;subst h1
   rcases hb b hb1 with h|h
   ·exact hw.owns _ hx u hu b h
   ·exact .inl (IE hw.size h)
  ·exact hw.owns x1 hy u1 ((old _ hy e).symm.trans h1) b hb1
def Wz(M:c6)(b:Nat)(us:List yz):c6:=fun b' o=>if b'=b then us[o]? else M b' o
theorem Adl{g:Gh}{σ:St}{w:x5}(h:dm g σ w){b:Nat}(hb:w.heap.size<=b)(us:List yz):g.M.le (Wz g.M b us):=fun b' o v hm=>by
 have:=h.mem_lt hm
 grind[Wz]
theorem Qg(M:c6)(b:Nat)(us:List yz):fe (Wz M b us) b 0 us:=by grind[Wz,fe]
theorem OR{M:c6}{b b':Nat}{us:List yz}(h:b'≠b)(o:Nat):Wz M b us b' o=M b' o:=by simp[Wz,h]
theorem WI.newImm{E:cd}{g:Gh}{σ:St}{w:x5}(hw:WI E g σ w)(us rest:List yz)(e:x6):
  WI E { g with M:=Wz g.M w.heap.size us } σ (w.alloc (.cells (us++rest).toArray e))/\g.le { g with M:=Wz g.M w.heap.size us }:=by
 refine⟨hw.grow (Adl hw.rep (HP _) us) (fun b hb=>⟨heap_alloc_old w _ b hb,OR (Nat.ne_of_lt hb)⟩) (fun b o v hm=>?_) (by simp) rfl rfl rfl,⟨Adl hw.rep (HP _) us,HP _,fun _ _=>rfl,fun _ _ _ h=>h,fun _ _=>rfl⟩⟩
 unfold Wz at hm
 split at hm
 ·grind[World.cell?,World.alloc]
 ·exact O7 w _ (hw.rep.mem b o v hm)
theorem J7{M:c6}{sz:Nat}:∀{xs ys:List V} {us vs:List yz},repE M sz xs us->repE M sz ys vs->repE M sz (xs++ys) (us++vs)
 |[],ys,us,vs,h,h'=>by grind[repE]
 |x::xs,ys,us,vs,h,h'=>by
  obtain⟨u1,u2,rfl,hl,h1,h2⟩:=h
  exact⟨u1,u2++vs,by simp,hl,h1,J7 h2 h'⟩
theorem Li{M:c6}{sz:Nat}:∀{xs:List V} {us:List yz},repE M sz xs us->∀u∈us,u.oneCell'=J
 |[],us,h=>by grind[repE]
 |x::xs,us,h=>by
  obtain⟨u1,u2,rfl,hl,h1,h2⟩:=h
  intro u hu
  rcases I6.1 hu with hu|hu
  ·exact Lj h1 u hu
  ·exact Li h2 u hu
theorem Cd{M:c6}{xs:List V}{u:yz}{sz:Nat}(h:repV M (.list xs) u)(hs:∀x∈xs,x.size=sz)(_:0<sz):
  ∃a cap,u=.slice a (I xs) cap/\xs.length<=cap/\(xs=[]∨∃b off us,a=G ⟨b,off,none⟩/\fe M b off us/\repE M sz xs us):=by
 rw[B4] at h
 obtain⟨a,cap,e,hc,h⟩:=h
 refine⟨a,cap,e,hc,?_⟩
 rcases h with h|⟨b,off,sz',us,ha,hsz',hi,hr⟩
 ·grind
 ·cases xs with
  |nil=>grind
  |cons x xs=>
   have hx:=hs x (by simp)
   grind[GB,repE]
theorem Dh{M:c6}{xs:List V}{b f sz cap:Nat}{us:List yz}(hsz:0<sz)(hi:fe M b f us)(hr:repE M sz xs us)(hc:I xs<=cap):repV M (.list xs) (.slice (G ⟨b,f,none⟩) (I xs) cap):=by
 grind[B4]
section
variable {P : x7} {o : yy} {σ : St} {d : D}
theorem K0(s:Nat):∀(vs:List yz) (i0:Nat) (d8 rest:List yz),I d8=i0*s->(∀v∈vs,v.cells.size=s)->I rest=I vs*s->
  Instr.fill (fun i=>G (i*s,s)) (d8++rest).toArray ((vs.zipIdx i0).map fun x=>(x.2,x.1))=G (d8++vs.flatMap (·.cells.toList)).toArray
 |[],i0,d8,rest,_,_,hr=>by
  have:rest=[]:=List.eq_nil_of_length_eq_zero (by grind)
  subst this;rfl
 |v::vs,i0,d8,rest,hp,hv,hr=>by
  have hvs:=hv v (by simp)
  have hr':I rest=s+I vs*s:=by rw[hr,HN,IV,Nat.one_mul,Nat.add_comm]
  have hsp:=ZT (i0*s) v.cells.toList (d8++rest).toArray (by simp only[IY,HW,Iw];omega)
  simp only[Iw,hvs] at hsp
  have e1:(d8++rest).take (i0*s)=d8:=by rw[←hp];simp
  have e2:(d8++rest).drop (i0*s+s)=rest.drop s:=by rw[←hp];simp
  simp only[e1,e2] at hsp
  have ih:=K0 s vs (i0+1) (d8++v.cells.toList) (rest.drop s) (by simp[hp,hvs,IV]) (fun x hx=>hv x (by simp[hx])) (by simp;omega)
  simp only[List.zipIdx_cons,Ik]
  unfold Instr.fill
  have e3:(v.cells.zipIdx.foldl (fun cs (x:yz×Nat)=>cs.setIfInBounds (i0*s+x.2) x.1) (d8++rest).toArray)=(d8++v.cells.toList++rest.drop s).toArray:=by
   rw[←Array.foldl_toList,Array.toList_zipIdx]
   apply IL
   rw[hsp]
  grind
theorem JG{g:Gh}{sz:Nat}:∀{ds:List D} {xs:List V} {us:List yz},Fx ds=G xs->Af g ds us->(∀x∈xs,x.size=sz)->repE g.M sz xs (us.flatMap (·.cells.toList))/\(∀v∈us,v.cells.size=sz)
 |[],xs,us,h,hr,_=>by grind[Fx,Af,repE]
 |d::ds,xs,us,h,hr,hs=>by
  simp only[Fx] at h
  split at h
  ·rename_i x xs' hx hxs
   simp at h;subst h
   obtain⟨u,us',rfl,h2,h3⟩:=hr
   have hv:=K9 hx h2
   obtain⟨_,hsz⟩:=Ms hv
   obtain⟨h4,h5⟩:=JG hxs h3 (fun y hy=>hs y (by simp[hy]))
   grind[repE,KB]
  grind
theorem G5:∀{ds:List D} {xs:List V},Fx ds=G xs->I xs=I ds
 |[],xs,h=>by grind[Fx]
 |d::ds,xs,h=>by
  simp only[Fx] at h
  split at h
  ·rename_i x xs' hx hxs
   simp at h;subst h
   simp[G5 hxs]
  grind
theorem ES{t:x6}{len:Nat}{parts:Array (Nat×x8)}(ho:o.op=.buildSlice t len parts)(hp:parts.toList=((parts.toList.map (·.2)).zipIdx 0).map fun x=>(x.2,x.1))(hlen:parts.size=len)
  {e:x6} {sz by':Nat} {z:Option yz} (hs:BS P t=G (e,sz,by',z)) (hz:z.isSome=J) {ds:List D} {xs:List V} (hx:Fx ds=G xs) (hsz:∀x∈xs,x.size=sz) (h0:0<len) (h1:0<sz) (h2:len*sz<=1000):
  Ai P o ds σ (.v (.list xs)) σ:=by
 intro E g a w K Q hw hds hK
 simp only[ho,Op.operands] at hds
 obtain⟨i,hu,hi,rfl,rfl,rfl⟩:=AF hs
 obtain⟨zz,hzz⟩:=Option.isSome_iff_exists.1 hz
 have hlm:I (parts.toList.map fun p=>a.eval p.2)=len:=by grind
 have hds':Af g ds (parts.toList.map fun p=>a.eval p.2):=by grind[Function.comp_def]
 obtain⟨hr,hcs⟩:=JG hx hds' hsz
 have hxl:I xs=len:=by rw[G5 hx, ←A1 hds',hlm]
 have hpos:0<len*i.size:=Nat.mul_pos h0 h1
 have hf:=K0 i.size (parts.toList.map fun p=>a.eval p.2) 0 [] ((Array.range (len*i.size)).map (zz.cells[· %zz.cells.size]!)).toList (by simp) hcs (by grind)
 have hpp:((parts.toList.map fun p=>a.eval p.2).zipIdx 0).map (fun x=>(x.2,x.1))=parts.toList.map fun p=>(p.1,a.eval p.2):=by
  have e1:(parts.toList.map fun p=>a.eval p.2)=(parts.toList.map (·.2)).map a.eval:=by simp
  rw[e1,List.zipIdx_map,map_map]
  conv=>rhs;rw[hp,map_map]
  rfl
 rw[hpp] at hf
 simp only[nil_append,Array.toArray_toList] at hf
 have hrun:=run_buildSlice (P:=P) w t e len (parts.map fun p=>(p.1,a.eval p.2)) _ i zz hu hi hzz (by omega) (by omega) (by simpa using hf)
 obtain⟨hw',hle⟩:=hw.newImm ((parts.toList.map fun p=>a.eval p.2).flatMap (·.cells.toList)) [] e
 rw[I8] at hw'
 have:=hK _ _ (.slice (G ⟨w.heap.size,0,none⟩) len len) hw' hle (by
  simp only[Ag]
  have:=Dh (cap:=len) h1 (Qg g.M w.heap.size _) (repE.mono hle.M _ _ _ hr) (by omega)
  grind)
 unfold Oper.wp execOp
 simp only[ho]
 simp only[Sem.run_bind]
 rw[show(parts.map fun(x:Nat×x8)=>match x with|(i,x)=>(i,a.eval x))=parts.map fun p=>(p.1,a.eval p.2) from rfl,hrun]
 exact this
theorem NE{t:x6}{parts:Array (Nat×x8)}(ho:o.op=.buildSlice t 0 parts)(hp:parts= #[]){e:x6}{sz by':Nat}{z:Option yz}(hs:BS P t=G (e,sz,by',z)):
  Ai P o [] σ (.v (.list [])) σ:=by
 intro E g a w K Q hw hds hK
 obtain⟨i,hu,hi,rfl,rfl,rfl⟩:=AF hs
 subst hp
 have:=hK g _ (.slice (G ⟨w.heap.size,0,none⟩) 0 0) (hw.alloc (.cells #[] e)) g.le_refl (by
  grind[Ag,B4])
 unfold Oper.wp execOp
 simpa[ho,Instr.buildSlice,run_underlying hu,sizeOf,typeInfo,hi,Instr.fill,newRow,Oper.upon,show Array.range 0= #[] from rfl] using this
end
section
variable {P : x7} {o : yy} {σ : St} {d : D}
theorem Mq(w:x5)(t ty e:x6)(i:TypeInfo)(ht:P.underlying t=G (.slice e))(hi:P.info? e=G i)(a a2:Option Addr)(n c c2:Nat)(hc:n<=c):
  (Builtin.append_ #[t,t] ty #[.slice a n c,.slice a2 0 c2]).run P w=.ok (.slice a n c) w:=by
 have hf:(Builtin.firstCells i.size 0 (.slice a2 0 c2)).run P w=.ok #[] w:=by
  cases a2<;>simp[Builtin.firstCells,loadCells,loadCellsFrom]
 cases a<;>simp[Builtin.append_,run_underlying ht,sizeOf,typeInfo,hi,Builtin.lenOf,hc,hf,storeCells]
theorem eb(w:x5)(t ty e e':x6)(i:TypeInfo)(ht:P.underlying t=G (.slice e))(hi:P.info? e=G i)
  (g sLen sCap:Nat) (cur:Array yz) (hg:w.heap[g]?=G (.cells cur e' (0,0)))
  (a:Addr) (m c:Nat) (news:List yz) (hl:I news=m*i.size) (hnews:∀j u,news[j]?=G u->w.cell? (a.add j)=G u) (h1:∀u∈news,u.oneCell'=J)
  (hroom:sLen+m<=sCap) (hfit:sLen*i.size+I news<=cur.size):
  (Builtin.append_ #[t,t] ty #[.slice (G ⟨g,0,none⟩) sLen sCap,.slice (G a) m c]).run P w=
   .ok (.slice (G ⟨g,0,none⟩) (sLen+m) sCap) (w.setRow g (cur.toList.take (sLen*i.size)++news++cur.toList.drop (sLen*i.size+I news)).toArray):=by
 have hf:=run_firstCells_some (P:=P) w i.size m a m c news hl hnews
 have hst:=run_storeCells_at P g (sLen*i.size) e' news 0 cur w hg (by omega) h1
 simp only[IG] at hst
 simp[Builtin.append_,run_underlying ht,sizeOf,typeInfo,hi,Builtin.lenOf,hroom,hf,Addr.add_lit,hst]
theorem Lv(w:x5)(t ty e e':x6)(i:TypeInfo)(ht:P.underlying t=G (.slice e))(hi:P.info? e=G i)
  (g p sLen sCap:Nat) (cur:Array yz) (hg:w.heap[g]?=G (.cells cur e' (0,0)))
  (a:Addr) (m c:Nat) (news:List yz) (hl:I news=m*i.size) (hnews:∀j u,news[j]?=G u->w.cell? (a.add j)=G u) (h1:∀u∈news,u.oneCell'=J)
  (hroom:sLen+m<=sCap) (hfit:p+sLen*i.size+I news<=cur.size):
  (Builtin.append_ #[t,t] ty #[.slice (G ⟨g,p,none⟩) sLen sCap,.slice (G a) m c]).run P w=
   .ok (.slice (G ⟨g,p,none⟩) (sLen+m) sCap) (w.setRow g (cur.toList.take (p+sLen*i.size)++news++cur.toList.drop (p+sLen*i.size+I news)).toArray):=by
 have hf:=run_firstCells_some (P:=P) w i.size m a m c news hl hnews
 have hst:=run_storeCells_at P g (p+sLen*i.size) e' news 0 cur w hg (by omega) h1
 simp only[IG] at hst
 simp[Builtin.append_,run_underlying ht,sizeOf,typeInfo,hi,Builtin.lenOf,hroom,hf,Addr.add_lit,hst]
theorem N8{E:cd}{g:Gh}{w:x5}(hw:WI E g σ w){t ty e:x6}{sz by':Nat}{z:yz}(hs:BS P t=G (e,sz,by',G z))(hzc:z.cells.size=sz){k:Nat}{xs ys:List V}(hx:(k,sz,xs)∈σ.own)
  (hsy:∀y∈ys,y.size=sz) (hlen:(I xs+I ys)*by'<=140737488355328) (hlen2:I xs+I ys<=140737488355328) {u v:yz} (hu:g.ι k (I xs)=G u) (hv:repV g.M (.list ys) v):
  ∃u' w' g',(Builtin.append_ #[t,t] ty #[u,v]).run P w=.ok u' w'/\WI E g' ⟨σ.H,σ.own.map (H7 k sz (xs++ys))⟩ w'/\g.le g'/\Ag g' (.acc k (xs++ys)) u':=by
 obtain⟨⟨hsz,hsx⟩,u0,hu0,hr0,hp0,hfr⟩:=hw.rep.own k sz xs hx
 obtain rfl:u=u0:=by grind
 obtain⟨i,ht,hi,hisz,hib,hiz⟩:=AF hs
 have hzs:∀x∈xs++ys,x.size=sz:=fun x hx=>by
  grind
 obtain⟨a2,cap2,rfl,hc2,hv⟩:=Cd hv hsy hsz
 obtain⟨a1,cap1,e1,hc1,hr1⟩:=Cd hr0 hsx hsz
 -- what is left to do once the run and the new header are known
 have fin:∀(u':yz) (w':x5) (M':c6),(Builtin.append_ #[t,t] ty #[u,.slice a2 (I ys) cap2]).run P w=.ok u' w'->g.M.le M'->
   (∀b,b<w.heap.size->Co u≠G b->w'.heap[b]?=w.heap[b]?/\∀o,M' b o=g.M b o)->(∀b o v,M' b o=G v->w'.cell? ⟨b,o,none⟩=G v)->
   w.heap.size<=w'.heap.size->w'.os=w.os->w'.tape=w.tape->w'.output=w.output->repV M' (.list (xs++ys)) u'->Perm M' w' sz u'->(∀b,Co u'=G b->Co u=G b∨w.heap.size<=b)->
   (I xs<I (xs++ys)∨(I (xs++ys)=I xs/\u'=u))->BO w.drawn w'.drawn->
   ∃u' w' g',(Builtin.append_ #[t,t] ty #[u,.slice a2 (I ys) cap2]).run P w=.ok u' w'/\WI E g' ⟨σ.H,σ.own.map (H7 k sz (xs++ys))⟩ w'/\g.le g'/\Ag g' (.acc k (xs++ys)) u':=by
  intro u' w' M' hrun hle keep mem size os tape output hr hp hb hl dr
  obtain⟨h1,h2⟩:=hw.setOwn hx hu hle keep mem size os tape output hzs hr hp hb hl
  grind[Ag]
 cases hys:ys with
 |nil=>
  subst hys
  refine fin u w g.M ?_ (c6.le_refl _) (fun b _ _=>⟨rfl,fun _=>rfl⟩) hw.rep.mem (HP _) rfl rfl rfl (by grind) hp0 (fun b hb=>.inl hb) (.inr ⟨by simp,rfl⟩) (BO.refl _)
  grind[Mq]
 |cons y0 ys0=>
  rw[←hys]
  have hne:ys≠ []:=by grind
  have hpos:0<I ys:=List.length_pos_iff.2 hne
  rcases hv with h|⟨b2,off2,vs,rfl,hi2,hr2⟩
  ·grind
  have hvl:I vs=I ys*i.size:=by grind[BX]
  have hcells2:=ED hw hi2
  have hvone:=Li hr2
  have grows:∀(us:List yz) (old:Nat),repE g.M sz xs us->old<I xs+I ys->
    (Builtin.append_ #[t,t] ty #[u,.slice (G ⟨b2,off2,none⟩) (I ys) cap2]).run P w=
     .ok (.slice (G ⟨w.heap.size,0,none⟩) (I xs+I ys) (grownCap w (I xs+I ys) old e))
      (w.drew.alloc (.cells (us.toArray++vs.toArray++Builtin.zeroCells z.cells (grownCap w (I xs+I ys) old e- (I xs+I ys))) e))->
    ∃u' w' g',(Builtin.append_ #[t,t] ty #[u,.slice (G ⟨b2,off2,none⟩) (I ys) cap2]).run P w=.ok u' w'/\WI E g' ⟨σ.H,σ.own.map (H7 k sz (xs++ys))⟩ w'/\g.le g'/\Ag g' (.acc k (xs++ys)) u':=by
   intro us old hus hold hrun
   have hge:=grownCap_ge w (I xs+I ys) old e
   have hcell:us.toArray++vs.toArray++Builtin.zeroCells z.cells (grownCap w (I xs+I ys) old e- (I xs+I ys))=((us++vs)++(Builtin.zeroCells z.cells (grownCap w (I xs+I ys) old e- (I xs+I ys))).toList).toArray:=by
    grind
   rw[hcell] at hrun
   have hE:=J7 hus hr2
   obtain⟨hw2,hle2⟩:=hw.drew.newImm (us++vs) (Builtin.zeroCells z.cells (grownCap w (I xs+I ys) old e- (I xs+I ys))).toList e
   refine fin _ _ (Wz g.M w.heap.size (us++vs)) hrun hle2.M (fun b hb _=>⟨heap_alloc_old w.drew _ b hb,OR (Nat.ne_of_lt hb)⟩) hw2.rep.mem (by simp) rfl rfl rfl ?_ ?_ ?_ (.inl (by grind)) (BO.succ _)
   ·have:=Dh (cap:=grownCap w (I xs+I ys) old e) hsz (Qg g.M w.heap.size (us++vs)) (repE.mono hle2.M _ _ _ hE) (by grind)
    grind
   ·refine .inr ⟨w.heap.size,0,I xs+I ys,_,_,e,rfl,heap_alloc_new w.drew _,hge,?_,fun o ho=>?_,hw.rep.gw.new (HP _)⟩
    ·simp only[IY,HW,Iw,size_zeroCells,hzc,BX hus,BX hr2, ←IV,I4]
     grind
    grind[Wz,BX]
   grind[Co]
  have h63:((I xs+I ys:Nat):Int)<=9223372036854775807:=by omega
  have hfit:∀old,old<I xs+I ys->Builtin.nextslicecap (I xs+I ys) old*i.bytes<=281474976710656:=fun old ho=>growslice_fits ho (by grind)
  have hdrew:∀j v,vs[j]?=G v->w.cell? ((⟨b2,off2,none⟩:Addr).add j)=G v:=hcells2
  rcases hp0 with⟨a,ea⟩|⟨b,f,len,cap,cur,et,eu,hb,hlc,hcc,hMb⟩
  ·-- no room at all
   have hxn:xs=[]:=by
    grind
   subst hxn
   simp only[HR,I4] at*
   subst ea
   cases a with
   |none=>
    refine grows [] 0 (by rfl) hpos ?_
    have:=run_append_nil (P:=P) w t ty e i z ht hi hiz ⟨b2,off2,none⟩ (I ys) cap2 vs hvl hdrew hpos (by omega) (by grind)
    grind
   |some a=>
    refine grows [] 0 (by rfl) hpos ?_
    have:=run_append_grow (P:=P) w t ty e i z ht hi hiz a 0 0 [] (by simp) (by simp) ⟨b2,off2,none⟩ (I ys) cap2 vs hvl hdrew (by omega) (by omega) (by grind)
    grind
  ·obtain⟨rfl,rfl,rfl⟩:a1=G ⟨b,f,none⟩/\xs.length=len/\cap1=cap:=by
    grind
   obtain⟨us,hus,hui⟩:∃us,repE g.M sz xs us/\fe g.M b f us:=by
    rcases hr1 with rfl|⟨b',off',us,ea,hi1,hr1⟩
    ·exact⟨[],by rfl,fun j v hj=>by grind⟩
    grind
   have hul:=BX hus
   by_cases hroom:I xs+I ys<=cap1
   ·-- in place
    have hcur:f+I xs*i.size+I vs<=cur.size:=by
     rw[hvl,hisz,Nat.add_assoc, ←IV]
     exact IE (Nat.add_le_add_left (Nat.mul_le_mul_right _ hroom) f) hcc
    have hrun:=Lv (P:=P) w t ty e et i ht hi b f (I xs) cap1 cur hb ⟨b2,off2,none⟩ (I ys) cap2 vs hvl hdrew hvone hroom hcur
    rw[←eu] at hrun
    have hcap0:cap1≠0:=by omega
    have hob:Co u=G b:=by grind[Co]
    -- the new cells
    let M':c6:=fun b' o=>if b'=b/\f+I xs*sz<=o then vs[o- (f+I xs*sz)]? else g.M b' o
    have hM':g.M.le M':=fun b' o v hm=>by
     simp only[M']
     rw[HZ]; ·exact hm
     rintro ⟨rfl,ho⟩
     rw[hMb o ho] at hm;grind
    have hin:fe M' b f (us++vs):=fun j v hj=>by
     simp only[M']
     by_cases hj1:f+I xs*sz<=f+j
     ·rw[Ie ⟨trivial,hj1⟩,show f+j- (f+I xs*sz)=j-I xs*sz by omega]
      grind[List.getElem?_append_right]
     ·rw[HZ (fun h=>hj1 h.2)]
      rw[Ig (by omega)] at hj
      have:=hui j v hj;omega
    refine fin _ _ M' hrun hM' (fun b' _ hne=>?_) (fun b' o v hm=>?_) (by simp) rfl rfl rfl ?_ ?_ (fun b' hb'=>?_) (.inl (by grind)) (BO.refl _)
    ·have hbb:b'≠b:=fun h=>hne (by grind)
     grind[World.setRow]
    ·simp only[M'] at hm
     by_cases hb':b'=b
     ·subst hb'
      rw[cell_setRow_same w b' o cur _ et _ hb]
      have hl1:I (cur.toList.take (f+I xs*i.size))=f+I xs*sz:=by
       simp only[Ip,Iw,hisz]
       have:=IE (Nat.add_le_add_left (Nat.mul_le_mul_right sz hlc) f) hcc
       omega
      by_cases ho:f+I xs*sz<=o
      ·grind
      ·rw[HZ (fun h=>ho h.2)] at hm
       have hold:=hw.rep.mem b' o v hm
       grind[World.cell?]
     ·rw[HZ (fun h=>hb' h.1)] at hm
      rw[cell_setRow_other w b _ _ hb']
      exact hw.rep.mem b' o v hm
    ·grind[Dh,repE.mono,J7]
    ·refine .inr ⟨b,f,I xs+I ys,cap1,_,et,rfl,setRow_heap w b cur _ et _ hb,hroom,?_,fun o ho=>?_,hw.rep.own_ng hx hu hob⟩
     ·simp only[IY,HW,Ip,IP,Iw]
      omega
     ·simp only[M']
      rw[Ie ⟨trivial,by grind⟩]
      refine List.getElem?_eq_none ?_
      rw[hvl,hisz];rw[IV] at ho;omega
    grind[Co]
   ·have:=run_append_grow (P:=P) w t ty e i z ht hi hiz ⟨b,f,none⟩ (I xs) cap1 us (by grind) (ED hw hui) ⟨b2,off2,none⟩ (I ys) cap2 vs hvl hdrew (by omega) h63 (hfit cap1 (by omega))
    refine grows us cap1 hus (by omega) ?_
    grind
theorem Re{x y:x8}{t:x6}(ho:o.op=.call { callee:=.builtin .append,args:= #[x,y],argTypes:= #[t,t]}){e:x6}{sz by':Nat}{z:yz}(hs:BS P t=G (e,sz,by',G z))(hzc:z.cells.size=sz)
  {k:Nat} {xs ys:List V} (hx:(k,sz,xs)∈σ.own) (hsy:∀y∈ys,y.size=sz) (hlen:(I xs+I ys)*by'<=140737488355328) (hlen2:I xs+I ys<=140737488355328):
  Ai P o [.acc k xs,.v (.list ys)] σ (.acc k (xs++ys)) ⟨σ.H,σ.own.map (H7 k sz (xs++ys))⟩:=by
 intro E g a w K Q hw hds hK
 simp only[ho,Op.operands,Call.operands] at hds
 obtain⟨u,v,eq,h1,h2⟩:=Au.1 (by simpa using hds)
 simp only[HV,Ix] at eq
 simp only[Ag] at h1 h2
 obtain⟨u',w',g',hrun,hw',hle,hr⟩:=N8 (P:=P) (ty:=o.type) hw hs hzc hx hsy hlen hlen2 h1.2 h2
 have:=hK g' w' u' hw' hle hr
 unfold Oper.wp execOp
 simp only[ho,resolve,invoke,builtin,Sem.run_bind,Sem.run_pure,Result.andThen_ok,List.map_toArray,Ik,IF,eq.1,eq.2,hrun]
 exact this
end
section
variable {P : x7} {o : yy} {σ : St} {d : D}
theorem ZX{M:c6}{xs:List V}{a:Option Addr}{len cap sz:Nat}(hr:repV M (.list xs) (.slice a len cap))(hs:∀x∈xs,x.size=sz)(hsz:0<sz){l h:Nat}(hl:l<=h)(hh:h<=I xs):
  len=I xs/\xs.length<=cap/\repV M (.list ((xs.take h).drop l)) (.slice (if cap=l then a else a.map (·.add (l*sz))) (h-l) (cap-l)):=by
 obtain⟨a',cap',e,hc,hr2⟩:=Cd hr hs hsz
 obtain⟨rfl,rfl,rfl⟩:=e
 refine⟨rfl,hc,?_⟩
 have hlen:I ((xs.take h).drop l)=h-l:=by grind
 rw[B4]
 refine⟨_,cap-l,by rw[hlen],by omega,?_⟩
 rcases Nat.lt_or_ge l h with hlt|hge
 ·rcases hr2 with rfl|⟨b,off,us,rfl,hi,hr3⟩
  ·grind
  refine .inr ⟨b,off+l*sz,sz,(us.take (h*sz)).drop (l*sz),?_,hsz,VG (VF hi _) _,QO (QN hr3 h) l⟩
  grind[Addr.add_lit]
 grind
def C8(n:Nat)(l h:Option Int):Option (Nat×Nat):=
 let h':=h.getD n
 let l':=l.getD 0
 if 0<=l'/\l'<=h'/\h'<=n then G (l'.toNat,h'.toNat) else none
theorem E7(w:x5)(isS:Bool)(len cap:Nat)(hc:len<=cap)(l h:Option (yv×Int)){l' h':Nat}(hb:C8 len (l.map (·.2)) (h.map (·.2))=G (l',h')):
  (Instr.sliceBounds isS len cap (l.map fun p=>.int p.1 p.2) (h.map fun p=>.int p.1 p.2) none).run P w=.ok (l',h',cap) w:=by
 unfold C8 at hb
 simp only at hb
 split at hb
 ·rename_i hcond
  obtain⟨rfl,rfl⟩:=hb
  cases l with
  |none=>
   cases h with
   |none=>rfl
   |some p=>
    simp only[Jw,IJ,Option.getD_none,Jq] at hcond⊢
    simp[Instr.sliceBounds,run_sliceBound w p.1 p.2 cap _ (by omega) (by omega)]
  |some q=>
   cases h with
   |none=>
    simp only[Jw,IJ,Option.getD_none,Jq] at hcond⊢
    simp[Instr.sliceBounds,run_sliceBound w q.1 q.2 len _ (by omega) (by omega)]
   |some p=>
    simp only[IJ,Jq] at hcond⊢
    simp[Instr.sliceBounds,run_sliceBound w p.1 p.2 cap _ (by omega) (by omega),run_sliceBound w q.1 q.2 p.2.toNat _ (by omega) (by omega)]
 grind
def EO:Option (yv×Int)->List D
 |none=>[]
 |some p=>[.v (.int p.1 p.2)]
theorem AaP{t:x6}{x:x8}{lo hi:Option x8}(ho:o.op=.slice t x lo hi none){e:x6}{sz by':Nat}{z:Option yz}(hs:BS P t=G (e,sz,by',z)){xs:List V}(hsx:∀x∈xs,x.size=sz)(hsz:0<sz)
  (l h:Option (yv×Int)) (hlo:lo.isSome=l.isSome) (hhi:hi.isSome=h.isSome) {l' h':Nat} (hb:C8 (I xs) (l.map (·.2)) (h.map (·.2))=G (l',h')):
  Ai P o (.v (.list xs)::(EO l++EO h)) σ (.v (.list ((xs.take h').drop l'))) σ:=by
 refine A6 fun E g ρ w hw hds=>?_
 obtain⟨i,hu,hi',rfl,rfl,rfl⟩:=AF hs
 have hb2:=hb
 unfold C8 at hb2
 simp only at hb2
 split at hb2
 case isFalse=>grind
 rename_i hcond
 simp only[Ir,Prod.mk.injEq] at hb2
 have main:∀u (lv hv:Option yz),ρ x=u->lv=l.map (fun p=>Value.int p.1 p.2)->hv=h.map (fun p=>Value.int p.1 p.2)->lo.map ρ=lv->hi.map ρ=hv->repV g.M (.list xs) u->
   ∃u,(execOp ρ o).run P w=.ok (.value u) w/\Ag g (.v (.list ((xs.take h').drop l'))) u:=by
  intro u lv hv eu el eh e1 e2 hr
  obtain⟨a,cap,rfl,hc,_⟩:=B4.1 hr
  obtain⟨_,_,hres⟩:=ZX hr hsx hsz (l:=l') (h:=h') (by omega) (by omega)
  refine⟨_,?_,by simp only[Ag];exact hres⟩
  have hbr:=E7 (P:=P) w true (I xs) cap hc l h hb
  simp only[execOp,ho,eu,e1,e2,el,eh,Jw,Instr.sliceAt,Instr.slice,Sem.run_bind,run_underlying hu,Result.andThen_ok,hbr]
  simp[sizeOf,typeInfo,hi']
 simp only[ho,Op.operands] at hds
 cases lo with
 |none=>
  cases l with
  |some _=>grind
  |none=>
   cases hi with
   |none=>
    cases h<;>grind[AB,EO,Ag]
   |some ho'=>
    cases h<;>grind[Au,EO,Ag,AC]
 |some lo'=>
  cases l with
  |none=>grind
  |some q=>
   cases hi with
   |none=>
    cases h<;>grind[Au,EO,Ag,AC]
   |some ho'=>
    cases h<;>grind[EW,EO,Ag,AC]
theorem AaO{t:x6}{x:x8}{lo hi:Option x8}(ho:o.op=.slice t x lo hi none)(hu:P.underlying t=G .string){s:List UInt8}
  (l h:Option (yv×Int)) (hlo:lo.isSome=l.isSome) (hhi:hi.isSome=h.isSome) {l' h':Nat} (hb:C8 (I s) (l.map (·.2)) (h.map (·.2))=G (l',h')):
  Ai P o (.v (.str s)::(EO l++EO h)) σ (.v (.str ((s.take h').drop l'))) σ:=by
 refine A6 fun E g ρ w hw hds=>?_
 have main:∀u (lv hv:Option yz),ρ x=u->lv=l.map (fun p=>Value.int p.1 p.2)->hv=h.map (fun p=>Value.int p.1 p.2)->lo.map ρ=lv->hi.map ρ=hv->u=.string ⟨s.toArray⟩->
   ∃u,(execOp ρ o).run P w=.ok (.value u) w/\Ag g (.v (.str ((s.take h').drop l'))) u:=by
  intro u lv hv eu el eh e1 e2 hr
  subst hr
  refine⟨.string ⟨((s.take h').drop l').toArray⟩,?_,by grind[Ag,Dt]⟩
  have hbr:=E7 (P:=P) w false (I s) (I s) (HP _) l h hb
  have hx:(⟨s.toArray⟩:ByteArray).extract l' h'=⟨((s.take h').drop l').toArray⟩:=by
   apply ByteArray.ext
   grind[Lib.extract_data,List.drop_take]
  simp only[execOp,ho,eu,e1,e2,el,eh,Jw,Instr.sliceAt,Instr.slice,Sem.run_bind,run_underlying hu,Result.andThen_ok,Option.isSome_none,Jy,if_false,SP]
  simp_all
 simp only[ho,Op.operands] at hds
 cases lo with
 |none=>
  cases l with
  |some _=>grind
  |none=>
   cases hi with
   |none=>
    cases h<;>grind[AB,EO,Ag,Dt]
   |some ho'=>
    cases h<;>grind[Au,EO,Ag,AC,Dt]
 |some lo'=>
  cases l with
  |none=>grind
  |some q=>
   cases hi with
   |none=>
    cases h<;>grind[Au,EO,Ag,AC,Dt]
   |some ho'=>
    cases h<;>grind[EW,EO,Ag,AC,Dt]
theorem JV(z:yz)(n:Nat):madeCells #[z] n=(replicate n z).toArray:=by
 grind[madeCells]
theorem Ajl{t:x6}{x y:x8}(ho:o.op=.makeSlice t x y){e:x6}{by':Nat}{z:yz}(hs:BS P t=G (e,1,by',G z)){zv:V}(hz:RR z=G zv){k k':yv}{n:Int}(h0:0<=n)(hn:(by':Int)*n<=281474976710656)(hn2:n<=9223372036854775807):
  Ai P o [.v (.int k n),.v (.int k' n)] σ (.arr (I σ.H) 0 n.toNat) ⟨σ.H++[G (replicate n.toNat (.v zv))],σ.own⟩:=by
 intro E g a w K Q hw hds hK
 simp only[ho,Op.operands,Au] at hds
 obtain⟨u,v,eq,h1,h2⟩:=hds
 simp only[Ik,IF,HV,Ix] at eq
 obtain⟨e1,e2⟩:=eq
 simp only[Ag,AC] at h1 h2
 subst h1 h2
 obtain⟨i,hu,hi,hsz,hby,hzz⟩:=AF hs
 obtain⟨hza,hzc⟩:=KX (M:=g.M) hz
 have hz1:z.cells= #[z]:=by
  grind[Dc,N2]
 have hrun:=run_make (P:=P) w t e i z hu hi hzz k k' n n h0 (Il _) (by grind) hn2
 rw[hsz,Nat.mul_one,hz1,JV] at hrun
 have hr:∀m,Af g (replicate m (.v zv)) (replicate m z):=by
  intro m
  induction m<;>grind[Af,Ag,BJ]
 obtain⟨g',hw',hle,hβ,hn'⟩:=hw.newObj e (hr n.toNat) (fun c hc=>by grind[D.one])
 have:=hK g' _ (.slice (G ⟨w.heap.size,0,none⟩) n.toNat n.toNat) hw' hle (by grind[Ag])
 unfold Oper.wp execOp
 simp only[ho,e1,e2,Sem.run_bind,hrun,Result.andThen_ok]
 exact this
theorem Afp{t:x6}{x y:x8}(ho:o.op=.makeSlice t x y){e:x6}{sz by':Nat}{z:yz}(hs:BS P t=G (e,sz,by',G z))(h1:0<sz)(k:Nat)(hk:∀x∈σ.own,x.1≠k){k1 k2:yv}{n:Int}(h0:0<=n)(hn:(by':Int)*n<=281474976710656)(hn2:n<=9223372036854775807):
  Ai P o [.v (.int k1 0),.v (.int k2 n)] σ (.acc k []) ⟨σ.H,(k,sz,[])::σ.own⟩:=by
 intro E g a w K Q hw hds hK
 simp only[ho,Op.operands,Au] at hds
 obtain⟨u,v,eq,h1',h2⟩:=hds
 simp only[Ik,IF,HV,Ix] at eq
 obtain⟨e1,e2⟩:=eq
 simp only[Ag,AC] at h1' h2
 subst h1' h2
 obtain⟨i,hu,hi,hsz,hby,hzz⟩:=AF hs
 have hrun:=run_make (P:=P) w t e i z hu hi hzz k1 k2 0 n (Il _) h0 (by grind) hn2
 have hrep:repV g.M (.list []) (.slice (G ⟨w.heap.size,0,none⟩) 0 n.toNat):=by grind[B4]
 obtain⟨hw',hle⟩:=(hw.alloc (.cells (madeCells z.cells (n.toNat*i.size)) e)).addOwn (k:=k) (sz:=sz) (xs:=[]) (u:=.slice (G ⟨w.heap.size,0,none⟩) 0 n.toNat) hk ⟨h1,by simp⟩
  hrep (.inr ⟨w.heap.size,0,0,n.toNat,_,e,rfl,heap_alloc_new w _,Iu _,by grind[size_madeCells],fun o _=>hw.rep.new_none (HP _) o,hw.rep.gw.new (HP _)⟩) (fun b hb=>by
   simp only[Co] at hb
   split at hb
   ·grind
   ·simp at hb;subst hb
    exact⟨hw.size,fun i cs hi=>Nat.ne_of_lt (hw.rep.obj_lt hi),fun x hx u' hu' hb'=>by have:=hw.rep.own_lt hx hu' hb';omega⟩)
 have:=hK _ _ _ hw' hle (by simp only[Ag];exact⟨hrep,by simp⟩)
 unfold Oper.wp execOp
 simp only[ho,e1,e2,Sem.run_bind,hrun,Result.andThen_ok]
 exact this
end
def D.plain:D->Bool
 |.v _=>true
 |_=>false
theorem Pu{g:Gh}:∀{ds:List D} {xs:List V} {us:List yz},Fx ds=G xs->Af g ds us->GM g.M xs us
 |[],xs,us,h,hr=>by grind[Fx,Af,GM]
 |d::ds,xs,us,h,hr=>by
  simp only[Fx] at h
  split at h
  ·rename_i x xs' hx hxs
   simp at h;subst h
   obtain⟨u,us',rfl,h2,h3⟩:=hr
   obtain⟨ws,h4,h5⟩:=K9 hx h2
   exact⟨u,us',ws,rfl,h4,h5,Pu hxs h3⟩
  grind
theorem HA{g:Gh}:∀{xs:List V} {us:List yz},GM g.M xs us->Af g (xs.map .v) us
 |[],us,h=>by grind[Af,GM]
 |x::xs,us,h=>by
  obtain⟨u,us',ws,rfl,h1,h2,h3⟩:=h
  exact⟨u,us',rfl,⟨ws,h1,h2⟩,HA h3⟩
section
variable {P : x7} {o : yy} {σ : St} {d : D}
theorem Th{f:yx}{first captured:Array x8}(ho:o.op=.makeFunc (.func f) first captured){fs cs:List D}{xs ys:List V}(hl:I fs=first.size)(hf:Fx fs=G xs)(hc:Fx cs=G ys):
  Ai P o (fs++cs) σ (.v (.fn f xs ys)) σ:=by
 refine A6 fun E g ρ w hw hds=>?_
 simp only[ho,Op.operands,Array.toList_append,IZ] at hds
 have h1:=Ce hds (I fs)
 have h2:=Cq hds (I fs)
 refine⟨.func (.func f) (first.map ρ) (captured.map ρ),?_,?_⟩
 ·simp[execOp,ho,Instr.makeFunc]
 grind[Ag,H8,Array.toList_map,Pu]
end
theorem WI.setObjG{E:cd}{g:Gh}{σ:St}{w w':x5}(hw:WI E g σ w){M':c6}(hle:g.M.le M'){q:Nat}{cs:List D}{oc:Option (List D)}(hq:σ.H[q]?=G (G cs))
  (hb:∀cs',oc=G cs'->∃us rest e,w'.heap[g.β q]?=G (.cells (us++rest).toArray e (0,0))/\Af { g with M:=M' } cs' us/\(∀c∈cs',c.one=J)/\(∀o,M' (g.β q) o=none)/\(us++rest).length=g.κ q)
  (keep:∀b,b<w.heap.size->b≠g.β q->w'.heap[b]?=w.heap[b]?/\∀o,M' b o=g.M b o) (mem:∀b o v,M' b o=G v->w'.cell? ⟨b,o,none⟩=G v)
  (size:w.heap.size<=w'.heap.size) (os:w'.os=w.os) (tape:w'.tape=w.tape) (output:w'.output=w.output) (drawn:BO w.drawn w'.drawn:=by first|exact BO.refl _|exact BO.succ _|assumption):
  WI E { g with M:=M' } ⟨σ.H.set q oc,σ.own⟩ w':=by
 have hlg:g.le { g with M:=M' }:=⟨hle,HP _,fun _ _=>rfl,fun _ _ _ h=>h,fun _ _=>rfl⟩
 have split:∀(i:Nat) (cs1:List D),(σ.H.set q oc)[i]?=G (G cs1)->(i=q/\oc=G cs1)∨(i≠q/\σ.H[i]?=G (G cs1)):=by
  grind
 have live:∀(i:Nat) (cs1:List D),(σ.H.set q oc)[i]?=G (G cs1)->∃cs2,σ.H[i]?=G (G cs2):=by
  grind
 refine hw.update (fun b=>b=g.β q) (fun b e=>by subst e;exact hw.objs q cs hq) (fun b hb hne=>keep b hb hne) hle (HP _) (fun _ _=>rfl) (fun _ _=>rfl) size os tape output ?_ ?_ hw.owns
 ·refine⟨by simp[hw.rep.n],mem,fun i cs1 hi=>?_,fun i j c1 c2 hi hj hij=>?_,fun k sz xs hx=>?_,hw.rep.tags,hw.rep.sep,fun x hx u hu b hb' i cs1 hi=>?_,hw.rep.fresh,hw.rep.gl.mono hle,hw.rep.gw.keepG fun p hp hlt=>(keep p.1 hlt (hw.rep.obj_ng hq p hp)).1⟩
  ·rcases split i cs1 hi with⟨rfl,e⟩|⟨hne,h⟩
   ·grind
   ·obtain⟨us',rest',e',h2,h3,h4,h5,h6⟩:=hw.rep.obj i cs1 h
    obtain⟨k1,k2⟩:=keep _ (ML h2) (fun e=>hne (hw.rep.inj i q _ _ h hq e))
    grind[Af.mono]
  ·obtain⟨c3,h3⟩:=live i c1 hi
   obtain⟨c4,h4⟩:=live j c2 hj
   exact hw.rep.inj i j _ _ h3 h4 hij
  ·obtain⟨h0,u,hu,h3,h4,h5⟩:=hw.rep.own k sz xs hx
   refine⟨h0,u,hu,h3.mono hle,h4.kept fun b hb'=>keep b (hw.rep.own_lt hx hu hb') ?_,h5⟩
   exact fun e=>hw.rep.ownObj _ hx u hu b hb' q cs hq e.symm
  ·obtain⟨c3,h3⟩:=live i cs1 hi
   exact hw.rep.ownObj x hx u hu b hb' i c3 h3
 ·intro i cs1 hi
  obtain⟨c3,h3⟩:=live i cs1 hi
  exact hw.objs i c3 h3
mutual
def D.pl:D->Bool
 |.v _=>true
 |.raw _=>true
 |.rv .. =>true
 |.tup ds=>D.pls ds
 |.err=>true
 |.undef=>true
 |_=>false
def D.pls:List D->Bool
 |[]=>true
 |d::ds=>d.pl&&D.pls ds
end
mutual
theorem Mv{g g':Gh}(hM:g'.M=g.M):∀{d:D} {u:yz},d.pl=J->Ag g d u->Ag g' d u
 |.v x,u,_,h=>by grind[Ag]
 |.tup ds,u,hp,h=>by
  obtain⟨us,e,h1⟩:=h
  exact⟨us,e,BK hM (by simpa[D.pl] using hp) h1⟩
 |.undef,u,_,_=>by grind[Ag]
 |.raw x,u,_,h=>by grind[Ag]
 |.err,u,_,h=>by grind[Ag]
 |.rv x u0,u,_,h=>by grind[Ag]
 |.acc ..,_,hp,_=>by grind[D.pl]
 |.ptr ..,_,hp,_=>by grind[D.pl]
 |.arr ..,_,hp,_=>by grind[D.pl]
 |.dagg ..,_,hp,_=>by grind[D.pl]
 |.dfn ..,_,hp,_=>by grind[D.pl]
theorem BK{g g':Gh}(hM:g'.M=g.M):∀{ds:List D} {us:List yz},D.pls ds=J->Af g ds us->Af g' ds us
 |[],us,_,h=>by grind[Af]
 |d::ds,us,hp,h=>by
  simp only[D.pls,HJ] at hp
  obtain⟨u,us',e,h1,h2⟩:=h
  exact⟨u,us',e,Mv hM hp.1 h1,BK hM hp.2 h2⟩
end
theorem Ca(xs:List V):D.pls (xs.map .v)=J:=by induction xs<;>simp_all [D.pls,D.pl]
theorem Du:∀(a b:List D),D.pls (a++b)=(D.pls a&&D.pls b)
 |[],b=>by rfl
 |d::a,b=>by simp[D.pls,Du a b,Bool.and_assoc]
section
variable {P : x7} {o : yy} {σ : St} {d : D}
theorem G4{_E:cd}{_g:Gh}{a:Act}{w:x5}{K:Act->x5->Prop}{Q:Exit->Act->x5->Prop}{c:Call}{fo:x8}(ho:o.op=.call c)(hc:c.callee=.value fo){f:yx}(hcall:W4 P f){us vs ws:List yz}
  (hf:a.eval fo=.func (.func f) us.toArray vs.toArray) (hargs:c.args.toList.map a.eval=ws)
  (h:Calls P f (us++ws++vs).toArray w fun e w'=>∃u,e=.returned u/\K (a.put o.dst u) w'):o.wp P a w K Q:=by
 obtain⟨fn,h1,h2,h3⟩:=hcall
 have hargs':c.args.map a.eval=ws.toArray:=by grind
 unfold Oper.wp execOp
 simp only[ho,resolve,hc,hf,hargs',Deferred.ofValue,Sem.run_bind,Sem.run_pure,Result.andThen_ok,invoke,callFunc,run_program,h1,h2,h3,Jy,if_false]
 grind[Calls.mono,Oper.upon]
theorem DQ{g:Gh}{a:Act}{c:Call}{fo:x8}(ho:o.op=.call c)(hc:c.callee=.value fo){f:yx}{fs cs:List V}{ds:List D}(h:Af g (.v (.fn f fs cs)::ds) (o.op.operands.toList.map a.eval)):
  ∃us vs ws,a.eval fo=.func (.func f) us.toArray vs.toArray/\c.args.toList.map a.eval=ws/\Af g (fs.map .v) us/\Af g (cs.map .v) vs/\Af g ds ws:=by
 grind[Op.operands,Call.operands,Af,Ag,H8,HA]
theorem dm.empty{g:Gh}{w:x5}(h:dm g σ w):dm { M:=g.M,β:=g.β,n:=0,ι:=fun _ _=>none,κ:=g.κ } ⟨[],[]⟩ w where
 n:=rfl
 mem:=h.mem
 gl:=h.gl
 gw:=h.gw
 obj:=fun i cs hi=>by grind
 inj:=fun i j cs ds hi=>by grind
 own:=fun k sz xs hx=>by grind
 tags:=by simp
 sep:=fun x hx=>by grind
 ownObj:=fun x hx=>by grind
 fresh:=fun _ _ _=>rfl
theorem Hb{g:Gh}{w:x5}{b:Nat}:¬cd.priv ⟨g,w,⟨[],[]⟩⟩ b:=by
 grind[cd.priv]
theorem WI.back0{E:cd}{g gc gc':Gh}{w w':x5}{σc':St}(hw:WI E g σ w)(hM:gc.M=g.M)(h:WI ⟨gc,w,⟨[],[]⟩⟩ gc' σc' w'):WI E { g with M:=gc'.M } σ w'/\g.le { g with M:=gc'.M }:=by
 have hle:g.M.le gc'.M:=by rw[←hM];exact h.M
 refine⟨hw.grow hle (fun b hb=>?_) h.rep.mem h.size h.os h.tape h.output (drawn:=h.drawn),⟨hle,HP _,fun _ _=>rfl,fun _ _ _ h=>h,fun _ _=>rfl⟩⟩
 obtain⟨h1,h2⟩:=h.keep b hb Hb
 grind
theorem P5{c:Call}{fo:x8}(ho:o.op=.call c)(hc:c.callee=.value fo){f:yx}{fs cs:List V}{ds:List D}(hp:D.pls ds=J)(hd:d.pl=J)
  (hspec:Aa P f (fs.map .v++ds++cs.map .v) ⟨[],[]⟩ d ⟨[],[]⟩):Ai P o (.v (.fn f fs cs)::ds) σ d σ:=by
 intro E g a w K Q hw hds hK
 obtain⟨us,vs,ws,hf,hargs,h1,h2,h3⟩:=DQ ho hc hds
 refine G4 (_E:=E) (_g:=g) ho hc hspec.1 hf hargs ?_
 have hargs':Af { M:=g.M,β:=g.β,n:=0,ι:=fun _ _=>none,κ:=g.κ } (fs.map .v++ds++cs.map .v) (us++ws++vs):=
  BK (by rfl) (by grind[Du,Ca]) (Aw (Aw h1 h3) h2)
 refine Calls.mono (hspec.2 _ w _ hw.rep.empty hargs') ?_
 rintro e w' ⟨u,g',rfl,hw',hr⟩
 obtain⟨h4,h5⟩:=hw.back0 (by rfl) hw'
 exact⟨u,rfl,hK _ _ _ h4 h5 (Mv (by rfl) hd hr)⟩
theorem Ll{c:Call}{fo:x8}(ho:o.op=.call c)(hc:c.callee=.value fo){f:yx}{fs cs:List V}{ds:List D}(hp:D.pls ds=J){k' sz:Nat}{xs:List V}(k:Nat)(hk:∀x∈σ.own,x.1≠k)
  (hspec:Aa P f (fs.map .v++ds++cs.map .v) ⟨[],[]⟩ (.acc k' xs) ⟨[],[(k',sz,xs)]⟩):Ai P o (.v (.fn f fs cs)::ds) σ (.acc k xs) ⟨σ.H,(k,sz,xs)::σ.own⟩:=by
 intro E g a w K Q hw hds hK
 obtain⟨us,vs,ws,hf,hargs,h1,h2,h3⟩:=DQ ho hc hds
 refine G4 (_E:=E) (_g:=g) ho hc hspec.1 hf hargs ?_
 have hargs':Af { M:=g.M,β:=g.β,n:=0,ι:=fun _ _=>none,κ:=g.κ } (fs.map .v++ds++cs.map .v) (us++ws++vs):=
  BK (by rfl) (by grind[Du,Ca]) (Aw (Aw h1 h3) h2)
 refine Calls.mono (hspec.2 _ w _ hw.rep.empty hargs') ?_
 rintro e w' ⟨u,g',rfl,hw',hr⟩
 obtain⟨h4,h5⟩:=hw.back0 (by rfl) hw'
 simp only[Ag] at hr
 obtain⟨hsz,u',hu',hr',hp',_⟩:=hw'.rep.own k' sz xs (by simp)
 obtain rfl:u=u':=by grind
 obtain⟨h6,h7⟩:=h4.addOwn (k:=k) (sz:=sz) (xs:=xs) (u:=u) hk hsz hr' hp' (fun b hb=>by
  rcases hw'.owns (k',sz,xs) (by simp) u hr.2 b hb with h|h
  ·refine⟨IE hw.size h,fun i cs hi=>?_,fun x hx v hv hvb=>?_⟩
   ·have:=hw.rep.obj_lt hi;grind
   ·have:=hw.rep.own_lt hx hv hvb;grind
  grind[Hb])
 exact⟨u,rfl,hK _ _ _ h6 (Gh.le_trans h5 h7) (by grind[Ag])⟩
inductive Eh (q:Nat):List D->List D->Prop
 |nil:Eh q [] []
 |pl {d:D} {ds dc:List D} (hp:d.pl=J) (h:Eh q ds dc):Eh q (d::ds) (d::dc)
 |ptr {off:Nat} {ds dc:List D} (h:Eh q ds dc):Eh q (.ptr q off::ds) (.ptr 0 off::dc)
 |arr {off len:Nat} {ds dc:List D} (h:Eh q ds dc):Eh q (.arr q off len::ds) (.arr 0 off len::dc)
theorem Eh.rep{q:Nat}{g gc:Gh}(hM:gc.M=g.M)(hβ:gc.β 0=g.β q)(hn:0<gc.n):∀{ds dc:List D},Eh q ds dc->∀{us:List yz},Af g ds us->Af gc dc us
 |_,_,.nil,us,h=>by grind[Af]
 |_,_,.pl hp h',us,h=>by
  obtain⟨u,us',e,h1,h2⟩:=h
  exact⟨u,us',e,Mv hM hp h1,Eh.rep hM hβ hn h' h2⟩
 |_,_,.ptr h',us,h=>by
  obtain⟨u,us',e,h1,h2⟩:=h
  refine⟨u,us',e,?_,Eh.rep hM hβ hn h' h2⟩
  grind[Ag]
 |_,_,.arr h',us,h=>by
  obtain⟨u,us',e,h1,h2⟩:=h
  refine⟨u,us',e,?_,Eh.rep hM hβ hn h' h2⟩
  grind[Ag]
theorem dm.one{g:Gh}{w:x5}(h:dm g σ w){q:Nat}{cs:List D}(hq:σ.H[q]?=G (G cs))(hp:D.pls cs=J):dm { M:=g.M,β:=fun _=>g.β q,n:=1,ι:=fun _ _=>none,κ:=fun _=>g.κ q } ⟨[G cs],[]⟩ w where
 n:=rfl
 mem:=h.mem
 gl:=h.gl
 gw:=h.gw
 obj:=fun i cs' hi=>by
  cases i with
  |zero=>
   obtain⟨us,rest,e,hb,hr,h1,hM,hκ⟩:=h.obj q cs hq
   grind[BK]
  |succ i=>grind
 inj:=fun i j cs1 cs2 hi hj _=>by
  grind
 own:=fun k sz xs hx=>by grind
 tags:=by simp
 sep:=fun x hx=>by grind
 ownObj:=fun x hx=>by grind
 fresh:=fun _ _ _=>rfl
theorem Vp{M:c6}{b0:Nat}{w:x5}{b:Nat}{ι:Nat->Nat->Option yz}{κ:Nat->Nat}{cs:List D}(h:cd.priv ⟨{ M,β:=fun _=>b0,n:=1,ι,κ },w,⟨[G cs],[]⟩⟩ b):b=b0:=by
 rcases h with⟨i,cs',hi,e⟩|⟨x,hx,_⟩
 all_goals grind
theorem WI.back1{E:cd}{g g':Gh}{w w':x5}{q:Nat}{cs cs':List D}{own':List (Nat×Nat×List V)}(hw:WI E g σ w)(hq:σ.H[q]?=G (G cs))(hp':D.pls cs'=J)
  (h:WI ⟨{ M:=g.M,β:=fun _=>g.β q,n:=1,ι:=fun _ _=>none,κ:=fun _=>g.κ q },w,⟨[G cs],[]⟩⟩ g' ⟨[G cs'],own'⟩ w'):WI E { g with M:=g'.M } ⟨σ.H.set q (G cs'),σ.own⟩ w'/\g.le { g with M:=g'.M }:=by
 refine⟨hw.setObjG h.M hq (fun c hc=>?_) (fun b hb hne=>?_) h.rep.mem h.size h.os h.tape h.output (drawn:=h.drawn),⟨h.M,HP _,fun _ _=>rfl,fun _ _ _ h=>h,fun _ _=>rfl⟩⟩
 ·obtain⟨us,rest,e,hb,hr,h1,hM,hκ⟩:=h.rep.obj 0 cs' (by simp)
  have hβ:g'.β 0=g.β q:=h.βE 0 (by simp)
  have hκ':g'.κ 0=g.κ q:=h.κE 0 (by simp)
  grind[BK]
 ·exact h.keep b hb (fun hpr=>hne (Vp hpr))
theorem JQ{c:Call}{fo:x8}(ho:o.op=.call c)(hc:c.callee=.value fo){f:yx}{fs cs:List V}{ds dc:List D}{q:Nat}{os os':List D}(hq:σ.H[q]?=G (G os))(hos:D.pls os=J)(hos':D.pls os'=J)(ha:Eh q ds dc)(hd:d.pl=J)
  (hspec:Aa P f (fs.map .v++dc++cs.map .v) ⟨[G os],[]⟩ d ⟨[G os'],[]⟩):Ai P o (.v (.fn f fs cs)::ds) σ d ⟨σ.H.set q (G os'),σ.own⟩:=by
 intro E g a w K Q hw hds hK
 obtain⟨us,vs,ws,hf,hargs,h1,h2,h3⟩:=DQ ho hc hds
 refine G4 (_E:=E) (_g:=g) ho hc hspec.1 hf hargs ?_
 have hargs':Af { M:=g.M,β:=fun _=>g.β q,n:=1,ι:=fun _ _=>none,κ:=fun _=>g.κ q } (fs.map .v++dc++cs.map .v) (us++ws++vs):=
  Aw (Aw (BK (by rfl) (Ca fs) h1) (Eh.rep (q:=q) (g:=g) (by rfl) (by rfl) (by simp) ha h3)) (BK (by rfl) (Ca cs) h2)
 refine Calls.mono (hspec.2 _ w _ (hw.rep.one hq hos) hargs') ?_
 rintro e w' ⟨u,g',rfl,hw',hr⟩
 obtain⟨h4,h5⟩:=hw.back1 hq hos' hw'
 exact⟨u,rfl,hK _ _ _ h4 h5 (Mv (by rfl) hd hr)⟩
theorem Rd{c:Call}{fo:x8}(ho:o.op=.call c)(hc:c.callee=.value fo){f:yx}{fs cs:List V}{ds dc:List D}{q:Nat}{os os':List D}(hq:σ.H[q]?=G (G os))(hos:D.pls os=J)(hos':D.pls os'=J)(ha:Eh q ds dc)
  {k' sz:Nat} {xs:List V} (k:Nat) (hk:∀x∈σ.own,x.1≠k) (hspec:Aa P f (fs.map .v++dc++cs.map .v) ⟨[G os],[]⟩ (.acc k' xs) ⟨[G os'],[(k',sz,xs)]⟩):
  Ai P o (.v (.fn f fs cs)::ds) σ (.acc k xs) ⟨σ.H.set q (G os'),(k,sz,xs)::σ.own⟩:=by
 intro E g a w K Q hw hds hK
 obtain⟨us,vs,ws,hf,hargs,h1,h2,h3⟩:=DQ ho hc hds
 refine G4 (_E:=E) (_g:=g) ho hc hspec.1 hf hargs ?_
 have hargs':Af { M:=g.M,β:=fun _=>g.β q,n:=1,ι:=fun _ _=>none,κ:=fun _=>g.κ q } (fs.map .v++dc++cs.map .v) (us++ws++vs):=
  Aw (Aw (BK (by rfl) (Ca fs) h1) (Eh.rep (q:=q) (g:=g) (by rfl) (by rfl) (by simp) ha h3)) (BK (by rfl) (Ca cs) h2)
 refine Calls.mono (hspec.2 _ w _ (hw.rep.one hq hos) hargs') ?_
 rintro e w' ⟨u,g',rfl,hw',hr⟩
 obtain⟨h4,h5⟩:=hw.back1 hq hos' hw'
 simp only[Ag] at hr
 obtain⟨hsz,u',hu',hr',hp',_⟩:=hw'.rep.own k' sz xs (by simp)
 obtain rfl:u=u':=by grind
 have hβ:g'.β 0=g.β q:=hw'.βE 0 (by simp)
 obtain⟨h6,h7⟩:=h4.addOwn (k:=k) (sz:=sz) (xs:=xs) (u:=u) hk hsz hr' hp' (fun b hb=>by
  have hne:g'.β 0≠b:=hw'.rep.ownObj (k',sz,xs) (by simp) u hr.2 b hb 0 os' (by simp)
  rcases hw'.owns (k',sz,xs) (by simp) u hr.2 b hb with h|h
  ·refine⟨IE hw.size h,fun i cs hi=>?_,fun x hx v hv hvb=>?_⟩
   ·obtain⟨cs2,hc2⟩:∃cs2,σ.H[i]?=G (G cs2):=by
     grind
    have:=hw.rep.obj_lt hc2;grind
   ·have:=hw.rep.own_lt hx hv hvb;grind
  ·exact absurd (Vp h) (fun e=>hne (by omega)))
 exact⟨u,rfl,hK _ _ _ h6 (Gh.le_trans h5 h7) (by grind[Ag])⟩
end
theorem WI.restrict{E:cd}{g:Gh}{σ σ':St}{w:x5}(hw:WI E g σ w){m:Nat}(hH:σ'.H=σ.H.take m)(hm:m<=I σ.H)(hE:E.g.n<=m)(hc:∀(i:Nat) (cs:List D),σ'.H[i]?=G (G cs)->D.pls cs=J)(hown:σ'.own.Sublist σ.own):
  WI E { g with n:=m,ι:=fun k j=>if k∈σ'.own.map (·.1) then g.ι k j else none } σ' w:=by
 have get:∀(i:Nat) (cs:List D),σ'.H[i]?=G (G cs)->σ.H[i]?=G (G cs)/\i<m:=by
  grind
 have hι:∀x∈σ'.own,(if x.1∈σ'.own.map (·.1) then g.ι x.1 (I x.2.2) else none)=g.ι x.1 (I x.2.2):=fun x hx=>Ie (I2.2 ⟨x,hx,rfl⟩)
 refine{ rep:=⟨?_,hw.rep.mem,fun i cs hi=>?_,fun i j cs ds hi hj=>hw.rep.inj i j cs ds (get i cs hi).1 (get j ds hj).1,fun k sz xs hx=>?_,?_,fun x hx y hy hne u u' hu hu' b hb=>?_,fun x hx u hu b hb i cs hi=>?_,fun k hk j=>?_,hw.rep.gl,hw.rep.gw⟩,M:=hw.M,size:=hw.size,keep:=hw.keep,os:=hw.os,tape:=hw.tape,output:=hw.output,nE:=hE,βE:=fun o ho=>hw.βE o ho,κE:=fun o ho=>hw.κE o ho,objs:=fun i cs hi=>hw.objs i cs (get i cs hi).1,owns:=fun x hx u hu b hb=>?_,drawn:=hw.drawn }
 ·grind
 ·obtain⟨us,rest,e,h1,h2,h3,h4⟩:=hw.rep.obj i cs (get i cs hi).1
  grind[BK]
 ·obtain⟨h0,u,hu,h1,h2,h3⟩:=hw.rep.own k sz xs (hown.subset hx)
  grind
 ·exact(hown.map _).nodup hw.rep.tags
 ·exact hw.rep.sep x (hown.subset hx) y (hown.subset hy) hne u u' ((hι x hx).symm.trans hu) ((hι y hy).symm.trans hu') b hb
 ·exact hw.rep.ownObj x (hown.subset hx) u ((hι x hx).symm.trans hu) b hb i cs (get i cs hi).1
 ·grind
 ·exact hw.owns x (hown.subset hx) u ((hι x hx).symm.trans hu) b hb
inductive So (P:x7) (env:List D) (σ:St):List ResultVar->List D->Prop
 |nil:So P env σ [] []
 |tmp {t:Tmp} {d:D} {rs:List ResultVar} {ds:List D} (h:env[t]?=G d) (hr:So P env σ rs ds):So P env σ (.tmp t::rs) (d::ds)
 |cellA {a:Tmp} {t:x6} {q off n:Nat} {cs:List D} {xs:List V} {rs:List ResultVar} {ds:List D} (h:env[a]?=G (.ptr q off)) (hH:σ.H[q]?=G (G cs)) (ht:TS P t n) (hn:off+n<=I cs)
   (hc:Fx ((cs.drop off).take n)=G xs) (hr:So P env σ rs ds):So P env σ (.cell a t::rs) (.v (.agg xs)::ds)
 |cell1 {a:Tmp} {t:x6} {q off:Nat} {cs:List D} {d:D} {rs:List ResultVar} {ds:List D} (h:env[a]?=G (.ptr q off)) (hH:σ.H[q]?=G (G cs)) (ht:Sp P t) (hc:cs[off]?=G d) (hr:So P env σ rs ds):
   So P env σ (.cell a t::rs) (d::ds)
 |cellD {a:Tmp} {t:x6} {q off n:Nat} {cs:List D} {rs:List ResultVar} {ds:List D} (h:env[a]?=G (.ptr q off)) (hH:σ.H[q]?=G (G cs)) (ht:TS P t n) (hn:off+n<=I cs) (hr:So P env σ rs ds):
   So P env σ (.cell a t::rs) (.dagg ((cs.drop off).take n)::ds)
theorem er{g:Gh}{env:List D}{a:Act}(h:Af g env a.tmps.toList){t:Nat}{d:D}(hd:env[t]?=G d):Ag g d (a.tmps.getD t undef):=by
 have:=Gf h t
 grind[gr,Act.eval]
def sr(tmps:Array yz):ResultVar->Sem yz
 |.tmp t=>pure (tmps.getD t undef)
 |.cell a t=>do loadVar t (←asAddr (tmps.getD a undef))
theorem H6(fn:yw)(tmps:Array yz):results fn tmps=(do let vs ←fn.results.mapM (sr tmps);pure (if h:vs.size=1 then vs[0] else .tuple vs)):=by
 rfl
theorem So.run{P:x7}{env:List D}{σ:St}{E:cd}{g:Gh}{a:Act}{w:x5}(hf:FI E g σ env a w):∀{rs:List ResultVar} {ds:List D},So P env σ rs ds->
  ∃us,(rs.mapM (sr a.tmps)).run P w=.ok us w/\Af g ds us
 |_,_,.nil=>⟨[],by simp,by rfl⟩
 |_,_,.tmp (t:=t) h hr=>by
  obtain⟨us,h1,h2⟩:=So.run hf hr
  refine⟨a.tmps.getD t undef::us,?_,?_⟩
  ·grind[sr,Sem.run_bind,Sem.run_pure,Result.andThen_ok]
  ·simp only[Af];exact⟨_,us,rfl,er hf.env h,h2⟩
 |_,_,.cellA (n:=n) (cs:=cs) (off:=off) (q:=q) h hH ht hn hc hr=>by
  obtain⟨us,h1,h2⟩:=So.run hf hr
  have hp:=er hf.env h
  simp only[Ag] at hp
  obtain⟨us',rest',et,hb,hrr,hone,_⟩:=hf.wi.rep.obj q cs hH
  have hra:=GU hc (Ce (Cq hrr off) n) (fun c hc'=>hone c (List.mem_of_mem_drop (Ji hc')))
  have hl:I us'=I cs:=A1 hrr
  have hld:=run_loadCells_list (P:=P) w ⟨g.β q,off,none⟩ ((us'.drop off).take n) (fun j v hj=>by
   grind[World.cell?,Addr.add])
  have hlen:I ((us'.drop off).take n)=n:=by grind
  rw[hlen] at hld
  refine⟨.agg ((us'.drop off).take n).toArray::us,?_,?_⟩
  ·rw[List.mapM_cons]
   simp only[sr,Sem.run_bind,Sem.run_pure,Result.andThen_ok,hp.2,asAddr,loadVar,Dg ht,dw ht,hld,IT,h1]
  grind[Af,Ag,Db]
 |_,_,.cell1 (cs:=cs) (off:=off) (q:=q) h hH ht hc hr=>by
  obtain⟨us,h1,h2⟩:=So.run hf hr
  have hp:=er hf.env h
  simp only[Ag] at hp
  obtain⟨us',rest',et,hb,hrr,hone,_⟩:=hf.wi.rep.obj q cs hH
  obtain⟨u',hu,hd⟩:=BA hrr hc
  have hcell:w.cell? ⟨g.β q,off,none⟩=G u':=by grind[World.cell?]
  refine⟨u'::us,?_,?_⟩
  ·rw[List.mapM_cons]
   simp only[sr,Sem.run_bind,hp.2,asAddr,Sem.run_pure,Result.andThen_ok,loadVar,Dg ht,Jy,if_false,run_load,hcell,h1]
  grind[Af]
 |_,_,.cellD (n:=n) (cs:=cs) (off:=off) (q:=q) h hH ht hn hr=>by
  obtain⟨us,h1,h2⟩:=So.run hf hr
  have hp:=er hf.env h
  simp only[Ag] at hp
  obtain⟨us',rest',et,hb,hrr,hone,_⟩:=hf.wi.rep.obj q cs hH
  have hra:=Ce (Cq hrr off) n
  have hl:I us'=I cs:=A1 hrr
  have hld:=run_loadCells_list (P:=P) w ⟨g.β q,off,none⟩ ((us'.drop off).take n) (fun j v hj=>by
   grind[World.cell?,Addr.add])
  have hlen:I ((us'.drop off).take n)=n:=by grind
  rw[hlen] at hld
  refine⟨.agg ((us'.drop off).take n).toArray::us,?_,?_⟩
  ·rw[List.mapM_cons]
   simp only[sr,Sem.run_bind,Sem.run_pure,Result.andThen_ok,hp.2,asAddr,loadVar,Dg ht,dw ht,hld,IT,h1]
  grind[Af,Ag]
def Tb:List D->D
 |[d]=>d
 |ds=>.tup ds
theorem Aa.un{P:x7}{f:yx}{ds:List D}{σ:St}{k sz:Nat}{xs:List V}{H:List (Option (List D))}(hH:∀(i:Nat) (cs:List D),H[i]?=G (G cs)->D.pls cs=J)(hn:I σ.H<=I H)
  (h:Aa P f ds σ (.acc k xs) ⟨H,[(k,sz,xs)]⟩):Aa P f ds σ (.v (.list xs)) ⟨H,[]⟩:=by
 refine⟨h.1,fun g w args hw hargs=>?_⟩
 refine Calls.mono (h.2 g w args hw hargs) ?_
 rintro e w' ⟨u,g',rfl,hw',hr⟩
 refine⟨u,_,rfl,hw'.restrict (σ':=⟨H,[]⟩) (m:=I H) (by simp) (HP _) (by simp only[hw.n];exact hn) hH (by simp),?_⟩
 grind[Ag]
section
variable {C : cd -> cd -> Prop} {P : x7} {R : List D -> St -> Prop} {k : List KI} {env : List D} {σ : St}
theorem GV:∀xs:List V,Fx (xs.map .v)=G xs
 |[]=>rfl
 |x::xs=>by simp[Fx,D.toV,GV xs]
end
def Ob(acc:List Nat)(o:yy):Nat:=o.after.toList.foldl (fun s e=>if Region.binds .any e then s|||2^e.on|||acc.getD e.on 0 else s) 0
def Fw:List Nat->List yy->List Nat
 |acc,[]=>acc
 |acc,o::os=>Fw (acc++[Ob acc o]) os
theorem Ok(acc:List Nat)(i:Nat):∀(es:List Edge) (s:Nat),(es.foldl (fun s e=>if Region.binds .any e then s|||2^e.on|||acc.getD e.on 0 else s) s).testBit i=J->
  s.testBit i=J∨∃e∈es,Region.binds .any e=J/\(i=e.on∨(acc.getD e.on 0).testBit i=J)
 |[],s,h=>.inl h
 |e::es,s,h=>by
  simp only[IX] at h
  rcases Ok acc i es _ h with h|⟨e',he,hb,hi⟩
  all_goals grind
def DC(ops:Array yy)(S:Nat->Bool):Prop:=∀i o,ops[i]?=G o->S i=J->∀e∈o.after,Region.binds .any e=J->S e.on=J
def ApS(acc:List Nat)(S:Nat->Bool):Prop:=∀j m,acc[j]?=G m->S j=J->∀i,m.testBit i=J->S i=J
theorem Rt{acc:List Nat}{S:Nat->Bool}{o:yy}(hg:ApS acc S)(hd:∀e∈o.after,Region.binds .any e=J->S e.on=J):∀i,(Ob acc o).testBit i=J->S i=J:=by
 intro i hi
 rcases Ok acc i _ _ hi with h|⟨e,he,hb,h⟩
 ·grind
 ·have hs:=hd e (by grind) hb
  rcases h with rfl|h
  ·exact hs
  ·cases hm:acc[e.on]? with
   |none=>grind
   |some m=>
    rw[HQ,hm] at h
    exact hg e.on m hm hs i h
theorem Tx{ops:Array yy}{S:Nat->Bool}(hdc:DC ops S):∀(os:List yy) (acc:List Nat),(∀k,os[k]?=ops[I acc+k]?)->ApS acc S->ApS (Fw acc os) S
 |[],acc,_,hg=>hg
 |o::os,acc,ha,hg=>by
  simp only[Fw]
  refine Tx hdc os _ (fun k=>?_) ?_
  ·have:=ha (k+1)
   simp only[HW,length_singleton]
   rw[show I acc+1+k=I acc+(k+1) by omega]
   simpa using this
  ·intro j m hj hs i hi
   by_cases hlt:j<I acc
   ·rw[Ig hlt] at hj
    exact hg j m hj hs i hi
   ·have hj':j=I acc:=by
     have:=(HL.1 hj).1
     simp at this;omega
    subst hj'
    rw[Ib (HP _)] at hj
    simp at hj
    subst hj
    have ho:ops[I acc]?=G o:=by have:=ha 0;simpa using this.symm
    exact Rt hg (hdc _ o ho hs) i hi
theorem ON:∀(os:List yy) (acc:List Nat),∃r,Fw acc os=acc++r
 |[],acc=>⟨[],by simp[Fw]⟩
 |o::os,acc=>by
  obtain⟨r,h⟩:=ON os (acc++[Ob acc o])
  grind[Fw]
theorem Wq:∀(os:List yy) (acc:List Nat) (k:Nat) (o:yy),os[k]?=G o->∃acc',(Fw acc os)[I acc+k]?=G (Ob acc' o)/\∃r,Fw acc os=acc'++r
 |[],acc,k,o,h=>by grind
 |o0::os,acc,k,o,h=>by
  simp only[Fw]
  cases k with
  |zero=>
   simp at h;subst h
   obtain⟨r,hr⟩:=ON os (acc++[Ob acc o0])
   grind
  |succ k=>
   simp at h
   obtain⟨acc',h1,h2⟩:=Wq os (acc++[Ob acc o0]) k o h
   grind
theorem QR{ops:Array yy}{S:Nat->Bool}(hdc:DC ops S){j:Nat}{o:yy}(ho:ops[j]?=G o)(hr:∀e∈o.after,Region.binds .any e=J->S e.on=J):
  ∀i,((Fw [] ops.toList).getD j 0).testBit i=J->S i=J:=by
 intro i hi
 obtain⟨acc',h1,r,h2⟩:=Wq ops.toList [] j o (by grind)
 simp only[HR,I4] at h1
 rw[HQ,h1] at hi
 have hg:=Tx hdc ops.toList [] (fun k=>by simp) (fun j m hj=>by grind)
 rw[h2] at hg
 exact Rt (acc:=acc') (fun j m hj=>hg j m (by grind)) hr i hi
theorem PF{ops:Array yy}{S:Nat->Bool}(hdc:DC ops S){j:Nat}(hs:S j=J):∀i,((Fw [] ops.toList).getD j 0).testBit i=J->S i=J:=by
 intro i hi
 have hg:=Tx hdc ops.toList [] (fun k=>by simp) (fun j m hj=>by grind)
 cases hm:(Fw [] ops.toList)[j]? with
 |none=>grind
 |some m=>
  rw[HQ,hm] at hi
  exact hg j m hm hs i hi
def HC(ops:Array yy)(o:yy):List Tmp:=
 (o.op.operands.toList.filterMap fun|.tmp t=>G t|_=>none)++(match o.guard with|G (j,_)=>((ops[j]?).bind (·.dst)).toList|none=>[])
def TA(ops:Array yy)(x y:yy):Bool:=
 (match x.dst with|G t=>(HC ops y).contains t||y.dst==G t|none=>false)||(match y.dst with|G t=>(HC ops x).contains t|none=>false)
def vf(ops:Array yy)(effs:List Bool):Bool:=
 let b:=Fw [] ops.toList
 (List.range ops.size).all fun j=>
  match ops[j]? with
  |none=>false
  |some oj=>
   oj.after.all (fun e=> !Region.binds .any e||Y (e.on<j))&&
   (List.range j).all fun i=>
    match ops[i]? with
    |none=>false
    |some oi=> !(TA ops oi oj||(effs.getD i false&&effs.getD j false))||(b.getD j 0).testBit i
theorem Xg{ops:Array yy}{effs:List Bool}(h:vf ops effs=J){j:Nat}{o:yy}(ho:ops[j]?=G o):∀e∈o.after,Region.binds .any e=J->e.on<j:=by
 intro e he hb
 have hlt:j<ops.size:=(ID.1 ho).1
 have h1:=I5.1 h j (by grind)
 grind[Array.all_eq_true_iff_forall_mem]
theorem Mx{ops:Array yy}{effs:List Bool}(h:vf ops effs=J){i j:Nat}{oi oj:yy}(hi:ops[i]?=G oi)(hj:ops[j]?=G oj)(hij:i<j)(hc:TA ops oi oj=J∨(effs.getD i false=J/\effs.getD j false=J)):
  ((Fw [] ops.toList).getD j 0).testBit i=J:=by
 have hlt:j<ops.size:=(ID.1 hj).1
 have h1:=I5.1 h j (by grind)
 grind
abbrev It:=Option Tmp×D×Bool
def CY(S:Nat->Bool)(e:List D)(x:It×Nat):List D:=if S x.2 then B5 e x.1.1 x.1.2.1 else e
def YO(items:List It)(S:Nat->Bool)(env0:List D):List D:=(items.zipIdx 0).foldl (CY S) env0
def D9(S:Nat->Bool)(c:Nat)(x:It×Nat):Nat:=if S x.2&&x.1.2.2 then c+1 else c
def Wa(items:List It)(S:Nat->Bool):Nat:=(items.zipIdx 0).foldl (D9 S) 0
theorem Vl{e:List D}{t:Option Tmp}{d:D}(s:Nat):(B5 e t d)[s]?=if t=G s then(e[s]?).map (fun _=>d) else e[s]?:=by
 cases t<;>grind[B5]
theorem J9{S S':Nat->Bool}{t:Tmp}:∀(l:List (It×Nat)) (e e':List D),(∀x∈l,x.1.1=G t->S x.2=S' x.2)->e[t]?=e'[t]?->(l.foldl (CY S) e)[t]?=(l.foldl (CY S') e')[t]?
 |[],e,e',_,h=>h
 |x::l,e,e',hl,h=>by
  simp only[IX]
  refine J9 l _ _ (fun y hy=>hl y (by simp[hy])) ?_
  by_cases hx:x.1.1=G t
  ·have:=hl x (by simp) hx
   unfold CY
   rw[this]
   split
   ·simp[Vl,hx,h]
   ·exact h
  ·unfold CY
   have hp:∀e:List D,(B5 e x.1.1 x.1.2.1)[t]?=e[t]?:=fun e=>by rw[Vl,HZ hx]
   split<;>split<;>simp[hp,h]
theorem MP{S S':Nat->Bool}:∀(l:List (It×Nat)) (c:Nat),(∀x∈l,x.1.2.2=J->S x.2=S' x.2)->l.foldl (D9 S) c=l.foldl (D9 S') c
 |[],c,_=>rfl
 |x::l,c,hl=>by
  simp only[IX]
  have:D9 S c x=D9 S' c x:=by
   unfold D9
   cases hx:x.1.2.2 with
   |false=>simp
   |true=>rw[hl x (by simp) hx]
  rw[this]
  exact MP l _ (fun y hy=>hl y (by simp[hy]))
theorem KL{items:List It}{x:It×Nat}(h:x∈items.zipIdx 0):items[x.2]?=G x.1:=by
 grind
theorem Ag0{items:List It}{S:Nat->Bool}{env0:List D}{j:Nat}{it:It}(hj:items[j]?=G it)(hS:S j=O)(hlast:∀(i:Nat) (x:It),items[i]?=G x->S i=J->j<i->it.1=none∨x.1≠it.1):
  YO items (fun i=>S i||i==j) env0=B5 (YO items S env0) it.1 it.2.1:=by
 have hjl:j<I items:=(HL.1 hj).1
 have hsplit:items=items.take j++it::items.drop (j+1):=by
  grind[drop_eq_getElem_cons,List.take_append_drop]
 have hlen:I (items.take j)=j:=by grind
 have hz:items.zipIdx 0=(items.take j).zipIdx 0++(it,j)::(items.drop (j+1)).zipIdx (j+1):=by
  grind[List.zipIdx_cons]
 unfold YO
 rw[hz,List.foldl_append,List.foldl_append,IX,IX]
 have e1:(items.take j).zipIdx.foldl (CY fun i=>S i||i==j) env0=(items.take j).zipIdx.foldl (CY S) env0:=by
  have:∀(l:List (It×Nat)) (e:List D),(∀x∈l,x.2≠j)->l.foldl (CY fun i=>S i||i==j) e=l.foldl (CY S) e:=by
   intro l
   induction l<;>grind[CY]
  grind
 rw[e1]
 generalize (items.take j).zipIdx.foldl (CY S) env0=E
 have s1:CY (fun i=>S i||i==j) E (it,j)=B5 E it.1 it.2.1:=by simp[CY]
 have s2:CY S E (it,j)=E:=by grind[CY]
 rw[s1,s2]
 -- what follows does not touch the slot
 have later:∀(l:List (It×Nat)) (e:List D),(∀x∈l,x.2≠j/\(S x.2=J->it.1=none∨x.1.1≠it.1))->l.foldl (CY fun i=>S i||i==j) (B5 e it.1 it.2.1)=B5 (l.foldl (CY S) e) it.1 it.2.1:=by
  intro l
  induction l with
  |nil=>grind
  |cons x l ih=>
   intro e hl
   simp only[IX]
   obtain⟨hx,hd⟩:=hl x (by simp)
   have hh:CY (fun i=>S i||i==j) (B5 e it.1 it.2.1) x=B5 (CY S e x) it.1 it.2.1:=by
    unfold CY
    have hxj:(x.2==j)=O:=by grind
    simp only[hxj,Bool.or_false]
    split
    ·rename_i hs
     rcases hd hs with h|h
     ·rw[h];rfl
     ·cases h1:it.1 with
      |none=>rfl
      |some t=>
       cases h2:x.1.1<;>grind[B5,List.set_comm]
    ·rfl
   grind
 grind
theorem AgF{items:List It}{S:Nat->Bool}{j:Nat}{it:It}(hj:items[j]?=G it)(hS:S j=O):Wa items (fun i=>S i||i==j)=Wa items S+(if it.2.2 then 1 else 0):=by
 have hjl:j<I items:=(HL.1 hj).1
 have hsplit:items=items.take j++it::items.drop (j+1):=by
  grind[drop_eq_getElem_cons,List.take_append_drop]
 have hlen:I (items.take j)=j:=by grind
 have hz:items.zipIdx 0=(items.take j).zipIdx 0++(it,j)::(items.drop (j+1)).zipIdx (j+1):=by
  grind[List.zipIdx_cons]
 have same:∀(l:List (It×Nat)) (c:Nat),(∀x∈l,x.2≠j)->l.foldl (D9 fun i=>S i||i==j) c=l.foldl (D9 S) c:=by
  intro l
  induction l<;>grind[D9]
 have shift:∀(l:List (It×Nat)) (c d:Nat),l.foldl (D9 S) (c+d)=l.foldl (D9 S) c+d:=by
  intro l
  induction l<;>grind[D9]
 unfold Wa
 rw[hz,List.foldl_append,List.foldl_append,IX,IX]
 grind[D9]
abbrev Ef:=Bool×Option Nat
def Xw(ops:Array yy)(i f:Nat):Bool:=((Fw [] ops.toList).getD i 0).testBit f
inductive GR (P:x7) (ops:Array yy) (sts:Bool->List St) (fr:Nat):List yy->List D->Nat->List D->List Ef->List D->Nat->Prop
 |nil {env:List D} {j:Nat}:GR P ops sts fr [] env j [] [] env j
 |skip {o:yy} {rest:List yy} {env env':List D} {j j':Nat} {vals:List D} {effs:List Ef} (hne:ops.size- (I rest+1)≠fr) (hw:BW env ops o=G false) (h:GR P ops sts fr rest (B5 env o.dst (.tup [])) j vals effs env' j'):
   GR P ops sts fr (o::rest) env j (.tup []::vals) ((false,none)::effs) env' j'
 |quiet {o:yy} {rest:List yy} {env env':List D} {j j':Nat} {vals:List D} {effs:List Ef} {d:D} (hne:ops.size- (I rest+1)≠fr) (hw:BW env ops o=G true) (ho:∀b,∀s∈sts b,Ai P o (EJ env o) s d s) (h:GR P ops sts fr rest (B5 env o.dst d) j vals effs env' j'):
   GR P ops sts fr (o::rest) env j (d::vals) ((false,none)::effs) env' j'
 |eff {o:yy} {rest:List yy} {env env':List D} {j j':Nat} {vals:List D} {effs:List Ef} {d:D} (hne:ops.size- (I rest+1)≠fr) (hw:BW env ops o=G true) (ho:∀b s,(sts b)[j]?=G s->(b=O->Xw ops (ops.size- (I rest+1)) fr=O)->∃s',(sts b)[j+1]?=G s'/\Ai P o (EJ env o) s d s')
   (h:GR P ops sts fr rest (B5 env o.dst d) (j+1) vals effs env' j'):GR P ops sts fr (o::rest) env j (d::vals) ((true,none)::effs) env' j'
 |quietW {o:yy} {rest:List yy} {env env':List D} {j j':Nat} {vals:List D} {effs:List Ef} {d:D} (lim:Nat) (hne:ops.size- (I rest+1)≠fr) (hw:BW env ops o=G true) (ho:∀(b:Bool) (c:Nat) (s:St),c<=lim->(sts b)[c]?=G s->Ai P o (EJ env o) s d s) (h:GR P ops sts fr rest (B5 env o.dst d) j vals effs env' j'):
   GR P ops sts fr (o::rest) env j (d::vals) ((false,G lim)::effs) env' j'
 |free {o:yy} {rest:List yy} {env env':List D} {j j':Nat} {vals:List D} {effs:List Ef} {d:D} (hf:fr=ops.size- (I rest+1)) (hw:BW env ops o=G true) (ho:∀(c:Nat) (s:St),(sts false)[c]?=G s->∃s',(sts true)[c]?=G s'/\Ai P o (EJ env o) s d s') (h:GR P ops sts fr rest (B5 env o.dst d) j vals effs env' j'):
   GR P ops sts fr (o::rest) env j (d::vals) ((false,none)::effs) env' j'
def AT:List yy->List D->List Ef->List It
 |o::os,d::ds,b::bs=>(o.dst,d,b.1)::AT os ds bs
 |_,_,_=>[]
def RH(items:List It)(env0:List D):List D:=items.foldl (fun e it=>B5 e it.1 it.2.1) env0
def Wb(items:List It):Nat:=items.foldl (fun c it=>if it.2.2 then c+1 else c) 0
theorem Hj(items:List It)(it:It)(env0:List D):RH (items++[it]) env0=B5 (RH items env0) it.1 it.2.1:=by simp[RH]
theorem Hk(items:List It)(it:It):Wb (items++[it])=Wb items+if it.2.2 then 1 else 0:=by grind[Wb]
def ApT(P:x7)(ops:Array yy)(sts:Bool->List St)(fr:Nat)(items:List It)(lims:List Ef)(env0:List D)(i:Nat)(o:yy):Prop:=
 ∃d b,items[i]?=G (o.dst,d,b)/\
  ((BW (RH (items.take i) env0) ops o=G false/\d=.tup []/\b=O/\i≠fr)∨
   (BW (RH (items.take i) env0) ops o=G true/\b=O/\i≠fr/\∀(b:Bool) (c:Nat) (s:St),(sts b)[c]?=G s->(∀lim,(lims[i]?).bind (·.2)=G lim->c<=lim)->Ai P o (EJ (RH (items.take i) env0) o) s d s)∨
   (BW (RH (items.take i) env0) ops o=G true/\b=true/\i≠fr/\∀bb s,(sts bb)[Wb (items.take i)]?=G s->(bb=O->Xw ops i fr=O)->∃s',(sts bb)[Wb (items.take i)+1]?=G s'/\Ai P o (EJ (RH (items.take i) env0) o) s d s')∨
   (BW (RH (items.take i) env0) ops o=G true/\b=O/\i=fr/\∀(c:Nat) (s:St),(sts false)[c]?=G s->∃s',(sts true)[c]?=G s'/\Ai P o (EJ (RH (items.take i) env0) o) s d s'))
theorem GR.facts{P:x7}{ops:Array yy}{sts:Bool->List St}{fr:Nat}{rest:List yy}{env env':List D}{j j':Nat}{vals:List D}{effs:List Ef}(h:GR P ops sts fr rest env j vals effs env' j'):
  ∀(d8:List It) (pe:List Ef) (env0:List D),I pe=I d8->I d8+I rest=ops.size->env=RH d8 env0->j=Wb d8->
   (∀k o,rest[k]?=G o->ApT P ops sts fr (d8++AT rest vals effs) (pe++effs) env0 (I d8+k) o)/\env'=RH (d8++AT rest vals effs) env0/\j'=Wb (d8++AT rest vals effs)/\(AT rest vals effs).length=I rest/\effs.map (·.1)=(AT rest vals effs).map (·.2.2):=by
 induction h with
 |nil=>grind[AT]
 | @skip o rest env env' j j' vals effs hne hw h ih=>
  intro d8 pe env0 hp hl he hj
  have hidx:ops.size- (I rest+1)=I d8:=by grind
  obtain⟨f1,f2,f3,f4,f5⟩:=ih (d8++[(o.dst,bk [],false)]) (pe++[((false,none):Ef)]) env0 (by grind) (by grind) (by rw[Hj,he]) (by grind[Hk])
  have hap:d8++[(o.dst,bk [],false)]++AT rest vals effs=d8++AT (o::rest) (.tup []::vals) (((false,none):Ef)::effs):=by simp[AT]
  have hap2:pe++[((false,none):Ef)]++effs=pe++((false,none):Ef)::effs:=by simp
  rw[hap] at f1 f2 f3
  rw[hap2] at f1
  refine⟨fun k o' hk=>?_,f2,f3,by grind,by grind[AT]⟩
  cases k with
  |zero=>
   grind[ApT]
  |succ k=>
   have:=f1 k o' (by grind)
   simp only[HW,length_singleton] at this
   grind
 | @quiet o rest env env' j j' vals effs d hne hw ho h ih=>
  intro d8 pe env0 hp hl he hj
  have hidx:ops.size- (I rest+1)=I d8:=by grind
  obtain⟨f1,f2,f3,f4,f5⟩:=ih (d8++[(o.dst,d,false)]) (pe++[((false,none):Ef)]) env0 (by grind) (by grind) (by rw[Hj,he]) (by grind[Hk])
  have hap:d8++[(o.dst,d,false)]++AT rest vals effs=d8++AT (o::rest) (d::vals) (((false,none):Ef)::effs):=by simp[AT]
  have hap2:pe++[((false,none):Ef)]++effs=pe++((false,none):Ef)::effs:=by simp
  rw[hap] at f1 f2 f3
  rw[hap2] at f1
  refine⟨fun k o' hk=>?_,f2,f3,by grind,by grind[AT]⟩
  cases k with
  |zero=>
   rw[hidx] at hne
   refine⟨d,false,by grind,.inr (.inl ⟨?_,rfl,hne,?_⟩)⟩
   ·grind
   grind
  |succ k=>
   have:=f1 k o' (by grind)
   simp only[HW,length_singleton] at this
   grind
 | @eff o rest env env' j j' vals effs d hne hw ho h ih=>
  intro d8 pe env0 hp hl he hj
  have hidx:ops.size- (I rest+1)=I d8:=by grind
  obtain⟨f1,f2,f3,f4,f5⟩:=ih (d8++[(o.dst,d,true)]) (pe++[((true,none):Ef)]) env0 (by grind) (by grind) (by rw[Hj,he]) (by grind[Hk])
  have hap:d8++[(o.dst,d,true)]++AT rest vals effs=d8++AT (o::rest) (d::vals) (((true,none):Ef)::effs):=by simp[AT]
  have hap2:pe++[((true,none):Ef)]++effs=pe++((true,none):Ef)::effs:=by simp
  rw[hap] at f1 f2 f3
  rw[hap2] at f1
  refine⟨fun k o' hk=>?_,f2,f3,by grind,by grind[AT]⟩
  cases k with
  |zero=>
   rw[hidx] at hne ho
   refine⟨d,true,by grind,.inr (.inr (.inl ⟨?_,rfl,hne,?_⟩))⟩
   all_goals simp_all
  |succ k=>
   have:=f1 k o' (by grind)
   simp only[HW,length_singleton] at this
   grind
 | @quietW o rest env env' j j' vals effs d lim hne hw ho h ih=>
  intro d8 pe env0 hp hl he hj
  have hidx:ops.size- (I rest+1)=I d8:=by grind
  obtain⟨f1,f2,f3,f4,f5⟩:=ih (d8++[(o.dst,d,false)]) (pe++[((false,G lim):Ef)]) env0 (by grind) (by grind) (by rw[Hj,he]) (by grind[Hk])
  have hap:d8++[(o.dst,d,false)]++AT rest vals effs=d8++AT (o::rest) (d::vals) (((false,G lim):Ef)::effs):=by simp[AT]
  have hap2:pe++[((false,G lim):Ef)]++effs=pe++((false,G lim):Ef)::effs:=by simp
  rw[hap] at f1 f2 f3
  rw[hap2] at f1
  refine⟨fun k o' hk=>?_,f2,f3,by grind,by grind[AT]⟩
  cases k with
  |zero=>
   rw[hidx] at hne
   refine⟨d,false,by grind,.inr (.inl ⟨?_,rfl,hne,?_⟩)⟩
   all_goals grind
  |succ k=>
   have:=f1 k o' (by grind)
   simp only[HW,length_singleton] at this
   grind
 | @free o rest env env' j j' vals effs d hf hw ho h ih=>
  intro d8 pe env0 hp hl he hj
  have hidx:ops.size- (I rest+1)=I d8:=by grind
  obtain⟨f1,f2,f3,f4,f5⟩:=ih (d8++[(o.dst,d,false)]) (pe++[((false,none):Ef)]) env0 (by grind) (by grind) (by rw[Hj,he]) (by grind[Hk])
  have hap:d8++[(o.dst,d,false)]++AT rest vals effs=d8++AT (o::rest) (d::vals) (((false,none):Ef)::effs):=by simp[AT]
  have hap2:pe++[((false,none):Ef)]++effs=pe++((false,none):Ef)::effs:=by simp
  rw[hap] at f1 f2 f3
  rw[hap2] at f1
  refine⟨fun k o' hk=>?_,f2,f3,by grind,by grind[AT]⟩
  cases k with
  |zero=>
   rw[hidx] at hf
   refine⟨d,false,by grind,.inr (.inr (.inr ⟨?_,rfl,hf.symm,?_⟩))⟩
   all_goals simp_all
  |succ k=>
   have:=f1 k o' (by grind)
   simp only[HW,length_singleton] at this
   grind
theorem Ace(items:List It)(i:Nat)(env0:List D):YO items (fun k=>Y (k<i)) env0=RH (items.take i) env0:=by
 have gen:∀(l:List It) (s:Nat) (e:List D),(l.zipIdx s).foldl (CY fun k=>Y (k<i)) e=(l.take (i-s)).foldl (fun e it=>B5 e it.1 it.2.1) e:=by
  intro l
  induction l with
  |nil=>simp_all
  |cons x l ih=>
   intro s e
   simp only[List.zipIdx_cons,IX]
   rw[ih]
   by_cases h:s<i
   ·rw[show i-s=(i- (s+1))+1 by omega,List.take_succ_cons,IX]
    simp[CY,h]
   ·rw[show i-s=0 by omega,show i- (s+1)=0 by omega]
    simp[CY,h]
 grind[YO,RH]
theorem TC(items:List It)(i:Nat):Wa items (fun k=>Y (k<i))=Wb (items.take i):=by
 have gen:∀(l:List It) (s c:Nat),(l.zipIdx s).foldl (D9 fun k=>Y (k<i)) c=(l.take (i-s)).foldl (fun c it=>if it.2.2 then c+1 else c) c:=by
  intro l
  induction l with
  |nil=>simp_all
  |cons x l ih=>
   intro s e
   simp only[List.zipIdx_cons,IX]
   rw[ih]
   by_cases h:s<i
   ·rw[show i-s=(i- (s+1))+1 by omega,List.take_succ_cons,IX]
    simp[D9,h]
   ·rw[show i-s=0 by omega,show i- (s+1)=0 by omega]
    simp[D9,h]
 grind[Wa,Wb]
theorem Ym(l:List It):Wb l=(l.map (·.2.2)).count true:=by
 have gen:∀(l:List It) (c:Nat),l.foldl (fun c it=>if it.2.2 then c+1 else c) c=c+(l.map (·.2.2)).count true:=by
  intro l
  induction l<;>grind
 grind[Wb]
theorem AjN{items:List It}{S S':Nat->Bool}(h:∀(k:Nat) (x:It),items[k]?=G x->x.2.2=true->S k=true->S' k=true):Wa items S<=Wa items S':=by
 have gen:∀(l:List (It×Nat)) (c c':Nat),(∀x∈l,x.1.2.2=true->S x.2=true->S' x.2=true)->c<=c'->l.foldl (D9 S) c<=l.foldl (D9 S') c':=by
  intro l
  induction l with
  |nil=>grind
  |cons x l ih=>
   intro c c' hl hc
   refine ih _ _ (fun y hy=>hl y (List.mem_cons_of_mem _ hy)) ?_
   grind[D9]
 exact gen _ 0 0 (fun x hx=>h x.2 x.1 (KL hx)) (HP _)
def Ai2(ops:Array yy)(lims:List Ef):Bool:=
 (List.range (I lims)).all fun i=>
  match (lims[i]?).bind (·.2) with
  |none=>true
  |some lim=>(List.range (I lims)).any fun e=>(lims.map (·.1)).getD e false&&Y (((lims.map (·.1)).take e).count true=lim)&&((Fw [] ops.toList).getD e 0).testBit i
def Lq(ops:Array yy)(lims:List Ef):Bool:=vf ops (lims.map (·.1))&&Ai2 ops lims
theorem XN{ops:Array yy}{o:yy}{env env':List D}(h:∀t∈HC ops o,env[t]?=env'[t]?):EJ env o=EJ env' o:=by
 unfold EJ
 refine List.map_congr_left fun x hx=>?_
 cases x<;>grind[HC,gr]
theorem S5{ops:Array yy}{o:yy}{env env':List D}(h:∀t∈HC ops o,env[t]?=env'[t]?):BW env ops o=BW env' ops o:=by
 unfold BW
 cases hg:o.guard with
 |none=>rfl
 |some p=>
  obtain⟨j,want⟩:=p
  cases hj:(ops[j]?).bind (·.dst)<;>grind[HC]
section
variable {C : cd -> cd -> Prop} {P : x7} {R : List D -> St -> Prop} {k : List KI} {env : List D} {σ : St}
theorem W8{ops:Array yy}{sts:Bool->List St}{fr:Nat}{items:List It}{effs:List Bool}{lims:List Ef}{env0:List D}{Q:Exit->Act->x5->Prop}{E:cd}{J:Gh->Prop}(hJ:∀g g':Gh,g.le g'->J g->J g')(hreg:vf ops effs=true)(hwin:Ai2 ops lims=true)(hle:effs=lims.map (·.1))(hlen:I items=ops.size)(heff:effs=items.map (·.2.2))
  (hfact:∀i o,ops[i]?=G o->ApT P ops sts fr items lims env0 i o)
  (hfin:∀g a w,J g->(∃s,(sts (Y (fr<ops.size)))[Wb items]?=G s/\FI E g s (RH items env0) a w)->Q .normal a w):
  ∀(fuel:Nat) (listed:Array Bool) (a:Act) (w:x5) (g:Gh) (s:St),listed.size=ops.size->DC ops (fun i=>listed.getD i false)->
   (I ((List.range ops.size).filter fun i=> !listed.getD i false))=fuel->
   (sts (listed.getD fr false))[Wa items (fun i=>listed.getD i false)]?=G s->J g->FI E g s (YO items (fun i=>listed.getD i false) env0) a w->wpAny P .any ops Q fuel listed a w:=by
 -- nothing is ready:all are listed
 have done_:∀(listed:Array Bool),listed.size=ops.size->Region.ready .any ops listed=[]->∀i,i<ops.size->listed.getD i false=true:=by
  intro listed hsz hr i
  induction i using Nat.strongRecOn with
  |_ i ih=>
   intro hi
   cases hl:listed.getD i false with
   |true=>rfl
   |false=>
    exfalso
    have hmem:i∈Region.ready .any ops listed:=by
     grind[Region.ready,Xg]
    grind
 have finish:∀(listed:Array Bool) (a:Act) (w:x5) (g:Gh) (s:St),listed.size=ops.size->(∀i,i<ops.size->listed.getD i false=true)->(sts (listed.getD fr false))[Wa items (fun i=>listed.getD i false)]?=G s->
   J g->FI E g s (YO items (fun i=>listed.getD i false) env0) a w->Q .normal a w:=by
  intro listed a w g s hsz hall hs hj hf
  have e1:YO items (fun i=>listed.getD i false) env0=RH items env0:=by
   have:=Ace items ops.size env0
   apply ext_getElem?
   grind[J9,YO]
  have e2:Wa items (fun i=>listed.getD i false)=Wb items:=by
   have:=TC items ops.size
   grind
  grind
 intro fuel
 induction fuel with
 |zero=>
  grind[Region.ready,List.filter_eq_nil_iff,wpAny]
 |succ fuel ih=>
  intro listed a w g s hsz hdc hcount hs hj hf
  refine⟨fun hr=>finish listed a w g s hsz (done_ listed hsz hr) hs hj hf,fun i hi=>?_⟩
  -- an operation that is ready
  unfold Region.ready at hi
  rw[List.mem_filter] at hi
  obtain⟨hi1,hi2⟩:=hi
  have hi':i<ops.size:=by grind
  have ho:ops[i]?=G ops[i]:=by grind
  generalize hoo:ops[i]=o at ho
  rw[ho] at hi2
  simp only[HJ,IA,IJ,Jq] at hi2
  obtain⟨hnl,hall⟩:=hi2
  have hnl':listed.getD i false=O:=by
   grind
  have hready:∀e∈o.after,Region.binds .any e=true->listed.getD e.on false=true:=by
   grind[Array.all_eq_true_iff_forall_mem]
  have hpre:=QR hdc ho hready
  have hpost:=fun(j:Nat) (hs:listed.getD j false=true)=>PF (S:=fun i=>listed.getD i false) hdc hs
  obtain⟨d,b,hit,hcase⟩:=hfact i o ho
  have hil:i<I items:=by omega
  -- every other operation that shares a slot is ordered with it
  have opAt:∀(k:Nat) (x:It),items[k]?=G x->∃ok,ops[k]?=G ok/\x.1=ok.dst:=by
   intro k x hk
   have hkl:k<ops.size:=by grind
   have hok:ops[k]?=G ops[k]:=by grind
   obtain⟨d',b',h1,_⟩:=hfact k _ hok
   grind
  have lt_listed:∀(k:Nat) (ok:yy),ops[k]?=G ok->k<i->(TA ops ok o=true∨(effs.getD k false=true/\effs.getD i false=true))->listed.getD k false=true:=
   fun k ok hk hlt hc=>hpre k (Mx hreg hk ho hlt hc)
  have gt_not:∀(k:Nat) (ok:yy),ops[k]?=G ok->i<k->(TA ops o ok=true∨(effs.getD i false=true/\effs.getD k false=true))->listed.getD k false=O:=by
   intro k ok hk hlt hc
   cases hl:listed.getD k false with
   |false=>rfl
   |true=>
    have:=hpost k hl i (Mx hreg ho hk hlt hc)
    grind
  have agree:∀t∈HC ops o,(YO items (fun i=>listed.getD i false) env0)[t]?=(RH (items.take i) env0)[t]?:=by
   intro t ht
   rw[←Ace]
   refine J9 _ _ _ (fun x hx hxt=>?_) rfl
   have hx2:=KL hx
   rcases Nat.lt_trichotomy x.2 i with h|h|h
   ·grind[TA]
   ·grind
   grind[TA]
  have hlast:∀(k:Nat) (x:It),items[k]?=G x->listed.getD k false=true->i<k->o.dst=none∨x.1≠o.dst:=by
   intro k x hk hl hlt
   cases hd:o.dst with
   |none=>grind
   |some t=>
    grind[TA]
  have hadd:=Ag0 (S:=fun i=>listed.getD i false) (env0:=env0) hit hnl' hlast
  have hcadd:=AgF (S:=fun i=>listed.getD i false) hit hnl'
  have hS':(fun k=>(listed.setIfInBounds i true).getD k false)=fun k=>listed.getD k false||k==i:=by
   funext k
   simp only[IU,Array.getElem?_setIfInBounds]
   grind
  have hcnt':I ((List.range ops.size).filter fun k=> !(listed.setIfInBounds i true).getD k false)=fuel:=by
   have e1:(List.range ops.size).filter (fun k=> !(listed.setIfInBounds i true).getD k false)=((List.range ops.size).filter fun k=> !listed.getD k false).filter (fun k=>k !=i):=by
    rw[List.filter_filter]
    refine List.filter_congr fun k _=>?_
    have:=congrFun hS' k
    grind
   rw[e1]
   have hnd:((List.range ops.size).filter fun k=> !listed.getD k false).Nodup:=List.filter_sublist.nodup List.nodup_range
   have hf1:=hnd.erase_eq_filter i
   grind
  have hdc':DC ops (fun k=>(listed.setIfInBounds i true).getD k false):=by
   rw[hS']
   grind[DC]
  -- the count of effects so far
  have hcb:b=true->Wa items (fun k=>listed.getD k false)=Wb (items.take i):=by
   intro hbt
   rw[←TC]
   refine MP _ _ (fun x hx hxb=>?_)
   have hx2:=KL hx
   obtain⟨ok,hok,_⟩:=opAt x.2 x.1 hx2
   rcases Nat.lt_trichotomy x.2 i with h|h|h
   ·grind
   all_goals grind
  have hw:=S5 agree
  have hev:=XN agree
  have next:∀(g':Gh) (a':Act) (w':x5) (s':St),(sts ((listed.setIfInBounds i true).getD fr false))[Wa items (fun k=>(listed.setIfInBounds i true).getD k false)]?=G s'->J g'->FI E g' s' (B5 (YO items (fun k=>listed.getD k false) env0) o.dst d) a' w'->wpAny P .any ops Q fuel (listed.setIfInBounds i true) a' w':=by
   grind
  unfold wpOp
  rw[ho]
  simp only
  have hflag:i≠fr->(listed.setIfInBounds i true).getD fr false=listed.getD fr false:=by
   intro hne
   have:=congrFun hS' fr
   grind
  rcases hcase with⟨hwant,rfl,rfl,hne⟩|⟨hwant,rfl,hne,hop⟩|⟨hwant,rfl,hne,hop⟩|⟨hwant,rfl,hfr,hop⟩
  ·rw[HZ (by rw[CD hf.env (hw.trans hwant)];simp)]
   refine next g _ w s ?_ hj (hf.put hf.wi g.le_refl (NS g) o.dst)
   grind
  ·rw[Ie (CD hf.env (hw.trans hwant))]
   refine .inl ?_
   rw[←hev] at hop
   have hlim:∀lim,(lims[i]?).bind (·.2)=G lim->Wa items (fun k=>listed.getD k false)<=lim:=by
    intro lim hlm
    have hil2:i<I lims:=by
     grind
    have h1:=I5.1 hwin i (by grind)
    rw[hlm] at h1
    obtain⟨e,_,h2⟩:=List.any_eq_true.1 h1
    simp only[HJ,HS, ←hle] at h2
    obtain⟨⟨h3,h4⟩,h5⟩:=h2
    rw[heff, ←List.map_take, ←Ym] at h4
    rw[←h4, ←TC]
    refine AjN fun k x hk hx hS=>?_
    obtain⟨ok,hok,_⟩:=opAt k x hk
    have hex:effs.getD k false=true:=by rw[heff,HQ,I1,hk];grind
    rcases Nat.lt_trichotomy k e with h|h|h
    ·simp[h]
    ·grind
    ·have hek:e<ops.size:=by grind
     have:=hpost k hS e (Mx hreg (show ops[e]?=G ops[e] by grind) hok h (.inr ⟨h3,hex⟩))
     grind
   refine hop _ _ s hs hlim E g a w _ _ hf.wi (FR hf.wi.rep.gl hf.env _) fun g' w' u h1 h2 h3=>?_
   refine next g' _ w' s ?_ (hJ g g' h2 hj) (hf.put h1 h2 h3 o.dst)
   grind
  ·rw[Ie (CD hf.env (hw.trans hwant))]
   refine .inl ?_
   rw[hcb rfl] at hs
   rw[←hev] at hop
   obtain⟨s2,hs2,hop2⟩:=hop _ s hs (fun hb=>by
    grind[Xw])
   refine hop2 E g a w _ _ hf.wi (FR hf.wi.rep.gl hf.env _) fun g' w' u h1 h2 h3=>?_
   refine next g' _ w' s2 ?_ (hJ g g' h2 hj) (hf.put h1 h2 h3 o.dst)
   grind
  ·rw[Ie (CD hf.env (hw.trans hwant))]
   refine .inl ?_
   rw[←hfr,hnl'] at hs
   rw[←hev] at hop
   obtain⟨s2,hs2,hop2⟩:=hop _ s hs
   refine hop2 E g a w _ _ hf.wi (FR hf.wi.rep.gl hf.env _) fun g' w' u h1 h2 h3=>?_
   refine next g' _ w' s2 ?_ (hJ g g' h2 hj) (hf.put h1 h2 h3 o.dst)
   have hset:(listed.setIfInBounds i true).getD fr false=true:=by
    have:=congrFun hS' fr
    grind
   grind
theorem Acj{id:Nat}{ops:Array yy}{E:cd}{J:Gh->Prop}(hJ:∀g g':Gh,g.le g'->J g->J g'){B:Exit->Act->x5->Prop}{g:Gh}{a:Act}{w:x5}(hm:P.follows .mixedOrders=true)(sts:Bool->List St)(fr:Nat){vals:List D}{effs:List Ef}{env':List D}{j':Nat}{σ':St}(h0:(sts false)[0]?=G σ)(hj:(sts (Y (fr<ops.size)))[j']?=G σ')
  (h:GR P ops sts fr ops.toList env 0 vals effs env' j') (hreg:Lq ops effs=true) (hfi:FI E g σ env a w) (hjg:J g) (hk:∀g' a' w',J g'->FI E g' σ' env' a' w'->KQ P B k .normal a' w'):KQ P B (.code (.region id ops true)::k) .normal a w:=by
 simp only[KQ]
 obtain⟨f1,f2,f3,f4,f5⟩:=h.facts [] [] env rfl (by simp) (by rfl) (by rfl)
 simp only[nil_append,HR,I4] at f1 f2 f3
 have hreg1:vf ops (effs.map (·.1))=true:=by grind[Lq]
 have hreg2:Ai2 ops effs=true:=by grind[Lq]
 clear hreg
 have f1':∀i o,ops[i]?=G o->ApT P ops sts fr (AT ops.toList vals effs) effs env i o:=fun i o ho=>f1 i o (by grind)
 have f4':I (AT ops.toList vals effs)=ops.size:=by omega
 refine wp_region_any hm ?_
 have hS0:(fun i=>(Array.replicate ops.size false).getD i false)=fun _=>false:=by
  funext i
  simp only[IU,Array.getElem?_replicate]
  grind
 have he0:∀(l:List (It×Nat)) (e:List D),l.foldl (CY fun _=>false) e=e:=by
  intro l;induction l<;>grind[CY]
 have hc0:∀(l:List (It×Nat)) (c:Nat),l.foldl (D9 fun _=>false) c=c:=by
  intro l;induction l<;>grind[D9]
 have hfi':FI E g σ env a { w with drawn:=w.drawn+1 }:=⟨hfi.wi.drew,hfi.env,hfi.defers⟩
 obtain⟨es,hes⟩:∃es,es=effs.map (·.1):=⟨_,rfl⟩
 rw[←hes] at hreg1 f5
 refine W8 (sts:=sts) (fr:=fr) (items:=AT ops.toList vals effs) (effs:=es) (lims:=effs) (env0:=env) (E:=E) hJ hreg1 hreg2 hes f4' f5 f1' (fun g' a' w' hj' hx=>?_) ops.size _ a _ g σ (by simp) ?_ ?_ ?_ hjg ?_
 ·grind
 ·intro i o _ hs
  rw[hS0] at hs
  grind
 ·have:(List.range ops.size).filter (fun i=> !(Array.replicate ops.size false).getD i false)=List.range ops.size:=by
   simp_all
  grind
 ·have h0f:(Array.replicate ops.size false).getD fr false=O:=congrFun hS0 fr
  grind[Wa]
 grind[YO]
theorem JM{id:Nat}{ops:Array yy}(hm:P.follows .mixedOrders=true)(sts:Bool->List St)(fr:Nat){vals:List D}{effs:List Ef}{env':List D}{j':Nat}{σ':St}(h0:(sts false)[0]?=G σ)(hj:(sts (Y (fr<ops.size)))[j']?=G σ')
  (h:GR P ops sts fr ops.toList env 0 vals effs env' j') (hreg:Lq ops effs=true) (hk:A2 C P R k env' σ'):A2 C P R (.code (.region id ops true)::k) env σ:=fun E0 E _ _ _ B hC hfi hB=>
 Acj (J:=fun _=>True) (fun _ _ _ _=>trivial) hm sts fr h0 hj h hreg hfi trivial fun g' a' w' _ hf=>hk E0 E g' a' w' B hC hf hB
end
def sub:Code->List Nat->Code
 |c,[]=>c
 |.seq a b,n::p=>if n=0 then sub a p else sub b p
 |.cond _ a b,n::p=>if n=0 then sub a p else sub b p
 |.block _ a,_::p=>sub a p
 |.loop a,_::p=>sub a p
 |.scope a,_::p=>sub a p
 |_,_::_=>.skip
def Bz:Code->Array yy
 |.region _ ops _=>ops
 |_=> #[]
def DT(C:cd->cd->Prop)(P:x7)(R:List D->St->Prop)(c:Code)(p:List Nat)(i:Nat)(k:List KI)(env:List D)(σ:St):Prop:=
 ∀(E0 E:cd) (g:Gh) (a:Act) (w:x5) (B:Exit->Act->x5->Prop),C E0 E->FI E g σ env a w->
  (∀g' env' σ' a' w',FI E0 g' σ' env' a' w'->R env' σ'->B .ret a' w'/\B .normal a' w')->wpList P (Bz (sub c p)) (KQ P B k) ((Bz (sub c p)).toList.drop i) a w
def Cv(env:List D)(σ:St)(env':List D)(σ':St):Prop:=∀(E:cd) (g:Gh) (a:Act) (w:x5),FI E g σ env a w->∃g',FI E g' σ' env' a w
section
variable {C : cd -> cd -> Prop} {P : x7} {R : List D -> St -> Prop} {c : Code} {p : List Nat} {k : List KI} {env env' : List D} {σ σ' : St} {i : Nat} {o : yy} {d : D}
theorem F8(q r:List Nat)(h:sub c p=.seq (sub c q) (sub c r))(hk:A2 C P R (.code (sub c q):: .code (sub c r)::k) env σ):A2 C P R (.code (sub c p)::k) env σ:=by grind[Aac]
theorem Wt(q:List Nat)(id:Nat)(h:sub c p=.block id (sub c q))(hk:A2 C P R (.code (sub c q):: .blk id::k) env σ):A2 C P R (.code (sub c p)::k) env σ:=by grind[QI]
theorem Ake(q:List Nat)(h:sub c p=.loop (sub c q))(hk:A2 C P R (.lp (sub c q)::k) env σ):A2 C P R (.code (sub c p)::k) env σ:=by grind[fc]
theorem TL(q r:List Nat){t:x8}{b:Bool}(h:sub c p=.cond t (sub c q) (sub c r))(hc:gr env t=.v (.bool b))(ht:b=J->A2 C P R (.code (sub c q)::k) env σ)(hf:b=O->A2 C P R (.code (sub c r)::k) env σ):
  A2 C P R (.code (sub c p)::k) env σ:=by grind[UU]
theorem TK(h:sub c p=.skip)(hk:A2 C P R k env σ):A2 C P R (.code (sub c p)::k) env σ:=by grind[UQ]
theorem Akf{id:Nat}{k':List KI}(h:sub c p=.exit id)(hp:HE id k=G k')(hk:A2 C P R k' env σ):A2 C P R (.code (sub c p)::k) env σ:=by grind[UT]
theorem Akd(L:NA C)(h:sub c p=.ret)(hk:R env σ):A2 C P R (.code (sub c p)::k) env σ:=by grind[UR]
theorem AnI(h:sub c p=.ret)(hk:R env σ):wt P R (.code (sub c p)::k) env σ:=Akd AeJ h hk
theorem Ee{id:Nat}(h:sub c p=.region id (Bz (sub c p)) false)(hk:DT C P R c p 0 k env σ):A2 C P R (.code (sub c p)::k) env σ:=by
 rw[h]
 intro E0 E g a w B hC hfi hB
 exact wp_region_list (by have:=hk E0 E g a w B hC hfi hB;grind)
theorem Mp(h:Cv env σ env' σ')(hk:A2 C P R k env' σ'):A2 C P R k env σ:=fun E0 E g a w B hC hf hB=>by
 obtain⟨g',hf'⟩:=h E g a w hf
 exact hk E0 E g' a w B hC hf' hB
theorem Afl(ho:(Bz (sub c p))[i]?=G o):((Bz (sub c p)).toList.drop i)=o::(Bz (sub c p)).toList.drop (i+1):=by
 grind[drop_eq_getElem_cons]
theorem Eg(t:Option Tmp)(ho:(Bz (sub c p))[i]?=G o){ds:List D}(hg:BW env (Bz (sub c p)) o=G true)(ht:o.dst=t)(hds:EJ env o=ds)(h:Ai P o ds σ d σ')(he:B5 env t d=env')(hk:DT C P R c p (i+1) k env' σ'):DT C P R c p i k env σ:=by
 subst ht he hds
 intro E0 E g a w B hC hf hB
 rw[Afl ho]
 unfold wpList
 rw[Ie (CD hf.env hg)]
 refine .inl (h E g a w _ _ hf.wi (FR hf.wi.rep.gl hf.env _) fun g' w' u hw' hg' hd=>?_)
 exact hk E0 E g' _ _ B hC (hf.put hw' hg' hd o.dst) hB
theorem Aiu{σ2:St}(t:Option Tmp)(ho:(Bz (sub c p))[i]?=G o){ds:List D}(hg:BW env (Bz (sub c p)) o=G true)(ht:o.dst=t)(hds:EJ env o=ds)(h:Ai P o ds σ d σ')(he:B5 env t d=env')(hσ:σ'=σ2)(hk:DT C P R c p (i+1) k env' σ2):DT C P R c p i k env σ:=by
 grind[Eg]
theorem ApM(b:Bool)(s s1 t:Nat){x y:x8}(ho:(Bz (sub c p))[i]?=G o)(hg:BW env (Bz (sub c p)) o=G true)(ht:o.dst=G t)(hop:o.op=.pick (.tmp s) x y)(hs:env[s]?=G (.v (.bool b)))(hx:(if b then x else y)=.tmp s1)(h1:env[s1]?=G d)(he:env.set t d=env')
  (hk:DT C P R c p (i+1) k env' σ):DT C P R c p i k env σ:=by
 refine Eg (G t) ho hg ht (ds:=[.v (.bool b),gr env x,gr env y]) ?_ (Tg hop) ?_ hk
 all_goals grind[EJ,Op.operands,gr,B5]
theorem VT{s:Nat}(hs:env[s]?=G d):gr env (.tmp s)=d:=by grind[gr]
theorem E2(s t:Nat)(ho:(Bz (sub c p))[i]?=G o)(hg:BW env (Bz (sub c p)) o=G true)(ht:o.dst=G t)(hop:o.op=.move (.tmp s)∨o.op=.assign (.tmp s))(hs:env[s]?=G d)(he:env.set t d=env')(hk:DT C P R c p (i+1) k env' σ):DT C P R c p i k env σ:=by
 have hds:EJ env o=[d]:=by grind[EJ,Op.operands,gr]
 refine Eg (G t) ho hg ht hds ?_ he hk
 grind[P3,JR]
theorem ApN{u:yz}(t:Nat)(ho:(Bz (sub c p))[i]?=G o)(hg:BW env (Bz (sub c p)) o=G true)(ht:o.dst=G t)(hop:o.op=.move (.const u)∨o.op=.assign (.const u))(hs:O1 u=d)(he:env.set t d=env')(hk:DT C P R c p (i+1) k env' σ):DT C P R c p i k env σ:=by
 have hds:EJ env o=[d]:=by grind[EJ,Op.operands,gr]
 refine Eg (G t) ho hg ht hds ?_ he hk
 grind[P3,JR]
theorem Lu(h:(Bz (sub c p)).size=i)(hk:A2 C P R k env σ):DT C P R c p i k env σ:=by
 intro E0 E g a w B hC hf hB
 rw[Ic (by simp[h])]
 exact hk E0 E g a w B hC hf hB
theorem Ahk(t:Nat){b:Bool}(hs:env[t]?=G (.v (.bool b)))(ht:b=J->∀env',env.set t (.v (.bool true))=env'->DT C P R c p i k env' σ)(hf:b=O->∀env',env.set t (.v (.bool false))=env'->DT C P R c p i k env' σ):DT C P R c p i k env σ:=by
 have key:∀b',b=b'->env.set t (.v (.bool b'))=env:=by
  intro b' e;subst e
  apply ext_getElem?
  grind
 cases b<;>grind
inductive Wk:List D->List D->Prop
 |nil:Wk [] []
 |keep {d:D} {l l':List D} (h:Wk l l'):Wk (d::l) (d::l')
 |drop {d:D} {l l':List D} (h:Wk l l'):Wk (d::l) (.undef::l')
theorem Wk.ok:∀{l l':List D},Wk l l'->I l'=I l/\∀(i:Nat) (d':D),l'[i]?=G d'->d'=.undef∨l[i]?=G d'
 |_,_,.nil=>⟨rfl,fun i d' h=>by grind⟩
 |_,_,.keep h=>by
  obtain⟨h1,h2⟩:=h.ok
  grind
 |_,_,.drop h=>by
  obtain⟨h1,h2⟩:=h.ok
  grind
theorem AhI(hw:Wk env env')(h:A2 C P R k env' σ):A2 C P R k env σ:=H4 hw.ok.1 hw.ok.2 h
def lg(P:x7)(c:Code)(p:List Nat)(sts:Bool->List St)(fr:Nat)(i:Nat)(env:List D)(j:Nat)(effs:List Ef)(K:List D->Nat->List Ef->Prop):Prop:=
 ∃vals effs' env' j',GR P (Bz (sub c p)) sts fr ((Bz (sub c p)).toList.drop i) env j vals effs' env' j'/\K env' j' (effs++effs')
theorem Anz{sts:Bool->List St}{fr:Nat}{j:Nat}{effs:List Ef}{K:List D->Nat->List Ef->Prop}(h:(Bz (sub c p)).size=i)(hk:K env j effs):lg P c p sts fr i env j effs K:=by
 refine⟨[],[],env,j,?_,by grind⟩
 rw[Ic (by simp[h])]
 exact .nil
theorem da(ho:(Bz (sub c p))[i]?=G o):((Bz (sub c p)).toList.drop i)=o::(Bz (sub c p)).toList.drop (i+1):=by
 grind[drop_eq_getElem_cons]
theorem RJ(t:Option Tmp){sts:Bool->List St}{fr:Nat}{j:Nat}{effs:List Ef}{K:List D->Nat->List Ef->Prop}(ho:(Bz (sub c p))[i]?=G o)(hg:BW env (Bz (sub c p)) o=G true){ds:List D}(hds:EJ env o=ds)
  (ht:o.dst=t) (h:∀b,∀s∈sts b,Ai P o ds s d s) (he:B5 env t d=env') (hk:lg P c p sts fr (i+1) env' j (effs++[(false,none)]) K) (hne:i≠fr:=by decide):lg P c p sts fr i env j effs K:=by
 obtain⟨vals,effs',env2,j',h1,h2⟩:=hk
 subst ht hds he
 refine⟨d::vals,(false,none)::effs',env2,j',?_,by grind⟩
 rw[da ho]
 exact .quiet (by grind) hg h h1
theorem PT(t:Option Tmp){sts:List St}{fr:Nat}{j:Nat}{effs:List Ef}{K:List D->Nat->List Ef->Prop}(ho:(Bz (sub c p))[i]?=G o)(hg:BW env (Bz (sub c p)) o=G true){ds:List D}(hds:EJ env o=ds)
  (ht:o.dst=t) (h:∀s∈sts,Ai P o ds s d s) (he:B5 env t d=env') (hk:lg P c p (fun _=>sts) fr (i+1) env' j (effs++[(false,none)]) K) (hne:i≠fr:=by decide):lg P c p (fun _=>sts) fr i env j effs K:=
 RJ t ho hg hds ht (fun _=>h) he hk hne
def DV(LF LT:List St):Bool->List St
 |false=>LF
 |true=>LT
theorem An0(t:Option Tmp){sts:List St}{fr:Nat}{j:Nat}{effs:List Ef}{K:List D->Nat->List Ef->Prop}(ho:(Bz (sub c p))[i]?=G o)(hg:BW env (Bz (sub c p)) o=G true){ds:List D}(hds:EJ env o=ds){s s':St}(hs:sts[j]?=G s)(hs':sts[j+1]?=G s')
  (ht:o.dst=t) (h:Ai P o ds s d s') (he:B5 env t d=env') (hk:lg P c p (fun _=>sts) fr (i+1) env' (j+1) (effs++[(true,none)]) K) (hne:i≠fr:=by decide):lg P c p (fun _=>sts) fr i env j effs K:=by
 obtain⟨vals,effs',env2,j',h1,h2⟩:=hk
 subst ht hds he
 refine⟨d::vals,(true,none)::effs',env2,j',?_,by grind⟩
 rw[da ho]
 exact .eff (by grind) hg (fun b x hx _=>⟨s',hs',by grind⟩) h1
theorem XW{sts:Bool->List St}{fr:Nat}{j:Nat}{effs:List Ef}{K:List D->Nat->List Ef->Prop}(s t:Nat)(ho:(Bz (sub c p))[i]?=G o)(hg:BW env (Bz (sub c p)) o=G true)(ht:o.dst=G t)(hop:o.op=.move (.tmp s)∨o.op=.assign (.tmp s))(hs:env[s]?=G d)
  (he:env.set t d=env') (hk:lg P c p sts fr (i+1) env' j (effs++[(false,none)]) K) (hne:i≠fr:=by decide):lg P c p sts fr i env j effs K:=by
 have hds:EJ env o=[d]:=by grind[EJ,Op.operands,gr]
 refine RJ (G t) ho hg hds ht (fun _ _ _=>?_) he hk hne
 grind[P3,JR]
theorem Akg{id:Nat}(hm:P.follows .mixedOrders=J)(h:sub c p=.region id (Bz (sub c p)) true)(sts:List St)(h0:sts[0]?=G σ)
  (hk:lg P c p (fun _=>sts) 1000000 0 env 0 [] (fun env' j' effs=>Lq (Bz (sub c p)) effs=J/\∃σ',sts[j']?=G σ'/\A2 C P R k env' σ')):A2 C P R (.code (sub c p)::k) env σ:=by
 obtain⟨vals,effs,env',j',h1,h2,σ',h3,h4⟩:=hk
 grind[JM]
theorem AiS{f:yx}{fn:yw}{ds:List D}{σ σ':St}{d:D}(c:Code)(hf:P.funcs[f]?=G fn)(hb:fn.body=G c)(hn:(fn.name=="runtime.NumGoroutine")=O)(hH:I σ.H<=I σ'.H)
  (env:List D) (he:ds++replicate (fn.ntmps-I ds) .undef=env) (h:wt P (fun env σ1=>A9 P fn env σ1 d σ') [.code (sub c [])] env σ):Aa P f ds σ d σ':=by
 grind[SM,sub]
end
end Go.Dv

namespace Go.Proofs.YtkkplhjidondkaaGreat
open Go.Dv
open Go.IntKind (u64)
open Go.IntKind renaming wrap → yu, i64 → yt
open List renaming length → I, map → U, drop → W
open Option renaming some → G
open Bool renaming true → J, false → O
open Decidable renaming decide → Y
open Int renaming toNat → Z
open Go.Dv.V renaming list → ai, str → ae, agg → ab, int → aa, ref → bz, fn → bw, nils → bv, bool → bu
open Go.Dv.D renaming v → bt, acc → br, ptr → bq, arr → bo, gro → bm, tup → bk, undef → bj, dagg → bi
open Go.Dv.St renaming mk → bh
open Go.Dv.KI renaming blk → bf
open _root_.ByteArray renaming mk → bc
open Go renaming Operand → x8, Program → x7, TypeId → x6, World → x5, Value → yz, Oper → yy, FuncId → yx, Func → yw, IntKind → yv
noncomputable abbrev PP:x7:= Tryz.prog
theorem mixed:PP.follows .mixedOrders=J:=by rfl
end Go.Proofs.YtkkplhjidondkaaGreat
