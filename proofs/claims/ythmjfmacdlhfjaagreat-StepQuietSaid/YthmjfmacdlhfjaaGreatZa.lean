/-
  A part of the proof.
-/
import Derived.Calls
import Derived.Laws.AppendOwn
import Derived.Laws.MakeOwn
import Derived.Laws.Slices
import Derived.Laws.Rows
import Derived.Tactics
import Derived.Laws.Strings
import Derived.Great.BuildSlice
import Derived.Lib.Strings
import Derived.Orders
namespace Go
abbrev HP:=@List.length_map
abbrev HQ:=@List.getElem?_eq_getElem
abbrev HR:=@Bool.and_eq_true
abbrev HS:=@decide_eq_true
abbrev HT:=@List.getElem?_eq_some_iff
abbrev HU:=@decide_eq_false
abbrev HV:=@List.length_cons
abbrev HW:=@List.mem_of_getElem?
abbrev HX:=@Nat.le_refl
abbrev HY:=@List.getD_eq_getElem?_getD
abbrev HZ:=@List.length_nil
abbrev Ia:=@decide_eq_true_eq
abbrev Ib:=@of_decide_eq_true
abbrev Ic:=@eq_false_of_ne_true
abbrev Ie:=@List.cons.injEq
abbrev Ig:=@List.length_append
abbrev Ih:=@List.drop_eq_getElem_cons
abbrev Ii:=@List.mem_singleton
abbrev Ij:=@if_neg
abbrev Ik:=@Bool.and_eq_true_iff
abbrev Il:=@List.getElem?_append_right
abbrev Im:=@List.drop_of_length_le
abbrev Io:=@if_pos
abbrev Ip:=@List.getElem?_append_left
abbrev Iq:=@congrArg
abbrev Ir:=@Nat.eq_of_beq_eq_true
abbrev Is:=@Option.some.inj
abbrev Iu:=@List.map_cons
abbrev Iv:=@Int.le_refl
abbrev Iw:=@List.take_of_length_le
abbrev Ix:=@Nat.le_of_ble_eq_true
abbrev Iy:=@List.length_take
abbrev Iz:=@Bool.false_and
abbrev I1:=@Option.some.injEq
abbrev I2:=@Bool.true_and
abbrev I3:=@Nat.zero_le
abbrev I4:=@beq_iff_eq
abbrev I5:=@Array.length_toList
abbrev I6:=@and_true
abbrev I7:=@beq_eq_false_iff_ne
abbrev I8:=@List.mem_cons
abbrev I9:=@List.getElem?_map
abbrev IA:=@List.mem_map
abbrev IB:=@of_decide_eq_false
abbrev IC:=@Nat.zero_add
abbrev ID:=@List.all_eq_true
abbrev IE:=@List.mem_append
abbrev IF:=@List.getElem?_eq_none
abbrev IG:=@List.append_nil
abbrev II:=@List.mem_of_mem_drop
abbrev IJ:=@Bool.not_eq_true'
abbrev IK:=@And.intro
abbrev IL:=@List.replicate_succ
abbrev IM:=@Array.getElem?_eq_some_iff
abbrev IN:=@Nat.le_trans
abbrev IP:=@List.map_nil
abbrev IQ:=@Nat.add_zero
abbrev IR:=@Int.min_def
abbrev IT:=@Option.map_some
abbrev IU:=@List.getElem?_cons_zero
abbrev IV:=@Array.ext'
abbrev IW:=@List.getElem?_toArray
abbrev IX:=@List.mem_or_eq_of_mem_set
abbrev IY:=@List.length_drop
abbrev IZ:=@List.append_assoc
abbrev Ji:=@Int.toNat_natCast
abbrev Jj:=@if_true
abbrev Jk:=@Array.getD_eq_getD_getElem?
abbrev Jm:=@Nat.add_mul
abbrev Jn:=@List.take_add_one
abbrev Jo:=@List.foldl_cons
abbrev Jp:=@List.size_toArray
abbrev Jq:=@List.map_append
abbrev Jr:=@List.mem_of_mem_take
abbrev Js:=@List.eq_nil_of_length_eq_zero
abbrev Jt:=@decide_eq_false_iff_not
abbrev Ju:=@Nat.lt_of_lt_of_le
abbrev Jv:=@List.set_cons_succ
abbrev Jw:=@List.getElem?_take
abbrev Jx:=@List.flatten_cons
abbrev Jy:=@Option.getD_some
abbrev Jz:=@List.not_mem_nil
abbrev J0:=@List.take_append_of_le_length
abbrev J1:=@List.drop_zero
abbrev J2:=@Array.getElem?_toList
abbrev J3:=@Bool.and_false
abbrev J4:=@Option.map_none
abbrev J5:=@True.intro
abbrev J6:=@Bool.false_eq_true
abbrev J7:=@List.cons_append
abbrev J8:=@List.getElem?_cons_succ
end Go
namespace Go.Dv
open Go.IntKind (u64)
open Go.IntKind renaming wrap → yr, i64 → yq
open List renaming length → I, map → U, drop → W
open Option renaming some → G
open Bool renaming true → J, false → O
open Decidable renaming decide → Y
open Int renaming toNat → Z
open _root_.ByteArray renaming mk → bg
open Go renaming Operand → x5, Program → x4, TypeId → yz, World → yy, Value → yx, Oper → yw, FuncId → yv, Func → yu, IntKind → yt
inductive V where
 |int (k:yt) (n:Int)
 |bool (b:Bool)
 |str (s:List UInt8)
 |list (xs:List V)
 |agg (cs:List V)
 |ref (x:V)
 |fn (f:yv) (fs cs:List V)
 |nilfn
 |nilp
 |nils
 |ifc (t:yz) (x:V)
 deriving Inhabited
def V.isAgg:V->Bool
 |.agg _=>true
 |_=>false
def V.size:V->Nat
 |.agg cs=>I cs
 |_=>1
abbrev cg:=Nat->Nat->Option yx
def eb(M:cg)(b off:Nat)(ws:List yx):Prop:=∀j v,ws[j]?=G v->M b (off+j)=G v
def EQ:V->List yx->yx
 |.agg _,ws=>.agg ws.toArray
 |_,ws=>ws.headD (.tuple #[])
mutual
def repC(M:cg):V->List yx->Prop
 |.int k n,ws=>ws=[.int k n]
 |.bool b,ws=>ws=[.bool b]
 |.str s,ws=>ws=[.string ⟨s.toArray⟩]
 |.list xs,ws=>∃a cap,ws=[.slice a (I xs) cap]/\xs.length<=cap/\(xs=[]∨∃b off sz us,a=G ⟨b,off,none⟩/\0<sz/\eb M b off us/\repE M sz xs us)
 |.agg cs,ws=>repA M cs ws
 |.ref x,ws=>∃b off us,ws=[.pointer (G ⟨b,off,none⟩)]/\eb M b off us/\repC M x us
 |.fn f fs cs,ws=>∃us vs,ws=[.func (.func f) us.toArray vs.toArray]/\F1 M fs us/\F1 M cs vs
 |.nilfn,ws=>ws=[.nilFunc]
 |.nilp,ws=>ws=[.pointer none]
 |.nils,ws=>ws=[.slice none 0 0]
 |.ifc t x,ws=>∃us,ws=[.iface t (EQ x us)]/\repC M x us
def repE(M:cg)(sz:Nat):List V->List yx->Prop
 |[],us=>us=[]
 |x::xs,us=>∃u1 u2,us=u1++u2/\u1.length=sz/\repC M x u1/\repE M sz xs u2
def repA(M:cg):List V->List yx->Prop
 |[],us=>us=[]
 |c::cs,us=>∃u us',us=u::us'/\c.isAgg=O/\repC M c [u]/\repA M cs us'
def F1(M:cg):List V->List yx->Prop
 |[],us=>us=[]
 |x::xs,us=>∃u us' ws,us=u::us'/\repC M x ws/\u=EQ x ws/\F1 M xs us'
end
def repV(M:cg)(x:V)(u:yx):Prop:=∃ws,repC M x ws/\u=EQ x ws
def cg.le(M M':cg):Prop:=∀b o v,M b o=G v->M' b o=G v
theorem cg.le_refl(M:cg):M.le M:=fun _ _ _ h=>h
theorem cg.le_trans{M M' M'':cg}(h:M.le M')(h':M'.le M''):M.le M'':=fun b o v e=>h' b o v (h b o v e)
theorem eb.mono{M M':cg}{b off:Nat}{ws:List yx}(hm:M.le M')(h:eb M b off ws):eb M' b off ws:=fun j v e=>hm _ _ _ (h j v e)
mutual
theorem repC.mono{M M':cg}(hm:M.le M'):∀(x:V) (ws:List yx),repC M x ws->repC M' x ws
 |.int k n,ws,h=>h
 |.bool b,ws,h=>h
 |.str s,ws,h=>h
 |.list xs,ws,h=>by
  simp only[repC] at h⊢
  obtain⟨a,cap,e,hc,h⟩:=h
  refine⟨a,cap,e,hc,?_⟩
  rcases h with h|⟨b,off,sz,us,ha,hs,hi,he⟩
  ·exact .inl h
  ·exact .inr ⟨b,off,sz,us,ha,hs,hi.mono hm,repE.mono hm sz xs us he⟩
 |.agg cs,ws,h=>by simp only[repC] at h⊢;exact repA.mono hm cs ws h
 |.ref x,ws,h=>by
  simp only[repC] at h⊢
  obtain⟨b,off,us,e,hi,hx⟩:=h
  exact⟨b,off,us,e,hi.mono hm,repC.mono hm x us hx⟩
 |.fn f fs cs,ws,h=>by
  simp only[repC] at h⊢
  obtain⟨us,vs,e,h1,h2⟩:=h
  exact⟨us,vs,e,F1.mono hm fs us h1,F1.mono hm cs vs h2⟩
 |.nilfn,ws,h=>h
 |.nilp,ws,h=>h
 |.nils,ws,h=>h
 |.ifc t x,ws,h=>by
  simp only[repC] at h⊢
  obtain⟨us,e,hx⟩:=h
  exact⟨us,e,repC.mono hm x us hx⟩
theorem repE.mono{M M':cg}(hm:M.le M')(sz:Nat):∀(xs:List V) (us:List yx),repE M sz xs us->repE M' sz xs us
 |[],us,h=>h
 |x::xs,us,h=>by
  simp only[repE] at h⊢
  obtain⟨u1,u2,e,hl,h1,h2⟩:=h
  exact⟨u1,u2,e,hl,repC.mono hm x u1 h1,repE.mono hm sz xs u2 h2⟩
theorem repA.mono{M M':cg}(hm:M.le M'):∀(cs:List V) (us:List yx),repA M cs us->repA M' cs us
 |[],us,h=>h
 |c::cs,us,h=>by
  simp only[repA] at h⊢
  obtain⟨u,us',e,ha,h1,h2⟩:=h
  exact⟨u,us',e,ha,repC.mono hm c [u] h1,repA.mono hm cs us' h2⟩
theorem F1.mono{M M':cg}(hm:M.le M'):∀(xs:List V) (us:List yx),F1 M xs us->F1 M' xs us
 |[],us,h=>h
 |x::xs,us,h=>by
  simp only[F1] at h⊢
  obtain⟨u,us',ws,e,h1,h2,h3⟩:=h
  exact⟨u,us',ws,e,repC.mono hm x ws h1,h2,F1.mono hm xs us' h3⟩
end
theorem repV.mono{M M':cg}(hm:M.le M'){x:V}{u:yx}(h:repV M x u):repV M' x u:=
 let ⟨ws,h1,h2⟩:=h;⟨ws,repC.mono hm x ws h1,h2⟩
theorem DI{M:cg}:∀{cs:List V} {us:List yx},repA M cs us->I us=I cs
 |[],us,h=>by simp only[repA] at h;simp[h]
 |c::cs,us,h=>by
  simp only[repA] at h
  obtain⟨u,us',rfl,_,_,h2⟩:=h
  simp[DI h2]
theorem FL{M:cg}:∀{x:V} {ws:List yx},repC M x ws->I ws=x.size
 |.int k n,ws,h=>by simp only[repC] at h;simp[h,V.size]
 |.bool b,ws,h=>by simp only[repC] at h;simp[h,V.size]
 |.str s,ws,h=>by simp only[repC] at h;simp[h,V.size]
 |.list xs,ws,h=>by simp only[repC] at h;obtain⟨a,cap,e,_⟩:=h;simp[e,V.size]
 |.agg cs,ws,h=>by simp only[repC] at h;simpa[V.size] using DI h
 |.ref x,ws,h=>by simp only[repC] at h;obtain⟨b,off,us,e,_⟩:=h;simp[e,V.size]
 |.fn f fs cs,ws,h=>by simp only[repC] at h;obtain⟨us,vs,e,_⟩:=h;simp[e,V.size]
 |.nilfn,ws,h=>by simp only[repC] at h;simp[h,V.size]
 |.nilp,ws,h=>by simp only[repC] at h;simp[h,V.size]
 |.nils,ws,h=>by simp only[repC] at h;simp[h,V.size]
 |.ifc t x,ws,h=>by simp only[repC] at h;obtain⟨us,e,_⟩:=h;simp[e,V.size]
theorem Dn{M:cg}{x:V}{ws:List yx}(hx:x.isAgg=O)(h:repC M x ws):∃u,ws=[u]/\EQ x ws=u/\u.oneCell'=J:=by
 cases x with
 |int k n=>simp only[repC] at h;exact⟨_,h,by simp[EQ,h],rfl⟩
 |bool b=>simp only[repC] at h;exact⟨_,h,by simp[EQ,h],rfl⟩
 |str s=>simp only[repC] at h;exact⟨_,h,by simp[EQ,h],rfl⟩
 |list xs=>simp only[repC] at h;obtain⟨a,cap,e,_⟩:=h;exact⟨_,e,by simp[EQ,e],rfl⟩
 |agg cs=>simp[V.isAgg] at hx
 |ref x=>simp only[repC] at h;obtain⟨b,off,us,e,_⟩:=h;exact⟨_,e,by simp[EQ,e],rfl⟩
 |fn f fs cs=>simp only[repC] at h;obtain⟨us,vs,e,_⟩:=h;exact⟨_,e,by simp[EQ,e],rfl⟩
 |nilfn=>simp only[repC] at h;exact⟨_,h,by simp[EQ,h],rfl⟩
 |nilp=>simp only[repC] at h;exact⟨_,h,by simp[EQ,h],rfl⟩
 |nils=>simp only[repC] at h;exact⟨_,h,by simp[EQ,h],rfl⟩
 |ifc t x=>simp only[repC] at h;obtain⟨us,e,_⟩:=h;exact⟨_,e,by simp[EQ,e],rfl⟩
theorem BV{M:cg}{x:V}{u:yx}(hx:x.isAgg=O):repV M x u↔repC M x [u]:=by
 constructor
 ·rintro ⟨ws,h,e⟩
  obtain⟨u',e1,e2,_⟩:=Dn hx h
  rw[e,e2, ←e1];exact h
 ·intro h
  obtain⟨u',e1,e2,_⟩:=Dn hx h
  have:u=u':=by simpa using e1
  exact⟨[u],h,by rw[e2,this]⟩
@[simp] theorem AM {M:cg} {k:yt} {n:Int} {u:yx}:repV M (.int k n) u↔u=.int k n:=by rw[BV rfl];simp[repC]
@[simp] theorem Et {M:cg} {b:Bool} {u:yx}:repV M (.bool b) u↔u=.bool b:=by rw[BV rfl];simp[repC]
@[simp] theorem CU {M:cg} {s:List UInt8} {u:yx}:repV M (.str s) u↔u=.string ⟨s.toArray⟩:=by rw[BV rfl];simp[repC]
@[simp] theorem Ag8 {M:cg} {u:yx}:repV M .nilfn u↔u=.nilFunc:=by rw[BV rfl];simp[repC]
@[simp] theorem C4 {M:cg} {u:yx}:repV M .nils u↔u=.slice none 0 0:=by rw[BV rfl];simp[repC]
@[simp] theorem AhI {M:cg} {u:yx}:repV M .nilp u↔u=.pointer none:=by rw[BV rfl];simp[repC]
theorem B3{M:cg}{xs:List V}{u:yx}:repV M (.list xs) u↔∃a cap,u=.slice a (I xs) cap/\xs.length<=cap/\(xs=[]∨∃b off sz us,a=G ⟨b,off,none⟩/\0<sz/\eb M b off us/\repE M sz xs us):=by
 rw[BV rfl];simp[repC]
theorem Dm(M:cg):repV M (.list []) (.slice none 0 0):=by rw[B3];exact⟨none,0,rfl,HX _,.inl rfl⟩
theorem Dl{M:cg}{x:V}{u:yx}:repV M (.ref x) u↔∃b off us,u=.pointer (G ⟨b,off,none⟩)/\eb M b off us/\repC M x us:=by rw[BV rfl];simp[repC]
theorem GH{M:cg}{f:yv}{fs cs:List V}{u:yx}:repV M (.fn f fs cs) u↔∃us vs,u=.func (.func f) us.toArray vs.toArray/\F1 M fs us/\F1 M cs vs:=by rw[BV rfl];simp[repC]
theorem CF{M:cg}{cs:List V}{u:yx}:repV M (.agg cs) u↔∃ws,repA M cs ws/\u=.agg ws.toArray:=by simp[repV,repC,EQ]
theorem Du{M:cg}{x:V}{u:yx}(hx:x.isAgg=O)(h:repV M x u):u.oneCell'=J:=by
 obtain⟨ws,h,e⟩:=h
 obtain⟨u',e1,e2,h3⟩:=Dn hx h
 rw[e,e2];exact h3
theorem JZ{M:cg}{x:V}{u:yx}(h:repV M x u):repC M x u.cells.toList:=by
 obtain⟨ws,h,e⟩:=h
 cases hx:x.isAgg with
 |false=>
  obtain⟨u',e1,e2,h3⟩:=Dn hx h
  rw[e,e2]
  have:u'.cells= #[u']:=by cases u'<;>simp_all [Value.cells,Value.oneCell']
  rw[this, ←e1];exact h
 |true=>
  cases x with
  |agg cs=>rw[e];simpa[EQ,Value.cells] using h
  |_=>simp[V.isAgg] at hx
theorem GJ{M:cg}:∀{cs:List V} {us:List yx},repA M cs us->∀u∈us,u.oneCell'=J
 |[],us,h=>by simp only[repA] at h;simp[h]
 |c::cs,us,h=>by
  simp only[repA] at h
  obtain⟨u,us',rfl,ha,h1,h2⟩:=h
  intro u0 hu
  rcases I8.1 hu with rfl|hu
  ·obtain⟨u',e1,_,h3⟩:=Dn ha h1
   have:u0=u':=by simpa using e1
   rw[this];exact h3
  ·exact GJ h2 u0 hu
theorem KJ{M:cg}{x:V}{us:List yx}(h:repC M x us):∀u∈us,u.oneCell'=J:=by
 cases hx:x.isAgg with
 |false=>
  obtain⟨u',e1,_,h3⟩:=Dn hx h
  rw[e1];intro u hu;simp at hu;rw[hu];exact h3
 |true=>
  cases x with
  |agg cs=>simp only[repC] at h;exact GJ h
  |_=>simp[V.isAgg] at hx
inductive D where
 |v (x:V)
 |acc (k:Nat) (xs:List V)
 |ptr (o off:Nat)
 |arr (o off len:Nat)
 |gro (o len sz:Nat)
 |raw (x:yx)
 |rv (x:V) (u:yx)
 |dagg (cs:List D)
 |dfn (f:yv) (fs cs:List D)
 |tup (ds:List D)
 |err
 |undef
 deriving Inhabited
structure Gh where
 M:cg
 β:Nat->Nat
 n:Nat
 ι:Nat->Nat->Option yx
 κ:Nat->Nat
mutual
def Av(g:Gh):D->yx->Prop
 |.v x,u=>repV g.M x u
 |.acc k xs,u=>repV g.M (.list xs) u/\g.ι k (I xs)=G u
 |.ptr o off,u=>o<g.n/\u=.pointer (G ⟨g.β o,off,none⟩)
 |.arr o off len,u=>o<g.n/\∃cap,len<=cap/\u=.slice (G ⟨g.β o,off,none⟩) len cap
 |.gro o len sz,u=>o<g.n/\∃cap,len<=cap/\cap*sz=g.κ o/\u=.slice (G ⟨g.β o,0,none⟩) len cap
 |.raw x,u=>u=x
 |.rv x u0,u=>u=u0/\repV g.M x u0
 |.dagg cs,u=>∃us,u=.agg us.toArray/\Ar g cs us
 |.dfn f fs cs,u=>∃us vs,u=.func (.func f) us.toArray vs.toArray/\Ar g fs us/\Ar g cs vs
 |.tup ds,u=>∃us,u=.tuple us.toArray/\Ar g ds us
 |.err,u=>∃t p,u=.iface t p
 |.undef,_=>True
def Ar(g:Gh):List D->List yx->Prop
 |[],us=>us=[]
 |d::ds,us=>∃u us',us=u::us'/\Av g d u/\Ar g ds us'
end
structure Gh.le(g g':Gh):Prop where
 M:g.M.le g'.M
 n:g.n<=g'.n
 β:∀o,o<g.n->g'.β o=g.β o
 ι:∀k m u,g.ι k m=G u->g'.ι k m=G u
 κ:∀o,o<g.n->g'.κ o=g.κ o
theorem Gh.le_refl(g:Gh):g.le g:=⟨g.M.le_refl,HX _,fun _ _=>rfl,fun _ _ _ h=>h,fun _ _=>rfl⟩
theorem Gh.le_trans{g g' g'':Gh}(h:g.le g')(h':g'.le g''):g.le g'':=
 ⟨cg.le_trans h.M h'.M,IN h.n h'.n,fun o ho=>(h'.β o (Ju ho h.n)).trans (h.β o ho),fun k m u e=>h'.ι k m u (h.ι k m u e),fun o ho=>(h'.κ o (Ju ho h.n)).trans (h.κ o ho)⟩
mutual
theorem Av.mono{g g':Gh}(hg:g.le g'):∀(d:D) (u:yx),Av g d u->Av g' d u
 |.v x,u,h=>by simp only[Av] at h⊢;exact h.mono hg.M
 |.acc k xs,u,h=>by simp only[Av] at h⊢;exact⟨h.1.mono hg.M,hg.ι _ _ _ h.2⟩
 |.ptr o off,u,h=>by simp only[Av] at h⊢;exact⟨Ju h.1 hg.n,by rw[hg.β o h.1];exact h.2⟩
 |.arr o off len,u,h=>by simp only[Av] at h⊢;exact⟨Ju h.1 hg.n,by rw[hg.β o h.1];exact h.2⟩
 |.gro o len sz,u,h=>by simp only[Av] at h⊢;exact⟨Ju h.1 hg.n,by rw[hg.β o h.1,hg.κ o h.1];exact h.2⟩
 |.raw x,u,h=>by simpa only[Av] using h
 |.rv x u0,u,h=>by simp only[Av] at h⊢;exact⟨h.1,h.2.mono hg.M⟩
 |.dagg cs,u,h=>by
  simp only[Av] at h⊢
  obtain⟨us,e,h1⟩:=h
  exact⟨us,e,Ar.mono hg cs us h1⟩
 |.dfn f fs cs,u,h=>by
  simp only[Av] at h⊢
  obtain⟨us,vs,e,h1,h2⟩:=h
  exact⟨us,vs,e,Ar.mono hg fs us h1,Ar.mono hg cs vs h2⟩
 |.tup ds,u,h=>by
  simp only[Av] at h⊢
  obtain⟨us,e,h1⟩:=h
  exact⟨us,e,Ar.mono hg ds us h1⟩
 |.err,u,h=>by simpa only[Av] using h
 |.undef,u,_=>by simp only[Av]
theorem Ar.mono{g g':Gh}(hg:g.le g'):∀(ds:List D) (us:List yx),Ar g ds us->Ar g' ds us
 |[],us,h=>by simpa only[Ar] using h
 |d::ds,us,h=>by
  simp only[Ar] at h⊢
  obtain⟨u,us',e,h1,h2⟩:=h
  exact⟨u,us',e,Av.mono hg d u h1,Ar.mono hg ds us' h2⟩
end
theorem AF{g:Gh}:∀{ds:List D} {us:List yx},Ar g ds us->I us=I ds
 |[],us,h=>by simp only[Ar] at h;simp[h]
 |d::ds,us,h=>by
  simp only[Ar] at h
  obtain⟨u,us',rfl,_,h2⟩:=h
  simp[AF h2]
theorem BL{g:Gh}:∀{ds:List D} {us:List yx},Ar g ds us->∀{i:Nat} {d:D},ds[i]?=G d->∃u,us[i]?=G u/\Av g d u
 |[],us,h,i,d,hd=>by simp at hd
 |d::ds,us,h,i,d',hd=>by
  simp only[Ar] at h
  obtain⟨u,us',rfl,h1,h2⟩:=h
  cases i with
  |zero=>simp at hd;subst hd;exact⟨u,by simp,h1⟩
  |succ i=>simp at hd;obtain⟨u',e,h3⟩:=BL h2 hd;exact⟨u',by simpa using e,h3⟩
theorem CZ{g:Gh}:∀{ds:List D} {us:List yx},Ar g ds us->∀(i:Nat) {d:D} {u:yx},Av g d u->Ar g (ds.set i d) (us.set i u)
 |[],us,h,i,d,u,_=>by simp only[Ar] at h;simp[h,Ar]
 |d0::ds,us,h,i,d,u,hd=>by
  simp only[Ar] at h
  obtain⟨u0,us',rfl,h1,h2⟩:=h
  cases i with
  |zero=>simp only[List.set_cons_zero,Ar];exact⟨u,us',rfl,hd,h2⟩
  |succ i=>simp only[Jv,Ar];exact⟨u0,_,rfl,h1,CZ h2 i hd⟩
theorem A7{g:Gh}:∀{ds ds':List D} {us us':List yx},Ar g ds us->Ar g ds' us'->Ar g (ds++ds') (us++us')
 |[],ds',us,us',h,h'=>by simp only[Ar] at h;simpa[h] using h'
 |d::ds,ds',us,us',h,h'=>by
  simp only[Ar] at h
  obtain⟨u,us1,rfl,h1,h2⟩:=h
  simp only[J7,Ar]
  exact⟨u,_,rfl,h1,A7 h2 h'⟩
theorem Df{α:Type}{l r:List α}{i:Nat}{x:α}(h:l[i]?=G x):(l++r)[i]?=G x:=by
 rw[Ip (HT.1 h).1];exact h
theorem GI{g:Gh}:∀{ds:List D} {us:List yx},Ar g ds us->∀{ds':List D},I ds'=I ds->(∀(i:Nat) (d':D),ds'[i]?=G d'->d'=.undef∨ds[i]?=G d')->Ar g ds' us
 |[],us,h,ds',hl,_=>by
  have:ds'=[]:=Js (by simpa using hl)
  subst this;exact h
 |d::ds,us,h,[],hl,_=>by simp at hl
 |d::ds,us,h,d'::ds',hl,hw=>by
  simp only[Ar] at h⊢
  obtain⟨u,us',rfl,h1,h2⟩:=h
  refine⟨u,us',rfl,?_,GI h2 (by simpa using hl) (fun i x hx=>by have:=hw (i+1) x (by simpa using hx);simpa using this)⟩
  rcases hw 0 d' (by simp) with rfl|e
  ·simp only[Av]
  ·simp at e;subst e;exact h1
end Go.Dv

namespace Go.Dv
open Go.IntKind (u64)
open Go.IntKind renaming wrap → yr, i64 → yq
open List renaming length → I, map → U, drop → W
open Option renaming some → G
open Bool renaming true → J, false → O
open Decidable renaming decide → Y
open Int renaming toNat → Z
open Go.Dv.V renaming list → ai, str → ae, agg → ab, int → aa, ref → bz, fn → bw, nils → bv, bool → bu
open Go.Dv.D renaming v → bt, acc → br, ptr → bq, arr → bo, gro → bm, tup → bl, undef → bk, dagg → bj
open _root_.ByteArray renaming mk → bg
open Go renaming Operand → x5, Program → x4, TypeId → yz, World → yy, Value → yx, Oper → yw, FuncId → yv, Func → yu, IntKind → yt
abbrev DRW:Prop:=True
def BO(a b:Nat):Prop:=DRW->a<=b
theorem BO.of{a b:Nat}(h:a<=b):BO a b:=fun _=>h
theorem BO.refl(a:Nat):BO a a:=.of (HX _)
theorem BO.succ(a:Nat):BO a (a+1):=.of (Nat.le_succ _)
theorem BO.trans{a b c:Nat}(h:BO a b)(h':BO b c):BO a c:=fun d=>IN (h d) (h' d)
def jl:List (Nat×V):=[]
def pk(_:cg):Prop:=True
theorem pk.mono{M M':cg}(h:pk M)(_:M.le M'):pk M':=h
structure FE(M:cg):Prop where
 known:∀p∈jl,∃us,eb M p.1 0 us/\repC M p.2 us
 more:pk M
theorem FE.mono{M M':cg}(h:FE M)(hle:M.le M'):FE M':=⟨fun p hp=>
 let ⟨us,h1,h2⟩:=h.known p hp
 ⟨us,h1.mono hle,repC.mono hle _ _ h2⟩,h.more.mono hle⟩
def G8:List (Nat×Nat):=[]
def GW(w:yy):Prop:=∀p∈G8,∃cs e x,w.heap[p.1]?=G (.cells cs e x)/\cs.size=p.2
theorem GW.mono{w w':yy}(h:GW w)(hs:∀(b:Nat) (cs:Array yx) (e:yz) (x:Nat×Nat),w.heap[b]?=G (.cells cs e x)->∃cs' e' x',w'.heap[b]?=G (.cells cs' e' x')/\cs'.size=cs.size):GW w':=fun p hp=>by
 obtain⟨cs,e,x,h1,h2⟩:=h p hp
 obtain⟨cs',e',x',h3,h4⟩:=hs _ _ _ _ h1
 exact⟨cs',e',x',h3,h4.trans h2⟩
theorem GW.keep{w w':yy}(h:GW w)(hs:∀b,b<w.heap.size->w'.heap[b]?=w.heap[b]?):GW w':=h.mono fun b cs e x hb=>⟨cs,e,x,(hs b (IM.1 hb).1).trans hb,rfl⟩
theorem GW.keepG{w w':yy}(h:GW w)(hs:∀p∈G8,p.1<w.heap.size->w'.heap[p.1]?=w.heap[p.1]?):GW w':=fun p hp=>by
 obtain⟨cs,e,x,h1,h2⟩:=h p hp
 exact⟨cs,e,x,(hs p hp (IM.1 h1).1).trans h1,h2⟩
theorem FE.sized{M:cg}(_:FE M):∀p∈G8,∃v,M p.1 0=G v:=fun p hp=>by simp[G8] at hp
structure St where
 H:List (Option (List D))
 own:List (Nat×Nat×List V)
def D.one:D->Bool
 |.v x=> !x.isAgg
 |.acc .. |.ptr .. |.arr .. |.gro .. |.dfn .. =>true
 |.raw x=>x.oneCell'
 |.rv x _=> !x.isAgg
 |_=>false
def Cn:yx->Option Nat
 |.slice (some a) _ cap=>if cap=0 then none else G a.block
 |_=>none
structure rm(M:cg)(b n:Nat):Prop where
 none:∀o,n<=o->M b o=Option.none
 ng:∀p∈G8,p.1≠b
instance {M:cg} {b n:Nat}:CoeFun (rm M b n) fun _=>∀o,n<=o->M b o=Option.none:=⟨rm.none⟩
def Perm(M:cg)(w:yy)(sz:Nat)(u:yx):Prop:=
 (∃a,u=.slice a 0 0)∨∃b f len cap cur e,u=.slice (G ⟨b,f,none⟩) len cap/\w.heap[b]?=G (.cells cur e (0,0))/\len<=cap/\f+cap*sz<=cur.size/\rm M b (f+len*sz)
structure c8(g:Gh)(σ:St)(w:yy):Prop where
 n:g.n=I σ.H
 mem:∀b o v,g.M b o=G v->w.cell? ⟨b,o,none⟩=G v
 obj:∀i cs,σ.H[i]?=G (G cs)->∃us rest e,w.heap[g.β i]?=G (.cells (us++rest).toArray e (0,0))/\Ar g cs us/\(∀c∈cs,c.one=J)/\(∀o,g.M (g.β i) o=none)/\(us++rest).length=g.κ i
 inj:∀i j cs ds,σ.H[i]?=G (G cs)->σ.H[j]?=G (G ds)->g.β i=g.β j->i=j
 own:∀k sz xs,(k,sz,xs)∈σ.own->(0<sz/\∀x∈xs,x.size=sz)/\∃u,g.ι k (I xs)=G u/\repV g.M (.list xs) u/\Perm g.M w sz u/\∀m,I xs<m->g.ι k m=none
 tags:(σ.own.map (·.1)).Nodup
 sep:∀x∈σ.own,∀y∈σ.own,x.1≠y.1->∀u u',g.ι x.1 (I x.2.2)=G u->g.ι y.1 (I y.2.2)=G u'->∀b,Cn u=G b->Cn u'≠G b
 ownObj:∀x∈σ.own,∀u,g.ι x.1 (I x.2.2)=G u->∀b,Cn u=G b->∀i cs,σ.H[i]?=G (G cs)->g.β i≠b
 fresh:∀k,(∀x∈σ.own,x.1≠k)->∀m,g.ι k m=none
 gl:FE g.M
 gw:GW w
structure co where
 g:Gh
 w:yy
 σ:St
def co.priv(E:co)(b:Nat):Prop:=
 (∃i cs,E.σ.H[i]?=G (G cs)/\b=E.g.β i)∨(∃x∈E.σ.own,∃u,E.g.ι x.1 (I x.2.2)=G u/\Cn u=G b)
structure WI(E:co)(g:Gh)(σ:St)(w:yy):Prop where
 rep:c8 g σ w
 M:E.g.M.le g.M
 size:E.w.heap.size<=w.heap.size
 keep:∀b,b<E.w.heap.size->¬E.priv b->w.heap[b]?=E.w.heap[b]?/\∀o,g.M b o=E.g.M b o
 os:w.os=E.w.os
 tape:w.tape=E.w.tape
 output:w.output=E.w.output
 nE:E.g.n<=g.n
 βE:∀o,o<E.g.n->g.β o=E.g.β o
 κE:∀o,o<E.g.n->g.κ o=E.g.κ o
 objs:∀i cs,σ.H[i]?=G (G cs)->E.w.heap.size<=g.β i∨E.priv (g.β i)
 owns:∀x∈σ.own,∀u,g.ι x.1 (I x.2.2)=G u->∀b,Cn u=G b->E.w.heap.size<=b∨E.priv b
 drawn:BO E.w.drawn w.drawn
structure FI(E:co)(g:Gh)(σ:St)(env:List D)(a:Act)(w:yy):Prop where
 wi:WI E g σ w
 env:Ar g env a.tmps.toList
 defers:a.defers=[]
theorem WI.start{g:Gh}{w:yy}{σ:St}(h:c8 g σ w):WI ⟨g,w,σ⟩ g σ w where
 rep:=h
 M:=cg.le_refl _
 size:=HX _
 keep:=fun _ _ _=>⟨rfl,fun _=>rfl⟩
 os:=rfl
 tape:=rfl
 output:=rfl
 nE:=HX _
 βE:=fun _ _=>rfl
 κE:=fun _ _=>rfl
 objs:=fun i cs h=>.inr (.inl ⟨i,cs,h,rfl⟩)
 owns:=fun x hx u hu _ hb=>.inr (.inr ⟨x,hx,u,hu,hb⟩)
 drawn:=BO.refl _
def TP:yx->D
 |.int k n=>.v (.int k n)
 |.bool b=>.v (.bool b)
 |.string s=>.v (.str s.data.toList)
 |.slice none 0 0=>.v (.list [])
 |.nilFunc=>.v .nilfn
 |.pointer none=>.v .nilp
 |_=>.undef
theorem MH(g:Gh)(u:yx):Av g (TP u) u:=by
 unfold TP
 split<;>simp[Av,Dm]
def ql(n:Nat):D:=match jl.find? (·.1==n) with|G p=>.v (.ref p.2)|none=>.undef
theorem X5{g:Gh}(hG:FE g.M)(n:Nat):Av g (ql n) (.pointer (G ⟨n,0,none⟩)):=by
 unfold ql
 cases h:jl.find? (·.1==n) with
 |none=>simp[Av]
 |some p=>
  obtain⟨us,h1,h2⟩:=hG.known p (List.mem_of_find?_eq_some h)
  have h3:=List.find?_some h
  simp only[I4] at h3
  simp only[Av,Dl]
  exact⟨n,0,us,rfl,h3▸h1,h2⟩
def g9(env:List D):x5->D
 |.tmp t=>env.getD t .undef
 |.const u=>TP u
 |.global n=>ql n
 |.func f=>.v (.fn f [] [])
theorem F4{g:Gh}{env:List D}{a:Act}(h:Ar g env a.tmps.toList)(t:Nat):Av g (g9 env (.tmp t)) (a.eval (.tmp t)):=by
 simp only[g9,Act.eval]
 cases hd:env[t]? with
 |none=>rw[HY,hd];simp[Av]
 |some d=>
  obtain⟨u,hu,hr⟩:=BL h hd
  rw[HY,hd]
  have:a.tmps.getD t undef=u:=by
   rw[Jk]
   have:a.tmps[t]?=G u:=by rw[←J2];exact hu
   simp[this]
  rw[this];exact hr
theorem LM{g:Gh}{env:List D}{a:Act}(hG:FE g.M)(h:Ar g env a.tmps.toList)(x:x5):Av g (g9 env x) (a.eval x):=by
 cases x with
 |tmp t=>exact F4 h t
 |const u=>exact MH g u
 |global n=>exact X5 hG n
 |func f=>simp only[g9,Av,GH,Act.eval];exact⟨[],[],rfl,by simp[F1],by simp[F1]⟩
def E2(env:List D)(o:yw):List D:=o.op.operands.toList.map (g9 env)
theorem DH{g:Gh}{env:List D}{a:Act}(hG:FE g.M)(h:Ar g env a.tmps.toList):∀(l:List x5),Ar g (l.map (g9 env)) (l.map a.eval)
 |[]=>by simp[Ar]
 |x::l=>by simp only[Iu,Ar];exact⟨_,_,rfl,LM hG h x,DH hG h l⟩
def Ay(P:x4)(o:yw)(ds:List D)(σ:St)(d:D)(σ':St):Prop:=
 ∀(E:co) (g:Gh) (a:Act) (w:yy) (K:Act->yy->Prop) (Q:Exit->Act->yy->Prop),WI E g σ w->
  Ar g ds (o.op.operands.toList.map a.eval)->
  (∀g' w' u,WI E g' σ' w'->g.le g'->Av g' d u->K (a.put o.dst u) w')->o.wp P a w K Q
theorem Kp(g:Gh):Av g (.tup []) undef:=by simp only[Av];exact⟨[],rfl,by simp[Ar]⟩
def CG(env:List D):Option Tmp->D->List D
 |some t,d=>env.set t d
 |none,_=>env
theorem FI.put{E:co}{g g':Gh}{σ σ':St}{env:List D}{a:Act}{w w':yy}(h:FI E g σ env a w)(hw:WI E g' σ' w')(hg:g.le g'){u:yx}{d:D}(hd:Av g' d u)(t:Option Tmp):
  FI E g' σ' (CG env t d) (a.put t u) w':=by
 refine⟨hw,?_,?_⟩
 ·cases t with
  |none=>exact Ar.mono hg _ _ h.env
  |some t=>
   simp only[CG,Act.put,Array.toList_setIfInBounds]
   exact CZ (Ar.mono hg _ _ h.env) t hd
 ·cases t<;>exact h.defers
def C0(env:List D)(ops:Array yw)(o:yw):Option Bool:=
 match o.guard with
 |none=>G true
 |some (j,want)=>match ((ops[j]?).bind (·.dst)).bind (env[·]?) with
  |some (.v (.bool b))=>G (b==want)
  |some (.tup _)=>G false
  |_=>none
theorem Ca{g:Gh}{env:List D}{a:Act}(h:Ar g env a.tmps.toList){ops:Array yw}{o:yw}{b:Bool}(hw:C0 env ops o=G b):
  Region.wanted o (yielded ops a.tmps)=b:=by
 unfold C0 at hw
 unfold Region.wanted
 cases hg:o.guard with
 |none=>simp[hg] at hw⊢;exact hw
 |some p=>
  obtain⟨j,want⟩:=p
  simp only[hg] at hw⊢
  cases hj:(ops[j]?).bind (·.dst) with
  |none=>simp[hj] at hw
  |some t=>
   simp only[hj,Option.bind_some] at hw
   cases he:env[t]? with
   |none=>simp[he] at hw
   |some d=>
    simp only[he] at hw
    obtain⟨u,hu,hr⟩:=BL h he
    have hu':a.tmps[t]?=G u:=by rw[←J2];exact hu
    split at hw
    ·rename_i b' e
     simp only[I1] at e
     subst e
     simp only[Av,Et] at hr
     subst hr
     simp only[yielded,hj,Option.bind_some,hu']
     simp at hw
     rw[←hw]
     cases b'<;>cases want<;>rfl
    ·rename_i ds e
     simp only[I1] at e
     subst e
     simp only[Av] at hr
     obtain⟨us,rfl,_⟩:=hr
     simp only[yielded,hj,Option.bind_some,hu']
     simp at hw
     subst hw
     rfl
    ·simp at hw
inductive KI where
 |code (c:Code)
 |blk (id:Nat)
 |lp (c:Code)
def AlV(P:x4)(c:Code)(Q:Exit->Act->yy->Prop)(a:Act)(w:yy):Prop:=
 ∀(b:Frame) (k:List Item) (cs:List Frame),
  ∃e a' w',Q e a' w'/\Arrives P (lone (b.at a (.code c:: .inLoop c::k)) cs w) b k cs e a' w'
def KQ(P:x4)(B:Exit->Act->yy->Prop):List KI->Exit->Act->yy->Prop
 |[],e,a,w=>B e a w
 |.code c::k,e,a,w=>match e with
  |.normal=>c.wp P (KQ P B k) a w
  |e=>KQ P B k e a w
 |.lp c::k,e,a,w=>match e with
  |.normal=>AlV P c (KQ P B k) a w
  |e=>KQ P B k e a w
 |.blk id::k,e,a,w=>match e with
  |.exit id'=>if id'=id then KQ P B k .normal a w else KQ P B k (.exit id') a w
  |e=>KQ P B k e a w
def AI(C:co->co->Prop)(P:x4)(R:List D->St->Prop)(k:List KI)(env:List D)(σ:St):Prop:=
 ∀(E0 E:co) (g:Gh) (a:Act) (w:yy) (B:Exit->Act->yy->Prop),C E0 E->FI E g σ env a w->
  (∀g' env' σ' a' w',FI E0 g' σ' env' a' w'->R env' σ'->B .ret a' w'/\B .normal a' w')->KQ P B k .normal a w
structure Pr(C:co->co->Prop):Prop where
 ok:∀{E0 E:co},C E0 E->∀{g:Gh} {σ:St} {w:yy},WI E g σ w->WI E0 g σ w
theorem FI.link{C:co->co->Prop}(L:Pr C){E0 E:co}(hC:C E0 E){g:Gh}{σ:St}{env:List D}{a:Act}{w:yy}(h:FI E g σ env a w):FI E0 g σ env a w:=⟨L.ok hC h.wi,h.env,h.defers⟩
section
variable {C : co -> co -> Prop} {P : x4} {R : List D -> St -> Prop} {k : List KI} {env : List D} {σ : St}
theorem Lf(L:Pr C)(h:R env σ):AI C P R [] env σ:=fun _ _ _ _ _ _ hC hf hB=>(hB _ _ _ _ _ (hf.link L hC) h).2
theorem U3{B:Exit->Act->yy->Prop}{a:Act}{w:yy}(h:B .ret a w):∀k:List KI,KQ P B k .ret a w
 |[]=>h
 |.code _::k=>by simp only[KQ];exact U3 h k
 |.lp _::k=>by simp only[KQ];exact U3 h k
 |.blk _::k=>by simp only[KQ];exact U3 h k
theorem Le(L:Pr C)(h:R env σ):AI C P R (.code .ret::k) env σ:=fun _ _ _ _ _ _ hC hf hB=>by
 simp only[KQ]
 exact wp_ret (U3 (hB _ _ _ _ _ (hf.link L hC) h).1 k)
theorem Abl(h:AI C P R k env σ):AI C P R (.code .skip::k) env σ:=fun E0 E g a w B hC hf hB=>by
 simp only[KQ]
 exact wp_skip (h E0 E g a w B hC hf hB)
theorem Xq{l:Nat}(h:AI C P R k env σ):AI C P R (.code (.label l)::k) env σ:=fun E0 E g a w B hC hf hB=>by
 simp only[KQ]
 exact wp_label (h E0 E g a w B hC hf hB)
theorem Afj{id:Nat}(h:AI C P R k env σ):AI C P R (.blk id::k) env σ:=fun E0 E g a w B hC hf hB=>by
 simp only[KQ]
 exact h E0 E g a w B hC hf hB
theorem Xp{x y:Code}(h:AI C P R (.code x:: .code y::k) env σ):AI C P R (.code (.seq x y)::k) env σ:=fun E0 E g a w B hC hf hB=>by
 have:=h E0 E g a w B hC hf hB
 simp only[KQ] at this⊢
 exact wp_seq (wp_mono this fun e a w q=>by cases e<;>exact q)
theorem Xs{id:Nat}{c:Code}(h:AI C P R (.code c:: .blk id::k) env σ):AI C P R (.code (.block id c)::k) env σ:=fun E0 E g a w B hC hf hB=>by
 have:=h E0 E g a w B hC hf hB
 simp only[KQ] at this⊢
 exact wp_block (wp_mono this fun e a w q=>by cases e<;>simpa only[KQ,Exit.inBlock] using q)
theorem Abo{c:x5}{x y:Code}{b:Bool}(hc:g9 env c=.v (.bool b))(ht:b=J->AI C P R (.code x::k) env σ)(hf:b=O->AI C P R (.code y::k) env σ):
  AI C P R (.code (.cond c x y)::k) env σ:=fun E0 E g a w B hC hfi hB=>by
 have hr:=LM hfi.wi.rep.gl hfi.env c
 rw[hc] at hr
 have hr':a.eval c=.bool b:=by simpa only[Av,Et] using hr
 simp only[KQ]
 refine wp_cond_split hr' (fun hb=>?_) (fun hb=>?_)
 ·have:=ht hb E0 E g a w B hC hfi hB;simpa only[KQ] using this
 ·have:=hf hb E0 E g a w B hC hfi hB;simpa only[KQ] using this
theorem Ah7{c:Code}(h:AI C P R (.code c:: .lp c::k) env σ):AI C P R (.lp c::k) env σ:=fun E0 E g a w B hC hfi hB=>by
 have:=h E0 E g a w B hC hfi hB
 simp only[KQ] at this⊢
 intro b kk cs
 obtain⟨e,a₁,w₁,hq,harr⟩:=this b (.inLoop c::kk) cs
 cases e with
 |normal=>
  simp only at hq
  obtain⟨e₂,a₂,w₂,hq₂,harr₂⟩:=hq b kk cs
  exact⟨e₂,a₂,w₂,hq₂,.of_steps (Steps.trans harr (.one step_inLoop)) harr₂⟩
 |exit id=>exact⟨_,a₁,w₁,hq,.pass (x:=.inLoop c) rfl (fun _ _=>.inl (by simp)) harr⟩
 |goto l=>exact⟨_,a₁,w₁,hq,.pass (x:=.inLoop c) rfl (fun _ _=>.inl (by simp)) harr⟩
 |ret=>exact⟨_,a₁,w₁,hq,.pass (x:=.inLoop c) rfl (fun _ _=>.inl (by simp)) harr⟩
 |panic ch=>exact⟨_,a₁,w₁,hq,.pass (x:=.inLoop c) rfl (fun _ _=>.inl (by simp)) harr⟩
 |outgrown=>exact⟨_,a₁,w₁,hq,.pass (x:=.inLoop c) rfl (fun _ _=>.inl (by simp)) harr⟩
theorem e7{c:Code}(h:AI C P R (.lp c::k) env σ):AI C P R (.code (.loop c)::k) env σ:=fun E0 E g a w B hC hfi hB=>by
 have:=h E0 E g a w B hC hfi hB
 simp only[KQ] at this⊢
 intro b kk cs
 obtain⟨e,a',w',hq,harr⟩:=this b kk cs
 exact⟨e,a',w',hq,.of_steps (.one step_loop) harr⟩
def Hk(id:Nat):List KI->Option (List KI)
 |[]=>none
 |.blk id'::k=>if id'=id then G k else Hk id k
 |_::k=>Hk id k
theorem Pt{B:Exit->Act->yy->Prop}{a:Act}{w:yy}{id:Nat}:∀{k k':List KI},Hk id k=G k'->KQ P B k' .normal a w->KQ P B k (.exit id) a w
 |[],k',h,_=>by simp[Hk] at h
 |.code c::k,k',h,q=>by simp only[Hk] at h;simp only[KQ];exact Pt h q
 |.lp c::k,k',h,q=>by simp only[Hk] at h;simp only[KQ];exact Pt h q
 |.blk id'::k,k',h,q=>by
  simp only[Hk] at h
  simp only[KQ]
  by_cases e:id'=id
  ·rw[Io e] at h
   simp at h;subst h
   rw[Io e.symm];exact q
  ·rw[Ij e] at h
   rw[Ij (fun x=>e x.symm)]
   exact Pt h q
theorem Abm{id:Nat}{k':List KI}(hk:Hk id k=G k')(h:AI C P R k' env σ):AI C P R (.code (.exit id)::k) env σ:=fun E0 E g a w B hC hfi hB=>by
 simp only[KQ]
 exact wp_exit (Pt hk (h E0 E g a w B hC hfi hB))
theorem JY{env':List D}(hl:I env'=I env)(he:∀(i:Nat) (d':D),env'[i]?=G d'->d'=.undef∨env[i]?=G d')(h:AI C P R k env' σ):AI C P R k env σ:=fun E0 E g a w B hC hfi hB=>
 h E0 E g a w B hC ⟨hfi.wi,GI hfi.env hl he,hfi.defers⟩ hB
end
def U5(P:x4)(f:yv):Prop:=∃fn,P.funcs[f]?=G fn/\(fn.name=="runtime.NumGoroutine")=O/\fn.body.isNone=O
def Aa(P:x4)(f:yv)(ds:List D)(σ:St)(d:D)(σ':St):Prop:=
 U5 P f/\∀(g:Gh) (w:yy) (args:List yx),c8 g σ w->Ar g ds args->
  Calls P f args.toArray w fun e w'=>∃u g',e=.returned u/\WI ⟨g,w,σ⟩ g' σ' w'/\Av g' d u
def AL(P:x4)(fn:yu)(env:List D)(σ:St)(d:D)(σ':St):Prop:=
 ∀E g a w,FI E g σ env a w->E.g.n<=I σ'.H->∃u g',(results fn a.tmps).run P w=.ok u w/\WI E g' σ' w/\Av g' d u
end Go.Dv

namespace Go.Dv
open List (getElem?_drop getElem?_set map_map take_succ_cons zipIdx_cons)
open Go.IntKind (u64)
open Go.IntKind renaming wrap → yr, i64 → yq
open List renaming length → I, map → U, drop → W
open Option renaming some → G
open Bool renaming true → J, false → O
open Decidable renaming decide → Y
open Int renaming toNat → Z
open Go.Dv.V renaming list → ai, str → ae, agg → ab, int → aa, ref → bz, fn → bw, nils → bv, bool → bu
open Go.Dv.D renaming v → bt, acc → br, ptr → bq, arr → bo, gro → bm, tup → bl, undef → bk, dagg → bj
open Go.Dv.St renaming mk → bi
open Go.Dv.KI renaming blk → bh
open _root_.ByteArray renaming mk → bg
open Go renaming Operand → x5, Program → x4, TypeId → yz, World → yy, Value → yx, Oper → yw, FuncId → yv, Func → yu, IntKind → yt
def D3(P:x4)(t:yz):Option (Nat×Bool):=
 match P.info? t,P.underlying t with
 |some i,some d=>G (i.size,match d with|.struct _|.array _ _=>true|_=>false)
 |_,_=>none
def Pp(P:x4)(t:yz):Prop:=D3 P t=G (1,false)
def Sf(P:x4)(t:yz)(n:Nat):Prop:=D3 P t=G (n,true)
def Ce(P:x4)(t:yz):Option (yz×Nat×Nat×Option yx):=
 match P.underlying t with
 |some (.slice e)=>(P.info? e).map fun i=>(e,i.size,i.bytes,i.zero)
 |_=>none
def Qr(P:x4)(s:yz)(f:Nat):Option (Nat×Nat×Bool):=
 match P.underlying s with
 |some (.struct fs)=>(fs[f]?).bind fun x=>(D3 P x.type).map fun p=>(x.offset,p.1,p.2)
 |_=>none
def km(P:x4)(t:yz):Option (Nat×Nat×Bool):=
 match P.underlying t with
 |some (.array n e)=>(D3 P e).map fun p=>(n,p.1,p.2)
 |_=>none
theorem LB{P:x4}{t:yz}{n:Nat}{b:Bool}(h:D3 P t=G (n,b)):
  ∃i d,P.info? t=G i/\P.underlying t=G d/\i.size=n/\(match d with|.struct _|.array _ _=>true|_=>false)=b:=by
 unfold D3 at h
 split at h
 ·rename_i i d hi hd
  simp at h
  exact⟨i,d,hi,hd,h.1,h.2⟩
 ·simp at h
theorem CX{P:x4}{t:yz}{n:Nat}{b:Bool}(h:D3 P t=G (n,b))(w:yy):(isAgg t).run P w=.ok b w:=by
 obtain⟨i,d,hi,hd,_,hb⟩:=LB h
 unfold isAgg
 rw[Sem.run_bind,run_underlying hd w]
 subst hb
 cases d<;>simp
theorem cd{P:x4}{t:yz}{n:Nat}{b:Bool}(h:D3 P t=G (n,b))(w:yy):(sizeOf t).run P w=.ok n w:=by
 obtain⟨i,d,hi,hd,hn,_⟩:=LB h
 simp[sizeOf,typeInfo,hi,hn]
theorem AK{P:x4}{t e:yz}{sz by':Nat}{z:Option yx}(h:Ce P t=G (e,sz,by',z)):
  ∃i,P.underlying t=G (.slice e)/\P.info? e=G i/\i.size=sz/\i.bytes=by'/\i.zero=z:=by
 unfold Ce at h
 split at h
 ·rename_i e' he
  cases hi:P.info? e' with
  |none=>simp[hi] at h
  |some i=>
   simp[hi] at h
   obtain⟨rfl,h1,h2,h3⟩:=h
   exact⟨i,he,hi,h1,h2,h3⟩
 ·simp at h
theorem HF{P:x4}{s:yz}{f off n:Nat}{b:Bool}(h:Qr P s f=G (off,n,b)):
  ∃fs x,P.underlying s=G (.struct fs)/\fs[f]?=G x/\x.offset=off/\D3 P x.type=G (n,b):=by
 unfold Qr at h
 split at h
 ·rename_i fs hs
  cases hx:fs[f]? with
  |none=>simp[hx] at h
  |some x=>
   simp only[hx,Option.bind_some] at h
   cases hz:D3 P x.type with
   |none=>simp[hz] at h
   |some p=>
    simp[hz] at h
    obtain⟨h1,h2⟩:=h
    exact⟨fs,x,hs,hx,h1,by rw[hz];cases p;simp_all⟩
 ·simp at h
theorem KE{P:x4}{t:yz}{len n:Nat}{b:Bool}(h:km P t=G (len,n,b)):
  ∃e,P.underlying t=G (.array len e)/\D3 P e=G (n,b):=by
 unfold km at h
 split at h
 ·rename_i l e he
  cases hz:D3 P e with
  |none=>simp[hz] at h
  |some p=>
   simp[hz] at h
   obtain⟨rfl,h2⟩:=h
   exact⟨e,he,by rw[hz];cases p;simp_all⟩
 ·simp at h
section
variable {P : x4} {o : yw} {ds : List D} {σ σ' : St} {d : D}
theorem AA(h:∀E g (ρ:x5->yx) w,WI E g σ w->Ar g ds (o.op.operands.toList.map ρ)->∃u,(execOp ρ o).run P w=.ok (.value u) w/\Av g d u):Ay P o ds σ d σ:=by
 intro E g a w K Q hw hds hK
 obtain⟨u,hr,hd⟩:=h E g a.eval w hw hds
 unfold Oper.wp
 rw[hr]
 exact hK g w u hw g.le_refl hd
theorem BI{ds':List D}(hs:∀g us,Ar g ds us->Ar g ds' us)(h:Ay P o ds' σ d σ'):Ay P o ds σ d σ':=
 fun E g a w K Q hw hds hK=>h E g a w K Q hw (hs g _ hds) hK
def D.un:D->D
 |.acc _ xs=>.v (.list xs)
 |d=>d
theorem NV{g:Gh}{d:D}{u:yx}(h:Av g d u):Av g d.un u:=by
 cases d<;>simp only[D.un]<;>first|exact h|(simp only[Av] at h⊢;exact h.1)
theorem H5{g:Gh}:∀{ds:List D} {us:List yx},Ar g ds us->Ar g (ds.map D.un) us
 |[],us,h=>by simpa using h
 |d::ds,us,h=>by
  simp only[Ar,Iu] at h⊢
  obtain⟨u,us',e,h1,h2⟩:=h
  exact⟨u,us',e,NV h1,H5 h2⟩
theorem Af1(h:Ay P o (ds.map D.un) σ d σ'):Ay P o ds σ d σ':=BI (fun _ _=>H5) h
theorem AH{g:Gh}{d:D}{us:List yx}:Ar g [d] us↔∃u,us=[u]/\Av g d u:=by
 simp only[Ar]
 constructor
 ·rintro ⟨u,us',rfl,h,rfl⟩;exact⟨u,rfl,h⟩
 ·rintro ⟨u,rfl,h⟩;exact⟨u,[],rfl,h,rfl⟩
theorem A8{g:Gh}{d e:D}{us:List yx}:Ar g [d,e] us↔∃u v,us=[u,v]/\Av g d u/\Av g e v:=by
 simp only[Ar]
 constructor
 ·rintro ⟨u,us',rfl,h,v,us'',rfl,h',rfl⟩;exact⟨u,v,rfl,h,h'⟩
 ·rintro ⟨u,v,rfl,h,h'⟩;exact⟨u,[v],rfl,h,v,[],rfl,h',rfl⟩
theorem E8{g:Gh}{d e f:D}{us:List yx}:Ar g [d,e,f] us↔∃u v x,us=[u,v,x]/\Av g d u/\Av g e v/\Av g f x:=by
 constructor
 ·intro h
  simp only[Ar] at h
  obtain⟨u,us',rfl,h,v,us'',rfl,h',x,us3,rfl,h'',rfl⟩:=h
  exact⟨u,v,x,rfl,h,h',h''⟩
 ·rintro ⟨u,v,x,rfl,h,h',h''⟩
  simp only[Ar]
  exact⟨u,[v,x],rfl,h,v,[x],rfl,h',x,[],rfl,h'',rfl⟩
theorem D6{x:x5}(ho:o.op=.move x):Ay P o [d] σ d σ:=by
 refine AA fun E g ρ w hw hds=>?_
 simp only[ho,Op.operands,AH] at hds
 obtain⟨u,e,hd⟩:=hds
 simp at e
 exact⟨u,by simp[execOp,ho,e],hd⟩
theorem LU{x:x5}(ho:o.op=.assign x):Ay P o [d] σ d σ:=by
 refine AA fun E g ρ w hw hds=>?_
 simp only[ho,Op.operands,AH] at hds
 obtain⟨u,e,hd⟩:=hds
 simp at e
 exact⟨u,by simp[execOp,ho,e],hd⟩
theorem XT{c x y:x5}(ho:o.op=.pick c x y){b:Bool}{d1 d2:D}:Ay P o [.v (.bool b),d1,d2] σ (if b then d1 else d2) σ:=by
 refine AA fun E g ρ w hw hds=>?_
 simp only[ho,Op.operands,E8] at hds
 obtain⟨u,v,z,e,h1,h2,h3⟩:=hds
 simp only[Iu,IP,Ie,I6] at e
 obtain⟨e1,e2,e3⟩:=e
 simp only[Av,Et] at h1
 refine⟨if b then v else z,?_,?_⟩
 ·simp only[execOp,ho,e1,h1,e2,e3]
  cases b<;>simp[asBool]
 ·cases b<;>simp[h2,h3]
def r7(op:BinOp)(k:yt)(a b:Int):Option V:=
 match op with
 |.add=>G (.int k (k.wrap (a+b)))
 |.sub=>G (.int k (k.wrap (a-b)))
 |.mul=>G (.int k (k.wrap (a*b)))
 |.and=>G (.int k (k.wrap (BitVec.ofInt k.bits a&&&BitVec.ofInt k.bits b).toNat))
 |.or=>G (.int k (k.wrap (BitVec.ofInt k.bits a|||BitVec.ofInt k.bits b).toNat))
 |.xor=>G (.int k (k.wrap (BitVec.ofInt k.bits a^^^BitVec.ofInt k.bits b).toNat))
 |.andNot=>G (.int k (k.wrap (BitVec.ofInt k.bits a&&& ~~~BitVec.ofInt k.bits b).toNat))
 |.eql=>G (.bool (a==b))
 |.neq=>G (.bool (a !=b))
 |.lss=>G (.bool (a<b))
 |.leq=>G (.bool (a<=b))
 |.gtr=>G (.bool (a>b))
 |.geq=>G (.bool (a>=b))
 |_=>none
theorem Af0{op:BinOp}{t ty:yz}{x y:x5}(ho:o.op=.binOp op t x y ty){k:yt}{a b:Int}{r:V}(hr:r7 op k a b=G r):
  Ay P o [.v (.int k a),.v (.int k b)] σ (.v r) σ:=by
 refine AA fun E g ρ w hw hds=>?_
 simp only[ho,Op.operands,A8] at hds
 obtain⟨u,v,e,h1,h2⟩:=hds
 simp only[Iu,IP,Ie,I6] at e
 obtain⟨e1,e2⟩:=e
 simp only[Av,AM] at h1 h2
 subst h1 h2
 cases op<;>simp only[r7,I1,reduceCtorEq] at hr<;>subst hr<;>
  simp[execOp,ho,e1,e2,eqGuard,binOp,Op.intArith,Op.intBits,Op.intCmp,Av]
def v7(op:BinOp)(k:yt)(a b:Int):Option V:=
 match op with
 |.quo=>G (.int k (k.wrap (a.tdiv b)))
 |.rem=>G (.int k (a.tmod b))
 |_=>none
theorem XS{op:BinOp}{t ty:yz}{x y:x5}(ho:o.op=.binOp op t x y ty){k:yt}{a b:Int}{r:V}(hr:v7 op k a b=G r)(hb:b≠0):
  Ay P o [.v (.int k a),.v (.int k b)] σ (.v r) σ:=by
 refine AA fun E g ρ w hw hds=>?_
 simp only[ho,Op.operands,A8] at hds
 obtain⟨u,v,e,h1,h2⟩:=hds
 simp only[Iu,IP,Ie,I6] at e
 obtain⟨e1,e2⟩:=e
 simp only[Av,AM] at h1 h2
 subst h1 h2
 cases op<;>simp only[v7,I1,reduceCtorEq] at hr<;>subst hr<;>
  simp[execOp,ho,e1,e2,eqGuard,binOp,Op.intDiv,hb,Av]
def ut(op:BinOp)(k:yt)(a b:Int):Option V:=
 match op with
 |.shl=>G (.int k (k.wrap (a*2^(min b.toNat k.bits))))
 |.shr=>G (.int k (a.fdiv (2^(min b.toNat k.bits))))
 |_=>none
theorem x9{op:BinOp}{t ty:yz}{x y:x5}(ho:o.op=.binOp op t x y ty){k k':yt}{a b:Int}{r:V}(hr:ut op k a b=G r)(hb:0<=b):
  Ay P o [.v (.int k a),.v (.int k' b)] σ (.v r) σ:=by
 refine AA fun E g ρ w hw hds=>?_
 simp only[ho,Op.operands,A8] at hds
 obtain⟨u,v,e,h1,h2⟩:=hds
 simp only[Iu,IP,Ie,I6] at e
 obtain⟨e1,e2⟩:=e
 simp only[Av,AM] at h1 h2
 subst h1 h2
 have hb':¬b<0:=by omega
 cases op<;>simp only[ut,I1,reduceCtorEq] at hr<;>subst hr<;>
  simp[execOp,ho,e1,e2,eqGuard,binOp,Op.shift,hb',Av]
def pi(op:BinOp)(a b:List UInt8):Option V:=
 match op with
 |.eql=>G (.bool (a==b))
 |.neq=>G (.bool !(a==b))
 |.lss=>G (.bool (Op.bytesLess a b))
 |.leq=>G (.bool (Op.bytesLess a b||a==b))
 |.gtr=>G (.bool !(Op.bytesLess a b||a==b))
 |.geq=>G (.bool !(Op.bytesLess a b))
 |_=>none
theorem Rr(l:List UInt8):ByteArray.size ⟨l.toArray⟩=I l:=by simp[ByteArray.size]
theorem Afz{op:BinOp}{t ty:yz}{x y:x5}(ho:o.op=.binOp op t x y ty){a b:List UInt8}{r:V}(hr:pi op a b=G r):
  Ay P o [.v (.str a),.v (.str b)] σ (.v r) σ:=by
 refine AA fun E g ρ w hw hds=>?_
 simp only[ho,Op.operands,A8] at hds
 obtain⟨u,v,e,h1,h2⟩:=hds
 simp only[Iu,IP,Ie,I6] at e
 obtain⟨e1,e2⟩:=e
 simp only[Av,CU] at h1 h2
 subst h1 h2
 cases op<;>simp only[pi,I1,reduceCtorEq] at hr<;>subst hr<;>
  simp[execOp,ho,e1,e2,eqGuard,binOp,Op.stringOp,Av]
theorem Yc{t ty:yz}{x y:x5}(ho:o.op=.binOp .add t x y ty){a b:List UInt8}(hl:I a+I b<=9223372036854775807):
  Ay P o [.v (.str a),.v (.str b)] σ (.v (.str (a++b))) σ:=by
 refine AA fun E g ρ w hw hds=>?_
 simp only[ho,Op.operands,A8] at hds
 obtain⟨u,v,e,h1,h2⟩:=hds
 simp only[Iu,IP,Ie,I6] at e
 obtain⟨e1,e2⟩:=e
 simp only[Av,CU] at h1 h2
 subst h1 h2
 have hs:∀l:List UInt8,ByteArray.size ⟨l.toArray⟩=I l:=fun l=>by simp[ByteArray.size]
 have hn:¬(((I a+I b:Nat):Int)>yq.max):=by
  have:yq.max=9223372036854775807:=by decide
  rw[this];omega
 refine⟨.string ⟨(a++b).toArray⟩,?_,by simp[Av]⟩
 have hap:(⟨a.toArray⟩:ByteArray)++⟨b.toArray⟩=⟨(a++b).toArray⟩:=by
  apply ByteArray.ext
  simp[ByteArray.data_append]
 simp only[execOp,ho,e1,e2,binOp,Op.stringOp,hs,hn,if_false,hap]
 simp[eqGuard]
theorem Ya{op:BinOp}{t ty:yz}{x y:x5}(ho:o.op=.binOp op t x y ty)(hu:P.underlying t=G .bool){a b:Bool}(hop:op=.eql∨op=.neq):
  Ay P o [.v (.bool a),.v (.bool b)] σ (.v (.bool (if op=.eql then a==b else a !=b))) σ:=by
 refine AA fun E g ρ w hw hds=>?_
 simp only[ho,Op.operands,A8] at hds
 obtain⟨u,v,e,h1,h2⟩:=hds
 simp only[Iu,IP,Ie,I6] at e
 obtain⟨e1,e2⟩:=e
 simp only[Av,Et] at h1 h2
 subst h1 h2
 have heq:(Op.equal t (.bool a) (.bool b)).run P w=.ok (a==b) w:=by
  have gen:∀d,(Op.equalIn (d+1) t (.bool a) (.bool b)).run P w=.ok (a==b) w:=fun d=>by
   simp only[Op.equalIn,Sem.run_bind,run_underlying hu,Result.andThen_ok]
   rfl
  exact gen 9999
 refine⟨.bool (if op=.eql then a==b else a !=b),?_,by simp[Av]⟩
 rcases hop with rfl|rfl<;>
  simp[execOp,ho,e1,e2,eqGuard,binOp,heq,bne]
def qb(op:UnOp)(x:V):Option V:=
 match op,x with
 |.not,.bool b=>G (.bool !b)
 |.neg,.int k n=>G (.int k (k.wrap (0-n)))
 |_,_=>none
theorem AjW{op:UnOp}{t:yz}{x:x5}(ho:o.op=.unOp op t x){a r:V}(hr:qb op a=G r):Ay P o [.v a] σ (.v r) σ:=by
 refine AA fun E g ρ w hw hds=>?_
 simp only[ho,Op.operands,AH] at hds
 obtain⟨u,e,h1⟩:=hds
 simp at e
 unfold qb at hr
 split at hr
 ·simp at hr;subst hr
  simp only[Av,Et] at h1
  exact⟨_,by simp[execOp,ho,e,h1,Op.unary];rfl,by simp[Av]⟩
 ·simp only[I1] at hr;subst hr
  simp only[Av,AM] at h1
  exact⟨_,by simp only[execOp,ho,e,h1,Op.unary,Op.intArith];rfl,by simp[Av]⟩
 ·simp at hr
theorem AbF{src dst:yz}{x:x5}(ho:o.op=.convert src dst x){k k':yt}{n:Int}{ds':TypeDesc}(hs:P.underlying src=G ds')(hd:P.underlying dst=G (.int k')):
  Ay P o [.v (.int k n)] σ (.v (.int k' (k'.wrap n))) σ:=by
 refine AA fun E g ρ w hw hds=>?_
 simp only[ho,Op.operands,AH] at hds
 obtain⟨u,e,h1⟩:=hds
 simp at e
 simp only[Av,AM] at h1
 refine⟨.int k' (k'.wrap n),?_,by simp[Av]⟩
 simp only[execOp,ho,e,h1,convert,Sem.run_bind,run_underlying hs,run_underlying hd,Result.andThen_ok,Conv.intToInt]
 rfl
theorem Va{x:x5}{i:Nat}(ho:o.op=.extract x i){ds:List D}(hd:ds[i]?=G d):Ay P o [.tup ds] σ d σ:=by
 refine AA fun E g ρ w hw hds=>?_
 simp only[ho,Op.operands,AH] at hds
 obtain⟨u,e,h1⟩:=hds
 simp at e
 simp only[Av] at h1
 obtain⟨us,rfl,h2⟩:=h1
 obtain⟨u,hu,h3⟩:=BL h2 hd
 exact⟨u,by simp[execOp,ho,e,Instr.extract,hu],h3⟩
theorem LQ{x:x5}(ho:o.op=.nilCheck x){q off:Nat}:Ay P o [.ptr q off] σ (.ptr q off) σ:=by
 refine AA fun E g ρ w hw hds=>?_
 simp only[ho,Op.operands,AH] at hds
 obtain⟨u,e,h1⟩:=hds
 simp at e
 refine⟨u,?_,h1⟩
 simp only[Av] at h1
 simp[execOp,ho,e,h1.2]
theorem LP{x:x5}(ho:o.op=.nilCheck x){y:V}:Ay P o [.v (.ref y)] σ (.v (.ref y)) σ:=by
 refine AA fun E g ρ w hw hds=>?_
 simp only[ho,Op.operands,AH] at hds
 obtain⟨u,e,h1⟩:=hds
 simp at e
 refine⟨u,?_,h1⟩
 simp only[Av,Dl] at h1
 obtain⟨b,off,us,rfl,_⟩:=h1
 simp[execOp,ho,e]
theorem XW{x:x5}{t:yz}(ho:o.op=.call { callee:=.builtin .len,args:= #[x],argTypes:= #[t]}){e:yz}(ht:P.underlying t=G (.slice e)){xs:List V}:
  Ay P o [.v (.list xs)] σ (.v (.int .i64 (I xs))) σ:=by
 refine AA fun E g ρ w hw hds=>?_
 simp only[ho,Op.operands,Call.operands,AH] at hds
 obtain⟨u,e,h1⟩:=hds
 simp at e
 simp only[Av,B3] at h1
 obtain⟨a,cap,rfl,_⟩:=h1
 exact⟨_,by simp[execOp,ho,e,resolve,invoke,builtin,Builtin.len_,run_underlying ht,goInt];rfl,by simp[Av]⟩
theorem XX{x:x5}{t:yz}(ho:o.op=.call { callee:=.builtin .len,args:= #[x],argTypes:= #[t]}){e:yz}(ht:P.underlying t=G (.slice e)){q off len:Nat}:
  Ay P o [.arr q off len] σ (.v (.int .i64 len)) σ:=by
 refine AA fun E g ρ w hw hds=>?_
 simp only[ho,Op.operands,Call.operands,AH] at hds
 obtain⟨u,e,h1⟩:=hds
 simp at e
 simp only[Av] at h1
 obtain⟨_,cap,_,rfl⟩:=h1
 exact⟨_,by simp[execOp,ho,e,resolve,invoke,builtin,Builtin.len_,run_underlying ht,goInt];rfl,by simp[Av]⟩
theorem Afu{x:x5}{t:yz}(ho:o.op=.call { callee:=.builtin .len,args:= #[x],argTypes:= #[t]})(ht:P.underlying t=G .string){s:List UInt8}:
  Ay P o [.v (.str s)] σ (.v (.int .i64 (I s))) σ:=by
 refine AA fun E g ρ w hw hds=>?_
 simp only[ho,Op.operands,Call.operands,AH] at hds
 obtain⟨u,e,h1⟩:=hds
 simp at e
 simp only[Av,CU] at h1
 subst h1
 exact⟨_,by simp[execOp,ho,e,resolve,invoke,builtin,Builtin.len_,run_underlying ht,goInt,Rr];rfl,by simp[Av]⟩
theorem AhV{x y:x5}{ts:Array yz}(ho:o.op=.call { callee:=.builtin .max,args:= #[x,y],argTypes:=ts }){k:yt}{a b:Int}:
  Ay P o [.v (.int k a),.v (.int k b)] σ (.v (.int k (if b>a then b else a))) σ:=by
 refine AA fun E g ρ w hw hds=>?_
 simp only[ho,Op.operands,Call.operands] at hds
 have hds':=A8.1 (by simpa using hds)
 obtain⟨u,v,e,h1,h2⟩:=hds'
 simp only[Ie,I6] at e
 simp only[Av,AM] at h1 h2
 exact⟨_,by simp[execOp,ho,e.1,e.2,h1,h2,resolve,invoke,builtin,Builtin.max_,Builtin.max2];rfl,by simp[Av]⟩
theorem AhU{x y:x5}{ts:Array yz}(ho:o.op=.call { callee:=.builtin .min,args:= #[x,y],argTypes:=ts }){k:yt}{a b:Int}:
  Ay P o [.v (.int k a),.v (.int k b)] σ (.v (.int k (if b<a then b else a))) σ:=by
 refine AA fun E g ρ w hw hds=>?_
 simp only[ho,Op.operands,Call.operands] at hds
 have hds':=A8.1 (by simpa using hds)
 obtain⟨u,v,e,h1,h2⟩:=hds'
 simp only[Ie,I6] at e
 simp only[Av,AM] at h1 h2
 exact⟨_,by simp[execOp,ho,e.1,e.2,h1,h2,resolve,invoke,builtin,Builtin.min_,Builtin.min2];rfl,by simp[Av]⟩
end
section
variable {M : cg}
theorem SE:∀{cs:List V} {us:List yx},repA M cs us->∀{i:Nat} {c:V},cs[i]?=G c->∃u,us[i]?=G u/\c.isAgg=O/\repC M c [u]
 |[],us,h,i,c,hc=>by simp at hc
 |c0::cs,us,h,i,c,hc=>by
  simp only[repA] at h
  obtain⟨u,us',rfl,ha,h1,h2⟩:=h
  cases i with
  |zero=>simp at hc;subst hc;exact⟨u,by simp,ha,h1⟩
  |succ i=>simp at hc;obtain⟨u',e,h3⟩:=SE h2 hc;exact⟨u',by simpa using e,h3⟩
theorem JC:∀{cs:List V} {us:List yx},repA M cs us->∀(n:Nat),repA M (cs.drop n) (us.drop n)
 |[],us,h,n=>by simp only[repA] at h;simp[h,repA]
 |c0::cs,us,h,n=>by
  cases n with
  |zero=>simpa using h
  |succ n=>
   simp only[repA] at h
   obtain⟨u,us',rfl,ha,h1,h2⟩:=h
   simpa using JC h2 n
theorem JB:∀{cs:List V} {us:List yx},repA M cs us->∀(n:Nat),repA M (cs.take n) (us.take n)
 |[],us,h,n=>by simp only[repA] at h;simp[h,repA]
 |c0::cs,us,h,n=>by
  cases n with
  |zero=>simp[repA]
  |succ n=>
   simp only[repA] at h
   obtain⟨u,us',rfl,ha,h1,h2⟩:=h
   simp only[take_succ_cons,repA]
   exact⟨u,_,rfl,ha,h1,JB h2 n⟩
theorem Cj{sz:Nat}:∀{xs:List V} {us:List yx},repE M sz xs us->I us=I xs*sz
 |[],us,h=>by simp only[repE] at h;simp[h]
 |x::xs,us,h=>by
  simp only[repE] at h
  obtain⟨u1,u2,rfl,hl,h1,h2⟩:=h
  simp[Cj h2,hl,Jm,Nat.add_comm]
theorem NU{sz:Nat}:∀{xs:List V} {us:List yx},repE M sz xs us->∀{i:Nat} {x:V},xs[i]?=G x->
  ∃u1,repC M x u1/\u1.length=sz/\∀j v,u1[j]?=G v->us[i*sz+j]?=G v
 |[],us,h,i,c,hc=>by simp at hc
 |x0::xs,us,h,i,x,hc=>by
  simp only[repE] at h
  obtain⟨u1,u2,rfl,hl,h1,h2⟩:=h
  cases i with
  |zero=>
   simp at hc;subst hc
   refine⟨u1,h1,hl,fun j v hj=>?_⟩
   have:j<I u1:=(HT.1 hj).1
   rw[Nat.zero_mul,IC,Ip this];exact hj
  |succ i=>
   simp at hc
   obtain⟨u',hr,hl',hg⟩:=NU h2 hc
   refine⟨u',hr,hl',fun j v hj=>?_⟩
   have e:(i+1)*sz+j=I u1+(i*sz+j):=by rw[hl,Jm];omega
   rw[e,Il (by omega)]
   have:I u1+(i*sz+j)-I u1=i*sz+j:=by omega
   rw[this];exact hg j v hj
theorem PJ{sz:Nat}:∀{xs:List V} {us:List yx},repE M sz xs us->∀(n:Nat),repE M sz (xs.drop n) (us.drop (n*sz))
 |[],us,h,n=>by simp only[repE] at h;simp[h,repE]
 |x::xs,us,h,n=>by
  cases n with
  |zero=>simpa using h
  |succ n=>
   simp only[repE] at h
   obtain⟨u1,u2,rfl,hl,h1,h2⟩:=h
   have:=PJ h2 n
   have e:(n+1)*sz=I u1+n*sz:=by rw[hl,Jm];omega
   have e2:(u1++u2).drop (I u1+n*sz)=u2.drop (n*sz):=by
    rw[List.drop_append,Im (Nat.le_add_right (I u1) (n*sz)),List.nil_append,Nat.add_sub_cancel_left]
   rw[e,e2]
   exact this
theorem PI{sz:Nat}:∀{xs:List V} {us:List yx},repE M sz xs us->∀(n:Nat),repE M sz (xs.take n) (us.take (n*sz))
 |[],us,h,n=>by simp only[repE] at h;simp[h,repE]
 |x::xs,us,h,n=>by
  cases n with
  |zero=>simp[repE]
  |succ n=>
   simp only[repE] at h
   obtain⟨u1,u2,rfl,hl,h1,h2⟩:=h
   simp only[take_succ_cons,repE]
   have e:(n+1)*sz=I u1+n*sz:=by rw[hl,Jm];omega
   refine⟨u1,u2.take (n*sz),?_,hl,h1,PI h2 n⟩
   rw[e,List.take_append,Iw (Nat.le_add_right _ _),Nat.add_sub_cancel_left]
theorem Lm{b off:Nat}{us:List yx}(h:eb M b off us)(n:Nat):eb M b (off+n) (us.drop n):=fun j v hj=>by
 rw[getElem?_drop] at hj
 rw[Nat.add_assoc];exact h _ v hj
theorem Ll{b off:Nat}{us:List yx}(h:eb M b off us)(n:Nat):eb M b off (us.take n):=fun j v hj=>by
 rw[Jw] at hj
 split at hj
 ·exact h j v hj
 ·simp at hj
end
def Hd(cs:List V)(fo n:Nat)(b:Bool):Option V:=if b then(if fo+n<=I cs then G (.agg ((cs.drop fo).take n)) else none) else cs[fo]?
theorem LO{M:cg}{cs:List V}{us:List yx}{fo n:Nat}{b:Bool}{x:V}(h:Hd cs fo n b=G x)(hr:repA M cs us)(hn:b=O->n=1):
  repC M x ((us.drop fo).take n)/\x.isAgg=b/\((us.drop fo).take n).length=n:=by
 have hl:=DI hr
 unfold Hd at h
 cases b with
 |true=>
  simp only[Jj] at h
  split at h
  ·simp at h;subst h
   refine⟨?_,rfl,by simp;omega⟩
   simp only[repC]
   exact JB (JC hr fo) n
  ·simp at h
 |false=>
  simp only[J6,if_false] at h
  obtain⟨u,hu,ha,hc⟩:=SE hr h
  obtain rfl:=hn rfl
  have:(us.drop fo).take 1=[u]:=by
   have hlt:fo<I us:=(HT.1 hu).1
   rw[Ih hlt,take_succ_cons,List.take_zero]
   rw[(HT.1 hu).2]
  rw[this]
  exact⟨hc,ha,rfl⟩
def D.toV:D->Option V
 |.v x=>G x
 |.acc _ xs=>G (.list xs)
 |_=>none
def ES:List D->Option (List V)
 |[]=>G []
 |d::ds=>match d.toV,ES ds with
  |some x,some xs=>G (x::xs)
  |_,_=>none
theorem JU{g:Gh}{d:D}{x:V}{u:yx}(h:d.toV=G x)(hr:Av g d u):repV g.M x u:=by
 cases d<;>simp[D.toV] at h<;>subst h
 ·simpa[Av] using hr
 ·simp only[Av] at hr;exact hr.1
theorem Hx{g:Gh}:∀{ds:List D} {xs:List V} {us:List yx},ES ds=G xs->Ar g ds us->(∀c∈ds,c.one=J)->repA g.M xs us
 |[],xs,us,h,hr,_=>by simp[ES] at h;subst h;simpa[Ar,repA] using hr
 |d::ds,xs,us,h,hr,h1=>by
  simp only[ES] at h
  split at h
  ·rename_i x xs' hx hxs
   simp at h;subst h
   simp only[Ar] at hr
   obtain⟨u,us',rfl,h2,h3⟩:=hr
   simp only[repA]
   have hxa:x.isAgg=O:=by
    have:=h1 d (by simp)
    cases d<;>simp[D.toV] at hx<;>subst hx<;>simp_all [D.one,V.isAgg]
   exact⟨u,us',rfl,hxa,(BV hxa).1 (JU hx h2),Hx hxs h3 (fun c hc=>h1 c (by simp[hc]))⟩
  ·simp at h
section
variable {P : x4} {o : yw} {σ : St} {d : D}
theorem Ex{E:co}{g:Gh}{w:yy}(hw:WI E g σ w){b off:Nat}{us:List yx}(h:eb g.M b off us):∀j v,us[j]?=G v->w.cell? ((⟨b,off,none⟩:Addr).add j)=G v:=fun j v hj=>by
 rw[Addr.add_lit];exact hw.rep.mem _ _ _ (h j v hj)
theorem Fm{t:yz}{a:x5}(ho:o.op=.load t a)(ht:Pp P t){x:V}(hx:x.isAgg=O):Ay P o [.v (.ref x)] σ (.v x) σ:=by
 refine AA fun E g ρ w hw hds=>?_
 simp only[ho,Op.operands,AH] at hds
 obtain⟨u,e,h1⟩:=hds
 simp at e
 simp only[Av,Dl] at h1
 obtain⟨b,off,us,rfl,hi,hr⟩:=h1
 obtain⟨u',rfl,hm,_⟩:=Dn hx hr
 have hc:w.cell? ⟨b,off,none⟩=G u':=by have:=hw.rep.mem _ _ _ (hi 0 u' (by simp));simpa using this
 refine⟨u',?_,by simp only[Av];exact(BV hx).2 hr⟩
 simp[execOp,ho,e,Instr.loadAt,Instr.sureAddr,loadVar,CX ht,hc]
theorem JD{t:yz}{a:x5}(ho:o.op=.load t a){cs:List V}(ht:Sf P t (I cs)):Ay P o [.v (.ref (.agg cs))] σ (.v (.agg cs)) σ:=by
 refine AA fun E g ρ w hw hds=>?_
 simp only[ho,Op.operands,AH] at hds
 obtain⟨u,e,h1⟩:=hds
 simp at e
 simp only[Av,Dl] at h1
 obtain⟨b,off,us,rfl,hi,hr⟩:=h1
 simp only[repC] at hr
 have hl:=DI hr
 have hld:=run_loadCells_list (P:=P) w ⟨b,off,none⟩ us (Ex hw hi)
 rw[hl] at hld
 refine⟨.agg us.toArray,?_,by simp only[Av,CF];exact⟨us,hr,rfl⟩⟩
 simp[execOp,ho,e,Instr.loadAt,Instr.sureAddr,loadVar,CX ht,cd ht,hld]
theorem XV{t:yz}{a:x5}(ho:o.op=.load t a)(ht:Pp P t){q off:Nat}{cs:List D}(hH:σ.H[q]?=G (G cs))(hc:cs[off]?=G d):Ay P o [.ptr q off] σ d σ:=by
 refine AA fun E g ρ w hw hds=>?_
 simp only[ho,Op.operands,AH] at hds
 obtain⟨u,e,h1⟩:=hds
 simp at e
 simp only[Av] at h1
 obtain⟨_,rfl⟩:=h1
 obtain⟨us,rest,et,hb,hr,_,_⟩:=hw.rep.obj q cs hH
 obtain⟨u',hu,hd⟩:=BL hr hc
 have hcell:w.cell? ⟨g.β q,off,none⟩=G u':=by simp only[World.cell?,hb,IW];exact Df hu
 refine⟨u',?_,hd⟩
 simp[execOp,ho,e,Instr.loadAt,Instr.sureAddr,loadVar,CX ht,hcell]
theorem Cu{g:Gh}:∀{cs:List D} {us:List yx},Ar g cs us->∀(n:Nat),Ar g (cs.drop n) (us.drop n)
 |[],us,h,n=>by simp only[Ar] at h;simp[h,Ar]
 |c0::cs,us,h,n=>by
  cases n with
  |zero=>simpa using h
  |succ n=>
   simp only[Ar] at h
   obtain⟨u,us',rfl,h1,h2⟩:=h
   simpa using Cu h2 n
theorem Cr{g:Gh}:∀{cs:List D} {us:List yx},Ar g cs us->∀(n:Nat),Ar g (cs.take n) (us.take n)
 |[],us,h,n=>by simp only[Ar] at h;simp[h,Ar]
 |c0::cs,us,h,n=>by
  cases n with
  |zero=>simp[Ar]
  |succ n=>
   simp only[Ar] at h
   obtain⟨u,us',rfl,h1,h2⟩:=h
   simp only[take_succ_cons,Ar]
   exact⟨u,_,rfl,h1,Cr h2 n⟩
theorem PZ{t:yz}{a:x5}(ho:o.op=.load t a){n:Nat}(ht:Sf P t n){q off:Nat}{cs:List D}(hH:σ.H[q]?=G (G cs)){xs:List V}
  (hn:off+n<=I cs) (hc:ES ((cs.drop off).take n)=G xs):Ay P o [.ptr q off] σ (.v (.agg xs)) σ:=by
 refine AA fun E g ρ w hw hds=>?_
 simp only[ho,Op.operands,AH] at hds
 obtain⟨u,e,h1⟩:=hds
 simp at e
 simp only[Av] at h1
 obtain⟨_,rfl⟩:=h1
 obtain⟨us,rest,et,hb,hr,h1,_⟩:=hw.rep.obj q cs hH
 have hra:=Hx hc (Cr (Cu hr off) n) (fun c hc'=>h1 c (II (Jr hc')))
 have hl:I us=I cs:=AF hr
 have hld:=run_loadCells_list (P:=P) w ⟨g.β q,off,none⟩ ((us.drop off).take n) (fun j v hj=>by
  rw[Jw] at hj
  split at hj
  ·rw[getElem?_drop] at hj
   rw[Addr.add_lit]
   simp only[World.cell?,hb,IW];exact Df hj
  ·simp at hj)
 have hlen:I ((us.drop off).take n)=n:=by simp;omega
 rw[hlen] at hld
 refine⟨.agg ((us.drop off).take n).toArray,?_,by simp only[Av,CF];exact⟨_,hra,rfl⟩⟩
 simp only[execOp,ho,e,Instr.loadAt,Instr.sureAddr,loadVar,Sem.run_bind,Sem.run_pure,Result.andThen_ok,CX ht,cd ht,hld,Jj]
theorem XZ{s:yz}{x:x5}{f:Nat}(ho:o.op=.fieldAddr s x f){fo n:Nat}{b:Bool}(hf:Qr P s f=G (fo,n,b))(hn:n≠0){q off:Nat}:Ay P o [.ptr q off] σ (.ptr q (off+fo)) σ:=by
 refine AA fun E g ρ w hw hds=>?_
 simp only[ho,Op.operands,AH] at hds
 obtain⟨u,e,h1⟩:=hds
 simp at e
 simp only[Av] at h1
 obtain⟨hq,rfl⟩:=h1
 obtain⟨fs,y,hs,hy,hoff,hz⟩:=HF hf
 refine⟨.pointer (G ⟨g.β q,off+fo,none⟩),?_,by simp[Av,hq]⟩
 simp[execOp,ho,e,Instr.fieldAt,run_underlying hs,hy,Instr.sureAddr,fieldPlace,cd hz,hn,Addr.add_lit,hoff]
theorem Fo{s:yz}{x:x5}{f:Nat}(ho:o.op=.fieldAddr s x f){fo n:Nat}{b:Bool}(hf:Qr P s f=G (fo,n,b))(hn:n≠0)(hn1:b=O->n=1){cs:List V}{y:V}(hp:Hd cs fo n b=G y):
  Ay P o [.v (.ref (.agg cs))] σ (.v (.ref y)) σ:=by
 refine AA fun E g ρ w hw hds=>?_
 simp only[ho,Op.operands,AH] at hds
 obtain⟨u,e,h1⟩:=hds
 simp at e
 simp only[Av,Dl] at h1
 obtain⟨bb,off,us,rfl,hi,hr⟩:=h1
 obtain⟨fs,z,hs,hy,hoff,hz⟩:=HF hf
 simp only[repC] at hr
 obtain⟨h3,_,_⟩:=LO hp hr hn1
 refine⟨.pointer (G ⟨bb,off+fo,none⟩),?_,by simp only[Av,Dl];exact⟨bb,off+fo,_,rfl,Ll (Lm hi fo) n,h3⟩⟩
 simp[execOp,ho,e,Instr.fieldAt,run_underlying hs,hy,Instr.sureAddr,fieldPlace,cd hz,hn,Addr.add_lit,hoff]
theorem S7{M:cg}{t:yz}{n:Nat}{b:Bool}(hz:D3 P t=G (n,b)){cs:List V}{us:List yx}{fo:Nat}{y:V}(hp:Hd cs fo n b=G y)(hr:repA M cs us)(hn1:b=O->n=1)(w:yy):
  ∃u,(part t us.toArray fo).run P w=.ok u w/\repV M y u:=by
 obtain⟨h3,ha,hl⟩:=LO hp hr hn1
 cases b with
 |true=>
  refine⟨.agg ((us.drop fo).take n).toArray,?_,?_⟩
  ·simp only[part,Sem.run_bind,CX hz,cd hz,Result.andThen_ok,Jj,Sem.run_pure]
   congr 2
   apply IV
   simp[List.extract_eq_take_drop]
  ·cases y with
   |agg cs'=>simp only[CF];exact⟨_,by simpa only[repC] using h3,rfl⟩
   |_=>simp[V.isAgg] at ha
 |false=>
  obtain⟨u,e1,_,_⟩:=Dn ha h3
  obtain rfl:=hn1 rfl
  have hu:us[fo]?=G u:=by
   have:((us.drop fo).take 1)[0]?=G u:=by rw[e1];rfl
   simpa using this
  refine⟨u,?_,(BV ha).2 (by rw[←e1];exact h3)⟩
  simp[part,CX hz,hu]
theorem AbE{s:yz}{x:x5}{f:Nat}(ho:o.op=.field s x f){fo n:Nat}{b:Bool}(hf:Qr P s f=G (fo,n,b))(hn1:b=O->n=1){cs:List V}{y:V}(hp:Hd cs fo n b=G y):
  Ay P o [.v (.agg cs)] σ (.v y) σ:=by
 refine AA fun E g ρ w hw hds=>?_
 simp only[ho,Op.operands,AH] at hds
 obtain⟨u,e,h1⟩:=hds
 simp at e
 simp only[Av,CF] at h1
 obtain⟨us,hr,rfl⟩:=h1
 obtain⟨fs,z,hs,hy,hoff,hz⟩:=HF hf
 obtain⟨v,hrun,hv⟩:=S7 hz hp hr hn1 w
 refine⟨v,?_,by simpa only[Av] using hv⟩
 simp only[execOp,ho,e,Instr.field,Sem.run_bind,run_underlying hs,Result.andThen_ok,hy,asAgg,Sem.run_pure,hoff,hrun]
theorem Afw{t:yz}{x ix:x5}(ho:o.op=.indexAddr t x ix){e:yz}{sz by':Nat}{z:Option yx}(hs:Ce P t=G (e,sz,by',z)){xs:List V}{y:V}{k:yt}{i:Int}(h0:0<=i)
  (hx:xs[i.toNat]?=G y) (hy:y.size=sz):Ay P o [.v (.list xs),.v (.int k i)] σ (.v (.ref y)) σ:=by
 refine AA fun E g ρ w hw hds=>?_
 simp only[ho,Op.operands,A8] at hds
 obtain⟨u,v,eq,h1,h2⟩:=hds
 simp only[Iu,IP,Ie,I6] at eq
 obtain⟨e1,e2⟩:=eq
 simp only[Av,AM,B3] at h1 h2
 subst h2
 obtain⟨a,cap,rfl,hc,h1⟩:=h1
 have hlt:i.toNat<I xs:=(HT.1 hx).1
 rcases h1 with rfl|⟨b,off,sz',us,rfl,hsz,hi,hr⟩
 ·simp at hlt
 obtain⟨inf,hu,hinf,hsize,_,_⟩:=AK hs
 obtain⟨u1,hc1,hl1,hg⟩:=NU hr hx
 have hss:sz'=sz:=by rw[←hl1,FL hc1,hy]
 subst hss
 refine⟨.pointer (G ⟨b,off+i.toNat*sz',none⟩),?_,?_⟩
 ·have hlt':i<(I xs:Int):=by omega
  simp[execOp,ho,e1,e2,Instr.indexAt,asIntOf,run_underlying hu,h0,hlt',sizeOf,typeInfo,hinf,hsize,Addr.add_lit]
 ·simp only[Av,Dl]
  refine⟨b,_,u1,rfl,fun j v hj=>?_,hc1⟩
  have:=hi _ v (hg j v hj)
  rw[Nat.add_assoc];exact this
theorem Afx{t:yz}{x ix:x5}(ho:o.op=.indexAddr t x ix){e:yz}{sz by':Nat}{z:Option yx}(hs:Ce P t=G (e,sz,by',z)){q off len:Nat}{k:yt}{i:Int}(h0:0<=i)(h1:i<len):
  Ay P o [.arr q off len,.v (.int k i)] σ (.ptr q (off+i.toNat*sz)) σ:=by
 refine AA fun E g ρ w hw hds=>?_
 simp only[ho,Op.operands,A8] at hds
 obtain⟨u,v,eq,h1',h2⟩:=hds
 simp only[Iu,IP,Ie,I6] at eq
 obtain⟨e1,e2⟩:=eq
 simp only[Av,AM] at h1' h2
 subst h2
 obtain⟨hq,cap,hc,rfl⟩:=h1'
 obtain⟨inf,hu,hinf,hsize,_,_⟩:=AK hs
 refine⟨.pointer (G ⟨g.β q,off+i.toNat*sz,none⟩),?_,by simp[Av,hq]⟩
 simp[execOp,ho,e1,e2,Instr.indexAt,asIntOf,run_underlying hu,h0,h1,sizeOf,typeInfo,hinf,hsize,Addr.add_lit]
theorem AbD{t:yz}{x ix:x5}(ho:o.op=.indexAddr t x ix){len sz:Nat}{b:Bool}(hs:km P t=G (len,sz,b)){q off:Nat}{k:yt}{i:Int}(h0:0<=i)(h1:i<len):
  Ay P o [.ptr q off,.v (.int k i)] σ (.ptr q (off+i.toNat*sz)) σ:=by
 refine AA fun E g ρ w hw hds=>?_
 simp only[ho,Op.operands,A8] at hds
 obtain⟨u,v,eq,h1',h2⟩:=hds
 simp only[Iu,IP,Ie,I6] at eq
 obtain⟨e1,e2⟩:=eq
 simp only[Av,AM] at h1' h2
 subst h2
 obtain⟨hq,rfl⟩:=h1'
 obtain⟨e,hu,hz⟩:=KE hs
 refine⟨.pointer (G ⟨g.β q,off+i.toNat*sz,none⟩),?_,by simp[Av,hq]⟩
 simp[execOp,ho,e1,e2,Instr.indexAt,asIntOf,run_underlying hu,h0,h1,cd hz,Addr.add_lit,Instr.sureAddr]
theorem AbC{t:yz}{x ix:x5}(ho:o.op=.indexAddr t x ix){len sz:Nat}{b:Bool}(hs:km P t=G (len,sz,b))(hn1:b=O->sz=1){cs:List V}{y:V}{k:yt}{i:Int}(h0:0<=i)(h1:i<len)
  (hp:Hd cs (i.toNat*sz) sz b=G y):Ay P o [.v (.ref (.agg cs)),.v (.int k i)] σ (.v (.ref y)) σ:=by
 refine AA fun E g ρ w hw hds=>?_
 simp only[ho,Op.operands,A8] at hds
 obtain⟨u,v,eq,h1',h2⟩:=hds
 simp only[Iu,IP,Ie,I6] at eq
 obtain⟨e1,e2⟩:=eq
 simp only[Av,AM,Dl] at h1' h2
 subst h2
 obtain⟨bb,off,us,rfl,hi,hr⟩:=h1'
 obtain⟨e,hu,hz⟩:=KE hs
 simp only[repC] at hr
 obtain⟨h3,_,_⟩:=LO hp hr hn1
 refine⟨.pointer (G ⟨bb,off+i.toNat*sz,none⟩),?_,by simp only[Av,Dl];exact⟨bb,_,_,rfl,Ll (Lm hi _) sz,h3⟩⟩
 simp[execOp,ho,e1,e2,Instr.indexAt,asIntOf,run_underlying hu,h0,h1,cd hz,Addr.add_lit,Instr.sureAddr]
theorem XY{t:yz}{x ix:x5}(ho:o.op=.index t x ix)(ht:P.underlying t=G .string){s:List UInt8}{k:yt}{i:Int}{c:UInt8}(h0:0<=i)(hc:s[i.toNat]?=G c):
  Ay P o [.v (.str s),.v (.int k i)] σ (.v (.int .u8 c.toNat)) σ:=by
 refine AA fun E g ρ w hw hds=>?_
 simp only[ho,Op.operands,A8] at hds
 obtain⟨u,v,eq,h1',h2⟩:=hds
 simp only[Iu,IP,Ie,I6] at eq
 obtain⟨e1,e2⟩:=eq
 simp only[Av,AM,CU] at h1' h2
 subst h1' h2
 refine⟨.int .u8 c.toNat,?_,by simp[Av]⟩
 have hlt:i.toNat<I s:=(HT.1 hc).1
 have hb:(⟨s.toArray⟩:ByteArray)[i.toNat]?=G c:=by
  rw[getElem?_pos _ _ (by rw[Rr];exact hlt)]
  have:=(HT.1 hc).2
  simp only[I1]
  rw[←this];rfl
 simp[execOp,ho,e1,e2,Instr.index,asIntOf,run_underlying ht,h0,hb]
theorem Afv{t:yz}{x ix:x5}(ho:o.op=.index t x ix){len sz:Nat}{b:Bool}(hs:km P t=G (len,sz,b))(hn1:b=O->sz=1){cs:List V}{y:V}{k:yt}{i:Int}(h0:0<=i)(h1:i<len)
  (hp:Hd cs (i.toNat*sz) sz b=G y):Ay P o [.v (.agg cs),.v (.int k i)] σ (.v y) σ:=by
 refine AA fun E g ρ w hw hds=>?_
 simp only[ho,Op.operands,A8] at hds
 obtain⟨u,v,eq,h1',h2⟩:=hds
 simp only[Iu,IP,Ie,I6] at eq
 obtain⟨e1,e2⟩:=eq
 simp only[Av,AM,CF] at h1' h2
 subst h2
 obtain⟨us,hr,rfl⟩:=h1'
 obtain⟨e,hu,hz⟩:=KE hs
 obtain⟨v,hrun,hv⟩:=S7 hz hp hr hn1 w
 refine⟨v,?_,by simpa only[Av] using hv⟩
 simp[execOp,ho,e1,e2,Instr.index,asIntOf,run_underlying hu,h0,h1,cd hz,hrun]
end
theorem WI.update{E:co}{g g':Gh}{σ σ':St}{w w':yy}(hw:WI E g σ w)(X:Nat->Prop)(hX:∀b,X b->E.w.heap.size<=b∨E.priv b)
  (keep:∀b,b<w.heap.size->¬X b->w'.heap[b]?=w.heap[b]?/\∀o,g'.M b o=g.M b o)
  (hle:g.M.le g'.M) (hn:g.n<=g'.n) (hβ:∀o,o<g.n->g'.β o=g.β o) (hκ:∀o,o<g.n->g'.κ o=g.κ o) (size:w.heap.size<=w'.heap.size) (os:w'.os=w.os) (tape:w'.tape=w.tape) (output:w'.output=w.output)
  (rep:c8 g' σ' w') (objs:∀i cs,σ'.H[i]?=G (G cs)->E.w.heap.size<=g'.β i∨E.priv (g'.β i))
  (owns:∀x∈σ'.own,∀u,g'.ι x.1 (I x.2.2)=G u->∀b,Cn u=G b->E.w.heap.size<=b∨E.priv b)
  (drawn:BO w.drawn w'.drawn:=by first|exact BO.refl _|exact BO.succ _|assumption):WI E g' σ' w' where
 rep:=rep
 M:=cg.le_trans hw.M hle
 size:=IN hw.size size
 keep:=fun b hb hp=>by
  have hnx:¬X b:=fun hx=>by
   rcases hX b hx with h|h
   ·omega
   ·exact hp h
  obtain⟨h1,h2⟩:=keep b (Ju hb hw.size) hnx
  obtain⟨h3,h4⟩:=hw.keep b hb hp
  exact⟨h1.trans h3,fun o=>(h2 o).trans (h4 o)⟩
 os:=os.trans hw.os
 tape:=tape.trans hw.tape
 output:=output.trans hw.output
 nE:=IN hw.nE hn
 βE:=fun o ho=>(hβ o (Ju ho hw.nE)).trans (hw.βE o ho)
 κE:=fun o ho=>(hκ o (Ju ho hw.nE)).trans (hw.κE o ho)
 objs:=objs
 owns:=owns
 drawn:=hw.drawn.trans drawn
theorem GR{w:yy}{b:Nat}{o:Obj}(h:w.heap[b]?=G o):b<w.heap.size:=(IM.1 h).1
theorem c8.mem_lt{g:Gh}{σ:St}{w:yy}(h:c8 g σ w){b o:Nat}{v:yx}(hm:g.M b o=G v):b<w.heap.size:=
 World.block_lt_of_cell? w ⟨b,o,none⟩ (h.mem b o v hm)
theorem c8.new_none{g:Gh}{σ:St}{w:yy}(h:c8 g σ w){b:Nat}(hb:w.heap.size<=b)(o:Nat):g.M b o=none:=by
 cases e:g.M b o with
 |none=>rfl
 |some v=>have:=h.mem_lt e;omega
theorem c8.own_lt{g:Gh}{σ:St}{w:yy}(h:c8 g σ w){x:Nat×Nat×List V}(hx:x∈σ.own){u:yx}(hu:g.ι x.1 (I x.2.2)=G u){b:Nat}(hb:Cn u=G b):b<w.heap.size:=by
 obtain⟨_,u',hu',_,hp,_⟩:=h.own x.1 x.2.1 x.2.2 hx
 rw[hu] at hu'
 obtain rfl:u=u':=by simpa using hu'
 rcases hp with⟨a,rfl⟩|⟨b',f,len,cap,cur,e,rfl,hh,_⟩
 ·cases a<;>simp[Cn] at hb
 ·simp only[Cn] at hb
  split at hb
  ·simp at hb
  ·simp at hb;subst hb;exact GR hh
theorem c8.obj_lt{g:Gh}{σ:St}{w:yy}(h:c8 g σ w){i:Nat}{cs:List D}(hi:σ.H[i]?=G (G cs)):g.β i<w.heap.size:=by
 obtain⟨us,rest,e,hb,_⟩:=h.obj i cs hi
 exact GR hb
theorem c8.lt_n{g:Gh}{σ:St}{w:yy}(h:c8 g σ w){i:Nat}{cs:List D}(hi:σ.H[i]?=G (G cs)):i<g.n:=by
 rw[h.n];exact(HT.1 hi).1
theorem Perm.kept{M M':cg}{w w':yy}{sz:Nat}{u:yx}(h:Perm M w sz u)(hk:∀b,Cn u=G b->w'.heap[b]?=w.heap[b]?/\∀o,M' b o=M b o):Perm M' w' sz u:=by
 rcases h with⟨a,rfl⟩|⟨b,f,len,cap,cur,e,rfl,hh,hl,hc,hM⟩
 ·exact .inl ⟨a,rfl⟩
 ·by_cases h0:cap=0
  ·subst h0
   obtain rfl:len=0:=by omega
   exact .inl ⟨_,rfl⟩
  ·obtain⟨h1,h2⟩:=hk b (by simp[Cn,h0])
   exact .inr ⟨b,f,len,cap,cur,e,rfl,h1.trans hh,hl,hc,fun o ho=>(h2 o).trans (hM o ho),hM.ng⟩
theorem c8.obj_ng{g:Gh}{σ:St}{w:yy}(h:c8 g σ w){i:Nat}{cs:List D}(hi:σ.H[i]?=G (G cs)):∀p∈G8,p.1≠g.β i:=fun p hp e=>by
 obtain⟨v,hv⟩:=h.gl.sized p hp
 obtain⟨_,_,_,_,_,_,hM,_⟩:=h.obj i cs hi
 rw[e,hM 0] at hv;simp at hv
theorem Perm.ng{M:cg}{w:yy}{sz:Nat}{u:yx}(h:Perm M w sz u){b:Nat}(hb:Cn u=G b):∀p∈G8,p.1≠b:=by
 rcases h with⟨a,rfl⟩|⟨b',f,len,cap,cur,e,rfl,_,_,_,hM⟩
 ·cases a<;>simp[Cn] at hb
 ·simp only[Cn] at hb
  split at hb
  ·simp at hb
  ·simp at hb;subst hb;exact hM.ng
theorem c8.own_ng{g:Gh}{σ:St}{w:yy}(h:c8 g σ w){k sz:Nat}{xs:List V}(hx:(k,sz,xs)∈σ.own){u:yx}(hu:g.ι k (I xs)=G u){b:Nat}(hb:Cn u=G b):∀p∈G8,p.1≠b:=by
 obtain⟨_,u',hu',_,hp,_⟩:=h.own k sz xs hx
 rw[hu] at hu';simp at hu';subst hu'
 exact hp.ng hb
theorem GW.lt{w:yy}(h:GW w){p:Nat×Nat}(hp:p∈G8):p.1<w.heap.size:=by
 obtain⟨cs,e,x,h1,_⟩:=h p hp
 exact(IM.1 h1).1
theorem GW.new{w:yy}(h:GW w){b:Nat}(hb:w.heap.size<=b):∀p∈G8,p.1≠b:=fun p hp e=>by have:=h.lt hp;omega
theorem c8.grow{g:Gh}{σ:St}{w w':yy}(h:c8 g σ w){M':cg}(hle:g.M.le M')(keep:∀b,b<w.heap.size->w'.heap[b]?=w.heap[b]?/\∀o,M' b o=g.M b o)
  (mem:∀b o v,M' b o=G v->w'.cell? ⟨b,o,none⟩=G v):c8 { g with M:=M' } σ w':=by
 have hg:g.le { g with M:=M' }:=⟨hle,HX _,fun _ _=>rfl,fun _ _ _ h=>h,fun _ _=>rfl⟩
 refine⟨h.n,mem,fun i cs hi=>?_,h.inj,fun k sz xs hx=>?_,h.tags,h.sep,h.ownObj,h.fresh,h.gl.mono hle,h.gw.keep fun b hb=>(keep b hb).1⟩
 ·obtain⟨us,rest,e,hb,hr,h1,hM,hκ⟩:=h.obj i cs hi
  obtain⟨k1,k2⟩:=keep _ (GR hb)
  exact⟨us,rest,e,k1.trans hb,Ar.mono hg _ _ hr,h1,fun o=>(k2 o).trans (hM o),hκ⟩
 ·obtain⟨h0,u,hu,hr,hp,hf⟩:=h.own k sz xs hx
  exact⟨h0,u,hu,hr.mono hle,hp.kept fun b hb=>keep b (h.own_lt hx hu hb),hf⟩
theorem WI.grow{E:co}{g:Gh}{σ:St}{w w':yy}(hw:WI E g σ w){M':cg}(hle:g.M.le M')(keep:∀b,b<w.heap.size->w'.heap[b]?=w.heap[b]?/\∀o,M' b o=g.M b o)
  (mem:∀b o v,M' b o=G v->w'.cell? ⟨b,o,none⟩=G v) (size:w.heap.size<=w'.heap.size) (os:w'.os=w.os) (tape:w'.tape=w.tape) (output:w'.output=w.output) (drawn:BO w.drawn w'.drawn:=by first|exact BO.refl _|exact BO.succ _|assumption):WI E { g with M:=M' } σ w':=
 hw.update (fun _=>False) (fun _ h=>h.elim) (fun b hb _=>keep b hb) hle (HX _) (fun _ _=>rfl) (fun _ _=>rfl) size os tape output (hw.rep.grow hle keep mem) hw.objs hw.owns
theorem Nw(w:yy)(o:Obj){b i:Nat}{v:yx}(h:w.cell? ⟨b,i,none⟩=G v):(w.alloc o).cell? ⟨b,i,none⟩=G v:=by
 rw[World.cell?_alloc_lt w o _ (World.block_lt_of_cell? w _ h)];exact h
theorem WI.alloc{E:co}{g:Gh}{σ:St}{w:yy}(hw:WI E g σ w)(o:Obj):WI E g σ (w.alloc o):=by
 have:=hw.grow (w':=w.alloc o) (M':=g.M) (cg.le_refl _) (fun b hb=>⟨heap_alloc_old w o b hb,fun _=>rfl⟩) (fun b i v h=>Nw w o (hw.rep.mem b i v h)) (by simp) rfl rfl rfl
 exact this
theorem WI.drew{E:co}{g:Gh}{σ:St}{w:yy}(hw:WI E g σ w):WI E g σ w.drew:=by
 have:=hw.grow (w':=w.drew) (M':=g.M) (cg.le_refl _) (fun b hb=>⟨rfl,fun _=>rfl⟩) (fun b i v h=>hw.rep.mem b i v h) (HX _) rfl rfl rfl
 exact this
theorem WI.addObj{E:co}{g:Gh}{σ:St}{w:yy}(hw:WI E g σ w){b:Nat}{us rest:List yx}{e:yz}{cs:List D}(hb:w.heap[b]?=G (.cells (us++rest).toArray e (0,0)))(hE:E.w.heap.size<=b∨E.priv b)(hM:∀o,g.M b o=none)
  (hno:∀i cs,σ.H[i]?=G (G cs)->g.β i≠b) (hown:∀x∈σ.own,∀u,g.ι x.1 (I x.2.2)=G u->Cn u≠G b) (hr:Ar g cs us) (h1:∀c∈cs,c.one=J):
  WI E { g with n:=g.n+1,β:=fun o=>if o=g.n then b else g.β o,κ:=fun o=>if o=g.n then(us++rest).length else g.κ o } ⟨σ.H++[G cs],σ.own⟩ w/\g.le { g with n:=g.n+1,β:=fun o=>if o=g.n then b else g.β o,κ:=fun o=>if o=g.n then(us++rest).length else g.κ o }:=by
 have hle:g.le { g with n:=g.n+1,β:=fun o=>if o=g.n then b else g.β o,κ:=fun o=>if o=g.n then(us++rest).length else g.κ o }:=⟨cg.le_refl _,Nat.le_succ _,fun o ho=>Ij (by omega),fun _ _ _ h=>h,fun o ho=>Ij (by omega)⟩
 have split:∀i cs',(σ.H++[G cs])[i]?=G (G cs')->(σ.H[i]?=G (G cs')/\i<g.n)∨(i=g.n/\cs'=cs):=by
  intro i cs' hi
  by_cases hlt:i<I σ.H
  ·rw[Ip hlt] at hi
   exact .inl ⟨hi,by rw[hw.rep.n];exact hlt⟩
  ·rw[Il (by omega)] at hi
   have:i-I σ.H=0:=by
    cases hk:i-I σ.H with
    |zero=>rfl
    |succ k=>simp[hk] at hi
   rw[this] at hi
   simp at hi
   exact .inr ⟨by rw[hw.rep.n];omega,hi.symm⟩
 refine⟨hw.update (fun _=>False) (fun _ h=>h.elim) (fun _ _ _=>⟨rfl,fun _=>rfl⟩) (cg.le_refl _) (Nat.le_succ _) (fun o ho=>Ij (by omega)) (fun o ho=>Ij (by omega)) (HX _) rfl rfl rfl ?_ ?_ hw.owns,hle⟩
 ·refine⟨by simp[hw.rep.n],hw.rep.mem,fun i cs' hi=>?_,fun i j cs1 cs2 hi hj hij=>?_,hw.rep.own,hw.rep.tags,hw.rep.sep,fun x hx u hu b' hb' i cs' hi=>?_,hw.rep.fresh,hw.rep.gl,hw.rep.gw⟩
  ·rcases split i cs' hi with⟨h,hlt⟩|⟨rfl,rfl⟩
   ·obtain⟨us',rest',e',h2,h3,h4,h5,h6⟩:=hw.rep.obj i cs' h
    have hne:(if i=g.n then b else g.β i)=g.β i:=Ij (by omega)
    refine⟨us',rest',e',?_,Ar.mono hle _ _ h3,h4,?_,?_⟩
    ·simp only[hne];exact h2
    ·simp only[hne];exact h5
    ·simp only[Ij (show ¬i=g.n by omega)];exact h6
   ·refine⟨us,rest,e,?_,Ar.mono hle _ _ hr,h1,?_,?_⟩
    ·simp only[Jj];exact hb
    ·simp only[Jj];exact hM
    ·simp only[Jj]
  ·rcases split i cs1 hi with⟨h,hlt⟩|⟨rfl,rfl⟩<;>rcases split j cs2 hj with⟨h',hlt'⟩|⟨rfl,rfl⟩
   ·simp only[Ij (show ¬i=g.n by omega),Ij (show ¬j=g.n by omega)] at hij
    exact hw.rep.inj i j _ _ h h' hij
   ·simp only[Ij (show ¬i=g.n by omega),Jj] at hij
    exact absurd hij (hno i _ h)
   ·simp only[Ij (show ¬j=g.n by omega),Jj] at hij
    exact absurd hij.symm (hno j _ h')
   ·rfl
  ·rcases split i cs' hi with⟨h,hlt⟩|⟨rfl,rfl⟩
   ·simp only[Ij (show ¬i=g.n by omega)]
    exact hw.rep.ownObj x hx u hu b' hb' i cs' h
   ·simp only[Jj]
    intro e;subst e
    exact hown x hx u hu hb'
 ·intro i cs' hi
  rcases split i cs' hi with⟨h,hlt⟩|⟨rfl,rfl⟩
  ·simp only[Ij (show ¬i=g.n by omega)];exact hw.objs i cs' h
  ·simp only[Jj];exact hE
theorem WI.addOwn{E:co}{g:Gh}{σ:St}{w:yy}(hw:WI E g σ w){k sz:Nat}{xs:List V}{u:yx}(hk:∀x∈σ.own,x.1≠k)(hsz:0<sz/\∀x∈xs,x.size=sz)(hr:repV g.M (.list xs) u)(hp:Perm g.M w sz u)
  (hb:∀b,Cn u=G b->E.w.heap.size<=b/\(∀i cs,σ.H[i]?=G (G cs)->g.β i≠b)/\∀x∈σ.own,∀u',g.ι x.1 (I x.2.2)=G u'->Cn u'≠G b):
  WI E { g with ι:=fun k' m=>if k'=k then(if m=I xs then G u else none) else g.ι k' m } ⟨σ.H,(k,sz,xs)::σ.own⟩ w/\
  g.le { g with ι:=fun k' m=>if k'=k then(if m=I xs then G u else none) else g.ι k' m }:=by
 have hle:g.le { g with ι:=fun k' m=>if k'=k then(if m=I xs then G u else none) else g.ι k' m }:=by
  refine⟨cg.le_refl _,HX _,fun _ _=>rfl,fun k' m u' h=>?_,fun _ _=>rfl⟩
  by_cases e:k'=k
  ·subst e;rw[hw.rep.fresh k' hk m] at h;simp at h
  ·simp only[Ij e];exact h
 have hold:∀x∈σ.own,(if x.1=k then(if I x.2.2=I xs then G u else none) else g.ι x.1 (I x.2.2))=g.ι x.1 (I x.2.2):=fun x hx=>Ij (hk x hx)
 refine⟨hw.update (fun _=>False) (fun _ h=>h.elim) (fun _ _ _=>⟨rfl,fun _=>rfl⟩) (cg.le_refl _) (HX _) (fun _ _=>rfl) (fun _ _=>rfl) (HX _) rfl rfl rfl ?_ hw.objs ?_,hle⟩
 ·refine⟨hw.rep.n,hw.rep.mem,fun i cs hi=>?_,hw.rep.inj,fun k' sz' xs' hx=>?_,?_,fun x hx y hy hne u1 u2 h1 h2 b hb1=>?_,fun x hx u1 h1 b hb1 i cs hi=>?_,fun k' hk' m=>?_,hw.rep.gl,hw.rep.gw⟩
  ·obtain⟨us,rest,e,h2,h3,h4,h5⟩:=hw.rep.obj i cs hi
   exact⟨us,rest,e,h2,Ar.mono hle _ _ h3,h4,h5⟩
  ·rcases I8.1 hx with e|hx
   ·simp only[Prod.mk.injEq] at e
    obtain⟨rfl,rfl,rfl⟩:=e
    refine⟨hsz,u,by simp,hr,hp,fun m hm=>?_⟩
    simp only[Jj];exact Ij (by omega)
   ·obtain⟨h0,u',hu,h3,h4,h5⟩:=hw.rep.own k' sz' xs' hx
    have hne:¬k'=k:=hk _ hx
    refine⟨h0,u',by simp only[Ij hne];exact hu,h3,h4,fun m hm=>by simp only[Ij hne];exact h5 m hm⟩
  ·simp only[Iu,List.nodup_cons]
   refine⟨fun h=>?_,hw.rep.tags⟩
   obtain⟨x,hx,e⟩:=IA.1 h
   exact hk x hx e
  ·rcases I8.1 hx with rfl|hx<;>rcases I8.1 hy with rfl|hy
   ·exact absurd rfl hne
   ·simp at h1;subst h1
    have h2':g.ι y.1 (I y.2.2)=G u2:=(hold y hy).symm.trans h2
    exact(hb b hb1).2.2 y hy u2 h2'
   ·simp at h2;subst h2
    have h1':g.ι x.1 (I x.2.2)=G u1:=(hold x hx).symm.trans h1
    intro hb2
    exact(hb b hb2).2.2 x hx u1 h1' hb1
   ·exact hw.rep.sep x hx y hy hne u1 u2 ((hold x hx).symm.trans h1) ((hold y hy).symm.trans h2) b hb1
  ·rcases I8.1 hx with rfl|hx
   ·simp at h1;subst h1
    exact(hb b hb1).2.1 i cs hi
   ·exact hw.rep.ownObj x hx u1 ((hold x hx).symm.trans h1) b hb1 i cs hi
  ·have hne:¬k'=k:=fun e=>hk' (k,sz,xs) (by simp) e.symm
   simp only[Ij hne]
   exact hw.rep.fresh k' (fun x hx=>hk' x (by simp[hx])) m
 ·intro x hx u1 h1 b hb1
  rcases I8.1 hx with rfl|hx
  ·simp at h1;subst h1
   exact .inl (hb b hb1).1
  ·exact hw.owns x hx u1 ((hold x hx).symm.trans h1) b hb1
def BK:D->List D
 |.v (.agg xs)=>xs.map .v
 |.dagg cs=>cs
 |d=>[d]
def D.sto:D->Bool
 |.v _|.acc .. |.ptr .. |.arr .. |.gro .. |.dfn .. =>true
 |.dagg cs=>cs.all D.one
 |.raw x=>x.oneCell'
 |.rv x _=> !x.isAgg
 |_=>false
theorem D9{g:Gh}:∀{xs:List V} {us:List yx},repA g.M xs us->Ar g (xs.map .v) us/\∀c∈xs.map bt,c.one=J
 |[],us,h=>by simp only[repA] at h;simp[h,Ar]
 |x::xs,us,h=>by
  simp only[repA] at h
  obtain⟨u,us',rfl,ha,h1,h2⟩:=h
  obtain⟨h3,h4⟩:=D9 h2
  refine⟨?_,?_⟩
  ·simp only[Iu,Ar,Av]
   exact⟨u,us',rfl,(BV ha).2 h1,h3⟩
  ·intro c hc
   simp only[Iu,I8] at hc
   rcases hc with rfl|hc
   ·simp[D.one,ha]
   ·exact h4 c hc
theorem QG{u:yx}(h:u.oneCell'=J):u.cells= #[u]:=by cases u<;>simp_all [Value.cells,Value.oneCell']
theorem EV{g:Gh}{d:D}{u:yx}(h1:d.one=J)(h:Av g d u):u.oneCell'=J:=by
 cases d with
 |v x=>simp only[Av] at h;exact Du (by simpa[D.one] using h1) h
 |acc k xs=>simp only[Av] at h;exact Du (x:=.list xs) rfl h.1
 |ptr q off=>simp only[Av] at h;rw[h.2];rfl
 |arr q off len=>simp only[Av] at h;obtain⟨_,cap,_,rfl⟩:=h;rfl
 |gro q len sz=>simp only[Av] at h;obtain⟨_,cap,_,_,rfl⟩:=h;rfl
 |dfn f fs cs=>simp only[Av] at h;obtain⟨us,vs,rfl,_⟩:=h;rfl
 |raw x=>simp only[Av] at h;subst h;simpa[D.one] using h1
 |rv x u0=>simp only[Av] at h;rw[h.1];exact Du (by simpa[D.one] using h1) h.2
 |dagg cs=>simp[D.one] at h1
 |tup ds=>simp[D.one] at h1
 |err=>simp[D.one] at h1
 |undef=>simp[D.one] at h1
theorem Ct{g:Gh}:∀{cs:List D} {us:List yx},(∀c∈cs,c.one=J)->Ar g cs us->∀u∈us,u.oneCell'=J
 |[],us,_,h=>by simp only[Ar] at h;simp[h]
 |c::cs,us,h1,h=>by
  simp only[Ar] at h
  obtain⟨u,us',rfl,h2,h3⟩:=h
  intro x hx
  simp only[I8] at hx
  rcases hx with rfl|hx
  ·exact EV (h1 c (by simp)) h2
  ·exact Ct (fun c hc=>h1 c (by simp[hc])) h3 x hx
theorem cells_rep{g:Gh}{d:D}{u:yx}(hs:d.sto=J)(h:Av g d u):Ar g (BK d) u.cells.toList/\(∀c∈BK d,c.one=J)/\(∀x∈u.cells.toList,x.oneCell'=J):=by
 have one:d.one=J->u.oneCell'=J->BK d=[d]->Ar g (BK d) u.cells.toList/\(∀c∈BK d,c.one=J)/\(∀x∈u.cells.toList,x.oneCell'=J):=by
  intro h1 h2 h3
  rw[h3,QG h2]
  exact⟨AH.2 ⟨u,rfl,h⟩,by simp[h1],by simp[h2]⟩
 cases d with
 |v x=>
  cases hx:x.isAgg with
  |false=>exact one (by simp[D.one,hx]) (by simp only[Av] at h;exact Du hx h) (by cases x with|agg _=>simp[V.isAgg] at hx|_=>rfl)
  |true=>
   cases x with
   |agg cs=>
    simp only[Av,CF] at h
    obtain⟨ws,hr,rfl⟩:=h
    simp only[BK,Value.cells]
    obtain⟨h3,h4⟩:=D9 hr
    exact⟨h3,h4,GJ hr⟩
   |_=>simp[V.isAgg] at hx
 |acc k xs=>exact one rfl (by simp only[Av] at h;exact Du (x:=.list xs) rfl h.1) rfl
 |ptr q off=>exact one rfl (by simp only[Av] at h;rw[h.2];rfl) rfl
 |arr q off len=>exact one rfl (by simp only[Av] at h;obtain⟨_,cap,_,rfl⟩:=h;rfl) rfl
 |dfn f fs cs=>exact one rfl (by simp only[Av] at h;obtain⟨us,vs,rfl,_⟩:=h;rfl) rfl
 |gro q len sz=>exact one rfl (EV rfl h) rfl
 |rv x u0=>exact one (by simpa[D.sto,D.one] using hs) (EV (by simpa[D.sto,D.one] using hs) h) rfl
 |raw x=>exact one (by simpa[D.sto,D.one] using hs) (EV (by simpa[D.sto,D.one] using hs) h) rfl
 |dagg cs=>
  simp only[Av] at h
  obtain⟨us,rfl,hr⟩:=h
  have h1:∀c∈cs,c.one=J:=by simpa[D.sto] using hs
  simp only[BK,Value.cells]
  exact⟨hr,h1,Ct h1 hr⟩
 |tup ds=>simp[D.sto] at hs
 |err=>simp[D.sto] at hs
 |undef=>simp[D.sto] at hs
theorem WI.setObj{E:co}{g:Gh}{σ:St}{w w':yy}(hw:WI E g σ w){q:Nat}{cs cs':List D}(hq:σ.H[q]?=G (G cs)){us rest:List yx}{e:yz}(hb:w'.heap[g.β q]?=G (.cells (us++rest).toArray e (0,0)))(hκ:I (us++rest)=g.κ q)
  (hr:Ar g cs' us) (h1:∀c∈cs',c.one=J) (keep:∀b,b≠g.β q->w'.heap[b]?=w.heap[b]?) (size:w'.heap.size=w.heap.size) (os:w'.os=w.os) (tape:w'.tape=w.tape) (output:w'.output=w.output) (drawn:BO w.drawn w'.drawn:=by first|exact BO.refl _|exact BO.succ _|assumption):
  WI E g ⟨σ.H.set q (G cs'),σ.own⟩ w':=by
 have hMq:∀o,g.M (g.β q) o=none:=by obtain⟨_,_,_,_,_,_,h,_⟩:=hw.rep.obj q cs hq;exact h
 have split:∀(i:Nat) (cs1:List D),(σ.H.set q (G cs'))[i]?=G (G cs1)->(i=q/\cs1=cs')∨(i≠q/\σ.H[i]?=G (G cs1)):=by
  intro i cs1 hi
  rw[getElem?_set] at hi
  split at hi
  ·rename_i e;subst e
   split at hi
   ·simp at hi;exact .inl ⟨rfl,hi.symm⟩
   ·simp at hi
  ·rename_i e;exact .inr ⟨fun h=>e h.symm,hi⟩
 have live:∀(i:Nat) (cs1:List D),(σ.H.set q (G cs'))[i]?=G (G cs1)->∃cs2,σ.H[i]?=G (G cs2):=by
  intro i cs1 hi
  rcases split i cs1 hi with⟨rfl,_⟩|⟨_,h⟩
  ·exact⟨cs,hq⟩
  ·exact⟨_,h⟩
 refine hw.update (fun b=>b=g.β q) (fun b e=>by subst e;exact hw.objs q cs hq) (fun b _ hne=>⟨keep b hne,fun _=>rfl⟩) (cg.le_refl _) (HX _) (fun _ _=>rfl) (fun _ _=>rfl) (by omega) os tape output ?_ ?_ hw.owns
 ·refine⟨by simp[hw.rep.n],fun b o v hm=>?_,fun i cs1 hi=>?_,fun i j c1 c2 hi hj hij=>?_,fun k sz xs hx=>?_,hw.rep.tags,hw.rep.sep,fun x hx u hu b hb' i cs1 hi=>?_,hw.rep.fresh,hw.rep.gl,hw.rep.gw.mono fun b cs0 e0 x0 hb0=>by
   by_cases hbq:b=g.β q
   ·subst hbq
    obtain⟨us1,rest1,e1,h2,_,_,_,h3⟩:=hw.rep.obj q cs hq
    rw[h2] at hb0
    cases hb0
    exact⟨_,_,_,hb,by simp only[Jp];omega⟩
   ·exact⟨_,_,_,(keep b hbq).trans hb0,rfl⟩⟩
  ·have hne:b≠g.β q:=fun e=>by subst e;rw[hMq o] at hm;simp at hm
   have:=hw.rep.mem b o v hm
   simp only[World.cell?] at this⊢
   rw[keep b hne];exact this
  ·rcases split i cs1 hi with⟨rfl,rfl⟩|⟨hne,h⟩
   ·exact⟨us,rest,e,hb,hr,h1,hMq,hκ⟩
   ·obtain⟨us',rest',e',h2,h3,h4,h5⟩:=hw.rep.obj i cs1 h
    refine⟨us',rest',e',?_,h3,h4,h5⟩
    rw[keep _ (fun e=>hne (hw.rep.inj i q _ _ h hq e))];exact h2
  ·obtain⟨c3,h3⟩:=live i c1 hi
   obtain⟨c4,h4⟩:=live j c2 hj
   exact hw.rep.inj i j _ _ h3 h4 hij
  ·obtain⟨h0,u,hu,h3,h4,h5⟩:=hw.rep.own k sz xs hx
   refine⟨h0,u,hu,h3,h4.kept fun b hb'=>⟨keep b ?_,fun _=>rfl⟩,h5⟩
   exact fun e=>hw.rep.ownObj _ hx u hu b hb' q cs hq e.symm
  ·obtain⟨c3,h3⟩:=live i cs1 hi
   exact hw.rep.ownObj x hx u hu b hb' i c3 h3
 ·intro i cs1 hi
  obtain⟨c3,h3⟩:=live i cs1 hi
  exact hw.objs i c3 h3
section
variable {P : x4} {o : yw} {σ : St} {d : D}
theorem WI.newObj{E:co}{g:Gh}{w:yy}(hw:WI E g σ w){us:List yx}{cs:List D}(e:yz)(hr:Ar g cs us)(h1:∀c∈cs,c.one=J):
  ∃g',WI E g' ⟨σ.H++[G cs],σ.own⟩ (w.alloc (.cells us.toArray e))/\g.le g'/\g'.β (I σ.H)=w.heap.size/\g'.n=I σ.H+1:=by
 have h2:=(hw.alloc (.cells us.toArray e)).addObj (b:=w.heap.size) (us:=us) (rest:=[]) (e:=e) (cs:=cs) (by rw[IG];exact heap_alloc_new w _) (.inl hw.size) (hw.rep.new_none (HX _))
  (fun i cs hi=>Nat.ne_of_lt (hw.rep.obj_lt hi)) (fun x hx u hu hb=>by have:=hw.rep.own_lt hx hu hb;omega) hr h1
 exact⟨_,h2.1,h2.2,by simp[hw.rep.n],by simp[hw.rep.n]⟩
theorem Aib{e:yz}{x:x5}(ho:o.op=.box e x)(hs:d.sto=J):Ay P o [d] σ (.ptr (I σ.H) 0) ⟨σ.H++[G (BK d)],σ.own⟩:=by
 intro E g a w K Q hw hds hK
 simp only[ho,Op.operands,AH] at hds
 obtain⟨u,eu,hd⟩:=hds
 simp at eu
 obtain⟨h2,h3,_⟩:=cells_rep hs hd
 obtain⟨g',hw',hle,hβ,hn⟩:=hw.newObj e h2 h3
 have:=hK g' _ (.pointer (G ⟨w.heap.size,0,none⟩)) hw' hle (by simp only[Av];exact⟨by omega,by rw[hβ]⟩)
 unfold Oper.wp execOp
 simpa[ho,eu,Instr.box,newVar,newRow,Oper.upon] using this
def TO:yx->Option V
 |.int k n=>G (.int k n)
 |.bool b=>G (.bool b)
 |.string s=>G (.str s.data.toList)
 |.slice none 0 0=>G (.list [])
 |.nilFunc=>G .nilfn
 |.pointer none=>G .nilp
 |_=>none
def K6:List yx->Option (List V)
 |[]=>G []
 |u::us=>match TO u,K6 us with
  |some x,some xs=>G (x::xs)
  |_,_=>none
theorem Nq{M:cg}{u:yx}{x:V}(h:TO u=G x):x.isAgg=O/\repC M x [u]:=by
 unfold TO at h
 split at h<;>simp at h<;>subst h<;>simp[V.isAgg,repC]
theorem FV{M:cg}:∀{us:List yx} {xs:List V},K6 us=G xs->repA M xs us
 |[],xs,h=>by simp[K6] at h;subst h;simp[repA]
 |u::us,xs,h=>by
  simp only[K6] at h
  split at h
  ·rename_i x xs' h1 h2
   simp at h;subst h
   obtain⟨h3,h4⟩:=Nq (M:=M) h1
   simp only[repA]
   exact⟨u,us,rfl,h3,h4,FV h2⟩
  ·simp at h
def Wp(P:x4)(t:yz):Option (List V):=
 match (P.info? t).bind (·.zero) with
 |some z=>K6 z.cells.toList
 |none=>none
theorem Lv{t:yz}{xs:List V}(h:Wp P t=G xs):∃i z,P.info? t=G i/\i.zero=G z/\K6 z.cells.toList=G xs:=by
 unfold Wp at h
 split at h
 ·rename_i z hz
  cases hi:P.info? t with
  |none=>simp[hi] at hz
  |some i=>exact⟨i,z,rfl,by simpa[hi] using hz,h⟩
 ·simp at h
theorem Lj{t:yz}{x y:x5}(ho:o.op=.store t x y)(hs:d.sto=J){n:Nat}{b:Bool}(ht:D3 P t=G (n,b))(hn:I (BK d)=n){q off:Nat}{cs:List D}(hq:σ.H[q]?=G (G cs))(hoff:off+n<=I cs):
  Ay P o [.ptr q off,d] σ .undef ⟨σ.H.set q (G (cs.take off++BK d++cs.drop (off+n))),σ.own⟩:=by
 intro E g a w K Q hw hds hK
 simp only[ho,Op.operands,A8] at hds
 obtain⟨u,v,eq,h1,h2⟩:=hds
 simp only[Iu,IP,Ie,I6] at eq
 obtain⟨e1,e2⟩:=eq
 simp only[Av] at h1
 obtain⟨hlt,rfl⟩:=h1
 obtain⟨us,rest,e,hb,hr,hone,hM,hκ⟩:=hw.rep.obj q cs hq
 obtain⟨h3,h4,h5⟩:=cells_rep hs h2
 have hl:I us=I cs:=AF hr
 have hl2:I v.cells.toList=n:=by rw[AF h3,hn]
 have hst:=run_storeCells_at P (g.β q) off e v.cells.toList 0 (us++rest).toArray w hb (by simp only[Jp,Ig];omega) h5
 simp only[IQ,hl2] at hst
 rw[show(us++rest).take off++v.cells.toList++(us++rest).drop (off+n)=(us.take off++v.cells.toList++us.drop (off+n))++rest from by
  rw[J0 (by omega),List.drop_append_of_le_length (by omega)];simp] at hst
 have hw':=hw.setObj (cs':=cs.take off++BK d++cs.drop (off+n)) hq (us:=us.take off++v.cells.toList++us.drop (off+n)) (rest:=rest) (e:=e)
  (w':=w.setRow (g.β q) ((us.take off++v.cells.toList++us.drop (off+n))++rest).toArray) (setRow_heap w _ _ _ e _ hb) (by rw[←hκ];simp only[Ig,Iy,IY];omega)
  (A7 (A7 (Cr hr off) h3) (Cu hr (off+n)))
  (fun c hc=>by
   simp only[IE] at hc
   rcases hc with(hc|hc)|hc
   ·exact hone c (Jr hc)
   ·exact h4 c hc
   ·exact hone c (II hc))
  (fun b hb=>setRow_other w _ _ _ hb) (by simp) rfl rfl rfl
 have:=hK g _ undef hw' g.le_refl (by simp[Av])
 have hsz:v.cells.size=n:=by rw[←I5];exact hl2
 unfold Oper.wp execOp
 simp only[ho,e1,e2,Instr.storeAt,Instr.sureAddr,Sem.run_bind,Sem.run_pure,Result.andThen_ok,storeVar,cd ht,hsz,ne_eq,not_true_eq_false,if_false,hst]
 exact this
theorem PX{t:yz}{x y:x5}(ho:o.op=.store t x y)(hs:d.one=J)(ht:Pp P t){q off:Nat}{cs:List D}(hq:σ.H[q]?=G (G cs))(hoff:off<I cs):
  Ay P o [.ptr q off,d] σ .undef ⟨σ.H.set q (G (cs.set off d)),σ.own⟩:=by
 have hc:BK d=[d]:=by
  cases d with
  |v x=>cases x<;>simp_all [D.one,BK,V.isAgg]
  |dagg cs=>simp[D.one] at hs
  |_=>rfl
 have hs':d.sto=J:=by cases d<;>simp_all [D.one,D.sto]
 have h:=Lj (P:=P) (σ:=σ) (n:=1) (off:=off) ho hs' ht (by rw[hc];rfl) hq (by omega)
 rw[hc] at h
 have e:cs.take off++[d]++cs.drop (off+1)=cs.set off d:=by
  rw[List.set_eq_take_append_cons_drop,Io hoff];simp
 rw[e] at h
 exact h
def V.cellsV:V->List V
 |.agg cs=>cs
 |x=>[x]
theorem LH{M:cg}{x:V}{u:yx}(h:repV M x u):repA M x.cellsV u.cells.toList/\u.cells.size=x.size:=by
 have hc:=JZ h
 have hl:u.cells.size=x.size:=by rw[←I5];exact FL hc
 refine⟨?_,hl⟩
 cases hx:x.isAgg with
 |true=>
  cases x with
  |agg cs=>simpa only[V.cellsV,repC] using hc
  |_=>simp[V.isAgg] at hx
 |false=>
  have e:x.cellsV=[x]:=by cases x<;>simp_all [V.cellsV,V.isAgg]
  obtain⟨u',e1,_,_⟩:=Dn hx hc
  rw[e,e1]
  simp only[repA]
  exact⟨u',[],rfl,hx,by rw[←e1];exact hc,rfl⟩
def Gy(place:Nat->Option (Nat×Nat))(cells:List V):List (Nat×V)->Option (List V)
 |[]=>G cells
 |(i,x)::rest=>
  match place i with
  |none=>none
  |some (off,size)=>if x.size=size/\off+size<=I cells then Gy place (cells.take off++x.cellsV++cells.drop (off+size)) rest else none
theorem MY{place place':Nat->Option (Nat×Nat)}{out:List V}(hp:∀i p,place i=G p->place' i=G p):∀(xs:List (Nat×V)) (cells:List V),Gy place cells xs=G out->Gy place' cells xs=G out
 |[],cells,h=>by simpa[Gy] using h
 |(i,x)::xs,cells,h=>by
  simp only[Gy] at h⊢
  cases hi:place i with
  |none=>simp[hi] at h
  |some p=>
   rw[hp i p hi]
   simp only[hi] at h⊢
   split at h
   ·rename_i hc;rw[Io hc];exact MY hp xs _ h
   ·simp at h
theorem H7{M:cg}:∀{xs ys:List V} {us vs:List yx},repA M xs us->repA M ys vs->repA M (xs++ys) (us++vs)
 |[],ys,us,vs,h,h'=>by simp only[repA] at h;simpa[h] using h'
 |x::xs,ys,us,vs,h,h'=>by
  simp only[repA] at h
  obtain⟨u,us1,rfl,ha,h1,h2⟩:=h
  simp only[J7,repA]
  exact⟨u,_,rfl,ha,h1,H7 h2 h'⟩
theorem Xh(off:Nat)(l:List yx)(cs:Array yx)(h:off+I l<=cs.size):
  ((l.zipIdx 0).foldl (fun cs (x:yx×Nat)=>cs.setIfInBounds (off+x.2) x.1) cs).toList=cs.toList.take off++l++cs.toList.drop (off+I l):=by
 obtain⟨h1,h2⟩:=Great.foldl_set off l 0 cs
 apply List.ext_getElem?
 intro k
 have e:((l.zipIdx 0).foldl (fun cs (x:yx×Nat)=>cs.setIfInBounds (off+x.2) x.1) cs).toList[k]?=((l.zipIdx 0).foldl (fun cs (x:yx×Nat)=>cs.setIfInBounds (off+x.2) x.1) cs)[k]?:=by simp
 rw[e,h2 k]
 simp only[IQ]
 have hlt:I (cs.toList.take off)=off:=by simp;omega
 by_cases hk:k<off
 ·rw[Ij (by omega),IZ,Ip (by omega),Jw,Io hk];simp
 ·by_cases hk2:k<off+I l
  ·rw[Io (by omega),IZ,Il (by omega),hlt,Ip (by omega)]
  ·rw[Ij (by omega),Il (by simp;omega),getElem?_drop]
   simp only[Ig,hlt]
   rw[show off+I l+(k- (off+I l))=k by omega];simp
inductive JP (M:cg):List (Nat×V)->List (Nat×yx)->Prop
 |nil:JP M [] []
 |cons {i:Nat} {x:V} {u:yx} {xs:List (Nat×V)} {us:List (Nat×yx)} (h:repV M x u) (hr:JP M xs us):JP M ((i,x)::xs) ((i,u)::us)
theorem Lp{M:cg}{place:Nat->Option (Nat×Nat)}:∀{xs:List (Nat×V)} {us:List (Nat×yx)} {cells out:List V} {cu:Array yx},JP M xs us->repA M cells cu.toList->Gy place cells xs=G out->
  ∃U,Instr.fill place cu us=G U/\repA M out U.toList
 |[],us,cells,out,cu,h,hc,hf=>by
  cases h
  simp[Gy] at hf;subst hf
  exact⟨cu,rfl,hc⟩
 |(i,x)::xs,us,cells,out,cu,h,hc,hf=>by
  cases h with
  |cons hx hr=>
   rename_i u us
   simp only[Gy] at hf
   cases hp:place i with
   |none=>simp[hp] at hf
   |some p=>
    obtain⟨off,size⟩:=p
    simp only[hp] at hf
    split at hf
    ·rename_i hcond
     obtain⟨hA,hsz⟩:=LH hx
     have hl:cu.size=I cells:=by rw[←I5];exact DI hc
     have hs:u.cells.size=size:=hsz.trans hcond.1
     have hsp:=Xh off u.cells.toList cu (by simp only[I5];omega)
     simp only[I5,hs] at hsp
     have hc':repA M (cells.take off++x.cellsV++cells.drop (off+size)) ((u.cells.toList.zipIdx 0).foldl (fun cs (x:yx×Nat)=>cs.setIfInBounds (off+x.2) x.1) cu).toList:=by
      rw[hsp]
      exact H7 (H7 (JB hc off) hA) (JC hc (off+size))
     obtain⟨U,hU,hrU⟩:=Lp hr hc' hf
     refine⟨U,?_,hrU⟩
     unfold Instr.fill
     simp only[hp,hs]
     rw[Ij (by simp;omega), ←hU]
     congr 1
     rw[←Array.foldl_toList,Array.toList_zipIdx]
    ·simp at hf
def VT(P:x4)(t:yz):Option (List V×List (Nat×Nat)):=
 match Wp P t,P.underlying t with
 |some z,some (.struct fs)=>(fs.toList.mapM (fun f=>(P.info? f.type).map fun i=>(f.offset,i.size))).map fun p=>(z,p)
 |some z,some (.array n e)=>(P.info? e).map fun i=>(z,(List.range n).map fun j=>(j*i.size,i.size))
 |_,_=>none
def Dh:List (Nat×x5)->List D->Option (List (Nat×V))
 |[],[]=>G []
 |(i,_)::ps,d::ds=>match d.toV,Dh ps ds with
  |some x,some xs=>G ((i,x)::xs)
  |_,_=>none
 |_,_=>none
theorem GB{g:Gh}{a:Act}:∀{ps:List (Nat×x5)} {ds:List D} {xs:List (Nat×V)},Dh ps ds=G xs->Ar g ds (ps.map fun p=>a.eval p.2)->JP g.M xs (ps.map fun p=>(p.1,a.eval p.2))
 |[],[],xs,h,_=>by simp[Dh] at h;subst h;exact .nil
 |[],_::_,xs,h,_=>by simp[Dh] at h
 |(i,_)::ps,[],xs,h,_=>by simp[Dh] at h
 |(i,x)::ps,d::ds,xs,h,hr=>by
  simp only[Dh] at h
  split at h
  ·rename_i y ys hy hys
   simp at h;subst h
   simp only[Iu,Ar] at hr
   obtain⟨u,us',e,h1,h2⟩:=hr
   simp at e
   obtain⟨rfl,rfl⟩:=e
   exact .cons (JU hy h1) (GB hys h2)
  ·simp at h
theorem SV{t:yz}{parts:Array (Nat×x5)}(ho:o.op=.build t parts){z:List V}{ay:List (Nat×Nat)}(hb:VT P t=G (z,ay)){ds:List D}{xs:List (Nat×V)}{out:List V}
  (hx:Dh parts.toList ds=G xs) (hf:Gy (ay[·]?) z xs=G out):Ay P o ds σ (.v (.agg out)) σ:=by
 intro E g a w K Q hw hds hK
 simp only[ho,Op.operands] at hds
 have hpr:=GB hx (a:=a) (g:=g) (by simpa[Function.comp_def] using hds)
 unfold VT at hb
 have key:∃U,P.built t (parts.toList.map fun p=>(p.1,a.eval p.2))=G U/\repA g.M out U.toList:=by
  cases hz:Wp P t with
  |none=>simp[hz] at hb
  |some z0=>
   obtain⟨i,zv,hi,hz1,hcv⟩:=Lv hz
   cases hu:P.underlying t with
   |none=>simp[hz,hu] at hb
   |some dd=>
    cases dd<;>simp only[hz,hu,reduceCtorEq] at hb
    case struct fs=>
     cases hp:fs.toList.mapM (fun f=>(P.info? f.type).map fun i=>(f.offset,i.size)) with
     |none=>simp[hp] at hb
     |some pl=>
      simp[hp] at hb
      obtain⟨rfl,rfl⟩:=hb
      obtain⟨U,hU,hrU⟩:=Lp hpr (FV (M:=g.M) hcv) hf
      exact⟨U,by simpa[Program.built,hi,hu,hz1,hp] using hU,hrU⟩
    case array n e=>
     cases hp:P.info? e with
     |none=>simp[hp] at hb
     |some ie=>
      simp[hp] at hb
      obtain⟨rfl,rfl⟩:=hb
      have hf':Gy (fun i=>G (i*ie.size,ie.size)) z0 xs=G out:=by
       refine MY (fun i p hp'=>?_) xs z0 hf
       have hlt:=(HT.1 hp').1
       simp at hlt
       simpa[hlt] using hp'
      obtain⟨U,hU,hrU⟩:=Lp hpr (FV (M:=g.M) hcv) hf'
      exact⟨U,by simpa[Program.built,hi,hu,hz1,hp] using hU,hrU⟩
 obtain⟨U,hU,hrU⟩:=key
 have:=hK g w (.agg U) hw g.le_refl (by simp only[Av,CF];exact⟨U.toList,hrU,by simp⟩)
 have hrun:=run_build (P:=P) w t (parts.map fun p=>(p.1,a.eval p.2)) U (by simpa using hU)
 unfold Oper.wp execOp
 simp only[ho]
 simp only[Sem.run_bind]
 rw[show(parts.map fun(x:Nat×x5)=>match x with|(i,x)=>(i,a.eval x))=parts.map fun p=>(p.1,a.eval p.2) from rfl,hrun]
 exact this
end
def GG(k sz:Nat)(zs:List V)(x:Nat×Nat×List V):Nat×Nat×List V:=if x.1=k then(k,sz,zs) else x
theorem SA{k sz:Nat}{zs:List V}(x:Nat×Nat×List V):(GG k sz zs x).1=x.1:=by unfold GG;split<;>simp_all
theorem WI.setOwn{E:co}{g:Gh}{σ:St}{w w':yy}(hw:WI E g σ w){k sz:Nat}{xs zs:List V}(hx:(k,sz,xs)∈σ.own){u u':yx}(hu:g.ι k (I xs)=G u){M':cg}(hle:g.M.le M')
  (keep:∀b,b<w.heap.size->Cn u≠G b->w'.heap[b]?=w.heap[b]?/\∀o,M' b o=g.M b o) (mem:∀b o v,M' b o=G v->w'.cell? ⟨b,o,none⟩=G v)
  (size:w.heap.size<=w'.heap.size) (os:w'.os=w.os) (tape:w'.tape=w.tape) (output:w'.output=w.output)
  (hzs:∀x∈zs,x.size=sz) (hr:repV M' (.list zs) u') (hp:Perm M' w' sz u') (hb:∀b,Cn u'=G b->Cn u=G b∨w.heap.size<=b) (hlen:I xs<I zs∨(I zs=I xs/\u'=u)) (drawn:BO w.drawn w'.drawn:=by first|exact BO.refl _|exact BO.succ _|assumption):
  WI E { g with M:=M',ι:=fun k' m=>if k'=k/\m=I zs then G u' else g.ι k' m } ⟨σ.H,σ.own.map (GG k sz zs)⟩ w'/\
  g.le { g with M:=M',ι:=fun k' m=>if k'=k/\m=I zs then G u' else g.ι k' m }:=by
 obtain⟨hsz,u0,hu0,_,_,hfr⟩:=hw.rep.own k sz xs hx
 have hlg:g.le { g with M:=M',ι:=fun k' m=>if k'=k/\m=I zs then G u' else g.ι k' m }:=by
  refine⟨hle,HX _,fun _ _=>rfl,fun k' m v h=>?_,fun _ _=>rfl⟩
  by_cases e:k'=k/\m=I zs
  ·obtain⟨rfl,rfl⟩:=e
   simp only[and_self,Jj]
   rcases hlen with hl|⟨hl,rfl⟩
   ·rw[hfr _ hl] at h;simp at h
   ·rw[hl] at h;exact hu.symm.trans h
  ·simp only[Ij e];exact h
 -- two entries with one tag are one
 have uniq:∀y∈σ.own,y.1=k->y=(k,sz,xs):=by
  intro y hy e
  have hnd:=hw.rep.tags
  clear hfr hlg hw
  generalize σ.own=l at*
  induction l with
  |nil=>simp at hy
  |cons z l ih=>
   simp only[Iu,List.nodup_cons] at hnd
   rcases I8.1 hy with rfl|hy'<;>rcases I8.1 hx with hx'|hx'
   ·exact hx'.symm
   ·exact absurd (IA.2 ⟨_,hx',e.symm⟩) hnd.1
   ·subst hx';exact absurd (IA.2 ⟨_,hy',e⟩) hnd.1
   ·exact ih hx' hy' hnd.2
 have old:∀y∈σ.own,y.1≠k->(if y.1=k/\y.2.2.length=I zs then G u' else g.ι y.1 (I y.2.2))=g.ι y.1 (I y.2.2):=fun y _ e=>Ij (fun h=>e h.1)
 -- each new entry
 have cases_:∀y'∈σ.own.map (GG k sz zs),(y'=(k,sz,zs))∨(y'∈σ.own/\y'.1≠k):=by
  intro y' hy'
  obtain⟨y,hy,rfl⟩:=IA.1 hy'
  by_cases e:y.1=k
  ·exact .inl (by simp[GG,e])
  ·exact .inr (by simp only[GG,Ij e];exact⟨hy,e⟩)
 have sep0:∀y∈σ.own,y.1≠k->∀v,g.ι y.1 (I y.2.2)=G v->∀b,Cn v=G b->Cn u'≠G b:=by
  intro y hy e v hv b hvb hub
  rcases hb b hub with h|h
  ·exact hw.rep.sep (k,sz,xs) hx y hy (fun h=>e h.symm) u v hu hv b h hvb
  ·have:=hw.rep.own_lt hy hv hvb;omega
 refine⟨hw.update (fun b=>Cn u=G b) (fun b h=>hw.owns _ hx u hu b h) (fun b hb1 h=>keep b hb1 h) hle (HX _) (fun _ _=>rfl) (fun _ _=>rfl) size os tape output ?_ hw.objs ?_,hlg⟩
 ·refine⟨hw.rep.n,mem,fun i cs hi=>?_,hw.rep.inj,fun k' sz' xs' hx'=>?_,?_,fun x1 hx1 y1 hy1 hne u1 u2 h1 h2 b hb1=>?_,fun x1 hx1 u1 h1 b hb1 i cs hi=>?_,fun k' hk' m=>?_,hw.rep.gl.mono hle,hw.rep.gw.keepG fun p hp hlt=>(keep p.1 hlt fun e=>hw.rep.own_ng hx hu e p hp rfl).1⟩
  ·obtain⟨us,rest,e,h2,h3,h4,h5,h6⟩:=hw.rep.obj i cs hi
   obtain⟨k1,k2⟩:=keep _ (GR h2) (fun h=>hw.rep.ownObj _ hx u hu _ h i cs hi rfl)
   exact⟨us,rest,e,k1.trans h2,Ar.mono hlg _ _ h3,h4,fun o=>(k2 o).trans (h5 o),h6⟩
  ·rcases cases_ _ hx' with e|⟨hy,e⟩
   ·simp only[Prod.mk.injEq] at e
    obtain⟨rfl,rfl,rfl⟩:=e
    refine⟨⟨hsz.1,hzs⟩,u',by simp,hr,hp,fun m hm=>?_⟩
    show(if k'=k'/\m=I xs' then G u' else g.ι k' m)=none
    rw[Ij (by omega)]
    exact hfr m (by rcases hlen with h|⟨h,_⟩<;>omega)
   ·obtain⟨h0,v,hv,h3,h4,h5⟩:=hw.rep.own k' sz' xs' hy
    refine⟨h0,v,(old _ hy e).trans hv,h3.mono hle,h4.kept fun b hvb=>keep b (hw.rep.own_lt hy hv hvb) ?_,fun m hm=>?_⟩
    ·exact fun h=>hw.rep.sep (k,sz,xs) hx _ hy (fun h=>e h.symm) u v hu hv b h hvb
    ·simp only[Ij (show ¬(k'=k/\m=I zs) from fun h=>e h.1)]
     exact h5 m hm
  ·rw[map_map]
   have:(Prod.fst ∘GG k sz zs)=Prod.fst:=funext fun x=>SA x
   rw[this];exact hw.rep.tags
  ·rcases cases_ _ hx1 with rfl|⟨hy,e⟩<;>rcases cases_ _ hy1 with rfl|⟨hy',e'⟩
   ·exact absurd rfl hne
   ·simp at h1;subst h1
    have h2':=(old _ hy' e').symm.trans h2
    exact fun h=>sep0 y1 hy' e' u2 h2' b h hb1
   ·simp at h2;subst h2
    exact sep0 x1 hy e u1 ((old _ hy e).symm.trans h1) b hb1
   ·exact hw.rep.sep x1 hy y1 hy' hne u1 u2 ((old _ hy e).symm.trans h1) ((old _ hy' e').symm.trans h2) b hb1
  ·rcases cases_ _ hx1 with rfl|⟨hy,e⟩
   ·simp at h1;subst h1
    rcases hb b hb1 with h|h
    ·exact hw.rep.ownObj _ hx u hu b h i cs hi
    ·have:=hw.rep.obj_lt hi
     intro h';simp only at h';omega
   ·exact hw.rep.ownObj x1 hy u1 ((old _ hy e).symm.trans h1) b hb1 i cs hi
  ·have hne:¬(k'=k):=fun e=>hk' (k,sz,zs) (IA.2 ⟨_,hx,by simp[GG]⟩) e.symm
   simp only[Ij (show ¬(k'=k/\m=I zs) from fun h=>hne h.1)]
   refine hw.rep.fresh k' (fun y hy e=>?_) m
   have:=hk' (GG k sz zs y) (IA.2 ⟨y,hy,rfl⟩)
   rw[SA] at this
   exact this e
 ·intro x1 hx1 u1 h1 b hb1
  rcases cases_ _ hx1 with rfl|⟨hy,e⟩
  ·simp at h1;subst h1
   rcases hb b hb1 with h|h
   ·exact hw.owns _ hx u hu b h
   ·exact .inl (IN hw.size h)
  ·exact hw.owns x1 hy u1 ((old _ hy e).symm.trans h1) b hb1
def Uz(M:cg)(b:Nat)(us:List yx):cg:=fun b' o=>if b'=b then us[o]? else M b' o
theorem ZP{g:Gh}{σ:St}{w:yy}(h:c8 g σ w){b:Nat}(hb:w.heap.size<=b)(us:List yx):g.M.le (Uz g.M b us):=fun b' o v hm=>by
 have:=h.mem_lt hm
 simp only[Uz,Ij (show ¬b'=b by omega)];exact hm
theorem Pn(M:cg)(b:Nat)(us:List yx):eb (Uz M b us) b 0 us:=fun j v hj=>by simp[Uz,hj]
theorem NA{M:cg}{b b':Nat}{us:List yx}(h:b'≠b)(o:Nat):Uz M b us b' o=M b' o:=by simp[Uz,h]
theorem WI.newImm{E:co}{g:Gh}{σ:St}{w:yy}(hw:WI E g σ w)(us rest:List yx)(e:yz):
  WI E { g with M:=Uz g.M w.heap.size us } σ (w.alloc (.cells (us++rest).toArray e))/\g.le { g with M:=Uz g.M w.heap.size us }:=by
 refine⟨hw.grow (ZP hw.rep (HX _) us) (fun b hb=>⟨heap_alloc_old w _ b hb,NA (Nat.ne_of_lt hb)⟩) (fun b o v hm=>?_) (by simp) rfl rfl rfl,⟨ZP hw.rep (HX _) us,HX _,fun _ _=>rfl,fun _ _ _ h=>h,fun _ _=>rfl⟩⟩
 unfold Uz at hm
 split at hm
 ·rename_i e;subst e
  rw[World.cell?_alloc_new]
  have hlt:=(HT.1 hm).1
  simp[Ip hlt,hm]
 ·exact Nw w _ (hw.rep.mem b o v hm)
theorem H4{M:cg}{sz:Nat}:∀{xs ys:List V} {us vs:List yx},repE M sz xs us->repE M sz ys vs->repE M sz (xs++ys) (us++vs)
 |[],ys,us,vs,h,h'=>by simp only[repE] at h;simpa[h] using h'
 |x::xs,ys,us,vs,h,h'=>by
  simp only[repE] at h
  obtain⟨u1,u2,rfl,hl,h1,h2⟩:=h
  simp only[J7,repE]
  exact⟨u1,u2++vs,by simp,hl,h1,H4 h2 h'⟩
theorem KH{M:cg}{sz:Nat}:∀{xs:List V} {us:List yx},repE M sz xs us->∀u∈us,u.oneCell'=J
 |[],us,h=>by simp only[repE] at h;simp[h]
 |x::xs,us,h=>by
  simp only[repE] at h
  obtain⟨u1,u2,rfl,hl,h1,h2⟩:=h
  intro u hu
  rcases IE.1 hu with hu|hu
  ·exact KJ h1 u hu
  ·exact KH h2 u hu
theorem Cd{M:cg}{xs:List V}{u:yx}{sz:Nat}(h:repV M (.list xs) u)(hs:∀x∈xs,x.size=sz)(hsz:0<sz):
  ∃a cap,u=.slice a (I xs) cap/\xs.length<=cap/\(xs=[]∨∃b off us,a=G ⟨b,off,none⟩/\eb M b off us/\repE M sz xs us):=by
 rw[B3] at h
 obtain⟨a,cap,e,hc,h⟩:=h
 refine⟨a,cap,e,hc,?_⟩
 rcases h with h|⟨b,off,sz',us,ha,hsz',hi,hr⟩
 ·exact .inl h
 ·cases xs with
  |nil=>exact .inl rfl
  |cons x xs=>
   have hx:=hs x (by simp)
   have:sz'=sz:=by
    obtain⟨u1,h1,h2,_⟩:=NU hr (i:=0) (x:=x) (by simp)
    rw[←h2,FL h1,hx]
   subst this
   exact .inr ⟨b,off,us,ha,hi,hr⟩
theorem CY{M:cg}{xs:List V}{b f sz cap:Nat}{us:List yx}(hsz:0<sz)(hi:eb M b f us)(hr:repE M sz xs us)(hc:I xs<=cap):repV M (.list xs) (.slice (G ⟨b,f,none⟩) (I xs) cap):=by
 rw[B3]
 exact⟨_,cap,rfl,hc,.inr ⟨b,f,sz,us,rfl,hsz,hi,hr⟩⟩
section
variable {P : x4} {o : yw} {σ : St} {d : D}
theorem Lq(s:Nat):∀(vs:List yx) (i0:Nat) (c9 rest:List yx),I c9=i0*s->(∀v∈vs,v.cells.size=s)->I rest=I vs*s->
  Instr.fill (fun i=>G (i*s,s)) (c9++rest).toArray ((vs.zipIdx i0).map fun x=>(x.2,x.1))=G (c9++vs.flatMap (·.cells.toList)).toArray
 |[],i0,c9,rest,_,_,hr=>by
  have:rest=[]:=Js (by simpa using hr)
  subst this;simp[Instr.fill]
 |v::vs,i0,c9,rest,hp,hv,hr=>by
  have hvs:=hv v (by simp)
  have hr':I rest=s+I vs*s:=by rw[hr,HV,Jm,Nat.one_mul,Nat.add_comm]
  have hsp:=Xh (i0*s) v.cells.toList (c9++rest).toArray (by simp only[Jp,Ig,I5];omega)
  simp only[I5,hvs] at hsp
  have e1:(c9++rest).take (i0*s)=c9:=by rw[←hp];simp
  have e2:(c9++rest).drop (i0*s+s)=rest.drop s:=by rw[←hp];simp
  simp only[e1,e2] at hsp
  have ih:=Lq s vs (i0+1) (c9++v.cells.toList) (rest.drop s) (by simp[hp,hvs,Jm]) (fun x hx=>hv x (by simp[hx])) (by simp;omega)
  simp only[zipIdx_cons,Iu]
  unfold Instr.fill
  simp only[hvs]
  rw[Ij (by simp;omega)]
  have e3:(v.cells.zipIdx.foldl (fun cs (x:yx×Nat)=>cs.setIfInBounds (i0*s+x.2) x.1) (c9++rest).toArray)=(c9++v.cells.toList++rest.drop s).toArray:=by
   rw[←Array.foldl_toList,Array.toList_zipIdx]
   apply IV
   rw[hsp]
  rw[e3,ih]
  simp
theorem L8{g:Gh}{sz:Nat}:∀{ds:List D} {xs:List V} {us:List yx},ES ds=G xs->Ar g ds us->(∀x∈xs,x.size=sz)->repE g.M sz xs (us.flatMap (·.cells.toList))/\(∀v∈us,v.cells.size=sz)
 |[],xs,us,h,hr,_=>by simp[ES] at h;subst h;simp only[Ar] at hr;subst hr;simp[repE]
 |d::ds,xs,us,h,hr,hs=>by
  simp only[ES] at h
  split at h
  ·rename_i x xs' hx hxs
   simp at h;subst h
   simp only[Ar] at hr
   obtain⟨u,us',rfl,h2,h3⟩:=hr
   have hv:=JU hx h2
   obtain⟨_,hsz⟩:=LH hv
   obtain⟨h4,h5⟩:=L8 hxs h3 (fun y hy=>hs y (by simp[hy]))
   have hu:u.cells.size=sz:=hsz.trans (hs x (by simp))
   refine⟨?_,?_⟩
   ·simp only[List.flatMap_cons,repE]
    exact⟨_,_,rfl,by simpa using hu,JZ hv,h4⟩
   ·intro v hv'
    rcases I8.1 hv' with rfl|h
    ·exact hu
    ·exact h5 v h
  ·simp at h
theorem Hy:∀{ds:List D} {xs:List V},ES ds=G xs->I xs=I ds
 |[],xs,h=>by simp[ES] at h;simp[←h]
 |d::ds,xs,h=>by
  simp only[ES] at h
  split at h
  ·rename_i x xs' hx hxs
   simp at h;subst h
   simp[Hy hxs]
  ·simp at h
theorem E5{t:yz}{len:Nat}{parts:Array (Nat×x5)}(ho:o.op=.buildSlice t len parts)(hp:parts.toList=((parts.toList.map (·.2)).zipIdx 0).map fun x=>(x.2,x.1))(hlen:parts.size=len)
  {e:yz} {sz by':Nat} {z:Option yx} (hs:Ce P t=G (e,sz,by',z)) (hz:z.isSome=J) {ds:List D} {xs:List V} (hx:ES ds=G xs) (hsz:∀x∈xs,x.size=sz) (h0:0<len) (h1:0<sz) (h2:len*sz<=1000):
  Ay P o ds σ (.v (.list xs)) σ:=by
 intro E g a w K Q hw hds hK
 simp only[ho,Op.operands] at hds
 obtain⟨i,hu,hi,rfl,rfl,rfl⟩:=AK hs
 obtain⟨zz,hzz⟩:=Option.isSome_iff_exists.1 hz
 have hlm:I (parts.toList.map fun p=>a.eval p.2)=len:=by simp[hlen]
 have hds':Ar g ds (parts.toList.map fun p=>a.eval p.2):=by simpa[Function.comp_def] using hds
 obtain⟨hr,hcs⟩:=L8 hx hds' hsz
 have hxl:I xs=len:=by rw[Hy hx, ←AF hds',hlm]
 have hpos:0<len*i.size:=Nat.mul_pos h0 h1
 have hf:=Lq i.size (parts.toList.map fun p=>a.eval p.2) 0 [] ((Array.range (len*i.size)).map (zz.cells[· %zz.cells.size]!)).toList (by simp) hcs (by simp[hlen])
 have hpp:((parts.toList.map fun p=>a.eval p.2).zipIdx 0).map (fun x=>(x.2,x.1))=parts.toList.map fun p=>(p.1,a.eval p.2):=by
  have e1:(parts.toList.map fun p=>a.eval p.2)=(parts.toList.map (·.2)).map a.eval:=by simp
  rw[e1,List.zipIdx_map,map_map]
  conv=>rhs;rw[hp,map_map]
  rfl
 rw[hpp] at hf
 simp only[List.nil_append,Array.toArray_toList] at hf
 have hrun:=run_buildSlice (P:=P) w t e len (parts.map fun p=>(p.1,a.eval p.2)) _ i zz hu hi hzz (by omega) (by omega) (by simpa using hf)
 obtain⟨hw',hle⟩:=hw.newImm ((parts.toList.map fun p=>a.eval p.2).flatMap (·.cells.toList)) [] e
 rw[IG] at hw'
 have:=hK _ _ (.slice (G ⟨w.heap.size,0,none⟩) len len) hw' hle (by
  simp only[Av]
  have:=CY (cap:=len) h1 (Pn g.M w.heap.size _) (repE.mono hle.M _ _ _ hr) (by omega)
  rw[hxl] at this
  exact this)
 unfold Oper.wp execOp
 simp only[ho]
 simp only[Sem.run_bind]
 rw[show(parts.map fun(x:Nat×x5)=>match x with|(i,x)=>(i,a.eval x))=parts.map fun p=>(p.1,a.eval p.2) from rfl,hrun]
 exact this
theorem MA{t:yz}{parts:Array (Nat×x5)}(ho:o.op=.buildSlice t 0 parts)(hp:parts= #[]){e:yz}{sz by':Nat}{z:Option yx}(hs:Ce P t=G (e,sz,by',z)):
  Ay P o [] σ (.v (.list [])) σ:=by
 intro E g a w K Q hw hds hK
 obtain⟨i,hu,hi,rfl,rfl,rfl⟩:=AK hs
 subst hp
 have:=hK g _ (.slice (G ⟨w.heap.size,0,none⟩) 0 0) (hw.alloc (.cells #[] e)) g.le_refl (by
  simp only[Av];rw[B3];exact⟨_,0,rfl,HX _,.inl rfl⟩)
 unfold Oper.wp execOp
 simpa[ho,Instr.buildSlice,run_underlying hu,sizeOf,typeInfo,hi,Instr.fill,newRow,Oper.upon,show Array.range 0= #[] from rfl] using this
end
section
variable {P : x4} {o : yw} {σ : St} {d : D}
theorem Hb(w:yy)(t ty e:yz)(i:TypeInfo)(ht:P.underlying t=G (.slice e))(hi:P.info? e=G i)(a a2:Option Addr)(n c c2:Nat)(hc:n<=c):
  (Builtin.append_ #[t,t] ty #[.slice a n c,.slice a2 0 c2]).run P w=.ok (.slice a n c) w:=by
 have hf:(Builtin.firstCells i.size 0 (.slice a2 0 c2)).run P w=.ok #[] w:=by
  cases a2<;>simp[Builtin.firstCells,loadCells,loadCellsFrom]
 cases a<;>simp[Builtin.append_,run_underlying ht,sizeOf,typeInfo,hi,Builtin.lenOf,hc,hf,storeCells]
theorem dy(w:yy)(t ty e e':yz)(i:TypeInfo)(ht:P.underlying t=G (.slice e))(hi:P.info? e=G i)
  (g sLen sCap:Nat) (cur:Array yx) (hg:w.heap[g]?=G (.cells cur e' (0,0)))
  (a:Addr) (m c:Nat) (news:List yx) (hl:I news=m*i.size) (hnews:∀j u,news[j]?=G u->w.cell? (a.add j)=G u) (h1:∀u∈news,u.oneCell'=J)
  (hroom:sLen+m<=sCap) (hfit:sLen*i.size+I news<=cur.size):
  (Builtin.append_ #[t,t] ty #[.slice (G ⟨g,0,none⟩) sLen sCap,.slice (G a) m c]).run P w=
   .ok (.slice (G ⟨g,0,none⟩) (sLen+m) sCap) (w.setRow g (cur.toList.take (sLen*i.size)++news++cur.toList.drop (sLen*i.size+I news)).toArray):=by
 have hf:=run_firstCells_some (P:=P) w i.size m a m c news hl hnews
 have hst:=run_storeCells_at P g (sLen*i.size) e' news 0 cur w hg (by simpa using hfit) h1
 simp only[IQ] at hst
 simp[Builtin.append_,run_underlying ht,sizeOf,typeInfo,hi,Builtin.lenOf,hroom,hf,Addr.add_lit,hst]
theorem KU(w:yy)(t ty e e':yz)(i:TypeInfo)(ht:P.underlying t=G (.slice e))(hi:P.info? e=G i)
  (g p sLen sCap:Nat) (cur:Array yx) (hg:w.heap[g]?=G (.cells cur e' (0,0)))
  (a:Addr) (m c:Nat) (news:List yx) (hl:I news=m*i.size) (hnews:∀j u,news[j]?=G u->w.cell? (a.add j)=G u) (h1:∀u∈news,u.oneCell'=J)
  (hroom:sLen+m<=sCap) (hfit:p+sLen*i.size+I news<=cur.size):
  (Builtin.append_ #[t,t] ty #[.slice (G ⟨g,p,none⟩) sLen sCap,.slice (G a) m c]).run P w=
   .ok (.slice (G ⟨g,p,none⟩) (sLen+m) sCap) (w.setRow g (cur.toList.take (p+sLen*i.size)++news++cur.toList.drop (p+sLen*i.size+I news)).toArray):=by
 have hf:=run_firstCells_some (P:=P) w i.size m a m c news hl hnews
 have hst:=run_storeCells_at P g (p+sLen*i.size) e' news 0 cur w hg (by simpa using hfit) h1
 simp only[IQ] at hst
 simp[Builtin.append_,run_underlying ht,sizeOf,typeInfo,hi,Builtin.lenOf,hroom,hf,Addr.add_lit,hst]
theorem M3{E:co}{g:Gh}{w:yy}(hw:WI E g σ w){t ty e:yz}{sz by':Nat}{z:yx}(hs:Ce P t=G (e,sz,by',G z))(hzc:z.cells.size=sz){k:Nat}{xs ys:List V}(hx:(k,sz,xs)∈σ.own)
  (hsy:∀y∈ys,y.size=sz) (hlen:(I xs+I ys)*by'<=140737488355328) (hlen2:I xs+I ys<=140737488355328) {u v:yx} (hu:g.ι k (I xs)=G u) (hv:repV g.M (.list ys) v):
  ∃u' w' g',(Builtin.append_ #[t,t] ty #[u,v]).run P w=.ok u' w'/\WI E g' ⟨σ.H,σ.own.map (GG k sz (xs++ys))⟩ w'/\g.le g'/\Av g' (.acc k (xs++ys)) u':=by
 obtain⟨⟨hsz,hsx⟩,u0,hu0,hr0,hp0,hfr⟩:=hw.rep.own k sz xs hx
 obtain rfl:u=u0:=by rw[hu] at hu0;simpa using hu0
 obtain⟨i,ht,hi,hisz,hib,hiz⟩:=AK hs
 have hzs:∀x∈xs++ys,x.size=sz:=fun x hx=>by
  rcases IE.1 hx with h|h
  ·exact hsx x h
  ·exact hsy x h
 obtain⟨a2,cap2,rfl,hc2,hv⟩:=Cd hv hsy hsz
 obtain⟨a1,cap1,e1,hc1,hr1⟩:=Cd hr0 hsx hsz
 -- what is left to do once the run and the new header are known
 have fin:∀(u':yx) (w':yy) (M':cg),(Builtin.append_ #[t,t] ty #[u,.slice a2 (I ys) cap2]).run P w=.ok u' w'->g.M.le M'->
   (∀b,b<w.heap.size->Cn u≠G b->w'.heap[b]?=w.heap[b]?/\∀o,M' b o=g.M b o)->(∀b o v,M' b o=G v->w'.cell? ⟨b,o,none⟩=G v)->
   w.heap.size<=w'.heap.size->w'.os=w.os->w'.tape=w.tape->w'.output=w.output->repV M' (.list (xs++ys)) u'->Perm M' w' sz u'->(∀b,Cn u'=G b->Cn u=G b∨w.heap.size<=b)->
   (I xs<I (xs++ys)∨(I (xs++ys)=I xs/\u'=u))->BO w.drawn w'.drawn->
   ∃u' w' g',(Builtin.append_ #[t,t] ty #[u,.slice a2 (I ys) cap2]).run P w=.ok u' w'/\WI E g' ⟨σ.H,σ.own.map (GG k sz (xs++ys))⟩ w'/\g.le g'/\Av g' (.acc k (xs++ys)) u':=by
  intro u' w' M' hrun hle keep mem size os tape output hr hp hb hl dr
  obtain⟨h1,h2⟩:=hw.setOwn hx hu hle keep mem size os tape output hzs hr hp hb hl
  exact⟨u',w',_,hrun,h1,h2,by simp only[Av];exact⟨hr,by simp⟩⟩
 cases hys:ys with
 |nil=>
  subst hys
  refine fin u w g.M ?_ (cg.le_refl _) (fun b _ _=>⟨rfl,fun _=>rfl⟩) hw.rep.mem (HX _) rfl rfl rfl (by simpa using hr0) hp0 (fun b hb=>.inl hb) (.inr ⟨by simp,rfl⟩) (BO.refl _)
  rw[e1]
  exact Hb w t ty e i ht hi _ _ _ _ _ hc1
 |cons y0 ys0=>
  rw[←hys]
  have hne:ys≠ []:=by rw[hys];simp
  have hpos:0<I ys:=List.length_pos_iff.2 hne
  rcases hv with h|⟨b2,off2,vs,rfl,hi2,hr2⟩
  ·exact absurd h hne
  have hvl:I vs=I ys*i.size:=by rw[Cj hr2,hisz]
  have hcells2:=Ex hw hi2
  have hvone:=KH hr2
  have grows:∀(us:List yx) (old:Nat),repE g.M sz xs us->old<I xs+I ys->
    (Builtin.append_ #[t,t] ty #[u,.slice (G ⟨b2,off2,none⟩) (I ys) cap2]).run P w=
     .ok (.slice (G ⟨w.heap.size,0,none⟩) (I xs+I ys) (grownCap w (I xs+I ys) old e))
      (w.drew.alloc (.cells (us.toArray++vs.toArray++Builtin.zeroCells z.cells (grownCap w (I xs+I ys) old e- (I xs+I ys))) e))->
    ∃u' w' g',(Builtin.append_ #[t,t] ty #[u,.slice (G ⟨b2,off2,none⟩) (I ys) cap2]).run P w=.ok u' w'/\WI E g' ⟨σ.H,σ.own.map (GG k sz (xs++ys))⟩ w'/\g.le g'/\Av g' (.acc k (xs++ys)) u':=by
   intro us old hus hold hrun
   have hge:=grownCap_ge w (I xs+I ys) old e
   have hcell:us.toArray++vs.toArray++Builtin.zeroCells z.cells (grownCap w (I xs+I ys) old e- (I xs+I ys))=((us++vs)++(Builtin.zeroCells z.cells (grownCap w (I xs+I ys) old e- (I xs+I ys))).toList).toArray:=by
    apply IV;simp
   rw[hcell] at hrun
   have hE:=H4 hus hr2
   obtain⟨hw2,hle2⟩:=hw.drew.newImm (us++vs) (Builtin.zeroCells z.cells (grownCap w (I xs+I ys) old e- (I xs+I ys))).toList e
   refine fin _ _ (Uz g.M w.heap.size (us++vs)) hrun hle2.M (fun b hb _=>⟨heap_alloc_old w.drew _ b hb,NA (Nat.ne_of_lt hb)⟩) hw2.rep.mem (by simp) rfl rfl rfl ?_ ?_ ?_ (.inl (by simp;omega)) (BO.succ _)
   ·have:=CY (cap:=grownCap w (I xs+I ys) old e) hsz (Pn g.M w.heap.size (us++vs)) (repE.mono hle2.M _ _ _ hE) (by simp;omega)
    simpa using this
   ·refine .inr ⟨w.heap.size,0,I xs+I ys,_,_,e,rfl,heap_alloc_new w.drew _,hge,?_,fun o ho=>?_,hw.rep.gw.new (HX _)⟩
    ·simp only[Jp,Ig,I5,size_zeroCells,hzc,Cj hus,Cj hr2, ←Jm,IC]
     exact Nat.mul_le_mul_right _ (by omega)
    ·simp only[Uz,Jj]
     refine IF ?_
     rw[Cj hE];simpa using ho
   ·intro b hb
    simp only[Cn] at hb
    split at hb
    ·simp at hb
    ·simp at hb;exact .inr (by omega)
  have h63:((I xs+I ys:Nat):Int)<=9223372036854775807:=by omega
  have hfit:∀old,old<I xs+I ys->Builtin.nextslicecap (I xs+I ys) old*i.bytes<=281474976710656:=fun old ho=>growslice_fits ho (by rw[hib];exact hlen)
  have hdrew:∀j v,vs[j]?=G v->w.cell? ((⟨b2,off2,none⟩:Addr).add j)=G v:=hcells2
  rcases hp0 with⟨a,ea⟩|⟨b,f,len,cap,cur,et,eu,hb,hlc,hcc,hMb⟩
  ·-- no room at all
   have hxn:xs=[]:=by
    rw[ea] at e1
    simp at e1
    exact Js e1.2.1.symm
   subst hxn
   simp only[HZ,IC] at*
   subst ea
   cases a with
   |none=>
    refine grows [] 0 (by simp[repE]) hpos ?_
    have:=run_append_nil (P:=P) w t ty e i z ht hi hiz ⟨b2,off2,none⟩ (I ys) cap2 vs hvl hdrew hpos (by omega) (by have:=hfit 0 hpos;rw[nextslicecap_zero hpos] at this;exact this)
    simpa using this
   |some a=>
    refine grows [] 0 (by simp[repE]) hpos ?_
    have:=run_append_grow (P:=P) w t ty e i z ht hi hiz a 0 0 [] (by simp) (by simp) ⟨b2,off2,none⟩ (I ys) cap2 vs hvl hdrew (by omega) (by simpa using h63) (by simpa using hfit 0 hpos)
    simpa using this
  ·obtain⟨rfl,rfl,rfl⟩:a1=G ⟨b,f,none⟩/\xs.length=len/\cap1=cap:=by
    rw[eu] at e1;simp at e1;exact⟨e1.1.symm,e1.2.1.symm,e1.2.2.symm⟩
   obtain⟨us,hus,hui⟩:∃us,repE g.M sz xs us/\eb g.M b f us:=by
    rcases hr1 with rfl|⟨b',off',us,ea,hi1,hr1⟩
    ·exact⟨[],by simp[repE],fun j v hj=>by simp at hj⟩
    ·simp at ea;obtain⟨rfl,rfl⟩:=ea
     exact⟨us,hr1,hi1⟩
   have hul:=Cj hus
   by_cases hroom:I xs+I ys<=cap1
   ·-- in place
    have hcur:f+I xs*i.size+I vs<=cur.size:=by
     rw[hvl,hisz,Nat.add_assoc, ←Jm]
     exact IN (Nat.add_le_add_left (Nat.mul_le_mul_right _ hroom) f) hcc
    have hrun:=KU (P:=P) w t ty e et i ht hi b f (I xs) cap1 cur hb ⟨b2,off2,none⟩ (I ys) cap2 vs hvl hdrew hvone hroom hcur
    rw[←eu] at hrun
    have hcap0:cap1≠0:=by omega
    have hob:Cn u=G b:=by rw[eu];simp[Cn,hcap0]
    -- the new cells
    let M':cg:=fun b' o=>if b'=b/\f+I xs*sz<=o then vs[o- (f+I xs*sz)]? else g.M b' o
    have hM':g.M.le M':=fun b' o v hm=>by
     simp only[M']
     rw[Ij]; ·exact hm
     rintro ⟨rfl,ho⟩
     rw[hMb o ho] at hm;simp at hm
    have hin:eb M' b f (us++vs):=fun j v hj=>by
     simp only[M']
     by_cases hj1:f+I xs*sz<=f+j
     ·rw[Io ⟨trivial,hj1⟩,show f+j- (f+I xs*sz)=j-I xs*sz by omega]
      rw[Il (by omega),hul] at hj;exact hj
     ·rw[Ij (fun h=>hj1 h.2)]
      rw[Ip (by omega)] at hj
      have:=hui j v hj;simpa using this
    refine fin _ _ M' hrun hM' (fun b' _ hne=>?_) (fun b' o v hm=>?_) (by simp) rfl rfl rfl ?_ ?_ (fun b' hb'=>?_) (.inl (by simp;omega)) (BO.refl _)
    ·have hbb:b'≠b:=fun h=>hne (by rw[hob,h])
     refine⟨setRow_other w b b' _ hbb,fun o=>?_⟩
     simp only[M'];rw[Ij (fun h=>hbb h.1)]
    ·simp only[M'] at hm
     by_cases hb':b'=b
     ·subst hb'
      rw[cell_setRow_same w b' o cur _ et _ hb]
      have hl1:I (cur.toList.take (f+I xs*i.size))=f+I xs*sz:=by
       simp only[Iy,I5,hisz]
       have:=IN (Nat.add_le_add_left (Nat.mul_le_mul_right sz hlc) f) hcc
       omega
      by_cases ho:f+I xs*sz<=o
      ·rw[Io ⟨rfl,ho⟩] at hm
       have hlt:=(HT.1 hm).1
       simp only[IW]
       rw[IZ,Il (by omega),hl1,Ip hlt]
       exact hm
      ·rw[Ij (fun h=>ho h.2)] at hm
       have hold:=hw.rep.mem b' o v hm
       simp only[World.cell?,hb] at hold
       simp only[IW]
       rw[IZ,Ip (by omega),Jw,Io (by rw[hisz];omega)]
       simpa using hold
     ·rw[Ij (fun h=>hb' h.1)] at hm
      rw[cell_setRow_other w b _ _ hb']
      exact hw.rep.mem b' o v hm
    ·have:=CY (cap:=cap1) hsz hin (repE.mono hM' _ _ _ (H4 hus hr2)) (by simp;omega)
     simpa using this
    ·refine .inr ⟨b,f,I xs+I ys,cap1,_,et,rfl,setRow_heap w b cur _ et _ hb,hroom,?_,fun o ho=>?_,hw.rep.own_ng hx hu hob⟩
     ·simp only[Jp,Ig,Iy,IY,I5]
      omega
     ·simp only[M']
      rw[Io ⟨trivial,by rw[Jm] at ho;omega⟩]
      refine IF ?_
      rw[hvl,hisz];rw[Jm] at ho;omega
    ·simp only[Cn] at hb'
     rw[Ij hcap0] at hb'
     simp at hb'
     exact .inl (by rw[hob,hb'])
   ·have:=run_append_grow (P:=P) w t ty e i z ht hi hiz ⟨b,f,none⟩ (I xs) cap1 us (by rw[hul,hisz]) (Ex hw hui) ⟨b2,off2,none⟩ (I ys) cap2 vs hvl hdrew (by omega) h63 (hfit cap1 (by omega))
    refine grows us cap1 hus (by omega) ?_
    rw[eu];exact this
theorem Qb{x y:x5}{t:yz}(ho:o.op=.call { callee:=.builtin .append,args:= #[x,y],argTypes:= #[t,t]}){e:yz}{sz by':Nat}{z:yx}(hs:Ce P t=G (e,sz,by',G z))(hzc:z.cells.size=sz)
  {k:Nat} {xs ys:List V} (hx:(k,sz,xs)∈σ.own) (hsy:∀y∈ys,y.size=sz) (hlen:(I xs+I ys)*by'<=140737488355328) (hlen2:I xs+I ys<=140737488355328):
  Ay P o [.acc k xs,.v (.list ys)] σ (.acc k (xs++ys)) ⟨σ.H,σ.own.map (GG k sz (xs++ys))⟩:=by
 intro E g a w K Q hw hds hK
 simp only[ho,Op.operands,Call.operands] at hds
 obtain⟨u,v,eq,h1,h2⟩:=A8.1 (by simpa using hds)
 simp only[Ie,I6] at eq
 simp only[Av] at h1 h2
 obtain⟨u',w',g',hrun,hw',hle,hr⟩:=M3 (P:=P) (ty:=o.type) hw hs hzc hx hsy hlen hlen2 h1.2 h2
 have:=hK g' w' u' hw' hle hr
 unfold Oper.wp execOp
 simp only[ho,resolve,invoke,builtin,Sem.run_bind,Sem.run_pure,Result.andThen_ok,List.map_toArray,Iu,IP,eq.1,eq.2,hrun]
 exact this
end
section
variable {P : x4} {o : yw} {σ : St} {d : D}
theorem Xi{M:cg}{xs:List V}{a:Option Addr}{len cap sz:Nat}(hr:repV M (.list xs) (.slice a len cap))(hs:∀x∈xs,x.size=sz)(hsz:0<sz){l h:Nat}(hl:l<=h)(hh:h<=I xs):
  len=I xs/\xs.length<=cap/\repV M (.list ((xs.take h).drop l)) (.slice (if cap=l then a else a.map (·.add (l*sz))) (h-l) (cap-l)):=by
 obtain⟨a',cap',e,hc,hr2⟩:=Cd hr hs hsz
 simp only[Value.slice.injEq] at e
 obtain⟨rfl,rfl,rfl⟩:=e
 refine⟨rfl,hc,?_⟩
 have hlen:I ((xs.take h).drop l)=h-l:=by simp;omega
 rw[B3]
 refine⟨_,cap-l,by rw[hlen],by rw[hlen];omega,?_⟩
 rcases Nat.lt_or_ge l h with hlt|hge
 ·rcases hr2 with rfl|⟨b,off,us,rfl,hi,hr3⟩
  ·simp at hh;omega
  refine .inr ⟨b,off+l*sz,sz,(us.take (h*sz)).drop (l*sz),?_,hsz,Lm (Ll hi _) _,PJ (PI hr3 h) l⟩
  rw[Ij (by omega)]
  simp[Addr.add_lit]
 ·left
  exact Js (by rw[hlen];omega)
def Cf(n:Nat)(l h:Option Int):Option (Nat×Nat):=
 let h':=h.getD n
 let l':=l.getD 0
 if 0<=l'/\l'<=h'/\h'<=n then G (l'.toNat,h'.toNat) else none
theorem Fy(w:yy)(isS:Bool)(len cap:Nat)(hc:len<=cap)(l h:Option (yt×Int)){l' h':Nat}(hb:Cf len (l.map (·.2)) (h.map (·.2))=G (l',h')):
  (Instr.sliceBounds isS len cap (l.map fun p=>.int p.1 p.2) (h.map fun p=>.int p.1 p.2) none).run P w=.ok (l',h',cap) w:=by
 unfold Cf at hb
 simp only at hb
 split at hb
 ·rename_i hcond
  simp only[I1,Prod.mk.injEq] at hb
  obtain⟨rfl,rfl⟩:=hb
  cases l with
  |none=>
   cases h with
   |none=>simp[Instr.sliceBounds]
   |some p=>
    simp only[J4,IT,Option.getD_none,Jy] at hcond⊢
    simp[Instr.sliceBounds,run_sliceBound w p.1 p.2 cap _ (by omega) (by omega)]
  |some q=>
   cases h with
   |none=>
    simp only[J4,IT,Option.getD_none,Jy] at hcond⊢
    simp[Instr.sliceBounds,run_sliceBound w q.1 q.2 len _ (by omega) (by omega)]
   |some p=>
    simp only[IT,Jy] at hcond⊢
    simp[Instr.sliceBounds,run_sliceBound w p.1 p.2 cap _ (by omega) (by omega),run_sliceBound w q.1 q.2 p.2.toNat _ (by omega) (by omega)]
 ·simp at hb
def Gj:Option (yt×Int)->List D
 |none=>[]
 |some p=>[.v (.int p.1 p.2)]
theorem XR{t:yz}{x:x5}{lo hi:Option x5}(ho:o.op=.slice t x lo hi none){e:yz}{sz by':Nat}{z:Option yx}(hs:Ce P t=G (e,sz,by',z)){xs:List V}(hsx:∀x∈xs,x.size=sz)(hsz:0<sz)
  (l h:Option (yt×Int)) (hlo:lo.isSome=l.isSome) (hhi:hi.isSome=h.isSome) {l' h':Nat} (hb:Cf (I xs) (l.map (·.2)) (h.map (·.2))=G (l',h')):
  Ay P o (.v (.list xs)::(Gj l++Gj h)) σ (.v (.list ((xs.take h').drop l'))) σ:=by
 refine AA fun E g ρ w hw hds=>?_
 obtain⟨i,hu,hi',rfl,rfl,rfl⟩:=AK hs
 have hb2:=hb
 unfold Cf at hb2
 simp only at hb2
 split at hb2
 case isFalse=>simp at hb2
 rename_i hcond
 simp only[I1,Prod.mk.injEq] at hb2
 have main:∀u (lv hv:Option yx),ρ x=u->lv=l.map (fun p=>Value.int p.1 p.2)->hv=h.map (fun p=>Value.int p.1 p.2)->lo.map ρ=lv->hi.map ρ=hv->repV g.M (.list xs) u->
   ∃u,(execOp ρ o).run P w=.ok (.value u) w/\Av g (.v (.list ((xs.take h').drop l'))) u:=by
  intro u lv hv eu el eh e1 e2 hr
  obtain⟨a,cap,rfl,hc,_⟩:=B3.1 hr
  obtain⟨_,_,hres⟩:=Xi hr hsx hsz (l:=l') (h:=h') (by omega) (by omega)
  refine⟨_,?_,by simp only[Av];exact hres⟩
  have hbr:=Fy (P:=P) w true (I xs) cap hc l h hb
  simp only[execOp,ho,eu,e1,e2,el,eh,J4,Instr.sliceAt,Instr.slice,Sem.run_bind,run_underlying hu,Result.andThen_ok,hbr]
  simp[sizeOf,typeInfo,hi']
 simp only[ho,Op.operands] at hds
 cases lo with
 |none=>
  cases l with
  |some _=>simp at hlo
  |none=>
   cases hi with
   |none=>
    cases h with
    |some _=>simp at hhi
    |none=>
     obtain⟨u,eu,h1⟩:=AH.1 (by simpa[Gj] using hds)
     simp at eu
     exact main u none none eu rfl rfl rfl rfl (by simpa only[Av] using h1)
   |some ho'=>
    cases h with
    |none=>simp at hhi
    |some p=>
     obtain⟨u,v,eu,h1,h2⟩:=A8.1 (by simpa[Gj] using hds)
     simp only[Ie,I6] at eu
     simp only[Av,AM] at h2
     exact main u none _ eu.1 rfl (by simp;rfl) rfl (by simp[eu.2,h2]) (by simpa only[Av] using h1)
 |some lo'=>
  cases l with
  |none=>simp at hlo
  |some q=>
   cases hi with
   |none=>
    cases h with
    |some _=>simp at hhi
    |none=>
     obtain⟨u,v,eu,h1,h2⟩:=A8.1 (by simpa[Gj] using hds)
     simp only[Ie,I6] at eu
     simp only[Av,AM] at h2
     exact main u _ none eu.1 (by simp;rfl) rfl (by simp[eu.2,h2]) rfl (by simpa only[Av] using h1)
   |some ho'=>
    cases h with
    |none=>simp at hhi
    |some p=>
     obtain⟨u,v,v2,eu,h1,h2,h3⟩:=E8.1 (by simpa[Gj] using hds)
     simp only[Ie,I6] at eu
     simp only[Av,AM] at h2 h3
     exact main u _ _ eu.1 (by simp;rfl) (by simp;rfl) (by simp[eu.2.1,h2]) (by simp[eu.2.2,h3]) (by simpa only[Av] using h1)
theorem XQ{t:yz}{x:x5}{lo hi:Option x5}(ho:o.op=.slice t x lo hi none)(hu:P.underlying t=G .string){s:List UInt8}
  (l h:Option (yt×Int)) (hlo:lo.isSome=l.isSome) (hhi:hi.isSome=h.isSome) {l' h':Nat} (hb:Cf (I s) (l.map (·.2)) (h.map (·.2))=G (l',h')):
  Ay P o (.v (.str s)::(Gj l++Gj h)) σ (.v (.str ((s.take h').drop l'))) σ:=by
 refine AA fun E g ρ w hw hds=>?_
 have main:∀u (lv hv:Option yx),ρ x=u->lv=l.map (fun p=>Value.int p.1 p.2)->hv=h.map (fun p=>Value.int p.1 p.2)->lo.map ρ=lv->hi.map ρ=hv->u=.string ⟨s.toArray⟩->
   ∃u,(execOp ρ o).run P w=.ok (.value u) w/\Av g (.v (.str ((s.take h').drop l'))) u:=by
  intro u lv hv eu el eh e1 e2 hr
  subst hr
  refine⟨.string ⟨((s.take h').drop l').toArray⟩,?_,by simp only[Av,CU]⟩
  have hbr:=Fy (P:=P) w false (I s) (I s) (HX _) l h hb
  have hx:(⟨s.toArray⟩:ByteArray).extract l' h'=⟨((s.take h').drop l').toArray⟩:=by
   apply ByteArray.ext
   apply IV
   rw[Lib.extract_data]
   simp[List.drop_take]
  simp only[execOp,ho,eu,e1,e2,el,eh,J4,Instr.sliceAt,Instr.slice,Sem.run_bind,run_underlying hu,Result.andThen_ok,Option.isSome_none,J6,if_false,Rr]
  simp[hbr,hx]
 simp only[ho,Op.operands] at hds
 cases lo with
 |none=>
  cases l with
  |some _=>simp at hlo
  |none=>
   cases hi with
   |none=>
    cases h with
    |some _=>simp at hhi
    |none=>
     obtain⟨u,eu,h1⟩:=AH.1 (by simpa[Gj] using hds)
     simp at eu
     exact main u none none eu rfl rfl rfl rfl (by simpa only[Av,CU] using h1)
   |some ho'=>
    cases h with
    |none=>simp at hhi
    |some p=>
     obtain⟨u,v,eu,h1,h2⟩:=A8.1 (by simpa[Gj] using hds)
     simp only[Ie,I6] at eu
     simp only[Av,AM] at h2
     exact main u none _ eu.1 rfl (by simp;rfl) rfl (by simp[eu.2,h2]) (by simpa only[Av,CU] using h1)
 |some lo'=>
  cases l with
  |none=>simp at hlo
  |some q=>
   cases hi with
   |none=>
    cases h with
    |some _=>simp at hhi
    |none=>
     obtain⟨u,v,eu,h1,h2⟩:=A8.1 (by simpa[Gj] using hds)
     simp only[Ie,I6] at eu
     simp only[Av,AM] at h2
     exact main u _ none eu.1 (by simp;rfl) rfl (by simp[eu.2,h2]) rfl (by simpa only[Av,CU] using h1)
   |some ho'=>
    cases h with
    |none=>simp at hhi
    |some p=>
     obtain⟨u,v,v2,eu,h1,h2,h3⟩:=E8.1 (by simpa[Gj] using hds)
     simp only[Ie,I6] at eu
     simp only[Av,AM] at h2 h3
     exact main u _ _ eu.1 (by simp;rfl) (by simp;rfl) (by simp[eu.2.1,h2]) (by simp[eu.2.2,h3]) (by simpa only[Av,CU] using h1)
theorem OB(z:yx)(n:Nat):madeCells #[z] n=(List.replicate n z).toArray:=by
 apply IV
 apply List.ext_getElem?
 intro k
 simp only[madeCells]
 by_cases hk:k<n
 ·simp[hk,Nat.mod_one]
 ·simp[hk]
theorem AbB{t:yz}{x y:x5}(ho:o.op=.makeSlice t x y){e:yz}{sz by':Nat}{z:yx}(hs:Ce P t=G (e,sz,by',G z))(h1:0<sz)(k:Nat)(hk:∀x∈σ.own,x.1≠k){k1 k2:yt}{n:Int}(h0:0<=n)(hn:(by':Int)*n<=281474976710656)(hn2:n<=9223372036854775807):
  Ay P o [.v (.int k1 0),.v (.int k2 n)] σ (.acc k []) ⟨σ.H,(k,sz,[])::σ.own⟩:=by
 intro E g a w K Q hw hds hK
 simp only[ho,Op.operands,A8] at hds
 obtain⟨u,v,eq,h1',h2⟩:=hds
 simp only[Iu,IP,Ie,I6] at eq
 obtain⟨e1,e2⟩:=eq
 simp only[Av,AM] at h1' h2
 subst h1' h2
 obtain⟨i,hu,hi,hsz,hby,hzz⟩:=AK hs
 have hrun:=run_make (P:=P) w t e i z hu hi hzz k1 k2 0 n (Iv _) h0 (by rw[hby];exact hn) hn2
 have hrep:repV g.M (.list []) (.slice (G ⟨w.heap.size,0,none⟩) 0 n.toNat):=by rw[B3];exact⟨_,n.toNat,rfl,I3 _,.inl rfl⟩
 obtain⟨hw',hle⟩:=(hw.alloc (.cells (madeCells z.cells (n.toNat*i.size)) e)).addOwn (k:=k) (sz:=sz) (xs:=[]) (u:=.slice (G ⟨w.heap.size,0,none⟩) 0 n.toNat) hk ⟨h1,by simp⟩
  hrep (.inr ⟨w.heap.size,0,0,n.toNat,_,e,rfl,heap_alloc_new w _,I3 _,by rw[size_madeCells,hsz,IC];exact HX _,fun o _=>hw.rep.new_none (HX _) o,hw.rep.gw.new (HX _)⟩) (fun b hb=>by
   simp only[Cn] at hb
   split at hb
   ·simp at hb
   ·simp at hb;subst hb
    exact⟨hw.size,fun i cs hi=>Nat.ne_of_lt (hw.rep.obj_lt hi),fun x hx u' hu' hb'=>by have:=hw.rep.own_lt hx hu' hb';omega⟩)
 have:=hK _ _ _ hw' hle (by simp only[Av];exact⟨hrep,by simp⟩)
 unfold Oper.wp execOp
 simp only[ho,e1,e2,Sem.run_bind,hrun,Result.andThen_ok]
 exact this
end
theorem LI{g:Gh}:∀{ds:List D} {xs:List V} {us:List yx},ES ds=G xs->Ar g ds us->F1 g.M xs us
 |[],xs,us,h,hr=>by simp[ES] at h;subst h;simpa[Ar,F1] using hr
 |d::ds,xs,us,h,hr=>by
  simp only[ES] at h
  split at h
  ·rename_i x xs' hx hxs
   simp at h;subst h
   simp only[Ar] at hr
   obtain⟨u,us',rfl,h2,h3⟩:=hr
   simp only[F1]
   obtain⟨ws,h4,h5⟩:=JU hx h2
   exact⟨u,us',ws,rfl,h4,h5,LI hxs h3⟩
  ·simp at h
theorem Eu{g:Gh}:∀{xs:List V} {us:List yx},F1 g.M xs us->Ar g (xs.map .v) us
 |[],us,h=>by simpa[Ar,F1] using h
 |x::xs,us,h=>by
  simp only[F1] at h
  obtain⟨u,us',ws,rfl,h1,h2,h3⟩:=h
  simp only[Iu,Ar,Av]
  exact⟨u,us',rfl,⟨ws,h1,h2⟩,Eu h3⟩
section
variable {P : x4} {o : yw} {σ : St} {d : D}
theorem R7{f:yv}{first captured:Array x5}(ho:o.op=.makeFunc (.func f) first captured){fs cs:List D}{xs ys:List V}(hl:I fs=first.size)(hf:ES fs=G xs)(hc:ES cs=G ys):
  Ay P o (fs++cs) σ (.v (.fn f xs ys)) σ:=by
 refine AA fun E g ρ w hw hds=>?_
 simp only[ho,Op.operands,Array.toList_append,Jq] at hds
 have h1:=Cr hds (I fs)
 have h2:=Cu hds (I fs)
 have hl':I (first.toList.map ρ)=I fs:=by simp[hl]
 rw[List.take_left,List.take_left' hl'] at h1
 rw[List.drop_left,List.drop_left' hl'] at h2
 refine⟨.func (.func f) (first.map ρ) (captured.map ρ),?_,?_⟩
 ·simp[execOp,ho,Instr.makeFunc]
 ·simp only[Av,GH]
  exact⟨first.toList.map ρ,captured.toList.map ρ,by simp[←Array.toList_map],LI hf h1,LI hc h2⟩
end
theorem WI.setObjG{E:co}{g:Gh}{σ:St}{w w':yy}(hw:WI E g σ w){M':cg}(hle:g.M.le M'){q:Nat}{cs:List D}{oc:Option (List D)}(hq:σ.H[q]?=G (G cs))
  (hb:∀cs',oc=G cs'->∃us rest e,w'.heap[g.β q]?=G (.cells (us++rest).toArray e (0,0))/\Ar { g with M:=M' } cs' us/\(∀c∈cs',c.one=J)/\(∀o,M' (g.β q) o=none)/\(us++rest).length=g.κ q)
  (keep:∀b,b<w.heap.size->b≠g.β q->w'.heap[b]?=w.heap[b]?/\∀o,M' b o=g.M b o) (mem:∀b o v,M' b o=G v->w'.cell? ⟨b,o,none⟩=G v)
  (size:w.heap.size<=w'.heap.size) (os:w'.os=w.os) (tape:w'.tape=w.tape) (output:w'.output=w.output) (drawn:BO w.drawn w'.drawn:=by first|exact BO.refl _|exact BO.succ _|assumption):
  WI E { g with M:=M' } ⟨σ.H.set q oc,σ.own⟩ w':=by
 have hlg:g.le { g with M:=M' }:=⟨hle,HX _,fun _ _=>rfl,fun _ _ _ h=>h,fun _ _=>rfl⟩
 have split:∀(i:Nat) (cs1:List D),(σ.H.set q oc)[i]?=G (G cs1)->(i=q/\oc=G cs1)∨(i≠q/\σ.H[i]?=G (G cs1)):=by
  intro i cs1 hi
  rw[getElem?_set] at hi
  split at hi
  ·rename_i e;subst e
   split at hi
   ·simp at hi;exact .inl ⟨rfl,hi⟩
   ·simp at hi
  ·rename_i e;exact .inr ⟨fun h=>e h.symm,hi⟩
 have live:∀(i:Nat) (cs1:List D),(σ.H.set q oc)[i]?=G (G cs1)->∃cs2,σ.H[i]?=G (G cs2):=by
  intro i cs1 hi
  rcases split i cs1 hi with⟨rfl,_⟩|⟨_,h⟩
  ·exact⟨cs,hq⟩
  ·exact⟨_,h⟩
 refine hw.update (fun b=>b=g.β q) (fun b e=>by subst e;exact hw.objs q cs hq) (fun b hb hne=>keep b hb hne) hle (HX _) (fun _ _=>rfl) (fun _ _=>rfl) size os tape output ?_ ?_ hw.owns
 ·refine⟨by simp[hw.rep.n],mem,fun i cs1 hi=>?_,fun i j c1 c2 hi hj hij=>?_,fun k sz xs hx=>?_,hw.rep.tags,hw.rep.sep,fun x hx u hu b hb' i cs1 hi=>?_,hw.rep.fresh,hw.rep.gl.mono hle,hw.rep.gw.keepG fun p hp hlt=>(keep p.1 hlt (hw.rep.obj_ng hq p hp)).1⟩
  ·rcases split i cs1 hi with⟨rfl,e⟩|⟨hne,h⟩
   ·exact hb cs1 e
   ·obtain⟨us',rest',e',h2,h3,h4,h5,h6⟩:=hw.rep.obj i cs1 h
    obtain⟨k1,k2⟩:=keep _ (GR h2) (fun e=>hne (hw.rep.inj i q _ _ h hq e))
    exact⟨us',rest',e',k1.trans h2,Ar.mono hlg _ _ h3,h4,fun o=>(k2 o).trans (h5 o),h6⟩
  ·obtain⟨c3,h3⟩:=live i c1 hi
   obtain⟨c4,h4⟩:=live j c2 hj
   exact hw.rep.inj i j _ _ h3 h4 hij
  ·obtain⟨h0,u,hu,h3,h4,h5⟩:=hw.rep.own k sz xs hx
   refine⟨h0,u,hu,h3.mono hle,h4.kept fun b hb'=>keep b (hw.rep.own_lt hx hu hb') ?_,h5⟩
   exact fun e=>hw.rep.ownObj _ hx u hu b hb' q cs hq e.symm
  ·obtain⟨c3,h3⟩:=live i cs1 hi
   exact hw.rep.ownObj x hx u hu b hb' i c3 h3
 ·intro i cs1 hi
  obtain⟨c3,h3⟩:=live i cs1 hi
  exact hw.objs i c3 h3
mutual
def D.pl:D->Bool
 |.v _=>true
 |.raw _=>true
 |.rv .. =>true
 |.tup ds=>D.pls ds
 |.err=>true
 |.undef=>true
 |_=>false
def D.pls:List D->Bool
 |[]=>true
 |d::ds=>d.pl&&D.pls ds
end
mutual
theorem NW{g g':Gh}(hM:g'.M=g.M):∀{d:D} {u:yx},d.pl=J->Av g d u->Av g' d u
 |.v x,u,_,h=>by simp only[Av] at h⊢;rw[hM];exact h
 |.tup ds,u,hp,h=>by
  simp only[Av] at h⊢
  obtain⟨us,e,h1⟩:=h
  exact⟨us,e,Cs hM (by simpa[D.pl] using hp) h1⟩
 |.undef,u,_,_=>by simp only[Av]
 |.raw x,u,_,h=>by simpa only[Av] using h
 |.err,u,_,h=>by simpa only[Av] using h
 |.rv x u0,u,_,h=>by simp only[Av] at h⊢;rw[hM];exact h
 |.acc ..,_,hp,_=>by simp[D.pl] at hp
 |.ptr ..,_,hp,_=>by simp[D.pl] at hp
 |.arr ..,_,hp,_=>by simp[D.pl] at hp
 |.dagg ..,_,hp,_=>by simp[D.pl] at hp
 |.dfn ..,_,hp,_=>by simp[D.pl] at hp
theorem Cs{g g':Gh}(hM:g'.M=g.M):∀{ds:List D} {us:List yx},D.pls ds=J->Ar g ds us->Ar g' ds us
 |[],us,_,h=>by simpa[Ar] using h
 |d::ds,us,hp,h=>by
  simp only[D.pls,HR] at hp
  simp only[Ar] at h⊢
  obtain⟨u,us',e,h1,h2⟩:=h
  exact⟨u,us',e,NW hM hp.1 h1,Cs hM hp.2 h2⟩
end
theorem Cg(xs:List V):D.pls (xs.map .v)=J:=by induction xs<;>simp_all [D.pls,D.pl]
theorem Cw:∀(a b:List D),D.pls (a++b)=(D.pls a&&D.pls b)
 |[],b=>by simp[D.pls]
 |d::a,b=>by simp[D.pls,Cw a b,Bool.and_assoc]
section
variable {P : x4} {o : yw} {σ : St} {d : D}
theorem FH{_E:co}{_g:Gh}{a:Act}{w:yy}{K:Act->yy->Prop}{Q:Exit->Act->yy->Prop}{c:Call}{fo:x5}(ho:o.op=.call c)(hc:c.callee=.value fo){f:yv}(hcall:U5 P f){us vs ws:List yx}
  (hf:a.eval fo=.func (.func f) us.toArray vs.toArray) (hargs:c.args.toList.map a.eval=ws)
  (h:Calls P f (us++ws++vs).toArray w fun e w'=>∃u,e=.returned u/\K (a.put o.dst u) w'):o.wp P a w K Q:=by
 obtain⟨fn,h1,h2,h3⟩:=hcall
 have hargs':c.args.map a.eval=ws.toArray:=by apply IV;simpa using hargs
 unfold Oper.wp execOp
 simp only[ho,resolve,hc,hf,hargs',Deferred.ofValue,Sem.run_bind,Sem.run_pure,Result.andThen_ok,invoke,callFunc,run_program,h1,h2,h3,J6,if_false]
 have e:us.toArray++ws.toArray++vs.toArray=(us++ws++vs).toArray:=by simp
 rw[e]
 refine Calls.mono h fun e w' he=>?_
 obtain⟨u,rfl,hk⟩:=he
 exact hk
theorem DE{g:Gh}{a:Act}{c:Call}{fo:x5}(ho:o.op=.call c)(hc:c.callee=.value fo){f:yv}{fs cs:List V}{ds:List D}(h:Ar g (.v (.fn f fs cs)::ds) (o.op.operands.toList.map a.eval)):
  ∃us vs ws,a.eval fo=.func (.func f) us.toArray vs.toArray/\c.args.toList.map a.eval=ws/\Ar g (fs.map .v) us/\Ar g (cs.map .v) vs/\Ar g ds ws:=by
 simp only[ho,Op.operands,Call.operands,hc] at h
 have h':Ar g (.v (.fn f fs cs)::ds) (a.eval fo::c.args.toList.map a.eval):=by simpa using h
 simp only[Ar] at h'
 obtain⟨u,us',e,h1,h2⟩:=h'
 simp only[Ie] at e
 obtain⟨e1,e2⟩:=e
 simp only[Av,GH] at h1
 obtain⟨us,vs,e3,h3,h4⟩:=h1
 exact⟨us,vs,us',e1.trans e3,e2,Eu h3,Eu h4,h2⟩
theorem c8.empty{g:Gh}{w:yy}(h:c8 g σ w):c8 { M:=g.M,β:=g.β,n:=0,ι:=fun _ _=>none,κ:=g.κ } ⟨[],[]⟩ w where
 n:=rfl
 mem:=h.mem
 gl:=h.gl
 gw:=h.gw
 obj:=fun i cs hi=>by simp at hi
 inj:=fun i j cs ds hi=>by simp at hi
 own:=fun k sz xs hx=>by simp at hx
 tags:=by simp
 sep:=fun x hx=>by simp at hx
 ownObj:=fun x hx=>by simp at hx
 fresh:=fun _ _ _=>rfl
theorem EA{g:Gh}{w:yy}{b:Nat}:¬co.priv ⟨g,w,⟨[],[]⟩⟩ b:=by
 rintro (⟨i,cs,h,_⟩|⟨x,h,_⟩)
 ·simp at h
 ·simp at h
theorem WI.back0{E:co}{g gc gc':Gh}{w w':yy}{σc':St}(hw:WI E g σ w)(hM:gc.M=g.M)(h:WI ⟨gc,w,⟨[],[]⟩⟩ gc' σc' w'):WI E { g with M:=gc'.M } σ w'/\g.le { g with M:=gc'.M }:=by
 have hle:g.M.le gc'.M:=by rw[←hM];exact h.M
 refine⟨hw.grow hle (fun b hb=>?_) h.rep.mem h.size h.os h.tape h.output (drawn:=h.drawn),⟨hle,HX _,fun _ _=>rfl,fun _ _ _ h=>h,fun _ _=>rfl⟩⟩
 obtain⟨h1,h2⟩:=h.keep b hb EA
 exact⟨h1,fun o=>by rw[h2 o];simp only[hM]⟩
theorem SU{c:Call}{fo:x5}(ho:o.op=.call c)(hc:c.callee=.value fo){f:yv}{fs cs:List V}{ds:List D}(hp:D.pls ds=J)(hd:d.pl=J)
  (hspec:Aa P f (fs.map .v++ds++cs.map .v) ⟨[],[]⟩ d ⟨[],[]⟩):Ay P o (.v (.fn f fs cs)::ds) σ d σ:=by
 intro E g a w K Q hw hds hK
 obtain⟨us,vs,ws,hf,hargs,h1,h2,h3⟩:=DE ho hc hds
 refine FH (_E:=E) (_g:=g) ho hc hspec.1 hf hargs ?_
 have hargs':Ar { M:=g.M,β:=g.β,n:=0,ι:=fun _ _=>none,κ:=g.κ } (fs.map .v++ds++cs.map .v) (us++ws++vs):=
  Cs (by rfl) (by simp[Cw,Cg,hp]) (A7 (A7 h1 h3) h2)
 refine Calls.mono (hspec.2 _ w _ hw.rep.empty hargs') ?_
 rintro e w' ⟨u,g',rfl,hw',hr⟩
 obtain⟨h4,h5⟩:=hw.back0 (by rfl) hw'
 exact⟨u,rfl,hK _ _ _ h4 h5 (NW (by rfl) hd hr)⟩
theorem KK{c:Call}{fo:x5}(ho:o.op=.call c)(hc:c.callee=.value fo){f:yv}{fs cs:List V}{ds:List D}(hp:D.pls ds=J){k' sz:Nat}{xs:List V}(k:Nat)(hk:∀x∈σ.own,x.1≠k)
  (hspec:Aa P f (fs.map .v++ds++cs.map .v) ⟨[],[]⟩ (.acc k' xs) ⟨[],[(k',sz,xs)]⟩):Ay P o (.v (.fn f fs cs)::ds) σ (.acc k xs) ⟨σ.H,(k,sz,xs)::σ.own⟩:=by
 intro E g a w K Q hw hds hK
 obtain⟨us,vs,ws,hf,hargs,h1,h2,h3⟩:=DE ho hc hds
 refine FH (_E:=E) (_g:=g) ho hc hspec.1 hf hargs ?_
 have hargs':Ar { M:=g.M,β:=g.β,n:=0,ι:=fun _ _=>none,κ:=g.κ } (fs.map .v++ds++cs.map .v) (us++ws++vs):=
  Cs (by rfl) (by simp[Cw,Cg,hp]) (A7 (A7 h1 h3) h2)
 refine Calls.mono (hspec.2 _ w _ hw.rep.empty hargs') ?_
 rintro e w' ⟨u,g',rfl,hw',hr⟩
 obtain⟨h4,h5⟩:=hw.back0 (by rfl) hw'
 simp only[Av] at hr
 obtain⟨hsz,u',hu',hr',hp',_⟩:=hw'.rep.own k' sz xs (by simp)
 obtain rfl:u=u':=by rw[hr.2] at hu';simpa using hu'
 obtain⟨h6,h7⟩:=h4.addOwn (k:=k) (sz:=sz) (xs:=xs) (u:=u) hk hsz hr' hp' (fun b hb=>by
  rcases hw'.owns (k',sz,xs) (by simp) u hr.2 b hb with h|h
  ·refine⟨IN hw.size h,fun i cs hi=>?_,fun x hx v hv hvb=>?_⟩
   ·have:=hw.rep.obj_lt hi;simp only at h⊢;omega
   ·have:=hw.rep.own_lt hx hv hvb;simp only at h;omega
  ·exact absurd h EA)
 exact⟨u,rfl,hK _ _ _ h6 (Gh.le_trans h5 h7) (by simp only[Av];exact⟨hr',by simp⟩)⟩
inductive EJ (q:Nat):List D->List D->Prop
 |nil:EJ q [] []
 |pl {d:D} {ds dc:List D} (hp:d.pl=J) (h:EJ q ds dc):EJ q (d::ds) (d::dc)
 |ptr {off:Nat} {ds dc:List D} (h:EJ q ds dc):EJ q (.ptr q off::ds) (.ptr 0 off::dc)
 |arr {off len:Nat} {ds dc:List D} (h:EJ q ds dc):EJ q (.arr q off len::ds) (.arr 0 off len::dc)
theorem EJ.rep{q:Nat}{g gc:Gh}(hM:gc.M=g.M)(hβ:gc.β 0=g.β q)(hn:0<gc.n):∀{ds dc:List D},EJ q ds dc->∀{us:List yx},Ar g ds us->Ar gc dc us
 |_,_,.nil,us,h=>by simpa[Ar] using h
 |_,_,.pl hp h',us,h=>by
  simp only[Ar] at h⊢
  obtain⟨u,us',e,h1,h2⟩:=h
  exact⟨u,us',e,NW hM hp h1,EJ.rep hM hβ hn h' h2⟩
 |_,_,.ptr h',us,h=>by
  simp only[Ar] at h⊢
  obtain⟨u,us',e,h1,h2⟩:=h
  refine⟨u,us',e,?_,EJ.rep hM hβ hn h' h2⟩
  simp only[Av] at h1⊢
  exact⟨hn,by rw[hβ];exact h1.2⟩
 |_,_,.arr h',us,h=>by
  simp only[Ar] at h⊢
  obtain⟨u,us',e,h1,h2⟩:=h
  refine⟨u,us',e,?_,EJ.rep hM hβ hn h' h2⟩
  simp only[Av] at h1⊢
  exact⟨hn,by rw[hβ];exact h1.2⟩
theorem c8.one{g:Gh}{w:yy}(h:c8 g σ w){q:Nat}{cs:List D}(hq:σ.H[q]?=G (G cs))(hp:D.pls cs=J):c8 { M:=g.M,β:=fun _=>g.β q,n:=1,ι:=fun _ _=>none,κ:=fun _=>g.κ q } ⟨[G cs],[]⟩ w where
 n:=rfl
 mem:=h.mem
 gl:=h.gl
 gw:=h.gw
 obj:=fun i cs' hi=>by
  cases i with
  |zero=>
   simp at hi;subst hi
   obtain⟨us,rest,e,hb,hr,h1,hM,hκ⟩:=h.obj q cs hq
   exact⟨us,rest,e,hb,Cs (by rfl) hp hr,h1,hM,hκ⟩
  |succ i=>simp at hi
 inj:=fun i j cs1 cs2 hi hj _=>by
  cases i with
  |zero=>
   cases j with
   |zero=>rfl
   |succ j=>simp at hj
  |succ i=>simp at hi
 own:=fun k sz xs hx=>by simp at hx
 tags:=by simp
 sep:=fun x hx=>by simp at hx
 ownObj:=fun x hx=>by simp at hx
 fresh:=fun _ _ _=>rfl
theorem SL{M:cg}{b0:Nat}{w:yy}{b:Nat}{ι:Nat->Nat->Option yx}{κ:Nat->Nat}{cs:List D}(h:co.priv ⟨{ M,β:=fun _=>b0,n:=1,ι,κ },w,⟨[G cs],[]⟩⟩ b):b=b0:=by
 rcases h with⟨i,cs',hi,e⟩|⟨x,hx,_⟩
 ·exact e
 ·simp at hx
theorem WI.back1{E:co}{g g':Gh}{w w':yy}{q:Nat}{cs cs':List D}{own':List (Nat×Nat×List V)}(hw:WI E g σ w)(hq:σ.H[q]?=G (G cs))(hp':D.pls cs'=J)
  (h:WI ⟨{ M:=g.M,β:=fun _=>g.β q,n:=1,ι:=fun _ _=>none,κ:=fun _=>g.κ q },w,⟨[G cs],[]⟩⟩ g' ⟨[G cs'],own'⟩ w'):WI E { g with M:=g'.M } ⟨σ.H.set q (G cs'),σ.own⟩ w'/\g.le { g with M:=g'.M }:=by
 refine⟨hw.setObjG h.M hq (fun c hc=>?_) (fun b hb hne=>?_) h.rep.mem h.size h.os h.tape h.output (drawn:=h.drawn),⟨h.M,HX _,fun _ _=>rfl,fun _ _ _ h=>h,fun _ _=>rfl⟩⟩
 ·simp at hc;subst hc
  obtain⟨us,rest,e,hb,hr,h1,hM,hκ⟩:=h.rep.obj 0 cs' (by simp)
  have hβ:g'.β 0=g.β q:=h.βE 0 (by simp)
  have hκ':g'.κ 0=g.κ q:=h.κE 0 (by simp)
  rw[hβ] at hb hM
  exact⟨us,rest,e,hb,Cs (by rfl) hp' hr,h1,hM,hκ.trans hκ'⟩
 ·exact h.keep b hb (fun hpr=>hne (SL hpr))
theorem Ov{c:Call}{fo:x5}(ho:o.op=.call c)(hc:c.callee=.value fo){f:yv}{fs cs:List V}{ds dc:List D}{q:Nat}{os os':List D}(hq:σ.H[q]?=G (G os))(hos:D.pls os=J)(hos':D.pls os'=J)(ha:EJ q ds dc)(hd:d.pl=J)
  (hspec:Aa P f (fs.map .v++dc++cs.map .v) ⟨[G os],[]⟩ d ⟨[G os'],[]⟩):Ay P o (.v (.fn f fs cs)::ds) σ d ⟨σ.H.set q (G os'),σ.own⟩:=by
 intro E g a w K Q hw hds hK
 obtain⟨us,vs,ws,hf,hargs,h1,h2,h3⟩:=DE ho hc hds
 refine FH (_E:=E) (_g:=g) ho hc hspec.1 hf hargs ?_
 have hargs':Ar { M:=g.M,β:=fun _=>g.β q,n:=1,ι:=fun _ _=>none,κ:=fun _=>g.κ q } (fs.map .v++dc++cs.map .v) (us++ws++vs):=
  A7 (A7 (Cs (by rfl) (Cg fs) h1) (EJ.rep (q:=q) (g:=g) (by rfl) (by rfl) (by simp) ha h3)) (Cs (by rfl) (Cg cs) h2)
 refine Calls.mono (hspec.2 _ w _ (hw.rep.one hq hos) hargs') ?_
 rintro e w' ⟨u,g',rfl,hw',hr⟩
 obtain⟨h4,h5⟩:=hw.back1 hq hos' hw'
 exact⟨u,rfl,hK _ _ _ h4 h5 (NW (by rfl) hd hr)⟩
theorem Qa{c:Call}{fo:x5}(ho:o.op=.call c)(hc:c.callee=.value fo){f:yv}{fs cs:List V}{ds dc:List D}{q:Nat}{os os':List D}(hq:σ.H[q]?=G (G os))(hos:D.pls os=J)(hos':D.pls os'=J)(ha:EJ q ds dc)
  {k' sz:Nat} {xs:List V} (k:Nat) (hk:∀x∈σ.own,x.1≠k) (hspec:Aa P f (fs.map .v++dc++cs.map .v) ⟨[G os],[]⟩ (.acc k' xs) ⟨[G os'],[(k',sz,xs)]⟩):
  Ay P o (.v (.fn f fs cs)::ds) σ (.acc k xs) ⟨σ.H.set q (G os'),(k,sz,xs)::σ.own⟩:=by
 intro E g a w K Q hw hds hK
 obtain⟨us,vs,ws,hf,hargs,h1,h2,h3⟩:=DE ho hc hds
 refine FH (_E:=E) (_g:=g) ho hc hspec.1 hf hargs ?_
 have hargs':Ar { M:=g.M,β:=fun _=>g.β q,n:=1,ι:=fun _ _=>none,κ:=fun _=>g.κ q } (fs.map .v++dc++cs.map .v) (us++ws++vs):=
  A7 (A7 (Cs (by rfl) (Cg fs) h1) (EJ.rep (q:=q) (g:=g) (by rfl) (by rfl) (by simp) ha h3)) (Cs (by rfl) (Cg cs) h2)
 refine Calls.mono (hspec.2 _ w _ (hw.rep.one hq hos) hargs') ?_
 rintro e w' ⟨u,g',rfl,hw',hr⟩
 obtain⟨h4,h5⟩:=hw.back1 hq hos' hw'
 simp only[Av] at hr
 obtain⟨hsz,u',hu',hr',hp',_⟩:=hw'.rep.own k' sz xs (by simp)
 obtain rfl:u=u':=by rw[hr.2] at hu';simpa using hu'
 have hβ:g'.β 0=g.β q:=hw'.βE 0 (by simp)
 obtain⟨h6,h7⟩:=h4.addOwn (k:=k) (sz:=sz) (xs:=xs) (u:=u) hk hsz hr' hp' (fun b hb=>by
  have hne:g'.β 0≠b:=hw'.rep.ownObj (k',sz,xs) (by simp) u hr.2 b hb 0 os' (by simp)
  rcases hw'.owns (k',sz,xs) (by simp) u hr.2 b hb with h|h
  ·refine⟨IN hw.size h,fun i cs hi=>?_,fun x hx v hv hvb=>?_⟩
   ·obtain⟨cs2,hc2⟩:∃cs2,σ.H[i]?=G (G cs2):=by
     rw[getElem?_set] at hi
     split at hi
     ·rename_i e;subst e;exact⟨_,hq⟩
     ·exact⟨_,hi⟩
    have:=hw.rep.obj_lt hc2;simp only at h⊢;omega
   ·have:=hw.rep.own_lt hx hv hvb;simp only at h;omega
  ·exact absurd (SL h) (fun e=>hne (by rw[hβ,e])))
 exact⟨u,rfl,hK _ _ _ h6 (Gh.le_trans h5 h7) (by simp only[Av];exact⟨hr',by simp⟩)⟩
end
theorem WI.restrict{E:co}{g:Gh}{σ σ':St}{w:yy}(hw:WI E g σ w){m:Nat}(hH:σ'.H=σ.H.take m)(hm:m<=I σ.H)(hE:E.g.n<=m)(hc:∀(i:Nat) (cs:List D),σ'.H[i]?=G (G cs)->D.pls cs=J)(hown:σ'.own.Sublist σ.own):
  WI E { g with n:=m,ι:=fun k j=>if k∈σ'.own.map (·.1) then g.ι k j else none } σ' w:=by
 have get:∀(i:Nat) (cs:List D),σ'.H[i]?=G (G cs)->σ.H[i]?=G (G cs)/\i<m:=by
  intro i cs hi
  rw[hH,Jw] at hi
  split at hi
  ·exact⟨hi,by assumption⟩
  ·simp at hi
 have hι:∀x∈σ'.own,(if x.1∈σ'.own.map (·.1) then g.ι x.1 (I x.2.2) else none)=g.ι x.1 (I x.2.2):=fun x hx=>Io (IA.2 ⟨x,hx,rfl⟩)
 refine{ rep:=⟨?_,hw.rep.mem,fun i cs hi=>?_,fun i j cs ds hi hj=>hw.rep.inj i j cs ds (get i cs hi).1 (get j ds hj).1,fun k sz xs hx=>?_,?_,fun x hx y hy hne u u' hu hu' b hb=>?_,fun x hx u hu b hb i cs hi=>?_,fun k hk j=>?_,hw.rep.gl,hw.rep.gw⟩,M:=hw.M,size:=hw.size,keep:=hw.keep,os:=hw.os,tape:=hw.tape,output:=hw.output,nE:=hE,βE:=fun o ho=>hw.βE o ho,κE:=fun o ho=>hw.κE o ho,objs:=fun i cs hi=>hw.objs i cs (get i cs hi).1,owns:=fun x hx u hu b hb=>?_,drawn:=hw.drawn }
 ·simp[hH];omega
 ·obtain⟨us,rest,e,h1,h2,h3,h4⟩:=hw.rep.obj i cs (get i cs hi).1
  exact⟨us,rest,e,h1,Cs (by rfl) (hc i cs hi) h2,h3,h4⟩
 ·obtain⟨h0,u,hu,h1,h2,h3⟩:=hw.rep.own k sz xs (hown.subset hx)
  refine⟨h0,u,(hι _ hx).trans hu,h1,h2,fun j hj=>?_⟩
  simp only
  split
  ·exact h3 j hj
  ·rfl
 ·exact(hown.map _).nodup hw.rep.tags
 ·exact hw.rep.sep x (hown.subset hx) y (hown.subset hy) hne u u' ((hι x hx).symm.trans hu) ((hι y hy).symm.trans hu') b hb
 ·exact hw.rep.ownObj x (hown.subset hx) u ((hι x hx).symm.trans hu) b hb i cs (get i cs hi).1
 ·simp only
  rw[Ij]
  intro h
  obtain⟨x,hx,e⟩:=IA.1 h
  exact hk x hx e
 ·exact hw.owns x (hown.subset hx) u ((hι x hx).symm.trans hu) b hb
inductive QU (P:x4) (env:List D) (σ:St):List ResultVar->List D->Prop
 |nil:QU P env σ [] []
 |tmp {t:Tmp} {d:D} {rs:List ResultVar} {ds:List D} (h:env[t]?=G d) (hr:QU P env σ rs ds):QU P env σ (.tmp t::rs) (d::ds)
 |cellA {a:Tmp} {t:yz} {q off n:Nat} {cs:List D} {xs:List V} {rs:List ResultVar} {ds:List D} (h:env[a]?=G (.ptr q off)) (hH:σ.H[q]?=G (G cs)) (ht:Sf P t n) (hn:off+n<=I cs)
   (hc:ES ((cs.drop off).take n)=G xs) (hr:QU P env σ rs ds):QU P env σ (.cell a t::rs) (.v (.agg xs)::ds)
 |cell1 {a:Tmp} {t:yz} {q off:Nat} {cs:List D} {d:D} {rs:List ResultVar} {ds:List D} (h:env[a]?=G (.ptr q off)) (hH:σ.H[q]?=G (G cs)) (ht:Pp P t) (hc:cs[off]?=G d) (hr:QU P env σ rs ds):
   QU P env σ (.cell a t::rs) (d::ds)
 |cellD {a:Tmp} {t:yz} {q off n:Nat} {cs:List D} {rs:List ResultVar} {ds:List D} (h:env[a]?=G (.ptr q off)) (hH:σ.H[q]?=G (G cs)) (ht:Sf P t n) (hn:off+n<=I cs) (hr:QU P env σ rs ds):
   QU P env σ (.cell a t::rs) (.dagg ((cs.drop off).take n)::ds)
theorem dp{g:Gh}{env:List D}{a:Act}(h:Ar g env a.tmps.toList){t:Nat}{d:D}(hd:env[t]?=G d):Av g d (a.tmps.getD t undef):=by
 have:=F4 h t
 simpa[g9,HY,hd,Act.eval] using this
def mb(tmps:Array yx):ResultVar->Sem yx
 |.tmp t=>pure (tmps.getD t undef)
 |.cell a t=>do loadVar t (←asAddr (tmps.getD a undef))
theorem MF(fn:yu)(tmps:Array yx):results fn tmps=(do let vs ←fn.results.mapM (mb tmps);pure (if h:vs.size=1 then vs[0] else .tuple vs)):=by
 unfold results
 rfl
theorem QU.run{P:x4}{env:List D}{σ:St}{E:co}{g:Gh}{a:Act}{w:yy}(hf:FI E g σ env a w):∀{rs:List ResultVar} {ds:List D},QU P env σ rs ds->
  ∃us,(rs.mapM (mb a.tmps)).run P w=.ok us w/\Ar g ds us
 |_,_,.nil=>⟨[],by simp,by simp[Ar]⟩
 |_,_,.tmp (t:=t) h hr=>by
  obtain⟨us,h1,h2⟩:=QU.run hf hr
  refine⟨a.tmps.getD t undef::us,?_,?_⟩
  ·rw[List.mapM_cons]
   simp only[mb,Sem.run_bind,Sem.run_pure,Result.andThen_ok,h1]
  ·simp only[Ar];exact⟨_,us,rfl,dp hf.env h,h2⟩
 |_,_,.cellA (n:=n) (cs:=cs) (off:=off) (q:=q) h hH ht hn hc hr=>by
  obtain⟨us,h1,h2⟩:=QU.run hf hr
  have hp:=dp hf.env h
  simp only[Av] at hp
  obtain⟨us',rest',et,hb,hrr,hone,_⟩:=hf.wi.rep.obj q cs hH
  have hra:=Hx hc (Cr (Cu hrr off) n) (fun c hc'=>hone c (II (Jr hc')))
  have hl:I us'=I cs:=AF hrr
  have hld:=run_loadCells_list (P:=P) w ⟨g.β q,off,none⟩ ((us'.drop off).take n) (fun j v hj=>by
   rw[Jw] at hj
   split at hj
   ·rw[getElem?_drop] at hj
    rw[Addr.add_lit]
    simp only[World.cell?,hb,IW];exact Df hj
   ·simp at hj)
  have hlen:I ((us'.drop off).take n)=n:=by simp;omega
  rw[hlen] at hld
  refine⟨.agg ((us'.drop off).take n).toArray::us,?_,?_⟩
  ·rw[List.mapM_cons]
   simp only[mb,Sem.run_bind,Sem.run_pure,Result.andThen_ok,hp.2,asAddr,loadVar,CX ht,cd ht,hld,Jj,h1]
  ·simp only[Ar,Av,CF];exact⟨_,us,rfl,⟨_,hra,rfl⟩,h2⟩
 |_,_,.cell1 (cs:=cs) (off:=off) (q:=q) h hH ht hc hr=>by
  obtain⟨us,h1,h2⟩:=QU.run hf hr
  have hp:=dp hf.env h
  simp only[Av] at hp
  obtain⟨us',rest',et,hb,hrr,hone,_⟩:=hf.wi.rep.obj q cs hH
  obtain⟨u',hu,hd⟩:=BL hrr hc
  have hcell:w.cell? ⟨g.β q,off,none⟩=G u':=by simp only[World.cell?,hb,IW];exact Df hu
  refine⟨u'::us,?_,?_⟩
  ·rw[List.mapM_cons]
   simp only[mb,Sem.run_bind,hp.2,asAddr,Sem.run_pure,Result.andThen_ok,loadVar,CX ht,J6,if_false,run_load,hcell,h1]
  ·simp only[Ar];exact⟨u',us,rfl,hd,h2⟩
 |_,_,.cellD (n:=n) (cs:=cs) (off:=off) (q:=q) h hH ht hn hr=>by
  obtain⟨us,h1,h2⟩:=QU.run hf hr
  have hp:=dp hf.env h
  simp only[Av] at hp
  obtain⟨us',rest',et,hb,hrr,hone,_⟩:=hf.wi.rep.obj q cs hH
  have hra:=Cr (Cu hrr off) n
  have hl:I us'=I cs:=AF hrr
  have hld:=run_loadCells_list (P:=P) w ⟨g.β q,off,none⟩ ((us'.drop off).take n) (fun j v hj=>by
   rw[Jw] at hj
   split at hj
   ·rw[getElem?_drop] at hj
    rw[Addr.add_lit]
    simp only[World.cell?,hb,IW];exact Df hj
   ·simp at hj)
  have hlen:I ((us'.drop off).take n)=n:=by simp;omega
  rw[hlen] at hld
  refine⟨.agg ((us'.drop off).take n).toArray::us,?_,?_⟩
  ·rw[List.mapM_cons]
   simp only[mb,Sem.run_bind,Sem.run_pure,Result.andThen_ok,hp.2,asAddr,loadVar,CX ht,cd ht,hld,Jj,h1]
  ·simp only[Ar,Av];exact⟨_,us,rfl,⟨_,rfl,hra⟩,h2⟩
def UW:List D->D
 |[d]=>d
 |ds=>.tup ds
theorem Aa.un{P:x4}{f:yv}{ds:List D}{σ:St}{k sz:Nat}{xs:List V}{H:List (Option (List D))}(hH:∀(i:Nat) (cs:List D),H[i]?=G (G cs)->D.pls cs=J)(hn:I σ.H<=I H)
  (h:Aa P f ds σ (.acc k xs) ⟨H,[(k,sz,xs)]⟩):Aa P f ds σ (.v (.list xs)) ⟨H,[]⟩:=by
 refine⟨h.1,fun g w args hw hargs=>?_⟩
 refine Calls.mono (h.2 g w args hw hargs) ?_
 rintro e w' ⟨u,g',rfl,hw',hr⟩
 refine⟨u,_,rfl,hw'.restrict (σ':=⟨H,[]⟩) (m:=I H) (by simp) (HX _) (by simp only[hw.n];exact hn) hH (by simp),?_⟩
 simp only[Av] at hr⊢
 exact hr.1
section
variable {C : co -> co -> Prop} {P : x4} {R : List D -> St -> Prop} {k : List KI} {env : List D} {σ : St}
theorem Fu:∀xs:List V,ES (xs.map .v)=G xs
 |[]=>rfl
 |x::xs=>by simp[ES,D.toV,Fu xs]
end
def HB(acc:List Nat)(o:yw):Nat:=o.after.toList.foldl (fun s e=>if Region.binds .any e then s|||2^e.on|||acc.getD e.on 0 else s) 0
def EI:List Nat->List yw->List Nat
 |acc,[]=>acc
 |acc,o::os=>EI (acc++[HB acc o]) os
theorem MW(acc:List Nat)(i:Nat):∀(es:List Edge) (s:Nat),(es.foldl (fun s e=>if Region.binds .any e then s|||2^e.on|||acc.getD e.on 0 else s) s).testBit i=J->
  s.testBit i=J∨∃e∈es,Region.binds .any e=J/\(i=e.on∨(acc.getD e.on 0).testBit i=J)
 |[],s,h=>.inl h
 |e::es,s,h=>by
  simp only[Jo] at h
  rcases MW acc i es _ h with h|⟨e',he,hb,hi⟩
  ·split at h
   ·rename_i hb
    simp only[Nat.testBit_or,Bool.or_eq_true] at h
    rcases h with(h|h)|h
    ·exact .inl h
    ·refine .inr ⟨e,by simp,hb,.inl ?_⟩
     rw[Nat.testBit_two_pow] at h
     simpa using(Ib h).symm
    ·exact .inr ⟨e,by simp,hb,.inr h⟩
   ·exact .inl h
  ·exact .inr ⟨e',by simp[he],hb,hi⟩
def DC(ops:Array yw)(S:Nat->Bool):Prop:=∀i o,ops[i]?=G o->S i=J->∀e∈o.after,Region.binds .any e=J->S e.on=J
def rc(acc:List Nat)(S:Nat->Bool):Prop:=∀j m,acc[j]?=G m->S j=J->∀i,m.testBit i=J->S i=J
theorem Qq{acc:List Nat}{S:Nat->Bool}{o:yw}(hg:rc acc S)(hd:∀e∈o.after,Region.binds .any e=J->S e.on=J):∀i,(HB acc o).testBit i=J->S i=J:=by
 intro i hi
 rcases MW acc i _ _ hi with h|⟨e,he,hb,h⟩
 ·simp at h
 ·have hs:=hd e (by simpa using he) hb
  rcases h with rfl|h
  ·exact hs
  ·cases hm:acc[e.on]? with
   |none=>simp[HY,hm] at h
   |some m=>
    rw[HY,hm] at h
    exact hg e.on m hm hs i h
theorem RK{ops:Array yw}{S:Nat->Bool}(hdc:DC ops S):∀(os:List yw) (acc:List Nat),(∀k,os[k]?=ops[I acc+k]?)->rc acc S->rc (EI acc os) S
 |[],acc,_,hg=>hg
 |o::os,acc,ha,hg=>by
  simp only[EI]
  refine RK hdc os _ (fun k=>?_) ?_
  ·have:=ha (k+1)
   simp only[Ig,List.length_singleton]
   rw[show I acc+1+k=I acc+(k+1) by omega]
   simpa using this
  ·intro j m hj hs i hi
   by_cases hlt:j<I acc
   ·rw[Ip hlt] at hj
    exact hg j m hj hs i hi
   ·have hj':j=I acc:=by
     have:=(HT.1 hj).1
     simp at this;omega
    subst hj'
    rw[Il (HX _)] at hj
    simp at hj
    subst hj
    have ho:ops[I acc]?=G o:=by have:=ha 0;simpa using this.symm
    exact Qq hg (hdc _ o ho hs) i hi
theorem N8:∀(os:List yw) (acc:List Nat),∃r,EI acc os=acc++r
 |[],acc=>⟨[],by simp[EI]⟩
 |o::os,acc=>by
  obtain⟨r,h⟩:=N8 os (acc++[HB acc o])
  exact⟨HB acc o::r,by simp[EI,h]⟩
theorem Ut:∀(os:List yw) (acc:List Nat) (k:Nat) (o:yw),os[k]?=G o->∃acc',(EI acc os)[I acc+k]?=G (HB acc' o)/\∃r,EI acc os=acc'++r
 |[],acc,k,o,h=>by simp at h
 |o0::os,acc,k,o,h=>by
  simp only[EI]
  cases k with
  |zero=>
   simp at h;subst h
   obtain⟨r,hr⟩:=N8 os (acc++[HB acc o0])
   refine⟨acc,?_,HB acc o0::r,by rw[hr];simp⟩
   rw[hr];simp
  |succ k=>
   simp at h
   obtain⟨acc',h1,h2⟩:=Ut os (acc++[HB acc o0]) k o h
   refine⟨acc',?_,h2⟩
   simp only[Ig,List.length_singleton] at h1
   rw[show I acc+(k+1)=I acc+1+k by omega]
   exact h1
theorem EX{ops:Array yw}{S:Nat->Bool}(hdc:DC ops S){j:Nat}{o:yw}(ho:ops[j]?=G o)(hr:∀e∈o.after,Region.binds .any e=J->S e.on=J):
  ∀i,((EI [] ops.toList).getD j 0).testBit i=J->S i=J:=by
 intro i hi
 obtain⟨acc',h1,r,h2⟩:=Ut ops.toList [] j o (by simpa using ho)
 simp only[HZ,IC] at h1
 rw[HY,h1] at hi
 have hg:=RK hdc ops.toList [] (fun k=>by simp) (fun j m hj=>by simp at hj)
 rw[h2] at hg
 exact Qq (acc:=acc') (fun j m hj=>hg j m (by rw[Ip (HT.1 hj).1];exact hj)) hr i hi
theorem Gi{ops:Array yw}{S:Nat->Bool}(hdc:DC ops S){j:Nat}(hs:S j=J):∀i,((EI [] ops.toList).getD j 0).testBit i=J->S i=J:=by
 intro i hi
 have hg:=RK hdc ops.toList [] (fun k=>by simp) (fun j m hj=>by simp at hj)
 cases hm:(EI [] ops.toList)[j]? with
 |none=>simp[HY,hm] at hi
 |some m=>
  rw[HY,hm] at hi
  exact hg j m hm hs i hi
def EY(ops:Array yw)(o:yw):List Tmp:=
 (o.op.operands.toList.filterMap fun|.tmp t=>G t|_=>none)++(match o.guard with|G (j,_)=>((ops[j]?).bind (·.dst)).toList|none=>[])
def FW(ops:Array yw)(x y:yw):Bool:=
 (match x.dst with|G t=>(EY ops y).contains t||y.dst==G t|none=>false)||(match y.dst with|G t=>(EY ops x).contains t|none=>false)
def PN(ops:Array yw)(effs:List Bool):Bool:=
 let b:=EI [] ops.toList
 (List.range ops.size).all fun j=>
  match ops[j]? with
  |none=>false
  |some oj=>
   oj.after.all (fun e=> !Region.binds .any e||Y (e.on<j))&&
   (List.range j).all fun i=>
    match ops[i]? with
    |none=>false
    |some oi=> !(FW ops oi oj||(effs.getD i false&&effs.getD j false))||(b.getD j 0).testBit i
theorem MJ{ops:Array yw}{effs:List Bool}(h:PN ops effs=J){j:Nat}{o:yw}(ho:ops[j]?=G o):∀e∈o.after,Region.binds .any e=J->e.on<j:=by
 intro e he hb
 have hlt:j<ops.size:=(IM.1 ho).1
 have h1:=ID.1 h j (by simpa using hlt)
 simp only[ho,HR] at h1
 have h2:=Array.all_eq_true_iff_forall_mem.1 h1.1 e he
 simpa[hb] using h2
theorem DJ{ops:Array yw}{effs:List Bool}(h:PN ops effs=J){i j:Nat}{oi oj:yw}(hi:ops[i]?=G oi)(hj:ops[j]?=G oj)(hij:i<j)(hc:FW ops oi oj=J∨(effs.getD i false=J/\effs.getD j false=J)):
  ((EI [] ops.toList).getD j 0).testBit i=J:=by
 have hlt:j<ops.size:=(IM.1 hj).1
 have h1:=ID.1 h j (by simpa using hlt)
 simp only[hj,HR] at h1
 have h2:=ID.1 h1.2 i (by simpa using hij)
 simp only[hi,Bool.or_eq_true,IJ] at h2
 rcases h2 with h2|h2
 ·rcases hc with hc|⟨hc1,hc2⟩
  ·simp[hc] at h2
  ·simp only[hc1,hc2,Bool.and_self,Bool.or_true] at h2
   exact absurd h2 (by simp)
 ·exact h2
abbrev It:=Option Tmp×D×Bool
def BQ(S:Nat->Bool)(e:List D)(x:It×Nat):List D:=if S x.2 then CG e x.1.1 x.1.2.1 else e
def FG(items:List It)(S:Nat->Bool)(env0:List D):List D:=(items.zipIdx 0).foldl (BQ S) env0
def BM(S:Nat->Bool)(c:Nat)(x:It×Nat):Nat:=if S x.2&&x.1.2.2 then c+1 else c
def EN(items:List It)(S:Nat->Bool):Nat:=(items.zipIdx 0).foldl (BM S) 0
theorem SH{e:List D}{t:Option Tmp}{d:D}(s:Nat):(CG e t d)[s]?=if t=G s then(e[s]?).map (fun _=>d) else e[s]?:=by
 cases t with
 |none=>simp[CG]
 |some t=>
  simp only[CG,getElem?_set,I1]
  by_cases h:t=s
  ·subst h
   simp only[Jj]
   by_cases hl:t<I e<;>simp[hl]
  ·simp[h]
theorem DP{S S':Nat->Bool}{t:Tmp}:∀(l:List (It×Nat)) (e e':List D),(∀x∈l,x.1.1=G t->S x.2=S' x.2)->e[t]?=e'[t]?->(l.foldl (BQ S) e)[t]?=(l.foldl (BQ S') e')[t]?
 |[],e,e',_,h=>h
 |x::l,e,e',hl,h=>by
  simp only[Jo]
  refine DP l _ _ (fun y hy=>hl y (by simp[hy])) ?_
  by_cases hx:x.1.1=G t
  ·have:=hl x (by simp) hx
   unfold BQ
   rw[this]
   split
   ·simp[SH,hx,h]
   ·exact h
  ·unfold BQ
   have hp:∀e:List D,(CG e x.1.1 x.1.2.1)[t]?=e[t]?:=fun e=>by rw[SH,Ij hx]
   split<;>split<;>simp[hp,h]
theorem ED{S S':Nat->Bool}:∀(l:List (It×Nat)) (c:Nat),(∀x∈l,x.1.2.2=J->S x.2=S' x.2)->l.foldl (BM S) c=l.foldl (BM S') c
 |[],c,_=>rfl
 |x::l,c,hl=>by
  simp only[Jo]
  have:BM S c x=BM S' c x:=by
   unfold BM
   cases hx:x.1.2.2 with
   |false=>simp
   |true=>rw[hl x (by simp) hx]
  rw[this]
  exact ED l _ (fun y hy=>hl y (by simp[hy]))
theorem mem_zipIdx{items:List It}{x:It×Nat}(h:x∈items.zipIdx 0):items[x.2]?=G x.1:=by
 have:=List.mem_zipIdx h
 simp only[IC,Nat.sub_zero,I3,true_and] at this
 obtain⟨h1,h2⟩:=this
 rw[HQ h1,h2]
theorem ON{items:List It}{S:Nat->Bool}{env0:List D}{j:Nat}{it:It}(hj:items[j]?=G it)(hS:S j=O)(hlast:∀(i:Nat) (x:It),items[i]?=G x->S i=J->j<i->it.1=none∨x.1≠it.1):
  FG items (fun i=>S i||i==j) env0=CG (FG items S env0) it.1 it.2.1:=by
 have hjl:j<I items:=(HT.1 hj).1
 have hsplit:items=items.take j++it::items.drop (j+1):=by
  have:items.drop j=it::items.drop (j+1):=by
   rw[Ih hjl]
   congr 1
   exact(HT.1 hj).2
  rw[←this,List.take_append_drop]
 have hlen:I (items.take j)=j:=by simp;omega
 have hz:items.zipIdx 0=(items.take j).zipIdx 0++(it,j)::(items.drop (j+1)).zipIdx (j+1):=by
  conv=>lhs;rw[hsplit]
  rw[List.zipIdx_append,zipIdx_cons,hlen]
  simp
 unfold FG
 rw[hz,List.foldl_append,List.foldl_append,Jo,Jo]
 have e1:(items.take j).zipIdx.foldl (BQ fun i=>S i||i==j) env0=(items.take j).zipIdx.foldl (BQ S) env0:=by
  have:∀(l:List (It×Nat)) (e:List D),(∀x∈l,x.2≠j)->l.foldl (BQ fun i=>S i||i==j) e=l.foldl (BQ S) e:=by
   intro l
   induction l with
   |nil=>intro e _;rfl
   |cons x l ih=>
    intro e hl
    simp only[Jo]
    have hx:=hl x (by simp)
    have:BQ (fun i=>S i||i==j) e x=BQ S e x:=by unfold BQ;simp[hx]
    rw[this];exact ih _ (fun y hy=>hl y (by simp[hy]))
  refine this _ _ (fun x hx=>?_)
  have:=(List.mem_zipIdx hx).2.1
  omega
 rw[e1]
 generalize (items.take j).zipIdx.foldl (BQ S) env0=E
 have s1:BQ (fun i=>S i||i==j) E (it,j)=CG E it.1 it.2.1:=by simp[BQ]
 have s2:BQ S E (it,j)=E:=by simp[BQ,hS]
 rw[s1,s2]
 -- what follows does not touch the slot
 have later:∀(l:List (It×Nat)) (e:List D),(∀x∈l,x.2≠j/\(S x.2=J->it.1=none∨x.1.1≠it.1))->l.foldl (BQ fun i=>S i||i==j) (CG e it.1 it.2.1)=CG (l.foldl (BQ S) e) it.1 it.2.1:=by
  intro l
  induction l with
  |nil=>intro e _;rfl
  |cons x l ih=>
   intro e hl
   simp only[Jo]
   obtain⟨hx,hd⟩:=hl x (by simp)
   have hh:BQ (fun i=>S i||i==j) (CG e it.1 it.2.1) x=CG (BQ S e x) it.1 it.2.1:=by
    unfold BQ
    have hxj:(x.2==j)=O:=by simpa using hx
    simp only[hxj,Bool.or_false]
    split
    ·rename_i hs
     rcases hd hs with h|h
     ·rw[h];simp[CG]
     ·cases h1:it.1 with
      |none=>simp[CG]
      |some t=>
       cases h2:x.1.1 with
       |none=>simp[CG]
       |some t'=>
        simp only[CG]
        rw[h1,h2] at h
        have hne:t≠t':=fun e=>h (by rw[e])
        exact List.set_comm _ _ hne
    ·rfl
   rw[hh]
   exact ih _ (fun y hy=>hl y (by simp[hy]))
 refine later _ _ (fun x hx=>?_)
 have hm:=List.mem_zipIdx hx
 refine⟨by omega,fun hs=>hlast x.2 x.1 ?_ hs (by omega)⟩
 have h3:=hm.2.2
 have h4:=hm.2.1
 have h5:=hm.1
 rw[h3,List.getElem_drop]
 rw[HQ (by simp at h4;omega)]
 congr 2
 omega
theorem OV{items:List It}{S:Nat->Bool}{j:Nat}{it:It}(hj:items[j]?=G it)(hS:S j=O):EN items (fun i=>S i||i==j)=EN items S+(if it.2.2 then 1 else 0):=by
 have hjl:j<I items:=(HT.1 hj).1
 have hsplit:items=items.take j++it::items.drop (j+1):=by
  have:items.drop j=it::items.drop (j+1):=by
   rw[Ih hjl]
   congr 1
   exact(HT.1 hj).2
  rw[←this,List.take_append_drop]
 have hlen:I (items.take j)=j:=by simp;omega
 have hz:items.zipIdx 0=(items.take j).zipIdx 0++(it,j)::(items.drop (j+1)).zipIdx (j+1):=by
  conv=>lhs;rw[hsplit]
  rw[List.zipIdx_append,zipIdx_cons,hlen]
  simp
 have same:∀(l:List (It×Nat)) (c:Nat),(∀x∈l,x.2≠j)->l.foldl (BM fun i=>S i||i==j) c=l.foldl (BM S) c:=by
  intro l
  induction l with
  |nil=>intro c _;rfl
  |cons x l ih=>
   intro c hl
   simp only[Jo]
   have hx:=hl x (by simp)
   have:BM (fun i=>S i||i==j) c x=BM S c x:=by unfold BM;simp[hx]
   rw[this];exact ih _ (fun y hy=>hl y (by simp[hy]))
 have shift:∀(l:List (It×Nat)) (c d:Nat),l.foldl (BM S) (c+d)=l.foldl (BM S) c+d:=by
  intro l
  induction l with
  |nil=>intro c d;rfl
  |cons x l ih=>
   intro c d
   simp only[Jo]
   have:BM S (c+d) x=BM S c x+d:=by unfold BM;split<;>omega
   rw[this,ih]
 unfold EN
 rw[hz,List.foldl_append,List.foldl_append,Jo,Jo]
 rw[same (items.take j).zipIdx 0 (fun x hx=>by have:=(List.mem_zipIdx hx).2.1;omega)]
 generalize (items.take j).zipIdx.foldl (BM S) 0=c
 have s1:BM (fun i=>S i||i==j) c (it,j)=c+(if it.2.2 then 1 else 0):=by
  unfold BM;simp;split<;>rfl
 have s2:BM S c (it,j)=c:=by simp[BM,hS]
 rw[s1,s2,same _ _ (fun x hx=>by have:=(List.mem_zipIdx hx).1;omega),shift]
end Go.Dv
