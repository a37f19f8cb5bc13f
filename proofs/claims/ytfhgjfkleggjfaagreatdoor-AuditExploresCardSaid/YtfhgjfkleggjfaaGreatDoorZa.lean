/-
  A part of the proof.
-/
import Derived.Calls
import Derived.Laws.AppendOwn
import Derived.Laws.MakeOwn
import Derived.Laws.Slices
import Derived.Laws.Rows
import Derived.Tactics
import Derived.Laws.Strings
import Derived.Great.BuildSlice
import Derived.Lib.Strings
import Derived.Orders
namespace Go
abbrev H9:=@List.length_map
abbrev HA:=@List.getElem?_eq_getElem
abbrev HB:=@Bool.and_eq_true
abbrev HC:=@decide_eq_true
abbrev HD:=@List.getElem?_eq_some_iff
abbrev HE:=@decide_eq_false
abbrev HF:=@List.length_cons
abbrev HG:=@List.mem_of_getElem?
abbrev HH:=@Nat.le_refl
abbrev HI:=@List.getD_eq_getElem?_getD
abbrev HJ:=@List.length_nil
abbrev HK:=@decide_eq_true_eq
abbrev HL:=@of_decide_eq_true
abbrev HM:=@eq_false_of_ne_true
abbrev HN:=@List.cons.injEq
abbrev HO:=@List.length_append
abbrev HP:=@List.drop_eq_getElem_cons
abbrev HQ:=@List.mem_singleton
abbrev HR:=@if_neg
abbrev HS:=@Bool.and_eq_true_iff
abbrev HT:=@List.getElem?_append_right
abbrev HU:=@List.drop_of_length_le
abbrev HV:=@if_pos
abbrev HW:=@List.getElem?_append_left
abbrev HX:=@congrArg
abbrev HY:=@Nat.eq_of_beq_eq_true
abbrev HZ:=@Option.some.inj
abbrev Ia:=@List.map_cons
abbrev Ib:=@Int.le_refl
abbrev Ic:=@List.take_of_length_le
abbrev Ie:=@Nat.le_of_ble_eq_true
abbrev Ig:=@List.length_take
abbrev Ih:=@Bool.false_and
abbrev Ii:=@Option.some.injEq
abbrev Ij:=@Bool.true_and
abbrev Ik:=@Nat.zero_le
abbrev Il:=@beq_iff_eq
abbrev Im:=@Array.length_toList
abbrev Io:=@and_true
abbrev Ip:=@beq_eq_false_iff_ne
abbrev Iq:=@List.mem_cons
abbrev Ir:=@List.getElem?_map
abbrev Is:=@List.mem_map
abbrev Iu:=@of_decide_eq_false
abbrev Iv:=@Nat.zero_add
abbrev Iw:=@List.all_eq_true
abbrev Ix:=@List.mem_append
abbrev Iy:=@List.getElem?_eq_none
abbrev Iz:=@List.append_nil
abbrev I1:=@List.mem_of_mem_drop
abbrev I2:=@Bool.not_eq_true'
abbrev I3:=@And.intro
abbrev I4:=@List.replicate_succ
abbrev I5:=@Array.getElem?_eq_some_iff
abbrev I6:=@Nat.le_trans
abbrev I7:=@List.map_nil
abbrev I8:=@Nat.add_zero
abbrev I9:=@Int.min_def
abbrev IA:=@Option.map_some
abbrev IB:=@List.getElem?_cons_zero
abbrev IC:=@Array.ext'
abbrev ID:=@List.getElem?_toArray
abbrev IE:=@List.mem_or_eq_of_mem_set
abbrev IF:=@List.length_drop
abbrev IG:=@List.append_assoc
abbrev II:=@Int.toNat_natCast
abbrev IJ:=@if_true
abbrev IK:=@Array.getD_eq_getD_getElem?
abbrev IL:=@Nat.add_mul
abbrev IM:=@List.take_add_one
abbrev IN:=@List.foldl_cons
abbrev IP:=@List.size_toArray
abbrev IQ:=@List.map_append
abbrev IR:=@List.mem_of_mem_take
abbrev IT:=@List.eq_nil_of_length_eq_zero
abbrev IU:=@decide_eq_false_iff_not
abbrev IV:=@Nat.lt_of_lt_of_le
abbrev IW:=@List.set_cons_succ
abbrev IX:=@List.getElem?_take
abbrev IY:=@List.flatten_cons
abbrev IZ:=@Option.getD_some
abbrev Ji:=@List.not_mem_nil
abbrev Jj:=@List.take_append_of_le_length
abbrev Jk:=@List.drop_zero
abbrev Jm:=@Array.getElem?_toList
abbrev Jn:=@Bool.and_false
abbrev Jo:=@Option.map_none
abbrev Jp:=@True.intro
abbrev Jq:=@Bool.false_eq_true
abbrev Jr:=@List.cons_append
abbrev Js:=@List.getElem?_cons_succ
end Go
namespace Go.Dv
open Go.IntKind (u64)
open Go.IntKind renaming wrap → yu, i64 → yt
open List renaming length → I, map → U, drop → W
open Option renaming some → G
open Bool renaming true → J, false → O
open Decidable renaming decide → Y
open Int renaming toNat → Z
open _root_.ByteArray renaming mk → bf
open Go renaming Operand → x8, Program → x7, TypeId → x6, World → x5, Value → yz, Oper → yy, FuncId → yx, Func → yw, IntKind → yv
inductive V where
 |int (k:yv) (n:Int)
 |bool (b:Bool)
 |str (s:List UInt8)
 |list (xs:List V)
 |agg (cs:List V)
 |ref (x:V)
 |fn (f:yx) (fs cs:List V)
 |nilfn
 |nilp
 |nils
 |ifc (t:x6) (x:V)
 deriving Inhabited
def V.isAgg:V->Bool
 |.agg _=>true
 |_=>false
def V.size:V->Nat
 |.agg cs=>I cs
 |_=>1
abbrev cd:=Nat->Nat->Option yz
def fg(M:cd)(b off:Nat)(ws:List yz):Prop:=∀j v,ws[j]?=G v->M b (off+j)=G v
def ET:V->List yz->yz
 |.agg _,ws=>.agg ws.toArray
 |_,ws=>ws.headD (.tuple #[])
mutual
def repC(M:cd):V->List yz->Prop
 |.int k n,ws=>ws=[.int k n]
 |.bool b,ws=>ws=[.bool b]
 |.str s,ws=>ws=[.string ⟨s.toArray⟩]
 |.list xs,ws=>∃a cap,ws=[.slice a (I xs) cap]/\xs.length<=cap/\(xs=[]∨∃b off sz us,a=G ⟨b,off,none⟩/\0<sz/\fg M b off us/\repE M sz xs us)
 |.agg cs,ws=>repA M cs ws
 |.ref x,ws=>∃b off us,ws=[.pointer (G ⟨b,off,none⟩)]/\fg M b off us/\repC M x us
 |.fn f fs cs,ws=>∃us vs,ws=[.func (.func f) us.toArray vs.toArray]/\F5 M fs us/\F5 M cs vs
 |.nilfn,ws=>ws=[.nilFunc]
 |.nilp,ws=>ws=[.pointer none]
 |.nils,ws=>ws=[.slice none 0 0]
 |.ifc t x,ws=>∃us,ws=[.iface t (ET x us)]/\repC M x us
def repE(M:cd)(sz:Nat):List V->List yz->Prop
 |[],us=>us=[]
 |x::xs,us=>∃u1 u2,us=u1++u2/\u1.length=sz/\repC M x u1/\repE M sz xs u2
def repA(M:cd):List V->List yz->Prop
 |[],us=>us=[]
 |c::cs,us=>∃u us',us=u::us'/\c.isAgg=O/\repC M c [u]/\repA M cs us'
def F5(M:cd):List V->List yz->Prop
 |[],us=>us=[]
 |x::xs,us=>∃u us' ws,us=u::us'/\repC M x ws/\u=ET x ws/\F5 M xs us'
end
def repV(M:cd)(x:V)(u:yz):Prop:=∃ws,repC M x ws/\u=ET x ws
def cd.le(M M':cd):Prop:=∀b o v,M b o=G v->M' b o=G v
theorem cd.le_refl(M:cd):M.le M:=fun _ _ _ h=>h
theorem cd.le_trans{M M' M'':cd}(h:M.le M')(h':M'.le M''):M.le M'':=fun b o v e=>h' b o v (h b o v e)
theorem fg.mono{M M':cd}{b off:Nat}{ws:List yz}(hm:M.le M')(h:fg M b off ws):fg M' b off ws:=fun j v e=>hm _ _ _ (h j v e)
mutual
theorem repC.mono{M M':cd}(hm:M.le M'):∀(x:V) (ws:List yz),repC M x ws->repC M' x ws
 |.int k n,ws,h=>h
 |.bool b,ws,h=>h
 |.str s,ws,h=>h
 |.list xs,ws,h=>by
  simp only[repC] at h⊢
  obtain⟨a,cap,e,hc,h⟩:=h
  refine⟨a,cap,e,hc,?_⟩
  rcases h with h|⟨b,off,sz,us,ha,hs,hi,he⟩
  ·exact .inl h
  ·exact .inr ⟨b,off,sz,us,ha,hs,hi.mono hm,repE.mono hm sz xs us he⟩
 |.agg cs,ws,h=>by simp only[repC] at h⊢;exact repA.mono hm cs ws h
 |.ref x,ws,h=>by
  simp only[repC] at h⊢
  obtain⟨b,off,us,e,hi,hx⟩:=h
  exact⟨b,off,us,e,hi.mono hm,repC.mono hm x us hx⟩
 |.fn f fs cs,ws,h=>by
  simp only[repC] at h⊢
  obtain⟨us,vs,e,h1,h2⟩:=h
  exact⟨us,vs,e,F5.mono hm fs us h1,F5.mono hm cs vs h2⟩
 |.nilfn,ws,h=>h
 |.nilp,ws,h=>h
 |.nils,ws,h=>h
 |.ifc t x,ws,h=>by
  simp only[repC] at h⊢
  obtain⟨us,e,hx⟩:=h
  exact⟨us,e,repC.mono hm x us hx⟩
theorem repE.mono{M M':cd}(hm:M.le M')(sz:Nat):∀(xs:List V) (us:List yz),repE M sz xs us->repE M' sz xs us
 |[],us,h=>h
 |x::xs,us,h=>by
  simp only[repE] at h⊢
  obtain⟨u1,u2,e,hl,h1,h2⟩:=h
  exact⟨u1,u2,e,hl,repC.mono hm x u1 h1,repE.mono hm sz xs u2 h2⟩
theorem repA.mono{M M':cd}(hm:M.le M'):∀(cs:List V) (us:List yz),repA M cs us->repA M' cs us
 |[],us,h=>h
 |c::cs,us,h=>by
  simp only[repA] at h⊢
  obtain⟨u,us',e,ha,h1,h2⟩:=h
  exact⟨u,us',e,ha,repC.mono hm c [u] h1,repA.mono hm cs us' h2⟩
theorem F5.mono{M M':cd}(hm:M.le M'):∀(xs:List V) (us:List yz),F5 M xs us->F5 M' xs us
 |[],us,h=>h
 |x::xs,us,h=>by
  simp only[F5] at h⊢
  obtain⟨u,us',ws,e,h1,h2,h3⟩:=h
  exact⟨u,us',ws,e,repC.mono hm x ws h1,h2,F5.mono hm xs us' h3⟩
end
theorem repV.mono{M M':cd}(hm:M.le M'){x:V}{u:yz}(h:repV M x u):repV M' x u:=
 let ⟨ws,h1,h2⟩:=h;⟨ws,repC.mono hm x ws h1,h2⟩
theorem DG{M:cd}:∀{cs:List V} {us:List yz},repA M cs us->I us=I cs
 |[],us,h=>by simp only[repA] at h;simp[h]
 |c::cs,us,h=>by
  simp only[repA] at h
  obtain⟨u,us',rfl,_,_,h2⟩:=h
  simp[DG h2]
theorem FK{M:cd}:∀{x:V} {ws:List yz},repC M x ws->I ws=x.size
 |.int k n,ws,h=>by simp only[repC] at h;simp[h,V.size]
 |.bool b,ws,h=>by simp only[repC] at h;simp[h,V.size]
 |.str s,ws,h=>by simp only[repC] at h;simp[h,V.size]
 |.list xs,ws,h=>by simp only[repC] at h;obtain⟨a,cap,e,_⟩:=h;simp[e,V.size]
 |.agg cs,ws,h=>by simp only[repC] at h;simpa[V.size] using DG h
 |.ref x,ws,h=>by simp only[repC] at h;obtain⟨b,off,us,e,_⟩:=h;simp[e,V.size]
 |.fn f fs cs,ws,h=>by simp only[repC] at h;obtain⟨us,vs,e,_⟩:=h;simp[e,V.size]
 |.nilfn,ws,h=>by simp only[repC] at h;simp[h,V.size]
 |.nilp,ws,h=>by simp only[repC] at h;simp[h,V.size]
 |.nils,ws,h=>by simp only[repC] at h;simp[h,V.size]
 |.ifc t x,ws,h=>by simp only[repC] at h;obtain⟨us,e,_⟩:=h;simp[e,V.size]
theorem Db{M:cd}{x:V}{ws:List yz}(hx:x.isAgg=O)(h:repC M x ws):∃u,ws=[u]/\ET x ws=u/\u.oneCell'=J:=by
 cases x with
 |int k n=>simp only[repC] at h;exact⟨_,h,by simp[ET,h],rfl⟩
 |bool b=>simp only[repC] at h;exact⟨_,h,by simp[ET,h],rfl⟩
 |str s=>simp only[repC] at h;exact⟨_,h,by simp[ET,h],rfl⟩
 |list xs=>simp only[repC] at h;obtain⟨a,cap,e,_⟩:=h;exact⟨_,e,by simp[ET,e],rfl⟩
 |agg cs=>simp[V.isAgg] at hx
 |ref x=>simp only[repC] at h;obtain⟨b,off,us,e,_⟩:=h;exact⟨_,e,by simp[ET,e],rfl⟩
 |fn f fs cs=>simp only[repC] at h;obtain⟨us,vs,e,_⟩:=h;exact⟨_,e,by simp[ET,e],rfl⟩
 |nilfn=>simp only[repC] at h;exact⟨_,h,by simp[ET,h],rfl⟩
 |nilp=>simp only[repC] at h;exact⟨_,h,by simp[ET,h],rfl⟩
 |nils=>simp only[repC] at h;exact⟨_,h,by simp[ET,h],rfl⟩
 |ifc t x=>simp only[repC] at h;obtain⟨us,e,_⟩:=h;exact⟨_,e,by simp[ET,e],rfl⟩
theorem BM{M:cd}{x:V}{u:yz}(hx:x.isAgg=O):repV M x u↔repC M x [u]:=by
 constructor
 ·rintro ⟨ws,h,e⟩
  obtain⟨u',e1,e2,_⟩:=Db hx h
  rw[e,e2, ←e1];exact h
 ·intro h
  obtain⟨u',e1,e2,_⟩:=Db hx h
  have:u=u':=by simpa using e1
  exact⟨[u],h,by rw[e2,this]⟩
@[simp] theorem AJ {M:cd} {k:yv} {n:Int} {u:yz}:repV M (.int k n) u↔u=.int k n:=by rw[BM rfl];simp[repC]
@[simp] theorem Es {M:cd} {b:Bool} {u:yz}:repV M (.bool b) u↔u=.bool b:=by rw[BM rfl];simp[repC]
@[simp] theorem CZ {M:cd} {s:List UInt8} {u:yz}:repV M (.str s) u↔u=.string ⟨s.toArray⟩:=by rw[BM rfl];simp[repC]
@[simp] theorem AgA {M:cd} {u:yz}:repV M .nilfn u↔u=.nilFunc:=by rw[BM rfl];simp[repC]
@[simp] theorem Cp {M:cd} {u:yz}:repV M .nils u↔u=.slice none 0 0:=by rw[BM rfl];simp[repC]
@[simp] theorem AhF {M:cd} {u:yz}:repV M .nilp u↔u=.pointer none:=by rw[BM rfl];simp[repC]
theorem B3{M:cd}{xs:List V}{u:yz}:repV M (.list xs) u↔∃a cap,u=.slice a (I xs) cap/\xs.length<=cap/\(xs=[]∨∃b off sz us,a=G ⟨b,off,none⟩/\0<sz/\fg M b off us/\repE M sz xs us):=by
 rw[BM rfl];simp[repC]
theorem DX(M:cd):repV M (.list []) (.slice none 0 0):=by rw[B3];exact⟨none,0,rfl,HH _,.inl rfl⟩
theorem Da{M:cd}{x:V}{u:yz}:repV M (.ref x) u↔∃b off us,u=.pointer (G ⟨b,off,none⟩)/\fg M b off us/\repC M x us:=by rw[BM rfl];simp[repC]
theorem GG{M:cd}{f:yx}{fs cs:List V}{u:yz}:repV M (.fn f fs cs) u↔∃us vs,u=.func (.func f) us.toArray vs.toArray/\F5 M fs us/\F5 M cs vs:=by rw[BM rfl];simp[repC]
theorem C6{M:cd}{cs:List V}{u:yz}:repV M (.agg cs) u↔∃ws,repA M cs ws/\u=.agg ws.toArray:=by simp[repV,repC,ET]
theorem Dl{M:cd}{x:V}{u:yz}(hx:x.isAgg=O)(h:repV M x u):u.oneCell'=J:=by
 obtain⟨ws,h,e⟩:=h
 obtain⟨u',e1,e2,h3⟩:=Db hx h
 rw[e,e2];exact h3
theorem JR{M:cd}{x:V}{u:yz}(h:repV M x u):repC M x u.cells.toList:=by
 obtain⟨ws,h,e⟩:=h
 cases hx:x.isAgg with
 |false=>
  obtain⟨u',e1,e2,h3⟩:=Db hx h
  rw[e,e2]
  have:u'.cells= #[u']:=by cases u'<;>simp_all [Value.cells,Value.oneCell']
  rw[this, ←e1];exact h
 |true=>
  cases x with
  |agg cs=>rw[e];simpa[ET,Value.cells] using h
  |_=>simp[V.isAgg] at hx
theorem GI{M:cd}:∀{cs:List V} {us:List yz},repA M cs us->∀u∈us,u.oneCell'=J
 |[],us,h=>by simp only[repA] at h;simp[h]
 |c::cs,us,h=>by
  simp only[repA] at h
  obtain⟨u,us',rfl,ha,h1,h2⟩:=h
  intro u0 hu
  rcases Iq.1 hu with rfl|hu
  ·obtain⟨u',e1,_,h3⟩:=Db ha h1
   have:u0=u':=by simpa using e1
   rw[this];exact h3
  ·exact GI h2 u0 hu
theorem K2{M:cd}{x:V}{us:List yz}(h:repC M x us):∀u∈us,u.oneCell'=J:=by
 cases hx:x.isAgg with
 |false=>
  obtain⟨u',e1,_,h3⟩:=Db hx h
  rw[e1];intro u hu;simp at hu;rw[hu];exact h3
 |true=>
  cases x with
  |agg cs=>simp only[repC] at h;exact GI h
  |_=>simp[V.isAgg] at hx
inductive D where
 |v (x:V)
 |acc (k:Nat) (xs:List V)
 |ptr (o off:Nat)
 |arr (o off len:Nat)
 |gro (o len sz:Nat)
 |raw (x:yz)
 |rv (x:V) (u:yz)
 |dagg (cs:List D)
 |dfn (f:yx) (fs cs:List D)
 |tup (ds:List D)
 |err
 |undef
 deriving Inhabited
structure Gh where
 M:cd
 β:Nat->Nat
 n:Nat
 ι:Nat->Nat->Option yz
 κ:Nat->Nat
mutual
def Ag(g:Gh):D->yz->Prop
 |.v x,u=>repV g.M x u
 |.acc k xs,u=>repV g.M (.list xs) u/\g.ι k (I xs)=G u
 |.ptr o off,u=>o<g.n/\u=.pointer (G ⟨g.β o,off,none⟩)
 |.arr o off len,u=>o<g.n/\∃cap,len<=cap/\u=.slice (G ⟨g.β o,off,none⟩) len cap
 |.gro o len sz,u=>o<g.n/\∃cap,len<=cap/\cap*sz=g.κ o/\u=.slice (G ⟨g.β o,0,none⟩) len cap
 |.raw x,u=>u=x
 |.rv x u0,u=>u=u0/\repV g.M x u0
 |.dagg cs,u=>∃us,u=.agg us.toArray/\Ad g cs us
 |.dfn f fs cs,u=>∃us vs,u=.func (.func f) us.toArray vs.toArray/\Ad g fs us/\Ad g cs vs
 |.tup ds,u=>∃us,u=.tuple us.toArray/\Ad g ds us
 |.err,u=>∃t p,u=.iface t p
 |.undef,_=>True
def Ad(g:Gh):List D->List yz->Prop
 |[],us=>us=[]
 |d::ds,us=>∃u us',us=u::us'/\Ag g d u/\Ad g ds us'
end
structure Gh.le(g g':Gh):Prop where
 M:g.M.le g'.M
 n:g.n<=g'.n
 β:∀o,o<g.n->g'.β o=g.β o
 ι:∀k m u,g.ι k m=G u->g'.ι k m=G u
 κ:∀o,o<g.n->g'.κ o=g.κ o
theorem Gh.le_refl(g:Gh):g.le g:=⟨g.M.le_refl,HH _,fun _ _=>rfl,fun _ _ _ h=>h,fun _ _=>rfl⟩
theorem Gh.le_trans{g g' g'':Gh}(h:g.le g')(h':g'.le g''):g.le g'':=
 ⟨cd.le_trans h.M h'.M,I6 h.n h'.n,fun o ho=>(h'.β o (IV ho h.n)).trans (h.β o ho),fun k m u e=>h'.ι k m u (h.ι k m u e),fun o ho=>(h'.κ o (IV ho h.n)).trans (h.κ o ho)⟩
mutual
theorem Ag.mono{g g':Gh}(hg:g.le g'):∀(d:D) (u:yz),Ag g d u->Ag g' d u
 |.v x,u,h=>by simp only[Ag] at h⊢;exact h.mono hg.M
 |.acc k xs,u,h=>by simp only[Ag] at h⊢;exact⟨h.1.mono hg.M,hg.ι _ _ _ h.2⟩
 |.ptr o off,u,h=>by simp only[Ag] at h⊢;exact⟨IV h.1 hg.n,by rw[hg.β o h.1];exact h.2⟩
 |.arr o off len,u,h=>by simp only[Ag] at h⊢;exact⟨IV h.1 hg.n,by rw[hg.β o h.1];exact h.2⟩
 |.gro o len sz,u,h=>by simp only[Ag] at h⊢;exact⟨IV h.1 hg.n,by rw[hg.β o h.1,hg.κ o h.1];exact h.2⟩
 |.raw x,u,h=>by simpa only[Ag] using h
 |.rv x u0,u,h=>by simp only[Ag] at h⊢;exact⟨h.1,h.2.mono hg.M⟩
 |.dagg cs,u,h=>by
  simp only[Ag] at h⊢
  obtain⟨us,e,h1⟩:=h
  exact⟨us,e,Ad.mono hg cs us h1⟩
 |.dfn f fs cs,u,h=>by
  simp only[Ag] at h⊢
  obtain⟨us,vs,e,h1,h2⟩:=h
  exact⟨us,vs,e,Ad.mono hg fs us h1,Ad.mono hg cs vs h2⟩
 |.tup ds,u,h=>by
  simp only[Ag] at h⊢
  obtain⟨us,e,h1⟩:=h
  exact⟨us,e,Ad.mono hg ds us h1⟩
 |.err,u,h=>by simpa only[Ag] using h
 |.undef,u,_=>by simp only[Ag]
theorem Ad.mono{g g':Gh}(hg:g.le g'):∀(ds:List D) (us:List yz),Ad g ds us->Ad g' ds us
 |[],us,h=>by simpa only[Ad] using h
 |d::ds,us,h=>by
  simp only[Ad] at h⊢
  obtain⟨u,us',e,h1,h2⟩:=h
  exact⟨u,us',e,Ag.mono hg d u h1,Ad.mono hg ds us' h2⟩
end
theorem A4{g:Gh}:∀{ds:List D} {us:List yz},Ad g ds us->I us=I ds
 |[],us,h=>by simp only[Ad] at h;simp[h]
 |d::ds,us,h=>by
  simp only[Ad] at h
  obtain⟨u,us',rfl,_,h2⟩:=h
  simp[A4 h2]
theorem BF{g:Gh}:∀{ds:List D} {us:List yz},Ad g ds us->∀{i:Nat} {d:D},ds[i]?=G d->∃u,us[i]?=G u/\Ag g d u
 |[],us,h,i,d,hd=>by simp at hd
 |d::ds,us,h,i,d',hd=>by
  simp only[Ad] at h
  obtain⟨u,us',rfl,h1,h2⟩:=h
  cases i with
  |zero=>simp at hd;subst hd;exact⟨u,by simp,h1⟩
  |succ i=>simp at hd;obtain⟨u',e,h3⟩:=BF h2 hd;exact⟨u',by simpa using e,h3⟩
theorem CR{g:Gh}:∀{ds:List D} {us:List yz},Ad g ds us->∀(i:Nat) {d:D} {u:yz},Ag g d u->Ad g (ds.set i d) (us.set i u)
 |[],us,h,i,d,u,_=>by simp only[Ad] at h;simp[h,Ad]
 |d0::ds,us,h,i,d,u,hd=>by
  simp only[Ad] at h
  obtain⟨u0,us',rfl,h1,h2⟩:=h
  cases i with
  |zero=>simp only[List.set_cons_zero,Ad];exact⟨u,us',rfl,hd,h2⟩
  |succ i=>simp only[IW,Ad];exact⟨u0,_,rfl,h1,CR h2 i hd⟩
theorem Au{g:Gh}:∀{ds ds':List D} {us us':List yz},Ad g ds us->Ad g ds' us'->Ad g (ds++ds') (us++us')
 |[],ds',us,us',h,h'=>by simp only[Ad] at h;simpa[h] using h'
 |d::ds,ds',us,us',h,h'=>by
  simp only[Ad] at h
  obtain⟨u,us1,rfl,h1,h2⟩:=h
  simp only[Jr,Ad]
  exact⟨u,_,rfl,h1,Au h2 h'⟩
theorem Dm{α:Type}{l r:List α}{i:Nat}{x:α}(h:l[i]?=G x):(l++r)[i]?=G x:=by
 rw[HW (HD.1 h).1];exact h
theorem GH{g:Gh}:∀{ds:List D} {us:List yz},Ad g ds us->∀{ds':List D},I ds'=I ds->(∀(i:Nat) (d':D),ds'[i]?=G d'->d'=.undef∨ds[i]?=G d')->Ad g ds' us
 |[],us,h,ds',hl,_=>by
  have:ds'=[]:=IT (by simpa using hl)
  subst this;exact h
 |d::ds,us,h,[],hl,_=>by simp at hl
 |d::ds,us,h,d'::ds',hl,hw=>by
  simp only[Ad] at h⊢
  obtain⟨u,us',rfl,h1,h2⟩:=h
  refine⟨u,us',rfl,?_,GH h2 (by simpa using hl) (fun i x hx=>by have:=hw (i+1) x (by simpa using hx);simpa using this)⟩
  rcases hw 0 d' (by simp) with rfl|e
  ·simp only[Ag]
  ·simp at e;subst e;exact h1
end Go.Dv

namespace Go.Dv
open Go.IntKind (u64)
open Go.IntKind renaming wrap → yu, i64 → yt
open List renaming length → I, map → U, drop → W
open Option renaming some → G
open Bool renaming true → J, false → O
open Decidable renaming decide → Y
open Int renaming toNat → Z
open Go.Dv.V renaming list → ai, str → ae, agg → ab, int → aa, ref → bz, fn → bw, nils → bv, bool → bu
open Go.Dv.D renaming v → bt, acc → br, ptr → bq, arr → bo, gro → bm, tup → bl, undef → bk, dagg → bj
open _root_.ByteArray renaming mk → bf
open Go renaming Operand → x8, Program → x7, TypeId → x6, World → x5, Value → yz, Oper → yy, FuncId → yx, Func → yw, IntKind → yv
abbrev DRW:Prop:=True
def BJ(a b:Nat):Prop:=DRW->a<=b
theorem BJ.of{a b:Nat}(h:a<=b):BJ a b:=fun _=>h
theorem BJ.refl(a:Nat):BJ a a:=.of (HH _)
theorem BJ.succ(a:Nat):BJ a (a+1):=.of (Nat.le_succ _)
theorem BJ.trans{a b c:Nat}(h:BJ a b)(h':BJ b c):BJ a c:=fun d=>I6 (h d) (h' d)
def k9:List (Nat×V):=[]
def sp(_:cd):Prop:=True
theorem sp.mono{M M':cd}(h:sp M)(_:M.le M'):sp M':=h
structure Eh(M:cd):Prop where
 known:∀p∈k9,∃us,fg M p.1 0 us/\repC M p.2 us
 more:sp M
theorem Eh.mono{M M':cd}(h:Eh M)(hle:M.le M'):Eh M':=⟨fun p hp=>
 let ⟨us,h1,h2⟩:=h.known p hp
 ⟨us,h1.mono hle,repC.mono hle _ _ h2⟩,h.more.mono hle⟩
def Gy:List (Nat×Nat):=[]
def GW(w:x5):Prop:=∀p∈Gy,∃cs e x,w.heap[p.1]?=G (.cells cs e x)/\cs.size=p.2
theorem GW.mono{w w':x5}(h:GW w)(hs:∀(b:Nat) (cs:Array yz) (e:x6) (x:Nat×Nat),w.heap[b]?=G (.cells cs e x)->∃cs' e' x',w'.heap[b]?=G (.cells cs' e' x')/\cs'.size=cs.size):GW w':=fun p hp=>by
 obtain⟨cs,e,x,h1,h2⟩:=h p hp
 obtain⟨cs',e',x',h3,h4⟩:=hs _ _ _ _ h1
 exact⟨cs',e',x',h3,h4.trans h2⟩
theorem GW.keep{w w':x5}(h:GW w)(hs:∀b,b<w.heap.size->w'.heap[b]?=w.heap[b]?):GW w':=h.mono fun b cs e x hb=>⟨cs,e,x,(hs b (I5.1 hb).1).trans hb,rfl⟩
theorem GW.keepG{w w':x5}(h:GW w)(hs:∀p∈Gy,p.1<w.heap.size->w'.heap[p.1]?=w.heap[p.1]?):GW w':=fun p hp=>by
 obtain⟨cs,e,x,h1,h2⟩:=h p hp
 exact⟨cs,e,x,(hs p hp (I5.1 h1).1).trans h1,h2⟩
theorem Eh.sized{M:cd}(_:Eh M):∀p∈Gy,∃v,M p.1 0=G v:=fun p hp=>by simp[Gy] at hp
structure St where
 H:List (Option (List D))
 own:List (Nat×Nat×List V)
def D.one:D->Bool
 |.v x=> !x.isAgg
 |.acc .. |.ptr .. |.arr .. |.gro .. |.dfn .. =>true
 |.raw x=>x.oneCell'
 |.rv x _=> !x.isAgg
 |_=>false
def Cg:yz->Option Nat
 |.slice (some a) _ cap=>if cap=0 then none else G a.block
 |_=>none
structure vj(M:cd)(b n:Nat):Prop where
 none:∀o,n<=o->M b o=Option.none
 ng:∀p∈Gy,p.1≠b
instance {M:cd} {b n:Nat}:CoeFun (vj M b n) fun _=>∀o,n<=o->M b o=Option.none:=⟨vj.none⟩
def Perm(M:cd)(w:x5)(sz:Nat)(u:yz):Prop:=
 (∃a,u=.slice a 0 0)∨∃b f len cap cur e,u=.slice (G ⟨b,f,none⟩) len cap/\w.heap[b]?=G (.cells cur e (0,0))/\len<=cap/\f+cap*sz<=cur.size/\vj M b (f+len*sz)
structure dw(g:Gh)(σ:St)(w:x5):Prop where
 n:g.n=I σ.H
 mem:∀b o v,g.M b o=G v->w.cell? ⟨b,o,none⟩=G v
 obj:∀i cs,σ.H[i]?=G (G cs)->∃us rest e,w.heap[g.β i]?=G (.cells (us++rest).toArray e (0,0))/\Ad g cs us/\(∀c∈cs,c.one=J)/\(∀o,g.M (g.β i) o=none)/\(us++rest).length=g.κ i
 inj:∀i j cs ds,σ.H[i]?=G (G cs)->σ.H[j]?=G (G ds)->g.β i=g.β j->i=j
 own:∀k sz xs,(k,sz,xs)∈σ.own->(0<sz/\∀x∈xs,x.size=sz)/\∃u,g.ι k (I xs)=G u/\repV g.M (.list xs) u/\Perm g.M w sz u/\∀m,I xs<m->g.ι k m=none
 tags:(σ.own.map (·.1)).Nodup
 sep:∀x∈σ.own,∀y∈σ.own,x.1≠y.1->∀u u',g.ι x.1 (I x.2.2)=G u->g.ι y.1 (I y.2.2)=G u'->∀b,Cg u=G b->Cg u'≠G b
 ownObj:∀x∈σ.own,∀u,g.ι x.1 (I x.2.2)=G u->∀b,Cg u=G b->∀i cs,σ.H[i]?=G (G cs)->g.β i≠b
 fresh:∀k,(∀x∈σ.own,x.1≠k)->∀m,g.ι k m=none
 gl:Eh g.M
 gw:GW w
structure cf where
 g:Gh
 w:x5
 σ:St
def cf.priv(E:cf)(b:Nat):Prop:=
 (∃i cs,E.σ.H[i]?=G (G cs)/\b=E.g.β i)∨(∃x∈E.σ.own,∃u,E.g.ι x.1 (I x.2.2)=G u/\Cg u=G b)
structure WI(E:cf)(g:Gh)(σ:St)(w:x5):Prop where
 rep:dw g σ w
 M:E.g.M.le g.M
 size:E.w.heap.size<=w.heap.size
 keep:∀b,b<E.w.heap.size->¬E.priv b->w.heap[b]?=E.w.heap[b]?/\∀o,g.M b o=E.g.M b o
 os:w.os=E.w.os
 tape:w.tape=E.w.tape
 output:w.output=E.w.output
 nE:E.g.n<=g.n
 βE:∀o,o<E.g.n->g.β o=E.g.β o
 κE:∀o,o<E.g.n->g.κ o=E.g.κ o
 objs:∀i cs,σ.H[i]?=G (G cs)->E.w.heap.size<=g.β i∨E.priv (g.β i)
 owns:∀x∈σ.own,∀u,g.ι x.1 (I x.2.2)=G u->∀b,Cg u=G b->E.w.heap.size<=b∨E.priv b
 drawn:BJ E.w.drawn w.drawn
structure FI(E:cf)(g:Gh)(σ:St)(env:List D)(a:Act)(w:x5):Prop where
 wi:WI E g σ w
 env:Ad g env a.tmps.toList
 defers:a.defers=[]
theorem WI.start{g:Gh}{w:x5}{σ:St}(h:dw g σ w):WI ⟨g,w,σ⟩ g σ w where
 rep:=h
 M:=cd.le_refl _
 size:=HH _
 keep:=fun _ _ _=>⟨rfl,fun _=>rfl⟩
 os:=rfl
 tape:=rfl
 output:=rfl
 nE:=HH _
 βE:=fun _ _=>rfl
 κE:=fun _ _=>rfl
 objs:=fun i cs h=>.inr (.inl ⟨i,cs,h,rfl⟩)
 owns:=fun x hx u hu _ hb=>.inr (.inr ⟨x,hx,u,hu,hb⟩)
 drawn:=BJ.refl _
def Tw:yz->D
 |.int k n=>.v (.int k n)
 |.bool b=>.v (.bool b)
 |.string s=>.v (.str s.data.toList)
 |.slice none 0 0=>.v (.list [])
 |.nilFunc=>.v .nilfn
 |.pointer none=>.v .nilp
 |_=>.undef
theorem ML(g:Gh)(u:yz):Ag g (Tw u) u:=by
 unfold Tw
 split<;>simp[Ag,DX]
def u9(n:Nat):D:=match k9.find? (·.1==n) with|G p=>.v (.ref p.2)|none=>.undef
theorem XM{g:Gh}(hG:Eh g.M)(n:Nat):Ag g (u9 n) (.pointer (G ⟨n,0,none⟩)):=by
 unfold u9
 cases h:k9.find? (·.1==n) with
 |none=>simp[Ag]
 |some p=>
  obtain⟨us,h1,h2⟩:=hG.known p (List.mem_of_find?_eq_some h)
  have h3:=List.find?_some h
  simp only[Il] at h3
  simp only[Ag,Da]
  exact⟨n,0,us,rfl,h3▸h1,h2⟩
def iu(env:List D):x8->D
 |.tmp t=>env.getD t .undef
 |.const u=>Tw u
 |.global n=>u9 n
 |.func f=>.v (.fn f [] [])
theorem F6{g:Gh}{env:List D}{a:Act}(h:Ad g env a.tmps.toList)(t:Nat):Ag g (iu env (.tmp t)) (a.eval (.tmp t)):=by
 simp only[iu,Act.eval]
 cases hd:env[t]? with
 |none=>rw[HI,hd];simp[Ag]
 |some d=>
  obtain⟨u,hu,hr⟩:=BF h hd
  rw[HI,hd]
  have:a.tmps.getD t undef=u:=by
   rw[IK]
   have:a.tmps[t]?=G u:=by rw[←Jm];exact hu
   simp[this]
  rw[this];exact hr
theorem LC{g:Gh}{env:List D}{a:Act}(hG:Eh g.M)(h:Ad g env a.tmps.toList)(x:x8):Ag g (iu env x) (a.eval x):=by
 cases x with
 |tmp t=>exact F6 h t
 |const u=>exact ML g u
 |global n=>exact XM hG n
 |func f=>simp only[iu,Ag,GG,Act.eval];exact⟨[],[],rfl,by simp[F5],by simp[F5]⟩
def To(env:List D)(o:yy):List D:=o.op.operands.toList.map (iu env)
theorem Gm{g:Gh}{env:List D}{a:Act}(hG:Eh g.M)(h:Ad g env a.tmps.toList):∀(l:List x8),Ad g (l.map (iu env)) (l.map a.eval)
 |[]=>by simp[Ad]
 |x::l=>by simp only[Ia,Ad];exact⟨_,_,rfl,LC hG h x,Gm hG h l⟩
def Aj(P:x7)(o:yy)(ds:List D)(σ:St)(d:D)(σ':St):Prop:=
 ∀(E:cf) (g:Gh) (a:Act) (w:x5) (K:Act->x5->Prop) (Q:Exit->Act->x5->Prop),WI E g σ w->
  Ad g ds (o.op.operands.toList.map a.eval)->
  (∀g' w' u,WI E g' σ' w'->g.le g'->Ag g' d u->K (a.put o.dst u) w')->o.wp P a w K Q
theorem MK(g:Gh):Ag g (.tup []) undef:=by simp only[Ag];exact⟨[],rfl,by simp[Ad]⟩
def CA(env:List D):Option Tmp->D->List D
 |some t,d=>env.set t d
 |none,_=>env
theorem FI.put{E:cf}{g g':Gh}{σ σ':St}{env:List D}{a:Act}{w w':x5}(h:FI E g σ env a w)(hw:WI E g' σ' w')(hg:g.le g'){u:yz}{d:D}(hd:Ag g' d u)(t:Option Tmp):
  FI E g' σ' (CA env t d) (a.put t u) w':=by
 refine⟨hw,?_,?_⟩
 ·cases t with
  |none=>exact Ad.mono hg _ _ h.env
  |some t=>
   simp only[CA,Act.put,Array.toList_setIfInBounds]
   exact CR (Ad.mono hg _ _ h.env) t hd
 ·cases t<;>exact h.defers
def CK(env:List D)(ops:Array yy)(o:yy):Option Bool:=
 match o.guard with
 |none=>G true
 |some (j,want)=>match ((ops[j]?).bind (·.dst)).bind (env[·]?) with
  |some (.v (.bool b))=>G (b==want)
  |some (.tup _)=>G false
  |_=>none
theorem CP{g:Gh}{env:List D}{a:Act}(h:Ad g env a.tmps.toList){ops:Array yy}{o:yy}{b:Bool}(hw:CK env ops o=G b):
  Region.wanted o (yielded ops a.tmps)=b:=by
 unfold CK at hw
 unfold Region.wanted
 cases hg:o.guard with
 |none=>simp[hg] at hw⊢;exact hw
 |some p=>
  obtain⟨j,want⟩:=p
  simp only[hg] at hw⊢
  cases hj:(ops[j]?).bind (·.dst) with
  |none=>simp[hj] at hw
  |some t=>
   simp only[hj,Option.bind_some] at hw
   cases he:env[t]? with
   |none=>simp[he] at hw
   |some d=>
    simp only[he] at hw
    obtain⟨u,hu,hr⟩:=BF h he
    have hu':a.tmps[t]?=G u:=by rw[←Jm];exact hu
    split at hw
    ·rename_i b' e
     simp only[Ii] at e
     subst e
     simp only[Ag,Es] at hr
     subst hr
     simp only[yielded,hj,Option.bind_some,hu']
     simp at hw
     rw[←hw]
     cases b'<;>cases want<;>rfl
    ·rename_i ds e
     simp only[Ii] at e
     subst e
     simp only[Ag] at hr
     obtain⟨us,rfl,_⟩:=hr
     simp only[yielded,hj,Option.bind_some,hu']
     simp at hw
     subst hw
     rfl
    ·simp at hw
inductive KI where
 |code (c:Code)
 |blk (id:Nat)
 |lp (c:Code)
def AlC(P:x7)(c:Code)(Q:Exit->Act->x5->Prop)(a:Act)(w:x5):Prop:=
 ∀(b:Frame) (k:List Item) (cs:List Frame),
  ∃e a' w',Q e a' w'/\Arrives P (lone (b.at a (.code c:: .inLoop c::k)) cs w) b k cs e a' w'
def KQ(P:x7)(B:Exit->Act->x5->Prop):List KI->Exit->Act->x5->Prop
 |[],e,a,w=>B e a w
 |.code c::k,e,a,w=>match e with
  |.normal=>c.wp P (KQ P B k) a w
  |e=>KQ P B k e a w
 |.lp c::k,e,a,w=>match e with
  |.normal=>AlC P c (KQ P B k) a w
  |e=>KQ P B k e a w
 |.blk id::k,e,a,w=>match e with
  |.exit id'=>if id'=id then KQ P B k .normal a w else KQ P B k (.exit id') a w
  |e=>KQ P B k e a w
def AB(C:cf->cf->Prop)(P:x7)(R:List D->St->Prop)(k:List KI)(env:List D)(σ:St):Prop:=
 ∀(E0 E:cf) (g:Gh) (a:Act) (w:x5) (B:Exit->Act->x5->Prop),C E0 E->FI E g σ env a w->
  (∀g' env' σ' a' w',FI E0 g' σ' env' a' w'->R env' σ'->B .ret a' w'/\B .normal a' w')->KQ P B k .normal a w
structure OX(C:cf->cf->Prop):Prop where
 ok:∀{E0 E:cf},C E0 E->∀{g:Gh} {σ:St} {w:x5},WI E g σ w->WI E0 g σ w
theorem FI.link{C:cf->cf->Prop}(L:OX C){E0 E:cf}(hC:C E0 E){g:Gh}{σ:St}{env:List D}{a:Act}{w:x5}(h:FI E g σ env a w):FI E0 g σ env a w:=⟨L.ok hC h.wi,h.env,h.defers⟩
section
variable {C : cf -> cf -> Prop} {P : x7} {R : List D -> St -> Prop} {k : List KI} {env : List D} {σ : St}
theorem KR(L:OX C)(h:R env σ):AB C P R [] env σ:=fun _ _ _ _ _ _ hC hf hB=>(hB _ _ _ _ _ (hf.link L hC) h).2
theorem TM{B:Exit->Act->x5->Prop}{a:Act}{w:x5}(h:B .ret a w):∀k:List KI,KQ P B k .ret a w
 |[]=>h
 |.code _::k=>by simp only[KQ];exact TM h k
 |.lp _::k=>by simp only[KQ];exact TM h k
 |.blk _::k=>by simp only[KQ];exact TM h k
theorem KP(L:OX C)(h:R env σ):AB C P R (.code .ret::k) env σ:=fun _ _ _ _ _ _ hC hf hB=>by
 simp only[KQ]
 exact wp_ret (TM (hB _ _ _ _ _ (hf.link L hC) h).1 k)
theorem AbQ(h:AB C P R k env σ):AB C P R (.code .skip::k) env σ:=fun E0 E g a w B hC hf hB=>by
 simp only[KQ]
 exact wp_skip (h E0 E g a w B hC hf hB)
theorem X9{l:Nat}(h:AB C P R k env σ):AB C P R (.code (.label l)::k) env σ:=fun E0 E g a w B hC hf hB=>by
 simp only[KQ]
 exact wp_label (h E0 E g a w B hC hf hB)
theorem Afq{id:Nat}(h:AB C P R k env σ):AB C P R (.blk id::k) env σ:=fun E0 E g a w B hC hf hB=>by
 simp only[KQ]
 exact h E0 E g a w B hC hf hB
theorem Afo{x y:Code}(h:AB C P R (.code x:: .code y::k) env σ):AB C P R (.code (.seq x y)::k) env σ:=fun E0 E g a w B hC hf hB=>by
 have:=h E0 E g a w B hC hf hB
 simp only[KQ] at this⊢
 exact wp_seq (wp_mono this fun e a w q=>by cases e<;>exact q)
theorem XA{id:Nat}{c:Code}(h:AB C P R (.code c:: .blk id::k) env σ):AB C P R (.code (.block id c)::k) env σ:=fun E0 E g a w B hC hf hB=>by
 have:=h E0 E g a w B hC hf hB
 simp only[KQ] at this⊢
 exact wp_block (wp_mono this fun e a w q=>by cases e<;>simpa only[KQ,Exit.inBlock] using q)
theorem AbT{c:x8}{x y:Code}{b:Bool}(hc:iu env c=.v (.bool b))(ht:b=J->AB C P R (.code x::k) env σ)(hf:b=O->AB C P R (.code y::k) env σ):
  AB C P R (.code (.cond c x y)::k) env σ:=fun E0 E g a w B hC hfi hB=>by
 have hr:=LC hfi.wi.rep.gl hfi.env c
 rw[hc] at hr
 have hr':a.eval c=.bool b:=by simpa only[Ag,Es] using hr
 simp only[KQ]
 refine wp_cond_split hr' (fun hb=>?_) (fun hb=>?_)
 ·have:=ht hb E0 E g a w B hC hfi hB;simpa only[KQ] using this
 ·have:=hf hb E0 E g a w B hC hfi hB;simpa only[KQ] using this
theorem AhB{c:Code}(h:AB C P R (.code c:: .lp c::k) env σ):AB C P R (.lp c::k) env σ:=fun E0 E g a w B hC hfi hB=>by
 have:=h E0 E g a w B hC hfi hB
 simp only[KQ] at this⊢
 intro b kk cs
 obtain⟨e,a₁,w₁,hq,harr⟩:=this b (.inLoop c::kk) cs
 cases e with
 |normal=>
  simp only at hq
  obtain⟨e₂,a₂,w₂,hq₂,harr₂⟩:=hq b kk cs
  exact⟨e₂,a₂,w₂,hq₂,.of_steps (Steps.trans harr (.one step_inLoop)) harr₂⟩
 |exit id=>exact⟨_,a₁,w₁,hq,.pass (x:=.inLoop c) rfl (fun _ _=>.inl (by simp)) harr⟩
 |goto l=>exact⟨_,a₁,w₁,hq,.pass (x:=.inLoop c) rfl (fun _ _=>.inl (by simp)) harr⟩
 |ret=>exact⟨_,a₁,w₁,hq,.pass (x:=.inLoop c) rfl (fun _ _=>.inl (by simp)) harr⟩
 |panic ch=>exact⟨_,a₁,w₁,hq,.pass (x:=.inLoop c) rfl (fun _ _=>.inl (by simp)) harr⟩
 |outgrown=>exact⟨_,a₁,w₁,hq,.pass (x:=.inLoop c) rfl (fun _ _=>.inl (by simp)) harr⟩
theorem fc{c:Code}(h:AB C P R (.lp c::k) env σ):AB C P R (.code (.loop c)::k) env σ:=fun E0 E g a w B hC hfi hB=>by
 have:=h E0 E g a w B hC hfi hB
 simp only[KQ] at this⊢
 intro b kk cs
 obtain⟨e,a',w',hq,harr⟩:=this b kk cs
 exact⟨e,a',w',hq,.of_steps (.one step_loop) harr⟩
def Hm(id:Nat):List KI->Option (List KI)
 |[]=>none
 |.blk id'::k=>if id'=id then G k else Hm id k
 |_::k=>Hm id k
theorem OZ{B:Exit->Act->x5->Prop}{a:Act}{w:x5}{id:Nat}:∀{k k':List KI},Hm id k=G k'->KQ P B k' .normal a w->KQ P B k (.exit id) a w
 |[],k',h,_=>by simp[Hm] at h
 |.code c::k,k',h,q=>by simp only[Hm] at h;simp only[KQ];exact OZ h q
 |.lp c::k,k',h,q=>by simp only[Hm] at h;simp only[KQ];exact OZ h q
 |.blk id'::k,k',h,q=>by
  simp only[Hm] at h
  simp only[KQ]
  by_cases e:id'=id
  ·rw[HV e] at h
   simp at h;subst h
   rw[HV e.symm];exact q
  ·rw[HR e] at h
   rw[HR (fun x=>e x.symm)]
   exact OZ h q
theorem AbR{id:Nat}{k':List KI}(hk:Hm id k=G k')(h:AB C P R k' env σ):AB C P R (.code (.exit id)::k) env σ:=fun E0 E g a w B hC hfi hB=>by
 simp only[KQ]
 exact wp_exit (OZ hk (h E0 E g a w B hC hfi hB))
theorem JP{env':List D}(hl:I env'=I env)(he:∀(i:Nat) (d':D),env'[i]?=G d'->d'=.undef∨env[i]?=G d')(h:AB C P R k env' σ):AB C P R k env σ:=fun E0 E g a w B hC hfi hB=>
 h E0 E g a w B hC ⟨hfi.wi,GH hfi.env hl he,hfi.defers⟩ hB
end
def TP(P:x7)(f:yx):Prop:=∃fn,P.funcs[f]?=G fn/\(fn.name=="runtime.NumGoroutine")=O/\fn.body.isNone=O
def Aa(P:x7)(f:yx)(ds:List D)(σ:St)(d:D)(σ':St):Prop:=
 TP P f/\∀(g:Gh) (w:x5) (args:List yz),dw g σ w->Ad g ds args->
  Calls P f args.toArray w fun e w'=>∃u g',e=.returned u/\WI ⟨g,w,σ⟩ g' σ' w'/\Ag g' d u
def Az(P:x7)(fn:yw)(env:List D)(σ:St)(d:D)(σ':St):Prop:=
 ∀E g a w,FI E g σ env a w->E.g.n<=I σ'.H->∃u g',(results fn a.tmps).run P w=.ok u w/\WI E g' σ' w/\Ag g' d u
end Go.Dv

namespace Go.Dv
open List (foldl_append getElem?_set map_map take_succ_cons)
open Go.IntKind (u64)
open Go.IntKind renaming wrap → yu, i64 → yt
open List renaming length → I, map → U, drop → W
open Option renaming some → G
open Bool renaming true → J, false → O
open Decidable renaming decide → Y
open Int renaming toNat → Z
open Go.Dv.V renaming list → ai, str → ae, agg → ab, int → aa, ref → bz, fn → bw, nils → bv, bool → bu
open Go.Dv.D renaming v → bt, acc → br, ptr → bq, arr → bo, gro → bm, tup → bl, undef → bk, dagg → bj
open Go.Dv.St renaming mk → bi
open Go.Dv.KI renaming blk → bh
open _root_.ByteArray renaming mk → bf
open Go renaming Operand → x8, Program → x7, TypeId → x6, World → x5, Value → yz, Oper → yy, FuncId → yx, Func → yw, IntKind → yv
def DE(P:x7)(t:x6):Option (Nat×Bool):=
 match P.info? t,P.underlying t with
 |some i,some d=>G (i.size,match d with|.struct _|.array _ _=>true|_=>false)
 |_,_=>none
def OV(P:x7)(t:x6):Prop:=DE P t=G (1,false)
def RW(P:x7)(t:x6)(n:Nat):Prop:=DE P t=G (n,true)
def Cd(P:x7)(t:x6):Option (x6×Nat×Nat×Option yz):=
 match P.underlying t with
 |some (.slice e)=>(P.info? e).map fun i=>(e,i.size,i.bytes,i.zero)
 |_=>none
def PW(P:x7)(s:x6)(f:Nat):Option (Nat×Nat×Bool):=
 match P.underlying s with
 |some (.struct fs)=>(fs[f]?).bind fun x=>(DE P x.type).map fun p=>(x.offset,p.1,p.2)
 |_=>none
def my(P:x7)(t:x6):Option (Nat×Nat×Bool):=
 match P.underlying t with
 |some (.array n e)=>(DE P e).map fun p=>(n,p.1,p.2)
 |_=>none
theorem L1{P:x7}{t:x6}{n:Nat}{b:Bool}(h:DE P t=G (n,b)):
  ∃i d,P.info? t=G i/\P.underlying t=G d/\i.size=n/\(match d with|.struct _|.array _ _=>true|_=>false)=b:=by
 unfold DE at h
 split at h
 ·rename_i i d hi hd
  simp at h
  exact⟨i,d,hi,hd,h.1,h.2⟩
 ·simp at h
theorem CQ{P:x7}{t:x6}{n:Nat}{b:Bool}(h:DE P t=G (n,b))(w:x5):(isAgg t).run P w=.ok b w:=by
 obtain⟨i,d,hi,hd,_,hb⟩:=L1 h
 unfold isAgg
 rw[Sem.run_bind,run_underlying hd w]
 subst hb
 cases d<;>simp
theorem c9{P:x7}{t:x6}{n:Nat}{b:Bool}(h:DE P t=G (n,b))(w:x5):(sizeOf t).run P w=.ok n w:=by
 obtain⟨i,d,hi,hd,hn,_⟩:=L1 h
 simp[sizeOf,typeInfo,hi,hn]
theorem AH{P:x7}{t e:x6}{sz by':Nat}{z:Option yz}(h:Cd P t=G (e,sz,by',z)):
  ∃i,P.underlying t=G (.slice e)/\P.info? e=G i/\i.size=sz/\i.bytes=by'/\i.zero=z:=by
 unfold Cd at h
 split at h
 ·rename_i e' he
  cases hi:P.info? e' with
  |none=>simp[hi] at h
  |some i=>
   simp[hi] at h
   obtain⟨rfl,h1,h2,h3⟩:=h
   exact⟨i,he,hi,h1,h2,h3⟩
 ·simp at h
theorem Jv{P:x7}{s:x6}{f off n:Nat}{b:Bool}(h:PW P s f=G (off,n,b)):
  ∃fs x,P.underlying s=G (.struct fs)/\fs[f]?=G x/\x.offset=off/\DE P x.type=G (n,b):=by
 unfold PW at h
 split at h
 ·rename_i fs hs
  cases hx:fs[f]? with
  |none=>simp[hx] at h
  |some x=>
   simp only[hx,Option.bind_some] at h
   cases hz:DE P x.type with
   |none=>simp[hz] at h
   |some p=>
    simp[hz] at h
    obtain⟨h1,h2⟩:=h
    exact⟨fs,x,hs,hx,h1,by rw[hz];cases p;simp_all⟩
 ·simp at h
theorem Kz{P:x7}{t:x6}{len n:Nat}{b:Bool}(h:my P t=G (len,n,b)):
  ∃e,P.underlying t=G (.array len e)/\DE P e=G (n,b):=by
 unfold my at h
 split at h
 ·rename_i l e he
  cases hz:DE P e with
  |none=>simp[hz] at h
  |some p=>
   simp[hz] at h
   obtain⟨rfl,h2⟩:=h
   exact⟨e,he,by rw[hz];cases p;simp_all⟩
 ·simp at h
section
variable {P : x7} {o : yy} {ds : List D} {σ σ' : St} {d : D}
theorem A0(h:∀E g (ρ:x8->yz) w,WI E g σ w->Ad g ds (o.op.operands.toList.map ρ)->∃u,(execOp ρ o).run P w=.ok (.value u) w/\Ag g d u):Aj P o ds σ d σ:=by
 intro E g a w K Q hw hds hK
 obtain⟨u,hr,hd⟩:=h E g a.eval w hw hds
 unfold Oper.wp
 rw[hr]
 exact hK g w u hw g.le_refl hd
theorem BD{ds':List D}(hs:∀g us,Ad g ds us->Ad g ds' us)(h:Aj P o ds' σ d σ'):Aj P o ds σ d σ':=
 fun E g a w K Q hw hds hK=>h E g a w K Q hw (hs g _ hds) hK
def D.un:D->D
 |.acc _ xs=>.v (.list xs)
 |d=>d
theorem Oj{g:Gh}{d:D}{u:yz}(h:Ag g d u):Ag g d.un u:=by
 cases d<;>simp only[D.un]<;>first|exact h|(simp only[Ag] at h⊢;exact h.1)
theorem H4{g:Gh}:∀{ds:List D} {us:List yz},Ad g ds us->Ad g (ds.map D.un) us
 |[],us,h=>by simpa using h
 |d::ds,us,h=>by
  simp only[Ad,Ia] at h⊢
  obtain⟨u,us',e,h1,h2⟩:=h
  exact⟨u,us',e,Oj h1,H4 h2⟩
theorem Af9(h:Aj P o (ds.map D.un) σ d σ'):Aj P o ds σ d σ':=BD (fun _ _=>H4) h
theorem A9{g:Gh}{d:D}{us:List yz}:Ad g [d] us↔∃u,us=[u]/\Ag g d u:=by
 simp only[Ad]
 constructor
 ·rintro ⟨u,us',rfl,h,rfl⟩;exact⟨u,rfl,h⟩
 ·rintro ⟨u,rfl,h⟩;exact⟨u,[],rfl,h,rfl⟩
theorem Av{g:Gh}{d e:D}{us:List yz}:Ad g [d,e] us↔∃u v,us=[u,v]/\Ag g d u/\Ag g e v:=by
 simp only[Ad]
 constructor
 ·rintro ⟨u,us',rfl,h,v,us'',rfl,h',rfl⟩;exact⟨u,v,rfl,h,h'⟩
 ·rintro ⟨u,v,rfl,h,h'⟩;exact⟨u,[v],rfl,h,v,[],rfl,h',rfl⟩
theorem FJ{g:Gh}{d e f:D}{us:List yz}:Ad g [d,e,f] us↔∃u v x,us=[u,v,x]/\Ag g d u/\Ag g e v/\Ag g f x:=by
 constructor
 ·intro h
  simp only[Ad] at h
  obtain⟨u,us',rfl,h,v,us'',rfl,h',x,us3,rfl,h'',rfl⟩:=h
  exact⟨u,v,x,rfl,h,h',h''⟩
 ·rintro ⟨u,v,x,rfl,h,h',h''⟩
  simp only[Ad]
  exact⟨u,[v,x],rfl,h,v,[x],rfl,h',x,[],rfl,h'',rfl⟩
theorem Af1{x:x8}(ho:o.op=.move x):Aj P o [d] σ d σ:=by
 refine A0 fun E g ρ w hw hds=>?_
 simp only[ho,Op.operands,A9] at hds
 obtain⟨u,e,hd⟩:=hds
 simp at e
 exact⟨u,by simp[execOp,ho,e],hd⟩
theorem Y9{x:x8}(ho:o.op=.assign x):Aj P o [d] σ d σ:=by
 refine A0 fun E g ρ w hw hds=>?_
 simp only[ho,Op.operands,A9] at hds
 obtain⟨u,e,hd⟩:=hds
 simp at e
 exact⟨u,by simp[execOp,ho,e],hd⟩
theorem Yu{c x y:x8}(ho:o.op=.pick c x y){b:Bool}{d1 d2:D}:Aj P o [.v (.bool b),d1,d2] σ (if b then d1 else d2) σ:=by
 refine A0 fun E g ρ w hw hds=>?_
 simp only[ho,Op.operands,FJ] at hds
 obtain⟨u,v,z,e,h1,h2,h3⟩:=hds
 simp only[Ia,I7,HN,Io] at e
 obtain⟨e1,e2,e3⟩:=e
 simp only[Ag,Es] at h1
 refine⟨if b then v else z,?_,?_⟩
 ·simp only[execOp,ho,e1,h1,e2,e3]
  cases b<;>simp[asBool]
 ·cases b<;>simp[h2,h3]
def wd(op:BinOp)(k:yv)(a b:Int):Option V:=
 match op with
 |.add=>G (.int k (k.wrap (a+b)))
 |.sub=>G (.int k (k.wrap (a-b)))
 |.mul=>G (.int k (k.wrap (a*b)))
 |.and=>G (.int k (k.wrap (BitVec.ofInt k.bits a&&&BitVec.ofInt k.bits b).toNat))
 |.or=>G (.int k (k.wrap (BitVec.ofInt k.bits a|||BitVec.ofInt k.bits b).toNat))
 |.xor=>G (.int k (k.wrap (BitVec.ofInt k.bits a^^^BitVec.ofInt k.bits b).toNat))
 |.andNot=>G (.int k (k.wrap (BitVec.ofInt k.bits a&&& ~~~BitVec.ofInt k.bits b).toNat))
 |.eql=>G (.bool (a==b))
 |.neq=>G (.bool (a !=b))
 |.lss=>G (.bool (a<b))
 |.leq=>G (.bool (a<=b))
 |.gtr=>G (.bool (a>b))
 |.geq=>G (.bool (a>=b))
 |_=>none
theorem Af8{op:BinOp}{t ty:x6}{x y:x8}(ho:o.op=.binOp op t x y ty){k:yv}{a b:Int}{r:V}(hr:wd op k a b=G r):
  Aj P o [.v (.int k a),.v (.int k b)] σ (.v r) σ:=by
 refine A0 fun E g ρ w hw hds=>?_
 simp only[ho,Op.operands,Av] at hds
 obtain⟨u,v,e,h1,h2⟩:=hds
 simp only[Ia,I7,HN,Io] at e
 obtain⟨e1,e2⟩:=e
 simp only[Ag,AJ] at h1 h2
 subst h1 h2
 cases op<;>simp only[wd,Ii,reduceCtorEq] at hr<;>subst hr<;>
  simp[execOp,ho,e1,e2,eqGuard,binOp,Op.intArith,Op.intBits,Op.intCmp,Ag]
def Alo(op:BinOp)(k:yv)(a b:Int):Option V:=
 match op with
 |.quo=>G (.int k (k.wrap (a.tdiv b)))
 |.rem=>G (.int k (a.tmod b))
 |_=>none
theorem Yt{op:BinOp}{t ty:x6}{x y:x8}(ho:o.op=.binOp op t x y ty){k:yv}{a b:Int}{r:V}(hr:Alo op k a b=G r)(hb:b≠0):
  Aj P o [.v (.int k a),.v (.int k b)] σ (.v r) σ:=by
 refine A0 fun E g ρ w hw hds=>?_
 simp only[ho,Op.operands,Av] at hds
 obtain⟨u,v,e,h1,h2⟩:=hds
 simp only[Ia,I7,HN,Io] at e
 obtain⟨e1,e2⟩:=e
 simp only[Ag,AJ] at h1 h2
 subst h1 h2
 cases op<;>simp only[Alo,Ii,reduceCtorEq] at hr<;>subst hr<;>
  simp[execOp,ho,e1,e2,eqGuard,binOp,Op.intDiv,hb,Ag]
def shI(op:BinOp)(k:yv)(a b:Int):Option V:=
 match op with
 |.shl=>G (.int k (k.wrap (a*2^(min b.toNat k.bits))))
 |.shr=>G (.int k (a.fdiv (2^(min b.toNat k.bits))))
 |_=>none
theorem Aeo{op:BinOp}{t ty:x6}{x y:x8}(ho:o.op=.binOp op t x y ty){k k':yv}{a b:Int}{r:V}(hr:shI op k a b=G r)(hb:0<=b):
  Aj P o [.v (.int k a),.v (.int k' b)] σ (.v r) σ:=by
 refine A0 fun E g ρ w hw hds=>?_
 simp only[ho,Op.operands,Av] at hds
 obtain⟨u,v,e,h1,h2⟩:=hds
 simp only[Ia,I7,HN,Io] at e
 obtain⟨e1,e2⟩:=e
 simp only[Ag,AJ] at h1 h2
 subst h1 h2
 have hb':¬b<0:=by omega
 cases op<;>simp only[shI,Ii,reduceCtorEq] at hr<;>subst hr<;>
  simp[execOp,ho,e1,e2,eqGuard,binOp,Op.shift,hb',Ag]
def ta(op:BinOp)(a b:List UInt8):Option V:=
 match op with
 |.eql=>G (.bool (a==b))
 |.neq=>G (.bool !(a==b))
 |.lss=>G (.bool (Op.bytesLess a b))
 |.leq=>G (.bool (Op.bytesLess a b||a==b))
 |.gtr=>G (.bool !(Op.bytesLess a b||a==b))
 |.geq=>G (.bool !(Op.bytesLess a b))
 |_=>none
theorem Ri(l:List UInt8):ByteArray.size ⟨l.toArray⟩=I l:=by simp[ByteArray.size]
theorem Af7{op:BinOp}{t ty:x6}{x y:x8}(ho:o.op=.binOp op t x y ty){a b:List UInt8}{r:V}(hr:ta op a b=G r):
  Aj P o [.v (.str a),.v (.str b)] σ (.v r) σ:=by
 refine A0 fun E g ρ w hw hds=>?_
 simp only[ho,Op.operands,Av] at hds
 obtain⟨u,v,e,h1,h2⟩:=hds
 simp only[Ia,I7,HN,Io] at e
 obtain⟨e1,e2⟩:=e
 simp only[Ag,CZ] at h1 h2
 subst h1 h2
 cases op<;>simp only[ta,Ii,reduceCtorEq] at hr<;>subst hr<;>
  simp[execOp,ho,e1,e2,eqGuard,binOp,Op.stringOp,Ag]
theorem Y4{t ty:x6}{x y:x8}(ho:o.op=.binOp .add t x y ty){a b:List UInt8}(hl:I a+I b<=9223372036854775807):
  Aj P o [.v (.str a),.v (.str b)] σ (.v (.str (a++b))) σ:=by
 refine A0 fun E g ρ w hw hds=>?_
 simp only[ho,Op.operands,Av] at hds
 obtain⟨u,v,e,h1,h2⟩:=hds
 simp only[Ia,I7,HN,Io] at e
 obtain⟨e1,e2⟩:=e
 simp only[Ag,CZ] at h1 h2
 subst h1 h2
 have hs:∀l:List UInt8,ByteArray.size ⟨l.toArray⟩=I l:=fun l=>by simp[ByteArray.size]
 have hn:¬(((I a+I b:Nat):Int)>yt.max):=by
  have:yt.max=9223372036854775807:=by decide
  rw[this];omega
 refine⟨.string ⟨(a++b).toArray⟩,?_,by simp[Ag]⟩
 have hap:(⟨a.toArray⟩:ByteArray)++⟨b.toArray⟩=⟨(a++b).toArray⟩:=by
  apply ByteArray.ext
  simp[ByteArray.data_append]
 simp only[execOp,ho,e1,e2,binOp,Op.stringOp,hs,hn,if_false,hap]
 simp[eqGuard]
theorem Y1{op:BinOp}{t ty:x6}{x y:x8}(ho:o.op=.binOp op t x y ty)(hu:P.underlying t=G .bool){a b:Bool}(hop:op=.eql∨op=.neq):
  Aj P o [.v (.bool a),.v (.bool b)] σ (.v (.bool (if op=.eql then a==b else a !=b))) σ:=by
 refine A0 fun E g ρ w hw hds=>?_
 simp only[ho,Op.operands,Av] at hds
 obtain⟨u,v,e,h1,h2⟩:=hds
 simp only[Ia,I7,HN,Io] at e
 obtain⟨e1,e2⟩:=e
 simp only[Ag,Es] at h1 h2
 subst h1 h2
 have heq:(Op.equal t (.bool a) (.bool b)).run P w=.ok (a==b) w:=by
  have gen:∀d,(Op.equalIn (d+1) t (.bool a) (.bool b)).run P w=.ok (a==b) w:=fun d=>by
   simp only[Op.equalIn,Sem.run_bind,run_underlying hu,Result.andThen_ok]
   rfl
  exact gen 9999
 refine⟨.bool (if op=.eql then a==b else a !=b),?_,by simp[Ag]⟩
 rcases hop with rfl|rfl<;>
  simp[execOp,ho,e1,e2,eqGuard,binOp,heq,bne]
def vu(op:UnOp)(x:V):Option V:=
 match op,x with
 |.not,.bool b=>G (.bool !b)
 |.neg,.int k n=>G (.int k (k.wrap (0-n)))
 |_,_=>none
theorem Ako{op:UnOp}{t:x6}{x:x8}(ho:o.op=.unOp op t x){a r:V}(hr:vu op a=G r):Aj P o [.v a] σ (.v r) σ:=by
 refine A0 fun E g ρ w hw hds=>?_
 simp only[ho,Op.operands,A9] at hds
 obtain⟨u,e,h1⟩:=hds
 simp at e
 unfold vu at hr
 split at hr
 ·simp at hr;subst hr
  simp only[Ag,Es] at h1
  exact⟨_,by simp[execOp,ho,e,h1,Op.unary];rfl,by simp[Ag]⟩
 ·simp only[Ii] at hr;subst hr
  simp only[Ag,AJ] at h1
  exact⟨_,by simp only[execOp,ho,e,h1,Op.unary,Op.intArith];rfl,by simp[Ag]⟩
 ·simp at hr
theorem Acs{src dst:x6}{x:x8}(ho:o.op=.convert src dst x){k k':yv}{n:Int}{ds':TypeDesc}(hs:P.underlying src=G ds')(hd:P.underlying dst=G (.int k')):
  Aj P o [.v (.int k n)] σ (.v (.int k' (k'.wrap n))) σ:=by
 refine A0 fun E g ρ w hw hds=>?_
 simp only[ho,Op.operands,A9] at hds
 obtain⟨u,e,h1⟩:=hds
 simp at e
 simp only[Ag,AJ] at h1
 refine⟨.int k' (k'.wrap n),?_,by simp[Ag]⟩
 simp only[execOp,ho,e,h1,convert,Sem.run_bind,run_underlying hs,run_underlying hd,Result.andThen_ok,Conv.intToInt]
 rfl
theorem UU{x:x8}{i:Nat}(ho:o.op=.extract x i){ds:List D}(hd:ds[i]?=G d):Aj P o [.tup ds] σ d σ:=by
 refine A0 fun E g ρ w hw hds=>?_
 simp only[ho,Op.operands,A9] at hds
 obtain⟨u,e,h1⟩:=hds
 simp at e
 simp only[Ag] at h1
 obtain⟨us,rfl,h2⟩:=h1
 obtain⟨u,hu,h3⟩:=BF h2 hd
 exact⟨u,by simp[execOp,ho,e,Instr.extract,hu],h3⟩
theorem LL{x:x8}(ho:o.op=.nilCheck x){q off:Nat}:Aj P o [.ptr q off] σ (.ptr q off) σ:=by
 refine A0 fun E g ρ w hw hds=>?_
 simp only[ho,Op.operands,A9] at hds
 obtain⟨u,e,h1⟩:=hds
 simp at e
 refine⟨u,?_,h1⟩
 simp only[Ag] at h1
 simp[execOp,ho,e,h1.2]
theorem LK{x:x8}(ho:o.op=.nilCheck x){y:V}:Aj P o [.v (.ref y)] σ (.v (.ref y)) σ:=by
 refine A0 fun E g ρ w hw hds=>?_
 simp only[ho,Op.operands,A9] at hds
 obtain⟨u,e,h1⟩:=hds
 simp at e
 refine⟨u,?_,h1⟩
 simp only[Ag,Da] at h1
 obtain⟨b,off,us,rfl,_⟩:=h1
 simp[execOp,ho,e]
theorem Yx{x:x8}{t:x6}(ho:o.op=.call { callee:=.builtin .len,args:= #[x],argTypes:= #[t]}){e:x6}(ht:P.underlying t=G (.slice e)){xs:List V}:
  Aj P o [.v (.list xs)] σ (.v (.int .i64 (I xs))) σ:=by
 refine A0 fun E g ρ w hw hds=>?_
 simp only[ho,Op.operands,Call.operands,A9] at hds
 obtain⟨u,e,h1⟩:=hds
 simp at e
 simp only[Ag,B3] at h1
 obtain⟨a,cap,rfl,_⟩:=h1
 exact⟨_,by simp[execOp,ho,e,resolve,invoke,builtin,Builtin.len_,run_underlying ht,goInt];rfl,by simp[Ag]⟩
theorem Yy{x:x8}{t:x6}(ho:o.op=.call { callee:=.builtin .len,args:= #[x],argTypes:= #[t]}){e:x6}(ht:P.underlying t=G (.slice e)){q off len:Nat}:
  Aj P o [.arr q off len] σ (.v (.int .i64 len)) σ:=by
 refine A0 fun E g ρ w hw hds=>?_
 simp only[ho,Op.operands,Call.operands,A9] at hds
 obtain⟨u,e,h1⟩:=hds
 simp at e
 simp only[Ag] at h1
 obtain⟨_,cap,_,rfl⟩:=h1
 exact⟨_,by simp[execOp,ho,e,resolve,invoke,builtin,Builtin.len_,run_underlying ht,goInt];rfl,by simp[Ag]⟩
theorem Af2{x:x8}{t:x6}(ho:o.op=.call { callee:=.builtin .len,args:= #[x],argTypes:= #[t]})(ht:P.underlying t=G .string){s:List UInt8}:
  Aj P o [.v (.str s)] σ (.v (.int .i64 (I s))) σ:=by
 refine A0 fun E g ρ w hw hds=>?_
 simp only[ho,Op.operands,Call.operands,A9] at hds
 obtain⟨u,e,h1⟩:=hds
 simp at e
 simp only[Ag,CZ] at h1
 subst h1
 exact⟨_,by simp[execOp,ho,e,resolve,invoke,builtin,Builtin.len_,run_underlying ht,goInt,Ri];rfl,by simp[Ag]⟩
theorem AhU{x y:x8}{ts:Array x6}(ho:o.op=.call { callee:=.builtin .max,args:= #[x,y],argTypes:=ts }){k:yv}{a b:Int}:
  Aj P o [.v (.int k a),.v (.int k b)] σ (.v (.int k (if b>a then b else a))) σ:=by
 refine A0 fun E g ρ w hw hds=>?_
 simp only[ho,Op.operands,Call.operands] at hds
 have hds':=Av.1 (by simpa using hds)
 obtain⟨u,v,e,h1,h2⟩:=hds'
 simp only[HN,Io] at e
 simp only[Ag,AJ] at h1 h2
 exact⟨_,by simp[execOp,ho,e.1,e.2,h1,h2,resolve,invoke,builtin,Builtin.max_,Builtin.max2];rfl,by simp[Ag]⟩
theorem AhT{x y:x8}{ts:Array x6}(ho:o.op=.call { callee:=.builtin .min,args:= #[x,y],argTypes:=ts }){k:yv}{a b:Int}:
  Aj P o [.v (.int k a),.v (.int k b)] σ (.v (.int k (if b<a then b else a))) σ:=by
 refine A0 fun E g ρ w hw hds=>?_
 simp only[ho,Op.operands,Call.operands] at hds
 have hds':=Av.1 (by simpa using hds)
 obtain⟨u,v,e,h1,h2⟩:=hds'
 simp only[HN,Io] at e
 simp only[Ag,AJ] at h1 h2
 exact⟨_,by simp[execOp,ho,e.1,e.2,h1,h2,resolve,invoke,builtin,Builtin.min_,Builtin.min2];rfl,by simp[Ag]⟩
end
section
variable {M : cd}
theorem S5:∀{cs:List V} {us:List yz},repA M cs us->∀{i:Nat} {c:V},cs[i]?=G c->∃u,us[i]?=G u/\c.isAgg=O/\repC M c [u]
 |[],us,h,i,c,hc=>by simp at hc
 |c0::cs,us,h,i,c,hc=>by
  simp only[repA] at h
  obtain⟨u,us',rfl,ha,h1,h2⟩:=h
  cases i with
  |zero=>simp at hc;subst hc;exact⟨u,by simp,ha,h1⟩
  |succ i=>simp at hc;obtain⟨u',e,h3⟩:=S5 h2 hc;exact⟨u',by simpa using e,h3⟩
theorem J4:∀{cs:List V} {us:List yz},repA M cs us->∀(n:Nat),repA M (cs.drop n) (us.drop n)
 |[],us,h,n=>by simp only[repA] at h;simp[h,repA]
 |c0::cs,us,h,n=>by
  cases n with
  |zero=>simpa using h
  |succ n=>
   simp only[repA] at h
   obtain⟨u,us',rfl,ha,h1,h2⟩:=h
   simpa using J4 h2 n
theorem J3:∀{cs:List V} {us:List yz},repA M cs us->∀(n:Nat),repA M (cs.take n) (us.take n)
 |[],us,h,n=>by simp only[repA] at h;simp[h,repA]
 |c0::cs,us,h,n=>by
  cases n with
  |zero=>simp[repA]
  |succ n=>
   simp only[repA] at h
   obtain⟨u,us',rfl,ha,h1,h2⟩:=h
   simp only[take_succ_cons,repA]
   exact⟨u,_,rfl,ha,h1,J3 h2 n⟩
theorem BN{sz:Nat}:∀{xs:List V} {us:List yz},repE M sz xs us->I us=I xs*sz
 |[],us,h=>by simp only[repE] at h;simp[h]
 |x::xs,us,h=>by
  simp only[repE] at h
  obtain⟨u1,u2,rfl,hl,h1,h2⟩:=h
  simp[BN h2,hl,IL,Nat.add_comm]
theorem Oi{sz:Nat}:∀{xs:List V} {us:List yz},repE M sz xs us->∀{i:Nat} {x:V},xs[i]?=G x->
  ∃u1,repC M x u1/\u1.length=sz/\∀j v,u1[j]?=G v->us[i*sz+j]?=G v
 |[],us,h,i,c,hc=>by simp at hc
 |x0::xs,us,h,i,x,hc=>by
  simp only[repE] at h
  obtain⟨u1,u2,rfl,hl,h1,h2⟩:=h
  cases i with
  |zero=>
   simp at hc;subst hc
   refine⟨u1,h1,hl,fun j v hj=>?_⟩
   have:j<I u1:=(HD.1 hj).1
   rw[Nat.zero_mul,Iv,HW this];exact hj
  |succ i=>
   simp at hc
   obtain⟨u',hr,hl',hg⟩:=Oi h2 hc
   refine⟨u',hr,hl',fun j v hj=>?_⟩
   have e:(i+1)*sz+j=I u1+(i*sz+j):=by rw[hl,IL];omega
   rw[e,HT (by omega)]
   have:I u1+(i*sz+j)-I u1=i*sz+j:=by omega
   rw[this];exact hg j v hj
theorem P2{sz:Nat}:∀{xs:List V} {us:List yz},repE M sz xs us->∀(n:Nat),repE M sz (xs.drop n) (us.drop (n*sz))
 |[],us,h,n=>by simp only[repE] at h;simp[h,repE]
 |x::xs,us,h,n=>by
  cases n with
  |zero=>simpa using h
  |succ n=>
   simp only[repE] at h
   obtain⟨u1,u2,rfl,hl,h1,h2⟩:=h
   have:=P2 h2 n
   have e:(n+1)*sz=I u1+n*sz:=by rw[hl,IL];omega
   have e2:(u1++u2).drop (I u1+n*sz)=u2.drop (n*sz):=by
    rw[List.drop_append,HU (Nat.le_add_right (I u1) (n*sz)),List.nil_append,Nat.add_sub_cancel_left]
   rw[e,e2]
   exact this
theorem P1{sz:Nat}:∀{xs:List V} {us:List yz},repE M sz xs us->∀(n:Nat),repE M sz (xs.take n) (us.take (n*sz))
 |[],us,h,n=>by simp only[repE] at h;simp[h,repE]
 |x::xs,us,h,n=>by
  cases n with
  |zero=>simp[repE]
  |succ n=>
   simp only[repE] at h
   obtain⟨u1,u2,rfl,hl,h1,h2⟩:=h
   simp only[take_succ_cons,repE]
   have e:(n+1)*sz=I u1+n*sz:=by rw[hl,IL];omega
   refine⟨u1,u2.take (n*sz),?_,hl,h1,P1 h2 n⟩
   rw[e,List.take_append,Ic (Nat.le_add_right _ _),Nat.add_sub_cancel_left]
theorem Lf{b off:Nat}{us:List yz}(h:fg M b off us)(n:Nat):fg M b (off+n) (us.drop n):=fun j v hj=>by
 rw[List.getElem?_drop] at hj
 rw[Nat.add_assoc];exact h _ v hj
theorem Lc{b off:Nat}{us:List yz}(h:fg M b off us)(n:Nat):fg M b off (us.take n):=fun j v hj=>by
 rw[IX] at hj
 split at hj
 ·exact h j v hj
 ·simp at hj
end
def Hd(cs:List V)(fo n:Nat)(b:Bool):Option V:=if b then(if fo+n<=I cs then G (.agg ((cs.drop fo).take n)) else none) else cs[fo]?
theorem LH{M:cd}{cs:List V}{us:List yz}{fo n:Nat}{b:Bool}{x:V}(h:Hd cs fo n b=G x)(hr:repA M cs us)(hn:b=O->n=1):
  repC M x ((us.drop fo).take n)/\x.isAgg=b/\((us.drop fo).take n).length=n:=by
 have hl:=DG hr
 unfold Hd at h
 cases b with
 |true=>
  simp only[IJ] at h
  split at h
  ·simp at h;subst h
   refine⟨?_,rfl,by simp;omega⟩
   simp only[repC]
   exact J3 (J4 hr fo) n
  ·simp at h
 |false=>
  simp only[Jq,if_false] at h
  obtain⟨u,hu,ha,hc⟩:=S5 hr h
  obtain rfl:=hn rfl
  have:(us.drop fo).take 1=[u]:=by
   have hlt:fo<I us:=(HD.1 hu).1
   rw[HP hlt,take_succ_cons,List.take_zero]
   rw[(HD.1 hu).2]
  rw[this]
  exact⟨hc,ha,rfl⟩
def D.toV:D->Option V
 |.v x=>G x
 |.acc _ xs=>G (.list xs)
 |_=>none
def EN:List D->Option (List V)
 |[]=>G []
 |d::ds=>match d.toV,EN ds with
  |some x,some xs=>G (x::xs)
  |_,_=>none
theorem JN{g:Gh}{d:D}{x:V}{u:yz}(h:d.toV=G x)(hr:Ag g d u):repV g.M x u:=by
 cases d<;>simp[D.toV] at h<;>subst h
 ·simpa[Ag] using hr
 ·simp only[Ag] at hr;exact hr.1
theorem KL{g:Gh}:∀{ds:List D} {xs:List V} {us:List yz},EN ds=G xs->Ad g ds us->(∀c∈ds,c.one=J)->repA g.M xs us
 |[],xs,us,h,hr,_=>by simp[EN] at h;subst h;simpa[Ad,repA] using hr
 |d::ds,xs,us,h,hr,h1=>by
  simp only[EN] at h
  split at h
  ·rename_i x xs' hx hxs
   simp at h;subst h
   simp only[Ad] at hr
   obtain⟨u,us',rfl,h2,h3⟩:=hr
   simp only[repA]
   have hxa:x.isAgg=O:=by
    have:=h1 d (by simp)
    cases d<;>simp[D.toV] at hx<;>subst hx<;>simp_all [D.one,V.isAgg]
   exact⟨u,us',rfl,hxa,(BM hxa).1 (JN hx h2),KL hxs h3 (fun c hc=>h1 c (by simp[hc]))⟩
  ·simp at h
section
variable {P : x7} {o : yy} {σ : St} {d : D}
theorem Fx{E:cf}{g:Gh}{w:x5}(hw:WI E g σ w){b off:Nat}{us:List yz}(h:fg g.M b off us):∀j v,us[j]?=G v->w.cell? ((⟨b,off,none⟩:Addr).add j)=G v:=fun j v hj=>by
 rw[Addr.add_lit];exact hw.rep.mem _ _ _ (h j v hj)
theorem Fv{t:x6}{a:x8}(ho:o.op=.load t a)(ht:OV P t){x:V}(hx:x.isAgg=O):Aj P o [.v (.ref x)] σ (.v x) σ:=by
 refine A0 fun E g ρ w hw hds=>?_
 simp only[ho,Op.operands,A9] at hds
 obtain⟨u,e,h1⟩:=hds
 simp at e
 simp only[Ag,Da] at h1
 obtain⟨b,off,us,rfl,hi,hr⟩:=h1
 obtain⟨u',rfl,hm,_⟩:=Db hx hr
 have hc:w.cell? ⟨b,off,none⟩=G u':=by have:=hw.rep.mem _ _ _ (hi 0 u' (by simp));simpa using this
 refine⟨u',?_,by simp only[Ag];exact(BM hx).2 hr⟩
 simp[execOp,ho,e,Instr.loadAt,Instr.sureAddr,loadVar,CQ ht,hc]
theorem PG{t:x6}{a:x8}(ho:o.op=.load t a){cs:List V}(ht:RW P t (I cs)):Aj P o [.v (.ref (.agg cs))] σ (.v (.agg cs)) σ:=by
 refine A0 fun E g ρ w hw hds=>?_
 simp only[ho,Op.operands,A9] at hds
 obtain⟨u,e,h1⟩:=hds
 simp at e
 simp only[Ag,Da] at h1
 obtain⟨b,off,us,rfl,hi,hr⟩:=h1
 simp only[repC] at hr
 have hl:=DG hr
 have hld:=run_loadCells_list (P:=P) w ⟨b,off,none⟩ us (Fx hw hi)
 rw[hl] at hld
 refine⟨.agg us.toArray,?_,by simp only[Ag,C6];exact⟨us,hr,rfl⟩⟩
 simp[execOp,ho,e,Instr.loadAt,Instr.sureAddr,loadVar,CQ ht,c9 ht,hld]
theorem Yw{t:x6}{a:x8}(ho:o.op=.load t a)(ht:OV P t){q off:Nat}{cs:List D}(hH:σ.H[q]?=G (G cs))(hc:cs[off]?=G d):Aj P o [.ptr q off] σ d σ:=by
 refine A0 fun E g ρ w hw hds=>?_
 simp only[ho,Op.operands,A9] at hds
 obtain⟨u,e,h1⟩:=hds
 simp at e
 simp only[Ag] at h1
 obtain⟨_,rfl⟩:=h1
 obtain⟨us,rest,et,hb,hr,_,_⟩:=hw.rep.obj q cs hH
 obtain⟨u',hu,hd⟩:=BF hr hc
 have hcell:w.cell? ⟨g.β q,off,none⟩=G u':=by simp only[World.cell?,hb,ID];exact Dm hu
 refine⟨u',?_,hd⟩
 simp[execOp,ho,e,Instr.loadAt,Instr.sureAddr,loadVar,CQ ht,hcell]
theorem CI{g:Gh}:∀{cs:List D} {us:List yz},Ad g cs us->∀(n:Nat),Ad g (cs.drop n) (us.drop n)
 |[],us,h,n=>by simp only[Ad] at h;simp[h,Ad]
 |c0::cs,us,h,n=>by
  cases n with
  |zero=>simpa using h
  |succ n=>
   simp only[Ad] at h
   obtain⟨u,us',rfl,h1,h2⟩:=h
   simpa using CI h2 n
theorem CH{g:Gh}:∀{cs:List D} {us:List yz},Ad g cs us->∀(n:Nat),Ad g (cs.take n) (us.take n)
 |[],us,h,n=>by simp only[Ad] at h;simp[h,Ad]
 |c0::cs,us,h,n=>by
  cases n with
  |zero=>simp[Ad]
  |succ n=>
   simp only[Ad] at h
   obtain⟨u,us',rfl,h1,h2⟩:=h
   simp only[take_succ_cons,Ad]
   exact⟨u,_,rfl,h1,CH h2 n⟩
theorem PH{t:x6}{a:x8}(ho:o.op=.load t a){n:Nat}(ht:RW P t n){q off:Nat}{cs:List D}(hH:σ.H[q]?=G (G cs)){xs:List V}
  (hn:off+n<=I cs) (hc:EN ((cs.drop off).take n)=G xs):Aj P o [.ptr q off] σ (.v (.agg xs)) σ:=by
 refine A0 fun E g ρ w hw hds=>?_
 simp only[ho,Op.operands,A9] at hds
 obtain⟨u,e,h1⟩:=hds
 simp at e
 simp only[Ag] at h1
 obtain⟨_,rfl⟩:=h1
 obtain⟨us,rest,et,hb,hr,h1,_⟩:=hw.rep.obj q cs hH
 have hra:=KL hc (CH (CI hr off) n) (fun c hc'=>h1 c (I1 (IR hc')))
 have hl:I us=I cs:=A4 hr
 have hld:=run_loadCells_list (P:=P) w ⟨g.β q,off,none⟩ ((us.drop off).take n) (fun j v hj=>by
  rw[IX] at hj
  split at hj
  ·rw[List.getElem?_drop] at hj
   rw[Addr.add_lit]
   simp only[World.cell?,hb,ID];exact Dm hj
  ·simp at hj)
 have hlen:I ((us.drop off).take n)=n:=by simp;omega
 rw[hlen] at hld
 refine⟨.agg ((us.drop off).take n).toArray,?_,by simp only[Ag,C6];exact⟨_,hra,rfl⟩⟩
 simp only[execOp,ho,e,Instr.loadAt,Instr.sureAddr,loadVar,Sem.run_bind,Sem.run_pure,Result.andThen_ok,CQ ht,c9 ht,hld,IJ]
theorem Y0{s:x6}{x:x8}{f:Nat}(ho:o.op=.fieldAddr s x f){fo n:Nat}{b:Bool}(hf:PW P s f=G (fo,n,b))(hn:n≠0){q off:Nat}:Aj P o [.ptr q off] σ (.ptr q (off+fo)) σ:=by
 refine A0 fun E g ρ w hw hds=>?_
 simp only[ho,Op.operands,A9] at hds
 obtain⟨u,e,h1⟩:=hds
 simp at e
 simp only[Ag] at h1
 obtain⟨hq,rfl⟩:=h1
 obtain⟨fs,y,hs,hy,hoff,hz⟩:=Jv hf
 refine⟨.pointer (G ⟨g.β q,off+fo,none⟩),?_,by simp[Ag,hq]⟩
 simp[execOp,ho,e,Instr.fieldAt,run_underlying hs,hy,Instr.sureAddr,fieldPlace,c9 hz,hn,Addr.add_lit,hoff]
theorem Fw{s:x6}{x:x8}{f:Nat}(ho:o.op=.fieldAddr s x f){fo n:Nat}{b:Bool}(hf:PW P s f=G (fo,n,b))(hn:n≠0)(hn1:b=O->n=1){cs:List V}{y:V}(hp:Hd cs fo n b=G y):
  Aj P o [.v (.ref (.agg cs))] σ (.v (.ref y)) σ:=by
 refine A0 fun E g ρ w hw hds=>?_
 simp only[ho,Op.operands,A9] at hds
 obtain⟨u,e,h1⟩:=hds
 simp at e
 simp only[Ag,Da] at h1
 obtain⟨bb,off,us,rfl,hi,hr⟩:=h1
 obtain⟨fs,z,hs,hy,hoff,hz⟩:=Jv hf
 simp only[repC] at hr
 obtain⟨h3,_,_⟩:=LH hp hr hn1
 refine⟨.pointer (G ⟨bb,off+fo,none⟩),?_,by simp only[Ag,Da];exact⟨bb,off+fo,_,rfl,Lc (Lf hi fo) n,h3⟩⟩
 simp[execOp,ho,e,Instr.fieldAt,run_underlying hs,hy,Instr.sureAddr,fieldPlace,c9 hz,hn,Addr.add_lit,hoff]
theorem S0{M:cd}{t:x6}{n:Nat}{b:Bool}(hz:DE P t=G (n,b)){cs:List V}{us:List yz}{fo:Nat}{y:V}(hp:Hd cs fo n b=G y)(hr:repA M cs us)(hn1:b=O->n=1)(w:x5):
  ∃u,(part t us.toArray fo).run P w=.ok u w/\repV M y u:=by
 obtain⟨h3,ha,hl⟩:=LH hp hr hn1
 cases b with
 |true=>
  refine⟨.agg ((us.drop fo).take n).toArray,?_,?_⟩
  ·simp only[part,Sem.run_bind,CQ hz,c9 hz,Result.andThen_ok,IJ,Sem.run_pure]
   congr 2
   apply IC
   simp[List.extract_eq_take_drop]
  ·cases y with
   |agg cs'=>simp only[C6];exact⟨_,by simpa only[repC] using h3,rfl⟩
   |_=>simp[V.isAgg] at ha
 |false=>
  obtain⟨u,e1,_,_⟩:=Db ha h3
  obtain rfl:=hn1 rfl
  have hu:us[fo]?=G u:=by
   have:((us.drop fo).take 1)[0]?=G u:=by rw[e1];rfl
   simpa using this
  refine⟨u,?_,(BM ha).2 (by rw[←e1];exact h3)⟩
  simp[part,CQ hz,hu]
theorem Acr{s:x6}{x:x8}{f:Nat}(ho:o.op=.field s x f){fo n:Nat}{b:Bool}(hf:PW P s f=G (fo,n,b))(hn1:b=O->n=1){cs:List V}{y:V}(hp:Hd cs fo n b=G y):
  Aj P o [.v (.agg cs)] σ (.v y) σ:=by
 refine A0 fun E g ρ w hw hds=>?_
 simp only[ho,Op.operands,A9] at hds
 obtain⟨u,e,h1⟩:=hds
 simp at e
 simp only[Ag,C6] at h1
 obtain⟨us,hr,rfl⟩:=h1
 obtain⟨fs,z,hs,hy,hoff,hz⟩:=Jv hf
 obtain⟨v,hrun,hv⟩:=S0 hz hp hr hn1 w
 refine⟨v,?_,by simpa only[Ag] using hv⟩
 simp only[execOp,ho,e,Instr.field,Sem.run_bind,run_underlying hs,Result.andThen_ok,hy,asAgg,Sem.run_pure,hoff,hrun]
theorem Af4{t:x6}{x ix:x8}(ho:o.op=.indexAddr t x ix){e:x6}{sz by':Nat}{z:Option yz}(hs:Cd P t=G (e,sz,by',z)){xs:List V}{y:V}{k:yv}{i:Int}(h0:0<=i)
  (hx:xs[i.toNat]?=G y) (hy:y.size=sz):Aj P o [.v (.list xs),.v (.int k i)] σ (.v (.ref y)) σ:=by
 refine A0 fun E g ρ w hw hds=>?_
 simp only[ho,Op.operands,Av] at hds
 obtain⟨u,v,eq,h1,h2⟩:=hds
 simp only[Ia,I7,HN,Io] at eq
 obtain⟨e1,e2⟩:=eq
 simp only[Ag,AJ,B3] at h1 h2
 subst h2
 obtain⟨a,cap,rfl,hc,h1⟩:=h1
 have hlt:i.toNat<I xs:=(HD.1 hx).1
 rcases h1 with rfl|⟨b,off,sz',us,rfl,hsz,hi,hr⟩
 ·simp at hlt
 obtain⟨inf,hu,hinf,hsize,_,_⟩:=AH hs
 obtain⟨u1,hc1,hl1,hg⟩:=Oi hr hx
 have hss:sz'=sz:=by rw[←hl1,FK hc1,hy]
 subst hss
 refine⟨.pointer (G ⟨b,off+i.toNat*sz',none⟩),?_,?_⟩
 ·have hlt':i<(I xs:Int):=by omega
  simp[execOp,ho,e1,e2,Instr.indexAt,asIntOf,run_underlying hu,h0,hlt',sizeOf,typeInfo,hinf,hsize,Addr.add_lit]
 ·simp only[Ag,Da]
  refine⟨b,_,u1,rfl,fun j v hj=>?_,hc1⟩
  have:=hi _ v (hg j v hj)
  rw[Nat.add_assoc];exact this
theorem Af5{t:x6}{x ix:x8}(ho:o.op=.indexAddr t x ix){e:x6}{sz by':Nat}{z:Option yz}(hs:Cd P t=G (e,sz,by',z)){q off len:Nat}{k:yv}{i:Int}(h0:0<=i)(h1:i<len):
  Aj P o [.arr q off len,.v (.int k i)] σ (.ptr q (off+i.toNat*sz)) σ:=by
 refine A0 fun E g ρ w hw hds=>?_
 simp only[ho,Op.operands,Av] at hds
 obtain⟨u,v,eq,h1',h2⟩:=hds
 simp only[Ia,I7,HN,Io] at eq
 obtain⟨e1,e2⟩:=eq
 simp only[Ag,AJ] at h1' h2
 subst h2
 obtain⟨hq,cap,hc,rfl⟩:=h1'
 obtain⟨inf,hu,hinf,hsize,_,_⟩:=AH hs
 refine⟨.pointer (G ⟨g.β q,off+i.toNat*sz,none⟩),?_,by simp[Ag,hq]⟩
 simp[execOp,ho,e1,e2,Instr.indexAt,asIntOf,run_underlying hu,h0,h1,sizeOf,typeInfo,hinf,hsize,Addr.add_lit]
theorem Acq{t:x6}{x ix:x8}(ho:o.op=.indexAddr t x ix){len sz:Nat}{b:Bool}(hs:my P t=G (len,sz,b)){q off:Nat}{k:yv}{i:Int}(h0:0<=i)(h1:i<len):
  Aj P o [.ptr q off,.v (.int k i)] σ (.ptr q (off+i.toNat*sz)) σ:=by
 refine A0 fun E g ρ w hw hds=>?_
 simp only[ho,Op.operands,Av] at hds
 obtain⟨u,v,eq,h1',h2⟩:=hds
 simp only[Ia,I7,HN,Io] at eq
 obtain⟨e1,e2⟩:=eq
 simp only[Ag,AJ] at h1' h2
 subst h2
 obtain⟨hq,rfl⟩:=h1'
 obtain⟨e,hu,hz⟩:=Kz hs
 refine⟨.pointer (G ⟨g.β q,off+i.toNat*sz,none⟩),?_,by simp[Ag,hq]⟩
 simp[execOp,ho,e1,e2,Instr.indexAt,asIntOf,run_underlying hu,h0,h1,c9 hz,Addr.add_lit,Instr.sureAddr]
theorem Acp{t:x6}{x ix:x8}(ho:o.op=.indexAddr t x ix){len sz:Nat}{b:Bool}(hs:my P t=G (len,sz,b))(hn1:b=O->sz=1){cs:List V}{y:V}{k:yv}{i:Int}(h0:0<=i)(h1:i<len)
  (hp:Hd cs (i.toNat*sz) sz b=G y):Aj P o [.v (.ref (.agg cs)),.v (.int k i)] σ (.v (.ref y)) σ:=by
 refine A0 fun E g ρ w hw hds=>?_
 simp only[ho,Op.operands,Av] at hds
 obtain⟨u,v,eq,h1',h2⟩:=hds
 simp only[Ia,I7,HN,Io] at eq
 obtain⟨e1,e2⟩:=eq
 simp only[Ag,AJ,Da] at h1' h2
 subst h2
 obtain⟨bb,off,us,rfl,hi,hr⟩:=h1'
 obtain⟨e,hu,hz⟩:=Kz hs
 simp only[repC] at hr
 obtain⟨h3,_,_⟩:=LH hp hr hn1
 refine⟨.pointer (G ⟨bb,off+i.toNat*sz,none⟩),?_,by simp only[Ag,Da];exact⟨bb,_,_,rfl,Lc (Lf hi _) sz,h3⟩⟩
 simp[execOp,ho,e1,e2,Instr.indexAt,asIntOf,run_underlying hu,h0,h1,c9 hz,Addr.add_lit,Instr.sureAddr]
theorem Yz{t:x6}{x ix:x8}(ho:o.op=.index t x ix)(ht:P.underlying t=G .string){s:List UInt8}{k:yv}{i:Int}{c:UInt8}(h0:0<=i)(hc:s[i.toNat]?=G c):
  Aj P o [.v (.str s),.v (.int k i)] σ (.v (.int .u8 c.toNat)) σ:=by
 refine A0 fun E g ρ w hw hds=>?_
 simp only[ho,Op.operands,Av] at hds
 obtain⟨u,v,eq,h1',h2⟩:=hds
 simp only[Ia,I7,HN,Io] at eq
 obtain⟨e1,e2⟩:=eq
 simp only[Ag,AJ,CZ] at h1' h2
 subst h1' h2
 refine⟨.int .u8 c.toNat,?_,by simp[Ag]⟩
 have hlt:i.toNat<I s:=(HD.1 hc).1
 have hb:(⟨s.toArray⟩:ByteArray)[i.toNat]?=G c:=by
  rw[getElem?_pos _ _ (by rw[Ri];exact hlt)]
  have:=(HD.1 hc).2
  simp only[Ii]
  rw[←this];rfl
 simp[execOp,ho,e1,e2,Instr.index,asIntOf,run_underlying ht,h0,hb]
theorem Af3{t:x6}{x ix:x8}(ho:o.op=.index t x ix){len sz:Nat}{b:Bool}(hs:my P t=G (len,sz,b))(hn1:b=O->sz=1){cs:List V}{y:V}{k:yv}{i:Int}(h0:0<=i)(h1:i<len)
  (hp:Hd cs (i.toNat*sz) sz b=G y):Aj P o [.v (.agg cs),.v (.int k i)] σ (.v y) σ:=by
 refine A0 fun E g ρ w hw hds=>?_
 simp only[ho,Op.operands,Av] at hds
 obtain⟨u,v,eq,h1',h2⟩:=hds
 simp only[Ia,I7,HN,Io] at eq
 obtain⟨e1,e2⟩:=eq
 simp only[Ag,AJ,C6] at h1' h2
 subst h2
 obtain⟨us,hr,rfl⟩:=h1'
 obtain⟨e,hu,hz⟩:=Kz hs
 obtain⟨v,hrun,hv⟩:=S0 hz hp hr hn1 w
 refine⟨v,?_,by simpa only[Ag] using hv⟩
 simp[execOp,ho,e1,e2,Instr.index,asIntOf,run_underlying hu,h0,h1,c9 hz,hrun]
end
theorem WI.update{E:cf}{g g':Gh}{σ σ':St}{w w':x5}(hw:WI E g σ w)(X:Nat->Prop)(hX:∀b,X b->E.w.heap.size<=b∨E.priv b)
  (keep:∀b,b<w.heap.size->¬X b->w'.heap[b]?=w.heap[b]?/\∀o,g'.M b o=g.M b o)
  (hle:g.M.le g'.M) (hn:g.n<=g'.n) (hβ:∀o,o<g.n->g'.β o=g.β o) (hκ:∀o,o<g.n->g'.κ o=g.κ o) (size:w.heap.size<=w'.heap.size) (os:w'.os=w.os) (tape:w'.tape=w.tape) (output:w'.output=w.output)
  (rep:dw g' σ' w') (objs:∀i cs,σ'.H[i]?=G (G cs)->E.w.heap.size<=g'.β i∨E.priv (g'.β i))
  (owns:∀x∈σ'.own,∀u,g'.ι x.1 (I x.2.2)=G u->∀b,Cg u=G b->E.w.heap.size<=b∨E.priv b)
  (drawn:BJ w.drawn w'.drawn:=by first|exact BJ.refl _|exact BJ.succ _|assumption):WI E g' σ' w' where
 rep:=rep
 M:=cd.le_trans hw.M hle
 size:=I6 hw.size size
 keep:=fun b hb hp=>by
  have hnx:¬X b:=fun hx=>by
   rcases hX b hx with h|h
   ·omega
   ·exact hp h
  obtain⟨h1,h2⟩:=keep b (IV hb hw.size) hnx
  obtain⟨h3,h4⟩:=hw.keep b hb hp
  exact⟨h1.trans h3,fun o=>(h2 o).trans (h4 o)⟩
 os:=os.trans hw.os
 tape:=tape.trans hw.tape
 output:=output.trans hw.output
 nE:=I6 hw.nE hn
 βE:=fun o ho=>(hβ o (IV ho hw.nE)).trans (hw.βE o ho)
 κE:=fun o ho=>(hκ o (IV ho hw.nE)).trans (hw.κE o ho)
 objs:=objs
 owns:=owns
 drawn:=hw.drawn.trans drawn
theorem GR{w:x5}{b:Nat}{o:Obj}(h:w.heap[b]?=G o):b<w.heap.size:=(I5.1 h).1
theorem dw.mem_lt{g:Gh}{σ:St}{w:x5}(h:dw g σ w){b o:Nat}{v:yz}(hm:g.M b o=G v):b<w.heap.size:=
 World.block_lt_of_cell? w ⟨b,o,none⟩ (h.mem b o v hm)
theorem dw.new_none{g:Gh}{σ:St}{w:x5}(h:dw g σ w){b:Nat}(hb:w.heap.size<=b)(o:Nat):g.M b o=none:=by
 cases e:g.M b o with
 |none=>rfl
 |some v=>have:=h.mem_lt e;omega
theorem dw.own_lt{g:Gh}{σ:St}{w:x5}(h:dw g σ w){x:Nat×Nat×List V}(hx:x∈σ.own){u:yz}(hu:g.ι x.1 (I x.2.2)=G u){b:Nat}(hb:Cg u=G b):b<w.heap.size:=by
 obtain⟨_,u',hu',_,hp,_⟩:=h.own x.1 x.2.1 x.2.2 hx
 rw[hu] at hu'
 obtain rfl:u=u':=by simpa using hu'
 rcases hp with⟨a,rfl⟩|⟨b',f,len,cap,cur,e,rfl,hh,_⟩
 ·cases a<;>simp[Cg] at hb
 ·simp only[Cg] at hb
  split at hb
  ·simp at hb
  ·simp at hb;subst hb;exact GR hh
theorem dw.obj_lt{g:Gh}{σ:St}{w:x5}(h:dw g σ w){i:Nat}{cs:List D}(hi:σ.H[i]?=G (G cs)):g.β i<w.heap.size:=by
 obtain⟨us,rest,e,hb,_⟩:=h.obj i cs hi
 exact GR hb
theorem dw.lt_n{g:Gh}{σ:St}{w:x5}(h:dw g σ w){i:Nat}{cs:List D}(hi:σ.H[i]?=G (G cs)):i<g.n:=by
 rw[h.n];exact(HD.1 hi).1
theorem Perm.kept{M M':cd}{w w':x5}{sz:Nat}{u:yz}(h:Perm M w sz u)(hk:∀b,Cg u=G b->w'.heap[b]?=w.heap[b]?/\∀o,M' b o=M b o):Perm M' w' sz u:=by
 rcases h with⟨a,rfl⟩|⟨b,f,len,cap,cur,e,rfl,hh,hl,hc,hM⟩
 ·exact .inl ⟨a,rfl⟩
 ·by_cases h0:cap=0
  ·subst h0
   obtain rfl:len=0:=by omega
   exact .inl ⟨_,rfl⟩
  ·obtain⟨h1,h2⟩:=hk b (by simp[Cg,h0])
   exact .inr ⟨b,f,len,cap,cur,e,rfl,h1.trans hh,hl,hc,fun o ho=>(h2 o).trans (hM o ho),hM.ng⟩
theorem dw.obj_ng{g:Gh}{σ:St}{w:x5}(h:dw g σ w){i:Nat}{cs:List D}(hi:σ.H[i]?=G (G cs)):∀p∈Gy,p.1≠g.β i:=fun p hp e=>by
 obtain⟨v,hv⟩:=h.gl.sized p hp
 obtain⟨_,_,_,_,_,_,hM,_⟩:=h.obj i cs hi
 rw[e,hM 0] at hv;simp at hv
theorem Perm.ng{M:cd}{w:x5}{sz:Nat}{u:yz}(h:Perm M w sz u){b:Nat}(hb:Cg u=G b):∀p∈Gy,p.1≠b:=by
 rcases h with⟨a,rfl⟩|⟨b',f,len,cap,cur,e,rfl,_,_,_,hM⟩
 ·cases a<;>simp[Cg] at hb
 ·simp only[Cg] at hb
  split at hb
  ·simp at hb
  ·simp at hb;subst hb;exact hM.ng
theorem dw.own_ng{g:Gh}{σ:St}{w:x5}(h:dw g σ w){k sz:Nat}{xs:List V}(hx:(k,sz,xs)∈σ.own){u:yz}(hu:g.ι k (I xs)=G u){b:Nat}(hb:Cg u=G b):∀p∈Gy,p.1≠b:=by
 obtain⟨_,u',hu',_,hp,_⟩:=h.own k sz xs hx
 rw[hu] at hu';simp at hu';subst hu'
 exact hp.ng hb
theorem GW.lt{w:x5}(h:GW w){p:Nat×Nat}(hp:p∈Gy):p.1<w.heap.size:=by
 obtain⟨cs,e,x,h1,_⟩:=h p hp
 exact(I5.1 h1).1
theorem GW.new{w:x5}(h:GW w){b:Nat}(hb:w.heap.size<=b):∀p∈Gy,p.1≠b:=fun p hp e=>by have:=h.lt hp;omega
theorem dw.grow{g:Gh}{σ:St}{w w':x5}(h:dw g σ w){M':cd}(hle:g.M.le M')(keep:∀b,b<w.heap.size->w'.heap[b]?=w.heap[b]?/\∀o,M' b o=g.M b o)
  (mem:∀b o v,M' b o=G v->w'.cell? ⟨b,o,none⟩=G v):dw { g with M:=M' } σ w':=by
 have hg:g.le { g with M:=M' }:=⟨hle,HH _,fun _ _=>rfl,fun _ _ _ h=>h,fun _ _=>rfl⟩
 refine⟨h.n,mem,fun i cs hi=>?_,h.inj,fun k sz xs hx=>?_,h.tags,h.sep,h.ownObj,h.fresh,h.gl.mono hle,h.gw.keep fun b hb=>(keep b hb).1⟩
 ·obtain⟨us,rest,e,hb,hr,h1,hM,hκ⟩:=h.obj i cs hi
  obtain⟨k1,k2⟩:=keep _ (GR hb)
  exact⟨us,rest,e,k1.trans hb,Ad.mono hg _ _ hr,h1,fun o=>(k2 o).trans (hM o),hκ⟩
 ·obtain⟨h0,u,hu,hr,hp,hf⟩:=h.own k sz xs hx
  exact⟨h0,u,hu,hr.mono hle,hp.kept fun b hb=>keep b (h.own_lt hx hu hb),hf⟩
theorem WI.grow{E:cf}{g:Gh}{σ:St}{w w':x5}(hw:WI E g σ w){M':cd}(hle:g.M.le M')(keep:∀b,b<w.heap.size->w'.heap[b]?=w.heap[b]?/\∀o,M' b o=g.M b o)
  (mem:∀b o v,M' b o=G v->w'.cell? ⟨b,o,none⟩=G v) (size:w.heap.size<=w'.heap.size) (os:w'.os=w.os) (tape:w'.tape=w.tape) (output:w'.output=w.output) (drawn:BJ w.drawn w'.drawn:=by first|exact BJ.refl _|exact BJ.succ _|assumption):WI E { g with M:=M' } σ w':=
 hw.update (fun _=>False) (fun _ h=>h.elim) (fun b hb _=>keep b hb) hle (HH _) (fun _ _=>rfl) (fun _ _=>rfl) size os tape output (hw.rep.grow hle keep mem) hw.objs hw.owns
theorem N1(w:x5)(o:Obj){b i:Nat}{v:yz}(h:w.cell? ⟨b,i,none⟩=G v):(w.alloc o).cell? ⟨b,i,none⟩=G v:=by
 rw[World.cell?_alloc_lt w o _ (World.block_lt_of_cell? w _ h)];exact h
theorem WI.alloc{E:cf}{g:Gh}{σ:St}{w:x5}(hw:WI E g σ w)(o:Obj):WI E g σ (w.alloc o):=by
 have:=hw.grow (w':=w.alloc o) (M':=g.M) (cd.le_refl _) (fun b hb=>⟨heap_alloc_old w o b hb,fun _=>rfl⟩) (fun b i v h=>N1 w o (hw.rep.mem b i v h)) (by simp) rfl rfl rfl
 exact this
theorem WI.drew{E:cf}{g:Gh}{σ:St}{w:x5}(hw:WI E g σ w):WI E g σ w.drew:=by
 have:=hw.grow (w':=w.drew) (M':=g.M) (cd.le_refl _) (fun b hb=>⟨rfl,fun _=>rfl⟩) (fun b i v h=>hw.rep.mem b i v h) (HH _) rfl rfl rfl
 exact this
theorem WI.addObj{E:cf}{g:Gh}{σ:St}{w:x5}(hw:WI E g σ w){b:Nat}{us rest:List yz}{e:x6}{cs:List D}(hb:w.heap[b]?=G (.cells (us++rest).toArray e (0,0)))(hE:E.w.heap.size<=b∨E.priv b)(hM:∀o,g.M b o=none)
  (hno:∀i cs,σ.H[i]?=G (G cs)->g.β i≠b) (hown:∀x∈σ.own,∀u,g.ι x.1 (I x.2.2)=G u->Cg u≠G b) (hr:Ad g cs us) (h1:∀c∈cs,c.one=J):
  WI E { g with n:=g.n+1,β:=fun o=>if o=g.n then b else g.β o,κ:=fun o=>if o=g.n then(us++rest).length else g.κ o } ⟨σ.H++[G cs],σ.own⟩ w/\g.le { g with n:=g.n+1,β:=fun o=>if o=g.n then b else g.β o,κ:=fun o=>if o=g.n then(us++rest).length else g.κ o }:=by
 have hle:g.le { g with n:=g.n+1,β:=fun o=>if o=g.n then b else g.β o,κ:=fun o=>if o=g.n then(us++rest).length else g.κ o }:=⟨cd.le_refl _,Nat.le_succ _,fun o ho=>HR (by omega),fun _ _ _ h=>h,fun o ho=>HR (by omega)⟩
 have split:∀i cs',(σ.H++[G cs])[i]?=G (G cs')->(σ.H[i]?=G (G cs')/\i<g.n)∨(i=g.n/\cs'=cs):=by
  intro i cs' hi
  by_cases hlt:i<I σ.H
  ·rw[HW hlt] at hi
   exact .inl ⟨hi,by rw[hw.rep.n];exact hlt⟩
  ·rw[HT (by omega)] at hi
   have:i-I σ.H=0:=by
    cases hk:i-I σ.H with
    |zero=>rfl
    |succ k=>simp[hk] at hi
   rw[this] at hi
   simp at hi
   exact .inr ⟨by rw[hw.rep.n];omega,hi.symm⟩
 refine⟨hw.update (fun _=>False) (fun _ h=>h.elim) (fun _ _ _=>⟨rfl,fun _=>rfl⟩) (cd.le_refl _) (Nat.le_succ _) (fun o ho=>HR (by omega)) (fun o ho=>HR (by omega)) (HH _) rfl rfl rfl ?_ ?_ hw.owns,hle⟩
 ·refine⟨by simp[hw.rep.n],hw.rep.mem,fun i cs' hi=>?_,fun i j cs1 cs2 hi hj hij=>?_,hw.rep.own,hw.rep.tags,hw.rep.sep,fun x hx u hu b' hb' i cs' hi=>?_,hw.rep.fresh,hw.rep.gl,hw.rep.gw⟩
  ·rcases split i cs' hi with⟨h,hlt⟩|⟨rfl,rfl⟩
   ·obtain⟨us',rest',e',h2,h3,h4,h5,h6⟩:=hw.rep.obj i cs' h
    have hne:(if i=g.n then b else g.β i)=g.β i:=HR (by omega)
    refine⟨us',rest',e',?_,Ad.mono hle _ _ h3,h4,?_,?_⟩
    ·simp only[hne];exact h2
    ·simp only[hne];exact h5
    ·simp only[HR (show ¬i=g.n by omega)];exact h6
   ·refine⟨us,rest,e,?_,Ad.mono hle _ _ hr,h1,?_,?_⟩
    ·simp only[IJ];exact hb
    ·simp only[IJ];exact hM
    ·simp only[IJ]
  ·rcases split i cs1 hi with⟨h,hlt⟩|⟨rfl,rfl⟩<;>rcases split j cs2 hj with⟨h',hlt'⟩|⟨rfl,rfl⟩
   ·simp only[HR (show ¬i=g.n by omega),HR (show ¬j=g.n by omega)] at hij
    exact hw.rep.inj i j _ _ h h' hij
   ·simp only[HR (show ¬i=g.n by omega),IJ] at hij
    exact absurd hij (hno i _ h)
   ·simp only[HR (show ¬j=g.n by omega),IJ] at hij
    exact absurd hij.symm (hno j _ h')
   ·rfl
  ·rcases split i cs' hi with⟨h,hlt⟩|⟨rfl,rfl⟩
   ·simp only[HR (show ¬i=g.n by omega)]
    exact hw.rep.ownObj x hx u hu b' hb' i cs' h
   ·simp only[IJ]
    intro e;subst e
    exact hown x hx u hu hb'
 ·intro i cs' hi
  rcases split i cs' hi with⟨h,hlt⟩|⟨rfl,rfl⟩
  ·simp only[HR (show ¬i=g.n by omega)];exact hw.objs i cs' h
  ·simp only[IJ];exact hE
theorem WI.addOwn{E:cf}{g:Gh}{σ:St}{w:x5}(hw:WI E g σ w){k sz:Nat}{xs:List V}{u:yz}(hk:∀x∈σ.own,x.1≠k)(hsz:0<sz/\∀x∈xs,x.size=sz)(hr:repV g.M (.list xs) u)(hp:Perm g.M w sz u)
  (hb:∀b,Cg u=G b->E.w.heap.size<=b/\(∀i cs,σ.H[i]?=G (G cs)->g.β i≠b)/\∀x∈σ.own,∀u',g.ι x.1 (I x.2.2)=G u'->Cg u'≠G b):
  WI E { g with ι:=fun k' m=>if k'=k then(if m=I xs then G u else none) else g.ι k' m } ⟨σ.H,(k,sz,xs)::σ.own⟩ w/\
  g.le { g with ι:=fun k' m=>if k'=k then(if m=I xs then G u else none) else g.ι k' m }:=by
 have hle:g.le { g with ι:=fun k' m=>if k'=k then(if m=I xs then G u else none) else g.ι k' m }:=by
  refine⟨cd.le_refl _,HH _,fun _ _=>rfl,fun k' m u' h=>?_,fun _ _=>rfl⟩
  by_cases e:k'=k
  ·subst e;rw[hw.rep.fresh k' hk m] at h;simp at h
  ·simp only[HR e];exact h
 have hold:∀x∈σ.own,(if x.1=k then(if I x.2.2=I xs then G u else none) else g.ι x.1 (I x.2.2))=g.ι x.1 (I x.2.2):=fun x hx=>HR (hk x hx)
 refine⟨hw.update (fun _=>False) (fun _ h=>h.elim) (fun _ _ _=>⟨rfl,fun _=>rfl⟩) (cd.le_refl _) (HH _) (fun _ _=>rfl) (fun _ _=>rfl) (HH _) rfl rfl rfl ?_ hw.objs ?_,hle⟩
 ·refine⟨hw.rep.n,hw.rep.mem,fun i cs hi=>?_,hw.rep.inj,fun k' sz' xs' hx=>?_,?_,fun x hx y hy hne u1 u2 h1 h2 b hb1=>?_,fun x hx u1 h1 b hb1 i cs hi=>?_,fun k' hk' m=>?_,hw.rep.gl,hw.rep.gw⟩
  ·obtain⟨us,rest,e,h2,h3,h4,h5⟩:=hw.rep.obj i cs hi
   exact⟨us,rest,e,h2,Ad.mono hle _ _ h3,h4,h5⟩
  ·rcases Iq.1 hx with e|hx
   ·simp only[Prod.mk.injEq] at e
    obtain⟨rfl,rfl,rfl⟩:=e
    refine⟨hsz,u,by simp,hr,hp,fun m hm=>?_⟩
    simp only[IJ];exact HR (by omega)
   ·obtain⟨h0,u',hu,h3,h4,h5⟩:=hw.rep.own k' sz' xs' hx
    have hne:¬k'=k:=hk _ hx
    refine⟨h0,u',by simp only[HR hne];exact hu,h3,h4,fun m hm=>by simp only[HR hne];exact h5 m hm⟩
  ·simp only[Ia,List.nodup_cons]
   refine⟨fun h=>?_,hw.rep.tags⟩
   obtain⟨x,hx,e⟩:=Is.1 h
   exact hk x hx e
  ·rcases Iq.1 hx with rfl|hx<;>rcases Iq.1 hy with rfl|hy
   ·exact absurd rfl hne
   ·simp at h1;subst h1
    have h2':g.ι y.1 (I y.2.2)=G u2:=(hold y hy).symm.trans h2
    exact(hb b hb1).2.2 y hy u2 h2'
   ·simp at h2;subst h2
    have h1':g.ι x.1 (I x.2.2)=G u1:=(hold x hx).symm.trans h1
    intro hb2
    exact(hb b hb2).2.2 x hx u1 h1' hb1
   ·exact hw.rep.sep x hx y hy hne u1 u2 ((hold x hx).symm.trans h1) ((hold y hy).symm.trans h2) b hb1
  ·rcases Iq.1 hx with rfl|hx
   ·simp at h1;subst h1
    exact(hb b hb1).2.1 i cs hi
   ·exact hw.rep.ownObj x hx u1 ((hold x hx).symm.trans h1) b hb1 i cs hi
  ·have hne:¬k'=k:=fun e=>hk' (k,sz,xs) (by simp) e.symm
   simp only[HR hne]
   exact hw.rep.fresh k' (fun x hx=>hk' x (by simp[hx])) m
 ·intro x hx u1 h1 b hb1
  rcases Iq.1 hx with rfl|hx
  ·simp at h1;subst h1
   exact .inl (hb b hb1).1
  ·exact hw.owns x hx u1 ((hold x hx).symm.trans h1) b hb1
def Ax:D->List D
 |.v (.agg xs)=>xs.map .v
 |.dagg cs=>cs
 |d=>[d]
def D.sto:D->Bool
 |.v _|.acc .. |.ptr .. |.arr .. |.gro .. |.dfn .. =>true
 |.dagg cs=>cs.all D.one
 |.raw x=>x.oneCell'
 |.rv x _=> !x.isAgg
 |_=>false
theorem D6{g:Gh}:∀{xs:List V} {us:List yz},repA g.M xs us->Ad g (xs.map .v) us/\∀c∈xs.map bt,c.one=J
 |[],us,h=>by simp only[repA] at h;simp[h,Ad]
 |x::xs,us,h=>by
  simp only[repA] at h
  obtain⟨u,us',rfl,ha,h1,h2⟩:=h
  obtain⟨h3,h4⟩:=D6 h2
  refine⟨?_,?_⟩
  ·simp only[Ia,Ad,Ag]
   exact⟨u,us',rfl,(BM ha).2 h1,h3⟩
  ·intro c hc
   simp only[Ia,Iq] at hc
   rcases hc with rfl|hc
   ·simp[D.one,ha]
   ·exact h4 c hc
theorem Q3{u:yz}(h:u.oneCell'=J):u.cells= #[u]:=by cases u<;>simp_all [Value.cells,Value.oneCell']
theorem Ff{g:Gh}{d:D}{u:yz}(h1:d.one=J)(h:Ag g d u):u.oneCell'=J:=by
 cases d with
 |v x=>simp only[Ag] at h;exact Dl (by simpa[D.one] using h1) h
 |acc k xs=>simp only[Ag] at h;exact Dl (x:=.list xs) rfl h.1
 |ptr q off=>simp only[Ag] at h;rw[h.2];rfl
 |arr q off len=>simp only[Ag] at h;obtain⟨_,cap,_,rfl⟩:=h;rfl
 |gro q len sz=>simp only[Ag] at h;obtain⟨_,cap,_,_,rfl⟩:=h;rfl
 |dfn f fs cs=>simp only[Ag] at h;obtain⟨us,vs,rfl,_⟩:=h;rfl
 |raw x=>simp only[Ag] at h;subst h;simpa[D.one] using h1
 |rv x u0=>simp only[Ag] at h;rw[h.1];exact Dl (by simpa[D.one] using h1) h.2
 |dagg cs=>simp[D.one] at h1
 |tup ds=>simp[D.one] at h1
 |err=>simp[D.one] at h1
 |undef=>simp[D.one] at h1
theorem C7{g:Gh}:∀{cs:List D} {us:List yz},(∀c∈cs,c.one=J)->Ad g cs us->∀u∈us,u.oneCell'=J
 |[],us,_,h=>by simp only[Ad] at h;simp[h]
 |c::cs,us,h1,h=>by
  simp only[Ad] at h
  obtain⟨u,us',rfl,h2,h3⟩:=h
  intro x hx
  simp only[Iq] at hx
  rcases hx with rfl|hx
  ·exact Ff (h1 c (by simp)) h2
  ·exact C7 (fun c hc=>h1 c (by simp[hc])) h3 x hx
theorem cells_rep{g:Gh}{d:D}{u:yz}(hs:d.sto=J)(h:Ag g d u):Ad g (Ax d) u.cells.toList/\(∀c∈Ax d,c.one=J)/\(∀x∈u.cells.toList,x.oneCell'=J):=by
 have one:d.one=J->u.oneCell'=J->Ax d=[d]->Ad g (Ax d) u.cells.toList/\(∀c∈Ax d,c.one=J)/\(∀x∈u.cells.toList,x.oneCell'=J):=by
  intro h1 h2 h3
  rw[h3,Q3 h2]
  exact⟨A9.2 ⟨u,rfl,h⟩,by simp[h1],by simp[h2]⟩
 cases d with
 |v x=>
  cases hx:x.isAgg with
  |false=>exact one (by simp[D.one,hx]) (by simp only[Ag] at h;exact Dl hx h) (by cases x with|agg _=>simp[V.isAgg] at hx|_=>rfl)
  |true=>
   cases x with
   |agg cs=>
    simp only[Ag,C6] at h
    obtain⟨ws,hr,rfl⟩:=h
    simp only[Ax,Value.cells]
    obtain⟨h3,h4⟩:=D6 hr
    exact⟨h3,h4,GI hr⟩
   |_=>simp[V.isAgg] at hx
 |acc k xs=>exact one rfl (by simp only[Ag] at h;exact Dl (x:=.list xs) rfl h.1) rfl
 |ptr q off=>exact one rfl (by simp only[Ag] at h;rw[h.2];rfl) rfl
 |arr q off len=>exact one rfl (by simp only[Ag] at h;obtain⟨_,cap,_,rfl⟩:=h;rfl) rfl
 |dfn f fs cs=>exact one rfl (by simp only[Ag] at h;obtain⟨us,vs,rfl,_⟩:=h;rfl) rfl
 |gro q len sz=>exact one rfl (Ff rfl h) rfl
 |rv x u0=>exact one (by simpa[D.sto,D.one] using hs) (Ff (by simpa[D.sto,D.one] using hs) h) rfl
 |raw x=>exact one (by simpa[D.sto,D.one] using hs) (Ff (by simpa[D.sto,D.one] using hs) h) rfl
 |dagg cs=>
  simp only[Ag] at h
  obtain⟨us,rfl,hr⟩:=h
  have h1:∀c∈cs,c.one=J:=by simpa[D.sto] using hs
  simp only[Ax,Value.cells]
  exact⟨hr,h1,C7 h1 hr⟩
 |tup ds=>simp[D.sto] at hs
 |err=>simp[D.sto] at hs
 |undef=>simp[D.sto] at hs
theorem WI.setObj{E:cf}{g:Gh}{σ:St}{w w':x5}(hw:WI E g σ w){q:Nat}{cs cs':List D}(hq:σ.H[q]?=G (G cs)){us rest:List yz}{e:x6}(hb:w'.heap[g.β q]?=G (.cells (us++rest).toArray e (0,0)))(hκ:I (us++rest)=g.κ q)
  (hr:Ad g cs' us) (h1:∀c∈cs',c.one=J) (keep:∀b,b≠g.β q->w'.heap[b]?=w.heap[b]?) (size:w'.heap.size=w.heap.size) (os:w'.os=w.os) (tape:w'.tape=w.tape) (output:w'.output=w.output) (drawn:BJ w.drawn w'.drawn:=by first|exact BJ.refl _|exact BJ.succ _|assumption):
  WI E g ⟨σ.H.set q (G cs'),σ.own⟩ w':=by
 have hMq:∀o,g.M (g.β q) o=none:=by obtain⟨_,_,_,_,_,_,h,_⟩:=hw.rep.obj q cs hq;exact h
 have split:∀(i:Nat) (cs1:List D),(σ.H.set q (G cs'))[i]?=G (G cs1)->(i=q/\cs1=cs')∨(i≠q/\σ.H[i]?=G (G cs1)):=by
  intro i cs1 hi
  rw[getElem?_set] at hi
  split at hi
  ·rename_i e;subst e
   split at hi
   ·simp at hi;exact .inl ⟨rfl,hi.symm⟩
   ·simp at hi
  ·rename_i e;exact .inr ⟨fun h=>e h.symm,hi⟩
 have live:∀(i:Nat) (cs1:List D),(σ.H.set q (G cs'))[i]?=G (G cs1)->∃cs2,σ.H[i]?=G (G cs2):=by
  intro i cs1 hi
  rcases split i cs1 hi with⟨rfl,_⟩|⟨_,h⟩
  ·exact⟨cs,hq⟩
  ·exact⟨_,h⟩
 refine hw.update (fun b=>b=g.β q) (fun b e=>by subst e;exact hw.objs q cs hq) (fun b _ hne=>⟨keep b hne,fun _=>rfl⟩) (cd.le_refl _) (HH _) (fun _ _=>rfl) (fun _ _=>rfl) (by omega) os tape output ?_ ?_ hw.owns
 ·refine⟨by simp[hw.rep.n],fun b o v hm=>?_,fun i cs1 hi=>?_,fun i j c1 c2 hi hj hij=>?_,fun k sz xs hx=>?_,hw.rep.tags,hw.rep.sep,fun x hx u hu b hb' i cs1 hi=>?_,hw.rep.fresh,hw.rep.gl,hw.rep.gw.mono fun b cs0 e0 x0 hb0=>by
   by_cases hbq:b=g.β q
   ·subst hbq
    obtain⟨us1,rest1,e1,h2,_,_,_,h3⟩:=hw.rep.obj q cs hq
    rw[h2] at hb0
    cases hb0
    exact⟨_,_,_,hb,by simp only[IP];omega⟩
   ·exact⟨_,_,_,(keep b hbq).trans hb0,rfl⟩⟩
  ·have hne:b≠g.β q:=fun e=>by subst e;rw[hMq o] at hm;simp at hm
   have:=hw.rep.mem b o v hm
   simp only[World.cell?] at this⊢
   rw[keep b hne];exact this
  ·rcases split i cs1 hi with⟨rfl,rfl⟩|⟨hne,h⟩
   ·exact⟨us,rest,e,hb,hr,h1,hMq,hκ⟩
   ·obtain⟨us',rest',e',h2,h3,h4,h5⟩:=hw.rep.obj i cs1 h
    refine⟨us',rest',e',?_,h3,h4,h5⟩
    rw[keep _ (fun e=>hne (hw.rep.inj i q _ _ h hq e))];exact h2
  ·obtain⟨c3,h3⟩:=live i c1 hi
   obtain⟨c4,h4⟩:=live j c2 hj
   exact hw.rep.inj i j _ _ h3 h4 hij
  ·obtain⟨h0,u,hu,h3,h4,h5⟩:=hw.rep.own k sz xs hx
   refine⟨h0,u,hu,h3,h4.kept fun b hb'=>⟨keep b ?_,fun _=>rfl⟩,h5⟩
   exact fun e=>hw.rep.ownObj _ hx u hu b hb' q cs hq e.symm
  ·obtain⟨c3,h3⟩:=live i cs1 hi
   exact hw.rep.ownObj x hx u hu b hb' i c3 h3
 ·intro i cs1 hi
  obtain⟨c3,h3⟩:=live i cs1 hi
  exact hw.objs i c3 h3
section
variable {P : x7} {o : yy} {σ : St} {d : D}
theorem WI.newObj{E:cf}{g:Gh}{w:x5}(hw:WI E g σ w){us:List yz}{cs:List D}(e:x6)(hr:Ad g cs us)(h1:∀c∈cs,c.one=J):
  ∃g',WI E g' ⟨σ.H++[G cs],σ.own⟩ (w.alloc (.cells us.toArray e))/\g.le g'/\g'.β (I σ.H)=w.heap.size/\g'.n=I σ.H+1:=by
 have h2:=(hw.alloc (.cells us.toArray e)).addObj (b:=w.heap.size) (us:=us) (rest:=[]) (e:=e) (cs:=cs) (by rw[Iz];exact heap_alloc_new w _) (.inl hw.size) (hw.rep.new_none (HH _))
  (fun i cs hi=>Nat.ne_of_lt (hw.rep.obj_lt hi)) (fun x hx u hu hb=>by have:=hw.rep.own_lt hx hu hb;omega) hr h1
 exact⟨_,h2.1,h2.2,by simp[hw.rep.n],by simp[hw.rep.n]⟩
theorem AhW{e:x6}{x:x8}(ho:o.op=.box e x)(hs:d.sto=J):Aj P o [d] σ (.ptr (I σ.H) 0) ⟨σ.H++[G (Ax d)],σ.own⟩:=by
 intro E g a w K Q hw hds hK
 simp only[ho,Op.operands,A9] at hds
 obtain⟨u,eu,hd⟩:=hds
 simp at eu
 obtain⟨h2,h3,_⟩:=cells_rep hs hd
 obtain⟨g',hw',hle,hβ,hn⟩:=hw.newObj e h2 h3
 have:=hK g' _ (.pointer (G ⟨w.heap.size,0,none⟩)) hw' hle (by simp only[Ag];exact⟨by omega,by rw[hβ]⟩)
 unfold Oper.wp execOp
 simpa[ho,eu,Instr.box,newVar,newRow,Oper.upon] using this
def Tv:yz->Option V
 |.int k n=>G (.int k n)
 |.bool b=>G (.bool b)
 |.string s=>G (.str s.data.toList)
 |.slice none 0 0=>G (.list [])
 |.nilFunc=>G .nilfn
 |.pointer none=>G .nilp
 |_=>none
def Kr:List yz->Option (List V)
 |[]=>G []
 |u::us=>match Tv u,Kr us with
  |some x,some xs=>G (x::xs)
  |_,_=>none
theorem Nr{M:cd}{u:yz}{x:V}(h:Tv u=G x):x.isAgg=O/\repC M x [u]:=by
 unfold Tv at h
 split at h<;>simp at h<;>subst h<;>simp[V.isAgg,repC]
theorem FQ{M:cd}:∀{us:List yz} {xs:List V},Kr us=G xs->repA M xs us
 |[],xs,h=>by simp[Kr] at h;subst h;simp[repA]
 |u::us,xs,h=>by
  simp only[Kr] at h
  split at h
  ·rename_i x xs' h1 h2
   simp at h;subst h
   obtain⟨h3,h4⟩:=Nr (M:=M) h1
   simp only[repA]
   exact⟨u,us,rfl,h3,h4,FQ h2⟩
  ·simp at h
def W4(P:x7)(t:x6):Option (List V):=
 match (P.info? t).bind (·.zero) with
 |some z=>Kr z.cells.toList
 |none=>none
theorem Lr{t:x6}{xs:List V}(h:W4 P t=G xs):∃i z,P.info? t=G i/\i.zero=G z/\Kr z.cells.toList=G xs:=by
 unfold W4 at h
 split at h
 ·rename_i z hz
  cases hi:P.info? t with
  |none=>simp[hi] at hz
  |some i=>exact⟨i,z,rfl,by simpa[hi] using hz,h⟩
 ·simp at h
theorem KX{t:x6}{x y:x8}(ho:o.op=.store t x y)(hs:d.sto=J){n:Nat}{b:Bool}(ht:DE P t=G (n,b))(hn:I (Ax d)=n){q off:Nat}{cs:List D}(hq:σ.H[q]?=G (G cs))(hoff:off+n<=I cs):
  Aj P o [.ptr q off,d] σ .undef ⟨σ.H.set q (G (cs.take off++Ax d++cs.drop (off+n))),σ.own⟩:=by
 intro E g a w K Q hw hds hK
 simp only[ho,Op.operands,Av] at hds
 obtain⟨u,v,eq,h1,h2⟩:=hds
 simp only[Ia,I7,HN,Io] at eq
 obtain⟨e1,e2⟩:=eq
 simp only[Ag] at h1
 obtain⟨hlt,rfl⟩:=h1
 obtain⟨us,rest,e,hb,hr,hone,hM,hκ⟩:=hw.rep.obj q cs hq
 obtain⟨h3,h4,h5⟩:=cells_rep hs h2
 have hl:I us=I cs:=A4 hr
 have hl2:I v.cells.toList=n:=by rw[A4 h3,hn]
 have hst:=run_storeCells_at P (g.β q) off e v.cells.toList 0 (us++rest).toArray w hb (by simp only[IP,HO];omega) h5
 simp only[I8,hl2] at hst
 rw[show(us++rest).take off++v.cells.toList++(us++rest).drop (off+n)=(us.take off++v.cells.toList++us.drop (off+n))++rest from by
  rw[Jj (by omega),List.drop_append_of_le_length (by omega)];simp] at hst
 have hw':=hw.setObj (cs':=cs.take off++Ax d++cs.drop (off+n)) hq (us:=us.take off++v.cells.toList++us.drop (off+n)) (rest:=rest) (e:=e)
  (w':=w.setRow (g.β q) ((us.take off++v.cells.toList++us.drop (off+n))++rest).toArray) (setRow_heap w _ _ _ e _ hb) (by rw[←hκ];simp only[HO,Ig,IF];omega)
  (Au (Au (CH hr off) h3) (CI hr (off+n)))
  (fun c hc=>by
   simp only[Ix] at hc
   rcases hc with(hc|hc)|hc
   ·exact hone c (IR hc)
   ·exact h4 c hc
   ·exact hone c (I1 hc))
  (fun b hb=>setRow_other w _ _ _ hb) (by simp) rfl rfl rfl
 have:=hK g _ undef hw' g.le_refl (by simp[Ag])
 have hsz:v.cells.size=n:=by rw[←Im];exact hl2
 unfold Oper.wp execOp
 simp only[ho,e1,e2,Instr.storeAt,Instr.sureAddr,Sem.run_bind,Sem.run_pure,Result.andThen_ok,storeVar,c9 ht,hsz,ne_eq,not_true_eq_false,if_false,hst]
 exact this
theorem PE{t:x6}{x y:x8}(ho:o.op=.store t x y)(hs:d.one=J)(ht:OV P t){q off:Nat}{cs:List D}(hq:σ.H[q]?=G (G cs))(hoff:off<I cs):
  Aj P o [.ptr q off,d] σ .undef ⟨σ.H.set q (G (cs.set off d)),σ.own⟩:=by
 have hc:Ax d=[d]:=by
  cases d with
  |v x=>cases x<;>simp_all [D.one,Ax,V.isAgg]
  |dagg cs=>simp[D.one] at hs
  |_=>rfl
 have hs':d.sto=J:=by cases d<;>simp_all [D.one,D.sto]
 have h:=KX (P:=P) (σ:=σ) (n:=1) (off:=off) ho hs' ht (by rw[hc];rfl) hq (by omega)
 rw[hc] at h
 have e:cs.take off++[d]++cs.drop (off+1)=cs.set off d:=by
  rw[List.set_eq_take_append_cons_drop,HV hoff];simp
 rw[e] at h
 exact h
def V.cellsV:V->List V
 |.agg cs=>cs
 |x=>[x]
theorem L7{M:cd}{x:V}{u:yz}(h:repV M x u):repA M x.cellsV u.cells.toList/\u.cells.size=x.size:=by
 have hc:=JR h
 have hl:u.cells.size=x.size:=by rw[←Im];exact FK hc
 refine⟨?_,hl⟩
 cases hx:x.isAgg with
 |true=>
  cases x with
  |agg cs=>simpa only[V.cellsV,repC] using hc
  |_=>simp[V.isAgg] at hx
 |false=>
  have e:x.cellsV=[x]:=by cases x<;>simp_all [V.cellsV,V.isAgg]
  obtain⟨u',e1,_,_⟩:=Db hx hc
  rw[e,e1]
  simp only[repA]
  exact⟨u',[],rfl,hx,by rw[←e1];exact hc,rfl⟩
def Gr(place:Nat->Option (Nat×Nat))(cells:List V):List (Nat×V)->Option (List V)
 |[]=>G cells
 |(i,x)::rest=>
  match place i with
  |none=>none
  |some (off,size)=>if x.size=size/\off+size<=I cells then Gr place (cells.take off++x.cellsV++cells.drop (off+size)) rest else none
theorem MZ{place place':Nat->Option (Nat×Nat)}{out:List V}(hp:∀i p,place i=G p->place' i=G p):∀(xs:List (Nat×V)) (cells:List V),Gr place cells xs=G out->Gr place' cells xs=G out
 |[],cells,h=>by simpa[Gr] using h
 |(i,x)::xs,cells,h=>by
  simp only[Gr] at h⊢
  cases hi:place i with
  |none=>simp[hi] at h
  |some p=>
   rw[hp i p hi]
   simp only[hi] at h⊢
   split at h
   ·rename_i hc;rw[HV hc];exact MZ hp xs _ h
   ·simp at h
theorem H6{M:cd}:∀{xs ys:List V} {us vs:List yz},repA M xs us->repA M ys vs->repA M (xs++ys) (us++vs)
 |[],ys,us,vs,h,h'=>by simp only[repA] at h;simpa[h] using h'
 |x::xs,ys,us,vs,h,h'=>by
  simp only[repA] at h
  obtain⟨u,us1,rfl,ha,h1,h2⟩:=h
  simp only[Jr,repA]
  exact⟨u,_,rfl,ha,h1,H6 h2 h'⟩
theorem X2(off:Nat)(l:List yz)(cs:Array yz)(h:off+I l<=cs.size):
  ((l.zipIdx 0).foldl (fun cs (x:yz×Nat)=>cs.setIfInBounds (off+x.2) x.1) cs).toList=cs.toList.take off++l++cs.toList.drop (off+I l):=by
 obtain⟨h1,h2⟩:=Great.foldl_set off l 0 cs
 apply List.ext_getElem?
 intro k
 have e:((l.zipIdx 0).foldl (fun cs (x:yz×Nat)=>cs.setIfInBounds (off+x.2) x.1) cs).toList[k]?=((l.zipIdx 0).foldl (fun cs (x:yz×Nat)=>cs.setIfInBounds (off+x.2) x.1) cs)[k]?:=by simp
 rw[e,h2 k]
 simp only[I8]
 have hlt:I (cs.toList.take off)=off:=by simp;omega
 by_cases hk:k<off
 ·rw[HR (by omega),IG,HW (by omega),IX,HV hk];simp
 ·by_cases hk2:k<off+I l
  ·rw[HV (by omega),IG,HT (by omega),hlt,HW (by omega)]
  ·rw[HR (by omega),HT (by simp;omega),List.getElem?_drop]
   simp only[HO,hlt]
   rw[show off+I l+(k- (off+I l))=k by omega];simp
inductive JK (M:cd):List (Nat×V)->List (Nat×yz)->Prop
 |nil:JK M [] []
 |cons {i:Nat} {x:V} {u:yz} {xs:List (Nat×V)} {us:List (Nat×yz)} (h:repV M x u) (hr:JK M xs us):JK M ((i,x)::xs) ((i,u)::us)
theorem Lh{M:cd}{place:Nat->Option (Nat×Nat)}:∀{xs:List (Nat×V)} {us:List (Nat×yz)} {cells out:List V} {cu:Array yz},JK M xs us->repA M cells cu.toList->Gr place cells xs=G out->
  ∃U,Instr.fill place cu us=G U/\repA M out U.toList
 |[],us,cells,out,cu,h,hc,hf=>by
  cases h
  simp[Gr] at hf;subst hf
  exact⟨cu,rfl,hc⟩
 |(i,x)::xs,us,cells,out,cu,h,hc,hf=>by
  cases h with
  |cons hx hr=>
   rename_i u us
   simp only[Gr] at hf
   cases hp:place i with
   |none=>simp[hp] at hf
   |some p=>
    obtain⟨off,size⟩:=p
    simp only[hp] at hf
    split at hf
    ·rename_i hcond
     obtain⟨hA,hsz⟩:=L7 hx
     have hl:cu.size=I cells:=by rw[←Im];exact DG hc
     have hs:u.cells.size=size:=hsz.trans hcond.1
     have hsp:=X2 off u.cells.toList cu (by simp only[Im];omega)
     simp only[Im,hs] at hsp
     have hc':repA M (cells.take off++x.cellsV++cells.drop (off+size)) ((u.cells.toList.zipIdx 0).foldl (fun cs (x:yz×Nat)=>cs.setIfInBounds (off+x.2) x.1) cu).toList:=by
      rw[hsp]
      exact H6 (H6 (J3 hc off) hA) (J4 hc (off+size))
     obtain⟨U,hU,hrU⟩:=Lh hr hc' hf
     refine⟨U,?_,hrU⟩
     unfold Instr.fill
     simp only[hp,hs]
     rw[HR (by simp;omega), ←hU]
     congr 1
     rw[←Array.foldl_toList,Array.toList_zipIdx]
    ·simp at hf
def Wi(P:x7)(t:x6):Option (List V×List (Nat×Nat)):=
 match W4 P t,P.underlying t with
 |some z,some (.struct fs)=>(fs.toList.mapM (fun f=>(P.info? f.type).map fun i=>(f.offset,i.size))).map fun p=>(z,p)
 |some z,some (.array n e)=>(P.info? e).map fun i=>(z,(List.range n).map fun j=>(j*i.size,i.size))
 |_,_=>none
def CU:List (Nat×x8)->List D->Option (List (Nat×V))
 |[],[]=>G []
 |(i,_)::ps,d::ds=>match d.toV,CU ps ds with
  |some x,some xs=>G ((i,x)::xs)
  |_,_=>none
 |_,_=>none
theorem G0{g:Gh}{a:Act}:∀{ps:List (Nat×x8)} {ds:List D} {xs:List (Nat×V)},CU ps ds=G xs->Ad g ds (ps.map fun p=>a.eval p.2)->JK g.M xs (ps.map fun p=>(p.1,a.eval p.2))
 |[],[],xs,h,_=>by simp[CU] at h;subst h;exact .nil
 |[],_::_,xs,h,_=>by simp[CU] at h
 |(i,_)::ps,[],xs,h,_=>by simp[CU] at h
 |(i,x)::ps,d::ds,xs,h,hr=>by
  simp only[CU] at h
  split at h
  ·rename_i y ys hy hys
   simp at h;subst h
   simp only[Ia,Ad] at hr
   obtain⟨u,us',e,h1,h2⟩:=hr
   simp at e
   obtain⟨rfl,rfl⟩:=e
   exact .cons (JN hy h1) (G0 hys h2)
  ·simp at h
theorem SK{t:x6}{parts:Array (Nat×x8)}(ho:o.op=.build t parts){z:List V}{ay:List (Nat×Nat)}(hb:Wi P t=G (z,ay)){ds:List D}{xs:List (Nat×V)}{out:List V}
  (hx:CU parts.toList ds=G xs) (hf:Gr (ay[·]?) z xs=G out):Aj P o ds σ (.v (.agg out)) σ:=by
 intro E g a w K Q hw hds hK
 simp only[ho,Op.operands] at hds
 have hpr:=G0 hx (a:=a) (g:=g) (by simpa[Function.comp_def] using hds)
 unfold Wi at hb
 have key:∃U,P.built t (parts.toList.map fun p=>(p.1,a.eval p.2))=G U/\repA g.M out U.toList:=by
  cases hz:W4 P t with
  |none=>simp[hz] at hb
  |some z0=>
   obtain⟨i,zv,hi,hz1,hcv⟩:=Lr hz
   cases hu:P.underlying t with
   |none=>simp[hz,hu] at hb
   |some dd=>
    cases dd<;>simp only[hz,hu,reduceCtorEq] at hb
    case struct fs=>
     cases hp:fs.toList.mapM (fun f=>(P.info? f.type).map fun i=>(f.offset,i.size)) with
     |none=>simp[hp] at hb
     |some pl=>
      simp[hp] at hb
      obtain⟨rfl,rfl⟩:=hb
      obtain⟨U,hU,hrU⟩:=Lh hpr (FQ (M:=g.M) hcv) hf
      exact⟨U,by simpa[Program.built,hi,hu,hz1,hp] using hU,hrU⟩
    case array n e=>
     cases hp:P.info? e with
     |none=>simp[hp] at hb
     |some ie=>
      simp[hp] at hb
      obtain⟨rfl,rfl⟩:=hb
      have hf':Gr (fun i=>G (i*ie.size,ie.size)) z0 xs=G out:=by
       refine MZ (fun i p hp'=>?_) xs z0 hf
       have hlt:=(HD.1 hp').1
       simp at hlt
       simpa[hlt] using hp'
      obtain⟨U,hU,hrU⟩:=Lh hpr (FQ (M:=g.M) hcv) hf'
      exact⟨U,by simpa[Program.built,hi,hu,hz1,hp] using hU,hrU⟩
 obtain⟨U,hU,hrU⟩:=key
 have:=hK g w (.agg U) hw g.le_refl (by simp only[Ag,C6];exact⟨U.toList,hrU,by simp⟩)
 have hrun:=run_build (P:=P) w t (parts.map fun p=>(p.1,a.eval p.2)) U (by simpa using hU)
 unfold Oper.wp execOp
 simp only[ho]
 simp only[Sem.run_bind]
 rw[show(parts.map fun(x:Nat×x8)=>match x with|(i,x)=>(i,a.eval x))=parts.map fun p=>(p.1,a.eval p.2) from rfl,hrun]
 exact this
end
def GF(k sz:Nat)(zs:List V)(x:Nat×Nat×List V):Nat×Nat×List V:=if x.1=k then(k,sz,zs) else x
theorem S1{k sz:Nat}{zs:List V}(x:Nat×Nat×List V):(GF k sz zs x).1=x.1:=by unfold GF;split<;>simp_all
theorem WI.setOwn{E:cf}{g:Gh}{σ:St}{w w':x5}(hw:WI E g σ w){k sz:Nat}{xs zs:List V}(hx:(k,sz,xs)∈σ.own){u u':yz}(hu:g.ι k (I xs)=G u){M':cd}(hle:g.M.le M')
  (keep:∀b,b<w.heap.size->Cg u≠G b->w'.heap[b]?=w.heap[b]?/\∀o,M' b o=g.M b o) (mem:∀b o v,M' b o=G v->w'.cell? ⟨b,o,none⟩=G v)
  (size:w.heap.size<=w'.heap.size) (os:w'.os=w.os) (tape:w'.tape=w.tape) (output:w'.output=w.output)
  (hzs:∀x∈zs,x.size=sz) (hr:repV M' (.list zs) u') (hp:Perm M' w' sz u') (hb:∀b,Cg u'=G b->Cg u=G b∨w.heap.size<=b) (hlen:I xs<I zs∨(I zs=I xs/\u'=u)) (drawn:BJ w.drawn w'.drawn:=by first|exact BJ.refl _|exact BJ.succ _|assumption):
  WI E { g with M:=M',ι:=fun k' m=>if k'=k/\m=I zs then G u' else g.ι k' m } ⟨σ.H,σ.own.map (GF k sz zs)⟩ w'/\
  g.le { g with M:=M',ι:=fun k' m=>if k'=k/\m=I zs then G u' else g.ι k' m }:=by
 obtain⟨hsz,u0,hu0,_,_,hfr⟩:=hw.rep.own k sz xs hx
 have hlg:g.le { g with M:=M',ι:=fun k' m=>if k'=k/\m=I zs then G u' else g.ι k' m }:=by
  refine⟨hle,HH _,fun _ _=>rfl,fun k' m v h=>?_,fun _ _=>rfl⟩
  by_cases e:k'=k/\m=I zs
  ·obtain⟨rfl,rfl⟩:=e
   simp only[and_self,IJ]
   rcases hlen with hl|⟨hl,rfl⟩
   ·rw[hfr _ hl] at h;simp at h
   ·rw[hl] at h;exact hu.symm.trans h
  ·simp only[HR e];exact h
 -- two entries with one tag are one
 have uniq:∀y∈σ.own,y.1=k->y=(k,sz,xs):=by
  intro y hy e
  have hnd:=hw.rep.tags
  clear hfr hlg hw
  generalize σ.own=l at*
  induction l with
  |nil=>simp at hy
  |cons z l ih=>
   simp only[Ia,List.nodup_cons] at hnd
   rcases Iq.1 hy with rfl|hy'<;>rcases Iq.1 hx with hx'|hx'
   ·exact hx'.symm
   ·exact absurd (Is.2 ⟨_,hx',e.symm⟩) hnd.1
   ·subst hx';exact absurd (Is.2 ⟨_,hy',e⟩) hnd.1
   ·exact ih hx' hy' hnd.2
 have old:∀y∈σ.own,y.1≠k->(if y.1=k/\y.2.2.length=I zs then G u' else g.ι y.1 (I y.2.2))=g.ι y.1 (I y.2.2):=fun y _ e=>HR (fun h=>e h.1)
 -- each new entry
 have cases_:∀y'∈σ.own.map (GF k sz zs),(y'=(k,sz,zs))∨(y'∈σ.own/\y'.1≠k):=by
  intro y' hy'
  obtain⟨y,hy,rfl⟩:=Is.1 hy'
  by_cases e:y.1=k
  ·exact .inl (by simp[GF,e])
  ·exact .inr (by simp only[GF,HR e];exact⟨hy,e⟩)
 have sep0:∀y∈σ.own,y.1≠k->∀v,g.ι y.1 (I y.2.2)=G v->∀b,Cg v=G b->Cg u'≠G b:=by
  intro y hy e v hv b hvb hub
  rcases hb b hub with h|h
  ·exact hw.rep.sep (k,sz,xs) hx y hy (fun h=>e h.symm) u v hu hv b h hvb
  ·have:=hw.rep.own_lt hy hv hvb;omega
 refine⟨hw.update (fun b=>Cg u=G b) (fun b h=>hw.owns _ hx u hu b h) (fun b hb1 h=>keep b hb1 h) hle (HH _) (fun _ _=>rfl) (fun _ _=>rfl) size os tape output ?_ hw.objs ?_,hlg⟩
 ·refine⟨hw.rep.n,mem,fun i cs hi=>?_,hw.rep.inj,fun k' sz' xs' hx'=>?_,?_,fun x1 hx1 y1 hy1 hne u1 u2 h1 h2 b hb1=>?_,fun x1 hx1 u1 h1 b hb1 i cs hi=>?_,fun k' hk' m=>?_,hw.rep.gl.mono hle,hw.rep.gw.keepG fun p hp hlt=>(keep p.1 hlt fun e=>hw.rep.own_ng hx hu e p hp rfl).1⟩
  ·obtain⟨us,rest,e,h2,h3,h4,h5,h6⟩:=hw.rep.obj i cs hi
   obtain⟨k1,k2⟩:=keep _ (GR h2) (fun h=>hw.rep.ownObj _ hx u hu _ h i cs hi rfl)
   exact⟨us,rest,e,k1.trans h2,Ad.mono hlg _ _ h3,h4,fun o=>(k2 o).trans (h5 o),h6⟩
  ·rcases cases_ _ hx' with e|⟨hy,e⟩
   ·simp only[Prod.mk.injEq] at e
    obtain⟨rfl,rfl,rfl⟩:=e
    refine⟨⟨hsz.1,hzs⟩,u',by simp,hr,hp,fun m hm=>?_⟩
    show(if k'=k'/\m=I xs' then G u' else g.ι k' m)=none
    rw[HR (by omega)]
    exact hfr m (by rcases hlen with h|⟨h,_⟩<;>omega)
   ·obtain⟨h0,v,hv,h3,h4,h5⟩:=hw.rep.own k' sz' xs' hy
    refine⟨h0,v,(old _ hy e).trans hv,h3.mono hle,h4.kept fun b hvb=>keep b (hw.rep.own_lt hy hv hvb) ?_,fun m hm=>?_⟩
    ·exact fun h=>hw.rep.sep (k,sz,xs) hx _ hy (fun h=>e h.symm) u v hu hv b h hvb
    ·simp only[HR (show ¬(k'=k/\m=I zs) from fun h=>e h.1)]
     exact h5 m hm
  ·rw[map_map]
   have:(Prod.fst ∘GF k sz zs)=Prod.fst:=funext fun x=>S1 x
   rw[this];exact hw.rep.tags
  ·rcases cases_ _ hx1 with rfl|⟨hy,e⟩<;>rcases cases_ _ hy1 with rfl|⟨hy',e'⟩
   ·exact absurd rfl hne
   ·simp at h1;subst h1
    have h2':=(old _ hy' e').symm.trans h2
    exact fun h=>sep0 y1 hy' e' u2 h2' b h hb1
   ·simp at h2;subst h2
    exact sep0 x1 hy e u1 ((old _ hy e).symm.trans h1) b hb1
   ·exact hw.rep.sep x1 hy y1 hy' hne u1 u2 ((old _ hy e).symm.trans h1) ((old _ hy' e').symm.trans h2) b hb1
  ·rcases cases_ _ hx1 with rfl|⟨hy,e⟩
   ·simp at h1;subst h1
    rcases hb b hb1 with h|h
    ·exact hw.rep.ownObj _ hx u hu b h i cs hi
    ·have:=hw.rep.obj_lt hi
     intro h';simp only at h';omega
   ·exact hw.rep.ownObj x1 hy u1 ((old _ hy e).symm.trans h1) b hb1 i cs hi
  ·have hne:¬(k'=k):=fun e=>hk' (k,sz,zs) (Is.2 ⟨_,hx,by simp[GF]⟩) e.symm
   simp only[HR (show ¬(k'=k/\m=I zs) from fun h=>hne h.1)]
   refine hw.rep.fresh k' (fun y hy e=>?_) m
   have:=hk' (GF k sz zs y) (Is.2 ⟨y,hy,rfl⟩)
   rw[S1] at this
   exact this e
 ·intro x1 hx1 u1 h1 b hb1
  rcases cases_ _ hx1 with rfl|⟨hy,e⟩
  ·simp at h1;subst h1
   rcases hb b hb1 with h|h
   ·exact hw.owns _ hx u hu b h
   ·exact .inl (I6 hw.size h)
  ·exact hw.owns x1 hy u1 ((old _ hy e).symm.trans h1) b hb1
def TI(M:cd)(b:Nat)(us:List yz):cd:=fun b' o=>if b'=b then us[o]? else M b' o
theorem Aay{g:Gh}{σ:St}{w:x5}(h:dw g σ w){b:Nat}(hb:w.heap.size<=b)(us:List yz):g.M.le (TI g.M b us):=fun b' o v hm=>by
 have:=h.mem_lt hm
 simp only[TI,HR (show ¬b'=b by omega)];exact hm
theorem OU(M:cd)(b:Nat)(us:List yz):fg (TI M b us) b 0 us:=fun j v hj=>by simp[TI,hj]
theorem NL{M:cd}{b b':Nat}{us:List yz}(h:b'≠b)(o:Nat):TI M b us b' o=M b' o:=by simp[TI,h]
theorem WI.newImm{E:cf}{g:Gh}{σ:St}{w:x5}(hw:WI E g σ w)(us rest:List yz)(e:x6):
  WI E { g with M:=TI g.M w.heap.size us } σ (w.alloc (.cells (us++rest).toArray e))/\g.le { g with M:=TI g.M w.heap.size us }:=by
 refine⟨hw.grow (Aay hw.rep (HH _) us) (fun b hb=>⟨heap_alloc_old w _ b hb,NL (Nat.ne_of_lt hb)⟩) (fun b o v hm=>?_) (by simp) rfl rfl rfl,⟨Aay hw.rep (HH _) us,HH _,fun _ _=>rfl,fun _ _ _ h=>h,fun _ _=>rfl⟩⟩
 unfold TI at hm
 split at hm
 ·rename_i e;subst e
  rw[World.cell?_alloc_new]
  have hlt:=(HD.1 hm).1
  simp[HW hlt,hm]
 ·exact N1 w _ (hw.rep.mem b o v hm)
theorem H3{M:cd}{sz:Nat}:∀{xs ys:List V} {us vs:List yz},repE M sz xs us->repE M sz ys vs->repE M sz (xs++ys) (us++vs)
 |[],ys,us,vs,h,h'=>by simp only[repE] at h;simpa[h] using h'
 |x::xs,ys,us,vs,h,h'=>by
  simp only[repE] at h
  obtain⟨u1,u2,rfl,hl,h1,h2⟩:=h
  simp only[Jr,repE]
  exact⟨u1,u2++vs,by simp,hl,h1,H3 h2 h'⟩
theorem K1{M:cd}{sz:Nat}:∀{xs:List V} {us:List yz},repE M sz xs us->∀u∈us,u.oneCell'=J
 |[],us,h=>by simp only[repE] at h;simp[h]
 |x::xs,us,h=>by
  simp only[repE] at h
  obtain⟨u1,u2,rfl,hl,h1,h2⟩:=h
  intro u hu
  rcases Ix.1 hu with hu|hu
  ·exact K2 h1 u hu
  ·exact K1 h2 u hu
theorem Cq{M:cd}{xs:List V}{u:yz}{sz:Nat}(h:repV M (.list xs) u)(hs:∀x∈xs,x.size=sz)(hsz:0<sz):
  ∃a cap,u=.slice a (I xs) cap/\xs.length<=cap/\(xs=[]∨∃b off us,a=G ⟨b,off,none⟩/\fg M b off us/\repE M sz xs us):=by
 rw[B3] at h
 obtain⟨a,cap,e,hc,h⟩:=h
 refine⟨a,cap,e,hc,?_⟩
 rcases h with h|⟨b,off,sz',us,ha,hsz',hi,hr⟩
 ·exact .inl h
 ·cases xs with
  |nil=>exact .inl rfl
  |cons x xs=>
   have hx:=hs x (by simp)
   have:sz'=sz:=by
    obtain⟨u1,h1,h2,_⟩:=Oi hr (i:=0) (x:=x) (by simp)
    rw[←h2,FK h1,hx]
   subst this
   exact .inr ⟨b,off,us,ha,hi,hr⟩
theorem Du{M:cd}{xs:List V}{b f sz cap:Nat}{us:List yz}(hsz:0<sz)(hi:fg M b f us)(hr:repE M sz xs us)(hc:I xs<=cap):repV M (.list xs) (.slice (G ⟨b,f,none⟩) (I xs) cap):=by
 rw[B3]
 exact⟨_,cap,rfl,hc,.inr ⟨b,f,sz,us,rfl,hsz,hi,hr⟩⟩
section
variable {P : x7} {o : yy} {σ : St} {d : D}
theorem JC(s:Nat):∀(vs:List yz) (i0:Nat) (pre rest:List yz),I pre=i0*s->(∀v∈vs,v.cells.size=s)->I rest=I vs*s->
  Instr.fill (fun i=>G (i*s,s)) (pre++rest).toArray ((vs.zipIdx i0).map fun x=>(x.2,x.1))=G (pre++vs.flatMap (·.cells.toList)).toArray
 |[],i0,pre,rest,_,_,hr=>by
  have:rest=[]:=IT (by simpa using hr)
  subst this;simp[Instr.fill]
 |v::vs,i0,pre,rest,hp,hv,hr=>by
  have hvs:=hv v (by simp)
  have hr':I rest=s+I vs*s:=by rw[hr,HF,IL,Nat.one_mul,Nat.add_comm]
  have hsp:=X2 (i0*s) v.cells.toList (pre++rest).toArray (by simp only[IP,HO,Im];omega)
  simp only[Im,hvs] at hsp
  have e1:(pre++rest).take (i0*s)=pre:=by rw[←hp];simp
  have e2:(pre++rest).drop (i0*s+s)=rest.drop s:=by rw[←hp];simp
  simp only[e1,e2] at hsp
  have ih:=JC s vs (i0+1) (pre++v.cells.toList) (rest.drop s) (by simp[hp,hvs,IL]) (fun x hx=>hv x (by simp[hx])) (by simp;omega)
  simp only[List.zipIdx_cons,Ia]
  unfold Instr.fill
  simp only[hvs]
  rw[HR (by simp;omega)]
  have e3:(v.cells.zipIdx.foldl (fun cs (x:yz×Nat)=>cs.setIfInBounds (i0*s+x.2) x.1) (pre++rest).toArray)=(pre++v.cells.toList++rest.drop s).toArray:=by
   rw[←Array.foldl_toList,Array.toList_zipIdx]
   apply IC
   rw[hsp]
  rw[e3,ih]
  simp
theorem Jy{g:Gh}{sz:Nat}:∀{ds:List D} {xs:List V} {us:List yz},EN ds=G xs->Ad g ds us->(∀x∈xs,x.size=sz)->repE g.M sz xs (us.flatMap (·.cells.toList))/\(∀v∈us,v.cells.size=sz)
 |[],xs,us,h,hr,_=>by simp[EN] at h;subst h;simp only[Ad] at hr;subst hr;simp[repE]
 |d::ds,xs,us,h,hr,hs=>by
  simp only[EN] at h
  split at h
  ·rename_i x xs' hx hxs
   simp at h;subst h
   simp only[Ad] at hr
   obtain⟨u,us',rfl,h2,h3⟩:=hr
   have hv:=JN hx h2
   obtain⟨_,hsz⟩:=L7 hv
   obtain⟨h4,h5⟩:=Jy hxs h3 (fun y hy=>hs y (by simp[hy]))
   have hu:u.cells.size=sz:=hsz.trans (hs x (by simp))
   refine⟨?_,?_⟩
   ·simp only[List.flatMap_cons,repE]
    exact⟨_,_,rfl,by simpa using hu,JR hv,h4⟩
   ·intro v hv'
    rcases Iq.1 hv' with rfl|h
    ·exact hu
    ·exact h5 v h
  ·simp at h
theorem FH:∀{ds:List D} {xs:List V},EN ds=G xs->I xs=I ds
 |[],xs,h=>by simp[EN] at h;simp[←h]
 |d::ds,xs,h=>by
  simp only[EN] at h
  split at h
  ·rename_i x xs' hx hxs
   simp at h;subst h
   simp[FH hxs]
  ·simp at h
theorem EA{t:x6}{len:Nat}{parts:Array (Nat×x8)}(ho:o.op=.buildSlice t len parts)(hp:parts.toList=((parts.toList.map (·.2)).zipIdx 0).map fun x=>(x.2,x.1))(hlen:parts.size=len)
  {e:x6} {sz by':Nat} {z:Option yz} (hs:Cd P t=G (e,sz,by',z)) (hz:z.isSome=J) {ds:List D} {xs:List V} (hx:EN ds=G xs) (hsz:∀x∈xs,x.size=sz) (h0:0<len) (h1:0<sz) (h2:len*sz<=1000):
  Aj P o ds σ (.v (.list xs)) σ:=by
 intro E g a w K Q hw hds hK
 simp only[ho,Op.operands] at hds
 obtain⟨i,hu,hi,rfl,rfl,rfl⟩:=AH hs
 obtain⟨zz,hzz⟩:=Option.isSome_iff_exists.1 hz
 have hlm:I (parts.toList.map fun p=>a.eval p.2)=len:=by simp[hlen]
 have hds':Ad g ds (parts.toList.map fun p=>a.eval p.2):=by simpa[Function.comp_def] using hds
 obtain⟨hr,hcs⟩:=Jy hx hds' hsz
 have hxl:I xs=len:=by rw[FH hx, ←A4 hds',hlm]
 have hpos:0<len*i.size:=Nat.mul_pos h0 h1
 have hf:=JC i.size (parts.toList.map fun p=>a.eval p.2) 0 [] ((Array.range (len*i.size)).map (zz.cells[· %zz.cells.size]!)).toList (by simp) hcs (by simp[hlen])
 have hpp:((parts.toList.map fun p=>a.eval p.2).zipIdx 0).map (fun x=>(x.2,x.1))=parts.toList.map fun p=>(p.1,a.eval p.2):=by
  have e1:(parts.toList.map fun p=>a.eval p.2)=(parts.toList.map (·.2)).map a.eval:=by simp
  rw[e1,List.zipIdx_map,map_map]
  conv=>rhs;rw[hp,map_map]
  rfl
 rw[hpp] at hf
 simp only[List.nil_append,Array.toArray_toList] at hf
 have hrun:=run_buildSlice (P:=P) w t e len (parts.map fun p=>(p.1,a.eval p.2)) _ i zz hu hi hzz (by omega) (by omega) (by simpa using hf)
 obtain⟨hw',hle⟩:=hw.newImm ((parts.toList.map fun p=>a.eval p.2).flatMap (·.cells.toList)) [] e
 rw[Iz] at hw'
 have:=hK _ _ (.slice (G ⟨w.heap.size,0,none⟩) len len) hw' hle (by
  simp only[Ag]
  have:=Du (cap:=len) h1 (OU g.M w.heap.size _) (repE.mono hle.M _ _ _ hr) (by omega)
  rw[hxl] at this
  exact this)
 unfold Oper.wp execOp
 simp only[ho]
 simp only[Sem.run_bind]
 rw[show(parts.map fun(x:Nat×x8)=>match x with|(i,x)=>(i,a.eval x))=parts.map fun p=>(p.1,a.eval p.2) from rfl,hrun]
 exact this
theorem M4{t:x6}{parts:Array (Nat×x8)}(ho:o.op=.buildSlice t 0 parts)(hp:parts= #[]){e:x6}{sz by':Nat}{z:Option yz}(hs:Cd P t=G (e,sz,by',z)):
  Aj P o [] σ (.v (.list [])) σ:=by
 intro E g a w K Q hw hds hK
 obtain⟨i,hu,hi,rfl,rfl,rfl⟩:=AH hs
 subst hp
 have:=hK g _ (.slice (G ⟨w.heap.size,0,none⟩) 0 0) (hw.alloc (.cells #[] e)) g.le_refl (by
  simp only[Ag];rw[B3];exact⟨_,0,rfl,HH _,.inl rfl⟩)
 unfold Oper.wp execOp
 simpa[ho,Instr.buildSlice,run_underlying hu,sizeOf,typeInfo,hi,Instr.fill,newRow,Oper.upon,show Array.range 0= #[] from rfl] using this
end
section
variable {P : x7} {o : yy} {σ : St} {d : D}
theorem L6(w:x5)(t ty e:x6)(i:TypeInfo)(ht:P.underlying t=G (.slice e))(hi:P.info? e=G i)(a a2:Option Addr)(n c c2:Nat)(hc:n<=c):
  (Builtin.append_ #[t,t] ty #[.slice a n c,.slice a2 0 c2]).run P w=.ok (.slice a n c) w:=by
 have hf:(Builtin.firstCells i.size 0 (.slice a2 0 c2)).run P w=.ok #[] w:=by
  cases a2<;>simp[Builtin.firstCells,loadCells,loadCellsFrom]
 cases a<;>simp[Builtin.append_,run_underlying ht,sizeOf,typeInfo,hi,Builtin.lenOf,hc,hf,storeCells]
theorem d7(w:x5)(t ty e e':x6)(i:TypeInfo)(ht:P.underlying t=G (.slice e))(hi:P.info? e=G i)
  (g sLen sCap:Nat) (cur:Array yz) (hg:w.heap[g]?=G (.cells cur e' (0,0)))
  (a:Addr) (m c:Nat) (news:List yz) (hl:I news=m*i.size) (hnews:∀j u,news[j]?=G u->w.cell? (a.add j)=G u) (h1:∀u∈news,u.oneCell'=J)
  (hroom:sLen+m<=sCap) (hfit:sLen*i.size+I news<=cur.size):
  (Builtin.append_ #[t,t] ty #[.slice (G ⟨g,0,none⟩) sLen sCap,.slice (G a) m c]).run P w=
   .ok (.slice (G ⟨g,0,none⟩) (sLen+m) sCap) (w.setRow g (cur.toList.take (sLen*i.size)++news++cur.toList.drop (sLen*i.size+I news)).toArray):=by
 have hf:=run_firstCells_some (P:=P) w i.size m a m c news hl hnews
 have hst:=run_storeCells_at P g (sLen*i.size) e' news 0 cur w hg (by simpa using hfit) h1
 simp only[I8] at hst
 simp[Builtin.append_,run_underlying ht,sizeOf,typeInfo,hi,Builtin.lenOf,hroom,hf,Addr.add_lit,hst]
theorem KF(w:x5)(t ty e e':x6)(i:TypeInfo)(ht:P.underlying t=G (.slice e))(hi:P.info? e=G i)
  (g p sLen sCap:Nat) (cur:Array yz) (hg:w.heap[g]?=G (.cells cur e' (0,0)))
  (a:Addr) (m c:Nat) (news:List yz) (hl:I news=m*i.size) (hnews:∀j u,news[j]?=G u->w.cell? (a.add j)=G u) (h1:∀u∈news,u.oneCell'=J)
  (hroom:sLen+m<=sCap) (hfit:p+sLen*i.size+I news<=cur.size):
  (Builtin.append_ #[t,t] ty #[.slice (G ⟨g,p,none⟩) sLen sCap,.slice (G a) m c]).run P w=
   .ok (.slice (G ⟨g,p,none⟩) (sLen+m) sCap) (w.setRow g (cur.toList.take (p+sLen*i.size)++news++cur.toList.drop (p+sLen*i.size+I news)).toArray):=by
 have hf:=run_firstCells_some (P:=P) w i.size m a m c news hl hnews
 have hst:=run_storeCells_at P g (p+sLen*i.size) e' news 0 cur w hg (by simpa using hfit) h1
 simp only[I8] at hst
 simp[Builtin.append_,run_underlying ht,sizeOf,typeInfo,hi,Builtin.lenOf,hroom,hf,Addr.add_lit,hst]
theorem M0{E:cf}{g:Gh}{w:x5}(hw:WI E g σ w){t ty e:x6}{sz by':Nat}{z:yz}(hs:Cd P t=G (e,sz,by',G z))(hzc:z.cells.size=sz){k:Nat}{xs ys:List V}(hx:(k,sz,xs)∈σ.own)
  (hsy:∀y∈ys,y.size=sz) (hlen:(I xs+I ys)*by'<=140737488355328) (hlen2:I xs+I ys<=140737488355328) {u v:yz} (hu:g.ι k (I xs)=G u) (hv:repV g.M (.list ys) v):
  ∃u' w' g',(Builtin.append_ #[t,t] ty #[u,v]).run P w=.ok u' w'/\WI E g' ⟨σ.H,σ.own.map (GF k sz (xs++ys))⟩ w'/\g.le g'/\Ag g' (.acc k (xs++ys)) u':=by
 obtain⟨⟨hsz,hsx⟩,u0,hu0,hr0,hp0,hfr⟩:=hw.rep.own k sz xs hx
 obtain rfl:u=u0:=by rw[hu] at hu0;simpa using hu0
 obtain⟨i,ht,hi,hisz,hib,hiz⟩:=AH hs
 have hzs:∀x∈xs++ys,x.size=sz:=fun x hx=>by
  rcases Ix.1 hx with h|h
  ·exact hsx x h
  ·exact hsy x h
 obtain⟨a2,cap2,rfl,hc2,hv⟩:=Cq hv hsy hsz
 obtain⟨a1,cap1,e1,hc1,hr1⟩:=Cq hr0 hsx hsz
 -- what is left to do once the run and the new header are known
 have fin:∀(u':yz) (w':x5) (M':cd),(Builtin.append_ #[t,t] ty #[u,.slice a2 (I ys) cap2]).run P w=.ok u' w'->g.M.le M'->
   (∀b,b<w.heap.size->Cg u≠G b->w'.heap[b]?=w.heap[b]?/\∀o,M' b o=g.M b o)->(∀b o v,M' b o=G v->w'.cell? ⟨b,o,none⟩=G v)->
   w.heap.size<=w'.heap.size->w'.os=w.os->w'.tape=w.tape->w'.output=w.output->repV M' (.list (xs++ys)) u'->Perm M' w' sz u'->(∀b,Cg u'=G b->Cg u=G b∨w.heap.size<=b)->
   (I xs<I (xs++ys)∨(I (xs++ys)=I xs/\u'=u))->BJ w.drawn w'.drawn->
   ∃u' w' g',(Builtin.append_ #[t,t] ty #[u,.slice a2 (I ys) cap2]).run P w=.ok u' w'/\WI E g' ⟨σ.H,σ.own.map (GF k sz (xs++ys))⟩ w'/\g.le g'/\Ag g' (.acc k (xs++ys)) u':=by
  intro u' w' M' hrun hle keep mem size os tape output hr hp hb hl dr
  obtain⟨h1,h2⟩:=hw.setOwn hx hu hle keep mem size os tape output hzs hr hp hb hl
  exact⟨u',w',_,hrun,h1,h2,by simp only[Ag];exact⟨hr,by simp⟩⟩
 cases hys:ys with
 |nil=>
  subst hys
  refine fin u w g.M ?_ (cd.le_refl _) (fun b _ _=>⟨rfl,fun _=>rfl⟩) hw.rep.mem (HH _) rfl rfl rfl (by simpa using hr0) hp0 (fun b hb=>.inl hb) (.inr ⟨by simp,rfl⟩) (BJ.refl _)
  rw[e1]
  exact L6 w t ty e i ht hi _ _ _ _ _ hc1
 |cons y0 ys0=>
  rw[←hys]
  have hne:ys≠ []:=by rw[hys];simp
  have hpos:0<I ys:=List.length_pos_iff.2 hne
  rcases hv with h|⟨b2,off2,vs,rfl,hi2,hr2⟩
  ·exact absurd h hne
  have hvl:I vs=I ys*i.size:=by rw[BN hr2,hisz]
  have hcells2:=Fx hw hi2
  have hvone:=K1 hr2
  have grows:∀(us:List yz) (old:Nat),repE g.M sz xs us->old<I xs+I ys->
    (Builtin.append_ #[t,t] ty #[u,.slice (G ⟨b2,off2,none⟩) (I ys) cap2]).run P w=
     .ok (.slice (G ⟨w.heap.size,0,none⟩) (I xs+I ys) (grownCap w (I xs+I ys) old e))
      (w.drew.alloc (.cells (us.toArray++vs.toArray++Builtin.zeroCells z.cells (grownCap w (I xs+I ys) old e- (I xs+I ys))) e))->
    ∃u' w' g',(Builtin.append_ #[t,t] ty #[u,.slice (G ⟨b2,off2,none⟩) (I ys) cap2]).run P w=.ok u' w'/\WI E g' ⟨σ.H,σ.own.map (GF k sz (xs++ys))⟩ w'/\g.le g'/\Ag g' (.acc k (xs++ys)) u':=by
   intro us old hus hold hrun
   have hge:=grownCap_ge w (I xs+I ys) old e
   have hcell:us.toArray++vs.toArray++Builtin.zeroCells z.cells (grownCap w (I xs+I ys) old e- (I xs+I ys))=((us++vs)++(Builtin.zeroCells z.cells (grownCap w (I xs+I ys) old e- (I xs+I ys))).toList).toArray:=by
    apply IC;simp
   rw[hcell] at hrun
   have hE:=H3 hus hr2
   obtain⟨hw2,hle2⟩:=hw.drew.newImm (us++vs) (Builtin.zeroCells z.cells (grownCap w (I xs+I ys) old e- (I xs+I ys))).toList e
   refine fin _ _ (TI g.M w.heap.size (us++vs)) hrun hle2.M (fun b hb _=>⟨heap_alloc_old w.drew _ b hb,NL (Nat.ne_of_lt hb)⟩) hw2.rep.mem (by simp) rfl rfl rfl ?_ ?_ ?_ (.inl (by simp;omega)) (BJ.succ _)
   ·have:=Du (cap:=grownCap w (I xs+I ys) old e) hsz (OU g.M w.heap.size (us++vs)) (repE.mono hle2.M _ _ _ hE) (by simp;omega)
    simpa using this
   ·refine .inr ⟨w.heap.size,0,I xs+I ys,_,_,e,rfl,heap_alloc_new w.drew _,hge,?_,fun o ho=>?_,hw.rep.gw.new (HH _)⟩
    ·simp only[IP,HO,Im,size_zeroCells,hzc,BN hus,BN hr2, ←IL,Iv]
     exact Nat.mul_le_mul_right _ (by omega)
    ·simp only[TI,IJ]
     refine Iy ?_
     rw[BN hE];simpa using ho
   ·intro b hb
    simp only[Cg] at hb
    split at hb
    ·simp at hb
    ·simp at hb;exact .inr (by omega)
  have h63:((I xs+I ys:Nat):Int)<=9223372036854775807:=by omega
  have hfit:∀old,old<I xs+I ys->Builtin.nextslicecap (I xs+I ys) old*i.bytes<=281474976710656:=fun old ho=>growslice_fits ho (by rw[hib];exact hlen)
  have hdrew:∀j v,vs[j]?=G v->w.cell? ((⟨b2,off2,none⟩:Addr).add j)=G v:=hcells2
  rcases hp0 with⟨a,ea⟩|⟨b,f,len,cap,cur,et,eu,hb,hlc,hcc,hMb⟩
  ·-- no room at all
   have hxn:xs=[]:=by
    rw[ea] at e1
    simp at e1
    exact IT e1.2.1.symm
   subst hxn
   simp only[HJ,Iv] at*
   subst ea
   cases a with
   |none=>
    refine grows [] 0 (by simp[repE]) hpos ?_
    have:=run_append_nil (P:=P) w t ty e i z ht hi hiz ⟨b2,off2,none⟩ (I ys) cap2 vs hvl hdrew hpos (by omega) (by have:=hfit 0 hpos;rw[nextslicecap_zero hpos] at this;exact this)
    simpa using this
   |some a=>
    refine grows [] 0 (by simp[repE]) hpos ?_
    have:=run_append_grow (P:=P) w t ty e i z ht hi hiz a 0 0 [] (by simp) (by simp) ⟨b2,off2,none⟩ (I ys) cap2 vs hvl hdrew (by omega) (by simpa using h63) (by simpa using hfit 0 hpos)
    simpa using this
  ·obtain⟨rfl,rfl,rfl⟩:a1=G ⟨b,f,none⟩/\xs.length=len/\cap1=cap:=by
    rw[eu] at e1;simp at e1;exact⟨e1.1.symm,e1.2.1.symm,e1.2.2.symm⟩
   obtain⟨us,hus,hui⟩:∃us,repE g.M sz xs us/\fg g.M b f us:=by
    rcases hr1 with rfl|⟨b',off',us,ea,hi1,hr1⟩
    ·exact⟨[],by simp[repE],fun j v hj=>by simp at hj⟩
    ·simp at ea;obtain⟨rfl,rfl⟩:=ea
     exact⟨us,hr1,hi1⟩
   have hul:=BN hus
   by_cases hroom:I xs+I ys<=cap1
   ·-- in place
    have hcur:f+I xs*i.size+I vs<=cur.size:=by
     rw[hvl,hisz,Nat.add_assoc, ←IL]
     exact I6 (Nat.add_le_add_left (Nat.mul_le_mul_right _ hroom) f) hcc
    have hrun:=KF (P:=P) w t ty e et i ht hi b f (I xs) cap1 cur hb ⟨b2,off2,none⟩ (I ys) cap2 vs hvl hdrew hvone hroom hcur
    rw[←eu] at hrun
    have hcap0:cap1≠0:=by omega
    have hob:Cg u=G b:=by rw[eu];simp[Cg,hcap0]
    -- the new cells
    let M':cd:=fun b' o=>if b'=b/\f+I xs*sz<=o then vs[o- (f+I xs*sz)]? else g.M b' o
    have hM':g.M.le M':=fun b' o v hm=>by
     simp only[M']
     rw[HR]; ·exact hm
     rintro ⟨rfl,ho⟩
     rw[hMb o ho] at hm;simp at hm
    have hin:fg M' b f (us++vs):=fun j v hj=>by
     simp only[M']
     by_cases hj1:f+I xs*sz<=f+j
     ·rw[HV ⟨trivial,hj1⟩,show f+j- (f+I xs*sz)=j-I xs*sz by omega]
      rw[HT (by omega),hul] at hj;exact hj
     ·rw[HR (fun h=>hj1 h.2)]
      rw[HW (by omega)] at hj
      have:=hui j v hj;simpa using this
    refine fin _ _ M' hrun hM' (fun b' _ hne=>?_) (fun b' o v hm=>?_) (by simp) rfl rfl rfl ?_ ?_ (fun b' hb'=>?_) (.inl (by simp;omega)) (BJ.refl _)
    ·have hbb:b'≠b:=fun h=>hne (by rw[hob,h])
     refine⟨setRow_other w b b' _ hbb,fun o=>?_⟩
     simp only[M'];rw[HR (fun h=>hbb h.1)]
    ·simp only[M'] at hm
     by_cases hb':b'=b
     ·subst hb'
      rw[cell_setRow_same w b' o cur _ et _ hb]
      have hl1:I (cur.toList.take (f+I xs*i.size))=f+I xs*sz:=by
       simp only[Ig,Im,hisz]
       have:=I6 (Nat.add_le_add_left (Nat.mul_le_mul_right sz hlc) f) hcc
       omega
      by_cases ho:f+I xs*sz<=o
      ·rw[HV ⟨rfl,ho⟩] at hm
       have hlt:=(HD.1 hm).1
       simp only[ID]
       rw[IG,HT (by omega),hl1,HW hlt]
       exact hm
      ·rw[HR (fun h=>ho h.2)] at hm
       have hold:=hw.rep.mem b' o v hm
       simp only[World.cell?,hb] at hold
       simp only[ID]
       rw[IG,HW (by omega),IX,HV (by rw[hisz];omega)]
       simpa using hold
     ·rw[HR (fun h=>hb' h.1)] at hm
      rw[cell_setRow_other w b _ _ hb']
      exact hw.rep.mem b' o v hm
    ·have:=Du (cap:=cap1) hsz hin (repE.mono hM' _ _ _ (H3 hus hr2)) (by simp;omega)
     simpa using this
    ·refine .inr ⟨b,f,I xs+I ys,cap1,_,et,rfl,setRow_heap w b cur _ et _ hb,hroom,?_,fun o ho=>?_,hw.rep.own_ng hx hu hob⟩
     ·simp only[IP,HO,Ig,IF,Im]
      omega
     ·simp only[M']
      rw[HV ⟨trivial,by rw[IL] at ho;omega⟩]
      refine Iy ?_
      rw[hvl,hisz];rw[IL] at ho;omega
    ·simp only[Cg] at hb'
     rw[HR hcap0] at hb'
     simp at hb'
     exact .inl (by rw[hob,hb'])
   ·have:=run_append_grow (P:=P) w t ty e i z ht hi hiz ⟨b,f,none⟩ (I xs) cap1 us (by rw[hul,hisz]) (Fx hw hui) ⟨b2,off2,none⟩ (I ys) cap2 vs hvl hdrew (by omega) h63 (hfit cap1 (by omega))
    refine grows us cap1 hus (by omega) ?_
    rw[eu];exact this
theorem PJ{x y:x8}{t:x6}(ho:o.op=.call { callee:=.builtin .append,args:= #[x,y],argTypes:= #[t,t]}){e:x6}{sz by':Nat}{z:yz}(hs:Cd P t=G (e,sz,by',G z))(hzc:z.cells.size=sz)
  {k:Nat} {xs ys:List V} (hx:(k,sz,xs)∈σ.own) (hsy:∀y∈ys,y.size=sz) (hlen:(I xs+I ys)*by'<=140737488355328) (hlen2:I xs+I ys<=140737488355328):
  Aj P o [.acc k xs,.v (.list ys)] σ (.acc k (xs++ys)) ⟨σ.H,σ.own.map (GF k sz (xs++ys))⟩:=by
 intro E g a w K Q hw hds hK
 simp only[ho,Op.operands,Call.operands] at hds
 obtain⟨u,v,eq,h1,h2⟩:=Av.1 (by simpa using hds)
 simp only[HN,Io] at eq
 simp only[Ag] at h1 h2
 obtain⟨u',w',g',hrun,hw',hle,hr⟩:=M0 (P:=P) (ty:=o.type) hw hs hzc hx hsy hlen hlen2 h1.2 h2
 have:=hK g' w' u' hw' hle hr
 unfold Oper.wp execOp
 simp only[ho,resolve,invoke,builtin,Sem.run_bind,Sem.run_pure,Result.andThen_ok,List.map_toArray,Ia,I7,eq.1,eq.2,hrun]
 exact this
end
section
variable {P : x7} {o : yy} {σ : St} {d : D}
theorem X5{M:cd}{xs:List V}{a:Option Addr}{len cap sz:Nat}(hr:repV M (.list xs) (.slice a len cap))(hs:∀x∈xs,x.size=sz)(hsz:0<sz){l h:Nat}(hl:l<=h)(hh:h<=I xs):
  len=I xs/\xs.length<=cap/\repV M (.list ((xs.take h).drop l)) (.slice (if cap=l then a else a.map (·.add (l*sz))) (h-l) (cap-l)):=by
 obtain⟨a',cap',e,hc,hr2⟩:=Cq hr hs hsz
 simp only[Value.slice.injEq] at e
 obtain⟨rfl,rfl,rfl⟩:=e
 refine⟨rfl,hc,?_⟩
 have hlen:I ((xs.take h).drop l)=h-l:=by simp;omega
 rw[B3]
 refine⟨_,cap-l,by rw[hlen],by rw[hlen];omega,?_⟩
 rcases Nat.lt_or_ge l h with hlt|hge
 ·rcases hr2 with rfl|⟨b,off,us,rfl,hi,hr3⟩
  ·simp at hh;omega
  refine .inr ⟨b,off+l*sz,sz,(us.take (h*sz)).drop (l*sz),?_,hsz,Lf (Lc hi _) _,P2 (P1 hr3 h) l⟩
  rw[HR (by omega)]
  simp[Addr.add_lit]
 ·left
  exact IT (by rw[hlen];omega)
def Cn(n:Nat)(l h:Option Int):Option (Nat×Nat):=
 let h':=h.getD n
 let l':=l.getD 0
 if 0<=l'/\l'<=h'/\h'<=n then G (l'.toNat,h'.toNat) else none
theorem F4(w:x5)(isS:Bool)(len cap:Nat)(hc:len<=cap)(l h:Option (yv×Int)){l' h':Nat}(hb:Cn len (l.map (·.2)) (h.map (·.2))=G (l',h')):
  (Instr.sliceBounds isS len cap (l.map fun p=>.int p.1 p.2) (h.map fun p=>.int p.1 p.2) none).run P w=.ok (l',h',cap) w:=by
 unfold Cn at hb
 simp only at hb
 split at hb
 ·rename_i hcond
  simp only[Ii,Prod.mk.injEq] at hb
  obtain⟨rfl,rfl⟩:=hb
  cases l with
  |none=>
   cases h with
   |none=>simp[Instr.sliceBounds]
   |some p=>
    simp only[Jo,IA,Option.getD_none,IZ] at hcond⊢
    simp[Instr.sliceBounds,run_sliceBound w p.1 p.2 cap _ (by omega) (by omega)]
  |some q=>
   cases h with
   |none=>
    simp only[Jo,IA,Option.getD_none,IZ] at hcond⊢
    simp[Instr.sliceBounds,run_sliceBound w q.1 q.2 len _ (by omega) (by omega)]
   |some p=>
    simp only[IA,IZ] at hcond⊢
    simp[Instr.sliceBounds,run_sliceBound w p.1 p.2 cap _ (by omega) (by omega),run_sliceBound w q.1 q.2 p.2.toNat _ (by omega) (by omega)]
 ·simp at hb
def FY:Option (yv×Int)->List D
 |none=>[]
 |some p=>[.v (.int p.1 p.2)]
theorem Ys{t:x6}{x:x8}{lo hi:Option x8}(ho:o.op=.slice t x lo hi none){e:x6}{sz by':Nat}{z:Option yz}(hs:Cd P t=G (e,sz,by',z)){xs:List V}(hsx:∀x∈xs,x.size=sz)(hsz:0<sz)
  (l h:Option (yv×Int)) (hlo:lo.isSome=l.isSome) (hhi:hi.isSome=h.isSome) {l' h':Nat} (hb:Cn (I xs) (l.map (·.2)) (h.map (·.2))=G (l',h')):
  Aj P o (.v (.list xs)::(FY l++FY h)) σ (.v (.list ((xs.take h').drop l'))) σ:=by
 refine A0 fun E g ρ w hw hds=>?_
 obtain⟨i,hu,hi',rfl,rfl,rfl⟩:=AH hs
 have hb2:=hb
 unfold Cn at hb2
 simp only at hb2
 split at hb2
 case isFalse=>simp at hb2
 rename_i hcond
 simp only[Ii,Prod.mk.injEq] at hb2
 have main:∀u (lv hv:Option yz),ρ x=u->lv=l.map (fun p=>Value.int p.1 p.2)->hv=h.map (fun p=>Value.int p.1 p.2)->lo.map ρ=lv->hi.map ρ=hv->repV g.M (.list xs) u->
   ∃u,(execOp ρ o).run P w=.ok (.value u) w/\Ag g (.v (.list ((xs.take h').drop l'))) u:=by
  intro u lv hv eu el eh e1 e2 hr
  obtain⟨a,cap,rfl,hc,_⟩:=B3.1 hr
  obtain⟨_,_,hres⟩:=X5 hr hsx hsz (l:=l') (h:=h') (by omega) (by omega)
  refine⟨_,?_,by simp only[Ag];exact hres⟩
  have hbr:=F4 (P:=P) w true (I xs) cap hc l h hb
  simp only[execOp,ho,eu,e1,e2,el,eh,Jo,Instr.sliceAt,Instr.slice,Sem.run_bind,run_underlying hu,Result.andThen_ok,hbr]
  simp[sizeOf,typeInfo,hi']
 simp only[ho,Op.operands] at hds
 cases lo with
 |none=>
  cases l with
  |some _=>simp at hlo
  |none=>
   cases hi with
   |none=>
    cases h with
    |some _=>simp at hhi
    |none=>
     obtain⟨u,eu,h1⟩:=A9.1 (by simpa[FY] using hds)
     simp at eu
     exact main u none none eu rfl rfl rfl rfl (by simpa only[Ag] using h1)
   |some ho'=>
    cases h with
    |none=>simp at hhi
    |some p=>
     obtain⟨u,v,eu,h1,h2⟩:=Av.1 (by simpa[FY] using hds)
     simp only[HN,Io] at eu
     simp only[Ag,AJ] at h2
     exact main u none _ eu.1 rfl (by simp;rfl) rfl (by simp[eu.2,h2]) (by simpa only[Ag] using h1)
 |some lo'=>
  cases l with
  |none=>simp at hlo
  |some q=>
   cases hi with
   |none=>
    cases h with
    |some _=>simp at hhi
    |none=>
     obtain⟨u,v,eu,h1,h2⟩:=Av.1 (by simpa[FY] using hds)
     simp only[HN,Io] at eu
     simp only[Ag,AJ] at h2
     exact main u _ none eu.1 (by simp;rfl) rfl (by simp[eu.2,h2]) rfl (by simpa only[Ag] using h1)
   |some ho'=>
    cases h with
    |none=>simp at hhi
    |some p=>
     obtain⟨u,v,v2,eu,h1,h2,h3⟩:=FJ.1 (by simpa[FY] using hds)
     simp only[HN,Io] at eu
     simp only[Ag,AJ] at h2 h3
     exact main u _ _ eu.1 (by simp;rfl) (by simp;rfl) (by simp[eu.2.1,h2]) (by simp[eu.2.2,h3]) (by simpa only[Ag] using h1)
theorem Yr{t:x6}{x:x8}{lo hi:Option x8}(ho:o.op=.slice t x lo hi none)(hu:P.underlying t=G .string){s:List UInt8}
  (l h:Option (yv×Int)) (hlo:lo.isSome=l.isSome) (hhi:hi.isSome=h.isSome) {l' h':Nat} (hb:Cn (I s) (l.map (·.2)) (h.map (·.2))=G (l',h')):
  Aj P o (.v (.str s)::(FY l++FY h)) σ (.v (.str ((s.take h').drop l'))) σ:=by
 refine A0 fun E g ρ w hw hds=>?_
 have main:∀u (lv hv:Option yz),ρ x=u->lv=l.map (fun p=>Value.int p.1 p.2)->hv=h.map (fun p=>Value.int p.1 p.2)->lo.map ρ=lv->hi.map ρ=hv->u=.string ⟨s.toArray⟩->
   ∃u,(execOp ρ o).run P w=.ok (.value u) w/\Ag g (.v (.str ((s.take h').drop l'))) u:=by
  intro u lv hv eu el eh e1 e2 hr
  subst hr
  refine⟨.string ⟨((s.take h').drop l').toArray⟩,?_,by simp only[Ag,CZ]⟩
  have hbr:=F4 (P:=P) w false (I s) (I s) (HH _) l h hb
  have hx:(⟨s.toArray⟩:ByteArray).extract l' h'=⟨((s.take h').drop l').toArray⟩:=by
   apply ByteArray.ext
   apply IC
   rw[Lib.extract_data]
   simp[List.drop_take]
  simp only[execOp,ho,eu,e1,e2,el,eh,Jo,Instr.sliceAt,Instr.slice,Sem.run_bind,run_underlying hu,Result.andThen_ok,Option.isSome_none,Jq,if_false,Ri]
  simp[hbr,hx]
 simp only[ho,Op.operands] at hds
 cases lo with
 |none=>
  cases l with
  |some _=>simp at hlo
  |none=>
   cases hi with
   |none=>
    cases h with
    |some _=>simp at hhi
    |none=>
     obtain⟨u,eu,h1⟩:=A9.1 (by simpa[FY] using hds)
     simp at eu
     exact main u none none eu rfl rfl rfl rfl (by simpa only[Ag,CZ] using h1)
   |some ho'=>
    cases h with
    |none=>simp at hhi
    |some p=>
     obtain⟨u,v,eu,h1,h2⟩:=Av.1 (by simpa[FY] using hds)
     simp only[HN,Io] at eu
     simp only[Ag,AJ] at h2
     exact main u none _ eu.1 rfl (by simp;rfl) rfl (by simp[eu.2,h2]) (by simpa only[Ag,CZ] using h1)
 |some lo'=>
  cases l with
  |none=>simp at hlo
  |some q=>
   cases hi with
   |none=>
    cases h with
    |some _=>simp at hhi
    |none=>
     obtain⟨u,v,eu,h1,h2⟩:=Av.1 (by simpa[FY] using hds)
     simp only[HN,Io] at eu
     simp only[Ag,AJ] at h2
     exact main u _ none eu.1 (by simp;rfl) rfl (by simp[eu.2,h2]) rfl (by simpa only[Ag,CZ] using h1)
   |some ho'=>
    cases h with
    |none=>simp at hhi
    |some p=>
     obtain⟨u,v,v2,eu,h1,h2,h3⟩:=FJ.1 (by simpa[FY] using hds)
     simp only[HN,Io] at eu
     simp only[Ag,AJ] at h2 h3
     exact main u _ _ eu.1 (by simp;rfl) (by simp;rfl) (by simp[eu.2.1,h2]) (by simp[eu.2.2,h3]) (by simpa only[Ag,CZ] using h1)
theorem O6(z:yz)(n:Nat):madeCells #[z] n=(List.replicate n z).toArray:=by
 apply IC
 apply List.ext_getElem?
 intro k
 simp only[madeCells]
 by_cases hk:k<n
 ·simp[hk,Nat.mod_one]
 ·simp[hk]
theorem Aco{t:x6}{x y:x8}(ho:o.op=.makeSlice t x y){e:x6}{sz by':Nat}{z:yz}(hs:Cd P t=G (e,sz,by',G z))(h1:0<sz)(k:Nat)(hk:∀x∈σ.own,x.1≠k){k1 k2:yv}{n:Int}(h0:0<=n)(hn:(by':Int)*n<=281474976710656)(hn2:n<=9223372036854775807):
  Aj P o [.v (.int k1 0),.v (.int k2 n)] σ (.acc k []) ⟨σ.H,(k,sz,[])::σ.own⟩:=by
 intro E g a w K Q hw hds hK
 simp only[ho,Op.operands,Av] at hds
 obtain⟨u,v,eq,h1',h2⟩:=hds
 simp only[Ia,I7,HN,Io] at eq
 obtain⟨e1,e2⟩:=eq
 simp only[Ag,AJ] at h1' h2
 subst h1' h2
 obtain⟨i,hu,hi,hsz,hby,hzz⟩:=AH hs
 have hrun:=run_make (P:=P) w t e i z hu hi hzz k1 k2 0 n (Ib _) h0 (by rw[hby];exact hn) hn2
 have hrep:repV g.M (.list []) (.slice (G ⟨w.heap.size,0,none⟩) 0 n.toNat):=by rw[B3];exact⟨_,n.toNat,rfl,Ik _,.inl rfl⟩
 obtain⟨hw',hle⟩:=(hw.alloc (.cells (madeCells z.cells (n.toNat*i.size)) e)).addOwn (k:=k) (sz:=sz) (xs:=[]) (u:=.slice (G ⟨w.heap.size,0,none⟩) 0 n.toNat) hk ⟨h1,by simp⟩
  hrep (.inr ⟨w.heap.size,0,0,n.toNat,_,e,rfl,heap_alloc_new w _,Ik _,by rw[size_madeCells,hsz,Iv];exact HH _,fun o _=>hw.rep.new_none (HH _) o,hw.rep.gw.new (HH _)⟩) (fun b hb=>by
   simp only[Cg] at hb
   split at hb
   ·simp at hb
   ·simp at hb;subst hb
    exact⟨hw.size,fun i cs hi=>Nat.ne_of_lt (hw.rep.obj_lt hi),fun x hx u' hu' hb'=>by have:=hw.rep.own_lt hx hu' hb';omega⟩)
 have:=hK _ _ _ hw' hle (by simp only[Ag];exact⟨hrep,by simp⟩)
 unfold Oper.wp execOp
 simp only[ho,e1,e2,Sem.run_bind,hrun,Result.andThen_ok]
 exact this
end
def D.plain:D->Bool
 |.v _=>true
 |_=>false
theorem L8{g:Gh}:∀{ds:List D} {xs:List V} {us:List yz},EN ds=G xs->Ad g ds us->F5 g.M xs us
 |[],xs,us,h,hr=>by simp[EN] at h;subst h;simpa[Ad,F5] using hr
 |d::ds,xs,us,h,hr=>by
  simp only[EN] at h
  split at h
  ·rename_i x xs' hx hxs
   simp at h;subst h
   simp only[Ad] at hr
   obtain⟨u,us',rfl,h2,h3⟩:=hr
   simp only[F5]
   obtain⟨ws,h4,h5⟩:=JN hx h2
   exact⟨u,us',ws,rfl,h4,h5,L8 hxs h3⟩
  ·simp at h
theorem Eu{g:Gh}:∀{xs:List V} {us:List yz},F5 g.M xs us->Ad g (xs.map .v) us
 |[],us,h=>by simpa[Ad,F5] using h
 |x::xs,us,h=>by
  simp only[F5] at h
  obtain⟨u,us',ws,rfl,h1,h2,h3⟩:=h
  simp only[Ia,Ad,Ag]
  exact⟨u,us',rfl,⟨ws,h1,h2⟩,Eu h3⟩
section
variable {P : x7} {o : yy} {σ : St} {d : D}
theorem Rw{f:yx}{first captured:Array x8}(ho:o.op=.makeFunc (.func f) first captured){fs cs:List D}{xs ys:List V}(hl:I fs=first.size)(hf:EN fs=G xs)(hc:EN cs=G ys):
  Aj P o (fs++cs) σ (.v (.fn f xs ys)) σ:=by
 refine A0 fun E g ρ w hw hds=>?_
 simp only[ho,Op.operands,Array.toList_append,IQ] at hds
 have h1:=CH hds (I fs)
 have h2:=CI hds (I fs)
 have hl':I (first.toList.map ρ)=I fs:=by simp[hl]
 rw[List.take_left,List.take_left' hl'] at h1
 rw[List.drop_left,List.drop_left' hl'] at h2
 refine⟨.func (.func f) (first.map ρ) (captured.map ρ),?_,?_⟩
 ·simp[execOp,ho,Instr.makeFunc]
 ·simp only[Ag,GG]
  exact⟨first.toList.map ρ,captured.toList.map ρ,by simp[←Array.toList_map],L8 hf h1,L8 hc h2⟩
end
theorem WI.setObjG{E:cf}{g:Gh}{σ:St}{w w':x5}(hw:WI E g σ w){M':cd}(hle:g.M.le M'){q:Nat}{cs:List D}{oc:Option (List D)}(hq:σ.H[q]?=G (G cs))
  (hb:∀cs',oc=G cs'->∃us rest e,w'.heap[g.β q]?=G (.cells (us++rest).toArray e (0,0))/\Ad { g with M:=M' } cs' us/\(∀c∈cs',c.one=J)/\(∀o,M' (g.β q) o=none)/\(us++rest).length=g.κ q)
  (keep:∀b,b<w.heap.size->b≠g.β q->w'.heap[b]?=w.heap[b]?/\∀o,M' b o=g.M b o) (mem:∀b o v,M' b o=G v->w'.cell? ⟨b,o,none⟩=G v)
  (size:w.heap.size<=w'.heap.size) (os:w'.os=w.os) (tape:w'.tape=w.tape) (output:w'.output=w.output) (drawn:BJ w.drawn w'.drawn:=by first|exact BJ.refl _|exact BJ.succ _|assumption):
  WI E { g with M:=M' } ⟨σ.H.set q oc,σ.own⟩ w':=by
 have hlg:g.le { g with M:=M' }:=⟨hle,HH _,fun _ _=>rfl,fun _ _ _ h=>h,fun _ _=>rfl⟩
 have split:∀(i:Nat) (cs1:List D),(σ.H.set q oc)[i]?=G (G cs1)->(i=q/\oc=G cs1)∨(i≠q/\σ.H[i]?=G (G cs1)):=by
  intro i cs1 hi
  rw[getElem?_set] at hi
  split at hi
  ·rename_i e;subst e
   split at hi
   ·simp at hi;exact .inl ⟨rfl,hi⟩
   ·simp at hi
  ·rename_i e;exact .inr ⟨fun h=>e h.symm,hi⟩
 have live:∀(i:Nat) (cs1:List D),(σ.H.set q oc)[i]?=G (G cs1)->∃cs2,σ.H[i]?=G (G cs2):=by
  intro i cs1 hi
  rcases split i cs1 hi with⟨rfl,_⟩|⟨_,h⟩
  ·exact⟨cs,hq⟩
  ·exact⟨_,h⟩
 refine hw.update (fun b=>b=g.β q) (fun b e=>by subst e;exact hw.objs q cs hq) (fun b hb hne=>keep b hb hne) hle (HH _) (fun _ _=>rfl) (fun _ _=>rfl) size os tape output ?_ ?_ hw.owns
 ·refine⟨by simp[hw.rep.n],mem,fun i cs1 hi=>?_,fun i j c1 c2 hi hj hij=>?_,fun k sz xs hx=>?_,hw.rep.tags,hw.rep.sep,fun x hx u hu b hb' i cs1 hi=>?_,hw.rep.fresh,hw.rep.gl.mono hle,hw.rep.gw.keepG fun p hp hlt=>(keep p.1 hlt (hw.rep.obj_ng hq p hp)).1⟩
  ·rcases split i cs1 hi with⟨rfl,e⟩|⟨hne,h⟩
   ·exact hb cs1 e
   ·obtain⟨us',rest',e',h2,h3,h4,h5,h6⟩:=hw.rep.obj i cs1 h
    obtain⟨k1,k2⟩:=keep _ (GR h2) (fun e=>hne (hw.rep.inj i q _ _ h hq e))
    exact⟨us',rest',e',k1.trans h2,Ad.mono hlg _ _ h3,h4,fun o=>(k2 o).trans (h5 o),h6⟩
  ·obtain⟨c3,h3⟩:=live i c1 hi
   obtain⟨c4,h4⟩:=live j c2 hj
   exact hw.rep.inj i j _ _ h3 h4 hij
  ·obtain⟨h0,u,hu,h3,h4,h5⟩:=hw.rep.own k sz xs hx
   refine⟨h0,u,hu,h3.mono hle,h4.kept fun b hb'=>keep b (hw.rep.own_lt hx hu hb') ?_,h5⟩
   exact fun e=>hw.rep.ownObj _ hx u hu b hb' q cs hq e.symm
  ·obtain⟨c3,h3⟩:=live i cs1 hi
   exact hw.rep.ownObj x hx u hu b hb' i c3 h3
 ·intro i cs1 hi
  obtain⟨c3,h3⟩:=live i cs1 hi
  exact hw.objs i c3 h3
mutual
def D.pl:D->Bool
 |.v _=>true
 |.raw _=>true
 |.rv .. =>true
 |.tup ds=>D.pls ds
 |.err=>true
 |.undef=>true
 |_=>false
def D.pls:List D->Bool
 |[]=>true
 |d::ds=>d.pl&&D.pls ds
end
mutual
theorem Ok{g g':Gh}(hM:g'.M=g.M):∀{d:D} {u:yz},d.pl=J->Ag g d u->Ag g' d u
 |.v x,u,_,h=>by simp only[Ag] at h⊢;rw[hM];exact h
 |.tup ds,u,hp,h=>by
  simp only[Ag] at h⊢
  obtain⟨us,e,h1⟩:=h
  exact⟨us,e,BC hM (by simpa[D.pl] using hp) h1⟩
 |.undef,u,_,_=>by simp only[Ag]
 |.raw x,u,_,h=>by simpa only[Ag] using h
 |.err,u,_,h=>by simpa only[Ag] using h
 |.rv x u0,u,_,h=>by simp only[Ag] at h⊢;rw[hM];exact h
 |.acc ..,_,hp,_=>by simp[D.pl] at hp
 |.ptr ..,_,hp,_=>by simp[D.pl] at hp
 |.arr ..,_,hp,_=>by simp[D.pl] at hp
 |.dagg ..,_,hp,_=>by simp[D.pl] at hp
 |.dfn ..,_,hp,_=>by simp[D.pl] at hp
theorem BC{g g':Gh}(hM:g'.M=g.M):∀{ds:List D} {us:List yz},D.pls ds=J->Ad g ds us->Ad g' ds us
 |[],us,_,h=>by simpa[Ad] using h
 |d::ds,us,hp,h=>by
  simp only[D.pls,HB] at hp
  simp only[Ad] at h⊢
  obtain⟨u,us',e,h1,h2⟩:=h
  exact⟨u,us',e,Ok hM hp.1 h1,BC hM hp.2 h2⟩
end
theorem BY(xs:List V):D.pls (xs.map .v)=J:=by induction xs<;>simp_all [D.pls,D.pl]
theorem Dc:∀(a b:List D),D.pls (a++b)=(D.pls a&&D.pls b)
 |[],b=>by simp[D.pls]
 |d::a,b=>by simp[D.pls,Dc a b,Bool.and_assoc]
section
variable {P : x7} {o : yy} {σ : St} {d : D}
theorem EY{_E:cf}{_g:Gh}{a:Act}{w:x5}{K:Act->x5->Prop}{Q:Exit->Act->x5->Prop}{c:Call}{fo:x8}(ho:o.op=.call c)(hc:c.callee=.value fo){f:yx}(hcall:TP P f){us vs ws:List yz}
  (hf:a.eval fo=.func (.func f) us.toArray vs.toArray) (hargs:c.args.toList.map a.eval=ws)
  (h:Calls P f (us++ws++vs).toArray w fun e w'=>∃u,e=.returned u/\K (a.put o.dst u) w'):o.wp P a w K Q:=by
 obtain⟨fn,h1,h2,h3⟩:=hcall
 have hargs':c.args.map a.eval=ws.toArray:=by apply IC;simpa using hargs
 unfold Oper.wp execOp
 simp only[ho,resolve,hc,hf,hargs',Deferred.ofValue,Sem.run_bind,Sem.run_pure,Result.andThen_ok,invoke,callFunc,run_program,h1,h2,h3,Jq,if_false]
 have e:us.toArray++ws.toArray++vs.toArray=(us++ws++vs).toArray:=by simp
 rw[e]
 refine Calls.mono h fun e w' he=>?_
 obtain⟨u,rfl,hk⟩:=he
 exact hk
theorem Di{g:Gh}{a:Act}{c:Call}{fo:x8}(ho:o.op=.call c)(hc:c.callee=.value fo){f:yx}{fs cs:List V}{ds:List D}(h:Ad g (.v (.fn f fs cs)::ds) (o.op.operands.toList.map a.eval)):
  ∃us vs ws,a.eval fo=.func (.func f) us.toArray vs.toArray/\c.args.toList.map a.eval=ws/\Ad g (fs.map .v) us/\Ad g (cs.map .v) vs/\Ad g ds ws:=by
 simp only[ho,Op.operands,Call.operands,hc] at h
 have h':Ad g (.v (.fn f fs cs)::ds) (a.eval fo::c.args.toList.map a.eval):=by simpa using h
 simp only[Ad] at h'
 obtain⟨u,us',e,h1,h2⟩:=h'
 simp only[HN] at e
 obtain⟨e1,e2⟩:=e
 simp only[Ag,GG] at h1
 obtain⟨us,vs,e3,h3,h4⟩:=h1
 exact⟨us,vs,us',e1.trans e3,e2,Eu h3,Eu h4,h2⟩
theorem dw.empty{g:Gh}{w:x5}(h:dw g σ w):dw { M:=g.M,β:=g.β,n:=0,ι:=fun _ _=>none,κ:=g.κ } ⟨[],[]⟩ w where
 n:=rfl
 mem:=h.mem
 gl:=h.gl
 gw:=h.gw
 obj:=fun i cs hi=>by simp at hi
 inj:=fun i j cs ds hi=>by simp at hi
 own:=fun k sz xs hx=>by simp at hx
 tags:=by simp
 sep:=fun x hx=>by simp at hx
 ownObj:=fun x hx=>by simp at hx
 fresh:=fun _ _ _=>rfl
theorem ED{g:Gh}{w:x5}{b:Nat}:¬cf.priv ⟨g,w,⟨[],[]⟩⟩ b:=by
 rintro (⟨i,cs,h,_⟩|⟨x,h,_⟩)
 ·simp at h
 ·simp at h
theorem WI.back0{E:cf}{g gc gc':Gh}{w w':x5}{σc':St}(hw:WI E g σ w)(hM:gc.M=g.M)(h:WI ⟨gc,w,⟨[],[]⟩⟩ gc' σc' w'):WI E { g with M:=gc'.M } σ w'/\g.le { g with M:=gc'.M }:=by
 have hle:g.M.le gc'.M:=by rw[←hM];exact h.M
 refine⟨hw.grow hle (fun b hb=>?_) h.rep.mem h.size h.os h.tape h.output (drawn:=h.drawn),⟨hle,HH _,fun _ _=>rfl,fun _ _ _ h=>h,fun _ _=>rfl⟩⟩
 obtain⟨h1,h2⟩:=h.keep b hb ED
 exact⟨h1,fun o=>by rw[h2 o];simp only[hM]⟩
theorem SJ{c:Call}{fo:x8}(ho:o.op=.call c)(hc:c.callee=.value fo){f:yx}{fs cs:List V}{ds:List D}(hp:D.pls ds=J)(hd:d.pl=J)
  (hspec:Aa P f (fs.map .v++ds++cs.map .v) ⟨[],[]⟩ d ⟨[],[]⟩):Aj P o (.v (.fn f fs cs)::ds) σ d σ:=by
 intro E g a w K Q hw hds hK
 obtain⟨us,vs,ws,hf,hargs,h1,h2,h3⟩:=Di ho hc hds
 refine EY (_E:=E) (_g:=g) ho hc hspec.1 hf hargs ?_
 have hargs':Ad { M:=g.M,β:=g.β,n:=0,ι:=fun _ _=>none,κ:=g.κ } (fs.map .v++ds++cs.map .v) (us++ws++vs):=
  BC (by rfl) (by simp[Dc,BY,hp]) (Au (Au h1 h3) h2)
 refine Calls.mono (hspec.2 _ w _ hw.rep.empty hargs') ?_
 rintro e w' ⟨u,g',rfl,hw',hr⟩
 obtain⟨h4,h5⟩:=hw.back0 (by rfl) hw'
 exact⟨u,rfl,hK _ _ _ h4 h5 (Ok (by rfl) hd hr)⟩
theorem K3{c:Call}{fo:x8}(ho:o.op=.call c)(hc:c.callee=.value fo){f:yx}{fs cs:List V}{ds:List D}(hp:D.pls ds=J){k' sz:Nat}{xs:List V}(k:Nat)(hk:∀x∈σ.own,x.1≠k)
  (hspec:Aa P f (fs.map .v++ds++cs.map .v) ⟨[],[]⟩ (.acc k' xs) ⟨[],[(k',sz,xs)]⟩):Aj P o (.v (.fn f fs cs)::ds) σ (.acc k xs) ⟨σ.H,(k,sz,xs)::σ.own⟩:=by
 intro E g a w K Q hw hds hK
 obtain⟨us,vs,ws,hf,hargs,h1,h2,h3⟩:=Di ho hc hds
 refine EY (_E:=E) (_g:=g) ho hc hspec.1 hf hargs ?_
 have hargs':Ad { M:=g.M,β:=g.β,n:=0,ι:=fun _ _=>none,κ:=g.κ } (fs.map .v++ds++cs.map .v) (us++ws++vs):=
  BC (by rfl) (by simp[Dc,BY,hp]) (Au (Au h1 h3) h2)
 refine Calls.mono (hspec.2 _ w _ hw.rep.empty hargs') ?_
 rintro e w' ⟨u,g',rfl,hw',hr⟩
 obtain⟨h4,h5⟩:=hw.back0 (by rfl) hw'
 simp only[Ag] at hr
 obtain⟨hsz,u',hu',hr',hp',_⟩:=hw'.rep.own k' sz xs (by simp)
 obtain rfl:u=u':=by rw[hr.2] at hu';simpa using hu'
 obtain⟨h6,h7⟩:=h4.addOwn (k:=k) (sz:=sz) (xs:=xs) (u:=u) hk hsz hr' hp' (fun b hb=>by
  rcases hw'.owns (k',sz,xs) (by simp) u hr.2 b hb with h|h
  ·refine⟨I6 hw.size h,fun i cs hi=>?_,fun x hx v hv hvb=>?_⟩
   ·have:=hw.rep.obj_lt hi;simp only at h⊢;omega
   ·have:=hw.rep.own_lt hx hv hvb;simp only at h;omega
  ·exact absurd h ED)
 exact⟨u,rfl,hK _ _ _ h6 (Gh.le_trans h5 h7) (by simp only[Ag];exact⟨hr',by simp⟩)⟩
inductive EM (q:Nat):List D->List D->Prop
 |nil:EM q [] []
 |pl {d:D} {ds dc:List D} (hp:d.pl=J) (h:EM q ds dc):EM q (d::ds) (d::dc)
 |ptr {off:Nat} {ds dc:List D} (h:EM q ds dc):EM q (.ptr q off::ds) (.ptr 0 off::dc)
 |arr {off len:Nat} {ds dc:List D} (h:EM q ds dc):EM q (.arr q off len::ds) (.arr 0 off len::dc)
theorem EM.rep{q:Nat}{g gc:Gh}(hM:gc.M=g.M)(hβ:gc.β 0=g.β q)(hn:0<gc.n):∀{ds dc:List D},EM q ds dc->∀{us:List yz},Ad g ds us->Ad gc dc us
 |_,_,.nil,us,h=>by simpa[Ad] using h
 |_,_,.pl hp h',us,h=>by
  simp only[Ad] at h⊢
  obtain⟨u,us',e,h1,h2⟩:=h
  exact⟨u,us',e,Ok hM hp h1,EM.rep hM hβ hn h' h2⟩
 |_,_,.ptr h',us,h=>by
  simp only[Ad] at h⊢
  obtain⟨u,us',e,h1,h2⟩:=h
  refine⟨u,us',e,?_,EM.rep hM hβ hn h' h2⟩
  simp only[Ag] at h1⊢
  exact⟨hn,by rw[hβ];exact h1.2⟩
 |_,_,.arr h',us,h=>by
  simp only[Ad] at h⊢
  obtain⟨u,us',e,h1,h2⟩:=h
  refine⟨u,us',e,?_,EM.rep hM hβ hn h' h2⟩
  simp only[Ag] at h1⊢
  exact⟨hn,by rw[hβ];exact h1.2⟩
theorem dw.one{g:Gh}{w:x5}(h:dw g σ w){q:Nat}{cs:List D}(hq:σ.H[q]?=G (G cs))(hp:D.pls cs=J):dw { M:=g.M,β:=fun _=>g.β q,n:=1,ι:=fun _ _=>none,κ:=fun _=>g.κ q } ⟨[G cs],[]⟩ w where
 n:=rfl
 mem:=h.mem
 gl:=h.gl
 gw:=h.gw
 obj:=fun i cs' hi=>by
  cases i with
  |zero=>
   simp at hi;subst hi
   obtain⟨us,rest,e,hb,hr,h1,hM,hκ⟩:=h.obj q cs hq
   exact⟨us,rest,e,hb,BC (by rfl) hp hr,h1,hM,hκ⟩
  |succ i=>simp at hi
 inj:=fun i j cs1 cs2 hi hj _=>by
  cases i with
  |zero=>
   cases j with
   |zero=>rfl
   |succ j=>simp at hj
  |succ i=>simp at hi
 own:=fun k sz xs hx=>by simp at hx
 tags:=by simp
 sep:=fun x hx=>by simp at hx
 ownObj:=fun x hx=>by simp at hx
 fresh:=fun _ _ _=>rfl
theorem SD{M:cd}{b0:Nat}{w:x5}{b:Nat}{ι:Nat->Nat->Option yz}{κ:Nat->Nat}{cs:List D}(h:cf.priv ⟨{ M,β:=fun _=>b0,n:=1,ι,κ },w,⟨[G cs],[]⟩⟩ b):b=b0:=by
 rcases h with⟨i,cs',hi,e⟩|⟨x,hx,_⟩
 ·exact e
 ·simp at hx
theorem WI.back1{E:cf}{g g':Gh}{w w':x5}{q:Nat}{cs cs':List D}{own':List (Nat×Nat×List V)}(hw:WI E g σ w)(hq:σ.H[q]?=G (G cs))(hp':D.pls cs'=J)
  (h:WI ⟨{ M:=g.M,β:=fun _=>g.β q,n:=1,ι:=fun _ _=>none,κ:=fun _=>g.κ q },w,⟨[G cs],[]⟩⟩ g' ⟨[G cs'],own'⟩ w'):WI E { g with M:=g'.M } ⟨σ.H.set q (G cs'),σ.own⟩ w'/\g.le { g with M:=g'.M }:=by
 refine⟨hw.setObjG h.M hq (fun c hc=>?_) (fun b hb hne=>?_) h.rep.mem h.size h.os h.tape h.output (drawn:=h.drawn),⟨h.M,HH _,fun _ _=>rfl,fun _ _ _ h=>h,fun _ _=>rfl⟩⟩
 ·simp at hc;subst hc
  obtain⟨us,rest,e,hb,hr,h1,hM,hκ⟩:=h.rep.obj 0 cs' (by simp)
  have hβ:g'.β 0=g.β q:=h.βE 0 (by simp)
  have hκ':g'.κ 0=g.κ q:=h.κE 0 (by simp)
  rw[hβ] at hb hM
  exact⟨us,rest,e,hb,BC (by rfl) hp' hr,h1,hM,hκ.trans hκ'⟩
 ·exact h.keep b hb (fun hpr=>hne (SD hpr))
theorem Ox{c:Call}{fo:x8}(ho:o.op=.call c)(hc:c.callee=.value fo){f:yx}{fs cs:List V}{ds dc:List D}{q:Nat}{os os':List D}(hq:σ.H[q]?=G (G os))(hos:D.pls os=J)(hos':D.pls os'=J)(ha:EM q ds dc)(hd:d.pl=J)
  (hspec:Aa P f (fs.map .v++dc++cs.map .v) ⟨[G os],[]⟩ d ⟨[G os'],[]⟩):Aj P o (.v (.fn f fs cs)::ds) σ d ⟨σ.H.set q (G os'),σ.own⟩:=by
 intro E g a w K Q hw hds hK
 obtain⟨us,vs,ws,hf,hargs,h1,h2,h3⟩:=Di ho hc hds
 refine EY (_E:=E) (_g:=g) ho hc hspec.1 hf hargs ?_
 have hargs':Ad { M:=g.M,β:=fun _=>g.β q,n:=1,ι:=fun _ _=>none,κ:=fun _=>g.κ q } (fs.map .v++dc++cs.map .v) (us++ws++vs):=
  Au (Au (BC (by rfl) (BY fs) h1) (EM.rep (q:=q) (g:=g) (by rfl) (by rfl) (by simp) ha h3)) (BC (by rfl) (BY cs) h2)
 refine Calls.mono (hspec.2 _ w _ (hw.rep.one hq hos) hargs') ?_
 rintro e w' ⟨u,g',rfl,hw',hr⟩
 obtain⟨h4,h5⟩:=hw.back1 hq hos' hw'
 exact⟨u,rfl,hK _ _ _ h4 h5 (Ok (by rfl) hd hr)⟩
theorem PI{c:Call}{fo:x8}(ho:o.op=.call c)(hc:c.callee=.value fo){f:yx}{fs cs:List V}{ds dc:List D}{q:Nat}{os os':List D}(hq:σ.H[q]?=G (G os))(hos:D.pls os=J)(hos':D.pls os'=J)(ha:EM q ds dc)
  {k' sz:Nat} {xs:List V} (k:Nat) (hk:∀x∈σ.own,x.1≠k) (hspec:Aa P f (fs.map .v++dc++cs.map .v) ⟨[G os],[]⟩ (.acc k' xs) ⟨[G os'],[(k',sz,xs)]⟩):
  Aj P o (.v (.fn f fs cs)::ds) σ (.acc k xs) ⟨σ.H.set q (G os'),(k,sz,xs)::σ.own⟩:=by
 intro E g a w K Q hw hds hK
 obtain⟨us,vs,ws,hf,hargs,h1,h2,h3⟩:=Di ho hc hds
 refine EY (_E:=E) (_g:=g) ho hc hspec.1 hf hargs ?_
 have hargs':Ad { M:=g.M,β:=fun _=>g.β q,n:=1,ι:=fun _ _=>none,κ:=fun _=>g.κ q } (fs.map .v++dc++cs.map .v) (us++ws++vs):=
  Au (Au (BC (by rfl) (BY fs) h1) (EM.rep (q:=q) (g:=g) (by rfl) (by rfl) (by simp) ha h3)) (BC (by rfl) (BY cs) h2)
 refine Calls.mono (hspec.2 _ w _ (hw.rep.one hq hos) hargs') ?_
 rintro e w' ⟨u,g',rfl,hw',hr⟩
 obtain⟨h4,h5⟩:=hw.back1 hq hos' hw'
 simp only[Ag] at hr
 obtain⟨hsz,u',hu',hr',hp',_⟩:=hw'.rep.own k' sz xs (by simp)
 obtain rfl:u=u':=by rw[hr.2] at hu';simpa using hu'
 have hβ:g'.β 0=g.β q:=hw'.βE 0 (by simp)
 obtain⟨h6,h7⟩:=h4.addOwn (k:=k) (sz:=sz) (xs:=xs) (u:=u) hk hsz hr' hp' (fun b hb=>by
  have hne:g'.β 0≠b:=hw'.rep.ownObj (k',sz,xs) (by simp) u hr.2 b hb 0 os' (by simp)
  rcases hw'.owns (k',sz,xs) (by simp) u hr.2 b hb with h|h
  ·refine⟨I6 hw.size h,fun i cs hi=>?_,fun x hx v hv hvb=>?_⟩
   ·obtain⟨cs2,hc2⟩:∃cs2,σ.H[i]?=G (G cs2):=by
     rw[getElem?_set] at hi
     split at hi
     ·rename_i e;subst e;exact⟨_,hq⟩
     ·exact⟨_,hi⟩
    have:=hw.rep.obj_lt hc2;simp only at h⊢;omega
   ·have:=hw.rep.own_lt hx hv hvb;simp only at h;omega
  ·exact absurd (SD h) (fun e=>hne (by rw[hβ,e])))
 exact⟨u,rfl,hK _ _ _ h6 (Gh.le_trans h5 h7) (by simp only[Ag];exact⟨hr',by simp⟩)⟩
end
theorem WI.restrict{E:cf}{g:Gh}{σ σ':St}{w:x5}(hw:WI E g σ w){m:Nat}(hH:σ'.H=σ.H.take m)(hm:m<=I σ.H)(hE:E.g.n<=m)(hc:∀(i:Nat) (cs:List D),σ'.H[i]?=G (G cs)->D.pls cs=J)(hown:σ'.own.Sublist σ.own):
  WI E { g with n:=m,ι:=fun k j=>if k∈σ'.own.map (·.1) then g.ι k j else none } σ' w:=by
 have get:∀(i:Nat) (cs:List D),σ'.H[i]?=G (G cs)->σ.H[i]?=G (G cs)/\i<m:=by
  intro i cs hi
  rw[hH,IX] at hi
  split at hi
  ·exact⟨hi,by assumption⟩
  ·simp at hi
 have hι:∀x∈σ'.own,(if x.1∈σ'.own.map (·.1) then g.ι x.1 (I x.2.2) else none)=g.ι x.1 (I x.2.2):=fun x hx=>HV (Is.2 ⟨x,hx,rfl⟩)
 refine{ rep:=⟨?_,hw.rep.mem,fun i cs hi=>?_,fun i j cs ds hi hj=>hw.rep.inj i j cs ds (get i cs hi).1 (get j ds hj).1,fun k sz xs hx=>?_,?_,fun x hx y hy hne u u' hu hu' b hb=>?_,fun x hx u hu b hb i cs hi=>?_,fun k hk j=>?_,hw.rep.gl,hw.rep.gw⟩,M:=hw.M,size:=hw.size,keep:=hw.keep,os:=hw.os,tape:=hw.tape,output:=hw.output,nE:=hE,βE:=fun o ho=>hw.βE o ho,κE:=fun o ho=>hw.κE o ho,objs:=fun i cs hi=>hw.objs i cs (get i cs hi).1,owns:=fun x hx u hu b hb=>?_,drawn:=hw.drawn }
 ·simp[hH];omega
 ·obtain⟨us,rest,e,h1,h2,h3,h4⟩:=hw.rep.obj i cs (get i cs hi).1
  exact⟨us,rest,e,h1,BC (by rfl) (hc i cs hi) h2,h3,h4⟩
 ·obtain⟨h0,u,hu,h1,h2,h3⟩:=hw.rep.own k sz xs (hown.subset hx)
  refine⟨h0,u,(hι _ hx).trans hu,h1,h2,fun j hj=>?_⟩
  simp only
  split
  ·exact h3 j hj
  ·rfl
 ·exact(hown.map _).nodup hw.rep.tags
 ·exact hw.rep.sep x (hown.subset hx) y (hown.subset hy) hne u u' ((hι x hx).symm.trans hu) ((hι y hy).symm.trans hu') b hb
 ·exact hw.rep.ownObj x (hown.subset hx) u ((hι x hx).symm.trans hu) b hb i cs (get i cs hi).1
 ·simp only
  rw[HR]
  intro h
  obtain⟨x,hx,e⟩:=Is.1 h
  exact hk x hx e
 ·exact hw.owns x (hown.subset hx) u ((hι x hx).symm.trans hu) b hb
inductive QL (P:x7) (env:List D) (σ:St):List ResultVar->List D->Prop
 |nil:QL P env σ [] []
 |tmp {t:Tmp} {d:D} {rs:List ResultVar} {ds:List D} (h:env[t]?=G d) (hr:QL P env σ rs ds):QL P env σ (.tmp t::rs) (d::ds)
 |cellA {a:Tmp} {t:x6} {q off n:Nat} {cs:List D} {xs:List V} {rs:List ResultVar} {ds:List D} (h:env[a]?=G (.ptr q off)) (hH:σ.H[q]?=G (G cs)) (ht:RW P t n) (hn:off+n<=I cs)
   (hc:EN ((cs.drop off).take n)=G xs) (hr:QL P env σ rs ds):QL P env σ (.cell a t::rs) (.v (.agg xs)::ds)
 |cell1 {a:Tmp} {t:x6} {q off:Nat} {cs:List D} {d:D} {rs:List ResultVar} {ds:List D} (h:env[a]?=G (.ptr q off)) (hH:σ.H[q]?=G (G cs)) (ht:OV P t) (hc:cs[off]?=G d) (hr:QL P env σ rs ds):
   QL P env σ (.cell a t::rs) (d::ds)
 |cellD {a:Tmp} {t:x6} {q off n:Nat} {cs:List D} {rs:List ResultVar} {ds:List D} (h:env[a]?=G (.ptr q off)) (hH:σ.H[q]?=G (G cs)) (ht:RW P t n) (hn:off+n<=I cs) (hr:QL P env σ rs ds):
   QL P env σ (.cell a t::rs) (.dagg ((cs.drop off).take n)::ds)
theorem de{g:Gh}{env:List D}{a:Act}(h:Ad g env a.tmps.toList){t:Nat}{d:D}(hd:env[t]?=G d):Ag g d (a.tmps.getD t undef):=by
 have:=F6 h t
 simpa[iu,HI,hd,Act.eval] using this
def po(tmps:Array yz):ResultVar->Sem yz
 |.tmp t=>pure (tmps.getD t undef)
 |.cell a t=>do loadVar t (←asAddr (tmps.getD a undef))
theorem JQ(fn:yw)(tmps:Array yz):results fn tmps=(do let vs ←fn.results.mapM (po tmps);pure (if h:vs.size=1 then vs[0] else .tuple vs)):=by
 unfold results
 rfl
theorem QL.run{P:x7}{env:List D}{σ:St}{E:cf}{g:Gh}{a:Act}{w:x5}(hf:FI E g σ env a w):∀{rs:List ResultVar} {ds:List D},QL P env σ rs ds->
  ∃us,(rs.mapM (po a.tmps)).run P w=.ok us w/\Ad g ds us
 |_,_,.nil=>⟨[],by simp,by simp[Ad]⟩
 |_,_,.tmp (t:=t) h hr=>by
  obtain⟨us,h1,h2⟩:=QL.run hf hr
  refine⟨a.tmps.getD t undef::us,?_,?_⟩
  ·rw[List.mapM_cons]
   simp only[po,Sem.run_bind,Sem.run_pure,Result.andThen_ok,h1]
  ·simp only[Ad];exact⟨_,us,rfl,de hf.env h,h2⟩
 |_,_,.cellA (n:=n) (cs:=cs) (off:=off) (q:=q) h hH ht hn hc hr=>by
  obtain⟨us,h1,h2⟩:=QL.run hf hr
  have hp:=de hf.env h
  simp only[Ag] at hp
  obtain⟨us',rest',et,hb,hrr,hone,_⟩:=hf.wi.rep.obj q cs hH
  have hra:=KL hc (CH (CI hrr off) n) (fun c hc'=>hone c (I1 (IR hc')))
  have hl:I us'=I cs:=A4 hrr
  have hld:=run_loadCells_list (P:=P) w ⟨g.β q,off,none⟩ ((us'.drop off).take n) (fun j v hj=>by
   rw[IX] at hj
   split at hj
   ·rw[List.getElem?_drop] at hj
    rw[Addr.add_lit]
    simp only[World.cell?,hb,ID];exact Dm hj
   ·simp at hj)
  have hlen:I ((us'.drop off).take n)=n:=by simp;omega
  rw[hlen] at hld
  refine⟨.agg ((us'.drop off).take n).toArray::us,?_,?_⟩
  ·rw[List.mapM_cons]
   simp only[po,Sem.run_bind,Sem.run_pure,Result.andThen_ok,hp.2,asAddr,loadVar,CQ ht,c9 ht,hld,IJ,h1]
  ·simp only[Ad,Ag,C6];exact⟨_,us,rfl,⟨_,hra,rfl⟩,h2⟩
 |_,_,.cell1 (cs:=cs) (off:=off) (q:=q) h hH ht hc hr=>by
  obtain⟨us,h1,h2⟩:=QL.run hf hr
  have hp:=de hf.env h
  simp only[Ag] at hp
  obtain⟨us',rest',et,hb,hrr,hone,_⟩:=hf.wi.rep.obj q cs hH
  obtain⟨u',hu,hd⟩:=BF hrr hc
  have hcell:w.cell? ⟨g.β q,off,none⟩=G u':=by simp only[World.cell?,hb,ID];exact Dm hu
  refine⟨u'::us,?_,?_⟩
  ·rw[List.mapM_cons]
   simp only[po,Sem.run_bind,hp.2,asAddr,Sem.run_pure,Result.andThen_ok,loadVar,CQ ht,Jq,if_false,run_load,hcell,h1]
  ·simp only[Ad];exact⟨u',us,rfl,hd,h2⟩
 |_,_,.cellD (n:=n) (cs:=cs) (off:=off) (q:=q) h hH ht hn hr=>by
  obtain⟨us,h1,h2⟩:=QL.run hf hr
  have hp:=de hf.env h
  simp only[Ag] at hp
  obtain⟨us',rest',et,hb,hrr,hone,_⟩:=hf.wi.rep.obj q cs hH
  have hra:=CH (CI hrr off) n
  have hl:I us'=I cs:=A4 hrr
  have hld:=run_loadCells_list (P:=P) w ⟨g.β q,off,none⟩ ((us'.drop off).take n) (fun j v hj=>by
   rw[IX] at hj
   split at hj
   ·rw[List.getElem?_drop] at hj
    rw[Addr.add_lit]
    simp only[World.cell?,hb,ID];exact Dm hj
   ·simp at hj)
  have hlen:I ((us'.drop off).take n)=n:=by simp;omega
  rw[hlen] at hld
  refine⟨.agg ((us'.drop off).take n).toArray::us,?_,?_⟩
  ·rw[List.mapM_cons]
   simp only[po,Sem.run_bind,Sem.run_pure,Result.andThen_ok,hp.2,asAddr,loadVar,CQ ht,c9 ht,hld,IJ,h1]
  ·simp only[Ad,Ag];exact⟨_,us,rfl,⟨_,rfl,hra⟩,h2⟩
def Rt:List D->D
 |[d]=>d
 |ds=>.tup ds
theorem Aa.un{P:x7}{f:yx}{ds:List D}{σ:St}{k sz:Nat}{xs:List V}{H:List (Option (List D))}(hH:∀(i:Nat) (cs:List D),H[i]?=G (G cs)->D.pls cs=J)(hn:I σ.H<=I H)
  (h:Aa P f ds σ (.acc k xs) ⟨H,[(k,sz,xs)]⟩):Aa P f ds σ (.v (.list xs)) ⟨H,[]⟩:=by
 refine⟨h.1,fun g w args hw hargs=>?_⟩
 refine Calls.mono (h.2 g w args hw hargs) ?_
 rintro e w' ⟨u,g',rfl,hw',hr⟩
 refine⟨u,_,rfl,hw'.restrict (σ':=⟨H,[]⟩) (m:=I H) (by simp) (HH _) (by simp only[hw.n];exact hn) hH (by simp),?_⟩
 simp only[Ag] at hr⊢
 exact hr.1
section
variable {C : cf -> cf -> Prop} {P : x7} {R : List D -> St -> Prop} {k : List KI} {env : List D} {σ : St}
theorem Gf:∀xs:List V,EN (xs.map .v)=G xs
 |[]=>rfl
 |x::xs=>by simp[EN,D.toV,Gf xs]
end
def K7(acc:List Nat)(o:yy):Nat:=o.after.toList.foldl (fun s e=>if Region.binds .any e then s|||2^e.on|||acc.getD e.on 0 else s) 0
def EL:List Nat->List yy->List Nat
 |acc,[]=>acc
 |acc,o::os=>EL (acc++[K7 acc o]) os
theorem MW(acc:List Nat)(i:Nat):∀(es:List Edge) (s:Nat),(es.foldl (fun s e=>if Region.binds .any e then s|||2^e.on|||acc.getD e.on 0 else s) s).testBit i=J->
  s.testBit i=J∨∃e∈es,Region.binds .any e=J/\(i=e.on∨(acc.getD e.on 0).testBit i=J)
 |[],s,h=>.inl h
 |e::es,s,h=>by
  simp only[IN] at h
  rcases MW acc i es _ h with h|⟨e',he,hb,hi⟩
  ·split at h
   ·rename_i hb
    simp only[Nat.testBit_or,Bool.or_eq_true] at h
    rcases h with(h|h)|h
    ·exact .inl h
    ·refine .inr ⟨e,by simp,hb,.inl ?_⟩
     rw[Nat.testBit_two_pow] at h
     simpa using(HL h).symm
    ·exact .inr ⟨e,by simp,hb,.inr h⟩
   ·exact .inl h
  ·exact .inr ⟨e',by simp[he],hb,hi⟩
def DC(ops:Array yy)(S:Nat->Bool):Prop:=∀i o,ops[i]?=G o->S i=J->∀e∈o.after,Region.binds .any e=J->S e.on=J
def wg(acc:List Nat)(S:Nat->Bool):Prop:=∀j m,acc[j]?=G m->S j=J->∀i,m.testBit i=J->S i=J
theorem PV{acc:List Nat}{S:Nat->Bool}{o:yy}(hg:wg acc S)(hd:∀e∈o.after,Region.binds .any e=J->S e.on=J):∀i,(K7 acc o).testBit i=J->S i=J:=by
 intro i hi
 rcases MW acc i _ _ hi with h|⟨e,he,hb,h⟩
 ·simp at h
 ·have hs:=hd e (by simpa using he) hb
  rcases h with rfl|h
  ·exact hs
  ·cases hm:acc[e.on]? with
   |none=>simp[HI,hm] at h
   |some m=>
    rw[HI,hm] at h
    exact hg e.on m hm hs i h
theorem R7{ops:Array yy}{S:Nat->Bool}(hdc:DC ops S):∀(os:List yy) (acc:List Nat),(∀k,os[k]?=ops[I acc+k]?)->wg acc S->wg (EL acc os) S
 |[],acc,_,hg=>hg
 |o::os,acc,ha,hg=>by
  simp only[EL]
  refine R7 hdc os _ (fun k=>?_) ?_
  ·have:=ha (k+1)
   simp only[HO,List.length_singleton]
   rw[show I acc+1+k=I acc+(k+1) by omega]
   simpa using this
  ·intro j m hj hs i hi
   by_cases hlt:j<I acc
   ·rw[HW hlt] at hj
    exact hg j m hj hs i hi
   ·have hj':j=I acc:=by
     have:=(HD.1 hj).1
     simp at this;omega
    subst hj'
    rw[HT (HH _)] at hj
    simp at hj
    subst hj
    have ho:ops[I acc]?=G o:=by have:=ha 0;simpa using this.symm
    exact PV hg (hdc _ o ho hs) i hi
theorem NH:∀(os:List yy) (acc:List Nat),∃r,EL acc os=acc++r
 |[],acc=>⟨[],by simp[EL]⟩
 |o::os,acc=>by
  obtain⟨r,h⟩:=NH os (acc++[K7 acc o])
  exact⟨K7 acc o::r,by simp[EL,h]⟩
theorem TE:∀(os:List yy) (acc:List Nat) (k:Nat) (o:yy),os[k]?=G o->∃acc',(EL acc os)[I acc+k]?=G (K7 acc' o)/\∃r,EL acc os=acc'++r
 |[],acc,k,o,h=>by simp at h
 |o0::os,acc,k,o,h=>by
  simp only[EL]
  cases k with
  |zero=>
   simp at h;subst h
   obtain⟨r,hr⟩:=NH os (acc++[K7 acc o0])
   refine⟨acc,?_,K7 acc o0::r,by rw[hr];simp⟩
   rw[hr];simp
  |succ k=>
   simp at h
   obtain⟨acc',h1,h2⟩:=TE os (acc++[K7 acc o0]) k o h
   refine⟨acc',?_,h2⟩
   simp only[HO,List.length_singleton] at h1
   rw[show I acc+(k+1)=I acc+1+k by omega]
   exact h1
theorem P5{ops:Array yy}{S:Nat->Bool}(hdc:DC ops S){j:Nat}{o:yy}(ho:ops[j]?=G o)(hr:∀e∈o.after,Region.binds .any e=J->S e.on=J):
  ∀i,((EL [] ops.toList).getD j 0).testBit i=J->S i=J:=by
 intro i hi
 obtain⟨acc',h1,r,h2⟩:=TE ops.toList [] j o (by simpa using ho)
 simp only[HJ,Iv] at h1
 rw[HI,h1] at hi
 have hg:=R7 hdc ops.toList [] (fun k=>by simp) (fun j m hj=>by simp at hj)
 rw[h2] at hg
 exact PV (acc:=acc') (fun j m hj=>hg j m (by rw[HW (HD.1 hj).1];exact hj)) hr i hi
theorem OA{ops:Array yy}{S:Nat->Bool}(hdc:DC ops S){j:Nat}(hs:S j=J):∀i,((EL [] ops.toList).getD j 0).testBit i=J->S i=J:=by
 intro i hi
 have hg:=R7 hdc ops.toList [] (fun k=>by simp) (fun j m hj=>by simp at hj)
 cases hm:(EL [] ops.toList)[j]? with
 |none=>simp[HI,hm] at hi
 |some m=>
  rw[HI,hm] at hi
  exact hg j m hm hs i hi
def GJ(ops:Array yy)(o:yy):List Tmp:=
 (o.op.operands.toList.filterMap fun|.tmp t=>G t|_=>none)++(match o.guard with|G (j,_)=>((ops[j]?).bind (·.dst)).toList|none=>[])
def RD(ops:Array yy)(x y:yy):Bool:=
 (match x.dst with|G t=>(GJ ops y).contains t||y.dst==G t|none=>false)||(match y.dst with|G t=>(GJ ops x).contains t|none=>false)
def XQ(ops:Array yy)(effs:List Bool):Bool:=
 let b:=EL [] ops.toList
 (List.range ops.size).all fun j=>
  match ops[j]? with
  |none=>false
  |some oj=>
   oj.after.all (fun e=> !Region.binds .any e||Y (e.on<j))&&
   (List.range j).all fun i=>
    match ops[i]? with
    |none=>false
    |some oi=> !(RD ops oi oj||(effs.getD i false&&effs.getD j false))||(b.getD j 0).testBit i
theorem UN{ops:Array yy}{effs:List Bool}(h:XQ ops effs=J){j:Nat}{o:yy}(ho:ops[j]?=G o):∀e∈o.after,Region.binds .any e=J->e.on<j:=by
 intro e he hb
 have hlt:j<ops.size:=(I5.1 ho).1
 have h1:=Iw.1 h j (by simpa using hlt)
 simp only[ho,HB] at h1
 have h2:=Array.all_eq_true_iff_forall_mem.1 h1.1 e he
 simpa[hb] using h2
theorem LD{ops:Array yy}{effs:List Bool}(h:XQ ops effs=J){i j:Nat}{oi oj:yy}(hi:ops[i]?=G oi)(hj:ops[j]?=G oj)(hij:i<j)(hc:RD ops oi oj=J∨(effs.getD i false=J/\effs.getD j false=J)):
  ((EL [] ops.toList).getD j 0).testBit i=J:=by
 have hlt:j<ops.size:=(I5.1 hj).1
 have h1:=Iw.1 h j (by simpa using hlt)
 simp only[hj,HB] at h1
 have h2:=Iw.1 h1.2 i (by simpa using hij)
 simp only[hi,Bool.or_eq_true,I2] at h2
 rcases h2 with h2|h2
 ·rcases hc with hc|⟨hc1,hc2⟩
  ·simp[hc] at h2
  ·simp only[hc1,hc2,Bool.and_self,Bool.or_true] at h2
   exact absurd h2 (by simp)
 ·exact h2
abbrev It:=Option Tmp×D×Bool
def Cy(S:Nat->Bool)(e:List D)(x:It×Nat):List D:=if S x.2 then CA e x.1.1 x.1.2.1 else e
def Z6(items:List It)(S:Nat->Bool)(env0:List D):List D:=(items.zipIdx 0).foldl (Cy S) env0
def Cm(S:Nat->Bool)(c:Nat)(x:It×Nat):Nat:=if S x.2&&x.1.2.2 then c+1 else c
def Tx(items:List It)(S:Nat->Bool):Nat:=(items.zipIdx 0).foldl (Cm S) 0
theorem S9{e:List D}{t:Option Tmp}{d:D}(s:Nat):(CA e t d)[s]?=if t=G s then(e[s]?).map (fun _=>d) else e[s]?:=by
 cases t with
 |none=>simp[CA]
 |some t=>
  simp only[CA,getElem?_set,Ii]
  by_cases h:t=s
  ·subst h
   simp only[IJ]
   by_cases hl:t<I e<;>simp[hl]
  ·simp[h]
theorem Jt{S S':Nat->Bool}{t:Tmp}:∀(l:List (It×Nat)) (e e':List D),(∀x∈l,x.1.1=G t->S x.2=S' x.2)->e[t]?=e'[t]?->(l.foldl (Cy S) e)[t]?=(l.foldl (Cy S') e')[t]?
 |[],e,e',_,h=>h
 |x::l,e,e',hl,h=>by
  simp only[IN]
  refine Jt l _ _ (fun y hy=>hl y (by simp[hy])) ?_
  by_cases hx:x.1.1=G t
  ·have:=hl x (by simp) hx
   unfold Cy
   rw[this]
   split
   ·simp[S9,hx,h]
   ·exact h
  ·unfold Cy
   have hp:∀e:List D,(CA e x.1.1 x.1.2.1)[t]?=e[t]?:=fun e=>by rw[S9,HR hx]
   split<;>split<;>simp[hp,h]
theorem Ju{S S':Nat->Bool}:∀(l:List (It×Nat)) (c:Nat),(∀x∈l,x.1.2.2=J->S x.2=S' x.2)->l.foldl (Cm S) c=l.foldl (Cm S') c
 |[],c,_=>rfl
 |x::l,c,hl=>by
  simp only[IN]
  have:Cm S c x=Cm S' c x:=by
   unfold Cm
   cases hx:x.1.2.2 with
   |false=>simp
   |true=>rw[hl x (by simp) hx]
  rw[this]
  exact Ju l _ (fun y hy=>hl y (by simp[hy]))
theorem mem_zipIdx{items:List It}{x:It×Nat}(h:x∈items.zipIdx 0):items[x.2]?=G x.1:=by
 have:=List.mem_zipIdx h
 simp only[Iv,Nat.sub_zero,Ik,true_and] at this
 obtain⟨h1,h2⟩:=this
 rw[HA h1,h2]
theorem Adr{items:List It}{S:Nat->Bool}{env0:List D}{j:Nat}{it:It}(hj:items[j]?=G it)(hS:S j=O)(hlast:∀(i:Nat) (x:It),items[i]?=G x->S i=J->j<i->it.1=none∨x.1≠it.1):
  Z6 items (fun i=>S i||i==j) env0=CA (Z6 items S env0) it.1 it.2.1:=by
 have hjl:j<I items:=(HD.1 hj).1
 have hsplit:items=items.take j++it::items.drop (j+1):=by
  have:items.drop j=it::items.drop (j+1):=by
   rw[HP hjl]
   congr 1
   exact(HD.1 hj).2
  rw[←this,List.take_append_drop]
 have hlen:I (items.take j)=j:=by simp;omega
 have hz:items.zipIdx 0=(items.take j).zipIdx 0++(it,j)::(items.drop (j+1)).zipIdx (j+1):=by
  conv=>lhs;rw[hsplit]
  rw[List.zipIdx_append,List.zipIdx_cons,hlen]
  simp
 unfold Z6
 rw[hz,foldl_append,foldl_append,IN,IN]
 have e1:(items.take j).zipIdx.foldl (Cy fun i=>S i||i==j) env0=(items.take j).zipIdx.foldl (Cy S) env0:=by
  have:∀(l:List (It×Nat)) (e:List D),(∀x∈l,x.2≠j)->l.foldl (Cy fun i=>S i||i==j) e=l.foldl (Cy S) e:=by
   intro l
   induction l with
   |nil=>intro e _;rfl
   |cons x l ih=>
    intro e hl
    simp only[IN]
    have hx:=hl x (by simp)
    have:Cy (fun i=>S i||i==j) e x=Cy S e x:=by unfold Cy;simp[hx]
    rw[this];exact ih _ (fun y hy=>hl y (by simp[hy]))
  refine this _ _ (fun x hx=>?_)
  have:=(List.mem_zipIdx hx).2.1
  omega
 rw[e1]
 generalize (items.take j).zipIdx.foldl (Cy S) env0=E
 have s1:Cy (fun i=>S i||i==j) E (it,j)=CA E it.1 it.2.1:=by simp[Cy]
 have s2:Cy S E (it,j)=E:=by simp[Cy,hS]
 rw[s1,s2]
 -- what follows does not touch the slot
 have later:∀(l:List (It×Nat)) (e:List D),(∀x∈l,x.2≠j/\(S x.2=J->it.1=none∨x.1.1≠it.1))->l.foldl (Cy fun i=>S i||i==j) (CA e it.1 it.2.1)=CA (l.foldl (Cy S) e) it.1 it.2.1:=by
  intro l
  induction l with
  |nil=>intro e _;rfl
  |cons x l ih=>
   intro e hl
   simp only[IN]
   obtain⟨hx,hd⟩:=hl x (by simp)
   have hh:Cy (fun i=>S i||i==j) (CA e it.1 it.2.1) x=CA (Cy S e x) it.1 it.2.1:=by
    unfold Cy
    have hxj:(x.2==j)=O:=by simpa using hx
    simp only[hxj,Bool.or_false]
    split
    ·rename_i hs
     rcases hd hs with h|h
     ·rw[h];simp[CA]
     ·cases h1:it.1 with
      |none=>simp[CA]
      |some t=>
       cases h2:x.1.1 with
       |none=>simp[CA]
       |some t'=>
        simp only[CA]
        rw[h1,h2] at h
        have hne:t≠t':=fun e=>h (by rw[e])
        exact List.set_comm _ _ hne
    ·rfl
   rw[hh]
   exact ih _ (fun y hy=>hl y (by simp[hy]))
 refine later _ _ (fun x hx=>?_)
 have hm:=List.mem_zipIdx hx
 refine⟨by omega,fun hs=>hlast x.2 x.1 ?_ hs (by omega)⟩
 have h3:=hm.2.2
 have h4:=hm.2.1
 have h5:=hm.1
 rw[h3,List.getElem_drop]
 rw[HA (by simp at h4;omega)]
 congr 2
 omega
theorem Ad4{items:List It}{S:Nat->Bool}{j:Nat}{it:It}(hj:items[j]?=G it)(hS:S j=O):Tx items (fun i=>S i||i==j)=Tx items S+(if it.2.2 then 1 else 0):=by
 have hjl:j<I items:=(HD.1 hj).1
 have hsplit:items=items.take j++it::items.drop (j+1):=by
  have:items.drop j=it::items.drop (j+1):=by
   rw[HP hjl]
   congr 1
   exact(HD.1 hj).2
  rw[←this,List.take_append_drop]
 have hlen:I (items.take j)=j:=by simp;omega
 have hz:items.zipIdx 0=(items.take j).zipIdx 0++(it,j)::(items.drop (j+1)).zipIdx (j+1):=by
  conv=>lhs;rw[hsplit]
  rw[List.zipIdx_append,List.zipIdx_cons,hlen]
  simp
 have same:∀(l:List (It×Nat)) (c:Nat),(∀x∈l,x.2≠j)->l.foldl (Cm fun i=>S i||i==j) c=l.foldl (Cm S) c:=by
  intro l
  induction l with
  |nil=>intro c _;rfl
  |cons x l ih=>
   intro c hl
   simp only[IN]
   have hx:=hl x (by simp)
   have:Cm (fun i=>S i||i==j) c x=Cm S c x:=by unfold Cm;simp[hx]
   rw[this];exact ih _ (fun y hy=>hl y (by simp[hy]))
 have shift:∀(l:List (It×Nat)) (c d:Nat),l.foldl (Cm S) (c+d)=l.foldl (Cm S) c+d:=by
  intro l
  induction l with
  |nil=>intro c d;rfl
  |cons x l ih=>
   intro c d
   simp only[IN]
   have:Cm S (c+d) x=Cm S c x+d:=by unfold Cm;split<;>omega
   rw[this,ih]
 unfold Tx
 rw[hz,foldl_append,foldl_append,IN,IN]
 rw[same (items.take j).zipIdx 0 (fun x hx=>by have:=(List.mem_zipIdx hx).2.1;omega)]
 generalize (items.take j).zipIdx.foldl (Cm S) 0=c
 have s1:Cm (fun i=>S i||i==j) c (it,j)=c+(if it.2.2 then 1 else 0):=by
  unfold Cm;simp;split<;>rfl
 have s2:Cm S c (it,j)=c:=by simp[Cm,hS]
 rw[s1,s2,same _ _ (fun x hx=>by have:=(List.mem_zipIdx hx).1;omega),shift]
end Go.Dv
