/-
  A part of the proof.
-/
import Derived.Calls
import Derived.Laws.AppendOwn
import Derived.Laws.MakeOwn
import Derived.Laws.Slices
import Derived.Laws.Rows
import Derived.Tactics
import Derived.Laws.Strings
import Derived.Great.BuildSlice
import Derived.Lib.Strings
import Derived.Orders
import Derived.Test.YtpmahmngmgnnbaaGreatDoorProg
import Derived.KernelRfl
namespace Go
abbrev Hw:=@List.length_map
abbrev Hx:=@List.getElem?_eq_getElem
abbrev Hy:=@Bool.and_eq_true
abbrev Hz:=@decide_eq_true
abbrev H0:=@List.getElem?_eq_some_iff
abbrev H1:=@decide_eq_false
abbrev H3:=@List.length_cons
abbrev H4:=@List.mem_of_getElem?
abbrev H5:=@Nat.le_refl
abbrev H6:=@List.getD_eq_getElem?_getD
abbrev H7:=@List.length_nil
abbrev H8:=@decide_eq_true_eq
abbrev H9:=@of_decide_eq_true
abbrev HA:=@eq_false_of_ne_true
abbrev HB:=@List.cons.injEq
abbrev HC:=@List.length_append
abbrev HD:=@List.drop_eq_getElem_cons
abbrev HE:=@List.mem_singleton
abbrev HF:=@if_neg
abbrev HG:=@Bool.and_eq_true_iff
abbrev HH:=@List.getElem?_append_right
abbrev HI:=@List.drop_of_length_le
abbrev HJ:=@if_pos
abbrev HK:=@List.getElem?_append_left
abbrev HL:=@congrArg
abbrev HM:=@Nat.eq_of_beq_eq_true
abbrev HN:=@Option.some.inj
abbrev HO:=@List.map_cons
abbrev HP:=@Int.le_refl
abbrev HQ:=@List.take_of_length_le
abbrev HR:=@Nat.le_of_ble_eq_true
abbrev HS:=@List.length_take
abbrev HT:=@Bool.false_and
abbrev HU:=@Option.some.injEq
abbrev HV:=@Bool.true_and
abbrev HW:=@Nat.zero_le
abbrev HX:=@beq_iff_eq
abbrev HY:=@Array.length_toList
abbrev HZ:=@and_true
abbrev Ia:=@beq_eq_false_iff_ne
abbrev Ib:=@List.mem_cons
abbrev Ic:=@List.getElem?_map
abbrev Ie:=@List.mem_map
abbrev Ig:=@of_decide_eq_false
abbrev Ih:=@Nat.zero_add
abbrev Ii:=@List.all_eq_true
abbrev Ij:=@List.mem_append
abbrev Ik:=@List.getElem?_eq_none
abbrev Il:=@List.append_nil
abbrev Im:=@List.mem_of_mem_drop
abbrev Io:=@Bool.not_eq_true'
abbrev Ip:=@And.intro
abbrev Iq:=@List.replicate_succ
abbrev Ir:=@Array.getElem?_eq_some_iff
abbrev Is:=@Nat.le_trans
abbrev Iu:=@List.map_nil
abbrev Iv:=@Nat.add_zero
abbrev Iw:=@Int.min_def
abbrev Ix:=@Option.map_some
abbrev Iy:=@List.getElem?_cons_zero
abbrev Iz:=@Array.ext'
abbrev I1:=@List.getElem?_toArray
abbrev I2:=@List.mem_or_eq_of_mem_set
abbrev I3:=@List.length_drop
abbrev I4:=@List.append_assoc
abbrev I5:=@Int.toNat_natCast
abbrev I6:=@if_true
abbrev I7:=@Array.getD_eq_getD_getElem?
abbrev I8:=@Nat.add_mul
abbrev I9:=@List.take_add_one
abbrev IA:=@List.foldl_cons
abbrev IB:=@List.size_toArray
abbrev IC:=@List.map_append
abbrev ID:=@List.mem_of_mem_take
abbrev IE:=@List.eq_nil_of_length_eq_zero
abbrev IF:=@decide_eq_false_iff_not
abbrev IG:=@Nat.lt_of_lt_of_le
abbrev II:=@List.set_cons_succ
abbrev IJ:=@List.getElem?_take
abbrev IK:=@List.flatten_cons
abbrev IL:=@Option.getD_some
abbrev IM:=@List.not_mem_nil
abbrev IN:=@List.take_append_of_le_length
abbrev IP:=@List.drop_zero
abbrev IQ:=@Array.getElem?_toList
abbrev IR:=@Bool.and_false
abbrev IT:=@Option.map_none
abbrev IU:=@True.intro
abbrev IV:=@Bool.false_eq_true
abbrev IW:=@List.cons_append
abbrev IX:=@List.getElem?_cons_succ
end Go
namespace Go.Dv
open List (ext_getElem? getElem?_drop getElem?_set length_singleton nil_append take_left take_succ_cons)
open Go.IntKind (wrap)
inductive V where
 |int (k:IntKind) (n:Int)
 |bool (b:Bool)
 |str (s:List UInt8)
 |list (xs:List V)
 |agg (cs:List V)
 |ref (x:V)
 |fn (f:FuncId) (fs cs:List V)
 |nilfn
 |nilp
 |nils
 |ifc (t:TypeId) (x:V)
 deriving Inhabited
def V.isAgg:V->Bool
 |.agg _=>true
 |_=>false
def V.size:V->Nat
 |.agg cs=>cs.length
 |_=>1
abbrev Mem:=Nat->Nat->Option Value
def inM(M:Mem)(b off:Nat)(ws:List Value):Prop:=∀j v,ws[j]?=some v->M b (off+j)=some v
def Dr:V->List Value->Value
 |.agg _,ws=>.agg ws.toArray
 |_,ws=>ws.headD (.tuple #[])
mutual
def repC(M:Mem):V->List Value->Prop
 |.int k n,ws=>ws=[.int k n]
 |.bool b,ws=>ws=[.bool b]
 |.str s,ws=>ws=[.string ⟨s.toArray⟩]
 |.list xs,ws=>∃a cap,ws=[.slice a xs.length cap]/\xs.length<=cap/\(xs=[]∨∃b off sz us,a=some ⟨b,off,none⟩/\0<sz/\inM M b off us/\repE M sz xs us)
 |.agg cs,ws=>repA M cs ws
 |.ref x,ws=>∃b off us,ws=[.pointer (some ⟨b,off,none⟩)]/\inM M b off us/\repC M x us
 |.fn f fs cs,ws=>∃us vs,ws=[.func (.func f) us.toArray vs.toArray]/\Eh M fs us/\Eh M cs vs
 |.nilfn,ws=>ws=[.nilFunc]
 |.nilp,ws=>ws=[.pointer none]
 |.nils,ws=>ws=[.slice none 0 0]
 |.ifc t x,ws=>∃us,ws=[.iface t (Dr x us)]/\repC M x us
def repE(M:Mem)(sz:Nat):List V->List Value->Prop
 |[],us=>us=[]
 |x::xs,us=>∃u1 u2,us=u1++u2/\u1.length=sz/\repC M x u1/\repE M sz xs u2
def repA(M:Mem):List V->List Value->Prop
 |[],us=>us=[]
 |c::cs,us=>∃u us',us=u::us'/\c.isAgg=false/\repC M c [u]/\repA M cs us'
def Eh(M:Mem):List V->List Value->Prop
 |[],us=>us=[]
 |x::xs,us=>∃u us' ws,us=u::us'/\repC M x ws/\u=Dr x ws/\Eh M xs us'
end
def repV(M:Mem)(x:V)(u:Value):Prop:=∃ws,repC M x ws/\u=Dr x ws
def Mem.le(M M':Mem):Prop:=∀b o v,M b o=some v->M' b o=some v
theorem Mem.le_refl(M:Mem):M.le M:=fun _ _ _ h=>h
theorem Mem.le_trans{M M' M'':Mem}(h:M.le M')(h':M'.le M''):M.le M'':=fun b o v e=>h' b o v (h b o v e)
theorem inM.mono{M M':Mem}{b off:Nat}{ws:List Value}(hm:M.le M')(h:inM M b off ws):inM M' b off ws:=fun j v e=>hm _ _ _ (h j v e)
mutual
theorem repC.mono{M M':Mem}(hm:M.le M'):∀(x:V) (ws:List Value),repC M x ws->repC M' x ws
 |.int k n,ws,h=>h
 |.bool b,ws,h=>h
 |.str s,ws,h=>h
 |.list xs,ws,h=>by
  simp only[repC] at h⊢
  obtain⟨a,cap,e,hc,h⟩:=h
  refine⟨a,cap,e,hc,?_⟩
  rcases h with h|⟨b,off,sz,us,ha,hs,hi,he⟩
  ·exact .inl h
  ·exact .inr ⟨b,off,sz,us,ha,hs,hi.mono hm,repE.mono hm sz xs us he⟩
 |.agg cs,ws,h=>by simp only[repC] at h⊢;exact repA.mono hm cs ws h
 |.ref x,ws,h=>by
  simp only[repC] at h⊢
  obtain⟨b,off,us,e,hi,hx⟩:=h
  exact⟨b,off,us,e,hi.mono hm,repC.mono hm x us hx⟩
 |.fn f fs cs,ws,h=>by
  simp only[repC] at h⊢
  obtain⟨us,vs,e,h1,h2⟩:=h
  exact⟨us,vs,e,Eh.mono hm fs us h1,Eh.mono hm cs vs h2⟩
 |.nilfn,ws,h=>h
 |.nilp,ws,h=>h
 |.nils,ws,h=>h
 |.ifc t x,ws,h=>by
  simp only[repC] at h⊢
  obtain⟨us,e,hx⟩:=h
  exact⟨us,e,repC.mono hm x us hx⟩
theorem repE.mono{M M':Mem}(hm:M.le M')(sz:Nat):∀(xs:List V) (us:List Value),repE M sz xs us->repE M' sz xs us
 |[],us,h=>h
 |x::xs,us,h=>by
  simp only[repE] at h⊢
  obtain⟨u1,u2,e,hl,h1,h2⟩:=h
  exact⟨u1,u2,e,hl,repC.mono hm x u1 h1,repE.mono hm sz xs u2 h2⟩
theorem repA.mono{M M':Mem}(hm:M.le M'):∀(cs:List V) (us:List Value),repA M cs us->repA M' cs us
 |[],us,h=>h
 |c::cs,us,h=>by
  simp only[repA] at h⊢
  obtain⟨u,us',e,ha,h1,h2⟩:=h
  exact⟨u,us',e,ha,repC.mono hm c [u] h1,repA.mono hm cs us' h2⟩
theorem Eh.mono{M M':Mem}(hm:M.le M'):∀(xs:List V) (us:List Value),Eh M xs us->Eh M' xs us
 |[],us,h=>h
 |x::xs,us,h=>by
  simp only[Eh] at h⊢
  obtain⟨u,us',ws,e,h1,h2,h3⟩:=h
  exact⟨u,us',ws,e,repC.mono hm x ws h1,h2,Eh.mono hm xs us' h3⟩
end
theorem repV.mono{M M':Mem}(hm:M.le M'){x:V}{u:Value}(h:repV M x u):repV M' x u:=
 let ⟨ws,h1,h2⟩:=h;⟨ws,repC.mono hm x ws h1,h2⟩
theorem C9{M:Mem}:∀{cs:List V} {us:List Value},repA M cs us->us.length=cs.length
 |[],us,h=>by simp only[repA] at h;simp[h]
 |c::cs,us,h=>by
  simp only[repA] at h
  obtain⟨u,us',rfl,_,_,h2⟩:=h
  simp[C9 h2]
theorem DX{M:Mem}:∀{x:V} {ws:List Value},repC M x ws->ws.length=x.size
 |.int k n,ws,h=>by simp only[repC] at h;simp[h,V.size]
 |.bool b,ws,h=>by simp only[repC] at h;simp[h,V.size]
 |.str s,ws,h=>by simp only[repC] at h;simp[h,V.size]
 |.list xs,ws,h=>by simp only[repC] at h;obtain⟨a,cap,e,_⟩:=h;simp[e,V.size]
 |.agg cs,ws,h=>by simp only[repC] at h;simpa[V.size] using C9 h
 |.ref x,ws,h=>by simp only[repC] at h;obtain⟨b,off,us,e,_⟩:=h;simp[e,V.size]
 |.fn f fs cs,ws,h=>by simp only[repC] at h;obtain⟨us,vs,e,_⟩:=h;simp[e,V.size]
 |.nilfn,ws,h=>by simp only[repC] at h;simp[h,V.size]
 |.nilp,ws,h=>by simp only[repC] at h;simp[h,V.size]
 |.nils,ws,h=>by simp only[repC] at h;simp[h,V.size]
 |.ifc t x,ws,h=>by simp only[repC] at h;obtain⟨us,e,_⟩:=h;simp[e,V.size]
theorem Cm{M:Mem}{x:V}{ws:List Value}(hx:x.isAgg=false)(h:repC M x ws):∃u,ws=[u]/\Dr x ws=u/\u.oneCell'=true:=by
 cases x with
 |int k n=>simp only[repC] at h;exact⟨_,h,by simp[Dr,h],rfl⟩
 |bool b=>simp only[repC] at h;exact⟨_,h,by simp[Dr,h],rfl⟩
 |str s=>simp only[repC] at h;exact⟨_,h,by simp[Dr,h],rfl⟩
 |list xs=>simp only[repC] at h;obtain⟨a,cap,e,_⟩:=h;exact⟨_,e,by simp[Dr,e],rfl⟩
 |agg cs=>simp[V.isAgg] at hx
 |ref x=>simp only[repC] at h;obtain⟨b,off,us,e,_⟩:=h;exact⟨_,e,by simp[Dr,e],rfl⟩
 |fn f fs cs=>simp only[repC] at h;obtain⟨us,vs,e,_⟩:=h;exact⟨_,e,by simp[Dr,e],rfl⟩
 |nilfn=>simp only[repC] at h;exact⟨_,h,by simp[Dr,h],rfl⟩
 |nilp=>simp only[repC] at h;exact⟨_,h,by simp[Dr,h],rfl⟩
 |nils=>simp only[repC] at h;exact⟨_,h,by simp[Dr,h],rfl⟩
 |ifc t x=>simp only[repC] at h;obtain⟨us,e,_⟩:=h;exact⟨_,e,by simp[Dr,e],rfl⟩
theorem AT{M:Mem}{x:V}{u:Value}(hx:x.isAgg=false):repV M x u↔repC M x [u]:=by
 constructor
 ·rintro ⟨ws,h,e⟩
  obtain⟨u',e1,e2,_⟩:=Cm hx h
  rw[e,e2, ←e1];exact h
 ·intro h
  obtain⟨u',e1,e2,_⟩:=Cm hx h
  have:u=u':=by simpa using e1
  exact⟨[u],h,by rw[e2,this]⟩
@[simp] theorem As {M:Mem} {k:IntKind} {n:Int} {u:Value}:repV M (.int k n) u↔u=.int k n:=by rw[AT rfl];simp[repC]
@[simp] theorem Cq {M:Mem} {b:Bool} {u:Value}:repV M (.bool b) u↔u=.bool b:=by rw[AT rfl];simp[repC]
@[simp] theorem AI {M:Mem} {s:List UInt8} {u:Value}:repV M (.str s) u↔u=.string ⟨s.toArray⟩:=by rw[AT rfl];simp[repC]
@[simp] theorem Yh {M:Mem} {u:Value}:repV M .nilfn u↔u=.nilFunc:=by rw[AT rfl];simp[repC]
@[simp] theorem BQ {M:Mem} {u:Value}:repV M .nils u↔u=.slice none 0 0:=by rw[AT rfl];simp[repC]
@[simp] theorem YS {M:Mem} {u:Value}:repV M .nilp u↔u=.pointer none:=by rw[AT rfl];simp[repC]
theorem AJ{M:Mem}{xs:List V}{u:Value}:repV M (.list xs) u↔∃a cap,u=.slice a xs.length cap/\xs.length<=cap/\(xs=[]∨∃b off sz us,a=some ⟨b,off,none⟩/\0<sz/\inM M b off us/\repE M sz xs us):=by
 rw[AT rfl];simp[repC]
theorem Dd(M:Mem):repV M (.list []) (.slice none 0 0):=by rw[AJ];exact⟨none,0,rfl,H5 _,.inl rfl⟩
theorem Ci{M:Mem}{x:V}{u:Value}:repV M (.ref x) u↔∃b off us,u=.pointer (some ⟨b,off,none⟩)/\inM M b off us/\repC M x us:=by rw[AT rfl];simp[repC]
theorem Gx{M:Mem}{f:FuncId}{fs cs:List V}{u:Value}:repV M (.fn f fs cs) u↔∃us vs,u=.func (.func f) us.toArray vs.toArray/\Eh M fs us/\Eh M cs vs:=by rw[AT rfl];simp[repC]
theorem BR{M:Mem}{cs:List V}{u:Value}:repV M (.agg cs) u↔∃ws,repA M cs ws/\u=.agg ws.toArray:=by simp[repV,repC,Dr]
theorem CF{M:Mem}{x:V}{u:Value}(hx:x.isAgg=false)(h:repV M x u):u.oneCell'=true:=by
 obtain⟨ws,h,e⟩:=h
 obtain⟨u',e1,e2,h3⟩:=Cm hx h
 rw[e,e2];exact h3
theorem E8{M:Mem}{x:V}{u:Value}(h:repV M x u):repC M x u.cells.toList:=by
 obtain⟨ws,h,e⟩:=h
 cases hx:x.isAgg with
 |false=>
  obtain⟨u',e1,e2,h3⟩:=Cm hx h
  rw[e,e2]
  have:u'.cells= #[u']:=by cases u'<;>simp_all [Value.cells,Value.oneCell']
  rw[this, ←e1];exact h
 |true=>
  cases x with
  |agg cs=>rw[e];simpa[Dr,Value.cells] using h
  |_=>simp[V.isAgg] at hx
theorem EB{M:Mem}:∀{cs:List V} {us:List Value},repA M cs us->∀u∈us,u.oneCell'=true
 |[],us,h=>by simp only[repA] at h;simp[h]
 |c::cs,us,h=>by
  simp only[repA] at h
  obtain⟨u,us',rfl,ha,h1,h2⟩:=h
  intro u0 hu
  rcases Ib.1 hu with rfl|hu
  ·obtain⟨u',e1,_,h3⟩:=Cm ha h1
   have:u0=u':=by simpa using e1
   rw[this];exact h3
  ·exact EB h2 u0 hu
theorem L5{M:Mem}{x:V}{us:List Value}(h:repC M x us):∀u∈us,u.oneCell'=true:=by
 cases hx:x.isAgg with
 |false=>
  obtain⟨u',e1,_,h3⟩:=Cm hx h
  rw[e1];intro u hu;simp at hu;rw[hu];exact h3
 |true=>
  cases x with
  |agg cs=>simp only[repC] at h;exact EB h
  |_=>simp[V.isAgg] at hx
inductive D where
 |v (x:V)
 |acc (k:Nat) (xs:List V)
 |ptr (o off:Nat)
 |arr (o off len:Nat)
 |gro (o len sz:Nat)
 |raw (x:Value)
 |rv (x:V) (u:Value)
 |dagg (cs:List D)
 |dfn (f:FuncId) (fs cs:List D)
 |tup (ds:List D)
 |err
 |undef
 deriving Inhabited
structure Gh where
 M:Mem
 β:Nat->Nat
 n:Nat
 ι:Nat->Nat->Option Value
 κ:Nat->Nat
mutual
def Ac(g:Gh):D->Value->Prop
 |.v x,u=>repV g.M x u
 |.acc k xs,u=>repV g.M (.list xs) u/\g.ι k xs.length=some u
 |.ptr o off,u=>o<g.n/\u=.pointer (some ⟨g.β o,off,none⟩)
 |.arr o off len,u=>o<g.n/\∃cap,len<=cap/\u=.slice (some ⟨g.β o,off,none⟩) len cap
 |.gro o len sz,u=>o<g.n/\∃cap,len<=cap/\cap*sz=g.κ o/\u=.slice (some ⟨g.β o,0,none⟩) len cap
 |.raw x,u=>u=x
 |.rv x u0,u=>u=u0/\repV g.M x u0
 |.dagg cs,u=>∃us,u=.agg us.toArray/\Ab g cs us
 |.dfn f fs cs,u=>∃us vs,u=.func (.func f) us.toArray vs.toArray/\Ab g fs us/\Ab g cs vs
 |.tup ds,u=>∃us,u=.tuple us.toArray/\Ab g ds us
 |.err,u=>∃t p,u=.iface t p
 |.undef,_=>True
def Ab(g:Gh):List D->List Value->Prop
 |[],us=>us=[]
 |d::ds,us=>∃u us',us=u::us'/\Ac g d u/\Ab g ds us'
end
structure Gh.le(g g':Gh):Prop where
 M:g.M.le g'.M
 n:g.n<=g'.n
 β:∀o,o<g.n->g'.β o=g.β o
 ι:∀k m u,g.ι k m=some u->g'.ι k m=some u
 κ:∀o,o<g.n->g'.κ o=g.κ o
theorem Gh.le_refl(g:Gh):g.le g:=⟨g.M.le_refl,H5 _,fun _ _=>rfl,fun _ _ _ h=>h,fun _ _=>rfl⟩
theorem Gh.le_trans{g g' g'':Gh}(h:g.le g')(h':g'.le g''):g.le g'':=
 ⟨Mem.le_trans h.M h'.M,Is h.n h'.n,fun o ho=>(h'.β o (IG ho h.n)).trans (h.β o ho),fun k m u e=>h'.ι k m u (h.ι k m u e),fun o ho=>(h'.κ o (IG ho h.n)).trans (h.κ o ho)⟩
mutual
theorem Ac.mono{g g':Gh}(hg:g.le g'):∀(d:D) (u:Value),Ac g d u->Ac g' d u
 |.v x,u,h=>by simp only[Ac] at h⊢;exact h.mono hg.M
 |.acc k xs,u,h=>by simp only[Ac] at h⊢;exact⟨h.1.mono hg.M,hg.ι _ _ _ h.2⟩
 |.ptr o off,u,h=>by simp only[Ac] at h⊢;exact⟨IG h.1 hg.n,by rw[hg.β o h.1];exact h.2⟩
 |.arr o off len,u,h=>by simp only[Ac] at h⊢;exact⟨IG h.1 hg.n,by rw[hg.β o h.1];exact h.2⟩
 |.gro o len sz,u,h=>by simp only[Ac] at h⊢;exact⟨IG h.1 hg.n,by rw[hg.β o h.1,hg.κ o h.1];exact h.2⟩
 |.raw x,u,h=>by simpa only[Ac] using h
 |.rv x u0,u,h=>by simp only[Ac] at h⊢;exact⟨h.1,h.2.mono hg.M⟩
 |.dagg cs,u,h=>by
  simp only[Ac] at h⊢
  obtain⟨us,e,h1⟩:=h
  exact⟨us,e,Ab.mono hg cs us h1⟩
 |.dfn f fs cs,u,h=>by
  simp only[Ac] at h⊢
  obtain⟨us,vs,e,h1,h2⟩:=h
  exact⟨us,vs,e,Ab.mono hg fs us h1,Ab.mono hg cs vs h2⟩
 |.tup ds,u,h=>by
  simp only[Ac] at h⊢
  obtain⟨us,e,h1⟩:=h
  exact⟨us,e,Ab.mono hg ds us h1⟩
 |.err,u,h=>by simpa only[Ac] using h
 |.undef,u,_=>by simp only[Ac]
theorem Ab.mono{g g':Gh}(hg:g.le g'):∀(ds:List D) (us:List Value),Ab g ds us->Ab g' ds us
 |[],us,h=>by simpa only[Ab] using h
 |d::ds,us,h=>by
  simp only[Ab] at h⊢
  obtain⟨u,us',e,h1,h2⟩:=h
  exact⟨u,us',e,Ac.mono hg d u h1,Ab.mono hg ds us' h2⟩
end
theorem A7{g:Gh}:∀{ds:List D} {us:List Value},Ab g ds us->us.length=ds.length
 |[],us,h=>by simp only[Ab] at h;simp[h]
 |d::ds,us,h=>by
  simp only[Ab] at h
  obtain⟨u,us',rfl,_,h2⟩:=h
  simp[A7 h2]
theorem BJ{g:Gh}:∀{ds:List D} {us:List Value},Ab g ds us->∀{i:Nat} {d:D},ds[i]?=some d->∃u,us[i]?=some u/\Ac g d u
 |[],us,h,i,d,hd=>by simp at hd
 |d::ds,us,h,i,d',hd=>by
  simp only[Ab] at h
  obtain⟨u,us',rfl,h1,h2⟩:=h
  cases i with
  |zero=>simp at hd;subst hd;exact⟨u,by simp,h1⟩
  |succ i=>simp at hd;obtain⟨u',e,h3⟩:=BJ h2 hd;exact⟨u',by simpa using e,h3⟩
theorem CU{g:Gh}:∀{ds:List D} {us:List Value},Ab g ds us->∀(i:Nat) {d:D} {u:Value},Ac g d u->Ab g (ds.set i d) (us.set i u)
 |[],us,h,i,d,u,_=>by simp only[Ab] at h;simp[h,Ab]
 |d0::ds,us,h,i,d,u,hd=>by
  simp only[Ab] at h
  obtain⟨u0,us',rfl,h1,h2⟩:=h
  cases i with
  |zero=>simp only[List.set_cons_zero,Ab];exact⟨u,us',rfl,hd,h2⟩
  |succ i=>simp only[List.set_cons_succ,Ab];exact⟨u0,_,rfl,h1,CU h2 i hd⟩
theorem Aw{g:Gh}:∀{ds ds':List D} {us us':List Value},Ab g ds us->Ab g ds' us'->Ab g (ds++ds') (us++us')
 |[],ds',us,us',h,h'=>by simp only[Ab] at h;simpa[h] using h'
 |d::ds,ds',us,us',h,h'=>by
  simp only[Ab] at h
  obtain⟨u,us1,rfl,h1,h2⟩:=h
  simp only[IW,Ab]
  exact⟨u,_,rfl,h1,Aw h2 h'⟩
theorem Dw{α:Type}{l r:List α}{i:Nat}{x:α}(h:l[i]?=some x):(l++r)[i]?=some x:=by
 rw[HK (H0.1 h).1];exact h
theorem EA{g:Gh}:∀{ds:List D} {us:List Value},Ab g ds us->∀{ds':List D},ds'.length=ds.length->(∀(i:Nat) (d':D),ds'[i]?=some d'->d'=.undef∨ds[i]?=some d')->Ab g ds' us
 |[],us,h,ds',hl,_=>by
  have:ds'=[]:=IE (by simpa using hl)
  subst this;exact h
 |d::ds,us,h,[],hl,_=>by simp at hl
 |d::ds,us,h,d'::ds',hl,hw=>by
  simp only[Ab] at h⊢
  obtain⟨u,us',rfl,h1,h2⟩:=h
  refine⟨u,us',rfl,?_,EA h2 (by simpa using hl) (fun i x hx=>by have:=hw (i+1) x (by simpa using hx);simpa using this)⟩
  rcases hw 0 d' (by simp) with rfl|e
  ·simp only[Ac]
  ·simp at e;subst e;exact h1
abbrev Li(w:List UInt8)(t p q:Bool):List V:=[.str w,.bool t,.bool p,.bool q]
def QA:V:=.agg (Li [] false false false++Li [99,111,118,101,114] true false false++Li [114,101,97,99,104] true false false++Li [98,111,117,110,100,101,100] false false true++Li [112,108,97,99,101] false true true++Li [100,101,97,100] false false false++Li [104,111,109,101] false false false)
abbrev DRW:Prop:=False
def AQ(a b:Nat):Prop:=DRW->a<=b
theorem AQ.of{a b:Nat}(h:a<=b):AQ a b:=fun _=>h
theorem AQ.refl(a:Nat):AQ a a:=.of (H5 _)
theorem AQ.succ(a:Nat):AQ a (a+1):=.of (Nat.le_succ _)
theorem AQ.trans{a b c:Nat}(h:AQ a b)(h':AQ b c):AQ a c:=fun d=>Is (h d) (h' d)
def WL:V:=.agg ([.int .u64 1,.int .u64 10,.int .u64 100,.int .u64 1000,.int .u64 10000,.int .u64 100000,.int .u64 1000000,.int .u64 10000000,.int .u64 100000000,.int .u64 1000000000,.int .u64 10000000000,.int .u64 100000000000,.int .u64 1000000000000,.int .u64 10000000000000,.int .u64 100000000000000,.int .u64 1000000000000000,.int .u64 10000000000000000,.int .u64 100000000000000000,.int .u64 1000000000000000000,.int .u64 10000000000000000000])
def Y1:List (Nat×V):=[(0,QA),(2,WL)]
def GLX(M:Mem):Prop:=(∃t p,M 3 0=some (.iface t p))/\∃t p,M 4 0=some (.iface t p)
theorem GLX.mono{M M':Mem}(h:GLX M)(hle:M.le M'):GLX M':=by
 obtain⟨⟨t,p,h1⟩,t',p',h2⟩:=h
 exact⟨⟨t,p,hle _ _ _ h1⟩,t',p',hle _ _ _ h2⟩
structure GlobOK(M:Mem):Prop where
 known:∀p∈Y1,∃us,inM M p.1 0 us/\repC M p.2 us
 more:GLX M
theorem GlobOK.mono{M M':Mem}(h:GlobOK M)(hle:M.le M'):GlobOK M':=⟨fun p hp=>
 let ⟨us,h1,h2⟩:=h.known p hp
 ⟨us,h1.mono hle,repC.mono hle _ _ h2⟩,h.more.mono hle⟩
def E1:List (Nat×Nat):=[(2,20)]
def GW(w:World):Prop:=∀p∈E1,∃cs e x,w.heap[p.1]?=some (.cells cs e x)/\cs.size=p.2
theorem GW.mono{w w':World}(h:GW w)(hs:∀(b:Nat) (cs:Array Value) (e:TypeId) (x:Nat×Nat),w.heap[b]?=some (.cells cs e x)->∃cs' e' x',w'.heap[b]?=some (.cells cs' e' x')/\cs'.size=cs.size):GW w':=fun p hp=>by
 obtain⟨cs,e,x,h1,h2⟩:=h p hp
 obtain⟨cs',e',x',h3,h4⟩:=hs _ _ _ _ h1
 exact⟨cs',e',x',h3,h4.trans h2⟩
theorem GW.keep{w w':World}(h:GW w)(hs:∀b,b<w.heap.size->w'.heap[b]?=w.heap[b]?):GW w':=h.mono fun b cs e x hb=>⟨cs,e,x,(hs b (Ir.1 hb).1).trans hb,rfl⟩
theorem GW.keepG{w w':World}(h:GW w)(hs:∀p∈E1,p.1<w.heap.size->w'.heap[p.1]?=w.heap[p.1]?):GW w':=fun p hp=>by
 obtain⟨cs,e,x,h1,h2⟩:=h p hp
 exact⟨cs,e,x,(hs p hp (Ir.1 h1).1).trans h1,h2⟩
theorem GlobOK.sized{M:Mem}(h:GlobOK M):∀p∈E1,∃v,M p.1 0=some v:=fun p hp=>by
 obtain rfl:p=(2,20):=by simpa[E1] using hp
 obtain⟨us,h1,h2⟩:=h.known (2,WL) (by simp[Y1])
 simp only[WL,repC,repA] at h2
 obtain⟨u,us',rfl,_⟩:=h2
 exact⟨u,h1 0 u rfl⟩
structure St where
 H:List (Option (List D))
 own:List (Nat×Nat×List V)
def D.one:D->Bool
 |.v x=> !x.isAgg
 |.acc .. |.ptr .. |.arr .. |.gro .. |.dfn .. =>true
 |.raw x=>x.oneCell'
 |.rv x _=> !x.isAgg
 |_=>false
def B8:Value->Option Nat
 |.slice (some a) _ cap=>if cap=0 then none else some a.block
 |_=>none
structure NoM(M:Mem)(b n:Nat):Prop where
 none:∀o,n<=o->M b o=Option.none
 ng:∀p∈E1,p.1≠b
instance {M:Mem} {b n:Nat}:CoeFun (NoM M b n) fun _=>∀o,n<=o->M b o=Option.none:=⟨NoM.none⟩
def Hf(M:Mem)(w:World)(sz:Nat)(u:Value):Prop:=
 (∃a,u=.slice a 0 0)∨∃b f len cap cur e,u=.slice (some ⟨b,f,none⟩) len cap/\w.heap[b]?=some (.cells cur e (0,0))/\len<=cap/\f+cap*sz<=cur.size/\NoM M b (f+len*sz)
structure WRep(g:Gh)(σ:St)(w:World):Prop where
 n:g.n=σ.H.length
 mem:∀b o v,g.M b o=some v->w.cell? ⟨b,o,none⟩=some v
 obj:∀i cs,σ.H[i]?=some (some cs)->∃us rest e,w.heap[g.β i]?=some (.cells (us++rest).toArray e (0,0))/\Ab g cs us/\(∀c∈cs,c.one=true)/\(∀o,g.M (g.β i) o=none)/\(us++rest).length=g.κ i
 inj:∀i j cs ds,σ.H[i]?=some (some cs)->σ.H[j]?=some (some ds)->g.β i=g.β j->i=j
 own:∀k sz xs,(k,sz,xs)∈σ.own->(0<sz/\∀x∈xs,x.size=sz)/\∃u,g.ι k xs.length=some u/\repV g.M (.list xs) u/\Hf g.M w sz u/\∀m,xs.length<m->g.ι k m=none
 tags:(σ.own.map (·.1)).Nodup
 sep:∀x∈σ.own,∀y∈σ.own,x.1≠y.1->∀u u',g.ι x.1 x.2.2.length=some u->g.ι y.1 y.2.2.length=some u'->∀b,B8 u=some b->B8 u'≠some b
 ownObj:∀x∈σ.own,∀u,g.ι x.1 x.2.2.length=some u->∀b,B8 u=some b->∀i cs,σ.H[i]?=some (some cs)->g.β i≠b
 fresh:∀k,(∀x∈σ.own,x.1≠k)->∀m,g.ι k m=none
 gl:GlobOK g.M
 gw:GW w
structure Ent where
 g:Gh
 w:World
 σ:St
def Ent.priv(E:Ent)(b:Nat):Prop:=
 (∃i cs,E.σ.H[i]?=some (some cs)/\b=E.g.β i)∨(∃x∈E.σ.own,∃u,E.g.ι x.1 x.2.2.length=some u/\B8 u=some b)
structure WI(E:Ent)(g:Gh)(σ:St)(w:World):Prop where
 rep:WRep g σ w
 M:E.g.M.le g.M
 size:E.w.heap.size<=w.heap.size
 keep:∀b,b<E.w.heap.size->¬E.priv b->w.heap[b]?=E.w.heap[b]?/\∀o,g.M b o=E.g.M b o
 os:w.os=E.w.os
 tape:w.tape=E.w.tape
 output:w.output=E.w.output
 nE:E.g.n<=g.n
 βE:∀o,o<E.g.n->g.β o=E.g.β o
 κE:∀o,o<E.g.n->g.κ o=E.g.κ o
 objs:∀i cs,σ.H[i]?=some (some cs)->E.w.heap.size<=g.β i∨E.priv (g.β i)
 owns:∀x∈σ.own,∀u,g.ι x.1 x.2.2.length=some u->∀b,B8 u=some b->E.w.heap.size<=b∨E.priv b
 drawn:AQ E.w.drawn w.drawn
structure FI(E:Ent)(g:Gh)(σ:St)(env:List D)(a:Act)(w:World):Prop where
 wi:WI E g σ w
 env:Ab g env a.tmps.toList
 defers:a.defers=[]
theorem WI.start{g:Gh}{w:World}{σ:St}(h:WRep g σ w):WI ⟨g,w,σ⟩ g σ w where
 rep:=h
 M:=Mem.le_refl _
 size:=H5 _
 keep:=fun _ _ _=>⟨rfl,fun _=>rfl⟩
 os:=rfl
 tape:=rfl
 output:=rfl
 nE:=H5 _
 βE:=fun _ _=>rfl
 κE:=fun _ _=>rfl
 objs:=fun i cs h=>.inr (.inl ⟨i,cs,h,rfl⟩)
 owns:=fun x hx u hu _ hb=>.inr (.inr ⟨x,hx,u,hu,hb⟩)
 drawn:=AQ.refl _
def Om:Value->D
 |.int k n=>.v (.int k n)
 |.bool b=>.v (.bool b)
 |.string s=>.v (.str s.data.toList)
 |.slice none 0 0=>.v (.list [])
 |.nilFunc=>.v .nilfn
 |.pointer none=>.v .nilp
 |_=>.undef
theorem JH(g:Gh)(u:Value):Ac g (Om u) u:=by
 unfold Om
 split<;>simp[Ac,Dd]
def Vh(n:Nat):D:=match Y1.find? (·.1==n) with|some p=>.v (.ref p.2)|none=>.undef
theorem Rk{g:Gh}(hG:GlobOK g.M)(n:Nat):Ac g (Vh n) (.pointer (some ⟨n,0,none⟩)):=by
 unfold Vh
 cases h:Y1.find? (·.1==n) with
 |none=>simp[Ac]
 |some p=>
  obtain⟨us,h1,h2⟩:=hG.known p (List.mem_of_find?_eq_some h)
  have h3:=List.find?_some h
  simp only[HX] at h3
  simp only[Ac,Ci]
  exact⟨n,0,us,rfl,h3▸h1,h2⟩
def evD(env:List D):Operand->D
 |.tmp t=>env.getD t .undef
 |.const u=>Om u
 |.global n=>Vh n
 |.func f=>.v (.fn f [] [])
theorem Cl{g:Gh}{env:List D}{a:Act}(h:Ab g env a.tmps.toList)(t:Nat):Ac g (evD env (.tmp t)) (a.eval (.tmp t)):=by
 simp only[evD,Act.eval]
 cases hd:env[t]? with
 |none=>rw[H6,hd];simp[Ac]
 |some d=>
  obtain⟨u,hu,hr⟩:=BJ h hd
  rw[H6,hd]
  have:a.tmps.getD t undef=u:=by
   rw[I7]
   have:a.tmps[t]?=some u:=by rw[←IQ];exact hu
   simp[this]
  rw[this];exact hr
theorem G1{g:Gh}{env:List D}{a:Act}(hG:GlobOK g.M)(h:Ab g env a.tmps.toList)(x:Operand):Ac g (evD env x) (a.eval x):=by
 cases x with
 |tmp t=>exact Cl h t
 |const u=>exact JH g u
 |global n=>exact Rk hG n
 |func f=>simp only[evD,Ac,Gx,Act.eval];exact⟨[],[],rfl,by simp[Eh],by simp[Eh]⟩
def GK(env:List D)(o:Oper):List D:=o.op.operands.toList.map (evD env)
theorem F8{g:Gh}{env:List D}{a:Act}(hG:GlobOK g.M)(h:Ab g env a.tmps.toList):∀(l:List Operand),Ab g (l.map (evD env)) (l.map a.eval)
 |[]=>by simp[Ab]
 |x::l=>by simp only[HO,Ab];exact⟨_,_,rfl,G1 hG h x,F8 hG h l⟩
def Ap(P:Program)(o:Oper)(ds:List D)(σ:St)(d:D)(σ':St):Prop:=
 ∀(E:Ent) (g:Gh) (a:Act) (w:World) (K:Act->World->Prop) (Q:Exit->Act->World->Prop),WI E g σ w->
  Ab g ds (o.op.operands.toList.map a.eval)->
  (∀g' w' u,WI E g' σ' w'->g.le g'->Ac g' d u->K (a.put o.dst u) w')->o.wp P a w K Q
theorem JG(g:Gh):Ac g (.tup []) undef:=by simp only[Ac];exact⟨[],rfl,by simp[Ab]⟩
def BU(env:List D):Option Tmp->D->List D
 |some t,d=>env.set t d
 |none,_=>env
theorem FI.put{E:Ent}{g g':Gh}{σ σ':St}{env:List D}{a:Act}{w w':World}(h:FI E g σ env a w)(hw:WI E g' σ' w')(hg:g.le g'){u:Value}{d:D}(hd:Ac g' d u)(t:Option Tmp):
  FI E g' σ' (BU env t d) (a.put t u) w':=by
 refine⟨hw,?_,?_⟩
 ·cases t with
  |none=>exact Ab.mono hg _ _ h.env
  |some t=>
   simp only[BU,Act.put,Array.toList_setIfInBounds]
   exact CU (Ab.mono hg _ _ h.env) t hd
 ·cases t<;>exact h.defers
def BP(env:List D)(ops:Array Oper)(o:Oper):Option Bool:=
 match o.guard with
 |none=>some true
 |some (j,want)=>match ((ops[j]?).bind (·.dst)).bind (env[·]?) with
  |some (.v (.bool b))=>some (b==want)
  |some (.tup _)=>some false
  |_=>none
theorem BH{g:Gh}{env:List D}{a:Act}(h:Ab g env a.tmps.toList){ops:Array Oper}{o:Oper}{b:Bool}(hw:BP env ops o=some b):
  Region.wanted o (yielded ops a.tmps)=b:=by
 unfold BP at hw
 unfold Region.wanted
 cases hg:o.guard with
 |none=>simp[hg] at hw⊢;exact hw
 |some p=>
  obtain⟨j,want⟩:=p
  simp only[hg] at hw⊢
  cases hj:(ops[j]?).bind (·.dst) with
  |none=>simp[hj] at hw
  |some t=>
   simp only[hj,Option.bind_some] at hw
   cases he:env[t]? with
   |none=>simp[he] at hw
   |some d=>
    simp only[he] at hw
    obtain⟨u,hu,hr⟩:=BJ h he
    have hu':a.tmps[t]?=some u:=by rw[←IQ];exact hu
    split at hw
    ·rename_i b' e
     simp only[HU] at e
     subst e
     simp only[Ac,Cq] at hr
     subst hr
     simp only[yielded,hj,Option.bind_some,hu']
     simp at hw
     rw[←hw]
     cases b'<;>cases want<;>rfl
    ·rename_i ds e
     simp only[HU] at e
     subst e
     simp only[Ac] at hr
     obtain⟨us,rfl,_⟩:=hr
     simp only[yielded,hj,Option.bind_some,hu']
     simp at hw
     subst hw
     rfl
    ·simp at hw
inductive KI where
 |code (c:Code)
 |blk (id:Nat)
 |lp (c:Code)
def Abz(P:Program)(c:Code)(Q:Exit->Act->World->Prop)(a:Act)(w:World):Prop:=
 ∀(b:Frame) (k:List Item) (cs:List Frame),
  ∃e a' w',Q e a' w'/\Arrives P (lone (b.at a (.code c:: .inLoop c::k)) cs w) b k cs e a' w'
def KQ(P:Program)(B:Exit->Act->World->Prop):List KI->Exit->Act->World->Prop
 |[],e,a,w=>B e a w
 |.code c::k,e,a,w=>match e with
  |.normal=>c.wp P (KQ P B k) a w
  |e=>KQ P B k e a w
 |.lp c::k,e,a,w=>match e with
  |.normal=>Abz P c (KQ P B k) a w
  |e=>KQ P B k e a w
 |.blk id::k,e,a,w=>match e with
  |.exit id'=>if id'=id then KQ P B k .normal a w else KQ P B k (.exit id') a w
  |e=>KQ P B k e a w
def A9(C:Ent->Ent->Prop)(P:Program)(R:List D->St->Prop)(k:List KI)(env:List D)(σ:St):Prop:=
 ∀(E0 E:Ent) (g:Gh) (a:Act) (w:World) (B:Exit->Act->World->Prop),C E0 E->FI E g σ env a w->
  (∀g' env' σ' a' w',FI E0 g' σ' env' a' w'->R env' σ'->B .ret a' w'/\B .normal a' w')->KQ P B k .normal a w
structure FS(C:Ent->Ent->Prop):Prop where
 ok:∀{E0 E:Ent},C E0 E->∀{g:Gh} {σ:St} {w:World},WI E g σ w->WI E0 g σ w
theorem FI.link{C:Ent->Ent->Prop}(L:FS C){E0 E:Ent}(hC:C E0 E){g:Gh}{σ:St}{env:List D}{a:Act}{w:World}(h:FI E g σ env a w):FI E0 g σ env a w:=⟨L.ok hC h.wi,h.env,h.defers⟩
section
variable {C : Ent -> Ent -> Prop} {P : Program} {R : List D -> St -> Prop} {k : List KI} {env : List D} {σ : St}
theorem Gw(L:FS C)(h:R env σ):A9 C P R [] env σ:=fun _ _ _ _ _ _ hC hf hB=>(hB _ _ _ _ _ (hf.link L hC) h).2
theorem O2{B:Exit->Act->World->Prop}{a:Act}{w:World}(h:B .ret a w):∀k:List KI,KQ P B k .ret a w
 |[]=>h
 |.code _::k=>by simp only[KQ];exact O2 h k
 |.lp _::k=>by simp only[KQ];exact O2 h k
 |.blk _::k=>by simp only[KQ];exact O2 h k
theorem Gv(L:FS C)(h:R env σ):A9 C P R (.code .ret::k) env σ:=fun _ _ _ _ _ _ hC hf hB=>by
 simp only[KQ]
 exact wp_ret (O2 (hB _ _ _ _ _ (hf.link L hC) h).1 k)
theorem Ug(h:A9 C P R k env σ):A9 C P R (.code .skip::k) env σ:=fun E0 E g a w B hC hf hB=>by
 simp only[KQ]
 exact wp_skip (h E0 E g a w B hC hf hB)
theorem QV{l:Nat}(h:A9 C P R k env σ):A9 C P R (.code (.label l)::k) env σ:=fun E0 E g a w B hC hf hB=>by
 simp only[KQ]
 exact wp_label (h E0 E g a w B hC hf hB)
theorem Xe{id:Nat}(h:A9 C P R k env σ):A9 C P R (.blk id::k) env σ:=fun E0 E g a w B hC hf hB=>by
 simp only[KQ]
 exact h E0 E g a w B hC hf hB
theorem Xc{x y:Code}(h:A9 C P R (.code x:: .code y::k) env σ):A9 C P R (.code (.seq x y)::k) env σ:=fun E0 E g a w B hC hf hB=>by
 have:=h E0 E g a w B hC hf hB
 simp only[KQ] at this⊢
 exact wp_seq (wp_mono this fun e a w q=>by cases e<;>exact q)
theorem QW{id:Nat}{c:Code}(h:A9 C P R (.code c:: .blk id::k) env σ):A9 C P R (.code (.block id c)::k) env σ:=fun E0 E g a w B hC hf hB=>by
 have:=h E0 E g a w B hC hf hB
 simp only[KQ] at this⊢
 exact wp_block (wp_mono this fun e a w q=>by cases e<;>simpa only[KQ,Exit.inBlock] using q)
theorem Ui{c:Operand}{x y:Code}{b:Bool}(hc:evD env c=.v (.bool b))(ht:b=true->A9 C P R (.code x::k) env σ)(hf:b=false->A9 C P R (.code y::k) env σ):
  A9 C P R (.code (.cond c x y)::k) env σ:=fun E0 E g a w B hC hfi hB=>by
 have hr:=G1 hfi.wi.rep.gl hfi.env c
 rw[hc] at hr
 have hr':a.eval c=.bool b:=by simpa only[Ac,Cq] using hr
 simp only[KQ]
 refine wp_cond_split hr' (fun hb=>?_) (fun hb=>?_)
 ·have:=ht hb E0 E g a w B hC hfi hB;simpa only[KQ] using this
 ·have:=hf hb E0 E g a w B hC hfi hB;simpa only[KQ] using this
theorem YK{c:Code}(h:A9 C P R (.code c:: .lp c::k) env σ):A9 C P R (.lp c::k) env σ:=fun E0 E g a w B hC hfi hB=>by
 have:=h E0 E g a w B hC hfi hB
 simp only[KQ] at this⊢
 intro b kk cs
 obtain⟨e,a₁,w₁,hq,harr⟩:=this b (.inLoop c::kk) cs
 cases e with
 |normal=>
  simp only at hq
  obtain⟨e₂,a₂,w₂,hq₂,harr₂⟩:=hq b kk cs
  exact⟨e₂,a₂,w₂,hq₂,.of_steps (Steps.trans harr (.one step_inLoop)) harr₂⟩
 |exit id=>exact⟨_,a₁,w₁,hq,.pass (x:=.inLoop c) rfl (fun _ _=>.inl (by simp)) harr⟩
 |goto l=>exact⟨_,a₁,w₁,hq,.pass (x:=.inLoop c) rfl (fun _ _=>.inl (by simp)) harr⟩
 |ret=>exact⟨_,a₁,w₁,hq,.pass (x:=.inLoop c) rfl (fun _ _=>.inl (by simp)) harr⟩
 |panic ch=>exact⟨_,a₁,w₁,hq,.pass (x:=.inLoop c) rfl (fun _ _=>.inl (by simp)) harr⟩
 |outgrown=>exact⟨_,a₁,w₁,hq,.pass (x:=.inLoop c) rfl (fun _ _=>.inl (by simp)) harr⟩
theorem run_loop{c:Code}(h:A9 C P R (.lp c::k) env σ):A9 C P R (.code (.loop c)::k) env σ:=fun E0 E g a w B hC hfi hB=>by
 have:=h E0 E g a w B hC hfi hB
 simp only[KQ] at this⊢
 intro b kk cs
 obtain⟨e,a',w',hq,harr⟩:=this b kk cs
 exact⟨e,a',w',hq,.of_steps (.one step_loop) harr⟩
def EO(id:Nat):List KI->Option (List KI)
 |[]=>none
 |.blk id'::k=>if id'=id then some k else EO id k
 |_::k=>EO id k
theorem La{B:Exit->Act->World->Prop}{a:Act}{w:World}{id:Nat}:∀{k k':List KI},EO id k=some k'->KQ P B k' .normal a w->KQ P B k (.exit id) a w
 |[],k',h,_=>by simp[EO] at h
 |.code c::k,k',h,q=>by simp only[EO] at h;simp only[KQ];exact La h q
 |.lp c::k,k',h,q=>by simp only[EO] at h;simp only[KQ];exact La h q
 |.blk id'::k,k',h,q=>by
  simp only[EO] at h
  simp only[KQ]
  by_cases e:id'=id
  ·rw[HJ e] at h
   simp at h;subst h
   rw[HJ e.symm];exact q
  ·rw[HF e] at h
   rw[HF (fun x=>e x.symm)]
   exact La h q
theorem Uh{id:Nat}{k':List KI}(hk:EO id k=some k')(h:A9 C P R k' env σ):A9 C P R (.code (.exit id)::k) env σ:=fun E0 E g a w B hC hfi hB=>by
 simp only[KQ]
 exact wp_exit (La hk (h E0 E g a w B hC hfi hB))
theorem JE{env':List D}(hl:env'.length=env.length)(he:∀(i:Nat) (d':D),env'[i]?=some d'->d'=.undef∨env[i]?=some d')(h:A9 C P R k env' σ):A9 C P R k env σ:=fun E0 E g a w B hC hfi hB=>
 h E0 E g a w B hC ⟨hfi.wi,EA hfi.env hl he,hfi.defers⟩ hB
end
def Lb(P:Program)(f:FuncId):Prop:=∃fn,P.funcs[f]?=some fn/\(fn.name=="runtime.NumGoroutine")=false/\fn.body.isNone=false
def Aa(P:Program)(f:FuncId)(ds:List D)(σ:St)(d:D)(σ':St):Prop:=
 Lb P f/\∀(g:Gh) (w:World) (args:List Value),WRep g σ w->Ab g ds args->
  Calls P f args.toArray w fun e w'=>∃u g',e=.returned u/\WI ⟨g,w,σ⟩ g' σ' w'/\Ac g' d u
def A2(P:Program)(fn:Func)(env:List D)(σ:St)(d:D)(σ':St):Prop:=
 ∀E g a w,FI E g σ env a w->E.g.n<=σ'.H.length->∃u g',(results fn a.tmps).run P w=.ok u w/\WI E g' σ' w/\Ac g' d u
def Cz(P:Program)(t:TypeId):Option (Nat×Bool):=
 match P.info? t,P.underlying t with
 |some i,some d=>some (i.size,match d with|.struct _|.array _ _=>true|_=>false)
 |_,_=>none
def VG(P:Program)(t:TypeId):Prop:=Cz P t=some (1,false)
def Nq(P:Program)(t:TypeId)(n:Nat):Prop:=Cz P t=some (n,true)
def BW(P:Program)(t:TypeId):Option (TypeId×Nat×Nat×Option Value):=
 match P.underlying t with
 |some (.slice e)=>(P.info? e).map fun i=>(e,i.size,i.bytes,i.zero)
 |_=>none
def LW(P:Program)(s:TypeId)(f:Nat):Option (Nat×Nat×Bool):=
 match P.underlying s with
 |some (.struct fs)=>(fs[f]?).bind fun x=>(Cz P x.type).map fun p=>(x.offset,p.1,p.2)
 |_=>none
def W9(P:Program)(t:TypeId):Option (Nat×Nat×Bool):=
 match P.underlying t with
 |some (.array n e)=>(Cz P e).map fun p=>(n,p.1,p.2)
 |_=>none
theorem Jo{P:Program}{t:TypeId}{n:Nat}{b:Bool}(h:Cz P t=some (n,b)):
  ∃i d,P.info? t=some i/\P.underlying t=some d/\i.size=n/\(match d with|.struct _|.array _ _=>true|_=>false)=b:=by
 unfold Cz at h
 split at h
 ·rename_i i d hi hd
  simp at h
  exact⟨i,d,hi,hd,h.1,h.2⟩
 ·simp at h
theorem BZ{P:Program}{t:TypeId}{n:Nat}{b:Bool}(h:Cz P t=some (n,b))(w:World):(isAgg t).run P w=.ok b w:=by
 obtain⟨i,d,hi,hd,_,hb⟩:=Jo h
 unfold isAgg
 rw[Sem.run_bind,run_underlying hd w]
 subst hb
 cases d<;>simp
theorem run_sizeOf'{P:Program}{t:TypeId}{n:Nat}{b:Bool}(h:Cz P t=some (n,b))(w:World):(sizeOf t).run P w=.ok n w:=by
 obtain⟨i,d,hi,hd,hn,_⟩:=Jo h
 simp[sizeOf,typeInfo,hi,hn]
theorem A8{P:Program}{t e:TypeId}{sz by':Nat}{z:Option Value}(h:BW P t=some (e,sz,by',z)):
  ∃i,P.underlying t=some (.slice e)/\P.info? e=some i/\i.size=sz/\i.bytes=by'/\i.zero=z:=by
 unfold BW at h
 split at h
 ·rename_i e' he
  cases hi:P.info? e' with
  |none=>simp[hi] at h
  |some i=>
   simp[hi] at h
   obtain⟨rfl,h1,h2,h3⟩:=h
   exact⟨i,he,hi,h1,h2,h3⟩
 ·simp at h
theorem Fr{P:Program}{s:TypeId}{f off n:Nat}{b:Bool}(h:LW P s f=some (off,n,b)):
  ∃fs x,P.underlying s=some (.struct fs)/\fs[f]?=some x/\x.offset=off/\Cz P x.type=some (n,b):=by
 unfold LW at h
 split at h
 ·rename_i fs hs
  cases hx:fs[f]? with
  |none=>simp[hx] at h
  |some x=>
   simp only[hx,Option.bind_some] at h
   cases hz:Cz P x.type with
   |none=>simp[hz] at h
   |some p=>
    simp[hz] at h
    obtain⟨h1,h2⟩:=h
    exact⟨fs,x,hs,hx,h1,by rw[hz];cases p;simp_all⟩
 ·simp at h
theorem Gk{P:Program}{t:TypeId}{len n:Nat}{b:Bool}(h:W9 P t=some (len,n,b)):
  ∃e,P.underlying t=some (.array len e)/\Cz P e=some (n,b):=by
 unfold W9 at h
 split at h
 ·rename_i l e he
  cases hz:Cz P e with
  |none=>simp[hz] at h
  |some p=>
   simp[hz] at h
   obtain⟨rfl,h2⟩:=h
   exact⟨e,he,by rw[hz];cases p;simp_all⟩
 ·simp at h
section
variable {P : Program} {o : Oper} {ds : List D} {σ σ' : St} {d : D}
theorem Ar(h:∀E g (ρ:Operand->Value) w,WI E g σ w->Ab g ds (o.op.operands.toList.map ρ)->∃u,(execOp ρ o).run P w=.ok (.value u) w/\Ac g d u):Ap P o ds σ d σ:=by
 intro E g a w K Q hw hds hK
 obtain⟨u,hr,hd⟩:=h E g a.eval w hw hds
 unfold Oper.wp
 rw[hr]
 exact hK g w u hw g.le_refl hd
theorem AM{ds':List D}(hs:∀g us,Ab g ds us->Ab g ds' us)(h:Ap P o ds' σ d σ'):Ap P o ds σ d σ':=
 fun E g a w K Q hw hds hK=>h E g a w K Q hw (hs g _ hds) hK
def D.un:D->D
 |.acc _ xs=>.v (.list xs)
 |d=>d
theorem K3{g:Gh}{d:D}{u:Value}(h:Ac g d u):Ac g d.un u:=by
 cases d<;>simp only[D.un]<;>first|exact h|(simp only[Ac] at h⊢;exact h.1)
theorem Ff{g:Gh}:∀{ds:List D} {us:List Value},Ab g ds us->Ab g (ds.map D.un) us
 |[],us,h=>by simpa using h
 |d::ds,us,h=>by
  simp only[Ab,HO] at h⊢
  obtain⟨u,us',e,h1,h2⟩:=h
  exact⟨u,us',e,K3 h1,Ff h2⟩
theorem X3(h:Ap P o (ds.map D.un) σ d σ'):Ap P o ds σ d σ':=AM (fun _ _=>Ff) h
theorem Av{g:Gh}{d:D}{us:List Value}:Ab g [d] us↔∃u,us=[u]/\Ac g d u:=by
 simp only[Ab]
 constructor
 ·rintro ⟨u,us',rfl,h,rfl⟩;exact⟨u,rfl,h⟩
 ·rintro ⟨u,rfl,h⟩;exact⟨u,[],rfl,h,rfl⟩
theorem Am{g:Gh}{d e:D}{us:List Value}:Ab g [d,e] us↔∃u v,us=[u,v]/\Ac g d u/\Ac g e v:=by
 simp only[Ab]
 constructor
 ·rintro ⟨u,us',rfl,h,v,us'',rfl,h',rfl⟩;exact⟨u,v,rfl,h,h'⟩
 ·rintro ⟨u,v,rfl,h,h'⟩;exact⟨u,[v],rfl,h,v,[],rfl,h',rfl⟩
theorem DW{g:Gh}{d e f:D}{us:List Value}:Ab g [d,e,f] us↔∃u v x,us=[u,v,x]/\Ac g d u/\Ac g e v/\Ac g f x:=by
 constructor
 ·intro h
  simp only[Ab] at h
  obtain⟨u,us',rfl,h,v,us'',rfl,h',x,us3,rfl,h'',rfl⟩:=h
  exact⟨u,v,x,rfl,h,h',h''⟩
 ·rintro ⟨u,v,x,rfl,h,h',h''⟩
  simp only[Ab]
  exact⟨u,[v,x],rfl,h,v,[x],rfl,h',x,[],rfl,h'',rfl⟩
theorem Xv{x:Operand}(ho:o.op=.move x):Ap P o [d] σ d σ:=by
 refine Ar fun E g ρ w hw hds=>?_
 simp only[ho,Op.operands,Av] at hds
 obtain⟨u,e,hd⟩:=hds
 simp at e
 exact⟨u,by simp[execOp,ho,e],hd⟩
theorem RV{x:Operand}(ho:o.op=.assign x):Ap P o [d] σ d σ:=by
 refine Ar fun E g ρ w hw hds=>?_
 simp only[ho,Op.operands,Av] at hds
 obtain⟨u,e,hd⟩:=hds
 simp at e
 exact⟨u,by simp[execOp,ho,e],hd⟩
theorem RG{c x y:Operand}(ho:o.op=.pick c x y){b:Bool}{d1 d2:D}:Ap P o [.v (.bool b),d1,d2] σ (if b then d1 else d2) σ:=by
 refine Ar fun E g ρ w hw hds=>?_
 simp only[ho,Op.operands,DW] at hds
 obtain⟨u,v,z,e,h1,h2,h3⟩:=hds
 simp only[HO,Iu,HB,HZ] at e
 obtain⟨e1,e2,e3⟩:=e
 simp only[Ac,Cq] at h1
 refine⟨if b then v else z,?_,?_⟩
 ·simp only[execOp,ho,e1,h1,e2,e3]
  cases b<;>simp[asBool]
 ·cases b<;>simp[h2,h3]
def Aba(op:BinOp)(k:IntKind)(a b:Int):Option V:=
 match op with
 |.add=>some (.int k (k.wrap (a+b)))
 |.sub=>some (.int k (k.wrap (a-b)))
 |.mul=>some (.int k (k.wrap (a*b)))
 |.and=>some (.int k (k.wrap (BitVec.ofInt k.bits a&&&BitVec.ofInt k.bits b).toNat))
 |.or=>some (.int k (k.wrap (BitVec.ofInt k.bits a|||BitVec.ofInt k.bits b).toNat))
 |.xor=>some (.int k (k.wrap (BitVec.ofInt k.bits a^^^BitVec.ofInt k.bits b).toNat))
 |.andNot=>some (.int k (k.wrap (BitVec.ofInt k.bits a&&& ~~~BitVec.ofInt k.bits b).toNat))
 |.eql=>some (.bool (a==b))
 |.neq=>some (.bool (a !=b))
 |.lss=>some (.bool (a<b))
 |.leq=>some (.bool (a<=b))
 |.gtr=>some (.bool (a>b))
 |.geq=>some (.bool (a>=b))
 |_=>none
theorem X2{op:BinOp}{t ty:TypeId}{x y:Operand}(ho:o.op=.binOp op t x y ty){k:IntKind}{a b:Int}{r:V}(hr:Aba op k a b=some r):
  Ap P o [.v (.int k a),.v (.int k b)] σ (.v r) σ:=by
 refine Ar fun E g ρ w hw hds=>?_
 simp only[ho,Op.operands,Am] at hds
 obtain⟨u,v,e,h1,h2⟩:=hds
 simp only[HO,Iu,HB,HZ] at e
 obtain⟨e1,e2⟩:=e
 simp only[Ac,As] at h1 h2
 subst h1 h2
 cases op<;>simp only[Aba,HU,reduceCtorEq] at hr<;>subst hr<;>
  simp[execOp,ho,e1,e2,eqGuard,binOp,Op.intArith,Op.intBits,Op.intCmp,Ac]
def Abi(op:BinOp)(k:IntKind)(a b:Int):Option V:=
 match op with
 |.quo=>some (.int k (k.wrap (a.tdiv b)))
 |.rem=>some (.int k (a.tmod b))
 |_=>none
theorem RF{op:BinOp}{t ty:TypeId}{x y:Operand}(ho:o.op=.binOp op t x y ty){k:IntKind}{a b:Int}{r:V}(hr:Abi op k a b=some r)(hb:b≠0):
  Ap P o [.v (.int k a),.v (.int k b)] σ (.v r) σ:=by
 refine Ar fun E g ρ w hw hds=>?_
 simp only[ho,Op.operands,Am] at hds
 obtain⟨u,v,e,h1,h2⟩:=hds
 simp only[HO,Iu,HB,HZ] at e
 obtain⟨e1,e2⟩:=e
 simp only[Ac,As] at h1 h2
 subst h1 h2
 cases op<;>simp only[Abi,HU,reduceCtorEq] at hr<;>subst hr<;>
  simp[execOp,ho,e1,e2,eqGuard,binOp,Op.intDiv,hb,Ac]
def shI(op:BinOp)(k:IntKind)(a b:Int):Option V:=
 match op with
 |.shl=>some (.int k (k.wrap (a*2^(min b.toNat k.bits))))
 |.shr=>some (.int k (a.fdiv (2^(min b.toNat k.bits))))
 |_=>none
theorem Wh{op:BinOp}{t ty:TypeId}{x y:Operand}(ho:o.op=.binOp op t x y ty){k k':IntKind}{a b:Int}{r:V}(hr:shI op k a b=some r)(hb:0<=b):
  Ap P o [.v (.int k a),.v (.int k' b)] σ (.v r) σ:=by
 refine Ar fun E g ρ w hw hds=>?_
 simp only[ho,Op.operands,Am] at hds
 obtain⟨u,v,e,h1,h2⟩:=hds
 simp only[HO,Iu,HB,HZ] at e
 obtain⟨e1,e2⟩:=e
 simp only[Ac,As] at h1 h2
 subst h1 h2
 have hb':¬b<0:=by omega
 cases op<;>simp only[shI,HU,reduceCtorEq] at hr<;>subst hr<;>
  simp[execOp,ho,e1,e2,eqGuard,binOp,Op.shift,hb',Ac]
def Aac(op:BinOp)(a b:List UInt8):Option V:=
 match op with
 |.eql=>some (.bool (a==b))
 |.neq=>some (.bool !(a==b))
 |.lss=>some (.bool (Op.bytesLess a b))
 |.leq=>some (.bool (Op.bytesLess a b||a==b))
 |.gtr=>some (.bool !(Op.bytesLess a b||a==b))
 |.geq=>some (.bool !(Op.bytesLess a b))
 |_=>none
theorem ME(l:List UInt8):ByteArray.size ⟨l.toArray⟩=l.length:=by simp[ByteArray.size]
theorem X1{op:BinOp}{t ty:TypeId}{x y:Operand}(ho:o.op=.binOp op t x y ty){a b:List UInt8}{r:V}(hr:Aac op a b=some r):
  Ap P o [.v (.str a),.v (.str b)] σ (.v r) σ:=by
 refine Ar fun E g ρ w hw hds=>?_
 simp only[ho,Op.operands,Am] at hds
 obtain⟨u,v,e,h1,h2⟩:=hds
 simp only[HO,Iu,HB,HZ] at e
 obtain⟨e1,e2⟩:=e
 simp only[Ac,AI] at h1 h2
 subst h1 h2
 cases op<;>simp only[Aac,HU,reduceCtorEq] at hr<;>subst hr<;>
  simp[execOp,ho,e1,e2,eqGuard,binOp,Op.stringOp,Ac]
theorem RS{t ty:TypeId}{x y:Operand}(ho:o.op=.binOp .add t x y ty){a b:List UInt8}(hl:a.length+b.length<=9223372036854775807):
  Ap P o [.v (.str a),.v (.str b)] σ (.v (.str (a++b))) σ:=by
 refine Ar fun E g ρ w hw hds=>?_
 simp only[ho,Op.operands,Am] at hds
 obtain⟨u,v,e,h1,h2⟩:=hds
 simp only[HO,Iu,HB,HZ] at e
 obtain⟨e1,e2⟩:=e
 simp only[Ac,AI] at h1 h2
 subst h1 h2
 have hs:∀l:List UInt8,ByteArray.size ⟨l.toArray⟩=l.length:=fun l=>by simp[ByteArray.size]
 have hn:¬(((a.length+b.length:Nat):Int)>IntKind.i64.max):=by
  have:IntKind.i64.max=9223372036854775807:=by decide
  rw[this];omega
 refine⟨.string ⟨(a++b).toArray⟩,?_,by simp[Ac]⟩
 have hap:(⟨a.toArray⟩:ByteArray)++⟨b.toArray⟩=⟨(a++b).toArray⟩:=by
  apply ByteArray.ext
  simp[ByteArray.data_append]
 simp only[execOp,ho,e1,e2,binOp,Op.stringOp,hs,hn,if_false,hap]
 simp[eqGuard]
theorem RR{op:BinOp}{t ty:TypeId}{x y:Operand}(ho:o.op=.binOp op t x y ty)(hu:P.underlying t=some .bool){a b:Bool}(hop:op=.eql∨op=.neq):
  Ap P o [.v (.bool a),.v (.bool b)] σ (.v (.bool (if op=.eql then a==b else a !=b))) σ:=by
 refine Ar fun E g ρ w hw hds=>?_
 simp only[ho,Op.operands,Am] at hds
 obtain⟨u,v,e,h1,h2⟩:=hds
 simp only[HO,Iu,HB,HZ] at e
 obtain⟨e1,e2⟩:=e
 simp only[Ac,Cq] at h1 h2
 subst h1 h2
 have heq:(Op.equal t (.bool a) (.bool b)).run P w=.ok (a==b) w:=by
  have gen:∀d,(Op.equalIn (d+1) t (.bool a) (.bool b)).run P w=.ok (a==b) w:=fun d=>by
   simp only[Op.equalIn,Sem.run_bind,run_underlying hu,Result.andThen_ok]
   rfl
  exact gen 9999
 refine⟨.bool (if op=.eql then a==b else a !=b),?_,by simp[Ac]⟩
 rcases hop with rfl|rfl<;>
  simp[execOp,ho,e1,e2,eqGuard,binOp,heq,bne]
def unI(op:UnOp)(x:V):Option V:=
 match op,x with
 |.not,.bool b=>some (.bool !b)
 |.neg,.int k n=>some (.int k (k.wrap (0-n)))
 |_,_=>none
theorem Aap{op:UnOp}{t:TypeId}{x:Operand}(ho:o.op=.unOp op t x){a r:V}(hr:unI op a=some r):Ap P o [.v a] σ (.v r) σ:=by
 refine Ar fun E g ρ w hw hds=>?_
 simp only[ho,Op.operands,Av] at hds
 obtain⟨u,e,h1⟩:=hds
 simp at e
 unfold unI at hr
 split at hr
 ·simp at hr;subst hr
  simp only[Ac,Cq] at h1
  exact⟨_,by simp[execOp,ho,e,h1,Op.unary];rfl,by simp[Ac]⟩
 ·simp only[HU] at hr;subst hr
  simp only[Ac,As] at h1
  exact⟨_,by simp only[execOp,ho,e,h1,Op.unary,Op.intArith];rfl,by simp[Ac]⟩
 ·simp at hr
theorem UA{src dst:TypeId}{x:Operand}(ho:o.op=.convert src dst x){k k':IntKind}{n:Int}{ds':TypeDesc}(hs:P.underlying src=some ds')(hd:P.underlying dst=some (.int k')):
  Ap P o [.v (.int k n)] σ (.v (.int k' (k'.wrap n))) σ:=by
 refine Ar fun E g ρ w hw hds=>?_
 simp only[ho,Op.operands,Av] at hds
 obtain⟨u,e,h1⟩:=hds
 simp at e
 simp only[Ac,As] at h1
 refine⟨.int k' (k'.wrap n),?_,by simp[Ac]⟩
 simp only[execOp,ho,e,h1,convert,Sem.run_bind,run_underlying hs,run_underlying hd,Result.andThen_ok,Conv.intToInt]
 rfl
theorem OW{x:Operand}{i:Nat}(ho:o.op=.extract x i){ds:List D}(hd:ds[i]?=some d):Ap P o [.tup ds] σ d σ:=by
 refine Ar fun E g ρ w hw hds=>?_
 simp only[ho,Op.operands,Av] at hds
 obtain⟨u,e,h1⟩:=hds
 simp at e
 simp only[Ac] at h1
 obtain⟨us,rfl,h2⟩:=h1
 obtain⟨u,hu,h3⟩:=BJ h2 hd
 exact⟨u,by simp[execOp,ho,e,Instr.extract,hu],h3⟩
theorem Jt{x:Operand}(ho:o.op=.nilCheck x){q off:Nat}:Ap P o [.ptr q off] σ (.ptr q off) σ:=by
 refine Ar fun E g ρ w hw hds=>?_
 simp only[ho,Op.operands,Av] at hds
 obtain⟨u,e,h1⟩:=hds
 simp at e
 refine⟨u,?_,h1⟩
 simp only[Ac] at h1
 simp[execOp,ho,e,h1.2]
theorem Js{x:Operand}(ho:o.op=.nilCheck x){y:V}:Ap P o [.v (.ref y)] σ (.v (.ref y)) σ:=by
 refine Ar fun E g ρ w hw hds=>?_
 simp only[ho,Op.operands,Av] at hds
 obtain⟨u,e,h1⟩:=hds
 simp at e
 refine⟨u,?_,h1⟩
 simp only[Ac,Ci] at h1
 obtain⟨b,off,us,rfl,_⟩:=h1
 simp[execOp,ho,e]
theorem RK{x:Operand}{t:TypeId}(ho:o.op=.call { callee:=.builtin .len,args:= #[x],argTypes:= #[t]}){e:TypeId}(ht:P.underlying t=some (.slice e)){xs:List V}:
  Ap P o [.v (.list xs)] σ (.v (.int .i64 xs.length)) σ:=by
 refine Ar fun E g ρ w hw hds=>?_
 simp only[ho,Op.operands,Call.operands,Av] at hds
 obtain⟨u,e,h1⟩:=hds
 simp at e
 simp only[Ac,AJ] at h1
 obtain⟨a,cap,rfl,_⟩:=h1
 exact⟨_,by simp[execOp,ho,e,resolve,invoke,builtin,Builtin.len_,run_underlying ht,goInt];rfl,by simp[Ac]⟩
theorem RL{x:Operand}{t:TypeId}(ho:o.op=.call { callee:=.builtin .len,args:= #[x],argTypes:= #[t]}){e:TypeId}(ht:P.underlying t=some (.slice e)){q off len:Nat}:
  Ap P o [.arr q off len] σ (.v (.int .i64 len)) σ:=by
 refine Ar fun E g ρ w hw hds=>?_
 simp only[ho,Op.operands,Call.operands,Av] at hds
 obtain⟨u,e,h1⟩:=hds
 simp at e
 simp only[Ac] at h1
 obtain⟨_,cap,_,rfl⟩:=h1
 exact⟨_,by simp[execOp,ho,e,resolve,invoke,builtin,Builtin.len_,run_underlying ht,goInt];rfl,by simp[Ac]⟩
theorem Xw{x:Operand}{t:TypeId}(ho:o.op=.call { callee:=.builtin .len,args:= #[x],argTypes:= #[t]})(ht:P.underlying t=some .string){s:List UInt8}:
  Ap P o [.v (.str s)] σ (.v (.int .i64 s.length)) σ:=by
 refine Ar fun E g ρ w hw hds=>?_
 simp only[ho,Op.operands,Call.operands,Av] at hds
 obtain⟨u,e,h1⟩:=hds
 simp at e
 simp only[Ac,AI] at h1
 subst h1
 exact⟨_,by simp[execOp,ho,e,resolve,invoke,builtin,Builtin.len_,run_underlying ht,goInt,ME];rfl,by simp[Ac]⟩
theorem Za{x y:Operand}{ts:Array TypeId}(ho:o.op=.call { callee:=.builtin .max,args:= #[x,y],argTypes:=ts }){k:IntKind}{a b:Int}:
  Ap P o [.v (.int k a),.v (.int k b)] σ (.v (.int k (if b>a then b else a))) σ:=by
 refine Ar fun E g ρ w hw hds=>?_
 simp only[ho,Op.operands,Call.operands] at hds
 have hds':=Am.1 (by simpa using hds)
 obtain⟨u,v,e,h1,h2⟩:=hds'
 simp only[HB,HZ] at e
 simp only[Ac,As] at h1 h2
 exact⟨_,by simp[execOp,ho,e.1,e.2,h1,h2,resolve,invoke,builtin,Builtin.max_,Builtin.max2];rfl,by simp[Ac]⟩
theorem YZ{x y:Operand}{ts:Array TypeId}(ho:o.op=.call { callee:=.builtin .min,args:= #[x,y],argTypes:=ts }){k:IntKind}{a b:Int}:
  Ap P o [.v (.int k a),.v (.int k b)] σ (.v (.int k (if b<a then b else a))) σ:=by
 refine Ar fun E g ρ w hw hds=>?_
 simp only[ho,Op.operands,Call.operands] at hds
 have hds':=Am.1 (by simpa using hds)
 obtain⟨u,v,e,h1,h2⟩:=hds'
 simp only[HB,HZ] at e
 simp only[Ac,As] at h1 h2
 exact⟨_,by simp[execOp,ho,e.1,e.2,h1,h2,resolve,invoke,builtin,Builtin.min_,Builtin.min2];rfl,by simp[Ac]⟩
end
section
variable {M : Mem}
theorem NJ:∀{cs:List V} {us:List Value},repA M cs us->∀{i:Nat} {c:V},cs[i]?=some c->∃u,us[i]?=some u/\c.isAgg=false/\repC M c [u]
 |[],us,h,i,c,hc=>by simp at hc
 |c0::cs,us,h,i,c,hc=>by
  simp only[repA] at h
  obtain⟨u,us',rfl,ha,h1,h2⟩:=h
  cases i with
  |zero=>simp at hc;subst hc;exact⟨u,by simp,ha,h1⟩
  |succ i=>simp at hc;obtain⟨u',e,h3⟩:=NJ h2 hc;exact⟨u',by simpa using e,h3⟩
theorem FA:∀{cs:List V} {us:List Value},repA M cs us->∀(n:Nat),repA M (cs.drop n) (us.drop n)
 |[],us,h,n=>by simp only[repA] at h;simp[h,repA]
 |c0::cs,us,h,n=>by
  cases n with
  |zero=>simpa using h
  |succ n=>
   simp only[repA] at h
   obtain⟨u,us',rfl,ha,h1,h2⟩:=h
   simpa using FA h2 n
theorem F9:∀{cs:List V} {us:List Value},repA M cs us->∀(n:Nat),repA M (cs.take n) (us.take n)
 |[],us,h,n=>by simp only[repA] at h;simp[h,repA]
 |c0::cs,us,h,n=>by
  cases n with
  |zero=>simp[repA]
  |succ n=>
   simp only[repA] at h
   obtain⟨u,us',rfl,ha,h1,h2⟩:=h
   simp only[take_succ_cons,repA]
   exact⟨u,_,rfl,ha,h1,F9 h2 n⟩
theorem AU{sz:Nat}:∀{xs:List V} {us:List Value},repE M sz xs us->us.length=xs.length*sz
 |[],us,h=>by simp only[repE] at h;simp[h]
 |x::xs,us,h=>by
  simp only[repE] at h
  obtain⟨u1,u2,rfl,hl,h1,h2⟩:=h
  simp[AU h2,hl,I8,Nat.add_comm]
theorem G0{sz:Nat}:∀{xs:List V} {us:List Value},repE M sz xs us->∀{i:Nat} {x:V},xs[i]?=some x->
  ∃u1,repC M x u1/\u1.length=sz/\∀j v,u1[j]?=some v->us[i*sz+j]?=some v
 |[],us,h,i,c,hc=>by simp at hc
 |x0::xs,us,h,i,x,hc=>by
  simp only[repE] at h
  obtain⟨u1,u2,rfl,hl,h1,h2⟩:=h
  cases i with
  |zero=>
   simp at hc;subst hc
   refine⟨u1,h1,hl,fun j v hj=>?_⟩
   have:j<u1.length:=(H0.1 hj).1
   rw[Nat.zero_mul,Ih,HK this];exact hj
  |succ i=>
   simp at hc
   obtain⟨u',hr,hl',hg⟩:=G0 h2 hc
   refine⟨u',hr,hl',fun j v hj=>?_⟩
   have e:(i+1)*sz+j=u1.length+(i*sz+j):=by rw[hl,I8];omega
   rw[e,HH (by omega)]
   have:u1.length+(i*sz+j)-u1.length=i*sz+j:=by omega
   rw[this];exact hg j v hj
theorem L3{sz:Nat}:∀{xs:List V} {us:List Value},repE M sz xs us->∀(n:Nat),repE M sz (xs.drop n) (us.drop (n*sz))
 |[],us,h,n=>by simp only[repE] at h;simp[h,repE]
 |x::xs,us,h,n=>by
  cases n with
  |zero=>simpa using h
  |succ n=>
   simp only[repE] at h
   obtain⟨u1,u2,rfl,hl,h1,h2⟩:=h
   have:=L3 h2 n
   have e:(n+1)*sz=u1.length+n*sz:=by rw[hl,I8];omega
   have e2:(u1++u2).drop (u1.length+n*sz)=u2.drop (n*sz):=by
    rw[List.drop_append,HI (Nat.le_add_right u1.length (n*sz)),nil_append,Nat.add_sub_cancel_left]
   rw[e,e2]
   exact this
theorem Lz{sz:Nat}:∀{xs:List V} {us:List Value},repE M sz xs us->∀(n:Nat),repE M sz (xs.take n) (us.take (n*sz))
 |[],us,h,n=>by simp only[repE] at h;simp[h,repE]
 |x::xs,us,h,n=>by
  cases n with
  |zero=>simp[repE]
  |succ n=>
   simp only[repE] at h
   obtain⟨u1,u2,rfl,hl,h1,h2⟩:=h
   simp only[take_succ_cons,repE]
   have e:(n+1)*sz=u1.length+n*sz:=by rw[hl,I8];omega
   refine⟨u1,u2.take (n*sz),?_,hl,h1,Lz h2 n⟩
   rw[e,List.take_append,HQ (Nat.le_add_right _ _),Nat.add_sub_cancel_left]
theorem GC{b off:Nat}{us:List Value}(h:inM M b off us)(n:Nat):inM M b (off+n) (us.drop n):=fun j v hj=>by
 rw[getElem?_drop] at hj
 rw[Nat.add_assoc];exact h _ v hj
theorem GB{b off:Nat}{us:List Value}(h:inM M b off us)(n:Nat):inM M b off (us.take n):=fun j v hj=>by
 rw[IJ] at hj
 split at hj
 ·exact h j v hj
 ·simp at hj
end
def EJ(cs:List V)(fo n:Nat)(b:Bool):Option V:=if b then(if fo+n<=cs.length then some (.agg ((cs.drop fo).take n)) else none) else cs[fo]?
theorem Ht{M:Mem}{cs:List V}{us:List Value}{fo n:Nat}{b:Bool}{x:V}(h:EJ cs fo n b=some x)(hr:repA M cs us)(hn:b=false->n=1):
  repC M x ((us.drop fo).take n)/\x.isAgg=b/\((us.drop fo).take n).length=n:=by
 have hl:=C9 hr
 unfold EJ at h
 cases b with
 |true=>
  simp only[I6] at h
  split at h
  ·simp at h;subst h
   refine⟨?_,rfl,by simp;omega⟩
   simp only[repC]
   exact F9 (FA hr fo) n
  ·simp at h
 |false=>
  simp only[IV,if_false] at h
  obtain⟨u,hu,ha,hc⟩:=NJ hr h
  obtain rfl:=hn rfl
  have:(us.drop fo).take 1=[u]:=by
   have hlt:fo<us.length:=(H0.1 hu).1
   rw[HD hlt,take_succ_cons,List.take_zero]
   rw[(H0.1 hu).2]
  rw[this]
  exact⟨hc,ha,rfl⟩
def D.toV:D->Option V
 |.v x=>some x
 |.acc _ xs=>some (.list xs)
 |_=>none
def Dk:List D->Option (List V)
 |[]=>some []
 |d::ds=>match d.toV,Dk ds with
  |some x,some xs=>some (x::xs)
  |_,_=>none
theorem F5{g:Gh}{d:D}{x:V}{u:Value}(h:d.toV=some x)(hr:Ac g d u):repV g.M x u:=by
 cases d<;>simp[D.toV] at h<;>subst h
 ·simpa[Ac] using hr
 ·simp only[Ac] at hr;exact hr.1
theorem Gt{g:Gh}:∀{ds:List D} {xs:List V} {us:List Value},Dk ds=some xs->Ab g ds us->(∀c∈ds,c.one=true)->repA g.M xs us
 |[],xs,us,h,hr,_=>by simp[Dk] at h;subst h;simpa[Ab,repA] using hr
 |d::ds,xs,us,h,hr,h1=>by
  simp only[Dk] at h
  split at h
  ·rename_i x xs' hx hxs
   simp at h;subst h
   simp only[Ab] at hr
   obtain⟨u,us',rfl,h2,h3⟩:=hr
   simp only[repA]
   have hxa:x.isAgg=false:=by
    have:=h1 d (by simp)
    cases d<;>simp[D.toV] at hx<;>subst hx<;>simp_all [D.one,V.isAgg]
   exact⟨u,us',rfl,hxa,(AT hxa).1 (F5 hx h2),Gt hxs h3 (fun c hc=>h1 c (by simp[hc]))⟩
  ·simp at h
section
variable {P : Program} {o : Oper} {σ : St} {d : D}
theorem D4{E:Ent}{g:Gh}{w:World}(hw:WI E g σ w){b off:Nat}{us:List Value}(h:inM g.M b off us):∀j v,us[j]?=some v->w.cell? ((⟨b,off,none⟩:Addr).add j)=some v:=fun j v hj=>by
 rw[Addr.add_lit];exact hw.rep.mem _ _ _ (h j v hj)
theorem RH{t:TypeId}{a:Operand}(ho:o.op=.load t a)(ht:VG P t){x:V}(hx:x.isAgg=false):Ap P o [.v (.ref x)] σ (.v x) σ:=by
 refine Ar fun E g ρ w hw hds=>?_
 simp only[ho,Op.operands,Av] at hds
 obtain⟨u,e,h1⟩:=hds
 simp at e
 simp only[Ac,Ci] at h1
 obtain⟨b,off,us,rfl,hi,hr⟩:=h1
 obtain⟨u',rfl,hm,_⟩:=Cm hx hr
 have hc:w.cell? ⟨b,off,none⟩=some u':=by have:=hw.rep.mem _ _ _ (hi 0 u' (by simp));simpa using this
 refine⟨u',?_,by simp only[Ac];exact(AT hx).2 hr⟩
 simp[execOp,ho,e,Instr.loadAt,Instr.sureAddr,loadVar,BZ ht,hc]
theorem LH{t:TypeId}{a:Operand}(ho:o.op=.load t a){cs:List V}(ht:Nq P t cs.length):Ap P o [.v (.ref (.agg cs))] σ (.v (.agg cs)) σ:=by
 refine Ar fun E g ρ w hw hds=>?_
 simp only[ho,Op.operands,Av] at hds
 obtain⟨u,e,h1⟩:=hds
 simp at e
 simp only[Ac,Ci] at h1
 obtain⟨b,off,us,rfl,hi,hr⟩:=h1
 simp only[repC] at hr
 have hl:=C9 hr
 have hld:=run_loadCells_list (P:=P) w ⟨b,off,none⟩ us (D4 hw hi)
 rw[hl] at hld
 refine⟨.agg us.toArray,?_,by simp only[Ac,BR];exact⟨us,hr,rfl⟩⟩
 simp[execOp,ho,e,Instr.loadAt,Instr.sureAddr,loadVar,BZ ht,run_sizeOf' ht,hld]
theorem RJ{t:TypeId}{a:Operand}(ho:o.op=.load t a)(ht:VG P t){q off:Nat}{cs:List D}(hH:σ.H[q]?=some (some cs))(hc:cs[off]?=some d):Ap P o [.ptr q off] σ d σ:=by
 refine Ar fun E g ρ w hw hds=>?_
 simp only[ho,Op.operands,Av] at hds
 obtain⟨u,e,h1⟩:=hds
 simp at e
 simp only[Ac] at h1
 obtain⟨_,rfl⟩:=h1
 obtain⟨us,rest,et,hb,hr,_,_⟩:=hw.rep.obj q cs hH
 obtain⟨u',hu,hd⟩:=BJ hr hc
 have hcell:w.cell? ⟨g.β q,off,none⟩=some u':=by simp only[World.cell?,hb,I1];exact Dw hu
 refine⟨u',?_,hd⟩
 simp[execOp,ho,e,Instr.loadAt,Instr.sureAddr,loadVar,BZ ht,hcell]
theorem Ck{g:Gh}:∀{cs:List D} {us:List Value},Ab g cs us->∀(n:Nat),Ab g (cs.drop n) (us.drop n)
 |[],us,h,n=>by simp only[Ab] at h;simp[h,Ab]
 |c0::cs,us,h,n=>by
  cases n with
  |zero=>simpa using h
  |succ n=>
   simp only[Ab] at h
   obtain⟨u,us',rfl,h1,h2⟩:=h
   simpa using Ck h2 n
theorem Cj{g:Gh}:∀{cs:List D} {us:List Value},Ab g cs us->∀(n:Nat),Ab g (cs.take n) (us.take n)
 |[],us,h,n=>by simp only[Ab] at h;simp[h,Ab]
 |c0::cs,us,h,n=>by
  cases n with
  |zero=>simp[Ab]
  |succ n=>
   simp only[Ab] at h
   obtain⟨u,us',rfl,h1,h2⟩:=h
   simp only[take_succ_cons,Ab]
   exact⟨u,_,rfl,h1,Cj h2 n⟩
theorem LI{t:TypeId}{a:Operand}(ho:o.op=.load t a){n:Nat}(ht:Nq P t n){q off:Nat}{cs:List D}(hH:σ.H[q]?=some (some cs)){xs:List V}
  (hn:off+n<=cs.length) (hc:Dk ((cs.drop off).take n)=some xs):Ap P o [.ptr q off] σ (.v (.agg xs)) σ:=by
 refine Ar fun E g ρ w hw hds=>?_
 simp only[ho,Op.operands,Av] at hds
 obtain⟨u,e,h1⟩:=hds
 simp at e
 simp only[Ac] at h1
 obtain⟨_,rfl⟩:=h1
 obtain⟨us,rest,et,hb,hr,h1,_⟩:=hw.rep.obj q cs hH
 have hra:=Gt hc (Cj (Ck hr off) n) (fun c hc'=>h1 c (List.mem_of_mem_drop (List.mem_of_mem_take hc')))
 have hl:us.length=cs.length:=A7 hr
 have hld:=run_loadCells_list (P:=P) w ⟨g.β q,off,none⟩ ((us.drop off).take n) (fun j v hj=>by
  rw[IJ] at hj
  split at hj
  ·rw[getElem?_drop] at hj
   rw[Addr.add_lit]
   simp only[World.cell?,hb,I1];exact Dw hj
  ·simp at hj)
 have hlen:((us.drop off).take n).length=n:=by simp;omega
 rw[hlen] at hld
 refine⟨.agg ((us.drop off).take n).toArray,?_,by simp only[Ac,BR];exact⟨_,hra,rfl⟩⟩
 simp only[execOp,ho,e,Instr.loadAt,Instr.sureAddr,loadVar,Sem.run_bind,Sem.run_pure,Result.andThen_ok,BZ ht,run_sizeOf' ht,hld,I6]
theorem RP{s:TypeId}{x:Operand}{f:Nat}(ho:o.op=.fieldAddr s x f){fo n:Nat}{b:Bool}(hf:LW P s f=some (fo,n,b))(hn:n≠0){q off:Nat}:Ap P o [.ptr q off] σ (.ptr q (off+fo)) σ:=by
 refine Ar fun E g ρ w hw hds=>?_
 simp only[ho,Op.operands,Av] at hds
 obtain⟨u,e,h1⟩:=hds
 simp at e
 simp only[Ac] at h1
 obtain⟨hq,rfl⟩:=h1
 obtain⟨fs,y,hs,hy,hoff,hz⟩:=Fr hf
 refine⟨.pointer (some ⟨g.β q,off+fo,none⟩),?_,by simp[Ac,hq]⟩
 simp[execOp,ho,e,Instr.fieldAt,run_underlying hs,hy,Instr.sureAddr,fieldPlace,run_sizeOf' hz,hn,Addr.add_lit,hoff]
theorem RO{s:TypeId}{x:Operand}{f:Nat}(ho:o.op=.fieldAddr s x f){fo n:Nat}{b:Bool}(hf:LW P s f=some (fo,n,b))(hn:n≠0)(hn1:b=false->n=1){cs:List V}{y:V}(hp:EJ cs fo n b=some y):
  Ap P o [.v (.ref (.agg cs))] σ (.v (.ref y)) σ:=by
 refine Ar fun E g ρ w hw hds=>?_
 simp only[ho,Op.operands,Av] at hds
 obtain⟨u,e,h1⟩:=hds
 simp at e
 simp only[Ac,Ci] at h1
 obtain⟨bb,off,us,rfl,hi,hr⟩:=h1
 obtain⟨fs,z,hs,hy,hoff,hz⟩:=Fr hf
 simp only[repC] at hr
 obtain⟨h3,_,_⟩:=Ht hp hr hn1
 refine⟨.pointer (some ⟨bb,off+fo,none⟩),?_,by simp only[Ac,Ci];exact⟨bb,off+fo,_,rfl,GB (GC hi fo) n,h3⟩⟩
 simp[execOp,ho,e,Instr.fieldAt,run_underlying hs,hy,Instr.sureAddr,fieldPlace,run_sizeOf' hz,hn,Addr.add_lit,hoff]
theorem NF{M:Mem}{t:TypeId}{n:Nat}{b:Bool}(hz:Cz P t=some (n,b)){cs:List V}{us:List Value}{fo:Nat}{y:V}(hp:EJ cs fo n b=some y)(hr:repA M cs us)(hn1:b=false->n=1)(w:World):
  ∃u,(part t us.toArray fo).run P w=.ok u w/\repV M y u:=by
 obtain⟨h3,ha,hl⟩:=Ht hp hr hn1
 cases b with
 |true=>
  refine⟨.agg ((us.drop fo).take n).toArray,?_,?_⟩
  ·simp only[part,Sem.run_bind,BZ hz,run_sizeOf' hz,Result.andThen_ok,I6,Sem.run_pure]
   congr 2
   apply Iz
   simp[List.extract_eq_take_drop]
  ·cases y with
   |agg cs'=>simp only[BR];exact⟨_,by simpa only[repC] using h3,rfl⟩
   |_=>simp[V.isAgg] at ha
 |false=>
  obtain⟨u,e1,_,_⟩:=Cm ha h3
  obtain rfl:=hn1 rfl
  have hu:us[fo]?=some u:=by
   have:((us.drop fo).take 1)[0]?=some u:=by rw[e1];rfl
   simpa using this
  refine⟨u,?_,(AT ha).2 (by rw[←e1];exact h3)⟩
  simp[part,BZ hz,hu]
theorem U9{s:TypeId}{x:Operand}{f:Nat}(ho:o.op=.field s x f){fo n:Nat}{b:Bool}(hf:LW P s f=some (fo,n,b))(hn1:b=false->n=1){cs:List V}{y:V}(hp:EJ cs fo n b=some y):
  Ap P o [.v (.agg cs)] σ (.v y) σ:=by
 refine Ar fun E g ρ w hw hds=>?_
 simp only[ho,Op.operands,Av] at hds
 obtain⟨u,e,h1⟩:=hds
 simp at e
 simp only[Ac,BR] at h1
 obtain⟨us,hr,rfl⟩:=h1
 obtain⟨fs,z,hs,hy,hoff,hz⟩:=Fr hf
 obtain⟨v,hrun,hv⟩:=NF hz hp hr hn1 w
 refine⟨v,?_,by simpa only[Ac] using hv⟩
 simp only[execOp,ho,e,Instr.field,Sem.run_bind,run_underlying hs,Result.andThen_ok,hy,asAgg,Sem.run_pure,hoff,hrun]
theorem Xy{t:TypeId}{x ix:Operand}(ho:o.op=.indexAddr t x ix){e:TypeId}{sz by':Nat}{z:Option Value}(hs:BW P t=some (e,sz,by',z)){xs:List V}{y:V}{k:IntKind}{i:Int}(h0:0<=i)
  (hx:xs[i.toNat]?=some y) (hy:y.size=sz):Ap P o [.v (.list xs),.v (.int k i)] σ (.v (.ref y)) σ:=by
 refine Ar fun E g ρ w hw hds=>?_
 simp only[ho,Op.operands,Am] at hds
 obtain⟨u,v,eq,h1,h2⟩:=hds
 simp only[HO,Iu,HB,HZ] at eq
 obtain⟨e1,e2⟩:=eq
 simp only[Ac,As,AJ] at h1 h2
 subst h2
 obtain⟨a,cap,rfl,hc,h1⟩:=h1
 have hlt:i.toNat<xs.length:=(H0.1 hx).1
 rcases h1 with rfl|⟨b,off,sz',us,rfl,hsz,hi,hr⟩
 ·simp at hlt
 obtain⟨inf,hu,hinf,hsize,_,_⟩:=A8 hs
 obtain⟨u1,hc1,hl1,hg⟩:=G0 hr hx
 have hss:sz'=sz:=by rw[←hl1,DX hc1,hy]
 subst hss
 refine⟨.pointer (some ⟨b,off+i.toNat*sz',none⟩),?_,?_⟩
 ·have hlt':i<(xs.length:Int):=by omega
  simp[execOp,ho,e1,e2,Instr.indexAt,asIntOf,run_underlying hu,h0,hlt',sizeOf,typeInfo,hinf,hsize,Addr.add_lit]
 ·simp only[Ac,Ci]
  refine⟨b,_,u1,rfl,fun j v hj=>?_,hc1⟩
  have:=hi _ v (hg j v hj)
  rw[Nat.add_assoc];exact this
theorem Xz{t:TypeId}{x ix:Operand}(ho:o.op=.indexAddr t x ix){e:TypeId}{sz by':Nat}{z:Option Value}(hs:BW P t=some (e,sz,by',z)){q off len:Nat}{k:IntKind}{i:Int}(h0:0<=i)(h1:i<len):
  Ap P o [.arr q off len,.v (.int k i)] σ (.ptr q (off+i.toNat*sz)) σ:=by
 refine Ar fun E g ρ w hw hds=>?_
 simp only[ho,Op.operands,Am] at hds
 obtain⟨u,v,eq,h1',h2⟩:=hds
 simp only[HO,Iu,HB,HZ] at eq
 obtain⟨e1,e2⟩:=eq
 simp only[Ac,As] at h1' h2
 subst h2
 obtain⟨hq,cap,hc,rfl⟩:=h1'
 obtain⟨inf,hu,hinf,hsize,_,_⟩:=A8 hs
 refine⟨.pointer (some ⟨g.β q,off+i.toNat*sz,none⟩),?_,by simp[Ac,hq]⟩
 simp[execOp,ho,e1,e2,Instr.indexAt,asIntOf,run_underlying hu,h0,h1,sizeOf,typeInfo,hinf,hsize,Addr.add_lit]
theorem U8{t:TypeId}{x ix:Operand}(ho:o.op=.indexAddr t x ix){len sz:Nat}{b:Bool}(hs:W9 P t=some (len,sz,b)){q off:Nat}{k:IntKind}{i:Int}(h0:0<=i)(h1:i<len):
  Ap P o [.ptr q off,.v (.int k i)] σ (.ptr q (off+i.toNat*sz)) σ:=by
 refine Ar fun E g ρ w hw hds=>?_
 simp only[ho,Op.operands,Am] at hds
 obtain⟨u,v,eq,h1',h2⟩:=hds
 simp only[HO,Iu,HB,HZ] at eq
 obtain⟨e1,e2⟩:=eq
 simp only[Ac,As] at h1' h2
 subst h2
 obtain⟨hq,rfl⟩:=h1'
 obtain⟨e,hu,hz⟩:=Gk hs
 refine⟨.pointer (some ⟨g.β q,off+i.toNat*sz,none⟩),?_,by simp[Ac,hq]⟩
 simp[execOp,ho,e1,e2,Instr.indexAt,asIntOf,run_underlying hu,h0,h1,run_sizeOf' hz,Addr.add_lit,Instr.sureAddr]
theorem U7{t:TypeId}{x ix:Operand}(ho:o.op=.indexAddr t x ix){len sz:Nat}{b:Bool}(hs:W9 P t=some (len,sz,b))(hn1:b=false->sz=1){cs:List V}{y:V}{k:IntKind}{i:Int}(h0:0<=i)(h1:i<len)
  (hp:EJ cs (i.toNat*sz) sz b=some y):Ap P o [.v (.ref (.agg cs)),.v (.int k i)] σ (.v (.ref y)) σ:=by
 refine Ar fun E g ρ w hw hds=>?_
 simp only[ho,Op.operands,Am] at hds
 obtain⟨u,v,eq,h1',h2⟩:=hds
 simp only[HO,Iu,HB,HZ] at eq
 obtain⟨e1,e2⟩:=eq
 simp only[Ac,As,Ci] at h1' h2
 subst h2
 obtain⟨bb,off,us,rfl,hi,hr⟩:=h1'
 obtain⟨e,hu,hz⟩:=Gk hs
 simp only[repC] at hr
 obtain⟨h3,_,_⟩:=Ht hp hr hn1
 refine⟨.pointer (some ⟨bb,off+i.toNat*sz,none⟩),?_,by simp only[Ac,Ci];exact⟨bb,_,_,rfl,GB (GC hi _) sz,h3⟩⟩
 simp[execOp,ho,e1,e2,Instr.indexAt,asIntOf,run_underlying hu,h0,h1,run_sizeOf' hz,Addr.add_lit,Instr.sureAddr]
theorem RM{t:TypeId}{x ix:Operand}(ho:o.op=.index t x ix)(ht:P.underlying t=some .string){s:List UInt8}{k:IntKind}{i:Int}{c:UInt8}(h0:0<=i)(hc:s[i.toNat]?=some c):
  Ap P o [.v (.str s),.v (.int k i)] σ (.v (.int .u8 c.toNat)) σ:=by
 refine Ar fun E g ρ w hw hds=>?_
 simp only[ho,Op.operands,Am] at hds
 obtain⟨u,v,eq,h1',h2⟩:=hds
 simp only[HO,Iu,HB,HZ] at eq
 obtain⟨e1,e2⟩:=eq
 simp only[Ac,As,AI] at h1' h2
 subst h1' h2
 refine⟨.int .u8 c.toNat,?_,by simp[Ac]⟩
 have hlt:i.toNat<s.length:=(H0.1 hc).1
 have hb:(⟨s.toArray⟩:ByteArray)[i.toNat]?=some c:=by
  rw[getElem?_pos _ _ (by rw[ME];exact hlt)]
  have:=(H0.1 hc).2
  simp only[HU]
  rw[←this];rfl
 simp[execOp,ho,e1,e2,Instr.index,asIntOf,run_underlying ht,h0,hb]
theorem Xx{t:TypeId}{x ix:Operand}(ho:o.op=.index t x ix){len sz:Nat}{b:Bool}(hs:W9 P t=some (len,sz,b))(hn1:b=false->sz=1){cs:List V}{y:V}{k:IntKind}{i:Int}(h0:0<=i)(h1:i<len)
  (hp:EJ cs (i.toNat*sz) sz b=some y):Ap P o [.v (.agg cs),.v (.int k i)] σ (.v y) σ:=by
 refine Ar fun E g ρ w hw hds=>?_
 simp only[ho,Op.operands,Am] at hds
 obtain⟨u,v,eq,h1',h2⟩:=hds
 simp only[HO,Iu,HB,HZ] at eq
 obtain⟨e1,e2⟩:=eq
 simp only[Ac,As,BR] at h1' h2
 subst h2
 obtain⟨us,hr,rfl⟩:=h1'
 obtain⟨e,hu,hz⟩:=Gk hs
 obtain⟨v,hrun,hv⟩:=NF hz hp hr hn1 w
 refine⟨v,?_,by simpa only[Ac] using hv⟩
 simp[execOp,ho,e1,e2,Instr.index,asIntOf,run_underlying hu,h0,h1,run_sizeOf' hz,hrun]
end
theorem WI.update{E:Ent}{g g':Gh}{σ σ':St}{w w':World}(hw:WI E g σ w)(X:Nat->Prop)(hX:∀b,X b->E.w.heap.size<=b∨E.priv b)
  (keep:∀b,b<w.heap.size->¬X b->w'.heap[b]?=w.heap[b]?/\∀o,g'.M b o=g.M b o)
  (hle:g.M.le g'.M) (hn:g.n<=g'.n) (hβ:∀o,o<g.n->g'.β o=g.β o) (hκ:∀o,o<g.n->g'.κ o=g.κ o) (size:w.heap.size<=w'.heap.size) (os:w'.os=w.os) (tape:w'.tape=w.tape) (output:w'.output=w.output)
  (rep:WRep g' σ' w') (objs:∀i cs,σ'.H[i]?=some (some cs)->E.w.heap.size<=g'.β i∨E.priv (g'.β i))
  (owns:∀x∈σ'.own,∀u,g'.ι x.1 x.2.2.length=some u->∀b,B8 u=some b->E.w.heap.size<=b∨E.priv b)
  (drawn:AQ w.drawn w'.drawn:=by first|exact AQ.refl _|exact AQ.succ _|assumption):WI E g' σ' w' where
 rep:=rep
 M:=Mem.le_trans hw.M hle
 size:=Is hw.size size
 keep:=fun b hb hp=>by
  have hnx:¬X b:=fun hx=>by
   rcases hX b hx with h|h
   ·omega
   ·exact hp h
  obtain⟨h1,h2⟩:=keep b (IG hb hw.size) hnx
  obtain⟨h3,h4⟩:=hw.keep b hb hp
  exact⟨h1.trans h3,fun o=>(h2 o).trans (h4 o)⟩
 os:=os.trans hw.os
 tape:=tape.trans hw.tape
 output:=output.trans hw.output
 nE:=Is hw.nE hn
 βE:=fun o ho=>(hβ o (IG ho hw.nE)).trans (hw.βE o ho)
 κE:=fun o ho=>(hκ o (IG ho hw.nE)).trans (hw.κE o ho)
 objs:=objs
 owns:=owns
 drawn:=hw.drawn.trans drawn
theorem GD{w:World}{b:Nat}{o:Obj}(h:w.heap[b]?=some o):b<w.heap.size:=(Ir.1 h).1
theorem WRep.mem_lt{g:Gh}{σ:St}{w:World}(h:WRep g σ w){b o:Nat}{v:Value}(hm:g.M b o=some v):b<w.heap.size:=
 World.block_lt_of_cell? w ⟨b,o,none⟩ (h.mem b o v hm)
theorem WRep.new_none{g:Gh}{σ:St}{w:World}(h:WRep g σ w){b:Nat}(hb:w.heap.size<=b)(o:Nat):g.M b o=none:=by
 cases e:g.M b o with
 |none=>rfl
 |some v=>have:=h.mem_lt e;omega
theorem WRep.own_lt{g:Gh}{σ:St}{w:World}(h:WRep g σ w){x:Nat×Nat×List V}(hx:x∈σ.own){u:Value}(hu:g.ι x.1 x.2.2.length=some u){b:Nat}(hb:B8 u=some b):b<w.heap.size:=by
 obtain⟨_,u',hu',_,hp,_⟩:=h.own x.1 x.2.1 x.2.2 hx
 rw[hu] at hu'
 obtain rfl:u=u':=by simpa using hu'
 rcases hp with⟨a,rfl⟩|⟨b',f,len,cap,cur,e,rfl,hh,_⟩
 ·cases a<;>simp[B8] at hb
 ·simp only[B8] at hb
  split at hb
  ·simp at hb
  ·simp at hb;subst hb;exact GD hh
theorem WRep.obj_lt{g:Gh}{σ:St}{w:World}(h:WRep g σ w){i:Nat}{cs:List D}(hi:σ.H[i]?=some (some cs)):g.β i<w.heap.size:=by
 obtain⟨us,rest,e,hb,_⟩:=h.obj i cs hi
 exact GD hb
theorem WRep.lt_n{g:Gh}{σ:St}{w:World}(h:WRep g σ w){i:Nat}{cs:List D}(hi:σ.H[i]?=some (some cs)):i<g.n:=by
 rw[h.n];exact(H0.1 hi).1
theorem Hf.kept{M M':Mem}{w w':World}{sz:Nat}{u:Value}(h:Hf M w sz u)(hk:∀b,B8 u=some b->w'.heap[b]?=w.heap[b]?/\∀o,M' b o=M b o):Hf M' w' sz u:=by
 rcases h with⟨a,rfl⟩|⟨b,f,len,cap,cur,e,rfl,hh,hl,hc,hM⟩
 ·exact .inl ⟨a,rfl⟩
 ·by_cases h0:cap=0
  ·subst h0
   obtain rfl:len=0:=by omega
   exact .inl ⟨_,rfl⟩
  ·obtain⟨h1,h2⟩:=hk b (by simp[B8,h0])
   exact .inr ⟨b,f,len,cap,cur,e,rfl,h1.trans hh,hl,hc,fun o ho=>(h2 o).trans (hM o ho),hM.ng⟩
theorem WRep.obj_ng{g:Gh}{σ:St}{w:World}(h:WRep g σ w){i:Nat}{cs:List D}(hi:σ.H[i]?=some (some cs)):∀p∈E1,p.1≠g.β i:=fun p hp e=>by
 obtain⟨v,hv⟩:=h.gl.sized p hp
 obtain⟨_,_,_,_,_,_,hM,_⟩:=h.obj i cs hi
 rw[e,hM 0] at hv;simp at hv
theorem Hf.ng{M:Mem}{w:World}{sz:Nat}{u:Value}(h:Hf M w sz u){b:Nat}(hb:B8 u=some b):∀p∈E1,p.1≠b:=by
 rcases h with⟨a,rfl⟩|⟨b',f,len,cap,cur,e,rfl,_,_,_,hM⟩
 ·cases a<;>simp[B8] at hb
 ·simp only[B8] at hb
  split at hb
  ·simp at hb
  ·simp at hb;subst hb;exact hM.ng
theorem WRep.own_ng{g:Gh}{σ:St}{w:World}(h:WRep g σ w){k sz:Nat}{xs:List V}(hx:(k,sz,xs)∈σ.own){u:Value}(hu:g.ι k xs.length=some u){b:Nat}(hb:B8 u=some b):∀p∈E1,p.1≠b:=by
 obtain⟨_,u',hu',_,hp,_⟩:=h.own k sz xs hx
 rw[hu] at hu';simp at hu';subst hu'
 exact hp.ng hb
theorem GW.lt{w:World}(h:GW w){p:Nat×Nat}(hp:p∈E1):p.1<w.heap.size:=by
 obtain⟨cs,e,x,h1,_⟩:=h p hp
 exact(Ir.1 h1).1
theorem GW.new{w:World}(h:GW w){b:Nat}(hb:w.heap.size<=b):∀p∈E1,p.1≠b:=fun p hp e=>by have:=h.lt hp;omega
theorem WRep.grow{g:Gh}{σ:St}{w w':World}(h:WRep g σ w){M':Mem}(hle:g.M.le M')(keep:∀b,b<w.heap.size->w'.heap[b]?=w.heap[b]?/\∀o,M' b o=g.M b o)
  (mem:∀b o v,M' b o=some v->w'.cell? ⟨b,o,none⟩=some v):WRep { g with M:=M' } σ w':=by
 have hg:g.le { g with M:=M' }:=⟨hle,H5 _,fun _ _=>rfl,fun _ _ _ h=>h,fun _ _=>rfl⟩
 refine⟨h.n,mem,fun i cs hi=>?_,h.inj,fun k sz xs hx=>?_,h.tags,h.sep,h.ownObj,h.fresh,h.gl.mono hle,h.gw.keep fun b hb=>(keep b hb).1⟩
 ·obtain⟨us,rest,e,hb,hr,h1,hM,hκ⟩:=h.obj i cs hi
  obtain⟨k1,k2⟩:=keep _ (GD hb)
  exact⟨us,rest,e,k1.trans hb,Ab.mono hg _ _ hr,h1,fun o=>(k2 o).trans (hM o),hκ⟩
 ·obtain⟨h0,u,hu,hr,hp,hf⟩:=h.own k sz xs hx
  exact⟨h0,u,hu,hr.mono hle,hp.kept fun b hb=>keep b (h.own_lt hx hu hb),hf⟩
theorem WI.grow{E:Ent}{g:Gh}{σ:St}{w w':World}(hw:WI E g σ w){M':Mem}(hle:g.M.le M')(keep:∀b,b<w.heap.size->w'.heap[b]?=w.heap[b]?/\∀o,M' b o=g.M b o)
  (mem:∀b o v,M' b o=some v->w'.cell? ⟨b,o,none⟩=some v) (size:w.heap.size<=w'.heap.size) (os:w'.os=w.os) (tape:w'.tape=w.tape) (output:w'.output=w.output) (drawn:AQ w.drawn w'.drawn:=by first|exact AQ.refl _|exact AQ.succ _|assumption):WI E { g with M:=M' } σ w':=
 hw.update (fun _=>False) (fun _ h=>h.elim) (fun b hb _=>keep b hb) hle (H5 _) (fun _ _=>rfl) (fun _ _=>rfl) size os tape output (hw.rep.grow hle keep mem) hw.objs hw.owns
theorem Kb(w:World)(o:Obj){b i:Nat}{v:Value}(h:w.cell? ⟨b,i,none⟩=some v):(w.alloc o).cell? ⟨b,i,none⟩=some v:=by
 rw[World.cell?_alloc_lt w o _ (World.block_lt_of_cell? w _ h)];exact h
theorem WI.alloc{E:Ent}{g:Gh}{σ:St}{w:World}(hw:WI E g σ w)(o:Obj):WI E g σ (w.alloc o):=by
 have:=hw.grow (w':=w.alloc o) (M':=g.M) (Mem.le_refl _) (fun b hb=>⟨heap_alloc_old w o b hb,fun _=>rfl⟩) (fun b i v h=>Kb w o (hw.rep.mem b i v h)) (by simp) rfl rfl rfl
 exact this
theorem WI.drew{E:Ent}{g:Gh}{σ:St}{w:World}(hw:WI E g σ w):WI E g σ w.drew:=by
 have:=hw.grow (w':=w.drew) (M':=g.M) (Mem.le_refl _) (fun b hb=>⟨rfl,fun _=>rfl⟩) (fun b i v h=>hw.rep.mem b i v h) (H5 _) rfl rfl rfl
 exact this
theorem WI.addObj{E:Ent}{g:Gh}{σ:St}{w:World}(hw:WI E g σ w){b:Nat}{us rest:List Value}{e:TypeId}{cs:List D}(hb:w.heap[b]?=some (.cells (us++rest).toArray e (0,0)))(hE:E.w.heap.size<=b∨E.priv b)(hM:∀o,g.M b o=none)
  (hno:∀i cs,σ.H[i]?=some (some cs)->g.β i≠b) (hown:∀x∈σ.own,∀u,g.ι x.1 x.2.2.length=some u->B8 u≠some b) (hr:Ab g cs us) (h1:∀c∈cs,c.one=true):
  WI E { g with n:=g.n+1,β:=fun o=>if o=g.n then b else g.β o,κ:=fun o=>if o=g.n then(us++rest).length else g.κ o } ⟨σ.H++[some cs],σ.own⟩ w/\g.le { g with n:=g.n+1,β:=fun o=>if o=g.n then b else g.β o,κ:=fun o=>if o=g.n then(us++rest).length else g.κ o }:=by
 have hle:g.le { g with n:=g.n+1,β:=fun o=>if o=g.n then b else g.β o,κ:=fun o=>if o=g.n then(us++rest).length else g.κ o }:=⟨Mem.le_refl _,Nat.le_succ _,fun o ho=>HF (by omega),fun _ _ _ h=>h,fun o ho=>HF (by omega)⟩
 have split:∀i cs',(σ.H++[some cs])[i]?=some (some cs')->(σ.H[i]?=some (some cs')/\i<g.n)∨(i=g.n/\cs'=cs):=by
  intro i cs' hi
  by_cases hlt:i<σ.H.length
  ·rw[HK hlt] at hi
   exact .inl ⟨hi,by rw[hw.rep.n];exact hlt⟩
  ·rw[HH (by omega)] at hi
   have:i-σ.H.length=0:=by
    cases hk:i-σ.H.length with
    |zero=>rfl
    |succ k=>simp[hk] at hi
   rw[this] at hi
   simp at hi
   exact .inr ⟨by rw[hw.rep.n];omega,hi.symm⟩
 refine⟨hw.update (fun _=>False) (fun _ h=>h.elim) (fun _ _ _=>⟨rfl,fun _=>rfl⟩) (Mem.le_refl _) (Nat.le_succ _) (fun o ho=>HF (by omega)) (fun o ho=>HF (by omega)) (H5 _) rfl rfl rfl ?_ ?_ hw.owns,hle⟩
 ·refine⟨by simp[hw.rep.n],hw.rep.mem,fun i cs' hi=>?_,fun i j cs1 cs2 hi hj hij=>?_,hw.rep.own,hw.rep.tags,hw.rep.sep,fun x hx u hu b' hb' i cs' hi=>?_,hw.rep.fresh,hw.rep.gl,hw.rep.gw⟩
  ·rcases split i cs' hi with⟨h,hlt⟩|⟨rfl,rfl⟩
   ·obtain⟨us',rest',e',h2,h3,h4,h5,h6⟩:=hw.rep.obj i cs' h
    have hne:(if i=g.n then b else g.β i)=g.β i:=HF (by omega)
    refine⟨us',rest',e',?_,Ab.mono hle _ _ h3,h4,?_,?_⟩
    ·simp only[hne];exact h2
    ·simp only[hne];exact h5
    ·simp only[HF (show ¬i=g.n by omega)];exact h6
   ·refine⟨us,rest,e,?_,Ab.mono hle _ _ hr,h1,?_,?_⟩
    ·simp only[I6];exact hb
    ·simp only[I6];exact hM
    ·simp only[I6]
  ·rcases split i cs1 hi with⟨h,hlt⟩|⟨rfl,rfl⟩<;>rcases split j cs2 hj with⟨h',hlt'⟩|⟨rfl,rfl⟩
   ·simp only[HF (show ¬i=g.n by omega),HF (show ¬j=g.n by omega)] at hij
    exact hw.rep.inj i j _ _ h h' hij
   ·simp only[HF (show ¬i=g.n by omega),I6] at hij
    exact absurd hij (hno i _ h)
   ·simp only[HF (show ¬j=g.n by omega),I6] at hij
    exact absurd hij.symm (hno j _ h')
   ·rfl
  ·rcases split i cs' hi with⟨h,hlt⟩|⟨rfl,rfl⟩
   ·simp only[HF (show ¬i=g.n by omega)]
    exact hw.rep.ownObj x hx u hu b' hb' i cs' h
   ·simp only[I6]
    intro e;subst e
    exact hown x hx u hu hb'
 ·intro i cs' hi
  rcases split i cs' hi with⟨h,hlt⟩|⟨rfl,rfl⟩
  ·simp only[HF (show ¬i=g.n by omega)];exact hw.objs i cs' h
  ·simp only[I6];exact hE
theorem WI.addOwn{E:Ent}{g:Gh}{σ:St}{w:World}(hw:WI E g σ w){k sz:Nat}{xs:List V}{u:Value}(hk:∀x∈σ.own,x.1≠k)(hsz:0<sz/\∀x∈xs,x.size=sz)(hr:repV g.M (.list xs) u)(hp:Hf g.M w sz u)
  (hb:∀b,B8 u=some b->E.w.heap.size<=b/\(∀i cs,σ.H[i]?=some (some cs)->g.β i≠b)/\∀x∈σ.own,∀u',g.ι x.1 x.2.2.length=some u'->B8 u'≠some b):
  WI E { g with ι:=fun k' m=>if k'=k then(if m=xs.length then some u else none) else g.ι k' m } ⟨σ.H,(k,sz,xs)::σ.own⟩ w/\
  g.le { g with ι:=fun k' m=>if k'=k then(if m=xs.length then some u else none) else g.ι k' m }:=by
 have hle:g.le { g with ι:=fun k' m=>if k'=k then(if m=xs.length then some u else none) else g.ι k' m }:=by
  refine⟨Mem.le_refl _,H5 _,fun _ _=>rfl,fun k' m u' h=>?_,fun _ _=>rfl⟩
  by_cases e:k'=k
  ·subst e;rw[hw.rep.fresh k' hk m] at h;simp at h
  ·simp only[HF e];exact h
 have hold:∀x∈σ.own,(if x.1=k then(if x.2.2.length=xs.length then some u else none) else g.ι x.1 x.2.2.length)=g.ι x.1 x.2.2.length:=fun x hx=>HF (hk x hx)
 refine⟨hw.update (fun _=>False) (fun _ h=>h.elim) (fun _ _ _=>⟨rfl,fun _=>rfl⟩) (Mem.le_refl _) (H5 _) (fun _ _=>rfl) (fun _ _=>rfl) (H5 _) rfl rfl rfl ?_ hw.objs ?_,hle⟩
 ·refine⟨hw.rep.n,hw.rep.mem,fun i cs hi=>?_,hw.rep.inj,fun k' sz' xs' hx=>?_,?_,fun x hx y hy hne u1 u2 h1 h2 b hb1=>?_,fun x hx u1 h1 b hb1 i cs hi=>?_,fun k' hk' m=>?_,hw.rep.gl,hw.rep.gw⟩
  ·obtain⟨us,rest,e,h2,h3,h4,h5⟩:=hw.rep.obj i cs hi
   exact⟨us,rest,e,h2,Ab.mono hle _ _ h3,h4,h5⟩
  ·rcases Ib.1 hx with e|hx
   ·simp only[Prod.mk.injEq] at e
    obtain⟨rfl,rfl,rfl⟩:=e
    refine⟨hsz,u,by simp,hr,hp,fun m hm=>?_⟩
    simp only[I6];exact HF (by omega)
   ·obtain⟨h0,u',hu,h3,h4,h5⟩:=hw.rep.own k' sz' xs' hx
    have hne:¬k'=k:=hk _ hx
    refine⟨h0,u',by simp only[HF hne];exact hu,h3,h4,fun m hm=>by simp only[HF hne];exact h5 m hm⟩
  ·simp only[HO,List.nodup_cons]
   refine⟨fun h=>?_,hw.rep.tags⟩
   obtain⟨x,hx,e⟩:=Ie.1 h
   exact hk x hx e
  ·rcases Ib.1 hx with rfl|hx<;>rcases Ib.1 hy with rfl|hy
   ·exact absurd rfl hne
   ·simp at h1;subst h1
    have h2':g.ι y.1 y.2.2.length=some u2:=(hold y hy).symm.trans h2
    exact(hb b hb1).2.2 y hy u2 h2'
   ·simp at h2;subst h2
    have h1':g.ι x.1 x.2.2.length=some u1:=(hold x hx).symm.trans h1
    intro hb2
    exact(hb b hb2).2.2 x hx u1 h1' hb1
   ·exact hw.rep.sep x hx y hy hne u1 u2 ((hold x hx).symm.trans h1) ((hold y hy).symm.trans h2) b hb1
  ·rcases Ib.1 hx with rfl|hx
   ·simp at h1;subst h1
    exact(hb b hb1).2.1 i cs hi
   ·exact hw.rep.ownObj x hx u1 ((hold x hx).symm.trans h1) b hb1 i cs hi
  ·have hne:¬k'=k:=fun e=>hk' (k,sz,xs) (by simp) e.symm
   simp only[HF hne]
   exact hw.rep.fresh k' (fun x hx=>hk' x (by simp[hx])) m
 ·intro x hx u1 h1 b hb1
  rcases Ib.1 hx with rfl|hx
  ·simp at h1;subst h1
   exact .inl (hb b hb1).1
  ·exact hw.owns x hx u1 ((hold x hx).symm.trans h1) b hb1
def B9:D->List D
 |.v (.agg xs)=>xs.map .v
 |.dagg cs=>cs
 |d=>[d]
def D.sto:D->Bool
 |.v _|.acc .. |.ptr .. |.arr .. |.gro .. |.dfn .. =>true
 |.dagg cs=>cs.all D.one
 |.raw x=>x.oneCell'
 |.rv x _=> !x.isAgg
 |_=>false
theorem CW{g:Gh}:∀{xs:List V} {us:List Value},repA g.M xs us->Ab g (xs.map .v) us/\∀c∈xs.map D.v,c.one=true
 |[],us,h=>by simp only[repA] at h;simp[h,Ab]
 |x::xs,us,h=>by
  simp only[repA] at h
  obtain⟨u,us',rfl,ha,h1,h2⟩:=h
  obtain⟨h3,h4⟩:=CW h2
  refine⟨?_,?_⟩
  ·simp only[HO,Ab,Ac]
   exact⟨u,us',rfl,(AT ha).2 h1,h3⟩
  ·intro c hc
   simp only[HO,Ib] at hc
   rcases hc with rfl|hc
   ·simp[D.one,ha]
   ·exact h4 c hc
theorem Mq{u:Value}(h:u.oneCell'=true):u.cells= #[u]:=by cases u<;>simp_all [Value.cells,Value.oneCell']
theorem Dt{g:Gh}{d:D}{u:Value}(h1:d.one=true)(h:Ac g d u):u.oneCell'=true:=by
 cases d with
 |v x=>simp only[Ac] at h;exact CF (by simpa[D.one] using h1) h
 |acc k xs=>simp only[Ac] at h;exact CF (x:=.list xs) rfl h.1
 |ptr q off=>simp only[Ac] at h;rw[h.2];rfl
 |arr q off len=>simp only[Ac] at h;obtain⟨_,cap,_,rfl⟩:=h;rfl
 |gro q len sz=>simp only[Ac] at h;obtain⟨_,cap,_,_,rfl⟩:=h;rfl
 |dfn f fs cs=>simp only[Ac] at h;obtain⟨us,vs,rfl,_⟩:=h;rfl
 |raw x=>simp only[Ac] at h;subst h;simpa[D.one] using h1
 |rv x u0=>simp only[Ac] at h;rw[h.1];exact CF (by simpa[D.one] using h1) h.2
 |dagg cs=>simp[D.one] at h1
 |tup ds=>simp[D.one] at h1
 |err=>simp[D.one] at h1
 |undef=>simp[D.one] at h1
theorem CG{g:Gh}:∀{cs:List D} {us:List Value},(∀c∈cs,c.one=true)->Ab g cs us->∀u∈us,u.oneCell'=true
 |[],us,_,h=>by simp only[Ab] at h;simp[h]
 |c::cs,us,h1,h=>by
  simp only[Ab] at h
  obtain⟨u,us',rfl,h2,h3⟩:=h
  intro x hx
  simp only[Ib] at hx
  rcases hx with rfl|hx
  ·exact Dt (h1 c (by simp)) h2
  ·exact CG (fun c hc=>h1 c (by simp[hc])) h3 x hx
theorem J4{g:Gh}{d:D}{u:Value}(hs:d.sto=true)(h:Ac g d u):Ab g (B9 d) u.cells.toList/\(∀c∈B9 d,c.one=true)/\(∀x∈u.cells.toList,x.oneCell'=true):=by
 have one:d.one=true->u.oneCell'=true->B9 d=[d]->Ab g (B9 d) u.cells.toList/\(∀c∈B9 d,c.one=true)/\(∀x∈u.cells.toList,x.oneCell'=true):=by
  intro h1 h2 h3
  rw[h3,Mq h2]
  exact⟨Av.2 ⟨u,rfl,h⟩,by simp[h1],by simp[h2]⟩
 cases d with
 |v x=>
  cases hx:x.isAgg with
  |false=>exact one (by simp[D.one,hx]) (by simp only[Ac] at h;exact CF hx h) (by cases x with|agg _=>simp[V.isAgg] at hx|_=>rfl)
  |true=>
   cases x with
   |agg cs=>
    simp only[Ac,BR] at h
    obtain⟨ws,hr,rfl⟩:=h
    simp only[B9,Value.cells]
    obtain⟨h3,h4⟩:=CW hr
    exact⟨h3,h4,EB hr⟩
   |_=>simp[V.isAgg] at hx
 |acc k xs=>exact one rfl (by simp only[Ac] at h;exact CF (x:=.list xs) rfl h.1) rfl
 |ptr q off=>exact one rfl (by simp only[Ac] at h;rw[h.2];rfl) rfl
 |arr q off len=>exact one rfl (by simp only[Ac] at h;obtain⟨_,cap,_,rfl⟩:=h;rfl) rfl
 |dfn f fs cs=>exact one rfl (by simp only[Ac] at h;obtain⟨us,vs,rfl,_⟩:=h;rfl) rfl
 |gro q len sz=>exact one rfl (Dt rfl h) rfl
 |rv x u0=>exact one (by simpa[D.sto,D.one] using hs) (Dt (by simpa[D.sto,D.one] using hs) h) rfl
 |raw x=>exact one (by simpa[D.sto,D.one] using hs) (Dt (by simpa[D.sto,D.one] using hs) h) rfl
 |dagg cs=>
  simp only[Ac] at h
  obtain⟨us,rfl,hr⟩:=h
  have h1:∀c∈cs,c.one=true:=by simpa[D.sto] using hs
  simp only[B9,Value.cells]
  exact⟨hr,h1,CG h1 hr⟩
 |tup ds=>simp[D.sto] at hs
 |err=>simp[D.sto] at hs
 |undef=>simp[D.sto] at hs
theorem WI.setObj{E:Ent}{g:Gh}{σ:St}{w w':World}(hw:WI E g σ w){q:Nat}{cs cs':List D}(hq:σ.H[q]?=some (some cs)){us rest:List Value}{e:TypeId}(hb:w'.heap[g.β q]?=some (.cells (us++rest).toArray e (0,0)))(hκ:(us++rest).length=g.κ q)
  (hr:Ab g cs' us) (h1:∀c∈cs',c.one=true) (keep:∀b,b≠g.β q->w'.heap[b]?=w.heap[b]?) (size:w'.heap.size=w.heap.size) (os:w'.os=w.os) (tape:w'.tape=w.tape) (output:w'.output=w.output) (drawn:AQ w.drawn w'.drawn:=by first|exact AQ.refl _|exact AQ.succ _|assumption):
  WI E g ⟨σ.H.set q (some cs'),σ.own⟩ w':=by
 have hMq:∀o,g.M (g.β q) o=none:=by obtain⟨_,_,_,_,_,_,h,_⟩:=hw.rep.obj q cs hq;exact h
 have split:∀(i:Nat) (cs1:List D),(σ.H.set q (some cs'))[i]?=some (some cs1)->(i=q/\cs1=cs')∨(i≠q/\σ.H[i]?=some (some cs1)):=by
  intro i cs1 hi
  rw[getElem?_set] at hi
  split at hi
  ·rename_i e;subst e
   split at hi
   ·simp at hi;exact .inl ⟨rfl,hi.symm⟩
   ·simp at hi
  ·rename_i e;exact .inr ⟨fun h=>e h.symm,hi⟩
 have live:∀(i:Nat) (cs1:List D),(σ.H.set q (some cs'))[i]?=some (some cs1)->∃cs2,σ.H[i]?=some (some cs2):=by
  intro i cs1 hi
  rcases split i cs1 hi with⟨rfl,_⟩|⟨_,h⟩
  ·exact⟨cs,hq⟩
  ·exact⟨_,h⟩
 refine hw.update (fun b=>b=g.β q) (fun b e=>by subst e;exact hw.objs q cs hq) (fun b _ hne=>⟨keep b hne,fun _=>rfl⟩) (Mem.le_refl _) (H5 _) (fun _ _=>rfl) (fun _ _=>rfl) (by omega) os tape output ?_ ?_ hw.owns
 ·refine⟨by simp[hw.rep.n],fun b o v hm=>?_,fun i cs1 hi=>?_,fun i j c1 c2 hi hj hij=>?_,fun k sz xs hx=>?_,hw.rep.tags,hw.rep.sep,fun x hx u hu b hb' i cs1 hi=>?_,hw.rep.fresh,hw.rep.gl,hw.rep.gw.mono fun b cs0 e0 x0 hb0=>by
   by_cases hbq:b=g.β q
   ·subst hbq
    obtain⟨us1,rest1,e1,h2,_,_,_,h3⟩:=hw.rep.obj q cs hq
    rw[h2] at hb0
    cases hb0
    exact⟨_,_,_,hb,by simp only[IB];omega⟩
   ·exact⟨_,_,_,(keep b hbq).trans hb0,rfl⟩⟩
  ·have hne:b≠g.β q:=fun e=>by subst e;rw[hMq o] at hm;simp at hm
   have:=hw.rep.mem b o v hm
   simp only[World.cell?] at this⊢
   rw[keep b hne];exact this
  ·rcases split i cs1 hi with⟨rfl,rfl⟩|⟨hne,h⟩
   ·exact⟨us,rest,e,hb,hr,h1,hMq,hκ⟩
   ·obtain⟨us',rest',e',h2,h3,h4,h5⟩:=hw.rep.obj i cs1 h
    refine⟨us',rest',e',?_,h3,h4,h5⟩
    rw[keep _ (fun e=>hne (hw.rep.inj i q _ _ h hq e))];exact h2
  ·obtain⟨c3,h3⟩:=live i c1 hi
   obtain⟨c4,h4⟩:=live j c2 hj
   exact hw.rep.inj i j _ _ h3 h4 hij
  ·obtain⟨h0,u,hu,h3,h4,h5⟩:=hw.rep.own k sz xs hx
   refine⟨h0,u,hu,h3,h4.kept fun b hb'=>⟨keep b ?_,fun _=>rfl⟩,h5⟩
   exact fun e=>hw.rep.ownObj _ hx u hu b hb' q cs hq e.symm
  ·obtain⟨c3,h3⟩:=live i cs1 hi
   exact hw.rep.ownObj x hx u hu b hb' i c3 h3
 ·intro i cs1 hi
  obtain⟨c3,h3⟩:=live i cs1 hi
  exact hw.objs i c3 h3
section
variable {P : Program} {o : Oper} {σ : St} {d : D}
theorem WI.newObj{E:Ent}{g:Gh}{w:World}(hw:WI E g σ w){us:List Value}{cs:List D}(e:TypeId)(hr:Ab g cs us)(h1:∀c∈cs,c.one=true):
  ∃g',WI E g' ⟨σ.H++[some cs],σ.own⟩ (w.alloc (.cells us.toArray e))/\g.le g'/\g'.β σ.H.length=w.heap.size/\g'.n=σ.H.length+1:=by
 have h2:=(hw.alloc (.cells us.toArray e)).addObj (b:=w.heap.size) (us:=us) (rest:=[]) (e:=e) (cs:=cs) (by rw[Il];exact heap_alloc_new w _) (.inl hw.size) (hw.rep.new_none (H5 _))
  (fun i cs hi=>Nat.ne_of_lt (hw.rep.obj_lt hi)) (fun x hx u hu hb=>by have:=hw.rep.own_lt hx hu hb;omega) hr h1
 exact⟨_,h2.1,h2.2,by simp[hw.rep.n],by simp[hw.rep.n]⟩
theorem Zb{e:TypeId}{x:Operand}(ho:o.op=.box e x)(hs:d.sto=true):Ap P o [d] σ (.ptr σ.H.length 0) ⟨σ.H++[some (B9 d)],σ.own⟩:=by
 intro E g a w K Q hw hds hK
 simp only[ho,Op.operands,Av] at hds
 obtain⟨u,eu,hd⟩:=hds
 simp at eu
 obtain⟨h2,h3,_⟩:=J4 hs hd
 obtain⟨g',hw',hle,hβ,hn⟩:=hw.newObj e h2 h3
 have:=hK g' _ (.pointer (some ⟨w.heap.size,0,none⟩)) hw' hle (by simp only[Ac];exact⟨by omega,by rw[hβ]⟩)
 unfold Oper.wp execOp
 simpa[ho,eu,Instr.box,newVar,newRow,Oper.upon] using this
def Ol:Value->Option V
 |.int k n=>some (.int k n)
 |.bool b=>some (.bool b)
 |.string s=>some (.str s.data.toList)
 |.slice none 0 0=>some (.list [])
 |.nilFunc=>some .nilfn
 |.pointer none=>some .nilp
 |_=>none
def FH:List Value->Option (List V)
 |[]=>some []
 |u::us=>match Ol u,FH us with
  |some x,some xs=>some (x::xs)
  |_,_=>none
theorem JW{M:Mem}{u:Value}{x:V}(h:Ol u=some x):x.isAgg=false/\repC M x [u]:=by
 unfold Ol at h
 split at h<;>simp at h<;>subst h<;>simp[V.isAgg,repC]
theorem Eb{M:Mem}:∀{us:List Value} {xs:List V},FH us=some xs->repA M xs us
 |[],xs,h=>by simp[FH] at h;subst h;simp[repA]
 |u::us,xs,h=>by
  simp only[FH] at h
  split at h
  ·rename_i x xs' h1 h2
   simp at h;subst h
   obtain⟨h3,h4⟩:=JW (M:=M) h1
   simp only[repA]
   exact⟨u,us,rfl,h3,h4,Eb h2⟩
  ·simp at h
def zeroV(P:Program)(t:TypeId):Option (List V):=
 match (P.info? t).bind (·.zero) with
 |some z=>FH z.cells.toList
 |none=>none
theorem IY{t:TypeId}{xs:List V}(h:zeroV P t=some xs):∃i z,P.info? t=some i/\i.zero=some z/\FH z.cells.toList=some xs:=by
 unfold zeroV at h
 split at h
 ·rename_i z hz
  cases hi:P.info? t with
  |none=>simp[hi] at hz
  |some i=>exact⟨i,z,rfl,by simpa[hi] using hz,h⟩
 ·simp at h
theorem K6{t:TypeId}{x y:Operand}(ho:o.op=.store t x y)(hs:d.sto=true){n:Nat}{b:Bool}(ht:Cz P t=some (n,b))(hn:(B9 d).length=n){q off:Nat}{cs:List D}(hq:σ.H[q]?=some (some cs))(hoff:off+n<=cs.length):
  Ap P o [.ptr q off,d] σ .undef ⟨σ.H.set q (some (cs.take off++B9 d++cs.drop (off+n))),σ.own⟩:=by
 intro E g a w K Q hw hds hK
 simp only[ho,Op.operands,Am] at hds
 obtain⟨u,v,eq,h1,h2⟩:=hds
 simp only[HO,Iu,HB,HZ] at eq
 obtain⟨e1,e2⟩:=eq
 simp only[Ac] at h1
 obtain⟨hlt,rfl⟩:=h1
 obtain⟨us,rest,e,hb,hr,hone,hM,hκ⟩:=hw.rep.obj q cs hq
 obtain⟨h3,h4,h5⟩:=J4 hs h2
 have hl:us.length=cs.length:=A7 hr
 have hl2:v.cells.toList.length=n:=by rw[A7 h3,hn]
 have hst:=run_storeCells_at P (g.β q) off e v.cells.toList 0 (us++rest).toArray w hb (by simp only[IB,HC];omega) h5
 simp only[Iv,hl2] at hst
 rw[show(us++rest).take off++v.cells.toList++(us++rest).drop (off+n)=(us.take off++v.cells.toList++us.drop (off+n))++rest from by
  rw[IN (by omega),List.drop_append_of_le_length (by omega)];simp] at hst
 have hw':=hw.setObj (cs':=cs.take off++B9 d++cs.drop (off+n)) hq (us:=us.take off++v.cells.toList++us.drop (off+n)) (rest:=rest) (e:=e)
  (w':=w.setRow (g.β q) ((us.take off++v.cells.toList++us.drop (off+n))++rest).toArray) (setRow_heap w _ _ _ e _ hb) (by rw[←hκ];simp only[HC,HS,I3];omega)
  (Aw (Aw (Cj hr off) h3) (Ck hr (off+n)))
  (fun c hc=>by
   simp only[Ij] at hc
   rcases hc with(hc|hc)|hc
   ·exact hone c (List.mem_of_mem_take hc)
   ·exact h4 c hc
   ·exact hone c (List.mem_of_mem_drop hc))
  (fun b hb=>setRow_other w _ _ _ hb) (by simp) rfl rfl rfl
 have:=hK g _ undef hw' g.le_refl (by simp[Ac])
 have hsz:v.cells.size=n:=by rw[←HY];exact hl2
 unfold Oper.wp execOp
 simp only[ho,e1,e2,Instr.storeAt,Instr.sureAddr,Sem.run_bind,Sem.run_pure,Result.andThen_ok,storeVar,run_sizeOf' ht,hsz,ne_eq,not_true_eq_false,if_false,hst]
 exact this
theorem LD{t:TypeId}{x y:Operand}(ho:o.op=.store t x y)(hs:d.one=true)(ht:VG P t){q off:Nat}{cs:List D}(hq:σ.H[q]?=some (some cs))(hoff:off<cs.length):
  Ap P o [.ptr q off,d] σ .undef ⟨σ.H.set q (some (cs.set off d)),σ.own⟩:=by
 have hc:B9 d=[d]:=by
  cases d with
  |v x=>cases x<;>simp_all [D.one,B9,V.isAgg]
  |dagg cs=>simp[D.one] at hs
  |_=>rfl
 have hs':d.sto=true:=by cases d<;>simp_all [D.one,D.sto]
 have h:=K6 (P:=P) (σ:=σ) (n:=1) (off:=off) ho hs' ht (by rw[hc];rfl) hq (by omega)
 rw[hc] at h
 have e:cs.take off++[d]++cs.drop (off+1)=cs.set off d:=by
  rw[List.set_eq_take_append_cons_drop,HJ hoff];simp
 rw[e] at h
 exact h
def V.cellsV:V->List V
 |.agg cs=>cs
 |x=>[x]
theorem Jq{M:Mem}{x:V}{u:Value}(h:repV M x u):repA M x.cellsV u.cells.toList/\u.cells.size=x.size:=by
 have hc:=E8 h
 have hl:u.cells.size=x.size:=by rw[←HY];exact DX hc
 refine⟨?_,hl⟩
 cases hx:x.isAgg with
 |true=>
  cases x with
  |agg cs=>simpa only[V.cellsV,repC] using hc
  |_=>simp[V.isAgg] at hx
 |false=>
  have e:x.cellsV=[x]:=by cases x<;>simp_all [V.cellsV,V.isAgg]
  obtain⟨u',e1,_,_⟩:=Cm hx hc
  rw[e,e1]
  simp only[repA]
  exact⟨u',[],rfl,hx,by rw[←e1];exact hc,rfl⟩
def Ev(place:Nat->Option (Nat×Nat))(cells:List V):List (Nat×V)->Option (List V)
 |[]=>some cells
 |(i,x)::rest=>
  match place i with
  |none=>none
  |some (off,size)=>if x.size=size/\off+size<=cells.length then Ev place (cells.take off++x.cellsV++cells.drop (off+size)) rest else none
theorem JU{place place':Nat->Option (Nat×Nat)}{out:List V}(hp:∀i p,place i=some p->place' i=some p):∀(xs:List (Nat×V)) (cells:List V),Ev place cells xs=some out->Ev place' cells xs=some out
 |[],cells,h=>by simpa[Ev] using h
 |(i,x)::xs,cells,h=>by
  simp only[Ev] at h⊢
  cases hi:place i with
  |none=>simp[hi] at h
  |some p=>
   rw[hp i p hi]
   simp only[hi] at h⊢
   split at h
   ·rename_i hc;rw[HJ hc];exact JU hp xs _ h
   ·simp at h
theorem Fh{M:Mem}:∀{xs ys:List V} {us vs:List Value},repA M xs us->repA M ys vs->repA M (xs++ys) (us++vs)
 |[],ys,us,vs,h,h'=>by simp only[repA] at h;simpa[h] using h'
 |x::xs,ys,us,vs,h,h'=>by
  simp only[repA] at h
  obtain⟨u,us1,rfl,ha,h1,h2⟩:=h
  simp only[IW,repA]
  exact⟨u,_,rfl,ha,h1,Fh h2 h'⟩
theorem QP(off:Nat)(l:List Value)(cs:Array Value)(h:off+l.length<=cs.size):
  ((l.zipIdx 0).foldl (fun cs (x:Value×Nat)=>cs.setIfInBounds (off+x.2) x.1) cs).toList=cs.toList.take off++l++cs.toList.drop (off+l.length):=by
 obtain⟨h1,h2⟩:=Great.foldl_set off l 0 cs
 apply ext_getElem?
 intro k
 have e:((l.zipIdx 0).foldl (fun cs (x:Value×Nat)=>cs.setIfInBounds (off+x.2) x.1) cs).toList[k]?=((l.zipIdx 0).foldl (fun cs (x:Value×Nat)=>cs.setIfInBounds (off+x.2) x.1) cs)[k]?:=by simp
 rw[e,h2 k]
 simp only[Iv]
 have hlt:(cs.toList.take off).length=off:=by simp;omega
 by_cases hk:k<off
 ·rw[HF (by omega),I4,HK (by omega),IJ,HJ hk];simp
 ·by_cases hk2:k<off+l.length
  ·rw[HJ (by omega),I4,HH (by omega),hlt,HK (by omega)]
  ·rw[HF (by omega),HH (by simp;omega),getElem?_drop]
   simp only[HC,hlt]
   rw[show off+l.length+(k- (off+l.length))=k by omega];simp
inductive F1 (M:Mem):List (Nat×V)->List (Nat×Value)->Prop
 |nil:F1 M [] []
 |cons {i:Nat} {x:V} {u:Value} {xs:List (Nat×V)} {us:List (Nat×Value)} (h:repV M x u) (hr:F1 M xs us):F1 M ((i,x)::xs) ((i,u)::us)
theorem GE{M:Mem}{place:Nat->Option (Nat×Nat)}:∀{xs:List (Nat×V)} {us:List (Nat×Value)} {cells out:List V} {cu:Array Value},F1 M xs us->repA M cells cu.toList->Ev place cells xs=some out->
  ∃U,Instr.fill place cu us=some U/\repA M out U.toList
 |[],us,cells,out,cu,h,hc,hf=>by
  cases h
  simp[Ev] at hf;subst hf
  exact⟨cu,rfl,hc⟩
 |(i,x)::xs,us,cells,out,cu,h,hc,hf=>by
  cases h with
  |cons hx hr=>
   rename_i u us
   simp only[Ev] at hf
   cases hp:place i with
   |none=>simp[hp] at hf
   |some p=>
    obtain⟨off,size⟩:=p
    simp only[hp] at hf
    split at hf
    ·rename_i hcond
     obtain⟨hA,hsz⟩:=Jq hx
     have hl:cu.size=cells.length:=by rw[←HY];exact C9 hc
     have hs:u.cells.size=size:=hsz.trans hcond.1
     have hsp:=QP off u.cells.toList cu (by simp only[HY];omega)
     simp only[HY,hs] at hsp
     have hc':repA M (cells.take off++x.cellsV++cells.drop (off+size)) ((u.cells.toList.zipIdx 0).foldl (fun cs (x:Value×Nat)=>cs.setIfInBounds (off+x.2) x.1) cu).toList:=by
      rw[hsp]
      exact Fh (Fh (F9 hc off) hA) (FA hc (off+size))
     obtain⟨U,hU,hrU⟩:=GE hr hc' hf
     refine⟨U,?_,hrU⟩
     unfold Instr.fill
     simp only[hp,hs]
     rw[HF (by simp;omega), ←hU]
     congr 1
     rw[←Array.foldl_toList,Array.toList_zipIdx]
    ·simp at hf
def PK(P:Program)(t:TypeId):Option (List V×List (Nat×Nat)):=
 match zeroV P t,P.underlying t with
 |some z,some (.struct fs)=>(fs.toList.mapM (fun f=>(P.info? f.type).map fun i=>(f.offset,i.size))).map fun p=>(z,p)
 |some z,some (.array n e)=>(P.info? e).map fun i=>(z,(List.range n).map fun j=>(j*i.size,i.size))
 |_,_=>none
def Cf:List (Nat×Operand)->List D->Option (List (Nat×V))
 |[],[]=>some []
 |(i,_)::ps,d::ds=>match d.toV,Cf ps ds with
  |some x,some xs=>some ((i,x)::xs)
  |_,_=>none
 |_,_=>none
theorem E2{g:Gh}{a:Act}:∀{ps:List (Nat×Operand)} {ds:List D} {xs:List (Nat×V)},Cf ps ds=some xs->Ab g ds (ps.map fun p=>a.eval p.2)->F1 g.M xs (ps.map fun p=>(p.1,a.eval p.2))
 |[],[],xs,h,_=>by simp[Cf] at h;subst h;exact .nil
 |[],_::_,xs,h,_=>by simp[Cf] at h
 |(i,_)::ps,[],xs,h,_=>by simp[Cf] at h
 |(i,x)::ps,d::ds,xs,h,hr=>by
  simp only[Cf] at h
  split at h
  ·rename_i y ys hy hys
   simp at h;subst h
   simp only[HO,Ab] at hr
   obtain⟨u,us',e,h1,h2⟩:=hr
   simp at e
   obtain⟨rfl,rfl⟩:=e
   exact .cons (F5 hy h1) (E2 hys h2)
  ·simp at h
theorem NV{t:TypeId}{parts:Array (Nat×Operand)}(ho:o.op=.build t parts){z:List V}{places:List (Nat×Nat)}(hb:PK P t=some (z,places)){ds:List D}{xs:List (Nat×V)}{out:List V}
  (hx:Cf parts.toList ds=some xs) (hf:Ev (places[·]?) z xs=some out):Ap P o ds σ (.v (.agg out)) σ:=by
 intro E g a w K Q hw hds hK
 simp only[ho,Op.operands] at hds
 have hpr:=E2 hx (a:=a) (g:=g) (by simpa[Function.comp_def] using hds)
 unfold PK at hb
 have key:∃U,P.built t (parts.toList.map fun p=>(p.1,a.eval p.2))=some U/\repA g.M out U.toList:=by
  cases hz:zeroV P t with
  |none=>simp[hz] at hb
  |some z0=>
   obtain⟨i,zv,hi,hz1,hcv⟩:=IY hz
   cases hu:P.underlying t with
   |none=>simp[hz,hu] at hb
   |some dd=>
    cases dd<;>simp only[hz,hu,reduceCtorEq] at hb
    case struct fs=>
     cases hp:fs.toList.mapM (fun f=>(P.info? f.type).map fun i=>(f.offset,i.size)) with
     |none=>simp[hp] at hb
     |some pl=>
      simp[hp] at hb
      obtain⟨rfl,rfl⟩:=hb
      obtain⟨U,hU,hrU⟩:=GE hpr (Eb (M:=g.M) hcv) hf
      exact⟨U,by simpa[Program.built,hi,hu,hz1,hp] using hU,hrU⟩
    case array n e=>
     cases hp:P.info? e with
     |none=>simp[hp] at hb
     |some ie=>
      simp[hp] at hb
      obtain⟨rfl,rfl⟩:=hb
      have hf':Ev (fun i=>some (i*ie.size,ie.size)) z0 xs=some out:=by
       refine JU (fun i p hp'=>?_) xs z0 hf
       have hlt:=(H0.1 hp').1
       simp at hlt
       simpa[hlt] using hp'
      obtain⟨U,hU,hrU⟩:=GE hpr (Eb (M:=g.M) hcv) hf'
      exact⟨U,by simpa[Program.built,hi,hu,hz1,hp] using hU,hrU⟩
 obtain⟨U,hU,hrU⟩:=key
 have:=hK g w (.agg U) hw g.le_refl (by simp only[Ac,BR];exact⟨U.toList,hrU,by simp⟩)
 have hrun:=run_build (P:=P) w t (parts.map fun p=>(p.1,a.eval p.2)) U (by simpa using hU)
 unfold Oper.wp execOp
 simp only[ho]
 simp only[Sem.run_bind]
 rw[show(parts.map fun(x:Nat×Operand)=>match x with|(i,x)=>(i,a.eval x))=parts.map fun p=>(p.1,a.eval p.2) from rfl,hrun]
 exact this
end
def E7(k sz:Nat)(zs:List V)(x:Nat×Nat×List V):Nat×Nat×List V:=if x.1=k then(k,sz,zs) else x
theorem NG{k sz:Nat}{zs:List V}(x:Nat×Nat×List V):(E7 k sz zs x).1=x.1:=by unfold E7;split<;>simp_all
theorem WI.setOwn{E:Ent}{g:Gh}{σ:St}{w w':World}(hw:WI E g σ w){k sz:Nat}{xs zs:List V}(hx:(k,sz,xs)∈σ.own){u u':Value}(hu:g.ι k xs.length=some u){M':Mem}(hle:g.M.le M')
  (keep:∀b,b<w.heap.size->B8 u≠some b->w'.heap[b]?=w.heap[b]?/\∀o,M' b o=g.M b o) (mem:∀b o v,M' b o=some v->w'.cell? ⟨b,o,none⟩=some v)
  (size:w.heap.size<=w'.heap.size) (os:w'.os=w.os) (tape:w'.tape=w.tape) (output:w'.output=w.output)
  (hzs:∀x∈zs,x.size=sz) (hr:repV M' (.list zs) u') (hp:Hf M' w' sz u') (hb:∀b,B8 u'=some b->B8 u=some b∨w.heap.size<=b) (hlen:xs.length<zs.length∨(zs.length=xs.length/\u'=u)) (drawn:AQ w.drawn w'.drawn:=by first|exact AQ.refl _|exact AQ.succ _|assumption):
  WI E { g with M:=M',ι:=fun k' m=>if k'=k/\m=zs.length then some u' else g.ι k' m } ⟨σ.H,σ.own.map (E7 k sz zs)⟩ w'/\
  g.le { g with M:=M',ι:=fun k' m=>if k'=k/\m=zs.length then some u' else g.ι k' m }:=by
 obtain⟨hsz,u0,hu0,_,_,hfr⟩:=hw.rep.own k sz xs hx
 have hlg:g.le { g with M:=M',ι:=fun k' m=>if k'=k/\m=zs.length then some u' else g.ι k' m }:=by
  refine⟨hle,H5 _,fun _ _=>rfl,fun k' m v h=>?_,fun _ _=>rfl⟩
  by_cases e:k'=k/\m=zs.length
  ·obtain⟨rfl,rfl⟩:=e
   simp only[and_self,I6]
   rcases hlen with hl|⟨hl,rfl⟩
   ·rw[hfr _ hl] at h;simp at h
   ·rw[hl] at h;exact hu.symm.trans h
  ·simp only[HF e];exact h
 -- two entries with one tag are one
 have uniq:∀y∈σ.own,y.1=k->y=(k,sz,xs):=by
  intro y hy e
  have hnd:=hw.rep.tags
  clear hfr hlg hw
  generalize σ.own=l at*
  induction l with
  |nil=>simp at hy
  |cons z l ih=>
   simp only[HO,List.nodup_cons] at hnd
   rcases Ib.1 hy with rfl|hy'<;>rcases Ib.1 hx with hx'|hx'
   ·exact hx'.symm
   ·exact absurd (Ie.2 ⟨_,hx',e.symm⟩) hnd.1
   ·subst hx';exact absurd (Ie.2 ⟨_,hy',e⟩) hnd.1
   ·exact ih hx' hy' hnd.2
 have old:∀y∈σ.own,y.1≠k->(if y.1=k/\y.2.2.length=zs.length then some u' else g.ι y.1 y.2.2.length)=g.ι y.1 y.2.2.length:=fun y _ e=>HF (fun h=>e h.1)
 -- each new entry
 have cases_:∀y'∈σ.own.map (E7 k sz zs),(y'=(k,sz,zs))∨(y'∈σ.own/\y'.1≠k):=by
  intro y' hy'
  obtain⟨y,hy,rfl⟩:=Ie.1 hy'
  by_cases e:y.1=k
  ·exact .inl (by simp[E7,e])
  ·exact .inr (by simp only[E7,HF e];exact⟨hy,e⟩)
 have sep0:∀y∈σ.own,y.1≠k->∀v,g.ι y.1 y.2.2.length=some v->∀b,B8 v=some b->B8 u'≠some b:=by
  intro y hy e v hv b hvb hub
  rcases hb b hub with h|h
  ·exact hw.rep.sep (k,sz,xs) hx y hy (fun h=>e h.symm) u v hu hv b h hvb
  ·have:=hw.rep.own_lt hy hv hvb;omega
 refine⟨hw.update (fun b=>B8 u=some b) (fun b h=>hw.owns _ hx u hu b h) (fun b hb1 h=>keep b hb1 h) hle (H5 _) (fun _ _=>rfl) (fun _ _=>rfl) size os tape output ?_ hw.objs ?_,hlg⟩
 ·refine⟨hw.rep.n,mem,fun i cs hi=>?_,hw.rep.inj,fun k' sz' xs' hx'=>?_,?_,fun x1 hx1 y1 hy1 hne u1 u2 h1 h2 b hb1=>?_,fun x1 hx1 u1 h1 b hb1 i cs hi=>?_,fun k' hk' m=>?_,hw.rep.gl.mono hle,hw.rep.gw.keepG fun p hp hlt=>(keep p.1 hlt fun e=>hw.rep.own_ng hx hu e p hp rfl).1⟩
  ·obtain⟨us,rest,e,h2,h3,h4,h5,h6⟩:=hw.rep.obj i cs hi
   obtain⟨k1,k2⟩:=keep _ (GD h2) (fun h=>hw.rep.ownObj _ hx u hu _ h i cs hi rfl)
   exact⟨us,rest,e,k1.trans h2,Ab.mono hlg _ _ h3,h4,fun o=>(k2 o).trans (h5 o),h6⟩
  ·rcases cases_ _ hx' with e|⟨hy,e⟩
   ·simp only[Prod.mk.injEq] at e
    obtain⟨rfl,rfl,rfl⟩:=e
    refine⟨⟨hsz.1,hzs⟩,u',by simp,hr,hp,fun m hm=>?_⟩
    show(if k'=k'/\m=xs'.length then some u' else g.ι k' m)=none
    rw[HF (by omega)]
    exact hfr m (by rcases hlen with h|⟨h,_⟩<;>omega)
   ·obtain⟨h0,v,hv,h3,h4,h5⟩:=hw.rep.own k' sz' xs' hy
    refine⟨h0,v,(old _ hy e).trans hv,h3.mono hle,h4.kept fun b hvb=>keep b (hw.rep.own_lt hy hv hvb) ?_,fun m hm=>?_⟩
    ·exact fun h=>hw.rep.sep (k,sz,xs) hx _ hy (fun h=>e h.symm) u v hu hv b h hvb
    ·simp only[HF (show ¬(k'=k/\m=zs.length) from fun h=>e h.1)]
     exact h5 m hm
  ·rw[List.map_map]
   have:(Prod.fst ∘E7 k sz zs)=Prod.fst:=funext fun x=>NG x
   rw[this];exact hw.rep.tags
  ·rcases cases_ _ hx1 with rfl|⟨hy,e⟩<;>rcases cases_ _ hy1 with rfl|⟨hy',e'⟩
   ·exact absurd rfl hne
   ·simp at h1;subst h1
    have h2':=(old _ hy' e').symm.trans h2
    exact fun h=>sep0 y1 hy' e' u2 h2' b h hb1
   ·simp at h2;subst h2
    exact sep0 x1 hy e u1 ((old _ hy e).symm.trans h1) b hb1
   ·exact hw.rep.sep x1 hy y1 hy' hne u1 u2 ((old _ hy e).symm.trans h1) ((old _ hy' e').symm.trans h2) b hb1
  ·rcases cases_ _ hx1 with rfl|⟨hy,e⟩
   ·simp at h1;subst h1
    rcases hb b hb1 with h|h
    ·exact hw.rep.ownObj _ hx u hu b h i cs hi
    ·have:=hw.rep.obj_lt hi
     intro h';simp only at h';omega
   ·exact hw.rep.ownObj x1 hy u1 ((old _ hy e).symm.trans h1) b hb1 i cs hi
  ·have hne:¬(k'=k):=fun e=>hk' (k,sz,zs) (Ie.2 ⟨_,hx,by simp[E7]⟩) e.symm
   simp only[HF (show ¬(k'=k/\m=zs.length) from fun h=>hne h.1)]
   refine hw.rep.fresh k' (fun y hy e=>?_) m
   have:=hk' (E7 k sz zs y) (Ie.2 ⟨y,hy,rfl⟩)
   rw[NG] at this
   exact this e
 ·intro x1 hx1 u1 h1 b hb1
  rcases cases_ _ hx1 with rfl|⟨hy,e⟩
  ·simp at h1;subst h1
   rcases hb b hb1 with h|h
   ·exact hw.owns _ hx u hu b h
   ·exact .inl (Is hw.size h)
  ·exact hw.owns x1 hy u1 ((old _ hy e).symm.trans h1) b hb1
def Ha(M:Mem)(b:Nat)(us:List Value):Mem:=fun b' o=>if b'=b then us[o]? else M b' o
theorem Tg{g:Gh}{σ:St}{w:World}(h:WRep g σ w){b:Nat}(hb:w.heap.size<=b)(us:List Value):g.M.le (Ha g.M b us):=fun b' o v hm=>by
 have:=h.mem_lt hm
 simp only[Ha,HF (show ¬b'=b by omega)];exact hm
theorem KZ(M:Mem)(b:Nat)(us:List Value):inM (Ha M b us) b 0 us:=fun j v hj=>by simp[Ha,hj]
theorem Kp{M:Mem}{b b':Nat}{us:List Value}(h:b'≠b)(o:Nat):Ha M b us b' o=M b' o:=by simp[Ha,h]
theorem WI.newImm{E:Ent}{g:Gh}{σ:St}{w:World}(hw:WI E g σ w)(us rest:List Value)(e:TypeId):
  WI E { g with M:=Ha g.M w.heap.size us } σ (w.alloc (.cells (us++rest).toArray e))/\g.le { g with M:=Ha g.M w.heap.size us }:=by
 refine⟨hw.grow (Tg hw.rep (H5 _) us) (fun b hb=>⟨heap_alloc_old w _ b hb,Kp (Nat.ne_of_lt hb)⟩) (fun b o v hm=>?_) (by simp) rfl rfl rfl,⟨Tg hw.rep (H5 _) us,H5 _,fun _ _=>rfl,fun _ _ _ h=>h,fun _ _=>rfl⟩⟩
 unfold Ha at hm
 split at hm
 ·rename_i e;subst e
  rw[World.cell?_alloc_new]
  have hlt:=(H0.1 hm).1
  simp[HK hlt,hm]
 ·exact Kb w _ (hw.rep.mem b o v hm)
theorem Fe{M:Mem}{sz:Nat}:∀{xs ys:List V} {us vs:List Value},repE M sz xs us->repE M sz ys vs->repE M sz (xs++ys) (us++vs)
 |[],ys,us,vs,h,h'=>by simp only[repE] at h;simpa[h] using h'
 |x::xs,ys,us,vs,h,h'=>by
  simp only[repE] at h
  obtain⟨u1,u2,rfl,hl,h1,h2⟩:=h
  simp only[IW,repE]
  exact⟨u1,u2++vs,by simp,hl,h1,Fe h2 h'⟩
theorem Gz{M:Mem}{sz:Nat}:∀{xs:List V} {us:List Value},repE M sz xs us->∀u∈us,u.oneCell'=true
 |[],us,h=>by simp only[repE] at h;simp[h]
 |x::xs,us,h=>by
  simp only[repE] at h
  obtain⟨u1,u2,rfl,hl,h1,h2⟩:=h
  intro u hu
  rcases Ij.1 hu with hu|hu
  ·exact L5 h1 u hu
  ·exact Gz h2 u hu
theorem BI{M:Mem}{xs:List V}{u:Value}{sz:Nat}(h:repV M (.list xs) u)(hs:∀x∈xs,x.size=sz)(hsz:0<sz):
  ∃a cap,u=.slice a xs.length cap/\xs.length<=cap/\(xs=[]∨∃b off us,a=some ⟨b,off,none⟩/\inM M b off us/\repE M sz xs us):=by
 rw[AJ] at h
 obtain⟨a,cap,e,hc,h⟩:=h
 refine⟨a,cap,e,hc,?_⟩
 rcases h with h|⟨b,off,sz',us,ha,hsz',hi,hr⟩
 ·exact .inl h
 ·cases xs with
  |nil=>exact .inl rfl
  |cons x xs=>
   have hx:=hs x (by simp)
   have:sz'=sz:=by
    obtain⟨u1,h1,h2,_⟩:=G0 hr (i:=0) (x:=x) (by simp)
    rw[←h2,DX h1,hx]
   subst this
   exact .inr ⟨b,off,us,ha,hi,hr⟩
theorem C0{M:Mem}{xs:List V}{b f sz cap:Nat}{us:List Value}(hsz:0<sz)(hi:inM M b f us)(hr:repE M sz xs us)(hc:xs.length<=cap):repV M (.list xs) (.slice (some ⟨b,f,none⟩) xs.length cap):=by
 rw[AJ]
 exact⟨_,cap,rfl,hc,.inr ⟨b,f,sz,us,rfl,hsz,hi,hr⟩⟩
section
variable {P : Program} {o : Oper} {σ : St} {d : D}
theorem GF(s:Nat):∀(vs:List Value) (i0:Nat) (pre rest:List Value),pre.length=i0*s->(∀v∈vs,v.cells.size=s)->rest.length=vs.length*s->
  Instr.fill (fun i=>some (i*s,s)) (pre++rest).toArray ((vs.zipIdx i0).map fun x=>(x.2,x.1))=some (pre++vs.flatMap (·.cells.toList)).toArray
 |[],i0,pre,rest,_,_,hr=>by
  have:rest=[]:=IE (by simpa using hr)
  subst this;simp[Instr.fill]
 |v::vs,i0,pre,rest,hp,hv,hr=>by
  have hvs:=hv v (by simp)
  have hr':rest.length=s+vs.length*s:=by rw[hr,H3,I8,Nat.one_mul,Nat.add_comm]
  have hsp:=QP (i0*s) v.cells.toList (pre++rest).toArray (by simp only[IB,HC,HY];omega)
  simp only[HY,hvs] at hsp
  have e1:(pre++rest).take (i0*s)=pre:=by rw[←hp];simp
  have e2:(pre++rest).drop (i0*s+s)=rest.drop s:=by rw[←hp];simp
  simp only[e1,e2] at hsp
  have ih:=GF s vs (i0+1) (pre++v.cells.toList) (rest.drop s) (by simp[hp,hvs,I8]) (fun x hx=>hv x (by simp[hx])) (by simp;omega)
  simp only[List.zipIdx_cons,HO]
  unfold Instr.fill
  simp only[hvs]
  rw[HF (by simp;omega)]
  have e3:(v.cells.zipIdx.foldl (fun cs (x:Value×Nat)=>cs.setIfInBounds (i0*s+x.2) x.1) (pre++rest).toArray)=(pre++v.cells.toList++rest.drop s).toArray:=by
   rw[←Array.foldl_toList,Array.toList_zipIdx]
   apply Iz
   rw[hsp]
  rw[e3,ih]
  simp
theorem F4{g:Gh}{sz:Nat}:∀{ds:List D} {xs:List V} {us:List Value},Dk ds=some xs->Ab g ds us->(∀x∈xs,x.size=sz)->repE g.M sz xs (us.flatMap (·.cells.toList))/\(∀v∈us,v.cells.size=sz)
 |[],xs,us,h,hr,_=>by simp[Dk] at h;subst h;simp only[Ab] at hr;subst hr;simp[repE]
 |d::ds,xs,us,h,hr,hs=>by
  simp only[Dk] at h
  split at h
  ·rename_i x xs' hx hxs
   simp at h;subst h
   simp only[Ab] at hr
   obtain⟨u,us',rfl,h2,h3⟩:=hr
   have hv:=F5 hx h2
   obtain⟨_,hsz⟩:=Jq hv
   obtain⟨h4,h5⟩:=F4 hxs h3 (fun y hy=>hs y (by simp[hy]))
   have hu:u.cells.size=sz:=hsz.trans (hs x (by simp))
   refine⟨?_,?_⟩
   ·simp only[List.flatMap_cons,repE]
    exact⟨_,_,rfl,by simpa using hu,E8 hv,h4⟩
   ·intro v hv'
    rcases Ib.1 hv' with rfl|h
    ·exact hu
    ·exact h5 v h
  ·simp at h
theorem DV:∀{ds:List D} {xs:List V},Dk ds=some xs->xs.length=ds.length
 |[],xs,h=>by simp[Dk] at h;simp[←h]
 |d::ds,xs,h=>by
  simp only[Dk] at h
  split at h
  ·rename_i x xs' hx hxs
   simp at h;subst h
   simp[DV hxs]
  ·simp at h
theorem K9{t:TypeId}{len:Nat}{parts:Array (Nat×Operand)}(ho:o.op=.buildSlice t len parts)(hp:parts.toList=((parts.toList.map (·.2)).zipIdx 0).map fun x=>(x.2,x.1))(hlen:parts.size=len)
  {e:TypeId} {sz by':Nat} {z:Option Value} (hs:BW P t=some (e,sz,by',z)) (hz:z.isSome=true) {ds:List D} {xs:List V} (hx:Dk ds=some xs) (hsz:∀x∈xs,x.size=sz) (h0:0<len) (h1:0<sz) (h2:len*sz<=1000):
  Ap P o ds σ (.v (.list xs)) σ:=by
 intro E g a w K Q hw hds hK
 simp only[ho,Op.operands] at hds
 obtain⟨i,hu,hi,rfl,rfl,rfl⟩:=A8 hs
 obtain⟨zz,hzz⟩:=Option.isSome_iff_exists.1 hz
 have hlm:(parts.toList.map fun p=>a.eval p.2).length=len:=by simp[hlen]
 have hds':Ab g ds (parts.toList.map fun p=>a.eval p.2):=by simpa[Function.comp_def] using hds
 obtain⟨hr,hcs⟩:=F4 hx hds' hsz
 have hxl:xs.length=len:=by rw[DV hx, ←A7 hds',hlm]
 have hpos:0<len*i.size:=Nat.mul_pos h0 h1
 have hf:=GF i.size (parts.toList.map fun p=>a.eval p.2) 0 [] ((Array.range (len*i.size)).map (zz.cells[· %zz.cells.size]!)).toList (by simp) hcs (by simp[hlen])
 have hpp:((parts.toList.map fun p=>a.eval p.2).zipIdx 0).map (fun x=>(x.2,x.1))=parts.toList.map fun p=>(p.1,a.eval p.2):=by
  have e1:(parts.toList.map fun p=>a.eval p.2)=(parts.toList.map (·.2)).map a.eval:=by simp
  rw[e1,List.zipIdx_map,List.map_map]
  conv=>rhs;rw[hp,List.map_map]
  rfl
 rw[hpp] at hf
 simp only[nil_append,Array.toArray_toList] at hf
 have hrun:=run_buildSlice (P:=P) w t e len (parts.map fun p=>(p.1,a.eval p.2)) _ i zz hu hi hzz (by omega) (by omega) (by simpa using hf)
 obtain⟨hw',hle⟩:=hw.newImm ((parts.toList.map fun p=>a.eval p.2).flatMap (·.cells.toList)) [] e
 rw[Il] at hw'
 have:=hK _ _ (.slice (some ⟨w.heap.size,0,none⟩) len len) hw' hle (by
  simp only[Ac]
  have:=C0 (cap:=len) h1 (KZ g.M w.heap.size _) (repE.mono hle.M _ _ _ hr) (by omega)
  rw[hxl] at this
  exact this)
 unfold Oper.wp execOp
 simp only[ho]
 simp only[Sem.run_bind]
 rw[show(parts.map fun(x:Nat×Operand)=>match x with|(i,x)=>(i,a.eval x))=parts.map fun p=>(p.1,a.eval p.2) from rfl,hrun]
 exact this
theorem J8{t:TypeId}{parts:Array (Nat×Operand)}(ho:o.op=.buildSlice t 0 parts)(hp:parts= #[]){e:TypeId}{sz by':Nat}{z:Option Value}(hs:BW P t=some (e,sz,by',z)):
  Ap P o [] σ (.v (.list [])) σ:=by
 intro E g a w K Q hw hds hK
 obtain⟨i,hu,hi,rfl,rfl,rfl⟩:=A8 hs
 subst hp
 have:=hK g _ (.slice (some ⟨w.heap.size,0,none⟩) 0 0) (hw.alloc (.cells #[] e)) g.le_refl (by
  simp only[Ac];rw[AJ];exact⟨_,0,rfl,H5 _,.inl rfl⟩)
 unfold Oper.wp execOp
 simpa[ho,Instr.buildSlice,run_underlying hu,sizeOf,typeInfo,hi,Instr.fill,newRow,Oper.upon,show Array.range 0= #[] from rfl] using this
end
section
variable {P : Program} {o : Oper} {σ : St} {d : D}
theorem Jp(w:World)(t ty e:TypeId)(i:TypeInfo)(ht:P.underlying t=some (.slice e))(hi:P.info? e=some i)(a a2:Option Addr)(n c c2:Nat)(hc:n<=c):
  (Builtin.append_ #[t,t] ty #[.slice a n c,.slice a2 0 c2]).run P w=.ok (.slice a n c) w:=by
 have hf:(Builtin.firstCells i.size 0 (.slice a2 0 c2)).run P w=.ok #[] w:=by
  cases a2<;>simp[Builtin.firstCells,loadCells,loadCellsFrom]
 cases a<;>simp[Builtin.append_,run_underlying ht,sizeOf,typeInfo,hi,Builtin.lenOf,hc,hf,storeCells]
theorem run_append_room'(w:World)(t ty e e':TypeId)(i:TypeInfo)(ht:P.underlying t=some (.slice e))(hi:P.info? e=some i)
  (g sLen sCap:Nat) (cur:Array Value) (hg:w.heap[g]?=some (.cells cur e' (0,0)))
  (a:Addr) (m c:Nat) (news:List Value) (hl:news.length=m*i.size) (hnews:∀j u,news[j]?=some u->w.cell? (a.add j)=some u) (h1:∀u∈news,u.oneCell'=true)
  (hroom:sLen+m<=sCap) (hfit:sLen*i.size+news.length<=cur.size):
  (Builtin.append_ #[t,t] ty #[.slice (some ⟨g,0,none⟩) sLen sCap,.slice (some a) m c]).run P w=
   .ok (.slice (some ⟨g,0,none⟩) (sLen+m) sCap) (w.setRow g (cur.toList.take (sLen*i.size)++news++cur.toList.drop (sLen*i.size+news.length)).toArray):=by
 have hf:=run_firstCells_some (P:=P) w i.size m a m c news hl hnews
 have hst:=run_storeCells_at P g (sLen*i.size) e' news 0 cur w hg (by simpa using hfit) h1
 simp only[Iv] at hst
 simp[Builtin.append_,run_underlying ht,sizeOf,typeInfo,hi,Builtin.lenOf,hroom,hf,Addr.add_lit,hst]
theorem Hp(w:World)(t ty e e':TypeId)(i:TypeInfo)(ht:P.underlying t=some (.slice e))(hi:P.info? e=some i)
  (g p sLen sCap:Nat) (cur:Array Value) (hg:w.heap[g]?=some (.cells cur e' (0,0)))
  (a:Addr) (m c:Nat) (news:List Value) (hl:news.length=m*i.size) (hnews:∀j u,news[j]?=some u->w.cell? (a.add j)=some u) (h1:∀u∈news,u.oneCell'=true)
  (hroom:sLen+m<=sCap) (hfit:p+sLen*i.size+news.length<=cur.size):
  (Builtin.append_ #[t,t] ty #[.slice (some ⟨g,p,none⟩) sLen sCap,.slice (some a) m c]).run P w=
   .ok (.slice (some ⟨g,p,none⟩) (sLen+m) sCap) (w.setRow g (cur.toList.take (p+sLen*i.size)++news++cur.toList.drop (p+sLen*i.size+news.length)).toArray):=by
 have hf:=run_firstCells_some (P:=P) w i.size m a m c news hl hnews
 have hst:=run_storeCells_at P g (p+sLen*i.size) e' news 0 cur w hg (by simpa using hfit) h1
 simp only[Iv] at hst
 simp[Builtin.append_,run_underlying ht,sizeOf,typeInfo,hi,Builtin.lenOf,hroom,hf,Addr.add_lit,hst]
theorem J6{E:Ent}{g:Gh}{w:World}(hw:WI E g σ w){t ty e:TypeId}{sz by':Nat}{z:Value}(hs:BW P t=some (e,sz,by',some z))(hzc:z.cells.size=sz){k:Nat}{xs ys:List V}(hx:(k,sz,xs)∈σ.own)
  (hsy:∀y∈ys,y.size=sz) (hlen:(xs.length+ys.length)*by'<=140737488355328) (hlen2:xs.length+ys.length<=140737488355328) {u v:Value} (hu:g.ι k xs.length=some u) (hv:repV g.M (.list ys) v):
  ∃u' w' g',(Builtin.append_ #[t,t] ty #[u,v]).run P w=.ok u' w'/\WI E g' ⟨σ.H,σ.own.map (E7 k sz (xs++ys))⟩ w'/\g.le g'/\Ac g' (.acc k (xs++ys)) u':=by
 obtain⟨⟨hsz,hsx⟩,u0,hu0,hr0,hp0,hfr⟩:=hw.rep.own k sz xs hx
 obtain rfl:u=u0:=by rw[hu] at hu0;simpa using hu0
 obtain⟨i,ht,hi,hisz,hib,hiz⟩:=A8 hs
 have hzs:∀x∈xs++ys,x.size=sz:=fun x hx=>by
  rcases Ij.1 hx with h|h
  ·exact hsx x h
  ·exact hsy x h
 obtain⟨a2,cap2,rfl,hc2,hv⟩:=BI hv hsy hsz
 obtain⟨a1,cap1,e1,hc1,hr1⟩:=BI hr0 hsx hsz
 -- what is left to do once the run and the new header are known
 have fin:∀(u':Value) (w':World) (M':Mem),(Builtin.append_ #[t,t] ty #[u,.slice a2 ys.length cap2]).run P w=.ok u' w'->g.M.le M'->
   (∀b,b<w.heap.size->B8 u≠some b->w'.heap[b]?=w.heap[b]?/\∀o,M' b o=g.M b o)->(∀b o v,M' b o=some v->w'.cell? ⟨b,o,none⟩=some v)->
   w.heap.size<=w'.heap.size->w'.os=w.os->w'.tape=w.tape->w'.output=w.output->repV M' (.list (xs++ys)) u'->Hf M' w' sz u'->(∀b,B8 u'=some b->B8 u=some b∨w.heap.size<=b)->
   (xs.length<(xs++ys).length∨((xs++ys).length=xs.length/\u'=u))->AQ w.drawn w'.drawn->
   ∃u' w' g',(Builtin.append_ #[t,t] ty #[u,.slice a2 ys.length cap2]).run P w=.ok u' w'/\WI E g' ⟨σ.H,σ.own.map (E7 k sz (xs++ys))⟩ w'/\g.le g'/\Ac g' (.acc k (xs++ys)) u':=by
  intro u' w' M' hrun hle keep mem size os tape output hr hp hb hl dr
  obtain⟨h1,h2⟩:=hw.setOwn hx hu hle keep mem size os tape output hzs hr hp hb hl
  exact⟨u',w',_,hrun,h1,h2,by simp only[Ac];exact⟨hr,by simp⟩⟩
 cases hys:ys with
 |nil=>
  subst hys
  refine fin u w g.M ?_ (Mem.le_refl _) (fun b _ _=>⟨rfl,fun _=>rfl⟩) hw.rep.mem (H5 _) rfl rfl rfl (by simpa using hr0) hp0 (fun b hb=>.inl hb) (.inr ⟨by simp,rfl⟩) (AQ.refl _)
  rw[e1]
  exact Jp w t ty e i ht hi _ _ _ _ _ hc1
 |cons y0 ys0=>
  rw[←hys]
  have hne:ys≠ []:=by rw[hys];simp
  have hpos:0<ys.length:=List.length_pos_iff.2 hne
  rcases hv with h|⟨b2,off2,vs,rfl,hi2,hr2⟩
  ·exact absurd h hne
  have hvl:vs.length=ys.length*i.size:=by rw[AU hr2,hisz]
  have hcells2:=D4 hw hi2
  have hvone:=Gz hr2
  have grows:∀(us:List Value) (old:Nat),repE g.M sz xs us->old<xs.length+ys.length->
    (Builtin.append_ #[t,t] ty #[u,.slice (some ⟨b2,off2,none⟩) ys.length cap2]).run P w=
     .ok (.slice (some ⟨w.heap.size,0,none⟩) (xs.length+ys.length) (grownCap w (xs.length+ys.length) old e))
      (w.drew.alloc (.cells (us.toArray++vs.toArray++Builtin.zeroCells z.cells (grownCap w (xs.length+ys.length) old e- (xs.length+ys.length))) e))->
    ∃u' w' g',(Builtin.append_ #[t,t] ty #[u,.slice (some ⟨b2,off2,none⟩) ys.length cap2]).run P w=.ok u' w'/\WI E g' ⟨σ.H,σ.own.map (E7 k sz (xs++ys))⟩ w'/\g.le g'/\Ac g' (.acc k (xs++ys)) u':=by
   intro us old hus hold hrun
   have hge:=grownCap_ge w (xs.length+ys.length) old e
   have hcell:us.toArray++vs.toArray++Builtin.zeroCells z.cells (grownCap w (xs.length+ys.length) old e- (xs.length+ys.length))=((us++vs)++(Builtin.zeroCells z.cells (grownCap w (xs.length+ys.length) old e- (xs.length+ys.length))).toList).toArray:=by
    apply Iz;simp
   rw[hcell] at hrun
   have hE:=Fe hus hr2
   obtain⟨hw2,hle2⟩:=hw.drew.newImm (us++vs) (Builtin.zeroCells z.cells (grownCap w (xs.length+ys.length) old e- (xs.length+ys.length))).toList e
   refine fin _ _ (Ha g.M w.heap.size (us++vs)) hrun hle2.M (fun b hb _=>⟨heap_alloc_old w.drew _ b hb,Kp (Nat.ne_of_lt hb)⟩) hw2.rep.mem (by simp) rfl rfl rfl ?_ ?_ ?_ (.inl (by simp;omega)) (AQ.succ _)
   ·have:=C0 (cap:=grownCap w (xs.length+ys.length) old e) hsz (KZ g.M w.heap.size (us++vs)) (repE.mono hle2.M _ _ _ hE) (by simp;omega)
    simpa using this
   ·refine .inr ⟨w.heap.size,0,xs.length+ys.length,_,_,e,rfl,heap_alloc_new w.drew _,hge,?_,fun o ho=>?_,hw.rep.gw.new (H5 _)⟩
    ·simp only[IB,HC,HY,size_zeroCells,hzc,AU hus,AU hr2, ←I8,Ih]
     exact Nat.mul_le_mul_right _ (by omega)
    ·simp only[Ha,I6]
     refine Ik ?_
     rw[AU hE];simpa using ho
   ·intro b hb
    simp only[B8] at hb
    split at hb
    ·simp at hb
    ·simp at hb;exact .inr (by omega)
  have h63:((xs.length+ys.length:Nat):Int)<=9223372036854775807:=by omega
  have hfit:∀old,old<xs.length+ys.length->Builtin.nextslicecap (xs.length+ys.length) old*i.bytes<=281474976710656:=fun old ho=>growslice_fits ho (by rw[hib];exact hlen)
  have hdrew:∀j v,vs[j]?=some v->w.cell? ((⟨b2,off2,none⟩:Addr).add j)=some v:=hcells2
  rcases hp0 with⟨a,ea⟩|⟨b,f,len,cap,cur,et,eu,hb,hlc,hcc,hMb⟩
  ·-- no room at all
   have hxn:xs=[]:=by
    rw[ea] at e1
    simp at e1
    exact IE e1.2.1.symm
   subst hxn
   simp only[H7,Ih] at*
   subst ea
   cases a with
   |none=>
    refine grows [] 0 (by simp[repE]) hpos ?_
    have:=run_append_nil (P:=P) w t ty e i z ht hi hiz ⟨b2,off2,none⟩ ys.length cap2 vs hvl hdrew hpos (by omega) (by have:=hfit 0 hpos;rw[nextslicecap_zero hpos] at this;exact this)
    simpa using this
   |some a=>
    refine grows [] 0 (by simp[repE]) hpos ?_
    have:=run_append_grow (P:=P) w t ty e i z ht hi hiz a 0 0 [] (by simp) (by simp) ⟨b2,off2,none⟩ ys.length cap2 vs hvl hdrew (by omega) (by simpa using h63) (by simpa using hfit 0 hpos)
    simpa using this
  ·obtain⟨rfl,rfl,rfl⟩:a1=some ⟨b,f,none⟩/\xs.length=len/\cap1=cap:=by
    rw[eu] at e1;simp at e1;exact⟨e1.1.symm,e1.2.1.symm,e1.2.2.symm⟩
   obtain⟨us,hus,hui⟩:∃us,repE g.M sz xs us/\inM g.M b f us:=by
    rcases hr1 with rfl|⟨b',off',us,ea,hi1,hr1⟩
    ·exact⟨[],by simp[repE],fun j v hj=>by simp at hj⟩
    ·simp at ea;obtain⟨rfl,rfl⟩:=ea
     exact⟨us,hr1,hi1⟩
   have hul:=AU hus
   by_cases hroom:xs.length+ys.length<=cap1
   ·-- in place
    have hcur:f+xs.length*i.size+vs.length<=cur.size:=by
     rw[hvl,hisz,Nat.add_assoc, ←I8]
     exact Is (Nat.add_le_add_left (Nat.mul_le_mul_right _ hroom) f) hcc
    have hrun:=Hp (P:=P) w t ty e et i ht hi b f xs.length cap1 cur hb ⟨b2,off2,none⟩ ys.length cap2 vs hvl hdrew hvone hroom hcur
    rw[←eu] at hrun
    have hcap0:cap1≠0:=by omega
    have hob:B8 u=some b:=by rw[eu];simp[B8,hcap0]
    -- the new cells
    let M':Mem:=fun b' o=>if b'=b/\f+xs.length*sz<=o then vs[o- (f+xs.length*sz)]? else g.M b' o
    have hM':g.M.le M':=fun b' o v hm=>by
     simp only[M']
     rw[HF]; ·exact hm
     rintro ⟨rfl,ho⟩
     rw[hMb o ho] at hm;simp at hm
    have hin:inM M' b f (us++vs):=fun j v hj=>by
     simp only[M']
     by_cases hj1:f+xs.length*sz<=f+j
     ·rw[HJ ⟨trivial,hj1⟩,show f+j- (f+xs.length*sz)=j-xs.length*sz by omega]
      rw[HH (by omega),hul] at hj;exact hj
     ·rw[HF (fun h=>hj1 h.2)]
      rw[HK (by omega)] at hj
      have:=hui j v hj;simpa using this
    refine fin _ _ M' hrun hM' (fun b' _ hne=>?_) (fun b' o v hm=>?_) (by simp) rfl rfl rfl ?_ ?_ (fun b' hb'=>?_) (.inl (by simp;omega)) (AQ.refl _)
    ·have hbb:b'≠b:=fun h=>hne (by rw[hob,h])
     refine⟨setRow_other w b b' _ hbb,fun o=>?_⟩
     simp only[M'];rw[HF (fun h=>hbb h.1)]
    ·simp only[M'] at hm
     by_cases hb':b'=b
     ·subst hb'
      rw[cell_setRow_same w b' o cur _ et _ hb]
      have hl1:(cur.toList.take (f+xs.length*i.size)).length=f+xs.length*sz:=by
       simp only[HS,HY,hisz]
       have:=Is (Nat.add_le_add_left (Nat.mul_le_mul_right sz hlc) f) hcc
       omega
      by_cases ho:f+xs.length*sz<=o
      ·rw[HJ ⟨rfl,ho⟩] at hm
       have hlt:=(H0.1 hm).1
       simp only[I1]
       rw[I4,HH (by omega),hl1,HK hlt]
       exact hm
      ·rw[HF (fun h=>ho h.2)] at hm
       have hold:=hw.rep.mem b' o v hm
       simp only[World.cell?,hb] at hold
       simp only[I1]
       rw[I4,HK (by omega),IJ,HJ (by rw[hisz];omega)]
       simpa using hold
     ·rw[HF (fun h=>hb' h.1)] at hm
      rw[cell_setRow_other w b _ _ hb']
      exact hw.rep.mem b' o v hm
    ·have:=C0 (cap:=cap1) hsz hin (repE.mono hM' _ _ _ (Fe hus hr2)) (by simp;omega)
     simpa using this
    ·refine .inr ⟨b,f,xs.length+ys.length,cap1,_,et,rfl,setRow_heap w b cur _ et _ hb,hroom,?_,fun o ho=>?_,hw.rep.own_ng hx hu hob⟩
     ·simp only[IB,HC,HS,I3,HY]
      omega
     ·simp only[M']
      rw[HJ ⟨trivial,by rw[I8] at ho;omega⟩]
      refine Ik ?_
      rw[hvl,hisz];rw[I8] at ho;omega
    ·simp only[B8] at hb'
     rw[HF hcap0] at hb'
     simp at hb'
     exact .inl (by rw[hob,hb'])
   ·have:=run_append_grow (P:=P) w t ty e i z ht hi hiz ⟨b,f,none⟩ xs.length cap1 us (by rw[hul,hisz]) (D4 hw hui) ⟨b2,off2,none⟩ ys.length cap2 vs hvl hdrew (by omega) h63 (hfit cap1 (by omega))
    refine grows us cap1 hus (by omega) ?_
    rw[eu];exact this
theorem LK{x y:Operand}{t:TypeId}(ho:o.op=.call { callee:=.builtin .append,args:= #[x,y],argTypes:= #[t,t]}){e:TypeId}{sz by':Nat}{z:Value}(hs:BW P t=some (e,sz,by',some z))(hzc:z.cells.size=sz)
  {k:Nat} {xs ys:List V} (hx:(k,sz,xs)∈σ.own) (hsy:∀y∈ys,y.size=sz) (hlen:(xs.length+ys.length)*by'<=140737488355328) (hlen2:xs.length+ys.length<=140737488355328):
  Ap P o [.acc k xs,.v (.list ys)] σ (.acc k (xs++ys)) ⟨σ.H,σ.own.map (E7 k sz (xs++ys))⟩:=by
 intro E g a w K Q hw hds hK
 simp only[ho,Op.operands,Call.operands] at hds
 obtain⟨u,v,eq,h1,h2⟩:=Am.1 (by simpa using hds)
 simp only[HB,HZ] at eq
 simp only[Ac] at h1 h2
 obtain⟨u',w',g',hrun,hw',hle,hr⟩:=J6 (P:=P) (ty:=o.type) hw hs hzc hx hsy hlen hlen2 h1.2 h2
 have:=hK g' w' u' hw' hle hr
 unfold Oper.wp execOp
 simp only[ho,resolve,invoke,builtin,Sem.run_bind,Sem.run_pure,Result.andThen_ok,List.map_toArray,HO,Iu,eq.1,eq.2,hrun]
 exact this
end
section
variable {P : Program} {o : Oper} {σ : St} {d : D}
theorem QR{M:Mem}{xs:List V}{a:Option Addr}{len cap sz:Nat}(hr:repV M (.list xs) (.slice a len cap))(hs:∀x∈xs,x.size=sz)(hsz:0<sz){l h:Nat}(hl:l<=h)(hh:h<=xs.length):
  len=xs.length/\xs.length<=cap/\repV M (.list ((xs.take h).drop l)) (.slice (if cap=l then a else a.map (·.add (l*sz))) (h-l) (cap-l)):=by
 obtain⟨a',cap',e,hc,hr2⟩:=BI hr hs hsz
 simp only[Value.slice.injEq] at e
 obtain⟨rfl,rfl,rfl⟩:=e
 refine⟨rfl,hc,?_⟩
 have hlen:((xs.take h).drop l).length=h-l:=by simp;omega
 rw[AJ]
 refine⟨_,cap-l,by rw[hlen],by rw[hlen];omega,?_⟩
 rcases Nat.lt_or_ge l h with hlt|hge
 ·rcases hr2 with rfl|⟨b,off,us,rfl,hi,hr3⟩
  ·simp at hh;omega
  refine .inr ⟨b,off+l*sz,sz,(us.take (h*sz)).drop (l*sz),?_,hsz,GC (GB hi _) _,L3 (Lz hr3 h) l⟩
  rw[HF (by omega)]
  simp[Addr.add_lit]
 ·left
  exact IE (by rw[hlen];omega)
def Ct(n:Nat)(l h:Option Int):Option (Nat×Nat):=
 let h':=h.getD n
 let l':=l.getD 0
 if 0<=l'/\l'<=h'/\h'<=n then some (l'.toNat,h'.toNat) else none
theorem DA(w:World)(isS:Bool)(len cap:Nat)(hc:len<=cap)(l h:Option (IntKind×Int)){l' h':Nat}(hb:Ct len (l.map (·.2)) (h.map (·.2))=some (l',h')):
  (Instr.sliceBounds isS len cap (l.map fun p=>.int p.1 p.2) (h.map fun p=>.int p.1 p.2) none).run P w=.ok (l',h',cap) w:=by
 unfold Ct at hb
 simp only at hb
 split at hb
 ·rename_i hcond
  simp only[HU,Prod.mk.injEq] at hb
  obtain⟨rfl,rfl⟩:=hb
  cases l with
  |none=>
   cases h with
   |none=>simp[Instr.sliceBounds]
   |some p=>
    simp only[IT,Ix,Option.getD_none,IL] at hcond⊢
    simp[Instr.sliceBounds,run_sliceBound w p.1 p.2 cap _ (by omega) (by omega)]
  |some q=>
   cases h with
   |none=>
    simp only[IT,Ix,Option.getD_none,IL] at hcond⊢
    simp[Instr.sliceBounds,run_sliceBound w q.1 q.2 len _ (by omega) (by omega)]
   |some p=>
    simp only[Ix,IL] at hcond⊢
    simp[Instr.sliceBounds,run_sliceBound w p.1 p.2 cap _ (by omega) (by omega),run_sliceBound w q.1 q.2 p.2.toNat _ (by omega) (by omega)]
 ·simp at hb
def En:Option (IntKind×Int)->List D
 |none=>[]
 |some p=>[.v (.int p.1 p.2)]
theorem RE{t:TypeId}{x:Operand}{lo hi:Option Operand}(ho:o.op=.slice t x lo hi none){e:TypeId}{sz by':Nat}{z:Option Value}(hs:BW P t=some (e,sz,by',z)){xs:List V}(hsx:∀x∈xs,x.size=sz)(hsz:0<sz)
  (l h:Option (IntKind×Int)) (hlo:lo.isSome=l.isSome) (hhi:hi.isSome=h.isSome) {l' h':Nat} (hb:Ct xs.length (l.map (·.2)) (h.map (·.2))=some (l',h')):
  Ap P o (.v (.list xs)::(En l++En h)) σ (.v (.list ((xs.take h').drop l'))) σ:=by
 refine Ar fun E g ρ w hw hds=>?_
 obtain⟨i,hu,hi',rfl,rfl,rfl⟩:=A8 hs
 have hb2:=hb
 unfold Ct at hb2
 simp only at hb2
 split at hb2
 case isFalse=>simp at hb2
 rename_i hcond
 simp only[HU,Prod.mk.injEq] at hb2
 have main:∀u (lv hv:Option Value),ρ x=u->lv=l.map (fun p=>Value.int p.1 p.2)->hv=h.map (fun p=>Value.int p.1 p.2)->lo.map ρ=lv->hi.map ρ=hv->repV g.M (.list xs) u->
   ∃u,(execOp ρ o).run P w=.ok (.value u) w/\Ac g (.v (.list ((xs.take h').drop l'))) u:=by
  intro u lv hv eu el eh e1 e2 hr
  obtain⟨a,cap,rfl,hc,_⟩:=AJ.1 hr
  obtain⟨_,_,hres⟩:=QR hr hsx hsz (l:=l') (h:=h') (by omega) (by omega)
  refine⟨_,?_,by simp only[Ac];exact hres⟩
  have hbr:=DA (P:=P) w true xs.length cap hc l h hb
  simp only[execOp,ho,eu,e1,e2,el,eh,IT,Instr.sliceAt,Instr.slice,Sem.run_bind,run_underlying hu,Result.andThen_ok,hbr]
  simp[sizeOf,typeInfo,hi']
 simp only[ho,Op.operands] at hds
 cases lo with
 |none=>
  cases l with
  |some _=>simp at hlo
  |none=>
   cases hi with
   |none=>
    cases h with
    |some _=>simp at hhi
    |none=>
     obtain⟨u,eu,h1⟩:=Av.1 (by simpa[En] using hds)
     simp at eu
     exact main u none none eu rfl rfl rfl rfl (by simpa only[Ac] using h1)
   |some ho'=>
    cases h with
    |none=>simp at hhi
    |some p=>
     obtain⟨u,v,eu,h1,h2⟩:=Am.1 (by simpa[En] using hds)
     simp only[HB,HZ] at eu
     simp only[Ac,As] at h2
     exact main u none _ eu.1 rfl (by simp;rfl) rfl (by simp[eu.2,h2]) (by simpa only[Ac] using h1)
 |some lo'=>
  cases l with
  |none=>simp at hlo
  |some q=>
   cases hi with
   |none=>
    cases h with
    |some _=>simp at hhi
    |none=>
     obtain⟨u,v,eu,h1,h2⟩:=Am.1 (by simpa[En] using hds)
     simp only[HB,HZ] at eu
     simp only[Ac,As] at h2
     exact main u _ none eu.1 (by simp;rfl) rfl (by simp[eu.2,h2]) rfl (by simpa only[Ac] using h1)
   |some ho'=>
    cases h with
    |none=>simp at hhi
    |some p=>
     obtain⟨u,v,v2,eu,h1,h2,h3⟩:=DW.1 (by simpa[En] using hds)
     simp only[HB,HZ] at eu
     simp only[Ac,As] at h2 h3
     exact main u _ _ eu.1 (by simp;rfl) (by simp;rfl) (by simp[eu.2.1,h2]) (by simp[eu.2.2,h3]) (by simpa only[Ac] using h1)
theorem RD{t:TypeId}{x:Operand}{lo hi:Option Operand}(ho:o.op=.slice t x lo hi none)(hu:P.underlying t=some .string){s:List UInt8}
  (l h:Option (IntKind×Int)) (hlo:lo.isSome=l.isSome) (hhi:hi.isSome=h.isSome) {l' h':Nat} (hb:Ct s.length (l.map (·.2)) (h.map (·.2))=some (l',h')):
  Ap P o (.v (.str s)::(En l++En h)) σ (.v (.str ((s.take h').drop l'))) σ:=by
 refine Ar fun E g ρ w hw hds=>?_
 have main:∀u (lv hv:Option Value),ρ x=u->lv=l.map (fun p=>Value.int p.1 p.2)->hv=h.map (fun p=>Value.int p.1 p.2)->lo.map ρ=lv->hi.map ρ=hv->u=.string ⟨s.toArray⟩->
   ∃u,(execOp ρ o).run P w=.ok (.value u) w/\Ac g (.v (.str ((s.take h').drop l'))) u:=by
  intro u lv hv eu el eh e1 e2 hr
  subst hr
  refine⟨.string ⟨((s.take h').drop l').toArray⟩,?_,by simp only[Ac,AI]⟩
  have hbr:=DA (P:=P) w false s.length s.length (H5 _) l h hb
  have hx:(⟨s.toArray⟩:ByteArray).extract l' h'=⟨((s.take h').drop l').toArray⟩:=by
   apply ByteArray.ext
   apply Iz
   rw[Lib.extract_data]
   simp[List.drop_take]
  simp only[execOp,ho,eu,e1,e2,el,eh,IT,Instr.sliceAt,Instr.slice,Sem.run_bind,run_underlying hu,Result.andThen_ok,Option.isSome_none,IV,if_false,ME]
  simp[hbr,hx]
 simp only[ho,Op.operands] at hds
 cases lo with
 |none=>
  cases l with
  |some _=>simp at hlo
  |none=>
   cases hi with
   |none=>
    cases h with
    |some _=>simp at hhi
    |none=>
     obtain⟨u,eu,h1⟩:=Av.1 (by simpa[En] using hds)
     simp at eu
     exact main u none none eu rfl rfl rfl rfl (by simpa only[Ac,AI] using h1)
   |some ho'=>
    cases h with
    |none=>simp at hhi
    |some p=>
     obtain⟨u,v,eu,h1,h2⟩:=Am.1 (by simpa[En] using hds)
     simp only[HB,HZ] at eu
     simp only[Ac,As] at h2
     exact main u none _ eu.1 rfl (by simp;rfl) rfl (by simp[eu.2,h2]) (by simpa only[Ac,AI] using h1)
 |some lo'=>
  cases l with
  |none=>simp at hlo
  |some q=>
   cases hi with
   |none=>
    cases h with
    |some _=>simp at hhi
    |none=>
     obtain⟨u,v,eu,h1,h2⟩:=Am.1 (by simpa[En] using hds)
     simp only[HB,HZ] at eu
     simp only[Ac,As] at h2
     exact main u _ none eu.1 (by simp;rfl) rfl (by simp[eu.2,h2]) rfl (by simpa only[Ac,AI] using h1)
   |some ho'=>
    cases h with
    |none=>simp at hhi
    |some p=>
     obtain⟨u,v,v2,eu,h1,h2,h3⟩:=DW.1 (by simpa[En] using hds)
     simp only[HB,HZ] at eu
     simp only[Ac,As] at h2 h3
     exact main u _ _ eu.1 (by simp;rfl) (by simp;rfl) (by simp[eu.2.1,h2]) (by simp[eu.2.2,h3]) (by simpa only[Ac,AI] using h1)
theorem KF(z:Value)(n:Nat):madeCells #[z] n=(List.replicate n z).toArray:=by
 apply Iz
 apply ext_getElem?
 intro k
 simp only[madeCells]
 by_cases hk:k<n
 ·simp[hk,Nat.mod_one]
 ·simp[hk]
theorem U6{t:TypeId}{x y:Operand}(ho:o.op=.makeSlice t x y){e:TypeId}{sz by':Nat}{z:Value}(hs:BW P t=some (e,sz,by',some z))(h1:0<sz)(k:Nat)(hk:∀x∈σ.own,x.1≠k){k1 k2:IntKind}{n:Int}(h0:0<=n)(hn:(by':Int)*n<=281474976710656)(hn2:n<=9223372036854775807):
  Ap P o [.v (.int k1 0),.v (.int k2 n)] σ (.acc k []) ⟨σ.H,(k,sz,[])::σ.own⟩:=by
 intro E g a w K Q hw hds hK
 simp only[ho,Op.operands,Am] at hds
 obtain⟨u,v,eq,h1',h2⟩:=hds
 simp only[HO,Iu,HB,HZ] at eq
 obtain⟨e1,e2⟩:=eq
 simp only[Ac,As] at h1' h2
 subst h1' h2
 obtain⟨i,hu,hi,hsz,hby,hzz⟩:=A8 hs
 have hrun:=run_make (P:=P) w t e i z hu hi hzz k1 k2 0 n (HP _) h0 (by rw[hby];exact hn) hn2
 have hrep:repV g.M (.list []) (.slice (some ⟨w.heap.size,0,none⟩) 0 n.toNat):=by rw[AJ];exact⟨_,n.toNat,rfl,HW _,.inl rfl⟩
 obtain⟨hw',hle⟩:=(hw.alloc (.cells (madeCells z.cells (n.toNat*i.size)) e)).addOwn (k:=k) (sz:=sz) (xs:=[]) (u:=.slice (some ⟨w.heap.size,0,none⟩) 0 n.toNat) hk ⟨h1,by simp⟩
  hrep (.inr ⟨w.heap.size,0,0,n.toNat,_,e,rfl,heap_alloc_new w _,HW _,by rw[size_madeCells,hsz,Ih];exact H5 _,fun o _=>hw.rep.new_none (H5 _) o,hw.rep.gw.new (H5 _)⟩) (fun b hb=>by
   simp only[B8] at hb
   split at hb
   ·simp at hb
   ·simp at hb;subst hb
    exact⟨hw.size,fun i cs hi=>Nat.ne_of_lt (hw.rep.obj_lt hi),fun x hx u' hu' hb'=>by have:=hw.rep.own_lt hx hu' hb';omega⟩)
 have:=hK _ _ _ hw' hle (by simp only[Ac];exact⟨hrep,by simp⟩)
 unfold Oper.wp execOp
 simp only[ho,e1,e2,Sem.run_bind,hrun,Result.andThen_ok]
 exact this
end
def D.plain:D->Bool
 |.v _=>true
 |_=>false
theorem Gy{g:Gh}:∀{ds:List D} {xs:List V} {us:List Value},Dk ds=some xs->Ab g ds us->Eh g.M xs us
 |[],xs,us,h,hr=>by simp[Dk] at h;subst h;simpa[Ab,Eh] using hr
 |d::ds,xs,us,h,hr=>by
  simp only[Dk] at h
  split at h
  ·rename_i x xs' hx hxs
   simp at h;subst h
   simp only[Ab] at hr
   obtain⟨u,us',rfl,h2,h3⟩:=hr
   simp only[Eh]
   obtain⟨ws,h4,h5⟩:=F5 hx h2
   exact⟨u,us',ws,rfl,h4,h5,Gy hxs h3⟩
  ·simp at h
theorem CV{g:Gh}:∀{xs:List V} {us:List Value},Eh g.M xs us->Ab g (xs.map .v) us
 |[],us,h=>by simpa[Ab,Eh] using h
 |x::xs,us,h=>by
  simp only[Eh] at h
  obtain⟨u,us',ws,rfl,h1,h2,h3⟩:=h
  simp only[HO,Ab,Ac]
  exact⟨u,us',rfl,⟨ws,h1,h2⟩,CV h3⟩
section
variable {P : Program} {o : Oper} {σ : St} {d : D}
theorem MP{f:FuncId}{first captured:Array Operand}(ho:o.op=.makeFunc (.func f) first captured){fs cs:List D}{xs ys:List V}(hl:fs.length=first.size)(hf:Dk fs=some xs)(hc:Dk cs=some ys):
  Ap P o (fs++cs) σ (.v (.fn f xs ys)) σ:=by
 refine Ar fun E g ρ w hw hds=>?_
 simp only[ho,Op.operands,Array.toList_append,IC] at hds
 have h1:=Cj hds fs.length
 have h2:=Ck hds fs.length
 have hl':(first.toList.map ρ).length=fs.length:=by simp[hl]
 rw[take_left,List.take_left' hl'] at h1
 rw[List.drop_left,List.drop_left' hl'] at h2
 refine⟨.func (.func f) (first.map ρ) (captured.map ρ),?_,?_⟩
 ·simp[execOp,ho,Instr.makeFunc]
 ·simp only[Ac,Gx]
  exact⟨first.toList.map ρ,captured.toList.map ρ,by simp[←Array.toList_map],Gy hf h1,Gy hc h2⟩
end
theorem WI.setObjG{E:Ent}{g:Gh}{σ:St}{w w':World}(hw:WI E g σ w){M':Mem}(hle:g.M.le M'){q:Nat}{cs:List D}{oc:Option (List D)}(hq:σ.H[q]?=some (some cs))
  (hb:∀cs',oc=some cs'->∃us rest e,w'.heap[g.β q]?=some (.cells (us++rest).toArray e (0,0))/\Ab { g with M:=M' } cs' us/\(∀c∈cs',c.one=true)/\(∀o,M' (g.β q) o=none)/\(us++rest).length=g.κ q)
  (keep:∀b,b<w.heap.size->b≠g.β q->w'.heap[b]?=w.heap[b]?/\∀o,M' b o=g.M b o) (mem:∀b o v,M' b o=some v->w'.cell? ⟨b,o,none⟩=some v)
  (size:w.heap.size<=w'.heap.size) (os:w'.os=w.os) (tape:w'.tape=w.tape) (output:w'.output=w.output) (drawn:AQ w.drawn w'.drawn:=by first|exact AQ.refl _|exact AQ.succ _|assumption):
  WI E { g with M:=M' } ⟨σ.H.set q oc,σ.own⟩ w':=by
 have hlg:g.le { g with M:=M' }:=⟨hle,H5 _,fun _ _=>rfl,fun _ _ _ h=>h,fun _ _=>rfl⟩
 have split:∀(i:Nat) (cs1:List D),(σ.H.set q oc)[i]?=some (some cs1)->(i=q/\oc=some cs1)∨(i≠q/\σ.H[i]?=some (some cs1)):=by
  intro i cs1 hi
  rw[getElem?_set] at hi
  split at hi
  ·rename_i e;subst e
   split at hi
   ·simp at hi;exact .inl ⟨rfl,hi⟩
   ·simp at hi
  ·rename_i e;exact .inr ⟨fun h=>e h.symm,hi⟩
 have live:∀(i:Nat) (cs1:List D),(σ.H.set q oc)[i]?=some (some cs1)->∃cs2,σ.H[i]?=some (some cs2):=by
  intro i cs1 hi
  rcases split i cs1 hi with⟨rfl,_⟩|⟨_,h⟩
  ·exact⟨cs,hq⟩
  ·exact⟨_,h⟩
 refine hw.update (fun b=>b=g.β q) (fun b e=>by subst e;exact hw.objs q cs hq) (fun b hb hne=>keep b hb hne) hle (H5 _) (fun _ _=>rfl) (fun _ _=>rfl) size os tape output ?_ ?_ hw.owns
 ·refine⟨by simp[hw.rep.n],mem,fun i cs1 hi=>?_,fun i j c1 c2 hi hj hij=>?_,fun k sz xs hx=>?_,hw.rep.tags,hw.rep.sep,fun x hx u hu b hb' i cs1 hi=>?_,hw.rep.fresh,hw.rep.gl.mono hle,hw.rep.gw.keepG fun p hp hlt=>(keep p.1 hlt (hw.rep.obj_ng hq p hp)).1⟩
  ·rcases split i cs1 hi with⟨rfl,e⟩|⟨hne,h⟩
   ·exact hb cs1 e
   ·obtain⟨us',rest',e',h2,h3,h4,h5,h6⟩:=hw.rep.obj i cs1 h
    obtain⟨k1,k2⟩:=keep _ (GD h2) (fun e=>hne (hw.rep.inj i q _ _ h hq e))
    exact⟨us',rest',e',k1.trans h2,Ab.mono hlg _ _ h3,h4,fun o=>(k2 o).trans (h5 o),h6⟩
  ·obtain⟨c3,h3⟩:=live i c1 hi
   obtain⟨c4,h4⟩:=live j c2 hj
   exact hw.rep.inj i j _ _ h3 h4 hij
  ·obtain⟨h0,u,hu,h3,h4,h5⟩:=hw.rep.own k sz xs hx
   refine⟨h0,u,hu,h3.mono hle,h4.kept fun b hb'=>keep b (hw.rep.own_lt hx hu hb') ?_,h5⟩
   exact fun e=>hw.rep.ownObj _ hx u hu b hb' q cs hq e.symm
  ·obtain⟨c3,h3⟩:=live i cs1 hi
   exact hw.rep.ownObj x hx u hu b hb' i c3 h3
 ·intro i cs1 hi
  obtain⟨c3,h3⟩:=live i cs1 hi
  exact hw.objs i c3 h3
mutual
def D.pl:D->Bool
 |.v _=>true
 |.raw _=>true
 |.rv .. =>true
 |.tup ds=>D.pls ds
 |.err=>true
 |.undef=>true
 |_=>false
def D.pls:List D->Bool
 |[]=>true
 |d::ds=>d.pl&&D.pls ds
end
mutual
theorem K5{g g':Gh}(hM:g'.M=g.M):∀{d:D} {u:Value},d.pl=true->Ac g d u->Ac g' d u
 |.v x,u,_,h=>by simp only[Ac] at h⊢;rw[hM];exact h
 |.tup ds,u,hp,h=>by
  simp only[Ac] at h⊢
  obtain⟨us,e,h1⟩:=h
  exact⟨us,e,AV hM (by simpa[D.pl] using hp) h1⟩
 |.undef,u,_,_=>by simp only[Ac]
 |.raw x,u,_,h=>by simpa only[Ac] using h
 |.err,u,_,h=>by simpa only[Ac] using h
 |.rv x u0,u,_,h=>by simp only[Ac] at h⊢;rw[hM];exact h
 |.acc ..,_,hp,_=>by simp[D.pl] at hp
 |.ptr ..,_,hp,_=>by simp[D.pl] at hp
 |.arr ..,_,hp,_=>by simp[D.pl] at hp
 |.dagg ..,_,hp,_=>by simp[D.pl] at hp
 |.dfn ..,_,hp,_=>by simp[D.pl] at hp
theorem AV{g g':Gh}(hM:g'.M=g.M):∀{ds:List D} {us:List Value},D.pls ds=true->Ab g ds us->Ab g' ds us
 |[],us,_,h=>by simpa[Ab] using h
 |d::ds,us,hp,h=>by
  simp only[D.pls,Hy] at hp
  simp only[Ab] at h⊢
  obtain⟨u,us',e,h1,h2⟩:=h
  exact⟨u,us',e,K5 hM hp.1 h1,AV hM hp.2 h2⟩
end
theorem C2(xs:List V):D.pls (xs.map .v)=true:=by induction xs<;>simp_all [D.pls,D.pl]
theorem ED:∀(a b:List D),D.pls (a++b)=(D.pls a&&D.pls b)
 |[],b=>by simp[D.pls]
 |d::a,b=>by simp[D.pls,ED a b,Bool.and_assoc]
section
variable {P : Program} {o : Oper} {σ : St} {d : D}
theorem F2{_E:Ent}{_g:Gh}{a:Act}{w:World}{K:Act->World->Prop}{Q:Exit->Act->World->Prop}{c:Call}{fo:Operand}(ho:o.op=.call c)(hc:c.callee=.value fo){f:FuncId}(hcall:Lb P f){us vs ws:List Value}
  (hf:a.eval fo=.func (.func f) us.toArray vs.toArray) (hargs:c.args.toList.map a.eval=ws)
  (h:Calls P f (us++ws++vs).toArray w fun e w'=>∃u,e=.returned u/\K (a.put o.dst u) w'):o.wp P a w K Q:=by
 obtain⟨fn,h1,h2,h3⟩:=hcall
 have hargs':c.args.map a.eval=ws.toArray:=by apply Iz;simpa using hargs
 unfold Oper.wp execOp
 simp only[ho,resolve,hc,hf,hargs',Deferred.ofValue,Sem.run_bind,Sem.run_pure,Result.andThen_ok,invoke,callFunc,run_program,h1,h2,h3,IV,if_false]
 have e:us.toArray++ws.toArray++vs.toArray=(us++ws++vs).toArray:=by simp
 rw[e]
 refine Calls.mono h fun e w' he=>?_
 obtain⟨u,rfl,hk⟩:=he
 exact hk
theorem CZ{g:Gh}{a:Act}{c:Call}{fo:Operand}(ho:o.op=.call c)(hc:c.callee=.value fo){f:FuncId}{fs cs:List V}{ds:List D}(h:Ab g (.v (.fn f fs cs)::ds) (o.op.operands.toList.map a.eval)):
  ∃us vs ws,a.eval fo=.func (.func f) us.toArray vs.toArray/\c.args.toList.map a.eval=ws/\Ab g (fs.map .v) us/\Ab g (cs.map .v) vs/\Ab g ds ws:=by
 simp only[ho,Op.operands,Call.operands,hc] at h
 have h':Ab g (.v (.fn f fs cs)::ds) (a.eval fo::c.args.toList.map a.eval):=by simpa using h
 simp only[Ab] at h'
 obtain⟨u,us',e,h1,h2⟩:=h'
 simp only[HB] at e
 obtain⟨e1,e2⟩:=e
 simp only[Ac,Gx] at h1
 obtain⟨us,vs,e3,h3,h4⟩:=h1
 exact⟨us,vs,us',e1.trans e3,e2,CV h3,CV h4,h2⟩
theorem WRep.empty{g:Gh}{w:World}(h:WRep g σ w):WRep { M:=g.M,β:=g.β,n:=0,ι:=fun _ _=>none,κ:=g.κ } ⟨[],[]⟩ w where
 n:=rfl
 mem:=h.mem
 gl:=h.gl
 gw:=h.gw
 obj:=fun i cs hi=>by simp at hi
 inj:=fun i j cs ds hi=>by simp at hi
 own:=fun k sz xs hx=>by simp at hx
 tags:=by simp
 sep:=fun x hx=>by simp at hx
 ownObj:=fun x hx=>by simp at hx
 fresh:=fun _ _ _=>rfl
theorem Fl{g:Gh}{w:World}{b:Nat}:¬Ent.priv ⟨g,w,⟨[],[]⟩⟩ b:=by
 rintro (⟨i,cs,h,_⟩|⟨x,h,_⟩)
 ·simp at h
 ·simp at h
theorem WI.back0{E:Ent}{g gc gc':Gh}{w w':World}{σc':St}(hw:WI E g σ w)(hM:gc.M=g.M)(h:WI ⟨gc,w,⟨[],[]⟩⟩ gc' σc' w'):WI E { g with M:=gc'.M } σ w'/\g.le { g with M:=gc'.M }:=by
 have hle:g.M.le gc'.M:=by rw[←hM];exact h.M
 refine⟨hw.grow hle (fun b hb=>?_) h.rep.mem h.size h.os h.tape h.output (drawn:=h.drawn),⟨hle,H5 _,fun _ _=>rfl,fun _ _ _ h=>h,fun _ _=>rfl⟩⟩
 obtain⟨h1,h2⟩:=h.keep b hb Fl
 exact⟨h1,fun o=>by rw[h2 o];simp only[hM]⟩
theorem NU{c:Call}{fo:Operand}(ho:o.op=.call c)(hc:c.callee=.value fo){f:FuncId}{fs cs:List V}{ds:List D}(hp:D.pls ds=true)(hd:d.pl=true)
  (hspec:Aa P f (fs.map .v++ds++cs.map .v) ⟨[],[]⟩ d ⟨[],[]⟩):Ap P o (.v (.fn f fs cs)::ds) σ d σ:=by
 intro E g a w K Q hw hds hK
 obtain⟨us,vs,ws,hf,hargs,h1,h2,h3⟩:=CZ ho hc hds
 refine F2 (_E:=E) (_g:=g) ho hc hspec.1 hf hargs ?_
 have hargs':Ab { M:=g.M,β:=g.β,n:=0,ι:=fun _ _=>none,κ:=g.κ } (fs.map .v++ds++cs.map .v) (us++ws++vs):=
  AV (by rfl) (by simp[ED,C2,hp]) (Aw (Aw h1 h3) h2)
 refine Calls.mono (hspec.2 _ w _ hw.rep.empty hargs') ?_
 rintro e w' ⟨u,g',rfl,hw',hr⟩
 obtain⟨h4,h5⟩:=hw.back0 (by rfl) hw'
 exact⟨u,rfl,hK _ _ _ h4 h5 (K5 (by rfl) hd hr)⟩
theorem G5{c:Call}{fo:Operand}(ho:o.op=.call c)(hc:c.callee=.value fo){f:FuncId}{fs cs:List V}{ds:List D}(hp:D.pls ds=true){k' sz:Nat}{xs:List V}(k:Nat)(hk:∀x∈σ.own,x.1≠k)
  (hspec:Aa P f (fs.map .v++ds++cs.map .v) ⟨[],[]⟩ (.acc k' xs) ⟨[],[(k',sz,xs)]⟩):Ap P o (.v (.fn f fs cs)::ds) σ (.acc k xs) ⟨σ.H,(k,sz,xs)::σ.own⟩:=by
 intro E g a w K Q hw hds hK
 obtain⟨us,vs,ws,hf,hargs,h1,h2,h3⟩:=CZ ho hc hds
 refine F2 (_E:=E) (_g:=g) ho hc hspec.1 hf hargs ?_
 have hargs':Ab { M:=g.M,β:=g.β,n:=0,ι:=fun _ _=>none,κ:=g.κ } (fs.map .v++ds++cs.map .v) (us++ws++vs):=
  AV (by rfl) (by simp[ED,C2,hp]) (Aw (Aw h1 h3) h2)
 refine Calls.mono (hspec.2 _ w _ hw.rep.empty hargs') ?_
 rintro e w' ⟨u,g',rfl,hw',hr⟩
 obtain⟨h4,h5⟩:=hw.back0 (by rfl) hw'
 simp only[Ac] at hr
 obtain⟨hsz,u',hu',hr',hp',_⟩:=hw'.rep.own k' sz xs (by simp)
 obtain rfl:u=u':=by rw[hr.2] at hu';simpa using hu'
 obtain⟨h6,h7⟩:=h4.addOwn (k:=k) (sz:=sz) (xs:=xs) (u:=u) hk hsz hr' hp' (fun b hb=>by
  rcases hw'.owns (k',sz,xs) (by simp) u hr.2 b hb with h|h
  ·refine⟨Is hw.size h,fun i cs hi=>?_,fun x hx v hv hvb=>?_⟩
   ·have:=hw.rep.obj_lt hi;simp only at h⊢;omega
   ·have:=hw.rep.own_lt hx hv hvb;simp only at h;omega
  ·exact absurd h Fl)
 exact⟨u,rfl,hK _ _ _ h6 (Gh.le_trans h5 h7) (by simp only[Ac];exact⟨hr',by simp⟩)⟩
inductive Dj (q:Nat):List D->List D->Prop
 |nil:Dj q [] []
 |pl {d:D} {ds dc:List D} (hp:d.pl=true) (h:Dj q ds dc):Dj q (d::ds) (d::dc)
 |ptr {off:Nat} {ds dc:List D} (h:Dj q ds dc):Dj q (.ptr q off::ds) (.ptr 0 off::dc)
 |arr {off len:Nat} {ds dc:List D} (h:Dj q ds dc):Dj q (.arr q off len::ds) (.arr 0 off len::dc)
theorem Dj.rep{q:Nat}{g gc:Gh}(hM:gc.M=g.M)(hβ:gc.β 0=g.β q)(hn:0<gc.n):∀{ds dc:List D},Dj q ds dc->∀{us:List Value},Ab g ds us->Ab gc dc us
 |_,_,.nil,us,h=>by simpa[Ab] using h
 |_,_,.pl hp h',us,h=>by
  simp only[Ab] at h⊢
  obtain⟨u,us',e,h1,h2⟩:=h
  exact⟨u,us',e,K5 hM hp h1,Dj.rep hM hβ hn h' h2⟩
 |_,_,.ptr h',us,h=>by
  simp only[Ab] at h⊢
  obtain⟨u,us',e,h1,h2⟩:=h
  refine⟨u,us',e,?_,Dj.rep hM hβ hn h' h2⟩
  simp only[Ac] at h1⊢
  exact⟨hn,by rw[hβ];exact h1.2⟩
 |_,_,.arr h',us,h=>by
  simp only[Ab] at h⊢
  obtain⟨u,us',e,h1,h2⟩:=h
  refine⟨u,us',e,?_,Dj.rep hM hβ hn h' h2⟩
  simp only[Ac] at h1⊢
  exact⟨hn,by rw[hβ];exact h1.2⟩
theorem WRep.one{g:Gh}{w:World}(h:WRep g σ w){q:Nat}{cs:List D}(hq:σ.H[q]?=some (some cs))(hp:D.pls cs=true):WRep { M:=g.M,β:=fun _=>g.β q,n:=1,ι:=fun _ _=>none,κ:=fun _=>g.κ q } ⟨[some cs],[]⟩ w where
 n:=rfl
 mem:=h.mem
 gl:=h.gl
 gw:=h.gw
 obj:=fun i cs' hi=>by
  cases i with
  |zero=>
   simp at hi;subst hi
   obtain⟨us,rest,e,hb,hr,h1,hM,hκ⟩:=h.obj q cs hq
   exact⟨us,rest,e,hb,AV (by rfl) hp hr,h1,hM,hκ⟩
  |succ i=>simp at hi
 inj:=fun i j cs1 cs2 hi hj _=>by
  cases i with
  |zero=>
   cases j with
   |zero=>rfl
   |succ j=>simp at hj
  |succ i=>simp at hi
 own:=fun k sz xs hx=>by simp at hx
 tags:=by simp
 sep:=fun x hx=>by simp at hx
 ownObj:=fun x hx=>by simp at hx
 fresh:=fun _ _ _=>rfl
theorem NS{M:Mem}{b0:Nat}{w:World}{b:Nat}{ι:Nat->Nat->Option Value}{κ:Nat->Nat}{cs:List D}(h:Ent.priv ⟨{ M,β:=fun _=>b0,n:=1,ι,κ },w,⟨[some cs],[]⟩⟩ b):b=b0:=by
 rcases h with⟨i,cs',hi,e⟩|⟨x,hx,_⟩
 ·exact e
 ·simp at hx
theorem WI.back1{E:Ent}{g g':Gh}{w w':World}{q:Nat}{cs cs':List D}{own':List (Nat×Nat×List V)}(hw:WI E g σ w)(hq:σ.H[q]?=some (some cs))(hp':D.pls cs'=true)
  (h:WI ⟨{ M:=g.M,β:=fun _=>g.β q,n:=1,ι:=fun _ _=>none,κ:=fun _=>g.κ q },w,⟨[some cs],[]⟩⟩ g' ⟨[some cs'],own'⟩ w'):WI E { g with M:=g'.M } ⟨σ.H.set q (some cs'),σ.own⟩ w'/\g.le { g with M:=g'.M }:=by
 refine⟨hw.setObjG h.M hq (fun c hc=>?_) (fun b hb hne=>?_) h.rep.mem h.size h.os h.tape h.output (drawn:=h.drawn),⟨h.M,H5 _,fun _ _=>rfl,fun _ _ _ h=>h,fun _ _=>rfl⟩⟩
 ·simp at hc;subst hc
  obtain⟨us,rest,e,hb,hr,h1,hM,hκ⟩:=h.rep.obj 0 cs' (by simp)
  have hβ:g'.β 0=g.β q:=h.βE 0 (by simp)
  have hκ':g'.κ 0=g.κ q:=h.κE 0 (by simp)
  rw[hβ] at hb hM
  exact⟨us,rest,e,hb,AV (by rfl) hp' hr,h1,hM,hκ.trans hκ'⟩
 ·exact h.keep b hb (fun hpr=>hne (NS hpr))
theorem UB{c:Call}{fo:Operand}(ho:o.op=.call c)(hc:c.callee=.value fo){f:FuncId}{fs cs:List V}{ds dc:List D}{q:Nat}{os os':List D}(hq:σ.H[q]?=some (some os))(hos:D.pls os=true)(hos':D.pls os'=true)(ha:Dj q ds dc)(hd:d.pl=true)
  (hspec:Aa P f (fs.map .v++dc++cs.map .v) ⟨[some os],[]⟩ d ⟨[some os'],[]⟩):Ap P o (.v (.fn f fs cs)::ds) σ d ⟨σ.H.set q (some os'),σ.own⟩:=by
 intro E g a w K Q hw hds hK
 obtain⟨us,vs,ws,hf,hargs,h1,h2,h3⟩:=CZ ho hc hds
 refine F2 (_E:=E) (_g:=g) ho hc hspec.1 hf hargs ?_
 have hargs':Ab { M:=g.M,β:=fun _=>g.β q,n:=1,ι:=fun _ _=>none,κ:=fun _=>g.κ q } (fs.map .v++dc++cs.map .v) (us++ws++vs):=
  Aw (Aw (AV (by rfl) (C2 fs) h1) (Dj.rep (q:=q) (g:=g) (by rfl) (by rfl) (by simp) ha h3)) (AV (by rfl) (C2 cs) h2)
 refine Calls.mono (hspec.2 _ w _ (hw.rep.one hq hos) hargs') ?_
 rintro e w' ⟨u,g',rfl,hw',hr⟩
 obtain⟨h4,h5⟩:=hw.back1 hq hos' hw'
 exact⟨u,rfl,hK _ _ _ h4 h5 (K5 (by rfl) hd hr)⟩
theorem LJ{c:Call}{fo:Operand}(ho:o.op=.call c)(hc:c.callee=.value fo){f:FuncId}{fs cs:List V}{ds dc:List D}{q:Nat}{os os':List D}(hq:σ.H[q]?=some (some os))(hos:D.pls os=true)(hos':D.pls os'=true)(ha:Dj q ds dc)
  {k' sz:Nat} {xs:List V} (k:Nat) (hk:∀x∈σ.own,x.1≠k) (hspec:Aa P f (fs.map .v++dc++cs.map .v) ⟨[some os],[]⟩ (.acc k' xs) ⟨[some os'],[(k',sz,xs)]⟩):
  Ap P o (.v (.fn f fs cs)::ds) σ (.acc k xs) ⟨σ.H.set q (some os'),(k,sz,xs)::σ.own⟩:=by
 intro E g a w K Q hw hds hK
 obtain⟨us,vs,ws,hf,hargs,h1,h2,h3⟩:=CZ ho hc hds
 refine F2 (_E:=E) (_g:=g) ho hc hspec.1 hf hargs ?_
 have hargs':Ab { M:=g.M,β:=fun _=>g.β q,n:=1,ι:=fun _ _=>none,κ:=fun _=>g.κ q } (fs.map .v++dc++cs.map .v) (us++ws++vs):=
  Aw (Aw (AV (by rfl) (C2 fs) h1) (Dj.rep (q:=q) (g:=g) (by rfl) (by rfl) (by simp) ha h3)) (AV (by rfl) (C2 cs) h2)
 refine Calls.mono (hspec.2 _ w _ (hw.rep.one hq hos) hargs') ?_
 rintro e w' ⟨u,g',rfl,hw',hr⟩
 obtain⟨h4,h5⟩:=hw.back1 hq hos' hw'
 simp only[Ac] at hr
 obtain⟨hsz,u',hu',hr',hp',_⟩:=hw'.rep.own k' sz xs (by simp)
 obtain rfl:u=u':=by rw[hr.2] at hu';simpa using hu'
 have hβ:g'.β 0=g.β q:=hw'.βE 0 (by simp)
 obtain⟨h6,h7⟩:=h4.addOwn (k:=k) (sz:=sz) (xs:=xs) (u:=u) hk hsz hr' hp' (fun b hb=>by
  have hne:g'.β 0≠b:=hw'.rep.ownObj (k',sz,xs) (by simp) u hr.2 b hb 0 os' (by simp)
  rcases hw'.owns (k',sz,xs) (by simp) u hr.2 b hb with h|h
  ·refine⟨Is hw.size h,fun i cs hi=>?_,fun x hx v hv hvb=>?_⟩
   ·obtain⟨cs2,hc2⟩:∃cs2,σ.H[i]?=some (some cs2):=by
     rw[getElem?_set] at hi
     split at hi
     ·rename_i e;subst e;exact⟨_,hq⟩
     ·exact⟨_,hi⟩
    have:=hw.rep.obj_lt hc2;simp only at h⊢;omega
   ·have:=hw.rep.own_lt hx hv hvb;simp only at h;omega
  ·exact absurd (NS h) (fun e=>hne (by rw[hβ,e])))
 exact⟨u,rfl,hK _ _ _ h6 (Gh.le_trans h5 h7) (by simp only[Ac];exact⟨hr',by simp⟩)⟩
end
theorem WI.restrict{E:Ent}{g:Gh}{σ σ':St}{w:World}(hw:WI E g σ w){m:Nat}(hH:σ'.H=σ.H.take m)(hm:m<=σ.H.length)(hE:E.g.n<=m)(hc:∀(i:Nat) (cs:List D),σ'.H[i]?=some (some cs)->D.pls cs=true)(hown:σ'.own.Sublist σ.own):
  WI E { g with n:=m,ι:=fun k j=>if k∈σ'.own.map (·.1) then g.ι k j else none } σ' w:=by
 have get:∀(i:Nat) (cs:List D),σ'.H[i]?=some (some cs)->σ.H[i]?=some (some cs)/\i<m:=by
  intro i cs hi
  rw[hH,IJ] at hi
  split at hi
  ·exact⟨hi,by assumption⟩
  ·simp at hi
 have hι:∀x∈σ'.own,(if x.1∈σ'.own.map (·.1) then g.ι x.1 x.2.2.length else none)=g.ι x.1 x.2.2.length:=fun x hx=>HJ (Ie.2 ⟨x,hx,rfl⟩)
 refine{ rep:=⟨?_,hw.rep.mem,fun i cs hi=>?_,fun i j cs ds hi hj=>hw.rep.inj i j cs ds (get i cs hi).1 (get j ds hj).1,fun k sz xs hx=>?_,?_,fun x hx y hy hne u u' hu hu' b hb=>?_,fun x hx u hu b hb i cs hi=>?_,fun k hk j=>?_,hw.rep.gl,hw.rep.gw⟩,M:=hw.M,size:=hw.size,keep:=hw.keep,os:=hw.os,tape:=hw.tape,output:=hw.output,nE:=hE,βE:=fun o ho=>hw.βE o ho,κE:=fun o ho=>hw.κE o ho,objs:=fun i cs hi=>hw.objs i cs (get i cs hi).1,owns:=fun x hx u hu b hb=>?_,drawn:=hw.drawn }
 ·simp[hH];omega
 ·obtain⟨us,rest,e,h1,h2,h3,h4⟩:=hw.rep.obj i cs (get i cs hi).1
  exact⟨us,rest,e,h1,AV (by rfl) (hc i cs hi) h2,h3,h4⟩
 ·obtain⟨h0,u,hu,h1,h2,h3⟩:=hw.rep.own k sz xs (hown.subset hx)
  refine⟨h0,u,(hι _ hx).trans hu,h1,h2,fun j hj=>?_⟩
  simp only
  split
  ·exact h3 j hj
  ·rfl
 ·exact(hown.map _).nodup hw.rep.tags
 ·exact hw.rep.sep x (hown.subset hx) y (hown.subset hy) hne u u' ((hι x hx).symm.trans hu) ((hι y hy).symm.trans hu') b hb
 ·exact hw.rep.ownObj x (hown.subset hx) u ((hι x hx).symm.trans hu) b hb i cs (get i cs hi).1
 ·simp only
  rw[HF]
  intro h
  obtain⟨x,hx,e⟩:=Ie.1 h
  exact hk x hx e
 ·exact hw.owns x (hown.subset hx) u ((hι x hx).symm.trans hu) b hb
inductive FO (P:Program) (env:List D) (σ:St):List ResultVar->List D->Prop
 |nil:FO P env σ [] []
 |tmp {t:Tmp} {d:D} {rs:List ResultVar} {ds:List D} (h:env[t]?=some d) (hr:FO P env σ rs ds):FO P env σ (.tmp t::rs) (d::ds)
 |cellA {a:Tmp} {t:TypeId} {q off n:Nat} {cs:List D} {xs:List V} {rs:List ResultVar} {ds:List D} (h:env[a]?=some (.ptr q off)) (hH:σ.H[q]?=some (some cs)) (ht:Nq P t n) (hn:off+n<=cs.length)
   (hc:Dk ((cs.drop off).take n)=some xs) (hr:FO P env σ rs ds):FO P env σ (.cell a t::rs) (.v (.agg xs)::ds)
 |cell1 {a:Tmp} {t:TypeId} {q off:Nat} {cs:List D} {d:D} {rs:List ResultVar} {ds:List D} (h:env[a]?=some (.ptr q off)) (hH:σ.H[q]?=some (some cs)) (ht:VG P t) (hc:cs[off]?=some d) (hr:FO P env σ rs ds):
   FO P env σ (.cell a t::rs) (d::ds)
 |cellD {a:Tmp} {t:TypeId} {q off n:Nat} {cs:List D} {rs:List ResultVar} {ds:List D} (h:env[a]?=some (.ptr q off)) (hH:σ.H[q]?=some (some cs)) (ht:Nq P t n) (hn:off+n<=cs.length) (hr:FO P env σ rs ds):
   FO P env σ (.cell a t::rs) (.dagg ((cs.drop off).take n)::ds)
theorem KL{g:Gh}{env:List D}{a:Act}(h:Ab g env a.tmps.toList){t:Nat}{d:D}(hd:env[t]?=some d):Ac g d (a.tmps.getD t undef):=by
 have:=Cl h t
 simpa[evD,H6,hd,Act.eval] using this
def Yg(tmps:Array Value):ResultVar->Sem Value
 |.tmp t=>pure (tmps.getD t undef)
 |.cell a t=>do loadVar t (←asAddr (tmps.getD a undef))
theorem OO(fn:Func)(tmps:Array Value):results fn tmps=(do let vs ←fn.results.mapM (Yg tmps);pure (if h:vs.size=1 then vs[0] else .tuple vs)):=by
 unfold results
 rfl
theorem FO.run{P:Program}{env:List D}{σ:St}{E:Ent}{g:Gh}{a:Act}{w:World}(hf:FI E g σ env a w):∀{rs:List ResultVar} {ds:List D},FO P env σ rs ds->
  ∃us,(rs.mapM (Yg a.tmps)).run P w=.ok us w/\Ab g ds us
 |_,_,.nil=>⟨[],by simp,by simp[Ab]⟩
 |_,_,.tmp (t:=t) h hr=>by
  obtain⟨us,h1,h2⟩:=FO.run hf hr
  refine⟨a.tmps.getD t undef::us,?_,?_⟩
  ·rw[List.mapM_cons]
   simp only[Yg,Sem.run_bind,Sem.run_pure,Result.andThen_ok,h1]
  ·simp only[Ab];exact⟨_,us,rfl,KL hf.env h,h2⟩
 |_,_,.cellA (n:=n) (cs:=cs) (off:=off) (q:=q) h hH ht hn hc hr=>by
  obtain⟨us,h1,h2⟩:=FO.run hf hr
  have hp:=KL hf.env h
  simp only[Ac] at hp
  obtain⟨us',rest',et,hb,hrr,hone,_⟩:=hf.wi.rep.obj q cs hH
  have hra:=Gt hc (Cj (Ck hrr off) n) (fun c hc'=>hone c (List.mem_of_mem_drop (List.mem_of_mem_take hc')))
  have hl:us'.length=cs.length:=A7 hrr
  have hld:=run_loadCells_list (P:=P) w ⟨g.β q,off,none⟩ ((us'.drop off).take n) (fun j v hj=>by
   rw[IJ] at hj
   split at hj
   ·rw[getElem?_drop] at hj
    rw[Addr.add_lit]
    simp only[World.cell?,hb,I1];exact Dw hj
   ·simp at hj)
  have hlen:((us'.drop off).take n).length=n:=by simp;omega
  rw[hlen] at hld
  refine⟨.agg ((us'.drop off).take n).toArray::us,?_,?_⟩
  ·rw[List.mapM_cons]
   simp only[Yg,Sem.run_bind,Sem.run_pure,Result.andThen_ok,hp.2,asAddr,loadVar,BZ ht,run_sizeOf' ht,hld,I6,h1]
  ·simp only[Ab,Ac,BR];exact⟨_,us,rfl,⟨_,hra,rfl⟩,h2⟩
 |_,_,.cell1 (cs:=cs) (off:=off) (q:=q) h hH ht hc hr=>by
  obtain⟨us,h1,h2⟩:=FO.run hf hr
  have hp:=KL hf.env h
  simp only[Ac] at hp
  obtain⟨us',rest',et,hb,hrr,hone,_⟩:=hf.wi.rep.obj q cs hH
  obtain⟨u',hu,hd⟩:=BJ hrr hc
  have hcell:w.cell? ⟨g.β q,off,none⟩=some u':=by simp only[World.cell?,hb,I1];exact Dw hu
  refine⟨u'::us,?_,?_⟩
  ·rw[List.mapM_cons]
   simp only[Yg,Sem.run_bind,hp.2,asAddr,Sem.run_pure,Result.andThen_ok,loadVar,BZ ht,IV,if_false,run_load,hcell,h1]
  ·simp only[Ab];exact⟨u',us,rfl,hd,h2⟩
 |_,_,.cellD (n:=n) (cs:=cs) (off:=off) (q:=q) h hH ht hn hr=>by
  obtain⟨us,h1,h2⟩:=FO.run hf hr
  have hp:=KL hf.env h
  simp only[Ac] at hp
  obtain⟨us',rest',et,hb,hrr,hone,_⟩:=hf.wi.rep.obj q cs hH
  have hra:=Cj (Ck hrr off) n
  have hl:us'.length=cs.length:=A7 hrr
  have hld:=run_loadCells_list (P:=P) w ⟨g.β q,off,none⟩ ((us'.drop off).take n) (fun j v hj=>by
   rw[IJ] at hj
   split at hj
   ·rw[getElem?_drop] at hj
    rw[Addr.add_lit]
    simp only[World.cell?,hb,I1];exact Dw hj
   ·simp at hj)
  have hlen:((us'.drop off).take n).length=n:=by simp;omega
  rw[hlen] at hld
  refine⟨.agg ((us'.drop off).take n).toArray::us,?_,?_⟩
  ·rw[List.mapM_cons]
   simp only[Yg,Sem.run_bind,Sem.run_pure,Result.andThen_ok,hp.2,asAddr,loadVar,BZ ht,run_sizeOf' ht,hld,I6,h1]
  ·simp only[Ab,Ac];exact⟨_,us,rfl,⟨_,rfl,hra⟩,h2⟩
def U0:List D->D
 |[d]=>d
 |ds=>.tup ds
theorem Aa.un{P:Program}{f:FuncId}{ds:List D}{σ:St}{k sz:Nat}{xs:List V}{H:List (Option (List D))}(hH:∀(i:Nat) (cs:List D),H[i]?=some (some cs)->D.pls cs=true)(hn:σ.H.length<=H.length)
  (h:Aa P f ds σ (.acc k xs) ⟨H,[(k,sz,xs)]⟩):Aa P f ds σ (.v (.list xs)) ⟨H,[]⟩:=by
 refine⟨h.1,fun g w args hw hargs=>?_⟩
 refine Calls.mono (h.2 g w args hw hargs) ?_
 rintro e w' ⟨u,g',rfl,hw',hr⟩
 refine⟨u,_,rfl,hw'.restrict (σ':=⟨H,[]⟩) (m:=H.length) (by simp) (H5 _) (by simp only[hw.n];exact hn) hH (by simp),?_⟩
 simp only[Ac] at hr⊢
 exact hr.1
section
variable {C : Ent -> Ent -> Prop} {P : Program} {R : List D -> St -> Prop} {k : List KI} {env : List D} {σ : St}
theorem Eo:∀xs:List V,Dk (xs.map .v)=some xs
 |[]=>rfl
 |x::xs=>by simp[Dk,D.toV,Eo xs]
end
def Fn(acc:List Nat)(o:Oper):Nat:=o.after.toList.foldl (fun s e=>if Region.binds .any e then s|||2^e.on|||acc.getD e.on 0 else s) 0
def Di:List Nat->List Oper->List Nat
 |acc,[]=>acc
 |acc,o::os=>Di (acc++[Fn acc o]) os
theorem JS(acc:List Nat)(i:Nat):∀(es:List Edge) (s:Nat),(es.foldl (fun s e=>if Region.binds .any e then s|||2^e.on|||acc.getD e.on 0 else s) s).testBit i=true->
  s.testBit i=true∨∃e∈es,Region.binds .any e=true/\(i=e.on∨(acc.getD e.on 0).testBit i=true)
 |[],s,h=>.inl h
 |e::es,s,h=>by
  simp only[IA] at h
  rcases JS acc i es _ h with h|⟨e',he,hb,hi⟩
  ·split at h
   ·rename_i hb
    simp only[Nat.testBit_or,Bool.or_eq_true] at h
    rcases h with(h|h)|h
    ·exact .inl h
    ·refine .inr ⟨e,by simp,hb,.inl ?_⟩
     rw[Nat.testBit_two_pow] at h
     simpa using(H9 h).symm
    ·exact .inr ⟨e,by simp,hb,.inr h⟩
   ·exact .inl h
  ·exact .inr ⟨e',by simp[he],hb,hi⟩
def DC(ops:Array Oper)(S:Nat->Bool):Prop:=∀i o,ops[i]?=some o->S i=true->∀e∈o.after,Region.binds .any e=true->S e.on=true
def Abe(acc:List Nat)(S:Nat->Bool):Prop:=∀j m,acc[j]?=some m->S j=true->∀i,m.testBit i=true->S i=true
theorem LU{acc:List Nat}{S:Nat->Bool}{o:Oper}(hg:Abe acc S)(hd:∀e∈o.after,Region.binds .any e=true->S e.on=true):∀i,(Fn acc o).testBit i=true->S i=true:=by
 intro i hi
 rcases JS acc i _ _ hi with h|⟨e,he,hb,h⟩
 ·simp at h
 ·have hs:=hd e (by simpa using he) hb
  rcases h with rfl|h
  ·exact hs
  ·cases hm:acc[e.on]? with
   |none=>simp[H6,hm] at h
   |some m=>
    rw[H6,hm] at h
    exact hg e.on m hm hs i h
theorem MX{ops:Array Oper}{S:Nat->Bool}(hdc:DC ops S):∀(os:List Oper) (acc:List Nat),(∀k,os[k]?=ops[acc.length+k]?)->Abe acc S->Abe (Di acc os) S
 |[],acc,_,hg=>hg
 |o::os,acc,ha,hg=>by
  simp only[Di]
  refine MX hdc os _ (fun k=>?_) ?_
  ·have:=ha (k+1)
   simp only[HC,length_singleton]
   rw[show acc.length+1+k=acc.length+(k+1) by omega]
   simpa using this
  ·intro j m hj hs i hi
   by_cases hlt:j<acc.length
   ·rw[HK hlt] at hj
    exact hg j m hj hs i hi
   ·have hj':j=acc.length:=by
     have:=(H0.1 hj).1
     simp at this;omega
    subst hj'
    rw[HH (H5 _)] at hj
    simp at hj
    subst hj
    have ho:ops[acc.length]?=some o:=by have:=ha 0;simpa using this.symm
    exact LU hg (hdc _ o ho hs) i hi
theorem Kn:∀(os:List Oper) (acc:List Nat),∃r,Di acc os=acc++r
 |[],acc=>⟨[],by simp[Di]⟩
 |o::os,acc=>by
  obtain⟨r,h⟩:=Kn os (acc++[Fn acc o])
  exact⟨Fn acc o::r,by simp[Di,h]⟩
theorem Oy:∀(os:List Oper) (acc:List Nat) (k:Nat) (o:Oper),os[k]?=some o->∃acc',(Di acc os)[acc.length+k]?=some (Fn acc' o)/\∃r,Di acc os=acc'++r
 |[],acc,k,o,h=>by simp at h
 |o0::os,acc,k,o,h=>by
  simp only[Di]
  cases k with
  |zero=>
   simp at h;subst h
   obtain⟨r,hr⟩:=Kn os (acc++[Fn acc o0])
   refine⟨acc,?_,Fn acc o0::r,by rw[hr];simp⟩
   rw[hr];simp
  |succ k=>
   simp at h
   obtain⟨acc',h1,h2⟩:=Oy os (acc++[Fn acc o0]) k o h
   refine⟨acc',?_,h2⟩
   simp only[HC,length_singleton] at h1
   rw[show acc.length+(k+1)=acc.length+1+k by omega]
   exact h1
theorem L6{ops:Array Oper}{S:Nat->Bool}(hdc:DC ops S){j:Nat}{o:Oper}(ho:ops[j]?=some o)(hr:∀e∈o.after,Region.binds .any e=true->S e.on=true):
  ∀i,((Di [] ops.toList).getD j 0).testBit i=true->S i=true:=by
 intro i hi
 obtain⟨acc',h1,r,h2⟩:=Oy ops.toList [] j o (by simpa using ho)
 simp only[H7,Ih] at h1
 rw[H6,h1] at hi
 have hg:=MX hdc ops.toList [] (fun k=>by simp) (fun j m hj=>by simp at hj)
 rw[h2] at hg
 exact LU (acc:=acc') (fun j m hj=>hg j m (by rw[HK (H0.1 hj).1];exact hj)) hr i hi
theorem KG{ops:Array Oper}{S:Nat->Bool}(hdc:DC ops S){j:Nat}(hs:S j=true):∀i,((Di [] ops.toList).getD j 0).testBit i=true->S i=true:=by
 intro i hi
 have hg:=MX hdc ops.toList [] (fun k=>by simp) (fun j m hj=>by simp at hj)
 cases hm:(Di [] ops.toList)[j]? with
 |none=>simp[H6,hm] at hi
 |some m=>
  rw[H6,hm] at hi
  exact hg j m hm hs i hi
def EC(ops:Array Oper)(o:Oper):List Tmp:=
 (o.op.operands.toList.filterMap fun|.tmp t=>some t|_=>none)++(match o.guard with|some (j,_)=>((ops[j]?).bind (·.dst)).toList|none=>[])
def No(ops:Array Oper)(x y:Oper):Bool:=
 (match x.dst with|some t=>(EC ops y).contains t||y.dst==some t|none=>false)||(match y.dst with|some t=>(EC ops x).contains t|none=>false)
def Rq(ops:Array Oper)(effs:List Bool):Bool:=
 let b:=Di [] ops.toList
 (List.range ops.size).all fun j=>
  match ops[j]? with
  |none=>false
  |some oj=>
   oj.after.all (fun e=> !Region.binds .any e||decide (e.on<j))&&
   (List.range j).all fun i=>
    match ops[i]? with
    |none=>false
    |some oi=> !(No ops oi oj||(effs.getD i false&&effs.getD j false))||(b.getD j 0).testBit i
theorem OP{ops:Array Oper}{effs:List Bool}(h:Rq ops effs=true){j:Nat}{o:Oper}(ho:ops[j]?=some o):∀e∈o.after,Region.binds .any e=true->e.on<j:=by
 intro e he hb
 have hlt:j<ops.size:=(Ir.1 ho).1
 have h1:=Ii.1 h j (by simpa using hlt)
 simp only[ho,Hy] at h1
 have h2:=Array.all_eq_true_iff_forall_mem.1 h1.1 e he
 simpa[hb] using h2
theorem Hr{ops:Array Oper}{effs:List Bool}(h:Rq ops effs=true){i j:Nat}{oi oj:Oper}(hi:ops[i]?=some oi)(hj:ops[j]?=some oj)(hij:i<j)(hc:No ops oi oj=true∨(effs.getD i false=true/\effs.getD j false=true)):
  ((Di [] ops.toList).getD j 0).testBit i=true:=by
 have hlt:j<ops.size:=(Ir.1 hj).1
 have h1:=Ii.1 h j (by simpa using hlt)
 simp only[hj,Hy] at h1
 have h2:=Ii.1 h1.2 i (by simpa using hij)
 simp only[hi,Bool.or_eq_true,Io] at h2
 rcases h2 with h2|h2
 ·rcases hc with hc|⟨hc1,hc2⟩
  ·simp[hc] at h2
  ·simp only[hc1,hc2,Bool.and_self,Bool.or_true] at h2
   exact absurd h2 (by simp)
 ·exact h2
abbrev It:=Option Tmp×D×Bool
def BO(S:Nat->Bool)(e:List D)(x:It×Nat):List D:=if S x.2 then BU e x.1.1 x.1.2.1 else e
def SC(items:List It)(S:Nat->Bool)(env0:List D):List D:=(items.zipIdx 0).foldl (BO S) env0
def BE(S:Nat->Bool)(c:Nat)(x:It×Nat):Nat:=if S x.2&&x.1.2.2 then c+1 else c
def GR(items:List It)(S:Nat->Bool):Nat:=(items.zipIdx 0).foldl (BE S) 0
theorem NR{e:List D}{t:Option Tmp}{d:D}(s:Nat):(BU e t d)[s]?=if t=some s then(e[s]?).map (fun _=>d) else e[s]?:=by
 cases t with
 |none=>simp[BU]
 |some t=>
  simp only[BU,getElem?_set,HU]
  by_cases h:t=s
  ·subst h
   simp only[I6]
   by_cases hl:t<e.length<;>simp[hl]
  ·simp[h]
theorem Fp{S S':Nat->Bool}{t:Tmp}:∀(l:List (It×Nat)) (e e':List D),(∀x∈l,x.1.1=some t->S x.2=S' x.2)->e[t]?=e'[t]?->(l.foldl (BO S) e)[t]?=(l.foldl (BO S') e')[t]?
 |[],e,e',_,h=>h
 |x::l,e,e',hl,h=>by
  simp only[IA]
  refine Fp l _ _ (fun y hy=>hl y (by simp[hy])) ?_
  by_cases hx:x.1.1=some t
  ·have:=hl x (by simp) hx
   unfold BO
   rw[this]
   split
   ·simp[NR,hx,h]
   ·exact h
  ·unfold BO
   have hp:∀e:List D,(BU e x.1.1 x.1.2.1)[t]?=e[t]?:=fun e=>by rw[NR,HF hx]
   split<;>split<;>simp[hp,h]
theorem Fq{S S':Nat->Bool}:∀(l:List (It×Nat)) (c:Nat),(∀x∈l,x.1.2.2=true->S x.2=S' x.2)->l.foldl (BE S) c=l.foldl (BE S') c
 |[],c,_=>rfl
 |x::l,c,hl=>by
  simp only[IA]
  have:BE S c x=BE S' c x:=by
   unfold BE
   cases hx:x.1.2.2 with
   |false=>simp
   |true=>rw[hl x (by simp) hx]
  rw[this]
  exact Fq l _ (fun y hy=>hl y (by simp[hy]))
theorem mem_zipIdx{items:List It}{x:It×Nat}(h:x∈items.zipIdx 0):items[x.2]?=some x.1:=by
 have:=List.mem_zipIdx h
 simp only[Ih,Nat.sub_zero,HW,true_and] at this
 obtain⟨h1,h2⟩:=this
 rw[Hx h1,h2]
theorem Vu{items:List It}{S:Nat->Bool}{env0:List D}{j:Nat}{it:It}(hj:items[j]?=some it)(hS:S j=false)(hlast:∀(i:Nat) (x:It),items[i]?=some x->S i=true->j<i->it.1=none∨x.1≠it.1):
  SC items (fun i=>S i||i==j) env0=BU (SC items S env0) it.1 it.2.1:=by
 have hjl:j<items.length:=(H0.1 hj).1
 have hsplit:items=items.take j++it::items.drop (j+1):=by
  have:items.drop j=it::items.drop (j+1):=by
   rw[HD hjl]
   congr 1
   exact(H0.1 hj).2
  rw[←this,List.take_append_drop]
 have hlen:(items.take j).length=j:=by simp;omega
 have hz:items.zipIdx 0=(items.take j).zipIdx 0++(it,j)::(items.drop (j+1)).zipIdx (j+1):=by
  conv=>lhs;rw[hsplit]
  rw[List.zipIdx_append,List.zipIdx_cons,hlen]
  simp
 unfold SC
 rw[hz,List.foldl_append,List.foldl_append,IA,IA]
 have e1:(items.take j).zipIdx.foldl (BO fun i=>S i||i==j) env0=(items.take j).zipIdx.foldl (BO S) env0:=by
  have:∀(l:List (It×Nat)) (e:List D),(∀x∈l,x.2≠j)->l.foldl (BO fun i=>S i||i==j) e=l.foldl (BO S) e:=by
   intro l
   induction l with
   |nil=>intro e _;rfl
   |cons x l ih=>
    intro e hl
    simp only[IA]
    have hx:=hl x (by simp)
    have:BO (fun i=>S i||i==j) e x=BO S e x:=by unfold BO;simp[hx]
    rw[this];exact ih _ (fun y hy=>hl y (by simp[hy]))
  refine this _ _ (fun x hx=>?_)
  have:=(List.mem_zipIdx hx).2.1
  omega
 rw[e1]
 generalize (items.take j).zipIdx.foldl (BO S) env0=E
 have s1:BO (fun i=>S i||i==j) E (it,j)=BU E it.1 it.2.1:=by simp[BO]
 have s2:BO S E (it,j)=E:=by simp[BO,hS]
 rw[s1,s2]
 -- what follows does not touch the slot
 have later:∀(l:List (It×Nat)) (e:List D),(∀x∈l,x.2≠j/\(S x.2=true->it.1=none∨x.1.1≠it.1))->l.foldl (BO fun i=>S i||i==j) (BU e it.1 it.2.1)=BU (l.foldl (BO S) e) it.1 it.2.1:=by
  intro l
  induction l with
  |nil=>intro e _;rfl
  |cons x l ih=>
   intro e hl
   simp only[IA]
   obtain⟨hx,hd⟩:=hl x (by simp)
   have hh:BO (fun i=>S i||i==j) (BU e it.1 it.2.1) x=BU (BO S e x) it.1 it.2.1:=by
    unfold BO
    have hxj:(x.2==j)=false:=by simpa using hx
    simp only[hxj,Bool.or_false]
    split
    ·rename_i hs
     rcases hd hs with h|h
     ·rw[h];simp[BU]
     ·cases h1:it.1 with
      |none=>simp[BU]
      |some t=>
       cases h2:x.1.1 with
       |none=>simp[BU]
       |some t'=>
        simp only[BU]
        rw[h1,h2] at h
        have hne:t≠t':=fun e=>h (by rw[e])
        exact List.set_comm _ _ hne
    ·rfl
   rw[hh]
   exact ih _ (fun y hy=>hl y (by simp[hy]))
 refine later _ _ (fun x hx=>?_)
 have hm:=List.mem_zipIdx hx
 refine⟨by omega,fun hs=>hlast x.2 x.1 ?_ hs (by omega)⟩
 have h3:=hm.2.2
 have h4:=hm.2.1
 have h5:=hm.1
 rw[h3,List.getElem_drop]
 rw[Hx (by simp at h4;omega)]
 congr 2
 omega
theorem V2{items:List It}{S:Nat->Bool}{j:Nat}{it:It}(hj:items[j]?=some it)(hS:S j=false):GR items (fun i=>S i||i==j)=GR items S+(if it.2.2 then 1 else 0):=by
 have hjl:j<items.length:=(H0.1 hj).1
 have hsplit:items=items.take j++it::items.drop (j+1):=by
  have:items.drop j=it::items.drop (j+1):=by
   rw[HD hjl]
   congr 1
   exact(H0.1 hj).2
  rw[←this,List.take_append_drop]
 have hlen:(items.take j).length=j:=by simp;omega
 have hz:items.zipIdx 0=(items.take j).zipIdx 0++(it,j)::(items.drop (j+1)).zipIdx (j+1):=by
  conv=>lhs;rw[hsplit]
  rw[List.zipIdx_append,List.zipIdx_cons,hlen]
  simp
 have same:∀(l:List (It×Nat)) (c:Nat),(∀x∈l,x.2≠j)->l.foldl (BE fun i=>S i||i==j) c=l.foldl (BE S) c:=by
  intro l
  induction l with
  |nil=>intro c _;rfl
  |cons x l ih=>
   intro c hl
   simp only[IA]
   have hx:=hl x (by simp)
   have:BE (fun i=>S i||i==j) c x=BE S c x:=by unfold BE;simp[hx]
   rw[this];exact ih _ (fun y hy=>hl y (by simp[hy]))
 have shift:∀(l:List (It×Nat)) (c d:Nat),l.foldl (BE S) (c+d)=l.foldl (BE S) c+d:=by
  intro l
  induction l with
  |nil=>intro c d;rfl
  |cons x l ih=>
   intro c d
   simp only[IA]
   have:BE S (c+d) x=BE S c x+d:=by unfold BE;split<;>omega
   rw[this,ih]
 unfold GR
 rw[hz,List.foldl_append,List.foldl_append,IA,IA]
 rw[same (items.take j).zipIdx 0 (fun x hx=>by have:=(List.mem_zipIdx hx).2.1;omega)]
 generalize (items.take j).zipIdx.foldl (BE S) 0=c
 have s1:BE (fun i=>S i||i==j) c (it,j)=c+(if it.2.2 then 1 else 0):=by
  unfold BE;simp;split<;>rfl
 have s2:BE S c (it,j)=c:=by simp[BE,hS]
 rw[s1,s2,same _ _ (fun x hx=>by have:=(List.mem_zipIdx hx).1;omega),shift]
abbrev Ef:=Bool×Option Nat
def Pp(ops:Array Oper)(i f:Nat):Bool:=((Di [] ops.toList).getD i 0).testBit f
inductive EI (P:Program) (ops:Array Oper) (sts:Bool->List St) (fr:Nat):List Oper->List D->Nat->List D->List Ef->List D->Nat->Prop
 |nil {env:List D} {j:Nat}:EI P ops sts fr [] env j [] [] env j
 |skip {o:Oper} {rest:List Oper} {env env':List D} {j j':Nat} {vals:List D} {effs:List Ef} (hne:ops.size- (rest.length+1)≠fr) (hw:BP env ops o=some false) (h:EI P ops sts fr rest (BU env o.dst (.tup [])) j vals effs env' j'):
   EI P ops sts fr (o::rest) env j (.tup []::vals) ((false,none)::effs) env' j'
 |quiet {o:Oper} {rest:List Oper} {env env':List D} {j j':Nat} {vals:List D} {effs:List Ef} {d:D} (hne:ops.size- (rest.length+1)≠fr) (hw:BP env ops o=some true) (ho:∀b,∀s∈sts b,Ap P o (GK env o) s d s) (h:EI P ops sts fr rest (BU env o.dst d) j vals effs env' j'):
   EI P ops sts fr (o::rest) env j (d::vals) ((false,none)::effs) env' j'
 |eff {o:Oper} {rest:List Oper} {env env':List D} {j j':Nat} {vals:List D} {effs:List Ef} {d:D} (hne:ops.size- (rest.length+1)≠fr) (hw:BP env ops o=some true) (ho:∀b s,(sts b)[j]?=some s->(b=false->Pp ops (ops.size- (rest.length+1)) fr=false)->∃s',(sts b)[j+1]?=some s'/\Ap P o (GK env o) s d s')
   (h:EI P ops sts fr rest (BU env o.dst d) (j+1) vals effs env' j'):EI P ops sts fr (o::rest) env j (d::vals) ((true,none)::effs) env' j'
 |quietW {o:Oper} {rest:List Oper} {env env':List D} {j j':Nat} {vals:List D} {effs:List Ef} {d:D} (lim:Nat) (hne:ops.size- (rest.length+1)≠fr) (hw:BP env ops o=some true) (ho:∀(b:Bool) (c:Nat) (s:St),c<=lim->(sts b)[c]?=some s->Ap P o (GK env o) s d s) (h:EI P ops sts fr rest (BU env o.dst d) j vals effs env' j'):
   EI P ops sts fr (o::rest) env j (d::vals) ((false,some lim)::effs) env' j'
 |free {o:Oper} {rest:List Oper} {env env':List D} {j j':Nat} {vals:List D} {effs:List Ef} {d:D} (hf:fr=ops.size- (rest.length+1)) (hw:BP env ops o=some true) (ho:∀(c:Nat) (s:St),(sts false)[c]?=some s->∃s',(sts true)[c]?=some s'/\Ap P o (GK env o) s d s') (h:EI P ops sts fr rest (BU env o.dst d) j vals effs env' j'):
   EI P ops sts fr (o::rest) env j (d::vals) ((false,none)::effs) env' j'
def A1:List Oper->List D->List Ef->List It
 |o::os,d::ds,b::bs=>(o.dst,d,b.1)::A1 os ds bs
 |_,_,_=>[]
def EQ(items:List It)(env0:List D):List D:=items.foldl (fun e it=>BU e it.1 it.2.1) env0
def Gi(items:List It):Nat:=items.foldl (fun c it=>if it.2.2 then c+1 else c) 0
theorem Ew(items:List It)(it:It)(env0:List D):EQ (items++[it]) env0=BU (EQ items env0) it.1 it.2.1:=by simp[EQ]
theorem Ex(items:List It)(it:It):Gi (items++[it])=Gi items+if it.2.2 then 1 else 0:=by simp[Gi];split<;>rfl
def Abf(P:Program)(ops:Array Oper)(sts:Bool->List St)(fr:Nat)(items:List It)(lims:List Ef)(env0:List D)(i:Nat)(o:Oper):Prop:=
 ∃d b,items[i]?=some (o.dst,d,b)/\
  ((BP (EQ (items.take i) env0) ops o=some false/\d=.tup []/\b=false/\i≠fr)∨
   (BP (EQ (items.take i) env0) ops o=some true/\b=false/\i≠fr/\∀(b:Bool) (c:Nat) (s:St),(sts b)[c]?=some s->(∀lim,(lims[i]?).bind (·.2)=some lim->c<=lim)->Ap P o (GK (EQ (items.take i) env0) o) s d s)∨
   (BP (EQ (items.take i) env0) ops o=some true/\b=true/\i≠fr/\∀bb s,(sts bb)[Gi (items.take i)]?=some s->(bb=false->Pp ops i fr=false)->∃s',(sts bb)[Gi (items.take i)+1]?=some s'/\Ap P o (GK (EQ (items.take i) env0) o) s d s')∨
   (BP (EQ (items.take i) env0) ops o=some true/\b=false/\i=fr/\∀(c:Nat) (s:St),(sts false)[c]?=some s->∃s',(sts true)[c]?=some s'/\Ap P o (GK (EQ (items.take i) env0) o) s d s'))
theorem EI.facts{P:Program}{ops:Array Oper}{sts:Bool->List St}{fr:Nat}{rest:List Oper}{env env':List D}{j j':Nat}{vals:List D}{effs:List Ef}(h:EI P ops sts fr rest env j vals effs env' j'):
  ∀(pre:List It) (pe:List Ef) (env0:List D),pe.length=pre.length->pre.length+rest.length=ops.size->env=EQ pre env0->j=Gi pre->
   (∀k o,rest[k]?=some o->Abf P ops sts fr (pre++A1 rest vals effs) (pe++effs) env0 (pre.length+k) o)/\env'=EQ (pre++A1 rest vals effs) env0/\j'=Gi (pre++A1 rest vals effs)/\(A1 rest vals effs).length=rest.length/\effs.map (·.1)=(A1 rest vals effs).map (·.2.2):=by
 induction h with
 |nil=>intro pre pe env0 hp hl he hj;simp[A1,he,hj]
 | @skip o rest env env' j j' vals effs hne hw h ih=>
  intro pre pe env0 hp hl he hj
  have hidx:ops.size- (rest.length+1)=pre.length:=by simp at hl;omega
  obtain⟨f1,f2,f3,f4,f5⟩:=ih (pre++[(o.dst,D.tup [],false)]) (pe++[((false,none):Ef)]) env0 (by simp[hp]) (by simp at hl⊢;omega) (by rw[Ew,he]) (by rw[Ex,hj];simp)
  have hap:pre++[(o.dst,D.tup [],false)]++A1 rest vals effs=pre++A1 (o::rest) (.tup []::vals) (((false,none):Ef)::effs):=by simp[A1]
  have hap2:pe++[((false,none):Ef)]++effs=pe++((false,none):Ef)::effs:=by simp
  rw[hap] at f1 f2 f3
  rw[hap2] at f1
  refine⟨fun k o' hk=>?_,f2,f3,by simp[A1,f4],by simp only[A1,HO];rw[←f5]⟩
  cases k with
  |zero=>
   simp at hk;subst hk
   have hat:(pe++((false,none):Ef)::effs)[pre.length+0]?=some ((false,none):Ef):=by rw[Iv, ←hp];simp
   rw[hidx] at hne
   refine⟨.tup [],false,by simp[A1],.inl ⟨?_,rfl,rfl,hne⟩⟩
   simp only[Iv,take_left, ←he];exact hw
  |succ k=>
   have:=f1 k o' (by simpa using hk)
   simp only[HC,length_singleton] at this
   rw[show pre.length+(k+1)=pre.length+1+k by omega];exact this
 | @quiet o rest env env' j j' vals effs d hne hw ho h ih=>
  intro pre pe env0 hp hl he hj
  have hidx:ops.size- (rest.length+1)=pre.length:=by simp at hl;omega
  obtain⟨f1,f2,f3,f4,f5⟩:=ih (pre++[(o.dst,d,false)]) (pe++[((false,none):Ef)]) env0 (by simp[hp]) (by simp at hl⊢;omega) (by rw[Ew,he]) (by rw[Ex,hj];simp)
  have hap:pre++[(o.dst,d,false)]++A1 rest vals effs=pre++A1 (o::rest) (d::vals) (((false,none):Ef)::effs):=by simp[A1]
  have hap2:pe++[((false,none):Ef)]++effs=pe++((false,none):Ef)::effs:=by simp
  rw[hap] at f1 f2 f3
  rw[hap2] at f1
  refine⟨fun k o' hk=>?_,f2,f3,by simp[A1,f4],by simp only[A1,HO];rw[←f5]⟩
  cases k with
  |zero=>
   simp at hk;subst hk
   have hat:(pe++((false,none):Ef)::effs)[pre.length+0]?=some ((false,none):Ef):=by rw[Iv, ←hp];simp
   rw[hidx] at hne
   refine⟨d,false,by simp[A1],.inr (.inl ⟨?_,rfl,hne,?_⟩)⟩
   ·simp only[Iv,take_left, ←he];exact hw
   ·simp only[Iv,take_left, ←he];exact fun b c s hs _=>ho b s (H4 hs)
  |succ k=>
   have:=f1 k o' (by simpa using hk)
   simp only[HC,length_singleton] at this
   rw[show pre.length+(k+1)=pre.length+1+k by omega];exact this
 | @eff o rest env env' j j' vals effs d hne hw ho h ih=>
  intro pre pe env0 hp hl he hj
  have hidx:ops.size- (rest.length+1)=pre.length:=by simp at hl;omega
  obtain⟨f1,f2,f3,f4,f5⟩:=ih (pre++[(o.dst,d,true)]) (pe++[((true,none):Ef)]) env0 (by simp[hp]) (by simp at hl⊢;omega) (by rw[Ew,he]) (by rw[Ex,hj];simp)
  have hap:pre++[(o.dst,d,true)]++A1 rest vals effs=pre++A1 (o::rest) (d::vals) (((true,none):Ef)::effs):=by simp[A1]
  have hap2:pe++[((true,none):Ef)]++effs=pe++((true,none):Ef)::effs:=by simp
  rw[hap] at f1 f2 f3
  rw[hap2] at f1
  refine⟨fun k o' hk=>?_,f2,f3,by simp[A1,f4],by simp only[A1,HO];rw[←f5]⟩
  cases k with
  |zero=>
   simp at hk;subst hk
   have hat:(pe++((true,none):Ef)::effs)[pre.length+0]?=some ((true,none):Ef):=by rw[Iv, ←hp];simp
   rw[hidx] at hne ho
   refine⟨d,true,by simp[A1],.inr (.inr (.inl ⟨?_,rfl,hne,?_⟩))⟩
   ·simp only[Iv,take_left, ←he];exact hw
   ·simp only[Iv,take_left, ←hj, ←he];exact ho
  |succ k=>
   have:=f1 k o' (by simpa using hk)
   simp only[HC,length_singleton] at this
   rw[show pre.length+(k+1)=pre.length+1+k by omega];exact this
 | @quietW o rest env env' j j' vals effs d lim hne hw ho h ih=>
  intro pre pe env0 hp hl he hj
  have hidx:ops.size- (rest.length+1)=pre.length:=by simp at hl;omega
  obtain⟨f1,f2,f3,f4,f5⟩:=ih (pre++[(o.dst,d,false)]) (pe++[((false,some lim):Ef)]) env0 (by simp[hp]) (by simp at hl⊢;omega) (by rw[Ew,he]) (by rw[Ex,hj];simp)
  have hap:pre++[(o.dst,d,false)]++A1 rest vals effs=pre++A1 (o::rest) (d::vals) (((false,some lim):Ef)::effs):=by simp[A1]
  have hap2:pe++[((false,some lim):Ef)]++effs=pe++((false,some lim):Ef)::effs:=by simp
  rw[hap] at f1 f2 f3
  rw[hap2] at f1
  refine⟨fun k o' hk=>?_,f2,f3,by simp[A1,f4],by simp only[A1,HO];rw[←f5]⟩
  cases k with
  |zero=>
   simp at hk;subst hk
   have hat:(pe++((false,some lim):Ef)::effs)[pre.length+0]?=some ((false,some lim):Ef):=by rw[Iv, ←hp];simp
   rw[hidx] at hne
   refine⟨d,false,by simp[A1],.inr (.inl ⟨?_,rfl,hne,?_⟩)⟩
   ·simp only[Iv,take_left, ←he];exact hw
   ·rw[hat]
    simp only[Iv,take_left, ←he]
    exact fun b c s hs hc=>ho b c s (hc lim rfl) hs
  |succ k=>
   have:=f1 k o' (by simpa using hk)
   simp only[HC,length_singleton] at this
   rw[show pre.length+(k+1)=pre.length+1+k by omega];exact this
 | @free o rest env env' j j' vals effs d hf hw ho h ih=>
  intro pre pe env0 hp hl he hj
  have hidx:ops.size- (rest.length+1)=pre.length:=by simp at hl;omega
  obtain⟨f1,f2,f3,f4,f5⟩:=ih (pre++[(o.dst,d,false)]) (pe++[((false,none):Ef)]) env0 (by simp[hp]) (by simp at hl⊢;omega) (by rw[Ew,he]) (by rw[Ex,hj];simp)
  have hap:pre++[(o.dst,d,false)]++A1 rest vals effs=pre++A1 (o::rest) (d::vals) (((false,none):Ef)::effs):=by simp[A1]
  have hap2:pe++[((false,none):Ef)]++effs=pe++((false,none):Ef)::effs:=by simp
  rw[hap] at f1 f2 f3
  rw[hap2] at f1
  refine⟨fun k o' hk=>?_,f2,f3,by simp[A1,f4],by simp only[A1,HO];rw[←f5]⟩
  cases k with
  |zero=>
   simp at hk;subst hk
   have hat:(pe++((false,none):Ef)::effs)[pre.length+0]?=some ((false,none):Ef):=by rw[Iv, ←hp];simp
   rw[hidx] at hf
   refine⟨d,false,by simp[A1],.inr (.inr (.inr ⟨?_,rfl,hf.symm,?_⟩))⟩
   ·simp only[Iv,take_left, ←he];exact hw
   ·simp only[Iv,take_left, ←he];exact ho
  |succ k=>
   have:=f1 k o' (by simpa using hk)
   simp only[HC,length_singleton] at this
   rw[show pre.length+(k+1)=pre.length+1+k by omega];exact this
theorem SB(items:List It)(i:Nat)(env0:List D):SC items (fun k=>decide (k<i)) env0=EQ (items.take i) env0:=by
 have gen:∀(l:List It) (s:Nat) (e:List D),(l.zipIdx s).foldl (BO fun k=>decide (k<i)) e=(l.take (i-s)).foldl (fun e it=>BU e it.1 it.2.1) e:=by
  intro l
  induction l with
  |nil=>intro s e;simp
  |cons x l ih=>
   intro s e
   simp only[List.zipIdx_cons,IA]
   rw[ih]
   by_cases h:s<i
   ·rw[show i-s=(i- (s+1))+1 by omega,take_succ_cons,IA]
    simp[BO,h]
   ·rw[show i-s=0 by omega,show i- (s+1)=0 by omega]
    simp[BO,h]
 simpa[SC,EQ] using gen items 0 env0
theorem Np(items:List It)(i:Nat):GR items (fun k=>decide (k<i))=Gi (items.take i):=by
 have gen:∀(l:List It) (s c:Nat),(l.zipIdx s).foldl (BE fun k=>decide (k<i)) c=(l.take (i-s)).foldl (fun c it=>if it.2.2 then c+1 else c) c:=by
  intro l
  induction l with
  |nil=>intro s e;simp
  |cons x l ih=>
   intro s e
   simp only[List.zipIdx_cons,IA]
   rw[ih]
   by_cases h:s<i
   ·rw[show i-s=(i- (s+1))+1 by omega,take_succ_cons,IA]
    simp[BE,h]
   ·rw[show i-s=0 by omega,show i- (s+1)=0 by omega]
    simp[BE,h]
 simpa[GR,Gi] using gen items 0 0
theorem P8(l:List It):Gi l=(l.map (·.2.2)).count true:=by
 have gen:∀(l:List It) (c:Nat),l.foldl (fun c it=>if it.2.2 then c+1 else c) c=c+(l.map (·.2.2)).count true:=by
  intro l
  induction l with
  |nil=>intro c;simp
  |cons x l ih=>
   intro c
   simp only[IA,HO]
   rw[ih]
   cases x.2.2<;>simp<;>omega
 simpa[Gi] using gen l 0
theorem XW{items:List It}{S S':Nat->Bool}(h:∀(k:Nat) (x:It),items[k]?=some x->x.2.2=true->S k=true->S' k=true):GR items S<=GR items S':=by
 have gen:∀(l:List (It×Nat)) (c c':Nat),(∀x∈l,x.1.2.2=true->S x.2=true->S' x.2=true)->c<=c'->l.foldl (BE S) c<=l.foldl (BE S') c':=by
  intro l
  induction l with
  |nil=>intro c c' _ hc;exact hc
  |cons x l ih=>
   intro c c' hl hc
   simp only[IA]
   refine ih _ _ (fun y hy=>hl y (List.mem_cons_of_mem _ hy)) ?_
   have:=hl x List.mem_cons_self
   unfold BE
   cases hx:x.1.2.2<;>cases hs:S x.2<;>cases hs':S' x.2<;>simp_all<;>omega
 exact gen _ 0 0 (fun x hx=>h x.2 x.1 (mem_zipIdx hx)) (H5 _)
def WH(ops:Array Oper)(lims:List Ef):Bool:=
 (List.range lims.length).all fun i=>
  match (lims[i]?).bind (·.2) with
  |none=>true
  |some lim=>(List.range lims.length).any fun e=>(lims.map (·.1)).getD e false&&decide (((lims.map (·.1)).take e).count true=lim)&&((Di [] ops.toList).getD e 0).testBit i
def Gf(ops:Array Oper)(lims:List Ef):Bool:=Rq ops (lims.map (·.1))&&WH ops lims
theorem P3{ops:Array Oper}{o:Oper}{env env':List D}(h:∀t∈EC ops o,env[t]?=env'[t]?):GK env o=GK env' o:=by
 unfold GK
 refine List.map_congr_left fun x hx=>?_
 cases x with
 |tmp t=>
  have:=h t (by
   unfold EC
   exact Ij.2 (.inl (List.mem_filterMap.2 ⟨.tmp t,hx,rfl⟩)))
  simp[evD,H6,this]
 |_=>rfl
theorem M3{ops:Array Oper}{o:Oper}{env env':List D}(h:∀t∈EC ops o,env[t]?=env'[t]?):BP env ops o=BP env' ops o:=by
 unfold BP
 cases hg:o.guard with
 |none=>rfl
 |some p=>
  obtain⟨j,want⟩:=p
  simp only
  cases hj:(ops[j]?).bind (·.dst) with
  |none=>rfl
  |some t=>
   have:=h t (by unfold EC;rw[hg];simp[hj])
   simp[this]
section
variable {C : Ent -> Ent -> Prop} {P : Program} {R : List D -> St -> Prop} {k : List KI} {env : List D} {σ : St}
theorem O3{ops:Array Oper}{sts:Bool->List St}{fr:Nat}{items:List It}{effs:List Bool}{lims:List Ef}{env0:List D}{Q:Exit->Act->World->Prop}{E:Ent}{J:Gh->Prop}(hJ:∀g g':Gh,g.le g'->J g->J g')(hreg:Rq ops effs=true)(hwin:WH ops lims=true)(hle:effs=lims.map (·.1))(hlen:items.length=ops.size)(heff:effs=items.map (·.2.2))
  (hfact:∀i o,ops[i]?=some o->Abf P ops sts fr items lims env0 i o)
  (hfin:∀g a w,J g->(∃s,(sts (decide (fr<ops.size)))[Gi items]?=some s/\FI E g s (EQ items env0) a w)->Q .normal a w):
  ∀(fuel:Nat) (listed:Array Bool) (a:Act) (w:World) (g:Gh) (s:St),listed.size=ops.size->DC ops (fun i=>listed.getD i false)->
   ((List.range ops.size).filter fun i=> !listed.getD i false).length=fuel->
   (sts (listed.getD fr false))[GR items (fun i=>listed.getD i false)]?=some s->J g->FI E g s (SC items (fun i=>listed.getD i false) env0) a w->wpAny P .any ops Q fuel listed a w:=by
 -- nothing is ready:all are listed
 have done_:∀(listed:Array Bool),listed.size=ops.size->Region.ready .any ops listed=[]->∀i,i<ops.size->listed.getD i false=true:=by
  intro listed hsz hr i
  induction i using Nat.strongRecOn with
  |_ i ih=>
   intro hi
   cases hl:listed.getD i false with
   |true=>rfl
   |false=>
    exfalso
    have hmem:i∈Region.ready .any ops listed:=by
     unfold Region.ready
     rw[List.mem_filter]
     refine⟨by simpa using hi,?_⟩
     have ho:ops[i]?=some ops[i]:=by simp[hi]
     have hl':listed.getD i true=false:=by
      rw[I7] at hl⊢
      have:listed[i]?=some listed[i]:=by simp[hsz,hi]
      rw[this] at hl⊢;exact hl
     rw[ho]
     simp only[hl',Bool.not_false,HV,Ix,IL]
     rw[Array.all_eq_true_iff_forall_mem]
     intro e he
     cases hb:Region.binds .any e with
     |false=>simp
     |true=>
      have hlt:=OP hreg ho e he hb
      simp[ih e.on hlt (by omega)]
    rw[hr] at hmem
    simp at hmem
 have finish:∀(listed:Array Bool) (a:Act) (w:World) (g:Gh) (s:St),listed.size=ops.size->(∀i,i<ops.size->listed.getD i false=true)->(sts (listed.getD fr false))[GR items (fun i=>listed.getD i false)]?=some s->
   J g->FI E g s (SC items (fun i=>listed.getD i false) env0) a w->Q .normal a w:=by
  intro listed a w g s hsz hall hs hj hf
  have e1:SC items (fun i=>listed.getD i false) env0=EQ items env0:=by
   have:=SB items ops.size env0
   rw[HQ (by omega)] at this
   rw[←this]
   apply ext_getElem?
   intro t
   refine Fp _ _ _ (fun x hx _=>?_) rfl
   have hx2:=(H0.1 (mem_zipIdx hx)).1
   rw[hall x.2 (by omega)];simp;omega
  have e2:GR items (fun i=>listed.getD i false)=Gi items:=by
   have:=Np items ops.size
   rw[HQ (by omega)] at this
   rw[←this]
   refine Fq _ _ (fun x hx _=>?_)
   have hx2:=(H0.1 (mem_zipIdx hx)).1
   rw[hall x.2 (by omega)];simp;omega
  have e3:listed.getD fr false=decide (fr<ops.size):=by
   by_cases hfr:fr<ops.size
   ·rw[hall fr hfr];simp[hfr]
   ·rw[I7,Array.getElem?_eq_none (by omega)];simp[hfr]
  rw[e1] at hf
  rw[e2,e3] at hs
  exact hfin g a w hj ⟨s,hs,hf⟩
 intro fuel
 induction fuel with
 |zero=>
  intro listed a w g s hsz hdc hcount hs hj hf
  have hall:∀i,i<ops.size->listed.getD i false=true:=by
   intro i hi
   cases hl:listed.getD i false with
   |true=>rfl
   |false=>
    have hm:i∈ (List.range ops.size).filter fun i=> !listed.getD i false:=List.mem_filter.2 ⟨by simpa using hi,by simp[hl]⟩
    have hnil:=IE hcount
    rw[hnil] at hm
    simp at hm
  refine⟨?_,finish listed a w g s hsz hall hs hj hf⟩
  unfold Region.ready
  rw[List.filter_eq_nil_iff]
  intro i hi
  have hi':i<ops.size:=by simpa using hi
  have:=hall i hi'
  have ht:listed.getD i true=true:=by
   rw[I7] at this⊢
   have h':listed[i]?=some listed[i]:=by simp[hsz,hi']
   rw[h'] at this⊢;exact this
  simp[ht]
 |succ fuel ih=>
  intro listed a w g s hsz hdc hcount hs hj hf
  refine⟨fun hr=>finish listed a w g s hsz (done_ listed hsz hr) hs hj hf,fun i hi=>?_⟩
  -- an operation that is ready
  unfold Region.ready at hi
  rw[List.mem_filter] at hi
  obtain⟨hi1,hi2⟩:=hi
  have hi':i<ops.size:=by simpa using hi1
  have ho:ops[i]?=some ops[i]:=by simp[hi']
  generalize hoo:ops[i]=o at ho
  rw[ho] at hi2
  simp only[Hy,Io,Ix,IL] at hi2
  obtain⟨hnl,hall⟩:=hi2
  have hnl':listed.getD i false=false:=by
   rw[I7] at hnl⊢
   have h':listed[i]?=some listed[i]:=by simp[hsz,hi']
   rw[h'] at hnl⊢;exact hnl
  have hready:∀e∈o.after,Region.binds .any e=true->listed.getD e.on false=true:=by
   intro e he hb
   have:=Array.all_eq_true_iff_forall_mem.1 hall e he
   simpa[hb] using this
  have hpre:=L6 hdc ho hready
  have hpost:=fun(j:Nat) (hs:listed.getD j false=true)=>KG (S:=fun i=>listed.getD i false) hdc hs
  obtain⟨d,b,hit,hcase⟩:=hfact i o ho
  have hil:i<items.length:=by omega
  -- every other operation that shares a slot is ordered with it
  have opAt:∀(k:Nat) (x:It),items[k]?=some x->∃ok,ops[k]?=some ok/\x.1=ok.dst:=by
   intro k x hk
   have hkl:k<ops.size:=by have:=(H0.1 hk).1;omega
   have hok:ops[k]?=some ops[k]:=by simp[hkl]
   obtain⟨d',b',h1,_⟩:=hfact k _ hok
   rw[hk] at h1
   simp at h1
   exact⟨_,hok,by rw[h1]⟩
  have lt_listed:∀(k:Nat) (ok:Oper),ops[k]?=some ok->k<i->(No ops ok o=true∨(effs.getD k false=true/\effs.getD i false=true))->listed.getD k false=true:=
   fun k ok hk hlt hc=>hpre k (Hr hreg hk ho hlt hc)
  have gt_not:∀(k:Nat) (ok:Oper),ops[k]?=some ok->i<k->(No ops o ok=true∨(effs.getD i false=true/\effs.getD k false=true))->listed.getD k false=false:=by
   intro k ok hk hlt hc
   cases hl:listed.getD k false with
   |false=>rfl
   |true=>
    have:=hpost k hl i (Hr hreg ho hk hlt hc)
    simp only[hnl'] at this
    exact absurd this (by simp)
  have agree:∀t∈EC ops o,(SC items (fun i=>listed.getD i false) env0)[t]?=(EQ (items.take i) env0)[t]?:=by
   intro t ht
   rw[←SB]
   refine Fp _ _ _ (fun x hx hxt=>?_) rfl
   have hx2:=mem_zipIdx hx
   obtain⟨ok,hok,hdst⟩:=opAt x.2 x.1 hx2
   rw[hdst] at hxt
   rcases Nat.lt_trichotomy x.2 i with h|h|h
   ·rw[lt_listed x.2 ok hok h (.inl (by unfold No;simp[hxt,ht]))];simp[h]
   ·rw[h,hnl'];simp
   ·rw[gt_not x.2 ok hok h (.inl (by unfold No;simp[hxt,ht]))];simp;omega
  have hlast:∀(k:Nat) (x:It),items[k]?=some x->listed.getD k false=true->i<k->o.dst=none∨x.1≠o.dst:=by
   intro k x hk hl hlt
   cases hd:o.dst with
   |none=>exact .inl rfl
   |some t=>
    refine .inr fun e=>?_
    obtain⟨ok,hok,hdst⟩:=opAt k x hk
    have:=gt_not k ok hok hlt (.inl (by unfold No;simp[hd, ←hdst,e]))
    rw[this] at hl
    simp at hl
  have hadd:=Vu (S:=fun i=>listed.getD i false) (env0:=env0) hit hnl' hlast
  have hcadd:=V2 (S:=fun i=>listed.getD i false) hit hnl'
  have hS':(fun k=>(listed.setIfInBounds i true).getD k false)=fun k=>listed.getD k false||k==i:=by
   funext k
   simp only[I7,Array.getElem?_setIfInBounds]
   by_cases hk:i=k
   ·subst hk;simp[hsz,hi']
   ·simp[hk,Ne.symm hk]
  have hcnt':((List.range ops.size).filter fun k=> !(listed.setIfInBounds i true).getD k false).length=fuel:=by
   have e1:(List.range ops.size).filter (fun k=> !(listed.setIfInBounds i true).getD k false)=((List.range ops.size).filter fun k=> !listed.getD k false).filter (fun k=>k !=i):=by
    rw[List.filter_filter]
    refine List.filter_congr fun k _=>?_
    have:=congrFun hS' k
    rw[this]
    cases listed.getD k false<;>cases hk:(k==i)<;>simp_all
   rw[e1]
   have hnd:((List.range ops.size).filter fun k=> !listed.getD k false).Nodup:=List.filter_sublist.nodup List.nodup_range
   have hm:i∈ (List.range ops.size).filter fun k=> !listed.getD k false:=List.mem_filter.2 ⟨hi1,by simp[hnl']⟩
   have hf1:=hnd.erase_eq_filter i
   rw[←hf1,List.length_erase_of_mem hm,hcount];rfl
  have hdc':DC ops (fun k=>(listed.setIfInBounds i true).getD k false):=by
   rw[hS']
   intro k ok hk hsk e he hb
   simp only[Bool.or_eq_true,HX] at hsk⊢
   rcases hsk with hsk|rfl
   ·exact .inl (hdc k ok hk hsk e he hb)
   ·rw[ho] at hk;simp at hk;subst hk
    exact .inl (hready e he hb)
  -- the count of effects so far
  have hcb:b=true->GR items (fun k=>listed.getD k false)=Gi (items.take i):=by
   intro hbt
   rw[←Np]
   have hei:effs.getD i false=true:=by rw[heff,H6,Ic,hit];simp[hbt]
   refine Fq _ _ (fun x hx hxb=>?_)
   have hx2:=mem_zipIdx hx
   obtain⟨ok,hok,_⟩:=opAt x.2 x.1 hx2
   have hex:effs.getD x.2 false=true:=by rw[heff,H6,Ic,hx2];simp[hxb]
   rcases Nat.lt_trichotomy x.2 i with h|h|h
   ·rw[lt_listed x.2 ok hok h (.inr ⟨hex,hei⟩)];simp[h]
   ·rw[h,hnl'];simp
   ·rw[gt_not x.2 ok hok h (.inr ⟨hei,hex⟩)];simp;omega
  have hw:=M3 agree
  have hev:=P3 agree
  have next:∀(g':Gh) (a':Act) (w':World) (s':St),(sts ((listed.setIfInBounds i true).getD fr false))[GR items (fun k=>(listed.setIfInBounds i true).getD k false)]?=some s'->J g'->FI E g' s' (BU (SC items (fun k=>listed.getD k false) env0) o.dst d) a' w'->wpAny P .any ops Q fuel (listed.setIfInBounds i true) a' w':=by
   intro g' a' w' s' hs' hj' hf'
   refine ih _ a' w' g' s' (by simp[hsz]) hdc' hcnt' hs' hj' ?_
   rw[hS',hadd];exact hf'
  unfold wpOp
  rw[ho]
  simp only
  have hflag:i≠fr->(listed.setIfInBounds i true).getD fr false=listed.getD fr false:=by
   intro hne
   have:=congrFun hS' fr
   rw[this]
   have:(fr==i)=false:=by simpa using Ne.symm hne
   rw[this,Bool.or_false]
  rcases hcase with⟨hwant,rfl,rfl,hne⟩|⟨hwant,rfl,hne,hop⟩|⟨hwant,rfl,hne,hop⟩|⟨hwant,rfl,hfr,hop⟩
  ·rw[HF (by rw[BH hf.env (hw.trans hwant)];simp)]
   refine next g _ w s ?_ hj (hf.put hf.wi g.le_refl (JG g) o.dst)
   rw[hflag hne,hS',hcadd];simpa using hs
  ·rw[HJ (BH hf.env (hw.trans hwant))]
   refine .inl ?_
   rw[←hev] at hop
   have hlim:∀lim,(lims[i]?).bind (·.2)=some lim->GR items (fun k=>listed.getD k false)<=lim:=by
    intro lim hlm
    have hil2:i<lims.length:=by
     have:lims.length=items.length:=by have:=HL List.length (hle.symm.trans heff);simpa using this
     omega
    have h1:=Ii.1 hwin i (by simpa using hil2)
    rw[hlm] at h1
    obtain⟨e,_,h2⟩:=List.any_eq_true.1 h1
    simp only[Hy,H8, ←hle] at h2
    obtain⟨⟨h3,h4⟩,h5⟩:=h2
    have hnote:listed.getD e false=false:=by
     cases hl:listed.getD e false with
     |false=>rfl
     |true=>have:=hpost e hl i h5;simp only[hnl'] at this;exact absurd this (by simp)
    rw[heff, ←List.map_take, ←P8] at h4
    rw[←h4, ←Np]
    refine XW fun k x hk hx hS=>?_
    obtain⟨ok,hok,_⟩:=opAt k x hk
    have hex:effs.getD k false=true:=by rw[heff,H6,Ic,hk];simp[hx]
    rcases Nat.lt_trichotomy k e with h|h|h
    ·simp[h]
    ·subst h;simp only[hnote] at hS;exact absurd hS (by simp)
    ·have hek:e<ops.size:=by have:=(Ir.1 hok).1;omega
     have:=hpost k hS e (Hr hreg (show ops[e]?=some ops[e] by simp[hek]) hok h (.inr ⟨h3,hex⟩))
     simp only[hnote] at this;exact absurd this (by simp)
   refine hop _ _ s hs hlim E g a w _ _ hf.wi (F8 hf.wi.rep.gl hf.env _) fun g' w' u h1 h2 h3=>?_
   refine next g' _ w' s ?_ (hJ g g' h2 hj) (hf.put h1 h2 h3 o.dst)
   rw[hflag hne,hS',hcadd];simpa using hs
  ·rw[HJ (BH hf.env (hw.trans hwant))]
   refine .inl ?_
   rw[hcb rfl] at hs
   rw[←hev] at hop
   obtain⟨s2,hs2,hop2⟩:=hop _ s hs (fun hb=>by
    cases hn:Pp ops i fr with
    |false=>rfl
    |true=>have:=hpre fr hn;rw[hb] at this;exact absurd this (by simp))
   refine hop2 E g a w _ _ hf.wi (F8 hf.wi.rep.gl hf.env _) fun g' w' u h1 h2 h3=>?_
   refine next g' _ w' s2 ?_ (hJ g g' h2 hj) (hf.put h1 h2 h3 o.dst)
   rw[hflag hne,hS',hcadd,hcb rfl];simpa using hs2
  ·rw[HJ (BH hf.env (hw.trans hwant))]
   refine .inl ?_
   rw[←hfr,hnl'] at hs
   rw[←hev] at hop
   obtain⟨s2,hs2,hop2⟩:=hop _ s hs
   refine hop2 E g a w _ _ hf.wi (F8 hf.wi.rep.gl hf.env _) fun g' w' u h1 h2 h3=>?_
   refine next g' _ w' s2 ?_ (hJ g g' h2 hj) (hf.put h1 h2 h3 o.dst)
   have hset:(listed.setIfInBounds i true).getD fr false=true:=by
    have:=congrFun hS' fr
    rw[this, ←hfr];simp
   rw[hset,hS',hcadd];simpa using hs2
theorem SE{id:Nat}{ops:Array Oper}{E:Ent}{J:Gh->Prop}(hJ:∀g g':Gh,g.le g'->J g->J g'){B:Exit->Act->World->Prop}{g:Gh}{a:Act}{w:World}(hm:P.follows .mixedOrders=true)(sts:Bool->List St)(fr:Nat){vals:List D}{effs:List Ef}{env':List D}{j':Nat}{σ':St}(h0:(sts false)[0]?=some σ)(hj:(sts (decide (fr<ops.size)))[j']?=some σ')
  (h:EI P ops sts fr ops.toList env 0 vals effs env' j') (hreg:Gf ops effs=true) (hfi:FI E g σ env a w) (hjg:J g) (hk:∀g' a' w',J g'->FI E g' σ' env' a' w'->KQ P B k .normal a' w'):KQ P B (.code (.region id ops true)::k) .normal a w:=by
 simp only[KQ]
 obtain⟨f1,f2,f3,f4,f5⟩:=h.facts [] [] env rfl (by simp) (by simp[EQ]) (by simp[Gi])
 simp only[nil_append,H7,Ih] at f1 f2 f3
 have hreg1:Rq ops (effs.map (·.1))=true:=by unfold Gf at hreg;rw[Hy] at hreg;exact hreg.1
 have hreg2:WH ops effs=true:=by unfold Gf at hreg;rw[Hy] at hreg;exact hreg.2
 clear hreg
 have f1':∀i o,ops[i]?=some o->Abf P ops sts fr (A1 ops.toList vals effs) effs env i o:=fun i o ho=>f1 i o (by rw[IQ];exact ho)
 have f4':(A1 ops.toList vals effs).length=ops.size:=by rw[f4];simp
 refine wp_region_any hm ?_
 have hS0:(fun i=>(Array.replicate ops.size false).getD i false)=fun _=>false:=by
  funext i
  simp only[I7,Array.getElem?_replicate]
  split<;>rfl
 have he0:∀(l:List (It×Nat)) (e:List D),l.foldl (BO fun _=>false) e=e:=by
  intro l;induction l with
  |nil=>intro e;rfl
  |cons x l ih=>intro e;simp only[IA];rw[show BO (fun _=>false) e x=e from by simp[BO]];exact ih e
 have hc0:∀(l:List (It×Nat)) (c:Nat),l.foldl (BE fun _=>false) c=c:=by
  intro l;induction l with
  |nil=>intro e;rfl
  |cons x l ih=>intro e;simp only[IA];rw[show BE (fun _=>false) e x=e from by simp[BE]];exact ih e
 have hfi':FI E g σ env a { w with drawn:=w.drawn+1 }:=⟨hfi.wi.drew,hfi.env,hfi.defers⟩
 obtain⟨es,hes⟩:∃es,es=effs.map (·.1):=⟨_,rfl⟩
 rw[←hes] at hreg1 f5
 refine O3 (sts:=sts) (fr:=fr) (items:=A1 ops.toList vals effs) (effs:=es) (lims:=effs) (env0:=env) (E:=E) hJ hreg1 hreg2 hes f4' f5 f1' (fun g' a' w' hj' hx=>?_) ops.size _ a _ g σ (by simp) ?_ ?_ ?_ hjg ?_
 ·obtain⟨s,hs,hf⟩:=hx
  rw[←f3,hj] at hs
  simp at hs;subst hs
  rw[←f2] at hf
  exact hk g' a' w' hj' hf
 ·intro i o _ hs
  rw[hS0] at hs
  simp at hs
 ·have:(List.range ops.size).filter (fun i=> !(Array.replicate ops.size false).getD i false)=List.range ops.size:=by
   rw[List.filter_eq_self]
   intro i _
   have:=congrFun hS0 i
   rw[this];rfl
  rw[this];simp
 ·have h0f:(Array.replicate ops.size false).getD fr false=false:=congrFun hS0 fr
  rw[hS0,h0f]
  simp only[GR,hc0];exact h0
 ·rw[hS0]
  simp only[SC,he0];exact hfi'
theorem K1{id:Nat}{ops:Array Oper}(hm:P.follows .mixedOrders=true)(sts:Bool->List St)(fr:Nat){vals:List D}{effs:List Ef}{env':List D}{j':Nat}{σ':St}(h0:(sts false)[0]?=some σ)(hj:(sts (decide (fr<ops.size)))[j']?=some σ')
  (h:EI P ops sts fr ops.toList env 0 vals effs env' j') (hreg:Gf ops effs=true) (hk:A9 C P R k env' σ'):A9 C P R (.code (.region id ops true)::k) env σ:=fun E0 E _ _ _ B hC hfi hB=>
 SE (J:=fun _=>True) (fun _ _ _ _=>trivial) hm sts fr h0 hj h hreg hfi trivial fun g' a' w' _ hf=>hk E0 E g' a' w' B hC hf hB
end
def sub:Code->List Nat->Code
 |c,[]=>c
 |.seq a b,n::p=>if n=0 then sub a p else sub b p
 |.cond _ a b,n::p=>if n=0 then sub a p else sub b p
 |.block _ a,_::p=>sub a p
 |.loop a,_::p=>sub a p
 |.scope a,_::p=>sub a p
 |_,_::_=>.skip
def BF:Code->Array Oper
 |.region _ ops _=>ops
 |_=> #[]
def Cv(env:List D)(σ:St)(env':List D)(σ':St):Prop:=∀(E:Ent) (g:Gh) (a:Act) (w:World),FI E g σ env a w->∃g',FI E g' σ' env' a w
section
variable {C : Ent -> Ent -> Prop} {P : Program} {R : List D -> St -> Prop} {c : Code} {p : List Nat} {k : List KI} {env env' : List D} {σ σ' : St} {i : Nat} {o : Oper} {d : D}
theorem YL(h:Cv env σ env' σ')(hk:A9 C P R k env' σ'):A9 C P R k env σ:=fun E0 E g a w B hC hf hB=>by
 obtain⟨g',hf'⟩:=h E g a w hf
 exact hk E0 E g' a w B hC hf' hB
theorem Fu{s:Nat}(hs:env[s]?=some d):evD env (.tmp s)=d:=by simp[evD,H6,hs]
inductive Wk:List D->List D->Prop
 |nil:Wk [] []
 |keep {d:D} {l l':List D} (h:Wk l l'):Wk (d::l) (d::l')
 |drop {d:D} {l l':List D} (h:Wk l l'):Wk (d::l) (.undef::l')
theorem Wk.ok:∀{l l':List D},Wk l l'->l'.length=l.length/\∀(i:Nat) (d':D),l'[i]?=some d'->d'=.undef∨l[i]?=some d'
 |_,_,.nil=>⟨rfl,fun i d' h=>by simp at h⟩
 |_,_,.keep h=>by
  obtain⟨h1,h2⟩:=h.ok
  refine⟨by simp[h1],fun i d' hi=>?_⟩
  cases i with
  |zero=>exact .inr hi
  |succ i=>exact h2 i d' (by simpa using hi)
 |_,_,.drop h=>by
  obtain⟨h1,h2⟩:=h.ok
  refine⟨by simp[h1],fun i d' hi=>?_⟩
  cases i with
  |zero=>simp at hi;exact .inl hi.symm
  |succ i=>exact h2 i d' (by simpa using hi)
theorem drop_cons(ho:(BF (sub c p))[i]?=some o):((BF (sub c p)).toList.drop i)=o::(BF (sub c p)).toList.drop (i+1):=by
 have ho':(BF (sub c p)).toList[i]?=some o:=by simpa using ho
 rw[HD (H0.1 ho').1,(H0.1 ho').2]
def BY(LF LT:List St):Bool->List St
 |false=>LF
 |true=>LT
end
end Go.Dv

namespace Go.Proofs.YtpmahmngmgnnbaaGreatDoor
open Go.Dv
open Go.IntKind (wrap)
noncomputable abbrev PP:Program:= Tryz.prog
theorem mixed:PP.follows .mixedOrders=true:=by kernel_rfl
end Go.Proofs.YtpmahmngmgnnbaaGreatDoor
