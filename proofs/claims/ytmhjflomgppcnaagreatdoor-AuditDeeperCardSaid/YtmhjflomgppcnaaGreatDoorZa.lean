/-
  A part of the proof.
-/
import Derived.Calls
import Derived.Laws.AppendOwn
import Derived.Laws.MakeOwn
import Derived.Laws.Slices
import Derived.Laws.Rows
import Derived.Tactics
import Derived.Laws.Strings
import Derived.Great.BuildSlice
import Derived.Lib.Strings
import Derived.Orders
namespace Go
abbrev H3:=@List.length_map
abbrev H4:=@List.getElem?_eq_getElem
abbrev H5:=@Bool.and_eq_true
abbrev H6:=@decide_eq_true
abbrev H7:=@List.getElem?_eq_some_iff
abbrev H8:=@decide_eq_false
abbrev H9:=@List.length_cons
abbrev HA:=@List.mem_of_getElem?
abbrev HB:=@Nat.le_refl
abbrev HC:=@List.getD_eq_getElem?_getD
abbrev HD:=@List.length_nil
abbrev HE:=@decide_eq_true_eq
abbrev HF:=@of_decide_eq_true
abbrev HG:=@eq_false_of_ne_true
abbrev HH:=@List.cons.injEq
abbrev HI:=@List.length_append
abbrev HJ:=@List.drop_eq_getElem_cons
abbrev HK:=@List.mem_singleton
abbrev HL:=@if_neg
abbrev HM:=@Bool.and_eq_true_iff
abbrev HN:=@List.getElem?_append_right
abbrev HO:=@List.drop_of_length_le
abbrev HP:=@if_pos
abbrev HQ:=@List.getElem?_append_left
abbrev HR:=@congrArg
abbrev HS:=@Nat.eq_of_beq_eq_true
abbrev HT:=@Option.some.inj
abbrev HU:=@List.map_cons
abbrev HV:=@Int.le_refl
abbrev HW:=@List.take_of_length_le
abbrev HX:=@Nat.le_of_ble_eq_true
abbrev HY:=@List.length_take
abbrev HZ:=@Bool.false_and
abbrev Ia:=@Option.some.injEq
abbrev Ib:=@Bool.true_and
abbrev Ic:=@Nat.zero_le
abbrev Ie:=@beq_iff_eq
abbrev Ig:=@Array.length_toList
abbrev Ih:=@and_true
abbrev Ii:=@beq_eq_false_iff_ne
abbrev Ij:=@List.mem_cons
abbrev Ik:=@List.getElem?_map
abbrev Il:=@List.mem_map
abbrev Im:=@of_decide_eq_false
abbrev Io:=@Nat.zero_add
abbrev Ip:=@List.all_eq_true
abbrev Iq:=@List.mem_append
abbrev Ir:=@List.getElem?_eq_none
abbrev Is:=@List.append_nil
abbrev Iu:=@List.mem_of_mem_drop
abbrev Iv:=@Bool.not_eq_true'
abbrev Iw:=@And.intro
abbrev Ix:=@List.replicate_succ
abbrev Iy:=@Array.getElem?_eq_some_iff
abbrev Iz:=@Nat.le_trans
abbrev I1:=@List.map_nil
abbrev I2:=@Nat.add_zero
abbrev I3:=@Int.min_def
abbrev I4:=@Option.map_some
abbrev I5:=@List.getElem?_cons_zero
abbrev I6:=@Array.ext'
abbrev I7:=@List.getElem?_toArray
abbrev I8:=@List.mem_or_eq_of_mem_set
abbrev I9:=@List.length_drop
abbrev IA:=@List.append_assoc
abbrev IB:=@Int.toNat_natCast
abbrev IC:=@if_true
abbrev ID:=@Array.getD_eq_getD_getElem?
abbrev IE:=@Nat.add_mul
abbrev IF:=@List.take_add_one
abbrev IG:=@List.foldl_cons
abbrev II:=@List.size_toArray
abbrev IJ:=@List.map_append
abbrev IK:=@List.mem_of_mem_take
abbrev IL:=@List.eq_nil_of_length_eq_zero
abbrev IM:=@decide_eq_false_iff_not
abbrev IN:=@Nat.lt_of_lt_of_le
abbrev IP:=@List.set_cons_succ
abbrev IQ:=@List.getElem?_take
abbrev IR:=@List.flatten_cons
abbrev IT:=@Option.getD_some
abbrev IU:=@List.not_mem_nil
abbrev IV:=@List.take_append_of_le_length
abbrev IW:=@List.drop_zero
abbrev IX:=@Array.getElem?_toList
abbrev IY:=@Bool.and_false
abbrev IZ:=@Option.map_none
abbrev Ji:=@True.intro
abbrev Jj:=@Bool.false_eq_true
abbrev Jk:=@List.cons_append
abbrev Jm:=@List.getElem?_cons_succ
end Go
namespace Go.Dv
open List (getElem?_drop getElem?_set map_map replicate take_succ_cons)
open Go.IntKind (wrap i64 u64)
inductive V where
 |int (k:IntKind) (n:Int)
 |bool (b:Bool)
 |str (s:List UInt8)
 |list (xs:List V)
 |agg (cs:List V)
 |ref (x:V)
 |fn (f:FuncId) (fs cs:List V)
 |nilfn
 |nilp
 |nils
 |ifc (t:TypeId) (x:V)
 deriving Inhabited
def V.isAgg:V->Bool
 |.agg _=>true
 |_=>false
def V.size:V->Nat
 |.agg cs=>cs.length
 |_=>1
abbrev Mem:=Nat->Nat->Option Value
def inM(M:Mem)(b off:Nat)(ws:List Value):Prop:=∀j v,ws[j]?=some v->M b (off+j)=some v
def E2:V->List Value->Value
 |.agg _,ws=>.agg ws.toArray
 |_,ws=>ws.headD (.tuple #[])
mutual
def repC(M:Mem):V->List Value->Prop
 |.int k n,ws=>ws=[.int k n]
 |.bool b,ws=>ws=[.bool b]
 |.str s,ws=>ws=[.string ⟨s.toArray⟩]
 |.list xs,ws=>∃a cap,ws=[.slice a xs.length cap]/\xs.length<=cap/\(xs=[]∨∃b off sz us,a=some ⟨b,off,none⟩/\0<sz/\inM M b off us/\repE M sz xs us)
 |.agg cs,ws=>repA M cs ws
 |.ref x,ws=>∃b off us,ws=[.pointer (some ⟨b,off,none⟩)]/\inM M b off us/\repC M x us
 |.fn f fs cs,ws=>∃us vs,ws=[.func (.func f) us.toArray vs.toArray]/\EQ M fs us/\EQ M cs vs
 |.nilfn,ws=>ws=[.nilFunc]
 |.nilp,ws=>ws=[.pointer none]
 |.nils,ws=>ws=[.slice none 0 0]
 |.ifc t x,ws=>∃us,ws=[.iface t (E2 x us)]/\repC M x us
def repE(M:Mem)(sz:Nat):List V->List Value->Prop
 |[],us=>us=[]
 |x::xs,us=>∃u1 u2,us=u1++u2/\u1.length=sz/\repC M x u1/\repE M sz xs u2
def repA(M:Mem):List V->List Value->Prop
 |[],us=>us=[]
 |c::cs,us=>∃u us',us=u::us'/\c.isAgg=false/\repC M c [u]/\repA M cs us'
def EQ(M:Mem):List V->List Value->Prop
 |[],us=>us=[]
 |x::xs,us=>∃u us' ws,us=u::us'/\repC M x ws/\u=E2 x ws/\EQ M xs us'
end
def repV(M:Mem)(x:V)(u:Value):Prop:=∃ws,repC M x ws/\u=E2 x ws
def Mem.le(M M':Mem):Prop:=∀b o v,M b o=some v->M' b o=some v
theorem Mem.le_refl(M:Mem):M.le M:=fun _ _ _ h=>h
theorem Mem.le_trans{M M' M'':Mem}(h:M.le M')(h':M'.le M''):M.le M'':=fun b o v e=>h' b o v (h b o v e)
theorem inM.mono{M M':Mem}{b off:Nat}{ws:List Value}(hm:M.le M')(h:inM M b off ws):inM M' b off ws:=fun j v e=>hm _ _ _ (h j v e)
mutual
theorem repC.mono{M M':Mem}(hm:M.le M'):∀(x:V) (ws:List Value),repC M x ws->repC M' x ws
 |.int k n,ws,h=>h
 |.bool b,ws,h=>h
 |.str s,ws,h=>h
 |.list xs,ws,h=>by
  simp only[repC] at h⊢
  obtain⟨a,cap,e,hc,h⟩:=h
  refine⟨a,cap,e,hc,?_⟩
  rcases h with h|⟨b,off,sz,us,ha,hs,hi,he⟩
  ·exact .inl h
  ·exact .inr ⟨b,off,sz,us,ha,hs,hi.mono hm,repE.mono hm sz xs us he⟩
 |.agg cs,ws,h=>by simp only[repC] at h⊢;exact repA.mono hm cs ws h
 |.ref x,ws,h=>by
  simp only[repC] at h⊢
  obtain⟨b,off,us,e,hi,hx⟩:=h
  exact⟨b,off,us,e,hi.mono hm,repC.mono hm x us hx⟩
 |.fn f fs cs,ws,h=>by
  simp only[repC] at h⊢
  obtain⟨us,vs,e,h1,h2⟩:=h
  exact⟨us,vs,e,EQ.mono hm fs us h1,EQ.mono hm cs vs h2⟩
 |.nilfn,ws,h=>h
 |.nilp,ws,h=>h
 |.nils,ws,h=>h
 |.ifc t x,ws,h=>by
  simp only[repC] at h⊢
  obtain⟨us,e,hx⟩:=h
  exact⟨us,e,repC.mono hm x us hx⟩
theorem repE.mono{M M':Mem}(hm:M.le M')(sz:Nat):∀(xs:List V) (us:List Value),repE M sz xs us->repE M' sz xs us
 |[],us,h=>h
 |x::xs,us,h=>by
  simp only[repE] at h⊢
  obtain⟨u1,u2,e,hl,h1,h2⟩:=h
  exact⟨u1,u2,e,hl,repC.mono hm x u1 h1,repE.mono hm sz xs u2 h2⟩
theorem repA.mono{M M':Mem}(hm:M.le M'):∀(cs:List V) (us:List Value),repA M cs us->repA M' cs us
 |[],us,h=>h
 |c::cs,us,h=>by
  simp only[repA] at h⊢
  obtain⟨u,us',e,ha,h1,h2⟩:=h
  exact⟨u,us',e,ha,repC.mono hm c [u] h1,repA.mono hm cs us' h2⟩
theorem EQ.mono{M M':Mem}(hm:M.le M'):∀(xs:List V) (us:List Value),EQ M xs us->EQ M' xs us
 |[],us,h=>h
 |x::xs,us,h=>by
  simp only[EQ] at h⊢
  obtain⟨u,us',ws,e,h1,h2,h3⟩:=h
  exact⟨u,us',ws,e,repC.mono hm x ws h1,h2,EQ.mono hm xs us' h3⟩
end
theorem repV.mono{M M':Mem}(hm:M.le M'){x:V}{u:Value}(h:repV M x u):repV M' x u:=
 let ⟨ws,h1,h2⟩:=h;⟨ws,repC.mono hm x ws h1,h2⟩
theorem Dh{M:Mem}:∀{cs:List V} {us:List Value},repA M cs us->us.length=cs.length
 |[],us,h=>by simp only[repA] at h;simp[h]
 |c::cs,us,h=>by
  simp only[repA] at h
  obtain⟨u,us',rfl,_,_,h2⟩:=h
  simp[Dh h2]
theorem Fi{M:Mem}:∀{x:V} {ws:List Value},repC M x ws->ws.length=x.size
 |.int k n,ws,h=>by simp only[repC] at h;simp[h,V.size]
 |.bool b,ws,h=>by simp only[repC] at h;simp[h,V.size]
 |.str s,ws,h=>by simp only[repC] at h;simp[h,V.size]
 |.list xs,ws,h=>by simp only[repC] at h;obtain⟨a,cap,e,_⟩:=h;simp[e,V.size]
 |.agg cs,ws,h=>by simp only[repC] at h;simpa[V.size] using Dh h
 |.ref x,ws,h=>by simp only[repC] at h;obtain⟨b,off,us,e,_⟩:=h;simp[e,V.size]
 |.fn f fs cs,ws,h=>by simp only[repC] at h;obtain⟨us,vs,e,_⟩:=h;simp[e,V.size]
 |.nilfn,ws,h=>by simp only[repC] at h;simp[h,V.size]
 |.nilp,ws,h=>by simp only[repC] at h;simp[h,V.size]
 |.nils,ws,h=>by simp only[repC] at h;simp[h,V.size]
 |.ifc t x,ws,h=>by simp only[repC] at h;obtain⟨us,e,_⟩:=h;simp[e,V.size]
theorem Ct{M:Mem}{x:V}{ws:List Value}(hx:x.isAgg=false)(h:repC M x ws):∃u,ws=[u]/\E2 x ws=u/\u.oneCell'=true:=by
 cases x with
 |int k n=>simp only[repC] at h;exact⟨_,h,by simp[E2,h],rfl⟩
 |bool b=>simp only[repC] at h;exact⟨_,h,by simp[E2,h],rfl⟩
 |str s=>simp only[repC] at h;exact⟨_,h,by simp[E2,h],rfl⟩
 |list xs=>simp only[repC] at h;obtain⟨a,cap,e,_⟩:=h;exact⟨_,e,by simp[E2,e],rfl⟩
 |agg cs=>simp[V.isAgg] at hx
 |ref x=>simp only[repC] at h;obtain⟨b,off,us,e,_⟩:=h;exact⟨_,e,by simp[E2,e],rfl⟩
 |fn f fs cs=>simp only[repC] at h;obtain⟨us,vs,e,_⟩:=h;exact⟨_,e,by simp[E2,e],rfl⟩
 |nilfn=>simp only[repC] at h;exact⟨_,h,by simp[E2,h],rfl⟩
 |nilp=>simp only[repC] at h;exact⟨_,h,by simp[E2,h],rfl⟩
 |nils=>simp only[repC] at h;exact⟨_,h,by simp[E2,h],rfl⟩
 |ifc t x=>simp only[repC] at h;obtain⟨us,e,_⟩:=h;exact⟨_,e,by simp[E2,e],rfl⟩
theorem B1{M:Mem}{x:V}{u:Value}(hx:x.isAgg=false):repV M x u↔repC M x [u]:=by
 constructor
 ·rintro ⟨ws,h,e⟩
  obtain⟨u',e1,e2,_⟩:=Ct hx h
  rw[e,e2, ←e1];exact h
 ·intro h
  obtain⟨u',e1,e2,_⟩:=Ct hx h
  have:u=u':=by simpa using e1
  exact⟨[u],h,by rw[e2,this]⟩
@[simp] theorem A5 {M:Mem} {k:IntKind} {n:Int} {u:Value}:repV M (.int k n) u↔u=.int k n:=by rw[B1 rfl];simp[repC]
@[simp] theorem DJ {M:Mem} {b:Bool} {u:Value}:repV M (.bool b) u↔u=.bool b:=by rw[B1 rfl];simp[repC]
@[simp] theorem C9 {M:Mem} {s:List UInt8} {u:Value}:repV M (.str s) u↔u=.string ⟨s.toArray⟩:=by rw[B1 rfl];simp[repC]
@[simp] theorem AeC {M:Mem} {u:Value}:repV M .nilfn u↔u=.nilFunc:=by rw[B1 rfl];simp[repC]
@[simp] theorem Cq {M:Mem} {u:Value}:repV M .nils u↔u=.slice none 0 0:=by rw[B1 rfl];simp[repC]
@[simp] theorem AfE {M:Mem} {u:Value}:repV M .nilp u↔u=.pointer none:=by rw[B1 rfl];simp[repC]
theorem AU{M:Mem}{xs:List V}{u:Value}:repV M (.list xs) u↔∃a cap,u=.slice a xs.length cap/\xs.length<=cap/\(xs=[]∨∃b off sz us,a=some ⟨b,off,none⟩/\0<sz/\inM M b off us/\repE M sz xs us):=by
 rw[B1 rfl];simp[repC]
theorem Dw(M:Mem):repV M (.list []) (.slice none 0 0):=by rw[AU];exact⟨none,0,rfl,HB _,.inl rfl⟩
theorem CA{M:Mem}{x:V}{u:Value}:repV M (.ref x) u↔∃b off us,u=.pointer (some ⟨b,off,none⟩)/\inM M b off us/\repC M x us:=by rw[B1 rfl];simp[repC]
theorem FZ{M:Mem}{f:FuncId}{fs cs:List V}{u:Value}:repV M (.fn f fs cs) u↔∃us vs,u=.func (.func f) us.toArray vs.toArray/\EQ M fs us/\EQ M cs vs:=by rw[B1 rfl];simp[repC]
theorem MG{M:Mem}{t:TypeId}{x:V}{u:Value}:repV M (.ifc t x) u↔∃v,u=.iface t v/\repV M x v:=by
 rw[B1 rfl]
 simp only[repC,HH,Ih]
 constructor
 ·rintro ⟨us,e,h⟩;exact⟨_,e,us,h,rfl⟩
 ·rintro ⟨v,e,us,h,rfl⟩;exact⟨us,e,h⟩
theorem Cr{M:Mem}{cs:List V}{u:Value}:repV M (.agg cs) u↔∃ws,repA M cs ws/\u=.agg ws.toArray:=by simp[repV,repC,E2]
theorem CF{M:Mem}{x:V}{u:Value}(hx:x.isAgg=false)(h:repV M x u):u.oneCell'=true:=by
 obtain⟨ws,h,e⟩:=h
 obtain⟨u',e1,e2,h3⟩:=Ct hx h
 rw[e,e2];exact h3
theorem J1{M:Mem}{x:V}{u:Value}(h:repV M x u):repC M x u.cells.toList:=by
 obtain⟨ws,h,e⟩:=h
 cases hx:x.isAgg with
 |false=>
  obtain⟨u',e1,e2,h3⟩:=Ct hx h
  rw[e,e2]
  have:u'.cells= #[u']:=by cases u'<;>simp_all [Value.cells,Value.oneCell']
  rw[this, ←e1];exact h
 |true=>
  cases x with
  |agg cs=>rw[e];simpa[E2,Value.cells] using h
  |_=>simp[V.isAgg] at hx
theorem Gf{M:Mem}:∀{cs:List V} {us:List Value},repA M cs us->∀u∈us,u.oneCell'=true
 |[],us,h=>by simp only[repA] at h;simp[h]
 |c::cs,us,h=>by
  simp only[repA] at h
  obtain⟨u,us',rfl,ha,h1,h2⟩:=h
  intro u0 hu
  rcases Ij.1 hu with rfl|hu
  ·obtain⟨u',e1,_,h3⟩:=Ct ha h1
   have:u0=u':=by simpa using e1
   rw[this];exact h3
  ·exact Gf h2 u0 hu
theorem JP{M:Mem}{x:V}{us:List Value}(h:repC M x us):∀u∈us,u.oneCell'=true:=by
 cases hx:x.isAgg with
 |false=>
  obtain⟨u',e1,_,h3⟩:=Ct hx h
  rw[e1];intro u hu;simp at hu;rw[hu];exact h3
 |true=>
  cases x with
  |agg cs=>simp only[repC] at h;exact Gf h
  |_=>simp[V.isAgg] at hx
inductive D where
 |v (x:V)
 |acc (k:Nat) (xs:List V)
 |ptr (o off:Nat)
 |arr (o off len:Nat)
 |gro (o len sz:Nat)
 |raw (x:Value)
 |rv (x:V) (u:Value)
 |dagg (cs:List D)
 |dfn (f:FuncId) (fs cs:List D)
 |tup (ds:List D)
 |err
 |undef
 deriving Inhabited
structure Gh where
 M:Mem
 β:Nat->Nat
 n:Nat
 ι:Nat->Nat->Option Value
 κ:Nat->Nat
mutual
def Ae(g:Gh):D->Value->Prop
 |.v x,u=>repV g.M x u
 |.acc k xs,u=>repV g.M (.list xs) u/\g.ι k xs.length=some u
 |.ptr o off,u=>o<g.n/\u=.pointer (some ⟨g.β o,off,none⟩)
 |.arr o off len,u=>o<g.n/\∃cap,len<=cap/\u=.slice (some ⟨g.β o,off,none⟩) len cap
 |.gro o len sz,u=>o<g.n/\∃cap,len<=cap/\cap*sz=g.κ o/\u=.slice (some ⟨g.β o,0,none⟩) len cap
 |.raw x,u=>u=x
 |.rv x u0,u=>u=u0/\repV g.M x u0
 |.dagg cs,u=>∃us,u=.agg us.toArray/\Ac g cs us
 |.dfn f fs cs,u=>∃us vs,u=.func (.func f) us.toArray vs.toArray/\Ac g fs us/\Ac g cs vs
 |.tup ds,u=>∃us,u=.tuple us.toArray/\Ac g ds us
 |.err,u=>∃t p,u=.iface t p
 |.undef,_=>True
def Ac(g:Gh):List D->List Value->Prop
 |[],us=>us=[]
 |d::ds,us=>∃u us',us=u::us'/\Ae g d u/\Ac g ds us'
end
structure Gh.le(g g':Gh):Prop where
 M:g.M.le g'.M
 n:g.n<=g'.n
 β:∀o,o<g.n->g'.β o=g.β o
 ι:∀k m u,g.ι k m=some u->g'.ι k m=some u
 κ:∀o,o<g.n->g'.κ o=g.κ o
theorem Gh.le_refl(g:Gh):g.le g:=⟨g.M.le_refl,HB _,fun _ _=>rfl,fun _ _ _ h=>h,fun _ _=>rfl⟩
theorem Gh.le_trans{g g' g'':Gh}(h:g.le g')(h':g'.le g''):g.le g'':=
 ⟨Mem.le_trans h.M h'.M,Iz h.n h'.n,fun o ho=>(h'.β o (IN ho h.n)).trans (h.β o ho),fun k m u e=>h'.ι k m u (h.ι k m u e),fun o ho=>(h'.κ o (IN ho h.n)).trans (h.κ o ho)⟩
mutual
theorem Ae.mono{g g':Gh}(hg:g.le g'):∀(d:D) (u:Value),Ae g d u->Ae g' d u
 |.v x,u,h=>by simp only[Ae] at h⊢;exact h.mono hg.M
 |.acc k xs,u,h=>by simp only[Ae] at h⊢;exact⟨h.1.mono hg.M,hg.ι _ _ _ h.2⟩
 |.ptr o off,u,h=>by simp only[Ae] at h⊢;exact⟨IN h.1 hg.n,by rw[hg.β o h.1];exact h.2⟩
 |.arr o off len,u,h=>by simp only[Ae] at h⊢;exact⟨IN h.1 hg.n,by rw[hg.β o h.1];exact h.2⟩
 |.gro o len sz,u,h=>by simp only[Ae] at h⊢;exact⟨IN h.1 hg.n,by rw[hg.β o h.1,hg.κ o h.1];exact h.2⟩
 |.raw x,u,h=>by simpa only[Ae] using h
 |.rv x u0,u,h=>by simp only[Ae] at h⊢;exact⟨h.1,h.2.mono hg.M⟩
 |.dagg cs,u,h=>by
  simp only[Ae] at h⊢
  obtain⟨us,e,h1⟩:=h
  exact⟨us,e,Ac.mono hg cs us h1⟩
 |.dfn f fs cs,u,h=>by
  simp only[Ae] at h⊢
  obtain⟨us,vs,e,h1,h2⟩:=h
  exact⟨us,vs,e,Ac.mono hg fs us h1,Ac.mono hg cs vs h2⟩
 |.tup ds,u,h=>by
  simp only[Ae] at h⊢
  obtain⟨us,e,h1⟩:=h
  exact⟨us,e,Ac.mono hg ds us h1⟩
 |.err,u,h=>by simpa only[Ae] using h
 |.undef,u,_=>by simp only[Ae]
theorem Ac.mono{g g':Gh}(hg:g.le g'):∀(ds:List D) (us:List Value),Ac g ds us->Ac g' ds us
 |[],us,h=>by simpa only[Ac] using h
 |d::ds,us,h=>by
  simp only[Ac] at h⊢
  obtain⟨u,us',e,h1,h2⟩:=h
  exact⟨u,us',e,Ae.mono hg d u h1,Ac.mono hg ds us' h2⟩
end
theorem A4{g:Gh}:∀{ds:List D} {us:List Value},Ac g ds us->us.length=ds.length
 |[],us,h=>by simp only[Ac] at h;simp[h]
 |d::ds,us,h=>by
  simp only[Ac] at h
  obtain⟨u,us',rfl,_,h2⟩:=h
  simp[A4 h2]
theorem B9{g:Gh}:∀{ds:List D} {us:List Value},Ac g ds us->∀{i:Nat} {d:D},ds[i]?=some d->∃u,us[i]?=some u/\Ae g d u
 |[],us,h,i,d,hd=>by simp at hd
 |d::ds,us,h,i,d',hd=>by
  simp only[Ac] at h
  obtain⟨u,us',rfl,h1,h2⟩:=h
  cases i with
  |zero=>simp at hd;subst hd;exact⟨u,by simp,h1⟩
  |succ i=>simp at hd;obtain⟨u',e,h3⟩:=B9 h2 hd;exact⟨u',by simpa using e,h3⟩
theorem CG{g:Gh}:∀{ds:List D} {us:List Value},Ac g ds us->∀(i:Nat) {d:D} {u:Value},Ae g d u->Ac g (ds.set i d) (us.set i u)
 |[],us,h,i,d,u,_=>by simp only[Ac] at h;simp[h,Ac]
 |d0::ds,us,h,i,d,u,hd=>by
  simp only[Ac] at h
  obtain⟨u0,us',rfl,h1,h2⟩:=h
  cases i with
  |zero=>simp only[List.set_cons_zero,Ac];exact⟨u,us',rfl,hd,h2⟩
  |succ i=>simp only[IP,Ac];exact⟨u0,_,rfl,h1,CG h2 i hd⟩
theorem Ap{g:Gh}:∀{ds ds':List D} {us us':List Value},Ac g ds us->Ac g ds' us'->Ac g (ds++ds') (us++us')
 |[],ds',us,us',h,h'=>by simp only[Ac] at h;simpa[h] using h'
 |d::ds,ds',us,us',h,h'=>by
  simp only[Ac] at h
  obtain⟨u,us1,rfl,h1,h2⟩:=h
  simp only[Jk,Ac]
  exact⟨u,_,rfl,h1,Ap h2 h'⟩
theorem Ea{α:Type}{l r:List α}{i:Nat}{x:α}(h:l[i]?=some x):(l++r)[i]?=some x:=by
 rw[HQ (H7.1 h).1];exact h
theorem Ge{g:Gh}:∀{ds:List D} {us:List Value},Ac g ds us->∀{ds':List D},ds'.length=ds.length->(∀(i:Nat) (d':D),ds'[i]?=some d'->d'=.undef∨ds[i]?=some d')->Ac g ds' us
 |[],us,h,ds',hl,_=>by
  have:ds'=[]:=IL (by simpa using hl)
  subst this;exact h
 |d::ds,us,h,[],hl,_=>by simp at hl
 |d::ds,us,h,d'::ds',hl,hw=>by
  simp only[Ac] at h⊢
  obtain⟨u,us',rfl,h1,h2⟩:=h
  refine⟨u,us',rfl,?_,Ge h2 (by simpa using hl) (fun i x hx=>by have:=hw (i+1) x (by simpa using hx);simpa using this)⟩
  rcases hw 0 d' (by simp) with rfl|e
  ·simp only[Ae]
  ·simp at e;subst e;exact h1
abbrev vForm(w:List UInt8)(t p q:Bool):List V:=[.str w,.bool t,.bool p,.bool q]
def vForms:V:=.agg (vForm [] false false false++vForm [99,111,118,101,114] true false false++vForm [114,101,97,99,104] true false false++vForm [98,111,117,110,100,101,100] false false true++vForm [112,108,97,99,101] false true true++vForm [100,101,97,100] false false false++vForm [104,111,109,101] false false false)
abbrev DRW:Prop:=True
def B6(a b:Nat):Prop:=DRW->a<=b
theorem B6.of{a b:Nat}(h:a<=b):B6 a b:=fun _=>h
theorem B6.refl(a:Nat):B6 a a:=.of (HB _)
theorem B6.succ(a:Nat):B6 a (a+1):=.of (Nat.le_succ _)
theorem B6.trans{a b c:Nat}(h:B6 a b)(h':B6 b c):B6 a c:=fun d=>Iz (h d) (h' d)
def GLOB:List (Nat×V):=[(0,vForms)]
def GLX(_:Mem):Prop:=True
theorem GLX.mono{M M':Mem}(h:GLX M)(_:M.le M'):GLX M':=h
structure D5(M:Mem):Prop where
 known:∀p∈GLOB,∃us,inM M p.1 0 us/\repC M p.2 us
 more:GLX M
theorem D5.mono{M M':Mem}(h:D5 M)(hle:M.le M'):D5 M':=⟨fun p hp=>
 let ⟨us,h1,h2⟩:=h.known p hp
 ⟨us,h1.mono hle,repC.mono hle _ _ h2⟩,h.more.mono hle⟩
def FP:List (Nat×Nat):=[]
def GW(w:World):Prop:=∀p∈FP,∃cs e x,w.heap[p.1]?=some (.cells cs e x)/\cs.size=p.2
theorem GW.mono{w w':World}(h:GW w)(hs:∀(b:Nat) (cs:Array Value) (e:TypeId) (x:Nat×Nat),w.heap[b]?=some (.cells cs e x)->∃cs' e' x',w'.heap[b]?=some (.cells cs' e' x')/\cs'.size=cs.size):GW w':=fun p hp=>by
 obtain⟨cs,e,x,h1,h2⟩:=h p hp
 obtain⟨cs',e',x',h3,h4⟩:=hs _ _ _ _ h1
 exact⟨cs',e',x',h3,h4.trans h2⟩
theorem GW.keep{w w':World}(h:GW w)(hs:∀b,b<w.heap.size->w'.heap[b]?=w.heap[b]?):GW w':=h.mono fun b cs e x hb=>⟨cs,e,x,(hs b (Iy.1 hb).1).trans hb,rfl⟩
theorem GW.keepG{w w':World}(h:GW w)(hs:∀p∈FP,p.1<w.heap.size->w'.heap[p.1]?=w.heap[p.1]?):GW w':=fun p hp=>by
 obtain⟨cs,e,x,h1,h2⟩:=h p hp
 exact⟨cs,e,x,(hs p hp (Iy.1 h1).1).trans h1,h2⟩
theorem D5.sized{M:Mem}(_:D5 M):∀p∈FP,∃v,M p.1 0=some v:=fun p hp=>by simp[FP] at hp
structure St where
 H:List (Option (List D))
 own:List (Nat×Nat×List V)
def D.one:D->Bool
 |.v x=> !x.isAgg
 |.acc .. |.ptr .. |.arr .. |.gro .. |.dfn .. =>true
 |.raw x=>x.oneCell'
 |.rv x _=> !x.isAgg
 |_=>false
def BZ:Value->Option Nat
 |.slice (some a) _ cap=>if cap=0 then none else some a.block
 |_=>none
structure NoM(M:Mem)(b n:Nat):Prop where
 none:∀o,n<=o->M b o=Option.none
 ng:∀p∈FP,p.1≠b
instance {M:Mem} {b n:Nat}:CoeFun (NoM M b n) fun _=>∀o,n<=o->M b o=Option.none:=⟨NoM.none⟩
def Perm(M:Mem)(w:World)(sz:Nat)(u:Value):Prop:=
 (∃a,u=.slice a 0 0)∨∃b f len cap cur e,u=.slice (some ⟨b,f,none⟩) len cap/\w.heap[b]?=some (.cells cur e (0,0))/\len<=cap/\f+cap*sz<=cur.size/\NoM M b (f+len*sz)
structure WRep(g:Gh)(σ:St)(w:World):Prop where
 n:g.n=σ.H.length
 mem:∀b o v,g.M b o=some v->w.cell? ⟨b,o,none⟩=some v
 obj:∀i cs,σ.H[i]?=some (some cs)->∃us rest e,w.heap[g.β i]?=some (.cells (us++rest).toArray e (0,0))/\Ac g cs us/\(∀c∈cs,c.one=true)/\(∀o,g.M (g.β i) o=none)/\(us++rest).length=g.κ i
 inj:∀i j cs ds,σ.H[i]?=some (some cs)->σ.H[j]?=some (some ds)->g.β i=g.β j->i=j
 own:∀k sz xs,(k,sz,xs)∈σ.own->(0<sz/\∀x∈xs,x.size=sz)/\∃u,g.ι k xs.length=some u/\repV g.M (.list xs) u/\Perm g.M w sz u/\∀m,xs.length<m->g.ι k m=none
 tags:(σ.own.map (·.1)).Nodup
 sep:∀x∈σ.own,∀y∈σ.own,x.1≠y.1->∀u u',g.ι x.1 x.2.2.length=some u->g.ι y.1 y.2.2.length=some u'->∀b,BZ u=some b->BZ u'≠some b
 ownObj:∀x∈σ.own,∀u,g.ι x.1 x.2.2.length=some u->∀b,BZ u=some b->∀i cs,σ.H[i]?=some (some cs)->g.β i≠b
 fresh:∀k,(∀x∈σ.own,x.1≠k)->∀m,g.ι k m=none
 gl:D5 g.M
 gw:GW w
structure Ent where
 g:Gh
 w:World
 σ:St
def Ent.priv(E:Ent)(b:Nat):Prop:=
 (∃i cs,E.σ.H[i]?=some (some cs)/\b=E.g.β i)∨(∃x∈E.σ.own,∃u,E.g.ι x.1 x.2.2.length=some u/\BZ u=some b)
structure WI(E:Ent)(g:Gh)(σ:St)(w:World):Prop where
 rep:WRep g σ w
 M:E.g.M.le g.M
 size:E.w.heap.size<=w.heap.size
 keep:∀b,b<E.w.heap.size->¬E.priv b->w.heap[b]?=E.w.heap[b]?/\∀o,g.M b o=E.g.M b o
 os:w.os=E.w.os
 tape:w.tape=E.w.tape
 output:w.output=E.w.output
 nE:E.g.n<=g.n
 βE:∀o,o<E.g.n->g.β o=E.g.β o
 κE:∀o,o<E.g.n->g.κ o=E.g.κ o
 objs:∀i cs,σ.H[i]?=some (some cs)->E.w.heap.size<=g.β i∨E.priv (g.β i)
 owns:∀x∈σ.own,∀u,g.ι x.1 x.2.2.length=some u->∀b,BZ u=some b->E.w.heap.size<=b∨E.priv b
 drawn:B6 E.w.drawn w.drawn
structure FI(E:Ent)(g:Gh)(σ:St)(env:List D)(a:Act)(w:World):Prop where
 wi:WI E g σ w
 env:Ac g env a.tmps.toList
 defers:a.defers=[]
theorem WI.start{g:Gh}{w:World}{σ:St}(h:WRep g σ w):WI ⟨g,w,σ⟩ g σ w where
 rep:=h
 M:=Mem.le_refl _
 size:=HB _
 keep:=fun _ _ _=>⟨rfl,fun _=>rfl⟩
 os:=rfl
 tape:=rfl
 output:=rfl
 nE:=HB _
 βE:=fun _ _=>rfl
 κE:=fun _ _=>rfl
 objs:=fun i cs h=>.inr (.inl ⟨i,cs,h,rfl⟩)
 owns:=fun x hx u hu _ hb=>.inr (.inr ⟨x,hx,u,hu,hb⟩)
 drawn:=B6.refl _
def Ml:Value->D
 |.int k n=>.v (.int k n)
 |.bool b=>.v (.bool b)
 |.string s=>.v (.str s.data.toList)
 |.slice none 0 0=>.v (.list [])
 |.nilFunc=>.v .nilfn
 |.pointer none=>.v .nilp
 |_=>.undef
theorem LV(g:Gh)(u:Value):Ae g (Ml u) u:=by
 unfold Ml
 split<;>simp[Ae,Dw]
def AaQ(n:Nat):D:=match GLOB.find? (·.1==n) with|some p=>.v (.ref p.2)|none=>.undef
theorem VC{g:Gh}(hG:D5 g.M)(n:Nat):Ae g (AaQ n) (.pointer (some ⟨n,0,none⟩)):=by
 unfold AaQ
 cases h:GLOB.find? (·.1==n) with
 |none=>simp[Ae]
 |some p=>
  obtain⟨us,h1,h2⟩:=hG.known p (List.mem_of_find?_eq_some h)
  have h3:=List.find?_some h
  simp only[Ie] at h3
  simp only[Ae,CA]
  exact⟨n,0,us,rfl,h3▸h1,h2⟩
def evD(env:List D):Operand->D
 |.tmp t=>env.getD t .undef
 |.const u=>Ml u
 |.global n=>AaQ n
 |.func f=>.v (.fn f [] [])
theorem ER{g:Gh}{env:List D}{a:Act}(h:Ac g env a.tmps.toList)(t:Nat):Ae g (evD env (.tmp t)) (a.eval (.tmp t)):=by
 simp only[evD,Act.eval]
 cases hd:env[t]? with
 |none=>rw[HC,hd];simp[Ae]
 |some d=>
  obtain⟨u,hu,hr⟩:=B9 h hd
  rw[HC,hd]
  have:a.tmps.getD t undef=u:=by
   rw[ID]
   have:a.tmps[t]?=some u:=by rw[←IX];exact hu
   simp[this]
  rw[this];exact hr
theorem KY{g:Gh}{env:List D}{a:Act}(hG:D5 g.M)(h:Ac g env a.tmps.toList)(x:Operand):Ae g (evD env x) (a.eval x):=by
 cases x with
 |tmp t=>exact ER h t
 |const u=>exact LV g u
 |global n=>exact VC hG n
 |func f=>simp only[evD,Ae,FZ,Act.eval];exact⟨[],[],rfl,by simp[EQ],by simp[EQ]⟩
def Ek(env:List D)(o:Oper):List D:=o.op.operands.toList.map (evD env)
theorem EG{g:Gh}{env:List D}{a:Act}(hG:D5 g.M)(h:Ac g env a.tmps.toList):∀(l:List Operand),Ac g (l.map (evD env)) (l.map a.eval)
 |[]=>by simp[Ac]
 |x::l=>by simp only[HU,Ac];exact⟨_,_,rfl,KY hG h x,EG hG h l⟩
def Ah(P:Program)(o:Oper)(ds:List D)(σ:St)(d:D)(σ':St):Prop:=
 ∀(E:Ent) (g:Gh) (a:Act) (w:World) (K:Act->World->Prop) (Q:Exit->Act->World->Prop),WI E g σ w->
  Ac g ds (o.op.operands.toList.map a.eval)->
  (∀g' w' u,WI E g' σ' w'->g.le g'->Ae g' d u->K (a.put o.dst u) w')->o.wp P a w K Q
theorem LU(g:Gh):Ae g (.tup []) undef:=by simp only[Ae];exact⟨[],rfl,by simp[Ac]⟩
def AN(env:List D):Option Tmp->D->List D
 |some t,d=>env.set t d
 |none,_=>env
theorem FI.put{E:Ent}{g g':Gh}{σ σ':St}{env:List D}{a:Act}{w w':World}(h:FI E g σ env a w)(hw:WI E g' σ' w')(hg:g.le g'){u:Value}{d:D}(hd:Ae g' d u)(t:Option Tmp):
  FI E g' σ' (AN env t d) (a.put t u) w':=by
 refine⟨hw,?_,?_⟩
 ·cases t with
  |none=>exact Ac.mono hg _ _ h.env
  |some t=>
   simp only[AN,Act.put,Array.toList_setIfInBounds]
   exact CG (Ac.mono hg _ _ h.env) t hd
 ·cases t<;>exact h.defers
def BM(env:List D)(ops:Array Oper)(o:Oper):Option Bool:=
 match o.guard with
 |none=>some true
 |some (j,want)=>match ((ops[j]?).bind (·.dst)).bind (env[·]?) with
  |some (.v (.bool b))=>some (b==want)
  |some (.tup _)=>some false
  |_=>none
theorem Co{g:Gh}{env:List D}{a:Act}(h:Ac g env a.tmps.toList){ops:Array Oper}{o:Oper}{b:Bool}(hw:BM env ops o=some b):
  Region.wanted o (yielded ops a.tmps)=b:=by
 unfold BM at hw
 unfold Region.wanted
 cases hg:o.guard with
 |none=>simp[hg] at hw⊢;exact hw
 |some p=>
  obtain⟨j,want⟩:=p
  simp only[hg] at hw⊢
  cases hj:(ops[j]?).bind (·.dst) with
  |none=>simp[hj] at hw
  |some t=>
   simp only[hj,Option.bind_some] at hw
   cases he:env[t]? with
   |none=>simp[he] at hw
   |some d=>
    simp only[he] at hw
    obtain⟨u,hu,hr⟩:=B9 h he
    have hu':a.tmps[t]?=some u:=by rw[←IX];exact hu
    split at hw
    ·rename_i b' e
     simp only[Ia] at e
     subst e
     simp only[Ae,DJ] at hr
     subst hr
     simp only[yielded,hj,Option.bind_some,hu']
     simp at hw
     rw[←hw]
     cases b'<;>cases want<;>rfl
    ·rename_i ds e
     simp only[Ia] at e
     subst e
     simp only[Ae] at hr
     obtain⟨us,rfl,_⟩:=hr
     simp only[yielded,hj,Option.bind_some,hu']
     simp at hw
     subst hw
     rfl
    ·simp at hw
inductive KI where
 |code (c:Code)
 |blk (id:Nat)
 |lp (c:Code)
def AjD(P:Program)(c:Code)(Q:Exit->Act->World->Prop)(a:Act)(w:World):Prop:=
 ∀(b:Frame) (k:List Item) (cs:List Frame),
  ∃e a' w',Q e a' w'/\Arrives P (lone (b.at a (.code c:: .inLoop c::k)) cs w) b k cs e a' w'
def KQ(P:Program)(B:Exit->Act->World->Prop):List KI->Exit->Act->World->Prop
 |[],e,a,w=>B e a w
 |.code c::k,e,a,w=>match e with
  |.normal=>c.wp P (KQ P B k) a w
  |e=>KQ P B k e a w
 |.lp c::k,e,a,w=>match e with
  |.normal=>AjD P c (KQ P B k) a w
  |e=>KQ P B k e a w
 |.blk id::k,e,a,w=>match e with
  |.exit id'=>if id'=id then KQ P B k .normal a w else KQ P B k (.exit id') a w
  |e=>KQ P B k e a w
def A1(C:Ent->Ent->Prop)(P:Program)(R:List D->St->Prop)(k:List KI)(env:List D)(σ:St):Prop:=
 ∀(E0 E:Ent) (g:Gh) (a:Act) (w:World) (B:Exit->Act->World->Prop),C E0 E->FI E g σ env a w->
  (∀g' env' σ' a' w',FI E0 g' σ' env' a' w'->R env' σ'->B .ret a' w'/\B .normal a' w')->KQ P B k .normal a w
abbrev Ah0(E0 E:Ent):Prop:=E0=E
structure Hn(C:Ent->Ent->Prop):Prop where
 ok:∀{E0 E:Ent},C E0 E->∀{g:Gh} {σ:St} {w:World},WI E g σ w->WI E0 g σ w
theorem Z3:Hn Ah0:=⟨fun h _ _ _ hw=>by rw[h];exact hw⟩
theorem FI.link{C:Ent->Ent->Prop}(L:Hn C){E0 E:Ent}(hC:C E0 E){g:Gh}{σ:St}{env:List D}{a:Act}{w:World}(h:FI E g σ env a w):FI E0 g σ env a w:=⟨L.ok hC h.wi,h.env,h.defers⟩
abbrev Run(P:Program)(R:List D->St->Prop)(k:List KI)(env:List D)(σ:St):Prop:=A1 Ah0 P R k env σ
section
variable {C : Ent -> Ent -> Prop} {P : Program} {R : List D -> St -> Prop} {k : List KI} {env : List D} {σ : St}
theorem Kp(L:Hn C)(h:R env σ):A1 C P R [] env σ:=fun _ _ _ _ _ _ hC hf hB=>(hB _ _ _ _ _ (hf.link L hC) h).2
theorem Sr{B:Exit->Act->World->Prop}{a:Act}{w:World}(h:B .ret a w):∀k:List KI,KQ P B k .ret a w
 |[]=>h
 |.code _::k=>by simp only[KQ];exact Sr h k
 |.lp _::k=>by simp only[KQ];exact Sr h k
 |.blk _::k=>by simp only[KQ];exact Sr h k
theorem GH(L:Hn C)(h:R env σ):A1 C P R (.code .ret::k) env σ:=fun _ _ _ _ _ _ hC hf hB=>by
 simp only[KQ]
 exact wp_ret (Sr (hB _ _ _ _ _ (hf.link L hC) h).1 k)
theorem QS(h:A1 C P R k env σ):A1 C P R (.code .skip::k) env σ:=fun E0 E g a w B hC hf hB=>by
 simp only[KQ]
 exact wp_skip (h E0 E g a w B hC hf hB)
theorem Vw{l:Nat}(h:A1 C P R k env σ):A1 C P R (.code (.label l)::k) env σ:=fun E0 E g a w B hC hf hB=>by
 simp only[KQ]
 exact wp_label (h E0 E g a w B hC hf hB)
theorem Vy{id:Nat}(h:A1 C P R k env σ):A1 C P R (.blk id::k) env σ:=fun E0 E g a w B hC hf hB=>by
 simp only[KQ]
 exact h E0 E g a w B hC hf hB
theorem Vu{x y:Code}(h:A1 C P R (.code x:: .code y::k) env σ):A1 C P R (.code (.seq x y)::k) env σ:=fun E0 E g a w B hC hf hB=>by
 have:=h E0 E g a w B hC hf hB
 simp only[KQ] at this⊢
 exact wp_seq (wp_mono this fun e a w q=>by cases e<;>exact q)
theorem Oj{id:Nat}{c:Code}(h:A1 C P R (.code c:: .blk id::k) env σ):A1 C P R (.code (.block id c)::k) env σ:=fun E0 E g a w B hC hf hB=>by
 have:=h E0 E g a w B hC hf hB
 simp only[KQ] at this⊢
 exact wp_block (wp_mono this fun e a w q=>by cases e<;>simpa only[KQ,Exit.inBlock] using q)
theorem QV{c:Operand}{x y:Code}{b:Bool}(hc:evD env c=.v (.bool b))(ht:b=true->A1 C P R (.code x::k) env σ)(hf:b=false->A1 C P R (.code y::k) env σ):
  A1 C P R (.code (.cond c x y)::k) env σ:=fun E0 E g a w B hC hfi hB=>by
 have hr:=KY hfi.wi.rep.gl hfi.env c
 rw[hc] at hr
 have hr':a.eval c=.bool b:=by simpa only[Ae,DJ] using hr
 simp only[KQ]
 refine wp_cond_split hr' (fun hb=>?_) (fun hb=>?_)
 ·have:=ht hb E0 E g a w B hC hfi hB;simpa only[KQ] using this
 ·have:=hf hb E0 E g a w B hC hfi hB;simpa only[KQ] using this
theorem Acr{c:Code}(h:A1 C P R (.code c:: .lp c::k) env σ):A1 C P R (.lp c::k) env σ:=fun E0 E g a w B hC hfi hB=>by
 have:=h E0 E g a w B hC hfi hB
 simp only[KQ] at this⊢
 intro b kk cs
 obtain⟨e,a₁,w₁,hq,harr⟩:=this b (.inLoop c::kk) cs
 cases e with
 |normal=>
  simp only at hq
  obtain⟨e₂,a₂,w₂,hq₂,harr₂⟩:=hq b kk cs
  exact⟨e₂,a₂,w₂,hq₂,.of_steps (Steps.trans harr (.one step_inLoop)) harr₂⟩
 |exit id=>exact⟨_,a₁,w₁,hq,.pass (x:=.inLoop c) rfl (fun _ _=>.inl (by simp)) harr⟩
 |goto l=>exact⟨_,a₁,w₁,hq,.pass (x:=.inLoop c) rfl (fun _ _=>.inl (by simp)) harr⟩
 |ret=>exact⟨_,a₁,w₁,hq,.pass (x:=.inLoop c) rfl (fun _ _=>.inl (by simp)) harr⟩
 |panic ch=>exact⟨_,a₁,w₁,hq,.pass (x:=.inLoop c) rfl (fun _ _=>.inl (by simp)) harr⟩
 |outgrown=>exact⟨_,a₁,w₁,hq,.pass (x:=.inLoop c) rfl (fun _ _=>.inl (by simp)) harr⟩
theorem run_loop{c:Code}(h:A1 C P R (.lp c::k) env σ):A1 C P R (.code (.loop c)::k) env σ:=fun E0 E g a w B hC hfi hB=>by
 have:=h E0 E g a w B hC hfi hB
 simp only[KQ] at this⊢
 intro b kk cs
 obtain⟨e,a',w',hq,harr⟩:=this b kk cs
 exact⟨e,a',w',hq,.of_steps (.one step_loop) harr⟩
def Gn(id:Nat):List KI->Option (List KI)
 |[]=>none
 |.blk id'::k=>if id'=id then some k else Gn id k
 |_::k=>Gn id k
theorem NN{B:Exit->Act->World->Prop}{a:Act}{w:World}{id:Nat}:∀{k k':List KI},Gn id k=some k'->KQ P B k' .normal a w->KQ P B k (.exit id) a w
 |[],k',h,_=>by simp[Gn] at h
 |.code c::k,k',h,q=>by simp only[Gn] at h;simp only[KQ];exact NN h q
 |.lp c::k,k',h,q=>by simp only[Gn] at h;simp only[KQ];exact NN h q
 |.blk id'::k,k',h,q=>by
  simp only[Gn] at h
  simp only[KQ]
  by_cases e:id'=id
  ·rw[HP e] at h
   simp at h;subst h
   rw[HP e.symm];exact q
  ·rw[HL e] at h
   rw[HL (fun x=>e x.symm)]
   exact NN h q
theorem QU{id:Nat}{k':List KI}(hk:Gn id k=some k')(h:A1 C P R k' env σ):A1 C P R (.code (.exit id)::k) env σ:=fun E0 E g a w B hC hfi hB=>by
 simp only[KQ]
 exact wp_exit (NN hk (h E0 E g a w B hC hfi hB))
theorem FX{env':List D}(hl:env'.length=env.length)(he:∀(i:Nat) (d':D),env'[i]?=some d'->d'=.undef∨env[i]?=some d')(h:A1 C P R k env' σ):A1 C P R k env σ:=fun E0 E g a w B hC hfi hB=>
 h E0 E g a w B hC ⟨hfi.wi,Ge hfi.env hl he,hfi.defers⟩ hB
end
def Su(P:Program)(f:FuncId):Prop:=∃fn,P.funcs[f]?=some fn/\(fn.name=="runtime.NumGoroutine")=false/\fn.body.isNone=false
def Aa(P:Program)(f:FuncId)(ds:List D)(σ:St)(d:D)(σ':St):Prop:=
 Su P f/\∀(g:Gh) (w:World) (args:List Value),WRep g σ w->Ac g ds args->
  Calls P f args.toArray w fun e w'=>∃u g',e=.returned u/\WI ⟨g,w,σ⟩ g' σ' w'/\Ae g' d u
def Aw(P:Program)(fn:Func)(env:List D)(σ:St)(d:D)(σ':St):Prop:=
 ∀E g a w,FI E g σ env a w->E.g.n<=σ'.H.length->∃u g',(results fn a.tmps).run P w=.ok u w/\WI E g' σ' w/\Ae g' d u
theorem PF{P:Program}{f:FuncId}{fn:Func}{c:Code}{ds:List D}{σ σ':St}{d:D}(hf:P.funcs[f]?=some fn)(hb:fn.body=some c)(hn:(fn.name=="runtime.NumGoroutine")=false)
  (hH:σ.H.length<=σ'.H.length) (h:Run P (fun env σ1=>Aw P fn env σ1 d σ') [.code c] (ds++replicate (fn.ntmps-ds.length) .undef) σ):Aa P f ds σ d σ':=by
 refine⟨⟨fn,hf,hn,by simp[hb]⟩,fun g w args hw hargs=>?_⟩
 refine calls_of_wp hf hb ?_
 have hfi:FI ⟨g,w,σ⟩ g σ (ds++replicate (fn.ntmps-ds.length) .undef) { tmps:=args.toArray++Array.replicate (fn.ntmps-args.toArray.size) undef,defers:=[]} w:=by
  refine⟨WI.start hw,?_,rfl⟩
  have hl:=A4 hargs
  simp only[Array.toList_append,Array.toList_replicate,II,hl]
  refine Ap hargs ?_
  generalize fn.ntmps-ds.length=m
  induction m with
  |zero=>simp[Ac]
  |succ m ih=>simp only[Ix,Ac];exact⟨_,_,rfl,by simp[Ae],ih⟩
 have:=h ⟨g,w,σ⟩ ⟨g,w,σ⟩ g _ w (bodyPost P fn fun e w'=>∃u g',e=.returned u/\WI ⟨g,w,σ⟩ g' σ' w'/\Ae g' d u) rfl hfi ?_
 ·simp only[KQ] at this
  exact this
 ·intro g' env' σ1 a' w' hfi' hR
  obtain⟨u,g2,h1,h2,h3⟩:=hR _ _ _ _ hfi' (by rw[hw.n];exact hH)
  have:a'.defers=[]/\∃v,(results fn a'.tmps).run P w'=.ok v w'/\∃u g',Ending.returned v=.returned u/\WI ⟨g,w,σ⟩ g' σ' w'/\Ae g' d u:=
   ⟨hfi'.defers,u,h1,u,g2,rfl,h2,h3⟩
  exact⟨this,this⟩
def Df(P:Program)(t:TypeId):Option (Nat×Bool):=
 match P.info? t,P.underlying t with
 |some i,some d=>some (i.size,match d with|.struct _|.array _ _=>true|_=>false)
 |_,_=>none
def NK(P:Program)(t:TypeId):Prop:=Df P t=some (1,false)
def Q6(P:Program)(t:TypeId)(n:Nat):Prop:=Df P t=some (n,true)
def BP(P:Program)(t:TypeId):Option (TypeId×Nat×Nat×Option Value):=
 match P.underlying t with
 |some (.slice e)=>(P.info? e).map fun i=>(e,i.size,i.bytes,i.zero)
 |_=>none
def OM(P:Program)(s:TypeId)(f:Nat):Option (Nat×Nat×Bool):=
 match P.underlying s with
 |some (.struct fs)=>(fs[f]?).bind fun x=>(Df P x.type).map fun p=>(x.offset,p.1,p.2)
 |_=>none
def AcM(P:Program)(t:TypeId):Option (Nat×Nat×Bool):=
 match P.underlying t with
 |some (.array n e)=>(Df P e).map fun p=>(n,p.1,p.2)
 |_=>none
theorem KM{P:Program}{t:TypeId}{n:Nat}{b:Bool}(h:Df P t=some (n,b)):
  ∃i d,P.info? t=some i/\P.underlying t=some d/\i.size=n/\(match d with|.struct _|.array _ _=>true|_=>false)=b:=by
 unfold Df at h
 split at h
 ·rename_i i d hi hd
  simp at h
  exact⟨i,d,hi,hd,h.1,h.2⟩
 ·simp at h
theorem C1{P:Program}{t:TypeId}{n:Nat}{b:Bool}(h:Df P t=some (n,b))(w:World):(isAgg t).run P w=.ok b w:=by
 obtain⟨i,d,hi,hd,_,hb⟩:=KM h
 unfold isAgg
 rw[Sem.run_bind,run_underlying hd w]
 subst hb
 cases d<;>simp
theorem run_sizeOf'{P:Program}{t:TypeId}{n:Nat}{b:Bool}(h:Df P t=some (n,b))(w:World):(sizeOf t).run P w=.ok n w:=by
 obtain⟨i,d,hi,hd,hn,_⟩:=KM h
 simp[sizeOf,typeInfo,hi,hn]
theorem AA{P:Program}{t e:TypeId}{sz by':Nat}{z:Option Value}(h:BP P t=some (e,sz,by',z)):
  ∃i,P.underlying t=some (.slice e)/\P.info? e=some i/\i.size=sz/\i.bytes=by'/\i.zero=z:=by
 unfold BP at h
 split at h
 ·rename_i e' he
  cases hi:P.info? e' with
  |none=>simp[hi] at h
  |some i=>
   simp[hi] at h
   obtain⟨rfl,h1,h2,h3⟩:=h
   exact⟨i,he,hi,h1,h2,h3⟩
 ·simp at h
theorem Hb{P:Program}{s:TypeId}{f off n:Nat}{b:Bool}(h:OM P s f=some (off,n,b)):
  ∃fs x,P.underlying s=some (.struct fs)/\fs[f]?=some x/\x.offset=off/\Df P x.type=some (n,b):=by
 unfold OM at h
 split at h
 ·rename_i fs hs
  cases hx:fs[f]? with
  |none=>simp[hx] at h
  |some x=>
   simp only[hx,Option.bind_some] at h
   cases hz:Df P x.type with
   |none=>simp[hz] at h
   |some p=>
    simp[hz] at h
    obtain⟨h1,h2⟩:=h
    exact⟨fs,x,hs,hx,h1,by rw[hz];cases p;simp_all⟩
 ·simp at h
theorem JL{P:Program}{t:TypeId}{len n:Nat}{b:Bool}(h:AcM P t=some (len,n,b)):
  ∃e,P.underlying t=some (.array len e)/\Df P e=some (n,b):=by
 unfold AcM at h
 split at h
 ·rename_i l e he
  cases hz:Df P e with
  |none=>simp[hz] at h
  |some p=>
   simp[hz] at h
   obtain⟨rfl,h2⟩:=h
   exact⟨e,he,by rw[hz];cases p;simp_all⟩
 ·simp at h
section
variable {P : Program} {o : Oper} {ds : List D} {σ σ' : St} {d : D}
theorem Az(h:∀E g (ρ:Operand->Value) w,WI E g σ w->Ac g ds (o.op.operands.toList.map ρ)->∃u,(execOp ρ o).run P w=.ok (.value u) w/\Ae g d u):Ah P o ds σ d σ:=by
 intro E g a w K Q hw hds hK
 obtain⟨u,hr,hd⟩:=h E g a.eval w hw hds
 unfold Oper.wp
 rw[hr]
 exact hK g w u hw g.le_refl hd
theorem B3{ds':List D}(hs:∀g us,Ac g ds us->Ac g ds' us)(h:Ah P o ds' σ d σ'):Ah P o ds σ d σ':=
 fun E g a w K Q hw hds hK=>h E g a w K Q hw (hs g _ hds) hK
def D.un:D->D
 |.acc _ xs=>.v (.list xs)
 |d=>d
theorem KW{g:Gh}{d:D}{u:Value}(h:Ae g d u):Ae g d.un u:=by
 cases d<;>simp only[D.un]<;>first|exact h|(simp only[Ae] at h⊢;exact h.1)
theorem GL{g:Gh}:∀{ds:List D} {us:List Value},Ac g ds us->Ac g (ds.map D.un) us
 |[],us,h=>by simpa using h
 |d::ds,us,h=>by
  simp only[Ac,HU] at h⊢
  obtain⟨u,us',e,h1,h2⟩:=h
  exact⟨u,us',e,KW h1,GL h2⟩
theorem PW(h:Ah P o (ds.map D.un) σ d σ'):Ah P o ds σ d σ':=B3 (fun _ _=>GL) h
theorem A2{g:Gh}{d:D}{us:List Value}:Ac g [d] us↔∃u,us=[u]/\Ae g d u:=by
 simp only[Ac]
 constructor
 ·rintro ⟨u,us',rfl,h,rfl⟩;exact⟨u,rfl,h⟩
 ·rintro ⟨u,rfl,h⟩;exact⟨u,[],rfl,h,rfl⟩
theorem Ao{g:Gh}{d e:D}{us:List Value}:Ac g [d,e] us↔∃u v,us=[u,v]/\Ae g d u/\Ae g e v:=by
 simp only[Ac]
 constructor
 ·rintro ⟨u,us',rfl,h,v,us'',rfl,h',rfl⟩;exact⟨u,v,rfl,h,h'⟩
 ·rintro ⟨u,v,rfl,h,h'⟩;exact⟨u,[v],rfl,h,v,[],rfl,h',rfl⟩
theorem Eg{g:Gh}{d e f:D}{us:List Value}:Ac g [d,e,f] us↔∃u v x,us=[u,v,x]/\Ae g d u/\Ae g e v/\Ae g f x:=by
 constructor
 ·intro h
  simp only[Ac] at h
  obtain⟨u,us',rfl,h,v,us'',rfl,h',x,us3,rfl,h'',rfl⟩:=h
  exact⟨u,v,x,rfl,h,h',h''⟩
 ·rintro ⟨u,v,x,rfl,h,h',h''⟩
  simp only[Ac]
  exact⟨u,[v,x],rfl,h,v,[x],rfl,h',x,[],rfl,h'',rfl⟩
theorem MP{x:Operand}(ho:o.op=.move x):Ah P o [d] σ d σ:=by
 refine Az fun E g ρ w hw hds=>?_
 simp only[ho,Op.operands,A2] at hds
 obtain⟨u,e,hd⟩:=hds
 simp at e
 exact⟨u,by simp[execOp,ho,e],hd⟩
theorem Jo{x:Operand}(ho:o.op=.assign x):Ah P o [d] σ d σ:=by
 refine Az fun E g ρ w hw hds=>?_
 simp only[ho,Op.operands,A2] at hds
 obtain⟨u,e,hd⟩:=hds
 simp at e
 exact⟨u,by simp[execOp,ho,e],hd⟩
theorem PT{c x y:Operand}(ho:o.op=.pick c x y){b:Bool}{d1 d2:D}:Ah P o [.v (.bool b),d1,d2] σ (if b then d1 else d2) σ:=by
 refine Az fun E g ρ w hw hds=>?_
 simp only[ho,Op.operands,Eg] at hds
 obtain⟨u,v,z,e,h1,h2,h3⟩:=hds
 simp only[HU,I1,HH,Ih] at e
 obtain⟨e1,e2,e3⟩:=e
 simp only[Ae,DJ] at h1
 refine⟨if b then v else z,?_,?_⟩
 ·simp only[execOp,ho,e1,h1,e2,e3]
  cases b<;>simp[asBool]
 ·cases b<;>simp[h2,h3]
def AiV(op:BinOp)(k:IntKind)(a b:Int):Option V:=
 match op with
 |.add=>some (.int k (k.wrap (a+b)))
 |.sub=>some (.int k (k.wrap (a-b)))
 |.mul=>some (.int k (k.wrap (a*b)))
 |.and=>some (.int k (k.wrap (BitVec.ofInt k.bits a&&&BitVec.ofInt k.bits b).toNat))
 |.or=>some (.int k (k.wrap (BitVec.ofInt k.bits a|||BitVec.ofInt k.bits b).toNat))
 |.xor=>some (.int k (k.wrap (BitVec.ofInt k.bits a^^^BitVec.ofInt k.bits b).toNat))
 |.andNot=>some (.int k (k.wrap (BitVec.ofInt k.bits a&&& ~~~BitVec.ofInt k.bits b).toNat))
 |.eql=>some (.bool (a==b))
 |.neq=>some (.bool (a !=b))
 |.lss=>some (.bool (a<b))
 |.leq=>some (.bool (a<=b))
 |.gtr=>some (.bool (a>b))
 |.geq=>some (.bool (a>=b))
 |_=>none
theorem Hz{op:BinOp}{t ty:TypeId}{x y:Operand}(ho:o.op=.binOp op t x y ty){k:IntKind}{a b:Int}{r:V}(hr:AiV op k a b=some r):
  Ah P o [.v (.int k a),.v (.int k b)] σ (.v r) σ:=by
 refine Az fun E g ρ w hw hds=>?_
 simp only[ho,Op.operands,Ao] at hds
 obtain⟨u,v,e,h1,h2⟩:=hds
 simp only[HU,I1,HH,Ih] at e
 obtain⟨e1,e2⟩:=e
 simp only[Ae,A5] at h1 h2
 subst h1 h2
 cases op<;>simp only[AiV,Ia,reduceCtorEq] at hr<;>subst hr<;>
  simp[execOp,ho,e1,e2,eqGuard,binOp,Op.intArith,Op.intBits,Op.intCmp,Ae]
def Aji(op:BinOp)(k:IntKind)(a b:Int):Option V:=
 match op with
 |.quo=>some (.int k (k.wrap (a.tdiv b)))
 |.rem=>some (.int k (a.tmod b))
 |_=>none
theorem Wi{op:BinOp}{t ty:TypeId}{x y:Operand}(ho:o.op=.binOp op t x y ty){k:IntKind}{a b:Int}{r:V}(hr:Aji op k a b=some r)(hb:b≠0):
  Ah P o [.v (.int k a),.v (.int k b)] σ (.v r) σ:=by
 refine Az fun E g ρ w hw hds=>?_
 simp only[ho,Op.operands,Ao] at hds
 obtain⟨u,v,e,h1,h2⟩:=hds
 simp only[HU,I1,HH,Ih] at e
 obtain⟨e1,e2⟩:=e
 simp only[Ae,A5] at h1 h2
 subst h1 h2
 cases op<;>simp only[Aji,Ia,reduceCtorEq] at hr<;>subst hr<;>
  simp[execOp,ho,e1,e2,eqGuard,binOp,Op.intDiv,hb,Ae]
def shI(op:BinOp)(k:IntKind)(a b:Int):Option V:=
 match op with
 |.shl=>some (.int k (k.wrap (a*2^(min b.toNat k.bits))))
 |.shr=>some (.int k (a.fdiv (2^(min b.toNat k.bits))))
 |_=>none
theorem Acs{op:BinOp}{t ty:TypeId}{x y:Operand}(ho:o.op=.binOp op t x y ty){k k':IntKind}{a b:Int}{r:V}(hr:shI op k a b=some r)(hb:0<=b):
  Ah P o [.v (.int k a),.v (.int k' b)] σ (.v r) σ:=by
 refine Az fun E g ρ w hw hds=>?_
 simp only[ho,Op.operands,Ao] at hds
 obtain⟨u,v,e,h1,h2⟩:=hds
 simp only[HU,I1,HH,Ih] at e
 obtain⟨e1,e2⟩:=e
 simp only[Ae,A5] at h1 h2
 subst h1 h2
 have hb':¬b<0:=by omega
 cases op<;>simp only[shI,Ia,reduceCtorEq] at hr<;>subst hr<;>
  simp[execOp,ho,e1,e2,eqGuard,binOp,Op.shift,hb',Ae]
def AhI(op:BinOp)(a b:List UInt8):Option V:=
 match op with
 |.eql=>some (.bool (a==b))
 |.neq=>some (.bool !(a==b))
 |.lss=>some (.bool (Op.bytesLess a b))
 |.leq=>some (.bool (Op.bytesLess a b||a==b))
 |.gtr=>some (.bool !(Op.bytesLess a b||a==b))
 |.geq=>some (.bool !(Op.bytesLess a b))
 |_=>none
theorem PG(l:List UInt8):ByteArray.size ⟨l.toArray⟩=l.length:=by simp[ByteArray.size]
theorem Ad8{op:BinOp}{t ty:TypeId}{x y:Operand}(ho:o.op=.binOp op t x y ty){a b:List UInt8}{r:V}(hr:AhI op a b=some r):
  Ah P o [.v (.str a),.v (.str b)] σ (.v r) σ:=by
 refine Az fun E g ρ w hw hds=>?_
 simp only[ho,Op.operands,Ao] at hds
 obtain⟨u,v,e,h1,h2⟩:=hds
 simp only[HU,I1,HH,Ih] at e
 obtain⟨e1,e2⟩:=e
 simp only[Ae,C9] at h1 h2
 subst h1 h2
 cases op<;>simp only[AhI,Ia,reduceCtorEq] at hr<;>subst hr<;>
  simp[execOp,ho,e1,e2,eqGuard,binOp,Op.stringOp,Ae]
theorem Wr{t ty:TypeId}{x y:Operand}(ho:o.op=.binOp .add t x y ty){a b:List UInt8}(hl:a.length+b.length<=9223372036854775807):
  Ah P o [.v (.str a),.v (.str b)] σ (.v (.str (a++b))) σ:=by
 refine Az fun E g ρ w hw hds=>?_
 simp only[ho,Op.operands,Ao] at hds
 obtain⟨u,v,e,h1,h2⟩:=hds
 simp only[HU,I1,HH,Ih] at e
 obtain⟨e1,e2⟩:=e
 simp only[Ae,C9] at h1 h2
 subst h1 h2
 have hs:∀l:List UInt8,ByteArray.size ⟨l.toArray⟩=l.length:=fun l=>by simp[ByteArray.size]
 have hn:¬(((a.length+b.length:Nat):Int)>i64.max):=by
  have:i64.max=9223372036854775807:=by decide
  rw[this];omega
 refine⟨.string ⟨(a++b).toArray⟩,?_,by simp[Ae]⟩
 have hap:(⟨a.toArray⟩:ByteArray)++⟨b.toArray⟩=⟨(a++b).toArray⟩:=by
  apply ByteArray.ext
  simp[ByteArray.data_append]
 simp only[execOp,ho,e1,e2,binOp,Op.stringOp,hs,hn,if_false,hap]
 simp[eqGuard]
theorem Wo{op:BinOp}{t ty:TypeId}{x y:Operand}(ho:o.op=.binOp op t x y ty)(hu:P.underlying t=some .bool){a b:Bool}(hop:op=.eql∨op=.neq):
  Ah P o [.v (.bool a),.v (.bool b)] σ (.v (.bool (if op=.eql then a==b else a !=b))) σ:=by
 refine Az fun E g ρ w hw hds=>?_
 simp only[ho,Op.operands,Ao] at hds
 obtain⟨u,v,e,h1,h2⟩:=hds
 simp only[HU,I1,HH,Ih] at e
 obtain⟨e1,e2⟩:=e
 simp only[Ae,DJ] at h1 h2
 subst h1 h2
 have heq:(Op.equal t (.bool a) (.bool b)).run P w=.ok (a==b) w:=by
  have gen:∀d,(Op.equalIn (d+1) t (.bool a) (.bool b)).run P w=.ok (a==b) w:=fun d=>by
   simp only[Op.equalIn,Sem.run_bind,run_underlying hu,Result.andThen_ok]
   rfl
  exact gen 9999
 refine⟨.bool (if op=.eql then a==b else a !=b),?_,by simp[Ae]⟩
 rcases hop with rfl|rfl<;>
  simp[execOp,ho,e1,e2,eqGuard,binOp,heq,bne]
def unI(op:UnOp)(x:V):Option V:=
 match op,x with
 |.not,.bool b=>some (.bool !b)
 |.neg,.int k n=>some (.int k (k.wrap (0-n)))
 |_,_=>none
theorem Aid{op:UnOp}{t:TypeId}{x:Operand}(ho:o.op=.unOp op t x){a r:V}(hr:unI op a=some r):Ah P o [.v a] σ (.v r) σ:=by
 refine Az fun E g ρ w hw hds=>?_
 simp only[ho,Op.operands,A2] at hds
 obtain⟨u,e,h1⟩:=hds
 simp at e
 unfold unI at hr
 split at hr
 ·simp at hr;subst hr
  simp only[Ae,DJ] at h1
  exact⟨_,by simp[execOp,ho,e,h1,Op.unary];rfl,by simp[Ae]⟩
 ·simp only[Ia] at hr;subst hr
  simp only[Ae,A5] at h1
  exact⟨_,by simp only[execOp,ho,e,h1,Op.unary,Op.intArith];rfl,by simp[Ae]⟩
 ·simp at hr
theorem Kz{src dst:TypeId}{x:Operand}(ho:o.op=.convert src dst x){k k':IntKind}{n:Int}{ds':TypeDesc}(hs:P.underlying src=some ds')(hd:P.underlying dst=some (.int k')):
  Ah P o [.v (.int k n)] σ (.v (.int k' (k'.wrap n))) σ:=by
 refine Az fun E g ρ w hw hds=>?_
 simp only[ho,Op.operands,A2] at hds
 obtain⟨u,e,h1⟩:=hds
 simp at e
 simp only[Ae,A5] at h1
 refine⟨.int k' (k'.wrap n),?_,by simp[Ae]⟩
 simp only[execOp,ho,e,h1,convert,Sem.run_bind,run_underlying hs,run_underlying hd,Result.andThen_ok,Conv.intToInt]
 rfl
theorem J4{x:Operand}{i:Nat}(ho:o.op=.extract x i){ds:List D}(hd:ds[i]?=some d):Ah P o [.tup ds] σ d σ:=by
 refine Az fun E g ρ w hw hds=>?_
 simp only[ho,Op.operands,A2] at hds
 obtain⟨u,e,h1⟩:=hds
 simp at e
 simp only[Ae] at h1
 obtain⟨us,rfl,h2⟩:=h1
 obtain⟨u,hu,h3⟩:=B9 h2 hd
 exact⟨u,by simp[execOp,ho,e,Instr.extract,hu],h3⟩
theorem Lh{x:Operand}(ho:o.op=.nilCheck x){q off:Nat}:Ah P o [.ptr q off] σ (.ptr q off) σ:=by
 refine Az fun E g ρ w hw hds=>?_
 simp only[ho,Op.operands,A2] at hds
 obtain⟨u,e,h1⟩:=hds
 simp at e
 refine⟨u,?_,h1⟩
 simp only[Ae] at h1
 simp[execOp,ho,e,h1.2]
theorem Lg{x:Operand}(ho:o.op=.nilCheck x){y:V}:Ah P o [.v (.ref y)] σ (.v (.ref y)) σ:=by
 refine Az fun E g ρ w hw hds=>?_
 simp only[ho,Op.operands,A2] at hds
 obtain⟨u,e,h1⟩:=hds
 simp at e
 refine⟨u,?_,h1⟩
 simp only[Ae,CA] at h1
 obtain⟨b,off,us,rfl,_⟩:=h1
 simp[execOp,ho,e]
theorem Hy{x:Operand}{t:TypeId}(ho:o.op=.call { callee:=.builtin .len,args:= #[x],argTypes:= #[t]}){e:TypeId}(ht:P.underlying t=some (.slice e)){xs:List V}:
  Ah P o [.v (.list xs)] σ (.v (.int .i64 xs.length)) σ:=by
 refine Az fun E g ρ w hw hds=>?_
 simp only[ho,Op.operands,Call.operands,A2] at hds
 obtain⟨u,e,h1⟩:=hds
 simp at e
 simp only[Ae,AU] at h1
 obtain⟨a,cap,rfl,_⟩:=h1
 exact⟨_,by simp[execOp,ho,e,resolve,invoke,builtin,Builtin.len_,run_underlying ht,goInt];rfl,by simp[Ae]⟩
theorem MQ{x:Operand}{t:TypeId}(ho:o.op=.call { callee:=.builtin .len,args:= #[x],argTypes:= #[t]}){e:TypeId}(ht:P.underlying t=some (.slice e)){q off len:Nat}:
  Ah P o [.arr q off len] σ (.v (.int .i64 len)) σ:=by
 refine Az fun E g ρ w hw hds=>?_
 simp only[ho,Op.operands,Call.operands,A2] at hds
 obtain⟨u,e,h1⟩:=hds
 simp at e
 simp only[Ae] at h1
 obtain⟨_,cap,_,rfl⟩:=h1
 exact⟨_,by simp[execOp,ho,e,resolve,invoke,builtin,Builtin.len_,run_underlying ht,goInt];rfl,by simp[Ae]⟩
theorem Ad2{x:Operand}{t:TypeId}(ho:o.op=.call { callee:=.builtin .len,args:= #[x],argTypes:= #[t]})(ht:P.underlying t=some .string){s:List UInt8}:
  Ah P o [.v (.str s)] σ (.v (.int .i64 s.length)) σ:=by
 refine Az fun E g ρ w hw hds=>?_
 simp only[ho,Op.operands,Call.operands,A2] at hds
 obtain⟨u,e,h1⟩:=hds
 simp at e
 simp only[Ae,C9] at h1
 subst h1
 exact⟨_,by simp[execOp,ho,e,resolve,invoke,builtin,Builtin.len_,run_underlying ht,goInt,PG];rfl,by simp[Ae]⟩
theorem AfO{x y:Operand}{ts:Array TypeId}(ho:o.op=.call { callee:=.builtin .max,args:= #[x,y],argTypes:=ts }){k:IntKind}{a b:Int}:
  Ah P o [.v (.int k a),.v (.int k b)] σ (.v (.int k (if b>a then b else a))) σ:=by
 refine Az fun E g ρ w hw hds=>?_
 simp only[ho,Op.operands,Call.operands] at hds
 have hds':=Ao.1 (by simpa using hds)
 obtain⟨u,v,e,h1,h2⟩:=hds'
 simp only[HH,Ih] at e
 simp only[Ae,A5] at h1 h2
 exact⟨_,by simp[execOp,ho,e.1,e.2,h1,h2,resolve,invoke,builtin,Builtin.max_,Builtin.max2];rfl,by simp[Ae]⟩
theorem AfN{x y:Operand}{ts:Array TypeId}(ho:o.op=.call { callee:=.builtin .min,args:= #[x,y],argTypes:=ts }){k:IntKind}{a b:Int}:
  Ah P o [.v (.int k a),.v (.int k b)] σ (.v (.int k (if b<a then b else a))) σ:=by
 refine Az fun E g ρ w hw hds=>?_
 simp only[ho,Op.operands,Call.operands] at hds
 have hds':=Ao.1 (by simpa using hds)
 obtain⟨u,v,e,h1,h2⟩:=hds'
 simp only[HH,Ih] at e
 simp only[Ae,A5] at h1 h2
 exact⟨_,by simp[execOp,ho,e.1,e.2,h1,h2,resolve,invoke,builtin,Builtin.min_,Builtin.min2];rfl,by simp[Ae]⟩
end
section
variable {M : Mem}
theorem Ra:∀{cs:List V} {us:List Value},repA M cs us->∀{i:Nat} {c:V},cs[i]?=some c->∃u,us[i]?=some u/\c.isAgg=false/\repC M c [u]
 |[],us,h,i,c,hc=>by simp at hc
 |c0::cs,us,h,i,c,hc=>by
  simp only[repA] at h
  obtain⟨u,us',rfl,ha,h1,h2⟩:=h
  cases i with
  |zero=>simp at hc;subst hc;exact⟨u,by simp,ha,h1⟩
  |succ i=>simp at hc;obtain⟨u',e,h3⟩:=Ra h2 hc;exact⟨u',by simpa using e,h3⟩
theorem Hw:∀{cs:List V} {us:List Value},repA M cs us->∀(n:Nat),repA M (cs.drop n) (us.drop n)
 |[],us,h,n=>by simp only[repA] at h;simp[h,repA]
 |c0::cs,us,h,n=>by
  cases n with
  |zero=>simpa using h
  |succ n=>
   simp only[repA] at h
   obtain⟨u,us',rfl,ha,h1,h2⟩:=h
   simpa using Hw h2 n
theorem Hv:∀{cs:List V} {us:List Value},repA M cs us->∀(n:Nat),repA M (cs.take n) (us.take n)
 |[],us,h,n=>by simp only[repA] at h;simp[h,repA]
 |c0::cs,us,h,n=>by
  cases n with
  |zero=>simp[repA]
  |succ n=>
   simp only[repA] at h
   obtain⟨u,us',rfl,ha,h1,h2⟩:=h
   simp only[take_succ_cons,repA]
   exact⟨u,_,rfl,ha,h1,Hv h2 n⟩
theorem BE{sz:Nat}:∀{xs:List V} {us:List Value},repE M sz xs us->us.length=xs.length*sz
 |[],us,h=>by simp only[repE] at h;simp[h]
 |x::xs,us,h=>by
  simp only[repE] at h
  obtain⟨u1,u2,rfl,hl,h1,h2⟩:=h
  simp[BE h2,hl,IE,Nat.add_comm]
theorem MH{sz:Nat}:∀{xs:List V} {us:List Value},repE M sz xs us->∀{i:Nat} {x:V},xs[i]?=some x->
  ∃u1,repC M x u1/\u1.length=sz/\∀j v,u1[j]?=some v->us[i*sz+j]?=some v
 |[],us,h,i,c,hc=>by simp at hc
 |x0::xs,us,h,i,x,hc=>by
  simp only[repE] at h
  obtain⟨u1,u2,rfl,hl,h1,h2⟩:=h
  cases i with
  |zero=>
   simp at hc;subst hc
   refine⟨u1,h1,hl,fun j v hj=>?_⟩
   have:j<u1.length:=(H7.1 hj).1
   rw[Nat.zero_mul,Io,HQ this];exact hj
  |succ i=>
   simp at hc
   obtain⟨u',hr,hl',hg⟩:=MH h2 hc
   refine⟨u',hr,hl',fun j v hj=>?_⟩
   have e:(i+1)*sz+j=u1.length+(i*sz+j):=by rw[hl,IE];omega
   rw[e,HN (by omega)]
   have:u1.length+(i*sz+j)-u1.length=i*sz+j:=by omega
   rw[this];exact hg j v hj
theorem Ol{sz:Nat}:∀{xs:List V} {us:List Value},repE M sz xs us->∀(n:Nat),repE M sz (xs.drop n) (us.drop (n*sz))
 |[],us,h,n=>by simp only[repE] at h;simp[h,repE]
 |x::xs,us,h,n=>by
  cases n with
  |zero=>simpa using h
  |succ n=>
   simp only[repE] at h
   obtain⟨u1,u2,rfl,hl,h1,h2⟩:=h
   have:=Ol h2 n
   have e:(n+1)*sz=u1.length+n*sz:=by rw[hl,IE];omega
   have e2:(u1++u2).drop (u1.length+n*sz)=u2.drop (n*sz):=by
    rw[List.drop_append,HO (Nat.le_add_right u1.length (n*sz)),List.nil_append,Nat.add_sub_cancel_left]
   rw[e,e2]
   exact this
theorem Ok{sz:Nat}:∀{xs:List V} {us:List Value},repE M sz xs us->∀(n:Nat),repE M sz (xs.take n) (us.take (n*sz))
 |[],us,h,n=>by simp only[repE] at h;simp[h,repE]
 |x::xs,us,h,n=>by
  cases n with
  |zero=>simp[repE]
  |succ n=>
   simp only[repE] at h
   obtain⟨u1,u2,rfl,hl,h1,h2⟩:=h
   simp only[take_succ_cons,repE]
   have e:(n+1)*sz=u1.length+n*sz:=by rw[hl,IE];omega
   refine⟨u1,u2.take (n*sz),?_,hl,h1,Ok h2 n⟩
   rw[e,List.take_append,HW (Nat.le_add_right _ _),Nat.add_sub_cancel_left]
theorem K3{b off:Nat}{us:List Value}(h:inM M b off us)(n:Nat):inM M b (off+n) (us.drop n):=fun j v hj=>by
 rw[getElem?_drop] at hj
 rw[Nat.add_assoc];exact h _ v hj
theorem K2{b off:Nat}{us:List Value}(h:inM M b off us)(n:Nat):inM M b off (us.take n):=fun j v hj=>by
 rw[IQ] at hj
 split at hj
 ·exact h j v hj
 ·simp at hj
end
def Gz(cs:List V)(fo n:Nat)(b:Bool):Option V:=if b then(if fo+n<=cs.length then some (.agg ((cs.drop fo).take n)) else none) else cs[fo]?
theorem Lc{M:Mem}{cs:List V}{us:List Value}{fo n:Nat}{b:Bool}{x:V}(h:Gz cs fo n b=some x)(hr:repA M cs us)(hn:b=false->n=1):
  repC M x ((us.drop fo).take n)/\x.isAgg=b/\((us.drop fo).take n).length=n:=by
 have hl:=Dh hr
 unfold Gz at h
 cases b with
 |true=>
  simp only[IC] at h
  split at h
  ·simp at h;subst h
   refine⟨?_,rfl,by simp;omega⟩
   simp only[repC]
   exact Hv (Hw hr fo) n
  ·simp at h
 |false=>
  simp only[Jj,if_false] at h
  obtain⟨u,hu,ha,hc⟩:=Ra hr h
  obtain rfl:=hn rfl
  have:(us.drop fo).take 1=[u]:=by
   have hlt:fo<us.length:=(H7.1 hu).1
   rw[HJ hlt,take_succ_cons,List.take_zero]
   rw[(H7.1 hu).2]
  rw[this]
  exact⟨hc,ha,rfl⟩
def D.toV:D->Option V
 |.v x=>some x
 |.acc _ xs=>some (.list xs)
 |_=>none
def Es:List D->Option (List V)
 |[]=>some []
 |d::ds=>match d.toV,Es ds with
  |some x,some xs=>some (x::xs)
  |_,_=>none
theorem Hs{g:Gh}{d:D}{x:V}{u:Value}(h:d.toV=some x)(hr:Ae g d u):repV g.M x u:=by
 cases d<;>simp[D.toV] at h<;>subst h
 ·simpa[Ae] using hr
 ·simp only[Ae] at hr;exact hr.1
theorem JZ{g:Gh}:∀{ds:List D} {xs:List V} {us:List Value},Es ds=some xs->Ac g ds us->(∀c∈ds,c.one=true)->repA g.M xs us
 |[],xs,us,h,hr,_=>by simp[Es] at h;subst h;simpa[Ac,repA] using hr
 |d::ds,xs,us,h,hr,h1=>by
  simp only[Es] at h
  split at h
  ·rename_i x xs' hx hxs
   simp at h;subst h
   simp only[Ac] at hr
   obtain⟨u,us',rfl,h2,h3⟩:=hr
   simp only[repA]
   have hxa:x.isAgg=false:=by
    have:=h1 d (by simp)
    cases d<;>simp[D.toV] at hx<;>subst hx<;>simp_all [D.one,V.isAgg]
   exact⟨u,us',rfl,hxa,(B1 hxa).1 (Hs hx h2),JZ hxs h3 (fun c hc=>h1 c (by simp[hc]))⟩
  ·simp at h
section
variable {P : Program} {o : Oper} {σ : St} {d : D}
theorem Dj{E:Ent}{g:Gh}{w:World}(hw:WI E g σ w){b off:Nat}{us:List Value}(h:inM g.M b off us):∀j v,us[j]?=some v->w.cell? ((⟨b,off,none⟩:Addr).add j)=some v:=fun j v hj=>by
 rw[Addr.add_lit];exact hw.rep.mem _ _ _ (h j v hj)
theorem EI{t:TypeId}{a:Operand}(ho:o.op=.load t a)(ht:NK P t){x:V}(hx:x.isAgg=false):Ah P o [.v (.ref x)] σ (.v x) σ:=by
 refine Az fun E g ρ w hw hds=>?_
 simp only[ho,Op.operands,A2] at hds
 obtain⟨u,e,h1⟩:=hds
 simp at e
 simp only[Ae,CA] at h1
 obtain⟨b,off,us,rfl,hi,hr⟩:=h1
 obtain⟨u',rfl,hm,_⟩:=Ct hx hr
 have hc:w.cell? ⟨b,off,none⟩=some u':=by have:=hw.rep.mem _ _ _ (hi 0 u' (by simp));simpa using this
 refine⟨u',?_,by simp only[Ae];exact(B1 hx).2 hr⟩
 simp[execOp,ho,e,Instr.loadAt,Instr.sureAddr,loadVar,C1 ht,hc]
theorem O5{t:TypeId}{a:Operand}(ho:o.op=.load t a){cs:List V}(ht:Q6 P t cs.length):Ah P o [.v (.ref (.agg cs))] σ (.v (.agg cs)) σ:=by
 refine Az fun E g ρ w hw hds=>?_
 simp only[ho,Op.operands,A2] at hds
 obtain⟨u,e,h1⟩:=hds
 simp at e
 simp only[Ae,CA] at h1
 obtain⟨b,off,us,rfl,hi,hr⟩:=h1
 simp only[repC] at hr
 have hl:=Dh hr
 have hld:=run_loadCells_list (P:=P) w ⟨b,off,none⟩ us (Dj hw hi)
 rw[hl] at hld
 refine⟨.agg us.toArray,?_,by simp only[Ae,Cr];exact⟨us,hr,rfl⟩⟩
 simp[execOp,ho,e,Instr.loadAt,Instr.sureAddr,loadVar,C1 ht,run_sizeOf' ht,hld]
theorem Wl{t:TypeId}{a:Operand}(ho:o.op=.load t a)(ht:NK P t){q off:Nat}{cs:List D}(hH:σ.H[q]?=some (some cs))(hc:cs[off]?=some d):Ah P o [.ptr q off] σ d σ:=by
 refine Az fun E g ρ w hw hds=>?_
 simp only[ho,Op.operands,A2] at hds
 obtain⟨u,e,h1⟩:=hds
 simp at e
 simp only[Ae] at h1
 obtain⟨_,rfl⟩:=h1
 obtain⟨us,rest,et,hb,hr,_,_⟩:=hw.rep.obj q cs hH
 obtain⟨u',hu,hd⟩:=B9 hr hc
 have hcell:w.cell? ⟨g.β q,off,none⟩=some u':=by simp only[World.cell?,hb,I7];exact Ea hu
 refine⟨u',?_,hd⟩
 simp[execOp,ho,e,Instr.loadAt,Instr.sureAddr,loadVar,C1 ht,hcell]
theorem BY{g:Gh}:∀{cs:List D} {us:List Value},Ac g cs us->∀(n:Nat),Ac g (cs.drop n) (us.drop n)
 |[],us,h,n=>by simp only[Ac] at h;simp[h,Ac]
 |c0::cs,us,h,n=>by
  cases n with
  |zero=>simpa using h
  |succ n=>
   simp only[Ac] at h
   obtain⟨u,us',rfl,h1,h2⟩:=h
   simpa using BY h2 n
theorem B8{g:Gh}:∀{cs:List D} {us:List Value},Ac g cs us->∀(n:Nat),Ac g (cs.take n) (us.take n)
 |[],us,h,n=>by simp only[Ac] at h;simp[h,Ac]
 |c0::cs,us,h,n=>by
  cases n with
  |zero=>simp[Ac]
  |succ n=>
   simp only[Ac] at h
   obtain⟨u,us',rfl,h1,h2⟩:=h
   simp only[take_succ_cons,Ac]
   exact⟨u,_,rfl,h1,B8 h2 n⟩
theorem O6{t:TypeId}{a:Operand}(ho:o.op=.load t a){n:Nat}(ht:Q6 P t n){q off:Nat}{cs:List D}(hH:σ.H[q]?=some (some cs)){xs:List V}
  (hn:off+n<=cs.length) (hc:Es ((cs.drop off).take n)=some xs):Ah P o [.ptr q off] σ (.v (.agg xs)) σ:=by
 refine Az fun E g ρ w hw hds=>?_
 simp only[ho,Op.operands,A2] at hds
 obtain⟨u,e,h1⟩:=hds
 simp at e
 simp only[Ae] at h1
 obtain⟨_,rfl⟩:=h1
 obtain⟨us,rest,et,hb,hr,h1,_⟩:=hw.rep.obj q cs hH
 have hra:=JZ hc (B8 (BY hr off) n) (fun c hc'=>h1 c (Iu (IK hc')))
 have hl:us.length=cs.length:=A4 hr
 have hld:=run_loadCells_list (P:=P) w ⟨g.β q,off,none⟩ ((us.drop off).take n) (fun j v hj=>by
  rw[IQ] at hj
  split at hj
  ·rw[getElem?_drop] at hj
   rw[Addr.add_lit]
   simp only[World.cell?,hb,I7];exact Ea hj
  ·simp at hj)
 have hlen:((us.drop off).take n).length=n:=by simp;omega
 rw[hlen] at hld
 refine⟨.agg ((us.drop off).take n).toArray,?_,by simp only[Ae,Cr];exact⟨_,hra,rfl⟩⟩
 simp only[execOp,ho,e,Instr.loadAt,Instr.sureAddr,loadVar,Sem.run_bind,Sem.run_pure,Result.andThen_ok,C1 ht,run_sizeOf' ht,hld,IC]
theorem Wn{s:TypeId}{x:Operand}{f:Nat}(ho:o.op=.fieldAddr s x f){fo n:Nat}{b:Bool}(hf:OM P s f=some (fo,n,b))(hn:n≠0){q off:Nat}:Ah P o [.ptr q off] σ (.ptr q (off+fo)) σ:=by
 refine Az fun E g ρ w hw hds=>?_
 simp only[ho,Op.operands,A2] at hds
 obtain⟨u,e,h1⟩:=hds
 simp at e
 simp only[Ae] at h1
 obtain⟨hq,rfl⟩:=h1
 obtain⟨fs,y,hs,hy,hoff,hz⟩:=Hb hf
 refine⟨.pointer (some ⟨g.β q,off+fo,none⟩),?_,by simp[Ae,hq]⟩
 simp[execOp,ho,e,Instr.fieldAt,run_underlying hs,hy,Instr.sureAddr,fieldPlace,run_sizeOf' hz,hn,Addr.add_lit,hoff]
theorem EJ{s:TypeId}{x:Operand}{f:Nat}(ho:o.op=.fieldAddr s x f){fo n:Nat}{b:Bool}(hf:OM P s f=some (fo,n,b))(hn:n≠0)(hn1:b=false->n=1){cs:List V}{y:V}(hp:Gz cs fo n b=some y):
  Ah P o [.v (.ref (.agg cs))] σ (.v (.ref y)) σ:=by
 refine Az fun E g ρ w hw hds=>?_
 simp only[ho,Op.operands,A2] at hds
 obtain⟨u,e,h1⟩:=hds
 simp at e
 simp only[Ae,CA] at h1
 obtain⟨bb,off,us,rfl,hi,hr⟩:=h1
 obtain⟨fs,z,hs,hy,hoff,hz⟩:=Hb hf
 simp only[repC] at hr
 obtain⟨h3,_,_⟩:=Lc hp hr hn1
 refine⟨.pointer (some ⟨bb,off+fo,none⟩),?_,by simp only[Ae,CA];exact⟨bb,off+fo,_,rfl,K2 (K3 hi fo) n,h3⟩⟩
 simp[execOp,ho,e,Instr.fieldAt,run_underlying hs,hy,Instr.sureAddr,fieldPlace,run_sizeOf' hz,hn,Addr.add_lit,hoff]
theorem QT{M:Mem}{t:TypeId}{n:Nat}{b:Bool}(hz:Df P t=some (n,b)){cs:List V}{us:List Value}{fo:Nat}{y:V}(hp:Gz cs fo n b=some y)(hr:repA M cs us)(hn1:b=false->n=1)(w:World):
  ∃u,(part t us.toArray fo).run P w=.ok u w/\repV M y u:=by
 obtain⟨h3,ha,hl⟩:=Lc hp hr hn1
 cases b with
 |true=>
  refine⟨.agg ((us.drop fo).take n).toArray,?_,?_⟩
  ·simp only[part,Sem.run_bind,C1 hz,run_sizeOf' hz,Result.andThen_ok,IC,Sem.run_pure]
   congr 2
   apply I6
   simp[List.extract_eq_take_drop]
  ·cases y with
   |agg cs'=>simp only[Cr];exact⟨_,by simpa only[repC] using h3,rfl⟩
   |_=>simp[V.isAgg] at ha
 |false=>
  obtain⟨u,e1,_,_⟩:=Ct ha h3
  obtain rfl:=hn1 rfl
  have hu:us[fo]?=some u:=by
   have:((us.drop fo).take 1)[0]?=some u:=by rw[e1];rfl
   simpa using this
  refine⟨u,?_,(B1 ha).2 (by rw[←e1];exact h3)⟩
  simp[part,C1 hz,hu]
theorem Aaf{s:TypeId}{x:Operand}{f:Nat}(ho:o.op=.field s x f){fo n:Nat}{b:Bool}(hf:OM P s f=some (fo,n,b))(hn1:b=false->n=1){cs:List V}{y:V}(hp:Gz cs fo n b=some y):
  Ah P o [.v (.agg cs)] σ (.v y) σ:=by
 refine Az fun E g ρ w hw hds=>?_
 simp only[ho,Op.operands,A2] at hds
 obtain⟨u,e,h1⟩:=hds
 simp at e
 simp only[Ae,Cr] at h1
 obtain⟨us,hr,rfl⟩:=h1
 obtain⟨fs,z,hs,hy,hoff,hz⟩:=Hb hf
 obtain⟨v,hrun,hv⟩:=QT hz hp hr hn1 w
 refine⟨v,?_,by simpa only[Ae] using hv⟩
 simp only[execOp,ho,e,Instr.field,Sem.run_bind,run_underlying hs,Result.andThen_ok,hy,asAgg,Sem.run_pure,hoff,hrun]
theorem Ad4{t:TypeId}{x ix:Operand}(ho:o.op=.indexAddr t x ix){e:TypeId}{sz by':Nat}{z:Option Value}(hs:BP P t=some (e,sz,by',z)){xs:List V}{y:V}{k:IntKind}{i:Int}(h0:0<=i)
  (hx:xs[i.toNat]?=some y) (hy:y.size=sz):Ah P o [.v (.list xs),.v (.int k i)] σ (.v (.ref y)) σ:=by
 refine Az fun E g ρ w hw hds=>?_
 simp only[ho,Op.operands,Ao] at hds
 obtain⟨u,v,eq,h1,h2⟩:=hds
 simp only[HU,I1,HH,Ih] at eq
 obtain⟨e1,e2⟩:=eq
 simp only[Ae,A5,AU] at h1 h2
 subst h2
 obtain⟨a,cap,rfl,hc,h1⟩:=h1
 have hlt:i.toNat<xs.length:=(H7.1 hx).1
 rcases h1 with rfl|⟨b,off,sz',us,rfl,hsz,hi,hr⟩
 ·simp at hlt
 obtain⟨inf,hu,hinf,hsize,_,_⟩:=AA hs
 obtain⟨u1,hc1,hl1,hg⟩:=MH hr hx
 have hss:sz'=sz:=by rw[←hl1,Fi hc1,hy]
 subst hss
 refine⟨.pointer (some ⟨b,off+i.toNat*sz',none⟩),?_,?_⟩
 ·have hlt':i<(xs.length:Int):=by omega
  simp[execOp,ho,e1,e2,Instr.indexAt,asIntOf,run_underlying hu,h0,hlt',sizeOf,typeInfo,hinf,hsize,Addr.add_lit]
 ·simp only[Ae,CA]
  refine⟨b,_,u1,rfl,fun j v hj=>?_,hc1⟩
  have:=hi _ v (hg j v hj)
  rw[Nat.add_assoc];exact this
theorem Ad6{t:TypeId}{x ix:Operand}(ho:o.op=.indexAddr t x ix){e:TypeId}{sz by':Nat}{z:Option Value}(hs:BP P t=some (e,sz,by',z)){q off len:Nat}{k:IntKind}{i:Int}(h0:0<=i)(h1:i<len):
  Ah P o [.arr q off len,.v (.int k i)] σ (.ptr q (off+i.toNat*sz)) σ:=by
 refine Az fun E g ρ w hw hds=>?_
 simp only[ho,Op.operands,Ao] at hds
 obtain⟨u,v,eq,h1',h2⟩:=hds
 simp only[HU,I1,HH,Ih] at eq
 obtain⟨e1,e2⟩:=eq
 simp only[Ae,A5] at h1' h2
 subst h2
 obtain⟨hq,cap,hc,rfl⟩:=h1'
 obtain⟨inf,hu,hinf,hsize,_,_⟩:=AA hs
 refine⟨.pointer (some ⟨g.β q,off+i.toNat*sz,none⟩),?_,by simp[Ae,hq]⟩
 simp[execOp,ho,e1,e2,Instr.indexAt,asIntOf,run_underlying hu,h0,h1,sizeOf,typeInfo,hinf,hsize,Addr.add_lit]
theorem Aae{t:TypeId}{x ix:Operand}(ho:o.op=.indexAddr t x ix){len sz:Nat}{b:Bool}(hs:AcM P t=some (len,sz,b)){q off:Nat}{k:IntKind}{i:Int}(h0:0<=i)(h1:i<len):
  Ah P o [.ptr q off,.v (.int k i)] σ (.ptr q (off+i.toNat*sz)) σ:=by
 refine Az fun E g ρ w hw hds=>?_
 simp only[ho,Op.operands,Ao] at hds
 obtain⟨u,v,eq,h1',h2⟩:=hds
 simp only[HU,I1,HH,Ih] at eq
 obtain⟨e1,e2⟩:=eq
 simp only[Ae,A5] at h1' h2
 subst h2
 obtain⟨hq,rfl⟩:=h1'
 obtain⟨e,hu,hz⟩:=JL hs
 refine⟨.pointer (some ⟨g.β q,off+i.toNat*sz,none⟩),?_,by simp[Ae,hq]⟩
 simp[execOp,ho,e1,e2,Instr.indexAt,asIntOf,run_underlying hu,h0,h1,run_sizeOf' hz,Addr.add_lit,Instr.sureAddr]
theorem Aad{t:TypeId}{x ix:Operand}(ho:o.op=.indexAddr t x ix){len sz:Nat}{b:Bool}(hs:AcM P t=some (len,sz,b))(hn1:b=false->sz=1){cs:List V}{y:V}{k:IntKind}{i:Int}(h0:0<=i)(h1:i<len)
  (hp:Gz cs (i.toNat*sz) sz b=some y):Ah P o [.v (.ref (.agg cs)),.v (.int k i)] σ (.v (.ref y)) σ:=by
 refine Az fun E g ρ w hw hds=>?_
 simp only[ho,Op.operands,Ao] at hds
 obtain⟨u,v,eq,h1',h2⟩:=hds
 simp only[HU,I1,HH,Ih] at eq
 obtain⟨e1,e2⟩:=eq
 simp only[Ae,A5,CA] at h1' h2
 subst h2
 obtain⟨bb,off,us,rfl,hi,hr⟩:=h1'
 obtain⟨e,hu,hz⟩:=JL hs
 simp only[repC] at hr
 obtain⟨h3,_,_⟩:=Lc hp hr hn1
 refine⟨.pointer (some ⟨bb,off+i.toNat*sz,none⟩),?_,by simp only[Ae,CA];exact⟨bb,_,_,rfl,K2 (K3 hi _) sz,h3⟩⟩
 simp[execOp,ho,e1,e2,Instr.indexAt,asIntOf,run_underlying hu,h0,h1,run_sizeOf' hz,Addr.add_lit,Instr.sureAddr]
theorem Wm{t:TypeId}{x ix:Operand}(ho:o.op=.index t x ix)(ht:P.underlying t=some .string){s:List UInt8}{k:IntKind}{i:Int}{c:UInt8}(h0:0<=i)(hc:s[i.toNat]?=some c):
  Ah P o [.v (.str s),.v (.int k i)] σ (.v (.int .u8 c.toNat)) σ:=by
 refine Az fun E g ρ w hw hds=>?_
 simp only[ho,Op.operands,Ao] at hds
 obtain⟨u,v,eq,h1',h2⟩:=hds
 simp only[HU,I1,HH,Ih] at eq
 obtain⟨e1,e2⟩:=eq
 simp only[Ae,A5,C9] at h1' h2
 subst h1' h2
 refine⟨.int .u8 c.toNat,?_,by simp[Ae]⟩
 have hlt:i.toNat<s.length:=(H7.1 hc).1
 have hb:(⟨s.toArray⟩:ByteArray)[i.toNat]?=some c:=by
  rw[getElem?_pos _ _ (by rw[PG];exact hlt)]
  have:=(H7.1 hc).2
  simp only[Ia]
  rw[←this];rfl
 simp[execOp,ho,e1,e2,Instr.index,asIntOf,run_underlying ht,h0,hb]
theorem Ad3{t:TypeId}{x ix:Operand}(ho:o.op=.index t x ix){len sz:Nat}{b:Bool}(hs:AcM P t=some (len,sz,b))(hn1:b=false->sz=1){cs:List V}{y:V}{k:IntKind}{i:Int}(h0:0<=i)(h1:i<len)
  (hp:Gz cs (i.toNat*sz) sz b=some y):Ah P o [.v (.agg cs),.v (.int k i)] σ (.v y) σ:=by
 refine Az fun E g ρ w hw hds=>?_
 simp only[ho,Op.operands,Ao] at hds
 obtain⟨u,v,eq,h1',h2⟩:=hds
 simp only[HU,I1,HH,Ih] at eq
 obtain⟨e1,e2⟩:=eq
 simp only[Ae,A5,Cr] at h1' h2
 subst h2
 obtain⟨us,hr,rfl⟩:=h1'
 obtain⟨e,hu,hz⟩:=JL hs
 obtain⟨v,hrun,hv⟩:=QT hz hp hr hn1 w
 refine⟨v,?_,by simpa only[Ae] using hv⟩
 simp[execOp,ho,e1,e2,Instr.index,asIntOf,run_underlying hu,h0,h1,run_sizeOf' hz,hrun]
end
theorem WI.update{E:Ent}{g g':Gh}{σ σ':St}{w w':World}(hw:WI E g σ w)(X:Nat->Prop)(hX:∀b,X b->E.w.heap.size<=b∨E.priv b)
  (keep:∀b,b<w.heap.size->¬X b->w'.heap[b]?=w.heap[b]?/\∀o,g'.M b o=g.M b o)
  (hle:g.M.le g'.M) (hn:g.n<=g'.n) (hβ:∀o,o<g.n->g'.β o=g.β o) (hκ:∀o,o<g.n->g'.κ o=g.κ o) (size:w.heap.size<=w'.heap.size) (os:w'.os=w.os) (tape:w'.tape=w.tape) (output:w'.output=w.output)
  (rep:WRep g' σ' w') (objs:∀i cs,σ'.H[i]?=some (some cs)->E.w.heap.size<=g'.β i∨E.priv (g'.β i))
  (owns:∀x∈σ'.own,∀u,g'.ι x.1 x.2.2.length=some u->∀b,BZ u=some b->E.w.heap.size<=b∨E.priv b)
  (drawn:B6 w.drawn w'.drawn:=by first|exact B6.refl _|exact B6.succ _|assumption):WI E g' σ' w' where
 rep:=rep
 M:=Mem.le_trans hw.M hle
 size:=Iz hw.size size
 keep:=fun b hb hp=>by
  have hnx:¬X b:=fun hx=>by
   rcases hX b hx with h|h
   ·omega
   ·exact hp h
  obtain⟨h1,h2⟩:=keep b (IN hb hw.size) hnx
  obtain⟨h3,h4⟩:=hw.keep b hb hp
  exact⟨h1.trans h3,fun o=>(h2 o).trans (h4 o)⟩
 os:=os.trans hw.os
 tape:=tape.trans hw.tape
 output:=output.trans hw.output
 nE:=Iz hw.nE hn
 βE:=fun o ho=>(hβ o (IN ho hw.nE)).trans (hw.βE o ho)
 κE:=fun o ho=>(hκ o (IN ho hw.nE)).trans (hw.κE o ho)
 objs:=objs
 owns:=owns
 drawn:=hw.drawn.trans drawn
theorem Gt{w:World}{b:Nat}{o:Obj}(h:w.heap[b]?=some o):b<w.heap.size:=(Iy.1 h).1
theorem WRep.mem_lt{g:Gh}{σ:St}{w:World}(h:WRep g σ w){b o:Nat}{v:Value}(hm:g.M b o=some v):b<w.heap.size:=
 World.block_lt_of_cell? w ⟨b,o,none⟩ (h.mem b o v hm)
theorem WRep.new_none{g:Gh}{σ:St}{w:World}(h:WRep g σ w){b:Nat}(hb:w.heap.size<=b)(o:Nat):g.M b o=none:=by
 cases e:g.M b o with
 |none=>rfl
 |some v=>have:=h.mem_lt e;omega
theorem WRep.own_lt{g:Gh}{σ:St}{w:World}(h:WRep g σ w){x:Nat×Nat×List V}(hx:x∈σ.own){u:Value}(hu:g.ι x.1 x.2.2.length=some u){b:Nat}(hb:BZ u=some b):b<w.heap.size:=by
 obtain⟨_,u',hu',_,hp,_⟩:=h.own x.1 x.2.1 x.2.2 hx
 rw[hu] at hu'
 obtain rfl:u=u':=by simpa using hu'
 rcases hp with⟨a,rfl⟩|⟨b',f,len,cap,cur,e,rfl,hh,_⟩
 ·cases a<;>simp[BZ] at hb
 ·simp only[BZ] at hb
  split at hb
  ·simp at hb
  ·simp at hb;subst hb;exact Gt hh
theorem WRep.obj_lt{g:Gh}{σ:St}{w:World}(h:WRep g σ w){i:Nat}{cs:List D}(hi:σ.H[i]?=some (some cs)):g.β i<w.heap.size:=by
 obtain⟨us,rest,e,hb,_⟩:=h.obj i cs hi
 exact Gt hb
theorem WRep.lt_n{g:Gh}{σ:St}{w:World}(h:WRep g σ w){i:Nat}{cs:List D}(hi:σ.H[i]?=some (some cs)):i<g.n:=by
 rw[h.n];exact(H7.1 hi).1
theorem Perm.kept{M M':Mem}{w w':World}{sz:Nat}{u:Value}(h:Perm M w sz u)(hk:∀b,BZ u=some b->w'.heap[b]?=w.heap[b]?/\∀o,M' b o=M b o):Perm M' w' sz u:=by
 rcases h with⟨a,rfl⟩|⟨b,f,len,cap,cur,e,rfl,hh,hl,hc,hM⟩
 ·exact .inl ⟨a,rfl⟩
 ·by_cases h0:cap=0
  ·subst h0
   obtain rfl:len=0:=by omega
   exact .inl ⟨_,rfl⟩
  ·obtain⟨h1,h2⟩:=hk b (by simp[BZ,h0])
   exact .inr ⟨b,f,len,cap,cur,e,rfl,h1.trans hh,hl,hc,fun o ho=>(h2 o).trans (hM o ho),hM.ng⟩
theorem WRep.obj_ng{g:Gh}{σ:St}{w:World}(h:WRep g σ w){i:Nat}{cs:List D}(hi:σ.H[i]?=some (some cs)):∀p∈FP,p.1≠g.β i:=fun p hp e=>by
 obtain⟨v,hv⟩:=h.gl.sized p hp
 obtain⟨_,_,_,_,_,_,hM,_⟩:=h.obj i cs hi
 rw[e,hM 0] at hv;simp at hv
theorem Perm.ng{M:Mem}{w:World}{sz:Nat}{u:Value}(h:Perm M w sz u){b:Nat}(hb:BZ u=some b):∀p∈FP,p.1≠b:=by
 rcases h with⟨a,rfl⟩|⟨b',f,len,cap,cur,e,rfl,_,_,_,hM⟩
 ·cases a<;>simp[BZ] at hb
 ·simp only[BZ] at hb
  split at hb
  ·simp at hb
  ·simp at hb;subst hb;exact hM.ng
theorem WRep.own_ng{g:Gh}{σ:St}{w:World}(h:WRep g σ w){k sz:Nat}{xs:List V}(hx:(k,sz,xs)∈σ.own){u:Value}(hu:g.ι k xs.length=some u){b:Nat}(hb:BZ u=some b):∀p∈FP,p.1≠b:=by
 obtain⟨_,u',hu',_,hp,_⟩:=h.own k sz xs hx
 rw[hu] at hu';simp at hu';subst hu'
 exact hp.ng hb
theorem GW.lt{w:World}(h:GW w){p:Nat×Nat}(hp:p∈FP):p.1<w.heap.size:=by
 obtain⟨cs,e,x,h1,_⟩:=h p hp
 exact(Iy.1 h1).1
theorem GW.new{w:World}(h:GW w){b:Nat}(hb:w.heap.size<=b):∀p∈FP,p.1≠b:=fun p hp e=>by have:=h.lt hp;omega
theorem WRep.grow{g:Gh}{σ:St}{w w':World}(h:WRep g σ w){M':Mem}(hle:g.M.le M')(keep:∀b,b<w.heap.size->w'.heap[b]?=w.heap[b]?/\∀o,M' b o=g.M b o)
  (mem:∀b o v,M' b o=some v->w'.cell? ⟨b,o,none⟩=some v):WRep { g with M:=M' } σ w':=by
 have hg:g.le { g with M:=M' }:=⟨hle,HB _,fun _ _=>rfl,fun _ _ _ h=>h,fun _ _=>rfl⟩
 refine⟨h.n,mem,fun i cs hi=>?_,h.inj,fun k sz xs hx=>?_,h.tags,h.sep,h.ownObj,h.fresh,h.gl.mono hle,h.gw.keep fun b hb=>(keep b hb).1⟩
 ·obtain⟨us,rest,e,hb,hr,h1,hM,hκ⟩:=h.obj i cs hi
  obtain⟨k1,k2⟩:=keep _ (Gt hb)
  exact⟨us,rest,e,k1.trans hb,Ac.mono hg _ _ hr,h1,fun o=>(k2 o).trans (hM o),hκ⟩
 ·obtain⟨h0,u,hu,hr,hp,hf⟩:=h.own k sz xs hx
  exact⟨h0,u,hu,hr.mono hle,hp.kept fun b hb=>keep b (h.own_lt hx hu hb),hf⟩
theorem WI.grow{E:Ent}{g:Gh}{σ:St}{w w':World}(hw:WI E g σ w){M':Mem}(hle:g.M.le M')(keep:∀b,b<w.heap.size->w'.heap[b]?=w.heap[b]?/\∀o,M' b o=g.M b o)
  (mem:∀b o v,M' b o=some v->w'.cell? ⟨b,o,none⟩=some v) (size:w.heap.size<=w'.heap.size) (os:w'.os=w.os) (tape:w'.tape=w.tape) (output:w'.output=w.output) (drawn:B6 w.drawn w'.drawn:=by first|exact B6.refl _|exact B6.succ _|assumption):WI E { g with M:=M' } σ w':=
 hw.update (fun _=>False) (fun _ h=>h.elim) (fun b hb _=>keep b hb) hle (HB _) (fun _ _=>rfl) (fun _ _=>rfl) size os tape output (hw.rep.grow hle keep mem) hw.objs hw.owns
theorem Mp(w:World)(o:Obj){b i:Nat}{v:Value}(h:w.cell? ⟨b,i,none⟩=some v):(w.alloc o).cell? ⟨b,i,none⟩=some v:=by
 rw[World.cell?_alloc_lt w o _ (World.block_lt_of_cell? w _ h)];exact h
theorem WI.alloc{E:Ent}{g:Gh}{σ:St}{w:World}(hw:WI E g σ w)(o:Obj):WI E g σ (w.alloc o):=by
 have:=hw.grow (w':=w.alloc o) (M':=g.M) (Mem.le_refl _) (fun b hb=>⟨heap_alloc_old w o b hb,fun _=>rfl⟩) (fun b i v h=>Mp w o (hw.rep.mem b i v h)) (by simp) rfl rfl rfl
 exact this
theorem WI.drew{E:Ent}{g:Gh}{σ:St}{w:World}(hw:WI E g σ w):WI E g σ w.drew:=by
 have:=hw.grow (w':=w.drew) (M':=g.M) (Mem.le_refl _) (fun b hb=>⟨rfl,fun _=>rfl⟩) (fun b i v h=>hw.rep.mem b i v h) (HB _) rfl rfl rfl
 exact this
theorem WI.addObj{E:Ent}{g:Gh}{σ:St}{w:World}(hw:WI E g σ w){b:Nat}{us rest:List Value}{e:TypeId}{cs:List D}(hb:w.heap[b]?=some (.cells (us++rest).toArray e (0,0)))(hE:E.w.heap.size<=b∨E.priv b)(hM:∀o,g.M b o=none)
  (hno:∀i cs,σ.H[i]?=some (some cs)->g.β i≠b) (hown:∀x∈σ.own,∀u,g.ι x.1 x.2.2.length=some u->BZ u≠some b) (hr:Ac g cs us) (h1:∀c∈cs,c.one=true):
  WI E { g with n:=g.n+1,β:=fun o=>if o=g.n then b else g.β o,κ:=fun o=>if o=g.n then(us++rest).length else g.κ o } ⟨σ.H++[some cs],σ.own⟩ w/\g.le { g with n:=g.n+1,β:=fun o=>if o=g.n then b else g.β o,κ:=fun o=>if o=g.n then(us++rest).length else g.κ o }:=by
 have hle:g.le { g with n:=g.n+1,β:=fun o=>if o=g.n then b else g.β o,κ:=fun o=>if o=g.n then(us++rest).length else g.κ o }:=⟨Mem.le_refl _,Nat.le_succ _,fun o ho=>HL (by omega),fun _ _ _ h=>h,fun o ho=>HL (by omega)⟩
 have split:∀i cs',(σ.H++[some cs])[i]?=some (some cs')->(σ.H[i]?=some (some cs')/\i<g.n)∨(i=g.n/\cs'=cs):=by
  intro i cs' hi
  by_cases hlt:i<σ.H.length
  ·rw[HQ hlt] at hi
   exact .inl ⟨hi,by rw[hw.rep.n];exact hlt⟩
  ·rw[HN (by omega)] at hi
   have:i-σ.H.length=0:=by
    cases hk:i-σ.H.length with
    |zero=>rfl
    |succ k=>simp[hk] at hi
   rw[this] at hi
   simp at hi
   exact .inr ⟨by rw[hw.rep.n];omega,hi.symm⟩
 refine⟨hw.update (fun _=>False) (fun _ h=>h.elim) (fun _ _ _=>⟨rfl,fun _=>rfl⟩) (Mem.le_refl _) (Nat.le_succ _) (fun o ho=>HL (by omega)) (fun o ho=>HL (by omega)) (HB _) rfl rfl rfl ?_ ?_ hw.owns,hle⟩
 ·refine⟨by simp[hw.rep.n],hw.rep.mem,fun i cs' hi=>?_,fun i j cs1 cs2 hi hj hij=>?_,hw.rep.own,hw.rep.tags,hw.rep.sep,fun x hx u hu b' hb' i cs' hi=>?_,hw.rep.fresh,hw.rep.gl,hw.rep.gw⟩
  ·rcases split i cs' hi with⟨h,hlt⟩|⟨rfl,rfl⟩
   ·obtain⟨us',rest',e',h2,h3,h4,h5,h6⟩:=hw.rep.obj i cs' h
    have hne:(if i=g.n then b else g.β i)=g.β i:=HL (by omega)
    refine⟨us',rest',e',?_,Ac.mono hle _ _ h3,h4,?_,?_⟩
    ·simp only[hne];exact h2
    ·simp only[hne];exact h5
    ·simp only[HL (show ¬i=g.n by omega)];exact h6
   ·refine⟨us,rest,e,?_,Ac.mono hle _ _ hr,h1,?_,?_⟩
    ·simp only[IC];exact hb
    ·simp only[IC];exact hM
    ·simp only[IC]
  ·rcases split i cs1 hi with⟨h,hlt⟩|⟨rfl,rfl⟩<;>rcases split j cs2 hj with⟨h',hlt'⟩|⟨rfl,rfl⟩
   ·simp only[HL (show ¬i=g.n by omega),HL (show ¬j=g.n by omega)] at hij
    exact hw.rep.inj i j _ _ h h' hij
   ·simp only[HL (show ¬i=g.n by omega),IC] at hij
    exact absurd hij (hno i _ h)
   ·simp only[HL (show ¬j=g.n by omega),IC] at hij
    exact absurd hij.symm (hno j _ h')
   ·rfl
  ·rcases split i cs' hi with⟨h,hlt⟩|⟨rfl,rfl⟩
   ·simp only[HL (show ¬i=g.n by omega)]
    exact hw.rep.ownObj x hx u hu b' hb' i cs' h
   ·simp only[IC]
    intro e;subst e
    exact hown x hx u hu hb'
 ·intro i cs' hi
  rcases split i cs' hi with⟨h,hlt⟩|⟨rfl,rfl⟩
  ·simp only[HL (show ¬i=g.n by omega)];exact hw.objs i cs' h
  ·simp only[IC];exact hE
theorem WI.addOwn{E:Ent}{g:Gh}{σ:St}{w:World}(hw:WI E g σ w){k sz:Nat}{xs:List V}{u:Value}(hk:∀x∈σ.own,x.1≠k)(hsz:0<sz/\∀x∈xs,x.size=sz)(hr:repV g.M (.list xs) u)(hp:Perm g.M w sz u)
  (hb:∀b,BZ u=some b->E.w.heap.size<=b/\(∀i cs,σ.H[i]?=some (some cs)->g.β i≠b)/\∀x∈σ.own,∀u',g.ι x.1 x.2.2.length=some u'->BZ u'≠some b):
  WI E { g with ι:=fun k' m=>if k'=k then(if m=xs.length then some u else none) else g.ι k' m } ⟨σ.H,(k,sz,xs)::σ.own⟩ w/\
  g.le { g with ι:=fun k' m=>if k'=k then(if m=xs.length then some u else none) else g.ι k' m }:=by
 have hle:g.le { g with ι:=fun k' m=>if k'=k then(if m=xs.length then some u else none) else g.ι k' m }:=by
  refine⟨Mem.le_refl _,HB _,fun _ _=>rfl,fun k' m u' h=>?_,fun _ _=>rfl⟩
  by_cases e:k'=k
  ·subst e;rw[hw.rep.fresh k' hk m] at h;simp at h
  ·simp only[HL e];exact h
 have hold:∀x∈σ.own,(if x.1=k then(if x.2.2.length=xs.length then some u else none) else g.ι x.1 x.2.2.length)=g.ι x.1 x.2.2.length:=fun x hx=>HL (hk x hx)
 refine⟨hw.update (fun _=>False) (fun _ h=>h.elim) (fun _ _ _=>⟨rfl,fun _=>rfl⟩) (Mem.le_refl _) (HB _) (fun _ _=>rfl) (fun _ _=>rfl) (HB _) rfl rfl rfl ?_ hw.objs ?_,hle⟩
 ·refine⟨hw.rep.n,hw.rep.mem,fun i cs hi=>?_,hw.rep.inj,fun k' sz' xs' hx=>?_,?_,fun x hx y hy hne u1 u2 h1 h2 b hb1=>?_,fun x hx u1 h1 b hb1 i cs hi=>?_,fun k' hk' m=>?_,hw.rep.gl,hw.rep.gw⟩
  ·obtain⟨us,rest,e,h2,h3,h4,h5⟩:=hw.rep.obj i cs hi
   exact⟨us,rest,e,h2,Ac.mono hle _ _ h3,h4,h5⟩
  ·rcases Ij.1 hx with e|hx
   ·simp only[Prod.mk.injEq] at e
    obtain⟨rfl,rfl,rfl⟩:=e
    refine⟨hsz,u,by simp,hr,hp,fun m hm=>?_⟩
    simp only[IC];exact HL (by omega)
   ·obtain⟨h0,u',hu,h3,h4,h5⟩:=hw.rep.own k' sz' xs' hx
    have hne:¬k'=k:=hk _ hx
    refine⟨h0,u',by simp only[HL hne];exact hu,h3,h4,fun m hm=>by simp only[HL hne];exact h5 m hm⟩
  ·simp only[HU,List.nodup_cons]
   refine⟨fun h=>?_,hw.rep.tags⟩
   obtain⟨x,hx,e⟩:=Il.1 h
   exact hk x hx e
  ·rcases Ij.1 hx with rfl|hx<;>rcases Ij.1 hy with rfl|hy
   ·exact absurd rfl hne
   ·simp at h1;subst h1
    have h2':g.ι y.1 y.2.2.length=some u2:=(hold y hy).symm.trans h2
    exact(hb b hb1).2.2 y hy u2 h2'
   ·simp at h2;subst h2
    have h1':g.ι x.1 x.2.2.length=some u1:=(hold x hx).symm.trans h1
    intro hb2
    exact(hb b hb2).2.2 x hx u1 h1' hb1
   ·exact hw.rep.sep x hx y hy hne u1 u2 ((hold x hx).symm.trans h1) ((hold y hy).symm.trans h2) b hb1
  ·rcases Ij.1 hx with rfl|hx
   ·simp at h1;subst h1
    exact(hb b hb1).2.1 i cs hi
   ·exact hw.rep.ownObj x hx u1 ((hold x hx).symm.trans h1) b hb1 i cs hi
  ·have hne:¬k'=k:=fun e=>hk' (k,sz,xs) (by simp) e.symm
   simp only[HL hne]
   exact hw.rep.fresh k' (fun x hx=>hk' x (by simp[hx])) m
 ·intro x hx u1 h1 b hb1
  rcases Ij.1 hx with rfl|hx
  ·simp at h1;subst h1
   exact .inl (hb b hb1).1
  ·exact hw.owns x hx u1 ((hold x hx).symm.trans h1) b hb1
def BQ:D->List D
 |.v (.agg xs)=>xs.map .v
 |.dagg cs=>cs
 |d=>[d]
def D.sto:D->Bool
 |.v _|.acc .. |.ptr .. |.arr .. |.gro .. |.dfn .. =>true
 |.dagg cs=>cs.all D.one
 |.raw x=>x.oneCell'
 |.rv x _=> !x.isAgg
 |_=>false
theorem CZ{g:Gh}:∀{xs:List V} {us:List Value},repA g.M xs us->Ac g (xs.map .v) us/\∀c∈xs.map D.v,c.one=true
 |[],us,h=>by simp only[repA] at h;simp[h,Ac]
 |x::xs,us,h=>by
  simp only[repA] at h
  obtain⟨u,us',rfl,ha,h1,h2⟩:=h
  obtain⟨h3,h4⟩:=CZ h2
  refine⟨?_,?_⟩
  ·simp only[HU,Ac,Ae]
   exact⟨u,us',rfl,(B1 ha).2 h1,h3⟩
  ·intro c hc
   simp only[HU,Ij] at hc
   rcases hc with rfl|hc
   ·simp[D.one,ha]
   ·exact h4 c hc
theorem LB{u:Value}(h:u.oneCell'=true):u.cells= #[u]:=by cases u<;>simp_all [Value.cells,Value.oneCell']
theorem E6{g:Gh}{d:D}{u:Value}(h1:d.one=true)(h:Ae g d u):u.oneCell'=true:=by
 cases d with
 |v x=>simp only[Ae] at h;exact CF (by simpa[D.one] using h1) h
 |acc k xs=>simp only[Ae] at h;exact CF (x:=.list xs) rfl h.1
 |ptr q off=>simp only[Ae] at h;rw[h.2];rfl
 |arr q off len=>simp only[Ae] at h;obtain⟨_,cap,_,rfl⟩:=h;rfl
 |gro q len sz=>simp only[Ae] at h;obtain⟨_,cap,_,_,rfl⟩:=h;rfl
 |dfn f fs cs=>simp only[Ae] at h;obtain⟨us,vs,rfl,_⟩:=h;rfl
 |raw x=>simp only[Ae] at h;subst h;simpa[D.one] using h1
 |rv x u0=>simp only[Ae] at h;rw[h.1];exact CF (by simpa[D.one] using h1) h.2
 |dagg cs=>simp[D.one] at h1
 |tup ds=>simp[D.one] at h1
 |err=>simp[D.one] at h1
 |undef=>simp[D.one] at h1
theorem Cs{g:Gh}:∀{cs:List D} {us:List Value},(∀c∈cs,c.one=true)->Ac g cs us->∀u∈us,u.oneCell'=true
 |[],us,_,h=>by simp only[Ac] at h;simp[h]
 |c::cs,us,h1,h=>by
  simp only[Ac] at h
  obtain⟨u,us',rfl,h2,h3⟩:=h
  intro x hx
  simp only[Ij] at hx
  rcases hx with rfl|hx
  ·exact E6 (h1 c (by simp)) h2
  ·exact Cs (fun c hc=>h1 c (by simp[hc])) h3 x hx
theorem cells_rep{g:Gh}{d:D}{u:Value}(hs:d.sto=true)(h:Ae g d u):Ac g (BQ d) u.cells.toList/\(∀c∈BQ d,c.one=true)/\(∀x∈u.cells.toList,x.oneCell'=true):=by
 have one:d.one=true->u.oneCell'=true->BQ d=[d]->Ac g (BQ d) u.cells.toList/\(∀c∈BQ d,c.one=true)/\(∀x∈u.cells.toList,x.oneCell'=true):=by
  intro h1 h2 h3
  rw[h3,LB h2]
  exact⟨A2.2 ⟨u,rfl,h⟩,by simp[h1],by simp[h2]⟩
 cases d with
 |v x=>
  cases hx:x.isAgg with
  |false=>exact one (by simp[D.one,hx]) (by simp only[Ae] at h;exact CF hx h) (by cases x with|agg _=>simp[V.isAgg] at hx|_=>rfl)
  |true=>
   cases x with
   |agg cs=>
    simp only[Ae,Cr] at h
    obtain⟨ws,hr,rfl⟩:=h
    simp only[BQ,Value.cells]
    obtain⟨h3,h4⟩:=CZ hr
    exact⟨h3,h4,Gf hr⟩
   |_=>simp[V.isAgg] at hx
 |acc k xs=>exact one rfl (by simp only[Ae] at h;exact CF (x:=.list xs) rfl h.1) rfl
 |ptr q off=>exact one rfl (by simp only[Ae] at h;rw[h.2];rfl) rfl
 |arr q off len=>exact one rfl (by simp only[Ae] at h;obtain⟨_,cap,_,rfl⟩:=h;rfl) rfl
 |dfn f fs cs=>exact one rfl (by simp only[Ae] at h;obtain⟨us,vs,rfl,_⟩:=h;rfl) rfl
 |gro q len sz=>exact one rfl (E6 rfl h) rfl
 |rv x u0=>exact one (by simpa[D.sto,D.one] using hs) (E6 (by simpa[D.sto,D.one] using hs) h) rfl
 |raw x=>exact one (by simpa[D.sto,D.one] using hs) (E6 (by simpa[D.sto,D.one] using hs) h) rfl
 |dagg cs=>
  simp only[Ae] at h
  obtain⟨us,rfl,hr⟩:=h
  have h1:∀c∈cs,c.one=true:=by simpa[D.sto] using hs
  simp only[BQ,Value.cells]
  exact⟨hr,h1,Cs h1 hr⟩
 |tup ds=>simp[D.sto] at hs
 |err=>simp[D.sto] at hs
 |undef=>simp[D.sto] at hs
theorem WI.setObj{E:Ent}{g:Gh}{σ:St}{w w':World}(hw:WI E g σ w){q:Nat}{cs cs':List D}(hq:σ.H[q]?=some (some cs)){us rest:List Value}{e:TypeId}(hb:w'.heap[g.β q]?=some (.cells (us++rest).toArray e (0,0)))(hκ:(us++rest).length=g.κ q)
  (hr:Ac g cs' us) (h1:∀c∈cs',c.one=true) (keep:∀b,b≠g.β q->w'.heap[b]?=w.heap[b]?) (size:w'.heap.size=w.heap.size) (os:w'.os=w.os) (tape:w'.tape=w.tape) (output:w'.output=w.output) (drawn:B6 w.drawn w'.drawn:=by first|exact B6.refl _|exact B6.succ _|assumption):
  WI E g ⟨σ.H.set q (some cs'),σ.own⟩ w':=by
 have hMq:∀o,g.M (g.β q) o=none:=by obtain⟨_,_,_,_,_,_,h,_⟩:=hw.rep.obj q cs hq;exact h
 have split:∀(i:Nat) (cs1:List D),(σ.H.set q (some cs'))[i]?=some (some cs1)->(i=q/\cs1=cs')∨(i≠q/\σ.H[i]?=some (some cs1)):=by
  intro i cs1 hi
  rw[getElem?_set] at hi
  split at hi
  ·rename_i e;subst e
   split at hi
   ·simp at hi;exact .inl ⟨rfl,hi.symm⟩
   ·simp at hi
  ·rename_i e;exact .inr ⟨fun h=>e h.symm,hi⟩
 have live:∀(i:Nat) (cs1:List D),(σ.H.set q (some cs'))[i]?=some (some cs1)->∃cs2,σ.H[i]?=some (some cs2):=by
  intro i cs1 hi
  rcases split i cs1 hi with⟨rfl,_⟩|⟨_,h⟩
  ·exact⟨cs,hq⟩
  ·exact⟨_,h⟩
 refine hw.update (fun b=>b=g.β q) (fun b e=>by subst e;exact hw.objs q cs hq) (fun b _ hne=>⟨keep b hne,fun _=>rfl⟩) (Mem.le_refl _) (HB _) (fun _ _=>rfl) (fun _ _=>rfl) (by omega) os tape output ?_ ?_ hw.owns
 ·refine⟨by simp[hw.rep.n],fun b o v hm=>?_,fun i cs1 hi=>?_,fun i j c1 c2 hi hj hij=>?_,fun k sz xs hx=>?_,hw.rep.tags,hw.rep.sep,fun x hx u hu b hb' i cs1 hi=>?_,hw.rep.fresh,hw.rep.gl,hw.rep.gw.mono fun b cs0 e0 x0 hb0=>by
   by_cases hbq:b=g.β q
   ·subst hbq
    obtain⟨us1,rest1,e1,h2,_,_,_,h3⟩:=hw.rep.obj q cs hq
    rw[h2] at hb0
    cases hb0
    exact⟨_,_,_,hb,by simp only[II];omega⟩
   ·exact⟨_,_,_,(keep b hbq).trans hb0,rfl⟩⟩
  ·have hne:b≠g.β q:=fun e=>by subst e;rw[hMq o] at hm;simp at hm
   have:=hw.rep.mem b o v hm
   simp only[World.cell?] at this⊢
   rw[keep b hne];exact this
  ·rcases split i cs1 hi with⟨rfl,rfl⟩|⟨hne,h⟩
   ·exact⟨us,rest,e,hb,hr,h1,hMq,hκ⟩
   ·obtain⟨us',rest',e',h2,h3,h4,h5⟩:=hw.rep.obj i cs1 h
    refine⟨us',rest',e',?_,h3,h4,h5⟩
    rw[keep _ (fun e=>hne (hw.rep.inj i q _ _ h hq e))];exact h2
  ·obtain⟨c3,h3⟩:=live i c1 hi
   obtain⟨c4,h4⟩:=live j c2 hj
   exact hw.rep.inj i j _ _ h3 h4 hij
  ·obtain⟨h0,u,hu,h3,h4,h5⟩:=hw.rep.own k sz xs hx
   refine⟨h0,u,hu,h3,h4.kept fun b hb'=>⟨keep b ?_,fun _=>rfl⟩,h5⟩
   exact fun e=>hw.rep.ownObj _ hx u hu b hb' q cs hq e.symm
  ·obtain⟨c3,h3⟩:=live i cs1 hi
   exact hw.rep.ownObj x hx u hu b hb' i c3 h3
 ·intro i cs1 hi
  obtain⟨c3,h3⟩:=live i cs1 hi
  exact hw.objs i c3 h3
section
variable {P : Program} {o : Oper} {σ : St} {d : D}
theorem WI.newObj{E:Ent}{g:Gh}{w:World}(hw:WI E g σ w){us:List Value}{cs:List D}(e:TypeId)(hr:Ac g cs us)(h1:∀c∈cs,c.one=true):
  ∃g',WI E g' ⟨σ.H++[some cs],σ.own⟩ (w.alloc (.cells us.toArray e))/\g.le g'/\g'.β σ.H.length=w.heap.size/\g'.n=σ.H.length+1:=by
 have h2:=(hw.alloc (.cells us.toArray e)).addObj (b:=w.heap.size) (us:=us) (rest:=[]) (e:=e) (cs:=cs) (by rw[Is];exact heap_alloc_new w _) (.inl hw.size) (hw.rep.new_none (HB _))
  (fun i cs hi=>Nat.ne_of_lt (hw.rep.obj_lt hi)) (fun x hx u hu hb=>by have:=hw.rep.own_lt hx hu hb;omega) hr h1
 exact⟨_,h2.1,h2.2,by simp[hw.rep.n],by simp[hw.rep.n]⟩
theorem AfQ{e:TypeId}{x:Operand}(ho:o.op=.box e x)(hs:d.sto=true):Ah P o [d] σ (.ptr σ.H.length 0) ⟨σ.H++[some (BQ d)],σ.own⟩:=by
 intro E g a w K Q hw hds hK
 simp only[ho,Op.operands,A2] at hds
 obtain⟨u,eu,hd⟩:=hds
 simp at eu
 obtain⟨h2,h3,_⟩:=cells_rep hs hd
 obtain⟨g',hw',hle,hβ,hn⟩:=hw.newObj e h2 h3
 have:=hK g' _ (.pointer (some ⟨w.heap.size,0,none⟩)) hw' hle (by simp only[Ae];exact⟨by omega,by rw[hβ]⟩)
 unfold Oper.wp execOp
 simpa[ho,eu,Instr.box,newVar,newRow,Oper.upon] using this
def Pe:Value->Option V
 |.int k n=>some (.int k n)
 |.bool b=>some (.bool b)
 |.string s=>some (.str s.data.toList)
 |.slice none 0 0=>some (.list [])
 |.nilFunc=>some .nilfn
 |.pointer none=>some .nilp
 |_=>none
def JE:List Value->Option (List V)
 |[]=>some []
 |u::us=>match Pe u,JE us with
  |some x,some xs=>some (x::xs)
  |_,_=>none
theorem JF{M:Mem}{u:Value}{x:V}(h:Pe u=some x):x.isAgg=false/\repC M x [u]:=by
 unfold Pe at h
 split at h<;>simp at h<;>subst h<;>simp[V.isAgg,repC]
theorem Fp{M:Mem}:∀{us:List Value} {xs:List V},JE us=some xs->repA M xs us
 |[],xs,h=>by simp[JE] at h;subst h;simp[repA]
 |u::us,xs,h=>by
  simp only[JE] at h
  split at h
  ·rename_i x xs' h1 h2
   simp at h;subst h
   obtain⟨h3,h4⟩:=JF (M:=M) h1
   simp only[repA]
   exact⟨u,us,rfl,h3,h4,Fp h2⟩
  ·simp at h
def zeroV(P:Program)(t:TypeId):Option (List V):=
 match (P.info? t).bind (·.zero) with
 |some z=>JE z.cells.toList
 |none=>none
theorem KB{t:TypeId}{xs:List V}(h:zeroV P t=some xs):∃i z,P.info? t=some i/\i.zero=some z/\JE z.cells.toList=some xs:=by
 unfold zeroV at h
 split at h
 ·rename_i z hz
  cases hi:P.info? t with
  |none=>simp[hi] at hz
  |some i=>exact⟨i,z,rfl,by simpa[hi] using hz,h⟩
 ·simp at h
theorem MN{t:TypeId}{x y:Operand}(ho:o.op=.store t x y)(hs:d.sto=true){n:Nat}{b:Bool}(ht:Df P t=some (n,b))(hn:(BQ d).length=n){q off:Nat}{cs:List D}(hq:σ.H[q]?=some (some cs))(hoff:off+n<=cs.length):
  Ah P o [.ptr q off,d] σ .undef ⟨σ.H.set q (some (cs.take off++BQ d++cs.drop (off+n))),σ.own⟩:=by
 intro E g a w K Q hw hds hK
 simp only[ho,Op.operands,Ao] at hds
 obtain⟨u,v,eq,h1,h2⟩:=hds
 simp only[HU,I1,HH,Ih] at eq
 obtain⟨e1,e2⟩:=eq
 simp only[Ae] at h1
 obtain⟨hlt,rfl⟩:=h1
 obtain⟨us,rest,e,hb,hr,hone,hM,hκ⟩:=hw.rep.obj q cs hq
 obtain⟨h3,h4,h5⟩:=cells_rep hs h2
 have hl:us.length=cs.length:=A4 hr
 have hl2:v.cells.toList.length=n:=by rw[A4 h3,hn]
 have hst:=run_storeCells_at P (g.β q) off e v.cells.toList 0 (us++rest).toArray w hb (by simp only[II,HI];omega) h5
 simp only[I2,hl2] at hst
 rw[show(us++rest).take off++v.cells.toList++(us++rest).drop (off+n)=(us.take off++v.cells.toList++us.drop (off+n))++rest from by
  rw[IV (by omega),List.drop_append_of_le_length (by omega)];simp] at hst
 have hw':=hw.setObj (cs':=cs.take off++BQ d++cs.drop (off+n)) hq (us:=us.take off++v.cells.toList++us.drop (off+n)) (rest:=rest) (e:=e)
  (w':=w.setRow (g.β q) ((us.take off++v.cells.toList++us.drop (off+n))++rest).toArray) (setRow_heap w _ _ _ e _ hb) (by rw[←hκ];simp only[HI,HY,I9];omega)
  (Ap (Ap (B8 hr off) h3) (BY hr (off+n)))
  (fun c hc=>by
   simp only[Iq] at hc
   rcases hc with(hc|hc)|hc
   ·exact hone c (IK hc)
   ·exact h4 c hc
   ·exact hone c (Iu hc))
  (fun b hb=>setRow_other w _ _ _ hb) (by simp) rfl rfl rfl
 have:=hK g _ undef hw' g.le_refl (by simp[Ae])
 have hsz:v.cells.size=n:=by rw[←Ig];exact hl2
 unfold Oper.wp execOp
 simp only[ho,e1,e2,Instr.storeAt,Instr.sureAddr,Sem.run_bind,Sem.run_pure,Result.andThen_ok,storeVar,run_sizeOf' ht,hsz,ne_eq,not_true_eq_false,if_false,hst]
 exact this
theorem O2{t:TypeId}{x y:Operand}(ho:o.op=.store t x y)(hs:d.one=true)(ht:NK P t){q off:Nat}{cs:List D}(hq:σ.H[q]?=some (some cs))(hoff:off<cs.length):
  Ah P o [.ptr q off,d] σ .undef ⟨σ.H.set q (some (cs.set off d)),σ.own⟩:=by
 have hc:BQ d=[d]:=by
  cases d with
  |v x=>cases x<;>simp_all [D.one,BQ,V.isAgg]
  |dagg cs=>simp[D.one] at hs
  |_=>rfl
 have hs':d.sto=true:=by cases d<;>simp_all [D.one,D.sto]
 have h:=MN (P:=P) (σ:=σ) (n:=1) (off:=off) ho hs' ht (by rw[hc];rfl) hq (by omega)
 rw[hc] at h
 have e:cs.take off++[d]++cs.drop (off+1)=cs.set off d:=by
  rw[List.set_eq_take_append_cons_drop,HP hoff];simp
 rw[e] at h
 exact h
def V.cellsV:V->List V
 |.agg cs=>cs
 |x=>[x]
theorem KT{M:Mem}{x:V}{u:Value}(h:repV M x u):repA M x.cellsV u.cells.toList/\u.cells.size=x.size:=by
 have hc:=J1 h
 have hl:u.cells.size=x.size:=by rw[←Ig];exact Fi hc
 refine⟨?_,hl⟩
 cases hx:x.isAgg with
 |true=>
  cases x with
  |agg cs=>simpa only[V.cellsV,repC] using hc
  |_=>simp[V.isAgg] at hx
 |false=>
  have e:x.cellsV=[x]:=by cases x<;>simp_all [V.cellsV,V.isAgg]
  obtain⟨u',e1,_,_⟩:=Ct hx hc
  rw[e,e1]
  simp only[repA]
  exact⟨u',[],rfl,hx,by rw[←e1];exact hc,rfl⟩
def FC(place:Nat->Option (Nat×Nat))(cells:List V):List (Nat×V)->Option (List V)
 |[]=>some cells
 |(i,x)::rest=>
  match place i with
  |none=>none
  |some (off,size)=>if x.size=size/\off+size<=cells.length then FC place (cells.take off++x.cellsV++cells.drop (off+size)) rest else none
theorem Mf{place place':Nat->Option (Nat×Nat)}{out:List V}(hp:∀i p,place i=some p->place' i=some p):∀(xs:List (Nat×V)) (cells:List V),FC place cells xs=some out->FC place' cells xs=some out
 |[],cells,h=>by simpa[FC] using h
 |(i,x)::xs,cells,h=>by
  simp only[FC] at h⊢
  cases hi:place i with
  |none=>simp[hi] at h
  |some p=>
   rw[hp i p hi]
   simp only[hi] at h⊢
   split at h
   ·rename_i hc;rw[HP hc];exact Mf hp xs _ h
   ·simp at h
theorem GO{M:Mem}:∀{xs ys:List V} {us vs:List Value},repA M xs us->repA M ys vs->repA M (xs++ys) (us++vs)
 |[],ys,us,vs,h,h'=>by simp only[repA] at h;simpa[h] using h'
 |x::xs,ys,us,vs,h,h'=>by
  simp only[repA] at h
  obtain⟨u,us1,rfl,ha,h1,h2⟩:=h
  simp only[Jk,repA]
  exact⟨u,_,rfl,ha,h1,GO h2 h'⟩
theorem Vn(off:Nat)(l:List Value)(cs:Array Value)(h:off+l.length<=cs.size):
  ((l.zipIdx 0).foldl (fun cs (x:Value×Nat)=>cs.setIfInBounds (off+x.2) x.1) cs).toList=cs.toList.take off++l++cs.toList.drop (off+l.length):=by
 obtain⟨h1,h2⟩:=Great.foldl_set off l 0 cs
 apply List.ext_getElem?
 intro k
 have e:((l.zipIdx 0).foldl (fun cs (x:Value×Nat)=>cs.setIfInBounds (off+x.2) x.1) cs).toList[k]?=((l.zipIdx 0).foldl (fun cs (x:Value×Nat)=>cs.setIfInBounds (off+x.2) x.1) cs)[k]?:=by simp
 rw[e,h2 k]
 simp only[I2]
 have hlt:(cs.toList.take off).length=off:=by simp;omega
 by_cases hk:k<off
 ·rw[HL (by omega),IA,HQ (by omega),IQ,HP hk];simp
 ·by_cases hk2:k<off+l.length
  ·rw[HP (by omega),IA,HN (by omega),hlt,HQ (by omega)]
  ·rw[HL (by omega),HN (by simp;omega),getElem?_drop]
   simp only[HI,hlt]
   rw[show off+l.length+(k- (off+l.length))=k by omega];simp
inductive Hm (M:Mem):List (Nat×V)->List (Nat×Value)->Prop
 |nil:Hm M [] []
 |cons {i:Nat} {x:V} {u:Value} {xs:List (Nat×V)} {us:List (Nat×Value)} (h:repV M x u) (hr:Hm M xs us):Hm M ((i,x)::xs) ((i,u)::us)
theorem K5{M:Mem}{place:Nat->Option (Nat×Nat)}:∀{xs:List (Nat×V)} {us:List (Nat×Value)} {cells out:List V} {cu:Array Value},Hm M xs us->repA M cells cu.toList->FC place cells xs=some out->
  ∃U,Instr.fill place cu us=some U/\repA M out U.toList
 |[],us,cells,out,cu,h,hc,hf=>by
  cases h
  simp[FC] at hf;subst hf
  exact⟨cu,rfl,hc⟩
 |(i,x)::xs,us,cells,out,cu,h,hc,hf=>by
  cases h with
  |cons hx hr=>
   rename_i u us
   simp only[FC] at hf
   cases hp:place i with
   |none=>simp[hp] at hf
   |some p=>
    obtain⟨off,size⟩:=p
    simp only[hp] at hf
    split at hf
    ·rename_i hcond
     obtain⟨hA,hsz⟩:=KT hx
     have hl:cu.size=cells.length:=by rw[←Ig];exact Dh hc
     have hs:u.cells.size=size:=hsz.trans hcond.1
     have hsp:=Vn off u.cells.toList cu (by simp only[Ig];omega)
     simp only[Ig,hs] at hsp
     have hc':repA M (cells.take off++x.cellsV++cells.drop (off+size)) ((u.cells.toList.zipIdx 0).foldl (fun cs (x:Value×Nat)=>cs.setIfInBounds (off+x.2) x.1) cu).toList:=by
      rw[hsp]
      exact GO (GO (Hv hc off) hA) (Hw hc (off+size))
     obtain⟨U,hU,hrU⟩:=K5 hr hc' hf
     refine⟨U,?_,hrU⟩
     unfold Instr.fill
     simp only[hp,hs]
     rw[HL (by simp;omega), ←hU]
     congr 1
     rw[←Array.foldl_toList,Array.toList_zipIdx]
    ·simp at hf
def TS(P:Program)(t:TypeId):Option (List V×List (Nat×Nat)):=
 match zeroV P t,P.underlying t with
 |some z,some (.struct fs)=>(fs.toList.mapM (fun f=>(P.info? f.type).map fun i=>(f.offset,i.size))).map fun p=>(z,p)
 |some z,some (.array n e)=>(P.info? e).map fun i=>(z,(List.range n).map fun j=>(j*i.size,i.size))
 |_,_=>none
def C6:List (Nat×Operand)->List D->Option (List (Nat×V))
 |[],[]=>some []
 |(i,_)::ps,d::ds=>match d.toV,C6 ps ds with
  |some x,some xs=>some ((i,x)::xs)
  |_,_=>none
 |_,_=>none
theorem FQ{g:Gh}{a:Act}:∀{ps:List (Nat×Operand)} {ds:List D} {xs:List (Nat×V)},C6 ps ds=some xs->Ac g ds (ps.map fun p=>a.eval p.2)->Hm g.M xs (ps.map fun p=>(p.1,a.eval p.2))
 |[],[],xs,h,_=>by simp[C6] at h;subst h;exact .nil
 |[],_::_,xs,h,_=>by simp[C6] at h
 |(i,_)::ps,[],xs,h,_=>by simp[C6] at h
 |(i,x)::ps,d::ds,xs,h,hr=>by
  simp only[C6] at h
  split at h
  ·rename_i y ys hy hys
   simp at h;subst h
   simp only[HU,Ac] at hr
   obtain⟨u,us',e,h1,h2⟩:=hr
   simp at e
   obtain⟨rfl,rfl⟩:=e
   exact .cons (Hs hy h1) (FQ hys h2)
  ·simp at h
theorem MT{t:TypeId}{parts:Array (Nat×Operand)}(ho:o.op=.build t parts){z:List V}{places:List (Nat×Nat)}(hb:TS P t=some (z,places)){ds:List D}{xs:List (Nat×V)}{out:List V}
  (hx:C6 parts.toList ds=some xs) (hf:FC (places[·]?) z xs=some out):Ah P o ds σ (.v (.agg out)) σ:=by
 intro E g a w K Q hw hds hK
 simp only[ho,Op.operands] at hds
 have hpr:=FQ hx (a:=a) (g:=g) (by simpa[Function.comp_def] using hds)
 unfold TS at hb
 have key:∃U,P.built t (parts.toList.map fun p=>(p.1,a.eval p.2))=some U/\repA g.M out U.toList:=by
  cases hz:zeroV P t with
  |none=>simp[hz] at hb
  |some z0=>
   obtain⟨i,zv,hi,hz1,hcv⟩:=KB hz
   cases hu:P.underlying t with
   |none=>simp[hz,hu] at hb
   |some dd=>
    cases dd<;>simp only[hz,hu,reduceCtorEq] at hb
    case struct fs=>
     cases hp:fs.toList.mapM (fun f=>(P.info? f.type).map fun i=>(f.offset,i.size)) with
     |none=>simp[hp] at hb
     |some pl=>
      simp[hp] at hb
      obtain⟨rfl,rfl⟩:=hb
      obtain⟨U,hU,hrU⟩:=K5 hpr (Fp (M:=g.M) hcv) hf
      exact⟨U,by simpa[Program.built,hi,hu,hz1,hp] using hU,hrU⟩
    case array n e=>
     cases hp:P.info? e with
     |none=>simp[hp] at hb
     |some ie=>
      simp[hp] at hb
      obtain⟨rfl,rfl⟩:=hb
      have hf':FC (fun i=>some (i*ie.size,ie.size)) z0 xs=some out:=by
       refine Mf (fun i p hp'=>?_) xs z0 hf
       have hlt:=(H7.1 hp').1
       simp at hlt
       simpa[hlt] using hp'
      obtain⟨U,hU,hrU⟩:=K5 hpr (Fp (M:=g.M) hcv) hf'
      exact⟨U,by simpa[Program.built,hi,hu,hz1,hp] using hU,hrU⟩
 obtain⟨U,hU,hrU⟩:=key
 have:=hK g w (.agg U) hw g.le_refl (by simp only[Ae,Cr];exact⟨U.toList,hrU,by simp⟩)
 have hrun:=run_build (P:=P) w t (parts.map fun p=>(p.1,a.eval p.2)) U (by simpa using hU)
 unfold Oper.wp execOp
 simp only[ho]
 simp only[Sem.run_bind]
 rw[show(parts.map fun(x:Nat×Operand)=>match x with|(i,x)=>(i,a.eval x))=parts.map fun p=>(p.1,a.eval p.2) from rfl,hrun]
 exact this
end
def Ft(k sz:Nat)(zs:List V)(x:Nat×Nat×List V):Nat×Nat×List V:=if x.1=k then(k,sz,zs) else x
theorem QW{k sz:Nat}{zs:List V}(x:Nat×Nat×List V):(Ft k sz zs x).1=x.1:=by unfold Ft;split<;>simp_all
theorem WI.setOwn{E:Ent}{g:Gh}{σ:St}{w w':World}(hw:WI E g σ w){k sz:Nat}{xs zs:List V}(hx:(k,sz,xs)∈σ.own){u u':Value}(hu:g.ι k xs.length=some u){M':Mem}(hle:g.M.le M')
  (keep:∀b,b<w.heap.size->BZ u≠some b->w'.heap[b]?=w.heap[b]?/\∀o,M' b o=g.M b o) (mem:∀b o v,M' b o=some v->w'.cell? ⟨b,o,none⟩=some v)
  (size:w.heap.size<=w'.heap.size) (os:w'.os=w.os) (tape:w'.tape=w.tape) (output:w'.output=w.output)
  (hzs:∀x∈zs,x.size=sz) (hr:repV M' (.list zs) u') (hp:Perm M' w' sz u') (hb:∀b,BZ u'=some b->BZ u=some b∨w.heap.size<=b) (hlen:xs.length<zs.length∨(zs.length=xs.length/\u'=u)) (drawn:B6 w.drawn w'.drawn:=by first|exact B6.refl _|exact B6.succ _|assumption):
  WI E { g with M:=M',ι:=fun k' m=>if k'=k/\m=zs.length then some u' else g.ι k' m } ⟨σ.H,σ.own.map (Ft k sz zs)⟩ w'/\
  g.le { g with M:=M',ι:=fun k' m=>if k'=k/\m=zs.length then some u' else g.ι k' m }:=by
 obtain⟨hsz,u0,hu0,_,_,hfr⟩:=hw.rep.own k sz xs hx
 have hlg:g.le { g with M:=M',ι:=fun k' m=>if k'=k/\m=zs.length then some u' else g.ι k' m }:=by
  refine⟨hle,HB _,fun _ _=>rfl,fun k' m v h=>?_,fun _ _=>rfl⟩
  by_cases e:k'=k/\m=zs.length
  ·obtain⟨rfl,rfl⟩:=e
   simp only[and_self,IC]
   rcases hlen with hl|⟨hl,rfl⟩
   ·rw[hfr _ hl] at h;simp at h
   ·rw[hl] at h;exact hu.symm.trans h
  ·simp only[HL e];exact h
 -- two entries with one tag are one
 have uniq:∀y∈σ.own,y.1=k->y=(k,sz,xs):=by
  intro y hy e
  have hnd:=hw.rep.tags
  clear hfr hlg hw
  generalize σ.own=l at*
  induction l with
  |nil=>simp at hy
  |cons z l ih=>
   simp only[HU,List.nodup_cons] at hnd
   rcases Ij.1 hy with rfl|hy'<;>rcases Ij.1 hx with hx'|hx'
   ·exact hx'.symm
   ·exact absurd (Il.2 ⟨_,hx',e.symm⟩) hnd.1
   ·subst hx';exact absurd (Il.2 ⟨_,hy',e⟩) hnd.1
   ·exact ih hx' hy' hnd.2
 have old:∀y∈σ.own,y.1≠k->(if y.1=k/\y.2.2.length=zs.length then some u' else g.ι y.1 y.2.2.length)=g.ι y.1 y.2.2.length:=fun y _ e=>HL (fun h=>e h.1)
 -- each new entry
 have cases_:∀y'∈σ.own.map (Ft k sz zs),(y'=(k,sz,zs))∨(y'∈σ.own/\y'.1≠k):=by
  intro y' hy'
  obtain⟨y,hy,rfl⟩:=Il.1 hy'
  by_cases e:y.1=k
  ·exact .inl (by simp[Ft,e])
  ·exact .inr (by simp only[Ft,HL e];exact⟨hy,e⟩)
 have sep0:∀y∈σ.own,y.1≠k->∀v,g.ι y.1 y.2.2.length=some v->∀b,BZ v=some b->BZ u'≠some b:=by
  intro y hy e v hv b hvb hub
  rcases hb b hub with h|h
  ·exact hw.rep.sep (k,sz,xs) hx y hy (fun h=>e h.symm) u v hu hv b h hvb
  ·have:=hw.rep.own_lt hy hv hvb;omega
 refine⟨hw.update (fun b=>BZ u=some b) (fun b h=>hw.owns _ hx u hu b h) (fun b hb1 h=>keep b hb1 h) hle (HB _) (fun _ _=>rfl) (fun _ _=>rfl) size os tape output ?_ hw.objs ?_,hlg⟩
 ·refine⟨hw.rep.n,mem,fun i cs hi=>?_,hw.rep.inj,fun k' sz' xs' hx'=>?_,?_,fun x1 hx1 y1 hy1 hne u1 u2 h1 h2 b hb1=>?_,fun x1 hx1 u1 h1 b hb1 i cs hi=>?_,fun k' hk' m=>?_,hw.rep.gl.mono hle,hw.rep.gw.keepG fun p hp hlt=>(keep p.1 hlt fun e=>hw.rep.own_ng hx hu e p hp rfl).1⟩
  ·obtain⟨us,rest,e,h2,h3,h4,h5,h6⟩:=hw.rep.obj i cs hi
   obtain⟨k1,k2⟩:=keep _ (Gt h2) (fun h=>hw.rep.ownObj _ hx u hu _ h i cs hi rfl)
   exact⟨us,rest,e,k1.trans h2,Ac.mono hlg _ _ h3,h4,fun o=>(k2 o).trans (h5 o),h6⟩
  ·rcases cases_ _ hx' with e|⟨hy,e⟩
   ·simp only[Prod.mk.injEq] at e
    obtain⟨rfl,rfl,rfl⟩:=e
    refine⟨⟨hsz.1,hzs⟩,u',by simp,hr,hp,fun m hm=>?_⟩
    show(if k'=k'/\m=xs'.length then some u' else g.ι k' m)=none
    rw[HL (by omega)]
    exact hfr m (by rcases hlen with h|⟨h,_⟩<;>omega)
   ·obtain⟨h0,v,hv,h3,h4,h5⟩:=hw.rep.own k' sz' xs' hy
    refine⟨h0,v,(old _ hy e).trans hv,h3.mono hle,h4.kept fun b hvb=>keep b (hw.rep.own_lt hy hv hvb) ?_,fun m hm=>?_⟩
    ·exact fun h=>hw.rep.sep (k,sz,xs) hx _ hy (fun h=>e h.symm) u v hu hv b h hvb
    ·simp only[HL (show ¬(k'=k/\m=zs.length) from fun h=>e h.1)]
     exact h5 m hm
  ·rw[map_map]
   have:(Prod.fst ∘Ft k sz zs)=Prod.fst:=funext fun x=>QW x
   rw[this];exact hw.rep.tags
  ·rcases cases_ _ hx1 with rfl|⟨hy,e⟩<;>rcases cases_ _ hy1 with rfl|⟨hy',e'⟩
   ·exact absurd rfl hne
   ·simp at h1;subst h1
    have h2':=(old _ hy' e').symm.trans h2
    exact fun h=>sep0 y1 hy' e' u2 h2' b h hb1
   ·simp at h2;subst h2
    exact sep0 x1 hy e u1 ((old _ hy e).symm.trans h1) b hb1
   ·exact hw.rep.sep x1 hy y1 hy' hne u1 u2 ((old _ hy e).symm.trans h1) ((old _ hy' e').symm.trans h2) b hb1
  ·rcases cases_ _ hx1 with rfl|⟨hy,e⟩
   ·simp at h1;subst h1
    rcases hb b hb1 with h|h
    ·exact hw.rep.ownObj _ hx u hu b h i cs hi
    ·have:=hw.rep.obj_lt hi
     intro h';simp only at h';omega
   ·exact hw.rep.ownObj x1 hy u1 ((old _ hy e).symm.trans h1) b hb1 i cs hi
  ·have hne:¬(k'=k):=fun e=>hk' (k,sz,zs) (Il.2 ⟨_,hx,by simp[Ft]⟩) e.symm
   simp only[HL (show ¬(k'=k/\m=zs.length) from fun h=>hne h.1)]
   refine hw.rep.fresh k' (fun y hy e=>?_) m
   have:=hk' (Ft k sz zs y) (Il.2 ⟨y,hy,rfl⟩)
   rw[QW] at this
   exact this e
 ·intro x1 hx1 u1 h1 b hb1
  rcases cases_ _ hx1 with rfl|⟨hy,e⟩
  ·simp at h1;subst h1
   rcases hb b hb1 with h|h
   ·exact hw.owns _ hx u hu b h
   ·exact .inl (Iz hw.size h)
  ·exact hw.owns x1 hy u1 ((old _ hy e).symm.trans h1) b hb1
def Sn(M:Mem)(b:Nat)(us:List Value):Mem:=fun b' o=>if b'=b then us[o]? else M b' o
theorem Yh{g:Gh}{σ:St}{w:World}(h:WRep g σ w){b:Nat}(hb:w.heap.size<=b)(us:List Value):g.M.le (Sn g.M b us):=fun b' o v hm=>by
 have:=h.mem_lt hm
 simp only[Sn,HL (show ¬b'=b by omega)];exact hm
theorem NI(M:Mem)(b:Nat)(us:List Value):inM (Sn M b us) b 0 us:=fun j v hj=>by simp[Sn,hj]
theorem M1{M:Mem}{b b':Nat}{us:List Value}(h:b'≠b)(o:Nat):Sn M b us b' o=M b' o:=by simp[Sn,h]
theorem WI.newImm{E:Ent}{g:Gh}{σ:St}{w:World}(hw:WI E g σ w)(us rest:List Value)(e:TypeId):
  WI E { g with M:=Sn g.M w.heap.size us } σ (w.alloc (.cells (us++rest).toArray e))/\g.le { g with M:=Sn g.M w.heap.size us }:=by
 refine⟨hw.grow (Yh hw.rep (HB _) us) (fun b hb=>⟨heap_alloc_old w _ b hb,M1 (Nat.ne_of_lt hb)⟩) (fun b o v hm=>?_) (by simp) rfl rfl rfl,⟨Yh hw.rep (HB _) us,HB _,fun _ _=>rfl,fun _ _ _ h=>h,fun _ _=>rfl⟩⟩
 unfold Sn at hm
 split at hm
 ·rename_i e;subst e
  rw[World.cell?_alloc_new]
  have hlt:=(H7.1 hm).1
  simp[HQ hlt,hm]
 ·exact Mp w _ (hw.rep.mem b o v hm)
theorem GK{M:Mem}{sz:Nat}:∀{xs ys:List V} {us vs:List Value},repE M sz xs us->repE M sz ys vs->repE M sz (xs++ys) (us++vs)
 |[],ys,us,vs,h,h'=>by simp only[repE] at h;simpa[h] using h'
 |x::xs,ys,us,vs,h,h'=>by
  simp only[repE] at h
  obtain⟨u1,u2,rfl,hl,h1,h2⟩:=h
  simp only[Jk,repE]
  exact⟨u1,u2++vs,by simp,hl,h1,GK h2 h'⟩
theorem JO{M:Mem}{sz:Nat}:∀{xs:List V} {us:List Value},repE M sz xs us->∀u∈us,u.oneCell'=true
 |[],us,h=>by simp only[repE] at h;simp[h]
 |x::xs,us,h=>by
  simp only[repE] at h
  obtain⟨u1,u2,rfl,hl,h1,h2⟩:=h
  intro u hu
  rcases Iq.1 hu with hu|hu
  ·exact JP h1 u hu
  ·exact JO h2 u hu
theorem B4{M:Mem}{xs:List V}{u:Value}{sz:Nat}(h:repV M (.list xs) u)(hs:∀x∈xs,x.size=sz)(hsz:0<sz):
  ∃a cap,u=.slice a xs.length cap/\xs.length<=cap/\(xs=[]∨∃b off us,a=some ⟨b,off,none⟩/\inM M b off us/\repE M sz xs us):=by
 rw[AU] at h
 obtain⟨a,cap,e,hc,h⟩:=h
 refine⟨a,cap,e,hc,?_⟩
 rcases h with h|⟨b,off,sz',us,ha,hsz',hi,hr⟩
 ·exact .inl h
 ·cases xs with
  |nil=>exact .inl rfl
  |cons x xs=>
   have hx:=hs x (by simp)
   have:sz'=sz:=by
    obtain⟨u1,h1,h2,_⟩:=MH hr (i:=0) (x:=x) (by simp)
    rw[←h2,Fi h1,hx]
   subst this
   exact .inr ⟨b,off,us,ha,hi,hr⟩
theorem CR{M:Mem}{xs:List V}{b f sz cap:Nat}{us:List Value}(hsz:0<sz)(hi:inM M b f us)(hr:repE M sz xs us)(hc:xs.length<=cap):repV M (.list xs) (.slice (some ⟨b,f,none⟩) xs.length cap):=by
 rw[AU]
 exact⟨_,cap,rfl,hc,.inr ⟨b,f,sz,us,rfl,hsz,hi,hr⟩⟩
section
variable {P : Program} {o : Oper} {σ : St} {d : D}
theorem K6(s:Nat):∀(vs:List Value) (i0:Nat) (pre rest:List Value),pre.length=i0*s->(∀v∈vs,v.cells.size=s)->rest.length=vs.length*s->
  Instr.fill (fun i=>some (i*s,s)) (pre++rest).toArray ((vs.zipIdx i0).map fun x=>(x.2,x.1))=some (pre++vs.flatMap (·.cells.toList)).toArray
 |[],i0,pre,rest,_,_,hr=>by
  have:rest=[]:=IL (by simpa using hr)
  subst this;simp[Instr.fill]
 |v::vs,i0,pre,rest,hp,hv,hr=>by
  have hvs:=hv v (by simp)
  have hr':rest.length=s+vs.length*s:=by rw[hr,H9,IE,Nat.one_mul,Nat.add_comm]
  have hsp:=Vn (i0*s) v.cells.toList (pre++rest).toArray (by simp only[II,HI,Ig];omega)
  simp only[Ig,hvs] at hsp
  have e1:(pre++rest).take (i0*s)=pre:=by rw[←hp];simp
  have e2:(pre++rest).drop (i0*s+s)=rest.drop s:=by rw[←hp];simp
  simp only[e1,e2] at hsp
  have ih:=K6 s vs (i0+1) (pre++v.cells.toList) (rest.drop s) (by simp[hp,hvs,IE]) (fun x hx=>hv x (by simp[hx])) (by simp;omega)
  simp only[List.zipIdx_cons,HU]
  unfold Instr.fill
  simp only[hvs]
  rw[HL (by simp;omega)]
  have e3:(v.cells.zipIdx.foldl (fun cs (x:Value×Nat)=>cs.setIfInBounds (i0*s+x.2) x.1) (pre++rest).toArray)=(pre++v.cells.toList++rest.drop s).toArray:=by
   rw[←Array.foldl_toList,Array.toList_zipIdx]
   apply I6
   rw[hsp]
  rw[e3,ih]
  simp
theorem Hr{g:Gh}{sz:Nat}:∀{ds:List D} {xs:List V} {us:List Value},Es ds=some xs->Ac g ds us->(∀x∈xs,x.size=sz)->repE g.M sz xs (us.flatMap (·.cells.toList))/\(∀v∈us,v.cells.size=sz)
 |[],xs,us,h,hr,_=>by simp[Es] at h;subst h;simp only[Ac] at hr;subst hr;simp[repE]
 |d::ds,xs,us,h,hr,hs=>by
  simp only[Es] at h
  split at h
  ·rename_i x xs' hx hxs
   simp at h;subst h
   simp only[Ac] at hr
   obtain⟨u,us',rfl,h2,h3⟩:=hr
   have hv:=Hs hx h2
   obtain⟨_,hsz⟩:=KT hv
   obtain⟨h4,h5⟩:=Hr hxs h3 (fun y hy=>hs y (by simp[hy]))
   have hu:u.cells.size=sz:=hsz.trans (hs x (by simp))
   refine⟨?_,?_⟩
   ·simp only[List.flatMap_cons,repE]
    exact⟨_,_,rfl,by simpa using hu,J1 hv,h4⟩
   ·intro v hv'
    rcases Ij.1 hv' with rfl|h
    ·exact hu
    ·exact h5 v h
  ·simp at h
theorem Fh:∀{ds:List D} {xs:List V},Es ds=some xs->xs.length=ds.length
 |[],xs,h=>by simp[Es] at h;simp[←h]
 |d::ds,xs,h=>by
  simp only[Es] at h
  split at h
  ·rename_i x xs' hx hxs
   simp at h;subst h
   simp[Fh hxs]
  ·simp at h
theorem DZ{t:TypeId}{len:Nat}{parts:Array (Nat×Operand)}(ho:o.op=.buildSlice t len parts)(hp:parts.toList=((parts.toList.map (·.2)).zipIdx 0).map fun x=>(x.2,x.1))(hlen:parts.size=len)
  {e:TypeId} {sz by':Nat} {z:Option Value} (hs:BP P t=some (e,sz,by',z)) (hz:z.isSome=true) {ds:List D} {xs:List V} (hx:Es ds=some xs) (hsz:∀x∈xs,x.size=sz) (h0:0<len) (h1:0<sz) (h2:len*sz<=1000):
  Ah P o ds σ (.v (.list xs)) σ:=by
 intro E g a w K Q hw hds hK
 simp only[ho,Op.operands] at hds
 obtain⟨i,hu,hi,rfl,rfl,rfl⟩:=AA hs
 obtain⟨zz,hzz⟩:=Option.isSome_iff_exists.1 hz
 have hlm:(parts.toList.map fun p=>a.eval p.2).length=len:=by simp[hlen]
 have hds':Ac g ds (parts.toList.map fun p=>a.eval p.2):=by simpa[Function.comp_def] using hds
 obtain⟨hr,hcs⟩:=Hr hx hds' hsz
 have hxl:xs.length=len:=by rw[Fh hx, ←A4 hds',hlm]
 have hpos:0<len*i.size:=Nat.mul_pos h0 h1
 have hf:=K6 i.size (parts.toList.map fun p=>a.eval p.2) 0 [] ((Array.range (len*i.size)).map (zz.cells[· %zz.cells.size]!)).toList (by simp) hcs (by simp[hlen])
 have hpp:((parts.toList.map fun p=>a.eval p.2).zipIdx 0).map (fun x=>(x.2,x.1))=parts.toList.map fun p=>(p.1,a.eval p.2):=by
  have e1:(parts.toList.map fun p=>a.eval p.2)=(parts.toList.map (·.2)).map a.eval:=by simp
  rw[e1,List.zipIdx_map,map_map]
  conv=>rhs;rw[hp,map_map]
  rfl
 rw[hpp] at hf
 simp only[List.nil_append,Array.toArray_toList] at hf
 have hrun:=run_buildSlice (P:=P) w t e len (parts.map fun p=>(p.1,a.eval p.2)) _ i zz hu hi hzz (by omega) (by omega) (by simpa using hf)
 obtain⟨hw',hle⟩:=hw.newImm ((parts.toList.map fun p=>a.eval p.2).flatMap (·.cells.toList)) [] e
 rw[Is] at hw'
 have:=hK _ _ (.slice (some ⟨w.heap.size,0,none⟩) len len) hw' hle (by
  simp only[Ae]
  have:=CR (cap:=len) h1 (NI g.M w.heap.size _) (repE.mono hle.M _ _ _ hr) (by omega)
  rw[hxl] at this
  exact this)
 unfold Oper.wp execOp
 simp only[ho]
 simp only[Sem.run_bind]
 rw[show(parts.map fun(x:Nat×Operand)=>match x with|(i,x)=>(i,a.eval x))=parts.map fun p=>(p.1,a.eval p.2) from rfl,hrun]
 exact this
theorem LK{t:TypeId}{parts:Array (Nat×Operand)}(ho:o.op=.buildSlice t 0 parts)(hp:parts= #[]){e:TypeId}{sz by':Nat}{z:Option Value}(hs:BP P t=some (e,sz,by',z)):
  Ah P o [] σ (.v (.list [])) σ:=by
 intro E g a w K Q hw hds hK
 obtain⟨i,hu,hi,rfl,rfl,rfl⟩:=AA hs
 subst hp
 have:=hK g _ (.slice (some ⟨w.heap.size,0,none⟩) 0 0) (hw.alloc (.cells #[] e)) g.le_refl (by
  simp only[Ae];rw[AU];exact⟨_,0,rfl,HB _,.inl rfl⟩)
 unfold Oper.wp execOp
 simpa[ho,Instr.buildSlice,run_underlying hu,sizeOf,typeInfo,hi,Instr.fill,newRow,Oper.upon,show Array.range 0= #[] from rfl] using this
end
section
variable {P : Program} {o : Oper} {σ : St} {d : D}
theorem KS(w:World)(t ty e:TypeId)(i:TypeInfo)(ht:P.underlying t=some (.slice e))(hi:P.info? e=some i)(a a2:Option Addr)(n c c2:Nat)(hc:n<=c):
  (Builtin.append_ #[t,t] ty #[.slice a n c,.slice a2 0 c2]).run P w=.ok (.slice a n c) w:=by
 have hf:(Builtin.firstCells i.size 0 (.slice a2 0 c2)).run P w=.ok #[] w:=by
  cases a2<;>simp[Builtin.firstCells,loadCells,loadCellsFrom]
 cases a<;>simp[Builtin.append_,run_underlying ht,sizeOf,typeInfo,hi,Builtin.lenOf,hc,hf,storeCells]
theorem run_append_room'(w:World)(t ty e e':TypeId)(i:TypeInfo)(ht:P.underlying t=some (.slice e))(hi:P.info? e=some i)
  (g sLen sCap:Nat) (cur:Array Value) (hg:w.heap[g]?=some (.cells cur e' (0,0)))
  (a:Addr) (m c:Nat) (news:List Value) (hl:news.length=m*i.size) (hnews:∀j u,news[j]?=some u->w.cell? (a.add j)=some u) (h1:∀u∈news,u.oneCell'=true)
  (hroom:sLen+m<=sCap) (hfit:sLen*i.size+news.length<=cur.size):
  (Builtin.append_ #[t,t] ty #[.slice (some ⟨g,0,none⟩) sLen sCap,.slice (some a) m c]).run P w=
   .ok (.slice (some ⟨g,0,none⟩) (sLen+m) sCap) (w.setRow g (cur.toList.take (sLen*i.size)++news++cur.toList.drop (sLen*i.size+news.length)).toArray):=by
 have hf:=run_firstCells_some (P:=P) w i.size m a m c news hl hnews
 have hst:=run_storeCells_at P g (sLen*i.size) e' news 0 cur w hg (by simpa using hfit) h1
 simp only[I2] at hst
 simp[Builtin.append_,run_underlying ht,sizeOf,typeInfo,hi,Builtin.lenOf,hroom,hf,Addr.add_lit,hst]
theorem JV(w:World)(t ty e e':TypeId)(i:TypeInfo)(ht:P.underlying t=some (.slice e))(hi:P.info? e=some i)
  (g p sLen sCap:Nat) (cur:Array Value) (hg:w.heap[g]?=some (.cells cur e' (0,0)))
  (a:Addr) (m c:Nat) (news:List Value) (hl:news.length=m*i.size) (hnews:∀j u,news[j]?=some u->w.cell? (a.add j)=some u) (h1:∀u∈news,u.oneCell'=true)
  (hroom:sLen+m<=sCap) (hfit:p+sLen*i.size+news.length<=cur.size):
  (Builtin.append_ #[t,t] ty #[.slice (some ⟨g,p,none⟩) sLen sCap,.slice (some a) m c]).run P w=
   .ok (.slice (some ⟨g,p,none⟩) (sLen+m) sCap) (w.setRow g (cur.toList.take (p+sLen*i.size)++news++cur.toList.drop (p+sLen*i.size+news.length)).toArray):=by
 have hf:=run_firstCells_some (P:=P) w i.size m a m c news hl hnews
 have hst:=run_storeCells_at P g (p+sLen*i.size) e' news 0 cur w hg (by simpa using hfit) h1
 simp only[I2] at hst
 simp[Builtin.append_,run_underlying ht,sizeOf,typeInfo,hi,Builtin.lenOf,hroom,hf,Addr.add_lit,hst]
theorem LH{E:Ent}{g:Gh}{w:World}(hw:WI E g σ w){t ty e:TypeId}{sz by':Nat}{z:Value}(hs:BP P t=some (e,sz,by',some z))(hzc:z.cells.size=sz){k:Nat}{xs ys:List V}(hx:(k,sz,xs)∈σ.own)
  (hsy:∀y∈ys,y.size=sz) (hlen:(xs.length+ys.length)*by'<=140737488355328) (hlen2:xs.length+ys.length<=140737488355328) {u v:Value} (hu:g.ι k xs.length=some u) (hv:repV g.M (.list ys) v):
  ∃u' w' g',(Builtin.append_ #[t,t] ty #[u,v]).run P w=.ok u' w'/\WI E g' ⟨σ.H,σ.own.map (Ft k sz (xs++ys))⟩ w'/\g.le g'/\Ae g' (.acc k (xs++ys)) u':=by
 obtain⟨⟨hsz,hsx⟩,u0,hu0,hr0,hp0,hfr⟩:=hw.rep.own k sz xs hx
 obtain rfl:u=u0:=by rw[hu] at hu0;simpa using hu0
 obtain⟨i,ht,hi,hisz,hib,hiz⟩:=AA hs
 have hzs:∀x∈xs++ys,x.size=sz:=fun x hx=>by
  rcases Iq.1 hx with h|h
  ·exact hsx x h
  ·exact hsy x h
 obtain⟨a2,cap2,rfl,hc2,hv⟩:=B4 hv hsy hsz
 obtain⟨a1,cap1,e1,hc1,hr1⟩:=B4 hr0 hsx hsz
 -- what is left to do once the run and the new header are known
 have fin:∀(u':Value) (w':World) (M':Mem),(Builtin.append_ #[t,t] ty #[u,.slice a2 ys.length cap2]).run P w=.ok u' w'->g.M.le M'->
   (∀b,b<w.heap.size->BZ u≠some b->w'.heap[b]?=w.heap[b]?/\∀o,M' b o=g.M b o)->(∀b o v,M' b o=some v->w'.cell? ⟨b,o,none⟩=some v)->
   w.heap.size<=w'.heap.size->w'.os=w.os->w'.tape=w.tape->w'.output=w.output->repV M' (.list (xs++ys)) u'->Perm M' w' sz u'->(∀b,BZ u'=some b->BZ u=some b∨w.heap.size<=b)->
   (xs.length<(xs++ys).length∨((xs++ys).length=xs.length/\u'=u))->B6 w.drawn w'.drawn->
   ∃u' w' g',(Builtin.append_ #[t,t] ty #[u,.slice a2 ys.length cap2]).run P w=.ok u' w'/\WI E g' ⟨σ.H,σ.own.map (Ft k sz (xs++ys))⟩ w'/\g.le g'/\Ae g' (.acc k (xs++ys)) u':=by
  intro u' w' M' hrun hle keep mem size os tape output hr hp hb hl dr
  obtain⟨h1,h2⟩:=hw.setOwn hx hu hle keep mem size os tape output hzs hr hp hb hl
  exact⟨u',w',_,hrun,h1,h2,by simp only[Ae];exact⟨hr,by simp⟩⟩
 cases hys:ys with
 |nil=>
  subst hys
  refine fin u w g.M ?_ (Mem.le_refl _) (fun b _ _=>⟨rfl,fun _=>rfl⟩) hw.rep.mem (HB _) rfl rfl rfl (by simpa using hr0) hp0 (fun b hb=>.inl hb) (.inr ⟨by simp,rfl⟩) (B6.refl _)
  rw[e1]
  exact KS w t ty e i ht hi _ _ _ _ _ hc1
 |cons y0 ys0=>
  rw[←hys]
  have hne:ys≠ []:=by rw[hys];simp
  have hpos:0<ys.length:=List.length_pos_iff.2 hne
  rcases hv with h|⟨b2,off2,vs,rfl,hi2,hr2⟩
  ·exact absurd h hne
  have hvl:vs.length=ys.length*i.size:=by rw[BE hr2,hisz]
  have hcells2:=Dj hw hi2
  have hvone:=JO hr2
  have grows:∀(us:List Value) (old:Nat),repE g.M sz xs us->old<xs.length+ys.length->
    (Builtin.append_ #[t,t] ty #[u,.slice (some ⟨b2,off2,none⟩) ys.length cap2]).run P w=
     .ok (.slice (some ⟨w.heap.size,0,none⟩) (xs.length+ys.length) (grownCap w (xs.length+ys.length) old e))
      (w.drew.alloc (.cells (us.toArray++vs.toArray++Builtin.zeroCells z.cells (grownCap w (xs.length+ys.length) old e- (xs.length+ys.length))) e))->
    ∃u' w' g',(Builtin.append_ #[t,t] ty #[u,.slice (some ⟨b2,off2,none⟩) ys.length cap2]).run P w=.ok u' w'/\WI E g' ⟨σ.H,σ.own.map (Ft k sz (xs++ys))⟩ w'/\g.le g'/\Ae g' (.acc k (xs++ys)) u':=by
   intro us old hus hold hrun
   have hge:=grownCap_ge w (xs.length+ys.length) old e
   have hcell:us.toArray++vs.toArray++Builtin.zeroCells z.cells (grownCap w (xs.length+ys.length) old e- (xs.length+ys.length))=((us++vs)++(Builtin.zeroCells z.cells (grownCap w (xs.length+ys.length) old e- (xs.length+ys.length))).toList).toArray:=by
    apply I6;simp
   rw[hcell] at hrun
   have hE:=GK hus hr2
   obtain⟨hw2,hle2⟩:=hw.drew.newImm (us++vs) (Builtin.zeroCells z.cells (grownCap w (xs.length+ys.length) old e- (xs.length+ys.length))).toList e
   refine fin _ _ (Sn g.M w.heap.size (us++vs)) hrun hle2.M (fun b hb _=>⟨heap_alloc_old w.drew _ b hb,M1 (Nat.ne_of_lt hb)⟩) hw2.rep.mem (by simp) rfl rfl rfl ?_ ?_ ?_ (.inl (by simp;omega)) (B6.succ _)
   ·have:=CR (cap:=grownCap w (xs.length+ys.length) old e) hsz (NI g.M w.heap.size (us++vs)) (repE.mono hle2.M _ _ _ hE) (by simp;omega)
    simpa using this
   ·refine .inr ⟨w.heap.size,0,xs.length+ys.length,_,_,e,rfl,heap_alloc_new w.drew _,hge,?_,fun o ho=>?_,hw.rep.gw.new (HB _)⟩
    ·simp only[II,HI,Ig,size_zeroCells,hzc,BE hus,BE hr2, ←IE,Io]
     exact Nat.mul_le_mul_right _ (by omega)
    ·simp only[Sn,IC]
     refine Ir ?_
     rw[BE hE];simpa using ho
   ·intro b hb
    simp only[BZ] at hb
    split at hb
    ·simp at hb
    ·simp at hb;exact .inr (by omega)
  have h63:((xs.length+ys.length:Nat):Int)<=9223372036854775807:=by omega
  have hfit:∀old,old<xs.length+ys.length->Builtin.nextslicecap (xs.length+ys.length) old*i.bytes<=281474976710656:=fun old ho=>growslice_fits ho (by rw[hib];exact hlen)
  have hdrew:∀j v,vs[j]?=some v->w.cell? ((⟨b2,off2,none⟩:Addr).add j)=some v:=hcells2
  rcases hp0 with⟨a,ea⟩|⟨b,f,len,cap,cur,et,eu,hb,hlc,hcc,hMb⟩
  ·-- no room at all
   have hxn:xs=[]:=by
    rw[ea] at e1
    simp at e1
    exact IL e1.2.1.symm
   subst hxn
   simp only[HD,Io] at*
   subst ea
   cases a with
   |none=>
    refine grows [] 0 (by simp[repE]) hpos ?_
    have:=run_append_nil (P:=P) w t ty e i z ht hi hiz ⟨b2,off2,none⟩ ys.length cap2 vs hvl hdrew hpos (by omega) (by have:=hfit 0 hpos;rw[nextslicecap_zero hpos] at this;exact this)
    simpa using this
   |some a=>
    refine grows [] 0 (by simp[repE]) hpos ?_
    have:=run_append_grow (P:=P) w t ty e i z ht hi hiz a 0 0 [] (by simp) (by simp) ⟨b2,off2,none⟩ ys.length cap2 vs hvl hdrew (by omega) (by simpa using h63) (by simpa using hfit 0 hpos)
    simpa using this
  ·obtain⟨rfl,rfl,rfl⟩:a1=some ⟨b,f,none⟩/\xs.length=len/\cap1=cap:=by
    rw[eu] at e1;simp at e1;exact⟨e1.1.symm,e1.2.1.symm,e1.2.2.symm⟩
   obtain⟨us,hus,hui⟩:∃us,repE g.M sz xs us/\inM g.M b f us:=by
    rcases hr1 with rfl|⟨b',off',us,ea,hi1,hr1⟩
    ·exact⟨[],by simp[repE],fun j v hj=>by simp at hj⟩
    ·simp at ea;obtain⟨rfl,rfl⟩:=ea
     exact⟨us,hr1,hi1⟩
   have hul:=BE hus
   by_cases hroom:xs.length+ys.length<=cap1
   ·-- in place
    have hcur:f+xs.length*i.size+vs.length<=cur.size:=by
     rw[hvl,hisz,Nat.add_assoc, ←IE]
     exact Iz (Nat.add_le_add_left (Nat.mul_le_mul_right _ hroom) f) hcc
    have hrun:=JV (P:=P) w t ty e et i ht hi b f xs.length cap1 cur hb ⟨b2,off2,none⟩ ys.length cap2 vs hvl hdrew hvone hroom hcur
    rw[←eu] at hrun
    have hcap0:cap1≠0:=by omega
    have hob:BZ u=some b:=by rw[eu];simp[BZ,hcap0]
    -- the new cells
    let M':Mem:=fun b' o=>if b'=b/\f+xs.length*sz<=o then vs[o- (f+xs.length*sz)]? else g.M b' o
    have hM':g.M.le M':=fun b' o v hm=>by
     simp only[M']
     rw[HL]; ·exact hm
     rintro ⟨rfl,ho⟩
     rw[hMb o ho] at hm;simp at hm
    have hin:inM M' b f (us++vs):=fun j v hj=>by
     simp only[M']
     by_cases hj1:f+xs.length*sz<=f+j
     ·rw[HP ⟨trivial,hj1⟩,show f+j- (f+xs.length*sz)=j-xs.length*sz by omega]
      rw[HN (by omega),hul] at hj;exact hj
     ·rw[HL (fun h=>hj1 h.2)]
      rw[HQ (by omega)] at hj
      have:=hui j v hj;simpa using this
    refine fin _ _ M' hrun hM' (fun b' _ hne=>?_) (fun b' o v hm=>?_) (by simp) rfl rfl rfl ?_ ?_ (fun b' hb'=>?_) (.inl (by simp;omega)) (B6.refl _)
    ·have hbb:b'≠b:=fun h=>hne (by rw[hob,h])
     refine⟨setRow_other w b b' _ hbb,fun o=>?_⟩
     simp only[M'];rw[HL (fun h=>hbb h.1)]
    ·simp only[M'] at hm
     by_cases hb':b'=b
     ·subst hb'
      rw[cell_setRow_same w b' o cur _ et _ hb]
      have hl1:(cur.toList.take (f+xs.length*i.size)).length=f+xs.length*sz:=by
       simp only[HY,Ig,hisz]
       have:=Iz (Nat.add_le_add_left (Nat.mul_le_mul_right sz hlc) f) hcc
       omega
      by_cases ho:f+xs.length*sz<=o
      ·rw[HP ⟨rfl,ho⟩] at hm
       have hlt:=(H7.1 hm).1
       simp only[I7]
       rw[IA,HN (by omega),hl1,HQ hlt]
       exact hm
      ·rw[HL (fun h=>ho h.2)] at hm
       have hold:=hw.rep.mem b' o v hm
       simp only[World.cell?,hb] at hold
       simp only[I7]
       rw[IA,HQ (by omega),IQ,HP (by rw[hisz];omega)]
       simpa using hold
     ·rw[HL (fun h=>hb' h.1)] at hm
      rw[cell_setRow_other w b _ _ hb']
      exact hw.rep.mem b' o v hm
    ·have:=CR (cap:=cap1) hsz hin (repE.mono hM' _ _ _ (GK hus hr2)) (by simp;omega)
     simpa using this
    ·refine .inr ⟨b,f,xs.length+ys.length,cap1,_,et,rfl,setRow_heap w b cur _ et _ hb,hroom,?_,fun o ho=>?_,hw.rep.own_ng hx hu hob⟩
     ·simp only[II,HI,HY,I9,Ig]
      omega
     ·simp only[M']
      rw[HP ⟨trivial,by rw[IE] at ho;omega⟩]
      refine Ir ?_
      rw[hvl,hisz];rw[IE] at ho;omega
    ·simp only[BZ] at hb'
     rw[HL hcap0] at hb'
     simp at hb'
     exact .inl (by rw[hob,hb'])
   ·have:=run_append_grow (P:=P) w t ty e i z ht hi hiz ⟨b,f,none⟩ xs.length cap1 us (by rw[hul,hisz]) (Dj hw hui) ⟨b2,off2,none⟩ ys.length cap2 vs hvl hdrew (by omega) h63 (hfit cap1 (by omega))
    refine grows us cap1 hus (by omega) ?_
    rw[eu];exact this
theorem O8{x y:Operand}{t:TypeId}(ho:o.op=.call { callee:=.builtin .append,args:= #[x,y],argTypes:= #[t,t]}){e:TypeId}{sz by':Nat}{z:Value}(hs:BP P t=some (e,sz,by',some z))(hzc:z.cells.size=sz)
  {k:Nat} {xs ys:List V} (hx:(k,sz,xs)∈σ.own) (hsy:∀y∈ys,y.size=sz) (hlen:(xs.length+ys.length)*by'<=140737488355328) (hlen2:xs.length+ys.length<=140737488355328):
  Ah P o [.acc k xs,.v (.list ys)] σ (.acc k (xs++ys)) ⟨σ.H,σ.own.map (Ft k sz (xs++ys))⟩:=by
 intro E g a w K Q hw hds hK
 simp only[ho,Op.operands,Call.operands] at hds
 obtain⟨u,v,eq,h1,h2⟩:=Ao.1 (by simpa using hds)
 simp only[HH,Ih] at eq
 simp only[Ae] at h1 h2
 obtain⟨u',w',g',hrun,hw',hle,hr⟩:=LH (P:=P) (ty:=o.type) hw hs hzc hx hsy hlen hlen2 h1.2 h2
 have:=hK g' w' u' hw' hle hr
 unfold Oper.wp execOp
 simp only[ho,resolve,invoke,builtin,Sem.run_bind,Sem.run_pure,Result.andThen_ok,List.map_toArray,HU,I1,eq.1,eq.2,hrun]
 exact this
end
section
variable {P : Program} {o : Oper} {σ : St} {d : D}
theorem Vq{M:Mem}{xs:List V}{a:Option Addr}{len cap sz:Nat}(hr:repV M (.list xs) (.slice a len cap))(hs:∀x∈xs,x.size=sz)(hsz:0<sz){l h:Nat}(hl:l<=h)(hh:h<=xs.length):
  len=xs.length/\xs.length<=cap/\repV M (.list ((xs.take h).drop l)) (.slice (if cap=l then a else a.map (·.add (l*sz))) (h-l) (cap-l)):=by
 obtain⟨a',cap',e,hc,hr2⟩:=B4 hr hs hsz
 simp only[Value.slice.injEq] at e
 obtain⟨rfl,rfl,rfl⟩:=e
 refine⟨rfl,hc,?_⟩
 have hlen:((xs.take h).drop l).length=h-l:=by simp;omega
 rw[AU]
 refine⟨_,cap-l,by rw[hlen],by rw[hlen];omega,?_⟩
 rcases Nat.lt_or_ge l h with hlt|hge
 ·rcases hr2 with rfl|⟨b,off,us,rfl,hi,hr3⟩
  ·simp at hh;omega
  refine .inr ⟨b,off+l*sz,sz,(us.take (h*sz)).drop (l*sz),?_,hsz,K3 (K2 hi _) _,Ol (Ok hr3 h) l⟩
  rw[HL (by omega)]
  simp[Addr.add_lit]
 ·left
  exact IL (by rw[hlen];omega)
def BD(n:Nat)(l h:Option Int):Option (Nat×Nat):=
 let h':=h.getD n
 let l':=l.getD 0
 if 0<=l'/\l'<=h'/\h'<=n then some (l'.toNat,h'.toNat) else none
theorem DI(w:World)(isS:Bool)(len cap:Nat)(hc:len<=cap)(l h:Option (IntKind×Int)){l' h':Nat}(hb:BD len (l.map (·.2)) (h.map (·.2))=some (l',h')):
  (Instr.sliceBounds isS len cap (l.map fun p=>.int p.1 p.2) (h.map fun p=>.int p.1 p.2) none).run P w=.ok (l',h',cap) w:=by
 unfold BD at hb
 simp only at hb
 split at hb
 ·rename_i hcond
  simp only[Ia,Prod.mk.injEq] at hb
  obtain⟨rfl,rfl⟩:=hb
  cases l with
  |none=>
   cases h with
   |none=>simp[Instr.sliceBounds]
   |some p=>
    simp only[IZ,I4,Option.getD_none,IT] at hcond⊢
    simp[Instr.sliceBounds,run_sliceBound w p.1 p.2 cap _ (by omega) (by omega)]
  |some q=>
   cases h with
   |none=>
    simp only[IZ,I4,Option.getD_none,IT] at hcond⊢
    simp[Instr.sliceBounds,run_sliceBound w q.1 q.2 len _ (by omega) (by omega)]
   |some p=>
    simp only[I4,IT] at hcond⊢
    simp[Instr.sliceBounds,run_sliceBound w p.1 p.2 cap _ (by omega) (by omega),run_sliceBound w q.1 q.2 p.2.toNat _ (by omega) (by omega)]
 ·simp at hb
def DV:Option (IntKind×Int)->List D
 |none=>[]
 |some p=>[.v (.int p.1 p.2)]
theorem Wh{t:TypeId}{x:Operand}{lo hi:Option Operand}(ho:o.op=.slice t x lo hi none){e:TypeId}{sz by':Nat}{z:Option Value}(hs:BP P t=some (e,sz,by',z)){xs:List V}(hsx:∀x∈xs,x.size=sz)(hsz:0<sz)
  (l h:Option (IntKind×Int)) (hlo:lo.isSome=l.isSome) (hhi:hi.isSome=h.isSome) {l' h':Nat} (hb:BD xs.length (l.map (·.2)) (h.map (·.2))=some (l',h')):
  Ah P o (.v (.list xs)::(DV l++DV h)) σ (.v (.list ((xs.take h').drop l'))) σ:=by
 refine Az fun E g ρ w hw hds=>?_
 obtain⟨i,hu,hi',rfl,rfl,rfl⟩:=AA hs
 have hb2:=hb
 unfold BD at hb2
 simp only at hb2
 split at hb2
 case isFalse=>simp at hb2
 rename_i hcond
 simp only[Ia,Prod.mk.injEq] at hb2
 have main:∀u (lv hv:Option Value),ρ x=u->lv=l.map (fun p=>Value.int p.1 p.2)->hv=h.map (fun p=>Value.int p.1 p.2)->lo.map ρ=lv->hi.map ρ=hv->repV g.M (.list xs) u->
   ∃u,(execOp ρ o).run P w=.ok (.value u) w/\Ae g (.v (.list ((xs.take h').drop l'))) u:=by
  intro u lv hv eu el eh e1 e2 hr
  obtain⟨a,cap,rfl,hc,_⟩:=AU.1 hr
  obtain⟨_,_,hres⟩:=Vq hr hsx hsz (l:=l') (h:=h') (by omega) (by omega)
  refine⟨_,?_,by simp only[Ae];exact hres⟩
  have hbr:=DI (P:=P) w true xs.length cap hc l h hb
  simp only[execOp,ho,eu,e1,e2,el,eh,IZ,Instr.sliceAt,Instr.slice,Sem.run_bind,run_underlying hu,Result.andThen_ok,hbr]
  simp[sizeOf,typeInfo,hi']
 simp only[ho,Op.operands] at hds
 cases lo with
 |none=>
  cases l with
  |some _=>simp at hlo
  |none=>
   cases hi with
   |none=>
    cases h with
    |some _=>simp at hhi
    |none=>
     obtain⟨u,eu,h1⟩:=A2.1 (by simpa[DV] using hds)
     simp at eu
     exact main u none none eu rfl rfl rfl rfl (by simpa only[Ae] using h1)
   |some ho'=>
    cases h with
    |none=>simp at hhi
    |some p=>
     obtain⟨u,v,eu,h1,h2⟩:=Ao.1 (by simpa[DV] using hds)
     simp only[HH,Ih] at eu
     simp only[Ae,A5] at h2
     exact main u none _ eu.1 rfl (by simp;rfl) rfl (by simp[eu.2,h2]) (by simpa only[Ae] using h1)
 |some lo'=>
  cases l with
  |none=>simp at hlo
  |some q=>
   cases hi with
   |none=>
    cases h with
    |some _=>simp at hhi
    |none=>
     obtain⟨u,v,eu,h1,h2⟩:=Ao.1 (by simpa[DV] using hds)
     simp only[HH,Ih] at eu
     simp only[Ae,A5] at h2
     exact main u _ none eu.1 (by simp;rfl) rfl (by simp[eu.2,h2]) rfl (by simpa only[Ae] using h1)
   |some ho'=>
    cases h with
    |none=>simp at hhi
    |some p=>
     obtain⟨u,v,v2,eu,h1,h2,h3⟩:=Eg.1 (by simpa[DV] using hds)
     simp only[HH,Ih] at eu
     simp only[Ae,A5] at h2 h3
     exact main u _ _ eu.1 (by simp;rfl) (by simp;rfl) (by simp[eu.2.1,h2]) (by simp[eu.2.2,h3]) (by simpa only[Ae] using h1)
theorem Wg{t:TypeId}{x:Operand}{lo hi:Option Operand}(ho:o.op=.slice t x lo hi none)(hu:P.underlying t=some .string){s:List UInt8}
  (l h:Option (IntKind×Int)) (hlo:lo.isSome=l.isSome) (hhi:hi.isSome=h.isSome) {l' h':Nat} (hb:BD s.length (l.map (·.2)) (h.map (·.2))=some (l',h')):
  Ah P o (.v (.str s)::(DV l++DV h)) σ (.v (.str ((s.take h').drop l'))) σ:=by
 refine Az fun E g ρ w hw hds=>?_
 have main:∀u (lv hv:Option Value),ρ x=u->lv=l.map (fun p=>Value.int p.1 p.2)->hv=h.map (fun p=>Value.int p.1 p.2)->lo.map ρ=lv->hi.map ρ=hv->u=.string ⟨s.toArray⟩->
   ∃u,(execOp ρ o).run P w=.ok (.value u) w/\Ae g (.v (.str ((s.take h').drop l'))) u:=by
  intro u lv hv eu el eh e1 e2 hr
  subst hr
  refine⟨.string ⟨((s.take h').drop l').toArray⟩,?_,by simp only[Ae,C9]⟩
  have hbr:=DI (P:=P) w false s.length s.length (HB _) l h hb
  have hx:(⟨s.toArray⟩:ByteArray).extract l' h'=⟨((s.take h').drop l').toArray⟩:=by
   apply ByteArray.ext
   apply I6
   rw[Lib.extract_data]
   simp[List.drop_take]
  simp only[execOp,ho,eu,e1,e2,el,eh,IZ,Instr.sliceAt,Instr.slice,Sem.run_bind,run_underlying hu,Result.andThen_ok,Option.isSome_none,Jj,if_false,PG]
  simp[hbr,hx]
 simp only[ho,Op.operands] at hds
 cases lo with
 |none=>
  cases l with
  |some _=>simp at hlo
  |none=>
   cases hi with
   |none=>
    cases h with
    |some _=>simp at hhi
    |none=>
     obtain⟨u,eu,h1⟩:=A2.1 (by simpa[DV] using hds)
     simp at eu
     exact main u none none eu rfl rfl rfl rfl (by simpa only[Ae,C9] using h1)
   |some ho'=>
    cases h with
    |none=>simp at hhi
    |some p=>
     obtain⟨u,v,eu,h1,h2⟩:=Ao.1 (by simpa[DV] using hds)
     simp only[HH,Ih] at eu
     simp only[Ae,A5] at h2
     exact main u none _ eu.1 rfl (by simp;rfl) rfl (by simp[eu.2,h2]) (by simpa only[Ae,C9] using h1)
 |some lo'=>
  cases l with
  |none=>simp at hlo
  |some q=>
   cases hi with
   |none=>
    cases h with
    |some _=>simp at hhi
    |none=>
     obtain⟨u,v,eu,h1,h2⟩:=Ao.1 (by simpa[DV] using hds)
     simp only[HH,Ih] at eu
     simp only[Ae,A5] at h2
     exact main u _ none eu.1 (by simp;rfl) rfl (by simp[eu.2,h2]) rfl (by simpa only[Ae,C9] using h1)
   |some ho'=>
    cases h with
    |none=>simp at hhi
    |some p=>
     obtain⟨u,v,v2,eu,h1,h2,h3⟩:=Eg.1 (by simpa[DV] using hds)
     simp only[HH,Ih] at eu
     simp only[Ae,A5] at h2 h3
     exact main u _ _ eu.1 (by simp;rfl) (by simp;rfl) (by simp[eu.2.1,h2]) (by simp[eu.2.2,h3]) (by simpa only[Ae,C9] using h1)
theorem Jr(z:Value)(n:Nat):madeCells #[z] n=(replicate n z).toArray:=by
 apply I6
 apply List.ext_getElem?
 intro k
 simp only[madeCells]
 by_cases hk:k<n
 ·simp[hk,Nat.mod_one]
 ·simp[hk]
theorem Ad1{t:TypeId}{x y:Operand}(ho:o.op=.makeSlice t x y){e:TypeId}{by':Nat}{z:Value}(hs:BP P t=some (e,1,by',some z)){zv:V}(hz:Pe z=some zv){k k':IntKind}{n:Int}(h0:0<=n)(hn:(by':Int)*n<=281474976710656)(hn2:n<=9223372036854775807):
  Ah P o [.v (.int k n),.v (.int k' n)] σ (.arr σ.H.length 0 n.toNat) ⟨σ.H++[some (replicate n.toNat (.v zv))],σ.own⟩:=by
 intro E g a w K Q hw hds hK
 simp only[ho,Op.operands,Ao] at hds
 obtain⟨u,v,eq,h1,h2⟩:=hds
 simp only[HU,I1,HH,Ih] at eq
 obtain⟨e1,e2⟩:=eq
 simp only[Ae,A5] at h1 h2
 subst h1 h2
 obtain⟨i,hu,hi,hsz,hby,hzz⟩:=AA hs
 obtain⟨hza,hzc⟩:=JF (M:=g.M) hz
 have hz1:z.cells= #[z]:=by
  obtain⟨u',e,_,h3⟩:=Ct hza hzc
  simp at e;subst e;exact LB h3
 have hrun:=run_make (P:=P) w t e i z hu hi hzz k k' n n h0 (HV _) (by rw[hby];exact hn) hn2
 rw[hsz,Nat.mul_one,hz1,Jr] at hrun
 have hr:∀m,Ac g (replicate m (.v zv)) (replicate m z):=by
  intro m
  induction m with
  |zero=>simp[Ac]
  |succ m ih=>simp only[Ix,Ac,Ae];exact⟨z,_,rfl,(B1 hza).2 hzc,ih⟩
 obtain⟨g',hw',hle,hβ,hn'⟩:=hw.newObj e (hr n.toNat) (fun c hc=>by rw[List.mem_replicate] at hc;rw[hc.2];simp[D.one,hza])
 have:=hK g' _ (.slice (some ⟨w.heap.size,0,none⟩) n.toNat n.toNat) hw' hle (by simp only[Ae];exact⟨by omega,n.toNat,HB _,by rw[hβ]⟩)
 unfold Oper.wp execOp
 simp only[ho,e1,e2,Sem.run_bind,hrun,Result.andThen_ok]
 exact this
theorem Aac{t:TypeId}{x y:Operand}(ho:o.op=.makeSlice t x y){e:TypeId}{sz by':Nat}{z:Value}(hs:BP P t=some (e,sz,by',some z))(h1:0<sz)(k:Nat)(hk:∀x∈σ.own,x.1≠k){k1 k2:IntKind}{n:Int}(h0:0<=n)(hn:(by':Int)*n<=281474976710656)(hn2:n<=9223372036854775807):
  Ah P o [.v (.int k1 0),.v (.int k2 n)] σ (.acc k []) ⟨σ.H,(k,sz,[])::σ.own⟩:=by
 intro E g a w K Q hw hds hK
 simp only[ho,Op.operands,Ao] at hds
 obtain⟨u,v,eq,h1',h2⟩:=hds
 simp only[HU,I1,HH,Ih] at eq
 obtain⟨e1,e2⟩:=eq
 simp only[Ae,A5] at h1' h2
 subst h1' h2
 obtain⟨i,hu,hi,hsz,hby,hzz⟩:=AA hs
 have hrun:=run_make (P:=P) w t e i z hu hi hzz k1 k2 0 n (HV _) h0 (by rw[hby];exact hn) hn2
 have hrep:repV g.M (.list []) (.slice (some ⟨w.heap.size,0,none⟩) 0 n.toNat):=by rw[AU];exact⟨_,n.toNat,rfl,Ic _,.inl rfl⟩
 obtain⟨hw',hle⟩:=(hw.alloc (.cells (madeCells z.cells (n.toNat*i.size)) e)).addOwn (k:=k) (sz:=sz) (xs:=[]) (u:=.slice (some ⟨w.heap.size,0,none⟩) 0 n.toNat) hk ⟨h1,by simp⟩
  hrep (.inr ⟨w.heap.size,0,0,n.toNat,_,e,rfl,heap_alloc_new w _,Ic _,by rw[size_madeCells,hsz,Io];exact HB _,fun o _=>hw.rep.new_none (HB _) o,hw.rep.gw.new (HB _)⟩) (fun b hb=>by
   simp only[BZ] at hb
   split at hb
   ·simp at hb
   ·simp at hb;subst hb
    exact⟨hw.size,fun i cs hi=>Nat.ne_of_lt (hw.rep.obj_lt hi),fun x hx u' hu' hb'=>by have:=hw.rep.own_lt hx hu' hb';omega⟩)
 have:=hK _ _ _ hw' hle (by simp only[Ae];exact⟨hrep,by simp⟩)
 unfold Oper.wp execOp
 simp only[ho,e1,e2,Sem.run_bind,hrun,Result.andThen_ok]
 exact this
end
def D.plain:D->Bool
 |.v _=>true
 |_=>false
theorem KU{g:Gh}:∀{ds:List D} {xs:List V} {us:List Value},Es ds=some xs->Ac g ds us->EQ g.M xs us
 |[],xs,us,h,hr=>by simp[Es] at h;subst h;simpa[Ac,EQ] using hr
 |d::ds,xs,us,h,hr=>by
  simp only[Es] at h
  split at h
  ·rename_i x xs' hx hxs
   simp at h;subst h
   simp only[Ac] at hr
   obtain⟨u,us',rfl,h2,h3⟩:=hr
   simp only[EQ]
   obtain⟨ws,h4,h5⟩:=Hs hx h2
   exact⟨u,us',ws,rfl,h4,h5,KU hxs h3⟩
  ·simp at h
theorem DM{g:Gh}:∀{xs:List V} {us:List Value},EQ g.M xs us->Ac g (xs.map .v) us
 |[],us,h=>by simpa[Ac,EQ] using h
 |x::xs,us,h=>by
  simp only[EQ] at h
  obtain⟨u,us',ws,rfl,h1,h2,h3⟩:=h
  simp only[HU,Ac,Ae]
  exact⟨u,us',rfl,⟨ws,h1,h2⟩,DM h3⟩
section
variable {P : Program} {o : Oper} {σ : St} {d : D}
theorem PU{f:FuncId}{first captured:Array Operand}(ho:o.op=.makeFunc (.func f) first captured){fs cs:List D}{xs ys:List V}(hl:fs.length=first.size)(hf:Es fs=some xs)(hc:Es cs=some ys):
  Ah P o (fs++cs) σ (.v (.fn f xs ys)) σ:=by
 refine Az fun E g ρ w hw hds=>?_
 simp only[ho,Op.operands,Array.toList_append,IJ] at hds
 have h1:=B8 hds fs.length
 have h2:=BY hds fs.length
 have hl':(first.toList.map ρ).length=fs.length:=by simp[hl]
 rw[List.take_left,List.take_left' hl'] at h1
 rw[List.drop_left,List.drop_left' hl'] at h2
 refine⟨.func (.func f) (first.map ρ) (captured.map ρ),?_,?_⟩
 ·simp[execOp,ho,Instr.makeFunc]
 ·simp only[Ae,FZ]
  exact⟨first.toList.map ρ,captured.toList.map ρ,by simp[←Array.toList_map],KU hf h1,KU hc h2⟩
end
theorem WI.setObjG{E:Ent}{g:Gh}{σ:St}{w w':World}(hw:WI E g σ w){M':Mem}(hle:g.M.le M'){q:Nat}{cs:List D}{oc:Option (List D)}(hq:σ.H[q]?=some (some cs))
  (hb:∀cs',oc=some cs'->∃us rest e,w'.heap[g.β q]?=some (.cells (us++rest).toArray e (0,0))/\Ac { g with M:=M' } cs' us/\(∀c∈cs',c.one=true)/\(∀o,M' (g.β q) o=none)/\(us++rest).length=g.κ q)
  (keep:∀b,b<w.heap.size->b≠g.β q->w'.heap[b]?=w.heap[b]?/\∀o,M' b o=g.M b o) (mem:∀b o v,M' b o=some v->w'.cell? ⟨b,o,none⟩=some v)
  (size:w.heap.size<=w'.heap.size) (os:w'.os=w.os) (tape:w'.tape=w.tape) (output:w'.output=w.output) (drawn:B6 w.drawn w'.drawn:=by first|exact B6.refl _|exact B6.succ _|assumption):
  WI E { g with M:=M' } ⟨σ.H.set q oc,σ.own⟩ w':=by
 have hlg:g.le { g with M:=M' }:=⟨hle,HB _,fun _ _=>rfl,fun _ _ _ h=>h,fun _ _=>rfl⟩
 have split:∀(i:Nat) (cs1:List D),(σ.H.set q oc)[i]?=some (some cs1)->(i=q/\oc=some cs1)∨(i≠q/\σ.H[i]?=some (some cs1)):=by
  intro i cs1 hi
  rw[getElem?_set] at hi
  split at hi
  ·rename_i e;subst e
   split at hi
   ·simp at hi;exact .inl ⟨rfl,hi⟩
   ·simp at hi
  ·rename_i e;exact .inr ⟨fun h=>e h.symm,hi⟩
 have live:∀(i:Nat) (cs1:List D),(σ.H.set q oc)[i]?=some (some cs1)->∃cs2,σ.H[i]?=some (some cs2):=by
  intro i cs1 hi
  rcases split i cs1 hi with⟨rfl,_⟩|⟨_,h⟩
  ·exact⟨cs,hq⟩
  ·exact⟨_,h⟩
 refine hw.update (fun b=>b=g.β q) (fun b e=>by subst e;exact hw.objs q cs hq) (fun b hb hne=>keep b hb hne) hle (HB _) (fun _ _=>rfl) (fun _ _=>rfl) size os tape output ?_ ?_ hw.owns
 ·refine⟨by simp[hw.rep.n],mem,fun i cs1 hi=>?_,fun i j c1 c2 hi hj hij=>?_,fun k sz xs hx=>?_,hw.rep.tags,hw.rep.sep,fun x hx u hu b hb' i cs1 hi=>?_,hw.rep.fresh,hw.rep.gl.mono hle,hw.rep.gw.keepG fun p hp hlt=>(keep p.1 hlt (hw.rep.obj_ng hq p hp)).1⟩
  ·rcases split i cs1 hi with⟨rfl,e⟩|⟨hne,h⟩
   ·exact hb cs1 e
   ·obtain⟨us',rest',e',h2,h3,h4,h5,h6⟩:=hw.rep.obj i cs1 h
    obtain⟨k1,k2⟩:=keep _ (Gt h2) (fun e=>hne (hw.rep.inj i q _ _ h hq e))
    exact⟨us',rest',e',k1.trans h2,Ac.mono hlg _ _ h3,h4,fun o=>(k2 o).trans (h5 o),h6⟩
  ·obtain⟨c3,h3⟩:=live i c1 hi
   obtain⟨c4,h4⟩:=live j c2 hj
   exact hw.rep.inj i j _ _ h3 h4 hij
  ·obtain⟨h0,u,hu,h3,h4,h5⟩:=hw.rep.own k sz xs hx
   refine⟨h0,u,hu,h3.mono hle,h4.kept fun b hb'=>keep b (hw.rep.own_lt hx hu hb') ?_,h5⟩
   exact fun e=>hw.rep.ownObj _ hx u hu b hb' q cs hq e.symm
  ·obtain⟨c3,h3⟩:=live i cs1 hi
   exact hw.rep.ownObj x hx u hu b hb' i c3 h3
 ·intro i cs1 hi
  obtain⟨c3,h3⟩:=live i cs1 hi
  exact hw.objs i c3 h3
mutual
def D.pl:D->Bool
 |.v _=>true
 |.raw _=>true
 |.rv .. =>true
 |.tup ds=>D.pls ds
 |.err=>true
 |.undef=>true
 |_=>false
def D.pls:List D->Bool
 |[]=>true
 |d::ds=>d.pl&&D.pls ds
end
mutual
theorem KX{g g':Gh}(hM:g'.M=g.M):∀{d:D} {u:Value},d.pl=true->Ae g d u->Ae g' d u
 |.v x,u,_,h=>by simp only[Ae] at h⊢;rw[hM];exact h
 |.tup ds,u,hp,h=>by
  simp only[Ae] at h⊢
  obtain⟨us,e,h1⟩:=h
  exact⟨us,e,B2 hM (by simpa[D.pl] using hp) h1⟩
 |.undef,u,_,_=>by simp only[Ae]
 |.raw x,u,_,h=>by simpa only[Ae] using h
 |.err,u,_,h=>by simpa only[Ae] using h
 |.rv x u0,u,_,h=>by simp only[Ae] at h⊢;rw[hM];exact h
 |.acc ..,_,hp,_=>by simp[D.pl] at hp
 |.ptr ..,_,hp,_=>by simp[D.pl] at hp
 |.arr ..,_,hp,_=>by simp[D.pl] at hp
 |.dagg ..,_,hp,_=>by simp[D.pl] at hp
 |.dfn ..,_,hp,_=>by simp[D.pl] at hp
theorem B2{g g':Gh}(hM:g'.M=g.M):∀{ds:List D} {us:List Value},D.pls ds=true->Ac g ds us->Ac g' ds us
 |[],us,_,h=>by simpa[Ac] using h
 |d::ds,us,hp,h=>by
  simp only[D.pls,H5] at hp
  simp only[Ac] at h⊢
  obtain⟨u,us',e,h1,h2⟩:=h
  exact⟨u,us',e,KX hM hp.1 h1,B2 hM hp.2 h2⟩
end
theorem BT(xs:List V):D.pls (xs.map .v)=true:=by induction xs<;>simp_all [D.pls,D.pl]
theorem Db:∀(a b:List D),D.pls (a++b)=(D.pls a&&D.pls b)
 |[],b=>by simp[D.pls]
 |d::a,b=>by simp[D.pls,Db a b,Bool.and_assoc]
section
variable {P : Program} {o : Oper} {σ : St} {d : D}
theorem E4{_E:Ent}{_g:Gh}{a:Act}{w:World}{K:Act->World->Prop}{Q:Exit->Act->World->Prop}{c:Call}{fo:Operand}(ho:o.op=.call c)(hc:c.callee=.value fo){f:FuncId}(hcall:Su P f){us vs ws:List Value}
  (hf:a.eval fo=.func (.func f) us.toArray vs.toArray) (hargs:c.args.toList.map a.eval=ws)
  (h:Calls P f (us++ws++vs).toArray w fun e w'=>∃u,e=.returned u/\K (a.put o.dst u) w'):o.wp P a w K Q:=by
 obtain⟨fn,h1,h2,h3⟩:=hcall
 have hargs':c.args.map a.eval=ws.toArray:=by apply I6;simpa using hargs
 unfold Oper.wp execOp
 simp only[ho,resolve,hc,hf,hargs',Deferred.ofValue,Sem.run_bind,Sem.run_pure,Result.andThen_ok,invoke,callFunc,run_program,h1,h2,h3,Jj,if_false]
 have e:us.toArray++ws.toArray++vs.toArray=(us++ws++vs).toArray:=by simp
 rw[e]
 refine Calls.mono h fun e w' he=>?_
 obtain⟨u,rfl,hk⟩:=he
 exact hk
theorem CE{g:Gh}{a:Act}{c:Call}{fo:Operand}(ho:o.op=.call c)(hc:c.callee=.value fo){f:FuncId}{fs cs:List V}{ds:List D}(h:Ac g (.v (.fn f fs cs)::ds) (o.op.operands.toList.map a.eval)):
  ∃us vs ws,a.eval fo=.func (.func f) us.toArray vs.toArray/\c.args.toList.map a.eval=ws/\Ac g (fs.map .v) us/\Ac g (cs.map .v) vs/\Ac g ds ws:=by
 simp only[ho,Op.operands,Call.operands,hc] at h
 have h':Ac g (.v (.fn f fs cs)::ds) (a.eval fo::c.args.toList.map a.eval):=by simpa using h
 simp only[Ac] at h'
 obtain⟨u,us',e,h1,h2⟩:=h'
 simp only[HH] at e
 obtain⟨e1,e2⟩:=e
 simp only[Ae,FZ] at h1
 obtain⟨us,vs,e3,h3,h4⟩:=h1
 exact⟨us,vs,us',e1.trans e3,e2,DM h3,DM h4,h2⟩
theorem WRep.empty{g:Gh}{w:World}(h:WRep g σ w):WRep { M:=g.M,β:=g.β,n:=0,ι:=fun _ _=>none,κ:=g.κ } ⟨[],[]⟩ w where
 n:=rfl
 mem:=h.mem
 gl:=h.gl
 gw:=h.gw
 obj:=fun i cs hi=>by simp at hi
 inj:=fun i j cs ds hi=>by simp at hi
 own:=fun k sz xs hx=>by simp at hx
 tags:=by simp
 sep:=fun x hx=>by simp at hx
 ownObj:=fun x hx=>by simp at hx
 fresh:=fun _ _ _=>rfl
theorem Eh{g:Gh}{w:World}{b:Nat}:¬Ent.priv ⟨g,w,⟨[],[]⟩⟩ b:=by
 rintro (⟨i,cs,h,_⟩|⟨x,h,_⟩)
 ·simp at h
 ·simp at h
theorem WI.back0{E:Ent}{g gc gc':Gh}{w w':World}{σc':St}(hw:WI E g σ w)(hM:gc.M=g.M)(h:WI ⟨gc,w,⟨[],[]⟩⟩ gc' σc' w'):WI E { g with M:=gc'.M } σ w'/\g.le { g with M:=gc'.M }:=by
 have hle:g.M.le gc'.M:=by rw[←hM];exact h.M
 refine⟨hw.grow hle (fun b hb=>?_) h.rep.mem h.size h.os h.tape h.output (drawn:=h.drawn),⟨hle,HB _,fun _ _=>rfl,fun _ _ _ h=>h,fun _ _=>rfl⟩⟩
 obtain⟨h1,h2⟩:=h.keep b hb Eh
 exact⟨h1,fun o=>by rw[h2 o];simp only[hM]⟩
theorem MS{c:Call}{fo:Operand}(ho:o.op=.call c)(hc:c.callee=.value fo){f:FuncId}{fs cs:List V}{ds:List D}(hp:D.pls ds=true)(hd:d.pl=true)
  (hspec:Aa P f (fs.map .v++ds++cs.map .v) ⟨[],[]⟩ d ⟨[],[]⟩):Ah P o (.v (.fn f fs cs)::ds) σ d σ:=by
 intro E g a w K Q hw hds hK
 obtain⟨us,vs,ws,hf,hargs,h1,h2,h3⟩:=CE ho hc hds
 refine E4 (_E:=E) (_g:=g) ho hc hspec.1 hf hargs ?_
 have hargs':Ac { M:=g.M,β:=g.β,n:=0,ι:=fun _ _=>none,κ:=g.κ } (fs.map .v++ds++cs.map .v) (us++ws++vs):=
  B2 (by rfl) (by simp[Db,BT,hp]) (Ap (Ap h1 h3) h2)
 refine Calls.mono (hspec.2 _ w _ hw.rep.empty hargs') ?_
 rintro e w' ⟨u,g',rfl,hw',hr⟩
 obtain⟨h4,h5⟩:=hw.back0 (by rfl) hw'
 exact⟨u,rfl,hK _ _ _ h4 h5 (KX (by rfl) hd hr)⟩
theorem JQ{c:Call}{fo:Operand}(ho:o.op=.call c)(hc:c.callee=.value fo){f:FuncId}{fs cs:List V}{ds:List D}(hp:D.pls ds=true){k' sz:Nat}{xs:List V}(k:Nat)(hk:∀x∈σ.own,x.1≠k)
  (hspec:Aa P f (fs.map .v++ds++cs.map .v) ⟨[],[]⟩ (.acc k' xs) ⟨[],[(k',sz,xs)]⟩):Ah P o (.v (.fn f fs cs)::ds) σ (.acc k xs) ⟨σ.H,(k,sz,xs)::σ.own⟩:=by
 intro E g a w K Q hw hds hK
 obtain⟨us,vs,ws,hf,hargs,h1,h2,h3⟩:=CE ho hc hds
 refine E4 (_E:=E) (_g:=g) ho hc hspec.1 hf hargs ?_
 have hargs':Ac { M:=g.M,β:=g.β,n:=0,ι:=fun _ _=>none,κ:=g.κ } (fs.map .v++ds++cs.map .v) (us++ws++vs):=
  B2 (by rfl) (by simp[Db,BT,hp]) (Ap (Ap h1 h3) h2)
 refine Calls.mono (hspec.2 _ w _ hw.rep.empty hargs') ?_
 rintro e w' ⟨u,g',rfl,hw',hr⟩
 obtain⟨h4,h5⟩:=hw.back0 (by rfl) hw'
 simp only[Ae] at hr
 obtain⟨hsz,u',hu',hr',hp',_⟩:=hw'.rep.own k' sz xs (by simp)
 obtain rfl:u=u':=by rw[hr.2] at hu';simpa using hu'
 obtain⟨h6,h7⟩:=h4.addOwn (k:=k) (sz:=sz) (xs:=xs) (u:=u) hk hsz hr' hp' (fun b hb=>by
  rcases hw'.owns (k',sz,xs) (by simp) u hr.2 b hb with h|h
  ·refine⟨Iz hw.size h,fun i cs hi=>?_,fun x hx v hv hvb=>?_⟩
   ·have:=hw.rep.obj_lt hi;simp only at h⊢;omega
   ·have:=hw.rep.own_lt hx hv hvb;simp only at h;omega
  ·exact absurd h Eh)
 exact⟨u,rfl,hK _ _ _ h6 (Gh.le_trans h5 h7) (by simp only[Ae];exact⟨hr',by simp⟩)⟩
inductive Er (q:Nat):List D->List D->Prop
 |nil:Er q [] []
 |pl {d:D} {ds dc:List D} (hp:d.pl=true) (h:Er q ds dc):Er q (d::ds) (d::dc)
 |ptr {off:Nat} {ds dc:List D} (h:Er q ds dc):Er q (.ptr q off::ds) (.ptr 0 off::dc)
 |arr {off len:Nat} {ds dc:List D} (h:Er q ds dc):Er q (.arr q off len::ds) (.arr 0 off len::dc)
theorem Er.rep{q:Nat}{g gc:Gh}(hM:gc.M=g.M)(hβ:gc.β 0=g.β q)(hn:0<gc.n):∀{ds dc:List D},Er q ds dc->∀{us:List Value},Ac g ds us->Ac gc dc us
 |_,_,.nil,us,h=>by simpa[Ac] using h
 |_,_,.pl hp h',us,h=>by
  simp only[Ac] at h⊢
  obtain⟨u,us',e,h1,h2⟩:=h
  exact⟨u,us',e,KX hM hp h1,Er.rep hM hβ hn h' h2⟩
 |_,_,.ptr h',us,h=>by
  simp only[Ac] at h⊢
  obtain⟨u,us',e,h1,h2⟩:=h
  refine⟨u,us',e,?_,Er.rep hM hβ hn h' h2⟩
  simp only[Ae] at h1⊢
  exact⟨hn,by rw[hβ];exact h1.2⟩
 |_,_,.arr h',us,h=>by
  simp only[Ac] at h⊢
  obtain⟨u,us',e,h1,h2⟩:=h
  refine⟨u,us',e,?_,Er.rep hM hβ hn h' h2⟩
  simp only[Ae] at h1⊢
  exact⟨hn,by rw[hβ];exact h1.2⟩
theorem WRep.one{g:Gh}{w:World}(h:WRep g σ w){q:Nat}{cs:List D}(hq:σ.H[q]?=some (some cs))(hp:D.pls cs=true):WRep { M:=g.M,β:=fun _=>g.β q,n:=1,ι:=fun _ _=>none,κ:=fun _=>g.κ q } ⟨[some cs],[]⟩ w where
 n:=rfl
 mem:=h.mem
 gl:=h.gl
 gw:=h.gw
 obj:=fun i cs' hi=>by
  cases i with
  |zero=>
   simp at hi;subst hi
   obtain⟨us,rest,e,hb,hr,h1,hM,hκ⟩:=h.obj q cs hq
   exact⟨us,rest,e,hb,B2 (by rfl) hp hr,h1,hM,hκ⟩
  |succ i=>simp at hi
 inj:=fun i j cs1 cs2 hi hj _=>by
  cases i with
  |zero=>
   cases j with
   |zero=>rfl
   |succ j=>simp at hj
  |succ i=>simp at hi
 own:=fun k sz xs hx=>by simp at hx
 tags:=by simp
 sep:=fun x hx=>by simp at hx
 ownObj:=fun x hx=>by simp at hx
 fresh:=fun _ _ _=>rfl
theorem Rg{M:Mem}{b0:Nat}{w:World}{b:Nat}{ι:Nat->Nat->Option Value}{κ:Nat->Nat}{cs:List D}(h:Ent.priv ⟨{ M,β:=fun _=>b0,n:=1,ι,κ },w,⟨[some cs],[]⟩⟩ b):b=b0:=by
 rcases h with⟨i,cs',hi,e⟩|⟨x,hx,_⟩
 ·exact e
 ·simp at hx
theorem WI.back1{E:Ent}{g g':Gh}{w w':World}{q:Nat}{cs cs':List D}{own':List (Nat×Nat×List V)}(hw:WI E g σ w)(hq:σ.H[q]?=some (some cs))(hp':D.pls cs'=true)
  (h:WI ⟨{ M:=g.M,β:=fun _=>g.β q,n:=1,ι:=fun _ _=>none,κ:=fun _=>g.κ q },w,⟨[some cs],[]⟩⟩ g' ⟨[some cs'],own'⟩ w'):WI E { g with M:=g'.M } ⟨σ.H.set q (some cs'),σ.own⟩ w'/\g.le { g with M:=g'.M }:=by
 refine⟨hw.setObjG h.M hq (fun c hc=>?_) (fun b hb hne=>?_) h.rep.mem h.size h.os h.tape h.output (drawn:=h.drawn),⟨h.M,HB _,fun _ _=>rfl,fun _ _ _ h=>h,fun _ _=>rfl⟩⟩
 ·simp at hc;subst hc
  obtain⟨us,rest,e,hb,hr,h1,hM,hκ⟩:=h.rep.obj 0 cs' (by simp)
  have hβ:g'.β 0=g.β q:=h.βE 0 (by simp)
  have hκ':g'.κ 0=g.κ q:=h.κE 0 (by simp)
  rw[hβ] at hb hM
  exact⟨us,rest,e,hb,B2 (by rfl) hp' hr,h1,hM,hκ.trans hκ'⟩
 ·exact h.keep b hb (fun hpr=>hne (Rg hpr))
theorem MR{c:Call}{fo:Operand}(ho:o.op=.call c)(hc:c.callee=.value fo){f:FuncId}{fs cs:List V}{ds dc:List D}{q:Nat}{os os':List D}(hq:σ.H[q]?=some (some os))(hos:D.pls os=true)(hos':D.pls os'=true)(ha:Er q ds dc)(hd:d.pl=true)
  (hspec:Aa P f (fs.map .v++dc++cs.map .v) ⟨[some os],[]⟩ d ⟨[some os'],[]⟩):Ah P o (.v (.fn f fs cs)::ds) σ d ⟨σ.H.set q (some os'),σ.own⟩:=by
 intro E g a w K Q hw hds hK
 obtain⟨us,vs,ws,hf,hargs,h1,h2,h3⟩:=CE ho hc hds
 refine E4 (_E:=E) (_g:=g) ho hc hspec.1 hf hargs ?_
 have hargs':Ac { M:=g.M,β:=fun _=>g.β q,n:=1,ι:=fun _ _=>none,κ:=fun _=>g.κ q } (fs.map .v++dc++cs.map .v) (us++ws++vs):=
  Ap (Ap (B2 (by rfl) (BT fs) h1) (Er.rep (q:=q) (g:=g) (by rfl) (by rfl) (by simp) ha h3)) (B2 (by rfl) (BT cs) h2)
 refine Calls.mono (hspec.2 _ w _ (hw.rep.one hq hos) hargs') ?_
 rintro e w' ⟨u,g',rfl,hw',hr⟩
 obtain⟨h4,h5⟩:=hw.back1 hq hos' hw'
 exact⟨u,rfl,hK _ _ _ h4 h5 (KX (by rfl) hd hr)⟩
theorem O7{c:Call}{fo:Operand}(ho:o.op=.call c)(hc:c.callee=.value fo){f:FuncId}{fs cs:List V}{ds dc:List D}{q:Nat}{os os':List D}(hq:σ.H[q]?=some (some os))(hos:D.pls os=true)(hos':D.pls os'=true)(ha:Er q ds dc)
  {k' sz:Nat} {xs:List V} (k:Nat) (hk:∀x∈σ.own,x.1≠k) (hspec:Aa P f (fs.map .v++dc++cs.map .v) ⟨[some os],[]⟩ (.acc k' xs) ⟨[some os'],[(k',sz,xs)]⟩):
  Ah P o (.v (.fn f fs cs)::ds) σ (.acc k xs) ⟨σ.H.set q (some os'),(k,sz,xs)::σ.own⟩:=by
 intro E g a w K Q hw hds hK
 obtain⟨us,vs,ws,hf,hargs,h1,h2,h3⟩:=CE ho hc hds
 refine E4 (_E:=E) (_g:=g) ho hc hspec.1 hf hargs ?_
 have hargs':Ac { M:=g.M,β:=fun _=>g.β q,n:=1,ι:=fun _ _=>none,κ:=fun _=>g.κ q } (fs.map .v++dc++cs.map .v) (us++ws++vs):=
  Ap (Ap (B2 (by rfl) (BT fs) h1) (Er.rep (q:=q) (g:=g) (by rfl) (by rfl) (by simp) ha h3)) (B2 (by rfl) (BT cs) h2)
 refine Calls.mono (hspec.2 _ w _ (hw.rep.one hq hos) hargs') ?_
 rintro e w' ⟨u,g',rfl,hw',hr⟩
 obtain⟨h4,h5⟩:=hw.back1 hq hos' hw'
 simp only[Ae] at hr
 obtain⟨hsz,u',hu',hr',hp',_⟩:=hw'.rep.own k' sz xs (by simp)
 obtain rfl:u=u':=by rw[hr.2] at hu';simpa using hu'
 have hβ:g'.β 0=g.β q:=hw'.βE 0 (by simp)
 obtain⟨h6,h7⟩:=h4.addOwn (k:=k) (sz:=sz) (xs:=xs) (u:=u) hk hsz hr' hp' (fun b hb=>by
  have hne:g'.β 0≠b:=hw'.rep.ownObj (k',sz,xs) (by simp) u hr.2 b hb 0 os' (by simp)
  rcases hw'.owns (k',sz,xs) (by simp) u hr.2 b hb with h|h
  ·refine⟨Iz hw.size h,fun i cs hi=>?_,fun x hx v hv hvb=>?_⟩
   ·obtain⟨cs2,hc2⟩:∃cs2,σ.H[i]?=some (some cs2):=by
     rw[getElem?_set] at hi
     split at hi
     ·rename_i e;subst e;exact⟨_,hq⟩
     ·exact⟨_,hi⟩
    have:=hw.rep.obj_lt hc2;simp only at h⊢;omega
   ·have:=hw.rep.own_lt hx hv hvb;simp only at h;omega
  ·exact absurd (Rg h) (fun e=>hne (by rw[hβ,e])))
 exact⟨u,rfl,hK _ _ _ h6 (Gh.le_trans h5 h7) (by simp only[Ae];exact⟨hr',by simp⟩)⟩
end
theorem WI.restrict{E:Ent}{g:Gh}{σ σ':St}{w:World}(hw:WI E g σ w){m:Nat}(hH:σ'.H=σ.H.take m)(hm:m<=σ.H.length)(hE:E.g.n<=m)(hc:∀(i:Nat) (cs:List D),σ'.H[i]?=some (some cs)->D.pls cs=true)(hown:σ'.own.Sublist σ.own):
  WI E { g with n:=m,ι:=fun k j=>if k∈σ'.own.map (·.1) then g.ι k j else none } σ' w:=by
 have get:∀(i:Nat) (cs:List D),σ'.H[i]?=some (some cs)->σ.H[i]?=some (some cs)/\i<m:=by
  intro i cs hi
  rw[hH,IQ] at hi
  split at hi
  ·exact⟨hi,by assumption⟩
  ·simp at hi
 have hι:∀x∈σ'.own,(if x.1∈σ'.own.map (·.1) then g.ι x.1 x.2.2.length else none)=g.ι x.1 x.2.2.length:=fun x hx=>HP (Il.2 ⟨x,hx,rfl⟩)
 refine{ rep:=⟨?_,hw.rep.mem,fun i cs hi=>?_,fun i j cs ds hi hj=>hw.rep.inj i j cs ds (get i cs hi).1 (get j ds hj).1,fun k sz xs hx=>?_,?_,fun x hx y hy hne u u' hu hu' b hb=>?_,fun x hx u hu b hb i cs hi=>?_,fun k hk j=>?_,hw.rep.gl,hw.rep.gw⟩,M:=hw.M,size:=hw.size,keep:=hw.keep,os:=hw.os,tape:=hw.tape,output:=hw.output,nE:=hE,βE:=fun o ho=>hw.βE o ho,κE:=fun o ho=>hw.κE o ho,objs:=fun i cs hi=>hw.objs i cs (get i cs hi).1,owns:=fun x hx u hu b hb=>?_,drawn:=hw.drawn }
 ·simp[hH];omega
 ·obtain⟨us,rest,e,h1,h2,h3,h4⟩:=hw.rep.obj i cs (get i cs hi).1
  exact⟨us,rest,e,h1,B2 (by rfl) (hc i cs hi) h2,h3,h4⟩
 ·obtain⟨h0,u,hu,h1,h2,h3⟩:=hw.rep.own k sz xs (hown.subset hx)
  refine⟨h0,u,(hι _ hx).trans hu,h1,h2,fun j hj=>?_⟩
  simp only
  split
  ·exact h3 j hj
  ·rfl
 ·exact(hown.map _).nodup hw.rep.tags
 ·exact hw.rep.sep x (hown.subset hx) y (hown.subset hy) hne u u' ((hι x hx).symm.trans hu) ((hι y hy).symm.trans hu') b hb
 ·exact hw.rep.ownObj x (hown.subset hx) u ((hι x hx).symm.trans hu) b hb i cs (get i cs hi).1
 ·simp only
  rw[HL]
  intro h
  obtain⟨x,hx,e⟩:=Il.1 h
  exact hk x hx e
 ·exact hw.owns x (hown.subset hx) u ((hι x hx).symm.trans hu) b hb
inductive Hl (P:Program) (env:List D) (σ:St):List ResultVar->List D->Prop
 |nil:Hl P env σ [] []
 |tmp {t:Tmp} {d:D} {rs:List ResultVar} {ds:List D} (h:env[t]?=some d) (hr:Hl P env σ rs ds):Hl P env σ (.tmp t::rs) (d::ds)
 |cellA {a:Tmp} {t:TypeId} {q off n:Nat} {cs:List D} {xs:List V} {rs:List ResultVar} {ds:List D} (h:env[a]?=some (.ptr q off)) (hH:σ.H[q]?=some (some cs)) (ht:Q6 P t n) (hn:off+n<=cs.length)
   (hc:Es ((cs.drop off).take n)=some xs) (hr:Hl P env σ rs ds):Hl P env σ (.cell a t::rs) (.v (.agg xs)::ds)
 |cell1 {a:Tmp} {t:TypeId} {q off:Nat} {cs:List D} {d:D} {rs:List ResultVar} {ds:List D} (h:env[a]?=some (.ptr q off)) (hH:σ.H[q]?=some (some cs)) (ht:NK P t) (hc:cs[off]?=some d) (hr:Hl P env σ rs ds):
   Hl P env σ (.cell a t::rs) (d::ds)
 |cellD {a:Tmp} {t:TypeId} {q off n:Nat} {cs:List D} {rs:List ResultVar} {ds:List D} (h:env[a]?=some (.ptr q off)) (hH:σ.H[q]?=some (some cs)) (ht:Q6 P t n) (hn:off+n<=cs.length) (hr:Hl P env σ rs ds):
   Hl P env σ (.cell a t::rs) (.dagg ((cs.drop off).take n)::ds)
theorem Nt{g:Gh}{env:List D}{a:Act}(h:Ac g env a.tmps.toList){t:Nat}{d:D}(hd:env[t]?=some d):Ae g d (a.tmps.getD t undef):=by
 have:=ER h t
 simpa[evD,HC,hd,Act.eval] using this
def AeB(tmps:Array Value):ResultVar->Sem Value
 |.tmp t=>pure (tmps.getD t undef)
 |.cell a t=>do loadVar t (←asAddr (tmps.getD a undef))
theorem J0(fn:Func)(tmps:Array Value):results fn tmps=(do let vs ←fn.results.mapM (AeB tmps);pure (if h:vs.size=1 then vs[0] else .tuple vs)):=by
 unfold results
 rfl
theorem Hl.run{P:Program}{env:List D}{σ:St}{E:Ent}{g:Gh}{a:Act}{w:World}(hf:FI E g σ env a w):∀{rs:List ResultVar} {ds:List D},Hl P env σ rs ds->
  ∃us,(rs.mapM (AeB a.tmps)).run P w=.ok us w/\Ac g ds us
 |_,_,.nil=>⟨[],by simp,by simp[Ac]⟩
 |_,_,.tmp (t:=t) h hr=>by
  obtain⟨us,h1,h2⟩:=Hl.run hf hr
  refine⟨a.tmps.getD t undef::us,?_,?_⟩
  ·rw[List.mapM_cons]
   simp only[AeB,Sem.run_bind,Sem.run_pure,Result.andThen_ok,h1]
  ·simp only[Ac];exact⟨_,us,rfl,Nt hf.env h,h2⟩
 |_,_,.cellA (n:=n) (cs:=cs) (off:=off) (q:=q) h hH ht hn hc hr=>by
  obtain⟨us,h1,h2⟩:=Hl.run hf hr
  have hp:=Nt hf.env h
  simp only[Ae] at hp
  obtain⟨us',rest',et,hb,hrr,hone,_⟩:=hf.wi.rep.obj q cs hH
  have hra:=JZ hc (B8 (BY hrr off) n) (fun c hc'=>hone c (Iu (IK hc')))
  have hl:us'.length=cs.length:=A4 hrr
  have hld:=run_loadCells_list (P:=P) w ⟨g.β q,off,none⟩ ((us'.drop off).take n) (fun j v hj=>by
   rw[IQ] at hj
   split at hj
   ·rw[getElem?_drop] at hj
    rw[Addr.add_lit]
    simp only[World.cell?,hb,I7];exact Ea hj
   ·simp at hj)
  have hlen:((us'.drop off).take n).length=n:=by simp;omega
  rw[hlen] at hld
  refine⟨.agg ((us'.drop off).take n).toArray::us,?_,?_⟩
  ·rw[List.mapM_cons]
   simp only[AeB,Sem.run_bind,Sem.run_pure,Result.andThen_ok,hp.2,asAddr,loadVar,C1 ht,run_sizeOf' ht,hld,IC,h1]
  ·simp only[Ac,Ae,Cr];exact⟨_,us,rfl,⟨_,hra,rfl⟩,h2⟩
 |_,_,.cell1 (cs:=cs) (off:=off) (q:=q) h hH ht hc hr=>by
  obtain⟨us,h1,h2⟩:=Hl.run hf hr
  have hp:=Nt hf.env h
  simp only[Ae] at hp
  obtain⟨us',rest',et,hb,hrr,hone,_⟩:=hf.wi.rep.obj q cs hH
  obtain⟨u',hu,hd⟩:=B9 hrr hc
  have hcell:w.cell? ⟨g.β q,off,none⟩=some u':=by simp only[World.cell?,hb,I7];exact Ea hu
  refine⟨u'::us,?_,?_⟩
  ·rw[List.mapM_cons]
   simp only[AeB,Sem.run_bind,hp.2,asAddr,Sem.run_pure,Result.andThen_ok,loadVar,C1 ht,Jj,if_false,run_load,hcell,h1]
  ·simp only[Ac];exact⟨u',us,rfl,hd,h2⟩
 |_,_,.cellD (n:=n) (cs:=cs) (off:=off) (q:=q) h hH ht hn hr=>by
  obtain⟨us,h1,h2⟩:=Hl.run hf hr
  have hp:=Nt hf.env h
  simp only[Ae] at hp
  obtain⟨us',rest',et,hb,hrr,hone,_⟩:=hf.wi.rep.obj q cs hH
  have hra:=B8 (BY hrr off) n
  have hl:us'.length=cs.length:=A4 hrr
  have hld:=run_loadCells_list (P:=P) w ⟨g.β q,off,none⟩ ((us'.drop off).take n) (fun j v hj=>by
   rw[IQ] at hj
   split at hj
   ·rw[getElem?_drop] at hj
    rw[Addr.add_lit]
    simp only[World.cell?,hb,I7];exact Ea hj
   ·simp at hj)
  have hlen:((us'.drop off).take n).length=n:=by simp;omega
  rw[hlen] at hld
  refine⟨.agg ((us'.drop off).take n).toArray::us,?_,?_⟩
  ·rw[List.mapM_cons]
   simp only[AeB,Sem.run_bind,Sem.run_pure,Result.andThen_ok,hp.2,asAddr,loadVar,C1 ht,run_sizeOf' ht,hld,IC,h1]
  ·simp only[Ac,Ae];exact⟨_,us,rfl,⟨_,rfl,hra⟩,h2⟩
def SS:List D->D
 |[d]=>d
 |ds=>.tup ds
section
variable {C : Ent -> Ent -> Prop} {P : Program} {R : List D -> St -> Prop} {k : List KI} {env : List D} {σ : St}
theorem F4:∀xs:List V,Es (xs.map .v)=some xs
 |[]=>rfl
 |x::xs=>by simp[Es,D.toV,F4 xs]
end
def GV(acc:List Nat)(o:Oper):Nat:=o.after.toList.foldl (fun s e=>if Region.binds .any e then s|||2^e.on|||acc.getD e.on 0 else s) 0
def Ep:List Nat->List Oper->List Nat
 |acc,[]=>acc
 |acc,o::os=>Ep (acc++[GV acc o]) os
theorem Md(acc:List Nat)(i:Nat):∀(es:List Edge) (s:Nat),(es.foldl (fun s e=>if Region.binds .any e then s|||2^e.on|||acc.getD e.on 0 else s) s).testBit i=true->
  s.testBit i=true∨∃e∈es,Region.binds .any e=true/\(i=e.on∨(acc.getD e.on 0).testBit i=true)
 |[],s,h=>.inl h
 |e::es,s,h=>by
  simp only[IG] at h
  rcases Md acc i es _ h with h|⟨e',he,hb,hi⟩
  ·split at h
   ·rename_i hb
    simp only[Nat.testBit_or,Bool.or_eq_true] at h
    rcases h with(h|h)|h
    ·exact .inl h
    ·refine .inr ⟨e,by simp,hb,.inl ?_⟩
     rw[Nat.testBit_two_pow] at h
     simpa using(HF h).symm
    ·exact .inr ⟨e,by simp,hb,.inr h⟩
   ·exact .inl h
  ·exact .inr ⟨e',by simp[he],hb,hi⟩
def DC(ops:Array Oper)(S:Nat->Bool):Prop:=∀i o,ops[i]?=some o->S i=true->∀e∈o.after,Region.binds .any e=true->S e.on=true
def Ajc(acc:List Nat)(S:Nat->Bool):Prop:=∀j m,acc[j]?=some m->S j=true->∀i,m.testBit i=true->S i=true
theorem OL{acc:List Nat}{S:Nat->Bool}{o:Oper}(hg:Ajc acc S)(hd:∀e∈o.after,Region.binds .any e=true->S e.on=true):∀i,(GV acc o).testBit i=true->S i=true:=by
 intro i hi
 rcases Md acc i _ _ hi with h|⟨e,he,hb,h⟩
 ·simp at h
 ·have hs:=hd e (by simpa using he) hb
  rcases h with rfl|h
  ·exact hs
  ·cases hm:acc[e.on]? with
   |none=>simp[HC,hm] at h
   |some m=>
    rw[HC,hm] at h
    exact hg e.on m hm hs i h
theorem Qh{ops:Array Oper}{S:Nat->Bool}(hdc:DC ops S):∀(os:List Oper) (acc:List Nat),(∀k,os[k]?=ops[acc.length+k]?)->Ajc acc S->Ajc (Ep acc os) S
 |[],acc,_,hg=>hg
 |o::os,acc,ha,hg=>by
  simp only[Ep]
  refine Qh hdc os _ (fun k=>?_) ?_
  ·have:=ha (k+1)
   simp only[HI,List.length_singleton]
   rw[show acc.length+1+k=acc.length+(k+1) by omega]
   simpa using this
  ·intro j m hj hs i hi
   by_cases hlt:j<acc.length
   ·rw[HQ hlt] at hj
    exact hg j m hj hs i hi
   ·have hj':j=acc.length:=by
     have:=(H7.1 hj).1
     simp at this;omega
    subst hj'
    rw[HN (HB _)] at hj
    simp at hj
    subst hj
    have ho:ops[acc.length]?=some o:=by have:=ha 0;simpa using this.symm
    exact OL hg (hdc _ o ho hs) i hi
theorem Mz:∀(os:List Oper) (acc:List Nat),∃r,Ep acc os=acc++r
 |[],acc=>⟨[],by simp[Ep]⟩
 |o::os,acc=>by
  obtain⟨r,h⟩:=Mz os (acc++[GV acc o])
  exact⟨GV acc o::r,by simp[Ep,h]⟩
theorem Sg:∀(os:List Oper) (acc:List Nat) (k:Nat) (o:Oper),os[k]?=some o->∃acc',(Ep acc os)[acc.length+k]?=some (GV acc' o)/\∃r,Ep acc os=acc'++r
 |[],acc,k,o,h=>by simp at h
 |o0::os,acc,k,o,h=>by
  simp only[Ep]
  cases k with
  |zero=>
   simp at h;subst h
   obtain⟨r,hr⟩:=Mz os (acc++[GV acc o0])
   refine⟨acc,?_,GV acc o0::r,by rw[hr];simp⟩
   rw[hr];simp
  |succ k=>
   simp at h
   obtain⟨acc',h1,h2⟩:=Sg os (acc++[GV acc o0]) k o h
   refine⟨acc',?_,h2⟩
   simp only[HI,List.length_singleton] at h1
   rw[show acc.length+(k+1)=acc.length+1+k by omega]
   exact h1
theorem Oq{ops:Array Oper}{S:Nat->Bool}(hdc:DC ops S){j:Nat}{o:Oper}(ho:ops[j]?=some o)(hr:∀e∈o.after,Region.binds .any e=true->S e.on=true):
  ∀i,((Ep [] ops.toList).getD j 0).testBit i=true->S i=true:=by
 intro i hi
 obtain⟨acc',h1,r,h2⟩:=Sg ops.toList [] j o (by simpa using ho)
 simp only[HD,Io] at h1
 rw[HC,h1] at hi
 have hg:=Qh hdc ops.toList [] (fun k=>by simp) (fun j m hj=>by simp at hj)
 rw[h2] at hg
 exact OL (acc:=acc') (fun j m hj=>hg j m (by rw[HQ (H7.1 hj).1];exact hj)) hr i hi
theorem Np{ops:Array Oper}{S:Nat->Bool}(hdc:DC ops S){j:Nat}(hs:S j=true):∀i,((Ep [] ops.toList).getD j 0).testBit i=true->S i=true:=by
 intro i hi
 have hg:=Qh hdc ops.toList [] (fun k=>by simp) (fun j m hj=>by simp at hj)
 cases hm:(Ep [] ops.toList)[j]? with
 |none=>simp[HC,hm] at hi
 |some m=>
  rw[HC,hm] at hi
  exact hg j m hm hs i hi
def Gj(ops:Array Oper)(o:Oper):List Tmp:=
 (o.op.operands.toList.filterMap fun|.tmp t=>some t|_=>none)++(match o.guard with|some (j,_)=>((ops[j]?).bind (·.dst)).toList|none=>[])
def Qr(ops:Array Oper)(x y:Oper):Bool:=
 (match x.dst with|some t=>(Gj ops y).contains t||y.dst==some t|none=>false)||(match y.dst with|some t=>(Gj ops x).contains t|none=>false)
def VG(ops:Array Oper)(effs:List Bool):Bool:=
 let b:=Ep [] ops.toList
 (List.range ops.size).all fun j=>
  match ops[j]? with
  |none=>false
  |some oj=>
   oj.after.all (fun e=> !Region.binds .any e||decide (e.on<j))&&
   (List.range j).all fun i=>
    match ops[i]? with
    |none=>false
    |some oi=> !(Qr ops oi oj||(effs.getD i false&&effs.getD j false))||(b.getD j 0).testBit i
theorem SP{ops:Array Oper}{effs:List Bool}(h:VG ops effs=true){j:Nat}{o:Oper}(ho:ops[j]?=some o):∀e∈o.after,Region.binds .any e=true->e.on<j:=by
 intro e he hb
 have hlt:j<ops.size:=(Iy.1 ho).1
 have h1:=Ip.1 h j (by simpa using hlt)
 simp only[ho,H5] at h1
 have h2:=Array.all_eq_true_iff_forall_mem.1 h1.1 e he
 simpa[hb] using h2
theorem KZ{ops:Array Oper}{effs:List Bool}(h:VG ops effs=true){i j:Nat}{oi oj:Oper}(hi:ops[i]?=some oi)(hj:ops[j]?=some oj)(hij:i<j)(hc:Qr ops oi oj=true∨(effs.getD i false=true/\effs.getD j false=true)):
  ((Ep [] ops.toList).getD j 0).testBit i=true:=by
 have hlt:j<ops.size:=(Iy.1 hj).1
 have h1:=Ip.1 h j (by simpa using hlt)
 simp only[hj,H5] at h1
 have h2:=Ip.1 h1.2 i (by simpa using hij)
 simp only[hi,Bool.or_eq_true,Iv] at h2
 rcases h2 with h2|h2
 ·rcases hc with hc|⟨hc1,hc2⟩
  ·simp[hc] at h2
  ·simp only[hc1,hc2,Bool.and_self,Bool.or_true] at h2
   exact absurd h2 (by simp)
 ·exact h2
abbrev It:=Option Tmp×D×Bool
def Ck(S:Nat->Bool)(e:List D)(x:It×Nat):List D:=if S x.2 then AN e x.1.1 x.1.2.1 else e
def Xo(items:List It)(S:Nat->Bool)(env0:List D):List D:=(items.zipIdx 0).foldl (Ck S) env0
def Ce(S:Nat->Bool)(c:Nat)(x:It×Nat):Nat:=if S x.2&&x.1.2.2 then c+1 else c
def RT(items:List It)(S:Nat->Bool):Nat:=(items.zipIdx 0).foldl (Ce S) 0
theorem Rd{e:List D}{t:Option Tmp}{d:D}(s:Nat):(AN e t d)[s]?=if t=some s then(e[s]?).map (fun _=>d) else e[s]?:=by
 cases t with
 |none=>simp[AN]
 |some t=>
  simp only[AN,getElem?_set,Ia]
  by_cases h:t=s
  ·subst h
   simp only[IC]
   by_cases hl:t<e.length<;>simp[hl]
  ·simp[h]
theorem GZ{S S':Nat->Bool}{t:Tmp}:∀(l:List (It×Nat)) (e e':List D),(∀x∈l,x.1.1=some t->S x.2=S' x.2)->e[t]?=e'[t]?->(l.foldl (Ck S) e)[t]?=(l.foldl (Ck S') e')[t]?
 |[],e,e',_,h=>h
 |x::l,e,e',hl,h=>by
  simp only[IG]
  refine GZ l _ _ (fun y hy=>hl y (by simp[hy])) ?_
  by_cases hx:x.1.1=some t
  ·have:=hl x (by simp) hx
   unfold Ck
   rw[this]
   split
   ·simp[Rd,hx,h]
   ·exact h
  ·unfold Ck
   have hp:∀e:List D,(AN e x.1.1 x.1.2.1)[t]?=e[t]?:=fun e=>by rw[Rd,HL hx]
   split<;>split<;>simp[hp,h]
theorem Ha{S S':Nat->Bool}:∀(l:List (It×Nat)) (c:Nat),(∀x∈l,x.1.2.2=true->S x.2=S' x.2)->l.foldl (Ce S) c=l.foldl (Ce S') c
 |[],c,_=>rfl
 |x::l,c,hl=>by
  simp only[IG]
  have:Ce S c x=Ce S' c x:=by
   unfold Ce
   cases hx:x.1.2.2 with
   |false=>simp
   |true=>rw[hl x (by simp) hx]
  rw[this]
  exact Ha l _ (fun y hy=>hl y (by simp[hy]))
theorem mem_zipIdx{items:List It}{x:It×Nat}(h:x∈items.zipIdx 0):items[x.2]?=some x.1:=by
 have:=List.mem_zipIdx h
 simp only[Io,Nat.sub_zero,Ic,true_and] at this
 obtain⟨h1,h2⟩:=this
 rw[H4 h1,h2]
theorem Abh{items:List It}{S:Nat->Bool}{env0:List D}{j:Nat}{it:It}(hj:items[j]?=some it)(hS:S j=false)(hlast:∀(i:Nat) (x:It),items[i]?=some x->S i=true->j<i->it.1=none∨x.1≠it.1):
  Xo items (fun i=>S i||i==j) env0=AN (Xo items S env0) it.1 it.2.1:=by
 have hjl:j<items.length:=(H7.1 hj).1
 have hsplit:items=items.take j++it::items.drop (j+1):=by
  have:items.drop j=it::items.drop (j+1):=by
   rw[HJ hjl]
   congr 1
   exact(H7.1 hj).2
  rw[←this,List.take_append_drop]
 have hlen:(items.take j).length=j:=by simp;omega
 have hz:items.zipIdx 0=(items.take j).zipIdx 0++(it,j)::(items.drop (j+1)).zipIdx (j+1):=by
  conv=>lhs;rw[hsplit]
  rw[List.zipIdx_append,List.zipIdx_cons,hlen]
  simp
 unfold Xo
 rw[hz,List.foldl_append,List.foldl_append,IG,IG]
 have e1:(items.take j).zipIdx.foldl (Ck fun i=>S i||i==j) env0=(items.take j).zipIdx.foldl (Ck S) env0:=by
  have:∀(l:List (It×Nat)) (e:List D),(∀x∈l,x.2≠j)->l.foldl (Ck fun i=>S i||i==j) e=l.foldl (Ck S) e:=by
   intro l
   induction l with
   |nil=>intro e _;rfl
   |cons x l ih=>
    intro e hl
    simp only[IG]
    have hx:=hl x (by simp)
    have:Ck (fun i=>S i||i==j) e x=Ck S e x:=by unfold Ck;simp[hx]
    rw[this];exact ih _ (fun y hy=>hl y (by simp[hy]))
  refine this _ _ (fun x hx=>?_)
  have:=(List.mem_zipIdx hx).2.1
  omega
 rw[e1]
 generalize (items.take j).zipIdx.foldl (Ck S) env0=E
 have s1:Ck (fun i=>S i||i==j) E (it,j)=AN E it.1 it.2.1:=by simp[Ck]
 have s2:Ck S E (it,j)=E:=by simp[Ck,hS]
 rw[s1,s2]
 -- what follows does not touch the slot
 have later:∀(l:List (It×Nat)) (e:List D),(∀x∈l,x.2≠j/\(S x.2=true->it.1=none∨x.1.1≠it.1))->l.foldl (Ck fun i=>S i||i==j) (AN e it.1 it.2.1)=AN (l.foldl (Ck S) e) it.1 it.2.1:=by
  intro l
  induction l with
  |nil=>intro e _;rfl
  |cons x l ih=>
   intro e hl
   simp only[IG]
   obtain⟨hx,hd⟩:=hl x (by simp)
   have hh:Ck (fun i=>S i||i==j) (AN e it.1 it.2.1) x=AN (Ck S e x) it.1 it.2.1:=by
    unfold Ck
    have hxj:(x.2==j)=false:=by simpa using hx
    simp only[hxj,Bool.or_false]
    split
    ·rename_i hs
     rcases hd hs with h|h
     ·rw[h];simp[AN]
     ·cases h1:it.1 with
      |none=>simp[AN]
      |some t=>
       cases h2:x.1.1 with
       |none=>simp[AN]
       |some t'=>
        simp only[AN]
        rw[h1,h2] at h
        have hne:t≠t':=fun e=>h (by rw[e])
        exact List.set_comm _ _ hne
    ·rfl
   rw[hh]
   exact ih _ (fun y hy=>hl y (by simp[hy]))
 refine later _ _ (fun x hx=>?_)
 have hm:=List.mem_zipIdx hx
 refine⟨by omega,fun hs=>hlast x.2 x.1 ?_ hs (by omega)⟩
 have h3:=hm.2.2
 have h4:=hm.2.1
 have h5:=hm.1
 rw[h3,List.getElem_drop]
 rw[H4 (by simp at h4;omega)]
 congr 2
 omega
theorem Abx{items:List It}{S:Nat->Bool}{j:Nat}{it:It}(hj:items[j]?=some it)(hS:S j=false):RT items (fun i=>S i||i==j)=RT items S+(if it.2.2 then 1 else 0):=by
 have hjl:j<items.length:=(H7.1 hj).1
 have hsplit:items=items.take j++it::items.drop (j+1):=by
  have:items.drop j=it::items.drop (j+1):=by
   rw[HJ hjl]
   congr 1
   exact(H7.1 hj).2
  rw[←this,List.take_append_drop]
 have hlen:(items.take j).length=j:=by simp;omega
 have hz:items.zipIdx 0=(items.take j).zipIdx 0++(it,j)::(items.drop (j+1)).zipIdx (j+1):=by
  conv=>lhs;rw[hsplit]
  rw[List.zipIdx_append,List.zipIdx_cons,hlen]
  simp
 have same:∀(l:List (It×Nat)) (c:Nat),(∀x∈l,x.2≠j)->l.foldl (Ce fun i=>S i||i==j) c=l.foldl (Ce S) c:=by
  intro l
  induction l with
  |nil=>intro c _;rfl
  |cons x l ih=>
   intro c hl
   simp only[IG]
   have hx:=hl x (by simp)
   have:Ce (fun i=>S i||i==j) c x=Ce S c x:=by unfold Ce;simp[hx]
   rw[this];exact ih _ (fun y hy=>hl y (by simp[hy]))
 have shift:∀(l:List (It×Nat)) (c d:Nat),l.foldl (Ce S) (c+d)=l.foldl (Ce S) c+d:=by
  intro l
  induction l with
  |nil=>intro c d;rfl
  |cons x l ih=>
   intro c d
   simp only[IG]
   have:Ce S (c+d) x=Ce S c x+d:=by unfold Ce;split<;>omega
   rw[this,ih]
 unfold RT
 rw[hz,List.foldl_append,List.foldl_append,IG,IG]
 rw[same (items.take j).zipIdx 0 (fun x hx=>by have:=(List.mem_zipIdx hx).2.1;omega)]
 generalize (items.take j).zipIdx.foldl (Ce S) 0=c
 have s1:Ce (fun i=>S i||i==j) c (it,j)=c+(if it.2.2 then 1 else 0):=by
  unfold Ce;simp;split<;>rfl
 have s2:Ce S c (it,j)=c:=by simp[Ce,hS]
 rw[s1,s2,same _ _ (fun x hx=>by have:=(List.mem_zipIdx hx).1;omega),shift]
end Go.Dv
