/-
  A part of the proof.
-/
import Derived.Calls
import Derived.Laws.AppendOwn
import Derived.Laws.MakeOwn
import Derived.Laws.Slices
import Derived.Laws.Rows
import Derived.Tactics
import Derived.Laws.Strings
import Derived.Great.BuildSlice
import Derived.Lib.Strings
import Derived.Orders
import Derived.Test.YtgigepkgakpjbaaGreatProg
import Derived.KernelRfl
import Derived.Laws.CopyRow
import Derived.Lib.AppendZeros
open Go.IntKind (u64)
open Go.IntKind renaming wrap->yu,i64->yt
open List renaming length->I,map->U,drop->W
open Option renaming some->G
open Bool renaming true->J,false->O
open Decidable renaming decide->Y
open Int renaming toNat->Z
open _root_.ByteArray renaming mk->bf
open Go renaming Operand->x8,Program->x7,TypeId->x6,World->x5,Value->yz,Oper->yy,FuncId->yx,Func->yw,IntKind->yv
namespace Go
abbrev HJ:=@List.length_map
abbrev HK:=@List.getElem?_eq_getElem
abbrev HL:=@Bool.and_eq_true
abbrev HM:=@decide_eq_true
abbrev HN:=@List.getElem?_eq_some_iff
abbrev HO:=@decide_eq_false
abbrev HP:=@List.length_cons
abbrev HQ:=@List.mem_of_getElem?
abbrev HR:=@Nat.le_refl
abbrev HS:=@List.getD_eq_getElem?_getD
abbrev HT:=@List.length_nil
abbrev HU:=@decide_eq_true_eq
abbrev HV:=@of_decide_eq_true
abbrev HW:=@eq_false_of_ne_true
abbrev HX:=@List.cons.injEq
abbrev HY:=@List.length_append
abbrev HZ:=@List.drop_eq_getElem_cons
abbrev Ia:=@List.mem_singleton
abbrev Iz:=@if_neg
abbrev I1:=@Bool.and_eq_true_iff
abbrev I2:=@List.getElem?_append_right
abbrev I3:=@List.drop_of_length_le
abbrev I4:=@if_pos
abbrev I5:=@List.getElem?_append_left
abbrev I6:=@congrArg
abbrev I7:=@Nat.eq_of_beq_eq_true
abbrev I8:=@Option.some.inj
abbrev I9:=@List.map_cons
abbrev IA:=@Int.le_refl
abbrev IB:=@List.take_of_length_le
abbrev IC:=@Nat.le_of_ble_eq_true
abbrev ID:=@List.length_take
abbrev IE:=@Bool.false_and
abbrev IF:=@Option.some.injEq
abbrev IG:=@Bool.true_and
abbrev II:=@Nat.zero_le
abbrev IJ:=@beq_iff_eq
abbrev IK:=@Array.length_toList
abbrev IL:=@and_true
abbrev IM:=@beq_eq_false_iff_ne
abbrev IN:=@List.mem_cons
abbrev IP:=@List.getElem?_map
abbrev IQ:=@List.mem_map
abbrev IR:=@of_decide_eq_false
abbrev IT:=@Nat.zero_add
abbrev IU:=@List.all_eq_true
abbrev IV:=@List.mem_append
abbrev IX:=@List.append_nil
abbrev IY:=@List.mem_of_mem_drop
abbrev IZ:=@Bool.not_eq_true'
abbrev Jk:=@List.replicate_succ
abbrev Jm:=@Array.getElem?_eq_some_iff
abbrev Jn:=@Nat.le_trans
abbrev Jo:=@List.map_nil
abbrev Jp:=@Nat.add_zero
abbrev Jq:=@Int.min_def
abbrev Jr:=@Option.map_some
abbrev Jt:=@Array.ext'
abbrev Jv:=@List.mem_or_eq_of_mem_set
abbrev Jw:=@List.length_drop
abbrev Jx:=@List.append_assoc
abbrev Jy:=@Int.toNat_natCast
abbrev Jz:=@if_true
abbrev J0:=@Array.getD_eq_getD_getElem?
abbrev J1:=@Nat.add_mul
abbrev J2:=@List.take_add_one
abbrev J3:=@List.foldl_cons
abbrev J4:=@List.size_toArray
abbrev J5:=@List.map_append
abbrev J6:=@List.mem_of_mem_take
abbrev J8:=@decide_eq_false_iff_not
abbrev J9:=@Nat.lt_of_lt_of_le
abbrev JA:=@List.set_cons_succ
abbrev JC:=@List.flatten_cons
abbrev JD:=@Option.getD_some
abbrev JE:=@List.not_mem_nil
abbrev JG:=@List.drop_zero
abbrev JH:=@Array.getElem?_toList
abbrev JI:=@Bool.and_false
abbrev JJ:=@Option.map_none
abbrev JL:=@Bool.false_eq_true
abbrev JM:=@List.cons_append
abbrev JN:=@List.getElem?_cons_succ
end Go
namespace Go.Dv
inductive V where
 |int (k:yv) (n:Int)
 |bool (b:Bool)
 |str (s:List UInt8)
 |list (xs:List V)
 |agg (cs:List V)
 |ref (x:V)
 |fn (f:yx) (fs cs:List V)
 |nilfn
 |nilp
 |nils
 |ifc (t:x6) (x:V)
 deriving Inhabited
def V.isAgg:V->Bool
 |.agg _=>true
 |_=>false
def V.size:V->Nat
 |.agg cs=>I cs
 |_=>1
abbrev c6:=Nat->Nat->Option yz
def f9(M:c6)(b off:Nat)(ws:List yz):Prop:=∀j v,ws[j]?=G v->M b (off+j)=G v
def Y2:V->List yz->yz
 |.agg _,ws=>.agg ws.toArray
 |_,ws=>ws.headD (.tuple #[])
mutual
def repC(M:c6):V->List yz->Prop
 |.int k n,ws=>ws=[.int k n]
 |.bool b,ws=>ws=[.bool b]
 |.str s,ws=>ws=[.string ⟨s.toArray⟩]
 |.list xs,ws=>∃a cap,ws=[.slice a (I xs) cap]/\xs.length<=cap/\(xs=[]∨∃b off sz us,a=G ⟨b,off,none⟩/\0<sz/\f9 M b off us/\repE M sz xs us)
 |.agg cs,ws=>repA M cs ws
 |.ref x,ws=>∃b off us,ws=[.pointer (G ⟨b,off,none⟩)]/\f9 M b off us/\repC M x us
 |.fn f fs cs,ws=>∃us vs,ws=[.func (.func f) us.toArray vs.toArray]/\GZ M fs us/\GZ M cs vs
 |.nilfn,ws=>ws=[.nilFunc]
 |.nilp,ws=>ws=[.pointer none]
 |.nils,ws=>ws=[.slice none 0 0]
 |.ifc t x,ws=>∃us,ws=[.iface t (Y2 x us)]/\repC M x us
def repE(M:c6)(sz:Nat):List V->List yz->Prop
 |[],us=>us=[]
 |x::xs,us=>∃u1 u2,us=u1++u2/\u1.length=sz/\repC M x u1/\repE M sz xs u2
def repA(M:c6):List V->List yz->Prop
 |[],us=>us=[]
 |c::cs,us=>∃u us',us=u::us'/\c.isAgg=O/\repC M c [u]/\repA M cs us'
def GZ(M:c6):List V->List yz->Prop
 |[],us=>us=[]
 |x::xs,us=>∃u us' ws,us=u::us'/\repC M x ws/\u=Y2 x ws/\GZ M xs us'
end
def repV(M:c6)(x:V)(u:yz):Prop:=∃ws,repC M x ws/\u=Y2 x ws
def c6.le(M M':c6):Prop:=∀b o v,M b o=G v->M' b o=G v
theorem c6.le_refl(M:c6):M.le M:=fun _ _ _ h=>h
theorem c6.le_trans{M M' M'':c6}(h:M.le M')(h':M'.le M''):M.le M'':=by grind[c6.le]
theorem f9.mono{M M':c6}{b off:Nat}{ws:List yz}(hm:M.le M')(h:f9 M b off ws):f9 M' b off ws:=fun j v e=>hm _ _ _ (h j v e)
mutual
theorem repC.mono{M M':c6}(hm:M.le M'):∀(x:V) (ws:List yz),repC M x ws->repC M' x ws
 |.int k n,ws,h=>h
 |.bool b,ws,h=>h
 |.str s,ws,h=>h
 |.list xs,ws,h=>by
  simp only[repC] at h⊢
  obtain⟨a,cap,e,hc,h⟩:=h
  refine⟨a,cap,e,hc,?_⟩
  rcases h with h|⟨b,off,sz,us,ha,hs,hi,he⟩
  ·exact .inl h
  ·exact .inr ⟨b,off,sz,us,ha,hs,hi.mono hm,repE.mono hm sz xs us he⟩
 |.agg cs,ws,h=>by simp only[repC] at h⊢;exact repA.mono hm cs ws h
 |.ref x,ws,h=>by
  simp only[repC] at h⊢
  obtain⟨b,off,us,e,hi,hx⟩:=h
  exact⟨b,off,us,e,hi.mono hm,repC.mono hm x us hx⟩
 |.fn f fs cs,ws,h=>by
  simp only[repC] at h⊢
  obtain⟨us,vs,e,h1,h2⟩:=h
  exact⟨us,vs,e,GZ.mono hm fs us h1,GZ.mono hm cs vs h2⟩
 |.nilfn,ws,h=>h
 |.nilp,ws,h=>h
 |.nils,ws,h=>h
 |.ifc t x,ws,h=>by
  simp only[repC] at h⊢
  obtain⟨us,e,hx⟩:=h
  exact⟨us,e,repC.mono hm x us hx⟩
theorem repE.mono{M M':c6}(hm:M.le M')(sz:Nat):∀(xs:List V) (us:List yz),repE M sz xs us->repE M' sz xs us
 |[],us,h=>h
 |x::xs,us,h=>by
  simp only[repE] at h⊢
  obtain⟨u1,u2,e,hl,h1,h2⟩:=h
  exact⟨u1,u2,e,hl,repC.mono hm x u1 h1,repE.mono hm sz xs u2 h2⟩
theorem repA.mono{M M':c6}(hm:M.le M'):∀(cs:List V) (us:List yz),repA M cs us->repA M' cs us
 |[],us,h=>h
 |c::cs,us,h=>by
  simp only[repA] at h⊢
  obtain⟨u,us',e,ha,h1,h2⟩:=h
  exact⟨u,us',e,ha,repC.mono hm c [u] h1,repA.mono hm cs us' h2⟩
theorem GZ.mono{M M':c6}(hm:M.le M'):∀(xs:List V) (us:List yz),GZ M xs us->GZ M' xs us
 |[],us,h=>h
 |x::xs,us,h=>by
  simp only[GZ] at h⊢
  obtain⟨u,us',ws,e,h1,h2,h3⟩:=h
  exact⟨u,us',ws,e,repC.mono hm x ws h1,h2,GZ.mono hm xs us' h3⟩
end
theorem repV.mono{M M':c6}(hm:M.le M'){x:V}{u:yz}(h:repV M x u):repV M' x u:=
 by grind[repC.mono,repV]
theorem Eg{M:c6}:∀{cs:List V} {us:List yz},repA M cs us->I us=I cs
 |[],us,h=>by simp only[repA] at h;simp[h]
 |c::cs,us,h=>by
  simp only[repA] at h
  obtain⟨u,us',rfl,_,_,h2⟩:=h
  simp[Eg h2]
theorem GH{M:c6}:∀{x:V} {ws:List yz},repC M x ws->I ws=x.size
 |.int k n,ws,h=>by grind[repC,V.size]
 |.bool b,ws,h=>by grind[repC,V.size]
 |.str s,ws,h=>by grind[repC,V.size]
 |.list xs,ws,h=>by grind[repC,V.size]
 |.agg cs,ws,h=>by grind[repC,V.size,Eg]
 |.ref x,ws,h=>by grind[repC,V.size]
 |.fn f fs cs,ws,h=>by grind[repC,V.size]
 |.nilfn,ws,h=>by grind[repC,V.size]
 |.nilp,ws,h=>by grind[repC,V.size]
 |.nils,ws,h=>by grind[repC,V.size]
 |.ifc t x,ws,h=>by grind[repC,V.size]
theorem De{M:c6}{x:V}{ws:List yz}(hx:x.isAgg=O)(h:repC M x ws):∃u,ws=[u]/\Y2 x ws=u/\u.oneCell'=J:=by
 cases x<;>grind[repC,Y2,V.isAgg,Value.oneCell']
theorem BP{M:c6}{x:V}{u:yz}(hx:x.isAgg=O):repV M x u↔repC M x [u]:=by
 grind[De,repV]
@[simp] theorem AC {M:c6} {k:yv} {n:Int} {u:yz}:repV M (.int k n) u↔u=.int k n:=by rw[BP rfl];simp[repC]
@[simp] theorem EP {M:c6} {b:Bool} {u:yz}:repV M (.bool b) u↔u=.bool b:=by rw[BP rfl];simp[repC]
@[simp] theorem D6 {M:c6} {s:List UInt8} {u:yz}:repV M (.str s) u↔u=.string ⟨s.toArray⟩:=by rw[BP rfl];simp[repC]
@[simp] theorem AmA {M:c6} {u:yz}:repV M .nilfn u↔u=.nilFunc:=by rw[BP rfl];simp[repC]
@[simp] theorem Dm {M:c6} {u:yz}:repV M .nils u↔u=.slice none 0 0:=by rw[BP rfl];simp[repC]
@[simp] theorem AnO {M:c6} {u:yz}:repV M .nilp u↔u=.pointer none:=by rw[BP rfl];simp[repC]
theorem B6{M:c6}{xs:List V}{u:yz}:repV M (.list xs) u↔∃a cap,u=.slice a (I xs) cap/\xs.length<=cap/\(xs=[]∨∃b off sz us,a=G ⟨b,off,none⟩/\0<sz/\f9 M b off us/\repE M sz xs us):=by
 rw[BP rfl];simp[repC]
theorem E2(M:c6):repV M (.list []) (.slice none 0 0):=by grind[B6]
theorem DO{M:c6}{x:V}{u:yz}:repV M (.ref x) u↔∃b off us,u=.pointer (G ⟨b,off,none⟩)/\f9 M b off us/\repC M x us:=by rw[BP rfl];simp[repC]
theorem Kz{M:c6}{f:yx}{fs cs:List V}{u:yz}:repV M (.fn f fs cs) u↔∃us vs,u=.func (.func f) us.toArray vs.toArray/\GZ M fs us/\GZ M cs vs:=by rw[BP rfl];simp[repC]
theorem Cx{M:c6}{cs:List V}{u:yz}:repV M (.agg cs) u↔∃ws,repA M cs ws/\u=.agg ws.toArray:=by rfl
theorem DG{M:c6}{x:V}{u:yz}(hx:x.isAgg=O)(h:repV M x u):u.oneCell'=J:=by
 obtain⟨ws,h,e⟩:=h
 grind[De]
theorem L3{M:c6}{x:V}{u:yz}(h:repV M x u):repC M x u.cells.toList:=by
 obtain⟨ws,h,e⟩:=h
 cases hx:x.isAgg with
 |false=>
  obtain⟨u',e1,e2,h3⟩:=De hx h
  rw[e,e2]
  have:u'.cells= #[u']:=by cases u'<;>simp_all [Value.cells,Value.oneCell']
  grind
 |true=>
  cases x<;>grind[Y2,Value.cells,repC]
theorem JP{M:c6}:∀{cs:List V} {us:List yz},repA M cs us->∀u∈us,u.oneCell'=J
 |[],us,h=>by simp only[repA] at h;simp[h]
 |c::cs,us,h=>by
  simp only[repA] at h
  obtain⟨u,us',rfl,ha,h1,h2⟩:=h
  intro u0 hu
  rcases IN.1 hu with rfl|hu
  ·obtain⟨u',e1,_,h3⟩:=De ha h1
   have:u0=u':=by simpa using e1
   rw[this];exact h3
  ·exact JP h2 u0 hu
theorem LY{M:c6}{x:V}{us:List yz}(h:repC M x us):∀u∈us,u.oneCell'=J:=by
 cases hx:x.isAgg with
 |false=>
  grind[De]
 |true=>
  cases x<;>grind[repC,JP,Value.oneCell']
inductive D where
 |v (x:V)
 |acc (k:Nat) (xs:List V)
 |ptr (o off:Nat)
 |arr (o off len:Nat)
 |gro (o len sz:Nat)
 |raw (x:yz)
 |rv (x:V) (u:yz)
 |dagg (cs:List D)
 |dfn (f:yx) (fs cs:List D)
 |tup (ds:List D)
 |err
 |undef
 deriving Inhabited
structure Gh where
 M:c6
 β:Nat->Nat
 n:Nat
 ι:Nat->Nat->Option yz
 κ:Nat->Nat
mutual
def Ah(g:Gh):D->yz->Prop
 |.v x,u=>repV g.M x u
 |.acc k xs,u=>repV g.M (.list xs) u/\g.ι k (I xs)=G u
 |.ptr o off,u=>o<g.n/\u=.pointer (G ⟨g.β o,off,none⟩)
 |.arr o off len,u=>o<g.n/\∃cap,len<=cap/\u=.slice (G ⟨g.β o,off,none⟩) len cap
 |.gro o len sz,u=>o<g.n/\∃cap,len<=cap/\cap*sz=g.κ o/\u=.slice (G ⟨g.β o,0,none⟩) len cap
 |.raw x,u=>u=x
 |.rv x u0,u=>u=u0/\repV g.M x u0
 |.dagg cs,u=>∃us,u=.agg us.toArray/\Ag g cs us
 |.dfn f fs cs,u=>∃us vs,u=.func (.func f) us.toArray vs.toArray/\Ag g fs us/\Ag g cs vs
 |.tup ds,u=>∃us,u=.tuple us.toArray/\Ag g ds us
 |.err,u=>∃t p,u=.iface t p
 |.undef,_=>True
def Ag(g:Gh):List D->List yz->Prop
 |[],us=>us=[]
 |d::ds,us=>∃u us',us=u::us'/\Ah g d u/\Ag g ds us'
end
structure Gh.le(g g':Gh):Prop where
 M:g.M.le g'.M
 n:g.n<=g'.n
 β:∀o,o<g.n->g'.β o=g.β o
 ι:∀k m u,g.ι k m=G u->g'.ι k m=G u
 κ:∀o,o<g.n->g'.κ o=g.κ o
theorem Gh.le_refl(g:Gh):g.le g:=⟨g.M.le_refl,HR _,fun _ _=>rfl,fun _ _ _ h=>h,fun _ _=>rfl⟩
theorem Gh.le_trans{g g' g'':Gh}(h:g.le g')(h':g'.le g''):g.le g'':=
 ⟨c6.le_trans h.M h'.M,Jn h.n h'.n,fun o ho=>(h'.β o (J9 ho h.n)).trans (h.β o ho),fun k m u e=>h'.ι k m u (h.ι k m u e),fun o ho=>(h'.κ o (J9 ho h.n)).trans (h.κ o ho)⟩
mutual
theorem Ah.mono{g g':Gh}(hg:g.le g'):∀(d:D) (u:yz),Ah g d u->Ah g' d u
 |.v x,u,h=>by simp only[Ah] at h⊢;exact h.mono hg.M
 |.acc k xs,u,h=>by simp only[Ah] at h⊢;exact⟨h.1.mono hg.M,hg.ι _ _ _ h.2⟩
 |.ptr o off,u,h=>by simp only[Ah] at h⊢;exact⟨J9 h.1 hg.n,by rw[hg.β o h.1];exact h.2⟩
 |.arr o off len,u,h=>by simp only[Ah] at h⊢;exact⟨J9 h.1 hg.n,by rw[hg.β o h.1];exact h.2⟩
 |.gro o len sz,u,h=>by simp only[Ah] at h⊢;exact⟨J9 h.1 hg.n,by rw[hg.β o h.1,hg.κ o h.1];exact h.2⟩
 |.raw x,u,h=>by simpa only[Ah] using h
 |.rv x u0,u,h=>by simp only[Ah] at h⊢;exact⟨h.1,h.2.mono hg.M⟩
 |.dagg cs,u,h=>by
  simp only[Ah] at h⊢
  obtain⟨us,e,h1⟩:=h
  exact⟨us,e,Ag.mono hg cs us h1⟩
 |.dfn f fs cs,u,h=>by
  simp only[Ah] at h⊢
  obtain⟨us,vs,e,h1,h2⟩:=h
  exact⟨us,vs,e,Ag.mono hg fs us h1,Ag.mono hg cs vs h2⟩
 |.tup ds,u,h=>by
  simp only[Ah] at h⊢
  obtain⟨us,e,h1⟩:=h
  exact⟨us,e,Ag.mono hg ds us h1⟩
 |.err,u,h=>by simpa only[Ah] using h
 |.undef,u,_=>by simp only[Ah]
theorem Ag.mono{g g':Gh}(hg:g.le g'):∀(ds:List D) (us:List yz),Ag g ds us->Ag g' ds us
 |[],us,h=>by simpa only[Ag] using h
 |d::ds,us,h=>by
  simp only[Ag] at h⊢
  obtain⟨u,us',e,h1,h2⟩:=h
  exact⟨u,us',e,Ah.mono hg d u h1,Ag.mono hg ds us' h2⟩
end
theorem A3{g:Gh}:∀{ds:List D} {us:List yz},Ag g ds us->I us=I ds
 |[],us,h=>by simp only[Ag] at h;simp[h]
 |d::ds,us,h=>by
  simp only[Ag] at h
  obtain⟨u,us',rfl,_,h2⟩:=h
  simp[A3 h2]
theorem B7{g:Gh}:∀{ds:List D} {us:List yz},Ag g ds us->∀{i:Nat} {d:D},ds[i]?=G d->∃u,us[i]?=G u/\Ah g d u
 |[],us,h,i,d,hd=>by simp at hd
 |d::ds,us,h,i,d',hd=>by
  simp only[Ag] at h
  obtain⟨u,us',rfl,h1,h2⟩:=h
  cases i with
  |zero=>simp at hd;subst hd;exact⟨u,by simp,h1⟩
  |succ i=>simp at hd;obtain⟨u',e,h3⟩:=B7 h2 hd;exact⟨u',by simpa using e,h3⟩
theorem CB{g:Gh}:∀{ds:List D} {us:List yz},Ag g ds us->∀(i:Nat) {d:D} {u:yz},Ah g d u->Ag g (ds.set i d) (us.set i u)
 |[],us,h,i,d,u,_=>by simp only[Ag] at h;simp[h,Ag]
 |d0::ds,us,h,i,d,u,hd=>by
  simp only[Ag] at h
  obtain⟨u0,us',rfl,h1,h2⟩:=h
  cases i with
  |zero=>simp only[List.set_cons_zero,Ag];exact⟨u,us',rfl,hd,h2⟩
  |succ i=>simp only[JA,Ag];exact⟨u0,_,rfl,h1,CB h2 i hd⟩
theorem Au{g:Gh}:∀{ds ds':List D} {us us':List yz},Ag g ds us->Ag g ds' us'->Ag g (ds++ds') (us++us')
 |[],ds',us,us',h,h'=>by simp only[Ag] at h;simpa[h] using h'
 |d::ds,ds',us,us',h,h'=>by
  simp only[Ag] at h
  obtain⟨u,us1,rfl,h1,h2⟩:=h
  simp only[JM,Ag]
  exact⟨u,_,rfl,h1,Au h2 h'⟩
theorem UX{α:Type}{l r:List α}{i:Nat}{x:α}(h:l[i]?=G x):(l++r)[i]?=G x:=by
 grind
theorem FM{g:Gh}:∀{ds:List D} {us:List yz},Ag g ds us->∀{ds':List D},I ds'=I ds->(∀(i:Nat) (d':D),ds'[i]?=G d'->d'=.undef∨ds[i]?=G d')->Ag g ds' us
 |[],us,h,ds',hl,_=>by
  have:ds'=[]:=List.eq_nil_of_length_eq_zero (by simpa using hl)
  subst this;exact h
 |d::ds,us,h,[],hl,_=>by simp at hl
 |d::ds,us,h,d'::ds',hl,hw=>by
  simp only[Ag] at h⊢
  obtain⟨u,us',rfl,h1,h2⟩:=h
  refine⟨u,us',rfl,?_,FM h2 (by simpa using hl) (fun i x hx=>by have:=hw (i+1) x (by simpa using hx);simpa using this)⟩
  rcases hw 0 d' (by simp) with rfl|e
  ·simp only[Ah]
  ·simp at e;subst e;exact h1
end Go.Dv

namespace Go.Dv
open Go.Dv.V renaming list->ae,str->ab,agg->aa,int->a8,ref->bz,fn->bw,nils->bv,bool->bu
open Go.Dv.D renaming v->bt,acc->br,ptr->bq,arr->bo,gro->bm,tup->bl,undef->bk,dagg->bj
abbrev DRW:Prop:=True
def BV(a b:Nat):Prop:=DRW->a<=b
theorem BV.of{a b:Nat}(h:a<=b):BV a b:=fun _=>h
theorem BV.refl(a:Nat):BV a a:=.of (HR _)
theorem BV.succ(a:Nat):BV a (a+1):=.of (Nat.le_succ _)
theorem BV.trans{a b c:Nat}(h:BV a b)(h':BV b c):BV a c:=by grind[BV]
def Aq3:List (Nat×V):=[]
def w8(_:c6):Prop:=True
theorem w8.mono{M M':c6}(h:w8 M)(_:M.le M'):w8 M':=h
structure G9(M:c6):Prop where
 known:∀p∈Aq3,∃us,f9 M p.1 0 us/\repC M p.2 us
 more:w8 M
theorem G9.mono{M M':c6}(h:G9 M)(hle:M.le M'):G9 M':=⟨fun p hp=>
 let ⟨us,h1,h2⟩:=h.known p hp
 ⟨us,h1.mono hle,repC.mono hle _ _ h2⟩,h.more.mono hle⟩
def GA:List (Nat×Nat):=[]
def GW(w:x5):Prop:=∀p∈GA,∃cs e x,w.heap[p.1]?=G (.cells cs e x)/\cs.size=p.2
theorem GW.mono{w w':x5}(h:GW w)(hs:∀(b:Nat) (cs:Array yz) (e:x6) (x:Nat×Nat),w.heap[b]?=G (.cells cs e x)->∃cs' e' x',w'.heap[b]?=G (.cells cs' e' x')/\cs'.size=cs.size):GW w':=fun p hp=>by
 obtain⟨cs,e,x,h1,h2⟩:=h p hp
 obtain⟨cs',e',x',h3,h4⟩:=hs _ _ _ _ h1
 exact⟨cs',e',x',h3,h4.trans h2⟩
theorem GW.keep{w w':x5}(h:GW w)(hs:∀b,b<w.heap.size->w'.heap[b]?=w.heap[b]?):GW w':=h.mono fun b cs e x hb=>⟨cs,e,x,(hs b (Jm.1 hb).1).trans hb,rfl⟩
theorem GW.keepG{w w':x5}(h:GW w)(hs:∀p∈GA,p.1<w.heap.size->w'.heap[p.1]?=w.heap[p.1]?):GW w':=fun p hp=>by
 obtain⟨cs,e,x,h1,h2⟩:=h p hp
 exact⟨cs,e,x,(hs p hp (Jm.1 h1).1).trans h1,h2⟩
theorem G9.sized{M:c6}(_:G9 M):∀p∈GA,∃v,M p.1 0=G v:=fun p hp=>by simp[GA] at hp
structure St where
 H:List (Option (List D))
 own:List (Nat×Nat×List V)
def D.one:D->Bool
 |.v x=> !x.isAgg
 |.acc .. |.ptr .. |.arr .. |.gro .. |.dfn .. =>true
 |.raw x=>x.oneCell'
 |.rv x _=> !x.isAgg
 |_=>false
def Co:yz->Option Nat
 |.slice (some a) _ cap=>if cap=0 then none else G a.block
 |_=>none
structure NoM(M:c6)(b n:Nat):Prop where
 none:∀o,n<=o->M b o=Option.none
 ng:∀p∈GA,p.1≠b
instance {M:c6} {b n:Nat}:CoeFun (NoM M b n) fun _=>∀o,n<=o->M b o=Option.none:=⟨NoM.none⟩
def Perm(M:c6)(w:x5)(sz:Nat)(u:yz):Prop:=
 (∃a,u=.slice a 0 0)∨∃b f len cap cur e,u=.slice (G ⟨b,f,none⟩) len cap/\w.heap[b]?=G (.cells cur e (0,0))/\len<=cap/\f+cap*sz<=cur.size/\NoM M b (f+len*sz)
structure dh(g:Gh)(σ:St)(w:x5):Prop where
 n:g.n=I σ.H
 mem:∀b o v,g.M b o=G v->w.cell? ⟨b,o,none⟩=G v
 obj:∀i cs,σ.H[i]?=G (G cs)->∃us rest e,w.heap[g.β i]?=G (.cells (us++rest).toArray e (0,0))/\Ag g cs us/\(∀c∈cs,c.one=J)/\(∀o,g.M (g.β i) o=none)/\(us++rest).length=g.κ i
 inj:∀i j cs ds,σ.H[i]?=G (G cs)->σ.H[j]?=G (G ds)->g.β i=g.β j->i=j
 own:∀k sz xs,(k,sz,xs)∈σ.own->(0<sz/\∀x∈xs,x.size=sz)/\∃u,g.ι k (I xs)=G u/\repV g.M (.list xs) u/\Perm g.M w sz u/\∀m,I xs<m->g.ι k m=none
 tags:(σ.own.map (·.1)).Nodup
 sep:∀x∈σ.own,∀y∈σ.own,x.1≠y.1->∀u u',g.ι x.1 (I x.2.2)=G u->g.ι y.1 (I y.2.2)=G u'->∀b,Co u=G b->Co u'≠G b
 ownObj:∀x∈σ.own,∀u,g.ι x.1 (I x.2.2)=G u->∀b,Co u=G b->∀i cs,σ.H[i]?=G (G cs)->g.β i≠b
 fresh:∀k,(∀x∈σ.own,x.1≠k)->∀m,g.ι k m=none
 gl:G9 g.M
 gw:GW w
structure c9 where
 g:Gh
 w:x5
 σ:St
def c9.priv(E:c9)(b:Nat):Prop:=
 (∃i cs,E.σ.H[i]?=G (G cs)/\b=E.g.β i)∨(∃x∈E.σ.own,∃u,E.g.ι x.1 (I x.2.2)=G u/\Co u=G b)
structure WI(E:c9)(g:Gh)(σ:St)(w:x5):Prop where
 rep:dh g σ w
 M:E.g.M.le g.M
 size:E.w.heap.size<=w.heap.size
 keep:∀b,b<E.w.heap.size->¬E.priv b->w.heap[b]?=E.w.heap[b]?/\∀o,g.M b o=E.g.M b o
 os:w.os=E.w.os
 tape:w.tape=E.w.tape
 output:w.output=E.w.output
 nE:E.g.n<=g.n
 βE:∀o,o<E.g.n->g.β o=E.g.β o
 κE:∀o,o<E.g.n->g.κ o=E.g.κ o
 objs:∀i cs,σ.H[i]?=G (G cs)->E.w.heap.size<=g.β i∨E.priv (g.β i)
 owns:∀x∈σ.own,∀u,g.ι x.1 (I x.2.2)=G u->∀b,Co u=G b->E.w.heap.size<=b∨E.priv b
 drawn:BV E.w.drawn w.drawn
structure FI(E:c9)(g:Gh)(σ:St)(env:List D)(a:Act)(w:x5):Prop where
 wi:WI E g σ w
 env:Ag g env a.tmps.toList
 defers:a.defers=[]
theorem WI.start{g:Gh}{w:x5}{σ:St}(h:dh g σ w):WI ⟨g,w,σ⟩ g σ w where
 rep:=h
 M:=c6.le_refl _
 size:=HR _
 keep:=fun _ _ _=>⟨rfl,fun _=>rfl⟩
 os:=rfl
 tape:=rfl
 output:=rfl
 nE:=HR _
 βE:=fun _ _=>rfl
 κE:=fun _ _=>rfl
 objs:=fun i cs h=>.inr (.inl ⟨i,cs,h,rfl⟩)
 owns:=fun x hx u hu _ hb=>.inr (.inr ⟨x,hx,u,hu,hb⟩)
 drawn:=BV.refl _
def Pr:yz->D
 |.int k n=>.v (.int k n)
 |.bool b=>.v (.bool b)
 |.string s=>.v (.str s.data.toList)
 |.slice none 0 0=>.v (.list [])
 |.nilFunc=>.v .nilfn
 |.pointer none=>.v .nilp
 |_=>.undef
theorem OJ(g:Gh)(u:yz):Ah g (Pr u) u:=by
 unfold Pr
 split<;>simp[Ah,E2]
def AhU(n:Nat):D:=match Aq3.find? (·.1==n) with|G p=>.v (.ref p.2)|none=>.undef
theorem AbA{g:Gh}(_:G9 g.M)(n:Nat):Ah g (AhU n) (.pointer (G ⟨n,0,none⟩)):=by
 unfold AhU
 grind[Ah,Aq3]
def ip(env:List D):x8->D
 |.tmp t=>env.getD t .undef
 |.const u=>Pr u
 |.global n=>AhU n
 |.func f=>.v (.fn f [] [])
theorem Gt{g:Gh}{env:List D}{a:Act}(h:Ag g env a.tmps.toList)(t:Nat):Ah g (ip env (.tmp t)) (a.eval (.tmp t)):=by
 simp only[ip,Act.eval]
 cases hd:env[t]? with
 |none=>grind[Ah]
 |some d=>
  obtain⟨u,hu,hr⟩:=B7 h hd
  simp_all
theorem Nl{g:Gh}{env:List D}{a:Act}(hG:G9 g.M)(h:Ag g env a.tmps.toList)(x:x8):Ah g (ip env x) (a.eval x):=by
 cases x<;>grind[Gt,OJ,AbA,ip,Ah,Kz,Act.eval,GZ]
def Ff(env:List D)(o:yy):List D:=o.op.operands.toList.map (ip env)
theorem Ho{g:Gh}{env:List D}{a:Act}(hG:G9 g.M)(h:Ag g env a.tmps.toList):∀(l:List x8),Ag g (l.map (ip env)) (l.map a.eval)
 |[]=>by simp[Ag]
 |x::l=>by simp only[I9,Ag];exact⟨_,_,rfl,Nl hG h x,Ho hG h l⟩
def Ak(P:x7)(o:yy)(ds:List D)(σ:St)(d:D)(σ':St):Prop:=
 ∀(E:c9) (g:Gh) (a:Act) (w:x5) (K:Act->x5->Prop) (Q:Exit->Act->x5->Prop),WI E g σ w->
  Ag g ds (o.op.operands.toList.map a.eval)->
  (∀g' w' u,WI E g' σ' w'->g.le g'->Ah g' d u->K (a.put o.dst u) w')->o.wp P a w K Q
theorem OI(g:Gh):Ah g (.tup []) undef:=by simp only[Ah];exact⟨[],rfl,by rfl⟩
def BD(env:List D):Option Tmp->D->List D
 |some t,d=>env.set t d
 |none,_=>env
theorem FI.put{E:c9}{g g':Gh}{σ σ':St}{env:List D}{a:Act}{w w':x5}(h:FI E g σ env a w)(hw:WI E g' σ' w')(hg:g.le g'){u:yz}{d:D}(hd:Ah g' d u)(t:Option Tmp):
  FI E g' σ' (BD env t d) (a.put t u) w':=by
 refine⟨hw,?_,?_⟩
 ·cases t with
  |none=>exact Ag.mono hg _ _ h.env
  |some t=>
   simp only[BD,Act.put,Array.toList_setIfInBounds]
   exact CB (Ag.mono hg _ _ h.env) t hd
 ·cases t<;>exact h.defers
def Ci(env:List D)(ops:Array yy)(o:yy):Option Bool:=
 match o.guard with
 |none=>G true
 |some (j,want)=>match ((ops[j]?).bind (·.dst)).bind (env[·]?) with
  |some (.v (.bool b))=>G (b==want)
  |some (.tup _)=>G false
  |_=>none
theorem CP{g:Gh}{env:List D}{a:Act}(h:Ag g env a.tmps.toList){ops:Array yy}{o:yy}{b:Bool}(hw:Ci env ops o=G b):
  Region.wanted o (yielded ops a.tmps)=b:=by
 unfold Ci at hw
 unfold Region.wanted
 cases hg:o.guard with
 |none=>grind
 |some p=>
  obtain⟨j,want⟩:=p
  simp only[hg] at hw⊢
  cases hj:(ops[j]?).bind (·.dst)<;>grind[B7,Option.some.injEq,Ah,EP,yielded]
inductive KI where
 |code (c:Code)
 |blk (id:Nat)
 |lp (c:Code)
def AsO(P:x7)(c:Code)(Q:Exit->Act->x5->Prop)(a:Act)(w:x5):Prop:=
 ∀(b:Frame) (k:List Item) (cs:List Frame),
  ∃e a' w',Q e a' w'/\Arrives P (lone (b.at a (.code c:: .inLoop c::k)) cs w) b k cs e a' w'
def KQ(P:x7)(B:Exit->Act->x5->Prop):List KI->Exit->Act->x5->Prop
 |[],e,a,w=>B e a w
 |.code c::k,e,a,w=>match e with
  |.normal=>c.wp P (KQ P B k) a w
  |e=>KQ P B k e a w
 |.lp c::k,e,a,w=>match e with
  |.normal=>AsO P c (KQ P B k) a w
  |e=>KQ P B k e a w
 |.blk id::k,e,a,w=>match e with
  |.exit id'=>if id'=id then KQ P B k .normal a w else KQ P B k (.exit id') a w
  |e=>KQ P B k e a w
def A5(C:c9->c9->Prop)(P:x7)(R:List D->St->Prop)(k:List KI)(env:List D)(σ:St):Prop:=
 ∀(E0 E:c9) (g:Gh) (a:Act) (w:x5) (B:Exit->Act->x5->Prop),C E0 E->FI E g σ env a w->
  (∀g' env' σ' a' w',FI E0 g' σ' env' a' w'->R env' σ'->B .ret a' w'/\B .normal a' w')->KQ P B k .normal a w
structure Ou(C:c9->c9->Prop):Prop where
 ok:∀{E0 E:c9},C E0 E->∀{g:Gh} {σ:St} {w:x5},WI E g σ w->WI E0 g σ w
theorem FI.link{C:c9->c9->Prop}(L:Ou C){E0 E:c9}(hC:C E0 E){g:Gh}{σ:St}{env:List D}{a:Act}{w:x5}(h:FI E g σ env a w):FI E0 g σ env a w:=⟨L.ok hC h.wi,h.env,h.defers⟩
section
variable {C : c9 -> c9 -> Prop} {P : x7} {R : List D -> St -> Prop} {k : List KI} {env : List D} {σ : St}
theorem Qi(L:Ou C)(h:R env σ):A5 C P R [] env σ:=fun _ _ _ _ _ _ hC hf hB=>(hB _ _ _ _ _ (hf.link L hC) h).2
theorem X4{B:Exit->Act->x5->Prop}{a:Act}{w:x5}(h:B .ret a w):∀k:List KI,KQ P B k .ret a w
 |[]=>h
 |.code _::k=>by simp only[KQ];exact X4 h k
 |.lp _::k=>by simp only[KQ];exact X4 h k
 |.blk _::k=>by simp only[KQ];exact X4 h k
theorem Wc(L:Ou C)(h:R env σ):A5 C P R (.code .ret::k) env σ:=fun _ _ _ _ _ _ hC hf hB=>by
 simp only[KQ]
 exact wp_ret (X4 (hB _ _ _ _ _ (hf.link L hC) h).1 k)
theorem Wb(h:A5 C P R k env σ):A5 C P R (.code .skip::k) env σ:=by grind[KQ,wp_skip,A5]
theorem Abl{l:Nat}(h:A5 C P R k env σ):A5 C P R (.code (.label l)::k) env σ:=by grind[KQ,wp_label,A5]
theorem Abm{id:Nat}(h:A5 C P R k env σ):A5 C P R (.blk id::k) env σ:=by grind[KQ,A5]
theorem Abk{x y:Code}(h:A5 C P R (.code x:: .code y::k) env σ):A5 C P R (.code (.seq x y)::k) env σ:=fun E0 E g a w B hC hf hB=>by
 have:=h E0 E g a w B hC hf hB
 simp only[KQ] at this⊢
 exact wp_seq (wp_mono this fun e a w q=>by cases e<;>exact q)
theorem RL{id:Nat}{c:Code}(h:A5 C P R (.code c:: .blk id::k) env σ):A5 C P R (.code (.block id c)::k) env σ:=fun E0 E g a w B hC hf hB=>by
 have:=h E0 E g a w B hC hf hB
 simp only[KQ] at this⊢
 grind[wp_block,wp_mono,Exit.inBlock]
theorem Wf{c:x8}{x y:Code}{b:Bool}(hc:ip env c=.v (.bool b))(ht:b=J->A5 C P R (.code x::k) env σ)(hf:b=O->A5 C P R (.code y::k) env σ):
  A5 C P R (.code (.cond c x y)::k) env σ:=fun E0 E g a w B hC hfi hB=>by
 have hr:=Nl hfi.wi.rep.gl hfi.env c
 rw[hc] at hr
 have hr':a.eval c=.bool b:=by grind[Ah,EP]
 simp only[KQ]
 refine wp_cond_split hr' (fun hb=>?_) (fun hb=>?_)
 ·have:=ht hb E0 E g a w B hC hfi hB;grind[KQ]
 ·have:=hf hb E0 E g a w B hC hfi hB;grind[KQ]
theorem Ajw{c:Code}(h:A5 C P R (.code c:: .lp c::k) env σ):A5 C P R (.lp c::k) env σ:=fun E0 E g a w B hC hfi hB=>by
 have:=h E0 E g a w B hC hfi hB
 simp only[KQ] at this⊢
 intro b kk cs
 obtain⟨e,a₁,w₁,hq,harr⟩:=this b (.inLoop c::kk) cs
 cases e with
 |normal=>
  simp only at hq
  obtain⟨e₂,a₂,w₂,hq₂,harr₂⟩:=hq b kk cs
  exact⟨e₂,a₂,w₂,hq₂,.of_steps (Steps.trans harr (.one step_inLoop)) harr₂⟩
 |exit id=>exact⟨_,a₁,w₁,hq,.pass (x:=.inLoop c) rfl (fun _ _=>.inl (by simp)) harr⟩
 |goto l=>exact⟨_,a₁,w₁,hq,.pass (x:=.inLoop c) rfl (fun _ _=>.inl (by simp)) harr⟩
 |ret=>grind[Arrives]
 |panic ch=>grind[Arrives]
 |outgrown=>grind[Arrives]
theorem gy{c:Code}(h:A5 C P R (.lp c::k) env σ):A5 C P R (.code (.loop c)::k) env σ:=fun E0 E g a w B hC hfi hB=>by
 have:=h E0 E g a w B hC hfi hB
 simp only[KQ] at this⊢
 intro b kk cs
 obtain⟨e,a',w',hq,harr⟩:=this b kk cs
 exact⟨e,a',w',hq,.of_steps (.one step_loop) harr⟩
def Qr(id:Nat):List KI->Option (List KI)
 |[]=>none
 |.blk id'::k=>if id'=id then G k else Qr id k
 |_::k=>Qr id k
theorem Rj{B:Exit->Act->x5->Prop}{a:Act}{w:x5}{id:Nat}:∀{k k':List KI},Qr id k=G k'->KQ P B k' .normal a w->KQ P B k (.exit id) a w
 |[],k',h,_=>by simp[Qr] at h
 |.code c::k,k',h,q=>by simp only[Qr] at h;simp only[KQ];exact Rj h q
 |.lp c::k,k',h,q=>by simp only[Qr] at h;simp only[KQ];exact Rj h q
 |.blk id'::k,k',h,q=>by
  simp only[Qr] at h
  simp only[KQ]
  by_cases e:id'=id
  ·rw[I4 e] at h
   simp at h;subst h
   rw[I4 e.symm];exact q
  ·rw[Iz e] at h
   rw[Iz (fun x=>e x.symm)]
   exact Rj h q
theorem We{id:Nat}{k':List KI}(hk:Qr id k=G k')(h:A5 C P R k' env σ):A5 C P R (.code (.exit id)::k) env σ:=by grind[KQ,wp_exit,Rj,A5]
theorem JS{env':List D}(hl:I env'=I env)(he:∀(i:Nat) (d':D),env'[i]?=G d'->d'=.undef∨env[i]?=G d')(h:A5 C P R k env' σ):A5 C P R k env σ:=fun E0 E g a w B hC hfi hB=>
 h E0 E g a w B hC ⟨hfi.wi,FM hfi.env hl he,hfi.defers⟩ hB
end
def X7(P:x7)(f:yx):Prop:=∃fn,P.funcs[f]?=G fn/\(fn.name=="runtime.NumGoroutine")=O/\fn.body.isNone=O
def Aa(P:x7)(f:yx)(ds:List D)(σ:St)(d:D)(σ':St):Prop:=
 X7 P f/\∀(g:Gh) (w:x5) (args:List yz),dh g σ w->Ag g ds args->
  Calls P f args.toArray w fun e w'=>∃u g',e=.returned u/\WI ⟨g,w,σ⟩ g' σ' w'/\Ah g' d u
def A7(P:x7)(fn:yw)(env:List D)(σ:St)(d:D)(σ':St):Prop:=
 ∀E g a w,FI E g σ env a w->E.g.n<=I σ'.H->∃u g',(results fn a.tmps).run P w=.ok u w/\WI E g' σ' w/\Ah g' d u
end Go.Dv

namespace Go.Dv
open List (length_singleton map_map nil_append)
open Go.Dv.V renaming list->ae,str->ab,agg->aa,int->a8,ref->bz,fn->bw,nils->bv,bool->bu
open Go.Dv.D renaming v->bt,acc->br,ptr->bq,arr->bo,gro->bm,tup->bl,undef->bk,dagg->bj
open Go.Dv.St renaming mk->bi
open Go.Dv.KI renaming blk->bh
def Ec(P:x7)(t:x6):Option (Nat×Bool):=
 match P.info? t,P.underlying t with
 |some i,some d=>G (i.size,match d with|.struct _|.array _ _=>true|_=>false)
 |_,_=>none
def Rg(P:x7)(t:x6):Prop:=Ec P t=G (1,false)
def Tw(P:x7)(t:x6)(n:Nat):Prop:=Ec P t=G (n,true)
def BW(P:x7)(t:x6):Option (x6×Nat×Nat×Option yz):=
 match P.underlying t with
 |some (.slice e)=>(P.info? e).map fun i=>(e,i.size,i.bytes,i.zero)
 |_=>none
def Sz(P:x7)(s:x6)(f:Nat):Option (Nat×Nat×Bool):=
 match P.underlying s with
 |some (.struct fs)=>(fs[f]?).bind fun x=>(Ec P x.type).map fun p=>(x.offset,p.1,p.2)
 |_=>none
def pw(P:x7)(t:x6):Option (Nat×Nat×Bool):=
 match P.underlying t with
 |some (.array n e)=>(Ec P e).map fun p=>(n,p.1,p.2)
 |_=>none
theorem MN{P:x7}{t:x6}{n:Nat}{b:Bool}(h:Ec P t=G (n,b)):
  ∃i d,P.info? t=G i/\P.underlying t=G d/\i.size=n/\(match d with|.struct _|.array _ _=>true|_=>false)=b:=by
 grind[Ec]
theorem Dl{P:x7}{t:x6}{n:Nat}{b:Bool}(h:Ec P t=G (n,b))(w:x5):(isAgg t).run P w=.ok b w:=by
 obtain⟨i,d,hi,hd,_,hb⟩:=MN h
 unfold isAgg
 rw[Sem.run_bind,run_underlying hd w]
 subst hb
 cases d<;>simp
theorem dw{P:x7}{t:x6}{n:Nat}{b:Bool}(h:Ec P t=G (n,b))(w:x5):(sizeOf t).run P w=.ok n w:=by
 obtain⟨i,d,hi,hd,hn,_⟩:=MN h
 simp[sizeOf,typeInfo,hi,hn]
theorem AF{P:x7}{t e:x6}{sz by':Nat}{z:Option yz}(h:BW P t=G (e,sz,by',z)):
  ∃i,P.underlying t=G (.slice e)/\P.info? e=G i/\i.size=sz/\i.bytes=by'/\i.zero=z:=by
 unfold BW at h
 split at h
 ·rename_i e' he
  cases hi:P.info? e'<;>grind
 grind
theorem K5{P:x7}{s:x6}{f off n:Nat}{b:Bool}(h:Sz P s f=G (off,n,b)):
  ∃fs x,P.underlying s=G (.struct fs)/\fs[f]?=G x/\x.offset=off/\Ec P x.type=G (n,b):=by
 unfold Sz at h
 grind[Ec]
theorem LR{P:x7}{t:x6}{len n:Nat}{b:Bool}(h:pw P t=G (len,n,b)):
  ∃e,P.underlying t=G (.array len e)/\Ec P e=G (n,b):=by
 grind[pw,Ec]
section
variable {P : x7} {o : yy} {ds : List D} {σ σ' : St} {d : D}
theorem A8(h:∀E g (ρ:x8->yz) w,WI E g σ w->Ag g ds (o.op.operands.toList.map ρ)->∃u,(execOp ρ o).run P w=.ok (.value u) w/\Ah g d u):Ak P o ds σ d σ:=by
 intro E g a w K Q hw hds hK
 obtain⟨u,hr,hd⟩:=h E g a.eval w hw hds
 unfold Oper.wp
 rw[hr]
 exact hK g w u hw g.le_refl hd
theorem BY{ds':List D}(hs:∀g us,Ag g ds us->Ag g ds' us)(h:Ak P o ds' σ d σ'):Ak P o ds σ d σ':=
 by grind[Ak]
def D.un:D->D
 |.acc _ xs=>.v (.list xs)
 |d=>d
theorem Ql{g:Gh}{d:D}{u:yz}(h:Ah g d u):Ah g d.un u:=by
 cases d<;>simp only[D.un]<;>first|exact h|grind[Ah]
theorem KL{g:Gh}:∀{ds:List D} {us:List yz},Ag g ds us->Ag g (ds.map D.un) us
 |[],us,h=>by simpa using h
 |d::ds,us,h=>by
  simp only[Ag,I9] at h⊢
  obtain⟨u,us',e,h1,h2⟩:=h
  exact⟨u,us',e,Ql h1,KL h2⟩
theorem UH(h:Ak P o (ds.map D.un) σ d σ'):Ak P o ds σ d σ':=by grind[KL,Ak]
theorem AG{g:Gh}{d:D}{us:List yz}:Ag g [d] us↔∃u,us=[u]/\Ah g d u:=by
 grind[Ag]
theorem Ax{g:Gh}{d e:D}{us:List yz}:Ag g [d,e] us↔∃u v,us=[u,v]/\Ah g d u/\Ah g e v:=by
 grind[Ag]
theorem Fw{g:Gh}{d e f:D}{us:List yz}:Ag g [d,e,f] us↔∃u v x,us=[u,v,x]/\Ah g d u/\Ah g e v/\Ah g f x:=by
 grind[Ag]
theorem Qw{x:x8}(ho:o.op=.move x):Ak P o [d] σ d σ:=by
 refine A8 fun E g ρ w hw hds=>?_
 simp only[ho,Op.operands,AG] at hds
 obtain⟨u,e,hd⟩:=hds
 simp at e
 exact⟨u,by simp[execOp,ho,e],hd⟩
theorem KR{x:x8}(ho:o.op=.assign x):Ak P o [d] σ d σ:=by
 refine A8 fun E g ρ w hw hds=>?_
 simp only[ho,Op.operands,AG] at hds
 obtain⟨u,e,hd⟩:=hds
 simp at e
 exact⟨u,by simp[execOp,ho,e],hd⟩
theorem UD{c x y:x8}(ho:o.op=.pick c x y){b:Bool}{d1 d2:D}:Ak P o [.v (.bool b),d1,d2] σ (if b then d1 else d2) σ:=by
 refine A8 fun E g ρ w hw hds=>?_
 simp only[ho,Op.operands,Fw] at hds
 obtain⟨u,v,z,e,h1,h2,h3⟩:=hds
 simp only[I9,Jo,HX,IL] at e
 obtain⟨e1,e2,e3⟩:=e
 simp only[Ah,EP] at h1
 refine⟨if b then v else z,?_,?_⟩
 ·simp only[execOp,ho,e1,h1,e2,e3]
  rfl
 grind
def Ash(op:BinOp)(k:yv)(a b:Int):Option V:=
 match op with
 |.add=>G (.int k (k.wrap (a+b)))
 |.sub=>G (.int k (k.wrap (a-b)))
 |.mul=>G (.int k (k.wrap (a*b)))
 |.and=>G (.int k (k.wrap (BitVec.ofInt k.bits a&&&BitVec.ofInt k.bits b).toNat))
 |.or=>G (.int k (k.wrap (BitVec.ofInt k.bits a|||BitVec.ofInt k.bits b).toNat))
 |.xor=>G (.int k (k.wrap (BitVec.ofInt k.bits a^^^BitVec.ofInt k.bits b).toNat))
 |.andNot=>G (.int k (k.wrap (BitVec.ofInt k.bits a&&& ~~~BitVec.ofInt k.bits b).toNat))
 |.eql=>G (.bool (a==b))
 |.neq=>G (.bool (a !=b))
 |.lss=>G (.bool (a<b))
 |.leq=>G (.bool (a<=b))
 |.gtr=>G (.bool (a>b))
 |.geq=>G (.bool (a>=b))
 |_=>none
theorem L7{op:BinOp}{t ty:x6}{x y:x8}(ho:o.op=.binOp op t x y ty){k:yv}{a b:Int}{r:V}(hr:Ash op k a b=G r):
  Ak P o [.v (.int k a),.v (.int k b)] σ (.v r) σ:=by
 refine A8 fun E g ρ w hw hds=>?_
 simp only[ho,Op.operands,Ax] at hds
 obtain⟨u,v,e,h1,h2⟩:=hds
 simp only[I9,Jo,HX,IL] at e
 obtain⟨e1,e2⟩:=e
 simp only[Ah,AC] at h1 h2
 subst h1 h2
 cases op<;>simp only[Ash,IF,reduceCtorEq] at hr<;>subst hr<;>
  simp[execOp,ho,e1,e2,eqGuard,binOp,Op.intArith,Op.intBits,Op.intCmp,Ah]
def Asy(op:BinOp)(k:yv)(a b:Int):Option V:=
 match op with
 |.quo=>G (.int k (k.wrap (a.tdiv b)))
 |.rem=>G (.int k (a.tmod b))
 |_=>none
theorem Ack{op:BinOp}{t ty:x6}{x y:x8}(ho:o.op=.binOp op t x y ty){k:yv}{a b:Int}{r:V}(hr:Asy op k a b=G r)(hb:b≠0):
  Ak P o [.v (.int k a),.v (.int k b)] σ (.v r) σ:=by
 refine A8 fun E g ρ w hw hds=>?_
 simp only[ho,Op.operands,Ax] at hds
 obtain⟨u,v,e,h1,h2⟩:=hds
 simp only[I9,Jo,HX,IL] at e
 obtain⟨e1,e2⟩:=e
 simp only[Ah,AC] at h1 h2
 subst h1 h2
 cases op<;>simp only[Asy,IF,reduceCtorEq] at hr<;>subst hr<;>
  simp[execOp,ho,e1,e2,eqGuard,binOp,Op.intDiv,hb,Ah]
def shI(op:BinOp)(k:yv)(a b:Int):Option V:=
 match op with
 |.shl=>G (.int k (k.wrap (a*2^(min b.toNat k.bits))))
 |.shr=>G (.int k (a.fdiv (2^(min b.toNat k.bits))))
 |_=>none
theorem Aj0{op:BinOp}{t ty:x6}{x y:x8}(ho:o.op=.binOp op t x y ty){k k':yv}{a b:Int}{r:V}(hr:shI op k a b=G r)(hb:0<=b):
  Ak P o [.v (.int k a),.v (.int k' b)] σ (.v r) σ:=by
 refine A8 fun E g ρ w hw hds=>?_
 simp only[ho,Op.operands,Ax] at hds
 obtain⟨u,v,e,h1,h2⟩:=hds
 simp only[I9,Jo,HX,IL] at e
 obtain⟨e1,e2⟩:=e
 simp only[Ah,AC] at h1 h2
 subst h1 h2
 have hb':¬b<0:=by omega
 cases op<;>simp only[shI,IF,reduceCtorEq] at hr<;>subst hr<;>
  simp[execOp,ho,e1,e2,eqGuard,binOp,Op.shift,hb',Ah]
def Aq2(op:BinOp)(a b:List UInt8):Option V:=
 match op with
 |.eql=>G (.bool (a==b))
 |.neq=>G (.bool !(a==b))
 |.lss=>G (.bool (Op.bytesLess a b))
 |.leq=>G (.bool (Op.bytesLess a b||a==b))
 |.gtr=>G (.bool !(Op.bytesLess a b||a==b))
 |.geq=>G (.bool !(Op.bytesLess a b))
 |_=>none
theorem TY(l:List UInt8):ByteArray.size ⟨l.toArray⟩=I l:=by rfl
theorem Alo{op:BinOp}{t ty:x6}{x y:x8}(ho:o.op=.binOp op t x y ty){a b:List UInt8}{r:V}(hr:Aq2 op a b=G r):
  Ak P o [.v (.str a),.v (.str b)] σ (.v r) σ:=by
 refine A8 fun E g ρ w hw hds=>?_
 simp only[ho,Op.operands,Ax] at hds
 obtain⟨u,v,e,h1,h2⟩:=hds
 simp only[I9,Jo,HX,IL] at e
 obtain⟨e1,e2⟩:=e
 simp only[Ah,D6] at h1 h2
 subst h1 h2
 cases op<;>simp only[Aq2,IF,reduceCtorEq] at hr<;>subst hr<;>
  simp[execOp,ho,e1,e2,eqGuard,binOp,Op.stringOp,Ah]
theorem Acr{t ty:x6}{x y:x8}(ho:o.op=.binOp .add t x y ty){a b:List UInt8}(hl:I a+I b<=9223372036854775807):
  Ak P o [.v (.str a),.v (.str b)] σ (.v (.str (a++b))) σ:=by
 refine A8 fun E g ρ w hw hds=>?_
 simp only[ho,Op.operands,Ax] at hds
 obtain⟨u,v,e,h1,h2⟩:=hds
 simp only[I9,Jo,HX,IL] at e
 obtain⟨e1,e2⟩:=e
 simp only[Ah,D6] at h1 h2
 subst h1 h2
 have hs:∀l:List UInt8,ByteArray.size ⟨l.toArray⟩=I l:=fun l=>by rfl
 have hn:¬(((I a+I b:Nat):Int)>yt.max):=by
  have:yt.max=9223372036854775807:=by decide
  omega
 refine⟨.string ⟨(a++b).toArray⟩,?_,by simp[Ah]⟩
 have hap:(⟨a.toArray⟩:ByteArray)++⟨b.toArray⟩=⟨(a++b).toArray⟩:=by
  rfl
 simp only[execOp,ho,e1,e2,binOp,Op.stringOp,hs,hn,if_false,hap]
 rfl
theorem Alm{op:BinOp}{t ty:x6}{x y:x8}(ho:o.op=.binOp op t x y ty)(hu:P.underlying t=G .bool){a b:Bool}(hop:op=.eql∨op=.neq):
  Ak P o [.v (.bool a),.v (.bool b)] σ (.v (.bool (if op=.eql then a==b else a !=b))) σ:=by
 refine A8 fun E g ρ w hw hds=>?_
 simp only[ho,Op.operands,Ax] at hds
 obtain⟨u,v,e,h1,h2⟩:=hds
 simp only[I9,Jo,HX,IL] at e
 obtain⟨e1,e2⟩:=e
 simp only[Ah,EP] at h1 h2
 subst h1 h2
 have heq:(Op.equal t (.bool a) (.bool b)).run P w=.ok (a==b) w:=by
  have gen:∀d,(Op.equalIn (d+1) t (.bool a) (.bool b)).run P w=.ok (a==b) w:=fun d=>by
   simp only[Op.equalIn,Sem.run_bind,run_underlying hu,Result.andThen_ok]
   rfl
  exact gen 9999
 refine⟨.bool (if op=.eql then a==b else a !=b),?_,by simp[Ah]⟩
 rcases hop with rfl|rfl<;>
  simp[execOp,ho,e1,e2,eqGuard,binOp,heq,bne]
def unI(op:UnOp)(x:V):Option V:=
 match op,x with
 |.not,.bool b=>G (.bool !b)
 |.neg,.int k n=>G (.int k (k.wrap (0-n)))
 |_,_=>none
theorem AqS{op:UnOp}{t:x6}{x:x8}(ho:o.op=.unOp op t x){a r:V}(hr:unI op a=G r):Ak P o [.v a] σ (.v r) σ:=by
 refine A8 fun E g ρ w hw hds=>?_
 simp only[ho,Op.operands,AG] at hds
 obtain⟨u,e,h1⟩:=hds
 simp at e
 unfold unI at hr
 split at hr
 ·simp at hr;subst hr
  simp only[Ah,EP] at h1
  exact⟨_,by simp[execOp,ho,e,h1,Op.unary];rfl,by simp[Ah]⟩
 ·simp only[IF] at hr;subst hr
  simp only[Ah,AC] at h1
  exact⟨_,by simp only[execOp,ho,e,h1,Op.unary,Op.intArith];rfl,by simp[Ah]⟩
 grind
theorem Mz{src dst:x6}{x:x8}(ho:o.op=.convert src dst x){k k':yv}{n:Int}{ds':TypeDesc}(hs:P.underlying src=G ds')(hd:P.underlying dst=G (.int k')):
  Ak P o [.v (.int k n)] σ (.v (.int k' (k'.wrap n))) σ:=by
 refine A8 fun E g ρ w hw hds=>?_
 simp only[ho,Op.operands,AG] at hds
 obtain⟨u,e,h1⟩:=hds
 simp at e
 simp only[Ah,AC] at h1
 refine⟨.int k' (k'.wrap n),?_,by simp[Ah]⟩
 simp only[execOp,ho,e,h1,convert,Sem.run_bind,run_underlying hs,run_underlying hd,Result.andThen_ok,Conv.intToInt]
 rfl
theorem L6{x:x8}{i:Nat}(ho:o.op=.extract x i){ds:List D}(hd:ds[i]?=G d):Ak P o [.tup ds] σ d σ:=by
 refine A8 fun E g ρ w hw hds=>?_
 simp only[ho,Op.operands,AG] at hds
 obtain⟨u,e,h1⟩:=hds
 simp at e
 simp only[Ah] at h1
 obtain⟨us,rfl,h2⟩:=h1
 obtain⟨u,hu,h3⟩:=B7 h2 hd
 exact⟨u,by simp[execOp,ho,e,Instr.extract,hu],h3⟩
theorem Nw{x:x8}(ho:o.op=.nilCheck x){q off:Nat}:Ak P o [.ptr q off] σ (.ptr q off) σ:=by
 refine A8 fun E g ρ w hw hds=>?_
 simp only[ho,Op.operands,AG] at hds
 obtain⟨u,e,h1⟩:=hds
 simp at e
 refine⟨u,?_,h1⟩
 simp only[Ah] at h1
 simp[execOp,ho,e,h1.2]
theorem Nu{x:x8}(ho:o.op=.nilCheck x){y:V}:Ak P o [.v (.ref y)] σ (.v (.ref y)) σ:=by
 refine A8 fun E g ρ w hw hds=>?_
 simp only[ho,Op.operands,AG] at hds
 obtain⟨u,e,h1⟩:=hds
 simp at e
 refine⟨u,?_,h1⟩
 simp only[Ah,DO] at h1
 obtain⟨b,off,us,rfl,_⟩:=h1
 simp[execOp,ho,e]
theorem L5{x:x8}{t:x6}(ho:o.op=.call { callee:=.builtin .len,args:= #[x],argTypes:= #[t]}){e:x6}(ht:P.underlying t=G (.slice e)){xs:List V}:
  Ak P o [.v (.list xs)] σ (.v (.int .i64 (I xs))) σ:=by
 refine A8 fun E g ρ w hw hds=>?_
 simp only[ho,Op.operands,Call.operands,AG] at hds
 obtain⟨u,e,h1⟩:=hds
 simp at e
 simp only[Ah,B6] at h1
 obtain⟨a,cap,rfl,_⟩:=h1
 exact⟨_,by simp[execOp,ho,e,resolve,invoke,builtin,Builtin.len_,run_underlying ht,goInt];rfl,by simp[Ah]⟩
theorem Qx{x:x8}{t:x6}(ho:o.op=.call { callee:=.builtin .len,args:= #[x],argTypes:= #[t]}){e:x6}(ht:P.underlying t=G (.slice e)){q off len:Nat}:
  Ak P o [.arr q off len] σ (.v (.int .i64 len)) σ:=by
 refine A8 fun E g ρ w hw hds=>?_
 simp only[ho,Op.operands,Call.operands,AG] at hds
 obtain⟨u,e,h1⟩:=hds
 simp at e
 simp only[Ah] at h1
 obtain⟨_,cap,_,rfl⟩:=h1
 exact⟨_,by simp[execOp,ho,e,resolve,invoke,builtin,Builtin.len_,run_underlying ht,goInt];rfl,by simp[Ah]⟩
theorem Alg{x:x8}{t:x6}(ho:o.op=.call { callee:=.builtin .len,args:= #[x],argTypes:= #[t]})(ht:P.underlying t=G .string){s:List UInt8}:
  Ak P o [.v (.str s)] σ (.v (.int .i64 (I s))) σ:=by
 refine A8 fun E g ρ w hw hds=>?_
 simp only[ho,Op.operands,Call.operands,AG] at hds
 obtain⟨u,e,h1⟩:=hds
 simp at e
 simp only[Ah,D6] at h1
 subst h1
 exact⟨_,by simp[execOp,ho,e,resolve,invoke,builtin,Builtin.len_,run_underlying ht,goInt,TY];rfl,by simp[Ah]⟩
theorem Aog{x y:x8}{ts:Array x6}(ho:o.op=.call { callee:=.builtin .max,args:= #[x,y],argTypes:=ts }){k:yv}{a b:Int}:
  Ak P o [.v (.int k a),.v (.int k b)] σ (.v (.int k (if b>a then b else a))) σ:=by
 refine A8 fun E g ρ w hw hds=>?_
 simp only[ho,Op.operands,Call.operands] at hds
 have hds':=Ax.1 (by simpa using hds)
 obtain⟨u,v,e,h1,h2⟩:=hds'
 simp only[HX,IL] at e
 simp only[Ah,AC] at h1 h2
 exact⟨_,by simp[execOp,ho,e.1,e.2,h1,h2,resolve,invoke,builtin,Builtin.max_,Builtin.max2];rfl,by simp[Ah]⟩
theorem Aof{x y:x8}{ts:Array x6}(ho:o.op=.call { callee:=.builtin .min,args:= #[x,y],argTypes:=ts }){k:yv}{a b:Int}:
  Ak P o [.v (.int k a),.v (.int k b)] σ (.v (.int k (if b<a then b else a))) σ:=by
 refine A8 fun E g ρ w hw hds=>?_
 simp only[ho,Op.operands,Call.operands] at hds
 have hds':=Ax.1 (by simpa using hds)
 obtain⟨u,v,e,h1,h2⟩:=hds'
 simp only[HX,IL] at e
 simp only[Ah,AC] at h1 h2
 exact⟨_,by simp[execOp,ho,e.1,e.2,h1,h2,resolve,invoke,builtin,Builtin.min_,Builtin.min2];rfl,by simp[Ah]⟩
end
section
variable {M : c6}
theorem Wl:∀{cs:List V} {us:List yz},repA M cs us->∀{i:Nat} {c:V},cs[i]?=G c->∃u,us[i]?=G u/\c.isAgg=O/\repC M c [u]
 |[],us,h,i,c,hc=>by simp at hc
 |c0::cs,us,h,i,c,hc=>by
  simp only[repA] at h
  obtain⟨u,us',rfl,ha,h1,h2⟩:=h
  cases i with
  |zero=>simp at hc;subst hc;exact⟨u,by simp,ha,h1⟩
  |succ i=>simp at hc;obtain⟨u',e,h3⟩:=Wl h2 hc;exact⟨u',by simpa using e,h3⟩
theorem KN:∀{cs:List V} {us:List yz},repA M cs us->∀(n:Nat),repA M (cs.drop n) (us.drop n)
 |[],us,h,n=>by simp only[repA] at h;simp[h,repA]
 |c0::cs,us,h,n=>by
  cases n with
  |zero=>simpa using h
  |succ n=>
   simp only[repA] at h
   obtain⟨u,us',rfl,ha,h1,h2⟩:=h
   simpa using KN h2 n
theorem KM:∀{cs:List V} {us:List yz},repA M cs us->∀(n:Nat),repA M (cs.take n) (us.take n)
 |[],us,h,n=>by simp only[repA] at h;simp[h,repA]
 |c0::cs,us,h,n=>by
  cases n with
  |zero=>simp[repA]
  |succ n=>
   simp only[repA] at h
   obtain⟨u,us',rfl,ha,h1,h2⟩:=h
   simp only[List.take_succ_cons,repA]
   exact⟨u,_,rfl,ha,h1,KM h2 n⟩
theorem Cd{sz:Nat}:∀{xs:List V} {us:List yz},repE M sz xs us->I us=I xs*sz
 |[],us,h=>by simp only[repE] at h;simp[h]
 |x::xs,us,h=>by
  simp only[repE] at h
  obtain⟨u1,u2,rfl,hl,h1,h2⟩:=h
  simp[Cd h2,hl,J1,Nat.add_comm]
theorem Wg{sz:Nat}:∀{xs:List V} {us:List yz},repE M sz xs us->∀{i:Nat} {x:V},xs[i]?=G x->
  ∃u1,repC M x u1/\u1.length=sz/\∀j v,u1[j]?=G v->us[i*sz+j]?=G v
 |[],us,h,i,c,hc=>by simp at hc
 |x0::xs,us,h,i,x,hc=>by
  simp only[repE] at h
  obtain⟨u1,u2,rfl,hl,h1,h2⟩:=h
  cases i with
  |zero=>
   simp at hc;subst hc
   refine⟨u1,h1,hl,fun j v hj=>?_⟩
   have:j<I u1:=(HN.1 hj).1
   rw[Nat.zero_mul,IT,I5 this];exact hj
  |succ i=>
   simp at hc
   obtain⟨u',hr,hl',hg⟩:=Wg h2 hc
   refine⟨u',hr,hl',fun j v hj=>?_⟩
   have e:(i+1)*sz+j=I u1+(i*sz+j):=by rw[hl,J1];omega
   rw[e,I2 (by omega)]
   have:I u1+(i*sz+j)-I u1=i*sz+j:=by omega
   rw[this];exact hg j v hj
theorem RQ{sz:Nat}:∀{xs:List V} {us:List yz},repE M sz xs us->∀(n:Nat),repE M sz (xs.drop n) (us.drop (n*sz))
 |[],us,h,n=>by simp only[repE] at h;simp[h,repE]
 |x::xs,us,h,n=>by
  cases n with
  |zero=>simpa using h
  |succ n=>
   simp only[repE] at h
   obtain⟨u1,u2,rfl,hl,h1,h2⟩:=h
   have:=RQ h2 n
   have e:(n+1)*sz=I u1+n*sz:=by rw[hl,J1];omega
   have e2:(u1++u2).drop (I u1+n*sz)=u2.drop (n*sz):=by
    rw[List.drop_append,I3 (Nat.le_add_right (I u1) (n*sz)),nil_append,Nat.add_sub_cancel_left]
   rw[e,e2]
   exact this
theorem RO{sz:Nat}:∀{xs:List V} {us:List yz},repE M sz xs us->∀(n:Nat),repE M sz (xs.take n) (us.take (n*sz))
 |[],us,h,n=>by simp only[repE] at h;simp[h,repE]
 |x::xs,us,h,n=>by
  cases n with
  |zero=>simp[repE]
  |succ n=>
   simp only[repE] at h
   obtain⟨u1,u2,rfl,hl,h1,h2⟩:=h
   simp only[List.take_succ_cons,repE]
   have e:(n+1)*sz=I u1+n*sz:=by rw[hl,J1];omega
   refine⟨u1,u2.take (n*sz),?_,hl,h1,RO h2 n⟩
   rw[e,List.take_append,IB (Nat.le_add_right _ _),Nat.add_sub_cancel_left]
theorem WK{b off:Nat}{us:List yz}(h:f9 M b off us)(n:Nat):f9 M b (off+n) (us.drop n):=by grind[f9]
theorem WJ{b off:Nat}{us:List yz}(h:f9 M b off us)(n:Nat):f9 M b off (us.take n):=by grind[f9]
end
def Np(cs:List V)(fo n:Nat)(b:Bool):Option V:=if b then(if fo+n<=I cs then G (.agg ((cs.drop fo).take n)) else none) else cs[fo]?
theorem No{M:c6}{cs:List V}{us:List yz}{fo n:Nat}{b:Bool}{x:V}(h:Np cs fo n b=G x)(hr:repA M cs us)(hn:b=O->n=1):
  repC M x ((us.drop fo).take n)/\x.isAgg=b/\((us.drop fo).take n).length=n:=by
 grind[Eg,Np,repC,KM,KN,Wl,List.drop_eq_getElem_cons,V.isAgg]
def D.toV:D->Option V
 |.v x=>G x
 |.acc _ xs=>G (.list xs)
 |_=>none
def Fu:List D->Option (List V)
 |[]=>G []
 |d::ds=>match d.toV,Fu ds with
  |some x,some xs=>G (x::xs)
  |_,_=>none
theorem Lz{g:Gh}{d:D}{x:V}{u:yz}(h:d.toV=G x)(hr:Ah g d u):repV g.M x u:=by
 cases d<;>simp[D.toV] at h<;>subst h
 all_goals grind[Ah]
theorem Gp{g:Gh}:∀{ds:List D} {xs:List V} {us:List yz},Fu ds=G xs->Ag g ds us->(∀c∈ds,c.one=J)->repA g.M xs us
 |[],xs,us,h,hr,_=>by simp[Fu] at h;subst h;simpa[Ag,repA] using hr
 |d::ds,xs,us,h,hr,h1=>by
  simp only[Fu] at h
  split at h
  ·rename_i x xs' hx hxs
   simp at h;subst h
   simp only[Ag] at hr
   obtain⟨u,us',rfl,h2,h3⟩:=hr
   simp only[repA]
   have hxa:x.isAgg=O:=by
    have:=h1 d (by simp)
    cases d<;>simp[D.toV] at hx<;>subst hx<;>simp_all [D.one,V.isAgg]
   exact⟨u,us',rfl,hxa,(BP hxa).1 (Lz hx h2),Gp hxs h3 (fun c hc=>h1 c (by simp[hc]))⟩
  ·simp at h
section
variable {P : x7} {o : yy} {σ : St} {d : D}
theorem EU{E:c9}{g:Gh}{w:x5}(hw:WI E g σ w){b off:Nat}{us:List yz}(h:f9 g.M b off us):∀j v,us[j]?=G v->w.cell? ((⟨b,off,none⟩:Addr).add j)=G v:=fun j v hj=>by
 rw[Addr.add_lit];exact hw.rep.mem _ _ _ (h j v hj)
theorem Gg{t:x6}{a:x8}(ho:o.op=.load t a)(ht:Rg P t){x:V}(hx:x.isAgg=O):Ak P o [.v (.ref x)] σ (.v x) σ:=by
 refine A8 fun E g ρ w hw hds=>?_
 simp only[ho,Op.operands,AG] at hds
 obtain⟨u,e,h1⟩:=hds
 simp at e
 simp only[Ah,DO] at h1
 obtain⟨b,off,us,rfl,hi,hr⟩:=h1
 obtain⟨u',rfl,hm,_⟩:=De hx hr
 have hc:w.cell? ⟨b,off,none⟩=G u':=by have:=hw.rep.mem _ _ _ (hi 0 u' (by simp));omega
 refine⟨u',?_,by grind[Ah,BP]⟩
 simp[execOp,ho,e,Instr.loadAt,Instr.sureAddr,loadVar,Dl ht,hc]
theorem Gf{t:x6}{a:x8}(ho:o.op=.load t a){cs:List V}(ht:Tw P t (I cs)):Ak P o [.v (.ref (.agg cs))] σ (.v (.agg cs)) σ:=by
 refine A8 fun E g ρ w hw hds=>?_
 simp only[ho,Op.operands,AG] at hds
 obtain⟨u,e,h1⟩:=hds
 simp at e
 simp only[Ah,DO] at h1
 obtain⟨b,off,us,rfl,hi,hr⟩:=h1
 simp only[repC] at hr
 have hl:=Eg hr
 have hld:=run_loadCells_list (P:=P) w ⟨b,off,none⟩ us (EU hw hi)
 rw[hl] at hld
 refine⟨.agg us.toArray,?_,by grind[Ah,Cx]⟩
 simp[execOp,ho,e,Instr.loadAt,Instr.sureAddr,loadVar,Dl ht,dw ht,hld]
theorem Acm{t:x6}{a:x8}(ho:o.op=.load t a)(ht:Rg P t){q off:Nat}{cs:List D}(hH:σ.H[q]?=G (G cs))(hc:cs[off]?=G d):Ak P o [.ptr q off] σ d σ:=by
 refine A8 fun E g ρ w hw hds=>?_
 simp only[ho,Op.operands,AG] at hds
 obtain⟨u,e,h1⟩:=hds
 simp at e
 simp only[Ah] at h1
 obtain⟨_,rfl⟩:=h1
 obtain⟨us,rest,et,hb,hr,_,_⟩:=hw.rep.obj q cs hH
 obtain⟨u',hu,hd⟩:=B7 hr hc
 have hcell:w.cell? ⟨g.β q,off,none⟩=G u':=by grind[World.cell?]
 refine⟨u',?_,hd⟩
 simp[execOp,ho,e,Instr.loadAt,Instr.sureAddr,loadVar,Dl ht,hcell]
theorem Cz{g:Gh}:∀{cs:List D} {us:List yz},Ag g cs us->∀(n:Nat),Ag g (cs.drop n) (us.drop n)
 |[],us,h,n=>by simp only[Ag] at h;simp[h,Ag]
 |c0::cs,us,h,n=>by
  cases n with
  |zero=>simpa using h
  |succ n=>
   simp only[Ag] at h
   obtain⟨u,us',rfl,h1,h2⟩:=h
   simpa using Cz h2 n
theorem Cn{g:Gh}:∀{cs:List D} {us:List yz},Ag g cs us->∀(n:Nat),Ag g (cs.take n) (us.take n)
 |[],us,h,n=>by simp only[Ag] at h;simp[h,Ag]
 |c0::cs,us,h,n=>by
  cases n with
  |zero=>simp[Ag]
  |succ n=>
   simp only[Ag] at h
   obtain⟨u,us',rfl,h1,h2⟩:=h
   simp only[List.take_succ_cons,Ag]
   exact⟨u,_,rfl,h1,Cn h2 n⟩
theorem Sf{t:x6}{a:x8}(ho:o.op=.load t a){n:Nat}(ht:Tw P t n){q off:Nat}{cs:List D}(hH:σ.H[q]?=G (G cs)){xs:List V}
  (hn:off+n<=I cs) (hc:Fu ((cs.drop off).take n)=G xs):Ak P o [.ptr q off] σ (.v (.agg xs)) σ:=by
 refine A8 fun E g ρ w hw hds=>?_
 simp only[ho,Op.operands,AG] at hds
 obtain⟨u,e,h1⟩:=hds
 simp at e
 simp only[Ah] at h1
 obtain⟨_,rfl⟩:=h1
 obtain⟨us,rest,et,hb,hr,h1,_⟩:=hw.rep.obj q cs hH
 have hra:=Gp hc (Cn (Cz hr off) n) (fun c hc'=>h1 c (IY (J6 hc')))
 have hl:I us=I cs:=A3 hr
 have hld:=run_loadCells_list (P:=P) w ⟨g.β q,off,none⟩ ((us.drop off).take n) (fun j v hj=>by
  grind[World.cell?,Addr.add])
 have hlen:I ((us.drop off).take n)=n:=by grind
 rw[hlen] at hld
 refine⟨.agg ((us.drop off).take n).toArray,?_,by grind[Ah,Cx]⟩
 simp only[execOp,ho,e,Instr.loadAt,Instr.sureAddr,loadVar,Sem.run_bind,Sem.run_pure,Result.andThen_ok,Dl ht,dw ht,hld,Jz]
theorem Aco{s:x6}{x:x8}{f:Nat}(ho:o.op=.fieldAddr s x f){fo n:Nat}{b:Bool}(hf:Sz P s f=G (fo,n,b))(hn:n≠0){q off:Nat}:Ak P o [.ptr q off] σ (.ptr q (off+fo)) σ:=by
 refine A8 fun E g ρ w hw hds=>?_
 simp only[ho,Op.operands,AG] at hds
 obtain⟨u,e,h1⟩:=hds
 simp at e
 simp only[Ah] at h1
 obtain⟨hq,rfl⟩:=h1
 obtain⟨fs,y,hs,hy,hoff,hz⟩:=K5 hf
 refine⟨.pointer (G ⟨g.β q,off+fo,none⟩),?_,by grind[Ah]⟩
 simp[execOp,ho,e,Instr.fieldAt,run_underlying hs,hy,Instr.sureAddr,fieldPlace,dw hz,hn,Addr.add_lit,hoff]
theorem Gi{s:x6}{x:x8}{f:Nat}(ho:o.op=.fieldAddr s x f){fo n:Nat}{b:Bool}(hf:Sz P s f=G (fo,n,b))(hn:n≠0)(hn1:b=O->n=1){cs:List V}{y:V}(hp:Np cs fo n b=G y):
  Ak P o [.v (.ref (.agg cs))] σ (.v (.ref y)) σ:=by
 refine A8 fun E g ρ w hw hds=>?_
 simp only[ho,Op.operands,AG] at hds
 obtain⟨u,e,h1⟩:=hds
 simp at e
 simp only[Ah,DO] at h1
 obtain⟨bb,off,us,rfl,hi,hr⟩:=h1
 obtain⟨fs,z,hs,hy,hoff,hz⟩:=K5 hf
 simp only[repC] at hr
 obtain⟨h3,_,_⟩:=No hp hr hn1
 refine⟨.pointer (G ⟨bb,off+fo,none⟩),?_,by simp only[Ah,DO];grind[f9]⟩
 simp[execOp,ho,e,Instr.fieldAt,run_underlying hs,hy,Instr.sureAddr,fieldPlace,dw hz,hn,Addr.add_lit,hoff]
theorem Wd{M:c6}{t:x6}{n:Nat}{b:Bool}(hz:Ec P t=G (n,b)){cs:List V}{us:List yz}{fo:Nat}{y:V}(hp:Np cs fo n b=G y)(hr:repA M cs us)(hn1:b=O->n=1)(w:x5):
  ∃u,(part t us.toArray fo).run P w=.ok u w/\repV M y u:=by
 obtain⟨h3,ha,hl⟩:=No hp hr hn1
 cases b with
 |true=>
  refine⟨.agg ((us.drop fo).take n).toArray,?_,?_⟩
  ·simp only[part,Sem.run_bind,Dl hz,dw hz,Result.andThen_ok,Jz,Sem.run_pure]
   grind
  ·cases y<;>grind[Cx,repC,V.isAgg]
 |false=>
  obtain⟨u,e1,_,_⟩:=De ha h3
  obtain rfl:=hn1 rfl
  have hu:us[fo]?=G u:=by
   have:((us.drop fo).take 1)[0]?=G u:=by grind
   grind
  refine⟨u,?_,(BP ha).2 (by grind)⟩
  simp[part,Dl hz,hu]
theorem AgU{s:x6}{x:x8}{f:Nat}(ho:o.op=.field s x f){fo n:Nat}{b:Bool}(hf:Sz P s f=G (fo,n,b))(hn1:b=O->n=1){cs:List V}{y:V}(hp:Np cs fo n b=G y):
  Ak P o [.v (.agg cs)] σ (.v y) σ:=by
 refine A8 fun E g ρ w hw hds=>?_
 simp only[ho,Op.operands,AG] at hds
 obtain⟨u,e,h1⟩:=hds
 simp at e
 simp only[Ah,Cx] at h1
 obtain⟨us,hr,rfl⟩:=h1
 obtain⟨fs,z,hs,hy,hoff,hz⟩:=K5 hf
 obtain⟨v,hrun,hv⟩:=Wd hz hp hr hn1 w
 refine⟨v,?_,by grind[Ah]⟩
 simp only[execOp,ho,e,Instr.field,Sem.run_bind,run_underlying hs,Result.andThen_ok,hy,asAgg,Sem.run_pure,hoff,hrun]
theorem Alj{t:x6}{x ix:x8}(ho:o.op=.indexAddr t x ix){e:x6}{sz by':Nat}{z:Option yz}(hs:BW P t=G (e,sz,by',z)){xs:List V}{y:V}{k:yv}{i:Int}(h0:0<=i)
  (hx:xs[i.toNat]?=G y) (hy:y.size=sz):Ak P o [.v (.list xs),.v (.int k i)] σ (.v (.ref y)) σ:=by
 refine A8 fun E g ρ w hw hds=>?_
 simp only[ho,Op.operands,Ax] at hds
 obtain⟨u,v,eq,h1,h2⟩:=hds
 simp only[I9,Jo,HX,IL] at eq
 obtain⟨e1,e2⟩:=eq
 simp only[Ah,AC,B6] at h1 h2
 subst h2
 obtain⟨a,cap,rfl,hc,h1⟩:=h1
 have hlt:i.toNat<I xs:=(HN.1 hx).1
 rcases h1 with rfl|⟨b,off,sz',us,rfl,hsz,hi,hr⟩
 ·grind
 obtain⟨inf,hu,hinf,hsize,_,_⟩:=AF hs
 obtain⟨u1,hc1,hl1,hg⟩:=Wg hr hx
 have hss:sz'=sz:=by grind[GH]
 subst hss
 refine⟨.pointer (G ⟨b,off+i.toNat*sz',none⟩),?_,?_⟩
 ·have hlt':i<(I xs:Int):=by omega
  simp[execOp,ho,e1,e2,Instr.indexAt,asIntOf,run_underlying hu,h0,hlt',sizeOf,typeInfo,hinf,hsize,Addr.add_lit]
 ·simp only[Ah,DO]
  grind[f9]
theorem Alk{t:x6}{x ix:x8}(ho:o.op=.indexAddr t x ix){e:x6}{sz by':Nat}{z:Option yz}(hs:BW P t=G (e,sz,by',z)){q off len:Nat}{k:yv}{i:Int}(h0:0<=i)(h1:i<len):
  Ak P o [.arr q off len,.v (.int k i)] σ (.ptr q (off+i.toNat*sz)) σ:=by
 refine A8 fun E g ρ w hw hds=>?_
 simp only[ho,Op.operands,Ax] at hds
 obtain⟨u,v,eq,h1',h2⟩:=hds
 simp only[I9,Jo,HX,IL] at eq
 obtain⟨e1,e2⟩:=eq
 simp only[Ah,AC] at h1' h2
 subst h2
 obtain⟨hq,cap,hc,rfl⟩:=h1'
 obtain⟨inf,hu,hinf,hsize,_,_⟩:=AF hs
 refine⟨.pointer (G ⟨g.β q,off+i.toNat*sz,none⟩),?_,by grind[Ah]⟩
 simp[execOp,ho,e1,e2,Instr.indexAt,asIntOf,run_underlying hu,h0,h1,sizeOf,typeInfo,hinf,hsize,Addr.add_lit]
theorem AgT{t:x6}{x ix:x8}(ho:o.op=.indexAddr t x ix){len sz:Nat}{b:Bool}(hs:pw P t=G (len,sz,b)){q off:Nat}{k:yv}{i:Int}(h0:0<=i)(h1:i<len):
  Ak P o [.ptr q off,.v (.int k i)] σ (.ptr q (off+i.toNat*sz)) σ:=by
 refine A8 fun E g ρ w hw hds=>?_
 simp only[ho,Op.operands,Ax] at hds
 obtain⟨u,v,eq,h1',h2⟩:=hds
 simp only[I9,Jo,HX,IL] at eq
 obtain⟨e1,e2⟩:=eq
 simp only[Ah,AC] at h1' h2
 subst h2
 obtain⟨hq,rfl⟩:=h1'
 obtain⟨e,hu,hz⟩:=LR hs
 refine⟨.pointer (G ⟨g.β q,off+i.toNat*sz,none⟩),?_,by grind[Ah]⟩
 simp[execOp,ho,e1,e2,Instr.indexAt,asIntOf,run_underlying hu,h0,h1,dw hz,Addr.add_lit,Instr.sureAddr]
theorem AgS{t:x6}{x ix:x8}(ho:o.op=.indexAddr t x ix){len sz:Nat}{b:Bool}(hs:pw P t=G (len,sz,b))(hn1:b=O->sz=1){cs:List V}{y:V}{k:yv}{i:Int}(h0:0<=i)(h1:i<len)
  (hp:Np cs (i.toNat*sz) sz b=G y):Ak P o [.v (.ref (.agg cs)),.v (.int k i)] σ (.v (.ref y)) σ:=by
 refine A8 fun E g ρ w hw hds=>?_
 simp only[ho,Op.operands,Ax] at hds
 obtain⟨u,v,eq,h1',h2⟩:=hds
 simp only[I9,Jo,HX,IL] at eq
 obtain⟨e1,e2⟩:=eq
 simp only[Ah,AC,DO] at h1' h2
 subst h2
 obtain⟨bb,off,us,rfl,hi,hr⟩:=h1'
 obtain⟨e,hu,hz⟩:=LR hs
 simp only[repC] at hr
 obtain⟨h3,_,_⟩:=No hp hr hn1
 refine⟨.pointer (G ⟨bb,off+i.toNat*sz,none⟩),?_,by grind[Ah,DO,WJ,WK]⟩
 simp[execOp,ho,e1,e2,Instr.indexAt,asIntOf,run_underlying hu,h0,h1,dw hz,Addr.add_lit,Instr.sureAddr]
theorem Ali{t:x6}{x ix:x8}(ho:o.op=.index t x ix)(ht:P.underlying t=G .string){s:List UInt8}{k:yv}{i:Int}{c:UInt8}(h0:0<=i)(hc:s[i.toNat]?=G c):
  Ak P o [.v (.str s),.v (.int k i)] σ (.v (.int .u8 c.toNat)) σ:=by
 refine A8 fun E g ρ w hw hds=>?_
 simp only[ho,Op.operands,Ax] at hds
 obtain⟨u,v,eq,h1',h2⟩:=hds
 simp only[I9,Jo,HX,IL] at eq
 obtain⟨e1,e2⟩:=eq
 simp only[Ah,AC,D6] at h1' h2
 subst h1' h2
 refine⟨.int .u8 c.toNat,?_,by simp[Ah]⟩
 have hlt:i.toNat<I s:=(HN.1 hc).1
 have hb:(⟨s.toArray⟩:ByteArray)[i.toNat]?=G c:=by
  rw[getElem?_pos _ _ (by grind[TY])]
  have:=(HN.1 hc).2
  simp only[IF]
  rw[←this];rfl
 simp[execOp,ho,e1,e2,Instr.index,asIntOf,run_underlying ht,h0,hb]
theorem Alh{t:x6}{x ix:x8}(ho:o.op=.index t x ix){len sz:Nat}{b:Bool}(hs:pw P t=G (len,sz,b))(hn1:b=O->sz=1){cs:List V}{y:V}{k:yv}{i:Int}(h0:0<=i)(h1:i<len)
  (hp:Np cs (i.toNat*sz) sz b=G y):Ak P o [.v (.agg cs),.v (.int k i)] σ (.v y) σ:=by
 refine A8 fun E g ρ w hw hds=>?_
 simp only[ho,Op.operands,Ax] at hds
 obtain⟨u,v,eq,h1',h2⟩:=hds
 simp only[I9,Jo,HX,IL] at eq
 obtain⟨e1,e2⟩:=eq
 simp only[Ah,AC,Cx] at h1' h2
 subst h2
 obtain⟨us,hr,rfl⟩:=h1'
 obtain⟨e,hu,hz⟩:=LR hs
 obtain⟨v,hrun,hv⟩:=Wd hz hp hr hn1 w
 refine⟨v,?_,by grind[Ah]⟩
 simp[execOp,ho,e1,e2,Instr.index,asIntOf,run_underlying hu,h0,h1,dw hz,hrun]
end
theorem WI.update{E:c9}{g g':Gh}{σ σ':St}{w w':x5}(hw:WI E g σ w)(X:Nat->Prop)(hX:∀b,X b->E.w.heap.size<=b∨E.priv b)
  (keep:∀b,b<w.heap.size->¬X b->w'.heap[b]?=w.heap[b]?/\∀o,g'.M b o=g.M b o)
  (hle:g.M.le g'.M) (hn:g.n<=g'.n) (hβ:∀o,o<g.n->g'.β o=g.β o) (hκ:∀o,o<g.n->g'.κ o=g.κ o) (size:w.heap.size<=w'.heap.size) (os:w'.os=w.os) (tape:w'.tape=w.tape) (output:w'.output=w.output)
  (rep:dh g' σ' w') (objs:∀i cs,σ'.H[i]?=G (G cs)->E.w.heap.size<=g'.β i∨E.priv (g'.β i))
  (owns:∀x∈σ'.own,∀u,g'.ι x.1 (I x.2.2)=G u->∀b,Co u=G b->E.w.heap.size<=b∨E.priv b)
  (drawn:BV w.drawn w'.drawn:=by first|exact BV.refl _|exact BV.succ _|assumption):WI E g' σ' w' where
 rep:=rep
 M:=c6.le_trans hw.M hle
 size:=Jn hw.size size
 keep:=fun b hb hp=>by
  grind[keep]
 os:=os.trans hw.os
 tape:=tape.trans hw.tape
 output:=output.trans hw.output
 nE:=Jn hw.nE hn
 βE:=fun o ho=>(hβ o (J9 ho hw.nE)).trans (hw.βE o ho)
 κE:=fun o ho=>(hκ o (J9 ho hw.nE)).trans (hw.κE o ho)
 objs:=objs
 owns:=owns
 drawn:=hw.drawn.trans drawn
theorem QE{w:x5}{b:Nat}{o:Obj}(h:w.heap[b]?=G o):b<w.heap.size:=by grind
theorem dh.mem_lt{g:Gh}{σ:St}{w:x5}(h:dh g σ w){b o:Nat}{v:yz}(hm:g.M b o=G v):b<w.heap.size:=
 World.block_lt_of_cell? w ⟨b,o,none⟩ (h.mem b o v hm)
theorem dh.new_none{g:Gh}{σ:St}{w:x5}(h:dh g σ w){b:Nat}(hb:w.heap.size<=b)(o:Nat):g.M b o=none:=by
 cases e:g.M b o with
 |none=>rfl
 |some v=>have:=h.mem_lt e;omega
theorem dh.own_lt{g:Gh}{σ:St}{w:x5}(h:dh g σ w){x:Nat×Nat×List V}(hx:x∈σ.own){u:yz}(hu:g.ι x.1 (I x.2.2)=G u){b:Nat}(hb:Co u=G b):b<w.heap.size:=by
 obtain⟨_,u',hu',_,hp,_⟩:=h.own x.1 x.2.1 x.2.2 hx
 rw[hu] at hu'
 obtain rfl:u=u':=by grind
 rcases hp with⟨a,rfl⟩|⟨b',f,len,cap,cur,e,rfl,hh,_⟩
 ·cases a<;>simp[Co] at hb
 grind[Co]
theorem dh.obj_lt{g:Gh}{σ:St}{w:x5}(h:dh g σ w){i:Nat}{cs:List D}(hi:σ.H[i]?=G (G cs)):g.β i<w.heap.size:=by
 obtain⟨us,rest,e,hb,_⟩:=h.obj i cs hi
 grind
theorem dh.lt_n{g:Gh}{σ:St}{w:x5}(h:dh g σ w){i:Nat}{cs:List D}(hi:σ.H[i]?=G (G cs)):i<g.n:=by
 rw[h.n];grind
theorem Perm.kept{M M':c6}{w w':x5}{sz:Nat}{u:yz}(h:Perm M w sz u)(hk:∀b,Co u=G b->w'.heap[b]?=w.heap[b]?/\∀o,M' b o=M b o):Perm M' w' sz u:=by
 rcases h with⟨a,rfl⟩|⟨b,f,len,cap,cur,e,rfl,hh,hl,hc,hM⟩
 ·exact .inl ⟨a,rfl⟩
 ·by_cases h0:cap=0
  ·grind[Perm]
  ·obtain⟨h1,h2⟩:=hk b (by grind[Co])
   exact .inr ⟨b,f,len,cap,cur,e,rfl,h1.trans hh,hl,hc,fun o ho=>(h2 o).trans (hM o ho),hM.ng⟩
theorem dh.obj_ng{g:Gh}{σ:St}{w:x5}(h:dh g σ w){i:Nat}{cs:List D}(hi:σ.H[i]?=G (G cs)):∀p∈GA,p.1≠g.β i:=fun p hp e=>by
 obtain⟨v,hv⟩:=h.gl.sized p hp
 obtain⟨_,_,_,_,_,_,hM,_⟩:=h.obj i cs hi
 grind
theorem Perm.ng{M:c6}{w:x5}{sz:Nat}{u:yz}(_:Perm M w sz u){b:Nat}(_:Co u=G b):∀p∈GA,p.1≠b:=by
 grind[GA]
theorem dh.own_ng{g:Gh}{σ:St}{w:x5}(_:dh g σ w){k sz:Nat}{xs:List V}(_:(k,sz,xs)∈σ.own){u:yz}(_:g.ι k (I xs)=G u){b:Nat}(_:Co u=G b):∀p∈GA,p.1≠b:=by
 grind[GA]
theorem GW.lt{w:x5}(h:GW w){p:Nat×Nat}(hp:p∈GA):p.1<w.heap.size:=by
 obtain⟨cs,e,x,h1,_⟩:=h p hp
 grind
theorem GW.new{w:x5}(h:GW w){b:Nat}(hb:w.heap.size<=b):∀p∈GA,p.1≠b:=fun p hp e=>by have:=h.lt hp;omega
theorem dh.grow{g:Gh}{σ:St}{w w':x5}(h:dh g σ w){M':c6}(hle:g.M.le M')(keep:∀b,b<w.heap.size->w'.heap[b]?=w.heap[b]?/\∀o,M' b o=g.M b o)
  (mem:∀b o v,M' b o=G v->w'.cell? ⟨b,o,none⟩=G v):dh { g with M:=M' } σ w':=by
 have hg:g.le { g with M:=M' }:=⟨hle,HR _,fun _ _=>rfl,fun _ _ _ h=>h,fun _ _=>rfl⟩
 refine⟨h.n,mem,fun i cs hi=>?_,h.inj,fun k sz xs hx=>?_,h.tags,h.sep,h.ownObj,h.fresh,h.gl.mono hle,h.gw.keep fun b hb=>(keep b hb).1⟩
 ·obtain⟨us,rest,e,hb,hr,h1,hM,hκ⟩:=h.obj i cs hi
  grind[Ag.mono]
 ·obtain⟨h0,u,hu,hr,hp,hf⟩:=h.own k sz xs hx
  exact⟨h0,u,hu,hr.mono hle,hp.kept fun b hb=>keep b (h.own_lt hx hu hb),hf⟩
theorem WI.grow{E:c9}{g:Gh}{σ:St}{w w':x5}(hw:WI E g σ w){M':c6}(hle:g.M.le M')(keep:∀b,b<w.heap.size->w'.heap[b]?=w.heap[b]?/\∀o,M' b o=g.M b o)
  (mem:∀b o v,M' b o=G v->w'.cell? ⟨b,o,none⟩=G v) (size:w.heap.size<=w'.heap.size) (os:w'.os=w.os) (tape:w'.tape=w.tape) (output:w'.output=w.output) (drawn:BV w.drawn w'.drawn:=by first|exact BV.refl _|exact BV.succ _|assumption):WI E { g with M:=M' } σ w':=
 hw.update (fun _=>False) (fun _ h=>h.elim) (fun b hb _=>keep b hb) hle (HR _) (fun _ _=>rfl) (fun _ _=>rfl) size os tape output (hw.rep.grow hle keep mem) hw.objs hw.owns
theorem Py(w:x5)(o:Obj){b i:Nat}{v:yz}(h:w.cell? ⟨b,i,none⟩=G v):(w.alloc o).cell? ⟨b,i,none⟩=G v:=by
 grind[World.cell?,World.alloc]
theorem WI.alloc{E:c9}{g:Gh}{σ:St}{w:x5}(hw:WI E g σ w)(o:Obj):WI E g σ (w.alloc o):=by
 have:=hw.grow (w':=w.alloc o) (M':=g.M) (c6.le_refl _) (fun b hb=>⟨heap_alloc_old w o b hb,fun _=>rfl⟩) (fun b i v h=>Py w o (hw.rep.mem b i v h)) (by simp) rfl rfl rfl
 omega
theorem WI.drew{E:c9}{g:Gh}{σ:St}{w:x5}(hw:WI E g σ w):WI E g σ w.drew:=by
 have:=hw.grow (w':=w.drew) (M':=g.M) (c6.le_refl _) (fun b hb=>⟨rfl,fun _=>rfl⟩) (fun b i v h=>hw.rep.mem b i v h) (HR _) rfl rfl rfl
 omega
theorem WI.addObj{E:c9}{g:Gh}{σ:St}{w:x5}(hw:WI E g σ w){b:Nat}{us rest:List yz}{e:x6}{cs:List D}(hb:w.heap[b]?=G (.cells (us++rest).toArray e (0,0)))(hE:E.w.heap.size<=b∨E.priv b)(hM:∀o,g.M b o=none)
  (hno:∀i cs,σ.H[i]?=G (G cs)->g.β i≠b) (CT:∀x∈σ.own,∀u,g.ι x.1 (I x.2.2)=G u->Co u≠G b) (hr:Ag g cs us) (h1:∀c∈cs,c.one=J):
  WI E { g with n:=g.n+1,β:=fun o=>if o=g.n then b else g.β o,κ:=fun o=>if o=g.n then(us++rest).length else g.κ o } ⟨σ.H++[G cs],σ.own⟩ w/\g.le { g with n:=g.n+1,β:=fun o=>if o=g.n then b else g.β o,κ:=fun o=>if o=g.n then(us++rest).length else g.κ o }:=by
 have hle:g.le { g with n:=g.n+1,β:=fun o=>if o=g.n then b else g.β o,κ:=fun o=>if o=g.n then(us++rest).length else g.κ o }:=⟨c6.le_refl _,Nat.le_succ _,fun o ho=>Iz (by omega),fun _ _ _ h=>h,fun o ho=>Iz (by omega)⟩
 have split:∀i cs',(σ.H++[G cs])[i]?=G (G cs')->(σ.H[i]?=G (G cs')/\i<g.n)∨(i=g.n/\cs'=cs):=by
  intro i cs' hi
  by_cases hlt:i<I σ.H
  ·rw[I5 hlt] at hi
   exact .inl ⟨hi,by rw[hw.rep.n];omega⟩
  ·rw[I2 (by omega)] at hi
   have:i-I σ.H=0:=by
    grind
   rw[this] at hi
   simp at hi
   exact .inr ⟨by rw[hw.rep.n];omega,hi.symm⟩
 refine⟨hw.update (fun _=>False) (fun _ h=>h.elim) (fun _ _ _=>⟨rfl,fun _=>rfl⟩) (c6.le_refl _) (Nat.le_succ _) (fun o ho=>Iz (by omega)) (fun o ho=>Iz (by omega)) (HR _) rfl rfl rfl ?_ ?_ hw.owns,hle⟩
 ·refine⟨by simp[hw.rep.n],hw.rep.mem,fun i cs' hi=>?_,fun i j cs1 cs2 hi hj hij=>?_,hw.rep.own,hw.rep.tags,hw.rep.sep,fun x hx u hu b' hb' i cs' hi=>?_,hw.rep.fresh,hw.rep.gl,hw.rep.gw⟩
  ·rcases split i cs' hi with⟨h,hlt⟩|⟨rfl,rfl⟩
   ·obtain⟨us',rest',e',h2,h3,h4,h5,h6⟩:=hw.rep.obj i cs' h
    grind[Ag.mono]
   grind[Ag.mono]
  ·rcases split i cs1 hi with⟨h,hlt⟩|⟨rfl,rfl⟩<;>rcases split j cs2 hj with⟨h',hlt'⟩|⟨rfl,rfl⟩
   ·simp only[Iz (show ¬i=g.n by omega),Iz (show ¬j=g.n by omega)] at hij
    exact hw.rep.inj i j _ _ h h' hij
   all_goals grind
  ·rcases split i cs' hi with⟨h,hlt⟩|⟨rfl,rfl⟩
   ·simp only[Iz (show ¬i=g.n by omega)]
    exact hw.rep.ownObj x hx u hu b' hb' i cs' h
   grind
 ·intro i cs' hi
  rcases split i cs' hi with⟨h,hlt⟩|⟨rfl,rfl⟩
  ·simp only[Iz (show ¬i=g.n by omega)];exact hw.objs i cs' h
  grind
theorem WI.addOwn{E:c9}{g:Gh}{σ:St}{w:x5}(hw:WI E g σ w){k sz:Nat}{xs:List V}{u:yz}(hk:∀x∈σ.own,x.1≠k)(hsz:0<sz/\∀x∈xs,x.size=sz)(hr:repV g.M (.list xs) u)(hp:Perm g.M w sz u)
  (hb:∀b,Co u=G b->E.w.heap.size<=b/\(∀i cs,σ.H[i]?=G (G cs)->g.β i≠b)/\∀x∈σ.own,∀u',g.ι x.1 (I x.2.2)=G u'->Co u'≠G b):
  WI E { g with ι:=fun k' m=>if k'=k then(if m=I xs then G u else none) else g.ι k' m } ⟨σ.H,(k,sz,xs)::σ.own⟩ w/\
  g.le { g with ι:=fun k' m=>if k'=k then(if m=I xs then G u else none) else g.ι k' m }:=by
 have hle:g.le { g with ι:=fun k' m=>if k'=k then(if m=I xs then G u else none) else g.ι k' m }:=by
  refine⟨c6.le_refl _,HR _,fun _ _=>rfl,fun k' m u' h=>?_,fun _ _=>rfl⟩
  by_cases e:k'=k
  ·subst e;rw[hw.rep.fresh k' hk m] at h;grind
  grind
 have hold:∀x∈σ.own,(if x.1=k then(if I x.2.2=I xs then G u else none) else g.ι x.1 (I x.2.2))=g.ι x.1 (I x.2.2):=fun x hx=>Iz (hk x hx)
 refine⟨hw.update (fun _=>False) (fun _ h=>h.elim) (fun _ _ _=>⟨rfl,fun _=>rfl⟩) (c6.le_refl _) (HR _) (fun _ _=>rfl) (fun _ _=>rfl) (HR _) rfl rfl rfl ?_ hw.objs ?_,hle⟩
 ·refine⟨hw.rep.n,hw.rep.mem,fun i cs hi=>?_,hw.rep.inj,fun k' sz' xs' hx=>?_,?_,fun x hx y hy hne u1 u2 h1 h2 b hb1=>?_,fun x hx u1 h1 b hb1 i cs hi=>?_,fun k' hk' m=>?_,hw.rep.gl,hw.rep.gw⟩
  ·obtain⟨us,rest,e,h2,h3,h4,h5⟩:=hw.rep.obj i cs hi
   grind[Ag.mono]
  ·rcases IN.1 hx with e|hx
   ·grind
   ·obtain⟨h0,u',hu,h3,h4,h5⟩:=hw.rep.own k' sz' xs' hx
    grind
  ·simp only[I9,List.nodup_cons]
   refine⟨fun h=>?_,hw.rep.tags⟩
   grind
  ·rcases IN.1 hx with rfl|hx<;>rcases IN.1 hy with rfl|hy
   ·omega
   ·grind
   ·grind
   ·exact hw.rep.sep x hx y hy hne u1 u2 ((hold x hx).symm.trans h1) ((hold y hy).symm.trans h2) b hb1
  ·rcases IN.1 hx with rfl|hx
   ·grind
   ·exact hw.rep.ownObj x hx u1 ((hold x hx).symm.trans h1) b hb1 i cs hi
  ·have hne:¬k'=k:=fun e=>hk' (k,sz,xs) (by simp) e.symm
   simp only[Iz hne]
   exact hw.rep.fresh k' (fun x hx=>hk' x (by grind)) m
 ·intro x hx u1 h1 b hb1
  rcases IN.1 hx with rfl|hx
  ·grind
  ·exact hw.owns x hx u1 ((hold x hx).symm.trans h1) b hb1
def A2:D->List D
 |.v (.agg xs)=>xs.map .v
 |.dagg cs=>cs
 |d=>[d]
def D.sto:D->Bool
 |.v _|.acc .. |.ptr .. |.arr .. |.gro .. |.dfn .. =>true
 |.dagg cs=>cs.all D.one
 |.raw x=>x.oneCell'
 |.rv x _=> !x.isAgg
 |_=>false
theorem D7{g:Gh}:∀{xs:List V} {us:List yz},repA g.M xs us->Ag g (xs.map .v) us/\∀c∈xs.map bt,c.one=J
 |[],us,h=>by simp only[repA] at h;simp[h,Ag]
 |x::xs,us,h=>by
  simp only[repA] at h
  obtain⟨u,us',rfl,ha,h1,h2⟩:=h
  obtain⟨h3,h4⟩:=D7 h2
  refine⟨?_,?_⟩
  ·simp only[I9,Ag,Ah]
   exact⟨u,us',rfl,(BP ha).2 h1,h3⟩
  ·intro c hc
   simp only[I9,IN] at hc
   rcases hc with rfl|hc
   ·simp[D.one,ha]
   ·exact h4 c hc
theorem Oj{u:yz}(h:u.oneCell'=J):u.cells= #[u]:=by cases u<;>simp_all [Value.cells,Value.oneCell']
theorem FN{g:Gh}{d:D}{u:yz}(h1:d.one=J)(h:Ah g d u):u.oneCell'=J:=by
 cases d with
 |v x=>grind[Ah,DG,D.one]
 |acc k xs=>simp only[Ah] at h;exact DG (x:=.list xs) rfl h.1
 |ptr q off=>simp only[Ah] at h;rw[h.2];rfl
 |arr q off len=>grind[Ah,Value.oneCell']
 |gro q len sz=>grind[Ah,Value.oneCell']
 |dfn f fs cs=>grind[Ah,Value.oneCell']
 |raw x=>grind[Ah,D.one]
 |rv x u0=>grind[Ah,DG,D.one]
 |dagg cs=>grind[D.one]
 |tup ds=>grind[D.one]
 |err=>grind[D.one]
 |undef=>grind[D.one]
theorem Cy{g:Gh}:∀{cs:List D} {us:List yz},(∀c∈cs,c.one=J)->Ag g cs us->∀u∈us,u.oneCell'=J
 |[],us,_,h=>by simp only[Ag] at h;simp[h]
 |c::cs,us,h1,h=>by
  simp only[Ag] at h
  obtain⟨u,us',rfl,h2,h3⟩:=h
  intro x hx
  simp only[IN] at hx
  rcases hx with rfl|hx
  ·exact FN (h1 c (by simp)) h2
  ·exact Cy (fun c hc=>h1 c (by simp[hc])) h3 x hx
theorem cells_rep{g:Gh}{d:D}{u:yz}(hs:d.sto=J)(h:Ah g d u):Ag g (A2 d) u.cells.toList/\(∀c∈A2 d,c.one=J)/\(∀x∈u.cells.toList,x.oneCell'=J):=by
 have one:d.one=J->u.oneCell'=J->A2 d=[d]->Ag g (A2 d) u.cells.toList/\(∀c∈A2 d,c.one=J)/\(∀x∈u.cells.toList,x.oneCell'=J):=by
  grind[Oj,Ag]
 cases d with
 |v x=>
  cases hx:x.isAgg with
  |false=>exact one (by grind[D.one]) (by grind[Ah,DG]) (by cases x with|agg _=>grind[V.isAgg]|_=>rfl)
  |true=>
   cases x<;>grind[Ah,Cx,A2,Value.cells,D7,JP,V.isAgg]
 |acc k xs=>exact one rfl (by simp only[Ah] at h;exact DG (x:=.list xs) rfl h.1) rfl
 |ptr q off=>exact one rfl (by simp only[Ah] at h;rw[h.2];rfl) rfl
 |arr q off len=>grind[Ah,A2,D.one,Value.oneCell']
 |dfn f fs cs=>grind[Ah,A2,D.one,Value.oneCell']
 |gro q len sz=>exact one rfl (FN rfl h) rfl
 |rv x u0=>grind[D.sto,D.one,FN,A2]
 |raw x=>grind[D.sto,D.one,FN,A2]
 |dagg cs=>
  grind[Ah,D.sto,A2,Value.cells,Cy]
 |tup ds=>grind[D.sto]
 |err=>grind[D.sto]
 |undef=>grind[D.sto]
theorem WI.setObj{E:c9}{g:Gh}{σ:St}{w w':x5}(hw:WI E g σ w){q:Nat}{cs cs':List D}(hq:σ.H[q]?=G (G cs)){us rest:List yz}{e:x6}(hb:w'.heap[g.β q]?=G (.cells (us++rest).toArray e (0,0)))(hκ:I (us++rest)=g.κ q)
  (hr:Ag g cs' us) (h1:∀c∈cs',c.one=J) (keep:∀b,b≠g.β q->w'.heap[b]?=w.heap[b]?) (size:w'.heap.size=w.heap.size) (os:w'.os=w.os) (tape:w'.tape=w.tape) (output:w'.output=w.output) (drawn:BV w.drawn w'.drawn:=by first|exact BV.refl _|exact BV.succ _|assumption):
  WI E g ⟨σ.H.set q (G cs'),σ.own⟩ w':=by
 have hMq:∀o,g.M (g.β q) o=none:=by obtain⟨_,_,_,_,_,_,h,_⟩:=hw.rep.obj q cs hq;exact h
 have split:∀(i:Nat) (cs1:List D),(σ.H.set q (G cs'))[i]?=G (G cs1)->(i=q/\cs1=cs')∨(i≠q/\σ.H[i]?=G (G cs1)):=by
  grind
 have live:∀(i:Nat) (cs1:List D),(σ.H.set q (G cs'))[i]?=G (G cs1)->∃cs2,σ.H[i]?=G (G cs2):=by
  grind
 refine hw.update (fun b=>b=g.β q) (fun b e=>by subst e;exact hw.objs q cs hq) (fun b _ hne=>⟨keep b hne,fun _=>rfl⟩) (c6.le_refl _) (HR _) (fun _ _=>rfl) (fun _ _=>rfl) (by omega) os tape output ?_ ?_ hw.owns
 ·refine⟨by simp[hw.rep.n],fun b o v hm=>?_,fun i cs1 hi=>?_,fun i j c1 c2 hi hj hij=>?_,fun k sz xs hx=>?_,hw.rep.tags,hw.rep.sep,fun x hx u hu b hb' i cs1 hi=>?_,hw.rep.fresh,hw.rep.gl,hw.rep.gw.mono fun b cs0 e0 x0 hb0=>by
   by_cases hbq:b=g.β q
   ·subst hbq
    obtain⟨us1,rest1,e1,h2,_,_,_,h3⟩:=hw.rep.obj q cs hq
    grind
   grind⟩
  ·have hne:b≠g.β q:=fun e=>by grind
   have:=hw.rep.mem b o v hm
   grind[World.cell?]
  ·rcases split i cs1 hi with⟨rfl,rfl⟩|⟨hne,h⟩
   ·grind
   ·obtain⟨us',rest',e',h2,h3,h4,h5⟩:=hw.rep.obj i cs1 h
    refine⟨us',rest',e',?_,h3,h4,h5⟩
    rw[keep _ (fun e=>hne (hw.rep.inj i q _ _ h hq e))];exact h2
  ·obtain⟨c3,h3⟩:=live i c1 hi
   obtain⟨c4,h4⟩:=live j c2 hj
   exact hw.rep.inj i j _ _ h3 h4 hij
  ·obtain⟨h0,u,hu,h3,h4,h5⟩:=hw.rep.own k sz xs hx
   refine⟨h0,u,hu,h3,h4.kept fun b hb'=>⟨keep b ?_,fun _=>rfl⟩,h5⟩
   exact fun e=>hw.rep.ownObj _ hx u hu b hb' q cs hq e.symm
  ·obtain⟨c3,h3⟩:=live i cs1 hi
   exact hw.rep.ownObj x hx u hu b hb' i c3 h3
 ·intro i cs1 hi
  obtain⟨c3,h3⟩:=live i cs1 hi
  exact hw.objs i c3 h3
section
variable {P : x7} {o : yy} {σ : St} {d : D}
theorem WI.newObj{E:c9}{g:Gh}{w:x5}(hw:WI E g σ w){us:List yz}{cs:List D}(e:x6)(hr:Ag g cs us)(h1:∀c∈cs,c.one=J):
  ∃g',WI E g' ⟨σ.H++[G cs],σ.own⟩ (w.alloc (.cells us.toArray e))/\g.le g'/\g'.β (I σ.H)=w.heap.size/\g'.n=I σ.H+1:=by
 have h2:=(hw.alloc (.cells us.toArray e)).addObj (b:=w.heap.size) (us:=us) (rest:=[]) (e:=e) (cs:=cs) (by grind[heap_alloc_new]) (.inl hw.size) (hw.rep.new_none (HR _))
  (fun i cs hi=>Nat.ne_of_lt (hw.rep.obj_lt hi)) (fun x hx u hu hb=>by have:=hw.rep.own_lt hx hu hb;omega) hr h1
 exact⟨_,h2.1,h2.2,by simp[hw.rep.n],by simp[hw.rep.n]⟩
theorem Aol{e:x6}{x:x8}(ho:o.op=.box e x)(hs:d.sto=J):Ak P o [d] σ (.ptr (I σ.H) 0) ⟨σ.H++[G (A2 d)],σ.own⟩:=by
 intro E g a w K Q hw hds hK
 simp only[ho,Op.operands,AG] at hds
 obtain⟨u,eu,hd⟩:=hds
 simp at eu
 obtain⟨h2,h3,_⟩:=cells_rep hs hd
 obtain⟨g',hw',hle,hβ,hn⟩:=hw.newObj e h2 h3
 have:=hK g' _ (.pointer (G ⟨w.heap.size,0,none⟩)) hw' hle (by grind[Ah])
 unfold Oper.wp execOp
 simpa[ho,eu,Instr.box,newVar,newRow,Oper.upon] using this
def SV:yz->Option V
 |.int k n=>G (.int k n)
 |.bool b=>G (.bool b)
 |.string s=>G (.str s.data.toList)
 |.slice none 0 0=>G (.list [])
 |.nilFunc=>G .nilfn
 |.pointer none=>G .nilp
 |_=>none
def LN:List yz->Option (List V)
 |[]=>G []
 |u::us=>match SV u,LN us with
  |some x,some xs=>G (x::xs)
  |_,_=>none
theorem LO{M:c6}{u:yz}{x:V}(h:SV u=G x):x.isAgg=O/\repC M x [u]:=by
 unfold SV at h
 split at h<;>simp at h<;>subst h<;>simp[V.isAgg,repC]
theorem GS{M:c6}:∀{us:List yz} {xs:List V},LN us=G xs->repA M xs us
 |[],xs,h=>by simp[LN] at h;subst h;simp[repA]
 |u::us,xs,h=>by
  simp only[LN] at h
  split at h
  ·rename_i x xs' h1 h2
   simp at h;subst h
   obtain⟨h3,h4⟩:=LO (M:=M) h1
   simp only[repA]
   exact⟨u,us,rfl,h3,h4,GS h2⟩
  ·simp at h
def wu(P:x7)(t:x6):Option (List V):=
 match (P.info? t).bind (·.zero) with
 |some z=>LN z.cells.toList
 |none=>none
theorem MD{t:x6}{xs:List V}(h:wu P t=G xs):∃i z,P.info? t=G i/\i.zero=G z/\LN z.cells.toList=G xs:=by
 unfold wu at h
 split at h
 ·rename_i z hz
  cases hi:P.info? t<;>grind
 grind
theorem My{t:x6}{x y:x8}(ho:o.op=.store t x y)(hs:d.sto=J){n:Nat}{b:Bool}(ht:Ec P t=G (n,b))(hn:I (A2 d)=n){q off:Nat}{cs:List D}(hq:σ.H[q]?=G (G cs))(hoff:off+n<=I cs):
  Ak P o [.ptr q off,d] σ .undef ⟨σ.H.set q (G (cs.take off++A2 d++cs.drop (off+n))),σ.own⟩:=by
 intro E g a w K Q hw hds hK
 simp only[ho,Op.operands,Ax] at hds
 obtain⟨u,v,eq,h1,h2⟩:=hds
 simp only[I9,Jo,HX,IL] at eq
 obtain⟨e1,e2⟩:=eq
 simp only[Ah] at h1
 obtain⟨hlt,rfl⟩:=h1
 obtain⟨us,rest,e,hb,hr,hone,hM,hκ⟩:=hw.rep.obj q cs hq
 obtain⟨h3,h4,h5⟩:=cells_rep hs h2
 have hl:I us=I cs:=A3 hr
 have hl2:I v.cells.toList=n:=by grind[A3]
 have hst:=run_storeCells_at P (g.β q) off e v.cells.toList 0 (us++rest).toArray w hb (by grind) h5
 simp only[Jp,hl2] at hst
 rw[show(us++rest).take off++v.cells.toList++(us++rest).drop (off+n)=(us.take off++v.cells.toList++us.drop (off+n))++rest from by
  grind] at hst
 have hw':=hw.setObj (cs':=cs.take off++A2 d++cs.drop (off+n)) hq (us:=us.take off++v.cells.toList++us.drop (off+n)) (rest:=rest) (e:=e)
  (w':=w.setRow (g.β q) ((us.take off++v.cells.toList++us.drop (off+n))++rest).toArray) (setRow_heap w _ _ _ e _ hb) (by grind)
  (Au (Au (Cn hr off) h3) (Cz hr (off+n)))
  (fun c hc=>by
   grind)
  (fun b hb=>setRow_other w _ _ _ hb) (by simp) rfl rfl rfl
 have:=hK g _ undef hw' g.le_refl (by simp[Ah])
 have hsz:v.cells.size=n:=by omega
 unfold Oper.wp execOp
 simp only[ho,e1,e2,Instr.storeAt,Instr.sureAddr,Sem.run_bind,Sem.run_pure,Result.andThen_ok,storeVar,dw ht,hsz,ne_eq,not_true_eq_false,if_false,hst]
 exact this
theorem Sb{t:x6}{x y:x8}(ho:o.op=.store t x y)(hs:d.one=J)(ht:Rg P t){q off:Nat}{cs:List D}(hq:σ.H[q]?=G (G cs))(hoff:off<I cs):
  Ak P o [.ptr q off,d] σ .undef ⟨σ.H.set q (G (cs.set off d)),σ.own⟩:=by
 have hc:A2 d=[d]:=by
  cases d with
  |v x=>cases x<;>simp_all [D.one,A2,V.isAgg]
  |dagg cs=>grind[D.one]
  |_=>rfl
 have hs':d.sto=J:=by cases d<;>simp_all [D.one,D.sto]
 have h:=My (P:=P) (σ:=σ) (n:=1) (off:=off) ho hs' ht (by grind) hq (by omega)
 grind[List.set_eq_take_append_cons_drop]
def V.cellsV:V->List V
 |.agg cs=>cs
 |x=>[x]
theorem MZ{M:c6}{x:V}{u:yz}(h:repV M x u):repA M x.cellsV u.cells.toList/\u.cells.size=x.size:=by
 have hc:=L3 h
 have hl:u.cells.size=x.size:=by grind[Array.length_toList,GH]
 refine⟨?_,hl⟩
 cases hx:x.isAgg with
 |true=>
  cases x<;>grind[V.cellsV,repC,V.isAgg]
 |false=>
  have e:x.cellsV=[x]:=by cases x<;>simp_all [V.cellsV,V.isAgg]
  grind[De,repA]
def Hx(place:Nat->Option (Nat×Nat))(cells:List V):List (Nat×V)->Option (List V)
 |[]=>G cells
 |(i,x)::rest=>
  match place i with
  |none=>none
  |some (off,size)=>if x.size=size/\off+size<=I cells then Hx place (cells.take off++x.cellsV++cells.drop (off+size)) rest else none
theorem Pd{place place':Nat->Option (Nat×Nat)}{out:List V}(hp:∀i p,place i=G p->place' i=G p):∀(xs:List (Nat×V)) (cells:List V),Hx place cells xs=G out->Hx place' cells xs=G out
 |[],cells,h=>by simpa[Hx] using h
 |(i,x)::xs,cells,h=>by
  simp only[Hx] at h⊢
  cases hi:place i with
  |none=>simp[hi] at h
  |some p=>
   rw[hp i p hi]
   simp only[hi] at h⊢
   split at h
   ·rename_i hc;rw[I4 hc];exact Pd hp xs _ h
   ·simp at h
theorem K2{M:c6}:∀{xs ys:List V} {us vs:List yz},repA M xs us->repA M ys vs->repA M (xs++ys) (us++vs)
 |[],ys,us,vs,h,h'=>by simp only[repA] at h;simpa[h] using h'
 |x::xs,ys,us,vs,h,h'=>by
  simp only[repA] at h
  obtain⟨u,us1,rfl,ha,h1,h2⟩:=h
  simp only[JM,repA]
  exact⟨u,_,rfl,ha,h1,K2 h2 h'⟩
theorem AaY(off:Nat)(l:List yz)(cs:Array yz)(h:off+I l<=cs.size):
  ((l.zipIdx 0).foldl (fun cs (x:yz×Nat)=>cs.setIfInBounds (off+x.2) x.1) cs).toList=cs.toList.take off++l++cs.toList.drop (off+I l):=by
 obtain⟨h1,h2⟩:=Great.foldl_set off l 0 cs
 apply List.ext_getElem?
 grind
inductive Lw (M:c6):List (Nat×V)->List (Nat×yz)->Prop
 |nil:Lw M [] []
 |cons {i:Nat} {x:V} {u:yz} {xs:List (Nat×V)} {us:List (Nat×yz)} (h:repV M x u) (hr:Lw M xs us):Lw M ((i,x)::xs) ((i,u)::us)
theorem M3{M:c6}{place:Nat->Option (Nat×Nat)}:∀{xs:List (Nat×V)} {us:List (Nat×yz)} {cells out:List V} {cu:Array yz},Lw M xs us->repA M cells cu.toList->Hx place cells xs=G out->
  ∃U,Instr.fill place cu us=G U/\repA M out U.toList
 |[],us,cells,out,cu,h,hc,hf=>by
  cases h
  simp[Hx] at hf;subst hf
  exact⟨cu,rfl,hc⟩
 |(i,x)::xs,us,cells,out,cu,h,hc,hf=>by
  cases h with
  |cons hx hr=>
   rename_i u us
   simp only[Hx] at hf
   cases hp:place i with
   |none=>simp[hp] at hf
   |some p=>
    obtain⟨off,size⟩:=p
    simp only[hp] at hf
    split at hf
    ·rename_i hcond
     obtain⟨hA,hsz⟩:=MZ hx
     have hl:cu.size=I cells:=by rw[←IK];exact Eg hc
     have hs:u.cells.size=size:=hsz.trans hcond.1
     have hsp:=AaY off u.cells.toList cu (by simp only[IK];omega)
     simp only[IK,hs] at hsp
     have hc':repA M (cells.take off++x.cellsV++cells.drop (off+size)) ((u.cells.toList.zipIdx 0).foldl (fun cs (x:yz×Nat)=>cs.setIfInBounds (off+x.2) x.1) cu).toList:=by
      rw[hsp]
      exact K2 (K2 (KM hc off) hA) (KN hc (off+size))
     obtain⟨U,hU,hrU⟩:=M3 hr hc' hf
     refine⟨U,?_,hrU⟩
     unfold Instr.fill
     simp only[hp,hs]
     rw[Iz (by simp;omega), ←hU]
     congr 1
     rw[←Array.foldl_toList,Array.toList_zipIdx]
    ·simp at hf
def ZA(P:x7)(t:x6):Option (List V×List (Nat×Nat)):=
 match wu P t,P.underlying t with
 |some z,some (.struct fs)=>(fs.toList.mapM (fun f=>(P.info? f.type).map fun i=>(f.offset,i.size))).map fun p=>(z,p)
 |some z,some (.array n e)=>(P.info? e).map fun i=>(z,(List.range n).map fun j=>(j*i.size,i.size))
 |_,_=>none
def Dw:List (Nat×x8)->List D->Option (List (Nat×V))
 |[],[]=>G []
 |(i,_)::ps,d::ds=>match d.toV,Dw ps ds with
  |some x,some xs=>G ((i,x)::xs)
  |_,_=>none
 |_,_=>none
theorem HA{g:Gh}{a:Act}:∀{ps:List (Nat×x8)} {ds:List D} {xs:List (Nat×V)},Dw ps ds=G xs->Ag g ds (ps.map fun p=>a.eval p.2)->Lw g.M xs (ps.map fun p=>(p.1,a.eval p.2))
 |[],[],xs,h,_=>by simp[Dw] at h;subst h;exact .nil
 |[],_::_,xs,h,_=>by grind[Dw]
 |(i,_)::ps,[],xs,h,_=>by grind[Dw]
 |(i,x)::ps,d::ds,xs,h,hr=>by
  simp only[Dw] at h
  split at h
  ·rename_i y ys hy hys
   simp at h;subst h
   simp only[I9,Ag] at hr
   obtain⟨u,us',e,h1,h2⟩:=hr
   simp at e
   obtain⟨rfl,rfl⟩:=e
   exact .cons (Lz hy h1) (HA hys h2)
  grind
theorem W0{t:x6}{parts:Array (Nat×x8)}(ho:o.op=.build t parts){z:List V}{ay:List (Nat×Nat)}(hb:ZA P t=G (z,ay)){ds:List D}{xs:List (Nat×V)}{out:List V}
  (hx:Dw parts.toList ds=G xs) (hf:Hx (ay[·]?) z xs=G out):Ak P o ds σ (.v (.agg out)) σ:=by
 intro E g a w K Q hw hds hK
 simp only[ho,Op.operands] at hds
 have hpr:=HA hx (a:=a) (g:=g) (by grind[Function.comp_def])
 unfold ZA at hb
 have key:∃U,P.built t (parts.toList.map fun p=>(p.1,a.eval p.2))=G U/\repA g.M out U.toList:=by
  cases hz:wu P t with
  |none=>grind
  |some z0=>
   obtain⟨i,zv,hi,hz1,hcv⟩:=MD hz
   cases hu:P.underlying t with
   |none=>grind
   |some dd=>
    cases dd<;>simp only[hz,hu,reduceCtorEq] at hb
    case struct fs=>
     cases hp:fs.toList.mapM (fun f=>(P.info? f.type).map fun i=>(f.offset,i.size)) with
     |none=>grind
     |some pl=>
      simp[hp] at hb
      obtain⟨rfl,rfl⟩:=hb
      obtain⟨U,hU,hrU⟩:=M3 hpr (GS (M:=g.M) hcv) hf
      exact⟨U,by simpa[Program.built,hi,hu,hz1,hp] using hU,hrU⟩
    case array n e=>
     cases hp:P.info? e with
     |none=>grind
     |some ie=>
      simp[hp] at hb
      obtain⟨rfl,rfl⟩:=hb
      have hf':Hx (fun i=>G (i*ie.size,ie.size)) z0 xs=G out:=by
       grind[Pd]
      obtain⟨U,hU,hrU⟩:=M3 hpr (GS (M:=g.M) hcv) hf'
      grind[Program.built]
 obtain⟨U,hU,hrU⟩:=key
 have:=hK g w (.agg U) hw g.le_refl (by grind[Ah,Cx])
 have hrun:=run_build (P:=P) w t (parts.map fun p=>(p.1,a.eval p.2)) U (by simp_all)
 unfold Oper.wp execOp
 simp only[ho]
 simp only[Sem.run_bind]
 rw[show(parts.map fun(x:Nat×x8)=>match x with|(i,x)=>(i,a.eval x))=parts.map fun p=>(p.1,a.eval p.2) from rfl,hrun]
 exact this
end
def FD(k sz:Nat)(zs:List V)(x:Nat×Nat×List V):Nat×Nat×List V:=if x.1=k then(k,sz,zs) else x
theorem KK{k sz:Nat}{zs:List V}(x:Nat×Nat×List V):(FD k sz zs x).1=x.1:=by grind[FD]
theorem WI.setOwn{E:c9}{g:Gh}{σ:St}{w w':x5}(hw:WI E g σ w){k sz:Nat}{xs zs:List V}(hx:(k,sz,xs)∈σ.own){u u':yz}(hu:g.ι k (I xs)=G u){M':c6}(hle:g.M.le M')
  (keep:∀b,b<w.heap.size->Co u≠G b->w'.heap[b]?=w.heap[b]?/\∀o,M' b o=g.M b o) (mem:∀b o v,M' b o=G v->w'.cell? ⟨b,o,none⟩=G v)
  (size:w.heap.size<=w'.heap.size) (os:w'.os=w.os) (tape:w'.tape=w.tape) (output:w'.output=w.output)
  (hzs:∀x∈zs,x.size=sz) (hr:repV M' (.list zs) u') (hp:Perm M' w' sz u') (hb:∀b,Co u'=G b->Co u=G b∨w.heap.size<=b) (hlen:I xs<I zs∨(I zs=I xs/\u'=u)) (drawn:BV w.drawn w'.drawn:=by first|exact BV.refl _|exact BV.succ _|assumption):
  WI E { g with M:=M',ι:=fun k' m=>if k'=k/\m=I zs then G u' else g.ι k' m } ⟨σ.H,σ.own.map (FD k sz zs)⟩ w'/\
  g.le { g with M:=M',ι:=fun k' m=>if k'=k/\m=I zs then G u' else g.ι k' m }:=by
 obtain⟨hsz,u0,hu0,_,_,hfr⟩:=hw.rep.own k sz xs hx
 have hlg:g.le { g with M:=M',ι:=fun k' m=>if k'=k/\m=I zs then G u' else g.ι k' m }:=by
  refine⟨hle,HR _,fun _ _=>rfl,fun k' m v h=>?_,fun _ _=>rfl⟩
  grind

 have uniq:∀y∈σ.own,y.1=k->y=(k,sz,xs):=by
  intro y hy e
  have hnd:=hw.rep.tags
  clear hfr hlg hw
  generalize σ.own=l at*
  induction l<;>grind
 have old:∀y∈σ.own,y.1≠k->(if y.1=k/\y.2.2.length=I zs then G u' else g.ι y.1 (I y.2.2))=g.ι y.1 (I y.2.2):=fun y _ e=>Iz (fun h=>e h.1)

 have cases_:∀y'∈σ.own.map (FD k sz zs),(y'=(k,sz,zs))∨(y'∈σ.own/\y'.1≠k):=by
  grind[FD]
 have sep0:∀y∈σ.own,y.1≠k->∀v,g.ι y.1 (I y.2.2)=G v->∀b,Co v=G b->Co u'≠G b:=by
  intro y hy e v hv b hvb hub
  rcases hb b hub with h|h
  ·exact hw.rep.sep (k,sz,xs) hx y hy (fun h=>e h.symm) u v hu hv b h hvb
  ·have:=hw.rep.own_lt hy hv hvb;omega
 refine⟨hw.update (fun b=>Co u=G b) (fun b h=>hw.owns _ hx u hu b h) (fun b hb1 h=>keep b hb1 h) hle (HR _) (fun _ _=>rfl) (fun _ _=>rfl) size os tape output ?_ hw.objs ?_,hlg⟩
 ·refine⟨hw.rep.n,mem,fun i cs hi=>?_,hw.rep.inj,fun k' sz' xs' hx'=>?_,?_,fun x1 hx1 y1 hy1 hne u1 u2 h1 h2 b hb1=>?_,fun x1 hx1 u1 h1 b hb1 i cs hi=>?_,fun k' hk' m=>?_,hw.rep.gl.mono hle,hw.rep.gw.keepG fun p hp hlt=>(keep p.1 hlt fun e=>hw.rep.own_ng hx hu e p hp rfl).1⟩
  ·obtain⟨us,rest,e,h2,h3,h4,h5,h6⟩:=hw.rep.obj i cs hi
   obtain⟨k1,k2⟩:=keep _ (QE h2) (fun h=>hw.rep.ownObj _ hx u hu _ h i cs hi rfl)
   grind[Ag.mono]
  ·rcases cases_ _ hx' with e|⟨hy,e⟩
   ·grind
   ·obtain⟨h0,v,hv,h3,h4,h5⟩:=hw.rep.own k' sz' xs' hy
    refine⟨h0,v,(old _ hy e).trans hv,h3.mono hle,h4.kept fun b hvb=>keep b (hw.rep.own_lt hy hv hvb) ?_,fun m hm=>?_⟩
    ·exact fun h=>hw.rep.sep (k,sz,xs) hx _ hy (fun h=>e h.symm) u v hu hv b h hvb
    grind
  ·rw[map_map]
   have:(Prod.fst ∘FD k sz zs)=Prod.fst:=funext fun x=>KK x
   rw[this];exact hw.rep.tags
  ·rcases cases_ _ hx1 with rfl|⟨hy,e⟩<;>rcases cases_ _ hy1 with rfl|⟨hy',e'⟩
   ·omega
   ·grind
   ·grind
   ·exact hw.rep.sep x1 hy y1 hy' hne u1 u2 ((old _ hy e).symm.trans h1) ((old _ hy' e').symm.trans h2) b hb1
  ·rcases cases_ _ hx1 with rfl|⟨hy,e⟩
   ·simp at h1;subst h1
    rcases hb b hb1 with h|h
    ·exact hw.rep.ownObj _ hx u hu b h i cs hi
    ·have:=hw.rep.obj_lt hi
     grind
   ·exact hw.rep.ownObj x1 hy u1 ((old _ hy e).symm.trans h1) b hb1 i cs hi
  ·have hne:¬(k'=k):=fun e=>hk' (k,sz,zs) (IQ.2 ⟨_,hx,by simp[FD]⟩) e.symm
   simp only[Iz (show ¬(k'=k/\m=I zs) from fun h=>hne h.1)]
   refine hw.rep.fresh k' (fun y hy e=>?_) m
   grind[KK]
 ·intro x1 hx1 u1 h1 b hb1
  rcases cases_ _ hx1 with rfl|⟨hy,e⟩
  ·simp at h1;subst h1
   rcases hb b hb1 with h|h
   ·exact hw.owns _ hx u hu b h
   ·exact .inl (Jn hw.size h)
  ·exact hw.owns x1 hy u1 ((old _ hy e).symm.trans h1) b hb1
def X0(M:c6)(b:Nat)(us:List yz):c6:=fun b' o=>if b'=b then us[o]? else M b' o
theorem AeO{g:Gh}{σ:St}{w:x5}(h:dh g σ w){b:Nat}(hb:w.heap.size<=b)(us:List yz):g.M.le (X0 g.M b us):=fun b' o v hm=>by
 have:=h.mem_lt hm
 grind[X0]
theorem Rf(M:c6)(b:Nat)(us:List yz):f9 (X0 M b us) b 0 us:=by grind[X0,f9]
theorem PJ{M:c6}{b b':Nat}{us:List yz}(h:b'≠b)(o:Nat):X0 M b us b' o=M b' o:=by simp[X0,h]
theorem WI.newImm{E:c9}{g:Gh}{σ:St}{w:x5}(hw:WI E g σ w)(us rest:List yz)(e:x6):
  WI E { g with M:=X0 g.M w.heap.size us } σ (w.alloc (.cells (us++rest).toArray e))/\g.le { g with M:=X0 g.M w.heap.size us }:=by
 refine⟨hw.grow (AeO hw.rep (HR _) us) (fun b hb=>⟨heap_alloc_old w _ b hb,PJ (Nat.ne_of_lt hb)⟩) (fun b o v hm=>?_) (by simp) rfl rfl rfl,⟨AeO hw.rep (HR _) us,HR _,fun _ _=>rfl,fun _ _ _ h=>h,fun _ _=>rfl⟩⟩
 unfold X0 at hm
 split at hm
 ·grind[World.cell?,World.alloc]
 ·exact Py w _ (hw.rep.mem b o v hm)
theorem K0{M:c6}{sz:Nat}:∀{xs ys:List V} {us vs:List yz},repE M sz xs us->repE M sz ys vs->repE M sz (xs++ys) (us++vs)
 |[],ys,us,vs,h,h'=>by simp only[repE] at h;simpa[h] using h'
 |x::xs,ys,us,vs,h,h'=>by
  simp only[repE] at h
  obtain⟨u1,u2,rfl,hl,h1,h2⟩:=h
  simp only[JM,repE]
  exact⟨u1,u2++vs,by simp,hl,h1,K0 h2 h'⟩
theorem LX{M:c6}{sz:Nat}:∀{xs:List V} {us:List yz},repE M sz xs us->∀u∈us,u.oneCell'=J
 |[],us,h=>by simp only[repE] at h;simp[h]
 |x::xs,us,h=>by
  simp only[repE] at h
  obtain⟨u1,u2,rfl,hl,h1,h2⟩:=h
  intro u hu
  rcases IV.1 hu with hu|hu
  ·exact LY h1 u hu
  ·exact LX h2 u hu
theorem Cm{M:c6}{xs:List V}{u:yz}{sz:Nat}(h:repV M (.list xs) u)(hs:∀x∈xs,x.size=sz)(_:0<sz):
  ∃a cap,u=.slice a (I xs) cap/\xs.length<=cap/\(xs=[]∨∃b off us,a=G ⟨b,off,none⟩/\f9 M b off us/\repE M sz xs us):=by
 rw[B6] at h
 obtain⟨a,cap,e,hc,h⟩:=h
 refine⟨a,cap,e,hc,?_⟩
 rcases h with h|⟨b,off,sz',us,ha,hsz',hi,hr⟩
 ·grind
 ·cases xs with
  |nil=>grind
  |cons x xs=>
   have hx:=hs x (by simp)
   grind[GH,repE]
theorem CH{M:c6}{xs:List V}{b f sz cap:Nat}{us:List yz}(hsz:0<sz)(hi:f9 M b f us)(hr:repE M sz xs us)(hc:I xs<=cap):repV M (.list xs) (.slice (G ⟨b,f,none⟩) (I xs) cap):=by
 grind[B6]
section
variable {P : x7} {o : yy} {σ : St} {d : D}
theorem Ln(s:Nat):∀(vs:List yz) (i0:Nat) (de rest:List yz),I de=i0*s->(∀v∈vs,v.cells.size=s)->I rest=I vs*s->
  Instr.fill (fun i=>G (i*s,s)) (de++rest).toArray ((vs.zipIdx i0).map fun x=>(x.2,x.1))=G (de++vs.flatMap (·.cells.toList)).toArray
 |[],i0,de,rest,_,_,hr=>by
  have:rest=[]:=List.eq_nil_of_length_eq_zero (by simpa using hr)
  subst this;simp[Instr.fill]
 |v::vs,i0,de,rest,hp,hv,hr=>by
  have hvs:=hv v (by simp)
  have hr':I rest=s+I vs*s:=by rw[hr,HP,J1,Nat.one_mul,Nat.add_comm]
  have hsp:=AaY (i0*s) v.cells.toList (de++rest).toArray (by simp only[J4,HY,IK];omega)
  simp only[IK,hvs] at hsp
  have e1:(de++rest).take (i0*s)=de:=by rw[←hp];simp
  have e2:(de++rest).drop (i0*s+s)=rest.drop s:=by rw[←hp];simp
  simp only[e1,e2] at hsp
  have ih:=Ln s vs (i0+1) (de++v.cells.toList) (rest.drop s) (by simp[hp,hvs,J1]) (fun x hx=>hv x (by simp[hx])) (by simp;omega)
  simp only[List.zipIdx_cons,I9]
  unfold Instr.fill
  simp only[hvs]
  rw[Iz (by simp;omega)]
  have e3:(v.cells.zipIdx.foldl (fun cs (x:yz×Nat)=>cs.setIfInBounds (i0*s+x.2) x.1) (de++rest).toArray)=(de++v.cells.toList++rest.drop s).toArray:=by
   rw[←Array.foldl_toList,Array.toList_zipIdx]
   apply Jt
   rw[hsp]
  rw[e3,ih]
  simp
theorem KC{g:Gh}{sz:Nat}:∀{ds:List D} {xs:List V} {us:List yz},Fu ds=G xs->Ag g ds us->(∀x∈xs,x.size=sz)->repE g.M sz xs (us.flatMap (·.cells.toList))/\(∀v∈us,v.cells.size=sz)
 |[],xs,us,h,hr,_=>by simp[Fu] at h;subst h;simp only[Ag] at hr;subst hr;simp[repE]
 |d::ds,xs,us,h,hr,hs=>by
  simp only[Fu] at h
  split at h
  ·rename_i x xs' hx hxs
   simp at h;subst h
   simp only[Ag] at hr
   obtain⟨u,us',rfl,h2,h3⟩:=hr
   have hv:=Lz hx h2
   obtain⟨_,hsz⟩:=MZ hv
   obtain⟨h4,h5⟩:=KC hxs h3 (fun y hy=>hs y (by simp[hy]))
   have hu:u.cells.size=sz:=hsz.trans (hs x (by simp))
   refine⟨?_,?_⟩
   ·simp only[List.flatMap_cons,repE]
    exact⟨_,_,rfl,by simpa using hu,L3 hv,h4⟩
   ·intro v hv'
    rcases IN.1 hv' with rfl|h
    ·exact hu
    ·exact h5 v h
  ·simp at h
theorem GF:∀{ds:List D} {xs:List V},Fu ds=G xs->I xs=I ds
 |[],xs,h=>by simp[Fu] at h;simp[←h]
 |d::ds,xs,h=>by
  simp only[Fu] at h
  split at h
  ·rename_i x xs' hx hxs
   simp at h;subst h
   simp[GF hxs]
  ·simp at h
theorem Fo{t:x6}{len:Nat}{parts:Array (Nat×x8)}(ho:o.op=.buildSlice t len parts)(hp:parts.toList=((parts.toList.map (·.2)).zipIdx 0).map fun x=>(x.2,x.1))(hlen:parts.size=len)
  {e:x6} {sz by':Nat} {z:Option yz} (hs:BW P t=G (e,sz,by',z)) (hz:z.isSome=J) {ds:List D} {xs:List V} (hx:Fu ds=G xs) (hsz:∀x∈xs,x.size=sz) (h0:0<len) (h1:0<sz) (h2:len*sz<=1000):
  Ak P o ds σ (.v (.list xs)) σ:=by
 intro E g a w K Q hw hds hK
 simp only[ho,Op.operands] at hds
 obtain⟨i,hu,hi,rfl,rfl,rfl⟩:=AF hs
 obtain⟨zz,hzz⟩:=Option.isSome_iff_exists.1 hz
 have hlm:I (parts.toList.map fun p=>a.eval p.2)=len:=by grind
 have hds':Ag g ds (parts.toList.map fun p=>a.eval p.2):=by grind[Function.comp_def]
 obtain⟨hr,hcs⟩:=KC hx hds' hsz
 have hxl:I xs=len:=by rw[GF hx, ←A3 hds',hlm]
 have hpos:0<len*i.size:=Nat.mul_pos h0 h1
 have hf:=Ln i.size (parts.toList.map fun p=>a.eval p.2) 0 [] ((Array.range (len*i.size)).map (zz.cells[· %zz.cells.size]!)).toList (by simp) hcs (by grind)
 have hpp:((parts.toList.map fun p=>a.eval p.2).zipIdx 0).map (fun x=>(x.2,x.1))=parts.toList.map fun p=>(p.1,a.eval p.2):=by
  have e1:(parts.toList.map fun p=>a.eval p.2)=(parts.toList.map (·.2)).map a.eval:=by simp
  rw[e1,List.zipIdx_map,map_map]
  conv=>rhs;rw[hp,map_map]
  rfl
 rw[hpp] at hf
 simp only[nil_append,Array.toArray_toList] at hf
 have hrun:=run_buildSlice (P:=P) w t e len (parts.map fun p=>(p.1,a.eval p.2)) _ i zz hu hi hzz (by omega) (by omega) (by simpa using hf)
 obtain⟨hw',hle⟩:=hw.newImm ((parts.toList.map fun p=>a.eval p.2).flatMap (·.cells.toList)) [] e
 rw[IX] at hw'
 have:=hK _ _ (.slice (G ⟨w.heap.size,0,none⟩) len len) hw' hle (by
  simp only[Ah]
  have:=CH (cap:=len) h1 (Rf g.M w.heap.size _) (repE.mono hle.M _ _ _ hr) (by omega)
  grind)
 unfold Oper.wp execOp
 simp only[ho]
 simp only[Sem.run_bind]
 rw[show(parts.map fun(x:Nat×x8)=>match x with|(i,x)=>(i,a.eval x))=parts.map fun p=>(p.1,a.eval p.2) from rfl,hrun]
 exact this
theorem O1{t:x6}{parts:Array (Nat×x8)}(ho:o.op=.buildSlice t 0 parts)(hp:parts= #[]){e:x6}{sz by':Nat}{z:Option yz}(hs:BW P t=G (e,sz,by',z)):
  Ak P o [] σ (.v (.list [])) σ:=by
 intro E g a w K Q hw hds hK
 obtain⟨i,hu,hi,rfl,rfl,rfl⟩:=AF hs
 subst hp
 have:=hK g _ (.slice (G ⟨w.heap.size,0,none⟩) 0 0) (hw.alloc (.cells #[] e)) g.le_refl (by
  grind[Ah,B6])
 unfold Oper.wp execOp
 simpa[ho,Instr.buildSlice,run_underlying hu,sizeOf,typeInfo,hi,Instr.fill,newRow,Oper.upon,show Array.range 0= #[] from rfl] using this
end
section
variable {P : x7} {o : yy} {σ : St} {d : D}
theorem MW(w:x5)(t ty e:x6)(i:TypeInfo)(ht:P.underlying t=G (.slice e))(hi:P.info? e=G i)(a a2:Option Addr)(n c c2:Nat)(hc:n<=c):
  (Builtin.append_ #[t,t] ty #[.slice a n c,.slice a2 0 c2]).run P w=.ok (.slice a n c) w:=by
 have hf:(Builtin.firstCells i.size 0 (.slice a2 0 c2)).run P w=.ok #[] w:=by
  cases a2<;>simp[Builtin.firstCells,loadCells,loadCellsFrom]
 cases a<;>simp[Builtin.append_,run_underlying ht,sizeOf,typeInfo,hi,Builtin.lenOf,hc,hf,storeCells]
theorem ee(w:x5)(t ty e e':x6)(i:TypeInfo)(ht:P.underlying t=G (.slice e))(hi:P.info? e=G i)
  (g sLen sCap:Nat) (cur:Array yz) (hg:w.heap[g]?=G (.cells cur e' (0,0)))
  (a:Addr) (m c:Nat) (news:List yz) (hl:I news=m*i.size) (hnews:∀j u,news[j]?=G u->w.cell? (a.add j)=G u) (h1:∀u∈news,u.oneCell'=J)
  (hroom:sLen+m<=sCap) (hfit:sLen*i.size+I news<=cur.size):
  (Builtin.append_ #[t,t] ty #[.slice (G ⟨g,0,none⟩) sLen sCap,.slice (G a) m c]).run P w=
   .ok (.slice (G ⟨g,0,none⟩) (sLen+m) sCap) (w.setRow g (cur.toList.take (sLen*i.size)++news++cur.toList.drop (sLen*i.size+I news)).toArray):=by
 have hf:=run_firstCells_some (P:=P) w i.size m a m c news hl hnews
 have hst:=run_storeCells_at P g (sLen*i.size) e' news 0 cur w hg (by omega) h1
 simp only[Jp] at hst
 simp[Builtin.append_,run_underlying ht,sizeOf,typeInfo,hi,Builtin.lenOf,hroom,hf,Addr.add_lit,hst]
theorem Mj(w:x5)(t ty e e':x6)(i:TypeInfo)(ht:P.underlying t=G (.slice e))(hi:P.info? e=G i)
  (g p sLen sCap:Nat) (cur:Array yz) (hg:w.heap[g]?=G (.cells cur e' (0,0)))
  (a:Addr) (m c:Nat) (news:List yz) (hl:I news=m*i.size) (hnews:∀j u,news[j]?=G u->w.cell? (a.add j)=G u) (h1:∀u∈news,u.oneCell'=J)
  (hroom:sLen+m<=sCap) (hfit:p+sLen*i.size+I news<=cur.size):
  (Builtin.append_ #[t,t] ty #[.slice (G ⟨g,p,none⟩) sLen sCap,.slice (G a) m c]).run P w=
   .ok (.slice (G ⟨g,p,none⟩) (sLen+m) sCap) (w.setRow g (cur.toList.take (p+sLen*i.size)++news++cur.toList.drop (p+sLen*i.size+I news)).toArray):=by
 have hf:=run_firstCells_some (P:=P) w i.size m a m c news hl hnews
 have hst:=run_storeCells_at P g (p+sLen*i.size) e' news 0 cur w hg (by omega) h1
 simp only[Jp] at hst
 simp[Builtin.append_,run_underlying ht,sizeOf,typeInfo,hi,Builtin.lenOf,hroom,hf,Addr.add_lit,hst]
theorem Ot{E:c9}{g:Gh}{w:x5}(hw:WI E g σ w){t ty e:x6}{sz by':Nat}{z:yz}(hs:BW P t=G (e,sz,by',G z))(hzc:z.cells.size=sz){k:Nat}{xs ys:List V}(hx:(k,sz,xs)∈σ.own)
  (hsy:∀y∈ys,y.size=sz) (hlen:(I xs+I ys)*by'<=140737488355328) (hlen2:I xs+I ys<=140737488355328) {u v:yz} (hu:g.ι k (I xs)=G u) (hv:repV g.M (.list ys) v):
  ∃u' w' g',(Builtin.append_ #[t,t] ty #[u,v]).run P w=.ok u' w'/\WI E g' ⟨σ.H,σ.own.map (FD k sz (xs++ys))⟩ w'/\g.le g'/\Ah g' (.acc k (xs++ys)) u':=by
 obtain⟨⟨hsz,hsx⟩,u0,hu0,hr0,hp0,hfr⟩:=hw.rep.own k sz xs hx
 obtain rfl:u=u0:=by grind
 obtain⟨i,ht,hi,hisz,hib,hiz⟩:=AF hs
 have hzs:∀x∈xs++ys,x.size=sz:=fun x hx=>by
  grind
 obtain⟨a2,cap2,rfl,hc2,hv⟩:=Cm hv hsy hsz
 obtain⟨a1,cap1,e1,hc1,hr1⟩:=Cm hr0 hsx hsz

 have fin:∀(u':yz) (w':x5) (M':c6),(Builtin.append_ #[t,t] ty #[u,.slice a2 (I ys) cap2]).run P w=.ok u' w'->g.M.le M'->
   (∀b,b<w.heap.size->Co u≠G b->w'.heap[b]?=w.heap[b]?/\∀o,M' b o=g.M b o)->(∀b o v,M' b o=G v->w'.cell? ⟨b,o,none⟩=G v)->
   w.heap.size<=w'.heap.size->w'.os=w.os->w'.tape=w.tape->w'.output=w.output->repV M' (.list (xs++ys)) u'->Perm M' w' sz u'->(∀b,Co u'=G b->Co u=G b∨w.heap.size<=b)->
   (I xs<I (xs++ys)∨(I (xs++ys)=I xs/\u'=u))->BV w.drawn w'.drawn->
   ∃u' w' g',(Builtin.append_ #[t,t] ty #[u,.slice a2 (I ys) cap2]).run P w=.ok u' w'/\WI E g' ⟨σ.H,σ.own.map (FD k sz (xs++ys))⟩ w'/\g.le g'/\Ah g' (.acc k (xs++ys)) u':=by
  intro u' w' M' hrun hle keep mem size os tape output hr hp hb hl dr
  obtain⟨h1,h2⟩:=hw.setOwn hx hu hle keep mem size os tape output hzs hr hp hb hl
  grind[Ah]
 cases hys:ys with
 |nil=>
  subst hys
  refine fin u w g.M ?_ (c6.le_refl _) (fun b _ _=>⟨rfl,fun _=>rfl⟩) hw.rep.mem (HR _) rfl rfl rfl (by grind) hp0 (fun b hb=>.inl hb) (.inr ⟨by simp,rfl⟩) (BV.refl _)
  grind[MW]
 |cons y0 ys0=>
  rw[←hys]
  have hne:ys≠ []:=by grind
  have hpos:0<I ys:=List.length_pos_iff.2 hne
  rcases hv with h|⟨b2,off2,vs,rfl,hi2,hr2⟩
  ·grind
  have hvl:I vs=I ys*i.size:=by grind[Cd]
  have hcells2:=EU hw hi2
  have hvone:=LX hr2
  have grows:∀(us:List yz) (old:Nat),repE g.M sz xs us->old<I xs+I ys->
    (Builtin.append_ #[t,t] ty #[u,.slice (G ⟨b2,off2,none⟩) (I ys) cap2]).run P w=
     .ok (.slice (G ⟨w.heap.size,0,none⟩) (I xs+I ys) (grownCap w (I xs+I ys) old e))
      (w.drew.alloc (.cells (us.toArray++vs.toArray++Builtin.zeroCells z.cells (grownCap w (I xs+I ys) old e- (I xs+I ys))) e))->
    ∃u' w' g',(Builtin.append_ #[t,t] ty #[u,.slice (G ⟨b2,off2,none⟩) (I ys) cap2]).run P w=.ok u' w'/\WI E g' ⟨σ.H,σ.own.map (FD k sz (xs++ys))⟩ w'/\g.le g'/\Ah g' (.acc k (xs++ys)) u':=by
   intro us old hus hold hrun
   have hge:=grownCap_ge w (I xs+I ys) old e
   have hcell:us.toArray++vs.toArray++Builtin.zeroCells z.cells (grownCap w (I xs+I ys) old e- (I xs+I ys))=((us++vs)++(Builtin.zeroCells z.cells (grownCap w (I xs+I ys) old e- (I xs+I ys))).toList).toArray:=by
    grind
   rw[hcell] at hrun
   have hE:=K0 hus hr2
   obtain⟨hw2,hle2⟩:=hw.drew.newImm (us++vs) (Builtin.zeroCells z.cells (grownCap w (I xs+I ys) old e- (I xs+I ys))).toList e
   refine fin _ _ (X0 g.M w.heap.size (us++vs)) hrun hle2.M (fun b hb _=>⟨heap_alloc_old w.drew _ b hb,PJ (Nat.ne_of_lt hb)⟩) hw2.rep.mem (by simp) rfl rfl rfl ?_ ?_ ?_ (.inl (by grind)) (BV.succ _)
   ·have:=CH (cap:=grownCap w (I xs+I ys) old e) hsz (Rf g.M w.heap.size (us++vs)) (repE.mono hle2.M _ _ _ hE) (by grind)
    grind
   ·refine .inr ⟨w.heap.size,0,I xs+I ys,_,_,e,rfl,heap_alloc_new w.drew _,hge,?_,fun o ho=>?_,hw.rep.gw.new (HR _)⟩
    ·simp only[J4,HY,IK,size_zeroCells,hzc,Cd hus,Cd hr2, ←J1,IT]
     grind
    grind[X0,Cd]
   grind[Co]
  have h63:((I xs+I ys:Nat):Int)<=9223372036854775807:=by omega
  have hfit:∀old,old<I xs+I ys->Builtin.nextslicecap (I xs+I ys) old*i.bytes<=281474976710656:=fun old ho=>growslice_fits ho (by grind)
  have hdrew:∀j v,vs[j]?=G v->w.cell? ((⟨b2,off2,none⟩:Addr).add j)=G v:=hcells2
  rcases hp0 with⟨a,ea⟩|⟨b,f,len,cap,cur,et,eu,hb,hlc,hcc,hMb⟩
  ·-- no room at all
   have hxn:xs=[]:=by
    grind
   subst hxn
   simp only[HT,IT] at*
   subst ea
   cases a with
   |none=>
    refine grows [] 0 (by rfl) hpos ?_
    have:=run_append_nil (P:=P) w t ty e i z ht hi hiz ⟨b2,off2,none⟩ (I ys) cap2 vs hvl hdrew hpos (by omega) (by grind)
    grind
   |some a=>
    refine grows [] 0 (by rfl) hpos ?_
    have:=run_append_grow (P:=P) w t ty e i z ht hi hiz a 0 0 [] (by simp) (by simp) ⟨b2,off2,none⟩ (I ys) cap2 vs hvl hdrew (by omega) (by omega) (by grind)
    grind
  ·obtain⟨rfl,rfl,rfl⟩:a1=G ⟨b,f,none⟩/\xs.length=len/\cap1=cap:=by
    grind
   obtain⟨us,hus,hui⟩:∃us,repE g.M sz xs us/\f9 g.M b f us:=by
    rcases hr1 with rfl|⟨b',off',us,ea,hi1,hr1⟩
    ·exact⟨[],by rfl,fun j v hj=>by grind⟩
    grind
   have hul:=Cd hus
   by_cases hroom:I xs+I ys<=cap1
   ·-- in place
    have hcur:f+I xs*i.size+I vs<=cur.size:=by
     rw[hvl,hisz,Nat.add_assoc, ←J1]
     exact Jn (Nat.add_le_add_left (Nat.mul_le_mul_right _ hroom) f) hcc
    have hrun:=Mj (P:=P) w t ty e et i ht hi b f (I xs) cap1 cur hb ⟨b2,off2,none⟩ (I ys) cap2 vs hvl hdrew hvone hroom hcur
    rw[←eu] at hrun
    have hcap0:cap1≠0:=by omega
    have hob:Co u=G b:=by grind[Co]

    let M':c6:=fun b' o=>if b'=b/\f+I xs*sz<=o then vs[o- (f+I xs*sz)]? else g.M b' o
    have hM':g.M.le M':=fun b' o v hm=>by
     simp only[M']
     rw[Iz]; ·exact hm
     rintro ⟨rfl,ho⟩
     rw[hMb o ho] at hm;grind
    have hin:f9 M' b f (us++vs):=fun j v hj=>by
     simp only[M']
     by_cases hj1:f+I xs*sz<=f+j
     ·rw[I4 ⟨trivial,hj1⟩,show f+j- (f+I xs*sz)=j-I xs*sz by omega]
      grind[List.getElem?_append_right]
     ·rw[Iz (fun h=>hj1 h.2)]
      rw[I5 (by omega)] at hj
      have:=hui j v hj;omega
    refine fin _ _ M' hrun hM' (fun b' _ hne=>?_) (fun b' o v hm=>?_) (by simp) rfl rfl rfl ?_ ?_ (fun b' hb'=>?_) (.inl (by grind)) (BV.refl _)
    ·have hbb:b'≠b:=fun h=>hne (by grind)
     grind[World.setRow]
    ·simp only[M'] at hm
     by_cases hb':b'=b
     ·subst hb'
      rw[cell_setRow_same w b' o cur _ et _ hb]
      have hl1:I (cur.toList.take (f+I xs*i.size))=f+I xs*sz:=by
       simp only[ID,IK,hisz]
       have:=Jn (Nat.add_le_add_left (Nat.mul_le_mul_right sz hlc) f) hcc
       omega
      by_cases ho:f+I xs*sz<=o
      ·grind
      ·rw[Iz (fun h=>ho h.2)] at hm
       have hold:=hw.rep.mem b' o v hm
       grind[World.cell?]
     ·rw[Iz (fun h=>hb' h.1)] at hm
      rw[cell_setRow_other w b _ _ hb']
      exact hw.rep.mem b' o v hm
    ·grind[CH,repE.mono,K0]
    ·refine .inr ⟨b,f,I xs+I ys,cap1,_,et,rfl,setRow_heap w b cur _ et _ hb,hroom,?_,fun o ho=>?_,hw.rep.own_ng hx hu hob⟩
     ·simp only[J4,HY,ID,Jw,IK]
      omega
     ·simp only[M']
      rw[I4 ⟨trivial,by grind⟩]
      refine List.getElem?_eq_none ?_
      rw[hvl,hisz];rw[J1] at ho;omega
    grind[Co]
   ·have:=run_append_grow (P:=P) w t ty e i z ht hi hiz ⟨b,f,none⟩ (I xs) cap1 us (by grind) (EU hw hui) ⟨b2,off2,none⟩ (I ys) cap2 vs hvl hdrew (by omega) h63 (hfit cap1 (by omega))
    refine grows us cap1 hus (by omega) ?_
    grind
theorem Sh{x y:x8}{t:x6}(ho:o.op=.call { callee:=.builtin .append,args:= #[x,y],argTypes:= #[t,t]}){e:x6}{sz by':Nat}{z:yz}(hs:BW P t=G (e,sz,by',G z))(hzc:z.cells.size=sz)
  {k:Nat} {xs ys:List V} (hx:(k,sz,xs)∈σ.own) (hsy:∀y∈ys,y.size=sz) (hlen:(I xs+I ys)*by'<=140737488355328) (hlen2:I xs+I ys<=140737488355328):
  Ak P o [.acc k xs,.v (.list ys)] σ (.acc k (xs++ys)) ⟨σ.H,σ.own.map (FD k sz (xs++ys))⟩:=by
 intro E g a w K Q hw hds hK
 simp only[ho,Op.operands,Call.operands] at hds
 obtain⟨u,v,eq,h1,h2⟩:=Ax.1 (by simpa using hds)
 simp only[HX,IL] at eq
 simp only[Ah] at h1 h2
 obtain⟨u',w',g',hrun,hw',hle,hr⟩:=Ot (P:=P) (ty:=o.type) hw hs hzc hx hsy hlen hlen2 h1.2 h2
 have:=hK g' w' u' hw' hle hr
 unfold Oper.wp execOp
 simp only[ho,resolve,invoke,builtin,Sem.run_bind,Sem.run_pure,Result.andThen_ok,List.map_toArray,I9,Jo,eq.1,eq.2,hrun]
 exact this
end
section
variable {P : x7} {o : yy} {σ : St} {d : D}
theorem RE{M:c6}{xs:List V}{a:Option Addr}{len cap sz:Nat}(hr:repV M (.list xs) (.slice a len cap))(hs:∀x∈xs,x.size=sz)(hsz:0<sz){l h:Nat}(hl:l<=h)(hh:h<=I xs):
  len=I xs/\xs.length<=cap/\repV M (.list ((xs.take h).drop l)) (.slice (if cap=l then a else a.map (·.add (l*sz))) (h-l) (cap-l)):=by
 obtain⟨a',cap',e,hc,hr2⟩:=Cm hr hs hsz
 simp only[Value.slice.injEq] at e
 obtain⟨rfl,rfl,rfl⟩:=e
 refine⟨rfl,hc,?_⟩
 have hlen:I ((xs.take h).drop l)=h-l:=by grind
 rw[B6]
 refine⟨_,cap-l,by rw[hlen],by omega,?_⟩
 rcases Nat.lt_or_ge l h with hlt|hge
 ·rcases hr2 with rfl|⟨b,off,us,rfl,hi,hr3⟩
  ·grind
  refine .inr ⟨b,off+l*sz,sz,(us.take (h*sz)).drop (l*sz),?_,hsz,WK (WJ hi _) _,RQ (RO hr3 h) l⟩
  grind[Addr.add_lit]
 grind
def C8(n:Nat)(l h:Option Int):Option (Nat×Nat):=
 let h':=h.getD n
 let l':=l.getD 0
 if 0<=l'/\l'<=h'/\h'<=n then G (l'.toNat,h'.toNat) else none
theorem DX(w:x5)(isS:Bool)(len cap:Nat)(hc:len<=cap)(l h:Option (yv×Int)){l' h':Nat}(hb:C8 len (l.map (·.2)) (h.map (·.2))=G (l',h')):
  (Instr.sliceBounds isS len cap (l.map fun p=>.int p.1 p.2) (h.map fun p=>.int p.1 p.2) none).run P w=.ok (l',h',cap) w:=by
 unfold C8 at hb
 simp only at hb
 split at hb
 ·rename_i hcond
  simp only[IF,Prod.mk.injEq] at hb
  obtain⟨rfl,rfl⟩:=hb
  cases l with
  |none=>
   cases h with
   |none=>rfl
   |some p=>
    simp only[JJ,Jr,Option.getD_none,JD] at hcond⊢
    simp[Instr.sliceBounds,run_sliceBound w p.1 p.2 cap _ (by omega) (by omega)]
  |some q=>
   cases h with
   |none=>
    simp only[JJ,Jr,Option.getD_none,JD] at hcond⊢
    simp[Instr.sliceBounds,run_sliceBound w q.1 q.2 len _ (by omega) (by omega)]
   |some p=>
    simp only[Jr,JD] at hcond⊢
    simp[Instr.sliceBounds,run_sliceBound w p.1 p.2 cap _ (by omega) (by omega),run_sliceBound w q.1 q.2 p.2.toNat _ (by omega) (by omega)]
 grind
def Fk:Option (yv×Int)->List D
 |none=>[]
 |some p=>[.v (.int p.1 p.2)]
theorem Acj{t:x6}{x:x8}{lo hi:Option x8}(ho:o.op=.slice t x lo hi none){e:x6}{sz by':Nat}{z:Option yz}(hs:BW P t=G (e,sz,by',z)){xs:List V}(hsx:∀x∈xs,x.size=sz)(hsz:0<sz)
  (l h:Option (yv×Int)) (hlo:lo.isSome=l.isSome) (hhi:hi.isSome=h.isSome) {l' h':Nat} (hb:C8 (I xs) (l.map (·.2)) (h.map (·.2))=G (l',h')):
  Ak P o (.v (.list xs)::(Fk l++Fk h)) σ (.v (.list ((xs.take h').drop l'))) σ:=by
 refine A8 fun E g ρ w hw hds=>?_
 obtain⟨i,hu,hi',rfl,rfl,rfl⟩:=AF hs
 have hb2:=hb
 unfold C8 at hb2
 simp only at hb2
 split at hb2
 case isFalse=>grind
 rename_i hcond
 simp only[IF,Prod.mk.injEq] at hb2
 have main:∀u (lv hv:Option yz),ρ x=u->lv=l.map (fun p=>Value.int p.1 p.2)->hv=h.map (fun p=>Value.int p.1 p.2)->lo.map ρ=lv->hi.map ρ=hv->repV g.M (.list xs) u->
   ∃u,(execOp ρ o).run P w=.ok (.value u) w/\Ah g (.v (.list ((xs.take h').drop l'))) u:=by
  intro u lv hv eu el eh e1 e2 hr
  obtain⟨a,cap,rfl,hc,_⟩:=B6.1 hr
  obtain⟨_,_,hres⟩:=RE hr hsx hsz (l:=l') (h:=h') (by omega) (by omega)
  refine⟨_,?_,by simp only[Ah];exact hres⟩
  have hbr:=DX (P:=P) w true (I xs) cap hc l h hb
  simp only[execOp,ho,eu,e1,e2,el,eh,JJ,Instr.sliceAt,Instr.slice,Sem.run_bind,run_underlying hu,Result.andThen_ok,hbr]
  simp[sizeOf,typeInfo,hi']
 simp only[ho,Op.operands] at hds
 cases lo with
 |none=>
  cases l with
  |some _=>grind
  |none=>
   cases hi with
   |none=>
    cases h<;>grind[AG,Fk,Ah]
   |some ho'=>
    cases h<;>grind[Ax,Fk,Ah,AC]
 |some lo'=>
  cases l with
  |none=>grind
  |some q=>
   cases hi with
   |none=>
    cases h<;>grind[Ax,Fk,Ah,AC]
   |some ho'=>
    cases h with
    |none=>grind
    |some p=>
     obtain⟨u,v,v2,eu,h1,h2,h3⟩:=Fw.1 (by simpa[Fk] using hds)
     grind[Ah,AC]
theorem Aci{t:x6}{x:x8}{lo hi:Option x8}(ho:o.op=.slice t x lo hi none)(hu:P.underlying t=G .string){s:List UInt8}
  (l h:Option (yv×Int)) (hlo:lo.isSome=l.isSome) (hhi:hi.isSome=h.isSome) {l' h':Nat} (hb:C8 (I s) (l.map (·.2)) (h.map (·.2))=G (l',h')):
  Ak P o (.v (.str s)::(Fk l++Fk h)) σ (.v (.str ((s.take h').drop l'))) σ:=by
 refine A8 fun E g ρ w hw hds=>?_
 have main:∀u (lv hv:Option yz),ρ x=u->lv=l.map (fun p=>Value.int p.1 p.2)->hv=h.map (fun p=>Value.int p.1 p.2)->lo.map ρ=lv->hi.map ρ=hv->u=.string ⟨s.toArray⟩->
   ∃u,(execOp ρ o).run P w=.ok (.value u) w/\Ah g (.v (.str ((s.take h').drop l'))) u:=by
  intro u lv hv eu el eh e1 e2 hr
  subst hr
  refine⟨.string ⟨((s.take h').drop l').toArray⟩,?_,by grind[Ah,D6]⟩
  have hbr:=DX (P:=P) w false (I s) (I s) (HR _) l h hb
  have hx:(⟨s.toArray⟩:ByteArray).extract l' h'=⟨((s.take h').drop l').toArray⟩:=by
   apply ByteArray.ext
   grind[Lib.extract_data,List.drop_take]
  simp only[execOp,ho,eu,e1,e2,el,eh,JJ,Instr.sliceAt,Instr.slice,Sem.run_bind,run_underlying hu,Result.andThen_ok,Option.isSome_none,JL,if_false,TY]
  simp_all
 simp only[ho,Op.operands] at hds
 cases lo with
 |none=>
  cases l with
  |some _=>grind
  |none=>
   cases hi with
   |none=>
    cases h<;>grind[AG,Fk,Ah,D6]
   |some ho'=>
    cases h<;>grind[Ax,Fk,Ah,AC,D6]
 |some lo'=>
  cases l with
  |none=>grind
  |some q=>
   cases hi with
   |none=>
    cases h<;>grind[Ax,Fk,Ah,AC,D6]
   |some ho'=>
    cases h with
    |none=>grind
    |some p=>
     obtain⟨u,v,v2,eu,h1,h2,h3⟩:=Fw.1 (by simpa[Fk] using hds)
     grind[Ah,AC,D6]
theorem KY(z:yz)(n:Nat):madeCells #[z] n=(List.replicate n z).toArray:=by
 grind[madeCells]
theorem AgR{t:x6}{x y:x8}(ho:o.op=.makeSlice t x y){e:x6}{sz by':Nat}{z:yz}(hs:BW P t=G (e,sz,by',G z))(h1:0<sz)(k:Nat)(hk:∀x∈σ.own,x.1≠k){k1 k2:yv}{n:Int}(h0:0<=n)(hn:(by':Int)*n<=281474976710656)(hn2:n<=9223372036854775807):
  Ak P o [.v (.int k1 0),.v (.int k2 n)] σ (.acc k []) ⟨σ.H,(k,sz,[])::σ.own⟩:=by
 intro E g a w K Q hw hds hK
 simp only[ho,Op.operands,Ax] at hds
 obtain⟨u,v,eq,h1',h2⟩:=hds
 simp only[I9,Jo,HX,IL] at eq
 obtain⟨e1,e2⟩:=eq
 simp only[Ah,AC] at h1' h2
 subst h1' h2
 obtain⟨i,hu,hi,hsz,hby,hzz⟩:=AF hs
 have hrun:=run_make (P:=P) w t e i z hu hi hzz k1 k2 0 n (IA _) h0 (by grind) hn2
 have hrep:repV g.M (.list []) (.slice (G ⟨w.heap.size,0,none⟩) 0 n.toNat):=by grind[B6]
 obtain⟨hw',hle⟩:=(hw.alloc (.cells (madeCells z.cells (n.toNat*i.size)) e)).addOwn (k:=k) (sz:=sz) (xs:=[]) (u:=.slice (G ⟨w.heap.size,0,none⟩) 0 n.toNat) hk ⟨h1,by simp⟩
  hrep (.inr ⟨w.heap.size,0,0,n.toNat,_,e,rfl,heap_alloc_new w _,II _,by grind[size_madeCells],fun o _=>hw.rep.new_none (HR _) o,hw.rep.gw.new (HR _)⟩) (fun b hb=>by
   simp only[Co] at hb
   split at hb
   ·grind
   ·simp at hb;subst hb
    exact⟨hw.size,fun i cs hi=>Nat.ne_of_lt (hw.rep.obj_lt hi),fun x hx u' hu' hb'=>by have:=hw.rep.own_lt hx hu' hb';omega⟩)
 have:=hK _ _ _ hw' hle (by simp only[Ah];exact⟨hrep,by simp⟩)
 unfold Oper.wp execOp
 simp only[ho,e1,e2,Sem.run_bind,hrun,Result.andThen_ok]
 exact this
end
theorem Qk{g:Gh}:∀{ds:List D} {xs:List V} {us:List yz},Fu ds=G xs->Ag g ds us->GZ g.M xs us
 |[],xs,us,h,hr=>by simp[Fu] at h;subst h;simpa[Ag,GZ] using hr
 |d::ds,xs,us,h,hr=>by
  simp only[Fu] at h
  split at h
  ·rename_i x xs' hx hxs
   simp at h;subst h
   simp only[Ag] at hr
   obtain⟨u,us',rfl,h2,h3⟩:=hr
   simp only[GZ]
   obtain⟨ws,h4,h5⟩:=Lz hx h2
   exact⟨u,us',ws,rfl,h4,h5,Qk hxs h3⟩
  ·simp at h
theorem JV{g:Gh}:∀{xs:List V} {us:List yz},GZ g.M xs us->Ag g (xs.map .v) us
 |[],us,h=>by simpa[Ag,GZ] using h
 |x::xs,us,h=>by
  simp only[GZ] at h
  obtain⟨u,us',ws,rfl,h1,h2,h3⟩:=h
  simp only[I9,Ag,Ah]
  exact⟨u,us',rfl,⟨ws,h1,h2⟩,JV h3⟩
section
variable {P : x7} {o : yy} {σ : St} {d : D}
theorem UE{f:yx}{first captured:Array x8}(ho:o.op=.makeFunc (.func f) first captured){fs cs:List D}{xs ys:List V}(hl:I fs=first.size)(hf:Fu fs=G xs)(hc:Fu cs=G ys):
  Ak P o (fs++cs) σ (.v (.fn f xs ys)) σ:=by
 refine A8 fun E g ρ w hw hds=>?_
 simp only[ho,Op.operands,Array.toList_append,J5] at hds
 have h1:=Cn hds (I fs)
 have h2:=Cz hds (I fs)
 have hl':I (first.toList.map ρ)=I fs:=by grind
 rw[List.take_left,List.take_left' hl'] at h1
 rw[List.drop_left,List.drop_left' hl'] at h2
 refine⟨.func (.func f) (first.map ρ) (captured.map ρ),?_,?_⟩
 ·simp[execOp,ho,Instr.makeFunc]
 grind[Ah,Kz,Array.toList_map,Qk]
end
theorem WI.setObjG{E:c9}{g:Gh}{σ:St}{w w':x5}(hw:WI E g σ w){M':c6}(hle:g.M.le M'){q:Nat}{cs:List D}{oc:Option (List D)}(hq:σ.H[q]?=G (G cs))
  (hb:∀cs',oc=G cs'->∃us rest e,w'.heap[g.β q]?=G (.cells (us++rest).toArray e (0,0))/\Ag { g with M:=M' } cs' us/\(∀c∈cs',c.one=J)/\(∀o,M' (g.β q) o=none)/\(us++rest).length=g.κ q)
  (keep:∀b,b<w.heap.size->b≠g.β q->w'.heap[b]?=w.heap[b]?/\∀o,M' b o=g.M b o) (mem:∀b o v,M' b o=G v->w'.cell? ⟨b,o,none⟩=G v)
  (size:w.heap.size<=w'.heap.size) (os:w'.os=w.os) (tape:w'.tape=w.tape) (output:w'.output=w.output) (drawn:BV w.drawn w'.drawn:=by first|exact BV.refl _|exact BV.succ _|assumption):
  WI E { g with M:=M' } ⟨σ.H.set q oc,σ.own⟩ w':=by
 have hlg:g.le { g with M:=M' }:=⟨hle,HR _,fun _ _=>rfl,fun _ _ _ h=>h,fun _ _=>rfl⟩
 have split:∀(i:Nat) (cs1:List D),(σ.H.set q oc)[i]?=G (G cs1)->(i=q/\oc=G cs1)∨(i≠q/\σ.H[i]?=G (G cs1)):=by
  grind
 have live:∀(i:Nat) (cs1:List D),(σ.H.set q oc)[i]?=G (G cs1)->∃cs2,σ.H[i]?=G (G cs2):=by
  grind
 refine hw.update (fun b=>b=g.β q) (fun b e=>by subst e;exact hw.objs q cs hq) (fun b hb hne=>keep b hb hne) hle (HR _) (fun _ _=>rfl) (fun _ _=>rfl) size os tape output ?_ ?_ hw.owns
 ·refine⟨by simp[hw.rep.n],mem,fun i cs1 hi=>?_,fun i j c1 c2 hi hj hij=>?_,fun k sz xs hx=>?_,hw.rep.tags,hw.rep.sep,fun x hx u hu b hb' i cs1 hi=>?_,hw.rep.fresh,hw.rep.gl.mono hle,hw.rep.gw.keepG fun p hp hlt=>(keep p.1 hlt (hw.rep.obj_ng hq p hp)).1⟩
  ·rcases split i cs1 hi with⟨rfl,e⟩|⟨hne,h⟩
   ·grind
   ·obtain⟨us',rest',e',h2,h3,h4,h5,h6⟩:=hw.rep.obj i cs1 h
    obtain⟨k1,k2⟩:=keep _ (QE h2) (fun e=>hne (hw.rep.inj i q _ _ h hq e))
    grind[Ag.mono]
  ·obtain⟨c3,h3⟩:=live i c1 hi
   obtain⟨c4,h4⟩:=live j c2 hj
   exact hw.rep.inj i j _ _ h3 h4 hij
  ·obtain⟨h0,u,hu,h3,h4,h5⟩:=hw.rep.own k sz xs hx
   refine⟨h0,u,hu,h3.mono hle,h4.kept fun b hb'=>keep b (hw.rep.own_lt hx hu hb') ?_,h5⟩
   exact fun e=>hw.rep.ownObj _ hx u hu b hb' q cs hq e.symm
  ·obtain⟨c3,h3⟩:=live i cs1 hi
   exact hw.rep.ownObj x hx u hu b hb' i c3 h3
 ·intro i cs1 hi
  obtain⟨c3,h3⟩:=live i cs1 hi
  exact hw.objs i c3 h3
mutual
def D.pl:D->Bool
 |.v _=>true
 |.raw _=>true
 |.rv .. =>true
 |.tup ds=>D.pls ds
 |.err=>true
 |.undef=>true
 |_=>false
def D.pls:List D->Bool
 |[]=>true
 |d::ds=>d.pl&&D.pls ds
end
mutual
theorem Qn{g g':Gh}(hM:g'.M=g.M):∀{d:D} {u:yz},d.pl=J->Ah g d u->Ah g' d u
 |.v x,u,_,h=>by simp only[Ah] at h⊢;rw[hM];exact h
 |.tup ds,u,hp,h=>by
  simp only[Ah] at h⊢
  obtain⟨us,e,h1⟩:=h
  exact⟨us,e,BX hM (by simpa[D.pl] using hp) h1⟩
 |.undef,u,_,_=>by simp only[Ah]
 |.raw x,u,_,h=>by simpa only[Ah] using h
 |.err,u,_,h=>by simpa only[Ah] using h
 |.rv x u0,u,_,h=>by simp only[Ah] at h⊢;rw[hM];exact h
 |.acc ..,_,hp,_=>by simp[D.pl] at hp
 |.ptr ..,_,hp,_=>by simp[D.pl] at hp
 |.arr ..,_,hp,_=>by simp[D.pl] at hp
 |.dagg ..,_,hp,_=>by simp[D.pl] at hp
 |.dfn ..,_,hp,_=>by simp[D.pl] at hp
theorem BX{g g':Gh}(hM:g'.M=g.M):∀{ds:List D} {us:List yz},D.pls ds=J->Ag g ds us->Ag g' ds us
 |[],us,_,h=>by simpa[Ag] using h
 |d::ds,us,hp,h=>by
  simp only[D.pls,HL] at hp
  simp only[Ag] at h⊢
  obtain⟨u,us',e,h1,h2⟩:=h
  exact⟨u,us',e,Qn hM hp.1 h1,BX hM hp.2 h2⟩
end
theorem BJ(xs:List V):D.pls (xs.map .v)=J:=by induction xs<;>simp_all [D.pls,D.pl]
theorem D8:∀(a b:List D),D.pls (a++b)=(D.pls a&&D.pls b)
 |[],b=>by simp[D.pls]
 |d::a,b=>by simp[D.pls,D8 a b,Bool.and_assoc]
section
variable {P : x7} {o : yy} {σ : St} {d : D}
theorem GE{_E:c9}{_g:Gh}{a:Act}{w:x5}{K:Act->x5->Prop}{Q:Exit->Act->x5->Prop}{c:Call}{fo:x8}(ho:o.op=.call c)(hc:c.callee=.value fo){f:yx}(hcall:X7 P f){us vs ws:List yz}
  (hf:a.eval fo=.func (.func f) us.toArray vs.toArray) (hargs:c.args.toList.map a.eval=ws)
  (h:Calls P f (us++ws++vs).toArray w fun e w'=>∃u,e=.returned u/\K (a.put o.dst u) w'):o.wp P a w K Q:=by
 obtain⟨fn,h1,h2,h3⟩:=hcall
 have hargs':c.args.map a.eval=ws.toArray:=by grind
 unfold Oper.wp execOp
 simp only[ho,resolve,hc,hf,hargs',Deferred.ofValue,Sem.run_bind,Sem.run_pure,Result.andThen_ok,invoke,callFunc,run_program,h1,h2,h3,JL,if_false]
 grind[Calls.mono,Oper.upon]
theorem DZ{g:Gh}{a:Act}{c:Call}{fo:x8}(ho:o.op=.call c)(hc:c.callee=.value fo){f:yx}{fs cs:List V}{ds:List D}(h:Ag g (.v (.fn f fs cs)::ds) (o.op.operands.toList.map a.eval)):
  ∃us vs ws,a.eval fo=.func (.func f) us.toArray vs.toArray/\c.args.toList.map a.eval=ws/\Ag g (fs.map .v) us/\Ag g (cs.map .v) vs/\Ag g ds ws:=by
 grind[Op.operands,Call.operands,Ag,Ah,Kz,JV]
theorem dh.empty{g:Gh}{w:x5}(h:dh g σ w):dh { M:=g.M,β:=g.β,n:=0,ι:=fun _ _=>none,κ:=g.κ } ⟨[],[]⟩ w where
 n:=rfl
 mem:=h.mem
 gl:=h.gl
 gw:=h.gw
 obj:=fun i cs hi=>by grind
 inj:=fun i j cs ds hi=>by grind
 own:=fun k sz xs hx=>by grind
 tags:=by simp
 sep:=fun x hx=>by grind
 ownObj:=fun x hx=>by grind
 fresh:=fun _ _ _=>rfl
theorem F1{g:Gh}{w:x5}{b:Nat}:¬c9.priv ⟨g,w,⟨[],[]⟩⟩ b:=by
 grind[c9.priv]
theorem WI.back0{E:c9}{g gc gc':Gh}{w w':x5}{σc':St}(hw:WI E g σ w)(hM:gc.M=g.M)(h:WI ⟨gc,w,⟨[],[]⟩⟩ gc' σc' w'):WI E { g with M:=gc'.M } σ w'/\g.le { g with M:=gc'.M }:=by
 have hle:g.M.le gc'.M:=by rw[←hM];exact h.M
 refine⟨hw.grow hle (fun b hb=>?_) h.rep.mem h.size h.os h.tape h.output (drawn:=h.drawn),⟨hle,HR _,fun _ _=>rfl,fun _ _ _ h=>h,fun _ _=>rfl⟩⟩
 obtain⟨h1,h2⟩:=h.keep b hb F1
 grind
theorem Qy{c:Call}{fo:x8}(ho:o.op=.call c)(hc:c.callee=.value fo){f:yx}{fs cs:List V}{ds:List D}(hp:D.pls ds=J)(hd:d.pl=J)
  (hspec:Aa P f (fs.map .v++ds++cs.map .v) ⟨[],[]⟩ d ⟨[],[]⟩):Ak P o (.v (.fn f fs cs)::ds) σ d σ:=by
 intro E g a w K Q hw hds hK
 obtain⟨us,vs,ws,hf,hargs,h1,h2,h3⟩:=DZ ho hc hds
 refine GE (_E:=E) (_g:=g) ho hc hspec.1 hf hargs ?_
 have hargs':Ag { M:=g.M,β:=g.β,n:=0,ι:=fun _ _=>none,κ:=g.κ } (fs.map .v++ds++cs.map .v) (us++ws++vs):=
  BX (by rfl) (by grind[D8,BJ]) (Au (Au h1 h3) h2)
 refine Calls.mono (hspec.2 _ w _ hw.rep.empty hargs') ?_
 rintro e w' ⟨u,g',rfl,hw',hr⟩
 obtain⟨h4,h5⟩:=hw.back0 (by rfl) hw'
 exact⟨u,rfl,hK _ _ _ h4 h5 (Qn (by rfl) hd hr)⟩
theorem LZ{c:Call}{fo:x8}(ho:o.op=.call c)(hc:c.callee=.value fo){f:yx}{fs cs:List V}{ds:List D}(hp:D.pls ds=J){k' sz:Nat}{xs:List V}(k:Nat)(hk:∀x∈σ.own,x.1≠k)
  (hspec:Aa P f (fs.map .v++ds++cs.map .v) ⟨[],[]⟩ (.acc k' xs) ⟨[],[(k',sz,xs)]⟩):Ak P o (.v (.fn f fs cs)::ds) σ (.acc k xs) ⟨σ.H,(k,sz,xs)::σ.own⟩:=by
 intro E g a w K Q hw hds hK
 obtain⟨us,vs,ws,hf,hargs,h1,h2,h3⟩:=DZ ho hc hds
 refine GE (_E:=E) (_g:=g) ho hc hspec.1 hf hargs ?_
 have hargs':Ag { M:=g.M,β:=g.β,n:=0,ι:=fun _ _=>none,κ:=g.κ } (fs.map .v++ds++cs.map .v) (us++ws++vs):=
  BX (by rfl) (by grind[D8,BJ]) (Au (Au h1 h3) h2)
 refine Calls.mono (hspec.2 _ w _ hw.rep.empty hargs') ?_
 rintro e w' ⟨u,g',rfl,hw',hr⟩
 obtain⟨h4,h5⟩:=hw.back0 (by rfl) hw'
 simp only[Ah] at hr
 obtain⟨hsz,u',hu',hr',hp',_⟩:=hw'.rep.own k' sz xs (by simp)
 obtain rfl:u=u':=by grind
 obtain⟨h6,h7⟩:=h4.addOwn (k:=k) (sz:=sz) (xs:=xs) (u:=u) hk hsz hr' hp' (fun b hb=>by
  rcases hw'.owns (k',sz,xs) (by simp) u hr.2 b hb with h|h
  ·refine⟨Jn hw.size h,fun i cs hi=>?_,fun x hx v hv hvb=>?_⟩
   ·have:=hw.rep.obj_lt hi;grind
   ·have:=hw.rep.own_lt hx hv hvb;grind
  grind[F1])
 exact⟨u,rfl,hK _ _ _ h6 (Gh.le_trans h5 h7) (by grind[Ah])⟩
inductive F9 (q:Nat):List D->List D->Prop
 |nil:F9 q [] []
 |pl {d:D} {ds dc:List D} (hp:d.pl=J) (h:F9 q ds dc):F9 q (d::ds) (d::dc)
 |ptr {off:Nat} {ds dc:List D} (h:F9 q ds dc):F9 q (.ptr q off::ds) (.ptr 0 off::dc)
 |arr {off len:Nat} {ds dc:List D} (h:F9 q ds dc):F9 q (.arr q off len::ds) (.arr 0 off len::dc)
theorem F9.rep{q:Nat}{g gc:Gh}(hM:gc.M=g.M)(hβ:gc.β 0=g.β q)(hn:0<gc.n):∀{ds dc:List D},F9 q ds dc->∀{us:List yz},Ag g ds us->Ag gc dc us
 |_,_,.nil,us,h=>by simpa[Ag] using h
 |_,_,.pl hp h',us,h=>by
  simp only[Ag] at h⊢
  obtain⟨u,us',e,h1,h2⟩:=h
  exact⟨u,us',e,Qn hM hp h1,F9.rep hM hβ hn h' h2⟩
 |_,_,.ptr h',us,h=>by
  simp only[Ag] at h⊢
  obtain⟨u,us',e,h1,h2⟩:=h
  refine⟨u,us',e,?_,F9.rep hM hβ hn h' h2⟩
  simp only[Ah] at h1⊢
  exact⟨hn,by rw[hβ];exact h1.2⟩
 |_,_,.arr h',us,h=>by
  simp only[Ag] at h⊢
  obtain⟨u,us',e,h1,h2⟩:=h
  refine⟨u,us',e,?_,F9.rep hM hβ hn h' h2⟩
  simp only[Ah] at h1⊢
  exact⟨hn,by rw[hβ];exact h1.2⟩
theorem dh.one{g:Gh}{w:x5}(h:dh g σ w){q:Nat}{cs:List D}(hq:σ.H[q]?=G (G cs))(hp:D.pls cs=J):dh { M:=g.M,β:=fun _=>g.β q,n:=1,ι:=fun _ _=>none,κ:=fun _=>g.κ q } ⟨[G cs],[]⟩ w where
 n:=rfl
 mem:=h.mem
 gl:=h.gl
 gw:=h.gw
 obj:=fun i cs' hi=>by
  cases i with
  |zero=>
   simp at hi;subst hi
   obtain⟨us,rest,e,hb,hr,h1,hM,hκ⟩:=h.obj q cs hq
   grind[BX]
  |succ i=>grind
 inj:=fun i j cs1 cs2 hi hj _=>by
  grind
 own:=fun k sz xs hx=>by grind
 tags:=by simp
 sep:=fun x hx=>by grind
 ownObj:=fun x hx=>by grind
 fresh:=fun _ _ _=>rfl
theorem Wv{M:c6}{b0:Nat}{w:x5}{b:Nat}{ι:Nat->Nat->Option yz}{κ:Nat->Nat}{cs:List D}(h:c9.priv ⟨{ M,β:=fun _=>b0,n:=1,ι,κ },w,⟨[G cs],[]⟩⟩ b):b=b0:=by
 rcases h with⟨i,cs',hi,e⟩|⟨x,hx,_⟩
 all_goals grind
theorem WI.back1{E:c9}{g g':Gh}{w w':x5}{q:Nat}{cs cs':List D}{own':List (Nat×Nat×List V)}(hw:WI E g σ w)(hq:σ.H[q]?=G (G cs))(hp':D.pls cs'=J)
  (h:WI ⟨{ M:=g.M,β:=fun _=>g.β q,n:=1,ι:=fun _ _=>none,κ:=fun _=>g.κ q },w,⟨[G cs],[]⟩⟩ g' ⟨[G cs'],own'⟩ w'):WI E { g with M:=g'.M } ⟨σ.H.set q (G cs'),σ.own⟩ w'/\g.le { g with M:=g'.M }:=by
 refine⟨hw.setObjG h.M hq (fun c hc=>?_) (fun b hb hne=>?_) h.rep.mem h.size h.os h.tape h.output (drawn:=h.drawn),⟨h.M,HR _,fun _ _=>rfl,fun _ _ _ h=>h,fun _ _=>rfl⟩⟩
 ·simp at hc;subst hc
  obtain⟨us,rest,e,hb,hr,h1,hM,hκ⟩:=h.rep.obj 0 cs' (by simp)
  have hβ:g'.β 0=g.β q:=h.βE 0 (by simp)
  have hκ':g'.κ 0=g.κ q:=h.κE 0 (by simp)
  grind[BX]
 ·exact h.keep b hb (fun hpr=>hne (Wv hpr))
theorem Wz{c:Call}{fo:x8}(ho:o.op=.call c)(hc:c.callee=.value fo){f:yx}{fs cs:List V}{ds dc:List D}{q:Nat}{os os':List D}(hq:σ.H[q]?=G (G os))(hos:D.pls os=J)(hos':D.pls os'=J)(ha:F9 q ds dc)(hd:d.pl=J)
  (hspec:Aa P f (fs.map .v++dc++cs.map .v) ⟨[G os],[]⟩ d ⟨[G os'],[]⟩):Ak P o (.v (.fn f fs cs)::ds) σ d ⟨σ.H.set q (G os'),σ.own⟩:=by
 intro E g a w K Q hw hds hK
 obtain⟨us,vs,ws,hf,hargs,h1,h2,h3⟩:=DZ ho hc hds
 refine GE (_E:=E) (_g:=g) ho hc hspec.1 hf hargs ?_
 have hargs':Ag { M:=g.M,β:=fun _=>g.β q,n:=1,ι:=fun _ _=>none,κ:=fun _=>g.κ q } (fs.map .v++dc++cs.map .v) (us++ws++vs):=
  Au (Au (BX (by rfl) (BJ fs) h1) (F9.rep (q:=q) (g:=g) (by rfl) (by rfl) (by simp) ha h3)) (BX (by rfl) (BJ cs) h2)
 refine Calls.mono (hspec.2 _ w _ (hw.rep.one hq hos) hargs') ?_
 rintro e w' ⟨u,g',rfl,hw',hr⟩
 obtain⟨h4,h5⟩:=hw.back1 hq hos' hw'
 exact⟨u,rfl,hK _ _ _ h4 h5 (Qn (by rfl) hd hr)⟩
end
theorem WI.restrict{E:c9}{g:Gh}{σ σ':St}{w:x5}(hw:WI E g σ w){m:Nat}(hH:σ'.H=σ.H.take m)(hm:m<=I σ.H)(hE:E.g.n<=m)(hc:∀(i:Nat) (cs:List D),σ'.H[i]?=G (G cs)->D.pls cs=J)(CT:σ'.own.Sublist σ.own):
  WI E { g with n:=m,ι:=fun k j=>if k∈σ'.own.map (·.1) then g.ι k j else none } σ' w:=by
 have get:∀(i:Nat) (cs:List D),σ'.H[i]?=G (G cs)->σ.H[i]?=G (G cs)/\i<m:=by
  grind
 have hι:∀x∈σ'.own,(if x.1∈σ'.own.map (·.1) then g.ι x.1 (I x.2.2) else none)=g.ι x.1 (I x.2.2):=fun x hx=>I4 (IQ.2 ⟨x,hx,rfl⟩)
 refine{ rep:=⟨?_,hw.rep.mem,fun i cs hi=>?_,fun i j cs ds hi hj=>hw.rep.inj i j cs ds (get i cs hi).1 (get j ds hj).1,fun k sz xs hx=>?_,?_,fun x hx y hy hne u u' hu hu' b hb=>?_,fun x hx u hu b hb i cs hi=>?_,fun k hk j=>?_,hw.rep.gl,hw.rep.gw⟩,M:=hw.M,size:=hw.size,keep:=hw.keep,os:=hw.os,tape:=hw.tape,output:=hw.output,nE:=hE,βE:=fun o ho=>hw.βE o ho,κE:=fun o ho=>hw.κE o ho,objs:=fun i cs hi=>hw.objs i cs (get i cs hi).1,owns:=fun x hx u hu b hb=>?_,drawn:=hw.drawn }
 ·grind
 ·obtain⟨us,rest,e,h1,h2,h3,h4⟩:=hw.rep.obj i cs (get i cs hi).1
  grind[BX]
 ·obtain⟨h0,u,hu,h1,h2,h3⟩:=hw.rep.own k sz xs (CT.subset hx)
  grind
 ·exact(CT.map _).nodup hw.rep.tags
 ·exact hw.rep.sep x (CT.subset hx) y (CT.subset hy) hne u u' ((hι x hx).symm.trans hu) ((hι y hy).symm.trans hu') b hb
 ·exact hw.rep.ownObj x (CT.subset hx) u ((hι x hx).symm.trans hu) b hb i cs (get i cs hi).1
 ·grind
 ·exact hw.owns x (CT.subset hx) u ((hι x hx).symm.trans hu) b hb
inductive Ts (P:x7) (env:List D) (σ:St):List ResultVar->List D->Prop
 |nil:Ts P env σ [] []
 |tmp {t:Tmp} {d:D} {rs:List ResultVar} {ds:List D} (h:env[t]?=G d) (hr:Ts P env σ rs ds):Ts P env σ (.tmp t::rs) (d::ds)
 |cellA {a:Tmp} {t:x6} {q off n:Nat} {cs:List D} {xs:List V} {rs:List ResultVar} {ds:List D} (h:env[a]?=G (.ptr q off)) (hH:σ.H[q]?=G (G cs)) (ht:Tw P t n) (hn:off+n<=I cs)
   (hc:Fu ((cs.drop off).take n)=G xs) (hr:Ts P env σ rs ds):Ts P env σ (.cell a t::rs) (.v (.agg xs)::ds)
 |cell1 {a:Tmp} {t:x6} {q off:Nat} {cs:List D} {d:D} {rs:List ResultVar} {ds:List D} (h:env[a]?=G (.ptr q off)) (hH:σ.H[q]?=G (G cs)) (ht:Rg P t) (hc:cs[off]?=G d) (hr:Ts P env σ rs ds):
   Ts P env σ (.cell a t::rs) (d::ds)
 |cellD {a:Tmp} {t:x6} {q off n:Nat} {cs:List D} {rs:List ResultVar} {ds:List D} (h:env[a]?=G (.ptr q off)) (hH:σ.H[q]?=G (G cs)) (ht:Tw P t n) (hn:off+n<=I cs) (hr:Ts P env σ rs ds):
   Ts P env σ (.cell a t::rs) (.dagg ((cs.drop off).take n)::ds)
theorem em{g:Gh}{env:List D}{a:Act}(h:Ag g env a.tmps.toList){t:Nat}{d:D}(hd:env[t]?=G d):Ah g d (a.tmps.getD t undef):=by
 have:=Gt h t
 grind[ip,Act.eval]
def tz(tmps:Array yz):ResultVar->Sem yz
 |.tmp t=>pure (tmps.getD t undef)
 |.cell a t=>do loadVar t (←asAddr (tmps.getD a undef))
theorem JU(fn:yw)(tmps:Array yz):results fn tmps=(do let vs ←fn.results.mapM (tz tmps);pure (if h:vs.size=1 then vs[0] else .tuple vs)):=by
 rfl
theorem Ts.run{P:x7}{env:List D}{σ:St}{E:c9}{g:Gh}{a:Act}{w:x5}(hf:FI E g σ env a w):∀{rs:List ResultVar} {ds:List D},Ts P env σ rs ds->
  ∃us,(rs.mapM (tz a.tmps)).run P w=.ok us w/\Ag g ds us
 |_,_,.nil=>⟨[],by simp,by rfl⟩
 |_,_,.tmp (t:=t) h hr=>by
  obtain⟨us,h1,h2⟩:=Ts.run hf hr
  refine⟨a.tmps.getD t undef::us,?_,?_⟩
  ·grind[tz,Sem.run_bind,Sem.run_pure,Result.andThen_ok]
  ·simp only[Ag];exact⟨_,us,rfl,em hf.env h,h2⟩
 |_,_,.cellA (n:=n) (cs:=cs) (off:=off) (q:=q) h hH ht hn hc hr=>by
  obtain⟨us,h1,h2⟩:=Ts.run hf hr
  have hp:=em hf.env h
  simp only[Ah] at hp
  obtain⟨us',rest',et,hb,hrr,hone,_⟩:=hf.wi.rep.obj q cs hH
  have hra:=Gp hc (Cn (Cz hrr off) n) (fun c hc'=>hone c (IY (J6 hc')))
  have hl:I us'=I cs:=A3 hrr
  have hld:=run_loadCells_list (P:=P) w ⟨g.β q,off,none⟩ ((us'.drop off).take n) (fun j v hj=>by
   grind[World.cell?,Addr.add])
  have hlen:I ((us'.drop off).take n)=n:=by grind
  rw[hlen] at hld
  refine⟨.agg ((us'.drop off).take n).toArray::us,?_,?_⟩
  ·rw[List.mapM_cons]
   simp only[tz,Sem.run_bind,Sem.run_pure,Result.andThen_ok,hp.2,asAddr,loadVar,Dl ht,dw ht,hld,Jz,h1]
  grind[Ag,Ah,Cx]
 |_,_,.cell1 (cs:=cs) (off:=off) (q:=q) h hH ht hc hr=>by
  obtain⟨us,h1,h2⟩:=Ts.run hf hr
  have hp:=em hf.env h
  simp only[Ah] at hp
  obtain⟨us',rest',et,hb,hrr,hone,_⟩:=hf.wi.rep.obj q cs hH
  obtain⟨u',hu,hd⟩:=B7 hrr hc
  have hcell:w.cell? ⟨g.β q,off,none⟩=G u':=by grind[World.cell?]
  refine⟨u'::us,?_,?_⟩
  ·rw[List.mapM_cons]
   simp only[tz,Sem.run_bind,hp.2,asAddr,Sem.run_pure,Result.andThen_ok,loadVar,Dl ht,JL,if_false,run_load,hcell,h1]
  grind[Ag]
 |_,_,.cellD (n:=n) (cs:=cs) (off:=off) (q:=q) h hH ht hn hr=>by
  obtain⟨us,h1,h2⟩:=Ts.run hf hr
  have hp:=em hf.env h
  simp only[Ah] at hp
  obtain⟨us',rest',et,hb,hrr,hone,_⟩:=hf.wi.rep.obj q cs hH
  have hra:=Cn (Cz hrr off) n
  have hl:I us'=I cs:=A3 hrr
  have hld:=run_loadCells_list (P:=P) w ⟨g.β q,off,none⟩ ((us'.drop off).take n) (fun j v hj=>by
   grind[World.cell?,Addr.add])
  have hlen:I ((us'.drop off).take n)=n:=by grind
  rw[hlen] at hld
  refine⟨.agg ((us'.drop off).take n).toArray::us,?_,?_⟩
  ·rw[List.mapM_cons]
   simp only[tz,Sem.run_bind,Sem.run_pure,Result.andThen_ok,hp.2,asAddr,loadVar,Dl ht,dw ht,hld,Jz,h1]
  grind[Ag,Ah]
def k7(m:Nat)(tags:List Nat):D->Bool
 |.acc k _=>tags.contains k
 |.ptr q _=>Y (q<m)
 |d=>d.pl
def U8:List D->D
 |[d]=>d
 |ds=>.tup ds
theorem Aa.un{P:x7}{f:yx}{ds:List D}{σ:St}{k sz:Nat}{xs:List V}{H:List (Option (List D))}(hH:∀(i:Nat) (cs:List D),H[i]?=G (G cs)->D.pls cs=J)(hn:I σ.H<=I H)
  (h:Aa P f ds σ (.acc k xs) ⟨H,[(k,sz,xs)]⟩):Aa P f ds σ (.v (.list xs)) ⟨H,[]⟩:=by
 refine⟨h.1,fun g w args hw hargs=>?_⟩
 refine Calls.mono (h.2 g w args hw hargs) ?_
 rintro e w' ⟨u,g',rfl,hw',hr⟩
 refine⟨u,_,rfl,hw'.restrict (σ':=⟨H,[]⟩) (m:=I H) (by simp) (HR _) (by simp only[hw.n];exact hn) hH (by simp),?_⟩
 grind[Ah]
section
variable {C : c9 -> c9 -> Prop} {P : x7} {R : List D -> St -> Prop} {k : List KI} {env : List D} {σ : St}
theorem Gq:∀xs:List V,Fu (xs.map .v)=G xs
 |[]=>rfl
 |x::xs=>by simp[Fu,D.toV,Gq xs]
end
def D.noTag(k:Nat):D->Bool
 |.acc k' _=>k' !=k
 |.v _|.ptr .. |.arr .. |.gro .. |.raw _|.rv .. |.err|.undef=>true
 |_=>false
theorem Yj{g:Gh}{k:Nat}{d:D}{u:yz}(hn:d.noTag k=J)(h:Ah g d u):Ah { g with ι:=fun k' m=>if k'=k then none else g.ι k' m } d u:=by
 cases d<;>grind[D.noTag,Ah]
theorem K1{g:Gh}{k:Nat}:∀{ds:List D} {us:List yz},(∀d∈ds,d.noTag k=J)->Ag g ds us->Ag { g with ι:=fun k' m=>if k'=k then none else g.ι k' m } ds us
 |[],us,_,h=>by grind[Ag]
 |d::ds,us,hn,h=>by
  simp only[Ag] at h⊢
  obtain⟨u,us',e,h1,h2⟩:=h
  exact⟨u,us',e,Yj (hn d (by simp)) h1,K1 (fun d hd=>hn d (by grind)) h2⟩
def OT(acc:List Nat)(o:yy):Nat:=o.after.toList.foldl (fun s e=>if Region.binds .any e then s|||2^e.on|||acc.getD e.on 0 else s) 0
def F8:List Nat->List yy->List Nat
 |acc,[]=>acc
 |acc,o::os=>F8 (acc++[OT acc o]) os
theorem OZ(acc:List Nat)(i:Nat):∀(es:List Edge) (s:Nat),(es.foldl (fun s e=>if Region.binds .any e then s|||2^e.on|||acc.getD e.on 0 else s) s).testBit i=J->
  s.testBit i=J∨∃e∈es,Region.binds .any e=J/\(i=e.on∨(acc.getD e.on 0).testBit i=J)
 |[],s,h=>.inl h
 |e::es,s,h=>by
  simp only[J3] at h
  rcases OZ acc i es _ h with h|⟨e',he,hb,hi⟩
  all_goals grind
def DC(ops:Array yy)(S:Nat->Bool):Prop:=∀i o,ops[i]?=G o->S i=J->∀e∈o.after,Region.binds .any e=J->S e.on=J
def Asq(acc:List Nat)(S:Nat->Bool):Prop:=∀j m,acc[j]?=G m->S j=J->∀i,m.testBit i=J->S i=J
theorem Sv{acc:List Nat}{S:Nat->Bool}{o:yy}(hg:Asq acc S)(hd:∀e∈o.after,Region.binds .any e=J->S e.on=J):∀i,(OT acc o).testBit i=J->S i=J:=by
 intro i hi
 rcases OZ acc i _ _ hi with h|⟨e,he,hb,h⟩
 ·grind
 ·have hs:=hd e (by grind) hb
  rcases h with rfl|h
  ·exact hs
  ·cases hm:acc[e.on]? with
   |none=>grind
   |some m=>
    rw[HS,hm] at h
    exact hg e.on m hm hs i h
theorem UW{ops:Array yy}{S:Nat->Bool}(hdc:DC ops S):∀(os:List yy) (acc:List Nat),(∀k,os[k]?=ops[I acc+k]?)->Asq acc S->Asq (F8 acc os) S
 |[],acc,_,hg=>hg
 |o::os,acc,ha,hg=>by
  simp only[F8]
  refine UW hdc os _ (fun k=>?_) ?_
  ·have:=ha (k+1)
   simp only[HY,length_singleton]
   rw[show I acc+1+k=I acc+(k+1) by omega]
   simpa using this
  ·intro j m hj hs i hi
   by_cases hlt:j<I acc
   ·rw[I5 hlt] at hj
    exact hg j m hj hs i hi
   ·have hj':j=I acc:=by
     have:=(HN.1 hj).1
     simp at this;omega
    subst hj'
    rw[I2 (HR _)] at hj
    simp at hj
    subst hj
    have ho:ops[I acc]?=G o:=by have:=ha 0;simpa using this.symm
    exact Sv hg (hdc _ o ho hs) i hi
theorem PG:∀(os:List yy) (acc:List Nat),∃r,F8 acc os=acc++r
 |[],acc=>⟨[],by simp[F8]⟩
 |o::os,acc=>by
  obtain⟨r,h⟩:=PG os (acc++[OT acc o])
  grind[F8]
theorem Xr:∀(os:List yy) (acc:List Nat) (k:Nat) (o:yy),os[k]?=G o->∃acc',(F8 acc os)[I acc+k]?=G (OT acc' o)/\∃r,F8 acc os=acc'++r
 |[],acc,k,o,h=>by grind
 |o0::os,acc,k,o,h=>by
  simp only[F8]
  cases k with
  |zero=>
   simp at h;subst h
   obtain⟨r,hr⟩:=PG os (acc++[OT acc o0])
   grind
  |succ k=>
   simp at h
   obtain⟨acc',h1,h2⟩:=Xr os (acc++[OT acc o0]) k o h
   grind
theorem RU{ops:Array yy}{S:Nat->Bool}(hdc:DC ops S){j:Nat}{o:yy}(ho:ops[j]?=G o)(hr:∀e∈o.after,Region.binds .any e=J->S e.on=J):
  ∀i,((F8 [] ops.toList).getD j 0).testBit i=J->S i=J:=by
 intro i hi
 obtain⟨acc',h1,r,h2⟩:=Xr ops.toList [] j o (by grind)
 simp only[HT,IT] at h1
 rw[HS,h1] at hi
 have hg:=UW hdc ops.toList [] (fun k=>by simp) (fun j m hj=>by grind)
 rw[h2] at hg
 exact Sv (acc:=acc') (fun j m hj=>hg j m (by grind)) hr i hi
theorem QB{ops:Array yy}{S:Nat->Bool}(hdc:DC ops S){j:Nat}(hs:S j=J):∀i,((F8 [] ops.toList).getD j 0).testBit i=J->S i=J:=by
 intro i hi
 have hg:=UW hdc ops.toList [] (fun k=>by simp) (fun j m hj=>by grind)
 cases hm:(F8 [] ops.toList)[j]? with
 |none=>grind
 |some m=>
  rw[HS,hm] at hi
  exact hg j m hm hs i hi
def K3(ops:Array yy)(o:yy):List Tmp:=
 (o.op.operands.toList.filterMap fun|.tmp t=>G t|_=>none)++(match o.guard with|G (j,_)=>((ops[j]?).bind (·.dst)).toList|none=>[])
def Vo(ops:Array yy)(x y:yy):Bool:=
 (match x.dst with|G t=>(K3 ops y).contains t||y.dst==G t|none=>false)||(match y.dst with|G t=>(K3 ops x).contains t|none=>false)
def wx(ops:Array yy)(effs:List Bool):Bool:=
 let b:=F8 [] ops.toList
 (List.range ops.size).all fun j=>
  match ops[j]? with
  |none=>false
  |some oj=>
   oj.after.all (fun e=> !Region.binds .any e||Y (e.on<j))&&
   (List.range j).all fun i=>
    match ops[i]? with
    |none=>false
    |some oi=> !(Vo ops oi oj||(effs.getD i false&&effs.getD j false))||(b.getD j 0).testBit i
theorem Yk{ops:Array yy}{effs:List Bool}(h:wx ops effs=J){j:Nat}{o:yy}(ho:ops[j]?=G o):∀e∈o.after,Region.binds .any e=J->e.on<j:=by
 intro e he hb
 have hlt:j<ops.size:=(Jm.1 ho).1
 have h1:=IU.1 h j (by grind)
 grind[Array.all_eq_true_iff_forall_mem]
theorem Nm{ops:Array yy}{effs:List Bool}(h:wx ops effs=J){i j:Nat}{oi oj:yy}(hi:ops[i]?=G oi)(hj:ops[j]?=G oj)(hij:i<j)(hc:Vo ops oi oj=J∨(effs.getD i false=J/\effs.getD j false=J)):
  ((F8 [] ops.toList).getD j 0).testBit i=J:=by
 have hlt:j<ops.size:=(Jm.1 hj).1
 have h1:=IU.1 h j (by grind)
 grind
abbrev It:=Option Tmp×D×Bool
def Dd(S:Nat->Bool)(e:List D)(x:It×Nat):List D:=if S x.2 then BD e x.1.1 x.1.2.1 else e
def ZR(items:List It)(S:Nat->Bool)(env0:List D):List D:=(items.zipIdx 0).foldl (Dd S) env0
def DN(S:Nat->Bool)(c:Nat)(x:It×Nat):Nat:=if S x.2&&x.1.2.2 then c+1 else c
def Xb(items:List It)(S:Nat->Bool):Nat:=(items.zipIdx 0).foldl (DN S) 0
theorem Wr{e:List D}{t:Option Tmp}{d:D}(s:Nat):(BD e t d)[s]?=if t=G s then(e[s]?).map (fun _=>d) else e[s]?:=by
 cases t<;>grind[BD]
theorem K4{S S':Nat->Bool}{t:Tmp}:∀(l:List (It×Nat)) (e e':List D),(∀x∈l,x.1.1=G t->S x.2=S' x.2)->e[t]?=e'[t]?->(l.foldl (Dd S) e)[t]?=(l.foldl (Dd S') e')[t]?
 |[],e,e',_,h=>h
 |x::l,e,e',hl,h=>by
  simp only[J3]
  refine K4 l _ _ (fun y hy=>hl y (by simp[hy])) ?_
  by_cases hx:x.1.1=G t
  ·have:=hl x (by simp) hx
   unfold Dd
   rw[this]
   split
   ·simp[Wr,hx,h]
   ·exact h
  ·unfold Dd
   have hp:∀e:List D,(BD e x.1.1 x.1.2.1)[t]?=e[t]?:=fun e=>by rw[Wr,Iz hx]
   split<;>split<;>simp[hp,h]
theorem NJ{S S':Nat->Bool}:∀(l:List (It×Nat)) (c:Nat),(∀x∈l,x.1.2.2=J->S x.2=S' x.2)->l.foldl (DN S) c=l.foldl (DN S') c
 |[],c,_=>rfl
 |x::l,c,hl=>by
  simp only[J3]
  have:DN S c x=DN S' c x:=by
   unfold DN
   cases hx:x.1.2.2 with
   |false=>simp
   |true=>rw[hl x (by simp) hx]
  rw[this]
  exact NJ l _ (fun y hy=>hl y (by simp[hy]))
theorem LB{items:List It}{x:It×Nat}(h:x∈items.zipIdx 0):items[x.2]?=G x.1:=by
 grind
theorem Ail{items:List It}{S:Nat->Bool}{env0:List D}{j:Nat}{it:It}(hj:items[j]?=G it)(hS:S j=O)(hlast:∀(i:Nat) (x:It),items[i]?=G x->S i=J->j<i->it.1=none∨x.1≠it.1):
  ZR items (fun i=>S i||i==j) env0=BD (ZR items S env0) it.1 it.2.1:=by
 have hjl:j<I items:=(HN.1 hj).1
 have hsplit:items=items.take j++it::items.drop (j+1):=by
  grind[List.drop_eq_getElem_cons,List.take_append_drop]
 have hlen:I (items.take j)=j:=by grind
 have hz:items.zipIdx 0=(items.take j).zipIdx 0++(it,j)::(items.drop (j+1)).zipIdx (j+1):=by
  grind[List.zipIdx_cons]
 unfold ZR
 rw[hz,List.foldl_append,List.foldl_append,J3,J3]
 have e1:(items.take j).zipIdx.foldl (Dd fun i=>S i||i==j) env0=(items.take j).zipIdx.foldl (Dd S) env0:=by
  have:∀(l:List (It×Nat)) (e:List D),(∀x∈l,x.2≠j)->l.foldl (Dd fun i=>S i||i==j) e=l.foldl (Dd S) e:=by
   intro l
   induction l<;>grind[Dd]
  grind
 rw[e1]
 generalize (items.take j).zipIdx.foldl (Dd S) env0=E
 have s1:Dd (fun i=>S i||i==j) E (it,j)=BD E it.1 it.2.1:=by simp[Dd]
 have s2:Dd S E (it,j)=E:=by grind[Dd]
 rw[s1,s2]

 have later:∀(l:List (It×Nat)) (e:List D),(∀x∈l,x.2≠j/\(S x.2=J->it.1=none∨x.1.1≠it.1))->l.foldl (Dd fun i=>S i||i==j) (BD e it.1 it.2.1)=BD (l.foldl (Dd S) e) it.1 it.2.1:=by
  intro l
  induction l with
  |nil=>grind
  |cons x l ih=>
   intro e hl
   simp only[J3]
   obtain⟨hx,hd⟩:=hl x (by simp)
   have hh:Dd (fun i=>S i||i==j) (BD e it.1 it.2.1) x=BD (Dd S e x) it.1 it.2.1:=by
    unfold Dd
    have hxj:(x.2==j)=O:=by grind
    simp only[hxj,Bool.or_false]
    split
    ·rename_i hs
     rcases hd hs with h|h
     ·rw[h];rfl
     ·cases h1:it.1 with
      |none=>rfl
      |some t=>
       cases h2:x.1.1<;>grind[BD,List.set_comm]
    ·rfl
   grind
 grind
theorem Ai0{items:List It}{S:Nat->Bool}{j:Nat}{it:It}(hj:items[j]?=G it)(hS:S j=O):Xb items (fun i=>S i||i==j)=Xb items S+(if it.2.2 then 1 else 0):=by
 have hjl:j<I items:=(HN.1 hj).1
 have hsplit:items=items.take j++it::items.drop (j+1):=by
  grind[List.drop_eq_getElem_cons,List.take_append_drop]
 have hlen:I (items.take j)=j:=by grind
 have hz:items.zipIdx 0=(items.take j).zipIdx 0++(it,j)::(items.drop (j+1)).zipIdx (j+1):=by
  grind[List.zipIdx_cons]
 have same:∀(l:List (It×Nat)) (c:Nat),(∀x∈l,x.2≠j)->l.foldl (DN fun i=>S i||i==j) c=l.foldl (DN S) c:=by
  intro l
  induction l<;>grind[DN]
 have shift:∀(l:List (It×Nat)) (c d:Nat),l.foldl (DN S) (c+d)=l.foldl (DN S) c+d:=by
  intro l
  induction l<;>grind[DN]
 unfold Xb
 rw[hz,List.foldl_append,List.foldl_append,J3,J3]
 grind[DN]
abbrev Ef:=Bool×Option Nat
def Yz(ops:Array yy)(i f:Nat):Bool:=((F8 [] ops.toList).getD i 0).testBit f
inductive Hh (P:x7) (ops:Array yy) (sts:Bool->List St) (fr:Nat):List yy->List D->Nat->List D->List Ef->List D->Nat->Prop
 |nil {env:List D} {j:Nat}:Hh P ops sts fr [] env j [] [] env j
 |skip {o:yy} {rest:List yy} {env env':List D} {j j':Nat} {vals:List D} {effs:List Ef} (hne:ops.size- (I rest+1)≠fr) (hw:Ci env ops o=G false) (h:Hh P ops sts fr rest (BD env o.dst (.tup [])) j vals effs env' j'):
   Hh P ops sts fr (o::rest) env j (.tup []::vals) ((false,none)::effs) env' j'
 |quiet {o:yy} {rest:List yy} {env env':List D} {j j':Nat} {vals:List D} {effs:List Ef} {d:D} (hne:ops.size- (I rest+1)≠fr) (hw:Ci env ops o=G true) (ho:∀b,∀s∈sts b,Ak P o (Ff env o) s d s) (h:Hh P ops sts fr rest (BD env o.dst d) j vals effs env' j'):
   Hh P ops sts fr (o::rest) env j (d::vals) ((false,none)::effs) env' j'
 |eff {o:yy} {rest:List yy} {env env':List D} {j j':Nat} {vals:List D} {effs:List Ef} {d:D} (hne:ops.size- (I rest+1)≠fr) (hw:Ci env ops o=G true) (ho:∀b s,(sts b)[j]?=G s->(b=O->Yz ops (ops.size- (I rest+1)) fr=O)->∃s',(sts b)[j+1]?=G s'/\Ak P o (Ff env o) s d s')
   (h:Hh P ops sts fr rest (BD env o.dst d) (j+1) vals effs env' j'):Hh P ops sts fr (o::rest) env j (d::vals) ((true,none)::effs) env' j'
 |quietW {o:yy} {rest:List yy} {env env':List D} {j j':Nat} {vals:List D} {effs:List Ef} {d:D} (lim:Nat) (hne:ops.size- (I rest+1)≠fr) (hw:Ci env ops o=G true) (ho:∀(b:Bool) (c:Nat) (s:St),c<=lim->(sts b)[c]?=G s->Ak P o (Ff env o) s d s) (h:Hh P ops sts fr rest (BD env o.dst d) j vals effs env' j'):
   Hh P ops sts fr (o::rest) env j (d::vals) ((false,G lim)::effs) env' j'
 |free {o:yy} {rest:List yy} {env env':List D} {j j':Nat} {vals:List D} {effs:List Ef} {d:D} (hf:fr=ops.size- (I rest+1)) (hw:Ci env ops o=G true) (ho:∀(c:Nat) (s:St),(sts false)[c]?=G s->∃s',(sts true)[c]?=G s'/\Ak P o (Ff env o) s d s') (h:Hh P ops sts fr rest (BD env o.dst d) j vals effs env' j'):
   Hh P ops sts fr (o::rest) env j (d::vals) ((false,none)::effs) env' j'
def B0:List yy->List D->List Ef->List It
 |o::os,d::ds,b::bs=>(o.dst,d,b.1)::B0 os ds bs
 |_,_,_=>[]
def SK(items:List It)(env0:List D):List D:=items.foldl (fun e it=>BD e it.1 it.2.1) env0
def Xc(items:List It):Nat:=items.foldl (fun c it=>if it.2.2 then c+1 else c) 0
theorem H3(items:List It)(it:It)(env0:List D):SK (items++[it]) env0=BD (SK items env0) it.1 it.2.1:=by simp[SK]
theorem H5(items:List It)(it:It):Xc (items++[it])=Xc items+if it.2.2 then 1 else 0:=by grind[Xc]
def Asr(P:x7)(ops:Array yy)(sts:Bool->List St)(fr:Nat)(items:List It)(lims:List Ef)(env0:List D)(i:Nat)(o:yy):Prop:=
 ∃d b,items[i]?=G (o.dst,d,b)/\
  ((Ci (SK (items.take i) env0) ops o=G false/\d=.tup []/\b=O/\i≠fr)∨
   (Ci (SK (items.take i) env0) ops o=G true/\b=O/\i≠fr/\∀(b:Bool) (c:Nat) (s:St),(sts b)[c]?=G s->(∀lim,(lims[i]?).bind (·.2)=G lim->c<=lim)->Ak P o (Ff (SK (items.take i) env0) o) s d s)∨
   (Ci (SK (items.take i) env0) ops o=G true/\b=true/\i≠fr/\∀bb s,(sts bb)[Xc (items.take i)]?=G s->(bb=O->Yz ops i fr=O)->∃s',(sts bb)[Xc (items.take i)+1]?=G s'/\Ak P o (Ff (SK (items.take i) env0) o) s d s')∨
   (Ci (SK (items.take i) env0) ops o=G true/\b=O/\i=fr/\∀(c:Nat) (s:St),(sts false)[c]?=G s->∃s',(sts true)[c]?=G s'/\Ak P o (Ff (SK (items.take i) env0) o) s d s'))
theorem Hh.facts{P:x7}{ops:Array yy}{sts:Bool->List St}{fr:Nat}{rest:List yy}{env env':List D}{j j':Nat}{vals:List D}{effs:List Ef}(h:Hh P ops sts fr rest env j vals effs env' j'):
  ∀(de:List It) (pe:List Ef) (env0:List D),I pe=I de->I de+I rest=ops.size->env=SK de env0->j=Xc de->
   (∀k o,rest[k]?=G o->Asr P ops sts fr (de++B0 rest vals effs) (pe++effs) env0 (I de+k) o)/\env'=SK (de++B0 rest vals effs) env0/\j'=Xc (de++B0 rest vals effs)/\(B0 rest vals effs).length=I rest/\effs.map (·.1)=(B0 rest vals effs).map (·.2.2):=by
 induction h with
 |nil=>grind[B0]
 | @skip o rest env env' j j' vals effs hne hw h ih=>
  intro de pe env0 hp hl he hj
  have hidx:ops.size- (I rest+1)=I de:=by grind
  obtain⟨f1,f2,f3,f4,f5⟩:=ih (de++[(o.dst,bl [],false)]) (pe++[((false,none):Ef)]) env0 (by grind) (by grind) (by rw[H3,he]) (by grind[H5])
  have hap:de++[(o.dst,bl [],false)]++B0 rest vals effs=de++B0 (o::rest) (.tup []::vals) (((false,none):Ef)::effs):=by simp[B0]
  have hap2:pe++[((false,none):Ef)]++effs=pe++((false,none):Ef)::effs:=by simp
  rw[hap] at f1 f2 f3
  rw[hap2] at f1
  refine⟨fun k o' hk=>?_,f2,f3,by grind,by grind[B0]⟩
  cases k with
  |zero=>
   simp at hk;subst hk
   have hat:(pe++((false,none):Ef)::effs)[I de+0]?=G ((false,none):Ef):=by grind
   rw[hidx] at hne
   refine⟨.tup [],false,by grind,.inl ⟨?_,rfl,rfl,hne⟩⟩
   grind
  |succ k=>
   have:=f1 k o' (by grind)
   simp only[HY,length_singleton] at this
   grind
 | @quiet o rest env env' j j' vals effs d hne hw ho h ih=>
  intro de pe env0 hp hl he hj
  have hidx:ops.size- (I rest+1)=I de:=by grind
  obtain⟨f1,f2,f3,f4,f5⟩:=ih (de++[(o.dst,d,false)]) (pe++[((false,none):Ef)]) env0 (by grind) (by grind) (by rw[H3,he]) (by grind[H5])
  have hap:de++[(o.dst,d,false)]++B0 rest vals effs=de++B0 (o::rest) (d::vals) (((false,none):Ef)::effs):=by simp[B0]
  have hap2:pe++[((false,none):Ef)]++effs=pe++((false,none):Ef)::effs:=by simp
  rw[hap] at f1 f2 f3
  rw[hap2] at f1
  refine⟨fun k o' hk=>?_,f2,f3,by grind,by grind[B0]⟩
  cases k with
  |zero=>
   simp at hk;subst hk
   have hat:(pe++((false,none):Ef)::effs)[I de+0]?=G ((false,none):Ef):=by grind
   rw[hidx] at hne
   refine⟨d,false,by grind,.inr (.inl ⟨?_,rfl,hne,?_⟩)⟩
   ·grind
   grind
  |succ k=>
   have:=f1 k o' (by grind)
   simp only[HY,length_singleton] at this
   grind
 | @eff o rest env env' j j' vals effs d hne hw ho h ih=>
  intro de pe env0 hp hl he hj
  have hidx:ops.size- (I rest+1)=I de:=by grind
  obtain⟨f1,f2,f3,f4,f5⟩:=ih (de++[(o.dst,d,true)]) (pe++[((true,none):Ef)]) env0 (by grind) (by grind) (by rw[H3,he]) (by grind[H5])
  have hap:de++[(o.dst,d,true)]++B0 rest vals effs=de++B0 (o::rest) (d::vals) (((true,none):Ef)::effs):=by simp[B0]
  have hap2:pe++[((true,none):Ef)]++effs=pe++((true,none):Ef)::effs:=by simp
  rw[hap] at f1 f2 f3
  rw[hap2] at f1
  refine⟨fun k o' hk=>?_,f2,f3,by grind,by grind[B0]⟩
  cases k with
  |zero=>
   simp at hk;subst hk
   have hat:(pe++((true,none):Ef)::effs)[I de+0]?=G ((true,none):Ef):=by grind
   rw[hidx] at hne ho
   refine⟨d,true,by grind,.inr (.inr (.inl ⟨?_,rfl,hne,?_⟩))⟩
   all_goals simp_all
  |succ k=>
   have:=f1 k o' (by grind)
   simp only[HY,length_singleton] at this
   grind
 | @quietW o rest env env' j j' vals effs d lim hne hw ho h ih=>
  intro de pe env0 hp hl he hj
  have hidx:ops.size- (I rest+1)=I de:=by grind
  obtain⟨f1,f2,f3,f4,f5⟩:=ih (de++[(o.dst,d,false)]) (pe++[((false,G lim):Ef)]) env0 (by grind) (by grind) (by rw[H3,he]) (by grind[H5])
  have hap:de++[(o.dst,d,false)]++B0 rest vals effs=de++B0 (o::rest) (d::vals) (((false,G lim):Ef)::effs):=by simp[B0]
  have hap2:pe++[((false,G lim):Ef)]++effs=pe++((false,G lim):Ef)::effs:=by simp
  rw[hap] at f1 f2 f3
  rw[hap2] at f1
  refine⟨fun k o' hk=>?_,f2,f3,by grind,by grind[B0]⟩
  cases k with
  |zero=>
   simp at hk;subst hk
   have hat:(pe++((false,G lim):Ef)::effs)[I de+0]?=G ((false,G lim):Ef):=by grind
   rw[hidx] at hne
   refine⟨d,false,by grind,.inr (.inl ⟨?_,rfl,hne,?_⟩)⟩
   all_goals grind
  |succ k=>
   have:=f1 k o' (by grind)
   simp only[HY,length_singleton] at this
   grind
 | @free o rest env env' j j' vals effs d hf hw ho h ih=>
  intro de pe env0 hp hl he hj
  have hidx:ops.size- (I rest+1)=I de:=by grind
  obtain⟨f1,f2,f3,f4,f5⟩:=ih (de++[(o.dst,d,false)]) (pe++[((false,none):Ef)]) env0 (by grind) (by grind) (by rw[H3,he]) (by grind[H5])
  have hap:de++[(o.dst,d,false)]++B0 rest vals effs=de++B0 (o::rest) (d::vals) (((false,none):Ef)::effs):=by simp[B0]
  have hap2:pe++[((false,none):Ef)]++effs=pe++((false,none):Ef)::effs:=by simp
  rw[hap] at f1 f2 f3
  rw[hap2] at f1
  refine⟨fun k o' hk=>?_,f2,f3,by grind,by grind[B0]⟩
  cases k with
  |zero=>
   simp at hk;subst hk
   have hat:(pe++((false,none):Ef)::effs)[I de+0]?=G ((false,none):Ef):=by grind
   rw[hidx] at hf
   refine⟨d,false,by grind,.inr (.inr (.inr ⟨?_,rfl,hf.symm,?_⟩))⟩
   all_goals simp_all
  |succ k=>
   have:=f1 k o' (by grind)
   simp only[HY,length_singleton] at this
   grind
theorem AdK(items:List It)(i:Nat)(env0:List D):ZR items (fun k=>Y (k<i)) env0=SK (items.take i) env0:=by
 have gen:∀(l:List It) (s:Nat) (e:List D),(l.zipIdx s).foldl (Dd fun k=>Y (k<i)) e=(l.take (i-s)).foldl (fun e it=>BD e it.1 it.2.1) e:=by
  intro l
  induction l with
  |nil=>simp_all
  |cons x l ih=>
   intro s e
   simp only[List.zipIdx_cons,J3]
   rw[ih]
   by_cases h:s<i
   ·rw[show i-s=(i- (s+1))+1 by omega,List.take_succ_cons,J3]
    simp[Dd,h]
   ·rw[show i-s=0 by omega,show i- (s+1)=0 by omega]
    simp[Dd,h]
 grind[ZR,SK]
theorem Vq(items:List It)(i:Nat):Xb items (fun k=>Y (k<i))=Xc (items.take i):=by
 have gen:∀(l:List It) (s c:Nat),(l.zipIdx s).foldl (DN fun k=>Y (k<i)) c=(l.take (i-s)).foldl (fun c it=>if it.2.2 then c+1 else c) c:=by
  intro l
  induction l with
  |nil=>simp_all
  |cons x l ih=>
   intro s e
   simp only[List.zipIdx_cons,J3]
   rw[ih]
   by_cases h:s<i
   ·rw[show i-s=(i- (s+1))+1 by omega,List.take_succ_cons,J3]
    simp[DN,h]
   ·rw[show i-s=0 by omega,show i- (s+1)=0 by omega]
    simp[DN,h]
 grind[Xb,Xc]
theorem Zi(l:List It):Xc l=(l.map (·.2.2)).count true:=by
 have gen:∀(l:List It) (c:Nat),l.foldl (fun c it=>if it.2.2 then c+1 else c) c=c+(l.map (·.2.2)).count true:=by
  intro l
  induction l<;>grind
 grind[Xc]
theorem AlU{items:List It}{S S':Nat->Bool}(h:∀(k:Nat) (x:It),items[k]?=G x->x.2.2=true->S k=true->S' k=true):Xb items S<=Xb items S':=by
 have gen:∀(l:List (It×Nat)) (c c':Nat),(∀x∈l,x.1.2.2=true->S x.2=true->S' x.2=true)->c<=c'->l.foldl (DN S) c<=l.foldl (DN S') c':=by
  intro l
  induction l with
  |nil=>grind
  |cons x l ih=>
   intro c c' hl hc
   simp only[J3]
   refine ih _ _ (fun y hy=>hl y (List.mem_cons_of_mem _ hy)) ?_
   grind[DN]
 exact gen _ 0 0 (fun x hx=>h x.2 x.1 (LB hx)) (HR _)
def Akp(ops:Array yy)(lims:List Ef):Bool:=
 (List.range (I lims)).all fun i=>
  match (lims[i]?).bind (·.2) with
  |none=>true
  |some lim=>(List.range (I lims)).any fun e=>(lims.map (·.1)).getD e false&&Y (((lims.map (·.1)).take e).count true=lim)&&((F8 [] ops.toList).getD e 0).testBit i
def Mf(ops:Array yy)(lims:List Ef):Bool:=wx ops (lims.map (·.1))&&Akp ops lims
theorem YN{ops:Array yy}{o:yy}{env env':List D}(h:∀t∈K3 ops o,env[t]?=env'[t]?):Ff env o=Ff env' o:=by
 unfold Ff
 refine List.map_congr_left fun x hx=>?_
 cases x<;>grind[K3,ip]
theorem TC{ops:Array yy}{o:yy}{env env':List D}(h:∀t∈K3 ops o,env[t]?=env'[t]?):Ci env ops o=Ci env' ops o:=by
 unfold Ci
 cases hg:o.guard with
 |none=>rfl
 |some p=>
  obtain⟨j,want⟩:=p
  simp only
  cases hj:(ops[j]?).bind (·.dst)<;>grind[K3]
section
variable {C : c9 -> c9 -> Prop} {P : x7} {R : List D -> St -> Prop} {k : List KI} {env : List D} {σ : St}
theorem XB{ops:Array yy}{sts:Bool->List St}{fr:Nat}{items:List It}{effs:List Bool}{lims:List Ef}{env0:List D}{Q:Exit->Act->x5->Prop}{E:c9}{J:Gh->Prop}(hJ:∀g g':Gh,g.le g'->J g->J g')(hreg:wx ops effs=true)(hwin:Akp ops lims=true)(hle:effs=lims.map (·.1))(hlen:I items=ops.size)(heff:effs=items.map (·.2.2))
  (hfact:∀i o,ops[i]?=G o->Asr P ops sts fr items lims env0 i o)
  (hfin:∀g a w,J g->(∃s,(sts (Y (fr<ops.size)))[Xc items]?=G s/\FI E g s (SK items env0) a w)->Q .normal a w):
  ∀(fuel:Nat) (listed:Array Bool) (a:Act) (w:x5) (g:Gh) (s:St),listed.size=ops.size->DC ops (fun i=>listed.getD i false)->
   (I ((List.range ops.size).filter fun i=> !listed.getD i false))=fuel->
   (sts (listed.getD fr false))[Xb items (fun i=>listed.getD i false)]?=G s->J g->FI E g s (ZR items (fun i=>listed.getD i false) env0) a w->wpAny P .any ops Q fuel listed a w:=by

 have done_:∀(listed:Array Bool),listed.size=ops.size->Region.ready .any ops listed=[]->∀i,i<ops.size->listed.getD i false=true:=by
  intro listed hsz hr i
  induction i using Nat.strongRecOn with
  |_ i ih=>
   intro hi
   cases hl:listed.getD i false with
   |true=>rfl
   |false=>
    exfalso
    have hmem:i∈Region.ready .any ops listed:=by
     grind[Region.ready,Yk]
    grind
 have finish:∀(listed:Array Bool) (a:Act) (w:x5) (g:Gh) (s:St),listed.size=ops.size->(∀i,i<ops.size->listed.getD i false=true)->(sts (listed.getD fr false))[Xb items (fun i=>listed.getD i false)]?=G s->
   J g->FI E g s (ZR items (fun i=>listed.getD i false) env0) a w->Q .normal a w:=by
  intro listed a w g s hsz hall hs hj hf
  have e1:ZR items (fun i=>listed.getD i false) env0=SK items env0:=by
   have:=AdK items ops.size env0
   rw[IB (by omega)] at this
   rw[←this]
   apply List.ext_getElem?
   grind[K4,ZR]
  have e2:Xb items (fun i=>listed.getD i false)=Xc items:=by
   have:=Vq items ops.size
   grind
  grind
 intro fuel
 induction fuel with
 |zero=>
  grind[Region.ready,List.filter_eq_nil_iff,wpAny]
 |succ fuel ih=>
  intro listed a w g s hsz hdc hcount hs hj hf
  refine⟨fun hr=>finish listed a w g s hsz (done_ listed hsz hr) hs hj hf,fun i hi=>?_⟩

  unfold Region.ready at hi
  rw[List.mem_filter] at hi
  obtain⟨hi1,hi2⟩:=hi
  have hi':i<ops.size:=by grind
  have ho:ops[i]?=G ops[i]:=by grind
  generalize hoo:ops[i]=o at ho
  rw[ho] at hi2
  simp only[HL,IZ,Jr,JD] at hi2
  obtain⟨hnl,hall⟩:=hi2
  have hnl':listed.getD i false=O:=by
   grind
  have hready:∀e∈o.after,Region.binds .any e=true->listed.getD e.on false=true:=by
   grind[Array.all_eq_true_iff_forall_mem]
  have hpre:=RU hdc ho hready
  have hpost:=fun(j:Nat) (hs:listed.getD j false=true)=>QB (S:=fun i=>listed.getD i false) hdc hs
  obtain⟨d,b,hit,hcase⟩:=hfact i o ho
  have hil:i<I items:=by omega

  have opAt:∀(k:Nat) (x:It),items[k]?=G x->∃ok,ops[k]?=G ok/\x.1=ok.dst:=by
   intro k x hk
   have hkl:k<ops.size:=by grind
   have hok:ops[k]?=G ops[k]:=by grind
   obtain⟨d',b',h1,_⟩:=hfact k _ hok
   grind
  have lt_listed:∀(k:Nat) (ok:yy),ops[k]?=G ok->k<i->(Vo ops ok o=true∨(effs.getD k false=true/\effs.getD i false=true))->listed.getD k false=true:=
   fun k ok hk hlt hc=>hpre k (Nm hreg hk ho hlt hc)
  have gt_not:∀(k:Nat) (ok:yy),ops[k]?=G ok->i<k->(Vo ops o ok=true∨(effs.getD i false=true/\effs.getD k false=true))->listed.getD k false=O:=by
   intro k ok hk hlt hc
   cases hl:listed.getD k false with
   |false=>rfl
   |true=>
    have:=hpost k hl i (Nm hreg ho hk hlt hc)
    grind
  have agree:∀t∈K3 ops o,(ZR items (fun i=>listed.getD i false) env0)[t]?=(SK (items.take i) env0)[t]?:=by
   intro t ht
   rw[←AdK]
   refine K4 _ _ _ (fun x hx hxt=>?_) rfl
   have hx2:=LB hx
   obtain⟨ok,hok,hdst⟩:=opAt x.2 x.1 hx2
   rw[hdst] at hxt
   rcases Nat.lt_trichotomy x.2 i with h|h|h
   ·grind[Vo]
   ·grind
   grind[Vo]
  have hlast:∀(k:Nat) (x:It),items[k]?=G x->listed.getD k false=true->i<k->o.dst=none∨x.1≠o.dst:=by
   intro k x hk hl hlt
   cases hd:o.dst with
   |none=>grind
   |some t=>
    grind[Vo]
  have hadd:=Ail (S:=fun i=>listed.getD i false) (env0:=env0) hit hnl' hlast
  have hcadd:=Ai0 (S:=fun i=>listed.getD i false) hit hnl'
  have hS':(fun k=>(listed.setIfInBounds i true).getD k false)=fun k=>listed.getD k false||k==i:=by
   funext k
   simp only[J0,Array.getElem?_setIfInBounds]
   grind
  have hcnt':I ((List.range ops.size).filter fun k=> !(listed.setIfInBounds i true).getD k false)=fuel:=by
   have e1:(List.range ops.size).filter (fun k=> !(listed.setIfInBounds i true).getD k false)=((List.range ops.size).filter fun k=> !listed.getD k false).filter (fun k=>k !=i):=by
    rw[List.filter_filter]
    refine List.filter_congr fun k _=>?_
    have:=congrFun hS' k
    grind
   rw[e1]
   have hnd:((List.range ops.size).filter fun k=> !listed.getD k false).Nodup:=List.filter_sublist.nodup List.nodup_range
   have hm:i∈ (List.range ops.size).filter fun k=> !listed.getD k false:=List.mem_filter.2 ⟨hi1,by grind⟩
   have hf1:=hnd.erase_eq_filter i
   grind
  have hdc':DC ops (fun k=>(listed.setIfInBounds i true).getD k false):=by
   rw[hS']
   grind[DC]

  have hcb:b=true->Xb items (fun k=>listed.getD k false)=Xc (items.take i):=by
   intro hbt
   rw[←Vq]
   have hei:effs.getD i false=true:=by grind
   refine NJ _ _ (fun x hx hxb=>?_)
   have hx2:=LB hx
   obtain⟨ok,hok,_⟩:=opAt x.2 x.1 hx2
   have hex:effs.getD x.2 false=true:=by grind
   rcases Nat.lt_trichotomy x.2 i with h|h|h
   ·grind
   all_goals grind
  have hw:=TC agree
  have hev:=YN agree
  have next:∀(g':Gh) (a':Act) (w':x5) (s':St),(sts ((listed.setIfInBounds i true).getD fr false))[Xb items (fun k=>(listed.setIfInBounds i true).getD k false)]?=G s'->J g'->FI E g' s' (BD (ZR items (fun k=>listed.getD k false) env0) o.dst d) a' w'->wpAny P .any ops Q fuel (listed.setIfInBounds i true) a' w':=by
   grind
  unfold wpOp
  rw[ho]
  simp only
  have hflag:i≠fr->(listed.setIfInBounds i true).getD fr false=listed.getD fr false:=by
   intro hne
   have:=congrFun hS' fr
   grind
  rcases hcase with⟨hwant,rfl,rfl,hne⟩|⟨hwant,rfl,hne,hop⟩|⟨hwant,rfl,hne,hop⟩|⟨hwant,rfl,hfr,hop⟩
  ·rw[Iz (by rw[CP hf.env (hw.trans hwant)];simp)]
   refine next g _ w s ?_ hj (hf.put hf.wi g.le_refl (OI g) o.dst)
   grind
  ·rw[I4 (CP hf.env (hw.trans hwant))]
   refine .inl ?_
   rw[←hev] at hop
   have hlim:∀lim,(lims[i]?).bind (·.2)=G lim->Xb items (fun k=>listed.getD k false)<=lim:=by
    intro lim hlm
    have hil2:i<I lims:=by
     grind
    have h1:=IU.1 hwin i (by grind)
    rw[hlm] at h1
    obtain⟨e,_,h2⟩:=List.any_eq_true.1 h1
    simp only[HL,HU, ←hle] at h2
    obtain⟨⟨h3,h4⟩,h5⟩:=h2
    have hnote:listed.getD e false=O:=by
     grind
    rw[heff, ←List.map_take, ←Zi] at h4
    rw[←h4, ←Vq]
    refine AlU fun k x hk hx hS=>?_
    obtain⟨ok,hok,_⟩:=opAt k x hk
    have hex:effs.getD k false=true:=by rw[heff,HS,IP,hk];grind
    rcases Nat.lt_trichotomy k e with h|h|h
    ·simp[h]
    ·grind
    ·have hek:e<ops.size:=by grind
     have:=hpost k hS e (Nm hreg (show ops[e]?=G ops[e] by grind) hok h (.inr ⟨h3,hex⟩))
     grind
   refine hop _ _ s hs hlim E g a w _ _ hf.wi (Ho hf.wi.rep.gl hf.env _) fun g' w' u h1 h2 h3=>?_
   refine next g' _ w' s ?_ (hJ g g' h2 hj) (hf.put h1 h2 h3 o.dst)
   grind
  ·rw[I4 (CP hf.env (hw.trans hwant))]
   refine .inl ?_
   rw[hcb rfl] at hs
   rw[←hev] at hop
   obtain⟨s2,hs2,hop2⟩:=hop _ s hs (fun hb=>by
    grind[Yz])
   refine hop2 E g a w _ _ hf.wi (Ho hf.wi.rep.gl hf.env _) fun g' w' u h1 h2 h3=>?_
   refine next g' _ w' s2 ?_ (hJ g g' h2 hj) (hf.put h1 h2 h3 o.dst)
   grind
  ·rw[I4 (CP hf.env (hw.trans hwant))]
   refine .inl ?_
   rw[←hfr,hnl'] at hs
   rw[←hev] at hop
   obtain⟨s2,hs2,hop2⟩:=hop _ s hs
   refine hop2 E g a w _ _ hf.wi (Ho hf.wi.rep.gl hf.env _) fun g' w' u h1 h2 h3=>?_
   refine next g' _ w' s2 ?_ (hJ g g' h2 hj) (hf.put h1 h2 h3 o.dst)
   have hset:(listed.setIfInBounds i true).getD fr false=true:=by
    have:=congrFun hS' fr
    grind
   grind
theorem AdO{id:Nat}{ops:Array yy}{E:c9}{J:Gh->Prop}(hJ:∀g g':Gh,g.le g'->J g->J g'){B:Exit->Act->x5->Prop}{g:Gh}{a:Act}{w:x5}(hm:P.follows .mixedOrders=true)(sts:Bool->List St)(fr:Nat){vals:List D}{effs:List Ef}{env':List D}{j':Nat}{σ':St}(h0:(sts false)[0]?=G σ)(hj:(sts (Y (fr<ops.size)))[j']?=G σ')
  (h:Hh P ops sts fr ops.toList env 0 vals effs env' j') (hreg:Mf ops effs=true) (hfi:FI E g σ env a w) (hjg:J g) (hk:∀g' a' w',J g'->FI E g' σ' env' a' w'->KQ P B k .normal a' w'):KQ P B (.code (.region id ops true)::k) .normal a w:=by
 simp only[KQ]
 obtain⟨f1,f2,f3,f4,f5⟩:=h.facts [] [] env rfl (by simp) (by rfl) (by rfl)
 simp only[nil_append,HT,IT] at f1 f2 f3
 have hreg1:wx ops (effs.map (·.1))=true:=by grind[Mf]
 have hreg2:Akp ops effs=true:=by grind[Mf]
 clear hreg
 have f1':∀i o,ops[i]?=G o->Asr P ops sts fr (B0 ops.toList vals effs) effs env i o:=fun i o ho=>f1 i o (by grind)
 have f4':I (B0 ops.toList vals effs)=ops.size:=by omega
 refine wp_region_any hm ?_
 have hS0:(fun i=>(Array.replicate ops.size false).getD i false)=fun _=>false:=by
  funext i
  simp only[J0,Array.getElem?_replicate]
  grind
 have he0:∀(l:List (It×Nat)) (e:List D),l.foldl (Dd fun _=>false) e=e:=by
  intro l;induction l<;>grind[Dd]
 have hc0:∀(l:List (It×Nat)) (c:Nat),l.foldl (DN fun _=>false) c=c:=by
  intro l;induction l<;>grind[DN]
 have hfi':FI E g σ env a { w with drawn:=w.drawn+1 }:=⟨hfi.wi.drew,hfi.env,hfi.defers⟩
 obtain⟨es,hes⟩:∃es,es=effs.map (·.1):=⟨_,rfl⟩
 rw[←hes] at hreg1 f5
 refine XB (sts:=sts) (fr:=fr) (items:=B0 ops.toList vals effs) (effs:=es) (lims:=effs) (env0:=env) (E:=E) hJ hreg1 hreg2 hes f4' f5 f1' (fun g' a' w' hj' hx=>?_) ops.size _ a _ g σ (by simp) ?_ ?_ ?_ hjg ?_
 ·grind
 ·intro i o _ hs
  rw[hS0] at hs
  grind
 ·have:(List.range ops.size).filter (fun i=> !(Array.replicate ops.size false).getD i false)=List.range ops.size:=by
   simp_all
  grind
 ·have h0f:(Array.replicate ops.size false).getD fr false=O:=congrFun hS0 fr
  grind[Xb]
 grind[ZR]
theorem KH{id:Nat}{ops:Array yy}(hm:P.follows .mixedOrders=true)(sts:Bool->List St)(fr:Nat){vals:List D}{effs:List Ef}{env':List D}{j':Nat}{σ':St}(h0:(sts false)[0]?=G σ)(hj:(sts (Y (fr<ops.size)))[j']?=G σ')
  (h:Hh P ops sts fr ops.toList env 0 vals effs env' j') (hreg:Mf ops effs=true) (hk:A5 C P R k env' σ'):A5 C P R (.code (.region id ops true)::k) env σ:=fun E0 E _ _ _ B hC hfi hB=>
 AdO (J:=fun _=>True) (fun _ _ _ _=>trivial) hm sts fr h0 hj h hreg hfi trivial fun g' a' w' _ hf=>hk E0 E g' a' w' B hC hf hB
end
def sub:Code->List Nat->Code
 |c,[]=>c
 |.seq a b,n::p=>if n=0 then sub a p else sub b p
 |.cond _ a b,n::p=>if n=0 then sub a p else sub b p
 |.block _ a,_::p=>sub a p
 |.loop a,_::p=>sub a p
 |.scope a,_::p=>sub a p
 |_,_::_=>.skip
def AR:Code->Array yy
 |.region _ ops _=>ops
 |_=> #[]
def Cv(env:List D)(σ:St)(env':List D)(σ':St):Prop:=∀(E:c9) (g:Gh) (a:Act) (w:x5),FI E g σ env a w->∃g',FI E g' σ' env' a w
section
variable {C : c9 -> c9 -> Prop} {P : x7} {R : List D -> St -> Prop} {c : Code} {p : List Nat} {k : List KI} {env env' : List D} {σ σ' : St} {i : Nat} {o : yy} {d : D}
theorem LW(h:Cv env σ env' σ')(hk:A5 C P R k env' σ'):A5 C P R k env σ:=fun E0 E g a w B hC hf hB=>by
 obtain⟨g',hf'⟩:=h E g a w hf
 exact hk E0 E g' a w B hC hf' hB
theorem WV{s:Nat}(hs:env[s]?=G d):ip env (.tmp s)=d:=by grind[ip]
inductive Wk:List D->List D->Prop
 |nil:Wk [] []
 |keep {d:D} {l l':List D} (h:Wk l l'):Wk (d::l) (d::l')
 |drop {d:D} {l l':List D} (h:Wk l l'):Wk (d::l) (.undef::l')
theorem Wk.ok:∀{l l':List D},Wk l l'->I l'=I l/\∀(i:Nat) (d':D),l'[i]?=G d'->d'=.undef∨l[i]?=G d'
 |_,_,.nil=>⟨rfl,fun i d' h=>by grind⟩
 |_,_,.keep h=>by
  obtain⟨h1,h2⟩:=h.ok
  grind
 |_,_,.drop h=>by
  obtain⟨h1,h2⟩:=h.ok
  grind
theorem d8(ho:(AR (sub c p))[i]?=G o):((AR (sub c p)).toList.drop i)=o::(AR (sub c p)).toList.drop (i+1):=by
 grind[List.drop_eq_getElem_cons]
def Ed(LF LT:List St):Bool->List St
 |false=>LF
 |true=>LT
end
end Go.Dv

namespace Go.Proofs.YtgigepkgakpjbaaGreat
open Go.Dv
open Go.Dv.V renaming list->ae,str->ab,agg->aa,int->a8,ref->bz,fn->bw,nils->bv,bool->bu
open Go.Dv.D renaming v->bt,acc->br,ptr->bq,arr->bo,gro->bm,tup->bl,undef->bk,dagg->bj
open Go.Dv.St renaming mk->bi
open Go.Dv.KI renaming blk->bh
noncomputable abbrev PP:x7:= Tryz.prog
theorem mixed:PP.follows .mixedOrders=J:=by rfl
end Go.Proofs.YtgigepkgakpjbaaGreat

namespace Go.Dv
open List (getElem?_set length_pos_iff length_set map_map replicate)
open Go.Dv.V renaming list->ae,str->ab,agg->aa,int->a8,ref->bz,fn->bw,nils->bv,bool->bu
open Go.Dv.D renaming v->bt,acc->br,ptr->bq,arr->bo,gro->bm,tup->bl,undef->bk,dagg->bj
open Go.Dv.St renaming mk->bi
open Go.Dv.KI renaming blk->bh
def CG:List (Option (List D))->List Nat->List (Option (List D))->List (Option (List D))
 |H,q::qs,o::os=>CG (H.set q o) qs os
 |H,[],os=>H++os
 |H,_::_,[]=>H
def d6(n:Nat)(qs:List Nat)(j:Nat):Nat:=match qs[j]? with
 |some q=>q
 |none=>n+(j-I qs)
theorem Mh:∀(qs:List Nat) (H os:List (Option (List D))),I qs<=I os->I (CG H qs os)=I H+(I os-I qs)
 |[],H,os,_=>by simp[CG]
 |q::qs,H,[],h=>by simp at h
 |q::qs,H,o::os,h=>by
  simp only[CG]
  rw[Mh qs _ os (by simpa using h)]
  simp
theorem Tm:∀(qs:List Nat) (H os:List (Option (List D))),I qs<=I os->∀{i:Nat} {cs:List D},(CG H qs os)[i]?=G (G cs)->
  (∃j,d6 (I H) qs j=i/\os[j]?=G (G cs))∨(i<I H/\i∉qs/\H[i]?=G (G cs))
 |[],H,os,_,i,cs,h=>by
  grind[CG,d6]
 |q::qs,H,[],h,_,_,_=>by grind
 |q::qs,H,o::os,h,i,cs,hg=>by
  simp only[CG] at hg
  rcases Tm qs (H.set q o) os (by grind) hg with⟨j,h1,h2⟩|⟨h1,h2,h3⟩
  ·refine .inl ⟨j+1,?_,by grind⟩
   grind[d6]
  ·simp only[length_set] at h1
   rw[getElem?_set] at h3
   split at h3
   ·rename_i e;subst e
    simp only[h1,Jz,IF] at h3
    exact .inl ⟨0,by rfl,by grind⟩
   grind
def jv(g:Gh)(qs:List Nat):Gh:={ M:=g.M,β:=fun j=>g.β (qs.getD j 0),n:=I qs,ι:=fun _ _=>none,κ:=fun j=>g.κ (qs.getD j 0)}
theorem WP{qs:List Nat}{j q:Nat}(h:qs[j]?=G q):qs.getD j 0=q:=by grind
theorem dh.callee{g:Gh}{σ σc:St}{w:x5}(h:dh g σ w){qs:List Nat}(hnd:qs.Nodup)(CT:σc.own=[])(hlen:I σc.H=I qs)
  (hq:∀(j q:Nat) (csc:List D),qs[j]?=G q->σc.H[j]?=G (G csc)->∃cs,σ.H[q]?=G (G cs)/\(∀us,Ag g cs us->Ag (jv g qs) csc us)/\∀c∈csc,c.one=J):dh (jv g qs) σc w where
 n:=hlen.symm
 mem:=h.mem
 gl:=h.gl
 gw:=h.gw
 obj:=fun j csc hj=>by
  have hlt:j<I qs:=by grind
  have hqj:qs[j]?=G qs[j]:=HK hlt
  obtain⟨cs,h1,h2,h3⟩:=hq j _ csc hqj hj
  obtain⟨us,rest,e,hb,hr,_,hM,hκ⟩:=h.obj _ cs h1
  have e1:(jv g qs).β j=g.β qs[j]:=by grind[jv]
  have e2:(jv g qs).κ j=g.κ qs[j]:=by grind[jv]
  exact⟨us,rest,e,by grind,h2 us hr,h3,by rw[e1];exact hM,by omega⟩
 inj:=fun i j c1 c2 hi hj hij=>by
  have hlti:i<I qs:=by grind
  have hltj:j<I qs:=by grind
  have hqi:qs[i]?=G qs[i]:=HK hlti
  have hqj:qs[j]?=G qs[j]:=HK hltj
  obtain⟨ci,h1,_⟩:=hq i _ c1 hqi hi
  obtain⟨cj,h2,_⟩:=hq j _ c2 hqj hj
  simp only[jv,WP hqi,WP hqj] at hij
  have:=h.inj _ _ _ _ h1 h2 hij
  grind[List.getElem_inj]
 own:=fun k sz xs hx=>by grind
 tags:=by grind
 sep:=fun x hx=>by grind
 ownObj:=fun x hx=>by grind
 fresh:=fun _ _ _=>rfl
def DB(g gc':Gh)(k:Nat)(own':List (Nat×Nat×List V))(τ:Nat->Nat):Gh:=
 { M:=gc'.M,n:=g.n+(gc'.n-k),β:=fun j=>if j<g.n then g.β j else gc'.β (k+(j-g.n)),κ:=fun j=>if j<g.n then g.κ j else gc'.κ (k+(j-g.n)),ι:=fun t m=>match own'.find? (fun x=>τ x.1==t) with|G x=>gc'.ι x.1 m|none=>g.ι t m }
def E5(τ:Nat->Nat)(own':List (Nat×Nat×List V)):List (Nat×Nat×List V):=own'.map fun x=>(τ x.1,x.2)
theorem GN{g gc':Gh}{k:Nat}{own':List (Nat×Nat×List V)}{τ:Nat->Nat}(hτ:∀x∈own',∀y∈own',τ x.1=τ y.1->x.1=y.1){y:Nat×Nat×List V}(hy:y∈own')(m:Nat):(DB g gc' k own' τ).ι (τ y.1) m=gc'.ι y.1 m:=by
 grind[DB]
theorem Ct{g gc':Gh}{k:Nat}{own':List (Nat×Nat×List V)}{τ:Nat->Nat}{t:Nat}(h:∀x∈own',τ x.1≠t)(m:Nat):(DB g gc' k own' τ).ι t m=g.ι t m:=by
 grind[DB]
theorem WI.back{E:c9}{g gc':Gh}{σ σc σc':St}{w w':x5}(hw:WI E g σ w){qs:List Nat}(CT:σc.own=[])(hlen:I σc.H=I qs)
  (hq:∀(j q:Nat),qs[j]?=G q->∃cs,σ.H[q]?=G (G cs)) (h:WI ⟨jv g qs,w,σc⟩ gc' σc' w') {τ:Nat->Nat} (hτ:∀x∈σc'.own,∀y∈σc'.own,τ x.1=τ y.1->x.1=y.1)
  (hfr:∀x∈σc'.own,∀y∈σ.own,τ x.1≠y.1) {H2:List (Option (List D))} (hlen2:I H2=I σc'.H)
  (hout:∀(j:Nat) (cs2:List D),H2[j]?=G (G cs2)->∃csc,σc'.H[j]?=G (G csc)/\(∀us,Ag gc' csc us->Ag (DB g gc' (I qs) σc'.own τ) cs2 us)/\∀c∈cs2,c.one=J):
  WI E (DB g gc' (I qs) σc'.own τ) ⟨CG σ.H qs H2,E5 τ σc'.own++σ.own⟩ w'/\g.le (DB g gc' (I qs) σc'.own τ):=by
 have hn':gc'.n=I σc'.H:=h.rep.n
 have hkn:I qs<=gc'.n:=h.nE
 have hgn:g.n=I σ.H:=hw.rep.n
 have hold:∀y∈σ.own,∀x∈σc'.own,τ x.1≠y.1:=fun y hy x hx=>hfr x hx y hy
 have hle:g.le (DB g gc' (I qs) σc'.own τ):=by
  refine⟨h.M,Nat.le_add_right _ _,fun o ho=>I4 ho,fun t m u ht=>?_,fun o ho=>I4 ho⟩
  by_cases hx:∃x∈σc'.own,τ x.1=t
  ·obtain⟨x,hx,rfl⟩:=hx
   rw[hw.rep.fresh (τ x.1) (fun y hy e=>hfr x hx y hy e.symm) m] at ht
   grind
  grind[DB]

 have hpriv:∀b,c9.priv ⟨jv g qs,w,σc⟩ b->∃(j q:Nat),qs[j]?=G q/\b=g.β q:=by
  rintro b (⟨j,cs,hj,e⟩|⟨x,hx,_⟩)
  all_goals grind[jv]
 have hβ:∀j,j<gc'.n->(DB g gc' (I qs) σc'.own τ).β (d6 (I σ.H) qs j)=gc'.β j/\(DB g gc' (I qs) σc'.own τ).κ (d6 (I σ.H) qs j)=gc'.κ j:=by
  intro j hj
  by_cases hlt:j<I qs
  ·have hqj:qs[j]?=G qs[j]:=HK hlt
   obtain⟨cs,hcs⟩:=hq j _ hqj
   have h1:qs[j]<g.n:=hw.rep.lt_n hcs
   have h2:=h.βE j hlt
   have h3:=h.κE j hlt
   grind[jv,d6,DB]
  grind[d6,DB]

 have hobjc:∀(j:Nat) (csc:List D),σc'.H[j]?=G (G csc)->w.heap.size<=gc'.β j∨∃(j' q:Nat),qs[j']?=G q/\gc'.β j=g.β q:=by
  intro j csc hj
  rcases h.objs j csc hj with h1|h1
  all_goals grind
 have hownc:∀x∈σc'.own,∀u,gc'.ι x.1 (I x.2.2)=G u->∀b,Co u=G b->w.heap.size<=b∨∃(j' q:Nat),qs[j']?=G q/\b=g.β q:=by
  intro x hx u hu b hb
  rcases h.owns x hx u hu b hb with h1|h1
  all_goals grind
 have hoff:∀(i:Nat) (cs:List D),σ.H[i]?=G (G cs)->i∉qs->∀(j q:Nat),qs[j]?=G q->g.β i≠g.β q:=by
  intro i cs hi hni j q hj e
  obtain⟨c2,h2⟩:=hq j q hj
  have:=hw.rep.inj i q _ _ hi h2 e
  grind
 have keepOld:∀(i:Nat) (cs:List D),σ.H[i]?=G (G cs)->i∉qs->w'.heap[g.β i]?=w.heap[g.β i]?/\∀o,gc'.M (g.β i) o=g.M (g.β i) o:=by
  intro i cs hi hni
  refine h.keep (g.β i) (hw.rep.obj_lt hi) (fun hp=>?_)
  grind
 have keepOwn:∀x∈σ.own,∀u,g.ι x.1 (I x.2.2)=G u->∀b,Co u=G b->(b<w.heap.size/\∀(j q:Nat),qs[j]?=G q->b≠g.β q)/\w'.heap[b]?=w.heap[b]?/\∀o,gc'.M b o=g.M b o:=by
  intro x hx u hu b hb
  have hlt:=hw.rep.own_lt hx hu hb
  have hne:∀(j q:Nat),qs[j]?=G q->b≠g.β q:=fun j q hj e=>by
   obtain⟨c2,h2⟩:=hq j q hj
   exact hw.rep.ownObj x hx u hu b hb q c2 h2 e.symm
  refine⟨⟨hlt,hne⟩,h.keep b hlt (fun hp=>?_)⟩
  grind
 have get:∀{i:Nat} {cs:List D},(CG σ.H qs H2)[i]?=G (G cs)->(∃j,d6 (I σ.H) qs j=i/\H2[j]?=G (G cs)/\j<gc'.n)∨(i<I σ.H/\i∉qs/\σ.H[i]?=G (G cs)):=by
  intro i cs hi
  rcases Tm qs σ.H H2 (by omega) hi with⟨j,h1,h2⟩|h1
  all_goals grind
 have memO:∀{x:Nat×Nat×List V},x∈E5 τ σc'.own++σ.own->(∃y∈σc'.own,x=(τ y.1,y.2))∨x∈σ.own:=by
  grind[E5]
 refine⟨hw.update (fun b=>∃(j q:Nat),qs[j]?=G q/\b=g.β q) ?_ (fun b hb hx=>h.keep b hb (fun hp=>hx (hpriv b hp))) h.M (Nat.le_add_right _ _) (fun o ho=>I4 ho) (fun o ho=>I4 ho) h.size h.os h.tape h.output ?_ ?_ ?_ (drawn:=h.drawn),hle⟩
 ·rintro b ⟨j,q,hj,rfl⟩
  obtain⟨c2,h2⟩:=hq j q hj
  exact hw.objs q c2 h2
 ·refine⟨?_,h.rep.mem,fun i cs hi=>?_,fun i j c1 c2 hi hj hij=>?_,fun k sz xs hx=>?_,?_,fun x hx y hy hne u u' hu hu' b hb=>?_,fun x hx u hu b hb i cs hi=>?_,fun k hk m=>?_,h.rep.gl,h.rep.gw⟩
  ·grind[DB,Mh]
  ·rcases get hi with⟨j,rfl,h2,hj⟩|⟨h1,h2,h3⟩
   ·obtain⟨csc,h4,h5,h6⟩:=hout j cs h2
    obtain⟨us,rest,e,hb,hr,_,hM,hκ⟩:=h.rep.obj j csc h4
    obtain⟨e1,e2⟩:=hβ j hj
    exact⟨us,rest,e,by grind,h5 us hr,h6,by rw[e1];exact hM,by omega⟩
   ·obtain⟨us,rest,e,hb,hr,h4,hM,hκ⟩:=hw.rep.obj i cs h3
    obtain⟨k1,k2⟩:=keepOld i cs h3 h2
    have e1:(DB g gc' (I qs) σc'.own τ).β i=g.β i:=I4 (by omega)
    have e2:(DB g gc' (I qs) σc'.own τ).κ i=g.κ i:=I4 (by omega)
    exact⟨us,rest,e,by grind,Ag.mono hle _ _ hr,h4,by rw[e1];exact fun o=>(k2 o).trans (hM o),by omega⟩
  ·rcases get hi with⟨ji,rfl,h2,hji⟩|⟨h1,h2,h3⟩<;>rcases get hj with⟨jj,rfl,h5,hjj⟩|⟨h4,h5,h6⟩
   ·rw[(hβ ji hji).1,(hβ jj hjj).1] at hij
    obtain⟨ci,hci,_⟩:=hout ji _ h2
    obtain⟨cj,hcj,_⟩:=hout jj _ h5
    rw[h.rep.inj ji jj _ _ hci hcj hij]
   ·rw[(hβ ji hji).1,show(DB g gc' (I qs) σc'.own τ).β j=g.β j from I4 (by omega)] at hij
    obtain⟨ci,hci,_⟩:=hout ji _ h2
    have hlt:=hw.rep.obj_lt h6
    grind
   ·rw[(hβ jj hjj).1,show(DB g gc' (I qs) σc'.own τ).β i=g.β i from I4 (by omega)] at hij
    obtain⟨cj,hcj,_⟩:=hout jj _ h5
    have hlt:=hw.rep.obj_lt h3
    grind
   ·rw[show(DB g gc' (I qs) σc'.own τ).β i=g.β i from I4 (by omega),show(DB g gc' (I qs) σc'.own τ).β j=g.β j from I4 (by omega)] at hij
    exact hw.rep.inj i j _ _ h3 h6 hij
  ·rcases memO hx with⟨y,hy,e⟩|hx
   ·simp only[Prod.mk.injEq] at e
    obtain⟨rfl,e2⟩:=e
    obtain⟨h0,u,hu,h3,h4,h5⟩:=h.rep.own y.1 sz xs (by grind)
    grind[GN,DB]
   ·obtain⟨h0,u,hu,h3,h4,h5⟩:=hw.rep.own k sz xs hx
    exact⟨h0,u,by grind[Ct],h3.mono h.M,h4.kept fun b hb=>(keepOwn _ hx u hu b hb).2,fun m hm=>by grind[Ct]⟩
  ·simp only[J5]
   refine List.nodup_append.2 ⟨?_,hw.rep.tags,fun a ha b hb e=>?_⟩
   ·have:(E5 τ σc'.own).map (·.1)=(σc'.own.map (·.1)).map τ:=by simp[E5]
    rw[this]
    refine List.pairwise_map.2 (List.Pairwise.imp_of_mem ?_ h.rep.tags)
    grind
   ·obtain⟨x,hx,rfl⟩:=IQ.1 ha
    obtain⟨y,hy,rfl⟩:=IQ.1 hb
    obtain⟨z,hz,rfl⟩:=IQ.1 hx
    grind
  ·rcases memO hx with⟨x',hx',rfl⟩|hx<;>rcases memO hy with⟨y',hy',rfl⟩|hy
   ·rw[GN hτ hx'] at hu;rw[GN hτ hy'] at hu'
    exact h.rep.sep x' hx' y' hy' (fun e=>hne (by grind)) u u' hu hu' b hb
   ·rw[GN hτ hx'] at hu;rw[Ct (hold _ hy)] at hu'
    grind
   ·grind[Ct,GN]
   ·rw[Ct (hold _ hx)] at hu;rw[Ct (hold _ hy)] at hu'
    exact hw.rep.sep x hx y hy hne u u' hu hu' b hb
  ·rcases memO hx with⟨x',hx',rfl⟩|hx<;>rcases get hi with⟨ji,rfl,h2,hji⟩|⟨h1,h2,h3⟩
   ·rw[GN hτ hx'] at hu
    obtain⟨ci,hci,_⟩:=hout ji _ h2
    rw[(hβ ji hji).1]
    exact h.rep.ownObj x' hx' u hu b hb ji ci hci
   ·rw[GN hτ hx'] at hu
    rw[show(DB g gc' (I qs) σc'.own τ).β i=g.β i from I4 (by omega)]
    have hlt:=hw.rep.obj_lt h3
    grind
   ·rw[Ct (hold _ hx)] at hu
    grind
   ·rw[Ct (hold _ hx)] at hu
    rw[show(DB g gc' (I qs) σc'.own τ).β i=g.β i from I4 (by omega)]
    exact hw.rep.ownObj x hx u hu b hb i cs h3
  ·rw[Ct (fun x hx e=>hk (τ x.1,x.2) (IV.2 (.inl (IQ.2 ⟨x,hx,rfl⟩))) e)]
   exact hw.rep.fresh k (fun x hx=>hk x (IV.2 (.inr hx))) m
 ·intro i cs hi
  rcases get hi with⟨j,rfl,h2,hj⟩|⟨h1,h2,h3⟩
  ·obtain⟨csc,h4,_⟩:=hout j cs h2
   rw[(hβ j hj).1]
   rcases hobjc j csc h4 with h5|⟨j',q,h5,h6⟩
   ·exact .inl (Jn hw.size h5)
   ·obtain⟨c2,h7⟩:=hq j' q h5
    rw[h6];exact hw.objs q c2 h7
  ·rw[show(DB g gc' (I qs) σc'.own τ).β i=g.β i from I4 (by omega)]
   exact hw.objs i cs h3
 ·intro x hx u hu b hb
  rcases memO hx with⟨x',hx',rfl⟩|hx
  ·rw[GN hτ hx'] at hu
   rcases hownc x' hx' u hu b hb with h5|⟨j',q,h5,h6⟩
   ·exact .inl (Jn hw.size h5)
   ·obtain⟨c2,h7⟩:=hq j' q h5
    rw[h6];exact hw.objs q c2 h7
  ·rw[Ct (hold _ hx)] at hu
   exact hw.owns x hx u hu b hb
mutual
def D.ren(ρ τ:Nat->Nat):D->D
 |.v x=>.v x
 |.acc t xs=>.acc (τ t) xs
 |.ptr o off=>.ptr (ρ o) off
 |.arr o off len=>.arr (ρ o) off len
 |.gro o len sz=>.gro (ρ o) len sz
 |.raw x=>.raw x
 |.rv x u=>.rv x u
 |.dagg cs=>.dagg (D.rens ρ τ cs)
 |.dfn f fs cs=>.dfn f (D.rens ρ τ fs) (D.rens ρ τ cs)
 |.tup ds=>.tup (D.rens ρ τ ds)
 |.err=>.err
 |.undef=>.undef
def D.rens(ρ τ:Nat->Nat):List D->List D
 |[]=>[]
 |d::ds=>d.ren ρ τ::D.rens ρ τ ds
end
mutual
def D.okN(n:Nat)(ts:List Nat):D->Bool
 |.acc t _=>ts.contains t
 |.ptr o _|.arr o _ _|.gro o _ _=>Y (o<n)
 |.dagg cs=>D.okNs n ts cs
 |.dfn _ fs cs=>D.okNs n ts fs&&D.okNs n ts cs
 |.tup ds=>D.okNs n ts ds
 |_=>true
def D.okNs(n:Nat)(ts:List Nat):List D->Bool
 |[]=>true
 |d::ds=>d.okN n ts&&D.okNs n ts ds
end
mutual
theorem Mv{g g':Gh}{ρ τ ρ' τ':Nat->Nat}{n:Nat}{ts:List Nat}(hM:∀x u,repV g.M x u->repV g'.M x u)(ho:∀o,o<n->ρ o<g.n->ρ' o<g'.n/\g'.β (ρ' o)=g.β (ρ o)/\g'.κ (ρ' o)=g.κ (ρ o))
  (hι:∀t,ts.contains t=J->∀m u,g.ι (τ t) m=G u->g'.ι (τ' t) m=G u):∀(d:D) (u:yz),d.okN n ts=J->Ah g (d.ren ρ τ) u->Ah g' (d.ren ρ' τ') u
 |.v x,u,_,h=>by simp only[D.ren,Ah] at h⊢;exact hM _ _ h
 |.acc t xs,u,hk,h=>by simp only[D.ren,Ah] at h⊢;exact⟨hM _ _ h.1,hι t (by simpa[D.okN] using hk) _ _ h.2⟩
 |.ptr o off,u,hk,h=>by
  simp only[D.okN,HU] at hk
  simp only[D.ren,Ah] at h⊢
  obtain⟨h1,h2,_⟩:=ho o hk h.1
  exact⟨h1,by rw[h2];exact h.2⟩
 |.arr o off len,u,hk,h=>by
  simp only[D.okN,HU] at hk
  simp only[D.ren,Ah] at h⊢
  obtain⟨h1,h2,_⟩:=ho o hk h.1
  exact⟨h1,by rw[h2];exact h.2⟩
 |.gro o len sz,u,hk,h=>by
  simp only[D.okN,HU] at hk
  simp only[D.ren,Ah] at h⊢
  obtain⟨h1,h2,h3⟩:=ho o hk h.1
  exact⟨h1,by rw[h2,h3];exact h.2⟩
 |.raw x,u,_,h=>by simpa only[D.ren,Ah] using h
 |.rv x u0,u,_,h=>by simp only[D.ren,Ah] at h⊢;exact⟨h.1,hM _ _ h.2⟩
 |.dagg cs,u,hk,h=>by
  simp only[D.ren,Ah] at h⊢
  obtain⟨us,e,h1⟩:=h
  exact⟨us,e,Ee hM ho hι cs us (by simpa[D.okN] using hk) h1⟩
 |.dfn f fs cs,u,hk,h=>by
  simp only[D.okN,HL] at hk
  simp only[D.ren,Ah] at h⊢
  obtain⟨us,vs,e,h1,h2⟩:=h
  exact⟨us,vs,e,Ee hM ho hι fs us hk.1 h1,Ee hM ho hι cs vs hk.2 h2⟩
 |.tup ds,u,hk,h=>by
  simp only[D.ren,Ah] at h⊢
  obtain⟨us,e,h1⟩:=h
  exact⟨us,e,Ee hM ho hι ds us (by simpa[D.okN] using hk) h1⟩
 |.err,u,_,h=>by simpa only[D.ren,Ah] using h
 |.undef,u,_,_=>by simp only[D.ren,Ah]
theorem Ee{g g':Gh}{ρ τ ρ' τ':Nat->Nat}{n:Nat}{ts:List Nat}(hM:∀x u,repV g.M x u->repV g'.M x u)(ho:∀o,o<n->ρ o<g.n->ρ' o<g'.n/\g'.β (ρ' o)=g.β (ρ o)/\g'.κ (ρ' o)=g.κ (ρ o))
  (hι:∀t,ts.contains t=J->∀m u,g.ι (τ t) m=G u->g'.ι (τ' t) m=G u):∀(ds:List D) (us:List yz),D.okNs n ts ds=J->Ag g (D.rens ρ τ ds) us->Ag g' (D.rens ρ' τ' ds) us
 |[],us,_,h=>by simpa only[D.rens,Ag] using h
 |d::ds,us,hk,h=>by
  simp only[D.okNs,HL] at hk
  simp only[D.rens,Ag] at h⊢
  obtain⟨u,us',e,h1,h2⟩:=h
  exact⟨u,us',e,Mv hM ho hι d u hk.1 h1,Ee hM ho hι ds us' hk.2 h2⟩
end
mutual
theorem OK:∀d:D,d.ren id id=d
 |.v _|.acc .. |.ptr .. |.arr .. |.gro .. |.raw _|.rv .. |.err|.undef=>by simp[D.ren]
 |.dagg cs=>by simp[D.ren,E4 cs]
 |.dfn f fs cs=>by simp[D.ren,E4 fs,E4 cs]
 |.tup ds=>by simp[D.ren,E4 ds]
theorem E4:∀ds:List D,D.rens id id ds=ds
 |[]=>rfl
 |d::ds=>by simp[D.rens,OK d,E4 ds]
end
mutual
theorem AbE:∀(ρ τ:Nat->Nat) (d:D),(d.ren ρ τ).one=d.one
 |ρ,τ,d=>by cases d<;>simp[D.ren,D.one]
end
theorem Wn{ρ τ:Nat->Nat}:∀{ds:List D},(∀c∈ds,c.one=J)->∀c∈D.rens ρ τ ds,c.one=J
 |[],_,c,hc=>by simp[D.rens] at hc
 |d::ds,h,c,hc=>by
  simp only[D.rens,IN] at hc
  rcases hc with rfl|hc
  ·rw[AbE];exact h d (by simp)
  ·exact Wn (fun c hc=>h c (by simp[hc])) c hc
inductive qn (n:Nat) (qs:List Nat):D->D->Prop
 |ren {dc:D} (h:dc.okN (I qs) []=J):qn n qs (dc.ren (d6 n qs) id) dc
 |acc {t:Nat} {xs:List V}:qn n qs (.acc t xs) (.v (.list xs))
 |undef {d:D}:qn n qs d .undef
inductive Mo (n:Nat) (qs:List Nat):List D->List D->Prop
 |nil:Mo n qs [] []
 |cons {d dc:D} {ds dcs:List D} (h:qn n qs d dc) (hs:Mo n qs ds dcs):Mo n qs (d::ds) (dc::dcs)
inductive Rh (H:List (Option (List D))) (qs:List Nat):List Nat->List (Option (List D))->Prop
 |nil:Rh H qs [] []
 |cons {q:Nat} {js:List Nat} {cs csc:List D} {os:List (Option (List D))} (h:H[q]?=G (G cs)) (ha:Mo (I H) qs cs csc) (h1:csc.all D.one=J) (hs:Rh H qs js os):Rh H qs (q::js) (G csc::os)
theorem Rh.length{H:List (Option (List D))}{qs:List Nat}:∀{js:List Nat} {os:List (Option (List D))},Rh H qs js os->os.length=js.length
 |_,_,.nil=>rfl
 |_,_,.cons _ _ _ hs=>by simp[hs.length]
theorem Rh.get{H:List (Option (List D))}{qs:List Nat}:∀{js:List Nat} {os:List (Option (List D))},Rh H qs js os->∀{j q:Nat},js[j]?=G q->∃cs csc,H[q]?=G (G cs)/\os[j]?=G (G csc)/\Mo (I H) qs cs csc/\∀c∈csc,c.one=J
 |_,_,.nil,j,q,h=>by grind
 |_,_,.cons h ha h1 hs,j,q,hj=>by
  cases j with
  |zero=>grind
  |succ j=>simp at hj;obtain⟨cs,csc,h2,h3,h4⟩:=hs.get hj;grind
theorem AnN{n:Nat}{qs:List Nat}{j:Nat}(h:j<I qs):d6 n qs j=qs.getD j 0:=by
 grind[d6]
theorem qn.rep{g:Gh}{qs:List Nat}{d dc:D}(h:qn g.n qs d dc){u:yz}(hr:Ah g d u):Ah (jv g qs) dc u:=by
 cases h with
 |ren hk=>
  have:=Mv (g:=g) (g':=jv g qs) (ρ:=d6 g.n qs) (τ:=id) (ρ':=id) (τ':=id) (n:=I qs) (ts:=[]) (fun _ _ h=>h) (fun o ho _=>⟨ho,by grind[jv,AnN]⟩) (fun t ht=>by grind) dc u hk hr
  grind[OK]
 |acc=>simp only[Ah] at hr⊢;exact hr.1
 |undef=>grind[Ah]
theorem Mo.rep{g:Gh}{qs:List Nat}:∀{ds dcs:List D},Mo g.n qs ds dcs->∀{us:List yz},Ag g ds us->Ag (jv g qs) dcs us
 |_,_,.nil,us,h=>by grind[Ag]
 |_,_,.cons h hs,us,hr=>by
  simp only[Ag] at hr⊢
  obtain⟨u,us',e,h1,h2⟩:=hr
  exact⟨u,us',e,h.rep h1,hs.rep h2⟩
def QG:D->Option (yx×List D×List D)
 |.v (.fn f fs cs)=>G (f,fs.map .v,cs.map .v)
 |.dfn f fs cs=>G (f,fs,cs)
 |_=>none
theorem UZ{g:Gh}{d:D}{f:yx}{fs cs:List D}(h:QG d=G (f,fs,cs)){u:yz}(hr:Ah g d u):∃us vs,u=.func (.func f) us.toArray vs.toArray/\Ag g fs us/\Ag g cs vs:=by
 unfold QG at h
 grind[Ah,Kz,JV]
def cp(n:Nat)(ts:List Nat):List (Option (List D))->Bool
 |[]=>true
 |some cs::H=>D.okNs n ts cs&&cp n ts H
 |none::H=>cp n ts H
theorem N7{n:Nat}{ts:List Nat}:∀{H:List (Option (List D))},cp n ts H=J->∀{j:Nat} {cs:List D},H[j]?=G (G cs)->D.okNs n ts cs=J
 |[],_,j,cs,h=>by simp at h
 |some c::H,hk,j,cs,h=>by
  simp only[cp,HL] at hk
  cases j with
  |zero=>simp at h;subst h;exact hk.1
  |succ j=>exact N7 hk.2 (by simpa using h)
 |none::H,hk,j,cs,h=>by
  simp only[cp] at hk
  cases j with
  |zero=>simp at h
  |succ j=>exact N7 hk (by simpa using h)
def Dn(ρ τ:Nat->Nat)(H:List (Option (List D))):List (Option (List D)):=H.map (Option.map (D.rens ρ τ))
section
variable {P : x7} {o : yy} {σ : St}
theorem BE{c:Call}{fo:x8}(ho:o.op=.call c)(hc:c.callee=.value fo){fD:D}{f:yx}{fs cs:List D}(hf:QG fD=some (f,fs,cs)){ds dsc:List D}{σc σc':St}{dc:D}(qs:List Nat)(τ:Nat->Nat)
  (hspec:Aa P f dsc σc dc σc') (hargs:Mo σ.H.length qs (fs++ds++cs) dsc) (hobjs:Rh σ.H qs qs σc.H) (hnd:qs.Nodup) (CT:σc.own=[]) (hτ:∀x∈σc'.own,∀y∈σc'.own,τ x.1=τ y.1->x.1=y.1)
  (hfr:∀x∈σc'.own,∀y∈σ.own,τ x.1≠y.1) (hokd:dc.okN σc'.H.length (σc'.own.map (·.1))=true) (hokH:cp σc'.H.length (σc'.own.map (·.1)) σc'.H=true):
  Ak P o (fD::ds) σ (dc.ren (d6 σ.H.length qs) τ) ⟨CG σ.H qs (Dn (d6 σ.H.length qs) τ σc'.H),E5 τ σc'.own++σ.own⟩:=by
 intro E g a w K Q hw hds hK
 have hn:g.n=σ.H.length:=hw.rep.n
 simp only[ho,Op.operands,Call.operands,hc] at hds
 have h':Ag g (fD::ds) (a.eval fo::c.args.toList.map a.eval):=by grind
 simp only[Ag] at h'
 obtain⟨u,us',e,h1,h2⟩:=h'
 simp only[HX] at e
 obtain⟨e1,e2⟩:=e
 obtain⟨us,vs,e3,h3,h4⟩:=UZ hf h1
 refine GE (_E:=E) (_g:=g) ho hc hspec.1 (e1.trans e3) e2 ?_
 rw[←hn] at hargs
 have hq:∀(j q:Nat),qs[j]?=some q->∃cs csc,σ.H[q]?=some (some cs)/\σc.H[j]?=some (some csc)/\Mo g.n qs cs csc/\∀c∈csc,c.one=true:=fun j q hj=>by rw[hn];exact hobjs.get hj
 have hrep:dh (jv g qs) σc w:=hw.rep.callee hnd CT hobjs.length (fun j q csc hj hcj=>by
  obtain⟨cs,csc',h5,h6,h7,h8⟩:=hq j q hj
  rw[h6] at hcj;simp at hcj;subst hcj
  exact⟨cs,h5,fun us hr=>h7.rep hr,h8⟩)
 refine Calls.mono (hspec.2 _ w _ hrep (hargs.rep (Au (Au h3 h2) h4))) ?_
 rintro e w' ⟨r,gc',rfl,hw',hr⟩
 have hn':gc'.n=σc'.H.length:=hw'.rep.n
 have hkn:qs.length<=gc'.n:=hw'.nE
 have hρ:∀j,j<σc'.H.length->d6 σ.H.length qs j<(DB g gc' qs.length σc'.own τ).n/\(DB g gc' qs.length σc'.own τ).β (d6 σ.H.length qs j)=gc'.β j/\(DB g gc' qs.length σc'.own τ).κ (d6 σ.H.length qs j)=gc'.κ j:=by
  intro j hj
  by_cases hlt:j<qs.length
  ·have hqj:qs[j]?=some qs[j]:=HK hlt
   obtain⟨cs,_,hcs,_⟩:=hq j _ hqj
   have h5:qs[j]<g.n:=hw.rep.lt_n hcs
   have h6:=hw'.βE j hlt
   have h7:=hw'.κE j hlt
   grind[jv,d6,DB]
  grind[d6,DB]
 have hren:∀(dd:D) (v:yz),dd.okN σc'.H.length (σc'.own.map (·.1))=true->Ah gc' dd v->Ah (DB g gc' qs.length σc'.own τ) (dd.ren (d6 σ.H.length qs) τ) v:=by
  intro dd v hk hv
  refine Mv (g:=gc') (g':=DB g gc' qs.length σc'.own τ) (ρ:=id) (τ:=id) (ρ':=d6 σ.H.length qs) (τ':=τ) (n:=σc'.H.length) (ts:=σc'.own.map (·.1)) (fun _ _ h=>h) (fun o ho _=>hρ o ho) (fun t ht m x hx=>?_) dd v hk (by grind[OK])
  grind[DB]
 have hrens:∀(dd:List D) (v:List yz),D.okNs σc'.H.length (σc'.own.map (·.1)) dd=true->Ag gc' dd v->Ag (DB g gc' qs.length σc'.own τ) (D.rens (d6 σ.H.length qs) τ dd) v:=by
  intro dd v hk hv
  refine Ee (g:=gc') (g':=DB g gc' qs.length σc'.own τ) (ρ:=id) (τ:=id) (ρ':=d6 σ.H.length qs) (τ':=τ) (n:=σc'.H.length) (ts:=σc'.own.map (·.1)) (fun _ _ h=>h) (fun o ho _=>hρ o ho) (fun t ht m x hx=>?_) dd v hk (by grind[E4])
  grind[DB]
 obtain⟨h8,h9⟩:=hw.back CT hobjs.length (fun j q hj=>by grind) hw' hτ hfr (H2:=Dn (d6 σ.H.length qs) τ σc'.H) (by simp[Dn]) (fun j cs2 hj=>by
  simp only[Dn,IP] at hj
  cases hcj:σc'.H[j]? with
  |none=>grind
  |some oc=>
   cases oc with
   |none=>grind
   |some csc=>
    simp[hcj] at hj
    subst hj
    obtain⟨_,_,_,_,_,h1c,_⟩:=hw'.rep.obj j csc hcj
    grind[N7,Wn])
 grind
end
theorem WI.kill{E:c9}{g:Gh}{σ:St}{w:x5}(hw:WI E g σ w){q:Nat}{cs:List D}(hq:σ.H[q]?=G (G cs)):WI E g ⟨σ.H.set q none,σ.own⟩ w:=
 hw.setObjG (M':=g.M) (oc:=none) (c6.le_refl _) hq (fun _ h=>by simp at h) (fun _ _ _=>⟨rfl,fun _=>rfl⟩) hw.rep.mem (HR _) rfl rfl rfl
theorem JO{H:List (Option (List D))}{q i:Nat}{cs:List D}(h:(H.set q none)[i]?=G (G cs)):i≠q/\H[i]?=G (G cs):=by
 rw[getElem?_set] at h
 split at h
 ·split at h<;>simp at h
 ·rename_i e;exact⟨fun e'=>e e'.symm,h⟩
theorem WI.rename{E:c9}{g:Gh}{σ:St}{w:x5}(hw:WI E g σ w){q:Nat}{cs:List D}(hq:σ.H[q]?=G (G cs)):
  ∃g',WI E g' ⟨σ.H.set q none++[G cs],σ.own⟩ w/\g.le g'/\g'.β (I σ.H)=g.β q/\g'.κ (I σ.H)=g.κ q/\g'.n=I σ.H+1:=by
 obtain⟨us,rest,e,hb,hr,h1,hM,hκ⟩:=hw.rep.obj q cs hq
 obtain⟨h2,h3⟩:=(hw.kill hq).addObj (b:=g.β q) (us:=us) (rest:=rest) (e:=e) (cs:=cs) hb (hw.objs q cs hq) hM
  (fun i ci hi e'=>by
   obtain⟨hne,hi'⟩:=JO hi
   exact hne (hw.rep.inj i q _ _ hi' hq e'))
  (fun x hx u hu hb'=>hw.rep.ownObj x hx u hu _ hb' q cs hq rfl) hr h1
 refine⟨_,h2,h3,?_,?_,?_⟩
 ·simp[hw.rep.n]
 ·simp only[hw.rep.n,Jz];exact hκ
 ·simp[hw.rep.n]
theorem WI.newObjR{E:c9}{g:Gh}{σ:St}{w:x5}(hw:WI E g σ w){us rest:List yz}{cs:List D}(e:x6)(hr:Ag g cs us)(h1:∀c∈cs,c.one=J):
  ∃g',WI E g' ⟨σ.H++[G cs],σ.own⟩ (w.alloc (.cells (us++rest).toArray e))/\g.le g'/\g'.β (I σ.H)=w.heap.size/\g'.κ (I σ.H)=I (us++rest)/\g'.n=I σ.H+1:=by
 have h2:=(hw.alloc (.cells (us++rest).toArray e)).addObj (b:=w.heap.size) (us:=us) (rest:=rest) (e:=e) (cs:=cs) (heap_alloc_new w _) (.inl hw.size) (hw.rep.new_none (HR _))
  (fun i cs hi=>Nat.ne_of_lt (hw.rep.obj_lt hi)) (fun x hx u hu hb=>by have:=hw.rep.own_lt hx hu hb;omega) hr h1
 exact⟨_,h2.1,h2.2,by simp[hw.rep.n],by simp[hw.rep.n],by simp[hw.rep.n]⟩
section
variable {P : x7} {o : yy} {σ : St} {d : D}
theorem L8{x y:x8}{t:x6}(ho:o.op=.call { callee:=.builtin .append,args:= #[x,y],argTypes:= #[t,t]}){e:x6}{sz by':Nat}{z:yz}(hs:BW P t=G (e,sz,by',G z))(hzc:z.cells.size=sz)(_hsz:0<sz)
  {q q2 len n:Nat} {cs cs2:List D} (hq:σ.H[q]?=G (G cs)) (hl:I cs=len*sz) (hq2:σ.H[q2]?=G (G cs2)) (hl2:I cs2=n*sz) (_hpos:0<n) (hlen:(len+n)*by'<=140737488355328) (hlen2:len+n<=140737488355328):
  Ak P o [.gro q len sz,.gro q2 n sz] σ (.gro (I σ.H) (len+n) sz) ⟨σ.H.set q none++[G (cs++cs2)],σ.own⟩:=by
 intro E g a w K Q hw hds hK
 simp only[ho,Op.operands,Call.operands] at hds
 have hds':Ag g [.gro q len sz,.gro q2 n sz] [a.eval x,a.eval y]:=by simpa using hds
 simp only[Ag] at hds'
 obtain⟨u,us0,eu,hu,v,vs0,ev,hv,rfl⟩:=hds'
 simp only[HX] at eu
 obtain⟨ex,rfl⟩:=eu
 simp only[HX,IL] at ev
 simp only[Ah] at hu hv
 obtain⟨hqn,cap,hcap,hκ,rfl⟩:=hu
 obtain⟨_,cap2,hcap2,_,rfl⟩:=hv
 obtain⟨i,ht,hi,hisz,hib,hiz⟩:=AF hs
 obtain⟨us,rest,et,hb,hr,h1,hM,hκ1⟩:=hw.rep.obj q cs hq
 obtain⟨vs,rest2,et2,hb2,hr2,h12,hM2,_⟩:=hw.rep.obj q2 cs2 hq2
 have hul:I us=len*sz:=by rw[A3 hr,hl]
 have hvl:I vs=n*i.size:=by rw[A3 hr2,hl2,hisz]
 have hnews:∀j u,vs[j]?=G u->w.cell? ((⟨g.β q2,0,none⟩:Addr).add j)=G u:=fun j u hj=>by
  rw[Addr.add_lit];simp only[World.cell?,hb2,IT,List.getElem?_toArray];exact UX hj
 have holds:∀j u,us[j]?=G u->w.cell? ((⟨g.β q,0,none⟩:Addr).add j)=G u:=fun j u hj=>by
  rw[Addr.add_lit];simp only[World.cell?,hb,IT,List.getElem?_toArray];exact UX hj
 have hone:∀u∈vs,u.oneCell'=J:=Cy h12 hr2
 have hcs:∀c∈cs++cs2,c.one=J:=fun c hc=>by
  rcases IV.1 hc with h|h
  ·exact h1 c h
  ·exact h12 c h
 have hlt:I us<=I (us++rest):=by simp
 obtain⟨u',w',g',hrun,hw',hle,hd⟩:∃u' w' g',(Builtin.append_ #[t,t] o.type #[.slice (G ⟨g.β q,0,none⟩) len cap,.slice (G ⟨g.β q2,0,none⟩) n cap2]).run P w=.ok u' w'/\
   WI E g' ⟨σ.H.set q none++[G (cs++cs2)],σ.own⟩ w'/\g.le g'/\Ah g' (.gro (I σ.H) (len+n) sz) u':=by
  by_cases hroom:len+n<=cap
  ·have hfit:len*i.size+I vs<=(us++rest).toArray.size:=by
    rw[J4,hκ1, ←hκ,hvl,hisz, ←J1]
    exact Nat.mul_le_mul_right _ hroom
   have hrun:=ee (P:=P) w t o.type e et i ht hi (g.β q) len cap (us++rest).toArray hb ⟨g.β q2,0,none⟩ n cap2 vs hvl hnews hone hroom hfit
   have hrow:(us++rest).toArray.toList.take (len*i.size)++vs++(us++rest).toArray.toList.drop (len*i.size+I vs)=(us++vs)++rest.drop (I vs):=by
    simp only[hisz, ←hul]
    rw[List.take_left',List.drop_append,I3 (by omega)]<;>simp
   rw[hrow] at hrun
   have hlen3:I ((us++vs)++rest.drop (I vs))=g.κ q:=by
    rw[←hκ1]
    simp only[J4,HY] at hfit
    simp only[HY,Jw]
    rw[hisz, ←hul] at hfit
    omega
   have hw1:=hw.setObj (cs':=cs++cs2) (w':=w.setRow (g.β q) ((us++vs)++rest.drop (I vs)).toArray) hq (us:=us++vs) (rest:=rest.drop (I vs)) (e:=et) (setRow_heap w _ _ _ et _ hb) hlen3 (Au hr hr2) hcs (fun b hb=>setRow_other w _ _ _ hb) (by simp) rfl rfl rfl
   have hq':(σ.H.set q (G (cs++cs2)))[q]?=G (G (cs++cs2)):=by
    rw[getElem?_set];simp;exact(HN.1 hq).1
   obtain⟨g',h3,h4,h5,h6,h7⟩:=hw1.rename (q:=q) hq'
   simp only[List.set_set,length_set] at h3 h5 h6 h7
   exact⟨_,_,g',hrun,h3,h4,by simp only[Ah];exact⟨by omega,cap,hroom,by rw[h6];exact hκ,by rw[h5]⟩⟩
  ·have hfitc:Builtin.nextslicecap (len+n) cap*i.bytes<=281474976710656:=growslice_fits (by omega) (by rw[hib];exact hlen)
   have hrun:=run_append_grow (P:=P) w t o.type e i z ht hi hiz ⟨g.β q,0,none⟩ len cap us (by rw[hul,hisz]) holds ⟨g.β q2,0,none⟩ n cap2 vs hvl hnews (by omega) (by omega) hfitc
   have hge:=grownCap_ge w (len+n) cap e
   have hcell:us.toArray++vs.toArray++Builtin.zeroCells z.cells (grownCap w (len+n) cap e- (len+n))=((us++vs)++(Builtin.zeroCells z.cells (grownCap w (len+n) cap e- (len+n))).toList).toArray:=by
    apply Jt;simp
   rw[hcell] at hrun
   obtain⟨g',h3,h4,h5,h6,h7⟩:=(hw.drew.kill hq).newObjR (us:=us++vs) (rest:=(Builtin.zeroCells z.cells (grownCap w (len+n) cap e- (len+n))).toList) (cs:=cs++cs2) e (Au hr hr2) hcs
   simp only[length_set] at h3 h5 h6 h7
   refine⟨_,_,g',hrun,h3,h4,?_⟩
   simp only[Ah]
   refine⟨by omega,_,hge,?_,by rw[h5];rfl⟩
   rw[h6]
   simp only[HY,IK,size_zeroCells,hzc,hul,hvl,hisz, ←J1]
   congr 1;omega
 have:=hK g' w' u' hw' hle hd
 unfold Oper.wp execOp
 simp only[ho,resolve,invoke,builtin,Sem.run_bind,Sem.run_pure,Result.andThen_ok,List.map_toArray,I9,Jo,ex,ev,hrun]
 exact this
end
inductive GB:List x8->List D->List D->Prop
 |nil:GB [] [] []
 |same {x:x8} {d:D} {xs:List x8} {ds ds':List D} (h:GB xs ds ds'):GB (x::xs) (d::ds) (d::ds')
 |const {u:yz} {d:D} {xs:List x8} {ds ds':List D} (h:GB xs ds ds'):GB (.const u::xs) (d::ds) (.raw u::ds')
theorem GB.rep{g:Gh}{a:Act}:∀{xs:List x8} {ds ds':List D},GB xs ds ds'->Ag g ds (xs.map a.eval)->Ag g ds' (xs.map a.eval)
 |_,_,_,.nil,h=>by rfl
 |_,_,_,.same h',h=>by
  simp only[I9,Ag] at h⊢
  obtain⟨u,us,e,h1,h2⟩:=h
  simp only[HX] at e
  obtain⟨e1,e2⟩:=e
  exact⟨_,_,rfl,by grind,h'.rep (by grind)⟩
 |_,_,_,.const h',h=>by
  simp only[I9,Ag] at h⊢
  obtain⟨u,us,e,h1,h2⟩:=h
  simp only[HX] at e
  obtain⟨e1,e2⟩:=e
  exact⟨_,_,rfl,by rfl,h'.rep (by grind)⟩
section
variable {P : x7} {o : yy} {σ : St} {d : D}
theorem UG{x y:x8}{t:x6}(ho:o.op=.call { callee:=.builtin .append,args:= #[x,y],argTypes:= #[t,t]}){e:x6}{sz by':Nat}{z:yz}(hs:BW P t=G (e,sz,by',G z))(hzc:z.cells.size=sz)
  {q2 n:Nat} {cs2:List D} (hq2:σ.H[q2]?=G (G cs2)) (hl2:I cs2=n*sz) (hpos:0<n) (hlen:n*by'<=140737488355328) (hlen2:n<=140737488355328):
  Ak P o [.raw (.slice none 0 0),.gro q2 n sz] σ (.gro (I σ.H) n sz) ⟨σ.H++[G cs2],σ.own⟩:=by
 intro E g a w K Q hw hds hK
 simp only[ho,Op.operands,Call.operands] at hds
 obtain⟨u,v,eq,hu,hv⟩:=Ax.1 (by simpa using hds)
 simp only[HX,IL] at eq
 simp only[Ah] at hu hv
 subst hu
 obtain⟨_,cap2,hcap2,_,rfl⟩:=hv
 obtain⟨i,ht,hi,hisz,hib,hiz⟩:=AF hs
 obtain⟨vs,rest2,et2,hb2,hr2,h12,hM2,_⟩:=hw.rep.obj q2 cs2 hq2
 have hvl:I vs=n*i.size:=by grind[A3]
 have hnews:∀j u,vs[j]?=G u->w.cell? ((⟨g.β q2,0,none⟩:Addr).add j)=G u:=fun j u hj=>by
  grind[World.cell?,Addr.add]
 have hrun:=run_append_nil (P:=P) w t o.type e i z ht hi hiz ⟨g.β q2,0,none⟩ n cap2 vs hvl hnews hpos (by omega) (by grind)
 have hge:=grownCap_ge w n 0 e
 have hcell:vs.toArray++Builtin.zeroCells z.cells (grownCap w n 0 e-n)=(vs++(Builtin.zeroCells z.cells (grownCap w n 0 e-n)).toList).toArray:=by
  grind
 rw[hcell] at hrun
 obtain⟨g',h3,h4,h5,h6,h7⟩:=hw.drew.newObjR (us:=vs) (rest:=(Builtin.zeroCells z.cells (grownCap w n 0 e-n)).toList) (cs:=cs2) e hr2 h12
 have hd:Ah g' (.gro (I σ.H) n sz) (.slice (G ⟨w.heap.size,0,none⟩) n (grownCap w n 0 e)):=by
  simp only[Ah]
  refine⟨by omega,_,hge,?_,by simp_all⟩
  rw[h6]
  simp only[HY,IK,size_zeroCells,hzc,hvl,hisz, ←J1]
  grind
 have:=hK g' _ _ h3 h4 hd
 unfold Oper.wp execOp
 simp only[ho,resolve,invoke,builtin,Sem.run_bind,Sem.run_pure,Result.andThen_ok,List.map_toArray,I9,Jo,eq.1,eq.2,hrun]
 exact this
end
theorem WI.review{E:c9}{g:Gh}{σ:St}{w:x5}(hw:WI E g σ w){q:Nat}{cs cs':List D}(hq:σ.H[q]?=G (G cs))(h:∀us,Ag g cs us->Ag g cs' us)(h1:∀c∈cs',c.one=J):WI E g ⟨σ.H.set q (G cs'),σ.own⟩ w:=by
 obtain⟨us,rest,e,hb,hr,_,_,hκ⟩:=hw.rep.obj q cs hq
 exact hw.setObj hq hb hκ (h us hr) h1 (fun _ _=>rfl) rfl rfl rfl rfl
theorem D4{α:Type}{l:List α}{s:Nat}{u:α}(h:l[s]?=G u):l.set s u=l:=by
 apply List.ext_getElem?
 grind
theorem Aa7{g:Gh}{d:D}{x:V}{u:yz}(h:d.toV=G x)(hr:Ah g d u):repC g.M x u.cells.toList:=L3 (Lz h hr)
section
variable {P : x7} {o : yy} {σ : St} {d : D}
theorem Aln{e:x6}{x:x8}(ho:o.op=.box e x){y:V}(hy:d.toV=G y):Ak P o [d] σ (.v (.ref y)) σ:=by
 intro E g a w K Q hw hds hK
 simp only[ho,Op.operands,AG] at hds
 obtain⟨u,eu,hd⟩:=hds
 simp at eu
 have hc:=Aa7 hy hd
 obtain⟨hw',hle⟩:=hw.newImm u.cells.toList [] e
 rw[IX] at hw'
 have:=hK _ _ (.pointer (G ⟨w.heap.size,0,none⟩)) hw' hle (by
  simp only[Ah,DO]
  exact⟨w.heap.size,0,u.cells.toList,rfl,Rf g.M w.heap.size _,repC.mono hle.M _ _ hc⟩)
 unfold Oper.wp execOp
 simpa[ho,eu,Instr.box,newVar,newRow,Oper.upon] using this
end
section
variable {P : x7} {o : yy}
end
section
variable {C : c9 -> c9 -> Prop} {P : x7} {R : List D -> St -> Prop} {c : Code} {p : List Nat} {k : List KI} {env env' : List D} {σ σ' : St} {i : Nat} {o : yy} {d : D}
end
def SW:yz->Option V
 |.slice none 0 0=>G .nils
 |u=>SV u
def FS:List yz->Option (List V)
 |[]=>G []
 |u::us=>match SW u,FS us with
  |some x,some xs=>G (x::xs)
  |_,_=>none
theorem Pq{M:c6}{u:yz}{x:V}(h:SW u=G x):x.isAgg=O/\repC M x [u]:=by
 grind[SW,V.isAgg,repC,LO]
theorem Eo{M:c6}:∀{us:List yz} {xs:List V},FS us=G xs->repA M xs us
 |[],xs,h=>by simp[FS] at h;subst h;simp[repA]
 |u::us,xs,h=>by
  simp only[FS] at h
  split at h
  ·rename_i x xs' h1 h2
   simp at h;subst h
   obtain⟨h3,h4⟩:=Pq (M:=M) h1
   simp only[repA]
   exact⟨u,us,rfl,h3,h4,Eo h2⟩
  ·simp at h
def Oy(P:x7)(t:x6):Option (List V):=
 match (P.info? t).bind (·.zero) with
 |some z=>FS z.cells.toList
 |none=>none
theorem Kr{P:x7}{t:x6}{xs:List V}(h:Oy P t=G xs):∃i z,P.info? t=G i/\i.zero=G z/\FS z.cells.toList=G xs:=by
 unfold Oy at h
 split at h
 ·rename_i z hz
  cases hi:P.info? t<;>grind
 grind
def ua(P:x7)(t:x6):Option (List V×List (Nat×Nat)):=
 match Oy P t,P.underlying t with
 |some z,some (.struct fs)=>(fs.toList.mapM (fun f=>(P.info? f.type).map fun i=>(f.offset,i.size))).map fun p=>(z,p)
 |_,_=>none
section
variable {P : x7} {o : yy} {σ : St} {d : D}
theorem N4{e:x6}(ho:o.op=.alloc e){xs:List V}(hz:Oy P e=G xs):Ak P o [] σ (.ptr (I σ.H) 0) ⟨σ.H++[G (xs.map .v)],σ.own⟩:=by
 intro E g a w K Q hw hds hK
 obtain⟨i,z,hi,hz1,hc⟩:=Kr hz
 obtain⟨h2,h3⟩:=D7 (g:=g) (Eo hc)
 obtain⟨g',hw',hle,hβ,hn⟩:=hw.newObj e h2 h3
 have:=hK g' _ (.pointer (G ⟨w.heap.size,0,none⟩)) hw' hle (by grind[Ah])
 unfold Oper.wp execOp
 simpa[ho,Instr.alloc,zeroValue,typeInfo,hi,hz1,newVar,newRow,Oper.upon] using this
theorem Acs{t:x6}{parts:Array (Nat×x8)}(ho:o.op=.build t parts){z:List V}{ay:List (Nat×Nat)}(hb:ua P t=G (z,ay)){ds:List D}{xs:List (Nat×V)}{out:List V}
  (hx:Dw parts.toList ds=G xs) (hf:Hx (ay[·]?) z xs=G out):Ak P o ds σ (.v (.agg out)) σ:=by
 intro E g a w K Q hw hds hK
 simp only[ho,Op.operands] at hds
 have hpr:=HA hx (a:=a) (g:=g) (by grind[Function.comp_def])
 unfold ua at hb
 have key:∃U,P.built t (parts.toList.map fun p=>(p.1,a.eval p.2))=G U/\repA g.M out U.toList:=by
  cases hz:Oy P t with
  |none=>grind
  |some z0=>
   obtain⟨i,zv,hi,hz1,hcv⟩:=Kr hz
   cases hu:P.underlying t with
   |none=>grind
   |some dd=>
    cases dd<;>simp only[hz,hu,reduceCtorEq] at hb
    case struct fs=>
     cases hp:fs.toList.mapM (fun f=>(P.info? f.type).map fun i=>(f.offset,i.size)) with
     |none=>grind
     |some pl=>
      simp[hp] at hb
      obtain⟨rfl,rfl⟩:=hb
      obtain⟨U,hU,hrU⟩:=M3 hpr (Eo (M:=g.M) hcv) hf
      exact⟨U,by simpa[Program.built,hi,hu,hz1,hp] using hU,hrU⟩
 obtain⟨U,hU,hrU⟩:=key
 have:=hK g w (.agg U) hw g.le_refl (by grind[Ah,Cx])
 have hrun:=run_build (P:=P) w t (parts.map fun p=>(p.1,a.eval p.2)) U (by simp_all)
 unfold Oper.wp execOp
 simp only[ho]
 simp only[Sem.run_bind]
 rw[show(parts.map fun(x:Nat×x8)=>match x with|(i,x)=>(i,a.eval x))=parts.map fun p=>(p.1,a.eval p.2) from rfl,hrun]
 exact this
theorem AgQ{t:x6}{x y:x8}(ho:o.op=.makeSlice t x y){e:x6}{by':Nat}{z:yz}(hs:BW P t=G (e,1,by',G z)){zv:V}(hz:SW z=G zv){k k':yv}{n:Int}(h0:0<=n)(hn:(by':Int)*n<=281474976710656)(hn2:n<=9223372036854775807):
  Ak P o [.v (.int k n),.v (.int k' n)] σ (.arr (I σ.H) 0 n.toNat) ⟨σ.H++[G (replicate n.toNat (.v zv))],σ.own⟩:=by
 intro E g a w K Q hw hds hK
 simp only[ho,Op.operands,Ax] at hds
 obtain⟨u,v,eq,h1,h2⟩:=hds
 simp only[I9,Jo,HX,IL] at eq
 obtain⟨e1,e2⟩:=eq
 simp only[Ah,AC] at h1 h2
 subst h1 h2
 obtain⟨i,hu,hi,hsz,hby,hzz⟩:=AF hs
 obtain⟨hza,hzc⟩:=Pq (M:=g.M) hz
 have hz1:z.cells= #[z]:=by
  grind[De,Oj]
 have hrun:=run_make (P:=P) w t e i z hu hi hzz k k' n n h0 (IA _) (by grind) hn2
 rw[hsz,Nat.mul_one,hz1,KY] at hrun
 have hr:∀m,Ag g (replicate m (.v zv)) (replicate m z):=by
  intro m
  induction m<;>grind[Ag,Ah,BP]
 obtain⟨g',hw',hle,hβ,hn'⟩:=hw.newObj e (hr n.toNat) (fun c hc=>by grind[D.one])
 have:=hK g' _ (.slice (G ⟨w.heap.size,0,none⟩) n.toNat n.toNat) hw' hle (by grind[Ah])
 unfold Oper.wp execOp
 simp only[ho,e1,e2,Sem.run_bind,hrun,Result.andThen_ok]
 exact this
end
def um(cs cs':List D):Prop:=(∀g us,Ag g cs us->Ag g cs' us)/\((∀c∈cs,c.one=J)->∀c∈cs',c.one=J)
inductive X2:D->D->Prop
 |same {d:D}:X2 d d
 |acc {k:Nat} {xs:List V}:X2 (.acc k xs) (.v (.list xs))
 |nils:X2 (.v .nils) (.v (.list []))
 |rawnil:X2 (.raw (.slice none 0 0)) (.v .nils)
 |rv {x:V} {u:yz}:X2 (.rv x u) (.v x)
theorem X2.rep{d d':D}(h:X2 d d'){g:Gh}{u:yz}(hr:Ah g d u):Ah g d' u:=by
 cases h<;>grind[Ah,Dm,E2]
theorem X2.one{d d':D}(h:X2 d d')(h1:d.one=J):d'.one=J:=by
 cases h with
 |same=>exact h1
 |acc=>rfl
 |nils=>rfl
 |rawnil=>rfl
 |rv=>grind[D.one]
inductive ZH:List D->List D->Prop
 |nil:ZH [] []
 |cons {d d':D} {cs cs':List D} (h:X2 d d') (hs:ZH cs cs'):ZH (d::cs) (d'::cs')
theorem ZH.sees:∀{cs cs':List D},ZH cs cs'->um cs cs'
 |_,_,.nil=>⟨fun _ _ h=>h,fun h=>h⟩
 |_,_,.cons h hs=>by
  refine⟨fun g us hr=>?_,fun h1 c hc=>?_⟩
  ·simp only[Ag] at hr⊢
   obtain⟨u,us',e,h2,h3⟩:=hr
   exact⟨u,us',e,h.rep h2,hs.sees.1 g us' h3⟩
  ·rcases IN.1 hc with e|hc
   ·rw[e];exact h.one (h1 _ (List.mem_cons_self))
   ·exact hs.sees.2 (fun c hc=>h1 c (List.mem_cons_of_mem _ hc)) c hc
theorem ZH.refl:∀cs:List D,ZH cs cs
 |[]=>.nil
 |_::cs=>.cons .same (ZH.refl cs)
theorem ZH.set{d d':D}(h:X2 d d'):∀{cs:List D} {j:Nat},cs[j]?=G d->ZH cs (cs.set j d')
 |[],j,hj=>by simp at hj
 |c::cs,0,hj=>by simp at hj;subst hj;exact .cons h (ZH.refl cs)
 |c::cs,j+1,hj=>by simp at hj;exact .cons .same (ZH.set h hj)
theorem gd{P:x7}{o:yy}{ds ds':List D}{σ σ':St}{d:D}(hs:ZH ds ds')(h:Ak P o ds' σ d σ'):Ak P o ds σ d σ':=fun E g a w K Q hw hds hK=>h E g a w K Q hw (hs.sees.1 g _ hds) hK
theorem ApB{env:List D}{σ:St}{q:Nat}{cs cs':List D}(hq:σ.H[q]?=G (G cs))(h:um cs cs'):Cv env σ env ⟨σ.H.set q (G cs'),σ.own⟩:=fun E g a w hf=>by
 obtain⟨_,_,_,_,_,h1,_⟩:=hf.wi.rep.obj q cs hq
 exact⟨g,hf.wi.review hq (fun us hr=>h.1 g us hr) (h.2 h1),hf.env,hf.defers⟩
theorem Aiu{env:List D}{σ:St}(q j k sz:Nat){cs:List D}(hq:σ.H[q]?=G (G cs))(hj:cs[j]?=G (.v .nils))(hk:∀x∈σ.own,x.1≠k)(hsz:0<sz):
  Cv env σ env ⟨σ.H.set q (G (cs.set j (.acc k []))),(k,sz,[])::σ.own⟩:=fun E g a w hf=>by
 obtain⟨hw1,hle1⟩:=hf.wi.addOwn (k:=k) (sz:=sz) (xs:=[]) (u:=.slice none 0 0) hk ⟨hsz,by simp⟩ (E2 _) (.inl ⟨none,rfl⟩) (fun b hb=>by grind[Co])
 obtain⟨_,_,_,_,_,h1,_⟩:=hf.wi.rep.obj q cs hq
 have hw2:=hw1.review (cs':=cs.set j (.acc k [])) hq (fun us hr=>by
  obtain⟨u,hu,hru⟩:=B7 hr hj
  simp only[Ah,Dm] at hru
  subst hru
  have:=CB hr j (d:=.acc k []) (u:=.slice none 0 0) (by grind[Ah,E2])
  grind[D4]) (fun c hc=>by
  grind[D.one])
 exact⟨_,hw2,Ag.mono hle1 _ _ hf.env,hf.defers⟩
theorem EQ{g:Gh}{sz:Nat}:∀{ys:List V} {us:List yz},repE g.M sz ys us->Ag g ((ys.flatMap V.cellsV).map .v) us/\∀c∈ (ys.flatMap V.cellsV).map bt,c.one=J
 |[],us,h=>by simp only[repE] at h;subst h;simp[Ag]
 |y::ys,us,h=>by
  simp only[repE] at h
  obtain⟨u1,u2,rfl,hl,h1,h2⟩:=h
  obtain⟨h3,h4⟩:=EQ h2
  have hA:repA g.M y.cellsV u1:=by
   cases hy:y.isAgg with
   |true=>
    cases y with
    |agg cs=>simpa only[V.cellsV,repC] using h1
    |_=>simp[V.isAgg] at hy
   |false=>
    obtain⟨u',e1,_,_⟩:=De hy h1
    have e:y.cellsV=[y]:=by cases y<;>simp_all [V.cellsV,V.isAgg]
    rw[e,e1]
    simp only[repA]
    exact⟨u',[],rfl,hy,by rw[←e1];exact h1,rfl⟩
  obtain⟨h5,h6⟩:=D7 (g:=g) hA
  refine⟨by simpa using Au h5 h3,fun c hc=>?_⟩
  simp only[List.flatMap_cons,J5,IV] at hc
  rcases hc with hc|hc
  ·exact h6 c hc
  ·exact h4 c hc
section
variable {P : x7} {o : yy} {σ : St} {d : D}
theorem Tq{E:c9}{g:Gh}{w:x5}(hw:WI E g σ w){t ty e:x6}{sz by':Nat}{z:yz}(hs:BW P t=G (e,sz,by',G z))(hzc:z.cells.size=sz)
  {q len n cap cap2:Nat} {cs cs2:List D} {vs:List yz} {ad:Addr} (hq:σ.H[q]?=G (G cs)) (hl:I cs=len*sz) (hvl0:I vs=n*sz) (hr2:Ag g cs2 vs) (h12:∀c∈cs2,c.one=J) (hnews:∀j u,vs[j]?=G u->w.cell? (ad.add j)=G u)
  (_hcap:len<=cap) (hκ:cap*sz=g.κ q) (_hpos:0<n) (hlen:(len+n)*by'<=140737488355328) (hlen2:len+n<=140737488355328):
  ∃u' w' g',(Builtin.append_ #[t,t] ty #[.slice (G ⟨g.β q,0,none⟩) len cap,.slice (G ad) n cap2]).run P w=.ok u' w'/\
   WI E g' ⟨σ.H.set q none++[G (cs++cs2)],σ.own⟩ w'/\g.le g'/\Ah g' (.gro (I σ.H) (len+n) sz) u':=by
 obtain⟨i,ht,hi,hisz,hib,hiz⟩:=AF hs
 obtain⟨us,rest,et,hb,hr,h1,hM,hκ1⟩:=hw.rep.obj q cs hq
 have hul:I us=len*sz:=by grind[A3]
 have hvl:I vs=n*i.size:=by grind
 have holds:∀j u,us[j]?=G u->w.cell? ((⟨g.β q,0,none⟩:Addr).add j)=G u:=fun j u hj=>by
  grind[World.cell?,Addr.add]
 have hone:∀u∈vs,u.oneCell'=J:=Cy h12 hr2
 have hcs:∀c∈cs++cs2,c.one=J:=fun c hc=>by
  grind
 by_cases hroom:len+n<=cap
 ·have hfit:len*i.size+I vs<=(us++rest).toArray.size:=by
   rw[J4,hκ1, ←hκ,hvl,hisz, ←J1]
   exact Nat.mul_le_mul_right _ hroom
  have hrun:=ee (P:=P) w t ty e et i ht hi (g.β q) len cap (us++rest).toArray hb ad n cap2 vs hvl hnews hone hroom hfit
  have hrow:(us++rest).toArray.toList.take (len*i.size)++vs++(us++rest).toArray.toList.drop (len*i.size+I vs)=(us++vs)++rest.drop (I vs):=by
   simp only[hisz, ←hul]
   rw[List.take_left',List.drop_append,I3 (by omega)]<;>simp
  rw[hrow] at hrun
  have hlen3:I ((us++vs)++rest.drop (I vs))=g.κ q:=by
   grind
  have hw1:=hw.setObj (cs':=cs++cs2) (w':=w.setRow (g.β q) ((us++vs)++rest.drop (I vs)).toArray) hq (us:=us++vs) (rest:=rest.drop (I vs)) (e:=et) (setRow_heap w _ _ _ et _ hb) hlen3 (Au hr hr2) hcs (fun b hb=>setRow_other w _ _ _ hb) (by simp) rfl rfl rfl
  have hq':(σ.H.set q (G (cs++cs2)))[q]?=G (G (cs++cs2)):=by
   grind
  obtain⟨g',h3,h4,h5,h6,h7⟩:=hw1.rename (q:=q) hq'
  grind[List.set_set,Ah]
 ·have hfitc:Builtin.nextslicecap (len+n) cap*i.bytes<=281474976710656:=growslice_fits (by omega) (by grind)
  have hrun:=run_append_grow (P:=P) w t ty e i z ht hi hiz ⟨g.β q,0,none⟩ len cap us (by grind) holds ad n cap2 vs hvl hnews (by omega) (by omega) hfitc
  have hge:=grownCap_ge w (len+n) cap e
  have hcell:us.toArray++vs.toArray++Builtin.zeroCells z.cells (grownCap w (len+n) cap e- (len+n))=((us++vs)++(Builtin.zeroCells z.cells (grownCap w (len+n) cap e- (len+n))).toList).toArray:=by
   grind
  rw[hcell] at hrun
  obtain⟨g',h3,h4,h5,h6,h7⟩:=(hw.drew.kill hq).newObjR (us:=us++vs) (rest:=(Builtin.zeroCells z.cells (grownCap w (len+n) cap e- (len+n))).toList) (cs:=cs++cs2) e (Au hr hr2) hcs
  simp only[length_set] at h3 h5 h6 h7
  refine⟨_,_,g',hrun,h3,h4,?_⟩
  simp only[Ah]
  refine⟨by omega,_,hge,?_,by simp_all⟩
  rw[h6]
  simp only[HY,IK,size_zeroCells,hzc,hul,hvl,hisz, ←J1]
  grind
def Ab(ys:List V):List D:=(ys.flatMap V.cellsV).map .v
theorem N3{x y:x8}{t:x6}(ho:o.op=.call { callee:=.builtin .append,args:= #[x,y],argTypes:= #[t,t]}){e:x6}{sz by':Nat}{z:yz}(hs:BW P t=G (e,sz,by',G z))(hzc:z.cells.size=sz)(hsz:0<sz)
  {q len:Nat} {cs:List D} {ys:List V} (hq:σ.H[q]?=G (G cs)) (hl:I cs=len*sz) (hys:∀y∈ys,y.size=sz) (hpos:ys≠ []) (hlen:(len+I ys)*by'<=140737488355328) (hlen2:len+I ys<=140737488355328):
  Ak P o [.gro q len sz,.v (.list ys)] σ (.gro (I σ.H) (len+I ys) sz) ⟨σ.H.set q none++[G (cs++Ab ys)],σ.own⟩:=by
 intro E g a w K Q hw hds hK
 simp only[ho,Op.operands,Call.operands] at hds
 obtain⟨u,v,eq,hu,hv⟩:=Ax.1 (by simpa using hds)
 simp only[HX,IL] at eq
 simp only[Ah] at hu hv
 obtain⟨hqn,cap,hcap,hκ,rfl⟩:=hu
 obtain⟨ad,cap2,rfl,hc2,hor⟩:=Cm hv hys hsz
 rcases hor with h|⟨b,off,us,rfl,hin,hE⟩
 ·grind
 obtain⟨h5,h6⟩:=EQ hE
 obtain⟨u',w',g',hrun,hw',hle,hd⟩:=Tq (ty:=o.type) (cap2:=cap2) hw hs hzc hq hl (Cd hE) h5 h6 (EU hw hin) hcap hκ (length_pos_iff.2 hpos) hlen hlen2
 have:=hK g' w' u' hw' hle hd
 unfold Oper.wp execOp
 simp only[ho,resolve,invoke,builtin,Sem.run_bind,Sem.run_pure,Result.andThen_ok,List.map_toArray,I9,Jo,eq.1,eq.2,hrun]
 exact this
theorem Ma{x y:x8}{t:x6}(ho:o.op=.call { callee:=.builtin .append,args:= #[x,y],argTypes:= #[t,t]}){e:x6}{sz by':Nat}{z:yz}(hs:BW P t=G (e,sz,by',G z))(hzc:z.cells.size=sz)(hsz:0<sz)
  {ys:List V} (hys:∀y∈ys,y.size=sz) (hpos:ys≠ []) (hlen:I ys*by'<=140737488355328) (hlen2:I ys<=140737488355328):
  Ak P o [.v .nils,.v (.list ys)] σ (.gro (I σ.H) (I ys) sz) ⟨σ.H++[G (Ab ys)],σ.own⟩:=by
 intro E g a w K Q hw hds hK
 simp only[ho,Op.operands,Call.operands] at hds
 obtain⟨u,v,eq,hu,hv⟩:=Ax.1 (by simpa using hds)
 simp only[HX,IL] at eq
 simp only[Ah,Dm] at hu hv
 subst hu
 obtain⟨ad,cap2,rfl,hc2,hor⟩:=Cm hv hys hsz
 rcases hor with h|⟨b,off,us,rfl,hin,hE⟩
 ·grind
 obtain⟨h5,h6⟩:=EQ hE
 obtain⟨i,ht,hi,hisz,hib,hiz⟩:=AF hs
 have hvl:I us=I ys*i.size:=by grind[Cd]
 have hrun:=run_append_nil (P:=P) w t o.type e i z ht hi hiz ⟨b,off,none⟩ (I ys) cap2 us hvl (EU hw hin) (length_pos_iff.2 hpos) (by omega) (by grind)
 have hge:=grownCap_ge w (I ys) 0 e
 have hcell:us.toArray++Builtin.zeroCells z.cells (grownCap w (I ys) 0 e-I ys)=(us++(Builtin.zeroCells z.cells (grownCap w (I ys) 0 e-I ys)).toList).toArray:=by
  grind
 rw[hcell] at hrun
 obtain⟨g',h3,h4,h5',h6',h7⟩:=hw.drew.newObjR (us:=us) (rest:=(Builtin.zeroCells z.cells (grownCap w (I ys) 0 e-I ys)).toList) (cs:=Ab ys) e h5 h6
 have hd:Ah g' (.gro (I σ.H) (I ys) sz) (.slice (G ⟨w.heap.size,0,none⟩) (I ys) (grownCap w (I ys) 0 e)):=by
  simp only[Ah]
  refine⟨by omega,_,hge,?_,by simp_all⟩
  rw[h6']
  simp only[HY,IK,size_zeroCells,hzc,hvl,hisz, ←J1]
  grind
 have:=hK g' _ _ h3 h4 hd
 unfold Oper.wp execOp
 simp only[ho,resolve,invoke,builtin,Sem.run_bind,Sem.run_pure,Result.andThen_ok,List.map_toArray,I9,Jo,eq.1,eq.2,hrun]
 exact this
end
def GJ(L:Nat->Option (List D)):Nat->D->V->Prop
 |0,d,x=>∃d',X2 d d'/\d'.toV=G x
 |n+1,d,x=>(∃d',X2 d d'/\d'.toV=G x)∨
  (∃o off cs x',d=.ptr o off/\x=.ref x'/\L o=G cs/\∀j y,x'.cellsV[j]?=G y->y.isAgg=O/\∃c,cs[off+j]?=G c/\GJ L n c y)∨
  (∃o off sz cs xs,(d=.arr o off (I xs)∨(∃sz',d=.gro o (I xs) sz'/\off=0))/\x=.list xs/\0<sz/\(∀y∈xs,y.size=sz)/\L o=G cs/\∀j y,(xs.flatMap V.cellsV)[j]?=G y->y.isAgg=O/\∃c,cs[off+j]?=G c/\GJ L n c y)
theorem U6{M:c6}:∀{ys:List V} {us:List yz},I us=I ys->(∀(j:Nat) (y:V),ys[j]?=G y->y.isAgg=O/\∃v,us[j]?=G v/\repV M y v)->repA M ys us
 |[],us,hl,_=>by simp only[repA];exact List.eq_nil_of_length_eq_zero (by simpa using hl)
 |y::ys,[],hl,_=>by simp at hl
 |y::ys,u::us,hl,h=>by
  simp only[repA]
  obtain⟨h1,v,h2,h3⟩:=h 0 y rfl
  simp at h2;subst h2
  exact⟨u,us,rfl,h1,(BP h1).1 h3,U6 (by simpa using hl) (fun j y' hj=>by have:=h (j+1) y' (by simpa using hj);simpa using this)⟩
theorem Kq{M:c6}{x:V}{us:List yz}(h:repA M x.cellsV us):repC M x us:=by
 cases x<;>grind[V.cellsV,repC,repA]
theorem QW(x:V):I x.cellsV=x.size:=by cases x<;>simp[V.cellsV,V.size]
theorem E3{M:c6}{sz:Nat}:∀{xs:List V} {us:List yz},(∀y∈xs,y.size=sz)->repA M (xs.flatMap V.cellsV) us->repE M sz xs us
 |[],us,_,h=>by simpa[repA,repE] using h
 |x::xs,us,hs,h=>by
  simp only[List.flatMap_cons] at h
  have h1:=KM h (I x.cellsV)
  have h2:=KN h (I x.cellsV)
  rw[List.take_left] at h1
  rw[List.drop_left] at h2
  simp only[repE]
  have hl:I (us.take (I x.cellsV))=I x.cellsV:=Eg h1
  exact⟨us.take (I x.cellsV),us.drop (I x.cellsV),(List.take_append_drop _ _).symm,by rw[hl,QW];exact hs x List.mem_cons_self,Kq h1,E3 (fun y hy=>hs y (List.mem_cons_of_mem _ hy)) h2⟩
theorem So{g:Gh}{M':c6}{L:Nat->Option (List D)}(hM:g.M.le M')(hL:∀o cs,L o=G cs->∃us,Ag g cs us/\f9 M' (g.β o) 0 us):∀(n:Nat) (d:D) (x:V) (u:yz),GJ L n d x->Ah g d u->repV M' x u:=by
 have base:∀(d:D) (x:V) (u:yz),(∃d',X2 d d'/\d'.toV=G x)->Ah g d u->repV M' x u:=by
  rintro d x u ⟨d',h1,h2⟩ hr
  exact(Lz h2 (h1.rep hr)).mono hM
 intro n
 induction n with
 |zero=>grind[GJ]
 |succ n ih=>
  intro d x u h hr
  have cells:∀(o off:Nat) (cs:List D) (ys:List V),L o=G cs->(∀(j:Nat) (y:V),ys[j]?=G y->y.isAgg=O/\∃c,cs[off+j]?=G c/\GJ L n c y)->∃ws,f9 M' (g.β o) off ws/\repA M' ys ws:=by
   intro o off cs ys ho hys
   obtain⟨us,h1,h2⟩:=hL o cs ho
   have hlen:off+I ys<=I us∨ys=[]:=by
    by_cases hn:ys=[]
    ·grind
    ·left
     have hp:0<I ys:=length_pos_iff.2 hn
     obtain⟨_,c,hc,_⟩:=hys (I ys-1) (ys[I ys-1]'(by omega)) (HK (by omega))
     grind[A3]
   refine⟨(us.drop off).take (I ys),?_,?_⟩
   all_goals grind[U6,B7,f9]
  simp only[GJ] at h
  rcases h with h|⟨o,off,cs,x',rfl,rfl,ho,hc⟩|⟨o,off,sz,cs,xs,hd,rfl,hsz,hss,ho,hc⟩
  ·grind
  ·obtain⟨ws,h1,h2⟩:=cells o off cs _ ho hc
   grind[Ah,DO,Kq]
  ·obtain⟨ws,h1,h2⟩:=cells o off cs _ ho hc
   have hE:=E3 hss h2
   grind[B6,Ah]
def V.flat:V->Bool
 |.int .. |.bool _|.str _|.nilfn|.nilp|.nils=>true
 |_=>false
mutual
def D.bor:D->D
 |.v x=>if x.flat then .v x else .undef
 |.tup ds=>.tup (D.bors ds)
 |_=>.undef
def D.bors:List D->List D
 |[]=>[]
 |d::ds=>d.bor::D.bors ds
end
theorem Ab8{M M':c6}{x:V}{u:yz}(hx:x.flat=J)(h:repV M x u):repV M' x u:=by
 cases x<;>simp_all [V.flat]
mutual
theorem Wj{g g':Gh}:∀{d:D} {u:yz},Ah g d u->Ah g' d.bor u
 |.v x,u,h=>by
  simp only[D.bor]
  split
  ·simp only[Ah] at h⊢;exact Ab8 (by assumption) h
  ·simp only[Ah]
 |.tup ds,u,h=>by
  simp only[D.bor,Ah] at h⊢
  obtain⟨us,e,h1⟩:=h
  exact⟨us,e,RS h1⟩
 |.acc ..,u,h=>by simp only[D.bor,Ah]
 |.ptr ..,u,h=>by simp only[D.bor,Ah]
 |.arr ..,u,h=>by simp only[D.bor,Ah]
 |.gro ..,u,h=>by simp only[D.bor,Ah]
 |.raw ..,u,h=>by simp only[D.bor,Ah]
 |.rv ..,u,h=>by simp only[D.bor,Ah]
 |.dagg ..,u,h=>by simp only[D.bor,Ah]
 |.dfn ..,u,h=>by simp only[D.bor,Ah]
 |.err,u,h=>by simp only[D.bor,Ah]
 |.undef,u,h=>by simp only[D.bor,Ah]
theorem RS{g g':Gh}:∀{ds:List D} {us:List yz},Ag g ds us->Ag g' (D.bors ds) us
 |[],us,h=>by simpa only[D.bors,Ag] using h
 |d::ds,us,h=>by
  simp only[D.bors,Ag] at h⊢
  obtain⟨u,us',e,h1,h2⟩:=h
  exact⟨u,us',e,Wj h1,RS h2⟩
end
inductive Ri (L:Nat->Option (List D)):List D->List V->Prop
 |nil:Ri L [] []
 |cons {n:Nat} {d:D} {x:V} {ds:List D} {xs:List V} (h:GJ L n d x) (hs:Ri L ds xs):Ri L (d::ds) (x::xs)
 |fn {f:yx} {cs:List D} {ys:List V} {ds:List D} {xs:List V} (h:Ri L cs ys) (hs:Ri L ds xs):Ri L (.dfn f [] cs::ds) (.fn f [] ys::xs)
theorem Ri.rep{g:Gh}{M':c6}{L:Nat->Option (List D)}(hM:g.M.le M')(hL:∀o cs,L o=G cs->∃us,Ag g cs us/\f9 M' (g.β o) 0 us){gc:Gh}(hgc:gc.M=M'):∀{ds:List D} {xs:List V} {us:List yz},Ri L ds xs->Ag g ds us->Ag gc (xs.map .v) us
 |_,_,us,.nil,h=>by grind[Ag]
 |_,_,us,.cons h hs,hr=>by
  simp only[Ag,I9,Ah] at hr⊢
  obtain⟨u,us',e,h1,h2⟩:=hr
  exact⟨u,us',e,by grind[So],hs.rep hM hL hgc h2⟩
 |_,_,us,.fn h hs,hr=>by
  simp only[Ag,I9,Ah] at hr⊢
  obtain⟨u,us',e,⟨u1,u2,e2,rfl,h2⟩,h3⟩:=hr
  refine⟨u,us',e,Kz.2 ⟨[],u2,e2,by rfl,Qk (Gq _) (h.rep hM hL hgc h2)⟩,hs.rep hM hL hgc h3⟩
section
variable {P : x7} {o : yy} {σ : St} {d : D}
theorem AgX{c:Call}{fo:x8}(ho:o.op=.call c)(hc:c.callee=.value fo){f:yx}{fs cs:List V}{ds:List D}{xs:List V}{d0:D}(hl:Ri (fun o=>(σ.H[o]?).join) ds xs)(hd:d0.bor=d)
  (hspec:Aa P f (fs.map .v++xs.map .v++cs.map .v) ⟨[],[]⟩ d0 ⟨[],[]⟩):Ak P o (.v (.fn f fs cs)::ds) σ d σ:=by
 subst hd
 intro E g a w K Q hw hds hK
 obtain⟨us,vs,ws,hf,hargs,h1,h2,h3⟩:=DZ ho hc hds
 let M':c6:=fun b o=>w.cell? ⟨b,o,none⟩
 let gc:Gh:={ M:=M',β:=g.β,n:=0,ι:=fun _ _=>none,κ:=g.κ }
 have hM:g.M.le M':=fun b o v h=>hw.rep.mem b o v h
 have hrep:dh gc ⟨[],[]⟩ w:={ n:=rfl,mem:=fun _ _ _ h=>h,obj:=fun i cs hi=>by grind,inj:=fun i j cs ds hi=>by grind,own:=fun k sz xs hx=>by grind,tags:=by simp,sep:=fun x hx=>by grind,ownObj:=fun x hx=>by grind,fresh:=fun _ _ _=>rfl,gl:=hw.rep.gl.mono hM,gw:=hw.rep.gw }
 have hL:∀o cs,(σ.H[o]?).join=G cs->∃us,Ag g cs us/\f9 M' (g.β o) 0 us:=by
  intro o cs ho
  have ho':σ.H[o]?=G (G cs):=by
   grind
  obtain⟨us,rest,e,hb,hr,_⟩:=hw.rep.obj o cs ho'
  grind[World.cell?,f9]
 have hmono:∀(l:List V) (us:List yz),Ag g (l.map .v) us->Ag gc (l.map .v) us:=by
  intro l
  induction l with
  |nil=>grind[Ag]
  |cons x l ih=>
   intro us h
   simp only[I9,Ag,Ah] at h⊢
   obtain⟨u,us',e,h4,h5⟩:=h
   exact⟨u,us',e,h4.mono hM,ih _ h5⟩
 refine GE (_E:=E) (_g:=g) ho hc hspec.1 hf hargs ?_
 refine Calls.mono (hspec.2 gc w _ hrep (Au (Au (hmono _ _ h1) (hl.rep hM hL rfl h3)) (hmono _ _ h2))) ?_
 rintro e w' ⟨r,gc',rfl,hw',hr⟩
 refine⟨r,rfl,hK g w' r ?_ g.le_refl (Wj hr)⟩
 refine hw.grow (c6.le_refl _) (fun b hb=>⟨(hw'.keep b hb F1).1,fun _=>rfl⟩) (fun b o v hm=>?_) hw'.size hw'.os hw'.tape hw'.output (drawn:=hw'.drawn)
 have hlt:=hw.rep.mem_lt hm
 have:=hw.rep.mem b o v hm
 simp only[World.cell?] at this⊢
 rw[(hw'.keep b hlt F1).1];omega
end
def NC(F:List Nat)(H:List (Option (List D))):List (Option (List D)):=F.foldl (fun H q=>H.set q none) H
theorem Md:∀(F:List Nat) (H:List (Option (List D))),I (NC F H)=I H
 |[],H=>rfl
 |q::F,H=>by simp only[NC,J3];exact(Md F _).trans (by simp)
theorem Gj:∀(F:List Nat) (H:List (Option (List D))) {i:Nat} {cs:List D},(NC F H)[i]?=G (G cs)->i∉F/\H[i]?=G (G cs)
 |[],H,i,cs,h=>⟨by simp,h⟩
 |q::F,H,i,cs,h=>by
  simp only[NC,J3] at h
  obtain⟨h1,h2⟩:=Gj F _ h
  obtain⟨h3,h4⟩:=JO h2
  exact⟨by simp[h1,h3],h4⟩
inductive Fz (L:Nat->Option (List D)):List D->List D->Prop
 |nil:Fz L [] []
 |keep {d:D} {ds ds':List D} (hs:Fz L ds ds'):Fz L (d::ds) (d::ds')
 |view {n:Nat} {d:D} {x:V} {ds ds':List D} (h:GJ L n d x) (hs:Fz L ds ds'):Fz L (d::ds) (.v x::ds')
theorem Fz.rep{g g':Gh}{L:Nat->Option (List D)}(hg:g.le g')(hL:∀o cs,L o=G cs->∃us,Ag g cs us/\f9 g'.M (g.β o) 0 us):∀{ds ds':List D} {us:List yz},Fz L ds ds'->Ag g ds us->Ag g' ds' us
 |_,_,us,.nil,h=>by grind[Ag]
 |_,_,us,.keep hs,hr=>by
  simp only[Ag] at hr⊢
  obtain⟨u,us',e,h1,h2⟩:=hr
  exact⟨u,us',e,Ah.mono hg _ _ h1,hs.rep hg hL h2⟩
 |_,_,us,.view h hs,hr=>by
  simp only[Ag,Ah] at hr⊢
  obtain⟨u,us',e,h1,h2⟩:=hr
  exact⟨u,us',e,So hg.M hL _ _ _ _ h h1,hs.rep hg hL h2⟩
def EV(F:List Nat)(H:List (Option (List D)))(o:Nat):Option (List D):=if o∈F then(H[o]?).join else none
theorem Ane{E:c9}{g:Gh}{σ:St}{w:x5}(F:List Nat)(hw:WI E g σ w):∃g',g.le g'/\WI E g' ⟨NC F σ.H,σ.own⟩ w/\∀{env env':List D} {us:List yz},Fz (EV F σ.H) env env'->Ag g env us->Ag g' env' us:=by
 classical
 let X:Nat->Prop:=fun b=>∃i∈F,∃cs,σ.H[i]?=G (G cs)/\b=g.β i
 let M':c6:=fun b o=>if X b then w.cell? ⟨b,o,none⟩ else g.M b o
 have hXnone:∀b,X b->∀o,g.M b o=none:=by
  rintro b ⟨i,_,cs,hi,rfl⟩ o
  obtain⟨_,_,_,_,_,_,h,_⟩:=hw.rep.obj i cs hi
  grind
 have hle:g.M.le M':=fun b o v h=>by
  grind
 have hg:g.le { g with M:=M' }:=⟨hle,HR _,fun _ _=>rfl,fun _ _ _ h=>h,fun _ _=>rfl⟩
 have hXother:∀i cs,i∉F->σ.H[i]?=G (G cs)->¬X (g.β i):=by
  rintro i cs hi hH ⟨j,hj,cj,hcj,e⟩
  exact hi (by rw[hw.rep.inj i j _ _ hH hcj e];exact hj)
 have hXown:∀x∈σ.own,∀u,g.ι x.1 (I x.2.2)=G u->∀b,Co u=G b->¬X b:=by
  rintro x hx u hu b hb ⟨j,hj,cj,hcj,e⟩
  exact hw.rep.ownObj x hx u hu b hb j cj hcj e.symm
 refine⟨{ g with M:=M' },hg,?_,fun hz hr=>hz.rep hg (fun o cs ho=>?_) hr⟩
 ·refine hw.update X (fun b hb=>?_) (fun b _ hb=>⟨rfl,fun o=>by grind⟩) hle (HR _) (fun _ _=>rfl) (fun _ _=>rfl) (HR _) rfl rfl rfl ?_ (fun i cs hi=>hw.objs i cs (Gj F _ hi).2) hw.owns
  ·obtain⟨i,_,cs,hi,rfl⟩:=hb;exact hw.objs i cs hi
  ·refine⟨by rw[Md];exact hw.rep.n,fun b o v hm=>?_,fun i cs hi=>?_,fun i j c1 c2 hi hj=>hw.rep.inj i j _ _ (Gj F _ hi).2 (Gj F _ hj).2,fun k sz xs hx=>?_,hw.rep.tags,hw.rep.sep,fun x hx u hu b hb i cs hi=>hw.rep.ownObj x hx u hu b hb i cs (Gj F _ hi).2,hw.rep.fresh,hw.rep.gl.mono hle,hw.rep.gw⟩
   ·simp only[M'] at hm
    split at hm
    ·exact hm
    ·exact hw.rep.mem b o v hm
   ·obtain⟨h1,h2⟩:=Gj F _ hi
    obtain⟨us,rest,e,h3,h4,h5,h6,h7⟩:=hw.rep.obj i cs h2
    grind[Ag.mono]
   ·obtain⟨h0,u,hu,h3,h4,h5⟩:=hw.rep.own k sz xs hx
    exact⟨h0,u,hu,h3.mono hle,h4.kept fun b hb=>⟨rfl,fun o=>by grind⟩,h5⟩
 ·simp only[EV] at ho
  split at ho
  ·rename_i hF
   have ho':σ.H[o]?=G (G cs):=by
    grind
   obtain⟨us,rest,e,hb,hr,_⟩:=hw.rep.obj o cs ho'
   refine⟨us,hr,fun j v hj=>?_⟩
   simp only[M',I4 (show X (g.β o) from⟨o,hF,cs,ho',rfl⟩),World.cell?,hb,IT,List.getElem?_toArray]
   grind
  grind
theorem SQ{env env':List D}{σ:St}(F:List Nat)(hz:Fz (EV F σ.H) env env'):Cv env σ env' ⟨NC F σ.H,σ.own⟩:=fun E g a w hf=>by
 obtain⟨g',_,hw',hr⟩:=Ane F hf.wi
 exact⟨g',hw',hr hz hf.env,hf.defers⟩
section
variable {P : x7} {o : yy} {σ : St} {d : D}
theorem O0{t:x6}{len:Nat}{parts:Array (Nat×x8)}(ho:o.op=.buildSlice t len parts)(hp:parts.toList=((parts.toList.map (·.2)).zipIdx 0).map fun x=>(x.2,x.1))(hlen:parts.size=len)
  {e:x6} {sz by':Nat} {z:Option yz} (hs:BW P t=G (e,sz,by',z)) (hz:z.isSome=J) {ds:List D} {xs:List V} (hx:Fu ds=G xs) (hsz:∀x∈xs,x.size=sz) (h0:0<len) (h1:0<sz) (h2:len*sz<=1000)
  (k:Nat) (hk:∀x∈σ.own,x.1≠k):Ak P o ds σ (.acc k xs) ⟨σ.H,(k,sz,xs)::σ.own⟩:=by
 intro E g a w K Q hw hds hK
 simp only[ho,Op.operands] at hds
 obtain⟨i,hu,hi,rfl,rfl,rfl⟩:=AF hs
 obtain⟨zz,hzz⟩:=Option.isSome_iff_exists.1 hz
 have hlm:I (parts.toList.map fun p=>a.eval p.2)=len:=by grind
 have hds':Ag g ds (parts.toList.map fun p=>a.eval p.2):=by grind[Function.comp_def]
 obtain⟨hr,hcs⟩:=KC hx hds' hsz
 have hxl:I xs=len:=by rw[GF hx, ←A3 hds',hlm]
 have hpos:0<len*i.size:=Nat.mul_pos h0 h1
 have hf:=Ln i.size (parts.toList.map fun p=>a.eval p.2) 0 [] ((Array.range (len*i.size)).map (zz.cells[· %zz.cells.size]!)).toList (by simp) hcs (by grind)
 have hpp:((parts.toList.map fun p=>a.eval p.2).zipIdx 0).map (fun x=>(x.2,x.1))=parts.toList.map fun p=>(p.1,a.eval p.2):=by
  have e1:(parts.toList.map fun p=>a.eval p.2)=(parts.toList.map (·.2)).map a.eval:=by simp
  rw[e1,List.zipIdx_map,map_map]
  conv=>rhs;rw[hp,map_map]
  rfl
 rw[hpp] at hf
 simp only[List.nil_append,Array.toArray_toList] at hf
 have hrun:=run_buildSlice (P:=P) w t e len (parts.map fun p=>(p.1,a.eval p.2)) _ i zz hu hi hzz (by omega) (by omega) (by simpa using hf)
 generalize hus:(parts.toList.map fun p=>a.eval p.2).flatMap (·.cells.toList)=us at hr hrun
 obtain⟨hw1,hle1⟩:=hw.newImm us [] e
 rw[IX] at hw1
 have hul:I us=len*i.size:=by grind[Cd]
 have hrep:repV (X0 g.M w.heap.size us) (.list xs) (.slice (G ⟨w.heap.size,0,none⟩) len len):=by
  have:=CH (cap:=len) h1 (Rf g.M w.heap.size us) (repE.mono hle1.M _ _ _ hr) (by omega)
  grind
 have hperm:Perm (X0 g.M w.heap.size us) (w.alloc (.cells us.toArray e)) i.size (.slice (G ⟨w.heap.size,0,none⟩) len len):=
  .inr ⟨w.heap.size,0,len,len,us.toArray,e,rfl,heap_alloc_new w _,HR _,by grind,fun o ho'=>by grind[X0],hw.rep.gw.new (HR _)⟩
 have hb:∀b,Co (.slice (G ⟨w.heap.size,0,none⟩) len len)=G b->b=w.heap.size:=fun b hb=>by
  grind[Co]
 obtain⟨hw',hle⟩:=hw1.addOwn (k:=k) (sz:=i.size) (xs:=xs) hk ⟨h1,hsz⟩ hrep hperm (fun b hb'=>by
  rw[hb b hb']
  exact⟨hw.size,fun j cs hj=>Nat.ne_of_lt (hw.rep.obj_lt hj),fun x hx' u' hu' hb2=>by have:=hw.rep.own_lt hx' hu' hb2;omega⟩)
 have:=hK _ _ (.slice (G ⟨w.heap.size,0,none⟩) len len) hw' (Gh.le_trans hle1 hle) (by
  grind[Ah])
 unfold Oper.wp execOp
 simp only[ho]
 simp only[Sem.run_bind]
 rw[show(parts.map fun(x:Nat×x8)=>match x with|(i,x)=>(i,a.eval x))=parts.map fun p=>(p.1,a.eval p.2) from rfl,hrun]
 exact this
end
theorem Ao2(g:Gh)(k m0:Nat)(u':yz):({ g with ι:=fun k' m=>if k'=k then none else g.ι k' m }:Gh).le { g with ι:=fun k' m=>if k'=k then(if m=m0 then G u' else none) else g.ι k' m }:=by
 refine⟨c6.le_refl _,HR _,fun _ _=>rfl,fun k' m v h=>?_,fun _ _=>rfl⟩
 grind
theorem WI.subOwn{E:c9}{g:Gh}{σ:St}{w:x5}(hw:WI E g σ w){k sz:Nat}{xs ys:List V}{u u':yz}(hx:(k,sz,xs)∈σ.own)(hu:g.ι k (I xs)=G u)(hys:∀y∈ys,y.size=sz)(hr:repV g.M (.list ys) u')(hp:Perm g.M w sz u')
  (hb:∀b,Co u'=G b->Co u=G b) (hH:∀(i:Nat) (cs:List D),σ.H[i]?=G (G cs)->∀d∈cs,d.noTag k=J):
  WI E { g with ι:=fun k' m=>if k'=k then(if m=I ys then G u' else none) else g.ι k' m } ⟨σ.H,σ.own.map (FD k sz ys)⟩ w:=by
 have hle:({ g with ι:=fun k' m=>if k'=k then none else g.ι k' m }:Gh).le { g with ι:=fun k' m=>if k'=k then(if m=I ys then G u' else none) else g.ι k' m }:=by
  refine⟨c6.le_refl _,HR _,fun _ _=>rfl,fun k' m v h=>?_,fun _ _=>rfl⟩
  grind

 have was:∀y∈σ.own.map (FD k sz ys),(y=(k,sz,ys))∨(y∈σ.own/\y.1≠k):=fun y hy=>by
  grind[FD]
 have ιof:∀y∈σ.own.map (FD k sz ys),∀v,(if y.1=k then(if I y.2.2=I ys then G u' else none) else g.ι y.1 (I y.2.2))=G v->(y.1=k/\v=u')∨(y∈σ.own/\y.1≠k/\g.ι y.1 (I y.2.2)=G v):=fun y hy v h=>by
  grind
 refine{ rep:=⟨hw.rep.n,hw.rep.mem,fun i cs hi=>?_,hw.rep.inj,fun k' sz' xs' hx'=>?_,?_,fun x hx1 y hy hne v v' hv hv' b hb1=>?_,fun x hx1 v hv b hb1 i cs hi=>?_,fun k' hk' j=>?_,hw.rep.gl,hw.rep.gw⟩,M:=hw.M,size:=hw.size,keep:=hw.keep,os:=hw.os,tape:=hw.tape,output:=hw.output,nE:=hw.nE,βE:=hw.βE,κE:=hw.κE,objs:=hw.objs,owns:=fun x hx1 v hv b hb1=>?_,drawn:=hw.drawn }
 ·obtain⟨us,rest,e,h1,h2,h3,h4⟩:=hw.rep.obj i cs hi
  exact⟨us,rest,e,h1,Ag.mono hle _ _ (K1 (hH i cs hi) h2),h3,h4⟩
 ·rcases was _ hx' with e|⟨h1,h2⟩
  ·simp only[Prod.mk.injEq] at e
   obtain⟨rfl,rfl,rfl⟩:=e
   refine⟨⟨(hw.rep.own _ _ _ hx).1.1,hys⟩,u',by simp,hr,hp,fun m hm=>?_⟩
   grind
  ·obtain⟨h0,v,hv,h3,h4,h5⟩:=hw.rep.own k' sz' xs' h1
   grind
 ·simp only[map_map]
  rw[show((fun x:Nat×Nat×List V=>x.1) ∘FD k sz ys)=(fun x=>x.1) from funext fun x=>KK x]
  exact hw.rep.tags
 ·rcases ιof x hx1 v hv with⟨e1,rfl⟩|⟨m1,n1,i1⟩<;>rcases ιof y hy v' hv' with⟨e2,rfl⟩|⟨m2,n2,i2⟩
  ·omega
  ·exact hw.rep.sep _ hx y m2 (fun e=>n2 e.symm) u v' hu i2 b (hb b hb1)
  ·intro hb2
   exact hw.rep.sep x m1 _ hx n1 v u i1 hu b hb1 (hb b hb2)
  ·exact hw.rep.sep x m1 y m2 hne v v' i1 i2 b hb1
 ·rcases ιof x hx1 v hv with⟨e1,rfl⟩|⟨m1,n1,i1⟩
  ·exact hw.rep.ownObj _ hx u hu b (hb b hb1) i cs hi
  ·exact hw.rep.ownObj x m1 v i1 b hb1 i cs hi
 ·simp only
  split
  ·grind[KK]
  ·exact hw.rep.fresh k' (fun x hx1 e=>hk' _ (List.mem_map_of_mem hx1) (by grind[KK])) j
 ·rcases ιof x hx1 v hv with⟨e1,rfl⟩|⟨m1,n1,i1⟩
  ·exact hw.owns _ hx u hu b (hb b hb1)
  ·exact hw.owns x m1 v i1 b hb1
theorem Perm.drop{M:c6}{w:x5}{sz:Nat}{a:Option Addr}{len cap:Nat}(h:Perm M w sz (.slice a len cap)){l:Nat}(hl:l<=len):Perm M w sz (.slice (if cap=l then a else a.map (·.add (l*sz))) (len-l) (cap-l)):=by
 rcases h with⟨a',e⟩|⟨b,f,len',cap',cur,e',e,hh,hlc,hc,hM⟩
 ·grind[Perm]
 ·simp only[Value.slice.injEq] at e
  obtain⟨rfl,rfl,rfl⟩:=e
  by_cases hcl:cap=l
  ·subst hcl
   obtain rfl:len=cap:=by omega
   exact .inl ⟨G ⟨b,f,none⟩,by simp⟩
  ·rw[Iz hcl]
   refine .inr ⟨b,f+l*sz,len-l,cap-l,cur,e',by simp[Addr.add_lit],hh,by omega,?_,fun o ho=>hM o ?_,hM.ng⟩
   ·have:l*sz+(cap-l)*sz=cap*sz:=by rw[←J1];grind
    omega
   ·have:l*sz+(len-l)*sz=len*sz:=by rw[←J1];grind
    omega
section
variable {C : c9 -> c9 -> Prop} {P : x7} {R : List D -> St -> Prop} {c : Code} {p : List Nat} {κ : List KI} {env env1 env' : List D} {σ σ' : St} {i : Nat} {o : yy} {d : D}
end
theorem WI.trans{E:c9}{g g':Gh}{σ σ':St}{w w1 w':x5}(h:WI E g σ w)(hk:∀b,b<E.w.heap.size->¬E.priv b->w1.heap[b]?=w.heap[b]?)(hsz:w.heap.size<=w1.heap.size)(hos:w1.os=w.os)(htp:w1.tape=w.tape)(hou:w1.output=w.output)
  (h':WI ⟨g,w1,σ⟩ g' σ' w') (hdr:BV w.drawn w1.drawn:=by first|exact BV.refl _|exact BV.succ _|assumption):WI E g' σ' w' where
 rep:=h'.rep
 M:=c6.le_trans h.M h'.M
 size:=Jn h.size (Jn hsz h'.size)
 keep:=fun b hb hp=>by
  have hnp:¬c9.priv ⟨g,w1,σ⟩ b:=by
   rintro (⟨i,cs,hi,e⟩|⟨x,hx,u,hu,hb'⟩)
   ·have e':b=g.β i:=e
    rw[e'] at hb hp
    rcases h.objs i cs hi with h1|h1
    all_goals grind
   ·rcases h.owns x hx u hu b hb' with h1|h1
    all_goals grind
  have hlt:b<w1.heap.size:=by have:=h.size;omega
  obtain⟨h1,h2⟩:=h'.keep b hlt hnp
  obtain⟨h3,h4⟩:=h.keep b hb hp
  grind
 os:=h'.os.trans (hos.trans h.os)
 tape:=h'.tape.trans (htp.trans h.tape)
 output:=h'.output.trans (hou.trans h.output)
 drawn:=h.drawn.trans (hdr.trans h'.drawn)
 nE:=Jn h.nE h'.nE
 βE:=fun o ho=>(h'.βE o (J9 ho h.nE)).trans (h.βE o ho)
 κE:=fun o ho=>(h'.κE o (J9 ho h.nE)).trans (h.κE o ho)
 objs:=fun i cs hi=>by
  rcases h'.objs i cs hi with h1|h1
  ·left;have:=h.size;grind
  ·rcases h1 with⟨j,cj,hj,e⟩|⟨x,hx,u,hu,hb⟩
   ·rw[e];exact h.objs j cj hj
   ·exact h.owns x hx u hu _ hb
 owns:=fun x hx u hu b hb=>by
  rcases h'.owns x hx u hu b hb with h1|h1
  ·left;have:=h.size;grind
  ·rcases h1 with⟨j,cj,hj,e⟩|⟨y,hy,u',hu',hb'⟩
   ·rw[e];exact h.objs j cj hj
   ·exact h.owns y hy u' hu' b hb'
structure AeT(r:Nat)(o:Obj)(E:c9):Prop where
 at_:E.w.heap[r]?=G o
 priv:¬E.priv r
 mem:∀x,E.g.M r x=none
theorem AeT.now{r:Nat}{o:Obj}{E:c9}{g:Gh}{σ:St}{w:x5}(h:AeT r o E)(hw:WI E g σ w):w.heap[r]?=G o/\(∀x,g.M r x=none)/\(∀i cs,σ.H[i]?=G (G cs)->g.β i≠r)/\(∀x∈σ.own,∀u,g.ι x.1 (I x.2.2)=G u->Co u≠G r):=by
 have hlt:r<E.w.heap.size:=(Jm.1 h.at_).1
 obtain⟨h1,h2⟩:=hw.keep r hlt h.priv
 refine⟨h1.trans h.at_,fun x=>(h2 x).trans (h.mem x),fun i cs hi e=>?_,fun x hx u hu hb=>?_⟩
 ·rcases hw.objs i cs hi with h3|h3
  ·omega
  ·rw[e] at h3;exact h.priv h3
 ·rcases hw.owns x hx u hu r hb with h3|h3
  ·omega
  ·exact h.priv h3
theorem dh.side{g:Gh}{σ:St}{w:x5}(h:dh g σ w){r:Nat}(hM:∀x,g.M r x=none)(hobj:∀i cs,σ.H[i]?=G (G cs)->g.β i≠r)(CT:∀x∈σ.own,∀u,g.ι x.1 (I x.2.2)=G u->Co u≠G r)
  {w':x5} (hk:∀b,b≠r->w'.heap[b]?=w.heap[b]?):dh g σ w' where
 n:=h.n
 gl:=h.gl
 gw:=h.gw.keepG fun p hp _=>hk p.1 fun e=>by
  obtain⟨v,hv⟩:=h.gl.sized p hp
  grind
 mem:=fun b o v hm=>by
  have hne:b≠r:=fun e=>by grind
  have:=h.mem b o v hm
  grind[World.cell?]
 obj:=fun i cs hi=>by
  obtain⟨us,rest,e,h1,h2⟩:=h.obj i cs hi
  grind
 inj:=h.inj
 own:=fun k sz xs hx=>by
  obtain⟨h0,u,hu,h1,h2,h3⟩:=h.own k sz xs hx
  exact⟨h0,u,hu,h1,h2.kept fun b hb=>⟨hk b (fun e=>CT _ hx u hu (by grind)),fun _=>rfl⟩,h3⟩
 tags:=h.tags
 sep:=h.sep
 ownObj:=h.ownObj
 fresh:=h.fresh
structure vf(r:Nat)(o:Obj)(E0 E:c9):Prop where
 side:AeT r o E
 new:E0.w.heap.size<=r
 link:∀(g:Gh) (σ:St) (w:x5),WI E g σ w->WI E0 g σ w
section
variable {C : c9 -> c9 -> Prop} {P : x7} {R : List D -> St -> Prop} {c : Code} {p : List Nat} {k : List KI} {env env' : List D} {σ σ' : St} {i : Nat} {o : yy} {d : D}
theorem vf.of{E0:c9}{g:Gh}{w w1:x5}{r:Nat}{ob:Obj}(hw:WI E0 g σ w)(hk:∀b,b≠r->w1.heap[b]?=w.heap[b]?)(hr:w1.heap[r]?=G ob)(hsz:w.heap.size<=w1.heap.size)(hos:w1.os=w.os)(htp:w1.tape=w.tape)(hou:w1.output=w.output)(hEr:E0.w.heap.size<=r)
  (hM:∀x,g.M r x=none) (hobj:∀i cs,σ.H[i]?=G (G cs)->g.β i≠r) (CT:∀x∈σ.own,∀u,g.ι x.1 (I x.2.2)=G u->Co u≠G r) (hdr:BV w.drawn w1.drawn:=by first|exact BV.refl _|exact BV.succ _|assumption):
  vf r ob E0 ⟨g,w1,σ⟩/\WI ⟨g,w1,σ⟩ g σ w1:=by
 refine⟨⟨⟨hr,?_,hM⟩,hEr,fun g' σ' w' h'=>hw.trans (fun b hb _=>hk b (by omega)) hsz hos htp hou h'⟩,WI.start (hw.rep.side hM hobj CT hk)⟩
 grind[c9.priv]
end
def Hf:Nat->List (List UInt8)->List MapEntry
 |_,[]=>[]
 |n,s::l=>⟨.string ⟨s.toArray⟩,.bool true,n⟩::Hf (n+1) l
def D5(l:List (List UInt8)):Obj:=.map (Hf 0 l).toArray (I l)
theorem Ae6(a b:List UInt8):((⟨a.toArray⟩:ByteArray)==⟨b.toArray⟩)=(a==b):=by
 have:((⟨a.toArray⟩:ByteArray)==⟨b.toArray⟩)=(a.toArray==b.toArray):=rfl
 grind
theorem QH(s:List UInt8):∀(l:List (List UInt8)) (n m:Nat),∃q,Instr.findNow .string (.string ⟨s.toArray⟩) (Hf n l) m=G (if l.contains s then G (q,.bool true) else none)
 |[],n,m=>⟨0,by rfl⟩
 |x::l,n,m=>by
  obtain⟨q,hq⟩:=QH s l (n+1) (m+1)
  simp only[Hf,Instr.findNow,Instr.sameNow,Ae6,List.contains_cons]
  by_cases h:s=x
  ·simp_all
  ·have hb:(s==x)=O:=by grind
   simp only[hb,Bool.false_or]
   grind
theorem NX:∀(l:List (List UInt8)) (n:Nat) (s:List UInt8),Hf n (l++[s])=Hf n l++[⟨.string ⟨s.toArray⟩,.bool true,n+I l⟩]
 |[],n,s=>by simp[Hf]
 |x::l,n,s=>by simp only[JM,Hf,NX l (n+1) s,HP,Nat.add_assoc,Nat.add_comm 1]
section
variable {C : c9 -> c9 -> Prop} {P : x7} {R : List D -> St -> Prop} {c : Code} {p : List Nat} {k : List KI} {env env' : List D} {σ σ' : St} {i : Nat} {o : yy} {d : D}
end
section
variable {P : x7} {o : yy} {σ : St} {d : D}
theorem ST{E:c9}{g:Gh}{w:x5}(hw:WI E g σ w){t ty e:x6}{by':Nat}{z:Option yz}(hs:BW P t=G (e,1,by',z)){q:Nat}{cs:List D}(hq:σ.H[q]?=G (G cs)){off len cap sLen sCap:Nat}{a:Addr}{ds:List D}{vs:List yz}
  (hvs:Ag g ds vs) (h1:∀d∈ds,d.one=J) (hn:I ds=Nat.min sLen len) (hsrc:∀j v,vs[j]?=G v->w.cell? (a.add j)=G v) (hfit:off+I ds<=I cs):
  ∃w',(Builtin.copy_ #[t,t] ty #[.slice (G ⟨g.β q,off,none⟩) len cap,.slice (G a) sLen sCap]).run P w=.ok (goInt (I ds)) w'/\WI E g ⟨σ.H.set q (G (cs.take off++ds++cs.drop (off+I ds))),σ.own⟩ w':=by
 obtain⟨i,hu,hi,hsz,_⟩:=AF hs
 obtain⟨us,rest,et,hb,hr,hone,hM,hκ⟩:=hw.rep.obj q cs hq
 have hul:=A3 hr
 have hvl:=A3 hvs
 have hrun:=run_copy_row (P:=P) w t t ty e (g.β q) off len cap a sLen sCap (us++rest).toArray et vs hu (by grind) hb (by omega) hsrc (by grind) (Cy h1 hvs)
 rw[hvl] at hrun
 refine⟨_,hrun,?_⟩
 have e1:(us++rest).toArray.toList.take off++vs++(us++rest).toArray.toList.drop (off+I ds)=(us.take off++vs++us.drop (off+I ds))++rest:=by
  grind
 rw[e1]
 refine hw.setObj hq (us:=us.take off++vs++us.drop (off+I ds)) (rest:=rest) (setRow_heap w (g.β q) _ _ et _ hb) ?_ (Au (Au (Cn hr _) hvs) (Cz hr _)) ?_ (fun b hb'=>setRow_other w _ _ _ hb') (by simp) rfl rfl rfl
 all_goals grind
theorem Ab9{g:Gh}:∀{xs:List V} {us:List yz},(∀x∈xs,x.isAgg=O)->repE g.M 1 xs us->Ag g (xs.map .v) us
 |[],us,_,h=>by simpa[repE,Ag] using h
 |x::xs,us,hx,h=>by
  simp only[repE] at h
  obtain⟨ws,us',rfl,hl,h1,h2⟩:=h
  obtain⟨u,rfl,_⟩:=De (hx x (by simp)) h1
  simp only[I9,Ag,Ah]
  exact⟨u,us',rfl,(BP (hx x (by simp))).2 h1,Ab9 (fun y hy=>hx y (by simp[hy])) h2⟩
theorem AgV{x y:x8}{t:x6}(ho:o.op=.call { callee:=.builtin .copy,args:= #[x,y],argTypes:= #[t,t]}){e:x6}{by':Nat}{z:Option yz}(hs:BW P t=G (e,1,by',z)){q off len k:Nat}{cs:List D}(hq:σ.H[q]?=G (G cs)){xs:List V}
  (hx:∀x∈xs,x.size=1/\x.isAgg=O) (hk:k=Nat.min (I xs) len) (h0:0<k) (hfit:off+k<=I cs):
  Ak P o [.arr q off len,.v (.list xs)] σ (.v (.int .i64 (k:Int))) ⟨σ.H.set q (G (cs.take off++(xs.take k).map .v++cs.drop (off+k))),σ.own⟩:=by
 intro E g a w K Q hw hds hK
 simp only[ho,Op.operands,Call.operands] at hds
 obtain⟨u,v,eq,h1,h2⟩:=Ax.1 (by simpa using hds)
 simp only[HX,IL] at eq
 simp only[Ah] at h1 h2
 obtain⟨_,cap,_,rfl⟩:=h1
 obtain⟨a2,c2,rfl,hc2,hor⟩:=Cm h2 (fun x hx'=>(hx x hx').1) (by decide)
 have hkx:k<=I xs:=by grind
 rcases hor with rfl|⟨b2,off2,us2,rfl,hin,hE⟩
 ·grind
 have hd2:=Cn (Ab9 (fun x hx'=>(hx x hx').2) hE) k
 rw[←List.map_take] at hd2
 have hlen:I ((xs.take k).map bt)=k:=by grind
 obtain⟨w',hrun,hw'⟩:=ST (P:=P) (ty:=o.type) hw hs hq (off:=off) (len:=len) (cap:=cap) (a:=⟨b2,off2,none⟩) (sLen:=I xs) (sCap:=c2) hd2 (fun d hd=>by
   grind[D.one]) (by omega) (fun j v hj=>EU hw hin j v (by grind)) (by omega)
 rw[hlen] at hrun hw'
 have:=hK g w' (goInt k) hw' g.le_refl (by simp[Ah,AC,goInt])
 unfold Oper.wp execOp
 simp only[ho,resolve,invoke,builtin,Sem.run_bind,Sem.run_pure,Result.andThen_ok]
 grind[Oper.upon,Result.andThen]
theorem AgW{x y:x8}{t:x6}(ho:o.op=.call { callee:=.builtin .copy,args:= #[x,y],argTypes:= #[t,t]}){e:x6}{by':Nat}{z:Option yz}(hs:BW P t=G (e,1,by',z)){q off len off2 len2 k:Nat}{cs:List D}(hq:σ.H[q]?=G (G cs))
  (hk:k=Nat.min len2 len) (hfit:off+k<=I cs) (hfit2:off2+k<=I cs):
  Ak P o [.arr q off len,.arr q off2 len2] σ (.v (.int .i64 (k:Int))) ⟨σ.H.set q (G (cs.take off++(cs.drop off2).take k++cs.drop (off+k))),σ.own⟩:=by
 intro E g a w K Q hw hds hK
 simp only[ho,Op.operands,Call.operands] at hds
 obtain⟨u,v,eq,h1,h2⟩:=Ax.1 (by simpa using hds)
 simp only[HX,IL] at eq
 simp only[Ah] at h1 h2
 obtain⟨_,cap,_,rfl⟩:=h1
 obtain⟨_,c2,_,rfl⟩:=h2
 obtain⟨us,rest,et,hb,hr,hone,hM,hκ⟩:=hw.rep.obj q cs hq
 have hlen:I ((cs.drop off2).take k)=k:=by grind
 have hul:=A3 hr
 obtain⟨w',hrun,hw'⟩:=ST (P:=P) (ty:=o.type) hw hs hq (off:=off) (len:=len) (cap:=cap) (a:=⟨g.β q,off2,none⟩) (sLen:=len2) (sCap:=c2) (Cn (Cz hr off2) k) (fun d hd=>hone d (IY (J6 hd))) (by omega) (fun j v hj=>by
   grind[World.cell?,Addr.add]) (by omega)
 rw[hlen] at hrun hw'
 have:=hK g w' (goInt k) hw' g.le_refl (by simp[Ah,AC,goInt])
 unfold Oper.wp execOp
 simp only[ho,resolve,invoke,builtin,Sem.run_bind,Sem.run_pure,Result.andThen_ok]
 grind[Oper.upon,Result.andThen]
theorem Nt{t:x6}{x:x8}{lo hi:Option x8}(ho:o.op=.slice t x lo hi none){e:x6}{by':Nat}{z:Option yz}(hs:BW P t=G (e,1,by',z)){q off len:Nat}
  (l h:Option (yv×Int)) (hlo:lo.isSome=l.isSome) (hhi:hi.isSome=h.isSome) {l' h':Nat} (hb:C8 len (l.map (·.2)) (h.map (·.2))=G (l',h')) (hlt:l'<len):
  Ak P o (.arr q off len::(Fk l++Fk h)) σ (.arr q (off+l') (h'-l')) σ:=by
 refine A8 fun E g ρ w hw hds=>?_
 obtain⟨i,hu,hi',hsz,_,_⟩:=AF hs
 have hb2:=hb
 unfold C8 at hb2
 simp only at hb2
 split at hb2
 case isFalse=>grind
 rename_i hcond
 simp only[IF,Prod.mk.injEq] at hb2
 have main:∀u (lv hv:Option yz),ρ x=u->lv=l.map (fun p=>Value.int p.1 p.2)->hv=h.map (fun p=>Value.int p.1 p.2)->lo.map ρ=lv->hi.map ρ=hv->Ah g (.arr q off len) u->
   ∃u,(execOp ρ o).run P w=.ok (.value u) w/\Ah g (.arr q (off+l') (h'-l')) u:=by
  intro u lv hv eu el eh e1 e2 hr
  simp only[Ah] at hr⊢
  obtain⟨hq,cap,hc,rfl⟩:=hr
  refine⟨.slice (G ⟨g.β q,off+l',none⟩) (h'-l') (cap-l'),?_,hq,cap-l',by omega,rfl⟩
  have hbr:=DX (P:=P) w true len cap hc l h hb
  simp only[execOp,ho,eu,e1,e2,el,eh,JJ,Instr.sliceAt,Instr.slice,Sem.run_bind,run_underlying hu,Result.andThen_ok,hbr]
  simp[sizeOf,typeInfo,hi',hsz,show ¬cap=l' by omega,Addr.add_lit]
 simp only[ho,Op.operands] at hds
 cases lo with
 |none=>
  cases l with
  |some _=>grind
  |none=>
   cases hi with
   |none=>
    cases h<;>grind[AG,Fk]
   |some ho'=>
    cases h<;>grind[Ax,Fk,Ah,AC]
 |some lo'=>
  cases l with
  |none=>grind
  |some lq=>
   cases hi with
   |none=>
    cases h<;>grind[Ax,Fk,Ah,AC]
   |some ho'=>
    cases h with
    |none=>grind
    |some p=>
     obtain⟨u,v,v2,eu,h1,h2,h3⟩:=Fw.1 (by simpa[Fk] using hds)
     grind[Ah,AC]
theorem JQ{c:Call}{fo:x8}(ho:o.op=.call c)(hc:c.callee=.value fo){f:yx}{fs cs:List V}{ds:List D}(hp:D.pls ds=J){os:List D}(hos:D.pls os=J){len:Nat}
  (hspec:Aa P f (fs.map .v++ds++cs.map .v) ⟨[],[]⟩ (.arr 0 0 len) ⟨[G os],[]⟩):Ak P o (.v (.fn f fs cs)::ds) σ (.arr (I σ.H) 0 len) ⟨σ.H++[G os],σ.own⟩:=by
 intro E g a w K Q hw hds hK
 obtain⟨us,vs,ws,hf,hargs,h1,h2,h3⟩:=DZ ho hc hds
 refine GE (_E:=E) (_g:=g) ho hc hspec.1 hf hargs ?_
 have hargs':Ag { M:=g.M,β:=g.β,n:=0,ι:=fun _ _=>none,κ:=g.κ } (fs.map .v++ds++cs.map .v) (us++ws++vs):=
  BX (by rfl) (by grind[D8,BJ]) (Au (Au h1 h3) h2)
 refine Calls.mono (hspec.2 _ w _ hw.rep.empty hargs') ?_
 rintro e w' ⟨u,g',rfl,hw',hr⟩
 obtain⟨h4,h5⟩:=hw.back0 (by rfl) hw'
 simp only[Ah] at hr
 obtain⟨vs',rest',e',hb,hrv,hone,hMn,_⟩:=hw'.rep.obj 0 os (by simp)
 have hge:w.heap.size<=g'.β 0:=by
  rcases hw'.objs 0 os (by simp) with h|h
  all_goals grind[F1]
 obtain⟨h6,h7⟩:=h4.addObj (b:=g'.β 0) (us:=vs') (rest:=rest') (e:=e') (cs:=os) hb (.inl (Jn hw.size hge)) hMn
  (fun i cs hi=>by have:=hw.rep.obj_lt hi;grind) (fun x hx v hv hvb=>by have:=hw.rep.own_lt hx hv hvb;omega) (BX (by rfl) hos hrv) hone
 refine⟨u,rfl,hK _ _ _ h6 (Gh.le_trans h5 h7) ?_⟩
 simp only[Ah]
 obtain⟨_,cap,hcap,rfl⟩:=hr
 exact⟨by rw[hw.rep.n];omega,cap,hcap,by rw[hw.rep.n];simp⟩
theorem DH{f:yx}{first captured:Array x8}(ho:o.op=.makeFunc (.func f) first captured)(hl:first.size=0){cs:List D}:Ak P o cs σ (.dfn f [] cs) σ:=by
 refine A8 fun E g ρ w hw hds=>?_
 have h0:first= #[]:=Array.eq_empty_of_size_eq_zero hl
 subst h0
 simp only[ho,Op.operands] at hds
 refine⟨.func (.func f) #[] (captured.map ρ),?_,?_⟩
 ·simp[execOp,ho,Instr.makeFunc]
 ·simp only[Ah]
  exact⟨[],captured.toList.map ρ,by congr 1;grind,by rfl,by grind⟩
end
mutual
inductive VS:V->V->Prop
 |refl (x:V):VS x x
 |nils:VS .nils (.list [])
 |agg {cs ds:List V} (h:gj cs ds):VS (.agg cs) (.agg ds)
 |list {cs ds:List V} (h:gj cs ds):VS (.list cs) (.list ds)
 |ref {x y:V} (h:VS x y):VS (.ref x) (.ref y)
inductive gj:List V->List V->Prop
 |nil:gj [] []
 |cons {x y:V} {xs ys:List V} (h:VS x y) (hs:gj xs ys):gj (x::xs) (y::ys)
end
theorem VS.isAgg{x y:V}(h:VS x y):y.isAgg=x.isAgg:=by cases h<;>rfl
theorem gj.length:∀{xs ys:List V},gj xs ys->ys.length=xs.length
 |_,_,.nil=>rfl
 |_,_,.cons _ hs=>by simp[hs.length]
theorem gj.refl:∀xs:List V,gj xs xs
 |[]=>.nil
 |x::xs=>.cons (.refl x) (gj.refl xs)
mutual
theorem VS.repC{M:c6}:∀{x y:V},VS x y->∀{ws:List yz},repC M x ws->Dv.repC M y ws
 |_,_,.refl _,_,h=>h
 |_,_,.nils,ws,h=>by
  grind[repC]
 |_,_,.agg h,_,hr=>by simp only[Dv.repC] at hr⊢;exact h.repA hr
 |_,_,.list h,_,hr=>by
  simp only[Dv.repC] at hr⊢
  obtain⟨a,cap,e,hc,hor⟩:=hr
  rw[h.length]
  refine⟨a,cap,e,hc,?_⟩
  rcases hor with rfl|⟨b,off,sz,us,h1,h2,h3,h4⟩
  ·left;cases h;rfl
  ·exact .inr ⟨b,off,sz,us,h1,h2,h3,h.repE h4⟩
 |_,_,.ref h,_,hr=>by
  simp only[Dv.repC] at hr⊢
  obtain⟨b,off,us,e,hi,hx⟩:=hr
  exact⟨b,off,us,e,hi,h.repC hx⟩
theorem gj.repA{M:c6}:∀{xs ys:List V},gj xs ys->∀{us:List yz},Dv.repA M xs us->Dv.repA M ys us
 |_,_,.nil,_,h=>h
 |_,_,.cons h hs,_,hr=>by
  simp only[Dv.repA] at hr⊢
  obtain⟨u,us',e,ha,h1,h2⟩:=hr
  exact⟨u,us',e,by rw[h.isAgg];exact ha,h.repC h1,hs.repA h2⟩
theorem gj.repE{M:c6}{sz:Nat}:∀{xs ys:List V},gj xs ys->∀{us:List yz},Dv.repE M sz xs us->Dv.repE M sz ys us
 |_,_,.nil,_,h=>h
 |_,_,.cons h hs,_,hr=>by
  simp only[Dv.repE] at hr⊢
  obtain⟨u1,u2,e,hl,h1,h2⟩:=hr
  exact⟨u1,u2,e,hl,h.repC h1,hs.repE h2⟩
end
theorem VS.repV{M:c6}{x y:V}(h:VS x y){u:yz}(hr:repV M x u):Dv.repV M y u:=by
 obtain⟨ws,h1,h2⟩:=hr
 refine⟨ws,h.repC h1,?_⟩
 rw[h2]
 cases h<;>rfl
inductive DS:D->D->Prop
 |same (d:D):DS d d
 |v {x y:V} (h:VS x y):DS (.v x) (.v y)
 |gro {q len sz:Nat}:DS (.gro q len sz) (.arr q 0 len)
 |acc {k:Nat} {xs:List V}:DS (.acc k xs) (.v (.list xs))
inductive DSL:List D->List D->Prop
 |nil:DSL [] []
 |cons {d e:D} {ds es:List D} (h:DS d e) (hs:DSL ds es):DSL (d::ds) (e::es)
theorem DS.rep{g:Gh}{d e:D}(h:DS d e){u:yz}(hr:Ah g d u):Ah g e u:=by
 cases h with
 |same=>exact hr
 |v h=>simp only[Ah] at hr⊢;exact h.repV hr
 |gro=>
  grind[Ah]
 |acc=>grind[Ah]
theorem DSL.rep{g:Gh}:∀{ds es:List D},DSL ds es->∀{us:List yz},Ag g ds us->Ag g es us
 |_,_,.nil,_,h=>h
 |_,_,.cons h hs,_,hr=>by
  simp only[Ag] at hr⊢
  obtain⟨u,us',e,h1,h2⟩:=hr
  exact⟨u,us',e,h.rep h1,hs.rep h2⟩
theorem DSL.refl:∀ds:List D,DSL ds ds
 |[]=>.nil
 |d::ds=>.cons (.same d) (DSL.refl ds)
theorem Aa.sub{P:x7}{f:yx}{ds es:List D}{σ σ':St}{d e:D}(h:Aa P f es σ d σ')(hs:DSL ds es)(hd:DS d e):Aa P f ds σ e σ':=by
 refine⟨h.1,fun g w args hw hargs=>Calls.mono (h.2 g w args hw (hs.rep hargs)) ?_⟩
 rintro x w' ⟨u,g',rfl,hw',hr⟩
 exact⟨u,g',rfl,hw',hd.rep hr⟩
theorem AjU{env env':List D}{σ:St}(h:DSL env env'):Cv env σ env' σ:=fun _ g _ _ hf=>⟨g,hf.wi,h.rep hf.env,hf.defers⟩
section
variable {P : x7} {o : yy} {σ : St}
theorem RK{op:BinOp}{t ty e:x6}{x:x8}(ho:o.op=.binOp op t x (.const (.slice none 0 0)) ty)(hu:P.underlying t=G (.slice e))(hop:op=.eql∨op=.neq)(ρ:x8->yz)(w:x5){a:Option Addr}{len cap:Nat}(e1:ρ x=.slice a len cap)(e2:ρ (.const (.slice none 0 0))=.slice none 0 0):
  (execOp ρ o).run P w=.ok (.value (.bool (if op=.eql then a.isNone else !a.isNone))) w:=by
 have heq:(Op.equal t (.slice a len cap) (.slice none 0 0)).run P w=.ok a.isNone w:=by
  have gen:∀d,(Op.equalIn (d+1) t (.slice a len cap) (.slice none 0 0)).run P w=.ok a.isNone w:=fun d=>by
   cases a<;>simp[Op.equalIn,run_underlying hu]
  exact gen 9999
 rcases hop with rfl|rfl<;>simp[execOp,ho,e1,e2,eqGuard,binOp,heq]
theorem N1{t:x6}{parts:Array (Nat×x8)}(ho:o.op=.buildSlice t 0 parts)(hp:parts= #[]){e:x6}{sz by':Nat}{z:Option yz}(hs:BW P t=G (e,sz,by',z)):
  Ak P o [] σ (.gro (I σ.H) 0 sz) ⟨σ.H++[G []],σ.own⟩:=by
 intro E g a w K Q hw hds hK
 obtain⟨i,hu,hi,rfl,rfl,rfl⟩:=AF hs
 subst hp
 obtain⟨g',h3,h4,h5,h6,h7⟩:=hw.newObjR (us:=[]) (rest:=[]) (cs:=[]) e (by rfl) (by simp)
 have:=hK g' _ (.slice (G ⟨w.heap.size,0,none⟩) 0 0) h3 h4 (by
  grind[Ah])
 unfold Oper.wp execOp
 simpa[ho,Instr.buildSlice,run_underlying hu,sizeOf,typeInfo,hi,Instr.fill,newRow,Oper.upon,show Array.range 0= #[] from rfl] using this
theorem Fm{c:Call}{fo:x8}(ho:o.op=.call c)(hc:c.callee=.value fo){f:yx}{fs cs:List V}{ds:List D}(hp:D.pls ds=J){Hc:List (Option (List D))}{j:Nat}{os:List D}(hj:Hc[j]?=G (G os))(hos:D.pls os=J){len:Nat}
  (hspec:Aa P f (fs.map .v++ds++cs.map .v) ⟨[],[]⟩ (.arr j 0 len) ⟨Hc,[]⟩):Ak P o (.v (.fn f fs cs)::ds) σ (.arr (I σ.H) 0 len) ⟨σ.H++[G os],σ.own⟩:=by
 intro E g a w K Q hw hds hK
 obtain⟨us,vs,ws,hf,hargs,h1,h2,h3⟩:=DZ ho hc hds
 refine GE (_E:=E) (_g:=g) ho hc hspec.1 hf hargs ?_
 have hargs':Ag { M:=g.M,β:=g.β,n:=0,ι:=fun _ _=>none,κ:=g.κ } (fs.map .v++ds++cs.map .v) (us++ws++vs):=
  BX (by rfl) (by grind[D8,BJ]) (Au (Au h1 h3) h2)
 refine Calls.mono (hspec.2 _ w _ hw.rep.empty hargs') ?_
 rintro e w' ⟨u,g',rfl,hw',hr⟩
 obtain⟨h4,h5⟩:=hw.back0 (by rfl) hw'
 simp only[Ah] at hr
 obtain⟨vs',rest',e',hb,hrv,hone,hMn,_⟩:=hw'.rep.obj j os hj
 have hge:w.heap.size<=g'.β j:=by
  rcases hw'.objs j os hj with h|h
  all_goals grind[F1]
 obtain⟨h6,h7⟩:=h4.addObj (b:=g'.β j) (us:=vs') (rest:=rest') (e:=e') (cs:=os) hb (.inl (Jn hw.size hge)) hMn
  (fun i cs hi=>by have:=hw.rep.obj_lt hi;grind) (fun x hx v hv hvb=>by have:=hw.rep.own_lt hx hv hvb;omega) (BX (by rfl) hos hrv) hone
 refine⟨u,rfl,hK _ _ _ h6 (Gh.le_trans h5 h7) ?_⟩
 simp only[Ah]
 obtain⟨_,cap,hcap,rfl⟩:=hr
 exact⟨by rw[hw.rep.n];omega,cap,hcap,by rw[hw.rep.n];simp⟩
end
end Go.Dv

namespace Go.Nv
open Go.Dv
open Go.Dv.V renaming list->ae,str->ab,agg->aa,int->a8,ref->bz,fn->bw,nils->bv,bool->bu
open Go.Dv.D renaming v->bt,acc->br,ptr->bq,arr->bo,gro->bm,tup->bl,undef->bk,dagg->bj
open Go.Dv.St renaming mk->bi
open Go.Dv.KI renaming blk->bh
abbrev vi(n:Int):V:=.int .i64 n
abbrev di(n:Int):D:=.v (.int .i64 n)
abbrev db(b:Bool):D:=.v (.bool b)
abbrev vb(c:UInt8):V:=.int .u8 c.toNat
abbrev ds(s:List UInt8):D:=.v (.str s)
abbrev nV:List V:=[]
abbrev iz(n:Int):Int:=n
inductive AsC where
 |x (v:V)
 |xs (v:V)
 |y (c:UInt8)
 |c (d:D)
 |ca (xs:List V) (d:D)
 |c1 (os:List D) (d:D)
 |ck (k k' sz:Nat) (xs:List V)
 |ckn (k k' sz:Nat) (xs:List V)
 |k
 |t
 |f
 |l (sl:List (Nat×Option D)) (σ:Option St)
 |lo (sl:List (Nat×Option D)) (σ:St)
 |n
 |m (d:D)
 |w
 |ww
 |cs (σ:St)
 |ct (t:Nat) (d:D) (σ:St)
 |oc (d:D) (σ:St)
 |o (d:D) (σ:St)
 |p (d:D)
 |g
 |ga (s:Nat)
 |un (s:Nat)
 |dr (k:Nat)
 |fa (q:Nat) (ss:List Nat)
 |f1 (q:Nat) (ss:List Nat)
 |q (r i:Nat)
 |cl (q j k sz:Nat)
 |nw (s k sz:Nat)
 |a (k:Nat)
 |s (sl:List (Nat×Option D))
 |r
 |rn
 |ro
 |rd
inductive Sc:Type 1 where
 |z
 |e {A:Type} (f:A->Sc)
 |b (s t:Sc)
 |h (i:AsC) (s:Sc)
namespace Sc
abbrev x(v:V)(s:Sc):Sc:=.h (.x v) s
abbrev y(c:UInt8)(s:Sc):Sc:=.h (.y c) s
abbrev c(d:D)(s:Sc):Sc:=.h (.c d) s
abbrev ca(xs:List V)(d:D)(s:Sc):Sc:=.h (.ca xs d) s
abbrev c1(os:List D)(d:D)(s:Sc):Sc:=.h (.c1 os d) s
abbrev k(s:Sc):Sc:=.h .k s
abbrev t(s:Sc):Sc:=.h .t s
abbrev f(s:Sc):Sc:=.h .f s
abbrev a(k:Nat)(s:Sc):Sc:=.h (.a k) s
abbrev n(s:Sc):Sc:=.h .n s
abbrev m(d:D)(s:Sc):Sc:=.h (.m d) s
abbrev w(s:Sc):Sc:=.h .w s
abbrev q(r i:Nat)(h:AsC)(s:Sc):Sc:=.h (.q r i) (.h h s)
abbrev r:Sc:=.h .r .z
abbrev rn:Sc:=.h .rn .z
abbrev ro:Sc:=.h .ro .z
abbrev rd:Sc:=.h .rd .z
abbrev lo(sl:List (Nat×Option D))(σ:St):Sc:=.h (.lo sl σ) .z
abbrev l(sl:List (Nat×Option D)):Sc:=.h (.l sl none) .z
abbrev ls(sl:List (Nat×Option D))(σ:St):Sc:=.h (.l sl (G σ)) .z
end Sc
noncomputable def B3{α β:Type}(l:List α)(k:List α->β):β:=
 List.rec (motive:=fun _=>(List α->β)->β) (fun k=>k []) (fun a _ ih k=>ih fun r=>k (a::r)) l k
theorem AX{α β:Type}:∀(l:List α) (k:List α->β),B3 l k=k l
 |[],_=>rfl
 |a::l,k=>by
  have h:B3 (a::l) k=B3 l fun r=>k (a::r):=rfl
  rw[h,AX l]
noncomputable def CZ{α β:Type}(l:List α)(i:Nat)(x:α)(k:List α->β):β:=
 List.rec (motive:=fun _=>Nat->(List α->β)->β) (fun _ k=>k []) (fun a t ih i k=>Nat.rec (motive:=fun _=>β) (k (x::t)) (fun j _=>ih j fun r=>k (a::r)) i) l i k
theorem BH{α β:Type}(x:α):∀(l:List α) (i:Nat) (k:List α->β),CZ l i x k=k (l.set i x)
 |[],_,_=>rfl
 |a::l,0,k=>rfl
 |a::l,i+1,k=>by
  have h:CZ (a::l) (i+1) x k=CZ l i x fun r=>k (a::r):=rfl
  rw[h,BH x l];rfl
noncomputable def DP{β:Type}(env:List D)(t:Option Tmp)(d:D)(k:List D->β):β:=match t with
 |some t=>CZ env t d k
 |none=>k env
theorem DR{β:Type}(env:List D)(t:Option Tmp)(d:D)(k:List D->β):DP env t d k=k (BD env t d):=by
 cases t<;>grind[BH,DP,BD]
noncomputable def AS{α β:Type}(l:List α)(x:α)(k:List α->β):β:=
 List.rec (motive:=fun _=>(List α->β)->β) (fun k=>k [x]) (fun a _ ih k=>ih fun r=>k (a::r)) l k
theorem AQ{α β:Type}(x:α):∀(l:List α) (k:List α->β),AS l x k=k (l++[x])
 |[],_=>rfl
 |a::l,k=>by
  have h:AS (a::l) x k=AS l x fun r=>k (a::r):=rfl
  rw[h,AQ x l];rfl
noncomputable def cz(n:Nat)(L:List (Nat×D)):List D:=L.foldl (fun e p=>e.set p.1 p.2) (List.replicate n .undef)
def Ard:yz->D
 |.slice none 0 0=>.v .nils
 |u=>Pr u
noncomputable def m8(env:List D):x8->D
 |.tmp t=>env.getD t .undef
 |.const u=>Ard u
 |.global n=>AhU n
 |.func f=>.v (.fn f [] [])
theorem W7{g:Gh}{u:yz}:Ah g (Ard u) u:=by
 unfold Ard
 split
 ·simp[Ah]
 grind[OJ]
theorem Ag8{g:Gh}{env:List D}{a:Act}(hG:G9 g.M)(h:Ag g env a.tmps.toList)(x:x8):Ah g (m8 env x) (a.eval x):=by
 cases x with
 |tmp t=>exact Gt h t
 |const u=>exact W7
 |global n=>exact Nl hG h (.global n)
 |func f=>exact Nl hG h (.func f)
theorem RR{g:Gh}{env:List D}{a:Act}(hG:G9 g.M)(h:Ag g env a.tmps.toList):∀(l:List x8),Ag g (l.map (m8 env)) (l.map a.eval)
 |[]=>by simp[Ag]
 |x::l=>by simp only[I9,Ag];exact⟨_,_,rfl,Ag8 hG h x,RR hG h l⟩
def kq(a b:yv):Bool:=Y (a=b)
noncomputable def AqI(P:x7)(op:BinOp)(t:x6)(x y:V)(K:V->Prop):Prop:=
 match x,y with
 |.int kd a,.int kd' b=>
  match op with
  |.quo=>cond (kq kd kd') (b≠0/\K (.int kd (kd.wrap (a.tdiv b)))) False
  |.rem=>cond (kq kd kd') (b≠0/\K (.int kd (a.tmod b))) False
  |.shl=>0<=b/\K (.int kd (kd.wrap (a*2^(min b.toNat kd.bits))))
  |.shr=>0<=b/\K (.int kd (a.fdiv (2^(min b.toNat kd.bits))))
  |op=>cond (kq kd kd') (match Ash op kd a b with|G z=>K z|none=>False) False
 |.str a,.str b=>
  match op with
  |.add=>I a+I b<=9223372036854775807/\K (.str (a++b))
  |op=>match Aq2 op a b with|G z=>K z|none=>False
 |.bool a,.bool b=>match P.underlying t with
  |some .bool=>match op with
   |.eql=>K (.bool (a==b))
   |.neq=>K (.bool (a !=b))
   |_=>False
  |_=>False
 |_,_=>False
theorem Av{b:Bool}{x:Prop}(h:cond b x False):b=J/\x:=by grind
theorem Akz{P:x7}{op:BinOp}{t ty:x6}{x y:V}{K:V->Prop}(h:AqI P op t x y K){o:yy}{a b:x8}(ho:o.op=.binOp op t a b ty):
  ∃z,K z/\∀σ,Ak P o [.v x,.v y] σ (.v z) σ:=by
 unfold AqI at h
 split at h
 ·rename_i kd a kd' b
  split at h
  ·obtain⟨e,hb,h'⟩:=Av h
   have e:=HV e;subst e
   exact⟨_,h',fun σ=>Ack ho rfl hb⟩
  ·obtain⟨e,hb,h'⟩:=Av h
   have e:=HV e;subst e
   exact⟨_,h',fun σ=>Ack ho rfl hb⟩
  ·exact⟨_,h.2,fun σ=>Aj0 ho rfl h.1⟩
  ·exact⟨_,h.2,fun σ=>Aj0 ho rfl h.1⟩
  ·obtain⟨e,h'⟩:=Av h
   have e:=HV e;grind[L7]
 all_goals grind[Acr,Alo,Alm]
noncomputable def DM:List D->Option (List V)
 |[]=>G []
 |.v x::ds=>match DM ds with
  |some xs=>G (x::xs)
  |none=>none
 |.acc _ xs::ds=>match DM ds with
  |some ys=>G (.list xs::ys)
  |none=>none
 |_::_=>none
theorem Hl:∀{ds:List D} {xs:List V},DM ds=G xs->Fu ds=G xs
 |[],xs,h=>by simpa[DM,Fu] using h
 |d::ds,xs,h=>by
  cases d<;>simp only[DM] at h<;>first|(split at h<;>first|(rename_i h1;simp at h;subst h;simp[Fu,D.toV,Hl h1])|simp at h)|simp at h
noncomputable def oz:List (Nat×x8)->List D->Option (List (Nat×V))
 |[],[]=>G []
 |p::ps,.v x::ds=>match oz ps ds with
  |some xs=>G ((p.1,x)::xs)
  |none=>none
 |p::ps,.acc _ l::ds=>match oz ps ds with
  |some xs=>G ((p.1,.list l)::xs)
  |none=>none
 |_,_=>none
theorem Aaa:∀{ps:List (Nat×x8)} {ds:List D} {xs:List (Nat×V)},oz ps ds=G xs->Dw ps ds=G xs
 |[],[],xs,h=>by simpa[oz,Dw] using h
 |[],_::_,xs,h=>by simp[oz] at h
 |_::_,[],xs,h=>by simp[oz] at h
 |p::ps,d::ds,xs,h=>by
  obtain⟨i,q⟩:=p
  cases d<;>simp only[oz] at h<;>first|(split at h<;>first|(rename_i h1;simp at h;subst h;simp[Dw,D.toV,Aaa h1])|simp at h)|simp at h
def vt:List (Nat×x8)->Nat->Bool
 |[],_=>true
 |p::ps,i=>Nat.beq p.1 i&&vt ps (Nat.succ i)
theorem U2:∀{ps:List (Nat×x8)} {i:Nat},vt ps i=J->ps=((ps.map (·.2)).zipIdx i).map fun x=>(x.2,x.1)
 |[],i,_=>rfl
 |p::ps,i,h=>by
  simp only[vt,HL] at h
  have h1:=I7 h.1
  simp only[I9,List.zipIdx_cons]
  rw[←U2 h.2]
  cases p;simp_all
noncomputable def ve(sz:Nat)(xs:List V):Bool:=xs.all fun x=>Nat.beq x.size sz
theorem MC{sz:Nat}{xs:List V}(h:ve sz xs=J):∀x∈xs,x.size=sz:=fun x hx=>I7 (IU.1 h x hx)
noncomputable def XK(cs:List V)(fo n:Nat)(b:Bool)(K:V->Prop):Prop:=match b with
 |true=>cond (Nat.ble (fo+n) (I cs)) (K (.agg ((cs.drop fo).take n))) False
 |false=>match cs[fo]? with
  |some y=>K y
  |none=>False
theorem VG{cs:List V}{fo n:Nat}{b:Bool}{K:V->Prop}(h:XK cs fo n b K):∃y,K y/\Np cs fo n b=G y:=by
 unfold XK at h
 grind[Np,Nat.le_of_ble_eq_true]
noncomputable def Aqu(P:x7)(s:x6)(f:Nat)(cs:List V)(K:V->Prop):Prop:=match Sz P s f with
 |some (fo,1,false)=>XK cs fo 1 false K
 |some (fo,n+1,true)=>XK cs fo (n+1) true K
 |_=>False
noncomputable def Aqt(P:x7)(t:x6)(cs:List V)(i:Int)(K:V->Prop):Prop:=match pw P t with
 |some (len,1,false)=>0<=i/\i<len/\XK cs (i.toNat*1) 1 false K
 |some (len,n,true)=>0<=i/\i<len/\XK cs (i.toNat*n) n true K
 |_=>False
theorem Aax{P:x7}{t:x6}{cs:List V}{i:Int}{K:V->Prop}(h:Aqt P t cs i K):
  ∃y len sz b,K y/\pw P t=G (len,sz,b)/\(b=O->sz=1)/\0<=i/\i<len/\Np cs (i.toNat*sz) sz b=G y:=by
 grind[Aqt,VG]
noncomputable def wr(n:Nat)(l h:Option Int)(K:Nat->Nat->Prop):Prop:=match l,h with
 |none,none=>K 0 n
 |some l,none=>0<=l/\l<=n/\K l.toNat n
 |none,some h=>0<=h/\h<=n/\K 0 h.toNat
 |some l,some h=>0<=l/\l<=h/\h<=n/\K l.toNat h.toNat
theorem Ajm{n:Nat}{l h:Option Int}{K:Nat->Nat->Prop}(hh:wr n l h K):∃a b,K a b/\C8 n l h=G (a,b):=by
 unfold wr at hh
 grind[C8]
def C5(P:x7)(o:yy)(ds:List D)(K:Sc->D->Prop):Prop:=∃s d,K s d/\∀σ,Ak P o ds σ d σ
theorem C5.v{P:x7}{o:yy}{ds:List D}{K:Sc->D->Prop}{s:Sc}{z:V}(hk:K s (.v z))(h:∀σ,Ak P o ds σ (.v z) σ):C5 P o ds K:=⟨s,_,hk,h⟩
def AhL:x8->Bool
 |.const (.slice none 0 0)=>true
 |_=>false
theorem WH{x:x8}(h:AhL x=J):x=.const (.slice none 0 0):=by
 grind[AhL]
noncomputable def AqH(P:x7)(op:BinOp)(t:x6)(b:x8)(x:V)(K:V->Prop):Prop:=cond (AhL b) (match P.underlying t with
 |some (.slice _)=>match op,x with
  |.eql,.list xs=>xs≠ []/\K (.bool false)
  |.neq,.list xs=>xs≠ []/\K (.bool true)
  |.eql,.nils=>K (.bool true)
  |.neq,.nils=>K (.bool false)
  |_,_=>False
 |_=>False) False
theorem Qv{P:x7}{o:yy}{op:BinOp}{t ty e:x6}{a:x8}(ho:o.op=.binOp op t a (.const (.slice none 0 0)) ty)(hu:P.underlying t=G (.slice e))(hop:op=.eql∨op=.neq){x:V}{isn:Bool}
  (hx:∀M u,repV M x u->∃ad len cap,u=.slice ad len cap/\ad.isNone=isn) (σ:St):Ak P o [.v x,.v .nils] σ (.v (.bool (if op=.eql then isn else !isn))) σ:=by
 intro E g ac w K Q hw hds hK
 simp only[ho,Op.operands] at hds
 obtain⟨u,v,eq,h1,h2⟩:=Ax.1 hds
 simp only[I9,Jo,HX,IL] at eq
 simp only[Ah] at h1
 obtain⟨ad,len,cap,rfl,rfl⟩:=hx _ _ h1
 have hrun:=RK (P:=P) ho hu hop ac.eval w eq.1 rfl
 have:=hK g w (.bool (if op=.eql then ad.isNone else !ad.isNone)) hw g.le_refl (by simp[Ah])
 unfold Oper.wp
 rw[hrun]
 exact this
theorem W6{xs:List V}(hx:xs≠ [])(M:c6)(u:yz)(h:repV M (.list xs) u):∃ad len cap,u=.slice ad len cap/\ad.isNone=O:=by
 grind[B6]
theorem W5(M:c6)(u:yz)(h:repV M .nils u):∃ad len cap,u=.slice ad len cap/\ad.isNone=J:=by
 simp_all
theorem Akv{P:x7}{op:BinOp}{t ty:x6}{x:V}{a b:x8}{K:V->Prop}(h:AqH P op t b x K){o:yy}(ho:o.op=.binOp op t a b ty):∃z,K z/\∀σ,Ak P o [.v x,.v .nils] σ (.v z) σ:=by
 unfold AqH at h
 obtain⟨h1,h2⟩:=Av h
 have hb:=WH h1;subst hb
 split at h2
 ·rename_i e hu
  split at h2
  ·exact⟨_,h2.2,fun σ=>Qv ho hu (.inl rfl) (W6 h2.1) σ⟩
  ·exact⟨_,h2.2,fun σ=>Qv ho hu (.inr rfl) (W6 h2.1) σ⟩
  ·exact⟨_,h2,fun σ=>Qv ho hu (.inl rfl) W5 σ⟩
  ·exact⟨_,h2,fun σ=>Qv ho hu (.inr rfl) W5 σ⟩
  grind
 grind
noncomputable def AqG(P:x7)(op:BinOp)(t:x6)(b:x8)(isn:Bool)(K:V->Prop):Prop:=cond (AhL b) (match P.underlying t with
 |some (.slice _)=>(match op with
  |.eql=>K (.bool isn)
  |.neq=>K (.bool !isn)
  |_=>False)
 |_=>False) False
theorem Aku{P:x7}{op:BinOp}{t ty:x6}{y:V}{ad:Option Addr}{len cap:Nat}{a b:x8}{K:V->Prop}(h:AqG P op t b ad.isNone K){o:yy}(ho:o.op=.binOp op t a b ty):∃z,K z/\∀σ,Ak P o [.rv y (.slice ad len cap),.v .nils] σ (.v z) σ:=by
 unfold AqG at h
 obtain⟨h1,h2⟩:=Av h
 have hb:=WH h1;subst hb
 have main:∀{e:x6},P.underlying t=G (.slice e)->op=.eql∨op=.neq->∀σ,Ak P o [.rv y (.slice ad len cap),.v .nils] σ (.v (.bool (if op=.eql then ad.isNone else !ad.isNone))) σ:=by
  intro e hu hop σ E g ac w K Q hw hds hK
  simp only[ho,Op.operands] at hds
  obtain⟨u,v,eq,h1,h2⟩:=Ax.1 hds
  simp only[I9,Jo,HX,IL] at eq
  simp only[Ah] at h1
  obtain⟨rfl,_⟩:=h1
  have hrun:=RK (P:=P) ho hu hop ac.eval w eq.1 rfl
  have:=hK g w (.bool (if op=.eql then ad.isNone else !ad.isNone)) hw g.le_refl (by simp[Ah])
  unfold Oper.wp
  rw[hrun]
  exact this
 grind
theorem VU{P:x7}{f:yx}{ds ds':List D}{σ σ':St}{d:D}(h:∀a cap,Aa P f (ds++ .rv (.list []) (.slice a 0 cap)::ds') σ d σ'):Aa P f (ds++ .v (.list [])::ds') σ d σ':=by
 refine⟨(h none 0).1,fun g w args hw hargs=>?_⟩
 have split:∀{ds:List D} {us:List yz},Ag g (ds++ .v (.list [])::ds') us->∃a cap,Ag g (ds++ .rv (.list []) (.slice a 0 cap)::ds') us:=by
  intro ds
  induction ds<;>grind[Ag,Ah,B6]
 obtain⟨a,cap,h5⟩:=split hargs
 exact(h a cap).2 g w args hw h5
noncomputable def PZ:List D->Option (List V)
 |[]=>G []
 |.v .nils::ds=>match PZ ds with
  |some xs=>G (.list []::xs)
  |none=>none
 |.v x::ds=>match PZ ds with
  |some xs=>G (x::xs)
  |none=>none
 |.acc _ xs::ds=>match PZ ds with
  |some ys=>G (.list xs::ys)
  |none=>none
 |_::_=>none
theorem FZ{g:Gh}{u:yz}(h:Ah g (.v .nils) u):Ah g (.v (.list [])) u:=by
 grind[Ah,Dm,E2]
theorem FY{g:Gh}:∀{ds:List D} {xs:List V} {us:List yz},PZ ds=G xs->Ag g ds us->Ag g (xs.map .v) us
 |[],xs,us,h,hr=>by simp[PZ] at h;subst h;simpa using hr
 |d::ds,xs,us,h,hr=>by
  simp only[Ag] at hr
  obtain⟨u,us',rfl,h1,h2⟩:=hr
  unfold PZ at h
  split at h
  ·rename_i e;simp at e
  ·rename_i ds' e;simp only[HX] at e;obtain⟨rfl,rfl⟩:=e
   split at h
   ·rename_i ys hy;simp at h;subst h
    simp only[I9,Ag];exact⟨_,_,rfl,FZ h1,FY hy h2⟩
   ·simp at h
  ·rename_i x ds' e;simp only[HX] at e;obtain⟨rfl,rfl⟩:=e
   split at h
   ·rename_i ys hy;simp at h;subst h
    simp only[I9,Ag];exact⟨_,_,rfl,h1,FY hy h2⟩
   ·simp at h
  ·rename_i k l ds' e;simp only[HX] at e;obtain⟨rfl,rfl⟩:=e
   split at h
   ·rename_i ys hy;simp at h;subst h
    simp only[I9,Ag];exact⟨_,_,rfl,Ql h1,FY hy h2⟩
   ·simp at h
  ·simp at h
theorem MJ{g:Gh}{ds:List D}{xs:List V}{us:List yz}(h:DM ds=G xs)(hr:Ag g ds us):Ag g (xs.map .v) us:=
 JV (Qk (Hl h) hr)
noncomputable def Af9(P:x7)(f:yx)(fs cs:List V)(ds:List D)(s:Sc)(K:Sc->D->Prop):Prop:=match s with
 |.h (.c d) s=>cond d.pl (match PZ ds with
  |some xs=>Aa P f ((fs++xs++cs).map .v) ⟨[],[]⟩ d ⟨[],[]⟩/\K s d
  |none=>False) False
 |.h (.ca ys d) s=>cond d.pl (match DM ds with
  |some xs=>gj (fs++xs++cs) ys/\Aa P f (ys.map .v) ⟨[],[]⟩ d ⟨[],[]⟩/\K s d
  |none=>False) False
 |_=>False
theorem Ap8:∀{xs ys:List V},gj xs ys->Dv.DSL (xs.map .v) (ys.map .v)
 |_,_,.nil=>.nil
 |_,_,.cons h hs=>.cons (.v h) (Ap8 hs)
theorem VI{P:x7}{f:yx}{fs cs:List V}{ds:List D}{s:Sc}{K:Sc->D->Prop}(h:Af9 P f fs cs ds s K){o:yy}{c:Call}{fo:x8}(ho:o.op=.call c)(hc:c.callee=.value fo):
  C5 P o (.v (.fn f fs cs)::ds) K:=by
 unfold Af9 at h
 split at h
 ·rename_i d s
  obtain⟨h1,h2⟩:=Av h
  split at h2
  ·rename_i xs hx
   refine⟨_,_,h2.2,fun σ=>BY (fun g us hr=>?_) (Qy (d:=d) (ds:=xs.map .v) ho hc (BJ xs) h1 (by simpa[J5] using h2.1))⟩
   grind[Ag,FY]
  grind
 ·rename_i ys d s
  obtain⟨h1,h2⟩:=Av h
  split at h2
  ·rename_i xs hx
   obtain⟨h3,h4,h5⟩:=h2
   have h4':=h4.sub (e:=d) (by simpa using Ap8 h3) (.same d)
   refine⟨_,_,h5,fun σ=>BY (fun g us hr=>?_) (Qy (d:=d) (ds:=xs.map .v) ho hc (BJ xs) h1 (by simpa[J5] using h4'))⟩
   grind[Ag,MJ]
  grind
 grind
noncomputable def PX(P:x7)(c:Call)(ds:List D)(K:V->Prop):Prop:=match c.callee,ds with
 |.builtin .len,[.v (.list xs)]=>match c.args.toList,c.argTypes.toList with
  |[_],[t]=>match P.underlying t with
   |some (.slice _)=>K (.int .i64 (I xs))
   |_=>False
  |_,_=>False
 |.builtin .len,[.v .nils]=>match c.args.toList,c.argTypes.toList with
  |[_],[t]=>match P.underlying t with
   |some (.slice _)=>K (.int .i64 0)
   |_=>False
  |_,_=>False
 |.builtin .len,[.arr _ _ n]=>match c.args.toList,c.argTypes.toList with
  |[_],[t]=>match P.underlying t with
   |some (.slice _)=>K (.int .i64 n)
   |_=>False
  |_,_=>False
 |.builtin .len,[.gro _ n _]=>match c.args.toList,c.argTypes.toList with
  |[_],[t]=>match P.underlying t with
   |some (.slice _)=>K (.int .i64 n)
   |_=>False
  |_,_=>False
 |.builtin .len,[.v (.str s)]=>match c.args.toList,c.argTypes.toList with
  |[_],[t]=>match P.underlying t with
   |some .string=>K (.int .i64 (I s))
   |_=>False
  |_,_=>False
 |.builtin .max,[.v (.int kd a),.v (.int ke b)]=>match c.args.toList with
  |[_,_]=>cond (kq kd ke) (K (.int kd (if b>a then b else a))) False
  |_=>False
 |.builtin .min,[.v (.int kd a),.v (.int ke b)]=>match c.args.toList with
  |[_,_]=>cond (kq kd ke) (K (.int kd (if b<a then b else a))) False
  |_=>False
 |_,_=>False
theorem TG{P:x7}{c:Call}{ds:List D}{K:V->Prop}(h:PX P c ds K){o:yy}(ho:o.op=.call c):∃z,K z/\∀σ,Ak P o ds σ (.v z) σ:=by
 have mk1:∀{b:Builtin} {x:x8} {t:x6},c.callee=.builtin b->c.args.toList=[x]->c.argTypes.toList=[t]->o.op=.call { callee:=.builtin b,args:= #[x],argTypes:= #[t]}:=by
  intro b x t hc h1 h2
  rw[ho];cases c;simp only at hc h1 h2;subst hc
  congr 2
  all_goals grind
 have mk2:∀{b:Builtin} {x y:x8},c.callee=.builtin b->c.args.toList=[x,y]->o.op=.call { callee:=.builtin b,args:= #[x,y],argTypes:=c.argTypes }:=by
  intro b x y hc h1
  rw[ho];cases c;simp only at hc h1;subst hc
  congr 2
  grind
 unfold PX at h
 split at h
 ·rename_i xs hc
  split at h
  all_goals grind[L5]
 ·rename_i hc
  split at h
  ·rename_i x t h1 h2
   split at h
   ·rename_i e hu
    refine⟨_,h,fun σ=>BY (fun g us hr=>?_) (L5 (xs:=[]) (mk1 hc h1 h2) hu)⟩
    grind[FZ,Ag]
   grind
  grind
 ·rename_i q off n hc
  split at h
  all_goals grind[Qx]
 ·rename_i q n sz hc
  split at h
  ·rename_i x t h1 h2
   split at h
   ·rename_i e hu
    refine⟨_,h,fun σ=>BY (fun g us hr=>?_) (Qx (q:=q) (off:=0) (mk1 hc h1 h2) hu)⟩
    grind[Ah,Ag]
   grind
  grind
 ·rename_i xs hc
  split at h
  all_goals grind[Alg]
 ·rename_i kd a ke b hc
  split at h
  ·rename_i x y h1
   obtain⟨e,h2⟩:=Av h
   have e:=HV e;grind[Aog]
  grind
 ·rename_i kd a ke b hc
  split at h
  ·rename_i x y h1
   obtain⟨e,h2⟩:=Av h
   have e:=HV e;grind[Aof]
  grind
 grind
noncomputable def Ajo(P:x7)(t:x6)(ps:List (Nat×x8))(ds:List D)(s:Sc)(K:Sc->V->Prop):Prop:=match s with
 |.h .rn s=>(match ua P t,oz ps ds with
  |some (z,ay),some xs=>(match Hx (ay[·]?) z xs with
   |some out=>B3 out fun out=>K s (.agg out)
   |none=>False)
  |_,_=>False)
 |s=>(match ZA P t,oz ps ds with
  |some (z,ay),some xs=>(match Hx (ay[·]?) z xs with
   |some out=>B3 out fun out=>K s (.agg out)
   |none=>False)
  |_,_=>False)
noncomputable def PY(P:x7)(t:x6)(len:Nat)(ps:List (Nat×x8))(ds:List D)(K:List V->Prop):Prop:=match BW P t with
 |some (_,sz,_,z)=>match len with
  |0=>match ps,ds with
   |[],[]=>K []
   |_,_=>False
  |len+1=>match DM ds with
   |some xs=>cond (vt ps 0&&Nat.beq (I ps) (len+1)&&z.isSome&&Nat.blt 0 sz&&Nat.ble ((len+1)*sz) 1000&&ve sz xs) (K xs) False
   |none=>False
 |none=>False
theorem TH{P:x7}{t:x6}{len:Nat}{ps:Array (Nat×x8)}{ds:List D}{K:List V->Prop}(h:PY P t len ps.toList ds K){o:yy}(ho:o.op=.buildSlice t len ps):∃xs,K xs/\∀σ,Ak P o ds σ (.v (.list xs)) σ:=by
 unfold PY at h
 split at h
 ·rename_i e sz by' z hs
  split at h
  ·grind[O1]
  ·rename_i len
   split at h
   ·rename_i xs hx
    obtain⟨h1,h2⟩:=Av h
    simp only[HL] at h1
    obtain⟨⟨⟨⟨⟨g1,g2⟩,g3⟩,g4⟩,g5⟩,g6⟩:=h1
    have hl:ps.size=len+1:=by simp_all
    exact⟨_,h2,fun σ=>Fo ho (U2 g1) hl hs g3 (Hl hx) (MC g6) (by omega) (IC g4) (by simp_all)⟩
   grind
 grind
noncomputable def Ly(P:x7)(t:x6)(x:D)(l h:Option (yv×Int))(K:V->Prop):Prop:=match x with
 |.v (.str s)=>match P.underlying t with
  |some .string=>wr (I s) (l.map (·.2)) (h.map (·.2)) fun a b=>K (.str ((s.take b).drop a))
  |_=>False
 |.v (.list xs)=>match BW P t with
  |some (_,sz,_,_)=>cond (Nat.blt 0 sz) ((∀x∈xs,x.size=sz)/\wr (I xs) (l.map (·.2)) (h.map (·.2)) fun a b=>K (.list ((xs.take b).drop a))) False
  |none=>False
 |_=>False
noncomputable def Aar(P:x7)(t:x6)(lo hi:Bool)(ds:List D)(K:V->Prop):Prop:=match lo,hi,ds with
 |false,false,[x]=>Ly P t x none none K
 |true,false,[x,.v (.int kd i)]=>Ly P t x (G (kd,i)) none K
 |false,true,[x,.v (.int kd i)]=>Ly P t x none (G (kd,i)) K
 |true,true,[x,.v (.int kd i),.v (.int ke j)]=>Ly P t x (G (kd,i)) (G (ke,j)) K
 |_,_,_=>False
theorem HD{P:x7}{t:x6}{x:D}{l h':Option (yv×Int)}{K:V->Prop}(h:Ly P t x l h' K){o:yy}{xo:x8}{lo hi:Option x8}(ho:o.op=.slice t xo lo hi none)(h1:lo.isSome=l.isSome)(h2:hi.isSome=h'.isSome):
  ∃y,K y/\∀σ,Ak P o (x::(Fk l++Fk h')) σ (.v y) σ:=by
 unfold Ly at h
 split at h
 ·grind[Ajm,Aci]
 ·split at h
  ·rename_i e sz by' z hs
   obtain⟨g1,g2,g3⟩:=Av h
   obtain⟨a,b,h3,hp⟩:=Ajm g3
   exact⟨_,h3,fun σ=>Acj ho hs g2 (IC g1) l h' h1 h2 hp⟩
  grind
 grind
theorem Aaq{P:x7}{t:x6}{lo hi:Option x8}{ds:List D}{K:V->Prop}(h:Aar P t lo.isSome hi.isSome ds K){o:yy}{xo:x8}(ho:o.op=.slice t xo lo hi none):
  ∃y,K y/\∀σ,Ak P o ds σ (.v y) σ:=by
 unfold Aar at h
 split at h
 ·rename_i e1 e2;exact HD h ho e1 e2
 ·rename_i e1 e2;exact HD h ho e1 e2
 ·rename_i e1 e2;exact HD h ho e1 e2
 ·rename_i e1 e2;exact HD h ho e1 e2
 grind
noncomputable def vEl(xs:List V)(i:Int)(sz:Nat)(s:Sc)(K:Sc->V->Prop):Prop:=match s with
 |.h (.x y) s=>cond (Nat.beq y.size sz) (0<=i/\xs[i.toNat]?=G y/\K s y) False
 |.h (.xs y) s=>y.size=sz/\0<=i/\xs[i.toNat]?=G y/\K s y
 |_=>False
noncomputable def Aav(P:x7)(t:x6)(x:V)(k:Prop):Prop:=match Ec P t,x with
 |some (1,false),.agg _=>False
 |some (1,false),_=>k
 |some (n,true),.agg cs=>cond (Nat.beq (I cs) n) k False
 |_,_=>False
theorem Aoo{x:V}(h:∀cs,x=.agg cs->False):x.isAgg=O:=by cases x<;>first|rfl|grind
theorem Aau{P:x7}{t:x6}{x:V}{k:Prop}(h:Aav P t x k){o:yy}{a:x8}(ho:o.op=.load t a):k/\∀σ,Ak P o [.v (.ref x)] σ (.v x) σ:=by
 unfold Aav at h
 split at h
 ·grind
 ·rename_i ht hx;exact⟨h,fun σ=>Gg ho ht (Aoo hx)⟩
 ·rename_i n cs ht
  obtain⟨h1,h2⟩:=Av h
  have:=I7 h1;subst this
  exact⟨h2,fun σ=>Gf ho ht⟩
 grind
noncomputable def Af4(P:x7)(o:yy)(ds:List D)(s:Sc)(K:Sc->D->Prop):Prop:=
 match o.op,ds with
 |.binOp op t _ b _,[.v x,.v .nils]=>AqH P op t b x fun z=>K s (.v z)
 |.binOp op t _ b _,[.rv _ (.slice ad _ _),.v .nils]=>AqG P op t b ad.isNone fun z=>K s (.v z)
 |.binOp op t _ _ _,[.v x,.v y]=>AqI P op t x y fun z=>K s (.v z)
 |.unOp op _ _,[.v x]=>match unI op x with
  |some z=>K s (.v z)
  |none=>False
 |.convert st t _,[.v (.int _ n)]=>match P.underlying st,P.underlying t with
  |some _,some (.int kd)=>K s (.v (.int kd (kd.wrap n)))
  |_,_=>False
 |.extract _ i,[.tup xs]=>match xs[i]? with
  |some d=>K s d
  |none=>False
 |.nilCheck _,[.ptr q f]=>K s (.ptr q f)
 |.nilCheck _,[.v (.ref x)]=>K s (.v (.ref x))
 |.field st _ f,[.v (.agg cs)]=>Aqu P st f cs fun y=>K s (.v y)
 |.fieldAddr st _ f,[.ptr q off]=>match Sz P st f with
  |some (fo,_+1,_)=>K s (.ptr q (Nat.add off fo))
  |_=>False
 |.fieldAddr st _ f,[.v (.ref (.agg cs))]=>Aqu P st f cs fun y=>K s (.v (.ref y))
 |.indexAddr t _ _,[.v (.list xs),.v (.int _ i)]=>match BW P t with
  |some (_,sz,_,_)=>vEl xs i sz s fun s y=>K s (.v (.ref y))
  |none=>False
 |.indexAddr t _ _,[.arr q off len,.v (.int _ i)]=>match BW P t with
  |some (_,sz,_,_)=>0<=i/\i<len/\K s (.ptr q (off+i.toNat*sz))
  |none=>False
 |.indexAddr t _ _,[.ptr q off,.v (.int _ i)]=>match pw P t with
  |some (len,sz,_)=>0<=i/\i<len/\K s (.ptr q (off+i.toNat*sz))
  |none=>False
 |.indexAddr t _ _,[.v (.ref (.agg cs)),.v (.int _ i)]=>Aqt P t cs i fun y=>K s (.v (.ref y))
 |.index t _ _,[.v (.str l),.v (.int _ i)]=>match P.underlying t with
  |some .string=>(match s with
   |.h (.y c) s=>0<=i/\l[i.toNat]?=G c/\K s (.v (vb c))
   |s=>∃c:UInt8,0<=i/\l[i.toNat]?=G c/\K s (.v (vb c)))
  |_=>False
 |.index t _ _,[.v (.agg cs),.v (.int _ i)]=>Aqt P t cs i fun y=>K s (.v y)
 |.load t _,[.v (.ref x)]=>Aav P t x (K s (.v x))
 |.build t ps,ds=>Ajo P t ps.toList ds s fun s x=>K s (.v x)
 |.buildSlice t len ps,ds=>PY P t len ps.toList ds fun xs=>K s (.v (.list xs))
 |.makeFunc (.func f) fs _,ds=>match DM ds with
  |some xs=>cond (Nat.ble fs.size (I xs)) (K s (.v (.fn f (xs.take fs.size) (xs.drop fs.size)))) False
  |none=>False
 |.slice t _ lo hi none,ds=>Aar P t lo.isSome hi.isSome ds fun x=>K s (.v x)
 |.call c,.v (.fn f fs cs)::ds=>match c.callee with
  |.value _=>Af9 P f fs cs ds s K
  |_=>False
 |.call c,ds=>PX P c ds fun x=>K s (.v x)
 |_,_=>False
theorem Aay{P:x7}{st:x6}{f:Nat}{cs:List V}{K:V->Prop}(h:Aqu P st f cs K):∃y fo n b,K y/\Sz P st f=G (fo,n,b)/\n≠0/\(b=O->n=1)/\Np cs fo n b=G y:=by
 grind[Aqu,VG]
theorem Anp{xs:List V}{i:Int}{sz:Nat}{s:Sc}{K:Sc->V->Prop}(h:vEl xs i sz s K):∃y s',K s' y/\y.size=sz/\0<=i/\xs[i.toNat]?=G y:=by
 unfold vEl at h
 grind[Nat.eq_of_beq_eq_true]
theorem Af3{P:x7}{o:yy}{ds:List D}{s:Sc}{K:Sc->D->Prop}(h:Af4 P o ds s K):C5 P o ds K:=by
 unfold Af4 at h
 split at h
 ·grind[Akv,C5]
 ·rename_i op t a b ty x ad l c ho
  obtain⟨z,h1,h2⟩:=Aku h ho
  exact .v h1 h2
 ·grind[Akz,C5]
 ·grind[AqS,C5]
 ·grind[Mz,C5]
 ·grind[L6,C5]
 ·grind[Nw,C5]
 ·rename_i a x ho;exact .v h fun σ=>Nu ho
 ·grind[Aay,AgU,C5]
 ·rename_i st a f q off ho
  split at h
  ·rename_i fo n b hf;exact⟨_,_,h,fun σ=>Aco ho hf (by simp)⟩
  grind
 ·grind[Aay,Gi,C5]
 ·grind[Anp,Alj,C5]
 ·grind[Alk,C5]
 ·grind[AgT,C5]
 ·grind[Aax,AgS,C5]
 ·grind[Ali,C5]
 ·grind[Aax,Alh,C5]
 ·grind[Aau,C5]
 ·rename_i t ps ho
  unfold Ajo at h
  split at h
  all_goals grind[AX,Acs,Aaa,W0,C5]
 ·grind[TH,C5]
 ·rename_i f fs cap ho
  split at h
  ·rename_i xs hx
   obtain⟨h1,h2⟩:=Av h
   have hl:fs.size<=I xs:=by simp_all
   refine .v h2 fun σ=>BY (fun g us hr=>MJ hx hr) ?_
   grind[UE,Gq,List.take_append_drop]
  grind
 ·grind[Aaq,C5]
 all_goals grind[VI,TG,C5]
end Go.Nv

namespace Go.Dv
open Go.Dv.V renaming list->ae,str->ab,agg->aa,int->a8,ref->bz,fn->bw,nils->bv,bool->bu
open Go.Dv.D renaming v->bt,acc->br,ptr->bq,arr->bo,gro->bm,tup->bl,undef->bk,dagg->bj
open Go.Dv.St renaming mk->bi
open Go.Dv.KI renaming blk->bh
theorem WI.addOwnP{E:c9}{g:Gh}{σ:St}{w:x5}(hw:WI E g σ w){k sz:Nat}{xs:List V}{u:yz}(hk:∀x∈σ.own,x.1≠k)(hsz:0<sz/\∀x∈xs,x.size=sz)(hr:repV g.M (.list xs) u)(hp:Perm g.M w sz u)
  (hb:∀b,Co u=G b->(E.w.heap.size<=b∨E.priv b)/\(∀i cs,σ.H[i]?=G (G cs)->g.β i≠b)/\∀x∈σ.own,∀u',g.ι x.1 (I x.2.2)=G u'->Co u'≠G b):
  WI E { g with ι:=fun k' m=>if k'=k then(if m=I xs then G u else none) else g.ι k' m } ⟨σ.H,(k,sz,xs)::σ.own⟩ w/\
  g.le { g with ι:=fun k' m=>if k'=k then(if m=I xs then G u else none) else g.ι k' m }:=by
 have hle:g.le { g with ι:=fun k' m=>if k'=k then(if m=I xs then G u else none) else g.ι k' m }:=by
  refine⟨c6.le_refl _,HR _,fun _ _=>rfl,fun k' m u' h=>?_,fun _ _=>rfl⟩
  by_cases e:k'=k
  ·subst e;rw[hw.rep.fresh k' hk m] at h;grind
  grind
 have hold:∀x∈σ.own,(if x.1=k then(if I x.2.2=I xs then G u else none) else g.ι x.1 (I x.2.2))=g.ι x.1 (I x.2.2):=fun x hx=>Iz (hk x hx)
 refine⟨hw.update (fun _=>False) (fun _ h=>h.elim) (fun _ _ _=>⟨rfl,fun _=>rfl⟩) (c6.le_refl _) (HR _) (fun _ _=>rfl) (fun _ _=>rfl) (HR _) rfl rfl rfl ?_ hw.objs ?_,hle⟩
 ·refine⟨hw.rep.n,hw.rep.mem,fun i cs hi=>?_,hw.rep.inj,fun k' sz' xs' hx=>?_,?_,fun x hx y hy hne u1 u2 h1 h2 b hb1=>?_,fun x hx u1 h1 b hb1 i cs hi=>?_,fun k' hk' m=>?_,hw.rep.gl,hw.rep.gw⟩
  ·obtain⟨us,rest,e,h2,h3,h4,h5⟩:=hw.rep.obj i cs hi
   grind[Ag.mono]
  ·rcases IN.1 hx with e|hx
   ·grind
   ·obtain⟨h0,u',hu,h3,h4,h5⟩:=hw.rep.own k' sz' xs' hx
    grind
  ·simp only[I9,List.nodup_cons]
   refine⟨fun h=>?_,hw.rep.tags⟩
   grind
  ·rcases IN.1 hx with rfl|hx<;>rcases IN.1 hy with rfl|hy
   ·omega
   ·grind
   ·grind
   ·exact hw.rep.sep x hx y hy hne u1 u2 ((hold x hx).symm.trans h1) ((hold y hy).symm.trans h2) b hb1
  ·rcases IN.1 hx with rfl|hx
   ·grind
   ·exact hw.rep.ownObj x hx u1 ((hold x hx).symm.trans h1) b hb1 i cs hi
  ·have hne:¬k'=k:=fun e=>hk' (k,sz,xs) (by simp) e.symm
   simp only[Iz hne]
   exact hw.rep.fresh k' (fun x hx=>hk' x (by grind)) m
 ·intro x hx u1 h1 b hb1
  rcases IN.1 hx with rfl|hx
  ·grind
  ·exact hw.owns x hx u1 ((hold x hx).symm.trans h1) b hb1
end Go.Dv
namespace Go.Nv
open Go.Dv
open Go.Dv.V renaming list->ae,str->ab,agg->aa,int->a8,ref->bz,fn->bw,nils->bv,bool->bu
open Go.Dv.D renaming v->bt,acc->br,ptr->bq,arr->bo,gro->bm,tup->bl,undef->bk,dagg->bj
open Go.Dv.St renaming mk->bi
open Go.Dv.KI renaming blk->bh
section
variable {P : x7} {o : yy} {σ : St}
theorem Yt{x y:x8}{t tn:x6}(ho:o.op=.call { callee:=.builtin .append,args:= #[x,y],argTypes:= #[t,tn]}){e:x6}{sz by':Nat}{z:yz}(hs:BW P t=G (e,sz,by',G z))(hzc:z.cells.size=sz)(h0:0<sz){kn:yv}(htn:P.underlying tn=G (.int kn))
  {kd:yv} {n:Int} (hn:0<n) (hlen:n.toNat*by'<=140737488355328) (hlen2:n.toNat<=140737488355328):
  Ak P o [.v .nils,.v (.int kd n)] σ (.gro (I σ.H) n.toNat sz) ⟨σ.H++[G []],σ.own⟩:=by
 intro E g a w K Q hw hds hK
 simp only[ho,Op.operands,Call.operands] at hds
 obtain⟨u,v,eq,hu,hv⟩:=Ax.1 (by simpa using hds)
 simp only[HX,IL] at eq
 simp only[Ah,Dm,AC] at hu hv
 subst hu hv
 obtain⟨m,rfl⟩:∃m:Nat,n=m:=⟨n.toNat,by omega⟩
 simp only[Jy] at hlen hlen2 hK⊢
 obtain⟨i,ht,hi,hisz,hib,hiz⟩:=AF hs
 have hrun:=Lib.run_append_nil_zeros (P:=P) w t tn o.type e i z kd kn ht htn hi hiz m (by omega) (by omega) (by omega) (by grind)
 have hge:=grownCap_ge w m 0 e
 generalize hcs:Builtin.zeroCells z.cells m++Builtin.zeroCells z.cells (grownCap w m 0 e-m)=cs at hrun
 have hsize:cs.size=grownCap w m 0 e*sz:=by
  rw[←hcs]
  simp only[Array.size_append,size_zeroCells,hzc, ←J1]
  grind
 obtain⟨g',h3,h4,h5',h6',h7⟩:=hw.drew.newObjR (us:=[]) (rest:=cs.toList) (cs:=[]) e (by rfl) (by simp)
 have hd:Ah g' (.gro (I σ.H) m sz) (.slice (G ⟨w.heap.size,0,none⟩) m (grownCap w m 0 e)):=by
  simp only[Ah]
  simp_all
 have hcell:(([]:List yz)++cs.toList).toArray=cs:=by simp
 rw[hcell] at h3
 have:=hK g' _ _ h3 h4 hd
 unfold Oper.wp execOp
 simp only[ho,resolve,invoke,builtin,Sem.run_bind,Sem.run_pure,Result.andThen_ok,List.map_toArray,I9,Jo,eq.1,eq.2,hrun]
 exact this
theorem Yq{t:x6}{x hx:x8}(ho:o.op=.slice t x none (G hx) none){e:x6}{sz by':Nat}{z:Option yz}(hs:BW P t=G (e,sz,by',z))(h0:0<sz){q len:Nat}{cs:List D}(hq:σ.H[q]?=G (G cs)){kd:yv}(k:Nat)(hk:∀x∈σ.own,x.1≠k):
  Ak P o [.gro q len sz,.v (.int kd 0)] σ (.acc k []) ⟨σ.H.set q none,(k,sz,[])::σ.own⟩:=by
 intro E g a w K Q hw hds hK
 simp only[ho,Op.operands] at hds
 obtain⟨u,v,eq,h1,h2⟩:=Ax.1 (by simpa using hds)
 simp only[HX,IL] at eq
 simp only[Ah,AC] at h1 h2
 subst h2
 obtain⟨hqn,cap,hcap,hκ,rfl⟩:=h1
 obtain⟨i,hu,hi',hsz,_,_⟩:=AF hs
 obtain⟨us,rest,et,hb,hr,hone,hM,hkk⟩:=hw.rep.obj q cs hq
 have hrep:repV g.M (.list []) (.slice (G ⟨g.β q,0,none⟩) 0 cap):=by grind[B6]
 obtain⟨hw2,hle⟩:=(hw.kill hq).addOwnP (k:=k) (sz:=sz) (xs:=[]) (u:=.slice (G ⟨g.β q,0,none⟩) 0 cap) hk ⟨h0,by simp⟩ hrep
  (.inr ⟨g.β q,0,0,cap,_,et,rfl,hb,II _,by grind,fun o _=>hM o,hw.rep.obj_ng hq⟩) (fun b hb'=>by
   simp only[Co] at hb'
   split at hb'
   ·grind
   ·simp at hb';subst hb'
    refine⟨hw.objs q cs hq,fun i c hi=>?_,fun x hx u' hu' hb2=>hw.rep.ownObj x hx u' hu' _ hb2 q cs hq rfl⟩
    obtain⟨hne,hi2⟩:=JO hi
    exact fun e=>hne (hw.rep.inj i q _ _ hi2 hq e))
 have:=hK _ _ (.slice (G ⟨g.β q,0,none⟩) 0 cap) hw2 hle (by grind[Ah])
 have hbr:=DX (P:=P) w true len cap hcap none (G (kd,0)) (l':=0) (h':=0) (by rfl)
 unfold Oper.wp execOp
 simp only[ho,eq.1,eq.2,JJ,Jr,Instr.sliceAt,Instr.slice,Sem.run_bind,run_underlying hu,Result.andThen_ok]
 simp only[JJ,Jr] at hbr
 rw[hbr]
 simp only[Result.andThen_ok,sizeOf,typeInfo,Sem.run_pure,Sem.run_bind]
 by_cases hc0:cap=0
 ·subst hc0;simpa[Addr.add_lit,Oper.upon,hi'] using this
 ·simpa[hc0,Addr.add_lit,Oper.upon,hi',show ¬0=cap by omega] using this
theorem Ys{x:x8}{t:x6}(ho:o.op=.call { callee:=.builtin .cap,args:= #[x],argTypes:= #[t]}){e:x6}(ht:P.underlying t=G (.slice e)):Ak P o [.v .nils] σ (.v (.int .i64 0)) σ:=by
 refine A8 fun E g ρ w hw hds=>?_
 simp only[ho,Op.operands,Call.operands,AG] at hds
 obtain⟨u,e,h1⟩:=hds
 simp at e
 simp only[Ah,Dm] at h1
 subst h1
 exact⟨_,by simp[execOp,ho,e,resolve,invoke,builtin,Builtin.cap_,run_underlying ht,goInt];rfl,by simp[Ah]⟩
theorem Sd{t:x6}{x hx:x8}(ho:o.op=.slice t x none (G hx) none){e:x6}(hu:P.underlying t=G (.slice e)){inf:TypeInfo}(hi:P.info? e=G inf){kd:yv}:Ak P o [.v .nils,.v (.int kd 0)] σ (.v .nils) σ:=by
 refine A8 fun E g ρ w hw hds=>?_
 simp only[ho,Op.operands] at hds
 obtain⟨u,v,eq,h1,h2⟩:=Ax.1 (by simpa using hds)
 simp only[HX,IL] at eq
 simp only[Ah,AC,Dm] at h1 h2
 subst h1 h2
 have hbr:=DX (P:=P) w true 0 0 (HR _) none (G (kd,0)) (l':=0) (h':=0) (by rfl)
 simp only[JJ,Jr] at hbr
 refine⟨.slice none 0 0,?_,by simp[Ah]⟩
 simp only[execOp,ho,eq.1,eq.2,JJ,Jr,Instr.sliceAt,Instr.slice,Sem.run_bind,run_underlying hu,Result.andThen_ok]
 rw[hbr]
 simp[sizeOf,typeInfo,hi]
end
def n7:List (Nat×x8)->List D->Option (List (Nat×D))
 |[],[]=>G []
 |p::ps,d::ds=>match n7 ps ds with
  |some xs=>G ((p.1,d)::xs)
  |none=>none
 |_,_=>none
def Vb(ay:List (Nat×Nat)):List D->List (Nat×D)->Option (List D)
 |cells,[]=>G cells
 |cells,p::xs=>match ay[p.1]? with
  |some (off,size)=>cond (p.2.sto&&Nat.beq (I (A2 p.2)) size&&Nat.ble (off+size) (I cells)) (Vb ay (cells.take off++A2 p.2++cells.drop (off+size)) xs) none
  |none=>none
theorem e6{g:Gh}:∀{ds:List D} {us:List yz},Ag g ds us->I us=I ds
 |[],us,h=>by simp only[Ag] at h;simp[h]
 |d::ds,us,h=>by
  simp only[Ag] at h
  obtain⟨u,us',rfl,_,h⟩:=h
  simp[e6 h]
theorem RT{g:Gh}:∀{ds es:List D} {us vs:List yz},Ag g ds us->Ag g es vs->Ag g (ds++es) (us++vs)
 |[],es,us,vs,h,h2=>by simp only[Ag] at h;subst h;exact h2
 |d::ds,es,us,vs,h,h2=>by
  simp only[Ag] at h
  obtain⟨u,us',rfl,h1,h⟩:=h
  simp only[JM,Ag]
  exact⟨u,us'++vs,rfl,h1,RT h h2⟩
theorem Wh{g:Gh}:∀{ds:List D} {us:List yz} (n:Nat),Ag g ds us->Ag g (ds.take n) (us.take n)
 |ds,us,0,_=>by simp[Ag]
 |[],us,n+1,h=>by simp only[Ag] at h;subst h;simp[Ag]
 |d::ds,us,n+1,h=>by
  simp only[Ag] at h
  obtain⟨u,us',rfl,h1,h⟩:=h
  simp only[List.take_succ_cons,Ag]
  exact⟨u,us'.take n,rfl,h1,Wh n h⟩
theorem Wi{g:Gh}:∀{ds:List D} {us:List yz} (n:Nat),Ag g ds us->Ag g (ds.drop n) (us.drop n)
 |ds,us,0,h=>by simpa using h
 |[],us,n+1,h=>by simp only[Ag] at h;subst h;simp[Ag]
 |d::ds,us,n+1,h=>by
  simp only[Ag] at h
  obtain⟨u,us',rfl,h1,h⟩:=h
  simp only[List.drop_succ_cons]
  exact Wi n h
theorem NP{g:Gh}{a:Act}{ay:List (Nat×Nat)}:∀{ps:List (Nat×x8)} {ds:List D} {xs:List (Nat×D)} {cells out:List D} {cu:Array yz},n7 ps ds=G xs->Ag g ds (ps.map fun p=>a.eval p.2)->Ag g cells cu.toList->Vb ay cells xs=G out->
  ∃U,Instr.fill (ay[·]?) cu (ps.map fun p=>(p.1,a.eval p.2))=G U/\Ag g out U.toList
 |[],[],xs,cells,out,cu,hx,_,hc,hf=>by
  grind[n7,Vb,Instr.fill]
 |[],_::_,xs,cells,out,cu,hx,_,hc,hf=>by grind[n7]
 |_::_,[],xs,cells,out,cu,hx,_,hc,hf=>by grind[n7]
 |p::ps,d::ds,xs,cells,out,cu,hx,hds,hc,hf=>by
  simp only[n7] at hx
  split at hx
  ·rename_i ys hys
   simp at hx;subst hx
   simp only[I9,Ag] at hds
   obtain⟨u,us',e,h1,h2⟩:=hds
   simp at e
   obtain⟨rfl,rfl⟩:=e
   simp only[Vb] at hf
   split at hf
   ·rename_i off size hp
    cases hcd:(d.sto&&Nat.beq (I (A2 d)) size&&Nat.ble (off+size) (I cells)) with
    |false=>grind
    |true=>
     rw[hcd] at hf
     simp only[cond_true] at hf
     simp only[HL] at hcd
     obtain⟨⟨c1,c2⟩,c3⟩:=hcd
     have c2:=I7 c2
     have c3:=IC c3
     obtain⟨r1,r2,r3⟩:=cells_rep c1 h1
     have hl:cu.size=I cells:=by grind[Array.length_toList,e6]
     have hs:(a.eval p.2).cells.size=size:=by grind[Array.length_toList,e6]
     have hsp:=AaY off (a.eval p.2).cells.toList cu (by grind)
     simp only[IK,hs] at hsp
     have hc':Ag g (cells.take off++A2 d++cells.drop (off+size)) (((a.eval p.2).cells.toList.zipIdx 0).foldl (fun cs (x:yz×Nat)=>cs.setIfInBounds (off+x.2) x.1) cu).toList:=by
      grind[RT,Wh,Wi]
     obtain⟨U,hU,hrU⟩:=NP hys h2 hc' hf
     grind[Instr.fill,Array.toList_zipIdx]
   grind
  grind
section
variable {P : x7} {o : yy} {σ : St}
def Lb(P:x7)(t:x6):Bool:=match P.underlying t with
 |some (.struct _)=>true
 |_=>false
theorem Acu{t:x6}{parts:Array (Nat×x8)}(ho:o.op=.build t parts){z:List V}{ay:List (Nat×Nat)}(hst:Lb P t=J)(hb:ZA P t=G (z,ay)){ds:List D}{xs:List (Nat×D)}{out:List D}
  (hx:n7 parts.toList ds=G xs) (hf:Vb ay (z.map .v) xs=G out):Ak P o ds σ (.dagg out) σ:=by
 intro E g a w K Q hw hds hK
 simp only[ho,Op.operands] at hds
 unfold ZA at hb
 unfold Lb at hst
 have key:∃U,P.built t (parts.toList.map fun p=>(p.1,a.eval p.2))=G U/\Ag g out U.toList:=by
  cases hz:wu P t with
  |none=>grind
  |some z0=>
   obtain⟨i,zv,hi,hz1,hcv⟩:=MD hz
   cases hu:P.underlying t with
   |none=>grind
   |some dd=>
    cases dd<;>simp only[hz,hu,reduceCtorEq] at hb hst
    case struct fs=>
     cases hp:fs.toList.mapM (fun f=>(P.info? f.type).map fun i=>(f.offset,i.size)) with
     |none=>grind
     |some pl=>
      simp[hp] at hb
      obtain⟨rfl,rfl⟩:=hb
      obtain⟨U,hU,hrU⟩:=NP (a:=a) hx (by grind[Function.comp_def]) (D7 (GS (M:=g.M) hcv)).1 hf
      grind[Program.built]
 obtain⟨U,hU,hrU⟩:=key
 have:=hK g w (.agg U) hw g.le_refl (by grind[Ah])
 have hrun:=run_build (P:=P) w t (parts.map fun p=>(p.1,a.eval p.2)) U (by simp_all)
 unfold Oper.wp execOp
 simp only[ho]
 simp only[Sem.run_bind]
 rw[show(parts.map fun(x:Nat×x8)=>match x with|(i,x)=>(i,a.eval x))=parts.map fun p=>(p.1,a.eval p.2) from rfl,hrun]
 exact this
end
end Go.Nv

namespace Go.Dv
open List (replicate)
open Go.Dv.V renaming list->ae,str->ab,agg->aa,int->a8,ref->bz,fn->bw,nils->bv,bool->bu
open Go.Dv.D renaming v->bt,acc->br,ptr->bq,arr->bo,gro->bm,tup->bl,undef->bk,dagg->bj
open Go.Dv.St renaming mk->bi
open Go.Dv.KI renaming blk->bh
section
variable {P : x7} {o : yy} {σ : St}
theorem Acl{t:x6}{a:x8}(ho:o.op=.load t a){n:Nat}(ht:Tw P t n){q off:Nat}{cs:List D}(hH:σ.H[q]?=G (G cs))(hn:off+n<=I cs){ds:List D}(hd:(cs.drop off).take n=ds):Ak P o [.ptr q off] σ (.dagg ds) σ:=by
 subst hd
 refine A8 fun E g ρ w hw hds=>?_
 simp only[ho,Op.operands,AG] at hds
 obtain⟨u,e,h1⟩:=hds
 simp at e
 simp only[Ah] at h1
 obtain⟨_,rfl⟩:=h1
 obtain⟨us,rest,et,hb,hr,h1,_⟩:=hw.rep.obj q cs hH
 have hra:=Cn (Cz hr off) n
 have hl:I us=I cs:=A3 hr
 have hld:=run_loadCells_list (P:=P) w ⟨g.β q,off,none⟩ ((us.drop off).take n) (fun j v hj=>by
  grind[World.cell?,Addr.add])
 have hlen:I ((us.drop off).take n)=n:=by grind
 rw[hlen] at hld
 refine⟨.agg ((us.drop off).take n).toArray,?_,by grind[Ah]⟩
 simp only[execOp,ho,e,Instr.loadAt,Instr.sureAddr,loadVar,Sem.run_bind,Sem.run_pure,Result.andThen_ok,Dl ht,dw ht,hld,Jz]
end
theorem NL{α:Type}(l:List α):∀(n i:Nat),i<n*I l->(replicate n l).flatten[i]?=l[i%l.length]?
 |0,i,h=>by simp at h
 |n+1,i,h=>by
  rw[Jk,JC]
  by_cases hi:i<I l
  ·rw[I5 hi,Nat.mod_eq_of_lt hi]
  ·rw[I2 (by omega),NL l n (i-I l) (by rw[J1] at h;omega),Nat.mod_eq_sub_mod (a:=i) (by omega)]
theorem NK{α:Type}(l:List α):∀n:Nat,(replicate n l).flatten.length=n*I l
 |0=>by simp
 |n+1=>by simp_all
theorem Mb(z:Array yz)(n:Nat):madeCells z (n*z.size)=(replicate n z.toList).flatten.toArray:=by
 apply Array.ext_getElem?
 grind[NL,madeCells,NK]
section
variable {P : x7} {o : yy} {σ : St} {d : D}
theorem AgP{t:x6}{x y:x8}(ho:o.op=.makeSlice t x y){e:x6}{sz by':Nat}{z:yz}(hs:BW P t=G (e,sz,by',G z)){zs:List V}(hz:FS z.cells.toList=G zs)(hzc:z.cells.size=sz){k1 k2:yv}{n:Int}(h0:0<=n)(hn:(by':Int)*n<=281474976710656)(hn2:n<=9223372036854775807):
  Ak P o [.v (.int k1 0),.v (.int k2 n)] σ (.gro (I σ.H) 0 sz) ⟨σ.H++[G ((replicate n.toNat zs).flatten.map .v)],σ.own⟩:=by
 intro E g a w K Q hw hds hK
 simp only[ho,Op.operands,Ax] at hds
 obtain⟨u,v,eq,h1',h2⟩:=hds
 simp only[I9,Jo,HX,IL] at eq
 obtain⟨e1,e2⟩:=eq
 simp only[Ah,AC] at h1' h2
 subst h1' h2
 obtain⟨i,hu,hi,hsz,hby,hzz⟩:=AF hs
 have hrun:=run_make (P:=P) w t e i z hu hi hzz k1 k2 0 n (IA _) h0 (by grind) hn2
 rw[hsz, ←hzc,Mb] at hrun
 obtain⟨hr1,ho1⟩:=D7 (g:=g) (Eo (M:=g.M) hz)
 have hr:∀m,Ag g ((replicate m zs).flatten.map .v) (replicate m z.cells.toList).flatten/\∀c∈ (replicate m zs).flatten.map bt,c.one=J:=by
  intro m
  induction m<;>grind[Ag,Au]
 obtain⟨g',hw',hle,hβ,hκ,hn'⟩:=hw.newObjR (us:=(replicate n.toNat z.cells.toList).flatten) (rest:=[]) e (hr n.toNat).1 (hr n.toNat).2
 rw[IX] at hw' hκ
 have:=hK g' _ (.slice (G ⟨w.heap.size,0,none⟩) 0 n.toNat) hw' hle (by
  grind[Ah,NK])
 unfold Oper.wp execOp
 simp only[ho,e1,e2,Sem.run_bind,hrun,Result.andThen_ok]
 exact this
theorem UF{x y:x8}{t:x6}(ho:o.op=.call { callee:=.builtin .append,args:= #[x,y],argTypes:= #[t,t]}){e:x6}{sz by':Nat}{z:Option yz}(hs:BW P t=G (e,sz,by',z))(hsz:0<sz)
  {q len:Nat} {cs:List D} {ys:List V} (hq:σ.H[q]?=G (G cs)) (hroom:(len+I ys)*sz<=I cs) (hys:∀y∈ys,y.size=sz) (hpos:ys≠ []):
  Ak P o [.gro q len sz,.v (.list ys)] σ (.gro q (len+I ys) sz) ⟨σ.H.set q (G (cs.take (len*sz)++Ab ys++cs.drop (len*sz+I (Ab ys)))),σ.own⟩:=by
 intro E g a w K Q hw hds hK
 simp only[ho,Op.operands,Call.operands] at hds
 obtain⟨u,v,eq,hu,hv⟩:=Ax.1 (by simpa using hds)
 simp only[HX,IL] at eq
 simp only[Ah] at hu hv
 obtain⟨hqn,cap,hcap,hκ,rfl⟩:=hu
 obtain⟨ad,cap2,rfl,hc2,hor⟩:=Cm hv hys hsz
 rcases hor with h|⟨b,off,vs,rfl,hin,hE⟩
 ·grind
 obtain⟨h5,h6⟩:=EQ hE
 obtain⟨i,ht,hi,hisz,hib,hiz⟩:=AF hs
 obtain⟨us,rest,et,hb,hr,h1,hM,hκ1⟩:=hw.rep.obj q cs hq
 have hul:I us=I cs:=A3 hr
 have hvl0:I vs=I ys*sz:=Cd hE
 have hvl:I vs=I ys*i.size:=by grind
 have hfl:I (Ab ys)=I vs:=(A3 h5).symm
 rw[J1] at hroom
 have hroom':len+I ys<=cap:=by
  have:(len+I ys)*sz<=cap*sz:=by grind
  exact Nat.le_of_mul_le_mul_right this hsz
 have hone:∀u∈vs,u.oneCell'=J:=Cy h6 h5
 have hfit:len*i.size+I vs<=(us++rest).toArray.size:=by
  grind
 have hrun:=ee (P:=P) w t o.type e et i ht hi (g.β q) len cap (us++rest).toArray hb ⟨b,off,none⟩ (I ys) cap2 vs hvl (EU hw hin) hone hroom' hfit
 have hrow:(us++rest).toArray.toList.take (len*i.size)++vs++(us++rest).toArray.toList.drop (len*i.size+I vs)=(us.take (len*sz)++vs++us.drop (len*sz+I vs))++rest:=by
  grind
 rw[hrow] at hrun
 have hw1:=hw.setObj (cs':=cs.take (len*sz)++Ab ys++cs.drop (len*sz+I (Ab ys))) (w':=w.setRow (g.β q) ((us.take (len*sz)++vs++us.drop (len*sz+I vs))++rest).toArray) hq (us:=us.take (len*sz)++vs++us.drop (len*sz+I vs)) (rest:=rest) (e:=et) (setRow_heap w _ _ _ et _ hb)
  (by grind)
  (Au (Au (Cn hr _) h5) (by grind[Cz]))
  (fun c hc=>by
   rcases IV.1 hc with h|h
   ·rcases IV.1 h with h|h
    ·grind
    ·exact h6 c h
   grind) (fun b hb=>setRow_other w _ _ _ hb) (by simp) rfl rfl rfl
 have:=hK g _ (.slice (G ⟨g.β q,0,none⟩) (len+I ys) cap) hw1 (Gh.le_refl g) (by grind[Ah])
 unfold Oper.wp execOp
 simp only[ho,resolve,invoke,builtin,Sem.run_bind,Sem.run_pure,Result.andThen_ok,List.map_toArray,I9,Jo,eq.1,eq.2,hrun]
 exact this
end
end Go.Dv
