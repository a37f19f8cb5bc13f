/-
  A part of the proof.
-/
import Derived.Calls
import Derived.Laws.AppendOwn
import Derived.Laws.MakeOwn
import Derived.Laws.Slices
import Derived.Laws.Rows
import Derived.Tactics
import Derived.Laws.Strings
import Derived.Great.BuildSlice
import Derived.Lib.Strings
import Derived.Orders
namespace Go.Dv
open List (all_eq_true append_assoc append_nil cons_append drop_eq_getElem_cons drop_of_length_le drop_zero ext_getElem? flatMap_cons flatten flatten_cons foldl_cons getD_eq_getElem?_getD getElem?_append_left getElem?_append_right getElem?_drop getElem?_eq_getElem getElem?_eq_none getElem?_map getElem?_set getElem?_take getElem?_toArray length length_append length_cons length_drop length_map length_nil length_pos_iff length_set length_take map map_append map_cons map_map map_nil mem_append mem_cons mem_map mem_of_getElem? mem_of_mem_drop mem_of_mem_take mem_or_eq_of_mem_set mem_singleton nil_append not_mem_nil replicate replicate_succ set_cons_succ set_cons_zero size_toArray take take_add_one take_append_drop take_left take_of_length_le take_succ_cons zipWith)
open Go.IntKind (wrap i64 u64)
inductive V where
 |int (k:IntKind) (n:Int)
 |bool (b:Bool)
 |str (s:List UInt8)
 |list (xs:List V)
 |agg (cs:List V)
 |ref (x:V)
 |fn (f:FuncId) (fs cs:List V)
 |nilfn
 |nilp
 |nils
 deriving Inhabited
def V.isAgg:V->Bool
 |.agg _=>true
 |_=>false
def V.size:V->Nat
 |.agg cs=>cs.length
 |_=>1
abbrev Mem:=Nat->Nat->Option Value
def inM(M:Mem)(b off:Nat)(ws:List Value):Prop:=∀j v,ws[j]?=some v->M b (off+j)=some v
def EY:V->List Value->Value
 |.agg _,ws=>.agg ws.toArray
 |_,ws=>ws.headD (.tuple #[])
mutual
def repC(M:Mem):V->List Value->Prop
 |.int k n,ws=>ws=[.int k n]
 |.bool b,ws=>ws=[.bool b]
 |.str s,ws=>ws=[.string ⟨s.toArray⟩]
 |.list xs,ws=>∃a cap,ws=[.slice a xs.length cap]/\xs.length<=cap/\(xs=[]∨∃b off sz us,a=some ⟨b,off,none⟩/\0<sz/\inM M b off us/\repE M sz xs us)
 |.agg cs,ws=>repA M cs ws
 |.ref x,ws=>∃b off us,ws=[.pointer (some ⟨b,off,none⟩)]/\inM M b off us/\repC M x us
 |.fn f fs cs,ws=>∃us vs,ws=[.func (.func f) us.toArray vs.toArray]/\EC M fs us/\EC M cs vs
 |.nilfn,ws=>ws=[.nilFunc]
 |.nilp,ws=>ws=[.pointer none]
 |.nils,ws=>ws=[.slice none 0 0]
def repE(M:Mem)(sz:Nat):List V->List Value->Prop
 |[],us=>us=[]
 |x::xs,us=>∃u1 u2,us=u1++u2/\u1.length=sz/\repC M x u1/\repE M sz xs u2
def repA(M:Mem):List V->List Value->Prop
 |[],us=>us=[]
 |c::cs,us=>∃u us',us=u::us'/\c.isAgg=false/\repC M c [u]/\repA M cs us'
def EC(M:Mem):List V->List Value->Prop
 |[],us=>us=[]
 |x::xs,us=>∃u us' ws,us=u::us'/\repC M x ws/\u=EY x ws/\EC M xs us'
end
def repV(M:Mem)(x:V)(u:Value):Prop:=∃ws,repC M x ws/\u=EY x ws
def Mem.le(M M':Mem):Prop:=∀b o v,M b o=some v->M' b o=some v
theorem Mem.le_refl(M:Mem):M.le M:=fun _ _ _ h=>h
theorem Mem.le_trans{M M' M'':Mem}(h:M.le M')(h':M'.le M''):M.le M'':=fun b o v e=>h' b o v (h b o v e)
theorem inM.mono{M M':Mem}{b off:Nat}{ws:List Value}(hm:M.le M')(h:inM M b off ws):inM M' b off ws:=fun j v e=>hm _ _ _ (h j v e)
mutual
theorem repC.mono{M M':Mem}(hm:M.le M'):∀(x:V) (ws:List Value),repC M x ws->repC M' x ws
 |.int k n,ws,h=>h
 |.bool b,ws,h=>h
 |.str s,ws,h=>h
 |.list xs,ws,h=>by
  simp only[repC] at h⊢
  obtain⟨a,cap,e,hc,h⟩:=h
  refine⟨a,cap,e,hc,?_⟩
  rcases h with h|⟨b,off,sz,us,ha,hs,hi,he⟩
  ·exact .inl h
  ·exact .inr ⟨b,off,sz,us,ha,hs,hi.mono hm,repE.mono hm sz xs us he⟩
 |.agg cs,ws,h=>by simp only[repC] at h⊢;exact repA.mono hm cs ws h
 |.ref x,ws,h=>by
  simp only[repC] at h⊢
  obtain⟨b,off,us,e,hi,hx⟩:=h
  exact⟨b,off,us,e,hi.mono hm,repC.mono hm x us hx⟩
 |.fn f fs cs,ws,h=>by
  simp only[repC] at h⊢
  obtain⟨us,vs,e,h1,h2⟩:=h
  exact⟨us,vs,e,EC.mono hm fs us h1,EC.mono hm cs vs h2⟩
 |.nilfn,ws,h=>h
 |.nilp,ws,h=>h
 |.nils,ws,h=>h
theorem repE.mono{M M':Mem}(hm:M.le M')(sz:Nat):∀(xs:List V) (us:List Value),repE M sz xs us->repE M' sz xs us
 |[],us,h=>h
 |x::xs,us,h=>by
  simp only[repE] at h⊢
  obtain⟨u1,u2,e,hl,h1,h2⟩:=h
  exact⟨u1,u2,e,hl,repC.mono hm x u1 h1,repE.mono hm sz xs u2 h2⟩
theorem repA.mono{M M':Mem}(hm:M.le M'):∀(cs:List V) (us:List Value),repA M cs us->repA M' cs us
 |[],us,h=>h
 |c::cs,us,h=>by
  simp only[repA] at h⊢
  obtain⟨u,us',e,ha,h1,h2⟩:=h
  exact⟨u,us',e,ha,repC.mono hm c [u] h1,repA.mono hm cs us' h2⟩
theorem EC.mono{M M':Mem}(hm:M.le M'):∀(xs:List V) (us:List Value),EC M xs us->EC M' xs us
 |[],us,h=>h
 |x::xs,us,h=>by
  simp only[EC] at h⊢
  obtain⟨u,us',ws,e,h1,h2,h3⟩:=h
  exact⟨u,us',ws,e,repC.mono hm x ws h1,h2,EC.mono hm xs us' h3⟩
end
theorem repV.mono{M M':Mem}(hm:M.le M'){x:V}{u:Value}(h:repV M x u):repV M' x u:=
 let ⟨ws,h1,h2⟩:=h;⟨ws,repC.mono hm x ws h1,h2⟩
theorem Dc{M:Mem}:∀{cs:List V} {us:List Value},repA M cs us->us.length=cs.length
 |[],us,h=>by simp only[repA] at h;simp[h]
 |c::cs,us,h=>by
  simp only[repA] at h
  obtain⟨u,us',rfl,_,_,h2⟩:=h
  simp[Dc h2]
theorem EX{M:Mem}:∀{x:V} {ws:List Value},repC M x ws->ws.length=x.size
 |.int k n,ws,h=>by simp only[repC] at h;simp[h,V.size]
 |.bool b,ws,h=>by simp only[repC] at h;simp[h,V.size]
 |.str s,ws,h=>by simp only[repC] at h;simp[h,V.size]
 |.list xs,ws,h=>by simp only[repC] at h;obtain⟨a,cap,e,_⟩:=h;simp[e,V.size]
 |.agg cs,ws,h=>by simp only[repC] at h;simpa[V.size] using Dc h
 |.ref x,ws,h=>by simp only[repC] at h;obtain⟨b,off,us,e,_⟩:=h;simp[e,V.size]
 |.fn f fs cs,ws,h=>by simp only[repC] at h;obtain⟨us,vs,e,_⟩:=h;simp[e,V.size]
 |.nilfn,ws,h=>by simp only[repC] at h;simp[h,V.size]
 |.nilp,ws,h=>by simp only[repC] at h;simp[h,V.size]
 |.nils,ws,h=>by simp only[repC] at h;simp[h,V.size]
theorem Cl{M:Mem}{x:V}{ws:List Value}(hx:x.isAgg=false)(h:repC M x ws):∃u,ws=[u]/\EY x ws=u/\u.oneCell'=true:=by
 cases x with
 |int k n=>simp only[repC] at h;exact⟨_,h,by simp[EY,h],rfl⟩
 |bool b=>simp only[repC] at h;exact⟨_,h,by simp[EY,h],rfl⟩
 |str s=>simp only[repC] at h;exact⟨_,h,by simp[EY,h],rfl⟩
 |list xs=>simp only[repC] at h;obtain⟨a,cap,e,_⟩:=h;exact⟨_,e,by simp[EY,e],rfl⟩
 |agg cs=>simp[V.isAgg] at hx
 |ref x=>simp only[repC] at h;obtain⟨b,off,us,e,_⟩:=h;exact⟨_,e,by simp[EY,e],rfl⟩
 |fn f fs cs=>simp only[repC] at h;obtain⟨us,vs,e,_⟩:=h;exact⟨_,e,by simp[EY,e],rfl⟩
 |nilfn=>simp only[repC] at h;exact⟨_,h,by simp[EY,h],rfl⟩
 |nilp=>simp only[repC] at h;exact⟨_,h,by simp[EY,h],rfl⟩
 |nils=>simp only[repC] at h;exact⟨_,h,by simp[EY,h],rfl⟩
theorem AZ{M:Mem}{x:V}{u:Value}(hx:x.isAgg=false):repV M x u↔repC M x [u]:=by
 constructor
 ·rintro ⟨ws,h,e⟩
  obtain⟨u',e1,e2,_⟩:=Cl hx h
  rw[e,e2, ←e1];exact h
 ·intro h
  obtain⟨u',e1,e2,_⟩:=Cl hx h
  have:u=u':=by simpa using e1
  exact⟨[u],h,by rw[e2,this]⟩
@[simp] theorem A1 {M:Mem} {k:IntKind} {n:Int} {u:Value}:repV M (.int k n) u↔u=.int k n:=by rw[AZ rfl];simp[repC]
@[simp] theorem Da {M:Mem} {b:Bool} {u:Value}:repV M (.bool b) u↔u=.bool b:=by rw[AZ rfl];simp[repC]
@[simp] theorem C3 {M:Mem} {s:List UInt8} {u:Value}:repV M (.str s) u↔u=.string ⟨s.toArray⟩:=by rw[AZ rfl];simp[repC]
@[simp] theorem repV_nilfn {M:Mem} {u:Value}:repV M .nilfn u↔u=.nilFunc:=by rw[AZ rfl];simp[repC]
@[simp] theorem BY {M:Mem} {u:Value}:repV M .nils u↔u=.slice none 0 0:=by rw[AZ rfl];simp[repC]
@[simp] theorem repV_nilp {M:Mem} {u:Value}:repV M .nilp u↔u=.pointer none:=by rw[AZ rfl];simp[repC]
theorem AO{M:Mem}{xs:List V}{u:Value}:repV M (.list xs) u↔∃a cap,u=.slice a xs.length cap/\xs.length<=cap/\(xs=[]∨∃b off sz us,a=some ⟨b,off,none⟩/\0<sz/\inM M b off us/\repE M sz xs us):=by
 rw[AZ rfl];simp[repC]
theorem Cj(M:Mem):repV M (.list []) (.slice none 0 0):=by rw[AO];exact⟨none,0,rfl,Nat.le_refl _,.inl rfl⟩
theorem C4{M:Mem}{x:V}{u:Value}:repV M (.ref x) u↔∃b off us,u=.pointer (some ⟨b,off,none⟩)/\inM M b off us/\repC M x us:=by rw[AZ rfl];simp[repC]
theorem FV{M:Mem}{f:FuncId}{fs cs:List V}{u:Value}:repV M (.fn f fs cs) u↔∃us vs,u=.func (.func f) us.toArray vs.toArray/\EC M fs us/\EC M cs vs:=by rw[AZ rfl];simp[repC]
theorem BZ{M:Mem}{cs:List V}{u:Value}:repV M (.agg cs) u↔∃ws,repA M cs ws/\u=.agg ws.toArray:=by simp[repV,repC,EY]
theorem C9{M:Mem}{x:V}{u:Value}(hx:x.isAgg=false)(h:repV M x u):u.oneCell'=true:=by
 obtain⟨ws,h,e⟩:=h
 obtain⟨u',e1,e2,h3⟩:=Cl hx h
 rw[e,e2];exact h3
theorem repV_cells{M:Mem}{x:V}{u:Value}(h:repV M x u):repC M x u.cells.toList:=by
 obtain⟨ws,h,e⟩:=h
 cases hx:x.isAgg with
 |false=>
  obtain⟨u',e1,e2,h3⟩:=Cl hx h
  rw[e,e2]
  have:u'.cells= #[u']:=by cases u'<;>simp_all [Value.cells,Value.oneCell']
  rw[this, ←e1];exact h
 |true=>
  cases x with
  |agg cs=>rw[e];simpa[EY,Value.cells] using h
  |_=>simp[V.isAgg] at hx
theorem FX{M:Mem}:∀{cs:List V} {us:List Value},repA M cs us->∀u∈us,u.oneCell'=true
 |[],us,h=>by simp only[repA] at h;simp[h]
 |c::cs,us,h=>by
  simp only[repA] at h
  obtain⟨u,us',rfl,ha,h1,h2⟩:=h
  intro u0 hu
  rcases mem_cons.1 hu with rfl|hu
  ·obtain⟨u',e1,_,h3⟩:=Cl ha h1
   have:u0=u':=by simpa using e1
   rw[this];exact h3
  ·exact FX h2 u0 hu
theorem repC_oneCell{M:Mem}{x:V}{us:List Value}(h:repC M x us):∀u∈us,u.oneCell'=true:=by
 cases hx:x.isAgg with
 |false=>
  obtain⟨u',e1,_,h3⟩:=Cl hx h
  rw[e1];intro u hu;simp at hu;rw[hu];exact h3
 |true=>
  cases x with
  |agg cs=>simp only[repC] at h;exact FX h
  |_=>simp[V.isAgg] at hx
inductive D where
 |v (x:V)
 |acc (k:Nat) (xs:List V)
 |ptr (o off:Nat)
 |arr (o off len:Nat)
 |gro (o len sz:Nat)
 |raw (x:Value)
 |rv (x:V) (u:Value)
 |dagg (cs:List D)
 |dfn (f:FuncId) (fs cs:List D)
 |tup (ds:List D)
 |err
 |undef
 deriving Inhabited
structure Gh where
 M:Mem
 β:Nat->Nat
 n:Nat
 ι:Nat->Nat->Option Value
 κ:Nat->Nat
mutual
def Ae(g:Gh):D->Value->Prop
 |.v x,u=>repV g.M x u
 |.acc k xs,u=>repV g.M (.list xs) u/\g.ι k xs.length=some u
 |.ptr o off,u=>o<g.n/\u=.pointer (some ⟨g.β o,off,none⟩)
 |.arr o off len,u=>o<g.n/\∃cap,len<=cap/\u=.slice (some ⟨g.β o,off,none⟩) len cap
 |.gro o len sz,u=>o<g.n/\∃cap,len<=cap/\cap*sz=g.κ o/\u=.slice (some ⟨g.β o,0,none⟩) len cap
 |.raw x,u=>u=x
 |.rv x u0,u=>u=u0/\repV g.M x u0
 |.dagg cs,u=>∃us,u=.agg us.toArray/\Ac g cs us
 |.dfn f fs cs,u=>∃us vs,u=.func (.func f) us.toArray vs.toArray/\Ac g fs us/\Ac g cs vs
 |.tup ds,u=>∃us,u=.tuple us.toArray/\Ac g ds us
 |.err,u=>∃t p,u=.iface t p
 |.undef,_=>True
def Ac(g:Gh):List D->List Value->Prop
 |[],us=>us=[]
 |d::ds,us=>∃u us',us=u::us'/\Ae g d u/\Ac g ds us'
end
structure Gh.le(g g':Gh):Prop where
 M:g.M.le g'.M
 n:g.n<=g'.n
 β:∀o,o<g.n->g'.β o=g.β o
 ι:∀k m u,g.ι k m=some u->g'.ι k m=some u
 κ:∀o,o<g.n->g'.κ o=g.κ o
theorem Gh.le_refl(g:Gh):g.le g:=⟨g.M.le_refl,Nat.le_refl _,fun _ _=>rfl,fun _ _ _ h=>h,fun _ _=>rfl⟩
theorem Gh.le_trans{g g' g'':Gh}(h:g.le g')(h':g'.le g''):g.le g'':=
 ⟨Mem.le_trans h.M h'.M,Nat.le_trans h.n h'.n,fun o ho=>(h'.β o (Nat.lt_of_lt_of_le ho h.n)).trans (h.β o ho),fun k m u e=>h'.ι k m u (h.ι k m u e),fun o ho=>(h'.κ o (Nat.lt_of_lt_of_le ho h.n)).trans (h.κ o ho)⟩
mutual
theorem Ae.mono{g g':Gh}(hg:g.le g'):∀(d:D) (u:Value),Ae g d u->Ae g' d u
 |.v x,u,h=>by simp only[Ae] at h⊢;exact h.mono hg.M
 |.acc k xs,u,h=>by simp only[Ae] at h⊢;exact⟨h.1.mono hg.M,hg.ι _ _ _ h.2⟩
 |.ptr o off,u,h=>by simp only[Ae] at h⊢;exact⟨Nat.lt_of_lt_of_le h.1 hg.n,by rw[hg.β o h.1];exact h.2⟩
 |.arr o off len,u,h=>by simp only[Ae] at h⊢;exact⟨Nat.lt_of_lt_of_le h.1 hg.n,by rw[hg.β o h.1];exact h.2⟩
 |.gro o len sz,u,h=>by simp only[Ae] at h⊢;exact⟨Nat.lt_of_lt_of_le h.1 hg.n,by rw[hg.β o h.1,hg.κ o h.1];exact h.2⟩
 |.raw x,u,h=>by simpa only[Ae] using h
 |.rv x u0,u,h=>by simp only[Ae] at h⊢;exact⟨h.1,h.2.mono hg.M⟩
 |.dagg cs,u,h=>by
  simp only[Ae] at h⊢
  obtain⟨us,e,h1⟩:=h
  exact⟨us,e,Ac.mono hg cs us h1⟩
 |.dfn f fs cs,u,h=>by
  simp only[Ae] at h⊢
  obtain⟨us,vs,e,h1,h2⟩:=h
  exact⟨us,vs,e,Ac.mono hg fs us h1,Ac.mono hg cs vs h2⟩
 |.tup ds,u,h=>by
  simp only[Ae] at h⊢
  obtain⟨us,e,h1⟩:=h
  exact⟨us,e,Ac.mono hg ds us h1⟩
 |.err,u,h=>by simpa only[Ae] using h
 |.undef,u,_=>by simp only[Ae]
theorem Ac.mono{g g':Gh}(hg:g.le g'):∀(ds:List D) (us:List Value),Ac g ds us->Ac g' ds us
 |[],us,h=>by simpa only[Ac] using h
 |d::ds,us,h=>by
  simp only[Ac] at h⊢
  obtain⟨u,us',e,h1,h2⟩:=h
  exact⟨u,us',e,Ae.mono hg d u h1,Ac.mono hg ds us' h2⟩
end
theorem Ay{g:Gh}:∀{ds:List D} {us:List Value},Ac g ds us->us.length=ds.length
 |[],us,h=>by simp only[Ac] at h;simp[h]
 |d::ds,us,h=>by
  simp only[Ac] at h
  obtain⟨u,us',rfl,_,h2⟩:=h
  simp[Ay h2]
theorem B0{g:Gh}:∀{ds:List D} {us:List Value},Ac g ds us->∀{i:Nat} {d:D},ds[i]?=some d->∃u,us[i]?=some u/\Ae g d u
 |[],us,h,i,d,hd=>by simp at hd
 |d::ds,us,h,i,d',hd=>by
  simp only[Ac] at h
  obtain⟨u,us',rfl,h1,h2⟩:=h
  cases i with
  |zero=>simp at hd;subst hd;exact⟨u,by simp,h1⟩
  |succ i=>simp at hd;obtain⟨u',e,h3⟩:=B0 h2 hd;exact⟨u',by simpa using e,h3⟩
theorem Cu{g:Gh}:∀{ds:List D} {us:List Value},Ac g ds us->∀(i:Nat) {d:D} {u:Value},Ae g d u->Ac g (ds.set i d) (us.set i u)
 |[],us,h,i,d,u,_=>by simp only[Ac] at h;simp[h,Ac]
 |d0::ds,us,h,i,d,u,hd=>by
  simp only[Ac] at h
  obtain⟨u0,us',rfl,h1,h2⟩:=h
  cases i with
  |zero=>simp only[set_cons_zero,Ac];exact⟨u,us',rfl,hd,h2⟩
  |succ i=>simp only[set_cons_succ,Ac];exact⟨u0,_,rfl,h1,Cu h2 i hd⟩
theorem Aq{g:Gh}:∀{ds ds':List D} {us us':List Value},Ac g ds us->Ac g ds' us'->Ac g (ds++ds') (us++us')
 |[],ds',us,us',h,h'=>by simp only[Ac] at h;simpa[h] using h'
 |d::ds,ds',us,us',h,h'=>by
  simp only[Ac] at h
  obtain⟨u,us1,rfl,h1,h2⟩:=h
  simp only[cons_append,Ac]
  exact⟨u,_,rfl,h1,Aq h2 h'⟩
theorem DM{α:Type}{l r:List α}{i:Nat}{x:α}(h:l[i]?=some x):(l++r)[i]?=some x:=by
 rw[getElem?_append_left (List.getElem?_eq_some_iff.1 h).1];exact h
theorem FW{g:Gh}:∀{ds:List D} {us:List Value},Ac g ds us->∀{ds':List D},ds'.length=ds.length->(∀(i:Nat) (d':D),ds'[i]?=some d'->d'=.undef∨ds[i]?=some d')->Ac g ds' us
 |[],us,h,ds',hl,_=>by
  have:ds'=[]:=List.eq_nil_of_length_eq_zero (by simpa using hl)
  subst this;exact h
 |d::ds,us,h,[],hl,_=>by simp at hl
 |d::ds,us,h,d'::ds',hl,hw=>by
  simp only[Ac] at h⊢
  obtain⟨u,us',rfl,h1,h2⟩:=h
  refine⟨u,us',rfl,?_,FW h2 (by simpa using hl) (fun i x hx=>by have:=hw (i+1) x (by simpa using hx);simpa using this)⟩
  rcases hw 0 d' (by simp) with rfl|e
  ·simp only[Ae]
  ·simp at e;subst e;exact h1
abbrev DRW:Prop:=True
def B3(a b:Nat):Prop:=DRW->a<=b
theorem B3.of{a b:Nat}(h:a<=b):B3 a b:=fun _=>h
theorem B3.refl(a:Nat):B3 a a:=.of (Nat.le_refl _)
theorem B3.succ(a:Nat):B3 a (a+1):=.of (Nat.le_succ _)
theorem B3.trans{a b c:Nat}(h:B3 a b)(h':B3 b c):B3 a c:=fun d=>Nat.le_trans (h d) (h' d)
def GLOB:List (Nat×V):=[]
def GLX(_:Mem):Prop:=True
theorem GLX.mono{M M':Mem}(h:GLX M)(_:M.le M'):GLX M':=h
structure EP(M:Mem):Prop where
 known:∀p∈GLOB,∃us,inM M p.1 0 us/\repC M p.2 us
 more:GLX M
theorem EP.mono{M M':Mem}(h:EP M)(hle:M.le M'):EP M':=⟨fun p hp=>
 let ⟨us,h1,h2⟩:=h.known p hp
 ⟨us,h1.mono hle,repC.mono hle _ _ h2⟩,h.more.mono hle⟩
def FM:List (Nat×Nat):=[]
def GW(w:World):Prop:=∀p∈FM,∃cs e x,w.heap[p.1]?=some (.cells cs e x)/\cs.size=p.2
theorem GW.mono{w w':World}(h:GW w)(hs:∀(b:Nat) (cs:Array Value) (e:TypeId) (x:Nat×Nat),w.heap[b]?=some (.cells cs e x)->∃cs' e' x',w'.heap[b]?=some (.cells cs' e' x')/\cs'.size=cs.size):GW w':=fun p hp=>by
 obtain⟨cs,e,x,h1,h2⟩:=h p hp
 obtain⟨cs',e',x',h3,h4⟩:=hs _ _ _ _ h1
 exact⟨cs',e',x',h3,h4.trans h2⟩
theorem GW.keep{w w':World}(h:GW w)(hs:∀b,b<w.heap.size->w'.heap[b]?=w.heap[b]?):GW w':=h.mono fun b cs e x hb=>⟨cs,e,x,(hs b (Array.getElem?_eq_some_iff.1 hb).1).trans hb,rfl⟩
theorem GW.keepG{w w':World}(h:GW w)(hs:∀p∈FM,p.1<w.heap.size->w'.heap[p.1]?=w.heap[p.1]?):GW w':=fun p hp=>by
 obtain⟨cs,e,x,h1,h2⟩:=h p hp
 exact⟨cs,e,x,(hs p hp (Array.getElem?_eq_some_iff.1 h1).1).trans h1,h2⟩
theorem EP.sized{M:Mem}(_:EP M):∀p∈FM,∃v,M p.1 0=some v:=fun p hp=>by simp[FM] at hp
structure St where
 H:List (Option (List D))
 own:List (Nat×Nat×List V)
def D.one:D->Bool
 |.v x=> !x.isAgg
 |.acc .. |.ptr .. |.arr .. |.gro .. |.dfn .. =>true
 |.raw x=>x.oneCell'
 |.rv x _=> !x.isAgg
 |_=>false
def BG:Value->Option Nat
 |.slice (some a) _ cap=>if cap=0 then none else some a.block
 |_=>none
structure NoM(M:Mem)(b n:Nat):Prop where
 none:∀o,n<=o->M b o=Option.none
 ng:∀p∈FM,p.1≠b
instance {M:Mem} {b n:Nat}:CoeFun (NoM M b n) fun _=>∀o,n<=o->M b o=Option.none:=⟨NoM.none⟩
def Perm(M:Mem)(w:World)(sz:Nat)(u:Value):Prop:=
 (∃a,u=.slice a 0 0)∨∃b f len cap cur e,u=.slice (some ⟨b,f,none⟩) len cap/\w.heap[b]?=some (.cells cur e (0,0))/\len<=cap/\f+cap*sz<=cur.size/\NoM M b (f+len*sz)
structure WRep(g:Gh)(σ:St)(w:World):Prop where
 n:g.n=σ.H.length
 mem:∀b o v,g.M b o=some v->w.cell? ⟨b,o,none⟩=some v
 obj:∀i cs,σ.H[i]?=some (some cs)->∃us rest e,w.heap[g.β i]?=some (.cells (us++rest).toArray e (0,0))/\Ac g cs us/\(∀c∈cs,c.one=true)/\(∀o,g.M (g.β i) o=none)/\(us++rest).length=g.κ i
 inj:∀i j cs ds,σ.H[i]?=some (some cs)->σ.H[j]?=some (some ds)->g.β i=g.β j->i=j
 own:∀k sz xs,(k,sz,xs)∈σ.own->(0<sz/\∀x∈xs,x.size=sz)/\∃u,g.ι k xs.length=some u/\repV g.M (.list xs) u/\Perm g.M w sz u/\∀m,xs.length<m->g.ι k m=none
 tags:(σ.own.map (·.1)).Nodup
 sep:∀x∈σ.own,∀y∈σ.own,x.1≠y.1->∀u u',g.ι x.1 x.2.2.length=some u->g.ι y.1 y.2.2.length=some u'->∀b,BG u=some b->BG u'≠some b
 ownObj:∀x∈σ.own,∀u,g.ι x.1 x.2.2.length=some u->∀b,BG u=some b->∀i cs,σ.H[i]?=some (some cs)->g.β i≠b
 fresh:∀k,(∀x∈σ.own,x.1≠k)->∀m,g.ι k m=none
 gl:EP g.M
 gw:GW w
structure Ent where
 g:Gh
 w:World
 σ:St
def Ent.priv(E:Ent)(b:Nat):Prop:=
 (∃i cs,E.σ.H[i]?=some (some cs)/\b=E.g.β i)∨(∃x∈E.σ.own,∃u,E.g.ι x.1 x.2.2.length=some u/\BG u=some b)
structure WI(E:Ent)(g:Gh)(σ:St)(w:World):Prop where
 rep:WRep g σ w
 M:E.g.M.le g.M
 size:E.w.heap.size<=w.heap.size
 keep:∀b,b<E.w.heap.size->¬E.priv b->w.heap[b]?=E.w.heap[b]?/\∀o,g.M b o=E.g.M b o
 os:w.os=E.w.os
 tape:w.tape=E.w.tape
 output:w.output=E.w.output
 nE:E.g.n<=g.n
 βE:∀o,o<E.g.n->g.β o=E.g.β o
 κE:∀o,o<E.g.n->g.κ o=E.g.κ o
 objs:∀i cs,σ.H[i]?=some (some cs)->E.w.heap.size<=g.β i∨E.priv (g.β i)
 owns:∀x∈σ.own,∀u,g.ι x.1 x.2.2.length=some u->∀b,BG u=some b->E.w.heap.size<=b∨E.priv b
 drawn:B3 E.w.drawn w.drawn
structure FI(E:Ent)(g:Gh)(σ:St)(env:List D)(a:Act)(w:World):Prop where
 wi:WI E g σ w
 env:Ac g env a.tmps.toList
 defers:a.defers=[]
theorem WI.start{g:Gh}{w:World}{σ:St}(h:WRep g σ w):WI ⟨g,w,σ⟩ g σ w where
 rep:=h
 M:=Mem.le_refl _
 size:=Nat.le_refl _
 keep:=fun _ _ _=>⟨rfl,fun _=>rfl⟩
 os:=rfl
 tape:=rfl
 output:=rfl
 nE:=Nat.le_refl _
 βE:=fun _ _=>rfl
 κE:=fun _ _=>rfl
 objs:=fun i cs h=>.inr (.inl ⟨i,cs,h,rfl⟩)
 owns:=fun x hx u hu _ hb=>.inr (.inr ⟨x,hx,u,hu,hb⟩)
 drawn:=B3.refl _
def constD:Value->D
 |.int k n=>.v (.int k n)
 |.bool b=>.v (.bool b)
 |.string s=>.v (.str s.data.toList)
 |.slice none 0 0=>.v (.list [])
 |.nilFunc=>.v .nilfn
 |.pointer none=>.v .nilp
 |_=>.undef
theorem repD_const(g:Gh)(u:Value):Ae g (constD u) u:=by
 unfold constD
 split<;>simp[Ae,Cj]
def globD(n:Nat):D:=match GLOB.find? (·.1==n) with|some p=>.v (.ref p.2)|none=>.undef
theorem repD_glob{g:Gh}(hG:EP g.M)(n:Nat):Ae g (globD n) (.pointer (some ⟨n,0,none⟩)):=by
 unfold globD
 cases h:GLOB.find? (·.1==n) with
 |none=>simp[Ae]
 |some p=>
  obtain⟨us,h1,h2⟩:=hG.known p (List.mem_of_find?_eq_some h)
  have h3:=List.find?_some h
  simp only[beq_iff_eq] at h3
  simp only[Ae,C4]
  exact⟨n,0,us,rfl,h3▸h1,h2⟩
def evD(env:List D):Operand->D
 |.tmp t=>env.getD t .undef
 |.const u=>constD u
 |.global n=>globD n
 |.func f=>.v (.fn f [] [])
theorem ED{g:Gh}{env:List D}{a:Act}(h:Ac g env a.tmps.toList)(t:Nat):Ae g (evD env (.tmp t)) (a.eval (.tmp t)):=by
 simp only[evD,Act.eval]
 cases hd:env[t]? with
 |none=>rw[getD_eq_getElem?_getD,hd];simp[Ae]
 |some d=>
  obtain⟨u,hu,hr⟩:=B0 h hd
  rw[getD_eq_getElem?_getD,hd]
  have:a.tmps.getD t undef=u:=by
   rw[Array.getD_eq_getD_getElem?]
   have:a.tmps[t]?=some u:=by rw[←Array.getElem?_toList];exact hu
   simp[this]
  rw[this];exact hr
theorem repD_ev{g:Gh}{env:List D}{a:Act}(hG:EP g.M)(h:Ac g env a.tmps.toList)(x:Operand):Ae g (evD env x) (a.eval x):=by
 cases x with
 |tmp t=>exact ED h t
 |const u=>exact repD_const g u
 |global n=>exact repD_glob hG n
 |func f=>simp only[evD,Ae,FV,Act.eval];exact⟨[],[],rfl,by simp[EC],by simp[EC]⟩
def DY(env:List D)(o:Oper):List D:=o.op.operands.toList.map (evD env)
theorem E2{g:Gh}{env:List D}{a:Act}(hG:EP g.M)(h:Ac g env a.tmps.toList):∀(l:List Operand),Ac g (l.map (evD env)) (l.map a.eval)
 |[]=>by simp[Ac]
 |x::l=>by simp only[map_cons,Ac];exact⟨_,_,rfl,repD_ev hG h x,E2 hG h l⟩
def Ai(P:Program)(o:Oper)(ds:List D)(σ:St)(d:D)(σ':St):Prop:=
 ∀(E:Ent) (g:Gh) (a:Act) (w:World) (K:Act->World->Prop) (Q:Exit->Act->World->Prop),WI E g σ w->
  Ac g ds (o.op.operands.toList.map a.eval)->
  (∀g' w' u,WI E g' σ' w'->g.le g'->Ae g' d u->K (a.put o.dst u) w')->o.wp P a w K Q
theorem repD_undef(g:Gh):Ae g (.tup []) undef:=by simp only[Ae];exact⟨[],rfl,by simp[Ac]⟩
def AK(env:List D):Option Tmp->D->List D
 |some t,d=>env.set t d
 |none,_=>env
theorem FI.put{E:Ent}{g g':Gh}{σ σ':St}{env:List D}{a:Act}{w w':World}(h:FI E g σ env a w)(hw:WI E g' σ' w')(hg:g.le g'){u:Value}{d:D}(hd:Ae g' d u)(t:Option Tmp):
  FI E g' σ' (AK env t d) (a.put t u) w':=by
 refine⟨hw,?_,?_⟩
 ·cases t with
  |none=>exact Ac.mono hg _ _ h.env
  |some t=>
   simp only[AK,Act.put,Array.toList_setIfInBounds]
   exact Cu (Ac.mono hg _ _ h.env) t hd
 ·cases t<;>exact h.defers
def B7(env:List D)(ops:Array Oper)(o:Oper):Option Bool:=
 match o.guard with
 |none=>some true
 |some (j,want)=>match ((ops[j]?).bind (·.dst)).bind (env[·]?) with
  |some (.v (.bool b))=>some (b==want)
  |some (.tup _)=>some false
  |_=>none
theorem Ch{g:Gh}{env:List D}{a:Act}(h:Ac g env a.tmps.toList){ops:Array Oper}{o:Oper}{b:Bool}(hw:B7 env ops o=some b):
  Region.wanted o (yielded ops a.tmps)=b:=by
 unfold B7 at hw
 unfold Region.wanted
 cases hg:o.guard with
 |none=>simp[hg] at hw⊢;exact hw
 |some p=>
  obtain⟨j,want⟩:=p
  simp only[hg] at hw⊢
  cases hj:(ops[j]?).bind (·.dst) with
  |none=>simp[hj] at hw
  |some t=>
   simp only[hj,Option.bind_some] at hw
   cases he:env[t]? with
   |none=>simp[he] at hw
   |some d=>
    simp only[he] at hw
    obtain⟨u,hu,hr⟩:=B0 h he
    have hu':a.tmps[t]?=some u:=by rw[←Array.getElem?_toList];exact hu
    split at hw
    ·rename_i b' e
     simp only[Option.some.injEq] at e
     subst e
     simp only[Ae,Da] at hr
     subst hr
     simp only[yielded,hj,Option.bind_some,hu']
     simp at hw
     rw[←hw]
     cases b'<;>cases want<;>rfl
    ·rename_i ds e
     simp only[Option.some.injEq] at e
     subst e
     simp only[Ae] at hr
     obtain⟨us,rfl,_⟩:=hr
     simp only[yielded,hj,Option.bind_some,hu']
     simp at hw
     subst hw
     rfl
    ·simp at hw
inductive KI where
 |code (c:Code)
 |blk (id:Nat)
 |lp (c:Code)
def lpwp(P:Program)(c:Code)(Q:Exit->Act->World->Prop)(a:Act)(w:World):Prop:=
 ∀(b:Frame) (k:List Item) (cs:List Frame),
  ∃e a' w',Q e a' w'/\Arrives P (lone (b.at a (.code c:: .inLoop c::k)) cs w) b k cs e a' w'
def KQ(P:Program)(B:Exit->Act->World->Prop):List KI->Exit->Act->World->Prop
 |[],e,a,w=>B e a w
 |.code c::k,e,a,w=>match e with
  |.normal=>c.wp P (KQ P B k) a w
  |e=>KQ P B k e a w
 |.lp c::k,e,a,w=>match e with
  |.normal=>lpwp P c (KQ P B k) a w
  |e=>KQ P B k e a w
 |.blk id::k,e,a,w=>match e with
  |.exit id'=>if id'=id then KQ P B k .normal a w else KQ P B k (.exit id') a w
  |e=>KQ P B k e a w
def A2(C:Ent->Ent->Prop)(P:Program)(R:List D->St->Prop)(k:List KI)(env:List D)(σ:St):Prop:=
 ∀(E0 E:Ent) (g:Gh) (a:Act) (w:World) (B:Exit->Act->World->Prop),C E0 E->FI E g σ env a w->
  (∀g' env' σ' a' w',FI E0 g' σ' env' a' w'->R env' σ'->B .ret a' w'/\B .normal a' w')->KQ P B k .normal a w
abbrev SameE(E0 E:Ent):Prop:=E0=E
structure GU(C:Ent->Ent->Prop):Prop where
 ok:∀{E0 E:Ent},C E0 E->∀{g:Gh} {σ:St} {w:World},WI E g σ w->WI E0 g σ w
theorem sameLink:GU SameE:=⟨fun h _ _ _ hw=>by rw[h];exact hw⟩
theorem FI.link{C:Ent->Ent->Prop}(L:GU C){E0 E:Ent}(hC:C E0 E){g:Gh}{σ:St}{env:List D}{a:Act}{w:World}(h:FI E g σ env a w):FI E0 g σ env a w:=⟨L.ok hC h.wi,h.env,h.defers⟩
abbrev Run(P:Program)(R:List D->St->Prop)(k:List KI)(env:List D)(σ:St):Prop:=A2 SameE P R k env σ
section
variable {C : Ent -> Ent -> Prop} {P : Program} {R : List D -> St -> Prop} {k : List KI} {env : List D} {σ : St}
theorem run_nilC(L:GU C)(h:R env σ):A2 C P R [] env σ:=fun _ _ _ _ _ _ hC hf hB=>(hB _ _ _ _ _ (hf.link L hC) h).2
theorem KQ_ret{B:Exit->Act->World->Prop}{a:Act}{w:World}(h:B .ret a w):∀k:List KI,KQ P B k .ret a w
 |[]=>h
 |.code _::k=>by simp only[KQ];exact KQ_ret h k
 |.lp _::k=>by simp only[KQ];exact KQ_ret h k
 |.blk _::k=>by simp only[KQ];exact KQ_ret h k
theorem G6(L:GU C)(h:R env σ):A2 C P R (.code .ret::k) env σ:=fun _ _ _ _ _ _ hC hf hB=>by
 simp only[KQ]
 exact wp_ret (KQ_ret (hB _ _ _ _ _ (hf.link L hC) h).1 k)
theorem run_skip(h:A2 C P R k env σ):A2 C P R (.code .skip::k) env σ:=fun E0 E g a w B hC hf hB=>by
 simp only[KQ]
 exact wp_skip (h E0 E g a w B hC hf hB)
theorem run_label{l:Nat}(h:A2 C P R k env σ):A2 C P R (.code (.label l)::k) env σ:=fun E0 E g a w B hC hf hB=>by
 simp only[KQ]
 exact wp_label (h E0 E g a w B hC hf hB)
theorem run_blk{id:Nat}(h:A2 C P R k env σ):A2 C P R (.blk id::k) env σ:=fun E0 E g a w B hC hf hB=>by
 simp only[KQ]
 exact h E0 E g a w B hC hf hB
theorem run_seq{x y:Code}(h:A2 C P R (.code x:: .code y::k) env σ):A2 C P R (.code (.seq x y)::k) env σ:=fun E0 E g a w B hC hf hB=>by
 have:=h E0 E g a w B hC hf hB
 simp only[KQ] at this⊢
 exact wp_seq (wp_mono this fun e a w q=>by cases e<;>exact q)
theorem run_block{id:Nat}{c:Code}(h:A2 C P R (.code c:: .blk id::k) env σ):A2 C P R (.code (.block id c)::k) env σ:=fun E0 E g a w B hC hf hB=>by
 have:=h E0 E g a w B hC hf hB
 simp only[KQ] at this⊢
 exact wp_block (wp_mono this fun e a w q=>by cases e<;>simpa only[KQ,Exit.inBlock] using q)
theorem run_cond{c:Operand}{x y:Code}{b:Bool}(hc:evD env c=.v (.bool b))(ht:b=true->A2 C P R (.code x::k) env σ)(hf:b=false->A2 C P R (.code y::k) env σ):
  A2 C P R (.code (.cond c x y)::k) env σ:=fun E0 E g a w B hC hfi hB=>by
 have hr:=repD_ev hfi.wi.rep.gl hfi.env c
 rw[hc] at hr
 have hr':a.eval c=.bool b:=by simpa only[Ae,Da] using hr
 simp only[KQ]
 refine wp_cond_split hr' (fun hb=>?_) (fun hb=>?_)
 ·have:=ht hb E0 E g a w B hC hfi hB;simpa only[KQ] using this
 ·have:=hf hb E0 E g a w B hC hfi hB;simpa only[KQ] using this
theorem run_lp{c:Code}(h:A2 C P R (.code c:: .lp c::k) env σ):A2 C P R (.lp c::k) env σ:=fun E0 E g a w B hC hfi hB=>by
 have:=h E0 E g a w B hC hfi hB
 simp only[KQ] at this⊢
 intro b kk cs
 obtain⟨e,a₁,w₁,hq,harr⟩:=this b (.inLoop c::kk) cs
 cases e with
 |normal=>
  simp only at hq
  obtain⟨e₂,a₂,w₂,hq₂,harr₂⟩:=hq b kk cs
  exact⟨e₂,a₂,w₂,hq₂,.of_steps (Steps.trans harr (.one step_inLoop)) harr₂⟩
 |exit id=>exact⟨_,a₁,w₁,hq,.pass (x:=.inLoop c) rfl (fun _ _=>.inl (by simp)) harr⟩
 |goto l=>exact⟨_,a₁,w₁,hq,.pass (x:=.inLoop c) rfl (fun _ _=>.inl (by simp)) harr⟩
 |ret=>exact⟨_,a₁,w₁,hq,.pass (x:=.inLoop c) rfl (fun _ _=>.inl (by simp)) harr⟩
 |panic ch=>exact⟨_,a₁,w₁,hq,.pass (x:=.inLoop c) rfl (fun _ _=>.inl (by simp)) harr⟩
 |outgrown=>exact⟨_,a₁,w₁,hq,.pass (x:=.inLoop c) rfl (fun _ _=>.inl (by simp)) harr⟩
theorem run_loop{c:Code}(h:A2 C P R (.lp c::k) env σ):A2 C P R (.code (.loop c)::k) env σ:=fun E0 E g a w B hC hfi hB=>by
 have:=h E0 E g a w B hC hfi hB
 simp only[KQ] at this⊢
 intro b kk cs
 obtain⟨e,a',w',hq,harr⟩:=this b kk cs
 exact⟨e,a',w',hq,.of_steps (.one step_loop) harr⟩
def FZ(id:Nat):List KI->Option (List KI)
 |[]=>none
 |.blk id'::k=>if id'=id then some k else FZ id k
 |_::k=>FZ id k
theorem KQ_exit{B:Exit->Act->World->Prop}{a:Act}{w:World}{id:Nat}:∀{k k':List KI},FZ id k=some k'->KQ P B k' .normal a w->KQ P B k (.exit id) a w
 |[],k',h,_=>by simp[FZ] at h
 |.code c::k,k',h,q=>by simp only[FZ] at h;simp only[KQ];exact KQ_exit h q
 |.lp c::k,k',h,q=>by simp only[FZ] at h;simp only[KQ];exact KQ_exit h q
 |.blk id'::k,k',h,q=>by
  simp only[FZ] at h
  simp only[KQ]
  by_cases e:id'=id
  ·rw[if_pos e] at h
   simp at h;subst h
   rw[if_pos e.symm];exact q
  ·rw[if_neg e] at h
   rw[if_neg (fun x=>e x.symm)]
   exact KQ_exit h q
theorem run_exit{id:Nat}{k':List KI}(hk:FZ id k=some k')(h:A2 C P R k' env σ):A2 C P R (.code (.exit id)::k) env σ:=fun E0 E g a w B hC hfi hB=>by
 simp only[KQ]
 exact wp_exit (KQ_exit hk (h E0 E g a w B hC hfi hB))
theorem FT{env':List D}(hl:env'.length=env.length)(he:∀(i:Nat) (d':D),env'[i]?=some d'->d'=.undef∨env[i]?=some d')(h:A2 C P R k env' σ):A2 C P R k env σ:=fun E0 E g a w B hC hfi hB=>
 h E0 E g a w B hC ⟨hfi.wi,FW hfi.env hl he,hfi.defers⟩ hB
end
def Callable(P:Program)(f:FuncId):Prop:=∃fn,P.funcs[f]?=some fn/\(fn.name=="runtime.NumGoroutine")=false/\fn.body.isNone=false
def Ab(P:Program)(f:FuncId)(ds:List D)(σ:St)(d:D)(σ':St):Prop:=
 Callable P f/\∀(g:Gh) (w:World) (args:List Value),WRep g σ w->Ac g ds args->
  Calls P f args.toArray w fun e w'=>∃u g',e=.returned u/\WI ⟨g,w,σ⟩ g' σ' w'/\Ae g' d u
def A8(P:Program)(fn:Func)(env:List D)(σ:St)(d:D)(σ':St):Prop:=
 ∀E g a w,FI E g σ env a w->E.g.n<=σ'.H.length->∃u g',(results fn a.tmps).run P w=.ok u w/\WI E g' σ' w/\Ae g' d u
theorem spec_of_run{P:Program}{f:FuncId}{fn:Func}{c:Code}{ds:List D}{σ σ':St}{d:D}(hf:P.funcs[f]?=some fn)(hb:fn.body=some c)(hn:(fn.name=="runtime.NumGoroutine")=false)
  (hH:σ.H.length<=σ'.H.length) (h:Run P (fun env σ1=>A8 P fn env σ1 d σ') [.code c] (ds++replicate (fn.ntmps-ds.length) .undef) σ):Ab P f ds σ d σ':=by
 refine⟨⟨fn,hf,hn,by simp[hb]⟩,fun g w args hw hargs=>?_⟩
 refine calls_of_wp hf hb ?_
 have hfi:FI ⟨g,w,σ⟩ g σ (ds++replicate (fn.ntmps-ds.length) .undef) { tmps:=args.toArray++Array.replicate (fn.ntmps-args.toArray.size) undef,defers:=[]} w:=by
  refine⟨WI.start hw,?_,rfl⟩
  have hl:=Ay hargs
  simp only[Array.toList_append,Array.toList_replicate,size_toArray,hl]
  refine Aq hargs ?_
  generalize fn.ntmps-ds.length=m
  induction m with
  |zero=>simp[Ac]
  |succ m ih=>simp only[replicate_succ,Ac];exact⟨_,_,rfl,by simp[Ae],ih⟩
 have:=h ⟨g,w,σ⟩ ⟨g,w,σ⟩ g _ w (bodyPost P fn fun e w'=>∃u g',e=.returned u/\WI ⟨g,w,σ⟩ g' σ' w'/\Ae g' d u) rfl hfi ?_
 ·simp only[KQ] at this
  exact this
 ·intro g' env' σ1 a' w' hfi' hR
  obtain⟨u,g2,h1,h2,h3⟩:=hR _ _ _ _ hfi' (by rw[hw.n];exact hH)
  have:a'.defers=[]/\∃v,(results fn a'.tmps).run P w'=.ok v w'/\∃u g',Ending.returned v=.returned u/\WI ⟨g,w,σ⟩ g' σ' w'/\Ae g' d u:=
   ⟨hfi'.defers,u,h1,u,g2,rfl,h2,h3⟩
  exact⟨this,this⟩
def CZ(P:Program)(t:TypeId):Option (Nat×Bool):=
 match P.info? t,P.underlying t with
 |some i,some d=>some (i.size,match d with|.struct _|.array _ _=>true|_=>false)
 |_,_=>none
def OneTy(P:Program)(t:TypeId):Prop:=CZ P t=some (1,false)
def AggTy(P:Program)(t:TypeId)(n:Nat):Prop:=CZ P t=some (n,true)
def BJ(P:Program)(t:TypeId):Option (TypeId×Nat×Nat×Option Value):=
 match P.underlying t with
 |some (.slice e)=>(P.info? e).map fun i=>(e,i.size,i.bytes,i.zero)
 |_=>none
def fldTy(P:Program)(s:TypeId)(f:Nat):Option (Nat×Nat×Bool):=
 match P.underlying s with
 |some (.struct fs)=>(fs[f]?).bind fun x=>(CZ P x.type).map fun p=>(x.offset,p.1,p.2)
 |_=>none
def arTy(P:Program)(t:TypeId):Option (Nat×Nat×Bool):=
 match P.underlying t with
 |some (.array n e)=>(CZ P e).map fun p=>(n,p.1,p.2)
 |_=>none
theorem szAgg_parts{P:Program}{t:TypeId}{n:Nat}{b:Bool}(h:CZ P t=some (n,b)):
  ∃i d,P.info? t=some i/\P.underlying t=some d/\i.size=n/\(match d with|.struct _|.array _ _=>true|_=>false)=b:=by
 unfold CZ at h
 split at h
 ·rename_i i d hi hd
  simp at h
  exact⟨i,d,hi,hd,h.1,h.2⟩
 ·simp at h
theorem Cs{P:Program}{t:TypeId}{n:Nat}{b:Bool}(h:CZ P t=some (n,b))(w:World):(isAgg t).run P w=.ok b w:=by
 obtain⟨i,d,hi,hd,_,hb⟩:=szAgg_parts h
 unfold isAgg
 rw[Sem.run_bind,run_underlying hd w]
 subst hb
 cases d<;>simp
theorem run_sizeOf'{P:Program}{t:TypeId}{n:Nat}{b:Bool}(h:CZ P t=some (n,b))(w:World):(sizeOf t).run P w=.ok n w:=by
 obtain⟨i,d,hi,hd,hn,_⟩:=szAgg_parts h
 simp[sizeOf,typeInfo,hi,hn]
theorem A6{P:Program}{t e:TypeId}{sz by':Nat}{z:Option Value}(h:BJ P t=some (e,sz,by',z)):
  ∃i,P.underlying t=some (.slice e)/\P.info? e=some i/\i.size=sz/\i.bytes=by'/\i.zero=z:=by
 unfold BJ at h
 split at h
 ·rename_i e' he
  cases hi:P.info? e' with
  |none=>simp[hi] at h
  |some i=>
   simp[hi] at h
   obtain⟨rfl,h1,h2,h3⟩:=h
   exact⟨i,he,hi,h1,h2,h3⟩
 ·simp at h
theorem GL{P:Program}{s:TypeId}{f off n:Nat}{b:Bool}(h:fldTy P s f=some (off,n,b)):
  ∃fs x,P.underlying s=some (.struct fs)/\fs[f]?=some x/\x.offset=off/\CZ P x.type=some (n,b):=by
 unfold fldTy at h
 split at h
 ·rename_i fs hs
  cases hx:fs[f]? with
  |none=>simp[hx] at h
  |some x=>
   simp only[hx,Option.bind_some] at h
   cases hz:CZ P x.type with
   |none=>simp[hz] at h
   |some p=>
    simp[hz] at h
    obtain⟨h1,h2⟩:=h
    exact⟨fs,x,hs,hx,h1,by rw[hz];cases p;simp_all⟩
 ·simp at h
theorem arTy_parts{P:Program}{t:TypeId}{len n:Nat}{b:Bool}(h:arTy P t=some (len,n,b)):
  ∃e,P.underlying t=some (.array len e)/\CZ P e=some (n,b):=by
 unfold arTy at h
 split at h
 ·rename_i l e he
  cases hz:CZ P e with
  |none=>simp[hz] at h
  |some p=>
   simp[hz] at h
   obtain⟨rfl,h2⟩:=h
   exact⟨e,he,by rw[hz];cases p;simp_all⟩
 ·simp at h
section
variable {P : Program} {o : Oper} {ds : List D} {σ σ' : St} {d : D}
theorem Ax(h:∀E g (ρ:Operand->Value) w,WI E g σ w->Ac g ds (o.op.operands.toList.map ρ)->∃u,(execOp ρ o).run P w=.ok (.value u) w/\Ae g d u):Ai P o ds σ d σ:=by
 intro E g a w K Q hw hds hK
 obtain⟨u,hr,hd⟩:=h E g a.eval w hw hds
 unfold Oper.wp
 rw[hr]
 exact hK g w u hw g.le_refl hd
theorem BQ{ds':List D}(hs:∀g us,Ac g ds us->Ac g ds' us)(h:Ai P o ds' σ d σ'):Ai P o ds σ d σ':=
 fun E g a w K Q hw hds hK=>h E g a w K Q hw (hs g _ hds) hK
def D.un:D->D
 |.acc _ xs=>.v (.list xs)
 |d=>d
theorem repD_un{g:Gh}{d:D}{u:Value}(h:Ae g d u):Ae g d.un u:=by
 cases d<;>simp only[D.un]<;>first|exact h|(simp only[Ae] at h⊢;exact h.1)
theorem DP{g:Gh}:∀{ds:List D} {us:List Value},Ac g ds us->Ac g (ds.map D.un) us
 |[],us,h=>by simpa using h
 |d::ds,us,h=>by
  simp only[Ac,map_cons] at h⊢
  obtain⟨u,us',e,h1,h2⟩:=h
  exact⟨u,us',e,repD_un h1,DP h2⟩
theorem opOK_un(h:Ai P o (ds.map D.un) σ d σ'):Ai P o ds σ d σ':=BQ (fun _ _=>DP) h
theorem A0{g:Gh}{d:D}{us:List Value}:Ac g [d] us↔∃u,us=[u]/\Ae g d u:=by
 simp only[Ac]
 constructor
 ·rintro ⟨u,us',rfl,h,rfl⟩;exact⟨u,rfl,h⟩
 ·rintro ⟨u,rfl,h⟩;exact⟨u,[],rfl,h,rfl⟩
theorem Ap{g:Gh}{d e:D}{us:List Value}:Ac g [d,e] us↔∃u v,us=[u,v]/\Ae g d u/\Ae g e v:=by
 simp only[Ac]
 constructor
 ·rintro ⟨u,us',rfl,h,v,us'',rfl,h',rfl⟩;exact⟨u,v,rfl,h,h'⟩
 ·rintro ⟨u,v,rfl,h,h'⟩;exact⟨u,[v],rfl,h,v,[],rfl,h',rfl⟩
theorem DQ{g:Gh}{d e f:D}{us:List Value}:Ac g [d,e,f] us↔∃u v x,us=[u,v,x]/\Ae g d u/\Ae g e v/\Ae g f x:=by
 constructor
 ·intro h
  simp only[Ac] at h
  obtain⟨u,us',rfl,h,v,us'',rfl,h',x,us3,rfl,h'',rfl⟩:=h
  exact⟨u,v,x,rfl,h,h',h''⟩
 ·rintro ⟨u,v,x,rfl,h,h',h''⟩
  simp only[Ac]
  exact⟨u,[v,x],rfl,h,v,[x],rfl,h',x,[],rfl,h'',rfl⟩
theorem op_move{x:Operand}(ho:o.op=.move x):Ai P o [d] σ d σ:=by
 refine Ax fun E g ρ w hw hds=>?_
 simp only[ho,Op.operands,A0] at hds
 obtain⟨u,e,hd⟩:=hds
 simp at e
 exact⟨u,by simp[execOp,ho,e],hd⟩
theorem Hh{x:Operand}(ho:o.op=.assign x):Ai P o [d] σ d σ:=by
 refine Ax fun E g ρ w hw hds=>?_
 simp only[ho,Op.operands,A0] at hds
 obtain⟨u,e,hd⟩:=hds
 simp at e
 exact⟨u,by simp[execOp,ho,e],hd⟩
theorem op_pick{c x y:Operand}(ho:o.op=.pick c x y){b:Bool}{d1 d2:D}:Ai P o [.v (.bool b),d1,d2] σ (if b then d1 else d2) σ:=by
 refine Ax fun E g ρ w hw hds=>?_
 simp only[ho,Op.operands,DQ] at hds
 obtain⟨u,v,z,e,h1,h2,h3⟩:=hds
 simp only[map_cons,map_nil,List.cons.injEq,and_true] at e
 obtain⟨e1,e2,e3⟩:=e
 simp only[Ae,Da] at h1
 refine⟨if b then v else z,?_,?_⟩
 ·simp only[execOp,ho,e1,h1,e2,e3]
  cases b<;>simp[asBool]
 ·cases b<;>simp[h2,h3]
def binI(op:BinOp)(k:IntKind)(a b:Int):Option V:=
 match op with
 |.add=>some (.int k (k.wrap (a+b)))
 |.sub=>some (.int k (k.wrap (a-b)))
 |.mul=>some (.int k (k.wrap (a*b)))
 |.and=>some (.int k (k.wrap (BitVec.ofInt k.bits a&&&BitVec.ofInt k.bits b).toNat))
 |.or=>some (.int k (k.wrap (BitVec.ofInt k.bits a|||BitVec.ofInt k.bits b).toNat))
 |.xor=>some (.int k (k.wrap (BitVec.ofInt k.bits a^^^BitVec.ofInt k.bits b).toNat))
 |.andNot=>some (.int k (k.wrap (BitVec.ofInt k.bits a&&& ~~~BitVec.ofInt k.bits b).toNat))
 |.eql=>some (.bool (a==b))
 |.neq=>some (.bool (a !=b))
 |.lss=>some (.bool (a<b))
 |.leq=>some (.bool (a<=b))
 |.gtr=>some (.bool (a>b))
 |.geq=>some (.bool (a>=b))
 |_=>none
theorem Hg{op:BinOp}{t ty:TypeId}{x y:Operand}(ho:o.op=.binOp op t x y ty){k:IntKind}{a b:Int}{r:V}(hr:binI op k a b=some r):
  Ai P o [.v (.int k a),.v (.int k b)] σ (.v r) σ:=by
 refine Ax fun E g ρ w hw hds=>?_
 simp only[ho,Op.operands,Ap] at hds
 obtain⟨u,v,e,h1,h2⟩:=hds
 simp only[map_cons,map_nil,List.cons.injEq,and_true] at e
 obtain⟨e1,e2⟩:=e
 simp only[Ae,A1] at h1 h2
 subst h1 h2
 cases op<;>simp only[binI,Option.some.injEq,reduceCtorEq] at hr<;>subst hr<;>
  simp[execOp,ho,e1,e2,eqGuard,binOp,Op.intArith,Op.intBits,Op.intCmp,Ae]
def quoI(op:BinOp)(k:IntKind)(a b:Int):Option V:=
 match op with
 |.quo=>some (.int k (k.wrap (a.tdiv b)))
 |.rem=>some (.int k (a.tmod b))
 |_=>none
theorem op_quoI{op:BinOp}{t ty:TypeId}{x y:Operand}(ho:o.op=.binOp op t x y ty){k:IntKind}{a b:Int}{r:V}(hr:quoI op k a b=some r)(hb:b≠0):
  Ai P o [.v (.int k a),.v (.int k b)] σ (.v r) σ:=by
 refine Ax fun E g ρ w hw hds=>?_
 simp only[ho,Op.operands,Ap] at hds
 obtain⟨u,v,e,h1,h2⟩:=hds
 simp only[map_cons,map_nil,List.cons.injEq,and_true] at e
 obtain⟨e1,e2⟩:=e
 simp only[Ae,A1] at h1 h2
 subst h1 h2
 cases op<;>simp only[quoI,Option.some.injEq,reduceCtorEq] at hr<;>subst hr<;>
  simp[execOp,ho,e1,e2,eqGuard,binOp,Op.intDiv,hb,Ae]
def shI(op:BinOp)(k:IntKind)(a b:Int):Option V:=
 match op with
 |.shl=>some (.int k (k.wrap (a*2^(min b.toNat k.bits))))
 |.shr=>some (.int k (a.fdiv (2^(min b.toNat k.bits))))
 |_=>none
theorem op_shI{op:BinOp}{t ty:TypeId}{x y:Operand}(ho:o.op=.binOp op t x y ty){k k':IntKind}{a b:Int}{r:V}(hr:shI op k a b=some r)(hb:0<=b):
  Ai P o [.v (.int k a),.v (.int k' b)] σ (.v r) σ:=by
 refine Ax fun E g ρ w hw hds=>?_
 simp only[ho,Op.operands,Ap] at hds
 obtain⟨u,v,e,h1,h2⟩:=hds
 simp only[map_cons,map_nil,List.cons.injEq,and_true] at e
 obtain⟨e1,e2⟩:=e
 simp only[Ae,A1] at h1 h2
 subst h1 h2
 have hb':¬b<0:=by omega
 cases op<;>simp only[shI,Option.some.injEq,reduceCtorEq] at hr<;>subst hr<;>
  simp[execOp,ho,e1,e2,eqGuard,binOp,Op.shift,hb',Ae]
def binS(op:BinOp)(a b:List UInt8):Option V:=
 match op with
 |.eql=>some (.bool (a==b))
 |.neq=>some (.bool !(a==b))
 |.lss=>some (.bool (Op.bytesLess a b))
 |.leq=>some (.bool (Op.bytesLess a b||a==b))
 |.gtr=>some (.bool !(Op.bytesLess a b||a==b))
 |.geq=>some (.bool !(Op.bytesLess a b))
 |_=>none
theorem size_mk(l:List UInt8):ByteArray.size ⟨l.toArray⟩=l.length:=by simp[ByteArray.size]
theorem op_binS{op:BinOp}{t ty:TypeId}{x y:Operand}(ho:o.op=.binOp op t x y ty){a b:List UInt8}{r:V}(hr:binS op a b=some r):
  Ai P o [.v (.str a),.v (.str b)] σ (.v r) σ:=by
 refine Ax fun E g ρ w hw hds=>?_
 simp only[ho,Op.operands,Ap] at hds
 obtain⟨u,v,e,h1,h2⟩:=hds
 simp only[map_cons,map_nil,List.cons.injEq,and_true] at e
 obtain⟨e1,e2⟩:=e
 simp only[Ae,C3] at h1 h2
 subst h1 h2
 cases op<;>simp only[binS,Option.some.injEq,reduceCtorEq] at hr<;>subst hr<;>
  simp[execOp,ho,e1,e2,eqGuard,binOp,Op.stringOp,Ae]
theorem op_concat{t ty:TypeId}{x y:Operand}(ho:o.op=.binOp .add t x y ty){a b:List UInt8}(hl:a.length+b.length<=9223372036854775807):
  Ai P o [.v (.str a),.v (.str b)] σ (.v (.str (a++b))) σ:=by
 refine Ax fun E g ρ w hw hds=>?_
 simp only[ho,Op.operands,Ap] at hds
 obtain⟨u,v,e,h1,h2⟩:=hds
 simp only[map_cons,map_nil,List.cons.injEq,and_true] at e
 obtain⟨e1,e2⟩:=e
 simp only[Ae,C3] at h1 h2
 subst h1 h2
 have hs:∀l:List UInt8,ByteArray.size ⟨l.toArray⟩=l.length:=fun l=>by simp[ByteArray.size]
 have hn:¬(((a.length+b.length:Nat):Int)>i64.max):=by
  have:i64.max=9223372036854775807:=by decide
  rw[this];omega
 refine⟨.string ⟨(a++b).toArray⟩,?_,by simp[Ae]⟩
 have hap:(⟨a.toArray⟩:ByteArray)++⟨b.toArray⟩=⟨(a++b).toArray⟩:=by
  apply ByteArray.ext
  simp[ByteArray.data_append]
 simp only[execOp,ho,e1,e2,binOp,Op.stringOp,hs,hn,if_false,hap]
 simp[eqGuard]
theorem op_eqlB{op:BinOp}{t ty:TypeId}{x y:Operand}(ho:o.op=.binOp op t x y ty)(hu:P.underlying t=some .bool){a b:Bool}(hop:op=.eql∨op=.neq):
  Ai P o [.v (.bool a),.v (.bool b)] σ (.v (.bool (if op=.eql then a==b else a !=b))) σ:=by
 refine Ax fun E g ρ w hw hds=>?_
 simp only[ho,Op.operands,Ap] at hds
 obtain⟨u,v,e,h1,h2⟩:=hds
 simp only[map_cons,map_nil,List.cons.injEq,and_true] at e
 obtain⟨e1,e2⟩:=e
 simp only[Ae,Da] at h1 h2
 subst h1 h2
 have heq:(Op.equal t (.bool a) (.bool b)).run P w=.ok (a==b) w:=by
  have gen:∀d,(Op.equalIn (d+1) t (.bool a) (.bool b)).run P w=.ok (a==b) w:=fun d=>by
   simp only[Op.equalIn,Sem.run_bind,run_underlying hu,Result.andThen_ok]
   rfl
  exact gen 9999
 refine⟨.bool (if op=.eql then a==b else a !=b),?_,by simp[Ae]⟩
 rcases hop with rfl|rfl<;>
  simp[execOp,ho,e1,e2,eqGuard,binOp,heq,bne]
def unI(op:UnOp)(x:V):Option V:=
 match op,x with
 |.not,.bool b=>some (.bool !b)
 |.neg,.int k n=>some (.int k (k.wrap (0-n)))
 |_,_=>none
theorem op_un{op:UnOp}{t:TypeId}{x:Operand}(ho:o.op=.unOp op t x){a r:V}(hr:unI op a=some r):Ai P o [.v a] σ (.v r) σ:=by
 refine Ax fun E g ρ w hw hds=>?_
 simp only[ho,Op.operands,A0] at hds
 obtain⟨u,e,h1⟩:=hds
 simp at e
 unfold unI at hr
 split at hr
 ·simp at hr;subst hr
  simp only[Ae,Da] at h1
  exact⟨_,by simp[execOp,ho,e,h1,Op.unary];rfl,by simp[Ae]⟩
 ·simp only[Option.some.injEq] at hr;subst hr
  simp only[Ae,A1] at h1
  exact⟨_,by simp only[execOp,ho,e,h1,Op.unary,Op.intArith];rfl,by simp[Ae]⟩
 ·simp at hr
theorem op_convI{src dst:TypeId}{x:Operand}(ho:o.op=.convert src dst x){k k':IntKind}{n:Int}{ds':TypeDesc}(hs:P.underlying src=some ds')(hd:P.underlying dst=some (.int k')):
  Ai P o [.v (.int k n)] σ (.v (.int k' (k'.wrap n))) σ:=by
 refine Ax fun E g ρ w hw hds=>?_
 simp only[ho,Op.operands,A0] at hds
 obtain⟨u,e,h1⟩:=hds
 simp at e
 simp only[Ae,A1] at h1
 refine⟨.int k' (k'.wrap n),?_,by simp[Ae]⟩
 simp only[execOp,ho,e,h1,convert,Sem.run_bind,run_underlying hs,run_underlying hd,Result.andThen_ok,Conv.intToInt]
 rfl
theorem op_extract{x:Operand}{i:Nat}(ho:o.op=.extract x i){ds:List D}(hd:ds[i]?=some d):Ai P o [.tup ds] σ d σ:=by
 refine Ax fun E g ρ w hw hds=>?_
 simp only[ho,Op.operands,A0] at hds
 obtain⟨u,e,h1⟩:=hds
 simp at e
 simp only[Ae] at h1
 obtain⟨us,rfl,h2⟩:=h1
 obtain⟨u,hu,h3⟩:=B0 h2 hd
 exact⟨u,by simp[execOp,ho,e,Instr.extract,hu],h3⟩
theorem op_nilCheck_ptr{x:Operand}(ho:o.op=.nilCheck x){q off:Nat}:Ai P o [.ptr q off] σ (.ptr q off) σ:=by
 refine Ax fun E g ρ w hw hds=>?_
 simp only[ho,Op.operands,A0] at hds
 obtain⟨u,e,h1⟩:=hds
 simp at e
 refine⟨u,?_,h1⟩
 simp only[Ae] at h1
 simp[execOp,ho,e,h1.2]
theorem op_nilCheck_ref{x:Operand}(ho:o.op=.nilCheck x){y:V}:Ai P o [.v (.ref y)] σ (.v (.ref y)) σ:=by
 refine Ax fun E g ρ w hw hds=>?_
 simp only[ho,Op.operands,A0] at hds
 obtain⟨u,e,h1⟩:=hds
 simp at e
 refine⟨u,?_,h1⟩
 simp only[Ae,C4] at h1
 obtain⟨b,off,us,rfl,_⟩:=h1
 simp[execOp,ho,e]
theorem Hf{x:Operand}{t:TypeId}(ho:o.op=.call { callee:=.builtin .len,args:= #[x],argTypes:= #[t]}){e:TypeId}(ht:P.underlying t=some (.slice e)){xs:List V}:
  Ai P o [.v (.list xs)] σ (.v (.int .i64 xs.length)) σ:=by
 refine Ax fun E g ρ w hw hds=>?_
 simp only[ho,Op.operands,Call.operands,A0] at hds
 obtain⟨u,e,h1⟩:=hds
 simp at e
 simp only[Ae,AO] at h1
 obtain⟨a,cap,rfl,_⟩:=h1
 exact⟨_,by simp[execOp,ho,e,resolve,invoke,builtin,Builtin.len_,run_underlying ht,goInt];rfl,by simp[Ae]⟩
theorem op_lenA{x:Operand}{t:TypeId}(ho:o.op=.call { callee:=.builtin .len,args:= #[x],argTypes:= #[t]}){e:TypeId}(ht:P.underlying t=some (.slice e)){q off len:Nat}:
  Ai P o [.arr q off len] σ (.v (.int .i64 len)) σ:=by
 refine Ax fun E g ρ w hw hds=>?_
 simp only[ho,Op.operands,Call.operands,A0] at hds
 obtain⟨u,e,h1⟩:=hds
 simp at e
 simp only[Ae] at h1
 obtain⟨_,cap,_,rfl⟩:=h1
 exact⟨_,by simp[execOp,ho,e,resolve,invoke,builtin,Builtin.len_,run_underlying ht,goInt];rfl,by simp[Ae]⟩
theorem op_lenS{x:Operand}{t:TypeId}(ho:o.op=.call { callee:=.builtin .len,args:= #[x],argTypes:= #[t]})(ht:P.underlying t=some .string){s:List UInt8}:
  Ai P o [.v (.str s)] σ (.v (.int .i64 s.length)) σ:=by
 refine Ax fun E g ρ w hw hds=>?_
 simp only[ho,Op.operands,Call.operands,A0] at hds
 obtain⟨u,e,h1⟩:=hds
 simp at e
 simp only[Ae,C3] at h1
 subst h1
 exact⟨_,by simp[execOp,ho,e,resolve,invoke,builtin,Builtin.len_,run_underlying ht,goInt,size_mk];rfl,by simp[Ae]⟩
theorem op_max{x y:Operand}{ts:Array TypeId}(ho:o.op=.call { callee:=.builtin .max,args:= #[x,y],argTypes:=ts }){k:IntKind}{a b:Int}:
  Ai P o [.v (.int k a),.v (.int k b)] σ (.v (.int k (if b>a then b else a))) σ:=by
 refine Ax fun E g ρ w hw hds=>?_
 simp only[ho,Op.operands,Call.operands] at hds
 have hds':=Ap.1 (by simpa using hds)
 obtain⟨u,v,e,h1,h2⟩:=hds'
 simp only[List.cons.injEq,and_true] at e
 simp only[Ae,A1] at h1 h2
 exact⟨_,by simp[execOp,ho,e.1,e.2,h1,h2,resolve,invoke,builtin,Builtin.max_,Builtin.max2];rfl,by simp[Ae]⟩
theorem op_min{x y:Operand}{ts:Array TypeId}(ho:o.op=.call { callee:=.builtin .min,args:= #[x,y],argTypes:=ts }){k:IntKind}{a b:Int}:
  Ai P o [.v (.int k a),.v (.int k b)] σ (.v (.int k (if b<a then b else a))) σ:=by
 refine Ax fun E g ρ w hw hds=>?_
 simp only[ho,Op.operands,Call.operands] at hds
 have hds':=Ap.1 (by simpa using hds)
 obtain⟨u,v,e,h1,h2⟩:=hds'
 simp only[List.cons.injEq,and_true] at e
 simp only[Ae,A1] at h1 h2
 exact⟨_,by simp[execOp,ho,e.1,e.2,h1,h2,resolve,invoke,builtin,Builtin.min_,Builtin.min2];rfl,by simp[Ae]⟩
end
section
variable {M : Mem}
theorem repA_get:∀{cs:List V} {us:List Value},repA M cs us->∀{i:Nat} {c:V},cs[i]?=some c->∃u,us[i]?=some u/\c.isAgg=false/\repC M c [u]
 |[],us,h,i,c,hc=>by simp at hc
 |c0::cs,us,h,i,c,hc=>by
  simp only[repA] at h
  obtain⟨u,us',rfl,ha,h1,h2⟩:=h
  cases i with
  |zero=>simp at hc;subst hc;exact⟨u,by simp,ha,h1⟩
  |succ i=>simp at hc;obtain⟨u',e,h3⟩:=repA_get h2 hc;exact⟨u',by simpa using e,h3⟩
theorem Hd:∀{cs:List V} {us:List Value},repA M cs us->∀(n:Nat),repA M (cs.drop n) (us.drop n)
 |[],us,h,n=>by simp only[repA] at h;simp[h,repA]
 |c0::cs,us,h,n=>by
  cases n with
  |zero=>simpa using h
  |succ n=>
   simp only[repA] at h
   obtain⟨u,us',rfl,ha,h1,h2⟩:=h
   simpa using Hd h2 n
theorem Hb:∀{cs:List V} {us:List Value},repA M cs us->∀(n:Nat),repA M (cs.take n) (us.take n)
 |[],us,h,n=>by simp only[repA] at h;simp[h,repA]
 |c0::cs,us,h,n=>by
  cases n with
  |zero=>simp[repA]
  |succ n=>
   simp only[repA] at h
   obtain⟨u,us',rfl,ha,h1,h2⟩:=h
   simp only[take_succ_cons,repA]
   exact⟨u,_,rfl,ha,h1,Hb h2 n⟩
theorem B8{sz:Nat}:∀{xs:List V} {us:List Value},repE M sz xs us->us.length=xs.length*sz
 |[],us,h=>by simp only[repE] at h;simp[h]
 |x::xs,us,h=>by
  simp only[repE] at h
  obtain⟨u1,u2,rfl,hl,h1,h2⟩:=h
  simp[B8 h2,hl,Nat.add_mul,Nat.add_comm]
theorem repE_get{sz:Nat}:∀{xs:List V} {us:List Value},repE M sz xs us->∀{i:Nat} {x:V},xs[i]?=some x->
  ∃u1,repC M x u1/\u1.length=sz/\∀j v,u1[j]?=some v->us[i*sz+j]?=some v
 |[],us,h,i,c,hc=>by simp at hc
 |x0::xs,us,h,i,x,hc=>by
  simp only[repE] at h
  obtain⟨u1,u2,rfl,hl,h1,h2⟩:=h
  cases i with
  |zero=>
   simp at hc;subst hc
   refine⟨u1,h1,hl,fun j v hj=>?_⟩
   have:j<u1.length:=(List.getElem?_eq_some_iff.1 hj).1
   rw[Nat.zero_mul,Nat.zero_add,getElem?_append_left this];exact hj
  |succ i=>
   simp at hc
   obtain⟨u',hr,hl',hg⟩:=repE_get h2 hc
   refine⟨u',hr,hl',fun j v hj=>?_⟩
   have e:(i+1)*sz+j=u1.length+(i*sz+j):=by rw[hl,Nat.add_mul];omega
   rw[e,getElem?_append_right (by omega)]
   have:u1.length+(i*sz+j)-u1.length=i*sz+j:=by omega
   rw[this];exact hg j v hj
theorem repE_drop{sz:Nat}:∀{xs:List V} {us:List Value},repE M sz xs us->∀(n:Nat),repE M sz (xs.drop n) (us.drop (n*sz))
 |[],us,h,n=>by simp only[repE] at h;simp[h,repE]
 |x::xs,us,h,n=>by
  cases n with
  |zero=>simpa using h
  |succ n=>
   simp only[repE] at h
   obtain⟨u1,u2,rfl,hl,h1,h2⟩:=h
   have:=repE_drop h2 n
   have e:(n+1)*sz=u1.length+n*sz:=by rw[hl,Nat.add_mul];omega
   have e2:(u1++u2).drop (u1.length+n*sz)=u2.drop (n*sz):=by
    rw[List.drop_append,drop_of_length_le (Nat.le_add_right u1.length (n*sz)),nil_append,Nat.add_sub_cancel_left]
   rw[e,e2]
   exact this
theorem repE_take{sz:Nat}:∀{xs:List V} {us:List Value},repE M sz xs us->∀(n:Nat),repE M sz (xs.take n) (us.take (n*sz))
 |[],us,h,n=>by simp only[repE] at h;simp[h,repE]
 |x::xs,us,h,n=>by
  cases n with
  |zero=>simp[repE]
  |succ n=>
   simp only[repE] at h
   obtain⟨u1,u2,rfl,hl,h1,h2⟩:=h
   simp only[take_succ_cons,repE]
   have e:(n+1)*sz=u1.length+n*sz:=by rw[hl,Nat.add_mul];omega
   refine⟨u1,u2.take (n*sz),?_,hl,h1,repE_take h2 n⟩
   rw[e,List.take_append,take_of_length_le (Nat.le_add_right _ _),Nat.add_sub_cancel_left]
theorem inM_drop{b off:Nat}{us:List Value}(h:inM M b off us)(n:Nat):inM M b (off+n) (us.drop n):=fun j v hj=>by
 rw[getElem?_drop] at hj
 rw[Nat.add_assoc];exact h _ v hj
theorem inM_take{b off:Nat}{us:List Value}(h:inM M b off us)(n:Nat):inM M b off (us.take n):=fun j v hj=>by
 rw[getElem?_take] at hj
 split at hj
 ·exact h j v hj
 ·simp at hj
end
def Gr(cs:List V)(fo n:Nat)(b:Bool):Option V:=if b then(if fo+n<=cs.length then some (.agg ((cs.drop fo).take n)) else none) else cs[fo]?
theorem partV_rep{M:Mem}{cs:List V}{us:List Value}{fo n:Nat}{b:Bool}{x:V}(h:Gr cs fo n b=some x)(hr:repA M cs us)(hn:b=false->n=1):
  repC M x ((us.drop fo).take n)/\x.isAgg=b/\((us.drop fo).take n).length=n:=by
 have hl:=Dc hr
 unfold Gr at h
 cases b with
 |true=>
  simp only[if_true] at h
  split at h
  ·simp at h;subst h
   refine⟨?_,rfl,by simp;omega⟩
   simp only[repC]
   exact Hb (Hd hr fo) n
  ·simp at h
 |false=>
  simp only[Bool.false_eq_true,if_false] at h
  obtain⟨u,hu,ha,hc⟩:=repA_get hr h
  obtain rfl:=hn rfl
  have:(us.drop fo).take 1=[u]:=by
   have hlt:fo<us.length:=(List.getElem?_eq_some_iff.1 hu).1
   rw[drop_eq_getElem_cons hlt,take_succ_cons,List.take_zero]
   rw[(List.getElem?_eq_some_iff.1 hu).2]
  rw[this]
  exact⟨hc,ha,rfl⟩
def D.toV:D->Option V
 |.v x=>some x
 |.acc _ xs=>some (.list xs)
 |_=>none
def Eh:List D->Option (List V)
 |[]=>some []
 |d::ds=>match d.toV,Eh ds with
  |some x,some xs=>some (x::xs)
  |_,_=>none
theorem GZ{g:Gh}{d:D}{x:V}{u:Value}(h:d.toV=some x)(hr:Ae g d u):repV g.M x u:=by
 cases d<;>simp[D.toV] at h<;>subst h
 ·simpa[Ae] using hr
 ·simp only[Ae] at hr;exact hr.1
theorem F6{g:Gh}:∀{ds:List D} {xs:List V} {us:List Value},Eh ds=some xs->Ac g ds us->(∀c∈ds,c.one=true)->repA g.M xs us
 |[],xs,us,h,hr,_=>by simp[Eh] at h;subst h;simpa[Ac,repA] using hr
 |d::ds,xs,us,h,hr,h1=>by
  simp only[Eh] at h
  split at h
  ·rename_i x xs' hx hxs
   simp at h;subst h
   simp only[Ac] at hr
   obtain⟨u,us',rfl,h2,h3⟩:=hr
   simp only[repA]
   have hxa:x.isAgg=false:=by
    have:=h1 d (by simp)
    cases d<;>simp[D.toV] at hx<;>subst hx<;>simp_all [D.one,V.isAgg]
   exact⟨u,us',rfl,hxa,(AZ hxa).1 (GZ hx h2),F6 hxs h3 (fun c hc=>h1 c (by simp[hc]))⟩
  ·simp at h
section
variable {P : Program} {o : Oper} {σ : St} {d : D}
theorem DA{E:Ent}{g:Gh}{w:World}(hw:WI E g σ w){b off:Nat}{us:List Value}(h:inM g.M b off us):∀j v,us[j]?=some v->w.cell? ((⟨b,off,none⟩:Addr).add j)=some v:=fun j v hj=>by
 rw[Addr.add_lit];exact hw.rep.mem _ _ _ (h j v hj)
theorem E3{t:TypeId}{a:Operand}(ho:o.op=.load t a)(ht:OneTy P t){x:V}(hx:x.isAgg=false):Ai P o [.v (.ref x)] σ (.v x) σ:=by
 refine Ax fun E g ρ w hw hds=>?_
 simp only[ho,Op.operands,A0] at hds
 obtain⟨u,e,h1⟩:=hds
 simp at e
 simp only[Ae,C4] at h1
 obtain⟨b,off,us,rfl,hi,hr⟩:=h1
 obtain⟨u',rfl,hm,_⟩:=Cl hx hr
 have hc:w.cell? ⟨b,off,none⟩=some u':=by have:=hw.rep.mem _ _ _ (hi 0 u' (by simp));simpa using this
 refine⟨u',?_,by simp only[Ae];exact(AZ hx).2 hr⟩
 simp[execOp,ho,e,Instr.loadAt,Instr.sureAddr,loadVar,Cs ht,hc]
theorem op_loadRA{t:TypeId}{a:Operand}(ho:o.op=.load t a){cs:List V}(ht:AggTy P t cs.length):Ai P o [.v (.ref (.agg cs))] σ (.v (.agg cs)) σ:=by
 refine Ax fun E g ρ w hw hds=>?_
 simp only[ho,Op.operands,A0] at hds
 obtain⟨u,e,h1⟩:=hds
 simp at e
 simp only[Ae,C4] at h1
 obtain⟨b,off,us,rfl,hi,hr⟩:=h1
 simp only[repC] at hr
 have hl:=Dc hr
 have hld:=run_loadCells_list (P:=P) w ⟨b,off,none⟩ us (DA hw hi)
 rw[hl] at hld
 refine⟨.agg us.toArray,?_,by simp only[Ae,BZ];exact⟨us,hr,rfl⟩⟩
 simp[execOp,ho,e,Instr.loadAt,Instr.sureAddr,loadVar,Cs ht,run_sizeOf' ht,hld]
theorem op_loadP1{t:TypeId}{a:Operand}(ho:o.op=.load t a)(ht:OneTy P t){q off:Nat}{cs:List D}(hH:σ.H[q]?=some (some cs))(hc:cs[off]?=some d):Ai P o [.ptr q off] σ d σ:=by
 refine Ax fun E g ρ w hw hds=>?_
 simp only[ho,Op.operands,A0] at hds
 obtain⟨u,e,h1⟩:=hds
 simp at e
 simp only[Ae] at h1
 obtain⟨_,rfl⟩:=h1
 obtain⟨us,rest,et,hb,hr,_,_⟩:=hw.rep.obj q cs hH
 obtain⟨u',hu,hd⟩:=B0 hr hc
 have hcell:w.cell? ⟨g.β q,off,none⟩=some u':=by simp only[World.cell?,hb,getElem?_toArray];exact DM hu
 refine⟨u',?_,hd⟩
 simp[execOp,ho,e,Instr.loadAt,Instr.sureAddr,loadVar,Cs ht,hcell]
theorem BP{g:Gh}:∀{cs:List D} {us:List Value},Ac g cs us->∀(n:Nat),Ac g (cs.drop n) (us.drop n)
 |[],us,h,n=>by simp only[Ac] at h;simp[h,Ac]
 |c0::cs,us,h,n=>by
  cases n with
  |zero=>simpa using h
  |succ n=>
   simp only[Ac] at h
   obtain⟨u,us',rfl,h1,h2⟩:=h
   simpa using BP h2 n
theorem BD{g:Gh}:∀{cs:List D} {us:List Value},Ac g cs us->∀(n:Nat),Ac g (cs.take n) (us.take n)
 |[],us,h,n=>by simp only[Ac] at h;simp[h,Ac]
 |c0::cs,us,h,n=>by
  cases n with
  |zero=>simp[Ac]
  |succ n=>
   simp only[Ac] at h
   obtain⟨u,us',rfl,h1,h2⟩:=h
   simp only[take_succ_cons,Ac]
   exact⟨u,_,rfl,h1,BD h2 n⟩
theorem op_loadPA{t:TypeId}{a:Operand}(ho:o.op=.load t a){n:Nat}(ht:AggTy P t n){q off:Nat}{cs:List D}(hH:σ.H[q]?=some (some cs)){xs:List V}
  (hn:off+n<=cs.length) (hc:Eh ((cs.drop off).take n)=some xs):Ai P o [.ptr q off] σ (.v (.agg xs)) σ:=by
 refine Ax fun E g ρ w hw hds=>?_
 simp only[ho,Op.operands,A0] at hds
 obtain⟨u,e,h1⟩:=hds
 simp at e
 simp only[Ae] at h1
 obtain⟨_,rfl⟩:=h1
 obtain⟨us,rest,et,hb,hr,h1,_⟩:=hw.rep.obj q cs hH
 have hra:=F6 hc (BD (BP hr off) n) (fun c hc'=>h1 c (mem_of_mem_drop (mem_of_mem_take hc')))
 have hl:us.length=cs.length:=Ay hr
 have hld:=run_loadCells_list (P:=P) w ⟨g.β q,off,none⟩ ((us.drop off).take n) (fun j v hj=>by
  rw[getElem?_take] at hj
  split at hj
  ·rw[getElem?_drop] at hj
   rw[Addr.add_lit]
   simp only[World.cell?,hb,getElem?_toArray];exact DM hj
  ·simp at hj)
 have hlen:((us.drop off).take n).length=n:=by simp;omega
 rw[hlen] at hld
 refine⟨.agg ((us.drop off).take n).toArray,?_,by simp only[Ae,BZ];exact⟨_,hra,rfl⟩⟩
 simp only[execOp,ho,e,Instr.loadAt,Instr.sureAddr,loadVar,Sem.run_bind,Sem.run_pure,Result.andThen_ok,Cs ht,run_sizeOf' ht,hld,if_true]
theorem op_fieldP{s:TypeId}{x:Operand}{f:Nat}(ho:o.op=.fieldAddr s x f){fo n:Nat}{b:Bool}(hf:fldTy P s f=some (fo,n,b))(hn:n≠0){q off:Nat}:Ai P o [.ptr q off] σ (.ptr q (off+fo)) σ:=by
 refine Ax fun E g ρ w hw hds=>?_
 simp only[ho,Op.operands,A0] at hds
 obtain⟨u,e,h1⟩:=hds
 simp at e
 simp only[Ae] at h1
 obtain⟨hq,rfl⟩:=h1
 obtain⟨fs,y,hs,hy,hoff,hz⟩:=GL hf
 refine⟨.pointer (some ⟨g.β q,off+fo,none⟩),?_,by simp[Ae,hq]⟩
 simp[execOp,ho,e,Instr.fieldAt,run_underlying hs,hy,Instr.sureAddr,fieldPlace,run_sizeOf' hz,hn,Addr.add_lit,hoff]
theorem E4{s:TypeId}{x:Operand}{f:Nat}(ho:o.op=.fieldAddr s x f){fo n:Nat}{b:Bool}(hf:fldTy P s f=some (fo,n,b))(hn:n≠0)(hn1:b=false->n=1){cs:List V}{y:V}(hp:Gr cs fo n b=some y):
  Ai P o [.v (.ref (.agg cs))] σ (.v (.ref y)) σ:=by
 refine Ax fun E g ρ w hw hds=>?_
 simp only[ho,Op.operands,A0] at hds
 obtain⟨u,e,h1⟩:=hds
 simp at e
 simp only[Ae,C4] at h1
 obtain⟨bb,off,us,rfl,hi,hr⟩:=h1
 obtain⟨fs,z,hs,hy,hoff,hz⟩:=GL hf
 simp only[repC] at hr
 obtain⟨h3,_,_⟩:=partV_rep hp hr hn1
 refine⟨.pointer (some ⟨bb,off+fo,none⟩),?_,by simp only[Ae,C4];exact⟨bb,off+fo,_,rfl,inM_take (inM_drop hi fo) n,h3⟩⟩
 simp[execOp,ho,e,Instr.fieldAt,run_underlying hs,hy,Instr.sureAddr,fieldPlace,run_sizeOf' hz,hn,Addr.add_lit,hoff]
theorem run_part{M:Mem}{t:TypeId}{n:Nat}{b:Bool}(hz:CZ P t=some (n,b)){cs:List V}{us:List Value}{fo:Nat}{y:V}(hp:Gr cs fo n b=some y)(hr:repA M cs us)(hn1:b=false->n=1)(w:World):
  ∃u,(part t us.toArray fo).run P w=.ok u w/\repV M y u:=by
 obtain⟨h3,ha,hl⟩:=partV_rep hp hr hn1
 cases b with
 |true=>
  refine⟨.agg ((us.drop fo).take n).toArray,?_,?_⟩
  ·simp only[part,Sem.run_bind,Cs hz,run_sizeOf' hz,Result.andThen_ok,if_true,Sem.run_pure]
   congr 2
   apply Array.ext'
   simp[List.extract_eq_take_drop]
  ·cases y with
   |agg cs'=>simp only[BZ];exact⟨_,by simpa only[repC] using h3,rfl⟩
   |_=>simp[V.isAgg] at ha
 |false=>
  obtain⟨u,e1,_,_⟩:=Cl ha h3
  obtain rfl:=hn1 rfl
  have hu:us[fo]?=some u:=by
   have:((us.drop fo).take 1)[0]?=some u:=by rw[e1];rfl
   simpa using this
  refine⟨u,?_,(AZ ha).2 (by rw[←e1];exact h3)⟩
  simp[part,Cs hz,hu]
theorem op_field{s:TypeId}{x:Operand}{f:Nat}(ho:o.op=.field s x f){fo n:Nat}{b:Bool}(hf:fldTy P s f=some (fo,n,b))(hn1:b=false->n=1){cs:List V}{y:V}(hp:Gr cs fo n b=some y):
  Ai P o [.v (.agg cs)] σ (.v y) σ:=by
 refine Ax fun E g ρ w hw hds=>?_
 simp only[ho,Op.operands,A0] at hds
 obtain⟨u,e,h1⟩:=hds
 simp at e
 simp only[Ae,BZ] at h1
 obtain⟨us,hr,rfl⟩:=h1
 obtain⟨fs,z,hs,hy,hoff,hz⟩:=GL hf
 obtain⟨v,hrun,hv⟩:=run_part hz hp hr hn1 w
 refine⟨v,?_,by simpa only[Ae] using hv⟩
 simp only[execOp,ho,e,Instr.field,Sem.run_bind,run_underlying hs,Result.andThen_ok,hy,asAgg,Sem.run_pure,hoff,hrun]
theorem op_idxL{t:TypeId}{x ix:Operand}(ho:o.op=.indexAddr t x ix){e:TypeId}{sz by':Nat}{z:Option Value}(hs:BJ P t=some (e,sz,by',z)){xs:List V}{y:V}{k:IntKind}{i:Int}(h0:0<=i)
  (hx:xs[i.toNat]?=some y) (hy:y.size=sz):Ai P o [.v (.list xs),.v (.int k i)] σ (.v (.ref y)) σ:=by
 refine Ax fun E g ρ w hw hds=>?_
 simp only[ho,Op.operands,Ap] at hds
 obtain⟨u,v,eq,h1,h2⟩:=hds
 simp only[map_cons,map_nil,List.cons.injEq,and_true] at eq
 obtain⟨e1,e2⟩:=eq
 simp only[Ae,A1,AO] at h1 h2
 subst h2
 obtain⟨a,cap,rfl,hc,h1⟩:=h1
 have hlt:i.toNat<xs.length:=(List.getElem?_eq_some_iff.1 hx).1
 rcases h1 with rfl|⟨b,off,sz',us,rfl,hsz,hi,hr⟩
 ·simp at hlt
 obtain⟨inf,hu,hinf,hsize,_,_⟩:=A6 hs
 obtain⟨u1,hc1,hl1,hg⟩:=repE_get hr hx
 have hss:sz'=sz:=by rw[←hl1,EX hc1,hy]
 subst hss
 refine⟨.pointer (some ⟨b,off+i.toNat*sz',none⟩),?_,?_⟩
 ·have hlt':i<(xs.length:Int):=by omega
  simp[execOp,ho,e1,e2,Instr.indexAt,asIntOf,run_underlying hu,h0,hlt',sizeOf,typeInfo,hinf,hsize,Addr.add_lit]
 ·simp only[Ae,C4]
  refine⟨b,_,u1,rfl,fun j v hj=>?_,hc1⟩
  have:=hi _ v (hg j v hj)
  rw[Nat.add_assoc];exact this
theorem op_idxA{t:TypeId}{x ix:Operand}(ho:o.op=.indexAddr t x ix){e:TypeId}{sz by':Nat}{z:Option Value}(hs:BJ P t=some (e,sz,by',z)){q off len:Nat}{k:IntKind}{i:Int}(h0:0<=i)(h1:i<len):
  Ai P o [.arr q off len,.v (.int k i)] σ (.ptr q (off+i.toNat*sz)) σ:=by
 refine Ax fun E g ρ w hw hds=>?_
 simp only[ho,Op.operands,Ap] at hds
 obtain⟨u,v,eq,h1',h2⟩:=hds
 simp only[map_cons,map_nil,List.cons.injEq,and_true] at eq
 obtain⟨e1,e2⟩:=eq
 simp only[Ae,A1] at h1' h2
 subst h2
 obtain⟨hq,cap,hc,rfl⟩:=h1'
 obtain⟨inf,hu,hinf,hsize,_,_⟩:=A6 hs
 refine⟨.pointer (some ⟨g.β q,off+i.toNat*sz,none⟩),?_,by simp[Ae,hq]⟩
 simp[execOp,ho,e1,e2,Instr.indexAt,asIntOf,run_underlying hu,h0,h1,sizeOf,typeInfo,hinf,hsize,Addr.add_lit]
theorem op_idxAP{t:TypeId}{x ix:Operand}(ho:o.op=.indexAddr t x ix){len sz:Nat}{b:Bool}(hs:arTy P t=some (len,sz,b)){q off:Nat}{k:IntKind}{i:Int}(h0:0<=i)(h1:i<len):
  Ai P o [.ptr q off,.v (.int k i)] σ (.ptr q (off+i.toNat*sz)) σ:=by
 refine Ax fun E g ρ w hw hds=>?_
 simp only[ho,Op.operands,Ap] at hds
 obtain⟨u,v,eq,h1',h2⟩:=hds
 simp only[map_cons,map_nil,List.cons.injEq,and_true] at eq
 obtain⟨e1,e2⟩:=eq
 simp only[Ae,A1] at h1' h2
 subst h2
 obtain⟨hq,rfl⟩:=h1'
 obtain⟨e,hu,hz⟩:=arTy_parts hs
 refine⟨.pointer (some ⟨g.β q,off+i.toNat*sz,none⟩),?_,by simp[Ae,hq]⟩
 simp[execOp,ho,e1,e2,Instr.indexAt,asIntOf,run_underlying hu,h0,h1,run_sizeOf' hz,Addr.add_lit,Instr.sureAddr]
theorem op_idxAR{t:TypeId}{x ix:Operand}(ho:o.op=.indexAddr t x ix){len sz:Nat}{b:Bool}(hs:arTy P t=some (len,sz,b))(hn1:b=false->sz=1){cs:List V}{y:V}{k:IntKind}{i:Int}(h0:0<=i)(h1:i<len)
  (hp:Gr cs (i.toNat*sz) sz b=some y):Ai P o [.v (.ref (.agg cs)),.v (.int k i)] σ (.v (.ref y)) σ:=by
 refine Ax fun E g ρ w hw hds=>?_
 simp only[ho,Op.operands,Ap] at hds
 obtain⟨u,v,eq,h1',h2⟩:=hds
 simp only[map_cons,map_nil,List.cons.injEq,and_true] at eq
 obtain⟨e1,e2⟩:=eq
 simp only[Ae,A1,C4] at h1' h2
 subst h2
 obtain⟨bb,off,us,rfl,hi,hr⟩:=h1'
 obtain⟨e,hu,hz⟩:=arTy_parts hs
 simp only[repC] at hr
 obtain⟨h3,_,_⟩:=partV_rep hp hr hn1
 refine⟨.pointer (some ⟨bb,off+i.toNat*sz,none⟩),?_,by simp only[Ae,C4];exact⟨bb,_,_,rfl,inM_take (inM_drop hi _) sz,h3⟩⟩
 simp[execOp,ho,e1,e2,Instr.indexAt,asIntOf,run_underlying hu,h0,h1,run_sizeOf' hz,Addr.add_lit,Instr.sureAddr]
theorem op_idxS{t:TypeId}{x ix:Operand}(ho:o.op=.index t x ix)(ht:P.underlying t=some .string){s:List UInt8}{k:IntKind}{i:Int}{c:UInt8}(h0:0<=i)(hc:s[i.toNat]?=some c):
  Ai P o [.v (.str s),.v (.int k i)] σ (.v (.int .u8 c.toNat)) σ:=by
 refine Ax fun E g ρ w hw hds=>?_
 simp only[ho,Op.operands,Ap] at hds
 obtain⟨u,v,eq,h1',h2⟩:=hds
 simp only[map_cons,map_nil,List.cons.injEq,and_true] at eq
 obtain⟨e1,e2⟩:=eq
 simp only[Ae,A1,C3] at h1' h2
 subst h1' h2
 refine⟨.int .u8 c.toNat,?_,by simp[Ae]⟩
 have hlt:i.toNat<s.length:=(List.getElem?_eq_some_iff.1 hc).1
 have hb:(⟨s.toArray⟩:ByteArray)[i.toNat]?=some c:=by
  rw[getElem?_pos _ _ (by rw[size_mk];exact hlt)]
  have:=(List.getElem?_eq_some_iff.1 hc).2
  simp only[Option.some.injEq]
  rw[←this];rfl
 simp[execOp,ho,e1,e2,Instr.index,asIntOf,run_underlying ht,h0,hb]
theorem op_idxV{t:TypeId}{x ix:Operand}(ho:o.op=.index t x ix){len sz:Nat}{b:Bool}(hs:arTy P t=some (len,sz,b))(hn1:b=false->sz=1){cs:List V}{y:V}{k:IntKind}{i:Int}(h0:0<=i)(h1:i<len)
  (hp:Gr cs (i.toNat*sz) sz b=some y):Ai P o [.v (.agg cs),.v (.int k i)] σ (.v y) σ:=by
 refine Ax fun E g ρ w hw hds=>?_
 simp only[ho,Op.operands,Ap] at hds
 obtain⟨u,v,eq,h1',h2⟩:=hds
 simp only[map_cons,map_nil,List.cons.injEq,and_true] at eq
 obtain⟨e1,e2⟩:=eq
 simp only[Ae,A1,BZ] at h1' h2
 subst h2
 obtain⟨us,hr,rfl⟩:=h1'
 obtain⟨e,hu,hz⟩:=arTy_parts hs
 obtain⟨v,hrun,hv⟩:=run_part hz hp hr hn1 w
 refine⟨v,?_,by simpa only[Ae] using hv⟩
 simp[execOp,ho,e1,e2,Instr.index,asIntOf,run_underlying hu,h0,h1,run_sizeOf' hz,hrun]
end
theorem WI.update{E:Ent}{g g':Gh}{σ σ':St}{w w':World}(hw:WI E g σ w)(X:Nat->Prop)(hX:∀b,X b->E.w.heap.size<=b∨E.priv b)
  (keep:∀b,b<w.heap.size->¬X b->w'.heap[b]?=w.heap[b]?/\∀o,g'.M b o=g.M b o)
  (hle:g.M.le g'.M) (hn:g.n<=g'.n) (hβ:∀o,o<g.n->g'.β o=g.β o) (hκ:∀o,o<g.n->g'.κ o=g.κ o) (size:w.heap.size<=w'.heap.size) (os:w'.os=w.os) (tape:w'.tape=w.tape) (output:w'.output=w.output)
  (rep:WRep g' σ' w') (objs:∀i cs,σ'.H[i]?=some (some cs)->E.w.heap.size<=g'.β i∨E.priv (g'.β i))
  (owns:∀x∈σ'.own,∀u,g'.ι x.1 x.2.2.length=some u->∀b,BG u=some b->E.w.heap.size<=b∨E.priv b)
  (drawn:B3 w.drawn w'.drawn:=by first|exact B3.refl _|exact B3.succ _|assumption):WI E g' σ' w' where
 rep:=rep
 M:=Mem.le_trans hw.M hle
 size:=Nat.le_trans hw.size size
 keep:=fun b hb hp=>by
  have hnx:¬X b:=fun hx=>by
   rcases hX b hx with h|h
   ·omega
   ·exact hp h
  obtain⟨h1,h2⟩:=keep b (Nat.lt_of_lt_of_le hb hw.size) hnx
  obtain⟨h3,h4⟩:=hw.keep b hb hp
  exact⟨h1.trans h3,fun o=>(h2 o).trans (h4 o)⟩
 os:=os.trans hw.os
 tape:=tape.trans hw.tape
 output:=output.trans hw.output
 nE:=Nat.le_trans hw.nE hn
 βE:=fun o ho=>(hβ o (Nat.lt_of_lt_of_le ho hw.nE)).trans (hw.βE o ho)
 κE:=fun o ho=>(hκ o (Nat.lt_of_lt_of_le ho hw.nE)).trans (hw.κE o ho)
 objs:=objs
 owns:=owns
 drawn:=hw.drawn.trans drawn
theorem Fq{w:World}{b:Nat}{o:Obj}(h:w.heap[b]?=some o):b<w.heap.size:=(Array.getElem?_eq_some_iff.1 h).1
theorem WRep.mem_lt{g:Gh}{σ:St}{w:World}(h:WRep g σ w){b o:Nat}{v:Value}(hm:g.M b o=some v):b<w.heap.size:=
 World.block_lt_of_cell? w ⟨b,o,none⟩ (h.mem b o v hm)
theorem WRep.new_none{g:Gh}{σ:St}{w:World}(h:WRep g σ w){b:Nat}(hb:w.heap.size<=b)(o:Nat):g.M b o=none:=by
 cases e:g.M b o with
 |none=>rfl
 |some v=>have:=h.mem_lt e;omega
theorem WRep.own_lt{g:Gh}{σ:St}{w:World}(h:WRep g σ w){x:Nat×Nat×List V}(hx:x∈σ.own){u:Value}(hu:g.ι x.1 x.2.2.length=some u){b:Nat}(hb:BG u=some b):b<w.heap.size:=by
 obtain⟨_,u',hu',_,hp,_⟩:=h.own x.1 x.2.1 x.2.2 hx
 rw[hu] at hu'
 obtain rfl:u=u':=by simpa using hu'
 rcases hp with⟨a,rfl⟩|⟨b',f,len,cap,cur,e,rfl,hh,_⟩
 ·cases a<;>simp[BG] at hb
 ·simp only[BG] at hb
  split at hb
  ·simp at hb
  ·simp at hb;subst hb;exact Fq hh
theorem WRep.obj_lt{g:Gh}{σ:St}{w:World}(h:WRep g σ w){i:Nat}{cs:List D}(hi:σ.H[i]?=some (some cs)):g.β i<w.heap.size:=by
 obtain⟨us,rest,e,hb,_⟩:=h.obj i cs hi
 exact Fq hb
theorem WRep.lt_n{g:Gh}{σ:St}{w:World}(h:WRep g σ w){i:Nat}{cs:List D}(hi:σ.H[i]?=some (some cs)):i<g.n:=by
 rw[h.n];exact(List.getElem?_eq_some_iff.1 hi).1
theorem Perm.kept{M M':Mem}{w w':World}{sz:Nat}{u:Value}(h:Perm M w sz u)(hk:∀b,BG u=some b->w'.heap[b]?=w.heap[b]?/\∀o,M' b o=M b o):Perm M' w' sz u:=by
 rcases h with⟨a,rfl⟩|⟨b,f,len,cap,cur,e,rfl,hh,hl,hc,hM⟩
 ·exact .inl ⟨a,rfl⟩
 ·by_cases h0:cap=0
  ·subst h0
   obtain rfl:len=0:=by omega
   exact .inl ⟨_,rfl⟩
  ·obtain⟨h1,h2⟩:=hk b (by simp[BG,h0])
   exact .inr ⟨b,f,len,cap,cur,e,rfl,h1.trans hh,hl,hc,fun o ho=>(h2 o).trans (hM o ho),hM.ng⟩
theorem WRep.obj_ng{g:Gh}{σ:St}{w:World}(h:WRep g σ w){i:Nat}{cs:List D}(hi:σ.H[i]?=some (some cs)):∀p∈FM,p.1≠g.β i:=fun p hp e=>by
 obtain⟨v,hv⟩:=h.gl.sized p hp
 obtain⟨_,_,_,_,_,_,hM,_⟩:=h.obj i cs hi
 rw[e,hM 0] at hv;simp at hv
theorem Perm.ng{M:Mem}{w:World}{sz:Nat}{u:Value}(h:Perm M w sz u){b:Nat}(hb:BG u=some b):∀p∈FM,p.1≠b:=by
 rcases h with⟨a,rfl⟩|⟨b',f,len,cap,cur,e,rfl,_,_,_,hM⟩
 ·cases a<;>simp[BG] at hb
 ·simp only[BG] at hb
  split at hb
  ·simp at hb
  ·simp at hb;subst hb;exact hM.ng
theorem WRep.own_ng{g:Gh}{σ:St}{w:World}(h:WRep g σ w){k sz:Nat}{xs:List V}(hx:(k,sz,xs)∈σ.own){u:Value}(hu:g.ι k xs.length=some u){b:Nat}(hb:BG u=some b):∀p∈FM,p.1≠b:=by
 obtain⟨_,u',hu',_,hp,_⟩:=h.own k sz xs hx
 rw[hu] at hu';simp at hu';subst hu'
 exact hp.ng hb
theorem GW.lt{w:World}(h:GW w){p:Nat×Nat}(hp:p∈FM):p.1<w.heap.size:=by
 obtain⟨cs,e,x,h1,_⟩:=h p hp
 exact(Array.getElem?_eq_some_iff.1 h1).1
theorem GW.new{w:World}(h:GW w){b:Nat}(hb:w.heap.size<=b):∀p∈FM,p.1≠b:=fun p hp e=>by have:=h.lt hp;omega
theorem WRep.grow{g:Gh}{σ:St}{w w':World}(h:WRep g σ w){M':Mem}(hle:g.M.le M')(keep:∀b,b<w.heap.size->w'.heap[b]?=w.heap[b]?/\∀o,M' b o=g.M b o)
  (mem:∀b o v,M' b o=some v->w'.cell? ⟨b,o,none⟩=some v):WRep { g with M:=M' } σ w':=by
 have hg:g.le { g with M:=M' }:=⟨hle,Nat.le_refl _,fun _ _=>rfl,fun _ _ _ h=>h,fun _ _=>rfl⟩
 refine⟨h.n,mem,fun i cs hi=>?_,h.inj,fun k sz xs hx=>?_,h.tags,h.sep,h.ownObj,h.fresh,h.gl.mono hle,h.gw.keep fun b hb=>(keep b hb).1⟩
 ·obtain⟨us,rest,e,hb,hr,h1,hM,hκ⟩:=h.obj i cs hi
  obtain⟨k1,k2⟩:=keep _ (Fq hb)
  exact⟨us,rest,e,k1.trans hb,Ac.mono hg _ _ hr,h1,fun o=>(k2 o).trans (hM o),hκ⟩
 ·obtain⟨h0,u,hu,hr,hp,hf⟩:=h.own k sz xs hx
  exact⟨h0,u,hu,hr.mono hle,hp.kept fun b hb=>keep b (h.own_lt hx hu hb),hf⟩
theorem WI.grow{E:Ent}{g:Gh}{σ:St}{w w':World}(hw:WI E g σ w){M':Mem}(hle:g.M.le M')(keep:∀b,b<w.heap.size->w'.heap[b]?=w.heap[b]?/\∀o,M' b o=g.M b o)
  (mem:∀b o v,M' b o=some v->w'.cell? ⟨b,o,none⟩=some v) (size:w.heap.size<=w'.heap.size) (os:w'.os=w.os) (tape:w'.tape=w.tape) (output:w'.output=w.output) (drawn:B3 w.drawn w'.drawn:=by first|exact B3.refl _|exact B3.succ _|assumption):WI E { g with M:=M' } σ w':=
 hw.update (fun _=>False) (fun _ h=>h.elim) (fun b hb _=>keep b hb) hle (Nat.le_refl _) (fun _ _=>rfl) (fun _ _=>rfl) size os tape output (hw.rep.grow hle keep mem) hw.objs hw.owns
theorem cell_alloc(w:World)(o:Obj){b i:Nat}{v:Value}(h:w.cell? ⟨b,i,none⟩=some v):(w.alloc o).cell? ⟨b,i,none⟩=some v:=by
 rw[World.cell?_alloc_lt w o _ (World.block_lt_of_cell? w _ h)];exact h
theorem WI.alloc{E:Ent}{g:Gh}{σ:St}{w:World}(hw:WI E g σ w)(o:Obj):WI E g σ (w.alloc o):=by
 have:=hw.grow (w':=w.alloc o) (M':=g.M) (Mem.le_refl _) (fun b hb=>⟨heap_alloc_old w o b hb,fun _=>rfl⟩) (fun b i v h=>cell_alloc w o (hw.rep.mem b i v h)) (by simp) rfl rfl rfl
 exact this
theorem WI.drew{E:Ent}{g:Gh}{σ:St}{w:World}(hw:WI E g σ w):WI E g σ w.drew:=by
 have:=hw.grow (w':=w.drew) (M':=g.M) (Mem.le_refl _) (fun b hb=>⟨rfl,fun _=>rfl⟩) (fun b i v h=>hw.rep.mem b i v h) (Nat.le_refl _) rfl rfl rfl
 exact this
theorem WI.addObj{E:Ent}{g:Gh}{σ:St}{w:World}(hw:WI E g σ w){b:Nat}{us rest:List Value}{e:TypeId}{cs:List D}(hb:w.heap[b]?=some (.cells (us++rest).toArray e (0,0)))(hE:E.w.heap.size<=b∨E.priv b)(hM:∀o,g.M b o=none)
  (hno:∀i cs,σ.H[i]?=some (some cs)->g.β i≠b) (hown:∀x∈σ.own,∀u,g.ι x.1 x.2.2.length=some u->BG u≠some b) (hr:Ac g cs us) (h1:∀c∈cs,c.one=true):
  WI E { g with n:=g.n+1,β:=fun o=>if o=g.n then b else g.β o,κ:=fun o=>if o=g.n then(us++rest).length else g.κ o } ⟨σ.H++[some cs],σ.own⟩ w/\g.le { g with n:=g.n+1,β:=fun o=>if o=g.n then b else g.β o,κ:=fun o=>if o=g.n then(us++rest).length else g.κ o }:=by
 have hle:g.le { g with n:=g.n+1,β:=fun o=>if o=g.n then b else g.β o,κ:=fun o=>if o=g.n then(us++rest).length else g.κ o }:=⟨Mem.le_refl _,Nat.le_succ _,fun o ho=>if_neg (by omega),fun _ _ _ h=>h,fun o ho=>if_neg (by omega)⟩
 have split:∀i cs',(σ.H++[some cs])[i]?=some (some cs')->(σ.H[i]?=some (some cs')/\i<g.n)∨(i=g.n/\cs'=cs):=by
  intro i cs' hi
  by_cases hlt:i<σ.H.length
  ·rw[getElem?_append_left hlt] at hi
   exact .inl ⟨hi,by rw[hw.rep.n];exact hlt⟩
  ·rw[getElem?_append_right (by omega)] at hi
   have:i-σ.H.length=0:=by
    cases hk:i-σ.H.length with
    |zero=>rfl
    |succ k=>simp[hk] at hi
   rw[this] at hi
   simp at hi
   exact .inr ⟨by rw[hw.rep.n];omega,hi.symm⟩
 refine⟨hw.update (fun _=>False) (fun _ h=>h.elim) (fun _ _ _=>⟨rfl,fun _=>rfl⟩) (Mem.le_refl _) (Nat.le_succ _) (fun o ho=>if_neg (by omega)) (fun o ho=>if_neg (by omega)) (Nat.le_refl _) rfl rfl rfl ?_ ?_ hw.owns,hle⟩
 ·refine⟨by simp[hw.rep.n],hw.rep.mem,fun i cs' hi=>?_,fun i j cs1 cs2 hi hj hij=>?_,hw.rep.own,hw.rep.tags,hw.rep.sep,fun x hx u hu b' hb' i cs' hi=>?_,hw.rep.fresh,hw.rep.gl,hw.rep.gw⟩
  ·rcases split i cs' hi with⟨h,hlt⟩|⟨rfl,rfl⟩
   ·obtain⟨us',rest',e',h2,h3,h4,h5,h6⟩:=hw.rep.obj i cs' h
    have hne:(if i=g.n then b else g.β i)=g.β i:=if_neg (by omega)
    refine⟨us',rest',e',?_,Ac.mono hle _ _ h3,h4,?_,?_⟩
    ·simp only[hne];exact h2
    ·simp only[hne];exact h5
    ·simp only[if_neg (show ¬i=g.n by omega)];exact h6
   ·refine⟨us,rest,e,?_,Ac.mono hle _ _ hr,h1,?_,?_⟩
    ·simp only[if_true];exact hb
    ·simp only[if_true];exact hM
    ·simp only[if_true]
  ·rcases split i cs1 hi with⟨h,hlt⟩|⟨rfl,rfl⟩<;>rcases split j cs2 hj with⟨h',hlt'⟩|⟨rfl,rfl⟩
   ·simp only[if_neg (show ¬i=g.n by omega),if_neg (show ¬j=g.n by omega)] at hij
    exact hw.rep.inj i j _ _ h h' hij
   ·simp only[if_neg (show ¬i=g.n by omega),if_true] at hij
    exact absurd hij (hno i _ h)
   ·simp only[if_neg (show ¬j=g.n by omega),if_true] at hij
    exact absurd hij.symm (hno j _ h')
   ·rfl
  ·rcases split i cs' hi with⟨h,hlt⟩|⟨rfl,rfl⟩
   ·simp only[if_neg (show ¬i=g.n by omega)]
    exact hw.rep.ownObj x hx u hu b' hb' i cs' h
   ·simp only[if_true]
    intro e;subst e
    exact hown x hx u hu hb'
 ·intro i cs' hi
  rcases split i cs' hi with⟨h,hlt⟩|⟨rfl,rfl⟩
  ·simp only[if_neg (show ¬i=g.n by omega)];exact hw.objs i cs' h
  ·simp only[if_true];exact hE
theorem WI.addOwn{E:Ent}{g:Gh}{σ:St}{w:World}(hw:WI E g σ w){k sz:Nat}{xs:List V}{u:Value}(hk:∀x∈σ.own,x.1≠k)(hsz:0<sz/\∀x∈xs,x.size=sz)(hr:repV g.M (.list xs) u)(hp:Perm g.M w sz u)
  (hb:∀b,BG u=some b->E.w.heap.size<=b/\(∀i cs,σ.H[i]?=some (some cs)->g.β i≠b)/\∀x∈σ.own,∀u',g.ι x.1 x.2.2.length=some u'->BG u'≠some b):
  WI E { g with ι:=fun k' m=>if k'=k then(if m=xs.length then some u else none) else g.ι k' m } ⟨σ.H,(k,sz,xs)::σ.own⟩ w/\
  g.le { g with ι:=fun k' m=>if k'=k then(if m=xs.length then some u else none) else g.ι k' m }:=by
 have hle:g.le { g with ι:=fun k' m=>if k'=k then(if m=xs.length then some u else none) else g.ι k' m }:=by
  refine⟨Mem.le_refl _,Nat.le_refl _,fun _ _=>rfl,fun k' m u' h=>?_,fun _ _=>rfl⟩
  by_cases e:k'=k
  ·subst e;rw[hw.rep.fresh k' hk m] at h;simp at h
  ·simp only[if_neg e];exact h
 have hold:∀x∈σ.own,(if x.1=k then(if x.2.2.length=xs.length then some u else none) else g.ι x.1 x.2.2.length)=g.ι x.1 x.2.2.length:=fun x hx=>if_neg (hk x hx)
 refine⟨hw.update (fun _=>False) (fun _ h=>h.elim) (fun _ _ _=>⟨rfl,fun _=>rfl⟩) (Mem.le_refl _) (Nat.le_refl _) (fun _ _=>rfl) (fun _ _=>rfl) (Nat.le_refl _) rfl rfl rfl ?_ hw.objs ?_,hle⟩
 ·refine⟨hw.rep.n,hw.rep.mem,fun i cs hi=>?_,hw.rep.inj,fun k' sz' xs' hx=>?_,?_,fun x hx y hy hne u1 u2 h1 h2 b hb1=>?_,fun x hx u1 h1 b hb1 i cs hi=>?_,fun k' hk' m=>?_,hw.rep.gl,hw.rep.gw⟩
  ·obtain⟨us,rest,e,h2,h3,h4,h5⟩:=hw.rep.obj i cs hi
   exact⟨us,rest,e,h2,Ac.mono hle _ _ h3,h4,h5⟩
  ·rcases mem_cons.1 hx with e|hx
   ·simp only[Prod.mk.injEq] at e
    obtain⟨rfl,rfl,rfl⟩:=e
    refine⟨hsz,u,by simp,hr,hp,fun m hm=>?_⟩
    simp only[if_true];exact if_neg (by omega)
   ·obtain⟨h0,u',hu,h3,h4,h5⟩:=hw.rep.own k' sz' xs' hx
    have hne:¬k'=k:=hk _ hx
    refine⟨h0,u',by simp only[if_neg hne];exact hu,h3,h4,fun m hm=>by simp only[if_neg hne];exact h5 m hm⟩
  ·simp only[map_cons,List.nodup_cons]
   refine⟨fun h=>?_,hw.rep.tags⟩
   obtain⟨x,hx,e⟩:=mem_map.1 h
   exact hk x hx e
  ·rcases mem_cons.1 hx with rfl|hx<;>rcases mem_cons.1 hy with rfl|hy
   ·exact absurd rfl hne
   ·simp at h1;subst h1
    have h2':g.ι y.1 y.2.2.length=some u2:=(hold y hy).symm.trans h2
    exact(hb b hb1).2.2 y hy u2 h2'
   ·simp at h2;subst h2
    have h1':g.ι x.1 x.2.2.length=some u1:=(hold x hx).symm.trans h1
    intro hb2
    exact(hb b hb2).2.2 x hx u1 h1' hb1
   ·exact hw.rep.sep x hx y hy hne u1 u2 ((hold x hx).symm.trans h1) ((hold y hy).symm.trans h2) b hb1
  ·rcases mem_cons.1 hx with rfl|hx
   ·simp at h1;subst h1
    exact(hb b hb1).2.1 i cs hi
   ·exact hw.rep.ownObj x hx u1 ((hold x hx).symm.trans h1) b hb1 i cs hi
  ·have hne:¬k'=k:=fun e=>hk' (k,sz,xs) (by simp) e.symm
   simp only[if_neg hne]
   exact hw.rep.fresh k' (fun x hx=>hk' x (by simp[hx])) m
 ·intro x hx u1 h1 b hb1
  rcases mem_cons.1 hx with rfl|hx
  ·simp at h1;subst h1
   exact .inl (hb b hb1).1
  ·exact hw.owns x hx u1 ((hold x hx).symm.trans h1) b hb1
def B6:D->List D
 |.v (.agg xs)=>xs.map .v
 |.dagg cs=>cs
 |d=>[d]
def D.sto:D->Bool
 |.v _|.acc .. |.ptr .. |.arr .. |.gro .. |.dfn .. =>true
 |.dagg cs=>cs.all D.one
 |.raw x=>x.oneCell'
 |.rv x _=> !x.isAgg
 |_=>false
theorem CR{g:Gh}:∀{xs:List V} {us:List Value},repA g.M xs us->Ac g (xs.map .v) us/\∀c∈xs.map D.v,c.one=true
 |[],us,h=>by simp only[repA] at h;simp[h,Ac]
 |x::xs,us,h=>by
  simp only[repA] at h
  obtain⟨u,us',rfl,ha,h1,h2⟩:=h
  obtain⟨h3,h4⟩:=CR h2
  refine⟨?_,?_⟩
  ·simp only[map_cons,Ac,Ae]
   exact⟨u,us',rfl,(AZ ha).2 h1,h3⟩
  ·intro c hc
   simp only[map_cons,mem_cons] at hc
   rcases hc with rfl|hc
   ·simp[D.one,ha]
   ·exact h4 c hc
theorem cells_one{u:Value}(h:u.oneCell'=true):u.cells= #[u]:=by cases u<;>simp_all [Value.cells,Value.oneCell']
theorem Eo{g:Gh}{d:D}{u:Value}(h1:d.one=true)(h:Ae g d u):u.oneCell'=true:=by
 cases d with
 |v x=>simp only[Ae] at h;exact C9 (by simpa[D.one] using h1) h
 |acc k xs=>simp only[Ae] at h;exact C9 (x:=.list xs) rfl h.1
 |ptr q off=>simp only[Ae] at h;rw[h.2];rfl
 |arr q off len=>simp only[Ae] at h;obtain⟨_,cap,_,rfl⟩:=h;rfl
 |gro q len sz=>simp only[Ae] at h;obtain⟨_,cap,_,_,rfl⟩:=h;rfl
 |dfn f fs cs=>simp only[Ae] at h;obtain⟨us,vs,rfl,_⟩:=h;rfl
 |raw x=>simp only[Ae] at h;subst h;simpa[D.one] using h1
 |rv x u0=>simp only[Ae] at h;rw[h.1];exact C9 (by simpa[D.one] using h1) h.2
 |dagg cs=>simp[D.one] at h1
 |tup ds=>simp[D.one] at h1
 |err=>simp[D.one] at h1
 |undef=>simp[D.one] at h1
theorem Ck{g:Gh}:∀{cs:List D} {us:List Value},(∀c∈cs,c.one=true)->Ac g cs us->∀u∈us,u.oneCell'=true
 |[],us,_,h=>by simp only[Ac] at h;simp[h]
 |c::cs,us,h1,h=>by
  simp only[Ac] at h
  obtain⟨u,us',rfl,h2,h3⟩:=h
  intro x hx
  simp only[mem_cons] at hx
  rcases hx with rfl|hx
  ·exact Eo (h1 c (by simp)) h2
  ·exact Ck (fun c hc=>h1 c (by simp[hc])) h3 x hx
theorem cells_rep{g:Gh}{d:D}{u:Value}(hs:d.sto=true)(h:Ae g d u):Ac g (B6 d) u.cells.toList/\(∀c∈B6 d,c.one=true)/\(∀x∈u.cells.toList,x.oneCell'=true):=by
 have one:d.one=true->u.oneCell'=true->B6 d=[d]->Ac g (B6 d) u.cells.toList/\(∀c∈B6 d,c.one=true)/\(∀x∈u.cells.toList,x.oneCell'=true):=by
  intro h1 h2 h3
  rw[h3,cells_one h2]
  exact⟨A0.2 ⟨u,rfl,h⟩,by simp[h1],by simp[h2]⟩
 cases d with
 |v x=>
  cases hx:x.isAgg with
  |false=>exact one (by simp[D.one,hx]) (by simp only[Ae] at h;exact C9 hx h) (by cases x with|agg _=>simp[V.isAgg] at hx|_=>rfl)
  |true=>
   cases x with
   |agg cs=>
    simp only[Ae,BZ] at h
    obtain⟨ws,hr,rfl⟩:=h
    simp only[B6,Value.cells]
    obtain⟨h3,h4⟩:=CR hr
    exact⟨h3,h4,FX hr⟩
   |_=>simp[V.isAgg] at hx
 |acc k xs=>exact one rfl (by simp only[Ae] at h;exact C9 (x:=.list xs) rfl h.1) rfl
 |ptr q off=>exact one rfl (by simp only[Ae] at h;rw[h.2];rfl) rfl
 |arr q off len=>exact one rfl (by simp only[Ae] at h;obtain⟨_,cap,_,rfl⟩:=h;rfl) rfl
 |dfn f fs cs=>exact one rfl (by simp only[Ae] at h;obtain⟨us,vs,rfl,_⟩:=h;rfl) rfl
 |gro q len sz=>exact one rfl (Eo rfl h) rfl
 |rv x u0=>exact one (by simpa[D.sto,D.one] using hs) (Eo (by simpa[D.sto,D.one] using hs) h) rfl
 |raw x=>exact one (by simpa[D.sto,D.one] using hs) (Eo (by simpa[D.sto,D.one] using hs) h) rfl
 |dagg cs=>
  simp only[Ae] at h
  obtain⟨us,rfl,hr⟩:=h
  have h1:∀c∈cs,c.one=true:=by simpa[D.sto] using hs
  simp only[B6,Value.cells]
  exact⟨hr,h1,Ck h1 hr⟩
 |tup ds=>simp[D.sto] at hs
 |err=>simp[D.sto] at hs
 |undef=>simp[D.sto] at hs
theorem WI.setObj{E:Ent}{g:Gh}{σ:St}{w w':World}(hw:WI E g σ w){q:Nat}{cs cs':List D}(hq:σ.H[q]?=some (some cs)){us rest:List Value}{e:TypeId}(hb:w'.heap[g.β q]?=some (.cells (us++rest).toArray e (0,0)))(hκ:(us++rest).length=g.κ q)
  (hr:Ac g cs' us) (h1:∀c∈cs',c.one=true) (keep:∀b,b≠g.β q->w'.heap[b]?=w.heap[b]?) (size:w'.heap.size=w.heap.size) (os:w'.os=w.os) (tape:w'.tape=w.tape) (output:w'.output=w.output) (drawn:B3 w.drawn w'.drawn:=by first|exact B3.refl _|exact B3.succ _|assumption):
  WI E g ⟨σ.H.set q (some cs'),σ.own⟩ w':=by
 have hMq:∀o,g.M (g.β q) o=none:=by obtain⟨_,_,_,_,_,_,h,_⟩:=hw.rep.obj q cs hq;exact h
 have split:∀(i:Nat) (cs1:List D),(σ.H.set q (some cs'))[i]?=some (some cs1)->(i=q/\cs1=cs')∨(i≠q/\σ.H[i]?=some (some cs1)):=by
  intro i cs1 hi
  rw[getElem?_set] at hi
  split at hi
  ·rename_i e;subst e
   split at hi
   ·simp at hi;exact .inl ⟨rfl,hi.symm⟩
   ·simp at hi
  ·rename_i e;exact .inr ⟨fun h=>e h.symm,hi⟩
 have live:∀(i:Nat) (cs1:List D),(σ.H.set q (some cs'))[i]?=some (some cs1)->∃cs2,σ.H[i]?=some (some cs2):=by
  intro i cs1 hi
  rcases split i cs1 hi with⟨rfl,_⟩|⟨_,h⟩
  ·exact⟨cs,hq⟩
  ·exact⟨_,h⟩
 refine hw.update (fun b=>b=g.β q) (fun b e=>by subst e;exact hw.objs q cs hq) (fun b _ hne=>⟨keep b hne,fun _=>rfl⟩) (Mem.le_refl _) (Nat.le_refl _) (fun _ _=>rfl) (fun _ _=>rfl) (by omega) os tape output ?_ ?_ hw.owns
 ·refine⟨by simp[hw.rep.n],fun b o v hm=>?_,fun i cs1 hi=>?_,fun i j c1 c2 hi hj hij=>?_,fun k sz xs hx=>?_,hw.rep.tags,hw.rep.sep,fun x hx u hu b hb' i cs1 hi=>?_,hw.rep.fresh,hw.rep.gl,hw.rep.gw.mono fun b cs0 e0 x0 hb0=>by
   by_cases hbq:b=g.β q
   ·subst hbq
    obtain⟨us1,rest1,e1,h2,_,_,_,h3⟩:=hw.rep.obj q cs hq
    rw[h2] at hb0
    cases hb0
    exact⟨_,_,_,hb,by simp only[size_toArray];omega⟩
   ·exact⟨_,_,_,(keep b hbq).trans hb0,rfl⟩⟩
  ·have hne:b≠g.β q:=fun e=>by subst e;rw[hMq o] at hm;simp at hm
   have:=hw.rep.mem b o v hm
   simp only[World.cell?] at this⊢
   rw[keep b hne];exact this
  ·rcases split i cs1 hi with⟨rfl,rfl⟩|⟨hne,h⟩
   ·exact⟨us,rest,e,hb,hr,h1,hMq,hκ⟩
   ·obtain⟨us',rest',e',h2,h3,h4,h5⟩:=hw.rep.obj i cs1 h
    refine⟨us',rest',e',?_,h3,h4,h5⟩
    rw[keep _ (fun e=>hne (hw.rep.inj i q _ _ h hq e))];exact h2
  ·obtain⟨c3,h3⟩:=live i c1 hi
   obtain⟨c4,h4⟩:=live j c2 hj
   exact hw.rep.inj i j _ _ h3 h4 hij
  ·obtain⟨h0,u,hu,h3,h4,h5⟩:=hw.rep.own k sz xs hx
   refine⟨h0,u,hu,h3,h4.kept fun b hb'=>⟨keep b ?_,fun _=>rfl⟩,h5⟩
   exact fun e=>hw.rep.ownObj _ hx u hu b hb' q cs hq e.symm
  ·obtain⟨c3,h3⟩:=live i cs1 hi
   exact hw.rep.ownObj x hx u hu b hb' i c3 h3
 ·intro i cs1 hi
  obtain⟨c3,h3⟩:=live i cs1 hi
  exact hw.objs i c3 h3
section
variable {P : Program} {o : Oper} {σ : St} {d : D}
theorem WI.newObj{E:Ent}{g:Gh}{w:World}(hw:WI E g σ w){us:List Value}{cs:List D}(e:TypeId)(hr:Ac g cs us)(h1:∀c∈cs,c.one=true):
  ∃g',WI E g' ⟨σ.H++[some cs],σ.own⟩ (w.alloc (.cells us.toArray e))/\g.le g'/\g'.β σ.H.length=w.heap.size/\g'.n=σ.H.length+1:=by
 have h2:=(hw.alloc (.cells us.toArray e)).addObj (b:=w.heap.size) (us:=us) (rest:=[]) (e:=e) (cs:=cs) (by rw[append_nil];exact heap_alloc_new w _) (.inl hw.size) (hw.rep.new_none (Nat.le_refl _))
  (fun i cs hi=>Nat.ne_of_lt (hw.rep.obj_lt hi)) (fun x hx u hu hb=>by have:=hw.rep.own_lt hx hu hb;omega) hr h1
 exact⟨_,h2.1,h2.2,by simp[hw.rep.n],by simp[hw.rep.n]⟩
theorem op_box{e:TypeId}{x:Operand}(ho:o.op=.box e x)(hs:d.sto=true):Ai P o [d] σ (.ptr σ.H.length 0) ⟨σ.H++[some (B6 d)],σ.own⟩:=by
 intro E g a w K Q hw hds hK
 simp only[ho,Op.operands,A0] at hds
 obtain⟨u,eu,hd⟩:=hds
 simp at eu
 obtain⟨h2,h3,_⟩:=cells_rep hs hd
 obtain⟨g',hw',hle,hβ,hn⟩:=hw.newObj e h2 h3
 have:=hK g' _ (.pointer (some ⟨w.heap.size,0,none⟩)) hw' hle (by simp only[Ae];exact⟨by omega,by rw[hβ]⟩)
 unfold Oper.wp execOp
 simpa[ho,eu,Instr.box,newVar,newRow,Oper.upon] using this
def constV:Value->Option V
 |.int k n=>some (.int k n)
 |.bool b=>some (.bool b)
 |.string s=>some (.str s.data.toList)
 |.slice none 0 0=>some (.list [])
 |.nilFunc=>some .nilfn
 |.pointer none=>some .nilp
 |_=>none
def Hq:List Value->Option (List V)
 |[]=>some []
 |u::us=>match constV u,Hq us with
  |some x,some xs=>some (x::xs)
  |_,_=>none
theorem constV_rep{M:Mem}{u:Value}{x:V}(h:constV u=some x):x.isAgg=false/\repC M x [u]:=by
 unfold constV at h
 split at h<;>simp at h<;>subst h<;>simp[V.isAgg,repC]
theorem Fv{M:Mem}:∀{us:List Value} {xs:List V},Hq us=some xs->repA M xs us
 |[],xs,h=>by simp[Hq] at h;subst h;simp[repA]
 |u::us,xs,h=>by
  simp only[Hq] at h
  split at h
  ·rename_i x xs' h1 h2
   simp at h;subst h
   obtain⟨h3,h4⟩:=constV_rep (M:=M) h1
   simp only[repA]
   exact⟨u,us,rfl,h3,h4,Fv h2⟩
  ·simp at h
def zeroV(P:Program)(t:TypeId):Option (List V):=
 match (P.info? t).bind (·.zero) with
 |some z=>Hq z.cells.toList
 |none=>none
theorem zeroV_parts{t:TypeId}{xs:List V}(h:zeroV P t=some xs):∃i z,P.info? t=some i/\i.zero=some z/\Hq z.cells.toList=some xs:=by
 unfold zeroV at h
 split at h
 ·rename_i z hz
  cases hi:P.info? t with
  |none=>simp[hi] at hz
  |some i=>exact⟨i,z,rfl,by simpa[hi] using hz,h⟩
 ·simp at h
theorem op_store{t:TypeId}{x y:Operand}(ho:o.op=.store t x y)(hs:d.sto=true){n:Nat}{b:Bool}(ht:CZ P t=some (n,b))(hn:(B6 d).length=n){q off:Nat}{cs:List D}(hq:σ.H[q]?=some (some cs))(hoff:off+n<=cs.length):
  Ai P o [.ptr q off,d] σ .undef ⟨σ.H.set q (some (cs.take off++B6 d++cs.drop (off+n))),σ.own⟩:=by
 intro E g a w K Q hw hds hK
 simp only[ho,Op.operands,Ap] at hds
 obtain⟨u,v,eq,h1,h2⟩:=hds
 simp only[map_cons,map_nil,List.cons.injEq,and_true] at eq
 obtain⟨e1,e2⟩:=eq
 simp only[Ae] at h1
 obtain⟨hlt,rfl⟩:=h1
 obtain⟨us,rest,e,hb,hr,hone,hM,hκ⟩:=hw.rep.obj q cs hq
 obtain⟨h3,h4,h5⟩:=cells_rep hs h2
 have hl:us.length=cs.length:=Ay hr
 have hl2:v.cells.toList.length=n:=by rw[Ay h3,hn]
 have hst:=run_storeCells_at P (g.β q) off e v.cells.toList 0 (us++rest).toArray w hb (by simp only[size_toArray,length_append];omega) h5
 simp only[Nat.add_zero,hl2] at hst
 rw[show(us++rest).take off++v.cells.toList++(us++rest).drop (off+n)=(us.take off++v.cells.toList++us.drop (off+n))++rest from by
  rw[List.take_append_of_le_length (by omega),List.drop_append_of_le_length (by omega)];simp] at hst
 have hw':=hw.setObj (cs':=cs.take off++B6 d++cs.drop (off+n)) hq (us:=us.take off++v.cells.toList++us.drop (off+n)) (rest:=rest) (e:=e)
  (w':=w.setRow (g.β q) ((us.take off++v.cells.toList++us.drop (off+n))++rest).toArray) (setRow_heap w _ _ _ e _ hb) (by rw[←hκ];simp only[length_append,length_take,length_drop];omega)
  (Aq (Aq (BD hr off) h3) (BP hr (off+n)))
  (fun c hc=>by
   simp only[mem_append] at hc
   rcases hc with(hc|hc)|hc
   ·exact hone c (mem_of_mem_take hc)
   ·exact h4 c hc
   ·exact hone c (mem_of_mem_drop hc))
  (fun b hb=>setRow_other w _ _ _ hb) (by simp) rfl rfl rfl
 have:=hK g _ undef hw' g.le_refl (by simp[Ae])
 have hsz:v.cells.size=n:=by rw[←Array.length_toList];exact hl2
 unfold Oper.wp execOp
 simp only[ho,e1,e2,Instr.storeAt,Instr.sureAddr,Sem.run_bind,Sem.run_pure,Result.andThen_ok,storeVar,run_sizeOf' ht,hsz,ne_eq,not_true_eq_false,if_false,hst]
 exact this
theorem op_store1{t:TypeId}{x y:Operand}(ho:o.op=.store t x y)(hs:d.one=true)(ht:OneTy P t){q off:Nat}{cs:List D}(hq:σ.H[q]?=some (some cs))(hoff:off<cs.length):
  Ai P o [.ptr q off,d] σ .undef ⟨σ.H.set q (some (cs.set off d)),σ.own⟩:=by
 have hc:B6 d=[d]:=by
  cases d with
  |v x=>cases x<;>simp_all [D.one,B6,V.isAgg]
  |dagg cs=>simp[D.one] at hs
  |_=>rfl
 have hs':d.sto=true:=by cases d<;>simp_all [D.one,D.sto]
 have h:=op_store (P:=P) (σ:=σ) (n:=1) (off:=off) ho hs' ht (by rw[hc];rfl) hq (by omega)
 rw[hc] at h
 have e:cs.take off++[d]++cs.drop (off+1)=cs.set off d:=by
  rw[List.set_eq_take_append_cons_drop,if_pos hoff];simp
 rw[e] at h
 exact h
def V.cellsV:V->List V
 |.agg cs=>cs
 |x=>[x]
theorem repV_cellsV{M:Mem}{x:V}{u:Value}(h:repV M x u):repA M x.cellsV u.cells.toList/\u.cells.size=x.size:=by
 have hc:=repV_cells h
 have hl:u.cells.size=x.size:=by rw[←Array.length_toList];exact EX hc
 refine⟨?_,hl⟩
 cases hx:x.isAgg with
 |true=>
  cases x with
  |agg cs=>simpa only[V.cellsV,repC] using hc
  |_=>simp[V.isAgg] at hx
 |false=>
  have e:x.cellsV=[x]:=by cases x<;>simp_all [V.cellsV,V.isAgg]
  obtain⟨u',e1,_,_⟩:=Cl hx hc
  rw[e,e1]
  simp only[repA]
  exact⟨u',[],rfl,hx,by rw[←e1];exact hc,rfl⟩
def FF(place:Nat->Option (Nat×Nat))(cells:List V):List (Nat×V)->Option (List V)
 |[]=>some cells
 |(i,x)::rest=>
  match place i with
  |none=>none
  |some (off,size)=>if x.size=size/\off+size<=cells.length then FF place (cells.take off++x.cellsV++cells.drop (off+size)) rest else none
theorem fillV_mono{place place':Nat->Option (Nat×Nat)}{out:List V}(hp:∀i p,place i=some p->place' i=some p):∀(xs:List (Nat×V)) (cells:List V),FF place cells xs=some out->FF place' cells xs=some out
 |[],cells,h=>by simpa[FF] using h
 |(i,x)::xs,cells,h=>by
  simp only[FF] at h⊢
  cases hi:place i with
  |none=>simp[hi] at h
  |some p=>
   rw[hp i p hi]
   simp only[hi] at h⊢
   split at h
   ·rename_i hc;rw[if_pos hc];exact fillV_mono hp xs _ h
   ·simp at h
theorem GD{M:Mem}:∀{xs ys:List V} {us vs:List Value},repA M xs us->repA M ys vs->repA M (xs++ys) (us++vs)
 |[],ys,us,vs,h,h'=>by simp only[repA] at h;simpa[h] using h'
 |x::xs,ys,us,vs,h,h'=>by
  simp only[repA] at h
  obtain⟨u,us1,rfl,ha,h1,h2⟩:=h
  simp only[cons_append,repA]
  exact⟨u,_,rfl,ha,h1,GD h2 h'⟩
theorem splice(off:Nat)(l:List Value)(cs:Array Value)(h:off+l.length<=cs.size):
  ((l.zipIdx 0).foldl (fun cs (x:Value×Nat)=>cs.setIfInBounds (off+x.2) x.1) cs).toList=cs.toList.take off++l++cs.toList.drop (off+l.length):=by
 obtain⟨h1,h2⟩:=Great.foldl_set off l 0 cs
 apply ext_getElem?
 intro k
 have e:((l.zipIdx 0).foldl (fun cs (x:Value×Nat)=>cs.setIfInBounds (off+x.2) x.1) cs).toList[k]?=((l.zipIdx 0).foldl (fun cs (x:Value×Nat)=>cs.setIfInBounds (off+x.2) x.1) cs)[k]?:=by simp
 rw[e,h2 k]
 simp only[Nat.add_zero]
 have hlt:(cs.toList.take off).length=off:=by simp;omega
 by_cases hk:k<off
 ·rw[if_neg (by omega),append_assoc,getElem?_append_left (by omega),getElem?_take,if_pos hk];simp
 ·by_cases hk2:k<off+l.length
  ·rw[if_pos (by omega),append_assoc,getElem?_append_right (by omega),hlt,getElem?_append_left (by omega)]
  ·rw[if_neg (by omega),getElem?_append_right (by simp;omega),getElem?_drop]
   simp only[length_append,hlt]
   rw[show off+l.length+(k- (off+l.length))=k by omega];simp
inductive GT (M:Mem):List (Nat×V)->List (Nat×Value)->Prop
 |nil:GT M [] []
 |cons {i:Nat} {x:V} {u:Value} {xs:List (Nat×V)} {us:List (Nat×Value)} (h:repV M x u) (hr:GT M xs us):GT M ((i,x)::xs) ((i,u)::us)
theorem fill_rep{M:Mem}{place:Nat->Option (Nat×Nat)}:∀{xs:List (Nat×V)} {us:List (Nat×Value)} {cells out:List V} {cu:Array Value},GT M xs us->repA M cells cu.toList->FF place cells xs=some out->
  ∃U,Instr.fill place cu us=some U/\repA M out U.toList
 |[],us,cells,out,cu,h,hc,hf=>by
  cases h
  simp[FF] at hf;subst hf
  exact⟨cu,rfl,hc⟩
 |(i,x)::xs,us,cells,out,cu,h,hc,hf=>by
  cases h with
  |cons hx hr=>
   rename_i u us
   simp only[FF] at hf
   cases hp:place i with
   |none=>simp[hp] at hf
   |some p=>
    obtain⟨off,size⟩:=p
    simp only[hp] at hf
    split at hf
    ·rename_i hcond
     obtain⟨hA,hsz⟩:=repV_cellsV hx
     have hl:cu.size=cells.length:=by rw[←Array.length_toList];exact Dc hc
     have hs:u.cells.size=size:=hsz.trans hcond.1
     have hsp:=splice off u.cells.toList cu (by simp only[Array.length_toList];omega)
     simp only[Array.length_toList,hs] at hsp
     have hc':repA M (cells.take off++x.cellsV++cells.drop (off+size)) ((u.cells.toList.zipIdx 0).foldl (fun cs (x:Value×Nat)=>cs.setIfInBounds (off+x.2) x.1) cu).toList:=by
      rw[hsp]
      exact GD (GD (Hb hc off) hA) (Hd hc (off+size))
     obtain⟨U,hU,hrU⟩:=fill_rep hr hc' hf
     refine⟨U,?_,hrU⟩
     unfold Instr.fill
     simp only[hp,hs]
     rw[if_neg (by simp;omega), ←hU]
     congr 1
     rw[←Array.foldl_toList,Array.toList_zipIdx]
    ·simp at hf
def bldTy(P:Program)(t:TypeId):Option (List V×List (Nat×Nat)):=
 match zeroV P t,P.underlying t with
 |some z,some (.struct fs)=>(fs.toList.mapM (fun f=>(P.info? f.type).map fun i=>(f.offset,i.size))).map fun p=>(z,p)
 |some z,some (.array n e)=>(P.info? e).map fun i=>(z,(List.range n).map fun j=>(j*i.size,i.size))
 |_,_=>none
def C1:List (Nat×Operand)->List D->Option (List (Nat×V))
 |[],[]=>some []
 |(i,_)::ps,d::ds=>match d.toV,C1 ps ds with
  |some x,some xs=>some ((i,x)::xs)
  |_,_=>none
 |_,_=>none
theorem FO{g:Gh}{a:Act}:∀{ps:List (Nat×Operand)} {ds:List D} {xs:List (Nat×V)},C1 ps ds=some xs->Ac g ds (ps.map fun p=>a.eval p.2)->GT g.M xs (ps.map fun p=>(p.1,a.eval p.2))
 |[],[],xs,h,_=>by simp[C1] at h;subst h;exact .nil
 |[],_::_,xs,h,_=>by simp[C1] at h
 |(i,_)::ps,[],xs,h,_=>by simp[C1] at h
 |(i,x)::ps,d::ds,xs,h,hr=>by
  simp only[C1] at h
  split at h
  ·rename_i y ys hy hys
   simp at h;subst h
   simp only[map_cons,Ac] at hr
   obtain⟨u,us',e,h1,h2⟩:=hr
   simp at e
   obtain⟨rfl,rfl⟩:=e
   exact .cons (GZ hy h1) (FO hys h2)
  ·simp at h
theorem op_build{t:TypeId}{parts:Array (Nat×Operand)}(ho:o.op=.build t parts){z:List V}{places:List (Nat×Nat)}(hb:bldTy P t=some (z,places)){ds:List D}{xs:List (Nat×V)}{out:List V}
  (hx:C1 parts.toList ds=some xs) (hf:FF (places[·]?) z xs=some out):Ai P o ds σ (.v (.agg out)) σ:=by
 intro E g a w K Q hw hds hK
 simp only[ho,Op.operands] at hds
 have hpr:=FO hx (a:=a) (g:=g) (by simpa[Function.comp_def] using hds)
 unfold bldTy at hb
 have key:∃U,P.built t (parts.toList.map fun p=>(p.1,a.eval p.2))=some U/\repA g.M out U.toList:=by
  cases hz:zeroV P t with
  |none=>simp[hz] at hb
  |some z0=>
   obtain⟨i,zv,hi,hz1,hcv⟩:=zeroV_parts hz
   cases hu:P.underlying t with
   |none=>simp[hz,hu] at hb
   |some dd=>
    cases dd<;>simp only[hz,hu,reduceCtorEq] at hb
    case struct fs=>
     cases hp:fs.toList.mapM (fun f=>(P.info? f.type).map fun i=>(f.offset,i.size)) with
     |none=>simp[hp] at hb
     |some pl=>
      simp[hp] at hb
      obtain⟨rfl,rfl⟩:=hb
      obtain⟨U,hU,hrU⟩:=fill_rep hpr (Fv (M:=g.M) hcv) hf
      exact⟨U,by simpa[Program.built,hi,hu,hz1,hp] using hU,hrU⟩
    case array n e=>
     cases hp:P.info? e with
     |none=>simp[hp] at hb
     |some ie=>
      simp[hp] at hb
      obtain⟨rfl,rfl⟩:=hb
      have hf':FF (fun i=>some (i*ie.size,ie.size)) z0 xs=some out:=by
       refine fillV_mono (fun i p hp'=>?_) xs z0 hf
       have hlt:=(List.getElem?_eq_some_iff.1 hp').1
       simp at hlt
       simpa[hlt] using hp'
      obtain⟨U,hU,hrU⟩:=fill_rep hpr (Fv (M:=g.M) hcv) hf'
      exact⟨U,by simpa[Program.built,hi,hu,hz1,hp] using hU,hrU⟩
 obtain⟨U,hU,hrU⟩:=key
 have:=hK g w (.agg U) hw g.le_refl (by simp only[Ae,BZ];exact⟨U.toList,hrU,by simp⟩)
 have hrun:=run_build (P:=P) w t (parts.map fun p=>(p.1,a.eval p.2)) U (by simpa using hU)
 unfold Oper.wp execOp
 simp only[ho]
 simp only[Sem.run_bind]
 rw[show(parts.map fun(x:Nat×Operand)=>match x with|(i,x)=>(i,a.eval x))=parts.map fun p=>(p.1,a.eval p.2) from rfl,hrun]
 exact this
end
def Fy(k sz:Nat)(zs:List V)(x:Nat×Nat×List V):Nat×Nat×List V:=if x.1=k then(k,sz,zs) else x
theorem repl_fst{k sz:Nat}{zs:List V}(x:Nat×Nat×List V):(Fy k sz zs x).1=x.1:=by unfold Fy;split<;>simp_all
theorem WI.setOwn{E:Ent}{g:Gh}{σ:St}{w w':World}(hw:WI E g σ w){k sz:Nat}{xs zs:List V}(hx:(k,sz,xs)∈σ.own){u u':Value}(hu:g.ι k xs.length=some u){M':Mem}(hle:g.M.le M')
  (keep:∀b,b<w.heap.size->BG u≠some b->w'.heap[b]?=w.heap[b]?/\∀o,M' b o=g.M b o) (mem:∀b o v,M' b o=some v->w'.cell? ⟨b,o,none⟩=some v)
  (size:w.heap.size<=w'.heap.size) (os:w'.os=w.os) (tape:w'.tape=w.tape) (output:w'.output=w.output)
  (hzs:∀x∈zs,x.size=sz) (hr:repV M' (.list zs) u') (hp:Perm M' w' sz u') (hb:∀b,BG u'=some b->BG u=some b∨w.heap.size<=b) (hlen:xs.length<zs.length∨(zs.length=xs.length/\u'=u)) (drawn:B3 w.drawn w'.drawn:=by first|exact B3.refl _|exact B3.succ _|assumption):
  WI E { g with M:=M',ι:=fun k' m=>if k'=k/\m=zs.length then some u' else g.ι k' m } ⟨σ.H,σ.own.map (Fy k sz zs)⟩ w'/\
  g.le { g with M:=M',ι:=fun k' m=>if k'=k/\m=zs.length then some u' else g.ι k' m }:=by
 obtain⟨hsz,u0,hu0,_,_,hfr⟩:=hw.rep.own k sz xs hx
 have hlg:g.le { g with M:=M',ι:=fun k' m=>if k'=k/\m=zs.length then some u' else g.ι k' m }:=by
  refine⟨hle,Nat.le_refl _,fun _ _=>rfl,fun k' m v h=>?_,fun _ _=>rfl⟩
  by_cases e:k'=k/\m=zs.length
  ·obtain⟨rfl,rfl⟩:=e
   simp only[and_self,if_true]
   rcases hlen with hl|⟨hl,rfl⟩
   ·rw[hfr _ hl] at h;simp at h
   ·rw[hl] at h;exact hu.symm.trans h
  ·simp only[if_neg e];exact h
 -- two entries with one tag are one
 have uniq:∀y∈σ.own,y.1=k->y=(k,sz,xs):=by
  intro y hy e
  have hnd:=hw.rep.tags
  clear hfr hlg hw
  generalize σ.own=l at*
  induction l with
  |nil=>simp at hy
  |cons z l ih=>
   simp only[map_cons,List.nodup_cons] at hnd
   rcases mem_cons.1 hy with rfl|hy'<;>rcases mem_cons.1 hx with hx'|hx'
   ·exact hx'.symm
   ·exact absurd (mem_map.2 ⟨_,hx',e.symm⟩) hnd.1
   ·subst hx';exact absurd (mem_map.2 ⟨_,hy',e⟩) hnd.1
   ·exact ih hx' hy' hnd.2
 have old:∀y∈σ.own,y.1≠k->(if y.1=k/\y.2.2.length=zs.length then some u' else g.ι y.1 y.2.2.length)=g.ι y.1 y.2.2.length:=fun y _ e=>if_neg (fun h=>e h.1)
 -- each new entry
 have cases_:∀y'∈σ.own.map (Fy k sz zs),(y'=(k,sz,zs))∨(y'∈σ.own/\y'.1≠k):=by
  intro y' hy'
  obtain⟨y,hy,rfl⟩:=mem_map.1 hy'
  by_cases e:y.1=k
  ·exact .inl (by simp[Fy,e])
  ·exact .inr (by simp only[Fy,if_neg e];exact⟨hy,e⟩)
 have sep0:∀y∈σ.own,y.1≠k->∀v,g.ι y.1 y.2.2.length=some v->∀b,BG v=some b->BG u'≠some b:=by
  intro y hy e v hv b hvb hub
  rcases hb b hub with h|h
  ·exact hw.rep.sep (k,sz,xs) hx y hy (fun h=>e h.symm) u v hu hv b h hvb
  ·have:=hw.rep.own_lt hy hv hvb;omega
 refine⟨hw.update (fun b=>BG u=some b) (fun b h=>hw.owns _ hx u hu b h) (fun b hb1 h=>keep b hb1 h) hle (Nat.le_refl _) (fun _ _=>rfl) (fun _ _=>rfl) size os tape output ?_ hw.objs ?_,hlg⟩
 ·refine⟨hw.rep.n,mem,fun i cs hi=>?_,hw.rep.inj,fun k' sz' xs' hx'=>?_,?_,fun x1 hx1 y1 hy1 hne u1 u2 h1 h2 b hb1=>?_,fun x1 hx1 u1 h1 b hb1 i cs hi=>?_,fun k' hk' m=>?_,hw.rep.gl.mono hle,hw.rep.gw.keepG fun p hp hlt=>(keep p.1 hlt fun e=>hw.rep.own_ng hx hu e p hp rfl).1⟩
  ·obtain⟨us,rest,e,h2,h3,h4,h5,h6⟩:=hw.rep.obj i cs hi
   obtain⟨k1,k2⟩:=keep _ (Fq h2) (fun h=>hw.rep.ownObj _ hx u hu _ h i cs hi rfl)
   exact⟨us,rest,e,k1.trans h2,Ac.mono hlg _ _ h3,h4,fun o=>(k2 o).trans (h5 o),h6⟩
  ·rcases cases_ _ hx' with e|⟨hy,e⟩
   ·simp only[Prod.mk.injEq] at e
    obtain⟨rfl,rfl,rfl⟩:=e
    refine⟨⟨hsz.1,hzs⟩,u',by simp,hr,hp,fun m hm=>?_⟩
    show(if k'=k'/\m=xs'.length then some u' else g.ι k' m)=none
    rw[if_neg (by omega)]
    exact hfr m (by rcases hlen with h|⟨h,_⟩<;>omega)
   ·obtain⟨h0,v,hv,h3,h4,h5⟩:=hw.rep.own k' sz' xs' hy
    refine⟨h0,v,(old _ hy e).trans hv,h3.mono hle,h4.kept fun b hvb=>keep b (hw.rep.own_lt hy hv hvb) ?_,fun m hm=>?_⟩
    ·exact fun h=>hw.rep.sep (k,sz,xs) hx _ hy (fun h=>e h.symm) u v hu hv b h hvb
    ·simp only[if_neg (show ¬(k'=k/\m=zs.length) from fun h=>e h.1)]
     exact h5 m hm
  ·rw[map_map]
   have:(Prod.fst ∘Fy k sz zs)=Prod.fst:=funext fun x=>repl_fst x
   rw[this];exact hw.rep.tags
  ·rcases cases_ _ hx1 with rfl|⟨hy,e⟩<;>rcases cases_ _ hy1 with rfl|⟨hy',e'⟩
   ·exact absurd rfl hne
   ·simp at h1;subst h1
    have h2':=(old _ hy' e').symm.trans h2
    exact fun h=>sep0 y1 hy' e' u2 h2' b h hb1
   ·simp at h2;subst h2
    exact sep0 x1 hy e u1 ((old _ hy e).symm.trans h1) b hb1
   ·exact hw.rep.sep x1 hy y1 hy' hne u1 u2 ((old _ hy e).symm.trans h1) ((old _ hy' e').symm.trans h2) b hb1
  ·rcases cases_ _ hx1 with rfl|⟨hy,e⟩
   ·simp at h1;subst h1
    rcases hb b hb1 with h|h
    ·exact hw.rep.ownObj _ hx u hu b h i cs hi
    ·have:=hw.rep.obj_lt hi
     intro h';simp only at h';omega
   ·exact hw.rep.ownObj x1 hy u1 ((old _ hy e).symm.trans h1) b hb1 i cs hi
  ·have hne:¬(k'=k):=fun e=>hk' (k,sz,zs) (mem_map.2 ⟨_,hx,by simp[Fy]⟩) e.symm
   simp only[if_neg (show ¬(k'=k/\m=zs.length) from fun h=>hne h.1)]
   refine hw.rep.fresh k' (fun y hy e=>?_) m
   have:=hk' (Fy k sz zs y) (mem_map.2 ⟨y,hy,rfl⟩)
   rw[repl_fst] at this
   exact this e
 ·intro x1 hx1 u1 h1 b hb1
  rcases cases_ _ hx1 with rfl|⟨hy,e⟩
  ·simp at h1;subst h1
   rcases hb b hb1 with h|h
   ·exact hw.owns _ hx u hu b h
   ·exact .inl (Nat.le_trans hw.size h)
  ·exact hw.owns x1 hy u1 ((old _ hy e).symm.trans h1) b hb1
def addM(M:Mem)(b:Nat)(us:List Value):Mem:=fun b' o=>if b'=b then us[o]? else M b' o
theorem addM_le{g:Gh}{σ:St}{w:World}(h:WRep g σ w){b:Nat}(hb:w.heap.size<=b)(us:List Value):g.M.le (addM g.M b us):=fun b' o v hm=>by
 have:=h.mem_lt hm
 simp only[addM,if_neg (show ¬b'=b by omega)];exact hm
theorem addM_in(M:Mem)(b:Nat)(us:List Value):inM (addM M b us) b 0 us:=fun j v hj=>by simp[addM,hj]
theorem addM_other{M:Mem}{b b':Nat}{us:List Value}(h:b'≠b)(o:Nat):addM M b us b' o=M b' o:=by simp[addM,h]
theorem WI.newImm{E:Ent}{g:Gh}{σ:St}{w:World}(hw:WI E g σ w)(us rest:List Value)(e:TypeId):
  WI E { g with M:=addM g.M w.heap.size us } σ (w.alloc (.cells (us++rest).toArray e))/\g.le { g with M:=addM g.M w.heap.size us }:=by
 refine⟨hw.grow (addM_le hw.rep (Nat.le_refl _) us) (fun b hb=>⟨heap_alloc_old w _ b hb,addM_other (Nat.ne_of_lt hb)⟩) (fun b o v hm=>?_) (by simp) rfl rfl rfl,⟨addM_le hw.rep (Nat.le_refl _) us,Nat.le_refl _,fun _ _=>rfl,fun _ _ _ h=>h,fun _ _=>rfl⟩⟩
 unfold addM at hm
 split at hm
 ·rename_i e;subst e
  rw[World.cell?_alloc_new]
  have hlt:=(List.getElem?_eq_some_iff.1 hm).1
  simp[getElem?_append_left hlt,hm]
 ·exact cell_alloc w _ (hw.rep.mem b o v hm)
theorem GB{M:Mem}{sz:Nat}:∀{xs ys:List V} {us vs:List Value},repE M sz xs us->repE M sz ys vs->repE M sz (xs++ys) (us++vs)
 |[],ys,us,vs,h,h'=>by simp only[repE] at h;simpa[h] using h'
 |x::xs,ys,us,vs,h,h'=>by
  simp only[repE] at h
  obtain⟨u1,u2,rfl,hl,h1,h2⟩:=h
  simp only[cons_append,repE]
  exact⟨u1,u2++vs,by simp,hl,h1,GB h2 h'⟩
theorem repE_oneCell{M:Mem}{sz:Nat}:∀{xs:List V} {us:List Value},repE M sz xs us->∀u∈us,u.oneCell'=true
 |[],us,h=>by simp only[repE] at h;simp[h]
 |x::xs,us,h=>by
  simp only[repE] at h
  obtain⟨u1,u2,rfl,hl,h1,h2⟩:=h
  intro u hu
  rcases mem_append.1 hu with hu|hu
  ·exact repC_oneCell h1 u hu
  ·exact repE_oneCell h2 u hu
theorem BC{M:Mem}{xs:List V}{u:Value}{sz:Nat}(h:repV M (.list xs) u)(hs:∀x∈xs,x.size=sz)(hsz:0<sz):
  ∃a cap,u=.slice a xs.length cap/\xs.length<=cap/\(xs=[]∨∃b off us,a=some ⟨b,off,none⟩/\inM M b off us/\repE M sz xs us):=by
 rw[AO] at h
 obtain⟨a,cap,e,hc,h⟩:=h
 refine⟨a,cap,e,hc,?_⟩
 rcases h with h|⟨b,off,sz',us,ha,hsz',hi,hr⟩
 ·exact .inl h
 ·cases xs with
  |nil=>exact .inl rfl
  |cons x xs=>
   have hx:=hs x (by simp)
   have:sz'=sz:=by
    obtain⟨u1,h1,h2,_⟩:=repE_get hr (i:=0) (x:=x) (by simp)
    rw[←h2,EX h1,hx]
   subst this
   exact .inr ⟨b,off,us,ha,hi,hr⟩
theorem Ct{M:Mem}{xs:List V}{b f sz cap:Nat}{us:List Value}(hsz:0<sz)(hi:inM M b f us)(hr:repE M sz xs us)(hc:xs.length<=cap):repV M (.list xs) (.slice (some ⟨b,f,none⟩) xs.length cap):=by
 rw[AO]
 exact⟨_,cap,rfl,hc,.inr ⟨b,f,sz,us,rfl,hsz,hi,hr⟩⟩
section
variable {P : Program} {o : Oper} {σ : St} {d : D}
theorem fill_all(s:Nat):∀(vs:List Value) (i0:Nat) (pre rest:List Value),pre.length=i0*s->(∀v∈vs,v.cells.size=s)->rest.length=vs.length*s->
  Instr.fill (fun i=>some (i*s,s)) (pre++rest).toArray ((vs.zipIdx i0).map fun x=>(x.2,x.1))=some (pre++vs.flatMap (·.cells.toList)).toArray
 |[],i0,pre,rest,_,_,hr=>by
  have:rest=[]:=List.eq_nil_of_length_eq_zero (by simpa using hr)
  subst this;simp[Instr.fill]
 |v::vs,i0,pre,rest,hp,hv,hr=>by
  have hvs:=hv v (by simp)
  have hr':rest.length=s+vs.length*s:=by rw[hr,length_cons,Nat.add_mul,Nat.one_mul,Nat.add_comm]
  have hsp:=splice (i0*s) v.cells.toList (pre++rest).toArray (by simp only[size_toArray,length_append,Array.length_toList];omega)
  simp only[Array.length_toList,hvs] at hsp
  have e1:(pre++rest).take (i0*s)=pre:=by rw[←hp];simp
  have e2:(pre++rest).drop (i0*s+s)=rest.drop s:=by rw[←hp];simp
  simp only[e1,e2] at hsp
  have ih:=fill_all s vs (i0+1) (pre++v.cells.toList) (rest.drop s) (by simp[hp,hvs,Nat.add_mul]) (fun x hx=>hv x (by simp[hx])) (by simp;omega)
  simp only[List.zipIdx_cons,map_cons]
  unfold Instr.fill
  simp only[hvs]
  rw[if_neg (by simp;omega)]
  have e3:(v.cells.zipIdx.foldl (fun cs (x:Value×Nat)=>cs.setIfInBounds (i0*s+x.2) x.1) (pre++rest).toArray)=(pre++v.cells.toList++rest.drop s).toArray:=by
   rw[←Array.foldl_toList,Array.toList_zipIdx]
   apply Array.ext'
   rw[hsp]
  rw[e3,ih]
  simp
theorem GY{g:Gh}{sz:Nat}:∀{ds:List D} {xs:List V} {us:List Value},Eh ds=some xs->Ac g ds us->(∀x∈xs,x.size=sz)->repE g.M sz xs (us.flatMap (·.cells.toList))/\(∀v∈us,v.cells.size=sz)
 |[],xs,us,h,hr,_=>by simp[Eh] at h;subst h;simp only[Ac] at hr;subst hr;simp[repE]
 |d::ds,xs,us,h,hr,hs=>by
  simp only[Eh] at h
  split at h
  ·rename_i x xs' hx hxs
   simp at h;subst h
   simp only[Ac] at hr
   obtain⟨u,us',rfl,h2,h3⟩:=hr
   have hv:=GZ hx h2
   obtain⟨_,hsz⟩:=repV_cellsV hv
   obtain⟨h4,h5⟩:=GY hxs h3 (fun y hy=>hs y (by simp[hy]))
   have hu:u.cells.size=sz:=hsz.trans (hs x (by simp))
   refine⟨?_,?_⟩
   ·simp only[flatMap_cons,repE]
    exact⟨_,_,rfl,by simpa using hu,repV_cells hv,h4⟩
   ·intro v hv'
    rcases mem_cons.1 hv' with rfl|h
    ·exact hu
    ·exact h5 v h
  ·simp at h
theorem EV:∀{ds:List D} {xs:List V},Eh ds=some xs->xs.length=ds.length
 |[],xs,h=>by simp[Eh] at h;simp[←h]
 |d::ds,xs,h=>by
  simp only[Eh] at h
  split at h
  ·rename_i x xs' hx hxs
   simp at h;subst h
   simp[EV hxs]
  ·simp at h
theorem DL{t:TypeId}{len:Nat}{parts:Array (Nat×Operand)}(ho:o.op=.buildSlice t len parts)(hp:parts.toList=((parts.toList.map (·.2)).zipIdx 0).map fun x=>(x.2,x.1))(hlen:parts.size=len)
  {e:TypeId} {sz by':Nat} {z:Option Value} (hs:BJ P t=some (e,sz,by',z)) (hz:z.isSome=true) {ds:List D} {xs:List V} (hx:Eh ds=some xs) (hsz:∀x∈xs,x.size=sz) (h0:0<len) (h1:0<sz) (h2:len*sz<=1000):
  Ai P o ds σ (.v (.list xs)) σ:=by
 intro E g a w K Q hw hds hK
 simp only[ho,Op.operands] at hds
 obtain⟨i,hu,hi,rfl,rfl,rfl⟩:=A6 hs
 obtain⟨zz,hzz⟩:=Option.isSome_iff_exists.1 hz
 have hlm:(parts.toList.map fun p=>a.eval p.2).length=len:=by simp[hlen]
 have hds':Ac g ds (parts.toList.map fun p=>a.eval p.2):=by simpa[Function.comp_def] using hds
 obtain⟨hr,hcs⟩:=GY hx hds' hsz
 have hxl:xs.length=len:=by rw[EV hx, ←Ay hds',hlm]
 have hpos:0<len*i.size:=Nat.mul_pos h0 h1
 have hf:=fill_all i.size (parts.toList.map fun p=>a.eval p.2) 0 [] ((Array.range (len*i.size)).map (zz.cells[· %zz.cells.size]!)).toList (by simp) hcs (by simp[hlen])
 have hpp:((parts.toList.map fun p=>a.eval p.2).zipIdx 0).map (fun x=>(x.2,x.1))=parts.toList.map fun p=>(p.1,a.eval p.2):=by
  have e1:(parts.toList.map fun p=>a.eval p.2)=(parts.toList.map (·.2)).map a.eval:=by simp
  rw[e1,List.zipIdx_map,map_map]
  conv=>rhs;rw[hp,map_map]
  rfl
 rw[hpp] at hf
 simp only[nil_append,Array.toArray_toList] at hf
 have hrun:=run_buildSlice (P:=P) w t e len (parts.map fun p=>(p.1,a.eval p.2)) _ i zz hu hi hzz (by omega) (by omega) (by simpa using hf)
 obtain⟨hw',hle⟩:=hw.newImm ((parts.toList.map fun p=>a.eval p.2).flatMap (·.cells.toList)) [] e
 rw[append_nil] at hw'
 have:=hK _ _ (.slice (some ⟨w.heap.size,0,none⟩) len len) hw' hle (by
  simp only[Ae]
  have:=Ct (cap:=len) h1 (addM_in g.M w.heap.size _) (repE.mono hle.M _ _ _ hr) (by omega)
  rw[hxl] at this
  exact this)
 unfold Oper.wp execOp
 simp only[ho]
 simp only[Sem.run_bind]
 rw[show(parts.map fun(x:Nat×Operand)=>match x with|(i,x)=>(i,a.eval x))=parts.map fun p=>(p.1,a.eval p.2) from rfl,hrun]
 exact this
theorem op_buildSlice0{t:TypeId}{parts:Array (Nat×Operand)}(ho:o.op=.buildSlice t 0 parts)(hp:parts= #[]){e:TypeId}{sz by':Nat}{z:Option Value}(hs:BJ P t=some (e,sz,by',z)):
  Ai P o [] σ (.v (.list [])) σ:=by
 intro E g a w K Q hw hds hK
 obtain⟨i,hu,hi,rfl,rfl,rfl⟩:=A6 hs
 subst hp
 have:=hK g _ (.slice (some ⟨w.heap.size,0,none⟩) 0 0) (hw.alloc (.cells #[] e)) g.le_refl (by
  simp only[Ae];rw[AO];exact⟨_,0,rfl,Nat.le_refl _,.inl rfl⟩)
 unfold Oper.wp execOp
 simpa[ho,Instr.buildSlice,run_underlying hu,sizeOf,typeInfo,hi,Instr.fill,newRow,Oper.upon,show Array.range 0= #[] from rfl] using this
end
section
variable {P : Program} {o : Oper} {σ : St} {d : D}
theorem run_append_none(w:World)(t ty e:TypeId)(i:TypeInfo)(ht:P.underlying t=some (.slice e))(hi:P.info? e=some i)(a a2:Option Addr)(n c c2:Nat)(hc:n<=c):
  (Builtin.append_ #[t,t] ty #[.slice a n c,.slice a2 0 c2]).run P w=.ok (.slice a n c) w:=by
 have hf:(Builtin.firstCells i.size 0 (.slice a2 0 c2)).run P w=.ok #[] w:=by
  cases a2<;>simp[Builtin.firstCells,loadCells,loadCellsFrom]
 cases a<;>simp[Builtin.append_,run_underlying ht,sizeOf,typeInfo,hi,Builtin.lenOf,hc,hf,storeCells]
theorem run_append_room'(w:World)(t ty e e':TypeId)(i:TypeInfo)(ht:P.underlying t=some (.slice e))(hi:P.info? e=some i)
  (g sLen sCap:Nat) (cur:Array Value) (hg:w.heap[g]?=some (.cells cur e' (0,0)))
  (a:Addr) (m c:Nat) (news:List Value) (hl:news.length=m*i.size) (hnews:∀j u,news[j]?=some u->w.cell? (a.add j)=some u) (h1:∀u∈news,u.oneCell'=true)
  (hroom:sLen+m<=sCap) (hfit:sLen*i.size+news.length<=cur.size):
  (Builtin.append_ #[t,t] ty #[.slice (some ⟨g,0,none⟩) sLen sCap,.slice (some a) m c]).run P w=
   .ok (.slice (some ⟨g,0,none⟩) (sLen+m) sCap) (w.setRow g (cur.toList.take (sLen*i.size)++news++cur.toList.drop (sLen*i.size+news.length)).toArray):=by
 have hf:=run_firstCells_some (P:=P) w i.size m a m c news hl hnews
 have hst:=run_storeCells_at P g (sLen*i.size) e' news 0 cur w hg (by simpa using hfit) h1
 simp only[Nat.add_zero] at hst
 simp[Builtin.append_,run_underlying ht,sizeOf,typeInfo,hi,Builtin.lenOf,hroom,hf,Addr.add_lit,hst]
theorem run_append_roomF(w:World)(t ty e e':TypeId)(i:TypeInfo)(ht:P.underlying t=some (.slice e))(hi:P.info? e=some i)
  (g p sLen sCap:Nat) (cur:Array Value) (hg:w.heap[g]?=some (.cells cur e' (0,0)))
  (a:Addr) (m c:Nat) (news:List Value) (hl:news.length=m*i.size) (hnews:∀j u,news[j]?=some u->w.cell? (a.add j)=some u) (h1:∀u∈news,u.oneCell'=true)
  (hroom:sLen+m<=sCap) (hfit:p+sLen*i.size+news.length<=cur.size):
  (Builtin.append_ #[t,t] ty #[.slice (some ⟨g,p,none⟩) sLen sCap,.slice (some a) m c]).run P w=
   .ok (.slice (some ⟨g,p,none⟩) (sLen+m) sCap) (w.setRow g (cur.toList.take (p+sLen*i.size)++news++cur.toList.drop (p+sLen*i.size+news.length)).toArray):=by
 have hf:=run_firstCells_some (P:=P) w i.size m a m c news hl hnews
 have hst:=run_storeCells_at P g (p+sLen*i.size) e' news 0 cur w hg (by simpa using hfit) h1
 simp only[Nat.add_zero] at hst
 simp[Builtin.append_,run_underlying ht,sizeOf,typeInfo,hi,Builtin.lenOf,hroom,hf,Addr.add_lit,hst]
theorem append_core{E:Ent}{g:Gh}{w:World}(hw:WI E g σ w){t ty e:TypeId}{sz by':Nat}{z:Value}(hs:BJ P t=some (e,sz,by',some z))(hzc:z.cells.size=sz){k:Nat}{xs ys:List V}(hx:(k,sz,xs)∈σ.own)
  (hsy:∀y∈ys,y.size=sz) (hlen:(xs.length+ys.length)*by'<=140737488355328) (hlen2:xs.length+ys.length<=140737488355328) {u v:Value} (hu:g.ι k xs.length=some u) (hv:repV g.M (.list ys) v):
  ∃u' w' g',(Builtin.append_ #[t,t] ty #[u,v]).run P w=.ok u' w'/\WI E g' ⟨σ.H,σ.own.map (Fy k sz (xs++ys))⟩ w'/\g.le g'/\Ae g' (.acc k (xs++ys)) u':=by
 obtain⟨⟨hsz,hsx⟩,u0,hu0,hr0,hp0,hfr⟩:=hw.rep.own k sz xs hx
 obtain rfl:u=u0:=by rw[hu] at hu0;simpa using hu0
 obtain⟨i,ht,hi,hisz,hib,hiz⟩:=A6 hs
 have hzs:∀x∈xs++ys,x.size=sz:=fun x hx=>by
  rcases mem_append.1 hx with h|h
  ·exact hsx x h
  ·exact hsy x h
 obtain⟨a2,cap2,rfl,hc2,hv⟩:=BC hv hsy hsz
 obtain⟨a1,cap1,e1,hc1,hr1⟩:=BC hr0 hsx hsz
 -- what is left to do once the run and the new header are known
 have fin:∀(u':Value) (w':World) (M':Mem),(Builtin.append_ #[t,t] ty #[u,.slice a2 ys.length cap2]).run P w=.ok u' w'->g.M.le M'->
   (∀b,b<w.heap.size->BG u≠some b->w'.heap[b]?=w.heap[b]?/\∀o,M' b o=g.M b o)->(∀b o v,M' b o=some v->w'.cell? ⟨b,o,none⟩=some v)->
   w.heap.size<=w'.heap.size->w'.os=w.os->w'.tape=w.tape->w'.output=w.output->repV M' (.list (xs++ys)) u'->Perm M' w' sz u'->(∀b,BG u'=some b->BG u=some b∨w.heap.size<=b)->
   (xs.length<(xs++ys).length∨((xs++ys).length=xs.length/\u'=u))->B3 w.drawn w'.drawn->
   ∃u' w' g',(Builtin.append_ #[t,t] ty #[u,.slice a2 ys.length cap2]).run P w=.ok u' w'/\WI E g' ⟨σ.H,σ.own.map (Fy k sz (xs++ys))⟩ w'/\g.le g'/\Ae g' (.acc k (xs++ys)) u':=by
  intro u' w' M' hrun hle keep mem size os tape output hr hp hb hl dr
  obtain⟨h1,h2⟩:=hw.setOwn hx hu hle keep mem size os tape output hzs hr hp hb hl
  exact⟨u',w',_,hrun,h1,h2,by simp only[Ae];exact⟨hr,by simp⟩⟩
 cases hys:ys with
 |nil=>
  subst hys
  refine fin u w g.M ?_ (Mem.le_refl _) (fun b _ _=>⟨rfl,fun _=>rfl⟩) hw.rep.mem (Nat.le_refl _) rfl rfl rfl (by simpa using hr0) hp0 (fun b hb=>.inl hb) (.inr ⟨by simp,rfl⟩) (B3.refl _)
  rw[e1]
  exact run_append_none w t ty e i ht hi _ _ _ _ _ hc1
 |cons y0 ys0=>
  rw[←hys]
  have hne:ys≠ []:=by rw[hys];simp
  have hpos:0<ys.length:=length_pos_iff.2 hne
  rcases hv with h|⟨b2,off2,vs,rfl,hi2,hr2⟩
  ·exact absurd h hne
  have hvl:vs.length=ys.length*i.size:=by rw[B8 hr2,hisz]
  have hcells2:=DA hw hi2
  have hvone:=repE_oneCell hr2
  have grows:∀(us:List Value) (old:Nat),repE g.M sz xs us->old<xs.length+ys.length->
    (Builtin.append_ #[t,t] ty #[u,.slice (some ⟨b2,off2,none⟩) ys.length cap2]).run P w=
     .ok (.slice (some ⟨w.heap.size,0,none⟩) (xs.length+ys.length) (grownCap w (xs.length+ys.length) old e))
      (w.drew.alloc (.cells (us.toArray++vs.toArray++Builtin.zeroCells z.cells (grownCap w (xs.length+ys.length) old e- (xs.length+ys.length))) e))->
    ∃u' w' g',(Builtin.append_ #[t,t] ty #[u,.slice (some ⟨b2,off2,none⟩) ys.length cap2]).run P w=.ok u' w'/\WI E g' ⟨σ.H,σ.own.map (Fy k sz (xs++ys))⟩ w'/\g.le g'/\Ae g' (.acc k (xs++ys)) u':=by
   intro us old hus hold hrun
   have hge:=grownCap_ge w (xs.length+ys.length) old e
   have hcell:us.toArray++vs.toArray++Builtin.zeroCells z.cells (grownCap w (xs.length+ys.length) old e- (xs.length+ys.length))=((us++vs)++(Builtin.zeroCells z.cells (grownCap w (xs.length+ys.length) old e- (xs.length+ys.length))).toList).toArray:=by
    apply Array.ext';simp
   rw[hcell] at hrun
   have hE:=GB hus hr2
   obtain⟨hw2,hle2⟩:=hw.drew.newImm (us++vs) (Builtin.zeroCells z.cells (grownCap w (xs.length+ys.length) old e- (xs.length+ys.length))).toList e
   refine fin _ _ (addM g.M w.heap.size (us++vs)) hrun hle2.M (fun b hb _=>⟨heap_alloc_old w.drew _ b hb,addM_other (Nat.ne_of_lt hb)⟩) hw2.rep.mem (by simp) rfl rfl rfl ?_ ?_ ?_ (.inl (by simp;omega)) (B3.succ _)
   ·have:=Ct (cap:=grownCap w (xs.length+ys.length) old e) hsz (addM_in g.M w.heap.size (us++vs)) (repE.mono hle2.M _ _ _ hE) (by simp;omega)
    simpa using this
   ·refine .inr ⟨w.heap.size,0,xs.length+ys.length,_,_,e,rfl,heap_alloc_new w.drew _,hge,?_,fun o ho=>?_,hw.rep.gw.new (Nat.le_refl _)⟩
    ·simp only[size_toArray,length_append,Array.length_toList,size_zeroCells,hzc,B8 hus,B8 hr2, ←Nat.add_mul,Nat.zero_add]
     exact Nat.mul_le_mul_right _ (by omega)
    ·simp only[addM,if_true]
     refine getElem?_eq_none ?_
     rw[B8 hE];simpa using ho
   ·intro b hb
    simp only[BG] at hb
    split at hb
    ·simp at hb
    ·simp at hb;exact .inr (by omega)
  have h63:((xs.length+ys.length:Nat):Int)<=9223372036854775807:=by omega
  have hfit:∀old,old<xs.length+ys.length->Builtin.nextslicecap (xs.length+ys.length) old*i.bytes<=281474976710656:=fun old ho=>growslice_fits ho (by rw[hib];exact hlen)
  have hdrew:∀j v,vs[j]?=some v->w.cell? ((⟨b2,off2,none⟩:Addr).add j)=some v:=hcells2
  rcases hp0 with⟨a,ea⟩|⟨b,f,len,cap,cur,et,eu,hb,hlc,hcc,hMb⟩
  ·-- no room at all
   have hxn:xs=[]:=by
    rw[ea] at e1
    simp at e1
    exact List.eq_nil_of_length_eq_zero e1.2.1.symm
   subst hxn
   simp only[length_nil,Nat.zero_add] at*
   subst ea
   cases a with
   |none=>
    refine grows [] 0 (by simp[repE]) hpos ?_
    have:=run_append_nil (P:=P) w t ty e i z ht hi hiz ⟨b2,off2,none⟩ ys.length cap2 vs hvl hdrew hpos (by omega) (by have:=hfit 0 hpos;rw[nextslicecap_zero hpos] at this;exact this)
    simpa using this
   |some a=>
    refine grows [] 0 (by simp[repE]) hpos ?_
    have:=run_append_grow (P:=P) w t ty e i z ht hi hiz a 0 0 [] (by simp) (by simp) ⟨b2,off2,none⟩ ys.length cap2 vs hvl hdrew (by omega) (by simpa using h63) (by simpa using hfit 0 hpos)
    simpa using this
  ·obtain⟨rfl,rfl,rfl⟩:a1=some ⟨b,f,none⟩/\xs.length=len/\cap1=cap:=by
    rw[eu] at e1;simp at e1;exact⟨e1.1.symm,e1.2.1.symm,e1.2.2.symm⟩
   obtain⟨us,hus,hui⟩:∃us,repE g.M sz xs us/\inM g.M b f us:=by
    rcases hr1 with rfl|⟨b',off',us,ea,hi1,hr1⟩
    ·exact⟨[],by simp[repE],fun j v hj=>by simp at hj⟩
    ·simp at ea;obtain⟨rfl,rfl⟩:=ea
     exact⟨us,hr1,hi1⟩
   have hul:=B8 hus
   by_cases hroom:xs.length+ys.length<=cap1
   ·-- in place
    have hcur:f+xs.length*i.size+vs.length<=cur.size:=by
     rw[hvl,hisz,Nat.add_assoc, ←Nat.add_mul]
     exact Nat.le_trans (Nat.add_le_add_left (Nat.mul_le_mul_right _ hroom) f) hcc
    have hrun:=run_append_roomF (P:=P) w t ty e et i ht hi b f xs.length cap1 cur hb ⟨b2,off2,none⟩ ys.length cap2 vs hvl hdrew hvone hroom hcur
    rw[←eu] at hrun
    have hcap0:cap1≠0:=by omega
    have hob:BG u=some b:=by rw[eu];simp[BG,hcap0]
    -- the new cells
    let M':Mem:=fun b' o=>if b'=b/\f+xs.length*sz<=o then vs[o- (f+xs.length*sz)]? else g.M b' o
    have hM':g.M.le M':=fun b' o v hm=>by
     simp only[M']
     rw[if_neg]; ·exact hm
     rintro ⟨rfl,ho⟩
     rw[hMb o ho] at hm;simp at hm
    have hin:inM M' b f (us++vs):=fun j v hj=>by
     simp only[M']
     by_cases hj1:f+xs.length*sz<=f+j
     ·rw[if_pos ⟨trivial,hj1⟩,show f+j- (f+xs.length*sz)=j-xs.length*sz by omega]
      rw[getElem?_append_right (by omega),hul] at hj;exact hj
     ·rw[if_neg (fun h=>hj1 h.2)]
      rw[getElem?_append_left (by omega)] at hj
      have:=hui j v hj;simpa using this
    refine fin _ _ M' hrun hM' (fun b' _ hne=>?_) (fun b' o v hm=>?_) (by simp) rfl rfl rfl ?_ ?_ (fun b' hb'=>?_) (.inl (by simp;omega)) (B3.refl _)
    ·have hbb:b'≠b:=fun h=>hne (by rw[hob,h])
     refine⟨setRow_other w b b' _ hbb,fun o=>?_⟩
     simp only[M'];rw[if_neg (fun h=>hbb h.1)]
    ·simp only[M'] at hm
     by_cases hb':b'=b
     ·subst hb'
      rw[cell_setRow_same w b' o cur _ et _ hb]
      have hl1:(cur.toList.take (f+xs.length*i.size)).length=f+xs.length*sz:=by
       simp only[length_take,Array.length_toList,hisz]
       have:=Nat.le_trans (Nat.add_le_add_left (Nat.mul_le_mul_right sz hlc) f) hcc
       omega
      by_cases ho:f+xs.length*sz<=o
      ·rw[if_pos ⟨rfl,ho⟩] at hm
       have hlt:=(List.getElem?_eq_some_iff.1 hm).1
       simp only[getElem?_toArray]
       rw[append_assoc,getElem?_append_right (by omega),hl1,getElem?_append_left hlt]
       exact hm
      ·rw[if_neg (fun h=>ho h.2)] at hm
       have hold:=hw.rep.mem b' o v hm
       simp only[World.cell?,hb] at hold
       simp only[getElem?_toArray]
       rw[append_assoc,getElem?_append_left (by omega),getElem?_take,if_pos (by rw[hisz];omega)]
       simpa using hold
     ·rw[if_neg (fun h=>hb' h.1)] at hm
      rw[cell_setRow_other w b _ _ hb']
      exact hw.rep.mem b' o v hm
    ·have:=Ct (cap:=cap1) hsz hin (repE.mono hM' _ _ _ (GB hus hr2)) (by simp;omega)
     simpa using this
    ·refine .inr ⟨b,f,xs.length+ys.length,cap1,_,et,rfl,setRow_heap w b cur _ et _ hb,hroom,?_,fun o ho=>?_,hw.rep.own_ng hx hu hob⟩
     ·simp only[size_toArray,length_append,length_take,length_drop,Array.length_toList]
      omega
     ·simp only[M']
      rw[if_pos ⟨trivial,by rw[Nat.add_mul] at ho;omega⟩]
      refine getElem?_eq_none ?_
      rw[hvl,hisz];rw[Nat.add_mul] at ho;omega
    ·simp only[BG] at hb'
     rw[if_neg hcap0] at hb'
     simp at hb'
     exact .inl (by rw[hob,hb'])
   ·have:=run_append_grow (P:=P) w t ty e i z ht hi hiz ⟨b,f,none⟩ xs.length cap1 us (by rw[hul,hisz]) (DA hw hui) ⟨b2,off2,none⟩ ys.length cap2 vs hvl hdrew (by omega) h63 (hfit cap1 (by omega))
    refine grows us cap1 hus (by omega) ?_
    rw[eu];exact this
theorem op_append{x y:Operand}{t:TypeId}(ho:o.op=.call { callee:=.builtin .append,args:= #[x,y],argTypes:= #[t,t]}){e:TypeId}{sz by':Nat}{z:Value}(hs:BJ P t=some (e,sz,by',some z))(hzc:z.cells.size=sz)
  {k:Nat} {xs ys:List V} (hx:(k,sz,xs)∈σ.own) (hsy:∀y∈ys,y.size=sz) (hlen:(xs.length+ys.length)*by'<=140737488355328) (hlen2:xs.length+ys.length<=140737488355328):
  Ai P o [.acc k xs,.v (.list ys)] σ (.acc k (xs++ys)) ⟨σ.H,σ.own.map (Fy k sz (xs++ys))⟩:=by
 intro E g a w K Q hw hds hK
 simp only[ho,Op.operands,Call.operands] at hds
 obtain⟨u,v,eq,h1,h2⟩:=Ap.1 (by simpa using hds)
 simp only[List.cons.injEq,and_true] at eq
 simp only[Ae] at h1 h2
 obtain⟨u',w',g',hrun,hw',hle,hr⟩:=append_core (P:=P) (ty:=o.type) hw hs hzc hx hsy hlen hlen2 h1.2 h2
 have:=hK g' w' u' hw' hle hr
 unfold Oper.wp execOp
 simp only[ho,resolve,invoke,builtin,Sem.run_bind,Sem.run_pure,Result.andThen_ok,List.map_toArray,map_cons,map_nil,eq.1,eq.2,hrun]
 exact this
end
section
variable {P : Program} {o : Oper} {σ : St} {d : D}
theorem slice_rep{M:Mem}{xs:List V}{a:Option Addr}{len cap sz:Nat}(hr:repV M (.list xs) (.slice a len cap))(hs:∀x∈xs,x.size=sz)(hsz:0<sz){l h:Nat}(hl:l<=h)(hh:h<=xs.length):
  len=xs.length/\xs.length<=cap/\repV M (.list ((xs.take h).drop l)) (.slice (if cap=l then a else a.map (·.add (l*sz))) (h-l) (cap-l)):=by
 obtain⟨a',cap',e,hc,hr2⟩:=BC hr hs hsz
 simp only[Value.slice.injEq] at e
 obtain⟨rfl,rfl,rfl⟩:=e
 refine⟨rfl,hc,?_⟩
 have hlen:((xs.take h).drop l).length=h-l:=by simp;omega
 rw[AO]
 refine⟨_,cap-l,by rw[hlen],by rw[hlen];omega,?_⟩
 rcases Nat.lt_or_ge l h with hlt|hge
 ·rcases hr2 with rfl|⟨b,off,us,rfl,hi,hr3⟩
  ·simp at hh;omega
  refine .inr ⟨b,off+l*sz,sz,(us.take (h*sz)).drop (l*sz),?_,hsz,inM_drop (inM_take hi _) _,repE_drop (repE_take hr3 h) l⟩
  rw[if_neg (by omega)]
  simp[Addr.add_lit]
 ·left
  exact List.eq_nil_of_length_eq_zero (by rw[hlen];omega)
def BI(n:Nat)(l h:Option Int):Option (Nat×Nat):=
 let h':=h.getD n
 let l':=l.getD 0
 if 0<=l'/\l'<=h'/\h'<=n then some (l'.toNat,h'.toNat) else none
theorem D4(w:World)(isS:Bool)(len cap:Nat)(hc:len<=cap)(l h:Option (IntKind×Int)){l' h':Nat}(hb:BI len (l.map (·.2)) (h.map (·.2))=some (l',h')):
  (Instr.sliceBounds isS len cap (l.map fun p=>.int p.1 p.2) (h.map fun p=>.int p.1 p.2) none).run P w=.ok (l',h',cap) w:=by
 unfold BI at hb
 simp only at hb
 split at hb
 ·rename_i hcond
  simp only[Option.some.injEq,Prod.mk.injEq] at hb
  obtain⟨rfl,rfl⟩:=hb
  cases l with
  |none=>
   cases h with
   |none=>simp[Instr.sliceBounds]
   |some p=>
    simp only[Option.map_none,Option.map_some,Option.getD_none,Option.getD_some] at hcond⊢
    simp[Instr.sliceBounds,run_sliceBound w p.1 p.2 cap _ (by omega) (by omega)]
  |some q=>
   cases h with
   |none=>
    simp only[Option.map_none,Option.map_some,Option.getD_none,Option.getD_some] at hcond⊢
    simp[Instr.sliceBounds,run_sliceBound w q.1 q.2 len _ (by omega) (by omega)]
   |some p=>
    simp only[Option.map_some,Option.getD_some] at hcond⊢
    simp[Instr.sliceBounds,run_sliceBound w p.1 p.2 cap _ (by omega) (by omega),run_sliceBound w q.1 q.2 p.2.toNat _ (by omega) (by omega)]
 ·simp at hb
def Ed:Option (IntKind×Int)->List D
 |none=>[]
 |some p=>[.v (.int p.1 p.2)]
theorem op_sliceL{t:TypeId}{x:Operand}{lo hi:Option Operand}(ho:o.op=.slice t x lo hi none){e:TypeId}{sz by':Nat}{z:Option Value}(hs:BJ P t=some (e,sz,by',z)){xs:List V}(hsx:∀x∈xs,x.size=sz)(hsz:0<sz)
  (l h:Option (IntKind×Int)) (hlo:lo.isSome=l.isSome) (hhi:hi.isSome=h.isSome) {l' h':Nat} (hb:BI xs.length (l.map (·.2)) (h.map (·.2))=some (l',h')):
  Ai P o (.v (.list xs)::(Ed l++Ed h)) σ (.v (.list ((xs.take h').drop l'))) σ:=by
 refine Ax fun E g ρ w hw hds=>?_
 obtain⟨i,hu,hi',rfl,rfl,rfl⟩:=A6 hs
 have hb2:=hb
 unfold BI at hb2
 simp only at hb2
 split at hb2
 case isFalse=>simp at hb2
 rename_i hcond
 simp only[Option.some.injEq,Prod.mk.injEq] at hb2
 have main:∀u (lv hv:Option Value),ρ x=u->lv=l.map (fun p=>Value.int p.1 p.2)->hv=h.map (fun p=>Value.int p.1 p.2)->lo.map ρ=lv->hi.map ρ=hv->repV g.M (.list xs) u->
   ∃u,(execOp ρ o).run P w=.ok (.value u) w/\Ae g (.v (.list ((xs.take h').drop l'))) u:=by
  intro u lv hv eu el eh e1 e2 hr
  obtain⟨a,cap,rfl,hc,_⟩:=AO.1 hr
  obtain⟨_,_,hres⟩:=slice_rep hr hsx hsz (l:=l') (h:=h') (by omega) (by omega)
  refine⟨_,?_,by simp only[Ae];exact hres⟩
  have hbr:=D4 (P:=P) w true xs.length cap hc l h hb
  simp only[execOp,ho,eu,e1,e2,el,eh,Option.map_none,Instr.sliceAt,Instr.slice,Sem.run_bind,run_underlying hu,Result.andThen_ok,hbr]
  simp[sizeOf,typeInfo,hi']
 simp only[ho,Op.operands] at hds
 cases lo with
 |none=>
  cases l with
  |some _=>simp at hlo
  |none=>
   cases hi with
   |none=>
    cases h with
    |some _=>simp at hhi
    |none=>
     obtain⟨u,eu,h1⟩:=A0.1 (by simpa[Ed] using hds)
     simp at eu
     exact main u none none eu rfl rfl rfl rfl (by simpa only[Ae] using h1)
   |some ho'=>
    cases h with
    |none=>simp at hhi
    |some p=>
     obtain⟨u,v,eu,h1,h2⟩:=Ap.1 (by simpa[Ed] using hds)
     simp only[List.cons.injEq,and_true] at eu
     simp only[Ae,A1] at h2
     exact main u none _ eu.1 rfl (by simp;rfl) rfl (by simp[eu.2,h2]) (by simpa only[Ae] using h1)
 |some lo'=>
  cases l with
  |none=>simp at hlo
  |some q=>
   cases hi with
   |none=>
    cases h with
    |some _=>simp at hhi
    |none=>
     obtain⟨u,v,eu,h1,h2⟩:=Ap.1 (by simpa[Ed] using hds)
     simp only[List.cons.injEq,and_true] at eu
     simp only[Ae,A1] at h2
     exact main u _ none eu.1 (by simp;rfl) rfl (by simp[eu.2,h2]) rfl (by simpa only[Ae] using h1)
   |some ho'=>
    cases h with
    |none=>simp at hhi
    |some p=>
     obtain⟨u,v,v2,eu,h1,h2,h3⟩:=DQ.1 (by simpa[Ed] using hds)
     simp only[List.cons.injEq,and_true] at eu
     simp only[Ae,A1] at h2 h3
     exact main u _ _ eu.1 (by simp;rfl) (by simp;rfl) (by simp[eu.2.1,h2]) (by simp[eu.2.2,h3]) (by simpa only[Ae] using h1)
theorem op_sliceS{t:TypeId}{x:Operand}{lo hi:Option Operand}(ho:o.op=.slice t x lo hi none)(hu:P.underlying t=some .string){s:List UInt8}
  (l h:Option (IntKind×Int)) (hlo:lo.isSome=l.isSome) (hhi:hi.isSome=h.isSome) {l' h':Nat} (hb:BI s.length (l.map (·.2)) (h.map (·.2))=some (l',h')):
  Ai P o (.v (.str s)::(Ed l++Ed h)) σ (.v (.str ((s.take h').drop l'))) σ:=by
 refine Ax fun E g ρ w hw hds=>?_
 have main:∀u (lv hv:Option Value),ρ x=u->lv=l.map (fun p=>Value.int p.1 p.2)->hv=h.map (fun p=>Value.int p.1 p.2)->lo.map ρ=lv->hi.map ρ=hv->u=.string ⟨s.toArray⟩->
   ∃u,(execOp ρ o).run P w=.ok (.value u) w/\Ae g (.v (.str ((s.take h').drop l'))) u:=by
  intro u lv hv eu el eh e1 e2 hr
  subst hr
  refine⟨.string ⟨((s.take h').drop l').toArray⟩,?_,by simp only[Ae,C3]⟩
  have hbr:=D4 (P:=P) w false s.length s.length (Nat.le_refl _) l h hb
  have hx:(⟨s.toArray⟩:ByteArray).extract l' h'=⟨((s.take h').drop l').toArray⟩:=by
   apply ByteArray.ext
   apply Array.ext'
   rw[Lib.extract_data]
   simp[List.drop_take]
  simp only[execOp,ho,eu,e1,e2,el,eh,Option.map_none,Instr.sliceAt,Instr.slice,Sem.run_bind,run_underlying hu,Result.andThen_ok,Option.isSome_none,Bool.false_eq_true,if_false,size_mk]
  simp[hbr,hx]
 simp only[ho,Op.operands] at hds
 cases lo with
 |none=>
  cases l with
  |some _=>simp at hlo
  |none=>
   cases hi with
   |none=>
    cases h with
    |some _=>simp at hhi
    |none=>
     obtain⟨u,eu,h1⟩:=A0.1 (by simpa[Ed] using hds)
     simp at eu
     exact main u none none eu rfl rfl rfl rfl (by simpa only[Ae,C3] using h1)
   |some ho'=>
    cases h with
    |none=>simp at hhi
    |some p=>
     obtain⟨u,v,eu,h1,h2⟩:=Ap.1 (by simpa[Ed] using hds)
     simp only[List.cons.injEq,and_true] at eu
     simp only[Ae,A1] at h2
     exact main u none _ eu.1 rfl (by simp;rfl) rfl (by simp[eu.2,h2]) (by simpa only[Ae,C3] using h1)
 |some lo'=>
  cases l with
  |none=>simp at hlo
  |some q=>
   cases hi with
   |none=>
    cases h with
    |some _=>simp at hhi
    |none=>
     obtain⟨u,v,eu,h1,h2⟩:=Ap.1 (by simpa[Ed] using hds)
     simp only[List.cons.injEq,and_true] at eu
     simp only[Ae,A1] at h2
     exact main u _ none eu.1 (by simp;rfl) rfl (by simp[eu.2,h2]) rfl (by simpa only[Ae,C3] using h1)
   |some ho'=>
    cases h with
    |none=>simp at hhi
    |some p=>
     obtain⟨u,v,v2,eu,h1,h2,h3⟩:=DQ.1 (by simpa[Ed] using hds)
     simp only[List.cons.injEq,and_true] at eu
     simp only[Ae,A1] at h2 h3
     exact main u _ _ eu.1 (by simp;rfl) (by simp;rfl) (by simp[eu.2.1,h2]) (by simp[eu.2.2,h3]) (by simpa only[Ae,C3] using h1)
theorem H6(z:Value)(n:Nat):madeCells #[z] n=(replicate n z).toArray:=by
 apply Array.ext'
 apply ext_getElem?
 intro k
 simp only[madeCells]
 by_cases hk:k<n
 ·simp[hk,Nat.mod_one]
 ·simp[hk]
theorem op_make{t:TypeId}{x y:Operand}(ho:o.op=.makeSlice t x y){e:TypeId}{by':Nat}{z:Value}(hs:BJ P t=some (e,1,by',some z)){zv:V}(hz:constV z=some zv){k k':IntKind}{n:Int}(h0:0<=n)(hn:(by':Int)*n<=281474976710656)(hn2:n<=9223372036854775807):
  Ai P o [.v (.int k n),.v (.int k' n)] σ (.arr σ.H.length 0 n.toNat) ⟨σ.H++[some (replicate n.toNat (.v zv))],σ.own⟩:=by
 intro E g a w K Q hw hds hK
 simp only[ho,Op.operands,Ap] at hds
 obtain⟨u,v,eq,h1,h2⟩:=hds
 simp only[map_cons,map_nil,List.cons.injEq,and_true] at eq
 obtain⟨e1,e2⟩:=eq
 simp only[Ae,A1] at h1 h2
 subst h1 h2
 obtain⟨i,hu,hi,hsz,hby,hzz⟩:=A6 hs
 obtain⟨hza,hzc⟩:=constV_rep (M:=g.M) hz
 have hz1:z.cells= #[z]:=by
  obtain⟨u',e,_,h3⟩:=Cl hza hzc
  simp at e;subst e;exact cells_one h3
 have hrun:=run_make (P:=P) w t e i z hu hi hzz k k' n n h0 (Int.le_refl _) (by rw[hby];exact hn) hn2
 rw[hsz,Nat.mul_one,hz1,H6] at hrun
 have hr:∀m,Ac g (replicate m (.v zv)) (replicate m z):=by
  intro m
  induction m with
  |zero=>simp[Ac]
  |succ m ih=>simp only[replicate_succ,Ac,Ae];exact⟨z,_,rfl,(AZ hza).2 hzc,ih⟩
 obtain⟨g',hw',hle,hβ,hn'⟩:=hw.newObj e (hr n.toNat) (fun c hc=>by rw[List.mem_replicate] at hc;rw[hc.2];simp[D.one,hza])
 have:=hK g' _ (.slice (some ⟨w.heap.size,0,none⟩) n.toNat n.toNat) hw' hle (by simp only[Ae];exact⟨by omega,n.toNat,Nat.le_refl _,by rw[hβ]⟩)
 unfold Oper.wp execOp
 simp only[ho,e1,e2,Sem.run_bind,hrun,Result.andThen_ok]
 exact this
theorem op_make0{t:TypeId}{x y:Operand}(ho:o.op=.makeSlice t x y){e:TypeId}{sz by':Nat}{z:Value}(hs:BJ P t=some (e,sz,by',some z))(h1:0<sz)(k:Nat)(hk:∀x∈σ.own,x.1≠k){k1 k2:IntKind}{n:Int}(h0:0<=n)(hn:(by':Int)*n<=281474976710656)(hn2:n<=9223372036854775807):
  Ai P o [.v (.int k1 0),.v (.int k2 n)] σ (.acc k []) ⟨σ.H,(k,sz,[])::σ.own⟩:=by
 intro E g a w K Q hw hds hK
 simp only[ho,Op.operands,Ap] at hds
 obtain⟨u,v,eq,h1',h2⟩:=hds
 simp only[map_cons,map_nil,List.cons.injEq,and_true] at eq
 obtain⟨e1,e2⟩:=eq
 simp only[Ae,A1] at h1' h2
 subst h1' h2
 obtain⟨i,hu,hi,hsz,hby,hzz⟩:=A6 hs
 have hrun:=run_make (P:=P) w t e i z hu hi hzz k1 k2 0 n (Int.le_refl _) h0 (by rw[hby];exact hn) hn2
 have hrep:repV g.M (.list []) (.slice (some ⟨w.heap.size,0,none⟩) 0 n.toNat):=by rw[AO];exact⟨_,n.toNat,rfl,Nat.zero_le _,.inl rfl⟩
 obtain⟨hw',hle⟩:=(hw.alloc (.cells (madeCells z.cells (n.toNat*i.size)) e)).addOwn (k:=k) (sz:=sz) (xs:=[]) (u:=.slice (some ⟨w.heap.size,0,none⟩) 0 n.toNat) hk ⟨h1,by simp⟩
  hrep (.inr ⟨w.heap.size,0,0,n.toNat,_,e,rfl,heap_alloc_new w _,Nat.zero_le _,by rw[size_madeCells,hsz,Nat.zero_add];exact Nat.le_refl _,fun o _=>hw.rep.new_none (Nat.le_refl _) o,hw.rep.gw.new (Nat.le_refl _)⟩) (fun b hb=>by
   simp only[BG] at hb
   split at hb
   ·simp at hb
   ·simp at hb;subst hb
    exact⟨hw.size,fun i cs hi=>Nat.ne_of_lt (hw.rep.obj_lt hi),fun x hx u' hu' hb'=>by have:=hw.rep.own_lt hx hu' hb';omega⟩)
 have:=hK _ _ _ hw' hle (by simp only[Ae];exact⟨hrep,by simp⟩)
 unfold Oper.wp execOp
 simp only[ho,e1,e2,Sem.run_bind,hrun,Result.andThen_ok]
 exact this
end
def D.plain:D->Bool
 |.v _=>true
 |_=>false
theorem repL_of{g:Gh}:∀{ds:List D} {xs:List V} {us:List Value},Eh ds=some xs->Ac g ds us->EC g.M xs us
 |[],xs,us,h,hr=>by simp[Eh] at h;subst h;simpa[Ac,EC] using hr
 |d::ds,xs,us,h,hr=>by
  simp only[Eh] at h
  split at h
  ·rename_i x xs' hx hxs
   simp at h;subst h
   simp only[Ac] at hr
   obtain⟨u,us',rfl,h2,h3⟩:=hr
   simp only[EC]
   obtain⟨ws,h4,h5⟩:=GZ hx h2
   exact⟨u,us',ws,rfl,h4,h5,repL_of hxs h3⟩
  ·simp at h
theorem D6{g:Gh}:∀{xs:List V} {us:List Value},EC g.M xs us->Ac g (xs.map .v) us
 |[],us,h=>by simpa[Ac,EC] using h
 |x::xs,us,h=>by
  simp only[EC] at h
  obtain⟨u,us',ws,rfl,h1,h2,h3⟩:=h
  simp only[map_cons,Ac,Ae]
  exact⟨u,us',rfl,⟨ws,h1,h2⟩,D6 h3⟩
section
variable {P : Program} {o : Oper} {σ : St} {d : D}
theorem op_makeFunc{f:FuncId}{first captured:Array Operand}(ho:o.op=.makeFunc (.func f) first captured){fs cs:List D}{xs ys:List V}(hl:fs.length=first.size)(hf:Eh fs=some xs)(hc:Eh cs=some ys):
  Ai P o (fs++cs) σ (.v (.fn f xs ys)) σ:=by
 refine Ax fun E g ρ w hw hds=>?_
 simp only[ho,Op.operands,Array.toList_append,map_append] at hds
 have h1:=BD hds fs.length
 have h2:=BP hds fs.length
 have hl':(first.toList.map ρ).length=fs.length:=by simp[hl]
 rw[take_left,List.take_left' hl'] at h1
 rw[List.drop_left,List.drop_left' hl'] at h2
 refine⟨.func (.func f) (first.map ρ) (captured.map ρ),?_,?_⟩
 ·simp[execOp,ho,Instr.makeFunc]
 ·simp only[Ae,FV]
  exact⟨first.toList.map ρ,captured.toList.map ρ,by simp[←Array.toList_map],repL_of hf h1,repL_of hc h2⟩
end
theorem WI.setObjG{E:Ent}{g:Gh}{σ:St}{w w':World}(hw:WI E g σ w){M':Mem}(hle:g.M.le M'){q:Nat}{cs:List D}{oc:Option (List D)}(hq:σ.H[q]?=some (some cs))
  (hb:∀cs',oc=some cs'->∃us rest e,w'.heap[g.β q]?=some (.cells (us++rest).toArray e (0,0))/\Ac { g with M:=M' } cs' us/\(∀c∈cs',c.one=true)/\(∀o,M' (g.β q) o=none)/\(us++rest).length=g.κ q)
  (keep:∀b,b<w.heap.size->b≠g.β q->w'.heap[b]?=w.heap[b]?/\∀o,M' b o=g.M b o) (mem:∀b o v,M' b o=some v->w'.cell? ⟨b,o,none⟩=some v)
  (size:w.heap.size<=w'.heap.size) (os:w'.os=w.os) (tape:w'.tape=w.tape) (output:w'.output=w.output) (drawn:B3 w.drawn w'.drawn:=by first|exact B3.refl _|exact B3.succ _|assumption):
  WI E { g with M:=M' } ⟨σ.H.set q oc,σ.own⟩ w':=by
 have hlg:g.le { g with M:=M' }:=⟨hle,Nat.le_refl _,fun _ _=>rfl,fun _ _ _ h=>h,fun _ _=>rfl⟩
 have split:∀(i:Nat) (cs1:List D),(σ.H.set q oc)[i]?=some (some cs1)->(i=q/\oc=some cs1)∨(i≠q/\σ.H[i]?=some (some cs1)):=by
  intro i cs1 hi
  rw[getElem?_set] at hi
  split at hi
  ·rename_i e;subst e
   split at hi
   ·simp at hi;exact .inl ⟨rfl,hi⟩
   ·simp at hi
  ·rename_i e;exact .inr ⟨fun h=>e h.symm,hi⟩
 have live:∀(i:Nat) (cs1:List D),(σ.H.set q oc)[i]?=some (some cs1)->∃cs2,σ.H[i]?=some (some cs2):=by
  intro i cs1 hi
  rcases split i cs1 hi with⟨rfl,_⟩|⟨_,h⟩
  ·exact⟨cs,hq⟩
  ·exact⟨_,h⟩
 refine hw.update (fun b=>b=g.β q) (fun b e=>by subst e;exact hw.objs q cs hq) (fun b hb hne=>keep b hb hne) hle (Nat.le_refl _) (fun _ _=>rfl) (fun _ _=>rfl) size os tape output ?_ ?_ hw.owns
 ·refine⟨by simp[hw.rep.n],mem,fun i cs1 hi=>?_,fun i j c1 c2 hi hj hij=>?_,fun k sz xs hx=>?_,hw.rep.tags,hw.rep.sep,fun x hx u hu b hb' i cs1 hi=>?_,hw.rep.fresh,hw.rep.gl.mono hle,hw.rep.gw.keepG fun p hp hlt=>(keep p.1 hlt (hw.rep.obj_ng hq p hp)).1⟩
  ·rcases split i cs1 hi with⟨rfl,e⟩|⟨hne,h⟩
   ·exact hb cs1 e
   ·obtain⟨us',rest',e',h2,h3,h4,h5,h6⟩:=hw.rep.obj i cs1 h
    obtain⟨k1,k2⟩:=keep _ (Fq h2) (fun e=>hne (hw.rep.inj i q _ _ h hq e))
    exact⟨us',rest',e',k1.trans h2,Ac.mono hlg _ _ h3,h4,fun o=>(k2 o).trans (h5 o),h6⟩
  ·obtain⟨c3,h3⟩:=live i c1 hi
   obtain⟨c4,h4⟩:=live j c2 hj
   exact hw.rep.inj i j _ _ h3 h4 hij
  ·obtain⟨h0,u,hu,h3,h4,h5⟩:=hw.rep.own k sz xs hx
   refine⟨h0,u,hu,h3.mono hle,h4.kept fun b hb'=>keep b (hw.rep.own_lt hx hu hb') ?_,h5⟩
   exact fun e=>hw.rep.ownObj _ hx u hu b hb' q cs hq e.symm
  ·obtain⟨c3,h3⟩:=live i cs1 hi
   exact hw.rep.ownObj x hx u hu b hb' i c3 h3
 ·intro i cs1 hi
  obtain⟨c3,h3⟩:=live i cs1 hi
  exact hw.objs i c3 h3
mutual
def D.pl:D->Bool
 |.v _=>true
 |.raw _=>true
 |.rv .. =>true
 |.tup ds=>D.pls ds
 |.err=>true
 |.undef=>true
 |_=>false
def D.pls:List D->Bool
 |[]=>true
 |d::ds=>d.pl&&D.pls ds
end
mutual
theorem repD_pl{g g':Gh}(hM:g'.M=g.M):∀{d:D} {u:Value},d.pl=true->Ae g d u->Ae g' d u
 |.v x,u,_,h=>by simp only[Ae] at h⊢;rw[hM];exact h
 |.tup ds,u,hp,h=>by
  simp only[Ae] at h⊢
  obtain⟨us,e,h1⟩:=h
  exact⟨us,e,AU hM (by simpa[D.pl] using hp) h1⟩
 |.undef,u,_,_=>by simp only[Ae]
 |.raw x,u,_,h=>by simpa only[Ae] using h
 |.err,u,_,h=>by simpa only[Ae] using h
 |.rv x u0,u,_,h=>by simp only[Ae] at h⊢;rw[hM];exact h
 |.acc ..,_,hp,_=>by simp[D.pl] at hp
 |.ptr ..,_,hp,_=>by simp[D.pl] at hp
 |.arr ..,_,hp,_=>by simp[D.pl] at hp
 |.dagg ..,_,hp,_=>by simp[D.pl] at hp
 |.dfn ..,_,hp,_=>by simp[D.pl] at hp
theorem AU{g g':Gh}(hM:g'.M=g.M):∀{ds:List D} {us:List Value},D.pls ds=true->Ac g ds us->Ac g' ds us
 |[],us,_,h=>by simpa[Ac] using h
 |d::ds,us,hp,h=>by
  simp only[D.pls,Bool.and_eq_true] at hp
  simp only[Ac] at h⊢
  obtain⟨u,us',e,h1,h2⟩:=h
  exact⟨u,us',e,repD_pl hM hp.1 h1,AU hM hp.2 h2⟩
end
theorem BB(xs:List V):D.pls (xs.map .v)=true:=by induction xs<;>simp_all [D.pls,D.pl]
theorem CU:∀(a b:List D),D.pls (a++b)=(D.pls a&&D.pls b)
 |[],b=>by simp[D.pls]
 |d::a,b=>by simp[D.pls,CU a b,Bool.and_assoc]
section
variable {P : Program} {o : Oper} {σ : St} {d : D}
theorem EU{_E:Ent}{_g:Gh}{a:Act}{w:World}{K:Act->World->Prop}{Q:Exit->Act->World->Prop}{c:Call}{fo:Operand}(ho:o.op=.call c)(hc:c.callee=.value fo){f:FuncId}(hcall:Callable P f){us vs ws:List Value}
  (hf:a.eval fo=.func (.func f) us.toArray vs.toArray) (hargs:c.args.toList.map a.eval=ws)
  (h:Calls P f (us++ws++vs).toArray w fun e w'=>∃u,e=.returned u/\K (a.put o.dst u) w'):o.wp P a w K Q:=by
 obtain⟨fn,h1,h2,h3⟩:=hcall
 have hargs':c.args.map a.eval=ws.toArray:=by apply Array.ext';simpa using hargs
 unfold Oper.wp execOp
 simp only[ho,resolve,hc,hf,hargs',Deferred.ofValue,Sem.run_bind,Sem.run_pure,Result.andThen_ok,invoke,callFunc,run_program,h1,h2,h3,Bool.false_eq_true,if_false]
 have e:us.toArray++ws.toArray++vs.toArray=(us++ws++vs).toArray:=by simp
 rw[e]
 refine Calls.mono h fun e w' he=>?_
 obtain⟨u,rfl,hk⟩:=he
 exact hk
theorem CX{g:Gh}{a:Act}{c:Call}{fo:Operand}(ho:o.op=.call c)(hc:c.callee=.value fo){f:FuncId}{fs cs:List V}{ds:List D}(h:Ac g (.v (.fn f fs cs)::ds) (o.op.operands.toList.map a.eval)):
  ∃us vs ws,a.eval fo=.func (.func f) us.toArray vs.toArray/\c.args.toList.map a.eval=ws/\Ac g (fs.map .v) us/\Ac g (cs.map .v) vs/\Ac g ds ws:=by
 simp only[ho,Op.operands,Call.operands,hc] at h
 have h':Ac g (.v (.fn f fs cs)::ds) (a.eval fo::c.args.toList.map a.eval):=by simpa using h
 simp only[Ac] at h'
 obtain⟨u,us',e,h1,h2⟩:=h'
 simp only[List.cons.injEq] at e
 obtain⟨e1,e2⟩:=e
 simp only[Ae,FV] at h1
 obtain⟨us,vs,e3,h3,h4⟩:=h1
 exact⟨us,vs,us',e1.trans e3,e2,D6 h3,D6 h4,h2⟩
theorem WRep.empty{g:Gh}{w:World}(h:WRep g σ w):WRep { M:=g.M,β:=g.β,n:=0,ι:=fun _ _=>none,κ:=g.κ } ⟨[],[]⟩ w where
 n:=rfl
 mem:=h.mem
 gl:=h.gl
 gw:=h.gw
 obj:=fun i cs hi=>by simp at hi
 inj:=fun i j cs ds hi=>by simp at hi
 own:=fun k sz xs hx=>by simp at hx
 tags:=by simp
 sep:=fun x hx=>by simp at hx
 ownObj:=fun x hx=>by simp at hx
 fresh:=fun _ _ _=>rfl
theorem FC{g:Gh}{w:World}{b:Nat}:¬Ent.priv ⟨g,w,⟨[],[]⟩⟩ b:=by
 rintro (⟨i,cs,h,_⟩|⟨x,h,_⟩)
 ·simp at h
 ·simp at h
theorem WI.back0{E:Ent}{g gc gc':Gh}{w w':World}{σc':St}(hw:WI E g σ w)(hM:gc.M=g.M)(h:WI ⟨gc,w,⟨[],[]⟩⟩ gc' σc' w'):WI E { g with M:=gc'.M } σ w'/\g.le { g with M:=gc'.M }:=by
 have hle:g.M.le gc'.M:=by rw[←hM];exact h.M
 refine⟨hw.grow hle (fun b hb=>?_) h.rep.mem h.size h.os h.tape h.output (drawn:=h.drawn),⟨hle,Nat.le_refl _,fun _ _=>rfl,fun _ _ _ h=>h,fun _ _=>rfl⟩⟩
 obtain⟨h1,h2⟩:=h.keep b hb FC
 exact⟨h1,fun o=>by rw[h2 o];simp only[hM]⟩
theorem op_call0{c:Call}{fo:Operand}(ho:o.op=.call c)(hc:c.callee=.value fo){f:FuncId}{fs cs:List V}{ds:List D}(hp:D.pls ds=true)(hd:d.pl=true)
  (hspec:Ab P f (fs.map .v++ds++cs.map .v) ⟨[],[]⟩ d ⟨[],[]⟩):Ai P o (.v (.fn f fs cs)::ds) σ d σ:=by
 intro E g a w K Q hw hds hK
 obtain⟨us,vs,ws,hf,hargs,h1,h2,h3⟩:=CX ho hc hds
 refine EU (_E:=E) (_g:=g) ho hc hspec.1 hf hargs ?_
 have hargs':Ac { M:=g.M,β:=g.β,n:=0,ι:=fun _ _=>none,κ:=g.κ } (fs.map .v++ds++cs.map .v) (us++ws++vs):=
  AU (by rfl) (by simp[CU,BB,hp]) (Aq (Aq h1 h3) h2)
 refine Calls.mono (hspec.2 _ w _ hw.rep.empty hargs') ?_
 rintro e w' ⟨u,g',rfl,hw',hr⟩
 obtain⟨h4,h5⟩:=hw.back0 (by rfl) hw'
 exact⟨u,rfl,hK _ _ _ h4 h5 (repD_pl (by rfl) hd hr)⟩
theorem op_call0_own{c:Call}{fo:Operand}(ho:o.op=.call c)(hc:c.callee=.value fo){f:FuncId}{fs cs:List V}{ds:List D}(hp:D.pls ds=true){k' sz:Nat}{xs:List V}(k:Nat)(hk:∀x∈σ.own,x.1≠k)
  (hspec:Ab P f (fs.map .v++ds++cs.map .v) ⟨[],[]⟩ (.acc k' xs) ⟨[],[(k',sz,xs)]⟩):Ai P o (.v (.fn f fs cs)::ds) σ (.acc k xs) ⟨σ.H,(k,sz,xs)::σ.own⟩:=by
 intro E g a w K Q hw hds hK
 obtain⟨us,vs,ws,hf,hargs,h1,h2,h3⟩:=CX ho hc hds
 refine EU (_E:=E) (_g:=g) ho hc hspec.1 hf hargs ?_
 have hargs':Ac { M:=g.M,β:=g.β,n:=0,ι:=fun _ _=>none,κ:=g.κ } (fs.map .v++ds++cs.map .v) (us++ws++vs):=
  AU (by rfl) (by simp[CU,BB,hp]) (Aq (Aq h1 h3) h2)
 refine Calls.mono (hspec.2 _ w _ hw.rep.empty hargs') ?_
 rintro e w' ⟨u,g',rfl,hw',hr⟩
 obtain⟨h4,h5⟩:=hw.back0 (by rfl) hw'
 simp only[Ae] at hr
 obtain⟨hsz,u',hu',hr',hp',_⟩:=hw'.rep.own k' sz xs (by simp)
 obtain rfl:u=u':=by rw[hr.2] at hu';simpa using hu'
 obtain⟨h6,h7⟩:=h4.addOwn (k:=k) (sz:=sz) (xs:=xs) (u:=u) hk hsz hr' hp' (fun b hb=>by
  rcases hw'.owns (k',sz,xs) (by simp) u hr.2 b hb with h|h
  ·refine⟨Nat.le_trans hw.size h,fun i cs hi=>?_,fun x hx v hv hvb=>?_⟩
   ·have:=hw.rep.obj_lt hi;simp only at h⊢;omega
   ·have:=hw.rep.own_lt hx hv hvb;simp only at h;omega
  ·exact absurd h FC)
 exact⟨u,rfl,hK _ _ _ h6 (Gh.le_trans h5 h7) (by simp only[Ae];exact⟨hr',by simp⟩)⟩
inductive Dh (q:Nat):List D->List D->Prop
 |nil:Dh q [] []
 |pl {d:D} {ds dc:List D} (hp:d.pl=true) (h:Dh q ds dc):Dh q (d::ds) (d::dc)
 |ptr {off:Nat} {ds dc:List D} (h:Dh q ds dc):Dh q (.ptr q off::ds) (.ptr 0 off::dc)
 |arr {off len:Nat} {ds dc:List D} (h:Dh q ds dc):Dh q (.arr q off len::ds) (.arr 0 off len::dc)
theorem Dh.rep{q:Nat}{g gc:Gh}(hM:gc.M=g.M)(hβ:gc.β 0=g.β q)(hn:0<gc.n):∀{ds dc:List D},Dh q ds dc->∀{us:List Value},Ac g ds us->Ac gc dc us
 |_,_,.nil,us,h=>by simpa[Ac] using h
 |_,_,.pl hp h',us,h=>by
  simp only[Ac] at h⊢
  obtain⟨u,us',e,h1,h2⟩:=h
  exact⟨u,us',e,repD_pl hM hp h1,Dh.rep hM hβ hn h' h2⟩
 |_,_,.ptr h',us,h=>by
  simp only[Ac] at h⊢
  obtain⟨u,us',e,h1,h2⟩:=h
  refine⟨u,us',e,?_,Dh.rep hM hβ hn h' h2⟩
  simp only[Ae] at h1⊢
  exact⟨hn,by rw[hβ];exact h1.2⟩
 |_,_,.arr h',us,h=>by
  simp only[Ac] at h⊢
  obtain⟨u,us',e,h1,h2⟩:=h
  refine⟨u,us',e,?_,Dh.rep hM hβ hn h' h2⟩
  simp only[Ae] at h1⊢
  exact⟨hn,by rw[hβ];exact h1.2⟩
theorem WRep.one{g:Gh}{w:World}(h:WRep g σ w){q:Nat}{cs:List D}(hq:σ.H[q]?=some (some cs))(hp:D.pls cs=true):WRep { M:=g.M,β:=fun _=>g.β q,n:=1,ι:=fun _ _=>none,κ:=fun _=>g.κ q } ⟨[some cs],[]⟩ w where
 n:=rfl
 mem:=h.mem
 gl:=h.gl
 gw:=h.gw
 obj:=fun i cs' hi=>by
  cases i with
  |zero=>
   simp at hi;subst hi
   obtain⟨us,rest,e,hb,hr,h1,hM,hκ⟩:=h.obj q cs hq
   exact⟨us,rest,e,hb,AU (by rfl) hp hr,h1,hM,hκ⟩
  |succ i=>simp at hi
 inj:=fun i j cs1 cs2 hi hj _=>by
  cases i with
  |zero=>
   cases j with
   |zero=>rfl
   |succ j=>simp at hj
  |succ i=>simp at hi
 own:=fun k sz xs hx=>by simp at hx
 tags:=by simp
 sep:=fun x hx=>by simp at hx
 ownObj:=fun x hx=>by simp at hx
 fresh:=fun _ _ _=>rfl
theorem priv_one{M:Mem}{b0:Nat}{w:World}{b:Nat}{ι:Nat->Nat->Option Value}{κ:Nat->Nat}{cs:List D}(h:Ent.priv ⟨{ M,β:=fun _=>b0,n:=1,ι,κ },w,⟨[some cs],[]⟩⟩ b):b=b0:=by
 rcases h with⟨i,cs',hi,e⟩|⟨x,hx,_⟩
 ·exact e
 ·simp at hx
theorem WI.back1{E:Ent}{g g':Gh}{w w':World}{q:Nat}{cs cs':List D}{own':List (Nat×Nat×List V)}(hw:WI E g σ w)(hq:σ.H[q]?=some (some cs))(hp':D.pls cs'=true)
  (h:WI ⟨{ M:=g.M,β:=fun _=>g.β q,n:=1,ι:=fun _ _=>none,κ:=fun _=>g.κ q },w,⟨[some cs],[]⟩⟩ g' ⟨[some cs'],own'⟩ w'):WI E { g with M:=g'.M } ⟨σ.H.set q (some cs'),σ.own⟩ w'/\g.le { g with M:=g'.M }:=by
 refine⟨hw.setObjG h.M hq (fun c hc=>?_) (fun b hb hne=>?_) h.rep.mem h.size h.os h.tape h.output (drawn:=h.drawn),⟨h.M,Nat.le_refl _,fun _ _=>rfl,fun _ _ _ h=>h,fun _ _=>rfl⟩⟩
 ·simp at hc;subst hc
  obtain⟨us,rest,e,hb,hr,h1,hM,hκ⟩:=h.rep.obj 0 cs' (by simp)
  have hβ:g'.β 0=g.β q:=h.βE 0 (by simp)
  have hκ':g'.κ 0=g.κ q:=h.κE 0 (by simp)
  rw[hβ] at hb hM
  exact⟨us,rest,e,hb,AU (by rfl) hp' hr,h1,hM,hκ.trans hκ'⟩
 ·exact h.keep b hb (fun hpr=>hne (priv_one hpr))
theorem GE{c:Call}{fo:Operand}(ho:o.op=.call c)(hc:c.callee=.value fo){f:FuncId}{fs cs:List V}{ds dc:List D}{q:Nat}{os os':List D}(hq:σ.H[q]?=some (some os))(hos:D.pls os=true)(hos':D.pls os'=true)(ha:Dh q ds dc)(hd:d.pl=true)
  (hspec:Ab P f (fs.map .v++dc++cs.map .v) ⟨[some os],[]⟩ d ⟨[some os'],[]⟩):Ai P o (.v (.fn f fs cs)::ds) σ d ⟨σ.H.set q (some os'),σ.own⟩:=by
 intro E g a w K Q hw hds hK
 obtain⟨us,vs,ws,hf,hargs,h1,h2,h3⟩:=CX ho hc hds
 refine EU (_E:=E) (_g:=g) ho hc hspec.1 hf hargs ?_
 have hargs':Ac { M:=g.M,β:=fun _=>g.β q,n:=1,ι:=fun _ _=>none,κ:=fun _=>g.κ q } (fs.map .v++dc++cs.map .v) (us++ws++vs):=
  Aq (Aq (AU (by rfl) (BB fs) h1) (Dh.rep (q:=q) (g:=g) (by rfl) (by rfl) (by simp) ha h3)) (AU (by rfl) (BB cs) h2)
 refine Calls.mono (hspec.2 _ w _ (hw.rep.one hq hos) hargs') ?_
 rintro e w' ⟨u,g',rfl,hw',hr⟩
 obtain⟨h4,h5⟩:=hw.back1 hq hos' hw'
 exact⟨u,rfl,hK _ _ _ h4 h5 (repD_pl (by rfl) hd hr)⟩
theorem op_call1_own{c:Call}{fo:Operand}(ho:o.op=.call c)(hc:c.callee=.value fo){f:FuncId}{fs cs:List V}{ds dc:List D}{q:Nat}{os os':List D}(hq:σ.H[q]?=some (some os))(hos:D.pls os=true)(hos':D.pls os'=true)(ha:Dh q ds dc)
  {k' sz:Nat} {xs:List V} (k:Nat) (hk:∀x∈σ.own,x.1≠k) (hspec:Ab P f (fs.map .v++dc++cs.map .v) ⟨[some os],[]⟩ (.acc k' xs) ⟨[some os'],[(k',sz,xs)]⟩):
  Ai P o (.v (.fn f fs cs)::ds) σ (.acc k xs) ⟨σ.H.set q (some os'),(k,sz,xs)::σ.own⟩:=by
 intro E g a w K Q hw hds hK
 obtain⟨us,vs,ws,hf,hargs,h1,h2,h3⟩:=CX ho hc hds
 refine EU (_E:=E) (_g:=g) ho hc hspec.1 hf hargs ?_
 have hargs':Ac { M:=g.M,β:=fun _=>g.β q,n:=1,ι:=fun _ _=>none,κ:=fun _=>g.κ q } (fs.map .v++dc++cs.map .v) (us++ws++vs):=
  Aq (Aq (AU (by rfl) (BB fs) h1) (Dh.rep (q:=q) (g:=g) (by rfl) (by rfl) (by simp) ha h3)) (AU (by rfl) (BB cs) h2)
 refine Calls.mono (hspec.2 _ w _ (hw.rep.one hq hos) hargs') ?_
 rintro e w' ⟨u,g',rfl,hw',hr⟩
 obtain⟨h4,h5⟩:=hw.back1 hq hos' hw'
 simp only[Ae] at hr
 obtain⟨hsz,u',hu',hr',hp',_⟩:=hw'.rep.own k' sz xs (by simp)
 obtain rfl:u=u':=by rw[hr.2] at hu';simpa using hu'
 have hβ:g'.β 0=g.β q:=hw'.βE 0 (by simp)
 obtain⟨h6,h7⟩:=h4.addOwn (k:=k) (sz:=sz) (xs:=xs) (u:=u) hk hsz hr' hp' (fun b hb=>by
  have hne:g'.β 0≠b:=hw'.rep.ownObj (k',sz,xs) (by simp) u hr.2 b hb 0 os' (by simp)
  rcases hw'.owns (k',sz,xs) (by simp) u hr.2 b hb with h|h
  ·refine⟨Nat.le_trans hw.size h,fun i cs hi=>?_,fun x hx v hv hvb=>?_⟩
   ·obtain⟨cs2,hc2⟩:∃cs2,σ.H[i]?=some (some cs2):=by
     rw[getElem?_set] at hi
     split at hi
     ·rename_i e;subst e;exact⟨_,hq⟩
     ·exact⟨_,hi⟩
    have:=hw.rep.obj_lt hc2;simp only at h⊢;omega
   ·have:=hw.rep.own_lt hx hv hvb;simp only at h;omega
  ·exact absurd (priv_one h) (fun e=>hne (by rw[hβ,e])))
 exact⟨u,rfl,hK _ _ _ h6 (Gh.le_trans h5 h7) (by simp only[Ae];exact⟨hr',by simp⟩)⟩
end
theorem WI.restrict{E:Ent}{g:Gh}{σ σ':St}{w:World}(hw:WI E g σ w){m:Nat}(hH:σ'.H=σ.H.take m)(hm:m<=σ.H.length)(hE:E.g.n<=m)(hc:∀(i:Nat) (cs:List D),σ'.H[i]?=some (some cs)->D.pls cs=true)(hown:σ'.own.Sublist σ.own):
  WI E { g with n:=m,ι:=fun k j=>if k∈σ'.own.map (·.1) then g.ι k j else none } σ' w:=by
 have get:∀(i:Nat) (cs:List D),σ'.H[i]?=some (some cs)->σ.H[i]?=some (some cs)/\i<m:=by
  intro i cs hi
  rw[hH,getElem?_take] at hi
  split at hi
  ·exact⟨hi,by assumption⟩
  ·simp at hi
 have hι:∀x∈σ'.own,(if x.1∈σ'.own.map (·.1) then g.ι x.1 x.2.2.length else none)=g.ι x.1 x.2.2.length:=fun x hx=>if_pos (mem_map.2 ⟨x,hx,rfl⟩)
 refine{ rep:=⟨?_,hw.rep.mem,fun i cs hi=>?_,fun i j cs ds hi hj=>hw.rep.inj i j cs ds (get i cs hi).1 (get j ds hj).1,fun k sz xs hx=>?_,?_,fun x hx y hy hne u u' hu hu' b hb=>?_,fun x hx u hu b hb i cs hi=>?_,fun k hk j=>?_,hw.rep.gl,hw.rep.gw⟩,M:=hw.M,size:=hw.size,keep:=hw.keep,os:=hw.os,tape:=hw.tape,output:=hw.output,nE:=hE,βE:=fun o ho=>hw.βE o ho,κE:=fun o ho=>hw.κE o ho,objs:=fun i cs hi=>hw.objs i cs (get i cs hi).1,owns:=fun x hx u hu b hb=>?_,drawn:=hw.drawn }
 ·simp[hH];omega
 ·obtain⟨us,rest,e,h1,h2,h3,h4⟩:=hw.rep.obj i cs (get i cs hi).1
  exact⟨us,rest,e,h1,AU (by rfl) (hc i cs hi) h2,h3,h4⟩
 ·obtain⟨h0,u,hu,h1,h2,h3⟩:=hw.rep.own k sz xs (hown.subset hx)
  refine⟨h0,u,(hι _ hx).trans hu,h1,h2,fun j hj=>?_⟩
  simp only
  split
  ·exact h3 j hj
  ·rfl
 ·exact(hown.map _).nodup hw.rep.tags
 ·exact hw.rep.sep x (hown.subset hx) y (hown.subset hy) hne u u' ((hι x hx).symm.trans hu) ((hι y hy).symm.trans hu') b hb
 ·exact hw.rep.ownObj x (hown.subset hx) u ((hι x hx).symm.trans hu) b hb i cs (get i cs hi).1
 ·simp only
  rw[if_neg]
  intro h
  obtain⟨x,hx,e⟩:=mem_map.1 h
  exact hk x hx e
 ·exact hw.owns x (hown.subset hx) u ((hι x hx).symm.trans hu) b hb
inductive GS (P:Program) (env:List D) (σ:St):List ResultVar->List D->Prop
 |nil:GS P env σ [] []
 |tmp {t:Tmp} {d:D} {rs:List ResultVar} {ds:List D} (h:env[t]?=some d) (hr:GS P env σ rs ds):GS P env σ (.tmp t::rs) (d::ds)
 |cellA {a:Tmp} {t:TypeId} {q off n:Nat} {cs:List D} {xs:List V} {rs:List ResultVar} {ds:List D} (h:env[a]?=some (.ptr q off)) (hH:σ.H[q]?=some (some cs)) (ht:AggTy P t n) (hn:off+n<=cs.length)
   (hc:Eh ((cs.drop off).take n)=some xs) (hr:GS P env σ rs ds):GS P env σ (.cell a t::rs) (.v (.agg xs)::ds)
 |cell1 {a:Tmp} {t:TypeId} {q off:Nat} {cs:List D} {d:D} {rs:List ResultVar} {ds:List D} (h:env[a]?=some (.ptr q off)) (hH:σ.H[q]?=some (some cs)) (ht:OneTy P t) (hc:cs[off]?=some d) (hr:GS P env σ rs ds):
   GS P env σ (.cell a t::rs) (d::ds)
 |cellD {a:Tmp} {t:TypeId} {q off n:Nat} {cs:List D} {rs:List ResultVar} {ds:List D} (h:env[a]?=some (.ptr q off)) (hH:σ.H[q]?=some (some cs)) (ht:AggTy P t n) (hn:off+n<=cs.length) (hr:GS P env σ rs ds):
   GS P env σ (.cell a t::rs) (.dagg ((cs.drop off).take n)::ds)
theorem getD_of{g:Gh}{env:List D}{a:Act}(h:Ac g env a.tmps.toList){t:Nat}{d:D}(hd:env[t]?=some d):Ae g d (a.tmps.getD t undef):=by
 have:=ED h t
 simpa[evD,getD_eq_getElem?_getD,hd,Act.eval] using this
def resF(tmps:Array Value):ResultVar->Sem Value
 |.tmp t=>pure (tmps.getD t undef)
 |.cell a t=>do loadVar t (←asAddr (tmps.getD a undef))
theorem results_eq(fn:Func)(tmps:Array Value):results fn tmps=(do let vs ←fn.results.mapM (resF tmps);pure (if h:vs.size=1 then vs[0] else .tuple vs)):=by
 unfold results
 rfl
theorem GS.run{P:Program}{env:List D}{σ:St}{E:Ent}{g:Gh}{a:Act}{w:World}(hf:FI E g σ env a w):∀{rs:List ResultVar} {ds:List D},GS P env σ rs ds->
  ∃us,(rs.mapM (resF a.tmps)).run P w=.ok us w/\Ac g ds us
 |_,_,.nil=>⟨[],by simp,by simp[Ac]⟩
 |_,_,.tmp (t:=t) h hr=>by
  obtain⟨us,h1,h2⟩:=GS.run hf hr
  refine⟨a.tmps.getD t undef::us,?_,?_⟩
  ·rw[List.mapM_cons]
   simp only[resF,Sem.run_bind,Sem.run_pure,Result.andThen_ok,h1]
  ·simp only[Ac];exact⟨_,us,rfl,getD_of hf.env h,h2⟩
 |_,_,.cellA (n:=n) (cs:=cs) (off:=off) (q:=q) h hH ht hn hc hr=>by
  obtain⟨us,h1,h2⟩:=GS.run hf hr
  have hp:=getD_of hf.env h
  simp only[Ae] at hp
  obtain⟨us',rest',et,hb,hrr,hone,_⟩:=hf.wi.rep.obj q cs hH
  have hra:=F6 hc (BD (BP hrr off) n) (fun c hc'=>hone c (mem_of_mem_drop (mem_of_mem_take hc')))
  have hl:us'.length=cs.length:=Ay hrr
  have hld:=run_loadCells_list (P:=P) w ⟨g.β q,off,none⟩ ((us'.drop off).take n) (fun j v hj=>by
   rw[getElem?_take] at hj
   split at hj
   ·rw[getElem?_drop] at hj
    rw[Addr.add_lit]
    simp only[World.cell?,hb,getElem?_toArray];exact DM hj
   ·simp at hj)
  have hlen:((us'.drop off).take n).length=n:=by simp;omega
  rw[hlen] at hld
  refine⟨.agg ((us'.drop off).take n).toArray::us,?_,?_⟩
  ·rw[List.mapM_cons]
   simp only[resF,Sem.run_bind,Sem.run_pure,Result.andThen_ok,hp.2,asAddr,loadVar,Cs ht,run_sizeOf' ht,hld,if_true,h1]
  ·simp only[Ac,Ae,BZ];exact⟨_,us,rfl,⟨_,hra,rfl⟩,h2⟩
 |_,_,.cell1 (cs:=cs) (off:=off) (q:=q) h hH ht hc hr=>by
  obtain⟨us,h1,h2⟩:=GS.run hf hr
  have hp:=getD_of hf.env h
  simp only[Ae] at hp
  obtain⟨us',rest',et,hb,hrr,hone,_⟩:=hf.wi.rep.obj q cs hH
  obtain⟨u',hu,hd⟩:=B0 hrr hc
  have hcell:w.cell? ⟨g.β q,off,none⟩=some u':=by simp only[World.cell?,hb,getElem?_toArray];exact DM hu
  refine⟨u'::us,?_,?_⟩
  ·rw[List.mapM_cons]
   simp only[resF,Sem.run_bind,hp.2,asAddr,Sem.run_pure,Result.andThen_ok,loadVar,Cs ht,Bool.false_eq_true,if_false,run_load,hcell,h1]
  ·simp only[Ac];exact⟨u',us,rfl,hd,h2⟩
 |_,_,.cellD (n:=n) (cs:=cs) (off:=off) (q:=q) h hH ht hn hr=>by
  obtain⟨us,h1,h2⟩:=GS.run hf hr
  have hp:=getD_of hf.env h
  simp only[Ae] at hp
  obtain⟨us',rest',et,hb,hrr,hone,_⟩:=hf.wi.rep.obj q cs hH
  have hra:=BD (BP hrr off) n
  have hl:us'.length=cs.length:=Ay hrr
  have hld:=run_loadCells_list (P:=P) w ⟨g.β q,off,none⟩ ((us'.drop off).take n) (fun j v hj=>by
   rw[getElem?_take] at hj
   split at hj
   ·rw[getElem?_drop] at hj
    rw[Addr.add_lit]
    simp only[World.cell?,hb,getElem?_toArray];exact DM hj
   ·simp at hj)
  have hlen:((us'.drop off).take n).length=n:=by simp;omega
  rw[hlen] at hld
  refine⟨.agg ((us'.drop off).take n).toArray::us,?_,?_⟩
  ·rw[List.mapM_cons]
   simp only[resF,Sem.run_bind,Sem.run_pure,Result.andThen_ok,hp.2,asAddr,loadVar,Cs ht,run_sizeOf' ht,hld,if_true,h1]
  ·simp only[Ac,Ae];exact⟨_,us,rfl,⟨_,rfl,hra⟩,h2⟩
def packD:List D->D
 |[d]=>d
 |ds=>.tup ds
theorem Ab.un{P:Program}{f:FuncId}{ds:List D}{σ:St}{k sz:Nat}{xs:List V}{H:List (Option (List D))}(hH:∀(i:Nat) (cs:List D),H[i]?=some (some cs)->D.pls cs=true)(hn:σ.H.length<=H.length)
  (h:Ab P f ds σ (.acc k xs) ⟨H,[(k,sz,xs)]⟩):Ab P f ds σ (.v (.list xs)) ⟨H,[]⟩:=by
 refine⟨h.1,fun g w args hw hargs=>?_⟩
 refine Calls.mono (h.2 g w args hw hargs) ?_
 rintro e w' ⟨u,g',rfl,hw',hr⟩
 refine⟨u,_,rfl,hw'.restrict (σ':=⟨H,[]⟩) (m:=H.length) (by simp) (Nat.le_refl _) (by simp only[hw.n];exact hn) hH (by simp),?_⟩
 simp only[Ae] at hr⊢
 exact hr.1
section
variable {C : Ent -> Ent -> Prop} {P : Program} {R : List D -> St -> Prop} {k : List KI} {env : List D} {σ : St}
theorem E9:∀xs:List V,Eh (xs.map .v)=some xs
 |[]=>rfl
 |x::xs=>by simp[Eh,D.toV,E9 xs]
end
def GG(acc:List Nat)(o:Oper):Nat:=o.after.toList.foldl (fun s e=>if Region.binds .any e then s|||2^e.on|||acc.getD e.on 0 else s) 0
def Ee:List Nat->List Oper->List Nat
 |acc,[]=>acc
 |acc,o::os=>Ee (acc++[GG acc o]) os
theorem foldl_mask(acc:List Nat)(i:Nat):∀(es:List Edge) (s:Nat),(es.foldl (fun s e=>if Region.binds .any e then s|||2^e.on|||acc.getD e.on 0 else s) s).testBit i=true->
  s.testBit i=true∨∃e∈es,Region.binds .any e=true/\(i=e.on∨(acc.getD e.on 0).testBit i=true)
 |[],s,h=>.inl h
 |e::es,s,h=>by
  simp only[foldl_cons] at h
  rcases foldl_mask acc i es _ h with h|⟨e',he,hb,hi⟩
  ·split at h
   ·rename_i hb
    simp only[Nat.testBit_or,Bool.or_eq_true] at h
    rcases h with(h|h)|h
    ·exact .inl h
    ·refine .inr ⟨e,by simp,hb,.inl ?_⟩
     rw[Nat.testBit_two_pow] at h
     simpa using(of_decide_eq_true h).symm
    ·exact .inr ⟨e,by simp,hb,.inr h⟩
   ·exact .inl h
  ·exact .inr ⟨e',by simp[he],hb,hi⟩
def DC(ops:Array Oper)(S:Nat->Bool):Prop:=∀i o,ops[i]?=some o->S i=true->∀e∈o.after,Region.binds .any e=true->S e.on=true
def Good(acc:List Nat)(S:Nat->Bool):Prop:=∀j m,acc[j]?=some m->S j=true->∀i,m.testBit i=true->S i=true
theorem good_step{acc:List Nat}{S:Nat->Bool}{o:Oper}(hg:Good acc S)(hd:∀e∈o.after,Region.binds .any e=true->S e.on=true):∀i,(GG acc o).testBit i=true->S i=true:=by
 intro i hi
 rcases foldl_mask acc i _ _ hi with h|⟨e,he,hb,h⟩
 ·simp at h
 ·have hs:=hd e (by simpa using he) hb
  rcases h with rfl|h
  ·exact hs
  ·cases hm:acc[e.on]? with
   |none=>simp[getD_eq_getElem?_getD,hm] at h
   |some m=>
    rw[getD_eq_getElem?_getD,hm] at h
    exact hg e.on m hm hs i h
theorem good_go{ops:Array Oper}{S:Nat->Bool}(hdc:DC ops S):∀(os:List Oper) (acc:List Nat),(∀k,os[k]?=ops[acc.length+k]?)->Good acc S->Good (Ee acc os) S
 |[],acc,_,hg=>hg
 |o::os,acc,ha,hg=>by
  simp only[Ee]
  refine good_go hdc os _ (fun k=>?_) ?_
  ·have:=ha (k+1)
   simp only[length_append,List.length_singleton]
   rw[show acc.length+1+k=acc.length+(k+1) by omega]
   simpa using this
  ·intro j m hj hs i hi
   by_cases hlt:j<acc.length
   ·rw[getElem?_append_left hlt] at hj
    exact hg j m hj hs i hi
   ·have hj':j=acc.length:=by
     have:=(List.getElem?_eq_some_iff.1 hj).1
     simp at this;omega
    subst hj'
    rw[getElem?_append_right (Nat.le_refl _)] at hj
    simp at hj
    subst hj
    have ho:ops[acc.length]?=some o:=by have:=ha 0;simpa using this.symm
    exact good_step hg (hdc _ o ho hs) i hi
theorem befGo_head:∀(os:List Oper) (acc:List Nat),∃r,Ee acc os=acc++r
 |[],acc=>⟨[],by simp[Ee]⟩
 |o::os,acc=>by
  obtain⟨r,h⟩:=befGo_head os (acc++[GG acc o])
  exact⟨GG acc o::r,by simp[Ee,h]⟩
theorem befGo_at:∀(os:List Oper) (acc:List Nat) (k:Nat) (o:Oper),os[k]?=some o->∃acc',(Ee acc os)[acc.length+k]?=some (GG acc' o)/\∃r,Ee acc os=acc'++r
 |[],acc,k,o,h=>by simp at h
 |o0::os,acc,k,o,h=>by
  simp only[Ee]
  cases k with
  |zero=>
   simp at h;subst h
   obtain⟨r,hr⟩:=befGo_head os (acc++[GG acc o0])
   refine⟨acc,?_,GG acc o0::r,by rw[hr];simp⟩
   rw[hr];simp
  |succ k=>
   simp at h
   obtain⟨acc',h1,h2⟩:=befGo_at os (acc++[GG acc o0]) k o h
   refine⟨acc',?_,h2⟩
   simp only[length_append,List.length_singleton] at h1
   rw[show acc.length+(k+1)=acc.length+1+k by omega]
   exact h1
theorem ready_before{ops:Array Oper}{S:Nat->Bool}(hdc:DC ops S){j:Nat}{o:Oper}(ho:ops[j]?=some o)(hr:∀e∈o.after,Region.binds .any e=true->S e.on=true):
  ∀i,((Ee [] ops.toList).getD j 0).testBit i=true->S i=true:=by
 intro i hi
 obtain⟨acc',h1,r,h2⟩:=befGo_at ops.toList [] j o (by simpa using ho)
 simp only[length_nil,Nat.zero_add] at h1
 rw[getD_eq_getElem?_getD,h1] at hi
 have hg:=good_go hdc ops.toList [] (fun k=>by simp) (fun j m hj=>by simp at hj)
 rw[h2] at hg
 exact good_step (acc:=acc') (fun j m hj=>hg j m (by rw[getElem?_append_left (List.getElem?_eq_some_iff.1 hj).1];exact hj)) hr i hi
theorem listed_before{ops:Array Oper}{S:Nat->Bool}(hdc:DC ops S){j:Nat}(hs:S j=true):∀i,((Ee [] ops.toList).getD j 0).testBit i=true->S i=true:=by
 intro i hi
 have hg:=good_go hdc ops.toList [] (fun k=>by simp) (fun j m hj=>by simp at hj)
 cases hm:(Ee [] ops.toList)[j]? with
 |none=>simp[getD_eq_getElem?_getD,hm] at hi
 |some m=>
  rw[getD_eq_getElem?_getD,hm] at hi
  exact hg j m hm hs i hi
def FY(ops:Array Oper)(o:Oper):List Tmp:=
 (o.op.operands.toList.filterMap fun|.tmp t=>some t|_=>none)++(match o.guard with|some (j,_)=>((ops[j]?).bind (·.dst)).toList|none=>[])
def confl(ops:Array Oper)(x y:Oper):Bool:=
 (match x.dst with|some t=>(FY ops y).contains t||y.dst==some t|none=>false)||(match y.dst with|some t=>(FY ops x).contains t|none=>false)
def regOK(ops:Array Oper)(effs:List Bool):Bool:=
 let b:=Ee [] ops.toList
 (List.range ops.size).all fun j=>
  match ops[j]? with
  |none=>false
  |some oj=>
   oj.after.all (fun e=> !Region.binds .any e||decide (e.on<j))&&
   (List.range j).all fun i=>
    match ops[i]? with
    |none=>false
    |some oi=> !(confl ops oi oj||(effs.getD i false&&effs.getD j false))||(b.getD j 0).testBit i
theorem regOK_edge{ops:Array Oper}{effs:List Bool}(h:regOK ops effs=true){j:Nat}{o:Oper}(ho:ops[j]?=some o):∀e∈o.after,Region.binds .any e=true->e.on<j:=by
 intro e he hb
 have hlt:j<ops.size:=(Array.getElem?_eq_some_iff.1 ho).1
 have h1:=all_eq_true.1 h j (by simpa using hlt)
 simp only[ho,Bool.and_eq_true] at h1
 have h2:=Array.all_eq_true_iff_forall_mem.1 h1.1 e he
 simpa[hb] using h2
theorem regOK_ord{ops:Array Oper}{effs:List Bool}(h:regOK ops effs=true){i j:Nat}{oi oj:Oper}(hi:ops[i]?=some oi)(hj:ops[j]?=some oj)(hij:i<j)(hc:confl ops oi oj=true∨(effs.getD i false=true/\effs.getD j false=true)):
  ((Ee [] ops.toList).getD j 0).testBit i=true:=by
 have hlt:j<ops.size:=(Array.getElem?_eq_some_iff.1 hj).1
 have h1:=all_eq_true.1 h j (by simpa using hlt)
 simp only[hj,Bool.and_eq_true] at h1
 have h2:=all_eq_true.1 h1.2 i (by simpa using hij)
 simp only[hi,Bool.or_eq_true,Bool.not_eq_true'] at h2
 rcases h2 with h2|h2
 ·rcases hc with hc|⟨hc1,hc2⟩
  ·simp[hc] at h2
  ·simp only[hc1,hc2,Bool.and_self,Bool.or_true] at h2
   exact absurd h2 (by simp)
 ·exact h2
abbrev It:=Option Tmp×D×Bool
def Cb(S:Nat->Bool)(e:List D)(x:It×Nat):List D:=if S x.2 then AK e x.1.1 x.1.2.1 else e
def envS(items:List It)(S:Nat->Bool)(env0:List D):List D:=(items.zipIdx 0).foldl (Cb S) env0
def BW(S:Nat->Bool)(c:Nat)(x:It×Nat):Nat:=if S x.2&&x.1.2.2 then c+1 else c
def cntS(items:List It)(S:Nat->Bool):Nat:=(items.zipIdx 0).foldl (BW S) 0
theorem putD_get{e:List D}{t:Option Tmp}{d:D}(s:Nat):(AK e t d)[s]?=if t=some s then(e[s]?).map (fun _=>d) else e[s]?:=by
 cases t with
 |none=>simp[AK]
 |some t=>
  simp only[AK,getElem?_set,Option.some.injEq]
  by_cases h:t=s
  ·subst h
   simp only[if_true]
   by_cases hl:t<e.length<;>simp[hl]
  ·simp[h]
theorem GJ{S S':Nat->Bool}{t:Tmp}:∀(l:List (It×Nat)) (e e':List D),(∀x∈l,x.1.1=some t->S x.2=S' x.2)->e[t]?=e'[t]?->(l.foldl (Cb S) e)[t]?=(l.foldl (Cb S') e')[t]?
 |[],e,e',_,h=>h
 |x::l,e,e',hl,h=>by
  simp only[foldl_cons]
  refine GJ l _ _ (fun y hy=>hl y (by simp[hy])) ?_
  by_cases hx:x.1.1=some t
  ·have:=hl x (by simp) hx
   unfold Cb
   rw[this]
   split
   ·simp[putD_get,hx,h]
   ·exact h
  ·unfold Cb
   have hp:∀e:List D,(AK e x.1.1 x.1.2.1)[t]?=e[t]?:=fun e=>by rw[putD_get,if_neg hx]
   split<;>split<;>simp[hp,h]
theorem GK{S S':Nat->Bool}:∀(l:List (It×Nat)) (c:Nat),(∀x∈l,x.1.2.2=true->S x.2=S' x.2)->l.foldl (BW S) c=l.foldl (BW S') c
 |[],c,_=>rfl
 |x::l,c,hl=>by
  simp only[foldl_cons]
  have:BW S c x=BW S' c x:=by
   unfold BW
   cases hx:x.1.2.2 with
   |false=>simp
   |true=>rw[hl x (by simp) hx]
  rw[this]
  exact GK l _ (fun y hy=>hl y (by simp[hy]))
theorem mem_zipIdx{items:List It}{x:It×Nat}(h:x∈items.zipIdx 0):items[x.2]?=some x.1:=by
 have:=List.mem_zipIdx h
 simp only[Nat.zero_add,Nat.sub_zero,Nat.zero_le,true_and] at this
 obtain⟨h1,h2⟩:=this
 rw[getElem?_eq_getElem h1,h2]
theorem envS_add{items:List It}{S:Nat->Bool}{env0:List D}{j:Nat}{it:It}(hj:items[j]?=some it)(hS:S j=false)(hlast:∀(i:Nat) (x:It),items[i]?=some x->S i=true->j<i->it.1=none∨x.1≠it.1):
  envS items (fun i=>S i||i==j) env0=AK (envS items S env0) it.1 it.2.1:=by
 have hjl:j<items.length:=(List.getElem?_eq_some_iff.1 hj).1
 have hsplit:items=items.take j++it::items.drop (j+1):=by
  have:items.drop j=it::items.drop (j+1):=by
   rw[drop_eq_getElem_cons hjl]
   congr 1
   exact(List.getElem?_eq_some_iff.1 hj).2
  rw[←this,take_append_drop]
 have hlen:(items.take j).length=j:=by simp;omega
 have hz:items.zipIdx 0=(items.take j).zipIdx 0++(it,j)::(items.drop (j+1)).zipIdx (j+1):=by
  conv=>lhs;rw[hsplit]
  rw[List.zipIdx_append,List.zipIdx_cons,hlen]
  simp
 unfold envS
 rw[hz,List.foldl_append,List.foldl_append,foldl_cons,foldl_cons]
 have e1:(items.take j).zipIdx.foldl (Cb fun i=>S i||i==j) env0=(items.take j).zipIdx.foldl (Cb S) env0:=by
  have:∀(l:List (It×Nat)) (e:List D),(∀x∈l,x.2≠j)->l.foldl (Cb fun i=>S i||i==j) e=l.foldl (Cb S) e:=by
   intro l
   induction l with
   |nil=>intro e _;rfl
   |cons x l ih=>
    intro e hl
    simp only[foldl_cons]
    have hx:=hl x (by simp)
    have:Cb (fun i=>S i||i==j) e x=Cb S e x:=by unfold Cb;simp[hx]
    rw[this];exact ih _ (fun y hy=>hl y (by simp[hy]))
  refine this _ _ (fun x hx=>?_)
  have:=(List.mem_zipIdx hx).2.1
  omega
 rw[e1]
 generalize (items.take j).zipIdx.foldl (Cb S) env0=E
 have s1:Cb (fun i=>S i||i==j) E (it,j)=AK E it.1 it.2.1:=by simp[Cb]
 have s2:Cb S E (it,j)=E:=by simp[Cb,hS]
 rw[s1,s2]
 -- what follows does not touch the slot
 have later:∀(l:List (It×Nat)) (e:List D),(∀x∈l,x.2≠j/\(S x.2=true->it.1=none∨x.1.1≠it.1))->l.foldl (Cb fun i=>S i||i==j) (AK e it.1 it.2.1)=AK (l.foldl (Cb S) e) it.1 it.2.1:=by
  intro l
  induction l with
  |nil=>intro e _;rfl
  |cons x l ih=>
   intro e hl
   simp only[foldl_cons]
   obtain⟨hx,hd⟩:=hl x (by simp)
   have hh:Cb (fun i=>S i||i==j) (AK e it.1 it.2.1) x=AK (Cb S e x) it.1 it.2.1:=by
    unfold Cb
    have hxj:(x.2==j)=false:=by simpa using hx
    simp only[hxj,Bool.or_false]
    split
    ·rename_i hs
     rcases hd hs with h|h
     ·rw[h];simp[AK]
     ·cases h1:it.1 with
      |none=>simp[AK]
      |some t=>
       cases h2:x.1.1 with
       |none=>simp[AK]
       |some t'=>
        simp only[AK]
        rw[h1,h2] at h
        have hne:t≠t':=fun e=>h (by rw[e])
        exact List.set_comm _ _ hne
    ·rfl
   rw[hh]
   exact ih _ (fun y hy=>hl y (by simp[hy]))
 refine later _ _ (fun x hx=>?_)
 have hm:=List.mem_zipIdx hx
 refine⟨by omega,fun hs=>hlast x.2 x.1 ?_ hs (by omega)⟩
 have h3:=hm.2.2
 have h4:=hm.2.1
 have h5:=hm.1
 rw[h3,List.getElem_drop]
 rw[getElem?_eq_getElem (by simp at h4;omega)]
 congr 2
 omega
theorem cntS_add{items:List It}{S:Nat->Bool}{j:Nat}{it:It}(hj:items[j]?=some it)(hS:S j=false):cntS items (fun i=>S i||i==j)=cntS items S+(if it.2.2 then 1 else 0):=by
 have hjl:j<items.length:=(List.getElem?_eq_some_iff.1 hj).1
 have hsplit:items=items.take j++it::items.drop (j+1):=by
  have:items.drop j=it::items.drop (j+1):=by
   rw[drop_eq_getElem_cons hjl]
   congr 1
   exact(List.getElem?_eq_some_iff.1 hj).2
  rw[←this,take_append_drop]
 have hlen:(items.take j).length=j:=by simp;omega
 have hz:items.zipIdx 0=(items.take j).zipIdx 0++(it,j)::(items.drop (j+1)).zipIdx (j+1):=by
  conv=>lhs;rw[hsplit]
  rw[List.zipIdx_append,List.zipIdx_cons,hlen]
  simp
 have same:∀(l:List (It×Nat)) (c:Nat),(∀x∈l,x.2≠j)->l.foldl (BW fun i=>S i||i==j) c=l.foldl (BW S) c:=by
  intro l
  induction l with
  |nil=>intro c _;rfl
  |cons x l ih=>
   intro c hl
   simp only[foldl_cons]
   have hx:=hl x (by simp)
   have:BW (fun i=>S i||i==j) c x=BW S c x:=by unfold BW;simp[hx]
   rw[this];exact ih _ (fun y hy=>hl y (by simp[hy]))
 have shift:∀(l:List (It×Nat)) (c d:Nat),l.foldl (BW S) (c+d)=l.foldl (BW S) c+d:=by
  intro l
  induction l with
  |nil=>intro c d;rfl
  |cons x l ih=>
   intro c d
   simp only[foldl_cons]
   have:BW S (c+d) x=BW S c x+d:=by unfold BW;split<;>omega
   rw[this,ih]
 unfold cntS
 rw[hz,List.foldl_append,List.foldl_append,foldl_cons,foldl_cons]
 rw[same (items.take j).zipIdx 0 (fun x hx=>by have:=(List.mem_zipIdx hx).2.1;omega)]
 generalize (items.take j).zipIdx.foldl (BW S) 0=c
 have s1:BW (fun i=>S i||i==j) c (it,j)=c+(if it.2.2 then 1 else 0):=by
  unfold BW;simp;split<;>rfl
 have s2:BW S c (it,j)=c:=by simp[BW,hS]
 rw[s1,s2,same _ _ (fun x hx=>by have:=(List.mem_zipIdx hx).1;omega),shift]
abbrev Ef:=Bool×Option Nat
def needs(ops:Array Oper)(i f:Nat):Bool:=((Ee [] ops.toList).getD i 0).testBit f
inductive F5 (P:Program) (ops:Array Oper) (sts:Bool->List St) (fr:Nat):List Oper->List D->Nat->List D->List Ef->List D->Nat->Prop
 |nil {env:List D} {j:Nat}:F5 P ops sts fr [] env j [] [] env j
 |skip {o:Oper} {rest:List Oper} {env env':List D} {j j':Nat} {vals:List D} {effs:List Ef} (hne:ops.size- (rest.length+1)≠fr) (hw:B7 env ops o=some false) (h:F5 P ops sts fr rest (AK env o.dst (.tup [])) j vals effs env' j'):
   F5 P ops sts fr (o::rest) env j (.tup []::vals) ((false,none)::effs) env' j'
 |quiet {o:Oper} {rest:List Oper} {env env':List D} {j j':Nat} {vals:List D} {effs:List Ef} {d:D} (hne:ops.size- (rest.length+1)≠fr) (hw:B7 env ops o=some true) (ho:∀b,∀s∈sts b,Ai P o (DY env o) s d s) (h:F5 P ops sts fr rest (AK env o.dst d) j vals effs env' j'):
   F5 P ops sts fr (o::rest) env j (d::vals) ((false,none)::effs) env' j'
 |eff {o:Oper} {rest:List Oper} {env env':List D} {j j':Nat} {vals:List D} {effs:List Ef} {d:D} (hne:ops.size- (rest.length+1)≠fr) (hw:B7 env ops o=some true) (ho:∀b s,(sts b)[j]?=some s->(b=false->needs ops (ops.size- (rest.length+1)) fr=false)->∃s',(sts b)[j+1]?=some s'/\Ai P o (DY env o) s d s')
   (h:F5 P ops sts fr rest (AK env o.dst d) (j+1) vals effs env' j'):F5 P ops sts fr (o::rest) env j (d::vals) ((true,none)::effs) env' j'
 |quietW {o:Oper} {rest:List Oper} {env env':List D} {j j':Nat} {vals:List D} {effs:List Ef} {d:D} (lim:Nat) (hne:ops.size- (rest.length+1)≠fr) (hw:B7 env ops o=some true) (ho:∀(b:Bool) (c:Nat) (s:St),c<=lim->(sts b)[c]?=some s->Ai P o (DY env o) s d s) (h:F5 P ops sts fr rest (AK env o.dst d) j vals effs env' j'):
   F5 P ops sts fr (o::rest) env j (d::vals) ((false,some lim)::effs) env' j'
 |free {o:Oper} {rest:List Oper} {env env':List D} {j j':Nat} {vals:List D} {effs:List Ef} {d:D} (hf:fr=ops.size- (rest.length+1)) (hw:B7 env ops o=some true) (ho:∀(c:Nat) (s:St),(sts false)[c]?=some s->∃s',(sts true)[c]?=some s'/\Ai P o (DY env o) s d s') (h:F5 P ops sts fr rest (AK env o.dst d) j vals effs env' j'):
   F5 P ops sts fr (o::rest) env j (d::vals) ((false,none)::effs) env' j'
def A4:List Oper->List D->List Ef->List It
 |o::os,d::ds,b::bs=>(o.dst,d,b.1)::A4 os ds bs
 |_,_,_=>[]
def Gz(items:List It)(env0:List D):List D:=items.foldl (fun e it=>AK e it.1 it.2.1) env0
def cntA(items:List It):Nat:=items.foldl (fun c it=>if it.2.2 then c+1 else c) 0
theorem FH(items:List It)(it:It)(env0:List D):Gz (items++[it]) env0=AK (Gz items env0) it.1 it.2.1:=by simp[Gz]
theorem FJ(items:List It)(it:It):cntA (items++[it])=cntA items+if it.2.2 then 1 else 0:=by simp[cntA];split<;>rfl
def Fact(P:Program)(ops:Array Oper)(sts:Bool->List St)(fr:Nat)(items:List It)(lims:List Ef)(env0:List D)(i:Nat)(o:Oper):Prop:=
 ∃d b,items[i]?=some (o.dst,d,b)/\
  ((B7 (Gz (items.take i) env0) ops o=some false/\d=.tup []/\b=false/\i≠fr)∨
   (B7 (Gz (items.take i) env0) ops o=some true/\b=false/\i≠fr/\∀(b:Bool) (c:Nat) (s:St),(sts b)[c]?=some s->(∀lim,(lims[i]?).bind (·.2)=some lim->c<=lim)->Ai P o (DY (Gz (items.take i) env0) o) s d s)∨
   (B7 (Gz (items.take i) env0) ops o=some true/\b=true/\i≠fr/\∀bb s,(sts bb)[cntA (items.take i)]?=some s->(bb=false->needs ops i fr=false)->∃s',(sts bb)[cntA (items.take i)+1]?=some s'/\Ai P o (DY (Gz (items.take i) env0) o) s d s')∨
   (B7 (Gz (items.take i) env0) ops o=some true/\b=false/\i=fr/\∀(c:Nat) (s:St),(sts false)[c]?=some s->∃s',(sts true)[c]?=some s'/\Ai P o (DY (Gz (items.take i) env0) o) s d s'))
theorem F5.facts{P:Program}{ops:Array Oper}{sts:Bool->List St}{fr:Nat}{rest:List Oper}{env env':List D}{j j':Nat}{vals:List D}{effs:List Ef}(h:F5 P ops sts fr rest env j vals effs env' j'):
  ∀(pre:List It) (pe:List Ef) (env0:List D),pe.length=pre.length->pre.length+rest.length=ops.size->env=Gz pre env0->j=cntA pre->
   (∀k o,rest[k]?=some o->Fact P ops sts fr (pre++A4 rest vals effs) (pe++effs) env0 (pre.length+k) o)/\env'=Gz (pre++A4 rest vals effs) env0/\j'=cntA (pre++A4 rest vals effs)/\(A4 rest vals effs).length=rest.length/\effs.map (·.1)=(A4 rest vals effs).map (·.2.2):=by
 induction h with
 |nil=>intro pre pe env0 hp hl he hj;simp[A4,he,hj]
 | @skip o rest env env' j j' vals effs hne hw h ih=>
  intro pre pe env0 hp hl he hj
  have hidx:ops.size- (rest.length+1)=pre.length:=by simp at hl;omega
  obtain⟨f1,f2,f3,f4,f5⟩:=ih (pre++[(o.dst,D.tup [],false)]) (pe++[((false,none):Ef)]) env0 (by simp[hp]) (by simp at hl⊢;omega) (by rw[FH,he]) (by rw[FJ,hj];simp)
  have hap:pre++[(o.dst,D.tup [],false)]++A4 rest vals effs=pre++A4 (o::rest) (.tup []::vals) (((false,none):Ef)::effs):=by simp[A4]
  have hap2:pe++[((false,none):Ef)]++effs=pe++((false,none):Ef)::effs:=by simp
  rw[hap] at f1 f2 f3
  rw[hap2] at f1
  refine⟨fun k o' hk=>?_,f2,f3,by simp[A4,f4],by simp only[A4,map_cons];rw[←f5]⟩
  cases k with
  |zero=>
   simp at hk;subst hk
   have hat:(pe++((false,none):Ef)::effs)[pre.length+0]?=some ((false,none):Ef):=by rw[Nat.add_zero, ←hp];simp
   rw[hidx] at hne
   refine⟨.tup [],false,by simp[A4],.inl ⟨?_,rfl,rfl,hne⟩⟩
   simp only[Nat.add_zero,take_left, ←he];exact hw
  |succ k=>
   have:=f1 k o' (by simpa using hk)
   simp only[length_append,List.length_singleton] at this
   rw[show pre.length+(k+1)=pre.length+1+k by omega];exact this
 | @quiet o rest env env' j j' vals effs d hne hw ho h ih=>
  intro pre pe env0 hp hl he hj
  have hidx:ops.size- (rest.length+1)=pre.length:=by simp at hl;omega
  obtain⟨f1,f2,f3,f4,f5⟩:=ih (pre++[(o.dst,d,false)]) (pe++[((false,none):Ef)]) env0 (by simp[hp]) (by simp at hl⊢;omega) (by rw[FH,he]) (by rw[FJ,hj];simp)
  have hap:pre++[(o.dst,d,false)]++A4 rest vals effs=pre++A4 (o::rest) (d::vals) (((false,none):Ef)::effs):=by simp[A4]
  have hap2:pe++[((false,none):Ef)]++effs=pe++((false,none):Ef)::effs:=by simp
  rw[hap] at f1 f2 f3
  rw[hap2] at f1
  refine⟨fun k o' hk=>?_,f2,f3,by simp[A4,f4],by simp only[A4,map_cons];rw[←f5]⟩
  cases k with
  |zero=>
   simp at hk;subst hk
   have hat:(pe++((false,none):Ef)::effs)[pre.length+0]?=some ((false,none):Ef):=by rw[Nat.add_zero, ←hp];simp
   rw[hidx] at hne
   refine⟨d,false,by simp[A4],.inr (.inl ⟨?_,rfl,hne,?_⟩)⟩
   ·simp only[Nat.add_zero,take_left, ←he];exact hw
   ·simp only[Nat.add_zero,take_left, ←he];exact fun b c s hs _=>ho b s (mem_of_getElem? hs)
  |succ k=>
   have:=f1 k o' (by simpa using hk)
   simp only[length_append,List.length_singleton] at this
   rw[show pre.length+(k+1)=pre.length+1+k by omega];exact this
 | @eff o rest env env' j j' vals effs d hne hw ho h ih=>
  intro pre pe env0 hp hl he hj
  have hidx:ops.size- (rest.length+1)=pre.length:=by simp at hl;omega
  obtain⟨f1,f2,f3,f4,f5⟩:=ih (pre++[(o.dst,d,true)]) (pe++[((true,none):Ef)]) env0 (by simp[hp]) (by simp at hl⊢;omega) (by rw[FH,he]) (by rw[FJ,hj];simp)
  have hap:pre++[(o.dst,d,true)]++A4 rest vals effs=pre++A4 (o::rest) (d::vals) (((true,none):Ef)::effs):=by simp[A4]
  have hap2:pe++[((true,none):Ef)]++effs=pe++((true,none):Ef)::effs:=by simp
  rw[hap] at f1 f2 f3
  rw[hap2] at f1
  refine⟨fun k o' hk=>?_,f2,f3,by simp[A4,f4],by simp only[A4,map_cons];rw[←f5]⟩
  cases k with
  |zero=>
   simp at hk;subst hk
   have hat:(pe++((true,none):Ef)::effs)[pre.length+0]?=some ((true,none):Ef):=by rw[Nat.add_zero, ←hp];simp
   rw[hidx] at hne ho
   refine⟨d,true,by simp[A4],.inr (.inr (.inl ⟨?_,rfl,hne,?_⟩))⟩
   ·simp only[Nat.add_zero,take_left, ←he];exact hw
   ·simp only[Nat.add_zero,take_left, ←hj, ←he];exact ho
  |succ k=>
   have:=f1 k o' (by simpa using hk)
   simp only[length_append,List.length_singleton] at this
   rw[show pre.length+(k+1)=pre.length+1+k by omega];exact this
 | @quietW o rest env env' j j' vals effs d lim hne hw ho h ih=>
  intro pre pe env0 hp hl he hj
  have hidx:ops.size- (rest.length+1)=pre.length:=by simp at hl;omega
  obtain⟨f1,f2,f3,f4,f5⟩:=ih (pre++[(o.dst,d,false)]) (pe++[((false,some lim):Ef)]) env0 (by simp[hp]) (by simp at hl⊢;omega) (by rw[FH,he]) (by rw[FJ,hj];simp)
  have hap:pre++[(o.dst,d,false)]++A4 rest vals effs=pre++A4 (o::rest) (d::vals) (((false,some lim):Ef)::effs):=by simp[A4]
  have hap2:pe++[((false,some lim):Ef)]++effs=pe++((false,some lim):Ef)::effs:=by simp
  rw[hap] at f1 f2 f3
  rw[hap2] at f1
  refine⟨fun k o' hk=>?_,f2,f3,by simp[A4,f4],by simp only[A4,map_cons];rw[←f5]⟩
  cases k with
  |zero=>
   simp at hk;subst hk
   have hat:(pe++((false,some lim):Ef)::effs)[pre.length+0]?=some ((false,some lim):Ef):=by rw[Nat.add_zero, ←hp];simp
   rw[hidx] at hne
   refine⟨d,false,by simp[A4],.inr (.inl ⟨?_,rfl,hne,?_⟩)⟩
   ·simp only[Nat.add_zero,take_left, ←he];exact hw
   ·rw[hat]
    simp only[Nat.add_zero,take_left, ←he]
    exact fun b c s hs hc=>ho b c s (hc lim rfl) hs
  |succ k=>
   have:=f1 k o' (by simpa using hk)
   simp only[length_append,List.length_singleton] at this
   rw[show pre.length+(k+1)=pre.length+1+k by omega];exact this
 | @free o rest env env' j j' vals effs d hf hw ho h ih=>
  intro pre pe env0 hp hl he hj
  have hidx:ops.size- (rest.length+1)=pre.length:=by simp at hl;omega
  obtain⟨f1,f2,f3,f4,f5⟩:=ih (pre++[(o.dst,d,false)]) (pe++[((false,none):Ef)]) env0 (by simp[hp]) (by simp at hl⊢;omega) (by rw[FH,he]) (by rw[FJ,hj];simp)
  have hap:pre++[(o.dst,d,false)]++A4 rest vals effs=pre++A4 (o::rest) (d::vals) (((false,none):Ef)::effs):=by simp[A4]
  have hap2:pe++[((false,none):Ef)]++effs=pe++((false,none):Ef)::effs:=by simp
  rw[hap] at f1 f2 f3
  rw[hap2] at f1
  refine⟨fun k o' hk=>?_,f2,f3,by simp[A4,f4],by simp only[A4,map_cons];rw[←f5]⟩
  cases k with
  |zero=>
   simp at hk;subst hk
   have hat:(pe++((false,none):Ef)::effs)[pre.length+0]?=some ((false,none):Ef):=by rw[Nat.add_zero, ←hp];simp
   rw[hidx] at hf
   refine⟨d,false,by simp[A4],.inr (.inr (.inr ⟨?_,rfl,hf.symm,?_⟩))⟩
   ·simp only[Nat.add_zero,take_left, ←he];exact hw
   ·simp only[Nat.add_zero,take_left, ←he];exact ho
  |succ k=>
   have:=f1 k o' (by simpa using hk)
   simp only[length_append,List.length_singleton] at this
   rw[show pre.length+(k+1)=pre.length+1+k by omega];exact this
theorem envS_lt(items:List It)(i:Nat)(env0:List D):envS items (fun k=>decide (k<i)) env0=Gz (items.take i) env0:=by
 have gen:∀(l:List It) (s:Nat) (e:List D),(l.zipIdx s).foldl (Cb fun k=>decide (k<i)) e=(l.take (i-s)).foldl (fun e it=>AK e it.1 it.2.1) e:=by
  intro l
  induction l with
  |nil=>intro s e;simp
  |cons x l ih=>
   intro s e
   simp only[List.zipIdx_cons,foldl_cons]
   rw[ih]
   by_cases h:s<i
   ·rw[show i-s=(i- (s+1))+1 by omega,take_succ_cons,foldl_cons]
    simp[Cb,h]
   ·rw[show i-s=0 by omega,show i- (s+1)=0 by omega]
    simp[Cb,h]
 simpa[envS,Gz] using gen items 0 env0
theorem cntS_lt(items:List It)(i:Nat):cntS items (fun k=>decide (k<i))=cntA (items.take i):=by
 have gen:∀(l:List It) (s c:Nat),(l.zipIdx s).foldl (BW fun k=>decide (k<i)) c=(l.take (i-s)).foldl (fun c it=>if it.2.2 then c+1 else c) c:=by
  intro l
  induction l with
  |nil=>intro s e;simp
  |cons x l ih=>
   intro s e
   simp only[List.zipIdx_cons,foldl_cons]
   rw[ih]
   by_cases h:s<i
   ·rw[show i-s=(i- (s+1))+1 by omega,take_succ_cons,foldl_cons]
    simp[BW,h]
   ·rw[show i-s=0 by omega,show i- (s+1)=0 by omega]
    simp[BW,h]
 simpa[cntS,cntA] using gen items 0 0
theorem cntA_count(l:List It):cntA l=(l.map (·.2.2)).count true:=by
 have gen:∀(l:List It) (c:Nat),l.foldl (fun c it=>if it.2.2 then c+1 else c) c=c+(l.map (·.2.2)).count true:=by
  intro l
  induction l with
  |nil=>intro c;simp
  |cons x l ih=>
   intro c
   simp only[foldl_cons,map_cons]
   rw[ih]
   cases x.2.2<;>simp<;>omega
 simpa[cntA] using gen l 0
theorem cntS_le{items:List It}{S S':Nat->Bool}(h:∀(k:Nat) (x:It),items[k]?=some x->x.2.2=true->S k=true->S' k=true):cntS items S<=cntS items S':=by
 have gen:∀(l:List (It×Nat)) (c c':Nat),(∀x∈l,x.1.2.2=true->S x.2=true->S' x.2=true)->c<=c'->l.foldl (BW S) c<=l.foldl (BW S') c':=by
  intro l
  induction l with
  |nil=>intro c c' _ hc;exact hc
  |cons x l ih=>
   intro c c' hl hc
   simp only[foldl_cons]
   refine ih _ _ (fun y hy=>hl y (List.mem_cons_of_mem _ hy)) ?_
   have:=hl x List.mem_cons_self
   unfold BW
   cases hx:x.1.2.2<;>cases hs:S x.2<;>cases hs':S' x.2<;>simp_all<;>omega
 exact gen _ 0 0 (fun x hx=>h x.2 x.1 (mem_zipIdx hx)) (Nat.le_refl _)
def winOK(ops:Array Oper)(lims:List Ef):Bool:=
 (List.range lims.length).all fun i=>
  match (lims[i]?).bind (·.2) with
  |none=>true
  |some lim=>(List.range lims.length).any fun e=>(lims.map (·.1)).getD e false&&decide (((lims.map (·.1)).take e).count true=lim)&&((Ee [] ops.toList).getD e 0).testBit i
def GM(ops:Array Oper)(lims:List Ef):Bool:=regOK ops (lims.map (·.1))&&winOK ops lims
theorem evDs_congr{ops:Array Oper}{o:Oper}{env env':List D}(h:∀t∈FY ops o,env[t]?=env'[t]?):DY env o=DY env' o:=by
 unfold DY
 refine List.map_congr_left fun x hx=>?_
 cases x with
 |tmp t=>
  have:=h t (by
   unfold FY
   exact mem_append.2 (.inl (List.mem_filterMap.2 ⟨.tmp t,hx,rfl⟩)))
  simp[evD,getD_eq_getElem?_getD,this]
 |_=>rfl
theorem wantD_congr{ops:Array Oper}{o:Oper}{env env':List D}(h:∀t∈FY ops o,env[t]?=env'[t]?):B7 env ops o=B7 env' ops o:=by
 unfold B7
 cases hg:o.guard with
 |none=>rfl
 |some p=>
  obtain⟨j,want⟩:=p
  simp only
  cases hj:(ops[j]?).bind (·.dst) with
  |none=>rfl
  |some t=>
   have:=h t (by unfold FY;rw[hg];simp[hj])
   simp[this]
section
variable {C : Ent -> Ent -> Prop} {P : Program} {R : List D -> St -> Prop} {k : List KI} {env : List D} {σ : St}
theorem wpAny_draw{ops:Array Oper}{sts:Bool->List St}{fr:Nat}{items:List It}{effs:List Bool}{lims:List Ef}{env0:List D}{Q:Exit->Act->World->Prop}{E:Ent}{J:Gh->Prop}(hJ:∀g g':Gh,g.le g'->J g->J g')(hreg:regOK ops effs=true)(hwin:winOK ops lims=true)(hle:effs=lims.map (·.1))(hlen:items.length=ops.size)(heff:effs=items.map (·.2.2))
  (hfact:∀i o,ops[i]?=some o->Fact P ops sts fr items lims env0 i o)
  (hfin:∀g a w,J g->(∃s,(sts (decide (fr<ops.size)))[cntA items]?=some s/\FI E g s (Gz items env0) a w)->Q .normal a w):
  ∀(fuel:Nat) (listed:Array Bool) (a:Act) (w:World) (g:Gh) (s:St),listed.size=ops.size->DC ops (fun i=>listed.getD i false)->
   ((List.range ops.size).filter fun i=> !listed.getD i false).length=fuel->
   (sts (listed.getD fr false))[cntS items (fun i=>listed.getD i false)]?=some s->J g->FI E g s (envS items (fun i=>listed.getD i false) env0) a w->wpAny P .any ops Q fuel listed a w:=by
 -- nothing is ready:all are listed
 have done_:∀(listed:Array Bool),listed.size=ops.size->Region.ready .any ops listed=[]->∀i,i<ops.size->listed.getD i false=true:=by
  intro listed hsz hr i
  induction i using Nat.strongRecOn with
  |_ i ih=>
   intro hi
   cases hl:listed.getD i false with
   |true=>rfl
   |false=>
    exfalso
    have hmem:i∈Region.ready .any ops listed:=by
     unfold Region.ready
     rw[List.mem_filter]
     refine⟨by simpa using hi,?_⟩
     have ho:ops[i]?=some ops[i]:=by simp[hi]
     have hl':listed.getD i true=false:=by
      rw[Array.getD_eq_getD_getElem?] at hl⊢
      have:listed[i]?=some listed[i]:=by simp[hsz,hi]
      rw[this] at hl⊢;exact hl
     rw[ho]
     simp only[hl',Bool.not_false,Bool.true_and,Option.map_some,Option.getD_some]
     rw[Array.all_eq_true_iff_forall_mem]
     intro e he
     cases hb:Region.binds .any e with
     |false=>simp
     |true=>
      have hlt:=regOK_edge hreg ho e he hb
      simp[ih e.on hlt (by omega)]
    rw[hr] at hmem
    simp at hmem
 have finish:∀(listed:Array Bool) (a:Act) (w:World) (g:Gh) (s:St),listed.size=ops.size->(∀i,i<ops.size->listed.getD i false=true)->(sts (listed.getD fr false))[cntS items (fun i=>listed.getD i false)]?=some s->
   J g->FI E g s (envS items (fun i=>listed.getD i false) env0) a w->Q .normal a w:=by
  intro listed a w g s hsz hall hs hj hf
  have e1:envS items (fun i=>listed.getD i false) env0=Gz items env0:=by
   have:=envS_lt items ops.size env0
   rw[take_of_length_le (by omega)] at this
   rw[←this]
   apply ext_getElem?
   intro t
   refine GJ _ _ _ (fun x hx _=>?_) rfl
   have hx2:=(List.getElem?_eq_some_iff.1 (mem_zipIdx hx)).1
   rw[hall x.2 (by omega)];simp;omega
  have e2:cntS items (fun i=>listed.getD i false)=cntA items:=by
   have:=cntS_lt items ops.size
   rw[take_of_length_le (by omega)] at this
   rw[←this]
   refine GK _ _ (fun x hx _=>?_)
   have hx2:=(List.getElem?_eq_some_iff.1 (mem_zipIdx hx)).1
   rw[hall x.2 (by omega)];simp;omega
  have e3:listed.getD fr false=decide (fr<ops.size):=by
   by_cases hfr:fr<ops.size
   ·rw[hall fr hfr];simp[hfr]
   ·rw[Array.getD_eq_getD_getElem?,Array.getElem?_eq_none (by omega)];simp[hfr]
  rw[e1] at hf
  rw[e2,e3] at hs
  exact hfin g a w hj ⟨s,hs,hf⟩
 intro fuel
 induction fuel with
 |zero=>
  intro listed a w g s hsz hdc hcount hs hj hf
  have hall:∀i,i<ops.size->listed.getD i false=true:=by
   intro i hi
   cases hl:listed.getD i false with
   |true=>rfl
   |false=>
    have hm:i∈ (List.range ops.size).filter fun i=> !listed.getD i false:=List.mem_filter.2 ⟨by simpa using hi,by simp[hl]⟩
    have hnil:=List.eq_nil_of_length_eq_zero hcount
    rw[hnil] at hm
    simp at hm
  refine⟨?_,finish listed a w g s hsz hall hs hj hf⟩
  unfold Region.ready
  rw[List.filter_eq_nil_iff]
  intro i hi
  have hi':i<ops.size:=by simpa using hi
  have:=hall i hi'
  have ht:listed.getD i true=true:=by
   rw[Array.getD_eq_getD_getElem?] at this⊢
   have h':listed[i]?=some listed[i]:=by simp[hsz,hi']
   rw[h'] at this⊢;exact this
  simp[ht]
 |succ fuel ih=>
  intro listed a w g s hsz hdc hcount hs hj hf
  refine⟨fun hr=>finish listed a w g s hsz (done_ listed hsz hr) hs hj hf,fun i hi=>?_⟩
  -- an operation that is ready
  unfold Region.ready at hi
  rw[List.mem_filter] at hi
  obtain⟨hi1,hi2⟩:=hi
  have hi':i<ops.size:=by simpa using hi1
  have ho:ops[i]?=some ops[i]:=by simp[hi']
  generalize hoo:ops[i]=o at ho
  rw[ho] at hi2
  simp only[Bool.and_eq_true,Bool.not_eq_true',Option.map_some,Option.getD_some] at hi2
  obtain⟨hnl,hall⟩:=hi2
  have hnl':listed.getD i false=false:=by
   rw[Array.getD_eq_getD_getElem?] at hnl⊢
   have h':listed[i]?=some listed[i]:=by simp[hsz,hi']
   rw[h'] at hnl⊢;exact hnl
  have hready:∀e∈o.after,Region.binds .any e=true->listed.getD e.on false=true:=by
   intro e he hb
   have:=Array.all_eq_true_iff_forall_mem.1 hall e he
   simpa[hb] using this
  have hpre:=ready_before hdc ho hready
  have hpost:=fun(j:Nat) (hs:listed.getD j false=true)=>listed_before (S:=fun i=>listed.getD i false) hdc hs
  obtain⟨d,b,hit,hcase⟩:=hfact i o ho
  have hil:i<items.length:=by omega
  -- every other operation that shares a slot is ordered with it
  have opAt:∀(k:Nat) (x:It),items[k]?=some x->∃ok,ops[k]?=some ok/\x.1=ok.dst:=by
   intro k x hk
   have hkl:k<ops.size:=by have:=(List.getElem?_eq_some_iff.1 hk).1;omega
   have hok:ops[k]?=some ops[k]:=by simp[hkl]
   obtain⟨d',b',h1,_⟩:=hfact k _ hok
   rw[hk] at h1
   simp at h1
   exact⟨_,hok,by rw[h1]⟩
  have lt_listed:∀(k:Nat) (ok:Oper),ops[k]?=some ok->k<i->(confl ops ok o=true∨(effs.getD k false=true/\effs.getD i false=true))->listed.getD k false=true:=
   fun k ok hk hlt hc=>hpre k (regOK_ord hreg hk ho hlt hc)
  have gt_not:∀(k:Nat) (ok:Oper),ops[k]?=some ok->i<k->(confl ops o ok=true∨(effs.getD i false=true/\effs.getD k false=true))->listed.getD k false=false:=by
   intro k ok hk hlt hc
   cases hl:listed.getD k false with
   |false=>rfl
   |true=>
    have:=hpost k hl i (regOK_ord hreg ho hk hlt hc)
    simp only[hnl'] at this
    exact absurd this (by simp)
  have agree:∀t∈FY ops o,(envS items (fun i=>listed.getD i false) env0)[t]?=(Gz (items.take i) env0)[t]?:=by
   intro t ht
   rw[←envS_lt]
   refine GJ _ _ _ (fun x hx hxt=>?_) rfl
   have hx2:=mem_zipIdx hx
   obtain⟨ok,hok,hdst⟩:=opAt x.2 x.1 hx2
   rw[hdst] at hxt
   rcases Nat.lt_trichotomy x.2 i with h|h|h
   ·rw[lt_listed x.2 ok hok h (.inl (by unfold confl;simp[hxt,ht]))];simp[h]
   ·rw[h,hnl'];simp
   ·rw[gt_not x.2 ok hok h (.inl (by unfold confl;simp[hxt,ht]))];simp;omega
  have hlast:∀(k:Nat) (x:It),items[k]?=some x->listed.getD k false=true->i<k->o.dst=none∨x.1≠o.dst:=by
   intro k x hk hl hlt
   cases hd:o.dst with
   |none=>exact .inl rfl
   |some t=>
    refine .inr fun e=>?_
    obtain⟨ok,hok,hdst⟩:=opAt k x hk
    have:=gt_not k ok hok hlt (.inl (by unfold confl;simp[hd, ←hdst,e]))
    rw[this] at hl
    simp at hl
  have hadd:=envS_add (S:=fun i=>listed.getD i false) (env0:=env0) hit hnl' hlast
  have hcadd:=cntS_add (S:=fun i=>listed.getD i false) hit hnl'
  have hS':(fun k=>(listed.setIfInBounds i true).getD k false)=fun k=>listed.getD k false||k==i:=by
   funext k
   simp only[Array.getD_eq_getD_getElem?,Array.getElem?_setIfInBounds]
   by_cases hk:i=k
   ·subst hk;simp[hsz,hi']
   ·simp[hk,Ne.symm hk]
  have hcnt':((List.range ops.size).filter fun k=> !(listed.setIfInBounds i true).getD k false).length=fuel:=by
   have e1:(List.range ops.size).filter (fun k=> !(listed.setIfInBounds i true).getD k false)=((List.range ops.size).filter fun k=> !listed.getD k false).filter (fun k=>k !=i):=by
    rw[List.filter_filter]
    refine List.filter_congr fun k _=>?_
    have:=congrFun hS' k
    rw[this]
    cases listed.getD k false<;>cases hk:(k==i)<;>simp_all
   rw[e1]
   have hnd:((List.range ops.size).filter fun k=> !listed.getD k false).Nodup:=List.filter_sublist.nodup List.nodup_range
   have hm:i∈ (List.range ops.size).filter fun k=> !listed.getD k false:=List.mem_filter.2 ⟨hi1,by simp[hnl']⟩
   have hf1:=hnd.erase_eq_filter i
   rw[←hf1,List.length_erase_of_mem hm,hcount];rfl
  have hdc':DC ops (fun k=>(listed.setIfInBounds i true).getD k false):=by
   rw[hS']
   intro k ok hk hsk e he hb
   simp only[Bool.or_eq_true,beq_iff_eq] at hsk⊢
   rcases hsk with hsk|rfl
   ·exact .inl (hdc k ok hk hsk e he hb)
   ·rw[ho] at hk;simp at hk;subst hk
    exact .inl (hready e he hb)
  -- the count of effects so far
  have hcb:b=true->cntS items (fun k=>listed.getD k false)=cntA (items.take i):=by
   intro hbt
   rw[←cntS_lt]
   have hei:effs.getD i false=true:=by rw[heff,getD_eq_getElem?_getD,getElem?_map,hit];simp[hbt]
   refine GK _ _ (fun x hx hxb=>?_)
   have hx2:=mem_zipIdx hx
   obtain⟨ok,hok,_⟩:=opAt x.2 x.1 hx2
   have hex:effs.getD x.2 false=true:=by rw[heff,getD_eq_getElem?_getD,getElem?_map,hx2];simp[hxb]
   rcases Nat.lt_trichotomy x.2 i with h|h|h
   ·rw[lt_listed x.2 ok hok h (.inr ⟨hex,hei⟩)];simp[h]
   ·rw[h,hnl'];simp
   ·rw[gt_not x.2 ok hok h (.inr ⟨hei,hex⟩)];simp;omega
  have hw:=wantD_congr agree
  have hev:=evDs_congr agree
  have next:∀(g':Gh) (a':Act) (w':World) (s':St),(sts ((listed.setIfInBounds i true).getD fr false))[cntS items (fun k=>(listed.setIfInBounds i true).getD k false)]?=some s'->J g'->FI E g' s' (AK (envS items (fun k=>listed.getD k false) env0) o.dst d) a' w'->wpAny P .any ops Q fuel (listed.setIfInBounds i true) a' w':=by
   intro g' a' w' s' hs' hj' hf'
   refine ih _ a' w' g' s' (by simp[hsz]) hdc' hcnt' hs' hj' ?_
   rw[hS',hadd];exact hf'
  unfold wpOp
  rw[ho]
  simp only
  have hflag:i≠fr->(listed.setIfInBounds i true).getD fr false=listed.getD fr false:=by
   intro hne
   have:=congrFun hS' fr
   rw[this]
   have:(fr==i)=false:=by simpa using Ne.symm hne
   rw[this,Bool.or_false]
  rcases hcase with⟨hwant,rfl,rfl,hne⟩|⟨hwant,rfl,hne,hop⟩|⟨hwant,rfl,hne,hop⟩|⟨hwant,rfl,hfr,hop⟩
  ·rw[if_neg (by rw[Ch hf.env (hw.trans hwant)];simp)]
   refine next g _ w s ?_ hj (hf.put hf.wi g.le_refl (repD_undef g) o.dst)
   rw[hflag hne,hS',hcadd];simpa using hs
  ·rw[if_pos (Ch hf.env (hw.trans hwant))]
   refine .inl ?_
   rw[←hev] at hop
   have hlim:∀lim,(lims[i]?).bind (·.2)=some lim->cntS items (fun k=>listed.getD k false)<=lim:=by
    intro lim hlm
    have hil2:i<lims.length:=by
     have:lims.length=items.length:=by have:=congrArg length (hle.symm.trans heff);simpa using this
     omega
    have h1:=all_eq_true.1 hwin i (by simpa using hil2)
    rw[hlm] at h1
    obtain⟨e,_,h2⟩:=List.any_eq_true.1 h1
    simp only[Bool.and_eq_true,decide_eq_true_eq, ←hle] at h2
    obtain⟨⟨h3,h4⟩,h5⟩:=h2
    have hnote:listed.getD e false=false:=by
     cases hl:listed.getD e false with
     |false=>rfl
     |true=>have:=hpost e hl i h5;simp only[hnl'] at this;exact absurd this (by simp)
    rw[heff, ←List.map_take, ←cntA_count] at h4
    rw[←h4, ←cntS_lt]
    refine cntS_le fun k x hk hx hS=>?_
    obtain⟨ok,hok,_⟩:=opAt k x hk
    have hex:effs.getD k false=true:=by rw[heff,getD_eq_getElem?_getD,getElem?_map,hk];simp[hx]
    rcases Nat.lt_trichotomy k e with h|h|h
    ·simp[h]
    ·subst h;simp only[hnote] at hS;exact absurd hS (by simp)
    ·have hek:e<ops.size:=by have:=(Array.getElem?_eq_some_iff.1 hok).1;omega
     have:=hpost k hS e (regOK_ord hreg (show ops[e]?=some ops[e] by simp[hek]) hok h (.inr ⟨h3,hex⟩))
     simp only[hnote] at this;exact absurd this (by simp)
   refine hop _ _ s hs hlim E g a w _ _ hf.wi (E2 hf.wi.rep.gl hf.env _) fun g' w' u h1 h2 h3=>?_
   refine next g' _ w' s ?_ (hJ g g' h2 hj) (hf.put h1 h2 h3 o.dst)
   rw[hflag hne,hS',hcadd];simpa using hs
  ·rw[if_pos (Ch hf.env (hw.trans hwant))]
   refine .inl ?_
   rw[hcb rfl] at hs
   rw[←hev] at hop
   obtain⟨s2,hs2,hop2⟩:=hop _ s hs (fun hb=>by
    cases hn:needs ops i fr with
    |false=>rfl
    |true=>have:=hpre fr hn;rw[hb] at this;exact absurd this (by simp))
   refine hop2 E g a w _ _ hf.wi (E2 hf.wi.rep.gl hf.env _) fun g' w' u h1 h2 h3=>?_
   refine next g' _ w' s2 ?_ (hJ g g' h2 hj) (hf.put h1 h2 h3 o.dst)
   rw[hflag hne,hS',hcadd,hcb rfl];simpa using hs2
  ·rw[if_pos (Ch hf.env (hw.trans hwant))]
   refine .inl ?_
   rw[←hfr,hnl'] at hs
   rw[←hev] at hop
   obtain⟨s2,hs2,hop2⟩:=hop _ s hs
   refine hop2 E g a w _ _ hf.wi (E2 hf.wi.rep.gl hf.env _) fun g' w' u h1 h2 h3=>?_
   refine next g' _ w' s2 ?_ (hJ g g' h2 hj) (hf.put h1 h2 h3 o.dst)
   have hset:(listed.setIfInBounds i true).getD fr false=true:=by
    have:=congrFun hS' fr
    rw[this, ←hfr];simp
   rw[hset,hS',hcadd];simpa using hs2
theorem draw_core{id:Nat}{ops:Array Oper}{E:Ent}{J:Gh->Prop}(hJ:∀g g':Gh,g.le g'->J g->J g'){B:Exit->Act->World->Prop}{g:Gh}{a:Act}{w:World}(hm:P.follows .mixedOrders=true)(sts:Bool->List St)(fr:Nat){vals:List D}{effs:List Ef}{env':List D}{j':Nat}{σ':St}(h0:(sts false)[0]?=some σ)(hj:(sts (decide (fr<ops.size)))[j']?=some σ')
  (h:F5 P ops sts fr ops.toList env 0 vals effs env' j') (hreg:GM ops effs=true) (hfi:FI E g σ env a w) (hjg:J g) (hk:∀g' a' w',J g'->FI E g' σ' env' a' w'->KQ P B k .normal a' w'):KQ P B (.code (.region id ops true)::k) .normal a w:=by
 simp only[KQ]
 obtain⟨f1,f2,f3,f4,f5⟩:=h.facts [] [] env rfl (by simp) (by simp[Gz]) (by simp[cntA])
 simp only[nil_append,length_nil,Nat.zero_add] at f1 f2 f3
 have hreg1:regOK ops (effs.map (·.1))=true:=by unfold GM at hreg;rw[Bool.and_eq_true] at hreg;exact hreg.1
 have hreg2:winOK ops effs=true:=by unfold GM at hreg;rw[Bool.and_eq_true] at hreg;exact hreg.2
 clear hreg
 have f1':∀i o,ops[i]?=some o->Fact P ops sts fr (A4 ops.toList vals effs) effs env i o:=fun i o ho=>f1 i o (by rw[Array.getElem?_toList];exact ho)
 have f4':(A4 ops.toList vals effs).length=ops.size:=by rw[f4];simp
 refine wp_region_any hm ?_
 have hS0:(fun i=>(Array.replicate ops.size false).getD i false)=fun _=>false:=by
  funext i
  simp only[Array.getD_eq_getD_getElem?,Array.getElem?_replicate]
  split<;>rfl
 have he0:∀(l:List (It×Nat)) (e:List D),l.foldl (Cb fun _=>false) e=e:=by
  intro l;induction l with
  |nil=>intro e;rfl
  |cons x l ih=>intro e;simp only[foldl_cons];rw[show Cb (fun _=>false) e x=e from by simp[Cb]];exact ih e
 have hc0:∀(l:List (It×Nat)) (c:Nat),l.foldl (BW fun _=>false) c=c:=by
  intro l;induction l with
  |nil=>intro e;rfl
  |cons x l ih=>intro e;simp only[foldl_cons];rw[show BW (fun _=>false) e x=e from by simp[BW]];exact ih e
 have hfi':FI E g σ env a { w with drawn:=w.drawn+1 }:=⟨hfi.wi.drew,hfi.env,hfi.defers⟩
 obtain⟨es,hes⟩:∃es,es=effs.map (·.1):=⟨_,rfl⟩
 rw[←hes] at hreg1 f5
 refine wpAny_draw (sts:=sts) (fr:=fr) (items:=A4 ops.toList vals effs) (effs:=es) (lims:=effs) (env0:=env) (E:=E) hJ hreg1 hreg2 hes f4' f5 f1' (fun g' a' w' hj' hx=>?_) ops.size _ a _ g σ (by simp) ?_ ?_ ?_ hjg ?_
 ·obtain⟨s,hs,hf⟩:=hx
  rw[←f3,hj] at hs
  simp at hs;subst hs
  rw[←f2] at hf
  exact hk g' a' w' hj' hf
 ·intro i o _ hs
  rw[hS0] at hs
  simp at hs
 ·have:(List.range ops.size).filter (fun i=> !(Array.replicate ops.size false).getD i false)=List.range ops.size:=by
   rw[List.filter_eq_self]
   intro i _
   have:=congrFun hS0 i
   rw[this];rfl
  rw[this];simp
 ·have h0f:(Array.replicate ops.size false).getD fr false=false:=congrFun hS0 fr
  rw[hS0,h0f]
  simp only[cntS,hc0];exact h0
 ·rw[hS0]
  simp only[envS,he0];exact hfi'
theorem G7{id:Nat}{ops:Array Oper}(hm:P.follows .mixedOrders=true)(sts:Bool->List St)(fr:Nat){vals:List D}{effs:List Ef}{env':List D}{j':Nat}{σ':St}(h0:(sts false)[0]?=some σ)(hj:(sts (decide (fr<ops.size)))[j']?=some σ')
  (h:F5 P ops sts fr ops.toList env 0 vals effs env' j') (hreg:GM ops effs=true) (hk:A2 C P R k env' σ'):A2 C P R (.code (.region id ops true)::k) env σ:=fun E0 E _ _ _ B hC hfi hB=>
 draw_core (J:=fun _=>True) (fun _ _ _ _=>trivial) hm sts fr h0 hj h hreg hfi trivial fun g' a' w' _ hf=>hk E0 E g' a' w' B hC hf hB
end
end Go.Dv
