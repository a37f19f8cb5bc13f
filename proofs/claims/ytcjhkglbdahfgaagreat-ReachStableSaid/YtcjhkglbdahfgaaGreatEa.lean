/-
  A part of the proof.
-/
import Derived.Test.YtcjhkglbdahfgaaGreatDb
import Derived.Lib.AppendZeros
namespace Go.Nv
open Go.Dv
open List (all_eq_true append_assoc append_nil cons_append drop_eq_getElem_cons drop_of_length_le drop_zero ext_getElem? flatMap_cons flatten flatten_cons foldl_cons getD_eq_getElem?_getD getElem?_append_left getElem?_append_right getElem?_drop getElem?_eq_getElem getElem?_eq_none getElem?_map getElem?_set getElem?_take getElem?_toArray length length_append length_cons length_drop length_map length_nil length_pos_iff length_set length_take map map_append map_cons map_map map_nil mem_append mem_cons mem_map mem_of_getElem? mem_of_mem_drop mem_of_mem_take mem_or_eq_of_mem_set mem_singleton nil_append not_mem_nil replicate replicate_succ set_cons_succ set_cons_zero size_toArray take take_add_one take_append_drop take_left take_of_length_le take_succ_cons zipWith)
open Go.IntKind (wrap i64 u64)
abbrev vi(n:Int):V:=.int .i64 n
abbrev di(n:Int):D:=.v (.int .i64 n)
abbrev db(b:Bool):D:=.v (.bool b)
abbrev vb(c:UInt8):V:=.int .u8 c.toNat
abbrev ds(s:List UInt8):D:=.v (.str s)
abbrev nV:List V:=[]
abbrev iz(n:Int):Int:=n
inductive Hint where
 |x (v:V)                                  -- the element of a list
 |xs (v:V)                                 -- the same,of a size to be shown
 |y (c:UInt8)                              -- a byte of a string
 |c (d:D)                                  -- what a call returns (data)
 |ca (xs:List V) (d:D)                   -- the same;the arguments as the contract has them
 |c1 (os:List D) (d:D)                   -- a call that is handed one object:its cells behind
 |c1k (k k' sz:Nat) (os:List D) (xs:List V)  -- the same;it returns an owned list
 |ck (k k' sz:Nat) (xs:List V)           -- a call that returns an owned list
 |ckn (k k' sz:Nat) (xs:List V)          -- the same,handed nil
 |k                                          -- a truth value that is known
 |t
 |f
 |l (sl:List (Nat×Option D)) (σ:Option St)   -- a loop's head:what is known there
 |lo (sl:List (Nat×Option D)) (σ:St)   -- the same,with open cells
 |n                                          -- into a loop
 |m (d:D)                                  -- a cell
 |w                                          -- a write to an open place
 |ww                                         -- the same,of a struct
 |cs (σ:St)                                -- the state,seen otherwise
 |ct (t:Nat) (d:D) (σ:St)              -- a slot and the state,seen otherwise
 |oc (d:D) (σ:St)                        -- any call
 |gx (cs:List D) (H:List (Option (List D)))  -- a growing list is appended to,in a state that is not known whole
 |o (d:D) (σ:St)                         -- any operation
 |p (d:D)                                  -- any operation that leaves the state as it is
 |g                                          -- an empty literal that grows
 |ga (s:Nat)                               -- a list that grew,as an array
 |cj (j:Nat) (H:List (Option (List D))) (os:List D) (len:Nat)   -- a call that returns a new array
 |un (s:Nat)                               -- a slot's list is appended to no longer
 |dr (k:Nat)                               -- a list's right to be appended to is given up
 |fa (q:Nat) (ss:List Nat)               -- a struct or array becomes data,seen from some slots
 |f1 (q:Nat) (ss:List Nat)               -- a variable of one cell becomes data
 |fl (q s:Nat) (xs:List V)               -- a list of one-cell elements becomes data
 |q (r i:Nat)                              -- nothing before operation i of region r
 |cl (q j k sz:Nat)                        -- a cell's nil may be appended to
 |nw (s k sz:Nat)                          -- a slot's nil may be appended to
 |a (k:Nat)                                -- a list that is made may be appended to
 |s (sl:List (Nat×Option D))             -- the walk stops ahead of an operation
 |r
 |rn
 |ro
 |rd                                         -- a return of structs with lists of their own
inductive Sc:Type 1 where
 |z
 |e {A:Type} (f:A->Sc)
 |b (s t:Sc)
 |h (i:Hint) (s:Sc)
namespace Sc
abbrev x(v:V)(s:Sc):Sc:=.h (.x v) s
abbrev y(c:UInt8)(s:Sc):Sc:=.h (.y c) s
abbrev c(d:D)(s:Sc):Sc:=.h (.c d) s
abbrev ca(xs:List V)(d:D)(s:Sc):Sc:=.h (.ca xs d) s
abbrev c1(os:List D)(d:D)(s:Sc):Sc:=.h (.c1 os d) s
abbrev k(s:Sc):Sc:=.h .k s
abbrev t(s:Sc):Sc:=.h .t s
abbrev f(s:Sc):Sc:=.h .f s
abbrev a(k:Nat)(s:Sc):Sc:=.h (.a k) s
abbrev n(s:Sc):Sc:=.h .n s
abbrev m(d:D)(s:Sc):Sc:=.h (.m d) s
abbrev w(s:Sc):Sc:=.h .w s
abbrev q(r i:Nat)(h:Hint)(s:Sc):Sc:=.h (.q r i) (.h h s)
abbrev r:Sc:=.h .r .z
abbrev rn:Sc:=.h .rn .z
abbrev ro:Sc:=.h .ro .z
abbrev rd:Sc:=.h .rd .z
abbrev lo(sl:List (Nat×Option D))(σ:St):Sc:=.h (.lo sl σ) .z
abbrev l(sl:List (Nat×Option D)):Sc:=.h (.l sl none) .z
abbrev ls(sl:List (Nat×Option D))(σ:St):Sc:=.h (.l sl (some σ)) .z
end Sc
noncomputable def AM{α β:Type}(l:List α)(k:List α->β):β:=
 List.rec (motive:=fun _=>(List α->β)->β) (fun k=>k []) (fun a _ ih k=>ih fun r=>k (a::r)) l k
theorem AI{α β:Type}:∀(l:List α) (k:List α->β),AM l k=k l
 |[],_=>rfl
 |a::l,k=>by
  have h:AM (a::l) k=AM l fun r=>k (a::r):=rfl
  rw[h,AI l]
noncomputable def Co{α β:Type}(l:List α)(i:Nat)(x:α)(k:List α->β):β:=
 List.rec (motive:=fun _=>Nat->(List α->β)->β) (fun _ k=>k []) (fun a as ih i k=>Nat.rec (motive:=fun _=>β) (k (x::as)) (fun j _=>ih j fun r=>k (a::r)) i) l i k
theorem AR{α β:Type}(x:α):∀(l:List α) (i:Nat) (k:List α->β),Co l i x k=k (l.set i x)
 |[],_,_=>rfl
 |a::l,0,k=>rfl
 |a::l,i+1,k=>by
  have h:Co (a::l) (i+1) x k=Co l i x fun r=>k (a::r):=rfl
  rw[h,AR x l];rfl
noncomputable def CT{β:Type}(env:List D)(t:Option Tmp)(d:D)(k:List D->β):β:=match t with
 |some t=>Co env t d k
 |none=>k env
theorem CL{β:Type}(env:List D)(t:Option Tmp)(d:D)(k:List D->β):CT env t d k=k (AK env t d):=by
 cases t with
 |none=>rfl
 |some t=>exact AR d env t k
noncomputable def A9{α β:Type}(l:List α)(x:α)(k:List α->β):β:=
 List.rec (motive:=fun _=>(List α->β)->β) (fun k=>k [x]) (fun a _ ih k=>ih fun r=>k (a::r)) l k
theorem A7{α β:Type}(x:α):∀(l:List α) (k:List α->β),A9 l x k=k (l++[x])
 |[],_=>rfl
 |a::l,k=>by
  have h:A9 (a::l) x k=A9 l x fun r=>k (a::r):=rfl
  rw[h,A7 x l];rfl
noncomputable def mkE(n:Nat)(L:List (Nat×D)):List D:=L.foldl (fun e p=>e.set p.1 p.2) (replicate n .undef)
def nilC:Value->D
 |.slice none 0 0=>.v .nils
 |u=>constD u
noncomputable def evN(env:List D):Operand->D
 |.tmp t=>env.getD t .undef
 |.const u=>nilC u
 |.global n=>globD n
 |.func f=>.v (.fn f [] [])
theorem nilC_sub{g:Gh}{u:Value}:Ae g (nilC u) u:=by
 unfold nilC
 split
 ·simp[Ae]
 ·exact repD_const g u
theorem repD_evN{g:Gh}{env:List D}{a:Act}(hG:EP g.M)(h:Ac g env a.tmps.toList)(x:Operand):Ae g (evN env x) (a.eval x):=by
 cases x with
 |tmp t=>exact ED h t
 |const u=>exact nilC_sub
 |global n=>exact repD_ev hG h (.global n)
 |func f=>exact repD_ev hG h (.func f)
theorem repDs_evN{g:Gh}{env:List D}{a:Act}(hG:EP g.M)(h:Ac g env a.tmps.toList):∀(l:List Operand),Ac g (l.map (evN env)) (l.map a.eval)
 |[]=>by simp[Ac]
 |x::l=>by simp only[map_cons,Ac];exact⟨_,_,rfl,repD_evN hG h x,repDs_evN hG h l⟩
def kq(a b:IntKind):Bool:=decide (a=b)
noncomputable def vBin(P:Program)(op:BinOp)(t:TypeId)(x y:V)(K:V->Prop):Prop:=
 match x,y with
 |.int kd a,.int kd' b=>
  match op with
  |.quo=>cond (kq kd kd') (b≠0/\K (.int kd (kd.wrap (a.tdiv b)))) False
  |.rem=>cond (kq kd kd') (b≠0/\K (.int kd (a.tmod b))) False
  |.shl=>0<=b/\K (.int kd (kd.wrap (a*2^(min b.toNat kd.bits))))
  |.shr=>0<=b/\K (.int kd (a.fdiv (2^(min b.toNat kd.bits))))
  |op=>cond (kq kd kd') (match binI op kd a b with|some z=>K z|none=>False) False
 |.str a,.str b=>
  match op with
  |.add=>a.length+b.length<=9223372036854775807/\K (.str (a++b))
  |op=>match binS op a b with|some z=>K z|none=>False
 |.bool a,.bool b=>match P.underlying t with
  |some .bool=>match op with
   |.eql=>K (.bool (a==b))
   |.neq=>K (.bool (a !=b))
   |_=>False
  |_=>False
 |_,_=>False
theorem Am{b:Bool}{x:Prop}(h:cond b x False):b=true/\x:=by cases b<;>simp_all
theorem vBin_ok{P:Program}{op:BinOp}{t ty:TypeId}{x y:V}{K:V->Prop}(h:vBin P op t x y K){o:Oper}{a b:Operand}(ho:o.op=.binOp op t a b ty):
  ∃z,K z/\∀σ,Ai P o [.v x,.v y] σ (.v z) σ:=by
 unfold vBin at h
 split at h
 ·rename_i kd a kd' b
  split at h
  ·obtain⟨e,hb,h'⟩:=Am h
   have e:=of_decide_eq_true e;subst e
   exact⟨_,h',fun σ=>op_quoI ho rfl hb⟩
  ·obtain⟨e,hb,h'⟩:=Am h
   have e:=of_decide_eq_true e;subst e
   exact⟨_,h',fun σ=>op_quoI ho rfl hb⟩
  ·exact⟨_,h.2,fun σ=>op_shI ho rfl h.1⟩
  ·exact⟨_,h.2,fun σ=>op_shI ho rfl h.1⟩
  ·obtain⟨e,h'⟩:=Am h
   have e:=of_decide_eq_true e;subst e
   split at h'
   ·rename_i z hz;exact⟨z,h',fun σ=>Hg ho hz⟩
   ·exact h'.elim
 ·split at h
  ·exact⟨_,h.2,fun σ=>op_concat ho h.1⟩
  ·split at h
   ·rename_i z hz;exact⟨z,h,fun σ=>op_binS ho hz⟩
   ·exact h.elim
 ·rename_i a b
  split at h
  ·rename_i hu
   split at h
   ·exact⟨_,h,fun σ=>by have:=op_eqlB (P:=P) (σ:=σ) ho hu (a:=a) (b:=b) (.inl rfl);simpa using this⟩
   ·exact⟨_,h,fun σ=>by have:=op_eqlB (P:=P) (σ:=σ) ho hu (a:=a) (b:=b) (.inr rfl);simpa using this⟩
   ·exact h.elim
  ·exact h.elim
 ·exact h.elim
noncomputable def CI:List D->Option (List V)
 |[]=>some []
 |.v x::ds=>match CI ds with
  |some xs=>some (x::xs)
  |none=>none
 |.acc _ xs::ds=>match CI ds with
  |some ys=>some (.list xs::ys)
  |none=>none
 |_::_=>none
theorem F7:∀{ds:List D} {xs:List V},CI ds=some xs->Eh ds=some xs
 |[],xs,h=>by simpa[CI,Eh] using h
 |d::ds,xs,h=>by
  cases d<;>simp only[CI] at h<;>first|(split at h<;>first|(rename_i h1;simp at h;subst h;simp[Eh,D.toV,F7 h1])|simp at h)|simp at h
noncomputable def zipN:List (Nat×Operand)->List D->Option (List (Nat×V))
 |[],[]=>some []
 |p::ps,.v x::ds=>match zipN ps ds with
  |some xs=>some ((p.1,x)::xs)
  |none=>none
 |p::ps,.acc _ l::ds=>match zipN ps ds with
  |some xs=>some ((p.1,.list l)::xs)
  |none=>none
 |_,_=>none
theorem zipN_eq:∀{ps:List (Nat×Operand)} {ds:List D} {xs:List (Nat×V)},zipN ps ds=some xs->C1 ps ds=some xs
 |[],[],xs,h=>by simpa[zipN,C1] using h
 |[],_::_,xs,h=>by simp[zipN] at h
 |_::_,[],xs,h=>by simp[zipN] at h
 |p::ps,d::ds,xs,h=>by
  obtain⟨i,q⟩:=p
  cases d<;>simp only[zipN] at h<;>first|(split at h<;>first|(rename_i h1;simp at h;subst h;simp[C1,D.toV,zipN_eq h1])|simp at h)|simp at h
def rowQ:List (Nat×Operand)->Nat->Bool
 |[],_=>true
 |p::ps,i=>Nat.beq p.1 i&&rowQ ps (Nat.succ i)
theorem rowQ_ok:∀{ps:List (Nat×Operand)} {i:Nat},rowQ ps i=true->ps=((ps.map (·.2)).zipIdx i).map fun x=>(x.2,x.1)
 |[],i,_=>rfl
 |p::ps,i,h=>by
  simp only[rowQ,Bool.and_eq_true] at h
  have h1:=Nat.eq_of_beq_eq_true h.1
  simp only[map_cons,List.zipIdx_cons]
  rw[←rowQ_ok h.2]
  cases p;simp_all
noncomputable def allSz(sz:Nat)(xs:List V):Bool:=xs.all fun x=>Nat.beq x.size sz
theorem allSz_ok{sz:Nat}{xs:List V}(h:allSz sz xs=true):∀x∈xs,x.size=sz:=fun x hx=>Nat.eq_of_beq_eq_true (all_eq_true.1 h x hx)
noncomputable def vPart(cs:List V)(fo n:Nat)(b:Bool)(K:V->Prop):Prop:=match b with
 |true=>cond (Nat.ble (fo+n) cs.length) (K (.agg ((cs.drop fo).take n))) False
 |false=>match cs[fo]? with
  |some y=>K y
  |none=>False
theorem vPart_ok{cs:List V}{fo n:Nat}{b:Bool}{K:V->Prop}(h:vPart cs fo n b K):∃y,K y/\Gr cs fo n b=some y:=by
 unfold vPart at h
 split at h
 ·obtain⟨h1,h2⟩:=Am h
  refine⟨_,h2,?_⟩
  simp[Gr,Nat.le_of_ble_eq_true h1]
 ·split at h
  ·rename_i y hy;exact⟨y,h,by simp[Gr,hy]⟩
  ·exact h.elim
noncomputable def vFld(P:Program)(s:TypeId)(f:Nat)(cs:List V)(K:V->Prop):Prop:=match fldTy P s f with
 |some (fo,1,false)=>vPart cs fo 1 false K
 |some (fo,n+1,true)=>vPart cs fo (n+1) true K
 |_=>False
noncomputable def vIdx(P:Program)(t:TypeId)(cs:List V)(i:Int)(K:V->Prop):Prop:=match arTy P t with
 |some (len,1,false)=>0<=i/\i<len/\vPart cs (i.toNat*1) 1 false K
 |some (len,n,true)=>0<=i/\i<len/\vPart cs (i.toNat*n) n true K
 |_=>False
theorem vIdx_ok{P:Program}{t:TypeId}{cs:List V}{i:Int}{K:V->Prop}(h:vIdx P t cs i K):
  ∃y len sz b,K y/\arTy P t=some (len,sz,b)/\(b=false->sz=1)/\0<=i/\i<len/\Gr cs (i.toNat*sz) sz b=some y:=by
 unfold vIdx at h
 split at h
 ·rename_i len ht
  obtain⟨y,h3,h4⟩:=vPart_ok h.2.2
  exact⟨y,len,1,false,h3,ht,fun _=>rfl,h.1,h.2.1,h4⟩
 ·rename_i len n ht
  obtain⟨y,h3,h4⟩:=vPart_ok h.2.2
  exact⟨y,len,n,true,h3,ht,fun h=>by simp at h,h.1,h.2.1,h4⟩
 ·exact h.elim
noncomputable def vSl(n:Nat)(l h:Option Int)(K:Nat->Nat->Prop):Prop:=match l,h with
 |none,none=>K 0 n
 |some l,none=>0<=l/\l<=n/\K l.toNat n
 |none,some h=>0<=h/\h<=n/\K 0 h.toNat
 |some l,some h=>0<=l/\l<=h/\h<=n/\K l.toNat h.toNat
theorem vSl_ok{n:Nat}{l h:Option Int}{K:Nat->Nat->Prop}(hh:vSl n l h K):∃a b,K a b/\BI n l h=some (a,b):=by
 unfold vSl at hh
 split at hh
 ·exact⟨_,_,hh,by simp[BI]⟩
 ·exact⟨_,_,hh.2.2,by simp only[BI,Option.getD];rw[if_pos (by omega)];simp⟩
 ·exact⟨_,_,hh.2.2,by simp only[BI,Option.getD];rw[if_pos (by omega)];simp⟩
 ·exact⟨_,_,hh.2.2.2,by simp only[BI,Option.getD];rw[if_pos (by omega)]⟩
def PureOK(P:Program)(o:Oper)(ds:List D)(K:Sc->D->Prop):Prop:=∃s d,K s d/\∀σ,Ai P o ds σ d σ
theorem PureOK.v{P:Program}{o:Oper}{ds:List D}{K:Sc->D->Prop}{s:Sc}{z:V}(hk:K s (.v z))(h:∀σ,Ai P o ds σ (.v z) σ):PureOK P o ds K:=⟨s,_,hk,h⟩
def isNil:Operand->Bool
 |.const (.slice none 0 0)=>true
 |_=>false
theorem isNil_eq{x:Operand}(h:isNil x=true):x=.const (.slice none 0 0):=by
 unfold isNil at h
 split at h
 ·rfl
 ·simp at h
noncomputable def vNil(P:Program)(op:BinOp)(t:TypeId)(b:Operand)(x:V)(K:V->Prop):Prop:=cond (isNil b) (match P.underlying t with
 |some (.slice _)=>match op,x with
  |.eql,.list xs=>xs≠ []/\K (.bool false)
  |.neq,.list xs=>xs≠ []/\K (.bool true)
  |.eql,.nils=>K (.bool true)
  |.neq,.nils=>K (.bool false)
  |_,_=>False
 |_=>False) False
theorem op_nilV{P:Program}{o:Oper}{op:BinOp}{t ty e:TypeId}{a:Operand}(ho:o.op=.binOp op t a (.const (.slice none 0 0)) ty)(hu:P.underlying t=some (.slice e))(hop:op=.eql∨op=.neq){x:V}{isn:Bool}
  (hx:∀M u,repV M x u->∃ad len cap,u=.slice ad len cap/\ad.isNone=isn) (σ:St):Ai P o [.v x,.v .nils] σ (.v (.bool (if op=.eql then isn else !isn))) σ:=by
 intro E g ac w K Q hw hds hK
 simp only[ho,Op.operands] at hds
 obtain⟨u,v,eq,h1,h2⟩:=Ap.1 hds
 simp only[map_cons,map_nil,List.cons.injEq,and_true] at eq
 simp only[Ae] at h1
 obtain⟨ad,len,cap,rfl,rfl⟩:=hx _ _ h1
 have hrun:=run_eqNil (P:=P) ho hu hop ac.eval w eq.1 rfl
 have:=hK g w (.bool (if op=.eql then ad.isNone else !ad.isNone)) hw g.le_refl (by simp[Ae])
 unfold Oper.wp
 rw[hrun]
 exact this
theorem nil_list{xs:List V}(hx:xs≠ [])(M:Mem)(u:Value)(h:repV M (.list xs) u):∃ad len cap,u=.slice ad len cap/\ad.isNone=false:=by
 obtain⟨ad,cap,rfl,_,hor⟩:=AO.1 h
 rcases hor with h|⟨b,off,sz,us,rfl,_⟩
 ·exact absurd h hx
 ·exact⟨_,_,_,rfl,rfl⟩
theorem nil_nils(M:Mem)(u:Value)(h:repV M .nils u):∃ad len cap,u=.slice ad len cap/\ad.isNone=true:=by
 rw[BY] at h;exact⟨_,_,_,h,rfl⟩
theorem vNil_ok{P:Program}{op:BinOp}{t ty:TypeId}{x:V}{a b:Operand}{K:V->Prop}(h:vNil P op t b x K){o:Oper}(ho:o.op=.binOp op t a b ty):∃z,K z/\∀σ,Ai P o [.v x,.v .nils] σ (.v z) σ:=by
 unfold vNil at h
 obtain⟨h1,h2⟩:=Am h
 have hb:=isNil_eq h1;subst hb
 split at h2
 ·rename_i e hu
  split at h2
  ·exact⟨_,h2.2,fun σ=>op_nilV ho hu (.inl rfl) (nil_list h2.1) σ⟩
  ·exact⟨_,h2.2,fun σ=>op_nilV ho hu (.inr rfl) (nil_list h2.1) σ⟩
  ·exact⟨_,h2,fun σ=>op_nilV ho hu (.inl rfl) nil_nils σ⟩
  ·exact⟨_,h2,fun σ=>op_nilV ho hu (.inr rfl) nil_nils σ⟩
  ·exact h2.elim
 ·exact h2.elim
noncomputable def vNot(P:Program)(op:BinOp)(t:TypeId)(b:Operand)(isn:Bool)(K:V->Prop):Prop:=cond (isNil b) (match P.underlying t with
 |some (.slice _)=>(match op with
  |.eql=>K (.bool isn)
  |.neq=>K (.bool !isn)
  |_=>False)
 |_=>False) False
theorem vNot_ok{P:Program}{op:BinOp}{t ty:TypeId}{y:V}{ad:Option Addr}{len cap:Nat}{a b:Operand}{K:V->Prop}(h:vNot P op t b ad.isNone K){o:Oper}(ho:o.op=.binOp op t a b ty):∃z,K z/\∀σ,Ai P o [.rv y (.slice ad len cap),.v .nils] σ (.v z) σ:=by
 unfold vNot at h
 obtain⟨h1,h2⟩:=Am h
 have hb:=isNil_eq h1;subst hb
 have main:∀{e:TypeId},P.underlying t=some (.slice e)->op=.eql∨op=.neq->∀σ,Ai P o [.rv y (.slice ad len cap),.v .nils] σ (.v (.bool (if op=.eql then ad.isNone else !ad.isNone))) σ:=by
  intro e hu hop σ E g ac w K Q hw hds hK
  simp only[ho,Op.operands] at hds
  obtain⟨u,v,eq,h1,h2⟩:=Ap.1 hds
  simp only[map_cons,map_nil,List.cons.injEq,and_true] at eq
  simp only[Ae] at h1
  obtain⟨rfl,_⟩:=h1
  have hrun:=run_eqNil (P:=P) ho hu hop ac.eval w eq.1 rfl
  have:=hK g w (.bool (if op=.eql then ad.isNone else !ad.isNone)) hw g.le_refl (by simp[Ae])
  unfold Oper.wp
  rw[hrun]
  exact this
 split at h2
 ·rename_i e hu
  split at h2
  ·exact⟨_,h2,fun σ=>main hu (.inl rfl) σ⟩
  ·exact⟨_,h2,fun σ=>main hu (.inr rfl) σ⟩
  ·exact h2.elim
 ·exact h2.elim
theorem spec_nil{P:Program}{f:FuncId}{ds ds':List D}{σ σ':St}{d:D}(h:∀a cap,Ab P f (ds++ .rv (.list []) (.slice a 0 cap)::ds') σ d σ'):Ab P f (ds++ .v (.list [])::ds') σ d σ':=by
 refine⟨(h none 0).1,fun g w args hw hargs=>?_⟩
 have split:∀{ds:List D} {us:List Value},Ac g (ds++ .v (.list [])::ds') us->∃a cap,Ac g (ds++ .rv (.list []) (.slice a 0 cap)::ds') us:=by
  intro ds
  induction ds with
  |nil=>
   intro us h
   simp only[nil_append,Ac] at h
   obtain⟨u,us',rfl,h3,h4⟩:=h
   simp only[Ae] at h3
   obtain⟨a,cap,rfl,_,hor⟩:=AO.1 h3
   exact⟨a,cap,by simp only[nil_append,Ac];exact⟨_,_,rfl,by simp only[Ae];exact⟨rfl,h3⟩,h4⟩⟩
  |cons x ds ih=>
   intro us h
   simp only[cons_append,Ac] at h⊢
   obtain⟨u,us',rfl,h3,h4⟩:=h
   obtain⟨a,cap,h5⟩:=ih h4
   exact⟨a,cap,_,_,rfl,h3,h5⟩
 obtain⟨a,cap,h5⟩:=split hargs
 exact(h a cap).2 g w args hw h5
noncomputable def toVsC:List D->Option (List V)
 |[]=>some []
 |.v .nils::ds=>match toVsC ds with
  |some xs=>some (.list []::xs)
  |none=>none
 |.v x::ds=>match toVsC ds with
  |some xs=>some (x::xs)
  |none=>none
 |.acc _ xs::ds=>match toVsC ds with
  |some ys=>some (.list xs::ys)
  |none=>none
 |_::_=>none
theorem E1{g:Gh}{u:Value}(h:Ae g (.v .nils) u):Ae g (.v (.list [])) u:=by
 simp only[Ae,BY] at h⊢
 subst h;exact Cj _
theorem Ez{g:Gh}:∀{ds:List D} {xs:List V} {us:List Value},toVsC ds=some xs->Ac g ds us->Ac g (xs.map .v) us
 |[],xs,us,h,hr=>by simp[toVsC] at h;subst h;simpa using hr
 |d::ds,xs,us,h,hr=>by
  simp only[Ac] at hr
  obtain⟨u,us',rfl,h1,h2⟩:=hr
  unfold toVsC at h
  split at h
  ·rename_i e;simp at e
  ·rename_i ds' e;simp only[List.cons.injEq] at e;obtain⟨rfl,rfl⟩:=e
   split at h
   ·rename_i ys hy;simp at h;subst h
    simp only[map_cons,Ac];exact⟨_,_,rfl,E1 h1,Ez hy h2⟩
   ·simp at h
  ·rename_i x ds' e;simp only[List.cons.injEq] at e;obtain⟨rfl,rfl⟩:=e
   split at h
   ·rename_i ys hy;simp at h;subst h
    simp only[map_cons,Ac];exact⟨_,_,rfl,h1,Ez hy h2⟩
   ·simp at h
  ·rename_i k l ds' e;simp only[List.cons.injEq] at e;obtain⟨rfl,rfl⟩:=e
   split at h
   ·rename_i ys hy;simp at h;subst h
    simp only[map_cons,Ac];exact⟨_,_,rfl,repD_un h1,Ez hy h2⟩
   ·simp at h
  ·simp at h
theorem toVsN_rep{g:Gh}{ds:List D}{xs:List V}{us:List Value}(h:CI ds=some xs)(hr:Ac g ds us):Ac g (xs.map .v) us:=
 D6 (repL_of (F7 h) hr)
noncomputable def vCall(P:Program)(f:FuncId)(fs cs:List V)(ds:List D)(s:Sc)(K:Sc->D->Prop):Prop:=match s with
 |.h (.c d) s=>cond d.pl (match toVsC ds with
  |some xs=>Ab P f ((fs++xs++cs).map .v) ⟨[],[]⟩ d ⟨[],[]⟩/\K s d
  |none=>False) False
 |.h (.ca ys d) s=>cond d.pl (match CI ds with
  |some xs=>VSL (fs++xs++cs) ys/\Ab P f (ys.map .v) ⟨[],[]⟩ d ⟨[],[]⟩/\K s d
  |none=>False) False
 |_=>False
theorem dslOf:∀{xs ys:List V},VSL xs ys->Dv.DSL (xs.map .v) (ys.map .v)
 |_,_,.nil=>.nil
 |_,_,.cons h hs=>.cons (.v h) (dslOf hs)
theorem vCall_ok{P:Program}{f:FuncId}{fs cs:List V}{ds:List D}{s:Sc}{K:Sc->D->Prop}(h:vCall P f fs cs ds s K){o:Oper}{c:Call}{fo:Operand}(ho:o.op=.call c)(hc:c.callee=.value fo):
  PureOK P o (.v (.fn f fs cs)::ds) K:=by
 unfold vCall at h
 split at h
 ·rename_i d s
  obtain⟨h1,h2⟩:=Am h
  split at h2
  ·rename_i xs hx
   refine⟨_,_,h2.2,fun σ=>BQ (fun g us hr=>?_) (op_call0 (d:=d) (ds:=xs.map .v) ho hc (BB xs) h1 (by simpa[map_append] using h2.1))⟩
   simp only[Ac] at hr⊢
   obtain⟨u,us',e,h3,h4⟩:=hr
   exact⟨u,us',e,h3,Ez hx h4⟩
  ·exact h2.elim
 ·rename_i ys d s
  obtain⟨h1,h2⟩:=Am h
  split at h2
  ·rename_i xs hx
   obtain⟨h3,h4,h5⟩:=h2
   have h4':=h4.sub (e:=d) (by simpa using dslOf h3) (.same d)
   refine⟨_,_,h5,fun σ=>BQ (fun g us hr=>?_) (op_call0 (d:=d) (ds:=xs.map .v) ho hc (BB xs) h1 (by simpa[map_append] using h4'))⟩
   simp only[Ac] at hr⊢
   obtain⟨u,us',e,h3,h4⟩:=hr
   exact⟨u,us',e,h3,toVsN_rep hx h4⟩
  ·exact h2.elim
 ·exact h.elim
noncomputable def vBuiltin(P:Program)(c:Call)(ds:List D)(K:V->Prop):Prop:=match c.callee,ds with
 |.builtin .len,[.v (.list xs)]=>match c.args.toList,c.argTypes.toList with
  |[_],[t]=>match P.underlying t with
   |some (.slice _)=>K (.int .i64 xs.length)
   |_=>False
  |_,_=>False
 |.builtin .len,[.v .nils]=>match c.args.toList,c.argTypes.toList with
  |[_],[t]=>match P.underlying t with
   |some (.slice _)=>K (.int .i64 0)
   |_=>False
  |_,_=>False
 |.builtin .len,[.arr _ _ n]=>match c.args.toList,c.argTypes.toList with
  |[_],[t]=>match P.underlying t with
   |some (.slice _)=>K (.int .i64 n)
   |_=>False
  |_,_=>False
 |.builtin .len,[.v (.str s)]=>match c.args.toList,c.argTypes.toList with
  |[_],[t]=>match P.underlying t with
   |some .string=>K (.int .i64 s.length)
   |_=>False
  |_,_=>False
 |.builtin .max,[.v (.int kd a),.v (.int ke b)]=>match c.args.toList with
  |[_,_]=>cond (kq kd ke) (K (.int kd (if b>a then b else a))) False
  |_=>False
 |.builtin .min,[.v (.int kd a),.v (.int ke b)]=>match c.args.toList with
  |[_,_]=>cond (kq kd ke) (K (.int kd (if b<a then b else a))) False
  |_=>False
 |_,_=>False
theorem vBuiltin_ok{P:Program}{c:Call}{ds:List D}{K:V->Prop}(h:vBuiltin P c ds K){o:Oper}(ho:o.op=.call c):∃z,K z/\∀σ,Ai P o ds σ (.v z) σ:=by
 have mk1:∀{b:Builtin} {x:Operand} {t:TypeId},c.callee=.builtin b->c.args.toList=[x]->c.argTypes.toList=[t]->o.op=.call { callee:=.builtin b,args:= #[x],argTypes:= #[t]}:=by
  intro b x t hc h1 h2
  rw[ho];cases c;simp only at hc h1 h2;subst hc
  congr 2
  ·apply Array.ext';simpa using h1
  ·apply Array.ext';simpa using h2
 have mk2:∀{b:Builtin} {x y:Operand},c.callee=.builtin b->c.args.toList=[x,y]->o.op=.call { callee:=.builtin b,args:= #[x,y],argTypes:=c.argTypes }:=by
  intro b x y hc h1
  rw[ho];cases c;simp only at hc h1;subst hc
  congr 2
  apply Array.ext';simpa using h1
 unfold vBuiltin at h
 split at h
 ·rename_i xs hc
  split at h
  ·rename_i x t h1 h2
   split at h
   ·rename_i e hu;exact⟨_,h,fun σ=>Hf (mk1 hc h1 h2) hu⟩
   ·exact h.elim
  ·exact h.elim
 ·rename_i hc
  split at h
  ·rename_i x t h1 h2
   split at h
   ·rename_i e hu
    refine⟨_,h,fun σ=>BQ (fun g us hr=>?_) (Hf (xs:=[]) (mk1 hc h1 h2) hu)⟩
    rw[A0] at hr⊢
    obtain⟨u,e,hr⟩:=hr
    exact⟨u,e,E1 hr⟩
   ·exact h.elim
  ·exact h.elim
 ·rename_i q off n hc
  split at h
  ·rename_i x t h1 h2
   split at h
   ·rename_i e hu;exact⟨_,h,fun σ=>op_lenA (mk1 hc h1 h2) hu⟩
   ·exact h.elim
  ·exact h.elim
 ·rename_i xs hc
  split at h
  ·rename_i x t h1 h2
   split at h
   ·rename_i hu;exact⟨_,h,fun σ=>op_lenS (mk1 hc h1 h2) hu⟩
   ·exact h.elim
  ·exact h.elim
 ·rename_i kd a ke b hc
  split at h
  ·rename_i x y h1
   obtain⟨e,h2⟩:=Am h
   have e:=of_decide_eq_true e;subst e
   exact⟨_,h2,fun σ=>op_max (mk2 hc h1)⟩
  ·exact h.elim
 ·rename_i kd a ke b hc
  split at h
  ·rename_i x y h1
   obtain⟨e,h2⟩:=Am h
   have e:=of_decide_eq_true e;subst e
   exact⟨_,h2,fun σ=>op_min (mk2 hc h1)⟩
  ·exact h.elim
 ·exact h.elim
noncomputable def vBuild(P:Program)(t:TypeId)(ps:List (Nat×Operand))(ds:List D)(s:Sc)(K:Sc->V->Prop):Prop:=match s with
 |.h .rn s=>(match bldN P t,zipN ps ds with
  |some (z,places),some xs=>(match FF (places[·]?) z xs with
   |some out=>AM out fun out=>K s (.agg out)
   |none=>False)
  |_,_=>False)
 |s=>(match bldTy P t,zipN ps ds with
  |some (z,places),some xs=>(match FF (places[·]?) z xs with
   |some out=>AM out fun out=>K s (.agg out)
   |none=>False)
  |_,_=>False)
noncomputable def vBuildSl(P:Program)(t:TypeId)(len:Nat)(ps:List (Nat×Operand))(ds:List D)(K:List V->Prop):Prop:=match BJ P t with
 |some (_,sz,_,z)=>match len with
  |0=>match ps,ds with
   |[],[]=>K []
   |_,_=>False
  |len+1=>match CI ds with
   |some xs=>cond (rowQ ps 0&&Nat.beq ps.length (len+1)&&z.isSome&&Nat.blt 0 sz&&Nat.ble ((len+1)*sz) 1000&&allSz sz xs) (K xs) False
   |none=>False
 |none=>False
theorem vBuildSl_ok{P:Program}{t:TypeId}{len:Nat}{ps:Array (Nat×Operand)}{ds:List D}{K:List V->Prop}(h:vBuildSl P t len ps.toList ds K){o:Oper}(ho:o.op=.buildSlice t len ps):∃xs,K xs/\∀σ,Ai P o ds σ (.v (.list xs)) σ:=by
 unfold vBuildSl at h
 split at h
 ·rename_i e sz by' z hs
  split at h
  ·split at h
   ·rename_i hps
    exact⟨_,h,fun σ=>op_buildSlice0 ho (by apply Array.ext';simpa using hps) hs⟩
   ·exact h.elim
  ·rename_i len
   split at h
   ·rename_i xs hx
    obtain⟨h1,h2⟩:=Am h
    simp only[Bool.and_eq_true] at h1
    obtain⟨⟨⟨⟨⟨g1,g2⟩,g3⟩,g4⟩,g5⟩,g6⟩:=h1
    have hl:ps.size=len+1:=by have:=Nat.eq_of_beq_eq_true g2;simpa using this
    exact⟨_,h2,fun σ=>DL ho (rowQ_ok g1) hl hs g3 (F7 hx) (allSz_ok g6) (by omega) (Nat.le_of_ble_eq_true g4) (by simpa using g5)⟩
   ·exact h.elim
 ·exact h.elim
noncomputable def GV(P:Program)(t:TypeId)(x:D)(l h:Option (IntKind×Int))(K:V->Prop):Prop:=match x with
 |.v (.str s)=>match P.underlying t with
  |some .string=>vSl s.length (l.map (·.2)) (h.map (·.2)) fun a b=>K (.str ((s.take b).drop a))
  |_=>False
 |.v (.list xs)=>match BJ P t with
  |some (_,sz,_,_)=>cond (Nat.blt 0 sz) ((∀x∈xs,x.size=sz)/\vSl xs.length (l.map (·.2)) (h.map (·.2)) fun a b=>K (.list ((xs.take b).drop a))) False
  |none=>False
 |_=>False
noncomputable def vSlice(P:Program)(t:TypeId)(lo hi:Bool)(ds:List D)(K:V->Prop):Prop:=match lo,hi,ds with
 |false,false,[x]=>GV P t x none none K
 |true,false,[x,.v (.int kd i)]=>GV P t x (some (kd,i)) none K
 |false,true,[x,.v (.int kd i)]=>GV P t x none (some (kd,i)) K
 |true,true,[x,.v (.int kd i),.v (.int ke j)]=>GV P t x (some (kd,i)) (some (ke,j)) K
 |_,_,_=>False
theorem FP{P:Program}{t:TypeId}{x:D}{l h':Option (IntKind×Int)}{K:V->Prop}(h:GV P t x l h' K){o:Oper}{xo:Operand}{lo hi:Option Operand}(ho:o.op=.slice t xo lo hi none)(h1:lo.isSome=l.isSome)(h2:hi.isSome=h'.isSome):
  ∃y,K y/\∀σ,Ai P o (x::(Ed l++Ed h')) σ (.v y) σ:=by
 unfold GV at h
 split at h
 ·split at h
  ·rename_i hu
   obtain⟨a,b,h3,hp⟩:=vSl_ok h
   exact⟨_,h3,fun σ=>op_sliceS ho hu l h' h1 h2 hp⟩
  ·exact h.elim
 ·split at h
  ·rename_i e sz by' z hs
   obtain⟨g1,g2,g3⟩:=Am h
   obtain⟨a,b,h3,hp⟩:=vSl_ok g3
   exact⟨_,h3,fun σ=>op_sliceL ho hs g2 (Nat.le_of_ble_eq_true g1) l h' h1 h2 hp⟩
  ·exact h.elim
 ·exact h.elim
theorem vSlice_ok{P:Program}{t:TypeId}{lo hi:Option Operand}{ds:List D}{K:V->Prop}(h:vSlice P t lo.isSome hi.isSome ds K){o:Oper}{xo:Operand}(ho:o.op=.slice t xo lo hi none):
  ∃y,K y/\∀σ,Ai P o ds σ (.v y) σ:=by
 unfold vSlice at h
 split at h
 ·rename_i e1 e2;exact FP h ho e1 e2
 ·rename_i e1 e2;exact FP h ho e1 e2
 ·rename_i e1 e2;exact FP h ho e1 e2
 ·rename_i e1 e2;exact FP h ho e1 e2
 ·exact h.elim
noncomputable def vEl(xs:List V)(i:Int)(sz:Nat)(s:Sc)(K:Sc->V->Prop):Prop:=match s with
 |.h (.x y) s=>cond (Nat.beq y.size sz) (0<=i/\xs[i.toNat]?=some y/\K s y) False
 |.h (.xs y) s=>y.size=sz/\0<=i/\xs[i.toNat]?=some y/\K s y
 |_=>False
noncomputable def vLoadR(P:Program)(t:TypeId)(x:V)(k:Prop):Prop:=match CZ P t,x with
 |some (1,false),.agg _=>False
 |some (1,false),_=>k
 |some (n,true),.agg cs=>cond (Nat.beq cs.length n) k False
 |_,_=>False
theorem notAgg{x:V}(h:∀cs,x=.agg cs->False):x.isAgg=false:=by cases x<;>first|rfl|exact(h _ rfl).elim
theorem vLoadR_ok{P:Program}{t:TypeId}{x:V}{k:Prop}(h:vLoadR P t x k){o:Oper}{a:Operand}(ho:o.op=.load t a):k/\∀σ,Ai P o [.v (.ref x)] σ (.v x) σ:=by
 unfold vLoadR at h
 split at h
 ·exact h.elim
 ·rename_i ht hx;exact⟨h,fun σ=>E3 ho ht (notAgg hx)⟩
 ·rename_i n cs ht
  obtain⟨h1,h2⟩:=Am h
  have:=Nat.eq_of_beq_eq_true h1;subst this
  exact⟨h2,fun σ=>op_loadRA ho ht⟩
 ·exact h.elim
noncomputable def vPure(P:Program)(o:Oper)(ds:List D)(s:Sc)(K:Sc->D->Prop):Prop:=
 match o.op,ds with
 |.binOp op t a b _,[.v x,.v .nils]=>vNil P op t b x fun z=>K s (.v z)
 |.binOp op t _ b _,[.rv _ (.slice ad _ _),.v .nils]=>vNot P op t b ad.isNone fun z=>K s (.v z)
 |.binOp op t _ _ _,[.v x,.v y]=>vBin P op t x y fun z=>K s (.v z)
 |.unOp op _ _,[.v x]=>match unI op x with
  |some z=>K s (.v z)
  |none=>False
 |.convert st t _,[.v (.int _ n)]=>match P.underlying st,P.underlying t with
  |some _,some (.int kd)=>K s (.v (.int kd (kd.wrap n)))
  |_,_=>False
 |.extract _ i,[.tup xs]=>match xs[i]? with
  |some d=>K s d
  |none=>False
 |.nilCheck _,[.ptr q f]=>K s (.ptr q f)
 |.nilCheck _,[.v (.ref x)]=>K s (.v (.ref x))
 |.field st _ f,[.v (.agg cs)]=>vFld P st f cs fun y=>K s (.v y)
 |.fieldAddr st _ f,[.ptr q off]=>match fldTy P st f with
  |some (fo,_+1,_)=>K s (.ptr q (Nat.add off fo))
  |_=>False
 |.fieldAddr st _ f,[.v (.ref (.agg cs))]=>vFld P st f cs fun y=>K s (.v (.ref y))
 |.indexAddr t _ _,[.v (.list xs),.v (.int _ i)]=>match BJ P t with
  |some (_,sz,_,_)=>vEl xs i sz s fun s y=>K s (.v (.ref y))
  |none=>False
 |.indexAddr t _ _,[.arr q off len,.v (.int _ i)]=>match BJ P t with
  |some (_,sz,_,_)=>0<=i/\i<len/\K s (.ptr q (off+i.toNat*sz))
  |none=>False
 |.indexAddr t _ _,[.ptr q off,.v (.int _ i)]=>match arTy P t with
  |some (len,sz,_)=>0<=i/\i<len/\K s (.ptr q (off+i.toNat*sz))
  |none=>False
 |.indexAddr t _ _,[.v (.ref (.agg cs)),.v (.int _ i)]=>vIdx P t cs i fun y=>K s (.v (.ref y))
 |.index t _ _,[.v (.str l),.v (.int _ i)]=>match P.underlying t with
  |some .string=>(match s with
   |.h (.y c) s=>0<=i/\l[i.toNat]?=some c/\K s (.v (vb c))
   |s=>∃c:UInt8,0<=i/\l[i.toNat]?=some c/\K s (.v (vb c)))
  |_=>False
 |.index t _ _,[.v (.agg cs),.v (.int _ i)]=>vIdx P t cs i fun y=>K s (.v y)
 |.load t _,[.v (.ref x)]=>vLoadR P t x (K s (.v x))
 |.build t ps,ds=>vBuild P t ps.toList ds s fun s x=>K s (.v x)
 |.buildSlice t len ps,ds=>vBuildSl P t len ps.toList ds fun xs=>K s (.v (.list xs))
 |.makeFunc (.func f) fs _,ds=>match CI ds with
  |some xs=>cond (Nat.ble fs.size xs.length) (K s (.v (.fn f (xs.take fs.size) (xs.drop fs.size)))) False
  |none=>False
 |.slice t _ lo hi none,ds=>vSlice P t lo.isSome hi.isSome ds fun x=>K s (.v x)
 |.call c,.v (.fn f fs cs)::ds=>match c.callee with
  |.value _=>vCall P f fs cs ds s K
  |_=>False
 |.call c,ds=>vBuiltin P c ds fun x=>K s (.v x)
 |_,_=>False
theorem vFld_ok{P:Program}{st:TypeId}{f:Nat}{cs:List V}{K:V->Prop}(h:vFld P st f cs K):∃y fo n b,K y/\fldTy P st f=some (fo,n,b)/\n≠0/\(b=false->n=1)/\Gr cs fo n b=some y:=by
 unfold vFld at h
 split at h
 ·rename_i fo hf;obtain⟨y,h1,h2⟩:=vPart_ok h;exact⟨y,fo,1,false,h1,hf,by simp,by simp,h2⟩
 ·rename_i fo n hf;obtain⟨y,h1,h2⟩:=vPart_ok h;exact⟨y,fo,n+1,true,h1,hf,by simp,by simp,h2⟩
 ·exact h.elim
theorem vEl_ok{xs:List V}{i:Int}{sz:Nat}{s:Sc}{K:Sc->V->Prop}(h:vEl xs i sz s K):∃y s',K s' y/\y.size=sz/\0<=i/\xs[i.toNat]?=some y:=by
 unfold vEl at h
 split at h
 ·obtain⟨h1,h2,h3,h4⟩:=Am h
  exact⟨_,_,h4,Nat.eq_of_beq_eq_true h1,h2,h3⟩
 ·exact⟨_,_,h.2.2.2,h.1,h.2.1,h.2.2.1⟩
 ·exact h.elim
theorem vPure_ok{P:Program}{o:Oper}{ds:List D}{s:Sc}{K:Sc->D->Prop}(h:vPure P o ds s K):PureOK P o ds K:=by
 unfold vPure at h
 split at h
 ·rename_i op t a b ty x ho
  obtain⟨z,h1,h2⟩:=vNil_ok h ho
  exact .v h1 h2
 ·rename_i op t a b ty x ad l c ho
  obtain⟨z,h1,h2⟩:=vNot_ok h ho
  exact .v h1 h2
 ·rename_i op t a b ty x y _ ho
  obtain⟨z,h1,h2⟩:=vBin_ok h ho
  exact .v h1 h2
 ·rename_i op t a x ho
  split at h
  ·rename_i z hz;exact .v h fun σ=>op_un ho hz
  ·exact h.elim
 ·rename_i st t a kd n ho
  split at h
  ·rename_i d kd' h1 h2;exact .v h fun σ=>op_convI ho h1 h2
  ·exact h.elim
 ·rename_i a i xs ho
  split at h
  ·rename_i d hd;exact⟨_,_,h,fun σ=>op_extract ho hd⟩
  ·exact h.elim
 ·rename_i a q f ho;exact⟨_,_,h,fun σ=>op_nilCheck_ptr ho⟩
 ·rename_i a x ho;exact .v h fun σ=>op_nilCheck_ref ho
 ·rename_i st a f cs ho
  obtain⟨y,fo,n,b,h1,h2,h3,h4,h5⟩:=vFld_ok h
  exact .v h1 fun σ=>op_field ho h2 h4 h5
 ·rename_i st a f q off ho
  split at h
  ·rename_i fo n b hf;exact⟨_,_,h,fun σ=>op_fieldP ho hf (by simp)⟩
  ·exact h.elim
 ·rename_i st a f cs ho
  obtain⟨y,fo,n,b,h1,h2,h3,h4,h5⟩:=vFld_ok h
  exact .v h1 fun σ=>E4 ho h2 h3 h4 h5
 ·rename_i t a b xs kd i ho
  split at h
  ·rename_i e sz by' z hs
   obtain⟨y,s',h1,h2,h3,h4⟩:=vEl_ok h
   exact .v h1 fun σ=>op_idxL ho hs h3 h4 h2
  ·exact h.elim
 ·rename_i t a b q off len kd i ho
  split at h
  ·rename_i e sz by' z hs;exact⟨_,_,h.2.2,fun σ=>op_idxA ho hs h.1 h.2.1⟩
  ·exact h.elim
 ·rename_i t a b q off kd i ho
  split at h
  ·rename_i len sz bb hs;exact⟨_,_,h.2.2,fun σ=>op_idxAP ho hs h.1 h.2.1⟩
  ·exact h.elim
 ·rename_i t a b cs kd i ho
  obtain⟨y,len,sz,bb,h1,h2,h3,h4,h5,h6⟩:=vIdx_ok h
  exact .v h1 fun σ=>op_idxAR ho h2 h3 h4 h5 h6
 ·rename_i t a b l kd i ho
  split at h
  ·rename_i hu
   split at h
   ·exact .v h.2.2 fun σ=>op_idxS ho hu h.1 h.2.1
   ·obtain⟨c,h0,h1,h2⟩:=h
    exact .v h2 fun σ=>op_idxS ho hu h0 h1
  ·exact h.elim
 ·rename_i t a b cs kd i ho
  obtain⟨y,len,sz,bb,h1,h2,h3,h4,h5,h6⟩:=vIdx_ok h
  exact .v h1 fun σ=>op_idxV ho h2 h3 h4 h5 h6
 ·rename_i t a x ho
  obtain⟨h1,h2⟩:=vLoadR_ok h ho
  exact .v h1 h2
 ·rename_i t ps ho
  unfold vBuild at h
  split at h
  ·split at h
   ·rename_i z places xs hb hx
    split at h
    ·rename_i out hf
     rw[AI] at h
     exact .v h fun σ=>op_buildN ho hb (zipN_eq hx) hf
    ·exact h.elim
   ·exact h.elim
  ·split at h
   ·rename_i z places xs hb hx
    split at h
    ·rename_i out hf
     rw[AI] at h
     exact .v h fun σ=>op_build ho hb (zipN_eq hx) hf
    ·exact h.elim
   ·exact h.elim
 ·rename_i t len ps ho
  obtain⟨y,h1,h2⟩:=vBuildSl_ok h ho
  exact .v h1 h2
 ·rename_i f fs cap ho
  split at h
  ·rename_i xs hx
   obtain⟨h1,h2⟩:=Am h
   have hl:fs.size<=xs.length:=by simpa using h1
   refine .v h2 fun σ=>BQ (fun g us hr=>toVsN_rep hx hr) ?_
   have:=op_makeFunc (P:=P) (σ:=σ) ho (fs:=(xs.take fs.size).map .v) (cs:=(xs.drop fs.size).map .v) (by simp;omega) (E9 _) (E9 _)
   rw[←map_append,take_append_drop] at this
   exact this
  ·exact h.elim
 ·rename_i t a lo hi ho
  obtain⟨y,h1,h2⟩:=vSlice_ok h ho
  exact .v h1 h2
 ·rename_i c f fs cs ds ho
  split at h
  ·rename_i fo hc;exact vCall_ok h ho hc
  ·exact h.elim
 ·rename_i c ho _
  obtain⟨y,h1,h2⟩:=vBuiltin_ok h ho
  exact .v h1 h2
 ·exact h.elim
end Go.Nv

namespace Go.Dv
open List (all_eq_true append_assoc append_nil cons_append drop_eq_getElem_cons drop_of_length_le drop_zero ext_getElem? flatMap_cons flatten flatten_cons foldl_cons getD_eq_getElem?_getD getElem?_append_left getElem?_append_right getElem?_drop getElem?_eq_getElem getElem?_eq_none getElem?_map getElem?_set getElem?_take getElem?_toArray length length_append length_cons length_drop length_map length_nil length_pos_iff length_set length_take map map_append map_cons map_map map_nil mem_append mem_cons mem_map mem_of_getElem? mem_of_mem_drop mem_of_mem_take mem_or_eq_of_mem_set mem_singleton nil_append not_mem_nil replicate replicate_succ set_cons_succ set_cons_zero size_toArray take take_add_one take_append_drop take_left take_of_length_le take_succ_cons zipWith)
open Go.IntKind (wrap i64 u64)
theorem WI.addOwnP{E:Ent}{g:Gh}{σ:St}{w:World}(hw:WI E g σ w){k sz:Nat}{xs:List V}{u:Value}(hk:∀x∈σ.own,x.1≠k)(hsz:0<sz/\∀x∈xs,x.size=sz)(hr:repV g.M (.list xs) u)(hp:Perm g.M w sz u)
  (hb:∀b,BG u=some b->(E.w.heap.size<=b∨E.priv b)/\(∀i cs,σ.H[i]?=some (some cs)->g.β i≠b)/\∀x∈σ.own,∀u',g.ι x.1 x.2.2.length=some u'->BG u'≠some b):
  WI E { g with ι:=fun k' m=>if k'=k then(if m=xs.length then some u else none) else g.ι k' m } ⟨σ.H,(k,sz,xs)::σ.own⟩ w/\
  g.le { g with ι:=fun k' m=>if k'=k then(if m=xs.length then some u else none) else g.ι k' m }:=by
 have hle:g.le { g with ι:=fun k' m=>if k'=k then(if m=xs.length then some u else none) else g.ι k' m }:=by
  refine⟨Mem.le_refl _,Nat.le_refl _,fun _ _=>rfl,fun k' m u' h=>?_,fun _ _=>rfl⟩
  by_cases e:k'=k
  ·subst e;rw[hw.rep.fresh k' hk m] at h;simp at h
  ·simp only[if_neg e];exact h
 have hold:∀x∈σ.own,(if x.1=k then(if x.2.2.length=xs.length then some u else none) else g.ι x.1 x.2.2.length)=g.ι x.1 x.2.2.length:=fun x hx=>if_neg (hk x hx)
 refine⟨hw.update (fun _=>False) (fun _ h=>h.elim) (fun _ _ _=>⟨rfl,fun _=>rfl⟩) (Mem.le_refl _) (Nat.le_refl _) (fun _ _=>rfl) (fun _ _=>rfl) (Nat.le_refl _) rfl rfl rfl ?_ hw.objs ?_,hle⟩
 ·refine⟨hw.rep.n,hw.rep.mem,fun i cs hi=>?_,hw.rep.inj,fun k' sz' xs' hx=>?_,?_,fun x hx y hy hne u1 u2 h1 h2 b hb1=>?_,fun x hx u1 h1 b hb1 i cs hi=>?_,fun k' hk' m=>?_,hw.rep.gl,hw.rep.gw⟩
  ·obtain⟨us,rest,e,h2,h3,h4,h5⟩:=hw.rep.obj i cs hi
   exact⟨us,rest,e,h2,Ac.mono hle _ _ h3,h4,h5⟩
  ·rcases mem_cons.1 hx with e|hx
   ·simp only[Prod.mk.injEq] at e
    obtain⟨rfl,rfl,rfl⟩:=e
    refine⟨hsz,u,by simp,hr,hp,fun m hm=>?_⟩
    simp only[if_true];exact if_neg (by omega)
   ·obtain⟨h0,u',hu,h3,h4,h5⟩:=hw.rep.own k' sz' xs' hx
    have hne:¬k'=k:=hk _ hx
    refine⟨h0,u',by simp only[if_neg hne];exact hu,h3,h4,fun m hm=>by simp only[if_neg hne];exact h5 m hm⟩
  ·simp only[map_cons,List.nodup_cons]
   refine⟨fun h=>?_,hw.rep.tags⟩
   obtain⟨x,hx,e⟩:=mem_map.1 h
   exact hk x hx e
  ·rcases mem_cons.1 hx with rfl|hx<;>rcases mem_cons.1 hy with rfl|hy
   ·exact absurd rfl hne
   ·simp at h1;subst h1
    have h2':g.ι y.1 y.2.2.length=some u2:=(hold y hy).symm.trans h2
    exact(hb b hb1).2.2 y hy u2 h2'
   ·simp at h2;subst h2
    have h1':g.ι x.1 x.2.2.length=some u1:=(hold x hx).symm.trans h1
    intro hb2
    exact(hb b hb2).2.2 x hx u1 h1' hb1
   ·exact hw.rep.sep x hx y hy hne u1 u2 ((hold x hx).symm.trans h1) ((hold y hy).symm.trans h2) b hb1
  ·rcases mem_cons.1 hx with rfl|hx
   ·simp at h1;subst h1
    exact(hb b hb1).2.1 i cs hi
   ·exact hw.rep.ownObj x hx u1 ((hold x hx).symm.trans h1) b hb1 i cs hi
  ·have hne:¬k'=k:=fun e=>hk' (k,sz,xs) (by simp) e.symm
   simp only[if_neg hne]
   exact hw.rep.fresh k' (fun x hx=>hk' x (by simp[hx])) m
 ·intro x hx u1 h1 b hb1
  rcases mem_cons.1 hx with rfl|hx
  ·simp at h1;subst h1
   exact(hb b hb1).1
  ·exact hw.owns x hx u1 ((hold x hx).symm.trans h1) b hb1
end Go.Dv
namespace Go.Nv
open Go.Dv
open List (all_eq_true append_assoc append_nil cons_append drop_eq_getElem_cons drop_of_length_le drop_zero ext_getElem? flatMap_cons flatten flatten_cons foldl_cons getD_eq_getElem?_getD getElem?_append_left getElem?_append_right getElem?_drop getElem?_eq_getElem getElem?_eq_none getElem?_map getElem?_set getElem?_take getElem?_toArray length length_append length_cons length_drop length_map length_nil length_pos_iff length_set length_take map map_append map_cons map_map map_nil mem_append mem_cons mem_map mem_of_getElem? mem_of_mem_drop mem_of_mem_take mem_or_eq_of_mem_set mem_singleton nil_append not_mem_nil replicate replicate_succ set_cons_succ set_cons_zero size_toArray take take_add_one take_append_drop take_left take_of_length_le take_succ_cons zipWith)
open Go.IntKind (wrap i64 u64)
section
variable {P : Program} {o : Oper} {σ : St}
theorem op_appendZ{x y:Operand}{t tn:TypeId}(ho:o.op=.call { callee:=.builtin .append,args:= #[x,y],argTypes:= #[t,tn]}){e:TypeId}{sz by':Nat}{z:Value}(hs:BJ P t=some (e,sz,by',some z))(hzc:z.cells.size=sz)(h0:0<sz){kn:IntKind}(htn:P.underlying tn=some (.int kn))
  {kd:IntKind} {n:Int} (hn:0<n) (hlen:n.toNat*by'<=140737488355328) (hlen2:n.toNat<=140737488355328):
  Ai P o [.v .nils,.v (.int kd n)] σ (.gro σ.H.length n.toNat sz) ⟨σ.H++[some []],σ.own⟩:=by
 intro E g a w K Q hw hds hK
 simp only[ho,Op.operands,Call.operands] at hds
 obtain⟨u,v,eq,hu,hv⟩:=Ap.1 (by simpa using hds)
 simp only[List.cons.injEq,and_true] at eq
 simp only[Ae,BY,A1] at hu hv
 subst hu hv
 obtain⟨m,rfl⟩:∃m:Nat,n=m:=⟨n.toNat,by omega⟩
 simp only[Int.toNat_natCast] at hlen hlen2 hK⊢
 obtain⟨i,ht,hi,hisz,hib,hiz⟩:=A6 hs
 have hrun:=Lib.run_append_nil_zeros (P:=P) w t tn o.type e i z kd kn ht htn hi hiz m (by omega) (by omega) (by omega) (by rw[hib];omega)
 have hge:=grownCap_ge w m 0 e
 generalize hcs:Builtin.zeroCells z.cells m++Builtin.zeroCells z.cells (grownCap w m 0 e-m)=cs at hrun
 have hsize:cs.size=grownCap w m 0 e*sz:=by
  rw[←hcs]
  simp only[Array.size_append,size_zeroCells,hzc, ←Nat.add_mul]
  congr 1;omega
 obtain⟨g',h3,h4,h5',h6',h7⟩:=hw.drew.newObjR (us:=[]) (rest:=cs.toList) (cs:=[]) e (by simp[Ac]) (by simp)
 have hd:Ae g' (.gro σ.H.length m sz) (.slice (some ⟨w.heap.size,0,none⟩) m (grownCap w m 0 e)):=by
  simp only[Ae]
  refine⟨by omega,_,hge,?_,by rw[h5'];rfl⟩
  rw[h6'];simp[hsize]
 have hcell:(([]:List Value)++cs.toList).toArray=cs:=by simp
 rw[hcell] at h3
 have:=hK g' _ _ h3 h4 hd
 unfold Oper.wp execOp
 simp only[ho,resolve,invoke,builtin,Sem.run_bind,Sem.run_pure,Result.andThen_ok,List.map_toArray,map_cons,map_nil,eq.1,eq.2,hrun]
 exact this
theorem op_sliceG0{t:TypeId}{x hx:Operand}(ho:o.op=.slice t x none (some hx) none){e:TypeId}{sz by':Nat}{z:Option Value}(hs:BJ P t=some (e,sz,by',z))(h0:0<sz){q len:Nat}{cs:List D}(hq:σ.H[q]?=some (some cs)){kd:IntKind}(k:Nat)(hk:∀x∈σ.own,x.1≠k):
  Ai P o [.gro q len sz,.v (.int kd 0)] σ (.acc k []) ⟨σ.H.set q none,(k,sz,[])::σ.own⟩:=by
 intro E g a w K Q hw hds hK
 simp only[ho,Op.operands] at hds
 obtain⟨u,v,eq,h1,h2⟩:=Ap.1 (by simpa using hds)
 simp only[List.cons.injEq,and_true] at eq
 simp only[Ae,A1] at h1 h2
 subst h2
 obtain⟨hqn,cap,hcap,hκ,rfl⟩:=h1
 obtain⟨i,hu,hi',hsz,_,_⟩:=A6 hs
 obtain⟨us,rest,et,hb,hr,hone,hM,hkk⟩:=hw.rep.obj q cs hq
 have hrep:repV g.M (.list []) (.slice (some ⟨g.β q,0,none⟩) 0 cap):=by rw[AO];exact⟨_,cap,rfl,Nat.zero_le _,.inl rfl⟩
 obtain⟨hw2,hle⟩:=(hw.kill hq).addOwnP (k:=k) (sz:=sz) (xs:=[]) (u:=.slice (some ⟨g.β q,0,none⟩) 0 cap) hk ⟨h0,by simp⟩ hrep
  (.inr ⟨g.β q,0,0,cap,_,et,rfl,hb,Nat.zero_le _,by rw[Nat.zero_add];simp only[size_toArray];rw[hkk, ←hκ];exact Nat.le_refl _,fun o _=>hM o,hw.rep.obj_ng hq⟩) (fun b hb'=>by
   simp only[BG] at hb'
   split at hb'
   ·simp at hb'
   ·simp at hb';subst hb'
    refine⟨hw.objs q cs hq,fun i c hi=>?_,fun x hx u' hu' hb2=>hw.rep.ownObj x hx u' hu' _ hb2 q cs hq rfl⟩
    obtain⟨hne,hi2⟩:=FS hi
    exact fun e=>hne (hw.rep.inj i q _ _ hi2 hq e))
 have:=hK _ _ (.slice (some ⟨g.β q,0,none⟩) 0 cap) hw2 hle (by simp only[Ae];exact⟨hrep,by simp⟩)
 have hbr:=D4 (P:=P) w true len cap hcap none (some (kd,0)) (l':=0) (h':=0) (by simp[BI])
 unfold Oper.wp execOp
 simp only[ho,eq.1,eq.2,Option.map_none,Option.map_some,Instr.sliceAt,Instr.slice,Sem.run_bind,run_underlying hu,Result.andThen_ok]
 simp only[Option.map_none,Option.map_some] at hbr
 rw[hbr]
 simp only[Result.andThen_ok,sizeOf,typeInfo,hi',Sem.run_pure,Sem.run_bind]
 by_cases hc0:cap=0
 ·subst hc0;simpa[Addr.add_lit,Oper.upon,hi'] using this
 ·simpa[hc0,Addr.add_lit,Oper.upon,hi',show ¬0=cap by omega] using this
theorem op_capNils{x:Operand}{t:TypeId}(ho:o.op=.call { callee:=.builtin .cap,args:= #[x],argTypes:= #[t]}){e:TypeId}(ht:P.underlying t=some (.slice e)):Ai P o [.v .nils] σ (.v (.int .i64 0)) σ:=by
 refine Ax fun E g ρ w hw hds=>?_
 simp only[ho,Op.operands,Call.operands,A0] at hds
 obtain⟨u,e,h1⟩:=hds
 simp at e
 simp only[Ae,BY] at h1
 subst h1
 exact⟨_,by simp[execOp,ho,e,resolve,invoke,builtin,Builtin.cap_,run_underlying ht,goInt];rfl,by simp[Ae]⟩
theorem op_sliceNils{t:TypeId}{x hx:Operand}(ho:o.op=.slice t x none (some hx) none){e:TypeId}(hu:P.underlying t=some (.slice e)){inf:TypeInfo}(hi:P.info? e=some inf){kd:IntKind}:Ai P o [.v .nils,.v (.int kd 0)] σ (.v .nils) σ:=by
 refine Ax fun E g ρ w hw hds=>?_
 simp only[ho,Op.operands] at hds
 obtain⟨u,v,eq,h1,h2⟩:=Ap.1 (by simpa using hds)
 simp only[List.cons.injEq,and_true] at eq
 simp only[Ae,A1,BY] at h1 h2
 subst h1 h2
 have hbr:=D4 (P:=P) w true 0 0 (Nat.le_refl _) none (some (kd,0)) (l':=0) (h':=0) (by simp[BI])
 simp only[Option.map_none,Option.map_some] at hbr
 refine⟨.slice none 0 0,?_,by simp[Ae]⟩
 simp only[execOp,ho,eq.1,eq.2,Option.map_none,Option.map_some,Instr.sliceAt,Instr.slice,Sem.run_bind,run_underlying hu,Result.andThen_ok]
 rw[hbr]
 simp[sizeOf,typeInfo,hi]
end
def zipD:List (Nat×Operand)->List D->Option (List (Nat×D))
 |[],[]=>some []
 |p::ps,d::ds=>match zipD ps ds with
  |some xs=>some ((p.1,d)::xs)
  |none=>none
 |_,_=>none
def fillD(places:List (Nat×Nat)):List D->List (Nat×D)->Option (List D)
 |cells,[]=>some cells
 |cells,p::xs=>match places[p.1]? with
  |some (off,size)=>cond (p.2.sto&&Nat.beq (B6 p.2).length size&&Nat.ble (off+size) cells.length) (fillD places (cells.take off++B6 p.2++cells.drop (off+size)) xs) none
  |none=>none
theorem repDs_length'{g:Gh}:∀{ds:List D} {us:List Value},Ac g ds us->us.length=ds.length
 |[],us,h=>by simp only[Ac] at h;simp[h]
 |d::ds,us,h=>by
  simp only[Ac] at h
  obtain⟨u,us',rfl,_,h⟩:=h
  simp[repDs_length' h]
theorem repDs_app{g:Gh}:∀{ds es:List D} {us vs:List Value},Ac g ds us->Ac g es vs->Ac g (ds++es) (us++vs)
 |[],es,us,vs,h,h2=>by simp only[Ac] at h;subst h;exact h2
 |d::ds,es,us,vs,h,h2=>by
  simp only[Ac] at h
  obtain⟨u,us',rfl,h1,h⟩:=h
  simp only[cons_append,Ac]
  exact⟨u,us'++vs,rfl,h1,repDs_app h h2⟩
theorem repDs_tk{g:Gh}:∀{ds:List D} {us:List Value} (n:Nat),Ac g ds us->Ac g (ds.take n) (us.take n)
 |ds,us,0,_=>by simp[Ac]
 |[],us,n+1,h=>by simp only[Ac] at h;subst h;simp[Ac]
 |d::ds,us,n+1,h=>by
  simp only[Ac] at h
  obtain⟨u,us',rfl,h1,h⟩:=h
  simp only[take_succ_cons,Ac]
  exact⟨u,us'.take n,rfl,h1,repDs_tk n h⟩
theorem repDs_dr{g:Gh}:∀{ds:List D} {us:List Value} (n:Nat),Ac g ds us->Ac g (ds.drop n) (us.drop n)
 |ds,us,0,h=>by simpa using h
 |[],us,n+1,h=>by simp only[Ac] at h;subst h;simp[Ac]
 |d::ds,us,n+1,h=>by
  simp only[Ac] at h
  obtain⟨u,us',rfl,h1,h⟩:=h
  simp only[List.drop_succ_cons]
  exact repDs_dr n h
theorem fillD_rep{g:Gh}{a:Act}{places:List (Nat×Nat)}:∀{ps:List (Nat×Operand)} {ds:List D} {xs:List (Nat×D)} {cells out:List D} {cu:Array Value},zipD ps ds=some xs->Ac g ds (ps.map fun p=>a.eval p.2)->Ac g cells cu.toList->fillD places cells xs=some out->
  ∃U,Instr.fill (places[·]?) cu (ps.map fun p=>(p.1,a.eval p.2))=some U/\Ac g out U.toList
 |[],[],xs,cells,out,cu,hx,_,hc,hf=>by
  simp[zipD] at hx;subst hx
  simp[fillD] at hf;subst hf
  exact⟨cu,rfl,hc⟩
 |[],_::_,xs,cells,out,cu,hx,_,hc,hf=>by simp[zipD] at hx
 |_::_,[],xs,cells,out,cu,hx,_,hc,hf=>by simp[zipD] at hx
 |p::ps,d::ds,xs,cells,out,cu,hx,hds,hc,hf=>by
  simp only[zipD] at hx
  split at hx
  ·rename_i ys hys
   simp at hx;subst hx
   simp only[map_cons,Ac] at hds
   obtain⟨u,us',e,h1,h2⟩:=hds
   simp at e
   obtain⟨rfl,rfl⟩:=e
   simp only[fillD] at hf
   split at hf
   ·rename_i off size hp
    cases hcd:(d.sto&&Nat.beq (B6 d).length size&&Nat.ble (off+size) cells.length) with
    |false=>rw[hcd] at hf;simp at hf
    |true=>
     rw[hcd] at hf
     simp only[cond_true] at hf
     simp only[Bool.and_eq_true] at hcd
     obtain⟨⟨c1,c2⟩,c3⟩:=hcd
     have c2:=Nat.eq_of_beq_eq_true c2
     have c3:=Nat.le_of_ble_eq_true c3
     obtain⟨r1,r2,r3⟩:=cells_rep c1 h1
     have hl:cu.size=cells.length:=by rw[←Array.length_toList];exact repDs_length' hc
     have hs:(a.eval p.2).cells.size=size:=by rw[←Array.length_toList,repDs_length' r1,c2]
     have hsp:=splice off (a.eval p.2).cells.toList cu (by simp only[Array.length_toList];omega)
     simp only[Array.length_toList,hs] at hsp
     have hc':Ac g (cells.take off++B6 d++cells.drop (off+size)) (((a.eval p.2).cells.toList.zipIdx 0).foldl (fun cs (x:Value×Nat)=>cs.setIfInBounds (off+x.2) x.1) cu).toList:=by
      rw[hsp]
      exact repDs_app (repDs_app (repDs_tk off hc) r1) (repDs_dr (off+size) hc)
     obtain⟨U,hU,hrU⟩:=fillD_rep hys h2 hc' hf
     refine⟨U,?_,hrU⟩
     simp only[map_cons]
     unfold Instr.fill
     simp only[hp,hs]
     rw[if_neg (by simp;omega), ←hU]
     congr 1
     rw[←Array.foldl_toList,Array.toList_zipIdx]
   ·simp at hf
  ·simp at hx
section
variable {P : Program} {o : Oper} {σ : St}
def isStruct(P:Program)(t:TypeId):Bool:=match P.underlying t with
 |some (.struct _)=>true
 |_=>false
theorem op_buildD{t:TypeId}{parts:Array (Nat×Operand)}(ho:o.op=.build t parts){z:List V}{places:List (Nat×Nat)}(hst:isStruct P t=true)(hb:bldTy P t=some (z,places)){ds:List D}{xs:List (Nat×D)}{out:List D}
  (hx:zipD parts.toList ds=some xs) (hf:fillD places (z.map .v) xs=some out):Ai P o ds σ (.dagg out) σ:=by
 intro E g a w K Q hw hds hK
 simp only[ho,Op.operands] at hds
 unfold bldTy at hb
 unfold isStruct at hst
 have key:∃U,P.built t (parts.toList.map fun p=>(p.1,a.eval p.2))=some U/\Ac g out U.toList:=by
  cases hz:zeroV P t with
  |none=>simp[hz] at hb
  |some z0=>
   obtain⟨i,zv,hi,hz1,hcv⟩:=zeroV_parts hz
   cases hu:P.underlying t with
   |none=>simp[hz,hu] at hb
   |some dd=>
    cases dd<;>simp only[hz,hu,reduceCtorEq] at hb hst
    case struct fs=>
     cases hp:fs.toList.mapM (fun f=>(P.info? f.type).map fun i=>(f.offset,i.size)) with
     |none=>simp[hp] at hb
     |some pl=>
      simp[hp] at hb
      obtain⟨rfl,rfl⟩:=hb
      obtain⟨U,hU,hrU⟩:=fillD_rep (a:=a) hx (by simpa[Function.comp_def] using hds) (CR (Fv (M:=g.M) hcv)).1 hf
      exact⟨U,by simpa[Program.built,hi,hu,hz1,hp] using hU,hrU⟩
 obtain⟨U,hU,hrU⟩:=key
 have:=hK g w (.agg U) hw g.le_refl (by simp only[Ae];exact⟨U.toList,by simp,hrU⟩)
 have hrun:=run_build (P:=P) w t (parts.map fun p=>(p.1,a.eval p.2)) U (by simpa using hU)
 unfold Oper.wp execOp
 simp only[ho]
 simp only[Sem.run_bind]
 rw[show(parts.map fun(x:Nat×Operand)=>match x with|(i,x)=>(i,a.eval x))=parts.map fun p=>(p.1,a.eval p.2) from rfl,hrun]
 exact this
end
end Go.Nv

namespace Go.Dv
open List (all_eq_true append_assoc append_nil cons_append drop_eq_getElem_cons drop_of_length_le drop_zero ext_getElem? flatMap_cons flatten flatten_cons foldl_cons getD_eq_getElem?_getD getElem?_append_left getElem?_append_right getElem?_drop getElem?_eq_getElem getElem?_eq_none getElem?_map getElem?_set getElem?_take getElem?_toArray length length_append length_cons length_drop length_map length_nil length_pos_iff length_set length_take map map_append map_cons map_map map_nil mem_append mem_cons mem_map mem_of_getElem? mem_of_mem_drop mem_of_mem_take mem_or_eq_of_mem_set mem_singleton nil_append not_mem_nil replicate replicate_succ set_cons_succ set_cons_zero size_toArray take take_add_one take_append_drop take_left take_of_length_le take_succ_cons zipWith)
open Go.IntKind (wrap i64 u64)
theorem flatten_get{α:Type}(l:List α):∀(n i:Nat),i<n*l.length->(replicate n l).flatten[i]?=l[i%l.length]?
 |0,i,h=>by simp at h
 |n+1,i,h=>by
  rw[replicate_succ,flatten_cons]
  by_cases hi:i<l.length
  ·rw[getElem?_append_left hi,Nat.mod_eq_of_lt hi]
  ·rw[getElem?_append_right (by omega),flatten_get l n (i-l.length) (by rw[Nat.add_mul] at h;omega),Nat.mod_eq_sub_mod (a:=i) (by omega)]
theorem DW{α:Type}(l:List α):∀n:Nat,(replicate n l).flatten.length=n*l.length
 |0=>by simp
 |n+1=>by rw[replicate_succ,flatten_cons,length_append,DW l n,Nat.add_mul];omega
theorem madeCells_eq(z:Array Value)(n:Nat):madeCells z (n*z.size)=(replicate n z.toList).flatten.toArray:=by
 apply Array.ext_getElem?
 intro i
 by_cases hi:i<n*z.size
 ·have hz:0<z.size:=by
   rcases Nat.eq_zero_or_pos z.size with h|h
   ·rw[h] at hi;simp at hi
   ·exact h
  have hm:=Nat.mod_lt i hz
  have h1:=flatten_get z.toList n i (by rw[Array.length_toList];exact hi)
  have h2:(replicate n z.toList).flatten.toArray[i]?=(replicate n z.toList).flatten[i]?:=by simp
  rw[h2,h1,Array.length_toList,Array.getElem?_toList,Array.getElem?_eq_getElem hm]
  simp[madeCells,hi,hm]
 ·rw[Array.getElem?_eq_none (by rw[size_madeCells];omega),Array.getElem?_eq_none (by simp only[size_toArray,DW,Array.length_toList];omega)]
section
variable {P : Program} {o : Oper} {σ : St} {d : D}
theorem op_makeZ{t:TypeId}{x y:Operand}(ho:o.op=.makeSlice t x y){e:TypeId}{sz by':Nat}{z:Value}(hs:BJ P t=some (e,sz,by',some z)){zs:List V}(hz:Eu z.cells.toList=some zs)(hzc:z.cells.size=sz){k1 k2:IntKind}{n:Int}(h0:0<=n)(hn:(by':Int)*n<=281474976710656)(hn2:n<=9223372036854775807):
  Ai P o [.v (.int k1 0),.v (.int k2 n)] σ (.gro σ.H.length 0 sz) ⟨σ.H++[some ((replicate n.toNat zs).flatten.map .v)],σ.own⟩:=by
 intro E g a w K Q hw hds hK
 simp only[ho,Op.operands,Ap] at hds
 obtain⟨u,v,eq,h1',h2⟩:=hds
 simp only[map_cons,map_nil,List.cons.injEq,and_true] at eq
 obtain⟨e1,e2⟩:=eq
 simp only[Ae,A1] at h1' h2
 subst h1' h2
 obtain⟨i,hu,hi,hsz,hby,hzz⟩:=A6 hs
 have hrun:=run_make (P:=P) w t e i z hu hi hzz k1 k2 0 n (Int.le_refl _) h0 (by rw[hby];exact hn) hn2
 rw[hsz, ←hzc,madeCells_eq] at hrun
 obtain⟨hr1,ho1⟩:=CR (g:=g) (DZ (M:=g.M) hz)
 have hr:∀m,Ac g ((replicate m zs).flatten.map .v) (replicate m z.cells.toList).flatten/\∀c∈ (replicate m zs).flatten.map D.v,c.one=true:=by
  intro m
  induction m with
  |zero=>simp[Ac]
  |succ m ih=>
   simp only[replicate_succ,flatten_cons,map_append]
   refine⟨Aq hr1 ih.1,fun c hc=>?_⟩
   rcases mem_append.1 hc with h|h
   ·exact ho1 c h
   ·exact ih.2 c h
 obtain⟨g',hw',hle,hβ,hκ,hn'⟩:=hw.newObjR (us:=(replicate n.toNat z.cells.toList).flatten) (rest:=[]) e (hr n.toNat).1 (hr n.toNat).2
 rw[append_nil] at hw' hκ
 have:=hK g' _ (.slice (some ⟨w.heap.size,0,none⟩) 0 n.toNat) hw' hle (by
  simp only[Ae]
  exact⟨by omega,n.toNat,Nat.zero_le _,by rw[hκ,DW,Array.length_toList,hzc],by rw[hβ]⟩)
 unfold Oper.wp execOp
 simp only[ho,e1,e2,Sem.run_bind,hrun,Result.andThen_ok]
 exact this
theorem op_appendGI{x y:Operand}{t:TypeId}(ho:o.op=.call { callee:=.builtin .append,args:= #[x,y],argTypes:= #[t,t]}){e:TypeId}{sz by':Nat}{z:Option Value}(hs:BJ P t=some (e,sz,by',z))(hsz:0<sz)
  {q len:Nat} {cs:List D} {ys:List V} (hq:σ.H[q]?=some (some cs)) (hroom:(len+ys.length)*sz<=cs.length) (hys:∀y∈ys,y.size=sz) (hpos:ys≠ []):
  Ai P o [.gro q len sz,.v (.list ys)] σ (.gro q (len+ys.length) sz) ⟨σ.H.set q (some (cs.take (len*sz)++Aa ys++cs.drop (len*sz+(Aa ys).length))),σ.own⟩:=by
 intro E g a w K Q hw hds hK
 simp only[ho,Op.operands,Call.operands] at hds
 obtain⟨u,v,eq,hu,hv⟩:=Ap.1 (by simpa using hds)
 simp only[List.cons.injEq,and_true] at eq
 simp only[Ae] at hu hv
 obtain⟨hqn,cap,hcap,hκ,rfl⟩:=hu
 obtain⟨ad,cap2,rfl,hc2,hor⟩:=BC hv hys hsz
 rcases hor with h|⟨b,off,vs,rfl,hin,hE⟩
 ·exact absurd h hpos
 obtain⟨h5,h6⟩:=D5 hE
 obtain⟨i,ht,hi,hisz,hib,hiz⟩:=A6 hs
 obtain⟨us,rest,et,hb,hr,h1,hM,hκ1⟩:=hw.rep.obj q cs hq
 have hul:us.length=cs.length:=Ay hr
 have hvl0:vs.length=ys.length*sz:=B8 hE
 have hvl:vs.length=ys.length*i.size:=by rw[hvl0,hisz]
 have hfl:(Aa ys).length=vs.length:=(Ay h5).symm
 rw[Nat.add_mul] at hroom
 have hroom':len+ys.length<=cap:=by
  have:(len+ys.length)*sz<=cap*sz:=by rw[hκ, ←hκ1,length_append,Nat.add_mul];omega
  exact Nat.le_of_mul_le_mul_right this hsz
 have hone:∀u∈vs,u.oneCell'=true:=Ck h6 h5
 have hfit:len*i.size+vs.length<=(us++rest).toArray.size:=by
  rw[size_toArray,length_append,hisz];omega
 have hrun:=run_append_room' (P:=P) w t o.type e et i ht hi (g.β q) len cap (us++rest).toArray hb ⟨b,off,none⟩ ys.length cap2 vs hvl (DA hw hin) hone hroom' hfit
 have hrow:(us++rest).toArray.toList.take (len*i.size)++vs++(us++rest).toArray.toList.drop (len*i.size+vs.length)=(us.take (len*sz)++vs++us.drop (len*sz+vs.length))++rest:=by
  simp only[hisz]
  rw[List.take_append_of_le_length (by omega),List.drop_append_of_le_length (by omega)]
  simp
 rw[hrow] at hrun
 have hw1:=hw.setObj (cs':=cs.take (len*sz)++Aa ys++cs.drop (len*sz+(Aa ys).length)) (w':=w.setRow (g.β q) ((us.take (len*sz)++vs++us.drop (len*sz+vs.length))++rest).toArray) hq (us:=us.take (len*sz)++vs++us.drop (len*sz+vs.length)) (rest:=rest) (e:=et) (setRow_heap w _ _ _ et _ hb)
  (by rw[←hκ1];simp only[length_append,length_take,length_drop];omega)
  (Aq (Aq (BD hr _) h5) (by rw[hfl];exact BP hr _))
  (fun c hc=>by
   rcases mem_append.1 hc with h|h
   ·rcases mem_append.1 h with h|h
    ·exact h1 c (mem_of_mem_take h)
    ·exact h6 c h
   ·exact h1 c (mem_of_mem_drop h)) (fun b hb=>setRow_other w _ _ _ hb) (by simp) rfl rfl rfl
 have:=hK g _ (.slice (some ⟨g.β q,0,none⟩) (len+ys.length) cap) hw1 (Gh.le_refl g) (by simp only[Ae];exact⟨hqn,cap,hroom',hκ,rfl⟩)
 unfold Oper.wp execOp
 simp only[ho,resolve,invoke,builtin,Sem.run_bind,Sem.run_pure,Result.andThen_ok,List.map_toArray,map_cons,map_nil,eq.1,eq.2,hrun]
 exact this
end
end Go.Dv

namespace Go.Nv
open Go.Dv
open List (all_eq_true append_assoc append_nil cons_append drop_eq_getElem_cons drop_of_length_le drop_zero ext_getElem? flatMap_cons flatten flatten_cons foldl_cons getD_eq_getElem?_getD getElem?_append_left getElem?_append_right getElem?_drop getElem?_eq_getElem getElem?_eq_none getElem?_map getElem?_set getElem?_take getElem?_toArray length length_append length_cons length_drop length_map length_nil length_pos_iff length_set length_take map map_append map_cons map_map map_nil mem_append mem_cons mem_map mem_of_getElem? mem_of_mem_drop mem_of_mem_take mem_or_eq_of_mem_set mem_singleton nil_append not_mem_nil replicate replicate_succ set_cons_succ set_cons_zero size_toArray take take_add_one take_append_drop take_left take_of_length_le take_succ_cons zipWith)
open Go.IntKind (wrap i64 u64)
inductive Kd where
 |pure
 |load (q off n:Nat)
 |eff
noncomputable def B2(τ:St)(q off n:Nat):Option (List D):=match τ.H[q]? with
 |some (some cs)=>cond (Nat.ble (off+n) cs.length) (some ((cs.drop off).take n)) none
 |_=>none
theorem Ev{τ:St}{q off n:Nat}{l:List D}(h:B2 τ q off n=some l):∃cs,τ.H[q]?=some (some cs)/\off+n<=cs.length/\(cs.drop off).take n=l:=by
 unfold B2 at h
 split at h
 ·rename_i cs hcs
  cases hb:Nat.ble (off+n) cs.length with
  |false=>rw[hb] at h;simp at h
  |true=>rw[hb] at h;simp at h;exact⟨cs,hcs,Nat.le_of_ble_eq_true hb,h⟩
 ·simp at h
theorem Gm{τ:St}{q off n:Nat}{cs:List D}(h:τ.H[q]?=some (some cs))(hl:off+n<=cs.length):B2 τ q off n=some ((cs.drop off).take n):=by
 unfold B2
 rw[h]
 simp only[Nat.ble_eq_true_of_le hl,cond_true]
def KdOK(P:Program)(o:Oper)(ds:List D)(σ:St)(d:D)(σ':St):Kd->Prop
 |.pure=>σ'=σ/\∀τ,Ai P o ds τ d τ
 |.load q off n=>σ'=σ/\(B2 σ q off n).isSome=true/\∀τ,B2 τ q off n=B2 σ q off n->Ai P o ds τ d τ
 |.eff=>Ai P o ds σ d σ'
theorem KdOK.op{P:Program}{o:Oper}{ds:List D}{σ σ':St}{d:D}{kd:Kd}(h:KdOK P o ds σ d σ' kd):Ai P o ds σ d σ':=by
 cases kd with
 |pure=>obtain⟨rfl,h⟩:=h;exact h _
 |load q off n=>obtain⟨rfl,_,h⟩:=h;exact h _ rfl
 |eff=>exact h
abbrev KO:=Sc->D->St->Kd->Prop
def VOK(P:Program)(o:Oper)(ds:List D)(σ:St)(K:KO):Prop:=∃s d σ' kd,K s d σ' kd/\KdOK P o ds σ d σ' kd
def memQ(l:List Nat)(t:Nat):Bool:=l.any (Nat.beq t)
noncomputable def DD(own:List (Nat×Nat×List V))(k:Nat):Bool:=own.all fun x=> !Nat.beq x.1 k
theorem Cn{own:List (Nat×Nat×List V)}{k:Nat}(h:DD own k=true):∀x∈own,x.1≠k:=fun x hx e=>by
 have:=all_eq_true.1 h x hx
 rw[e,Nat.beq_refl] at this;simp at this
noncomputable def ownK{β:Type}(own:List (Nat×Nat×List V))(k sz:Nat)(zs:List V)(K:List (Nat×Nat×List V)->β):β:=
 List.rec (motive:=fun _=>(List (Nat×Nat×List V)->β)->β) (fun K=>K []) (fun x _ ih K=>ih fun r=>Bool.rec (K (x::r)) (K ((k,sz,zs)::r)) (Nat.beq x.1 k)) own K
theorem ownK_eq{β:Type}(k sz:Nat)(zs:List V):∀(own:List (Nat×Nat×List V)) (K:List (Nat×Nat×List V)->β),ownK own k sz zs K=K (own.map (Fy k sz zs))
 |[],_=>rfl
 |x::own,K=>by
  have h:ownK (x::own) k sz zs K=ownK own k sz zs fun r=>Bool.rec (K (x::r)) (K ((k,sz,zs)::r)) (Nat.beq x.1 k):=rfl
  rw[h,ownK_eq k sz zs own]
  simp only[map_cons,Fy]
  by_cases e:x.1=k
  ·rw[if_pos e,e,Nat.beq_refl]
  ·rw[if_neg e,show Nat.beq x.1 k=false from by cases h:Nat.beq x.1 k with|false=>rfl|true=>exact absurd (Nat.eq_of_beq_eq_true h) e]
noncomputable def ownGet(own:List (Nat×Nat×List V))(k:Nat):Option (Nat×List V):=
 List.rec none (fun x _ ih=>Bool.rec ih (some x.2) (Nat.beq x.1 k)) own
theorem ownGet_mem{k:Nat}{p:Nat×List V}:∀{own:List (Nat×Nat×List V)},ownGet own k=some p->(k,p.1,p.2)∈own
 |[],h=>by have:ownGet [] k=none:=rfl;rw[this] at h;simp at h
 |x::l,h=>by
  have e:ownGet (x::l) k=Bool.rec (ownGet l k) (some x.2) (Nat.beq x.1 k):=rfl
  rw[e] at h
  cases hb:Nat.beq x.1 k with
  |false=>rw[hb] at h;exact List.mem_cons_of_mem _ (ownGet_mem h)
  |true=>
   rw[hb] at h
   have:=Nat.eq_of_beq_eq_true hb;subst this
   simp at h;subst h;simp
abbrev Ar(n by':Nat):Prop:=n*by'<=140737488355328/\n<=140737488355328
section
variable {P : Program} {o : Oper} {σ : St}
theorem H5{x y:Operand}{t:TypeId}(ho:o.op=.call { callee:=.builtin .append,args:= #[x,y],argTypes:= #[t,t]}){e:TypeId}{sz by':Nat}{z:Value}(hs:BJ P t=some (e,sz,by',some z))(hzc:z.cells.size=sz)
  (k:Nat) (hk:∀x∈σ.own,x.1≠k) (h0:0<sz) {ys:List V} (hsy:∀y∈ys,y.size=sz) (hlen:ys.length*by'<=140737488355328) (hlen2:ys.length<=140737488355328):
  Ai P o [.v .nils,.v (.list ys)] σ (.acc k ys) ⟨σ.H,(k,sz,ys)::σ.own⟩:=by
 intro E g a w K Q hw hds hK
 simp only[ho,Op.operands,Call.operands] at hds
 obtain⟨u,v,eq,h1,h2⟩:=Ap.1 (by simpa using hds)
 simp only[List.cons.injEq,and_true] at eq
 simp only[Ae,BY] at h1 h2
 subst h1
 obtain⟨hw1,hle1⟩:=hw.addOwn (k:=k) (sz:=sz) (xs:=[]) (u:=.slice none 0 0) hk ⟨h0,by simp⟩ (Cj _) (.inl ⟨none,rfl⟩) (fun b hb=>by simp[BG] at hb)
 obtain⟨u',w',g',hrun,hw',hle,hr⟩:=append_core (P:=P) (ty:=o.type) hw1 hs hzc (k:=k) (xs:=[]) (by simp) hsy (by simpa using hlen) (by simpa using hlen2) (u:=.slice none 0 0) (by simp) (h2.mono hle1.M)
 have hown:σ.own.map (Fy k sz ys)=σ.own:=by
  conv=>rhs;rw[←List.map_id σ.own]
  exact List.map_congr_left fun x hx=>by simp[Fy,hk x hx]
 simp only[nil_append,map_cons,hown] at hw' hr
 have e1:Fy k sz ys (k,sz,[])=(k,sz,ys):=by simp[Fy]
 rw[e1] at hw'
 have:=hK g' w' u' hw' (Gh.le_trans hle1 hle) hr
 unfold Oper.wp execOp
 simp only[ho,resolve,invoke,builtin,Sem.run_bind,Sem.run_pure,Result.andThen_ok,List.map_toArray,map_cons,map_nil,eq.1,eq.2,hrun]
 exact this
theorem op_buildSlice0A{t:TypeId}{parts:Array (Nat×Operand)}(ho:o.op=.buildSlice t 0 parts)(hp:parts= #[]){e:TypeId}{sz by':Nat}{z:Option Value}(hs:BJ P t=some (e,sz,by',z))(hsz:0<sz)(k:Nat)(hk:∀x∈σ.own,x.1≠k):
  Ai P o [] σ (.acc k []) ⟨σ.H,(k,sz,[])::σ.own⟩:=by
 intro E g a w K Q hw hds hK
 obtain⟨i,hu,hi,rfl,rfl,rfl⟩:=A6 hs
 subst hp
 have hw1:=hw.alloc (.cells #[] e (0,0))
 obtain⟨hw2,hle2⟩:=hw1.addOwn (k:=k) (sz:=i.size) (xs:=[]) (u:=.slice (some ⟨w.heap.size,0,none⟩) 0 0) hk ⟨hsz,by simp⟩ (by rw[AO];exact⟨_,0,rfl,Nat.le_refl _,.inl rfl⟩) (.inl ⟨_,rfl⟩) (fun b hb=>by simp[BG] at hb)
 have:=hK _ _ (.slice (some ⟨w.heap.size,0,none⟩) 0 0) hw2 hle2 (by simp only[Ae];exact⟨by rw[AO];exact⟨_,0,rfl,Nat.le_refl _,.inl rfl⟩,by simp⟩)
 unfold Oper.wp execOp
 simpa[ho,Instr.buildSlice,run_underlying hu,sizeOf,typeInfo,hi,Instr.fill,newRow,Oper.upon,show Array.range 0= #[] from rfl] using this
end
noncomputable def vLoad(P:Program)(t:TypeId)(q off:Nat)(σ:St)(s:Sc)(K:KO):Prop:=match CZ P t with
 |some (1,false)=>(match s with
  |.h (.m d) s=>(match σ.H[q]? with
   |some (some cs)=>cs[off]?=some d/\K s d σ (.load q off 1)
   |_=>False)
  |s=>(match σ.H[q]? with
   |some (some cs)=>(match cs[off]? with
    |some d=>K s d σ (.load q off 1)
    |none=>False)
   |_=>False))
 |some (n,true)=>(match s with
  |.h (.m (.dagg ds)) s=>(match σ.H[q]? with
   |some (some cs)=>off+n<=cs.length/\(cs.drop off).take n=ds/\K s (.dagg ds) σ (.load q off n)
   |_=>False)
  |.h (.m (.v (.agg xs))) s=>(match σ.H[q]? with
   |some (some cs)=>off+n<=cs.length/\(cs.drop off).take n=xs.map .v/\K s (.v (.agg xs)) σ (.load q off n)
   |_=>False)
  |s=>match σ.H[q]? with
  |some (some cs)=>cond (Nat.ble (off+n) cs.length) (match CI ((cs.drop off).take n) with
   |some xs=>K s (.v (.agg xs)) σ (.load q off n)
   |none=>False) False
  |_=>False)
 |_=>False
theorem drop_take_one{cs:List D}{off:Nat}{d:D}(h:cs[off]?=some d):off+1<=cs.length/\(cs.drop off).take 1=[d]:=by
 have hlt:=(List.getElem?_eq_some_iff.1 h).1
 refine⟨hlt,?_⟩
 rw[drop_eq_getElem_cons hlt,take_succ_cons,List.take_zero,(List.getElem?_eq_some_iff.1 h).2]
theorem load1_ok{P:Program}{o:Oper}{σ:St}{t:TypeId}{a:Operand}(ho:o.op=.load t a)(ht:CZ P t=some (1,false)){q off:Nat}{cs:List D}{d:D}(hq:σ.H[q]?=some (some cs))(hd:cs[off]?=some d):
  KdOK P o [.ptr q off] σ d σ (.load q off 1):=by
 obtain⟨h1,h2⟩:=drop_take_one hd
 have hc:=Gm hq h1
 refine⟨rfl,by rw[hc];rfl,fun τ hτ=>?_⟩
 rw[hc,h2] at hτ
 obtain⟨cs',h3,h4,h5⟩:=Ev hτ
 refine op_loadP1 ho ht h3 ?_
 have:((cs'.drop off).take 1)[0]?=some d:=by rw[h5];rfl
 simpa using this
theorem vLoad_ok{P:Program}{t:TypeId}{q off:Nat}{σ:St}{s:Sc}{K:KO}(h:vLoad P t q off σ s K){o:Oper}{a:Operand}(ho:o.op=.load t a):VOK P o [.ptr q off] σ K:=by
 unfold vLoad at h
 split at h
 ·rename_i ht
  split at h
  ·split at h
   ·rename_i cs hq;exact⟨_,_,_,_,h.2,load1_ok ho ht hq h.1⟩
   ·exact h.elim
  ·split at h
   ·rename_i cs hq
    split at h
    ·rename_i d hd;exact⟨_,_,_,_,h,load1_ok ho ht hq hd⟩
    ·exact h.elim
   ·exact h.elim
 ·rename_i n ht
  split at h
  ·split at h
   ·rename_i cs hq
    obtain⟨hl,hd,h2⟩:=h
    have hc:=Gm hq hl
    refine⟨_,_,_,_,h2,rfl,by rw[hc];rfl,fun τ hτ=>?_⟩
    rw[hc] at hτ
    obtain⟨cs',h3,h4,h5⟩:=Ev hτ
    exact op_loadPD ho ht h3 h4 (by rw[h5];exact hd)
   ·exact h.elim
  ·split at h
   ·rename_i cs hq
    obtain⟨hl,hd,h2⟩:=h
    have hc:=Gm hq hl
    refine⟨_,_,_,_,h2,rfl,by rw[hc];rfl,fun τ hτ=>?_⟩
    rw[hc] at hτ
    obtain⟨cs',h3,h4,h5⟩:=Ev hτ
    exact op_loadPA ho ht h3 h4 (by rw[h5,hd];exact E9 _)
   ·exact h.elim
  split at h
  ·rename_i cs hq
   obtain⟨h1,h2⟩:=Am h
   split at h2
   ·rename_i xs hx
    have hl:=Nat.le_of_ble_eq_true h1
    have hc:=Gm hq hl
    refine⟨_,_,_,_,h2,rfl,by rw[hc];rfl,fun τ hτ=>?_⟩
    rw[hc] at hτ
    obtain⟨cs',h3,h4,h5⟩:=Ev hτ
    exact op_loadPA ho ht h3 h4 (by rw[h5];exact F7 hx)
   ·exact h2.elim
  ·exact h.elim
 ·exact h.elim
noncomputable def vStore(P:Program)(t:TypeId)(q off:Nat)(d:D)(σ:St)(s:Sc)(K:KO):Prop:=match CZ P t with
 |some (1,false)=>(match σ.H[q]? with
  |some (some cs)=>cond d.one (match s with
   |.h .w s=>off<cs.length/\Co σ.H q (some (cs.set off d)) fun H=>K s .undef ⟨H,σ.own⟩ .eff
   |s=>cond (Nat.blt off cs.length) (Co cs off d fun cs=>Co σ.H q (some cs) fun H=>K s .undef ⟨H,σ.own⟩ .eff) False) False
  |_=>False)
 |some (n,true)=>(match σ.H[q]? with
  |some (some cs)=>(match s with
   |.h .ww s=>cond (d.sto&&Nat.beq (B6 d).length n) (off+n<=cs.length/\Co σ.H q (some (cs.take off++B6 d++cs.drop (off+n))) fun H=>K s .undef ⟨H,σ.own⟩ .eff) False
   |s=>cond (d.sto&&Nat.beq (B6 d).length n&&Nat.ble (off+n) cs.length) (AM (cs.take off++B6 d++cs.drop (off+n)) fun cs=>Co σ.H q (some cs) fun H=>K s .undef ⟨H,σ.own⟩ .eff) False)
  |_=>False)
 |_=>False
theorem vStore_ok{P:Program}{t:TypeId}{q off:Nat}{d:D}{σ:St}{s:Sc}{K:KO}(h:vStore P t q off d σ s K){o:Oper}{a b:Operand}(ho:o.op=.store t a b):VOK P o [.ptr q off,d] σ K:=by
 unfold vStore at h
 split at h
 ·rename_i ht
  split at h
  ·rename_i cs hq
   obtain⟨h1,h2⟩:=Am h
   split at h2
   ·rw[AR] at h2
    exact⟨_,_,_,_,h2.2,op_store1 ho h1 ht hq h2.1⟩
   ·obtain⟨h3,h4⟩:=Am h2
    rw[AR,AR] at h4
    exact⟨_,_,_,_,h4,op_store1 ho h1 ht hq (Nat.le_of_ble_eq_true h3)⟩
  ·exact h.elim
 ·rename_i n ht
  split at h
  ·rename_i cs hq
   split at h
   ·obtain⟨h1,h2,h3⟩:=Am h
    simp only[Bool.and_eq_true] at h1
    rw[AR] at h3
    exact⟨_,_,_,_,h3,op_store ho h1.1 ht (Nat.eq_of_beq_eq_true h1.2) hq h2⟩
   obtain⟨h1,h2⟩:=Am h
   simp only[Bool.and_eq_true] at h1
   rw[AI,AR] at h2
   exact⟨_,_,_,_,h2,op_store ho h1.1.1 ht (Nat.eq_of_beq_eq_true h1.1.2) hq (Nat.le_of_ble_eq_true h1.2)⟩
  ·exact h.elim
 ·exact h.elim
structure GxOK(H H':List (Option (List D)))(q:Nat)(l:List D):Prop where
 eq:H'=H.set q none++[some l]
noncomputable def vApp(P:Program)(t:TypeId)(x y:D)(σ:St)(s:Sc)(K:KO):Prop:=match BJ P t,y with
 |some (_,sz,by',some z),.v (.list ys)=>cond (Nat.beq z.cells.size sz&&Nat.blt 0 sz) (match x with
  |.acc k xs=>(match ownGet σ.own k with
   |some (sz',xs')=>cond (Nat.beq sz' sz) (xs'=xs/\Ar (xs.length+ys.length) by'/\(match s with
    |.h .w s=>(∀y∈ys,y.size=sz)/\ownK σ.own k sz (xs++ys) fun own=>K s (.acc k (xs++ys)) ⟨σ.H,own⟩ .eff
    |s=>cond (allSz sz ys) (ownK σ.own k sz (xs++ys) fun own=>K s (.acc k (xs++ys)) ⟨σ.H,own⟩ .eff) False)) False
   |none=>False)
  |.v .nils=>(match s with
   |.h (.a k) (.h .w s)=>cond (DD σ.own k) (Ar ys.length by'/\(∀y∈ys,y.size=sz)/\K s (.acc k ys) ⟨σ.H,(k,sz,ys)::σ.own⟩ .eff) False
   |.h (.a k) s=>cond (DD σ.own k&&allSz sz ys) (Ar ys.length by'/\K s (.acc k ys) ⟨σ.H,(k,sz,ys)::σ.own⟩ .eff) False
   |.h (.gx _ H') s=>ys≠ []/\(∀y∈ys,y.size=sz)/\Ar ys.length by'/\H'=σ.H++[some (Aa ys)]/\K s (.gro σ.H.length ys.length sz) ⟨H',σ.own⟩ .eff
   |.h .g s=>ys≠ []/\(∀y∈ys,y.size=sz)/\Ar ys.length by'/\A9 σ.H (some (Aa ys)) fun H=>K s (.gro σ.H.length ys.length sz) ⟨H,σ.own⟩ .eff
   |_=>False)
  |.gro q len sz'=>(match s with
   |.h (.gx cs H') s=>cond (Nat.beq sz' sz) (σ.H[q]?=some (some cs)/\cs.length=len*sz/\ys≠ []/\(∀y∈ys,y.size=sz)/\Ar (len+ys.length) by'/\GxOK σ.H H' q (cs++Aa ys)/\K s (.gro σ.H.length (len+ys.length) sz) ⟨H',σ.own⟩ .eff) False
   |.h .w s=>(match σ.H[q]? with
    |some (some cs)=>cond (Nat.beq sz' sz) ((len+ys.length)*sz<=cs.length/\ys≠ []/\(∀y∈ys,y.size=sz)/\Co σ.H q (some (cs.take (len*sz)++Aa ys++cs.drop (len*sz+(Aa ys).length))) fun H=>K s (.gro q (len+ys.length) sz) ⟨H,σ.own⟩ .eff) False
    |_=>False)
   |s=>match σ.H[q]? with
   |some (some cs)=>cond (Nat.beq sz' sz) (cs.length=len*sz/\ys≠ []/\(∀y∈ys,y.size=sz)/\Ar (len+ys.length) by'/\Co σ.H q none fun H=>A9 H (some (cs++Aa ys)) fun H=>K s (.gro σ.H.length (len+ys.length) sz) ⟨H,σ.own⟩ .eff) False
   |_=>False)
  |_=>False) False
 |_,_=>False
theorem vApp_ok{P:Program}{t:TypeId}{x y:D}{σ:St}{s:Sc}{K:KO}(h:vApp P t x y σ s K){o:Oper}{a b:Operand}(ho:o.op=.call { callee:=.builtin .append,args:= #[a,b],argTypes:= #[t,t]}):VOK P o [x,y] σ K:=by
 unfold vApp at h
 split at h
 ·rename_i e sz by' z ys hs
  obtain⟨h1,h2⟩:=Am h
  simp only[Bool.and_eq_true] at h1
  have hz:=Nat.eq_of_beq_eq_true h1.1
  have hp:=Nat.le_of_ble_eq_true h1.2
  split at h2
  ·rename_i k xs
   split at h2
   ·rename_i sz' xs' hg
    obtain⟨h3,rfl,h4,h5⟩:=Am h2
    have:=Nat.eq_of_beq_eq_true h3;subst this
    have hm:=ownGet_mem hg
    split at h5
    ·rw[ownK_eq] at h5
     exact⟨_,_,_,_,h5.2,op_append ho hs hz hm h5.1 h4.1 h4.2⟩
    ·obtain⟨h6,h7⟩:=Am h5
     rw[ownK_eq] at h7
     exact⟨_,_,_,_,h7,op_append ho hs hz hm (allSz_ok h6) h4.1 h4.2⟩
   ·exact h2.elim
  ·split at h2
   ·obtain⟨h3,h4,h5,h6⟩:=Am h2
    exact⟨_,_,_,_,h6,H5 ho hs hz _ (Cn h3) hp h5 h4.1 h4.2⟩
   ·obtain⟨h3,h4,h5⟩:=Am h2
    rw[Bool.and_eq_true] at h3
    exact⟨_,_,_,_,h5,H5 ho hs hz _ (Cn h3.1) hp (allSz_ok h3.2) h4.1 h4.2⟩
   ·obtain⟨h3,h4,h5,rfl,h6⟩:=h2
    exact⟨_,_,_,_,h6,op_appendG0V ho hs hz hp h4 h3 h5.1 h5.2⟩
   ·obtain⟨h3,h4,h5,h6⟩:=h2
    rw[A7] at h6
    exact⟨_,_,_,_,h6,op_appendG0V ho hs hz hp h4 h3 h5.1 h5.2⟩
   ·exact h2.elim
  ·rename_i q len sz'
   split at h2
   ·obtain⟨h3,hq,h4,h5,h6,h7,h9,h8⟩:=Am h2
    have:=Nat.eq_of_beq_eq_true h3;subst this
    have e:=h9.eq;subst e
    exact⟨_,_,_,_,h8,op_appendGV ho hs hz hp hq h4 h6 h5 h7.1 h7.2⟩
   ·split at h2
    ·rename_i cs hq
     obtain⟨h3,h4,h5,h6,h7⟩:=Am h2
     have:=Nat.eq_of_beq_eq_true h3;subst this
     rw[AR] at h7
     exact⟨_,_,_,_,h7,op_appendGI ho hs hp hq h4 h6 h5⟩
    ·exact h2.elim
   split at h2
   ·rename_i cs hq
    obtain⟨h3,h4,h5,h6,h7,h8⟩:=Am h2
    have:=Nat.eq_of_beq_eq_true h3;subst this
    rw[AR,A7] at h8
    exact⟨_,_,_,_,h8,op_appendGV ho hs hz hp hq h4 h6 h5 h7.1 h7.2⟩
   ·exact h2.elim
  ·exact h2.elim
 ·exact h.elim
noncomputable def vMake(P:Program)(t:TypeId)(k1 k2:IntKind)(a b:Int)(σ:St)(s:Sc)(K:KO):Prop:=match BJ P t with
 |some (_,sz,by',some z)=>(match s with
  |.h (.a k) s=>cond (Nat.blt 0 sz&&DD σ.own k) (a=0/\0<=b/\(by':Int)*b<=281474976710656/\b<=9223372036854775807/\K s (.acc k []) ⟨σ.H,(k,sz,[])::σ.own⟩ .eff) False
  |.h .g s=>(match Eu z.cells.toList with
   |some zs=>cond (Nat.beq z.cells.size sz) (a=0/\0<=b/\(by':Int)*b<=281474976710656/\b<=9223372036854775807/\A9 σ.H (some ((replicate b.toNat zs).flatten.map .v)) fun H=>K s (.gro σ.H.length 0 sz) ⟨H,σ.own⟩ .eff) False
   |none=>False)
  |s=>(match constN z with
   |some zv=>cond (Nat.beq sz 1) (a=b/\0<=b/\(by':Int)*b<=281474976710656/\b<=9223372036854775807/\A9 σ.H (some (replicate b.toNat (.v zv))) fun H=>K s (.arr σ.H.length 0 b.toNat) ⟨H,σ.own⟩ .eff) False
   |none=>False))
 |_=>False
theorem vMake_ok{P:Program}{t:TypeId}{k1 k2:IntKind}{a b:Int}{σ:St}{s:Sc}{K:KO}(h:vMake P t k1 k2 a b σ s K){o:Oper}{x y:Operand}(ho:o.op=.makeSlice t x y):VOK P o [.v (.int k1 a),.v (.int k2 b)] σ K:=by
 unfold vMake at h
 split at h
 ·rename_i e sz by' z hs
  split at h
  ·obtain⟨h1,rfl,h2,h3,h4,h5⟩:=Am h
   rw[Bool.and_eq_true] at h1
   exact⟨_,_,_,_,h5,op_make0 ho hs (Nat.le_of_ble_eq_true h1.1) _ (Cn h1.2) h2 h3 h4⟩
  ·split at h
   ·rename_i zs hzs
    obtain⟨h1,rfl,h2,h3,h4,h5⟩:=Am h
    rw[A7] at h5
    exact⟨_,_,_,_,h5,op_makeZ ho hs hzs (Nat.eq_of_beq_eq_true h1) h2 h3 h4⟩
   ·exact h.elim
  ·split at h
   ·rename_i zv hzv
    obtain⟨h1,rfl,h2,h3,h4,h5⟩:=Am h
    have:=Nat.eq_of_beq_eq_true h1;subst this
    rw[A7] at h5
    exact⟨_,_,_,_,h5,op_makeN ho hs hzv h2 h3 h4⟩
   ·exact h.elim
 ·exact h.elim
def qOf:List D->Option Nat
 |[]=>none
 |.ptr q _::_=>some q
 |.arr q _ _::_=>some q
 |_::ds=>qOf ds
noncomputable def c1Map(q:Nat):List D->Option (List D)
 |[]=>some []
 |.ptr q' off::ds=>cond (Nat.beq q' q) (match c1Map q ds with
  |some dc=>some (.ptr 0 off::dc)
  |none=>none) none
 |.arr q' off len::ds=>cond (Nat.beq q' q) (match c1Map q ds with
  |some dc=>some (.arr 0 off len::dc)
  |none=>none) none
 |d::ds=>cond d.pl (match c1Map q ds with
  |some dc=>some (d::dc)
  |none=>none) none
theorem cond_some{α:Type}{b:Bool}{x:Option α}{r:α}(h:cond b x none=some r):b=true/\x=some r:=by cases b<;>simp_all
theorem GQ{q:Nat}:∀{ds dc:List D},c1Map q ds=some dc->Dh q ds dc
 |[],dc,h=>by simp[c1Map] at h;subst h;exact .nil
 |d::ds,dc,h=>by
  unfold c1Map at h
  split at h
  ·rename_i e;simp at e
  ·rename_i q' off ds' e;simp only[List.cons.injEq] at e;obtain⟨rfl,rfl⟩:=e
   obtain⟨h1,h2⟩:=cond_some h
   have:=Nat.eq_of_beq_eq_true h1;subst this
   split at h2
   ·rename_i dc' hd;simp at h2;subst h2;exact .ptr (GQ hd)
   ·simp at h2
  ·rename_i q' off len ds' e;simp only[List.cons.injEq] at e;obtain⟨rfl,rfl⟩:=e
   obtain⟨h1,h2⟩:=cond_some h
   have:=Nat.eq_of_beq_eq_true h1;subst this
   split at h2
   ·rename_i dc' hd;simp at h2;subst h2;exact .arr (GQ hd)
   ·simp at h2
  ·rename_i d' ds' _ _ e;simp only[List.cons.injEq] at e;obtain⟨rfl,rfl⟩:=e
   obtain⟨h1,h2⟩:=cond_some h
   split at h2
   ·rename_i dc' hd;simp at h2;subst h2;exact .pl h1 (GQ hd)
   ·simp at h2
noncomputable def vCallE(P:Program)(f:FuncId)(fs cs:List V)(ds:List D)(σ:St)(s:Sc)(K:KO):Prop:=match s with
 |.h (.ck k k' sz xs) s=>cond (DD σ.own k) (match toVsC ds with
  |some ys=>Ab P f ((fs++ys++cs).map .v) ⟨[],[]⟩ (.acc k' xs) ⟨[],[(k',sz,xs)]⟩/\K s (.acc k xs) ⟨σ.H,(k,sz,xs)::σ.own⟩ .eff
  |none=>False) False
 |.h (.ckn k k' sz xs) s=>cond (DD σ.own k) (match CI ds with
  |some ys=>Ab P f ((fs++ys++cs).map .v) ⟨[],[]⟩ (.acc k' xs) ⟨[],[(k',sz,xs)]⟩/\K s (.acc k xs) ⟨σ.H,(k,sz,xs)::σ.own⟩ .eff
  |none=>False) False
 |.h (.cj j Hc os len) s=>(match toVsC ds,Hc[j]? with
  |some ys,some (some os')=>cond (D.pls os') (os=os'/\Ab P f ((fs++ys++cs).map .v) ⟨[],[]⟩ (.arr j 0 len) ⟨Hc,[]⟩/\A9 σ.H (some os') fun H=>K s (.arr σ.H.length 0 len) ⟨H,σ.own⟩ .eff) False
  |_,_=>False)
 |.h (.c1 os' d) s=>(match qOf ds with
  |some q=>(match σ.H[q]?,c1Map q (ds.map D.un) with
   |some (some os),some dc=>cond (D.pls os&&D.pls os'&&d.pl) (Ab P f (fs.map .v++dc++cs.map .v) ⟨[some os],[]⟩ d ⟨[some os'],[]⟩/\Co σ.H q (some os') fun H=>K s d ⟨H,σ.own⟩ .eff) False
   |_,_=>False)
  |none=>False)
 |.h (.c1k k k' sz os' xs) s=>(match qOf ds with
  |some q=>(match σ.H[q]?,c1Map q (ds.map D.un) with
   |some (some os),some dc=>cond (D.pls os&&D.pls os'&&DD σ.own k) (Ab P f (fs.map .v++dc++cs.map .v) ⟨[some os],[]⟩ (.acc k' xs) ⟨[some os'],[(k',sz,xs)]⟩/\Co σ.H q (some os') fun H=>K s (.acc k xs) ⟨H,(k,sz,xs)::σ.own⟩ .eff) False
   |_,_=>False)
  |none=>False)
 |s=>vPure P {(default:Oper) with op:=.call { callee:=.value (.func f),args:= #[],argTypes:= #[]}} (.v (.fn f fs cs)::ds.map D.un) s fun s d=>K s d σ .pure
theorem vCallE_ok{P:Program}{f:FuncId}{fs cs:List V}{ds:List D}{σ:St}{s:Sc}{K:KO}(h:vCallE P f fs cs ds σ s K){o:Oper}{c:Call}{fo:Operand}(ho:o.op=.call c)(hc:c.callee=.value fo):VOK P o (.v (.fn f fs cs)::ds) σ K:=by
 unfold vCallE at h
 split at h
 ·obtain⟨h1,h2⟩:=Am h
  split at h2
  ·rename_i ys hy
   refine⟨_,_,_,_,h2.2,BQ (fun g us hr=>?_) (op_call0_own (ds:=ys.map .v) ho hc (BB ys) _ (Cn h1) (by simpa[map_append] using h2.1))⟩
   simp only[Ac] at hr⊢
   obtain⟨u,us',e,h3,h4⟩:=hr
   exact⟨u,us',e,h3,Ez hy h4⟩
  ·exact h2.elim
 ·obtain⟨h1,h2⟩:=Am h
  split at h2
  ·rename_i ys hy
   refine⟨_,_,_,_,h2.2,BQ (fun g us hr=>?_) (op_call0_own (ds:=ys.map .v) ho hc (BB ys) _ (Cn h1) (by simpa[map_append] using h2.1))⟩
   simp only[Ac] at hr⊢
   obtain⟨u,us',e,h3,h4⟩:=hr
   exact⟨u,us',e,h3,toVsN_rep hy h4⟩
  ·exact h2.elim
 ·split at h
  ·rename_i ys os' hy hj
   obtain⟨h1,_,h2,h3⟩:=Am h
   rw[A7] at h3
   refine⟨_,_,_,_,h3,BQ (fun g us hr=>?_) (DJ (ds:=ys.map .v) ho hc (BB ys) hj h1 (by simpa[map_append] using h2))⟩
   simp only[Ac] at hr⊢
   obtain⟨u,us',e,h3,h4⟩:=hr
   exact⟨u,us',e,h3,Ez hy h4⟩
  ·exact h.elim
 ·split at h
  ·rename_i q hq
   split at h
   ·rename_i os dc hos hdc
    obtain⟨h1,h2,h3⟩:=Am h
    simp only[Bool.and_eq_true] at h1
    rw[AR] at h3
    refine⟨_,_,_,_,h3,BQ (fun g us hr=>?_) (GE (ds:=ds.map D.un) ho hc hos h1.1.1 h1.1.2 (GQ hdc) h1.2 h2)⟩
    simp only[Ac] at hr⊢
    obtain⟨u,us',e,h3,h4⟩:=hr
    exact⟨u,us',e,h3,DP h4⟩
   ·exact h.elim
  ·exact h.elim
 ·split at h
  ·rename_i q hq
   split at h
   ·rename_i os dc hos hdc
    obtain⟨h1,h2,h3⟩:=Am h
    simp only[Bool.and_eq_true] at h1
    rw[AR] at h3
    refine⟨_,_,_,_,h3,BQ (fun g us hr=>?_) (op_call1_own (ds:=ds.map D.un) ho hc hos h1.1.1 h1.1.2 (GQ hdc) _ (Cn h1.2) h2)⟩
    simp only[Ac] at hr⊢
    obtain⟨u,us',e,h3,h4⟩:=hr
    exact⟨u,us',e,h3,DP h4⟩
   ·exact h.elim
  ·exact h.elim
 ·have h':vCall P f fs cs (ds.map D.un) _ (fun s d=>K s d σ .pure):=h
  obtain⟨s',d,h1,h2⟩:=vCall_ok h' ho hc
  refine⟨_,_,_,_,h1,rfl,fun τ=>BQ (fun g us hr=>?_) (h2 τ)⟩
  simp only[Ac] at hr⊢
  obtain⟨u,us',e,h3,h4⟩:=hr
  exact⟨u,us',e,h3,DP h4⟩
noncomputable def vBuildA(P:Program)(t:TypeId)(len:Nat)(ps:List (Nat×Operand))(ds:List D)(k:Nat)(σ:St)(s:Sc)(K:KO):Prop:=match BJ P t with
 |some (_,sz,_,z)=>cond (DD σ.own k&&Nat.blt 0 sz) (match len with
  |0=>(match ps,ds with
   |[],[]=>K s (.acc k []) ⟨σ.H,(k,sz,[])::σ.own⟩ .eff
   |_,_=>False)
  |len+1=>(match CI ds with
   |some xs=>cond (rowQ ps 0&&Nat.beq ps.length (len+1)&&z.isSome&&Nat.ble ((len+1)*sz) 1000&&allSz sz xs) (K s (.acc k xs) ⟨σ.H,(k,sz,xs)::σ.own⟩ .eff) False
   |none=>False)) False
 |none=>False
theorem vBuildA_ok{P:Program}{t:TypeId}{len:Nat}{ps:Array (Nat×Operand)}{ds:List D}{k:Nat}{σ:St}{s:Sc}{K:KO}(h:vBuildA P t len ps.toList ds k σ s K){o:Oper}(ho:o.op=.buildSlice t len ps):VOK P o ds σ K:=by
 unfold vBuildA at h
 split at h
 ·rename_i e sz by' z hs
  obtain⟨h1,h2⟩:=Am h
  rw[Bool.and_eq_true] at h1
  have hp:=Nat.le_of_ble_eq_true h1.2
  split at h2
  ·split at h2
   ·rename_i hps
    exact⟨_,_,_,_,h2,op_buildSlice0A ho (by apply Array.ext';simpa using hps) hs hp _ (Cn h1.1)⟩
   ·exact h2.elim
  ·rename_i len
   split at h2
   ·rename_i xs hx
    obtain⟨h3,h4⟩:=Am h2
    simp only[Bool.and_eq_true] at h3
    obtain⟨⟨⟨⟨g1,g2⟩,g3⟩,g5⟩,g6⟩:=h3
    have hl:ps.size=len+1:=by have:=Nat.eq_of_beq_eq_true g2;simpa using this
    exact⟨_,_,_,_,h4,GF ho (rowQ_ok g1) hl hs g3 (F7 hx) (allSz_ok g6) (by omega) hp (by simpa using g5) _ (Cn h1.1)⟩
   ·exact h2.elim
 ·exact h.elim
noncomputable def vP(P:Program)(o:Oper)(ds:List D)(σ:St)(s:Sc)(K:KO):Prop:=vPure P o (ds.map D.un) s fun s d=>K s d σ .pure
theorem vP_ok{P:Program}{o:Oper}{ds:List D}{σ:St}{s:Sc}{K:KO}(h:vP P o ds σ s K):VOK P o ds σ K:=by
 obtain⟨s',d,h1,h2⟩:=vPure_ok h
 exact⟨_,_,_,_,h1,rfl,fun τ=>opOK_un (h2 τ)⟩
noncomputable def vAppZ(P:Program)(t tn:TypeId)(n:Int)(σ:St)(s:Sc)(K:KO):Prop:=match BJ P t,P.underlying tn with
 |some (_,sz,by',some z),some (.int _)=>cond (Nat.beq z.cells.size sz&&Nat.blt 0 sz) (0<n/\Ar n.toNat by'/\A9 σ.H (some []) fun H=>K s (.gro σ.H.length n.toNat sz) ⟨H,σ.own⟩ .eff) False
 |_,_=>False
theorem vAppZ_ok{P:Program}{t tn:TypeId}{kd:IntKind}{n:Int}{σ:St}{s:Sc}{K:KO}(h:vAppZ P t tn n σ s K){o:Oper}{a b:Operand}(ho:o.op=.call { callee:=.builtin .append,args:= #[a,b],argTypes:= #[t,tn]}):VOK P o [.v .nils,.v (.int kd n)] σ K:=by
 unfold vAppZ at h
 split at h
 ·rename_i e sz by' z k hs hu
  obtain⟨h1,h2,h3,h4⟩:=Am h
  rw[Bool.and_eq_true] at h1
  rw[A7] at h4
  exact⟨_,_,_,_,h4,op_appendZ ho hs (Nat.eq_of_beq_eq_true h1.1) (Nat.le_of_ble_eq_true h1.2) hu h2 h3.1 h3.2⟩
 ·exact h.elim
noncomputable def vCap(P:Program)(t:TypeId)(s:Sc)(σ:St)(K:KO):Prop:=match P.underlying t with
 |some (.slice _)=>K s (.v (.int .i64 0)) σ .pure
 |_=>False
noncomputable def vSl0(P:Program)(t:TypeId)(x:D)(i:Int)(σ:St)(s:Sc)(K:KO):Prop:=match x with
 |.v .nils=>(match P.underlying t with
  |some (.slice e)=>(match P.info? e with
   |some _=>i=0/\K s (.v .nils) σ .pure
   |none=>False)
  |_=>False)
 |.gro q _ sz=>(match s,BJ P t,σ.H[q]? with
  |.h (.a k) s,some (_,sz',_,_),some (some _)=>cond (Nat.beq sz' sz&&Nat.blt 0 sz&&DD σ.own k) (i=0/\Co σ.H q none fun H=>K s (.acc k []) ⟨H,(k,sz,[])::σ.own⟩ .eff) False
  |_,_,_=>False)
 |_=>False
theorem vSl0_ok{P:Program}{t:TypeId}{x:D}{kd:IntKind}{i:Int}{σ:St}{s:Sc}{K:KO}(h:vSl0 P t x i σ s K){o:Oper}{a b:Operand}(ho:o.op=.slice t a none (some b) none):VOK P o [x,.v (.int kd i)] σ K:=by
 unfold vSl0 at h
 split at h
 ·split at h
  ·rename_i e hu
   split at h
   ·rename_i inf hi
    obtain⟨rfl,h⟩:=h
    exact⟨_,_,_,_,h,rfl,fun τ=>op_sliceNils ho hu hi⟩
   ·exact h.elim
  ·exact h.elim
 ·rename_i q len sz
  split at h
  ·rename_i k s' e sz' by' z cs hs hq
   obtain⟨h1,rfl,h2⟩:=Am h
   simp only[Bool.and_eq_true] at h1
   have:=Nat.eq_of_beq_eq_true h1.1.1;subst this
   rw[AR] at h2
   exact⟨_,_,_,_,h2,op_sliceG0 ho hs (Nat.le_of_ble_eq_true h1.1.2) hq _ (Cn h1.2)⟩
  ·exact h.elim
 ·exact h.elim
noncomputable def vOpD(P:Program)(im:List Nat)(o:Oper)(ds:List D)(σ:St)(s:Sc)(K:KO):Prop:=match s with
 |.h (.o d σ') s=>Ai P o ds σ d σ'/\K s d σ' .eff
 |.h (.p d) s=>(∀τ,Ai P o ds τ d τ)/\K s d σ .pure
 |s=>match o.op with
  |.move _=>(match ds with
   |[d]=>K s d σ .pure
   |_=>False)
  |.assign _=>(match ds with
   |[d]=>K s d σ .pure
   |_=>False)
  |.pick _ _ _=>(match ds with
   |[.v (.bool b),d1,d2]=>Bool.rec (K s d2 σ .pure) (K s d1 σ .pure) b
   |_=>False)
  |.box _ _=>(match ds,o.dst with
   |[d],some t=>Bool.rec (cond d.sto (AM (B6 d) fun cs=>A9 σ.H (some cs) fun H=>K s (.ptr σ.H.length 0) ⟨H,σ.own⟩ .eff) False) (match d.toV with
    |some y=>K s (.v (.ref y)) σ .pure
    |none=>False) (memQ im t)
   |_,_=>False)
  |.alloc e=>(match ds,zeroN P e with
   |[],some xs=>AM (xs.map .v) fun cs=>A9 σ.H (some cs) fun H=>K s (.ptr σ.H.length 0) ⟨H,σ.own⟩ .eff
   |_,_=>False)
  |.store t _ _=>(match ds with
   |[.ptr q off,d]=>vStore P t q off d σ s K
   |_=>False)
  |.load t _=>(match ds with
   |[.ptr q off]=>vLoad P t q off σ s K
   |ds=>vP P o ds σ s K)
  |.makeSlice t _ _=>(match ds with
   |[.v (.int k1 a),.v (.int k2 b)]=>vMake P t k1 k2 a b σ s K
   |_=>False)
  |.build t ps=>(match s with
   |.h .g s=>cond (isStruct P t) (match bldTy P t,zipD ps.toList ds with
    |some (z,places),some xs=>(match fillD places (z.map .v) xs with
     |some out=>AM out fun out=>K s (.dagg out) σ .pure
     |none=>False)
    |_,_=>False) False
   |s=>vP P o ds σ s K)
  |.buildSlice t len ps=>(match s with
   |.h (.a k) s=>vBuildA P t len ps.toList ds k σ s K
   |.h .g s=>(match len,ps.toList,ds,BJ P t with
    |0,[],[],some (_,sz,_,_)=>A9 σ.H (some []) fun H=>K s (.gro σ.H.length 0 sz) ⟨H,σ.own⟩ .eff
    |_,_,_,_=>False)
   |s=>vP P o ds σ s K)
  |.slice t _ none (some _) none=>(match ds with
   |[.v .nils,.v (.int _ i)]=>vSl0 P t (.v .nils) i σ s K
   |[.gro q n sz,.v (.int _ i)]=>vSl0 P t (.gro q n sz) i σ s K
   |ds=>vP P o ds σ s K)
  |.call c=>(match c.callee,ds with
   |.builtin .append,[.v .nils,.v (.int _ n)]=>(match c.args.toList,c.argTypes.toList with
    |[_,_],[t,t']=>vAppZ P t t' n σ s K
    |_,_=>False)
   |.builtin .append,[x,y]=>(match c.args.toList,c.argTypes.toList with
    |[_,_],[t,t']=>cond (Nat.beq t t') (vApp P t x y.un σ s K) False
    |_,_=>False)
   |.builtin .cap,[.v .nils]=>(match c.args.toList,c.argTypes.toList with
    |[_],[t]=>vCap P t s σ K
    |_,_=>False)
   |.value _,.v (.fn f fs cs)::ds=>vCallE P f fs cs ds σ s K
   |_,ds=>vP P o ds σ s K)
  |_=>vP P o ds σ s K
theorem vOpD_ok{P:Program}{im:List Nat}{o:Oper}{ds:List D}{σ:St}{s:Sc}{K:KO}(h:vOpD P im o ds σ s K):VOK P o ds σ K:=by
 unfold vOpD at h
 split at h
 ·exact⟨_,_,_,_,h.2,h.1⟩
 ·exact⟨_,_,_,_,h.2,rfl,h.1⟩
 ·split at h
  ·rename_i x ho
   split at h
   ·exact⟨_,_,_,_,h,rfl,fun τ=>op_move ho⟩
   ·exact h.elim
  ·rename_i x ho
   split at h
   ·exact⟨_,_,_,_,h,rfl,fun τ=>Hh ho⟩
   ·exact h.elim
  ·rename_i x y z ho
   split at h
   ·rename_i b d1 d2
    cases b
    ·exact⟨_,_,_,_,h,rfl,fun τ=>op_pick ho (b:=false)⟩
    ·exact⟨_,_,_,_,h,rfl,fun τ=>op_pick ho (b:=true)⟩
   ·exact h.elim
  ·rename_i e x ho
   split at h
   ·rename_i d t _
    cases hm:memQ im t with
    |false=>
     rw[hm] at h
     obtain⟨h1,h2⟩:=Am h
     rw[AI,A7] at h2
     exact⟨_,_,_,_,h2,op_box ho h1⟩
    |true=>
     rw[hm] at h
     simp only at h
     split at h
     ·rename_i y hy;exact⟨_,_,_,_,h,rfl,fun τ=>op_boxI ho hy⟩
     ·exact h.elim
   ·exact h.elim
  ·rename_i e ho
   split at h
   ·rename_i xs hz
    rw[AI,A7] at h
    exact⟨_,_,_,_,h,op_allocN ho hz⟩
   ·exact h.elim
  ·rename_i t x y ho
   split at h
   ·exact vStore_ok h ho
   ·exact h.elim
  ·rename_i t x ho
   split at h
   ·exact vLoad_ok h ho
   ·exact vP_ok h
  ·rename_i t x y ho
   split at h
   ·exact vMake_ok h ho
   ·exact h.elim
  ·rename_i t ps ho
   split at h
   ·obtain⟨hst,h⟩:=Am h
    split at h
    ·rename_i z places xs hb hx
     split at h
     ·rename_i out hf
      rw[AI] at h
      exact⟨_,_,_,_,h,rfl,fun τ=>op_buildD ho hst hb hx hf⟩
     ·exact h.elim
    ·exact h.elim
   ·exact vP_ok h
  ·rename_i t len ps ho
   split at h
   ·exact vBuildA_ok h ho
   ·split at h
    ·have hps:ps.toList=[]:=by assumption
     have hs:=(by assumption:BJ P t=_)
     rw[A7] at h
     exact⟨_,_,_,_,h,op_buildSlice0G ho (by apply Array.ext';simpa using hps) hs⟩
    ·exact h.elim
   ·exact vP_ok h
  ·rename_i t a b ho
   split at h
   ·exact vSl0_ok h ho
   ·exact vSl0_ok h ho
   ·exact vP_ok h
  ·rename_i c ho
   have mk2:∀{b:Builtin} {x y:Operand} {t t':TypeId},c.callee=.builtin b->c.args.toList=[x,y]->c.argTypes.toList=[t,t']->o.op=.call { callee:=.builtin b,args:= #[x,y],argTypes:= #[t,t']}:=by
    intro b x y t t' hc h1 h2
    rw[ho];cases c;simp only at hc h1 h2;subst hc
    congr 2
    ·apply Array.ext';simpa using h1
    ·apply Array.ext';simpa using h2
   split at h
   ·rename_i kd n hc
    split at h
    ·rename_i a b t t' h1 h2;exact vAppZ_ok h (mk2 hc h1 h2)
    ·exact h.elim
   ·rename_i x y _ hc
    split at h
    ·rename_i a b t t' h1 h2
     obtain⟨h3,h4⟩:=Am h
     have:=Nat.eq_of_beq_eq_true h3;subst this
     have hoo:o.op=.call { callee:=.builtin .append,args:= #[a,b],argTypes:= #[t,t]}:=by
      rw[ho];cases c;simp only at hc h1 h2;subst hc
      congr 2
      ·apply Array.ext';simpa using h1
      ·apply Array.ext';simpa using h2
     obtain⟨s',d,σ',kd,h5,h6⟩:=vApp_ok h4 hoo
     have hsub:∀g us,Ac g [x,y] us->Ac g [x,y.un] us:=fun g us hr=>by
      rw[Ap] at hr⊢
      obtain⟨u,v,e,h1,h2⟩:=hr
      exact⟨u,v,e,h1,repD_un h2⟩
     refine⟨s',d,σ',kd,h5,?_⟩
     cases kd with
     |pure=>exact⟨h6.1,fun τ=>BQ hsub (h6.2 τ)⟩
     |load q off n=>exact⟨h6.1,h6.2.1,fun τ hτ=>BQ hsub (h6.2.2 τ hτ)⟩
     |eff=>exact BQ hsub h6
    ·exact h.elim
   ·rename_i hc
    split at h
    ·rename_i x t h1 h2
     unfold vCap at h
     split at h
     ·rename_i e hu
      refine⟨_,_,_,_,h,rfl,fun τ=>op_capNils (x:=x) (t:=t) ?_ hu⟩
      rw[ho];cases c;simp only at hc h1 h2;subst hc
      congr 2
      ·apply Array.ext';simpa using h1
      ·apply Array.ext';simpa using h2
     ·exact h.elim
    ·exact h.elim
   ·rename_i fo f fs cs ds hc;exact vCallE_ok h ho hc
   ·exact vP_ok h
  ·exact vP_ok h
def ocQ:Op->Bool
 |.call c=>(match c.callee with|.value _=>true|_=>false)
 |_=>false
theorem ocQ_ok{o:Op}(h:ocQ o=true):∃(c:Call) (fo:Operand),o=.call c/\c.callee=.value fo:=by
 cases o<;>simp only[ocQ] at h<;>try (simp at h;done)
 rename_i c
 split at h
 ·rename_i fo hc;exact⟨c,fo,rfl,hc⟩
 ·simp at h
noncomputable def vOp(P:Program)(im:List Nat)(o:Oper)(ds:List D)(σ:St)(s:Sc)(K:KO):Prop:=match s with
 |.h (.oc d σ') s'=>Bool.rec (vOpD P im o ds σ (.h (.oc d σ') s') K) ((∀(o:Oper) (c:Call) (fo:Operand),o.op=.call c->c.callee=.value fo->Ai P o ds σ d σ')/\K s' d σ' .eff) (ocQ o.op)
 |s=>vOpD P im o ds σ s K
theorem Ci{P:Program}{im:List Nat}{o:Oper}{ds:List D}{σ:St}{s:Sc}{K:KO}(h:vOp P im o ds σ s K):VOK P o ds σ K:=by
 unfold vOp at h
 split at h
 ·rename_i d σ' s'
  cases hq:ocQ o.op with
  |true=>
   rw[hq] at h
   obtain⟨h1,h2⟩:=(h:(∀(o:Oper) (c:Call) (fo:Operand),o.op=.call c->c.callee=.value fo->Ai P o ds σ d σ')/\K s' d σ' .eff)
   obtain⟨c,fo,e1,e2⟩:=ocQ_ok hq
   exact⟨_,_,_,_,h2,h1 _ _ _ e1 e2⟩
  |false=>
   rw[hq] at h
   exact vOpD_ok h
 ·exact vOpD_ok h
end Go.Nv
