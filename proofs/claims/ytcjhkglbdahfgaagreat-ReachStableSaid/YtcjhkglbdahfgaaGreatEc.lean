/-
  A part of the proof.
-/
import Derived.Test.YtcjhkglbdahfgaaGreatProg
import Derived.Test.YtcjhkglbdahfgaaGreatDb
import Derived.KernelRfl
import Derived.Test.YtcjhkglbdahfgaaGreatEb
namespace Go.Proofs.YtcjhkglbdahfgaaGreat
open Go.Dv
open List (all_eq_true append_assoc append_nil cons_append drop_eq_getElem_cons drop_of_length_le drop_zero ext_getElem? flatMap_cons flatten flatten_cons foldl_cons getD_eq_getElem?_getD getElem?_append_left getElem?_append_right getElem?_drop getElem?_eq_getElem getElem?_eq_none getElem?_map getElem?_set getElem?_take getElem?_toArray length length_append length_cons length_drop length_map length_nil length_pos_iff length_set length_take map map_append map_cons map_map map_nil mem_append mem_cons mem_map mem_of_getElem? mem_of_mem_drop mem_of_mem_take mem_or_eq_of_mem_set mem_singleton nil_append not_mem_nil replicate replicate_succ set_cons_succ set_cons_zero size_toArray take take_add_one take_append_drop take_left take_of_length_le take_succ_cons zipWith)
open Go.IntKind (wrap i64 u64)
noncomputable abbrev PP:Program:= Tryz.prog
theorem mixed:PP.follows .mixedOrders=true:=by kernel_rfl
end Go.Proofs.YtcjhkglbdahfgaaGreat

namespace Go.Proofs.YtcjhkglbdahfgaaGreat
open Go.Dv Go.Nv
set_option maxRecDepth 20000
open List (all_eq_true append_assoc append_nil cons_append drop_eq_getElem_cons drop_of_length_le drop_zero ext_getElem? flatMap_cons flatten flatten_cons foldl_cons getD_eq_getElem?_getD getElem?_append_left getElem?_append_right getElem?_drop getElem?_eq_getElem getElem?_eq_none getElem?_map getElem?_set getElem?_take getElem?_toArray length length_append length_cons length_drop length_map length_nil length_pos_iff length_set length_take map map_append map_cons map_map map_nil mem_append mem_cons mem_map mem_of_getElem? mem_of_mem_drop mem_of_mem_take mem_or_eq_of_mem_set mem_singleton nil_append not_mem_nil replicate replicate_succ set_cons_succ set_cons_zero size_toArray take take_add_one take_append_drop take_left take_of_length_le take_succ_cons zipWith)
open Go.IntKind (wrap i64 u64)
abbrev Q{α:Type}(a:α):Prop:=a=a
abbrev F0(f:FuncId)(ds:List D)(d:D):Prop:=Ab PP f ds ⟨[],[]⟩ d ⟨[],[]⟩
abbrev I0(fn:Func)(C:Nat)(d:D)(s:St)(k:List KI)(e:List D)(t:St):Prop:=It (Rn PP fn C d s k e t)
abbrev kl(c:Code)(p:List Nat):KI:=.lp (sub c p)
abbrev kc(c:Code)(p:List Nat):KI:=.code (sub c p)
abbrev dn:D:=.v .nils
abbrev zRl:List D:=[D.v (V.str (ByteArray.mk #[]).data.toList),di 0,di 0,D.v V.nils,D.v V.nils,D.v V.nils,di 0,di 0,di 0,D.v V.nils,D.v V.nils,D.v V.nils,D.v V.nils,di 0]
abbrev zMl:List D:=[di 0,D.v V.nils,D.v V.nils,D.v V.nils,D.v V.nils,di 0,di 0,D.v V.nils,di 0,D.v V.nils]
theorem sv{f:FuncId}{ds:List D}{σ σ':St}{d:D}(fn:Func)(nt:Nat)(im:List Nat)(s:Sc)(a:Prop)(ha:a)(hf:PP.funcs[f]?=some fn:=by kernel_rfl)(hb:fn.body=some (fn.body.getD .skip):=by kernel_rfl)(hn:(fn.name=="runtime.NumGoroutine")=false:=by kernel_rfl)(hH:Nat.ble σ.H.length σ'.H.length=true:=by kernel_rfl)(hnt:(ds++replicate (fn.ntmps-ds.length) D.undef).length=nt:=by kernel_rfl)
  (h:a=AM (ds++replicate (fn.ntmps-ds.length) D.undef) fun env=>vc (CN σ.H.length) σ.H.length PP (fun env σ1=>A8 PP fn env σ1 d σ') (vRet PP fn.results.toList d σ') nt im [] 10000 s [.code (fn.body.getD .skip)] env σ:=by kernel_rfl):Ab PP f ds σ d σ':=spec_vc mixed fn _ hf hb hn hH nt hnt im s (via h ha)
theorem lv{C:Nat}{fn:Func}{d:D}{σ':St}{ks T:List KI}{L:List (Nat×D)}{σ:St}(nt:Nat)(im:List Nat)(s:Sc)(a:Prop)(ha:a)
  (h:a=AM (mkE nt L) fun env=>vc (CN C) C PP (fun env σ1=>A8 PP fn env σ1 d σ') (vRet PP fn.results.toList d σ') nt im T 10000 (.h .n s) ks env σ:=by kernel_rfl):Rn PP fn C d σ' (ks++T) (mkE nt L) σ:=loop_vc mixed nt im s (via h ha)
abbrev σ0:St:=⟨[],[]⟩
abbrev dfn(f:FuncId):D:=.v (.fn f [] [])
abbrev dl(l:List V):D:=.v (.list l)
abbrev ke(t:Nat):Nat×Option D:=(t,none)
abbrev ch(t:Nat)(d:D):Nat×Option D:=(t,some d)
theorem Ao{α:Type}{f:α->V}{a:List α}{i:Nat}{x:α}(h:a[i]?=some x):(a.map f)[((i:Nat):Int).toNat]?=some (f x):=by simp[h]
theorem Aj{n:Int}(h0: -9223372036854775808<=n)(h1:n<=9223372036854775807):i64.wrap n=n:=by rw[IntKind.wrap_i64];omega
theorem Af{i:Nat}(h:i<=1000000000):di (i64.wrap ((i:Int)+1))=di ((i+1:Nat):Int):=by rw[Aj (by omega) (by omega)];simp
inductive Val where
 |mk (n:Int) (kids:List Val)
 deriving Inhabited
def Val.n:Val->Int
 |.mk n _=>n
def Val.kids:Val->List Val
 |.mk _ ks=>ks
mutual
def Val.enc:Val->V
 |.mk n ks=>.agg [vi n,.list (Val.encs ks)]
def Val.encs:List Val->List V
 |[]=>[]
 |v::vs=>v.enc::Val.encs vs
end
abbrev eV:Val->V:=Val.enc
abbrev vVs(l:List Val):V:=.list (l.map eV)
abbrev Ad(v:Val):V:=.agg [vi v.n,vVs v.kids]
theorem encs_map:∀l:List Val,Val.encs l=l.map eV
 |[]=>rfl
 |v::l=>by simp[Val.encs,encs_map l]
theorem AN(v:Val):eV v=Ad v:=by cases v with|mk n ks=>simp only[eV,Val.enc,encs_map];rfl
abbrev dV(v:Val):D:=.v (Ad v)
abbrev dVs(l:List Val):D:=.v (vVs l)
theorem Az{a:List Val}{i:Nat}{x:Val}(h:a[i]?=some x):(a.map eV)[((i:Nat):Int).toNat]?=some (Ad x):=by rw[←AN];exact Ao h
theorem BE(a:List Val)(x:Val):a.map eV++[Ad x]=(a++[x]).map eV:=by rw[←AN];simp
mutual
def Val.size:Val->Nat
 |.mk _ ks=>1+Val.sizes ks
def Val.sizes:List Val->Nat
 |[]=>0
 |v::vs=>v.size+Val.sizes vs
end
theorem Val.size_eq(v:Val):v.size=1+Val.sizes v.kids:=by cases v;rfl
theorem Val.size_pos(v:Val):1<=v.size:=by rw[Val.size_eq];omega
theorem Val.size_mem{v:Val}:∀{l:List Val},v∈l->v.size<=Val.sizes l
 |w::l,h=>by
  rcases mem_cons.1 h with rfl|h
  ·simp[Val.sizes]
  ·have:=Val.size_mem h;simp only[Val.sizes];omega
theorem Val.length_le:∀l:List Val,l.length<=Val.sizes l
 |[]=>by simp[Val.sizes]
 |v::l=>by have:=Val.length_le l;have:=v.size_pos;simp only[length_cons,Val.sizes];omega
noncomputable abbrev fNaN:Func:= Tryz.f77
theorem nan_spec(x:Int):Ab PP 77 [di x] σ0 (db false) σ0:=by
 refine sv fNaN 6 [] .r (db (x !=x)=db false) ?_
 simp
def AH(a b:Int):Int:=if a<b then-1 else if b<a then 1 else 0
noncomputable abbrev fCmpI:Func:= Tryz.f52
theorem Hs(a b:Int):Ab PP 52 [di a,di b] σ0 (di (AH a b)) σ0:=by
 refine sv fCmpI 20 [] (.c (db false)<|.c (db false)<|.k<|.k<|.b .r<|.b .r .r) (F0 77 [di a] (db false)/\F0 77 [di b] (db false)/\(decide (a<b)=true->di (-1)=di (AH a b))/\(decide (a<b)=false->(decide (a>b)=true->di 1=di (AH a b))/\(decide (a>b)=false->di 0=di (AH a b)))) ?_
 refine⟨nan_spec a,nan_spec b,fun h=>?_,fun h=>⟨fun h1=>?_,fun h1=>?_⟩⟩<;>simp_all [AH]<;>omega
def orM:List Int->Int
 |[]=>0
 |x::l=>if x=0 then orM l else x
noncomputable abbrev fOr:Func:= Tryz.f51
noncomputable def cOr:Code:=fOr.body.getD .skip
theorem or_loop(l:List Int)(hl:l.length<=1000000)(n:Nat):∀k:Nat,l.length-k=n->
  Rn PP fOr 0 (di (orM (l.drop k))) σ0 ([.lp (sub cOr [1,1,0,1,0,0]),.blk 0,.code (sub cOr [1,1,1])]++[]) (mkE 18 [(3,di 0),(6,dl (l.map vi)),(7,di l.length),(8,di k)]) σ0:=by
 induction n using Nat.strongRecOn with
 |_ n ih=>
 intro k hn
 refine lv 18 [] (.b (.e fun x:Int=>.x (vi x)<|.b .r (.l [ke 3,ke 6,ke 7,ch 8 (di (k+1:Nat))])) .r) ((decide ((k:Int)<(l.length:Int))=true->∃a,0<=(k:Int)/\(map vi l)[Int.toNat (k:Int)]?=some (vi a)/\((a !=0)=true->di a=di (orM (List.drop k l)))/\((a !=0)=false->di (wrap i64 ((k:Int)+1))=di (↑(k+1):Int)/\Nv.It (A2 (CN 0) PP (fun env σ1=>A8 PP fOr env σ1 (di (orM (List.drop k l))) σ0) [kl cOr [1,1,0,1,0,0],KI.blk 0,kc cOr [1,1,1]] (mkE 18 [(3,di 0),(6,D.v (V.list (map vi l))),(7,di (l.length:Int)),(8,di (↑(k+1):Int))]) σ0)))/\(decide ((k:Int)<(l.length:Int))=false->di 0=di (orM (List.drop k l)))) ?_
 refine⟨fun h=>?_,fun h=>?_⟩
 ·have hk:k<l.length:=by simpa using h
  have hx:l[k]?=some l[k]:=getElem?_eq_getElem hk
  rw[drop_eq_getElem_cons hk]
  generalize l[k]=x at hx⊢
  refine⟨x,by omega,Ao hx,fun hf=>?_,fun hf=>⟨Af (by omega),⟨?_⟩⟩⟩
  ·have:x≠0:=by simpa using hf
   simp[orM,this]
  ·have:x=0:=by simpa using hf
   subst this
   exact ih (l.length- (k+1)) (by omega) (k+1) rfl
 ·have hk:l.length<=k:=by simpa using h
  rw[drop_of_length_le hk];rfl
theorem or_spec(l:List Int)(hl:l.length<=1000000):Ab PP 51 [dl (l.map vi)] σ0 (di (orM l)) σ0:=by
 refine sv fOr 18 [] (.l [ke 3,ke 6,ch 7 (di l.length),ch 8 (di (0:Nat))]) (di (length (map vi l):Int)=di (l.length:Int)/\di 0=di (↑0:Int)/\I0 fOr σ0.H.length (di (orM l)) σ0 [kl cOr [1,1,0,1,0,0],KI.blk 0,kc cOr [1,1,1]] (mkE 18 [(3,di 0),(6,dl (map vi l)),(7,di (l.length:Int)),(8,di (↑0:Int))]) σ0) ?_
 refine⟨by simp,rfl,⟨?_⟩⟩
 exact or_loop l hl _ 0 rfl
def AS{α:Type}(c:α->α->Int):List α->List α->Int
 |[],[]=>0
 |[],_::_=> -1
 |_::_,[]=>1
 |x::a,y::b=>if c x y=0 then AS c a b else c x y
noncomputable abbrev fCmpVs:Func:= Tryz.f53
noncomputable def cCmpVs:Code:=fCmpVs.body.getD .skip
theorem cmpVs_loop(F:FuncId)(fs cs:List V)(c:Val->Val->Int)(a b:List Val)(ha:a.length<=1000000)(hf:∀x∈a,∀y∈b,Ab PP F ((fs++[Ad x,Ad y]++cs).map .v) σ0 (di (c x y)) σ0)(n:Nat):∀k:Nat,a.length-k=n->k<=b.length->k<=a.length->
  Rn PP fCmpVs 0 (di (AS c (a.drop k) (b.drop k))) σ0 ([.lp (sub cCmpVs [1,0,1,0,0]),.blk 0,.code (sub cCmpVs [1,1])]++[]) (mkE 39 [(0,dVs a),(1,dVs b),(2,.v (.fn F fs cs)),(11,dVs a),(12,di a.length),(13,di k)]) σ0:=by
 induction n using Nat.strongRecOn with
 |_ n ih=>
 intro k hn hkb hka
 refine lv 39 [] (.b (.e fun x:Val=>.x (Ad x)<|.b .r<|.e fun y:Val=>.x (Ad y)<|.c (di (c x y))<|.b .r (.ls [ke 0,ke 1,ke 2,ke 11,ke 12,ch 13 (di (k+1:Nat))] σ0)) (.b .r .r)) ((decide ((k:Int)<(a.length:Int))=true->∃a_2,0<=(k:Int)/\(map eV a)[Int.toNat (k:Int)]?=some (Ad a_2)/\(decide ((k:Int)>=(length (map eV b):Int))=true->di 1=di (AS c (List.drop k a) (List.drop k b)))/\(decide ((k:Int)>=(length (map eV b):Int))=false->∃a_4,0<=(k:Int)/\(map eV b)[Int.toNat (k:Int)]?=some (Ad a_4)/\Ab PP F (map D.v (fs++[V.agg [vi a_2.n,vVs a_2.kids],V.agg [vi a_4.n,vVs a_4.kids]]++cs)) (St.mk [] []) (di (c a_2 a_4)) (St.mk [] [])/\((c a_2 a_4 !=0)=true->di (c a_2 a_4)=di (AS c (List.drop k a) (List.drop k b)))/\((c a_2 a_4 !=0)=false->di (wrap i64 ((k:Int)+1))=di (↑(k+1):Int)/\Nv.It (A2 (CN 0) PP (fun env σ1=>A8 PP fCmpVs env σ1 (di (AS c (List.drop k a) (List.drop k b))) σ0) [kl cCmpVs [1,0,1,0,0],KI.blk 0,kc cCmpVs [1,1]] (mkE 39 [(0,dVs a),(1,dVs b),(2,D.v (V.fn F fs cs)),(11,dVs a),(12,di (a.length:Int)),(13,di (↑(k+1):Int))]) σ0))))/\(decide ((k:Int)<(a.length:Int))=false->(decide ((length (map eV a):Int)<(length (map eV b):Int))=true->di (-1)=di (AS c (List.drop k a) (List.drop k b)))/\(decide ((length (map eV a):Int)<(length (map eV b):Int))=false->di 0=di (AS c (List.drop k a) (List.drop k b))))) ?_
 refine⟨fun h=>?_,fun h=>?_⟩
 ·have hk:k<a.length:=by simpa using h
  have hx:a[k]?=some a[k]:=getElem?_eq_getElem hk
  rw[drop_eq_getElem_cons hk]
  generalize a[k]=x at hx⊢
  refine⟨x,by omega,Az hx,fun h1=>?_,fun h1=>?_⟩
  ·have:b.drop k=[]:=drop_of_length_le (by simpa using h1)
   rw[this];rfl
  ·have hk2:k<b.length:=by simpa using h1
   have hy:b[k]?=some b[k]:=getElem?_eq_getElem hk2
   rw[drop_eq_getElem_cons hk2]
   generalize b[k]=y at hy⊢
   refine⟨y,by omega,Az hy,hf x (mem_of_getElem? hx) y (mem_of_getElem? hy),fun h2=>?_,fun h2=>⟨Af (by omega),⟨?_⟩⟩⟩
   ·have:c x y≠0:=by simpa using h2
    simp[AS,this]
   ·have:c x y=0:=by simpa using h2
    simp only[AS,this,if_true]
    exact ih (a.length- (k+1)) (by omega) (k+1) rfl hk2 hk
 ·have hk:k=a.length:=by have:a.length<=k:=(by simpa using h);omega
  subst hk
  rw[List.drop_length]
  refine⟨fun h1=>?_,fun h1=>?_⟩
  ·have h1:a.length<b.length:=by simpa using h1
   rw[drop_eq_getElem_cons h1];rfl
  ·have h1:b.length<=a.length:=by simpa using h1
   rw[drop_of_length_le h1];rfl
theorem cmpVs_spec(F:FuncId)(fs cs:List V)(c:Val->Val->Int)(a b:List Val)(ha:a.length<=1000000)(hf:∀x∈a,∀y∈b,Ab PP F ((fs++[Ad x,Ad y]++cs).map .v) σ0 (di (c x y)) σ0):
  Ab PP 53 [dVs a,dVs b,.v (.fn F fs cs)] σ0 (di (AS c a b)) σ0:=by
 refine sv fCmpVs 39 [] (.l [ke 0,ke 1,ke 2,ke 11,ch 12 (di a.length),ch 13 (di (0:Nat))]) (di (length (map eV a):Int)=di (a.length:Int)/\di 0=di (↑0:Int)/\I0 fCmpVs σ0.H.length (di (AS c a b)) σ0 [kl cCmpVs [1,0,1,0,0],KI.blk 0,kc cCmpVs [1,1]] (mkE 39 [(0,dVs a),(1,dVs b),(2,D.v (V.fn F fs cs)),(11,dVs a),(12,di (a.length:Int)),(13,di (↑0:Int))]) σ0) ?_
 refine⟨by simp,rfl,⟨?_⟩⟩
 exact cmpVs_loop F fs cs c a b ha hf _ 0 rfl (by omega) (by omega)
mutual
def Av:Val->Val->Int
 |.mk n ks,.mk m ls=>if AH n m=0 then(if AH ks.length ls.length=0 then cmpVl ks ls else AH ks.length ls.length) else AH n m
def cmpVl:List Val->List Val->Int
 |[],[]=>0
 |[],_::_=> -1
 |_::_,[]=>1
 |x::a,y::b=>if Av x y=0 then cmpVl a b else Av x y
end
theorem cmpVl_eq:∀a b:List Val,cmpVl a b=AS Av a b
 |[],[]=>rfl
 |[],_::_=>rfl
 |_::_,[]=>rfl
 |x::a,y::b=>by simp only[cmpVl,AS,cmpVl_eq a b]
theorem or3(x y z:Int):(if x=0 then(if y=0 then z else y) else x)=orM [x,y,z]:=by
 simp only[orM]
 by_cases h1:x=0<;>by_cases h2:y=0<;>by_cases h3:z=0<;>simp_all
theorem cmpV_or(a b:Val):Av a b=orM [AH a.n b.n,AH a.kids.length b.kids.length,AS Av a.kids b.kids]:=by
 cases a;cases b
 rw[Av,cmpVl_eq]
 exact or3 _ _ _
noncomputable abbrev fCmpV:Func:= Tryz.f32
theorem Hr(N:Nat):∀a b:Val,a.size<=N->a.size<=1000000->Ab PP 32 [dV a,dV b] σ0 (di (Av a b)) σ0:=by
 induction N with
 |zero=>intro a b h;have:=a.size_pos;omega
 |succ N ih=>
 intro a b ha hb
 refine sv fCmpV 24 [2,3] (.c (di (AH a.n b.n))<|.c (di (AH a.kids.length b.kids.length))<|.c (di (AS Av a.kids b.kids))<|.c (di (Av a b)) .r) (F0 52 [di a.n,di b.n] (di (AH a.n b.n))/\F0 52 [di (length (map eV a.kids):Int),di (length (map eV b.kids):Int)] (di (AH (a.kids.length:Int) (b.kids.length:Int)))/\F0 53 [dVs a.kids,dVs b.kids,D.v (V.fn 32 [] [])] (di (AS Av a.kids b.kids))/\F0 51 [D.v (V.list [vi (AH a.n b.n),vi (AH (a.kids.length:Int) (b.kids.length:Int)),vi (AS Av a.kids b.kids)])] (di (Av a b))/\Q (di (Av a b))) ?_
 have hs:=a.size_eq
 have hl:=Val.length_le a.kids
 refine⟨Hs _ _,by simpa using Hs _ _,cmpVs_spec _ _ _ Av a.kids b.kids (by omega) (fun x hx y hy=>?_),?_,rfl⟩
 ·have:=Val.size_mem hx
  exact ih x y (by omega) (by omega)
 ·rw[cmpV_or];exact or_spec [_,_,_] (by simp)
def ixM{α:Type}(p:α->Bool):List α->Nat->Int
 |[],_=> -1
 |x::l,k=>if p x then k else ixM p l (k+1)
theorem Hk{α:Type}(p:α->Bool):∀(l:List α) (k:Nat),decide (ixM p l k>=0)=l.any p
 |[],k=>by simp[ixM]
 |x::l,k=>by
  simp only[ixM,List.any_cons]
  by_cases h:p x=true
  ·simp[h]
  ·simp[h,Hk p l]
noncomputable abbrev fIxI:Func:= Tryz.f171
noncomputable def cIxI:Code:=fIxI.body.getD .skip
theorem ixI_loop(F:FuncId)(fs cs:List V)(p:Int->Bool)(l:List (Int))(hl:l.length<=1000000)(hp:∀x∈l,Ab PP F ((fs++[vi x]++cs).map .v) σ0 (db (p x)) σ0)(n:Nat):∀k:Nat,l.length-k=n->
  Rn PP fIxI 0 (di (ixM p (l.drop k) k)) σ0 ([.lp (sub cIxI [1,0,1,0,0]),.blk 0,.code (sub cIxI [1,1])]++[]) (mkE 19 [(0,dl (l.map vi)),(1,.v (.fn F fs cs)),(7,di l.length),(8,di k)]) σ0:=by
 induction n using Nat.strongRecOn with
 |_ n ih=>
 intro k hn
 refine lv 19 [] (.b (.e fun x:Int=>.x (vi x)<|.c (db (p x))<|.b .r (.l [ke 0,ke 1,ke 7,ch 8 (di (k+1:Nat))])) .r) ((decide ((k:Int)<(l.length:Int))=true->∃a,0<=(k:Int)/\(map vi l)[Int.toNat (k:Int)]?=some (vi a)/\Ab PP F (map D.v (fs++[vi a]++cs)) (St.mk [] []) (db (p a)) (St.mk [] [])/\(p a=true->di (k:Int)=di (ixM p (List.drop k l) k))/\(p a=false->di (wrap i64 ((k:Int)+1))=di (↑(k+1):Int)/\Nv.It (A2 (CN 0) PP (fun env σ1=>A8 PP fIxI env σ1 (di (ixM p (List.drop k l) k)) σ0) [kl cIxI [1,0,1,0,0],KI.blk 0,kc cIxI [1,1]] (mkE 19 [(0,D.v (V.list (map vi l))),(1,D.v (V.fn F fs cs)),(7,di (l.length:Int)),(8,di (↑(k+1):Int))]) σ0)))/\(decide ((k:Int)<(l.length:Int))=false->di (-1)=di (ixM p (List.drop k l) k))) ?_
 refine⟨fun h=>?_,fun h=>?_⟩
 ·have hk:k<l.length:=by simpa using h
  have hx:l[k]?=some l[k]:=getElem?_eq_getElem hk
  rw[drop_eq_getElem_cons hk]
  generalize l[k]=x at hx⊢
  refine⟨x,by omega,Ao hx,hp x (mem_of_getElem? hx),fun hf=>by simp[ixM,hf],fun hf=>⟨Af (by omega),⟨?_⟩⟩⟩
  simp only[ixM,hf]
  exact ih (l.length- (k+1)) (by omega) (k+1) rfl
 ·have hk:l.length<=k:=by simpa using h
  rw[drop_of_length_le hk];rfl
theorem ixI_spec(F:FuncId)(fs cs:List V)(p:Int->Bool)(l:List (Int))(hl:l.length<=1000000)(hp:∀x∈l,Ab PP F ((fs++[vi x]++cs).map .v) σ0 (db (p x)) σ0):
  Ab PP 171 [dl (l.map vi),.v (.fn F fs cs)] σ0 (di (ixM p l 0)) σ0:=by
 refine sv fIxI 19 [] (.l [ke 0,ke 1,ch 7 (di l.length),ch 8 (di (0:Nat))]) (di (length (map vi l):Int)=di (l.length:Int)/\di 0=di (↑0:Int)/\I0 fIxI σ0.H.length (di (ixM p l 0)) σ0 [kl cIxI [1,0,1,0,0],KI.blk 0,kc cIxI [1,1]] (mkE 19 [(0,dl (map vi l)),(1,D.v (V.fn F fs cs)),(7,di (l.length:Int)),(8,di (↑0:Int))]) σ0) ?_
 refine⟨by simp,rfl,⟨?_⟩⟩
 exact ixI_loop F fs cs p l hl hp _ 0 rfl
noncomputable abbrev fHasI:Func:= Tryz.f118
theorem Cw(F:FuncId)(fs cs:List V)(p:Int->Bool)(l:List (Int))(hl:l.length<=1000000)(hp:∀x∈l,Ab PP F ((fs++[vi x]++cs).map .v) σ0 (db (p x)) σ0):
  Ab PP 118 [dl (l.map vi),.v (.fn F fs cs)] σ0 (db (l.any p)) σ0:=by
 refine sv fHasI 9 [] (.c (di (ixM p l 0)) .r) (F0 171 [D.v (V.list (map vi l)),D.v (V.fn F fs cs)] (di (ixM p l 0))/\db (decide (ixM p l 0>=0))=db (List.any l p)) ?_
 exact⟨ixI_spec F fs cs p l hl hp,by rw[←Hk]⟩
noncomputable abbrev fIxV:Func:= Tryz.f64
noncomputable def cIxV:Code:=fIxV.body.getD .skip
theorem ixV_loop(F:FuncId)(fs cs:List V)(p:Val->Bool)(l:List (Val))(hl:l.length<=1000000)(hp:∀x∈l,Ab PP F ((fs++[Ad x]++cs).map .v) σ0 (db (p x)) σ0)(n:Nat):∀k:Nat,l.length-k=n->
  Rn PP fIxV 0 (di (ixM p (l.drop k) k)) σ0 ([.lp (sub cIxV [1,0,1,0,0]),.blk 0,.code (sub cIxV [1,1])]++[]) (mkE 19 [(0,dl (l.map eV)),(1,.v (.fn F fs cs)),(7,di l.length),(8,di k)]) σ0:=by
 induction n using Nat.strongRecOn with
 |_ n ih=>
 intro k hn
 refine lv 19 [] (.b (.e fun x:Val=>.x (Ad x)<|.c (db (p x))<|.b .r (.l [ke 0,ke 1,ke 7,ch 8 (di (k+1:Nat))])) .r) ((decide ((k:Int)<(l.length:Int))=true->∃a,0<=(k:Int)/\(map eV l)[Int.toNat (k:Int)]?=some (Ad a)/\Ab PP F (map D.v (fs++[Ad a]++cs)) (St.mk [] []) (db (p a)) (St.mk [] [])/\(p a=true->di (k:Int)=di (ixM p (List.drop k l) k))/\(p a=false->di (wrap i64 ((k:Int)+1))=di (↑(k+1):Int)/\Nv.It (A2 (CN 0) PP (fun env σ1=>A8 PP fIxV env σ1 (di (ixM p (List.drop k l) k)) σ0) [kl cIxV [1,0,1,0,0],KI.blk 0,kc cIxV [1,1]] (mkE 19 [(0,D.v (V.list (map eV l))),(1,D.v (V.fn F fs cs)),(7,di (l.length:Int)),(8,di (↑(k+1):Int))]) σ0)))/\(decide ((k:Int)<(l.length:Int))=false->di (-1)=di (ixM p (List.drop k l) k))) ?_
 refine⟨fun h=>?_,fun h=>?_⟩
 ·have hk:k<l.length:=by simpa using h
  have hx:l[k]?=some l[k]:=getElem?_eq_getElem hk
  rw[drop_eq_getElem_cons hk]
  generalize l[k]=x at hx⊢
  refine⟨x,by omega,Az hx,hp x (mem_of_getElem? hx),fun hf=>by simp[ixM,hf],fun hf=>⟨Af (by omega),⟨?_⟩⟩⟩
  simp only[ixM,hf]
  exact ih (l.length- (k+1)) (by omega) (k+1) rfl
 ·have hk:l.length<=k:=by simpa using h
  rw[drop_of_length_le hk];rfl
theorem ixV_spec(F:FuncId)(fs cs:List V)(p:Val->Bool)(l:List (Val))(hl:l.length<=1000000)(hp:∀x∈l,Ab PP F ((fs++[Ad x]++cs).map .v) σ0 (db (p x)) σ0):
  Ab PP 64 [dl (l.map eV),.v (.fn F fs cs)] σ0 (di (ixM p l 0)) σ0:=by
 refine sv fIxV 19 [] (.l [ke 0,ke 1,ch 7 (di l.length),ch 8 (di (0:Nat))]) (di (length (map eV l):Int)=di (l.length:Int)/\di 0=di (↑0:Int)/\I0 fIxV σ0.H.length (di (ixM p l 0)) σ0 [kl cIxV [1,0,1,0,0],KI.blk 0,kc cIxV [1,1]] (mkE 19 [(0,dl (map eV l)),(1,D.v (V.fn F fs cs)),(7,di (l.length:Int)),(8,di (↑0:Int))]) σ0) ?_
 refine⟨by simp,rfl,⟨?_⟩⟩
 exact ixV_loop F fs cs p l hl hp _ 0 rfl
noncomputable abbrev fHasV:Func:= Tryz.f146
theorem Hm(F:FuncId)(fs cs:List V)(p:Val->Bool)(l:List (Val))(hl:l.length<=1000000)(hp:∀x∈l,Ab PP F ((fs++[Ad x]++cs).map .v) σ0 (db (p x)) σ0):
  Ab PP 146 [dl (l.map eV),.v (.fn F fs cs)] σ0 (db (l.any p)) σ0:=by
 refine sv fHasV 9 [] (.c (di (ixM p l 0)) .r) (F0 64 [D.v (V.list (map eV l)),D.v (V.fn F fs cs)] (di (ixM p l 0))/\db (decide (ixM p l 0>=0))=db (List.any l p)) ?_
 exact⟨ixV_spec F fs cs p l hl hp,by rw[←Hk]⟩
noncomputable abbrev fEqI:Func:= Tryz.f36
noncomputable def cEqI:Code:=fEqI.body.getD .skip
theorem eqI_loop(a b:List (Int))(ha:a.length<=1000000)(hab:a.length=b.length)(n:Nat):∀k:Nat,a.length-k=n->
  Rn PP fEqI 0 (db (decide (a.drop k=b.drop k))) σ0 ([.lp (sub cEqI [1,1,0,1,0,0]),.blk 0,.code (sub cEqI [1,1,1])]++[]) (mkE 26 [(0,dl (a.map vi)),(1,dl (b.map vi)),(12,di a.length),(13,di k)]) σ0:=by
 induction n using Nat.strongRecOn with
 |_ n ih=>
 intro k hn
 refine lv 26 [] (.b (.e fun x:Int=>.x (vi x)<|.e fun y:Int=>.x (vi y)<|.b .r (.l [ke 0,ke 1,ke 12,ch 13 (di (k+1:Nat))])) .r) ((decide ((k:Int)<(a.length:Int))=true->∃a_2,0<=(k:Int)/\(map vi a)[Int.toNat (k:Int)]?=some (vi a_2)/\∃a_3,0<=(k:Int)/\(map vi b)[Int.toNat (k:Int)]?=some (vi a_3)/\((a_2 !=a_3)=true->db false=db (decide (List.drop k a=List.drop k b)))/\((a_2 !=a_3)=false->di (wrap i64 ((k:Int)+1))=di (↑(k+1):Int)/\Nv.It (A2 (CN 0) PP (fun env σ1=>A8 PP fEqI env σ1 (db (decide (List.drop k a=List.drop k b))) σ0) [kl cEqI [1,1,0,1,0,0],KI.blk 0,kc cEqI [1,1,1]] (mkE 26 [(0,D.v (V.list (map vi a))),(1,D.v (V.list (map vi b))),(12,di (a.length:Int)),(13,di (↑(k+1):Int))]) (St.mk [] []))))/\(decide ((k:Int)<(a.length:Int))=false->db true=db (decide (List.drop k a=List.drop k b)))) ?_
 refine⟨fun h=>?_,fun h=>?_⟩
 ·have hk:k<a.length:=by simpa using h
  have hk2:k<b.length:=by omega
  have hx:a[k]?=some a[k]:=getElem?_eq_getElem hk
  have hy:b[k]?=some b[k]:=getElem?_eq_getElem hk2
  rw[drop_eq_getElem_cons hk,drop_eq_getElem_cons hk2]
  generalize a[k]=x at hx⊢
  generalize b[k]=y at hy⊢
  refine⟨x,by omega,Ao hx,y,by omega,Ao hy,fun hf=>?_,fun hf=>⟨Af (by omega),⟨?_⟩⟩⟩
  ·have:x≠y:=by simpa using hf
   simp[this]
  ·have:x=y:=by simpa using hf
   subst this
   simpa using ih (a.length- (k+1)) (by omega) (k+1) rfl
 ·have hk:a.length<=k:=by simpa using h
  rw[drop_of_length_le hk,drop_of_length_le (by omega)];simp
theorem C7(a b:List (Int))(ha:a.length<=1000000):Ab PP 36 [dl (a.map vi),dl (b.map vi)] σ0 (db (decide (a=b))) σ0:=by
 refine sv fEqI 26 [] (.b .r (.l [ke 0,ke 1,ch 12 (di a.length),ch 13 (di (0:Nat))])) ((((length (map vi a):Int) !=(length (map vi b):Int))=true->db false=db (decide (a=b)))/\(((length (map vi a):Int) !=(length (map vi b):Int))=false->di (length (map vi a):Int)=di (a.length:Int)/\di 0=di (↑0:Int)/\I0 fEqI σ0.H.length (db (decide (a=b))) σ0 [kl cEqI [1,1,0,1,0,0],KI.blk 0,kc cEqI [1,1,1]] (mkE 26 [(0,dl (map vi a)),(1,dl (map vi b)),(12,di (a.length:Int)),(13,di (↑0:Int))]) σ0)) ?_
 refine⟨fun h=>?_,fun h=>⟨by simp,rfl,⟨?_⟩⟩⟩
 ·have h:a.length≠b.length:=by simp at h;omega
  rw[decide_eq_false fun e=>h (by rw[e])]
 ·exact eqI_loop a b ha (by simp at h;omega) _ 0 rfl
theorem De{α:Type}{ls:List (List α)}{k:Nat}(hk:k<ls.length):(ls.take (k+1)).flatten=(ls.take k).flatten++ls[k]:=by
 rw[List.take_succ_eq_append_getElem hk,List.flatten_append];simp
theorem Ft{α:Type}(ls:List (List α))(k:Nat):(ls.take k).flatten.length<=ls.flatten.length:=by
 have:=congrArg (fun l=>l.flatten.length) (take_append_drop k ls)
 simp only[List.flatten_append,length_append] at this
 omega
theorem lenOK2{α β:Type}{e:α->V}{f:β->V}{a:List α}{b:List β}{by':Nat}(h:a.length+b.length<=2000000)(hb:by'<=10000):Ar ((a.map e).length+(b.map f).length) by':=by
 rw[length_map,length_map]
 have:(a.length+b.length)*by'<=2000000*10000:=Nat.mul_le_mul h hb
 exact⟨by omega,by omega⟩
abbrev vIs(l:List Int):V:=.list (l.map vi)
abbrev dIs(l:List Int):D:=.v (vIs l)
abbrev cIs(l:List Int):List D:=l.map di
theorem sizes_vi(l:List Int):∀y∈l.map vi,y.size=1:=by simp[V.size]
theorem flat_vi(l:List Int):Aa (l.map vi)=cIs l:=by
 unfold Aa cIs
 induction l with
 |nil=>rfl
 |cons x l ih=>simp_all [V.cellsV]
theorem BH(n:Nat)(ts:List Nat):∀l:List Int,D.okNs n ts (cIs l)=true
 |[]=>rfl
 |x::l=>by simp only[cIs,map_cons,D.okNs,D.okN,Bool.true_and];exact BH n ts l
theorem okH_ints(l:List Int):okH 2 [] [none,some ([]++cIs l)]=true:=by simp[okH,BH]
noncomputable abbrev fCloI:Func:= Tryz.f44
theorem cloI_spec(l:List Int)(hl:l.length<=1000000):Ab PP 44 [dIs l] σ0 (dIs l) σ0:=by
 by_cases h:l=[]
 ·subst h
  refine spec_nil (ds:=[]) (ds':=[]) fun a cap=>?_
  cases a with
  |none=>
   refine sv fCloI 8 [] .r (D.v (V.list [])=dIs []) ?_
   rfl
  |some a=>
   refine sv fCloI 8 [] (.a 1<|.h (.q 3 2)<|.h (.un 6)<|.r) (Q nV/\Ar 0 8/\D.v (V.list [])=dIs []) ?_
   refine⟨rfl,⟨by simp,by simp⟩,?_⟩
   rfl
 ·refine sv fCloI 8 [] (.a 1<|.w .r) (map vi l≠ []/\Q nV/\Ar (length nV+length (map vi l)) 8/\(∀(y:V),y∈map vi l->V.size y=1)/\D.v (V.list ([]++map vi l))=dIs l) ?_
  exact⟨by simpa using h,rfl,⟨by simp;omega,by simp;omega⟩,sizes_vi l,rfl⟩
theorem cloIA_spec(l:List Int)(hl:l.length<=1000000)(h:l≠ []):Ab PP 44 [dIs l] σ0 (.arr 1 0 l.length) ⟨[none,some (cIs l)],[]⟩:=by
 refine sv fCloI 8 [] (.h .g<|.h (.q 3 3)<|.h (.ga 7) .ro) (map vi l≠ []/\Q 0/\map vi l≠ []/\(∀(y:V),y∈map vi l->V.size y=1)/\Ar (0+length (map vi l)) 8/\okH 2 [] [none,some ([]++Aa (map vi l))]=true/\[none,some ([]++Aa (map vi l))]=[none,some (cIs l)]/\D.arr 1 0 (0+length (map vi l))=D.arr 1 0 l.length) ?_
 refine⟨by simpa using h,rfl,by simpa using h,sizes_vi l,⟨by simp;omega,by simp;omega⟩,?_,?_,?_⟩
 ·rw[flat_vi];exact okH_ints l
 ·simp[flat_vi]
 ·simp
theorem sizes_vs(l:List (List UInt8)):∀y∈l.map V.str,y.size=1:=by simp[V.size]
noncomputable abbrev fGrS:Func:= Tryz.f175
theorem grS_spec(n:Nat)(hn:n<=1000000):Ab PP 175 [.v .nils,di n] σ0 (.acc 1 []) ⟨[],[(1,1,[])]⟩:=by
 have h1:i64.wrap (0-0)=0:=by decide
 by_cases h:n=0
 ·subst h
  refine sv fGrS 27 [] (.f<|.f<|.h (.q 6 0)<|.h (.nw 0 1 1) .r) (decide ((↑0:Int)<0)=false/\decide (wrap i64 ((↑0:Int)-wrap i64 (0-0))>0)=false/\Q [(1,1,nV)]/\Q (D.acc 1 [])) ?_
  exact⟨by decide,by decide,rfl,rfl⟩
 ·refine sv fGrS 27 [] (.f<|.t<|.a 1 .r) (decide ((n:Int)<0)=false/\decide (wrap i64 ((n:Int)-wrap i64 (0-0))>0)=true/\iz 0=0/\0<wrap i64 ((n:Int)-wrap i64 (0-0))/\Ar (Int.toNat (wrap i64 ((n:Int)-wrap i64 (0-0)))) 16/\iz 0=0/\Q [(1,1,nV)]/\Q (D.acc 1 [])) ?_
  have h2:i64.wrap ((n:Int)-i64.wrap (0-0))=n:=by rw[h1,Aj (by omega) (by omega)];omega
  rw[h2]
  refine⟨by simp,by simp;omega,by simp,by omega,⟨by simp;omega,by simp;omega⟩,by simp,rfl,rfl⟩
noncomputable abbrev fCoS:Func:= Tryz.f128
noncomputable def cCoS:Code:=fCoS.body.getD .skip
abbrev G4(ls:List (List (List UInt8))):List V:=ls.map fun l=>.list (l.map V.str)
theorem coSA_loop2(ls:List (List (List UInt8)))(hl:ls.length<=1000)(ht:ls.flatten.length<=1000000)(n:Nat):∀k:Nat,ls.length-k=n->
  Rn PP fCoS 0 (.acc 1 (ls.flatten.map V.str)) ⟨[],[(1,1,ls.flatten.map V.str)]⟩ ([.lp (sub cCoS [1,1,1,1,0,1,0,0]),.blk 2,.code (sub cCoS [1,1,1,1,1])]++[]) (mkE 36 [(0,dl (G4 ls)),(6,.acc 1 ((ls.take k).flatten.map V.str)),(25,dl (G4 ls)),(26,di ls.length),(27,di k)]) ⟨[],[(1,1,(ls.take k).flatten.map V.str)]⟩:=by
 induction n using Nat.strongRecOn with
 |_ n ih=>
 intro k hn
 refine lv 36 [] (.b (.e fun x:List (List UInt8)=>.x (.list (x.map V.str))<|.w<|.ls [ke 0,ch 6 (.acc 1 ((ls.take (k+1)).flatten.map V.str)),ke 25,ke 26,ch 27 (di (k+1:Nat))] ⟨[],[(1,1,(ls.take (k+1)).flatten.map V.str)]⟩) .r) ((decide ((k:Int)<(ls.length:Int))=true->∃a,0<=(k:Int)/\(G4 ls)[Int.toNat (k:Int)]?=some (V.list (map V.str a))/\map V.str (flatten (take k ls))=map V.str (flatten (take k ls))/\Ar (length (map V.str (flatten (take k ls)))+length (map V.str a)) 16/\(∀(y:V),y∈map V.str a->V.size y=1)/\D.acc 1 (map V.str (flatten (take k ls))++map V.str a)=D.acc 1 (map V.str (flatten (take (k+1) ls)))/\di (wrap i64 ((k:Int)+1))=di (↑(k+1):Int)/\[(1,1,map V.str (flatten (take k ls))++map V.str a)]=[(1,1,map V.str (flatten (take (k+1) ls)))]/\Nv.It (A2 (CN 0) PP (fun env σ1=>A8 PP fCoS env σ1 (D.acc 1 (map V.str (flatten ls))) (St.mk [] [(1,1,map V.str (flatten ls))])) [kl cCoS [1,1,1,1,0,1,0,0],KI.blk 2,kc cCoS [1,1,1,1,1]] (mkE 36 [(0,D.v (V.list (G4 ls))),(6,D.acc 1 (map V.str (flatten (take (k+1) ls)))),(25,D.v (V.list (G4 ls))),(26,di (ls.length:Int)),(27,di (↑(k+1):Int))]) (St.mk [] [(1,1,map V.str (flatten (take (k+1) ls)))])))/\(decide ((k:Int)<(ls.length:Int))=false->[(1,1,map V.str (flatten (take k ls)))]=[(1,1,map V.str (flatten ls))]/\D.acc 1 (map V.str (flatten (take k ls)))=D.acc 1 (map V.str (flatten ls)))) ?_
 refine⟨fun h=>?_,fun h=>?_⟩
 ·have hk:k<ls.length:=by simpa using h
  have hx:ls[k]?=some ls[k]:=getElem?_eq_getElem hk
  have hf:=De hk
  have hle:=Ft ls (k+1)
  have hih:=ih (ls.length- (k+1)) (by omega) (k+1) rfl
  rw[hf] at hle hih⊢
  generalize ls[k]=x at hx hle hih⊢
  simp only[length_append] at hle
  refine⟨x,by omega,by simp[hx],rfl,lenOK2 (by omega) (by decide),sizes_vs x,by simp,Af (by omega),by simp,⟨hih⟩⟩
 ·have hk:ls.length<=k:=by simpa using h
  rw[take_of_length_le hk];exact⟨rfl,rfl⟩
theorem coSA_loop1(ls:List (List (List UInt8)))(hl:ls.length<=1000)(ht:ls.flatten.length<=1000000)(n:Nat):∀k:Nat,ls.length-k=n->
  Rn PP fCoS 0 (.acc 1 (ls.flatten.map V.str)) ⟨[],[(1,1,ls.flatten.map V.str)]⟩ ([.lp (sub cCoS [1,1,0,1,0,0]),.blk 0,.code (sub cCoS [1,1,1])]++[]) (mkE 36 [(0,dl (G4 ls)),(3,di ((ls.take k).flatten.length:Nat)),(9,dl (G4 ls)),(10,di ls.length),(11,di k)]) σ0:=by
 induction n using Nat.strongRecOn with
 |_ n ih=>
 intro k hn
 refine lv 36 [] (.b (.e fun x:List (List UInt8)=>.x (.list (x.map V.str))<|.f<|.l [ke 0,ch 3 (di ((ls.take (k+1)).flatten.length:Nat)),ke 9,ke 10,ch 11 (di (k+1:Nat))]) (.h (.ckn 1 1 1 [])<|.ls [ke 0,ch 6 (.acc 1 ((ls.take 0).flatten.map V.str)),ke 25,ch 26 (di ls.length),ch 27 (di (0:Nat))] ⟨[],[(1,1,(ls.take 0).flatten.map V.str)]⟩)) ((decide ((k:Int)<(ls.length:Int))=true->∃a,0<=(k:Int)/\(G4 ls)[Int.toNat (k:Int)]?=some (V.list (map V.str a))/\decide (wrap i64 ((length (flatten (take k ls)):Int)+(length (map V.str a):Int))<0)=false/\di (wrap i64 ((length (flatten (take k ls)):Int)+(length (map V.str a):Int)))=di (length (flatten (take (k+1) ls)):Int)/\di (wrap i64 ((k:Int)+1))=di (↑(k+1):Int)/\Nv.It (A2 (CN 0) PP (fun env σ1=>A8 PP fCoS env σ1 (D.acc 1 (map V.str (flatten ls))) (St.mk [] [(1,1,map V.str (flatten ls))])) [kl cCoS [1,1,0,1,0,0],KI.blk 0,kc cCoS [1,1,1]] (mkE 36 [(0,D.v (V.list (G4 ls))),(3,di (length (flatten (take (k+1) ls)):Int)),(9,D.v (V.list (G4 ls))),(10,di (ls.length:Int)),(11,di (↑(k+1):Int))]) σ0))/\(decide ((k:Int)<(ls.length:Int))=false->Ab PP 175 [dn,di (length (flatten (take k ls)):Int)] (St.mk [] []) (D.acc 1 []) (St.mk [] [(1,1,[])])/\Q (D.acc 1 [])/\di (length (G4 ls):Int)=di (ls.length:Int)/\di 0=di (↑0:Int)/\Q [(1,1,nV)]/\I0 fCoS 0 (D.acc 1 (map V.str (flatten ls))) (St.mk [] [(1,1,map V.str (flatten ls))]) [kl cCoS [1,1,1,1,0,1,0,0],KI.blk 2,kc cCoS [1,1,1,1,1]] (mkE 36 [(0,D.v (V.list (G4 ls))),(6,D.acc 1 []),(25,D.v (V.list (G4 ls))),(26,di (ls.length:Int)),(27,di (↑0:Int))]) (St.mk [] [(1,1,[])]))) ?_
 refine⟨fun h=>?_,fun h=>?_⟩
 ·have hk:k<ls.length:=by simpa using h
  have hx:ls[k]?=some ls[k]:=getElem?_eq_getElem hk
  have hf:=congrArg length (De hk)
  rw[length_append] at hf
  have hle:=Ft ls (k+1)
  generalize ls[k]=x at hx hf⊢
  have h2:i64.wrap ((((ls.take k).flatten.length:Nat):Int)+((x.map V.str).length:Int))=(((ls.take (k+1)).flatten.length:Nat):Int):=by rw[Aj (by simp only[length_map];omega) (by simp only[length_map];omega),hf];simp
  refine⟨x,by omega,by simp[hx],by rw[h2];simp,by rw[h2],Af (by omega),⟨?_⟩⟩
  exact ih (ls.length- (k+1)) (by omega) (k+1) rfl
 ·have hk:ls.length<=k:=by simpa using h
  rw[take_of_length_le hk]
  refine⟨grS_spec ls.flatten.length ht,rfl,by simp,rfl,rfl,⟨?_⟩⟩
  exact coSA_loop2 ls hl ht _ 0 rfl
theorem coSA_spec(ls:List (List (List UInt8)))(hl:ls.length<=1000)(ht:ls.flatten.length<=1000000):Ab PP 128 [dl (G4 ls)] σ0 (.acc 1 (ls.flatten.map V.str)) ⟨[],[(1,1,ls.flatten.map V.str)]⟩:=by
 refine sv fCoS 36 [] (.l [ke 0,ch 3 (di ((ls.take 0).flatten.length:Nat)),ke 9,ch 10 (di ls.length),ch 11 (di (0:Nat))]) (di 0=di (length (flatten (take 0 ls)):Int)/\di (length (G4 ls):Int)=di (ls.length:Int)/\di 0=di (↑0:Int)/\I0 fCoS σ0.H.length (D.acc 1 (map V.str (flatten ls))) (St.mk [] [(1,1,map V.str (flatten ls))]) [kl cCoS [1,1,0,1,0,0],KI.blk 0,kc cCoS [1,1,1]] (mkE 36 [(0,dl (G4 ls)),(3,di (length (flatten (take 0 ls)):Int)),(9,dl (G4 ls)),(10,di (ls.length:Int)),(11,di (↑0:Int))]) σ0) ?_
 refine⟨rfl,by simp,rfl,⟨?_⟩⟩
 exact coSA_loop1 ls hl ht _ 0 rfl
structure Tk where
 place:Int
 low:Int
 high:Int
 deriving DecidableEq,Inhabited
abbrev vTk(t:Tk):V:=.agg [vi t.place,vi t.low,vi t.high]
abbrev AA(l:List Tk):V:=.list (l.map vTk)
structure Rul where
 name:List UInt8
 frm:Int
 to:Int
 need:List Int
 give:List Int
 move:List Int
 chan:Int
 act:Int
 letter:Int
 path:List Int
 next:List Int
 takes:List Tk
 makes:List Int
 second:Int
 deriving DecidableEq,Inhabited
abbrev Ak(r:Rul):V:=.agg [.str r.name,vi r.frm,vi r.to,vIs r.need,vIs r.give,vIs r.move,vi r.chan,vi r.act,vi r.letter,vIs r.path,vIs r.next,AA r.takes,vIs r.makes,vi r.second]
abbrev AY(l:List Rul):V:=.list (l.map Ak)
abbrev vSs(l:List (List UInt8)):V:=.list (l.map V.str)
structure Mod where
 kind:Int
 states:List (List UInt8)
 places:List (List UInt8)
 letters:List (List UInt8)
 ranks:List Int
 levels:Int
 age:Int
 rules:List Rul
 start:Val
 deriving Inhabited
abbrev AE(m:Mod):V:=.agg [vi m.kind,vSs m.states,vSs m.places,vSs m.letters,vIs m.ranks,vi m.levels,vi m.age,AY m.rules,vi m.start.n,vVs m.start.kids]
abbrev Ah(m:Mod):D:=.v (AE m)
abbrev BK(r:Rul):D:=.v (Ak r)
def A3(x a b:Int):Bool:=decide (a<=x)&&decide (x<=b)
noncomputable abbrev fBetw:Func:= Tryz.f92
theorem CD(x a b:Int):Ab PP 92 [di x,di a,di b] σ0 (db (A3 x a b)) σ0:=by
 refine sv fBetw 15 [] (.b .r .r) ((decide (x>=a)=true->db (decide (x<=b))=db (A3 x a b))/\(decide (x>=a)=false->db false=db (A3 x a b))) ?_
 refine⟨fun h=>?_,fun h=>?_⟩
 ·have h:a<=x:=by simpa using h
  simp[A3,h]
 ·have h:¬a<=x:=by simpa using h
  simp[A3,h]
noncomputable abbrev fMIndex:Func:= Tryz.f131
theorem C6(x:Int)(n:Nat)(hn:n<=1000000):Ab PP 131 [di x,di n] σ0 (db (A3 x 0 (n-1))) σ0:=by
 refine sv fMIndex 9 [] (.c (db (A3 x 0 (n-1))) .r) (F0 92 [di x,di 0,di (wrap i64 ((n:Int)-1))] (db (A3 x 0 ((n:Int)-1)))/\Q (db (A3 x 0 ((n:Int)-1)))) ?_
 refine⟨?_,rfl⟩
 rw[Aj (by omega) (by omega)]
 exact CD x 0 (n-1)
noncomputable abbrev fMAll:Func:= Tryz.f137
noncomputable abbrev fMAll1:Func:= Tryz.f187
theorem mall1_spec(F:FuncId)(fs cs:List V)(p:Int->Bool)(x:Int)(hp:Ab PP F ((fs++[vi x]++cs).map .v) σ0 (db (p x)) σ0):Ab PP 187 [di x,.v (.ref (.fn F fs cs))] σ0 (db (!p x)) σ0:=by
 refine sv fMAll1 8 [] (.c (db (p x)) .r) (F0 F (map D.v (fs++[vi x]++cs)) (db (p x))/\(db !p x)=db !p x) ?_
 exact⟨hp,rfl⟩
theorem Hi(F:FuncId)(fs cs:List V)(p:Int->Bool)(l:List Int)(hl:l.length<=1000000)(hp:∀x∈l,Ab PP F ((fs++[vi x]++cs).map .v) σ0 (db (p x)) σ0):Ab PP 137 [dIs l,.v (.fn F fs cs)] σ0 (db (l.all p)) σ0:=by
 refine sv fMAll 9 [3] (.c (db (l.any fun x=> !p x)) .r) (F0 118 [dIs l,D.v (V.fn 187 [] [V.ref (V.fn F fs cs)])] (db (List.any l fun x=> !p x))/\(db !List.any l fun x=> !p x)=db (List.all l p)) ?_
 refine⟨Cw _ [] _ (fun x=> !p x) l hl fun x hx=>mall1_spec F fs cs p x (hp x hx),?_⟩
 congr 2
 induction l with
 |nil=>rfl
 |cons x l ih=>
  have h:=ih (by simp at hl;omega) (fun x hx=>hp x (by simp[hx]))
  simp only[List.any_cons,List.all_cons,Bool.not_or,Bool.not_not,h]
noncomputable abbrev fChg:Func:= Tryz.f132
noncomputable abbrev fChg1:Func:= Tryz.f180
abbrev CP(x:Int):Bool:=A3 x 0 16
theorem chg1_spec(x:Int):Ab PP 180 [di x] σ0 (db (CP x)) σ0:=by
 refine sv fChg1 5 [] (.c (db (CP x)) .r) (F0 92 [di x,di 0,di 16] (db (CP x))/\Q (db (CP x))) ?_
 exact⟨CD x 0 16,rfl⟩
structure Rul.short(r:Rul):Prop where
 need:r.need.length<=1000000
 give:r.give.length<=1000000
 move:r.move.length<=1000000
 path:r.path.length<=1000000
 next:r.next.length<=1000000
 takes:r.takes.length<=1000000
 makes:r.makes.length<=1000000
def BR(m:Mod)(r:Rul):Bool:=((r.need.length:Int)==m.places.length)&&(((r.give.length:Int)==m.places.length)&&(r.need.all CP&&r.give.all CP))
theorem chg_spec(m:Mod)(r:Rul)(hr:r.short):Ab PP 132 [Ah m,BK r] σ0 (db (BR m r)) σ0:=by
 refine sv fChg 34 [2,3] (.b (.b (.c (db (r.need.all CP))<|.b (.c (db (r.give.all CP)) .r) .r) .r) .r) ((((length (map vi r.need):Int)==(length (map V.str m.places):Int))=true->(((length (map vi r.give):Int)==(length (map V.str m.places):Int))=true->F0 137 [dIs r.need,D.v (V.fn 180 [] [])] (db (List.all r.need CP))/\(List.all r.need CP=true->F0 137 [dIs r.give,D.v (V.fn 180 [] [])] (db (List.all r.give CP))/\db (List.all r.give CP)=db (BR m r))/\(List.all r.need CP=false->db false=db (BR m r)))/\(((length (map vi r.give):Int)==(length (map V.str m.places):Int))=false->db false=db (BR m r)))/\(((length (map vi r.need):Int)==(length (map V.str m.places):Int))=false->db false=db (BR m r))) ?_
 refine⟨fun h1=>⟨fun h2=>⟨Hi _ [] [] CP _ hr.need fun x _=>chg1_spec x,fun h3=>⟨Hi _ [] [] CP _ hr.give fun x _=>chg1_spec x,?_⟩,fun h3=>?_⟩,fun h2=>?_⟩,fun h1=>?_⟩<;>(simp only[length_map] at*;simp[BR, *])
noncomputable abbrev fMvs:Func:= Tryz.f133
noncomputable abbrev fMvs1:Func:= Tryz.f181
theorem mvs1_spec(n:Nat)(hn:n<=1000000)(x:Int):Ab PP 181 [di x,.v (.ref (vi n))] σ0 (db (A3 x (-1) (n-1))) σ0:=by
 refine sv fMvs1 8 [] (.c (db (A3 x (-1) (n-1))) .r) (F0 92 [di x,di (-1),di (wrap i64 ((n:Int)-1))] (db (A3 x (-1) ((n:Int)-1)))/\Q (db (A3 x (-1) ((n:Int)-1)))) ?_
 refine⟨?_,rfl⟩
 rw[Aj (by omega) (by omega)]
 exact CD x (-1) (n-1)
def CV(m:Mod)(r:Rul):Bool:=((r.move.length:Int)==0)||(((r.move.length:Int)==m.places.length)&&r.move.all fun x=>A3 x (-1) (m.places.length-1))
theorem mvs_spec(m:Mod)(hm:m.places.length<=1000000)(r:Rul)(hr:r.short):Ab PP 133 [Ah m,BK r] σ0 (db (CV m r)) σ0:=by
 refine sv fMvs 26 [2,3] (.h (.q 2 0)<|.h (.f1 0 [5])<|.b .r (.b (.c (db (r.move.all fun x=>A3 x (-1) (m.places.length-1))) .r) .r)) ((((length (map vi r.move):Int)==0)=true->db true=db (CV m r))/\(((length (map vi r.move):Int)==0)=false->(((length (map vi r.move):Int)==(length (map V.str m.places):Int))=true->F0 137 [dIs r.move,D.v (V.fn 181 [] [V.ref (vi (length (map V.str m.places):Int))])] (db (List.all r.move fun x=>A3 x (-1) ((m.places.length:Int)-1)))/\db (List.all r.move fun x=>A3 x (-1) ((m.places.length:Int)-1))=db (CV m r))/\(((length (map vi r.move):Int)==(length (map V.str m.places):Int))=false->db false=db (CV m r)))) ?_
 refine⟨fun h1=>?_,fun h1=>⟨fun h2=>⟨Hi _ [] [_] _ _ hr.move fun x _=>by simpa using mvs1_spec m.places.length hm x,?_⟩,fun h2=>?_⟩⟩<;>(simp only[length_map] at*;simp[CV, *])
noncomputable abbrev fActs:Func:= Tryz.f134
def Eg(m:Mod)(r:Rul):Bool:=if (r.act==0)=true then(r.chan==0)&&(r.letter==0) else A3 r.act 1 2&&(A3 r.chan 0 (m.places.length-1)&&A3 r.letter 0 (m.letters.length-1))
theorem acts_spec(m:Mod)(hm:m.places.length<=1000000)(hl:m.letters.length<=1000000)(r:Rul):Ab PP 134 [Ah m,BK r] σ0 (db (Eg m r)) σ0:=by
 refine sv fActs 35 [2,3] (.b (.b .r .r) (.c (db (A3 r.act 1 2))<|.b (.c (db (A3 r.chan 0 (m.places.length-1)))<|.b (.c (db (A3 r.letter 0 (m.letters.length-1))) .r) .r) .r)) (((r.act==0)=true->((r.chan==0)=true->db (r.letter==0)=db (Eg m r))/\((r.chan==0)=false->db false=db (Eg m r)))/\((r.act==0)=false->F0 92 [di r.act,di 1,di 2] (db (A3 r.act 1 2))/\(A3 r.act 1 2=true->F0 131 [di r.chan,di (length (map V.str m.places):Int)] (db (A3 r.chan 0 ((m.places.length:Int)-1)))/\(A3 r.chan 0 ((m.places.length:Int)-1)=true->F0 131 [di r.letter,di (length (map V.str m.letters):Int)] (db (A3 r.letter 0 ((m.letters.length:Int)-1)))/\db (A3 r.letter 0 ((m.letters.length:Int)-1))=db (Eg m r))/\(A3 r.chan 0 ((m.places.length:Int)-1)=false->db false=db (Eg m r)))/\(A3 r.act 1 2=false->db false=db (Eg m r)))) ?_
 refine⟨fun h1=>⟨fun h2=>?_,fun h2=>?_⟩,fun h1=>⟨CD _ 1 2,fun h2=>⟨by simpa using C6 r.chan m.places.length hm,fun h3=>⟨by simpa using C6 r.letter m.letters.length hl,?_⟩,fun h3=>?_⟩,fun h2=>?_⟩⟩<;>(try simp only[length_map] at*)<;>simp[Eg, *]
noncomputable abbrev fEqT:Func:= Tryz.f188
theorem eqT_nil(a:List Tk):Ab PP 188 [.v (AA a),.v (AA [])] σ0 (db (decide (a=[]))) σ0:=by
 refine sv fEqT 26 [] (.b .r (.n<|.f .r)) ((((length (map vTk a):Int) !=(length (map vTk []):Int))=true->db false=db (decide (a=[])))/\(((length (map vTk a):Int) !=(length (map vTk []):Int))=false->decide (0<(length (map vTk a):Int))=false/\db true=db (decide (a=[])))) ?_
 refine⟨fun h=>?_,fun h=>?_⟩
 ·have:a≠ []:=by rintro rfl;simp at h
  simp[this]
 ·have:a=[]:=by simpa using h
  subst this
  simp
def BX(a b:Rul):Bool:=(a.name==b.name)&&((a.frm==b.frm)&&((a.to==b.to)&&(decide (a.need=b.need)&&(decide (a.give=b.give)&&(decide (a.move=b.move)&&((a.chan==b.chan)&&((a.act==b.act)&&((a.letter==b.letter)&&(decide (a.path=b.path)&&(decide (a.next=b.next)&&(decide (a.takes=[])&&(decide (a.makes=b.makes)&&(a.second==b.second)))))))))))))
noncomputable abbrev fSame:Func:= Tryz.f139
theorem same_spec(a b:Rul)(ha:a.short)(hb:b.takes=[]):Ab PP 139 [BK a,BK b] σ0 (db (BX a b)) σ0:=by
 refine sv fSame 101 [2,3] (.b (.b (.b (.c (db (decide (a.need=b.need)))<|.b (.c (db (decide (a.give=b.give)))<|.b (.c (db (decide (a.move=b.move)))<|.b (.b (.b (.b (.c (db (decide (a.path=b.path)))<|.b (.c (db (decide (a.next=b.next)))<|.b (.c (db (decide (a.takes=[])))<|.b (.c (db (decide (a.makes=b.makes)))<|.b .r .r) .r) .r) .r) .r) .r) .r) .r) .r) .r) .r) .r) .r) (((a.name==b.name)=true->((a.frm==b.frm)=true->((a.to==b.to)=true->F0 36 [dIs a.need,dIs b.need] (db (decide (a.need=b.need)))/\(decide (a.need=b.need)=true->F0 36 [dIs a.give,dIs b.give] (db (decide (a.give=b.give)))/\(decide (a.give=b.give)=true->F0 36 [dIs a.move,dIs b.move] (db (decide (a.move=b.move)))/\(decide (a.move=b.move)=true->((a.chan==b.chan)=true->((a.act==b.act)=true->((a.letter==b.letter)=true->F0 36 [dIs a.path,dIs b.path] (db (decide (a.path=b.path)))/\(decide (a.path=b.path)=true->F0 36 [dIs a.next,dIs b.next] (db (decide (a.next=b.next)))/\(decide (a.next=b.next)=true->F0 188 [D.v (AA a.takes),D.v (AA b.takes)] (db (decide (a.takes=[])))/\(decide (a.takes=[])=true->F0 36 [dIs a.makes,dIs b.makes] (db (decide (a.makes=b.makes)))/\(decide (a.makes=b.makes)=true->db (a.second==b.second)=db (BX a b))/\(decide (a.makes=b.makes)=false->db false=db (BX a b)))/\(decide (a.takes=[])=false->db false=db (BX a b)))/\(decide (a.next=b.next)=false->db false=db (BX a b)))/\(decide (a.path=b.path)=false->db false=db (BX a b)))/\((a.letter==b.letter)=false->db false=db (BX a b)))/\((a.act==b.act)=false->db false=db (BX a b)))/\((a.chan==b.chan)=false->db false=db (BX a b)))/\(decide (a.move=b.move)=false->db false=db (BX a b)))/\(decide (a.give=b.give)=false->db false=db (BX a b)))/\(decide (a.need=b.need)=false->db false=db (BX a b)))/\((a.to==b.to)=false->db false=db (BX a b)))/\((a.frm==b.frm)=false->db false=db (BX a b)))/\((a.name==b.name)=false->db false=db (BX a b))) ?_
 repeat' first|with_reducible refine And.intro ?_ ?_|intro _
 all_goals first|exact C7 _ _ ha.need|exact C7 _ _ ha.give|exact C7 _ _ ha.move|exact C7 _ _ ha.path|exact C7 _ _ ha.next|exact C7 _ _ ha.makes|(rw[hb];exact eqT_nil _)|simp[BX, *]
def onlyC(r:Rul):Rul:={ name:=r.name,frm:=r.frm,to:=r.to,need:=r.need,give:=r.give,move:=r.move,chan:=0,act:=0,letter:=0,path:=[],next:=[],takes:=[],makes:=[],second:=0 }
def onlyL(r:Rul):Rul:={ name:=r.name,frm:=r.frm,to:=r.to,need:=[],give:=[],move:=[],chan:=r.chan,act:=r.act,letter:=r.letter,path:=[],next:=[],takes:=[],makes:=[],second:=0 }
noncomputable abbrev fRight:Func:= Tryz.f97
def Ej(m:Mod)(r:Rul):Bool:=A3 r.to 0 (m.states.length-1)&&(A3 r.frm 0 (m.states.length-1)&&(BR m r&&(CV m r&&BX r (onlyC r))))
structure Mod.short(m:Mod):Prop where
 states:m.states.length<=1000000
 places:m.places.length<=1000000
 letters:m.letters.length<=1000000
 ranks:m.ranks.length<=1000000
 rules:m.rules.length<=1000000
 rule:∀r∈m.rules,r.short
theorem rightC_spec(m:Mod)(hm:m.short)(hk:m.kind=1)(r:Rul)(hr:r.short):Ab PP 97 [Ah m,BK r] σ0 (db (Ej m r)) σ0:=by
 refine sv fRight 142 [2,3] (.c (db (A3 r.to 0 (m.states.length-1)))<|.b .r<|.c (db (A3 r.frm 0 (m.states.length-1)))<|.b (.t .r)<|.k<|.t<|.c (db (BR m r))<|.b (.c (db (CV m r))<|.b (.c (db (BX r (onlyC r))) .r) .r) .r) (F0 131 [di r.to,di (length (map V.str m.states):Int)] (db (A3 r.to 0 ((m.states.length:Int)-1)))/\((!A3 r.to 0 ((m.states.length:Int)-1))=true->db false=db (Ej m r))/\((!A3 r.to 0 ((m.states.length:Int)-1))=false->F0 131 [di r.frm,di (length (map V.str m.states):Int)] (db (A3 r.frm 0 ((m.states.length:Int)-1)))/\((!A3 r.frm 0 ((m.states.length:Int)-1))=true->(m.kind !=6)=true/\db false=db (Ej m r))/\((!A3 r.frm 0 ((m.states.length:Int)-1))=false->(m.kind==1)=true/\F0 132 [Ah m,BK r] (db (BR m r))/\(BR m r=true->F0 133 [Ah m,BK r] (db (CV m r))/\(CV m r=true->F0 139 [BK r,D.v (V.agg [V.str r.name,vi r.frm,vi r.to,vIs r.need,vIs r.give,vIs r.move,vi 0,vi 0,vi 0,V.list [],V.list [],V.list [],V.list [],vi 0])] (db (BX r (onlyC r)))/\db (BX r (onlyC r))=db (Ej m r))/\(CV m r=false->db false=db (Ej m r)))/\(BR m r=false->db false=db (Ej m r))))) ?_
 repeat' first|with_reducible refine And.intro ?_ ?_|intro _
 all_goals first|(simpa using C6 _ _ hm.states)|exact chg_spec m r hr|exact mvs_spec m hm.places r hr|exact same_spec r (onlyC r) hr rfl|simp_all [Ej]
def Fx(m:Mod)(r:Rul):Bool:=A3 r.to 0 (m.states.length-1)&&(A3 r.frm 0 (m.states.length-1)&&(Eg m r&&BX r (onlyL r)))
theorem rightL_spec(m:Mod)(hm:m.short)(hk:m.kind=2∨m.kind=3)(r:Rul)(hr:r.short):Ab PP 97 [Ah m,BK r] σ0 (db (Fx m r)) σ0:=by
 refine sv fRight 142 [2,3] (.c (db (A3 r.to 0 (m.states.length-1)))<|.b .r<|.c (db (A3 r.frm 0 (m.states.length-1)))<|.b (.t .r)<|.k<|.f<|.b (.k<|.c (db (Eg m r))<|.b (.c (db (BX r (onlyL r))) .r) .r) (.t<|.c (db (Eg m r))<|.b (.c (db (BX r (onlyL r))) .r) .r)) (F0 131 [di r.to,di (length (map V.str m.states):Int)] (db (A3 r.to 0 ((m.states.length:Int)-1)))/\((!A3 r.to 0 ((m.states.length:Int)-1))=true->db false=db (Fx m r))/\((!A3 r.to 0 ((m.states.length:Int)-1))=false->F0 131 [di r.frm,di (length (map V.str m.states):Int)] (db (A3 r.frm 0 ((m.states.length:Int)-1)))/\((!A3 r.frm 0 ((m.states.length:Int)-1))=true->(m.kind !=6)=true/\db false=db (Fx m r))/\((!A3 r.frm 0 ((m.states.length:Int)-1))=false->(m.kind==1)=false/\((m.kind==2)=true->F0 134 [Ah m,BK r] (db (Eg m r))/\(Eg m r=true->F0 139 [BK r,D.v (V.agg [V.str r.name,vi r.frm,vi r.to,V.list [],V.list [],V.list [],vi r.chan,vi r.act,vi r.letter,V.list [],V.list [],V.list [],V.list [],vi 0])] (db (BX r (onlyL r)))/\db (BX r (onlyL r))=db (Fx m r))/\(Eg m r=false->db false=db (Fx m r)))/\((m.kind==2)=false->(m.kind==3)=true/\F0 134 [Ah m,BK r] (db (Eg m r))/\(Eg m r=true->F0 139 [BK r,D.v (V.agg [V.str r.name,vi r.frm,vi r.to,V.list [],V.list [],V.list [],vi r.chan,vi r.act,vi r.letter,V.list [],V.list [],V.list [],V.list [],vi 0])] (db (BX r (onlyL r)))/\db (BX r (onlyL r))=db (Fx m r))/\(Eg m r=false->db false=db (Fx m r)))))) ?_
 repeat' first|with_reducible refine And.intro ?_ ?_|intro _
 all_goals first|(simpa using C6 _ _ hm.states)|exact acts_spec m hm.places hm.letters r|exact same_spec r (onlyL r) hr rfl|(rcases hk with hk|hk<;>simp_all [Fx])
noncomputable abbrev fLet:Func:= Tryz.f176
noncomputable abbrev fDig:Func:= Tryz.f207
noncomputable abbrev fPart:Func:= Tryz.f178
def letB(c:UInt8):Bool:=decide ((c.toNat:Int)>=97)&&decide ((c.toNat:Int)<=122)
def digB(c:UInt8):Bool:=decide ((c.toNat:Int)>=48)&&decide ((c.toNat:Int)<=57)
def H4(c:UInt8):Bool:=letB c||(digB c||((c.toNat:Int)==95))
theorem let_spec(c:UInt8):Ab PP 176 [.v (vb c)] σ0 (db (letB c)) σ0:=by
 refine sv fLet 9 [] (.b .r .r) ((decide ((↑(UInt8.toNat c):Int)>=97)=true->db (decide ((↑(UInt8.toNat c):Int)<=122))=db (letB c))/\(decide ((↑(UInt8.toNat c):Int)>=97)=false->db false=db (letB c))) ?_
 refine⟨fun h=>?_,fun h=>?_⟩<;>simp[letB, *]
theorem dig_spec(c:UInt8):Ab PP 207 [.v (vb c)] σ0 (db (digB c)) σ0:=by
 refine sv fDig 9 [] (.b .r .r) ((decide ((↑(UInt8.toNat c):Int)>=48)=true->db (decide ((↑(UInt8.toNat c):Int)<=57))=db (digB c))/\(decide ((↑(UInt8.toNat c):Int)>=48)=false->db false=db (digB c))) ?_
 refine⟨fun h=>?_,fun h=>?_⟩<;>simp[digB, *]
theorem part_spec(c:UInt8):Ab PP 178 [.v (vb c)] σ0 (db (H4 c)) σ0:=by
 refine sv fPart 13 [] (.c (db (letB c))<|.b .r<|.c (db (digB c))<|.b .r .r) (F0 176 [D.v (V.int IntKind.u8 (↑(UInt8.toNat c):Int))] (db (letB c))/\(letB c=true->db true=db (H4 c))/\(letB c=false->F0 207 [D.v (V.int IntKind.u8 (↑(UInt8.toNat c):Int))] (db (digB c))/\(digB c=true->db true=db (H4 c))/\(digB c=false->db ((↑(UInt8.toNat c):Int)==95)=db (H4 c)))) ?_
 refine⟨let_spec c,fun h=>?_,fun h=>⟨dig_spec c,fun h2=>?_,fun h2=>?_⟩⟩<;>simp[H4, *]
noncomputable abbrev fRun:Func:= Tryz.f177
noncomputable def cRun:Code:=fRun.body.getD .skip
def Hv(p:UInt8->Bool):List UInt8->Nat
 |[]=>0
 |c::s=>if p c then Hv p s+1 else 0
theorem run_loop(F:FuncId)(p:UInt8->Bool)(s:List UInt8)(hs:s.length<=1000000)(hp:∀c∈s,Ab PP F [.v (vb c)] σ0 (db (p c)) σ0)(n:Nat):∀k:Nat,s.length-k=n->k<=s.length->
  Rn PP fRun 0 (di ((k+Hv p (s.drop k):Nat):Int)) σ0 ([.lp (sub cRun [1,1,0,0,0]),.blk 0,.code (sub cRun [1,1,1])]++[]) (mkE 20 [(0,ds s),(1,.v (.fn F [] [])),(5,di k)]) σ0:=by
 induction n using Nat.strongRecOn with
 |_ n ih=>
 intro k hn hk0
 refine lv 20 [] (.b (.e fun c:UInt8=>.y c<|.c (db (p c))<|.b (.l [ke 0,ke 1,ch 5 (di (k+1:Nat))]) .r) (.k .r)) ((decide ((k:Int)<(s.length:Int))=true->∃a,0<=(k:Int)/\s[Int.toNat (k:Int)]?=some a/\Ab PP F [D.v (V.int IntKind.u8 (↑(UInt8.toNat a):Int))] (St.mk [] []) (db (p a)) (St.mk [] [])/\(p a=true->di (wrap i64 ((k:Int)+1))=di (↑(k+1):Int)/\Nv.It (A2 (CN 0) PP (fun env σ1=>A8 PP fRun env σ1 (di (↑(k+Hv p (List.drop k s)):Int)) σ0) [kl cRun [1,1,0,0,0],KI.blk 0,kc cRun [1,1,1]] (mkE 20 [(0,D.v (V.str s)),(1,D.v (V.fn F [] [])),(5,di (↑(k+1):Int))]) σ0))/\(p a=false->di (k:Int)=di (↑(k+Hv p (List.drop k s)):Int)))/\(decide ((k:Int)<(s.length:Int))=false->di (k:Int)=di (↑(k+Hv p (List.drop k s)):Int))) ?_
 refine⟨fun h=>?_,fun h=>?_⟩
 ·have hk:k<s.length:=by simpa using h
  have hx:s[k]?=some s[k]:=getElem?_eq_getElem hk
  have hih:=ih (s.length- (k+1)) (by omega) (k+1) rfl hk
  rw[drop_eq_getElem_cons hk]
  generalize s[k]=c at hx⊢
  refine⟨c,by omega,by simpa using hx,by simpa using hp c (mem_of_getElem? hx),fun h2=>⟨Af (by omega),⟨?_⟩⟩,fun h2=>?_⟩
  ·simp only[Hv,h2,if_true]
   rw[show k+(Hv p (s.drop (k+1))+1)=k+1+Hv p (s.drop (k+1)) by omega]
   exact hih
  ·simp[Hv,h2]
 ·have hk:s.length<=k:=by simpa using h
  rw[drop_of_length_le hk];simp[Hv]
theorem run_spec(F:FuncId)(p:UInt8->Bool)(s:List UInt8)(hs:s.length<=1000000)(hp:∀c∈s,Ab PP F [.v (vb c)] σ0 (db (p c)) σ0):Ab PP 177 [ds s,.v (.fn F [] [])] σ0 (di (Hv p s)) σ0:=by
 refine sv fRun 20 [] (.l [ke 0,ke 1,ch 5 (di (0:Nat))]) (di 0=di (↑0:Int)/\I0 fRun σ0.H.length (di (↑(Hv p s):Int)) σ0 [kl cRun [1,1,0,0,0],KI.blk 0,kc cRun [1,1,1]] (mkE 20 [(0,D.v (V.str s)),(1,D.v (V.fn F [] [])),(5,di (↑0:Int))]) σ0) ?_
 refine⟨rfl,⟨?_⟩⟩
 have:=run_loop F p s hs hp _ 0 rfl (by omega)
 simpa using this
noncomputable abbrev fWord:Func:= Tryz.f129
def Gq(s:List UInt8):Bool:=(s !=[])&&(decide ((s.length:Int)<=12)&&(letB (s.headD 0)&&((Hv H4 s:Int)==s.length)))
theorem short12{s:List UInt8}(h:decide ((s.length:Int)<=12)=true):s.length<=1000000:=by
 have h:=of_decide_eq_true h
 omega
theorem word_spec(s:List UInt8):Ab PP 129 [ds s] σ0 (db (Gq s)) σ0:=by
 refine sv fWord 22 [] (.b (.b (.y (s.headD 0)<|.c (db (letB (s.headD 0)))<|.b (.c (di (Hv H4 s)) .r) .r) .r) .r) (((!s==(ByteArray.mk #[]).data.toList)=true->(decide ((s.length:Int)<=12)=true->iz 0<=0/\s[Int.toNat 0]?=some (List.headD s 0)/\F0 176 [D.v (V.int IntKind.u8 (↑(UInt8.toNat (List.headD s 0)):Int))] (db (letB (List.headD s 0)))/\(letB (List.headD s 0)=true->F0 177 [D.v (V.str s),D.v (V.fn 178 [] [])] (di (↑(Hv H4 s):Int))/\db ((↑(Hv H4 s):Int)==(s.length:Int))=db (Gq s))/\(letB (List.headD s 0)=false->db false=db (Gq s)))/\(decide ((s.length:Int)<=12)=false->db false=db (Gq s)))/\((!s==(ByteArray.mk #[]).data.toList)=false->db false=db (Gq s))) ?_
 refine⟨fun h1=>⟨fun h2=>⟨by simp,?_,let_spec _,fun h3=>⟨run_spec _ H4 s (short12 h2) fun c _=>part_spec c,?_⟩,fun h3=>?_⟩,fun h2=>?_⟩,fun h1=>?_⟩
 ·cases s with
  |nil=>simp[binS] at h1
  |cons a s=>rfl
 all_goals simp_all [Gq]
 all_goals omega
theorem Dp{l:List (List UInt8)}{k:Nat}{s:List UInt8}(h:l[k]?=some s):(l.map V.str)[Int.toNat (k:Int)]?=some (.str s):=by simp[h]
noncomputable abbrev fIdS:Func:= Tryz.f208
noncomputable def cIdS:Code:=fIdS.body.getD .skip
theorem idS_loop(l:List (List UInt8))(v:List UInt8)(hl:l.length<=1000000)(n:Nat):∀k:Nat,l.length-k=n->
  Rn PP fIdS 0 (di (ixM (· ==v) (l.drop k) k)) σ0 ([.lp (sub cIdS [1,0,1,0,0]),.blk 0,.code (sub cIdS [1,1])]++[]) (mkE 19 [(0,dl (l.map V.str)),(1,.v (V.str v)),(7,di l.length),(8,di k)]) σ0:=by
 induction n using Nat.strongRecOn with
 |_ n ih=>
 intro k hn
 refine lv 19 [] (.b (.e fun x:List UInt8=>.x (V.str x)<|.b .r (.l [ke 0,ke 1,ke 7,ch 8 (di (k+1:Nat))])) .r) ((decide ((k:Int)<(l.length:Int))=true->∃a,0<=(k:Int)/\(map V.str l)[Int.toNat (k:Int)]?=some (V.str a)/\((v==a)=true->di (k:Int)=di (ixM (fun x=>x==v) (List.drop k l) k))/\((v==a)=false->di (wrap i64 ((k:Int)+1))=di (↑(k+1):Int)/\Nv.It (A2 (CN 0) PP (fun env σ1=>A8 PP fIdS env σ1 (di (ixM (fun x=>x==v) (List.drop k l) k)) σ0) [kl cIdS [1,0,1,0,0],KI.blk 0,kc cIdS [1,1]] (mkE 19 [(0,D.v (V.list (map V.str l))),(1,D.v (V.str v)),(7,di (l.length:Int)),(8,di (↑(k+1):Int))]) σ0)))/\(decide ((k:Int)<(l.length:Int))=false->di (-1)=di (ixM (fun x=>x==v) (List.drop k l) k))) ?_
 refine⟨fun h=>?_,fun h=>?_⟩
 ·have hk:k<l.length:=by simpa using h
  have hx:l[k]?=some l[k]:=getElem?_eq_getElem hk
  rw[drop_eq_getElem_cons hk]
  generalize l[k]=x at hx⊢
  refine⟨x,by omega,Dp hx,fun hf=>?_,fun hf=>⟨Af (by omega),⟨?_⟩⟩⟩
  ·have:v=x:=by simpa using hf
   subst this;simp[ixM]
  ·have h2:v≠x:=by simpa using hf
   have:(x==v)=false:=by simpa using fun e=>h2 e.symm
   simp only[ixM,this]
   exact ih (l.length- (k+1)) (by omega) (k+1) rfl
 ·have hk:l.length<=k:=by simpa using h
  rw[drop_of_length_le hk];rfl
theorem idS_spec(l:List (List UInt8))(v:List UInt8)(hl:l.length<=1000000):Ab PP 208 [dl (l.map V.str),.v (V.str v)] σ0 (di (ixM (· ==v) l 0)) σ0:=by
 refine sv fIdS 19 [] (.l [ke 0,ke 1,ch 7 (di l.length),ch 8 (di (0:Nat))]) (di (length (map V.str l):Int)=di (l.length:Int)/\di 0=di (↑0:Int)/\I0 fIdS σ0.H.length (di (ixM (fun x=>x==v) l 0)) σ0 [kl cIdS [1,0,1,0,0],KI.blk 0,kc cIdS [1,1]] (mkE 19 [(0,dl (map V.str l)),(1,D.v (V.str v)),(7,di (l.length:Int)),(8,di (↑0:Int))]) σ0) ?_
 refine⟨by simp,rfl,⟨?_⟩⟩
 exact idS_loop l v hl _ 0 rfl
noncomputable abbrev fConS:Func:= Tryz.f179
theorem conS_spec(l:List (List UInt8))(v:List UInt8)(hl:l.length<=1000000):Ab PP 179 [dl (l.map V.str),.v (V.str v)] σ0 (db (l.any (· ==v))) σ0:=by
 refine sv fConS 9 [] (.c (di (ixM (· ==v) l 0)) .r) (F0 208 [D.v (V.list (map V.str l)),D.v (V.str v)] (di (ixM (fun x=>x==v) l 0))/\db (decide (ixM (fun x=>x==v) l 0>=0))=db (List.any l fun x=>x==v)) ?_
 exact⟨idS_spec l v hl,by rw[←Hk]⟩
def keys:List (List UInt8):=[[109,111,100,101,108],[115,116,97,116,101,115],[112,108,97,99,101,115],[108,101,116,116,101,114,115],[108,101,118,101,108,115],[97,103,101],[114,117,108,101],[110,101,101,100],[103,105,118,101],[109,111,118,101],[101,109,112,116,121],[115,101,110,100],[114,101,99,101,105,118,101],[112,97,116,104],[110,101,120,116],[116,97,107,101],[109,97,107,101],[115,116,97,114,116]]
def keyB(s:List UInt8):Bool:=keys.any (· ==s)
noncomputable abbrev fKw:Func:= Tryz.f130
theorem kw_spec(s:List UInt8):Ab PP 130 [ds s] σ0 (db (keyB s)) σ0:=by
 refine sv fKw 6 [] (.c (db (keyB s)) .r) (F0 179 [D.v (V.list [V.str (ByteArray.mk #[109,111,100,101,108]).data.toList,V.str (ByteArray.mk #[115,116,97,116,101,115]).data.toList,V.str (ByteArray.mk #[112,108,97,99,101,115]).data.toList,V.str (ByteArray.mk #[108,101,116,116,101,114,115]).data.toList,V.str (ByteArray.mk #[108,101,118,101,108,115]).data.toList,V.str (ByteArray.mk #[97,103,101]).data.toList,V.str (ByteArray.mk #[114,117,108,101]).data.toList,V.str (ByteArray.mk #[110,101,101,100]).data.toList,V.str (ByteArray.mk #[103,105,118,101]).data.toList,V.str (ByteArray.mk #[109,111,118,101]).data.toList,V.str (ByteArray.mk #[101,109,112,116,121]).data.toList,V.str (ByteArray.mk #[115,101,110,100]).data.toList,V.str (ByteArray.mk #[114,101,99,101,105,118,101]).data.toList,V.str (ByteArray.mk #[112,97,116,104]).data.toList,V.str (ByteArray.mk #[110,101,120,116]).data.toList,V.str (ByteArray.mk #[116,97,107,101]).data.toList,V.str (ByteArray.mk #[109,97,107,101]).data.toList,V.str (ByteArray.mk #[115,116,97,114,116]).data.toList]),D.v (V.str s)] (db (keyB s))/\Q (db (keyB s))) ?_
 exact⟨conS_spec keys s (by decide),rfl⟩
noncomputable abbrev fNam:Func:= Tryz.f95
noncomputable def DF:Code:=fNam.body.getD .skip
def nmB(used:List (List UInt8)):List (List UInt8)->Bool
 |[]=>true
 |s::l=>Gq s&&(!keyB s&&(!used.contains s&&nmB (used++[s]) l))
def CK(m:Mod):List (List UInt8):=[m.states,m.places,m.letters].flatten
def namesM(m:Mod):List (List UInt8):=CK m++m.rules.map Rul.name
def Ge(m:Mod):Bool:=nmB [] (namesM m)
abbrev accS(l:List (List UInt8)):D:=.acc 1 (l.map V.str)
abbrev ownS(l:List (List UInt8)):St:=⟨[],[(1,1,l.map V.str)]⟩
theorem nam_loop2(r:Nat)(l:List (List UInt8))(hl:l.length<=1000000)(n:Nat):∀k:Nat,l.length-k=n->k<=l.length->
  A2 (CS 0 r (l.take k)) PP (fun env σ1=>A8 PP fNam env σ1 (db (nmB (l.take k) (l.drop k))) σ0) [.lp (sub DF [1,1,1,1,0,1,0,0]),.blk 2,.code (sub DF [1,1,1,1,1])] (mkE 52 [(3,.raw (.map (some r))),(31,dl (l.map V.str)),(32,di l.length),(33,di k)]) σ0:=by
 induction n using Nat.strongRecOn with
 |_ n ih=>
 intro k hn hk0
 refine run_s mixed 52 [1] (.b (.e fun s:List UInt8=>.x (.str s)<|.c (db (Gq s))<|.b .r (.c (db (keyB s))<|.b .r (.h (.q 11 10)<|.h (.s [ke 3,ke 8,ke 31,ke 32,ke 33,ke 44,ke 45,ke 46]) .z))) .r) ?_
 refine via (by kernel_rfl:((decide ((k:Int)<(l.length:Int))=true->∃a,0<=(k:Int)/\(map V.str l)[Int.toNat (k:Int)]?=some (V.str a)/\Ab PP 129 [D.v (V.str a)] (St.mk [] []) (db (Gq a)) (St.mk [] [])/\((!Gq a)=true->db false=db (nmB (take k l) (List.drop k l)))/\((!Gq a)=false->Ab PP 130 [D.v (V.str a)] (St.mk [] []) (db (keyB a)) (St.mk [] [])/\(keyB a=true->db false=db (nmB (take k l) (List.drop k l)))/\(keyB a=false->Nv.It (BF (CS 0 r (take k l)) PP (fun env σ1=>A8 PP fNam env σ1 (db (nmB (take k l) (List.drop k l))) σ0) [kc DF [1,1,1,1,0,1,0,0,1,1,0,0,1,0,1],kc DF [1,1,1,1,0,1,0,0,1,1,0,0,1,1],KI.blk 3,kc DF [1,1,1,1,0,1,0,0,1,1,1],kl DF [1,1,1,1,0,1,0,0],KI.blk 2,kc DF [1,1,1,1,1]] (AD (sub DF [1,1,1,1,0,1,0,0,1,1,0,0,1,0,0])) (List.drop 10 (AD (sub DF [1,1,1,1,0,1,0,0,1,1,0,0,1,0,0])).toList) (mkE 52 [(3,D.raw (Value.map (some r))),(8,D.v (V.str a)),(31,D.v (V.list (map V.str l))),(32,di (l.length:Int)),(33,di (k:Int)),(44,db false),(45,D.raw (Value.map (some r))),(46,D.v (V.str a))]) σ0))))/\(decide ((k:Int)<(l.length:Int))=false->db true=db (nmB (take k l) (List.drop k l))))=_) ?_
 refine⟨fun h=>?_,fun h=>?_⟩
 ·have hk:k<l.length:=by simpa using h
  have hx:l[k]?=some l[k]:=getElem?_eq_getElem hk
  have hih:=ih (l.length- (k+1)) (by omega) (k+1) rfl hk
  rw[List.take_succ_eq_append_getElem hk] at hih
  rw[drop_eq_getElem_cons hk]
  generalize l[k]=s at hx hih⊢
  refine⟨s,by omega,by simp[hx],word_spec s,fun h1=>?_,fun h1=>⟨kw_spec s,fun h2=>?_,fun h2=>⟨?_⟩⟩⟩
  ·simp only[Bool.not_eq_true',Bool.not_eq_eq_eq_not,Bool.not_true] at h1;simp[nmB,h1]
  ·simp[nmB,h2]
  ·have h1:Gq s=true:=by simpa using h1
   refine ro_lookupE (s:=s) 47 45 46 rfl (by kernel_rfl) (by kernel_rfl) (by kernel_rfl) (by kernel_rfl) (by kernel_rfl) (by kernel_rfl) ?_
   refine rest_s mixed 52 [1] 11 11 (.b .r (.h (.q 13 2)<|.h (.s [ke 3,ke 8,ke 31,ke 32,ke 33,ke 49,ke 50]) .z)) ?_
   refine via (by kernel_rfl:((List.contains (take k l) s=true->db false=db (nmB (take k l) (s::List.drop (k+1) l)))/\(List.contains (take k l) s=false->Nv.It (BF (CS 0 r (take k l)) PP (fun env σ1=>A8 PP fNam env σ1 (db (nmB (take k l) (s::List.drop (k+1) l))) σ0) [KI.blk 3,kc DF [1,1,1,1,0,1,0,0,1,1,1],kl DF [1,1,1,1,0,1,0,0],KI.blk 2,kc DF [1,1,1,1,1]] (AD (sub DF [1,1,1,1,0,1,0,0,1,1,0,0,1,1])) (List.drop 2 (AD (sub DF [1,1,1,1,0,1,0,0,1,1,0,0,1,1])).toList) (mkE 52 [(3,D.raw (Value.map (some r))),(8,D.v (V.str s)),(31,D.v (V.list (map V.str l))),(32,di (l.length:Int)),(33,di (k:Int)),(49,D.raw (Value.map (some r))),(50,D.v (V.str s))]) σ0)))=_) ?_
   refine⟨fun h3=>?_,fun h3=>⟨?_⟩⟩
   ·simp only[nmB,h3,Bool.not_true,Bool.false_and,Bool.and_false]
   ·refine ro_setPutE (s:=s) 49 50 rfl (by kernel_rfl) (by kernel_rfl) (by kernel_rfl) (by kernel_rfl) (by kernel_rfl) (by kernel_rfl) h3 ?_
    refine rest_s mixed 52 [1] 13 3 (.ls [ke 3,ke 31,ke 32,ch 33 (di (k+1:Nat))] σ0) ?_
    refine via (by kernel_rfl:(di (wrap i64 ((k:Int)+1))=di (↑(k+1):Int)/\Nv.It (A2 (CS σ0.H.length r (take k l++[s])) PP (fun env σ1=>A8 PP fNam env σ1 (db (nmB (take k l) (s::List.drop (k+1) l))) σ0) [kl DF [1,1,1,1,0,1,0,0],KI.blk 2,kc DF [1,1,1,1,1]] (mkE 52 [(3,D.raw (Value.map (some r))),(31,D.v (V.list (map V.str l))),(32,di (l.length:Int)),(33,di (↑(k+1):Int))]) σ0))=_) ?_
    refine⟨Af (by omega),⟨?_⟩⟩
    simp only[nmB,h1,h2,h3,Bool.not_false,Bool.true_and]
    exact hih
 ·have hk:l.length<=k:=by simpa using h
  rw[drop_of_length_le hk];rfl
theorem nam_loop1(r:Nat)(m:Mod)(b:List (List UInt8))(hm:m.rules.length<=1000000)(hb:b.length+m.rules.length<=1000000)(n:Nat):∀k:Nat,m.rules.length-k=n->k<=m.rules.length->
  A2 (CS 0 r []) PP (fun env σ1=>A8 PP fNam env σ1 (db (nmB [] (b++m.rules.map Rul.name))) σ0) [.lp (sub DF [1,1,1,0,1,0,0]),.blk 0,.code (sub DF [1,1,1,1])] (mkE 52 [(3,.raw (.map (some r))),(4,accS (b++(m.rules.take k).map Rul.name)),(19,dl (m.rules.map Ak)),(20,di m.rules.length),(21,di k)]) (ownS (b++(m.rules.take k).map Rul.name)):=by
 induction n using Nat.strongRecOn with
 |_ n ih=>
 intro k hn hk0
 refine run_s mixed 52 [1] (.b (.e fun x:Rul=>.h (.xs (Ak x))<|.w<|.ls [ke 3,ch 4 (accS (b++(m.rules.take (k+1)).map Rul.name)),ke 19,ke 20,ch 21 (di (k+1:Nat))] (ownS (b++(m.rules.take (k+1)).map Rul.name))) (.h (.q 8 0)<|.h (.un 4)<|.ls [ke 3,ch 31 (dl ((b++m.rules.map Rul.name).map V.str)),ch 32 (di (b++m.rules.map Rul.name).length),ch 33 (di (0:Nat))] σ0)) ?_
 refine via (by kernel_rfl:((decide ((k:Int)<(m.rules.length:Int))=true->∃a,14=14/\0<=(k:Int)/\(map Ak m.rules)[Int.toNat (k:Int)]?=some (Ak a)/\map V.str (b++map Rul.name (take k m.rules))=map V.str (b++map Rul.name (take k m.rules))/\Ar (length (map V.str (b++map Rul.name (take k m.rules)))+length (V.str a.name::nV)) 16/\(∀(y:V),y∈ [V.str a.name]->V.size y=1)/\D.acc 1 (map V.str (b++map Rul.name (take k m.rules))++[V.str a.name])=accS (b++map Rul.name (take (k+1) m.rules))/\di (wrap i64 ((k:Int)+1))=di (↑(k+1):Int)/\[(1,1,map V.str (b++map Rul.name (take k m.rules))++V.str a.name::nV)]=[(1,1,map V.str (b++map Rul.name (take (k+1) m.rules)))]/\Nv.It (A2 (CS 0 r []) PP (fun env σ1=>A8 PP fNam env σ1 (db (nmB [] (b++map Rul.name m.rules))) σ0) [kl DF [1,1,1,0,1,0,0],KI.blk 0,kc DF [1,1,1,1]] (mkE 52 [(3,D.raw (Value.map (some r))),(4,accS (b++map Rul.name (take (k+1) m.rules))),(19,D.v (V.list (map Ak m.rules))),(20,di (m.rules.length:Int)),(21,di (↑(k+1):Int))]) (ownS (b++map Rul.name (take (k+1) m.rules)))))/\(decide ((k:Int)<(m.rules.length:Int))=false->D.v (V.list (map V.str (b++map Rul.name (take k m.rules))))=dl (map V.str (b++map Rul.name m.rules))/\di (length (map V.str (b++map Rul.name (take k m.rules))):Int)=di (length (b++map Rul.name m.rules):Int)/\di 0=di (↑0:Int)/\Nv.It (A2 (CS 0 r []) PP (fun env σ1=>A8 PP fNam env σ1 (db (nmB [] (b++map Rul.name m.rules))) σ0) [kl DF [1,1,1,1,0,1,0,0],KI.blk 2,kc DF [1,1,1,1,1]] (mkE 52 [(3,D.raw (Value.map (some r))),(31,dl (map V.str (b++map Rul.name m.rules))),(32,di (length (b++map Rul.name m.rules):Int)),(33,di (↑0:Int))]) σ0)))=_) ?_
 refine⟨fun h=>?_,fun h=>?_⟩
 ·have hk:k<m.rules.length:=by simpa using h
  have hx:m.rules[k]?=some m.rules[k]:=getElem?_eq_getElem hk
  have hih:=ih (m.rules.length- (k+1)) (by omega) (k+1) rfl hk
  have hl:(b++(m.rules.take k).map Rul.name).length<=1000000:=by simp;omega
  have ht:b++(m.rules.take (k+1)).map Rul.name=b++(m.rules.take k).map Rul.name++[(m.rules[k]).name]:=by rw[List.take_succ_eq_append_getElem hk,map_append,append_assoc];rfl
  rw[ht] at hih⊢
  generalize m.rules[k]=x at hx hih⊢
  generalize b++(m.rules.take k).map Rul.name=p at hl hih⊢
  refine⟨x,rfl,by omega,by simp[hx],rfl,?_,by simp[V.size],by simp,Af (by omega),by simp,⟨hih⟩⟩
  exact⟨by simp only[length_map,length_cons,length_nil];omega,by simp only[length_map,length_cons,length_nil];omega⟩
 ·have hk:m.rules.length<=k:=by simpa using h
  rw[take_of_length_le hk]
  refine⟨rfl,by simp,rfl,⟨?_⟩⟩
  exact nam_loop2 r _ (by simpa using hb) _ 0 rfl (by omega)
theorem nam_spec(m:Mod)(h1:(CK m).length+m.rules.length<=1000000):Ab PP 95 [Ah m] σ0 (db (Ge m)) σ0:=by
 refine sv fNam 52 [1] (.h (.q 1 0)<|.h (.s [ke 1]) .z) (Nv.It (BF (CN σ0.H.length) PP (fun env σ1=>A8 PP fNam env σ1 (db (Ge m)) σ0) [kc DF [1,1]] (AD (sub DF [1,0])) (List.drop 0 (AD (sub DF [1,0])).toList) (mkE 52 [(1,D.v (V.ref (AE m)))]) σ0)) ?_
 refine⟨ro_makeMapE 9 rfl (by kernel_rfl) (by kernel_rfl) (by kernel_rfl) fun r=>?_⟩
 refine rest_s mixed 52 [1] 1 1 (.h (.ck 1 1 1 ((CK m).map V.str))<|.ls [ke 3,ch 4 (accS (CK m++(m.rules.take 0).map Rul.name)),ke 19,ch 20 (di m.rules.length),ch 21 (di (0:Nat))] (ownS (CK m++(m.rules.take 0).map Rul.name))) ?_
 refine via (by kernel_rfl:(Ab PP 128 [D.v (V.list [vSs m.states,vSs m.places,vSs m.letters])] (St.mk [] []) (D.acc 1 (map V.str (CK m))) (St.mk [] [(1,1,map V.str (CK m))])/\D.acc 1 (map V.str (CK m))=accS (CK m++map Rul.name (take 0 m.rules))/\di (length (map Ak m.rules):Int)=di (m.rules.length:Int)/\di 0=di (↑0:Int)/\[(1,1,map V.str (CK m))]=[(1,1,map V.str (CK m++[]))]/\Nv.It (A2 (CS σ0.H.length r []) PP (fun env σ1=>A8 PP fNam env σ1 (db (Ge m)) σ0) [kl DF [1,1,1,0,1,0,0],KI.blk 0,kc DF [1,1,1,1]] (mkE 52 [(3,D.raw (Value.map (some r))),(4,accS (CK m++map Rul.name (take 0 m.rules))),(19,D.v (AY m.rules)),(20,di (m.rules.length:Int)),(21,di (↑0:Int))]) (ownS (CK m++map Rul.name (take 0 m.rules)))))=_) ?_
 refine⟨coSA_spec [m.states,m.places,m.letters] (by simp only[length_cons,length_nil];omega) (by show(CK m).length<=_;omega),by simp,by simp,rfl,by simp,⟨?_⟩⟩
 exact nam_loop1 r m (CK m) (by omega) h1 _ 0 rfl (by omega)
inductive Typ where
 |nat
 |lab (n:Int)
 |prod (l:List Typ)
 |word (t:Typ)
 |bag (t:Typ)
 |prio (n:Int) (r:List Int)
 deriving Inhabited
mutual
def Typ.enc:Typ->V
 |.nat=>.agg [vi 1,vi 0,.list [],.list []]
 |.lab n=>.agg [vi 2,vi n,.list [],.list []]
 |.prod l=>.agg [vi 3,vi 0,.list [],.list (Typ.encs l)]
 |.word t=>.agg [vi 4,vi 0,.list [],.list [t.enc]]
 |.bag t=>.agg [vi 5,vi 0,.list [],.list [t.enc]]
 |.prio n r=>.agg [vi 7,vi n,vIs r,.list []]
def Typ.encs:List Typ->List V
 |[]=>[]
 |t::l=>t.enc::Typ.encs l
end
theorem Typ.encs_map:∀l:List Typ,Typ.encs l=l.map Typ.enc
 |[]=>rfl
 |t::l=>by simp[Typ.encs,Typ.encs_map l]
abbrev vTy(k n:Int)(r:List Int)(l:List V):V:=.agg [vi k,vi n,vIs r,.list l]
def Typ.kd:Typ->Int
 |.nat=>1|.lab _=>2|.prod _=>3|.word _=>4|.bag _=>5|.prio _ _=>7
def Typ.sz:Typ->Int
 |.lab n=>n|.prio n _=>n|_=>0
def Typ.rk:Typ->List Int
 |.prio _ r=>r|_=>[]
def Typ.ps:Typ->List Typ
 |.prod l=>l|.word t=>[t]|.bag t=>[t]|_=>[]
abbrev eT:Typ->V:=Typ.enc
abbrev vT(t:Typ):V:=vTy t.kd t.sz t.rk (t.ps.map eT)
abbrev dT(t:Typ):D:=.v (vT t)
theorem eT_eq(t:Typ):eT t=vT t:=by cases t<;>simp only[eT,Typ.enc,Typ.encs_map]<;>rfl
theorem idx_typ{a:List Typ}{i:Nat}{x:Typ}(h:a[i]?=some x):(a.map eT)[((i:Nat):Int).toNat]?=some (vT x):=by rw[←eT_eq];exact Ao h
theorem vT_word(t:Typ):vT (.word t)=vTy 4 0 [] [vT t]:=by rw[←eT_eq t];rfl
theorem vT_bag(t:Typ):vT (.bag t)=vTy 5 0 [] [vT t]:=by rw[←eT_eq t];rfl
noncomputable abbrev fLab:Func:= Tryz.f142
def Es(n:Int)(v:Val):Bool:=decide (v.n>=0)&&(decide (v.n<n)&&((v.kids.length:Int)==0))
theorem lab_spec(n:Int)(v:Val):Ab PP 142 [dV v,di n] σ0 (db (Es n v)) σ0:=by
 refine sv fLab 20 [2] (.b (.b .r .r) .r) ((decide (v.n>=0)=true->(decide (v.n<n)=true->db ((length (map eV v.kids):Int)==0)=db (Es n v))/\(decide (v.n<n)=false->db false=db (Es n v)))/\(decide (v.n>=0)=false->db false=db (Es n v))) ?_
 refine⟨fun h1=>⟨fun h2=>?_,fun h2=>?_⟩,fun h1=>?_⟩<;>(try simp only[length_map] at*)<;>simp_all [Es]<;>(intros;omega)
noncomputable abbrev fSrt:Func:= Tryz.f144
noncomputable def cSrt:Code:=fSrt.body.getD .skip
def srtM(l:List Val):Nat->Bool
 |0=>true
 |k+1=>if Av (l.getD (k+1) default) (l.getD k default)<0 then false else srtM l k
theorem srt_loop(l:List Val)(hs:Val.sizes l<=1000000)(k:Nat):k<l.length->
  Rn PP fSrt 0 (db (srtM l k)) σ0 ([.lp (sub cSrt [1,0,1,0,0]),.blk 0,.code (sub cSrt [1,1])]++[]) (mkE 25 [(0,dVs l),(1,dfn 32),(5,di k)]) σ0:=by
 induction k with
 |zero=>
  intro hk
  refine lv 25 [] (.f .r) (decide ((↑0:Int)>0)=false/\db true=db (srtM l 0)) ?_
  exact⟨rfl,rfl⟩
 |succ k ih=>
  intro hk
  refine lv 25 [] (.t<|.x (Ad (l.getD (k+1) default))<|.x (Ad (l.getD k default))<|.c (di (Av (l.getD (k+1) default) (l.getD k default)))<|.b .r (.l [ke 0,ke 1,ch 5 (di k)])) (decide ((↑(k+1):Int)>0)=true/\0<=(↑(k+1):Int)/\(map eV l)[Int.toNat (↑(k+1):Int)]?=some (Ad (List.getD l (k+1) default))/\0<=wrap i64 ((↑(k+1):Int)-1)/\(map eV l)[Int.toNat (wrap i64 ((↑(k+1):Int)-1))]?=some (Ad (List.getD l k default))/\F0 32 [D.v (Ad (List.getD l (k+1) default)),D.v (Ad (List.getD l k default))] (di (Av (List.getD l (k+1) default) (List.getD l k default)))/\(decide (Av (List.getD l (k+1) default) (List.getD l k default)<0)=true->db false=db (srtM l (k+1)))/\(decide (Av (List.getD l (k+1) default) (List.getD l k default)<0)=false->di (wrap i64 ((↑(k+1):Int)-1))=di (k:Int)/\I0 fSrt 0 (db (srtM l (k+1))) σ0 [kl cSrt [1,0,1,0,0],KI.blk 0,kc cSrt [1,1]] (mkE 25 [(0,dVs l),(1,D.v (V.fn 32 [] [])),(5,di (k:Int))]) (St.mk [] []))) ?_
  have h1:i64.wrap (((k+1:Nat):Int)-1)=k:=by rw[Aj (by have:=Val.length_le l;omega) (by have:=Val.length_le l;omega)];omega
  have hx:l[k+1]?=some (l.getD (k+1) default):=by rw[getD_eq_getElem?_getD,getElem?_eq_getElem hk];rfl
  have hy:l[k]?=some (l.getD k default):=by rw[getD_eq_getElem?_getD,getElem?_eq_getElem (by omega)];rfl
  have hz:(l.getD (k+1) default).size<=1000000:=by have:=Val.size_mem (mem_of_getElem? hx);omega
  rw[h1]
  refine⟨by simp,by omega,Az hx,by omega,Az hy,Hr _ _ _ (Nat.le_refl _) hz,fun h2=>?_,fun h2=>⟨rfl,⟨?_⟩⟩⟩
  ·simp only[srtM,if_pos (of_decide_eq_true h2)]
  ·simp only[srtM,if_neg (of_decide_eq_false h2)]
   exact ih (by omega)
def srtB(l:List Val):Bool:=srtM l (l.length-1)
theorem srt_spec(l:List Val)(hs:Val.sizes l<=1000000):Ab PP 144 [dVs l,dfn 32] σ0 (db (srtB l)) σ0:=by
 cases l with
 |nil=>
  refine sv fSrt 25 [] (.n<|.f .r) (decide (wrap i64 ((length (map eV []):Int)-1)>0)=false/\db true=db (srtB [])) ?_
  exact⟨rfl,rfl⟩
 |cons v l=>
  refine sv fSrt 25 [] (.l [ke 0,ke 1,ch 5 (di (l.length:Nat))]) (di (wrap i64 ((length (map eV (v::l)):Int)-1))=di (l.length:Int)/\I0 fSrt σ0.H.length (db (srtB (v::l))) σ0 [kl cSrt [1,0,1,0,0],KI.blk 0,kc cSrt [1,1]] (mkE 25 [(0,dVs (v::l)),(1,dfn 32),(5,di (l.length:Int))]) σ0) ?_
  have:=Val.length_le (v::l)
  have h1:i64.wrap ((((v::l).map eV).length:Int)-1)=l.length:=by
   rw[length_map,length_cons] at*
   rw[Aj (by omega) (by omega)];omega
  rw[h1]
  exact⟨rfl,⟨srt_loop (v::l) hs l.length (by simp)⟩⟩
mutual
def AG:Typ->Val->Bool
 |.nat,v=>decide (v.n>=0)&&(decide (v.n<=1048576)&&((v.kids.length:Int)==0))
 |.lab n,v=>Es n v
 |.prod l,v=>(v.n==0)&&(((v.kids.length:Int)==l.length)&&CF l v.kids)
 |.word t,v=>(v.n==0)&&(decide ((v.kids.length:Int)<=12)&&v.kids.all (fun k=>AG t k))
 |.bag t,v=>((v.n==0)&&(decide ((v.kids.length:Int)<=12)&&v.kids.all (fun k=>AG t k)))&&srtB v.kids
 |.prio n _,v=>(v.n==0)&&(decide ((v.kids.length:Int)<=12)&&v.kids.all (fun k=>Es n k))
def CF:List Typ->List Val->Bool
 |t::l,v::vs=>AG t v&&CF l vs
 |_,_=>true
end
noncomputable abbrev fOne:Func:= Tryz.f101
noncomputable def cOne:Code:=fOne.body.getD .skip
noncomputable abbrev fLstV:Func:= Tryz.f143
noncomputable abbrev fLstV1:Func:= Tryz.f192
noncomputable abbrev fOne1:Func:= Tryz.f147
theorem any_not{α:Type}(l:List α)(p:α->Bool):(!l.any fun k=> !p k)=l.all p:=by
 induction l with
 |nil=>rfl
 |cons x l ih=>simp only[List.any_cons,List.all_cons,Bool.not_or,Bool.not_not,ih]
theorem one1_spec(n:Int)(r:List Int)(v:Val):Ab PP 147 [dV v,.v (.ref (vT (.prio n r)))] σ0 (db (!Es n v)) σ0:=by
 refine sv fOne1 9 [2] (.c (db (Es n v)) .r) (F0 142 [dV v,di (Typ.sz (Typ.prio n r))] (db (Es n v))/\(db !Es n v)=db !Es n v) ?_
 exact⟨lab_spec n v,rfl⟩
theorem list1_spec(t:Typ)(v:Val)(h:Ab PP 101 [dT t,dV v] σ0 (db (AG t v)) σ0):Ab PP 192 [dV v,.v (.ref (vT t))] σ0 (db (!AG t v)) σ0:=by
 refine sv fLstV1 8 [2] (.c (db (AG t v)) .r) (F0 101 [D.v (vT t),dV v] (db (AG t v))/\(db !AG t v)=db !AG t v) ?_
 exact⟨h,rfl⟩
def Em(t:Typ)(v:Val):Bool:=(v.n==0)&&(decide ((v.kids.length:Int)<=12)&&v.kids.all (fun k=>AG t k))
theorem len12{v:Val}(h:decide (((v.kids.map eV).length:Int)<=12)=true):v.kids.length<=1000000:=by
 have h:=of_decide_eq_true h
 rw[length_map] at h
 omega
theorem list_spec(t:Typ)(v:Val)(h:∀k∈v.kids,Ab PP 101 [dT t,dV k] σ0 (db (AG t k)) σ0):Ab PP 143 [dV v,dT t] σ0 (db (Em t v)) σ0:=by
 refine sv fLstV 21 [2,3] (.b (.b (.c (db (v.kids.any fun k=> !AG t k)) .r) .r) .r) (((v.n==0)=true->(decide ((length (map eV v.kids):Int)<=12)=true->F0 146 [dVs v.kids,D.v (V.fn 192 [] [V.ref (vT t)])] (db (List.any v.kids fun k=> !AG t k))/\(db !List.any v.kids fun k=> !AG t k)=db (Em t v))/\(decide ((length (map eV v.kids):Int)<=12)=false->db false=db (Em t v)))/\((v.n==0)=false->db false=db (Em t v))) ?_
 refine⟨fun h1=>⟨fun h2=>⟨Hm _ [] [_] _ v.kids (len12 h2) fun k hk=>list1_spec t k (h k hk),?_⟩,fun h2=>?_⟩,fun h1=>?_⟩
 ·rw[any_not];simp_all [Em]
 all_goals (simp_all [Em]<;>(intros;omega))
theorem one_nat(v:Val):Ab PP 101 [dT .nat,dV v] σ0 (db (AG .nat v)) σ0:=by
 refine sv fOne 110 [2,3] (.k<|.b (.b .r .r) .r) ((decide (v.n>=0)=true->(decide (v.n<=1048576)=true->db ((length (map eV v.kids):Int)==0)=db (AG Typ.nat v))/\(decide (v.n<=1048576)=false->db false=db (AG Typ.nat v)))/\(decide (v.n>=0)=false->db false=db (AG Typ.nat v))) ?_
 refine⟨fun h1=>⟨fun h2=>?_,fun h2=>?_⟩,fun h1=>?_⟩<;>simp_all [AG]<;>(intros;omega)
theorem one_lab(n:Int)(v:Val):Ab PP 101 [dT (.lab n),dV v] σ0 (db (AG (.lab n) v)) σ0:=by
 refine sv fOne 110 [2,3] (.c (db (Es n v)) .r) (F0 142 [dV v,di (Typ.sz (Typ.lab n))] (db (Es n v))/\db (Es n v)=db (AG (Typ.lab n) v)) ?_
 exact⟨lab_spec n v,by simp only[AG]⟩
theorem one_prio(n:Int)(r:List Int)(v:Val):Ab PP 101 [dT (.prio n r),dV v] σ0 (db (AG (.prio n r) v)) σ0:=by
 refine sv fOne 110 [2,3] (.k<|.k<|.k<|.k<|.k<|.k<|.b (.b (.c (db (v.kids.any fun k=> !Es n k)) .r) .r) .r) (((v.n==0)=true->(decide ((length (map eV v.kids):Int)<=12)=true->F0 146 [dVs v.kids,D.v (V.fn 147 [] [V.ref (vT (Typ.prio n r))])] (db (List.any v.kids fun k=> !Es n k))/\(db !List.any v.kids fun k=> !Es n k)=db (AG (Typ.prio n r) v))/\(decide ((length (map eV v.kids):Int)<=12)=false->db false=db (AG (Typ.prio n r) v)))/\((v.n==0)=false->db false=db (AG (Typ.prio n r) v))) ?_
 refine⟨fun h1=>⟨fun h2=>⟨Hm _ [] [_] _ v.kids (len12 h2) fun k hk=>one1_spec n r k,?_⟩,fun h2=>?_⟩,fun h1=>?_⟩
 ·rw[any_not];simp_all [AG]
 all_goals (simp_all [AG]<;>(intros;omega))
theorem one_word(t:Typ)(v:Val)(h:∀k∈v.kids,Ab PP 101 [dT t,dV k] σ0 (db (AG t k)) σ0):Ab PP 101 [dT (.word t),dV v] σ0 (db (AG (.word t) v)) σ0:=by
 rw[dT,vT_word]
 refine sv fOne 110 [2,3] (.x (vT t)<|.c (db (Em t v)) .r) (iz 0<=0/\Q (some (vT t))/\F0 143 [dV v,D.v (vT t)] (db (Em t v))/\db (Em t v)=db (AG (Typ.word t) v)) ?_
 exact⟨by decide,rfl,list_spec t v h,by simp only[AG,Em]⟩
theorem one_bag(t:Typ)(v:Val)(hv:v.size<=1000000)(h:∀k∈v.kids,Ab PP 101 [dT t,dV k] σ0 (db (AG t k)) σ0):Ab PP 101 [dT (.bag t),dV v] σ0 (db (AG (.bag t) v)) σ0:=by
 rw[dT,vT_bag]
 refine sv fOne 110 [2,3] (.x (vT t)<|.c (db (Em t v))<|.b (.c (db (srtB v.kids)) .r) .r) (iz 0<=0/\Q (some (vT t))/\F0 143 [dV v,D.v (vT t)] (db (Em t v))/\(Em t v=true->F0 144 [dVs v.kids,D.v (V.fn 32 [] [])] (db (srtB v.kids))/\db (srtB v.kids)=db (AG (Typ.bag t) v))/\(Em t v=false->db false=db (AG (Typ.bag t) v))) ?_
 have:=Val.size_eq v
 refine⟨by decide,rfl,list_spec t v h,fun h1=>⟨srt_spec v.kids (by omega),?_⟩,fun h1=>?_⟩
 ·simp only[Em] at h1;simp only[AG,h1,Bool.true_and]
 ·simp only[Em] at h1;simp only[AG,h1,Bool.false_and]
theorem prod_loop(l:List Typ)(v:Val)(hl:v.kids.length=l.length)(hv:v.kids.length<=1000000)(h:∀t∈l,∀k∈v.kids,Ab PP 101 [dT t,dV k] σ0 (db (AG t k)) σ0)(n:Nat):∀k:Nat,l.length-k=n->
  Rn PP fOne 0 (db (CF (l.drop k) (v.kids.drop k))) σ0 ([.lp (sub cOne [1,0,1,0,1,1,1,1,1,0,1,0,1,0,0]),.blk 1,.code (sub cOne [1,0,1,0,1,1,1,1,1,0,1,1]),.blk 0,.code (sub cOne [1,1])]++[]) (mkE 110 [(2,.v (.ref (vT (.prod l)))),(46,dVs v.kids),(47,di v.kids.length),(48,di k)]) σ0:=by
 induction n using Nat.strongRecOn with
 |_ n ih=>
 intro k hn
 refine lv 110 [2,3] (.b (.e fun x:Val=>.x (Ad x)<|.e fun t:Typ=>.x (vT t)<|.c (db (AG t x))<|.b .r (.ls [ke 2,ke 46,ke 47,ch 48 (di (k+1:Nat))] σ0)) .r) ((decide ((k:Int)<(v.kids.length:Int))=true->∃a,0<=(k:Int)/\(map eV v.kids)[Int.toNat (k:Int)]?=some (Ad a)/\∃a_1,0<=(k:Int)/\(map eT (Typ.ps (Typ.prod l)))[Int.toNat (k:Int)]?=some (vT a_1)/\Ab PP 101 [D.v (vT a_1),dV a] (St.mk [] []) (db (AG a_1 a)) (St.mk [] [])/\(True/\True)/\((!AG a_1 a)=true->db false=db (CF (List.drop k l) (List.drop k v.kids)))/\((!AG a_1 a)=false->di (wrap i64 ((k:Int)+1))=di (↑(k+1):Int)/\Nv.It (A2 (CN 0) PP (fun env σ1=>A8 PP fOne env σ1 (db (CF (List.drop k l) (List.drop k v.kids))) σ0) [kl cOne [1,0,1,0,1,1,1,1,1,0,1,0,1,0,0],KI.blk 1,kc cOne [1,0,1,0,1,1,1,1,1,0,1,1],KI.blk 0,kc cOne [1,1]] (mkE 110 [(2,D.v (V.ref (vT (Typ.prod l)))),(46,dVs v.kids),(47,di (v.kids.length:Int)),(48,di (↑(k+1):Int))]) σ0)))/\(decide ((k:Int)<(v.kids.length:Int))=false->db true=db (CF (List.drop k l) (List.drop k v.kids)))) ?_
 refine⟨fun h1=>?_,fun h1=>?_⟩
 ·have hk:k<v.kids.length:=by simpa using h1
  have hk2:k<l.length:=by omega
  have hx:v.kids[k]?=some v.kids[k]:=getElem?_eq_getElem hk
  have hy:l[k]?=some l[k]:=getElem?_eq_getElem hk2
  rw[drop_eq_getElem_cons hk,drop_eq_getElem_cons hk2]
  generalize v.kids[k]=x at hx⊢
  generalize l[k]=t at hy⊢
  refine⟨x,by omega,Az hx,t,by omega,idx_typ hy,h t (mem_of_getElem? hy) x (mem_of_getElem? hx),⟨trivial,trivial⟩,fun h2=>?_,fun h2=>⟨Af (by omega),⟨?_⟩⟩⟩
  ·have h2:AG t x=false:=by simpa using h2
   simp only[CF,h2,Bool.false_and]
  ·have h2:AG t x=true:=by simpa using h2
   simp only[CF,h2,Bool.true_and]
   exact ih (l.length- (k+1)) (by omega) (k+1) rfl
 ·have hk:v.kids.length<=k:=by simpa using h1
  rw[drop_of_length_le hk,drop_of_length_le (by omega)];simp only[CF]
theorem one_prod(l:List Typ)(v:Val)(hv:v.size<=1000000)(h:∀t∈l,∀k∈v.kids,Ab PP 101 [dT t,dV k] σ0 (db (AG t k)) σ0):Ab PP 101 [dT (.prod l),dV v] σ0 (db (AG (.prod l) v)) σ0:=by
 refine sv fOne 110 [2,3] (.k<|.k<|.k<|.b .r (.b .r (.l [ke 2,ke 46,ch 47 (di v.kids.length),ch 48 (di (0:Nat))]))) (((v.n !=0)=true->db false=db (AG (Typ.prod l) v))/\((v.n !=0)=false->(((length (map eV v.kids):Int) !=(length (map eT (Typ.ps (Typ.prod l))):Int))=true->db false=db (AG (Typ.prod l) v))/\(((length (map eV v.kids):Int) !=(length (map eT (Typ.ps (Typ.prod l))):Int))=false->di (length (map eV v.kids):Int)=di (v.kids.length:Int)/\di 0=di (↑0:Int)/\I0 fOne σ0.H.length (db (AG (Typ.prod l) v)) σ0 [kl cOne [1,0,1,0,1,1,1,1,1,0,1,0,1,0,0],KI.blk 1,kc cOne [1,0,1,0,1,1,1,1,1,0,1,1],KI.blk 0,kc cOne [1,1]] (mkE 110 [(2,D.v (V.ref (vT (Typ.prod l)))),(46,dVs v.kids),(47,di (v.kids.length:Int)),(48,di (↑0:Int))]) σ0))) ?_
 have hlen:=Val.length_le v.kids
 have hsz:=Val.size_eq v
 refine⟨fun h1=>?_,fun h1=>⟨fun h2=>?_,fun h2=>⟨by rw[length_map],rfl,⟨?_⟩⟩⟩⟩
 ·have h1:(v.n==0)=false:=by simpa using h1
  simp only[AG,h1,Bool.false_and]
 ·have h2:((v.kids.length:Int)==l.length)=false:=by simpa[Typ.ps] using h2
  simp only[AG,h2,Bool.false_and,Bool.and_false]
 ·have h1:(v.n==0)=true:=by simpa using h1
  have h2:(v.kids.length:Int)=l.length:=by simpa[Typ.ps] using h2
  have h3:((v.kids.length:Int)==l.length)=true:=by simpa using h2
  simp only[AG,h1,h3,Bool.true_and]
  exact prod_loop l v (by omega) (by omega) h _ 0 rfl
theorem one_spec(N:Nat):∀(t:Typ),SizeOf.sizeOf t<=N->∀v:Val,v.size<=1000000->Ab PP 101 [dT t,dV v] σ0 (db (AG t v)) σ0:=by
 induction N with
 |zero=>intro t ht;cases t<;>simp at ht<;>omega
 |succ N ih=>
  intro t ht v hv
  have hk:∀k∈v.kids,k.size<=1000000:=fun k hk=>by have:=Val.size_mem hk;have:=Val.size_eq v;omega
  cases t with
  |nat=>exact one_nat v
  |lab n=>exact one_lab n v
  |prio n r=>exact one_prio n r v
  |word t=>exact one_word t v fun k h=>ih t (by simp at ht;omega) k (hk k h)
  |bag t=>exact one_bag t v hv fun k h=>ih t (by simp at ht;omega) k (hk k h)
  |prod l=>exact one_prod l v hv fun t h k h'=>ih t (by have:=List.sizeOf_lt_of_mem h;simp at ht;omega) k (hk k h')
end Go.Proofs.YtcjhkglbdahfgaaGreat
