/-
  A part of the proof.
-/
import Derived.Test.YtcjhkglbdahfgaaGreatEd
import Derived.Shelf.SlSortCmp.WholeK
import Derived.Shelf.SlGeneric
import Derived.Ground.SlsfProg
import Derived.Test.YtcjhkglbdahfgaaGreatEb
namespace Go.Proofs.YtcjhkglbdahfgaaGreat
open Go.Dv Go.Nv
set_option maxRecDepth 20000
open List (all_eq_true append_assoc append_nil cons_append drop_eq_getElem_cons drop_of_length_le drop_zero ext_getElem? flatMap_cons flatten flatten_cons foldl_cons getD_eq_getElem?_getD getElem?_append_left getElem?_append_right getElem?_drop getElem?_eq_getElem getElem?_eq_none getElem?_map getElem?_set getElem?_take getElem?_toArray length length_append length_cons length_drop length_map length_nil length_pos_iff length_set length_take map map_append map_cons map_map map_nil mem_append mem_cons mem_map mem_of_getElem? mem_of_mem_drop mem_of_mem_take mem_or_eq_of_mem_set mem_singleton nil_append not_mem_nil replicate replicate_succ set_cons_succ set_cons_zero size_toArray take take_add_one take_append_drop take_left take_of_length_le take_succ_cons zipWith)
open Go.IntKind (wrap i64 u64)
def stV(c:Val):Int:=(c.kids.headD (.mk 0 [])).n
def nmV(c:Val):List Int:=c.kids.tail.map Val.n
theorem map_lf(ys:List Int):(ys.map lf).map Val.n=ys:=by
 induction ys with
 |nil=>rfl
 |cons y ys ih=>simp only[map_cons,ih,lf,Val.n]
theorem stV_cfg(s:Int)(ys:List Int):stV (Cf s ys)=s:=rfl
theorem nmV_cfg(s:Int)(ys:List Int):nmV (Cf s ys)=ys:=by
 show(map lf ys).map Val.n=ys
 exact map_lf ys
structure AC(m:Mod)(c:Val):Prop where
 eq:c=Cf (stV c) (nmV c)
 st:0<=stV c/\stV c<m.states.length
 len:(nmV c).length=m.places.length
 nm:∀y∈nmV c,0<=y/\y<=1048576
theorem cfgOK(m:Mod)(s:Int)(hs:0<=s/\s<m.states.length)(ys:List Int)(hy:ys.length=m.places.length)(h:∀y∈ys,0<=y/\y<=1048576):AC m (Cf s ys):=
 ⟨by rw[stV_cfg,nmV_cfg],by rw[stV_cfg];exact hs,by rw[nmV_cfg];exact hy,by rw[nmV_cfg];exact h⟩
structure PlC(m:Mod):Prop where
 ok:m.ok
 kind:m.kind=1
 move:∀r∈m.rules,r.move=[]
 start:AC m m.start
 few:m.states.length<=2/\m.places.length<=2
structure RulOK(m:Mod)(r:Rul):Prop where
 frm:0<=r.frm/\r.frm<m.states.length
 to:0<=r.to/\r.to<m.states.length
 needL:r.need.length=m.places.length
 giveL:r.give.length=m.places.length
 need:∀x∈r.need,0<=x/\x<=16
 give:∀x∈r.give,0<=x/\x<=16
 move:r.move=[]
theorem PlC.rule{m:Mod}(h:PlC m){r:Rul}(hr:r∈m.rules):RulOK m r:=by
 have h1:=h.ok.right r hr
 rw[G8,if_pos h.kind] at h1
 simp only[Ej,BR,Bool.and_eq_true,all_eq_true,beq_iff_eq] at h1
 obtain⟨h2,h3,⟨h4,h5,h6,h7⟩,_⟩:=h1
 have h2:=CE h2
 have h3:=CE h3
 exact⟨⟨h3.1,by omega⟩,⟨h2.1,by omega⟩,by omega,by omega,fun x hx=>CE (h6 x hx),fun x hx=>CE (h7 x hx),h.move r hr⟩
theorem PlC.places{m:Mod}(h:PlC m):1<=m.places.length/\m.places.length<=6/\1<=m.states.length/\m.states.length<=8/\m.rules.length<=12:=by
 obtain⟨h1,h2,h3,h4,h5,_⟩:=h.ok.sz
 omega
theorem AC.isC{m:Mod}{c:Val}(h:AC m c):IsC c (stV c) (nmV c):=by
 have:=_root_.Go.Proofs.YtcjhkglbdahfgaaGreat.isC (stV c) (nmV c)
 rwa[←h.eq] at this
theorem AC.size{m:Mod}(hm:PlC m){c:Val}(h:AC m c):c.size<=8:=by
 rw[h.eq,FK,h.len]
 have:=hm.places;omega
theorem AC.valid{m:Mod}(hm:PlC m){c:Val}(h:AC m c):Au (CM m) c=true:=by
 rw[h.eq]
 exact Ht m hm.kind (by have:=hm.places;omega) _ h.st _ h.len h.nm
theorem MadeC.plc{m:Mod}(h:MadeC m):PlC m:=by
 have hst:1<=m.states.length:=by rcases h.states with e|e<;>rw[e]<;>decide
 refine⟨h.ok,h.kind,fun r hr=>?_,?_,by rcases h.states with e|e<;>rw[e]<;>decide,by rcases h.places with e|e<;>rw[e]<;>decide⟩
 ·obtain⟨i,hi⟩:=List.getElem?_of_mem hr
  rw[(h.rules i r hi).rest];rfl
 ·obtain⟨ys,y1,y2,y3⟩:=h.start
  rw[y3]
  exact cfgOK m 0 ⟨by omega,by omega⟩ ys y1 fun x hx=>by have:=y2 x hx;omega
def apS(m:Mod)(c:Val)(i:Int):List Val×Int:=if i<0 then([],0) else match m.rules[i.toNat]? with
 |some r=>Ce (apM r (stV c) (nmV c))
 |none=>([],0)
def Dk(m:Mod)(c:Val):List Stp×Int:=EN (apS m c) (m.rules.length+1) (-1) []
def Ca(r:Rul)(ys:List Int):List Int:=zipWith (fun w g=>w+g) (subM r ys) r.give
theorem outP_or:∀(ws gs:List Int) (xs:List Val),((outP xs ws gs).2=0/\(outP xs ws gs).1=.mk 0 (xs++(zipWith (fun w g=>w+g) ws gs).map lf)/\∀y∈zipWith (fun w g=>w+g) ws gs,y<=1048576)∨outP xs ws gs=(.mk 0 [],1)
 |[],gs,xs=>.inl ⟨by simp[outP],by simp[outP],by simp⟩
 |w::ws,[],xs=>.inl ⟨by simp[outP],by simp[outP],by simp⟩
 |w::ws,g::gs,xs=>by
  by_cases h:w+g>1048576
  ·exact .inr (by rw[outP,if_pos (decide_eq_true h)])
  ·rw[outP,if_neg (by rw[decide_eq_false h];decide)]
   rcases outP_or ws gs (xs++[lf (w+g)]) with⟨h1,h2,h3⟩|h1
   ·refine .inl ⟨h1,by rw[h2];simp,fun y hy=>?_⟩
    simp only[List.zipWith_cons_cons,mem_cons] at hy
    rcases hy with rfl|hy
    ·omega
    ·exact h3 y hy
   ·exact .inr h1
theorem needB_at:∀{ns ys:List Int},FD ns ys=true->∀(i:Nat) (n y:Int),ns[i]?=some n->ys[i]?=some y->n<=y
 |[],ys,_,i,n,y,h,_=>by simp at h
 |n::ns,[],_,i,n',y,_,h=>by simp at h
 |n::ns,y::ys,h,i,n',y',h1,h2=>by
  simp only[FD,Bool.and_eq_true,Bool.not_eq_true',decide_eq_false_iff_not] at h
  cases i with
  |zero=>simp at h1 h2;subst h1;subst h2;omega
  |succ i=>exact needB_at h.2 i n' y' (by simpa using h1) (by simpa using h2)
theorem afterM_len{m:Mod}{r:Rul}(hr:RulOK m r){ys:List Int}(hy:ys.length=m.places.length):(Ca r ys).length=m.places.length:=by
 have h1:=hr.needL;have h2:=hr.giveL
 simp only[Ca,subM,List.length_zipWith];omega
theorem afterM_at{r:Rul}{ys:List Int}{i:Nat}{z:Int}(h:(Ca r ys)[i]?=some z):∃y n g,ys[i]?=some y/\r.need[i]?=some n/\r.give[i]?=some g/\z=y-n+g:=by
 simp only[Ca,subM,List.getElem?_zipWith] at h
 split at h
 ·rename_i w g h1 h2
  split at h1
  ·rename_i y n h3 h4
   simp at h h1
   exact⟨y,n,g,h3,h4,h2,by omega⟩
  ·simp at h1
 ·simp at h
theorem apM_or{m:Mod}{r:Rul}(hr:RulOK m r){c:Val}(hc:AC m c):
  ((apM r (stV c) (nmV c)).2=0/\stV c=r.frm/\(apM r (stV c) (nmV c)).1=Cf r.to (Ca r (nmV c))/\AC m (Cf r.to (Ca r (nmV c))))∨(apM r (stV c) (nmV c)).2=1∨(apM r (stV c) (nmV c)).2=18:=by
 unfold apM
 split
 ·rename_i he
  simp only[enB,Bool.and_eq_true,beq_iff_eq] at he
  rcases outP_or (subM r (nmV c)) r.give [lf r.to] with⟨h1,h2,h3⟩|h1
  ·refine .inl ⟨h1,he.1,by rw[h2];rfl,cfgOK m _ hr.to _ (afterM_len hr hc.len) fun z hz=>⟨?_,h3 z hz⟩⟩
   obtain⟨i,hi⟩:=List.getElem?_of_mem hz
   obtain⟨y,n,g,a1,a2,a3,rfl⟩:=afterM_at hi
   have b1:=needB_at he.2 i n y a2 a1
   have b2:=(hr.give g (mem_of_getElem? a3)).1
   omega
  ·exact .inr (.inl (by rw[h1]))
 ·exact .inr (.inr rfl)
structure StepOK(m:Mod)(c:Val)(s:Stp):Prop where
 rule:∃(i:Nat) (r:Rul),s.1=i/\m.rules[i]?=some r/\stV c=r.frm/\s.2=Cf r.to (Ca r (nmV c))/\apM r (stV c) (nmV c)=(s.2,0)
 ok:AC m s.2
theorem apS_or{m:Mod}(hm:PlC m){c:Val}(hc:AC m c)(i:Int):((apS m c i).2=0∨(apS m c i).2=1)/\(apS m c i).1.length<=1/\∀v∈ (apS m c i).1,StepOK m c (i,v):=by
 unfold apS
 split
 ·exact⟨.inl rfl,by simp,by simp⟩
 ·rename_i h0
  split
  ·rename_i r hi
   have hr:=hm.rule (mem_of_getElem? hi)
   rcases apM_or hr hc with⟨h1,h2,h3,h4⟩|h1|h1
   ·have:Ce (apM r (stV c) (nmV c))=([Cf r.to (Ca r (nmV c))],0):=by
     rw[Ce,if_neg (by rw[h1];decide),if_neg (by rw[h1];decide),h3]
    rw[this]
    refine⟨.inl rfl,by simp,fun v hv=>?_⟩
    rw[mem_singleton.1 hv]
    exact⟨⟨i.toNat,r,by show i=_;omega,hi,h2,rfl,by rw[←h3, ←h1]⟩,h4⟩
   ·have:Ce (apM r (stV c) (nmV c))=([],1):=by rw[Ce,if_neg (by rw[h1];decide),if_pos (by rw[h1];decide),h1]
    rw[this];exact⟨.inr rfl,by simp,by simp⟩
   ·have:Ce (apM r (stV c) (nmV c))=([],0):=by rw[Ce,if_pos (by rw[h1];decide)]
    rw[this];exact⟨.inl rfl,by simp,by simp⟩
  ·exact⟨.inl rfl,by simp,by simp⟩
theorem allP_or{ap:Int->List Val×Int}(he:∀i,(ap i).2=0∨(ap i).2=1)(hl:∀i,(ap i).1.length<=1){Q:Stp->Prop}(hq:∀i,∀v∈ (ap i).1,Q (i,v)):∀(n:Nat) (i:Int) (acc:List Stp),(∀s∈acc,Q s)->
  ((EN ap n i acc).2=0∨(EN ap n i acc).2=1)/\(EN ap n i acc).1.length<=acc.length+n/\∀s∈ (EN ap n i acc).1,Q s
 |0,i,acc,ha=>by
  rw[EN]
  split
  ·exact⟨.inr rfl,by simp,by simp⟩
  ·exact⟨.inl rfl,by simp,ha⟩
 |n+1,i,acc,ha=>by
  rw[EN]
  split
  ·exact⟨he i,by simp,by simp⟩
  ·obtain⟨h1,h2,h3⟩:=allP_or he hl hq n (i+1) (acc++(ap i).1.map fun v=>(i,v)) (fun s hs=>by
    rcases mem_append.1 hs with hs|hs
    ·exact ha s hs
    ·obtain⟨v,hv,rfl⟩:=mem_map.1 hs
     exact hq i v hv)
   have:=hl i
   exact⟨h1,by simp only[length_append,length_map] at h2;omega,h3⟩
theorem F8{m:Mod}(hm:PlC m){c:Val}(hc:AC m c):((Dk m c).2=0∨(Dk m c).2=1)/\(Dk m c).1.length<=13/\∀s∈ (Dk m c).1,StepOK m c s:=by
 have:=hm.places
 obtain⟨h1,h2,h3⟩:=allP_or (ap:=apS m c) (fun i=>(apS_or hm hc i).1) (fun i=>(apS_or hm hc i).2.1) (Q:=StepOK m c) (fun i=>(apS_or hm hc i).2.2) (m.rules.length+1) (-1) [] (by simp)
 exact⟨h1,by simp only[length_nil] at h2;exact Nat.le_trans h2 (by omega),h3⟩
inductive RunM (m:Mod) (c:Val):List Stp->Val->Prop where
 |nil:RunM m c [] c
 |snoc {l:List Stp} {d:Val} {s:Stp}:RunM m c l d->(Dk m d).2=0->s∈ (Dk m d).1->RunM m c (l++[s]) s.2
theorem RunM.ok{m:Mod}(hm:PlC m){c d:Val}{l:List Stp}(hc:AC m c)(h:RunM m c l d):AC m d:=by
 induction h with
 |nil=>exact hc
 |snoc _ _ hs ih=>exact((F8 hm ih).2.2 _ hs).ok
end Go.Proofs.YtcjhkglbdahfgaaGreat

namespace Go.Proofs.YtcjhkglbdahfgaaGreat
open Go.Dv Go.Nv
open List (all_eq_true append_assoc append_nil cons_append drop_eq_getElem_cons drop_of_length_le drop_zero ext_getElem? flatMap_cons flatten flatten_cons foldl_cons getD_eq_getElem?_getD getElem?_append_left getElem?_append_right getElem?_drop getElem?_eq_getElem getElem?_eq_none getElem?_map getElem?_set getElem?_take getElem?_toArray length length_append length_cons length_drop length_map length_nil length_pos_iff length_set length_take map map_append map_cons map_map map_nil mem_append mem_cons mem_map mem_of_getElem? mem_of_mem_drop mem_of_mem_take mem_or_eq_of_mem_set mem_singleton nil_append not_mem_nil replicate replicate_succ set_cons_succ set_cons_zero size_toArray take take_add_one take_append_drop take_left take_of_length_le take_succ_cons zipWith)
open Go.IntKind (wrap i64 u64)
structure Lin{α:Type}(c:α->α->Int)(S:α->Prop):Prop where
 refl:∀x,S x->c x x=0
 eq:∀x y,S x->S y->c x y=0->x=y
 swap:∀x y,S x->S y->(c x y<0↔0<c y x)
 trans:∀x y z,S x->S y->S z->c x y<0->c y z<0->c x z<0
theorem cmpI_lin:Lin AH fun _=>True:=by
 constructor<;>simp only[AH]<;>intros<;>(repeat' split at*)<;>(repeat' split)<;>omega
theorem cmpL_lin{α:Type}{c:α->α->Int}{S:α->Prop}(h:Lin c S):Lin (AS c) fun l=>∀x∈l,S x:=by
 have rfl':∀l:List α,(∀x∈l,S x)->AS c l l=0:=by
  intro l
  induction l with
  |nil=>intro _;rfl
  |cons x l ih=>intro hs;rw[AS,if_pos (h.refl x (hs x (by simp)))];exact ih fun y hy=>hs y (by simp[hy])
 have eq':∀a b:List α,(∀x∈a,S x)->(∀x∈b,S x)->AS c a b=0->a=b:=by
  intro a
  induction a with
  |nil=>intro b _ _ e;cases b with
   |nil=>rfl
   |cons y b=>simp[AS] at e
  |cons x a ih=>intro b ha hb e;cases b with
   |nil=>simp[AS] at e
   |cons y b=>
    simp only[AS] at e
    split at e
    ·rename_i h0
     rw[h.eq x y (ha x (by simp)) (hb y (by simp)) h0,ih b (fun z hz=>ha z (by simp[hz])) (fun z hz=>hb z (by simp[hz])) e]
    ·exact absurd e (by assumption)
 have c0:∀x y,S x->S y->(c x y=0↔c y x=0):=fun x y hx hy=>by
  have h1:=h.swap x y hx hy
  have h2:=h.swap y x hy hx
  constructor<;>intro _<;>omega
 have sw:∀a b:List α,(∀x∈a,S x)->(∀x∈b,S x)->(AS c a b<0↔0<AS c b a):=by
  intro a
  induction a with
  |nil=>intro b _ _;cases b<;>simp[AS]
  |cons x a ih=>intro b ha hb;cases b with
   |nil=>simp[AS]
   |cons y b=>
    have hx:=ha x (by simp);have hy:=hb y (by simp)
    simp only[AS]
    by_cases h0:c x y=0
    ·rw[if_pos h0,if_pos ((c0 x y hx hy).1 h0)];exact ih b (fun z hz=>ha z (by simp[hz])) (fun z hz=>hb z (by simp[hz]))
    ·rw[if_neg h0,if_neg (fun e=>h0 ((c0 x y hx hy).2 e))];exact h.swap x y hx hy
 have tr:∀a b d:List α,(∀x∈a,S x)->(∀x∈b,S x)->(∀x∈d,S x)->AS c a b<0->AS c b d<0->AS c a d<0:=by
  intro a
  induction a with
  |nil=>intro b d _ _ _ h1 h2;cases b with
   |nil=>simp[AS] at h1
   |cons y b=>cases d with
    |nil=>simp[AS] at h2
    |cons z d=>simp[AS]
  |cons x a ih=>intro b d ha hb hd h1 h2;cases b with
   |nil=>simp[AS] at h1
   |cons y b=>cases d with
    |nil=>simp[AS] at h2
    |cons z d=>
     have hx:=ha x (by simp);have hy:=hb y (by simp);have hz:=hd z (by simp)
     have ha':∀w∈a,S w:=fun w hw=>ha w (by simp[hw])
     have hb':∀w∈b,S w:=fun w hw=>hb w (by simp[hw])
     have hd':∀w∈d,S w:=fun w hw=>hd w (by simp[hw])
     simp only[AS] at*
     by_cases e1:c x y=0
     ·have:=h.eq x y hx hy e1;subst this
      rw[if_pos e1] at h1
      by_cases e2:c x z=0
      ·rw[if_pos e2] at h2⊢
       exact ih b d ha' hb' hd' h1 h2
      ·rw[if_neg e2] at h2⊢;exact h2
     ·rw[if_neg e1] at h1
      by_cases e2:c y z=0
      ·have:=h.eq y z hy hz e2;subst this
       rw[if_neg e1];exact h1
      ·rw[if_neg e2] at h2
       have:=h.trans x y z hx hy hz h1 h2
       rw[if_neg (by omega)];exact this
 exact⟨rfl',eq',sw,tr⟩
theorem GP(a b:Val):Av a b=if AH a.n b.n=0 then(if AH a.kids.length b.kids.length=0 then AS Av a.kids b.kids else AH a.kids.length b.kids.length) else AH a.n b.n:=by
 rw[cmpV_or, ←or3]
theorem Val.ext:∀{a b:Val},a.n=b.n->a.kids=b.kids->a=b
 |.mk _ _,.mk _ _,rfl,rfl=>rfl
theorem cmpV_linN(N:Nat):Lin Av fun v=>v.size<=N:=by
 induction N with
 |zero=>exact⟨fun x h=>absurd x.size_pos (by omega),fun x _ h=>absurd x.size_pos (by omega),fun x _ h=>absurd x.size_pos (by omega),fun x _ _ h=>absurd x.size_pos (by omega)⟩
 |succ N ih=>
  have hL:=cmpL_lin ih
  have hk:∀v:Val,v.size<=N+1->∀x∈v.kids,x.size<=N:=fun v hv x hx=>by
   have:=v.size_eq;have:=Val.size_mem hx;omega
  have h1:=cmpI_lin
  have i0:∀x y:Int,AH x y=0↔AH y x=0:=fun x y=>by
   have a:=h1.swap x y trivial trivial
   have b:=h1.swap y x trivial trivial
   constructor<;>intro _<;>omega
  refine⟨fun x hx=>?_,fun x y hx hy e=>?_,fun x y hx hy=>?_,fun x y z hx hy hz e1 e2=>?_⟩
  ·rw[GP,if_pos (h1.refl _ trivial),if_pos (h1.refl _ trivial)];exact hL.refl _ (hk x hx)
  ·rw[GP] at e
   split at e
   ·rename_i a1
    split at e
    ·exact Val.ext (h1.eq _ _ trivial trivial a1) (hL.eq _ _ (hk x hx) (hk y hy) e)
    ·exact absurd e (by assumption)
   ·exact absurd e (by assumption)
  ·rw[GP,GP y x]
   by_cases a1:AH x.n y.n=0
   ·rw[if_pos a1,if_pos ((i0 _ _).1 a1)]
    by_cases a2:AH x.kids.length y.kids.length=0
    ·rw[if_pos a2,if_pos ((i0 _ _).1 a2)];exact hL.swap _ _ (hk x hx) (hk y hy)
    ·rw[if_neg a2,if_neg (fun e=>a2 ((i0 _ _).2 e))];exact h1.swap _ _ trivial trivial
   ·rw[if_neg a1,if_neg (fun e=>a1 ((i0 _ _).2 e))];exact h1.swap _ _ trivial trivial
  ·rw[GP] at e1 e2⊢
   by_cases a1:AH x.n y.n=0
   ·rw[if_pos a1] at e1
    have b1:=h1.eq _ _ trivial trivial a1
    rw[b1]
    by_cases c1:AH y.n z.n=0
    ·rw[if_pos c1] at e2⊢
     by_cases a2:AH x.kids.length y.kids.length=0
     ·rw[if_pos a2] at e1
      have b2:=h1.eq _ _ trivial trivial a2
      rw[b2]
      by_cases c2:AH y.kids.length z.kids.length=0
      ·rw[if_pos c2] at e2⊢;exact hL.trans _ _ _ (hk x hx) (hk y hy) (hk z hz) e1 e2
      ·rw[if_neg c2] at e2⊢;exact e2
     ·rw[if_neg a2] at e1
      by_cases c2:AH y.kids.length z.kids.length=0
      ·have b2:=h1.eq _ _ trivial trivial c2
       rw[←b2,if_neg a2];exact e1
      ·rw[if_neg c2] at e2
       have:=h1.trans _ _ _ trivial trivial trivial e1 e2
       rw[if_neg (by omega)];exact this
    ·rw[if_neg c1] at e2⊢;exact e2
   ·rw[if_neg a1] at e1
    by_cases c1:AH y.n z.n=0
    ·have b1:=h1.eq _ _ trivial trivial c1
     rw[←b1,if_neg a1];exact e1
    ·rw[if_neg c1] at e2
     have:=h1.trans _ _ _ trivial trivial trivial e1 e2
     rw[if_neg (by omega)];exact this
theorem B4:Lin Av fun _=>True:=by
 have h:∀x y z:Val,Lin Av fun v=>v.size<=x.size+y.size+z.size:=fun x y z=>cmpV_linN _
 exact⟨fun x _=>(h x x x).refl x (by omega),fun x y _ _ e=>(h x y y).eq x y (by omega) (by omega) e,fun x y _ _=>(h x y y).swap x y (by omega) (by omega),fun x y z _ _ _ e1 e2=>(h x y z).trans x y z (by omega) (by omega) (by omega) e1 e2⟩
theorem cmpV_eq{a b:Val}:Av a b=0↔a=b:=⟨fun h=>B4.eq a b trivial trivial h,fun h=>by rw[h];exact B4.refl b trivial⟩
end Go.Proofs.YtcjhkglbdahfgaaGreat

namespace Go.Proofs
open Go.Shelf
open List (all_eq_true append_assoc append_nil cons_append drop_eq_getElem_cons drop_of_length_le drop_zero ext_getElem? flatMap_cons flatten flatten_cons foldl_cons getD_eq_getElem?_getD getElem?_append_left getElem?_append_right getElem?_drop getElem?_eq_getElem getElem?_eq_none getElem?_map getElem?_set getElem?_take getElem?_toArray length length_append length_cons length_drop length_map length_nil length_pos_iff length_set length_take map map_append map_cons map_map map_nil mem_append mem_cons mem_map mem_of_getElem? mem_of_mem_drop mem_of_mem_take mem_or_eq_of_mem_set mem_singleton nil_append not_mem_nil replicate replicate_succ set_cons_succ set_cons_zero size_toArray take take_add_one take_append_drop take_left take_of_length_le take_succ_cons zipWith)
open Go.IntKind (wrap i64 u64)
def Tryz.sortV_ren:Go.Shelf.Ren:=⟨fun|6=>31|15=>50|14=>49|28=>75|29=>76|20=>67|21=>68|22=>69|23=>70|24=>71|25=>72|26=>73|27=>74|46=>112|47=>113|48=>114|49=>115|50=>116|57=>170|n=>n,fun|22=>29|24=>31|25=>81|3=>3|39=>98|0=>0|53=>128|55=>130|4=>4|46=>121|45=>120|50=>125|5=>5|9=>9|66=>155|70=>159|76=>207|77=>208|n=>n,fun|n=>n⟩
theorem Tryz.sortV:Go.Proofs.SlLaysF0.n6 Tryz.prog Tryz.sortV_ren:={
 mixed:=by kernel_rfl
 f6:=⟨Tryz.f31.name,by decide,Tryz.func31.trans (congrArg some (by kernel_rfl))⟩
 f14:=⟨Tryz.f49.name,by decide,Tryz.func49.trans (congrArg some (by kernel_rfl))⟩
 f15:=Tryz.func50.trans (congrArg some (by kernel_rfl))
 f20:=⟨Tryz.f67.name,by decide,Tryz.func67.trans (congrArg some (by kernel_rfl))⟩
 f21:=⟨Tryz.f68.name,by decide,Tryz.func68.trans (congrArg some (by kernel_rfl))⟩
 f22:=⟨Tryz.f69.name,by decide,Tryz.func69.trans (congrArg some (by kernel_rfl))⟩
 f23:=⟨Tryz.f70.name,by decide,Tryz.func70.trans (congrArg some (by kernel_rfl))⟩
 f24:=⟨Tryz.f71.name,by decide,Tryz.func71.trans (congrArg some (by kernel_rfl))⟩
 f25:=⟨Tryz.f72.name,by decide,Tryz.func72.trans (congrArg some (by kernel_rfl))⟩
 f26:=⟨Tryz.f73.name,by decide,Tryz.func73.trans (congrArg some (by kernel_rfl))⟩
 f27:=⟨Tryz.f74.name,by decide,Tryz.func74.trans (congrArg some (by kernel_rfl))⟩
 f28:=Tryz.func75.trans (congrArg some (by kernel_rfl))
 f29:=Tryz.func76.trans (congrArg some (by kernel_rfl))
 f46:=⟨Tryz.f112.name,by decide,Tryz.func112.trans (congrArg some (by kernel_rfl))⟩
 f47:=Tryz.func113.trans (congrArg some (by kernel_rfl))
 f48:=Tryz.func114.trans (congrArg some (by kernel_rfl))
 f49:=⟨Tryz.f115.name,by decide,Tryz.func115.trans (congrArg some (by kernel_rfl))⟩
 f50:=⟨Tryz.f116.name,by decide,Tryz.func116.trans (congrArg some (by kernel_rfl))⟩
 f57:=⟨Tryz.f170.name,by decide,Tryz.func170.trans (congrArg some (by kernel_rfl))⟩
 t0:=Tryz.underlying0
 a0:=Tryz.isAgg0
 z0:=Tryz.sizeOf0
 v0:=Tryz.zeroValue0
 t3:=Tryz.underlying3
 a3:=Tryz.isAgg3
 z3:=Tryz.sizeOf3
 v3:=Tryz.zeroValue3
 t4:=Tryz.underlying4
 a4:=Tryz.isAgg4
 z4:=Tryz.sizeOf4
 v4:=Tryz.zeroValue4
 t5:=Tryz.underlying5
 a5:=Tryz.isAgg5
 z5:=Tryz.sizeOf5
 v5:=Tryz.zeroValue5
 t9:=Tryz.underlying9
 a9:=Tryz.isAgg9
 z9:=Tryz.sizeOf9
 v9:=Tryz.zeroValue9
 t22:=Tryz.underlying29
 a22:=Tryz.isAgg29
 z22:=Tryz.sizeOf29
 v22:=Tryz.zeroValue29
 t25:=Tryz.underlying81
 a25:=Tryz.isAgg81
 z25:=Tryz.sizeOf81
 v25:=Tryz.zeroValue81
 t39:=Tryz.underlying98
 a39:=Tryz.isAgg98
 z39:=Tryz.sizeOf98
 v39:=Tryz.zeroValue98
 t45:=Tryz.underlying120
 a45:=Tryz.isAgg120
 z45:=Tryz.sizeOf120
 v45:=Tryz.zeroValue120
 t46:=Tryz.underlying121
 a46:=Tryz.isAgg121
 z46:=Tryz.sizeOf121
 v46:=Tryz.zeroValue121
 t50:=Tryz.underlying125
 a50:=Tryz.isAgg125
 z50:=Tryz.sizeOf125
 v50:=Tryz.zeroValue125
 t53:=Tryz.underlying128
 a53:=Tryz.isAgg128
 z53:=Tryz.sizeOf128
 v53:=Tryz.zeroValue128
 t55:=Tryz.underlying130
 a55:=Tryz.isAgg130
 z55:=Tryz.sizeOf130
 v55:=Tryz.zeroValue130
 t66:=Tryz.underlying155
 a66:=Tryz.isAgg155
 z66:=Tryz.sizeOf155
 v66:=Tryz.zeroValue155
 t70:=Tryz.underlying159
 a70:=Tryz.isAgg159
 z70:=Tryz.sizeOf159
 v70:=Tryz.zeroValue159
 t76:=Tryz.underlying207
 a76:=Tryz.isAgg207
 z76:=Tryz.sizeOf207
 v76:=Tryz.zeroValue207
 t77:=Tryz.underlying208
 a77:=Tryz.isAgg208
 z77:=Tryz.sizeOf208
 v77:=Tryz.zeroValue208 }
end Go.Proofs
namespace Go.Proofs.YtcjhkglbdahfgaaGreat
open Go.Dv Go.Nv Go.Shelf Go.RowKit Go.Lib Go.Sort
set_option maxRecDepth 20000
open List (all_eq_true append_assoc append_nil cons_append drop_eq_getElem_cons drop_of_length_le drop_zero ext_getElem? flatMap_cons flatten flatten_cons foldl_cons getD_eq_getElem?_getD getElem?_append_left getElem?_append_right getElem?_drop getElem?_eq_getElem getElem?_eq_none getElem?_map getElem?_set getElem?_take getElem?_toArray length length_append length_cons length_drop length_map length_nil length_pos_iff length_set length_take map map_append map_cons map_map map_nil mem_append mem_cons mem_map mem_of_getElem? mem_of_mem_drop mem_of_mem_take mem_or_eq_of_mem_set mem_singleton nil_append not_mem_nil replicate replicate_succ set_cons_succ set_cons_zero size_toArray take take_add_one take_append_drop take_left take_of_length_le take_succ_cons zipWith)
open Go.IntKind (wrap i64 u64)
theorem grow_of{g g':Gh}{w w':World}{σ':St}(h:WI ⟨g,w,⟨[],[]⟩⟩ g' σ' w'):∃q os,w'=grow (w.drewN q) os:=by
 refine⟨w'.drawn-w.drawn,w'.heap.extract w.heap.size w'.heap.size,?_⟩
 have h1:=h.drawn trivial;have h2:=h.os;have h3:=h.tape;have h4:=h.output;have h5:=h.size
 have h6:∀b,b<w.heap.size->w'.heap[b]?=w.heap[b]?:=fun b hb=>(h.keep b hb FC).1
 have e:w'.heap=w.heap++w'.heap.extract w.heap.size w'.heap.size:=by
  apply Array.ext_getElem?
  intro i
  by_cases hi:i<w.heap.size
  ·rw[h6 i hi,Array.getElem?_append_left hi]
  ·rw[Array.getElem?_append_right (by omega),Array.getElem?_extract]
   have h5:w.heap.size<=w'.heap.size:=h5
   by_cases hj:i<w'.heap.size
   ·rw[if_pos (by omega)];congr 1;omega
   ·rw[if_neg (by omega),Array.getElem?_eq_none (by omega)]
 cases w'
 simp only[grow,World.drewN] at*
 subst h2;subst h3;subst h4
 congr 1
 have h1:w.drawn<=_:=h1
 omega
abbrev Cel(M:Mem):={p:Val×List Value//p.1.size<=1000000/\repC M (eV p.1) p.2}
instance (M:Mem):Inhabited (Cel M):=⟨⟨(.mk 0 [],[.int .i64 0,.slice none 0 0]),by decide,by simp[Val.enc,Val.encs,repC,repA,V.isAgg];exact⟨_,_,⟨rfl,rfl⟩,rfl,_,rfl,_,_,rfl⟩⟩⟩
def C8{M:Mem}(x:Cel M):List Value:=x.1.2
def cfC{M:Mem}(x y:Cel M):Int:=Av x.1.1 y.1.1
theorem eV_size(v:Val):(eV v).size=2:=by rw[AN];rfl
theorem encC_len{M:Mem}(x:Cel M):(C8 x).length=2:=by
 have:=EX x.2.2
 rw[eV_size] at this;exact this
theorem swoC{M:Mem}:SWO (ltOf (cfC (M:=M))) where
 irrefl x:=by simp only[ltOf,cfC,B4.refl _ trivial];decide
 trans x y z h1 h2:=by
  exact decide_eq_true (B4.trans _ _ _ trivial trivial trivial (of_decide_eq_true h1) (of_decide_eq_true h2))
 ntrans x y z h1 h2:=by
  have h1:¬Av x.1.1 y.1.1<0:=of_decide_eq_false h1
  have h2:¬Av y.1.1 z.1.1<0:=of_decide_eq_false h2
  refine decide_eq_false fun h3=>?_
  have h3:Av x.1.1 z.1.1<0:=h3
  by_cases e:Av x.1.1 y.1.1=0
  ·have:=cmpV_eq.1 e;rw[this] at h3;exact h2 h3
  ·have h4:Av y.1.1 x.1.1<0:=(B4.swap _ _ trivial trivial).2 (by omega)
   exact h2 (B4.trans _ _ _ trivial trivial trivial h4 h3)
theorem cells_of{g:Gh}{l:List Val}(hl:∀v∈l,v.size<=1000000){us:List Value}(h:Ac g (Aa (l.map eV)) us)(h1:∀c∈Aa (l.map eV),c.one=true):∃ps:List (Cel g.M),ps.map (fun p=>p.1.1)=l/\ps.flatMap C8=us:=by
 have hA:repA g.M ((l.map eV).flatMap V.cellsV) us:=by
  have hlen:=Ay h
  refine repA_of (by rw[hlen,Aa,length_map]) fun j y hj=>?_
  obtain⟨v,h2,h3⟩:=B0 h (i:=j) (d:=.v y) (by rw[Aa,getElem?_map,hj];rfl)
  refine⟨?_,v,h2,by simpa only[Ae] using h3⟩
  have:=h1 (.v y) (mem_map.2 ⟨y,mem_of_getElem? hj,rfl⟩)
  simpa[D.one] using this
 have hE:=En (sz:=2) (xs:=l.map eV) (fun y hy=>by obtain⟨v,_,rfl⟩:=mem_map.1 hy;exact eV_size v) hA
 clear h h1 hA
 induction l generalizing us with
 |nil=>
  simp only[map_nil,repE] at hE
  exact⟨[],rfl,by simp[hE]⟩
 |cons v l ih=>
  simp only[map_cons,repE] at hE
  obtain⟨u1,u2,rfl,_,h3,h4⟩:=hE
  obtain⟨ps,h5,h6⟩:=ih (fun v hv=>hl v (by simp[hv])) h4
  exact⟨⟨(v,u1),hl v (by simp),h3⟩::ps,by simp[h5],by simp[h6,C8]⟩
theorem cells_rep{g:Gh}(ps:List (Cel g.M)):Ac g (Aa ((ps.map fun p=>p.1.1).map eV)) (ps.flatMap C8)/\∀c∈Aa ((ps.map fun p=>p.1.1).map eV),c.one=true:=by
 refine D5 (sz:=2) ?_
 induction ps with
 |nil=>simp[repE]
 |cons p ps ih=>
  simp only[map_cons,flatMap_cons,repE]
  exact⟨_,_,rfl,encC_len p,p.2.2,ih⟩
theorem flat_get{M:Mem}:∀(ps:List (Cel M)) (t:Nat),t<ps.length*2->(ps.flatMap C8)[t]?=some ((C8 (ps.getD (t/2) default))[t%2]!)
 |[],t,h=>by simp at h
 |p::ps,t,h=>by
  have h2:=encC_len p
  rw[flatMap_cons]
  by_cases ht:t<2
  ·rw[getElem?_append_left (by omega),show t/2=0 by omega,show t%2=t by omega,List.getD_cons_zero]
   simp[h2,ht]
  ·rw[getElem?_append_right (by omega),h2,flat_get ps (t-2) (by simp at h;omega)]
   have e1:t/2=(t-2)/2+1:=by omega
   have e2:(t-2)%2=t%2:=by omega
   rw[e1,e2,List.getD_cons_succ]
theorem flatK_list{M:Mem}(d:Array (Cel M)):(flatK C8 2 d).toList=d.toList.flatMap C8:=by
 apply ext_getElem?
 intro t
 have hlen:∀l:List (Cel M),(l.flatMap C8).length=l.length*2:=by
  intro l
  induction l with
  |nil=>rfl
  |cons p l ih=>rw[flatMap_cons,length_append,ih,encC_len,length_cons];omega
 by_cases ht:t<d.size*2
 ·rw[flat_get _ t (by simpa using ht),Array.getElem?_toList]
  have h1:=get_flatK C8 2 d t ht
  have hs:t<(flatK C8 2 d).size:=by rw[size_flatK];exact ht
  rw[getElem!_pos (flatK C8 2 d) t hs] at h1
  rw[Array.getElem?_eq_getElem hs,h1]
  congr 3
  simp[Array.getElem!_eq_getD,Array.getD_eq_getD_getElem?,getD_eq_getElem?_getD]
 ·rw[getElem?_eq_none (by rw[Array.length_toList,size_flatK];omega),getElem?_eq_none (by rw[hlen];simp;omega)]
def sortV(l:List Val):List Val:=l.mergeSort fun a b=>decide (Av a b<=0)
theorem AL(l:List Val):(sortV l).Perm l:=List.mergeSort_perm l _
theorem leV_iff(a b:Val):Av a b<=0↔¬Av b a<0:=by
 have:=B4.swap b a trivial trivial
 omega
theorem leV_trans{a b c:Val}(h1:Av a b<=0)(h2:Av b c<=0):Av a c<=0:=by
 by_cases e1:Av a b=0
 ·rw[cmpV_eq.1 e1];exact h2
 ·by_cases e2:Av b c=0
  ·rw[←cmpV_eq.1 e2];exact h1
  ·have:=B4.trans a b c trivial trivial trivial (by omega) (by omega)
   omega
theorem leV_total(a b:Val):Av a b<=0∨Av b a<=0:=by
 have:=B4.swap b a trivial trivial
 omega
theorem sortV_sorted(l:List Val):(sortV l).Pairwise fun a b=>decide (Av a b<=0)=true:=
 List.pairwise_mergeSort (le:=fun a b=>decide (Av a b<=0)) (fun a b c h1 h2=>decide_eq_true (leV_trans (of_decide_eq_true h1) (of_decide_eq_true h2))) (fun a b=>by
  simp only[Bool.or_eq_true,decide_eq_true_eq];exact leV_total a b) l
theorem sortV_eq{l k:List Val}(hp:k.Perm l)(hs:k.Pairwise fun a b=>decide (Av a b<=0)=true):k=sortV l:=by
 refine List.Perm.eq_of_pairwise (fun a b _ _ h1 h2=>?_) hs (sortV_sorted l) (hp.trans (AL l).symm)
 have h1:Av a b<=0:=of_decide_eq_true h1
 have h2:Av b a<=0:=of_decide_eq_true h2
 have:=B4.swap b a trivial trivial
 have:=B4.swap a b trivial trivial
 exact cmpV_eq.1 (by omega)
theorem cmp_lays{g:Gh}{w:World}{σ:St}(hw:WRep g σ w){blk:Nat}(hM:∀o,g.M blk o=none)(n:Nat):CmpLays PP 32 #[] (C8 (M:=g.M)) 2 cfC blk 0 n w:=by
 intro m os dk _ x y
 obtain⟨W,hW⟩:∃W,W=sortWorldK C8 2 w blk 0 m dk os:=⟨_,rfl⟩
 rw[←hW]
 have hmem:∀b o v,g.M b o=some v->W.cell? ⟨b,o,none⟩=some v:=by
  intro b o v h
  have hne:b≠blk:=fun e=>by rw[e,hM] at h;simp at h
  have hc:=hw.mem b o v h
  have hlt:b<w.heap.size:=hw.mem_lt h
  rw[hW,sortWorldK,cell?_grow _ _ _ (by rw[size_putRowK];exact hlt),cell?_putRowK_other _ _ _ _ _ _ _ hne]
  exact hc
 have hrep:WRep { M:=g.M,β:=g.β,n:=0,ι:=fun _ _=>none,κ:=g.κ } ⟨[],[]⟩ W:=
  { n:=rfl,mem:=hmem,obj:=fun i cs hi=>by simp at hi,inj:=fun i j cs ds hi=>by simp at hi,own:=fun k sz xs hx=>by simp at hx,tags:=by simp,sep:=fun x hx=>by simp at hx,ownObj:=fun x hx=>by simp at hx,fresh:=fun _ _ _=>rfl,gl:=hw.gl,gw:=fun p hp=>by simp[FM] at hp }
 have arg:∀z:Cel g.M,Ae { M:=g.M,β:=g.β,n:=0,ι:=fun _ _=>none,κ:=g.κ } (dV z.1.1) (.agg (C8 z).toArray):=by
  intro z
  simp only[Ae]
  exact⟨C8 z,by rw[←AN];exact z.2.2,rfl⟩
 have hs:=(Hr _ x.1.1 y.1.1 (Nat.le_refl _) x.2.1).2 _ W [.agg (C8 x).toArray,.agg (C8 y).toArray] hrep (Ap.2 ⟨_,_,rfl,arg x,arg y⟩)
 refine Calls.mono hs ?_
 rintro e w' ⟨u,g',rfl,hwi,hd⟩
 simp only[Ae,A1] at hd
 exact⟨by rw[hd];rfl,grow_of hwi⟩
theorem EB(l:List Val)(hl:l.length<=100000)(hs:∀v∈l,v.size<=1000000):
  Ab PP 31 [.arr 0 0 l.length,dfn 32] ⟨[some (Aa (l.map eV))],[]⟩ (.tup []) ⟨[some (Aa ((sortV l).map eV))],[]⟩:=by
 refine⟨⟨_, Tryz.func31,by kernel_rfl,by kernel_rfl⟩,fun g w args hw hargs=>?_⟩
 obtain⟨u0,u1,rfl,h0,h1⟩:=Ap.1 hargs
 simp only[Ae] at h0 h1
 obtain⟨hn,cap,hcap,rfl⟩:=h0
 obtain⟨us1,vs1,rfl,hu1,hv1⟩:=FV.1 h1
 simp only[EC] at hu1 hv1
 subst hu1;subst hv1
 obtain⟨us,rest,et,hb,hr,hone,hM,hκ⟩:=hw.obj 0 _ rfl
 obtain⟨ps,hp1,hp2⟩:=cells_of hs hr hone
 have hpl:ps.length=l.length:=by rw[←hp1,length_map]
 have hul:us.length=l.length*2:=by
  have:=congrArg Array.size (show flatK C8 2 ps.toArray=us.toArray by rw[←hp2];apply Array.ext';rw[flatK_list])
  rw[size_flatK] at this;simp at this;omega
 have hF:(flatK C8 2 ps.toArray).toList=us:=by rw[flatK_list, ←hp2]
 have hH:HoldsK C8 2 w (g.β 0) 0 ps.toArray:=by
  intro j hj
  have hj':j<us.length:=by rw[size_flatK] at hj;simp at hj;omega
  refine⟨?_,by simp[World.frozen?,hb]⟩
  have hg:(us++rest)[j]?=some us[j]:=by rw[getElem?_append_left hj',getElem?_eq_getElem hj']
  have hg2:(flatK C8 2 ps.toArray)[j]! =us[j]:=by
   rw[getElem!_pos (flatK C8 2 ps.toArray) j hj]
   have:(flatK C8 2 ps.toArray).toList[j]?=some us[j]:=by rw[hF,getElem?_eq_getElem hj']
   rw[Array.getElem?_toList,Array.getElem?_eq_getElem hj] at this
   exact Option.some.inj this
  simp only[World.cell?,hb,Nat.zero_add,hg2,id]
  simpa using hg
 have hblk:g.β 0<w.heap.size:=Fq hb
 have eg:∀args w,(callFunc 32 args).run PP w=.ok (.enter 32 args) w:=enters_of Tryz.func32 (by kernel_rfl) rfl
 have hcon:=AnyQ.slices_SortFunc Tryz.sortV 2 Tryz.isAgg31 Tryz.sizeOf31 (C8 (M:=g.M)) encC_len (fun x v hv=>repC_oneCell x.2.2 v hv) cfC swoC 32 #[] (g.β 0) 0 cap ps.toArray w eg (cmp_lays hw hM _) hH hblk (by simp;omega)
 change Calls PP 31 _ _ _ at hcon
 rw[show ps.toArray.size=l.length by simp[hpl]] at hcon
 refine Calls.mono hcon ?_
 rintro e w' ⟨rfl,d',n,os,hperm,hsorted,rfl⟩
 obtain⟨hsz,_,hperm⟩:=hperm
 have hdl:d'.toList.map (fun p=>p.1.1)=sortV l:=by
  refine sortV_eq ?_ ?_
  ·rw[←hp1]
   have h2:d'.toList.Perm ps:=by simpa[Array.extract_eq_self_of_le,hsz,hpl] using hperm
   exact h2.map _
  ·rw[List.pairwise_iff_getElem]
   intro i j hi hj hij
   have hi':i<d'.size:=by simpa using hi
   have hj':j<d'.size:=by simpa using hj
   have h3:=hsorted i j (Nat.zero_le _) hij (by simp only[size_toArray] at hsz;omega)
   simp only[ltOf,cfC,decide_eq_false_iff_not,getElem!_pos d' i hi',getElem!_pos d' j hj'] at h3
   simp only[List.getElem_map,Array.getElem_toList,decide_eq_true_eq]
   exact(leV_iff _ _).2 h3
 have hd2:d'.size=l.length:=by rw[hsz];simp[hpl]
 have hF2:(flatK C8 2 d').toList=d'.toList.flatMap C8:=flatK_list d'
 have hFl:(d'.toList.flatMap C8).length=us.length:=by rw[←hF2,Array.length_toList,size_flatK,hd2];omega
 have hcs:=cells_rep d'.toList
 rw[hdl] at hcs
 have hb2:(putRowK C8 2 (Sort.ahead w n) (g.β 0) 0 d').heap[g.β 0]?=some (.cells ((d'.toList.flatMap C8)++rest).toArray et (0,0)):=by
  simp only[putRowK,putRow,mapBlock,Sort.ahead,Array.getElem?_modify,hb,onCells,if_true,Option.map_some]
  congr 2
  apply Array.ext_getElem?
  intro t
  simp only[putCells,Array.getElem?_mapIdx,Nat.sub_zero,Nat.zero_le,true_and,Nat.zero_add,id,getElem?_toArray,size_toArray]
  by_cases ht:t<us.length
  ·have htF:t<(flatK C8 2 d').size:=by rw[size_flatK,hd2];omega
   rw[getElem?_append_left ht,getElem?_append_left (by omega),getElem?_eq_getElem ht,Option.map_some,if_pos htF, ←hF2,Array.getElem?_toList,getElem!_pos (flatK C8 2 d') t htF,Array.getElem?_eq_getElem htF]
  ·have htF:¬t<(flatK C8 2 d').size:=by rw[size_flatK,hd2];omega
   rw[getElem?_append_right (by omega),getElem?_append_right (by omega),hFl]
   simp only[if_neg htF,Option.map_id']
 have h2:=(WI.start hw).setObj (cs':=Aa ((sortV l).map eV)) (q:=0) (w':=putRowK C8 2 (Sort.ahead w n) (g.β 0) 0 d') rfl hb2 (by rw[←hκ,length_append,length_append,hFl]) hcs.1 hcs.2 (fun b hb'=>by
  simp only[putRowK,putRow,mapBlock,Sort.ahead,Array.getElem?_modify]
  rw[if_neg (fun h=>hb' h.symm)]) (by rw[size_putRowK];rfl) rfl rfl rfl (drawn:=.of (Nat.le_add_right _ _))
 have h3:=h2.grow (w':=sortWorldK C8 2 w (g.β 0) 0 n d' os) (M':=g.M) (Mem.le_refl _) (fun b hb'=>⟨heap_grow_old _ _ hb',fun _=>rfl⟩) (fun b o v h=>by
  rw[sortWorldK,cell?_grow _ _ _ (h2.rep.mem_lt h)];exact h2.rep.mem b o v h) (by rw[sortWorldK,size_grow];exact Nat.le_add_right _ _) rfl rfl rfl
 exact⟨_,g,rfl,h3,by simp only[Ae];exact⟨[],rfl,by simp[Ac]⟩⟩
end Go.Proofs.YtcjhkglbdahfgaaGreat

namespace Go.Proofs.YtcjhkglbdahfgaaGreat
open Go.Dv Go.Nv
set_option maxRecDepth 20000
open List (all_eq_true append_assoc append_nil cons_append drop_eq_getElem_cons drop_of_length_le drop_zero ext_getElem? flatMap_cons flatten flatten_cons foldl_cons getD_eq_getElem?_getD getElem?_append_left getElem?_append_right getElem?_drop getElem?_eq_getElem getElem?_eq_none getElem?_map getElem?_set getElem?_take getElem?_toArray length length_append length_cons length_drop length_map length_nil length_pos_iff length_set length_take map map_append map_cons map_map map_nil mem_append mem_cons mem_map mem_of_getElem? mem_of_mem_drop mem_of_mem_take mem_or_eq_of_mem_set mem_singleton nil_append not_mem_nil replicate replicate_succ set_cons_succ set_cons_zero size_toArray take take_add_one take_append_drop take_left take_of_length_le take_succ_cons zipWith)
open Go.IntKind (wrap i64 u64)
noncomputable abbrev fDCfg:Func:= Tryz.f7
noncomputable abbrev fCChk:Func:= Tryz.f150
theorem cchk_spec(m:Mod)(hm:PlC m)(i:Nat)(hi:i<m.rules.length)(c:Val)(hc:AC m c):Ab PP 150 [Ah m,di i,dV c] σ0 (di 0) σ0:=by
 refine sv fCChk 32 [3,5] (.c (di 0)<|.k<|.f<|.f<|.f<|.c (db true) .r) (F0 59 [Ah m] (di 0)/\(m.kind !=1)=false/\decide ((i:Int)<0)=false/\decide ((i:Int)>=(length (map Ak m.rules):Int))=false/\F0 42 [Ah m,dV c] (db true)/\Q (di 0)) ?_
 have hsz:=hc.size hm
 have h1:=D9 m hm.ok c (by omega)
 rw[hc.valid hm] at h1
 exact⟨Ea m hm.ok,by rw[hm.kind];rfl,decide_eq_false (by omega),by rw[length_map];exact decide_eq_false (by omega),h1,rfl⟩
noncomputable abbrev fCEn:Func:= Tryz.f151
noncomputable def cCEn:Code:=fCEn.body.getD .skip
theorem isC_kids{c:Val}{s:Int}{ys:List Int}(hc:IsC c s ys):c.kids=lf s::ys.map lf:=by rw[hc.eq];rfl
theorem Hj{c:Val}{s:Int}{ys:List Int}(hc:IsC c s ys):List.drop 1 (take (c.kids.map eV).length (c.kids.map eV))=(ys.map lf).map eV:=by
 rw[List.take_length,isC_kids hc];rfl
theorem cen_loop(r:Rul)(c:Val)(s:Int)(ys:List Int)(hl:r.need.length=ys.length)(hl2:ys.length<=1000)(n:Nat):∀k:Nat,ys.length-k=n->
  Rn PP fCEn 0 (db (FD (r.need.drop k) (ys.drop k))) σ0 ([.lp (sub cCEn [1,1,0,1,0,0]),.blk 0,.code (sub cCEn [1,1,1])]++[]) (mkE 33 [(2,.v (.ref (Ak r))),(17,dVs (ys.map lf)),(18,di ys.length),(19,di k)]) σ0:=by
 induction n with
 |zero=>
  intro k hn
  refine lv 33 [2,3] (.f .r) (decide ((k:Int)<(ys.length:Int))=false/\db true=db (FD (List.drop k r.need) (List.drop k ys))) ?_
  refine⟨decide_eq_false (by omega),?_⟩
  rw[drop_of_length_le (show r.need.length<=k by omega)];simp only[FD]
 |succ n ih=>
  intro k hn
  obtain⟨x,hx⟩:∃x,r.need[k]?=some x:=⟨_,getElem?_eq_getElem (show k<r.need.length by omega)⟩
  obtain⟨y,hy⟩:∃y,ys[k]?=some y:=⟨_,getElem?_eq_getElem (show k<ys.length by omega)⟩
  refine lv 33 [2,3] (.t<|.h (.xs (Ad (lf y)))<|.x (vi x)<|.b .r (.ls [ke 2,ke 17,ke 18,ch 19 (di (k+1:Nat))] σ0)) (decide ((k:Int)<(ys.length:Int))=true/\Q 2/\0<=(k:Int)/\(map eV (map lf ys))[Int.toNat (k:Int)]?=some (Ad (lf y))/\0<=(k:Int)/\(map vi r.need)[Int.toNat (k:Int)]?=some (vi x)/\(True/\True)/\(decide (Val.n (lf y)<x)=true->db false=db (FD (List.drop k r.need) (List.drop k ys)))/\(decide (Val.n (lf y)<x)=false->di (wrap i64 ((k:Int)+1))=di (↑(k+1):Int)/\I0 fCEn 0 (db (FD (List.drop k r.need) (List.drop k ys))) σ0 [kl cCEn [1,1,0,1,0,0],KI.blk 0,kc cCEn [1,1,1]] (mkE 33 [(2,D.v (V.ref (Ak r))),(17,D.v (vVs (map lf ys))),(18,di (ys.length:Int)),(19,di (↑(k+1):Int))]) σ0)) ?_
  have e3:r.need.drop k=x::r.need.drop (k+1):=by rw[drop_eq_getElem_cons (by omega)];congr 1;rw[getElem?_eq_getElem (by omega)] at hx;simpa using hx
  have e4:ys.drop k=y::ys.drop (k+1):=by rw[drop_eq_getElem_cons (by omega)];congr 1;rw[getElem?_eq_getElem (by omega)] at hy;simpa using hy
  rw[e3,e4]
  refine⟨decide_eq_true (by omega),rfl,by omega,Az (by rw[getElem?_map,hy];rfl),by omega,Ao hx,⟨trivial,trivial⟩,fun h1=>?_,fun h1=>⟨Af (by omega),⟨?_⟩⟩⟩
  ·have h1:decide (y<x)=true:=h1
   simp only[FD,h1,Bool.not_true,Bool.false_and]
  ·have h1:decide (y<x)=false:=h1
   simp only[FD,h1,Bool.not_false,Bool.true_and]
   have:=ih (k+1) (by omega)
   exact this
theorem cen_spec(r:Rul)(c:Val)(s:Int)(ys:List Int)(hc:IsC c s ys)(hl:r.need.length=ys.length)(hl2:ys.length<=1000):Ab PP 151 [BK r,dV c] σ0 (db (enB r s ys)) σ0:=by
 refine sv fCEn 33 [2,3] (.h (.xs (Ad (lf s)))<|.b .r (.l [ke 2,ch 17 (dVs (ys.map lf)),ch 18 (di ys.length),ch 19 (di (0:Nat))])) (Q 2/\iz 0<=0/\(map eV c.kids)[Int.toNat 0]?=some (Ad (lf s))/\((Val.n (lf s) !=r.frm)=true->db false=db (enB r s ys))/\((Val.n (lf s) !=r.frm)=false->(∀(x:V),x∈map eV c.kids->V.size x=2)/\0<=(1:Int)/\(1:Int)<=(length (map eV c.kids):Int)/\D.v (V.list (List.drop (Int.toNat ((1:Int))) (take (length (map eV c.kids)) (map eV c.kids))))=dVs (map lf ys)/\di (length (List.drop (Int.toNat ((1:Int))) (take (length (map eV c.kids)) (map eV c.kids))):Int)=di (ys.length:Int)/\di 0=di (↑0:Int)/\I0 fCEn σ0.H.length (db (enB r s ys)) σ0 [kl cCEn [1,1,0,1,0,0],KI.blk 0,kc cCEn [1,1,1]] (mkE 33 [(2,D.v (V.ref (Ak r))),(17,dVs (map lf ys)),(18,di (ys.length:Int)),(19,di (↑0:Int))]) (St.mk [] []))) ?_
 have hk:=isC_kids hc
 have hd:=Hj hc
 have hlen:c.kids.length=ys.length+1:=hc.len
 refine⟨rfl,by decide,Az (i:=0) hc.head,fun h=>?_,fun h=>⟨?_,by omega,?_,?_,?_,rfl,⟨?_⟩⟩⟩
 ·have h:(s !=r.frm)=true:=h
  have h:(s==r.frm)=false:=by simpa using h
  simp only[enB,h,Bool.false_and]
 ·intro x hx;obtain⟨v,_,rfl⟩:=mem_map.1 hx;rw[AN];rfl
 ·rw[length_map];omega
 ·exact congrArg (fun l=>D.v (.list l)) hd
 ·have:=congrArg (fun l:List V=>di (l.length:Int)) hd
  simpa using this
 ·have h:(s !=r.frm)=false:=h
  have h:(s==r.frm)=true:=by simpa using h
  simp only[enB,h,Bool.true_and]
  exact cen_loop r c s ys hl hl2 _ 0 rfl
noncomputable abbrev fMvd:Func:= Tryz.f152
theorem mvd_spec(r:Rul)(hr:r.move=[])(i:Nat):Ab PP 152 [BK r,di i] σ0 (di i) σ0:=by
 refine sv fMvd 15 [2] (.t .r) (((length (map vi r.move):Int)==0)=true/\Q (di (i:Int))) ?_
 exact⟨by rw[hr];rfl,rfl⟩
noncomputable abbrev Hx:Func:= Tryz.f108
noncomputable def ET:Code:=Hx.body.getD .skip
def Hw:List Val->List Int->Val×Int
 |xs,v::vs=>if decide (v>1048576)=true then(.mk 0 [],1) else Hw (xs++[lf v]) vs
 |xs,[]=>(.mk 0 xs,0)
theorem outS_eq:∀(ws gs:List Int) (xs:List Val),ws.length=gs.length->Hw xs (zipWith (fun w g=>w+g) ws gs)=outP xs ws gs
 |[],[],xs,_=>rfl
 |w::ws,g::gs,xs,h=>by
  simp only[List.zipWith_cons_cons,Hw,outP]
  rw[outS_eq ws gs _ (by simpa using h)]
theorem cap_l2(r:Rul)(ws:List Int)(hw:ws.length<=1000)(n:Nat):∀(k:Nat) (xs:List Val),ws.length-k=n->xs.length<=k+1->
  Rn PP Hx 0 (dP (Hw xs (ws.drop k))) σ0 ([.lp (sub ET [1,1,1,1,1,1,1,0,1,0,0]),.blk 2,.code (sub ET [1,1,1,1,1,1,1,1])]++[]) (mkE 90 [(6,.ptr 0 0),(14,.ptr 3 0),(72,.arr 2 0 ws.length),(73,di ws.length),(74,di k)]) (stB r ws xs):=by
 induction n with
 |zero=>
  intro k xs hn hx
  refine lv 90 [3,5] (.f .r) (decide ((k:Int)<(ws.length:Int))=false/\D.tup [D.v (V.agg [vi 0,V.list (map eV xs)]),di 0]=dP (Hw xs (List.drop k ws))) ?_
  refine⟨decide_eq_false (by omega),?_⟩
  rw[drop_of_length_le (show ws.length<=k by omega)];rfl
 |succ n ih=>
  intro k xs hn hx
  obtain⟨w,hw1⟩:∃w,ws[k]?=some w:=⟨_,getElem?_eq_getElem (show k<ws.length by omega)⟩
  refine lv 90 [3,5] (.t<|.m (di w)<|.b .r (.lo [ke 6,ke 14,ke 72,ke 73,ch 74 (di (k+1:Nat))] (stB r ws (xs++[lf w])))) (decide ((k:Int)<(ws.length:Int))=true/\0<=(k:Int)/\(k:Int)<(ws.length:Int)/\(cIs ws)[0+Int.toNat (k:Int)*1]?=some (di w)/\(decide (w>1048576)=true->D.tup [D.v (V.agg [vi 0,V.list []]),di 1]=dP (Hw xs (List.drop k ws)))/\(decide (w>1048576)=false->Q (map eV xs)/\Ar (length (map eV xs)+length (V.agg (V.int i64 w::V.list nV::nV)::nV)) 32/\di (wrap i64 ((k:Int)+1))=di (↑(k+1):Int)/\okH 4 [1] [some [di 0,dn],some (cR r),some (cIs ws),some [di 0,D.acc 1 (map eV xs++[V.agg [vi w,V.list []]])]]=true/\[some [di 0,dn],some (cR r),some (cIs ws),some [di 0,D.acc 1 (map eV xs++V.agg (vi w::V.list nV::nV)::nV)]]=[some [di 0,dn],some (cR r),some (cIs ws),some [di 0,D.acc 1 (map eV (xs++[lf w]))]]/\[(1,2,map eV xs++V.agg (vi w::V.list nV::nV)::nV)]=[(1,2,map eV (xs++[lf w]))]/\I0 Hx 0 (dP (Hw xs (List.drop k ws))) σ0 [kl ET [1,1,1,1,1,1,1,0,1,0,0],KI.blk 2,kc ET [1,1,1,1,1,1,1,1]] (mkE 90 [(6,D.ptr 0 0),(14,D.ptr 3 0),(72,D.arr 2 0 ws.length),(73,di (ws.length:Int)),(74,di (↑(k+1):Int))]) (stB r ws (xs++[lf w])))) ?_
  have e3:ws.drop k=w::ws.drop (k+1):=by rw[drop_eq_getElem_cons (by omega)];congr 1;rw[getElem?_eq_getElem (by omega)] at hw1;simpa using hw1
  rw[e3]
  refine⟨decide_eq_true (by omega),by omega,by omega,by simp[cIs,hw1],fun h=>?_,fun h=>⟨rfl,⟨?_,?_⟩,Af (by omega),?_,?_,?_,⟨?_⟩⟩⟩
  ·simp only[Hw,h,if_true];rfl
  ·simp only[length_map,length_cons,length_nil];omega
  ·simp only[length_map,length_cons,length_nil];omega
  ·simp[okH,D.okNs,D.okN,BH]
  ·rw[←BE];rfl
  ·rw[←BE];rfl
  ·have:=ih (k+1) (xs++[lf w]) (by omega) (by simp;omega)
   simp only[Hw,h,Bool.false_eq_true,if_false]
   exact this
theorem cap_l1(r:Rul)(hr:r.move=[])(ys:List Int)(hl:r.need.length=ys.length)(hg:r.give.length=ys.length)(hy:ys.length<=1000)(by1:∀y∈ys,0<=y/\y<=1048576)(bn:∀y∈r.need,0<=y/\y<=16)(bg:∀y∈r.give,0<=y/\y<=16)(N:Nat)(hN:N=ys.length)(n:Nat):∀(k:Nat) (ws:List Int),N-k=n->ws=(Ca r ys).take k++r.give.drop k->
  Rn PP Hx 0 (dP (Hw [lf r.to] (Ca r ys))) σ0 ([.lp (sub ET [1,1,1,1,1,0,1,0,0]),.blk 0,.code (sub ET [1,1,1,1,1,1])]++[]) (mkE 90 [(6,.ptr 0 0),(9,.ptr 1 0),(10,.arr 2 0 N),(40,dVs (ys.map lf)),(41,di ys.length),(42,di k)]) (stA r ws):=by
 induction n with
 |zero=>
  intro k ws hn hx
  refine lv 90 [3,5] (.f<|.a 1<|.h .g<|.lo [ke 6,ke 14,ch 72 (.arr 2 0 N),ch 73 (di N),ch 74 (di (0:Nat))] (stB r ws [lf r.to])) (decide ((k:Int)<(ys.length:Int))=false/\Q (D.arr 2 0 N)/\Q (di (N:Int))/\di 0=di (↑0:Int)/\okH 4 [1] [some [di 0,dn],some (cR r),some (cIs ws),some [di 0,D.acc 1 [V.agg [vi r.to,V.list []]]]]=true/\[some [di 0,dn],some (cR r),some (cIs ws),some [di 0,D.acc 1 (V.agg (vi r.to::V.list nV::nV)::nV)]]=[some [di 0,dn],some (cR r),some (cIs ws),some [di 0,D.acc 1 (eV (lf r.to)::nV)]]/\[(1,2,V.agg (vi r.to::V.list nV::nV)::nV)]=[(1,2,eV (lf r.to)::nV)]/\I0 Hx 0 (dP (Hw [lf r.to] (Ca r ys))) σ0 [kl ET [1,1,1,1,1,1,1,0,1,0,0],KI.blk 2,kc ET [1,1,1,1,1,1,1,1]] (mkE 90 [(6,D.ptr 0 0),(14,D.ptr 3 0),(72,D.arr 2 0 N),(73,di (N:Int)),(74,di (↑0:Int))]) (stB r ws [lf r.to])) ?_
  have hsl:(Ca r ys).length=N:=by simp only[Ca,subM,List.length_zipWith];omega
  rw[take_of_length_le (by omega),drop_of_length_le (by omega),append_nil] at hx
  subst hx
  refine⟨decide_eq_false (by omega),rfl,rfl,rfl,by simp[okH,D.okNs,D.okN,BH],rfl,rfl,⟨?_⟩⟩
  have:=cap_l2 r (Ca r ys) (by omega) _ 0 [lf r.to] rfl (by simp)
  rw[hsl] at this
  exact this
 |succ n ih=>
  intro k ws hn hx
  obtain⟨ws',hws⟩:∃ws',ws'=(Ca r ys).take (k+1)++r.give.drop (k+1):=⟨_,rfl⟩
  obtain⟨x,hx1⟩:∃x,r.need[k]?=some x:=⟨_,getElem?_eq_getElem (show k<r.need.length by omega)⟩
  obtain⟨y,hy1⟩:∃y,ys[k]?=some y:=⟨_,getElem?_eq_getElem (show k<ys.length by omega)⟩
  obtain⟨z,hz1⟩:∃z,r.give[k]?=some z:=⟨_,getElem?_eq_getElem (show k<r.give.length by omega)⟩
  refine lv 90 [3,5] (.t<|.h (.xs (Ad (lf y)))<|.c (di k)<|.t<|.m (di z)<|.x (vi x)<|.w<|.lo [ke 6,ke 9,ke 10,ke 40,ke 41,ch 42 (di (k+1:Nat))] (stA r ws')) (decide ((k:Int)<(ys.length:Int))=true/\Q 2/\0<=(k:Int)/\(map eV (map lf ys))[Int.toNat (k:Int)]?=some (Ad (lf y))/\F0 152 [BK r,di (k:Int)] (di (k:Int))/\decide ((k:Int)>=0)=true/\0<=(k:Int)/\(k:Int)<(N:Int)/\(cIs ws)[0+Int.toNat (k:Int)*1]?=some (di z)/\0<=(k:Int)/\(map vi r.need)[Int.toNat (k:Int)]?=some (vi x)/\0<=(k:Int)/\(k:Int)<(N:Int)/\0+Int.toNat (k:Int)*1<length (cIs ws)/\(True/\True/\True/\True)/\di (wrap i64 ((k:Int)+1))=di (↑(k+1):Int)/\okH 3 [] [some [di 0,dn],some (cR r),some (List.set (cIs ws) (0+Int.toNat (k:Int)*1) (di (wrap i64 (z+wrap i64 (Val.n (lf y)-x)))))]=true/\[some [di 0,dn],some (cR r),some (List.set (cIs ws) (0+Int.toNat (k:Int)*1) (di (wrap i64 (z+wrap i64 (Val.n (lf y)-x)))))]=[some [di 0,dn],some (cR r),some (cIs ws')]/\I0 Hx 0 (dP (Hw [lf r.to] (Ca r ys))) σ0 [kl ET [1,1,1,1,1,0,1,0,0],KI.blk 0,kc ET [1,1,1,1,1,1]] (mkE 90 [(6,D.ptr 0 0),(9,D.ptr 1 0),(10,D.arr 2 0 N),(40,D.v (vVs (map lf ys))),(41,di (ys.length:Int)),(42,di (↑(k+1):Int))]) (stA r ws')) ?_
  have hsl:(Ca r ys).length=N:=by simp only[Ca,subM,List.length_zipWith];omega
  have hs1:(Ca r ys)[k]?=some (y-x+z):=by simp only[Ca,subM,List.getElem?_zipWith,hy1,hx1,hz1]
  have b1:=by1 _ (mem_of_getElem? hy1)
  have b2:=bn _ (mem_of_getElem? hx1)
  have b3:=bg _ (mem_of_getElem? hz1)
  have htl:((Ca r ys).take k).length=k:=by rw[length_take];omega
  have hdz:r.give.drop k=z::r.give.drop (k+1):=by rw[drop_eq_getElem_cons (by omega)];congr 1;rw[getElem?_eq_getElem (by omega)] at hz1;simpa using hz1
  have hw0:ws[k]?=some z:=by
   rw[hx,getElem?_append_right (by omega),htl,Nat.sub_self,hdz];rfl
  have hset:ws.set k (y-x+z)=ws':=by
   rw[hx,hws,List.set_append_right _ _ (by omega),htl,Nat.sub_self,hdz,set_cons_zero]
   obtain⟨hlt,he⟩:=List.getElem?_eq_some_iff.1 hs1
   rw[List.take_succ_eq_append_getElem hlt,he,append_assoc];rfl
  have hwl:ws.length=N:=by rw[hx,length_append,htl,length_drop];omega
  have e2:i64.wrap (z+i64.wrap (Val.n (lf y)-x))=y-x+z:=by
   rw[show Val.n (lf y)=y from rfl,Aj (n:=y-x) (by omega) (by omega),Aj (by omega) (by omega)];omega
  have e3:List.set (cIs ws) (0+Int.toNat (k:Int)*1) (di (y-x+z))=cIs ws':=by
   rw[←hset,show 0+Int.toNat (k:Int)*1=k by simp];simp[cIs,List.map_set]
  refine⟨decide_eq_true (by omega),rfl,by omega,Az (by rw[getElem?_map,hy1];rfl),mvd_spec r hr k,decide_eq_true (by omega),by omega,by omega,by simp[cIs,hw0],by omega,Ao hx1,by omega,by omega,by simp[cIs];omega,⟨trivial,trivial,trivial,trivial⟩,Af (by omega),?_,?_,⟨ih (k+1) ws' (by omega) hws⟩⟩
  ·rw[e2,e3];simp[okH,D.okNs,D.okN,BH]
  ·rw[e2,e3]
theorem pls_cIs(l:List Int):D.pls (cIs l)=true:=by
 have:cIs l=(l.map vi).map .v:=by simp[cIs]
 rw[this];exact BB _
theorem cap_spec(m:Mod)(hm:PlC m)(i:Nat)(r:Rul)(hi:m.rules[i]?=some r)(c:Val)(hc:AC m c):Ab PP 108 [Ah m,di i,dV c] σ0 (dP (apM r (stV c) (nmV c))) σ0:=by
 have hr:=hm.rule (mem_of_getElem? hi)
 have hp:=hm.places
 have hil:=(List.getElem?_eq_some_iff.1 hi).1
 have hck:=cchk_spec m hm i hil c hc
 have hcc:=hc.isC
 have hyl:=hc.len
 have hnm:=hc.nm
 have he:=cen_spec r c _ _ hcc (by rw[hr.needL,hc.len]) (by omega)
 generalize stV c=s at*
 generalize nmV c=ys at*
 cases hb:enB r s ys with
 |false=>
  rw[hb] at he
  refine sv Hx 90 [3,5] (.c (di 0)<|.x (Ak r)<|.c (db false) .r) (F0 150 [Ah m,di (i:Int),dV c] (di 0)/\0<=(i:Int)/\(map Ak m.rules)[Int.toNat (i:Int)]?=some (Ak r)/\F0 151 [BK r,dV c] (db false)/\D.tup [D.v (V.agg [vi 0,V.list []]),di 18]=dP (apM r s ys)) ?_
  exact⟨hck,by omega,Ao hi,he,by rw[apM,hb];rfl⟩
 |true=>
  rw[hb] at he
  obtain⟨N,hN⟩:∃N,N=ys.length:=⟨_,rfl⟩
  have hN0:r.give≠ []:=by intro h;have:=hr.giveL;rw[h] at this;simp at this;omega
  have hgl:r.give.length=N:=by rw[hr.giveL];omega
  refine sv Hx 90 [3,5] (.c (di 0)<|.x (Ak r)<|.c (db true)<|.h (.q 7 2)<|.h (.oc (.arr 2 0 N) (stA r r.give))<|.lo [ke 6,ke 9,ke 10,ch 40 (dVs (ys.map lf)),ch 41 (di ys.length),ch 42 (di (0:Nat))] (stA r r.give)) (F0 150 [Ah m,di (i:Int),dV c] (di 0)/\0<=(i:Int)/\(map Ak m.rules)[Int.toNat (i:Int)]?=some (Ak r)/\F0 151 [BK r,dV c] (db true)/\(∀(o:Oper) (c:Call) (fo:Operand),o.op=Op.call c->c.callee=Callee.value fo->Ai PP o [D.v (V.fn 44 [] []),dIs r.give] (St.mk [some [di 0,dn],some [D.v (V.str r.name),di r.frm,di r.to,dIs r.need,dIs r.give,dIs r.move,di r.chan,di r.act,di r.letter,dIs r.path,dIs r.next,D.v (AA r.takes),dIs r.makes,di r.second]] []) (D.arr 2 0 N) (stA r r.give))/\(∀(x:V),x∈map eV c.kids->V.size x=2)/\0<=(1:Int)/\(1:Int)<=(length (map eV c.kids):Int)/\D.v (V.list (List.drop (Int.toNat ((1:Int))) (take (length (map eV c.kids)) (map eV c.kids))))=dVs (map lf ys)/\di (length (List.drop (Int.toNat ((1:Int))) (take (length (map eV c.kids)) (map eV c.kids))):Int)=di (ys.length:Int)/\di 0=di (↑0:Int)/\okH 3 [] [some [di 0,dn],some (cR r),some (cIs r.give)]=true/\Q [some [di 0,dn],some (cR r),some (cIs r.give)]/\I0 Hx σ0.H.length (dP (apM r s ys)) σ0 [kl ET [1,1,1,1,1,0,1,0,0],KI.blk 0,kc ET [1,1,1,1,1,1]] (mkE 90 [(6,D.ptr 0 0),(9,D.ptr 1 0),(10,D.arr 2 0 N),(40,dVs (map lf ys)),(41,di (ys.length:Int)),(42,di (↑0:Int))]) (stA r r.give)) ?_
  have hd:=Hj hcc
  have hlen:c.kids.length=ys.length+1:=hcc.len
  refine⟨hck,by omega,Ao hi,he,fun o c' fo ho hc'=>?_,?_,by omega,?_,?_,?_,rfl,by simp[okH,D.okNs,D.okN,BH],rfl,⟨?_⟩⟩
  ·exact DJ (σ:=⟨[some [di 0,.v .nils],some (cR r)],[]⟩) (fs:=[]) (cs:=[]) (ds:=[dIs r.give]) ho hc' rfl (Hc:=[none,some (cIs r.give)]) (j:=1) rfl (pls_cIs _) (by rw[←hgl];exact cloIA_spec r.give (by omega) hN0)
  ·intro x hx;obtain⟨v,_,rfl⟩:=mem_map.1 hx;rw[AN];rfl
  ·rw[length_map];omega
  ·exact congrArg (fun l=>D.v (.list l)) hd
  ·have:=congrArg (fun l:List V=>di (l.length:Int)) hd
   simpa using this
  ·have h1:=cap_l1 r hr.move ys (by rw[hr.needL];omega) (by rw[hr.giveL];omega) (by omega) hnm hr.need hr.give N hN _ 0 r.give rfl (by simp)
   rw[apM,if_pos hb, ←outS_eq _ _ _ (by rw[subM,List.length_zipWith,hr.needL,hr.giveL];omega)]
   exact h1
noncomputable abbrev fStp1:Func:= Tryz.f105
theorem stp1_spec(m:Mod)(hm:PlC m):Ab PP 105 [Ah m] σ0 (di 0) σ0:=by
 refine sv fStp1 12 [1] (.c (di 0)<|.k<|.f .r) (F0 59 [Ah m] (di 0)/\(m.kind==6)=false/\Q (di 0)) ?_
 exact⟨Ea m hm.ok,by rw[hm.kind];rfl,rfl⟩
noncomputable abbrev fSChk:Func:= Tryz.f62
theorem schk_spec(m:Mod)(hm:PlC m)(c:Val)(hc:AC m c):Ab PP 62 [Ah m,dV c] σ0 (di 0) σ0:=by
 refine sv fSChk 15 [2,3] (.c (di 0)<|.c (db true) .r) (F0 105 [Ah m] (di 0)/\F0 42 [Ah m,dV c] (db true)/\Q (di 0)) ?_
 have hsz:=hc.size hm
 have h1:=D9 m hm.ok c (by omega)
 rw[hc.valid hm] at h1
 exact⟨stp1_spec m hm,h1,rfl⟩
noncomputable abbrev fSQt:Func:= Tryz.f106
theorem sqt_spec(m:Mod)(hm:PlC m)(c:Val):Ab PP 106 [Ah m,dV c] σ0 (dVs []) σ0:=by
 refine sv fSQt 31 [2,3] (.f<|.f<|.f .r) ((m.kind==2)=false/\(m.kind==3)=false/\(m.kind==5)=false/\D.v (V.list [])=dVs []) ?_
 exact⟨by rw[hm.kind];rfl,by rw[hm.kind];rfl,by rw[hm.kind];rfl,rfl⟩
noncomputable abbrev fSSng:Func:= Tryz.f107
theorem ssng_spec(p:Val×Int):Ab PP 107 [dV p.1,di p.2] σ0 (dLP (Ce p)) σ0:=by
 refine sv fSSng 14 [2] (.b .r (.b .r .r)) (((p.snd==0)=true->D.tup [D.v (V.list [Ad p.fst]),di 0]=dLP (Ce p))/\((p.snd==0)=false->((p.snd==18)=true->D.tup [D.v (V.list []),di 0]=dLP (Ce p))/\((p.snd==18)=false->D.tup [D.v (V.list []),di p.snd]=dLP (Ce p)))) ?_
 refine⟨fun h=>?_,fun h=>⟨fun h1=>?_,fun h1=>?_⟩⟩
 ·have h:p.2=0:=by simpa using h
  rw[Ce,if_neg (by rw[h];decide),if_neg (by rw[h];decide)]
  show D.tup [.v (.list [Ad p.1]),di 0]=_
  rw[←AN];rfl
 ·rw[Ce,if_pos h1];rfl
 ·have h:p.2≠0:=by simpa using h
  rw[Ce,if_neg (by rw[h1];decide),if_pos (by simpa using h)];rfl
noncomputable abbrev fBhd:Func:= Tryz.f63
theorem bhd_q(m:Mod)(hm:PlC m)(c:Val):Ab PP 63 [Ah m,di (-1),dV c] σ0 (dLP ([],0)) σ0:=by
 refine sv fBhd 56 [3,5] (.c (dVs []) .r) (F0 106 [Ah m,dV c] (dVs [])/\D.tup [D.v (vVs []),di 0]=dLP ([],0)) ?_
 exact⟨sqt_spec m hm c,rfl⟩
theorem bhd_r(m:Mod)(hm:PlC m)(i:Nat)(c:Val)(p:Val×Int)(hp:Ab PP 108 [Ah m,di i,dV c] σ0 (dP p) σ0):Ab PP 63 [Ah m,di i,dV c] σ0 (dLP (Ce p)) σ0:=by
 refine sv fBhd 56 [3,5] (.f<|.t<|.c (dP p)<|.c (dLP (Ce p)) .r) (((i:Int)== -1)=false/\(m.kind==1)=true/\F0 108 [Ah m,di (i:Int),dV c] (dP p)/\F0 107 [dV p.fst,di p.snd] (dLP (Ce p))/\D.tup [D.v (vVs (Ce p).fst),di (Ce p).snd]=dLP (Ce p)) ?_
 exact⟨beq_eq_false_iff_ne.2 (by omega),by rw[hm.kind];rfl,hp,ssng_spec p,rfl⟩
theorem bhd_spec(m:Mod)(hm:PlC m)(c:Val)(hc:AC m c)(i:Int)(h1: -1<=i)(h2:i<m.rules.length):Ab PP 63 [Ah m,di i,dV c] σ0 (dLP (apS m c i)) σ0:=by
 by_cases h0:i<0
 ·have:i= -1:=by omega
  subst this
  exact bhd_q m hm c
 ·obtain⟨k,rfl⟩:∃k:Nat,i=k:=⟨i.toNat,by omega⟩
  have hr:m.rules[k]?=some m.rules[k]:=getElem?_eq_getElem (show k<m.rules.length by omega)
  rw[apS,if_neg h0,show((k:Nat):Int).toNat=k by omega,hr]
  exact bhd_r m hm k c _ (cap_spec m hm k _ hr c hc)
noncomputable abbrev Fu:Func:= Tryz.f46
noncomputable def Cx:Code:=Fu.body.getD .skip
theorem sall_in(m:Mod)(c:Val)(rl:Int)(hr1: -1<=rl)(hr2:rl<=1000)(l:List Val)(hl0:l.length<=1000)(p:List Stp×Int)(fin:List Stp)(hf:fin.length<=100000)
  (hout:Rn PP Fu 0 (dSP p) σ0 ([.lp (sub Cx [1,1,1,0,1,0,0]),.blk 0,.code (sub Cx [1,1,1,1])]++[]) (mkE 53 [(2,.v (.ref (AE m))),(3,.v (.ref (Ad c))),(7,accP fin),(8,di (rl+1))]) (ownP fin)) (n:Nat):∀(k:Nat) (xs:List Stp),l.length-k=n->xs++(l.drop k).map (fun v=>(rl,v))=fin->
  Rn PP Fu 0 (dSP p) σ0 ([.lp (sub Cx [1,1,1,0,1,0,0,1,0,0,1,1,1,0,0]),.blk 2,.blk 1,.code (sub Cx [1,1,1,0,1,0,0,1,1]),.lp (sub Cx [1,1,1,0,1,0,0]),.blk 0,.code (sub Cx [1,1,1,1])]++[]) (mkE 53 [(2,.v (.ref (AE m))),(3,.v (.ref (Ad c))),(7,accP xs),(8,di rl),(36,dVs l),(37,di l.length),(38,di k)]) (ownP xs):=by
 induction n with
 |zero=>
  intro k xs hn hx
  rw[drop_of_length_le (by omega),map_nil,append_nil] at hx
  subst hx
  refine lv 53 [2,3] (.f<|.l [ke 2,ke 3,ke 7,ch 8 (di (rl+1))]) (decide ((k:Int)<(l.length:Int))=false/\di (wrap i64 (rl+1))=di (rl+1)/\I0 Fu 0 (dSP p) σ0 [kl Cx [1,1,1,0,1,0,0],KI.blk 0,kc Cx [1,1,1,1]] (mkE 53 [(2,D.v (V.ref (AE m))),(3,D.v (V.ref (Ad c))),(7,D.acc 1 (map vSt xs)),(8,di (rl+1))]) (ownP xs)) ?_
  exact⟨decide_eq_false (by omega),by rw[Aj (by omega) (by omega)],⟨hout⟩⟩
 |succ n ih=>
  intro k xs hn hx
  have hk:k<l.length:=by omega
  have hv:l[k]?=some l[k]:=getElem?_eq_getElem hk
  rw[drop_eq_getElem_cons hk] at hx
  generalize l[k]=v at hv hx
  have hlen:=congrArg length hx
  simp only[length_append,length_map,length_cons,length_drop] at hlen
  refine lv 53 [2,3] (.t<|.h (.xs (Ad v))<|.ls [ke 2,ke 3,ch 7 (accP (xs++[(rl,v)])),ke 8,ke 36,ke 37,ch 38 (di (k+1:Nat))] (ownP (xs++[(rl,v)]))) (decide ((k:Int)<(l.length:Int))=true/\Q 2/\0<=(k:Int)/\(map eV l)[Int.toNat (k:Int)]?=some (Ad v)/\Q (map vSt xs)/\Ar (length (map vSt xs)+length (V.agg (V.int i64 rl::vi v.n::vVs v.kids::nV)::nV)) 40/\D.acc 1 (map vSt xs++[V.agg [vi rl,vi v.n,vVs v.kids]])=accP (xs++[(rl,v)])/\di (wrap i64 ((k:Int)+1))=di (↑(k+1):Int)/\[(1,3,map vSt xs++V.agg (vi rl::vi v.n::vVs v.kids::nV)::nV)]=[(1,3,map vSt (xs++[(rl,v)]))]/\I0 Fu 0 (dSP p) σ0 [kl Cx [1,1,1,0,1,0,0,1,0,0,1,1,1,0,0],KI.blk 2,KI.blk 1,kc Cx [1,1,1,0,1,0,0,1,1],kl Cx [1,1,1,0,1,0,0],KI.blk 0,kc Cx [1,1,1,1]] (mkE 53 [(2,D.v (V.ref (AE m))),(3,D.v (V.ref (Ad c))),(7,accP (xs++[(rl,v)])),(8,di rl),(36,dVs l),(37,di (l.length:Int)),(38,di (↑(k+1):Int))]) (ownP (xs++[(rl,v)]))) ?_
  refine⟨decide_eq_true (by omega),rfl,by omega,Az hv,rfl,⟨?_,?_⟩,?_,Af (by omega),?_,⟨ih (k+1) (xs++[(rl,v)]) (by omega) (by rw[←hx];simp)⟩⟩
  ·simp only[length_map,length_cons,length_nil];omega
  ·simp only[length_map,length_cons,length_nil];omega
  ·rw[accP, ←vSt_snoc]
  ·rw[←vSt_snoc]
theorem sall_loop(m:Mod)(hm:m.rules.length<=12)(c:Val)(ap:Int->List Val×Int)(hl:∀i,(ap i).1.length<=1000)(hap:∀i:Int, -1<=i->i<m.rules.length->Ab PP 63 [Ah m,di i,dV c] σ0 (dLP (ap i)) σ0)(n:Nat):∀(rl:Int) (xs:List Stp), -1<=rl->rl<=m.rules.length->(m.rules.length-rl).toNat=n->xs.length<=(rl+1).toNat*1000->
  Rn PP Fu 0 (dSP (EN ap n rl xs)) σ0 ([.lp (sub Cx [1,1,1,0,1,0,0]),.blk 0,.code (sub Cx [1,1,1,1])]++[]) (mkE 53 [(2,.v (.ref (AE m))),(3,.v (.ref (Ad c))),(7,accP xs),(8,di rl)]) (ownP xs):=by
 induction n with
 |zero=>
  intro rl xs h1 h2 hn hx
  refine lv 53 [2,3] (.f<|.b .r .r) (decide (rl<(length (map Ak m.rules):Int))=false/\(decide ((length (map vSt xs):Int)>256)=true->D.tup [D.v (V.list []),di 1]=dSP (EN ap 0 rl xs))/\(decide ((length (map vSt xs):Int)>256)=false->D.tup [D.v (V.list (map vSt xs)),di 0]=dSP (EN ap 0 rl xs))) ?_
  refine⟨by rw[length_map];exact decide_eq_false (by omega),fun h=>?_,fun h=>?_⟩
  ·rw[length_map] at h;rw[EN,if_pos h];rfl
  ·rw[length_map] at h;rw[EN,if_neg (by rw[h];decide)]
 |succ n ih=>
  intro rl xs h1 h2 hn hx
  have hp:=hap rl h1 (by omega)
  have hi:=ih (rl+1) (xs++(ap rl).1.map fun v=>(rl,v)) (by omega) (by omega) (by omega) (by have:=hl rl;simp only[length_append,length_map];omega)
  have hll:=hl rl
  rw[EN]
  generalize ap rl=q at*
  refine lv 53 [2,3] (.t<|.c (dLP q)<|.b .r (.l [ke 2,ke 3,ke 7,ke 8,ke 36,ch 37 (di q.1.length),ch 38 (di (0:Nat))])) (decide (rl<(length (map Ak m.rules):Int))=true/\F0 63 [Ah m,di rl,dV c] (dLP q)/\((q.snd !=0)=true->D.tup [D.v (V.list []),di q.snd]=dSP (if (q.snd !=0)=true then([],q.snd) else EN ap n (rl+1) (xs++map (fun v=>(rl,v)) q.fst)))/\((q.snd !=0)=false->di (length (map eV q.fst):Int)=di (q.fst.length:Int)/\di 0=di (↑0:Int)/\I0 Fu 0 (dSP (if (q.snd !=0)=true then([],q.snd) else EN ap n (rl+1) (xs++map (fun v=>(rl,v)) q.fst))) σ0 [kl Cx [1,1,1,0,1,0,0,1,0,0,1,1,1,0,0],KI.blk 2,KI.blk 1,kc Cx [1,1,1,0,1,0,0,1,1],kl Cx [1,1,1,0,1,0,0],KI.blk 0,kc Cx [1,1,1,1]] (mkE 53 [(2,D.v (V.ref (AE m))),(3,D.v (V.ref (Ad c))),(7,D.acc 1 (map vSt xs)),(8,di rl),(36,dVs q.fst),(37,di (q.fst.length:Int)),(38,di (↑0:Int))]) (ownP xs))) ?_
  refine⟨by rw[length_map];exact decide_eq_true (by omega),hp,fun h=>?_,fun h=>⟨by rw[length_map],rfl,⟨?_⟩⟩⟩
  ·rw[if_pos h];rfl
  ·rw[if_neg (by rw[h];decide)]
   exact sall_in m c rl h1 (by omega) q.1 hll _ _ (by simp only[length_append,length_map];omega) hi _ 0 xs rfl (by simp)
theorem sall_spec(m:Mod)(hm:PlC m)(c:Val)(hc:AC m c):Ab PP 46 [Ah m,dV c] σ0 (dSP (Dk m c)) σ0:=by
 have hp:=hm.places
 refine sv Fu 53 [2,3] (.c (di 0)<|.h (.q 5 0)<|.h (.nw 7 1 3)<|.ls [ke 2,ke 3,ke 7,ch 8 (di (-1))] (ownP [])) (F0 62 [Ah m,dV c] (di 0)/\Q (di (-1))/\Q [(1,3,nV)]/\I0 Fu σ0.H.length (dSP (Dk m c)) σ0 [kl Cx [1,1,1,0,1,0,0],KI.blk 0,kc Cx [1,1,1,1]] (mkE 53 [(2,D.v (V.ref (AE m))),(3,D.v (V.ref (Ad c))),(7,D.acc 1 []),(8,di (-1))]) (ownP [])) ?_
 refine⟨schk_spec m hm c hc,rfl,rfl,⟨?_⟩⟩
 exact sall_loop m (by omega) c (apS m c) (fun i=>by have:=(apS_or hm hc i).2.1;omega) (fun i h1 h2=>bhd_spec m hm c hc i h1 h2) (m.rules.length+1) (-1) [] (by omega) (by omega) (by omega) (by simp)
theorem Dl(l:List Val):∀y∈l.map eV,y.size=2:=fun y hy=>by obtain⟨v,_,rfl⟩:=mem_map.1 hy;exact eV_size v
theorem A5(v:Val)(l:List Val):Aa ((v::l).map eV)=[.v (vi v.n),.v (vVs v.kids)]++Aa (l.map eV):=by
 simp only[Aa,map_cons,flatMap_cons,map_append]
 rw[AN];rfl
theorem BO:∀l:List Val,(Aa (l.map eV)).length=l.length*2
 |[]=>rfl
 |v::l=>by rw[A5,length_append,BO l,length_cons];simp;omega
theorem FE(l k:List Val):Aa ((l++k).map eV)=Aa (l.map eV)++Aa (k.map eV):=by
 simp only[Aa,map_append,List.flatMap_append]
theorem flatV_at{l:List Val}{i:Nat}{x:Val}(h:l[i]?=some x):((Aa (l.map eV)).drop (i*2)).take 2=[.v (vi x.n),.v (vVs x.kids)]:=by
 obtain⟨hi,rfl⟩:=List.getElem?_eq_some_iff.1 h
 have e:l=l.take i++l[i]::l.drop (i+1):=by rw[←drop_eq_getElem_cons hi,take_append_drop]
 conv=>lhs;rw[e]
 rw[FE,A5,List.drop_left' (by rw[BO,length_take];omega)]
 rfl
theorem flatV_put{l:List Val}{i:Nat}{x:Val}(h:l[i]?=some x):(Aa (l.map eV)).take (i*2)++[.v (vi x.n),.v (vVs x.kids)]++(Aa (l.map eV)).drop (i*2+2)=Aa (l.map eV):=by
 rw[←flatV_at h,append_assoc]
 conv=>rhs;rw[←take_append_drop (i*2) (Aa (l.map eV))]
 rw[List.append_cancel_left_eq, ←List.drop_drop]
 exact take_append_drop 2 _
theorem As(l:List V):D.pls (Aa l)=true:=BB _
theorem Ag(n:Nat)(ts:List Nat)(l:List V):D.okNs n ts (Aa l)=true:=by
 unfold Aa
 induction l.flatMap V.cellsV with
 |nil=>rfl
 |cons x l ih=>simp only[map_cons,D.okNs,D.okN,ih,Bool.true_and]
noncomputable abbrev fCloV:Func:= Tryz.f43
theorem cloV_nil:Ab PP 43 [dVs []] σ0 (dVs []) σ0:=by
 refine spec_nil (ds:=[]) (ds':=[]) fun a cap=>?_
 cases a with
 |none=>
  refine sv fCloV 8 [] .r (D.v (V.list [])=dVs []) ?_
  rfl
 |some a=>
  refine sv fCloV 8 [] (.a 1<|.h (.q 3 2)<|.h (.un 6)<|.r) (Q nV/\Ar 0 32/\D.v (V.list [])=dVs []) ?_
  refine⟨rfl,⟨by simp,by simp⟩,?_⟩
  rfl
theorem cloVA_spec(l:List Val)(hl:l.length<=1000000)(h:l≠ []):Ab PP 43 [dVs l] σ0 (.arr 1 0 l.length) ⟨[none,some (Aa (l.map eV))],[]⟩:=by
 refine sv fCloV 8 [] (.h .g<|.h (.q 3 3)<|.h (.ga 7) .ro) (map eV l≠ []/\Q 0/\map eV l≠ []/\(∀(y:V),y∈map eV l->V.size y=2)/\Ar (0+length (map eV l)) 32/\okH 2 [] [none,some ([]++Aa (map eV l))]=true/\[none,some ([]++Aa (map eV l))]=[none,some (Aa (map eV l))]/\D.arr 1 0 (0+length (map eV l))=D.arr 1 0 l.length) ?_
 refine⟨by simpa using h,rfl,by simpa using h,Dl l,⟨by simp;omega,by simp;omega⟩,?_,?_,?_⟩
 ·simp[okH,Ag]
 ·simp
 ·simp
noncomputable abbrev fOwn:Func:= Tryz.f25
noncomputable def cOwn:Code:=fOwn.body.getD .skip
abbrev stO(l:List Val):St:=⟨[some [di 0,.v .nils],some (Aa (l.map eV))],[]⟩
theorem own_loop(v:Val)(hv:v.size<=1000000)(hk:∀x∈v.kids,Ab PP 25 [dV x] σ0 (dV x) σ0)(n:Nat):∀k:Nat,v.kids.length-k=n->
  Rn PP fOwn 0 (dV v) σ0 ([.lp (sub cOwn [1,1,0,1,0,0]),.blk 0,.code (sub cOwn [1,1,1])]++[]) (mkE 26 [(1,.v (.ref (Ad v))),(2,.ptr 0 0),(3,.arr 1 0 v.kids.length),(9,.arr 1 0 v.kids.length),(10,di v.kids.length),(11,di k)]) (stO v.kids):=by
 induction n with
 |zero=>
  intro k hn
  refine lv 26 [1] (.f<|.h (.q 7 0)<|.h (.ct 3 (dVs v.kids) ⟨[some [di 0,.v .nils],none],[]⟩) .r) (decide ((k:Int)<(v.kids.length:Int))=false/\(∀(e:List D),e[3]?=some (D.arr 1 0 v.kids.length)->∀(E:Ent) (g:Gh) (a:Act) (w:World),FI E g (stO v.kids) e a w->∃g',FI E g' (St.mk [some [di 0,dn],none] []) (List.set e 3 (dVs v.kids)) a w)/\D.v (V.agg [vi v.n,V.list (map eV v.kids)])=dV v) ?_
  exact⟨decide_eq_false (by omega),fun e he=>cv_flz (σ:=stO v.kids) (q:=1) (sz:=2) (by decide) (Dl _) (by simp) rfl he,rfl⟩
 |succ n ih=>
  intro k hn
  obtain⟨x,hx⟩:∃x,v.kids[k]?=some x:=⟨_,getElem?_eq_getElem (show k<v.kids.length by omega)⟩
  refine lv 26 [1] (.t<|.m (dV x)<|.c (dV x)<|.h .ww<|.lo [ke 1,ke 2,ke 3,ke 9,ke 10,ch 11 (di (k+1:Nat))] (stO v.kids)) (decide ((k:Int)<(v.kids.length:Int))=true/\0<=(k:Int)/\(k:Int)<(v.kids.length:Int)/\0+Int.toNat (k:Int)*2+2<=length (Aa (map eV v.kids))/\take 2 (List.drop (0+Int.toNat (k:Int)*2) (Aa (map eV v.kids)))=[di x.n,dVs x.kids]/\F0 25 [dV x] (dV x)/\0<=(k:Int)/\(k:Int)<(v.kids.length:Int)/\0+Int.toNat (k:Int)*2+2<=length (Aa (map eV v.kids))/\di (wrap i64 ((k:Int)+1))=di (↑(k+1):Int)/\okH 2 [] [some [di 0,dn],some (take (0+Int.toNat (k:Int)*2) (Aa (map eV v.kids))++[di x.n,dVs x.kids]++List.drop (0+Int.toNat (k:Int)*2+2) (Aa (map eV v.kids)))]=true/\[some [di 0,dn],some (take (0+Int.toNat (k:Int)*2) (Aa (map eV v.kids))++[di x.n,dVs x.kids]++List.drop (0+Int.toNat (k:Int)*2+2) (Aa (map eV v.kids)))]=[some [di 0,dn],some (Aa (map eV v.kids))]/\I0 fOwn 0 (dV v) σ0 [kl cOwn [1,1,0,1,0,0],KI.blk 0,kc cOwn [1,1,1]] (mkE 26 [(1,D.v (V.ref (Ad v))),(2,D.ptr 0 0),(3,D.arr 1 0 v.kids.length),(9,D.arr 1 0 v.kids.length),(10,di (v.kids.length:Int)),(11,di (↑(k+1):Int))]) (stO v.kids)) ?_
  have hk2:k<v.kids.length:=(List.getElem?_eq_some_iff.1 hx).1
  have e0:0+Int.toNat (k:Int)*2=k*2:=by omega
  have hl:k*2+2<=(Aa (v.kids.map eV)).length:=by rw[BO];omega
  rw[e0]
  refine⟨decide_eq_true (by omega),by omega,by omega,hl,flatV_at hx,hk x (mem_of_getElem? hx),by omega,by omega,hl,Af (by have:=Val.length_le v.kids;have:=v.size_eq;omega),?_,?_,⟨ih (k+1) (by omega)⟩⟩
  ·rw[flatV_put hx];simp[okH,D.okNs,D.okN,Ag]
  ·rw[flatV_put hx]
theorem EF(N:Nat):∀v:Val,v.size<=N->v.size<=1000000->Ab PP 25 [dV v] σ0 (dV v) σ0:=by
 induction N with
 |zero=>intro v h;have:=v.size_pos;omega
 |succ N ih=>
 intro v hN hv
 have hs:=v.size_eq
 have hl:=Val.length_le v.kids
 by_cases h:v.kids=[]
 ·refine sv fOwn 26 [1] (.c (dVs [])<|.n<|.f .r) (F0 43 [dVs v.kids] (dVs [])/\decide (0<(length (map eV []):Int))=false/\D.v (V.agg [vi v.n,V.list []])=dV v) ?_
  refine⟨?_,rfl,?_⟩
  ·rw[h];exact cloV_nil
  ·rw[show dV v=D.v (.agg [vi v.n,vVs v.kids]) from rfl,h];rfl
 ·refine sv fOwn 26 [1] (.h (.q 1 2)<|.h (.oc (.arr 1 0 v.kids.length) (stO v.kids))<|.lo [ke 1,ke 2,ke 3,ke 9,ke 10,ch 11 (di (0:Nat))] (stO v.kids)) ((∀(o:Oper) (c:Call) (fo:Operand),o.op=Op.call c->c.callee=Callee.value fo->Ai PP o [D.v (V.fn 43 [] []),dVs v.kids] (St.mk [some [di 0,dn]] []) (D.arr 1 0 v.kids.length) (stO v.kids))/\di 0=di (↑0:Int)/\okH 2 [] [some [di 0,dn],some (Aa (map eV v.kids))]=true/\Q [some [di 0,dn],some (Aa (map eV v.kids))]/\I0 fOwn σ0.H.length (dV v) σ0 [kl cOwn [1,1,0,1,0,0],KI.blk 0,kc cOwn [1,1,1]] (mkE 26 [(1,D.v (V.ref (Ad v))),(2,D.ptr 0 0),(3,D.arr 1 0 v.kids.length),(9,D.arr 1 0 v.kids.length),(10,di (v.kids.length:Int)),(11,di (↑0:Int))]) (stO v.kids)) ?_
  refine⟨fun o c fo ho hc=>?_,rfl,by simp[okH,D.okNs,D.okN,Ag],rfl,⟨own_loop v hv (fun x hx=>?_) _ 0 rfl⟩⟩
  ·exact DJ (σ:=⟨[some [di 0,.v .nils]],[]⟩) (fs:=[]) (cs:=[]) (ds:=[dVs v.kids]) ho hc rfl (Hc:=[none,some (Aa (v.kids.map eV))]) (j:=1) rfl (As _) (cloVA_spec v.kids (by omega) h)
  ·have:=Val.size_mem hx
   exact ih x (by omega) (by omega)
noncomputable abbrev fAll:Func:= Tryz.f30
noncomputable def cAll:Code:=fAll.body.getD .skip
abbrev ownV(l:List Val):St:=⟨[],[(1,2,l.map eV)]⟩
theorem all_loop(l:List Val)(hl:l.length<=100000)(hs:∀v∈l,v.size<=1000000)(n:Nat):∀k:Nat,l.length-k=n->
  Rn PP fAll 0 (.acc 1 (l.map eV)) (ownV l) ([.lp (sub cAll [1,1,0,1,0,0]),.blk 0,.code (sub cAll [1,1,1])]++[]) (mkE 22 [(3,.acc 1 ((l.take k).map eV)),(9,dVs l),(10,di l.length),(11,di k)]) (ownV (l.take k)):=by
 induction n with
 |zero=>
  intro k hn
  refine lv 22 [] (.f .r) (decide ((k:Int)<(l.length:Int))=false/\[(1,2,map eV (take k l))]=[(1,2,map eV l)]/\D.acc 1 (map eV (take k l))=D.acc 1 (map eV l)) ?_
  rw[take_of_length_le (by omega)]
  exact⟨decide_eq_false (by omega),rfl,rfl⟩
 |succ n ih=>
  intro k hn
  obtain⟨x,hx⟩:∃x,l[k]?=some x:=⟨_,getElem?_eq_getElem (show k<l.length by omega)⟩
  refine lv 22 [] (.t<|.h (.xs (Ad x))<|.c (dV x)<|.ls [ch 3 (.acc 1 ((l.take (k+1)).map eV)),ke 9,ke 10,ch 11 (di (k+1:Nat))] (ownV (l.take (k+1)))) (decide ((k:Int)<(l.length:Int))=true/\Q 2/\0<=(k:Int)/\(map eV l)[Int.toNat (k:Int)]?=some (Ad x)/\F0 25 [dV x] (dV x)/\Q (map eV (take k l))/\Ar (length (map eV (take k l))+length (Ad x::nV)) 32/\D.acc 1 (map eV (take k l)++[Ad x])=D.acc 1 (map eV (take (k+1) l))/\di (wrap i64 ((k:Int)+1))=di (↑(k+1):Int)/\[(1,2,map eV (take k l)++Ad x::nV)]=[(1,2,map eV (take (k+1) l))]/\I0 fAll 0 (D.acc 1 (map eV l)) (ownV l) [kl cAll [1,1,0,1,0,0],KI.blk 0,kc cAll [1,1,1]] (mkE 22 [(3,D.acc 1 (map eV (take (k+1) l))),(9,dVs l),(10,di (l.length:Int)),(11,di (↑(k+1):Int))]) (ownV (take (k+1) l))) ?_
  have hk:=(List.getElem?_eq_some_iff.1 hx).1
  have ht:l.take (k+1)=l.take k++[x]:=by rw[take_add_one,hx];rfl
  have hxs:=hs x (mem_of_getElem? hx)
  refine⟨decide_eq_true (by omega),rfl,by omega,Az hx,EF _ x (Nat.le_refl _) hxs,rfl,⟨?_,?_⟩,?_,Af (by omega),?_,⟨ih (k+1) (by omega)⟩⟩
  ·simp only[length_map,length_take,length_cons,length_nil];omega
  ·simp only[length_map,length_take,length_cons,length_nil];omega
  ·rw[BE, ←ht]
  ·rw[ht, ←BE]
theorem all_spec(l:List Val)(hl:l.length<=100000)(hs:∀v∈l,v.size<=1000000):Ab PP 30 [dVs l] σ0 (.acc 1 (l.map eV)) (ownV l):=by
 refine sv fAll 22 [] (.a 1<|.ls [ke 3,ke 9,ch 10 (di l.length),ch 11 (di (0:Nat))] (ownV [])) (iz 0=0/\0<=(length (map eV l):Int)/\(32:Int)*(length (map eV l):Int)<=281474976710656/\(length (map eV l):Int)<=9223372036854775807/\di (length (map eV l):Int)=di (l.length:Int)/\di 0=di (↑0:Int)/\Q [(1,2,nV)]/\I0 fAll σ0.H.length (D.acc 1 (map eV l)) (ownV l) [kl cAll [1,1,0,1,0,0],KI.blk 0,kc cAll [1,1,1]] (mkE 22 [(3,D.acc 1 []),(9,dVs l),(10,di (l.length:Int)),(11,di (↑0:Int))]) (ownV [])) ?_
 refine⟨rfl,by omega,by rw[length_map];omega,by rw[length_map];omega,by rw[length_map],rfl,rfl,⟨?_⟩⟩
 have:=all_loop l hl hs _ 0 rfl
 simpa using this
def Fw(n:Nat):List D:=(replicate n [vi 0,V.nils]).flatten.map .v
theorem zerV_len(n:Nat):(Fw n).length=n*2:=by rw[Fw,length_map,DW];rfl
theorem zerV_drop(n:Nat):(Fw (n+1)).drop 2=Fw n:=rfl
theorem okNs_zerV(n:Nat)(ts:List Nat)(k:Nat):D.okNs n ts (Fw k)=true:=by
 unfold Fw
 induction (replicate k [vi 0,V.nils]).flatten with
 |nil=>rfl
 |cons x l ih=>simp only[map_cons,D.okNs,D.okN,ih,Bool.true_and]
theorem okNs_app{n:Nat}{ts:List Nat}:∀{a b:List D},D.okNs n ts a=true->D.okNs n ts b=true->D.okNs n ts (a++b)=true
 |[],b,_,h=>h
 |x::a,b,h1,h2=>by
  simp only[cons_append,D.okNs,Bool.and_eq_true] at h1⊢
  exact⟨h1.1,okNs_app h1.2 h2⟩
abbrev stZ(l:List Val)(k:Nat):St:=⟨[some (Aa ((l.take k).map eV)++Fw (l.length-k))],[]⟩
theorem allA_loop(l:List Val)(hl:l.length<=100000)(hs:∀v∈l,v.size<=1000000)(n:Nat):∀k:Nat,l.length-k=n->k<=l.length->
  Rn PP fAll 0 (.arr 0 0 l.length) ⟨[some (Aa (l.map eV))],[]⟩ ([.lp (sub cAll [1,1,0,1,0,0]),.blk 0,.code (sub cAll [1,1,1])]++[]) (mkE 22 [(3,.gro 0 k 2),(9,dVs l),(10,di l.length),(11,di k)]) (stZ l k):=by
 induction n with
 |zero=>
  intro k hn hkl
  refine lv 22 [] (.f<|.h (.q 7 0)<|.h (.ga 3) .ro) (decide ((k:Int)<(l.length:Int))=false/\okH 1 [] [some (Aa (map eV (take k l))++Fw (length l-k))]=true/\[some (Aa (map eV (take k l))++Fw (length l-k))]=[some (Aa (map eV l))]/\D.arr 0 0 k=D.arr 0 0 l.length) ?_
  have e:Aa ((l.take k).map eV)++Fw (l.length-k)=Aa (l.map eV):=by
   rw[take_of_length_le (by omega),show l.length-k=0 by omega];simp[Fw]
  have e2:k=l.length:=by omega
  rw[e]
  exact⟨decide_eq_false (by omega),Bool.and_eq_true_iff.2 ⟨Ag 1 [] _,rfl⟩,rfl,by rw[e2]⟩
 |succ n ih=>
  intro k hn hkl
  obtain⟨x,hx⟩:∃x,l[k]?=some x:=⟨_,getElem?_eq_getElem (show k<l.length by omega)⟩
  refine lv 22 [] (.t<|.h (.xs (Ad x))<|.c (dV x)<|.w<|.lo [ch 3 (.gro 0 (k+1) 2),ke 9,ke 10,ch 11 (di (k+1:Nat))] (stZ l (k+1))) (decide ((k:Int)<(l.length:Int))=true/\Q 2/\0<=(k:Int)/\(map eV l)[Int.toNat (k:Int)]?=some (Ad x)/\F0 25 [dV x] (dV x)/\(k+length (Ad x::nV))*2<=length (Aa (map eV (take k l))++Fw (length l-k))/\[Ad x]≠ []/\(∀(y:V),y∈ [Ad x]->V.size y=2)/\D.gro 0 (k+length (Ad x::nV)) 2=D.gro 0 (k+1) 2/\di (wrap i64 ((k:Int)+1))=di (↑(k+1):Int)/\okH 1 [] [some (take (k*2) (Aa (map eV (take k l))++Fw (length l-k))++[di x.n,dVs x.kids]++List.drop (k*2+length (Aa [Ad x])) (Aa (map eV (take k l))++Fw (length l-k)))]=true/\[some (take (k*2) (Aa (map eV (take k l))++Fw (length l-k))++[di x.n,dVs x.kids]++List.drop (k*2+length (Aa (Ad x::nV))) (Aa (map eV (take k l))++Fw (length l-k)))]=[some (Aa (map eV (take (k+1) l))++Fw (length l- (k+1)))]/\I0 fAll 0 (D.arr 0 0 l.length) (St.mk [some (Aa (map eV l))] []) [kl cAll [1,1,0,1,0,0],KI.blk 0,kc cAll [1,1,1]] (mkE 22 [(3,D.gro 0 (k+1) 2),(9,dVs l),(10,di (l.length:Int)),(11,di (↑(k+1):Int))]) (stZ l (k+1))) ?_
  have hk:=(List.getElem?_eq_some_iff.1 hx).1
  have ht:l.take (k+1)=l.take k++[x]:=by rw[take_add_one,hx];rfl
  have hxs:=hs x (mem_of_getElem? hx)
  have hfl:(Aa ((l.take k).map eV)).length=k*2:=by rw[BO,length_take];omega
  have e:take (k*2) (Aa ((l.take k).map eV)++Fw (l.length-k))++[di x.n,D.v (vVs x.kids)]++List.drop (k*2+2) (Aa ((l.take k).map eV)++Fw (l.length-k))=Aa ((l.take (k+1)).map eV)++Fw (l.length- (k+1)):=by
   rw[List.take_left' hfl, ←List.drop_drop,List.drop_left' hfl,show l.length-k=(l.length- (k+1))+1 by omega,zerV_drop,ht,FE,A5,append_assoc,append_assoc]
   rfl
  have e2:(Aa [Ad x]).length=2:=rfl
  rw[e2,e]
  refine⟨decide_eq_true (by omega),rfl,by omega,Az hx,EF _ x (Nat.le_refl _) hxs,?_,by simp,fun y hy=>by rw[mem_singleton.1 hy];rfl,rfl,Af (by omega),?_,?_,⟨ih (k+1) (by omega) (by omega)⟩⟩
  ·rw[length_append,hfl,zerV_len];simp;omega
  ·simp only[okH,Bool.and_true];exact okNs_app (Ag _ _ _) (okNs_zerV _ _ _)
  ·rfl
theorem allA_spec(l:List Val)(hl:l.length<=100000)(hs:∀v∈l,v.size<=1000000):Ab PP 30 [dVs l] σ0 (.arr 0 0 l.length) ⟨[some (Aa (l.map eV))],[]⟩:=by
 refine sv fAll 22 [] (.h .g<|.lo [ke 3,ke 9,ch 10 (di l.length),ch 11 (di (0:Nat))] (stZ l 0)) (iz 0=0/\0<=(length (map eV l):Int)/\(32:Int)*(length (map eV l):Int)<=281474976710656/\(length (map eV l):Int)<=9223372036854775807/\di (length (map eV l):Int)=di (l.length:Int)/\di 0=di (↑0:Int)/\okH 1 [] [some (map D.v (flatten (replicate (Int.toNat (length (map eV l):Int)) [vi 0,V.nils])))]=true/\[some (map D.v (flatten (replicate (Int.toNat (length (map eV l):Int)) (vi 0::V.nils::nV))))]=[some ([]++Fw (length l-0))]/\I0 fAll σ0.H.length (D.arr 0 0 l.length) (St.mk [some (Aa (map eV l))] []) [kl cAll [1,1,0,1,0,0],KI.blk 0,kc cAll [1,1,1]] (mkE 22 [(3,D.gro 0 0 2),(9,dVs l),(10,di (l.length:Int)),(11,di (↑0:Int))]) (stZ l 0)) ?_
 refine⟨rfl,by omega,by rw[length_map];omega,by rw[length_map];omega,by rw[length_map],rfl,?_,?_,⟨allA_loop l hl hs _ 0 rfl (by omega)⟩⟩
 ·rw[length_map];exact Bool.and_eq_true_iff.2 ⟨okNs_zerV 1 [] _,rfl⟩
 ·rw[length_map];rfl
noncomputable abbrev fSIdx:Func:= Tryz.f47
noncomputable abbrev fSIdx1:Func:= Tryz.f65
theorem sidx1_spec(x v:Val)(hx:x.size<=1000000):Ab PP 65 [dV x,.v (.ref (Ad v))] σ0 (db (Av x v==0)) σ0:=by
 refine sv fSIdx1 7 [2] (.c (db (Av x v==0)) .r) (F0 27 [dV x,dV v] (db (Av x v==0))/\Q (db (Av x v==0))) ?_
 exact⟨EA x v hx,rfl⟩
def F2(l:List Val)(v:Val):Int:=ixM (fun x=>Av x v==0) l 0
theorem sidx_spec(l:List Val)(hl:l.length<=1000000)(hs:∀v∈l,v.size<=1000000)(v:Val):Ab PP 47 [dVs l,dV v] σ0 (di (F2 l v)) σ0:=by
 refine sv fSIdx 8 [3] (.c (di (F2 l v)) .r) (F0 64 [dVs l,D.v (V.fn 65 [] [V.ref (Ad v)])] (di (F2 l v))/\Q (di (F2 l v))) ?_
 exact⟨ixV_spec _ [] [_] _ l hl fun x hx=>sidx1_spec x v (hs x hx),rfl⟩
end Go.Proofs.YtcjhkglbdahfgaaGreat
