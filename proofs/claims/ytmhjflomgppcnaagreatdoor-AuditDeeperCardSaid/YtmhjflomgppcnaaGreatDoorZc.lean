/-
  A part of the proof.
-/
import Derived.Test.YtmhjflomgppcnaaGreatDoorZb
import Derived.WideLaws
import Derived.Test.YtmhjflomgppcnaaGreatDoorProg
import Derived.KernelRfl
namespace Go.Nv
open Go.Dv
open List (map_map nil_append replicate)
open Go.IntKind (wrap i64 u64)
inductive Kd where
 |pure
 |load (q off n:Nat)
 |eff
noncomputable def B5(τ:St)(q off n:Nat):Option (List D):=match τ.H[q]? with
 |some (some cs)=>cond (Nat.ble (off+n) cs.length) (some ((cs.drop off).take n)) none
 |_=>none
theorem EB{τ:St}{q off n:Nat}{l:List D}(h:B5 τ q off n=some l):∃cs,τ.H[q]?=some (some cs)/\off+n<=cs.length/\(cs.drop off).take n=l:=by
 unfold B5 at h
 split at h
 ·rename_i cs hcs
  cases hb:Nat.ble (off+n) cs.length with
  |false=>rw[hb] at h;simp at h
  |true=>rw[hb] at h;simp at h;exact⟨cs,hcs,HX hb,h⟩
 ·simp at h
theorem Gw{τ:St}{q off n:Nat}{cs:List D}(h:τ.H[q]?=some (some cs))(hl:off+n<=cs.length):B5 τ q off n=some ((cs.drop off).take n):=by
 unfold B5
 rw[h]
 simp only[Nat.ble_eq_true_of_le hl,cond_true]
def AhK(P:Program)(o:Oper)(ds:List D)(σ:St)(d:D)(σ':St):Kd->Prop
 |.pure=>σ'=σ/\∀τ,Ah P o ds τ d τ
 |.load q off n=>σ'=σ/\(B5 σ q off n).isSome=true/\∀τ,B5 τ q off n=B5 σ q off n->Ah P o ds τ d τ
 |.eff=>Ah P o ds σ d σ'
theorem AhK.op{P:Program}{o:Oper}{ds:List D}{σ σ':St}{d:D}{kd:Kd}(h:AhK P o ds σ d σ' kd):Ah P o ds σ d σ':=by
 cases kd with
 |pure=>obtain⟨rfl,h⟩:=h;exact h _
 |load q off n=>obtain⟨rfl,_,h⟩:=h;exact h _ rfl
 |eff=>exact h
abbrev KO:=Sc->D->St->Kd->Prop
def VOK(P:Program)(o:Oper)(ds:List D)(σ:St)(K:KO):Prop:=∃s d σ' kd,K s d σ' kd/\AhK P o ds σ d σ' kd
def Ajj(l:List Nat)(t:Nat):Bool:=l.any (Nat.beq t)
noncomputable def DQ(own:List (Nat×Nat×List V))(k:Nat):Bool:=own.all fun x=> !Nat.beq x.1 k
theorem Cw{own:List (Nat×Nat×List V)}{k:Nat}(h:DQ own k=true):∀x∈own,x.1≠k:=fun x hx e=>by
 have:=Ip.1 h x hx
 rw[e,Nat.beq_refl] at this;simp at this
noncomputable def AfI{β:Type}(own:List (Nat×Nat×List V))(k sz:Nat)(zs:List V)(K:List (Nat×Nat×List V)->β):β:=
 List.rec (motive:=fun _=>(List (Nat×Nat×List V)->β)->β) (fun K=>K []) (fun x _ ih K=>ih fun r=>Bool.rec (K (x::r)) (K ((k,sz,zs)::r)) (Nat.beq x.1 k)) own K
theorem PR{β:Type}(k sz:Nat)(zs:List V):∀(own:List (Nat×Nat×List V)) (K:List (Nat×Nat×List V)->β),AfI own k sz zs K=K (own.map (Ft k sz zs))
 |[],_=>rfl
 |x::own,K=>by
  have h:AfI (x::own) k sz zs K=AfI own k sz zs fun r=>Bool.rec (K (x::r)) (K ((k,sz,zs)::r)) (Nat.beq x.1 k):=rfl
  rw[h,PR k sz zs own]
  simp only[HU,Ft]
  by_cases e:x.1=k
  ·rw[HP e,e,Nat.beq_refl]
  ·rw[HL e,show Nat.beq x.1 k=false from by cases h:Nat.beq x.1 k with|false=>rfl|true=>exact absurd (HS h) e]
noncomputable def Oy(own:List (Nat×Nat×List V))(k:Nat):Option (Nat×List V):=
 List.rec none (fun x _ ih=>Bool.rec ih (some x.2) (Nat.beq x.1 k)) own
theorem LX{k:Nat}{p:Nat×List V}:∀{own:List (Nat×Nat×List V)},Oy own k=some p->(k,p.1,p.2)∈own
 |[],h=>by have:Oy [] k=none:=rfl;rw[this] at h;simp at h
 |x::l,h=>by
  have e:Oy (x::l) k=Bool.rec (Oy l k) (some x.2) (Nat.beq x.1 k):=rfl
  rw[e] at h
  cases hb:Nat.beq x.1 k with
  |false=>rw[hb] at h;exact List.mem_cons_of_mem _ (LX h)
  |true=>
   rw[hb] at h
   have:=HS hb;subst this
   simp at h;subst h;simp
abbrev Ar(n by':Nat):Prop:=n*by'<=140737488355328/\n<=140737488355328
section
variable {P : Program} {o : Oper} {σ : St}
theorem Jp{x y:Operand}{t:TypeId}(ho:o.op=.call { callee:=.builtin .append,args:= #[x,y],argTypes:= #[t,t]}){e:TypeId}{sz by':Nat}{z:Value}(hs:BP P t=some (e,sz,by',some z))(hzc:z.cells.size=sz)
  (k:Nat) (hk:∀x∈σ.own,x.1≠k) (h0:0<sz) {ys:List V} (hsy:∀y∈ys,y.size=sz) (hlen:ys.length*by'<=140737488355328) (hlen2:ys.length<=140737488355328):
  Ah P o [.v .nils,.v (.list ys)] σ (.acc k ys) ⟨σ.H,(k,sz,ys)::σ.own⟩:=by
 intro E g a w K Q hw hds hK
 simp only[ho,Op.operands,Call.operands] at hds
 obtain⟨u,v,eq,h1,h2⟩:=Ao.1 (by simpa using hds)
 simp only[HH,Ih] at eq
 simp only[Ae,Cq] at h1 h2
 subst h1
 obtain⟨hw1,hle1⟩:=hw.addOwn (k:=k) (sz:=sz) (xs:=[]) (u:=.slice none 0 0) hk ⟨h0,by simp⟩ (Dw _) (.inl ⟨none,rfl⟩) (fun b hb=>by simp[BZ] at hb)
 obtain⟨u',w',g',hrun,hw',hle,hr⟩:=LH (P:=P) (ty:=o.type) hw1 hs hzc (k:=k) (xs:=[]) (by simp) hsy (by simpa using hlen) (by simpa using hlen2) (u:=.slice none 0 0) (by simp) (h2.mono hle1.M)
 have hown:σ.own.map (Ft k sz ys)=σ.own:=by
  conv=>rhs;rw[←List.map_id σ.own]
  exact List.map_congr_left fun x hx=>by simp[Ft,hk x hx]
 simp only[nil_append,HU,hown] at hw' hr
 have e1:Ft k sz ys (k,sz,[])=(k,sz,ys):=by simp[Ft]
 rw[e1] at hw'
 have:=hK g' w' u' hw' (Gh.le_trans hle1 hle) hr
 unfold Oper.wp execOp
 simp only[ho,resolve,invoke,builtin,Sem.run_bind,Sem.run_pure,Result.andThen_ok,List.map_toArray,HU,I1,eq.1,eq.2,hrun]
 exact this
theorem Ll{t:TypeId}{parts:Array (Nat×Operand)}(ho:o.op=.buildSlice t 0 parts)(hp:parts= #[]){e:TypeId}{sz by':Nat}{z:Option Value}(hs:BP P t=some (e,sz,by',z))(hsz:0<sz)(k:Nat)(hk:∀x∈σ.own,x.1≠k):
  Ah P o [] σ (.acc k []) ⟨σ.H,(k,sz,[])::σ.own⟩:=by
 intro E g a w K Q hw hds hK
 obtain⟨i,hu,hi,rfl,rfl,rfl⟩:=AA hs
 subst hp
 have hw1:=hw.alloc (.cells #[] e (0,0))
 obtain⟨hw2,hle2⟩:=hw1.addOwn (k:=k) (sz:=i.size) (xs:=[]) (u:=.slice (some ⟨w.heap.size,0,none⟩) 0 0) hk ⟨hsz,by simp⟩ (by rw[AU];exact⟨_,0,rfl,HB _,.inl rfl⟩) (.inl ⟨_,rfl⟩) (fun b hb=>by simp[BZ] at hb)
 have:=hK _ _ (.slice (some ⟨w.heap.size,0,none⟩) 0 0) hw2 hle2 (by simp only[Ae];exact⟨by rw[AU];exact⟨_,0,rfl,HB _,.inl rfl⟩,by simp⟩)
 unfold Oper.wp execOp
 simpa[ho,Instr.buildSlice,run_underlying hu,sizeOf,typeInfo,hi,Instr.fill,newRow,Oper.upon,show Array.range 0= #[] from rfl] using this
end
noncomputable def AcZ(P:Program)(t:TypeId)(q off:Nat)(σ:St)(s:Sc)(K:KO):Prop:=match Df P t with
 |some (1,false)=>(match s with
  |.h (.m d) s=>(match σ.H[q]? with
   |some (some cs)=>cs[off]?=some d/\K s d σ (.load q off 1)
   |_=>False)
  |s=>(match σ.H[q]? with
   |some (some cs)=>(match cs[off]? with
    |some d=>K s d σ (.load q off 1)
    |none=>False)
   |_=>False))
 |some (n,true)=>(match s with
  |.h (.m (.dagg ds)) s=>(match σ.H[q]? with
   |some (some cs)=>off+n<=cs.length/\(cs.drop off).take n=ds/\K s (.dagg ds) σ (.load q off n)
   |_=>False)
  |.h (.m (.v (.agg xs))) s=>(match σ.H[q]? with
   |some (some cs)=>off+n<=cs.length/\(cs.drop off).take n=xs.map .v/\K s (.v (.agg xs)) σ (.load q off n)
   |_=>False)
  |s=>match σ.H[q]? with
  |some (some cs)=>cond (Nat.ble (off+n) cs.length) (match CQ ((cs.drop off).take n) with
   |some xs=>K s (.v (.agg xs)) σ (.load q off n)
   |none=>False) False
  |_=>False)
 |_=>False
theorem N2{cs:List D}{off:Nat}{d:D}(h:cs[off]?=some d):off+1<=cs.length/\(cs.drop off).take 1=[d]:=by
 have hlt:=(H7.1 h).1
 refine⟨hlt,?_⟩
 rw[HJ hlt,List.take_succ_cons,List.take_zero,(H7.1 h).2]
theorem R8{P:Program}{o:Oper}{σ:St}{t:TypeId}{a:Operand}(ho:o.op=.load t a)(ht:Df P t=some (1,false)){q off:Nat}{cs:List D}{d:D}(hq:σ.H[q]?=some (some cs))(hd:cs[off]?=some d):
  AhK P o [.ptr q off] σ d σ (.load q off 1):=by
 obtain⟨h1,h2⟩:=N2 hd
 have hc:=Gw hq h1
 refine⟨rfl,by rw[hc];rfl,fun τ hτ=>?_⟩
 rw[hc,h2] at hτ
 obtain⟨cs',h3,h4,h5⟩:=EB hτ
 refine Wl ho ht h3 ?_
 have:((cs'.drop off).take 1)[0]?=some d:=by rw[h5];rfl
 simpa using this
theorem YP{P:Program}{t:TypeId}{q off:Nat}{σ:St}{s:Sc}{K:KO}(h:AcZ P t q off σ s K){o:Oper}{a:Operand}(ho:o.op=.load t a):VOK P o [.ptr q off] σ K:=by
 unfold AcZ at h
 split at h
 ·rename_i ht
  split at h
  ·split at h
   ·rename_i cs hq;exact⟨_,_,_,_,h.2,R8 ho ht hq h.1⟩
   ·exact h.elim
  ·split at h
   ·rename_i cs hq
    split at h
    ·rename_i d hd;exact⟨_,_,_,_,h,R8 ho ht hq hd⟩
    ·exact h.elim
   ·exact h.elim
 ·rename_i n ht
  split at h
  ·split at h
   ·rename_i cs hq
    obtain⟨hl,hd,h2⟩:=h
    have hc:=Gw hq hl
    refine⟨_,_,_,_,h2,rfl,by rw[hc];rfl,fun τ hτ=>?_⟩
    rw[hc] at hτ
    obtain⟨cs',h3,h4,h5⟩:=EB hτ
    exact Wj ho ht h3 h4 (by rw[h5];exact hd)
   ·exact h.elim
  ·split at h
   ·rename_i cs hq
    obtain⟨hl,hd,h2⟩:=h
    have hc:=Gw hq hl
    refine⟨_,_,_,_,h2,rfl,by rw[hc];rfl,fun τ hτ=>?_⟩
    rw[hc] at hτ
    obtain⟨cs',h3,h4,h5⟩:=EB hτ
    exact O6 ho ht h3 h4 (by rw[h5,hd];exact F4 _)
   ·exact h.elim
  split at h
  ·rename_i cs hq
   obtain⟨h1,h2⟩:=An h
   split at h2
   ·rename_i xs hx
    have hl:=HX h1
    have hc:=Gw hq hl
    refine⟨_,_,_,_,h2,rfl,by rw[hc];rfl,fun τ hτ=>?_⟩
    rw[hc] at hτ
    obtain⟨cs',h3,h4,h5⟩:=EB hτ
    exact O6 ho ht h3 h4 (by rw[h5];exact F5 hx)
   ·exact h2.elim
  ·exact h.elim
 ·exact h.elim
noncomputable def U3(P:Program)(t:TypeId)(q off:Nat)(d:D)(σ:St)(s:Sc)(K:KO):Prop:=match Df P t with
 |some (1,false)=>(match σ.H[q]? with
  |some (some cs)=>cond d.one (match s with
   |.h .w s=>off<cs.length/\Cx σ.H q (some (cs.set off d)) fun H=>K s .undef ⟨H,σ.own⟩ .eff
   |s=>cond (Nat.blt off cs.length) (Cx cs off d fun cs=>Cx σ.H q (some cs) fun H=>K s .undef ⟨H,σ.own⟩ .eff) False) False
  |_=>False)
 |some (n,true)=>(match σ.H[q]? with
  |some (some cs)=>(match s with
   |.h .ww s=>cond (d.sto&&Nat.beq (BQ d).length n) (off+n<=cs.length/\Cx σ.H q (some (cs.take off++BQ d++cs.drop (off+n))) fun H=>K s .undef ⟨H,σ.own⟩ .eff) False
   |s=>cond (d.sto&&Nat.beq (BQ d).length n&&Nat.ble (off+n) cs.length) (AQ (cs.take off++BQ d++cs.drop (off+n)) fun cs=>Cx σ.H q (some cs) fun H=>K s .undef ⟨H,σ.own⟩ .eff) False)
  |_=>False)
 |_=>False
theorem U2{P:Program}{t:TypeId}{q off:Nat}{d:D}{σ:St}{s:Sc}{K:KO}(h:U3 P t q off d σ s K){o:Oper}{a b:Operand}(ho:o.op=.store t a b):VOK P o [.ptr q off,d] σ K:=by
 unfold U3 at h
 split at h
 ·rename_i ht
  split at h
  ·rename_i cs hq
   obtain⟨h1,h2⟩:=An h
   split at h2
   ·rw[AY] at h2
    exact⟨_,_,_,_,h2.2,O2 ho h1 ht hq h2.1⟩
   ·obtain⟨h3,h4⟩:=An h2
    rw[AY,AY] at h4
    exact⟨_,_,_,_,h4,O2 ho h1 ht hq (HX h3)⟩
  ·exact h.elim
 ·rename_i n ht
  split at h
  ·rename_i cs hq
   split at h
   ·obtain⟨h1,h2,h3⟩:=An h
    simp only[H5] at h1
    rw[AY] at h3
    exact⟨_,_,_,_,h3,MN ho h1.1 ht (HS h1.2) hq h2⟩
   obtain⟨h1,h2⟩:=An h
   simp only[H5] at h1
   rw[AM,AY] at h2
   exact⟨_,_,_,_,h2,MN ho h1.1.1 ht (HS h1.1.2) hq (HX h1.2)⟩
  ·exact h.elim
 ·exact h.elim
structure Akn(H H':List (Option (List D)))(q:Nat)(l:List D):Prop where
 eq:H'=H.set q none++[some l]
noncomputable def AhX(P:Program)(t:TypeId)(x y:D)(σ:St)(s:Sc)(K:KO):Prop:=match BP P t,y with
 |some (_,sz,by',some z),.v (.list ys)=>cond (Nat.beq z.cells.size sz&&Nat.blt 0 sz) (match x with
  |.acc k xs=>(match Oy σ.own k with
   |some (sz',xs')=>cond (Nat.beq sz' sz) (xs'=xs/\Ar (xs.length+ys.length) by'/\(match s with
    |.h .w s=>(∀y∈ys,y.size=sz)/\AfI σ.own k sz (xs++ys) fun own=>K s (.acc k (xs++ys)) ⟨σ.H,own⟩ .eff
    |s=>cond (XY sz ys) (AfI σ.own k sz (xs++ys) fun own=>K s (.acc k (xs++ys)) ⟨σ.H,own⟩ .eff) False)) False
   |none=>False)
  |.v .nils=>(match s with
   |.h (.a k) (.h .w s)=>cond (DQ σ.own k) (Ar ys.length by'/\(∀y∈ys,y.size=sz)/\K s (.acc k ys) ⟨σ.H,(k,sz,ys)::σ.own⟩ .eff) False
   |.h (.a k) s=>cond (DQ σ.own k&&XY sz ys) (Ar ys.length by'/\K s (.acc k ys) ⟨σ.H,(k,sz,ys)::σ.own⟩ .eff) False
   |.h (.gx _ H') s=>ys≠ []/\(∀y∈ys,y.size=sz)/\Ar ys.length by'/\H'=σ.H++[some (Ab ys)]/\K s (.gro σ.H.length ys.length sz) ⟨H',σ.own⟩ .eff
   |.h .g s=>ys≠ []/\(∀y∈ys,y.size=sz)/\Ar ys.length by'/\AF σ.H (some (Ab ys)) fun H=>K s (.gro σ.H.length ys.length sz) ⟨H,σ.own⟩ .eff
   |_=>False)
  |.gro q len sz'=>(match s with
   |.h (.gx cs H') s=>cond (Nat.beq sz' sz) (σ.H[q]?=some (some cs)/\cs.length=len*sz/\ys≠ []/\(∀y∈ys,y.size=sz)/\Ar (len+ys.length) by'/\Akn σ.H H' q (cs++Ab ys)/\K s (.gro σ.H.length (len+ys.length) sz) ⟨H',σ.own⟩ .eff) False
   |.h .w s=>(match σ.H[q]? with
    |some (some cs)=>cond (Nat.beq sz' sz) ((len+ys.length)*sz<=cs.length/\ys≠ []/\(∀y∈ys,y.size=sz)/\Cx σ.H q (some (cs.take (len*sz)++Ab ys++cs.drop (len*sz+(Ab ys).length))) fun H=>K s (.gro q (len+ys.length) sz) ⟨H,σ.own⟩ .eff) False
    |_=>False)
   |s=>match σ.H[q]? with
   |some (some cs)=>cond (Nat.beq sz' sz) (cs.length=len*sz/\ys≠ []/\(∀y∈ys,y.size=sz)/\Ar (len+ys.length) by'/\Cx σ.H q none fun H=>AF H (some (cs++Ab ys)) fun H=>K s (.gro σ.H.length (len+ys.length) sz) ⟨H,σ.own⟩ .eff) False
   |_=>False)
  |_=>False) False
 |_,_=>False
theorem Adc{P:Program}{t:TypeId}{x y:D}{σ:St}{s:Sc}{K:KO}(h:AhX P t x y σ s K){o:Oper}{a b:Operand}(ho:o.op=.call { callee:=.builtin .append,args:= #[a,b],argTypes:= #[t,t]}):VOK P o [x,y] σ K:=by
 unfold AhX at h
 split at h
 ·rename_i e sz by' z ys hs
  obtain⟨h1,h2⟩:=An h
  simp only[H5] at h1
  have hz:=HS h1.1
  have hp:=HX h1.2
  split at h2
  ·rename_i k xs
   split at h2
   ·rename_i sz' xs' hg
    obtain⟨h3,rfl,h4,h5⟩:=An h2
    have:=HS h3;subst this
    have hm:=LX hg
    split at h5
    ·rw[PR] at h5
     exact⟨_,_,_,_,h5.2,O8 ho hs hz hm h5.1 h4.1 h4.2⟩
    ·obtain⟨h6,h7⟩:=An h5
     rw[PR] at h7
     exact⟨_,_,_,_,h7,O8 ho hs hz hm (KA h6) h4.1 h4.2⟩
   ·exact h2.elim
  ·split at h2
   ·obtain⟨h3,h4,h5,h6⟩:=An h2
    exact⟨_,_,_,_,h6,Jp ho hs hz _ (Cw h3) hp h5 h4.1 h4.2⟩
   ·obtain⟨h3,h4,h5⟩:=An h2
    rw[H5] at h3
    exact⟨_,_,_,_,h5,Jp ho hs hz _ (Cw h3.1) hp (KA h3.2) h4.1 h4.2⟩
   ·obtain⟨h3,h4,h5,rfl,h6⟩:=h2
    exact⟨_,_,_,_,h6,JR ho hs hz hp h4 h3 h5.1 h5.2⟩
   ·obtain⟨h3,h4,h5,h6⟩:=h2
    rw[AE] at h6
    exact⟨_,_,_,_,h6,JR ho hs hz hp h4 h3 h5.1 h5.2⟩
   ·exact h2.elim
  ·rename_i q len sz'
   split at h2
   ·obtain⟨h3,hq,h4,h5,h6,h7,h9,h8⟩:=An h2
    have:=HS h3;subst this
    have e:=h9.eq;subst e
    exact⟨_,_,_,_,h8,Lm ho hs hz hp hq h4 h6 h5 h7.1 h7.2⟩
   ·split at h2
    ·rename_i cs hq
     obtain⟨h3,h4,h5,h6,h7⟩:=An h2
     have:=HS h3;subst this
     rw[AY] at h7
     exact⟨_,_,_,_,h7,PV ho hs hp hq h4 h6 h5⟩
    ·exact h2.elim
   split at h2
   ·rename_i cs hq
    obtain⟨h3,h4,h5,h6,h7,h8⟩:=An h2
    have:=HS h3;subst this
    rw[AY,AE] at h8
    exact⟨_,_,_,_,h8,Lm ho hs hz hp hq h4 h6 h5 h7.1 h7.2⟩
   ·exact h2.elim
  ·exact h2.elim
 ·exact h.elim
noncomputable def AcY(P:Program)(t:TypeId)(k1 k2:IntKind)(a b:Int)(σ:St)(s:Sc)(K:KO):Prop:=match BP P t with
 |some (_,sz,by',some z)=>(match s with
  |.h (.a k) s=>cond (Nat.blt 0 sz&&DQ σ.own k) (a=0/\0<=b/\(by':Int)*b<=281474976710656/\b<=9223372036854775807/\K s (.acc k []) ⟨σ.H,(k,sz,[])::σ.own⟩ .eff) False
  |.h .g s=>(match EA z.cells.toList with
   |some zs=>cond (Nat.beq z.cells.size sz) (a=0/\0<=b/\(by':Int)*b<=281474976710656/\b<=9223372036854775807/\AF σ.H (some ((replicate b.toNat zs).flatten.map .v)) fun H=>K s (.gro σ.H.length 0 sz) ⟨H,σ.own⟩ .eff) False
   |none=>False)
  |s=>(match Pf z with
   |some zv=>cond (Nat.beq sz 1) (a=b/\0<=b/\(by':Int)*b<=281474976710656/\b<=9223372036854775807/\AF σ.H (some (replicate b.toNat (.v zv))) fun H=>K s (.arr σ.H.length 0 b.toNat) ⟨H,σ.own⟩ .eff) False
   |none=>False))
 |_=>False
theorem YO{P:Program}{t:TypeId}{k1 k2:IntKind}{a b:Int}{σ:St}{s:Sc}{K:KO}(h:AcY P t k1 k2 a b σ s K){o:Oper}{x y:Operand}(ho:o.op=.makeSlice t x y):VOK P o [.v (.int k1 a),.v (.int k2 b)] σ K:=by
 unfold AcY at h
 split at h
 ·rename_i e sz by' z hs
  split at h
  ·obtain⟨h1,rfl,h2,h3,h4,h5⟩:=An h
   rw[H5] at h1
   exact⟨_,_,_,_,h5,Aac ho hs (HX h1.1) _ (Cw h1.2) h2 h3 h4⟩
  ·split at h
   ·rename_i zs hzs
    obtain⟨h1,rfl,h2,h3,h4,h5⟩:=An h
    rw[AE] at h5
    exact⟨_,_,_,_,h5,Aaa ho hs hzs (HS h1) h2 h3 h4⟩
   ·exact h.elim
  ·split at h
   ·rename_i zv hzv
    obtain⟨h1,rfl,h2,h3,h4,h5⟩:=An h
    have:=HS h1;subst this
    rw[AE] at h5
    exact⟨_,_,_,_,h5,Aab ho hs hzv h2 h3 h4⟩
   ·exact h.elim
 ·exact h.elim
def qOf:List D->Option Nat
 |[]=>none
 |.ptr q _::_=>some q
 |.arr q _ _::_=>some q
 |_::ds=>qOf ds
noncomputable def Pj(q:Nat):List D->Option (List D)
 |[]=>some []
 |.ptr q' off::ds=>cond (Nat.beq q' q) (match Pj q ds with
  |some dc=>some (.ptr 0 off::dc)
  |none=>none) none
 |.arr q' off len::ds=>cond (Nat.beq q' q) (match Pj q ds with
  |some dc=>some (.arr 0 off len::dc)
  |none=>none) none
 |d::ds=>cond d.pl (match Pj q ds with
  |some dc=>some (d::dc)
  |none=>none) none
theorem L5{α:Type}{b:Bool}{x:Option α}{r:α}(h:cond b x none=some r):b=true/\x=some r:=by cases b<;>simp_all
theorem Hi{q:Nat}:∀{ds dc:List D},Pj q ds=some dc->Er q ds dc
 |[],dc,h=>by simp[Pj] at h;subst h;exact .nil
 |d::ds,dc,h=>by
  unfold Pj at h
  split at h
  ·rename_i e;simp at e
  ·rename_i q' off ds' e;simp only[HH] at e;obtain⟨rfl,rfl⟩:=e
   obtain⟨h1,h2⟩:=L5 h
   have:=HS h1;subst this
   split at h2
   ·rename_i dc' hd;simp at h2;subst h2;exact .ptr (Hi hd)
   ·simp at h2
  ·rename_i q' off len ds' e;simp only[HH] at e;obtain⟨rfl,rfl⟩:=e
   obtain⟨h1,h2⟩:=L5 h
   have:=HS h1;subst this
   split at h2
   ·rename_i dc' hd;simp at h2;subst h2;exact .arr (Hi hd)
   ·simp at h2
  ·rename_i d' ds' _ _ e;simp only[HH] at e;obtain⟨rfl,rfl⟩:=e
   obtain⟨h1,h2⟩:=L5 h
   split at h2
   ·rename_i dc' hd;simp at h2;subst h2;exact .pl h1 (Hi hd)
   ·simp at h2
noncomputable def UJ(P:Program)(f:FuncId)(fs cs:List V)(ds:List D)(σ:St)(s:Sc)(K:KO):Prop:=match s with
 |.h (.ck k k' sz xs) s=>cond (DQ σ.own k) (match M9 ds with
  |some ys=>Aa P f ((fs++ys++cs).map .v) ⟨[],[]⟩ (.acc k' xs) ⟨[],[(k',sz,xs)]⟩/\K s (.acc k xs) ⟨σ.H,(k,sz,xs)::σ.own⟩ .eff
  |none=>False) False
 |.h (.ckn k k' sz xs) s=>cond (DQ σ.own k) (match CQ ds with
  |some ys=>Aa P f ((fs++ys++cs).map .v) ⟨[],[]⟩ (.acc k' xs) ⟨[],[(k',sz,xs)]⟩/\K s (.acc k xs) ⟨σ.H,(k,sz,xs)::σ.own⟩ .eff
  |none=>False) False
 |.h (.cj j Hc os len) s=>(match M9 ds,Hc[j]? with
  |some ys,some (some os')=>cond (D.pls os') (os=os'/\Aa P f ((fs++ys++cs).map .v) ⟨[],[]⟩ (.arr j 0 len) ⟨Hc,[]⟩/\AF σ.H (some os') fun H=>K s (.arr σ.H.length 0 len) ⟨H,σ.own⟩ .eff) False
  |_,_=>False)
 |.h (.c1 os' d) s=>(match qOf ds with
  |some q=>(match σ.H[q]?,Pj q (ds.map D.un) with
   |some (some os),some dc=>cond (D.pls os&&D.pls os'&&d.pl) (Aa P f (fs.map .v++dc++cs.map .v) ⟨[some os],[]⟩ d ⟨[some os'],[]⟩/\Cx σ.H q (some os') fun H=>K s d ⟨H,σ.own⟩ .eff) False
   |_,_=>False)
  |none=>False)
 |.h (.c1k k k' sz os' xs) s=>(match qOf ds with
  |some q=>(match σ.H[q]?,Pj q (ds.map D.un) with
   |some (some os),some dc=>cond (D.pls os&&D.pls os'&&DQ σ.own k) (Aa P f (fs.map .v++dc++cs.map .v) ⟨[some os],[]⟩ (.acc k' xs) ⟨[some os'],[(k',sz,xs)]⟩/\Cx σ.H q (some os') fun H=>K s (.acc k xs) ⟨H,(k,sz,xs)::σ.own⟩ .eff) False
   |_,_=>False)
  |none=>False)
 |s=>YN P {(default:Oper) with op:=.call { callee:=.value (.func f),args:= #[],argTypes:= #[]}} (.v (.fn f fs cs)::ds.map D.un) s fun s d=>K s d σ .pure
theorem UI{P:Program}{f:FuncId}{fs cs:List V}{ds:List D}{σ:St}{s:Sc}{K:KO}(h:UJ P f fs cs ds σ s K){o:Oper}{c:Call}{fo:Operand}(ho:o.op=.call c)(hc:c.callee=.value fo):VOK P o (.v (.fn f fs cs)::ds) σ K:=by
 unfold UJ at h
 split at h
 ·obtain⟨h1,h2⟩:=An h
  split at h2
  ·rename_i ys hy
   refine⟨_,_,_,_,h2.2,B3 (fun g us hr=>?_) (JQ (ds:=ys.map .v) ho hc (BT ys) _ (Cw h1) (by simpa[IJ] using h2.1))⟩
   simp only[Ac] at hr⊢
   obtain⟨u,us',e,h3,h4⟩:=hr
   exact⟨u,us',e,h3,EE hy h4⟩
  ·exact h2.elim
 ·obtain⟨h1,h2⟩:=An h
  split at h2
  ·rename_i ys hy
   refine⟨_,_,_,_,h2.2,B3 (fun g us hr=>?_) (JQ (ds:=ys.map .v) ho hc (BT ys) _ (Cw h1) (by simpa[IJ] using h2.1))⟩
   simp only[Ac] at hr⊢
   obtain⟨u,us',e,h3,h4⟩:=hr
   exact⟨u,us',e,h3,KK hy h4⟩
  ·exact h2.elim
 ·split at h
  ·rename_i ys os' hy hj
   obtain⟨h1,_,h2,h3⟩:=An h
   rw[AE] at h3
   refine⟨_,_,_,_,h3,B3 (fun g us hr=>?_) (DY (ds:=ys.map .v) ho hc (BT ys) hj h1 (by simpa[IJ] using h2))⟩
   simp only[Ac] at hr⊢
   obtain⟨u,us',e,h3,h4⟩:=hr
   exact⟨u,us',e,h3,EE hy h4⟩
  ·exact h.elim
 ·split at h
  ·rename_i q hq
   split at h
   ·rename_i os dc hos hdc
    obtain⟨h1,h2,h3⟩:=An h
    simp only[H5] at h1
    rw[AY] at h3
    refine⟨_,_,_,_,h3,B3 (fun g us hr=>?_) (MR (ds:=ds.map D.un) ho hc hos h1.1.1 h1.1.2 (Hi hdc) h1.2 h2)⟩
    simp only[Ac] at hr⊢
    obtain⟨u,us',e,h3,h4⟩:=hr
    exact⟨u,us',e,h3,GL h4⟩
   ·exact h.elim
  ·exact h.elim
 ·split at h
  ·rename_i q hq
   split at h
   ·rename_i os dc hos hdc
    obtain⟨h1,h2,h3⟩:=An h
    simp only[H5] at h1
    rw[AY] at h3
    refine⟨_,_,_,_,h3,B3 (fun g us hr=>?_) (O7 (ds:=ds.map D.un) ho hc hos h1.1.1 h1.1.2 (Hi hdc) _ (Cw h1.2) h2)⟩
    simp only[Ac] at hr⊢
    obtain⟨u,us',e,h3,h4⟩:=hr
    exact⟨u,us',e,h3,GL h4⟩
   ·exact h.elim
  ·exact h.elim
 ·have h':YS P f fs cs (ds.map D.un) _ (fun s d=>K s d σ .pure):=h
  obtain⟨s',d,h1,h2⟩:=QH h' ho hc
  refine⟨_,_,_,_,h1,rfl,fun τ=>B3 (fun g us hr=>?_) (h2 τ)⟩
  simp only[Ac] at hr⊢
  obtain⟨u,us',e,h3,h4⟩:=hr
  exact⟨u,us',e,h3,GL h4⟩
noncomputable def P8(P:Program)(t:TypeId)(len:Nat)(ps:List (Nat×Operand))(ds:List D)(k:Nat)(σ:St)(s:Sc)(K:KO):Prop:=match BP P t with
 |some (_,sz,_,z)=>cond (DQ σ.own k&&Nat.blt 0 sz) (match len with
  |0=>(match ps,ds with
   |[],[]=>K s (.acc k []) ⟨σ.H,(k,sz,[])::σ.own⟩ .eff
   |_,_=>False)
  |len+1=>(match CQ ds with
   |some xs=>cond (AfA ps 0&&Nat.beq ps.length (len+1)&&z.isSome&&Nat.ble ((len+1)*sz) 1000&&XY sz xs) (K s (.acc k xs) ⟨σ.H,(k,sz,xs)::σ.own⟩ .eff) False
   |none=>False)) False
 |none=>False
theorem S5{P:Program}{t:TypeId}{len:Nat}{ps:Array (Nat×Operand)}{ds:List D}{k:Nat}{σ:St}{s:Sc}{K:KO}(h:P8 P t len ps.toList ds k σ s K){o:Oper}(ho:o.op=.buildSlice t len ps):VOK P o ds σ K:=by
 unfold P8 at h
 split at h
 ·rename_i e sz by' z hs
  obtain⟨h1,h2⟩:=An h
  rw[H5] at h1
  have hp:=HX h1.2
  split at h2
  ·split at h2
   ·rename_i hps
    exact⟨_,_,_,_,h2,Ll ho (by apply I6;simpa using hps) hs hp _ (Cw h1.1)⟩
   ·exact h2.elim
  ·rename_i len
   split at h2
   ·rename_i xs hx
    obtain⟨h3,h4⟩:=An h2
    simp only[H5] at h3
    obtain⟨⟨⟨⟨g1,g2⟩,g3⟩,g5⟩,g6⟩:=h3
    have hl:ps.size=len+1:=by have:=HS g2;simpa using this
    exact⟨_,_,_,_,h4,GR ho (PJ g1) hl hs g3 (F5 hx) (KA g6) (by omega) hp (by simpa using g5) _ (Cw h1.1)⟩
   ·exact h2.elim
 ·exact h.elim
noncomputable def vP(P:Program)(o:Oper)(ds:List D)(σ:St)(s:Sc)(K:KO):Prop:=YN P o (ds.map D.un) s fun s d=>K s d σ .pure
theorem P5{P:Program}{o:Oper}{ds:List D}{σ:St}{s:Sc}{K:KO}(h:vP P o ds σ s K):VOK P o ds σ K:=by
 obtain⟨s',d,h1,h2⟩:=YM h
 exact⟨_,_,_,_,h1,rfl,fun τ=>PW (h2 τ)⟩
noncomputable def Add(P:Program)(t tn:TypeId)(n:Int)(σ:St)(s:Sc)(K:KO):Prop:=match BP P t,P.underlying tn with
 |some (_,sz,by',some z),some (.int _)=>cond (Nat.beq z.cells.size sz&&Nat.blt 0 sz) (0<n/\Ar n.toNat by'/\AF σ.H (some []) fun H=>K s (.gro σ.H.length n.toNat sz) ⟨H,σ.own⟩ .eff) False
 |_,_=>False
theorem YU{P:Program}{t tn:TypeId}{kd:IntKind}{n:Int}{σ:St}{s:Sc}{K:KO}(h:Add P t tn n σ s K){o:Oper}{a b:Operand}(ho:o.op=.call { callee:=.builtin .append,args:= #[a,b],argTypes:= #[t,tn]}):VOK P o [.v .nils,.v (.int kd n)] σ K:=by
 unfold Add at h
 split at h
 ·rename_i e sz by' z k hs hu
  obtain⟨h1,h2,h3,h4⟩:=An h
  rw[H5] at h1
  rw[AE] at h4
  exact⟨_,_,_,_,h4,Ta ho hs (HS h1.1) (HX h1.2) hu h2 h3.1 h3.2⟩
 ·exact h.elim
noncomputable def Ajf(P:Program)(t:TypeId)(s:Sc)(σ:St)(K:KO):Prop:=match P.underlying t with
 |some (.slice _)=>K s (.v (.int .i64 0)) σ .pure
 |_=>False
noncomputable def Ah7(P:Program)(t:TypeId)(x:D)(i:Int)(σ:St)(s:Sc)(K:KO):Prop:=match x with
 |.v .nils=>(match P.underlying t with
  |some (.slice e)=>(match P.info? e with
   |some _=>i=0/\K s (.v .nils) σ .pure
   |none=>False)
  |_=>False)
 |.gro q _ sz=>(match s,BP P t,σ.H[q]? with
  |.h (.a k) s,some (_,sz',_,_),some (some _)=>cond (Nat.beq sz' sz&&Nat.blt 0 sz&&DQ σ.own k) (i=0/\Cx σ.H q none fun H=>K s (.acc k []) ⟨H,(k,sz,[])::σ.own⟩ .eff) False
  |_,_,_=>False)
 |_=>False
theorem U7{P:Program}{t:TypeId}{x:D}{kd:IntKind}{i:Int}{σ:St}{s:Sc}{K:KO}(h:Ah7 P t x i σ s K){o:Oper}{a b:Operand}(ho:o.op=.slice t a none (some b) none):VOK P o [x,.v (.int kd i)] σ K:=by
 unfold Ah7 at h
 split at h
 ·split at h
  ·rename_i e hu
   split at h
   ·rename_i inf hi
    obtain⟨rfl,h⟩:=h
    exact⟨_,_,_,_,h,rfl,fun τ=>O3 ho hu hi⟩
   ·exact h.elim
  ·exact h.elim
 ·rename_i q len sz
  split at h
  ·rename_i k s' e sz' by' z cs hs hq
   obtain⟨h1,rfl,h2⟩:=An h
   simp only[H5] at h1
   have:=HS h1.1.1;subst this
   rw[AY] at h2
   exact⟨_,_,_,_,h2,SX ho hs (HX h1.1.2) hq _ (Cw h1.2)⟩
  ·exact h.elim
 ·exact h.elim
section
variable {P : Program} {o : Oper} {σ : St}
theorem Cy{t:TypeId}{x:Operand}{lo hi:Option Operand}(ho:o.op=.slice t x lo hi none){e:TypeId}{sz by':Nat}{z:Option Value}(hs:BP P t=some (e,sz,by',z)){q off len:Nat}
  (l h:Option (IntKind×Int)) (hlo:lo.isSome=l.isSome) (hhi:hi.isSome=h.isSome) {l' h':Nat} (hb:BD len (l.map (·.2)) (h.map (·.2))=some (l',h')) (hlt:l'<len):
  Ah P o (.arr q off len::(DV l++DV h)) σ (.arr q (off+l'*sz) (h'-l')) σ:=by
 refine Az fun E g ρ w hw hds=>?_
 obtain⟨i,hu,hi',hsz,_,_⟩:=AA hs
 have hb2:=hb
 unfold BD at hb2
 simp only at hb2
 split at hb2
 case isFalse=>simp at hb2
 rename_i hcond
 simp only[Ia,Prod.mk.injEq] at hb2
 have main:∀u (lv hv:Option Value),ρ x=u->lv=l.map (fun p=>Value.int p.1 p.2)->hv=h.map (fun p=>Value.int p.1 p.2)->lo.map ρ=lv->hi.map ρ=hv->Ae g (.arr q off len) u->
   ∃u,(execOp ρ o).run P w=.ok (.value u) w/\Ae g (.arr q (off+l'*sz) (h'-l')) u:=by
  intro u lv hv eu el eh e1 e2 hr
  simp only[Ae] at hr⊢
  obtain⟨hq,cap,hc,rfl⟩:=hr
  refine⟨.slice (some ⟨g.β q,off+l'*sz,none⟩) (h'-l') (cap-l'),?_,hq,cap-l',by omega,rfl⟩
  have hbr:=DI (P:=P) w true len cap hc l h hb
  simp only[execOp,ho,eu,e1,e2,el,eh,IZ,Instr.sliceAt,Instr.slice,Sem.run_bind,run_underlying hu,Result.andThen_ok,hbr]
  simp[sizeOf,typeInfo,hi',hsz,show ¬cap=l' by omega,Addr.add_lit]
 simp only[ho,Op.operands] at hds
 cases lo with
 |none=>
  cases l with
  |some _=>simp at hlo
  |none=>
   cases hi with
   |none=>
    cases h with
    |some _=>simp at hhi
    |none=>
     obtain⟨u,eu,h1⟩:=A2.1 (by simpa[DV] using hds)
     simp at eu
     exact main u none none eu rfl rfl rfl rfl h1
   |some ho'=>
    cases h with
    |none=>simp at hhi
    |some p=>
     obtain⟨u,v,eu,h1,h2⟩:=Ao.1 (by simpa[DV] using hds)
     simp only[HH,Ih] at eu
     simp only[Ae,A5] at h2
     exact main u none _ eu.1 rfl (by simp;rfl) rfl (by simp[eu.2,h2]) h1
 |some lo'=>
  cases l with
  |none=>simp at hlo
  |some lq=>
   cases hi with
   |none=>
    cases h with
    |some _=>simp at hhi
    |none=>
     obtain⟨u,v,eu,h1,h2⟩:=Ao.1 (by simpa[DV] using hds)
     simp only[HH,Ih] at eu
     simp only[Ae,A5] at h2
     exact main u _ none eu.1 (by simp;rfl) rfl (by simp[eu.2,h2]) rfl h1
   |some ho'=>
    cases h with
    |none=>simp at hhi
    |some p=>
     obtain⟨u,v,v2,eu,h1,h2,h3⟩:=Eg.1 (by simpa[DV] using hds)
     simp only[HH,Ih] at eu
     simp only[Ae,A5] at h2 h3
     exact main u _ _ eu.1 (by simp;rfl) (by simp;rfl) (by simp[eu.2.1,h2]) (by simp[eu.2.2,h3]) h1
end
noncomputable def Ah6(P:Program)(t:TypeId)(q off n:Nat)(i:Int)(σ:St)(s:Sc)(K:KO):Prop:=match BP P t with
 |some (_,sz,_,_)=>0<=i/\i<(n:Int)/\K s (.arr q (off+i.toNat*sz) (n-i.toNat)) σ .pure
 |none=>False
theorem U6{P:Program}{t:TypeId}{q off n:Nat}{kd:IntKind}{i:Int}{σ:St}{s:Sc}{K:KO}(h:Ah6 P t q off n i σ s K){o:Oper}{a b:Operand}(ho:o.op=.slice t a (some b) none none):VOK P o [.arr q off n,.v (.int kd i)] σ K:=by
 unfold Ah6 at h
 split at h
 ·rename_i e sz by' z hs
  obtain⟨h1,h2,h3⟩:=h
  refine⟨_,_,_,_,h3,rfl,fun τ=>?_⟩
  have hb:BD n ((some (kd,i)).map (·.2)) ((none:Option (IntKind×Int)).map (·.2))=some (i.toNat,n):=by
   simp only[I4,IZ,BD,IT,Option.getD_none]
   rw[HP (by omega)]
   simp
  have:=Cy (σ:=τ) (q:=q) (off:=off) ho hs (some (kd,i)) none rfl rfl hb (by omega)
  simpa[DV] using this
 ·exact h.elim
theorem Ado{g:Gh}{q n sz:Nat}{u:Value}(h:Ae g (.gro q n sz) u):Ae g (.arr q 0 n) u:=by
 simp only[Ae] at h⊢
 obtain⟨h1,cap,h2,_,h3⟩:=h
 exact⟨h1,cap,h2,h3⟩
theorem AcV{P:Program}{q n sz:Nat}{ds:List D}{o:Oper}{σ:St}{K:KO}(h:VOK P o (.arr q 0 n::ds) σ K):VOK P o (.gro q n sz::ds) σ K:=by
 have hsub:∀g us,Ac g (.gro q n sz::ds) us->Ac g (.arr q 0 n::ds) us:=fun g us hr=>by
  simp only[Ac] at hr⊢
  obtain⟨u,us',e,h1,h2⟩:=hr
  exact⟨u,us',e,Ado h1,h2⟩
 obtain⟨s',d,σ',kd,h5,h6⟩:=h
 refine⟨s',d,σ',kd,h5,?_⟩
 cases kd with
 |pure=>exact⟨h6.1,fun τ=>B3 hsub (h6.2 τ)⟩
 |load q off n=>exact⟨h6.1,h6.2.1,fun τ hτ=>B3 hsub (h6.2.2 τ hτ)⟩
 |eff=>exact B3 hsub h6
noncomputable def Ah8(P:Program)(im:List Nat)(o:Oper)(ds:List D)(σ:St)(s:Sc)(K:KO):Prop:=match s with
 |.h (.o d σ') s=>Ah P o ds σ d σ'/\K s d σ' .eff
 |.h (.p d) s=>(∀τ,Ah P o ds τ d τ)/\K s d σ .pure
 |s=>match o.op with
  |.move _=>(match ds with
   |[d]=>K s d σ .pure
   |_=>False)
  |.assign _=>(match ds with
   |[d]=>K s d σ .pure
   |_=>False)
  |.pick _ _ _=>(match ds with
   |[.v (.bool b),d1,d2]=>Bool.rec (K s d2 σ .pure) (K s d1 σ .pure) b
   |_=>False)
  |.box _ _=>(match ds,o.dst with
   |[d],some t=>Bool.rec (cond d.sto (AQ (BQ d) fun cs=>AF σ.H (some cs) fun H=>K s (.ptr σ.H.length 0) ⟨H,σ.own⟩ .eff) False) (match d.toV with
    |some y=>K s (.v (.ref y)) σ .pure
    |none=>False) (Ajj im t)
   |_,_=>False)
  |.alloc e=>(match ds,M3 P e with
   |[],some xs=>AQ (xs.map .v) fun cs=>AF σ.H (some cs) fun H=>K s (.ptr σ.H.length 0) ⟨H,σ.own⟩ .eff
   |_,_=>False)
  |.store t _ _=>(match ds with
   |[.ptr q off,d]=>U3 P t q off d σ s K
   |_=>False)
  |.load t _=>(match ds with
   |[.ptr q off]=>AcZ P t q off σ s K
   |ds=>vP P o ds σ s K)
  |.makeSlice t _ _=>(match ds with
   |[.v (.int k1 a),.v (.int k2 b)]=>AcY P t k1 k2 a b σ s K
   |_=>False)
  |.build t ps=>(match s with
   |.h .g s=>cond (Nr P t) (match TS P t,Acf ps.toList ds with
    |some (z,places),some xs=>(match Ts places (z.map .v) xs with
     |some out=>AQ out fun out=>K s (.dagg out) σ .pure
     |none=>False)
    |_,_=>False) False
   |s=>vP P o ds σ s K)
  |.buildSlice t len ps=>(match s with
   |.h (.a k) s=>P8 P t len ps.toList ds k σ s K
   |.h .g s=>(match len,ps.toList,ds,BP P t with
    |0,[],[],some (_,sz,_,_)=>AF σ.H (some []) fun H=>K s (.gro σ.H.length 0 sz) ⟨H,σ.own⟩ .eff
    |_,_,_,_=>False)
   |s=>vP P o ds σ s K)
  |.slice t _ none (some _) none=>(match ds with
   |[.v .nils,.v (.int _ i)]=>Ah7 P t (.v .nils) i σ s K
   |[.gro q n sz,.v (.int _ i)]=>Ah7 P t (.gro q n sz) i σ s K
   |ds=>vP P o ds σ s K)
  |.slice t _ (some _) none none=>(match ds with
   |[.gro q n _,.v (.int _ i)]=>Ah6 P t q 0 n i σ s K
   |[.arr q off n,.v (.int _ i)]=>Ah6 P t q off n i σ s K
   |ds=>vP P o ds σ s K)
  |.call c=>(match c.callee,ds with
   |.builtin .append,[.v .nils,.v (.int _ n)]=>(match c.args.toList,c.argTypes.toList with
    |[_,_],[t,t']=>Add P t t' n σ s K
    |_,_=>False)
   |.builtin .append,[x,y]=>(match c.args.toList,c.argTypes.toList with
    |[_,_],[t,t']=>cond (Nat.beq t t') (AhX P t x y.un σ s K) False
    |_,_=>False)
   |.builtin .cap,[.v .nils]=>(match c.args.toList,c.argTypes.toList with
    |[_],[t]=>Ajf P t s σ K
    |_,_=>False)
   |.value _,.v (.fn f fs cs)::ds=>UJ P f fs cs ds σ s K
   |_,ds=>vP P o ds σ s K)
  |_=>vP P o ds σ s K
theorem U9{P:Program}{im:List Nat}{o:Oper}{ds:List D}{σ:St}{s:Sc}{K:KO}(h:Ah8 P im o ds σ s K):VOK P o ds σ K:=by
 unfold Ah8 at h
 split at h
 ·exact⟨_,_,_,_,h.2,h.1⟩
 ·exact⟨_,_,_,_,h.2,rfl,h.1⟩
 ·split at h
  ·rename_i x ho
   split at h
   ·exact⟨_,_,_,_,h,rfl,fun τ=>MP ho⟩
   ·exact h.elim
  ·rename_i x ho
   split at h
   ·exact⟨_,_,_,_,h,rfl,fun τ=>Jo ho⟩
   ·exact h.elim
  ·rename_i x y z ho
   split at h
   ·rename_i b d1 d2
    cases b
    ·exact⟨_,_,_,_,h,rfl,fun τ=>PT ho (b:=false)⟩
    ·exact⟨_,_,_,_,h,rfl,fun τ=>PT ho (b:=true)⟩
   ·exact h.elim
  ·rename_i e x ho
   split at h
   ·rename_i d t _
    cases hm:Ajj im t with
    |false=>
     rw[hm] at h
     obtain⟨h1,h2⟩:=An h
     rw[AM,AE] at h2
     exact⟨_,_,_,_,h2,AfQ ho h1⟩
    |true=>
     rw[hm] at h
     simp only at h
     split at h
     ·rename_i y hy;exact⟨_,_,_,_,h,rfl,fun τ=>Ad7 ho hy⟩
     ·exact h.elim
   ·exact h.elim
  ·rename_i e ho
   split at h
   ·rename_i xs hz
    rw[AM,AE] at h
    exact⟨_,_,_,_,h,O9 ho hz⟩
   ·exact h.elim
  ·rename_i t x y ho
   split at h
   ·exact U2 h ho
   ·exact h.elim
  ·rename_i t x ho
   split at h
   ·exact YP h ho
   ·exact P5 h
  ·rename_i t x y ho
   split at h
   ·exact YO h ho
   ·exact h.elim
  ·rename_i t ps ho
   split at h
   ·obtain⟨hst,h⟩:=An h
    split at h
    ·rename_i z places xs hb hx
     split at h
     ·rename_i out hf
      rw[AM] at h
      exact⟨_,_,_,_,h,rfl,fun τ=>Wv ho hst hb hx hf⟩
     ·exact h.elim
    ·exact h.elim
   ·exact P5 h
  ·rename_i t len ps ho
   split at h
   ·exact S5 h ho
   ·split at h
    ·have hps:ps.toList=[]:=by assumption
     have hs:=(by assumption:BP P t=_)
     rw[AE] at h
     exact⟨_,_,_,_,h,Lj ho (by apply I6;simpa using hps) hs⟩
    ·exact h.elim
   ·exact P5 h
  ·rename_i t a b ho
   split at h
   ·exact U7 h ho
   ·exact U7 h ho
   ·exact P5 h
  ·rename_i t a b ho
   split at h
   ·exact AcV (U6 h ho)
   ·exact U6 h ho
   ·exact P5 h
  ·rename_i c ho
   have mk2:∀{b:Builtin} {x y:Operand} {t t':TypeId},c.callee=.builtin b->c.args.toList=[x,y]->c.argTypes.toList=[t,t']->o.op=.call { callee:=.builtin b,args:= #[x,y],argTypes:= #[t,t']}:=by
    intro b x y t t' hc h1 h2
    rw[ho];cases c;simp only at hc h1 h2;subst hc
    congr 2
    ·apply I6;simpa using h1
    ·apply I6;simpa using h2
   split at h
   ·rename_i kd n hc
    split at h
    ·rename_i a b t t' h1 h2;exact YU h (mk2 hc h1 h2)
    ·exact h.elim
   ·rename_i x y _ hc
    split at h
    ·rename_i a b t t' h1 h2
     obtain⟨h3,h4⟩:=An h
     have:=HS h3;subst this
     have hoo:o.op=.call { callee:=.builtin .append,args:= #[a,b],argTypes:= #[t,t]}:=by
      rw[ho];cases c;simp only at hc h1 h2;subst hc
      congr 2
      ·apply I6;simpa using h1
      ·apply I6;simpa using h2
     obtain⟨s',d,σ',kd,h5,h6⟩:=Adc h4 hoo
     have hsub:∀g us,Ac g [x,y] us->Ac g [x,y.un] us:=fun g us hr=>by
      rw[Ao] at hr⊢
      obtain⟨u,v,e,h1,h2⟩:=hr
      exact⟨u,v,e,h1,KW h2⟩
     refine⟨s',d,σ',kd,h5,?_⟩
     cases kd with
     |pure=>exact⟨h6.1,fun τ=>B3 hsub (h6.2 τ)⟩
     |load q off n=>exact⟨h6.1,h6.2.1,fun τ hτ=>B3 hsub (h6.2.2 τ hτ)⟩
     |eff=>exact B3 hsub h6
    ·exact h.elim
   ·rename_i hc
    split at h
    ·rename_i x t h1 h2
     unfold Ajf at h
     split at h
     ·rename_i e hu
      refine⟨_,_,_,_,h,rfl,fun τ=>SZ (x:=x) (t:=t) ?_ hu⟩
      rw[ho];cases c;simp only at hc h1 h2;subst hc
      congr 2
      ·apply I6;simpa using h1
      ·apply I6;simpa using h2
     ·exact h.elim
    ·exact h.elim
   ·rename_i fo f fs cs ds hc;exact UI h ho hc
   ·exact P5 h
  ·exact P5 h
def ocQ:Op->Bool
 |.call c=>(match c.callee with|.value _=>true|_=>false)
 |_=>false
theorem AfT{o:Op}(h:ocQ o=true):∃(c:Call) (fo:Operand),o=.call c/\c.callee=.value fo:=by
 cases o<;>simp only[ocQ] at h<;>try (simp at h;done)
 rename_i c
 split at h
 ·rename_i fo hc;exact⟨c,fo,rfl,hc⟩
 ·simp at h
noncomputable def vOp(P:Program)(im:List Nat)(o:Oper)(ds:List D)(σ:St)(s:Sc)(K:KO):Prop:=match s with
 |.h (.oc d σ') s'=>Bool.rec (Ah8 P im o ds σ (.h (.oc d σ') s') K) ((∀(o:Oper) (c:Call) (fo:Operand),o.op=.call c->c.callee=.value fo->Ah P o ds σ d σ')/\K s' d σ' .eff) (ocQ o.op)
 |s=>Ah8 P im o ds σ s K
theorem Cp{P:Program}{im:List Nat}{o:Oper}{ds:List D}{σ:St}{s:Sc}{K:KO}(h:vOp P im o ds σ s K):VOK P o ds σ K:=by
 unfold vOp at h
 split at h
 ·rename_i d σ' s'
  cases hq:ocQ o.op with
  |true=>
   rw[hq] at h
   obtain⟨h1,h2⟩:=(h:(∀(o:Oper) (c:Call) (fo:Operand),o.op=.call c->c.callee=.value fo->Ah P o ds σ d σ')/\K s' d σ' .eff)
   obtain⟨c,fo,e1,e2⟩:=AfT hq
   exact⟨_,_,_,_,h2,h1 _ _ _ e1 e2⟩
  |false=>
   rw[hq] at h
   exact U9 h
 ·exact U9 h
abbrev shG(g:Gh)(m:Nat)(ts:List Nat):Gh:={ g with n:=m,ι:=fun k j=>if ts.contains k then g.ι k j else none }
mutual
theorem MI{g:Gh}{m:Nat}{ts:List Nat}:∀(d:D) (u:Value),d.okN m ts=true->Ae g d u->Ae (shG g m ts) d u
 |.v x,u,_,h=>by simpa only[Ae] using h
 |.acc k xs,u,hk,h=>by
  simp only[D.okN] at hk
  simp only[Ae] at h⊢
  exact⟨h.1,by rw[HP hk];exact h.2⟩
 |.ptr o f,u,hk,h=>by
  simp only[D.okN,HE] at hk
  simp only[Ae] at h⊢
  exact⟨hk,h.2⟩
 |.arr o f l,u,hk,h=>by
  simp only[D.okN,HE] at hk
  simp only[Ae] at h⊢
  exact⟨hk,h.2⟩
 |.gro o f l,u,hk,h=>by
  simp only[D.okN,HE] at hk
  simp only[Ae] at h⊢
  exact⟨hk,h.2⟩
 |.raw x,u,_,h=>by simpa only[Ae] using h
 |.err,u,_,h=>by simpa only[Ae] using h
 |.rv x u0,u,_,h=>by simpa only[Ae] using h
 |.dagg cs,u,hk,h=>by
  simp only[D.okN] at hk
  simp only[Ae] at h⊢
  obtain⟨us,e,h1⟩:=h
  exact⟨us,e,Dz cs us hk h1⟩
 |.dfn f fs cs,u,hk,h=>by
  simp only[D.okN,H5] at hk
  simp only[Ae] at h⊢
  obtain⟨us,vs,e,h1,h2⟩:=h
  exact⟨us,vs,e,Dz fs us hk.1 h1,Dz cs vs hk.2 h2⟩
 |.tup ds,u,hk,h=>by
  simp only[D.okN] at hk
  simp only[Ae] at h⊢
  obtain⟨us,e,h1⟩:=h
  exact⟨us,e,Dz ds us hk h1⟩
 |.undef,u,_,_=>by simp only[Ae]
theorem Dz{g:Gh}{m:Nat}{ts:List Nat}:∀(ds:List D) (us:List Value),D.okNs m ts ds=true->Ac g ds us->Ac (shG g m ts) ds us
 |[],us,_,h=>by simpa only[Ac] using h
 |d::ds,us,hk,h=>by
  simp only[D.okNs,H5] at hk
  simp only[Ac] at h⊢
  obtain⟨u,us',e,h1,h2⟩:=h
  exact⟨u,us',e,MI d u hk.1 h1,Dz ds us' hk.2 h2⟩
end
theorem Uv{E:Ent}{g:Gh}{σ σ':St}{w:World}(hw:WI E g σ w){m:Nat}(hH:σ'.H=σ.H.take m)(hm:m<=σ.H.length)(hE:E.g.n<=m)(hc:okH m (σ'.own.map (·.1)) σ'.H=true)(hown:σ'.own.Sublist σ.own):
  WI E (shG g m (σ'.own.map (·.1))) σ' w:=by
 have get:∀(i:Nat) (cs:List D),σ'.H[i]?=some (some cs)->σ.H[i]?=some (some cs)/\i<m:=by
  intro i cs hi
  rw[hH,IQ] at hi
  split at hi
  ·exact⟨hi,by assumption⟩
  ·simp at hi
 have hι:∀x∈σ'.own,(if (σ'.own.map (·.1)).contains x.1 then g.ι x.1 x.2.2.length else none)=g.ι x.1 x.2.2.length:=fun x hx=>HP (by rw[List.contains_iff_mem];exact Il.2 ⟨x,hx,rfl⟩)
 refine{ rep:=⟨?_,hw.rep.mem,fun i cs hi=>?_,fun i j cs ds hi hj=>hw.rep.inj i j cs ds (get i cs hi).1 (get j ds hj).1,fun k sz xs hx=>?_,?_,fun x hx y hy hne u u' hu hu' b hb=>?_,fun x hx u hu b hb i cs hi=>?_,fun k hk j=>?_,hw.rep.gl,hw.rep.gw⟩,M:=hw.M,size:=hw.size,keep:=hw.keep,os:=hw.os,tape:=hw.tape,output:=hw.output,nE:=hE,βE:=fun o ho=>hw.βE o ho,κE:=fun o ho=>hw.κE o ho,objs:=fun i cs hi=>hw.objs i cs (get i cs hi).1,owns:=fun x hx u hu b hb=>?_,drawn:=hw.drawn }
 ·simp[hH];omega
 ·obtain⟨us,rest,e,h1,h2,h3,h4⟩:=hw.rep.obj i cs (get i cs hi).1
  exact⟨us,rest,e,h1,Dz cs us (MY hc hi) h2,h3,h4⟩
 ·obtain⟨h0,u,hu,h1,h2,h3⟩:=hw.rep.own k sz xs (hown.subset hx)
  refine⟨h0,u,(hι _ hx).trans hu,h1,h2,fun j hj=>?_⟩
  simp only
  split
  ·exact h3 j hj
  ·rfl
 ·exact(hown.map _).nodup hw.rep.tags
 ·exact hw.rep.sep x (hown.subset hx) y (hown.subset hy) hne u u' ((hι x hx).symm.trans hu) ((hι y hy).symm.trans hu') b hb
 ·exact hw.rep.ownObj x (hown.subset hx) u ((hι x hx).symm.trans hu) b hb i cs (get i cs hi).1
 ·simp only
  rw[HL]
  intro h
  rw[List.contains_iff_mem] at h
  obtain⟨x,hx,e⟩:=Il.1 h
  exact hk x hx e
 ·exact hw.owns x (hown.subset hx) u ((hι x hx).symm.trans hu) b hb
abbrev CN(m:Nat)(E0 E:Ent):Prop:=E0=E/\E.g.n<=m
theorem OF(m:Nat):Hn (CN m):=⟨fun h _ _ _ hw=>by rw[h.1];exact hw⟩
section
variable {P : Program} {R : List D -> St -> Prop} {k : List KI} {env : List D} {σ : St}
theorem Af8{C:Ent->Ent->Prop}{m:Nat}(hCm:∀E0 E,C E0 E->E.g.n<=m){σ':St}{h:Nat}(hH:σ'.H=σ.H.take h)(hh:h<=σ.H.length)(hm:m<=h)(he:D.okNs h (σ'.own.map (·.1)) env=true)(hc:okH h (σ'.own.map (·.1)) σ'.H=true)(hown:σ'.own.Sublist σ.own)(hr:A1 C P R k env σ'):A1 C P R k env σ:=fun E0 E g a w B hC hf hB=>
 hr E0 E _ a w B hC ⟨Uv hf.wi hH hh (Iz (hCm _ _ hC) hm) hc hown,Dz _ _ he hf.env,hf.defers⟩ hB
end
noncomputable def E9{β:Type}(l:List D)(i:Nat)(k:D->β):β:=
 List.rec (motive:=fun _=>Nat->(D->β)->β) (fun _ k=>k .undef) (fun a _ ih i k=>Nat.rec (motive:=fun _=>β) (k a) (fun j _=>ih j k) i) l i k
theorem CH{β:Type}:∀(l:List D) (i:Nat) (k:D->β),E9 l i k=k (l.getD i .undef)
 |[],_,_=>rfl
 |a::l,0,k=>rfl
 |a::l,i+1,k=>by
  have h:E9 (a::l) (i+1) k=E9 l i k:=rfl
  rw[h,CH l];simp
noncomputable def evK{β:Type}(env:List D)(x:Operand)(K:D->β):β:=match x with
 |.tmp t=>E9 env t K
 |x=>K (evN env x)
theorem AgT{β:Type}(env:List D)(x:Operand)(K:D->β):evK env x K=K (evN env x):=by
 cases x<;>simp[evK,CH,evN]
noncomputable def RM{β:Type}(env:List D)(l:List Operand)(K:List D->β):β:=
 List.rec (motive:=fun _=>(List D->β)->β) (fun K=>K []) (fun x _ ih K=>evK env x fun d=>ih fun ds=>K (d::ds)) l K
theorem Lz{β:Type}(env:List D):∀(l:List Operand) (K:List D->β),RM env l K=K (l.map (evN env))
 |[],_=>rfl
 |x::l,K=>by
  have h:RM env (x::l) K=evK env x fun d=>RM env l fun ds=>K (d::ds):=rfl
  rw[h,AgT,Lz env l];rfl
theorem getD_some{env:List D}{t:Nat}{d:D}(h:env.getD t .undef=d)(hd:d≠ .undef):env[t]?=some d:=by
 rw[HC] at h
 cases e:env[t]? with
 |none=>rw[e] at h;exact absurd h.symm hd
 |some x=>rw[e] at h;simpa using h
theorem DSL.refl:∀l:List D,DSL l l
 |[]=>.nil
 |d::l=>.cons (.same d) (DSL.refl l)
theorem DSL.set{l:List D}{t:Nat}{d e:D}(h:l[t]?=some d)(hs:DS d e):DSL l (l.set t e):=by
 induction l generalizing t with
 |nil=>simp at h
 |cons a l ih=>
  cases t with
  |zero=>simp at h;subst h;exact .cons hs (DSL.refl l)
  |succ t=>exact .cons (.same a) (ih (by simpa using h))
theorem L3{env:List D}{σ:St}:Cv env σ env σ:=fun E g a w hf=>⟨g,hf⟩
theorem Mc{L:Nat->Option (List D)}:∀{ds ds':List D} {s n:Nat} {d:D} {x:V},Fz L ds ds'->ds[s]?=some d->F9 L n d x->Fz L ds (ds'.set s (.v x))
 |_,_,s,n,d,x,.nil,h,hl=>by simp at h
 |_,_,0,n,d,x,.keep hs,h,hl=>by simp at h;subst h;exact .view hl hs
 |_,_,0,n,d,x,.view _ hs,h,hl=>by simp at h;subst h;exact .view hl hs
 |_,_,s+1,n,d,x,.keep hs,h,hl=>by simp only[IP];exact .keep (Mc hs (by simpa using h) hl)
 |_,_,s+1,n,d,x,.view h' hs,h,hl=>by simp only[IP];exact .view h' (Mc hs (by simpa using h) hl)
theorem Fz.refl{L:Nat->Option (List D)}:∀l:List D,Fz L l l
 |[]=>.nil
 |_::l=>.keep (Fz.refl l)
theorem NX:∀{cs:List D} {xs:List V},CQ cs=some xs->∀{j:Nat} {y:V},xs[j]?=some y->∃c,cs[j]?=some c/\c.toV=some y
 |[],xs,h,j,y,hy=>by simp[CQ] at h;subst h;simp at hy
 |c::cs,xs,h,j,y,hy=>by
  cases c<;>simp only[CQ] at h<;>first|(split at h<;>first|(rename_i ys h1;simp at h;subst h;cases j with|zero=>(simp at hy;subst hy;exact⟨_,rfl,rfl⟩)|succ j=>(obtain⟨c,h2,h3⟩:=NX h1 (j:=j) (by simpa using hy);exact⟨c,by simpa using h2,h3⟩))|simp at h)|simp at h
theorem AaA{H:List (Option (List D))}{q:Nat}{cs:List D}{xs:List V}(hq:H[q]?=some (some cs))(hx:CQ cs=some xs)(ha:xs.all (fun x=> !x.isAgg)=true):F9 (DP [q] H) 1 (.ptr q 0) (.ref (.agg xs)):=by
 refine .inr (.inl ⟨q,0,cs,.agg xs,rfl,rfl,by simp[DP,hq],fun j y hy=>?_⟩)
 have hm:=HA (show xs[j]?=some y from hy)
 obtain⟨c,h1,h2⟩:=NX hx (show xs[j]?=some y from hy)
 exact⟨by simpa using Ip.1 ha y hm,c,by rw[Io];exact h1,c,.same,h2⟩
theorem Aa9{H:List (Option (List D))}{q:Nat}{c:D}{x:V}(hq:H[q]?=some (some [c]))(hx:c.toV=some x)(ha:x.isAgg=false):F9 (DP [q] H) 1 (.ptr q 0) (.ref x):=by
 refine .inr (.inl ⟨q,0,[c],x,rfl,rfl,by simp[DP,hq],fun j y hy=>?_⟩)
 have hc:x.cellsV=[x]:=by cases x<;>simp_all [V.cellsV,V.isAgg]
 rw[hc] at hy
 cases j with
 |zero=>simp at hy;subst hy;exact⟨ha,c,rfl,c,.same,hx⟩
 |succ j=>simp at hy
noncomputable def PH(q:Nat)(x:V)(ss:List Nat)(env:List D)(K:List D->Prop):Prop:=
 List.rec (motive:=fun _=>List D->Prop) (fun env=>K env) (fun s _ ih env=>E9 env s fun d=>match d with
  |.ptr q' 0=>cond (Nat.beq q' q) (Cx env s (.v (.ref x)) ih) False
  |_=>False) ss env
theorem MD{L:Nat->Option (List D)}{q:Nat}{x:V}(hl:F9 L 1 (.ptr q 0) (.ref x)){K:List D->Prop}{env0:List D}:∀{ss:List Nat} {env:List D},Fz L env0 env->(∀t:Nat,env[t]?=env0[t]?∨env[t]?=some (D.v (.ref x)))->PH q x ss env K->∃env',K env'/\Fz L env0 env'
 |[],env,hz,_,h=>⟨env,h,hz⟩
 |s::ss,env,hz,hi,h=>by
  have e:PH q x (s::ss) env K=E9 env s fun d=>match d with
   |.ptr q' 0=>cond (Nat.beq q' q) (Cx env s (.v (.ref x)) fun env=>PH q x ss env K) False
   |_=>False:=rfl
  rw[e,CH] at h
  split at h
  ·rename_i q' hd
   obtain⟨h1,h2⟩:=An h
   have:=HS h1;subst this
   rw[AY] at h2
   have hs:=getD_some hd (by simp)
   have hs0:env0[s]?=some (.ptr q' 0):=by
    rcases hi s with h3|h3
    ·rw[←h3];exact hs
    ·rw[hs] at h3;simp at h3
   refine MD hl (Mc hz hs0 hl) (fun t=>?_) h2
   rw[List.getElem?_set]
   split
   ·rename_i e;subst e
    rw[HP (H7.1 hs).1];exact .inr rfl
   ·exact hi t
  ·exact h.elim
noncomputable def pre(r i:Nat)(s:Sc)(env:List D)(σ:St)(K:Sc->List D->St->Prop):Prop:=
 Sc.rec (motive:=fun _=>List D->St->Prop)
  (fun env σ=>K .z env σ)
  (fun _ ih env σ=>∃a,ih a env σ)
  (fun s t _ _ env σ=>K (.b s t) env σ)
  (fun h s ih env σ=>match h with
   |.q r' i'=>cond (Nat.beq r r'&&Nat.beq i i') (ih env σ) (K (.h (.q r' i') s) env σ)
   |.un t=>E9 env t fun d=>match d with
    |.acc _ xs=>Cx env t (.v (.list xs)) fun env=>ih env σ
    |.rv x _=>Cx env t (.v x) fun env=>ih env σ
    |_=>False
   |.ga t=>E9 env t fun d=>match d with
    |.gro q n _=>Cx env t (.arr q 0 n) fun env=>ih env σ
    |_=>False
   |.fa q ss=>match σ.H[q]? with
    |some (some cs)=>(match CQ cs with
     |some xs=>cond (xs.all fun x=> !x.isAgg) (PH q (.agg xs) ss env fun env=>Cx σ.H q none fun H=>ih env ⟨H,σ.own⟩) False
     |none=>False)
    |_=>False
   |.f1 q ss=>match σ.H[q]? with
    |some (some [c])=>(match c.toV with
     |some x=>cond (!x.isAgg) (PH q x ss env fun env=>Cx σ.H q none fun H=>ih env ⟨H,σ.own⟩) False
     |none=>False)
    |_=>False
   |.fl q t xs=>match σ.H[q]? with
    |some (some cs)=>E9 env t fun d=>match d with
     |.arr q' 0 n=>cond (Nat.beq q' q) (cs=xs.map .v/\n=xs.length/\Cx env t (.v (.list xs)) fun env=>Cx σ.H q none fun H=>ih env ⟨H,σ.own⟩) False
     |_=>False
    |_=>False
   |.cl q j k sz=>match σ.H[q]? with
    |some (some cs)=>(match cs[j]? with
     |some (.v .nils)=>cond (DQ σ.own k&&Nat.blt 0 sz) (Cx cs j (.acc k []) fun cs=>Cx σ.H q (some cs) fun H=>ih env ⟨H,(k,sz,[])::σ.own⟩) False
     |_=>False)
    |_=>False
   |.nw t k sz=>E9 env t fun d=>match d with
    |.v .nils=>cond (DQ σ.own k&&Nat.blt 0 sz) (Cx env t (.acc k []) fun env=>ih env ⟨σ.H,(k,sz,[])::σ.own⟩) False
    |_=>False
   |.cs σ'=>(AQ σ.H fun H=>AQ σ.own fun own=>∀e:List D,Cv e ⟨H,own⟩ e σ')/\ih env σ'
   |.ct t d σ'=>E9 env t fun d0=>match d0 with
    |.undef=>False
    |d0=>(∀e:List D,e[t]?=some d0->Cv e σ (e.set t d) σ')/\Cx env t d fun env=>ih env σ'
   |h=>K (.h h s) env σ) s env σ
theorem AiO{env:List D}{σ:St}{t:Nat}{x:V}{u:Value}(ht:env[t]?=some (.rv x u)):Cv env σ (env.set t (.v x)) σ:=fun E g a w hf=>by
 obtain⟨v,hv,hr⟩:=B9 hf.env ht
 simp only[Ae] at hr
 refine⟨g,hf.wi,?_,hf.defers⟩
 have:=CG hf.env t (d:=.v x) (u:=v) (by simp only[Ae];rw[hr.1];exact hr.2)
 rwa[Ed hv] at this
theorem AiP{env:List D}{σ:St}{t k sz:Nat}(ht:env[t]?=some (.v .nils))(hk:∀x∈σ.own,x.1≠k)(hsz:0<sz):Cv env σ (env.set t (.acc k [])) ⟨σ.H,(k,sz,[])::σ.own⟩:=fun E g a w hf=>by
 obtain⟨hw1,hle1⟩:=hf.wi.addOwn (k:=k) (sz:=sz) (xs:=[]) (u:=.slice none 0 0) hk ⟨hsz,by simp⟩ (Dw _) (.inl ⟨none,rfl⟩) (fun b hb=>by simp[BZ] at hb)
 obtain⟨u,hu,hr⟩:=B9 hf.env ht
 simp only[Ae,Cq] at hr
 subst hr
 refine⟨_,hw1,?_,hf.defers⟩
 have:=CG (Ac.mono hle1 _ _ hf.env) t (d:=.acc k []) (u:=.slice none 0 0) (by simp only[Ae];exact⟨Dw _,by simp⟩)
 rwa[Ed hu] at this
theorem AiQ{env:List D}{σ:St}{q t:Nat}{xs:List V}(hq:σ.H[q]?=some (some (xs.map .v)))(ht:env[t]?=some (.arr q 0 xs.length)):Cv env σ (env.set t (.v (.list xs))) ⟨σ.H.set q none,σ.own⟩:=fun E g a w hf=>by
 have hone:∀x∈xs,x.isAgg=false:=fun x hx=>by
  obtain⟨_,_,_,_,_,h1,_⟩:=hf.wi.rep.obj q _ hq
  have:=h1 (.v x) (Il.2 ⟨x,hx,rfl⟩)
  simpa[D.one] using this
 have hfl:xs.flatMap V.cellsV=xs:=by
  clear hq ht hf
  induction xs with
  |nil=>rfl
  |cons x xs ih=>
   have hx:=hone x (by simp)
   have hc:x.cellsV=[x]:=by cases x<;>simp_all [V.cellsV,V.isAgg]
   rw[List.flatMap_cons,hc,ih fun y hy=>hone y (by simp[hy])];rfl
 have hz:Fz (DP [q] σ.H) env (env.set t (.v (.list xs))):=by
  refine Mc (n:=1) (Fz.refl env) ht (.inr (.inr ⟨q,0,1,xs.map .v,xs,.inl rfl,rfl,by omega,fun y hy=>?_,by simp[DP,hq],fun j y hy=>?_⟩))
  ·have:=hone y hy;cases y<;>simp_all [V.size,V.isAgg]
  ·rw[hfl] at hy
   exact⟨hone y (HA hy),.v y,by rw[Io,Ik,hy];rfl,.v y,.same,rfl⟩
 obtain⟨g',hf'⟩:=Pc [q] hz E g a w hf
 exact⟨g',by simpa[GX] using hf'⟩
theorem Ov{r i:Nat}{K:Sc->List D->St->Prop}:∀{s:Sc} {env:List D} {σ:St},pre r i s env σ K->∃s' env' σ',K s' env' σ'/\Cv env σ env' σ'/\env'.length=env.length
 |.z,env,σ,h=>⟨_,_,_,h,L3,rfl⟩
 |.e f,env,σ,h=>by
  obtain⟨a,h⟩:=(h:∃a,pre r i (f a) env σ K)
  exact Ov h
 |.b s t,env,σ,h=>⟨_,_,_,h,L3,rfl⟩
 |.h hh s,env,σ,h=>by
  have tr:∀{env1:List D} {σ1:St},Cv env σ env1 σ1->env1.length=env.length->pre r i s env1 σ1 K->∃s' env' σ',K s' env' σ'/\Cv env σ env' σ'/\env'.length=env.length:=by
   intro env1 σ1 hc hl hp
   obtain⟨s',env',σ',h1,h2,h3⟩:=Ov hp
   exact⟨s',env',σ',h1,fun E g a w hf=>by obtain⟨g1,hf1⟩:=hc E g a w hf;exact h2 E g1 a w hf1,h3.trans hl⟩
  cases hh with
  |q r' i'=>
   have h':cond (Nat.beq r r'&&Nat.beq i i') (pre r i s env σ K) (K (.h (.q r' i') s) env σ):=h
   cases hb:(Nat.beq r r'&&Nat.beq i i') with
   |true=>rw[hb] at h';exact tr L3 rfl h'
   |false=>rw[hb] at h';exact⟨_,_,_,h',L3,rfl⟩
  |un t=>
   have h':E9 env t fun d=>match d with
    |.acc _ xs=>Cx env t (.v (.list xs)) fun env=>pre r i s env σ K
    |.rv x _=>Cx env t (.v x) fun env=>pre r i s env σ K
    |_=>False:=h
   rw[CH] at h'
   split at h'
   ·rename_i k xs hd
    rw[AY] at h'
    exact tr (AcF (DSL.set (getD_some hd (by simp)) .acc)) (by simp) h'
   ·rename_i x u hd
    rw[AY] at h'
    exact tr (AiO (getD_some hd (by simp))) (by simp) h'
   ·exact h'.elim
  |ga t=>
   have h':E9 env t fun d=>match d with
    |.gro q n _=>Cx env t (.arr q 0 n) fun env=>pre r i s env σ K
    |_=>False:=h
   rw[CH] at h'
   split at h'
   ·rename_i q n sz hd
    rw[AY] at h'
    exact tr (AcF (DSL.set (getD_some hd (by simp)) .gro)) (by simp) h'
   ·exact h'.elim
  |fa q ss=>
   have h':match σ.H[q]? with
    |some (some cs)=>(match CQ cs with
     |some xs=>cond (xs.all fun x=> !x.isAgg) (PH q (.agg xs) ss env fun env=>Cx σ.H q none fun H=>pre r i s env ⟨H,σ.own⟩ K) False
     |none=>False)
    |_=>False:=h
   split at h'
   ·rename_i cs hq
    split at h'
    ·rename_i xs hx
     obtain⟨h1,h2⟩:=An h'
     obtain⟨env',h3,h4⟩:=MD (env0:=env) (AaA hq hx h1) (Fz.refl env) (fun t=>.inl rfl) h2
     rw[AY] at h3
     have hl:env'.length=env.length:=by
      have:∀{a b:List D} {L},Fz L a b->b.length=a.length:=by
       intro a b L hz;induction hz<;>simp_all
      exact this h4
     exact tr (by have:=Pc [q] h4;simpa[GX] using this) hl h3
    ·exact h'.elim
   ·exact h'.elim
  |f1 q ss=>
   have h':match σ.H[q]? with
    |some (some [c])=>(match c.toV with
     |some x=>cond (!x.isAgg) (PH q x ss env fun env=>Cx σ.H q none fun H=>pre r i s env ⟨H,σ.own⟩ K) False
     |none=>False)
    |_=>False:=h
   split at h'
   ·rename_i c hq
    split at h'
    ·rename_i x hx
     obtain⟨h1,h2⟩:=An h'
     obtain⟨env',h3,h4⟩:=MD (env0:=env) (Aa9 hq hx (by simpa using h1)) (Fz.refl env) (fun t=>.inl rfl) h2
     rw[AY] at h3
     have hl:env'.length=env.length:=by
      have:∀{a b:List D} {L},Fz L a b->b.length=a.length:=by
       intro a b L hz;induction hz<;>simp_all
      exact this h4
     exact tr (by have:=Pc [q] h4;simpa[GX] using this) hl h3
    ·exact h'.elim
   ·exact h'.elim
  |fl q t xs=>
   have h':match σ.H[q]? with
    |some (some cs)=>E9 env t fun d=>match d with
     |.arr q' 0 n=>cond (Nat.beq q' q) (cs=xs.map .v/\n=xs.length/\Cx env t (.v (.list xs)) fun env=>Cx σ.H q none fun H=>pre r i s env ⟨H,σ.own⟩ K) False
     |_=>False
    |_=>False:=h
   split at h'
   ·rename_i cs hq
    rw[CH] at h'
    split at h'
    ·rename_i q' n hd
     obtain⟨h1,rfl,rfl,h2⟩:=An h'
     have:=HS h1;subst this
     rw[AY,AY] at h2
     exact tr (AiQ hq (getD_some hd (by simp))) (by simp) h2
    ·exact h'.elim
   ·exact h'.elim
  |cl q j k sz=>
   have h':match σ.H[q]? with
    |some (some cs)=>(match cs[j]? with
     |some (.v .nils)=>cond (DQ σ.own k&&Nat.blt 0 sz) (Cx cs j (.acc k []) fun cs=>Cx σ.H q (some cs) fun H=>pre r i s env ⟨H,(k,sz,[])::σ.own⟩ K) False
     |_=>False)
    |_=>False:=h
   split at h'
   ·rename_i cs hq
    split at h'
    ·rename_i hj
     obtain⟨h1,h2⟩:=An h'
     rw[H5] at h1
     rw[AY,AY] at h2
     exact tr (RQ q j k sz hq hj (Cw h1.1) (HX h1.2)) rfl h2
    ·exact h'.elim
   ·exact h'.elim
  |nw t k sz=>
   have h':E9 env t fun d=>match d with
    |.v .nils=>cond (DQ σ.own k&&Nat.blt 0 sz) (Cx env t (.acc k []) fun env=>pre r i s env ⟨σ.H,(k,sz,[])::σ.own⟩ K) False
    |_=>False:=h
   rw[CH] at h'
   split at h'
   ·rename_i hd
    obtain⟨h1,h2⟩:=An h'
    rw[H5] at h1
    rw[AY] at h2
    exact tr (AiP (getD_some hd (by simp)) (Cw h1.1) (HX h1.2)) (by simp) h2
   ·exact h'.elim
  |cs σ'=>
   obtain⟨h1,h2⟩:=(h:(AQ σ.H fun H=>AQ σ.own fun own=>∀e:List D,Cv e ⟨H,own⟩ e σ')/\pre r i s env σ' K)
   rw[AM,AM] at h1
   exact tr (h1 env) rfl h2
  |ct t d σ'=>
   have h':E9 env t fun d0=>match d0 with
    |.undef=>False
    |d0=>(∀e:List D,e[t]?=some d0->Cv e σ (e.set t d) σ')/\Cx env t d fun env=>pre r i s env σ' K:=h
   rw[CH] at h'
   split at h'
   ·exact h'.elim
   ·rename_i hne
    rw[AY] at h'
    exact tr (h'.1 env (getD_some rfl (fun e=>hne e))) (by simp) h'.2
  |_=>exact⟨_,_,_,h,L3,rfl⟩
noncomputable def upd(env:List D)(t:Option Nat)(b:Bool)(K:List D->Prop):Prop:=match t with
 |some t=>Cx env t (.v (.bool b)) K
 |none=>K env
noncomputable def YT(s:Sc)(b:Bool)(t:Option Nat)(env:List D)(K:Bool->Sc->List D->Prop):Prop:=match s with
 |.b s1 s2=>(b=true->upd env t true fun env=>K true s1 env)/\(b=false->upd env t false fun env=>K false s2 env)
 |.h .t s=>b=true/\upd env t true fun env=>K true s env
 |.h .f s=>b=false/\upd env t false fun env=>K false s env
 |.h .k s=>K b s env
 |s=>K b s env
theorem Zw{env:List D}{t:Nat}{b:Bool}(h:env[t]?=some (.v (.bool b))):env.set t (.v (.bool b))=env:=Ed h
theorem QI{s:Sc}{b:Bool}{t:Option Nat}{env:List D}{K:Bool->Sc->List D->Prop}(h:YT s b t env K)(ht:∀t',t=some t'->env[t']?=some (.v (.bool b))):∃s',K b s' env:=by
 have up:∀{b':Bool} {K':List D->Prop},b=b'->upd env t b' K'->K' env:=by
  intro b' K' e hu
  subst e
  cases t with
  |none=>exact hu
  |some t=>simp only[upd,AY] at hu;rwa[Zw (ht t rfl)] at hu
 unfold YT at h
 split at h
 ·cases b with
  |true=>exact⟨_,up rfl (h.1 rfl)⟩
  |false=>exact⟨_,up rfl (h.2 rfl)⟩
 ·obtain⟨rfl,h⟩:=h;exact⟨_,up rfl h⟩
 ·obtain⟨rfl,h⟩:=h;exact⟨_,up rfl h⟩
 ·exact⟨_,h⟩
 ·exact⟨_,h⟩
noncomputable def Af6(ops:Array Oper)(i j:Nat):Bool:=(ops.toList.take i).any fun o=>match o.guard with
 |some (j',_)=>Nat.beq j' j
 |none=>false
noncomputable def FT(ops:Array Oper)(i:Nat)(o:Oper)(s:Sc)(env:List D)(K:Bool->Sc->List D->Prop):Prop:=match o.guard with
 |none=>K true s env
 |some (j,want)=>match (ops[j]?).bind (·.dst) with
  |some t=>E9 env t fun d=>match d with
   |.v (.bool b)=>Bool.rec (YT s b (some t) env fun b s env=>K (b==want) s env) (K (b==want) s env) (Af6 ops i j)
   |.tup _=>K false s env
   |_=>False
  |none=>False
theorem KH{ops:Array Oper}{i:Nat}{o:Oper}{s:Sc}{env:List D}{K:Bool->Sc->List D->Prop}(h:FT ops i o s env K):∃b s',K b s' env/\BM env ops o=some b:=by
 unfold FT at h
 unfold BM
 split at h
 ·rename_i hg;exact⟨true,s,h,by simp[hg]⟩
 ·rename_i j want hg
  split at h
  ·rename_i t hj
   rw[CH] at h
   split at h
   ·rename_i b hd
    have ht:=getD_some hd (by simp)
    cases hs:Af6 ops i j with
    |true=>rw[hs] at h;exact⟨_,s,h,by simp[hg,hj,ht]⟩
    |false=>
     rw[hs] at h
     obtain⟨s',h1⟩:=QI h (fun t' e=>by simp at e;subst e;exact ht)
     exact⟨_,s',h1,by simp[hg,hj,ht]⟩
   ·rename_i ds hd
    have ht:=getD_some hd (by simp)
    exact⟨false,s,h,by simp[hg,hj,ht]⟩
   ·exact h.elim
  ·exact h.elim
noncomputable def S3(env:List D)(sl:List (Nat×Option D))(K:List (Nat×D)->Prop):Prop:=
 List.rec (motive:=fun _=>(List (Nat×D)->Prop)->Prop) (fun K=>K []) (fun p _ ih K=>E9 env p.1 fun d0=>match p.2 with
  |none=>ih fun L=>K ((p.1,d0)::L)
  |some d=>d0=d/\ih fun L=>K ((p.1,d)::L)) sl K
theorem JW{env:List D}:∀{sl:List (Nat×Option D)} {K:List (Nat×D)->Prop},S3 env sl K->∃L,K L/\∀p∈L,env.getD p.1 .undef=p.2
 |[],K,h=>⟨[],h,by simp⟩
 |(t,o)::sl,K,h=>by
  have h':E9 env t fun d0=>match (generalizing:=false) o with
   |none=>S3 env sl fun L=>K ((t,d0)::L)
   |some d=>d0=d/\S3 env sl fun L=>K ((t,d)::L):=h
  rw[CH] at h'
  cases o with
  |none=>
   obtain⟨L,h1,h2⟩:=JW h'
   refine⟨_,h1,fun p hp=>?_⟩
   rcases Ij.1 hp with rfl|hp
   ·rfl
   ·exact h2 p hp
  |some d=>
   obtain⟨L,h1,h2⟩:=JW h'.2
   refine⟨_,h1,fun p hp=>?_⟩
   rcases Ij.1 hp with rfl|hp
   ·exact h'.1
   ·exact h2 p hp
theorem ES:∀(L:List (Nat×D)) (e:List D),(L.foldl (fun e p=>e.set p.1 p.2) e).length=e.length
 |[],e=>rfl
 |p::L,e=>by rw[IG,ES L];simp
theorem WG{env:List D}:∀{L:List (Nat×D)} {e:List D},(∀p∈L,env.getD p.1 .undef=p.2)->e.length=env.length->(∀(i:Nat) (d:D),e[i]?=some d->d=.undef∨env[i]?=some d)->∀(i:Nat) (d:D),(L.foldl (fun e p=>e.set p.1 p.2) e)[i]?=some d->d=.undef∨env[i]?=some d
 |[],e,_,_,h,i,d,hd=>h i d hd
 |p::L,e,hL,hl,h,i,d,hd=>by
  refine WG (L:=L) (e:=e.set p.1 p.2) (fun q hq=>hL q (List.mem_cons_of_mem _ hq)) (by simp[hl]) (fun i d hd=>?_) i d hd
  rw[List.getElem?_set] at hd
  split at hd
  ·rename_i e1;subst e1
   split at hd
   ·rename_i hlt
    simp at hd;subst hd
    refine .inr ?_
    have:=hL p (List.mem_cons_self)
    rw[HC] at this
    rw[H4 (by omega)] at this⊢
    simpa using this
   ·simp at hd
  ·exact h i d hd
theorem Ma{env:List D}{nt:Nat}{L:List (Nat×D)}(hn:env.length=nt)(h2:∀p∈L,env.getD p.1 .undef=p.2):(mkE nt L).length=env.length/\∀(i:Nat) (d:D),(mkE nt L)[i]?=some d->d=.undef∨env[i]?=some d:=
 ⟨by simp[mkE,ES,hn],WG h2 (by simp[hn]) (fun i d hd=>by
  rw[List.getElem?_replicate] at hd
  split at hd
  ·simp at hd;exact .inl hd.symm
  ·simp at hd)⟩
noncomputable def TW(P:Program)(im:List Nat)(r:Nat)(ops:Array Oper)(Z:List Oper->List (Nat×D)->St->Prop)(L:List Oper)(i:Nat)(s:Sc)(env:List D)(σ:St)(K:Sc->List D->St->Prop):Prop:=
 List.rec (motive:=fun _=>Nat->Sc->List D->St->Prop) (fun i s env σ=>pre r i s env σ K)
  (fun o L ih i s env σ=>pre r i s env σ fun s env σ=>match s with
   |.h (.s sl) _=>S3 env sl fun sl=>Z (o::L) sl σ
   |s=>FT ops i o s env fun b s env=>
    Bool.rec (Da env o.dst (.tup []) fun env=>ih (Nat.succ i) s env σ)
     (RM env o.op.operands.toList fun ds=>vOp P im o ds σ s fun s d σ _=>Da env o.dst d fun env=>ih (Nat.succ i) s env σ) b) L i s env σ
def AT(C:Ent->Ent->Prop)(P:Program)(R:List D->St->Prop)(k:List KI)(ops:Array Oper)(L:List Oper)(env:List D)(σ:St):Prop:=
 ∀(E0 E:Ent) (g:Gh) (a:Act) (w:World) (B:Exit->Act->World->Prop),C E0 E->FI E g σ env a w->
  (∀g' env' σ' a' w',FI E0 g' σ' env' a' w'->R env' σ'->B .ret a' w'/\B .normal a' w')->wpList P ops (KQ P B k) L a w
section
variable {C : Ent -> Ent -> Prop} {P : Program} {R : List D -> St -> Prop} {k : List KI}
theorem AT.cv{ops:Array Oper}{L:List Oper}{env env':List D}{σ σ':St}(h:Cv env σ env' σ')(hk:AT C P R k ops L env' σ'):AT C P R k ops L env σ:=fun E0 E g a w B hC hf hB=>by
 obtain⟨g',hf'⟩:=h E g a w hf
 exact hk E0 E g' a w B hC hf' hB
theorem AT.forget{ops:Array Oper}{L:List Oper}{env env':List D}{σ:St}(h:env'.length=env.length/\∀(i:Nat) (d:D),env'[i]?=some d->d=.undef∨env[i]?=some d)(hk:AT C P R k ops L env' σ):AT C P R k ops L env σ:=fun E0 E g a w B hC hf hB=>
 hk E0 E g a w B hC ⟨hf.wi,Ge hf.env h.1 h.2,hf.defers⟩ hB
theorem AT.op{ops:Array Oper}{L:List Oper}{o:Oper}{env:List D}{σ σ':St}{d:D}(hg:BM env ops o=some true)(h:Ah P o (o.op.operands.toList.map (evN env)) σ d σ')(hk:AT C P R k ops L (AN env o.dst d) σ'):AT C P R k ops (o::L) env σ:=fun E0 E g a w B hC hf hB=>by
 unfold wpList
 rw[HP (Co hf.env hg)]
 refine .inl (h E g a w _ _ hf.wi (Om hf.wi.rep.gl hf.env _) fun g' w' u hw' hg' hd=>?_)
 exact hk E0 E g' _ _ B hC (hf.put hw' hg' hd o.dst) hB
theorem AT.skip{ops:Array Oper}{L:List Oper}{o:Oper}{env:List D}{σ:St}(hg:BM env ops o=some false)(hk:AT C P R k ops L (AN env o.dst (.tup [])) σ):AT C P R k ops (o::L) env σ:=fun E0 E g a w B hC hf hB=>by
 unfold wpList
 rw[HL (by rw[Co hf.env hg];simp)]
 exact hk E0 E g _ _ B hC (hf.put hf.wi g.le_refl (LU g) o.dst) hB
theorem M6{im:List Nat}{r:Nat}{ops:Array Oper}{Z:List Oper->List (Nat×D)->St->Prop}{K:Sc->List D->St->Prop}{n:Nat}(hZ:∀L sl σ,Z L sl σ->AT C P R k ops L (mkE n sl) σ)(hK:∀s env σ,env.length=n->K s env σ->A1 C P R k env σ):∀{L:List Oper} {i:Nat} {s:Sc} {env:List D} {σ:St},env.length=n->TW P im r ops Z L i s env σ K->AT C P R k ops L env σ
 |[],i,s,env,σ,hl,h=>by
  obtain⟨s1,env1,σ1,h1,h2,h3⟩:=Ov (show pre r i s env σ K from h)
  exact AT.cv h2 fun E0 E g a w B hC hf hB=>by
   unfold wpList;exact hK _ _ _ (h3.trans hl) h1 E0 E g a w B hC hf hB
 |o::L,i,s,env,σ,hl,h=>by
  have h':pre r i s env σ fun s env σ=>match s with
   |.h (.s sl) _=>S3 env sl fun sl=>Z (o::L) sl σ
   |s=>FT ops i o s env fun b s env=>
    Bool.rec (Da env o.dst (.tup []) fun env=>TW P im r ops Z L (Nat.succ i) s env σ K)
     (RM env o.op.operands.toList fun ds=>vOp P im o ds σ s fun s d σ _=>Da env o.dst d fun env=>TW P im r ops Z L (Nat.succ i) s env σ K) b:=h
  obtain⟨s1,env1,σ1,h1,h2,h3⟩:=Ov h'
  refine AT.cv h2 ?_
  have main:(FT ops i o s1 env1 fun b s env=>
    Bool.rec (Da env o.dst (.tup []) fun env=>TW P im r ops Z L (Nat.succ i) s env σ1 K)
     (RM env o.op.operands.toList fun ds=>vOp P im o ds σ1 s fun s d σ _=>Da env o.dst d fun env=>TW P im r ops Z L (Nat.succ i) s env σ K) b)->AT C P R k ops (o::L) env1 σ1:=by
   intro h1
   obtain⟨b,s2,h4,h5⟩:=KH h1
   cases b with
   |false=>
    have h6:Da env1 o.dst (.tup []) fun env=>TW P im r ops Z L (Nat.succ i) s2 env σ1 K:=h4
    rw[CW] at h6
    refine AT.skip h5 (M6 hZ hK ?_ h6)
    cases o.dst<;>simp[AN,h3,hl]
   |true=>
    have h6:RM env1 o.op.operands.toList fun ds=>vOp P im o ds σ1 s2 fun s d σ _=>Da env1 o.dst d fun env=>TW P im r ops Z L (Nat.succ i) s env σ K:=h4
    rw[Lz] at h6
    obtain⟨s3,d,σ3,kd,h7,h8⟩:=Cp h6
    rw[CW] at h7
    refine AT.op h5 h8.op (M6 hZ hK ?_ h7)
    cases o.dst<;>simp[AN,h3,hl]
  split at h1
  ·obtain⟨sl,h4,h5⟩:=JW h1
   exact AT.forget (Ma (h3.trans hl) h5) (hZ _ _ _ h4)
  ·exact main h1
end
inductive DK where
 |q
 |l (j q off n:Nat)
 |e
def DK.eff:DK->Bool
 |.e=>true
 |_=>false
noncomputable def AgV(rec:List DK)(j:Nat):Option Nat:=
 List.rec (motive:=fun _=>Nat->Nat->Option Nat) (fun _ _=>none) (fun d _ ih i j=>Bool.rec (ih (Nat.succ i) j) (Nat.rec (motive:=fun _=>Option Nat) (some i) (fun j _=>ih (Nat.succ i) j) j) d.eff) rec 0 j
noncomputable def Aa8(ops:Array Oper)(rec:List DK)(i j:Nat):Option Nat:=
 List.rec (motive:=fun _=>Nat->Option Nat) (fun _=>none) (fun _ _ ih j=>match AgV rec j with
  |none=>none
  |some e=>cond (((Ep [] ops.toList).getD e 0).testBit i) (some j) (ih (Nat.succ j))) rec j
noncomputable def AiK(lim:Nat->Nat->Option Nat)(i:Nat):DK->Ef
 |.q=>(false,none)
 |.l j _ _ _=>(false,lim i j)
 |.e=>(true,none)
noncomputable def N1(lim:Nat->Nat->Option Nat):Nat->List DK->List Ef
 |_,[]=>[]
 |i,d::ds=>AiK lim i d::N1 lim (i+1) ds
noncomputable def ME(q off n j:Nat)(c0:Option (List D))(lim:Option Nat)(sts:List St)(c:Nat):Prop:=
 List.rec (motive:=fun _=>Nat->Prop) (fun _=>True) (fun τ _ ih c=>Bool.rec
  (match lim with
   |some b=>Bool.rec (ih (Nat.succ c)) (B5 τ q off n=c0/\ih (Nat.succ c)) (Nat.ble c b)
   |none=>B5 τ q off n=c0/\ih (Nat.succ c)) (ih (Nat.succ c)) (Nat.beq c j)) sts c
theorem QR{q off n j:Nat}{c0:Option (List D)}{lim:Option Nat}:∀{sts:List St} {c:Nat},ME q off n j c0 lim sts c->∀x τ,sts[x]?=some τ->c+x≠j->(∀b,lim=some b->c+x<=b)->B5 τ q off n=c0
 |[],c,_,x,τ,hx,_,_=>by simp at hx
 |τ0::sts,c,h,x,τ,hx,hj,hb=>by
  have h':Bool.rec (match (generalizing:=false) lim with
   |some b=>Bool.rec (ME q off n j c0 lim sts (Nat.succ c)) (B5 τ0 q off n=c0/\ME q off n j c0 lim sts (Nat.succ c)) (Nat.ble c b)
   |none=>B5 τ0 q off n=c0/\ME q off n j c0 lim sts (Nat.succ c)) (ME q off n j c0 lim sts (Nat.succ c)) (Nat.beq c j):=h
  have rest:ME q off n j c0 lim sts (Nat.succ c):=by
   cases h1:Nat.beq c j with
   |true=>rw[h1] at h';exact h'
   |false=>
    rw[h1] at h'
    simp only at h'
    cases lim with
    |none=>exact h'.2
    |some b=>
     simp only at h'
     cases h2:Nat.ble c b with
     |true=>rw[h2] at h';exact h'.2
     |false=>rw[h2] at h';exact h'
  cases x with
  |succ x=>exact QR rest x τ (by simpa using hx) (by simp only[Nat.succ_eq_add_one];omega) (fun b e=>by have:=hb b e;simp only[Nat.succ_eq_add_one];omega)
  |zero=>
   simp at hx;subst hx
   have h1:Nat.beq c j=false:=by
    cases h1:Nat.beq c j with
    |false=>rfl
    |true=>exact absurd (HS h1) (by simpa using hj)
   rw[h1] at h'
   simp only at h'
   cases lim with
   |none=>exact h'.1
   |some b=>
    have:Nat.ble c b=true:=Nat.ble_eq_true_of_le (by simpa using hb b rfl)
    simp only[this] at h'
    exact h'.1
noncomputable def Gr(lim:Nat->Nat->Option Nat)(sts:List St)(rec:List DK)(i:Nat):Prop:=
 List.rec (motive:=fun _=>Nat->Prop) (fun _=>True) (fun d _ ih i=>match d with
  |.l j q off n=>(match sts[j]? with
   |some τ=>ME q off n j (B5 τ q off n) (lim i j) sts 0/\ih (Nat.succ i)
   |none=>False)
  |_=>ih (Nat.succ i)) rec i
def Lp:List DK->Bool
 |[]=>true
 |.l .. ::_=>false
 |_::rec=>Lp rec
theorem J5{lim:Nat->Nat->Option Nat}{sts:List St}:∀{rec:List DK} {i:Nat},Lp rec=true->Gr lim sts rec i
 |[],_,_=>trivial
 |.q::rec,i,h=>J5 (rec:=rec) (i:=i+1) h
 |.e::rec,i,h=>J5 (rec:=rec) (i:=i+1) h
 |.l .. ::_,_,h=>by simp[Lp] at h
noncomputable def exs(s:Sc)(K:Sc->Prop):Prop:=
 Sc.rec (motive:=fun _=>Prop) (K .z) (fun _ ih=>∃a,ih a) (fun s t _ _=>K (.b s t)) (fun h s _=>K (.h h s)) s
theorem Xi{K:Sc->Prop}:∀{s:Sc},exs s K->∃s',K s'
 |.z,h=>⟨_,h⟩
 |.e f,h=>by obtain⟨a,h⟩:=(h:∃a,exs (f a) K);exact Xi h
 |.b s t,h=>⟨_,h⟩
 |.h i s,h=>⟨_,h⟩
abbrev KD:=List DK->List St->Sc->List D->Prop
noncomputable def vDr(P:Program)(im:List Nat)(ops:Array Oper)(L:List Oper)(rec:List DK)(sts:List St)(j:Nat)(s:Sc)(env:List D)(σ:St)(K:KD):Prop:=
 List.rec (motive:=fun _=>List DK->List St->Nat->Sc->List D->St->Prop) (fun rec sts _ s env _=>K rec sts s env)
  (fun o _ ih rec sts j s env σ=>exs s fun s=>FT ops rec.length o s env fun b s env=>
   Bool.rec (Da env o.dst (.tup []) fun env=>AF rec .q fun rec=>ih rec sts j s env σ)
    (RM env o.op.operands.toList fun ds=>vOp P im o ds σ s fun s d σ' kd=>Da env o.dst d fun env=>match kd with
     |.pure=>AF rec .q fun rec=>ih rec sts j s env σ
     |.load q off n=>AF rec (.l j q off n) fun rec=>ih rec sts j s env σ
     |.eff=>AF rec .e fun rec=>AF sts σ' fun sts=>ih rec sts (Nat.succ j) s env σ') b) L rec sts j s env σ
noncomputable def Afr(P:Program)(im:List Nat)(ops:Array Oper)(s:Sc)(env:List D)(σ:St)(K:Sc->List D->St->Prop):Prop:=
 cond (Nat.blt ops.size 1000000) (vDr P im ops ops.toList [] [σ] 0 s env σ fun rec sts s env=>
  cond (He ops (N1 (Aa8 ops rec) 0 rec)) (match sts.getLast? with
   |some σ=>Bool.rec (Gr (Aa8 ops rec) sts rec 0/\K s env σ) (K s env σ) (Lp rec)
   |none=>False) False) False
theorem Fj{lim:Nat->Nat->Option Nat}{sts:List St}{d:DK}{rec:List DK}{i:Nat}(h:Gr lim sts (d::rec) i):Gr lim sts rec (i+1):=by
 have h':(match (generalizing:=false) d with
  |.l j q off n=>(match sts[j]? with
   |some τ=>ME q off n j (B5 τ q off n) (lim i j) sts 0/\Gr lim sts rec (Nat.succ i)
   |none=>False)
  |_=>Gr lim sts rec (Nat.succ i)):=h
 split at h'
 ·split at h'
  ·exact h'.2
  ·exact h'.elim
 ·exact h'
theorem Cu{P:Program}{o:Oper}{env:List D}{σ σ':St}{d:D}(h:Ah P o (o.op.operands.toList.map (evN env)) σ d σ'):Ah P o (Ek env o) σ d σ':=by
 intro E g a w K Q hw hds hK
 refine h E g a w K Q hw ?_ hK
 unfold Ek at hds
 generalize o.op.operands.toList=l at hds⊢
 induction l with
 |nil=>simp[Ac]
 |cons x l ih=>
  simp only[HU,Ac] at hds⊢
  obtain⟨u,us,e,h1,h2⟩:=hds
  simp only[HH] at e
  obtain⟨rfl,rfl⟩:=e
  refine⟨_,_,rfl,?_,ih h2⟩
  cases x with
  |const u=>exact Rz
  |_=>exact h1
theorem NV{P:Program}{im:List Nat}{ops:Array Oper}{n:Nat}{K:KD}(hops:ops.size<1000000):∀{L:List Oper} {rec:List DK} {sts:List St} {j:Nat} {s:Sc} {env:List D} {σ:St},env.length=n->sts.length=j+1->sts[j]?=some σ->vDr P im ops L rec sts j s env σ K->
  ∃rec' sts' s' env' σ',K (rec++rec') (sts++sts') s' env'/\env'.length=n/\rec'.length=L.length/\(sts++sts')[j+sts'.length]?=some σ'/\
   ∀lim:Nat->Nat->Option Nat,Gr lim (sts++sts') rec' rec.length->∃vals,Fy P ops (fun _=>sts++sts') 1000000 L env j vals (N1 lim rec.length rec') env' (j+sts'.length)
 |[],rec,sts,j,s,env,σ,hn,hl,hs,h=>by
  refine⟨[],[],s,env,σ,?_,hn,rfl,by simpa using hs,fun lim _=>⟨[],.nil⟩⟩
  have h':K rec sts s env:=h
  simpa using h'
 |o::L,rec,sts,j,s,env,σ,hn,hl,hs,h=>by
  have h':exs s fun s=>FT ops rec.length o s env fun b s env=>
   Bool.rec (Da env o.dst (.tup []) fun env=>AF rec .q fun rec=>vDr P im ops L rec sts j s env σ K)
    (RM env o.op.operands.toList fun ds=>vOp P im o ds σ s fun s d σ' kd=>Da env o.dst d fun env=>match kd with
     |.pure=>AF rec .q fun rec=>vDr P im ops L rec sts j s env σ K
     |.load q off n=>AF rec (.l j q off n) fun rec=>vDr P im ops L rec sts j s env σ K
     |.eff=>AF rec .e fun rec=>AF sts σ' fun sts=>vDr P im ops L rec sts (Nat.succ j) s env σ' K) b:=h
  have hne:ops.size- (L.length+1)≠1000000:=by omega
  have hput:∀(d:D),(AN env o.dst d).length=n:=fun d=>by cases o.dst<;>simp[AN,hn]
  obtain⟨s0,h'⟩:=Xi h'
  obtain⟨b,s1,h1,h2⟩:=KH h'
  cases b with
  |false=>
   have h3:Da env o.dst (.tup []) fun env=>AF rec .q fun rec=>vDr P im ops L rec sts j s1 env σ K:=h1
   rw[CW,AE] at h3
   obtain⟨rec',sts',s',env',σ',k1,k2,k3,k4,k5⟩:=NV hops (hput _) hl hs h3
   refine⟨.q::rec',sts',s',env',σ',by simpa using k1,k2,by simp[k3],k4,fun lim hlo=>?_⟩
   obtain⟨vals,hv⟩:=k5 lim (by have:=Fj hlo;simpa using this)
   refine⟨_,.skip hne h2 (by simpa[N1] using hv)⟩
  |true=>
   have h3:RM env o.op.operands.toList fun ds=>vOp P im o ds σ s1 fun s d σ' kd=>Da env o.dst d fun env=>match kd with
     |.pure=>AF rec .q fun rec=>vDr P im ops L rec sts j s env σ K
     |.load q off n=>AF rec (.l j q off n) fun rec=>vDr P im ops L rec sts j s env σ K
     |.eff=>AF rec .e fun rec=>AF sts σ' fun sts=>vDr P im ops L rec sts (Nat.succ j) s env σ' K:=h1
   rw[Lz] at h3
   obtain⟨s2,d,σ2,kd,h4,h5⟩:=Cp h3
   rw[CW] at h4
   have hidx:ops.size- (L.length+1)≠1000000:=hne
   cases kd with
   |pure=>
    have h6:AF rec .q fun rec=>vDr P im ops L rec sts j s2 (AN env o.dst d) σ K:=h4
    rw[AE] at h6
    obtain⟨rec',sts',s',env',σ',k1,k2,k3,k4,k5⟩:=NV hops (hput _) hl hs h6
    refine⟨.q::rec',sts',s',env',σ',by simpa using k1,k2,by simp[k3],k4,fun lim hlo=>?_⟩
    obtain⟨vals,hv⟩:=k5 lim (by have:=Fj hlo;simpa using this)
    exact⟨_,.quiet hne h2 (fun _ τ _=>Cu (h5.2 τ)) (by simpa[N1] using hv)⟩
   |load q off m=>
    have h6:AF rec (.l j q off m) fun rec=>vDr P im ops L rec sts j s2 (AN env o.dst d) σ K:=h4
    rw[AE] at h6
    obtain⟨rec',sts',s',env',σ',k1,k2,k3,k4,k5⟩:=NV hops (hput _) hl hs h6
    refine⟨.l j q off m::rec',sts',s',env',σ',by simpa using k1,k2,by simp[k3],k4,fun lim hlo=>?_⟩
    obtain⟨vals,hv⟩:=k5 lim (by have:=Fj hlo;simpa using this)
    have hv':Fy P ops (fun _=>sts++sts') 1000000 L (AN env o.dst d) j vals (N1 lim (rec.length+1) rec') env' (j+sts'.length):=by simpa using hv
    have hjs:(sts++sts')[j]?=some σ:=by rw[HQ (by omega)];exact hs
    have hsame:∀x τ,(sts++sts')[x]?=some τ->(∀b,lim rec.length j=some b->x<=b)->Ah P o (Ek env o) τ d τ:=by
     intro x τ hx hb
     refine Cu (h5.2.2 τ ?_)
     by_cases e:x=j
     ·subst e;rw[hjs] at hx;simp at hx;rw[hx]
     ·have hl0:(match (sts++sts')[j]? with
       |some τ=>ME q off m j (B5 τ q off m) (lim rec.length j) (sts++sts') 0/\Gr lim (sts++sts') rec' (Nat.succ rec.length)
       |none=>False):=hlo
      rw[hjs] at hl0
      exact QR hl0.1 x τ hx (by simpa using e) (fun b hb'=>by simpa using hb b hb')
    cases hlim:lim rec.length j with
    |none=>
     refine⟨d::vals,?_⟩
     simp only[N1,AiK,hlim]
     refine .quiet hne h2 (fun _ τ hτ=>?_) hv'
     obtain⟨x,hx⟩:=List.getElem?_of_mem hτ
     exact hsame x τ hx (fun b hb=>by rw[hlim] at hb;simp at hb)
    |some b=>
     refine⟨d::vals,?_⟩
     simp only[N1,AiK,hlim]
     exact .quietW b hne h2 (fun _ c τ hc hτ=>hsame c τ hτ (fun b' hb=>by rw[hlim] at hb;simp at hb;omega)) hv'
   |eff=>
    have h6:AF rec .e fun rec=>AF sts σ2 fun sts=>vDr P im ops L rec sts (Nat.succ j) s2 (AN env o.dst d) σ2 K:=h4
    rw[AE,AE] at h6
    obtain⟨rec',sts',s',env',σ',k1,k2,k3,k4,k5⟩:=NV hops (hput _) (by simp[hl]) (by rw[HN (by omega)];simp[hl]) h6
    refine⟨.e::rec',σ2::sts',s',env',σ',by simpa using k1,k2,by simp[k3],?_,fun lim hlo=>?_⟩
    ·have e:j+(σ2::sts').length=Nat.succ j+sts'.length:=by simp;omega
     rw[e];simpa using k4
    ·obtain⟨vals,hv⟩:=k5 lim (by have:=Fj hlo;simpa using this)
     have hv':Fy P ops (fun _=>sts++σ2::sts') 1000000 L (AN env o.dst d) (j+1) vals (N1 lim (rec.length+1) rec') env' (j+(σ2::sts').length):=by
      have e:j+(σ2::sts').length=Nat.succ j+sts'.length:=by simp;omega
      rw[e];simpa using hv
     refine⟨_,.eff hne h2 (fun _ τ hτ _=>⟨σ2,?_,?_⟩) hv'⟩
     ·rw[HN (by omega)];simp[hl]
     ·rw[HQ (by omega),hs] at hτ
      simp at hτ;subst hτ
      exact Cu h5
theorem YQ{C:Ent->Ent->Prop}{P:Program}{R:List D->St->Prop}{k:List KI}(hm:P.follows .mixedOrders=true){im:List Nat}{id:Nat}{ops:Array Oper}{s:Sc}{env:List D}{σ:St}{n:Nat}{K:Sc->List D->St->Prop}(hn:env.length=n)
  (hK:∀s env σ,env.length=n->K s env σ->A1 C P R k env σ) (h:Afr P im ops s env σ K):A1 C P R (.code (.region id ops true)::k) env σ:=by
 obtain⟨h1,h2⟩:=An h
 have hops:ops.size<1000000:=HX h1
 obtain⟨rec,sts,s',env',σ',k1,k2,k3,k4,k5⟩:=NV hops hn (by simp) (by simp) h2
 obtain⟨h3,h5⟩:=An k1
 simp only[nil_append] at h3 h5
 simp only[Io] at k4
 split at h5
 ·rename_i τ hτ
  have h6:Gr (Aa8 ops rec) ([σ]++sts) rec 0/\K s' env' τ:=by
   cases hb:Lp rec with
   |true=>rw[hb] at h5;exact⟨J5 hb,h5⟩
   |false=>rw[hb] at h5;exact h5
  obtain⟨h4,h5⟩:=h6
  obtain⟨vals,hv⟩:=k5 (Aa8 ops rec) (by simpa using h4)
  simp only[Io] at hv
  have:τ=σ':=by
   rw[List.getLast?_eq_getElem?] at hτ
   rw[show([σ]++sts).length-1=sts.length by simp] at hτ
   rw[k4] at hτ;simpa using hτ.symm
  subst this
  refine GI hm (fun _=>[σ]++sts) 1000000 (by simp) k4 hv ?_ (hK _ _ _ k2 h5)
  simpa using h3
 ·exact h5.elim
structure Ld where
 q:Nat
 off:Nat
 n:Nat
 c:Option (List D)
noncomputable def NG(q off n:Nat)(c0:Option (List D))(sts:List St):Prop:=List.rec (motive:=fun _=>Prop) True (fun τ _ ih=>B5 τ q off n=c0/\ih) sts
theorem M0{q off n:Nat}{c0:Option (List D)}:∀{sts:List St},NG q off n c0 sts->∀τ∈sts,B5 τ q off n=c0
 |[],_,τ,h=>absurd h (by simp)
 |σ::sts,h,τ,hτ=>by
  have h':B5 σ q off n=c0/\NG q off n c0 sts:=h
  rcases Ij.1 hτ with rfl|hτ
  ·exact h'.1
  ·exact M0 h'.2 τ hτ
noncomputable def AhE(sts:List St)(l:List Ld):Prop:=List.rec (motive:=fun _=>Prop) True (fun x _ ih=>NG x.q x.off x.n x.c sts/\ih) l
theorem Qf{sts:List St}:∀{l:List Ld},AhE sts l->∀x∈l,∀τ∈sts,B5 τ x.q x.off x.n=x.c
 |[],_,x,h=>absurd h (by simp)
 |y::l,h,x,hx=>by
  have h':NG y.q y.off y.n y.c sts/\AhE sts l:=h
  rcases Ij.1 hx with rfl|hx
  ·exact M0 h'.1
  ·exact Qf h'.2 x hx
def NT(cs:List D)(τ:St):St:=⟨τ.H++[some cs],τ.own⟩
def Y4(ad τ:St):St:=⟨τ.H++ad.H,ad.own++τ.own⟩
noncomputable def AbV(f:St->Prop)(l:List St):Prop:=List.rec (motive:=fun _=>Prop) True (fun τ _ p=>f τ/\p) l
theorem Sk{f:St->Prop}:∀{l:List St},AbV f l->∀τ∈l,f τ
 |[],_,τ,h=>by simp at h
 |x::l,h,τ,hτ=>by
  have h:f x/\AbV f l:=h
  rcases Ij.1 hτ with rfl|hτ
  ·exact h.1
  ·exact Sk h.2 τ hτ
abbrev KD2:=List St->List St->List Ld->List Ef->Sc->List D->Prop
noncomputable def UH(P:Program)(im:List Nat)(ops:Array Oper)(fr:Nat)(ad:St)(K:KD2)(L:List Oper):Nat->Bool->(St->St->Prop)->List St->List St->List Ld->List Ef->Sc->List D->St->St->Prop:=
 List.rec (motive:=fun _=>Nat->Bool->(St->St->Prop)->List St->List St->List Ld->List Ef->Sc->List D->St->St->Prop) (fun _ _ _ LF LT lds ef s env _ _=>K LF LT lds ef s env)
  (fun o _ ih i af pd LF LT lds ef s env σF σT=>exs s fun s=>FT ops i o s env fun b s env=>
   Bool.rec
    (Bool.rec (Da env o.dst (.tup []) fun env=>AF ef (false,none) fun ef=>ih (Nat.succ i) af pd LF LT lds ef s env σF σT) False (Nat.beq i fr))
    (Bool.rec
     (RM env o.op.operands.toList fun ds=>vOp P im o ds (Bool.rec σF σT af) s fun s1 d σ1 kd=>match kd with
      |.pure=>Da env o.dst d fun env=>AF ef (false,none) fun ef=>ih (Nat.succ i) af pd LF LT lds ef s1 env σF σT
      |.load q off n=>Da env o.dst d fun env=>AF ef (false,none) fun ef=>AF lds ⟨q,off,n,B5 (Bool.rec σF σT af) q off n⟩ fun lds=>ih (Nat.succ i) af pd LF LT lds ef s1 env σF σT
      |.eff=>Bool.rec
       (vOp P im o ds σT s fun _ d2 σ2 kd2=>match kd2 with
        |.eff=>d2=d/\Da env o.dst d fun env=>AF ef (true,none) fun ef=>AF LF σ1 fun LF=>AF LT σ2 fun LT=>ih (Nat.succ i) af pd LF LT lds ef s1 env σ1 σ2
        |_=>False)
       (cond (Tg ops i fr) (Da env o.dst d fun env=>AF ef (true,none) fun ef=>AF LT σ1 fun LT=>ih (Nat.succ i) af pd LF LT lds ef s1 env σF σ1)
        (cond (Nat.beq LF.length LT.length) (vOp P im o ds σF s fun _ d2 σ2 kd2=>match kd2 with
         |.eff=>d2=d/\pd σ2 σ1/\Da env o.dst d fun env=>AF ef (true,none) fun ef=>AF LF σ2 fun LF=>AF LT σ1 fun LT=>ih (Nat.succ i) af pd LF LT lds ef s1 env σ2 σ1
         |_=>False) False)) af)
     (match (generalizing:=false) o.op,af with
      |.alloc e,false=>(match M3 P e with
       |some xs=>cond (LF.all fun τ=>Nat.beq τ.H.length σF.H.length) (LT=LF.map (NT (xs.map .v))/\Da env o.dst (.ptr σF.H.length 0) fun env=>AF ef (false,none) fun ef=>ih (Nat.succ i) true (fun τ τ1=>τ1=NT (xs.map .v) τ/\τ.H.length=σF.H.length) LF LT lds ef s env σF σT) False
       |none=>False)
      |_,false=>(match s with
       |.h (.o d _) s=>RM env o.op.operands.toList fun ds=>LT=LF.map (Y4 ad)/\AbV (fun τ=>Ah P o ds τ d (Y4 ad τ)) LF/\Da env o.dst d fun env=>AF ef (false,none) fun ef=>ih (Nat.succ i) true (fun τ τ1=>τ1=Y4 ad τ/\Ah P o ds τ d (Y4 ad τ)) LF LT lds ef s env σF σT
       |_=>False)
      |_,_=>False) (Nat.beq i fr)) b) L
theorem DW{P:Program}{im:List Nat}{ops:Array Oper}{fr n:Nat}{ad:St}{K:KD2}:∀{L:List Oper} {i:Nat} {af:Bool} {pd:St->St->Prop} {LF LT:List St} {lds:List Ld} {ef:List Ef} {s:Sc} {env:List D} {σF σT:St} {j:Nat},env.length=n->i+L.length=ops.size->LT.length=j+1->LT[j]?=some σT->
  (af=false->LF.length=j+1)->(LF.length=j+1->LF[j]?=some σF)->LF.length<=j+1->UH P im ops fr ad K L i af pd LF LT lds ef s env σF σT->
  ∃LF' LT' lds' ef' s' env' σ',K (LF++LF') (LT++LT') (lds++lds') (ef++ef') s' env'/\env'.length=n/\(LT++LT')[j+LT'.length]?=some σ'/\(af=true->(LF.length=LT.length∨LF'=[])/\∀(c:Nat) (τ:St),LF'[c]?=some τ->∃τ1,LT'[c]?=some τ1/\pd τ τ1)/\
   ((∀x∈lds',∀τ∈ (LF++LF')++(LT++LT'),B5 τ x.q x.off x.n=x.c)->∃vals,Fy P ops (Cz (LF++LF') (LT++LT')) fr L env j vals ef' env' (j+LT'.length))
 |[],i,af,pd,LF,LT,lds,ef,s,env,σF,σT,j,hn,hi,hl,hs,hF,hF2,hF3,h=>by
  refine⟨[],[],[],[],s,env,σT,?_,hn,by simpa using hs,fun _=>⟨.inr rfl,fun c τ hc=>by simp at hc⟩,fun _=>⟨[],.nil⟩⟩
  have h':K LF LT lds ef s env:=h
  simpa using h'
 |o::L,i,af,pd,LF,LT,lds,ef,s,env,σF,σT,j,hn,hi,hl,hs,hF,hF2,hF3,h=>by
  have h':exs s fun s=>FT ops i o s env fun b s env=>
   Bool.rec
    (Bool.rec (Da env o.dst (.tup []) fun env=>AF ef (false,none) fun ef=>UH P im ops fr ad K L (Nat.succ i) af pd LF LT lds ef s env σF σT) False (Nat.beq i fr))
    (Bool.rec
     (RM env o.op.operands.toList fun ds=>vOp P im o ds (Bool.rec σF σT af) s fun s1 d σ1 kd=>match kd with
      |.pure=>Da env o.dst d fun env=>AF ef (false,none) fun ef=>UH P im ops fr ad K L (Nat.succ i) af pd LF LT lds ef s1 env σF σT
      |.load q off n=>Da env o.dst d fun env=>AF ef (false,none) fun ef=>AF lds ⟨q,off,n,B5 (Bool.rec σF σT af) q off n⟩ fun lds=>UH P im ops fr ad K L (Nat.succ i) af pd LF LT lds ef s1 env σF σT
      |.eff=>Bool.rec
       (vOp P im o ds σT s fun _ d2 σ2 kd2=>match kd2 with
        |.eff=>d2=d/\Da env o.dst d fun env=>AF ef (true,none) fun ef=>AF LF σ1 fun LF=>AF LT σ2 fun LT=>UH P im ops fr ad K L (Nat.succ i) af pd LF LT lds ef s1 env σ1 σ2
        |_=>False)
       (cond (Tg ops i fr) (Da env o.dst d fun env=>AF ef (true,none) fun ef=>AF LT σ1 fun LT=>UH P im ops fr ad K L (Nat.succ i) af pd LF LT lds ef s1 env σF σ1)
        (cond (Nat.beq LF.length LT.length) (vOp P im o ds σF s fun _ d2 σ2 kd2=>match kd2 with
         |.eff=>d2=d/\pd σ2 σ1/\Da env o.dst d fun env=>AF ef (true,none) fun ef=>AF LF σ2 fun LF=>AF LT σ1 fun LT=>UH P im ops fr ad K L (Nat.succ i) af pd LF LT lds ef s1 env σ2 σ1
         |_=>False) False)) af)
     (match (generalizing:=false) o.op,af with
      |.alloc e,false=>(match M3 P e with
       |some xs=>cond (LF.all fun τ=>Nat.beq τ.H.length σF.H.length) (LT=LF.map (NT (xs.map .v))/\Da env o.dst (.ptr σF.H.length 0) fun env=>AF ef (false,none) fun ef=>UH P im ops fr ad K L (Nat.succ i) true (fun τ τ1=>τ1=NT (xs.map .v) τ/\τ.H.length=σF.H.length) LF LT lds ef s env σF σT) False
       |none=>False)
      |_,false=>(match s with
       |.h (.o d _) s=>RM env o.op.operands.toList fun ds=>LT=LF.map (Y4 ad)/\AbV (fun τ=>Ah P o ds τ d (Y4 ad τ)) LF/\Da env o.dst d fun env=>AF ef (false,none) fun ef=>UH P im ops fr ad K L (Nat.succ i) true (fun τ τ1=>τ1=Y4 ad τ/\Ah P o ds τ d (Y4 ad τ)) LF LT lds ef s env σF σT
       |_=>False)
      |_,_=>False) (Nat.beq i fr)) b:=h
  clear h
  have hidx:ops.size- (L.length+1)=i:=by simp at hi;omega
  have hi':Nat.succ i+L.length=ops.size:=by simp at hi;omega
  have hput:∀(d:D),(AN env o.dst d).length=n:=fun d=>by cases o.dst<;>simp[AN,hn]
  obtain⟨s0,h'⟩:=Xi h'
  obtain⟨b,s1,h1,h2⟩:=KH h'
  have snoc2:∀{α:Type} (a:List α) (x:α) (r:List α),a++[x]++r=a++x::r:=fun a x r=>by simp
  cases b with
  |false=>
   cases hb:Nat.beq i fr with
   |true=>simp only[hb] at h1
   |false=>
    have hne:ops.size- (L.length+1)≠fr:=by rw[hidx];exact fun e=>by rw[e,Nat.beq_refl] at hb;simp at hb
    simp only[hb] at h1
    rw[CW,AE] at h1
    obtain⟨LF',LT',lds',ef',s',env',σ',k1,k2,k3,k4,k5⟩:=DW (hput _) hi' hl hs hF hF2 hF3 h1
    refine⟨LF',LT',lds',(false,none)::ef',s',env',σ',by simpa using k1,k2,k3,k4,fun hlo=>?_⟩
    obtain⟨vals,hv⟩:=k5 hlo
    exact⟨_,.skip hne h2 hv⟩
  |true=>
   cases hb:Nat.beq i fr with
   |true=>
    simp only[hb] at h1
    split at h1
    ·rename_i e heq _
     split at h1
     ·rename_i xs hz
      obtain⟨hall,h3,h4⟩:=An h1
      rw[CW,AE] at h4
      have hF1:=hF rfl
      obtain⟨LF',LT',lds',ef',s',env',σ',k1,k2,k3,k4,k5⟩:=DW (af:=true) (hput _) hi' hl hs (fun e=>by simp at e) hF2 hF3 h4
      refine⟨LF',LT',lds',(false,none)::ef',s',env',σ',by simpa using k1,k2,k3,fun e=>by simp at e,fun hlo=>?_⟩
      obtain⟨vals,hv⟩:=k5 hlo
      have hLF:=(k4 rfl).2
      refine⟨_,.free (by rw[hidx];exact(HS hb).symm) h2 (fun c τ hc=>?_) hv⟩
      have hc:(LF++LF')[c]?=some τ:=by simpa[Cz] using hc
      have hopA:∀τ:St,τ.H.length=σF.H.length->Ah P o (Ek env o) τ (.ptr σF.H.length 0) (NT (xs.map .v) τ):=fun τ hlen=>by
       rw[←hlen]
       have:=O9 (P:=P) (o:=o) (σ:=τ) heq hz
       exact Cu (by simpa[heq,Op.operands,NT] using this)
      rcases Nat.lt_or_ge c LF.length with hcl|hcl
      rotate_left
      ·rw[HN (by omega)] at hc
       obtain⟨τ1,g1,rfl,g3⟩:=hLF _ _ hc
       refine⟨_,?_,hopA τ g3⟩
       simp only[Cz]
       rw[HN (by omega),show c-LT.length=c-LF.length by omega];exact g1
      rw[HQ hcl] at hc
      refine⟨NT (xs.map .v) τ,?_,?_⟩
      ·have:LT[c]?=some (NT (xs.map .v) τ):=by rw[h3,Ik,hc];rfl
       have hlt:=(H7.1 this).1
       simp only[Cz]
       rw[HQ hlt];exact this
      ·have hlen:=Ip.1 hall τ (HA hc)
       have hlen:=HS hlen
       exact hopA τ hlen
     ·exact h1.elim
    ·split at h1
     ·rename_i d _ s2
      rw[Lz] at h1
      obtain⟨h3,hop,h4⟩:=h1
      rw[CW,AE] at h4
      have hF1:=hF rfl
      obtain⟨LF',LT',lds',ef',s',env',σ',k1,k2,k3,k4,k5⟩:=DW (af:=true) (hput _) hi' hl hs (fun e=>by simp at e) hF2 hF3 h4
      refine⟨LF',LT',lds',(false,none)::ef',s',env',σ',by simpa using k1,k2,k3,fun e=>by simp at e,fun hlo=>?_⟩
      obtain⟨vals,hv⟩:=k5 hlo
      have hLF:=(k4 rfl).2
      refine⟨_,.free (by rw[hidx];exact(HS hb).symm) h2 (fun c τ hc=>?_) hv⟩
      have hc:(LF++LF')[c]?=some τ:=by simpa[Cz] using hc
      rcases Nat.lt_or_ge c LF.length with hcl|hcl
      rotate_left
      ·rw[HN (by omega)] at hc
       obtain⟨τ1,g1,rfl,g3⟩:=hLF _ _ hc
       refine⟨_,?_,Cu g3⟩
       simp only[Cz]
       rw[HN (by omega),show c-LT.length=c-LF.length by omega];exact g1
      rw[HQ hcl] at hc
      refine⟨Y4 ad τ,?_,Cu (Sk hop τ (HA hc))⟩
      have:LT[c]?=some (Y4 ad τ):=by rw[h3,Ik,hc];rfl
      have hlt:=(H7.1 this).1
      simp only[Cz]
      rw[HQ hlt];exact this
     ·exact h1.elim
    ·exact h1.elim
   |false=>
    have hne:ops.size- (L.length+1)≠fr:=by rw[hidx];exact fun e=>by rw[e,Nat.beq_refl] at hb;simp at hb
    simp only[hb] at h1
    rw[Lz] at h1
    obtain⟨s2,d,σ1,kd,h4,h5⟩:=Cp h1
    cases kd with
    |pure=>
     simp only at h4
     rw[CW,AE] at h4
     obtain⟨LF',LT',lds',ef',s',env',σ',k1,k2,k3,k4,k5⟩:=DW (hput _) hi' hl hs hF hF2 hF3 h4
     refine⟨LF',LT',lds',(false,none)::ef',s',env',σ',by simpa using k1,k2,k3,k4,fun hlo=>?_⟩
     obtain⟨vals,hv⟩:=k5 hlo
     exact⟨_,.quiet hne h2 (fun _ τ _=>Cu (h5.2 τ)) hv⟩
    |load q off m=>
     simp only at h4
     rw[CW,AE,AE] at h4
     obtain⟨LF',LT',lds',ef',s',env',σ',k1,k2,k3,k4,k5⟩:=DW (hput _) hi' hl hs hF hF2 hF3 h4
     refine⟨LF',LT',_::lds',(false,none)::ef',s',env',σ',by simpa using k1,k2,k3,k4,fun hlo=>?_⟩
     obtain⟨vals,hv⟩:=k5 (fun x hx=>hlo x (List.mem_cons_of_mem _ hx))
     refine⟨_,.quiet hne h2 (fun b τ hτ=>Cu (h5.2.2 τ ?_)) hv⟩
     refine hlo _ (List.mem_cons_self ..) τ ?_
     cases b
     ·exact Iq.2 (.inl (by simpa[Cz] using hτ))
     ·exact Iq.2 (.inr (by simpa[Cz] using hτ))
    |eff=>
     cases af with
     |true=>
      simp only at h4
      cases hnd:Tg ops i fr with
      |true=>
       rw[hnd,cond_true] at h4
       have hneed:=hnd
       rw[CW,AE,AE] at h4
       obtain⟨LF',LT',lds',ef',s',env',σ',k1,k2,k3,k4,k5⟩:=DW (j:=j+1) (hput _) hi' (by simp[hl]) (by rw[HN (by omega)];simp[hl]) (fun e=>by simp at e) (fun e=>by omega) (by omega) h4
       have e1:j+(σ1::LT').length=j+1+LT'.length:=by simp;omega
       have hLF0:LF'=[]:=by
        rcases(k4 rfl).1 with h|h
        ·simp only[HI,H9,HD] at h;omega
        ·exact h
       rw[snoc2] at k1 k3
       refine⟨LF',σ1::LT',lds',(true,none)::ef',s',env',σ',by simpa using k1,k2,by rw[e1];exact k3,fun _=>⟨.inr hLF0,fun c τ hc=>by rw[hLF0] at hc;simp at hc⟩,fun hlo=>?_⟩
       obtain⟨vals,hv⟩:=k5 (by rw[snoc2];exact hlo)
       rw[snoc2] at hv
       rw[e1]
       refine⟨_,.eff hne h2 (fun b τ hτ hneedF=>?_) hv⟩
       cases b with
       |false=>have:=hneedF rfl;rw[hidx,hneed] at this;simp at this
       |true=>
        have hτ:(LT++σ1::LT')[j]?=some τ:=by simpa[Cz] using hτ
        rw[HQ (by omega),hs] at hτ
        simp at hτ;subst hτ
        refine⟨σ1,?_,Cu h5⟩
        simp only[Cz]
        rw[HN (by omega)];simp[hl]
      |false=>
       rw[hnd,cond_false] at h4
       obtain⟨hlen,h4⟩:=An h4
       have hlen:=HS hlen
       have hF1:LF.length=j+1:=by omega
       obtain⟨s3,d2,σ2,kd2,h6,h7⟩:=Cp h4
       cases kd2 with
       |pure=>exact h6.elim
       |load=>exact h6.elim
       |eff=>
        obtain⟨rfl,hpd,h6⟩:=h6
        rw[CW,AE,AE,AE] at h6
        obtain⟨LF',LT',lds',ef',s',env',σ',k1,k2,k3,k4,k5⟩:=DW (af:=true) (j:=j+1) (hput _) hi' (by simp[hl]) (by rw[HN (by omega)];simp[hl]) (fun _=>by simp[hF1]) (fun _=>by rw[HN (by omega)];simp[hF1]) (by simp[hF1]) h6
        have e1:j+(σ1::LT').length=j+1+LT'.length:=by simp;omega
        rw[snoc2] at k3
        rw[snoc2,snoc2] at k1
        refine⟨σ2::LF',σ1::LT',lds',(true,none)::ef',s',env',σ',by simpa using k1,k2,by rw[e1];exact k3,fun _=>⟨.inl hlen,fun c τ hc=>?k4⟩,fun hlo=>?_⟩
        case k4=>
         cases c with
         |zero=>simp at hc;subst hc;exact⟨σ1,rfl,hpd⟩
         |succ c=>exact(k4 rfl).2 c τ (by simpa using hc)
        obtain⟨vals,hv⟩:=k5 (by rw[snoc2,snoc2];exact hlo)
        rw[snoc2,snoc2] at hv
        rw[e1]
        refine⟨_,.eff hne h2 (fun b τ hτ _=>?_) hv⟩
        cases b with
        |false=>
         have hτ:(LF++σ2::LF')[j]?=some τ:=by simpa[Cz] using hτ
         rw[HQ (by omega),hF2 hF1] at hτ
         simp at hτ;subst hτ
         refine⟨σ2,?_,Cu h7⟩
         simp only[Cz]
         rw[HN (by omega)];simp[hF1]
        |true=>
         have hτ:(LT++σ1::LT')[j]?=some τ:=by simpa[Cz] using hτ
         rw[HQ (by omega),hs] at hτ
         simp at hτ;subst hτ
         refine⟨σ1,?_,Cu h5⟩
         simp only[Cz]
         rw[HN (by omega)];simp[hl]
     |false=>
      simp only at h4
      have hF1:=hF rfl
      obtain⟨s3,d2,σ2,kd2,h6,h7⟩:=Cp h4
      cases kd2 with
      |pure=>exact h6.elim
      |load=>exact h6.elim
      |eff=>
       obtain⟨rfl,h6⟩:=h6
       rw[CW,AE,AE,AE] at h6
       obtain⟨LF',LT',lds',ef',s',env',σ',k1,k2,k3,k4,k5⟩:=DW (af:=false) (j:=j+1) (hput _) hi' (by simp[hl]) (by rw[HN (by omega)];simp[hl]) (fun _=>by simp[hF1]) (fun _=>by rw[HN (by omega)];simp[hF1]) (by simp[hF1]) h6
       have e1:j+(σ2::LT').length=j+1+LT'.length:=by simp;omega
       rw[snoc2] at k3
       rw[snoc2,snoc2] at k1
       refine⟨σ1::LF',σ2::LT',lds',(true,none)::ef',s',env',σ',by simpa using k1,k2,by rw[e1];exact k3,fun e=>by simp at e,fun hlo=>?_⟩
       obtain⟨vals,hv⟩:=k5 (by rw[snoc2,snoc2];exact hlo)
       rw[snoc2,snoc2] at hv
       rw[e1]
       refine⟨_,.eff hne h2 (fun b τ hτ _=>?_) hv⟩
       cases b with
       |false=>
        have hτ:(LF++σ1::LF')[j]?=some τ:=by simpa[Cz] using hτ
        rw[HQ (by omega),hF2 hF1] at hτ
        simp at hτ;subst hτ
        refine⟨σ1,?_,Cu h5⟩
        simp only[Cz]
        rw[HN (by omega)];simp[hF1]
       |true=>
        have hτ:(LT++σ2::LT')[j]?=some τ:=by simpa[Cz] using hτ
        rw[HQ (by omega),hs] at hτ
        simp at hτ;subst hτ
        refine⟨σ2,?_,Cu h7⟩
        simp only[Cz]
        rw[HN (by omega)];simp[hl]
noncomputable def Ack(P:Program)(im:List Nat)(ops:Array Oper)(fr:Nat)(s:Sc)(env:List D)(σ:St)(K:Sc->List D->St->Prop):Prop:=
 cond (Nat.blt fr ops.size) (match (ops[fr]?).map Oper.op with
  |some (.alloc e)=>(match M3 P e with
   |some xs=>AQ (xs.map .v) fun cs=>AF σ.H (some cs) fun H=>UH P im ops fr σ (fun LF LT lds ef s env=>cond (He ops ef) (match LT.getLast? with
    |some τ=>AhE (LF++LT) lds/\K s env τ
    |none=>False) False) ops.toList 0 false (fun _ _=>False) [σ] [⟨H,σ.own⟩] [] [] s env σ ⟨H,σ.own⟩
   |none=>False)
  |_=>(match s with
   |.h (.cs ad) s=>AQ (σ.H++ad.H) fun H=>AQ (ad.own++σ.own) fun own=>UH P im ops fr ad (fun LF LT lds ef s env=>cond (He ops ef) (match LT.getLast? with
    |some τ=>AhE (LF++LT) lds/\K s env τ
    |none=>False) False) ops.toList 0 false (fun _ _=>False) [σ] [⟨H,own⟩] [] [] s env σ ⟨H,own⟩
   |_=>False)) False
theorem UG{C:Ent->Ent->Prop}{P:Program}{R:List D->St->Prop}{k:List KI}(hm:P.follows .mixedOrders=true){im:List Nat}{id:Nat}{ops:Array Oper}{fr:Nat}{s:Sc}{env:List D}{σ:St}{n:Nat}{K:Sc->List D->St->Prop}(hn:env.length=n)
  (hK:∀s env σ,env.length=n->K s env σ->A1 C P R k env σ) (h:Ack P im ops fr s env σ K):A1 C P R (.code (.region id ops true)::k) env σ:=by
 obtain⟨h1,h2⟩:=An h
 have hfr:fr<ops.size:=HX h1
 split at h2
 ·split at h2
  ·rename_i xs hz
   rw[AM,AE] at h2
   obtain⟨LF',LT',lds',ef',s',env',σ',k1,k2,k3,k4,k5⟩:=DW (j:=0) hn (by simp) (by simp) (by simp) (fun _=>by simp) (fun _=>by simp) (by simp) h2
   obtain⟨h3,h5⟩:=An k1
   simp only[nil_append] at h3 h5
   simp only[Io] at k3
   split at h5
   ·rename_i τ hτ
    obtain⟨h4,h5⟩:=h5
    obtain⟨vals,hv⟩:=k5 (Qf h4)
    simp only[Io] at hv
    have:τ=σ':=by
     rw[List.getLast?_eq_getElem?] at hτ
     rw[show([(⟨σ.H++[some (xs.map .v)],σ.own⟩:St)]++LT').length-1=LT'.length by simp] at hτ
     rw[k3] at hτ;simpa using hτ.symm
    subst this
    refine GI hm (Cz ([σ]++LF') ([⟨σ.H++[some (xs.map .v)],σ.own⟩]++LT')) fr (by simp[Cz]) (by rw[H6 hfr];simpa[Cz] using k3) hv ?_ (hK _ _ _ k2 h5)
    simpa using h3
   ·exact h5.elim
  ·exact h2.elim
 ·split at h2
  ·rename_i ad s2
   rw[AM,AM] at h2
   obtain⟨LF',LT',lds',ef',s',env',σ',k1,k2,k3,k4,k5⟩:=DW (j:=0) hn (by simp) (by simp) (by simp) (fun _=>by simp) (fun _=>by simp) (by simp) h2
   obtain⟨h3,h5⟩:=An k1
   simp only[nil_append] at h3 h5
   simp only[Io] at k3
   split at h5
   ·rename_i τ hτ
    obtain⟨h4,h5⟩:=h5
    obtain⟨vals,hv⟩:=k5 (Qf h4)
    simp only[Io] at hv
    have:τ=σ':=by
     rw[List.getLast?_eq_getElem?] at hτ
     rw[show([(⟨σ.H++ad.H,ad.own++σ.own⟩:St)]++LT').length-1=LT'.length by simp] at hτ
     rw[k3] at hτ;simpa using hτ.symm
    subst this
    refine GI hm (Cz ([σ]++LF') ([⟨σ.H++ad.H,ad.own++σ.own⟩]++LT')) fr (by simp[Cz]) (by rw[H6 hfr];simpa[Cz] using k3) hv ?_ (hK _ _ _ k2 h5)
    simpa using h3
   ·exact h5.elim
  ·exact h2.elim
noncomputable def QG(P:Program)(im:List Nat)(ops:Array Oper)(s:Sc)(env:List D)(σ:St)(K:Sc->List D->St->Prop):Prop:=match s with
 |.h (.dr fr) s=>Ack P im ops fr s env σ K
 |s=>Afr P im ops s env σ K
theorem UF{C:Ent->Ent->Prop}{P:Program}{R:List D->St->Prop}{k:List KI}(hm:P.follows .mixedOrders=true){im:List Nat}{id:Nat}{ops:Array Oper}{s:Sc}{env:List D}{σ:St}{n:Nat}{K:Sc->List D->St->Prop}(hn:env.length=n)
  (hK:∀s env σ,env.length=n->K s env σ->A1 C P R k env σ) (h:QG P im ops s env σ K):A1 C P R (.code (.region id ops true)::k) env σ:=by
 unfold QG at h
 split at h
 ·exact UG hm hn hK h
 ·exact YQ hm hn hK h
noncomputable def ZW(ts:List Nat)(own:List (Nat×Nat×List V)):List (Nat×Nat×List V):=own.filter fun x=>ts.contains x.1
structure It(p:Prop):Prop where
 it:p
def Qn{α:Type}(a b:List α)(K:Prop):Prop:=match a with
 |[]=>K
 |x::a=>b=x::a/\K
theorem FD{α:Type}{a b:List α}{K:Prop}(h:Qn a b K)(h0:a=[]->b=[]):b=a/\K:=by
 cases a with
 |nil=>exact⟨h0 rfl,h⟩
 |cons x a=>exact h
def AhC(op:Bool)(b:Bool)(K:Prop):Prop:=match op with
 |true=>b=true/\K
 |false=>cond b K False
theorem PX{op b:Bool}{K:Prop}(h:AhC op b K):b=true/\K:=by
 cases op
 ·exact An h
 ·exact h
noncomputable def UC(C:Ent->Ent->Prop)(m:Nat)(P:Program)(R:List D->St->Prop)(nt:Nat)(k:List KI)(sl:List (Nat×Option D))(σ':Option St)(op:Bool)(env:List D)(σ:St):Prop:=
 S3 env sl fun L=>match σ' with
  |none=>It (A1 C P R k (mkE nt L) σ)
  |some σ'=>cond (Nat.ble m σ'.H.length&&Nat.ble σ'.H.length σ.H.length&&D.okNs σ'.H.length (σ'.own.map (·.1)) (L.map (·.2))) (AhC op (okH σ'.H.length (σ'.own.map (·.1)) (σ.H.take σ'.H.length))
    (Qn σ'.H (σ.H.take σ'.H.length) (Qn σ'.own (ZW (σ'.own.map (·.1)) σ.own) (It (A1 C P R k (mkE nt L) σ'))))) False
theorem Rw{h:Nat}{ts:List Nat}:∀{L:List (Nat×D)} {e:List D},D.okNs h ts (L.map (·.2))=true->D.okNs h ts e=true->D.okNs h ts (L.foldl (fun e p=>e.set p.1 p.2) e)=true
 |[],e,_,he=>he
 |p::L,e,hL,he=>by
  simp only[HU,D.okNs,H5] at hL
  refine Rw (L:=L) hL.2 ?_
  have:∀(e:List D) (i:Nat),D.okNs h ts e=true->D.okNs h ts (e.set i p.2)=true:=by
   intro e
   induction e with
   |nil=>intro i h;simpa using h
   |cons a e ih=>
    intro i h
    simp only[D.okNs,H5] at h
    cases i with
    |zero=>simp only[List.set_cons_zero,D.okNs,H5];exact⟨hL.1,h.2⟩
    |succ i=>simp only[IP,D.okNs,H5];exact⟨h.1,ih i h.2⟩
  exact this e p.1 he
theorem LZ{h:Nat}{ts:List Nat}:∀n:Nat,D.okNs h ts (replicate n .undef)=true
 |0=>rfl
 |n+1=>by simp only[Ix,D.okNs,D.okN,Ib];exact LZ n
section
variable {P : Program} {R : List D -> St -> Prop} {k : List KI}
theorem JY{C:Ent->Ent->Prop}{m:Nat}(hCm:∀E0 E,C E0 E->E.g.n<=m){nt:Nat}{sl:List (Nat×Option D)}{σ':Option St}{op:Bool}{env:List D}{σ:St}(hn:env.length=nt)(h:UC C m P R nt k sl σ' op env σ):A1 C P R k env σ:=by
 obtain⟨L,h1,h2⟩:=JW h
 obtain⟨hl,hg⟩:=Ma hn h2
 cases σ' with
 |none=>exact FX hl hg h1.it
 |some σ'=>
  obtain⟨h3,h1⟩:=An h1
  obtain⟨h8,h1⟩:=PX h1
  have h7:σ.H.take σ'.H.length=σ'.H/\ZW (σ'.own.map (·.1)) σ.own=σ'.own/\It (A1 C P R k (mkE nt L) σ'):=by
   obtain⟨e1,h1⟩:=FD h1 (fun e=>by rw[e];rfl)
   obtain⟨e2,h1⟩:=FD h1 (fun e=>by rw[e];unfold ZW;rw[List.filter_eq_nil_iff];simp)
   exact⟨e1,e2,h1⟩
  obtain⟨h4,h5,h6⟩:=h7
  simp only[H5] at h3
  refine FX hl hg (Af8 hCm (h:=σ'.H.length) h4.symm (HX h3.1.2) (HX h3.1.1) (Rw h3.2 (LZ nt)) (by have:=h8;rwa[h4] at this) ?_ h6.it)
  rw[←h5];exact List.filter_sublist
noncomputable def Ada(x:Operand)(s:Sc)(env:List D)(K:Bool->Sc->List D->Prop):Prop:=match x with
 |.tmp t=>E9 env t fun d=>match d with
  |.v (.bool b)=>YT s b (some t) env K
  |_=>False
 |.const (.bool b)=>K b s env
 |_=>False
theorem YR{x:Operand}{s:Sc}{env:List D}{K:Bool->Sc->List D->Prop}(h:Ada x s env K):∃b s',K b s' env/\evD env x=.v (.bool b):=by
 unfold Ada at h
 split at h
 ·rename_i t
  rw[CH] at h
  split at h
  ·rename_i b hd
   obtain⟨s',h1⟩:=QI h (fun t' e=>by simp at e;subst e;exact getD_some hd (by simp))
   exact⟨b,s',h1,hd⟩
  ·exact h.elim
 ·exact⟨_,_,h,rfl⟩
 ·exact h.elim
noncomputable def YJ(C:Ent->Ent->Prop)(m:Nat)(P:Program)(R:List D->St->Prop)(rk:Nat->List D->St->Prop)(nt:Nat)(im:List Nat)(T:List KI)(ih:Sc->List KI->List D->St->Prop)(ks:List KI)(s:Sc)(env:List D)(σ:St):Prop:=match ks with
  |[]=>(match s with
   |.h (.l sl σ') _=>UC C m P R nt T sl σ' false env σ
   |.h (.lo sl σ') _=>UC C m P R nt T sl (some σ') true env σ
   |.h .r _=>T=[]/\rk 0 env σ
   |.h .rn _=>T=[]/\rk 1 env σ
   |.h .ro _=>T=[]/\rk 2 env σ
   |.h .rd _=>T=[]/\rk 3 env σ
   |_=>False)
  |.blk _::ks=>ih s ks env σ
  |.lp c::ks=>(match s with
   |.h (.l sl σ') _=>UC C m P R nt (.lp c::(ks++T)) sl σ' false env σ
   |.h (.lo sl σ') _=>UC C m P R nt (.lp c::(ks++T)) sl (some σ') true env σ
   |.h .n s=>ih s (.code c:: .lp c::ks) env σ
   |_=>False)
  |.code c::ks=>(match c with
   |.seq x y=>ih s (.code x:: .code y::ks) env σ
   |.skip=>ih s ks env σ
   |.label _=>ih s ks env σ
   |.block id x=>ih s (.code x:: .blk id::ks) env σ
   |.loop x=>ih s (.lp x::ks) env σ
   |.exit id=>(match Gn id ks with
    |some ks'=>ih s ks' env σ
    |none=>False)
   |.ret=>(match s with
    |.h .r _=>rk 0 env σ
    |.h .rn _=>rk 1 env σ
    |.h .ro _=>rk 2 env σ
    |.h .rd _=>rk 3 env σ
    |_=>False)
   |.cond t x y=>Ada t s env fun b s env=>Bool.rec (ih s (.code y::ks) env σ) (ih s (.code x::ks) env σ) b
   |.region r ops d=>Bool.rec (TW P im r ops (fun L sl σ=>It (AT C P R (ks++T) ops L (mkE nt sl) σ)) ops.toList 0 s env σ fun s env σ=>ih s ks env σ) (QG P im ops s env σ fun s env σ=>ih s ks env σ) d
   |_=>False)
noncomputable def vc(C:Ent->Ent->Prop)(m:Nat)(P:Program)(R:List D->St->Prop)(rk:Nat->List D->St->Prop)(nt:Nat)(im:List Nat)(T:List KI)(fuel:Nat)(s:Sc)(ks:List KI)(env:List D)(σ:St):Prop:=
 Nat.rec (motive:=fun _=>Sc->List KI->List D->St->Prop) (fun _ _ _ _=>False) (fun _ ih s ks env σ=>pre 1000000 0 s env σ (YJ C m P R rk nt im T ih ks)) fuel s ks env σ
theorem Kr{T:List KI}{id:Nat}:∀{ks ks':List KI},Gn id ks=some ks'->Gn id (ks++T)=some (ks'++T)
 |[],ks',h=>by simp[Gn] at h
 |.code c::ks,ks',h=>by simp only[Gn] at h;simp only[Jk,Gn];exact Kr h
 |.lp c::ks,ks',h=>by simp only[Gn] at h;simp only[Jk,Gn];exact Kr h
 |.blk i::ks,ks',h=>by
  simp only[Gn] at h
  simp only[Jk,Gn]
  by_cases e:i=id
  ·rw[HP e] at h⊢;simp at h;subst h;rfl
  ·rw[HL e] at h⊢;exact Kr h
theorem YI{C:Ent->Ent->Prop}(L:Hn C){m:Nat}(hCm:∀E0 E,C E0 E->E.g.n<=m)(hm:P.follows .mixedOrders=true){rk:Nat->List D->St->Prop}{nt:Nat}{im:List Nat}{T:List KI}(hR:∀b env σ,env.length=nt->rk b env σ->R env σ){ih:Sc->List KI->List D->St->Prop}
  (IH:∀{s:Sc} {ks:List KI} {env:List D} {σ:St},env.length=nt->ih s ks env σ->A1 C P R (ks++T) env σ) {ks:List KI} {s:Sc} {env:List D} {σ:St} (hn:env.length=nt) (h:YJ C m P R rk nt im T ih ks s env σ):A1 C P R (ks++T) env σ:=by
 unfold YJ at h
 split at h
 ·split at h
  ·exact JY hCm hn h
  ·exact JY hCm hn h
  ·obtain⟨rfl,h⟩:=h;exact Kp L (hR _ _ _ hn h)
  ·obtain⟨rfl,h⟩:=h;exact Kp L (hR _ _ _ hn h)
  ·obtain⟨rfl,h⟩:=h;exact Kp L (hR _ _ _ hn h)
  ·obtain⟨rfl,h⟩:=h;exact Kp L (hR _ _ _ hn h)
  ·exact h.elim
 ·exact Vy (IH hn h)
 ·split at h
  ·exact JY hCm hn h
  ·exact JY hCm hn h
  ·exact Acr (IH hn h)
  ·exact h.elim
 ·split at h
  ·exact Vu (IH hn h)
  ·exact QS (IH hn h)
  ·exact Vw (IH hn h)
  ·exact Oj (IH hn h)
  ·exact run_loop (IH hn h)
  ·split at h
   ·rename_i ks' hp;exact QU (Kr hp) (IH hn h)
   ·exact h.elim
  ·split at h
   ·exact GH L (hR _ _ _ hn h)
   ·exact GH L (hR _ _ _ hn h)
   ·exact GH L (hR _ _ _ hn h)
   ·exact GH L (hR _ _ _ hn h)
   ·exact h.elim
  ·obtain⟨b,s',h1,h2⟩:=YR h
   refine QV h2 (fun hb=>?_) (fun hb=>?_)
   ·subst hb;exact IH hn h1
   ·subst hb;exact IH hn h1
  ·rename_i r ops d
   cases d with
   |false=>
    intro E0 E g a w B hC hf hB
    show KQ P B (.code (.region r ops false)::(_++T)) .normal a w
    simp only[KQ]
    exact wp_region_list (M6 (n:=nt) (Z:=fun L sl σ=>It (AT C P R (_++T) ops L (mkE nt sl) σ)) (fun _ _ _ h=>h.it) (fun s env σ hl hk=>IH hl hk) hn (show TW P im r ops _ ops.toList 0 s env σ fun s env σ=>ih s _ env σ from h) E0 E g a w B hC hf hB)
   |true=>exact UF hm hn (fun s env σ hl hk=>IH hl hk) (show QG P im ops s env σ fun s env σ=>ih s _ env σ from h)
  ·exact h.elim
theorem S2{C:Ent->Ent->Prop}(L:Hn C){m:Nat}(hCm:∀E0 E,C E0 E->E.g.n<=m)(hm:P.follows .mixedOrders=true){rk:Nat->List D->St->Prop}{nt:Nat}{im:List Nat}{T:List KI}(hR:∀b env σ,env.length=nt->rk b env σ->R env σ):
  ∀{fuel:Nat} {s:Sc} {ks:List KI} {env:List D} {σ:St},env.length=nt->vc C m P R rk nt im T fuel s ks env σ->A1 C P R (ks++T) env σ
 |0,s,ks,env,σ,_,h=>(h:False).elim
 |fuel+1,s,ks,env,σ,hn,h=>by
  have h':pre 1000000 0 s env σ (YJ C m P R rk nt im T (vc C m P R rk nt im T fuel) ks):=h
  obtain⟨s1,env1,σ1,h1,h2,h3⟩:=Ov h'
  exact Vx h2 (YI L hCm hm hR (S2 L hCm hm hR) (h3.trans hn) h1)
noncomputable def YL(P:Program)(env:List D)(σ:St)(dg:Bool)(rs:List ResultVar)(K:List D->Prop):Prop:=
 List.rec (motive:=fun _=>(List D->Prop)->Prop) (fun K=>K []) (fun r _ ih K=>match r with
  |.tmp t=>cond (Nat.blt t env.length) (E9 env t fun d=>ih fun ds=>K (d::ds)) False
  |.cell a t=>E9 env a fun d=>match d with
   |.ptr q off=>(match σ.H[q]?,Df P t with
    |some (some cs),some (1,false)=>(match cs[off]? with
     |some d=>ih fun ds=>K (d::ds)
     |none=>False)
    |some (some cs),some (n,true)=>cond (Nat.ble (off+n) cs.length) (Bool.rec (match CQ ((cs.drop off).take n) with
     |some xs=>ih fun ds=>K (.v (.agg xs)::ds)
     |none=>False) (AQ ((cs.drop off).take n) fun es=>ih fun ds=>K (.dagg es::ds)) dg) False
    |_,_=>False)
   |_=>False) rs K
theorem Hq{env:List D}{σ:St}{dg:Bool}:∀{rs:List ResultVar} {K:List D->Prop},YL P env σ dg rs K->∃ds,K ds/\Hl P env σ rs ds
 |[],K,h=>⟨[],h,.nil⟩
 |.tmp t::rs,K,h=>by
  have h':cond (Nat.blt t env.length) (E9 env t fun d=>YL P env σ dg rs fun ds=>K (d::ds)) False:=h
  obtain⟨h1,h2⟩:=An h'
  rw[CH] at h2
  obtain⟨ds,h3,h4⟩:=Hq h2
  refine⟨_,h3,.tmp ?_ h4⟩
  have:t<env.length:=HX h1
  rw[HC,H4 this];rfl
 |.cell a t::rs,K,h=>by
  have h':E9 env a fun d=>match (generalizing:=false) d with
   |.ptr q off=>(match σ.H[q]?,Df P t with
    |some (some cs),some (1,false)=>(match cs[off]? with
     |some d=>YL P env σ dg rs fun ds=>K (d::ds)
     |none=>False)
    |some (some cs),some (n,true)=>cond (Nat.ble (off+n) cs.length) (Bool.rec (match CQ ((cs.drop off).take n) with
     |some xs=>YL P env σ dg rs fun ds=>K (.v (.agg xs)::ds)
     |none=>False) (AQ ((cs.drop off).take n) fun es=>YL P env σ dg rs fun ds=>K (.dagg es::ds)) dg) False
    |_,_=>False)
   |_=>False:=h
  rw[CH] at h'
  split at h'
  ·rename_i q off hd
   have ha:=getD_some hd (by simp)
   split at h'
   ·rename_i cs hq hz
    split at h'
    ·rename_i d hc
     obtain⟨ds,h3,h4⟩:=Hq h'
     exact⟨_,h3,.cell1 ha hq hz hc h4⟩
    ·exact h'.elim
   ·rename_i cs n hq hz
    obtain⟨h1,h2⟩:=An h'
    cases dg with
    |false=>
     have h2:(match CQ ((cs.drop off).take n) with
      |some xs=>YL P env σ false rs fun ds=>K (.v (.agg xs)::ds)
      |none=>False):=h2
     split at h2
     ·rename_i xs hx
      obtain⟨ds,h3,h4⟩:=Hq h2
      exact⟨_,h3,.cellA ha hq hz (HX h1) (F5 hx) h4⟩
     ·exact h2.elim
    |true=>
     have h2:AQ ((cs.drop off).take n) fun es=>YL P env σ true rs fun ds=>K (.dagg es::ds):=h2
     rw[AM] at h2
     obtain⟨ds,h3,h4⟩:=Hq h2
     exact⟨_,h3,.cellD ha hq hz (HX h1) h4⟩
   ·exact h'.elim
  ·exact h'.elim
def nlV:V->V
 |.nils=>.list []
 |x=>x
theorem VD{M:Mem}:∀{xs:List V} {us:List Value},repA M xs us->repA M (xs.map nlV) us
 |[],us,h=>h
 |x::xs,us,h=>by
  simp only[repA] at h
  obtain⟨u,us',rfl,ha,h1,h2⟩:=h
  simp only[HU,repA]
  refine⟨u,us',rfl,?_,?_,VD h2⟩
  ·cases x<;>first|exact ha|rfl
  ·cases x with
   |nils=>
    have h3:repV M .nils u:=(B1 (by rfl)).2 h1
    have h4:Ae (⟨M,fun _=>0,0,fun _ _=>none,fun _=>0⟩:Gh) (.v (.list [])) u:=EF (by simpa only[Ae] using h3)
    show repC M (.list []) [u]
    exact(B1 (by rfl)).1 (by simpa only[Ae] using h4)
   |_=>exact h1
noncomputable def wkD(ts:List Nat)(kn:Bool):D->D
 |.acc k xs=>Bool.rec (.v (.list xs)) (.acc k xs) (ts.any (Nat.beq k))
 |.v .nils=>Bool.rec (.v (.list [])) (.v .nils) kn
 |.v (.agg xs)=>Bool.rec (.v (.agg (xs.map nlV))) (.v (.agg xs)) kn
 |d=>d
theorem AcS{ts:List Nat}{kn:Bool}{g:Gh}{d:D}{u:Value}(h:Ae g d u):Ae g (wkD ts kn d) u:=by
 unfold wkD
 split
 ·cases ts.any _
  ·exact KW h
  ·exact h
 ·cases kn
  ·exact EF h
  ·exact h
 ·cases kn
  ·simp only[Ae,Cr] at h⊢
   obtain⟨ws,h1,h2⟩:=h
   exact⟨ws,VD h1,h2⟩
  ·exact h
 ·exact h
theorem Ds{ts:List Nat}{kn:Bool}{g:Gh}:∀{ds:List D} {us:List Value},Ac g ds us->Ac g (ds.map (wkD ts kn)) us
 |[],us,h=>by simpa using h
 |d::ds,us,h=>by
  simp only[Ac,HU] at h⊢
  obtain⟨u,us',e,h1,h2⟩:=h
  exact⟨u,us',e,AcS h1,Ds h2⟩
noncomputable def ZT:List D->(D->Prop)->Prop
 |[d],K=>K d
 |ds,K=>AQ ds fun ds=>K (.tup ds)
theorem Ri(ds:List D)(K:D->Prop):ZT ds K=K (SS ds):=by
 match ds with
 |[]=>rfl
 |[d]=>rfl
 |a::b::ds=>simp only[ZT,SS,AM]
noncomputable def U8(P:Program)(rs:List ResultVar)(d:D)(σ':St)(md:Nat)(env:List D)(σ:St):Prop:=
 YL P env σ (Nat.beq md 3) rs fun ds=>AQ (ds.map (wkD (σ'.own.map (·.1)) (Nat.beq md 1))) fun ds=>ZT ds fun d'=>
  cond (D.okN σ'.H.length (σ'.own.map (·.1)) d&&Nat.ble σ'.H.length σ.H.length) (AhC (Nat.beq md 2) (okH σ'.H.length (σ'.own.map (·.1)) (σ.H.take σ'.H.length))
   (Qn σ'.H (σ.H.take σ'.H.length) (Qn σ'.own (ZW (σ'.own.map (·.1)) σ.own) (d'=d)))) False
theorem M5{fn:Func}{d:D}{σ':St}{md:Nat}{env:List D}{σ:St}(h:U8 P fn.results.toList d σ' md env σ):Aw P fn env σ d σ':=by
 obtain⟨ds,h1,hr⟩:=Hq h
 rw[AM,Ri] at h1
 obtain⟨h2,h3⟩:=An h1
 obtain⟨h8,h3⟩:=PX h3
 simp only[H5] at h2
 generalize Nat.beq md 1=kn at h3
 have h4:SS (ds.map (wkD (σ'.own.map (·.1)) kn))=d/\σ.H.take σ'.H.length=σ'.H/\ZW (σ'.own.map (·.1)) σ.own=σ'.own:=by
  obtain⟨e1,h3⟩:=FD h3 (fun e=>by rw[e];rfl)
  obtain⟨e2,h3⟩:=FD h3 (fun e=>by rw[e];unfold ZW;rw[List.filter_eq_nil_iff];simp)
  exact⟨h3,e1,e2⟩
 obtain⟨rfl,hH,hown⟩:=h4
 intro E g a w hf hE
 obtain⟨us,h5,h6⟩:=hr.run hf
 have hrun:(results fn a.tmps).run P w=.ok (if h:us.length=1 then us[0] else .tuple us.toArray) w:=by
  rw[J0,Array.mapM_eq_mapM_toList]
  simp only[Sem.run_bind,Sem.run_map,h5,Result.andThen_ok]
  by_cases h:us.length=1<;>simp[h]
 have hsub:σ'.own.Sublist σ.own:=by rw[←hown];exact List.filter_sublist
 refine⟨_,_,hrun,Uv hf.wi hH.symm (HX h2.2) hE (by have:=h8;rwa[hH] at this) hsub,?_⟩
 refine MI _ _ h2.1 ?_
 have h7:=Ds (ts:=σ'.own.map (·.1)) (kn:=kn) h6
 generalize ds.map (wkD (σ'.own.map (·.1)) kn)=ds' at h7
 have hl:=A4 h7
 unfold SS
 split
 ·rename_i d0
  obtain⟨u,rfl,h3⟩:=A2.1 h7
  simpa using h3
 ·rename_i hne
  have:us.length≠1:=by
   rw[hl]
   intro h
   match ds',h with
   |[d0],_=>exact hne d0 rfl
  rw[dif_neg this]
  simp only[Ae]
  exact⟨us,rfl,h7⟩
theorem JM{f:FuncId}{fn:Func}{c:Code}{ds:List D}{σ σ':St}{d:D}(hf:P.funcs[f]?=some fn)(hb:fn.body=some c)(hn:(fn.name=="runtime.NumGoroutine")=false)
  (hH:σ.H.length<=σ'.H.length) (h:A1 (CN σ.H.length) P (fun env σ1=>Aw P fn env σ1 d σ') [.code c] (ds++replicate (fn.ntmps-ds.length) .undef) σ):Aa P f ds σ d σ':=by
 refine⟨⟨fn,hf,hn,by simp[hb]⟩,fun g w args hw hargs=>?_⟩
 refine calls_of_wp hf hb ?_
 have hfi:FI ⟨g,w,σ⟩ g σ (ds++replicate (fn.ntmps-ds.length) .undef) { tmps:=args.toArray++Array.replicate (fn.ntmps-args.toArray.size) undef,defers:=[]} w:=by
  refine⟨WI.start hw,?_,rfl⟩
  have hl:=A4 hargs
  simp only[Array.toList_append,Array.toList_replicate,II,hl]
  refine Ap hargs ?_
  generalize fn.ntmps-ds.length=m
  induction m with
  |zero=>simp[Ac]
  |succ m ih=>simp only[Ix,Ac];exact⟨_,_,rfl,by simp[Ae],ih⟩
 have:=h ⟨g,w,σ⟩ ⟨g,w,σ⟩ g _ w (bodyPost P fn fun e w'=>∃u g',e=.returned u/\WI ⟨g,w,σ⟩ g' σ' w'/\Ae g' d u) ⟨rfl,Nat.le_of_eq hw.n⟩ hfi ?_
 ·simp only[KQ] at this
  exact this
 ·intro g' env' σ1 a' w' hfi' hR
  obtain⟨u,g2,h1,h2,h3⟩:=hR _ _ _ _ hfi' (by rw[hw.n];exact hH)
  have:a'.defers=[]/\∃v,(results fn a'.tmps).run P w'=.ok v w'/\∃u g',Ending.returned v=.returned u/\WI ⟨g,w,σ⟩ g' σ' w'/\Ae g' d u:=
   ⟨hfi'.defers,u,h1,u,g2,rfl,h2,h3⟩
  exact⟨this,this⟩
abbrev Rn(P:Program)(fn:Func)(C:Nat)(d:D)(σ':St)(k:List KI)(env:List D)(σ:St):Prop:=A1 (CN C) P (fun env σ1=>Aw P fn env σ1 d σ') k env σ
theorem Vp(hm:P.follows .mixedOrders=true){f:FuncId}{ds:List D}{σ σ':St}{d:D}(fn:Func)(c:Code)(hf:P.funcs[f]?=some fn)(hb:fn.body=some c)(hn:(fn.name=="runtime.NumGoroutine")=false)(hH:Nat.ble σ.H.length σ'.H.length=true)(nt:Nat)(hnt:(ds++replicate (fn.ntmps-ds.length) D.undef).length=nt)
  (im:List Nat) (s:Sc)
  (h:AQ (ds++replicate (fn.ntmps-ds.length) D.undef) fun env=>vc (CN σ.H.length) σ.H.length P (fun env σ1=>Aw P fn env σ1 d σ') (U8 P fn.results.toList d σ') nt im [] 10000 s [.code c] env σ):Aa P f ds σ d σ':=by
 rw[AM] at h
 refine JM hf hb hn (HX hH) ?_
 exact S2 (ks:=[.code c]) (T:=[]) (OF _) (fun _ _ h=>h.2) hm (fun b env σ _ h=>M5 h) hnt h
theorem AdH(hm:P.follows .mixedOrders=true){C:Nat}{fn:Func}{d:D}{σ':St}(nt:Nat)(im:List Nat){ks T:List KI}{L:List (Nat×D)}{σ:St}(s:Sc)
  (h:AQ (mkE nt L) fun env=>vc (CN C) C P (fun env σ1=>Aw P fn env σ1 d σ') (U8 P fn.results.toList d σ') nt im T 10000 (.h .n s) ks env σ):Rn P fn C d σ' (ks++T) (mkE nt L) σ:=by
 rw[AM] at h
 exact S2 (OF _) (fun _ _ h=>h.2) hm (fun b env σ _ h=>M5 h) (by simp[mkE,ES]) h
theorem Acq(hm:P.follows .mixedOrders=true){C:Ent->Ent->Prop}(L:Hn C)(m:Nat)(hCm:∀E0 E,C E0 E->E.g.n<=m){fn:Func}{d:D}{σ':St}(nt:Nat)(im:List Nat){ks T:List KI}{E:List (Nat×D)}{σ:St}(s:Sc)
  (h:AQ (mkE nt E) fun env=>vc C m P (fun env σ1=>Aw P fn env σ1 d σ') (U8 P fn.results.toList d σ') nt im T 10000 s ks env σ):A1 C P (fun env σ1=>Aw P fn env σ1 d σ') (ks++T) (mkE nt E) σ:=by
 rw[AM] at h
 exact S2 L hCm hm (fun b env σ _ h=>M5 h) (by simp[mkE,ES]) h
theorem MF(hm:P.follows .mixedOrders=true){C:Ent->Ent->Prop}(Lk:Hn C)(m:Nat)(hCm:∀E0 E,C E0 E->E.g.n<=m){fn:Func}{d:D}{σ':St}(nt:Nat)(im:List Nat)(r i:Nat){ops:Array Oper}{L:List Oper}{ks T:List KI}{E:List (Nat×D)}{σ:St}(s:Sc)
  (h:AQ (mkE nt E) fun env=>TW P im r ops (fun L sl σ=>It (AT C P (fun env σ1=>Aw P fn env σ1 d σ') (ks++T) ops L (mkE nt sl) σ)) L i s env σ fun s env σ=>vc C m P (fun env σ1=>Aw P fn env σ1 d σ') (U8 P fn.results.toList d σ') nt im T 10000 s ks env σ):AT C P (fun env σ1=>Aw P fn env σ1 d σ') (ks++T) ops L (mkE nt E) σ:=by
 rw[AM] at h
 exact M6 (n:=nt) (fun _ _ _ h=>h.it) (fun s env σ hl hk=>S2 Lk hCm hm (fun b env σ _ h=>M5 h) hl hk) (by simp[mkE,ES]) h
theorem via{a b:Prop}(h:a=b)(ha:a):b:=h▸ha
end
abbrev CS(m r:Nat)(l:List (List UInt8))(E0 E:Ent):Prop:=Yl r (C8 l) E0 E/\E.g.n<=m
theorem Agg(m r:Nat)(l:List (List UInt8)):Hn (CS m r l):=⟨fun h _ _ _ hw=>h.1.link _ _ _ hw⟩
section
variable {P : Program} {R : List D -> St -> Prop} {k : List KI} {env : List D} {σ : St} {ops : Array Oper} {L : List Oper} {o : Oper}
theorem SG{m:Nat}(t:Nat){ty:TypeId}(hg:BM env ops o=some true)(ht:o.dst=some t)(hop:o.op=.makeMap ty none)
  (hk:∀r:Nat,AT (CS σ.H.length r []) P R k ops L (env.set t (.raw (.map (some r)))) σ):AT (CN m) P R k ops (o::L) env σ:=by
 intro E0 E g a w B hC hf hB
 unfold wpList
 rw[HP (Co hf.env hg)]
 refine .inl ?_
 have hw:=(OF m).ok hC hf.wi
 have hput:=hf.put (hf.wi.alloc (.map #[] 0)) g.le_refl (d:=.raw (.map (some w.heap.size))) (u:=.map (some w.heap.size)) (by simp only[Ae]) (some t)
 have hsize:(w.alloc (.map #[] 0)).heap.size=w.heap.size+1:=by simp
 obtain⟨h1,h2⟩:=Yl.of (r:=w.heap.size) (ob:=.map #[] 0) (w1:=w.alloc (.map #[] 0)) hw
  (fun b hb=>by
   by_cases hlt:b<w.heap.size
   ·exact heap_alloc_old w _ b hlt
   ·rw[Array.getElem?_eq_none (by omega),Array.getElem?_eq_none (by omega)])
  (heap_alloc_new w _) (by omega) rfl rfl rfl hw.size (hw.rep.new_none (HB _)) (fun i cs hi=>Nat.ne_of_lt (hw.rep.obj_lt hi)) (fun x hx u hu hb=>by have:=hw.rep.own_lt hx hu hb;omega)
 have:=hk w.heap.size E0 _ g _ _ B ⟨h1,Nat.le_of_eq hw.rep.n⟩ ⟨h2,hput.env,hput.defers⟩ hB
 unfold Oper.wp execOp
 simpa[hop,Instr.makeMap,ht,Oper.upon] using this
theorem V2{m:Nat}(t sm sk:Nat){ty kt et:TypeId}{r:Nat}{s:List UInt8}{l:List (List UInt8)}{inf:TypeInfo}(hg:BM env ops o=some true)(ht:o.dst=some t)(hop:o.op=.lookup ty (.tmp sm) (.tmp sk) false)
  (hty:P.underlying ty=some (.map kt et)) (hkt:P.underlying kt=some .string) (hi:P.info? et=some inf) (hz:inf.zero=some (.bool false)) (hm:env[sm]?=some (.raw (.map (some r)))) (hs:env[sk]?=some (.v (.str s)))
  (hk:AT (CS m r l) P R k ops L (env.set t (.v (.bool (l.contains s)))) σ):AT (CS m r l) P R k ops (o::L) env σ:=by
 intro E0 E g a w B hC hf hB
 unfold wpList
 rw[HP (Co hf.env hg)]
 refine .inl ?_
 have e1:a.eval (.tmp sm)=.map (some r):=by have:=ER hf.env sm;rw[RN hm] at this;simpa only[Ae] using this
 have e2:a.eval (.tmp sk)=.string ⟨s.toArray⟩:=by have:=ER hf.env sk;rw[RN hs] at this;simpa only[Ae,C9] using this
 have hnow:=(hC.1.side.now hf.wi).1
 obtain⟨q,hq⟩:=Nw s l 0 0
 have:=hk E0 E g _ _ B hC (hf.put hf.wi g.le_refl (d:=.v (.bool (l.contains s))) (u:=.bool (l.contains s)) (by simp[Ae]) (some t)) hB
 have hrun:(Instr.lookup ty (.map (some r)) (.string ⟨s.toArray⟩) false).run P w=.ok (.bool (l.contains s)) w:=by
  have hget:(getObj r).run P w=.ok (C8 l) w:=by simp[getObj,Sem.run,hnow,C8]
  have hfk:(Instr.findKey kt (.string ⟨s.toArray⟩) (EU 0 l)).run P w=.ok (if l.contains s then some (q,.bool true) else none) w:=by simp only[Instr.findKey,Sem.run_bind,run_underlying hkt,Result.andThen_ok,hq,Sem.run_pure]
  have hck:∀b,(Instr.checkKey b 10000 kt (.string ⟨s.toArray⟩)).run P w=.ok () w:=fun b=>by
   rw[show(10000:Nat)=9999+1 from rfl];unfold Instr.checkKey;simp[run_underlying hkt]
  unfold Instr.lookup
  simp only[Sem.run_bind,run_underlying hty,Result.andThen_ok,hget,C8,Sem.run_pure,hck,hfk]
  cases hc:l.contains s with
  |true=>simp
  |false=>simp[zeroValue,typeInfo,hi,hz]
 unfold Oper.wp execOp
 simp only[hop,e1,e2,Sem.run_bind,hrun,Result.andThen_ok]
 simp only[Sem.run_pure,Oper.upon,ht]
 exact this
theorem V1{m:Nat}(sm sk:Nat){v:Operand}{ty kt et:TypeId}{r:Nat}{s:List UInt8}{l:List (List UInt8)}(hg:BM env ops o=some true)(ht:o.dst=none)(hop:o.op=.mapUpdate ty (.tmp sm) (.tmp sk) v)(hv:evD env v=.v (.bool true))
  (hty:P.underlying ty=some (.map kt et)) (hkt:P.underlying kt=some .string) (hm:env[sm]?=some (.raw (.map (some r)))) (hs:env[sk]?=some (.v (.str s))) (hnew:l.contains s=false)
  (hk:AT (CS σ.H.length r (l++[s])) P R k ops L env σ):AT (CS m r l) P R k ops (o::L) env σ:=by
 intro E0 E g a w B hC hf hB
 unfold wpList
 rw[HP (Co hf.env hg)]
 refine .inl ?_
 have e1:a.eval (.tmp sm)=.map (some r):=by have:=ER hf.env sm;rw[RN hm] at this;simpa only[Ae] using this
 have e2:a.eval (.tmp sk)=.string ⟨s.toArray⟩:=by have:=ER hf.env sk;rw[RN hs] at this;simpa only[Ae,C9] using this
 have e3:a.eval v=.bool true:=by have:=KY hf.wi.rep.gl hf.env v;rw[hv] at this;simpa only[Ae,DJ] using this
 obtain⟨hnow,hM,hobj,hown⟩:=hC.1.side.now hf.wi
 obtain⟨q,hq⟩:=Nw s l 0 0
 rw[hnew] at hq
 have hlt:r<w.heap.size:=(Iy.1 hnow).1
 obtain⟨h1,h2⟩:=Yl.of (r:=r) (ob:=C8 (l++[s])) (w1:={ w with heap:=w.heap.setIfInBounds r (C8 (l++[s]))}) (hC.1.link _ _ _ hf.wi) (fun b hb=>by simp[Ne.symm hb]) (by simp[hlt]) (by simp) rfl rfl rfl hC.1.new hM hobj hown
 have:=hk E0 _ g a _ B ⟨h1,Nat.le_of_eq hf.wi.rep.n⟩ ⟨h2,hf.env,hf.defers⟩ hB
 have hrun:(Instr.mapUpdate ty (.map (some r)) (.string ⟨s.toArray⟩) (.bool true)).run P w=.ok () { w with heap:=w.heap.setIfInBounds r (C8 (l++[s]))}:=by
  have hget:(getObj r).run P w=.ok (C8 l) w:=by simp[getObj,Sem.run,hnow,C8]
  have hfk:(Instr.findKey kt (.string ⟨s.toArray⟩) (EU 0 l)).run P w=.ok none w:=by simp only[Instr.findKey,Sem.run_bind,run_underlying hkt,Result.andThen_ok,hq,Sem.run_pure];rfl
  have hck:∀b,(Instr.checkKey b 10000 kt (.string ⟨s.toArray⟩)).run P w=.ok () w:=fun b=>by
   rw[show(10000:Nat)=9999+1 from rfl];unfold Instr.checkKey;simp[run_underlying hkt]
  have hset:∀ob,(setObj r ob).run P w=.ok () { w with heap:=w.heap.setIfInBounds r ob }:=fun ob=>by simp[setObj,Sem.run,hnow,C8]
  unfold Instr.mapUpdate
  simp only[Sem.run_bind,run_underlying hty,Result.andThen_ok,hget,C8,hck,hfk]
  rw[hset]
  congr 3
  rw[L1]
  simp
 unfold Oper.wp execOp
 simp only[hop,e1,e2,e3,Sem.run_bind,hrun,Result.andThen_ok]
 simp only[Sem.run_pure,Oper.upon,ht]
 exact this
end
def hdO(L:List Oper):Oper:=match L with
 |o::_=>o
 |[]=>⟨none,.makeMap 0 none,0,"", #[],none⟩
theorem RH{L:List Oper}(h:L.isEmpty=false):L=hdO L::L.tail:=by cases L with
 |nil=>simp at h
 |cons o L=>rfl
def mmQ:Op->Bool|.makeMap _ none=>true|_=>false
def mtQ:Op->TypeId|.makeMap t _=>t|.lookup t _ _ _=>t|.mapUpdate t _ _ _=>t|_=>0
def luQ(sm sk:Nat):Op->Bool|.lookup _ (.tmp a) (.tmp b) false=>a==sm&&b==sk|_=>false
def muQ(sm sk:Nat):Op->Bool|.mapUpdate _ (.tmp a) (.tmp b) (.const (.bool true))=>a==sm&&b==sk|_=>false
theorem Agc{o:Op}(h:mmQ o=true):o=.makeMap (mtQ o) none:=by
 unfold mmQ at h;split at h
 ·rfl
 ·exact absurd h (by simp)
theorem Agd{sm sk:Nat}{o:Op}(h:luQ sm sk o=true):o=.lookup (mtQ o) (.tmp sm) (.tmp sk) false:=by
 unfold luQ at h;split at h
 ·simp at h;simp[mtQ,h]
 ·exact absurd h (by simp)
theorem Agb{sm sk:Nat}{o:Op}(h:muQ sm sk o=true):o=.mapUpdate (mtQ o) (.tmp sm) (.tmp sk) (.const (.bool true)):=by
 unfold muQ at h;split at h
 ·simp at h;simp[mtQ,h]
 ·exact absurd h (by simp)
def smQ(P:Program)(ty:TypeId):Bool:=match P.underlying ty with
 |some (.map kt et)=>(match P.underlying kt with
  |some .string=>true
  |_=>false)&&(match P.info? et with
  |some inf=>(match inf.zero with
   |some (.bool false)=>true
   |_=>false)
  |_=>false)
 |_=>false
theorem Acn{P:Program}{ty:TypeId}(h:smQ P ty=true):∃kt et inf,P.underlying ty=some (.map kt et)/\P.underlying kt=some .string/\P.info? et=some inf/\inf.zero=some (.bool false):=by
 unfold smQ at h
 split at h
 ·rename_i kt et h1
  simp only[H5] at h
  obtain⟨h2,h3⟩:=h
  split at h2
  ·rename_i h4
   split at h3
   ·rename_i inf h5
    split at h3
    ·rename_i h6
     exact⟨kt,et,inf,h1,h4,h5,h6⟩
    ·exact absurd h3 (by simp)
   ·exact absurd h3 (by simp)
  ·exact absurd h2 (by simp)
 ·exact absurd h (by simp)
theorem Nn(n:Nat)(E:List (Nat×D))(t:Nat)(d:D):mkE n (E++[(t,d)])=(mkE n E).set t d:=by simp[mkE,List.foldl_append]
section
variable {P : Program} {R : List D -> St -> Prop} {k : List KI} {nt : Nat} {E : List (Nat × D)} {σ : St} {ops : Array Oper} {L0 : List Oper}
theorem PK{m:Nat}(t:Nat)(h0:L0.isEmpty=false)(hg:BM (mkE nt E) ops (hdO L0)=some true)(ht:(hdO L0).dst=some t)(hop:mmQ (hdO L0).op=true)
  (hk:∀r:Nat,AT (CS σ.H.length r []) P R k ops L0.tail (mkE nt (E++[(t,.raw (.map (some r)))])) σ):AT (CN m) P R k ops L0 (mkE nt E) σ:=by
 rw[RH h0]
 exact SG t hg ht (Agc hop) fun r=>by rw[←Nn];exact hk r
theorem SH{m:Nat}(t sm sk:Nat){r:Nat}{s:List UInt8}{l:List (List UInt8)}(h0:L0.isEmpty=false)(hg:BM (mkE nt E) ops (hdO L0)=some true)(ht:(hdO L0).dst=some t)(hop:luQ sm sk (hdO L0).op=true)
  (hty:smQ P (mtQ (hdO L0).op)=true) (hm:(mkE nt E)[sm]?=some (.raw (.map (some r)))) (hs:(mkE nt E)[sk]?=some (.v (.str s)))
  (hk:AT (CS m r l) P R k ops L0.tail (mkE nt (E++[(t,.v (.bool (l.contains s)))])) σ):AT (CS m r l) P R k ops L0 (mkE nt E) σ:=by
 obtain⟨kt,et,inf,h1,h2,h3,h4⟩:=Acn hty
 rw[RH h0]
 exact V2 t sm sk hg ht (Agd hop) h1 h2 h3 h4 hm hs (by rw[←Nn];exact hk)
theorem SF{m:Nat}(sm sk:Nat){r:Nat}{s:List UInt8}{l:List (List UInt8)}(h0:L0.isEmpty=false)(hg:BM (mkE nt E) ops (hdO L0)=some true)(ht:(hdO L0).dst=none)(hop:muQ sm sk (hdO L0).op=true)
  (hty:smQ P (mtQ (hdO L0).op)=true) (hm:(mkE nt E)[sm]?=some (.raw (.map (some r)))) (hs:(mkE nt E)[sk]?=some (.v (.str s))) (hnew:l.contains s=false)
  (hk:AT (CS σ.H.length r (l++[s])) P R k ops L0.tail (mkE nt E) σ):AT (CS m r l) P R k ops L0 (mkE nt E) σ:=by
 obtain⟨kt,et,inf,h1,h2,h3,h4⟩:=Acn hty
 rw[RH h0]
 exact V1 sm sk hg ht (Agb hop) rfl h1 h2 hm hs hnew hk
end
section
variable {P : Program} {fn : Func} {d : D} {σ' : St} {m r : Nat} {l : List (List UInt8)} {k : List KI} {E : List (Nat × D)} {σ : St}
theorem V9(hm:P.follows .mixedOrders=true)(nt:Nat)(im:List Nat)(rg i:Nat){ops:Array Oper}{L:List Oper}(s:Sc)
  (h:AQ (mkE nt E) fun env=>TW P im rg ops (fun L sl σ=>It (AT (CS m r l) P (fun env σ1=>Aw P fn env σ1 d σ') (k++[]) ops L (mkE nt sl) σ)) L i s env σ fun s env σ=>vc (CS m r l) m P (fun env σ1=>Aw P fn env σ1 d σ') (U8 P fn.results.toList d σ') nt im [] 10000 s k env σ):
  AT (CS m r l) P (fun env σ1=>Aw P fn env σ1 d σ') k ops L (mkE nt E) σ:=by
 have:=MF hm (Agg m r l) m (fun _ _ h=>h.2) nt im rg i s h
 rwa[Is] at this
theorem Af9(hm:P.follows .mixedOrders=true)(nt:Nat)(im:List Nat)(s:Sc)
  (h:AQ (mkE nt E) fun env=>vc (CS m r l) m P (fun env σ1=>Aw P fn env σ1 d σ') (U8 P fn.results.toList d σ') nt im [] 10000 (.h .n s) k env σ):
  A1 (CS m r l) P (fun env σ1=>Aw P fn env σ1 d σ') k (mkE nt E) σ:=by
 have:=Acq (T:=[]) hm (Agg m r l) m (fun _ _ h=>h.2) nt im (.h .n s) h
 rwa[Is] at this
end
section
variable {C : Ent -> Ent -> Prop} {P : Program} {R : List D -> St -> Prop} {k : List KI} {env : List D} {σ : St} {ops : Array Oper} {L : List Oper} {o : Oper}
end
def clQ(f:FuncId):Op->Bool|.call c=>(match c.callee with|.value (.func f')=>f'==f|_=>false)|_=>false
def clA:Op->List Operand|.call c=>c.args.toList|_=>[]
theorem Ahf{f:FuncId}{o:Op}(h:clQ f o=true):∃c:Call,o=.call c/\c.callee=.value (.func f)/\clA o=c.args.toList:=by
 cases o<;>simp only[clQ] at h<;>try (simp at h;done)
 rename_i c
 split at h
 ·rename_i f' hc
  have:=eq_of_beq h;subst this
  exact⟨c,rfl,hc,rfl⟩
 ·simp at h
section
variable {P : Program} {R : List D -> St -> Prop} {k : List KI} {nt : Nat} {E : List (Nat × D)} {σ : St} {ops : Array Oper} {L0 : List Oper} {C : Ent -> Ent -> Prop}
end
section
variable {P : Program} {fn : Func} {d : D} {σ' : St} {m : Nat} {k : List KI} {E : List (Nat × D)} {σ : St}
theorem C4(hm:P.follows .mixedOrders=true)(nt:Nat)(im:List Nat)(rg i:Nat){ops:Array Oper}{L:List Oper}(s:Sc)
  (h:AQ (mkE nt E) fun env=>TW P im rg ops (fun L sl σ=>It (AT (CN m) P (fun env σ1=>Aw P fn env σ1 d σ') (k++[]) ops L (mkE nt sl) σ)) L i s env σ fun s env σ=>vc (CN m) m P (fun env σ1=>Aw P fn env σ1 d σ') (U8 P fn.results.toList d σ') nt im [] 10000 s k env σ):
  AT (CN m) P (fun env σ1=>Aw P fn env σ1 d σ') k ops L (mkE nt E) σ:=by
 have:=MF hm (OF m) m (fun _ _ h=>h.2) nt im rg i s h
 rwa[Is] at this
end
theorem El{σ:St}{q:Nat}{cs cs':List D}(hq:σ.H[q]?=some (some cs))(h:∀(g:Gh) (us:List Value),Ac g cs us->Ac g cs' us)(h1:(∀c∈cs,c.one=true)->∀c∈cs',c.one=true)(e:List D):Cv e σ e ⟨σ.H.set q (some cs'),σ.own⟩:=fun E g a w hf=>by
 refine⟨g,?_,hf.env,hf.defers⟩
 have hw:=hf.wi
 obtain⟨us,rest,et,hb,hr,h2,hM,hκ⟩:=hw.rep.obj q cs hq
 exact hw.setObj hq hb hκ (h g us hr) (h1 h2) (fun _ _=>rfl) rfl rfl rfl rfl
theorem AdY{H:List (Option (List D))}{own:List (Nat×Nat×List V)}(e:List D)(he:D.okNs H.length [] e=true)(hH:okH H.length [] H=true):Cv e ⟨H,own⟩ e ⟨H,[]⟩:=fun E g a w hf=>by
 have hw:=Uv (σ':=⟨H,[]⟩) hf.wi (m:=H.length) (by simp) (HB _) (by have:=hf.wi.nE;have h2:=hf.wi.rep.n;simp at h2;omega) hH (by simp)
 refine⟨_,hw,?_,hf.defers⟩
 exact Dz _ _ (by simpa using he) hf.env
theorem Xx{env:List D}{σ:St}{q t sz n:Nat}{xs:List V}(hsz:0<sz)(hs:∀x∈xs,x.size=sz)(hn:n=xs.length)(hq:σ.H[q]?=some (some (Ab xs)))(ht:env[t]?=some (.arr q 0 n)):Cv env σ (env.set t (.v (.list xs))) ⟨σ.H.set q none,σ.own⟩:=fun E g a w hf=>by
 subst hn
 have hone:∀y∈xs.flatMap V.cellsV,y.isAgg=false:=fun y hy=>by
  obtain⟨_,_,_,_,_,h1,_⟩:=hf.wi.rep.obj q _ hq
  have:=h1 (.v y) (Il.2 ⟨y,hy,rfl⟩)
  simpa[D.one] using this
 have hz:Fz (DP [q] σ.H) env (env.set t (.v (.list xs))):=by
  refine Mc (n:=1) (Fz.refl env) ht (.inr (.inr ⟨q,0,sz,Ab xs,xs,.inl rfl,rfl,hsz,hs,by simp[DP,hq],fun j y hy=>?_⟩))
  exact⟨hone y (HA hy),.v y,by rw[Io,Ab,Ik,hy];rfl,.v y,.same,rfl⟩
 obtain⟨g',hf'⟩:=Pc [q] hz E g a w hf
 exact⟨g',by simpa[GX] using hf'⟩
theorem GM{g:Gh}:∀{a b:List D} {us:List Value},Ac g (a++b) us->∃u v,us=u++v/\Ac g a u/\Ac g b v
 |[],b,us,h=>⟨[],us,rfl,rfl,h⟩
 |x::a,b,us,h=>by
  simp only[Jk,Ac] at h
  obtain⟨u,us',rfl,h1,h2⟩:=h
  obtain⟨v,w,rfl,h3,h4⟩:=GM h2
  exact⟨u::v,w,rfl,⟨u,v,rfl,h1,h3⟩,h4⟩
theorem Zl{P:Program}{f:FuncId}{ds A B es:List D}{T:List (Option (List D))}{q n sz:Nat}{c1 c2:List D}(hB:D.pls B=true)(he:D.pls es=true)(h1:D.pls c1=true)(h2:D.pls c2=true)(hq:T[q]?=some (some es))
  (h:Aa P f ds ⟨[some A],[]⟩ (.dagg (c1++ .gro (q+1) n sz::c2)) ⟨some B::T,[]⟩):Aa P f ds ⟨[some A],[]⟩ (.dagg (c1++ .arr 1 0 n::c2)) ⟨[some B,some es],[]⟩:=by
 refine⟨h.1,fun g w args hw ha=>Calls.mono (h.2 g w args hw ha) ?_⟩
 rintro e w' ⟨u,g',rfl,hw',hr⟩
 have hgn:g.n=1:=hw.n
 have hne:g'.β 0≠g'.β (q+1):=fun e=>by
  have:=hw'.rep.inj 0 (q+1) B es rfl (by simpa using hq) e
  omega
 refine⟨u,{ M:=g'.M,β:=fun i=>if i=0 then g'.β 0 else g'.β (q+1),n:=2,ι:=g'.ι,κ:=fun i=>if i=0 then g'.κ 0 else g'.κ (q+1)},rfl,?_,?_⟩
 ·refine{ rep:=?_,M:=hw'.M,size:=hw'.size,keep:=hw'.keep,os:=hw'.os,tape:=hw'.tape,output:=hw'.output,nE:=?_,βE:=?_,κE:=?_,objs:=?_,owns:=fun x hx=>by simp at hx,drawn:=hw'.drawn }
  ·refine{ n:=rfl,mem:=hw'.rep.mem,obj:=?_,inj:=?_,own:=fun k s xs hx=>by simp at hx,tags:=by simp,sep:=fun x hx=>by simp at hx,ownObj:=fun x hx=>by simp at hx,fresh:=hw'.rep.fresh,gl:=hw'.rep.gl,gw:=hw'.rep.gw }
   ·intro i cs hi
    match i,hi with
    |0,hi=>
     simp at hi;subst hi
     obtain⟨us,rest,et,a1,a2,a3,a4,a5⟩:=hw'.rep.obj 0 B rfl
     exact⟨us,rest,et,a1,B2 (by rfl) hB a2,a3,a4,a5⟩
    |1,hi=>
     simp at hi;subst hi
     obtain⟨us,rest,et,a1,a2,a3,a4,a5⟩:=hw'.rep.obj (q+1) es (by simpa using hq)
     exact⟨us,rest,et,a1,B2 (by rfl) he a2,a3,a4,a5⟩
    |i+2,hi=>simp at hi
   ·intro i j cs ds hi hj hij
    match i,j,hi,hj with
    |0,0,_,_=>rfl
    |0,1,_,_=>exact absurd hij hne
    |1,0,_,_=>exact absurd hij.symm hne
    |1,1,_,_=>rfl
    |i+2,_,hi,_=>simp at hi
    |_,j+2,_,hj=>simp at hj
  ·show g.n<=2;omega
  ·intro o ho
   have h0:o=0:=by show o=0;have:o<g.n:=ho;omega
   subst h0;exact hw'.βE 0 ho
  ·intro o ho
   have h0:o=0:=by show o=0;have:o<g.n:=ho;omega
   subst h0;exact hw'.κE 0 ho
  ·intro i cs hi
   match i,hi with
   |0,hi=>exact hw'.objs 0 B rfl
   |1,hi=>exact hw'.objs (q+1) es (by simpa using hq)
   |i+2,hi=>simp at hi
 ·simp only[Ae] at hr⊢
  obtain⟨us,rfl,hr⟩:=hr
  obtain⟨u1,u2,rfl,b1,b2⟩:=GM hr
  simp only[Ac] at b2
  obtain⟨x,u3,rfl,b3,b4⟩:=b2
  simp only[Ae] at b3
  obtain⟨b5,cap,b6,b7,b8⟩:=b3
  refine⟨_,rfl,Ap (B2 (by rfl) h1 b1) ?_⟩
  simp only[Ac]
  exact⟨_,_,rfl,by simp only[Ae];exact⟨by decide,cap,b6,b8⟩,B2 (by rfl) h2 b4⟩
theorem Hf{σ:St}{p q i sz:Nat}{cs:List D}{xs:List V}(hsz:0<sz)(hp:σ.H[p]?=some (some cs))(hq:σ.H[q]?=some (some (Ab xs)))(hpq:p≠q)(hi:cs[i]?=some (.arr q 0 xs.length))(hx:∀x∈xs,x.size=sz)(e:List D):
  Cv e σ e ⟨(σ.H.set q none).set p (some (cs.set i (.v (.list xs)))),σ.own⟩:=fun E g a w hf=>by
 obtain⟨us,rest,et,hb,hr,h1,hM,_⟩:=hf.wi.rep.obj q _ hq
 have hA:repA g.M (xs.flatMap V.cellsV) us:=JZ (F4 _) hr h1
 let M':Mem:=fun b o=>if b=g.β q then us[o]? else g.M b o
 have hle:g.M.le M':=fun b o v hm=>by
  simp only[M']
  rw[HL]; ·exact hm
  intro e;subst e;rw[hM o] at hm;simp at hm
 have hlg:g.le { g with M:=M' }:=⟨hle,HB _,fun _ _=>rfl,fun _ _ _ h=>h,fun _ _=>rfl⟩
 have hin:inM M' (g.β q) 0 us:=fun j v hj=>by simp[M',hj]
 have hw':WI E { g with M:=M' } ⟨σ.H.set q none,σ.own⟩ w:=hf.wi.setObjG hle hq (fun c hc=>by simp at hc) (fun b _ hne=>⟨rfl,fun o=>by simp[M',hne]⟩) (fun b o v hm=>by
   simp only[M'] at hm
   split at hm
   ·rename_i e;subst e
    simp only[World.cell?,hb,I7];exact Ea hm
   ·exact hf.wi.rep.mem b o v hm) (HB _) rfl rfl rfl
 have hp':(σ.H.set q none)[p]?=some (some cs):=by rw[List.getElem?_set_ne (fun e=>hpq e.symm)];exact hp
 obtain⟨us2,rest2,et2,hb2,hr2,h12,_,hκ2⟩:=hw'.rep.obj p cs hp'
 obtain⟨u,hu,hru⟩:=B9 hr2 hi
 simp only[Ae] at hru
 obtain⟨_,cap,hcap,rfl⟩:=hru
 have hlist:repV M' (.list xs) (.slice (some ⟨g.β q,0,none⟩) xs.length cap):=CR hsz hin (E5 hx (repA.mono hle _ _ hA)) hcap
 have hset:=CG hr2 i (d:=.v (.list xs)) (u:=.slice (some ⟨g.β q,0,none⟩) xs.length cap) (by simp only[Ae];exact hlist)
 rw[Ed hu] at hset
 have h3:=hw'.setObj hp' hb2 hκ2 hset (fun c hc=>by
  rcases I8 hc with h|h
  ·exact h12 c h
  ·rw[h];rfl) (fun _ _=>rfl) rfl rfl rfl rfl
 exact⟨_,h3,Ac.mono hlg _ _ hf.env,hf.defers⟩
theorem GQ{P:Program}{o:Oper}{σ:St}{t:TypeId}{len:Nat}{parts:Array (Nat×Operand)}(ho:o.op=.buildSlice t len parts)(hp:parts.toList=((parts.toList.map (·.2)).zipIdx 0).map fun x=>(x.2,x.1))(hlen:parts.size=len)
  {e:TypeId} {sz by':Nat} {z:Option Value} (hs:BP P t=some (e,sz,by',z)) (hz:z.isSome=true) {ds:List D} {xs:List V} (hx:Es ds=some xs) (hsz:∀x∈xs,x.size=sz) (h0:0<len) (h1:0<sz) (h2:len*sz<=1000):
  Ah P o ds σ (.gro σ.H.length len sz) ⟨σ.H++[some (Ab xs)],σ.own⟩:=by
 intro E g a w K Q hw hds hK
 simp only[ho,Op.operands] at hds
 obtain⟨i,hu,hi,rfl,rfl,rfl⟩:=AA hs
 obtain⟨zz,hzz⟩:=Option.isSome_iff_exists.1 hz
 have hlm:(parts.toList.map fun p=>a.eval p.2).length=len:=by simp[hlen]
 have hds':Ac g ds (parts.toList.map fun p=>a.eval p.2):=by simpa[Function.comp_def] using hds
 obtain⟨hr,hcs⟩:=Hr hx hds' hsz
 have hxl:xs.length=len:=by rw[Fh hx, ←A4 hds',hlm]
 have hpos:0<len*i.size:=Nat.mul_pos h0 h1
 have hf:=K6 i.size (parts.toList.map fun p=>a.eval p.2) 0 [] ((Array.range (len*i.size)).map (zz.cells[· %zz.cells.size]!)).toList (by simp) hcs (by simp[hlen])
 have hpp:((parts.toList.map fun p=>a.eval p.2).zipIdx 0).map (fun x=>(x.2,x.1))=parts.toList.map fun p=>(p.1,a.eval p.2):=by
  have e1:(parts.toList.map fun p=>a.eval p.2)=(parts.toList.map (·.2)).map a.eval:=by simp
  rw[e1,List.zipIdx_map,map_map]
  conv=>rhs;rw[hp,map_map]
  rfl
 rw[hpp] at hf
 simp only[nil_append,Array.toArray_toList] at hf
 have hrun:=run_buildSlice (P:=P) w t e len (parts.map fun p=>(p.1,a.eval p.2)) _ i zz hu hi hzz (by omega) (by omega) (by simpa using hf)
 generalize hus:(parts.toList.map fun p=>a.eval p.2).flatMap (·.cells.toList)=us at hr hrun
 have hul:us.length=len*i.size:=by rw[BE hr,hxl]
 obtain⟨h5,h6⟩:=DL hr
 obtain⟨g',h3,h4,h5',h6',h7⟩:=hw.newObjR (us:=us) (rest:=[]) (cs:=Ab xs) e h5 h6
 rw[Is] at h3 h6'
 have:=hK g' _ (.slice (some ⟨w.heap.size,0,none⟩) len len) h3 h4 (by
  simp only[Ae]
  exact⟨by omega,len,HB _,by rw[h6',hul],by rw[h5']⟩)
 unfold Oper.wp execOp
 simp only[ho]
 simp only[Sem.run_bind]
 rw[show(parts.map fun(x:Nat×Operand)=>match x with|(i,x)=>(i,a.eval x))=parts.map fun p=>(p.1,a.eval p.2) from rfl,hrun]
 exact this
theorem MV{ρ τ:Nat->Nat}:∀{ds:List D},(∀c∈D.rens ρ τ ds,c.one=true)->∀c∈ds,c.one=true
 |[],_,c,hc=>by simp at hc
 |d::ds,h,c,hc=>by
  simp only[D.rens,Ij] at h
  rcases Ij.1 hc with rfl|hc
  ·have:=h _ (.inl rfl)
   rwa[VF] at this
  ·exact MV (fun x hx=>h x (.inr hx)) c hc
mutual
theorem VE{ρ τ:Nat->Nat}:∀(d:D),d.pl=true->d.ren ρ τ=d
 |.v _,_|.raw _,_|.rv ..,_|.err,_|.undef,_=>by simp[D.ren]
 |.tup ds,h=>by rw[D.ren,MJ ds (by simpa[D.pl] using h)]
 |.acc ..,h|.ptr ..,h|.arr ..,h|.gro ..,h|.dagg _,h|.dfn ..,h=>by simp[D.pl] at h
theorem MJ{ρ τ:Nat->Nat}:∀(ds:List D),D.pls ds=true->D.rens ρ τ ds=ds
 |[],_=>by simp[D.rens]
 |d::ds,h=>by
  simp only[D.pls,H5] at h
  rw[D.rens,VE d h.1,MJ ds h.2]
end
mutual
theorem W1{n:Nat}{ts:List Nat}:∀(d:D),d.pl=true->d.okN n ts=true
 |.v _,_|.raw _,_|.rv ..,_|.err,_|.undef,_=>by simp[D.okN]
 |.tup ds,h=>by rw[D.okN,MX ds (by simpa[D.pl] using h)]
 |.acc ..,h|.ptr ..,h|.arr ..,h|.gro ..,h|.dagg _,h|.dfn ..,h=>by simp[D.pl] at h
theorem MX{n:Nat}{ts:List Nat}:∀(ds:List D),D.pls ds=true->D.okNs n ts ds=true
 |[],_=>by simp[D.okNs]
 |d::ds,h=>by
  simp only[D.pls,H5] at h
  rw[D.okNs,W1 d h.1,MX ds h.2];rfl
end
theorem AV{ρ τ:Nat->Nat}{ds:List D}(h:D.pls ds=true):D.rens ρ τ ds=ds:=MJ ds h
theorem AO{n:Nat}{ts:List Nat}{ds:List D}(h:D.pls ds=true):D.okNs n ts ds=true:=MX ds h
theorem KN{P:Program}{f:FuncId}{ds:List D}{σ:St}{d:D}{T H':List (Option (List D))}(sel:Nat->Nat)(hk:σ.H.length<=H'.length)(hfix:∀i,i<σ.H.length->sel i=i)
  (hinj:∀i j,i<H'.length->j<H'.length->sel i=sel j->i=j) (hlt:∀i,i<H'.length->sel i<T.length)
  (hsel:∀i cs,H'[i]?=some (some cs)->T[sel i]?=some (some (D.rens sel id cs))/\D.okNs H'.length [] cs=true) (hd:d.okN H'.length []=true)
  (h:Aa P f ds σ (d.ren sel id) ⟨T,[]⟩):Aa P f ds σ d ⟨H',[]⟩:=by
 refine⟨h.1,fun g w args hw ha=>Calls.mono (h.2 g w args hw ha) ?_⟩
 rintro e w' ⟨u,g',rfl,hw',hr⟩
 have hgn:g.n=σ.H.length:=hw.n
 have hn':g'.n=T.length:=hw'.rep.n
 let g2:Gh:={ M:=g'.M,β:=fun i=>g'.β (sel i),n:=H'.length,ι:=g'.ι,κ:=fun i=>g'.κ (sel i)}
 have ho:∀o,o<H'.length->sel o<g'.n->id o<g2.n/\g2.β (id o)=g'.β (sel o)/\g2.κ (id o)=g'.κ (sel o):=fun o h _=>⟨h,rfl,rfl⟩
 have hι:∀t,([]:List Nat).contains t=true->∀m u,g'.ι (id t) m=some u->g2.ι (id t) m=some u:=fun t ht=>by simp at ht
 have hdd:=fun(d:D) (u:Value) (hk:d.okN H'.length []=true) (h:Ae g' (d.ren sel id) u)=>by
  have:=Kq (g:=g') (g':=g2) (ρ:=sel) (τ:=id) (ρ':=id) (τ':=id) (fun _ _ h=>h) ho hι d u hk h
  rwa[LW] at this
 have hds:=fun(ds:List D) (us:List Value) (hk:D.okNs H'.length [] ds=true) (h:Ac g' (D.rens sel id ds) us)=>by
  have:=Dg (g:=g') (g':=g2) (ρ:=sel) (τ:=id) (ρ':=id) (τ':=id) (fun _ _ h=>h) ho hι ds us hk h
  rwa[DX] at this
 refine⟨u,g2,rfl,?_,hdd d u hd hr⟩
 refine{ rep:=?_,M:=hw'.M,size:=hw'.size,keep:=hw'.keep,os:=hw'.os,tape:=hw'.tape,output:=hw'.output,nE:=?_,βE:=?_,κE:=?_,objs:=?_,owns:=fun x hx=>by simp at hx,drawn:=hw'.drawn }
 ·refine{ n:=rfl,mem:=hw'.rep.mem,obj:=?_,inj:=?_,own:=fun k s xs hx=>by simp at hx,tags:=by simp,sep:=fun x hx=>by simp at hx,ownObj:=fun x hx=>by simp at hx,fresh:=hw'.rep.fresh,gl:=hw'.rep.gl,gw:=hw'.rep.gw }
  ·intro i cs hi
   obtain⟨h1,h2⟩:=hsel i cs hi
   obtain⟨us,rest,et,a1,a2,a3,a4,a5⟩:=hw'.rep.obj (sel i) _ h1
   exact⟨us,rest,et,a1,hds cs us h2 a2,MV a3,a4,a5⟩
  ·intro i j cs ds hi hj hij
   have hil:=(H7.1 hi).1
   have hjl:=(H7.1 hj).1
   exact hinj i j hil hjl (hw'.rep.inj _ _ _ _ (hsel i cs hi).1 (hsel j ds hj).1 hij)
 ·show g.n<=H'.length;omega
 ·intro o ho2
  have h2:o<σ.H.length:=by have:o<g.n:=ho2;omega
  show g'.β (sel o)=g.β o
  rw[hfix o h2];exact hw'.βE o ho2
 ·intro o ho2
  have h2:o<σ.H.length:=by have:o<g.n:=ho2;omega
  show g'.κ (sel o)=g.κ o
  rw[hfix o h2];exact hw'.κE o ho2
 ·intro i cs hi
  exact hw'.objs _ _ (hsel i cs hi).1
theorem AdL{E:Ent}{g:Gh}{σ:St}{e e':List D}{a:Act}{w:World}{H':List (Option (List D))}(sel:Nat->Nat){m:Nat}(hEm:E.g.n<=m)(hm:m<=H'.length)(hfix:∀i,i<m->sel i=i)
  (hinj:∀i j,i<H'.length->j<H'.length->sel i=sel j->i=j)
  (hsel:∀i cs,H'[i]?=some (some cs)->σ.H[sel i]?=some (some (D.rens sel id cs))/\D.okNs H'.length (σ.own.map (·.1)) cs=true)
  (he:D.okNs H'.length (σ.own.map (·.1)) e'=true) (hee:e=D.rens sel id e') (hf:FI E g σ e a w):∃g',FI E g' ⟨H',σ.own⟩ e' a w:=by
 have hw:=hf.wi
 let g2:Gh:={ M:=g.M,β:=fun i=>g.β (sel i),n:=H'.length,ι:=g.ι,κ:=fun i=>g.κ (sel i)}
 have ho:∀o,o<H'.length->sel o<g.n->id o<g2.n/\g2.β (id o)=g.β (sel o)/\g2.κ (id o)=g.κ (sel o):=fun o h _=>⟨h,rfl,rfl⟩
 have hι:∀t,(σ.own.map (·.1)).contains t=true->∀m u,g.ι (id t) m=some u->g2.ι (id t) m=some u:=fun t _ m u h=>h
 have hds:=fun(ds:List D) (us:List Value) (hk:D.okNs H'.length (σ.own.map (·.1)) ds=true) (h:Ac g (D.rens sel id ds) us)=>by
  have:=Dg (g:=g) (g':=g2) (ρ:=sel) (τ:=id) (ρ':=id) (τ':=id) (fun _ _ h=>h) ho hι ds us hk h
  rwa[DX] at this
 refine⟨g2,?_,hds e' _ he (hee▸hf.env),hf.defers⟩
 refine{ rep:=?_,M:=hw.M,size:=hw.size,keep:=hw.keep,os:=hw.os,tape:=hw.tape,output:=hw.output,nE:=Iz hEm hm,βE:=?_,κE:=?_,objs:=?_,owns:=hw.owns,drawn:=hw.drawn }
 ·refine{ n:=rfl,mem:=hw.rep.mem,obj:=?_,inj:=?_,own:=hw.rep.own,tags:=hw.rep.tags,sep:=hw.rep.sep,ownObj:=?_,fresh:=hw.rep.fresh,gl:=hw.rep.gl,gw:=hw.rep.gw }
  ·intro i cs hi
   obtain⟨h1,h2⟩:=hsel i cs hi
   obtain⟨us,rest,et,a1,a2,a3,a4,a5⟩:=hw.rep.obj (sel i) _ h1
   exact⟨us,rest,et,a1,hds cs us h2 a2,MV a3,a4,a5⟩
  ·intro i j cs ds hi hj hij
   have hil:=(H7.1 hi).1
   have hjl:=(H7.1 hj).1
   exact hinj i j hil hjl (hw.rep.inj _ _ _ _ (hsel i cs hi).1 (hsel j ds hj).1 hij)
  ·intro x hx u hu b hb i cs hi
   exact hw.rep.ownObj x hx u hu b hb _ _ (hsel i cs hi).1
 ·intro o ho2
  show g.β (sel o)=E.g.β o
  rw[hfix o (by omega)];exact hw.βE o ho2
 ·intro o ho2
  show g.κ (sel o)=E.g.κ o
  rw[hfix o (by omega)];exact hw.κE o ho2
 ·intro i cs hi
  exact hw.objs _ _ (hsel i cs hi).1
theorem Ee{C:Ent->Ent->Prop}{P:Program}{R:List D->St->Prop}{k:List KI}{σ:St}{e e':List D}{H':List (Option (List D))}{m:Nat}(hCm:∀E0 E,C E0 E->E.g.n<=m)(sel:Nat->Nat)(hm:m<=H'.length)(hfix:∀i,i<m->sel i=i)
  (hinj:∀i j,i<H'.length->j<H'.length->sel i=sel j->i=j)
  (hsel:∀i cs,H'[i]?=some (some cs)->σ.H[sel i]?=some (some (D.rens sel id cs))/\D.okNs H'.length (σ.own.map (·.1)) cs=true)
  (he:D.okNs H'.length (σ.own.map (·.1)) e'=true) (hee:e=D.rens sel id e') (h:A1 C P R k e' ⟨H',σ.own⟩):A1 C P R k e σ:=fun E0 E g a w B hC hf hB=>by
 obtain⟨g',hf'⟩:=AdL sel (hCm E0 E hC) hm hfix hinj hsel he hee hf
 exact h E0 E g' a w B hC hf' hB
theorem DH{C:Ent->Ent->Prop}{P:Program}{R:List D->St->Prop}{k:List KI}{H0 H':List (Option (List D))}{e e':List D}(hCm:∀E0 E,C E0 E->E.g.n<=0)(j:Nat)(hj:H0.length=j)(hp:∀cs,some cs∈H'->D.pls cs=true)
  (he:D.okNs H'.length [] e'=true) (hee:e=D.rens (fun i=>i+j) id e') (h:A1 C P R k e' ⟨H',[]⟩):A1 C P R k e ⟨H0++H',[]⟩:=by
 refine Ee (σ:=⟨H0++H',[]⟩) (e':=e') (H':=H') (m:=0) hCm (fun i=>i+j) (Ic _) (fun i hi=>by omega) (fun i k _ _ h=>by simpa using h) (fun i cs hi=>?_) he hee h
 have hpl:=hp cs (HA hi)
 refine⟨?_,AO hpl⟩
 rw[AV hpl,HN (by omega),hj,Nat.add_sub_cancel]
 exact hi
theorem FU{P:Program}{f:FuncId}{ds:List D}{k:Nat}{xs:List V}{own:List (Nat×Nat×List V)}(h:Aa P f ds ⟨[],[]⟩ (.acc k xs) ⟨[],own⟩):Aa P f ds ⟨[],[]⟩ (.v (.list xs)) ⟨[],[]⟩:=by
 refine⟨h.1,fun g w args hw ha=>Calls.mono (h.2 g w args hw ha) ?_⟩
 rintro e w' ⟨u,g',rfl,hw',hr⟩
 have hw2:=Uv (σ':=⟨[],[]⟩) hw' (m:=0) rfl (Ic _) (by rw[hw.n];exact HB _) rfl (by simp)
 refine⟨u,_,rfl,hw2,?_⟩
 refine MI _ _ rfl ?_
 simp only[Ae] at hr⊢
 exact hr.1
def σbad:St:=⟨[],[(1,1,[]),(1,1,[])]⟩
theorem Rt{P:Program}{o:Oper}{ds:List D}{d:D}{s':St}:Ah P o ds σbad d s':=fun E g a w K Q hw=>by
 have:=hw.rep.tags
 simp[σbad] at this
theorem Aaj{P:Program}{o:Oper}{ds:List D}{q off:Nat}{s:St}{d:D}{s':St}(h:s.H.length<=q):Ah P o (.ptr q off::ds) s d s':=fun E g a w K Q hw hds=>by
 simp only[Ac,Ae] at hds
 obtain⟨u,us,_,h1,_⟩:=hds
 have:=h1.1
 have:=hw.rep.n
 omega
theorem Oe:∀(L:List (Nat×D)) (e0 e:List D),e0.length=e.length->(∀(i:Nat) (d':D),e0[i]?=some d'->d'=.undef∨e[i]?=some d')->(∀p∈L,e0[p.1]?=some .undef)->
  e0.length=(L.foldl (fun e p=>e.set p.1 p.2) e).length/\∀(i:Nat) (d':D),e0[i]?=some d'->d'=.undef∨(L.foldl (fun e p=>e.set p.1 p.2) e)[i]?=some d'
 |[],e0,e,hl,h,_=>⟨hl,h⟩
 |p::L,e0,e,hl,h,hp=>by
  refine Oe L e0 (e.set p.1 p.2) (by simpa using hl) (fun i d' hd=>?_) (fun q hq=>hp q (by simp[hq]))
  by_cases hi:i=p.1
  ·subst hi
   rw[hp p (by simp)] at hd
   simp at hd;exact .inl hd.symm
  ·rw[List.getElem?_set_ne (fun e=>hi e.symm)];exact h i d' hd
theorem PI{C:Ent->Ent->Prop}{P:Program}{R:List D->St->Prop}{k:List KI}{n:Nat}{L L2:List (Nat×D)}{σ:St}(hp:∀p∈L2,(mkE n L)[p.1]?=some .undef)(h:A1 C P R k (mkE n L) σ):A1 C P R k (mkE n (L++L2)) σ:=by
 obtain⟨h1,h2⟩:=Oe L2 (mkE n L) (mkE n L) rfl (fun i d' hd=>.inr hd) hp
 rw[show mkE n (L++L2)=L2.foldl (fun e p=>e.set p.1 p.2) (mkE n L) by simp[mkE]]
 exact FX h1 h2 h
theorem Abt{P:Program}(hm:P.follows .mixedOrders=true){C:Nat}{fn:Func}{d:D}{σ':St}(nt:Nat)(im:List Nat){ks T:List KI}{L:List (Nat×D)}{σ:St}(s:Sc)
  (h:AQ (mkE nt L) fun env=>vc (CN C) C P (fun env σ1=>Aw P fn env σ1 d σ') (U8 P fn.results.toList d σ') nt im T 10000 s ks env σ):Rn P fn C d σ' (ks++T) (mkE nt L) σ:=Acq hm (OF _) _ (fun _ _ h=>h.2) nt im s h
noncomputable def Afp(P:Program)(rs:List ResultVar)(d:D)(σ':St)(env:List D)(σ:St)(kn0:Bool:=false):Prop:=
 YL P env σ true rs fun ds=>AQ (ds.map (wkD (σ'.own.map (·.1)) kn0)) fun ds=>ZT ds fun d'=>
  cond (D.okN σ'.H.length (σ'.own.map (·.1)) d&&Nat.ble σ'.H.length σ.H.length) (AhC true (okH σ'.H.length (σ'.own.map (·.1)) (σ.H.take σ'.H.length))
   (Qn σ'.H (σ.H.take σ'.H.length) (Qn σ'.own (ZW (σ'.own.map (·.1)) σ.own) (d'=d)))) False
theorem YK{P:Program}{fn:Func}{d:D}{σ':St}{env:List D}{σ:St}(h:Afp P fn.results.toList d σ' env σ):Aw P fn env σ d σ':=by
 obtain⟨ds,h1,hr⟩:=Hq h
 rw[AM,Ri] at h1
 obtain⟨h2,h3⟩:=An h1
 obtain⟨h8,h3⟩:=PX h3
 simp only[H5] at h2
 generalize false=kn at h3
 have h4:SS (ds.map (wkD (σ'.own.map (·.1)) kn))=d/\σ.H.take σ'.H.length=σ'.H/\ZW (σ'.own.map (·.1)) σ.own=σ'.own:=by
  obtain⟨e1,h3⟩:=FD h3 (fun e=>by rw[e];rfl)
  obtain⟨e2,h3⟩:=FD h3 (fun e=>by rw[e];unfold ZW;rw[List.filter_eq_nil_iff];simp)
  exact⟨h3,e1,e2⟩
 obtain⟨rfl,hH,hown⟩:=h4
 intro E g a w hf hE
 obtain⟨us,h5,h6⟩:=hr.run hf
 have hrun:(results fn a.tmps).run P w=.ok (if h:us.length=1 then us[0] else .tuple us.toArray) w:=by
  rw[J0,Array.mapM_eq_mapM_toList]
  simp only[Sem.run_bind,Sem.run_map,h5,Result.andThen_ok]
  by_cases h:us.length=1<;>simp[h]
 have hsub:σ'.own.Sublist σ.own:=by rw[←hown];exact List.filter_sublist
 refine⟨_,_,hrun,Uv hf.wi hH.symm (HX h2.2) hE (by have:=h8;rwa[hH] at this) hsub,?_⟩
 refine MI _ _ h2.1 ?_
 have h7:=Ds (ts:=σ'.own.map (·.1)) (kn:=kn) h6
 generalize ds.map (wkD (σ'.own.map (·.1)) kn)=ds' at h7
 have hl:=A4 h7
 unfold SS
 split
 ·rename_i d0
  obtain⟨u,rfl,h3⟩:=A2.1 h7
  simpa using h3
 ·rename_i hne
  have:us.length≠1:=by
   rw[hl]
   intro h
   match ds',h with
   |[d0],_=>exact hne d0 rfl
  rw[dif_neg this]
  simp only[Ae]
  exact⟨us,rfl,h7⟩
theorem Zk{P:Program}(hm:P.follows .mixedOrders=true){f:FuncId}{ds:List D}{σ σ':St}{d:D}(fn:Func)(c:Code)(hf:P.funcs[f]?=some fn)(hb:fn.body=some c)(hn:(fn.name=="runtime.NumGoroutine")=false)(hH:Nat.ble σ.H.length σ'.H.length=true)(nt:Nat)(hnt:(ds++replicate (fn.ntmps-ds.length) D.undef).length=nt)
  (im:List Nat) (s:Sc)
  (h:AQ (ds++replicate (fn.ntmps-ds.length) D.undef) fun env=>vc (CN σ.H.length) σ.H.length P (fun env σ1=>Aw P fn env σ1 d σ') (fun _ env σ=>Afp P fn.results.toList d σ' env σ) nt im [] 10000 s [.code c] env σ):Aa P f ds σ d σ':=by
 rw[AM] at h
 refine JM hf hb hn (HX hH) ?_
 exact S2 (ks:=[.code c]) (T:=[]) (OF _) (fun _ _ h=>h.2) hm (fun b env σ _ h=>YK h) hnt h
section
variable {P : Program} {o : Oper} {σ : St} {d : D}
theorem Li{x:Operand}{t:TypeId}(ho:o.op=.call { callee:=.builtin .clear,args:= #[x],argTypes:= #[t]}){e:TypeId}{sz by':Nat}{z:Value}(hs:BP P t=some (e,sz,by',some z)){zs:List V}(hz:EA z.cells.toList=some zs)(hzc:z.cells.size=sz)
  {q off len:Nat} {cs:List D} (hq:σ.H[q]?=some (some cs)) (hn:0<len) (hfit:off+len*sz<=cs.length):
  Ah P o [.arr q off len] σ (.tup []) ⟨σ.H.set q (some (cs.take off++(replicate len zs).flatten.map .v++cs.drop (off+len*sz))),σ.own⟩:=by
 intro E g a w K Q hw hds hK
 simp only[ho,Op.operands,Call.operands] at hds
 obtain⟨u,eq,h1⟩:=A2.1 (by simpa using hds)
 simp only[HH,Ih] at eq
 simp only[Ae] at h1
 obtain⟨_,cap,_,rfl⟩:=h1
 obtain⟨i,hu,hi,hsz,hby,hzz⟩:=AA hs
 obtain⟨us,rest,et,hb,hr,hone,hM,hκ⟩:=hw.rep.obj q cs hq
 have hul:=A4 hr
 have hcells:(Builtin.zeroCells z.cells len).toList=(replicate len z.cells.toList).flatten:=by
  have h:=JS z.cells len
  have h2:Builtin.zeroCells z.cells len=madeCells z.cells (len*z.cells.size):=rfl
  rw[h2,h]
 obtain⟨hr1,ho1⟩:=CZ (g:=g) (Em (M:=g.M) hz)
 have hrz:∀m,Ac g ((replicate m zs).flatten.map .v) (replicate m z.cells.toList).flatten/\∀c∈ (replicate m zs).flatten.map D.v,c.one=true:=by
  intro m
  induction m with
  |zero=>simp[Ac]
  |succ m ih=>
   simp only[Ix,IR,IJ]
   refine⟨Ap hr1 ih.1,fun c hc=>?_⟩
   rcases Iq.1 hc with h|h
   ·exact ho1 c h
   ·exact ih.2 c h
 have hvl:(replicate len z.cells.toList).flatten.length=len*sz:=by rw[Fm,Ig,hzc]
 have hst:=run_storeCells_at P (g.β q) off et (replicate len z.cells.toList).flatten 0 (us++rest).toArray w hb (by simp only[II,HI];omega) (fun v hv=>Cs (hrz len).2 (hrz len).1 v hv)
 simp only[I2,hvl] at hst
 rw[show(us++rest).take off++(replicate len z.cells.toList).flatten++(us++rest).drop (off+len*sz)=(us.take off++(replicate len z.cells.toList).flatten++us.drop (off+len*sz))++rest from by
  rw[IV (by omega),List.drop_append_of_le_length (by omega)];simp] at hst
 have hw':=hw.setObj (cs':=cs.take off++(replicate len zs).flatten.map .v++cs.drop (off+len*sz)) hq (us:=us.take off++(replicate len z.cells.toList).flatten++us.drop (off+len*sz)) (rest:=rest) (e:=et)
  (w':=w.setRow (g.β q) ((us.take off++(replicate len z.cells.toList).flatten++us.drop (off+len*sz))++rest).toArray) (setRow_heap w _ _ _ et _ hb) (by rw[←hκ];simp only[HI,HY,I9];omega)
  (Ap (Ap (B8 hr off) (hrz len).1) (BY hr (off+len*sz)))
  (fun c hc=>by
   simp only[Iq] at hc
   rcases hc with(hc|hc)|hc
   ·exact hone c (IK hc)
   ·exact(hrz len).2 c hc
   ·exact hone c (Iu hc))
  (fun b hb=>setRow_other w _ _ _ hb) (by simp) rfl rfl rfl
 have:=hK g _ (.tuple #[]) hw' g.le_refl (by simp only[Ae];exact⟨[],rfl,by simp[Ac]⟩)
 obtain⟨m,hm⟩:∃m,len=m+1:=⟨len-1,by omega⟩
 have hrun:(Builtin.clear_ #[t] o.type #[.slice (some ⟨g.β q,off,none⟩) len cap]).run P w=.ok (.tuple #[]) (w.setRow (g.β q) ((us.take off++(replicate len z.cells.toList).flatten++us.drop (off+len*sz))++rest).toArray):=by
  subst hm
  simp[Builtin.clear_,run_underlying hu,zeroValue,typeInfo,hi,hzz,hcells,hst]
 unfold Oper.wp execOp
 simp only[ho,resolve,invoke,builtin,Sem.run_bind,Sem.run_pure,Result.andThen_ok]
 rw[show(#[x]:Array Operand).map a.eval= #[.slice (some ⟨g.β q,off,none⟩) len cap] from by simp[eq],hrun]
 exact this
end
theorem Qp{env:List D}{σ:St}{q t sz n:Nat}{xs:List V}{rest:List D}(hsz:0<sz)(hs:∀x∈xs,x.size=sz)(hn:n=xs.length)(hq:σ.H[q]?=some (some (Ab xs++rest)))(ht:env[t]?=some (.arr q 0 n)):Cv env σ (env.set t (.v (.list xs))) ⟨σ.H.set q none,σ.own⟩:=fun E g a w hf=>by
 subst hn
 have hone:∀y∈xs.flatMap V.cellsV,y.isAgg=false:=fun y hy=>by
  obtain⟨_,_,_,_,_,h1,_⟩:=hf.wi.rep.obj q _ hq
  have:=h1 (.v y) (Iq.2 (.inl (Il.2 ⟨y,hy,rfl⟩)))
  simpa[D.one] using this
 have hz:Fz (DP [q] σ.H) env (env.set t (.v (.list xs))):=by
  refine Mc (n:=1) (Fz.refl env) ht (.inr (.inr ⟨q,0,sz,Ab xs++rest,xs,.inl rfl,rfl,hsz,hs,by simp[DP,hq],fun j y hy=>?_⟩))
  have hj:j<(Ab xs).length:=by rw[Ab,H3];exact(H7.1 hy).1
  exact⟨hone y (HA hy),.v y,by rw[Io,HQ hj,Ab,Ik,hy];rfl,.v y,.same,rfl⟩
 obtain⟨g',hf'⟩:=Pc [q] hz E g a w hf
 exact⟨g',by simpa[GX] using hf'⟩
theorem V8(n:Nat):rho n (List.range n)=id:=by
 funext j
 unfold rho
 by_cases h:j<n
 ·rw[List.getElem?_range h];rfl
 ·rw[Ir (by rw[List.length_range];omega),List.length_range];show n+(j-n)=j;omega
theorem LE:∀(H2 H1 os:List (Option (List D))),H2.length<=os.length->CM (H1++H2) (List.range' H1.length H2.length) os=H1++os
 |[],H1,os,_=>by simp[CM]
 |x::H2,H1,[],h=>by simp at h
 |x::H2,H1,o::os,h=>by
  rw[H9,List.range'_succ,CM]
  have h2:=LE H2 (H1++[o]) os (by simpa using h)
  rw[HI,H9,HD] at h2
  rw[show(H1++x::H2).set H1.length o=(H1++[o])++H2 by rw[List.set_append_right _ _ (HB _)];simp]
  rw[show H1.length+1=H1.length+(0+1) by omega,h2]
  simp
theorem ZG(H:List (Option (List D))):Gi id id H=H:=by
 unfold Gi
 conv=>rhs;rw[←List.map_id H]
 refine List.map_congr_left fun x _=>?_
 cases x with
 |none=>rfl
 |some cs=>simp[DX]
theorem LG{n:Nat}{qs:List Nat}(hq:qs.length=n)(hr:rho n qs=id):∀{ds:List D},D.okNs n [] ds=true->G3 n qs ds ds
 |[],_=>.nil
 |d::ds,h=>by
  simp only[D.okNs,H5] at h
  refine .cons ?_ (LG hq hr h.2)
  have:=Ae6.ren (n:=n) (qs:=qs) (dc:=d) (by rw[hq];exact h.1)
  rwa[hr,LW] at this
theorem OA{H:List (List D)}{qs:List Nat}(hq:qs.length=H.length)(hr:rho H.length qs=id)(hH:∀cs∈H,D.okNs H.length [] cs=true/\cs.all D.one=true):∀(k:Nat),k<=H.length->NL (H.map some) qs (List.range' (H.length-k) k) ((H.drop (H.length-k)).map some)
 |0,_=>by simp;exact .nil
 |k+1,hk=>by
  have hlt:H.length- (k+1)<H.length:=by omega
  rw[List.range'_succ,HJ hlt,HU,show H.length- (k+1)+1=H.length-k by omega]
  have hm:=hH _ (List.getElem_mem hlt)
  refine .cons (cs:=H[H.length- (k+1)]) (by rw[Ik,H4 hlt];rfl) ?_ hm.2 (OA hq hr hH k (by omega))
  rw[H3]
  exact LG hq hr hm.1
theorem Ci{P:Program}{o:Oper}{c:Call}{fo:Operand}(ho:o.op=.call c)(hc:c.callee=.value fo){fD:D}{f:FuncId}{fs cs:List D}(hf:Nu fD=some (f,fs,cs)){H:List (List D)}{H':List (Option (List D))}{ds:List D}{d:D}
  (hspec:Aa P f (fs++ds++cs) ⟨H.map some,[]⟩ d ⟨H',[]⟩) (hds:D.okNs H.length [] (fs++ds++cs)=true) (hH:∀cs∈H,D.okNs H.length [] cs=true/\cs.all D.one=true) (hd:d.okN H'.length []=true) (hH':okH H'.length [] H'=true) (hle:H.length<=H'.length):
  Ah P o (fD::ds) ⟨H.map some,[]⟩ d ⟨H',[]⟩:=by
 have hq:(List.range H.length).length=H.length:=List.length_range
 have hr:=V8 H.length
 have hl:(H.map some).length=H.length:=H3 ..
 have hob:=OA hq hr hH H.length (HB _)
 rw[Nat.sub_self,IW, ←List.range_eq_range'] at hob
 have h:=CT (σ:=⟨H.map some,[]⟩) ho hc hf (List.range H.length) id hspec (by
  show G3 (H.map some).length _ _ _
  rw[hl];exact LG hq hr hds) hob List.nodup_range rfl (by simp) (by simp) hd hH'
 have hb:CM (H.map some) (List.range H.length) H'=H':=by
  have:=LE (H.map some) [] H' (by rw[hl];exact hle)
  simpa[hl,List.range_eq_range'] using this
 simp only[hl,hr,LW,ZG,hb] at h
 simpa[Gg] using h
theorem Uw{E:Ent}{g:Gh}{σ:St}{w:World}(hw:WI E g σ w)(b:Nat)(h:Ent.priv ⟨g,w,σ⟩ b):E.w.heap.size<=b∨E.priv b:=by
 rcases h with⟨i,cs,hi,rfl⟩|⟨x,hx,u,hu,hb⟩
 ·exact hw.objs i cs hi
 ·exact hw.owns x hx u hu b hb
theorem Y9{E:Ent}{g g':Gh}{σ σ':St}{w w':World}(hw:WI E g σ w)(h:WI ⟨g,w,σ⟩ g' σ' w'):WI E g' σ' w':=by
 have back:∀b,w.heap.size<=b∨Ent.priv ⟨g,w,σ⟩ b->E.w.heap.size<=b∨E.priv b:=fun b hb=>by
  rcases hb with hb|hb
  ·exact .inl (Iz hw.size hb)
  ·exact Uw hw b hb
 exact hw.update (fun b=>Ent.priv ⟨g,w,σ⟩ b) (fun b hb=>Uw hw b hb) (fun b hb hx=>h.keep b hb hx) h.M h.nE h.βE h.κE h.size h.os h.tape h.output h.rep
  (fun i cs hi=>back _ (h.objs i cs hi)) (fun x hx u hu b hb=>back _ (h.owns x hx u hu b hb)) (drawn:=h.drawn)
section
variable {P : Program} {R : List D -> St -> Prop} {k : List KI} {nt : Nat} {E : List (Nat × D)} {σ : St} {ops : Array Oper} {L0 : List Oper} {C : Ent -> Ent -> Prop}
theorem BX(t f:Nat)(ds:List D)(d:D)(σ':St)(h0:L0.isEmpty=false)(hg:BM (mkE nt E) ops (hdO L0)=some true)(ht:(hdO L0).dst=some t)(hop:clQ f (hdO L0).op=true)
  (hds:(clA (hdO L0).op).map (evD (mkE nt E))=ds) (hnoE:D.okNs σ.H.length [] (mkE nt E)=true) (hspec:Aa P f ds σ d σ')
  (hk:AT C P R k ops L0.tail (mkE nt (E++[(t,d)])) σ'):AT C P R k ops L0 (mkE nt E) σ:=by
 obtain⟨c,h1,h2,h3⟩:=Ahf hop
 rw[RH h0]
 rw[Nn] at hk
 intro E0 E' g a w B hC hf hB
 unfold wpList
 rw[HP (Co hf.env hg)]
 refine .inl ?_
 have hops:(hdO L0).op.operands.toList.map (evD (mkE nt E))=.v (.fn f [] [])::ds:=by
  rw[h1]
  simp only[Op.operands,Call.operands,h2]
  rw[h3] at hds
  simp[←hds,evD]
 have hop':Ac g (.v (.fn f [] [])::ds) ((hdO L0).op.operands.toList.map a.eval):=by
  rw[←hops];exact EG hf.wi.rep.gl hf.env _
 obtain⟨us,vs,ws,hfn,hargs,k1,k2,k3⟩:=CE h1 h2 hop'
 simp only[I1,Ac] at k1 k2
 subst k1;subst k2
 refine E4 (_E:=E') (_g:=g) h1 h2 hspec.1 hfn hargs ?_
 refine Calls.mono (hspec.2 g w _ hf.wi.rep (by simpa using k3)) ?_
 rintro e w' ⟨u,g',rfl,hw',hr⟩
 have h4:=Y9 hf.wi hw'
 refine⟨u,rfl,?_⟩
 have hn:g.n=σ.H.length:=hf.wi.rep.n
 have henv:Ac g' (mkE nt E) a.tmps.toList:=by
  have h5:=Dz (m:=g.n) (ts:=[]) _ _ (by rw[hn];exact hnoE) hf.env
  refine Ac.mono (g:=shG g g.n []) ⟨hw'.M,hw'.nE,hw'.βE,fun k m u h=>?_,hw'.κE⟩ _ _ h5
  simp[shG] at h
 have hfi:FI E' g' σ' (mkE nt E) a w':=⟨h4,henv,hf.defers⟩
 have:=hfi.put h4 (Gh.le_refl _) (d:=d) (u:=u) hr (some t)
 rw[ht]
 exact hk E0 E' _ _ _ B hC this hB
end
variable {P : Program} {o : Oper} {σ : St}
theorem Rq{t:TypeId}{x:Operand}(ho:o.op=.makeInterface t x){td:TypeDesc}(hu:P.underlying t=some td)(ht:∀ms,td≠ .interface ms)(y:V):Ah P o [.v y] σ (.v (.ifc t y)) σ:=by
 intro E g a w K Q hw hds hK
 simp only[ho,Op.operands] at hds
 obtain⟨u,e,h1⟩:=A2.1 hds
 simp only[HU,I1,HH,Ih] at e
 simp only[Ae] at h1
 have hrun:(Instr.makeInterface t (a.eval x)).run P w=.ok (.iface t u) w:=by
  unfold Instr.makeInterface
  simp only[Sem.run_bind,run_underlying hu,Result.andThen_ok]
  cases td with
  |interface ms=>exact absurd rfl (ht ms)
  |_=>simp only[Sem.run_pure,e]
 have:=hK g w (.iface t u) hw g.le_refl (by simp only[Ae];exact MG.2 ⟨u,rfl,h1⟩)
 unfold Oper.wp execOp
 simp only[ho,Sem.run_bind,hrun,Result.andThen_ok,Sem.run_pure]
 exact this
theorem Ww{e:TypeId}(ho:o.op=.alloc e){i:TypeInfo}{z u:Value}(hi:P.info? e=some i)(hz:i.zero=some z)(hc:z.cells= #[u])(h1:u.oneCell'=true):Ah P o [] σ (.ptr σ.H.length 0) ⟨σ.H++[some [.raw u]],σ.own⟩:=by
 intro E g a w K Q hw hds hK
 obtain⟨g',hw',hle,hβ,hn⟩:=hw.newObj e (us:=z.cells.toList) (cs:=[.raw u]) (by rw[hc];simp only[Ac,Ae];exact⟨u,[],rfl,rfl,rfl⟩) (fun c h=>by rw[HK.1 h];exact h1)
 have:=hK g' _ (.pointer (some ⟨w.heap.size,0,none⟩)) hw' hle (by simp only[Ae];exact⟨by omega,by rw[hβ]⟩)
 unfold Oper.wp execOp
 simpa[ho,Instr.alloc,zeroValue,typeInfo,hi,hz,newVar,newRow,Oper.upon] using this
theorem Rr{t ty:TypeId}{x:Operand}(ho:o.op=.binOp .eql t x (.const .nilIface) ty)(hi:P.underlying t=some (.interface (P.methodsAt t))){t':TypeId}{y:V}:Ah P o [.v (.ifc t' y),.undef] σ (db false) σ:=by
 intro E g a w K Q hw hds hK
 simp only[ho,Op.operands] at hds
 obtain⟨u,v,e,h1,_⟩:=Ao.1 hds
 simp only[HU,I1,HH,Ih] at e
 obtain⟨e1,e2⟩:=e
 simp only[Ae] at h1
 obtain⟨p',rfl,_⟩:=MG.1 h1
 have e3:a.eval (.const .nilIface)=.nilIface:=rfl
 unfold Oper.wp
 have:(execOp a.eval o).run P w=.ok (.value (.bool false)) w:=by
  simp[execOp,ho,e1,e3,eqGuard,binOp,run_equal_held_nil w t t' p' hi]
 rw[this]
 exact hK g w _ hw g.le_refl (by simp[Ae])
theorem Rs{c:Call}{ro:Operand}{name:String}(ho:o.op=.call c)(hc:c.callee=.invoke ro name){t:TypeId}{f:FuncId}(hm:∀v w,(Go.method (P.types.size+Made.depth) t v name).run P w=.ok (f,v) w){x:V}{ds:List D}{d:D}(hp:D.pls ds=true)(hd:d.pl=true)
  (hspec:Aa P f (.v x::ds) ⟨[],[]⟩ d ⟨[],[]⟩):Ah P o (.v (.ifc t x)::ds) σ d σ:=by
 intro E g a w K Q hw hds hK
 simp only[ho,Op.operands,Call.operands,hc] at hds
 have h':Ac g (.v (.ifc t x)::ds) (a.eval ro::c.args.toList.map a.eval):=by simpa using hds
 simp only[Ac] at h'
 obtain⟨u,us',e,h1,h2⟩:=h'
 simp only[HH] at e
 obtain⟨e1,e2⟩:=e
 simp only[Ae] at h1
 obtain⟨v,rfl,hv⟩:=MG.1 h1
 obtain⟨fn,h3,h4,h5⟩:=hspec.1
 have hargs':Ac { M:=g.M,β:=g.β,n:=0,ι:=fun _ _=>none,κ:=g.κ } (.v x::ds) (v::us'):=
  B2 (g:=g) (by rfl) (by simp[D.pls,D.pl,hp]) (by simp only[Ac,Ae];exact⟨v,us',rfl,hv,h2⟩)
 have hargs2:c.args.map a.eval=us'.toArray:=by apply I6;simpa using e2
 unfold Oper.wp execOp
 simp only[ho,resolve,hc,e1,hargs2,Sem.run_bind,Sem.run_pure,Result.andThen_ok,invoke]
 have ex:(#[Value.iface t v]++us'.toArray)[0]?=some (.iface t v):=by simp
 simp only[ex,callMethod,Sem.run_bind,run_program,Result.andThen_ok,hm]
 simp only[callFunc,Sem.run_bind,run_program,Result.andThen_ok,h3,h4,h5,Jj,if_false]
 have e: #[v]++(#[Value.iface t v]++us'.toArray).extract 1 (#[Value.iface t v]++us'.toArray).size=(v::us').toArray:=by
  apply I6;simp
 rw[e]
 refine Calls.mono (hspec.2 _ w _ hw.rep.empty hargs') ?_
 rintro e w' ⟨u,g',rfl,hw',hr⟩
 obtain⟨h6,h7⟩:=hw.back0 (by rfl) hw'
 exact hK _ _ _ h6 h7 (KX (by rfl) hd hr)
end Go.Nv

namespace Go.Proofs.YtmhjflomgppcnaaGreatDoor
open Go.Dv
open Go.IntKind (wrap i64 u64)
noncomputable abbrev PP:Program:= Tryz.prog
theorem mixed:PP.follows .mixedOrders=true:=by kernel_rfl
end Go.Proofs.YtmhjflomgppcnaaGreatDoor

namespace Go.Proofs.YtmhjflomgppcnaaGreatDoor
open Go.Dv Go.Nv
set_option maxRecDepth 20000
open List (flatten length map replicate take)
open Go.IntKind (wrap i64 u64)
abbrev Q{α:Type}(a:α):Prop:=a=a
abbrev F0(f:FuncId)(ds:List D)(d:D):Prop:=Aa PP f ds ⟨[],[]⟩ d ⟨[],[]⟩
noncomputable abbrev Azf:=@V.list
noncomputable abbrev Aza:=@KI.blk
noncomputable abbrev Azb:=@D.ptr
noncomputable abbrev Azc:=@D.acc
noncomputable abbrev Azd:=@St.mk
noncomputable abbrev Aze:=@ByteArray.mk
noncomputable abbrev Azg:=@V.str
noncomputable abbrev Azh:=@V.agg
noncomputable abbrev Azi:=@D.arr
noncomputable abbrev Azj:=@D.undef
noncomputable abbrev Azk:=@V.bool
noncomputable abbrev Azl:=@V.fn
noncomputable abbrev Azm:=@D.gro
noncomputable abbrev Azn:=@D.tup
noncomputable abbrev Azo:=@V.ref
noncomputable abbrev N0:=fun(ds:List D)(σ:St)(d:D)(σ':St)=>∀(o:Oper)(c:Call)(fo:Operand),o.op=Op.call c->c.callee=Callee.value fo->Ah PP o ds σ d σ'
abbrev I0(fn:Func)(C:Nat)(d:D)(s:St)(k:List KI)(e:List D)(t:St):Prop:=It (Rn PP fn C d s k e t)
abbrev kl(c:Code)(p:List Nat):KI:=.lp (sub c p)
abbrev kc(c:Code)(p:List Nat):KI:=.code (sub c p)
abbrev dn:D:=.v .nils
abbrev zRl:List D:=[D.v (V.str (ByteArray.mk #[]).data.toList),di 0,di 0,D.v V.nils,D.v V.nils,D.v V.nils,di 0,di 0,di 0,D.v V.nils,D.v V.nils,D.v V.nils,D.v V.nils,di 0]
abbrev zMl:List D:=[di 0,D.v V.nils,D.v V.nils,D.v V.nils,D.v V.nils,di 0,di 0,D.v V.nils,di 0,D.v V.nils]
theorem sv{f:FuncId}{ds:List D}{σ σ':St}{d:D}(fn:Func)(nt:Nat)(im:List Nat)(s:Sc)(a:Prop)(ha:a)(hf:PP.funcs[f]?=some fn:=by kernel_rfl)(hb:fn.body=some (fn.body.getD .skip):=by kernel_rfl)(hn:(fn.name=="runtime.NumGoroutine")=false:=by kernel_rfl)(hH:Nat.ble σ.H.length σ'.H.length=true:=by kernel_rfl)(hnt:(ds++replicate (fn.ntmps-ds.length) D.undef).length=nt:=by kernel_rfl)
  (h:a=AQ (ds++replicate (fn.ntmps-ds.length) D.undef) fun env=>vc (CN σ.H.length) σ.H.length PP (fun env σ1=>Aw PP fn env σ1 d σ') (U8 PP fn.results.toList d σ') nt im [] 10000 s [.code (fn.body.getD .skip)] env σ:=by kernel_rfl):Aa PP f ds σ d σ':=Vp mixed fn _ hf hb hn hH nt hnt im s (via h ha)
theorem lv{C:Nat}{fn:Func}{d:D}{σ':St}{ks T:List KI}{L:List (Nat×D)}{σ:St}(nt:Nat)(im:List Nat)(s:Sc)(a:Prop)(ha:a)
  (h:a=AQ (mkE nt L) fun env=>vc (CN C) C PP (fun env σ1=>Aw PP fn env σ1 d σ') (U8 PP fn.results.toList d σ') nt im T 10000 (.h .n s) ks env σ:=by kernel_rfl):Rn PP fn C d σ' (ks++T) (mkE nt L) σ:=AdH mixed nt im s (via h ha)
abbrev σ0:St:=⟨[],[]⟩
abbrev dfn(f:FuncId):D:=.v (.fn f [] [])
abbrev dl(l:List V):D:=.v (.list l)
abbrev ke(t:Nat):Nat×Option D:=(t,none)
abbrev ch(t:Nat)(d:D):Nat×Option D:=(t,some d)
theorem Aq{α:Type}{f:α->V}{a:List α}{i:Nat}{x:α}(h:a[i]?=some x):(a.map f)[((i:Nat):Int).toNat]?=some (f x):=by simp[h]
theorem Al{n:Int}(h0: -9223372036854775808<=n)(h1:n<=9223372036854775807):i64.wrap n=n:=by rw[IntKind.wrap_i64];omega
theorem Ad{i:Nat}(h:i<=1000000000):di (i64.wrap ((i:Int)+1))=di ((i+1:Nat):Int):=by rw[Al (by omega) (by omega)];simp
inductive Val where
 |mk (n:Int) (kids:List Val)
 deriving Inhabited
def Val.n:Val->Int
 |.mk n _=>n
def Val.kids:Val->List Val
 |.mk _ ks=>ks
mutual
def Val.enc:Val->V
 |.mk n ks=>.agg [vi n,.list (Val.encs ks)]
def Val.encs:List Val->List V
 |[]=>[]
 |v::vs=>v.enc::Val.encs vs
end
abbrev eV:Val->V:=Val.enc
abbrev vVs(l:List Val):V:=.list (l.map eV)
abbrev Af(v:Val):V:=.agg [vi v.n,vVs v.kids]
theorem encs_map:∀l:List Val,Val.encs l=l.map eV
 |[]=>rfl
 |v::l=>by simp[Val.encs,encs_map l]
theorem Bz(v:Val):eV v=Af v:=by cases v with|mk n ks=>simp only[eV,Val.enc,encs_map];rfl
abbrev dV(v:Val):D:=.v (Af v)
abbrev dVs(l:List Val):D:=.v (vVs l)
theorem As{a:List Val}{i:Nat}{x:Val}(h:a[i]?=some x):(a.map eV)[((i:Nat):Int).toNat]?=some (Af x):=by rw[←Bz];exact Aq h
theorem BB(a:List Val)(x:Val):a.map eV++[Af x]=(a++[x]).map eV:=by rw[←Bz];simp
mutual
def Val.size:Val->Nat
 |.mk _ ks=>1+Val.sizes ks
def Val.sizes:List Val->Nat
 |[]=>0
 |v::vs=>v.size+Val.sizes vs
end
theorem Val.size_eq(v:Val):v.size=1+Val.sizes v.kids:=by cases v;rfl
theorem Val.size_pos(v:Val):1<=v.size:=by rw[Val.size_eq];omega
theorem Val.size_mem{v:Val}:∀{l:List Val},v∈l->v.size<=Val.sizes l
 |w::l,h=>by
  rcases Ij.1 h with rfl|h
  ·simp[Val.sizes]
  ·have:=Val.size_mem h;simp only[Val.sizes];omega
theorem Val.length_le:∀l:List Val,l.length<=Val.sizes l
 |[]=>by simp[Val.sizes]
 |v::l=>by have:=Val.length_le l;have:=v.size_pos;simp only[H9,Val.sizes];omega
noncomputable abbrev AjQ:Func:= Tryz.f104
theorem R1(x:Int):Aa PP 104 [di x] σ0 (db false) σ0:=by
 refine sv AjQ 6 [] .r (db (x !=x)=db false) ?_
 simp
def AK(a b:Int):Int:=if a<b then-1 else if b<a then 1 else 0
noncomputable abbrev AiF:Func:= Tryz.f60
theorem Jv(a b:Int):Aa PP 60 [di a,di b] σ0 (di (AK a b)) σ0:=by
 refine sv AiF 20 [] (.c (db false)<|.c (db false)<|.k<|.k<|.b .r<|.b .r .r) (F0 104 [di a] (db false)/\F0 104 [di b] (db false)/\(decide (a<b)=true->di (-1)=di (AK a b))/\(decide (a<b)=false->(decide (a>b)=true->di 1=di (AK a b))/\(decide (a>b)=false->di 0=di (AK a b)))) ?_
 refine⟨R1 a,R1 b,fun h=>?_,fun h=>⟨fun h1=>?_,fun h1=>?_⟩⟩<;>simp_all [AK]<;>omega
def orM:List Int->Int
 |[]=>0
 |x::l=>if x=0 then orM l else x
noncomputable abbrev fOr:Func:= Tryz.f59
noncomputable def cOr:Code:=fOr.body.getD .skip
noncomputable abbrev Akw:=[1,1,0,1,0,0]
noncomputable abbrev Apx:=fun (a₀:Nat)=>(7,di (a₀:Int))
noncomputable abbrev Aqp:=fun a₀=>(Azf (map vi a₀))
theorem Adz(l:List Int)(hl:l.length<=1000000)(n:Nat):∀k:Nat,l.length-k=n->
  Rn PP fOr 0 (di (orM (l.drop k))) σ0 ([.lp (sub cOr [1,1,0,1,0,0]),.blk 0,.code (sub cOr [1,1,1])]++[]) (mkE 18 [(3,di 0),(6,dl (l.map vi)),(7,di l.length),(8,di k)]) σ0:=by
 induction n using Nat.strongRecOn with
 |_ n ih=>
 intro k hn
 refine lv 18 [] (.b (.e fun x:Int=>.x (vi x)<|.b .r (.l [ke 3,ke 6,ke 7,ch 8 (di (k+1:Nat))])) .r) ((decide ((k:Int)<(l.length:Int))=true->∃a,0<=(k:Int)/\(map vi l)[Int.toNat (k:Int)]?=some (vi a)/\((a !=0)=true->di a=di (orM (List.drop k l)))/\((a !=0)=false->di (wrap i64 ((k:Int)+1))=di (↑(k+1):Int)/\Nv.It (A1 (CN 0) PP (fun env σ1=>Aw PP fOr env σ1 (di (orM (List.drop k l))) σ0) [kl cOr Akw,Aza 0,kc cOr [1,1,1]] (mkE 18 [(3,di 0),(6,D.v (Aqp l)),(Apx l.length),(8,di (↑(k+1):Int))]) σ0)))/\(decide ((k:Int)<(l.length:Int))=false->di 0=di (orM (List.drop k l)))) ?_
 refine⟨fun h=>?_,fun h=>?_⟩
 ·have hk:k<l.length:=by simpa using h
  have hx:l[k]?=some l[k]:=H4 hk
  rw[HJ hk]
  generalize l[k]=x at hx⊢
  refine⟨x,by omega,Aq hx,fun hf=>?_,fun hf=>⟨Ad (by omega),⟨?_⟩⟩⟩
  ·have:x≠0:=by simpa using hf
   simp[orM,this]
  ·have:x=0:=by simpa using hf
   subst this
   exact ih (l.length- (k+1)) (by omega) (k+1) rfl
 ·have hk:l.length<=k:=by simpa using h
  rw[HO hk];rfl
theorem We(l:List Int)(hl:l.length<=1000000):Aa PP 59 [dl (l.map vi)] σ0 (di (orM l)) σ0:=by
 refine sv fOr 18 [] (.l [ke 3,ke 6,ch 7 (di l.length),ch 8 (di (0:Nat))]) (di (length (map vi l):Int)=di (l.length:Int)/\di 0=di (↑0:Int)/\I0 fOr σ0.H.length (di (orM l)) σ0 [kl cOr Akw,Aza 0,kc cOr [1,1,1]] (mkE 18 [(3,di 0),(6,dl (map vi l)),(Apx l.length),(8,di (↑0:Int))]) σ0) ?_
 refine⟨by simp,rfl,⟨?_⟩⟩
 exact Adz l hl _ 0 rfl
def AZ{α:Type}(c:α->α->Int):List α->List α->Int
 |[],[]=>0
 |[],_::_=> -1
 |_::_,[]=>1
 |x::a,y::b=>if c x y=0 then AZ c a b else c x y
noncomputable abbrev OX:Func:= Tryz.f61
noncomputable def Mw:Code:=OX.body.getD .skip
noncomputable abbrev Akz:=(Azd [] [])
theorem T9(F:FuncId)(fs cs:List V)(c:Val->Val->Int)(a b:List Val)(ha:a.length<=1000000)(hf:∀x∈a,∀y∈b,Aa PP F ((fs++[Af x,Af y]++cs).map .v) σ0 (di (c x y)) σ0)(n:Nat):∀k:Nat,a.length-k=n->k<=b.length->k<=a.length->
  Rn PP OX 0 (di (AZ c (a.drop k) (b.drop k))) σ0 ([.lp (sub Mw [1,0,1,0,0]),.blk 0,.code (sub Mw [1,1])]++[]) (mkE 39 [(0,dVs a),(1,dVs b),(2,.v (.fn F fs cs)),(11,dVs a),(12,di a.length),(13,di k)]) σ0:=by
 induction n using Nat.strongRecOn with
 |_ n ih=>
 intro k hn hkb hka
 refine lv 39 [] (.b (.e fun x:Val=>.x (Af x)<|.b .r<|.e fun y:Val=>.x (Af y)<|.c (di (c x y))<|.b .r (.ls [ke 0,ke 1,ke 2,ke 11,ke 12,ch 13 (di (k+1:Nat))] σ0)) (.b .r .r)) ((decide ((k:Int)<(a.length:Int))=true->∃a_2,0<=(k:Int)/\(map eV a)[Int.toNat (k:Int)]?=some (Af a_2)/\(decide ((k:Int)>=(length (map eV b):Int))=true->di 1=di (AZ c (List.drop k a) (List.drop k b)))/\(decide ((k:Int)>=(length (map eV b):Int))=false->∃a_4,0<=(k:Int)/\(map eV b)[Int.toNat (k:Int)]?=some (Af a_4)/\Aa PP F (map D.v (fs++[Azh [vi a_2.n,vVs a_2.kids],Azh [vi a_4.n,vVs a_4.kids]]++cs)) Akz (di (c a_2 a_4)) Akz/\((c a_2 a_4 !=0)=true->di (c a_2 a_4)=di (AZ c (List.drop k a) (List.drop k b)))/\((c a_2 a_4 !=0)=false->di (wrap i64 ((k:Int)+1))=di (↑(k+1):Int)/\Nv.It (A1 (CN 0) PP (fun env σ1=>Aw PP OX env σ1 (di (AZ c (List.drop k a) (List.drop k b))) σ0) [kl Mw [1,0,1,0,0],Aza 0,kc Mw [1,1]] (mkE 39 [(0,dVs a),(1,dVs b),(2,D.v (Azl F fs cs)),(11,dVs a),(12,di (a.length:Int)),(13,di (↑(k+1):Int))]) σ0))))/\(decide ((k:Int)<(a.length:Int))=false->(decide ((length (map eV a):Int)<(length (map eV b):Int))=true->di (-1)=di (AZ c (List.drop k a) (List.drop k b)))/\(decide ((length (map eV a):Int)<(length (map eV b):Int))=false->di 0=di (AZ c (List.drop k a) (List.drop k b))))) ?_
 refine⟨fun h=>?_,fun h=>?_⟩
 ·have hk:k<a.length:=by simpa using h
  have hx:a[k]?=some a[k]:=H4 hk
  rw[HJ hk]
  generalize a[k]=x at hx⊢
  refine⟨x,by omega,As hx,fun h1=>?_,fun h1=>?_⟩
  ·have:b.drop k=[]:=HO (by simpa using h1)
   rw[this];rfl
  ·have hk2:k<b.length:=by simpa using h1
   have hy:b[k]?=some b[k]:=H4 hk2
   rw[HJ hk2]
   generalize b[k]=y at hy⊢
   refine⟨y,by omega,As hy,hf x (HA hx) y (HA hy),fun h2=>?_,fun h2=>⟨Ad (by omega),⟨?_⟩⟩⟩
   ·have:c x y≠0:=by simpa using h2
    simp[AZ,this]
   ·have:c x y=0:=by simpa using h2
    simp only[AZ,this,IC]
    exact ih (a.length- (k+1)) (by omega) (k+1) rfl hk2 hk
 ·have hk:k=a.length:=by have:a.length<=k:=(by simpa using h);omega
  subst hk
  rw[List.drop_length]
  refine⟨fun h1=>?_,fun h1=>?_⟩
  ·have h1:a.length<b.length:=by simpa using h1
   rw[HJ h1];rfl
  ·have h1:b.length<=a.length:=by simpa using h1
   rw[HO h1];rfl
theorem T8(F:FuncId)(fs cs:List V)(c:Val->Val->Int)(a b:List Val)(ha:a.length<=1000000)(hf:∀x∈a,∀y∈b,Aa PP F ((fs++[Af x,Af y]++cs).map .v) σ0 (di (c x y)) σ0):
  Aa PP 61 [dVs a,dVs b,.v (.fn F fs cs)] σ0 (di (AZ c a b)) σ0:=by
 refine sv OX 39 [] (.l [ke 0,ke 1,ke 2,ke 11,ch 12 (di a.length),ch 13 (di (0:Nat))]) (di (length (map eV a):Int)=di (a.length:Int)/\di 0=di (↑0:Int)/\I0 OX σ0.H.length (di (AZ c a b)) σ0 [kl Mw [1,0,1,0,0],Aza 0,kc Mw [1,1]] (mkE 39 [(0,dVs a),(1,dVs b),(2,D.v (Azl F fs cs)),(11,dVs a),(12,di (a.length:Int)),(13,di (↑0:Int))]) σ0) ?_
 refine⟨by simp,rfl,⟨?_⟩⟩
 exact T9 F fs cs c a b ha hf _ 0 rfl (by omega) (by omega)
mutual
def Au:Val->Val->Int
 |.mk n ks,.mk m ls=>if AK n m=0 then(if AK ks.length ls.length=0 then Abz ks ls else AK ks.length ls.length) else AK n m
def Abz:List Val->List Val->Int
 |[],[]=>0
 |[],_::_=> -1
 |_::_,[]=>1
 |x::a,y::b=>if Au x y=0 then Abz a b else Au x y
end
theorem N5:∀a b:List Val,Abz a b=AZ Au a b
 |[],[]=>rfl
 |[],_::_=>rfl
 |_::_,[]=>rfl
 |x::a,y::b=>by simp only[Abz,AZ,N5 a b]
theorem or3(x y z:Int):(if x=0 then(if y=0 then z else y) else x)=orM [x,y,z]:=by
 simp only[orM]
 by_cases h1:x=0<;>by_cases h2:y=0<;>by_cases h3:z=0<;>simp_all
theorem N6(a b:Val):Au a b=orM [AK a.n b.n,AK a.kids.length b.kids.length,AZ Au a.kids b.kids]:=by
 cases a;cases b
 rw[Au,N5]
 exact or3 _ _ _
noncomputable abbrev AiE:Func:= Tryz.f25
noncomputable abbrev Alj:=fun a₀=>(map eV a₀)
noncomputable abbrev Alv:=(Azl 25 [] [])
theorem Ju(N:Nat):∀a b:Val,a.size<=N->a.size<=1000000->Aa PP 25 [dV a,dV b] σ0 (di (Au a b)) σ0:=by
 induction N with
 |zero=>intro a b h;have:=a.size_pos;omega
 |succ N ih=>
 intro a b ha hb
 refine sv AiE 24 [2,3] (.c (di (AK a.n b.n))<|.c (di (AK a.kids.length b.kids.length))<|.c (di (AZ Au a.kids b.kids))<|.c (di (Au a b)) .r) (F0 60 [di a.n,di b.n] (di (AK a.n b.n))/\F0 60 [di (length (Alj a.kids):Int),di (length (Alj b.kids):Int)] (di (AK (a.kids.length:Int) (b.kids.length:Int)))/\F0 61 [dVs a.kids,dVs b.kids,D.v Alv] (di (AZ Au a.kids b.kids))/\F0 59 [D.v (Azf [vi (AK a.n b.n),vi (AK (a.kids.length:Int) (b.kids.length:Int)),vi (AZ Au a.kids b.kids)])] (di (Au a b))/\Q (di (Au a b))) ?_
 have hs:=a.size_eq
 have hl:=Val.length_le a.kids
 refine⟨Jv _ _,by simpa using Jv _ _,T8 _ _ _ Au a.kids b.kids (by omega) (fun x hx y hy=>?_),?_,rfl⟩
 ·have:=Val.size_mem hx
  exact ih x y (by omega) (by omega)
 ·rw[N6];exact We [_,_,_] (by simp)
def ixM{α:Type}(p:α->Bool):List α->Nat->Int
 |[],_=> -1
 |x::l,k=>if p x then k else ixM p l (k+1)
theorem J6{α:Type}(p:α->Bool):∀(l:List α) (k:Nat),decide (ixM p l k>=0)=l.any p
 |[],k=>by simp[ixM]
 |x::l,k=>by
  simp only[ixM,List.any_cons]
  by_cases h:p x=true
  ·simp[h]
  ·simp[h,J6 p l]
noncomputable abbrev AgB:Func:= Tryz.f170
noncomputable def AeU:Code:=AgB.body.getD .skip
noncomputable abbrev Ap8:=fun a₀=>[ke 0,ke 1,ke 7,ch 8 (di (a₀+1:Nat))]
theorem AaI(F:FuncId)(fs cs:List V)(p:Int->Bool)(l:List (Int))(hl:l.length<=1000000)(hp:∀x∈l,Aa PP F ((fs++[vi x]++cs).map .v) σ0 (db (p x)) σ0)(n:Nat):∀k:Nat,l.length-k=n->
  Rn PP AgB 0 (di (ixM p (l.drop k) k)) σ0 ([.lp (sub AeU [1,0,1,0,0]),.blk 0,.code (sub AeU [1,1])]++[]) (mkE 19 [(0,dl (l.map vi)),(1,.v (.fn F fs cs)),(7,di l.length),(8,di k)]) σ0:=by
 induction n using Nat.strongRecOn with
 |_ n ih=>
 intro k hn
 refine lv 19 [] (.b (.e fun x:Int=>.x (vi x)<|.c (db (p x))<|.b .r (.l (Ap8 k))) .r) ((decide ((k:Int)<(l.length:Int))=true->∃a,0<=(k:Int)/\(map vi l)[Int.toNat (k:Int)]?=some (vi a)/\Aa PP F (map D.v (fs++[vi a]++cs)) Akz (db (p a)) Akz/\(p a=true->di (k:Int)=di (ixM p (List.drop k l) k))/\(p a=false->di (wrap i64 ((k:Int)+1))=di (↑(k+1):Int)/\Nv.It (A1 (CN 0) PP (fun env σ1=>Aw PP AgB env σ1 (di (ixM p (List.drop k l) k)) σ0) [kl AeU [1,0,1,0,0],Aza 0,kc AeU [1,1]] (mkE 19 [(0,D.v (Aqp l)),(1,D.v (Azl F fs cs)),(Apx l.length),(8,di (↑(k+1):Int))]) σ0)))/\(decide ((k:Int)<(l.length:Int))=false->di (-1)=di (ixM p (List.drop k l) k))) ?_
 refine⟨fun h=>?_,fun h=>?_⟩
 ·have hk:k<l.length:=by simpa using h
  have hx:l[k]?=some l[k]:=H4 hk
  rw[HJ hk]
  generalize l[k]=x at hx⊢
  refine⟨x,by omega,Aq hx,hp x (HA hx),fun hf=>by simp[ixM,hf],fun hf=>⟨Ad (by omega),⟨?_⟩⟩⟩
  simp only[ixM,hf]
  exact ih (l.length- (k+1)) (by omega) (k+1) rfl
 ·have hk:l.length<=k:=by simpa using h
  rw[HO hk];rfl
noncomputable abbrev Ao5:=fun a₀=>[ke 0,ke 1,ch 7 (di a₀),ch 8 (di (0:Nat))]
theorem AaH(F:FuncId)(fs cs:List V)(p:Int->Bool)(l:List (Int))(hl:l.length<=1000000)(hp:∀x∈l,Aa PP F ((fs++[vi x]++cs).map .v) σ0 (db (p x)) σ0):
  Aa PP 170 [dl (l.map vi),.v (.fn F fs cs)] σ0 (di (ixM p l 0)) σ0:=by
 refine sv AgB 19 [] (.l (Ao5 l.length)) (di (length (map vi l):Int)=di (l.length:Int)/\di 0=di (↑0:Int)/\I0 AgB σ0.H.length (di (ixM p l 0)) σ0 [kl AeU [1,0,1,0,0],Aza 0,kc AeU [1,1]] (mkE 19 [(0,dl (map vi l)),(1,D.v (Azl F fs cs)),(Apx l.length),(8,di (↑0:Int))]) σ0) ?_
 refine⟨by simp,rfl,⟨?_⟩⟩
 exact AaI F fs cs p l hl hp _ 0 rfl
noncomputable abbrev AiA:Func:= Tryz.f125
theorem Dk(F:FuncId)(fs cs:List V)(p:Int->Bool)(l:List (Int))(hl:l.length<=1000000)(hp:∀x∈l,Aa PP F ((fs++[vi x]++cs).map .v) σ0 (db (p x)) σ0):
  Aa PP 125 [dl (l.map vi),.v (.fn F fs cs)] σ0 (db (l.any p)) σ0:=by
 refine sv AiA 9 [] (.c (di (ixM p l 0)) .r) (F0 170 [D.v (Aqp l),D.v (Azl F fs cs)] (di (ixM p l 0))/\db (decide (ixM p l 0>=0))=db (List.any l p)) ?_
 exact⟨AaH F fs cs p l hl hp,by rw[←J6]⟩
noncomputable abbrev Ag7:Func:= Tryz.f68
noncomputable def AeR:Code:=Ag7.body.getD .skip
theorem AaC(F:FuncId)(fs cs:List V)(p:Val->Bool)(l:List (Val))(hl:l.length<=1000000)(hp:∀x∈l,Aa PP F ((fs++[Af x]++cs).map .v) σ0 (db (p x)) σ0)(n:Nat):∀k:Nat,l.length-k=n->
  Rn PP Ag7 0 (di (ixM p (l.drop k) k)) σ0 ([.lp (sub AeR [1,0,1,0,0]),.blk 0,.code (sub AeR [1,1])]++[]) (mkE 19 [(0,dl (l.map eV)),(1,.v (.fn F fs cs)),(7,di l.length),(8,di k)]) σ0:=by
 induction n using Nat.strongRecOn with
 |_ n ih=>
 intro k hn
 refine lv 19 [] (.b (.e fun x:Val=>.x (Af x)<|.c (db (p x))<|.b .r (.l (Ap8 k))) .r) ((decide ((k:Int)<(l.length:Int))=true->∃a,0<=(k:Int)/\(map eV l)[Int.toNat (k:Int)]?=some (Af a)/\Aa PP F (map D.v (fs++[Af a]++cs)) Akz (db (p a)) Akz/\(p a=true->di (k:Int)=di (ixM p (List.drop k l) k))/\(p a=false->di (wrap i64 ((k:Int)+1))=di (↑(k+1):Int)/\Nv.It (A1 (CN 0) PP (fun env σ1=>Aw PP Ag7 env σ1 (di (ixM p (List.drop k l) k)) σ0) [kl AeR [1,0,1,0,0],Aza 0,kc AeR [1,1]] (mkE 19 [(0,D.v (Azf (map eV l))),(1,D.v (Azl F fs cs)),(Apx l.length),(8,di (↑(k+1):Int))]) σ0)))/\(decide ((k:Int)<(l.length:Int))=false->di (-1)=di (ixM p (List.drop k l) k))) ?_
 refine⟨fun h=>?_,fun h=>?_⟩
 ·have hk:k<l.length:=by simpa using h
  have hx:l[k]?=some l[k]:=H4 hk
  rw[HJ hk]
  generalize l[k]=x at hx⊢
  refine⟨x,by omega,As hx,hp x (HA hx),fun hf=>by simp[ixM,hf],fun hf=>⟨Ad (by omega),⟨?_⟩⟩⟩
  simp only[ixM,hf]
  exact ih (l.length- (k+1)) (by omega) (k+1) rfl
 ·have hk:l.length<=k:=by simpa using h
  rw[HO hk];rfl
theorem Nq(F:FuncId)(fs cs:List V)(p:Val->Bool)(l:List (Val))(hl:l.length<=1000000)(hp:∀x∈l,Aa PP F ((fs++[Af x]++cs).map .v) σ0 (db (p x)) σ0):
  Aa PP 68 [dl (l.map eV),.v (.fn F fs cs)] σ0 (di (ixM p l 0)) σ0:=by
 refine sv Ag7 19 [] (.l (Ao5 l.length)) (di (length (map eV l):Int)=di (l.length:Int)/\di 0=di (↑0:Int)/\I0 Ag7 σ0.H.length (di (ixM p l 0)) σ0 [kl AeR [1,0,1,0,0],Aza 0,kc AeR [1,1]] (mkE 19 [(0,dl (map eV l)),(1,D.v (Azl F fs cs)),(Apx l.length),(8,di (↑0:Int))]) σ0) ?_
 refine⟨by simp,rfl,⟨?_⟩⟩
 exact AaC F fs cs p l hl hp _ 0 rfl
noncomputable abbrev Ai7:Func:= Tryz.f33
theorem EM(F:FuncId)(fs cs:List V)(p:Val->Bool)(l:List (Val))(hl:l.length<=1000000)(hp:∀x∈l,Aa PP F ((fs++[Af x]++cs).map .v) σ0 (db (p x)) σ0):
  Aa PP 33 [dl (l.map eV),.v (.fn F fs cs)] σ0 (db (l.any p)) σ0:=by
 refine sv Ai7 9 [] (.c (di (ixM p l 0)) .r) (F0 68 [D.v (Azf (map eV l)),D.v (Azl F fs cs)] (di (ixM p l 0))/\db (decide (ixM p l 0>=0))=db (List.any l p)) ?_
 exact⟨Nq F fs cs p l hl hp,by rw[←J6]⟩
noncomputable abbrev AgG:Func:= Tryz.f184
noncomputable def AeW:Code:=AgG.body.getD .skip
theorem Abg(a b:List (Int))(ha:a.length<=1000000)(hab:a.length=b.length)(n:Nat):∀k:Nat,a.length-k=n->
  Rn PP AgG 0 (db (decide (a.drop k=b.drop k))) σ0 ([.lp (sub AeW [1,1,0,1,0,0]),.blk 0,.code (sub AeW [1,1,1])]++[]) (mkE 26 [(0,dl (a.map vi)),(1,dl (b.map vi)),(12,di a.length),(13,di k)]) σ0:=by
 induction n using Nat.strongRecOn with
 |_ n ih=>
 intro k hn
 refine lv 26 [] (.b (.e fun x:Int=>.x (vi x)<|.e fun y:Int=>.x (vi y)<|.b .r (.l [ke 0,ke 1,ke 12,ch 13 (di (k+1:Nat))])) .r) ((decide ((k:Int)<(a.length:Int))=true->∃a_2,0<=(k:Int)/\(map vi a)[Int.toNat (k:Int)]?=some (vi a_2)/\∃a_3,0<=(k:Int)/\(map vi b)[Int.toNat (k:Int)]?=some (vi a_3)/\((a_2 !=a_3)=true->db false=db (decide (List.drop k a=List.drop k b)))/\((a_2 !=a_3)=false->di (wrap i64 ((k:Int)+1))=di (↑(k+1):Int)/\Nv.It (A1 (CN 0) PP (fun env σ1=>Aw PP AgG env σ1 (db (decide (List.drop k a=List.drop k b))) σ0) [kl AeW Akw,Aza 0,kc AeW [1,1,1]] (mkE 26 [(0,D.v (Aqp a)),(1,D.v (Aqp b)),(12,di (a.length:Int)),(13,di (↑(k+1):Int))]) Akz)))/\(decide ((k:Int)<(a.length:Int))=false->db true=db (decide (List.drop k a=List.drop k b)))) ?_
 refine⟨fun h=>?_,fun h=>?_⟩
 ·have hk:k<a.length:=by simpa using h
  have hk2:k<b.length:=by omega
  have hx:a[k]?=some a[k]:=H4 hk
  have hy:b[k]?=some b[k]:=H4 hk2
  rw[HJ hk,HJ hk2]
  generalize a[k]=x at hx⊢
  generalize b[k]=y at hy⊢
  refine⟨x,by omega,Aq hx,y,by omega,Aq hy,fun hf=>?_,fun hf=>⟨Ad (by omega),⟨?_⟩⟩⟩
  ·have:x≠y:=by simpa using hf
   simp[this]
  ·have:x=y:=by simpa using hf
   subst this
   simpa using ih (a.length- (k+1)) (by omega) (k+1) rfl
 ·have hk:a.length<=k:=by simpa using h
  rw[HO hk,HO (by omega)];simp
theorem D2(a b:List (Int))(ha:a.length<=1000000):Aa PP 184 [dl (a.map vi),dl (b.map vi)] σ0 (db (decide (a=b))) σ0:=by
 refine sv AgG 26 [] (.b .r (.l [ke 0,ke 1,ch 12 (di a.length),ch 13 (di (0:Nat))])) ((((length (map vi a):Int) !=(length (map vi b):Int))=true->db false=db (decide (a=b)))/\(((length (map vi a):Int) !=(length (map vi b):Int))=false->di (length (map vi a):Int)=di (a.length:Int)/\di 0=di (↑0:Int)/\I0 AgG σ0.H.length (db (decide (a=b))) σ0 [kl AeW Akw,Aza 0,kc AeW [1,1,1]] (mkE 26 [(0,dl (map vi a)),(1,dl (map vi b)),(12,di (a.length:Int)),(13,di (↑0:Int))]) σ0)) ?_
 refine⟨fun h=>?_,fun h=>⟨by simp,rfl,⟨?_⟩⟩⟩
 ·have h:a.length≠b.length:=by simp at h;omega
  rw[H8 fun e=>h (by rw[e])]
 ·exact Abg a b ha (by simp at h;omega) _ 0 rfl
theorem Dl{α:Type}{ls:List (List α)}{k:Nat}(hk:k<ls.length):(ls.take (k+1)).flatten=(ls.take k).flatten++ls[k]:=by
 rw[List.take_succ_eq_append_getElem hk,List.flatten_append];simp
theorem Fo{α:Type}(ls:List (List α))(k:Nat):(ls.take k).flatten.length<=ls.flatten.length:=by
 have:=HR (fun l=>l.flatten.length) (List.take_append_drop k ls)
 simp only[List.flatten_append,HI] at this
 omega
theorem Mb{α β:Type}{e:α->V}{f:β->V}{a:List α}{b:List β}{by':Nat}(h:a.length+b.length<=2000000)(hb:by'<=10000):Ar ((a.map e).length+(b.map f).length) by':=by
 rw[H3,H3]
 have:(a.length+b.length)*by'<=2000000*10000:=Nat.mul_le_mul h hb
 exact⟨by omega,by omega⟩
abbrev vIs(l:List Int):V:=.list (l.map vi)
abbrev dIs(l:List Int):D:=.v (vIs l)
abbrev cIs(l:List Int):List D:=l.map di
theorem Ec(l:List Int):∀y∈l.map vi,y.size=1:=by simp[V.size]
theorem WT(l:List Int):Ab (l.map vi)=cIs l:=by
 unfold Ab cIs
 induction l with
 |nil=>rfl
 |cons x l ih=>simp_all [V.cellsV]
theorem CU(n:Nat)(ts:List Nat):∀l:List Int,D.okNs n ts (cIs l)=true
 |[]=>rfl
 |x::l=>by simp only[cIs,HU,D.okNs,D.okN,Ib];exact CU n ts l
theorem Aar(l:List Int):okH 2 [] [none,some ([]++cIs l)]=true:=by simp[okH,CU]
noncomputable abbrev Aba:Func:= Tryz.f192
theorem XC(l:List Int)(hl:l.length<=1000000):Aa PP 192 [dIs l] σ0 (dIs l) σ0:=by
 by_cases h:l=[]
 ·subst h
  refine MC (ds:=[]) (ds':=[]) fun a cap=>?_
  cases a with
  |none=>
   refine sv Aba 8 [] .r (D.v (Azf [])=dIs []) ?_
   rfl
  |some a=>
   refine sv Aba 8 [] (.a 1<|.h (.q 3 2)<|.h (.un 6)<|.r) (Q nV/\Ar 0 8/\D.v (Azf [])=dIs []) ?_
   refine⟨rfl,⟨by simp,by simp⟩,?_⟩
   rfl
 ·refine sv Aba 8 [] (.a 1<|.w .r) (map vi l≠ []/\Q nV/\Ar (length nV+length (map vi l)) 8/\(∀(y:V),y∈map vi l->V.size y=1)/\D.v (Azf ([]++map vi l))=dIs l) ?_
  exact⟨by simpa using h,rfl,⟨by simp;omega,by simp;omega⟩,Ec l,rfl⟩
theorem TB(l:List Int)(hl:l.length<=1000000)(h:l≠ []):Aa PP 192 [dIs l] σ0 (.arr 1 0 l.length) ⟨[none,some (cIs l)],[]⟩:=by
 refine sv Aba 8 [] (.h .g<|.h (.q 3 3)<|.h (.ga 7) .ro) (map vi l≠ []/\Q 0/\map vi l≠ []/\(∀(y:V),y∈map vi l->V.size y=1)/\Ar (0+length (map vi l)) 8/\okH 2 [] [none,some ([]++Ab (map vi l))]=true/\[none,some ([]++Ab (map vi l))]=[none,some (cIs l)]/\Azi 1 0 (0+length (map vi l))=Azi 1 0 l.length) ?_
 refine⟨by simpa using h,rfl,by simpa using h,Ec l,⟨by simp;omega,by simp;omega⟩,?_,?_,?_⟩
 ·rw[WT];exact Aar l
 ·simp[WT]
 ·simp
theorem Zu(l:List (List UInt8)):∀y∈l.map V.str,y.size=1:=by simp[V.size]
noncomputable abbrev Ajr:Func:= Tryz.f171
noncomputable abbrev Anz:=(Azc 1 [])
theorem AaO(n:Nat)(hn:n<=1000000):Aa PP 171 [.v .nils,di n] σ0 (.acc 1 []) ⟨[],[(1,1,[])]⟩:=by
 have h1:i64.wrap (0-0)=0:=by decide
 by_cases h:n=0
 ·subst h
  refine sv Ajr 27 [] (.f<|.f<|.h (.q 6 0)<|.h (.nw 0 1 1) .r) (decide ((↑0:Int)<0)=false/\decide (wrap i64 ((↑0:Int)-wrap i64 (0-0))>0)=false/\Q [(1,1,nV)]/\Q Anz) ?_
  exact⟨by decide,by decide,rfl,rfl⟩
 ·refine sv Ajr 27 [] (.f<|.t<|.a 1 .r) (decide ((n:Int)<0)=false/\decide (wrap i64 ((n:Int)-wrap i64 (0-0))>0)=true/\iz 0=0/\0<wrap i64 ((n:Int)-wrap i64 (0-0))/\Ar (Int.toNat (wrap i64 ((n:Int)-wrap i64 (0-0)))) 16/\iz 0=0/\Q [(1,1,nV)]/\Q Anz) ?_
  have h2:i64.wrap ((n:Int)-i64.wrap (0-0))=n:=by rw[h1,Al (by omega) (by omega)];omega
  rw[h2]
  refine⟨by simp,by simp;omega,by simp,by omega,⟨by simp;omega,by simp;omega⟩,by simp,rfl,rfl⟩
noncomputable abbrev AcA:Func:= Tryz.f127
noncomputable def Ul:Code:=AcA.body.getD .skip
abbrev GE(ls:List (List (List UInt8))):List V:=ls.map fun l=>.list (l.map V.str)
noncomputable abbrev Aks:=fun a₀=>(map Azg a₀)
noncomputable abbrev Aod:=[1,1,1,1,0,1,0,0]
noncomputable abbrev Aq1:=fun a₀=>(Azf (Aks a₀))
noncomputable abbrev Aq2:=fun a₀=>(Azd [] [(1,1,map Azg (flatten a₀))])
theorem T3(ls:List (List (List UInt8)))(hl:ls.length<=1000)(ht:ls.flatten.length<=1000000)(n:Nat):∀k:Nat,ls.length-k=n->
  Rn PP AcA 0 (.acc 1 (ls.flatten.map V.str)) ⟨[],[(1,1,ls.flatten.map V.str)]⟩ ([.lp (sub Ul [1,1,1,1,0,1,0,0]),.blk 2,.code (sub Ul [1,1,1,1,1])]++[]) (mkE 36 [(0,dl (GE ls)),(6,.acc 1 ((ls.take k).flatten.map V.str)),(25,dl (GE ls)),(26,di ls.length),(27,di k)]) ⟨[],[(1,1,(ls.take k).flatten.map V.str)]⟩:=by
 induction n using Nat.strongRecOn with
 |_ n ih=>
 intro k hn
 refine lv 36 [] (.b (.e fun x:List (List UInt8)=>.x (.list (x.map Azg))<|.w<|.ls [ke 0,ch 6 (.acc 1 ((ls.take (k+1)).flatten.map Azg)),ke 25,ke 26,ch 27 (di (k+1:Nat))] ⟨[],[(1,1,(ls.take (k+1)).flatten.map Azg)]⟩) .r) ((decide ((k:Int)<(ls.length:Int))=true->∃a,0<=(k:Int)/\(GE ls)[Int.toNat (k:Int)]?=some (Aq1 a)/\map Azg (flatten (take k ls))=map Azg (flatten (take k ls))/\Ar (length (map Azg (flatten (take k ls)))+length (Aks a)) 16/\(∀(y:V),y∈map Azg a->V.size y=1)/\Azc 1 (map Azg (flatten (take k ls))++map Azg a)=Azc 1 (map Azg (flatten (take (k+1) ls)))/\di (wrap i64 ((k:Int)+1))=di (↑(k+1):Int)/\[(1,1,map Azg (flatten (take k ls))++map Azg a)]=[(1,1,map Azg (flatten (take (k+1) ls)))]/\Nv.It (A1 (CN 0) PP (fun env σ1=>Aw PP AcA env σ1 (Azc 1 (map Azg (flatten ls))) (Aq2 ls)) [kl Ul Aod,Aza 2,kc Ul [1,1,1,1,1]] (mkE 36 [(0,D.v (Azf (GE ls))),(6,Azc 1 (map Azg (flatten (take (k+1) ls)))),(25,D.v (Azf (GE ls))),(26,di (ls.length:Int)),(27,di (↑(k+1):Int))]) (Azd [] [(1,1,map Azg (flatten (take (k+1) ls)))])))/\(decide ((k:Int)<(ls.length:Int))=false->[(1,1,map Azg (flatten (take k ls)))]=[(1,1,map Azg (flatten ls))]/\Azc 1 (map Azg (flatten (take k ls)))=Azc 1 (map Azg (flatten ls)))) ?_
 refine⟨fun h=>?_,fun h=>?_⟩
 ·have hk:k<ls.length:=by simpa using h
  have hx:ls[k]?=some ls[k]:=H4 hk
  have hf:=Dl hk
  have hle:=Fo ls (k+1)
  have hih:=ih (ls.length- (k+1)) (by omega) (k+1) rfl
  rw[hf] at hle hih⊢
  generalize ls[k]=x at hx hle hih⊢
  simp only[HI] at hle
  refine⟨x,by omega,by simp[hx],rfl,Mb (by omega) (by decide),Zu x,by simp,Ad (by omega),by simp,⟨hih⟩⟩
 ·have hk:ls.length<=k:=by simpa using h
  rw[HW hk];exact⟨rfl,rfl⟩
noncomputable abbrev Apc:=fun (a₀:Nat)=>(10,di (a₀:Int))
noncomputable abbrev Ard:=(Azd [] [(1,1,[])])
theorem T4(ls:List (List (List UInt8)))(hl:ls.length<=1000)(ht:ls.flatten.length<=1000000)(n:Nat):∀k:Nat,ls.length-k=n->
  Rn PP AcA 0 (.acc 1 (ls.flatten.map V.str)) ⟨[],[(1,1,ls.flatten.map V.str)]⟩ ([.lp (sub Ul [1,1,0,1,0,0]),.blk 0,.code (sub Ul [1,1,1])]++[]) (mkE 36 [(0,dl (GE ls)),(3,di ((ls.take k).flatten.length:Nat)),(9,dl (GE ls)),(10,di ls.length),(11,di k)]) σ0:=by
 induction n using Nat.strongRecOn with
 |_ n ih=>
 intro k hn
 refine lv 36 [] (.b (.e fun x:List (List UInt8)=>.x (.list (x.map Azg))<|.f<|.l [ke 0,ch 3 (di ((ls.take (k+1)).flatten.length:Nat)),ke 9,ke 10,ch 11 (di (k+1:Nat))]) (.h (.ckn 1 1 1 [])<|.ls [ke 0,ch 6 (.acc 1 ((ls.take 0).flatten.map Azg)),ke 25,ch 26 (di ls.length),ch 27 (di (0:Nat))] ⟨[],[(1,1,(ls.take 0).flatten.map Azg)]⟩)) ((decide ((k:Int)<(ls.length:Int))=true->∃a,0<=(k:Int)/\(GE ls)[Int.toNat (k:Int)]?=some (Aq1 a)/\decide (wrap i64 ((length (flatten (take k ls)):Int)+(length (Aks a):Int))<0)=false/\di (wrap i64 ((length (flatten (take k ls)):Int)+(length (Aks a):Int)))=di (length (flatten (take (k+1) ls)):Int)/\di (wrap i64 ((k:Int)+1))=di (↑(k+1):Int)/\Nv.It (A1 (CN 0) PP (fun env σ1=>Aw PP AcA env σ1 (Azc 1 (map Azg (flatten ls))) (Aq2 ls)) [kl Ul Akw,Aza 0,kc Ul [1,1,1]] (mkE 36 [(0,D.v (Azf (GE ls))),(3,di (length (flatten (take (k+1) ls)):Int)),(9,D.v (Azf (GE ls))),(Apc ls.length),(11,di (↑(k+1):Int))]) σ0))/\(decide ((k:Int)<(ls.length:Int))=false->Aa PP 171 [dn,di (length (flatten (take k ls)):Int)] Akz Anz Ard/\Q Anz/\di (length (GE ls):Int)=di (ls.length:Int)/\di 0=di (↑0:Int)/\Q [(1,1,nV)]/\I0 AcA 0 (Azc 1 (map Azg (flatten ls))) (Aq2 ls) [kl Ul Aod,Aza 2,kc Ul [1,1,1,1,1]] (mkE 36 [(0,D.v (Azf (GE ls))),(6,Azc 1 []),(25,D.v (Azf (GE ls))),(26,di (ls.length:Int)),(27,di (↑0:Int))]) Ard)) ?_
 refine⟨fun h=>?_,fun h=>?_⟩
 ·have hk:k<ls.length:=by simpa using h
  have hx:ls[k]?=some ls[k]:=H4 hk
  have hf:=HR length (Dl hk)
  rw[HI] at hf
  have hle:=Fo ls (k+1)
  generalize ls[k]=x at hx hf⊢
  have h2:i64.wrap ((((ls.take k).flatten.length:Nat):Int)+((x.map V.str).length:Int))=(((ls.take (k+1)).flatten.length:Nat):Int):=by rw[Al (by simp only[H3];omega) (by simp only[H3];omega),hf];simp
  refine⟨x,by omega,by simp[hx],by rw[h2];simp,by rw[h2],Ad (by omega),⟨?_⟩⟩
  exact ih (ls.length- (k+1)) (by omega) (k+1) rfl
 ·have hk:ls.length<=k:=by simpa using h
  rw[HW hk]
  refine⟨AaO ls.flatten.length ht,rfl,by simp,rfl,rfl,⟨?_⟩⟩
  exact T3 ls hl ht _ 0 rfl
theorem X6(ls:List (List (List UInt8)))(hl:ls.length<=1000)(ht:ls.flatten.length<=1000000):Aa PP 127 [dl (GE ls)] σ0 (.acc 1 (ls.flatten.map V.str)) ⟨[],[(1,1,ls.flatten.map V.str)]⟩:=by
 refine sv AcA 36 [] (.l [ke 0,ch 3 (di ((ls.take 0).flatten.length:Nat)),ke 9,ch 10 (di ls.length),ch 11 (di (0:Nat))]) (di 0=di (length (flatten (take 0 ls)):Int)/\di (length (GE ls):Int)=di (ls.length:Int)/\di 0=di (↑0:Int)/\I0 AcA σ0.H.length (Azc 1 (map Azg (flatten ls))) (Aq2 ls) [kl Ul Akw,Aza 0,kc Ul [1,1,1]] (mkE 36 [(0,dl (GE ls)),(3,di (length (flatten (take 0 ls)):Int)),(9,dl (GE ls)),(Apc ls.length),(11,di (↑0:Int))]) σ0) ?_
 refine⟨rfl,by simp,rfl,⟨?_⟩⟩
 exact T4 ls hl ht _ 0 rfl
end Go.Proofs.YtmhjflomgppcnaaGreatDoor
