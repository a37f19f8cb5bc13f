/-
  A part of the proof.
-/
import Derived.Test.YtfhgjfkleggjfaaGreatDoorZb
namespace Go.Nv
open Go.Dv
open List (nil_append replicate)
open Go.IntKind (u64)
open Go.IntKind renaming wrap → yu, i64 → yt
open List renaming length → I, map → U, drop → W
open Option renaming some → G
open Bool renaming true → J, false → O
open Decidable renaming decide → Y
open Int renaming toNat → Z
open Go.Dv.V renaming list → ai, str → ae, agg → ab, int → aa, ref → bz, fn → bw, nils → bv, bool → bu
open Go.Dv.D renaming v → bt, acc → br, ptr → bq, arr → bo, gro → bm, tup → bl, undef → bk, dagg → bj
open Go.Dv.St renaming mk → bi
open Go.Dv.KI renaming blk → bh
open _root_.ByteArray renaming mk → bf
open Go renaming Operand → x8, Program → x7, TypeId → x6, World → x5, Value → yz, Oper → yy, FuncId → yx, Func → yw, IntKind → yv
inductive Kd where
 |pure
 |load (q off n:Nat)
 |eff
noncomputable def BI(τ:St)(q off n:Nat):Option (List D):=match τ.H[q]? with
 |some (some cs)=>cond (Nat.ble (off+n) (I cs)) (G ((cs.drop off).take n)) none
 |_=>none
theorem Fl{τ:St}{q off n:Nat}{l:List D}(h:BI τ q off n=G l):∃cs,τ.H[q]?=G (G cs)/\off+n<=I cs/\(cs.drop off).take n=l:=by
 unfold BI at h
 split at h
 ·rename_i cs hcs
  cases hb:Nat.ble (off+n) (I cs) with
  |false=>rw[hb] at h;simp at h
  |true=>rw[hb] at h;simp at h;exact⟨cs,hcs,Ie hb,h⟩
 ·simp at h
theorem GX{τ:St}{q off n:Nat}{cs:List D}(h:τ.H[q]?=G (G cs))(hl:off+n<=I cs):BI τ q off n=G ((cs.drop off).take n):=by
 unfold BI
 rw[h]
 simp only[Nat.ble_eq_true_of_le hl,cond_true]
def tc(P:x7)(o:yy)(ds:List D)(σ:St)(d:D)(σ':St):Kd->Prop
 |.pure=>σ'=σ/\∀τ,Aj P o ds τ d τ
 |.load q off n=>σ'=σ/\(BI σ q off n).isSome=J/\∀τ,BI τ q off n=BI σ q off n->Aj P o ds τ d τ
 |.eff=>Aj P o ds σ d σ'
theorem tc.op{P:x7}{o:yy}{ds:List D}{σ σ':St}{d:D}{kd:Kd}(h:tc P o ds σ d σ' kd):Aj P o ds σ d σ':=by
 cases kd with
 |pure=>obtain⟨rfl,h⟩:=h;exact h _
 |load q off n=>obtain⟨rfl,_,h⟩:=h;exact h _ rfl
 |eff=>exact h
abbrev KO:=Sc->D->St->Kd->Prop
def i9(P:x7)(o:yy)(ds:List D)(σ:St)(K:KO):Prop:=∃s d σ' kd,K s d σ' kd/\tc P o ds σ d σ' kd
def Alp(l:List Nat)(t:Nat):Bool:=l.any (Nat.beq t)
noncomputable def E1(own:List (Nat×Nat×List V))(k:Nat):Bool:=own.all fun x=> !Nat.beq x.1 k
theorem C9{own:List (Nat×Nat×List V)}{k:Nat}(h:E1 own k=J):∀x∈own,x.1≠k:=fun x hx e=>by
 have:=Iw.1 h x hx
 rw[e,Nat.beq_refl] at this;simp at this
noncomputable def rp{β:Type}(own:List (Nat×Nat×List V))(k sz:Nat)(zs:List V)(K:List (Nat×Nat×List V)->β):β:=
 List.rec (motive:=fun _=>(List (Nat×Nat×List V)->β)->β) (fun K=>K []) (fun x _ ih K=>ih fun r=>Bool.rec (K (x::r)) (K ((k,sz,zs)::r)) (Nat.beq x.1 k)) own K
theorem Ru{β:Type}(k sz:Nat)(zs:List V):∀(own:List (Nat×Nat×List V)) (K:List (Nat×Nat×List V)->β),rp own k sz zs K=K (own.map (GF k sz zs))
 |[],_=>rfl
 |x::own,K=>by
  have h:rp (x::own) k sz zs K=rp own k sz zs fun r=>Bool.rec (K (x::r)) (K ((k,sz,zs)::r)) (Nat.beq x.1 k):=rfl
  rw[h,Ru k sz zs own]
  simp only[Ia,GF]
  by_cases e:x.1=k
  ·rw[HV e,e,Nat.beq_refl]
  ·rw[HR e,show Nat.beq x.1 k=O from by cases h:Nat.beq x.1 k with|false=>rfl|true=>exact absurd (HY h) e]
noncomputable def PB(own:List (Nat×Nat×List V))(k:Nat):Option (Nat×List V):=
 List.rec none (fun x _ ih=>Bool.rec ih (G x.2) (Nat.beq x.1 k)) own
theorem MP{k:Nat}{p:Nat×List V}:∀{own:List (Nat×Nat×List V)},PB own k=G p->(k,p.1,p.2)∈own
 |[],h=>by have:PB [] k=none:=rfl;rw[this] at h;simp at h
 |x::l,h=>by
  have e:PB (x::l) k=Bool.rec (PB l k) (G x.2) (Nat.beq x.1 k):=rfl
  rw[e] at h
  cases hb:Nat.beq x.1 k with
  |false=>rw[hb] at h;exact List.mem_cons_of_mem _ (MP h)
  |true=>
   rw[hb] at h
   have:=HY hb;subst this
   simp at h;subst h;simp
abbrev Ao(n by':Nat):Prop:=n*by'<=140737488355328/\n<=140737488355328
section
variable {P : x7} {o : yy} {σ : St}
theorem J6{x y:x8}{t:x6}(ho:o.op=.call { callee:=.builtin .append,args:= #[x,y],argTypes:= #[t,t]}){e:x6}{sz by':Nat}{z:yz}(hs:Cd P t=G (e,sz,by',G z))(hzc:z.cells.size=sz)
  (k:Nat) (hk:∀x∈σ.own,x.1≠k) (h0:0<sz) {ys:List V} (hsy:∀y∈ys,y.size=sz) (hlen:I ys*by'<=140737488355328) (hlen2:I ys<=140737488355328):
  Aj P o [.v .nils,.v (.list ys)] σ (.acc k ys) ⟨σ.H,(k,sz,ys)::σ.own⟩:=by
 intro E g a w K Q hw hds hK
 simp only[ho,Op.operands,Call.operands] at hds
 obtain⟨u,v,eq,h1,h2⟩:=Av.1 (by simpa using hds)
 simp only[HN,Io] at eq
 simp only[Ag,Cp] at h1 h2
 subst h1
 obtain⟨hw1,hle1⟩:=hw.addOwn (k:=k) (sz:=sz) (xs:=[]) (u:=.slice none 0 0) hk ⟨h0,by simp⟩ (DX _) (.inl ⟨none,rfl⟩) (fun b hb=>by simp[Cg] at hb)
 obtain⟨u',w',g',hrun,hw',hle,hr⟩:=M0 (P:=P) (ty:=o.type) hw1 hs hzc (k:=k) (xs:=[]) (by simp) hsy (by simpa using hlen) (by simpa using hlen2) (u:=.slice none 0 0) (by simp) (h2.mono hle1.M)
 have hown:σ.own.map (GF k sz ys)=σ.own:=by
  conv=>rhs;rw[←List.map_id σ.own]
  exact List.map_congr_left fun x hx=>by simp[GF,hk x hx]
 simp only[nil_append,Ia,hown] at hw' hr
 have e1:GF k sz ys (k,sz,[])=(k,sz,ys):=by simp[GF]
 rw[e1] at hw'
 have:=hK g' w' u' hw' (Gh.le_trans hle1 hle) hr
 unfold Oper.wp execOp
 simp only[ho,resolve,invoke,builtin,Sem.run_bind,Sem.run_pure,Result.andThen_ok,List.map_toArray,Ia,I7,eq.1,eq.2,hrun]
 exact this
theorem LO{t:x6}{parts:Array (Nat×x8)}(ho:o.op=.buildSlice t 0 parts)(hp:parts= #[]){e:x6}{sz by':Nat}{z:Option yz}(hs:Cd P t=G (e,sz,by',z))(hsz:0<sz)(k:Nat)(hk:∀x∈σ.own,x.1≠k):
  Aj P o [] σ (.acc k []) ⟨σ.H,(k,sz,[])::σ.own⟩:=by
 intro E g a w K Q hw hds hK
 obtain⟨i,hu,hi,rfl,rfl,rfl⟩:=AH hs
 subst hp
 have hw1:=hw.alloc (.cells #[] e (0,0))
 obtain⟨hw2,hle2⟩:=hw1.addOwn (k:=k) (sz:=i.size) (xs:=[]) (u:=.slice (G ⟨w.heap.size,0,none⟩) 0 0) hk ⟨hsz,by simp⟩ (by rw[B3];exact⟨_,0,rfl,HH _,.inl rfl⟩) (.inl ⟨_,rfl⟩) (fun b hb=>by simp[Cg] at hb)
 have:=hK _ _ (.slice (G ⟨w.heap.size,0,none⟩) 0 0) hw2 hle2 (by simp only[Ag];exact⟨by rw[B3];exact⟨_,0,rfl,HH _,.inl rfl⟩,by simp⟩)
 unfold Oper.wp execOp
 simpa[ho,Instr.buildSlice,run_underlying hu,sizeOf,typeInfo,hi,Instr.fill,newRow,Oper.upon,show Array.range 0= #[] from rfl] using this
end
noncomputable def xg(P:x7)(t:x6)(q off:Nat)(σ:St)(s:Sc)(K:KO):Prop:=match DE P t with
 |some (1,false)=>(match s with
  |.h (.m d) s=>(match σ.H[q]? with
   |some (some cs)=>cs[off]?=G d/\K s d σ (.load q off 1)
   |_=>False)
  |s=>(match σ.H[q]? with
   |some (some cs)=>(match cs[off]? with
    |some d=>K s d σ (.load q off 1)
    |none=>False)
   |_=>False))
 |some (n,true)=>(match s with
  |.h (.m (.dagg ds)) s=>(match σ.H[q]? with
   |some (some cs)=>off+n<=I cs/\(cs.drop off).take n=ds/\K s (.dagg ds) σ (.load q off n)
   |_=>False)
  |.h (.m (.v (.agg xs))) s=>(match σ.H[q]? with
   |some (some cs)=>off+n<=I cs/\(cs.drop off).take n=xs.map .v/\K s (.v (.agg xs)) σ (.load q off n)
   |_=>False)
  |s=>match σ.H[q]? with
  |some (some cs)=>cond (Nat.ble (off+n) (I cs)) (match Dt ((cs.drop off).take n) with
   |some xs=>K s (.v (.agg xs)) σ (.load q off n)
   |none=>False) False
  |_=>False)
 |_=>False
theorem OJ{cs:List D}{off:Nat}{d:D}(h:cs[off]?=G d):off+1<=I cs/\(cs.drop off).take 1=[d]:=by
 have hlt:=(HD.1 h).1
 refine⟨hlt,?_⟩
 rw[HP hlt,List.take_succ_cons,List.take_zero,(HD.1 h).2]
theorem SZ{P:x7}{o:yy}{σ:St}{t:x6}{a:x8}(ho:o.op=.load t a)(ht:DE P t=G (1,false)){q off:Nat}{cs:List D}{d:D}(hq:σ.H[q]?=G (G cs))(hd:cs[off]?=G d):
  tc P o [.ptr q off] σ d σ (.load q off 1):=by
 obtain⟨h1,h2⟩:=OJ hd
 have hc:=GX hq h1
 refine⟨rfl,by rw[hc];rfl,fun τ hτ=>?_⟩
 rw[hc,h2] at hτ
 obtain⟨cs',h3,h4,h5⟩:=Fl hτ
 refine Yw ho ht h3 ?_
 have:((cs'.drop off).take 1)[0]?=G d:=by rw[h5];rfl
 simpa using this
theorem Abe{P:x7}{t:x6}{q off:Nat}{σ:St}{s:Sc}{K:KO}(h:xg P t q off σ s K){o:yy}{a:x8}(ho:o.op=.load t a):i9 P o [.ptr q off] σ K:=by
 unfold xg at h
 split at h
 ·rename_i ht
  split at h
  ·split at h
   ·rename_i cs hq;exact⟨_,_,_,_,h.2,SZ ho ht hq h.1⟩
   ·exact h.elim
  ·split at h
   ·rename_i cs hq
    split at h
    ·rename_i d hd;exact⟨_,_,_,_,h,SZ ho ht hq hd⟩
    ·exact h.elim
   ·exact h.elim
 ·rename_i n ht
  split at h
  ·split at h
   ·rename_i cs hq
    obtain⟨hl,hd,h2⟩:=h
    have hc:=GX hq hl
    refine⟨_,_,_,_,h2,rfl,by rw[hc];rfl,fun τ hτ=>?_⟩
    rw[hc] at hτ
    obtain⟨cs',h3,h4,h5⟩:=Fl hτ
    exact Yv ho ht h3 h4 (by rw[h5];exact hd)
   ·exact h.elim
  ·split at h
   ·rename_i cs hq
    obtain⟨hl,hd,h2⟩:=h
    have hc:=GX hq hl
    refine⟨_,_,_,_,h2,rfl,by rw[hc];rfl,fun τ hτ=>?_⟩
    rw[hc] at hτ
    obtain⟨cs',h3,h4,h5⟩:=Fl hτ
    exact PH ho ht h3 h4 (by rw[h5,hd];exact Gf _)
   ·exact h.elim
  split at h
  ·rename_i cs hq
   obtain⟨h1,h2⟩:=Ap h
   split at h2
   ·rename_i xs hx
    have hl:=Ie h1
    have hc:=GX hq hl
    refine⟨_,_,_,_,h2,rfl,by rw[hc];rfl,fun τ hτ=>?_⟩
    rw[hc] at hτ
    obtain⟨cs',h3,h4,h5⟩:=Fl hτ
    exact PH ho ht h3 h4 (by rw[h5];exact Gg hx)
   ·exact h2.elim
  ·exact h.elim
 ·exact h.elim
noncomputable def WJ(P:x7)(t:x6)(q off:Nat)(d:D)(σ:St)(s:Sc)(K:KO):Prop:=match DE P t with
 |some (1,false)=>(match σ.H[q]? with
  |some (some cs)=>cond d.one (match s with
   |.h .w s=>off<I cs/\CG σ.H q (G (cs.set off d)) fun H=>K s .undef ⟨H,σ.own⟩ .eff
   |s=>cond (Nat.blt off (I cs)) (CG cs off d fun cs=>CG σ.H q (G cs) fun H=>K s .undef ⟨H,σ.own⟩ .eff) False) False
  |_=>False)
 |some (n,true)=>(match σ.H[q]? with
  |some (some cs)=>(match s with
   |.h .ww s=>cond (d.sto&&Nat.beq (I (Ax d)) n) (off+n<=I cs/\CG σ.H q (G (cs.take off++Ax d++cs.drop (off+n))) fun H=>K s .undef ⟨H,σ.own⟩ .eff) False
   |s=>cond (d.sto&&Nat.beq (I (Ax d)) n&&Nat.ble (off+n) (I cs)) (AY (cs.take off++Ax d++cs.drop (off+n)) fun cs=>CG σ.H q (G cs) fun H=>K s .undef ⟨H,σ.own⟩ .eff) False)
  |_=>False)
 |_=>False
theorem WH{P:x7}{t:x6}{q off:Nat}{d:D}{σ:St}{s:Sc}{K:KO}(h:WJ P t q off d σ s K){o:yy}{a b:x8}(ho:o.op=.store t a b):i9 P o [.ptr q off,d] σ K:=by
 unfold WJ at h
 split at h
 ·rename_i ht
  split at h
  ·rename_i cs hq
   obtain⟨h1,h2⟩:=Ap h
   split at h2
   ·rw[B5] at h2
    exact⟨_,_,_,_,h2.2,PE ho h1 ht hq h2.1⟩
   ·obtain⟨h3,h4⟩:=Ap h2
    rw[B5,B5] at h4
    exact⟨_,_,_,_,h4,PE ho h1 ht hq (Ie h3)⟩
  ·exact h.elim
 ·rename_i n ht
  split at h
  ·rename_i cs hq
   split at h
   ·obtain⟨h1,h2,h3⟩:=Ap h
    simp only[HB] at h1
    rw[B5] at h3
    exact⟨_,_,_,_,h3,KX ho h1.1 ht (HY h1.2) hq h2⟩
   obtain⟨h1,h2⟩:=Ap h
   simp only[HB] at h1
   rw[AO,B5] at h2
   exact⟨_,_,_,_,h2,KX ho h1.1.1 ht (HY h1.1.2) hq (Ie h1.2)⟩
  ·exact h.elim
 ·exact h.elim
structure Amd(H H':List (Option (List D)))(q:Nat)(l:List D):Prop where
 eq:H'=H.set q none++[G l]
noncomputable def w8(P:x7)(t:x6)(x y:D)(σ:St)(s:Sc)(K:KO):Prop:=match Cd P t,y with
 |some (_,sz,by',some z),.v (.list ys)=>cond (Nat.beq z.cells.size sz&&Nat.blt 0 sz) (match x with
  |.acc k xs=>(match PB σ.own k with
   |some (sz',xs')=>cond (Nat.beq sz' sz) (xs'=xs/\Ao (I xs+I ys) by'/\(match s with
    |.h .w s=>(∀y∈ys,y.size=sz)/\rp σ.own k sz (xs++ys) fun own=>K s (.acc k (xs++ys)) ⟨σ.H,own⟩ .eff
    |s=>cond (rc sz ys) (rp σ.own k sz (xs++ys) fun own=>K s (.acc k (xs++ys)) ⟨σ.H,own⟩ .eff) False)) False
   |none=>False)
  |.v .nils=>(match s with
   |.h (.a k) (.h .w s)=>cond (E1 σ.own k) (Ao (I ys) by'/\(∀y∈ys,y.size=sz)/\K s (.acc k ys) ⟨σ.H,(k,sz,ys)::σ.own⟩ .eff) False
   |.h (.a k) s=>cond (E1 σ.own k&&rc sz ys) (Ao (I ys) by'/\K s (.acc k ys) ⟨σ.H,(k,sz,ys)::σ.own⟩ .eff) False
   |.h (.gx _ H') s=>ys≠ []/\(∀y∈ys,y.size=sz)/\Ao (I ys) by'/\H'=σ.H++[G (Ab ys)]/\K s (.gro (I σ.H) (I ys) sz) ⟨H',σ.own⟩ .eff
   |.h .g s=>ys≠ []/\(∀y∈ys,y.size=sz)/\Ao (I ys) by'/\AN σ.H (G (Ab ys)) fun H=>K s (.gro (I σ.H) (I ys) sz) ⟨H,σ.own⟩ .eff
   |_=>False)
  |.gro q len sz'=>(match s with
   |.h (.gx cs H') s=>cond (Nat.beq sz' sz) (σ.H[q]?=G (G cs)/\cs.length=len*sz/\ys≠ []/\(∀y∈ys,y.size=sz)/\Ao (len+I ys) by'/\Amd σ.H H' q (cs++Ab ys)/\K s (.gro (I σ.H) (len+I ys) sz) ⟨H',σ.own⟩ .eff) False
   |.h .w s=>(match σ.H[q]? with
    |some (some cs)=>cond (Nat.beq sz' sz) ((len+I ys)*sz<=I cs/\ys≠ []/\(∀y∈ys,y.size=sz)/\CG σ.H q (G (cs.take (len*sz)++Ab ys++cs.drop (len*sz+I (Ab ys)))) fun H=>K s (.gro q (len+I ys) sz) ⟨H,σ.own⟩ .eff) False
    |_=>False)
   |s=>match σ.H[q]? with
   |some (some cs)=>cond (Nat.beq sz' sz) (I cs=len*sz/\ys≠ []/\(∀y∈ys,y.size=sz)/\Ao (len+I ys) by'/\CG σ.H q none fun H=>AN H (G (cs++Ab ys)) fun H=>K s (.gro (I σ.H) (len+I ys) sz) ⟨H,σ.own⟩ .eff) False
   |_=>False)
  |_=>False) False
 |_,_=>False
theorem AeZ{P:x7}{t:x6}{x y:D}{σ:St}{s:Sc}{K:KO}(h:w8 P t x y σ s K){o:yy}{a b:x8}(ho:o.op=.call { callee:=.builtin .append,args:= #[a,b],argTypes:= #[t,t]}):i9 P o [x,y] σ K:=by
 unfold w8 at h
 split at h
 ·rename_i e sz by' z ys hs
  obtain⟨h1,h2⟩:=Ap h
  simp only[HB] at h1
  have hz:=HY h1.1
  have hp:=Ie h1.2
  split at h2
  ·rename_i k xs
   split at h2
   ·rename_i sz' xs' hg
    obtain⟨h3,rfl,h4,h5⟩:=Ap h2
    have:=HY h3;subst this
    have hm:=MP hg
    split at h5
    ·rw[Ru] at h5
     exact⟨_,_,_,_,h5.2,PJ ho hs hz hm h5.1 h4.1 h4.2⟩
    ·obtain⟨h6,h7⟩:=Ap h5
     rw[Ru] at h7
     exact⟨_,_,_,_,h7,PJ ho hs hz hm (Lq h6) h4.1 h4.2⟩
   ·exact h2.elim
  ·split at h2
   ·obtain⟨h3,h4,h5,h6⟩:=Ap h2
    exact⟨_,_,_,_,h6,J6 ho hs hz _ (C9 h3) hp h5 h4.1 h4.2⟩
   ·obtain⟨h3,h4,h5⟩:=Ap h2
    rw[HB] at h3
    exact⟨_,_,_,_,h5,J6 ho hs hz _ (C9 h3.1) hp (Lq h3.2) h4.1 h4.2⟩
   ·obtain⟨h3,h4,h5,rfl,h6⟩:=h2
    exact⟨_,_,_,_,h6,K5 ho hs hz hp h4 h3 h5.1 h5.2⟩
   ·obtain⟨h3,h4,h5,h6⟩:=h2
    rw[AM] at h6
    exact⟨_,_,_,_,h6,K5 ho hs hz hp h4 h3 h5.1 h5.2⟩
   ·exact h2.elim
  ·rename_i q len sz'
   split at h2
   ·obtain⟨h3,hq,h4,h5,h6,h7,h9,h8⟩:=Ap h2
    have:=HY h3;subst this
    have e:=h9.eq;subst e
    exact⟨_,_,_,_,h8,LP ho hs hz hp hq h4 h6 h5 h7.1 h7.2⟩
   ·split at h2
    ·rename_i cs hq
     obtain⟨h3,h4,h5,h6,h7⟩:=Ap h2
     have:=HY h3;subst this
     rw[B5] at h7
     exact⟨_,_,_,_,h7,Rx ho hs hp hq h4 h6 h5⟩
    ·exact h2.elim
   split at h2
   ·rename_i cs hq
    obtain⟨h3,h4,h5,h6,h7,h8⟩:=Ap h2
    have:=HY h3;subst this
    rw[B5,AM] at h8
    exact⟨_,_,_,_,h8,LP ho hs hz hp hq h4 h6 h5 h7.1 h7.2⟩
   ·exact h2.elim
  ·exact h2.elim
 ·exact h.elim
noncomputable def xf(P:x7)(t:x6)(k1 k2:yv)(a b:Int)(σ:St)(s:Sc)(K:KO):Prop:=match Cd P t with
 |some (_,sz,by',some z)=>(match s with
  |.h (.a k) s=>cond (Nat.blt 0 sz&&E1 σ.own k) (a=0/\0<=b/\(by':Int)*b<=281474976710656/\b<=9223372036854775807/\K s (.acc k []) ⟨σ.H,(k,sz,[])::σ.own⟩ .eff) False
  |.h .g s=>(match Fj z.cells.toList with
   |some zs=>cond (Nat.beq z.cells.size sz) (a=0/\0<=b/\(by':Int)*b<=281474976710656/\b<=9223372036854775807/\AN σ.H (G ((replicate b.toNat zs).flatten.map .v)) fun H=>K s (.gro (I σ.H) 0 sz) ⟨H,σ.own⟩ .eff) False
   |none=>False)
  |s=>(match Qx z with
   |some zv=>cond (Nat.beq sz 1) (a=b/\0<=b/\(by':Int)*b<=281474976710656/\b<=9223372036854775807/\AN σ.H (G (replicate b.toNat (.v zv))) fun H=>K s (.arr (I σ.H) 0 b.toNat) ⟨H,σ.own⟩ .eff) False
   |none=>False))
 |_=>False
theorem Abd{P:x7}{t:x6}{k1 k2:yv}{a b:Int}{σ:St}{s:Sc}{K:KO}(h:xf P t k1 k2 a b σ s K){o:yy}{x y:x8}(ho:o.op=.makeSlice t x y):i9 P o [.v (.int k1 a),.v (.int k2 b)] σ K:=by
 unfold xf at h
 split at h
 ·rename_i e sz by' z hs
  split at h
  ·obtain⟨h1,rfl,h2,h3,h4,h5⟩:=Ap h
   rw[HB] at h1
   exact⟨_,_,_,_,h5,Aco ho hs (Ie h1.1) _ (C9 h1.2) h2 h3 h4⟩
  ·split at h
   ·rename_i zs hzs
    obtain⟨h1,rfl,h2,h3,h4,h5⟩:=Ap h
    rw[AM] at h5
    exact⟨_,_,_,_,h5,Acm ho hs hzs (HY h1) h2 h3 h4⟩
   ·exact h.elim
  ·split at h
   ·rename_i zv hzv
    obtain⟨h1,rfl,h2,h3,h4,h5⟩:=Ap h
    have:=HY h1;subst this
    rw[AM] at h5
    exact⟨_,_,_,_,h5,Acn ho hs hzv h2 h3 h4⟩
   ·exact h.elim
 ·exact h.elim
def vr:List D->Option Nat
 |[]=>none
 |.ptr q _::_=>G q
 |.arr q _ _::_=>G q
 |_::ds=>vr ds
noncomputable def Q6(q:Nat):List D->Option (List D)
 |[]=>G []
 |.ptr q' off::ds=>cond (Nat.beq q' q) (match Q6 q ds with
  |some dc=>G (.ptr 0 off::dc)
  |none=>none) none
 |.arr q' off len::ds=>cond (Nat.beq q' q) (match Q6 q ds with
  |some dc=>G (.arr 0 off len::dc)
  |none=>none) none
 |d::ds=>cond d.pl (match Q6 q ds with
  |some dc=>G (d::dc)
  |none=>none) none
theorem Mo{α:Type}{b:Bool}{x:Option α}{r:α}(h:cond b x none=G r):b=J/\x=G r:=by cases b<;>simp_all
theorem JI{q:Nat}:∀{ds dc:List D},Q6 q ds=G dc->EM q ds dc
 |[],dc,h=>by simp[Q6] at h;subst h;exact .nil
 |d::ds,dc,h=>by
  unfold Q6 at h
  split at h
  ·rename_i e;simp at e
  ·rename_i q' off ds' e;simp only[HN] at e;obtain⟨rfl,rfl⟩:=e
   obtain⟨h1,h2⟩:=Mo h
   have:=HY h1;subst this
   split at h2
   ·rename_i dc' hd;simp at h2;subst h2;exact .ptr (JI hd)
   ·simp at h2
  ·rename_i q' off len ds' e;simp only[HN] at e;obtain⟨rfl,rfl⟩:=e
   obtain⟨h1,h2⟩:=Mo h
   have:=HY h1;subst this
   split at h2
   ·rename_i dc' hd;simp at h2;subst h2;exact .arr (JI hd)
   ·simp at h2
  ·rename_i d' ds' _ _ e;simp only[HN] at e;obtain⟨rfl,rfl⟩:=e
   obtain⟨h1,h2⟩:=Mo h
   split at h2
   ·rename_i dc' hd;simp at h2;subst h2;exact .pl h1 (JI hd)
   ·simp at h2
noncomputable def WZ(P:x7)(f:yx)(fs cs:List V)(ds:List D)(σ:St)(s:Sc)(K:KO):Prop:=match s with
 |.h (.ck k k' sz xs) s=>cond (E1 σ.own k) (match NY ds with
  |some ys=>Aa P f ((fs++ys++cs).map .v) ⟨[],[]⟩ (.acc k' xs) ⟨[],[(k',sz,xs)]⟩/\K s (.acc k xs) ⟨σ.H,(k,sz,xs)::σ.own⟩ .eff
  |none=>False) False
 |.h (.ckn k k' sz xs) s=>cond (E1 σ.own k) (match Dt ds with
  |some ys=>Aa P f ((fs++ys++cs).map .v) ⟨[],[]⟩ (.acc k' xs) ⟨[],[(k',sz,xs)]⟩/\K s (.acc k xs) ⟨σ.H,(k,sz,xs)::σ.own⟩ .eff
  |none=>False) False
 |.h (.cj j Hc os len) s=>(match NY ds,Hc[j]? with
  |some ys,some (some os')=>cond (D.pls os') (os=os'/\Aa P f ((fs++ys++cs).map .v) ⟨[],[]⟩ (.arr j 0 len) ⟨Hc,[]⟩/\AN σ.H (G os') fun H=>K s (.arr (I σ.H) 0 len) ⟨H,σ.own⟩ .eff) False
  |_,_=>False)
 |.h (.c1 os' d) s=>(match vr ds with
  |some q=>(match σ.H[q]?,Q6 q (ds.map D.un) with
   |some (some os),some dc=>cond (D.pls os&&D.pls os'&&d.pl) (Aa P f (fs.map .v++dc++cs.map .v) ⟨[G os],[]⟩ d ⟨[G os'],[]⟩/\CG σ.H q (G os') fun H=>K s d ⟨H,σ.own⟩ .eff) False
   |_,_=>False)
  |none=>False)
 |.h (.c1k k k' sz os' xs) s=>(match vr ds with
  |some q=>(match σ.H[q]?,Q6 q (ds.map D.un) with
   |some (some os),some dc=>cond (D.pls os&&D.pls os'&&E1 σ.own k) (Aa P f (fs.map .v++dc++cs.map .v) ⟨[G os],[]⟩ (.acc k' xs) ⟨[G os'],[(k',sz,xs)]⟩/\CG σ.H q (G os') fun H=>K s (.acc k xs) ⟨H,(k,sz,xs)::σ.own⟩ .eff) False
   |_,_=>False)
  |none=>False)
 |s=>vy P {(default:yy) with op:=.call { callee:=.value (.func f),args:= #[],argTypes:= #[]}} (.v (.fn f fs cs)::ds.map D.un) s fun s d=>K s d σ .pure
theorem WY{P:x7}{f:yx}{fs cs:List V}{ds:List D}{σ:St}{s:Sc}{K:KO}(h:WZ P f fs cs ds σ s K){o:yy}{c:Call}{fo:x8}(ho:o.op=.call c)(hc:c.callee=.value fo):i9 P o (.v (.fn f fs cs)::ds) σ K:=by
 unfold WZ at h
 split at h
 ·obtain⟨h1,h2⟩:=Ap h
  split at h2
  ·rename_i ys hy
   refine⟨_,_,_,_,h2.2,BD (fun g us hr=>?_) (K3 (ds:=ys.map .v) ho hc (BY ys) _ (C9 h1) (by simpa[IQ] using h2.1))⟩
   simp only[Ad] at hr⊢
   obtain⟨u,us',e,h3,h4⟩:=hr
   exact⟨u,us',e,h3,Fp hy h4⟩
  ·exact h2.elim
 ·obtain⟨h1,h2⟩:=Ap h
  split at h2
  ·rename_i ys hy
   refine⟨_,_,_,_,h2.2,BD (fun g us hr=>?_) (K3 (ds:=ys.map .v) ho hc (BY ys) _ (C9 h1) (by simpa[IQ] using h2.1))⟩
   simp only[Ad] at hr⊢
   obtain⟨u,us',e,h3,h4⟩:=hr
   exact⟨u,us',e,h3,Ly hy h4⟩
  ·exact h2.elim
 ·split at h
  ·rename_i ys os' hy hj
   obtain⟨h1,_,h2,h3⟩:=Ap h
   rw[AM] at h3
   refine⟨_,_,_,_,h3,BD (fun g us hr=>?_) (FV (ds:=ys.map .v) ho hc (BY ys) hj h1 (by simpa[IQ] using h2))⟩
   simp only[Ad] at hr⊢
   obtain⟨u,us',e,h3,h4⟩:=hr
   exact⟨u,us',e,h3,Fp hy h4⟩
  ·exact h.elim
 ·split at h
  ·rename_i q hq
   split at h
   ·rename_i os dc hos hdc
    obtain⟨h1,h2,h3⟩:=Ap h
    simp only[HB] at h1
    rw[B5] at h3
    refine⟨_,_,_,_,h3,BD (fun g us hr=>?_) (Ox (ds:=ds.map D.un) ho hc hos h1.1.1 h1.1.2 (JI hdc) h1.2 h2)⟩
    simp only[Ad] at hr⊢
    obtain⟨u,us',e,h3,h4⟩:=hr
    exact⟨u,us',e,h3,H4 h4⟩
   ·exact h.elim
  ·exact h.elim
 ·split at h
  ·rename_i q hq
   split at h
   ·rename_i os dc hos hdc
    obtain⟨h1,h2,h3⟩:=Ap h
    simp only[HB] at h1
    rw[B5] at h3
    refine⟨_,_,_,_,h3,BD (fun g us hr=>?_) (PI (ds:=ds.map D.un) ho hc hos h1.1.1 h1.1.2 (JI hdc) _ (C9 h1.2) h2)⟩
    simp only[Ad] at hr⊢
    obtain⟨u,us',e,h3,h4⟩:=hr
    exact⟨u,us',e,h3,H4 h4⟩
   ·exact h.elim
  ·exact h.elim
 ·have h':vz P f fs cs (ds.map D.un) _ (fun s d=>K s d σ .pure):=h
  obtain⟨s',d,h1,h2⟩:=Sj h' ho hc
  refine⟨_,_,_,_,h1,rfl,fun τ=>BD (fun g us hr=>?_) (h2 τ)⟩
  simp only[Ad] at hr⊢
  obtain⟨u,us',e,h3,h4⟩:=hr
  exact⟨u,us',e,h3,H4 h4⟩
noncomputable def QX(P:x7)(t:x6)(len:Nat)(ps:List (Nat×x8))(ds:List D)(k:Nat)(σ:St)(s:Sc)(K:KO):Prop:=match Cd P t with
 |some (_,sz,_,z)=>cond (E1 σ.own k&&Nat.blt 0 sz) (match len with
  |0=>(match ps,ds with
   |[],[]=>K s (.acc k []) ⟨σ.H,(k,sz,[])::σ.own⟩ .eff
   |_,_=>False)
  |len+1=>(match Dt ds with
   |some xs=>cond (rj ps 0&&Nat.beq (I ps) (len+1)&&z.isSome&&Nat.ble ((len+1)*sz) 1000&&rc sz xs) (K s (.acc k xs) ⟨σ.H,(k,sz,xs)::σ.own⟩ .eff) False
   |none=>False)) False
 |none=>False
theorem U0{P:x7}{t:x6}{len:Nat}{ps:Array (Nat×x8)}{ds:List D}{k:Nat}{σ:St}{s:Sc}{K:KO}(h:QX P t len ps.toList ds k σ s K){o:yy}(ho:o.op=.buildSlice t len ps):i9 P o ds σ K:=by
 unfold QX at h
 split at h
 ·rename_i e sz by' z hs
  obtain⟨h1,h2⟩:=Ap h
  rw[HB] at h1
  have hp:=Ie h1.2
  split at h2
  ·split at h2
   ·rename_i hps
    exact⟨_,_,_,_,h2,LO ho (by apply IC;simpa using hps) hs hp _ (C9 h1.1)⟩
   ·exact h2.elim
  ·rename_i len
   split at h2
   ·rename_i xs hx
    obtain⟨h3,h4⟩:=Ap h2
    simp only[HB] at h3
    obtain⟨⟨⟨⟨g1,g2⟩,g3⟩,g5⟩,g6⟩:=h3
    have hl:ps.size=len+1:=by have:=HY g2;simpa using this
    exact⟨_,_,_,_,h4,M3 ho (Rl g1) hl hs g3 (Gg hx) (Lq g6) (by omega) hp (by simpa using g5) _ (C9 h1.1)⟩
   ·exact h2.elim
 ·exact h.elim
noncomputable def vP(P:x7)(o:yy)(ds:List D)(σ:St)(s:Sc)(K:KO):Prop:=vy P o (ds.map D.un) s fun s d=>K s d σ .pure
theorem QU{P:x7}{o:yy}{ds:List D}{σ:St}{s:Sc}{K:KO}(h:vP P o ds σ s K):i9 P o ds σ K:=by
 obtain⟨s',d,h1,h2⟩:=Abb h
 exact⟨_,_,_,_,h1,rfl,fun τ=>Af9 (h2 τ)⟩
noncomputable def xl(P:x7)(t tn:x6)(n:Int)(σ:St)(s:Sc)(K:KO):Prop:=match Cd P t,P.underlying tn with
 |some (_,sz,by',some z),some (.int _)=>cond (Nat.beq z.cells.size sz&&Nat.blt 0 sz) (0<n/\Ao n.toNat by'/\AN σ.H (G []) fun H=>K s (.gro (I σ.H) n.toNat sz) ⟨H,σ.own⟩ .eff) False
 |_,_=>False
theorem Abj{P:x7}{t tn:x6}{kd:yv}{n:Int}{σ:St}{s:Sc}{K:KO}(h:xl P t tn n σ s K){o:yy}{a b:x8}(ho:o.op=.call { callee:=.builtin .append,args:= #[a,b],argTypes:= #[t,tn]}):i9 P o [.v .nils,.v (.int kd n)] σ K:=by
 unfold xl at h
 split at h
 ·rename_i e sz by' z k hs hu
  obtain⟨h1,h2,h3,h4⟩:=Ap h
  rw[HB] at h1
  rw[AM] at h4
  exact⟨_,_,_,_,h4,UW ho hs (HY h1.1) (Ie h1.2) hu h2 h3.1 h3.2⟩
 ·exact h.elim
noncomputable def Alk(P:x7)(t:x6)(s:Sc)(σ:St)(K:KO):Prop:=match P.underlying t with
 |some (.slice _)=>K s (.v (.int .i64 0)) σ .pure
 |_=>False
noncomputable def ur(P:x7)(t:x6)(x:D)(i:Int)(σ:St)(s:Sc)(K:KO):Prop:=match x with
 |.v .nils=>(match P.underlying t with
  |some (.slice e)=>(match P.info? e with
   |some _=>i=0/\K s (.v .nils) σ .pure
   |none=>False)
  |_=>False)
 |.gro q _ sz=>(match s,Cd P t,σ.H[q]? with
  |.h (.a k) s,some (_,sz',_,_),some (some _)=>cond (Nat.beq sz' sz&&Nat.blt 0 sz&&E1 σ.own k) (i=0/\CG σ.H q none fun H=>K s (.acc k []) ⟨H,(k,sz,[])::σ.own⟩ .eff) False
  |_,_,_=>False)
 |_=>False
theorem WN{P:x7}{t:x6}{x:D}{kd:yv}{i:Int}{σ:St}{s:Sc}{K:KO}(h:ur P t x i σ s K){o:yy}{a b:x8}(ho:o.op=.slice t a none (G b) none):i9 P o [x,.v (.int kd i)] σ K:=by
 unfold ur at h
 split at h
 ·split at h
  ·rename_i e hu
   split at h
   ·rename_i inf hi
    obtain⟨rfl,h⟩:=h
    exact⟨_,_,_,_,h,rfl,fun τ=>PF ho hu hi⟩
   ·exact h.elim
  ·exact h.elim
 ·rename_i q len sz
  split at h
  ·rename_i k s' e sz' by' z cs hs hq
   obtain⟨h1,rfl,h2⟩:=Ap h
   simp only[HB] at h1
   have:=HY h1.1.1;subst this
   rw[B5] at h2
   exact⟨_,_,_,_,h2,UT ho hs (Ie h1.1.2) hq _ (C9 h1.2)⟩
  ·exact h.elim
 ·exact h.elim
section
variable {P : x7} {o : yy} {σ : St}
theorem CJ{t:x6}{x:x8}{lo hi:Option x8}(ho:o.op=.slice t x lo hi none){e:x6}{sz by':Nat}{z:Option yz}(hs:Cd P t=G (e,sz,by',z)){q off len:Nat}
  (l h:Option (yv×Int)) (hlo:lo.isSome=l.isSome) (hhi:hi.isSome=h.isSome) {l' h':Nat} (hb:Cn len (l.map (·.2)) (h.map (·.2))=G (l',h')) (hlt:l'<len):
  Aj P o (.arr q off len::(FY l++FY h)) σ (.arr q (off+l'*sz) (h'-l')) σ:=by
 refine A0 fun E g ρ w hw hds=>?_
 obtain⟨i,hu,hi',hsz,_,_⟩:=AH hs
 have hb2:=hb
 unfold Cn at hb2
 simp only at hb2
 split at hb2
 case isFalse=>simp at hb2
 rename_i hcond
 simp only[Ii,Prod.mk.injEq] at hb2
 have main:∀u (lv hv:Option yz),ρ x=u->lv=l.map (fun p=>Value.int p.1 p.2)->hv=h.map (fun p=>Value.int p.1 p.2)->lo.map ρ=lv->hi.map ρ=hv->Ag g (.arr q off len) u->
   ∃u,(execOp ρ o).run P w=.ok (.value u) w/\Ag g (.arr q (off+l'*sz) (h'-l')) u:=by
  intro u lv hv eu el eh e1 e2 hr
  simp only[Ag] at hr⊢
  obtain⟨hq,cap,hc,rfl⟩:=hr
  refine⟨.slice (G ⟨g.β q,off+l'*sz,none⟩) (h'-l') (cap-l'),?_,hq,cap-l',by omega,rfl⟩
  have hbr:=F4 (P:=P) w true len cap hc l h hb
  simp only[execOp,ho,eu,e1,e2,el,eh,Jo,Instr.sliceAt,Instr.slice,Sem.run_bind,run_underlying hu,Result.andThen_ok,hbr]
  simp[sizeOf,typeInfo,hi',hsz,show ¬cap=l' by omega,Addr.add_lit]
 simp only[ho,Op.operands] at hds
 cases lo with
 |none=>
  cases l with
  |some _=>simp at hlo
  |none=>
   cases hi with
   |none=>
    cases h with
    |some _=>simp at hhi
    |none=>
     obtain⟨u,eu,h1⟩:=A9.1 (by simpa[FY] using hds)
     simp at eu
     exact main u none none eu rfl rfl rfl rfl h1
   |some ho'=>
    cases h with
    |none=>simp at hhi
    |some p=>
     obtain⟨u,v,eu,h1,h2⟩:=Av.1 (by simpa[FY] using hds)
     simp only[HN,Io] at eu
     simp only[Ag,AJ] at h2
     exact main u none _ eu.1 rfl (by simp;rfl) rfl (by simp[eu.2,h2]) h1
 |some lo'=>
  cases l with
  |none=>simp at hlo
  |some lq=>
   cases hi with
   |none=>
    cases h with
    |some _=>simp at hhi
    |none=>
     obtain⟨u,v,eu,h1,h2⟩:=Av.1 (by simpa[FY] using hds)
     simp only[HN,Io] at eu
     simp only[Ag,AJ] at h2
     exact main u _ none eu.1 (by simp;rfl) rfl (by simp[eu.2,h2]) rfl h1
   |some ho'=>
    cases h with
    |none=>simp at hhi
    |some p=>
     obtain⟨u,v,v2,eu,h1,h2,h3⟩:=FJ.1 (by simpa[FY] using hds)
     simp only[HN,Io] at eu
     simp only[Ag,AJ] at h2 h3
     exact main u _ _ eu.1 (by simp;rfl) (by simp;rfl) (by simp[eu.2.1,h2]) (by simp[eu.2.2,h3]) h1
end
noncomputable def uq(P:x7)(t:x6)(q off n:Nat)(i:Int)(σ:St)(s:Sc)(K:KO):Prop:=match Cd P t with
 |some (_,sz,_,_)=>0<=i/\i<(n:Int)/\K s (.arr q (off+i.toNat*sz) (n-i.toNat)) σ .pure
 |none=>False
theorem WM{P:x7}{t:x6}{q off n:Nat}{kd:yv}{i:Int}{σ:St}{s:Sc}{K:KO}(h:uq P t q off n i σ s K){o:yy}{a b:x8}(ho:o.op=.slice t a (G b) none none):i9 P o [.arr q off n,.v (.int kd i)] σ K:=by
 unfold uq at h
 split at h
 ·rename_i e sz by' z hs
  obtain⟨h1,h2,h3⟩:=h
  refine⟨_,_,_,_,h3,rfl,fun τ=>?_⟩
  have hb:Cn n ((G (kd,i)).map (·.2)) ((none:Option (yv×Int)).map (·.2))=G (i.toNat,n):=by
   simp only[IA,Jo,Cn,IZ,Option.getD_none]
   rw[HV (by omega)]
   simp
  have:=CJ (σ:=τ) (q:=q) (off:=off) ho hs (G (kd,i)) none rfl rfl hb (by omega)
  simpa[FY] using this
 ·exact h.elim
theorem Afm{g:Gh}{q n sz:Nat}{u:yz}(h:Ag g (.gro q n sz) u):Ag g (.arr q 0 n) u:=by
 simp only[Ag] at h⊢
 obtain⟨h1,cap,h2,_,h3⟩:=h
 exact⟨h1,cap,h2,h3⟩
theorem AeR{P:x7}{q n sz:Nat}{ds:List D}{o:yy}{σ:St}{K:KO}(h:i9 P o (.arr q 0 n::ds) σ K):i9 P o (.gro q n sz::ds) σ K:=by
 have hsub:∀g us,Ad g (.gro q n sz::ds) us->Ad g (.arr q 0 n::ds) us:=fun g us hr=>by
  simp only[Ad] at hr⊢
  obtain⟨u,us',e,h1,h2⟩:=hr
  exact⟨u,us',e,Afm h1,h2⟩
 obtain⟨s',d,σ',kd,h5,h6⟩:=h
 refine⟨s',d,σ',kd,h5,?_⟩
 cases kd with
 |pure=>exact⟨h6.1,fun τ=>BD hsub (h6.2 τ)⟩
 |load q off n=>exact⟨h6.1,h6.2.1,fun τ hτ=>BD hsub (h6.2.2 τ hτ)⟩
 |eff=>exact BD hsub h6
noncomputable def ut(P:x7)(im:List Nat)(o:yy)(ds:List D)(σ:St)(s:Sc)(K:KO):Prop:=match s with
 |.h (.o d σ') s=>Aj P o ds σ d σ'/\K s d σ' .eff
 |.h (.p d) s=>(∀τ,Aj P o ds τ d τ)/\K s d σ .pure
 |s=>match o.op with
  |.move _=>(match ds with
   |[d]=>K s d σ .pure
   |_=>False)
  |.assign _=>(match ds with
   |[d]=>K s d σ .pure
   |_=>False)
  |.pick _ _ _=>(match ds with
   |[.v (.bool b),d1,d2]=>Bool.rec (K s d2 σ .pure) (K s d1 σ .pure) b
   |_=>False)
  |.box _ _=>(match ds,o.dst with
   |[d],some t=>Bool.rec (cond d.sto (AY (Ax d) fun cs=>AN σ.H (G cs) fun H=>K s (.ptr (I σ.H) 0) ⟨H,σ.own⟩ .eff) False) (match d.toV with
    |some y=>K s (.v (.ref y)) σ .pure
    |none=>False) (Alp im t)
   |_,_=>False)
  |.alloc e=>(match ds,NO P e with
   |[],some xs=>AY (xs.map .v) fun cs=>AN σ.H (G cs) fun H=>K s (.ptr (I σ.H) 0) ⟨H,σ.own⟩ .eff
   |_,_=>False)
  |.store t _ _=>(match ds with
   |[.ptr q off,d]=>WJ P t q off d σ s K
   |_=>False)
  |.load t _=>(match ds with
   |[.ptr q off]=>xg P t q off σ s K
   |ds=>vP P o ds σ s K)
  |.makeSlice t _ _=>(match ds with
   |[.v (.int k1 a),.v (.int k2 b)]=>xf P t k1 k2 a b σ s K
   |_=>False)
  |.build t ps=>(match s with
   |.h .g s=>cond (OB P t) (match Wi P t,l0 ps.toList ds with
    |some (z,ay),some xs=>(match V2 ay (z.map .v) xs with
     |some out=>AY out fun out=>K s (.dagg out) σ .pure
     |none=>False)
    |_,_=>False) False
   |s=>vP P o ds σ s K)
  |.buildSlice t len ps=>(match s with
   |.h (.a k) s=>QX P t len ps.toList ds k σ s K
   |.h .g s=>(match len,ps.toList,ds,Cd P t with
    |0,[],[],some (_,sz,_,_)=>AN σ.H (G []) fun H=>K s (.gro (I σ.H) 0 sz) ⟨H,σ.own⟩ .eff
    |_,_,_,_=>False)
   |s=>vP P o ds σ s K)
  |.slice t _ none (some _) none=>(match ds with
   |[.v .nils,.v (.int _ i)]=>ur P t (.v .nils) i σ s K
   |[.gro q n sz,.v (.int _ i)]=>ur P t (.gro q n sz) i σ s K
   |ds=>vP P o ds σ s K)
  |.slice t _ (some _) none none=>(match ds with
   |[.gro q n _,.v (.int _ i)]=>uq P t q 0 n i σ s K
   |[.arr q off n,.v (.int _ i)]=>uq P t q off n i σ s K
   |ds=>vP P o ds σ s K)
  |.call c=>(match c.callee,ds with
   |.builtin .append,[.v .nils,.v (.int _ n)]=>(match c.args.toList,c.argTypes.toList with
    |[_,_],[t,t']=>xl P t t' n σ s K
    |_,_=>False)
   |.builtin .append,[x,y]=>(match c.args.toList,c.argTypes.toList with
    |[_,_],[t,t']=>cond (Nat.beq t t') (w8 P t x y.un σ s K) False
    |_,_=>False)
   |.builtin .cap,[.v .nils]=>(match c.args.toList,c.argTypes.toList with
    |[_],[t]=>Alk P t s σ K
    |_,_=>False)
   |.value _,.v (.fn f fs cs)::ds=>WZ P f fs cs ds σ s K
   |_,ds=>vP P o ds σ s K)
  |_=>vP P o ds σ s K
theorem WP{P:x7}{im:List Nat}{o:yy}{ds:List D}{σ:St}{s:Sc}{K:KO}(h:ut P im o ds σ s K):i9 P o ds σ K:=by
 unfold ut at h
 split at h
 ·exact⟨_,_,_,_,h.2,h.1⟩
 ·exact⟨_,_,_,_,h.2,rfl,h.1⟩
 ·split at h
  ·rename_i x ho
   split at h
   ·exact⟨_,_,_,_,h,rfl,fun τ=>Af1 ho⟩
   ·exact h.elim
  ·rename_i x ho
   split at h
   ·exact⟨_,_,_,_,h,rfl,fun τ=>Y9 ho⟩
   ·exact h.elim
  ·rename_i x y z ho
   split at h
   ·rename_i b d1 d2
    cases b
    ·exact⟨_,_,_,_,h,rfl,fun τ=>Yu ho (b:=false)⟩
    ·exact⟨_,_,_,_,h,rfl,fun τ=>Yu ho (b:=true)⟩
   ·exact h.elim
  ·rename_i e x ho
   split at h
   ·rename_i d t _
    cases hm:Alp im t with
    |false=>
     rw[hm] at h
     obtain⟨h1,h2⟩:=Ap h
     rw[AO,AM] at h2
     exact⟨_,_,_,_,h2,AhW ho h1⟩
    |true=>
     rw[hm] at h
     simp only at h
     split at h
     ·rename_i y hy;exact⟨_,_,_,_,h,rfl,fun τ=>Af6 ho hy⟩
     ·exact h.elim
   ·exact h.elim
  ·rename_i e ho
   split at h
   ·rename_i xs hz
    rw[AO,AM] at h
    exact⟨_,_,_,_,h,LQ ho hz⟩
   ·exact h.elim
  ·rename_i t x y ho
   split at h
   ·exact WH h ho
   ·exact h.elim
  ·rename_i t x ho
   split at h
   ·exact Abe h ho
   ·exact QU h
  ·rename_i t x y ho
   split at h
   ·exact Abd h ho
   ·exact h.elim
  ·rename_i t ps ho
   split at h
   ·obtain⟨hst,h⟩:=Ap h
    split at h
    ·rename_i z ay xs hb hx
     split at h
     ·rename_i out hf
      rw[AO] at h
      exact⟨_,_,_,_,h,rfl,fun τ=>Y8 ho hst hb hx hf⟩
     ·exact h.elim
    ·exact h.elim
   ·exact QU h
  ·rename_i t len ps ho
   split at h
   ·exact U0 h ho
   ·split at h
    ·have hps:ps.toList=[]:=by assumption
     have hs:=(by assumption:Cd P t=_)
     rw[AM] at h
     exact⟨_,_,_,_,h,LN ho (by apply IC;simpa using hps) hs⟩
    ·exact h.elim
   ·exact QU h
  ·rename_i t a b ho
   split at h
   ·exact WN h ho
   ·exact WN h ho
   ·exact QU h
  ·rename_i t a b ho
   split at h
   ·exact AeR (WM h ho)
   ·exact WM h ho
   ·exact QU h
  ·rename_i c ho
   have mk2:∀{b:Builtin} {x y:x8} {t t':x6},c.callee=.builtin b->c.args.toList=[x,y]->c.argTypes.toList=[t,t']->o.op=.call { callee:=.builtin b,args:= #[x,y],argTypes:= #[t,t']}:=by
    intro b x y t t' hc h1 h2
    rw[ho];cases c;simp only at hc h1 h2;subst hc
    congr 2
    ·apply IC;simpa using h1
    ·apply IC;simpa using h2
   split at h
   ·rename_i kd n hc
    split at h
    ·rename_i a b t t' h1 h2;exact Abj h (mk2 hc h1 h2)
    ·exact h.elim
   ·rename_i x y _ hc
    split at h
    ·rename_i a b t t' h1 h2
     obtain⟨h3,h4⟩:=Ap h
     have:=HY h3;subst this
     have hoo:o.op=.call { callee:=.builtin .append,args:= #[a,b],argTypes:= #[t,t]}:=by
      rw[ho];cases c;simp only at hc h1 h2;subst hc
      congr 2
      ·apply IC;simpa using h1
      ·apply IC;simpa using h2
     obtain⟨s',d,σ',kd,h5,h6⟩:=AeZ h4 hoo
     have hsub:∀g us,Ad g [x,y] us->Ad g [x,y.un] us:=fun g us hr=>by
      rw[Av] at hr⊢
      obtain⟨u,v,e,h1,h2⟩:=hr
      exact⟨u,v,e,h1,Oj h2⟩
     refine⟨s',d,σ',kd,h5,?_⟩
     cases kd with
     |pure=>exact⟨h6.1,fun τ=>BD hsub (h6.2 τ)⟩
     |load q off n=>exact⟨h6.1,h6.2.1,fun τ hτ=>BD hsub (h6.2.2 τ hτ)⟩
     |eff=>exact BD hsub h6
    ·exact h.elim
   ·rename_i hc
    split at h
    ·rename_i x t h1 h2
     unfold Alk at h
     split at h
     ·rename_i e hu
      refine⟨_,_,_,_,h,rfl,fun τ=>UV (x:=x) (t:=t) ?_ hu⟩
      rw[ho];cases c;simp only at hc h1 h2;subst hc
      congr 2
      ·apply IC;simpa using h1
      ·apply IC;simpa using h2
     ·exact h.elim
    ·exact h.elim
   ·rename_i fo f fs cs ds hc;exact WY h ho hc
   ·exact QU h
  ·exact QU h
def r7:Op->Bool
 |.call c=>(match c.callee with|.value _=>true|_=>false)
 |_=>false
theorem AhX{o:Op}(h:r7 o=J):∃(c:Call) (fo:x8),o=.call c/\c.callee=.value fo:=by
 cases o<;>simp only[r7] at h<;>try (simp at h;done)
 rename_i c
 split at h
 ·rename_i fo hc;exact⟨c,fo,rfl,hc⟩
 ·simp at h
noncomputable def il(P:x7)(im:List Nat)(o:yy)(ds:List D)(σ:St)(s:Sc)(K:KO):Prop:=match s with
 |.h (.oc d σ') s'=>Bool.rec (ut P im o ds σ (.h (.oc d σ') s') K) ((∀(o:yy) (c:Call) (fo:x8),o.op=.call c->c.callee=.value fo->Aj P o ds σ d σ')/\K s' d σ' .eff) (r7 o.op)
 |s=>ut P im o ds σ s K
theorem C5{P:x7}{im:List Nat}{o:yy}{ds:List D}{σ:St}{s:Sc}{K:KO}(h:il P im o ds σ s K):i9 P o ds σ K:=by
 unfold il at h
 split at h
 ·rename_i d σ' s'
  cases hq:r7 o.op with
  |true=>
   rw[hq] at h
   obtain⟨h1,h2⟩:=(h:(∀(o:yy) (c:Call) (fo:x8),o.op=.call c->c.callee=.value fo->Aj P o ds σ d σ')/\K s' d σ' .eff)
   obtain⟨c,fo,e1,e2⟩:=AhX hq
   exact⟨_,_,_,_,h2,h1 _ _ _ e1 e2⟩
  |false=>
   rw[hq] at h
   exact WP h
 ·exact WP h
abbrev pf(g:Gh)(m:Nat)(ts:List Nat):Gh:={ g with n:=m,ι:=fun k j=>if ts.contains k then g.ι k j else none }
mutual
theorem LB{g:Gh}{m:Nat}{ts:List Nat}:∀(d:D) (u:yz),d.okN m ts=J->Ag g d u->Ag (pf g m ts) d u
 |.v x,u,_,h=>by simpa only[Ag] using h
 |.acc k xs,u,hk,h=>by
  simp only[D.okN] at hk
  simp only[Ag] at h⊢
  exact⟨h.1,by rw[HV hk];exact h.2⟩
 |.ptr o f,u,hk,h=>by
  simp only[D.okN,HK] at hk
  simp only[Ag] at h⊢
  exact⟨hk,h.2⟩
 |.arr o f l,u,hk,h=>by
  simp only[D.okN,HK] at hk
  simp only[Ag] at h⊢
  exact⟨hk,h.2⟩
 |.gro o f l,u,hk,h=>by
  simp only[D.okN,HK] at hk
  simp only[Ag] at h⊢
  exact⟨hk,h.2⟩
 |.raw x,u,_,h=>by simpa only[Ag] using h
 |.err,u,_,h=>by simpa only[Ag] using h
 |.rv x u0,u,_,h=>by simpa only[Ag] using h
 |.dagg cs,u,hk,h=>by
  simp only[D.okN] at hk
  simp only[Ag] at h⊢
  obtain⟨us,e,h1⟩:=h
  exact⟨us,e,EC cs us hk h1⟩
 |.dfn f fs cs,u,hk,h=>by
  simp only[D.okN,HB] at hk
  simp only[Ag] at h⊢
  obtain⟨us,vs,e,h1,h2⟩:=h
  exact⟨us,vs,e,EC fs us hk.1 h1,EC cs vs hk.2 h2⟩
 |.tup ds,u,hk,h=>by
  simp only[D.okN] at hk
  simp only[Ag] at h⊢
  obtain⟨us,e,h1⟩:=h
  exact⟨us,e,EC ds us hk h1⟩
 |.undef,u,_,_=>by simp only[Ag]
theorem EC{g:Gh}{m:Nat}{ts:List Nat}:∀(ds:List D) (us:List yz),D.okNs m ts ds=J->Ad g ds us->Ad (pf g m ts) ds us
 |[],us,_,h=>by simpa only[Ad] using h
 |d::ds,us,hk,h=>by
  simp only[D.okNs,HB] at hk
  simp only[Ad] at h⊢
  obtain⟨u,us',e,h1,h2⟩:=h
  exact⟨u,us',e,LB d u hk.1 h1,EC ds us' hk.2 h2⟩
end
theorem WA{E:cf}{g:Gh}{σ σ':St}{w:x5}(hw:WI E g σ w){m:Nat}(hH:σ'.H=σ.H.take m)(hm:m<=I σ.H)(hE:E.g.n<=m)(hc:cm m (σ'.own.map (·.1)) σ'.H=J)(hown:σ'.own.Sublist σ.own):
  WI E (pf g m (σ'.own.map (·.1))) σ' w:=by
 have get:∀(i:Nat) (cs:List D),σ'.H[i]?=G (G cs)->σ.H[i]?=G (G cs)/\i<m:=by
  intro i cs hi
  rw[hH,IX] at hi
  split at hi
  ·exact⟨hi,by assumption⟩
  ·simp at hi
 have hι:∀x∈σ'.own,(if (σ'.own.map (·.1)).contains x.1 then g.ι x.1 (I x.2.2) else none)=g.ι x.1 (I x.2.2):=fun x hx=>HV (by rw[List.contains_iff_mem];exact Is.2 ⟨x,hx,rfl⟩)
 refine{ rep:=⟨?_,hw.rep.mem,fun i cs hi=>?_,fun i j cs ds hi hj=>hw.rep.inj i j cs ds (get i cs hi).1 (get j ds hj).1,fun k sz xs hx=>?_,?_,fun x hx y hy hne u u' hu hu' b hb=>?_,fun x hx u hu b hb i cs hi=>?_,fun k hk j=>?_,hw.rep.gl,hw.rep.gw⟩,M:=hw.M,size:=hw.size,keep:=hw.keep,os:=hw.os,tape:=hw.tape,output:=hw.output,nE:=hE,βE:=fun o ho=>hw.βE o ho,κE:=fun o ho=>hw.κE o ho,objs:=fun i cs hi=>hw.objs i cs (get i cs hi).1,owns:=fun x hx u hu b hb=>?_,drawn:=hw.drawn }
 ·simp[hH];omega
 ·obtain⟨us,rest,e,h1,h2,h3,h4⟩:=hw.rep.obj i cs (get i cs hi).1
  exact⟨us,rest,e,h1,EC cs us (O2 hc hi) h2,h3,h4⟩
 ·obtain⟨h0,u,hu,h1,h2,h3⟩:=hw.rep.own k sz xs (hown.subset hx)
  refine⟨h0,u,(hι _ hx).trans hu,h1,h2,fun j hj=>?_⟩
  simp only
  split
  ·exact h3 j hj
  ·rfl
 ·exact(hown.map _).nodup hw.rep.tags
 ·exact hw.rep.sep x (hown.subset hx) y (hown.subset hy) hne u u' ((hι x hx).symm.trans hu) ((hι y hy).symm.trans hu') b hb
 ·exact hw.rep.ownObj x (hown.subset hx) u ((hι x hx).symm.trans hu) b hb i cs (get i cs hi).1
 ·simp only
  rw[HR]
  intro h
  rw[List.contains_iff_mem] at h
  obtain⟨x,hx,e⟩:=Is.1 h
  exact hk x hx e
 ·exact hw.owns x (hown.subset hx) u ((hι x hx).symm.trans hu) b hb
abbrev CN(m:Nat)(E0 E:cf):Prop:=E0=E/\E.g.n<=m
theorem M5(m:Nat):OX (CN m):=⟨fun h _ _ _ hw=>by rw[h.1];exact hw⟩
section
variable {P : x7} {R : List D -> St -> Prop} {k : List KI} {env : List D} {σ : St}
theorem Ah9{C:cf->cf->Prop}{m:Nat}(hCm:∀E0 E,C E0 E->E.g.n<=m){σ':St}{h:Nat}(hH:σ'.H=σ.H.take h)(hh:h<=I σ.H)(hm:m<=h)(he:D.okNs h (σ'.own.map (·.1)) env=J)(hc:cm h (σ'.own.map (·.1)) σ'.H=J)(hown:σ'.own.Sublist σ.own)(hr:AB C P R k env σ'):AB C P R k env σ:=fun E0 E g a w B hC hf hB=>
 hr E0 E _ a w B hC ⟨WA hf.wi hH hh (I6 (hCm _ _ hC) hm) hc hown,EC _ _ he hf.env,hf.defers⟩ hB
end
noncomputable def Fi{β:Type}(l:List D)(i:Nat)(k:D->β):β:=
 List.rec (motive:=fun _=>Nat->(D->β)->β) (fun _ k=>k .undef) (fun a _ ih i k=>Nat.rec (motive:=fun _=>β) (k a) (fun j _=>ih j k) i) l i k
theorem Dn{β:Type}:∀(l:List D) (i:Nat) (k:D->β),Fi l i k=k (l.getD i .undef)
 |[],_,_=>rfl
 |a::l,0,k=>rfl
 |a::l,i+1,k=>by
  have h:Fi (a::l) (i+1) k=Fi l i k:=rfl
  rw[h,Dn l];simp
noncomputable def r0{β:Type}(env:List D)(x:x8)(K:D->β):β:=match x with
 |.tmp t=>Fi env t K
 |x=>K (j8 env x)
theorem Ajf{β:Type}(env:List D)(x:x8)(K:D->β):r0 env x K=K (j8 env x):=by
 cases x<;>simp[r0,Dn,j8]
noncomputable def Tm{β:Type}(env:List D)(l:List x8)(K:List D->β):β:=
 List.rec (motive:=fun _=>(List D->β)->β) (fun K=>K []) (fun x _ ih K=>r0 env x fun d=>ih fun ds=>K (d::ds)) l K
theorem Mk{β:Type}(env:List D):∀(l:List x8) (K:List D->β),Tm env l K=K (l.map (j8 env))
 |[],_=>rfl
 |x::l,K=>by
  have h:Tm env (x::l) K=r0 env x fun d=>Tm env l fun ds=>K (d::ds):=rfl
  rw[h,Ajf,Mk env l];rfl
theorem getD_some{env:List D}{t:Nat}{d:D}(h:env.getD t .undef=d)(hd:d≠ .undef):env[t]?=G d:=by
 rw[HI] at h
 cases e:env[t]? with
 |none=>rw[e] at h;exact absurd h.symm hd
 |some x=>rw[e] at h;simpa using h
theorem DSL.refl:∀l:List D,DSL l l
 |[]=>.nil
 |d::l=>.cons (.same d) (DSL.refl l)
theorem DSL.set{l:List D}{t:Nat}{d e:D}(h:l[t]?=G d)(hs:DS d e):DSL l (l.set t e):=by
 induction l generalizing t with
 |nil=>simp at h
 |cons a l ih=>
  cases t with
  |zero=>simp at h;subst h;exact .cons hs (DSL.refl l)
  |succ t=>exact .cons (.same a) (ih (by simpa using h))
theorem Mn{env:List D}{σ:St}:Cv env σ env σ:=fun E g a w hf=>⟨g,hf⟩
theorem MV{L:Nat->Option (List D)}:∀{ds ds':List D} {s n:Nat} {d:D} {x:V},Fz L ds ds'->ds[s]?=G d->Gn L n d x->Fz L ds (ds'.set s (.v x))
 |_,_,s,n,d,x,.nil,h,hl=>by simp at h
 |_,_,0,n,d,x,.keep hs,h,hl=>by simp at h;subst h;exact .view hl hs
 |_,_,0,n,d,x,.view _ hs,h,hl=>by simp at h;subst h;exact .view hl hs
 |_,_,s+1,n,d,x,.keep hs,h,hl=>by simp only[IW];exact .keep (MV hs (by simpa using h) hl)
 |_,_,s+1,n,d,x,.view h' hs,h,hl=>by simp only[IW];exact .view h' (MV hs (by simpa using h) hl)
theorem Fz.refl{L:Nat->Option (List D)}:∀l:List D,Fz L l l
 |[]=>.nil
 |_::l=>.keep (Fz.refl l)
theorem Pp:∀{cs:List D} {xs:List V},Dt cs=G xs->∀{j:Nat} {y:V},xs[j]?=G y->∃c,cs[j]?=G c/\c.toV=G y
 |[],xs,h,j,y,hy=>by simp[Dt] at h;subst h;simp at hy
 |c::cs,xs,h,j,y,hy=>by
  cases c<;>simp only[Dt] at h<;>first|(split at h<;>first|(rename_i ys h1;simp at h;subst h;cases j with|zero=>(simp at hy;subst hy;exact⟨_,rfl,rfl⟩)|succ j=>(obtain⟨c,h2,h3⟩:=Pp h1 (j:=j) (by simpa using hy);exact⟨c,by simpa using h2,h3⟩))|simp at h)|simp at h
theorem AcJ{H:List (Option (List D))}{q:Nat}{cs:List D}{xs:List V}(hq:H[q]?=G (G cs))(hx:Dt cs=G xs)(ha:xs.all (fun x=> !x.isAgg)=J):Gn (Ex [q] H) 1 (.ptr q 0) (.ref (.agg xs)):=by
 refine .inr (.inl ⟨q,0,cs,.agg xs,rfl,rfl,by simp[Ex,hq],fun j y hy=>?_⟩)
 have hm:=HG (show xs[j]?=G y from hy)
 obtain⟨c,h1,h2⟩:=Pp hx (show xs[j]?=G y from hy)
 exact⟨by simpa using Iw.1 ha y hm,c,by rw[Iv];exact h1,c,.same,h2⟩
theorem AcI{H:List (Option (List D))}{q:Nat}{c:D}{x:V}(hq:H[q]?=G (G [c]))(hx:c.toV=G x)(ha:x.isAgg=O):Gn (Ex [q] H) 1 (.ptr q 0) (.ref x):=by
 refine .inr (.inl ⟨q,0,[c],x,rfl,rfl,by simp[Ex,hq],fun j y hy=>?_⟩)
 have hc:x.cellsV=[x]:=by cases x<;>simp_all [V.cellsV,V.isAgg]
 rw[hc] at hy
 cases j with
 |zero=>simp at hy;subst hy;exact⟨ha,c,rfl,c,.same,hx⟩
 |succ j=>simp at hy
noncomputable def Rj(q:Nat)(x:V)(ss:List Nat)(env:List D)(K:List D->Prop):Prop:=
 List.rec (motive:=fun _=>List D->Prop) (fun env=>K env) (fun s _ ih env=>Fi env s fun d=>match d with
  |.ptr q' 0=>cond (Nat.beq q' q) (CG env s (.v (.ref x)) ih) False
  |_=>False) ss env
theorem Of{L:Nat->Option (List D)}{q:Nat}{x:V}(hl:Gn L 1 (.ptr q 0) (.ref x)){K:List D->Prop}{env0:List D}:∀{ss:List Nat} {env:List D},Fz L env0 env->(∀t:Nat,env[t]?=env0[t]?∨env[t]?=G (bt (.ref x)))->Rj q x ss env K->∃env',K env'/\Fz L env0 env'
 |[],env,hz,_,h=>⟨env,h,hz⟩
 |s::ss,env,hz,hi,h=>by
  have e:Rj q x (s::ss) env K=Fi env s fun d=>match d with
   |.ptr q' 0=>cond (Nat.beq q' q) (CG env s (.v (.ref x)) fun env=>Rj q x ss env K) False
   |_=>False:=rfl
  rw[e,Dn] at h
  split at h
  ·rename_i q' hd
   obtain⟨h1,h2⟩:=Ap h
   have:=HY h1;subst this
   rw[B5] at h2
   have hs:=getD_some hd (by simp)
   have hs0:env0[s]?=G (.ptr q' 0):=by
    rcases hi s with h3|h3
    ·rw[←h3];exact hs
    ·rw[hs] at h3;simp at h3
   refine Of hl (MV hz hs0 hl) (fun t=>?_) h2
   rw[List.getElem?_set]
   split
   ·rename_i e;subst e
    rw[HV (HD.1 hs).1];exact .inr rfl
   ·exact hi t
  ·exact h.elim
noncomputable def pre(r i:Nat)(s:Sc)(env:List D)(σ:St)(K:Sc->List D->St->Prop):Prop:=
 Sc.rec (motive:=fun _=>List D->St->Prop)
  (fun env σ=>K .z env σ)
  (fun _ ih env σ=>∃a,ih a env σ)
  (fun s t _ _ env σ=>K (.b s t) env σ)
  (fun h s ih env σ=>match h with
   |.q r' i'=>cond (Nat.beq r r'&&Nat.beq i i') (ih env σ) (K (.h (.q r' i') s) env σ)
   |.un t=>Fi env t fun d=>match d with
    |.acc _ xs=>CG env t (.v (.list xs)) fun env=>ih env σ
    |.rv x _=>CG env t (.v x) fun env=>ih env σ
    |_=>False
   |.ga t=>Fi env t fun d=>match d with
    |.gro q n _=>CG env t (.arr q 0 n) fun env=>ih env σ
    |_=>False
   |.fa q ss=>match σ.H[q]? with
    |some (some cs)=>(match Dt cs with
     |some xs=>cond (xs.all fun x=> !x.isAgg) (Rj q (.agg xs) ss env fun env=>CG σ.H q none fun H=>ih env ⟨H,σ.own⟩) False
     |none=>False)
    |_=>False
   |.f1 q ss=>match σ.H[q]? with
    |some (some [c])=>(match c.toV with
     |some x=>cond (!x.isAgg) (Rj q x ss env fun env=>CG σ.H q none fun H=>ih env ⟨H,σ.own⟩) False
     |none=>False)
    |_=>False
   |.fl q t xs=>match σ.H[q]? with
    |some (some cs)=>Fi env t fun d=>match d with
     |.arr q' 0 n=>cond (Nat.beq q' q) (cs=xs.map .v/\n=I xs/\CG env t (.v (.list xs)) fun env=>CG σ.H q none fun H=>ih env ⟨H,σ.own⟩) False
     |_=>False
    |_=>False
   |.cl q j k sz=>match σ.H[q]? with
    |some (some cs)=>(match cs[j]? with
     |some (.v .nils)=>cond (E1 σ.own k&&Nat.blt 0 sz) (CG cs j (.acc k []) fun cs=>CG σ.H q (G cs) fun H=>ih env ⟨H,(k,sz,[])::σ.own⟩) False
     |_=>False)
    |_=>False
   |.nw t k sz=>Fi env t fun d=>match d with
    |.v .nils=>cond (E1 σ.own k&&Nat.blt 0 sz) (CG env t (.acc k []) fun env=>ih env ⟨σ.H,(k,sz,[])::σ.own⟩) False
    |_=>False
   |.cs σ'=>(AY σ.H fun H=>AY σ.own fun own=>∀e:List D,Cv e ⟨H,own⟩ e σ')/\ih env σ'
   |.ct t d σ'=>Fi env t fun d0=>match d0 with
    |.undef=>False
    |d0=>(∀e:List D,e[t]?=G d0->Cv e σ (e.set t d) σ')/\CG env t d fun env=>ih env σ'
   |h=>K (.h h s) env σ) s env σ
theorem AkV{env:List D}{σ:St}{t:Nat}{x:V}{u:yz}(ht:env[t]?=G (.rv x u)):Cv env σ (env.set t (.v x)) σ:=fun E g a w hf=>by
 obtain⟨v,hv,hr⟩:=BF hf.env ht
 simp only[Ag] at hr
 refine⟨g,hf.wi,?_,hf.defers⟩
 have:=CR hf.env t (d:=.v x) (u:=v) (by simp only[Ag];rw[hr.1];exact hr.2)
 rwa[DV hv] at this
theorem AkW{env:List D}{σ:St}{t k sz:Nat}(ht:env[t]?=G (.v .nils))(hk:∀x∈σ.own,x.1≠k)(hsz:0<sz):Cv env σ (env.set t (.acc k [])) ⟨σ.H,(k,sz,[])::σ.own⟩:=fun E g a w hf=>by
 obtain⟨hw1,hle1⟩:=hf.wi.addOwn (k:=k) (sz:=sz) (xs:=[]) (u:=.slice none 0 0) hk ⟨hsz,by simp⟩ (DX _) (.inl ⟨none,rfl⟩) (fun b hb=>by simp[Cg] at hb)
 obtain⟨u,hu,hr⟩:=BF hf.env ht
 simp only[Ag,Cp] at hr
 subst hr
 refine⟨_,hw1,?_,hf.defers⟩
 have:=CR (Ad.mono hle1 _ _ hf.env) t (d:=.acc k []) (u:=.slice none 0 0) (by simp only[Ag];exact⟨DX _,by simp⟩)
 rwa[DV hu] at this
theorem AkX{env:List D}{σ:St}{q t:Nat}{xs:List V}(hq:σ.H[q]?=G (G (xs.map .v)))(ht:env[t]?=G (.arr q 0 (I xs))):Cv env σ (env.set t (.v (.list xs))) ⟨σ.H.set q none,σ.own⟩:=fun E g a w hf=>by
 have hone:∀x∈xs,x.isAgg=O:=fun x hx=>by
  obtain⟨_,_,_,_,_,h1,_⟩:=hf.wi.rep.obj q _ hq
  have:=h1 (.v x) (Is.2 ⟨x,hx,rfl⟩)
  simpa[D.one] using this
 have hfl:xs.flatMap V.cellsV=xs:=by
  clear hq ht hf
  induction xs with
  |nil=>rfl
  |cons x xs ih=>
   have hx:=hone x (by simp)
   have hc:x.cellsV=[x]:=by cases x<;>simp_all [V.cellsV,V.isAgg]
   rw[List.flatMap_cons,hc,ih fun y hy=>hone y (by simp[hy])];rfl
 have hz:Fz (Ex [q] σ.H) env (env.set t (.v (.list xs))):=by
  refine MV (n:=1) (Fz.refl env) ht (.inr (.inr ⟨q,0,1,xs.map .v,xs,.inl rfl,rfl,by omega,fun y hy=>?_,by simp[Ex,hq],fun j y hy=>?_⟩))
  ·have:=hone y hy;cases y<;>simp_all [V.size,V.isAgg]
  ·rw[hfl] at hy
   exact⟨hone y (HG hy),.v y,by rw[Iv,Ir,hy];rfl,.v y,.same,rfl⟩
 obtain⟨g',hf'⟩:=Qt [q] hz E g a w hf
 exact⟨g',by simpa[LX] using hf'⟩
theorem PA{r i:Nat}{K:Sc->List D->St->Prop}:∀{s:Sc} {env:List D} {σ:St},pre r i s env σ K->∃s' env' σ',K s' env' σ'/\Cv env σ env' σ'/\env'.length=I env
 |.z,env,σ,h=>⟨_,_,_,h,Mn,rfl⟩
 |.e f,env,σ,h=>by
  obtain⟨a,h⟩:=(h:∃a,pre r i (f a) env σ K)
  exact PA h
 |.b s t,env,σ,h=>⟨_,_,_,h,Mn,rfl⟩
 |.h hh s,env,σ,h=>by
  have tr:∀{env1:List D} {σ1:St},Cv env σ env1 σ1->I env1=I env->pre r i s env1 σ1 K->∃s' env' σ',K s' env' σ'/\Cv env σ env' σ'/\env'.length=I env:=by
   intro env1 σ1 hc hl hp
   obtain⟨s',env',σ',h1,h2,h3⟩:=PA hp
   exact⟨s',env',σ',h1,fun E g a w hf=>by obtain⟨g1,hf1⟩:=hc E g a w hf;exact h2 E g1 a w hf1,h3.trans hl⟩
  cases hh with
  |q r' i'=>
   have h':cond (Nat.beq r r'&&Nat.beq i i') (pre r i s env σ K) (K (.h (.q r' i') s) env σ):=h
   cases hb:(Nat.beq r r'&&Nat.beq i i') with
   |true=>rw[hb] at h';exact tr Mn rfl h'
   |false=>rw[hb] at h';exact⟨_,_,_,h',Mn,rfl⟩
  |un t=>
   have h':Fi env t fun d=>match d with
    |.acc _ xs=>CG env t (.v (.list xs)) fun env=>pre r i s env σ K
    |.rv x _=>CG env t (.v x) fun env=>pre r i s env σ K
    |_=>False:=h
   rw[Dn] at h'
   split at h'
   ·rename_i k xs hd
    rw[B5] at h'
    exact tr (AeA (DSL.set (getD_some hd (by simp)) .acc)) (by simp) h'
   ·rename_i x u hd
    rw[B5] at h'
    exact tr (AkV (getD_some hd (by simp))) (by simp) h'
   ·exact h'.elim
  |ga t=>
   have h':Fi env t fun d=>match d with
    |.gro q n _=>CG env t (.arr q 0 n) fun env=>pre r i s env σ K
    |_=>False:=h
   rw[Dn] at h'
   split at h'
   ·rename_i q n sz hd
    rw[B5] at h'
    exact tr (AeA (DSL.set (getD_some hd (by simp)) .gro)) (by simp) h'
   ·exact h'.elim
  |fa q ss=>
   have h':match σ.H[q]? with
    |some (some cs)=>(match Dt cs with
     |some xs=>cond (xs.all fun x=> !x.isAgg) (Rj q (.agg xs) ss env fun env=>CG σ.H q none fun H=>pre r i s env ⟨H,σ.own⟩ K) False
     |none=>False)
    |_=>False:=h
   split at h'
   ·rename_i cs hq
    split at h'
    ·rename_i xs hx
     obtain⟨h1,h2⟩:=Ap h'
     obtain⟨env',h3,h4⟩:=Of (env0:=env) (AcJ hq hx h1) (Fz.refl env) (fun t=>.inl rfl) h2
     rw[B5] at h3
     have hl:I env'=I env:=by
      have:∀{a b:List D} {L},Fz L a b->I b=I a:=by
       intro a b L hz;induction hz<;>simp_all
      exact this h4
     exact tr (by have:=Qt [q] h4;simpa[LX] using this) hl h3
    ·exact h'.elim
   ·exact h'.elim
  |f1 q ss=>
   have h':match σ.H[q]? with
    |some (some [c])=>(match c.toV with
     |some x=>cond (!x.isAgg) (Rj q x ss env fun env=>CG σ.H q none fun H=>pre r i s env ⟨H,σ.own⟩ K) False
     |none=>False)
    |_=>False:=h
   split at h'
   ·rename_i c hq
    split at h'
    ·rename_i x hx
     obtain⟨h1,h2⟩:=Ap h'
     obtain⟨env',h3,h4⟩:=Of (env0:=env) (AcI hq hx (by simpa using h1)) (Fz.refl env) (fun t=>.inl rfl) h2
     rw[B5] at h3
     have hl:I env'=I env:=by
      have:∀{a b:List D} {L},Fz L a b->I b=I a:=by
       intro a b L hz;induction hz<;>simp_all
      exact this h4
     exact tr (by have:=Qt [q] h4;simpa[LX] using this) hl h3
    ·exact h'.elim
   ·exact h'.elim
  |fl q t xs=>
   have h':match σ.H[q]? with
    |some (some cs)=>Fi env t fun d=>match d with
     |.arr q' 0 n=>cond (Nat.beq q' q) (cs=xs.map .v/\n=I xs/\CG env t (.v (.list xs)) fun env=>CG σ.H q none fun H=>pre r i s env ⟨H,σ.own⟩ K) False
     |_=>False
    |_=>False:=h
   split at h'
   ·rename_i cs hq
    rw[Dn] at h'
    split at h'
    ·rename_i q' n hd
     obtain⟨h1,rfl,rfl,h2⟩:=Ap h'
     have:=HY h1;subst this
     rw[B5,B5] at h2
     exact tr (AkX hq (getD_some hd (by simp))) (by simp) h2
    ·exact h'.elim
   ·exact h'.elim
  |cl q j k sz=>
   have h':match σ.H[q]? with
    |some (some cs)=>(match cs[j]? with
     |some (.v .nils)=>cond (E1 σ.own k&&Nat.blt 0 sz) (CG cs j (.acc k []) fun cs=>CG σ.H q (G cs) fun H=>pre r i s env ⟨H,(k,sz,[])::σ.own⟩ K) False
     |_=>False)
    |_=>False:=h
   split at h'
   ·rename_i cs hq
    split at h'
    ·rename_i hj
     obtain⟨h1,h2⟩:=Ap h'
     rw[HB] at h1
     rw[B5,B5] at h2
     exact tr (Adx q j k sz hq hj (C9 h1.1) (Ie h1.2)) rfl h2
    ·exact h'.elim
   ·exact h'.elim
  |nw t k sz=>
   have h':Fi env t fun d=>match d with
    |.v .nils=>cond (E1 σ.own k&&Nat.blt 0 sz) (CG env t (.acc k []) fun env=>pre r i s env ⟨σ.H,(k,sz,[])::σ.own⟩ K) False
    |_=>False:=h
   rw[Dn] at h'
   split at h'
   ·rename_i hd
    obtain⟨h1,h2⟩:=Ap h'
    rw[HB] at h1
    rw[B5] at h2
    exact tr (AkW (getD_some hd (by simp)) (C9 h1.1) (Ie h1.2)) (by simp) h2
   ·exact h'.elim
  |cs σ'=>
   obtain⟨h1,h2⟩:=(h:(AY σ.H fun H=>AY σ.own fun own=>∀e:List D,Cv e ⟨H,own⟩ e σ')/\pre r i s env σ' K)
   rw[AO,AO] at h1
   exact tr (h1 env) rfl h2
  |ct t d σ'=>
   have h':Fi env t fun d0=>match d0 with
    |.undef=>False
    |d0=>(∀e:List D,e[t]?=G d0->Cv e σ (e.set t d) σ')/\CG env t d fun env=>pre r i s env σ' K:=h
   rw[Dn] at h'
   split at h'
   ·exact h'.elim
   ·rename_i hne
    rw[B5] at h'
    exact tr (h'.1 env (getD_some rfl (fun e=>hne e))) (by simp) h'.2
  |_=>exact⟨_,_,_,h,Mn,rfl⟩
noncomputable def nk(env:List D)(t:Option Nat)(b:Bool)(K:List D->Prop):Prop:=match t with
 |some t=>CG env t (.v (.bool b)) K
 |none=>K env
noncomputable def u5(s:Sc)(b:Bool)(t:Option Nat)(env:List D)(K:Bool->Sc->List D->Prop):Prop:=match s with
 |.b s1 s2=>(b=J->nk env t true fun env=>K true s1 env)/\(b=O->nk env t false fun env=>K false s2 env)
 |.h .t s=>b=J/\nk env t true fun env=>K true s env
 |.h .f s=>b=O/\nk env t false fun env=>K false s env
 |.h .k s=>K b s env
 |s=>K b s env
theorem AbL{env:List D}{t:Nat}{b:Bool}(h:env[t]?=G (.v (.bool b))):env.set t (.v (.bool b))=env:=DV h
theorem Sk{s:Sc}{b:Bool}{t:Option Nat}{env:List D}{K:Bool->Sc->List D->Prop}(h:u5 s b t env K)(ht:∀t',t=G t'->env[t']?=G (.v (.bool b))):∃s',K b s' env:=by
 have up:∀{b':Bool} {K':List D->Prop},b=b'->nk env t b' K'->K' env:=by
  intro b' K' e hu
  subst e
  cases t with
  |none=>exact hu
  |some t=>simp only[nk,B5] at hu;rwa[AbL (ht t rfl)] at hu
 unfold u5 at h
 split at h
 ·cases b with
  |true=>exact⟨_,up rfl (h.1 rfl)⟩
  |false=>exact⟨_,up rfl (h.2 rfl)⟩
 ·obtain⟨rfl,h⟩:=h;exact⟨_,up rfl h⟩
 ·obtain⟨rfl,h⟩:=h;exact⟨_,up rfl h⟩
 ·exact⟨_,h⟩
 ·exact⟨_,h⟩
noncomputable def Ah7(ops:Array yy)(i j:Nat):Bool:=(ops.toList.take i).any fun o=>match o.guard with
 |some (j',_)=>Nat.beq j' j
 |none=>false
noncomputable def G5(ops:Array yy)(i:Nat)(o:yy)(s:Sc)(env:List D)(K:Bool->Sc->List D->Prop):Prop:=match o.guard with
 |none=>K true s env
 |some (j,want)=>match (ops[j]?).bind (·.dst) with
  |some t=>Fi env t fun d=>match d with
   |.v (.bool b)=>Bool.rec (u5 s b (G t) env fun b s env=>K (b==want) s env) (K (b==want) s env) (Ah7 ops i j)
   |.tup _=>K false s env
   |_=>False
  |none=>False
theorem Lw{ops:Array yy}{i:Nat}{o:yy}{s:Sc}{env:List D}{K:Bool->Sc->List D->Prop}(h:G5 ops i o s env K):∃b s',K b s' env/\CK env ops o=G b:=by
 unfold G5 at h
 unfold CK
 split at h
 ·rename_i hg;exact⟨true,s,h,by simp[hg]⟩
 ·rename_i j want hg
  split at h
  ·rename_i t hj
   rw[Dn] at h
   split at h
   ·rename_i b hd
    have ht:=getD_some hd (by simp)
    cases hs:Ah7 ops i j with
    |true=>rw[hs] at h;exact⟨_,s,h,by simp[hg,hj,ht]⟩
    |false=>
     rw[hs] at h
     obtain⟨s',h1⟩:=Sk h (fun t' e=>by simp at e;subst e;exact ht)
     exact⟨_,s',h1,by simp[hg,hj,ht]⟩
   ·rename_i ds hd
    have ht:=getD_some hd (by simp)
    exact⟨false,s,h,by simp[hg,hj,ht]⟩
   ·exact h.elim
  ·exact h.elim
noncomputable def TZ(env:List D)(sl:List (Nat×Option D))(K:List (Nat×D)->Prop):Prop:=
 List.rec (motive:=fun _=>(List (Nat×D)->Prop)->Prop) (fun K=>K []) (fun p _ ih K=>Fi env p.1 fun d0=>match p.2 with
  |none=>ih fun L=>K ((p.1,d0)::L)
  |some d=>d0=d/\ih fun L=>K ((p.1,d)::L)) sl K
theorem KH{env:List D}:∀{sl:List (Nat×Option D)} {K:List (Nat×D)->Prop},TZ env sl K->∃L,K L/\∀p∈L,env.getD p.1 .undef=p.2
 |[],K,h=>⟨[],h,by simp⟩
 |(t,o)::sl,K,h=>by
  have h':Fi env t fun d0=>match (generalizing:=false) o with
   |none=>TZ env sl fun L=>K ((t,d0)::L)
   |some d=>d0=d/\TZ env sl fun L=>K ((t,d)::L):=h
  rw[Dn] at h'
  cases o with
  |none=>
   obtain⟨L,h1,h2⟩:=KH h'
   refine⟨_,h1,fun p hp=>?_⟩
   rcases Iq.1 hp with rfl|hp
   ·rfl
   ·exact h2 p hp
  |some d=>
   obtain⟨L,h1,h2⟩:=KH h'.2
   refine⟨_,h1,fun p hp=>?_⟩
   rcases Iq.1 hp with rfl|hp
   ·exact h'.1
   ·exact h2 p hp
theorem DA:∀(L:List (Nat×D)) (e:List D),I (L.foldl (fun e p=>e.set p.1 p.2) e)=I e
 |[],e=>rfl
 |p::L,e=>by rw[IN,DA L];simp
theorem YR{env:List D}:∀{L:List (Nat×D)} {e:List D},(∀p∈L,env.getD p.1 .undef=p.2)->I e=I env->(∀(i:Nat) (d:D),e[i]?=G d->d=.undef∨env[i]?=G d)->∀(i:Nat) (d:D),(L.foldl (fun e p=>e.set p.1 p.2) e)[i]?=G d->d=.undef∨env[i]?=G d
 |[],e,_,_,h,i,d,hd=>h i d hd
 |p::L,e,hL,hl,h,i,d,hd=>by
  refine YR (L:=L) (e:=e.set p.1 p.2) (fun q hq=>hL q (List.mem_cons_of_mem _ hq)) (by simp[hl]) (fun i d hd=>?_) i d hd
  rw[List.getElem?_set] at hd
  split at hd
  ·rename_i e1;subst e1
   split at hd
   ·rename_i hlt
    simp at hd;subst hd
    refine .inr ?_
    have:=hL p (List.mem_cons_self)
    rw[HI] at this
    rw[HA (by omega)] at this⊢
    simpa using this
   ·simp at hd
  ·exact h i d hd
theorem MR{env:List D}{nt:Nat}{L:List (Nat×D)}(hn:I env=nt)(h2:∀p∈L,env.getD p.1 .undef=p.2):I (ba nt L)=I env/\∀(i:Nat) (d:D),(ba nt L)[i]?=G d->d=.undef∨env[i]?=G d:=
 ⟨by simp[ba,DA,hn],YR h2 (by simp[hn]) (fun i d hd=>by
  rw[List.getElem?_replicate] at hd
  split at hd
  ·simp at hd;exact .inl hd.symm
  ·simp at hd)⟩
noncomputable def Wr(P:x7)(im:List Nat)(r:Nat)(ops:Array yy)(Z:List yy->List (Nat×D)->St->Prop)(L:List yy)(i:Nat)(s:Sc)(env:List D)(σ:St)(K:Sc->List D->St->Prop):Prop:=
 List.rec (motive:=fun _=>Nat->Sc->List D->St->Prop) (fun i s env σ=>pre r i s env σ K)
  (fun o L ih i s env σ=>pre r i s env σ fun s env σ=>match s with
   |.h (.s sl) _=>TZ env sl fun sl=>Z (o::L) sl σ
   |s=>G5 ops i o s env fun b s env=>
    Bool.rec (D8 env o.dst (.tup []) fun env=>ih (Nat.succ i) s env σ)
     (Tm env o.op.operands.toList fun ds=>il P im o ds σ s fun s d σ _=>D8 env o.dst d fun env=>ih (Nat.succ i) s env σ) b) L i s env σ
def B8(C:cf->cf->Prop)(P:x7)(R:List D->St->Prop)(k:List KI)(ops:Array yy)(L:List yy)(env:List D)(σ:St):Prop:=
 ∀(E0 E:cf) (g:Gh) (a:Act) (w:x5) (B:Exit->Act->x5->Prop),C E0 E->FI E g σ env a w->
  (∀g' env' σ' a' w',FI E0 g' σ' env' a' w'->R env' σ'->B .ret a' w'/\B .normal a' w')->wpList P ops (KQ P B k) L a w
section
variable {C : cf -> cf -> Prop} {P : x7} {R : List D -> St -> Prop} {k : List KI}
theorem B8.cv{ops:Array yy}{L:List yy}{env env':List D}{σ σ':St}(h:Cv env σ env' σ')(hk:B8 C P R k ops L env' σ'):B8 C P R k ops L env σ:=fun E0 E g a w B hC hf hB=>by
 obtain⟨g',hf'⟩:=h E g a w hf
 exact hk E0 E g' a w B hC hf' hB
theorem B8.forget{ops:Array yy}{L:List yy}{env env':List D}{σ:St}(h:I env'=I env/\∀(i:Nat) (d:D),env'[i]?=G d->d=.undef∨env[i]?=G d)(hk:B8 C P R k ops L env' σ):B8 C P R k ops L env σ:=fun E0 E g a w B hC hf hB=>
 hk E0 E g a w B hC ⟨hf.wi,GH hf.env h.1 h.2,hf.defers⟩ hB
theorem B8.op{ops:Array yy}{L:List yy}{o:yy}{env:List D}{σ σ':St}{d:D}(hg:CK env ops o=G true)(h:Aj P o (o.op.operands.toList.map (j8 env)) σ d σ')(hk:B8 C P R k ops L (CA env o.dst d) σ'):B8 C P R k ops (o::L) env σ:=fun E0 E g a w B hC hf hB=>by
 unfold wpList
 rw[HV (CP hf.env hg)]
 refine .inl (h E g a w _ _ hf.wi (P3 hf.wi.rep.gl hf.env _) fun g' w' u hw' hg' hd=>?_)
 exact hk E0 E g' _ _ B hC (hf.put hw' hg' hd o.dst) hB
theorem B8.skip{ops:Array yy}{L:List yy}{o:yy}{env:List D}{σ:St}(hg:CK env ops o=G false)(hk:B8 C P R k ops L (CA env o.dst (.tup [])) σ):B8 C P R k ops (o::L) env σ:=fun E0 E g a w B hC hf hB=>by
 unfold wpList
 rw[HR (by rw[CP hf.env hg];simp)]
 exact hk E0 E g _ _ B hC (hf.put hf.wi g.le_refl (MK g) o.dst) hB
theorem NV{im:List Nat}{r:Nat}{ops:Array yy}{Z:List yy->List (Nat×D)->St->Prop}{K:Sc->List D->St->Prop}{n:Nat}(hZ:∀L sl σ,Z L sl σ->B8 C P R k ops L (ba n sl) σ)(hK:∀s env σ,I env=n->K s env σ->AB C P R k env σ):∀{L:List yy} {i:Nat} {s:Sc} {env:List D} {σ:St},I env=n->Wr P im r ops Z L i s env σ K->B8 C P R k ops L env σ
 |[],i,s,env,σ,hl,h=>by
  obtain⟨s1,env1,σ1,h1,h2,h3⟩:=PA (show pre r i s env σ K from h)
  exact B8.cv h2 fun E0 E g a w B hC hf hB=>by
   unfold wpList;exact hK _ _ _ (h3.trans hl) h1 E0 E g a w B hC hf hB
 |o::L,i,s,env,σ,hl,h=>by
  have h':pre r i s env σ fun s env σ=>match s with
   |.h (.s sl) _=>TZ env sl fun sl=>Z (o::L) sl σ
   |s=>G5 ops i o s env fun b s env=>
    Bool.rec (D8 env o.dst (.tup []) fun env=>Wr P im r ops Z L (Nat.succ i) s env σ K)
     (Tm env o.op.operands.toList fun ds=>il P im o ds σ s fun s d σ _=>D8 env o.dst d fun env=>Wr P im r ops Z L (Nat.succ i) s env σ K) b:=h
  obtain⟨s1,env1,σ1,h1,h2,h3⟩:=PA h'
  refine B8.cv h2 ?_
  have main:(G5 ops i o s1 env1 fun b s env=>
    Bool.rec (D8 env o.dst (.tup []) fun env=>Wr P im r ops Z L (Nat.succ i) s env σ1 K)
     (Tm env o.op.operands.toList fun ds=>il P im o ds σ1 s fun s d σ _=>D8 env o.dst d fun env=>Wr P im r ops Z L (Nat.succ i) s env σ K) b)->B8 C P R k ops (o::L) env1 σ1:=by
   intro h1
   obtain⟨b,s2,h4,h5⟩:=Lw h1
   cases b with
   |false=>
    have h6:D8 env1 o.dst (.tup []) fun env=>Wr P im r ops Z L (Nat.succ i) s2 env σ1 K:=h4
    rw[D0] at h6
    refine B8.skip h5 (NV hZ hK ?_ h6)
    cases o.dst<;>simp[CA,h3,hl]
   |true=>
    have h6:Tm env1 o.op.operands.toList fun ds=>il P im o ds σ1 s2 fun s d σ _=>D8 env1 o.dst d fun env=>Wr P im r ops Z L (Nat.succ i) s env σ K:=h4
    rw[Mk] at h6
    obtain⟨s3,d,σ3,kd,h7,h8⟩:=C5 h6
    rw[D0] at h7
    refine B8.op h5 h8.op (NV hZ hK ?_ h7)
    cases o.dst<;>simp[CA,h3,hl]
  split at h1
  ·obtain⟨sl,h4,h5⟩:=KH h1
   exact B8.forget (MR (h3.trans hl) h5) (hZ _ _ _ h4)
  ·exact main h1
end
inductive DK where
 |q
 |l (j q off n:Nat)
 |e
def DK.eff:DK->Bool
 |.e=>true
 |_=>false
noncomputable def Ajh(rec:List DK)(j:Nat):Option Nat:=
 List.rec (motive:=fun _=>Nat->Nat->Option Nat) (fun _ _=>none) (fun d _ ih i j=>Bool.rec (ih (Nat.succ i) j) (Nat.rec (motive:=fun _=>Option Nat) (G i) (fun j _=>ih (Nat.succ i) j) j) d.eff) rec 0 j
noncomputable def u6(ops:Array yy)(rec:List DK)(i j:Nat):Option Nat:=
 List.rec (motive:=fun _=>Nat->Option Nat) (fun _=>none) (fun _ _ ih j=>match Ajh rec j with
  |none=>none
  |some e=>cond (((EL [] ops.toList).getD e 0).testBit i) (G j) (ih (Nat.succ j))) rec j
noncomputable def xz(lim:Nat->Nat->Option Nat)(i:Nat):DK->Ef
 |.q=>(false,none)
 |.l j _ _ _=>(false,lim i j)
 |.e=>(true,none)
noncomputable def OI(lim:Nat->Nat->Option Nat):Nat->List DK->List Ef
 |_,[]=>[]
 |i,d::ds=>xz lim i d::OI lim (i+1) ds
noncomputable def Og(q off n j:Nat)(c0:Option (List D))(lim:Option Nat)(sts:List St)(c:Nat):Prop:=
 List.rec (motive:=fun _=>Nat->Prop) (fun _=>True) (fun τ _ ih c=>Bool.rec
  (match lim with
   |some b=>Bool.rec (ih (Nat.succ c)) (BI τ q off n=c0/\ih (Nat.succ c)) (Nat.ble c b)
   |none=>BI τ q off n=c0/\ih (Nat.succ c)) (ih (Nat.succ c)) (Nat.beq c j)) sts c
theorem Sz{q off n j:Nat}{c0:Option (List D)}{lim:Option Nat}:∀{sts:List St} {c:Nat},Og q off n j c0 lim sts c->∀x τ,sts[x]?=G τ->c+x≠j->(∀b,lim=G b->c+x<=b)->BI τ q off n=c0
 |[],c,_,x,τ,hx,_,_=>by simp at hx
 |τ0::sts,c,h,x,τ,hx,hj,hb=>by
  have h':Bool.rec (match (generalizing:=false) lim with
   |some b=>Bool.rec (Og q off n j c0 lim sts (Nat.succ c)) (BI τ0 q off n=c0/\Og q off n j c0 lim sts (Nat.succ c)) (Nat.ble c b)
   |none=>BI τ0 q off n=c0/\Og q off n j c0 lim sts (Nat.succ c)) (Og q off n j c0 lim sts (Nat.succ c)) (Nat.beq c j):=h
  have rest:Og q off n j c0 lim sts (Nat.succ c):=by
   cases h1:Nat.beq c j with
   |true=>rw[h1] at h';exact h'
   |false=>
    rw[h1] at h'
    simp only at h'
    cases lim with
    |none=>exact h'.2
    |some b=>
     simp only at h'
     cases h2:Nat.ble c b with
     |true=>rw[h2] at h';exact h'.2
     |false=>rw[h2] at h';exact h'
  cases x with
  |succ x=>exact Sz rest x τ (by simpa using hx) (by simp only[Nat.succ_eq_add_one];omega) (fun b e=>by have:=hb b e;simp only[Nat.succ_eq_add_one];omega)
  |zero=>
   simp at hx;subst hx
   have h1:Nat.beq c j=O:=by
    cases h1:Nat.beq c j with
    |false=>rfl
    |true=>exact absurd (HY h1) (by simpa using hj)
   rw[h1] at h'
   simp only at h'
   cases lim with
   |none=>exact h'.1
   |some b=>
    have:Nat.ble c b=J:=Nat.ble_eq_true_of_le (by simpa using hb b rfl)
    simp only[this] at h'
    exact h'.1
noncomputable def GO(lim:Nat->Nat->Option Nat)(sts:List St)(rec:List DK)(i:Nat):Prop:=
 List.rec (motive:=fun _=>Nat->Prop) (fun _=>True) (fun d _ ih i=>match d with
  |.l j q off n=>(match sts[j]? with
   |some τ=>Og q off n j (BI τ q off n) (lim i j) sts 0/\ih (Nat.succ i)
   |none=>False)
  |_=>ih (Nat.succ i)) rec i
def LV:List DK->Bool
 |[]=>true
 |.l .. ::_=>false
 |_::rec=>LV rec
theorem JV{lim:Nat->Nat->Option Nat}{sts:List St}:∀{rec:List DK} {i:Nat},LV rec=J->GO lim sts rec i
 |[],_,_=>trivial
 |.q::rec,i,h=>JV (rec:=rec) (i:=i+1) h
 |.e::rec,i,h=>JV (rec:=rec) (i:=i+1) h
 |.l .. ::_,_,h=>by simp[LV] at h
noncomputable def nf(s:Sc)(K:Sc->Prop):Prop:=
 Sc.rec (motive:=fun _=>Prop) (K .z) (fun _ ih=>∃a,ih a) (fun s t _ _=>K (.b s t)) (fun h s _=>K (.h h s)) s
theorem Z0{K:Sc->Prop}:∀{s:Sc},nf s K->∃s',K s'
 |.z,h=>⟨_,h⟩
 |.e f,h=>by obtain⟨a,h⟩:=(h:∃a,nf (f a) K);exact Z0 h
 |.b s t,h=>⟨_,h⟩
 |.h i s,h=>⟨_,h⟩
abbrev KD:=List DK->List St->Sc->List D->Prop
noncomputable def i5(P:x7)(im:List Nat)(ops:Array yy)(L:List yy)(rec:List DK)(sts:List St)(j:Nat)(s:Sc)(env:List D)(σ:St)(K:KD):Prop:=
 List.rec (motive:=fun _=>List DK->List St->Nat->Sc->List D->St->Prop) (fun rec sts _ s env _=>K rec sts s env)
  (fun o _ ih rec sts j s env σ=>nf s fun s=>G5 ops (I rec) o s env fun b s env=>
   Bool.rec (D8 env o.dst (.tup []) fun env=>AN rec .q fun rec=>ih rec sts j s env σ)
    (Tm env o.op.operands.toList fun ds=>il P im o ds σ s fun s d σ' kd=>D8 env o.dst d fun env=>match kd with
     |.pure=>AN rec .q fun rec=>ih rec sts j s env σ
     |.load q off n=>AN rec (.l j q off n) fun rec=>ih rec sts j s env σ
     |.eff=>AN rec .e fun rec=>AN sts σ' fun sts=>ih rec sts (Nat.succ j) s env σ') b) L rec sts j s env σ
noncomputable def Ahm(P:x7)(im:List Nat)(ops:Array yy)(s:Sc)(env:List D)(σ:St)(K:Sc->List D->St->Prop):Prop:=
 cond (Nat.blt ops.size 1000000) (i5 P im ops ops.toList [] [σ] 0 s env σ fun rec sts s env=>
  cond (Mm ops (OI (u6 ops rec) 0 rec)) (match sts.getLast? with
   |some σ=>Bool.rec (GO (u6 ops rec) sts rec 0/\K s env σ) (K s env σ) (LV rec)
   |none=>False) False) False
theorem FL{lim:Nat->Nat->Option Nat}{sts:List St}{d:DK}{rec:List DK}{i:Nat}(h:GO lim sts (d::rec) i):GO lim sts rec (i+1):=by
 have h':(match (generalizing:=false) d with
  |.l j q off n=>(match sts[j]? with
   |some τ=>Og q off n j (BI τ q off n) (lim i j) sts 0/\GO lim sts rec (Nat.succ i)
   |none=>False)
  |_=>GO lim sts rec (Nat.succ i)):=h
 split at h'
 ·split at h'
  ·exact h'.2
  ·exact h'.elim
 ·exact h'
theorem C8{P:x7}{o:yy}{env:List D}{σ σ':St}{d:D}(h:Aj P o (o.op.operands.toList.map (j8 env)) σ d σ'):Aj P o (To env o) σ d σ':=by
 intro E g a w K Q hw hds hK
 refine h E g a w K Q hw ?_ hK
 unfold To at hds
 generalize o.op.operands.toList=l at hds⊢
 induction l with
 |nil=>simp[Ad]
 |cons x l ih=>
  simp only[Ia,Ad] at hds⊢
  obtain⟨u,us,e,h1,h2⟩:=hds
  simp only[HN] at e
  obtain⟨rfl,rfl⟩:=e
  refine⟨_,_,rfl,?_,ih h2⟩
  cases x with
  |const u=>exact SR
  |_=>exact h1
theorem Pm{P:x7}{im:List Nat}{ops:Array yy}{n:Nat}{K:KD}(hops:ops.size<1000000):∀{L:List yy} {rec:List DK} {sts:List St} {j:Nat} {s:Sc} {env:List D} {σ:St},I env=n->I sts=j+1->sts[j]?=G σ->i5 P im ops L rec sts j s env σ K->
  ∃rec' sts' s' env' σ',K (rec++rec') (sts++sts') s' env'/\env'.length=n/\rec'.length=I L/\(sts++sts')[j+I sts']?=G σ'/\
   ∀lim:Nat->Nat->Option Nat,GO lim (sts++sts') rec' (I rec)->∃vals,Gz P ops (fun _=>sts++sts') 1000000 L env j vals (OI lim (I rec) rec') env' (j+I sts')
 |[],rec,sts,j,s,env,σ,hn,hl,hs,h=>by
  refine⟨[],[],s,env,σ,?_,hn,rfl,by simpa using hs,fun lim _=>⟨[],.nil⟩⟩
  have h':K rec sts s env:=h
  simpa using h'
 |o::L,rec,sts,j,s,env,σ,hn,hl,hs,h=>by
  have h':nf s fun s=>G5 ops (I rec) o s env fun b s env=>
   Bool.rec (D8 env o.dst (.tup []) fun env=>AN rec .q fun rec=>i5 P im ops L rec sts j s env σ K)
    (Tm env o.op.operands.toList fun ds=>il P im o ds σ s fun s d σ' kd=>D8 env o.dst d fun env=>match kd with
     |.pure=>AN rec .q fun rec=>i5 P im ops L rec sts j s env σ K
     |.load q off n=>AN rec (.l j q off n) fun rec=>i5 P im ops L rec sts j s env σ K
     |.eff=>AN rec .e fun rec=>AN sts σ' fun sts=>i5 P im ops L rec sts (Nat.succ j) s env σ' K) b:=h
  have hne:ops.size- (I L+1)≠1000000:=by omega
  have hput:∀(d:D),I (CA env o.dst d)=n:=fun d=>by cases o.dst<;>simp[CA,hn]
  obtain⟨s0,h'⟩:=Z0 h'
  obtain⟨b,s1,h1,h2⟩:=Lw h'
  cases b with
  |false=>
   have h3:D8 env o.dst (.tup []) fun env=>AN rec .q fun rec=>i5 P im ops L rec sts j s1 env σ K:=h1
   rw[D0,AM] at h3
   obtain⟨rec',sts',s',env',σ',k1,k2,k3,k4,k5⟩:=Pm hops (hput _) hl hs h3
   refine⟨.q::rec',sts',s',env',σ',by simpa using k1,k2,by simp[k3],k4,fun lim hlo=>?_⟩
   obtain⟨vals,hv⟩:=k5 lim (by have:=FL hlo;simpa using this)
   refine⟨_,.skip hne h2 (by simpa[OI] using hv)⟩
  |true=>
   have h3:Tm env o.op.operands.toList fun ds=>il P im o ds σ s1 fun s d σ' kd=>D8 env o.dst d fun env=>match kd with
     |.pure=>AN rec .q fun rec=>i5 P im ops L rec sts j s env σ K
     |.load q off n=>AN rec (.l j q off n) fun rec=>i5 P im ops L rec sts j s env σ K
     |.eff=>AN rec .e fun rec=>AN sts σ' fun sts=>i5 P im ops L rec sts (Nat.succ j) s env σ' K:=h1
   rw[Mk] at h3
   obtain⟨s2,d,σ2,kd,h4,h5⟩:=C5 h3
   rw[D0] at h4
   have hidx:ops.size- (I L+1)≠1000000:=hne
   cases kd with
   |pure=>
    have h6:AN rec .q fun rec=>i5 P im ops L rec sts j s2 (CA env o.dst d) σ K:=h4
    rw[AM] at h6
    obtain⟨rec',sts',s',env',σ',k1,k2,k3,k4,k5⟩:=Pm hops (hput _) hl hs h6
    refine⟨.q::rec',sts',s',env',σ',by simpa using k1,k2,by simp[k3],k4,fun lim hlo=>?_⟩
    obtain⟨vals,hv⟩:=k5 lim (by have:=FL hlo;simpa using this)
    exact⟨_,.quiet hne h2 (fun _ τ _=>C8 (h5.2 τ)) (by simpa[OI] using hv)⟩
   |load q off m=>
    have h6:AN rec (.l j q off m) fun rec=>i5 P im ops L rec sts j s2 (CA env o.dst d) σ K:=h4
    rw[AM] at h6
    obtain⟨rec',sts',s',env',σ',k1,k2,k3,k4,k5⟩:=Pm hops (hput _) hl hs h6
    refine⟨.l j q off m::rec',sts',s',env',σ',by simpa using k1,k2,by simp[k3],k4,fun lim hlo=>?_⟩
    obtain⟨vals,hv⟩:=k5 lim (by have:=FL hlo;simpa using this)
    have hv':Gz P ops (fun _=>sts++sts') 1000000 L (CA env o.dst d) j vals (OI lim (I rec+1) rec') env' (j+I sts'):=by simpa using hv
    have hjs:(sts++sts')[j]?=G σ:=by rw[HW (by omega)];exact hs
    have hsame:∀x τ,(sts++sts')[x]?=G τ->(∀b,lim (I rec) j=G b->x<=b)->Aj P o (To env o) τ d τ:=by
     intro x τ hx hb
     refine C8 (h5.2.2 τ ?_)
     by_cases e:x=j
     ·subst e;rw[hjs] at hx;simp at hx;rw[hx]
     ·have hl0:(match (sts++sts')[j]? with
       |some τ=>Og q off m j (BI τ q off m) (lim (I rec) j) (sts++sts') 0/\GO lim (sts++sts') rec' (Nat.succ (I rec))
       |none=>False):=hlo
      rw[hjs] at hl0
      exact Sz hl0.1 x τ hx (by simpa using e) (fun b hb'=>by simpa using hb b hb')
    cases hlim:lim (I rec) j with
    |none=>
     refine⟨d::vals,?_⟩
     simp only[OI,xz,hlim]
     refine .quiet hne h2 (fun _ τ hτ=>?_) hv'
     obtain⟨x,hx⟩:=List.getElem?_of_mem hτ
     exact hsame x τ hx (fun b hb=>by rw[hlim] at hb;simp at hb)
    |some b=>
     refine⟨d::vals,?_⟩
     simp only[OI,xz,hlim]
     exact .quietW b hne h2 (fun _ c τ hc hτ=>hsame c τ hτ (fun b' hb=>by rw[hlim] at hb;simp at hb;omega)) hv'
   |eff=>
    have h6:AN rec .e fun rec=>AN sts σ2 fun sts=>i5 P im ops L rec sts (Nat.succ j) s2 (CA env o.dst d) σ2 K:=h4
    rw[AM,AM] at h6
    obtain⟨rec',sts',s',env',σ',k1,k2,k3,k4,k5⟩:=Pm hops (hput _) (by simp[hl]) (by rw[HT (by omega)];simp[hl]) h6
    refine⟨.e::rec',σ2::sts',s',env',σ',by simpa using k1,k2,by simp[k3],?_,fun lim hlo=>?_⟩
    ·have e:j+I (σ2::sts')=Nat.succ j+I sts':=by simp;omega
     rw[e];simpa using k4
    ·obtain⟨vals,hv⟩:=k5 lim (by have:=FL hlo;simpa using this)
     have hv':Gz P ops (fun _=>sts++σ2::sts') 1000000 L (CA env o.dst d) (j+1) vals (OI lim (I rec+1) rec') env' (j+I (σ2::sts')):=by
      have e:j+I (σ2::sts')=Nat.succ j+I sts':=by simp;omega
      rw[e];simpa using hv
     refine⟨_,.eff hne h2 (fun _ τ hτ _=>⟨σ2,?_,?_⟩) hv'⟩
     ·rw[HT (by omega)];simp[hl]
     ·rw[HW (by omega),hs] at hτ
      simp at hτ;subst hτ
      exact C8 h5
theorem Abf{C:cf->cf->Prop}{P:x7}{R:List D->St->Prop}{k:List KI}(hm:P.follows .mixedOrders=J){im:List Nat}{id:Nat}{ops:Array yy}{s:Sc}{env:List D}{σ:St}{n:Nat}{K:Sc->List D->St->Prop}(hn:I env=n)
  (hK:∀s env σ,I env=n->K s env σ->AB C P R k env σ) (h:Ahm P im ops s env σ K):AB C P R (.code (.region id ops true)::k) env σ:=by
 obtain⟨h1,h2⟩:=Ap h
 have hops:ops.size<1000000:=Ie h1
 obtain⟨rec,sts,s',env',σ',k1,k2,k3,k4,k5⟩:=Pm hops hn (by simp) (by simp) h2
 obtain⟨h3,h5⟩:=Ap k1
 simp only[nil_append] at h3 h5
 simp only[Iv] at k4
 split at h5
 ·rename_i τ hτ
  have h6:GO (u6 ops rec) ([σ]++sts) rec 0/\K s' env' τ:=by
   cases hb:LV rec with
   |true=>rw[hb] at h5;exact⟨JV hb,h5⟩
   |false=>rw[hb] at h5;exact h5
  obtain⟨h4,h5⟩:=h6
  obtain⟨vals,hv⟩:=k5 (u6 ops rec) (by simpa using h4)
  simp only[Iv] at hv
  have:τ=σ':=by
   rw[List.getLast?_eq_getElem?] at hτ
   rw[show([σ]++sts).length-1=I sts by simp] at hτ
   rw[k4] at hτ;simpa using hτ.symm
  subst this
  refine KS hm (fun _=>[σ]++sts) 1000000 (by simp) k4 hv ?_ (hK _ _ _ k2 h5)
  simpa using h3
 ·exact h5.elim
structure Ld where
 q:Nat
 off:Nat
 n:Nat
 c:Option (List D)
noncomputable def OT(q off n:Nat)(c0:Option (List D))(sts:List St):Prop:=List.rec (motive:=fun _=>Prop) True (fun τ _ ih=>BI τ q off n=c0/\ih) sts
theorem NJ{q off n:Nat}{c0:Option (List D)}:∀{sts:List St},OT q off n c0 sts->∀τ∈sts,BI τ q off n=c0
 |[],_,τ,h=>absurd h (by simp)
 |σ::sts,h,τ,hτ=>by
  have h':BI σ q off n=c0/\OT q off n c0 sts:=h
  rcases Iq.1 hτ with rfl|hτ
  ·exact h'.1
  ·exact NJ h'.2 τ hτ
noncomputable def t7(sts:List St)(l:List Ld):Prop:=List.rec (motive:=fun _=>Prop) True (fun x _ ih=>OT x.q x.off x.n x.c sts/\ih) l
theorem R4{sts:List St}:∀{l:List Ld},t7 sts l->∀x∈l,∀τ∈sts,BI τ x.q x.off x.n=x.c
 |[],_,x,h=>absurd h (by simp)
 |y::l,h,x,hx=>by
  have h':OT y.q y.off y.n y.c sts/\t7 sts l:=h
  rcases Iq.1 hx with rfl|hx
  ·exact NJ h'.1
  ·exact R4 h'.2 x hx
def Ph(cs:List D)(τ:St):St:=⟨τ.H++[G cs],τ.own⟩
def kw(ad τ:St):St:=⟨τ.H++ad.H,ad.own++τ.own⟩
noncomputable def uc(f:St->Prop)(l:List St):Prop:=List.rec (motive:=fun _=>Prop) True (fun τ _ p=>f τ/\p) l
theorem TG{f:St->Prop}:∀{l:List St},uc f l->∀τ∈l,f τ
 |[],_,τ,h=>by simp at h
 |x::l,h,τ,hτ=>by
  have h:f x/\uc f l:=h
  rcases Iq.1 hτ with rfl|hτ
  ·exact h.1
  ·exact TG h.2 τ hτ
abbrev KD2:=List St->List St->List Ld->List Ef->Sc->List D->Prop
noncomputable def WX(P:x7)(im:List Nat)(ops:Array yy)(fr:Nat)(ad:St)(K:KD2)(L:List yy):Nat->Bool->(St->St->Prop)->List St->List St->List Ld->List Ef->Sc->List D->St->St->Prop:=
 List.rec (motive:=fun _=>Nat->Bool->(St->St->Prop)->List St->List St->List Ld->List Ef->Sc->List D->St->St->Prop) (fun _ _ _ LF LT lds ef s env _ _=>K LF LT lds ef s env)
  (fun o _ ih i af pd LF LT lds ef s env σF σT=>nf s fun s=>G5 ops i o s env fun b s env=>
   Bool.rec
    (Bool.rec (D8 env o.dst (.tup []) fun env=>AN ef (false,none) fun ef=>ih (Nat.succ i) af pd LF LT lds ef s env σF σT) False (Nat.beq i fr))
    (Bool.rec
     (Tm env o.op.operands.toList fun ds=>il P im o ds (Bool.rec σF σT af) s fun s1 d σ1 kd=>match kd with
      |.pure=>D8 env o.dst d fun env=>AN ef (false,none) fun ef=>ih (Nat.succ i) af pd LF LT lds ef s1 env σF σT
      |.load q off n=>D8 env o.dst d fun env=>AN ef (false,none) fun ef=>AN lds ⟨q,off,n,BI (Bool.rec σF σT af) q off n⟩ fun lds=>ih (Nat.succ i) af pd LF LT lds ef s1 env σF σT
      |.eff=>Bool.rec
       (il P im o ds σT s fun _ d2 σ2 kd2=>match kd2 with
        |.eff=>d2=d/\D8 env o.dst d fun env=>AN ef (true,none) fun ef=>AN LF σ1 fun LF=>AN LT σ2 fun LT=>ih (Nat.succ i) af pd LF LT lds ef s1 env σ1 σ2
        |_=>False)
       (cond (Vl ops i fr) (D8 env o.dst d fun env=>AN ef (true,none) fun ef=>AN LT σ1 fun LT=>ih (Nat.succ i) af pd LF LT lds ef s1 env σF σ1)
        (cond (Nat.beq (I LF) (I LT)) (il P im o ds σF s fun _ d2 σ2 kd2=>match kd2 with
         |.eff=>d2=d/\pd σ2 σ1/\D8 env o.dst d fun env=>AN ef (true,none) fun ef=>AN LF σ2 fun LF=>AN LT σ1 fun LT=>ih (Nat.succ i) af pd LF LT lds ef s1 env σ2 σ1
         |_=>False) False)) af)
     (match (generalizing:=false) o.op,af with
      |.alloc e,false=>(match NO P e with
       |some xs=>cond (LF.all fun τ=>Nat.beq (I τ.H) (I σF.H)) (LT=LF.map (Ph (xs.map .v))/\D8 env o.dst (.ptr (I σF.H) 0) fun env=>AN ef (false,none) fun ef=>ih (Nat.succ i) true (fun τ τ1=>τ1=Ph (xs.map .v) τ/\τ.H.length=I σF.H) LF LT lds ef s env σF σT) False
       |none=>False)
      |_,false=>(match s with
       |.h (.o d _) s=>Tm env o.op.operands.toList fun ds=>LT=LF.map (kw ad)/\uc (fun τ=>Aj P o ds τ d (kw ad τ)) LF/\D8 env o.dst d fun env=>AN ef (false,none) fun ef=>ih (Nat.succ i) true (fun τ τ1=>τ1=kw ad τ/\Aj P o ds τ d (kw ad τ)) LF LT lds ef s env σF σT
       |_=>False)
      |_,_=>False) (Nat.beq i fr)) b) L
theorem E9{P:x7}{im:List Nat}{ops:Array yy}{fr n:Nat}{ad:St}{K:KD2}:∀{L:List yy} {i:Nat} {af:Bool} {pd:St->St->Prop} {LF LT:List St} {lds:List Ld} {ef:List Ef} {s:Sc} {env:List D} {σF σT:St} {j:Nat},I env=n->i+I L=ops.size->I LT=j+1->LT[j]?=G σT->
  (af=O->I LF=j+1)->(I LF=j+1->LF[j]?=G σF)->I LF<=j+1->WX P im ops fr ad K L i af pd LF LT lds ef s env σF σT->
  ∃LF' LT' lds' ef' s' env' σ',K (LF++LF') (LT++LT') (lds++lds') (ef++ef') s' env'/\env'.length=n/\(LT++LT')[j+I LT']?=G σ'/\(af=J->(I LF=I LT∨LF'=[])/\∀(c:Nat) (τ:St),LF'[c]?=G τ->∃τ1,LT'[c]?=G τ1/\pd τ τ1)/\
   ((∀x∈lds',∀τ∈ (LF++LF')++(LT++LT'),BI τ x.q x.off x.n=x.c)->∃vals,Gz P ops (CL (LF++LF') (LT++LT')) fr L env j vals ef' env' (j+I LT'))
 |[],i,af,pd,LF,LT,lds,ef,s,env,σF,σT,j,hn,hi,hl,hs,hF,hF2,hF3,h=>by
  refine⟨[],[],[],[],s,env,σT,?_,hn,by simpa using hs,fun _=>⟨.inr rfl,fun c τ hc=>by simp at hc⟩,fun _=>⟨[],.nil⟩⟩
  have h':K LF LT lds ef s env:=h
  simpa using h'
 |o::L,i,af,pd,LF,LT,lds,ef,s,env,σF,σT,j,hn,hi,hl,hs,hF,hF2,hF3,h=>by
  have h':nf s fun s=>G5 ops i o s env fun b s env=>
   Bool.rec
    (Bool.rec (D8 env o.dst (.tup []) fun env=>AN ef (false,none) fun ef=>WX P im ops fr ad K L (Nat.succ i) af pd LF LT lds ef s env σF σT) False (Nat.beq i fr))
    (Bool.rec
     (Tm env o.op.operands.toList fun ds=>il P im o ds (Bool.rec σF σT af) s fun s1 d σ1 kd=>match kd with
      |.pure=>D8 env o.dst d fun env=>AN ef (false,none) fun ef=>WX P im ops fr ad K L (Nat.succ i) af pd LF LT lds ef s1 env σF σT
      |.load q off n=>D8 env o.dst d fun env=>AN ef (false,none) fun ef=>AN lds ⟨q,off,n,BI (Bool.rec σF σT af) q off n⟩ fun lds=>WX P im ops fr ad K L (Nat.succ i) af pd LF LT lds ef s1 env σF σT
      |.eff=>Bool.rec
       (il P im o ds σT s fun _ d2 σ2 kd2=>match kd2 with
        |.eff=>d2=d/\D8 env o.dst d fun env=>AN ef (true,none) fun ef=>AN LF σ1 fun LF=>AN LT σ2 fun LT=>WX P im ops fr ad K L (Nat.succ i) af pd LF LT lds ef s1 env σ1 σ2
        |_=>False)
       (cond (Vl ops i fr) (D8 env o.dst d fun env=>AN ef (true,none) fun ef=>AN LT σ1 fun LT=>WX P im ops fr ad K L (Nat.succ i) af pd LF LT lds ef s1 env σF σ1)
        (cond (Nat.beq (I LF) (I LT)) (il P im o ds σF s fun _ d2 σ2 kd2=>match kd2 with
         |.eff=>d2=d/\pd σ2 σ1/\D8 env o.dst d fun env=>AN ef (true,none) fun ef=>AN LF σ2 fun LF=>AN LT σ1 fun LT=>WX P im ops fr ad K L (Nat.succ i) af pd LF LT lds ef s1 env σ2 σ1
         |_=>False) False)) af)
     (match (generalizing:=false) o.op,af with
      |.alloc e,false=>(match NO P e with
       |some xs=>cond (LF.all fun τ=>Nat.beq (I τ.H) (I σF.H)) (LT=LF.map (Ph (xs.map .v))/\D8 env o.dst (.ptr (I σF.H) 0) fun env=>AN ef (false,none) fun ef=>WX P im ops fr ad K L (Nat.succ i) true (fun τ τ1=>τ1=Ph (xs.map .v) τ/\τ.H.length=I σF.H) LF LT lds ef s env σF σT) False
       |none=>False)
      |_,false=>(match s with
       |.h (.o d _) s=>Tm env o.op.operands.toList fun ds=>LT=LF.map (kw ad)/\uc (fun τ=>Aj P o ds τ d (kw ad τ)) LF/\D8 env o.dst d fun env=>AN ef (false,none) fun ef=>WX P im ops fr ad K L (Nat.succ i) true (fun τ τ1=>τ1=kw ad τ/\Aj P o ds τ d (kw ad τ)) LF LT lds ef s env σF σT
       |_=>False)
      |_,_=>False) (Nat.beq i fr)) b:=h
  clear h
  have hidx:ops.size- (I L+1)=i:=by simp at hi;omega
  have hi':Nat.succ i+I L=ops.size:=by simp at hi;omega
  have hput:∀(d:D),I (CA env o.dst d)=n:=fun d=>by cases o.dst<;>simp[CA,hn]
  obtain⟨s0,h'⟩:=Z0 h'
  obtain⟨b,s1,h1,h2⟩:=Lw h'
  have snoc2:∀{α:Type} (a:List α) (x:α) (r:List α),a++[x]++r=a++x::r:=fun a x r=>by simp
  cases b with
  |false=>
   cases hb:Nat.beq i fr with
   |true=>simp only[hb] at h1
   |false=>
    have hne:ops.size- (I L+1)≠fr:=by rw[hidx];exact fun e=>by rw[e,Nat.beq_refl] at hb;simp at hb
    simp only[hb] at h1
    rw[D0,AM] at h1
    obtain⟨LF',LT',lds',ef',s',env',σ',k1,k2,k3,k4,k5⟩:=E9 (hput _) hi' hl hs hF hF2 hF3 h1
    refine⟨LF',LT',lds',(false,none)::ef',s',env',σ',by simpa using k1,k2,k3,k4,fun hlo=>?_⟩
    obtain⟨vals,hv⟩:=k5 hlo
    exact⟨_,.skip hne h2 hv⟩
  |true=>
   cases hb:Nat.beq i fr with
   |true=>
    simp only[hb] at h1
    split at h1
    ·rename_i e heq _
     split at h1
     ·rename_i xs hz
      obtain⟨hall,h3,h4⟩:=Ap h1
      rw[D0,AM] at h4
      have hF1:=hF rfl
      obtain⟨LF',LT',lds',ef',s',env',σ',k1,k2,k3,k4,k5⟩:=E9 (af:=true) (hput _) hi' hl hs (fun e=>by simp at e) hF2 hF3 h4
      refine⟨LF',LT',lds',(false,none)::ef',s',env',σ',by simpa using k1,k2,k3,fun e=>by simp at e,fun hlo=>?_⟩
      obtain⟨vals,hv⟩:=k5 hlo
      have hLF:=(k4 rfl).2
      refine⟨_,.free (by rw[hidx];exact(HY hb).symm) h2 (fun c τ hc=>?_) hv⟩
      have hc:(LF++LF')[c]?=G τ:=by simpa[CL] using hc
      have hopA:∀τ:St,I τ.H=I σF.H->Aj P o (To env o) τ (.ptr (I σF.H) 0) (Ph (xs.map .v) τ):=fun τ hlen=>by
       rw[←hlen]
       have:=LQ (P:=P) (o:=o) (σ:=τ) heq hz
       exact C8 (by simpa[heq,Op.operands,Ph] using this)
      rcases Nat.lt_or_ge c (I LF) with hcl|hcl
      rotate_left
      ·rw[HT (by omega)] at hc
       obtain⟨τ1,g1,rfl,g3⟩:=hLF _ _ hc
       refine⟨_,?_,hopA τ g3⟩
       simp only[CL]
       rw[HT (by omega),show c-I LT=c-I LF by omega];exact g1
      rw[HW hcl] at hc
      refine⟨Ph (xs.map .v) τ,?_,?_⟩
      ·have:LT[c]?=G (Ph (xs.map .v) τ):=by rw[h3,Ir,hc];rfl
       have hlt:=(HD.1 this).1
       simp only[CL]
       rw[HW hlt];exact this
      ·have hlen:=Iw.1 hall τ (HG hc)
       have hlen:=HY hlen
       exact hopA τ hlen
     ·exact h1.elim
    ·split at h1
     ·rename_i d _ s2
      rw[Mk] at h1
      obtain⟨h3,hop,h4⟩:=h1
      rw[D0,AM] at h4
      have hF1:=hF rfl
      obtain⟨LF',LT',lds',ef',s',env',σ',k1,k2,k3,k4,k5⟩:=E9 (af:=true) (hput _) hi' hl hs (fun e=>by simp at e) hF2 hF3 h4
      refine⟨LF',LT',lds',(false,none)::ef',s',env',σ',by simpa using k1,k2,k3,fun e=>by simp at e,fun hlo=>?_⟩
      obtain⟨vals,hv⟩:=k5 hlo
      have hLF:=(k4 rfl).2
      refine⟨_,.free (by rw[hidx];exact(HY hb).symm) h2 (fun c τ hc=>?_) hv⟩
      have hc:(LF++LF')[c]?=G τ:=by simpa[CL] using hc
      rcases Nat.lt_or_ge c (I LF) with hcl|hcl
      rotate_left
      ·rw[HT (by omega)] at hc
       obtain⟨τ1,g1,rfl,g3⟩:=hLF _ _ hc
       refine⟨_,?_,C8 g3⟩
       simp only[CL]
       rw[HT (by omega),show c-I LT=c-I LF by omega];exact g1
      rw[HW hcl] at hc
      refine⟨kw ad τ,?_,C8 (TG hop τ (HG hc))⟩
      have:LT[c]?=G (kw ad τ):=by rw[h3,Ir,hc];rfl
      have hlt:=(HD.1 this).1
      simp only[CL]
      rw[HW hlt];exact this
     ·exact h1.elim
    ·exact h1.elim
   |false=>
    have hne:ops.size- (I L+1)≠fr:=by rw[hidx];exact fun e=>by rw[e,Nat.beq_refl] at hb;simp at hb
    simp only[hb] at h1
    rw[Mk] at h1
    obtain⟨s2,d,σ1,kd,h4,h5⟩:=C5 h1
    cases kd with
    |pure=>
     simp only at h4
     rw[D0,AM] at h4
     obtain⟨LF',LT',lds',ef',s',env',σ',k1,k2,k3,k4,k5⟩:=E9 (hput _) hi' hl hs hF hF2 hF3 h4
     refine⟨LF',LT',lds',(false,none)::ef',s',env',σ',by simpa using k1,k2,k3,k4,fun hlo=>?_⟩
     obtain⟨vals,hv⟩:=k5 hlo
     exact⟨_,.quiet hne h2 (fun _ τ _=>C8 (h5.2 τ)) hv⟩
    |load q off m=>
     simp only at h4
     rw[D0,AM,AM] at h4
     obtain⟨LF',LT',lds',ef',s',env',σ',k1,k2,k3,k4,k5⟩:=E9 (hput _) hi' hl hs hF hF2 hF3 h4
     refine⟨LF',LT',_::lds',(false,none)::ef',s',env',σ',by simpa using k1,k2,k3,k4,fun hlo=>?_⟩
     obtain⟨vals,hv⟩:=k5 (fun x hx=>hlo x (List.mem_cons_of_mem _ hx))
     refine⟨_,.quiet hne h2 (fun b τ hτ=>C8 (h5.2.2 τ ?_)) hv⟩
     refine hlo _ (List.mem_cons_self ..) τ ?_
     cases b
     ·exact Ix.2 (.inl (by simpa[CL] using hτ))
     ·exact Ix.2 (.inr (by simpa[CL] using hτ))
    |eff=>
     cases af with
     |true=>
      simp only at h4
      cases hnd:Vl ops i fr with
      |true=>
       rw[hnd,cond_true] at h4
       have hneed:=hnd
       rw[D0,AM,AM] at h4
       obtain⟨LF',LT',lds',ef',s',env',σ',k1,k2,k3,k4,k5⟩:=E9 (j:=j+1) (hput _) hi' (by simp[hl]) (by rw[HT (by omega)];simp[hl]) (fun e=>by simp at e) (fun e=>by omega) (by omega) h4
       have e1:j+I (σ1::LT')=j+1+I LT':=by simp;omega
       have hLF0:LF'=[]:=by
        rcases(k4 rfl).1 with h|h
        ·simp only[HO,HF,HJ] at h;omega
        ·exact h
       rw[snoc2] at k1 k3
       refine⟨LF',σ1::LT',lds',(true,none)::ef',s',env',σ',by simpa using k1,k2,by rw[e1];exact k3,fun _=>⟨.inr hLF0,fun c τ hc=>by rw[hLF0] at hc;simp at hc⟩,fun hlo=>?_⟩
       obtain⟨vals,hv⟩:=k5 (by rw[snoc2];exact hlo)
       rw[snoc2] at hv
       rw[e1]
       refine⟨_,.eff hne h2 (fun b τ hτ hneedF=>?_) hv⟩
       cases b with
       |false=>have:=hneedF rfl;rw[hidx,hneed] at this;simp at this
       |true=>
        have hτ:(LT++σ1::LT')[j]?=G τ:=by simpa[CL] using hτ
        rw[HW (by omega),hs] at hτ
        simp at hτ;subst hτ
        refine⟨σ1,?_,C8 h5⟩
        simp only[CL]
        rw[HT (by omega)];simp[hl]
      |false=>
       rw[hnd,cond_false] at h4
       obtain⟨hlen,h4⟩:=Ap h4
       have hlen:=HY hlen
       have hF1:I LF=j+1:=by omega
       obtain⟨s3,d2,σ2,kd2,h6,h7⟩:=C5 h4
       cases kd2 with
       |pure=>exact h6.elim
       |load=>exact h6.elim
       |eff=>
        obtain⟨rfl,hpd,h6⟩:=h6
        rw[D0,AM,AM,AM] at h6
        obtain⟨LF',LT',lds',ef',s',env',σ',k1,k2,k3,k4,k5⟩:=E9 (af:=true) (j:=j+1) (hput _) hi' (by simp[hl]) (by rw[HT (by omega)];simp[hl]) (fun _=>by simp[hF1]) (fun _=>by rw[HT (by omega)];simp[hF1]) (by simp[hF1]) h6
        have e1:j+I (σ1::LT')=j+1+I LT':=by simp;omega
        rw[snoc2] at k3
        rw[snoc2,snoc2] at k1
        refine⟨σ2::LF',σ1::LT',lds',(true,none)::ef',s',env',σ',by simpa using k1,k2,by rw[e1];exact k3,fun _=>⟨.inl hlen,fun c τ hc=>?k4⟩,fun hlo=>?_⟩
        case k4=>
         cases c with
         |zero=>simp at hc;subst hc;exact⟨σ1,rfl,hpd⟩
         |succ c=>exact(k4 rfl).2 c τ (by simpa using hc)
        obtain⟨vals,hv⟩:=k5 (by rw[snoc2,snoc2];exact hlo)
        rw[snoc2,snoc2] at hv
        rw[e1]
        refine⟨_,.eff hne h2 (fun b τ hτ _=>?_) hv⟩
        cases b with
        |false=>
         have hτ:(LF++σ2::LF')[j]?=G τ:=by simpa[CL] using hτ
         rw[HW (by omega),hF2 hF1] at hτ
         simp at hτ;subst hτ
         refine⟨σ2,?_,C8 h7⟩
         simp only[CL]
         rw[HT (by omega)];simp[hF1]
        |true=>
         have hτ:(LT++σ1::LT')[j]?=G τ:=by simpa[CL] using hτ
         rw[HW (by omega),hs] at hτ
         simp at hτ;subst hτ
         refine⟨σ1,?_,C8 h5⟩
         simp only[CL]
         rw[HT (by omega)];simp[hl]
     |false=>
      simp only at h4
      have hF1:=hF rfl
      obtain⟨s3,d2,σ2,kd2,h6,h7⟩:=C5 h4
      cases kd2 with
      |pure=>exact h6.elim
      |load=>exact h6.elim
      |eff=>
       obtain⟨rfl,h6⟩:=h6
       rw[D0,AM,AM,AM] at h6
       obtain⟨LF',LT',lds',ef',s',env',σ',k1,k2,k3,k4,k5⟩:=E9 (af:=false) (j:=j+1) (hput _) hi' (by simp[hl]) (by rw[HT (by omega)];simp[hl]) (fun _=>by simp[hF1]) (fun _=>by rw[HT (by omega)];simp[hF1]) (by simp[hF1]) h6
       have e1:j+I (σ2::LT')=j+1+I LT':=by simp;omega
       rw[snoc2] at k3
       rw[snoc2,snoc2] at k1
       refine⟨σ1::LF',σ2::LT',lds',(true,none)::ef',s',env',σ',by simpa using k1,k2,by rw[e1];exact k3,fun e=>by simp at e,fun hlo=>?_⟩
       obtain⟨vals,hv⟩:=k5 (by rw[snoc2,snoc2];exact hlo)
       rw[snoc2,snoc2] at hv
       rw[e1]
       refine⟨_,.eff hne h2 (fun b τ hτ _=>?_) hv⟩
       cases b with
       |false=>
        have hτ:(LF++σ1::LF')[j]?=G τ:=by simpa[CL] using hτ
        rw[HW (by omega),hF2 hF1] at hτ
        simp at hτ;subst hτ
        refine⟨σ1,?_,C8 h5⟩
        simp only[CL]
        rw[HT (by omega)];simp[hF1]
       |true=>
        have hτ:(LT++σ2::LT')[j]?=G τ:=by simpa[CL] using hτ
        rw[HW (by omega),hs] at hτ
        simp at hτ;subst hτ
        refine⟨σ2,?_,C8 h7⟩
        simp only[CL]
        rw[HT (by omega)];simp[hl]
noncomputable def Aej(P:x7)(im:List Nat)(ops:Array yy)(fr:Nat)(s:Sc)(env:List D)(σ:St)(K:Sc->List D->St->Prop):Prop:=
 cond (Nat.blt fr ops.size) (match (ops[fr]?).map Oper.op with
  |some (.alloc e)=>(match NO P e with
   |some xs=>AY (xs.map .v) fun cs=>AN σ.H (G cs) fun H=>WX P im ops fr σ (fun LF LT lds ef s env=>cond (Mm ops ef) (match LT.getLast? with
    |some τ=>t7 (LF++LT) lds/\K s env τ
    |none=>False) False) ops.toList 0 false (fun _ _=>False) [σ] [⟨H,σ.own⟩] [] [] s env σ ⟨H,σ.own⟩
   |none=>False)
  |_=>(match s with
   |.h (.cs ad) s=>AY (σ.H++ad.H) fun H=>AY (ad.own++σ.own) fun own=>WX P im ops fr ad (fun LF LT lds ef s env=>cond (Mm ops ef) (match LT.getLast? with
    |some τ=>t7 (LF++LT) lds/\K s env τ
    |none=>False) False) ops.toList 0 false (fun _ _=>False) [σ] [⟨H,own⟩] [] [] s env σ ⟨H,own⟩
   |_=>False)) False
theorem WW{C:cf->cf->Prop}{P:x7}{R:List D->St->Prop}{k:List KI}(hm:P.follows .mixedOrders=J){im:List Nat}{id:Nat}{ops:Array yy}{fr:Nat}{s:Sc}{env:List D}{σ:St}{n:Nat}{K:Sc->List D->St->Prop}(hn:I env=n)
  (hK:∀s env σ,I env=n->K s env σ->AB C P R k env σ) (h:Aej P im ops fr s env σ K):AB C P R (.code (.region id ops true)::k) env σ:=by
 obtain⟨h1,h2⟩:=Ap h
 have hfr:fr<ops.size:=Ie h1
 split at h2
 ·split at h2
  ·rename_i xs hz
   rw[AO,AM] at h2
   obtain⟨LF',LT',lds',ef',s',env',σ',k1,k2,k3,k4,k5⟩:=E9 (j:=0) hn (by simp) (by simp) (by simp) (fun _=>by simp) (fun _=>by simp) (by simp) h2
   obtain⟨h3,h5⟩:=Ap k1
   simp only[nil_append] at h3 h5
   simp only[Iv] at k3
   split at h5
   ·rename_i τ hτ
    obtain⟨h4,h5⟩:=h5
    obtain⟨vals,hv⟩:=k5 (R4 h4)
    simp only[Iv] at hv
    have:τ=σ':=by
     rw[List.getLast?_eq_getElem?] at hτ
     rw[show([(⟨σ.H++[G (xs.map .v)],σ.own⟩:St)]++LT').length-1=I LT' by simp] at hτ
     rw[k3] at hτ;simpa using hτ.symm
    subst this
    refine KS hm (CL ([σ]++LF') ([⟨σ.H++[G (xs.map .v)],σ.own⟩]++LT')) fr (by simp[CL]) (by rw[HC hfr];simpa[CL] using k3) hv ?_ (hK _ _ _ k2 h5)
    simpa using h3
   ·exact h5.elim
  ·exact h2.elim
 ·split at h2
  ·rename_i ad s2
   rw[AO,AO] at h2
   obtain⟨LF',LT',lds',ef',s',env',σ',k1,k2,k3,k4,k5⟩:=E9 (j:=0) hn (by simp) (by simp) (by simp) (fun _=>by simp) (fun _=>by simp) (by simp) h2
   obtain⟨h3,h5⟩:=Ap k1
   simp only[nil_append] at h3 h5
   simp only[Iv] at k3
   split at h5
   ·rename_i τ hτ
    obtain⟨h4,h5⟩:=h5
    obtain⟨vals,hv⟩:=k5 (R4 h4)
    simp only[Iv] at hv
    have:τ=σ':=by
     rw[List.getLast?_eq_getElem?] at hτ
     rw[show([(⟨σ.H++ad.H,ad.own++σ.own⟩:St)]++LT').length-1=I LT' by simp] at hτ
     rw[k3] at hτ;simpa using hτ.symm
    subst this
    refine KS hm (CL ([σ]++LF') ([⟨σ.H++ad.H,ad.own++σ.own⟩]++LT')) fr (by simp[CL]) (by rw[HC hfr];simpa[CL] using k3) hv ?_ (hK _ _ _ k2 h5)
    simpa using h3
   ·exact h5.elim
  ·exact h2.elim
noncomputable def Si(P:x7)(im:List Nat)(ops:Array yy)(s:Sc)(env:List D)(σ:St)(K:Sc->List D->St->Prop):Prop:=match s with
 |.h (.dr fr) s=>Aej P im ops fr s env σ K
 |s=>Ahm P im ops s env σ K
theorem WV{C:cf->cf->Prop}{P:x7}{R:List D->St->Prop}{k:List KI}(hm:P.follows .mixedOrders=J){im:List Nat}{id:Nat}{ops:Array yy}{s:Sc}{env:List D}{σ:St}{n:Nat}{K:Sc->List D->St->Prop}(hn:I env=n)
  (hK:∀s env σ,I env=n->K s env σ->AB C P R k env σ) (h:Si P im ops s env σ K):AB C P R (.code (.region id ops true)::k) env σ:=by
 unfold Si at h
 split at h
 ·exact WW hm hn hK h
 ·exact Abf hm hn hK h
noncomputable def lu(ts:List Nat)(own:List (Nat×Nat×List V)):List (Nat×Nat×List V):=own.filter fun x=>ts.contains x.1
structure It(p:Prop):Prop where
 it:p
def RA{α:Type}(a b:List α)(K:Prop):Prop:=match a with
 |[]=>K
 |x::a=>b=x::a/\K
theorem Gs{α:Type}{a b:List α}{K:Prop}(h:RA a b K)(h0:a=[]->b=[]):b=a/\K:=by
 cases a with
 |nil=>exact⟨h0 rfl,h⟩
 |cons x a=>exact h
def uz(op:Bool)(b:Bool)(K:Prop):Prop:=match op with
 |true=>b=J/\K
 |false=>cond b K False
theorem Rz{op b:Bool}{K:Prop}(h:uz op b K):b=J/\K:=by
 cases op
 ·exact Ap h
 ·exact h
noncomputable def WS(C:cf->cf->Prop)(m:Nat)(P:x7)(R:List D->St->Prop)(nt:Nat)(k:List KI)(sl:List (Nat×Option D))(σ':Option St)(op:Bool)(env:List D)(σ:St):Prop:=
 TZ env sl fun L=>match σ' with
  |none=>It (AB C P R k (ba nt L) σ)
  |some σ'=>cond (Nat.ble m (I σ'.H)&&Nat.ble (I σ'.H) (I σ.H)&&D.okNs (I σ'.H) (σ'.own.map (·.1)) (L.map (·.2))) (uz op (cm (I σ'.H) (σ'.own.map (·.1)) (σ.H.take (I σ'.H)))
    (RA σ'.H (σ.H.take (I σ'.H)) (RA σ'.own (lu (σ'.own.map (·.1)) σ.own) (It (AB C P R k (ba nt L) σ'))))) False
theorem SN{h:Nat}{ts:List Nat}:∀{L:List (Nat×D)} {e:List D},D.okNs h ts (L.map (·.2))=J->D.okNs h ts e=J->D.okNs h ts (L.foldl (fun e p=>e.set p.1 p.2) e)=J
 |[],e,_,he=>he
 |p::L,e,hL,he=>by
  simp only[Ia,D.okNs,HB] at hL
  refine SN (L:=L) hL.2 ?_
  have:∀(e:List D) (i:Nat),D.okNs h ts e=J->D.okNs h ts (e.set i p.2)=J:=by
   intro e
   induction e with
   |nil=>intro i h;simpa using h
   |cons a e ih=>
    intro i h
    simp only[D.okNs,HB] at h
    cases i with
    |zero=>simp only[List.set_cons_zero,D.okNs,HB];exact⟨hL.1,h.2⟩
    |succ i=>simp only[IW,D.okNs,HB];exact⟨h.1,ih i h.2⟩
  exact this e p.1 he
theorem MQ{h:Nat}{ts:List Nat}:∀n:Nat,D.okNs h ts (replicate n .undef)=J
 |0=>rfl
 |n+1=>by simp only[I4,D.okNs,D.okN,Ij];exact MQ n
section
variable {P : x7} {R : List D -> St -> Prop} {k : List KI}
theorem KK{C:cf->cf->Prop}{m:Nat}(hCm:∀E0 E,C E0 E->E.g.n<=m){nt:Nat}{sl:List (Nat×Option D)}{σ':Option St}{op:Bool}{env:List D}{σ:St}(hn:I env=nt)(h:WS C m P R nt k sl σ' op env σ):AB C P R k env σ:=by
 obtain⟨L,h1,h2⟩:=KH h
 obtain⟨hl,hg⟩:=MR hn h2
 cases σ' with
 |none=>exact JP hl hg h1.it
 |some σ'=>
  obtain⟨h3,h1⟩:=Ap h1
  obtain⟨h8,h1⟩:=Rz h1
  have h7:σ.H.take (I σ'.H)=σ'.H/\lu (σ'.own.map (·.1)) σ.own=σ'.own/\It (AB C P R k (ba nt L) σ'):=by
   obtain⟨e1,h1⟩:=Gs h1 (fun e=>by rw[e];rfl)
   obtain⟨e2,h1⟩:=Gs h1 (fun e=>by rw[e];unfold lu;rw[List.filter_eq_nil_iff];simp)
   exact⟨e1,e2,h1⟩
  obtain⟨h4,h5,h6⟩:=h7
  simp only[HB] at h3
  refine JP hl hg (Ah9 hCm (h:=I σ'.H) h4.symm (Ie h3.1.2) (Ie h3.1.1) (SN h3.2 (MQ nt)) (by have:=h8;rwa[h4] at this) ?_ h6.it)
  rw[←h5];exact List.filter_sublist
noncomputable def xh(x:x8)(s:Sc)(env:List D)(K:Bool->Sc->List D->Prop):Prop:=match x with
 |.tmp t=>Fi env t fun d=>match d with
  |.v (.bool b)=>u5 s b (G t) env K
  |_=>False
 |.const (.bool b)=>K b s env
 |_=>False
theorem Abg{x:x8}{s:Sc}{env:List D}{K:Bool->Sc->List D->Prop}(h:xh x s env K):∃b s',K b s' env/\iu env x=.v (.bool b):=by
 unfold xh at h
 split at h
 ·rename_i t
  rw[Dn] at h
  split at h
  ·rename_i b hd
   obtain⟨s',h1⟩:=Sk h (fun t' e=>by simp at e;subst e;exact getD_some hd (by simp))
   exact⟨b,s',h1,hd⟩
  ·exact h.elim
 ·exact⟨_,_,h,rfl⟩
 ·exact h.elim
noncomputable def vw(C:cf->cf->Prop)(m:Nat)(P:x7)(R:List D->St->Prop)(rk:Nat->List D->St->Prop)(nt:Nat)(im:List Nat)(T:List KI)(ih:Sc->List KI->List D->St->Prop)(ks:List KI)(s:Sc)(env:List D)(σ:St):Prop:=match ks with
  |[]=>(match s with
   |.h (.l sl σ') _=>WS C m P R nt T sl σ' false env σ
   |.h (.lo sl σ') _=>WS C m P R nt T sl (G σ') true env σ
   |.h .r _=>T=[]/\rk 0 env σ
   |.h .rn _=>T=[]/\rk 1 env σ
   |.h .ro _=>T=[]/\rk 2 env σ
   |.h .rd _=>T=[]/\rk 3 env σ
   |_=>False)
  |.blk _::ks=>ih s ks env σ
  |.lp c::ks=>(match s with
   |.h (.l sl σ') _=>WS C m P R nt (.lp c::(ks++T)) sl σ' false env σ
   |.h (.lo sl σ') _=>WS C m P R nt (.lp c::(ks++T)) sl (G σ') true env σ
   |.h .n s=>ih s (.code c:: .lp c::ks) env σ
   |_=>False)
  |.code c::ks=>(match c with
   |.seq x y=>ih s (.code x:: .code y::ks) env σ
   |.skip=>ih s ks env σ
   |.label _=>ih s ks env σ
   |.block id x=>ih s (.code x:: .blk id::ks) env σ
   |.loop x=>ih s (.lp x::ks) env σ
   |.exit id=>(match Hm id ks with
    |some ks'=>ih s ks' env σ
    |none=>False)
   |.ret=>(match s with
    |.h .r _=>rk 0 env σ
    |.h .rn _=>rk 1 env σ
    |.h .ro _=>rk 2 env σ
    |.h .rd _=>rk 3 env σ
    |_=>False)
   |.cond t x y=>xh t s env fun b s env=>Bool.rec (ih s (.code y::ks) env σ) (ih s (.code x::ks) env σ) b
   |.region r ops d=>Bool.rec (Wr P im r ops (fun L sl σ=>It (B8 C P R (ks++T) ops L (ba nt sl) σ)) ops.toList 0 s env σ fun s env σ=>ih s ks env σ) (Si P im ops s env σ fun s env σ=>ih s ks env σ) d
   |_=>False)
noncomputable def vc(C:cf->cf->Prop)(m:Nat)(P:x7)(R:List D->St->Prop)(rk:Nat->List D->St->Prop)(nt:Nat)(im:List Nat)(T:List KI)(fuel:Nat)(s:Sc)(ks:List KI)(env:List D)(σ:St):Prop:=
 Nat.rec (motive:=fun _=>Sc->List KI->List D->St->Prop) (fun _ _ _ _=>False) (fun _ ih s ks env σ=>pre 1000000 0 s env σ (vw C m P R rk nt im T ih ks)) fuel s ks env σ
theorem KU{T:List KI}{id:Nat}:∀{ks ks':List KI},Hm id ks=G ks'->Hm id (ks++T)=G (ks'++T)
 |[],ks',h=>by simp[Hm] at h
 |.code c::ks,ks',h=>by simp only[Hm] at h;simp only[Jr,Hm];exact KU h
 |.lp c::ks,ks',h=>by simp only[Hm] at h;simp only[Jr,Hm];exact KU h
 |.blk i::ks,ks',h=>by
  simp only[Hm] at h
  simp only[Jr,Hm]
  by_cases e:i=id
  ·rw[HV e] at h⊢;simp at h;subst h;rfl
  ·rw[HR e] at h⊢;exact KU h
theorem AaY{C:cf->cf->Prop}(L:OX C){m:Nat}(hCm:∀E0 E,C E0 E->E.g.n<=m)(hm:P.follows .mixedOrders=J){rk:Nat->List D->St->Prop}{nt:Nat}{im:List Nat}{T:List KI}(hR:∀b env σ,I env=nt->rk b env σ->R env σ){ih:Sc->List KI->List D->St->Prop}
  (IH:∀{s:Sc} {ks:List KI} {env:List D} {σ:St},I env=nt->ih s ks env σ->AB C P R (ks++T) env σ) {ks:List KI} {s:Sc} {env:List D} {σ:St} (hn:I env=nt) (h:vw C m P R rk nt im T ih ks s env σ):AB C P R (ks++T) env σ:=by
 unfold vw at h
 split at h
 ·split at h
  ·exact KK hCm hn h
  ·exact KK hCm hn h
  ·obtain⟨rfl,h⟩:=h;exact KR L (hR _ _ _ hn h)
  ·obtain⟨rfl,h⟩:=h;exact KR L (hR _ _ _ hn h)
  ·obtain⟨rfl,h⟩:=h;exact KR L (hR _ _ _ hn h)
  ·obtain⟨rfl,h⟩:=h;exact KR L (hR _ _ _ hn h)
  ·exact h.elim
 ·exact Afq (IH hn h)
 ·split at h
  ·exact KK hCm hn h
  ·exact KK hCm hn h
  ·exact AhB (IH hn h)
  ·exact h.elim
 ·split at h
  ·exact Afo (IH hn h)
  ·exact AbQ (IH hn h)
  ·exact X9 (IH hn h)
  ·exact XA (IH hn h)
  ·exact fc (IH hn h)
  ·split at h
   ·rename_i ks' hp;exact AbR (KU hp) (IH hn h)
   ·exact h.elim
  ·split at h
   ·exact KP L (hR _ _ _ hn h)
   ·exact KP L (hR _ _ _ hn h)
   ·exact KP L (hR _ _ _ hn h)
   ·exact KP L (hR _ _ _ hn h)
   ·exact h.elim
  ·obtain⟨b,s',h1,h2⟩:=Abg h
   refine AbT h2 (fun hb=>?_) (fun hb=>?_)
   ·subst hb;exact IH hn h1
   ·subst hb;exact IH hn h1
  ·rename_i r ops d
   cases d with
   |false=>
    intro E0 E g a w B hC hf hB
    show KQ P B (.code (.region r ops false)::(_++T)) .normal a w
    simp only[KQ]
    exact wp_region_list (NV (n:=nt) (Z:=fun L sl σ=>It (B8 C P R (_++T) ops L (ba nt sl) σ)) (fun _ _ _ h=>h.it) (fun s env σ hl hk=>IH hl hk) hn (show Wr P im r ops _ ops.toList 0 s env σ fun s env σ=>ih s _ env σ from h) E0 E g a w B hC hf hB)
   |true=>exact WV hm hn (fun s env σ hl hk=>IH hl hk) (show Si P im ops s env σ fun s env σ=>ih s _ env σ from h)
  ·exact h.elim
theorem Pj{C:cf->cf->Prop}(L:OX C){m:Nat}(hCm:∀E0 E,C E0 E->E.g.n<=m)(hm:P.follows .mixedOrders=J){rk:Nat->List D->St->Prop}{nt:Nat}{im:List Nat}{T:List KI}(hR:∀b env σ,I env=nt->rk b env σ->R env σ):
  ∀{fuel:Nat} {s:Sc} {ks:List KI} {env:List D} {σ:St},I env=nt->vc C m P R rk nt im T fuel s ks env σ->AB C P R (ks++T) env σ
 |0,s,ks,env,σ,_,h=>(h:False).elim
 |fuel+1,s,ks,env,σ,hn,h=>by
  have h':pre 1000000 0 s env σ (vw C m P R rk nt im T (vc C m P R rk nt im T fuel) ks):=h
  obtain⟨s1,env1,σ1,h1,h2,h3⟩:=PA h'
  exact L5 h2 (AaY L hCm hm hR (Pj L hCm hm hR) (h3.trans hn) h1)
noncomputable def km(P:x7)(env:List D)(σ:St)(dg:Bool)(rs:List ResultVar)(K:List D->Prop):Prop:=
 List.rec (motive:=fun _=>(List D->Prop)->Prop) (fun K=>K []) (fun r _ ih K=>match r with
  |.tmp t=>cond (Nat.blt t (I env)) (Fi env t fun d=>ih fun ds=>K (d::ds)) False
  |.cell a t=>Fi env a fun d=>match d with
   |.ptr q off=>(match σ.H[q]?,DE P t with
    |some (some cs),some (1,false)=>(match cs[off]? with
     |some d=>ih fun ds=>K (d::ds)
     |none=>False)
    |some (some cs),some (n,true)=>cond (Nat.ble (off+n) (I cs)) (Bool.rec (match Dt ((cs.drop off).take n) with
     |some xs=>ih fun ds=>K (.v (.agg xs)::ds)
     |none=>False) (AY ((cs.drop off).take n) fun es=>ih fun ds=>K (.dagg es::ds)) dg) False
    |_,_=>False)
   |_=>False) rs K
theorem G4{env:List D}{σ:St}{dg:Bool}:∀{rs:List ResultVar} {K:List D->Prop},km P env σ dg rs K->∃ds,K ds/\QL P env σ rs ds
 |[],K,h=>⟨[],h,.nil⟩
 |.tmp t::rs,K,h=>by
  have h':cond (Nat.blt t (I env)) (Fi env t fun d=>km P env σ dg rs fun ds=>K (d::ds)) False:=h
  obtain⟨h1,h2⟩:=Ap h'
  rw[Dn] at h2
  obtain⟨ds,h3,h4⟩:=G4 h2
  refine⟨_,h3,.tmp ?_ h4⟩
  have:t<I env:=Ie h1
  rw[HI,HA this];rfl
 |.cell a t::rs,K,h=>by
  have h':Fi env a fun d=>match (generalizing:=false) d with
   |.ptr q off=>(match σ.H[q]?,DE P t with
    |some (some cs),some (1,false)=>(match cs[off]? with
     |some d=>km P env σ dg rs fun ds=>K (d::ds)
     |none=>False)
    |some (some cs),some (n,true)=>cond (Nat.ble (off+n) (I cs)) (Bool.rec (match Dt ((cs.drop off).take n) with
     |some xs=>km P env σ dg rs fun ds=>K (.v (.agg xs)::ds)
     |none=>False) (AY ((cs.drop off).take n) fun es=>km P env σ dg rs fun ds=>K (.dagg es::ds)) dg) False
    |_,_=>False)
   |_=>False:=h
  rw[Dn] at h'
  split at h'
  ·rename_i q off hd
   have ha:=getD_some hd (by simp)
   split at h'
   ·rename_i cs hq hz
    split at h'
    ·rename_i d hc
     obtain⟨ds,h3,h4⟩:=G4 h'
     exact⟨_,h3,.cell1 ha hq hz hc h4⟩
    ·exact h'.elim
   ·rename_i cs n hq hz
    obtain⟨h1,h2⟩:=Ap h'
    cases dg with
    |false=>
     have h2:(match Dt ((cs.drop off).take n) with
      |some xs=>km P env σ false rs fun ds=>K (.v (.agg xs)::ds)
      |none=>False):=h2
     split at h2
     ·rename_i xs hx
      obtain⟨ds,h3,h4⟩:=G4 h2
      exact⟨_,h3,.cellA ha hq hz (Ie h1) (Gg hx) h4⟩
     ·exact h2.elim
    |true=>
     have h2:AY ((cs.drop off).take n) fun es=>km P env σ true rs fun ds=>K (.dagg es::ds):=h2
     rw[AO] at h2
     obtain⟨ds,h3,h4⟩:=G4 h2
     exact⟨_,h3,.cellD ha hq hz (Ie h1) h4⟩
   ·exact h'.elim
  ·exact h'.elim
def nlV:V->V
 |.nils=>.list []
 |x=>x
theorem XN{M:cd}:∀{xs:List V} {us:List yz},repA M xs us->repA M (xs.map nlV) us
 |[],us,h=>h
 |x::xs,us,h=>by
  simp only[repA] at h
  obtain⟨u,us',rfl,ha,h1,h2⟩:=h
  simp only[Ia,repA]
  refine⟨u,us',rfl,?_,?_,XN h2⟩
  ·cases x<;>first|exact ha|rfl
  ·cases x with
   |nils=>
    have h3:repV M .nils u:=(BM (by rfl)).2 h1
    have h4:Ag (⟨M,fun _=>0,0,fun _ _=>none,fun _=>0⟩:Gh) (.v (.list [])) u:=Ft (by simpa only[Ag] using h3)
    show repC M (.list []) [u]
    exact(BM (by rfl)).1 (by simpa only[Ag] using h4)
   |_=>exact h1
noncomputable def gh(ts:List Nat)(kn:Bool):D->D
 |.acc k xs=>Bool.rec (.v (.list xs)) (.acc k xs) (ts.any (Nat.beq k))
 |.v .nils=>Bool.rec (.v (.list [])) (.v .nils) kn
 |.v (.agg xs)=>Bool.rec (.v (.agg (xs.map nlV))) (.v (.agg xs)) kn
 |d=>d
theorem AeO{ts:List Nat}{kn:Bool}{g:Gh}{d:D}{u:yz}(h:Ag g d u):Ag g (gh ts kn d) u:=by
 unfold gh
 split
 ·cases ts.any _
  ·exact Oj h
  ·exact h
 ·cases kn
  ·exact Ft h
  ·exact h
 ·cases kn
  ·simp only[Ag,C6] at h⊢
   obtain⟨ws,h1,h2⟩:=h
   exact⟨ws,XN h1,h2⟩
  ·exact h
 ·exact h
theorem CV{ts:List Nat}{kn:Bool}{g:Gh}:∀{ds:List D} {us:List yz},Ad g ds us->Ad g (ds.map (gh ts kn)) us
 |[],us,h=>by simpa using h
 |d::ds,us,h=>by
  simp only[Ad,Ia] at h⊢
  obtain⟨u,us',e,h1,h2⟩:=h
  exact⟨u,us',e,AeO h1,CV h2⟩
noncomputable def Yk:List D->(D->Prop)->Prop
 |[d],K=>K d
 |ds,K=>AY ds fun ds=>K (.tup ds)
theorem Oq(ds:List D)(K:D->Prop):Yk ds K=K (Rt ds):=by
 match ds with
 |[]=>rfl
 |[d]=>rfl
 |a::b::ds=>simp only[Yk,Rt,AO]
noncomputable def WO(P:x7)(rs:List ResultVar)(d:D)(σ':St)(md:Nat)(env:List D)(σ:St):Prop:=
 km P env σ (Nat.beq md 3) rs fun ds=>AY (ds.map (gh (σ'.own.map (·.1)) (Nat.beq md 1))) fun ds=>Yk ds fun d'=>
  cond (D.okN (I σ'.H) (σ'.own.map (·.1)) d&&Nat.ble (I σ'.H) (I σ.H)) (uz (Nat.beq md 2) (cm (I σ'.H) (σ'.own.map (·.1)) (σ.H.take (I σ'.H)))
   (RA σ'.H (σ.H.take (I σ'.H)) (RA σ'.own (lu (σ'.own.map (·.1)) σ.own) (d'=d)))) False
theorem NU{fn:yw}{d:D}{σ':St}{md:Nat}{env:List D}{σ:St}(h:WO P fn.results.toList d σ' md env σ):Az P fn env σ d σ':=by
 obtain⟨ds,h1,hr⟩:=G4 h
 rw[AO,Oq] at h1
 obtain⟨h2,h3⟩:=Ap h1
 obtain⟨h8,h3⟩:=Rz h3
 simp only[HB] at h2
 generalize Nat.beq md 1=kn at h3
 have h4:Rt (ds.map (gh (σ'.own.map (·.1)) kn))=d/\σ.H.take (I σ'.H)=σ'.H/\lu (σ'.own.map (·.1)) σ.own=σ'.own:=by
  obtain⟨e1,h3⟩:=Gs h3 (fun e=>by rw[e];rfl)
  obtain⟨e2,h3⟩:=Gs h3 (fun e=>by rw[e];unfold lu;rw[List.filter_eq_nil_iff];simp)
  exact⟨h3,e1,e2⟩
 obtain⟨rfl,hH,hown⟩:=h4
 intro E g a w hf hE
 obtain⟨us,h5,h6⟩:=hr.run hf
 have hrun:(results fn a.tmps).run P w=.ok (if h:I us=1 then us[0] else .tuple us.toArray) w:=by
  rw[JQ,Array.mapM_eq_mapM_toList]
  simp only[Sem.run_bind,Sem.run_map,h5,Result.andThen_ok]
  by_cases h:I us=1<;>simp[h]
 have hsub:σ'.own.Sublist σ.own:=by rw[←hown];exact List.filter_sublist
 refine⟨_,_,hrun,WA hf.wi hH.symm (Ie h2.2) hE (by have:=h8;rwa[hH] at this) hsub,?_⟩
 refine LB _ _ h2.1 ?_
 have h7:=CV (ts:=σ'.own.map (·.1)) (kn:=kn) h6
 generalize ds.map (gh (σ'.own.map (·.1)) kn)=ds' at h7
 have hl:=A4 h7
 unfold Rt
 split
 ·rename_i d0
  obtain⟨u,rfl,h3⟩:=A9.1 h7
  simpa using h3
 ·rename_i hne
  have:I us≠1:=by
   rw[hl]
   intro h
   match ds',h with
   |[d0],_=>exact hne d0 rfl
  rw[dif_neg this]
  simp only[Ag]
  exact⟨us,rfl,h7⟩
theorem K0{f:yx}{fn:yw}{c:Code}{ds:List D}{σ σ':St}{d:D}(hf:P.funcs[f]?=G fn)(hb:fn.body=G c)(hn:(fn.name=="runtime.NumGoroutine")=O)
  (hH:I σ.H<=I σ'.H) (h:AB (CN (I σ.H)) P (fun env σ1=>Az P fn env σ1 d σ') [.code c] (ds++replicate (fn.ntmps-I ds) .undef) σ):Aa P f ds σ d σ':=by
 refine⟨⟨fn,hf,hn,by simp[hb]⟩,fun g w args hw hargs=>?_⟩
 refine calls_of_wp hf hb ?_
 have hfi:FI ⟨g,w,σ⟩ g σ (ds++replicate (fn.ntmps-I ds) .undef) { tmps:=args.toArray++Array.replicate (fn.ntmps-args.toArray.size) undef,defers:=[]} w:=by
  refine⟨WI.start hw,?_,rfl⟩
  have hl:=A4 hargs
  simp only[Array.toList_append,Array.toList_replicate,IP,hl]
  refine Au hargs ?_
  generalize fn.ntmps-I ds=m
  induction m with
  |zero=>simp[Ad]
  |succ m ih=>simp only[I4,Ad];exact⟨_,_,rfl,by simp[Ag],ih⟩
 have:=h ⟨g,w,σ⟩ ⟨g,w,σ⟩ g _ w (bodyPost P fn fun e w'=>∃u g',e=.returned u/\WI ⟨g,w,σ⟩ g' σ' w'/\Ag g' d u) ⟨rfl,Nat.le_of_eq hw.n⟩ hfi ?_
 ·simp only[KQ] at this
  exact this
 ·intro g' env' σ1 a' w' hfi' hR
  obtain⟨u,g2,h1,h2,h3⟩:=hR _ _ _ _ hfi' (by rw[hw.n];exact hH)
  have:a'.defers=[]/\∃v,(results fn a'.tmps).run P w'=.ok v w'/\∃u g',Ending.returned v=.returned u/\WI ⟨g,w,σ⟩ g' σ' w'/\Ag g' d u:=
   ⟨hfi'.defers,u,h1,u,g2,rfl,h2,h3⟩
  exact⟨this,this⟩
abbrev Rn(P:x7)(fn:yw)(C:Nat)(d:D)(σ':St)(k:List KI)(env:List D)(σ:St):Prop:=AB (CN C) P (fun env σ1=>Az P fn env σ1 d σ') k env σ
theorem X3(hm:P.follows .mixedOrders=J){f:yx}{ds:List D}{σ σ':St}{d:D}(fn:yw)(c:Code)(hf:P.funcs[f]?=G fn)(hb:fn.body=G c)(hn:(fn.name=="runtime.NumGoroutine")=O)(hH:Nat.ble (I σ.H) (I σ'.H)=J)(nt:Nat)(hnt:I (ds++replicate (fn.ntmps-I ds) bk)=nt)
  (im:List Nat) (s:Sc)
  (h:AY (ds++replicate (fn.ntmps-I ds) bk) fun env=>vc (CN (I σ.H)) (I σ.H) P (fun env σ1=>Az P fn env σ1 d σ') (WO P fn.results.toList d σ') nt im [] 10000 s [.code c] env σ):Aa P f ds σ d σ':=by
 rw[AO] at h
 refine K0 hf hb hn (Ie hH) ?_
 exact Pj (ks:=[.code c]) (T:=[]) (M5 _) (fun _ _ h=>h.2) hm (fun b env σ _ h=>NU h) hnt h
theorem AfH(hm:P.follows .mixedOrders=J){C:Nat}{fn:yw}{d:D}{σ':St}(nt:Nat)(im:List Nat){ks T:List KI}{L:List (Nat×D)}{σ:St}(s:Sc)
  (h:AY (ba nt L) fun env=>vc (CN C) C P (fun env σ1=>Az P fn env σ1 d σ') (WO P fn.results.toList d σ') nt im T 10000 (.h .n s) ks env σ):Rn P fn C d σ' (ks++T) (ba nt L) σ:=by
 rw[AO] at h
 exact Pj (M5 _) (fun _ _ h=>h.2) hm (fun b env σ _ h=>NU h) (by simp[ba,DA]) h
theorem Aen(hm:P.follows .mixedOrders=J){C:cf->cf->Prop}(L:OX C)(m:Nat)(hCm:∀E0 E,C E0 E->E.g.n<=m){fn:yw}{d:D}{σ':St}(nt:Nat)(im:List Nat){ks T:List KI}{E:List (Nat×D)}{σ:St}(s:Sc)
  (h:AY (ba nt E) fun env=>vc C m P (fun env σ1=>Az P fn env σ1 d σ') (WO P fn.results.toList d σ') nt im T 10000 s ks env σ):AB C P (fun env σ1=>Az P fn env σ1 d σ') (ks++T) (ba nt E) σ:=by
 rw[AO] at h
 exact Pj L hCm hm (fun b env σ _ h=>NU h) (by simp[ba,DA]) h
theorem Oh(hm:P.follows .mixedOrders=J){C:cf->cf->Prop}(Lk:OX C)(m:Nat)(hCm:∀E0 E,C E0 E->E.g.n<=m){fn:yw}{d:D}{σ':St}(nt:Nat)(im:List Nat)(r i:Nat){ops:Array yy}{L:List yy}{ks T:List KI}{E:List (Nat×D)}{σ:St}(s:Sc)
  (h:AY (ba nt E) fun env=>Wr P im r ops (fun L sl σ=>It (B8 C P (fun env σ1=>Az P fn env σ1 d σ') (ks++T) ops L (ba nt sl) σ)) L i s env σ fun s env σ=>vc C m P (fun env σ1=>Az P fn env σ1 d σ') (WO P fn.results.toList d σ') nt im T 10000 s ks env σ):B8 C P (fun env σ1=>Az P fn env σ1 d σ') (ks++T) ops L (ba nt E) σ:=by
 rw[AO] at h
 exact NV (n:=nt) (fun _ _ _ h=>h.it) (fun s env σ hl hk=>Pj Lk hCm hm (fun b env σ _ h=>NU h) hl hk) (by simp[ba,DA]) h
theorem ey{a b:Prop}(h:a=b)(ha:a):b:=h▸ha
end
end Go.Nv

namespace Go.Proofs.YtfhgjfkleggjfaaGreatDoor
open Go.Dv Go.Nv
set_option maxRecDepth 20000
open List (flatten replicate take)
open Go.IntKind (u64)
open Go.IntKind renaming wrap → yu, i64 → yt
open List renaming length → I, map → U, drop → W
open Option renaming some → G
open Bool renaming true → J, false → O
open Decidable renaming decide → Y
open Int renaming toNat → Z
open Go.Dv.V renaming list → ai, str → ae, agg → ab, int → aa, ref → bz, fn → bw, nils → bv, bool → bu
open Go.Dv.D renaming v → bt, acc → br, ptr → bq, arr → bo, gro → bm, tup → bl, undef → bk, dagg → bj
open Go.Dv.St renaming mk → bi
open Go.Dv.KI renaming blk → bh
open _root_.ByteArray renaming mk → bf
open Go renaming Operand → x8, Program → x7, TypeId → x6, World → x5, Value → yz, Oper → yy, FuncId → yx, Func → yw, IntKind → yv
abbrev Q{α:Type}(a:α):Prop:=a=a
theorem yr{p:Prop}[Decidable p](h:p:=by omega):decide p=true:=decide_eq_true h
theorem yq{p:Prop}[Decidable p](h:¬p:=by omega):decide p=false:=decide_eq_false h
noncomputable abbrev yl(f:yw):Code:=f.body.getD .skip
theorem yk{α:Type}{l:List α}{k:Nat}(h:k<l.length):∃x,l[k]?=some x:=⟨_,List.getElem?_eq_getElem h⟩
abbrev yj(p:Prop):Prop:=p/\p/\p/\True
abbrev yi(p:Prop):Prop:=p/\p/\p/\p/\True
abbrev yh(p:Prop):Prop:=p/\p/\p/\p/\p/\p/\p/\True
abbrev yg(p:Prop):Prop:=p/\p/\p/\p/\p/\p/\p/\p/\p/\True
abbrev yf(p:Prop):Prop:=p/\p/\p/\p/\p/\p/\p/\p/\p/\p/\p/\True
abbrev yp:Prop:=True/\True
abbrev yo:Prop:=True/\True/\True
theorem yn:yp:=⟨trivial,trivial⟩
theorem ym:yo:=⟨trivial,trivial,trivial⟩
abbrev F0(f:yx)(ds:List D)(d:D):Prop:=Aa PP f ds ⟨[],[]⟩ d ⟨[],[]⟩
noncomputable abbrev N0:=fun(ds:List D)(σ:St)(d:D)(σ':St)=>∀(o:yy)(c:Call)(fo:x8),o.op=Op.call c->c.callee=Callee.value fo->Aj PP o ds σ d σ'
abbrev I0(fn:yw)(C:Nat)(d:D)(s:St)(k:List KI)(e:List D)(t:St):Prop:=It (Rn PP fn C d s k e t)
abbrev kl(c:Code)(p:List Nat):KI:=.lp (sub c p)
abbrev kc(c:Code)(p:List Nat):KI:=.code (sub c p)
abbrev dn:D:=.v .nils
abbrev ei:List D:=[bt (ae (bf #[]).data.toList),di 0,di 0,bt bv,bt bv,bt bv,di 0,di 0,di 0,bt bv,bt bv,bt bv,bt bv,di 0]
abbrev nn:List D:=[di 0,bt bv,bt bv,bt bv,bt bv,di 0,di 0,bt bv,di 0,bt bv]
theorem sv{f:yx}{ds:List D}{σ σ':St}{d:D}(fn:yw)(nt:Nat)(im:List Nat)(s:Sc)(a:Prop)(ha:a)(hf:PP.funcs[f]?=G fn:=by kernel_rfl)(hb:fn.body=G (fn.body.getD .skip):=by kernel_rfl)(hn:(fn.name=="runtime.NumGoroutine")=O:=by kernel_rfl)(hH:Nat.ble (I σ.H) (I σ'.H)=J:=by kernel_rfl)(hnt:I (ds++replicate (fn.ntmps-I ds) bk)=nt:=by kernel_rfl)
  (h:a=AY (ds++replicate (fn.ntmps-I ds) bk) fun env=>vc (CN (I σ.H)) (I σ.H) PP (fun env σ1=>Az PP fn env σ1 d σ') (WO PP fn.results.toList d σ') nt im [] 10000 s [.code (fn.body.getD .skip)] env σ:=by kernel_rfl):Aa PP f ds σ d σ':=X3 mixed fn _ hf hb hn hH nt hnt im s (ey h ha)
theorem iK{p:Prop}(h:p):Nv.It p:=⟨h⟩
theorem lv{C:Nat}{fn:yw}{d:D}{σ':St}{ks T:List KI}{L:List (Nat×D)}{σ:St}(nt:Nat)(im:List Nat)(s:Sc)(a:Prop)(ha:a)
  (h:a=AY (ba nt L) fun env=>vc (CN C) C PP (fun env σ1=>Az PP fn env σ1 d σ') (WO PP fn.results.toList d σ') nt im T 10000 (.h .n s) ks env σ:=by kernel_rfl):Rn PP fn C d σ' (ks++T) (ba nt L) σ:=AfH mixed nt im s (ey h ha)
abbrev bd:St:=⟨[],[]⟩
abbrev dfn(f:yx):D:=.v (.fn f [] [])
abbrev dl(l:List V):D:=.v (.list l)
abbrev ke(t:Nat):Nat×Option D:=(t,none)
abbrev ch(t:Nat)(d:D):Nat×Option D:=(t,G d)
theorem Am{α:Type}{f:α->V}{a:List α}{i:Nat}{x:α}(h:a[i]?=G x):(a.map f)[((i:Nat):Int).toNat]?=G (f x):=by simp[h]
theorem Al{n:Int}(h0: -9223372036854775808<=n:=by omega)(h1:n<=9223372036854775807:=by omega):yt.wrap n=n:=by rw[IntKind.wrap_i64];omega
theorem Ae{i:Nat}(h:i<9223372036854775807:=by omega):di (yt.wrap ((i:Int)+1))=di ((i+1:Nat):Int):=by rw[Al (by omega) (by omega)];simp
inductive bc where
 |mk (n:Int) (az:List bc)
 deriving Inhabited
def bc.n:bc->Int
 |.mk n _=>n
def bc.az:bc->List bc
 |.mk _ ks=>ks
mutual
def bc.enc:bc->V
 |.mk n ks=>.agg [vi n,.list (bc.encs ks)]
def bc.encs:List bc->List V
 |[]=>[]
 |v::vs=>v.enc::bc.encs vs
end
abbrev eV:bc->V:=bc.enc
abbrev dt(l:List bc):V:=.list (l.map eV)
abbrev Ac(v:bc):V:=.agg [vi v.n,dt v.az]
theorem encs_map:∀l:List bc,bc.encs l=l.map eV
 |[]=>rfl
 |v::l=>by simp[bc.encs,encs_map l]
theorem AE(v:bc):eV v=Ac v:=by cases v with|mk n ks=>simp only[eV,bc.enc,encs_map];rfl
abbrev dV(v:bc):D:=.v (Ac v)
abbrev cx(l:List bc):D:=.v (dt l)
theorem An{a:List bc}{i:Nat}{x:bc}(h:a[i]?=G x):(a.map eV)[((i:Nat):Int).toNat]?=G (Ac x):=by rw[←AE];exact Am h
theorem B1(a:List bc)(x:bc):a.map eV++[Ac x]=(a++[x]).map eV:=by rw[←AE];simp
mutual
def bc.size:bc->Nat
 |.mk _ ks=>1+bc.sizes ks
def bc.sizes:List bc->Nat
 |[]=>0
 |v::vs=>v.size+bc.sizes vs
end
theorem bc.size_eq(v:bc):v.size=1+bc.sizes v.az:=by cases v;rfl
theorem bc.size_pos(v:bc):1<=v.size:=by rw[bc.size_eq];omega
theorem bc.size_mem{v:bc}:∀{l:List bc},v∈l->v.size<=bc.sizes l
 |w::l,h=>by
  rcases Iq.1 h with rfl|h
  ·simp[bc.sizes]
  ·have:=bc.size_mem h;simp only[bc.sizes];omega
theorem bc.length_le:∀l:List bc,I l<=bc.sizes l
 |[]=>by simp[bc.sizes]
 |v::l=>by have:=bc.length_le l;have:=v.size_pos;simp only[HF,bc.sizes];omega
noncomputable abbrev AlK:=Tryz.f89
theorem ST(x:Int):F0 89 [di x] (db O):=by
 refine sv AlK 6 [] .r (db (x !=x)=db O) ?_
 simp
def AL(a b:Int):Int:=if a<b then-1 else if b<a then 1 else 0
noncomputable abbrev AkM:=Tryz.f49
theorem JF(a b:Int):F0 49 [di a,di b] (di (AL a b)):=by
 refine sv AkM 20 [] (.c (db O)<|.c (db O)<|.k<|.k<|.b .r<|.b .r .r) (F0 89 [di a] (db O)/\F0 89 [di b] (db O)/\(Y (a<b)=J->di (-1)=di (AL a b))/\(Y (a<b)=O->(Y (a>b)=J->di 1=di (AL a b))/\(Y (a>b)=O->di 0=di (AL a b)))) ?_
 refine⟨ST a,ST b,fun h=>?_,fun h=>⟨fun h1=>?_,fun h1=>?_⟩⟩<;>simp_all [AL]<;>omega
def ig:List Int->Int
 |[]=>0
 |x::l=>if x=0 then ig l else x
noncomputable abbrev p7:=Tryz.f48
noncomputable def ne:=yl p7
noncomputable abbrev d5:=[1,1,0,1,0,0]
theorem Afz(l:List Int)(hl:I l<=1000000)(n:Nat):∀k:Nat,I l-k=n->
  Rn PP p7 0 (di (ig (l.drop k))) bd ([kl ne [1,1,0,1,0,0],.blk 0,kc ne [1,1,1]]++[]) (ba 18 [(3,di 0),(6,dl (l.map vi)),(7,di (I l)),(8,di k)]) bd:=by
 induction n using Nat.strongRecOn with
 |_ n ih=>
 intro k hn
 refine lv 18 [] (.b (.e fun x:Int=>.x (vi x)<|.b .r (.l [ke 3,ke 6,ke 7,ch 8 (di (k+1:Nat))])) .r) ((Y ((k:Int)<(I l:Int))=J->∃a,0<=(k:Int)/\(U vi l)[Z (k:Int)]?=G (vi a)/\((a !=0)=J->di a=di (ig (W k l)))/\((a !=0)=O->di (yu yt ((k:Int)+1))=di (↑(k+1):Int)/\Nv.It (AB (CN 0) PP (fun env σ1=>Az PP p7 env σ1 (di (ig (W k l))) bd) [kl ne d5,bh 0,kc ne [1,1,1]] (ba 18 [(3,di 0),(6,bt (ai (U vi l))),(7,di (I l:Int)),(8,di (↑(k+1):Int))]) bd)))/\(Y ((k:Int)<(I l:Int))=O->di 0=di (ig (W k l)))) ⟨fun h=>?_,fun h=>?_⟩
 ·have hk:k<I l:=by simpa using h
  have hx:l[k]?=G l[k]:=HA hk
  rw[HP hk]
  generalize l[k]=x at hx⊢
  refine⟨x,by omega,Am hx,fun hf=>?_,fun hf=>⟨Ae,⟨?_⟩⟩⟩
  ·have:x≠0:=by simpa using hf
   simp[ig,this]
  ·have:x=0:=by simpa using hf
   subst this
   exact ih (I l- (k+1)) (by omega) (k+1) rfl
 ·have hk:I l<=k:=by simpa using h
  rw[HU hk];rfl
theorem Yp(l:List Int)(hl:I l<=1000000):F0 48 [dl (l.map vi)] (di (ig l)):=by
 refine sv p7 18 [] (.l [ke 3,ke 6,ch 7 (di (I l)),ch 8 (di (0:Nat))]) (di (I (U vi l):Int)=di (I l:Int)/\Q (di 0)/\I0 p7 (I bd.H) (di (ig l)) bd [kl ne d5,bh 0,kc ne [1,1,1]] (ba 18 [(3,di 0),(6,dl (U vi l)),(7,di (I l:Int)),(8,di (↑0:Int))]) bd) ⟨by simp,rfl,⟨?_⟩⟩
 exact Afz l hl _ 0 rfl
def B0{α:Type}(c:α->α->Int):List α->List α->Int
 |[],[]=>0
 |[],_::_=> -1
 |_::_,[]=>1
 |x::a,y::b=>if c x y=0 then B0 c a b else c x y
noncomputable abbrev Ql:=Tryz.f50
noncomputable def ND:=yl Ql
noncomputable abbrev dh:=(bi [] [])
theorem VL(F:yx)(fs cs:List V)(c:bc->bc->Int)(a b:List bc)(ha:I a<=9223372036854775807)(hf:∀x∈a,∀y∈b,F0 F ((fs++[Ac x,Ac y]++cs).map .v) (di (c x y)))(n:Nat):∀k:Nat,I a-k=n->k<=I b->k<=I a->
  Rn PP Ql 0 (di (B0 c (a.drop k) (b.drop k))) bd ([kl ND [1,0,1,0,0],.blk 0,kc ND [1,1]]++[]) (ba 39 [(0,cx a),(1,cx b),(2,.v (.fn F fs cs)),(11,cx a),(12,di (I a)),(13,di k)]) bd:=by
 induction n using Nat.strongRecOn with
 |_ n ih=>
 intro k hn hkb hka
 refine lv 39 [] (.b (.e fun x:bc=>.x (Ac x)<|.b .r<|.e fun y:bc=>.x (Ac y)<|.c (di (c x y))<|.b .r (.ls [ke 0,ke 1,ke 2,ke 11,ke 12,ch 13 (di (k+1:Nat))] bd)) (.b .r .r)) ((Y ((k:Int)<(I a:Int))=J->∃a_2,0<=(k:Int)/\(U eV a)[Z (k:Int)]?=G (Ac a_2)/\(Y ((k:Int)>=(I (U eV b):Int))=J->di 1=di (B0 c (W k a) (W k b)))/\(Y ((k:Int)>=(I (U eV b):Int))=O->∃a_4,0<=(k:Int)/\(U eV b)[Z (k:Int)]?=G (Ac a_4)/\Aa PP F (U bt (fs++[ab [vi a_2.n,dt a_2.az],ab [vi a_4.n,dt a_4.az]]++cs)) dh (di (c a_2 a_4)) dh/\((c a_2 a_4 !=0)=J->di (c a_2 a_4)=di (B0 c (W k a) (W k b)))/\((c a_2 a_4 !=0)=O->di (yu yt ((k:Int)+1))=di (↑(k+1):Int)/\Nv.It (AB (CN 0) PP (fun env σ1=>Az PP Ql env σ1 (di (B0 c (W k a) (W k b))) bd) [kl ND [1,0,1,0,0],bh 0,kc ND [1,1]] (ba 39 [(0,cx a),(1,cx b),(2,bt (bw F fs cs)),(11,cx a),(12,di (I a:Int)),(13,di (↑(k+1):Int))]) bd))))/\(Y ((k:Int)<(I a:Int))=O->(Y ((I (U eV a):Int)<(I (U eV b):Int))=J->di (-1)=di (B0 c (W k a) (W k b)))/\(Y ((I (U eV a):Int)<(I (U eV b):Int))=O->di 0=di (B0 c (W k a) (W k b))))) ⟨fun h=>?_,fun h=>?_⟩
 ·have hk:k<I a:=by simpa using h
  have hx:a[k]?=G a[k]:=HA hk
  rw[HP hk]
  generalize a[k]=x at hx⊢
  refine⟨x,by omega,An hx,fun h1=>?_,fun h1=>?_⟩
  ·have:b.drop k=[]:=HU (by simpa using h1)
   rw[this];rfl
  ·have hk2:k<I b:=by simpa using h1
   have hy:b[k]?=G b[k]:=HA hk2
   rw[HP hk2]
   generalize b[k]=y at hy⊢
   refine⟨y,by omega,An hy,hf x (HG hx) y (HG hy),fun h2=>?_,fun h2=>⟨Ae,⟨?_⟩⟩⟩
   ·have:c x y≠0:=by simpa using h2
    simp[B0,this]
   ·have:c x y=0:=by simpa using h2
    simp only[B0,this,IJ]
    exact ih (I a- (k+1)) (by omega) (k+1) rfl hk2 hk
 ·have hk:k=I a:=by have:I a<=k:=(by simpa using h);omega
  subst hk
  rw[List.drop_length]
  refine⟨fun h1=>?_,fun h1=>?_⟩
  ·have h1:I a<I b:=by simpa using h1
   rw[HP h1];rfl
  ·have h1:I b<=I a:=by simpa using h1
   rw[HU h1];rfl
theorem VK(F:yx)(fs cs:List V)(c:bc->bc->Int)(a b:List bc)(ha:I a<=9223372036854775807)(hf:∀x∈a,∀y∈b,F0 F ((fs++[Ac x,Ac y]++cs).map .v) (di (c x y))):
  F0 50 [cx a,cx b,.v (.fn F fs cs)] (di (B0 c a b)):=by
 refine sv Ql 39 [] (.l [ke 0,ke 1,ke 2,ke 11,ch 12 (di (I a)),ch 13 (di (0:Nat))]) (di (I (U eV a):Int)=di (I a:Int)/\Q (di 0)/\I0 Ql (I bd.H) (di (B0 c a b)) bd [kl ND [1,0,1,0,0],bh 0,kc ND [1,1]] (ba 39 [(0,cx a),(1,cx b),(2,bt (bw F fs cs)),(11,cx a),(12,di (I a:Int)),(13,di (↑0:Int))]) bd) ⟨by simp,rfl,⟨?_⟩⟩
 exact VL F fs cs c a b ha hf _ 0 rfl (by omega) (by omega)
mutual
def Aq:bc->bc->Int
 |.mk n ks,.mk m ls=>if AL n m=0 then(if AL (I ks) (I ls)=0 then ua ks ls else AL (I ks) (I ls)) else AL n m
def ua:List bc->List bc->Int
 |[],[]=>0
 |[],_::_=> -1
 |_::_,[]=>1
 |x::a,y::b=>if Aq x y=0 then ua a b else Aq x y
end
theorem OM:∀a b:List bc,ua a b=B0 Aq a b
 |[],[]=>rfl
 |[],_::_=>rfl
 |_::_,[]=>rfl
 |x::a,y::b=>by simp only[ua,B0,OM a b]
theorem or3(x y z:Int):(if x=0 then(if y=0 then z else y) else x)=ig [x,y,z]:=by
 simp only[ig]
 by_cases h1:x=0<;>by_cases h2:y=0<;>by_cases h3:z=0<;>simp_all
theorem ON(a b:bc):Aq a b=ig [AL a.n b.n,AL (I a.az) (I b.az),B0 Aq a.az b.az]:=by
 cases a;cases b
 rw[Aq,OM]
 exact or3 _ _ _
mutual
def bc.fit:bc->Prop
 |.mk _ l=>I l<=9223372036854775807/\bc.fits l
def bc.fits:List bc->Prop
 |[]=>True
 |v::l=>v.fit/\bc.fits l
end
theorem bc.fits_mem{v:bc}:∀{l:List bc},bc.fits l->v∈l->v.fit
 |w::l,h,hm=>by
  rcases Iq.1 hm with rfl|hm
  ·exact h.1
  ·exact bc.fits_mem h.2 hm
theorem bc.fit.len{v:bc}(h:v.fit):I v.az<=9223372036854775807:=by cases v;exact h.1
theorem bc.fit.mem{v x:bc}(h:v.fit)(hx:x∈v.az):x.fit:=by cases v;exact bc.fits_mem h.2 hx
mutual
theorem bc.fit_of:∀v:bc,v.size<=1000000->v.fit
 |.mk n l,h=>by
  have h1:1+bc.sizes l<=1000000:=h
  have h2:=bc.length_le l
  exact⟨by omega,bc.fit_ofs l (by omega)⟩
theorem bc.fit_ofs:∀l:List bc,bc.sizes l<=1000000->bc.fits l
 |[],_=>trivial
 |v::l,h=>by
  have h1:v.size+bc.sizes l<=1000000:=h
  exact⟨bc.fit_of v (by omega),bc.fit_ofs l (by omega)⟩
end
noncomputable abbrev AkL:=Tryz.f22
noncomputable abbrev mb:=(bw 22 [] [])
noncomputable abbrev cc:=fun a₀=>(U eV a₀)
theorem Ty(N:Nat):∀a b:bc,a.size<=N->a.fit->F0 22 [dV a,dV b] (di (Aq a b)):=by
 induction N with
 |zero=>intro a b h;have:=a.size_pos;omega
 |succ N ih=>
 intro a b ha hb
 refine sv AkL 24 [2,3] (.c (di (AL a.n b.n))<|.c (di (AL (I a.az) (I b.az)))<|.c (di (B0 Aq a.az b.az))<|.c (di (Aq a b)) .r) (F0 49 [di a.n,di b.n] (di (AL a.n b.n))/\F0 49 [di (I (cc a.az):Int),di (I (cc b.az):Int)] (di (AL (I a.az:Int) (I b.az:Int)))/\F0 50 [cx a.az,cx b.az,bt mb] (di (B0 Aq a.az b.az))/\F0 48 [bt (ai [vi (AL a.n b.n),vi (AL (I a.az:Int) (I b.az:Int)),vi (B0 Aq a.az b.az)])] (di (Aq a b))/\Q (di (Aq a b))) ?_
 have hs:=a.size_eq
 have hl:=hb.len
 refine⟨JF _ _,by simpa using JF _ _,VK _ _ _ Aq a.az b.az (by omega) (fun x hx y hy=>?_),?_,rfl⟩
 ·have:=bc.size_mem hx
  exact ih x y (by omega) (hb.mem hx)
 ·rw[ON];exact Yp [_,_,_] (by simp)
theorem Mt(N:Nat)(a b:bc)(_:a.size<=N)(h:a.size<=1000000):F0 22 [dV a,dV b] (di (Aq a b)):=Ty _ a b (HH _) (bc.fit_of a h)
def d6{α:Type}(p:α->Bool):List α->Nat->Int
 |[],_=> -1
 |x::l,k=>if p x then k else d6 p l (k+1)
theorem GP{α:Type}(p:α->Bool):∀(l:List α) (k:Nat),Y (d6 p l k>=0)=l.any p
 |[],k=>by simp[d6]
 |x::l,k=>by
  simp only[d6,List.any_cons]
  by_cases h:p x=J
  ·simp[h]
  ·simp[h,GP p l]
noncomputable abbrev q9:=Tryz.f153
noncomputable def o6:=yl q9
noncomputable abbrev qq:=fun a₀=>[ke 0,ke 1,ke 7,ch 8 (di (a₀+1:Nat))]
theorem AcR(F:yx)(fs cs:List V)(p:Int->Bool)(l:List (Int))(hl:I l<=1000000)(hp:∀x∈l,F0 F ((fs++[vi x]++cs).map .v) (db (p x)))(n:Nat):∀k:Nat,I l-k=n->
  Rn PP q9 0 (di (d6 p (l.drop k) k)) bd ([kl o6 [1,0,1,0,0],.blk 0,kc o6 [1,1]]++[]) (ba 19 [(0,dl (l.map vi)),(1,.v (.fn F fs cs)),(7,di (I l)),(8,di k)]) bd:=by
 induction n using Nat.strongRecOn with
 |_ n ih=>
 intro k hn
 refine lv 19 [] (.b (.e fun x:Int=>.x (vi x)<|.c (db (p x))<|.b .r (.l (qq k))) .r) ((Y ((k:Int)<(I l:Int))=J->∃a,0<=(k:Int)/\(U vi l)[Z (k:Int)]?=G (vi a)/\Aa PP F (U bt (fs++[vi a]++cs)) dh (db (p a)) dh/\(p a=J->di (k:Int)=di (d6 p (W k l) k))/\(p a=O->di (yu yt ((k:Int)+1))=di (↑(k+1):Int)/\Nv.It (AB (CN 0) PP (fun env σ1=>Az PP q9 env σ1 (di (d6 p (W k l) k)) bd) [kl o6 [1,0,1,0,0],bh 0,kc o6 [1,1]] (ba 19 [(0,bt (ai (U vi l))),(1,bt (bw F fs cs)),(7,di (I l:Int)),(8,di (↑(k+1):Int))]) bd)))/\(Y ((k:Int)<(I l:Int))=O->di (-1)=di (d6 p (W k l) k))) ⟨fun h=>?_,fun h=>?_⟩
 ·have hk:k<I l:=by simpa using h
  have hx:l[k]?=G l[k]:=HA hk
  rw[HP hk]
  generalize l[k]=x at hx⊢
  refine⟨x,by omega,Am hx,hp x (HG hx),fun hf=>by simp[d6,hf],fun hf=>⟨Ae,⟨?_⟩⟩⟩
  simp only[d6,hf]
  exact ih (I l- (k+1)) (by omega) (k+1) rfl
 ·have hk:I l<=k:=by simpa using h
  rw[HU hk];rfl
theorem AcQ(F:yx)(fs cs:List V)(p:Int->Bool)(l:List (Int))(hl:I l<=1000000)(hp:∀x∈l,F0 F ((fs++[vi x]++cs).map .v) (db (p x))):
  F0 153 [dl (l.map vi),.v (.fn F fs cs)] (di (d6 p l 0)):=by
 refine sv q9 19 [] (.l [ke 0,ke 1,ch 7 (di (I l)),ch 8 (di (0:Nat))]) (di (I (U vi l):Int)=di (I l:Int)/\Q (di 0)/\I0 q9 (I bd.H) (di (d6 p l 0)) bd [kl o6 [1,0,1,0,0],bh 0,kc o6 [1,1]] (ba 19 [(0,dl (U vi l)),(1,bt (bw F fs cs)),(7,di (I l:Int)),(8,di (↑0:Int))]) bd) ⟨by simp,rfl,⟨?_⟩⟩
 exact AcR F fs cs p l hl hp _ 0 rfl
noncomputable abbrev AkH:=Tryz.f107
theorem Ez(F:yx)(fs cs:List V)(p:Int->Bool)(l:List (Int))(hl:I l<=1000000)(hp:∀x∈l,F0 F ((fs++[vi x]++cs).map .v) (db (p x))):
  F0 107 [dl (l.map vi),.v (.fn F fs cs)] (db (l.any p)):=by
 exact sv AkH 9 [] (.c (di (d6 p l 0)) .r) (_/\db (Y (d6 p l 0>=0))=db (List.any l p)) ⟨AcQ F fs cs p l hl hp,by rw[←GP]⟩
noncomputable abbrev q6:=Tryz.f126
noncomputable def pz:=yl q6
theorem AcL(F:yx)(fs cs:List V)(p:bc->Bool)(l:List (bc))(hl:I l<=1000000)(hp:∀x∈l,F0 F ((fs++[Ac x]++cs).map .v) (db (p x)))(n:Nat):∀k:Nat,I l-k=n->
  Rn PP q6 0 (di (d6 p (l.drop k) k)) bd ([kl pz [1,0,1,0,0],.blk 0,kc pz [1,1]]++[]) (ba 19 [(0,dl (l.map eV)),(1,.v (.fn F fs cs)),(7,di (I l)),(8,di k)]) bd:=by
 induction n using Nat.strongRecOn with
 |_ n ih=>
 intro k hn
 refine lv 19 [] (.b (.e fun x:bc=>.x (Ac x)<|.c (db (p x))<|.b .r (.l (qq k))) .r) ((Y ((k:Int)<(I l:Int))=J->∃a,0<=(k:Int)/\(U eV l)[Z (k:Int)]?=G (Ac a)/\Aa PP F (U bt (fs++[Ac a]++cs)) dh (db (p a)) dh/\(p a=J->di (k:Int)=di (d6 p (W k l) k))/\(p a=O->di (yu yt ((k:Int)+1))=di (↑(k+1):Int)/\Nv.It (AB (CN 0) PP (fun env σ1=>Az PP q6 env σ1 (di (d6 p (W k l) k)) bd) [kl pz [1,0,1,0,0],bh 0,kc pz [1,1]] (ba 19 [(0,bt (ai (U eV l))),(1,bt (bw F fs cs)),(7,di (I l:Int)),(8,di (↑(k+1):Int))]) bd)))/\(Y ((k:Int)<(I l:Int))=O->di (-1)=di (d6 p (W k l) k))) ⟨fun h=>?_,fun h=>?_⟩
 ·have hk:k<I l:=by simpa using h
  have hx:l[k]?=G l[k]:=HA hk
  rw[HP hk]
  generalize l[k]=x at hx⊢
  refine⟨x,by omega,An hx,hp x (HG hx),fun hf=>by simp[d6,hf],fun hf=>⟨Ae,⟨?_⟩⟩⟩
  simp only[d6,hf]
  exact ih (I l- (k+1)) (by omega) (k+1) rfl
 ·have hk:I l<=k:=by simpa using h
  rw[HU hk];rfl
theorem Td(F:yx)(fs cs:List V)(p:bc->Bool)(l:List (bc))(hl:I l<=1000000)(hp:∀x∈l,F0 F ((fs++[Ac x]++cs).map .v) (db (p x))):
  F0 126 [dl (l.map eV),.v (.fn F fs cs)] (di (d6 p l 0)):=by
 refine sv q6 19 [] (.l [ke 0,ke 1,ch 7 (di (I l)),ch 8 (di (0:Nat))]) (di (I (U eV l):Int)=di (I l:Int)/\Q (di 0)/\I0 q6 (I bd.H) (di (d6 p l 0)) bd [kl pz [1,0,1,0,0],bh 0,kc pz [1,1]] (ba 19 [(0,dl (U eV l)),(1,bt (bw F fs cs)),(7,di (I l:Int)),(8,di (↑0:Int))]) bd) ⟨by simp,rfl,⟨?_⟩⟩
 exact AcL F fs cs p l hl hp _ 0 rfl
noncomputable abbrev AkE:=Tryz.f204
theorem JB(F:yx)(fs cs:List V)(p:bc->Bool)(l:List (bc))(hl:I l<=1000000)(hp:∀x∈l,F0 F ((fs++[Ac x]++cs).map .v) (db (p x))):
  F0 204 [dl (l.map eV),.v (.fn F fs cs)] (db (l.any p)):=by
 exact sv AkE 9 [] (.c (di (d6 p l 0)) .r) (_/\db (Y (d6 p l 0>=0))=db (List.any l p)) ⟨Td F fs cs p l hl hp,by rw[←GP]⟩
noncomputable abbrev qb:=Tryz.f167
noncomputable def o8:=yl qb
theorem Adq(a b:List (Int))(ha:I a<=1000000)(hab:I a=I b)(n:Nat):∀k:Nat,I a-k=n->
  Rn PP qb 0 (db (Y (a.drop k=b.drop k))) bd ([kl o8 [1,1,0,1,0,0],.blk 0,kc o8 [1,1,1]]++[]) (ba 26 [(0,dl (a.map vi)),(1,dl (b.map vi)),(12,di (I a)),(13,di k)]) bd:=by
 induction n using Nat.strongRecOn with
 |_ n ih=>
 intro k hn
 refine lv 26 [] (.b (.e fun x:Int=>.x (vi x)<|.e fun y:Int=>.x (vi y)<|.b .r (.l [ke 0,ke 1,ke 12,ch 13 (di (k+1:Nat))])) .r) ((Y ((k:Int)<(I a:Int))=J->∃a_2,0<=(k:Int)/\(U vi a)[Z (k:Int)]?=G (vi a_2)/\∃a_3,0<=(k:Int)/\(U vi b)[Z (k:Int)]?=G (vi a_3)/\((a_2 !=a_3)=J->db O=db (Y (W k a=W k b)))/\((a_2 !=a_3)=O->di (yu yt ((k:Int)+1))=di (↑(k+1):Int)/\Nv.It (AB (CN 0) PP (fun env σ1=>Az PP qb env σ1 (db (Y (W k a=W k b))) bd) [kl o8 d5,bh 0,kc o8 [1,1,1]] (ba 26 [(0,bt (ai (U vi a))),(1,bt (ai (U vi b))),(12,di (I a:Int)),(13,di (↑(k+1):Int))]) dh)))/\(Y ((k:Int)<(I a:Int))=O->db J=db (Y (W k a=W k b)))) ⟨fun h=>?_,fun h=>?_⟩
 ·have hk:k<I a:=by simpa using h
  have hk2:k<I b:=by omega
  have hx:a[k]?=G a[k]:=HA hk
  have hy:b[k]?=G b[k]:=HA hk2
  rw[HP hk,HP hk2]
  generalize a[k]=x at hx⊢
  generalize b[k]=y at hy⊢
  refine⟨x,by omega,Am hx,y,by omega,Am hy,fun hf=>?_,fun hf=>⟨Ae,⟨?_⟩⟩⟩
  ·have:x≠y:=by simpa using hf
   simp[this]
  ·have:x=y:=by simpa using hf
   subst this
   simpa using ih (I a- (k+1)) (by omega) (k+1) rfl
 ·have hk:I a<=k:=by simpa using h
  rw[HU hk,HU (by omega)];simp
theorem Eb(a b:List (Int))(ha:I a<=1000000):F0 167 [dl (a.map vi),dl (b.map vi)] (db (Y (a=b))):=by
 refine sv qb 26 [] (.b .r (.l [ke 0,ke 1,ch 12 (di (I a)),ch 13 (di (0:Nat))])) ((((I (U vi a):Int) !=(I (U vi b):Int))=J->db O=db (Y (a=b)))/\(((I (U vi a):Int) !=(I (U vi b):Int))=O->di (I (U vi a):Int)=di (I a:Int)/\di 0=di (↑0:Int)/\I0 qb (I bd.H) (db (Y (a=b))) bd [kl o8 d5,bh 0,kc o8 [1,1,1]] (ba 26 [(0,dl (U vi a)),(1,dl (U vi b)),(12,di (I a:Int)),(13,di (↑0:Int))]) bd)) ⟨fun h=>?_,fun h=>⟨by simp,rfl,⟨?_⟩⟩⟩
 ·have h:I a≠b.length:=by simp at h;omega
  rw[HE fun e=>h (by rw[e])]
 ·exact Adq a b ha (by simp at h;omega) _ 0 rfl
theorem DJ{α:Type}{ls:List (List α)}{k:Nat}(hk:k<I ls):(ls.take (k+1)).flatten=(ls.take k).flatten++ls[k]:=by
 rw[List.take_succ_eq_append_getElem hk,List.flatten_append];simp
theorem FP{α:Type}(ls:List (List α))(k:Nat):(ls.take k).flatten.length<=I ls.flatten:=by
 have:=HX (fun l=>I l.flatten) (List.take_append_drop k ls)
 simp only[List.flatten_append,HO] at this
 omega
theorem MT{α β:Type}{e:α->V}{f:β->V}{a:List α}{b:List β}{by':Nat}(h:I a+I b<=2000000)(hb:by'<=10000):Ao (I (a.map e)+I (b.map f)) by':=by
 rw[H9,H9]
 have:(I a+I b)*by'<=2000000*10000:=Nat.mul_le_mul h hb
 exact⟨by omega,by omega⟩
abbrev cz(l:List Int):V:=.list (l.map vi)
abbrev cw(l:List Int):D:=.v (cz l)
abbrev dp(l:List Int):List D:=l.map di
theorem Hy(l:List Int):∀y∈l.map vi,y.size=1:=by simp[V.size]
theorem Zh(l:List Int):Ab (l.map vi)=dp l:=by
 unfold Ab dp
 induction l with
 |nil=>rfl
 |cons x l ih=>simp_all [V.cellsV]
theorem Dw(n:Nat)(ts:List Nat):∀l:List Int,D.okNs n ts (dp l)=J
 |[]=>rfl
 |x::l=>by simp only[dp,Ia,D.okNs,D.okN,Ij];exact Dw n ts l
theorem Ac3(l:List Int):cm 2 [] [none,G ([]++dp l)]=J:=by simp[cm,Dw]
noncomputable abbrev uf:=Tryz.f175
theorem ZY(l:List Int)(hl:I l<=1000000):F0 175 [cw l] (cw l):=by
 by_cases h:l=[]
 ·subst h
  refine Su (ds:=[]) (ds':=[]) fun a cap=>?_
  cases a with
  |none=>
   refine sv uf 8 [] .r (bt (ai [])=cw []) ?_
   rfl
  |some a=>
   refine sv uf 8 [] (.a 1<|.h (.q 3 2)<|.h (.un 6)<|.r) (Q nV/\Ao 0 8/\bt (ai [])=cw []) ⟨rfl,⟨by simp,by simp⟩,?_⟩
   rfl
 ·exact sv uf 8 [] (.a 1<|.w .r) (U vi l≠ []/\Q nV/\Ao (I nV+I (U vi l)) 8/\(∀(y:V),y∈U vi l->V.size y=1)/\Q (cw l)) ⟨by simpa using h,rfl,⟨by simp;omega,by simp;omega⟩,Hy l,rfl⟩
theorem VO(l:List Int)(hl:I l<=1000000)(h:l≠ []):Aa PP 175 [cw l] bd (.arr 1 0 (I l)) ⟨[none,G (dp l)],[]⟩:=by
 refine sv uf 8 [] (.h .g<|.h (.q 3 3)<|.h (.ga 7) .ro) (U vi l≠ []/\Q 0/\U vi l≠ []/\(∀(y:V),y∈U vi l->V.size y=1)/\Ao (0+I (U vi l)) 8/\cm 2 [] [none,G ([]++Ab (U vi l))]=J/\[none,G ([]++Ab (U vi l))]=[none,G (dp l)]/\bo 1 0 (0+I (U vi l))=bo 1 0 (I l)) ⟨by simpa using h,rfl,by simpa using h,Hy l,⟨by simp;omega,by simp;omega⟩,?_,?_,?_⟩
 ·rw[Zh];exact Ac3 l
 ·simp[Zh]
 ·simp
theorem AbJ(l:List (List UInt8)):∀y∈l.map ae,y.size=1:=by simp[V.size]
noncomputable abbrev Alw:=Tryz.f154
noncomputable abbrev gp:=(br 1 [])
theorem AcX(n:Nat)(hn:n<=1000000):Aa PP 154 [.v .nils,di n] bd (.acc 1 []) ⟨[],[(1,1,[])]⟩:=by
 have h1:yt.wrap (0-0)=0:=by decide
 by_cases h:n=0
 ·subst h
  exact sv Alw 27 [] (.f<|.f<|.h (.q 6 0)<|.h (.nw 0 1 1) .r) (Y ((↑0:Int)<0)=O/\Y (yu yt ((↑0:Int)-yu yt (0-0))>0)=O/\Q [(1,1,nV)]/\Q gp) ⟨by decide,by decide,rfl,rfl⟩
 ·refine sv Alw 27 [] (.f<|.t<|.a 1 .r) (Y ((n:Int)<0)=O/\Y (yu yt ((n:Int)-yu yt (0-0))>0)=J/\iz 0=0/\0<yu yt ((n:Int)-yu yt (0-0))/\Ao (Z (yu yt ((n:Int)-yu yt (0-0)))) 16/\iz 0=0/\Q [(1,1,nV)]/\Q gp) ?_
  have h2:yt.wrap ((n:Int)-yt.wrap (0-0))=n:=by rw[h1,Al];omega
  rw[h2]
  refine⟨by simp,by simp;omega,by simp,by omega,⟨by simp;omega,by simp;omega⟩,by simp,rfl,rfl⟩
noncomputable abbrev mt:=Tryz.f109
noncomputable def W0:=yl mt
abbrev Ht(ls:List (List (List UInt8))):List V:=ls.map fun l=>.list (l.map ae)
noncomputable abbrev iw:=[1,1,1,1,0,1,0,0]
noncomputable abbrev ky:=fun a₀=>(ai (U ae a₀))
noncomputable abbrev sc:=fun a₀=>(bi [] [(1,1,U ae (flatten a₀))])
theorem VF(ls:List (List (List UInt8)))(hl:I ls<=1000)(ht:I ls.flatten<=1000000)(n:Nat):∀k:Nat,I ls-k=n->
  Rn PP mt 0 (.acc 1 (ls.flatten.map ae)) ⟨[],[(1,1,ls.flatten.map ae)]⟩ ([kl W0 [1,1,1,1,0,1,0,0],.blk 2,kc W0 [1,1,1,1,1]]++[]) (ba 36 [(0,dl (Ht ls)),(6,.acc 1 ((ls.take k).flatten.map ae)),(25,dl (Ht ls)),(26,di (I ls)),(27,di k)]) ⟨[],[(1,1,(ls.take k).flatten.map ae)]⟩:=by
 induction n using Nat.strongRecOn with
 |_ n ih=>
 intro k hn
 refine lv 36 [] (.b (.e fun x:List (List UInt8)=>.x (.list (x.map ae))<|.w<|.ls [ke 0,ch 6 (.acc 1 ((ls.take (k+1)).flatten.map ae)),ke 25,ke 26,ch 27 (di (k+1:Nat))] ⟨[],[(1,1,(ls.take (k+1)).flatten.map ae)]⟩) .r) ((Y ((k:Int)<(I ls:Int))=J->∃a,0<=(k:Int)/\(Ht ls)[Z (k:Int)]?=G (ky a)/\U ae (flatten (take k ls))=U ae (flatten (take k ls))/\Ao (I (U ae (flatten (take k ls)))+I (U ae a)) 16/\(∀(y:V),y∈U ae a->V.size y=1)/\br 1 (U ae (flatten (take k ls))++U ae a)=br 1 (U ae (flatten (take (k+1) ls)))/\di (yu yt ((k:Int)+1))=di (↑(k+1):Int)/\[(1,1,U ae (flatten (take k ls))++U ae a)]=[(1,1,U ae (flatten (take (k+1) ls)))]/\Nv.It (AB (CN 0) PP (fun env σ1=>Az PP mt env σ1 (br 1 (U ae (flatten ls))) (sc ls)) [kl W0 iw,bh 2,kc W0 [1,1,1,1,1]] (ba 36 [(0,bt (ai (Ht ls))),(6,br 1 (U ae (flatten (take (k+1) ls)))),(25,bt (ai (Ht ls))),(26,di (I ls:Int)),(27,di (↑(k+1):Int))]) (bi [] [(1,1,U ae (flatten (take (k+1) ls)))])))/\(Y ((k:Int)<(I ls:Int))=O->[(1,1,U ae (flatten (take k ls)))]=[(1,1,U ae (flatten ls))]/\br 1 (U ae (flatten (take k ls)))=br 1 (U ae (flatten ls)))) ⟨fun h=>?_,fun h=>?_⟩
 ·have hk:k<I ls:=by simpa using h
  have hx:ls[k]?=G ls[k]:=HA hk
  have hf:=DJ hk
  have hle:=FP ls (k+1)
  have hih:=ih (I ls- (k+1)) (by omega) (k+1) rfl
  rw[hf] at hle hih⊢
  generalize ls[k]=x at hx hle hih⊢
  simp only[HO] at hle
  refine⟨x,by omega,by simp[hx],rfl,MT (by omega) (by decide),AbJ x,by simp,Ae,by simp,⟨hih⟩⟩
 ·have hk:I ls<=k:=by simpa using h
  rw[Ic hk];exact⟨rfl,rfl⟩
noncomputable abbrev qr:=(bi [] [(1,1,[])])
theorem VG(ls:List (List (List UInt8)))(hl:I ls<=1000)(ht:I ls.flatten<=1000000)(n:Nat):∀k:Nat,I ls-k=n->
  Rn PP mt 0 (.acc 1 (ls.flatten.map ae)) ⟨[],[(1,1,ls.flatten.map ae)]⟩ ([kl W0 [1,1,0,1,0,0],.blk 0,kc W0 [1,1,1]]++[]) (ba 36 [(0,dl (Ht ls)),(3,di ((ls.take k).flatten.length:Nat)),(9,dl (Ht ls)),(10,di (I ls)),(11,di k)]) bd:=by
 induction n using Nat.strongRecOn with
 |_ n ih=>
 intro k hn
 refine lv 36 [] (.b (.e fun x:List (List UInt8)=>.x (.list (x.map ae))<|.f<|.l [ke 0,ch 3 (di ((ls.take (k+1)).flatten.length:Nat)),ke 9,ke 10,ch 11 (di (k+1:Nat))]) (.h (.ckn 1 1 1 [])<|.ls [ke 0,ch 6 (.acc 1 ((ls.take 0).flatten.map ae)),ke 25,ch 26 (di (I ls)),ch 27 (di (0:Nat))] ⟨[],[(1,1,(ls.take 0).flatten.map ae)]⟩)) ((Y ((k:Int)<(I ls:Int))=J->∃a,0<=(k:Int)/\(Ht ls)[Z (k:Int)]?=G (ky a)/\Y (yu yt ((I (flatten (take k ls)):Int)+(I (U ae a):Int))<0)=O/\di (yu yt ((I (flatten (take k ls)):Int)+(I (U ae a):Int)))=di (I (flatten (take (k+1) ls)):Int)/\di (yu yt ((k:Int)+1))=di (↑(k+1):Int)/\Nv.It (AB (CN 0) PP (fun env σ1=>Az PP mt env σ1 (br 1 (U ae (flatten ls))) (sc ls)) [kl W0 d5,bh 0,kc W0 [1,1,1]] (ba 36 [(0,bt (ai (Ht ls))),(3,di (I (flatten (take (k+1) ls)):Int)),(9,bt (ai (Ht ls))),(10,di (I ls:Int)),(11,di (↑(k+1):Int))]) bd))/\(Y ((k:Int)<(I ls:Int))=O->Aa PP 154 [dn,di (I (flatten (take k ls)):Int)] dh gp qr/\Q gp/\di (I (Ht ls):Int)=di (I ls:Int)/\di 0=di (↑0:Int)/\Q [(1,1,nV)]/\I0 mt 0 (br 1 (U ae (flatten ls))) (sc ls) [kl W0 iw,bh 2,kc W0 [1,1,1,1,1]] (ba 36 [(0,bt (ai (Ht ls))),(6,br 1 []),(25,bt (ai (Ht ls))),(26,di (I ls:Int)),(27,di (↑0:Int))]) qr)) ⟨fun h=>?_,fun h=>?_⟩
 ·have hk:k<I ls:=by simpa using h
  have hx:ls[k]?=G ls[k]:=HA hk
  have hf:=HX I (DJ hk)
  rw[HO] at hf
  have hle:=FP ls (k+1)
  generalize ls[k]=x at hx hf⊢
  have h2:yt.wrap ((((ls.take k).flatten.length:Nat):Int)+(I (x.map ae):Int))=(((ls.take (k+1)).flatten.length:Nat):Int):=by rw[Al (by simp only[H9];omega) (by simp only[H9];omega),hf];simp
  refine⟨x,by omega,by simp[hx],by rw[h2];simp,by rw[h2],Ae,⟨?_⟩⟩
  exact ih (I ls- (k+1)) (by omega) (k+1) rfl
 ·have hk:I ls<=k:=by simpa using h
  rw[Ic hk]
  refine⟨AcX (I ls.flatten) ht,rfl,by simp,rfl,rfl,⟨?_⟩⟩
  exact VF ls hl ht _ 0 rfl
theorem ZT(ls:List (List (List UInt8)))(hl:I ls<=1000)(ht:I ls.flatten<=1000000):Aa PP 109 [dl (Ht ls)] bd (.acc 1 (ls.flatten.map ae)) ⟨[],[(1,1,ls.flatten.map ae)]⟩:=by
 refine sv mt 36 [] (.l [ke 0,ch 3 (di ((ls.take 0).flatten.length:Nat)),ke 9,ch 10 (di (I ls)),ch 11 (di (0:Nat))]) (Q (di 0)/\di (I (Ht ls):Int)=di (I ls:Int)/\Q (di 0)/\I0 mt (I bd.H) (br 1 (U ae (flatten ls))) (sc ls) [kl W0 d5,bh 0,kc W0 [1,1,1]] (ba 36 [(0,dl (Ht ls)),(3,di (I (flatten (take 0 ls)):Int)),(9,dl (Ht ls)),(10,di (I ls:Int)),(11,di (↑0:Int))]) bd) ⟨rfl,by simp,rfl,⟨?_⟩⟩
 exact VG ls hl ht _ 0 rfl
structure Tk where
 place:Int
 low:Int
 high:Int
 deriving DecidableEq,Inhabited
abbrev dx(t:Tk):V:=.agg [vi t.place,vi t.low,vi t.high]
abbrev AA(l:List Tk):V:=.list (l.map dx)
structure cp where
 name:List UInt8
 aj:Int
 to:Int
 am:List Int
 ak:List Int
 move:List Int
 chan:Int
 act:Int
 letter:Int
 path:List Int
 next:List Int
 ar:List Tk
 aq:List Int
 second:Int
 deriving DecidableEq,Inhabited
abbrev Ai(r:cp):V:=.agg [.str r.name,vi r.aj,vi r.to,cz r.am,cz r.ak,cz r.move,vi r.chan,vi r.act,vi r.letter,cz r.path,cz r.next,AA r.ar,cz r.aq,vi r.second]
abbrev Dq(l:List cp):V:=.list (l.map Ai)
abbrev co(l:List (List UInt8)):V:=.list (l.map ae)
structure b9 where
 kind:Int
 aw:List (List UInt8)
 ay:List (List UInt8)
 ax:List (List UInt8)
 au:List Int
 ao:Int
 age:Int
 av:List cp
 start:bc
 deriving Inhabited
abbrev A1(m:b9):V:=.agg [vi m.kind,co m.aw,co m.ay,co m.ax,cz m.au,vi m.ao,vi m.age,Dq m.av,vi m.start.n,dt m.start.az]
abbrev Af(m:b9):D:=.v (A1 m)
abbrev Cu(r:cp):D:=.v (Ai r)
def Ay(x a b:Int):Bool:=Y (a<=x)&&Y (x<=b)
noncomputable abbrev AkP:=Tryz.f68
theorem DN(x a b:Int):F0 68 [di x,di a,di b] (db (Ay x a b)):=by
 refine sv AkP 15 [] (.b .r .r) ((Y (x>=a)=J->db (Y (x<=b))=db (Ay x a b))/\(Y (x>=a)=O->db O=db (Ay x a b))) ⟨fun h=>?_,fun h=>?_⟩
 ·have h:a<=x:=by simpa using h
  simp[Ay,h]
 ·have h:¬a<=x:=by simpa using h
  simp[Ay,h]
noncomputable abbrev AfR:=Tryz.f113
theorem Df(x:Int)(n:Nat)(hn:n<=1000000):F0 113 [di x,di n] (db (Ay x 0 (n-1))):=by
 refine sv AfR 9 [] (.c (db (Ay x 0 (n-1))) .r) (F0 68 [di x,di 0,di (yu yt ((n:Int)-1))] (db (Ay x 0 ((n:Int)-1)))/\Q (db (Ay x 0 ((n:Int)-1)))) ⟨?_,rfl⟩
 rw[Al]
 exact DN x 0 (n-1)
noncomputable abbrev AkB:=Tryz.f119
noncomputable abbrev AiD:=Tryz.f166
theorem Vr(F:yx)(fs cs:List V)(p:Int->Bool)(x:Int)(hp:F0 F ((fs++[vi x]++cs).map .v) (db (p x))):F0 166 [di x,.v (.ref (.fn F fs cs))] (db (!p x)):=by
 exact sv AiD 8 [] (.c (db (p x)) .r) (_/\Q (db !p x)) ⟨hp,rfl⟩
theorem J8(F:yx)(fs cs:List V)(p:Int->Bool)(l:List Int)(hl:I l<=1000000)(hp:∀x∈l,F0 F ((fs++[vi x]++cs).map .v) (db (p x))):F0 119 [cw l,.v (.fn F fs cs)] (db (l.all p)):=by
 refine sv AkB 9 [3] (.c (db (l.any fun x=> !p x)) .r) (F0 107 [cw l,bt (bw 166 [] [bz (bw F fs cs)])] (db (List.any l fun x=> !p x))/\(db !List.any l fun x=> !p x)=db (List.all l p)) ?_
 refine⟨Ez _ [] _ (fun x=> !p x) l hl fun x hx=>Vr F fs cs p x (hp x hx),?_⟩
 congr 2
 induction l with
 |nil=>rfl
 |cons x l ih=>
  have h:=ih (by simp at hl;omega) (fun x hx=>hp x (by simp[hx]))
  simp only[List.any_cons,List.all_cons,Bool.not_or,Bool.not_not,h]
noncomputable abbrev AlS:=Tryz.f114
noncomputable abbrev AkN:=Tryz.f159
abbrev D4(x:Int):Bool:=Ay x 0 16
theorem Q0(x:Int):F0 159 [di x] (db (D4 x)):=by
 exact sv AkN 5 [] (.c (db (D4 x)) .r) (_/\Q (db (D4 x))) ⟨DN x 0 16,rfl⟩
structure cp.short(r:cp):Prop where
 am:I r.am<=1000000
 ak:I r.ak<=1000000
 move:I r.move<=1000000
 path:I r.path<=1000000
 next:I r.next<=1000000
 ar:I r.ar<=1000000
 aq:I r.aq<=1000000
def BR(m:b9)(r:cp):Bool:=((I r.am:Int)==I m.ay)&&(((I r.ak:Int)==I m.ay)&&(r.am.all D4&&r.ak.all D4))
noncomputable abbrev dm:=fun a₀=>(U ae a₀)
noncomputable abbrev Ap7:=fun a₀=>F0 119 [cw a₀,bt (bw 159 [] [])] (db (List.all a₀ D4))
theorem AdG(m:b9)(r:cp)(hr:r.short):F0 114 [Af m,Cu r] (db (BR m r)):=by
 refine sv AlS 34 [2,3] (.b (.b (.c (db (r.am.all D4))<|.b (.c (db (r.ak.all D4)) .r) .r) .r) .r) ((((I (U vi r.am):Int)==(I (dm m.ay):Int))=J->(((I (U vi r.ak):Int)==(I (dm m.ay):Int))=J->Ap7 r.am/\(List.all r.am D4=J->Ap7 r.ak/\db (List.all r.ak D4)=db (BR m r))/\(List.all r.am D4=O->db O=db (BR m r)))/\(((I (U vi r.ak):Int)==(I (dm m.ay):Int))=O->db O=db (BR m r)))/\(((I (U vi r.am):Int)==(I (dm m.ay):Int))=O->db O=db (BR m r))) ?_
 refine⟨fun h1=>⟨fun h2=>⟨J8 _ [] [] D4 _ hr.am fun x _=>Q0 x,fun h3=>⟨J8 _ [] [] D4 _ hr.ak fun x _=>Q0 x,?_⟩,fun h3=>?_⟩,fun h2=>?_⟩,fun h1=>?_⟩<;>(simp only[H9] at*;simp[BR, *])
noncomputable abbrev AlL:=Tryz.f115
noncomputable abbrev AkA:=Tryz.f160
theorem YK(n:Nat)(hn:n<=1000000)(x:Int):F0 160 [di x,.v (.ref (vi n))] (db (Ay x (-1) (n-1))):=by
 refine sv AkA 8 [] (.c (db (Ay x (-1) (n-1))) .r) (F0 68 [di x,di (-1),di (yu yt ((n:Int)-1))] (db (Ay x (-1) ((n:Int)-1)))/\Q (db (Ay x (-1) ((n:Int)-1)))) ⟨?_,rfl⟩
 rw[Al]
 exact DN x (-1) (n-1)
def De(m:b9)(r:cp):Bool:=((I r.move:Int)==0)||(((I r.move:Int)==I m.ay)&&r.move.all fun x=>Ay x (-1) (I m.ay-1))
theorem Ac9(m:b9)(hm:I m.ay<=1000000)(r:cp)(hr:r.short):F0 115 [Af m,Cu r] (db (De m r)):=by
 refine sv AlL 26 [2,3] (.h (.q 2 0)<|.h (.f1 0 [5])<|.b .r (.b (.c (db (r.move.all fun x=>Ay x (-1) (I m.ay-1))) .r) .r)) ((((I (U vi r.move):Int)==0)=J->db J=db (De m r))/\(((I (U vi r.move):Int)==0)=O->(((I (U vi r.move):Int)==(I (dm m.ay):Int))=J->F0 119 [cw r.move,bt (bw 160 [] [bz (vi (I (dm m.ay):Int))])] (db (List.all r.move fun x=>Ay x (-1) ((I m.ay:Int)-1)))/\db (List.all r.move fun x=>Ay x (-1) ((I m.ay:Int)-1))=db (De m r))/\(((I (U vi r.move):Int)==(I (dm m.ay):Int))=O->db O=db (De m r)))) ?_
 refine⟨fun h1=>?_,fun h1=>⟨fun h2=>⟨J8 _ [] [_] _ _ hr.move fun x _=>by simpa using YK (I m.ay) hm x,?_⟩,fun h2=>?_⟩⟩<;>(simp only[H9] at*;simp[De, *])
noncomputable abbrev AkQ:=Tryz.f116
def Eg(m:b9)(r:cp):Bool:=if (r.act==0)=J then(r.chan==0)&&(r.letter==0) else Ay r.act 1 2&&(Ay r.chan 0 (I m.ay-1)&&Ay r.letter 0 (I m.ax-1))
noncomputable abbrev Ani:=fun a₀ b₀=>F0 113 [di a₀,di (I (dm b₀):Int)] (db (Ay a₀ 0 ((I b₀:Int)-1)))
theorem Aaz(m:b9)(hm:I m.ay<=1000000)(hl:I m.ax<=1000000)(r:cp):F0 116 [Af m,Cu r] (db (Eg m r)):=by
 refine sv AkQ 35 [2,3] (.b (.b .r .r) (.c (db (Ay r.act 1 2))<|.b (.c (db (Ay r.chan 0 (I m.ay-1)))<|.b (.c (db (Ay r.letter 0 (I m.ax-1))) .r) .r) .r)) (((r.act==0)=J->((r.chan==0)=J->db (r.letter==0)=db (Eg m r))/\((r.chan==0)=O->db O=db (Eg m r)))/\((r.act==0)=O->F0 68 [di r.act,di 1,di 2] (db (Ay r.act 1 2))/\(Ay r.act 1 2=J->F0 113 [di r.chan,di (I (U ae m.ay):Int)] (db (Ay r.chan 0 ((I m.ay:Int)-1)))/\(Ay r.chan 0 ((I m.ay:Int)-1)=J->F0 113 [di r.letter,di (I (U ae m.ax):Int)] (db (Ay r.letter 0 ((I m.ax:Int)-1)))/\db (Ay r.letter 0 ((I m.ax:Int)-1))=db (Eg m r))/\(Ay r.chan 0 ((I m.ay:Int)-1)=O->db O=db (Eg m r)))/\(Ay r.act 1 2=O->db O=db (Eg m r)))) ?_
 refine⟨fun h1=>⟨fun h2=>?_,fun h2=>?_⟩,fun h1=>⟨DN _ 1 2,fun h2=>⟨by simpa using Df r.chan (I m.ay) hm,fun h3=>⟨by simpa using Df r.letter (I m.ax) hl,?_⟩,fun h3=>?_⟩,fun h2=>?_⟩⟩<;>(try simp only[H9] at*)<;>simp[Eg, *]
noncomputable abbrev Aly:=Tryz.f168
theorem Z4(a:List Tk):F0 168 [.v (AA a),.v (AA [])] (db (Y (a=[]))):=by
 refine sv Aly 26 [] (.b .r (.n<|.f .r)) ((((I (U dx a):Int) !=(I (U dx []):Int))=J->db O=db (Y (a=[])))/\(((I (U dx a):Int) !=(I (U dx []):Int))=O->Y (0<(I (U dx a):Int))=O/\db J=db (Y (a=[])))) ⟨fun h=>?_,fun h=>?_⟩
 ·have:a≠ []:=by rintro rfl;simp at h
  simp[this]
 ·have:a=[]:=by simpa using h
  subst this
  simp
def BU(a b:cp):Bool:=(a.name==b.name)&&((a.aj==b.aj)&&((a.to==b.to)&&(Y (a.am=b.am)&&(Y (a.ak=b.ak)&&(Y (a.move=b.move)&&((a.chan==b.chan)&&((a.act==b.act)&&((a.letter==b.letter)&&(Y (a.path=b.path)&&(Y (a.next=b.next)&&(Y (a.ar=[])&&(Y (a.aq=b.aq)&&(a.second==b.second)))))))))))))
noncomputable abbrev Ai2:=Tryz.f121
theorem Px(a b:cp)(ha:a.short)(hb:b.ar=[]):F0 121 [Cu a,Cu b] (db (BU a b)):=by
 refine sv Ai2 101 [2,3] (.b (.b (.b (.c (db (Y (a.am=b.am)))<|.b (.c (db (Y (a.ak=b.ak)))<|.b (.c (db (Y (a.move=b.move)))<|.b (.b (.b (.b (.c (db (Y (a.path=b.path)))<|.b (.c (db (Y (a.next=b.next)))<|.b (.c (db (Y (a.ar=[])))<|.b (.c (db (Y (a.aq=b.aq)))<|.b .r .r) .r) .r) .r) .r) .r) .r) .r) .r) .r) .r) .r) .r) (((a.name==b.name)=J->((a.aj==b.aj)=J->((a.to==b.to)=J->F0 167 [cw a.am,cw b.am] (db (Y (a.am=b.am)))/\(Y (a.am=b.am)=J->F0 167 [cw a.ak,cw b.ak] (db (Y (a.ak=b.ak)))/\(Y (a.ak=b.ak)=J->F0 167 [cw a.move,cw b.move] (db (Y (a.move=b.move)))/\(Y (a.move=b.move)=J->((a.chan==b.chan)=J->((a.act==b.act)=J->((a.letter==b.letter)=J->F0 167 [cw a.path,cw b.path] (db (Y (a.path=b.path)))/\(Y (a.path=b.path)=J->F0 167 [cw a.next,cw b.next] (db (Y (a.next=b.next)))/\(Y (a.next=b.next)=J->F0 168 [bt (AA a.ar),bt (AA b.ar)] (db (Y (a.ar=[])))/\(Y (a.ar=[])=J->F0 167 [cw a.aq,cw b.aq] (db (Y (a.aq=b.aq)))/\(Y (a.aq=b.aq)=J->db (a.second==b.second)=db (BU a b))/\(Y (a.aq=b.aq)=O->db O=db (BU a b)))/\(Y (a.ar=[])=O->db O=db (BU a b)))/\(Y (a.next=b.next)=O->db O=db (BU a b)))/\(Y (a.path=b.path)=O->db O=db (BU a b)))/\((a.letter==b.letter)=O->db O=db (BU a b)))/\((a.act==b.act)=O->db O=db (BU a b)))/\((a.chan==b.chan)=O->db O=db (BU a b)))/\(Y (a.move=b.move)=O->db O=db (BU a b)))/\(Y (a.ak=b.ak)=O->db O=db (BU a b)))/\(Y (a.am=b.am)=O->db O=db (BU a b)))/\((a.to==b.to)=O->db O=db (BU a b)))/\((a.aj==b.aj)=O->db O=db (BU a b)))/\((a.name==b.name)=O->db O=db (BU a b))) ?_
 repeat' first|with_reducible refine And.intro ?_ ?_|intro _
 all_goals first|exact Eb _ _ ha.am|exact Eb _ _ ha.ak|exact Eb _ _ ha.move|exact Eb _ _ ha.path|exact Eb _ _ ha.next|exact Eb _ _ ha.aq|(rw[hb];exact Z4 _)|simp[BU, *]
def Oy(r:cp):cp:={ name:=r.name,aj:=r.aj,to:=r.to,am:=r.am,ak:=r.ak,move:=r.move,chan:=0,act:=0,letter:=0,path:=[],next:=[],ar:=[],aq:=[],second:=0 }
def LR(r:cp):cp:={ name:=r.name,aj:=r.aj,to:=r.to,am:=[],ak:=[],move:=[],chan:=r.chan,act:=r.act,letter:=r.letter,path:=[],next:=[],ar:=[],aq:=[],second:=0 }
noncomputable abbrev Zm:=Tryz.f74
def DW(m:b9)(r:cp):Bool:=Ay r.to 0 (I m.aw-1)&&(Ay r.aj 0 (I m.aw-1)&&(BR m r&&(De m r&&BU r (Oy r))))
structure b9.short(m:b9):Prop where
 aw:I m.aw<=1000000
 ay:I m.ay<=1000000
 ax:I m.ax<=1000000
 au:I m.au<=1000000
 av:I m.av<=1000000
 rule:∀r∈m.av,r.short
theorem Rq(m:b9)(hm:m.short)(hk:m.kind=1)(r:cp)(hr:r.short):F0 74 [Af m,Cu r] (db (DW m r)):=by
 refine sv Zm 142 [2,3] (.c (db (Ay r.to 0 (I m.aw-1)))<|.b .r<|.c (db (Ay r.aj 0 (I m.aw-1)))<|.b (.t .r)<|.k<|.t<|.c (db (BR m r))<|.b (.c (db (De m r))<|.b (.c (db (BU r (Oy r))) .r) .r) .r) (F0 113 [di r.to,di (I (U ae m.aw):Int)] (db (Ay r.to 0 ((I m.aw:Int)-1)))/\((!Ay r.to 0 ((I m.aw:Int)-1))=J->db O=db (DW m r))/\((!Ay r.to 0 ((I m.aw:Int)-1))=O->F0 113 [di r.aj,di (I (U ae m.aw):Int)] (db (Ay r.aj 0 ((I m.aw:Int)-1)))/\((!Ay r.aj 0 ((I m.aw:Int)-1))=J->(m.kind !=6)=J/\db O=db (DW m r))/\((!Ay r.aj 0 ((I m.aw:Int)-1))=O->(m.kind==1)=J/\F0 114 [Af m,Cu r] (db (BR m r))/\(BR m r=J->F0 115 [Af m,Cu r] (db (De m r))/\(De m r=J->F0 121 [Cu r,bt (ab [ae r.name,vi r.aj,vi r.to,cz r.am,cz r.ak,cz r.move,vi 0,vi 0,vi 0,ai [],ai [],ai [],ai [],vi 0])] (db (BU r (Oy r)))/\db (BU r (Oy r))=db (DW m r))/\(De m r=O->db O=db (DW m r)))/\(BR m r=O->db O=db (DW m r))))) ?_
 repeat' first|with_reducible refine And.intro ?_ ?_|intro _
 all_goals first|(simpa using Df _ _ hm.aw)|exact AdG m r hr|exact Ac9 m hm.ay r hr|exact Px r (Oy r) hr rfl|simp_all [DW]
def EO(m:b9)(r:cp):Bool:=Ay r.to 0 (I m.aw-1)&&(Ay r.aj 0 (I m.aw-1)&&(Eg m r&&BU r (LR r)))
theorem Rp(m:b9)(hm:m.short)(hk:m.kind=2∨m.kind=3)(r:cp)(hr:r.short):F0 74 [Af m,Cu r] (db (EO m r)):=by
 refine sv Zm 142 [2,3] (.c (db (Ay r.to 0 (I m.aw-1)))<|.b .r<|.c (db (Ay r.aj 0 (I m.aw-1)))<|.b (.t .r)<|.k<|.f<|.b (.k<|.c (db (Eg m r))<|.b (.c (db (BU r (LR r))) .r) .r) (.t<|.c (db (Eg m r))<|.b (.c (db (BU r (LR r))) .r) .r)) (F0 113 [di r.to,di (I (U ae m.aw):Int)] (db (Ay r.to 0 ((I m.aw:Int)-1)))/\((!Ay r.to 0 ((I m.aw:Int)-1))=J->db O=db (EO m r))/\((!Ay r.to 0 ((I m.aw:Int)-1))=O->F0 113 [di r.aj,di (I (U ae m.aw):Int)] (db (Ay r.aj 0 ((I m.aw:Int)-1)))/\((!Ay r.aj 0 ((I m.aw:Int)-1))=J->(m.kind !=6)=J/\db O=db (EO m r))/\((!Ay r.aj 0 ((I m.aw:Int)-1))=O->(m.kind==1)=O/\((m.kind==2)=J->F0 116 [Af m,Cu r] (db (Eg m r))/\(Eg m r=J->F0 121 [Cu r,bt (ab [ae r.name,vi r.aj,vi r.to,ai [],ai [],ai [],vi r.chan,vi r.act,vi r.letter,ai [],ai [],ai [],ai [],vi 0])] (db (BU r (LR r)))/\db (BU r (LR r))=db (EO m r))/\(Eg m r=O->db O=db (EO m r)))/\((m.kind==2)=O->(m.kind==3)=J/\F0 116 [Af m,Cu r] (db (Eg m r))/\(Eg m r=J->F0 121 [Cu r,bt (ab [ae r.name,vi r.aj,vi r.to,ai [],ai [],ai [],vi r.chan,vi r.act,vi r.letter,ai [],ai [],ai [],ai [],vi 0])] (db (BU r (LR r)))/\db (BU r (LR r))=db (EO m r))/\(Eg m r=O->db O=db (EO m r)))))) ?_
 repeat' first|with_reducible refine And.intro ?_ ?_|intro _
 all_goals first|(simpa using Df _ _ hm.aw)|exact Aaz m hm.ay hm.ax r|exact Px r (LR r) hr rfl|(rcases hk with hk|hk<;>simp_all [EO])
end Go.Proofs.YtfhgjfkleggjfaaGreatDoor

namespace Go.Nv
open Go.Dv
open Go.IntKind (u64)
open Go.IntKind renaming wrap → yu, i64 → yt
open List renaming length → I, map → U, drop → W
open Option renaming some → G
open Bool renaming true → J, false → O
open Decidable renaming decide → Y
open Int renaming toNat → Z
open Go.Dv.V renaming list → ai, str → ae, agg → ab, int → aa, ref → bz, fn → bw, nils → bv, bool → bu
open Go.Dv.D renaming v → bt, acc → br, ptr → bq, arr → bo, gro → bm, tup → bl, undef → bk, dagg → bj
open Go.Dv.St renaming mk → bi
open Go.Dv.KI renaming blk → bh
open _root_.ByteArray renaming mk → bf
open Go renaming Operand → x8, Program → x7, TypeId → x6, World → x5, Value → yz, Oper → yy, FuncId → yx, Func → yw, IntKind → yv
abbrev CS(m r:Nat)(l:List (List UInt8))(E0 E:cf):Prop:=rb r (CY l) E0 E/\E.g.n<=m
theorem Aik(m r:Nat)(l:List (List UInt8)):OX (CS m r l):=⟨fun h _ _ _ hw=>h.1.link _ _ _ hw⟩
section
variable {P : x7} {R : List D -> St -> Prop} {k : List KI} {env : List D} {σ : St} {ops : Array yy} {L : List yy} {o : yy}
theorem UE{m:Nat}(t:Nat){ty:x6}(hg:CK env ops o=G true)(ht:o.dst=G t)(hop:o.op=.makeMap ty none)
  (hk:∀r:Nat,B8 (CS (I σ.H) r []) P R k ops L (env.set t (.raw (.map (G r)))) σ):B8 (CN m) P R k ops (o::L) env σ:=by
 intro E0 E g a w B hC hf hB
 unfold wpList
 rw[HV (CP hf.env hg)]
 refine .inl ?_
 have hw:=(M5 m).ok hC hf.wi
 have hput:=hf.put (hf.wi.alloc (.map #[] 0)) g.le_refl (d:=.raw (.map (G w.heap.size))) (u:=.map (G w.heap.size)) (by simp only[Ag]) (G t)
 have hsize:(w.alloc (.map #[] 0)).heap.size=w.heap.size+1:=by simp
 obtain⟨h1,h2⟩:=rb.of (r:=w.heap.size) (ob:=.map #[] 0) (w1:=w.alloc (.map #[] 0)) hw
  (fun b hb=>by
   by_cases hlt:b<w.heap.size
   ·exact heap_alloc_old w _ b hlt
   ·rw[Array.getElem?_eq_none (by omega),Array.getElem?_eq_none (by omega)])
  (heap_alloc_new w _) (by omega) rfl rfl rfl hw.size (hw.rep.new_none (HH _)) (fun i cs hi=>Nat.ne_of_lt (hw.rep.obj_lt hi)) (fun x hx u hu hb=>by have:=hw.rep.own_lt hx hu hb;omega)
 have:=hk w.heap.size E0 _ g _ _ B ⟨h1,Nat.le_of_eq hw.rep.n⟩ ⟨h2,hput.env,hput.defers⟩ hB
 unfold Oper.wp execOp
 simpa[hop,Instr.makeMap,ht,Oper.upon] using this
theorem XE{m:Nat}(t sm sk:Nat){ty kt et:x6}{r:Nat}{s:List UInt8}{l:List (List UInt8)}{inf:TypeInfo}(hg:CK env ops o=G true)(ht:o.dst=G t)(hop:o.op=.lookup ty (.tmp sm) (.tmp sk) false)
  (hty:P.underlying ty=G (.map kt et)) (hkt:P.underlying kt=G .string) (hi:P.info? et=G inf) (hz:inf.zero=G (.bool false)) (hm:env[sm]?=G (.raw (.map (G r)))) (hs:env[sk]?=G (.v (.str s)))
  (hk:B8 (CS m r l) P R k ops L (env.set t (.v (.bool (l.contains s)))) σ):B8 (CS m r l) P R k ops (o::L) env σ:=by
 intro E0 E g a w B hC hf hB
 unfold wpList
 rw[HV (CP hf.env hg)]
 refine .inl ?_
 have e1:a.eval (.tmp sm)=.map (G r):=by have:=F6 hf.env sm;rw[Tn hm] at this;simpa only[Ag] using this
 have e2:a.eval (.tmp sk)=.string ⟨s.toArray⟩:=by have:=F6 hf.env sk;rw[Tn hs] at this;simpa only[Ag,CZ] using this
 have hnow:=(hC.1.side.now hf.wi).1
 obtain⟨q,hq⟩:=OG s l 0 0
 have:=hk E0 E g _ _ B hC (hf.put hf.wi g.le_refl (d:=.v (.bool (l.contains s))) (u:=.bool (l.contains s)) (by simp[Ag]) (G t)) hB
 have hrun:(Instr.lookup ty (.map (G r)) (.string ⟨s.toArray⟩) false).run P w=.ok (.bool (l.contains s)) w:=by
  have hget:(getObj r).run P w=.ok (CY l) w:=by simp[getObj,Sem.run,hnow,CY]
  have hfk:(Instr.findKey kt (.string ⟨s.toArray⟩) (F9 0 l)).run P w=.ok (if l.contains s then G (q,.bool true) else none) w:=by simp only[Instr.findKey,Sem.run_bind,run_underlying hkt,Result.andThen_ok,hq,Sem.run_pure]
  have hck:∀b,(Instr.checkKey b 10000 kt (.string ⟨s.toArray⟩)).run P w=.ok () w:=fun b=>by
   rw[show(10000:Nat)=9999+1 from rfl];unfold Instr.checkKey;simp[run_underlying hkt]
  unfold Instr.lookup
  simp only[Sem.run_bind,run_underlying hty,Result.andThen_ok,hget,CY,Sem.run_pure,hck,hfk]
  cases hc:l.contains s with
  |true=>simp
  |false=>simp[zeroValue,typeInfo,hi,hz]
 unfold Oper.wp execOp
 simp only[hop,e1,e2,Sem.run_bind,hrun,Result.andThen_ok]
 simp only[Sem.run_pure,Oper.upon,ht]
 exact this
theorem XD{m:Nat}(sm sk:Nat){v:x8}{ty kt et:x6}{r:Nat}{s:List UInt8}{l:List (List UInt8)}(hg:CK env ops o=G true)(ht:o.dst=none)(hop:o.op=.mapUpdate ty (.tmp sm) (.tmp sk) v)(hv:iu env v=.v (.bool true))
  (hty:P.underlying ty=G (.map kt et)) (hkt:P.underlying kt=G .string) (hm:env[sm]?=G (.raw (.map (G r)))) (hs:env[sk]?=G (.v (.str s))) (hnew:l.contains s=O)
  (hk:B8 (CS (I σ.H) r (l++[s])) P R k ops L env σ):B8 (CS m r l) P R k ops (o::L) env σ:=by
 intro E0 E g a w B hC hf hB
 unfold wpList
 rw[HV (CP hf.env hg)]
 refine .inl ?_
 have e1:a.eval (.tmp sm)=.map (G r):=by have:=F6 hf.env sm;rw[Tn hm] at this;simpa only[Ag] using this
 have e2:a.eval (.tmp sk)=.string ⟨s.toArray⟩:=by have:=F6 hf.env sk;rw[Tn hs] at this;simpa only[Ag,CZ] using this
 have e3:a.eval v=.bool true:=by have:=LC hf.wi.rep.gl hf.env v;rw[hv] at this;simpa only[Ag,Es] using this
 obtain⟨hnow,hM,hobj,hown⟩:=hC.1.side.now hf.wi
 obtain⟨q,hq⟩:=OG s l 0 0
 rw[hnew] at hq
 have hlt:r<w.heap.size:=(I5.1 hnow).1
 obtain⟨h1,h2⟩:=rb.of (r:=r) (ob:=CY (l++[s])) (w1:={ w with heap:=w.heap.setIfInBounds r (CY (l++[s]))}) (hC.1.link _ _ _ hf.wi) (fun b hb=>by simp[Ne.symm hb]) (by simp[hlt]) (by simp) rfl rfl rfl hC.1.new hM hobj hown
 have:=hk E0 _ g a _ B ⟨h1,Nat.le_of_eq hf.wi.rep.n⟩ ⟨h2,hf.env,hf.defers⟩ hB
 have hrun:(Instr.mapUpdate ty (.map (G r)) (.string ⟨s.toArray⟩) (.bool true)).run P w=.ok () { w with heap:=w.heap.setIfInBounds r (CY (l++[s]))}:=by
  have hget:(getObj r).run P w=.ok (CY l) w:=by simp[getObj,Sem.run,hnow,CY]
  have hfk:(Instr.findKey kt (.string ⟨s.toArray⟩) (F9 0 l)).run P w=.ok none w:=by simp only[Instr.findKey,Sem.run_bind,run_underlying hkt,Result.andThen_ok,hq,Sem.run_pure];rfl
  have hck:∀b,(Instr.checkKey b 10000 kt (.string ⟨s.toArray⟩)).run P w=.ok () w:=fun b=>by
   rw[show(10000:Nat)=9999+1 from rfl];unfold Instr.checkKey;simp[run_underlying hkt]
  have hset:∀ob,(setObj r ob).run P w=.ok () { w with heap:=w.heap.setIfInBounds r ob }:=fun ob=>by simp[setObj,Sem.run,hnow,CY]
  unfold Instr.mapUpdate
  simp only[Sem.run_bind,run_underlying hty,Result.andThen_ok,hget,CY,hck,hfk]
  rw[hset]
  congr 3
  rw[Ml]
  simp
 unfold Oper.wp execOp
 simp only[hop,e1,e2,e3,Sem.run_bind,hrun,Result.andThen_ok]
 simp only[Sem.run_pure,Oper.upon,ht]
 exact this
end
def gg(L:List yy):yy:=match L with
 |o::_=>o
 |[]=>⟨none,.makeMap 0 none,0,"", #[],none⟩
theorem Tg{L:List yy}(h:L.isEmpty=O):L=gg L::L.tail:=by cases L with
 |nil=>simp at h
 |cons o L=>rfl
def vp:Op->Bool|.makeMap _ none=>true|_=>false
def ml:Op->x6|.makeMap t _=>t|.lookup t _ _ _=>t|.mapUpdate t _ _ _=>t|_=>0
def vo(sm sk:Nat):Op->Bool|.lookup _ (.tmp a) (.tmp b) false=>a==sm&&b==sk|_=>false
def vq(sm sk:Nat):Op->Bool|.mapUpdate _ (.tmp a) (.tmp b) (.const (.bool true))=>a==sm&&b==sk|_=>false
theorem Aig{o:Op}(h:vp o=J):o=.makeMap (ml o) none:=by
 unfold vp at h;split at h
 ·rfl
 ·exact absurd h (by simp)
theorem Aih{sm sk:Nat}{o:Op}(h:vo sm sk o=J):o=.lookup (ml o) (.tmp sm) (.tmp sk) false:=by
 unfold vo at h;split at h
 ·simp at h;simp[ml,h]
 ·exact absurd h (by simp)
theorem Aif{sm sk:Nat}{o:Op}(h:vq sm sk o=J):o=.mapUpdate (ml o) (.tmp sm) (.tmp sk) (.const (.bool true)):=by
 unfold vq at h;split at h
 ·simp at h;simp[ml,h]
 ·exact absurd h (by simp)
def r8(P:x7)(ty:x6):Bool:=match P.underlying ty with
 |some (.map kt et)=>(match P.underlying kt with
  |some .string=>true
  |_=>false)&&(match P.info? et with
  |some inf=>(match inf.zero with
   |some (.bool false)=>true
   |_=>false)
  |_=>false)
 |_=>false
theorem Aem{P:x7}{ty:x6}(h:r8 P ty=J):∃kt et inf,P.underlying ty=G (.map kt et)/\P.underlying kt=G .string/\P.info? et=G inf/\inf.zero=G (.bool false):=by
 unfold r8 at h
 split at h
 ·rename_i kt et h1
  simp only[HB] at h
  obtain⟨h2,h3⟩:=h
  split at h2
  ·rename_i h4
   split at h3
   ·rename_i inf h5
    split at h3
    ·rename_i h6
     exact⟨kt,et,inf,h1,h4,h5,h6⟩
    ·exact absurd h3 (by simp)
   ·exact absurd h3 (by simp)
  ·exact absurd h2 (by simp)
 ·exact absurd h (by simp)
theorem O5(n:Nat)(E:List (Nat×D))(t:Nat)(d:D):ba n (E++[(t,d)])=(ba n E).set t d:=by simp[ba,List.foldl_append]
section
variable {P : x7} {R : List D -> St -> Prop} {k : List KI} {nt : Nat} {E : List (Nat × D)} {σ : St} {ops : Array yy} {L0 : List yy}
theorem Rm{m:Nat}(t:Nat)(h0:L0.isEmpty=O)(hg:CK (ba nt E) ops (gg L0)=G true)(ht:(gg L0).dst=G t)(hop:vp (gg L0).op=J)
  (hk:∀r:Nat,B8 (CS (I σ.H) r []) P R k ops L0.tail (ba nt (E++[(t,.raw (.map (G r)))])) σ):B8 (CN m) P R k ops L0 (ba nt E) σ:=by
 rw[Tg h0]
 exact UE t hg ht (Aig hop) fun r=>by rw[←O5];exact hk r
theorem UF{m:Nat}(t sm sk:Nat){r:Nat}{s:List UInt8}{l:List (List UInt8)}(h0:L0.isEmpty=O)(hg:CK (ba nt E) ops (gg L0)=G true)(ht:(gg L0).dst=G t)(hop:vo sm sk (gg L0).op=J)
  (hty:r8 P (ml (gg L0).op)=J) (hm:(ba nt E)[sm]?=G (.raw (.map (G r)))) (hs:(ba nt E)[sk]?=G (.v (.str s)))
  (hk:B8 (CS m r l) P R k ops L0.tail (ba nt (E++[(t,.v (.bool (l.contains s)))])) σ):B8 (CS m r l) P R k ops L0 (ba nt E) σ:=by
 obtain⟨kt,et,inf,h1,h2,h3,h4⟩:=Aem hty
 rw[Tg h0]
 exact XE t sm sk hg ht (Aih hop) h1 h2 h3 h4 hm hs (by rw[←O5];exact hk)
theorem UD{m:Nat}(sm sk:Nat){r:Nat}{s:List UInt8}{l:List (List UInt8)}(h0:L0.isEmpty=O)(hg:CK (ba nt E) ops (gg L0)=G true)(ht:(gg L0).dst=none)(hop:vq sm sk (gg L0).op=J)
  (hty:r8 P (ml (gg L0).op)=J) (hm:(ba nt E)[sm]?=G (.raw (.map (G r)))) (hs:(ba nt E)[sk]?=G (.v (.str s))) (hnew:l.contains s=O)
  (hk:B8 (CS (I σ.H) r (l++[s])) P R k ops L0.tail (ba nt E) σ):B8 (CS m r l) P R k ops L0 (ba nt E) σ:=by
 obtain⟨kt,et,inf,h1,h2,h3,h4⟩:=Aem hty
 rw[Tg h0]
 exact XD sm sk hg ht (Aif hop) rfl h1 h2 hm hs hnew hk
end
section
variable {P : x7} {fn : yw} {d : D} {σ' : St} {m r : Nat} {l : List (List UInt8)} {k : List KI} {E : List (Nat × D)} {σ : St}
theorem XK(hm:P.follows .mixedOrders=J)(nt:Nat)(im:List Nat)(rg i:Nat){ops:Array yy}{L:List yy}(s:Sc)
  (h:AY (ba nt E) fun env=>Wr P im rg ops (fun L sl σ=>It (B8 (CS m r l) P (fun env σ1=>Az P fn env σ1 d σ') (k++[]) ops L (ba nt sl) σ)) L i s env σ fun s env σ=>vc (CS m r l) m P (fun env σ1=>Az P fn env σ1 d σ') (WO P fn.results.toList d σ') nt im [] 10000 s k env σ):
  B8 (CS m r l) P (fun env σ1=>Az P fn env σ1 d σ') k ops L (ba nt E) σ:=by
 have:=Oh hm (Aik m r l) m (fun _ _ h=>h.2) nt im rg i s h
 rwa[Iz] at this
theorem AhA(hm:P.follows .mixedOrders=J)(nt:Nat)(im:List Nat)(s:Sc)
  (h:AY (ba nt E) fun env=>vc (CS m r l) m P (fun env σ1=>Az P fn env σ1 d σ') (WO P fn.results.toList d σ') nt im [] 10000 (.h .n s) k env σ):
  AB (CS m r l) P (fun env σ1=>Az P fn env σ1 d σ') k (ba nt E) σ:=by
 have:=Aen (T:=[]) hm (Aik m r l) m (fun _ _ h=>h.2) nt im (.h .n s) h
 rwa[Iz] at this
end
end Go.Nv

namespace Go.Proofs.YtfhgjfkleggjfaaGreatDoor
open Go.Dv Go.Nv
set_option maxRecDepth 20000
open List (headD take)
open Go.IntKind (u64)
open Go.IntKind renaming wrap → yu, i64 → yt
open List renaming length → I, map → U, drop → W
open Option renaming some → G
open Bool renaming true → J, false → O
open Decidable renaming decide → Y
open Int renaming toNat → Z
open Go.Dv.V renaming list → ai, str → ae, agg → ab, int → aa, ref → bz, fn → bw, nils → bv, bool → bu
open Go.Dv.D renaming v → bt, acc → br, ptr → bq, arr → bo, gro → bm, tup → bl, undef → bk, dagg → bj
open Go.Dv.St renaming mk → bi
open Go.Dv.KI renaming blk → bh
open _root_.ByteArray renaming mk → bf
open Go renaming Operand → x8, Program → x7, TypeId → x6, World → x5, Value → yz, Oper → yy, FuncId → yx, Func → yw, IntKind → yv
noncomputable abbrev AlM:=Tryz.f155
noncomputable abbrev AlQ:=Tryz.f194
noncomputable abbrev Ak1:=Tryz.f157
def QG(c:UInt8):Bool:=Y ((c.toNat:Int)>=97)&&Y ((c.toNat:Int)<=122)
def ku(c:UInt8):Bool:=Y ((c.toNat:Int)>=48)&&Y ((c.toNat:Int)<=57)
def DH(c:UInt8):Bool:=QG c||(ku c||((c.toNat:Int)==95))
theorem Tb(c:UInt8):F0 155 [.v (vb c)] (db (QG c)):=by
 refine sv AlM 9 [] (.b .r .r) ((Y ((↑(UInt8.toNat c):Int)>=97)=J->db (Y ((↑(UInt8.toNat c):Int)<=122))=db (QG c))/\(Y ((↑(UInt8.toNat c):Int)>=97)=O->db O=db (QG c))) ?_
 refine⟨fun h=>?_,fun h=>?_⟩<;>simp[QG, *]
theorem Adu(c:UInt8):F0 194 [.v (vb c)] (db (ku c)):=by
 refine sv AlQ 9 [] (.b .r .r) ((Y ((↑(UInt8.toNat c):Int)>=48)=J->db (Y ((↑(UInt8.toNat c):Int)<=57))=db (ku c))/\(Y ((↑(UInt8.toNat c):Int)>=48)=O->db O=db (ku c))) ?_
 refine⟨fun h=>?_,fun h=>?_⟩<;>simp[ku, *]
theorem Yj(c:UInt8):F0 157 [.v (vb c)] (db (DH c)):=by
 refine sv Ak1 13 [] (.c (db (QG c))<|.b .r<|.c (db (ku c))<|.b .r .r) (F0 155 [bt (aa IntKind.u8 (↑(UInt8.toNat c):Int))] (db (QG c))/\(QG c=J->db J=db (DH c))/\(QG c=O->F0 194 [bt (aa IntKind.u8 (↑(UInt8.toNat c):Int))] (db (ku c))/\(ku c=J->db J=db (DH c))/\(ku c=O->db ((↑(UInt8.toNat c):Int)==95)=db (DH c)))) ?_
 refine⟨Tb c,fun h=>?_,fun h=>⟨Adu c,fun h2=>?_,fun h2=>?_⟩⟩<;>simp[DH, *]
noncomputable abbrev q5:=Tryz.f156
noncomputable def px:=yl q5
def Hl(p:UInt8->Bool):List UInt8->Nat
 |[]=>0
 |c::s=>if p c then Hl p s+1 else 0
noncomputable abbrev kz:=fun a₀=>(1,bt (bw a₀ [] []))
noncomputable abbrev n5:=fun a₀=>[ke 0,ke 1,ch 5 (di (a₀+1:Nat))]
theorem fc(F:yx)(p:UInt8->Bool)(s:List UInt8)(hs:I s<=1000000)(hp:∀c∈s,F0 F [.v (vb c)] (db (p c)))(n:Nat):∀k:Nat,I s-k=n->k<=I s->
  Rn PP q5 0 (di ((k+Hl p (s.drop k):Nat):Int)) bd ([kl px [1,1,0,0,0],.blk 0,kc px [1,1,1]]++[]) (ba 20 [(0,ds s),(1,.v (.fn F [] [])),(5,di k)]) bd:=by
 induction n using Nat.strongRecOn with
 |_ n ih=>
 intro k hn hk0
 refine lv 20 [] (.b (.e fun c:UInt8=>.y c<|.c (db (p c))<|.b (.l (n5 k)) .r) (.k .r)) ((Y ((k:Int)<(I s:Int))=J->∃a,0<=(k:Int)/\s[Z (k:Int)]?=G a/\Aa PP F [bt (aa IntKind.u8 (↑(UInt8.toNat a):Int))] dh (db (p a)) dh/\(p a=J->di (yu yt ((k:Int)+1))=di (↑(k+1):Int)/\Nv.It (AB (CN 0) PP (fun env σ1=>Az PP q5 env σ1 (di (↑(k+Hl p (W k s)):Int)) bd) [kl px [1,1,0,0,0],bh 0,kc px [1,1,1]] (ba 20 [(0,bt (ae s)),(kz F),(5,di (↑(k+1):Int))]) bd))/\(p a=O->di (k:Int)=di (↑(k+Hl p (W k s)):Int)))/\(Y ((k:Int)<(I s:Int))=O->di (k:Int)=di (↑(k+Hl p (W k s)):Int))) ⟨fun h=>?_,fun h=>?_⟩
 ·have hk:k<I s:=by simpa using h
  have hx:s[k]?=G s[k]:=HA hk
  have hih:=ih (I s- (k+1)) (by omega) (k+1) rfl hk
  rw[HP hk]
  generalize s[k]=c at hx⊢
  refine⟨c,by omega,by simpa using hx,by simpa using hp c (HG hx),fun h2=>⟨Ae,⟨?_⟩⟩,fun h2=>?_⟩
  ·simp only[Hl,h2,IJ]
   rw[show k+(Hl p (s.drop (k+1))+1)=k+1+Hl p (s.drop (k+1)) by omega]
   exact hih
  ·simp[Hl,h2]
 ·have hk:I s<=k:=by simpa using h
  rw[HU hk];simp[Hl]
noncomputable abbrev sd:=[ke 0,ke 1,ch 5 (di (0:Nat))]
theorem AbP(F:yx)(p:UInt8->Bool)(s:List UInt8)(hs:I s<=1000000)(hp:∀c∈s,F0 F [.v (vb c)] (db (p c))):F0 156 [ds s,.v (.fn F [] [])] (di (Hl p s)):=by
 refine sv q5 20 [] (.l sd) (Q (di 0)/\I0 q5 (I bd.H) (di (↑(Hl p s):Int)) bd [kl px [1,1,0,0,0],bh 0,kc px [1,1,1]] (ba 20 [(0,bt (ae s)),(kz F),(5,di (↑0:Int))]) bd) ⟨rfl,⟨?_⟩⟩
 have:=fc F p s hs hp _ 0 rfl (by omega)
 simpa using this
noncomputable abbrev Akv:=Tryz.f110
def El(s:List UInt8):Bool:=(s !=[])&&(Y ((I s:Int)<=12)&&(QG (s.headD 0)&&((Hl DH s:Int)==I s)))
theorem Afl{s:List UInt8}(h:Y ((I s:Int)<=12)=J):I s<=1000000:=by
 have h:=HL h
 omega
theorem W6(s:List UInt8):F0 110 [ds s] (db (El s)):=by
 refine sv Akv 22 [] (.b (.b (.y (s.headD 0)<|.c (db (QG (s.headD 0)))<|.b (.c (di (Hl DH s)) .r) .r) .r) .r) (((!s==(bf #[]).data.toList)=J->(Y ((I s:Int)<=12)=J->iz 0<=0/\s[Z 0]?=G (headD s 0)/\F0 155 [bt (aa IntKind.u8 (↑(UInt8.toNat (headD s 0)):Int))] (db (QG (headD s 0)))/\(QG (headD s 0)=J->F0 156 [bt (ae s),bt (bw 157 [] [])] (di (↑(Hl DH s):Int))/\db ((↑(Hl DH s):Int)==(I s:Int))=db (El s))/\(QG (headD s 0)=O->db O=db (El s)))/\(Y ((I s:Int)<=12)=O->db O=db (El s)))/\((!s==(bf #[]).data.toList)=O->db O=db (El s))) ⟨fun h1=>⟨fun h2=>⟨by simp,?_,Tb _,fun h3=>⟨AbP _ DH s (Afl h2) fun c _=>Yj c,?_⟩,fun h3=>?_⟩,fun h2=>?_⟩,fun h1=>?_⟩
 ·cases s with
  |nil=>simp[ta] at h1
  |cons a s=>rfl
 all_goals simp_all [El]
 all_goals omega
theorem C0{l:List (List UInt8)}{k:Nat}{s:List UInt8}(h:l[k]?=G s):(l.map ae)[Z (k:Int)]?=G (.str s):=by simp[h]
noncomputable abbrev qa:=Tryz.f195
noncomputable def o7:=yl qa
theorem AcV(l:List (List UInt8))(v:List UInt8)(hl:I l<=1000000)(n:Nat):∀k:Nat,I l-k=n->
  Rn PP qa 0 (di (d6 (· ==v) (l.drop k) k)) bd ([kl o7 [1,0,1,0,0],.blk 0,kc o7 [1,1]]++[]) (ba 19 [(0,dl (l.map ae)),(1,.v (ae v)),(7,di (I l)),(8,di k)]) bd:=by
 induction n using Nat.strongRecOn with
 |_ n ih=>
 intro k hn
 refine lv 19 [] (.b (.e fun x:List UInt8=>.x (ae x)<|.b .r (.l (qq k))) .r) ((Y ((k:Int)<(I l:Int))=J->∃a,0<=(k:Int)/\(U ae l)[Z (k:Int)]?=G (ae a)/\((v==a)=J->di (k:Int)=di (d6 (fun x=>x==v) (W k l) k))/\((v==a)=O->di (yu yt ((k:Int)+1))=di (↑(k+1):Int)/\Nv.It (AB (CN 0) PP (fun env σ1=>Az PP qa env σ1 (di (d6 (fun x=>x==v) (W k l) k)) bd) [kl o7 [1,0,1,0,0],bh 0,kc o7 [1,1]] (ba 19 [(0,bt (ky l)),(1,bt (ae v)),(7,di (I l:Int)),(8,di (↑(k+1):Int))]) bd)))/\(Y ((k:Int)<(I l:Int))=O->di (-1)=di (d6 (fun x=>x==v) (W k l) k))) ⟨fun h=>?_,fun h=>?_⟩
 ·have hk:k<I l:=by simpa using h
  have hx:l[k]?=G l[k]:=HA hk
  rw[HP hk]
  generalize l[k]=x at hx⊢
  refine⟨x,by omega,C0 hx,fun hf=>?_,fun hf=>⟨Ae,⟨?_⟩⟩⟩
  ·have:v=x:=by simpa using hf
   subst this;simp[d6]
  ·have h2:v≠x:=by simpa using hf
   have:(x==v)=O:=by simpa using fun e=>h2 e.symm
   simp only[d6,this]
   exact ih (I l- (k+1)) (by omega) (k+1) rfl
 ·have hk:I l<=k:=by simpa using h
  rw[HU hk];rfl
theorem AcU(l:List (List UInt8))(v:List UInt8)(hl:I l<=1000000):F0 195 [dl (l.map ae),.v (ae v)] (di (d6 (· ==v) l 0)):=by
 refine sv qa 19 [] (.l [ke 0,ke 1,ch 7 (di (I l)),ch 8 (di (0:Nat))]) (di (I (U ae l):Int)=di (I l:Int)/\Q (di 0)/\I0 qa (I bd.H) (di (d6 (fun x=>x==v) l 0)) bd [kl o7 [1,0,1,0,0],bh 0,kc o7 [1,1]] (ba 19 [(0,dl (U ae l)),(1,bt (ae v)),(7,di (I l:Int)),(8,di (↑0:Int))]) bd) ⟨by simp,rfl,⟨?_⟩⟩
 exact AcV l v hl _ 0 rfl
noncomputable abbrev AkK:=Tryz.f158
theorem ZQ(l:List (List UInt8))(v:List UInt8)(hl:I l<=1000000):F0 158 [dl (l.map ae),.v (ae v)] (db (l.any (· ==v))):=by
 exact sv AkK 9 [] (.c (di (d6 (· ==v) l 0)) .r) (_/\db (Y (d6 (fun x=>x==v) l 0>=0))=db (List.any l fun x=>x==v)) ⟨AcU l v hl,by rw[←GP]⟩
def pp:List (List UInt8):=[[109,111,100,101,108],[115,116,97,116,101,115],[112,108,97,99,101,115],[108,101,116,116,101,114,115],[108,101,118,101,108,115],[97,103,101],[114,117,108,101],[110,101,101,100],[103,105,118,101],[109,111,118,101],[101,109,112,116,121],[115,101,110,100],[114,101,99,101,105,118,101],[112,97,116,104],[110,101,120,116],[116,97,107,101],[109,97,107,101],[115,116,97,114,116]]
def Vz(s:List UInt8):Bool:=pp.any (· ==s)
noncomputable abbrev fKw:=Tryz.f111
theorem AfJ(s:List UInt8):F0 111 [ds s] (db (Vz s)):=by
 exact sv fKw 6 [] (.c (db (Vz s)) .r) (_/\Q (db (Vz s))) ⟨ZQ pp s (by decide),rfl⟩
noncomputable abbrev Zp:=Tryz.f71
noncomputable def E8:=yl Zp
def gk(used:List (List UInt8)):List (List UInt8)->Bool
 |[]=>true
 |s::l=>El s&&(!Vz s&&(!used.contains s&&gk (used++[s]) l))
def BW(m:b9):List (List UInt8):=[m.aw,m.ay,m.ax].flatten
def EP(m:b9):List (List UInt8):=BW m++m.av.map cp.name
def Ew(m:b9):Bool:=gk [] (EP m)
abbrev TJ(l:List (List UInt8)):D:=.acc 1 (l.map ae)
abbrev kp(l:List (List UInt8)):St:=⟨[],[(1,1,l.map ae)]⟩
noncomputable abbrev n8:=fun a₀=>(3,D.raw (Value.map (G a₀)))
theorem YI(r:Nat)(l:List (List UInt8))(hl:I l<=1000000)(n:Nat):∀k:Nat,I l-k=n->k<=I l->
  AB (CS 0 r (l.take k)) PP (fun env σ1=>Az PP Zp env σ1 (db (gk (l.take k) (l.drop k))) bd) [kl E8 [1,1,1,1,0,1,0,0],.blk 2,kc E8 [1,1,1,1,1]] (ba 52 [(3,.raw (.map (G r))),(31,dl (l.map ae)),(32,di (I l)),(33,di k)]) bd:=by
 induction n using Nat.strongRecOn with
 |_ n ih=>
 intro k hn hk0
 refine AhA mixed 52 [1] (.b (.e fun s:List UInt8=>.x (.str s)<|.c (db (El s))<|.b .r (.c (db (Vz s))<|.b .r (.h (.q 11 10)<|.h (.s [ke 3,ke 8,ke 31,ke 32,ke 33,ke 44,ke 45,ke 46]) .z))) .r) ?_
 refine ey (by kernel_rfl:((Y ((k:Int)<(I l:Int))=J->∃a,0<=(k:Int)/\(U ae l)[Z (k:Int)]?=G (ae a)/\Aa PP 110 [bt (ae a)] dh (db (El a)) dh/\((!El a)=J->db O=db (gk (take k l) (W k l)))/\((!El a)=O->Aa PP 111 [bt (ae a)] dh (db (Vz a)) dh/\(Vz a=J->db O=db (gk (take k l) (W k l)))/\(Vz a=O->Nv.It (B8 (CS 0 r (take k l)) PP (fun env σ1=>Az PP Zp env σ1 (db (gk (take k l) (W k l))) bd) [kc E8 [1,1,1,1,0,1,0,0,1,1,0,0,1,0,1],kc E8 [1,1,1,1,0,1,0,0,1,1,0,0,1,1],bh 3,kc E8 [1,1,1,1,0,1,0,0,1,1,1],kl E8 iw,bh 2,kc E8 [1,1,1,1,1]] (B2 (sub E8 [1,1,1,1,0,1,0,0,1,1,0,0,1,0,0])) (W 10 (B2 (sub E8 [1,1,1,1,0,1,0,0,1,1,0,0,1,0,0])).toList) (ba 52 [(n8 r),(8,bt (ae a)),(31,bt (ky l)),(32,di (I l:Int)),(33,di (k:Int)),(44,db O),(45,D.raw (Value.map (G r))),(46,bt (ae a))]) bd))))/\(Y ((k:Int)<(I l:Int))=O->db J=db (gk (take k l) (W k l))))=_) ?_
 refine⟨fun h=>?_,fun h=>?_⟩
 ·have hk:k<I l:=by simpa using h
  have hx:l[k]?=G l[k]:=HA hk
  have hih:=ih (I l- (k+1)) (by omega) (k+1) rfl hk
  rw[List.take_succ_eq_append_getElem hk] at hih
  rw[HP hk]
  generalize l[k]=s at hx hih⊢
  refine⟨s,by omega,by simp[hx],W6 s,fun h1=>?_,fun h1=>⟨AfJ s,fun h2=>?_,fun h2=>⟨?_⟩⟩⟩
  ·simp only[I2,Bool.not_eq_eq_eq_not,Bool.not_true] at h1;simp[gk,h1]
  ·simp[gk,h2]
  ·have h1:El s=J:=by simpa using h1
   refine UF (s:=s) 47 45 46 rfl (by kernel_rfl) (by kernel_rfl) (by kernel_rfl) (by kernel_rfl) (by kernel_rfl) (by kernel_rfl) ?_
   refine XK mixed 52 [1] 11 11 (.b .r (.h (.q 13 2)<|.h (.s [ke 3,ke 8,ke 31,ke 32,ke 33,ke 49,ke 50]) .z)) ?_
   refine ey (by kernel_rfl:((List.contains (take k l) s=J->db O=db (gk (take k l) (s::W (k+1) l)))/\(List.contains (take k l) s=O->Nv.It (B8 (CS 0 r (take k l)) PP (fun env σ1=>Az PP Zp env σ1 (db (gk (take k l) (s::W (k+1) l))) bd) [bh 3,kc E8 [1,1,1,1,0,1,0,0,1,1,1],kl E8 iw,bh 2,kc E8 [1,1,1,1,1]] (B2 (sub E8 [1,1,1,1,0,1,0,0,1,1,0,0,1,1])) (W 2 (B2 (sub E8 [1,1,1,1,0,1,0,0,1,1,0,0,1,1])).toList) (ba 52 [(n8 r),(8,bt (ae s)),(31,bt (ky l)),(32,di (I l:Int)),(33,di (k:Int)),(49,D.raw (Value.map (G r))),(50,bt (ae s))]) bd)))=_) ?_
   refine⟨fun h3=>?_,fun h3=>⟨?_⟩⟩
   ·simp only[gk,h3,Bool.not_true,Ih,Jn]
   ·refine UD (s:=s) 49 50 rfl (by kernel_rfl) (by kernel_rfl) (by kernel_rfl) (by kernel_rfl) (by kernel_rfl) (by kernel_rfl) h3 ?_
    refine XK mixed 52 [1] 13 3 (.ls [ke 3,ke 31,ke 32,ch 33 (di (k+1:Nat))] bd) ?_
    refine ey (by kernel_rfl:(di (yu yt ((k:Int)+1))=di (↑(k+1):Int)/\Nv.It (AB (CS (I bd.H) r (take k l++[s])) PP (fun env σ1=>Az PP Zp env σ1 (db (gk (take k l) (s::W (k+1) l))) bd) [kl E8 iw,bh 2,kc E8 [1,1,1,1,1]] (ba 52 [(n8 r),(31,bt (ky l)),(32,di (I l:Int)),(33,di (↑(k+1):Int))]) bd))=_) ?_
    refine⟨Ae,⟨?_⟩⟩
    simp only[gk,h1,h2,h3,Bool.not_false,Ij]
    exact hih
 ·have hk:I l<=k:=by simpa using h
  rw[HU hk];rfl
noncomputable abbrev gi:=[1,1,1,0,1,0,0]
theorem YJ(r:Nat)(m:b9)(b:List (List UInt8))(hm:I m.av<=1000000)(hb:I b+I m.av<=1000000)(n:Nat):∀k:Nat,I m.av-k=n->k<=I m.av->
  AB (CS 0 r []) PP (fun env σ1=>Az PP Zp env σ1 (db (gk [] (b++m.av.map cp.name))) bd) [kl E8 [1,1,1,0,1,0,0],.blk 0,kc E8 [1,1,1,1]] (ba 52 [(3,.raw (.map (G r))),(4,TJ (b++(m.av.take k).map cp.name)),(19,dl (m.av.map Ai)),(20,di (I m.av)),(21,di k)]) (kp (b++(m.av.take k).map cp.name)):=by
 induction n using Nat.strongRecOn with
 |_ n ih=>
 intro k hn hk0
 refine AhA mixed 52 [1] (.b (.e fun x:cp=>.h (.xs (Ai x))<|.w<|.ls [ke 3,ch 4 (TJ (b++(m.av.take (k+1)).map cp.name)),ke 19,ke 20,ch 21 (di (k+1:Nat))] (kp (b++(m.av.take (k+1)).map cp.name))) (.h (.q 8 0)<|.h (.un 4)<|.ls [ke 3,ch 31 (dl ((b++m.av.map cp.name).map ae)),ch 32 (di (I (b++m.av.map cp.name))),ch 33 (di (0:Nat))] bd)) ?_
 refine ey (by kernel_rfl:((Y ((k:Int)<(I m.av:Int))=J->∃a,14=14/\0<=(k:Int)/\(U Ai m.av)[Z (k:Int)]?=G (Ai a)/\U ae (b++U cp.name (take k m.av))=U ae (b++U cp.name (take k m.av))/\Ao (I (U ae (b++U cp.name (take k m.av)))+I (ae a.name::nV)) 16/\(∀(y:V),y∈ [ae a.name]->V.size y=1)/\br 1 (U ae (b++U cp.name (take k m.av))++[ae a.name])=TJ (b++U cp.name (take (k+1) m.av))/\di (yu yt ((k:Int)+1))=di (↑(k+1):Int)/\[(1,1,U ae (b++U cp.name (take k m.av))++ae a.name::nV)]=[(1,1,U ae (b++U cp.name (take (k+1) m.av)))]/\Nv.It (AB (CS 0 r []) PP (fun env σ1=>Az PP Zp env σ1 (db (gk [] (b++U cp.name m.av))) bd) [kl E8 gi,bh 0,kc E8 [1,1,1,1]] (ba 52 [(n8 r),(4,TJ (b++U cp.name (take (k+1) m.av))),(19,bt (ai (U Ai m.av))),(20,di (I m.av:Int)),(21,di (↑(k+1):Int))]) (kp (b++U cp.name (take (k+1) m.av)))))/\(Y ((k:Int)<(I m.av:Int))=O->bt (ai (U ae (b++U cp.name (take k m.av))))=dl (U ae (b++U cp.name m.av))/\di (I (U ae (b++U cp.name (take k m.av))):Int)=di (I (b++U cp.name m.av):Int)/\di 0=di (↑0:Int)/\Nv.It (AB (CS 0 r []) PP (fun env σ1=>Az PP Zp env σ1 (db (gk [] (b++U cp.name m.av))) bd) [kl E8 iw,bh 2,kc E8 [1,1,1,1,1]] (ba 52 [(n8 r),(31,dl (U ae (b++U cp.name m.av))),(32,di (I (b++U cp.name m.av):Int)),(33,di (↑0:Int))]) bd)))=_) ?_
 refine⟨fun h=>?_,fun h=>?_⟩
 ·have hk:k<I m.av:=by simpa using h
  have hx:m.av[k]?=G m.av[k]:=HA hk
  have hih:=ih (I m.av- (k+1)) (by omega) (k+1) rfl hk
  have hl:I (b++(m.av.take k).map cp.name)<=1000000:=by simp;omega
  have ht:b++(m.av.take (k+1)).map cp.name=b++(m.av.take k).map cp.name++[(m.av[k]).name]:=by rw[List.take_succ_eq_append_getElem hk,IQ,IG];rfl
  rw[ht] at hih⊢
  generalize m.av[k]=x at hx hih⊢
  generalize b++(m.av.take k).map cp.name=p at hl hih⊢
  refine⟨x,rfl,by omega,by simp[hx],rfl,?_,by simp[V.size],by simp,Ae,by simp,⟨hih⟩⟩
  exact⟨by simp only[H9,HF,HJ];omega,by simp only[H9,HF,HJ];omega⟩
 ·have hk:I m.av<=k:=by simpa using h
  rw[Ic hk]
  refine⟨rfl,by simp,rfl,⟨?_⟩⟩
  exact YI r _ (by simpa using hb) _ 0 rfl (by omega)
noncomputable abbrev ic:=fun a₀=>(bz (A1 a₀))
theorem SU(m:b9)(h1:I (BW m)+I m.av<=1000000):F0 71 [Af m] (db (Ew m)):=by
 refine sv Zp 52 [1] (.h (.q 1 0)<|.h (.s [ke 1]) .z) (Nv.It (B8 (CN (I bd.H)) PP (fun env σ1=>Az PP Zp env σ1 (db (Ew m)) bd) [kc E8 [1,1]] (B2 (sub E8 [1,0])) (W 0 (B2 (sub E8 [1,0])).toList) (ba 52 [(1,bt (ic m))]) bd)) ⟨Rm 9 rfl (by kernel_rfl) (by kernel_rfl) (by kernel_rfl) fun r=>?_⟩
 refine XK mixed 52 [1] 1 1 (.h (.ck 1 1 1 ((BW m).map ae))<|.ls [ke 3,ch 4 (TJ (BW m++(m.av.take 0).map cp.name)),ke 19,ch 20 (di (I m.av)),ch 21 (di (0:Nat))] (kp (BW m++(m.av.take 0).map cp.name))) ?_
 refine ey (by kernel_rfl:(Aa PP 109 [bt (ai [co m.aw,co m.ay,co m.ax])] dh (br 1 (U ae (BW m))) (bi [] [(1,1,U ae (BW m))])/\br 1 (U ae (BW m))=TJ (BW m++U cp.name (take 0 m.av))/\di (I (U Ai m.av):Int)=di (I m.av:Int)/\di 0=di (↑0:Int)/\[(1,1,U ae (BW m))]=[(1,1,U ae (BW m++[]))]/\Nv.It (AB (CS (I bd.H) r []) PP (fun env σ1=>Az PP Zp env σ1 (db (Ew m)) bd) [kl E8 gi,bh 0,kc E8 [1,1,1,1]] (ba 52 [(n8 r),(4,TJ (BW m++U cp.name (take 0 m.av))),(19,bt (Dq m.av)),(20,di (I m.av:Int)),(21,di (↑0:Int))]) (kp (BW m++U cp.name (take 0 m.av)))))=_) ?_
 refine⟨ZT [m.aw,m.ay,m.ax] (by simp only[HF,HJ];omega) (by show(BW m).length<=_;omega),by simp,by simp,rfl,by simp,⟨?_⟩⟩
 exact YJ r m (BW m) (by omega) h1 _ 0 rfl (by omega)
end Go.Proofs.YtfhgjfkleggjfaaGreatDoor
