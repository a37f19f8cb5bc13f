/-
  A part of the proof.
-/
import Derived.Test.YthmjfmacdlhfjaaGreatZb
namespace Go.Nv
open Go.Dv
open List (nil_append replicate)
open Go.IntKind (u64)
open Go.IntKind renaming wrap → yr, i64 → yq
open List renaming length → I, map → U, drop → W
open Option renaming some → G
open Bool renaming true → J, false → O
open Decidable renaming decide → Y
open Int renaming toNat → Z
open Go.Dv.V renaming list → ai, str → ae, agg → ab, int → aa, ref → bz, fn → bw, nils → bv, bool → bu
open Go.Dv.D renaming v → bt, acc → br, ptr → bq, arr → bo, gro → bm, tup → bl, undef → bk, dagg → bj
open Go.Dv.St renaming mk → bi
open Go.Dv.KI renaming blk → bh
open _root_.ByteArray renaming mk → bg
open Go renaming Operand → x5, Program → x4, TypeId → yz, World → yy, Value → yx, Oper → yw, FuncId → yv, Func → yu, IntKind → yt
inductive Kd where
 |pure
 |load (q off n:Nat)
 |eff
noncomputable def AG(τ:St)(q off n:Nat):Option (List D):=match τ.H[q]? with
 |some (some cs)=>cond (Nat.ble (off+n) (I cs)) (G ((cs.drop off).take n)) none
 |_=>none
theorem Fi{τ:St}{q off n:Nat}{l:List D}(h:AG τ q off n=G l):∃cs,τ.H[q]?=G (G cs)/\off+n<=I cs/\(cs.drop off).take n=l:=by
 unfold AG at h
 split at h
 ·rename_i cs hcs
  cases hb:Nat.ble (off+n) (I cs) with
  |false=>rw[hb] at h;simp at h
  |true=>rw[hb] at h;simp at h;exact⟨cs,hcs,Ix hb,h⟩
 ·simp at h
theorem GZ{τ:St}{q off n:Nat}{cs:List D}(h:τ.H[q]?=G (G cs))(hl:off+n<=I cs):AG τ q off n=G ((cs.drop off).take n):=by
 unfold AG
 rw[h]
 simp only[Nat.ble_eq_true_of_le hl,cond_true]
def pj(P:x4)(o:yw)(ds:List D)(σ:St)(d:D)(σ':St):Kd->Prop
 |.pure=>σ'=σ/\∀τ,Ay P o ds τ d τ
 |.load q off n=>σ'=σ/\(AG σ q off n).isSome=J/\∀τ,AG τ q off n=AG σ q off n->Ay P o ds τ d τ
 |.eff=>Ay P o ds σ d σ'
theorem pj.op{P:x4}{o:yw}{ds:List D}{σ σ':St}{d:D}{kd:Kd}(h:pj P o ds σ d σ' kd):Ay P o ds σ d σ':=by
 cases kd with
 |pure=>obtain⟨rfl,h⟩:=h;exact h _
 |load q off n=>obtain⟨rfl,_,h⟩:=h;exact h _ rfl
 |eff=>exact h
abbrev KO:=Sc->D->St->Kd->Prop
def gh(P:x4)(o:yw)(ds:List D)(σ:St)(K:KO):Prop:=∃s d σ' kd,K s d σ' kd/\pj P o ds σ d σ' kd
def v8(l:List Nat)(t:Nat):Bool:=l.any (Nat.beq t)
noncomputable def E1(own:List (Nat×Nat×List V))(k:Nat):Bool:=own.all fun x=> !Nat.beq x.1 k
theorem CI{own:List (Nat×Nat×List V)}{k:Nat}(h:E1 own k=J):∀x∈own,x.1≠k:=fun x hx e=>by
 have:=ID.1 h x hx
 rw[e,Nat.beq_refl] at this;simp at this
noncomputable def oe{β:Type}(own:List (Nat×Nat×List V))(k sz:Nat)(zs:List V)(K:List (Nat×Nat×List V)->β):β:=
 List.rec (motive:=fun _=>(List (Nat×Nat×List V)->β)->β) (fun K=>K []) (fun x _ ih K=>ih fun r=>Bool.rec (K (x::r)) (K ((k,sz,zs)::r)) (Nat.beq x.1 k)) own K
theorem R0{β:Type}(k sz:Nat)(zs:List V):∀(own:List (Nat×Nat×List V)) (K:List (Nat×Nat×List V)->β),oe own k sz zs K=K (own.map (GG k sz zs))
 |[],_=>rfl
 |x::own,K=>by
  have h:oe (x::own) k sz zs K=oe own k sz zs fun r=>Bool.rec (K (x::r)) (K ((k,sz,zs)::r)) (Nat.beq x.1 k):=rfl
  rw[h,R0 k sz zs own]
  simp only[Iu,GG]
  by_cases e:x.1=k
  ·rw[Io e,e,Nat.beq_refl]
  ·rw[Ij e,show Nat.beq x.1 k=O from by cases h:Nat.beq x.1 k with|false=>rfl|true=>exact absurd (Ir h) e]
noncomputable def PU(own:List (Nat×Nat×List V))(k:Nat):Option (Nat×List V):=
 List.rec none (fun x _ ih=>Bool.rec ih (G x.2) (Nat.beq x.1 k)) own
theorem MK{k:Nat}{p:Nat×List V}:∀{own:List (Nat×Nat×List V)},PU own k=G p->(k,p.1,p.2)∈own
 |[],h=>by have:PU [] k=none:=rfl;rw[this] at h;simp at h
 |x::l,h=>by
  have e:PU (x::l) k=Bool.rec (PU l k) (G x.2) (Nat.beq x.1 k):=rfl
  rw[e] at h
  cases hb:Nat.beq x.1 k with
  |false=>rw[hb] at h;exact List.mem_cons_of_mem _ (MK h)
  |true=>
   rw[hb] at h
   have:=Ir hb;subst this
   simp at h;subst h;simp
abbrev A9(n by':Nat):Prop:=n*by'<=140737488355328/\n<=140737488355328
section
variable {P : x4} {o : yw} {σ : St}
theorem JF{x y:x5}{t:yz}(ho:o.op=.call { callee:=.builtin .append,args:= #[x,y],argTypes:= #[t,t]}){e:yz}{sz by':Nat}{z:yx}(hs:Ce P t=G (e,sz,by',G z))(hzc:z.cells.size=sz)
  (k:Nat) (hk:∀x∈σ.own,x.1≠k) (h0:0<sz) {ys:List V} (hsy:∀y∈ys,y.size=sz) (hlen:I ys*by'<=140737488355328) (hlen2:I ys<=140737488355328):
  Ay P o [.v .nils,.v (.list ys)] σ (.acc k ys) ⟨σ.H,(k,sz,ys)::σ.own⟩:=by
 intro E g a w K Q hw hds hK
 simp only[ho,Op.operands,Call.operands] at hds
 obtain⟨u,v,eq,h1,h2⟩:=A8.1 (by simpa using hds)
 simp only[Ie,I6] at eq
 simp only[Av,C4] at h1 h2
 subst h1
 obtain⟨hw1,hle1⟩:=hw.addOwn (k:=k) (sz:=sz) (xs:=[]) (u:=.slice none 0 0) hk ⟨h0,by simp⟩ (Dm _) (.inl ⟨none,rfl⟩) (fun b hb=>by simp[Cn] at hb)
 obtain⟨u',w',g',hrun,hw',hle,hr⟩:=M3 (P:=P) (ty:=o.type) hw1 hs hzc (k:=k) (xs:=[]) (by simp) hsy (by simpa using hlen) (by simpa using hlen2) (u:=.slice none 0 0) (by simp) (h2.mono hle1.M)
 have hown:σ.own.map (GG k sz ys)=σ.own:=by
  conv=>rhs;rw[←List.map_id σ.own]
  exact List.map_congr_left fun x hx=>by simp[GG,hk x hx]
 simp only[nil_append,Iu,hown] at hw' hr
 have e1:GG k sz ys (k,sz,[])=(k,sz,ys):=by simp[GG]
 rw[e1] at hw'
 have:=hK g' w' u' hw' (Gh.le_trans hle1 hle) hr
 unfold Oper.wp execOp
 simp only[ho,resolve,invoke,builtin,Sem.run_bind,Sem.run_pure,Result.andThen_ok,List.map_toArray,Iu,IP,eq.1,eq.2,hrun]
 exact this
theorem LS{t:yz}{parts:Array (Nat×x5)}(ho:o.op=.buildSlice t 0 parts)(hp:parts= #[]){e:yz}{sz by':Nat}{z:Option yx}(hs:Ce P t=G (e,sz,by',z))(hsz:0<sz)(k:Nat)(hk:∀x∈σ.own,x.1≠k):
  Ay P o [] σ (.acc k []) ⟨σ.H,(k,sz,[])::σ.own⟩:=by
 intro E g a w K Q hw hds hK
 obtain⟨i,hu,hi,rfl,rfl,rfl⟩:=AK hs
 subst hp
 have hw1:=hw.alloc (.cells #[] e (0,0))
 obtain⟨hw2,hle2⟩:=hw1.addOwn (k:=k) (sz:=i.size) (xs:=[]) (u:=.slice (G ⟨w.heap.size,0,none⟩) 0 0) hk ⟨hsz,by simp⟩ (by rw[B3];exact⟨_,0,rfl,HX _,.inl rfl⟩) (.inl ⟨_,rfl⟩) (fun b hb=>by simp[Cn] at hb)
 have:=hK _ _ (.slice (G ⟨w.heap.size,0,none⟩) 0 0) hw2 hle2 (by simp only[Av];exact⟨by rw[B3];exact⟨_,0,rfl,HX _,.inl rfl⟩,by simp⟩)
 unfold Oper.wp execOp
 simpa[ho,Instr.buildSlice,run_underlying hu,sizeOf,typeInfo,hi,Instr.fill,newRow,Oper.upon,show Array.range 0= #[] from rfl] using this
end
noncomputable def ux(P:x4)(t:yz)(q off:Nat)(σ:St)(s:Sc)(K:KO):Prop:=match D3 P t with
 |some (1,false)=>(match s with
  |.h (.m d) s=>(match σ.H[q]? with
   |some (some cs)=>cs[off]?=G d/\K s d σ (.load q off 1)
   |_=>False)
  |s=>(match σ.H[q]? with
   |some (some cs)=>(match cs[off]? with
    |some d=>K s d σ (.load q off 1)
    |none=>False)
   |_=>False))
 |some (n,true)=>(match s with
  |.h (.m (.dagg ds)) s=>(match σ.H[q]? with
   |some (some cs)=>off+n<=I cs/\(cs.drop off).take n=ds/\K s (.dagg ds) σ (.load q off n)
   |_=>False)
  |.h (.m (.v (.agg xs))) s=>(match σ.H[q]? with
   |some (some cs)=>off+n<=I cs/\(cs.drop off).take n=xs.map .v/\K s (.v (.agg xs)) σ (.load q off n)
   |_=>False)
  |s=>match σ.H[q]? with
  |some (some cs)=>cond (Nat.ble (off+n) (I cs)) (match D2 ((cs.drop off).take n) with
   |some xs=>K s (.v (.agg xs)) σ (.load q off n)
   |none=>False) False
  |_=>False)
 |_=>False
theorem OQ{cs:List D}{off:Nat}{d:D}(h:cs[off]?=G d):off+1<=I cs/\(cs.drop off).take 1=[d]:=by
 have hlt:=(HT.1 h).1
 refine⟨hlt,?_⟩
 rw[Ih hlt,List.take_succ_cons,List.take_zero,(HT.1 h).2]
theorem Tu{P:x4}{o:yw}{σ:St}{t:yz}{a:x5}(ho:o.op=.load t a)(ht:D3 P t=G (1,false)){q off:Nat}{cs:List D}{d:D}(hq:σ.H[q]?=G (G cs))(hd:cs[off]?=G d):
  pj P o [.ptr q off] σ d σ (.load q off 1):=by
 obtain⟨h1,h2⟩:=OQ hd
 have hc:=GZ hq h1
 refine⟨rfl,by rw[hc];rfl,fun τ hτ=>?_⟩
 rw[hc,h2] at hτ
 obtain⟨cs',h3,h4,h5⟩:=Fi hτ
 refine XV ho ht h3 ?_
 have:((cs'.drop off).take 1)[0]?=G d:=by rw[h5];rfl
 simpa using this
theorem Aa7{P:x4}{t:yz}{q off:Nat}{σ:St}{s:Sc}{K:KO}(h:ux P t q off σ s K){o:yw}{a:x5}(ho:o.op=.load t a):gh P o [.ptr q off] σ K:=by
 unfold ux at h
 split at h
 ·rename_i ht
  split at h
  ·split at h
   ·rename_i cs hq;exact⟨_,_,_,_,h.2,Tu ho ht hq h.1⟩
   ·exact h.elim
  ·split at h
   ·rename_i cs hq
    split at h
    ·rename_i d hd;exact⟨_,_,_,_,h,Tu ho ht hq hd⟩
    ·exact h.elim
   ·exact h.elim
 ·rename_i n ht
  split at h
  ·split at h
   ·rename_i cs hq
    obtain⟨hl,hd,h2⟩:=h
    have hc:=GZ hq hl
    refine⟨_,_,_,_,h2,rfl,by rw[hc];rfl,fun τ hτ=>?_⟩
    rw[hc] at hτ
    obtain⟨cs',h3,h4,h5⟩:=Fi hτ
    exact XU ho ht h3 h4 (by rw[h5];exact hd)
   ·exact h.elim
  ·split at h
   ·rename_i cs hq
    obtain⟨hl,hd,h2⟩:=h
    have hc:=GZ hq hl
    refine⟨_,_,_,_,h2,rfl,by rw[hc];rfl,fun τ hτ=>?_⟩
    rw[hc] at hτ
    obtain⟨cs',h3,h4,h5⟩:=Fi hτ
    exact PZ ho ht h3 h4 (by rw[h5,hd];exact Fu _)
   ·exact h.elim
  split at h
  ·rename_i cs hq
   obtain⟨h1,h2⟩:=A4 h
   split at h2
   ·rename_i xs hx
    have hl:=Ix h1
    have hc:=GZ hq hl
    refine⟨_,_,_,_,h2,rfl,by rw[hc];rfl,fun τ hτ=>?_⟩
    rw[hc] at hτ
    obtain⟨cs',h3,h4,h5⟩:=Fi hτ
    exact PZ ho ht h3 h4 (by rw[h5];exact Gm hx)
   ·exact h2.elim
  ·exact h.elim
 ·exact h.elim
noncomputable def W1(P:x4)(t:yz)(q off:Nat)(d:D)(σ:St)(s:Sc)(K:KO):Prop:=match D3 P t with
 |some (1,false)=>(match σ.H[q]? with
  |some (some cs)=>cond d.one (match s with
   |.h .w s=>off<I cs/\CP σ.H q (G (cs.set off d)) fun H=>K s .undef ⟨H,σ.own⟩ .eff
   |s=>cond (Nat.blt off (I cs)) (CP cs off d fun cs=>CP σ.H q (G cs) fun H=>K s .undef ⟨H,σ.own⟩ .eff) False) False
  |_=>False)
 |some (n,true)=>(match σ.H[q]? with
  |some (some cs)=>(match s with
   |.h .ww s=>cond (d.sto&&Nat.beq (I (BK d)) n) (off+n<=I cs/\CP σ.H q (G (cs.take off++BK d++cs.drop (off+n))) fun H=>K s .undef ⟨H,σ.own⟩ .eff) False
   |s=>cond (d.sto&&Nat.beq (I (BK d)) n&&Nat.ble (off+n) (I cs)) (B9 (cs.take off++BK d++cs.drop (off+n)) fun cs=>CP σ.H q (G cs) fun H=>K s .undef ⟨H,σ.own⟩ .eff) False)
  |_=>False)
 |_=>False
theorem W0{P:x4}{t:yz}{q off:Nat}{d:D}{σ:St}{s:Sc}{K:KO}(h:W1 P t q off d σ s K){o:yw}{a b:x5}(ho:o.op=.store t a b):gh P o [.ptr q off,d] σ K:=by
 unfold W1 at h
 split at h
 ·rename_i ht
  split at h
  ·rename_i cs hq
   obtain⟨h1,h2⟩:=A4 h
   split at h2
   ·rw[BF] at h2
    exact⟨_,_,_,_,h2.2,PX ho h1 ht hq h2.1⟩
   ·obtain⟨h3,h4⟩:=A4 h2
    rw[BF,BF] at h4
    exact⟨_,_,_,_,h4,PX ho h1 ht hq (Ix h3)⟩
  ·exact h.elim
 ·rename_i n ht
  split at h
  ·rename_i cs hq
   split at h
   ·obtain⟨h1,h2,h3⟩:=A4 h
    simp only[HR] at h1
    rw[BF] at h3
    exact⟨_,_,_,_,h3,Lj ho h1.1 ht (Ir h1.2) hq h2⟩
   obtain⟨h1,h2⟩:=A4 h
   simp only[HR] at h1
   rw[Bz,BF] at h2
   exact⟨_,_,_,_,h2,Lj ho h1.1.1 ht (Ir h1.1.2) hq (Ix h1.2)⟩
  ·exact h.elim
 ·exact h.elim
structure AmG(H H':List (Option (List D)))(q:Nat)(l:List D):Prop where
 eq:H'=H.set q none++[G l]
noncomputable def sc(P:x4)(t:yz)(x y:D)(σ:St)(s:Sc)(K:KO):Prop:=match Ce P t,y with
 |some (_,sz,by',some z),.v (.list ys)=>cond (Nat.beq z.cells.size sz&&Nat.blt 0 sz) (match x with
  |.acc k xs=>(match PU σ.own k with
   |some (sz',xs')=>cond (Nat.beq sz' sz) (xs'=xs/\A9 (I xs+I ys) by'/\(match s with
    |.h .w s=>(∀y∈ys,y.size=sz)/\oe σ.own k sz (xs++ys) fun own=>K s (.acc k (xs++ys)) ⟨σ.H,own⟩ .eff
    |s=>cond (ZL sz ys) (oe σ.own k sz (xs++ys) fun own=>K s (.acc k (xs++ys)) ⟨σ.H,own⟩ .eff) False)) False
   |none=>False)
  |.v .nils=>(match s with
   |.h (.a k) (.h .w s)=>cond (E1 σ.own k) (A9 (I ys) by'/\(∀y∈ys,y.size=sz)/\K s (.acc k ys) ⟨σ.H,(k,sz,ys)::σ.own⟩ .eff) False
   |.h (.a k) s=>cond (E1 σ.own k&&ZL sz ys) (A9 (I ys) by'/\K s (.acc k ys) ⟨σ.H,(k,sz,ys)::σ.own⟩ .eff) False
   |.h (.gx _ H') s=>ys≠ []/\(∀y∈ys,y.size=sz)/\A9 (I ys) by'/\H'=σ.H++[G (Ad ys)]/\K s (.gro (I σ.H) (I ys) sz) ⟨H',σ.own⟩ .eff
   |.h .g s=>ys≠ []/\(∀y∈ys,y.size=sz)/\A9 (I ys) by'/\AV σ.H (G (Ad ys)) fun H=>K s (.gro (I σ.H) (I ys) sz) ⟨H,σ.own⟩ .eff
   |_=>False)
  |.gro q len sz'=>(match s with
   |.h (.gx cs H') s=>cond (Nat.beq sz' sz) (σ.H[q]?=G (G cs)/\cs.length=len*sz/\ys≠ []/\(∀y∈ys,y.size=sz)/\A9 (len+I ys) by'/\AmG σ.H H' q (cs++Ad ys)/\K s (.gro (I σ.H) (len+I ys) sz) ⟨H',σ.own⟩ .eff) False
   |.h .w s=>(match σ.H[q]? with
    |some (some cs)=>cond (Nat.beq sz' sz) ((len+I ys)*sz<=I cs/\ys≠ []/\(∀y∈ys,y.size=sz)/\CP σ.H q (G (cs.take (len*sz)++Ad ys++cs.drop (len*sz+I (Ad ys)))) fun H=>K s (.gro q (len+I ys) sz) ⟨H,σ.own⟩ .eff) False
    |_=>False)
   |s=>match σ.H[q]? with
   |some (some cs)=>cond (Nat.beq sz' sz) (I cs=len*sz/\ys≠ []/\(∀y∈ys,y.size=sz)/\A9 (len+I ys) by'/\CP σ.H q none fun H=>AV H (G (cs++Ad ys)) fun H=>K s (.gro (I σ.H) (len+I ys) sz) ⟨H,σ.own⟩ .eff) False
   |_=>False)
  |_=>False) False
 |_,_=>False
theorem AeN{P:x4}{t:yz}{x y:D}{σ:St}{s:Sc}{K:KO}(h:sc P t x y σ s K){o:yw}{a b:x5}(ho:o.op=.call { callee:=.builtin .append,args:= #[a,b],argTypes:= #[t,t]}):gh P o [x,y] σ K:=by
 unfold sc at h
 split at h
 ·rename_i e sz by' z ys hs
  obtain⟨h1,h2⟩:=A4 h
  simp only[HR] at h1
  have hz:=Ir h1.1
  have hp:=Ix h1.2
  split at h2
  ·rename_i k xs
   split at h2
   ·rename_i sz' xs' hg
    obtain⟨h3,rfl,h4,h5⟩:=A4 h2
    have:=Ir h3;subst this
    have hm:=MK hg
    split at h5
    ·rw[R0] at h5
     exact⟨_,_,_,_,h5.2,Qb ho hs hz hm h5.1 h4.1 h4.2⟩
    ·obtain⟨h6,h7⟩:=A4 h5
     rw[R0] at h7
     exact⟨_,_,_,_,h7,Qb ho hs hz hm (Lu h6) h4.1 h4.2⟩
   ·exact h2.elim
  ·split at h2
   ·obtain⟨h3,h4,h5,h6⟩:=A4 h2
    exact⟨_,_,_,_,h6,JF ho hs hz _ (CI h3) hp h5 h4.1 h4.2⟩
   ·obtain⟨h3,h4,h5⟩:=A4 h2
    rw[HR] at h3
    exact⟨_,_,_,_,h5,JF ho hs hz _ (CI h3.1) hp (Lu h3.2) h4.1 h4.2⟩
   ·obtain⟨h3,h4,h5,rfl,h6⟩:=h2
    exact⟨_,_,_,_,h6,KM ho hs hz hp h4 h3 h5.1 h5.2⟩
   ·obtain⟨h3,h4,h5,h6⟩:=h2
    rw[AU] at h6
    exact⟨_,_,_,_,h6,KM ho hs hz hp h4 h3 h5.1 h5.2⟩
   ·exact h2.elim
  ·rename_i q len sz'
   split at h2
   ·obtain⟨h3,hq,h4,h5,h6,h7,h9,h8⟩:=A4 h2
    have:=Ir h3;subst this
    have e:=h9.eq;subst e
    exact⟨_,_,_,_,h8,LV ho hs hz hp hq h4 h6 h5 h7.1 h7.2⟩
   ·split at h2
    ·rename_i cs hq
     obtain⟨h3,h4,h5,h6,h7⟩:=A4 h2
     have:=Ir h3;subst this
     rw[BF] at h7
     exact⟨_,_,_,_,h7,R8 ho hs hp hq h4 h6 h5⟩
    ·exact h2.elim
   split at h2
   ·rename_i cs hq
    obtain⟨h3,h4,h5,h6,h7,h8⟩:=A4 h2
    have:=Ir h3;subst this
    rw[BF,AU] at h8
    exact⟨_,_,_,_,h8,LV ho hs hz hp hq h4 h6 h5 h7.1 h7.2⟩
   ·exact h2.elim
  ·exact h2.elim
 ·exact h.elim
noncomputable def uw(P:x4)(t:yz)(k1 k2:yt)(a b:Int)(σ:St)(s:Sc)(K:KO):Prop:=match Ce P t with
 |some (_,sz,by',some z)=>(match s with
  |.h (.a k) s=>cond (Nat.blt 0 sz&&E1 σ.own k) (a=0/\0<=b/\(by':Int)*b<=281474976710656/\b<=9223372036854775807/\K s (.acc k []) ⟨σ.H,(k,sz,[])::σ.own⟩ .eff) False
  |.h .g s=>(match Fh z.cells.toList with
   |some zs=>cond (Nat.beq z.cells.size sz) (a=0/\0<=b/\(by':Int)*b<=281474976710656/\b<=9223372036854775807/\AV σ.H (G ((replicate b.toNat zs).flatten.map .v)) fun H=>K s (.gro (I σ.H) 0 sz) ⟨H,σ.own⟩ .eff) False
   |none=>False)
  |s=>(match Q7 z with
   |some zv=>cond (Nat.beq sz 1) (a=b/\0<=b/\(by':Int)*b<=281474976710656/\b<=9223372036854775807/\AV σ.H (G (replicate b.toNat (.v zv))) fun H=>K s (.arr (I σ.H) 0 b.toNat) ⟨H,σ.own⟩ .eff) False
   |none=>False))
 |_=>False
theorem Aa6{P:x4}{t:yz}{k1 k2:yt}{a b:Int}{σ:St}{s:Sc}{K:KO}(h:uw P t k1 k2 a b σ s K){o:yw}{x y:x5}(ho:o.op=.makeSlice t x y):gh P o [.v (.int k1 a),.v (.int k2 b)] σ K:=by
 unfold uw at h
 split at h
 ·rename_i e sz by' z hs
  split at h
  ·obtain⟨h1,rfl,h2,h3,h4,h5⟩:=A4 h
   rw[HR] at h1
   exact⟨_,_,_,_,h5,AbB ho hs (Ix h1.1) _ (CI h1.2) h2 h3 h4⟩
  ·split at h
   ·rename_i zs hzs
    obtain⟨h1,rfl,h2,h3,h4,h5⟩:=A4 h
    rw[AU] at h5
    exact⟨_,_,_,_,h5,Ab9 ho hs hzs (Ir h1) h2 h3 h4⟩
   ·exact h.elim
  ·split at h
   ·rename_i zv hzv
    obtain⟨h1,rfl,h2,h3,h4,h5⟩:=A4 h
    have:=Ir h1;subst this
    rw[AU] at h5
    exact⟨_,_,_,_,h5,AbA ho hs hzv h2 h3 h4⟩
   ·exact h.elim
 ·exact h.elim
def rz:List D->Option Nat
 |[]=>none
 |.ptr q _::_=>G q
 |.arr q _ _::_=>G q
 |_::ds=>rz ds
noncomputable def QI(q:Nat):List D->Option (List D)
 |[]=>G []
 |.ptr q' off::ds=>cond (Nat.beq q' q) (match QI q ds with
  |some dc=>G (.ptr 0 off::dc)
  |none=>none) none
 |.arr q' off len::ds=>cond (Nat.beq q' q) (match QI q ds with
  |some dc=>G (.arr 0 off len::dc)
  |none=>none) none
 |d::ds=>cond d.pl (match QI q ds with
  |some dc=>G (d::dc)
  |none=>none) none
theorem Mt{α:Type}{b:Bool}{x:Option α}{r:α}(h:cond b x none=G r):b=J/\x=G r:=by cases b<;>simp_all
theorem HO{q:Nat}:∀{ds dc:List D},QI q ds=G dc->EJ q ds dc
 |[],dc,h=>by simp[QI] at h;subst h;exact .nil
 |d::ds,dc,h=>by
  unfold QI at h
  split at h
  ·rename_i e;simp at e
  ·rename_i q' off ds' e;simp only[Ie] at e;obtain⟨rfl,rfl⟩:=e
   obtain⟨h1,h2⟩:=Mt h
   have:=Ir h1;subst this
   split at h2
   ·rename_i dc' hd;simp at h2;subst h2;exact .ptr (HO hd)
   ·simp at h2
  ·rename_i q' off len ds' e;simp only[Ie] at e;obtain⟨rfl,rfl⟩:=e
   obtain⟨h1,h2⟩:=Mt h
   have:=Ir h1;subst this
   split at h2
   ·rename_i dc' hd;simp at h2;subst h2;exact .arr (HO hd)
   ·simp at h2
  ·rename_i d' ds' _ _ e;simp only[Ie] at e;obtain⟨rfl,rfl⟩:=e
   obtain⟨h1,h2⟩:=Mt h
   split at h2
   ·rename_i dc' hd;simp at h2;subst h2;exact .pl h1 (HO hd)
   ·simp at h2
noncomputable def WH(P:x4)(f:yv)(fs cs:List V)(ds:List D)(σ:St)(s:Sc)(K:KO):Prop:=match s with
 |.h (.ck k k' sz xs) s=>cond (E1 σ.own k) (match NK ds with
  |some ys=>Aa P f ((fs++ys++cs).map .v) ⟨[],[]⟩ (.acc k' xs) ⟨[],[(k',sz,xs)]⟩/\K s (.acc k xs) ⟨σ.H,(k,sz,xs)::σ.own⟩ .eff
  |none=>False) False
 |.h (.ckn k k' sz xs) s=>cond (E1 σ.own k) (match D2 ds with
  |some ys=>Aa P f ((fs++ys++cs).map .v) ⟨[],[]⟩ (.acc k' xs) ⟨[],[(k',sz,xs)]⟩/\K s (.acc k xs) ⟨σ.H,(k,sz,xs)::σ.own⟩ .eff
  |none=>False) False
 |.h (.cj j Hc os len) s=>(match NK ds,Hc[j]? with
  |some ys,some (some os')=>cond (D.pls os') (os=os'/\Aa P f ((fs++ys++cs).map .v) ⟨[],[]⟩ (.arr j 0 len) ⟨Hc,[]⟩/\AV σ.H (G os') fun H=>K s (.arr (I σ.H) 0 len) ⟨H,σ.own⟩ .eff) False
  |_,_=>False)
 |.h (.c1 os' d) s=>(match rz ds with
  |some q=>(match σ.H[q]?,QI q (ds.map D.un) with
   |some (some os),some dc=>cond (D.pls os&&D.pls os'&&d.pl) (Aa P f (fs.map .v++dc++cs.map .v) ⟨[G os],[]⟩ d ⟨[G os'],[]⟩/\CP σ.H q (G os') fun H=>K s d ⟨H,σ.own⟩ .eff) False
   |_,_=>False)
  |none=>False)
 |.h (.c1k k k' sz os' xs) s=>(match rz ds with
  |some q=>(match σ.H[q]?,QI q (ds.map D.un) with
   |some (some os),some dc=>cond (D.pls os&&D.pls os'&&E1 σ.own k) (Aa P f (fs.map .v++dc++cs.map .v) ⟨[G os],[]⟩ (.acc k' xs) ⟨[G os'],[(k',sz,xs)]⟩/\CP σ.H q (G os') fun H=>K s (.acc k xs) ⟨H,(k,sz,xs)::σ.own⟩ .eff) False
   |_,_=>False)
  |none=>False)
 |s=>qe P {(default:yw) with op:=.call { callee:=.value (.func f),args:= #[],argTypes:= #[]}} (.v (.fn f fs cs)::ds.map D.un) s fun s d=>K s d σ .pure
theorem WG{P:x4}{f:yv}{fs cs:List V}{ds:List D}{σ:St}{s:Sc}{K:KO}(h:WH P f fs cs ds σ s K){o:yw}{c:Call}{fo:x5}(ho:o.op=.call c)(hc:c.callee=.value fo):gh P o (.v (.fn f fs cs)::ds) σ K:=by
 unfold WH at h
 split at h
 ·obtain⟨h1,h2⟩:=A4 h
  split at h2
  ·rename_i ys hy
   refine⟨_,_,_,_,h2.2,BI (fun g us hr=>?_) (KK (ds:=ys.map .v) ho hc (Cg ys) _ (CI h1) (by simpa[Jq] using h2.1))⟩
   simp only[Ar] at hr⊢
   obtain⟨u,us',e,h3,h4⟩:=hr
   exact⟨u,us',e,h3,Fl hy h4⟩
  ·exact h2.elim
 ·obtain⟨h1,h2⟩:=A4 h
  split at h2
  ·rename_i ys hy
   refine⟨_,_,_,_,h2.2,BI (fun g us hr=>?_) (KK (ds:=ys.map .v) ho hc (Cg ys) _ (CI h1) (by simpa[Jq] using h2.1))⟩
   simp only[Ar] at hr⊢
   obtain⟨u,us',e,h3,h4⟩:=hr
   exact⟨u,us',e,h3,L9 hy h4⟩
  ·exact h2.elim
 ·split at h
  ·rename_i ys os' hy hj
   obtain⟨h1,_,h2,h3⟩:=A4 h
   rw[AU] at h3
   refine⟨_,_,_,_,h3,BI (fun g us hr=>?_) (JE (ds:=ys.map .v) ho hc (Cg ys) hj h1 (by simpa[Jq] using h2))⟩
   simp only[Ar] at hr⊢
   obtain⟨u,us',e,h3,h4⟩:=hr
   exact⟨u,us',e,h3,Fl hy h4⟩
  ·exact h.elim
 ·split at h
  ·rename_i q hq
   split at h
   ·rename_i os dc hos hdc
    obtain⟨h1,h2,h3⟩:=A4 h
    simp only[HR] at h1
    rw[BF] at h3
    refine⟨_,_,_,_,h3,BI (fun g us hr=>?_) (Ov (ds:=ds.map D.un) ho hc hos h1.1.1 h1.1.2 (HO hdc) h1.2 h2)⟩
    simp only[Ar] at hr⊢
    obtain⟨u,us',e,h3,h4⟩:=hr
    exact⟨u,us',e,h3,H5 h4⟩
   ·exact h.elim
  ·exact h.elim
 ·split at h
  ·rename_i q hq
   split at h
   ·rename_i os dc hos hdc
    obtain⟨h1,h2,h3⟩:=A4 h
    simp only[HR] at h1
    rw[BF] at h3
    refine⟨_,_,_,_,h3,BI (fun g us hr=>?_) (Qa (ds:=ds.map D.un) ho hc hos h1.1.1 h1.1.2 (HO hdc) _ (CI h1.2) h2)⟩
    simp only[Ar] at hr⊢
    obtain⟨u,us',e,h3,h4⟩:=hr
    exact⟨u,us',e,h3,H5 h4⟩
   ·exact h.elim
  ·exact h.elim
 ·have h':qf P f fs cs (ds.map D.un) _ (fun s d=>K s d σ .pure):=h
  obtain⟨s',d,h1,h2⟩:=Sw h' ho hc
  refine⟨_,_,_,_,h1,rfl,fun τ=>BI (fun g us hr=>?_) (h2 τ)⟩
  simp only[Ar] at hr⊢
  obtain⟨u,us',e,h3,h4⟩:=hr
  exact⟨u,us',e,h3,H5 h4⟩
noncomputable def Rh(P:x4)(t:yz)(len:Nat)(ps:List (Nat×x5))(ds:List D)(k:Nat)(σ:St)(s:Sc)(K:KO):Prop:=match Ce P t with
 |some (_,sz,_,z)=>cond (E1 σ.own k&&Nat.blt 0 sz) (match len with
  |0=>(match ps,ds with
   |[],[]=>K s (.acc k []) ⟨σ.H,(k,sz,[])::σ.own⟩ .eff
   |_,_=>False)
  |len+1=>(match D2 ds with
   |some xs=>cond (oa ps 0&&Nat.beq (I ps) (len+1)&&z.isSome&&Nat.ble ((len+1)*sz) 1000&&ZL sz xs) (K s (.acc k xs) ⟨σ.H,(k,sz,xs)::σ.own⟩ .eff) False
   |none=>False)) False
 |none=>False
theorem UE{P:x4}{t:yz}{len:Nat}{ps:Array (Nat×x5)}{ds:List D}{k:Nat}{σ:St}{s:Sc}{K:KO}(h:Rh P t len ps.toList ds k σ s K){o:yw}(ho:o.op=.buildSlice t len ps):gh P o ds σ K:=by
 unfold Rh at h
 split at h
 ·rename_i e sz by' z hs
  obtain⟨h1,h2⟩:=A4 h
  rw[HR] at h1
  have hp:=Ix h1.2
  split at h2
  ·split at h2
   ·rename_i hps
    exact⟨_,_,_,_,h2,LS ho (by apply IV;simpa using hps) hs hp _ (CI h1.1)⟩
   ·exact h2.elim
  ·rename_i len
   split at h2
   ·rename_i xs hx
    obtain⟨h3,h4⟩:=A4 h2
    simp only[HR] at h3
    obtain⟨⟨⟨⟨g1,g2⟩,g3⟩,g5⟩,g6⟩:=h3
    have hl:ps.size=len+1:=by have:=Ir g2;simpa using this
    exact⟨_,_,_,_,h4,M8 ho (Rt g1) hl hs g3 (Gm hx) (Lu g6) (by omega) hp (by simpa using g5) _ (CI h1.1)⟩
   ·exact h2.elim
 ·exact h.elim
noncomputable def vP(P:x4)(o:yw)(ds:List D)(σ:St)(s:Sc)(K:KO):Prop:=qe P o (ds.map D.un) s fun s d=>K s d σ .pure
theorem Re{P:x4}{o:yw}{ds:List D}{σ:St}{s:Sc}{K:KO}(h:vP P o ds σ s K):gh P o ds σ K:=by
 obtain⟨s',d,h1,h2⟩:=Aa4 h
 exact⟨_,_,_,_,h1,rfl,fun τ=>Af1 (h2 τ)⟩
noncomputable def uz(P:x4)(t tn:yz)(n:Int)(σ:St)(s:Sc)(K:KO):Prop:=match Ce P t,P.underlying tn with
 |some (_,sz,by',some z),some (.int _)=>cond (Nat.beq z.cells.size sz&&Nat.blt 0 sz) (0<n/\A9 n.toNat by'/\AV σ.H (G []) fun H=>K s (.gro (I σ.H) n.toNat sz) ⟨H,σ.own⟩ .eff) False
 |_,_=>False
theorem AaC{P:x4}{t tn:yz}{kd:yt}{n:Int}{σ:St}{s:Sc}{K:KO}(h:uz P t tn n σ s K){o:yw}{a b:x5}(ho:o.op=.call { callee:=.builtin .append,args:= #[a,b],argTypes:= #[t,tn]}):gh P o [.v .nils,.v (.int kd n)] σ K:=by
 unfold uz at h
 split at h
 ·rename_i e sz by' z k hs hu
  obtain⟨h1,h2,h3,h4⟩:=A4 h
  rw[HR] at h1
  rw[AU] at h4
  exact⟨_,_,_,_,h4,Vf ho hs (Ir h1.1) (Ix h1.2) hu h2 h3.1 h3.2⟩
 ·exact h.elim
noncomputable def vy(P:x4)(t:yz)(s:Sc)(σ:St)(K:KO):Prop:=match P.underlying t with
 |some (.slice _)=>K s (.v (.int .i64 0)) σ .pure
 |_=>False
noncomputable def p0(P:x4)(t:yz)(x:D)(i:Int)(σ:St)(s:Sc)(K:KO):Prop:=match x with
 |.v .nils=>(match P.underlying t with
  |some (.slice e)=>(match P.info? e with
   |some _=>i=0/\K s (.v .nils) σ .pure
   |none=>False)
  |_=>False)
 |.gro q _ sz=>(match s,Ce P t,σ.H[q]? with
  |.h (.a k) s,some (_,sz',_,_),some (some _)=>cond (Nat.beq sz' sz&&Nat.blt 0 sz&&E1 σ.own k) (i=0/\CP σ.H q none fun H=>K s (.acc k []) ⟨H,(k,sz,[])::σ.own⟩ .eff) False
  |_,_,_=>False)
 |_=>False
theorem W5{P:x4}{t:yz}{x:D}{kd:yt}{i:Int}{σ:St}{s:Sc}{K:KO}(h:p0 P t x i σ s K){o:yw}{a b:x5}(ho:o.op=.slice t a none (G b) none):gh P o [x,.v (.int kd i)] σ K:=by
 unfold p0 at h
 split at h
 ·split at h
  ·rename_i e hu
   split at h
   ·rename_i inf hi
    obtain⟨rfl,h⟩:=h
    exact⟨_,_,_,_,h,rfl,fun τ=>PY ho hu hi⟩
   ·exact h.elim
  ·exact h.elim
 ·rename_i q len sz
  split at h
  ·rename_i k s' e sz' by' z cs hs hq
   obtain⟨h1,rfl,h2⟩:=A4 h
   simp only[HR] at h1
   have:=Ir h1.1.1;subst this
   rw[BF] at h2
   exact⟨_,_,_,_,h2,UZ ho hs (Ix h1.1.2) hq _ (CI h1.2)⟩
  ·exact h.elim
 ·exact h.elim
section
variable {P : x4} {o : yw} {σ : St}
theorem Ch{t:yz}{x:x5}{lo hi:Option x5}(ho:o.op=.slice t x lo hi none){e:yz}{sz by':Nat}{z:Option yx}(hs:Ce P t=G (e,sz,by',z)){q off len:Nat}
  (l h:Option (yt×Int)) (hlo:lo.isSome=l.isSome) (hhi:hi.isSome=h.isSome) {l' h':Nat} (hb:Cf len (l.map (·.2)) (h.map (·.2))=G (l',h')) (hlt:l'<len):
  Ay P o (.arr q off len::(Gj l++Gj h)) σ (.arr q (off+l'*sz) (h'-l')) σ:=by
 refine AA fun E g ρ w hw hds=>?_
 obtain⟨i,hu,hi',hsz,_,_⟩:=AK hs
 have hb2:=hb
 unfold Cf at hb2
 simp only at hb2
 split at hb2
 case isFalse=>simp at hb2
 rename_i hcond
 simp only[I1,Prod.mk.injEq] at hb2
 have main:∀u (lv hv:Option yx),ρ x=u->lv=l.map (fun p=>Value.int p.1 p.2)->hv=h.map (fun p=>Value.int p.1 p.2)->lo.map ρ=lv->hi.map ρ=hv->Av g (.arr q off len) u->
   ∃u,(execOp ρ o).run P w=.ok (.value u) w/\Av g (.arr q (off+l'*sz) (h'-l')) u:=by
  intro u lv hv eu el eh e1 e2 hr
  simp only[Av] at hr⊢
  obtain⟨hq,cap,hc,rfl⟩:=hr
  refine⟨.slice (G ⟨g.β q,off+l'*sz,none⟩) (h'-l') (cap-l'),?_,hq,cap-l',by omega,rfl⟩
  have hbr:=Fy (P:=P) w true len cap hc l h hb
  simp only[execOp,ho,eu,e1,e2,el,eh,J4,Instr.sliceAt,Instr.slice,Sem.run_bind,run_underlying hu,Result.andThen_ok,hbr]
  simp[sizeOf,typeInfo,hi',hsz,show ¬cap=l' by omega,Addr.add_lit]
 simp only[ho,Op.operands] at hds
 cases lo with
 |none=>
  cases l with
  |some _=>simp at hlo
  |none=>
   cases hi with
   |none=>
    cases h with
    |some _=>simp at hhi
    |none=>
     obtain⟨u,eu,h1⟩:=AH.1 (by simpa[Gj] using hds)
     simp at eu
     exact main u none none eu rfl rfl rfl rfl h1
   |some ho'=>
    cases h with
    |none=>simp at hhi
    |some p=>
     obtain⟨u,v,eu,h1,h2⟩:=A8.1 (by simpa[Gj] using hds)
     simp only[Ie,I6] at eu
     simp only[Av,AM] at h2
     exact main u none _ eu.1 rfl (by simp;rfl) rfl (by simp[eu.2,h2]) h1
 |some lo'=>
  cases l with
  |none=>simp at hlo
  |some lq=>
   cases hi with
   |none=>
    cases h with
    |some _=>simp at hhi
    |none=>
     obtain⟨u,v,eu,h1,h2⟩:=A8.1 (by simpa[Gj] using hds)
     simp only[Ie,I6] at eu
     simp only[Av,AM] at h2
     exact main u _ none eu.1 (by simp;rfl) rfl (by simp[eu.2,h2]) rfl h1
   |some ho'=>
    cases h with
    |none=>simp at hhi
    |some p=>
     obtain⟨u,v,v2,eu,h1,h2,h3⟩:=E8.1 (by simpa[Gj] using hds)
     simp only[Ie,I6] at eu
     simp only[Av,AM] at h2 h3
     exact main u _ _ eu.1 (by simp;rfl) (by simp;rfl) (by simp[eu.2.1,h2]) (by simp[eu.2.2,h3]) h1
end
noncomputable def qz(P:x4)(t:yz)(q off n:Nat)(i:Int)(σ:St)(s:Sc)(K:KO):Prop:=match Ce P t with
 |some (_,sz,_,_)=>0<=i/\i<(n:Int)/\K s (.arr q (off+i.toNat*sz) (n-i.toNat)) σ .pure
 |none=>False
theorem W4{P:x4}{t:yz}{q off n:Nat}{kd:yt}{i:Int}{σ:St}{s:Sc}{K:KO}(h:qz P t q off n i σ s K){o:yw}{a b:x5}(ho:o.op=.slice t a (G b) none none):gh P o [.arr q off n,.v (.int kd i)] σ K:=by
 unfold qz at h
 split at h
 ·rename_i e sz by' z hs
  obtain⟨h1,h2,h3⟩:=h
  refine⟨_,_,_,_,h3,rfl,fun τ=>?_⟩
  have hb:Cf n ((G (kd,i)).map (·.2)) ((none:Option (yt×Int)).map (·.2))=G (i.toNat,n):=by
   simp only[IT,J4,Cf,Jy,Option.getD_none]
   rw[Io (by omega)]
   simp
  have:=Ch (σ:=τ) (q:=q) (off:=off) ho hs (G (kd,i)) none rfl rfl hb (by omega)
  simpa[Gj] using this
 ·exact h.elim
theorem Xl{g:Gh}{q n sz:Nat}{u:yx}(h:Av g (.gro q n sz) u):Av g (.arr q 0 n) u:=by
 simp only[Av] at h⊢
 obtain⟨h1,cap,h2,_,h3⟩:=h
 exact⟨h1,cap,h2,h3⟩
theorem AeF{P:x4}{q n sz:Nat}{ds:List D}{o:yw}{σ:St}{K:KO}(h:gh P o (.arr q 0 n::ds) σ K):gh P o (.gro q n sz::ds) σ K:=by
 have hsub:∀g us,Ar g (.gro q n sz::ds) us->Ar g (.arr q 0 n::ds) us:=fun g us hr=>by
  simp only[Ar] at hr⊢
  obtain⟨u,us',e,h1,h2⟩:=hr
  exact⟨u,us',e,Xl h1,h2⟩
 obtain⟨s',d,σ',kd,h5,h6⟩:=h
 refine⟨s',d,σ',kd,h5,?_⟩
 cases kd with
 |pure=>exact⟨h6.1,fun τ=>BI hsub (h6.2 τ)⟩
 |load q off n=>exact⟨h6.1,h6.2.1,fun τ hτ=>BI hsub (h6.2.2 τ hτ)⟩
 |eff=>exact BI hsub h6
noncomputable def p5(P:x4)(im:List Nat)(o:yw)(ds:List D)(σ:St)(s:Sc)(K:KO):Prop:=match s with
 |.h (.o d σ') s=>Ay P o ds σ d σ'/\K s d σ' .eff
 |.h (.p d) s=>(∀τ,Ay P o ds τ d τ)/\K s d σ .pure
 |s=>match o.op with
  |.move _=>(match ds with
   |[d]=>K s d σ .pure
   |_=>False)
  |.assign _=>(match ds with
   |[d]=>K s d σ .pure
   |_=>False)
  |.pick _ _ _=>(match ds with
   |[.v (.bool b),d1,d2]=>Bool.rec (K s d2 σ .pure) (K s d1 σ .pure) b
   |_=>False)
  |.box _ _=>(match ds,o.dst with
   |[d],some t=>Bool.rec (cond d.sto (B9 (BK d) fun cs=>AV σ.H (G cs) fun H=>K s (.ptr (I σ.H) 0) ⟨H,σ.own⟩ .eff) False) (match d.toV with
    |some y=>K s (.v (.ref y)) σ .pure
    |none=>False) (v8 im t)
   |_,_=>False)
  |.alloc e=>(match ds,M6 P e with
   |[],some xs=>B9 (xs.map .v) fun cs=>AV σ.H (G cs) fun H=>K s (.ptr (I σ.H) 0) ⟨H,σ.own⟩ .eff
   |_,_=>False)
  |.store t _ _=>(match ds with
   |[.ptr q off,d]=>W1 P t q off d σ s K
   |_=>False)
  |.load t _=>(match ds with
   |[.ptr q off]=>ux P t q off σ s K
   |ds=>vP P o ds σ s K)
  |.makeSlice t _ _=>(match ds with
   |[.v (.int k1 a),.v (.int k2 b)]=>uw P t k1 k2 a b σ s K
   |_=>False)
  |.build t ps=>(match s with
   |.h .g s=>cond (OH P t) (match VT P t,kh ps.toList ds with
    |some (z,ay),some xs=>(match Vw ay (z.map .v) xs with
     |some out=>B9 out fun out=>K s (.dagg out) σ .pure
     |none=>False)
    |_,_=>False) False
   |s=>vP P o ds σ s K)
  |.buildSlice t len ps=>(match s with
   |.h (.a k) s=>Rh P t len ps.toList ds k σ s K
   |.h .g s=>(match len,ps.toList,ds,Ce P t with
    |0,[],[],some (_,sz,_,_)=>AV σ.H (G []) fun H=>K s (.gro (I σ.H) 0 sz) ⟨H,σ.own⟩ .eff
    |_,_,_,_=>False)
   |s=>vP P o ds σ s K)
  |.slice t _ none (some _) none=>(match ds with
   |[.v .nils,.v (.int _ i)]=>p0 P t (.v .nils) i σ s K
   |[.gro q n sz,.v (.int _ i)]=>p0 P t (.gro q n sz) i σ s K
   |ds=>vP P o ds σ s K)
  |.slice t _ (some _) none none=>(match ds with
   |[.gro q n _,.v (.int _ i)]=>qz P t q 0 n i σ s K
   |[.arr q off n,.v (.int _ i)]=>qz P t q off n i σ s K
   |ds=>vP P o ds σ s K)
  |.call c=>(match c.callee,ds with
   |.builtin .append,[.v .nils,.v (.int _ n)]=>(match c.args.toList,c.argTypes.toList with
    |[_,_],[t,t']=>uz P t t' n σ s K
    |_,_=>False)
   |.builtin .append,[x,y]=>(match c.args.toList,c.argTypes.toList with
    |[_,_],[t,t']=>cond (Nat.beq t t') (sc P t x y.un σ s K) False
    |_,_=>False)
   |.builtin .cap,[.v .nils]=>(match c.args.toList,c.argTypes.toList with
    |[_],[t]=>vy P t s σ K
    |_,_=>False)
   |.value _,.v (.fn f fs cs)::ds=>WH P f fs cs ds σ s K
   |_,ds=>vP P o ds σ s K)
  |_=>vP P o ds σ s K
theorem W7{P:x4}{im:List Nat}{o:yw}{ds:List D}{σ:St}{s:Sc}{K:KO}(h:p5 P im o ds σ s K):gh P o ds σ K:=by
 unfold p5 at h
 split at h
 ·exact⟨_,_,_,_,h.2,h.1⟩
 ·exact⟨_,_,_,_,h.2,rfl,h.1⟩
 ·split at h
  ·rename_i x ho
   split at h
   ·exact⟨_,_,_,_,h,rfl,fun τ=>D6 ho⟩
   ·exact h.elim
  ·rename_i x ho
   split at h
   ·exact⟨_,_,_,_,h,rfl,fun τ=>LU ho⟩
   ·exact h.elim
  ·rename_i x y z ho
   split at h
   ·rename_i b d1 d2
    cases b
    ·exact⟨_,_,_,_,h,rfl,fun τ=>XT ho (b:=false)⟩
    ·exact⟨_,_,_,_,h,rfl,fun τ=>XT ho (b:=true)⟩
   ·exact h.elim
  ·rename_i e x ho
   split at h
   ·rename_i d t _
    cases hm:v8 im t with
    |false=>
     rw[hm] at h
     obtain⟨h1,h2⟩:=A4 h
     rw[Bz,AU] at h2
     exact⟨_,_,_,_,h2,Aib ho h1⟩
    |true=>
     rw[hm] at h
     simp only at h
     split at h
     ·rename_i y hy;exact⟨_,_,_,_,h,rfl,fun τ=>Afy ho hy⟩
     ·exact h.elim
   ·exact h.elim
  ·rename_i e ho
   split at h
   ·rename_i xs hz
    rw[Bz,AU] at h
    exact⟨_,_,_,_,h,LX ho hz⟩
   ·exact h.elim
  ·rename_i t x y ho
   split at h
   ·exact W0 h ho
   ·exact h.elim
  ·rename_i t x ho
   split at h
   ·exact Aa7 h ho
   ·exact Re h
  ·rename_i t x y ho
   split at h
   ·exact Aa6 h ho
   ·exact h.elim
  ·rename_i t ps ho
   split at h
   ·obtain⟨hst,h⟩:=A4 h
    split at h
    ·rename_i z ay xs hb hx
     split at h
     ·rename_i out hf
      rw[Bz] at h
      exact⟨_,_,_,_,h,rfl,fun τ=>Ye ho hst hb hx hf⟩
     ·exact h.elim
    ·exact h.elim
   ·exact Re h
  ·rename_i t len ps ho
   split at h
   ·exact UE h ho
   ·split at h
    ·have hps:ps.toList=[]:=by assumption
     have hs:=(by assumption:Ce P t=_)
     rw[AU] at h
     exact⟨_,_,_,_,h,LR ho (by apply IV;simpa using hps) hs⟩
    ·exact h.elim
   ·exact Re h
  ·rename_i t a b ho
   split at h
   ·exact W5 h ho
   ·exact W5 h ho
   ·exact Re h
  ·rename_i t a b ho
   split at h
   ·exact AeF (W4 h ho)
   ·exact W4 h ho
   ·exact Re h
  ·rename_i c ho
   have mk2:∀{b:Builtin} {x y:x5} {t t':yz},c.callee=.builtin b->c.args.toList=[x,y]->c.argTypes.toList=[t,t']->o.op=.call { callee:=.builtin b,args:= #[x,y],argTypes:= #[t,t']}:=by
    intro b x y t t' hc h1 h2
    rw[ho];cases c;simp only at hc h1 h2;subst hc
    congr 2
    ·apply IV;simpa using h1
    ·apply IV;simpa using h2
   split at h
   ·rename_i kd n hc
    split at h
    ·rename_i a b t t' h1 h2;exact AaC h (mk2 hc h1 h2)
    ·exact h.elim
   ·rename_i x y _ hc
    split at h
    ·rename_i a b t t' h1 h2
     obtain⟨h3,h4⟩:=A4 h
     have:=Ir h3;subst this
     have hoo:o.op=.call { callee:=.builtin .append,args:= #[a,b],argTypes:= #[t,t]}:=by
      rw[ho];cases c;simp only at hc h1 h2;subst hc
      congr 2
      ·apply IV;simpa using h1
      ·apply IV;simpa using h2
     obtain⟨s',d,σ',kd,h5,h6⟩:=AeN h4 hoo
     have hsub:∀g us,Ar g [x,y] us->Ar g [x,y.un] us:=fun g us hr=>by
      rw[A8] at hr⊢
      obtain⟨u,v,e,h1,h2⟩:=hr
      exact⟨u,v,e,h1,NV h2⟩
     refine⟨s',d,σ',kd,h5,?_⟩
     cases kd with
     |pure=>exact⟨h6.1,fun τ=>BI hsub (h6.2 τ)⟩
     |load q off n=>exact⟨h6.1,h6.2.1,fun τ hτ=>BI hsub (h6.2.2 τ hτ)⟩
     |eff=>exact BI hsub h6
    ·exact h.elim
   ·rename_i hc
    split at h
    ·rename_i x t h1 h2
     unfold vy at h
     split at h
     ·rename_i e hu
      refine⟨_,_,_,_,h,rfl,fun τ=>Vb (x:=x) (t:=t) ?_ hu⟩
      rw[ho];cases c;simp only at hc h1 h2;subst hc
      congr 2
      ·apply IV;simpa using h1
      ·apply IV;simpa using h2
     ·exact h.elim
    ·exact h.elim
   ·rename_i fo f fs cs ds hc;exact WG h ho hc
   ·exact Re h
  ·exact Re h
def px:Op->Bool
 |.call c=>(match c.callee with|.value _=>true|_=>false)
 |_=>false
theorem Aic{o:Op}(h:px o=J):∃(c:Call) (fo:x5),o=.call c/\c.callee=.value fo:=by
 cases o<;>simp only[px] at h<;>try (simp at h;done)
 rename_i c
 split at h
 ·rename_i fo hc;exact⟨c,fo,rfl,hc⟩
 ·simp at h
noncomputable def f8(P:x4)(im:List Nat)(o:yw)(ds:List D)(σ:St)(s:Sc)(K:KO):Prop:=match s with
 |.h (.oc d σ') s'=>Bool.rec (p5 P im o ds σ (.h (.oc d σ') s') K) ((∀(o:yw) (c:Call) (fo:x5),o.op=.call c->c.callee=.value fo->Ay P o ds σ d σ')/\K s' d σ' .eff) (px o.op)
 |s=>p5 P im o ds σ s K
theorem C8{P:x4}{im:List Nat}{o:yw}{ds:List D}{σ:St}{s:Sc}{K:KO}(h:f8 P im o ds σ s K):gh P o ds σ K:=by
 unfold f8 at h
 split at h
 ·rename_i d σ' s'
  cases hq:px o.op with
  |true=>
   rw[hq] at h
   obtain⟨h1,h2⟩:=(h:(∀(o:yw) (c:Call) (fo:x5),o.op=.call c->c.callee=.value fo->Ay P o ds σ d σ')/\K s' d σ' .eff)
   obtain⟨c,fo,e1,e2⟩:=Aic hq
   exact⟨_,_,_,_,h2,h1 _ _ _ e1 e2⟩
  |false=>
   rw[hq] at h
   exact W7 h
 ·exact W7 h
abbrev q0(g:Gh)(m:Nat)(ts:List Nat):Gh:={ g with n:=m,ι:=fun k j=>if ts.contains k then g.ι k j else none }
mutual
theorem LL{g:Gh}{m:Nat}{ts:List Nat}:∀(d:D) (u:yx),d.okN m ts=J->Av g d u->Av (q0 g m ts) d u
 |.v x,u,_,h=>by simpa only[Av] using h
 |.acc k xs,u,hk,h=>by
  simp only[D.okN] at hk
  simp only[Av] at h⊢
  exact⟨h.1,by rw[Io hk];exact h.2⟩
 |.ptr o f,u,hk,h=>by
  simp only[D.okN,Ia] at hk
  simp only[Av] at h⊢
  exact⟨hk,h.2⟩
 |.arr o f l,u,hk,h=>by
  simp only[D.okN,Ia] at hk
  simp only[Av] at h⊢
  exact⟨hk,h.2⟩
 |.gro o f l,u,hk,h=>by
  simp only[D.okN,Ia] at hk
  simp only[Av] at h⊢
  exact⟨hk,h.2⟩
 |.raw x,u,_,h=>by simpa only[Av] using h
 |.err,u,_,h=>by simpa only[Av] using h
 |.rv x u0,u,_,h=>by simpa only[Av] using h
 |.dagg cs,u,hk,h=>by
  simp only[D.okN] at hk
  simp only[Av] at h⊢
  obtain⟨us,e,h1⟩:=h
  exact⟨us,e,F3 cs us hk h1⟩
 |.dfn f fs cs,u,hk,h=>by
  simp only[D.okN,HR] at hk
  simp only[Av] at h⊢
  obtain⟨us,vs,e,h1,h2⟩:=h
  exact⟨us,vs,e,F3 fs us hk.1 h1,F3 cs vs hk.2 h2⟩
 |.tup ds,u,hk,h=>by
  simp only[D.okN] at hk
  simp only[Av] at h⊢
  obtain⟨us,e,h1⟩:=h
  exact⟨us,e,F3 ds us hk h1⟩
 |.undef,u,_,_=>by simp only[Av]
theorem F3{g:Gh}{m:Nat}{ts:List Nat}:∀(ds:List D) (us:List yx),D.okNs m ts ds=J->Ar g ds us->Ar (q0 g m ts) ds us
 |[],us,_,h=>by simpa only[Ar] using h
 |d::ds,us,hk,h=>by
  simp only[D.okNs,HR] at hk
  simp only[Ar] at h⊢
  obtain⟨u,us',e,h1,h2⟩:=h
  exact⟨u,us',e,LL d u hk.1 h1,F3 ds us' hk.2 h2⟩
end
theorem Wv{E:co}{g:Gh}{σ σ':St}{w:yy}(hw:WI E g σ w){m:Nat}(hH:σ'.H=σ.H.take m)(hm:m<=I σ.H)(hE:E.g.n<=m)(hc:cp m (σ'.own.map (·.1)) σ'.H=J)(hown:σ'.own.Sublist σ.own):
  WI E (q0 g m (σ'.own.map (·.1))) σ' w:=by
 have get:∀(i:Nat) (cs:List D),σ'.H[i]?=G (G cs)->σ.H[i]?=G (G cs)/\i<m:=by
  intro i cs hi
  rw[hH,Jw] at hi
  split at hi
  ·exact⟨hi,by assumption⟩
  ·simp at hi
 have hι:∀x∈σ'.own,(if (σ'.own.map (·.1)).contains x.1 then g.ι x.1 (I x.2.2) else none)=g.ι x.1 (I x.2.2):=fun x hx=>Io (by rw[List.contains_iff_mem];exact IA.2 ⟨x,hx,rfl⟩)
 refine{ rep:=⟨?_,hw.rep.mem,fun i cs hi=>?_,fun i j cs ds hi hj=>hw.rep.inj i j cs ds (get i cs hi).1 (get j ds hj).1,fun k sz xs hx=>?_,?_,fun x hx y hy hne u u' hu hu' b hb=>?_,fun x hx u hu b hb i cs hi=>?_,fun k hk j=>?_,hw.rep.gl,hw.rep.gw⟩,M:=hw.M,size:=hw.size,keep:=hw.keep,os:=hw.os,tape:=hw.tape,output:=hw.output,nE:=hE,βE:=fun o ho=>hw.βE o ho,κE:=fun o ho=>hw.κE o ho,objs:=fun i cs hi=>hw.objs i cs (get i cs hi).1,owns:=fun x hx u hu b hb=>?_,drawn:=hw.drawn }
 ·simp[hH];omega
 ·obtain⟨us,rest,e,h1,h2,h3,h4⟩:=hw.rep.obj i cs (get i cs hi).1
  exact⟨us,rest,e,h1,F3 cs us (O4 hc hi) h2,h3,h4⟩
 ·obtain⟨h0,u,hu,h1,h2,h3⟩:=hw.rep.own k sz xs (hown.subset hx)
  refine⟨h0,u,(hι _ hx).trans hu,h1,h2,fun j hj=>?_⟩
  simp only
  split
  ·exact h3 j hj
  ·rfl
 ·exact(hown.map _).nodup hw.rep.tags
 ·exact hw.rep.sep x (hown.subset hx) y (hown.subset hy) hne u u' ((hι x hx).symm.trans hu) ((hι y hy).symm.trans hu') b hb
 ·exact hw.rep.ownObj x (hown.subset hx) u ((hι x hx).symm.trans hu) b hb i cs (get i cs hi).1
 ·simp only
  rw[Ij]
  intro h
  rw[List.contains_iff_mem] at h
  obtain⟨x,hx,e⟩:=IA.1 h
  exact hk x hx e
 ·exact hw.owns x (hown.subset hx) u ((hι x hx).symm.trans hu) b hb
abbrev CN(m:Nat)(E0 E:co):Prop:=E0=E/\E.g.n<=m
theorem CV(m:Nat):Pr (CN m):=⟨fun h _ _ _ hw=>by rw[h.1];exact hw⟩
section
variable {P : x4} {R : List D -> St -> Prop} {k : List KI} {env : List D} {σ : St}
theorem Ah5{C:co->co->Prop}{m:Nat}(hCm:∀E0 E,C E0 E->E.g.n<=m){σ':St}{h:Nat}(hH:σ'.H=σ.H.take h)(hh:h<=I σ.H)(hm:m<=h)(he:D.okNs h (σ'.own.map (·.1)) env=J)(hc:cp h (σ'.own.map (·.1)) σ'.H=J)(hown:σ'.own.Sublist σ.own)(hr:AI C P R k env σ'):AI C P R k env σ:=fun E0 E g a w B hC hf hB=>
 hr E0 E _ a w B hC ⟨Wv hf.wi hH hh (IN (hCm _ _ hC) hm) hc hown,F3 _ _ he hf.env,hf.defers⟩ hB
end
noncomputable def Ff{β:Type}(l:List D)(i:Nat)(k:D->β):β:=
 List.rec (motive:=fun _=>Nat->(D->β)->β) (fun _ k=>k .undef) (fun a _ ih i k=>Nat.rec (motive:=fun _=>β) (k a) (fun j _=>ih j k) i) l i k
theorem Dw{β:Type}:∀(l:List D) (i:Nat) (k:D->β),Ff l i k=k (l.getD i .undef)
 |[],_,_=>rfl
 |a::l,0,k=>rfl
 |a::l,i+1,k=>by
  have h:Ff (a::l) (i+1) k=Ff l i k:=rfl
  rw[h,Dw l];simp
noncomputable def pu{β:Type}(env:List D)(x:x5)(K:D->β):β:=match x with
 |.tmp t=>Ff env t K
 |x=>K (ig env x)
theorem AiW{β:Type}(env:List D)(x:x5)(K:D->β):pu env x K=K (ig env x):=by
 cases x<;>simp[pu,Dw,ig]
noncomputable def TD{β:Type}(env:List D)(l:List x5)(K:List D->β):β:=
 List.rec (motive:=fun _=>(List D->β)->β) (fun K=>K []) (fun x _ ih K=>pu env x fun d=>ih fun ds=>K (d::ds)) l K
theorem Mm{β:Type}(env:List D):∀(l:List x5) (K:List D->β),TD env l K=K (l.map (ig env))
 |[],_=>rfl
 |x::l,K=>by
  have h:TD env (x::l) K=pu env x fun d=>TD env l fun ds=>K (d::ds):=rfl
  rw[h,AiW,Mm env l];rfl
theorem getD_some{env:List D}{t:Nat}{d:D}(h:env.getD t .undef=d)(hd:d≠ .undef):env[t]?=G d:=by
 rw[HY] at h
 cases e:env[t]? with
 |none=>rw[e] at h;exact absurd h.symm hd
 |some x=>rw[e] at h;simpa using h
theorem DSL.refl:∀l:List D,DSL l l
 |[]=>.nil
 |d::l=>.cons (.same d) (DSL.refl l)
theorem DSL.set{l:List D}{t:Nat}{d e:D}(h:l[t]?=G d)(hs:DS d e):DSL l (l.set t e):=by
 induction l generalizing t with
 |nil=>simp at h
 |cons a l ih=>
  cases t with
  |zero=>simp at h;subst h;exact .cons hs (DSL.refl l)
  |succ t=>exact .cons (.same a) (ih (by simpa using h))
theorem Mr{env:List D}{σ:St}:Cv env σ env σ:=fun E g a w hf=>⟨g,hf⟩
theorem MV{L:Nat->Option (List D)}:∀{ds ds':List D} {s n:Nat} {d:D} {x:V},Fz L ds ds'->ds[s]?=G d->Hf L n d x->Fz L ds (ds'.set s (.v x))
 |_,_,s,n,d,x,.nil,h,hl=>by simp at h
 |_,_,0,n,d,x,.keep hs,h,hl=>by simp at h;subst h;exact .view hl hs
 |_,_,0,n,d,x,.view _ hs,h,hl=>by simp at h;subst h;exact .view hl hs
 |_,_,s+1,n,d,x,.keep hs,h,hl=>by simp only[Jv];exact .keep (MV hs (by simpa using h) hl)
 |_,_,s+1,n,d,x,.view h' hs,h,hl=>by simp only[Jv];exact .view h' (MV hs (by simpa using h) hl)
theorem Fz.refl{L:Nat->Option (List D)}:∀l:List D,Fz L l l
 |[]=>.nil
 |_::l=>.keep (Fz.refl l)
theorem P7:∀{cs:List D} {xs:List V},D2 cs=G xs->∀{j:Nat} {y:V},xs[j]?=G y->∃c,cs[j]?=G c/\c.toV=G y
 |[],xs,h,j,y,hy=>by simp[D2] at h;subst h;simp at hy
 |c::cs,xs,h,j,y,hy=>by
  cases c<;>simp only[D2] at h<;>first|(split at h<;>first|(rename_i ys h1;simp at h;subst h;cases j with|zero=>(simp at hy;subst hy;exact⟨_,rfl,rfl⟩)|succ j=>(obtain⟨c,h2,h3⟩:=P7 h1 (j:=j) (by simpa using hy);exact⟨c,by simpa using h2,h3⟩))|simp at h)|simp at h
theorem Acr{H:List (Option (List D))}{q:Nat}{cs:List D}{xs:List V}(hq:H[q]?=G (G cs))(hx:D2 cs=G xs)(ha:xs.all (fun x=> !x.isAgg)=J):Hf (Ey [q] H) 1 (.ptr q 0) (.ref (.agg xs)):=by
 refine .inr (.inl ⟨q,0,cs,.agg xs,rfl,rfl,by simp[Ey,hq],fun j y hy=>?_⟩)
 have hm:=HW (show xs[j]?=G y from hy)
 obtain⟨c,h1,h2⟩:=P7 hx (show xs[j]?=G y from hy)
 exact⟨by simpa using ID.1 ha y hm,c,by rw[IC];exact h1,c,.same,h2⟩
theorem Acq{H:List (Option (List D))}{q:Nat}{c:D}{x:V}(hq:H[q]?=G (G [c]))(hx:c.toV=G x)(ha:x.isAgg=O):Hf (Ey [q] H) 1 (.ptr q 0) (.ref x):=by
 refine .inr (.inl ⟨q,0,[c],x,rfl,rfl,by simp[Ey,hq],fun j y hy=>?_⟩)
 have hc:x.cellsV=[x]:=by cases x<;>simp_all [V.cellsV,V.isAgg]
 rw[hc] at hy
 cases j with
 |zero=>simp at hy;subst hy;exact⟨ha,c,rfl,c,.same,hx⟩
 |succ j=>simp at hy
noncomputable def Rs(q:Nat)(x:V)(ss:List Nat)(env:List D)(K:List D->Prop):Prop:=
 List.rec (motive:=fun _=>List D->Prop) (fun env=>K env) (fun s _ ih env=>Ff env s fun d=>match d with
  |.ptr q' 0=>cond (Nat.beq q' q) (CP env s (.v (.ref x)) ih) False
  |_=>False) ss env
theorem NS{L:Nat->Option (List D)}{q:Nat}{x:V}(hl:Hf L 1 (.ptr q 0) (.ref x)){K:List D->Prop}{env0:List D}:∀{ss:List Nat} {env:List D},Fz L env0 env->(∀t:Nat,env[t]?=env0[t]?∨env[t]?=G (bt (.ref x)))->Rs q x ss env K->∃env',K env'/\Fz L env0 env'
 |[],env,hz,_,h=>⟨env,h,hz⟩
 |s::ss,env,hz,hi,h=>by
  have e:Rs q x (s::ss) env K=Ff env s fun d=>match d with
   |.ptr q' 0=>cond (Nat.beq q' q) (CP env s (.v (.ref x)) fun env=>Rs q x ss env K) False
   |_=>False:=rfl
  rw[e,Dw] at h
  split at h
  ·rename_i q' hd
   obtain⟨h1,h2⟩:=A4 h
   have:=Ir h1;subst this
   rw[BF] at h2
   have hs:=getD_some hd (by simp)
   have hs0:env0[s]?=G (.ptr q' 0):=by
    rcases hi s with h3|h3
    ·rw[←h3];exact hs
    ·rw[hs] at h3;simp at h3
   refine NS hl (MV hz hs0 hl) (fun t=>?_) h2
   rw[List.getElem?_set]
   split
   ·rename_i e;subst e
    rw[Io (HT.1 hs).1];exact .inr rfl
   ·exact hi t
  ·exact h.elim
noncomputable def c9(r i:Nat)(s:Sc)(env:List D)(σ:St)(K:Sc->List D->St->Prop):Prop:=
 Sc.rec (motive:=fun _=>List D->St->Prop)
  (fun env σ=>K .z env σ)
  (fun _ ih env σ=>∃a,ih a env σ)
  (fun s t _ _ env σ=>K (.b s t) env σ)
  (fun h s ih env σ=>match h with
   |.q r' i'=>cond (Nat.beq r r'&&Nat.beq i i') (ih env σ) (K (.h (.q r' i') s) env σ)
   |.un t=>Ff env t fun d=>match d with
    |.acc _ xs=>CP env t (.v (.list xs)) fun env=>ih env σ
    |.rv x _=>CP env t (.v x) fun env=>ih env σ
    |_=>False
   |.ga t=>Ff env t fun d=>match d with
    |.gro q n _=>CP env t (.arr q 0 n) fun env=>ih env σ
    |_=>False
   |.fa q ss=>match σ.H[q]? with
    |some (some cs)=>(match D2 cs with
     |some xs=>cond (xs.all fun x=> !x.isAgg) (Rs q (.agg xs) ss env fun env=>CP σ.H q none fun H=>ih env ⟨H,σ.own⟩) False
     |none=>False)
    |_=>False
   |.f1 q ss=>match σ.H[q]? with
    |some (some [c])=>(match c.toV with
     |some x=>cond (!x.isAgg) (Rs q x ss env fun env=>CP σ.H q none fun H=>ih env ⟨H,σ.own⟩) False
     |none=>False)
    |_=>False
   |.fl q t xs=>match σ.H[q]? with
    |some (some cs)=>Ff env t fun d=>match d with
     |.arr q' 0 n=>cond (Nat.beq q' q) (cs=xs.map .v/\n=I xs/\CP env t (.v (.list xs)) fun env=>CP σ.H q none fun H=>ih env ⟨H,σ.own⟩) False
     |_=>False
    |_=>False
   |.cl q j k sz=>match σ.H[q]? with
    |some (some cs)=>(match cs[j]? with
     |some (.v .nils)=>cond (E1 σ.own k&&Nat.blt 0 sz) (CP cs j (.acc k []) fun cs=>CP σ.H q (G cs) fun H=>ih env ⟨H,(k,sz,[])::σ.own⟩) False
     |_=>False)
    |_=>False
   |.nw t k sz=>Ff env t fun d=>match d with
    |.v .nils=>cond (E1 σ.own k&&Nat.blt 0 sz) (CP env t (.acc k []) fun env=>ih env ⟨σ.H,(k,sz,[])::σ.own⟩) False
    |_=>False
   |.cs σ'=>(B9 σ.H fun H=>B9 σ.own fun own=>∀e:List D,Cv e ⟨H,own⟩ e σ')/\ih env σ'
   |.ct t d σ'=>Ff env t fun d0=>match d0 with
    |.undef=>False
    |d0=>(∀e:List D,e[t]?=G d0->Cv e σ (e.set t d) σ')/\CP env t d fun env=>ih env σ'
   |h=>K (.h h s) env σ) s env σ
theorem AkW{env:List D}{σ:St}{t:Nat}{x:V}{u:yx}(ht:env[t]?=G (.rv x u)):Cv env σ (env.set t (.v x)) σ:=fun E g a w hf=>by
 obtain⟨v,hv,hr⟩:=BL hf.env ht
 simp only[Av] at hr
 refine⟨g,hf.wi,?_,hf.defers⟩
 have:=CZ hf.env t (d:=.v x) (u:=v) (by simp only[Av];rw[hr.1];exact hr.2)
 rwa[Eb hv] at this
theorem AkX{env:List D}{σ:St}{t k sz:Nat}(ht:env[t]?=G (.v .nils))(hk:∀x∈σ.own,x.1≠k)(hsz:0<sz):Cv env σ (env.set t (.acc k [])) ⟨σ.H,(k,sz,[])::σ.own⟩:=fun E g a w hf=>by
 obtain⟨hw1,hle1⟩:=hf.wi.addOwn (k:=k) (sz:=sz) (xs:=[]) (u:=.slice none 0 0) hk ⟨hsz,by simp⟩ (Dm _) (.inl ⟨none,rfl⟩) (fun b hb=>by simp[Cn] at hb)
 obtain⟨u,hu,hr⟩:=BL hf.env ht
 simp only[Av,C4] at hr
 subst hr
 refine⟨_,hw1,?_,hf.defers⟩
 have:=CZ (Ar.mono hle1 _ _ hf.env) t (d:=.acc k []) (u:=.slice none 0 0) (by simp only[Av];exact⟨Dm _,by simp⟩)
 rwa[Eb hu] at this
theorem AkY{env:List D}{σ:St}{q t:Nat}{xs:List V}(hq:σ.H[q]?=G (G (xs.map .v)))(ht:env[t]?=G (.arr q 0 (I xs))):Cv env σ (env.set t (.v (.list xs))) ⟨σ.H.set q none,σ.own⟩:=fun E g a w hf=>by
 have hone:∀x∈xs,x.isAgg=O:=fun x hx=>by
  obtain⟨_,_,_,_,_,h1,_⟩:=hf.wi.rep.obj q _ hq
  have:=h1 (.v x) (IA.2 ⟨x,hx,rfl⟩)
  simpa[D.one] using this
 have hfl:xs.flatMap V.cellsV=xs:=by
  clear hq ht hf
  induction xs with
  |nil=>rfl
  |cons x xs ih=>
   have hx:=hone x (by simp)
   have hc:x.cellsV=[x]:=by cases x<;>simp_all [V.cellsV,V.isAgg]
   rw[List.flatMap_cons,hc,ih fun y hy=>hone y (by simp[hy])];rfl
 have hz:Fz (Ey [q] σ.H) env (env.set t (.v (.list xs))):=by
  refine MV (n:=1) (Fz.refl env) ht (.inr (.inr ⟨q,0,1,xs.map .v,xs,.inl rfl,rfl,by omega,fun y hy=>?_,by simp[Ey,hq],fun j y hy=>?_⟩))
  ·have:=hone y hy;cases y<;>simp_all [V.size,V.isAgg]
  ·rw[hfl] at hy
   exact⟨hone y (HW hy),.v y,by rw[IC,I9,hy];rfl,.v y,.same,rfl⟩
 obtain⟨g',hf'⟩:=Q6 [q] hz E g a w hf
 exact⟨g',by simpa[HE] using hf'⟩
theorem PR{r i:Nat}{K:Sc->List D->St->Prop}:∀{s:Sc} {env:List D} {σ:St},c9 r i s env σ K->∃s' env' σ',K s' env' σ'/\Cv env σ env' σ'/\env'.length=I env
 |.z,env,σ,h=>⟨_,_,_,h,Mr,rfl⟩
 |.e f,env,σ,h=>by
  obtain⟨a,h⟩:=(h:∃a,c9 r i (f a) env σ K)
  exact PR h
 |.b s t,env,σ,h=>⟨_,_,_,h,Mr,rfl⟩
 |.h hh s,env,σ,h=>by
  have tr:∀{env1:List D} {σ1:St},Cv env σ env1 σ1->I env1=I env->c9 r i s env1 σ1 K->∃s' env' σ',K s' env' σ'/\Cv env σ env' σ'/\env'.length=I env:=by
   intro env1 σ1 hc hl hp
   obtain⟨s',env',σ',h1,h2,h3⟩:=PR hp
   exact⟨s',env',σ',h1,fun E g a w hf=>by obtain⟨g1,hf1⟩:=hc E g a w hf;exact h2 E g1 a w hf1,h3.trans hl⟩
  cases hh with
  |q r' i'=>
   have h':cond (Nat.beq r r'&&Nat.beq i i') (c9 r i s env σ K) (K (.h (.q r' i') s) env σ):=h
   cases hb:(Nat.beq r r'&&Nat.beq i i') with
   |true=>rw[hb] at h';exact tr Mr rfl h'
   |false=>rw[hb] at h';exact⟨_,_,_,h',Mr,rfl⟩
  |un t=>
   have h':Ff env t fun d=>match d with
    |.acc _ xs=>CP env t (.v (.list xs)) fun env=>c9 r i s env σ K
    |.rv x _=>CP env t (.v x) fun env=>c9 r i s env σ K
    |_=>False:=h
   rw[Dw] at h'
   split at h'
   ·rename_i k xs hd
    rw[BF] at h'
    exact tr (w6 (DSL.set (getD_some hd (by simp)) .acc)) (by simp) h'
   ·rename_i x u hd
    rw[BF] at h'
    exact tr (AkW (getD_some hd (by simp))) (by simp) h'
   ·exact h'.elim
  |ga t=>
   have h':Ff env t fun d=>match d with
    |.gro q n _=>CP env t (.arr q 0 n) fun env=>c9 r i s env σ K
    |_=>False:=h
   rw[Dw] at h'
   split at h'
   ·rename_i q n sz hd
    rw[BF] at h'
    exact tr (w6 (DSL.set (getD_some hd (by simp)) .gro)) (by simp) h'
   ·exact h'.elim
  |fa q ss=>
   have h':match σ.H[q]? with
    |some (some cs)=>(match D2 cs with
     |some xs=>cond (xs.all fun x=> !x.isAgg) (Rs q (.agg xs) ss env fun env=>CP σ.H q none fun H=>c9 r i s env ⟨H,σ.own⟩ K) False
     |none=>False)
    |_=>False:=h
   split at h'
   ·rename_i cs hq
    split at h'
    ·rename_i xs hx
     obtain⟨h1,h2⟩:=A4 h'
     obtain⟨env',h3,h4⟩:=NS (env0:=env) (Acr hq hx h1) (Fz.refl env) (fun t=>.inl rfl) h2
     rw[BF] at h3
     have hl:I env'=I env:=by
      have:∀{a b:List D} {L},Fz L a b->I b=I a:=by
       intro a b L hz;induction hz<;>simp_all
      exact this h4
     exact tr (by have:=Q6 [q] h4;simpa[HE] using this) hl h3
    ·exact h'.elim
   ·exact h'.elim
  |f1 q ss=>
   have h':match σ.H[q]? with
    |some (some [c])=>(match c.toV with
     |some x=>cond (!x.isAgg) (Rs q x ss env fun env=>CP σ.H q none fun H=>c9 r i s env ⟨H,σ.own⟩ K) False
     |none=>False)
    |_=>False:=h
   split at h'
   ·rename_i c hq
    split at h'
    ·rename_i x hx
     obtain⟨h1,h2⟩:=A4 h'
     obtain⟨env',h3,h4⟩:=NS (env0:=env) (Acq hq hx (by simpa using h1)) (Fz.refl env) (fun t=>.inl rfl) h2
     rw[BF] at h3
     have hl:I env'=I env:=by
      have:∀{a b:List D} {L},Fz L a b->I b=I a:=by
       intro a b L hz;induction hz<;>simp_all
      exact this h4
     exact tr (by have:=Q6 [q] h4;simpa[HE] using this) hl h3
    ·exact h'.elim
   ·exact h'.elim
  |fl q t xs=>
   have h':match σ.H[q]? with
    |some (some cs)=>Ff env t fun d=>match d with
     |.arr q' 0 n=>cond (Nat.beq q' q) (cs=xs.map .v/\n=I xs/\CP env t (.v (.list xs)) fun env=>CP σ.H q none fun H=>c9 r i s env ⟨H,σ.own⟩ K) False
     |_=>False
    |_=>False:=h
   split at h'
   ·rename_i cs hq
    rw[Dw] at h'
    split at h'
    ·rename_i q' n hd
     obtain⟨h1,rfl,rfl,h2⟩:=A4 h'
     have:=Ir h1;subst this
     rw[BF,BF] at h2
     exact tr (AkY hq (getD_some hd (by simp))) (by simp) h2
    ·exact h'.elim
   ·exact h'.elim
  |cl q j k sz=>
   have h':match σ.H[q]? with
    |some (some cs)=>(match cs[j]? with
     |some (.v .nils)=>cond (E1 σ.own k&&Nat.blt 0 sz) (CP cs j (.acc k []) fun cs=>CP σ.H q (G cs) fun H=>c9 r i s env ⟨H,(k,sz,[])::σ.own⟩ K) False
     |_=>False)
    |_=>False:=h
   split at h'
   ·rename_i cs hq
    split at h'
    ·rename_i hj
     obtain⟨h1,h2⟩:=A4 h'
     rw[HR] at h1
     rw[BF,BF] at h2
     exact tr (AcU q j k sz hq hj (CI h1.1) (Ix h1.2)) rfl h2
    ·exact h'.elim
   ·exact h'.elim
  |nw t k sz=>
   have h':Ff env t fun d=>match d with
    |.v .nils=>cond (E1 σ.own k&&Nat.blt 0 sz) (CP env t (.acc k []) fun env=>c9 r i s env ⟨σ.H,(k,sz,[])::σ.own⟩ K) False
    |_=>False:=h
   rw[Dw] at h'
   split at h'
   ·rename_i hd
    obtain⟨h1,h2⟩:=A4 h'
    rw[HR] at h1
    rw[BF] at h2
    exact tr (AkX (getD_some hd (by simp)) (CI h1.1) (Ix h1.2)) (by simp) h2
   ·exact h'.elim
  |cs σ'=>
   obtain⟨h1,h2⟩:=(h:(B9 σ.H fun H=>B9 σ.own fun own=>∀e:List D,Cv e ⟨H,own⟩ e σ')/\c9 r i s env σ' K)
   rw[Bz,Bz] at h1
   exact tr (h1 env) rfl h2
  |ct t d σ'=>
   have h':Ff env t fun d0=>match d0 with
    |.undef=>False
    |d0=>(∀e:List D,e[t]?=G d0->Cv e σ (e.set t d) σ')/\CP env t d fun env=>c9 r i s env σ' K:=h
   rw[Dw] at h'
   split at h'
   ·exact h'.elim
   ·rename_i hne
    rw[BF] at h'
    exact tr (h'.1 env (getD_some rfl (fun e=>hne e))) (by simp) h'.2
  |_=>exact⟨_,_,_,h,Mr,rfl⟩
noncomputable def li(env:List D)(t:Option Nat)(b:Bool)(K:List D->Prop):Prop:=match t with
 |some t=>CP env t (.v (.bool b)) K
 |none=>K env
noncomputable def qg(s:Sc)(b:Bool)(t:Option Nat)(env:List D)(K:Bool->Sc->List D->Prop):Prop:=match s with
 |.b s1 s2=>(b=J->li env t true fun env=>K true s1 env)/\(b=O->li env t false fun env=>K false s2 env)
 |.h .t s=>b=J/\li env t true fun env=>K true s env
 |.h .f s=>b=O/\li env t false fun env=>K false s env
 |.h .k s=>K b s env
 |s=>K b s env
theorem Abg{env:List D}{t:Nat}{b:Bool}(h:env[t]?=G (.v (.bool b))):env.set t (.v (.bool b))=env:=Eb h
theorem Sx{s:Sc}{b:Bool}{t:Option Nat}{env:List D}{K:Bool->Sc->List D->Prop}(h:qg s b t env K)(ht:∀t',t=G t'->env[t']?=G (.v (.bool b))):∃s',K b s' env:=by
 have up:∀{b':Bool} {K':List D->Prop},b=b'->li env t b' K'->K' env:=by
  intro b' K' e hu
  subst e
  cases t with
  |none=>exact hu
  |some t=>simp only[li,BF] at hu;rwa[Abg (ht t rfl)] at hu
 unfold qg at h
 split at h
 ·cases b with
  |true=>exact⟨_,up rfl (h.1 rfl)⟩
  |false=>exact⟨_,up rfl (h.2 rfl)⟩
 ·obtain⟨rfl,h⟩:=h;exact⟨_,up rfl h⟩
 ·obtain⟨rfl,h⟩:=h;exact⟨_,up rfl h⟩
 ·exact⟨_,h⟩
 ·exact⟨_,h⟩
noncomputable def wb(ops:Array yw)(i j:Nat):Bool:=(ops.toList.take i).any fun o=>match o.guard with
 |some (j',_)=>Nat.beq j' j
 |none=>false
noncomputable def GD(ops:Array yw)(i:Nat)(o:yw)(s:Sc)(env:List D)(K:Bool->Sc->List D->Prop):Prop:=match o.guard with
 |none=>K true s env
 |some (j,want)=>match (ops[j]?).bind (·.dst) with
  |some t=>Ff env t fun d=>match d with
   |.v (.bool b)=>Bool.rec (qg s b (G t) env fun b s env=>K (b==want) s env) (K (b==want) s env) (wb ops i j)
   |.tup _=>K false s env
   |_=>False
  |none=>False
theorem L5{ops:Array yw}{i:Nat}{o:yw}{s:Sc}{env:List D}{K:Bool->Sc->List D->Prop}(h:GD ops i o s env K):∃b s',K b s' env/\C0 env ops o=G b:=by
 unfold GD at h
 unfold C0
 split at h
 ·rename_i hg;exact⟨true,s,h,by simp[hg]⟩
 ·rename_i j want hg
  split at h
  ·rename_i t hj
   rw[Dw] at h
   split at h
   ·rename_i b hd
    have ht:=getD_some hd (by simp)
    cases hs:wb ops i j with
    |true=>rw[hs] at h;exact⟨_,s,h,by simp[hg,hj,ht]⟩
    |false=>
     rw[hs] at h
     obtain⟨s',h1⟩:=Sx h (fun t' e=>by simp at e;subst e;exact ht)
     exact⟨_,s',h1,by simp[hg,hj,ht]⟩
   ·rename_i ds hd
    have ht:=getD_some hd (by simp)
    exact⟨false,s,h,by simp[hg,hj,ht]⟩
   ·exact h.elim
  ·exact h.elim
noncomputable def UC(env:List D)(sl:List (Nat×Option D))(K:List (Nat×D)->Prop):Prop:=
 List.rec (motive:=fun _=>(List (Nat×D)->Prop)->Prop) (fun K=>K []) (fun p _ ih K=>Ff env p.1 fun d0=>match p.2 with
  |none=>ih fun L=>K ((p.1,d0)::L)
  |some d=>d0=d/\ih fun L=>K ((p.1,d)::L)) sl K
theorem KX{env:List D}:∀{sl:List (Nat×Option D)} {K:List (Nat×D)->Prop},UC env sl K->∃L,K L/\∀p∈L,env.getD p.1 .undef=p.2
 |[],K,h=>⟨[],h,by simp⟩
 |(t,o)::sl,K,h=>by
  have h':Ff env t fun d0=>match (generalizing:=false) o with
   |none=>UC env sl fun L=>K ((t,d0)::L)
   |some d=>d0=d/\UC env sl fun L=>K ((t,d)::L):=h
  rw[Dw] at h'
  cases o with
  |none=>
   obtain⟨L,h1,h2⟩:=KX h'
   refine⟨_,h1,fun p hp=>?_⟩
   rcases I8.1 hp with rfl|hp
   ·rfl
   ·exact h2 p hp
  |some d=>
   obtain⟨L,h1,h2⟩:=KX h'.2
   refine⟨_,h1,fun p hp=>?_⟩
   rcases I8.1 hp with rfl|hp
   ·exact h'.1
   ·exact h2 p hp
theorem Ew:∀(L:List (Nat×D)) (e:List D),I (L.foldl (fun e p=>e.set p.1 p.2) e)=I e
 |[],e=>rfl
 |p::L,e=>by rw[Jo,Ew L];simp
theorem Y2{env:List D}:∀{L:List (Nat×D)} {e:List D},(∀p∈L,env.getD p.1 .undef=p.2)->I e=I env->(∀(i:Nat) (d:D),e[i]?=G d->d=.undef∨env[i]?=G d)->∀(i:Nat) (d:D),(L.foldl (fun e p=>e.set p.1 p.2) e)[i]?=G d->d=.undef∨env[i]?=G d
 |[],e,_,_,h,i,d,hd=>h i d hd
 |p::L,e,hL,hl,h,i,d,hd=>by
  refine Y2 (L:=L) (e:=e.set p.1 p.2) (fun q hq=>hL q (List.mem_cons_of_mem _ hq)) (by simp[hl]) (fun i d hd=>?_) i d hd
  rw[List.getElem?_set] at hd
  split at hd
  ·rename_i e1;subst e1
   split at hd
   ·rename_i hlt
    simp at hd;subst hd
    refine .inr ?_
    have:=hL p (List.mem_cons_self)
    rw[HY] at this
    rw[HQ (by omega)] at this⊢
    simpa using this
   ·simp at hd
  ·exact h i d hd
theorem MS{env:List D}{nt:Nat}{L:List (Nat×D)}(hn:I env=nt)(h2:∀p∈L,env.getD p.1 .undef=p.2):I (b9 nt L)=I env/\∀(i:Nat) (d:D),(b9 nt L)[i]?=G d->d=.undef∨env[i]?=G d:=
 ⟨by simp[b9,Ew,hn],Y2 h2 (by simp[hn]) (fun i d hd=>by
  rw[List.getElem?_replicate] at hd
  split at hd
  ·simp at hd;exact .inl hd.symm
  ·simp at hd)⟩
noncomputable def W6(P:x4)(im:List Nat)(r:Nat)(ops:Array yw)(Z:List yw->List (Nat×D)->St->Prop)(L:List yw)(i:Nat)(s:Sc)(env:List D)(σ:St)(K:Sc->List D->St->Prop):Prop:=
 List.rec (motive:=fun _=>Nat->Sc->List D->St->Prop) (fun i s env σ=>c9 r i s env σ K)
  (fun o L ih i s env σ=>c9 r i s env σ fun s env σ=>match s with
   |.h (.s sl) _=>UC env sl fun sl=>Z (o::L) sl σ
   |s=>GD ops i o s env fun b s env=>
    Bool.rec (DA env o.dst (.tup []) fun env=>ih (Nat.succ i) s env σ)
     (TD env o.op.operands.toList fun ds=>f8 P im o ds σ s fun s d σ _=>DA env o.dst d fun env=>ih (Nat.succ i) s env σ) b) L i s env σ
def Cp(C:co->co->Prop)(P:x4)(R:List D->St->Prop)(k:List KI)(ops:Array yw)(L:List yw)(env:List D)(σ:St):Prop:=
 ∀(E0 E:co) (g:Gh) (a:Act) (w:yy) (B:Exit->Act->yy->Prop),C E0 E->FI E g σ env a w->
  (∀g' env' σ' a' w',FI E0 g' σ' env' a' w'->R env' σ'->B .ret a' w'/\B .normal a' w')->wpList P ops (KQ P B k) L a w
section
variable {C : co -> co -> Prop} {P : x4} {R : List D -> St -> Prop} {k : List KI}
theorem Cp.cv{ops:Array yw}{L:List yw}{env env':List D}{σ σ':St}(h:Cv env σ env' σ')(hk:Cp C P R k ops L env' σ'):Cp C P R k ops L env σ:=fun E0 E g a w B hC hf hB=>by
 obtain⟨g',hf'⟩:=h E g a w hf
 exact hk E0 E g' a w B hC hf' hB
theorem Cp.forget{ops:Array yw}{L:List yw}{env env':List D}{σ:St}(h:I env'=I env/\∀(i:Nat) (d:D),env'[i]?=G d->d=.undef∨env[i]?=G d)(hk:Cp C P R k ops L env' σ):Cp C P R k ops L env σ:=fun E0 E g a w B hC hf hB=>
 hk E0 E g a w B hC ⟨hf.wi,GI hf.env h.1 h.2,hf.defers⟩ hB
theorem Cp.op{ops:Array yw}{L:List yw}{o:yw}{env:List D}{σ σ':St}{d:D}(hg:C0 env ops o=G true)(h:Ay P o (o.op.operands.toList.map (ig env)) σ d σ')(hk:Cp C P R k ops L (CG env o.dst d) σ'):Cp C P R k ops (o::L) env σ:=fun E0 E g a w B hC hf hB=>by
 unfold wpList
 rw[Io (Ca hf.env hg)]
 refine .inl (h E g a w _ _ hf.wi (PK hf.wi.rep.gl hf.env _) fun g' w' u hw' hg' hd=>?_)
 exact hk E0 E g' _ _ B hC (hf.put hw' hg' hd o.dst) hB
theorem Cp.skip{ops:Array yw}{L:List yw}{o:yw}{env:List D}{σ:St}(hg:C0 env ops o=G false)(hk:Cp C P R k ops L (CG env o.dst (.tup [])) σ):Cp C P R k ops (o::L) env σ:=fun E0 E g a w B hC hf hB=>by
 unfold wpList
 rw[Ij (by rw[Ca hf.env hg];simp)]
 exact hk E0 E g _ _ B hC (hf.put hf.wi g.le_refl (Kp g) o.dst) hB
theorem NH{im:List Nat}{r:Nat}{ops:Array yw}{Z:List yw->List (Nat×D)->St->Prop}{K:Sc->List D->St->Prop}{n:Nat}(hZ:∀L sl σ,Z L sl σ->Cp C P R k ops L (b9 n sl) σ)(hK:∀s env σ,I env=n->K s env σ->AI C P R k env σ):∀{L:List yw} {i:Nat} {s:Sc} {env:List D} {σ:St},I env=n->W6 P im r ops Z L i s env σ K->Cp C P R k ops L env σ
 |[],i,s,env,σ,hl,h=>by
  obtain⟨s1,env1,σ1,h1,h2,h3⟩:=PR (show c9 r i s env σ K from h)
  exact Cp.cv h2 fun E0 E g a w B hC hf hB=>by
   unfold wpList;exact hK _ _ _ (h3.trans hl) h1 E0 E g a w B hC hf hB
 |o::L,i,s,env,σ,hl,h=>by
  have h':c9 r i s env σ fun s env σ=>match s with
   |.h (.s sl) _=>UC env sl fun sl=>Z (o::L) sl σ
   |s=>GD ops i o s env fun b s env=>
    Bool.rec (DA env o.dst (.tup []) fun env=>W6 P im r ops Z L (Nat.succ i) s env σ K)
     (TD env o.op.operands.toList fun ds=>f8 P im o ds σ s fun s d σ _=>DA env o.dst d fun env=>W6 P im r ops Z L (Nat.succ i) s env σ K) b:=h
  obtain⟨s1,env1,σ1,h1,h2,h3⟩:=PR h'
  refine Cp.cv h2 ?_
  have main:(GD ops i o s1 env1 fun b s env=>
    Bool.rec (DA env o.dst (.tup []) fun env=>W6 P im r ops Z L (Nat.succ i) s env σ1 K)
     (TD env o.op.operands.toList fun ds=>f8 P im o ds σ1 s fun s d σ _=>DA env o.dst d fun env=>W6 P im r ops Z L (Nat.succ i) s env σ K) b)->Cp C P R k ops (o::L) env1 σ1:=by
   intro h1
   obtain⟨b,s2,h4,h5⟩:=L5 h1
   cases b with
   |false=>
    have h6:DA env1 o.dst (.tup []) fun env=>W6 P im r ops Z L (Nat.succ i) s2 env σ1 K:=h4
    rw[D5] at h6
    refine Cp.skip h5 (NH hZ hK ?_ h6)
    cases o.dst<;>simp[CG,h3,hl]
   |true=>
    have h6:TD env1 o.op.operands.toList fun ds=>f8 P im o ds σ1 s2 fun s d σ _=>DA env1 o.dst d fun env=>W6 P im r ops Z L (Nat.succ i) s env σ K:=h4
    rw[Mm] at h6
    obtain⟨s3,d,σ3,kd,h7,h8⟩:=C8 h6
    rw[D5] at h7
    refine Cp.op h5 h8.op (NH hZ hK ?_ h7)
    cases o.dst<;>simp[CG,h3,hl]
  split at h1
  ·obtain⟨sl,h4,h5⟩:=KX h1
   exact Cp.forget (MS (h3.trans hl) h5) (hZ _ _ _ h4)
  ·exact main h1
end
inductive DK where
 |q
 |l (j q off n:Nat)
 |e
def DK.eff:DK->Bool
 |.e=>true
 |_=>false
noncomputable def AiY(rec:List DK)(j:Nat):Option Nat:=
 List.rec (motive:=fun _=>Nat->Nat->Option Nat) (fun _ _=>none) (fun d _ ih i j=>Bool.rec (ih (Nat.succ i) j) (Nat.rec (motive:=fun _=>Option Nat) (G i) (fun j _=>ih (Nat.succ i) j) j) d.eff) rec 0 j
noncomputable def qp(ops:Array yw)(rec:List DK)(i j:Nat):Option Nat:=
 List.rec (motive:=fun _=>Nat->Option Nat) (fun _=>none) (fun _ _ ih j=>match AiY rec j with
  |none=>none
  |some e=>cond (((EI [] ops.toList).getD e 0).testBit i) (G j) (ih (Nat.succ j))) rec j
noncomputable def sj(lim:Nat->Nat->Option Nat)(i:Nat):DK->Ef
 |.q=>(false,none)
 |.l j _ _ _=>(false,lim i j)
 |.e=>(true,none)
noncomputable def OO(lim:Nat->Nat->Option Nat):Nat->List DK->List Ef
 |_,[]=>[]
 |i,d::ds=>sj lim i d::OO lim (i+1) ds
noncomputable def NT(q off n j:Nat)(c0:Option (List D))(lim:Option Nat)(sts:List St)(c:Nat):Prop:=
 List.rec (motive:=fun _=>Nat->Prop) (fun _=>True) (fun τ _ ih c=>Bool.rec
  (match lim with
   |some b=>Bool.rec (ih (Nat.succ c)) (AG τ q off n=c0/\ih (Nat.succ c)) (Nat.ble c b)
   |none=>AG τ q off n=c0/\ih (Nat.succ c)) (ih (Nat.succ c)) (Nat.beq c j)) sts c
theorem S6{q off n j:Nat}{c0:Option (List D)}{lim:Option Nat}:∀{sts:List St} {c:Nat},NT q off n j c0 lim sts c->∀x τ,sts[x]?=G τ->c+x≠j->(∀b,lim=G b->c+x<=b)->AG τ q off n=c0
 |[],c,_,x,τ,hx,_,_=>by simp at hx
 |τ0::sts,c,h,x,τ,hx,hj,hb=>by
  have h':Bool.rec (match (generalizing:=false) lim with
   |some b=>Bool.rec (NT q off n j c0 lim sts (Nat.succ c)) (AG τ0 q off n=c0/\NT q off n j c0 lim sts (Nat.succ c)) (Nat.ble c b)
   |none=>AG τ0 q off n=c0/\NT q off n j c0 lim sts (Nat.succ c)) (NT q off n j c0 lim sts (Nat.succ c)) (Nat.beq c j):=h
  have rest:NT q off n j c0 lim sts (Nat.succ c):=by
   cases h1:Nat.beq c j with
   |true=>rw[h1] at h';exact h'
   |false=>
    rw[h1] at h'
    simp only at h'
    cases lim with
    |none=>exact h'.2
    |some b=>
     simp only at h'
     cases h2:Nat.ble c b with
     |true=>rw[h2] at h';exact h'.2
     |false=>rw[h2] at h';exact h'
  cases x with
  |succ x=>exact S6 rest x τ (by simpa using hx) (by simp only[Nat.succ_eq_add_one];omega) (fun b e=>by have:=hb b e;simp only[Nat.succ_eq_add_one];omega)
  |zero=>
   simp at hx;subst hx
   have h1:Nat.beq c j=O:=by
    cases h1:Nat.beq c j with
    |false=>rfl
    |true=>exact absurd (Ir h1) (by simpa using hj)
   rw[h1] at h'
   simp only at h'
   cases lim with
   |none=>exact h'.1
   |some b=>
    have:Nat.ble c b=J:=Nat.ble_eq_true_of_le (by simpa using hb b rfl)
    simp only[this] at h'
    exact h'.1
noncomputable def GO(lim:Nat->Nat->Option Nat)(sts:List St)(rec:List DK)(i:Nat):Prop:=
 List.rec (motive:=fun _=>Nat->Prop) (fun _=>True) (fun d _ ih i=>match d with
  |.l j q off n=>(match sts[j]? with
   |some τ=>NT q off n j (AG τ q off n) (lim i j) sts 0/\ih (Nat.succ i)
   |none=>False)
  |_=>ih (Nat.succ i)) rec i
def Ma:List DK->Bool
 |[]=>true
 |.l .. ::_=>false
 |_::rec=>Ma rec
theorem Ks{lim:Nat->Nat->Option Nat}{sts:List St}:∀{rec:List DK} {i:Nat},Ma rec=J->GO lim sts rec i
 |[],_,_=>trivial
 |.q::rec,i,h=>Ks (rec:=rec) (i:=i+1) h
 |.e::rec,i,h=>Ks (rec:=rec) (i:=i+1) h
 |.l .. ::_,_,h=>by simp[Ma] at h
noncomputable def lb(s:Sc)(K:Sc->Prop):Prop:=
 Sc.rec (motive:=fun _=>Prop) (K .z) (fun _ ih=>∃a,ih a) (fun s t _ _=>K (.b s t)) (fun h s _=>K (.h h s)) s
theorem YU{K:Sc->Prop}:∀{s:Sc},lb s K->∃s',K s'
 |.z,h=>⟨_,h⟩
 |.e f,h=>by obtain⟨a,h⟩:=(h:∃a,lb (f a) K);exact YU h
 |.b s t,h=>⟨_,h⟩
 |.h i s,h=>⟨_,h⟩
abbrev KD:=List DK->List St->Sc->List D->Prop
noncomputable def gf(P:x4)(im:List Nat)(ops:Array yw)(L:List yw)(rec:List DK)(sts:List St)(j:Nat)(s:Sc)(env:List D)(σ:St)(K:KD):Prop:=
 List.rec (motive:=fun _=>List DK->List St->Nat->Sc->List D->St->Prop) (fun rec sts _ s env _=>K rec sts s env)
  (fun o _ ih rec sts j s env σ=>lb s fun s=>GD ops (I rec) o s env fun b s env=>
   Bool.rec (DA env o.dst (.tup []) fun env=>AV rec .q fun rec=>ih rec sts j s env σ)
    (TD env o.op.operands.toList fun ds=>f8 P im o ds σ s fun s d σ' kd=>DA env o.dst d fun env=>match kd with
     |.pure=>AV rec .q fun rec=>ih rec sts j s env σ
     |.load q off n=>AV rec (.l j q off n) fun rec=>ih rec sts j s env σ
     |.eff=>AV rec .e fun rec=>AV sts σ' fun sts=>ih rec sts (Nat.succ j) s env σ') b) L rec sts j s env σ
noncomputable def wg(P:x4)(im:List Nat)(ops:Array yw)(s:Sc)(env:List D)(σ:St)(K:Sc->List D->St->Prop):Prop:=
 cond (Nat.blt ops.size 1000000) (gf P im ops ops.toList [] [σ] 0 s env σ fun rec sts s env=>
  cond (Mq ops (OO (qp ops rec) 0 rec)) (match sts.getLast? with
   |some σ=>Bool.rec (GO (qp ops rec) sts rec 0/\K s env σ) (K s env σ) (Ma rec)
   |none=>False) False) False
theorem FP{lim:Nat->Nat->Option Nat}{sts:List St}{d:DK}{rec:List DK}{i:Nat}(h:GO lim sts (d::rec) i):GO lim sts rec (i+1):=by
 have h':(match (generalizing:=false) d with
  |.l j q off n=>(match sts[j]? with
   |some τ=>NT q off n j (AG τ q off n) (lim i j) sts 0/\GO lim sts rec (Nat.succ i)
   |none=>False)
  |_=>GO lim sts rec (Nat.succ i)):=h
 split at h'
 ·split at h'
  ·exact h'.2
  ·exact h'.elim
 ·exact h'
theorem CH{P:x4}{o:yw}{env:List D}{σ σ':St}{d:D}(h:Ay P o (o.op.operands.toList.map (ig env)) σ d σ'):Ay P o (E2 env o) σ d σ':=by
 intro E g a w K Q hw hds hK
 refine h E g a w K Q hw ?_ hK
 unfold E2 at hds
 generalize o.op.operands.toList=l at hds⊢
 induction l with
 |nil=>simp[Ar]
 |cons x l ih=>
  simp only[Iu,Ar] at hds⊢
  obtain⟨u,us,e,h1,h2⟩:=hds
  simp only[Ie] at e
  obtain⟨rfl,rfl⟩:=e
  refine⟨_,_,rfl,?_,ih h2⟩
  cases x with
  |const u=>exact Th
  |_=>exact h1
theorem P5{P:x4}{im:List Nat}{ops:Array yw}{n:Nat}{K:KD}(hops:ops.size<1000000):∀{L:List yw} {rec:List DK} {sts:List St} {j:Nat} {s:Sc} {env:List D} {σ:St},I env=n->I sts=j+1->sts[j]?=G σ->gf P im ops L rec sts j s env σ K->
  ∃rec' sts' s' env' σ',K (rec++rec') (sts++sts') s' env'/\env'.length=n/\rec'.length=I L/\(sts++sts')[j+I sts']?=G σ'/\
   ∀lim:Nat->Nat->Option Nat,GO lim (sts++sts') rec' (I rec)->∃vals,G9 P ops (fun _=>sts++sts') 1000000 L env j vals (OO lim (I rec) rec') env' (j+I sts')
 |[],rec,sts,j,s,env,σ,hn,hl,hs,h=>by
  refine⟨[],[],s,env,σ,?_,hn,rfl,by simpa using hs,fun lim _=>⟨[],.nil⟩⟩
  have h':K rec sts s env:=h
  simpa using h'
 |o::L,rec,sts,j,s,env,σ,hn,hl,hs,h=>by
  have h':lb s fun s=>GD ops (I rec) o s env fun b s env=>
   Bool.rec (DA env o.dst (.tup []) fun env=>AV rec .q fun rec=>gf P im ops L rec sts j s env σ K)
    (TD env o.op.operands.toList fun ds=>f8 P im o ds σ s fun s d σ' kd=>DA env o.dst d fun env=>match kd with
     |.pure=>AV rec .q fun rec=>gf P im ops L rec sts j s env σ K
     |.load q off n=>AV rec (.l j q off n) fun rec=>gf P im ops L rec sts j s env σ K
     |.eff=>AV rec .e fun rec=>AV sts σ' fun sts=>gf P im ops L rec sts (Nat.succ j) s env σ' K) b:=h
  have hne:ops.size- (I L+1)≠1000000:=by omega
  have hput:∀(d:D),I (CG env o.dst d)=n:=fun d=>by cases o.dst<;>simp[CG,hn]
  obtain⟨s0,h'⟩:=YU h'
  obtain⟨b,s1,h1,h2⟩:=L5 h'
  cases b with
  |false=>
   have h3:DA env o.dst (.tup []) fun env=>AV rec .q fun rec=>gf P im ops L rec sts j s1 env σ K:=h1
   rw[D5,AU] at h3
   obtain⟨rec',sts',s',env',σ',k1,k2,k3,k4,k5⟩:=P5 hops (hput _) hl hs h3
   refine⟨.q::rec',sts',s',env',σ',by simpa using k1,k2,by simp[k3],k4,fun lim hlo=>?_⟩
   obtain⟨vals,hv⟩:=k5 lim (by have:=FP hlo;simpa using this)
   refine⟨_,.skip hne h2 (by simpa[OO] using hv)⟩
  |true=>
   have h3:TD env o.op.operands.toList fun ds=>f8 P im o ds σ s1 fun s d σ' kd=>DA env o.dst d fun env=>match kd with
     |.pure=>AV rec .q fun rec=>gf P im ops L rec sts j s env σ K
     |.load q off n=>AV rec (.l j q off n) fun rec=>gf P im ops L rec sts j s env σ K
     |.eff=>AV rec .e fun rec=>AV sts σ' fun sts=>gf P im ops L rec sts (Nat.succ j) s env σ' K:=h1
   rw[Mm] at h3
   obtain⟨s2,d,σ2,kd,h4,h5⟩:=C8 h3
   rw[D5] at h4
   have hidx:ops.size- (I L+1)≠1000000:=hne
   cases kd with
   |pure=>
    have h6:AV rec .q fun rec=>gf P im ops L rec sts j s2 (CG env o.dst d) σ K:=h4
    rw[AU] at h6
    obtain⟨rec',sts',s',env',σ',k1,k2,k3,k4,k5⟩:=P5 hops (hput _) hl hs h6
    refine⟨.q::rec',sts',s',env',σ',by simpa using k1,k2,by simp[k3],k4,fun lim hlo=>?_⟩
    obtain⟨vals,hv⟩:=k5 lim (by have:=FP hlo;simpa using this)
    exact⟨_,.quiet hne h2 (fun _ τ _=>CH (h5.2 τ)) (by simpa[OO] using hv)⟩
   |load q off m=>
    have h6:AV rec (.l j q off m) fun rec=>gf P im ops L rec sts j s2 (CG env o.dst d) σ K:=h4
    rw[AU] at h6
    obtain⟨rec',sts',s',env',σ',k1,k2,k3,k4,k5⟩:=P5 hops (hput _) hl hs h6
    refine⟨.l j q off m::rec',sts',s',env',σ',by simpa using k1,k2,by simp[k3],k4,fun lim hlo=>?_⟩
    obtain⟨vals,hv⟩:=k5 lim (by have:=FP hlo;simpa using this)
    have hv':G9 P ops (fun _=>sts++sts') 1000000 L (CG env o.dst d) j vals (OO lim (I rec+1) rec') env' (j+I sts'):=by simpa using hv
    have hjs:(sts++sts')[j]?=G σ:=by rw[Ip (by omega)];exact hs
    have hsame:∀x τ,(sts++sts')[x]?=G τ->(∀b,lim (I rec) j=G b->x<=b)->Ay P o (E2 env o) τ d τ:=by
     intro x τ hx hb
     refine CH (h5.2.2 τ ?_)
     by_cases e:x=j
     ·subst e;rw[hjs] at hx;simp at hx;rw[hx]
     ·have hl0:(match (sts++sts')[j]? with
       |some τ=>NT q off m j (AG τ q off m) (lim (I rec) j) (sts++sts') 0/\GO lim (sts++sts') rec' (Nat.succ (I rec))
       |none=>False):=hlo
      rw[hjs] at hl0
      exact S6 hl0.1 x τ hx (by simpa using e) (fun b hb'=>by simpa using hb b hb')
    cases hlim:lim (I rec) j with
    |none=>
     refine⟨d::vals,?_⟩
     simp only[OO,sj,hlim]
     refine .quiet hne h2 (fun _ τ hτ=>?_) hv'
     obtain⟨x,hx⟩:=List.getElem?_of_mem hτ
     exact hsame x τ hx (fun b hb=>by rw[hlim] at hb;simp at hb)
    |some b=>
     refine⟨d::vals,?_⟩
     simp only[OO,sj,hlim]
     exact .quietW b hne h2 (fun _ c τ hc hτ=>hsame c τ hτ (fun b' hb=>by rw[hlim] at hb;simp at hb;omega)) hv'
   |eff=>
    have h6:AV rec .e fun rec=>AV sts σ2 fun sts=>gf P im ops L rec sts (Nat.succ j) s2 (CG env o.dst d) σ2 K:=h4
    rw[AU,AU] at h6
    obtain⟨rec',sts',s',env',σ',k1,k2,k3,k4,k5⟩:=P5 hops (hput _) (by simp[hl]) (by rw[Il (by omega)];simp[hl]) h6
    refine⟨.e::rec',σ2::sts',s',env',σ',by simpa using k1,k2,by simp[k3],?_,fun lim hlo=>?_⟩
    ·have e:j+I (σ2::sts')=Nat.succ j+I sts':=by simp;omega
     rw[e];simpa using k4
    ·obtain⟨vals,hv⟩:=k5 lim (by have:=FP hlo;simpa using this)
     have hv':G9 P ops (fun _=>sts++σ2::sts') 1000000 L (CG env o.dst d) (j+1) vals (OO lim (I rec+1) rec') env' (j+I (σ2::sts')):=by
      have e:j+I (σ2::sts')=Nat.succ j+I sts':=by simp;omega
      rw[e];simpa using hv
     refine⟨_,.eff hne h2 (fun _ τ hτ _=>⟨σ2,?_,?_⟩) hv'⟩
     ·rw[Il (by omega)];simp[hl]
     ·rw[Ip (by omega),hs] at hτ
      simp at hτ;subst hτ
      exact CH h5
theorem Aa8{C:co->co->Prop}{P:x4}{R:List D->St->Prop}{k:List KI}(hm:P.follows .mixedOrders=J){im:List Nat}{id:Nat}{ops:Array yw}{s:Sc}{env:List D}{σ:St}{n:Nat}{K:Sc->List D->St->Prop}(hn:I env=n)
  (hK:∀s env σ,I env=n->K s env σ->AI C P R k env σ) (h:wg P im ops s env σ K):AI C P R (.code (.region id ops true)::k) env σ:=by
 obtain⟨h1,h2⟩:=A4 h
 have hops:ops.size<1000000:=Ix h1
 obtain⟨rec,sts,s',env',σ',k1,k2,k3,k4,k5⟩:=P5 hops hn (by simp) (by simp) h2
 obtain⟨h3,h5⟩:=A4 k1
 simp only[nil_append] at h3 h5
 simp only[IC] at k4
 split at h5
 ·rename_i τ hτ
  have h6:GO (qp ops rec) ([σ]++sts) rec 0/\K s' env' τ:=by
   cases hb:Ma rec with
   |true=>rw[hb] at h5;exact⟨Ks hb,h5⟩
   |false=>rw[hb] at h5;exact h5
  obtain⟨h4,h5⟩:=h6
  obtain⟨vals,hv⟩:=k5 (qp ops rec) (by simpa using h4)
  simp only[IC] at hv
  have:τ=σ':=by
   rw[List.getLast?_eq_getElem?] at hτ
   rw[show([σ]++sts).length-1=I sts by simp] at hτ
   rw[k4] at hτ;simpa using hτ.symm
  subst this
  refine Lg hm (fun _=>[σ]++sts) 1000000 (by simp) k4 hv ?_ (hK _ _ _ k2 h5)
  simpa using h3
 ·exact h5.elim
structure Ld where
 q:Nat
 off:Nat
 n:Nat
 c:Option (List D)
noncomputable def Pm(q off n:Nat)(c0:Option (List D))(sts:List St):Prop:=List.rec (motive:=fun _=>Prop) True (fun τ _ ih=>AG τ q off n=c0/\ih) sts
theorem N9{q off n:Nat}{c0:Option (List D)}:∀{sts:List St},Pm q off n c0 sts->∀τ∈sts,AG τ q off n=c0
 |[],_,τ,h=>absurd h (by simp)
 |σ::sts,h,τ,hτ=>by
  have h':AG σ q off n=c0/\Pm q off n c0 sts:=h
  rcases I8.1 hτ with rfl|hτ
  ·exact h'.1
  ·exact N9 h'.2 τ hτ
noncomputable def pg(sts:List St)(l:List Ld):Prop:=List.rec (motive:=fun _=>Prop) True (fun x _ ih=>Pm x.q x.off x.n x.c sts/\ih) l
theorem RI{sts:List St}:∀{l:List Ld},pg sts l->∀x∈l,∀τ∈sts,AG τ x.q x.off x.n=x.c
 |[],_,x,h=>absurd h (by simp)
 |y::l,h,x,hx=>by
  have h':Pm y.q y.off y.n y.c sts/\pg sts l:=h
  rcases I8.1 hx with rfl|hx
  ·exact N9 h'.1
  ·exact RI h'.2 x hx
def Pz(cs:List D)(τ:St):St:=⟨τ.H++[G cs],τ.own⟩
def i6(ad τ:St):St:=⟨τ.H++ad.H,ad.own++τ.own⟩
noncomputable def qq(f:St->Prop)(l:List St):Prop:=List.rec (motive:=fun _=>Prop) True (fun τ _ p=>f τ/\p) l
theorem Uw{f:St->Prop}:∀{l:List St},qq f l->∀τ∈l,f τ
 |[],_,τ,h=>by simp at h
 |x::l,h,τ,hτ=>by
  have h:f x/\qq f l:=h
  rcases I8.1 hτ with rfl|hτ
  ·exact h.1
  ·exact Uw h.2 τ hτ
abbrev u7:=List St->List St->List Ld->List Ef->Sc->List D->Prop
noncomputable def WF(P:x4)(im:List Nat)(ops:Array yw)(fr:Nat)(ad:St)(K:u7)(L:List yw):Nat->Bool->(St->St->Prop)->List St->List St->List Ld->List Ef->Sc->List D->St->St->Prop:=
 List.rec (motive:=fun _=>Nat->Bool->(St->St->Prop)->List St->List St->List Ld->List Ef->Sc->List D->St->St->Prop) (fun _ _ _ LF LT lds ef s env _ _=>K LF LT lds ef s env)
  (fun o _ ih i af pd LF LT lds ef s env σF σT=>lb s fun s=>GD ops i o s env fun b s env=>
   Bool.rec
    (Bool.rec (DA env o.dst (.tup []) fun env=>AV ef (false,none) fun ef=>ih (Nat.succ i) af pd LF LT lds ef s env σF σT) False (Nat.beq i fr))
    (Bool.rec
     (TD env o.op.operands.toList fun ds=>f8 P im o ds (Bool.rec σF σT af) s fun s1 d σ1 kd=>match kd with
      |.pure=>DA env o.dst d fun env=>AV ef (false,none) fun ef=>ih (Nat.succ i) af pd LF LT lds ef s1 env σF σT
      |.load q off n=>DA env o.dst d fun env=>AV ef (false,none) fun ef=>AV lds ⟨q,off,n,AG (Bool.rec σF σT af) q off n⟩ fun lds=>ih (Nat.succ i) af pd LF LT lds ef s1 env σF σT
      |.eff=>Bool.rec
       (f8 P im o ds σT s fun _ d2 σ2 kd2=>match kd2 with
        |.eff=>d2=d/\DA env o.dst d fun env=>AV ef (true,none) fun ef=>AV LF σ1 fun LF=>AV LT σ2 fun LT=>ih (Nat.succ i) af pd LF LT lds ef s1 env σ1 σ2
        |_=>False)
       (cond (FO ops i fr) (DA env o.dst d fun env=>AV ef (true,none) fun ef=>AV LT σ1 fun LT=>ih (Nat.succ i) af pd LF LT lds ef s1 env σF σ1)
        (cond (Nat.beq (I LF) (I LT)) (f8 P im o ds σF s fun _ d2 σ2 kd2=>match kd2 with
         |.eff=>d2=d/\pd σ2 σ1/\DA env o.dst d fun env=>AV ef (true,none) fun ef=>AV LF σ2 fun LF=>AV LT σ1 fun LT=>ih (Nat.succ i) af pd LF LT lds ef s1 env σ2 σ1
         |_=>False) False)) af)
     (match (generalizing:=false) o.op,af with
      |.alloc e,false=>(match M6 P e with
       |some xs=>cond (LF.all fun τ=>Nat.beq (I τ.H) (I σF.H)) (LT=LF.map (Pz (xs.map .v))/\DA env o.dst (.ptr (I σF.H) 0) fun env=>AV ef (false,none) fun ef=>ih (Nat.succ i) true (fun τ τ1=>τ1=Pz (xs.map .v) τ/\τ.H.length=I σF.H) LF LT lds ef s env σF σT) False
       |none=>False)
      |_,false=>(match s with
       |.h (.o d _) s=>TD env o.op.operands.toList fun ds=>LT=LF.map (i6 ad)/\qq (fun τ=>Ay P o ds τ d (i6 ad τ)) LF/\DA env o.dst d fun env=>AV ef (false,none) fun ef=>ih (Nat.succ i) true (fun τ τ1=>τ1=i6 ad τ/\Ay P o ds τ d (i6 ad τ)) LF LT lds ef s env σF σT
       |_=>False)
      |_,_=>False) (Nat.beq i fr)) b) L
theorem E4{P:x4}{im:List Nat}{ops:Array yw}{fr n:Nat}{ad:St}{K:u7}:∀{L:List yw} {i:Nat} {af:Bool} {pd:St->St->Prop} {LF LT:List St} {lds:List Ld} {ef:List Ef} {s:Sc} {env:List D} {σF σT:St} {j:Nat},I env=n->i+I L=ops.size->I LT=j+1->LT[j]?=G σT->
  (af=O->I LF=j+1)->(I LF=j+1->LF[j]?=G σF)->I LF<=j+1->WF P im ops fr ad K L i af pd LF LT lds ef s env σF σT->
  ∃LF' LT' lds' ef' s' env' σ',K (LF++LF') (LT++LT') (lds++lds') (ef++ef') s' env'/\env'.length=n/\(LT++LT')[j+I LT']?=G σ'/\(af=J->(I LF=I LT∨LF'=[])/\∀(c:Nat) (τ:St),LF'[c]?=G τ->∃τ1,LT'[c]?=G τ1/\pd τ τ1)/\
   ((∀x∈lds',∀τ∈ (LF++LF')++(LT++LT'),AG τ x.q x.off x.n=x.c)->∃vals,G9 P ops (CR (LF++LF') (LT++LT')) fr L env j vals ef' env' (j+I LT'))
 |[],i,af,pd,LF,LT,lds,ef,s,env,σF,σT,j,hn,hi,hl,hs,hF,hF2,hF3,h=>by
  refine⟨[],[],[],[],s,env,σT,?_,hn,by simpa using hs,fun _=>⟨.inr rfl,fun c τ hc=>by simp at hc⟩,fun _=>⟨[],.nil⟩⟩
  have h':K LF LT lds ef s env:=h
  simpa using h'
 |o::L,i,af,pd,LF,LT,lds,ef,s,env,σF,σT,j,hn,hi,hl,hs,hF,hF2,hF3,h=>by
  have h':lb s fun s=>GD ops i o s env fun b s env=>
   Bool.rec
    (Bool.rec (DA env o.dst (.tup []) fun env=>AV ef (false,none) fun ef=>WF P im ops fr ad K L (Nat.succ i) af pd LF LT lds ef s env σF σT) False (Nat.beq i fr))
    (Bool.rec
     (TD env o.op.operands.toList fun ds=>f8 P im o ds (Bool.rec σF σT af) s fun s1 d σ1 kd=>match kd with
      |.pure=>DA env o.dst d fun env=>AV ef (false,none) fun ef=>WF P im ops fr ad K L (Nat.succ i) af pd LF LT lds ef s1 env σF σT
      |.load q off n=>DA env o.dst d fun env=>AV ef (false,none) fun ef=>AV lds ⟨q,off,n,AG (Bool.rec σF σT af) q off n⟩ fun lds=>WF P im ops fr ad K L (Nat.succ i) af pd LF LT lds ef s1 env σF σT
      |.eff=>Bool.rec
       (f8 P im o ds σT s fun _ d2 σ2 kd2=>match kd2 with
        |.eff=>d2=d/\DA env o.dst d fun env=>AV ef (true,none) fun ef=>AV LF σ1 fun LF=>AV LT σ2 fun LT=>WF P im ops fr ad K L (Nat.succ i) af pd LF LT lds ef s1 env σ1 σ2
        |_=>False)
       (cond (FO ops i fr) (DA env o.dst d fun env=>AV ef (true,none) fun ef=>AV LT σ1 fun LT=>WF P im ops fr ad K L (Nat.succ i) af pd LF LT lds ef s1 env σF σ1)
        (cond (Nat.beq (I LF) (I LT)) (f8 P im o ds σF s fun _ d2 σ2 kd2=>match kd2 with
         |.eff=>d2=d/\pd σ2 σ1/\DA env o.dst d fun env=>AV ef (true,none) fun ef=>AV LF σ2 fun LF=>AV LT σ1 fun LT=>WF P im ops fr ad K L (Nat.succ i) af pd LF LT lds ef s1 env σ2 σ1
         |_=>False) False)) af)
     (match (generalizing:=false) o.op,af with
      |.alloc e,false=>(match M6 P e with
       |some xs=>cond (LF.all fun τ=>Nat.beq (I τ.H) (I σF.H)) (LT=LF.map (Pz (xs.map .v))/\DA env o.dst (.ptr (I σF.H) 0) fun env=>AV ef (false,none) fun ef=>WF P im ops fr ad K L (Nat.succ i) true (fun τ τ1=>τ1=Pz (xs.map .v) τ/\τ.H.length=I σF.H) LF LT lds ef s env σF σT) False
       |none=>False)
      |_,false=>(match s with
       |.h (.o d _) s=>TD env o.op.operands.toList fun ds=>LT=LF.map (i6 ad)/\qq (fun τ=>Ay P o ds τ d (i6 ad τ)) LF/\DA env o.dst d fun env=>AV ef (false,none) fun ef=>WF P im ops fr ad K L (Nat.succ i) true (fun τ τ1=>τ1=i6 ad τ/\Ay P o ds τ d (i6 ad τ)) LF LT lds ef s env σF σT
       |_=>False)
      |_,_=>False) (Nat.beq i fr)) b:=h
  clear h
  have hidx:ops.size- (I L+1)=i:=by simp at hi;omega
  have hi':Nat.succ i+I L=ops.size:=by simp at hi;omega
  have hput:∀(d:D),I (CG env o.dst d)=n:=fun d=>by cases o.dst<;>simp[CG,hn]
  obtain⟨s0,h'⟩:=YU h'
  obtain⟨b,s1,h1,h2⟩:=L5 h'
  have snoc2:∀{α:Type} (a:List α) (x:α) (r:List α),a++[x]++r=a++x::r:=fun a x r=>by simp
  cases b with
  |false=>
   cases hb:Nat.beq i fr with
   |true=>simp only[hb] at h1
   |false=>
    have hne:ops.size- (I L+1)≠fr:=by rw[hidx];exact fun e=>by rw[e,Nat.beq_refl] at hb;simp at hb
    simp only[hb] at h1
    rw[D5,AU] at h1
    obtain⟨LF',LT',lds',ef',s',env',σ',k1,k2,k3,k4,k5⟩:=E4 (hput _) hi' hl hs hF hF2 hF3 h1
    refine⟨LF',LT',lds',(false,none)::ef',s',env',σ',by simpa using k1,k2,k3,k4,fun hlo=>?_⟩
    obtain⟨vals,hv⟩:=k5 hlo
    exact⟨_,.skip hne h2 hv⟩
  |true=>
   cases hb:Nat.beq i fr with
   |true=>
    simp only[hb] at h1
    split at h1
    ·rename_i e heq _
     split at h1
     ·rename_i xs hz
      obtain⟨hall,h3,h4⟩:=A4 h1
      rw[D5,AU] at h4
      have hF1:=hF rfl
      obtain⟨LF',LT',lds',ef',s',env',σ',k1,k2,k3,k4,k5⟩:=E4 (af:=true) (hput _) hi' hl hs (fun e=>by simp at e) hF2 hF3 h4
      refine⟨LF',LT',lds',(false,none)::ef',s',env',σ',by simpa using k1,k2,k3,fun e=>by simp at e,fun hlo=>?_⟩
      obtain⟨vals,hv⟩:=k5 hlo
      have hLF:=(k4 rfl).2
      refine⟨_,.free (by rw[hidx];exact(Ir hb).symm) h2 (fun c τ hc=>?_) hv⟩
      have hc:(LF++LF')[c]?=G τ:=by simpa[CR] using hc
      have hopA:∀τ:St,I τ.H=I σF.H->Ay P o (E2 env o) τ (.ptr (I σF.H) 0) (Pz (xs.map .v) τ):=fun τ hlen=>by
       rw[←hlen]
       have:=LX (P:=P) (o:=o) (σ:=τ) heq hz
       exact CH (by simpa[heq,Op.operands,Pz] using this)
      rcases Nat.lt_or_ge c (I LF) with hcl|hcl
      rotate_left
      ·rw[Il (by omega)] at hc
       obtain⟨τ1,g1,rfl,g3⟩:=hLF _ _ hc
       refine⟨_,?_,hopA τ g3⟩
       simp only[CR]
       rw[Il (by omega),show c-I LT=c-I LF by omega];exact g1
      rw[Ip hcl] at hc
      refine⟨Pz (xs.map .v) τ,?_,?_⟩
      ·have:LT[c]?=G (Pz (xs.map .v) τ):=by rw[h3,I9,hc];rfl
       have hlt:=(HT.1 this).1
       simp only[CR]
       rw[Ip hlt];exact this
      ·have hlen:=ID.1 hall τ (HW hc)
       have hlen:=Ir hlen
       exact hopA τ hlen
     ·exact h1.elim
    ·split at h1
     ·rename_i d _ s2
      rw[Mm] at h1
      obtain⟨h3,hop,h4⟩:=h1
      rw[D5,AU] at h4
      have hF1:=hF rfl
      obtain⟨LF',LT',lds',ef',s',env',σ',k1,k2,k3,k4,k5⟩:=E4 (af:=true) (hput _) hi' hl hs (fun e=>by simp at e) hF2 hF3 h4
      refine⟨LF',LT',lds',(false,none)::ef',s',env',σ',by simpa using k1,k2,k3,fun e=>by simp at e,fun hlo=>?_⟩
      obtain⟨vals,hv⟩:=k5 hlo
      have hLF:=(k4 rfl).2
      refine⟨_,.free (by rw[hidx];exact(Ir hb).symm) h2 (fun c τ hc=>?_) hv⟩
      have hc:(LF++LF')[c]?=G τ:=by simpa[CR] using hc
      rcases Nat.lt_or_ge c (I LF) with hcl|hcl
      rotate_left
      ·rw[Il (by omega)] at hc
       obtain⟨τ1,g1,rfl,g3⟩:=hLF _ _ hc
       refine⟨_,?_,CH g3⟩
       simp only[CR]
       rw[Il (by omega),show c-I LT=c-I LF by omega];exact g1
      rw[Ip hcl] at hc
      refine⟨i6 ad τ,?_,CH (Uw hop τ (HW hc))⟩
      have:LT[c]?=G (i6 ad τ):=by rw[h3,I9,hc];rfl
      have hlt:=(HT.1 this).1
      simp only[CR]
      rw[Ip hlt];exact this
     ·exact h1.elim
    ·exact h1.elim
   |false=>
    have hne:ops.size- (I L+1)≠fr:=by rw[hidx];exact fun e=>by rw[e,Nat.beq_refl] at hb;simp at hb
    simp only[hb] at h1
    rw[Mm] at h1
    obtain⟨s2,d,σ1,kd,h4,h5⟩:=C8 h1
    cases kd with
    |pure=>
     simp only at h4
     rw[D5,AU] at h4
     obtain⟨LF',LT',lds',ef',s',env',σ',k1,k2,k3,k4,k5⟩:=E4 (hput _) hi' hl hs hF hF2 hF3 h4
     refine⟨LF',LT',lds',(false,none)::ef',s',env',σ',by simpa using k1,k2,k3,k4,fun hlo=>?_⟩
     obtain⟨vals,hv⟩:=k5 hlo
     exact⟨_,.quiet hne h2 (fun _ τ _=>CH (h5.2 τ)) hv⟩
    |load q off m=>
     simp only at h4
     rw[D5,AU,AU] at h4
     obtain⟨LF',LT',lds',ef',s',env',σ',k1,k2,k3,k4,k5⟩:=E4 (hput _) hi' hl hs hF hF2 hF3 h4
     refine⟨LF',LT',_::lds',(false,none)::ef',s',env',σ',by simpa using k1,k2,k3,k4,fun hlo=>?_⟩
     obtain⟨vals,hv⟩:=k5 (fun x hx=>hlo x (List.mem_cons_of_mem _ hx))
     refine⟨_,.quiet hne h2 (fun b τ hτ=>CH (h5.2.2 τ ?_)) hv⟩
     refine hlo _ (List.mem_cons_self ..) τ ?_
     cases b
     ·exact IE.2 (.inl (by simpa[CR] using hτ))
     ·exact IE.2 (.inr (by simpa[CR] using hτ))
    |eff=>
     cases af with
     |true=>
      simp only at h4
      cases hnd:FO ops i fr with
      |true=>
       rw[hnd,cond_true] at h4
       have hneed:=hnd
       rw[D5,AU,AU] at h4
       obtain⟨LF',LT',lds',ef',s',env',σ',k1,k2,k3,k4,k5⟩:=E4 (j:=j+1) (hput _) hi' (by simp[hl]) (by rw[Il (by omega)];simp[hl]) (fun e=>by simp at e) (fun e=>by omega) (by omega) h4
       have e1:j+I (σ1::LT')=j+1+I LT':=by simp;omega
       have hLF0:LF'=[]:=by
        rcases(k4 rfl).1 with h|h
        ·simp only[Ig,HV,HZ] at h;omega
        ·exact h
       rw[snoc2] at k1 k3
       refine⟨LF',σ1::LT',lds',(true,none)::ef',s',env',σ',by simpa using k1,k2,by rw[e1];exact k3,fun _=>⟨.inr hLF0,fun c τ hc=>by rw[hLF0] at hc;simp at hc⟩,fun hlo=>?_⟩
       obtain⟨vals,hv⟩:=k5 (by rw[snoc2];exact hlo)
       rw[snoc2] at hv
       rw[e1]
       refine⟨_,.eff hne h2 (fun b τ hτ hneedF=>?_) hv⟩
       cases b with
       |false=>have:=hneedF rfl;rw[hidx,hneed] at this;simp at this
       |true=>
        have hτ:(LT++σ1::LT')[j]?=G τ:=by simpa[CR] using hτ
        rw[Ip (by omega),hs] at hτ
        simp at hτ;subst hτ
        refine⟨σ1,?_,CH h5⟩
        simp only[CR]
        rw[Il (by omega)];simp[hl]
      |false=>
       rw[hnd,cond_false] at h4
       obtain⟨hlen,h4⟩:=A4 h4
       have hlen:=Ir hlen
       have hF1:I LF=j+1:=by omega
       obtain⟨s3,d2,σ2,kd2,h6,h7⟩:=C8 h4
       cases kd2 with
       |pure=>exact h6.elim
       |load=>exact h6.elim
       |eff=>
        obtain⟨rfl,hpd,h6⟩:=h6
        rw[D5,AU,AU,AU] at h6
        obtain⟨LF',LT',lds',ef',s',env',σ',k1,k2,k3,k4,k5⟩:=E4 (af:=true) (j:=j+1) (hput _) hi' (by simp[hl]) (by rw[Il (by omega)];simp[hl]) (fun _=>by simp[hF1]) (fun _=>by rw[Il (by omega)];simp[hF1]) (by simp[hF1]) h6
        have e1:j+I (σ1::LT')=j+1+I LT':=by simp;omega
        rw[snoc2] at k3
        rw[snoc2,snoc2] at k1
        refine⟨σ2::LF',σ1::LT',lds',(true,none)::ef',s',env',σ',by simpa using k1,k2,by rw[e1];exact k3,fun _=>⟨.inl hlen,fun c τ hc=>?k4⟩,fun hlo=>?_⟩
        case k4=>
         cases c with
         |zero=>simp at hc;subst hc;exact⟨σ1,rfl,hpd⟩
         |succ c=>exact(k4 rfl).2 c τ (by simpa using hc)
        obtain⟨vals,hv⟩:=k5 (by rw[snoc2,snoc2];exact hlo)
        rw[snoc2,snoc2] at hv
        rw[e1]
        refine⟨_,.eff hne h2 (fun b τ hτ _=>?_) hv⟩
        cases b with
        |false=>
         have hτ:(LF++σ2::LF')[j]?=G τ:=by simpa[CR] using hτ
         rw[Ip (by omega),hF2 hF1] at hτ
         simp at hτ;subst hτ
         refine⟨σ2,?_,CH h7⟩
         simp only[CR]
         rw[Il (by omega)];simp[hF1]
        |true=>
         have hτ:(LT++σ1::LT')[j]?=G τ:=by simpa[CR] using hτ
         rw[Ip (by omega),hs] at hτ
         simp at hτ;subst hτ
         refine⟨σ1,?_,CH h5⟩
         simp only[CR]
         rw[Il (by omega)];simp[hl]
     |false=>
      simp only at h4
      have hF1:=hF rfl
      obtain⟨s3,d2,σ2,kd2,h6,h7⟩:=C8 h4
      cases kd2 with
      |pure=>exact h6.elim
      |load=>exact h6.elim
      |eff=>
       obtain⟨rfl,h6⟩:=h6
       rw[D5,AU,AU,AU] at h6
       obtain⟨LF',LT',lds',ef',s',env',σ',k1,k2,k3,k4,k5⟩:=E4 (af:=false) (j:=j+1) (hput _) hi' (by simp[hl]) (by rw[Il (by omega)];simp[hl]) (fun _=>by simp[hF1]) (fun _=>by rw[Il (by omega)];simp[hF1]) (by simp[hF1]) h6
       have e1:j+I (σ2::LT')=j+1+I LT':=by simp;omega
       rw[snoc2] at k3
       rw[snoc2,snoc2] at k1
       refine⟨σ1::LF',σ2::LT',lds',(true,none)::ef',s',env',σ',by simpa using k1,k2,by rw[e1];exact k3,fun e=>by simp at e,fun hlo=>?_⟩
       obtain⟨vals,hv⟩:=k5 (by rw[snoc2,snoc2];exact hlo)
       rw[snoc2,snoc2] at hv
       rw[e1]
       refine⟨_,.eff hne h2 (fun b τ hτ _=>?_) hv⟩
       cases b with
       |false=>
        have hτ:(LF++σ1::LF')[j]?=G τ:=by simpa[CR] using hτ
        rw[Ip (by omega),hF2 hF1] at hτ
        simp at hτ;subst hτ
        refine⟨σ1,?_,CH h5⟩
        simp only[CR]
        rw[Il (by omega)];simp[hF1]
       |true=>
        have hτ:(LT++σ2::LT')[j]?=G τ:=by simpa[CR] using hτ
        rw[Ip (by omega),hs] at hτ
        simp at hτ;subst hτ
        refine⟨σ2,?_,CH h7⟩
        simp only[CR]
        rw[Il (by omega)];simp[hl]
noncomputable def AdL(P:x4)(im:List Nat)(ops:Array yw)(fr:Nat)(s:Sc)(env:List D)(σ:St)(K:Sc->List D->St->Prop):Prop:=
 cond (Nat.blt fr ops.size) (match (ops[fr]?).map Oper.op with
  |some (.alloc e)=>(match M6 P e with
   |some xs=>B9 (xs.map .v) fun cs=>AV σ.H (G cs) fun H=>WF P im ops fr σ (fun LF LT lds ef s env=>cond (Mq ops ef) (match LT.getLast? with
    |some τ=>pg (LF++LT) lds/\K s env τ
    |none=>False) False) ops.toList 0 false (fun _ _=>False) [σ] [⟨H,σ.own⟩] [] [] s env σ ⟨H,σ.own⟩
   |none=>False)
  |_=>(match s with
   |.h (.cs ad) s=>B9 (σ.H++ad.H) fun H=>B9 (ad.own++σ.own) fun own=>WF P im ops fr ad (fun LF LT lds ef s env=>cond (Mq ops ef) (match LT.getLast? with
    |some τ=>pg (LF++LT) lds/\K s env τ
    |none=>False) False) ops.toList 0 false (fun _ _=>False) [σ] [⟨H,own⟩] [] [] s env σ ⟨H,own⟩
   |_=>False)) False
theorem WE{C:co->co->Prop}{P:x4}{R:List D->St->Prop}{k:List KI}(hm:P.follows .mixedOrders=J){im:List Nat}{id:Nat}{ops:Array yw}{fr:Nat}{s:Sc}{env:List D}{σ:St}{n:Nat}{K:Sc->List D->St->Prop}(hn:I env=n)
  (hK:∀s env σ,I env=n->K s env σ->AI C P R k env σ) (h:AdL P im ops fr s env σ K):AI C P R (.code (.region id ops true)::k) env σ:=by
 obtain⟨h1,h2⟩:=A4 h
 have hfr:fr<ops.size:=Ix h1
 split at h2
 ·split at h2
  ·rename_i xs hz
   rw[Bz,AU] at h2
   obtain⟨LF',LT',lds',ef',s',env',σ',k1,k2,k3,k4,k5⟩:=E4 (j:=0) hn (by simp) (by simp) (by simp) (fun _=>by simp) (fun _=>by simp) (by simp) h2
   obtain⟨h3,h5⟩:=A4 k1
   simp only[nil_append] at h3 h5
   simp only[IC] at k3
   split at h5
   ·rename_i τ hτ
    obtain⟨h4,h5⟩:=h5
    obtain⟨vals,hv⟩:=k5 (RI h4)
    simp only[IC] at hv
    have:τ=σ':=by
     rw[List.getLast?_eq_getElem?] at hτ
     rw[show([(⟨σ.H++[G (xs.map .v)],σ.own⟩:St)]++LT').length-1=I LT' by simp] at hτ
     rw[k3] at hτ;simpa using hτ.symm
    subst this
    refine Lg hm (CR ([σ]++LF') ([⟨σ.H++[G (xs.map .v)],σ.own⟩]++LT')) fr (by simp[CR]) (by rw[HS hfr];simpa[CR] using k3) hv ?_ (hK _ _ _ k2 h5)
    simpa using h3
   ·exact h5.elim
  ·exact h2.elim
 ·split at h2
  ·rename_i ad s2
   rw[Bz,Bz] at h2
   obtain⟨LF',LT',lds',ef',s',env',σ',k1,k2,k3,k4,k5⟩:=E4 (j:=0) hn (by simp) (by simp) (by simp) (fun _=>by simp) (fun _=>by simp) (by simp) h2
   obtain⟨h3,h5⟩:=A4 k1
   simp only[nil_append] at h3 h5
   simp only[IC] at k3
   split at h5
   ·rename_i τ hτ
    obtain⟨h4,h5⟩:=h5
    obtain⟨vals,hv⟩:=k5 (RI h4)
    simp only[IC] at hv
    have:τ=σ':=by
     rw[List.getLast?_eq_getElem?] at hτ
     rw[show([(⟨σ.H++ad.H,ad.own++σ.own⟩:St)]++LT').length-1=I LT' by simp] at hτ
     rw[k3] at hτ;simpa using hτ.symm
    subst this
    refine Lg hm (CR ([σ]++LF') ([⟨σ.H++ad.H,ad.own++σ.own⟩]++LT')) fr (by simp[CR]) (by rw[HS hfr];simpa[CR] using k3) hv ?_ (hK _ _ _ k2 h5)
    simpa using h3
   ·exact h5.elim
  ·exact h2.elim
noncomputable def Sv(P:x4)(im:List Nat)(ops:Array yw)(s:Sc)(env:List D)(σ:St)(K:Sc->List D->St->Prop):Prop:=match s with
 |.h (.dr fr) s=>AdL P im ops fr s env σ K
 |s=>wg P im ops s env σ K
theorem WD{C:co->co->Prop}{P:x4}{R:List D->St->Prop}{k:List KI}(hm:P.follows .mixedOrders=J){im:List Nat}{id:Nat}{ops:Array yw}{s:Sc}{env:List D}{σ:St}{n:Nat}{K:Sc->List D->St->Prop}(hn:I env=n)
  (hK:∀s env σ,I env=n->K s env σ->AI C P R k env σ) (h:Sv P im ops s env σ K):AI C P R (.code (.region id ops true)::k) env σ:=by
 unfold Sv at h
 split at h
 ·exact WE hm hn hK h
 ·exact Aa8 hm hn hK h
noncomputable def je(ts:List Nat)(own:List (Nat×Nat×List V)):List (Nat×Nat×List V):=own.filter fun x=>ts.contains x.1
structure It(p:Prop):Prop where
 it:p
def RO{α:Type}(a b:List α)(K:Prop):Prop:=match a with
 |[]=>K
 |x::a=>b=x::a/\K
theorem Gz{α:Type}{a b:List α}{K:Prop}(h:RO a b K)(h0:a=[]->b=[]):b=a/\K:=by
 cases a with
 |nil=>exact⟨h0 rfl,h⟩
 |cons x a=>exact h
def p9(op:Bool)(b:Bool)(K:Prop):Prop:=match op with
 |true=>b=J/\K
 |false=>cond b K False
theorem RB{op b:Bool}{K:Prop}(h:p9 op b K):b=J/\K:=by
 cases op
 ·exact A4 h
 ·exact h
noncomputable def WA(C:co->co->Prop)(m:Nat)(P:x4)(R:List D->St->Prop)(nt:Nat)(k:List KI)(sl:List (Nat×Option D))(σ':Option St)(op:Bool)(env:List D)(σ:St):Prop:=
 UC env sl fun L=>match σ' with
  |none=>It (AI C P R k (b9 nt L) σ)
  |some σ'=>cond (Nat.ble m (I σ'.H)&&Nat.ble (I σ'.H) (I σ.H)&&D.okNs (I σ'.H) (σ'.own.map (·.1)) (L.map (·.2))) (p9 op (cp (I σ'.H) (σ'.own.map (·.1)) (σ.H.take (I σ'.H)))
    (RO σ'.H (σ.H.take (I σ'.H)) (RO σ'.own (je (σ'.own.map (·.1)) σ.own) (It (AI C P R k (b9 nt L) σ'))))) False
theorem Tb{h:Nat}{ts:List Nat}:∀{L:List (Nat×D)} {e:List D},D.okNs h ts (L.map (·.2))=J->D.okNs h ts e=J->D.okNs h ts (L.foldl (fun e p=>e.set p.1 p.2) e)=J
 |[],e,_,he=>he
 |p::L,e,hL,he=>by
  simp only[Iu,D.okNs,HR] at hL
  refine Tb (L:=L) hL.2 ?_
  have:∀(e:List D) (i:Nat),D.okNs h ts e=J->D.okNs h ts (e.set i p.2)=J:=by
   intro e
   induction e with
   |nil=>intro i h;simpa using h
   |cons a e ih=>
    intro i h
    simp only[D.okNs,HR] at h
    cases i with
    |zero=>simp only[List.set_cons_zero,D.okNs,HR];exact⟨hL.1,h.2⟩
    |succ i=>simp only[Jv,D.okNs,HR];exact⟨h.1,ih i h.2⟩
  exact this e p.1 he
theorem MR{h:Nat}{ts:List Nat}:∀n:Nat,D.okNs h ts (replicate n .undef)=J
 |0=>rfl
 |n+1=>by simp only[IL,D.okNs,D.okN,I2];exact MR n
section
variable {P : x4} {R : List D -> St -> Prop} {k : List KI}
theorem KZ{C:co->co->Prop}{m:Nat}(hCm:∀E0 E,C E0 E->E.g.n<=m){nt:Nat}{sl:List (Nat×Option D)}{σ':Option St}{op:Bool}{env:List D}{σ:St}(hn:I env=nt)(h:WA C m P R nt k sl σ' op env σ):AI C P R k env σ:=by
 obtain⟨L,h1,h2⟩:=KX h
 obtain⟨hl,hg⟩:=MS hn h2
 cases σ' with
 |none=>exact JY hl hg h1.it
 |some σ'=>
  obtain⟨h3,h1⟩:=A4 h1
  obtain⟨h8,h1⟩:=RB h1
  have h7:σ.H.take (I σ'.H)=σ'.H/\je (σ'.own.map (·.1)) σ.own=σ'.own/\It (AI C P R k (b9 nt L) σ'):=by
   obtain⟨e1,h1⟩:=Gz h1 (fun e=>by rw[e];rfl)
   obtain⟨e2,h1⟩:=Gz h1 (fun e=>by rw[e];unfold je;rw[List.filter_eq_nil_iff];simp)
   exact⟨e1,e2,h1⟩
  obtain⟨h4,h5,h6⟩:=h7
  simp only[HR] at h3
  refine JY hl hg (Ah5 hCm (h:=I σ'.H) h4.symm (Ix h3.1.2) (Ix h3.1.1) (Tb h3.2 (MR nt)) (by have:=h8;rwa[h4] at this) ?_ h6.it)
  rw[←h5];exact List.filter_sublist
noncomputable def uy(x:x5)(s:Sc)(env:List D)(K:Bool->Sc->List D->Prop):Prop:=match x with
 |.tmp t=>Ff env t fun d=>match d with
  |.v (.bool b)=>qg s b (G t) env K
  |_=>False
 |.const (.bool b)=>K b s env
 |_=>False
theorem Aa9{x:x5}{s:Sc}{env:List D}{K:Bool->Sc->List D->Prop}(h:uy x s env K):∃b s',K b s' env/\g9 env x=.v (.bool b):=by
 unfold uy at h
 split at h
 ·rename_i t
  rw[Dw] at h
  split at h
  ·rename_i b hd
   obtain⟨s',h1⟩:=Sx h (fun t' e=>by simp at e;subst e;exact getD_some hd (by simp))
   exact⟨b,s',h1,hd⟩
  ·exact h.elim
 ·exact⟨_,_,h,rfl⟩
 ·exact h.elim
noncomputable def qd(C:co->co->Prop)(m:Nat)(P:x4)(R:List D->St->Prop)(rk:Nat->List D->St->Prop)(nt:Nat)(im:List Nat)(T:List KI)(ih:Sc->List KI->List D->St->Prop)(ks:List KI)(s:Sc)(env:List D)(σ:St):Prop:=match ks with
  |[]=>(match s with
   |.h (.l sl σ') _=>WA C m P R nt T sl σ' false env σ
   |.h (.lo sl σ') _=>WA C m P R nt T sl (G σ') true env σ
   |.h .r _=>T=[]/\rk 0 env σ
   |.h .rn _=>T=[]/\rk 1 env σ
   |.h .ro _=>T=[]/\rk 2 env σ
   |.h .rd _=>T=[]/\rk 3 env σ
   |_=>False)
  |.blk _::ks=>ih s ks env σ
  |.lp c::ks=>(match s with
   |.h (.l sl σ') _=>WA C m P R nt (.lp c::(ks++T)) sl σ' false env σ
   |.h (.lo sl σ') _=>WA C m P R nt (.lp c::(ks++T)) sl (G σ') true env σ
   |.h .n s=>ih s (.code c:: .lp c::ks) env σ
   |_=>False)
  |.code c::ks=>(match c with
   |.seq x y=>ih s (.code x:: .code y::ks) env σ
   |.skip=>ih s ks env σ
   |.label _=>ih s ks env σ
   |.block id x=>ih s (.code x:: .blk id::ks) env σ
   |.loop x=>ih s (.lp x::ks) env σ
   |.exit id=>(match Hk id ks with
    |some ks'=>ih s ks' env σ
    |none=>False)
   |.ret=>(match s with
    |.h .r _=>rk 0 env σ
    |.h .rn _=>rk 1 env σ
    |.h .ro _=>rk 2 env σ
    |.h .rd _=>rk 3 env σ
    |_=>False)
   |.cond t x y=>uy t s env fun b s env=>Bool.rec (ih s (.code y::ks) env σ) (ih s (.code x::ks) env σ) b
   |.region r ops d=>Bool.rec (W6 P im r ops (fun L sl σ=>It (Cp C P R (ks++T) ops L (b9 nt sl) σ)) ops.toList 0 s env σ fun s env σ=>ih s ks env σ) (Sv P im ops s env σ fun s env σ=>ih s ks env σ) d
   |_=>False)
noncomputable def vc(C:co->co->Prop)(m:Nat)(P:x4)(R:List D->St->Prop)(rk:Nat->List D->St->Prop)(nt:Nat)(im:List Nat)(T:List KI)(fuel:Nat)(s:Sc)(ks:List KI)(env:List D)(σ:St):Prop:=
 Nat.rec (motive:=fun _=>Sc->List KI->List D->St->Prop) (fun _ _ _ _=>False) (fun _ ih s ks env σ=>c9 1000000 0 s env σ (qd C m P R rk nt im T ih ks)) fuel s ks env σ
theorem Li{T:List KI}{id:Nat}:∀{ks ks':List KI},Hk id ks=G ks'->Hk id (ks++T)=G (ks'++T)
 |[],ks',h=>by simp[Hk] at h
 |.code c::ks,ks',h=>by simp only[Hk] at h;simp only[J7,Hk];exact Li h
 |.lp c::ks,ks',h=>by simp only[Hk] at h;simp only[J7,Hk];exact Li h
 |.blk i::ks,ks',h=>by
  simp only[Hk] at h
  simp only[J7,Hk]
  by_cases e:i=id
  ·rw[Io e] at h⊢;simp at h;subst h;rfl
  ·rw[Ij e] at h⊢;exact Li h
theorem Aa1{C:co->co->Prop}(L:Pr C){m:Nat}(hCm:∀E0 E,C E0 E->E.g.n<=m)(hm:P.follows .mixedOrders=J){rk:Nat->List D->St->Prop}{nt:Nat}{im:List Nat}{T:List KI}(hR:∀b env σ,I env=nt->rk b env σ->R env σ){ih:Sc->List KI->List D->St->Prop}
  (IH:∀{s:Sc} {ks:List KI} {env:List D} {σ:St},I env=nt->ih s ks env σ->AI C P R (ks++T) env σ) {ks:List KI} {s:Sc} {env:List D} {σ:St} (hn:I env=nt) (h:qd C m P R rk nt im T ih ks s env σ):AI C P R (ks++T) env σ:=by
 unfold qd at h
 split at h
 ·split at h
  ·exact KZ hCm hn h
  ·exact KZ hCm hn h
  ·obtain⟨rfl,h⟩:=h;exact Lf L (hR _ _ _ hn h)
  ·obtain⟨rfl,h⟩:=h;exact Lf L (hR _ _ _ hn h)
  ·obtain⟨rfl,h⟩:=h;exact Lf L (hR _ _ _ hn h)
  ·obtain⟨rfl,h⟩:=h;exact Lf L (hR _ _ _ hn h)
  ·exact h.elim
 ·exact Afj (IH hn h)
 ·split at h
  ·exact KZ hCm hn h
  ·exact KZ hCm hn h
  ·exact Ah7 (IH hn h)
  ·exact h.elim
 ·split at h
  ·exact Xp (IH hn h)
  ·exact Abl (IH hn h)
  ·exact Xq (IH hn h)
  ·exact Xs (IH hn h)
  ·exact e7 (IH hn h)
  ·split at h
   ·rename_i ks' hp;exact Abm (Li hp) (IH hn h)
   ·exact h.elim
  ·split at h
   ·exact Le L (hR _ _ _ hn h)
   ·exact Le L (hR _ _ _ hn h)
   ·exact Le L (hR _ _ _ hn h)
   ·exact Le L (hR _ _ _ hn h)
   ·exact h.elim
  ·obtain⟨b,s',h1,h2⟩:=Aa9 h
   refine Abo h2 (fun hb=>?_) (fun hb=>?_)
   ·subst hb;exact IH hn h1
   ·subst hb;exact IH hn h1
  ·rename_i r ops d
   cases d with
   |false=>
    intro E0 E g a w B hC hf hB
    show KQ P B (.code (.region r ops false)::(_++T)) .normal a w
    simp only[KQ]
    exact wp_region_list (NH (n:=nt) (Z:=fun L sl σ=>It (Cp C P R (_++T) ops L (b9 nt sl) σ)) (fun _ _ _ h=>h.it) (fun s env σ hl hk=>IH hl hk) hn (show W6 P im r ops _ ops.toList 0 s env σ fun s env σ=>ih s _ env σ from h) E0 E g a w B hC hf hB)
   |true=>exact WD hm hn (fun s env σ hl hk=>IH hl hk) (show Sv P im ops s env σ fun s env σ=>ih s _ env σ from h)
  ·exact h.elim
theorem Rd{C:co->co->Prop}(L:Pr C){m:Nat}(hCm:∀E0 E,C E0 E->E.g.n<=m)(hm:P.follows .mixedOrders=J){rk:Nat->List D->St->Prop}{nt:Nat}{im:List Nat}{T:List KI}(hR:∀b env σ,I env=nt->rk b env σ->R env σ):
  ∀{fuel:Nat} {s:Sc} {ks:List KI} {env:List D} {σ:St},I env=nt->vc C m P R rk nt im T fuel s ks env σ->AI C P R (ks++T) env σ
 |0,s,ks,env,σ,_,h=>(h:False).elim
 |fuel+1,s,ks,env,σ,hn,h=>by
  have h':c9 1000000 0 s env σ (qd C m P R rk nt im T (vc C m P R rk nt im T fuel) ks):=h
  obtain⟨s1,env1,σ1,h1,h2,h3⟩:=PR h'
  exact Xr h2 (Aa1 L hCm hm hR (Rd L hCm hm hR) (h3.trans hn) h1)
noncomputable def j7(P:x4)(env:List D)(σ:St)(dg:Bool)(rs:List ResultVar)(K:List D->Prop):Prop:=
 List.rec (motive:=fun _=>(List D->Prop)->Prop) (fun K=>K []) (fun r _ ih K=>match r with
  |.tmp t=>cond (Nat.blt t (I env)) (Ff env t fun d=>ih fun ds=>K (d::ds)) False
  |.cell a t=>Ff env a fun d=>match d with
   |.ptr q off=>(match σ.H[q]?,D3 P t with
    |some (some cs),some (1,false)=>(match cs[off]? with
     |some d=>ih fun ds=>K (d::ds)
     |none=>False)
    |some (some cs),some (n,true)=>cond (Nat.ble (off+n) (I cs)) (Bool.rec (match D2 ((cs.drop off).take n) with
     |some xs=>ih fun ds=>K (.v (.agg xs)::ds)
     |none=>False) (B9 ((cs.drop off).take n) fun es=>ih fun ds=>K (.dagg es::ds)) dg) False
    |_,_=>False)
   |_=>False) rs K
theorem JS{env:List D}{σ:St}{dg:Bool}:∀{rs:List ResultVar} {K:List D->Prop},j7 P env σ dg rs K->∃ds,K ds/\QU P env σ rs ds
 |[],K,h=>⟨[],h,.nil⟩
 |.tmp t::rs,K,h=>by
  have h':cond (Nat.blt t (I env)) (Ff env t fun d=>j7 P env σ dg rs fun ds=>K (d::ds)) False:=h
  obtain⟨h1,h2⟩:=A4 h'
  rw[Dw] at h2
  obtain⟨ds,h3,h4⟩:=JS h2
  refine⟨_,h3,.tmp ?_ h4⟩
  have:t<I env:=Ix h1
  rw[HY,HQ this];rfl
 |.cell a t::rs,K,h=>by
  have h':Ff env a fun d=>match (generalizing:=false) d with
   |.ptr q off=>(match σ.H[q]?,D3 P t with
    |some (some cs),some (1,false)=>(match cs[off]? with
     |some d=>j7 P env σ dg rs fun ds=>K (d::ds)
     |none=>False)
    |some (some cs),some (n,true)=>cond (Nat.ble (off+n) (I cs)) (Bool.rec (match D2 ((cs.drop off).take n) with
     |some xs=>j7 P env σ dg rs fun ds=>K (.v (.agg xs)::ds)
     |none=>False) (B9 ((cs.drop off).take n) fun es=>j7 P env σ dg rs fun ds=>K (.dagg es::ds)) dg) False
    |_,_=>False)
   |_=>False:=h
  rw[Dw] at h'
  split at h'
  ·rename_i q off hd
   have ha:=getD_some hd (by simp)
   split at h'
   ·rename_i cs hq hz
    split at h'
    ·rename_i d hc
     obtain⟨ds,h3,h4⟩:=JS h'
     exact⟨_,h3,.cell1 ha hq hz hc h4⟩
    ·exact h'.elim
   ·rename_i cs n hq hz
    obtain⟨h1,h2⟩:=A4 h'
    cases dg with
    |false=>
     have h2:(match D2 ((cs.drop off).take n) with
      |some xs=>j7 P env σ false rs fun ds=>K (.v (.agg xs)::ds)
      |none=>False):=h2
     split at h2
     ·rename_i xs hx
      obtain⟨ds,h3,h4⟩:=JS h2
      exact⟨_,h3,.cellA ha hq hz (Ix h1) (Gm hx) h4⟩
     ·exact h2.elim
    |true=>
     have h2:B9 ((cs.drop off).take n) fun es=>j7 P env σ true rs fun ds=>K (.dagg es::ds):=h2
     rw[Bz] at h2
     obtain⟨ds,h3,h4⟩:=JS h2
     exact⟨_,h3,.cellD ha hq hz (Ix h1) h4⟩
   ·exact h'.elim
  ·exact h'.elim
def uk:V->V
 |.nils=>.list []
 |x=>x
theorem X6{M:cg}:∀{xs:List V} {us:List yx},repA M xs us->repA M (xs.map uk) us
 |[],us,h=>h
 |x::xs,us,h=>by
  simp only[repA] at h
  obtain⟨u,us',rfl,ha,h1,h2⟩:=h
  simp only[Iu,repA]
  refine⟨u,us',rfl,?_,?_,X6 h2⟩
  ·cases x<;>first|exact ha|rfl
  ·cases x with
   |nils=>
    have h3:repV M .nils u:=(BV (by rfl)).2 h1
    have h4:Av (⟨M,fun _=>0,0,fun _ _=>none,fun _=>0⟩:Gh) (.v (.list [])) u:=Gq (by simpa only[Av] using h3)
    show repC M (.list []) [u]
    exact(BV (by rfl)).1 (by simpa only[Av] using h4)
   |_=>exact h1
noncomputable def jw(ts:List Nat)(kn:Bool):D->D
 |.acc k xs=>Bool.rec (.v (.list xs)) (.acc k xs) (ts.any (Nat.beq k))
 |.v .nils=>Bool.rec (.v (.list [])) (.v .nils) kn
 |.v (.agg xs)=>Bool.rec (.v (.agg (xs.map uk))) (.v (.agg xs)) kn
 |d=>d
theorem AeD{ts:List Nat}{kn:Bool}{g:Gh}{d:D}{u:yx}(h:Av g d u):Av g (jw ts kn d) u:=by
 unfold jw
 split
 ·cases ts.any _
  ·exact NV h
  ·exact h
 ·cases kn
  ·exact Gq h
  ·exact h
 ·cases kn
  ·simp only[Av,CF] at h⊢
   obtain⟨ws,h1,h2⟩:=h
   exact⟨ws,X6 h1,h2⟩
  ·exact h
 ·exact h
theorem KV{ts:List Nat}{kn:Bool}{g:Gh}:∀{ds:List D} {us:List yx},Ar g ds us->Ar g (ds.map (jw ts kn)) us
 |[],us,h=>by simpa using h
 |d::ds,us,h=>by
  simp only[Ar,Iu] at h⊢
  obtain⟨u,us',e,h1,h2⟩:=h
  exact⟨u,us',e,AeD h1,KV h2⟩
noncomputable def qi:List D->(D->Prop)->Prop
 |[d],K=>K d
 |ds,K=>B9 ds fun ds=>K (.tup ds)
theorem SO(ds:List D)(K:D->Prop):qi ds K=K (UW ds):=by
 match ds with
 |[]=>rfl
 |[d]=>rfl
 |a::b::ds=>simp only[qi,UW,Bz]
noncomputable def jx(P:x4)(rs:List ResultVar)(d:D)(σ':St)(md:Nat)(env:List D)(σ:St):Prop:=
 j7 P env σ (Nat.beq md 3) rs fun ds=>B9 (ds.map (jw (σ'.own.map (·.1)) (Nat.beq md 1))) fun ds=>qi ds fun d'=>
  cond (D.okN (I σ'.H) (σ'.own.map (·.1)) d&&Nat.ble (I σ'.H) (I σ.H)) (p9 (Nat.beq md 2) (cp (I σ'.H) (σ'.own.map (·.1)) (σ.H.take (I σ'.H)))
   (RO σ'.H (σ.H.take (I σ'.H)) (RO σ'.own (je (σ'.own.map (·.1)) σ.own) (d'=d)))) False
theorem NG{fn:yu}{d:D}{σ':St}{md:Nat}{env:List D}{σ:St}(h:jx P fn.results.toList d σ' md env σ):AL P fn env σ d σ':=by
 obtain⟨ds,h1,hr⟩:=JS h
 rw[Bz,SO] at h1
 obtain⟨h2,h3⟩:=A4 h1
 obtain⟨h8,h3⟩:=RB h3
 simp only[HR] at h2
 generalize Nat.beq md 1=kn at h3
 have h4:UW (ds.map (jw (σ'.own.map (·.1)) kn))=d/\σ.H.take (I σ'.H)=σ'.H/\je (σ'.own.map (·.1)) σ.own=σ'.own:=by
  obtain⟨e1,h3⟩:=Gz h3 (fun e=>by rw[e];rfl)
  obtain⟨e2,h3⟩:=Gz h3 (fun e=>by rw[e];unfold je;rw[List.filter_eq_nil_iff];simp)
  exact⟨h3,e1,e2⟩
 obtain⟨rfl,hH,hown⟩:=h4
 intro E g a w hf hE
 obtain⟨us,h5,h6⟩:=hr.run hf
 have hrun:(results fn a.tmps).run P w=.ok (if h:I us=1 then us[0] else .tuple us.toArray) w:=by
  rw[MF,Array.mapM_eq_mapM_toList]
  simp only[Sem.run_bind,Sem.run_map,h5,Result.andThen_ok]
  by_cases h:I us=1<;>simp[h]
 have hsub:σ'.own.Sublist σ.own:=by rw[←hown];exact List.filter_sublist
 refine⟨_,_,hrun,Wv hf.wi hH.symm (Ix h2.2) hE (by have:=h8;rwa[hH] at this) hsub,?_⟩
 refine LL _ _ h2.1 ?_
 have h7:=KV (ts:=σ'.own.map (·.1)) (kn:=kn) h6
 generalize ds.map (jw (σ'.own.map (·.1)) kn)=ds' at h7
 have hl:=AF h7
 unfold UW
 split
 ·rename_i d0
  obtain⟨u,rfl,h3⟩:=AH.1 h7
  simpa using h3
 ·rename_i hne
  have:I us≠1:=by
   rw[hl]
   intro h
   match ds',h with
   |[d0],_=>exact hne d0 rfl
  rw[dif_neg this]
  simp only[Av]
  exact⟨us,rfl,h7⟩
theorem KF{f:yv}{fn:yu}{c:Code}{ds:List D}{σ σ':St}{d:D}(hf:P.funcs[f]?=G fn)(hb:fn.body=G c)(hn:(fn.name=="runtime.NumGoroutine")=O)
  (hH:I σ.H<=I σ'.H) (h:AI (CN (I σ.H)) P (fun env σ1=>AL P fn env σ1 d σ') [.code c] (ds++replicate (fn.ntmps-I ds) .undef) σ):Aa P f ds σ d σ':=by
 refine⟨⟨fn,hf,hn,by simp[hb]⟩,fun g w args hw hargs=>?_⟩
 refine calls_of_wp hf hb ?_
 have hfi:FI ⟨g,w,σ⟩ g σ (ds++replicate (fn.ntmps-I ds) .undef) { tmps:=args.toArray++Array.replicate (fn.ntmps-args.toArray.size) undef,defers:=[]} w:=by
  refine⟨WI.start hw,?_,rfl⟩
  have hl:=AF hargs
  simp only[Array.toList_append,Array.toList_replicate,Jp,hl]
  refine A7 hargs ?_
  generalize fn.ntmps-I ds=m
  induction m with
  |zero=>simp[Ar]
  |succ m ih=>simp only[IL,Ar];exact⟨_,_,rfl,by simp[Av],ih⟩
 have:=h ⟨g,w,σ⟩ ⟨g,w,σ⟩ g _ w (bodyPost P fn fun e w'=>∃u g',e=.returned u/\WI ⟨g,w,σ⟩ g' σ' w'/\Av g' d u) ⟨rfl,Nat.le_of_eq hw.n⟩ hfi ?_
 ·simp only[KQ] at this
  exact this
 ·intro g' env' σ1 a' w' hfi' hR
  obtain⟨u,g2,h1,h2,h3⟩:=hR _ _ _ _ hfi' (by rw[hw.n];exact hH)
  have:a'.defers=[]/\∃v,(results fn a'.tmps).run P w'=.ok v w'/\∃u g',Ending.returned v=.returned u/\WI ⟨g,w,σ⟩ g' σ' w'/\Av g' d u:=
   ⟨hfi'.defers,u,h1,u,g2,rfl,h2,h3⟩
  exact⟨this,this⟩
abbrev Rn(P:x4)(fn:yu)(C:Nat)(d:D)(σ':St)(k:List KI)(env:List D)(σ:St):Prop:=AI (CN C) P (fun env σ1=>AL P fn env σ1 d σ') k env σ
theorem Afc(hm:P.follows .mixedOrders=J){f:yv}{ds:List D}{σ σ':St}{d:D}(fn:yu)(c:Code)(hf:P.funcs[f]?=G fn)(hb:fn.body=G c)(hn:(fn.name=="runtime.NumGoroutine")=O)(hH:Nat.ble (I σ.H) (I σ'.H)=J)(nt:Nat)(hnt:I (ds++replicate (fn.ntmps-I ds) bk)=nt)
  (im:List Nat) (s:Sc)
  (h:B9 (ds++replicate (fn.ntmps-I ds) bk) fun env=>vc (CN (I σ.H)) (I σ.H) P (fun env σ1=>AL P fn env σ1 d σ') (jx P fn.results.toList d σ') nt im [] 10000 s [.code c] env σ):Aa P f ds σ d σ':=by
 rw[Bz] at h
 refine KF hf hb hn (Ix hH) ?_
 exact Rd (ks:=[.code c]) (T:=[]) (CV _) (fun _ _ h=>h.2) hm (fun b env σ _ h=>NG h) hnt h
theorem AfK(hm:P.follows .mixedOrders=J){C:Nat}{fn:yu}{d:D}{σ':St}(nt:Nat)(im:List Nat){ks T:List KI}{L:List (Nat×D)}{σ:St}(s:Sc)
  (h:B9 (b9 nt L) fun env=>vc (CN C) C P (fun env σ1=>AL P fn env σ1 d σ') (jx P fn.results.toList d σ') nt im T 10000 (.h .n s) ks env σ):Rn P fn C d σ' (ks++T) (b9 nt L) σ:=by
 rw[Bz] at h
 exact Rd (CV _) (fun _ _ h=>h.2) hm (fun b env σ _ h=>NG h) (by simp[b9,Ew]) h
theorem x6(hm:P.follows .mixedOrders=J){C:co->co->Prop}(L:Pr C)(m:Nat)(hCm:∀E0 E,C E0 E->E.g.n<=m){fn:yu}{d:D}{σ':St}(nt:Nat)(im:List Nat){ks T:List KI}{E:List (Nat×D)}{σ:St}(s:Sc)
  (h:B9 (b9 nt E) fun env=>vc C m P (fun env σ1=>AL P fn env σ1 d σ') (jx P fn.results.toList d σ') nt im T 10000 s ks env σ):AI C P (fun env σ1=>AL P fn env σ1 d σ') (ks++T) (b9 nt E) σ:=by
 rw[Bz] at h
 exact Rd L hCm hm (fun b env σ _ h=>NG h) (by simp[b9,Ew]) h
theorem Cb(hm:P.follows .mixedOrders=J){C:co->co->Prop}(Lk:Pr C)(m:Nat)(hCm:∀E0 E,C E0 E->E.g.n<=m){fn:yu}{d:D}{σ':St}(nt:Nat)(im:List Nat)(r i:Nat){ops:Array yw}{L:List yw}{ks T:List KI}{E:List (Nat×D)}{σ:St}(s:Sc)
  (h:B9 (b9 nt E) fun env=>W6 P im r ops (fun L sl σ=>It (Cp C P (fun env σ1=>AL P fn env σ1 d σ') (ks++T) ops L (b9 nt sl) σ)) L i s env σ fun s env σ=>vc C m P (fun env σ1=>AL P fn env σ1 d σ') (jx P fn.results.toList d σ') nt im T 10000 s ks env σ):Cp C P (fun env σ1=>AL P fn env σ1 d σ') (ks++T) ops L (b9 nt E) σ:=by
 rw[Bz] at h
 exact NH (n:=nt) (fun _ _ _ h=>h.it) (fun s env σ hl hk=>Rd Lk hCm hm (fun b env σ _ h=>NG h) hl hk) (by simp[b9,Ew]) h
theorem dq{a b:Prop}(h:a=b)(ha:a):b:=h▸ha
end
end Go.Nv

namespace Go.Proofs.YthmjfmacdlhfjaaGreat
open Go.Dv Go.Nv
set_option maxRecDepth 20000
open List (flatten replicate take)
open Go.IntKind (u64)
open Go.IntKind renaming wrap → yr, i64 → yq
open List renaming length → I, map → U, drop → W
open Option renaming some → G
open Bool renaming true → J, false → O
open Decidable renaming decide → Y
open Int renaming toNat → Z
open Go.Dv.V renaming list → ai, str → ae, agg → ab, int → aa, ref → bz, fn → bw, nils → bv, bool → bu
open Go.Dv.D renaming v → bt, acc → br, ptr → bq, arr → bo, gro → bm, tup → bl, undef → bk, dagg → bj
open Go.Dv.St renaming mk → bi
open Go.Dv.KI renaming blk → bh
open _root_.ByteArray renaming mk → bg
open Go renaming Operand → x5, Program → x4, TypeId → yz, World → yy, Value → yx, Oper → yw, FuncId → yv, Func → yu, IntKind → yt
abbrev Q{α:Type}(a:α):Prop:=a=a
theorem yp{p:Prop}[Decidable p](h:p:=by omega):decide p=true:=decide_eq_true h
theorem yo{p:Prop}[Decidable p](h:¬p:=by omega):decide p=false:=decide_eq_false h
noncomputable abbrev yj(f:yu):Code:=f.body.getD .skip
theorem yi{α:Type}{l:List α}{k:Nat}(h:k<l.length):∃x,l[k]?=some x:=⟨_,List.getElem?_eq_getElem h⟩
abbrev yh(p:Prop):Prop:=p/\p/\p/\True
abbrev yg(p:Prop):Prop:=p/\p/\p/\p/\True
abbrev yf(p:Prop):Prop:=p/\p/\p/\p/\p/\p/\p/\True
abbrev ye(p:Prop):Prop:=p/\p/\p/\p/\p/\p/\p/\p/\p/\True
abbrev yd(p:Prop):Prop:=p/\p/\p/\p/\p/\p/\p/\p/\p/\p/\p/\True
abbrev yn:Prop:=True/\True
abbrev ym:Prop:=True/\True/\True
theorem yl:yn:=⟨trivial,trivial⟩
theorem yk:ym:=⟨trivial,trivial,trivial⟩
abbrev F0(f:yv)(ds:List D)(d:D):Prop:=Aa PP f ds ⟨[],[]⟩ d ⟨[],[]⟩
abbrev I0(fn:yu)(C:Nat)(d:D)(s:St)(k:List KI)(e:List D)(t:St):Prop:=It (Rn PP fn C d s k e t)
abbrev kl(c:Code)(p:List Nat):KI:=.lp (sub c p)
abbrev kc(c:Code)(p:List Nat):KI:=.code (sub c p)
abbrev dn:D:=.v .nils
abbrev lj:List D:=[bt (ae (bg #[]).data.toList),di 0,di 0,bt bv,bt bv,bt bv,di 0,di 0,di 0,bt bv,bt bv,bt bv,bt bv,di 0]
abbrev zMl:List D:=[di 0,bt bv,bt bv,bt bv,bt bv,di 0,di 0,bt bv,di 0,bt bv]
theorem sv{f:yv}{ds:List D}{σ σ':St}{d:D}(fn:yu)(nt:Nat)(im:List Nat)(s:Sc)(a:Prop)(ha:a)(hf:PP.funcs[f]?=G fn:=by kernel_rfl)(hb:fn.body=G (fn.body.getD .skip):=by kernel_rfl)(hn:(fn.name=="runtime.NumGoroutine")=O:=by kernel_rfl)(hH:Nat.ble (I σ.H) (I σ'.H)=J:=by kernel_rfl)(hnt:I (ds++replicate (fn.ntmps-I ds) bk)=nt:=by kernel_rfl)
  (h:a=B9 (ds++replicate (fn.ntmps-I ds) bk) fun env=>vc (CN (I σ.H)) (I σ.H) PP (fun env σ1=>AL PP fn env σ1 d σ') (jx PP fn.results.toList d σ') nt im [] 10000 s [.code (fn.body.getD .skip)] env σ:=by kernel_rfl):Aa PP f ds σ d σ':=Afc mixed fn _ hf hb hn hH nt hnt im s (dq h ha)
theorem iK{p:Prop}(h:p):Nv.It p:=⟨h⟩
theorem lv{C:Nat}{fn:yu}{d:D}{σ':St}{ks T:List KI}{L:List (Nat×D)}{σ:St}(nt:Nat)(im:List Nat)(s:Sc)(a:Prop)(ha:a)
  (h:a=B9 (b9 nt L) fun env=>vc (CN C) C PP (fun env σ1=>AL PP fn env σ1 d σ') (jx PP fn.results.toList d σ') nt im T 10000 (.h .n s) ks env σ:=by kernel_rfl):Rn PP fn C d σ' (ks++T) (b9 nt L) σ:=AfK mixed nt im s (dq h ha)
abbrev bf:St:=⟨[],[]⟩
abbrev dfn(f:yv):D:=.v (.fn f [] [])
abbrev dl(l:List V):D:=.v (.list l)
abbrev ke(t:Nat):Nat×Option D:=(t,none)
abbrev ch(t:Nat)(d:D):Nat×Option D:=(t,G d)
theorem A3{α:Type}{f:α->V}{a:List α}{i:Nat}{x:α}(h:a[i]?=G x):(a.map f)[((i:Nat):Int).toNat]?=G (f x):=by simp[h]
theorem A2{n:Int}(h0: -9223372036854775808<=n:=by omega)(h1:n<=9223372036854775807:=by omega):yq.wrap n=n:=by rw[IntKind.wrap_i64];omega
theorem As{i:Nat}(h:i<9223372036854775807:=by omega):di (yq.wrap ((i:Int)+1))=di ((i+1:Nat):Int):=by rw[A2 (by omega) (by omega)];simp
inductive bd where
 |mk (n:Int) (az:List bd)
 deriving Inhabited
def bd.n:bd->Int
 |.mk n _=>n
def bd.az:bd->List bd
 |.mk _ ks=>ks
mutual
def bd.enc:bd->V
 |.mk n ks=>.agg [vi n,.list (bd.encs ks)]
def bd.encs:List bd->List V
 |[]=>[]
 |v::vs=>v.enc::bd.encs vs
end
abbrev eV:bd->V:=bd.enc
abbrev cc(l:List bd):V:=.list (l.map eV)
abbrev Au(v:bd):V:=.agg [vi v.n,cc v.az]
theorem encs_map:∀l:List bd,bd.encs l=l.map eV
 |[]=>rfl
 |v::l=>by simp[bd.encs,encs_map l]
theorem AR(v:bd):eV v=Au v:=by cases v with|mk n ks=>simp only[eV,bd.enc,encs_map];rfl
abbrev dV(v:bd):D:=.v (Au v)
abbrev cx(l:List bd):D:=.v (cc l)
theorem A1{a:List bd}{i:Nat}{x:bd}(h:a[i]?=G x):(a.map eV)[((i:Nat):Int).toNat]?=G (Au x):=by rw[←AR];exact A3 h
theorem Dt(a:List bd)(x:bd):a.map eV++[Au x]=(a++[x]).map eV:=by rw[←AR];simp
mutual
def bd.size:bd->Nat
 |.mk _ ks=>1+bd.sizes ks
def bd.sizes:List bd->Nat
 |[]=>0
 |v::vs=>v.size+bd.sizes vs
end
theorem bd.size_eq(v:bd):v.size=1+bd.sizes v.az:=by cases v;rfl
theorem bd.size_pos(v:bd):1<=v.size:=by rw[bd.size_eq];omega
theorem bd.size_mem{v:bd}:∀{l:List bd},v∈l->v.size<=bd.sizes l
 |w::l,h=>by
  rcases I8.1 h with rfl|h
  ·simp[bd.sizes]
  ·have:=bd.size_mem h;simp only[bd.sizes];omega
theorem bd.length_le:∀l:List bd,I l<=bd.sizes l
 |[]=>by simp[bd.sizes]
 |v::l=>by have:=bd.length_le l;have:=v.size_pos;simp only[HV,bd.sizes];omega
noncomputable abbrev Amj:=Tryz.f143
theorem Tl(x:Int):F0 143 [di x] (db O):=by
 refine sv Amj 6 [] .r (db (x !=x)=db O) ?_
 simp
def B0(a b:Int):Int:=if a<b then-1 else if b<a then 1 else 0
noncomputable abbrev AkJ:=Tryz.f77
theorem JL(a b:Int):F0 77 [di a,di b] (di (B0 a b)):=by
 refine sv AkJ 20 [] (.c (db O)<|.c (db O)<|.k<|.k<|.b .r<|.b .r .r) (F0 143 [di a] (db O)/\F0 143 [di b] (db O)/\(Y (a<b)=J->di (-1)=di (B0 a b))/\(Y (a<b)=O->(Y (a>b)=J->di 1=di (B0 a b))/\(Y (a>b)=O->di 0=di (B0 a b)))) ?_
 refine⟨Tl a,Tl b,fun h=>?_,fun h=>⟨fun h1=>?_,fun h1=>?_⟩⟩<;>simp_all [B0]<;>omega
def gr:List Int->Int
 |[]=>0
 |x::l=>if x=0 then gr l else x
noncomputable abbrev ny:=Tryz.f76
noncomputable def la:=yj ny
theorem Aft(l:List Int)(hl:I l<=1000000)(n:Nat):∀k:Nat,I l-k=n->
  Rn PP ny 0 (di (gr (l.drop k))) bf ([kl la [1,1,0,1,0,0],.blk 0,kc la [1,1,1]]++[]) (b9 18 [(3,di 0),(6,dl (l.map vi)),(7,di (I l)),(8,di k)]) bf:=by
 induction n using Nat.strongRecOn with
 |_ n ih=>
 intro k hn
 refine lv 18 [] (.b (.e fun x:Int=>.x (vi x)<|.b .r (.l [ke 3,ke 6,ke 7,ch 8 (di (k+1:Nat))])) .r) ((Y ((k:Int)<(I l:Int))=J->∃a,0<=(k:Int)/\(U vi l)[Z (k:Int)]?=G (vi a)/\((a !=0)=J->di a=di (gr (W k l)))/\((a !=0)=O->di (yr yq ((k:Int)+1))=di (↑(k+1):Int)/\Nv.It (AI (CN 0) PP (fun env σ1=>AL PP ny env σ1 (di (gr (W k l))) bf) [kl la [1,1,0,1,0,0],bh 0,kc la [1,1,1]] (b9 18 [(3,di 0),(6,bt (ai (U vi l))),(7,di (I l:Int)),(8,di (↑(k+1):Int))]) bf)))/\(Y ((k:Int)<(I l:Int))=O->di 0=di (gr (W k l)))) ⟨fun h=>?_,fun h=>?_⟩
 ·have hk:k<I l:=by simpa using h
  have hx:l[k]?=G l[k]:=HQ hk
  rw[Ih hk]
  generalize l[k]=x at hx⊢
  refine⟨x,by omega,A3 hx,fun hf=>?_,fun hf=>⟨As,⟨?_⟩⟩⟩
  ·have:x≠0:=by simpa using hf
   simp[gr,this]
  ·have:x=0:=by simpa using hf
   subst this
   exact ih (I l- (k+1)) (by omega) (k+1) rfl
 ·have hk:I l<=k:=by simpa using h
  rw[Im hk];rfl
theorem XO(l:List Int)(hl:I l<=1000000):F0 76 [dl (l.map vi)] (di (gr l)):=by
 refine sv ny 18 [] (.l [ke 3,ke 6,ch 7 (di (I l)),ch 8 (di (0:Nat))]) (di (I (U vi l):Int)=di (I l:Int)/\Q (di 0)/\I0 ny (I bf.H) (di (gr l)) bf [kl la [1,1,0,1,0,0],bh 0,kc la [1,1,1]] (b9 18 [(3,di 0),(6,dl (U vi l)),(7,di (I l:Int)),(8,di (↑0:Int))]) bf) ⟨by simp,rfl,⟨?_⟩⟩
 exact Aft l hl _ 0 rfl
def BG{α:Type}(c:α->α->Int):List α->List α->Int
 |[],[]=>0
 |[],_::_=> -1
 |_::_,[]=>1
 |x::a,y::b=>if c x y=0 then BG c a b else c x y
noncomputable abbrev Q1:=Tryz.f78
noncomputable def N6:=yj Q1
theorem VE(F:yv)(fs cs:List V)(c:bd->bd->Int)(a b:List bd)(ha:I a<=9223372036854775807)(hf:∀x∈a,∀y∈b,F0 F ((fs++[Au x,Au y]++cs).map .v) (di (c x y)))(n:Nat):∀k:Nat,I a-k=n->k<=I b->k<=I a->
  Rn PP Q1 0 (di (BG c (a.drop k) (b.drop k))) bf ([kl N6 [1,0,1,0,0],.blk 0,kc N6 [1,1]]++[]) (b9 39 [(0,cx a),(1,cx b),(2,.v (.fn F fs cs)),(11,cx a),(12,di (I a)),(13,di k)]) bf:=by
 induction n using Nat.strongRecOn with
 |_ n ih=>
 intro k hn hkb hka
 refine lv 39 [] (.b (.e fun x:bd=>.x (Au x)<|.b .r<|.e fun y:bd=>.x (Au y)<|.c (di (c x y))<|.b .r (.ls [ke 0,ke 1,ke 2,ke 11,ke 12,ch 13 (di (k+1:Nat))] bf)) (.b .r .r)) ((Y ((k:Int)<(I a:Int))=J->∃a_2,0<=(k:Int)/\(U eV a)[Z (k:Int)]?=G (Au a_2)/\(Y ((k:Int)>=(I (U eV b):Int))=J->di 1=di (BG c (W k a) (W k b)))/\(Y ((k:Int)>=(I (U eV b):Int))=O->∃a_4,0<=(k:Int)/\(U eV b)[Z (k:Int)]?=G (Au a_4)/\Aa PP F (U bt (fs++[ab [vi a_2.n,cc a_2.az],ab [vi a_4.n,cc a_4.az]]++cs)) (bi [] []) (di (c a_2 a_4)) (bi [] [])/\((c a_2 a_4 !=0)=J->di (c a_2 a_4)=di (BG c (W k a) (W k b)))/\((c a_2 a_4 !=0)=O->di (yr yq ((k:Int)+1))=di (↑(k+1):Int)/\Nv.It (AI (CN 0) PP (fun env σ1=>AL PP Q1 env σ1 (di (BG c (W k a) (W k b))) bf) [kl N6 [1,0,1,0,0],bh 0,kc N6 [1,1]] (b9 39 [(0,cx a),(1,cx b),(2,bt (bw F fs cs)),(11,cx a),(12,di (I a:Int)),(13,di (↑(k+1):Int))]) bf))))/\(Y ((k:Int)<(I a:Int))=O->(Y ((I (U eV a):Int)<(I (U eV b):Int))=J->di (-1)=di (BG c (W k a) (W k b)))/\(Y ((I (U eV a):Int)<(I (U eV b):Int))=O->di 0=di (BG c (W k a) (W k b))))) ⟨fun h=>?_,fun h=>?_⟩
 ·have hk:k<I a:=by simpa using h
  have hx:a[k]?=G a[k]:=HQ hk
  rw[Ih hk]
  generalize a[k]=x at hx⊢
  refine⟨x,by omega,A1 hx,fun h1=>?_,fun h1=>?_⟩
  ·have:b.drop k=[]:=Im (by simpa using h1)
   rw[this];rfl
  ·have hk2:k<I b:=by simpa using h1
   have hy:b[k]?=G b[k]:=HQ hk2
   rw[Ih hk2]
   generalize b[k]=y at hy⊢
   refine⟨y,by omega,A1 hy,hf x (HW hx) y (HW hy),fun h2=>?_,fun h2=>⟨As,⟨?_⟩⟩⟩
   ·have:c x y≠0:=by simpa using h2
    simp[BG,this]
   ·have:c x y=0:=by simpa using h2
    simp only[BG,this,Jj]
    exact ih (I a- (k+1)) (by omega) (k+1) rfl hk2 hk
 ·have hk:k=I a:=by have:I a<=k:=(by simpa using h);omega
  subst hk
  rw[List.drop_length]
  refine⟨fun h1=>?_,fun h1=>?_⟩
  ·have h1:I a<I b:=by simpa using h1
   rw[Ih h1];rfl
  ·have h1:I b<=I a:=by simpa using h1
   rw[Im h1];rfl
theorem VD(F:yv)(fs cs:List V)(c:bd->bd->Int)(a b:List bd)(ha:I a<=9223372036854775807)(hf:∀x∈a,∀y∈b,F0 F ((fs++[Au x,Au y]++cs).map .v) (di (c x y))):
  F0 78 [cx a,cx b,.v (.fn F fs cs)] (di (BG c a b)):=by
 refine sv Q1 39 [] (.l [ke 0,ke 1,ke 2,ke 11,ch 12 (di (I a)),ch 13 (di (0:Nat))]) (di (I (U eV a):Int)=di (I a:Int)/\Q (di 0)/\I0 Q1 (I bf.H) (di (BG c a b)) bf [kl N6 [1,0,1,0,0],bh 0,kc N6 [1,1]] (b9 39 [(0,cx a),(1,cx b),(2,bt (bw F fs cs)),(11,cx a),(12,di (I a:Int)),(13,di (↑0:Int))]) bf) ⟨by simp,rfl,⟨?_⟩⟩
 exact VE F fs cs c a b ha hf _ 0 rfl (by omega) (by omega)
mutual
def AB:bd->bd->Int
 |.mk n ks,.mk m ls=>if B0 n m=0 then(if B0 (I ks) (I ls)=0 then qt ks ls else B0 (I ks) (I ls)) else B0 n m
def qt:List bd->List bd->Int
 |[],[]=>0
 |[],_::_=> -1
 |_::_,[]=>1
 |x::a,y::b=>if AB x y=0 then qt a b else AB x y
end
theorem OY:∀a b:List bd,qt a b=BG AB a b
 |[],[]=>rfl
 |[],_::_=>rfl
 |_::_,[]=>rfl
 |x::a,y::b=>by simp only[qt,BG,OY a b]
theorem ul(x y z:Int):(if x=0 then(if y=0 then z else y) else x)=gr [x,y,z]:=by
 simp only[gr]
 by_cases h1:x=0<;>by_cases h2:y=0<;>by_cases h3:z=0<;>simp_all
theorem OZ(a b:bd):AB a b=gr [B0 a.n b.n,B0 (I a.az) (I b.az),BG AB a.az b.az]:=by
 cases a;cases b
 rw[AB,OY]
 exact ul _ _ _
mutual
def bd.fit:bd->Prop
 |.mk _ l=>I l<=9223372036854775807/\bd.fits l
def bd.fits:List bd->Prop
 |[]=>True
 |v::l=>v.fit/\bd.fits l
end
theorem bd.fits_mem{v:bd}:∀{l:List bd},bd.fits l->v∈l->v.fit
 |w::l,h,hm=>by
  rcases I8.1 hm with rfl|hm
  ·exact h.1
  ·exact bd.fits_mem h.2 hm
theorem bd.fit.len{v:bd}(h:v.fit):I v.az<=9223372036854775807:=by cases v;exact h.1
theorem bd.fit.mem{v x:bd}(h:v.fit)(hx:x∈v.az):x.fit:=by cases v;exact bd.fits_mem h.2 hx
mutual
theorem bd.fit_of:∀v:bd,v.size<=1000000->v.fit
 |.mk n l,h=>by
  have h1:1+bd.sizes l<=1000000:=h
  have h2:=bd.length_le l
  exact⟨by omega,bd.fit_ofs l (by omega)⟩
theorem bd.fit_ofs:∀l:List bd,bd.sizes l<=1000000->bd.fits l
 |[],_=>trivial
 |v::l,h=>by
  have h1:v.size+bd.sizes l<=1000000:=h
  exact⟨bd.fit_of v (by omega),bd.fit_ofs l (by omega)⟩
end
noncomputable abbrev AkI:=Tryz.f39
theorem Add(N:Nat):∀a b:bd,a.size<=N->a.fit->F0 39 [dV a,dV b] (di (AB a b)):=by
 induction N with
 |zero=>intro a b h;have:=a.size_pos;omega
 |succ N ih=>
 intro a b ha hb
 refine sv AkI 24 [2,3] (.c (di (B0 a.n b.n))<|.c (di (B0 (I a.az) (I b.az)))<|.c (di (BG AB a.az b.az))<|.c (di (AB a b)) .r) (F0 77 [di a.n,di b.n] (di (B0 a.n b.n))/\F0 77 [di (I (U eV a.az):Int),di (I (U eV b.az):Int)] (di (B0 (I a.az:Int) (I b.az:Int)))/\F0 78 [cx a.az,cx b.az,bt (bw 39 [] [])] (di (BG AB a.az b.az))/\F0 76 [bt (ai [vi (B0 a.n b.n),vi (B0 (I a.az:Int) (I b.az:Int)),vi (BG AB a.az b.az)])] (di (AB a b))/\Q (di (AB a b))) ?_
 have hs:=a.size_eq
 have hl:=hb.len
 refine⟨JL _ _,by simpa using JL _ _,VD _ _ _ AB a.az b.az (by omega) (fun x hx y hy=>?_),?_,rfl⟩
 ·have:=bd.size_mem hx
  exact ih x y (by omega) (hb.mem hx)
 ·rw[OZ];exact XO [_,_,_] (by simp)
theorem JK(N:Nat)(a b:bd)(_:a.size<=N)(h:a.size<=1000000):F0 39 [dV a,dV b] (di (AB a b)):=Add _ a b (HX _) (bd.fit_of a h)
def c7{α:Type}(p:α->Bool):List α->Nat->Int
 |[],_=> -1
 |x::l,k=>if p x then k else c7 p l (k+1)
theorem Kz{α:Type}(p:α->Bool):∀(l:List α) (k:Nat),Y (c7 p l k>=0)=l.any p
 |[],k=>by simp[c7]
 |x::l,k=>by
  simp only[c7,List.any_cons]
  by_cases h:p x=J
  ·simp[h]
  ·simp[h,Kz p l]
noncomputable abbrev n7:=Tryz.f197
noncomputable def mu:=yj n7
theorem Ac2(F:yv)(fs cs:List V)(p:Int->Bool)(l:List (Int))(hl:I l<=1000000)(hp:∀x∈l,F0 F ((fs++[vi x]++cs).map .v) (db (p x)))(n:Nat):∀k:Nat,I l-k=n->
  Rn PP n7 0 (di (c7 p (l.drop k) k)) bf ([kl mu [1,0,1,0,0],.blk 0,kc mu [1,1]]++[]) (b9 19 [(0,dl (l.map vi)),(1,.v (.fn F fs cs)),(7,di (I l)),(8,di k)]) bf:=by
 induction n using Nat.strongRecOn with
 |_ n ih=>
 intro k hn
 refine lv 19 [] (.b (.e fun x:Int=>.x (vi x)<|.c (db (p x))<|.b .r (.l [ke 0,ke 1,ke 7,ch 8 (di (k+1:Nat))])) .r) ((Y ((k:Int)<(I l:Int))=J->∃a,0<=(k:Int)/\(U vi l)[Z (k:Int)]?=G (vi a)/\Aa PP F (U bt (fs++[vi a]++cs)) (bi [] []) (db (p a)) (bi [] [])/\(p a=J->di (k:Int)=di (c7 p (W k l) k))/\(p a=O->di (yr yq ((k:Int)+1))=di (↑(k+1):Int)/\Nv.It (AI (CN 0) PP (fun env σ1=>AL PP n7 env σ1 (di (c7 p (W k l) k)) bf) [kl mu [1,0,1,0,0],bh 0,kc mu [1,1]] (b9 19 [(0,bt (ai (U vi l))),(1,bt (bw F fs cs)),(7,di (I l:Int)),(8,di (↑(k+1):Int))]) bf)))/\(Y ((k:Int)<(I l:Int))=O->di (-1)=di (c7 p (W k l) k))) ⟨fun h=>?_,fun h=>?_⟩
 ·have hk:k<I l:=by simpa using h
  have hx:l[k]?=G l[k]:=HQ hk
  rw[Ih hk]
  generalize l[k]=x at hx⊢
  refine⟨x,by omega,A3 hx,hp x (HW hx),fun hf=>by simp[c7,hf],fun hf=>⟨As,⟨?_⟩⟩⟩
  simp only[c7,hf]
  exact ih (I l- (k+1)) (by omega) (k+1) rfl
 ·have hk:I l<=k:=by simpa using h
  rw[Im hk];rfl
theorem Ac1(F:yv)(fs cs:List V)(p:Int->Bool)(l:List (Int))(hl:I l<=1000000)(hp:∀x∈l,F0 F ((fs++[vi x]++cs).map .v) (db (p x))):
  F0 197 [dl (l.map vi),.v (.fn F fs cs)] (di (c7 p l 0)):=by
 refine sv n7 19 [] (.l [ke 0,ke 1,ch 7 (di (I l)),ch 8 (di (0:Nat))]) (di (I (U vi l):Int)=di (I l:Int)/\Q (di 0)/\I0 n7 (I bf.H) (di (c7 p l 0)) bf [kl mu [1,0,1,0,0],bh 0,kc mu [1,1]] (b9 19 [(0,dl (U vi l)),(1,bt (bw F fs cs)),(7,di (I l:Int)),(8,di (↑0:Int))]) bf) ⟨by simp,rfl,⟨?_⟩⟩
 exact Ac2 F fs cs p l hl hp _ 0 rfl
noncomputable abbrev AkA:=Tryz.f155
theorem DO(F:yv)(fs cs:List V)(p:Int->Bool)(l:List (Int))(hl:I l<=1000000)(hp:∀x∈l,F0 F ((fs++[vi x]++cs).map .v) (db (p x))):
  F0 155 [dl (l.map vi),.v (.fn F fs cs)] (db (l.any p)):=by
 exact sv AkA 9 [] (.c (di (c7 p l 0)) .r) (_/\db (Y (c7 p l 0>=0))=db (List.any l p)) ⟨Ac1 F fs cs p l hl hp,by rw[←Kz]⟩
noncomputable abbrev oy:=Tryz.f179
noncomputable def mq:=yj oy
theorem Acw(F:yv)(fs cs:List V)(p:bd->Bool)(l:List (bd))(hl:I l<=1000000)(hp:∀x∈l,F0 F ((fs++[Au x]++cs).map .v) (db (p x)))(n:Nat):∀k:Nat,I l-k=n->
  Rn PP oy 0 (di (c7 p (l.drop k) k)) bf ([kl mq [1,0,1,0,0],.blk 0,kc mq [1,1]]++[]) (b9 19 [(0,dl (l.map eV)),(1,.v (.fn F fs cs)),(7,di (I l)),(8,di k)]) bf:=by
 induction n using Nat.strongRecOn with
 |_ n ih=>
 intro k hn
 refine lv 19 [] (.b (.e fun x:bd=>.x (Au x)<|.c (db (p x))<|.b .r (.l [ke 0,ke 1,ke 7,ch 8 (di (k+1:Nat))])) .r) ((Y ((k:Int)<(I l:Int))=J->∃a,0<=(k:Int)/\(U eV l)[Z (k:Int)]?=G (Au a)/\Aa PP F (U bt (fs++[Au a]++cs)) (bi [] []) (db (p a)) (bi [] [])/\(p a=J->di (k:Int)=di (c7 p (W k l) k))/\(p a=O->di (yr yq ((k:Int)+1))=di (↑(k+1):Int)/\Nv.It (AI (CN 0) PP (fun env σ1=>AL PP oy env σ1 (di (c7 p (W k l) k)) bf) [kl mq [1,0,1,0,0],bh 0,kc mq [1,1]] (b9 19 [(0,bt (ai (U eV l))),(1,bt (bw F fs cs)),(7,di (I l:Int)),(8,di (↑(k+1):Int))]) bf)))/\(Y ((k:Int)<(I l:Int))=O->di (-1)=di (c7 p (W k l) k))) ⟨fun h=>?_,fun h=>?_⟩
 ·have hk:k<I l:=by simpa using h
  have hx:l[k]?=G l[k]:=HQ hk
  rw[Ih hk]
  generalize l[k]=x at hx⊢
  refine⟨x,by omega,A1 hx,hp x (HW hx),fun hf=>by simp[c7,hf],fun hf=>⟨As,⟨?_⟩⟩⟩
  simp only[c7,hf]
  exact ih (I l- (k+1)) (by omega) (k+1) rfl
 ·have hk:I l<=k:=by simpa using h
  rw[Im hk];rfl
theorem T5(F:yv)(fs cs:List V)(p:bd->Bool)(l:List (bd))(hl:I l<=1000000)(hp:∀x∈l,F0 F ((fs++[Au x]++cs).map .v) (db (p x))):
  F0 179 [dl (l.map eV),.v (.fn F fs cs)] (di (c7 p l 0)):=by
 refine sv oy 19 [] (.l [ke 0,ke 1,ch 7 (di (I l)),ch 8 (di (0:Nat))]) (di (I (U eV l):Int)=di (I l:Int)/\Q (di 0)/\I0 oy (I bf.H) (di (c7 p l 0)) bf [kl mq [1,0,1,0,0],bh 0,kc mq [1,1]] (b9 19 [(0,dl (U eV l)),(1,bt (bw F fs cs)),(7,di (I l:Int)),(8,di (↑0:Int))]) bf) ⟨by simp,rfl,⟨?_⟩⟩
 exact Acw F fs cs p l hl hp _ 0 rfl
noncomputable abbrev Ak7:=Tryz.f130
theorem Gw(F:yv)(fs cs:List V)(p:bd->Bool)(l:List (bd))(hl:I l<=1000000)(hp:∀x∈l,F0 F ((fs++[Au x]++cs).map .v) (db (p x))):
  F0 130 [dl (l.map eV),.v (.fn F fs cs)] (db (l.any p)):=by
 exact sv Ak7 9 [] (.c (di (c7 p l 0)) .r) (_/\db (Y (c7 p l 0>=0))=db (List.any l p)) ⟨T5 F fs cs p l hl hp,by rw[←Kz]⟩
noncomputable abbrev n9:=Tryz.f211
noncomputable def mx:=yj n9
theorem AcL(a b:List (Int))(ha:I a<=1000000)(hab:I a=I b)(n:Nat):∀k:Nat,I a-k=n->
  Rn PP n9 0 (db (Y (a.drop k=b.drop k))) bf ([kl mx [1,1,0,1,0,0],.blk 0,kc mx [1,1,1]]++[]) (b9 26 [(0,dl (a.map vi)),(1,dl (b.map vi)),(12,di (I a)),(13,di k)]) bf:=by
 induction n using Nat.strongRecOn with
 |_ n ih=>
 intro k hn
 refine lv 26 [] (.b (.e fun x:Int=>.x (vi x)<|.e fun y:Int=>.x (vi y)<|.b .r (.l [ke 0,ke 1,ke 12,ch 13 (di (k+1:Nat))])) .r) ((Y ((k:Int)<(I a:Int))=J->∃a_2,0<=(k:Int)/\(U vi a)[Z (k:Int)]?=G (vi a_2)/\∃a_3,0<=(k:Int)/\(U vi b)[Z (k:Int)]?=G (vi a_3)/\((a_2 !=a_3)=J->db O=db (Y (W k a=W k b)))/\((a_2 !=a_3)=O->di (yr yq ((k:Int)+1))=di (↑(k+1):Int)/\Nv.It (AI (CN 0) PP (fun env σ1=>AL PP n9 env σ1 (db (Y (W k a=W k b))) bf) [kl mx [1,1,0,1,0,0],bh 0,kc mx [1,1,1]] (b9 26 [(0,bt (ai (U vi a))),(1,bt (ai (U vi b))),(12,di (I a:Int)),(13,di (↑(k+1):Int))]) (bi [] []))))/\(Y ((k:Int)<(I a:Int))=O->db J=db (Y (W k a=W k b)))) ⟨fun h=>?_,fun h=>?_⟩
 ·have hk:k<I a:=by simpa using h
  have hk2:k<I b:=by omega
  have hx:a[k]?=G a[k]:=HQ hk
  have hy:b[k]?=G b[k]:=HQ hk2
  rw[Ih hk,Ih hk2]
  generalize a[k]=x at hx⊢
  generalize b[k]=y at hy⊢
  refine⟨x,by omega,A3 hx,y,by omega,A3 hy,fun hf=>?_,fun hf=>⟨As,⟨?_⟩⟩⟩
  ·have:x≠y:=by simpa using hf
   simp[this]
  ·have:x=y:=by simpa using hf
   subst this
   simpa using ih (I a- (k+1)) (by omega) (k+1) rfl
 ·have hk:I a<=k:=by simpa using h
  rw[Im hk,Im (by omega)];simp
theorem Dr(a b:List (Int))(ha:I a<=1000000):F0 211 [dl (a.map vi),dl (b.map vi)] (db (Y (a=b))):=by
 refine sv n9 26 [] (.b .r (.l [ke 0,ke 1,ch 12 (di (I a)),ch 13 (di (0:Nat))])) ((((I (U vi a):Int) !=(I (U vi b):Int))=J->db O=db (Y (a=b)))/\(((I (U vi a):Int) !=(I (U vi b):Int))=O->di (I (U vi a):Int)=di (I a:Int)/\di 0=di (↑0:Int)/\I0 n9 (I bf.H) (db (Y (a=b))) bf [kl mx [1,1,0,1,0,0],bh 0,kc mx [1,1,1]] (b9 26 [(0,dl (U vi a)),(1,dl (U vi b)),(12,di (I a:Int)),(13,di (↑0:Int))]) bf)) ⟨fun h=>?_,fun h=>⟨by simp,rfl,⟨?_⟩⟩⟩
 ·have h:I a≠b.length:=by simp at h;omega
  rw[HU fun e=>h (by rw[e])]
 ·exact AcL a b ha (by simp at h;omega) _ 0 rfl
theorem DQ{α:Type}{ls:List (List α)}{k:Nat}(hk:k<I ls):(ls.take (k+1)).flatten=(ls.take k).flatten++ls[k]:=by
 rw[List.take_succ_eq_append_getElem hk,List.flatten_append];simp
theorem FT{α:Type}(ls:List (List α))(k:Nat):(ls.take k).flatten.length<=I ls.flatten:=by
 have:=Iq (fun l=>I l.flatten) (List.take_append_drop k ls)
 simp only[List.flatten_append,Ig] at this
 omega
theorem Tz{α β:Type}{e:α->V}{f:β->V}{a:List α}{b:List β}{by':Nat}(h:I a+I b<=2000000)(hb:by'<=10000):A9 (I (a.map e)+I (b.map f)) by':=by
 rw[HP,HP]
 have:(I a+I b)*by'<=2000000*10000:=Nat.mul_le_mul h hb
 exact⟨by omega,by omega⟩
abbrev cz(l:List Int):V:=.list (l.map vi)
abbrev cy(l:List Int):D:=.v (cz l)
abbrev cb(l:List Int):List D:=l.map di
theorem CT(l:List Int):∀y∈l.map vi,y.size=1:=by simp[V.size]
theorem OK(l:List Int):Ad (l.map vi)=cb l:=by
 unfold Ad cb
 induction l with
 |nil=>rfl
 |cons x l ih=>simp_all [V.cellsV]
theorem F6(n:Nat)(ts:List Nat):∀l:List Int,D.okNs n ts (cb l)=J
 |[]=>rfl
 |x::l=>by simp only[cb,Iu,D.okNs,D.okN,I2];exact F6 n ts l
theorem O3(l:List Int):cp 2 [] [none,G ([]++cb l)]=J:=by simp[cp,F6]
noncomputable abbrev Q3:=Tryz.f85
theorem Q9(l:List Int)(hl:I l<=1000000):F0 85 [cy l] (cy l):=by
 by_cases h:l=[]
 ·subst h
  refine NP (ds:=[]) (ds':=[]) fun a cap=>?_
  cases a with
  |none=>
   refine sv Q3 8 [] .r (bt (ai [])=cy []) ?_
   rfl
  |some a=>
   refine sv Q3 8 [] (.a 1<|.h (.q 3 2)<|.h (.un 6)<|.r) (Q nV/\A9 0 8/\bt (ai [])=cy []) ⟨rfl,⟨by simp,by simp⟩,?_⟩
   rfl
 ·exact sv Q3 8 [] (.a 1<|.w .r) (U vi l≠ []/\Q nV/\A9 (I nV+I (U vi l)) 8/\(∀(y:V),y∈U vi l->V.size y=1)/\Q (cy l)) ⟨by simpa using h,rfl,⟨by simp;omega,by simp;omega⟩,CT l,rfl⟩
theorem VF(l:List Int)(hl:I l<=1000000)(h:l≠ []):Aa PP 85 [cy l] bf (.arr 1 0 (I l)) ⟨[none,G (cb l)],[]⟩:=by
 refine sv Q3 8 [] (.h .g<|.h (.q 3 3)<|.h (.ga 7) .ro) (U vi l≠ []/\Q 0/\U vi l≠ []/\(∀(y:V),y∈U vi l->V.size y=1)/\A9 (0+I (U vi l)) 8/\cp 2 [] [none,G ([]++Ad (U vi l))]=J/\[none,G ([]++Ad (U vi l))]=[none,G (cb l)]/\bo 1 0 (0+I (U vi l))=bo 1 0 (I l)) ⟨by simpa using h,rfl,by simpa using h,CT l,⟨by simp;omega,by simp;omega⟩,?_,?_,?_⟩
 ·rw[OK];exact O3 l
 ·simp[OK]
 ·simp
theorem Abe(l:List (List UInt8)):∀y∈l.map ae,y.size=1:=by simp[V.size]
noncomputable abbrev vj:=Tryz.f198
theorem Ac7(n:Nat)(hn:n<=1000000):Aa PP 198 [.v .nils,di n] bf (.acc 1 []) ⟨[],[(1,1,[])]⟩:=by
 have h1:yq.wrap (0-0)=0:=by decide
 by_cases h:n=0
 ·subst h
  exact sv vj 27 [] (.f<|.f<|.h (.q 6 0)<|.h (.nw 0 1 1) .r) (Y ((↑0:Int)<0)=O/\Y (yr yq ((↑0:Int)-yr yq (0-0))>0)=O/\Q [(1,1,nV)]/\Q (br 1 [])) ⟨by decide,by decide,rfl,rfl⟩
 ·refine sv vj 27 [] (.f<|.t<|.a 1 .r) (Y ((n:Int)<0)=O/\Y (yr yq ((n:Int)-yr yq (0-0))>0)=J/\iz 0=0/\0<yr yq ((n:Int)-yr yq (0-0))/\A9 (Z (yr yq ((n:Int)-yr yq (0-0)))) 16/\iz 0=0/\Q [(1,1,nV)]/\Q (br 1 [])) ?_
  have h2:yq.wrap ((n:Int)-yq.wrap (0-0))=n:=by rw[h1,A2];omega
  rw[h2]
  refine⟨by simp,by simp;omega,by simp,by omega,⟨by simp;omega,by simp;omega⟩,by simp,rfl,rfl⟩
noncomputable abbrev kv:=Tryz.f157
noncomputable def Wj:=yj kv
abbrev Hu(ls:List (List (List UInt8))):List V:=ls.map fun l=>.list (l.map ae)
theorem V9(ls:List (List (List UInt8)))(hl:I ls<=1000)(ht:I ls.flatten<=1000000)(n:Nat):∀k:Nat,I ls-k=n->
  Rn PP kv 0 (.acc 1 (ls.flatten.map ae)) ⟨[],[(1,1,ls.flatten.map ae)]⟩ ([kl Wj [1,1,1,1,0,1,0,0],.blk 2,kc Wj [1,1,1,1,1]]++[]) (b9 36 [(0,dl (Hu ls)),(6,.acc 1 ((ls.take k).flatten.map ae)),(25,dl (Hu ls)),(26,di (I ls)),(27,di k)]) ⟨[],[(1,1,(ls.take k).flatten.map ae)]⟩:=by
 induction n using Nat.strongRecOn with
 |_ n ih=>
 intro k hn
 refine lv 36 [] (.b (.e fun x:List (List UInt8)=>.x (.list (x.map ae))<|.w<|.ls [ke 0,ch 6 (.acc 1 ((ls.take (k+1)).flatten.map ae)),ke 25,ke 26,ch 27 (di (k+1:Nat))] ⟨[],[(1,1,(ls.take (k+1)).flatten.map ae)]⟩) .r) ((Y ((k:Int)<(I ls:Int))=J->∃a,0<=(k:Int)/\(Hu ls)[Z (k:Int)]?=G (ai (U ae a))/\U ae (flatten (take k ls))=U ae (flatten (take k ls))/\A9 (I (U ae (flatten (take k ls)))+I (U ae a)) 16/\(∀(y:V),y∈U ae a->V.size y=1)/\br 1 (U ae (flatten (take k ls))++U ae a)=br 1 (U ae (flatten (take (k+1) ls)))/\di (yr yq ((k:Int)+1))=di (↑(k+1):Int)/\[(1,1,U ae (flatten (take k ls))++U ae a)]=[(1,1,U ae (flatten (take (k+1) ls)))]/\Nv.It (AI (CN 0) PP (fun env σ1=>AL PP kv env σ1 (br 1 (U ae (flatten ls))) (bi [] [(1,1,U ae (flatten ls))])) [kl Wj [1,1,1,1,0,1,0,0],bh 2,kc Wj [1,1,1,1,1]] (b9 36 [(0,bt (ai (Hu ls))),(6,br 1 (U ae (flatten (take (k+1) ls)))),(25,bt (ai (Hu ls))),(26,di (I ls:Int)),(27,di (↑(k+1):Int))]) (bi [] [(1,1,U ae (flatten (take (k+1) ls)))])))/\(Y ((k:Int)<(I ls:Int))=O->[(1,1,U ae (flatten (take k ls)))]=[(1,1,U ae (flatten ls))]/\br 1 (U ae (flatten (take k ls)))=br 1 (U ae (flatten ls)))) ⟨fun h=>?_,fun h=>?_⟩
 ·have hk:k<I ls:=by simpa using h
  have hx:ls[k]?=G ls[k]:=HQ hk
  have hf:=DQ hk
  have hle:=FT ls (k+1)
  have hih:=ih (I ls- (k+1)) (by omega) (k+1) rfl
  rw[hf] at hle hih⊢
  generalize ls[k]=x at hx hle hih⊢
  simp only[Ig] at hle
  refine⟨x,by omega,by simp[hx],rfl,Tz (by omega) (by decide),Abe x,by simp,As,by simp,⟨hih⟩⟩
 ·have hk:I ls<=k:=by simpa using h
  rw[Iw hk];exact⟨rfl,rfl⟩
theorem VA(ls:List (List (List UInt8)))(hl:I ls<=1000)(ht:I ls.flatten<=1000000)(n:Nat):∀k:Nat,I ls-k=n->
  Rn PP kv 0 (.acc 1 (ls.flatten.map ae)) ⟨[],[(1,1,ls.flatten.map ae)]⟩ ([kl Wj [1,1,0,1,0,0],.blk 0,kc Wj [1,1,1]]++[]) (b9 36 [(0,dl (Hu ls)),(3,di ((ls.take k).flatten.length:Nat)),(9,dl (Hu ls)),(10,di (I ls)),(11,di k)]) bf:=by
 induction n using Nat.strongRecOn with
 |_ n ih=>
 intro k hn
 refine lv 36 [] (.b (.e fun x:List (List UInt8)=>.x (.list (x.map ae))<|.f<|.l [ke 0,ch 3 (di ((ls.take (k+1)).flatten.length:Nat)),ke 9,ke 10,ch 11 (di (k+1:Nat))]) (.h (.ckn 1 1 1 [])<|.ls [ke 0,ch 6 (.acc 1 ((ls.take 0).flatten.map ae)),ke 25,ch 26 (di (I ls)),ch 27 (di (0:Nat))] ⟨[],[(1,1,(ls.take 0).flatten.map ae)]⟩)) ((Y ((k:Int)<(I ls:Int))=J->∃a,0<=(k:Int)/\(Hu ls)[Z (k:Int)]?=G (ai (U ae a))/\Y (yr yq ((I (flatten (take k ls)):Int)+(I (U ae a):Int))<0)=O/\di (yr yq ((I (flatten (take k ls)):Int)+(I (U ae a):Int)))=di (I (flatten (take (k+1) ls)):Int)/\di (yr yq ((k:Int)+1))=di (↑(k+1):Int)/\Nv.It (AI (CN 0) PP (fun env σ1=>AL PP kv env σ1 (br 1 (U ae (flatten ls))) (bi [] [(1,1,U ae (flatten ls))])) [kl Wj [1,1,0,1,0,0],bh 0,kc Wj [1,1,1]] (b9 36 [(0,bt (ai (Hu ls))),(3,di (I (flatten (take (k+1) ls)):Int)),(9,bt (ai (Hu ls))),(10,di (I ls:Int)),(11,di (↑(k+1):Int))]) bf))/\(Y ((k:Int)<(I ls:Int))=O->Aa PP 198 [dn,di (I (flatten (take k ls)):Int)] (bi [] []) (br 1 []) (bi [] [(1,1,[])])/\Q (br 1 [])/\di (I (Hu ls):Int)=di (I ls:Int)/\di 0=di (↑0:Int)/\Q [(1,1,nV)]/\I0 kv 0 (br 1 (U ae (flatten ls))) (bi [] [(1,1,U ae (flatten ls))]) [kl Wj [1,1,1,1,0,1,0,0],bh 2,kc Wj [1,1,1,1,1]] (b9 36 [(0,bt (ai (Hu ls))),(6,br 1 []),(25,bt (ai (Hu ls))),(26,di (I ls:Int)),(27,di (↑0:Int))]) (bi [] [(1,1,[])]))) ⟨fun h=>?_,fun h=>?_⟩
 ·have hk:k<I ls:=by simpa using h
  have hx:ls[k]?=G ls[k]:=HQ hk
  have hf:=Iq I (DQ hk)
  rw[Ig] at hf
  have hle:=FT ls (k+1)
  generalize ls[k]=x at hx hf⊢
  have h2:yq.wrap ((((ls.take k).flatten.length:Nat):Int)+(I (x.map ae):Int))=(((ls.take (k+1)).flatten.length:Nat):Int):=by rw[A2 (by simp only[HP];omega) (by simp only[HP];omega),hf];simp
  refine⟨x,by omega,by simp[hx],by rw[h2];simp,by rw[h2],As,⟨?_⟩⟩
  exact ih (I ls- (k+1)) (by omega) (k+1) rfl
 ·have hk:I ls<=k:=by simpa using h
  rw[Iw hk]
  refine⟨Ac7 (I ls.flatten) ht,rfl,by simp,rfl,rfl,⟨?_⟩⟩
  exact V9 ls hl ht _ 0 rfl
theorem Zl(ls:List (List (List UInt8)))(hl:I ls<=1000)(ht:I ls.flatten<=1000000):Aa PP 157 [dl (Hu ls)] bf (.acc 1 (ls.flatten.map ae)) ⟨[],[(1,1,ls.flatten.map ae)]⟩:=by
 refine sv kv 36 [] (.l [ke 0,ch 3 (di ((ls.take 0).flatten.length:Nat)),ke 9,ch 10 (di (I ls)),ch 11 (di (0:Nat))]) (Q (di 0)/\di (I (Hu ls):Int)=di (I ls:Int)/\Q (di 0)/\I0 kv (I bf.H) (br 1 (U ae (flatten ls))) (bi [] [(1,1,U ae (flatten ls))]) [kl Wj [1,1,0,1,0,0],bh 0,kc Wj [1,1,1]] (b9 36 [(0,dl (Hu ls)),(3,di (I (flatten (take 0 ls)):Int)),(9,dl (Hu ls)),(10,di (I ls:Int)),(11,di (↑0:Int))]) bf) ⟨rfl,by simp,rfl,⟨?_⟩⟩
 exact VA ls hl ht _ 0 rfl
structure Tk where
 place:Int
 low:Int
 high:Int
 deriving DecidableEq,Inhabited
abbrev ce(t:Tk):V:=.agg [vi t.place,vi t.low,vi t.high]
abbrev AT(l:List Tk):V:=.list (l.map ce)
structure cq where
 name:List UInt8
 aj:Int
 to:Int
 am:List Int
 ak:List Int
 move:List Int
 chan:Int
 act:Int
 letter:Int
 path:List Int
 next:List Int
 ar:List Tk
 aq:List Int
 second:Int
 deriving DecidableEq,Inhabited
abbrev AD(r:cq):V:=.agg [.str r.name,vi r.aj,vi r.to,cz r.am,cz r.ak,cz r.move,vi r.chan,vi r.act,vi r.letter,cz r.path,cz r.next,AT r.ar,cz r.aq,vi r.second]
abbrev Ht(l:List cq):V:=.list (l.map AD)
abbrev cf(l:List (List UInt8)):V:=.list (l.map ae)
structure ba where
 kind:Int
 aw:List (List UInt8)
 ay:List (List UInt8)
 ax:List (List UInt8)
 au:List Int
 ao:Int
 age:Int
 av:List cq
 start:bd
 deriving Inhabited
abbrev AE(m:ba):V:=.agg [vi m.kind,cf m.aw,cf m.ay,cf m.ax,cz m.au,vi m.ao,vi m.age,Ht m.av,vi m.start.n,cc m.start.az]
abbrev Ax(m:ba):D:=.v (AE m)
abbrev AZ(r:cq):D:=.v (AD r)
def A6(x a b:Int):Bool:=Y (a<=x)&&Y (x<=b)
noncomputable abbrev AkM:=Tryz.f103
theorem DV(x a b:Int):F0 103 [di x,di a,di b] (db (A6 x a b)):=by
 refine sv AkM 15 [] (.b .r .r) ((Y (x>=a)=J->db (Y (x<=b))=db (A6 x a b))/\(Y (x>=a)=O->db O=db (A6 x a b))) ⟨fun h=>?_,fun h=>?_⟩
 ·have h:a<=x:=by simpa using h
  simp[A6,h]
 ·have h:¬a<=x:=by simpa using h
  simp[A6,h]
noncomputable abbrev AfY:=Tryz.f161
theorem Ck(x:Int)(n:Nat)(hn:n<=1000000):F0 161 [di x,di n] (db (A6 x 0 (n-1))):=by
 refine sv AfY 9 [] (.c (db (A6 x 0 (n-1))) .r) (F0 103 [di x,di 0,di (yr yq ((n:Int)-1))] (db (A6 x 0 ((n:Int)-1)))/\Q (db (A6 x 0 ((n:Int)-1)))) ⟨?_,rfl⟩
 rw[A2]
 exact DV x 0 (n-1)
noncomputable abbrev Ak4:=Tryz.f167
noncomputable abbrev AiE:=Tryz.f210
theorem Vp(F:yv)(fs cs:List V)(p:Int->Bool)(x:Int)(hp:F0 F ((fs++[vi x]++cs).map .v) (db (p x))):F0 210 [di x,.v (.ref (.fn F fs cs))] (db (!p x)):=by
 exact sv AiE 8 [] (.c (db (p x)) .r) (_/\Q (db !p x)) ⟨hp,rfl⟩
theorem Fp(F:yv)(fs cs:List V)(p:Int->Bool)(l:List Int)(hl:I l<=1000000)(hp:∀x∈l,F0 F ((fs++[vi x]++cs).map .v) (db (p x))):F0 167 [cy l,.v (.fn F fs cs)] (db (l.all p)):=by
 refine sv Ak4 9 [3] (.c (db (l.any fun x=> !p x)) .r) (F0 155 [cy l,bt (bw 210 [] [bz (bw F fs cs)])] (db (List.any l fun x=> !p x))/\(db !List.any l fun x=> !p x)=db (List.all l p)) ?_
 refine⟨DO _ [] _ (fun x=> !p x) l hl fun x hx=>Vp F fs cs p x (hp x hx),?_⟩
 congr 2
 induction l with
 |nil=>rfl
 |cons x l ih=>
  have h:=ih (by simp at hl;omega) (fun x hx=>hp x (by simp[hx]))
  simp only[List.any_cons,List.all_cons,Bool.not_or,Bool.not_not,h]
noncomputable abbrev Amy:=Tryz.f162
noncomputable abbrev AkK:=Tryz.f203
abbrev D8(x:Int):Bool:=A6 x 0 16
theorem QD(x:Int):F0 203 [di x] (db (D8 x)):=by
 exact sv AkK 5 [] (.c (db (D8 x)) .r) (_/\Q (db (D8 x))) ⟨DV x 0 16,rfl⟩
structure cq.short(r:cq):Prop where
 am:I r.am<=1000000
 ak:I r.ak<=1000000
 move:I r.move<=1000000
 path:I r.path<=1000000
 next:I r.next<=1000000
 ar:I r.ar<=1000000
 aq:I r.aq<=1000000
def BY(m:ba)(r:cq):Bool:=((I r.am:Int)==I m.ay)&&(((I r.ak:Int)==I m.ay)&&(r.am.all D8&&r.ak.all D8))
theorem Ado(m:ba)(r:cq)(hr:r.short):F0 162 [Ax m,AZ r] (db (BY m r)):=by
 refine sv Amy 34 [2,3] (.b (.b (.c (db (r.am.all D8))<|.b (.c (db (r.ak.all D8)) .r) .r) .r) .r) ((((I (U vi r.am):Int)==(I (U ae m.ay):Int))=J->(((I (U vi r.ak):Int)==(I (U ae m.ay):Int))=J->F0 167 [cy r.am,bt (bw 203 [] [])] (db (List.all r.am D8))/\(List.all r.am D8=J->F0 167 [cy r.ak,bt (bw 203 [] [])] (db (List.all r.ak D8))/\db (List.all r.ak D8)=db (BY m r))/\(List.all r.am D8=O->db O=db (BY m r)))/\(((I (U vi r.ak):Int)==(I (U ae m.ay):Int))=O->db O=db (BY m r)))/\(((I (U vi r.am):Int)==(I (U ae m.ay):Int))=O->db O=db (BY m r))) ?_
 refine⟨fun h1=>⟨fun h2=>⟨Fp _ [] [] D8 _ hr.am fun x _=>QD x,fun h3=>⟨Fp _ [] [] D8 _ hr.ak fun x _=>QD x,?_⟩,fun h3=>?_⟩,fun h2=>?_⟩,fun h1=>?_⟩<;>(simp only[HP] at*;simp[BY, *])
noncomputable abbrev Amn:=Tryz.f163
noncomputable abbrev Ak0:=Tryz.f204
theorem Yw(n:Nat)(hn:n<=1000000)(x:Int):F0 204 [di x,.v (.ref (vi n))] (db (A6 x (-1) (n-1))):=by
 refine sv Ak0 8 [] (.c (db (A6 x (-1) (n-1))) .r) (F0 103 [di x,di (-1),di (yr yq ((n:Int)-1))] (db (A6 x (-1) ((n:Int)-1)))/\Q (db (A6 x (-1) ((n:Int)-1)))) ⟨?_,rfl⟩
 rw[A2]
 exact DV x (-1) (n-1)
def Dc(m:ba)(r:cq):Bool:=((I r.move:Int)==0)||(((I r.move:Int)==I m.ay)&&r.move.all fun x=>A6 x (-1) (I m.ay-1))
theorem AbZ(m:ba)(hm:I m.ay<=1000000)(r:cq)(hr:r.short):F0 163 [Ax m,AZ r] (db (Dc m r)):=by
 refine sv Amn 26 [2,3] (.h (.q 2 0)<|.h (.f1 0 [5])<|.b .r (.b (.c (db (r.move.all fun x=>A6 x (-1) (I m.ay-1))) .r) .r)) ((((I (U vi r.move):Int)==0)=J->db J=db (Dc m r))/\(((I (U vi r.move):Int)==0)=O->(((I (U vi r.move):Int)==(I (U ae m.ay):Int))=J->F0 167 [cy r.move,bt (bw 204 [] [bz (vi (I (U ae m.ay):Int))])] (db (List.all r.move fun x=>A6 x (-1) ((I m.ay:Int)-1)))/\db (List.all r.move fun x=>A6 x (-1) ((I m.ay:Int)-1))=db (Dc m r))/\(((I (U vi r.move):Int)==(I (U ae m.ay):Int))=O->db O=db (Dc m r)))) ?_
 refine⟨fun h1=>?_,fun h1=>⟨fun h2=>⟨Fp _ [] [_] _ _ hr.move fun x _=>by simpa using Yw (I m.ay) hm x,?_⟩,fun h2=>?_⟩⟩<;>(simp only[HP] at*;simp[Dc, *])
noncomputable abbrev AkN:=Tryz.f164
def DW(m:ba)(r:cq):Bool:=if (r.act==0)=J then(r.chan==0)&&(r.letter==0) else A6 r.act 1 2&&(A6 r.chan 0 (I m.ay-1)&&A6 r.letter 0 (I m.ax-1))
theorem ZQ(m:ba)(hm:I m.ay<=1000000)(hl:I m.ax<=1000000)(r:cq):F0 164 [Ax m,AZ r] (db (DW m r)):=by
 refine sv AkN 35 [2,3] (.b (.b .r .r) (.c (db (A6 r.act 1 2))<|.b (.c (db (A6 r.chan 0 (I m.ay-1)))<|.b (.c (db (A6 r.letter 0 (I m.ax-1))) .r) .r) .r)) (((r.act==0)=J->((r.chan==0)=J->db (r.letter==0)=db (DW m r))/\((r.chan==0)=O->db O=db (DW m r)))/\((r.act==0)=O->F0 103 [di r.act,di 1,di 2] (db (A6 r.act 1 2))/\(A6 r.act 1 2=J->F0 161 [di r.chan,di (I (U ae m.ay):Int)] (db (A6 r.chan 0 ((I m.ay:Int)-1)))/\(A6 r.chan 0 ((I m.ay:Int)-1)=J->F0 161 [di r.letter,di (I (U ae m.ax):Int)] (db (A6 r.letter 0 ((I m.ax:Int)-1)))/\db (A6 r.letter 0 ((I m.ax:Int)-1))=db (DW m r))/\(A6 r.chan 0 ((I m.ay:Int)-1)=O->db O=db (DW m r)))/\(A6 r.act 1 2=O->db O=db (DW m r)))) ?_
 refine⟨fun h1=>⟨fun h2=>?_,fun h2=>?_⟩,fun h1=>⟨DV _ 1 2,fun h2=>⟨by simpa using Ck r.chan (I m.ay) hm,fun h3=>⟨by simpa using Ck r.letter (I m.ax) hl,?_⟩,fun h3=>?_⟩,fun h2=>?_⟩⟩<;>(try simp only[HP] at*)<;>simp[DW, *]
noncomputable abbrev sg:=Tryz.f212
theorem OM(a:List Tk):F0 212 [.v (AT a),.v (AT [])] (db (Y (a=[]))):=by
 refine sv sg 26 [] (.b .r (.n<|.f .r)) ((((I (U ce a):Int) !=(I (U ce []):Int))=J->db O=db (Y (a=[])))/\(((I (U ce a):Int) !=(I (U ce []):Int))=O->Y (0<(I (U ce a):Int))=O/\db J=db (Y (a=[])))) ⟨fun h=>?_,fun h=>?_⟩
 ·have:a≠ []:=by rintro rfl;simp at h
  simp[this]
 ·have:a=[]:=by simpa using h
  subst this
  simp
def BU(a b:cq):Bool:=(a.name==b.name)&&((a.aj==b.aj)&&((a.to==b.to)&&(Y (a.am=b.am)&&(Y (a.ak=b.ak)&&(Y (a.move=b.move)&&((a.chan==b.chan)&&((a.act==b.act)&&((a.letter==b.letter)&&(Y (a.path=b.path)&&(Y (a.next=b.next)&&(Y (a.ar=[])&&(Y (a.aq=b.aq)&&(a.second==b.second)))))))))))))
noncomputable abbrev qm:=Tryz.f169
theorem PG(a b:cq)(ha:a.short)(hb:b.ar=[]):F0 169 [AZ a,AZ b] (db (BU a b)):=by
 refine sv qm 101 [2,3] (.b (.b (.b (.c (db (Y (a.am=b.am)))<|.b (.c (db (Y (a.ak=b.ak)))<|.b (.c (db (Y (a.move=b.move)))<|.b (.b (.b (.b (.c (db (Y (a.path=b.path)))<|.b (.c (db (Y (a.next=b.next)))<|.b (.c (db (Y (a.ar=[])))<|.b (.c (db (Y (a.aq=b.aq)))<|.b .r .r) .r) .r) .r) .r) .r) .r) .r) .r) .r) .r) .r) .r) (((a.name==b.name)=J->((a.aj==b.aj)=J->((a.to==b.to)=J->F0 211 [cy a.am,cy b.am] (db (Y (a.am=b.am)))/\(Y (a.am=b.am)=J->F0 211 [cy a.ak,cy b.ak] (db (Y (a.ak=b.ak)))/\(Y (a.ak=b.ak)=J->F0 211 [cy a.move,cy b.move] (db (Y (a.move=b.move)))/\(Y (a.move=b.move)=J->((a.chan==b.chan)=J->((a.act==b.act)=J->((a.letter==b.letter)=J->F0 211 [cy a.path,cy b.path] (db (Y (a.path=b.path)))/\(Y (a.path=b.path)=J->F0 211 [cy a.next,cy b.next] (db (Y (a.next=b.next)))/\(Y (a.next=b.next)=J->F0 212 [bt (AT a.ar),bt (AT b.ar)] (db (Y (a.ar=[])))/\(Y (a.ar=[])=J->F0 211 [cy a.aq,cy b.aq] (db (Y (a.aq=b.aq)))/\(Y (a.aq=b.aq)=J->db (a.second==b.second)=db (BU a b))/\(Y (a.aq=b.aq)=O->db O=db (BU a b)))/\(Y (a.ar=[])=O->db O=db (BU a b)))/\(Y (a.next=b.next)=O->db O=db (BU a b)))/\(Y (a.path=b.path)=O->db O=db (BU a b)))/\((a.letter==b.letter)=O->db O=db (BU a b)))/\((a.act==b.act)=O->db O=db (BU a b)))/\((a.chan==b.chan)=O->db O=db (BU a b)))/\(Y (a.move=b.move)=O->db O=db (BU a b)))/\(Y (a.ak=b.ak)=O->db O=db (BU a b)))/\(Y (a.am=b.am)=O->db O=db (BU a b)))/\((a.to==b.to)=O->db O=db (BU a b)))/\((a.aj==b.aj)=O->db O=db (BU a b)))/\((a.name==b.name)=O->db O=db (BU a b))) ?_
 repeat' first|with_reducible refine And.intro ?_ ?_|intro _
 all_goals first|exact Dr _ _ ha.am|exact Dr _ _ ha.ak|exact Dr _ _ ha.move|exact Dr _ _ ha.path|exact Dr _ _ ha.next|exact Dr _ _ ha.aq|(rw[hb];exact OM _)|simp[BU, *]
def Ow(r:cq):cq:={ name:=r.name,aj:=r.aj,to:=r.to,am:=r.am,ak:=r.ak,move:=r.move,chan:=0,act:=0,letter:=0,path:=[],next:=[],ar:=[],aq:=[],second:=0 }
def He(r:cq):cq:={ name:=r.name,aj:=r.aj,to:=r.to,am:=[],ak:=[],move:=[],chan:=r.chan,act:=r.act,letter:=r.letter,path:=[],next:=[],ar:=[],aq:=[],second:=0 }
noncomputable abbrev Qx:=Tryz.f109
def Ec(m:ba)(r:cq):Bool:=A6 r.to 0 (I m.aw-1)&&(A6 r.aj 0 (I m.aw-1)&&(BY m r&&(Dc m r&&BU r (Ow r))))
structure ba.short(m:ba):Prop where
 aw:I m.aw<=1000000
 ay:I m.ay<=1000000
 ax:I m.ax<=1000000
 au:I m.au<=1000000
 av:I m.av<=1000000
 rule:∀r∈m.av,r.short
theorem Rw(m:ba)(hm:m.short)(hk:m.kind=1)(r:cq)(hr:r.short):F0 109 [Ax m,AZ r] (db (Ec m r)):=by
 refine sv Qx 142 [2,3] (.c (db (A6 r.to 0 (I m.aw-1)))<|.b .r<|.c (db (A6 r.aj 0 (I m.aw-1)))<|.b (.t .r)<|.k<|.t<|.c (db (BY m r))<|.b (.c (db (Dc m r))<|.b (.c (db (BU r (Ow r))) .r) .r) .r) (F0 161 [di r.to,di (I (U ae m.aw):Int)] (db (A6 r.to 0 ((I m.aw:Int)-1)))/\((!A6 r.to 0 ((I m.aw:Int)-1))=J->db O=db (Ec m r))/\((!A6 r.to 0 ((I m.aw:Int)-1))=O->F0 161 [di r.aj,di (I (U ae m.aw):Int)] (db (A6 r.aj 0 ((I m.aw:Int)-1)))/\((!A6 r.aj 0 ((I m.aw:Int)-1))=J->(m.kind !=6)=J/\db O=db (Ec m r))/\((!A6 r.aj 0 ((I m.aw:Int)-1))=O->(m.kind==1)=J/\F0 162 [Ax m,AZ r] (db (BY m r))/\(BY m r=J->F0 163 [Ax m,AZ r] (db (Dc m r))/\(Dc m r=J->F0 169 [AZ r,bt (ab [ae r.name,vi r.aj,vi r.to,cz r.am,cz r.ak,cz r.move,vi 0,vi 0,vi 0,ai [],ai [],ai [],ai [],vi 0])] (db (BU r (Ow r)))/\db (BU r (Ow r))=db (Ec m r))/\(Dc m r=O->db O=db (Ec m r)))/\(BY m r=O->db O=db (Ec m r))))) ?_
 repeat' first|with_reducible refine And.intro ?_ ?_|intro _
 all_goals first|(simpa using Ck _ _ hm.aw)|exact Ado m r hr|exact AbZ m hm.ay r hr|exact PG r (Ow r) hr rfl|simp_all [Ec]
def Es(m:ba)(r:cq):Bool:=A6 r.to 0 (I m.aw-1)&&(A6 r.aj 0 (I m.aw-1)&&(DW m r&&BU r (He r)))
theorem Rv(m:ba)(hm:m.short)(hk:m.kind=2∨m.kind=3)(r:cq)(hr:r.short):F0 109 [Ax m,AZ r] (db (Es m r)):=by
 refine sv Qx 142 [2,3] (.c (db (A6 r.to 0 (I m.aw-1)))<|.b .r<|.c (db (A6 r.aj 0 (I m.aw-1)))<|.b (.t .r)<|.k<|.f<|.b (.k<|.c (db (DW m r))<|.b (.c (db (BU r (He r))) .r) .r) (.t<|.c (db (DW m r))<|.b (.c (db (BU r (He r))) .r) .r)) (F0 161 [di r.to,di (I (U ae m.aw):Int)] (db (A6 r.to 0 ((I m.aw:Int)-1)))/\((!A6 r.to 0 ((I m.aw:Int)-1))=J->db O=db (Es m r))/\((!A6 r.to 0 ((I m.aw:Int)-1))=O->F0 161 [di r.aj,di (I (U ae m.aw):Int)] (db (A6 r.aj 0 ((I m.aw:Int)-1)))/\((!A6 r.aj 0 ((I m.aw:Int)-1))=J->(m.kind !=6)=J/\db O=db (Es m r))/\((!A6 r.aj 0 ((I m.aw:Int)-1))=O->(m.kind==1)=O/\((m.kind==2)=J->F0 164 [Ax m,AZ r] (db (DW m r))/\(DW m r=J->F0 169 [AZ r,bt (ab [ae r.name,vi r.aj,vi r.to,ai [],ai [],ai [],vi r.chan,vi r.act,vi r.letter,ai [],ai [],ai [],ai [],vi 0])] (db (BU r (He r)))/\db (BU r (He r))=db (Es m r))/\(DW m r=O->db O=db (Es m r)))/\((m.kind==2)=O->(m.kind==3)=J/\F0 164 [Ax m,AZ r] (db (DW m r))/\(DW m r=J->F0 169 [AZ r,bt (ab [ae r.name,vi r.aj,vi r.to,ai [],ai [],ai [],vi r.chan,vi r.act,vi r.letter,ai [],ai [],ai [],ai [],vi 0])] (db (BU r (He r)))/\db (BU r (He r))=db (Es m r))/\(DW m r=O->db O=db (Es m r)))))) ?_
 repeat' first|with_reducible refine And.intro ?_ ?_|intro _
 all_goals first|(simpa using Ck _ _ hm.aw)|exact ZQ m hm.ay hm.ax r|exact PG r (He r) hr rfl|(rcases hk with hk|hk<;>simp_all [Es])
end Go.Proofs.YthmjfmacdlhfjaaGreat

namespace Go.Nv
open Go.Dv
open Go.IntKind (u64)
open Go.IntKind renaming wrap → yr, i64 → yq
open List renaming length → I, map → U, drop → W
open Option renaming some → G
open Bool renaming true → J, false → O
open Decidable renaming decide → Y
open Int renaming toNat → Z
open Go.Dv.V renaming list → ai, str → ae, agg → ab, int → aa, ref → bz, fn → bw, nils → bv, bool → bu
open Go.Dv.D renaming v → bt, acc → br, ptr → bq, arr → bo, gro → bm, tup → bl, undef → bk, dagg → bj
open Go.Dv.St renaming mk → bi
open Go.Dv.KI renaming blk → bh
open _root_.ByteArray renaming mk → bg
open Go renaming Operand → x5, Program → x4, TypeId → yz, World → yy, Value → yx, Oper → yw, FuncId → yv, Func → yu, IntKind → yt
abbrev CS(m r:Nat)(l:List (List UInt8))(E0 E:co):Prop:=ZT r (Dj l) E0 E/\E.g.n<=m
theorem wu(m r:Nat)(l:List (List UInt8)):Pr (CS m r l):=⟨fun h _ _ _ hw=>h.1.link _ _ _ hw⟩
section
variable {P : x4} {R : List D -> St -> Prop} {k : List KI} {env : List D} {σ : St} {ops : Array yw} {L : List yw} {o : yw}
theorem UM{m:Nat}(t:Nat){ty:yz}(hg:C0 env ops o=G true)(ht:o.dst=G t)(hop:o.op=.makeMap ty none)
  (hk:∀r:Nat,Cp (CS (I σ.H) r []) P R k ops L (env.set t (.raw (.map (G r)))) σ):Cp (CN m) P R k ops (o::L) env σ:=by
 intro E0 E g a w B hC hf hB
 unfold wpList
 rw[Io (Ca hf.env hg)]
 refine .inl ?_
 have hw:=(CV m).ok hC hf.wi
 have hput:=hf.put (hf.wi.alloc (.map #[] 0)) g.le_refl (d:=.raw (.map (G w.heap.size))) (u:=.map (G w.heap.size)) (by simp only[Av]) (G t)
 have hsize:(w.alloc (.map #[] 0)).heap.size=w.heap.size+1:=by simp
 obtain⟨h1,h2⟩:=ZT.of (r:=w.heap.size) (ob:=.map #[] 0) (w1:=w.alloc (.map #[] 0)) hw
  (fun b hb=>by
   by_cases hlt:b<w.heap.size
   ·exact heap_alloc_old w _ b hlt
   ·rw[Array.getElem?_eq_none (by omega),Array.getElem?_eq_none (by omega)])
  (heap_alloc_new w _) (by omega) rfl rfl rfl hw.size (hw.rep.new_none (HX _)) (fun i cs hi=>Nat.ne_of_lt (hw.rep.obj_lt hi)) (fun x hx u hu hb=>by have:=hw.rep.own_lt hx hu hb;omega)
 have:=hk w.heap.size E0 _ g _ _ B ⟨h1,Nat.le_of_eq hw.rep.n⟩ ⟨h2,hput.env,hput.defers⟩ hB
 unfold Oper.wp execOp
 simpa[hop,Instr.makeMap,ht,Oper.upon] using this
theorem Xw{m:Nat}(t sm sk:Nat){ty kt et:yz}{r:Nat}{s:List UInt8}{l:List (List UInt8)}{inf:TypeInfo}(hg:C0 env ops o=G true)(ht:o.dst=G t)(hop:o.op=.lookup ty (.tmp sm) (.tmp sk) false)
  (hty:P.underlying ty=G (.map kt et)) (hkt:P.underlying kt=G .string) (hi:P.info? et=G inf) (hz:inf.zero=G (.bool false)) (hm:env[sm]?=G (.raw (.map (G r)))) (hs:env[sk]?=G (.v (.str s)))
  (hk:Cp (CS m r l) P R k ops L (env.set t (.v (.bool (l.contains s)))) σ):Cp (CS m r l) P R k ops (o::L) env σ:=by
 intro E0 E g a w B hC hf hB
 unfold wpList
 rw[Io (Ca hf.env hg)]
 refine .inl ?_
 have e1:a.eval (.tmp sm)=.map (G r):=by have:=F4 hf.env sm;rw[TE hm] at this;simpa only[Av] using this
 have e2:a.eval (.tmp sk)=.string ⟨s.toArray⟩:=by have:=F4 hf.env sk;rw[TE hs] at this;simpa only[Av,CU] using this
 have hnow:=(hC.1.side.now hf.wi).1
 obtain⟨q,hq⟩:=OL s l 0 0
 have:=hk E0 E g _ _ B hC (hf.put hf.wi g.le_refl (d:=.v (.bool (l.contains s))) (u:=.bool (l.contains s)) (by simp[Av]) (G t)) hB
 have hrun:(Instr.lookup ty (.map (G r)) (.string ⟨s.toArray⟩) false).run P w=.ok (.bool (l.contains s)) w:=by
  have hget:(getObj r).run P w=.ok (Dj l) w:=by simp[getObj,Sem.run,hnow,Dj]
  have hfk:(Instr.findKey kt (.string ⟨s.toArray⟩) (FC 0 l)).run P w=.ok (if l.contains s then G (q,.bool true) else none) w:=by simp only[Instr.findKey,Sem.run_bind,run_underlying hkt,Result.andThen_ok,hq,Sem.run_pure]
  have hck:∀b,(Instr.checkKey b 10000 kt (.string ⟨s.toArray⟩)).run P w=.ok () w:=fun b=>by
   rw[show(10000:Nat)=9999+1 from rfl];unfold Instr.checkKey;simp[run_underlying hkt]
  unfold Instr.lookup
  simp only[Sem.run_bind,run_underlying hty,Result.andThen_ok,hget,Dj,Sem.run_pure,hck,hfk]
  cases hc:l.contains s with
  |true=>simp
  |false=>simp[zeroValue,typeInfo,hi,hz]
 unfold Oper.wp execOp
 simp only[hop,e1,e2,Sem.run_bind,hrun,Result.andThen_ok]
 simp only[Sem.run_pure,Oper.upon,ht]
 exact this
theorem Xv{m:Nat}(sm sk:Nat){v:x5}{ty kt et:yz}{r:Nat}{s:List UInt8}{l:List (List UInt8)}(hg:C0 env ops o=G true)(ht:o.dst=none)(hop:o.op=.mapUpdate ty (.tmp sm) (.tmp sk) v)(hv:g9 env v=.v (.bool true))
  (hty:P.underlying ty=G (.map kt et)) (hkt:P.underlying kt=G .string) (hm:env[sm]?=G (.raw (.map (G r)))) (hs:env[sk]?=G (.v (.str s))) (hnew:l.contains s=O)
  (hk:Cp (CS (I σ.H) r (l++[s])) P R k ops L env σ):Cp (CS m r l) P R k ops (o::L) env σ:=by
 intro E0 E g a w B hC hf hB
 unfold wpList
 rw[Io (Ca hf.env hg)]
 refine .inl ?_
 have e1:a.eval (.tmp sm)=.map (G r):=by have:=F4 hf.env sm;rw[TE hm] at this;simpa only[Av] using this
 have e2:a.eval (.tmp sk)=.string ⟨s.toArray⟩:=by have:=F4 hf.env sk;rw[TE hs] at this;simpa only[Av,CU] using this
 have e3:a.eval v=.bool true:=by have:=LM hf.wi.rep.gl hf.env v;rw[hv] at this;simpa only[Av,Et] using this
 obtain⟨hnow,hM,hobj,hown⟩:=hC.1.side.now hf.wi
 obtain⟨q,hq⟩:=OL s l 0 0
 rw[hnew] at hq
 have hlt:r<w.heap.size:=(IM.1 hnow).1
 obtain⟨h1,h2⟩:=ZT.of (r:=r) (ob:=Dj (l++[s])) (w1:={ w with heap:=w.heap.setIfInBounds r (Dj (l++[s]))}) (hC.1.link _ _ _ hf.wi) (fun b hb=>by simp[Ne.symm hb]) (by simp[hlt]) (by simp) rfl rfl rfl hC.1.new hM hobj hown
 have:=hk E0 _ g a _ B ⟨h1,Nat.le_of_eq hf.wi.rep.n⟩ ⟨h2,hf.env,hf.defers⟩ hB
 have hrun:(Instr.mapUpdate ty (.map (G r)) (.string ⟨s.toArray⟩) (.bool true)).run P w=.ok () { w with heap:=w.heap.setIfInBounds r (Dj (l++[s]))}:=by
  have hget:(getObj r).run P w=.ok (Dj l) w:=by simp[getObj,Sem.run,hnow,Dj]
  have hfk:(Instr.findKey kt (.string ⟨s.toArray⟩) (FC 0 l)).run P w=.ok none w:=by simp only[Instr.findKey,Sem.run_bind,run_underlying hkt,Result.andThen_ok,hq,Sem.run_pure];rfl
  have hck:∀b,(Instr.checkKey b 10000 kt (.string ⟨s.toArray⟩)).run P w=.ok () w:=fun b=>by
   rw[show(10000:Nat)=9999+1 from rfl];unfold Instr.checkKey;simp[run_underlying hkt]
  have hset:∀ob,(setObj r ob).run P w=.ok () { w with heap:=w.heap.setIfInBounds r ob }:=fun ob=>by simp[setObj,Sem.run,hnow,Dj]
  unfold Instr.mapUpdate
  simp only[Sem.run_bind,run_underlying hty,Result.andThen_ok,hget,Dj,hck,hfk]
  rw[hset]
  congr 3
  rw[Mo]
  simp
 unfold Oper.wp execOp
 simp only[hop,e1,e2,e3,Sem.run_bind,hrun,Result.andThen_ok]
 simp only[Sem.run_pure,Oper.upon,ht]
 exact this
end
def iy(L:List yw):yw:=match L with
 |o::_=>o
 |[]=>⟨none,.makeMap 0 none,0,"", #[],none⟩
theorem YE{L:List yw}(h:L.isEmpty=O):L=iy L::L.tail:=by cases L with
 |nil=>simp at h
 |cons o L=>rfl
def rt:Op->Bool|.makeMap _ none=>true|_=>false
def kb:Op->yz|.makeMap t _=>t|.lookup t _ _ _=>t|.mapUpdate t _ _ _=>t|_=>0
def rr(sm sk:Nat):Op->Bool|.lookup _ (.tmp a) (.tmp b) false=>a==sm&&b==sk|_=>false
def ru(sm sk:Nat):Op->Bool|.mapUpdate _ (.tmp a) (.tmp b) (.const (.bool true))=>a==sm&&b==sk|_=>false
theorem Aio{o:Op}(h:rt o=J):o=.makeMap (kb o) none:=by
 unfold rt at h;split at h
 ·rfl
 ·exact absurd h (by simp)
theorem Ais{sm sk:Nat}{o:Op}(h:rr sm sk o=J):o=.lookup (kb o) (.tmp sm) (.tmp sk) false:=by
 unfold rr at h;split at h
 ·simp at h;simp[kb,h]
 ·exact absurd h (by simp)
theorem Ail{sm sk:Nat}{o:Op}(h:ru sm sk o=J):o=.mapUpdate (kb o) (.tmp sm) (.tmp sk) (.const (.bool true)):=by
 unfold ru at h;split at h
 ·simp at h;simp[kb,h]
 ·exact absurd h (by simp)
def py(P:x4)(ty:yz):Bool:=match P.underlying ty with
 |some (.map kt et)=>(match P.underlying kt with
  |some .string=>true
  |_=>false)&&(match P.info? et with
  |some inf=>(match inf.zero with
   |some (.bool false)=>true
   |_=>false)
  |_=>false)
 |_=>false
theorem AdP{P:x4}{ty:yz}(h:py P ty=J):∃kt et inf,P.underlying ty=G (.map kt et)/\P.underlying kt=G .string/\P.info? et=G inf/\inf.zero=G (.bool false):=by
 unfold py at h
 split at h
 ·rename_i kt et h1
  simp only[HR] at h
  obtain⟨h2,h3⟩:=h
  split at h2
  ·rename_i h4
   split at h3
   ·rename_i inf h5
    split at h3
    ·rename_i h6
     exact⟨kt,et,inf,h1,h4,h5,h6⟩
    ·exact absurd h3 (by simp)
   ·exact absurd h3 (by simp)
  ·exact absurd h2 (by simp)
 ·exact absurd h (by simp)
theorem Tn(n:Nat)(E:List (Nat×D))(t:Nat)(d:D):b9 n (E++[(t,d)])=(b9 n E).set t d:=by simp[b9,List.foldl_append]
section
variable {P : x4} {R : List D -> St -> Prop} {k : List KI} {nt : Nat} {E : List (Nat × D)} {σ : St} {ops : Array yw} {L0 : List yw}
theorem Ru{m:Nat}(t:Nat)(h0:L0.isEmpty=O)(hg:C0 (b9 nt E) ops (iy L0)=G true)(ht:(iy L0).dst=G t)(hop:rt (iy L0).op=J)
  (hk:∀r:Nat,Cp (CS (I σ.H) r []) P R k ops L0.tail (b9 nt (E++[(t,.raw (.map (G r)))])) σ):Cp (CN m) P R k ops L0 (b9 nt E) σ:=by
 rw[YE h0]
 exact UM t hg ht (Aio hop) fun r=>by rw[←Tn];exact hk r
theorem UN{m:Nat}(t sm sk:Nat){r:Nat}{s:List UInt8}{l:List (List UInt8)}(h0:L0.isEmpty=O)(hg:C0 (b9 nt E) ops (iy L0)=G true)(ht:(iy L0).dst=G t)(hop:rr sm sk (iy L0).op=J)
  (hty:py P (kb (iy L0).op)=J) (hm:(b9 nt E)[sm]?=G (.raw (.map (G r)))) (hs:(b9 nt E)[sk]?=G (.v (.str s)))
  (hk:Cp (CS m r l) P R k ops L0.tail (b9 nt (E++[(t,.v (.bool (l.contains s)))])) σ):Cp (CS m r l) P R k ops L0 (b9 nt E) σ:=by
 obtain⟨kt,et,inf,h1,h2,h3,h4⟩:=AdP hty
 rw[YE h0]
 exact Xw t sm sk hg ht (Ais hop) h1 h2 h3 h4 hm hs (by rw[←Tn];exact hk)
theorem UL{m:Nat}(sm sk:Nat){r:Nat}{s:List UInt8}{l:List (List UInt8)}(h0:L0.isEmpty=O)(hg:C0 (b9 nt E) ops (iy L0)=G true)(ht:(iy L0).dst=none)(hop:ru sm sk (iy L0).op=J)
  (hty:py P (kb (iy L0).op)=J) (hm:(b9 nt E)[sm]?=G (.raw (.map (G r)))) (hs:(b9 nt E)[sk]?=G (.v (.str s))) (hnew:l.contains s=O)
  (hk:Cp (CS (I σ.H) r (l++[s])) P R k ops L0.tail (b9 nt E) σ):Cp (CS m r l) P R k ops L0 (b9 nt E) σ:=by
 obtain⟨kt,et,inf,h1,h2,h3,h4⟩:=AdP hty
 rw[YE h0]
 exact Xv sm sk hg ht (Ail hop) rfl h1 h2 hm hs hnew hk
end
section
variable {P : x4} {fn : yu} {d : D} {σ' : St} {m r : Nat} {l : List (List UInt8)} {k : List KI} {E : List (Nat × D)} {σ : St}
theorem X3(hm:P.follows .mixedOrders=J)(nt:Nat)(im:List Nat)(rg i:Nat){ops:Array yw}{L:List yw}(s:Sc)
  (h:B9 (b9 nt E) fun env=>W6 P im rg ops (fun L sl σ=>It (Cp (CS m r l) P (fun env σ1=>AL P fn env σ1 d σ') (k++[]) ops L (b9 nt sl) σ)) L i s env σ fun s env σ=>vc (CS m r l) m P (fun env σ1=>AL P fn env σ1 d σ') (jx P fn.results.toList d σ') nt im [] 10000 s k env σ):
  Cp (CS m r l) P (fun env σ1=>AL P fn env σ1 d σ') k ops L (b9 nt E) σ:=by
 have:=Cb hm (wu m r l) m (fun _ _ h=>h.2) nt im rg i s h
 rwa[IG] at this
theorem wc(hm:P.follows .mixedOrders=J)(nt:Nat)(im:List Nat)(s:Sc)
  (h:B9 (b9 nt E) fun env=>vc (CS m r l) m P (fun env σ1=>AL P fn env σ1 d σ') (jx P fn.results.toList d σ') nt im [] 10000 (.h .n s) k env σ):
  AI (CS m r l) P (fun env σ1=>AL P fn env σ1 d σ') k (b9 nt E) σ:=by
 have:=x6 (T:=[]) hm (wu m r l) m (fun _ _ h=>h.2) nt im (.h .n s) h
 rwa[IG] at this
end
end Go.Nv

namespace Go.Proofs.YthmjfmacdlhfjaaGreat
open Go.Dv Go.Nv
set_option maxRecDepth 20000
open List (headD take)
open Go.IntKind (u64)
open Go.IntKind renaming wrap → yr, i64 → yq
open List renaming length → I, map → U, drop → W
open Option renaming some → G
open Bool renaming true → J, false → O
open Decidable renaming decide → Y
open Int renaming toNat → Z
open Go.Dv.V renaming list → ai, str → ae, agg → ab, int → aa, ref → bz, fn → bw, nils → bv, bool → bu
open Go.Dv.D renaming v → bt, acc → br, ptr → bq, arr → bo, gro → bm, tup → bl, undef → bk, dagg → bj
open Go.Dv.St renaming mk → bi
open Go.Dv.KI renaming blk → bh
open _root_.ByteArray renaming mk → bg
open Go renaming Operand → x5, Program → x4, TypeId → yz, World → yy, Value → yx, Oper → yw, FuncId → yv, Func → yu, IntKind → yt
noncomputable abbrev Amo:=Tryz.f199
noncomputable abbrev Amu:=Tryz.f235
noncomputable abbrev Ako:=Tryz.f201
def QP(c:UInt8):Bool:=Y ((c.toNat:Int)>=97)&&Y ((c.toNat:Int)<=122)
def i4(c:UInt8):Bool:=Y ((c.toNat:Int)>=48)&&Y ((c.toNat:Int)<=57)
def DL(c:UInt8):Bool:=QP c||(i4 c||((c.toNat:Int)==95))
theorem Tx(c:UInt8):F0 199 [.v (vb c)] (db (QP c)):=by
 refine sv Amo 9 [] (.b .r .r) ((Y ((↑(UInt8.toNat c):Int)>=97)=J->db (Y ((↑(UInt8.toNat c):Int)<=122))=db (QP c))/\(Y ((↑(UInt8.toNat c):Int)>=97)=O->db O=db (QP c))) ?_
 refine⟨fun h=>?_,fun h=>?_⟩<;>simp[QP, *]
theorem AcR(c:UInt8):F0 235 [.v (vb c)] (db (i4 c)):=by
 refine sv Amu 9 [] (.b .r .r) ((Y ((↑(UInt8.toNat c):Int)>=48)=J->db (Y ((↑(UInt8.toNat c):Int)<=57))=db (i4 c))/\(Y ((↑(UInt8.toNat c):Int)>=48)=O->db O=db (i4 c))) ?_
 refine⟨fun h=>?_,fun h=>?_⟩<;>simp[i4, *]
theorem XG(c:UInt8):F0 201 [.v (vb c)] (db (DL c)):=by
 refine sv Ako 13 [] (.c (db (QP c))<|.b .r<|.c (db (i4 c))<|.b .r .r) (F0 199 [bt (aa IntKind.u8 (↑(UInt8.toNat c):Int))] (db (QP c))/\(QP c=J->db J=db (DL c))/\(QP c=O->F0 235 [bt (aa IntKind.u8 (↑(UInt8.toNat c):Int))] (db (i4 c))/\(i4 c=J->db J=db (DL c))/\(i4 c=O->db ((↑(UInt8.toNat c):Int)==95)=db (DL c)))) ?_
 refine⟨Tx c,fun h=>?_,fun h=>⟨AcR c,fun h2=>?_,fun h2=>?_⟩⟩<;>simp[DL, *]
noncomputable abbrev ox:=Tryz.f200
noncomputable def mp:=yj ox
def Hj(p:UInt8->Bool):List UInt8->Nat
 |[]=>0
 |c::s=>if p c then Hj p s+1 else 0
theorem e7(F:yv)(p:UInt8->Bool)(s:List UInt8)(hs:I s<=1000000)(hp:∀c∈s,F0 F [.v (vb c)] (db (p c)))(n:Nat):∀k:Nat,I s-k=n->k<=I s->
  Rn PP ox 0 (di ((k+Hj p (s.drop k):Nat):Int)) bf ([kl mp [1,1,0,0,0],.blk 0,kc mp [1,1,1]]++[]) (b9 20 [(0,ds s),(1,.v (.fn F [] [])),(5,di k)]) bf:=by
 induction n using Nat.strongRecOn with
 |_ n ih=>
 intro k hn hk0
 refine lv 20 [] (.b (.e fun c:UInt8=>.y c<|.c (db (p c))<|.b (.l [ke 0,ke 1,ch 5 (di (k+1:Nat))]) .r) (.k .r)) ((Y ((k:Int)<(I s:Int))=J->∃a,0<=(k:Int)/\s[Z (k:Int)]?=G a/\Aa PP F [bt (aa IntKind.u8 (↑(UInt8.toNat a):Int))] (bi [] []) (db (p a)) (bi [] [])/\(p a=J->di (yr yq ((k:Int)+1))=di (↑(k+1):Int)/\Nv.It (AI (CN 0) PP (fun env σ1=>AL PP ox env σ1 (di (↑(k+Hj p (W k s)):Int)) bf) [kl mp [1,1,0,0,0],bh 0,kc mp [1,1,1]] (b9 20 [(0,bt (ae s)),(1,bt (bw F [] [])),(5,di (↑(k+1):Int))]) bf))/\(p a=O->di (k:Int)=di (↑(k+Hj p (W k s)):Int)))/\(Y ((k:Int)<(I s:Int))=O->di (k:Int)=di (↑(k+Hj p (W k s)):Int))) ⟨fun h=>?_,fun h=>?_⟩
 ·have hk:k<I s:=by simpa using h
  have hx:s[k]?=G s[k]:=HQ hk
  have hih:=ih (I s- (k+1)) (by omega) (k+1) rfl hk
  rw[Ih hk]
  generalize s[k]=c at hx⊢
  refine⟨c,by omega,by simpa using hx,by simpa using hp c (HW hx),fun h2=>⟨As,⟨?_⟩⟩,fun h2=>?_⟩
  ·simp only[Hj,h2,Jj]
   rw[show k+(Hj p (s.drop (k+1))+1)=k+1+Hj p (s.drop (k+1)) by omega]
   exact hih
  ·simp[Hj,h2]
 ·have hk:I s<=k:=by simpa using h
  rw[Im hk];simp[Hj]
theorem Abk(F:yv)(p:UInt8->Bool)(s:List UInt8)(hs:I s<=1000000)(hp:∀c∈s,F0 F [.v (vb c)] (db (p c))):F0 200 [ds s,.v (.fn F [] [])] (di (Hj p s)):=by
 refine sv ox 20 [] (.l [ke 0,ke 1,ch 5 (di (0:Nat))]) (Q (di 0)/\I0 ox (I bf.H) (di (↑(Hj p s):Int)) bf [kl mp [1,1,0,0,0],bh 0,kc mp [1,1,1]] (b9 20 [(0,bt (ae s)),(1,bt (bw F [] [])),(5,di (↑0:Int))]) bf) ⟨rfl,⟨?_⟩⟩
 have:=e7 F p s hs hp _ 0 rfl (by omega)
 simpa using this
noncomputable abbrev Akf:=Tryz.f158
def En(s:List UInt8):Bool:=(s !=[])&&(Y ((I s:Int)<=12)&&(QP (s.headD 0)&&((Hj DL s:Int)==I s)))
theorem Afe{s:List UInt8}(h:Y ((I s:Int)<=12)=J):I s<=1000000:=by
 have h:=Ib h
 omega
theorem Wr(s:List UInt8):F0 158 [ds s] (db (En s)):=by
 refine sv Akf 22 [] (.b (.b (.y (s.headD 0)<|.c (db (QP (s.headD 0)))<|.b (.c (di (Hj DL s)) .r) .r) .r) .r) (((!s==(bg #[]).data.toList)=J->(Y ((I s:Int)<=12)=J->iz 0<=0/\s[Z 0]?=G (headD s 0)/\F0 199 [bt (aa IntKind.u8 (↑(UInt8.toNat (headD s 0)):Int))] (db (QP (headD s 0)))/\(QP (headD s 0)=J->F0 200 [bt (ae s),bt (bw 201 [] [])] (di (↑(Hj DL s):Int))/\db ((↑(Hj DL s):Int)==(I s:Int))=db (En s))/\(QP (headD s 0)=O->db O=db (En s)))/\(Y ((I s:Int)<=12)=O->db O=db (En s)))/\((!s==(bg #[]).data.toList)=O->db O=db (En s))) ⟨fun h1=>⟨fun h2=>⟨by simp,?_,Tx _,fun h3=>⟨Abk _ DL s (Afe h2) fun c _=>XG c,?_⟩,fun h3=>?_⟩,fun h2=>?_⟩,fun h1=>?_⟩
 ·cases s with
  |nil=>simp[pi] at h1
  |cons a s=>rfl
 all_goals simp_all [En]
 all_goals omega
theorem K0{l:List (List UInt8)}{k:Nat}{s:List UInt8}(h:l[k]?=G s):(l.map ae)[Z (k:Int)]?=G (.str s):=by simp[h]
noncomputable abbrev n8:=Tryz.f236
noncomputable def mw:=yj n8
theorem Ac5(l:List (List UInt8))(v:List UInt8)(hl:I l<=1000000)(n:Nat):∀k:Nat,I l-k=n->
  Rn PP n8 0 (di (c7 (· ==v) (l.drop k) k)) bf ([kl mw [1,0,1,0,0],.blk 0,kc mw [1,1]]++[]) (b9 19 [(0,dl (l.map ae)),(1,.v (ae v)),(7,di (I l)),(8,di k)]) bf:=by
 induction n using Nat.strongRecOn with
 |_ n ih=>
 intro k hn
 refine lv 19 [] (.b (.e fun x:List UInt8=>.x (ae x)<|.b .r (.l [ke 0,ke 1,ke 7,ch 8 (di (k+1:Nat))])) .r) ((Y ((k:Int)<(I l:Int))=J->∃a,0<=(k:Int)/\(U ae l)[Z (k:Int)]?=G (ae a)/\((v==a)=J->di (k:Int)=di (c7 (fun x=>x==v) (W k l) k))/\((v==a)=O->di (yr yq ((k:Int)+1))=di (↑(k+1):Int)/\Nv.It (AI (CN 0) PP (fun env σ1=>AL PP n8 env σ1 (di (c7 (fun x=>x==v) (W k l) k)) bf) [kl mw [1,0,1,0,0],bh 0,kc mw [1,1]] (b9 19 [(0,bt (ai (U ae l))),(1,bt (ae v)),(7,di (I l:Int)),(8,di (↑(k+1):Int))]) bf)))/\(Y ((k:Int)<(I l:Int))=O->di (-1)=di (c7 (fun x=>x==v) (W k l) k))) ⟨fun h=>?_,fun h=>?_⟩
 ·have hk:k<I l:=by simpa using h
  have hx:l[k]?=G l[k]:=HQ hk
  rw[Ih hk]
  generalize l[k]=x at hx⊢
  refine⟨x,by omega,K0 hx,fun hf=>?_,fun hf=>⟨As,⟨?_⟩⟩⟩
  ·have:v=x:=by simpa using hf
   subst this;simp[c7]
  ·have h2:v≠x:=by simpa using hf
   have:(x==v)=O:=by simpa using fun e=>h2 e.symm
   simp only[c7,this]
   exact ih (I l- (k+1)) (by omega) (k+1) rfl
 ·have hk:I l<=k:=by simpa using h
  rw[Im hk];rfl
theorem Ac4(l:List (List UInt8))(v:List UInt8)(hl:I l<=1000000):F0 236 [dl (l.map ae),.v (ae v)] (di (c7 (· ==v) l 0)):=by
 refine sv n8 19 [] (.l [ke 0,ke 1,ch 7 (di (I l)),ch 8 (di (0:Nat))]) (di (I (U ae l):Int)=di (I l:Int)/\Q (di 0)/\I0 n8 (I bf.H) (di (c7 (fun x=>x==v) l 0)) bf [kl mw [1,0,1,0,0],bh 0,kc mw [1,1]] (b9 19 [(0,dl (U ae l)),(1,bt (ae v)),(7,di (I l:Int)),(8,di (↑0:Int))]) bf) ⟨by simp,rfl,⟨?_⟩⟩
 exact Ac5 l v hl _ 0 rfl
noncomputable abbrev AkG:=Tryz.f202
theorem Zi(l:List (List UInt8))(v:List UInt8)(hl:I l<=1000000):F0 202 [dl (l.map ae),.v (ae v)] (db (l.any (· ==v))):=by
 exact sv AkG 9 [] (.c (di (c7 (· ==v) l 0)) .r) (_/\db (Y (c7 (fun x=>x==v) l 0>=0))=db (List.any l fun x=>x==v)) ⟨Ac4 l v hl,by rw[←Kz]⟩
def mg:List (List UInt8):=[[109,111,100,101,108],[115,116,97,116,101,115],[112,108,97,99,101,115],[108,101,116,116,101,114,115],[108,101,118,101,108,115],[97,103,101],[114,117,108,101],[110,101,101,100],[103,105,118,101],[109,111,118,101],[101,109,112,116,121],[115,101,110,100],[114,101,99,101,105,118,101],[112,97,116,104],[110,101,120,116],[116,97,107,101],[109,97,107,101],[115,116,97,114,116]]
def Vu(s:List UInt8):Bool:=mg.any (· ==s)
noncomputable abbrev fKw:=Tryz.f159
theorem AfQ(s:List UInt8):F0 159 [ds s] (db (Vu s)):=by
 exact sv fKw 6 [] (.c (db (Vu s)) .r) (_/\Q (db (Vu s))) ⟨Zi mg s (by decide),rfl⟩
noncomputable abbrev YO:=Tryz.f106
noncomputable def E3:=yj YO
def fu(used:List (List UInt8)):List (List UInt8)->Bool
 |[]=>true
 |s::l=>En s&&(!Vu s&&(!used.contains s&&fu (used++[s]) l))
def BR(m:ba):List (List UInt8):=[m.aw,m.ay,m.ax].flatten
def Dq(m:ba):List (List UInt8):=BR m++m.av.map cq.name
def Db(m:ba):Bool:=fu [] (Dq m)
abbrev U0(l:List (List UInt8)):D:=.acc 1 (l.map ae)
abbrev i2(l:List (List UInt8)):St:=⟨[],[(1,1,l.map ae)]⟩
theorem Yu(r:Nat)(l:List (List UInt8))(hl:I l<=1000000)(n:Nat):∀k:Nat,I l-k=n->k<=I l->
  AI (CS 0 r (l.take k)) PP (fun env σ1=>AL PP YO env σ1 (db (fu (l.take k) (l.drop k))) bf) [kl E3 [1,1,1,1,0,1,0,0],.blk 2,kc E3 [1,1,1,1,1]] (b9 52 [(3,.raw (.map (G r))),(31,dl (l.map ae)),(32,di (I l)),(33,di k)]) bf:=by
 induction n using Nat.strongRecOn with
 |_ n ih=>
 intro k hn hk0
 refine wc mixed 52 [1] (.b (.e fun s:List UInt8=>.x (.str s)<|.c (db (En s))<|.b .r (.c (db (Vu s))<|.b .r (.h (.q 11 10)<|.h (.s [ke 3,ke 8,ke 31,ke 32,ke 33,ke 44,ke 45,ke 46]) .z))) .r) ?_
 refine dq (by kernel_rfl:((Y ((k:Int)<(I l:Int))=J->∃a,0<=(k:Int)/\(U ae l)[Z (k:Int)]?=G (ae a)/\Aa PP 158 [bt (ae a)] (bi [] []) (db (En a)) (bi [] [])/\((!En a)=J->db O=db (fu (take k l) (W k l)))/\((!En a)=O->Aa PP 159 [bt (ae a)] (bi [] []) (db (Vu a)) (bi [] [])/\(Vu a=J->db O=db (fu (take k l) (W k l)))/\(Vu a=O->Nv.It (Cp (CS 0 r (take k l)) PP (fun env σ1=>AL PP YO env σ1 (db (fu (take k l) (W k l))) bf) [kc E3 [1,1,1,1,0,1,0,0,1,1,0,0,1,0,1],kc E3 [1,1,1,1,0,1,0,0,1,1,0,0,1,1],bh 3,kc E3 [1,1,1,1,0,1,0,0,1,1,1],kl E3 [1,1,1,1,0,1,0,0],bh 2,kc E3 [1,1,1,1,1]] (De (sub E3 [1,1,1,1,0,1,0,0,1,1,0,0,1,0,0])) (W 10 (De (sub E3 [1,1,1,1,0,1,0,0,1,1,0,0,1,0,0])).toList) (b9 52 [(3,D.raw (Value.map (G r))),(8,bt (ae a)),(31,bt (ai (U ae l))),(32,di (I l:Int)),(33,di (k:Int)),(44,db O),(45,D.raw (Value.map (G r))),(46,bt (ae a))]) bf))))/\(Y ((k:Int)<(I l:Int))=O->db J=db (fu (take k l) (W k l))))=_) ?_
 refine⟨fun h=>?_,fun h=>?_⟩
 ·have hk:k<I l:=by simpa using h
  have hx:l[k]?=G l[k]:=HQ hk
  have hih:=ih (I l- (k+1)) (by omega) (k+1) rfl hk
  rw[List.take_succ_eq_append_getElem hk] at hih
  rw[Ih hk]
  generalize l[k]=s at hx hih⊢
  refine⟨s,by omega,by simp[hx],Wr s,fun h1=>?_,fun h1=>⟨AfQ s,fun h2=>?_,fun h2=>⟨?_⟩⟩⟩
  ·simp only[IJ,Bool.not_eq_eq_eq_not,Bool.not_true] at h1;simp[fu,h1]
  ·simp[fu,h2]
  ·have h1:En s=J:=by simpa using h1
   refine UN (s:=s) 47 45 46 rfl (by kernel_rfl) (by kernel_rfl) (by kernel_rfl) (by kernel_rfl) (by kernel_rfl) (by kernel_rfl) ?_
   refine X3 mixed 52 [1] 11 11 (.b .r (.h (.q 13 2)<|.h (.s [ke 3,ke 8,ke 31,ke 32,ke 33,ke 49,ke 50]) .z)) ?_
   refine dq (by kernel_rfl:((List.contains (take k l) s=J->db O=db (fu (take k l) (s::W (k+1) l)))/\(List.contains (take k l) s=O->Nv.It (Cp (CS 0 r (take k l)) PP (fun env σ1=>AL PP YO env σ1 (db (fu (take k l) (s::W (k+1) l))) bf) [bh 3,kc E3 [1,1,1,1,0,1,0,0,1,1,1],kl E3 [1,1,1,1,0,1,0,0],bh 2,kc E3 [1,1,1,1,1]] (De (sub E3 [1,1,1,1,0,1,0,0,1,1,0,0,1,1])) (W 2 (De (sub E3 [1,1,1,1,0,1,0,0,1,1,0,0,1,1])).toList) (b9 52 [(3,D.raw (Value.map (G r))),(8,bt (ae s)),(31,bt (ai (U ae l))),(32,di (I l:Int)),(33,di (k:Int)),(49,D.raw (Value.map (G r))),(50,bt (ae s))]) bf)))=_) ?_
   refine⟨fun h3=>?_,fun h3=>⟨?_⟩⟩
   ·simp only[fu,h3,Bool.not_true,Iz,J3]
   ·refine UL (s:=s) 49 50 rfl (by kernel_rfl) (by kernel_rfl) (by kernel_rfl) (by kernel_rfl) (by kernel_rfl) (by kernel_rfl) h3 ?_
    refine X3 mixed 52 [1] 13 3 (.ls [ke 3,ke 31,ke 32,ch 33 (di (k+1:Nat))] bf) ?_
    refine dq (by kernel_rfl:(di (yr yq ((k:Int)+1))=di (↑(k+1):Int)/\Nv.It (AI (CS (I bf.H) r (take k l++[s])) PP (fun env σ1=>AL PP YO env σ1 (db (fu (take k l) (s::W (k+1) l))) bf) [kl E3 [1,1,1,1,0,1,0,0],bh 2,kc E3 [1,1,1,1,1]] (b9 52 [(3,D.raw (Value.map (G r))),(31,bt (ai (U ae l))),(32,di (I l:Int)),(33,di (↑(k+1):Int))]) bf))=_) ?_
    refine⟨As,⟨?_⟩⟩
    simp only[fu,h1,h2,h3,Bool.not_false,I2]
    exact hih
 ·have hk:I l<=k:=by simpa using h
  rw[Im hk];rfl
theorem Yv(r:Nat)(m:ba)(b:List (List UInt8))(hm:I m.av<=1000000)(hb:I b+I m.av<=1000000)(n:Nat):∀k:Nat,I m.av-k=n->k<=I m.av->
  AI (CS 0 r []) PP (fun env σ1=>AL PP YO env σ1 (db (fu [] (b++m.av.map cq.name))) bf) [kl E3 [1,1,1,0,1,0,0],.blk 0,kc E3 [1,1,1,1]] (b9 52 [(3,.raw (.map (G r))),(4,U0 (b++(m.av.take k).map cq.name)),(19,dl (m.av.map AD)),(20,di (I m.av)),(21,di k)]) (i2 (b++(m.av.take k).map cq.name)):=by
 induction n using Nat.strongRecOn with
 |_ n ih=>
 intro k hn hk0
 refine wc mixed 52 [1] (.b (.e fun x:cq=>.h (.xs (AD x))<|.w<|.ls [ke 3,ch 4 (U0 (b++(m.av.take (k+1)).map cq.name)),ke 19,ke 20,ch 21 (di (k+1:Nat))] (i2 (b++(m.av.take (k+1)).map cq.name))) (.h (.q 8 0)<|.h (.un 4)<|.ls [ke 3,ch 31 (dl ((b++m.av.map cq.name).map ae)),ch 32 (di (I (b++m.av.map cq.name))),ch 33 (di (0:Nat))] bf)) ?_
 refine dq (by kernel_rfl:((Y ((k:Int)<(I m.av:Int))=J->∃a,14=14/\0<=(k:Int)/\(U AD m.av)[Z (k:Int)]?=G (AD a)/\U ae (b++U cq.name (take k m.av))=U ae (b++U cq.name (take k m.av))/\A9 (I (U ae (b++U cq.name (take k m.av)))+I (ae a.name::nV)) 16/\(∀(y:V),y∈ [ae a.name]->V.size y=1)/\br 1 (U ae (b++U cq.name (take k m.av))++[ae a.name])=U0 (b++U cq.name (take (k+1) m.av))/\di (yr yq ((k:Int)+1))=di (↑(k+1):Int)/\[(1,1,U ae (b++U cq.name (take k m.av))++ae a.name::nV)]=[(1,1,U ae (b++U cq.name (take (k+1) m.av)))]/\Nv.It (AI (CS 0 r []) PP (fun env σ1=>AL PP YO env σ1 (db (fu [] (b++U cq.name m.av))) bf) [kl E3 [1,1,1,0,1,0,0],bh 0,kc E3 [1,1,1,1]] (b9 52 [(3,D.raw (Value.map (G r))),(4,U0 (b++U cq.name (take (k+1) m.av))),(19,bt (ai (U AD m.av))),(20,di (I m.av:Int)),(21,di (↑(k+1):Int))]) (i2 (b++U cq.name (take (k+1) m.av)))))/\(Y ((k:Int)<(I m.av:Int))=O->bt (ai (U ae (b++U cq.name (take k m.av))))=dl (U ae (b++U cq.name m.av))/\di (I (U ae (b++U cq.name (take k m.av))):Int)=di (I (b++U cq.name m.av):Int)/\di 0=di (↑0:Int)/\Nv.It (AI (CS 0 r []) PP (fun env σ1=>AL PP YO env σ1 (db (fu [] (b++U cq.name m.av))) bf) [kl E3 [1,1,1,1,0,1,0,0],bh 2,kc E3 [1,1,1,1,1]] (b9 52 [(3,D.raw (Value.map (G r))),(31,dl (U ae (b++U cq.name m.av))),(32,di (I (b++U cq.name m.av):Int)),(33,di (↑0:Int))]) bf)))=_) ?_
 refine⟨fun h=>?_,fun h=>?_⟩
 ·have hk:k<I m.av:=by simpa using h
  have hx:m.av[k]?=G m.av[k]:=HQ hk
  have hih:=ih (I m.av- (k+1)) (by omega) (k+1) rfl hk
  have hl:I (b++(m.av.take k).map cq.name)<=1000000:=by simp;omega
  have ht:b++(m.av.take (k+1)).map cq.name=b++(m.av.take k).map cq.name++[(m.av[k]).name]:=by rw[List.take_succ_eq_append_getElem hk,Jq,IZ];rfl
  rw[ht] at hih⊢
  generalize m.av[k]=x at hx hih⊢
  generalize b++(m.av.take k).map cq.name=p at hl hih⊢
  refine⟨x,rfl,by omega,by simp[hx],rfl,?_,by simp[V.size],by simp,As,by simp,⟨hih⟩⟩
  exact⟨by simp only[HP,HV,HZ];omega,by simp only[HP,HV,HZ];omega⟩
 ·have hk:I m.av<=k:=by simpa using h
  rw[Iw hk]
  refine⟨rfl,by simp,rfl,⟨?_⟩⟩
  exact Yu r _ (by simpa using hb) _ 0 rfl (by omega)
theorem O9(m:ba)(h1:I (BR m)+I m.av<=1000000):F0 106 [Ax m] (db (Db m)):=by
 refine sv YO 52 [1] (.h (.q 1 0)<|.h (.s [ke 1]) .z) (Nv.It (Cp (CN (I bf.H)) PP (fun env σ1=>AL PP YO env σ1 (db (Db m)) bf) [kc E3 [1,1]] (De (sub E3 [1,0])) (W 0 (De (sub E3 [1,0])).toList) (b9 52 [(1,bt (bz (AE m)))]) bf)) ⟨Ru 9 rfl (by kernel_rfl) (by kernel_rfl) (by kernel_rfl) fun r=>?_⟩
 refine X3 mixed 52 [1] 1 1 (.h (.ck 1 1 1 ((BR m).map ae))<|.ls [ke 3,ch 4 (U0 (BR m++(m.av.take 0).map cq.name)),ke 19,ch 20 (di (I m.av)),ch 21 (di (0:Nat))] (i2 (BR m++(m.av.take 0).map cq.name))) ?_
 refine dq (by kernel_rfl:(Aa PP 157 [bt (ai [cf m.aw,cf m.ay,cf m.ax])] (bi [] []) (br 1 (U ae (BR m))) (bi [] [(1,1,U ae (BR m))])/\br 1 (U ae (BR m))=U0 (BR m++U cq.name (take 0 m.av))/\di (I (U AD m.av):Int)=di (I m.av:Int)/\di 0=di (↑0:Int)/\[(1,1,U ae (BR m))]=[(1,1,U ae (BR m++[]))]/\Nv.It (AI (CS (I bf.H) r []) PP (fun env σ1=>AL PP YO env σ1 (db (Db m)) bf) [kl E3 [1,1,1,0,1,0,0],bh 0,kc E3 [1,1,1,1]] (b9 52 [(3,D.raw (Value.map (G r))),(4,U0 (BR m++U cq.name (take 0 m.av))),(19,bt (Ht m.av)),(20,di (I m.av:Int)),(21,di (↑0:Int))]) (i2 (BR m++U cq.name (take 0 m.av)))))=_) ?_
 refine⟨Zl [m.aw,m.ay,m.ax] (by simp only[HV,HZ];omega) (by show(BR m).length<=_;omega),by simp,by simp,rfl,by simp,⟨?_⟩⟩
 exact Yv r m (BR m) (by omega) h1 _ 0 rfl (by omega)
end Go.Proofs.YthmjfmacdlhfjaaGreat
