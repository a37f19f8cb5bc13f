/-
  A part of the proof.
-/
import Derived.Test.YtkkplhjidondkaaGreatZb
import Derived.Test.YtkkplhjidondkaaGreatZa
namespace Go.Nv
open Go.Dv
open List (replicate)
open Go.IntKind (u64)
open Go.IntKind renaming wrap → yu, i64 → yt
open List renaming length → I, map → U, drop → W
open Option renaming some → G
open Bool renaming true → J, false → O
open Decidable renaming decide → Y
open Int renaming toNat → Z
open Go.Dv.V renaming list → ai, str → ae, agg → ab, int → aa, ref → bz, fn → bw, nils → bv, bool → bu
open Go.Dv.D renaming v → bt, acc → br, ptr → bq, arr → bo, gro → bm, tup → bk, undef → bj, dagg → bi
open Go.Dv.St renaming mk → bh
open Go.Dv.KI renaming blk → bf
open _root_.ByteArray renaming mk → bc
open Go renaming Operand → x8, Program → x7, TypeId → x6, World → x5, Value → yz, Oper → yy, FuncId → yx, Func → yw, IntKind → yv
inductive DK where
 |q
 |l (j q off n:Nat)
 |e
def DK.eff:DK->Bool
 |.e=>true
 |_=>false
noncomputable def Anv(rec:List DK)(j:Nat):Option Nat:=
 List.rec (motive:=fun _=>Nat->Nat->Option Nat) (fun _ _=>none) (fun d _ ih i j=>Bool.rec (ih (Nat.succ i) j) (Nat.rec (motive:=fun _=>Option Nat) (G i) (fun j _=>ih (Nat.succ i) j) j) d.eff) rec 0 j
noncomputable def Aj3(ops:Array yy)(rec:List DK)(i j:Nat):Option Nat:=
 List.rec (motive:=fun _=>Nat->Option Nat) (fun _=>none) (fun _ _ ih j=>match Anv rec j with
  |none=>none
  |some e=>cond (((Fw [] ops.toList).getD e 0).testBit i) (G j) (ih (Nat.succ j))) rec j
noncomputable def Ap4(lim:Nat->Nat->Option Nat)(i:Nat):DK->Ef
 |.q=>(false,none)
 |.l j _ _ _=>(false,lim i j)
 |.e=>(true,none)
noncomputable def PQ(lim:Nat->Nat->Option Nat):Nat->List DK->List Ef
 |_,[]=>[]
 |i,d::ds=>Ap4 lim i d::PQ lim (i+1) ds
noncomputable def SR(q off n j:Nat)(c0:Option (List D))(lim:Option Nat)(sts:List St)(c:Nat):Prop:=
 List.rec (motive:=fun _=>Nat->Prop) (fun _=>True) (fun τ _ ih c=>Bool.rec
  (match lim with
   |some b=>Bool.rec (ih (Nat.succ c)) (Cb τ q off n=c0/\ih (Nat.succ c)) (Nat.ble c b)
   |none=>Cb τ q off n=c0/\ih (Nat.succ c)) (ih (Nat.succ c)) (Nat.beq c j)) sts c
theorem UP{q off n j:Nat}{c0:Option (List D)}{lim:Option Nat}:∀{sts:List St} {c:Nat},SR q off n j c0 lim sts c->∀x τ,sts[x]?=G τ->c+x≠j->(∀b,lim=G b->c+x<=b)->Cb τ q off n=c0
 |[],c,_,x,τ,hx,_,_=>by grind
 |τ0::sts,c,h,x,τ,hx,hj,hb=>by
  have h':Bool.rec (match (generalizing:=false) lim with
   |some b=>Bool.rec (SR q off n j c0 lim sts (Nat.succ c)) (Cb τ0 q off n=c0/\SR q off n j c0 lim sts (Nat.succ c)) (Nat.ble c b)
   |none=>Cb τ0 q off n=c0/\SR q off n j c0 lim sts (Nat.succ c)) (SR q off n j c0 lim sts (Nat.succ c)) (Nat.beq c j):=h
  have rest:SR q off n j c0 lim sts (Nat.succ c):=by
   cases h1:Nat.beq c j with
   |true=>simp_all
   |false=>
    rw[h1] at h'
    cases lim with
    |none=>exact h'.2
    |some b=>
     simp only at h'
     cases h2:Nat.ble c b with
     |true=>rw[h2] at h';exact h'.2
     |false=>rw[h2] at h';exact h'
  cases x with
  |succ x=>exact UP rest x τ (by grind) (by omega) (fun b e=>by grind)
  |zero=>
   simp at hx;subst hx
   have h1:Nat.beq c j=O:=by
    cases h1:Nat.beq c j with
    |false=>rfl
    |true=>exact absurd (Ii h1) (by simpa using hj)
   rw[h1] at h'
   cases lim with
   |none=>exact h'.1
   |some b=>
    have:Nat.ble c b=J:=Nat.ble_eq_true_of_le (by simpa using hb b rfl)
    simp only[this] at h'
    exact h'.1
noncomputable def Lo(lim:Nat->Nat->Option Nat)(sts:List St)(rec:List DK)(i:Nat):Prop:=
 List.rec (motive:=fun _=>Nat->Prop) (fun _=>True) (fun d _ ih i=>match d with
  |.l j q off n=>(match sts[j]? with
   |some τ=>SR q off n j (Cb τ q off n) (lim i j) sts 0/\ih (Nat.succ i)
   |none=>False)
  |_=>ih (Nat.succ i)) rec i
def MG:List DK->Bool
 |[]=>true
 |.l .. ::_=>false
 |_::rec=>MG rec
theorem KK{lim:Nat->Nat->Option Nat}{sts:List St}:∀{rec:List DK} {i:Nat},MG rec=J->Lo lim sts rec i
 |[],_,_=>trivial
 |.q::rec,i,h=>KK (rec:=rec) (i:=i+1) h
 |.e::rec,i,h=>KK (rec:=rec) (i:=i+1) h
 |.l .. ::_,_,h=>by grind[MG]
noncomputable def qq(s:Sc)(K:Sc->Prop):Prop:=
 Sc.rec (motive:=fun _=>Prop) (K .z) (fun _ ih=>∃a,ih a) (fun s t _ _=>K (.b s t)) (fun h s _=>K (.h h s)) s
theorem Acc{K:Sc->Prop}:∀{s:Sc},qq s K->∃s',K s'
 |.z,h=>⟨_,h⟩
 |.e f,h=>by obtain⟨a,h⟩:=(h:∃a,qq (f a) K);exact Acc h
 |.b s t,h=>⟨_,h⟩
 |.h i s,h=>⟨_,h⟩
abbrev KD:=List DK->List St->Sc->List D->Prop
noncomputable def jb(P:x7)(im:List Nat)(ops:Array yy)(L:List yy)(rec:List DK)(sts:List St)(j:Nat)(s:Sc)(env:List D)(σ:St)(K:KD):Prop:=
 List.rec (motive:=fun _=>List DK->List St->Nat->Sc->List D->St->Prop) (fun rec sts _ s env _=>K rec sts s env)
  (fun o _ ih rec sts j s env σ=>qq s fun s=>Hw ops (I rec) o s env fun b s env=>
   Bool.rec (DE env o.dst (.tup []) fun env=>AL rec .q fun rec=>ih rec sts j s env σ)
    (VR env o.op.operands.toList fun ds=>jt P im o ds σ s fun s d σ' kd=>DE env o.dst d fun env=>match kd with
     |.pure=>AL rec .q fun rec=>ih rec sts j s env σ
     |.load q off n=>AL rec (.l j q off n) fun rec=>ih rec sts j s env σ
     |.eff=>AL rec .e fun rec=>AL sts σ' fun sts=>ih rec sts (Nat.succ j) s env σ') b) L rec sts j s env σ
noncomputable def Alo(P:x7)(im:List Nat)(ops:Array yy)(s:Sc)(env:List D)(σ:St)(K:Sc->List D->St->Prop):Prop:=
 cond (Nat.blt ops.size 1000000) (jb P im ops ops.toList [] [σ] 0 s env σ fun rec sts s env=>
  cond (Lq ops (PQ (Aj3 ops rec) 0 rec)) (match sts.getLast? with
   |some σ=>Bool.rec (Lo (Aj3 ops rec) sts rec 0/\K s env σ) (K s env σ) (MG rec)
   |none=>False) False) False
theorem GC{lim:Nat->Nat->Option Nat}{sts:List St}{d:DK}{rec:List DK}{i:Nat}(h:Lo lim sts (d::rec) i):Lo lim sts rec (i+1):=by
 grind[Lo]
theorem Df{P:x7}{o:yy}{env:List D}{σ σ':St}{d:D}(h:Ai P o (o.op.operands.toList.map (lj env)) σ d σ'):Ai P o (EJ env o) σ d σ':=by
 intro E g a w K Q hw hds hK
 refine h E g a w K Q hw ?_ hK
 unfold EJ at hds
 generalize o.op.operands.toList=l at hds⊢
 induction l with
 |nil=>rfl
 |cons x l ih=>
  obtain⟨u,us,e,h1,h2⟩:=hds
  obtain⟨rfl,rfl⟩:=e
  refine⟨_,_,rfl,?_,ih h2⟩
  cases x with
  |const u=>exact Vz
  |_=>exact h1
theorem Q3{P:x7}{im:List Nat}{ops:Array yy}{n:Nat}{K:KD}(hops:ops.size<1000000):∀{L:List yy} {rec:List DK} {sts:List St} {j:Nat} {s:Sc} {env:List D} {σ:St},I env=n->I sts=j+1->sts[j]?=G σ->jb P im ops L rec sts j s env σ K->
  ∃rec' sts' s' env' σ',K (rec++rec') (sts++sts') s' env'/\env'.length=n/\rec'.length=I L/\(sts++sts')[j+I sts']?=G σ'/\
   ∀lim:Nat->Nat->Option Nat,Lo lim (sts++sts') rec' (I rec)->∃vals,GR P ops (fun _=>sts++sts') 1000000 L env j vals (PQ lim (I rec) rec') env' (j+I sts')
 |[],rec,sts,j,s,env,σ,hn,hl,hs,h=>by
  refine⟨[],[],s,env,σ,?_,hn,rfl,by grind,fun lim _=>⟨[],.nil⟩⟩
  have h':K rec sts s env:=h
  grind
 |o::L,rec,sts,j,s,env,σ,hn,hl,hs,h=>by
  have h':qq s fun s=>Hw ops (I rec) o s env fun b s env=>
   Bool.rec (DE env o.dst (.tup []) fun env=>AL rec .q fun rec=>jb P im ops L rec sts j s env σ K)
    (VR env o.op.operands.toList fun ds=>jt P im o ds σ s fun s d σ' kd=>DE env o.dst d fun env=>match kd with
     |.pure=>AL rec .q fun rec=>jb P im ops L rec sts j s env σ K
     |.load q off n=>AL rec (.l j q off n) fun rec=>jb P im ops L rec sts j s env σ K
     |.eff=>AL rec .e fun rec=>AL sts σ' fun sts=>jb P im ops L rec sts (Nat.succ j) s env σ' K) b:=h
  have hne:ops.size- (I L+1)≠1000000:=by omega
  have hput:∀(d:D),I (B5 env o.dst d)=n:=fun d=>by cases o.dst<;>simp[B5,hn]
  obtain⟨s0,h'⟩:=Acc h'
  obtain⟨b,s1,h1,h2⟩:=LZ h'
  cases b with
  |false=>
   have h3:DE env o.dst (.tup []) fun env=>AL rec .q fun rec=>jb P im ops L rec sts j s1 env σ K:=h1
   rw[DF,AK] at h3
   obtain⟨rec',sts',s',env',σ',k1,k2,k3,k4,k5⟩:=Q3 hops (hput _) hl hs h3
   refine⟨.q::rec',sts',s',env',σ',by grind,k2,by grind,k4,fun lim hlo=>?_⟩
   obtain⟨vals,hv⟩:=k5 lim (by have:=GC hlo;grind)
   refine⟨_,.skip hne h2 (by simpa[PQ] using hv)⟩
  |true=>
   have h3:VR env o.op.operands.toList fun ds=>jt P im o ds σ s1 fun s d σ' kd=>DE env o.dst d fun env=>match kd with
     |.pure=>AL rec .q fun rec=>jb P im ops L rec sts j s env σ K
     |.load q off n=>AL rec (.l j q off n) fun rec=>jb P im ops L rec sts j s env σ K
     |.eff=>AL rec .e fun rec=>AL sts σ' fun sts=>jb P im ops L rec sts (Nat.succ j) s env σ' K:=h1
   rw[Nn] at h3
   obtain⟨s2,d,σ2,kd,h4,h5⟩:=CG h3
   rw[DF] at h4
   cases kd with
   |pure=>
    have h6:AL rec .q fun rec=>jb P im ops L rec sts j s2 (B5 env o.dst d) σ K:=h4
    rw[AK] at h6
    obtain⟨rec',sts',s',env',σ',k1,k2,k3,k4,k5⟩:=Q3 hops (hput _) hl hs h6
    refine⟨.q::rec',sts',s',env',σ',by grind,k2,by grind,k4,fun lim hlo=>?_⟩
    obtain⟨vals,hv⟩:=k5 lim (by have:=GC hlo;grind)
    exact⟨_,.quiet hne h2 (fun _ τ _=>Df (h5.2 τ)) (by simpa[PQ] using hv)⟩
   |load q off m=>
    have h6:AL rec (.l j q off m) fun rec=>jb P im ops L rec sts j s2 (B5 env o.dst d) σ K:=h4
    rw[AK] at h6
    obtain⟨rec',sts',s',env',σ',k1,k2,k3,k4,k5⟩:=Q3 hops (hput _) hl hs h6
    refine⟨.l j q off m::rec',sts',s',env',σ',by grind,k2,by grind,k4,fun lim hlo=>?_⟩
    obtain⟨vals,hv⟩:=k5 lim (by have:=GC hlo;grind)
    have hv':GR P ops (fun _=>sts++sts') 1000000 L (B5 env o.dst d) j vals (PQ lim (I rec+1) rec') env' (j+I sts'):=by grind
    have hjs:(sts++sts')[j]?=G σ:=by grind
    have hsame:∀x τ,(sts++sts')[x]?=G τ->(∀b,lim (I rec) j=G b->x<=b)->Ai P o (EJ env o) τ d τ:=by
     intro x τ hx hb
     refine Df (h5.2.2 τ ?_)
     grind[Lo,UP]
    cases hlim:lim (I rec) j with
    |none=>
     refine⟨d::vals,?_⟩
     simp only[PQ,Ap4,hlim]
     refine .quiet hne h2 (fun _ τ hτ=>?_) hv'
     grind[List.getElem?_of_mem]
    |some b=>
     refine⟨d::vals,?_⟩
     simp only[PQ,Ap4,hlim]
     exact .quietW b hne h2 (fun _ c τ hc hτ=>hsame c τ hτ (fun b' hb=>by grind)) hv'
   |eff=>
    have h6:AL rec .e fun rec=>AL sts σ2 fun sts=>jb P im ops L rec sts (Nat.succ j) s2 (B5 env o.dst d) σ2 K:=h4
    rw[AK,AK] at h6
    obtain⟨rec',sts',s',env',σ',k1,k2,k3,k4,k5⟩:=Q3 hops (hput _) (by grind) (by grind) h6
    refine⟨.e::rec',σ2::sts',s',env',σ',by grind,k2,by grind,?_,fun lim hlo=>?_⟩
    ·have e:j+I (σ2::sts')=Nat.succ j+I sts':=by grind
     simp_all
    ·obtain⟨vals,hv⟩:=k5 lim (by have:=GC hlo;grind)
     have hv':GR P ops (fun _=>sts++σ2::sts') 1000000 L (B5 env o.dst d) (j+1) vals (PQ lim (I rec+1) rec') env' (j+I (σ2::sts')):=by
      grind
     refine⟨_,.eff hne h2 (fun _ τ hτ _=>⟨σ2,?_,?_⟩) hv'⟩
     ·grind
     ·rw[Ig (by omega),hs] at hτ
      simp at hτ;subst hτ
      exact Df h5
theorem AdY{C:cd->cd->Prop}{P:x7}{R:List D->St->Prop}{k:List KI}(hm:P.follows .mixedOrders=J){im:List Nat}{id:Nat}{ops:Array yy}{s:Sc}{env:List D}{σ:St}{n:Nat}{K:Sc->List D->St->Prop}(hn:I env=n)
  (hK:∀s env σ,I env=n->K s env σ->A2 C P R k env σ) (h:Alo P im ops s env σ K):A2 C P R (.code (.region id ops true)::k) env σ:=by
 obtain⟨h1,h2⟩:=As h
 have hops:ops.size<1000000:=Io h1
 obtain⟨rec,sts,s',env',σ',k1,k2,k3,k4,k5⟩:=Q3 hops hn (by simp) (by simp) h2
 obtain⟨h3,h5⟩:=As k1
 simp only[List.nil_append] at h3 h5
 split at h5
 ·rename_i τ hτ
  have h6:Lo (Aj3 ops rec) ([σ]++sts) rec 0/\K s' env' τ:=by
   cases hb:MG rec with
   |true=>rw[hb] at h5;grind[KK]
   |false=>simp_all
  grind[JM]
 grind
structure Ld where
 q:Nat
 off:Nat
 n:Nat
 c:Option (List D)
noncomputable def Qf(q off n:Nat)(c0:Option (List D))(sts:List St):Prop:=List.rec (motive:=fun _=>Prop) True (fun τ _ ih=>Cb τ q off n=c0/\ih) sts
theorem OP{q off n:Nat}{c0:Option (List D)}:∀{sts:List St},Qf q off n c0 sts->∀τ∈sts,Cb τ q off n=c0
 |[],_,τ,h=>absurd h (by simp)
 |σ::sts,h,τ,hτ=>by
  have h':Cb σ q off n=c0/\Qf q off n c0 sts:=h
  rcases Iz.1 hτ with rfl|hτ
  ·grind
  ·exact OP h'.2 τ hτ
noncomputable def xn(sts:List St)(l:List Ld):Prop:=List.rec (motive:=fun _=>Prop) True (fun x _ ih=>Qf x.q x.off x.n x.c sts/\ih) l
theorem Tu{sts:List St}:∀{l:List Ld},xn sts l->∀x∈l,∀τ∈sts,Cb τ x.q x.off x.n=x.c
 |[],_,x,h=>absurd h (by simp)
 |y::l,h,x,hx=>by
  have h':Qf y.q y.off y.n y.c sts/\xn sts l:=h
  rcases Iz.1 hx with rfl|hx
  ·grind[OP]
  ·exact Tu h'.2 x hx
def W9(cs:List D)(τ:St):St:=⟨τ.H++[G cs],τ.own⟩
def mb(ad τ:St):St:=⟨τ.H++ad.H,ad.own++τ.own⟩
noncomputable def Ahr(f:St->Prop)(l:List St):Prop:=List.rec (motive:=fun _=>Prop) True (fun τ _ p=>f τ/\p) l
theorem Ww{f:St->Prop}:∀{l:List St},Ahr f l->∀τ∈l,f τ
 |[],_,τ,h=>by grind
 |x::l,h,τ,hτ=>by
  rcases Iz.1 hτ with rfl|hτ
  ·exact h.1
  ·exact Ww h.2 τ hτ
abbrev KD2:=List St->List St->List Ld->List Ef->Sc->List D->Prop
noncomputable def Z0(P:x7)(im:List Nat)(ops:Array yy)(fr:Nat)(ad:St)(K:KD2)(L:List yy):Nat->Bool->(St->St->Prop)->List St->List St->List Ld->List Ef->Sc->List D->St->St->Prop:=
 List.rec (motive:=fun _=>Nat->Bool->(St->St->Prop)->List St->List St->List Ld->List Ef->Sc->List D->St->St->Prop) (fun _ _ _ LF LT lds ef s env _ _=>K LF LT lds ef s env)
  (fun o _ ih i af pd LF LT lds ef s env σF σT=>qq s fun s=>Hw ops i o s env fun b s env=>
   Bool.rec
    (Bool.rec (DE env o.dst (.tup []) fun env=>AL ef (false,none) fun ef=>ih (Nat.succ i) af pd LF LT lds ef s env σF σT) False (Nat.beq i fr))
    (Bool.rec
     (VR env o.op.operands.toList fun ds=>jt P im o ds (Bool.rec σF σT af) s fun s1 d σ1 kd=>match kd with
      |.pure=>DE env o.dst d fun env=>AL ef (false,none) fun ef=>ih (Nat.succ i) af pd LF LT lds ef s1 env σF σT
      |.load q off n=>DE env o.dst d fun env=>AL ef (false,none) fun ef=>AL lds ⟨q,off,n,Cb (Bool.rec σF σT af) q off n⟩ fun lds=>ih (Nat.succ i) af pd LF LT lds ef s1 env σF σT
      |.eff=>Bool.rec
       (jt P im o ds σT s fun _ d2 σ2 kd2=>match kd2 with
        |.eff=>d2=d/\DE env o.dst d fun env=>AL ef (true,none) fun ef=>AL LF σ1 fun LF=>AL LT σ2 fun LT=>ih (Nat.succ i) af pd LF LT lds ef s1 env σ1 σ2
        |_=>False)
       (cond (Xw ops i fr) (DE env o.dst d fun env=>AL ef (true,none) fun ef=>AL LT σ1 fun LT=>ih (Nat.succ i) af pd LF LT lds ef s1 env σF σ1)
        (cond (Nat.beq (I LF) (I LT)) (jt P im o ds σF s fun _ d2 σ2 kd2=>match kd2 with
         |.eff=>d2=d/\pd σ2 σ1/\DE env o.dst d fun env=>AL ef (true,none) fun ef=>AL LF σ2 fun LF=>AL LT σ1 fun LT=>ih (Nat.succ i) af pd LF LT lds ef s1 env σ2 σ1
         |_=>False) False)) af)
     (match (generalizing:=false) o.op,af with
      |.alloc e,false=>(match OV P e with
       |some xs=>cond (LF.all fun τ=>Nat.beq (I τ.H) (I σF.H)) (LT=LF.map (W9 (xs.map .v))/\DE env o.dst (.ptr (I σF.H) 0) fun env=>AL ef (false,none) fun ef=>ih (Nat.succ i) true (fun τ τ1=>τ1=W9 (xs.map .v) τ/\τ.H.length=I σF.H) LF LT lds ef s env σF σT) False
       |none=>False)
      |_,false=>(match s with
       |.h (.o d _) s=>VR env o.op.operands.toList fun ds=>LT=LF.map (mb ad)/\Ahr (fun τ=>Ai P o ds τ d (mb ad τ)) LF/\DE env o.dst d fun env=>AL ef (false,none) fun ef=>ih (Nat.succ i) true (fun τ τ1=>τ1=mb ad τ/\Ai P o ds τ d (mb ad τ)) LF LT lds ef s env σF σT
       |_=>False)
      |_,_=>False) (Nat.beq i fr)) b) L
theorem EQ{P:x7}{im:List Nat}{ops:Array yy}{fr n:Nat}{ad:St}{K:KD2}:∀{L:List yy} {i:Nat} {af:Bool} {pd:St->St->Prop} {LF LT:List St} {lds:List Ld} {ef:List Ef} {s:Sc} {env:List D} {σF σT:St} {j:Nat},I env=n->i+I L=ops.size->I LT=j+1->LT[j]?=G σT->
  (af=O->I LF=j+1)->(I LF=j+1->LF[j]?=G σF)->I LF<=j+1->Z0 P im ops fr ad K L i af pd LF LT lds ef s env σF σT->
  ∃LF' LT' lds' ef' s' env' σ',K (LF++LF') (LT++LT') (lds++lds') (ef++ef') s' env'/\env'.length=n/\(LT++LT')[j+I LT']?=G σ'/\(af=J->(I LF=I LT∨LF'=[])/\∀(c:Nat) (τ:St),LF'[c]?=G τ->∃τ1,LT'[c]?=G τ1/\pd τ τ1)/\
   ((∀x∈lds',∀τ∈ (LF++LF')++(LT++LT'),Cb τ x.q x.off x.n=x.c)->∃vals,GR P ops (DV (LF++LF') (LT++LT')) fr L env j vals ef' env' (j+I LT'))
 |[],i,af,pd,LF,LT,lds,ef,s,env,σF,σT,j,hn,hi,hl,hs,hF,hF2,hF3,h=>by
  refine⟨[],[],[],[],s,env,σT,?_,hn,by grind,fun _=>⟨.inr rfl,fun c τ hc=>by grind⟩,fun _=>⟨[],.nil⟩⟩
  have h':K LF LT lds ef s env:=h
  grind
 |o::L,i,af,pd,LF,LT,lds,ef,s,env,σF,σT,j,hn,hi,hl,hs,hF,hF2,hF3,h=>by
  have h':qq s fun s=>Hw ops i o s env fun b s env=>
   Bool.rec
    (Bool.rec (DE env o.dst (.tup []) fun env=>AL ef (false,none) fun ef=>Z0 P im ops fr ad K L (Nat.succ i) af pd LF LT lds ef s env σF σT) False (Nat.beq i fr))
    (Bool.rec
     (VR env o.op.operands.toList fun ds=>jt P im o ds (Bool.rec σF σT af) s fun s1 d σ1 kd=>match kd with
      |.pure=>DE env o.dst d fun env=>AL ef (false,none) fun ef=>Z0 P im ops fr ad K L (Nat.succ i) af pd LF LT lds ef s1 env σF σT
      |.load q off n=>DE env o.dst d fun env=>AL ef (false,none) fun ef=>AL lds ⟨q,off,n,Cb (Bool.rec σF σT af) q off n⟩ fun lds=>Z0 P im ops fr ad K L (Nat.succ i) af pd LF LT lds ef s1 env σF σT
      |.eff=>Bool.rec
       (jt P im o ds σT s fun _ d2 σ2 kd2=>match kd2 with
        |.eff=>d2=d/\DE env o.dst d fun env=>AL ef (true,none) fun ef=>AL LF σ1 fun LF=>AL LT σ2 fun LT=>Z0 P im ops fr ad K L (Nat.succ i) af pd LF LT lds ef s1 env σ1 σ2
        |_=>False)
       (cond (Xw ops i fr) (DE env o.dst d fun env=>AL ef (true,none) fun ef=>AL LT σ1 fun LT=>Z0 P im ops fr ad K L (Nat.succ i) af pd LF LT lds ef s1 env σF σ1)
        (cond (Nat.beq (I LF) (I LT)) (jt P im o ds σF s fun _ d2 σ2 kd2=>match kd2 with
         |.eff=>d2=d/\pd σ2 σ1/\DE env o.dst d fun env=>AL ef (true,none) fun ef=>AL LF σ2 fun LF=>AL LT σ1 fun LT=>Z0 P im ops fr ad K L (Nat.succ i) af pd LF LT lds ef s1 env σ2 σ1
         |_=>False) False)) af)
     (match (generalizing:=false) o.op,af with
      |.alloc e,false=>(match OV P e with
       |some xs=>cond (LF.all fun τ=>Nat.beq (I τ.H) (I σF.H)) (LT=LF.map (W9 (xs.map .v))/\DE env o.dst (.ptr (I σF.H) 0) fun env=>AL ef (false,none) fun ef=>Z0 P im ops fr ad K L (Nat.succ i) true (fun τ τ1=>τ1=W9 (xs.map .v) τ/\τ.H.length=I σF.H) LF LT lds ef s env σF σT) False
       |none=>False)
      |_,false=>(match s with
       |.h (.o d _) s=>VR env o.op.operands.toList fun ds=>LT=LF.map (mb ad)/\Ahr (fun τ=>Ai P o ds τ d (mb ad τ)) LF/\DE env o.dst d fun env=>AL ef (false,none) fun ef=>Z0 P im ops fr ad K L (Nat.succ i) true (fun τ τ1=>τ1=mb ad τ/\Ai P o ds τ d (mb ad τ)) LF LT lds ef s env σF σT
       |_=>False)
      |_,_=>False) (Nat.beq i fr)) b:=h
  clear h
  have hidx:ops.size- (I L+1)=i:=by grind
  have hi':Nat.succ i+I L=ops.size:=by grind
  have hput:∀(d:D),I (B5 env o.dst d)=n:=fun d=>by cases o.dst<;>simp[B5,hn]
  obtain⟨s0,h'⟩:=Acc h'
  obtain⟨b,s1,h1,h2⟩:=LZ h'
  have snoc2:∀{α:Type} (a:List α) (x:α) (r:List α),a++[x]++r=a++x::r:=fun a x r=>by simp
  cases b with
  |false=>
   cases hb:Nat.beq i fr with
   |true=>simp_all
   |false=>
    have hne:ops.size- (I L+1)≠fr:=by grind[Nat.beq_refl]
    simp only[hb] at h1
    rw[DF,AK] at h1
    obtain⟨LF',LT',lds',ef',s',env',σ',k1,k2,k3,k4,k5⟩:=EQ (hput _) hi' hl hs hF hF2 hF3 h1
    refine⟨LF',LT',lds',(false,none)::ef',s',env',σ',by grind,k2,k3,k4,fun hlo=>?_⟩
    obtain⟨vals,hv⟩:=k5 hlo
    exact⟨_,.skip hne h2 hv⟩
  |true=>
   cases hb:Nat.beq i fr with
   |true=>
    simp only[hb] at h1
    split at h1
    ·rename_i e heq _
     split at h1
     ·obtain⟨hall,h3,h4⟩:=As h1
      rw[DF,AK] at h4
      have hF1:=hF rfl
      obtain⟨LF',LT',lds',ef',s',env',σ',k1,k2,k3,k4,k5⟩:=EQ (af:=true) (hput _) hi' hl hs (fun e=>by omega) hF2 hF3 h4
      refine⟨LF',LT',lds',(false,none)::ef',s',env',σ',by grind,k2,k3,fun e=>by grind,fun hlo=>?_⟩
      obtain⟨vals,hv⟩:=k5 hlo
      refine⟨_,.free (by simp_all) h2 (fun c τ hc=>?_) hv⟩
      grind[DV,EJ,W9,MB,Op.operands,Nat.eq_of_beq_eq_true]
     grind
    ·split at h1
     ·rename_i d _ s2
      rw[Nn] at h1
      obtain⟨h3,hop,h4⟩:=h1
      rw[DF,AK] at h4
      have hF1:=hF rfl
      obtain⟨LF',LT',lds',ef',s',env',σ',k1,k2,k3,k4,k5⟩:=EQ (af:=true) (hput _) hi' hl hs (fun e=>by omega) hF2 hF3 h4
      refine⟨LF',LT',lds',(false,none)::ef',s',env',σ',by grind,k2,k3,fun e=>by grind,fun hlo=>?_⟩
      obtain⟨vals,hv⟩:=k5 hlo
      refine⟨_,.free (by simp_all) h2 (fun c τ hc=>?_) hv⟩
      have hc:(LF++LF')[c]?=G τ:=by grind[DV]
      rcases Nat.lt_or_ge c (I LF) with hcl|hcl
      rotate_left
      ·grind[Df,DV]
      rw[Ig hcl] at hc
      refine⟨mb ad τ,?_,Df (Ww hop τ (HO hc))⟩
      grind[DV]
     grind
    grind
   |false=>
    have hne:ops.size- (I L+1)≠fr:=by grind[Nat.beq_refl]
    simp only[hb] at h1
    rw[Nn] at h1
    obtain⟨s2,d,σ1,kd,h4,h5⟩:=CG h1
    cases kd with
    |pure=>
     rw[DF,AK] at h4
     obtain⟨LF',LT',lds',ef',s',env',σ',k1,k2,k3,k4,k5⟩:=EQ (hput _) hi' hl hs hF hF2 hF3 h4
     refine⟨LF',LT',lds',(false,none)::ef',s',env',σ',by grind,k2,k3,k4,fun hlo=>?_⟩
     obtain⟨vals,hv⟩:=k5 hlo
     exact⟨_,.quiet hne h2 (fun _ τ _=>Df (h5.2 τ)) hv⟩
    |load q off m=>
     simp only at h4
     rw[DF,AK,AK] at h4
     obtain⟨LF',LT',lds',ef',s',env',σ',k1,k2,k3,k4,k5⟩:=EQ (hput _) hi' hl hs hF hF2 hF3 h4
     refine⟨LF',LT',_::lds',(false,none)::ef',s',env',σ',by simpa using k1,k2,k3,k4,fun hlo=>?_⟩
     obtain⟨vals,hv⟩:=k5 (fun x hx=>hlo x (List.mem_cons_of_mem _ hx))
     refine⟨_,.quiet hne h2 (fun b τ hτ=>Df (h5.2.2 τ ?_)) hv⟩
     refine hlo _ (List.mem_cons_self ..) τ ?_
     cases b
     all_goals grind[DV]
    |eff=>
     cases af with
     |true=>
      simp only at h4
      cases hnd:Xw ops i fr with
      |true=>
       rw[hnd,cond_true] at h4
       have hneed:=hnd
       rw[DF,AK,AK] at h4
       obtain⟨LF',LT',lds',ef',s',env',σ',k1,k2,k3,k4,k5⟩:=EQ (j:=j+1) (hput _) hi' (by grind) (by grind) (fun e=>by grind) (fun e=>by omega) (by omega) h4
       have e1:j+I (σ1::LT')=j+1+I LT':=by grind
       have hLF0:LF'=[]:=by
        grind
       refine⟨LF',σ1::LT',lds',(true,none)::ef',s',env',σ',by grind,k2,by simp_all,fun _=>⟨.inr hLF0,fun c τ hc=>by grind⟩,fun hlo=>?_⟩
       obtain⟨vals,hv⟩:=k5 (by grind)
       rw[snoc2] at hv
       rw[e1]
       refine⟨_,.eff hne h2 (fun b τ hτ hneedF=>?_) hv⟩
       cases b with
       |false=>grind
       |true=>
        have hτ:(LT++σ1::LT')[j]?=G τ:=by grind[DV]
        rw[Ig (by omega),hs] at hτ
        simp at hτ;subst hτ
        refine⟨σ1,?_,Df h5⟩
        simp only[DV]
        grind
      |false=>
       rw[hnd,cond_false] at h4
       obtain⟨hlen,h4⟩:=As h4
       have hlen:=Ii hlen
       have hF1:I LF=j+1:=by omega
       obtain⟨s3,d2,σ2,kd2,h6,h7⟩:=CG h4
       cases kd2 with
       |pure=>grind
       |load=>grind
       |eff=>
        obtain⟨rfl,hpd,h6⟩:=h6
        rw[DF,AK,AK,AK] at h6
        obtain⟨LF',LT',lds',ef',s',env',σ',k1,k2,k3,k4,k5⟩:=EQ (af:=true) (j:=j+1) (hput _) hi' (by grind) (by grind) (fun _=>by grind) (fun _=>by grind) (by grind) h6
        have e1:j+I (σ1::LT')=j+1+I LT':=by grind
        rw[snoc2] at k3
        rw[snoc2,snoc2] at k1
        refine⟨σ2::LF',σ1::LT',lds',(true,none)::ef',s',env',σ',by grind,k2,by simp_all,fun _=>⟨.inl hlen,fun c τ hc=>?k4⟩,fun hlo=>?_⟩
        case k4=>
         cases c<;>grind
        obtain⟨vals,hv⟩:=k5 (by grind)
        rw[snoc2,snoc2] at hv
        rw[e1]
        refine⟨_,.eff hne h2 (fun b τ hτ _=>?_) hv⟩
        cases b with
        |false=>
         have hτ:(LF++σ2::LF')[j]?=G τ:=by grind[DV]
         rw[Ig (by omega),hF2 hF1] at hτ
         simp at hτ;subst hτ
         refine⟨σ2,?_,Df h7⟩
         grind[DV]
        |true=>
         have hτ:(LT++σ1::LT')[j]?=G τ:=by grind[DV]
         rw[Ig (by omega),hs] at hτ
         simp at hτ;subst hτ
         refine⟨σ1,?_,Df h5⟩
         grind[DV]
     |false=>
      simp only at h4
      have hF1:=hF rfl
      obtain⟨s3,d2,σ2,kd2,h6,h7⟩:=CG h4
      cases kd2 with
      |pure=>grind
      |load=>grind
      |eff=>
       obtain⟨rfl,h6⟩:=h6
       rw[DF,AK,AK,AK] at h6
       obtain⟨LF',LT',lds',ef',s',env',σ',k1,k2,k3,k4,k5⟩:=EQ (af:=false) (j:=j+1) (hput _) hi' (by grind) (by grind) (fun _=>by grind) (fun _=>by grind) (by grind) h6
       have e1:j+I (σ2::LT')=j+1+I LT':=by grind
       refine⟨σ1::LF',σ2::LT',lds',(true,none)::ef',s',env',σ',by grind,k2,by simp_all,fun e=>by grind,fun hlo=>?_⟩
       obtain⟨vals,hv⟩:=k5 (by grind)
       rw[snoc2,snoc2] at hv
       rw[e1]
       refine⟨_,.eff hne h2 (fun b τ hτ _=>?_) hv⟩
       cases b with
       |false=>
        have hτ:(LF++σ1::LF')[j]?=G τ:=by grind[DV]
        rw[Ig (by omega),hF2 hF1] at hτ
        simp at hτ;subst hτ
        refine⟨σ1,?_,Df h5⟩
        simp only[DV]
        grind
       |true=>
        have hτ:(LT++σ2::LT')[j]?=G τ:=by grind[DV]
        rw[Ig (by omega),hs] at hτ
        simp at hτ;subst hτ
        refine⟨σ2,?_,Df h7⟩
        simp only[DV]
        grind
noncomputable def AhB(P:x7)(im:List Nat)(ops:Array yy)(fr:Nat)(s:Sc)(env:List D)(σ:St)(K:Sc->List D->St->Prop):Prop:=
 cond (Nat.blt fr ops.size) (match (ops[fr]?).map Oper.op with
  |some (.alloc e)=>(match OV P e with
   |some xs=>AX (xs.map .v) fun cs=>AL σ.H (G cs) fun H=>Z0 P im ops fr σ (fun LF LT lds ef s env=>cond (Lq ops ef) (match LT.getLast? with
    |some τ=>xn (LF++LT) lds/\K s env τ
    |none=>False) False) ops.toList 0 false (fun _ _=>False) [σ] [⟨H,σ.own⟩] [] [] s env σ ⟨H,σ.own⟩
   |none=>False)
  |_=>(match s with
   |.h (.cs ad) s=>AX (σ.H++ad.H) fun H=>AX (ad.own++σ.own) fun own=>Z0 P im ops fr ad (fun LF LT lds ef s env=>cond (Lq ops ef) (match LT.getLast? with
    |some τ=>xn (LF++LT) lds/\K s env τ
    |none=>False) False) ops.toList 0 false (fun _ _=>False) [σ] [⟨H,own⟩] [] [] s env σ ⟨H,own⟩
   |_=>False)) False
theorem Zz{C:cd->cd->Prop}{P:x7}{R:List D->St->Prop}{k:List KI}(hm:P.follows .mixedOrders=J){im:List Nat}{id:Nat}{ops:Array yy}{fr:Nat}{s:Sc}{env:List D}{σ:St}{n:Nat}{K:Sc->List D->St->Prop}(hn:I env=n)
  (hK:∀s env σ,I env=n->K s env σ->A2 C P R k env σ) (h:AhB P im ops fr s env σ K):A2 C P R (.code (.region id ops true)::k) env σ:=by
 obtain⟨h1,h2⟩:=As h
 have hfr:fr<ops.size:=Io h1
 split at h2
 ·split at h2
  ·rename_i xs hz
   rw[AQ,AK] at h2
   obtain⟨LF',LT',lds',ef',s',env',σ',k1,k2,k3,k4,k5⟩:=EQ (j:=0) hn (by simp) (by simp) (by simp) (fun _=>by simp) (fun _=>by simp) (by simp) h2
   grind[Tu,JM,DV]
  grind
 ·split at h2
  ·rename_i ad s2
   rw[AQ,AQ] at h2
   obtain⟨LF',LT',lds',ef',s',env',σ',k1,k2,k3,k4,k5⟩:=EQ (j:=0) hn (by simp) (by simp) (by simp) (fun _=>by simp) (fun _=>by simp) (by simp) h2
   grind[Tu,JM,DV]
  grind
noncomputable def U5(P:x7)(im:List Nat)(ops:Array yy)(s:Sc)(env:List D)(σ:St)(K:Sc->List D->St->Prop):Prop:=match s with
 |.h (.dr fr) s=>AhB P im ops fr s env σ K
 |s=>Alo P im ops s env σ K
theorem Zy{C:cd->cd->Prop}{P:x7}{R:List D->St->Prop}{k:List KI}(hm:P.follows .mixedOrders=J){im:List Nat}{id:Nat}{ops:Array yy}{s:Sc}{env:List D}{σ:St}{n:Nat}{K:Sc->List D->St->Prop}(hn:I env=n)
  (hK:∀s env σ,I env=n->K s env σ->A2 C P R k env σ) (h:U5 P im ops s env σ K):A2 C P R (.code (.region id ops true)::k) env σ:=by
 unfold U5 at h
 split at h
 ·exact Zz hm hn hK h
 ·exact AdY hm hn hK h
noncomputable def m6(ts:List Nat)(own:List (Nat×Nat×List V)):List (Nat×Nat×List V):=own.filter fun x=>ts.contains x.1
structure It(p:Prop):Prop where
 it:p
def T7{α:Type}(a b:List α)(K:Prop):Prop:=match a with
 |[]=>K
 |x::a=>b=x::a/\K
theorem Hi{α:Type}{a b:List α}{K:Prop}(h:T7 a b K)(h0:a=[]->b=[]):b=a/\K:=by
 cases a with
 |nil=>exact⟨h0 rfl,h⟩
 |cons x a=>exact h
def xl(op:Bool)(b:Bool)(K:Prop):Prop:=match op with
 |true=>b=J/\K
 |false=>cond b K False
theorem Tm{op b:Bool}{K:Prop}(h:xl op b K):b=J/\K:=by
 cases op
 ·exact As h
 ·exact h
noncomputable def Zv(C:cd->cd->Prop)(m:Nat)(P:x7)(R:List D->St->Prop)(nt:Nat)(k:List KI)(sl:List (Nat×Option D))(σ':Option St)(op:Bool)(env:List D)(σ:St):Prop:=
 WG env sl fun L=>match σ' with
  |none=>It (A2 C P R k (cy nt L) σ)
  |some σ'=>cond (Nat.ble m (I σ'.H)&&Nat.ble (I σ'.H) (I σ.H)&&D.okNs (I σ'.H) (σ'.own.map (·.1)) (L.map (·.2))) (xl op (cm (I σ'.H) (σ'.own.map (·.1)) (σ.H.take (I σ'.H)))
    (T7 σ'.H (σ.H.take (I σ'.H)) (T7 σ'.own (m6 (σ'.own.map (·.1)) σ.own) (It (A2 C P R k (cy nt L) σ'))))) False
theorem Vv{h:Nat}{ts:List Nat}:∀{L:List (Nat×D)} {e:List D},D.okNs h ts (L.map (·.2))=J->D.okNs h ts e=J->D.okNs h ts (L.foldl (fun e p=>e.set p.1 p.2) e)=J
 |[],e,_,he=>he
 |p::L,e,hL,he=>by
  simp only[Ik,D.okNs,HJ] at hL
  refine Vv (L:=L) hL.2 ?_
  have:∀(e:List D) (i:Nat),D.okNs h ts e=J->D.okNs h ts (e.set i p.2)=J:=by
   intro e
   induction e with
   |nil=>grind
   |cons a e ih=>
    intro i h
    cases i<;>grind[D.okNs]
  grind
theorem NZ{h:Nat}{ts:List Nat}:∀n:Nat,D.okNs h ts (replicate n .undef)=J
 |0=>rfl
 |n+1=>by exact NZ n
section
variable {P : x7} {R : List D -> St -> Prop} {k : List KI}
theorem Pd{C:cd->cd->Prop}{m:Nat}(hCm:∀E0 E,C E0 E->E.g.n<=m){nt:Nat}{sl:List (Nat×Option D)}{σ':Option St}{op:Bool}{env:List D}{σ:St}(hn:I env=nt)(h:Zv C m P R nt k sl σ' op env σ):A2 C P R k env σ:=by
 obtain⟨L,h1,h2⟩:=L6 h
 obtain⟨hl,hg⟩:=Oa hn h2
 cases σ' with
 |none=>exact H4 hl hg h1.it
 |some σ'=>
  obtain⟨h3,h1⟩:=As h1
  obtain⟨h8,h1⟩:=Tm h1
  have h7:σ.H.take (I σ'.H)=σ'.H/\m6 (σ'.own.map (·.1)) σ.own=σ'.own/\It (A2 C P R k (cy nt L) σ'):=by
   obtain⟨e1,h1⟩:=Hi h1 (fun e=>by grind)
   grind[Hi,m6,List.filter_eq_nil_iff]
  obtain⟨h4,h5,h6⟩:=h7
  simp only[HJ] at h3
  refine H4 hl hg (Al8 hCm (h:=I σ'.H) h4.symm (Io h3.1.2) (Io h3.1.1) (Vv h3.2 (NZ nt)) (by grind) ?_ h6.it)
  rw[←h5];exact List.filter_sublist
noncomputable def AiB(x:x8)(s:Sc)(env:List D)(K:Bool->Sc->List D->Prop):Prop:=match x with
 |.tmp t=>FJ env t fun d=>match d with
  |.v (.bool b)=>Aeb s b (G t) env K
  |_=>False
 |.const (.bool b)=>K b s env
 |_=>False
theorem AdZ{x:x8}{s:Sc}{env:List D}{K:Bool->Sc->List D->Prop}(h:AiB x s env K):∃b s',K b s' env/\gr env x=.v (.bool b):=by
 unfold AiB at h
 split at h
 ·grind[D5,U7,gr]
 ·exact⟨_,_,h,rfl⟩
 grind
noncomputable def AdR(C:cd->cd->Prop)(m:Nat)(P:x7)(R:List D->St->Prop)(rk:Nat->List D->St->Prop)(nt:Nat)(im:List Nat)(T:List KI)(ih:Sc->List KI->List D->St->Prop)(ks:List KI)(s:Sc)(env:List D)(σ:St):Prop:=match ks with
  |[]=>(match s with
   |.h (.l sl σ') _=>Zv C m P R nt T sl σ' false env σ
   |.h (.lo sl σ') _=>Zv C m P R nt T sl (G σ') true env σ
   |.h .r _=>T=[]/\rk 0 env σ
   |.h .rn _=>T=[]/\rk 1 env σ
   |.h .ro _=>T=[]/\rk 2 env σ
   |.h .rd _=>T=[]/\rk 3 env σ
   |_=>False)
  |.blk _::ks=>ih s ks env σ
  |.lp c::ks=>(match s with
   |.h (.l sl σ') _=>Zv C m P R nt (.lp c::(ks++T)) sl σ' false env σ
   |.h (.lo sl σ') _=>Zv C m P R nt (.lp c::(ks++T)) sl (G σ') true env σ
   |.h .n s=>ih s (.code c:: .lp c::ks) env σ
   |_=>False)
  |.code c::ks=>(match c with
   |.seq x y=>ih s (.code x:: .code y::ks) env σ
   |.skip=>ih s ks env σ
   |.label _=>ih s ks env σ
   |.block id x=>ih s (.code x:: .blk id::ks) env σ
   |.loop x=>ih s (.lp x::ks) env σ
   |.exit id=>(match HE id ks with
    |some ks'=>ih s ks' env σ
    |none=>False)
   |.ret=>(match s with
    |.h .r _=>rk 0 env σ
    |.h .rn _=>rk 1 env σ
    |.h .ro _=>rk 2 env σ
    |.h .rd _=>rk 3 env σ
    |_=>False)
   |.cond t x y=>AiB t s env fun b s env=>Bool.rec (ih s (.code y::ks) env σ) (ih s (.code x::ks) env σ) b
   |.region r ops d=>Bool.rec (YH P im r ops (fun L sl σ=>It (Cg C P R (ks++T) ops L (cy nt sl) σ)) ops.toList 0 s env σ fun s env σ=>ih s ks env σ) (U5 P im ops s env σ fun s env σ=>ih s ks env σ) d
   |_=>False)
noncomputable def vc(C:cd->cd->Prop)(m:Nat)(P:x7)(R:List D->St->Prop)(rk:Nat->List D->St->Prop)(nt:Nat)(im:List Nat)(T:List KI)(fuel:Nat)(s:Sc)(ks:List KI)(env:List D)(σ:St):Prop:=
 Nat.rec (motive:=fun _=>Sc->List KI->List D->St->Prop) (fun _ _ _ _=>False) (fun _ ih s ks env σ=>d8 1000000 0 s env σ (AdR C m P R rk nt im T ih ks)) fuel s ks env σ
theorem LB{T:List KI}{id:Nat}:∀{ks ks':List KI},HE id ks=G ks'->HE id (ks++T)=G (ks'++T)
 |[],ks',h=>by simp[HE] at h
 |.code c::ks,ks',h=>by simp only[HE] at h;simp only[Jz,HE];exact LB h
 |.lp c::ks,ks',h=>by simp only[HE] at h;simp only[Jz,HE];exact LB h
 |.blk i::ks,ks',h=>by
  simp only[HE] at h
  simp only[Jz,HE]
  by_cases e:i=id
  ·rw[Ie e] at h⊢;simp at h;subst h;rfl
  ·rw[HZ e] at h⊢;exact LB h
theorem AdQ{C:cd->cd->Prop}(L:NA C){m:Nat}(hCm:∀E0 E,C E0 E->E.g.n<=m)(hm:P.follows .mixedOrders=J){rk:Nat->List D->St->Prop}{nt:Nat}{im:List Nat}{T:List KI}(hR:∀b env σ,I env=nt->rk b env σ->R env σ){ih:Sc->List KI->List D->St->Prop}
  (IH:∀{s:Sc} {ks:List KI} {env:List D} {σ:St},I env=nt->ih s ks env σ->A2 C P R (ks++T) env σ) {ks:List KI} {s:Sc} {env:List D} {σ:St} (hn:I env=nt) (h:AdR C m P R rk nt im T ih ks s env σ):A2 C P R (ks++T) env σ:=by
 unfold AdR at h
 split at h
 ·split at h
  ·grind[Pd]
  ·grind[Pd]
  ·grind[Pr]
  ·grind[Pr]
  all_goals grind[Pr]
 ·grind[Aae]
 ·grind[Pd,AhK]
 ·split at h
  ·grind[Aac]
  ·grind[UQ]
  ·grind[Aad]
  ·grind[QI]
  ·grind[fc]
  ·grind[UT,LB]
  ·grind[UR]
  ·obtain⟨b,s',h1,h2⟩:=AdZ h
   refine UU h2 (fun hb=>?_) (fun hb=>?_)
   ·subst hb;exact IH hn h1
   ·subst hb;exact IH hn h1
  ·rename_i r ops d
   cases d with
   |false=>
    intro E0 E g a w B hC hf hB
    show KQ P B (.code (.region r ops false)::(_++T)) .normal a w
    exact wp_region_list (Pc (n:=nt) (Z:=fun L sl σ=>It (Cg C P R (_++T) ops L (cy nt sl) σ)) (fun _ _ _ h=>h.it) (fun s env σ hl hk=>IH hl hk) hn (show YH P im r ops _ ops.toList 0 s env σ fun s env σ=>ih s _ env σ from h) E0 E g a w B hC hf hB)
   |true=>exact Zy hm hn (fun s env σ hl hk=>IH hl hk) (show U5 P im ops s env σ fun s env σ=>ih s _ env σ from h)
  grind
theorem Qz{C:cd->cd->Prop}(L:NA C){m:Nat}(hCm:∀E0 E,C E0 E->E.g.n<=m)(hm:P.follows .mixedOrders=J){rk:Nat->List D->St->Prop}{nt:Nat}{im:List Nat}{T:List KI}(hR:∀b env σ,I env=nt->rk b env σ->R env σ):
  ∀{fuel:Nat} {s:Sc} {ks:List KI} {env:List D} {σ:St},I env=nt->vc C m P R rk nt im T fuel s ks env σ->A2 C P R (ks++T) env σ
 |0,s,ks,env,σ,_,h=>(h:False).elim
 |fuel+1,s,ks,env,σ,hn,h=>by
  have h':d8 1000000 0 s env σ (AdR C m P R rk nt im T (vc C m P R rk nt im T fuel) ks):=h
  obtain⟨s1,env1,σ1,h1,h2,h3⟩:=QW h'
  exact Mp h2 (AdQ L hCm hm hR (Qz L hCm hm hR) (h3.trans hn) h1)
noncomputable def l5(P:x7)(env:List D)(σ:St)(dg:Bool)(rs:List ResultVar)(K:List D->Prop):Prop:=
 List.rec (motive:=fun _=>(List D->Prop)->Prop) (fun K=>K []) (fun r _ ih K=>match r with
  |.tmp t=>cond (Nat.blt t (I env)) (FJ env t fun d=>ih fun ds=>K (d::ds)) False
  |.cell a t=>FJ env a fun d=>match d with
   |.ptr q off=>(match σ.H[q]?,DU P t with
    |some (some cs),some (1,false)=>(match cs[off]? with
     |some d=>ih fun ds=>K (d::ds)
     |none=>False)
    |some (some cs),some (n,true)=>cond (Nat.ble (off+n) (I cs)) (Bool.rec (match D8 ((cs.drop off).take n) with
     |some xs=>ih fun ds=>K (.v (.agg xs)::ds)
     |none=>False) (AX ((cs.drop off).take n) fun es=>ih fun ds=>K (.dagg es::ds)) dg) False
    |_,_=>False)
   |_=>False) rs K
theorem Hv{env:List D}{σ:St}{dg:Bool}:∀{rs:List ResultVar} {K:List D->Prop},l5 P env σ dg rs K->∃ds,K ds/\So P env σ rs ds
 |[],K,h=>⟨[],h,.nil⟩
 |.tmp t::rs,K,h=>by
  have h':cond (Nat.blt t (I env)) (FJ env t fun d=>l5 P env σ dg rs fun ds=>K (d::ds)) False:=h
  obtain⟨h1,h2⟩:=As h'
  rw[D5] at h2
  obtain⟨ds,h3,h4⟩:=Hv h2
  refine⟨_,h3,.tmp ?_ h4⟩
  simp_all
 |.cell a t::rs,K,h=>by
  have h':FJ env a fun d=>match (generalizing:=false) d with
   |.ptr q off=>(match σ.H[q]?,DU P t with
    |some (some cs),some (1,false)=>(match cs[off]? with
     |some d=>l5 P env σ dg rs fun ds=>K (d::ds)
     |none=>False)
    |some (some cs),some (n,true)=>cond (Nat.ble (off+n) (I cs)) (Bool.rec (match D8 ((cs.drop off).take n) with
     |some xs=>l5 P env σ dg rs fun ds=>K (.v (.agg xs)::ds)
     |none=>False) (AX ((cs.drop off).take n) fun es=>l5 P env σ dg rs fun ds=>K (.dagg es::ds)) dg) False
    |_,_=>False)
   |_=>False:=h
  rw[D5] at h'
  split at h'
  ·rename_i q off hd
   have ha:=getD_some hd (by simp)
   split at h'
   ·rename_i cs hq hz
    split at h'
    ·rename_i d hc
     obtain⟨ds,h3,h4⟩:=Hv h'
     exact⟨_,h3,.cell1 ha hq hz hc h4⟩
    grind
   ·rename_i cs n hq hz
    obtain⟨h1,h2⟩:=As h'
    cases dg with
    |false=>
     split at h2
     ·rename_i xs hx
      obtain⟨ds,h3,h4⟩:=Hv h2
      exact⟨_,h3,.cellA ha hq hz (Io h1) (GX hx) h4⟩
     grind
    |true=>
     rw[AQ] at h2
     obtain⟨ds,h3,h4⟩:=Hv h2
     exact⟨_,h3,.cellD ha hq hz (Io h1) h4⟩
   grind
  grind
def nlV:V->V
 |.nils=>.list []
 |x=>x
theorem Aay{M:c6}:∀{xs:List V} {us:List yz},repA M xs us->repA M (xs.map nlV) us
 |[],us,h=>h
 |x::xs,us,h=>by
  obtain⟨u,us',rfl,ha,h1,h2⟩:=h
  refine⟨u,us',rfl,?_,?_,Aay h2⟩
  ·cases x<;>first|exact ha|rfl
  ·cases x with
   |nils=>
    have h3:repV M .nils u:=(BJ (by rfl)).2 h1
    have h4:Ag (⟨M,fun _=>0,0,fun _ _=>none,fun _=>0⟩:Gh) (.v (.list [])) u:=FQ (by simpa only[Ag] using h3)
    show repC M (.list []) [u]
    exact(BJ (by rfl)).1 (by simpa only[Ag] using h4)
   |_=>exact h1
noncomputable def io(ts:List Nat)(kn:Bool):D->D
 |.acc k xs=>Bool.rec (.v (.list xs)) (.acc k xs) (ts.any (Nat.beq k))
 |.v .nils=>Bool.rec (.v (.list [])) (.v .nils) kn
 |.v (.agg xs)=>Bool.rec (.v (.agg (xs.map nlV))) (.v (.agg xs)) kn
 |d=>d
theorem Ai0{ts:List Nat}{kn:Bool}{g:Gh}{d:D}{u:yz}(h:Ag g d u):Ag g (io ts kn d) u:=by
 unfold io
 split
 ·cases ts.any _
  ·exact Pv h
  omega
 ·cases kn
  all_goals grind[FQ]
 ·cases kn
  all_goals grind[Ag,Db,Aay]
 omega
theorem D7{ts:List Nat}{kn:Bool}{g:Gh}:∀{ds:List D} {us:List yz},Af g ds us->Af g (ds.map (io ts kn)) us
 |[],us,h=>by grind
 |d::ds,us,h=>by
  obtain⟨u,us',e,h1,h2⟩:=h
  exact⟨u,us',e,Ai0 h1,D7 h2⟩
noncomputable def vg:List D->(D->Prop)->Prop
 |[d],K=>K d
 |ds,K=>AX ds fun ds=>K (.tup ds)
theorem Pz(ds:List D)(K:D->Prop):vg ds K=K (Tb ds):=by
 match ds with
 |[]=>rfl
 |[d]=>rfl
 |a::b::ds=>grind[vg,Tb,AQ]
noncomputable def Zr(P:x7)(rs:List ResultVar)(d:D)(σ':St)(md:Nat)(env:List D)(σ:St):Prop:=
 l5 P env σ (Nat.beq md 3) rs fun ds=>AX (ds.map (io (σ'.own.map (·.1)) (Nat.beq md 1))) fun ds=>vg ds fun d'=>
  cond (D.okN (I σ'.H) (σ'.own.map (·.1)) d&&Nat.ble (I σ'.H) (I σ.H)) (xl (Nat.beq md 2) (cm (I σ'.H) (σ'.own.map (·.1)) (σ.H.take (I σ'.H)))
   (T7 σ'.H (σ.H.take (I σ'.H)) (T7 σ'.own (m6 (σ'.own.map (·.1)) σ.own) (d'=d)))) False
theorem Pb{fn:yw}{d:D}{σ':St}{md:Nat}{env:List D}{σ:St}(h:Zr P fn.results.toList d σ' md env σ):A9 P fn env σ d σ':=by
 obtain⟨ds,h1,hr⟩:=Hv h
 rw[AQ,Pz] at h1
 obtain⟨h2,h3⟩:=As h1
 obtain⟨h8,h3⟩:=Tm h3
 simp only[HJ] at h2
 generalize Nat.beq md 1=kn at h3
 have h4:Tb (ds.map (io (σ'.own.map (·.1)) kn))=d/\σ.H.take (I σ'.H)=σ'.H/\m6 (σ'.own.map (·.1)) σ.own=σ'.own:=by
  obtain⟨e1,h3⟩:=Hi h3 (fun e=>by grind)
  grind[Hi,m6,List.filter_eq_nil_iff]
 obtain⟨rfl,hH,hown⟩:=h4
 intro E g a w hf hE
 obtain⟨us,h5,h6⟩:=hr.run hf
 have hrun:(results fn a.tmps).run P w=.ok (if h:I us=1 then us[0] else .tuple us.toArray) w:=by
  rw[H6,Array.mapM_eq_mapM_toList]
  simp_all
 have hsub:σ'.own.Sublist σ.own:=by rw[←hown];exact List.filter_sublist
 refine⟨_,_,hrun,WB hf.wi hH.symm (Io h2.2) hE (by grind) hsub,?_⟩
 refine Mu _ _ h2.1 ?_
 have h7:=D7 (ts:=σ'.own.map (·.1)) (kn:=kn) h6
 generalize ds.map (io (σ'.own.map (·.1)) kn)=ds' at h7
 have hl:=A1 h7
 unfold Tb
 split
 ·grind[AB]
 ·rename_i hne
  have:I us≠1:=by
   rw[hl]
   intro h
   match ds',h with
   |[d0],_=>grind
  grind[Ag]
theorem Lg{f:yx}{fn:yw}{c:Code}{ds:List D}{σ σ':St}{d:D}(hf:P.funcs[f]?=G fn)(hb:fn.body=G c)(hn:(fn.name=="runtime.NumGoroutine")=O)
  (hH:I σ.H<=I σ'.H) (h:A2 (CN (I σ.H)) P (fun env σ1=>A9 P fn env σ1 d σ') [.code c] (ds++replicate (fn.ntmps-I ds) .undef) σ):Aa P f ds σ d σ':=by
 refine⟨⟨fn,hf,hn,by grind⟩,fun g w args hw hargs=>?_⟩
 refine calls_of_wp hf hb ?_
 have hfi:FI ⟨g,w,σ⟩ g σ (ds++replicate (fn.ntmps-I ds) .undef) { tmps:=args.toArray++Array.replicate (fn.ntmps-args.toArray.size) undef,defers:=[]} w:=by
  refine⟨WI.start hw,?_,rfl⟩
  have hl:=A1 hargs
  simp only[Array.toList_append,Array.toList_replicate,IY,hl]
  refine Aw hargs ?_
  generalize fn.ntmps-I ds=m
  induction m<;>grind[Af,Ag]
 have:=h ⟨g,w,σ⟩ ⟨g,w,σ⟩ g _ w (bodyPost P fn fun e w'=>∃u g',e=.returned u/\WI ⟨g,w,σ⟩ g' σ' w'/\Ag g' d u) ⟨rfl,Nat.le_of_eq hw.n⟩ hfi ?_
 ·simp only[KQ] at this
  omega
 ·intro g' env' σ1 a' w' hfi' hR
  obtain⟨u,g2,h1,h2,h3⟩:=hR _ _ _ _ hfi' (by rw[hw.n];exact hH)
  have:a'.defers=[]/\∃v,(results fn a'.tmps).run P w'=.ok v w'/\∃u g',Ending.returned v=.returned u/\WI ⟨g,w,σ⟩ g' σ' w'/\Ag g' d u:=
   ⟨hfi'.defers,u,h1,u,g2,rfl,h2,h3⟩
  exact⟨this,this⟩
abbrev Rn(P:x7)(fn:yw)(C:Nat)(d:D)(σ':St)(k:List KI)(env:List D)(σ:St):Prop:=A2 (CN C) P (fun env σ1=>A9 P fn env σ1 d σ') k env σ
theorem AiR(hm:P.follows .mixedOrders=J){f:yx}{ds:List D}{σ σ':St}{d:D}(fn:yw)(c:Code)(hf:P.funcs[f]?=G fn)(hb:fn.body=G c)(hn:(fn.name=="runtime.NumGoroutine")=O)(hH:Nat.ble (I σ.H) (I σ'.H)=J)(nt:Nat)(hnt:I (ds++replicate (fn.ntmps-I ds) bj)=nt)
  (im:List Nat) (s:Sc)
  (h:AX (ds++replicate (fn.ntmps-I ds) bj) fun env=>vc (CN (I σ.H)) (I σ.H) P (fun env σ1=>A9 P fn env σ1 d σ') (Zr P fn.results.toList d σ') nt im [] 10000 s [.code c] env σ):Aa P f ds σ d σ':=by
 rw[AQ] at h
 refine Lg hf hb hn (Io hH) ?_
 exact Qz (ks:=[.code c]) (T:=[]) (NF _) (fun _ _ h=>h.2) hm (fun b env σ _ h=>Pb h) hnt h
theorem Abs(hm:P.follows .mixedOrders=J){C:Nat}{fn:yw}{d:D}{σ':St}(nt:Nat)(im:List Nat){ks T:List KI}{L:List (Nat×D)}{σ:St}(s:Sc)
  (h:AX (cy nt L) fun env=>vc (CN C) C P (fun env σ1=>A9 P fn env σ1 d σ') (Zr P fn.results.toList d σ') nt im T 10000 (.h .n s) ks env σ):Rn P fn C d σ' (ks++T) (cy nt L) σ:=by
 rw[AQ] at h
 exact Qz (NF _) (fun _ _ h=>h.2) hm (fun b env σ _ h=>Pb h) (by simp[cy,DN]) h
theorem AhJ(hm:P.follows .mixedOrders=J){C:cd->cd->Prop}(L:NA C)(m:Nat)(hCm:∀E0 E,C E0 E->E.g.n<=m){fn:yw}{d:D}{σ':St}(nt:Nat)(im:List Nat){ks T:List KI}{E:List (Nat×D)}{σ:St}(s:Sc)
  (h:AX (cy nt E) fun env=>vc C m P (fun env σ1=>A9 P fn env σ1 d σ') (Zr P fn.results.toList d σ') nt im T 10000 s ks env σ):A2 C P (fun env σ1=>A9 P fn env σ1 d σ') (ks++T) (cy nt E) σ:=by
 grind[AQ,Qz,Pb,cy,DN]
theorem Pt(hm:P.follows .mixedOrders=J){C:cd->cd->Prop}(Lk:NA C)(m:Nat)(hCm:∀E0 E,C E0 E->E.g.n<=m){fn:yw}{d:D}{σ':St}(nt:Nat)(im:List Nat)(r i:Nat){ops:Array yy}{L:List yy}{ks T:List KI}{E:List (Nat×D)}{σ:St}(s:Sc)
  (h:AX (cy nt E) fun env=>YH P im r ops (fun L sl σ=>It (Cg C P (fun env σ1=>A9 P fn env σ1 d σ') (ks++T) ops L (cy nt sl) σ)) L i s env σ fun s env σ=>vc C m P (fun env σ1=>A9 P fn env σ1 d σ') (Zr P fn.results.toList d σ') nt im T 10000 s ks env σ):Cg C P (fun env σ1=>A9 P fn env σ1 d σ') (ks++T) ops L (cy nt E) σ:=by
 rw[AQ] at h
 exact Pc (n:=nt) (fun _ _ _ h=>h.it) (fun s env σ hl hk=>Qz Lk hCm hm (fun b env σ _ h=>Pb h) hl hk) (by simp[cy,DN]) h
theorem fv{a b:Prop}(h:a=b)(ha:a):b:=h▸ha
end
end Go.Nv

namespace Go.Proofs.YtkkplhjidondkaaGreat
open Go.Dv Go.Nv
set_option maxRecDepth 20000
open List (drop_of_length_le flatten replicate take)
open Go.IntKind (u64)
open Go.IntKind renaming wrap → yu, i64 → yt
open List renaming length → I, map → U, drop → W
open Option renaming some → G
open Bool renaming true → J, false → O
open Decidable renaming decide → Y
open Int renaming toNat → Z
open Go.Dv.V renaming list → ai, str → ae, agg → ab, int → aa, ref → bz, fn → bw, nils → bv, bool → bu
open Go.Dv.D renaming v → bt, acc → br, ptr → bq, arr → bo, gro → bm, tup → bk, undef → bj, dagg → bi
open Go.Dv.St renaming mk → bh
open Go.Dv.KI renaming blk → bf
open _root_.ByteArray renaming mk → bc
open Go renaming Operand → x8, Program → x7, TypeId → x6, World → x5, Value → yz, Oper → yy, FuncId → yx, Func → yw, IntKind → yv
abbrev Q{α:Type}(a:α):Prop:=a=a
theorem yr{p:Prop}[Decidable p](h:p:=by omega):decide p=true:=decide_eq_true h
theorem yq{p:Prop}[Decidable p](h:¬p:=by omega):decide p=false:=decide_eq_false h
noncomputable abbrev yl(f:yw):Code:=f.body.getD .skip
theorem yk{α:Type}{l:List α}{k:Nat}(h:k<l.length):∃x,l[k]?=some x:=⟨_,List.getElem?_eq_getElem h⟩
abbrev yj(p:Prop):Prop:=p/\p/\p/\True
abbrev yi(p:Prop):Prop:=p/\p/\p/\p/\True
abbrev yh(p:Prop):Prop:=p/\p/\p/\p/\p/\p/\p/\True
abbrev yg(p:Prop):Prop:=p/\p/\p/\p/\p/\p/\p/\p/\p/\True
abbrev yf(p:Prop):Prop:=p/\p/\p/\p/\p/\p/\p/\p/\p/\p/\p/\True
abbrev yp:Prop:=True/\True
abbrev yo:Prop:=True/\True/\True
theorem yn:yp:=⟨trivial,trivial⟩
theorem ym:yo:=⟨trivial,trivial,trivial⟩
abbrev F0(f:yx)(ds:List D)(d:D):Prop:=Aa PP f ds ⟨[],[]⟩ d ⟨[],[]⟩
noncomputable abbrev N0:=fun(ds:List D)(σ:St)(d:D)(σ':St)=>∀(o:yy)(c:Call)(fo:x8),o.op=Op.call c->c.callee=Callee.value fo->Ai PP o ds σ d σ'
abbrev I0(fn:yw)(C:Nat)(d:D)(s:St)(k:List KI)(e:List D)(t:St):Prop:=It (Rn PP fn C d s k e t)
abbrev kl(c:Code)(p:List Nat):KI:=.lp (sub c p)
abbrev kc(c:Code)(p:List Nat):KI:=.code (sub c p)
abbrev dn:D:=.v .nils
abbrev fq:List D:=[bt (ae (bc #[]).data.toList),di 0,di 0,bt bv,bt bv,bt bv,di 0,di 0,di 0,bt bv,bt bv,bt bv,bt bv,di 0]
abbrev si:List D:=[di 0,bt bv,bt bv,bt bv,bt bv,di 0,di 0,bt bv,di 0,bt bv]
theorem sv{f:yx}{ds:List D}{σ σ':St}{d:D}(fn:yw)(nt:Nat)(im:List Nat)(s:Sc)(a:Prop)(ha:a)(hf:PP.funcs[f]?=G fn:=by kernel_rfl)(hb:fn.body=G (fn.body.getD .skip):=by kernel_rfl)(hn:(fn.name=="runtime.NumGoroutine")=O:=by kernel_rfl)(hH:Nat.ble (I σ.H) (I σ'.H)=J:=by kernel_rfl)(hnt:I (ds++replicate (fn.ntmps-I ds) bj)=nt:=by kernel_rfl)
  (h:a=AX (ds++replicate (fn.ntmps-I ds) bj) fun env=>vc (CN (I σ.H)) (I σ.H) PP (fun env σ1=>A9 PP fn env σ1 d σ') (Zr PP fn.results.toList d σ') nt im [] 10000 s [.code (fn.body.getD .skip)] env σ:=by kernel_rfl):Aa PP f ds σ d σ':=AiR mixed fn _ hf hb hn hH nt hnt im s (fv h ha)
theorem iK{p:Prop}(h:p):Nv.It p:=⟨h⟩
theorem lv{C:Nat}{fn:yw}{d:D}{σ':St}{ks T:List KI}{L:List (Nat×D)}{σ:St}(nt:Nat)(im:List Nat)(s:Sc)(a:Prop)(ha:a)
  (h:a=AX (cy nt L) fun env=>vc (CN C) C PP (fun env σ1=>A9 PP fn env σ1 d σ') (Zr PP fn.results.toList d σ') nt im T 10000 (.h .n s) ks env σ:=by kernel_rfl):Rn PP fn C d σ' (ks++T) (cy nt L) σ:=Abs mixed nt im s (fv h ha)
abbrev ba:St:=⟨[],[]⟩
abbrev dfn(f:yx):D:=.v (.fn f [] [])
abbrev dl(l:List V):D:=.v (.list l)
abbrev ke(t:Nat):Nat×Option D:=(t,none)
abbrev ch(t:Nat)(d:D):Nat×Option D:=(t,G d)
theorem Am{α:Type}{f:α->V}{a:List α}{i:Nat}{x:α}(h:a[i]?=G x):(a.map f)[((i:Nat):Int).toNat]?=G (f x):=by simp[h]
theorem Ak{n:Int}(h0: -9223372036854775808<=n:=by omega)(h1:n<=9223372036854775807:=by omega):yt.wrap n=n:=by grind[IntKind.wrap_i64]
theorem Ae{i:Nat}(h:i<9223372036854775807:=by omega):di (yt.wrap ((i:Int)+1))=di ((i+1:Nat):Int):=by grind[Ak]
inductive b9 where
 |mk (n:Int) (az:List b9)
 deriving Inhabited
def b9.n:b9->Int
 |.mk n _=>n
def b9.az:b9->List b9
 |.mk _ ks=>ks
mutual
def b9.enc:b9->V
 |.mk n ks=>.agg [vi n,.list (b9.encs ks)]
def b9.encs:List b9->List V
 |[]=>[]
 |v::vs=>v.enc::b9.encs vs
end
abbrev eV:b9->V:=b9.enc
abbrev dt(l:List b9):V:=.list (l.map eV)
abbrev Ac(v:b9):V:=.agg [vi v.n,dt v.az]
theorem encs_map:∀l:List b9,b9.encs l=l.map eV
 |[]=>rfl
 |v::l=>by simp[b9.encs,encs_map l]
theorem AH(v:b9):eV v=Ac v:=by cases v with|mk n ks=>simp only[eV,b9.enc,encs_map];rfl
abbrev dV(v:b9):D:=.v (Ac v)
abbrev cq(l:List b9):D:=.v (dt l)
theorem Ap{a:List b9}{i:Nat}{x:b9}(h:a[i]?=G x):(a.map eV)[((i:Nat):Int).toNat]?=G (Ac x):=by grind[AH]
theorem BM(a:List b9)(x:b9):a.map eV++[Ac x]=(a++[x]).map eV:=by grind[AH]
mutual
def b9.size:b9->Nat
 |.mk _ ks=>1+b9.sizes ks
def b9.sizes:List b9->Nat
 |[]=>0
 |v::vs=>v.size+b9.sizes vs
end
theorem b9.size_eq(v:b9):v.size=1+b9.sizes v.az:=by cases v;rfl
theorem b9.size_pos(v:b9):1<=v.size:=by grind[b9.size_eq]
theorem b9.size_mem{v:b9}:∀{l:List b9},v∈l->v.size<=b9.sizes l
 |w::l,h=>by
  rcases Iz.1 h with rfl|h
  ·simp[b9.sizes]
  ·have:=b9.size_mem h;grind[b9.sizes]
theorem b9.length_le:∀l:List b9,I l<=b9.sizes l
 |[]=>by grind
 |v::l=>by have:=b9.length_le l;have:=v.size_pos;grind[b9.sizes]
noncomputable abbrev AqC:=Tryz.f133
theorem Af9(x:Int):F0 133 [di x] (db O):=by
 refine sv AqC 6 [] .r (db (x !=x)=db O) ?_
 simp
def AJ(a b:Int):Int:=if a<b then-1 else if b<a then 1 else 0
noncomputable abbrev Apw:=Tryz.f72
theorem K2(a b:Int):F0 72 [di a,di b] (di (AJ a b)):=by
 refine sv Apw 20 [] (.c (db O)<|.c (db O)<|.k<|.k<|.b .r<|.b .r .r) (F0 133 [di a] (db O)/\F0 133 [di b] (db O)/\(Y (a<b)=J->di (-1)=di (AJ a b))/\(Y (a<b)=O->(Y (a>b)=J->di 1=di (AJ a b))/\(Y (a>b)=O->di 0=di (AJ a b)))) ?_
 grind[Af9,AJ]
def jn:List Int->Int
 |[]=>0
 |x::l=>if x=0 then jn l else x
noncomputable abbrev sd:=Tryz.f71
noncomputable def qo:=yl sd
noncomputable abbrev ee:=[1,1,0,1,0,0]
theorem Ajk(l:List Int)(hl:I l<=1000000)(n:Nat):∀k:Nat,I l-k=n->
  Rn PP sd 0 (di (jn (l.drop k))) ba ([kl qo [1,1,0,1,0,0],.blk 0,kc qo [1,1,1]]++[]) (cy 18 [(3,di 0),(6,dl (l.map vi)),(7,di (I l)),(8,di k)]) ba:=by
 induction n using Nat.strongRecOn with
 |_ n ih=>
 intro k hn
 refine lv 18 [] (.b (.e fun x:Int=>.x (vi x)<|.b .r (.l [ke 3,ke 6,ke 7,ch 8 (di (k+1:Nat))])) .r) ((Y ((k:Int)<(I l:Int))=J->∃a,0<=(k:Int)/\(U vi l)[Z (k:Int)]?=G (vi a)/\((a !=0)=J->di a=di (jn (W k l)))/\((a !=0)=O->di (yu yt ((k:Int)+1))=di (↑(k+1):Int)/\Nv.It (A2 (CN 0) PP (fun env σ1=>A9 PP sd env σ1 (di (jn (W k l))) ba) [kl qo ee,bf 0,kc qo [1,1,1]] (cy 18 [(3,di 0),(6,bt (ai (U vi l))),(7,di (I l:Int)),(8,di (↑(k+1):Int))]) ba)))/\(Y ((k:Int)<(I l:Int))=O->di 0=di (jn (W k l)))) ⟨fun h=>?_,fun h=>?_⟩
 ·have hk:k<I l:=by simpa using h
  have hx:l[k]?=G l[k]:=HI hk
  rw[HX hk]
  generalize l[k]=x at hx⊢
  refine⟨x,by omega,Am hx,fun hf=>?_,fun hf=>⟨Ae,⟨?_⟩⟩⟩
  ·have:x≠0:=by simpa using hf
   simp[jn,this]
  ·have:x=0:=by simpa using hf
   subst this
   exact ih (I l- (k+1)) (by omega) (k+1) rfl
 grind[drop_of_length_le,jn]
theorem AaM(l:List Int)(hl:I l<=1000000):F0 71 [dl (l.map vi)] (di (jn l)):=by
 refine sv sd 18 [] (.l [ke 3,ke 6,ch 7 (di (I l)),ch 8 (di (0:Nat))]) (di (I (U vi l):Int)=di (I l:Int)/\Q (di 0)/\I0 sd (I ba.H) (di (jn l)) ba [kl qo ee,bf 0,kc qo [1,1,1]] (cy 18 [(3,di 0),(6,dl (U vi l)),(7,di (I l:Int)),(8,di (↑0:Int))]) ba) ⟨by simp,rfl,⟨?_⟩⟩
 exact Ajk l hl _ 0 rfl
def AW{α:Type}(c:α->α->Int):List α->List α->Int
 |[],[]=>0
 |[],_::_=> -1
 |_::_,[]=>1
 |x::a,y::b=>if c x y=0 then AW c a b else c x y
noncomputable abbrev RC:=Tryz.f73
noncomputable def OJ:=yl RC
noncomputable abbrev d7:=(bh [] [])
theorem Yo(F:yx)(fs cs:List V)(c:b9->b9->Int)(a b:List b9)(ha:I a<=9223372036854775807)(hf:∀x∈a,∀y∈b,F0 F ((fs++[Ac x,Ac y]++cs).map .v) (di (c x y)))(n:Nat):∀k:Nat,I a-k=n->k<=I b->k<=I a->
  Rn PP RC 0 (di (AW c (a.drop k) (b.drop k))) ba ([kl OJ [1,0,1,0,0],.blk 0,kc OJ [1,1]]++[]) (cy 39 [(0,cq a),(1,cq b),(2,.v (.fn F fs cs)),(11,cq a),(12,di (I a)),(13,di k)]) ba:=by
 induction n using Nat.strongRecOn with
 |_ n ih=>
 intro k hn hkb hka
 refine lv 39 [] (.b (.e fun x:b9=>.x (Ac x)<|.b .r<|.e fun y:b9=>.x (Ac y)<|.c (di (c x y))<|.b .r (.ls [ke 0,ke 1,ke 2,ke 11,ke 12,ch 13 (di (k+1:Nat))] ba)) (.b .r .r)) ((Y ((k:Int)<(I a:Int))=J->∃a_2,0<=(k:Int)/\(U eV a)[Z (k:Int)]?=G (Ac a_2)/\(Y ((k:Int)>=(I (U eV b):Int))=J->di 1=di (AW c (W k a) (W k b)))/\(Y ((k:Int)>=(I (U eV b):Int))=O->∃a_4,0<=(k:Int)/\(U eV b)[Z (k:Int)]?=G (Ac a_4)/\Aa PP F (U bt (fs++[ab [vi a_2.n,dt a_2.az],ab [vi a_4.n,dt a_4.az]]++cs)) d7 (di (c a_2 a_4)) d7/\((c a_2 a_4 !=0)=J->di (c a_2 a_4)=di (AW c (W k a) (W k b)))/\((c a_2 a_4 !=0)=O->di (yu yt ((k:Int)+1))=di (↑(k+1):Int)/\Nv.It (A2 (CN 0) PP (fun env σ1=>A9 PP RC env σ1 (di (AW c (W k a) (W k b))) ba) [kl OJ [1,0,1,0,0],bf 0,kc OJ [1,1]] (cy 39 [(0,cq a),(1,cq b),(2,bt (bw F fs cs)),(11,cq a),(12,di (I a:Int)),(13,di (↑(k+1):Int))]) ba))))/\(Y ((k:Int)<(I a:Int))=O->(Y ((I (U eV a):Int)<(I (U eV b):Int))=J->di (-1)=di (AW c (W k a) (W k b)))/\(Y ((I (U eV a):Int)<(I (U eV b):Int))=O->di 0=di (AW c (W k a) (W k b))))) ⟨fun h=>?_,fun h=>?_⟩
 ·have hk:k<I a:=by grind
  have hx:a[k]?=G a[k]:=HI hk
  rw[HX hk]
  generalize a[k]=x at hx⊢
  refine⟨x,by omega,Ap hx,fun h1=>?_,fun h1=>?_⟩
  ·grind[drop_of_length_le,AW]
  ·have hk2:k<I b:=by grind
   have hy:b[k]?=G b[k]:=HI hk2
   rw[HX hk2]
   generalize b[k]=y at hy⊢
   refine⟨y,by omega,Ap hy,hf x (HO hx) y (HO hy),fun h2=>?_,fun h2=>⟨Ae,⟨?_⟩⟩⟩
   ·grind[AW]
   ·have:c x y=0:=by grind
    simp only[AW,this,IT]
    grind
 ·have hk:k=I a:=by grind
  subst hk
  rw[List.drop_length]
  refine⟨fun h1=>?_,fun h1=>?_⟩
  ·grind[List.drop_eq_getElem_cons,AW]
  grind[drop_of_length_le,AW]
theorem Yn(F:yx)(fs cs:List V)(c:b9->b9->Int)(a b:List b9)(ha:I a<=9223372036854775807)(hf:∀x∈a,∀y∈b,F0 F ((fs++[Ac x,Ac y]++cs).map .v) (di (c x y))):
  F0 73 [cq a,cq b,.v (.fn F fs cs)] (di (AW c a b)):=by
 refine sv RC 39 [] (.l [ke 0,ke 1,ke 2,ke 11,ch 12 (di (I a)),ch 13 (di (0:Nat))]) (di (I (U eV a):Int)=di (I a:Int)/\Q (di 0)/\I0 RC (I ba.H) (di (AW c a b)) ba [kl OJ [1,0,1,0,0],bf 0,kc OJ [1,1]] (cy 39 [(0,cq a),(1,cq b),(2,bt (bw F fs cs)),(11,cq a),(12,di (I a:Int)),(13,di (↑0:Int))]) ba) ⟨by simp,rfl,⟨?_⟩⟩
 exact Yo F fs cs c a b ha hf _ 0 rfl (by omega) (by omega)
mutual
def Ar:b9->b9->Int
 |.mk n ks,.mk m ls=>if AJ n m=0 then(if AJ (I ks) (I ls)=0 then AgH ks ls else AJ (I ks) (I ls)) else AJ n m
def AgH:List b9->List b9->Int
 |[],[]=>0
 |[],_::_=> -1
 |_::_,[]=>1
 |x::a,y::b=>if Ar x y=0 then AgH a b else Ar x y
end
theorem PV:∀a b:List b9,AgH a b=AW Ar a b
 |[],[]=>rfl
 |[],_::_=>rfl
 |_::_,[]=>rfl
 |x::a,y::b=>by simp only[AgH,AW,PV a b]
theorem or3(x y z:Int):(if x=0 then(if y=0 then z else y) else x)=jn [x,y,z]:=by
 grind[jn]
theorem PW(a b:b9):Ar a b=jn [AJ a.n b.n,AJ (I a.az) (I b.az),AW Ar a.az b.az]:=by
 cases a;cases b
 rw[Ar,PV]
 exact or3 _ _ _
mutual
def b9.fit:b9->Prop
 |.mk _ l=>I l<=9223372036854775807/\b9.fits l
def b9.fits:List b9->Prop
 |[]=>True
 |v::l=>v.fit/\b9.fits l
end
theorem b9.fits_mem{v:b9}:∀{l:List b9},b9.fits l->v∈l->v.fit
 |w::l,h,hm=>by
  rcases Iz.1 hm with rfl|hm
  ·exact h.1
  ·exact b9.fits_mem h.2 hm
theorem b9.fit.len{v:b9}(h:v.fit):I v.az<=9223372036854775807:=by cases v;exact h.1
theorem b9.fit.mem{v x:b9}(h:v.fit)(hx:x∈v.az):x.fit:=by cases v;exact b9.fits_mem h.2 hx
mutual
theorem b9.fit_of:∀v:b9,v.size<=1000000->v.fit
 |.mk n l,h=>by
  have h1:1+b9.sizes l<=1000000:=h
  have h2:=b9.length_le l
  exact⟨by omega,b9.fit_ofs l (by omega)⟩
theorem b9.fit_ofs:∀l:List b9,b9.sizes l<=1000000->b9.fits l
 |[],_=>trivial
 |v::l,h=>by
  have h1:v.size+b9.sizes l<=1000000:=h
  exact⟨b9.fit_of v (by omega),b9.fit_ofs l (by omega)⟩
end
noncomputable abbrev Apv:=Tryz.f41
noncomputable abbrev ov:=(bw 41 [] [])
noncomputable abbrev ce:=fun a₀=>(U eV a₀)
theorem Wc(N:Nat):∀a b:b9,a.size<=N->a.fit->F0 41 [dV a,dV b] (di (Ar a b)):=by
 induction N with
 |zero=>intro a b h;have:=a.size_pos;omega
 |succ N ih=>
 intro a b ha hb
 refine sv Apv 24 [2,3] (.c (di (AJ a.n b.n))<|.c (di (AJ (I a.az) (I b.az)))<|.c (di (AW Ar a.az b.az))<|.c (di (Ar a b)) .r) (F0 72 [di a.n,di b.n] (di (AJ a.n b.n))/\F0 72 [di (I (ce a.az):Int),di (I (ce b.az):Int)] (di (AJ (I a.az:Int) (I b.az:Int)))/\F0 73 [cq a.az,cq b.az,bt ov] (di (AW Ar a.az b.az))/\F0 71 [bt (ai [vi (AJ a.n b.n),vi (AJ (I a.az:Int) (I b.az:Int)),vi (AW Ar a.az b.az)])] (di (Ar a b))/\Q (di (Ar a b))) ?_
 have hs:=a.size_eq
 have hl:=hb.len
 refine⟨K2 _ _,by grind[K2],Yn _ _ _ Ar a.az b.az (by omega) (fun x hx y hy=>?_),?_,rfl⟩
 ·have:=b9.size_mem hx
  exact ih x y (by omega) (hb.mem hx)
 ·rw[PW];exact AaM [_,_,_] (by simp)
theorem Hl(N:Nat)(a b:b9)(_:a.size<=N)(h:a.size<=1000000):F0 41 [dV a,dV b] (di (Ar a b)):=by grind[Wc,b9.fit_of]
def de{α:Type}(p:α->Bool):List α->Nat->Int
 |[],_=> -1
 |x::l,k=>if p x then k else de p l (k+1)
theorem FH{α:Type}(p:α->Bool):∀(l:List α) (k:Nat),Y (de p l k>=0)=l.any p
 |[],k=>by rfl
 |x::l,k=>by
  simp only[de,List.any_cons]
  by_cases h:p x=J
  ·simp[h]
  ·simp[h,FH p l]
noncomputable abbrev ur:=Tryz.f162
noncomputable def rj:=yl ur
noncomputable abbrev qj:=fun a₀=>[ke 0,ke 1,ke 7,ch 8 (di (a₀+1:Nat))]
theorem AfZ(F:yx)(fs cs:List V)(p:Int->Bool)(l:List (Int))(hl:I l<=1000000)(hp:∀x∈l,F0 F ((fs++[vi x]++cs).map .v) (db (p x)))(n:Nat):∀k:Nat,I l-k=n->
  Rn PP ur 0 (di (de p (l.drop k) k)) ba ([kl rj [1,0,1,0,0],.blk 0,kc rj [1,1]]++[]) (cy 19 [(0,dl (l.map vi)),(1,.v (.fn F fs cs)),(7,di (I l)),(8,di k)]) ba:=by
 induction n using Nat.strongRecOn with
 |_ n ih=>
 intro k hn
 refine lv 19 [] (.b (.e fun x:Int=>.x (vi x)<|.c (db (p x))<|.b .r (.l (qj k))) .r) ((Y ((k:Int)<(I l:Int))=J->∃a,0<=(k:Int)/\(U vi l)[Z (k:Int)]?=G (vi a)/\Aa PP F (U bt (fs++[vi a]++cs)) d7 (db (p a)) d7/\(p a=J->di (k:Int)=di (de p (W k l) k))/\(p a=O->di (yu yt ((k:Int)+1))=di (↑(k+1):Int)/\Nv.It (A2 (CN 0) PP (fun env σ1=>A9 PP ur env σ1 (di (de p (W k l) k)) ba) [kl rj [1,0,1,0,0],bf 0,kc rj [1,1]] (cy 19 [(0,bt (ai (U vi l))),(1,bt (bw F fs cs)),(7,di (I l:Int)),(8,di (↑(k+1):Int))]) ba)))/\(Y ((k:Int)<(I l:Int))=O->di (-1)=di (de p (W k l) k))) ⟨fun h=>?_,fun h=>?_⟩
 ·have hk:k<I l:=by simpa using h
  have hx:l[k]?=G l[k]:=HI hk
  rw[HX hk]
  generalize l[k]=x at hx⊢
  refine⟨x,by omega,Am hx,hp x (HO hx),fun hf=>by simp[de,hf],fun hf=>⟨Ae,⟨?_⟩⟩⟩
  simp only[de,hf]
  exact ih (I l- (k+1)) (by omega) (k+1) rfl
 grind[drop_of_length_le,de]
theorem AfY(F:yx)(fs cs:List V)(p:Int->Bool)(l:List (Int))(hl:I l<=1000000)(hp:∀x∈l,F0 F ((fs++[vi x]++cs).map .v) (db (p x))):
  F0 162 [dl (l.map vi),.v (.fn F fs cs)] (di (de p l 0)):=by
 refine sv ur 19 [] (.l [ke 0,ke 1,ch 7 (di (I l)),ch 8 (di (0:Nat))]) (di (I (U vi l):Int)=di (I l:Int)/\Q (di 0)/\I0 ur (I ba.H) (di (de p l 0)) ba [kl rj [1,0,1,0,0],bf 0,kc rj [1,1]] (cy 19 [(0,dl (U vi l)),(1,bt (bw F fs cs)),(7,di (I l:Int)),(8,di (↑0:Int))]) ba) ⟨by simp,rfl,⟨?_⟩⟩
 exact AfZ F fs cs p l hl hp _ 0 rfl
noncomputable abbrev Apr:=Tryz.f96
theorem Di(F:yx)(fs cs:List V)(p:Int->Bool)(l:List (Int))(hl:I l<=1000000)(hp:∀x∈l,F0 F ((fs++[vi x]++cs).map .v) (db (p x))):
  F0 96 [dl (l.map vi),.v (.fn F fs cs)] (db (l.any p)):=by
 refine sv Apr 9 [] (.c (di (de p l 0)) .r) (F0 162 [bt (ai (U vi l)),bt (bw F fs cs)] (di (de p l 0))/\db (Y (de p l 0>=0))=db (List.any l p)) ?_
 grind[AfY,FH]
noncomputable abbrev ul:=Tryz.f88
noncomputable def rc:=yl ul
theorem AfR(F:yx)(fs cs:List V)(p:b9->Bool)(l:List (b9))(hl:I l<=1000000)(hp:∀x∈l,F0 F ((fs++[Ac x]++cs).map .v) (db (p x)))(n:Nat):∀k:Nat,I l-k=n->
  Rn PP ul 0 (di (de p (l.drop k) k)) ba ([kl rc [1,0,1,0,0],.blk 0,kc rc [1,1]]++[]) (cy 19 [(0,dl (l.map eV)),(1,.v (.fn F fs cs)),(7,di (I l)),(8,di k)]) ba:=by
 induction n using Nat.strongRecOn with
 |_ n ih=>
 intro k hn
 refine lv 19 [] (.b (.e fun x:b9=>.x (Ac x)<|.c (db (p x))<|.b .r (.l (qj k))) .r) ((Y ((k:Int)<(I l:Int))=J->∃a,0<=(k:Int)/\(U eV l)[Z (k:Int)]?=G (Ac a)/\Aa PP F (U bt (fs++[Ac a]++cs)) d7 (db (p a)) d7/\(p a=J->di (k:Int)=di (de p (W k l) k))/\(p a=O->di (yu yt ((k:Int)+1))=di (↑(k+1):Int)/\Nv.It (A2 (CN 0) PP (fun env σ1=>A9 PP ul env σ1 (di (de p (W k l) k)) ba) [kl rc [1,0,1,0,0],bf 0,kc rc [1,1]] (cy 19 [(0,bt (ai (U eV l))),(1,bt (bw F fs cs)),(7,di (I l:Int)),(8,di (↑(k+1):Int))]) ba)))/\(Y ((k:Int)<(I l:Int))=O->di (-1)=di (de p (W k l) k))) ⟨fun h=>?_,fun h=>?_⟩
 ·have hk:k<I l:=by simpa using h
  have hx:l[k]?=G l[k]:=HI hk
  rw[HX hk]
  generalize l[k]=x at hx⊢
  refine⟨x,by omega,Ap hx,hp x (HO hx),fun hf=>by simp[de,hf],fun hf=>⟨Ae,⟨?_⟩⟩⟩
  simp only[de,hf]
  exact ih (I l- (k+1)) (by omega) (k+1) rfl
 grind[drop_of_length_le,de]
theorem VC(F:yx)(fs cs:List V)(p:b9->Bool)(l:List (b9))(hl:I l<=1000000)(hp:∀x∈l,F0 F ((fs++[Ac x]++cs).map .v) (db (p x))):
  F0 88 [dl (l.map eV),.v (.fn F fs cs)] (di (de p l 0)):=by
 refine sv ul 19 [] (.l [ke 0,ke 1,ch 7 (di (I l)),ch 8 (di (0:Nat))]) (di (I (U eV l):Int)=di (I l:Int)/\Q (di 0)/\I0 ul (I ba.H) (di (de p l 0)) ba [kl rc [1,0,1,0,0],bf 0,kc rc [1,1]] (cy 19 [(0,dl (U eV l)),(1,bt (bw F fs cs)),(7,di (I l:Int)),(8,di (↑0:Int))]) ba) ⟨by simp,rfl,⟨?_⟩⟩
 exact AfR F fs cs p l hl hp _ 0 rfl
noncomputable abbrev Apn:=Tryz.f80
theorem FV(F:yx)(fs cs:List V)(p:b9->Bool)(l:List (b9))(hl:I l<=1000000)(hp:∀x∈l,F0 F ((fs++[Ac x]++cs).map .v) (db (p x))):
  F0 80 [dl (l.map eV),.v (.fn F fs cs)] (db (l.any p)):=by
 refine sv Apn 9 [] (.c (di (de p l 0)) .r) (F0 88 [bt (ai (U eV l)),bt (bw F fs cs)] (di (de p l 0))/\db (Y (de p l 0>=0))=db (List.any l p)) ?_
 grind[VC,FH]
noncomputable abbrev uz:=Tryz.f259
noncomputable def rp:=yl uz
theorem Agz(a b:List (Int))(ha:I a<=1000000)(hab:I a=I b)(n:Nat):∀k:Nat,I a-k=n->
  Rn PP uz 0 (db (Y (a.drop k=b.drop k))) ba ([kl rp [1,1,0,1,0,0],.blk 0,kc rp [1,1,1]]++[]) (cy 26 [(0,dl (a.map vi)),(1,dl (b.map vi)),(12,di (I a)),(13,di k)]) ba:=by
 induction n using Nat.strongRecOn with
 |_ n ih=>
 intro k hn
 refine lv 26 [] (.b (.e fun x:Int=>.x (vi x)<|.e fun y:Int=>.x (vi y)<|.b .r (.l [ke 0,ke 1,ke 12,ch 13 (di (k+1:Nat))])) .r) ((Y ((k:Int)<(I a:Int))=J->∃a_2,0<=(k:Int)/\(U vi a)[Z (k:Int)]?=G (vi a_2)/\∃a_3,0<=(k:Int)/\(U vi b)[Z (k:Int)]?=G (vi a_3)/\((a_2 !=a_3)=J->db O=db (Y (W k a=W k b)))/\((a_2 !=a_3)=O->di (yu yt ((k:Int)+1))=di (↑(k+1):Int)/\Nv.It (A2 (CN 0) PP (fun env σ1=>A9 PP uz env σ1 (db (Y (W k a=W k b))) ba) [kl rp ee,bf 0,kc rp [1,1,1]] (cy 26 [(0,bt (ai (U vi a))),(1,bt (ai (U vi b))),(12,di (I a:Int)),(13,di (↑(k+1):Int))]) d7)))/\(Y ((k:Int)<(I a:Int))=O->db J=db (Y (W k a=W k b)))) ⟨fun h=>?_,fun h=>?_⟩
 ·have hk:k<I a:=by simpa using h
  have hk2:k<I b:=by omega
  have hx:a[k]?=G a[k]:=HI hk
  have hy:b[k]?=G b[k]:=HI hk2
  rw[HX hk,HX hk2]
  generalize a[k]=x at hx⊢
  generalize b[k]=y at hy⊢
  refine⟨x,by omega,Am hx,y,by omega,Am hy,fun hf=>?_,fun hf=>⟨Ae,⟨?_⟩⟩⟩
  ·have:x≠y:=by simpa using hf
   simp[this]
  ·have:x=y:=by simpa using hf
   subst this
   simpa using ih (I a- (k+1)) (by omega) (k+1) rfl
 grind[drop_of_length_le]
theorem Er(a b:List (Int))(ha:I a<=1000000):F0 259 [dl (a.map vi),dl (b.map vi)] (db (Y (a=b))):=by
 refine sv uz 26 [] (.b .r (.l [ke 0,ke 1,ch 12 (di (I a)),ch 13 (di (0:Nat))])) ((((I (U vi a):Int) !=(I (U vi b):Int))=J->db O=db (Y (a=b)))/\(((I (U vi a):Int) !=(I (U vi b):Int))=O->di (I (U vi a):Int)=di (I a:Int)/\di 0=di (↑0:Int)/\I0 uz (I ba.H) (db (Y (a=b))) ba [kl rp ee,bf 0,kc rp [1,1,1]] (cy 26 [(0,dl (U vi a)),(1,dl (U vi b)),(12,di (I a:Int)),(13,di (↑0:Int))]) ba)) ⟨fun h=>?_,fun h=>⟨by simp,rfl,⟨?_⟩⟩⟩
 ·have h:I a≠b.length:=by grind
  rw[HM fun e=>h (by rw[e])]
 ·exact Agz a b ha (by grind) _ 0 rfl
theorem Ec{α:Type}{ls:List (List α)}{k:Nat}(hk:k<I ls):(ls.take (k+1)).flatten=(ls.take k).flatten++ls[k]:=by
 grind[List.take_succ_eq_append_getElem]
theorem GG{α:Type}(ls:List (List α))(k:Nat):(ls.take k).flatten.length<=I ls.flatten:=by
 grind[List.take_append_drop]
theorem Of{α β:Type}{e:α->V}{f:β->V}{a:List α}{b:List β}{by':Nat}(h:I a+I b<=2000000)(hb:by'<=10000):Ao (I (a.map e)+I (b.map f)) by':=by
 rw[HH,HH]
 have:(I a+I b)*by'<=2000000*10000:=Nat.mul_le_mul h hb
 omega
abbrev cw(l:List Int):V:=.list (l.map vi)
abbrev cx(l:List Int):D:=.v (cw l)
abbrev c9(l:List Int):List D:=l.map di
theorem UN(l:List Int):∀y∈l.map vi,y.size=1:=by simp[V.size]
theorem Aj7(l:List Int):Ab (l.map vi)=c9 l:=by
 unfold Ab c9
 induction l<;>grind[V.cellsV]
theorem BB(n:Nat)(ts:List Nat):∀l:List Int,D.okNs n ts (c9 l)=J
 |[]=>rfl
 |x::l=>by exact BB n ts l
theorem Af3(l:List Int):cm 2 [] [none,G ([]++c9 l)]=J:=by simp[cm,BB]
noncomputable abbrev vp:=Tryz.f66
theorem Nx(l:List Int)(hl:I l<=1000000):F0 66 [cx l] (cx l):=by
 by_cases h:l=[]
 ·subst h
  refine UJ (ds:=[]) (ds':=[]) fun a cap=>?_
  cases a with
  |none=>
   refine sv vp 8 [] .r (bt (ai [])=cx []) ?_
   rfl
  |some a=>
   refine sv vp 8 [] (.a 1<|.h (.q 3 2)<|.h (.un 6)<|.r) (Q nV/\Ao 0 8/\bt (ai [])=cx []) ?_
   grind
 ·refine sv vp 8 [] (.a 1<|.w .r) (U vi l≠ []/\Q nV/\Ao (I nV+I (U vi l)) 8/\(∀(y:V),y∈U vi l->V.size y=1)/\bt (ai ([]++U vi l))=cx l) ?_
  grind[V.size]
theorem O4(l:List Int)(hl:I l<=1000000)(h:l≠ []):Aa PP 66 [cx l] ba (.arr 1 0 (I l)) ⟨[none,G (c9 l)],[]⟩:=by
 refine sv vp 8 [] (.h .g<|.h (.q 3 3)<|.h (.ga 7) .ro) (U vi l≠ []/\Q 0/\U vi l≠ []/\(∀(y:V),y∈U vi l->V.size y=1)/\Ao (0+I (U vi l)) 8/\cm 2 [] [none,G ([]++Ab (U vi l))]=J/\[none,G ([]++Ab (U vi l))]=[none,G (c9 l)]/\bo 1 0 (0+I (U vi l))=bo 1 0 (I l)) ?_
 grind[Aj7,Af3,V.size]
theorem AeF(l:List (List UInt8)):∀y∈l.map ae,y.size=1:=by simp[V.size]
noncomputable abbrev Aqh:=Tryz.f246
noncomputable abbrev iu:=(br 1 [])
theorem Agi(n:Nat)(hn:n<=1000000):Aa PP 246 [.v .nils,di n] ba (.acc 1 []) ⟨[],[(1,1,[])]⟩:=by
 have h1:yt.wrap (0-0)=0:=by decide
 by_cases h:n=0
 ·subst h
  refine sv Aqh 27 [] (.f<|.f<|.h (.q 6 0)<|.h (.nw 0 1 1) .r) (Y ((↑0:Int)<0)=O/\Y (yu yt ((↑0:Int)-yu yt (0-0))>0)=O/\Q [(1,1,nV)]/\Q iu) ?_
  grind
 ·refine sv Aqh 27 [] (.f<|.t<|.a 1 .r) (Y ((n:Int)<0)=O/\Y (yu yt ((n:Int)-yu yt (0-0))>0)=J/\iz 0=0/\0<yu yt ((n:Int)-yu yt (0-0))/\Ao (Z (yu yt ((n:Int)-yu yt (0-0)))) 16/\iz 0=0/\Q [(1,1,nV)]/\Q iu) ?_
  grind[Ak]
noncomputable abbrev oa:=Tryz.f195
noncomputable def YV:=yl oa
abbrev Q1(ls:List (List (List UInt8))):List V:=ls.map fun l=>.list (l.map ae)
noncomputable abbrev ia:=[1,1,1,1,0,1,0,0]
noncomputable abbrev kh:=fun a₀=>(ai (U ae a₀))
noncomputable abbrev wl:=fun a₀=>(bh [] [(1,1,U ae (flatten a₀))])
theorem Yf(ls:List (List (List UInt8)))(hl:I ls<=1000)(ht:I ls.flatten<=1000000)(n:Nat):∀k:Nat,I ls-k=n->
  Rn PP oa 0 (.acc 1 (ls.flatten.map ae)) ⟨[],[(1,1,ls.flatten.map ae)]⟩ ([kl YV [1,1,1,1,0,1,0,0],.blk 2,kc YV [1,1,1,1,1]]++[]) (cy 36 [(0,dl (Q1 ls)),(6,.acc 1 ((ls.take k).flatten.map ae)),(25,dl (Q1 ls)),(26,di (I ls)),(27,di k)]) ⟨[],[(1,1,(ls.take k).flatten.map ae)]⟩:=by
 induction n using Nat.strongRecOn with
 |_ n ih=>
 intro k hn
 refine lv 36 [] (.b (.e fun x:List (List UInt8)=>.x (.list (x.map ae))<|.w<|.ls [ke 0,ch 6 (.acc 1 ((ls.take (k+1)).flatten.map ae)),ke 25,ke 26,ch 27 (di (k+1:Nat))] ⟨[],[(1,1,(ls.take (k+1)).flatten.map ae)]⟩) .r) ((Y ((k:Int)<(I ls:Int))=J->∃a,0<=(k:Int)/\(Q1 ls)[Z (k:Int)]?=G (kh a)/\U ae (flatten (take k ls))=U ae (flatten (take k ls))/\Ao (I (U ae (flatten (take k ls)))+I (U ae a)) 16/\(∀(y:V),y∈U ae a->V.size y=1)/\br 1 (U ae (flatten (take k ls))++U ae a)=br 1 (U ae (flatten (take (k+1) ls)))/\di (yu yt ((k:Int)+1))=di (↑(k+1):Int)/\[(1,1,U ae (flatten (take k ls))++U ae a)]=[(1,1,U ae (flatten (take (k+1) ls)))]/\Nv.It (A2 (CN 0) PP (fun env σ1=>A9 PP oa env σ1 (br 1 (U ae (flatten ls))) (wl ls)) [kl YV ia,bf 2,kc YV [1,1,1,1,1]] (cy 36 [(0,bt (ai (Q1 ls))),(6,br 1 (U ae (flatten (take (k+1) ls)))),(25,bt (ai (Q1 ls))),(26,di (I ls:Int)),(27,di (↑(k+1):Int))]) (bh [] [(1,1,U ae (flatten (take (k+1) ls)))])))/\(Y ((k:Int)<(I ls:Int))=O->[(1,1,U ae (flatten (take k ls)))]=[(1,1,U ae (flatten ls))]/\br 1 (U ae (flatten (take k ls)))=br 1 (U ae (flatten ls)))) ⟨fun h=>?_,fun h=>?_⟩
 ·have hk:k<I ls:=by simpa using h
  have hx:ls[k]?=G ls[k]:=HI hk
  have hf:=Ec hk
  have hle:=GG ls (k+1)
  have hih:=ih (I ls- (k+1)) (by omega) (k+1) rfl
  rw[hf] at hle hih⊢
  generalize ls[k]=x at hx hle hih⊢
  simp only[HW] at hle
  refine⟨x,by omega,by simp[hx],rfl,Of (by omega) (by decide),AeF x,by simp,Ae,by simp,⟨hih⟩⟩
 grind[List.take_of_length_le]
noncomputable abbrev s7:=(bh [] [(1,1,[])])
theorem Yj(ls:List (List (List UInt8)))(hl:I ls<=1000)(ht:I ls.flatten<=1000000)(n:Nat):∀k:Nat,I ls-k=n->
  Rn PP oa 0 (.acc 1 (ls.flatten.map ae)) ⟨[],[(1,1,ls.flatten.map ae)]⟩ ([kl YV [1,1,0,1,0,0],.blk 0,kc YV [1,1,1]]++[]) (cy 36 [(0,dl (Q1 ls)),(3,di ((ls.take k).flatten.length:Nat)),(9,dl (Q1 ls)),(10,di (I ls)),(11,di k)]) ba:=by
 induction n using Nat.strongRecOn with
 |_ n ih=>
 intro k hn
 refine lv 36 [] (.b (.e fun x:List (List UInt8)=>.x (.list (x.map ae))<|.f<|.l [ke 0,ch 3 (di ((ls.take (k+1)).flatten.length:Nat)),ke 9,ke 10,ch 11 (di (k+1:Nat))]) (.h (.ckn 1 1 1 [])<|.ls [ke 0,ch 6 (.acc 1 ((ls.take 0).flatten.map ae)),ke 25,ch 26 (di (I ls)),ch 27 (di (0:Nat))] ⟨[],[(1,1,(ls.take 0).flatten.map ae)]⟩)) ((Y ((k:Int)<(I ls:Int))=J->∃a,0<=(k:Int)/\(Q1 ls)[Z (k:Int)]?=G (kh a)/\Y (yu yt ((I (flatten (take k ls)):Int)+(I (U ae a):Int))<0)=O/\di (yu yt ((I (flatten (take k ls)):Int)+(I (U ae a):Int)))=di (I (flatten (take (k+1) ls)):Int)/\di (yu yt ((k:Int)+1))=di (↑(k+1):Int)/\Nv.It (A2 (CN 0) PP (fun env σ1=>A9 PP oa env σ1 (br 1 (U ae (flatten ls))) (wl ls)) [kl YV ee,bf 0,kc YV [1,1,1]] (cy 36 [(0,bt (ai (Q1 ls))),(3,di (I (flatten (take (k+1) ls)):Int)),(9,bt (ai (Q1 ls))),(10,di (I ls:Int)),(11,di (↑(k+1):Int))]) ba))/\(Y ((k:Int)<(I ls:Int))=O->Aa PP 246 [dn,di (I (flatten (take k ls)):Int)] d7 iu s7/\Q iu/\di (I (Q1 ls):Int)=di (I ls:Int)/\di 0=di (↑0:Int)/\Q [(1,1,nV)]/\I0 oa 0 (br 1 (U ae (flatten ls))) (wl ls) [kl YV ia,bf 2,kc YV [1,1,1,1,1]] (cy 36 [(0,bt (ai (Q1 ls))),(6,br 1 []),(25,bt (ai (Q1 ls))),(26,di (I ls:Int)),(27,di (↑0:Int))]) s7)) ⟨fun h=>?_,fun h=>?_⟩
 ·have hk:k<I ls:=by grind
  have hx:ls[k]?=G ls[k]:=HI hk
  have hf:=Ih I (Ec hk)
  rw[HW] at hf
  have hle:=GG ls (k+1)
  generalize ls[k]=x at hx hf⊢
  have h2:yt.wrap ((((ls.take k).flatten.length:Nat):Int)+(I (x.map ae):Int))=(((ls.take (k+1)).flatten.length:Nat):Int):=by rw[Ak (by omega) (by grind),hf];simp
  refine⟨x,by omega,by simp[hx],by grind,by rw[h2],Ae,⟨?_⟩⟩
  grind
 ·have hk:I ls<=k:=by grind
  rw[Im hk]
  refine⟨Agi (I ls.flatten) ht,rfl,by simp,rfl,rfl,⟨?_⟩⟩
  exact Yf ls hl ht _ 0 rfl
theorem Ac5(ls:List (List (List UInt8)))(hl:I ls<=1000)(ht:I ls.flatten<=1000000):Aa PP 195 [dl (Q1 ls)] ba (.acc 1 (ls.flatten.map ae)) ⟨[],[(1,1,ls.flatten.map ae)]⟩:=by
 refine sv oa 36 [] (.l [ke 0,ch 3 (di ((ls.take 0).flatten.length:Nat)),ke 9,ch 10 (di (I ls)),ch 11 (di (0:Nat))]) (Q (di 0)/\di (I (Q1 ls):Int)=di (I ls:Int)/\Q (di 0)/\I0 oa (I ba.H) (br 1 (U ae (flatten ls))) (wl ls) [kl YV ee,bf 0,kc YV [1,1,1]] (cy 36 [(0,dl (Q1 ls)),(3,di (I (flatten (take 0 ls)):Int)),(9,dl (Q1 ls)),(10,di (I ls:Int)),(11,di (↑0:Int))]) ba) ⟨rfl,by simp,rfl,⟨?_⟩⟩
 exact Yj ls hl ht _ 0 rfl
structure Tk where
 place:Int
 low:Int
 high:Int
 deriving DecidableEq,Inhabited
abbrev dh(t:Tk):V:=.agg [vi t.place,vi t.low,vi t.high]
abbrev AD(l:List Tk):V:=.list (l.map dh)
structure cf where
 name:List UInt8
 aj:Int
 to:Int
 am:List Int
 ak:List Int
 move:List Int
 chan:Int
 act:Int
 letter:Int
 path:List Int
 next:List Int
 ar:List Tk
 aq:List Int
 second:Int
 deriving DecidableEq,Inhabited
abbrev Al(r:cf):V:=.agg [.str r.name,vi r.aj,vi r.to,cw r.am,cw r.ak,cw r.move,vi r.chan,vi r.act,vi r.letter,cw r.path,cw r.next,AD r.ar,cw r.aq,vi r.second]
abbrev BF(l:List cf):V:=.list (l.map Al)
abbrev cp(l:List (List UInt8)):V:=.list (l.map ae)
structure cz where
 kind:Int
 aw:List (List UInt8)
 ay:List (List UInt8)
 ax:List (List UInt8)
 au:List Int
 ao:Int
 age:Int
 av:List cf
 start:b9
 deriving Inhabited
abbrev A0(m:cz):V:=.agg [vi m.kind,cp m.aw,cp m.ay,cp m.ax,cw m.au,vi m.ao,vi m.age,BF m.av,vi m.start.n,dt m.start.az]
abbrev Ad(m:cz):D:=.v (A0 m)
abbrev BP(r:cf):D:=.v (Al r)
def A3(x a b:Int):Bool:=Y (a<=x)&&Y (x<=b)
noncomputable abbrev Apz:=Tryz.f142
theorem EP(x a b:Int):F0 142 [di x,di a,di b] (db (A3 x a b)):=by
 refine sv Apz 15 [] (.b .r .r) ((Y (x>=a)=J->db (Y (x<=b))=db (A3 x a b))/\(Y (x>=a)=O->db O=db (A3 x a b))) ?_
 grind[A3]
noncomputable abbrev AjE:=Tryz.f198
theorem Eb(x:Int)(n:Nat)(hn:n<=1000000):F0 198 [di x,di n] (db (A3 x 0 (n-1))):=by
 refine sv AjE 9 [] (.c (db (A3 x 0 (n-1))) .r) (F0 142 [di x,di 0,di (yu yt ((n:Int)-1))] (db (A3 x 0 ((n:Int)-1)))/\Q (db (A3 x 0 ((n:Int)-1)))) ?_
 grind[Ak,EP]
noncomputable abbrev Apg:=Tryz.f204
noncomputable abbrev AmF:=Tryz.f258
theorem X2(F:yx)(fs cs:List V)(p:Int->Bool)(x:Int)(hp:F0 F ((fs++[vi x]++cs).map .v) (db (p x))):F0 258 [di x,.v (.ref (.fn F fs cs))] (db (!p x)):=by
 refine sv AmF 8 [] (.c (db (p x)) .r) (F0 F (U bt (fs++[vi x]++cs)) (db (p x))/\(db !p x)=db !p x) ?_
 grind
theorem JU(F:yx)(fs cs:List V)(p:Int->Bool)(l:List Int)(hl:I l<=1000000)(hp:∀x∈l,F0 F ((fs++[vi x]++cs).map .v) (db (p x))):F0 204 [cx l,.v (.fn F fs cs)] (db (l.all p)):=by
 refine sv Apg 9 [3] (.c (db (l.any fun x=> !p x)) .r) (F0 96 [cx l,bt (bw 258 [] [bz (bw F fs cs)])] (db (List.any l fun x=> !p x))/\(db !List.any l fun x=> !p x)=db (List.all l p)) ?_
 refine⟨Di _ [] _ (fun x=> !p x) l hl fun x hx=>X2 F fs cs p x (hp x hx),?_⟩
 grind
noncomputable abbrev AqL:=Tryz.f199
noncomputable abbrev Apy:=Tryz.f251
abbrev DI(x:Int):Bool:=A3 x 0 16
theorem RV(x:Int):F0 251 [di x] (db (DI x)):=by
 refine sv Apy 5 [] (.c (db (DI x)) .r) (F0 142 [di x,di 0,di 16] (db (DI x))/\Q (db (DI x))) ?_
 grind[EP]
structure cf.short(r:cf):Prop where
 am:I r.am<=1000000
 ak:I r.ak<=1000000
 move:I r.move<=1000000
 path:I r.path<=1000000
 next:I r.next<=1000000
 ar:I r.ar<=1000000
 aq:I r.aq<=1000000
def Ci(m:cz)(r:cf):Bool:=((I r.am:Int)==I m.ay)&&(((I r.ak:Int)==I m.ay)&&(r.am.all DI&&r.ak.all DI))
noncomputable abbrev df:=fun a₀=>(U ae a₀)
noncomputable abbrev cc:=fun a₀=>(U vi a₀)
noncomputable abbrev Avm:=fun a₀=>F0 204 [cx a₀,bt (bw 251 [] [])] (db (List.all a₀ DI))
theorem AgW(m:cz)(r:cf)(hr:r.short):F0 199 [Ad m,BP r] (db (Ci m r)):=by
 refine sv AqL 34 [2,3] (.b (.b (.c (db (r.am.all DI))<|.b (.c (db (r.ak.all DI)) .r) .r) .r) .r) ((((I (cc r.am):Int)==(I (df m.ay):Int))=J->(((I (cc r.ak):Int)==(I (df m.ay):Int))=J->Avm r.am/\(List.all r.am DI=J->Avm r.ak/\db (List.all r.ak DI)=db (Ci m r))/\(List.all r.am DI=O->db O=db (Ci m r)))/\(((I (cc r.ak):Int)==(I (df m.ay):Int))=O->db O=db (Ci m r)))/\(((I (cc r.am):Int)==(I (df m.ay):Int))=O->db O=db (Ci m r))) ?_
 refine⟨fun h1=>⟨fun h2=>⟨JU _ [] [] DI _ hr.am fun x _=>RV x,fun h3=>⟨JU _ [] [] DI _ hr.ak fun x _=>RV x,?_⟩,fun h3=>?_⟩,fun h2=>?_⟩,fun h1=>?_⟩<;>(simp only[HH] at*;simp[Ci, *])
noncomputable abbrev AqD:=Tryz.f200
noncomputable abbrev Ape:=Tryz.f252
theorem Abi(n:Nat)(hn:n<=1000000)(x:Int):F0 252 [di x,.v (.ref (vi n))] (db (A3 x (-1) (n-1))):=by
 refine sv Ape 8 [] (.c (db (A3 x (-1) (n-1))) .r) (F0 142 [di x,di (-1),di (yu yt ((n:Int)-1))] (db (A3 x (-1) ((n:Int)-1)))/\Q (db (A3 x (-1) ((n:Int)-1)))) ?_
 grind[Ak,EP]
def Eo(m:cz)(r:cf):Bool:=((I r.move:Int)==0)||(((I r.move:Int)==I m.ay)&&r.move.all fun x=>A3 x (-1) (I m.ay-1))
theorem AfA(m:cz)(hm:I m.ay<=1000000)(r:cf)(_:r.short):F0 200 [Ad m,BP r] (db (Eo m r)):=by
 refine sv AqD 26 [2,3] (.h (.q 2 0)<|.h (.f1 0 [5])<|.b .r (.b (.c (db (r.move.all fun x=>A3 x (-1) (I m.ay-1))) .r) .r)) ((((I (cc r.move):Int)==0)=J->db J=db (Eo m r))/\(((I (cc r.move):Int)==0)=O->(((I (cc r.move):Int)==(I (df m.ay):Int))=J->F0 204 [cx r.move,bt (bw 252 [] [bz (vi (I (df m.ay):Int))])] (db (List.all r.move fun x=>A3 x (-1) ((I m.ay:Int)-1)))/\db (List.all r.move fun x=>A3 x (-1) ((I m.ay:Int)-1))=db (Eo m r))/\(((I (cc r.move):Int)==(I (df m.ay):Int))=O->db O=db (Eo m r)))) ?_
 grind[JU,Abi,Eo]
noncomputable abbrev Ap1:=Tryz.f201
def Eu(m:cz)(r:cf):Bool:=if (r.act==0)=J then(r.chan==0)&&(r.letter==0) else A3 r.act 1 2&&(A3 r.chan 0 (I m.ay-1)&&A3 r.letter 0 (I m.ax-1))
noncomputable abbrev Asb:=fun a₀ b₀=>F0 198 [di a₀,di (I (df b₀):Int)] (db (A3 a₀ 0 ((I b₀:Int)-1)))
theorem Adm(m:cz)(hm:I m.ay<=1000000)(hl:I m.ax<=1000000)(r:cf):F0 201 [Ad m,BP r] (db (Eu m r)):=by
 refine sv Ap1 35 [2,3] (.b (.b .r .r) (.c (db (A3 r.act 1 2))<|.b (.c (db (A3 r.chan 0 (I m.ay-1)))<|.b (.c (db (A3 r.letter 0 (I m.ax-1))) .r) .r) .r)) (((r.act==0)=J->((r.chan==0)=J->db (r.letter==0)=db (Eu m r))/\((r.chan==0)=O->db O=db (Eu m r)))/\((r.act==0)=O->F0 142 [di r.act,di 1,di 2] (db (A3 r.act 1 2))/\(A3 r.act 1 2=J->Asb r.chan m.ay/\(A3 r.chan 0 ((I m.ay:Int)-1)=J->Asb r.letter m.ax/\db (A3 r.letter 0 ((I m.ax:Int)-1))=db (Eu m r))/\(A3 r.chan 0 ((I m.ay:Int)-1)=O->db O=db (Eu m r)))/\(A3 r.act 1 2=O->db O=db (Eu m r)))) ?_
 grind[EP,Eb,Eu]
noncomputable abbrev Aqj:=Tryz.f260
theorem Acd(a:List Tk):F0 260 [.v (AD a),.v (AD [])] (db (Y (a=[]))):=by
 refine sv Aqj 26 [] (.b .r (.n<|.f .r)) ((((I (U dh a):Int) !=(I (U dh []):Int))=J->db O=db (Y (a=[])))/\(((I (U dh a):Int) !=(I (U dh []):Int))=O->Y (0<(I (U dh a):Int))=O/\db J=db (Y (a=[])))) ?_
 simp_all
def Ch(a b:cf):Bool:=(a.name==b.name)&&((a.aj==b.aj)&&((a.to==b.to)&&(Y (a.am=b.am)&&(Y (a.ak=b.ak)&&(Y (a.move=b.move)&&((a.chan==b.chan)&&((a.act==b.act)&&((a.letter==b.letter)&&(Y (a.path=b.path)&&(Y (a.next=b.next)&&(Y (a.ar=[])&&(Y (a.aq=b.aq)&&(a.second==b.second)))))))))))))
noncomputable abbrev Am1:=Tryz.f206
theorem QF(a b:cf)(ha:a.short)(hb:b.ar=[]):F0 206 [BP a,BP b] (db (Ch a b)):=by
 refine sv Am1 101 [2,3] (.b (.b (.b (.c (db (Y (a.am=b.am)))<|.b (.c (db (Y (a.ak=b.ak)))<|.b (.c (db (Y (a.move=b.move)))<|.b (.b (.b (.b (.c (db (Y (a.path=b.path)))<|.b (.c (db (Y (a.next=b.next)))<|.b (.c (db (Y (a.ar=[])))<|.b (.c (db (Y (a.aq=b.aq)))<|.b .r .r) .r) .r) .r) .r) .r) .r) .r) .r) .r) .r) .r) .r) (((a.name==b.name)=J->((a.aj==b.aj)=J->((a.to==b.to)=J->F0 259 [cx a.am,cx b.am] (db (Y (a.am=b.am)))/\(Y (a.am=b.am)=J->F0 259 [cx a.ak,cx b.ak] (db (Y (a.ak=b.ak)))/\(Y (a.ak=b.ak)=J->F0 259 [cx a.move,cx b.move] (db (Y (a.move=b.move)))/\(Y (a.move=b.move)=J->((a.chan==b.chan)=J->((a.act==b.act)=J->((a.letter==b.letter)=J->F0 259 [cx a.path,cx b.path] (db (Y (a.path=b.path)))/\(Y (a.path=b.path)=J->F0 259 [cx a.next,cx b.next] (db (Y (a.next=b.next)))/\(Y (a.next=b.next)=J->F0 260 [bt (AD a.ar),bt (AD b.ar)] (db (Y (a.ar=[])))/\(Y (a.ar=[])=J->F0 259 [cx a.aq,cx b.aq] (db (Y (a.aq=b.aq)))/\(Y (a.aq=b.aq)=J->db (a.second==b.second)=db (Ch a b))/\(Y (a.aq=b.aq)=O->db O=db (Ch a b)))/\(Y (a.ar=[])=O->db O=db (Ch a b)))/\(Y (a.next=b.next)=O->db O=db (Ch a b)))/\(Y (a.path=b.path)=O->db O=db (Ch a b)))/\((a.letter==b.letter)=O->db O=db (Ch a b)))/\((a.act==b.act)=O->db O=db (Ch a b)))/\((a.chan==b.chan)=O->db O=db (Ch a b)))/\(Y (a.move=b.move)=O->db O=db (Ch a b)))/\(Y (a.ak=b.ak)=O->db O=db (Ch a b)))/\(Y (a.am=b.am)=O->db O=db (Ch a b)))/\((a.to==b.to)=O->db O=db (Ch a b)))/\((a.aj==b.aj)=O->db O=db (Ch a b)))/\((a.name==b.name)=O->db O=db (Ch a b))) ?_
 repeat' first|with_reducible refine And.intro ?_ ?_|intro _
 all_goals first|exact Er _ _ ha.am|exact Er _ _ ha.ak|exact Er _ _ ha.move|exact Er _ _ ha.path|exact Er _ _ ha.next|exact Er _ _ ha.aq|(rw[hb];exact Acd _)|simp[Ch, *]
def Rf(r:cf):cf:={ name:=r.name,aj:=r.aj,to:=r.to,am:=r.am,ak:=r.ak,move:=r.move,chan:=0,act:=0,letter:=0,path:=[],next:=[],ar:=[],aq:=[],second:=0 }
def MC(r:cf):cf:={ name:=r.name,aj:=r.aj,to:=r.to,am:=[],ak:=[],move:=[],chan:=r.chan,act:=r.act,letter:=r.letter,path:=[],next:=[],ar:=[],aq:=[],second:=0 }
noncomputable abbrev AbO:=Tryz.f147
def E8(m:cz)(r:cf):Bool:=A3 r.to 0 (I m.aw-1)&&(A3 r.aj 0 (I m.aw-1)&&(Ci m r&&(Eo m r&&Ch r (Rf r))))
structure cz.short(m:cz):Prop where
 aw:I m.aw<=1000000
 ay:I m.ay<=1000000
 ax:I m.ax<=1000000
 au:I m.au<=1000000
 av:I m.av<=1000000
 rule:∀r∈m.av,r.short
theorem SX(m:cz)(hm:m.short)(hk:m.kind=1)(r:cf)(hr:r.short):F0 147 [Ad m,BP r] (db (E8 m r)):=by
 refine sv AbO 142 [2,3] (.c (db (A3 r.to 0 (I m.aw-1)))<|.b .r<|.c (db (A3 r.aj 0 (I m.aw-1)))<|.b (.t .r)<|.k<|.t<|.c (db (Ci m r))<|.b (.c (db (Eo m r))<|.b (.c (db (Ch r (Rf r))) .r) .r) .r) (F0 198 [di r.to,di (I (U ae m.aw):Int)] (db (A3 r.to 0 ((I m.aw:Int)-1)))/\((!A3 r.to 0 ((I m.aw:Int)-1))=J->db O=db (E8 m r))/\((!A3 r.to 0 ((I m.aw:Int)-1))=O->F0 198 [di r.aj,di (I (U ae m.aw):Int)] (db (A3 r.aj 0 ((I m.aw:Int)-1)))/\((!A3 r.aj 0 ((I m.aw:Int)-1))=J->(m.kind !=6)=J/\db O=db (E8 m r))/\((!A3 r.aj 0 ((I m.aw:Int)-1))=O->(m.kind==1)=J/\F0 199 [Ad m,BP r] (db (Ci m r))/\(Ci m r=J->F0 200 [Ad m,BP r] (db (Eo m r))/\(Eo m r=J->F0 206 [BP r,bt (ab [ae r.name,vi r.aj,vi r.to,cw r.am,cw r.ak,cw r.move,vi 0,vi 0,vi 0,ai [],ai [],ai [],ai [],vi 0])] (db (Ch r (Rf r)))/\db (Ch r (Rf r))=db (E8 m r))/\(Eo m r=O->db O=db (E8 m r)))/\(Ci m r=O->db O=db (E8 m r))))) ?_
 repeat' first|with_reducible refine And.intro ?_ ?_|intro _
 all_goals first|(simpa using Eb _ _ hm.aw)|exact AgW m r hr|exact AfA m hm.ay r hr|exact QF r (Rf r) hr rfl|simp_all [E8]
def F1(m:cz)(r:cf):Bool:=A3 r.to 0 (I m.aw-1)&&(A3 r.aj 0 (I m.aw-1)&&(Eu m r&&Ch r (MC r)))
theorem SW(m:cz)(hm:m.short)(hk:m.kind=2∨m.kind=3)(r:cf)(hr:r.short):F0 147 [Ad m,BP r] (db (F1 m r)):=by
 refine sv AbO 142 [2,3] (.c (db (A3 r.to 0 (I m.aw-1)))<|.b .r<|.c (db (A3 r.aj 0 (I m.aw-1)))<|.b (.t .r)<|.k<|.f<|.b (.k<|.c (db (Eu m r))<|.b (.c (db (Ch r (MC r))) .r) .r) (.t<|.c (db (Eu m r))<|.b (.c (db (Ch r (MC r))) .r) .r)) (F0 198 [di r.to,di (I (U ae m.aw):Int)] (db (A3 r.to 0 ((I m.aw:Int)-1)))/\((!A3 r.to 0 ((I m.aw:Int)-1))=J->db O=db (F1 m r))/\((!A3 r.to 0 ((I m.aw:Int)-1))=O->F0 198 [di r.aj,di (I (U ae m.aw):Int)] (db (A3 r.aj 0 ((I m.aw:Int)-1)))/\((!A3 r.aj 0 ((I m.aw:Int)-1))=J->(m.kind !=6)=J/\db O=db (F1 m r))/\((!A3 r.aj 0 ((I m.aw:Int)-1))=O->(m.kind==1)=O/\((m.kind==2)=J->F0 201 [Ad m,BP r] (db (Eu m r))/\(Eu m r=J->F0 206 [BP r,bt (ab [ae r.name,vi r.aj,vi r.to,ai [],ai [],ai [],vi r.chan,vi r.act,vi r.letter,ai [],ai [],ai [],ai [],vi 0])] (db (Ch r (MC r)))/\db (Ch r (MC r))=db (F1 m r))/\(Eu m r=O->db O=db (F1 m r)))/\((m.kind==2)=O->(m.kind==3)=J/\F0 201 [Ad m,BP r] (db (Eu m r))/\(Eu m r=J->F0 206 [BP r,bt (ab [ae r.name,vi r.aj,vi r.to,ai [],ai [],ai [],vi r.chan,vi r.act,vi r.letter,ai [],ai [],ai [],ai [],vi 0])] (db (Ch r (MC r)))/\db (Ch r (MC r))=db (F1 m r))/\(Eu m r=O->db O=db (F1 m r)))))) ?_
 repeat' first|with_reducible refine And.intro ?_ ?_|intro _
 all_goals first|(simpa using Eb _ _ hm.aw)|exact Adm m hm.ay hm.ax r|exact QF r (MC r) hr rfl|(rcases hk with hk|hk<;>simp_all [F1])
end Go.Proofs.YtkkplhjidondkaaGreat

namespace Go.Nv
open Go.Dv
open Go.IntKind (u64)
open Go.IntKind renaming wrap → yu, i64 → yt
open List renaming length → I, map → U, drop → W
open Option renaming some → G
open Bool renaming true → J, false → O
open Decidable renaming decide → Y
open Int renaming toNat → Z
open Go.Dv.V renaming list → ai, str → ae, agg → ab, int → aa, ref → bz, fn → bw, nils → bv, bool → bu
open Go.Dv.D renaming v → bt, acc → br, ptr → bq, arr → bo, gro → bm, tup → bk, undef → bj, dagg → bi
open Go.Dv.St renaming mk → bh
open Go.Dv.KI renaming blk → bf
open _root_.ByteArray renaming mk → bc
open Go renaming Operand → x8, Program → x7, TypeId → x6, World → x5, Value → yz, Oper → yy, FuncId → yx, Func → yw, IntKind → yv
abbrev CS(m r:Nat)(l:List (List UInt8))(E0 E:cd):Prop:=vw r (Ds l) E0 E/\E.g.n<=m
theorem Amm(m r:Nat)(l:List (List UInt8)):NA (CS m r l):=⟨fun h _ _ _ hw=>h.1.link _ _ _ hw⟩
section
variable {P : x7} {R : List D -> St -> Prop} {k : List KI} {env : List D} {σ : St} {ops : Array yy} {L : List yy} {o : yy}
theorem WY{m:Nat}(t:Nat){ty:x6}(hg:BW env ops o=G true)(ht:o.dst=G t)(hop:o.op=.makeMap ty none)
  (hk:∀r:Nat,Cg (CS (I σ.H) r []) P R k ops L (env.set t (.raw (.map (G r)))) σ):Cg (CN m) P R k ops (o::L) env σ:=by
 intro E0 E g a w B hC hf hB
 unfold wpList
 rw[Ie (CD hf.env hg)]
 refine .inl ?_
 have hw:=(NF m).ok hC hf.wi
 have hput:=hf.put (hf.wi.alloc (.map #[] 0)) g.le_refl (d:=.raw (.map (G w.heap.size))) (u:=.map (G w.heap.size)) (by rfl) (G t)
 have hsize:(w.alloc (.map #[] 0)).heap.size=w.heap.size+1:=by simp
 obtain⟨h1,h2⟩:=vw.of (r:=w.heap.size) (ob:=.map #[] 0) (w1:=w.alloc (.map #[] 0)) hw
  (fun b hb=>by
   grind[World.alloc])
  (heap_alloc_new w _) (by omega) rfl rfl rfl hw.size (hw.rep.new_none (HP _)) (fun i cs hi=>Nat.ne_of_lt (hw.rep.obj_lt hi)) (fun x hx u hu hb=>by have:=hw.rep.own_lt hx hu hb;omega)
 have:=hk w.heap.size E0 _ g _ _ B ⟨h1,Nat.le_of_eq hw.rep.n⟩ ⟨h2,hput.env,hput.defers⟩ hB
 unfold Oper.wp execOp
 simpa[hop,Instr.makeMap,ht,Oper.upon] using this
theorem Aam{m:Nat}(t sm sk:Nat){ty kt et:x6}{r:Nat}{s:List UInt8}{l:List (List UInt8)}{inf:TypeInfo}(hg:BW env ops o=G true)(ht:o.dst=G t)(hop:o.op=.lookup ty (.tmp sm) (.tmp sk) false)
  (hty:P.underlying ty=G (.map kt et)) (hkt:P.underlying kt=G .string) (hi:P.info? et=G inf) (hz:inf.zero=G (.bool false)) (hm:env[sm]?=G (.raw (.map (G r)))) (hs:env[sk]?=G (.v (.str s)))
  (hk:Cg (CS m r l) P R k ops L (env.set t (.v (.bool (l.contains s)))) σ):Cg (CS m r l) P R k ops (o::L) env σ:=by
 intro E0 E g a w B hC hf hB
 unfold wpList
 rw[Ie (CD hf.env hg)]
 refine .inl ?_
 have e1:a.eval (.tmp sm)=.map (G r):=by have:=Gf hf.env sm;grind[VT,Ag]
 have e2:a.eval (.tmp sk)=.string ⟨s.toArray⟩:=by have:=Gf hf.env sk;grind[VT,Ag,Dt]
 have hnow:=(hC.1.side.now hf.wi).1
 obtain⟨q,hq⟩:=PM s l 0 0
 have:=hk E0 E g _ _ B hC (hf.put hf.wi g.le_refl (d:=.v (.bool (l.contains s))) (u:=.bool (l.contains s)) (by simp[Ag]) (G t)) hB
 have hrun:(Instr.lookup ty (.map (G r)) (.string ⟨s.toArray⟩) false).run P w=.ok (.bool (l.contains s)) w:=by
  have hget:(getObj r).run P w=.ok (Ds l) w:=by grind[getObj,Sem.run,Ds]
  have hfk:(Instr.findKey kt (.string ⟨s.toArray⟩) (GP 0 l)).run P w=.ok (if l.contains s then G (q,.bool true) else none) w:=by simp only[Instr.findKey,Sem.run_bind,run_underlying hkt,Result.andThen_ok,hq,Sem.run_pure]
  have hck:∀b,(Instr.checkKey b 10000 kt (.string ⟨s.toArray⟩)).run P w=.ok () w:=fun b=>by
   unfold Instr.checkKey;simp[run_underlying hkt]
  unfold Instr.lookup
  simp only[Sem.run_bind,run_underlying hty,Result.andThen_ok,hget,Ds,Sem.run_pure,hck,hfk]
  cases hc:l.contains s with
  |true=>simp
  |false=>simp[zeroValue,typeInfo,hi,hz]
 grind[Oper.wp,execOp,Sem.run_bind,Result.andThen_ok,Sem.run_pure,Oper.upon]
theorem Aal{m:Nat}(sm sk:Nat){v:x8}{ty kt et:x6}{r:Nat}{s:List UInt8}{l:List (List UInt8)}(hg:BW env ops o=G true)(ht:o.dst=none)(hop:o.op=.mapUpdate ty (.tmp sm) (.tmp sk) v)(hv:gr env v=.v (.bool true))
  (hty:P.underlying ty=G (.map kt et)) (hkt:P.underlying kt=G .string) (hm:env[sm]?=G (.raw (.map (G r)))) (hs:env[sk]?=G (.v (.str s))) (hnew:l.contains s=O)
  (hk:Cg (CS (I σ.H) r (l++[s])) P R k ops L env σ):Cg (CS m r l) P R k ops (o::L) env σ:=by
 intro E0 E g a w B hC hf hB
 unfold wpList
 rw[Ie (CD hf.env hg)]
 refine .inl ?_
 have e1:a.eval (.tmp sm)=.map (G r):=by have:=Gf hf.env sm;grind[VT,Ag]
 have e2:a.eval (.tmp sk)=.string ⟨s.toArray⟩:=by have:=Gf hf.env sk;grind[VT,Ag,Dt]
 have e3:a.eval v=.bool true:=by have:=Mw hf.wi.rep.gl hf.env v;grind[Ag,DW]
 obtain⟨hnow,hM,hobj,hown⟩:=hC.1.side.now hf.wi
 obtain⟨q,hq⟩:=PM s l 0 0
 rw[hnew] at hq
 obtain⟨h1,h2⟩:=vw.of (r:=r) (ob:=Ds (l++[s])) (w1:={ w with heap:=w.heap.setIfInBounds r (Ds (l++[s]))}) (hC.1.link _ _ _ hf.wi) (fun b hb=>by grind) (by grind) (by simp) rfl rfl rfl hC.1.new hM hobj hown
 have:=hk E0 _ g a _ B ⟨h1,Nat.le_of_eq hf.wi.rep.n⟩ ⟨h2,hf.env,hf.defers⟩ hB
 have hrun:(Instr.mapUpdate ty (.map (G r)) (.string ⟨s.toArray⟩) (.bool true)).run P w=.ok () { w with heap:=w.heap.setIfInBounds r (Ds (l++[s]))}:=by
  have hget:(getObj r).run P w=.ok (Ds l) w:=by grind[getObj,Sem.run,Ds]
  have hfk:(Instr.findKey kt (.string ⟨s.toArray⟩) (GP 0 l)).run P w=.ok none w:=by simp only[Instr.findKey,Sem.run_bind,run_underlying hkt,Result.andThen_ok,hq,Sem.run_pure];rfl
  have hck:∀b,(Instr.checkKey b 10000 kt (.string ⟨s.toArray⟩)).run P w=.ok () w:=fun b=>by
   rw[show(10000:Nat)=9999+1 from rfl];unfold Instr.checkKey;simp[run_underlying hkt]
  have hset:∀ob,(setObj r ob).run P w=.ok () { w with heap:=w.heap.setIfInBounds r ob }:=fun ob=>by grind[setObj,Sem.run,Ds]
  unfold Instr.mapUpdate
  simp only[Sem.run_bind,run_underlying hty,Result.andThen_ok,hget,Ds,hck,hfk]
  grind[No]
 unfold Oper.wp execOp
 simp only[hop,e1,e2,e3,Sem.run_bind,hrun,Result.andThen_ok]
 simp only[Sem.run_pure,Oper.upon,ht]
 exact this
end
def i7(L:List yy):yy:=match L with
 |o::_=>o
 |[]=>⟨none,.makeMap 0 none,0,"", #[],none⟩
theorem VJ{L:List yy}(h:L.isEmpty=O):L=i7 L::L.tail:=by cases L with
 |nil=>grind
 |cons o L=>rfl
def mmQ:Op->Bool|.makeMap _ none=>true|_=>false
def pv:Op->x6|.makeMap t _=>t|.lookup t _ _ _=>t|.mapUpdate t _ _ _=>t|_=>0
def luQ(sm sk:Nat):Op->Bool|.lookup _ (.tmp a) (.tmp b) false=>a==sm&&b==sk|_=>false
def muQ(sm sk:Nat):Op->Bool|.mapUpdate _ (.tmp a) (.tmp b) (.const (.bool true))=>a==sm&&b==sk|_=>false
theorem Ami{o:Op}(h:mmQ o=J):o=.makeMap (pv o) none:=by
 unfold mmQ at h;split at h
 ·rfl
 grind
theorem Amj{sm sk:Nat}{o:Op}(h:luQ sm sk o=J):o=.lookup (pv o) (.tmp sm) (.tmp sk) false:=by
 unfold luQ at h;grind[pv]
theorem Amh{sm sk:Nat}{o:Op}(h:muQ sm sk o=J):o=.mapUpdate (pv o) (.tmp sm) (.tmp sk) (.const (.bool true)):=by
 unfold muQ at h;grind[pv]
def va(P:x7)(ty:x6):Bool:=match P.underlying ty with
 |some (.map kt et)=>(match P.underlying kt with
  |some .string=>true
  |_=>false)&&(match P.info? et with
  |some inf=>(match inf.zero with
   |some (.bool false)=>true
   |_=>false)
  |_=>false)
 |_=>false
theorem AhH{P:x7}{ty:x6}(h:va P ty=J):∃kt et inf,P.underlying ty=G (.map kt et)/\P.underlying kt=G .string/\P.info? et=G inf/\inf.zero=G (.bool false):=by
 grind[va]
theorem PB(n:Nat)(E:List (Nat×D))(t:Nat)(d:D):cy n (E++[(t,d)])=(cy n E).set t d:=by grind[cy]
section
variable {P : x7} {R : List D -> St -> Prop} {k : List KI} {nt : Nat} {E : List (Nat × D)} {σ : St} {ops : Array yy} {L0 : List yy}
theorem SV{m:Nat}(t:Nat)(h0:L0.isEmpty=O)(hg:BW (cy nt E) ops (i7 L0)=G true)(ht:(i7 L0).dst=G t)(hop:mmQ (i7 L0).op=J)
  (hk:∀r:Nat,Cg (CS (I σ.H) r []) P R k ops L0.tail (cy nt (E++[(t,.raw (.map (G r)))])) σ):Cg (CN m) P R k ops L0 (cy nt E) σ:=by
 rw[VJ h0]
 exact WY t hg ht (Ami hop) fun r=>by grind[PB]
theorem WZ{m:Nat}(t sm sk:Nat){r:Nat}{s:List UInt8}{l:List (List UInt8)}(h0:L0.isEmpty=O)(hg:BW (cy nt E) ops (i7 L0)=G true)(ht:(i7 L0).dst=G t)(hop:luQ sm sk (i7 L0).op=J)
  (hty:va P (pv (i7 L0).op)=J) (hm:(cy nt E)[sm]?=G (.raw (.map (G r)))) (hs:(cy nt E)[sk]?=G (.v (.str s)))
  (hk:Cg (CS m r l) P R k ops L0.tail (cy nt (E++[(t,.v (.bool (l.contains s)))])) σ):Cg (CS m r l) P R k ops L0 (cy nt E) σ:=by
 obtain⟨kt,et,inf,h1,h2,h3,h4⟩:=AhH hty
 rw[VJ h0]
 exact Aam t sm sk hg ht (Amj hop) h1 h2 h3 h4 hm hs (by grind[PB])
theorem WX{m:Nat}(sm sk:Nat){r:Nat}{s:List UInt8}{l:List (List UInt8)}(h0:L0.isEmpty=O)(hg:BW (cy nt E) ops (i7 L0)=G true)(ht:(i7 L0).dst=none)(hop:muQ sm sk (i7 L0).op=J)
  (hty:va P (pv (i7 L0).op)=J) (hm:(cy nt E)[sm]?=G (.raw (.map (G r)))) (hs:(cy nt E)[sk]?=G (.v (.str s))) (hnew:l.contains s=O)
  (hk:Cg (CS (I σ.H) r (l++[s])) P R k ops L0.tail (cy nt E) σ):Cg (CS m r l) P R k ops L0 (cy nt E) σ:=by
 obtain⟨kt,et,inf,h1,h2,h3,h4⟩:=AhH hty
 rw[VJ h0]
 exact Aal sm sk hg ht (Amh hop) rfl h1 h2 hm hs hnew hk
end
section
variable {P : x7} {fn : yw} {d : D} {σ' : St} {m r : Nat} {l : List (List UInt8)} {k : List KI} {E : List (Nat × D)} {σ : St}
theorem Aau(hm:P.follows .mixedOrders=J)(nt:Nat)(im:List Nat)(rg i:Nat){ops:Array yy}{L:List yy}(s:Sc)
  (h:AX (cy nt E) fun env=>YH P im rg ops (fun L sl σ=>It (Cg (CS m r l) P (fun env σ1=>A9 P fn env σ1 d σ') (k++[]) ops L (cy nt sl) σ)) L i s env σ fun s env σ=>vc (CS m r l) m P (fun env σ1=>A9 P fn env σ1 d σ') (Zr P fn.results.toList d σ') nt im [] 10000 s k env σ):
  Cg (CS m r l) P (fun env σ1=>A9 P fn env σ1 d σ') k ops L (cy nt E) σ:=by
 have:=Pt hm (Amm m r l) m (fun _ _ h=>h.2) nt im rg i s h
 grind
theorem Al9(hm:P.follows .mixedOrders=J)(nt:Nat)(im:List Nat)(s:Sc)
  (h:AX (cy nt E) fun env=>vc (CS m r l) m P (fun env σ1=>A9 P fn env σ1 d σ') (Zr P fn.results.toList d σ') nt im [] 10000 (.h .n s) k env σ):
  A2 (CS m r l) P (fun env σ1=>A9 P fn env σ1 d σ') k (cy nt E) σ:=by
 have:=AhJ (T:=[]) hm (Amm m r l) m (fun _ _ h=>h.2) nt im (.h .n s) h
 grind
end
end Go.Nv

namespace Go.Proofs.YtkkplhjidondkaaGreat
open Go.Dv Go.Nv
set_option maxRecDepth 20000
open List (drop_of_length_le headD replicate take)
open Go.IntKind (u64)
open Go.IntKind renaming wrap → yu, i64 → yt
open List renaming length → I, map → U, drop → W
open Option renaming some → G
open Bool renaming true → J, false → O
open Decidable renaming decide → Y
open Int renaming toNat → Z
open Go.Dv.V renaming list → ai, str → ae, agg → ab, int → aa, ref → bz, fn → bw, nils → bv, bool → bu
open Go.Dv.D renaming v → bt, acc → br, ptr → bq, arr → bo, gro → bm, tup → bk, undef → bj, dagg → bi
open Go.Dv.St renaming mk → bh
open Go.Dv.KI renaming blk → bf
open _root_.ByteArray renaming mk → bc
open Go renaming Operand → x8, Program → x7, TypeId → x6, World → x5, Value → yz, Oper → yy, FuncId → yx, Func → yw, IntKind → yv
noncomputable abbrev AqG:=Tryz.f247
noncomputable abbrev AqJ:=Tryz.f280
noncomputable abbrev AoV:=Tryz.f249
def Sv(c:UInt8):Bool:=Y ((c.toNat:Int)>=97)&&Y ((c.toNat:Int)<=122)
def mz(c:UInt8):Bool:=Y ((c.toNat:Int)>=48)&&Y ((c.toNat:Int)<=57)
def DZ(c:UInt8):Bool:=Sv c||(mz c||((c.toNat:Int)==95))
theorem V8(c:UInt8):F0 247 [.v (vb c)] (db (Sv c)):=by
 refine sv AqG 9 [] (.b .r .r) ((Y ((↑(UInt8.toNat c):Int)>=97)=J->db (Y ((↑(UInt8.toNat c):Int)<=122))=db (Sv c))/\(Y ((↑(UInt8.toNat c):Int)>=97)=O->db O=db (Sv c))) ?_
 grind[Sv]
theorem Ag3(c:UInt8):F0 280 [.v (vb c)] (db (mz c)):=by
 refine sv AqJ 9 [] (.b .r .r) ((Y ((↑(UInt8.toNat c):Int)>=48)=J->db (Y ((↑(UInt8.toNat c):Int)<=57))=db (mz c))/\(Y ((↑(UInt8.toNat c):Int)>=48)=O->db O=db (mz c))) ?_
 grind[mz]
theorem AaH(c:UInt8):F0 249 [.v (vb c)] (db (DZ c)):=by
 refine sv AoV 13 [] (.c (db (Sv c))<|.b .r<|.c (db (mz c))<|.b .r .r) (F0 247 [bt (aa IntKind.u8 (↑(UInt8.toNat c):Int))] (db (Sv c))/\(Sv c=J->db J=db (DZ c))/\(Sv c=O->F0 280 [bt (aa IntKind.u8 (↑(UInt8.toNat c):Int))] (db (mz c))/\(mz c=J->db J=db (DZ c))/\(mz c=O->db ((↑(UInt8.toNat c):Int)==95)=db (DZ c)))) ?_
 grind[V8,Ag3,DZ]
noncomputable abbrev uk:=Tryz.f248
noncomputable def ra:=yl uk
def Qn(p:UInt8->Bool):List UInt8->Nat
 |[]=>0
 |c::s=>if p c then Qn p s+1 else 0
noncomputable abbrev tp:=fun a₀=>[ke 0,ke 1,ch 5 (di (a₀+1:Nat))]
noncomputable abbrev oz:=fun a₀=>(1,bt (bw a₀ [] []))
theorem fc(F:yx)(p:UInt8->Bool)(s:List UInt8)(hs:I s<=1000000)(hp:∀c∈s,F0 F [.v (vb c)] (db (p c)))(n:Nat):∀k:Nat,I s-k=n->k<=I s->
  Rn PP uk 0 (di ((k+Qn p (s.drop k):Nat):Int)) ba ([kl ra [1,1,0,0,0],.blk 0,kc ra [1,1,1]]++[]) (cy 20 [(0,ds s),(1,.v (.fn F [] [])),(5,di k)]) ba:=by
 induction n using Nat.strongRecOn with
 |_ n ih=>
 intro k hn hk0
 refine lv 20 [] (.b (.e fun c:UInt8=>.y c<|.c (db (p c))<|.b (.l (tp k)) .r) (.k .r)) ((Y ((k:Int)<(I s:Int))=J->∃a,0<=(k:Int)/\s[Z (k:Int)]?=G a/\Aa PP F [bt (aa IntKind.u8 (↑(UInt8.toNat a):Int))] d7 (db (p a)) d7/\(p a=J->di (yu yt ((k:Int)+1))=di (↑(k+1):Int)/\Nv.It (A2 (CN 0) PP (fun env σ1=>A9 PP uk env σ1 (di (↑(k+Qn p (W k s)):Int)) ba) [kl ra [1,1,0,0,0],bf 0,kc ra [1,1,1]] (cy 20 [(0,bt (ae s)),(oz F),(5,di (↑(k+1):Int))]) ba))/\(p a=O->di (k:Int)=di (↑(k+Qn p (W k s)):Int)))/\(Y ((k:Int)<(I s:Int))=O->di (k:Int)=di (↑(k+Qn p (W k s)):Int))) ⟨fun h=>?_,fun h=>?_⟩
 ·have hk:k<I s:=by simpa using h
  have hx:s[k]?=G s[k]:=HI hk
  have hih:=ih (I s- (k+1)) (by omega) (k+1) rfl hk
  rw[HX hk]
  generalize s[k]=c at hx⊢
  refine⟨c,by omega,by simpa using hx,by simpa using hp c (HO hx),fun h2=>⟨Ae,⟨?_⟩⟩,fun h2=>?_⟩
  ·simp only[Qn,h2,IT]
   rw[show k+(Qn p (s.drop (k+1))+1)=k+1+Qn p (s.drop (k+1)) by omega]
   exact hih
  ·simp[Qn,h2]
 grind[Qn]
noncomputable abbrev wm:=[ke 0,ke 1,ch 5 (di (0:Nat))]
theorem AeK(F:yx)(p:UInt8->Bool)(s:List UInt8)(hs:I s<=1000000)(hp:∀c∈s,F0 F [.v (vb c)] (db (p c))):F0 248 [ds s,.v (.fn F [] [])] (di (Qn p s)):=by
 refine sv uk 20 [] (.l wm) (Q (di 0)/\I0 uk (I ba.H) (di (↑(Qn p s):Int)) ba [kl ra [1,1,0,0,0],bf 0,kc ra [1,1,1]] (cy 20 [(0,bt (ae s)),(oz F),(5,di (↑0:Int))]) ba) ⟨rfl,⟨?_⟩⟩
 have:=fc F p s hs hp _ 0 rfl (by omega)
 grind
noncomputable abbrev AoJ:=Tryz.f196
def Ey(s:List UInt8):Bool:=(s !=[])&&(Y ((I s:Int)<=12)&&(Sv (s.headD 0)&&((Qn DZ s:Int)==I s)))
theorem AiT{s:List UInt8}(h:Y ((I s:Int)<=12)=J):I s<=1000000:=by
 grind
theorem Zd(s:List UInt8):F0 196 [ds s] (db (Ey s)):=by
 refine sv AoJ 22 [] (.b (.b (.y (s.headD 0)<|.c (db (Sv (s.headD 0)))<|.b (.c (di (Qn DZ s)) .r) .r) .r) .r) (((!s==(bc #[]).data.toList)=J->(Y ((I s:Int)<=12)=J->iz 0<=0/\s[Z 0]?=G (headD s 0)/\F0 247 [bt (aa IntKind.u8 (↑(UInt8.toNat (headD s 0)):Int))] (db (Sv (headD s 0)))/\(Sv (headD s 0)=J->F0 248 [bt (ae s),bt (bw 249 [] [])] (di (↑(Qn DZ s):Int))/\db ((↑(Qn DZ s):Int)==(I s:Int))=db (Ey s))/\(Sv (headD s 0)=O->db O=db (Ey s)))/\(Y ((I s:Int)<=12)=O->db O=db (Ey s)))/\((!s==(bc #[]).data.toList)=O->db O=db (Ey s))) ⟨fun h1=>⟨fun h2=>⟨by simp,?_,V8 _,fun h3=>⟨AeK _ DZ s (AiT h2) fun c _=>AaH c,?_⟩,fun h3=>?_⟩,fun h2=>?_⟩,fun h1=>?_⟩
 ·cases s with
  |nil=>simp[] at h1
  |cons a s=>rfl
 all_goals simp_all [Ey]
 omega
theorem CC{l:List (List UInt8)}{k:Nat}{s:List UInt8}(h:l[k]?=G s):(l.map ae)[Z (k:Int)]?=G (.str s):=by simp[h]
noncomputable abbrev ut:=Tryz.f281
noncomputable def rm:=yl ut
theorem Agd(l:List (List UInt8))(v:List UInt8)(hl:I l<=1000000)(n:Nat):∀k:Nat,I l-k=n->
  Rn PP ut 0 (di (de (· ==v) (l.drop k) k)) ba ([kl rm [1,0,1,0,0],.blk 0,kc rm [1,1]]++[]) (cy 19 [(0,dl (l.map ae)),(1,.v (ae v)),(7,di (I l)),(8,di k)]) ba:=by
 induction n using Nat.strongRecOn with
 |_ n ih=>
 intro k hn
 refine lv 19 [] (.b (.e fun x:List UInt8=>.x (ae x)<|.b .r (.l (qj k))) .r) ((Y ((k:Int)<(I l:Int))=J->∃a,0<=(k:Int)/\(U ae l)[Z (k:Int)]?=G (ae a)/\((v==a)=J->di (k:Int)=di (de (fun x=>x==v) (W k l) k))/\((v==a)=O->di (yu yt ((k:Int)+1))=di (↑(k+1):Int)/\Nv.It (A2 (CN 0) PP (fun env σ1=>A9 PP ut env σ1 (di (de (fun x=>x==v) (W k l) k)) ba) [kl rm [1,0,1,0,0],bf 0,kc rm [1,1]] (cy 19 [(0,bt (kh l)),(1,bt (ae v)),(7,di (I l:Int)),(8,di (↑(k+1):Int))]) ba)))/\(Y ((k:Int)<(I l:Int))=O->di (-1)=di (de (fun x=>x==v) (W k l) k))) ⟨fun h=>?_,fun h=>?_⟩
 ·have hk:k<I l:=by simpa using h
  have hx:l[k]?=G l[k]:=HI hk
  rw[HX hk]
  generalize l[k]=x at hx⊢
  refine⟨x,by omega,CC hx,fun hf=>?_,fun hf=>⟨Ae,⟨?_⟩⟩⟩
  ·have:v=x:=by simpa using hf
   subst this;simp[de]
  ·have h2:v≠x:=by simpa using hf
   have:(x==v)=O:=by simpa using fun e=>h2 e.symm
   simp only[de,this]
   exact ih (I l- (k+1)) (by omega) (k+1) rfl
 grind[drop_of_length_le,de]
theorem Agc(l:List (List UInt8))(v:List UInt8)(hl:I l<=1000000):F0 281 [dl (l.map ae),.v (ae v)] (di (de (· ==v) l 0)):=by
 refine sv ut 19 [] (.l [ke 0,ke 1,ch 7 (di (I l)),ch 8 (di (0:Nat))]) (di (I (U ae l):Int)=di (I l:Int)/\Q (di 0)/\I0 ut (I ba.H) (di (de (fun x=>x==v) l 0)) ba [kl rm [1,0,1,0,0],bf 0,kc rm [1,1]] (cy 19 [(0,dl (U ae l)),(1,bt (ae v)),(7,di (I l:Int)),(8,di (↑0:Int))]) ba) ⟨by simp,rfl,⟨?_⟩⟩
 exact Agd l v hl _ 0 rfl
noncomputable abbrev Apu:=Tryz.f250
theorem Ac2(l:List (List UInt8))(v:List UInt8)(hl:I l<=1000000):F0 250 [dl (l.map ae),.v (ae v)] (db (l.any (· ==v))):=by
 refine sv Apu 9 [] (.c (di (de (· ==v) l 0)) .r) (F0 281 [bt (kh l),bt (ae v)] (di (de (fun x=>x==v) l 0))/\db (Y (de (fun x=>x==v) l 0>=0))=db (List.any l fun x=>x==v)) ?_
 grind[Agc,FH]
def su:List (List UInt8):=[[109,111,100,101,108],[115,116,97,116,101,115],[112,108,97,99,101,115],[108,101,116,116,101,114,115],[108,101,118,101,108,115],[97,103,101],[114,117,108,101],[110,101,101,100],[103,105,118,101],[109,111,118,101],[101,109,112,116,121],[115,101,110,100],[114,101,99,101,105,118,101],[112,97,116,104],[110,101,120,116],[116,97,107,101],[109,97,107,101],[115,116,97,114,116]]
def X9(s:List UInt8):Bool:=su.any (· ==s)
noncomputable abbrev fKw:=Tryz.f197
theorem Aj4(s:List UInt8):F0 197 [ds s] (db (X9 s)):=by
 exact sv fKw 6 [] (.c (db (X9 s)) .r) (_/\Q (db (X9 s))) ⟨Ac2 su s (by decide),rfl⟩
noncomputable abbrev lz:=Tryz.f145
noncomputable def EN:=yl lz
def iy(used:List (List UInt8)):List (List UInt8)->Bool
 |[]=>true
 |s::l=>Ey s&&(!X9 s&&(!used.contains s&&iy (used++[s]) l))
def Cj(m:cz):List (List UInt8):=[m.aw,m.ay,m.ax].flatten
def Gm(m:cz):List (List UInt8):=Cj m++m.av.map cf.name
def F3(m:cz):Bool:=iy [] (Gm m)
abbrev W0(l:List (List UInt8)):D:=.acc 1 (l.map ae)
abbrev mx(l:List (List UInt8)):St:=⟨[],[(1,1,l.map ae)]⟩
noncomputable abbrev ql:=fun a₀=>(3,D.raw (Value.map (G a₀)))
theorem Abg(r:Nat)(l:List (List UInt8))(hl:I l<=1000000)(n:Nat):∀k:Nat,I l-k=n->k<=I l->
  A2 (CS 0 r (l.take k)) PP (fun env σ1=>A9 PP lz env σ1 (db (iy (l.take k) (l.drop k))) ba) [kl EN [1,1,1,1,0,1,0,0],.blk 2,kc EN [1,1,1,1,1]] (cy 52 [(3,.raw (.map (G r))),(31,dl (l.map ae)),(32,di (I l)),(33,di k)]) ba:=by
 induction n using Nat.strongRecOn with
 |_ n ih=>
 intro k hn hk0
 refine Al9 mixed 52 [1] (.b (.e fun s:List UInt8=>.x (.str s)<|.c (db (Ey s))<|.b .r (.c (db (X9 s))<|.b .r (.h (.q 11 10)<|.h (.s [ke 3,ke 8,ke 31,ke 32,ke 33,ke 44,ke 45,ke 46]) .z))) .r) ?_
 refine fv (by kernel_rfl:((Y ((k:Int)<(I l:Int))=J->∃a,0<=(k:Int)/\(U ae l)[Z (k:Int)]?=G (ae a)/\Aa PP 196 [bt (ae a)] d7 (db (Ey a)) d7/\((!Ey a)=J->db O=db (iy (take k l) (W k l)))/\((!Ey a)=O->Aa PP 197 [bt (ae a)] d7 (db (X9 a)) d7/\(X9 a=J->db O=db (iy (take k l) (W k l)))/\(X9 a=O->Nv.It (Cg (CS 0 r (take k l)) PP (fun env σ1=>A9 PP lz env σ1 (db (iy (take k l) (W k l))) ba) [kc EN [1,1,1,1,0,1,0,0,1,1,0,0,1,0,1],kc EN [1,1,1,1,0,1,0,0,1,1,0,0,1,1],bf 3,kc EN [1,1,1,1,0,1,0,0,1,1,1],kl EN ia,bf 2,kc EN [1,1,1,1,1]] (Bz (sub EN [1,1,1,1,0,1,0,0,1,1,0,0,1,0,0])) (W 10 (Bz (sub EN [1,1,1,1,0,1,0,0,1,1,0,0,1,0,0])).toList) (cy 52 [(ql r),(8,bt (ae a)),(31,bt (kh l)),(32,di (I l:Int)),(33,di (k:Int)),(44,db O),(45,D.raw (Value.map (G r))),(46,bt (ae a))]) ba))))/\(Y ((k:Int)<(I l:Int))=O->db J=db (iy (take k l) (W k l))))=_) ?_
 refine⟨fun h=>?_,fun h=>?_⟩
 ·have hk:k<I l:=by simpa using h
  have hx:l[k]?=G l[k]:=HI hk
  have hih:=ih (I l- (k+1)) (by omega) (k+1) rfl hk
  rw[List.take_succ_eq_append_getElem hk] at hih
  rw[HX hk]
  generalize l[k]=s at hx hih⊢
  refine⟨s,by omega,by simp[hx],Zd s,fun h1=>?_,fun h1=>⟨Aj4 s,fun h2=>?_,fun h2=>⟨?_⟩⟩⟩
  ·simp only[Bool.not_eq_eq_eq_not,Bool.not_true] at h1;simp[iy,h1]
  ·simp[iy,h2]
  ·have h1:Ey s=J:=by simpa using h1
   refine WZ (s:=s) 47 45 46 rfl (by kernel_rfl) (by kernel_rfl) (by kernel_rfl) (by kernel_rfl) (by kernel_rfl) (by kernel_rfl) ?_
   refine Aau mixed 52 [1] 11 11 (.b .r (.h (.q 13 2)<|.h (.s [ke 3,ke 8,ke 31,ke 32,ke 33,ke 49,ke 50]) .z)) ?_
   refine fv (by kernel_rfl:((List.contains (take k l) s=J->db O=db (iy (take k l) (s::W (k+1) l)))/\(List.contains (take k l) s=O->Nv.It (Cg (CS 0 r (take k l)) PP (fun env σ1=>A9 PP lz env σ1 (db (iy (take k l) (s::W (k+1) l))) ba) [bf 3,kc EN [1,1,1,1,0,1,0,0,1,1,1],kl EN ia,bf 2,kc EN [1,1,1,1,1]] (Bz (sub EN [1,1,1,1,0,1,0,0,1,1,0,0,1,1])) (W 2 (Bz (sub EN [1,1,1,1,0,1,0,0,1,1,0,0,1,1])).toList) (cy 52 [(ql r),(8,bt (ae s)),(31,bt (kh l)),(32,di (I l:Int)),(33,di (k:Int)),(49,D.raw (Value.map (G r))),(50,bt (ae s))]) ba)))=_) ?_
   refine⟨fun h3=>?_,fun h3=>⟨?_⟩⟩
   ·simp only[iy,h3,Bool.not_true,Iq,Jv]
   ·refine WX (s:=s) 49 50 rfl (by kernel_rfl) (by kernel_rfl) (by kernel_rfl) (by kernel_rfl) (by kernel_rfl) (by kernel_rfl) h3 ?_
    refine Aau mixed 52 [1] 13 3 (.ls [ke 3,ke 31,ke 32,ch 33 (di (k+1:Nat))] ba) ?_
    refine fv (by kernel_rfl:(di (yu yt ((k:Int)+1))=di (↑(k+1):Int)/\Nv.It (A2 (CS (I ba.H) r (take k l++[s])) PP (fun env σ1=>A9 PP lz env σ1 (db (iy (take k l) (s::W (k+1) l))) ba) [kl EN ia,bf 2,kc EN [1,1,1,1,1]] (cy 52 [(ql r),(31,bt (kh l)),(32,di (I l:Int)),(33,di (↑(k+1):Int))]) ba))=_) ?_
    refine⟨Ae,⟨?_⟩⟩
    simp only[iy,h1,h2,h3,Bool.not_false,Is]
    exact hih
 grind[iy]
noncomputable abbrev gb:=[1,1,1,0,1,0,0]
theorem Abh(r:Nat)(m:cz)(b:List (List UInt8))(_:I m.av<=1000000)(hb:I b+I m.av<=1000000)(n:Nat):∀k:Nat,I m.av-k=n->k<=I m.av->
  A2 (CS 0 r []) PP (fun env σ1=>A9 PP lz env σ1 (db (iy [] (b++m.av.map cf.name))) ba) [kl EN [1,1,1,0,1,0,0],.blk 0,kc EN [1,1,1,1]] (cy 52 [(3,.raw (.map (G r))),(4,W0 (b++(m.av.take k).map cf.name)),(19,dl (m.av.map Al)),(20,di (I m.av)),(21,di k)]) (mx (b++(m.av.take k).map cf.name)):=by
 induction n using Nat.strongRecOn with
 |_ n ih=>
 intro k hn hk0
 refine Al9 mixed 52 [1] (.b (.e fun x:cf=>.h (.xs (Al x))<|.w<|.ls [ke 3,ch 4 (W0 (b++(m.av.take (k+1)).map cf.name)),ke 19,ke 20,ch 21 (di (k+1:Nat))] (mx (b++(m.av.take (k+1)).map cf.name))) (.h (.q 8 0)<|.h (.un 4)<|.ls [ke 3,ch 31 (dl ((b++m.av.map cf.name).map ae)),ch 32 (di (I (b++m.av.map cf.name))),ch 33 (di (0:Nat))] ba)) ?_
 refine fv (by kernel_rfl:((Y ((k:Int)<(I m.av:Int))=J->∃a,14=14/\0<=(k:Int)/\(U Al m.av)[Z (k:Int)]?=G (Al a)/\U ae (b++U cf.name (take k m.av))=U ae (b++U cf.name (take k m.av))/\Ao (I (U ae (b++U cf.name (take k m.av)))+I (ae a.name::nV)) 16/\(∀(y:V),y∈ [ae a.name]->V.size y=1)/\br 1 (U ae (b++U cf.name (take k m.av))++[ae a.name])=W0 (b++U cf.name (take (k+1) m.av))/\di (yu yt ((k:Int)+1))=di (↑(k+1):Int)/\[(1,1,U ae (b++U cf.name (take k m.av))++ae a.name::nV)]=[(1,1,U ae (b++U cf.name (take (k+1) m.av)))]/\Nv.It (A2 (CS 0 r []) PP (fun env σ1=>A9 PP lz env σ1 (db (iy [] (b++U cf.name m.av))) ba) [kl EN gb,bf 0,kc EN [1,1,1,1]] (cy 52 [(ql r),(4,W0 (b++U cf.name (take (k+1) m.av))),(19,bt (ai (U Al m.av))),(20,di (I m.av:Int)),(21,di (↑(k+1):Int))]) (mx (b++U cf.name (take (k+1) m.av)))))/\(Y ((k:Int)<(I m.av:Int))=O->bt (ai (U ae (b++U cf.name (take k m.av))))=dl (U ae (b++U cf.name m.av))/\di (I (U ae (b++U cf.name (take k m.av))):Int)=di (I (b++U cf.name m.av):Int)/\di 0=di (↑0:Int)/\Nv.It (A2 (CS 0 r []) PP (fun env σ1=>A9 PP lz env σ1 (db (iy [] (b++U cf.name m.av))) ba) [kl EN ia,bf 2,kc EN [1,1,1,1,1]] (cy 52 [(ql r),(31,dl (U ae (b++U cf.name m.av))),(32,di (I (b++U cf.name m.av):Int)),(33,di (↑0:Int))]) ba)))=_) ?_
 refine⟨fun h=>?_,fun h=>?_⟩
 ·have hk:k<I m.av:=by grind
  have hx:m.av[k]?=G m.av[k]:=HI hk
  have hih:=ih (I m.av- (k+1)) (by omega) (k+1) rfl hk
  have hl:I (b++(m.av.take k).map cf.name)<=1000000:=by simp;omega
  have ht:b++(m.av.take (k+1)).map cf.name=b++(m.av.take k).map cf.name++[(m.av[k]).name]:=by rw[List.take_succ_eq_append_getElem hk,IZ,IQ];rfl
  rw[ht] at hih⊢
  generalize m.av[k]=x at hx hih⊢
  generalize b++(m.av.take k).map cf.name=p at hl hih⊢
  refine⟨x,rfl,by omega,by simp[hx],rfl,?_,by simp[V.size],by simp,Ae,by simp,⟨hih⟩⟩
  exact⟨by grind[List.length_nil],by grind[List.length_nil]⟩
 ·have hk:I m.av<=k:=by grind
  rw[Im hk]
  refine⟨rfl,by simp,rfl,⟨?_⟩⟩
  exact Abg r _ (by grind) _ 0 rfl (by omega)
noncomputable abbrev gd:=fun a₀=>(bz (A0 a₀))
theorem V1(m:cz)(h1:I (Cj m)+I m.av<=1000000):F0 145 [Ad m] (db (F3 m)):=by
 refine sv lz 52 [1] (.h (.q 1 0)<|.h (.s [ke 1]) .z) (Nv.It (Cg (CN (I ba.H)) PP (fun env σ1=>A9 PP lz env σ1 (db (F3 m)) ba) [kc EN [1,1]] (Bz (sub EN [1,0])) (W 0 (Bz (sub EN [1,0])).toList) (cy 52 [(1,bt (gd m))]) ba)) ⟨SV 9 rfl (by rfl) (by kernel_rfl) (by rfl) fun r=>?_⟩
 refine Aau mixed 52 [1] 1 1 (.h (.ck 1 1 1 ((Cj m).map ae))<|.ls [ke 3,ch 4 (W0 (Cj m++(m.av.take 0).map cf.name)),ke 19,ch 20 (di (I m.av)),ch 21 (di (0:Nat))] (mx (Cj m++(m.av.take 0).map cf.name))) ?_
 refine fv (by kernel_rfl:(Aa PP 195 [bt (ai [cp m.aw,cp m.ay,cp m.ax])] d7 (br 1 (U ae (Cj m))) (bh [] [(1,1,U ae (Cj m))])/\br 1 (U ae (Cj m))=W0 (Cj m++U cf.name (take 0 m.av))/\di (I (U Al m.av):Int)=di (I m.av:Int)/\di 0=di (↑0:Int)/\[(1,1,U ae (Cj m))]=[(1,1,U ae (Cj m++[]))]/\Nv.It (A2 (CS (I ba.H) r []) PP (fun env σ1=>A9 PP lz env σ1 (db (F3 m)) ba) [kl EN gb,bf 0,kc EN [1,1,1,1]] (cy 52 [(ql r),(4,W0 (Cj m++U cf.name (take 0 m.av))),(19,bt (BF m.av)),(20,di (I m.av:Int)),(21,di (↑0:Int))]) (mx (Cj m++U cf.name (take 0 m.av)))))=_) ?_
 refine⟨Ac5 [m.aw,m.ay,m.ax] (by grind) (by grind[Cj]),by simp,by simp,rfl,by simp,⟨?_⟩⟩
 exact Abh r m (Cj m) (by omega) h1 _ 0 rfl (by omega)
inductive cr where
 |nat
 |lab (n:Int)
 |prod (l:List cr)
 |word (t:cr)
 |bag (t:cr)
 |prio (n:Int) (r:List Int)
 deriving Inhabited
mutual
def cr.enc:cr->V
 |.nat=>.agg [vi 1,vi 0,.list [],.list []]
 |.lab n=>.agg [vi 2,vi n,.list [],.list []]
 |.prod l=>.agg [vi 3,vi 0,.list [],.list (cr.encs l)]
 |.word t=>.agg [vi 4,vi 0,.list [],.list [t.enc]]
 |.bag t=>.agg [vi 5,vi 0,.list [],.list [t.enc]]
 |.prio n r=>.agg [vi 7,vi n,cw r,.list []]
def cr.encs:List cr->List V
 |[]=>[]
 |t::l=>t.enc::cr.encs l
end
theorem cr.encs_map:∀l:List cr,cr.encs l=l.map cr.enc
 |[]=>rfl
 |t::l=>by simp[cr.encs,cr.encs_map l]
abbrev lx(k n:Int)(r:List Int)(l:List V):V:=.agg [vi k,vi n,cw r,.list l]
def cr.kd:cr->Int
 |.nat=>1|.lab _=>2|.prod _=>3|.word _=>4|.bag _=>5|.prio _ _=>7
def cr.sz:cr->Int
 |.lab n=>n|.prio n _=>n|_=>0
def cr.rk:cr->List Int
 |.prio _ r=>r|_=>[]
def cr.ps:cr->List cr
 |.prod l=>l|.word t=>[t]|.bag t=>[t]|_=>[]
abbrev eT:cr->V:=cr.enc
abbrev vT(t:cr):V:=lx t.kd t.sz t.rk (t.ps.map eT)
abbrev dT(t:cr):D:=.v (vT t)
theorem XQ(t:cr):eT t=vT t:=by cases t<;>simp only[eT,cr.enc,cr.encs_map]<;>rfl
theorem PI{a:List cr}{i:Nat}{x:cr}(h:a[i]?=G x):(a.map eT)[((i:Nat):Int).toNat]?=G (vT x):=by grind[XQ]
theorem Pa(t:cr):vT (.word t)=lx 4 0 [] [vT t]:=by rw[←XQ t];rfl
theorem U1(t:cr):vT (.bag t)=lx 5 0 [] [vT t]:=by rw[←XQ t];rfl
noncomputable abbrev AqH:=Tryz.f209
def C9(n:Int)(v:b9):Bool:=Y (v.n>=0)&&(Y (v.n<n)&&((I v.az:Int)==0))
theorem V9(n:Int)(v:b9):F0 209 [dV v,di n] (db (C9 n v)):=by
 refine sv AqH 20 [2] (.b (.b .r .r) .r) ((Y (v.n>=0)=J->(Y (v.n<n)=J->db ((I (ce v.az):Int)==0)=db (C9 n v))/\(Y (v.n<n)=O->db O=db (C9 n v)))/\(Y (v.n>=0)=O->db O=db (C9 n v))) ?_
 grind[C9]
noncomputable abbrev sy:=Tryz.f211
noncomputable def r9:=yl sy
def YK(l:List b9):Nat->Bool
 |0=>true
 |k+1=>if Ar (l.getD (k+1) default) (l.getD k default)<0 then false else YK l k
theorem Ae3(l:List b9)(hs:b9.sizes l<=1000000)(k:Nat):k<I l->
  Rn PP sy 0 (db (YK l k)) ba ([kl r9 [1,0,1,0,0],.blk 0,kc r9 [1,1]]++[]) (cy 25 [(0,cq l),(1,dfn 41),(5,di k)]) ba:=by
 induction k with
 |zero=>
  intro hk
  exact lv 25 [] (.f .r) (Y ((↑0:Int)>0)=O/\Q (db J)) ⟨rfl,rfl⟩
 |succ k ih=>
  intro hk
  refine lv 25 [] (.t<|.x (Ac (l.getD (k+1) default))<|.x (Ac (l.getD k default))<|.c (di (Ar (l.getD (k+1) default) (l.getD k default)))<|.b .r (.l [ke 0,ke 1,ch 5 (di k)])) (Y ((↑(k+1):Int)>0)=J/\0<=(↑(k+1):Int)/\(U eV l)[Z (↑(k+1):Int)]?=G (Ac (List.getD l (k+1) default))/\0<=yu yt ((↑(k+1):Int)-1)/\(U eV l)[Z (yu yt ((↑(k+1):Int)-1))]?=G (Ac (List.getD l k default))/\F0 41 [bt (Ac (List.getD l (k+1) default)),bt (Ac (List.getD l k default))] (di (Ar (List.getD l (k+1) default) (List.getD l k default)))/\(Y (Ar (List.getD l (k+1) default) (List.getD l k default)<0)=J->db O=db (YK l (k+1)))/\(Y (Ar (List.getD l (k+1) default) (List.getD l k default)<0)=O->di (yu yt ((↑(k+1):Int)-1))=di (k:Int)/\I0 sy 0 (db (YK l (k+1))) ba [kl r9 [1,0,1,0,0],bf 0,kc r9 [1,1]] (cy 25 [(0,cq l),(1,bt ov),(5,di (k:Int))]) d7)) ?_
  have h1:yt.wrap (((k+1:Nat):Int)-1)=k:=by rw[Ak (by have:=b9.length_le l;omega) (by have:=b9.length_le l;omega)];omega
  have hx:l[k+1]?=G (l.getD (k+1) default):=by rw[HQ,HI hk];rfl
  have hy:l[k]?=G (l.getD k default):=by rw[HQ,HI (by omega)];rfl
  have hz:(l.getD (k+1) default).size<=1000000:=by have:=b9.size_mem (HO hx);omega
  rw[h1]
  refine⟨by simp,by omega,Ap hx,by omega,Ap hy,Hl _ _ _ (HP _) hz,fun h2=>?_,fun h2=>⟨rfl,⟨?_⟩⟩⟩
  all_goals grind[YK]
def WT(l:List b9):Bool:=YK l (I l-1)
theorem Ae0(l:List b9)(hs:b9.sizes l<=1000000):F0 211 [cq l,dfn 41] (db (WT l)):=by
 cases l with
 |nil=>
  exact sv sy 25 [] (.n<|.f .r) (Y (yu yt ((I (U eV []):Int)-1)>0)=O/\Q (db J)) ⟨rfl,rfl⟩
 |cons v l=>
  refine sv sy 25 [] (.l [ke 0,ke 1,ch 5 (di (I l:Nat))]) (di (yu yt ((I (U eV (v::l)):Int)-1))=di (I l:Int)/\I0 sy (I ba.H) (db (WT (v::l))) ba [kl r9 [1,0,1,0,0],bf 0,kc r9 [1,1]] (cy 25 [(0,cq (v::l)),(1,dfn 41),(5,di (I l:Int))]) ba) ?_
  have:=b9.length_le (v::l)
  have h1:yt.wrap ((I ((v::l).map eV):Int)-1)=I l:=by
   grind[Ak]
  rw[h1]
  exact⟨rfl,⟨Ae3 (v::l) hs (I l) (by simp)⟩⟩
mutual
def Ax:cr->b9->Bool
 |.nat,v=>Y (v.n>=0)&&(Y (v.n<=1048576)&&((I v.az:Int)==0))
 |.lab n,v=>C9 n v
 |.prod l,v=>(v.n==0)&&(((I v.az:Int)==I l)&&BN l v.az)
 |.word t,v=>(v.n==0)&&(Y ((I v.az:Int)<=12)&&v.az.all (fun k=>Ax t k))
 |.bag t,v=>((v.n==0)&&(Y ((I v.az:Int)<=12)&&v.az.all (fun k=>Ax t k)))&&WT v.az
 |.prio n _,v=>(v.n==0)&&(Y ((I v.az:Int)<=12)&&v.az.all (fun k=>C9 n k))
def BN:List cr->List b9->Bool
 |t::l,v::vs=>Ax t v&&BN l vs
 |_,_=>true
end
noncomputable abbrev my:=Tryz.f151
noncomputable def sn:=yl my
noncomputable abbrev Aph:=Tryz.f210
noncomputable abbrev AmG:=Tryz.f264
noncomputable abbrev Apb:=Tryz.f213
theorem Ako{α:Type}(l:List α)(p:α->Bool):(!l.any fun k=> !p k)=l.all p:=by
 grind
theorem AaZ(n:Int)(r:List Int)(v:b9):F0 213 [dV v,.v (.ref (vT (.prio n r)))] (db (!C9 n v)):=by
 exact sv Apb 9 [2] (.c (db (C9 n v)) .r) (_/\Q (db !C9 n v)) ⟨V9 n v,rfl⟩
theorem X5(t:cr)(v:b9)(h:F0 151 [dT t,dV v] (db (Ax t v))):F0 264 [dV v,.v (.ref (vT t))] (db (!Ax t v)):=by
 refine sv AmG 8 [2] (.c (db (Ax t v)) .r) (F0 151 [bt (vT t),dV v] (db (Ax t v))/\(db !Ax t v)=db !Ax t v) ?_
 grind
def Gn(t:cr)(v:b9):Bool:=(v.n==0)&&(Y ((I v.az:Int)<=12)&&v.az.all (fun k=>Ax t k))
theorem Rj(t:cr)(v:b9)(h:∀k∈v.az,F0 151 [dT t,dV k] (db (Ax t k))):F0 210 [dV v,dT t] (db (Gn t v)):=by
 refine sv Aph 21 [2,3] (.b (.b (.c (db (v.az.any fun k=> !Ax t k)) .r) .r) .r) (((v.n==0)=J->(Y ((I (ce v.az):Int)<=12)=J->F0 80 [cq v.az,bt (bw 264 [] [bz (vT t)])] (db (List.any v.az fun k=> !Ax t k))/\(db !List.any v.az fun k=> !Ax t k)=db (Gn t v))/\(Y ((I (ce v.az):Int)<=12)=O->db O=db (Gn t v)))/\((v.n==0)=O->db O=db (Gn t v))) ?_
 grind[FV,X5,Gn]
theorem Aju(v:b9):F0 151 [dT .nat,dV v] (db (Ax .nat v)):=by
 refine sv my 110 [2,3] (.k<|.b (.b .r .r) .r) ((Y (v.n>=0)=J->(Y (v.n<=1048576)=J->db ((I (ce v.az):Int)==0)=db (Ax cr.nat v))/\(Y (v.n<=1048576)=O->db O=db (Ax cr.nat v)))/\(Y (v.n>=0)=O->db O=db (Ax cr.nat v))) ?_
 grind[Ax]
theorem Ajv(n:Int)(v:b9):F0 151 [dT (.lab n),dV v] (db (Ax (.lab n) v)):=by
 exact sv my 110 [2,3] (.c (db (C9 n v)) .r) (_/\db (C9 n v)=db (Ax (cr.lab n) v)) ⟨V9 n v,by rfl⟩
noncomputable abbrev ge:=fun a₀ b₀=>(cr.prio a₀ b₀)
theorem Af1(n:Int)(r:List Int)(v:b9):F0 151 [dT (.prio n r),dV v] (db (Ax (.prio n r) v)):=by
 refine sv my 110 [2,3] (.k<|.k<|.k<|.k<|.k<|.k<|.b (.b (.c (db (v.az.any fun k=> !C9 n k)) .r) .r) .r) (((v.n==0)=J->(Y ((I (ce v.az):Int)<=12)=J->F0 80 [cq v.az,bt (bw 213 [] [bz (vT (ge n r))])] (db (List.any v.az fun k=> !C9 n k))/\(db !List.any v.az fun k=> !C9 n k)=db (Ax (ge n r) v))/\(Y ((I (ce v.az):Int)<=12)=O->db O=db (Ax (ge n r) v)))/\((v.n==0)=O->db O=db (Ax (ge n r) v))) ?_
 grind[FV,AaZ,Ax]
theorem Afy(t:cr)(v:b9)(h:∀k∈v.az,F0 151 [dT t,dV k] (db (Ax t k))):F0 151 [dT (.word t),dV v] (db (Ax (.word t) v)):=by
 rw[dT,Pa]
 exact sv my 110 [2,3] (.x (vT t)<|.c (db (Gn t v)) .r) (iz 0<=0/\Q (G (vT t))/\_/\db (Gn t v)=db (Ax (cr.word t) v)) ⟨by decide,rfl,Rj t v h,by simp only[Ax,Gn]⟩
theorem Ajw(t:cr)(v:b9)(hv:v.size<=1000000)(h:∀k∈v.az,F0 151 [dT t,dV k] (db (Ax t k))):F0 151 [dT (.bag t),dV v] (db (Ax (.bag t) v)):=by
 rw[dT,U1]
 have:=b9.size_eq v
 refine sv my 110 [2,3] (.x (vT t)<|.c (db (Gn t v))<|.b (.c (db (WT v.az)) .r) .r) (iz 0<=0/\Q (G (vT t))/\_/\(Gn t v=J->F0 211 [cq v.az,bt ov] (db (WT v.az))/\db (WT v.az)=db (Ax (cr.bag t) v))/\(Gn t v=O->db O=db (Ax (cr.bag t) v))) ⟨by decide,rfl,Rj t v h,fun h1=>⟨Ae0 v.az (by omega),?_⟩,fun h1=>?_⟩
 ·simp only[Gn] at h1;simp only[Ax,h1,Is]
 ·simp only[Gn] at h1;simp only[Ax,h1,Iq]
noncomputable abbrev jv:=fun a₀=>(U eT (cr.ps (cr.prod a₀)))
noncomputable abbrev qk:=fun a₀=>(2,bt (bz (vT (cr.prod a₀))))
noncomputable abbrev Avx:=[kl sn [1,0,1,0,1,1,1,1,1,0,1,0,1,0,0],bf 1,kc sn [1,0,1,0,1,1,1,1,1,0,1,1],bf 0,kc sn [1,1]]
theorem AaA(l:List cr)(v:b9)(hl:I v.az=I l)(hv:I v.az<=1000000)(h:∀t∈l,∀k∈v.az,F0 151 [dT t,dV k] (db (Ax t k)))(n:Nat):∀k:Nat,I l-k=n->
  Rn PP my 0 (db (BN (l.drop k) (v.az.drop k))) ba ([kl sn [1,0,1,0,1,1,1,1,1,0,1,0,1,0,0],.blk 1,kc sn [1,0,1,0,1,1,1,1,1,0,1,1],.blk 0,kc sn [1,1]]++[]) (cy 110 [(2,.v (.ref (vT (.prod l)))),(46,cq v.az),(47,di (I v.az)),(48,di k)]) ba:=by
 induction n using Nat.strongRecOn with
 |_ n ih=>
 intro k hn
 refine lv 110 [2,3] (.b (.e fun x:b9=>.x (Ac x)<|.e fun t:cr=>.x (vT t)<|.c (db (Ax t x))<|.b .r (.ls [ke 2,ke 46,ke 47,ch 48 (di (k+1:Nat))] ba)) .r) ((Y ((k:Int)<(I v.az:Int))=J->∃a,0<=(k:Int)/\(ce v.az)[Z (k:Int)]?=G (Ac a)/\∃a_1,0<=(k:Int)/\(jv l)[Z (k:Int)]?=G (vT a_1)/\Aa PP 151 [bt (vT a_1),dV a] d7 (db (Ax a_1 a)) d7/\yp/\((!Ax a_1 a)=J->db O=db (BN (W k l) (W k v.az)))/\((!Ax a_1 a)=O->di (yu yt ((k:Int)+1))=di (↑(k+1):Int)/\Nv.It (A2 (CN 0) PP (fun env σ1=>A9 PP my env σ1 (db (BN (W k l) (W k v.az))) ba) Avx (cy 110 [(qk l),(46,cq v.az),(47,di (I v.az:Int)),(48,di (↑(k+1):Int))]) ba)))/\(Y ((k:Int)<(I v.az:Int))=O->db J=db (BN (W k l) (W k v.az)))) ⟨fun h1=>?_,fun h1=>?_⟩
 ·have hk:k<I v.az:=by simpa using h1
  have hk2:k<I l:=by omega
  have hx:v.az[k]?=G v.az[k]:=HI hk
  have hy:l[k]?=G l[k]:=HI hk2
  rw[HX hk,HX hk2]
  generalize v.az[k]=x at hx⊢
  generalize l[k]=t at hy⊢
  refine⟨x,by omega,Ap hx,t,by omega,PI hy,h t (HO hy) x (HO hx),yn,fun h2=>?_,fun h2=>⟨Ae,⟨?_⟩⟩⟩
  ·have h2:Ax t x=O:=by simpa using h2
   simp only[BN,h2,Iq]
  ·have h2:Ax t x=J:=by simpa using h2
   simp only[BN,h2,Is]
   exact ih (I l- (k+1)) (by omega) (k+1) rfl
 grind[drop_of_length_le,BN]
theorem Af0(l:List cr)(v:b9)(hv:v.size<=1000000)(h:∀t∈l,∀k∈v.az,F0 151 [dT t,dV k] (db (Ax t k))):F0 151 [dT (.prod l),dV v] (db (Ax (.prod l) v)):=by
 have hlen:=b9.length_le v.az
 have hsz:=b9.size_eq v
 refine sv my 110 [2,3] (.k<|.k<|.k<|.b .r (.b .r (.l [ke 2,ke 46,ch 47 (di (I v.az)),ch 48 (di (0:Nat))]))) (((v.n !=0)=J->db O=db (Ax (cr.prod l) v))/\((v.n !=0)=O->(((I (ce v.az):Int) !=(I (jv l):Int))=J->db O=db (Ax (cr.prod l) v))/\(((I (ce v.az):Int) !=(I (jv l):Int))=O->di (I (ce v.az):Int)=di (I v.az:Int)/\di 0=di (↑0:Int)/\I0 my (I ba.H) (db (Ax (cr.prod l) v)) ba Avx (cy 110 [(qk l),(46,cq v.az),(47,di (I v.az:Int)),(48,di (↑0:Int))]) ba))) ⟨fun h1=>?_,fun h1=>⟨fun h2=>?_,fun h2=>⟨by grind,rfl,⟨?_⟩⟩⟩⟩
 ·grind[Ax]
 ·grind[cr.ps,Ax]
 ·have h1:(v.n==0)=J:=by grind
  have h2:(I v.az:Int)=I l:=by grind[cr.ps]
  have h3:((I v.az:Int)==I l)=J:=by grind
  simp only[Ax,h1,h3,Is]
  exact AaA l v (by omega) (by omega) h _ 0 rfl
theorem Afz(N:Nat):∀(t:cr),SizeOf.sizeOf t<=N->∀v:b9,v.size<=1000000->F0 151 [dT t,dV v] (db (Ax t v)):=by
 induction N with
 |zero=>intro t ht;cases t<;>simp at ht<;>omega
 |succ N ih=>
  intro t ht v hv
  have hk:∀k∈v.az,k.size<=1000000:=fun k hk=>by have:=b9.size_mem hk;grind[b9.size_eq]
  cases t with
  |nat=>exact Aju v
  |lab n=>exact Ajv n v
  |prio n r=>grind[Af1]
  |word t=>grind[Afy]
  |bag t=>grind[Ajw]
  |prod l=>exact Af0 l v hv fun t h k h'=>ih t (by have:=List.sizeOf_lt_of_mem h;grind) k (hk k h')
noncomputable abbrev um:=Tryz.f286
noncomputable def re:=yl um
theorem AfT(F:yx)(fs cs:List V)(p:cr->Bool)(l:List (cr))(hl:I l<=1000000)(hp:∀x∈l,F0 F ((fs++[vT x]++cs).map .v) (db (p x)))(n:Nat):∀k:Nat,I l-k=n->
  Rn PP um 0 (di (de p (l.drop k) k)) ba ([kl re [1,0,1,0,0],.blk 0,kc re [1,1]]++[]) (cy 19 [(0,dl (l.map eT)),(1,.v (.fn F fs cs)),(7,di (I l)),(8,di k)]) ba:=by
 induction n using Nat.strongRecOn with
 |_ n ih=>
 intro k hn
 refine lv 19 [] (.b (.e fun x:cr=>.x (vT x)<|.c (db (p x))<|.b .r (.l (qj k))) .r) ((Y ((k:Int)<(I l:Int))=J->∃a,0<=(k:Int)/\(U eT l)[Z (k:Int)]?=G (vT a)/\Aa PP F (U bt (fs++[vT a]++cs)) d7 (db (p a)) d7/\(p a=J->di (k:Int)=di (de p (W k l) k))/\(p a=O->di (yu yt ((k:Int)+1))=di (↑(k+1):Int)/\Nv.It (A2 (CN 0) PP (fun env σ1=>A9 PP um env σ1 (di (de p (W k l) k)) ba) [kl re [1,0,1,0,0],bf 0,kc re [1,1]] (cy 19 [(0,bt (ai (U eT l))),(1,bt (bw F fs cs)),(7,di (I l:Int)),(8,di (↑(k+1):Int))]) ba)))/\(Y ((k:Int)<(I l:Int))=O->di (-1)=di (de p (W k l) k))) ⟨fun h=>?_,fun h=>?_⟩
 ·have hk:k<I l:=by simpa using h
  have hx:l[k]?=G l[k]:=HI hk
  rw[HX hk]
  generalize l[k]=x at hx⊢
  refine⟨x,by omega,PI hx,hp x (HO hx),fun hf=>by simp[de,hf],fun hf=>⟨Ae,⟨?_⟩⟩⟩
  simp only[de,hf]
  exact ih (I l- (k+1)) (by omega) (k+1) rfl
 grind[drop_of_length_le,de]
theorem AfS(F:yx)(fs cs:List V)(p:cr->Bool)(l:List (cr))(hl:I l<=1000000)(hp:∀x∈l,F0 F ((fs++[vT x]++cs).map .v) (db (p x))):
  F0 286 [dl (l.map eT),.v (.fn F fs cs)] (di (de p l 0)):=by
 refine sv um 19 [] (.l [ke 0,ke 1,ch 7 (di (I l)),ch 8 (di (0:Nat))]) (di (I (U eT l):Int)=di (I l:Int)/\Q (di 0)/\I0 um (I ba.H) (di (de p l 0)) ba [kl re [1,0,1,0,0],bf 0,kc re [1,1]] (cy 19 [(0,dl (U eT l)),(1,bt (bw F fs cs)),(7,di (I l:Int)),(8,di (↑0:Int))]) ba) ⟨by simp,rfl,⟨?_⟩⟩
 exact AfT F fs cs p l hl hp _ 0 rfl
noncomputable abbrev Apo:=Tryz.f262
theorem MM(F:yx)(fs cs:List V)(p:cr->Bool)(l:List (cr))(hl:I l<=1000000)(hp:∀x∈l,F0 F ((fs++[vT x]++cs).map .v) (db (p x))):
  F0 262 [dl (l.map eT),.v (.fn F fs cs)] (db (l.any p)):=by
 refine sv Apo 9 [] (.c (di (de p l 0)) .r) (F0 286 [bt (ai (U eT l)),bt (bw F fs cs)] (di (de p l 0))/\db (Y (de p l 0>=0))=db (List.any l p)) ?_
 grind[AfS,FH]
noncomputable abbrev AqA:=Tryz.f284
noncomputable abbrev AoR:=Tryz.f292
noncomputable abbrev AoY:=Tryz.f261
def ly(x:Int):Bool:=Y (x<0)||Y (x>=6)
theorem AeP(x:Int):F0 292 [di x] (db (ly x)):=by
 refine sv AoR 9 [] (.b .r .r) ((Y (x<0)=J->db J=db (ly x))/\(Y (x<0)=O->db (Y (x>=6))=db (ly x))) ?_
 grind[ly]
def Dd(r:List Int):Bool:=Y ((I r:Int)>=1)&&(Y ((I r:Int)<=6)&& !(r.any ly))
theorem AeO(r:List Int):F0 284 [cx r] (db (Dd r)):=by
 refine sv AqA 16 [] (.b (.b (.c (db (r.any ly)) .r) .r) .r) ((Y ((I (U vi r):Int)>=1)=J->(Y ((I (U vi r):Int)<=6)=J->F0 96 [cx r,bt (bw 292 [] [])] (db (List.any r ly))/\(db !List.any r ly)=db (Dd r))/\(Y ((I (U vi r):Int)<=6)=O->db O=db (Dd r)))/\(Y ((I (U vi r):Int)>=1)=O->db O=db (Dd r))) ?_
 grind[Di,AeP,Dd]
theorem Afb(r:List Int)(h:Dd r=J):F0 261 [cx r,dl []] (db J):=by
 refine sv AoY 18 [2] (.c (db (Dd r))<|.t<|.k<|.c (db O) .r) (F0 284 [cx r] (db (Dd r))/\Dd r=J/\F0 96 [bt (ai []),bt (bw 285 [] [bz (cw r)])] (db O)/\(db !false)=db J) ?_
 exact⟨AeO r,h,Di _ [] [_] (fun _=>false) [] (by simp) (fun x hx=>by grind),rfl⟩
noncomputable abbrev qr:=Tryz.f207
noncomputable abbrev Aq9:=Tryz.f263
def CQ:Nat->cr->Bool
 |0,_=>false
 |_+1,.nat=>true
 |_+1,.lab n=>Y (n>=1)&&Y (n<=16)
 |_+1,.prio n r=>(n==I r)&&Dd r
 |d+1,.word t=>CQ d t
 |d+1,.bag t=>CQ d t
 |d+1,.prod l=> !((I l:Int)==0)&&(!decide ((I l:Int)>8)&&l.all (CQ d))
theorem J6(t:cr)(d:Nat)(hd:d<=100)(h:F0 207 [dT t,di d] (db J)):F0 263 [dT t,.v (.ref (vi ((d+1:Nat):Int)))] (db O):=by
 refine sv Aq9 9 [2] (.c (db J) .r) (F0 207 [bt (vT t),di (yu yt ((↑(d+1):Int)-1))] (db J)/\(db !true)=db O) ?_
 grind[Ak]
theorem Aao(d:Nat):F0 207 [dT .nat,di ((d+1:Nat):Int)] (db J):=by
 refine sv qr 94 [2,3] (.f .r) (((↑(d+1):Int)==0)=O/\db (cr.sz cr.nat==0)=db J) ?_
 grind[cr.sz]
theorem Aap(d:Nat)(n:Int)(h1:1<=n)(h2:n<=16):F0 207 [dT (.lab n),di ((d+1:Nat):Int)] (db J):=by
 refine sv qr 94 [2,3] (.f<|.k<|.k<|.k<|.k<|.k<|.k<|.t .r) (((↑(d+1):Int)==0)=O/\Y (cr.sz (cr.lab n)>=1)=J/\db (Y (cr.sz (cr.lab n)<=16))=db J) ?_
 grind[cr.sz]
theorem Xf(d:Nat)(n:Int)(r:List Int)(h1:n=I r)(h2:Dd r=J):F0 207 [dT (.prio n r),di ((d+1:Nat):Int)] (db J):=by
 refine sv qr 94 [2,3] (.f<|.t<|.k<|.k<|.k<|.k<|.k<|.k<|.t<|.c (db J) .r) (((↑(d+1):Int)==0)=O/\Y ((I (U vi (cr.rk (ge n r))):Int)>0)=J/\(cr.sz (ge n r)==(I (U vi (cr.rk (ge n r))):Int))=J/\F0 261 [bt (cw (cr.rk (ge n r))),bt (ai [])] (db J)/\Q (db J)) ?_
 grind[Dd,Afb,cr.rk,cr.sz]
noncomputable abbrev At1:=fun a₀ (b₀:Nat)=>F0 262 [bt (ai [eT a₀]),bt (bw 263 [] [bz (vi (↑(b₀+1):Int))])] (db O)
theorem Xd(d:Nat)(t:cr)(hd:d<=100)(h:F0 207 [dT t,di d] (db J)):F0 207 [dT (.word t),di ((d+1:Nat):Int)] (db J):=by
 refine sv qr 94 [2,3] (.f<|.c (db O) .r) (((↑(d+1):Int)==0)=O/\At1 t d/\(db !false)=db J) ?_
 have hz:(((d+1:Nat):Int)==0)=O:=Iy.2 (by omega)
 exact⟨hz,MM _ [] [_] (fun _=>false) [t] (by simp) (fun x hx=>by grind[J6]),rfl⟩
theorem Aaq(d:Nat)(t:cr)(hd:d<=100)(h:F0 207 [dT t,di d] (db J)):F0 207 [dT (.bag t),di ((d+1:Nat):Int)] (db J):=by
 refine sv qr 94 [2,3] (.f<|.c (db O) .r) (((↑(d+1):Int)==0)=O/\At1 t d/\(db !false)=db J) ?_
 have hz:(((d+1:Nat):Int)==0)=O:=Iy.2 (by omega)
 exact⟨hz,MM _ [] [_] (fun _=>false) [t] (by simp) (fun x hx=>by grind[J6]),rfl⟩
theorem Xe(d:Nat)(l:List cr)(hd:d<=100)(h1:((I l:Int)==0)=O)(h2:Y ((I l:Int)>8)=O)(h:∀t∈l,F0 207 [dT t,di d] (db J)):F0 207 [dT (.prod l),di ((d+1:Nat):Int)] (db J):=by
 refine sv qr 94 [2,3] (.f<|.k<|.k<|.k<|.k<|.k<|.k<|.k<|.k<|.f<|.f<|.c (db O) .r) (((↑(d+1):Int)==0)=O/\((I (jv l):Int)==0)=O/\Y ((I (jv l):Int)>8)=O/\F0 262 [bt (ai (jv l)),bt (bw 263 [] [bz (vi (↑(d+1):Int))])] (db O)/\(db !false)=db J) ?_
 have h3:¬((I l:Int)>8):=I3 h2
 have:=MM 263 [] [.ref (vi ((d+1:Nat):Int))] (fun _=>false) l (by omega) (fun x hx=>J6 x d hd (h x hx))
 grind[cr.ps]
theorem H5:∀(d:Nat) (t:cr),d<=100->CQ d t=J->F0 207 [dT t,di d] (db J)
 |0,t,_,h=>by grind[CQ]
 |d+1,.nat,_,h=>Aao d
 |d+1,.lab n,_,h=>by
  grind[CQ,Aap]
 |d+1,.prio n r,_,h=>by
  grind[CQ,Xf]
 |d+1,.word t,hd,h=>Xd d t (by omega) (H5 d t (by omega) (by grind[CQ]))
 |d+1,.bag t,hd,h=>Aaq d t (by omega) (H5 d t (by omega) (by grind[CQ]))
 |d+1,.prod l,hd,h=>by
  simp only[CQ,HJ,IA,I5] at h
  exact Xe d l (by omega) h.1 h.2.1 fun t ht=>H5 d t (by omega) (h.2.2 t ht)
noncomputable abbrev Apd:=Tryz.f149
theorem Abf(t:cr)(h:CQ 8 t=J):F0 149 [dT t] (di 0):=by
 exact sv Apd 6 [1] (.c (db J) .r) (_/\Q (di 0)) ⟨H5 8 t (by omega) h,rfl⟩
noncomputable abbrev t6:=Tryz.f208
noncomputable def rq:=yl t6
noncomputable abbrev iq:=fun a₀=>(b9.size a₀)
theorem AgE(N:Nat):∀v:b9,v.size<=N->∀m:Int,0<=m->m<=1000->F0 208 [dV v,di m] (di (min (v.size:Int) (m+1))):=by
 induction N with
 |zero=>intro v hv;have:=v.size_pos;omega
 |succ N ihN=>
  intro v hv m hm0 hm1
  have hsz:=v.size_eq
  have loop (n:Nat):∀(k:Nat) (a:Int),I v.az-k=n->k+1<=a->a<=m+1->
    Rn PP t6 0 (di (min (a+(b9.sizes (v.az.drop k):Int)) (m+1))) ba ([kl rq [1,1,0,1,0,0],.blk 0,kc rq [1,1,1]]++[]) (cy 27 [(1,di m),(5,di a),(9,cq v.az),(10,di (I v.az)),(11,di k)]) ba:=by
   induction n using Nat.strongRecOn with
   |_ n ih=>
   intro k a hn ha0 ha1
   refine lv 27 [2] (.b (.e fun x:b9=>.x (Ac x)<|.b .r<|.c (di (min (x.size:Int) (m-a+1)))<|.ls [ke 1,ch 5 (di (min (a+(x.size:Int)) (m+1))),ke 9,ke 10,ch 11 (di (k+1:Nat))] ba) .r) ((Y ((k:Int)<(I v.az:Int))=J->∃a_2,0<=(k:Int)/\(ce v.az)[Z (k:Int)]?=G (Ac a_2)/\(Y (a>m)=J->di a=di (min (a+(↑(b9.sizes (W k v.az)):Int)) (m+1)))/\(Y (a>m)=O->Aa PP 208 [dV a_2,di (yu yt (m-a))] d7 (di (min (↑(iq a_2):Int) (m-a+1))) d7/\di (yu yt (a+min (↑(iq a_2):Int) (m-a+1)))=di (min (a+(↑(iq a_2):Int)) (m+1))/\di (yu yt ((k:Int)+1))=di (↑(k+1):Int)/\Nv.It (A2 (CN 0) PP (fun env σ1=>A9 PP t6 env σ1 (di (min (a+(↑(b9.sizes (W k v.az)):Int)) (m+1))) ba) [kl rq ee,bf 0,kc rq [1,1,1]] (cy 27 [(1,di m),(5,di (min (a+(↑(iq a_2):Int)) (m+1))),(9,cq v.az),(10,di (I v.az:Int)),(11,di (↑(k+1):Int))]) ba)))/\(Y ((k:Int)<(I v.az:Int))=O->di a=di (min (a+(↑(b9.sizes (W k v.az)):Int)) (m+1)))) ⟨fun h=>?_,fun h=>?_⟩
   ·have hk:k<I v.az:=by simpa using h
    have hx:v.az[k]?=G v.az[k]:=HI hk
    rw[HX hk]
    generalize v.az[k]=x at hx⊢
    have hxs:=b9.size_mem (HO hx)
    have hx1:=x.size_pos
    simp only[b9.sizes]
    refine⟨x,by omega,Ap hx,fun h1=>?_,fun h1=>⟨?_,?_,Ae,⟨?_⟩⟩⟩
    ·have h1:=HT h1
     rw[II];split<;>congr 1<;>omega
    ·rw[Ak]
     have h1:=I3 h1
     exact ihN x (by omega) (m-a) (by omega) (by omega)
    ·have h1:=I3 h1
     rw[Ak (by rw[II];split<;>omega) (by rw[II];split<;>omega)]
     simp only[II];congr 1;split<;>split<;>omega
    ·have h1:=I3 h1
     have:=ih (I v.az- (k+1)) (by omega) (k+1) (min (a+(x.size:Int)) (m+1)) rfl (by rw[II];split<;>omega) (by rw[II];split<;>omega)
     rw[show min (min (a+(x.size:Int)) (m+1)+(b9.sizes (v.az.drop (k+1)):Int)) (m+1)=min (a+((x.size+b9.sizes (v.az.drop (k+1)):Nat):Int)) (m+1) by simp only[II];(repeat' split)<;>omega] at this
     exact this
   ·have hk:I v.az<=k:=by simpa using h
    rw[Ic hk]
    simp only[b9.sizes];rw[II];split<;>congr 1<;>omega
  refine sv t6 27 [2] (.l [ke 1,ch 5 (di 1),ke 9,ch 10 (di (I v.az)),ch 11 (di (0:Nat))]) (Q (di 1)/\di (I (ce v.az):Int)=di (I v.az:Int)/\Q (di 0)/\I0 t6 (I ba.H) (di (min (↑(iq v):Int) (m+1))) ba [kl rq ee,bf 0,kc rq [1,1,1]] (cy 27 [(1,di m),(5,di 1),(9,cq v.az),(10,di (I v.az:Int)),(11,di (↑0:Int))]) ba) ⟨rfl,by rw[HH],rfl,⟨?_⟩⟩
  have:=loop _ 0 1 rfl (by omega) (by omega)
  grind
noncomputable abbrev AmD:=Tryz.f150
theorem Xk(v:b9):F0 150 [dV v] (di (min (v.size:Int) 129)):=by
 exact sv AmD 6 [1] (.c (di (min (v.size:Int) 129)) .r) (_/\di (if 129<min (↑(iq v):Int) 129 then 129 else min (↑(iq v):Int) 129)=di (min (↑(iq v):Int) 129)) ⟨AgE _ v (HP _) 128 (by decide) (by decide),by grind⟩
noncomputable abbrev Apc:=Tryz.f85
def Ah(t:cr)(v:b9):Bool:=Y ((v.size:Int)<=128)&&Ax t v
theorem LC(t:cr)(h:CQ 8 t=J)(v:b9):F0 85 [dT t,dV v] (db (Ah t v)):=by
 refine sv Apc 18 [2,3] (.c (di 0)<|.c (di (min (v.size:Int) 129))<|.b (.c (db (Ax t v)) .r) .r) (_/\_/\(Y (min (↑(iq v):Int) 129<=128)=J->F0 151 [bt (vT t),dV v] (db (Ax t v))/\db (Ax t v)=db (Ah t v))/\(Y (min (↑(iq v):Int) 129<=128)=O->db O=db (Ah t v))) ⟨Abf t h,Xk v,fun h1=>?_,fun h1=>?_⟩
 ·have h1:=HT h1
  have h2:(v.size:Int)<=128:=by rw[II] at h1;split at h1<;>omega
  exact⟨Afz _ t (HP _) v (by omega),by rw[Ah,HK h2,Is]⟩
 grind[Ah]
noncomputable abbrev wz:=Tryz.f193
structure pi where
 pl:Int
 ph:Int
 ll:Int
 lh:Int
 vl:Int
 vh:Int
 al:Int
 ah:Int
abbrev k7(l:pi):D:=.v (.agg [vi l.pl,vi l.ph,vi l.ll,vi l.lh,vi l.vl,vi l.vh,vi l.al,vi l.ah])
abbrev AoG:pi:=⟨1,6,0,0,0,0,0,0⟩
abbrev uu:pi:=⟨1,2,1,6,0,0,0,0⟩
abbrev xm:pi:=⟨1,6,0,0,0,0,0,3⟩
theorem Aq2:F0 193 [di 1] (k7 AoG):=by
 refine sv wz 29 [] .r (bt (ab [vi 1,vi 6,vi 0,vi 0,vi 0,vi 0,vi 0,vi 0])=k7 AoG) ?_
 rfl
theorem Aq1:F0 193 [di 2] (k7 uu):=by
 refine sv wz 29 [] .r (bt (ab [vi 1,vi 2,vi 1,vi 6,vi 0,vi 0,vi 0,vi 0])=k7 uu) ?_
 rfl
theorem Aq0:F0 193 [di 3] (k7 uu):=by
 refine sv wz 29 [] .r (bt (ab [vi 1,vi 2,vi 1,vi 6,vi 0,vi 0,vi 0,vi 0])=k7 uu) ?_
 rfl
theorem Aqz:F0 193 [di 5] (k7 xm):=by
 refine sv wz 29 [] .r (bt (ab [vi 1,vi 6,vi 0,vi 0,vi 0,vi 0,vi 0,vi 3])=k7 xm) ?_
 rfl
noncomputable abbrev Am0:=Tryz.f143
def Dr(l:pi)(m:cz):Bool:=A3 (I m.aw) 1 8&&(Y ((I m.av:Int)<=12)&&(A3 (I m.ay) l.pl l.ph&&(A3 (I m.ax) l.ll l.lh&&(A3 m.ao l.vl l.vh&&A3 m.age l.al l.ah))))
theorem NP(l:pi)(m:cz)(h:F0 193 [di m.kind] (k7 l)):F0 143 [Ad m] (db (Dr l m)):=by
 refine sv Am0 63 [1] (.c (k7 l)<|.c (db (A3 (I m.aw) 1 8))<|.b (.b (.c (db (A3 (I m.ay) l.pl l.ph))<|.b (.c (db (A3 (I m.ax) l.ll l.lh))<|.b (.c (db (A3 m.ao l.vl l.vh))<|.b (.c (db (A3 m.age l.al l.ah)) .r) .r) .r) .r) .r) .r) (F0 193 [di m.kind] (k7 l)/\F0 142 [di (I (df m.aw):Int),di 1,di 8] (db (A3 (I m.aw:Int) 1 8))/\(A3 (I m.aw:Int) 1 8=J->(Y ((I (U Al m.av):Int)<=12)=J->iz 0<=0/\0<(↑2:Int)/\iz 0<=1/\1<(↑2:Int)/\F0 142 [di (I (df m.ay):Int),di l.pl,di l.ph] (db (A3 (I m.ay:Int) l.pl l.ph))/\(A3 (I m.ay:Int) l.pl l.ph=J->iz 0<=0/\0<(↑2:Int)/\iz 0<=1/\1<(↑2:Int)/\F0 142 [di (I (df m.ax):Int),di l.ll,di l.lh] (db (A3 (I m.ax:Int) l.ll l.lh))/\(A3 (I m.ax:Int) l.ll l.lh=J->iz 0<=0/\0<(↑2:Int)/\iz 0<=1/\1<(↑2:Int)/\F0 142 [di m.ao,di l.vl,di l.vh] (db (A3 m.ao l.vl l.vh))/\(A3 m.ao l.vl l.vh=J->iz 0<=0/\0<(↑2:Int)/\iz 0<=1/\1<(↑2:Int)/\F0 142 [di m.age,di l.al,di l.ah] (db (A3 m.age l.al l.ah))/\db (A3 m.age l.al l.ah)=db (Dr l m))/\(A3 m.ao l.vl l.vh=O->db O=db (Dr l m)))/\(A3 (I m.ax:Int) l.ll l.lh=O->db O=db (Dr l m)))/\(A3 (I m.ay:Int) l.pl l.ph=O->db O=db (Dr l m)))/\(Y ((I (U Al m.av):Int)<=12)=O->db O=db (Dr l m)))/\(A3 (I m.aw:Int) 1 8=O->db O=db (Dr l m))) ?_
 grind[EP,Dr]
noncomputable abbrev AjC:=Tryz.f144
noncomputable abbrev Agq:=Tryz.f194
theorem QS(x:Int):F0 194 [di x] (db (!A3 x 0 5)):=by
 refine sv Agq 6 [] (.c (db (A3 x 0 5)) .r) (F0 142 [di x,di 0,di 5] (db (A3 x 0 5))/\(db !A3 x 0 5)=db !A3 x 0 5) ?_
 grind[EP]
def C4(m:cz):Bool:=if (m.kind !=3)=J then(I m.au:Int)==0 else((I m.au:Int)==I m.ax)&&m.au.all fun x=>A3 x 0 5
theorem My(m:cz)(hm:I m.au<=1000000):F0 144 [Ad m] (db (C4 m)):=by
 refine sv AjC 23 [1] (.b .r (.b (.c (db (m.au.any fun x=> !A3 x 0 5)) .r) .r)) (((m.kind !=3)=J->db ((I (cc m.au):Int)==0)=db (C4 m))/\((m.kind !=3)=O->(((I (cc m.au):Int)==(I (df m.ax):Int))=J->F0 96 [cx m.au,bt (bw 194 [] [])] (db (List.any m.au fun x=> !A3 x 0 5))/\(db !List.any m.au fun x=> !A3 x 0 5)=db (C4 m))/\(((I (cc m.au):Int)==(I (df m.ax):Int))=O->db O=db (C4 m)))) ?_
 grind[Di,QS,C4]
noncomputable abbrev AjD:=Tryz.f152
theorem EZ(n:Int):F0 152 [di n] (dT (.lab n)):=by
 refine sv AjD 5 [] .r (bt (ab [vi 2,vi n,ai [],ai []])=dT (cr.lab n)) ?_
 rfl
noncomputable abbrev Aie:=Tryz.f154
theorem X0(t:cr):F0 154 [di 4,dT t] (dT (.word t)):=by
 refine sv Aie 9 [3] .r (bt (ab [vi 4,vi 0,ai [],ai [vT t]])=dT (cr.word t)) ?_
 grind[Pa]
theorem Abn(t:cr):F0 154 [di 5,dT t] (dT (.bag t)):=by
 refine sv Aie 9 [3] .r (bt (ab [vi 5,vi 0,ai [],ai [vT t]])=dT (cr.bag t)) ?_
 grind[U1]
noncomputable abbrev GN:=Tryz.f86
noncomputable def Et:=yl GN
abbrev Qs(l:List cr):D:=.acc 1 (l.map eT)
abbrev mt(l:List cr):St:=⟨[G [di 0,di 0,.v .nils,.v .nils]],[(1,4,l.map eT)]⟩
theorem C0(l:List cr)(t:cr):l.map eT++[vT t]=(l++[t]).map eT:=by grind[XQ]
def EK(m:cz):cr:=if m.kind=1 then .nat else if m.kind=2 then .word (.lab (I m.ax)) else .prio (I m.ax) m.au
def AE(m:cz):cr:=.prod (.lab (I m.aw)::replicate (I m.ay) (EK m))
noncomputable abbrev qg:=fun a₀=>(ab [vi 3,vi 0,ai [],ai (U eT a₀)])
noncomputable abbrev Awm:=(vi 1::vi 0::ai nV::ai nV::nV)
theorem SE(m:cz)(hm:I m.ay<=1000)(hk:m.kind=1)(n:Nat):∀(k:Nat) (xs:List cr),I m.ay-k=n->k<=I m.ay->I xs<=k+1->
  Rn PP GN 0 (dT (.prod (xs++replicate n (.nat)))) ba ([kl Et [1,1,0,1,0,1,1,1,1,1,0,0],.blk 1,.blk 0,kc Et [1,1,1]]++[]) (cy 70 [(1,.v (.ref (A0 m))),(2,.ptr 0 0),(3,Qs xs),(14,di (I m.ay)),(15,di k)]) (mt xs):=by
 induction n with
 |zero=>
  intro k xs hn hk0 hxs
  refine lv 70 [1] (.f .r) (Y ((k:Int)<(I m.ay:Int))=O/\bt (qg xs)=dT (cr.prod (xs++replicate 0 cr.nat))) ⟨yq,?_⟩
  rw[List.replicate_zero,I8];rfl
 |succ n ih=>
  intro k xs hn hk0 hxs
  have h:=ih (k+1) (xs++[.nat]) (by omega) (by omega) (by grind)
  rw[IQ] at h
  refine lv 70 [1] (.t<|.f<|.f<|.ls [ke 1,ke 2,ch 3 (Qs (xs++[.nat])),ke 14,ch 15 (di (k+1:Nat))] (mt (xs++[.nat]))) (Y ((k:Int)<(I m.ay:Int))=J/\(m.kind==2)=O/\(m.kind==3)=O/\Q (U eT xs)/\Ao (I (U eT xs)+I (ab (aa yt 1::aa yt 0::ai nV::ai nV::nV)::nV)) 64/\br 1 (U eT xs++[ab [vi 1,vi 0,ai [],ai []]])=Qs (xs++[cr.nat])/\di (yu yt ((k:Int)+1))=di (↑(k+1):Int)/\Q (mt (xs++[.nat])).H/\[(1,4,U eT xs++ab Awm::nV)]=[(1,4,U eT (xs++[cr.nat]))]/\_) ⟨yr,by grind,by grind,rfl,⟨?_,?_⟩,?_,Ae,rfl,?_,iK h⟩
  ·grind
  ·grind
  ·rw[Qs, ←C0];rfl
  ·rw[←C0];rfl
noncomputable abbrev As9:=fun a₀=>F0 152 [di (I (df a₀):Int)] (dT (cr.lab (I a₀:Int)))
noncomputable abbrev kg:=[di 0,di 0,dn,dn]
noncomputable abbrev n7:=(2,bq 0 0)
theorem SD(m:cz)(hm:I m.ay<=1000)(hk:m.kind=2)(n:Nat):∀(k:Nat) (xs:List cr),I m.ay-k=n->k<=I m.ay->I xs<=k+1->
  Rn PP GN 0 (dT (.prod (xs++replicate n (.word (.lab (I m.ax)))))) ba ([kl Et [1,1,0,1,0,1,1,1,1,1,0,0],.blk 1,.blk 0,kc Et [1,1,1]]++[]) (cy 70 [(1,.v (.ref (A0 m))),(2,.ptr 0 0),(3,Qs xs),(14,di (I m.ay)),(15,di k)]) (mt xs):=by
 induction n with
 |zero=>
  intro k xs hn hk0 hxs
  refine lv 70 [1] (.f .r) (Y ((k:Int)<(I m.ay:Int))=O/\bt (qg xs)=dT (cr.prod (xs++replicate 0 (cr.word (cr.lab (I m.ax:Int)))))) ⟨yq,?_⟩
  rw[List.replicate_zero,I8];rfl
 |succ n ih=>
  intro k xs hn hk0 hxs
  refine lv 70 [1] (.t<|.t<|.c (dT (.lab (I m.ax)))<|.c (dT (.word (.lab (I m.ax))))<|.ls [ke 1,ke 2,ch 3 (Qs (xs++[.word (.lab (I m.ax))])),ke 14,ch 15 (di (k+1:Nat))] (mt (xs++[.word (.lab (I m.ax))]))) (Y ((k:Int)<(I m.ay:Int))=J/\(m.kind==2)=J/\As9 m.ax/\F0 154 [di 4,bt (vT (cr.lab (I m.ax:Int)))] (dT (cr.word (cr.lab (I m.ax:Int))))/\Q (U eT xs)/\Ao (I (U eT xs)+I (ab (vi (cr.kd (cr.word (cr.lab (I m.ax:Int))))::vi (cr.sz (cr.word (cr.lab (I m.ax:Int))))::cw (cr.rk (cr.word (cr.lab (I m.ax:Int))))::ai (U eT (cr.ps (cr.word (cr.lab (I m.ax:Int)))))::nV)::nV)) 64/\br 1 (U eT xs++[ab [vi (cr.kd (cr.word (cr.lab (I m.ax:Int)))),vi (cr.sz (cr.word (cr.lab (I m.ax:Int)))),cw (cr.rk (cr.word (cr.lab (I m.ax:Int)))),ai [eT (cr.lab (I m.ax:Int))]]])=Qs (xs++[cr.word (cr.lab (I m.ax:Int))])/\di (yu yt ((k:Int)+1))=di (↑(k+1):Int)/\Q [G kg]/\[(1,4,U eT xs++ab (vi (cr.kd (cr.word (cr.lab (I m.ax:Int))))::vi (cr.sz (cr.word (cr.lab (I m.ax:Int))))::cw (cr.rk (cr.word (cr.lab (I m.ax:Int))))::ai (eT (cr.lab (I m.ax:Int))::nV)::nV)::nV)]=[(1,4,U eT (xs++[cr.word (cr.lab (I m.ax:Int))]))]/\I0 GN 0 (dT (cr.prod (xs++replicate (n+1) (cr.word (cr.lab (I m.ax:Int)))))) ba [kl Et [1,1,0,1,0,1,1,1,1,1,0,0],bf 1,bf 0,kc Et [1,1,1]] (cy 70 [(1,bt (gd m)),n7,(3,Qs (xs++[cr.word (cr.lab (I m.ax:Int))])),(14,di (I m.ay:Int)),(15,di (↑(k+1):Int))]) (mt (xs++[cr.word (cr.lab (I m.ax:Int))]))) ?_
  have h:=ih (k+1) (xs++[.word (.lab (I m.ax))]) (by omega) (by omega) (by grind)
  rw[IQ] at h
  refine⟨yr,by grind,by grind[EZ],X0 _,rfl,⟨?_,?_⟩,?_,Ae,rfl,?_,⟨h⟩⟩
  ·grind
  ·grind
  ·rw[Qs, ←C0];rfl
  ·rw[←C0];rfl
theorem SC(m:cz)(hm:I m.ay<=1000)(hr:I m.au<=1000000)(hk:m.kind=3)(n:Nat):∀(k:Nat) (xs:List cr),I m.ay-k=n->k<=I m.ay->I xs<=k+1->
  Rn PP GN 0 (dT (.prod (xs++replicate n (.prio (I m.ax) m.au)))) ba ([kl Et [1,1,0,1,0,1,1,1,1,1,0,0],.blk 1,.blk 0,kc Et [1,1,1]]++[]) (cy 70 [(1,.v (.ref (A0 m))),(2,.ptr 0 0),(3,Qs xs),(14,di (I m.ay)),(15,di k)]) (mt xs):=by
 induction n with
 |zero=>
  intro k xs hn hk0 hxs
  refine lv 70 [1] (.f .r) (Y ((k:Int)<(I m.ay:Int))=O/\bt (qg xs)=dT (cr.prod (xs++replicate 0 (cr.prio (I m.ax:Int) m.au)))) ⟨yq,?_⟩
  rw[List.replicate_zero,I8];rfl
 |succ n ih=>
  intro k xs hn hk0 hxs
  have h:=ih (k+1) (xs++[.prio (I m.ax) m.au]) (by omega) (by omega) (by grind)
  rw[IQ] at h
  refine lv 70 [1] (.t<|.f<|.t<|.c (cx m.au)<|.ls [ke 1,ke 2,ch 3 (Qs (xs++[.prio (I m.ax) m.au])),ke 14,ch 15 (di (k+1:Nat))] (mt (xs++[.prio (I m.ax) m.au]))) (Y ((k:Int)<(I m.ay:Int))=J/\(m.kind==2)=O/\(m.kind==3)=J/\_/\Q (U eT xs)/\Ao (I (U eT xs)+I (ab (aa yt 7::aa yt (I (df m.ax):Int)::cw m.au::ai nV::nV)::nV)) 64/\br 1 (U eT xs++[ab [vi 7,vi (I (df m.ax):Int),cw m.au,ai []]])=Qs (xs++[cr.prio (I m.ax:Int) m.au])/\di (yu yt ((k:Int)+1))=di (↑(k+1):Int)/\Q [G kg]/\[(1,4,U eT xs++ab (vi 7::vi (I (df m.ax):Int)::cw m.au::ai nV::nV)::nV)]=[(1,4,U eT (xs++[cr.prio (I m.ax:Int) m.au]))]/\_) ⟨yr,by grind,by grind,Nx m.au hr,rfl,⟨?_,?_⟩,?_,Ae,rfl,?_,iK h⟩
  ·grind
  ·grind
  ·rw[Qs, ←C0];rw[HH];rfl
  ·rw[←C0];rw[HH];rfl
theorem NL(m:cz)(hm:I m.ay<=1000)(hr:I m.au<=1000000)(hk:m.kind=1∨m.kind=2∨m.kind=3):F0 86 [Ad m] (dT (AE m)):=by
 refine sv GN 70 [1] (.c (dT (.lab (I m.aw)))<|.a 1<|.f<|.f<|.ls [ke 1,ke 2,ch 3 (Qs [.lab (I m.aw)]),ch 14 (di (I m.ay)),ch 15 (di (0:Nat))] (mt [.lab (I m.aw)])) (As9 m.aw/\(m.kind==4)=O/\(m.kind==5)=O/\br 1 [vT (cr.lab (I m.aw:Int))]=Qs [cr.lab (I m.aw:Int)]/\di (I (df m.ay):Int)=di (I m.ay:Int)/\Q (di 0)/\Q [G kg]/\Q [(1,4,vT (cr.lab (I m.aw:Int))::nV)]/\I0 GN (I ba.H) (dT (AE m)) ba [kl Et [1,1,0,1,0,1,1,1,1,1,0,0],bf 1,bf 0,kc Et [1,1,1]] (cy 70 [(1,bt (gd m)),n7,(3,Qs [cr.lab (I m.aw:Int)]),(14,di (I m.ay:Int)),(15,di (↑0:Int))]) (mt [cr.lab (I m.aw:Int)])) ⟨by grind[EZ],by grind,by grind,rfl,by grind,rfl,rfl,rfl,⟨?_⟩⟩
 rcases hk with h|h|h
 ·have:=SE m hm h _ 0 [.lab (I m.aw)] rfl (by omega) (by simp)
  grind[AE,EK]
 ·have:=SD m hm h _ 0 [.lab (I m.aw)] rfl (by omega) (by simp)
  grind[AE,EK]
 ·have:=SC m hm hr h _ 0 [.lab (I m.aw)] rfl (by omega) (by simp)
  grind[AE,EK]
noncomputable abbrev uq:=Tryz.f190
noncomputable def ri:=yl uq
theorem AfX(F:yx)(fs cs:List V)(p:cf->Bool)(l:List (cf))(hl:I l<=1000000)(hp:∀x∈l,F0 F ((fs++[Al x]++cs).map .v) (db (p x)))(n:Nat):∀k:Nat,I l-k=n->
  Rn PP uq 0 (di (de p (l.drop k) k)) ba ([kl ri [1,0,1,0,0],.blk 0,kc ri [1,1]]++[]) (cy 19 [(0,dl (l.map Al)),(1,.v (.fn F fs cs)),(7,di (I l)),(8,di k)]) ba:=by
 induction n using Nat.strongRecOn with
 |_ n ih=>
 intro k hn
 refine lv 19 [] (.b (.e fun x:cf=>.x (Al x)<|.c (db (p x))<|.b .r (.l (qj k))) .r) ((Y ((k:Int)<(I l:Int))=J->∃a,0<=(k:Int)/\(U Al l)[Z (k:Int)]?=G (Al a)/\Aa PP F (U bt (fs++[Al a]++cs)) d7 (db (p a)) d7/\(p a=J->di (k:Int)=di (de p (W k l) k))/\(p a=O->di (yu yt ((k:Int)+1))=di (↑(k+1):Int)/\Nv.It (A2 (CN 0) PP (fun env σ1=>A9 PP uq env σ1 (di (de p (W k l) k)) ba) [kl ri [1,0,1,0,0],bf 0,kc ri [1,1]] (cy 19 [(0,bt (ai (U Al l))),(1,bt (bw F fs cs)),(7,di (I l:Int)),(8,di (↑(k+1):Int))]) ba)))/\(Y ((k:Int)<(I l:Int))=O->di (-1)=di (de p (W k l) k))) ⟨fun h=>?_,fun h=>?_⟩
 ·have hk:k<I l:=by simpa using h
  have hx:l[k]?=G l[k]:=HI hk
  rw[HX hk]
  generalize l[k]=x at hx⊢
  refine⟨x,by omega,Am hx,hp x (HO hx),fun hf=>by simp[de,hf],fun hf=>⟨Ae,⟨?_⟩⟩⟩
  simp only[de,hf]
  exact ih (I l- (k+1)) (by omega) (k+1) rfl
 grind[drop_of_length_le,de]
theorem AfW(F:yx)(fs cs:List V)(p:cf->Bool)(l:List (cf))(hl:I l<=1000000)(hp:∀x∈l,F0 F ((fs++[Al x]++cs).map .v) (db (p x))):
  F0 190 [dl (l.map Al),.v (.fn F fs cs)] (di (de p l 0)):=by
 refine sv uq 19 [] (.l [ke 0,ke 1,ch 7 (di (I l)),ch 8 (di (0:Nat))]) (di (I (U Al l):Int)=di (I l:Int)/\Q (di 0)/\I0 uq (I ba.H) (di (de p l 0)) ba [kl ri [1,0,1,0,0],bf 0,kc ri [1,1]] (cy 19 [(0,dl (U Al l)),(1,bt (bw F fs cs)),(7,di (I l:Int)),(8,di (↑0:Int))]) ba) ⟨by simp,rfl,⟨?_⟩⟩
 exact AfX F fs cs p l hl hp _ 0 rfl
noncomputable abbrev Apq:=Tryz.f136
theorem MN(F:yx)(fs cs:List V)(p:cf->Bool)(l:List (cf))(hl:I l<=1000000)(hp:∀x∈l,F0 F ((fs++[Al x]++cs).map .v) (db (p x))):
  F0 136 [dl (l.map Al),.v (.fn F fs cs)] (db (l.any p)):=by
 refine sv Apq 9 [] (.c (di (de p l 0)) .r) (F0 190 [bt (ai (U Al l)),bt (bw F fs cs)] (di (de p l 0))/\db (Y (de p l 0>=0))=db (List.any l p)) ?_
 grind[AfW,FH]
def Tt(m:cz):pi:=if m.kind=1 then AoG else uu
def Fy(m:cz)(r:cf):Bool:=if m.kind=1 then E8 m r else F1 m r
structure cz.okN(m:cz):Prop where
 kind:m.kind=1∨m.kind=2∨m.kind=3
 sized:Dr (Tt m) m=J
 ranked:C4 m=J
 named:F3 m=J
structure cz.okS(m:cz):Prop where
 n:m.okN
 rshort:∀r∈m.av,r.short
 right:∀r∈m.av,Fy m r=J
structure cz.ok(m:cz):Prop where
 kind:m.kind=1∨m.kind=2∨m.kind=3
 sized:Dr (Tt m) m=J
 ranked:C4 m=J
 named:F3 m=J
 rshort:∀r∈m.av,r.short
 right:∀r∈m.av,Fy m r=J
 start:Ah (AE m) m.start=J
 ssize:m.start.size<=1000000
theorem cz.ok.n{m:cz}(h:m.ok):m.okN:=⟨h.kind,h.sized,h.ranked,h.named⟩
theorem cz.ok.s{m:cz}(h:m.ok):m.okS:=⟨h.n,h.rshort,h.right⟩
instance {m:cz}:Coe m.ok m.okN:=⟨cz.ok.n⟩
instance {m:cz}:Coe m.okS m.okN:=⟨cz.okS.n⟩
instance {m:cz}:Coe m.ok m.okS:=⟨cz.ok.s⟩
theorem Ct{x a b:Int}(h:A3 x a b=J):a<=x/\x<=b:=by grind[A3]
theorem cz.okN.sz{m:cz}(h:m.okN):1<=I m.aw/\m.aw.length<=8/\m.av.length<=12/\1<=I m.ay/\m.ay.length<=6/\m.ax.length<=6/\m.au.length<=6/\(m.kind≠1->1<=I m.ax):=by
 have hs:=h.sized
 simp only[Dr,HJ,HS] at hs
 obtain⟨h1,h2,h3,h4,h5,h6⟩:=hs
 have h1:=Ct h1
 have h3:=Ct h3
 have h4:=Ct h4
 have hr:=h.ranked
 have hl:(Tt m).pl=1/\(Tt m).ph<=6/\(Tt m).lh<=6/\(m.kind≠1->(Tt m).ll=1):=by
  grind[Tt]
 have hrk:I m.au=0∨m.au.length=I m.ax:=by
  unfold C4 at hr
  grind
 omega
theorem cz.ok.sz{m:cz}(h:m.ok):1<=I m.aw/\m.aw.length<=8/\m.av.length<=12/\1<=I m.ay/\m.ay.length<=6/\m.ax.length<=6/\m.au.length<=6/\(m.kind≠1->1<=I m.ax):=h.n.sz
theorem cz.okS.short{m:cz}(h:m.okS):m.short:=by
 obtain⟨h1,h2,h3,h4,h5,h6,h7,h8⟩:=h.n.sz
 exact⟨by omega,by omega,by omega,by omega,by omega,h.rshort⟩
theorem cz.ok.short{m:cz}(h:m.ok):m.short:=h.s.short
theorem cz.okN.good{m:cz}(h:m.okN):CQ 8 (AE m)=J:=by
 obtain⟨h1,h2,h3,h4,h5,h6,h7,h8⟩:=h.sz
 have he:CQ 7 (EK m)=J:=by
  unfold EK
  split
  ·rfl
  ·rename_i hk
   split
   ·grind[CQ]
   ·have hk3:m.kind=3:=by rcases h.kind with h|h|h<;>omega
    have hr:=h.ranked
    simp only[C4,hk3,bne_self_eq_false,Jy,if_false,HJ,Iv,I5] at hr
    simp only[CQ,Dd,HJ,Iv,HS,IA,List.any_eq_false,Bool.not_eq_true]
    refine⟨by omega,by omega,by omega,fun x hx=>?_⟩
    have:=Ct (hr.2 x hx)
    grind[ly]
 grind[AE,CQ]
theorem cz.ok.good{m:cz}(h:m.ok):CQ 8 (AE m)=J:=h.n.good
theorem AiY(m:cz)(hm:m.okS)(r:cf)(hr:r∈m.av):F0 147 [Ad m,BP r] (db J):=by
 have h:=hm.right r hr
 rcases hm.n.kind with hk|hk
 ·rw[Fy,Ie hk] at h
  rw[←h];exact SX m hm.short hk r (hm.rshort r hr)
 ·rw[Fy,HZ (by omega)] at h
  rw[←h];exact SW m hm.short hk r (hm.rshort r hr)
noncomputable abbrev Anl:=Tryz.f146
theorem AcG(m:cz)(hm:m.okS)(r:cf)(hr:r∈m.av):F0 146 [BP r,.v (.ref (A0 m))] (db O):=by
 refine sv Anl 8 [2] (.c (db J) .r) (F0 147 [Ad m,BP r] (db J)/\(db !true)=db O) ?_
 grind[AiY]
noncomputable abbrev AqN:=Tryz.f148
theorem Ait(m:cz)(t:cr)(b:Bool)(hk:(m.kind==6)=O)(hT:F0 86 [Ad m] (dT t))(hV:F0 85 [dT t,dV m.start] (db b)):F0 148 [Ad m] (db b):=by
 refine sv AqN 22 [1] (.f<|.c (dT t)<|.c (db b) .r) ((m.kind==6)=O/\F0 86 [Ad m] (dT t)/\F0 85 [bt (vT t),dV m.start] (db b)/\Q (db b)) ?_
 grind
noncomputable abbrev AqK:=Tryz.f84
def oh(b1 b2 b3 b4 b5 b6:Bool):Int:=if b1 then(if b2 then(if b3 then(if b4 then(if b5 then 16 else(if b6 then 0 else 17)) else 13) else 14) else 1) else 15
theorem AcF(m:cz)(b1 b2 b3 b4 b5 b6:Bool)(h1:A3 m.kind 1 6=b1)(h2:b1=J->F0 143 [Ad m] (db b2))(h3:b2=J->F0 144 [Ad m] (db b3))(h4:b2=J->F0 145 [Ad m] (db b4))
  (h5:b2=J->F0 136 [.v (BF m.av),.v (.fn 146 [] [.ref (A0 m)])] (db b5)) (h6:b5=O->F0 148 [Ad m] (db b6)):F0 84 [Ad m] (di (oh b1 b2 b3 b4 b5 b6)):=by
 have h1:=h1▸EP m.kind 1 6
 have nb:∀{b:Bool},(!b)=O->b=J:=fun h=>by grind
 have nt:∀{b:Bool},(!b)=J->b=O:=fun h=>by grind
 exact sv AqK 29 [1] (.c (db b1)<|.b .r<|.c (db b2)<|.b .r<|.c (db b3)<|.b .r<|.c (db b4)<|.b .r<|.c (db b5)<|.b .r<|.c (db b6)<|.b .r .r) (_/\((!b1)=J->di 15=di (oh b1 b2 b3 b4 b5 b6))/\((!b1)=O->F0 143 [Ad m] (db b2)/\((!b2)=J->di 1=di (oh b1 b2 b3 b4 b5 b6))/\((!b2)=O->F0 144 [Ad m] (db b3)/\((!b3)=J->di 14=di (oh b1 b2 b3 b4 b5 b6))/\((!b3)=O->F0 145 [Ad m] (db b4)/\((!b4)=J->di 13=di (oh b1 b2 b3 b4 b5 b6))/\((!b4)=O->F0 136 [bt (BF m.av),bt (bw 146 [] [bz (A0 m)])] (db b5)/\(b5=J->di 16=di (oh b1 b2 b3 b4 b5 b6))/\(b5=O->F0 148 [Ad m] (db b6)/\((!b6)=J->di 17=di (oh b1 b2 b3 b4 b5 b6))/\((!b6)=O->di 0=di (oh b1 b2 b3 b4 b5 b6)))))))) ⟨h1,fun e=>by rw[nt e];rfl,fun e1=>⟨h2 (nb e1),fun e=>by rw[nb e1,nt e];rfl,fun e2=>⟨h3 (nb e2),fun e=>by rw[nb e1,nb e2,nt e];rfl,fun e3=>⟨h4 (nb e2),fun e=>by rw[nb e1,nb e2,nb e3,nt e];rfl,fun e4=>⟨h5 (nb e2),fun e=>by rw[nb e1,nb e2,nb e3,nb e4,e];rfl,fun e5=>⟨h6 e5,fun e=>by rw[nb e1,nb e2,nb e3,nb e4,e5,nt e];rfl,fun e=>by rw[nb e1,nb e2,nb e3,nb e4,e5,nb e];rfl⟩⟩⟩⟩⟩⟩
theorem AjS(m:cz)(hm:m.okS):F0 84 [Ad m] (di (if Ah (AE m) m.start then 0 else 17)):=by
 obtain⟨h1,h2,h3,h4,h5,h6,h7,h8⟩:=hm.n.sz
 have:=AcF m true true true true false (Ah (AE m) m.start) (by rcases hm.n.kind with h|h|h<;>rw[h]<;>rfl) (fun _=>?_) (fun _=>?_) (fun _=>?_) (fun _=>?_) (fun _=>Ait m _ _ (by rcases hm.n.kind with h|h|h<;>rw[h]<;>rfl) (NL m (by omega) (by omega) hm.n.kind) (LC _ hm.n.good _))
 ·exact this
 ·have:=NP (Tt m) m (by
   unfold Tt
   rcases hm.n.kind with h|h|h<;>rw[h]
   all_goals grind[Aq2,Aq1,Aq0])
  rwa[hm.n.sized] at this
 ·have:=My m (by omega)
  rwa[hm.n.ranked] at this
 ·have:=V1 m (by grind[Cj])
  rwa[hm.n.named] at this
 ·have:=MN 146 [] [.ref (A0 m)] (fun _=>false) m.av (by omega) (fun r hr=>AcG m hm r hr)
  grind
theorem Es(m:cz)(hm:m.ok):F0 84 [Ad m] (di 0):=by
 have:=AjS m hm
 rwa[hm.start,Ie rfl] at this
noncomputable abbrev AmE:=Tryz.f47
theorem AfC(m:cz)(hm:m.ok)(v:b9):F0 47 [Ad m,dV v] (db (Ah (AE m) v)):=by
 obtain⟨h1,h2,h3,h4,h5,h6,h7,h8⟩:=hm.sz
 exact sv AmE 14 [2,3] (.c (di 0)<|.c (dT (AE m))<|.c (db (Ah (AE m) v)) .r) (_/\_/\_/\Q (db (Ah (AE m) v))) ⟨Es m hm,NL m (by omega) (by omega) hm.kind,LC _ hm.good v,rfl⟩
theorem EC(m:cz)(hm:m.ok)(v:b9)(_:v.size<=1000000):F0 47 [Ad m,dV v] (db (Ah (AE m) v)):=AfC m hm v
noncomputable abbrev Aqc:=Tryz.f46
theorem TV(m:cz)(hm:m.ok):F0 46 [Ad m] (di 0):=by
 exact sv Aqc 12 [1] (.c (di 0)<|.k<|.f .r) (_/\(m.kind==6)=O/\Q (di 0)) ⟨Es m hm,by rcases hm.kind with h|h|h<;>rw[h]<;>rfl,rfl⟩
noncomputable abbrev Aq7:=Tryz.f75
noncomputable abbrev AoO:=Tryz.f137
def F2(m:cz):Bool:=(m.kind==1)&&m.av.all fun r=> !decide ((I r.move:Int)>0)
theorem ZU(r:cf):F0 137 [BP r] (db (Y ((I r.move:Int)>0))):=by
 refine sv AoO 7 [1] .r (db (Y ((I (cc r.move):Int)>0))=db (Y ((I r.move:Int)>0))) ?_
 rw[HH]
theorem L9(m:cz)(hm:I m.av<=1000000):F0 75 [Ad m] (db (F2 m)):=by
 refine sv Aq7 12 [1] (.b (.c (db (m.av.any fun r=>Y ((I r.move:Int)>0))) .r) .r) (((m.kind==1)=J->F0 136 [bt (BF m.av),bt (bw 137 [] [])] (db (List.any m.av fun r=>Y ((I r.move:Int)>0)))/\(db !List.any m.av fun r=>Y ((I r.move:Int)>0))=db (F2 m))/\((m.kind==1)=O->db O=db (F2 m))) ⟨fun h=>⟨MN _ [] [] _ m.av hm fun r _=>ZU r,?_⟩,fun h=>?_⟩
 ·simp only[F2,h,Is]
  rw[←Ako];simp only[Bool.not_not]
 ·simp only[F2,h,Iq]
noncomputable abbrev Am4:=Tryz.f22
theorem ZR(a b:b9)(ha:a.fit):F0 22 [dV a,dV b] (db (Ar a b==0)):=by
 exact sv Am4 9 [2,3] (.c (di (Ar a b)) .r) (_/\Q (db (Ar a b==0))) ⟨Wc _ a b (HP _) ha,rfl⟩
theorem FZ(a b:b9)(ha:a.size<=1000000):F0 22 [dV a,dV b] (db (Ar a b==0)):=ZR a b (b9.fit_of a ha)
noncomputable abbrev AmH:=Tryz.f236
theorem X6(c:UInt8):F0 236 [.v (vb c)] (db (DZ c)):=by
 refine sv AmH 21 [] (.b (.b .r (.b (.b .r .r) .r)) (.k<|.b (.b .r .r) .r)) ((Y ((↑(UInt8.toNat c):Int)>=97)=J->(Y ((↑(UInt8.toNat c):Int)<=122)=J->db J=db (DZ c))/\(Y ((↑(UInt8.toNat c):Int)<=122)=O->(Y ((↑(UInt8.toNat c):Int)>=48)=J->(Y ((↑(UInt8.toNat c):Int)<=57)=J->db J=db (DZ c))/\(Y ((↑(UInt8.toNat c):Int)<=57)=O->db ((↑(UInt8.toNat c):Int)==95)=db (DZ c)))/\(Y ((↑(UInt8.toNat c):Int)>=48)=O->db ((↑(UInt8.toNat c):Int)==95)=db (DZ c))))/\(Y ((↑(UInt8.toNat c):Int)>=97)=O->(Y ((↑(UInt8.toNat c):Int)>=48)=J->(Y ((↑(UInt8.toNat c):Int)<=57)=J->db J=db (DZ c))/\(Y ((↑(UInt8.toNat c):Int)<=57)=O->db ((↑(UInt8.toNat c):Int)==95)=db (DZ c)))/\(Y ((↑(UInt8.toNat c):Int)>=48)=O->db ((↑(UInt8.toNat c):Int)==95)=db (DZ c)))) ?_
 grind[DZ,Sv,mz]
noncomputable abbrev MY:=Tryz.f163
noncomputable def Lb:=yl MY
theorem Aag(p:UInt8->Bool):∀s:List UInt8,Qn p s=I s->∀c∈s,p c=J
 |[],_,_,h=>absurd h (by simp)
 |x::s,h,c,hc=>by
  unfold Qn at h
  split at h
  ·rename_i hx
   rcases Iz.1 hc with rfl|hc
   ·exact hx
   ·exact Aag p s (by grind) c hc
  grind
theorem S4(s:List UInt8)(hs:I s<=12)(hw:Ey s=J)(n:Nat):∀k:Nat,I s-k=n->
  Rn PP MY 0 (db J) ba ([kl Lb [1,0,1,0,0],.blk 0,kc Lb [1,1]]++[]) (cy 33 [(0,ds s),(3,di k)]) ba:=by
 induction n using Nat.strongRecOn with
 |_ n ih=>
 intro k hn
 simp only[Ey,HJ,bne_iff_ne,ne_eq,Iv] at hw
 obtain⟨w1,w2,w3,w4⟩:=hw
 have hall:=Aag DZ s (Int.ofNat_inj.1 w4)
 have h0:s[0]?=G (s.headD 0):=by cases s with
  |nil=>simp at w1
  |cons a s=>rfl
 simp only[Sv,HJ] at w3
 refine lv 33 [] (.b (.e fun c:UInt8=>.y c<|.c (db J)<|.l [ke 0,ch 3 (di (k+1:Nat))]) (.t<|.t<|.y (s.headD 0)<|.t<|.y (s.headD 0) .r)) ((Y ((k:Int)<(I s:Int))=J->∃a,0<=(k:Int)/\s[Z (k:Int)]?=G a/\Aa PP 236 [bt (aa IntKind.u8 (↑(UInt8.toNat a):Int))] d7 (db J) d7/\di (yu yt ((k:Int)+1))=di (↑(k+1):Int)/\Nv.It (A2 (CN 0) PP (fun env σ1=>A9 PP MY env σ1 (db J) ba) [kl Lb [1,0,1,0,0],bf 0,kc Lb [1,1]] (cy 33 [(0,bt (ae s)),(3,di (↑(k+1):Int))]) ba))/\(Y ((k:Int)<(I s:Int))=O->Y ((I s:Int)>=1)=J/\Y ((I s:Int)<=12)=J/\iz 0<=0/\s[Z 0]?=G (headD s 0)/\Y ((↑(UInt8.toNat (headD s 0)):Int)>=97)=J/\iz 0<=0/\s[Z 0]?=G (headD s 0)/\db (Y ((↑(UInt8.toNat (headD s 0)):Int)<=122))=db J)) ⟨fun h=>?_,fun h=>?_⟩
 ·have hk:k<I s:=by simpa using h
  have hx:s[k]?=G s[k]:=HI hk
  generalize s[k]=c at hx
  refine⟨c,by omega,by simpa using hx,hall c (HO hx)▸X6 c,Ae,⟨?_⟩⟩
  exact ih (I s- (k+1)) (by omega) (k+1) rfl
 grind
theorem S3(s:List UInt8)(hw:Ey s=J):F0 163 [ds s] (db J):=by
 have hs:I s<=12:=by
  grind[Ey]
 exact sv MY 33 [] (.l [ke 0,ch 3 (di (0:Nat))]) (Q (di 0)/\_) ⟨rfl,iK (S4 s hs hw _ 0 rfl)⟩
noncomputable abbrev AjI:=Tryz.f102
theorem CR(x a b:Int):F0 102 [di x,di a,di b] (db (A3 x a b)):=by
 refine sv AjI 15 [] (.b .r .r) ((Y (x>=a)=J->db (Y (x<=b))=db (A3 x a b))/\(Y (x>=a)=O->db O=db (A3 x a b))) ?_
 grind[A3]
noncomputable abbrev VP:=Tryz.f103
theorem Xv(m:cz)(hm:m.okN):F0 103 [Ad m] (db J):=by
 have h1:∀a b x,A3 x a b=J->F0 102 [di x,di a,di b] (db J):=fun a b x h=>h▸CR x a b
 have hs:=hm.sized
 simp only[Dr,HJ,HS] at hs
 obtain⟨s1,s2,s3,s4,s5,s6⟩:=hs
 have hk:=hm.kind
 clear hm
 obtain⟨kind,aw,ay,ax,au,ao,age,av,start⟩:=m
 dsimp only at*
 rcases hk with hk|hk|hk<;>subst hk
 ·refine sv VP 81 [1] (.c (db J)<|.c (db J)<|.k<|.f<|.c (db J)<|.c (db J) .r) (F0 102 [di (I (U ae (cz.mk 1 aw ay ax au ao age av start).aw):Int),di 1,di 8] (db J)/\F0 102 [di (I (U ae (cz.mk 1 aw ay ax au ao age av start).ay):Int),di 1,di 6] (db J)/\Y ((I (U Al (cz.mk 1 aw ay ax au ao age av start).av):Int)>12)=O/\F0 102 [di (I (U ae (cz.mk 1 aw ay ax au ao age av start).ax):Int),di 0,di 0] (db J)/\F0 102 [di (cz.mk 1 aw ay ax au ao age av start).ao,di 0,di 0] (db J)/\db ((cz.mk 1 aw ay ax au ao age av start).age==0)=db J) ?_
  have:=Ct s6
  grind[Tt]
 ·refine sv VP 81 [1] (.c (db J)<|.c (db J)<|.k<|.f<|.c (db J)<|.c (db J) .r) (F0 102 [di (I (U ae (cz.mk 2 aw ay ax au ao age av start).aw):Int),di 1,di 8] (db J)/\F0 102 [di (I (U ae (cz.mk 2 aw ay ax au ao age av start).ay):Int),di 1,di 2] (db J)/\Y ((I (U Al (cz.mk 2 aw ay ax au ao age av start).av):Int)>12)=O/\F0 102 [di (I (U ae (cz.mk 2 aw ay ax au ao age av start).ax):Int),di 1,di 6] (db J)/\F0 102 [di (cz.mk 2 aw ay ax au ao age av start).ao,di 0,di 0] (db J)/\db ((cz.mk 2 aw ay ax au ao age av start).age==0)=db J) ?_
  have:=Ct s6
  grind[Tt]
 ·refine sv VP 81 [1] (.c (db J)<|.c (db J)<|.k<|.f<|.c (db J)<|.c (db J) .r) (F0 102 [di (I (U ae (cz.mk 3 aw ay ax au ao age av start).aw):Int),di 1,di 8] (db J)/\F0 102 [di (I (U ae (cz.mk 3 aw ay ax au ao age av start).ay):Int),di 1,di 2] (db J)/\Y ((I (U Al (cz.mk 3 aw ay ax au ao age av start).av):Int)>12)=O/\F0 102 [di (I (U ae (cz.mk 3 aw ay ax au ao age av start).ax):Int),di 1,di 6] (db J)/\F0 102 [di (cz.mk 3 aw ay ax au ao age av start).ao,di 0,di 0] (db J)/\db ((cz.mk 3 aw ay ax au ao age av start).age==0)=db J) ?_
  have:=Ct s6
  grind[Tt]
noncomputable abbrev Nl:=Tryz.f104
noncomputable def OC:=yl Nl
theorem AeN(m:cz)(hm:m.okN)(hk:m.kind≠3):F0 104 [Ad m] (db J):=by
 refine sv Nl 32 [1] (.t .r) ((m.kind !=3)=J/\db ((I (cc m.au):Int)==0)=db J) ?_
 have h:=hm.ranked
 grind[C4]
theorem Xb(m:cz)(hm:m.okN)(hk:m.kind=3)(n:Nat):∀k:Nat,I m.au-k=n->
  Rn PP Nl 0 (db J) ba ([kl OC [1,1,1,0,1,0,0],.blk 0,kc OC [1,1,1,1]]++[]) (cy 32 [(1,.v (.ref (A0 m))),(3,di k)]) ba:=by
 induction n using Nat.strongRecOn with
 |_ n ih=>
 intro k hn
 have h:=hm.ranked
 simp only[C4,hk,bne_self_eq_false,Jy,if_false,HJ,I5] at h
 have hz:=hm.sz
 refine lv 32 [1] (.b (.e fun x:Int=>.x (vi x)<|.c (db J)<|.l [ke 1,ch 3 (di (k+1:Nat))]) .r) ((Y ((k:Int)<(I (cc m.au):Int))=J->∃a,0<=(k:Int)/\(cc m.au)[Z (k:Int)]?=G (vi a)/\Aa PP 102 [di a,di 0,di 5] d7 (db J) d7/\di (yu yt ((k:Int)+1))=di (↑(k+1):Int)/\Nv.It (A2 (CN 0) PP (fun env σ1=>A9 PP Nl env σ1 (db J) ba) [kl OC gb,bf 0,kc OC [1,1,1,1]] (cy 32 [(1,bt (gd m)),(3,di (↑(k+1):Int))]) ba))/\(Y ((k:Int)<(I (cc m.au):Int))=O->Q (db J))) ⟨fun h1=>?_,fun h1=>rfl⟩
 have hk1:k<I m.au:=by grind
 have hx:m.au[k]?=G m.au[k]:=HI hk1
 generalize m.au[k]=x at hx
 refine⟨x,by omega,Am hx,h.2 x (HO hx)▸CR x 0 5,Ae,⟨?_⟩⟩
 exact ih (I m.au- (k+1)) (by omega) (k+1) rfl
theorem AiX(m:cz)(hm:m.okN)(hk:m.kind=3):F0 104 [Ad m] (db J):=by
 have h:=hm.ranked
 simp only[C4,hk,bne_self_eq_false,Jy,if_false,HJ] at h
 refine sv Nl 32 [1] (.f<|.f<|.l [ke 1,ch 3 (di (0:Nat))]) ((m.kind !=3)=O/\((I (cc m.au):Int) !=(I (df m.ax):Int))=O/\Q (di 0)/\_) ⟨by grind,by grind,rfl,iK (Xb m hm hk _ 0 rfl)⟩
theorem Xa(m:cz)(hm:m.okN):F0 104 [Ad m] (db J):=by
 grind[AiX,AeN]
noncomputable abbrev vk:=Tryz.f164
noncomputable def Y4:=yl vk
theorem Abw(l:List (List UInt8))(hl:I l<=1000)(s:List UInt8)(n:Nat):∀k:Nat,I l-k=n->
  Rn PP vk 0 (db ((l.drop k).any (· ==s))) ba ([kl Y4 [1,1,0,1,0,0],.blk 0,kc Y4 [1,1,1]]++[]) (cy 18 [(0,ds s),(3,dl (l.map ae)),(4,di k)]) ba:=by
 induction n using Nat.strongRecOn with
 |_ n ih=>
 intro k hn
 refine lv 18 [] (.b (.e fun x:List UInt8=>.x (.str x)<|.b .r (.l [ke 0,ke 3,ch 4 (di (k+1:Nat))])) .r) ((Y ((k:Int)<(I (U ae l):Int))=J->∃a,0<=(k:Int)/\(U ae l)[Z (k:Int)]?=G (ae a)/\((a==s)=J->db J=db (List.any (W k l) fun x=>x==s))/\((a==s)=O->di (yu yt ((k:Int)+1))=di (↑(k+1):Int)/\Nv.It (A2 (CN 0) PP (fun env σ1=>A9 PP vk env σ1 (db (List.any (W k l) fun x=>x==s)) ba) [kl Y4 ee,bf 0,kc Y4 [1,1,1]] (cy 18 [(0,bt (ae s)),(3,bt (kh l)),(4,di (↑(k+1):Int))]) ba)))/\(Y ((k:Int)<(I (U ae l):Int))=O->db O=db (List.any (W k l) fun x=>x==s))) ⟨fun h=>?_,fun h=>?_⟩
 ·have hk:k<I l:=by simpa using h
  have hx:l[k]?=G l[k]:=HI hk
  rw[HX hk]
  generalize l[k]=x at hx⊢
  refine⟨x,by omega,CC hx,fun h1=>?_,fun h1=>⟨Ae,⟨?_⟩⟩⟩
  ·rw[List.any_cons,h1,Bool.true_or]
  ·rw[List.any_cons,h1,Bool.false_or]
   exact ih (I l- (k+1)) (by omega) (k+1) rfl
 grind[drop_of_length_le]
theorem Abv(s:List UInt8):F0 164 [ds s] (db (X9 s)):=by
 refine sv vk 18 [] (.l [ke 0,ch 3 (dl (su.map ae)),ch 4 (di (0:Nat))]) (bt (ai [ae (bc #[109,111,100,101,108]).data.toList,ae (bc #[115,116,97,116,101,115]).data.toList,ae (bc #[112,108,97,99,101,115]).data.toList,ae (bc #[108,101,116,116,101,114,115]).data.toList,ae (bc #[108,101,118,101,108,115]).data.toList,ae (bc #[97,103,101]).data.toList,ae (bc #[114,117,108,101]).data.toList,ae (bc #[110,101,101,100]).data.toList,ae (bc #[103,105,118,101]).data.toList,ae (bc #[109,111,118,101]).data.toList,ae (bc #[101,109,112,116,121]).data.toList,ae (bc #[115,101,110,100]).data.toList,ae (bc #[114,101,99,101,105,118,101]).data.toList,ae (bc #[112,97,116,104]).data.toList,ae (bc #[110,101,120,116]).data.toList,ae (bc #[116,97,107,101]).data.toList,ae (bc #[109,97,107,101]).data.toList,ae (bc #[115,116,97,114,116]).data.toList])=dl (U ae su)/\Q (di 0)/\I0 vk (I ba.H) (db (X9 s)) ba [kl Y4 ee,bf 0,kc Y4 [1,1,1]] (cy 18 [(0,bt (ae s)),(3,dl (U ae su)),(4,di (↑0:Int))]) ba) ⟨rfl,rfl,⟨?_⟩⟩
 exact Abw su (by decide) s _ 0 rfl
end Go.Proofs.YtkkplhjidondkaaGreat
