/-
  A part of the proof.
-/
import Derived.Test.YtpmahmngmgnnbaaGreatDoorZb
import Derived.Test.YtpmahmngmgnnbaaGreatDoorZa
namespace Go.Nv
open Go.Dv
open List (nil_append replicate)
open Go.IntKind (wrap)
inductive DK where
 |q
 |l (j q off n:Nat)
 |e
def DK.eff:DK->Bool
 |.e=>true
 |_=>false
noncomputable def ZG(rec:List DK)(j:Nat):Option Nat:=
 List.rec (motive:=fun _=>Nat->Nat->Option Nat) (fun _ _=>none) (fun d _ ih i j=>Bool.rec (ih (Nat.succ i) j) (Nat.rec (motive:=fun _=>Option Nat) (some i) (fun j _=>ih (Nat.succ i) j) j) d.eff) rec 0 j
noncomputable def UQ(ops:Array Oper)(rec:List DK)(i j:Nat):Option Nat:=
 List.rec (motive:=fun _=>Nat->Option Nat) (fun _=>none) (fun _ _ ih j=>match ZG rec j with
  |none=>none
  |some e=>cond (((Di [] ops.toList).getD e 0).testBit i) (some j) (ih (Nat.succ j))) rec j
noncomputable def AaQ(lim:Nat->Nat->Option Nat)(i:Nat):DK->Ef
 |.q=>(false,none)
 |.l j _ _ _=>(false,lim i j)
 |.e=>(true,none)
noncomputable def GM(lim:Nat->Nat->Option Nat):Nat->List DK->List Ef
 |_,[]=>[]
 |i,d::ds=>AaQ lim i d::GM lim (i+1) ds
noncomputable def sameQ(q off n j:Nat)(c0:Option (List D))(lim:Option Nat)(sts:List St)(c:Nat):Prop:=
 List.rec (motive:=fun _=>Nat->Prop) (fun _=>True) (fun τ _ ih c=>Bool.rec
  (match lim with
   |some b=>Bool.rec (ih (Nat.succ c)) (AO τ q off n=c0/\ih (Nat.succ c)) (Nat.ble c b)
   |none=>AO τ q off n=c0/\ih (Nat.succ c)) (ih (Nat.succ c)) (Nat.beq c j)) sts c
theorem NE{q off n j:Nat}{c0:Option (List D)}{lim:Option Nat}:∀{sts:List St} {c:Nat},sameQ q off n j c0 lim sts c->∀x τ,sts[x]?=some τ->c+x≠j->(∀b,lim=some b->c+x<=b)->AO τ q off n=c0
 |[],c,_,x,τ,hx,_,_=>by simp at hx
 |τ0::sts,c,h,x,τ,hx,hj,hb=>by
  have h':Bool.rec (match (generalizing:=false) lim with
   |some b=>Bool.rec (sameQ q off n j c0 lim sts (Nat.succ c)) (AO τ0 q off n=c0/\sameQ q off n j c0 lim sts (Nat.succ c)) (Nat.ble c b)
   |none=>AO τ0 q off n=c0/\sameQ q off n j c0 lim sts (Nat.succ c)) (sameQ q off n j c0 lim sts (Nat.succ c)) (Nat.beq c j):=h
  have rest:sameQ q off n j c0 lim sts (Nat.succ c):=by
   cases h1:Nat.beq c j with
   |true=>rw[h1] at h';exact h'
   |false=>
    rw[h1] at h'
    simp only at h'
    cases lim with
    |none=>exact h'.2
    |some b=>
     simp only at h'
     cases h2:Nat.ble c b with
     |true=>rw[h2] at h';exact h'.2
     |false=>rw[h2] at h';exact h'
  cases x with
  |succ x=>exact NE rest x τ (by simpa using hx) (by simp only[Nat.succ_eq_add_one];omega) (fun b e=>by have:=hb b e;simp only[Nat.succ_eq_add_one];omega)
  |zero=>
   simp at hx;subst hx
   have h1:Nat.beq c j=false:=by
    cases h1:Nat.beq c j with
    |false=>rfl
    |true=>exact absurd (HM h1) (by simpa using hj)
   rw[h1] at h'
   simp only at h'
   cases lim with
   |none=>exact h'.1
   |some b=>
    have:Nat.ble c b=true:=Nat.ble_eq_true_of_le (by simpa using hb b rfl)
    simp only[this] at h'
    exact h'.1
noncomputable def EE(lim:Nat->Nat->Option Nat)(sts:List St)(rec:List DK)(i:Nat):Prop:=
 List.rec (motive:=fun _=>Nat->Prop) (fun _=>True) (fun d _ ih i=>match d with
  |.l j q off n=>(match sts[j]? with
   |some τ=>sameQ q off n j (AO τ q off n) (lim i j) sts 0/\ih (Nat.succ i)
   |none=>False)
  |_=>ih (Nat.succ i)) rec i
def G8:List DK->Bool
 |[]=>true
 |.l .. ::_=>false
 |_::rec=>G8 rec
theorem FZ{lim:Nat->Nat->Option Nat}{sts:List St}:∀{rec:List DK} {i:Nat},G8 rec=true->EE lim sts rec i
 |[],_,_=>trivial
 |.q::rec,i,h=>FZ (rec:=rec) (i:=i+1) h
 |.e::rec,i,h=>FZ (rec:=rec) (i:=i+1) h
 |.l .. ::_,_,h=>by simp[G8] at h
noncomputable def exs(s:Sc)(K:Sc->Prop):Prop:=
 Sc.rec (motive:=fun _=>Prop) (K .z) (fun _ ih=>∃a,ih a) (fun s t _ _=>K (.b s t)) (fun h s _=>K (.h h s)) s
theorem S8{K:Sc->Prop}:∀{s:Sc},exs s K->∃s',K s'
 |.z,h=>⟨_,h⟩
 |.e f,h=>by obtain⟨a,h⟩:=(h:∃a,exs (f a) K);exact S8 h
 |.b s t,h=>⟨_,h⟩
 |.h i s,h=>⟨_,h⟩
abbrev KD:=List DK->List St->Sc->List D->Prop
noncomputable def vDr(P:Program)(im:List Nat)(ops:Array Oper)(L:List Oper)(rec:List DK)(sts:List St)(j:Nat)(s:Sc)(env:List D)(σ:St)(K:KD):Prop:=
 List.rec (motive:=fun _=>List DK->List St->Nat->Sc->List D->St->Prop) (fun rec sts _ s env _=>K rec sts s env)
  (fun o _ ih rec sts j s env σ=>exs s fun s=>E4 ops rec.length o s env fun b s env=>
   Bool.rec (C4 env o.dst (.tup []) fun env=>A5 rec .q fun rec=>ih rec sts j s env σ)
    (GJ env o.op.operands.toList fun ds=>vOp P im o ds σ s fun s d σ' kd=>C4 env o.dst d fun env=>match kd with
     |.pure=>A5 rec .q fun rec=>ih rec sts j s env σ
     |.load q off n=>A5 rec (.l j q off n) fun rec=>ih rec sts j s env σ
     |.eff=>A5 rec .e fun rec=>A5 sts σ' fun sts=>ih rec sts (Nat.succ j) s env σ') b) L rec sts j s env σ
noncomputable def Y9(P:Program)(im:List Nat)(ops:Array Oper)(s:Sc)(env:List D)(σ:St)(K:Sc->List D->St->Prop):Prop:=
 cond (Nat.blt ops.size 1000000) (vDr P im ops ops.toList [] [σ] 0 s env σ fun rec sts s env=>
  cond (Gf ops (GM (UQ ops rec) 0 rec)) (match sts.getLast? with
   |some σ=>Bool.rec (EE (UQ ops rec) sts rec 0/\K s env σ) (K s env σ) (G8 rec)
   |none=>False) False) False
theorem DZ{lim:Nat->Nat->Option Nat}{sts:List St}{d:DK}{rec:List DK}{i:Nat}(h:EE lim sts (d::rec) i):EE lim sts rec (i+1):=by
 have h':(match (generalizing:=false) d with
  |.l j q off n=>(match sts[j]? with
   |some τ=>sameQ q off n j (AO τ q off n) (lim i j) sts 0/\EE lim sts rec (Nat.succ i)
   |none=>False)
  |_=>EE lim sts rec (Nat.succ i)):=h
 split at h'
 ·split at h'
  ·exact h'.2
  ·exact h'.elim
 ·exact h'
theorem BS{P:Program}{o:Oper}{env:List D}{σ σ':St}{d:D}(h:Ap P o (o.op.operands.toList.map (evN env)) σ d σ'):Ap P o (GK env o) σ d σ':=by
 intro E g a w K Q hw hds hK
 refine h E g a w K Q hw ?_ hK
 unfold GK at hds
 generalize o.op.operands.toList=l at hds⊢
 induction l with
 |nil=>simp[Ab]
 |cons x l ih=>
  simp only[HO,Ab] at hds⊢
  obtain⟨u,us,e,h1,h2⟩:=hds
  simp only[HB] at e
  obtain⟨rfl,rfl⟩:=e
  refine⟨_,_,rfl,?_,ih h2⟩
  cases x with
  |const u=>exact NZ
  |_=>exact h1
theorem Lj{P:Program}{im:List Nat}{ops:Array Oper}{n:Nat}{K:KD}(hops:ops.size<1000000):∀{L:List Oper} {rec:List DK} {sts:List St} {j:Nat} {s:Sc} {env:List D} {σ:St},env.length=n->sts.length=j+1->sts[j]?=some σ->vDr P im ops L rec sts j s env σ K->
  ∃rec' sts' s' env' σ',K (rec++rec') (sts++sts') s' env'/\env'.length=n/\rec'.length=L.length/\(sts++sts')[j+sts'.length]?=some σ'/\
   ∀lim:Nat->Nat->Option Nat,EE lim (sts++sts') rec' rec.length->∃vals,EI P ops (fun _=>sts++sts') 1000000 L env j vals (GM lim rec.length rec') env' (j+sts'.length)
 |[],rec,sts,j,s,env,σ,hn,hl,hs,h=>by
  refine⟨[],[],s,env,σ,?_,hn,rfl,by simpa using hs,fun lim _=>⟨[],.nil⟩⟩
  have h':K rec sts s env:=h
  simpa using h'
 |o::L,rec,sts,j,s,env,σ,hn,hl,hs,h=>by
  have h':exs s fun s=>E4 ops rec.length o s env fun b s env=>
   Bool.rec (C4 env o.dst (.tup []) fun env=>A5 rec .q fun rec=>vDr P im ops L rec sts j s env σ K)
    (GJ env o.op.operands.toList fun ds=>vOp P im o ds σ s fun s d σ' kd=>C4 env o.dst d fun env=>match kd with
     |.pure=>A5 rec .q fun rec=>vDr P im ops L rec sts j s env σ K
     |.load q off n=>A5 rec (.l j q off n) fun rec=>vDr P im ops L rec sts j s env σ K
     |.eff=>A5 rec .e fun rec=>A5 sts σ' fun sts=>vDr P im ops L rec sts (Nat.succ j) s env σ' K) b:=h
  have hne:ops.size- (L.length+1)≠1000000:=by omega
  have hput:∀(d:D),(BU env o.dst d).length=n:=fun d=>by cases o.dst<;>simp[BU,hn]
  obtain⟨s0,h'⟩:=S8 h'
  obtain⟨b,s1,h1,h2⟩:=Hi h'
  cases b with
  |false=>
   have h3:C4 env o.dst (.tup []) fun env=>A5 rec .q fun rec=>vDr P im ops L rec sts j s1 env σ K:=h1
   rw[C1,A4] at h3
   obtain⟨rec',sts',s',env',σ',k1,k2,k3,k4,k5⟩:=Lj hops (hput _) hl hs h3
   refine⟨.q::rec',sts',s',env',σ',by simpa using k1,k2,by simp[k3],k4,fun lim hlo=>?_⟩
   obtain⟨vals,hv⟩:=k5 lim (by have:=DZ hlo;simpa using this)
   refine⟨_,.skip hne h2 (by simpa[GM] using hv)⟩
  |true=>
   have h3:GJ env o.op.operands.toList fun ds=>vOp P im o ds σ s1 fun s d σ' kd=>C4 env o.dst d fun env=>match kd with
     |.pure=>A5 rec .q fun rec=>vDr P im ops L rec sts j s env σ K
     |.load q off n=>A5 rec (.l j q off n) fun rec=>vDr P im ops L rec sts j s env σ K
     |.eff=>A5 rec .e fun rec=>A5 sts σ' fun sts=>vDr P im ops L rec sts (Nat.succ j) s env σ' K:=h1
   rw[GI] at h3
   obtain⟨s2,d,σ2,kd,h4,h5⟩:=Lh h3
   rw[C1] at h4
   have hidx:ops.size- (L.length+1)≠1000000:=hne
   cases kd with
   |pure=>
    have h6:A5 rec .q fun rec=>vDr P im ops L rec sts j s2 (BU env o.dst d) σ K:=h4
    rw[A4] at h6
    obtain⟨rec',sts',s',env',σ',k1,k2,k3,k4,k5⟩:=Lj hops (hput _) hl hs h6
    refine⟨.q::rec',sts',s',env',σ',by simpa using k1,k2,by simp[k3],k4,fun lim hlo=>?_⟩
    obtain⟨vals,hv⟩:=k5 lim (by have:=DZ hlo;simpa using this)
    exact⟨_,.quiet hne h2 (fun _ τ _=>BS (h5.2 τ)) (by simpa[GM] using hv)⟩
   |load q off m=>
    have h6:A5 rec (.l j q off m) fun rec=>vDr P im ops L rec sts j s2 (BU env o.dst d) σ K:=h4
    rw[A4] at h6
    obtain⟨rec',sts',s',env',σ',k1,k2,k3,k4,k5⟩:=Lj hops (hput _) hl hs h6
    refine⟨.l j q off m::rec',sts',s',env',σ',by simpa using k1,k2,by simp[k3],k4,fun lim hlo=>?_⟩
    obtain⟨vals,hv⟩:=k5 lim (by have:=DZ hlo;simpa using this)
    have hv':EI P ops (fun _=>sts++sts') 1000000 L (BU env o.dst d) j vals (GM lim (rec.length+1) rec') env' (j+sts'.length):=by simpa using hv
    have hjs:(sts++sts')[j]?=some σ:=by rw[HK (by omega)];exact hs
    have hsame:∀x τ,(sts++sts')[x]?=some τ->(∀b,lim rec.length j=some b->x<=b)->Ap P o (GK env o) τ d τ:=by
     intro x τ hx hb
     refine BS (h5.2.2 τ ?_)
     by_cases e:x=j
     ·subst e;rw[hjs] at hx;simp at hx;rw[hx]
     ·have hl0:(match (sts++sts')[j]? with
       |some τ=>sameQ q off m j (AO τ q off m) (lim rec.length j) (sts++sts') 0/\EE lim (sts++sts') rec' (Nat.succ rec.length)
       |none=>False):=hlo
      rw[hjs] at hl0
      exact NE hl0.1 x τ hx (by simpa using e) (fun b hb'=>by simpa using hb b hb')
    cases hlim:lim rec.length j with
    |none=>
     refine⟨d::vals,?_⟩
     simp only[GM,AaQ,hlim]
     refine .quiet hne h2 (fun _ τ hτ=>?_) hv'
     obtain⟨x,hx⟩:=List.getElem?_of_mem hτ
     exact hsame x τ hx (fun b hb=>by rw[hlim] at hb;simp at hb)
    |some b=>
     refine⟨d::vals,?_⟩
     simp only[GM,AaQ,hlim]
     exact .quietW b hne h2 (fun _ c τ hc hτ=>hsame c τ hτ (fun b' hb=>by rw[hlim] at hb;simp at hb;omega)) hv'
   |eff=>
    have h6:A5 rec .e fun rec=>A5 sts σ2 fun sts=>vDr P im ops L rec sts (Nat.succ j) s2 (BU env o.dst d) σ2 K:=h4
    rw[A4,A4] at h6
    obtain⟨rec',sts',s',env',σ',k1,k2,k3,k4,k5⟩:=Lj hops (hput _) (by simp[hl]) (by rw[HH (by omega)];simp[hl]) h6
    refine⟨.e::rec',σ2::sts',s',env',σ',by simpa using k1,k2,by simp[k3],?_,fun lim hlo=>?_⟩
    ·have e:j+(σ2::sts').length=Nat.succ j+sts'.length:=by simp;omega
     rw[e];simpa using k4
    ·obtain⟨vals,hv⟩:=k5 lim (by have:=DZ hlo;simpa using this)
     have hv':EI P ops (fun _=>sts++σ2::sts') 1000000 L (BU env o.dst d) (j+1) vals (GM lim (rec.length+1) rec') env' (j+(σ2::sts').length):=by
      have e:j+(σ2::sts').length=Nat.succ j+sts'.length:=by simp;omega
      rw[e];simpa using hv
     refine⟨_,.eff hne h2 (fun _ τ hτ _=>⟨σ2,?_,?_⟩) hv'⟩
     ·rw[HH (by omega)];simp[hl]
     ·rw[HK (by omega),hs] at hτ
      simp at hτ;subst hτ
      exact BS h5
theorem TG{C:Ent->Ent->Prop}{P:Program}{R:List D->St->Prop}{k:List KI}(hm:P.follows .mixedOrders=true){im:List Nat}{id:Nat}{ops:Array Oper}{s:Sc}{env:List D}{σ:St}{n:Nat}{K:Sc->List D->St->Prop}(hn:env.length=n)
  (hK:∀s env σ,env.length=n->K s env σ->A9 C P R k env σ) (h:Y9 P im ops s env σ K):A9 C P R (.code (.region id ops true)::k) env σ:=by
 obtain⟨h1,h2⟩:=Aj h
 have hops:ops.size<1000000:=HR h1
 obtain⟨rec,sts,s',env',σ',k1,k2,k3,k4,k5⟩:=Lj hops hn (by simp) (by simp) h2
 obtain⟨h3,h5⟩:=Aj k1
 simp only[nil_append] at h3 h5
 simp only[Ih] at k4
 split at h5
 ·rename_i τ hτ
  have h6:EE (UQ ops rec) ([σ]++sts) rec 0/\K s' env' τ:=by
   cases hb:G8 rec with
   |true=>rw[hb] at h5;exact⟨FZ hb,h5⟩
   |false=>rw[hb] at h5;exact h5
  obtain⟨h4,h5⟩:=h6
  obtain⟨vals,hv⟩:=k5 (UQ ops rec) (by simpa using h4)
  simp only[Ih] at hv
  have:τ=σ':=by
   rw[List.getLast?_eq_getElem?] at hτ
   rw[show([σ]++sts).length-1=sts.length by simp] at hτ
   rw[k4] at hτ;simpa using hτ.symm
  subst this
  refine K1 hm (fun _=>[σ]++sts) 1000000 (by simp) k4 hv ?_ (hK _ _ _ k2 h5)
  simpa using h3
 ·exact h5.elim
structure Ld where
 q:Nat
 off:Nat
 n:Nat
 c:Option (List D)
noncomputable def KY(q off n:Nat)(c0:Option (List D))(sts:List St):Prop:=List.rec (motive:=fun _=>Prop) True (fun τ _ ih=>AO τ q off n=c0/\ih) sts
theorem Ko{q off n:Nat}{c0:Option (List D)}:∀{sts:List St},KY q off n c0 sts->∀τ∈sts,AO τ q off n=c0
 |[],_,τ,h=>absurd h (by simp)
 |σ::sts,h,τ,hτ=>by
  have h':AO σ q off n=c0/\KY q off n c0 sts:=h
  rcases Ib.1 hτ with rfl|hτ
  ·exact h'.1
  ·exact Ko h'.2 τ hτ
noncomputable def Aaa(sts:List St)(l:List Ld):Prop:=List.rec (motive:=fun _=>Prop) True (fun x _ ih=>KY x.q x.off x.n x.c sts/\ih) l
theorem MW{sts:List St}:∀{l:List Ld},Aaa sts l->∀x∈l,∀τ∈sts,AO τ x.q x.off x.n=x.c
 |[],_,x,h=>absurd h (by simp)
 |y::l,h,x,hx=>by
  have h':KY y.q y.off y.n y.c sts/\Aaa sts l:=h
  rcases Ib.1 hx with rfl|hx
  ·exact Ko h'.1
  ·exact MW h'.2 x hx
def Lf(cs:List D)(τ:St):St:=⟨τ.H++[some cs],τ.own⟩
def Tv(ad τ:St):St:=⟨τ.H++ad.H,ad.own++τ.own⟩
noncomputable def VD(f:St->Prop)(l:List St):Prop:=List.rec (motive:=fun _=>Prop) True (fun τ _ p=>f τ/\p) l
theorem O0{f:St->Prop}:∀{l:List St},VD f l->∀τ∈l,f τ
 |[],_,τ,h=>by simp at h
 |x::l,h,τ,hτ=>by
  have h:f x/\VD f l:=h
  rcases Ib.1 hτ with rfl|hτ
  ·exact h.1
  ·exact O0 h.2 τ hτ
abbrev KD2:=List St->List St->List Ld->List Ef->Sc->List D->Prop
noncomputable def QE(P:Program)(im:List Nat)(ops:Array Oper)(fr:Nat)(ad:St)(K:KD2)(L:List Oper):Nat->Bool->(St->St->Prop)->List St->List St->List Ld->List Ef->Sc->List D->St->St->Prop:=
 List.rec (motive:=fun _=>Nat->Bool->(St->St->Prop)->List St->List St->List Ld->List Ef->Sc->List D->St->St->Prop) (fun _ _ _ LF LT lds ef s env _ _=>K LF LT lds ef s env)
  (fun o _ ih i af pd LF LT lds ef s env σF σT=>exs s fun s=>E4 ops i o s env fun b s env=>
   Bool.rec
    (Bool.rec (C4 env o.dst (.tup []) fun env=>A5 ef (false,none) fun ef=>ih (Nat.succ i) af pd LF LT lds ef s env σF σT) False (Nat.beq i fr))
    (Bool.rec
     (GJ env o.op.operands.toList fun ds=>vOp P im o ds (Bool.rec σF σT af) s fun s1 d σ1 kd=>match kd with
      |.pure=>C4 env o.dst d fun env=>A5 ef (false,none) fun ef=>ih (Nat.succ i) af pd LF LT lds ef s1 env σF σT
      |.load q off n=>C4 env o.dst d fun env=>A5 ef (false,none) fun ef=>A5 lds ⟨q,off,n,AO (Bool.rec σF σT af) q off n⟩ fun lds=>ih (Nat.succ i) af pd LF LT lds ef s1 env σF σT
      |.eff=>Bool.rec
       (vOp P im o ds σT s fun _ d2 σ2 kd2=>match kd2 with
        |.eff=>d2=d/\C4 env o.dst d fun env=>A5 ef (true,none) fun ef=>A5 LF σ1 fun LF=>A5 LT σ2 fun LT=>ih (Nat.succ i) af pd LF LT lds ef s1 env σ1 σ2
        |_=>False)
       (cond (Pp ops i fr) (C4 env o.dst d fun env=>A5 ef (true,none) fun ef=>A5 LT σ1 fun LT=>ih (Nat.succ i) af pd LF LT lds ef s1 env σF σ1)
        (cond (Nat.beq LF.length LT.length) (vOp P im o ds σF s fun _ d2 σ2 kd2=>match kd2 with
         |.eff=>d2=d/\pd σ2 σ1/\C4 env o.dst d fun env=>A5 ef (true,none) fun ef=>A5 LF σ2 fun LF=>A5 LT σ1 fun LT=>ih (Nat.succ i) af pd LF LT lds ef s1 env σ2 σ1
         |_=>False) False)) af)
     (match (generalizing:=false) o.op,af with
      |.alloc e,false=>(match Gm P e with
       |some xs=>cond (LF.all fun τ=>Nat.beq τ.H.length σF.H.length) (LT=LF.map (Lf (xs.map .v))/\C4 env o.dst (.ptr σF.H.length 0) fun env=>A5 ef (false,none) fun ef=>ih (Nat.succ i) true (fun τ τ1=>τ1=Lf (xs.map .v) τ/\τ.H.length=σF.H.length) LF LT lds ef s env σF σT) False
       |none=>False)
      |_,false=>(match s with
       |.h (.o d _) s=>GJ env o.op.operands.toList fun ds=>LT=LF.map (Tv ad)/\VD (fun τ=>Ap P o ds τ d (Tv ad τ)) LF/\C4 env o.dst d fun env=>A5 ef (false,none) fun ef=>ih (Nat.succ i) true (fun τ τ1=>τ1=Tv ad τ/\Ap P o ds τ d (Tv ad τ)) LF LT lds ef s env σF σT
       |_=>False)
      |_,_=>False) (Nat.beq i fr)) b) L
theorem Db{P:Program}{im:List Nat}{ops:Array Oper}{fr n:Nat}{ad:St}{K:KD2}:∀{L:List Oper} {i:Nat} {af:Bool} {pd:St->St->Prop} {LF LT:List St} {lds:List Ld} {ef:List Ef} {s:Sc} {env:List D} {σF σT:St} {j:Nat},env.length=n->i+L.length=ops.size->LT.length=j+1->LT[j]?=some σT->
  (af=false->LF.length=j+1)->(LF.length=j+1->LF[j]?=some σF)->LF.length<=j+1->QE P im ops fr ad K L i af pd LF LT lds ef s env σF σT->
  ∃LF' LT' lds' ef' s' env' σ',K (LF++LF') (LT++LT') (lds++lds') (ef++ef') s' env'/\env'.length=n/\(LT++LT')[j+LT'.length]?=some σ'/\(af=true->(LF.length=LT.length∨LF'=[])/\∀(c:Nat) (τ:St),LF'[c]?=some τ->∃τ1,LT'[c]?=some τ1/\pd τ τ1)/\
   ((∀x∈lds',∀τ∈ (LF++LF')++(LT++LT'),AO τ x.q x.off x.n=x.c)->∃vals,EI P ops (BY (LF++LF') (LT++LT')) fr L env j vals ef' env' (j+LT'.length))
 |[],i,af,pd,LF,LT,lds,ef,s,env,σF,σT,j,hn,hi,hl,hs,hF,hF2,hF3,h=>by
  refine⟨[],[],[],[],s,env,σT,?_,hn,by simpa using hs,fun _=>⟨.inr rfl,fun c τ hc=>by simp at hc⟩,fun _=>⟨[],.nil⟩⟩
  have h':K LF LT lds ef s env:=h
  simpa using h'
 |o::L,i,af,pd,LF,LT,lds,ef,s,env,σF,σT,j,hn,hi,hl,hs,hF,hF2,hF3,h=>by
  have h':exs s fun s=>E4 ops i o s env fun b s env=>
   Bool.rec
    (Bool.rec (C4 env o.dst (.tup []) fun env=>A5 ef (false,none) fun ef=>QE P im ops fr ad K L (Nat.succ i) af pd LF LT lds ef s env σF σT) False (Nat.beq i fr))
    (Bool.rec
     (GJ env o.op.operands.toList fun ds=>vOp P im o ds (Bool.rec σF σT af) s fun s1 d σ1 kd=>match kd with
      |.pure=>C4 env o.dst d fun env=>A5 ef (false,none) fun ef=>QE P im ops fr ad K L (Nat.succ i) af pd LF LT lds ef s1 env σF σT
      |.load q off n=>C4 env o.dst d fun env=>A5 ef (false,none) fun ef=>A5 lds ⟨q,off,n,AO (Bool.rec σF σT af) q off n⟩ fun lds=>QE P im ops fr ad K L (Nat.succ i) af pd LF LT lds ef s1 env σF σT
      |.eff=>Bool.rec
       (vOp P im o ds σT s fun _ d2 σ2 kd2=>match kd2 with
        |.eff=>d2=d/\C4 env o.dst d fun env=>A5 ef (true,none) fun ef=>A5 LF σ1 fun LF=>A5 LT σ2 fun LT=>QE P im ops fr ad K L (Nat.succ i) af pd LF LT lds ef s1 env σ1 σ2
        |_=>False)
       (cond (Pp ops i fr) (C4 env o.dst d fun env=>A5 ef (true,none) fun ef=>A5 LT σ1 fun LT=>QE P im ops fr ad K L (Nat.succ i) af pd LF LT lds ef s1 env σF σ1)
        (cond (Nat.beq LF.length LT.length) (vOp P im o ds σF s fun _ d2 σ2 kd2=>match kd2 with
         |.eff=>d2=d/\pd σ2 σ1/\C4 env o.dst d fun env=>A5 ef (true,none) fun ef=>A5 LF σ2 fun LF=>A5 LT σ1 fun LT=>QE P im ops fr ad K L (Nat.succ i) af pd LF LT lds ef s1 env σ2 σ1
         |_=>False) False)) af)
     (match (generalizing:=false) o.op,af with
      |.alloc e,false=>(match Gm P e with
       |some xs=>cond (LF.all fun τ=>Nat.beq τ.H.length σF.H.length) (LT=LF.map (Lf (xs.map .v))/\C4 env o.dst (.ptr σF.H.length 0) fun env=>A5 ef (false,none) fun ef=>QE P im ops fr ad K L (Nat.succ i) true (fun τ τ1=>τ1=Lf (xs.map .v) τ/\τ.H.length=σF.H.length) LF LT lds ef s env σF σT) False
       |none=>False)
      |_,false=>(match s with
       |.h (.o d _) s=>GJ env o.op.operands.toList fun ds=>LT=LF.map (Tv ad)/\VD (fun τ=>Ap P o ds τ d (Tv ad τ)) LF/\C4 env o.dst d fun env=>A5 ef (false,none) fun ef=>QE P im ops fr ad K L (Nat.succ i) true (fun τ τ1=>τ1=Tv ad τ/\Ap P o ds τ d (Tv ad τ)) LF LT lds ef s env σF σT
       |_=>False)
      |_,_=>False) (Nat.beq i fr)) b:=h
  clear h
  have hidx:ops.size- (L.length+1)=i:=by simp at hi;omega
  have hi':Nat.succ i+L.length=ops.size:=by simp at hi;omega
  have hput:∀(d:D),(BU env o.dst d).length=n:=fun d=>by cases o.dst<;>simp[BU,hn]
  obtain⟨s0,h'⟩:=S8 h'
  obtain⟨b,s1,h1,h2⟩:=Hi h'
  have snoc2:∀{α:Type} (a:List α) (x:α) (r:List α),a++[x]++r=a++x::r:=fun a x r=>by simp
  cases b with
  |false=>
   cases hb:Nat.beq i fr with
   |true=>simp only[hb] at h1
   |false=>
    have hne:ops.size- (L.length+1)≠fr:=by rw[hidx];exact fun e=>by rw[e,Nat.beq_refl] at hb;simp at hb
    simp only[hb] at h1
    rw[C1,A4] at h1
    obtain⟨LF',LT',lds',ef',s',env',σ',k1,k2,k3,k4,k5⟩:=Db (hput _) hi' hl hs hF hF2 hF3 h1
    refine⟨LF',LT',lds',(false,none)::ef',s',env',σ',by simpa using k1,k2,k3,k4,fun hlo=>?_⟩
    obtain⟨vals,hv⟩:=k5 hlo
    exact⟨_,.skip hne h2 hv⟩
  |true=>
   cases hb:Nat.beq i fr with
   |true=>
    simp only[hb] at h1
    split at h1
    ·rename_i e heq _
     split at h1
     ·rename_i xs hz
      obtain⟨hall,h3,h4⟩:=Aj h1
      rw[C1,A4] at h4
      have hF1:=hF rfl
      obtain⟨LF',LT',lds',ef',s',env',σ',k1,k2,k3,k4,k5⟩:=Db (af:=true) (hput _) hi' hl hs (fun e=>by simp at e) hF2 hF3 h4
      refine⟨LF',LT',lds',(false,none)::ef',s',env',σ',by simpa using k1,k2,k3,fun e=>by simp at e,fun hlo=>?_⟩
      obtain⟨vals,hv⟩:=k5 hlo
      have hLF:=(k4 rfl).2
      refine⟨_,.free (by rw[hidx];exact(HM hb).symm) h2 (fun c τ hc=>?_) hv⟩
      have hc:(LF++LF')[c]?=some τ:=by simpa[BY] using hc
      have hopA:∀τ:St,τ.H.length=σF.H.length->Ap P o (GK env o) τ (.ptr σF.H.length 0) (Lf (xs.map .v) τ):=fun τ hlen=>by
       rw[←hlen]
       have:=LL (P:=P) (o:=o) (σ:=τ) heq hz
       exact BS (by simpa[heq,Op.operands,Lf] using this)
      rcases Nat.lt_or_ge c LF.length with hcl|hcl
      rotate_left
      ·rw[HH (by omega)] at hc
       obtain⟨τ1,g1,rfl,g3⟩:=hLF _ _ hc
       refine⟨_,?_,hopA τ g3⟩
       simp only[BY]
       rw[HH (by omega),show c-LT.length=c-LF.length by omega];exact g1
      rw[HK hcl] at hc
      refine⟨Lf (xs.map .v) τ,?_,?_⟩
      ·have:LT[c]?=some (Lf (xs.map .v) τ):=by rw[h3,Ic,hc];rfl
       have hlt:=(H0.1 this).1
       simp only[BY]
       rw[HK hlt];exact this
      ·have hlen:=Ii.1 hall τ (H4 hc)
       have hlen:=HM hlen
       exact hopA τ hlen
     ·exact h1.elim
    ·split at h1
     ·rename_i d _ s2
      rw[GI] at h1
      obtain⟨h3,hop,h4⟩:=h1
      rw[C1,A4] at h4
      have hF1:=hF rfl
      obtain⟨LF',LT',lds',ef',s',env',σ',k1,k2,k3,k4,k5⟩:=Db (af:=true) (hput _) hi' hl hs (fun e=>by simp at e) hF2 hF3 h4
      refine⟨LF',LT',lds',(false,none)::ef',s',env',σ',by simpa using k1,k2,k3,fun e=>by simp at e,fun hlo=>?_⟩
      obtain⟨vals,hv⟩:=k5 hlo
      have hLF:=(k4 rfl).2
      refine⟨_,.free (by rw[hidx];exact(HM hb).symm) h2 (fun c τ hc=>?_) hv⟩
      have hc:(LF++LF')[c]?=some τ:=by simpa[BY] using hc
      rcases Nat.lt_or_ge c LF.length with hcl|hcl
      rotate_left
      ·rw[HH (by omega)] at hc
       obtain⟨τ1,g1,rfl,g3⟩:=hLF _ _ hc
       refine⟨_,?_,BS g3⟩
       simp only[BY]
       rw[HH (by omega),show c-LT.length=c-LF.length by omega];exact g1
      rw[HK hcl] at hc
      refine⟨Tv ad τ,?_,BS (O0 hop τ (H4 hc))⟩
      have:LT[c]?=some (Tv ad τ):=by rw[h3,Ic,hc];rfl
      have hlt:=(H0.1 this).1
      simp only[BY]
      rw[HK hlt];exact this
     ·exact h1.elim
    ·exact h1.elim
   |false=>
    have hne:ops.size- (L.length+1)≠fr:=by rw[hidx];exact fun e=>by rw[e,Nat.beq_refl] at hb;simp at hb
    simp only[hb] at h1
    rw[GI] at h1
    obtain⟨s2,d,σ1,kd,h4,h5⟩:=Lh h1
    cases kd with
    |pure=>
     simp only at h4
     rw[C1,A4] at h4
     obtain⟨LF',LT',lds',ef',s',env',σ',k1,k2,k3,k4,k5⟩:=Db (hput _) hi' hl hs hF hF2 hF3 h4
     refine⟨LF',LT',lds',(false,none)::ef',s',env',σ',by simpa using k1,k2,k3,k4,fun hlo=>?_⟩
     obtain⟨vals,hv⟩:=k5 hlo
     exact⟨_,.quiet hne h2 (fun _ τ _=>BS (h5.2 τ)) hv⟩
    |load q off m=>
     simp only at h4
     rw[C1,A4,A4] at h4
     obtain⟨LF',LT',lds',ef',s',env',σ',k1,k2,k3,k4,k5⟩:=Db (hput _) hi' hl hs hF hF2 hF3 h4
     refine⟨LF',LT',_::lds',(false,none)::ef',s',env',σ',by simpa using k1,k2,k3,k4,fun hlo=>?_⟩
     obtain⟨vals,hv⟩:=k5 (fun x hx=>hlo x (List.mem_cons_of_mem _ hx))
     refine⟨_,.quiet hne h2 (fun b τ hτ=>BS (h5.2.2 τ ?_)) hv⟩
     refine hlo _ (List.mem_cons_self ..) τ ?_
     cases b
     ·exact Ij.2 (.inl (by simpa[BY] using hτ))
     ·exact Ij.2 (.inr (by simpa[BY] using hτ))
    |eff=>
     cases af with
     |true=>
      simp only at h4
      cases hnd:Pp ops i fr with
      |true=>
       rw[hnd,cond_true] at h4
       have hneed:=hnd
       rw[C1,A4,A4] at h4
       obtain⟨LF',LT',lds',ef',s',env',σ',k1,k2,k3,k4,k5⟩:=Db (j:=j+1) (hput _) hi' (by simp[hl]) (by rw[HH (by omega)];simp[hl]) (fun e=>by simp at e) (fun e=>by omega) (by omega) h4
       have e1:j+(σ1::LT').length=j+1+LT'.length:=by simp;omega
       have hLF0:LF'=[]:=by
        rcases(k4 rfl).1 with h|h
        ·simp only[HC,H3,H7] at h;omega
        ·exact h
       rw[snoc2] at k1 k3
       refine⟨LF',σ1::LT',lds',(true,none)::ef',s',env',σ',by simpa using k1,k2,by rw[e1];exact k3,fun _=>⟨.inr hLF0,fun c τ hc=>by rw[hLF0] at hc;simp at hc⟩,fun hlo=>?_⟩
       obtain⟨vals,hv⟩:=k5 (by rw[snoc2];exact hlo)
       rw[snoc2] at hv
       rw[e1]
       refine⟨_,.eff hne h2 (fun b τ hτ hneedF=>?_) hv⟩
       cases b with
       |false=>have:=hneedF rfl;rw[hidx,hneed] at this;simp at this
       |true=>
        have hτ:(LT++σ1::LT')[j]?=some τ:=by simpa[BY] using hτ
        rw[HK (by omega),hs] at hτ
        simp at hτ;subst hτ
        refine⟨σ1,?_,BS h5⟩
        simp only[BY]
        rw[HH (by omega)];simp[hl]
      |false=>
       rw[hnd,cond_false] at h4
       obtain⟨hlen,h4⟩:=Aj h4
       have hlen:=HM hlen
       have hF1:LF.length=j+1:=by omega
       obtain⟨s3,d2,σ2,kd2,h6,h7⟩:=Lh h4
       cases kd2 with
       |pure=>exact h6.elim
       |load=>exact h6.elim
       |eff=>
        obtain⟨rfl,hpd,h6⟩:=h6
        rw[C1,A4,A4,A4] at h6
        obtain⟨LF',LT',lds',ef',s',env',σ',k1,k2,k3,k4,k5⟩:=Db (af:=true) (j:=j+1) (hput _) hi' (by simp[hl]) (by rw[HH (by omega)];simp[hl]) (fun _=>by simp[hF1]) (fun _=>by rw[HH (by omega)];simp[hF1]) (by simp[hF1]) h6
        have e1:j+(σ1::LT').length=j+1+LT'.length:=by simp;omega
        rw[snoc2] at k3
        rw[snoc2,snoc2] at k1
        refine⟨σ2::LF',σ1::LT',lds',(true,none)::ef',s',env',σ',by simpa using k1,k2,by rw[e1];exact k3,fun _=>⟨.inl hlen,fun c τ hc=>?k4⟩,fun hlo=>?_⟩
        case k4=>
         cases c with
         |zero=>simp at hc;subst hc;exact⟨σ1,rfl,hpd⟩
         |succ c=>exact(k4 rfl).2 c τ (by simpa using hc)
        obtain⟨vals,hv⟩:=k5 (by rw[snoc2,snoc2];exact hlo)
        rw[snoc2,snoc2] at hv
        rw[e1]
        refine⟨_,.eff hne h2 (fun b τ hτ _=>?_) hv⟩
        cases b with
        |false=>
         have hτ:(LF++σ2::LF')[j]?=some τ:=by simpa[BY] using hτ
         rw[HK (by omega),hF2 hF1] at hτ
         simp at hτ;subst hτ
         refine⟨σ2,?_,BS h7⟩
         simp only[BY]
         rw[HH (by omega)];simp[hF1]
        |true=>
         have hτ:(LT++σ1::LT')[j]?=some τ:=by simpa[BY] using hτ
         rw[HK (by omega),hs] at hτ
         simp at hτ;subst hτ
         refine⟨σ1,?_,BS h5⟩
         simp only[BY]
         rw[HH (by omega)];simp[hl]
     |false=>
      simp only at h4
      have hF1:=hF rfl
      obtain⟨s3,d2,σ2,kd2,h6,h7⟩:=Lh h4
      cases kd2 with
      |pure=>exact h6.elim
      |load=>exact h6.elim
      |eff=>
       obtain⟨rfl,h6⟩:=h6
       rw[C1,A4,A4,A4] at h6
       obtain⟨LF',LT',lds',ef',s',env',σ',k1,k2,k3,k4,k5⟩:=Db (af:=false) (j:=j+1) (hput _) hi' (by simp[hl]) (by rw[HH (by omega)];simp[hl]) (fun _=>by simp[hF1]) (fun _=>by rw[HH (by omega)];simp[hF1]) (by simp[hF1]) h6
       have e1:j+(σ2::LT').length=j+1+LT'.length:=by simp;omega
       rw[snoc2] at k3
       rw[snoc2,snoc2] at k1
       refine⟨σ1::LF',σ2::LT',lds',(true,none)::ef',s',env',σ',by simpa using k1,k2,by rw[e1];exact k3,fun e=>by simp at e,fun hlo=>?_⟩
       obtain⟨vals,hv⟩:=k5 (by rw[snoc2,snoc2];exact hlo)
       rw[snoc2,snoc2] at hv
       rw[e1]
       refine⟨_,.eff hne h2 (fun b τ hτ _=>?_) hv⟩
       cases b with
       |false=>
        have hτ:(LF++σ1::LF')[j]?=some τ:=by simpa[BY] using hτ
        rw[HK (by omega),hF2 hF1] at hτ
        simp at hτ;subst hτ
        refine⟨σ1,?_,BS h5⟩
        simp only[BY]
        rw[HH (by omega)];simp[hF1]
       |true=>
        have hτ:(LT++σ2::LT')[j]?=some τ:=by simpa[BY] using hτ
        rw[HK (by omega),hs] at hτ
        simp at hτ;subst hτ
        refine⟨σ2,?_,BS h7⟩
        simp only[BY]
        rw[HH (by omega)];simp[hl]
noncomputable def VM(P:Program)(im:List Nat)(ops:Array Oper)(fr:Nat)(s:Sc)(env:List D)(σ:St)(K:Sc->List D->St->Prop):Prop:=
 cond (Nat.blt fr ops.size) (match (ops[fr]?).map Oper.op with
  |some (.alloc e)=>(match Gm P e with
   |some xs=>AH (xs.map .v) fun cs=>A5 σ.H (some cs) fun H=>QE P im ops fr σ (fun LF LT lds ef s env=>cond (Gf ops ef) (match LT.getLast? with
    |some τ=>Aaa (LF++LT) lds/\K s env τ
    |none=>False) False) ops.toList 0 false (fun _ _=>False) [σ] [⟨H,σ.own⟩] [] [] s env σ ⟨H,σ.own⟩
   |none=>False)
  |_=>(match s with
   |.h (.cs ad) s=>AH (σ.H++ad.H) fun H=>AH (ad.own++σ.own) fun own=>QE P im ops fr ad (fun LF LT lds ef s env=>cond (Gf ops ef) (match LT.getLast? with
    |some τ=>Aaa (LF++LT) lds/\K s env τ
    |none=>False) False) ops.toList 0 false (fun _ _=>False) [σ] [⟨H,own⟩] [] [] s env σ ⟨H,own⟩
   |_=>False)) False
theorem QD{C:Ent->Ent->Prop}{P:Program}{R:List D->St->Prop}{k:List KI}(hm:P.follows .mixedOrders=true){im:List Nat}{id:Nat}{ops:Array Oper}{fr:Nat}{s:Sc}{env:List D}{σ:St}{n:Nat}{K:Sc->List D->St->Prop}(hn:env.length=n)
  (hK:∀s env σ,env.length=n->K s env σ->A9 C P R k env σ) (h:VM P im ops fr s env σ K):A9 C P R (.code (.region id ops true)::k) env σ:=by
 obtain⟨h1,h2⟩:=Aj h
 have hfr:fr<ops.size:=HR h1
 split at h2
 ·split at h2
  ·rename_i xs hz
   rw[AE,A4] at h2
   obtain⟨LF',LT',lds',ef',s',env',σ',k1,k2,k3,k4,k5⟩:=Db (j:=0) hn (by simp) (by simp) (by simp) (fun _=>by simp) (fun _=>by simp) (by simp) h2
   obtain⟨h3,h5⟩:=Aj k1
   simp only[nil_append] at h3 h5
   simp only[Ih] at k3
   split at h5
   ·rename_i τ hτ
    obtain⟨h4,h5⟩:=h5
    obtain⟨vals,hv⟩:=k5 (MW h4)
    simp only[Ih] at hv
    have:τ=σ':=by
     rw[List.getLast?_eq_getElem?] at hτ
     rw[show([(⟨σ.H++[some (xs.map .v)],σ.own⟩:St)]++LT').length-1=LT'.length by simp] at hτ
     rw[k3] at hτ;simpa using hτ.symm
    subst this
    refine K1 hm (BY ([σ]++LF') ([⟨σ.H++[some (xs.map .v)],σ.own⟩]++LT')) fr (by simp[BY]) (by rw[Hz hfr];simpa[BY] using k3) hv ?_ (hK _ _ _ k2 h5)
    simpa using h3
   ·exact h5.elim
  ·exact h2.elim
 ·split at h2
  ·rename_i ad s2
   rw[AE,AE] at h2
   obtain⟨LF',LT',lds',ef',s',env',σ',k1,k2,k3,k4,k5⟩:=Db (j:=0) hn (by simp) (by simp) (by simp) (fun _=>by simp) (fun _=>by simp) (by simp) h2
   obtain⟨h3,h5⟩:=Aj k1
   simp only[nil_append] at h3 h5
   simp only[Ih] at k3
   split at h5
   ·rename_i τ hτ
    obtain⟨h4,h5⟩:=h5
    obtain⟨vals,hv⟩:=k5 (MW h4)
    simp only[Ih] at hv
    have:τ=σ':=by
     rw[List.getLast?_eq_getElem?] at hτ
     rw[show([(⟨σ.H++ad.H,ad.own++σ.own⟩:St)]++LT').length-1=LT'.length by simp] at hτ
     rw[k3] at hτ;simpa using hτ.symm
    subst this
    refine K1 hm (BY ([σ]++LF') ([⟨σ.H++ad.H,ad.own++σ.own⟩]++LT')) fr (by simp[BY]) (by rw[Hz hfr];simpa[BY] using k3) hv ?_ (hK _ _ _ k2 h5)
    simpa using h3
   ·exact h5.elim
  ·exact h2.elim
noncomputable def Nu(P:Program)(im:List Nat)(ops:Array Oper)(s:Sc)(env:List D)(σ:St)(K:Sc->List D->St->Prop):Prop:=match s with
 |.h (.dr fr) s=>VM P im ops fr s env σ K
 |s=>Y9 P im ops s env σ K
theorem QC{C:Ent->Ent->Prop}{P:Program}{R:List D->St->Prop}{k:List KI}(hm:P.follows .mixedOrders=true){im:List Nat}{id:Nat}{ops:Array Oper}{s:Sc}{env:List D}{σ:St}{n:Nat}{K:Sc->List D->St->Prop}(hn:env.length=n)
  (hK:∀s env σ,env.length=n->K s env σ->A9 C P R k env σ) (h:Nu P im ops s env σ K):A9 C P R (.code (.region id ops true)::k) env σ:=by
 unfold Nu at h
 split at h
 ·exact QD hm hn hK h
 ·exact TG hm hn hK h
noncomputable def Yj(ts:List Nat)(own:List (Nat×Nat×List V)):List (Nat×Nat×List V):=own.filter fun x=>ts.contains x.1
structure It(p:Prop):Prop where
 it:p
def SA{α:Type}(a b:List α)(K:Prop):Prop:=match a with
 |[]=>K
 |x::a=>b=x::a/\K
theorem GL{α:Type}{a b:List α}{K:Prop}(h:SA a b K)(h0:a=[]->b=[]):b=a/\K:=by
 cases a with
 |nil=>exact⟨h0 rfl,h⟩
 |cons x a=>exact h
def Aaq(op:Bool)(b:Bool)(K:Prop):Prop:=match op with
 |true=>b=true/\K
 |false=>cond b K False
theorem RY{op b:Bool}{K:Prop}(h:Aaq op b K):b=true/\K:=by
 cases op
 ·exact Aj h
 ·exact h
noncomputable def Q8(C:Ent->Ent->Prop)(m:Nat)(P:Program)(R:List D->St->Prop)(nt:Nat)(k:List KI)(sl:List (Nat×Option D))(σ':Option St)(op:Bool)(env:List D)(σ:St):Prop:=
 O6 env sl fun L=>match σ' with
  |none=>It (A9 C P R k (mkE nt L) σ)
  |some σ'=>cond (Nat.ble m σ'.H.length&&Nat.ble σ'.H.length σ.H.length&&D.okNs σ'.H.length (σ'.own.map (·.1)) (L.map (·.2))) (Aaq op (okH σ'.H.length (σ'.own.map (·.1)) (σ.H.take σ'.H.length))
    (SA σ'.H (σ.H.take σ'.H.length) (SA σ'.own (Yj (σ'.own.map (·.1)) σ.own) (It (A9 C P R k (mkE nt L) σ'))))) False
theorem NW{h:Nat}{ts:List Nat}:∀{L:List (Nat×D)} {e:List D},D.okNs h ts (L.map (·.2))=true->D.okNs h ts e=true->D.okNs h ts (L.foldl (fun e p=>e.set p.1 p.2) e)=true
 |[],e,_,he=>he
 |p::L,e,hL,he=>by
  simp only[HO,D.okNs,Hy] at hL
  refine NW (L:=L) hL.2 ?_
  have:∀(e:List D) (i:Nat),D.okNs h ts e=true->D.okNs h ts (e.set i p.2)=true:=by
   intro e
   induction e with
   |nil=>intro i h;simpa using h
   |cons a e ih=>
    intro i h
    simp only[D.okNs,Hy] at h
    cases i with
    |zero=>simp only[List.set_cons_zero,D.okNs,Hy];exact⟨hL.1,h.2⟩
    |succ i=>simp only[List.set_cons_succ,D.okNs,Hy];exact⟨h.1,ih i h.2⟩
  exact this e p.1 he
theorem JO{h:Nat}{ts:List Nat}:∀n:Nat,D.okNs h ts (replicate n .undef)=true
 |0=>rfl
 |n+1=>by simp only[Iq,D.okNs,D.okN,HV];exact JO n
section
variable {P : Program} {R : List D -> St -> Prop} {k : List KI}
theorem Gs{C:Ent->Ent->Prop}{m:Nat}(hCm:∀E0 E,C E0 E->E.g.n<=m){nt:Nat}{sl:List (Nat×Option D)}{σ':Option St}{op:Bool}{env:List D}{σ:St}(hn:env.length=nt)(h:Q8 C m P R nt k sl σ' op env σ):A9 C P R k env σ:=by
 obtain⟨L,h1,h2⟩:=Gq h
 obtain⟨hl,hg⟩:=JR hn h2
 cases σ' with
 |none=>exact JE hl hg h1.it
 |some σ'=>
  obtain⟨h3,h1⟩:=Aj h1
  obtain⟨h8,h1⟩:=RY h1
  have h7:σ.H.take σ'.H.length=σ'.H/\Yj (σ'.own.map (·.1)) σ.own=σ'.own/\It (A9 C P R k (mkE nt L) σ'):=by
   obtain⟨e1,h1⟩:=GL h1 (fun e=>by rw[e];rfl)
   obtain⟨e2,h1⟩:=GL h1 (fun e=>by rw[e];unfold Yj;rw[List.filter_eq_nil_iff];simp)
   exact⟨e1,e2,h1⟩
  obtain⟨h4,h5,h6⟩:=h7
  simp only[Hy] at h3
  refine JE hl hg (YI hCm (h:=σ'.H.length) h4.symm (HR h3.1.2) (HR h3.1.1) (NW h3.2 (JO nt)) (by have:=h8;rwa[h4] at this) ?_ h6.it)
  rw[←h5];exact List.filter_sublist
noncomputable def WQ(x:Operand)(s:Sc)(env:List D)(K:Bool->Sc->List D->Prop):Prop:=match x with
 |.tmp t=>Dz env t fun d=>match d with
  |.v (.bool b)=>TJ s b (some t) env K
  |_=>False
 |.const (.bool b)=>K b s env
 |_=>False
theorem TH{x:Operand}{s:Sc}{env:List D}{K:Bool->Sc->List D->Prop}(h:WQ x s env K):∃b s',K b s' env/\evD env x=.v (.bool b):=by
 unfold WQ at h
 split at h
 ·rename_i t
  rw[Cr] at h
  split at h
  ·rename_i b hd
   obtain⟨s',h1⟩:=N2 h (fun t' e=>by simp at e;subst e;exact getD_some hd (by simp))
   exact⟨b,s',h1,hd⟩
  ·exact h.elim
 ·exact⟨_,_,h,rfl⟩
 ·exact h.elim
noncomputable def TB(C:Ent->Ent->Prop)(m:Nat)(P:Program)(R:List D->St->Prop)(rk:Nat->List D->St->Prop)(nt:Nat)(im:List Nat)(T:List KI)(ih:Sc->List KI->List D->St->Prop)(ks:List KI)(s:Sc)(env:List D)(σ:St):Prop:=match ks with
  |[]=>(match s with
   |.h (.l sl σ') _=>Q8 C m P R nt T sl σ' false env σ
   |.h (.lo sl σ') _=>Q8 C m P R nt T sl (some σ') true env σ
   |.h .r _=>T=[]/\rk 0 env σ
   |.h .rn _=>T=[]/\rk 1 env σ
   |.h .ro _=>T=[]/\rk 2 env σ
   |.h .rd _=>T=[]/\rk 3 env σ
   |_=>False)
  |.blk _::ks=>ih s ks env σ
  |.lp c::ks=>(match s with
   |.h (.l sl σ') _=>Q8 C m P R nt (.lp c::(ks++T)) sl σ' false env σ
   |.h (.lo sl σ') _=>Q8 C m P R nt (.lp c::(ks++T)) sl (some σ') true env σ
   |.h .n s=>ih s (.code c:: .lp c::ks) env σ
   |_=>False)
  |.code c::ks=>(match c with
   |.seq x y=>ih s (.code x:: .code y::ks) env σ
   |.skip=>ih s ks env σ
   |.label _=>ih s ks env σ
   |.block id x=>ih s (.code x:: .blk id::ks) env σ
   |.loop x=>ih s (.lp x::ks) env σ
   |.exit id=>(match EO id ks with
    |some ks'=>ih s ks' env σ
    |none=>False)
   |.ret=>(match s with
    |.h .r _=>rk 0 env σ
    |.h .rn _=>rk 1 env σ
    |.h .ro _=>rk 2 env σ
    |.h .rd _=>rk 3 env σ
    |_=>False)
   |.cond t x y=>WQ t s env fun b s env=>Bool.rec (ih s (.code y::ks) env σ) (ih s (.code x::ks) env σ) b
   |.region r ops d=>Bool.rec (PN P im r ops (fun L sl σ=>It (AK C P R (ks++T) ops L (mkE nt sl) σ)) ops.toList 0 s env σ fun s env σ=>ih s ks env σ) (Nu P im ops s env σ fun s env σ=>ih s ks env σ) d
   |_=>False)
noncomputable def vc(C:Ent->Ent->Prop)(m:Nat)(P:Program)(R:List D->St->Prop)(rk:Nat->List D->St->Prop)(nt:Nat)(im:List Nat)(T:List KI)(fuel:Nat)(s:Sc)(ks:List KI)(env:List D)(σ:St):Prop:=
 Nat.rec (motive:=fun _=>Sc->List KI->List D->St->Prop) (fun _ _ _ _=>False) (fun _ ih s ks env σ=>pre 1000000 0 s env σ (TB C m P R rk nt im T ih ks)) fuel s ks env σ
theorem G3{T:List KI}{id:Nat}:∀{ks ks':List KI},EO id ks=some ks'->EO id (ks++T)=some (ks'++T)
 |[],ks',h=>by simp[EO] at h
 |.code c::ks,ks',h=>by simp only[EO] at h;simp only[IW,EO];exact G3 h
 |.lp c::ks,ks',h=>by simp only[EO] at h;simp only[IW,EO];exact G3 h
 |.blk i::ks,ks',h=>by
  simp only[EO] at h
  simp only[IW,EO]
  by_cases e:i=id
  ·rw[HJ e] at h⊢;simp at h;subst h;rfl
  ·rw[HF e] at h⊢;exact G3 h
theorem TA{C:Ent->Ent->Prop}(L:FS C){m:Nat}(hCm:∀E0 E,C E0 E->E.g.n<=m)(hm:P.follows .mixedOrders=true){rk:Nat->List D->St->Prop}{nt:Nat}{im:List Nat}{T:List KI}(hR:∀b env σ,env.length=nt->rk b env σ->R env σ){ih:Sc->List KI->List D->St->Prop}
  (IH:∀{s:Sc} {ks:List KI} {env:List D} {σ:St},env.length=nt->ih s ks env σ->A9 C P R (ks++T) env σ) {ks:List KI} {s:Sc} {env:List D} {σ:St} (hn:env.length=nt) (h:TB C m P R rk nt im T ih ks s env σ):A9 C P R (ks++T) env σ:=by
 unfold TB at h
 split at h
 ·split at h
  ·exact Gs hCm hn h
  ·exact Gs hCm hn h
  ·obtain⟨rfl,h⟩:=h;exact Gw L (hR _ _ _ hn h)
  ·obtain⟨rfl,h⟩:=h;exact Gw L (hR _ _ _ hn h)
  ·obtain⟨rfl,h⟩:=h;exact Gw L (hR _ _ _ hn h)
  ·obtain⟨rfl,h⟩:=h;exact Gw L (hR _ _ _ hn h)
  ·exact h.elim
 ·exact Xe (IH hn h)
 ·split at h
  ·exact Gs hCm hn h
  ·exact Gs hCm hn h
  ·exact YK (IH hn h)
  ·exact h.elim
 ·split at h
  ·exact Xc (IH hn h)
  ·exact Ug (IH hn h)
  ·exact QV (IH hn h)
  ·exact QW (IH hn h)
  ·exact run_loop (IH hn h)
  ·split at h
   ·rename_i ks' hp;exact Uh (G3 hp) (IH hn h)
   ·exact h.elim
  ·split at h
   ·exact Gv L (hR _ _ _ hn h)
   ·exact Gv L (hR _ _ _ hn h)
   ·exact Gv L (hR _ _ _ hn h)
   ·exact Gv L (hR _ _ _ hn h)
   ·exact h.elim
  ·obtain⟨b,s',h1,h2⟩:=TH h
   refine Ui h2 (fun hb=>?_) (fun hb=>?_)
   ·subst hb;exact IH hn h1
   ·subst hb;exact IH hn h1
  ·rename_i r ops d
   cases d with
   |false=>
    intro E0 E g a w B hC hf hB
    show KQ P B (.code (.region r ops false)::(_++T)) .normal a w
    simp only[KQ]
    exact wp_region_list (Kv (n:=nt) (Z:=fun L sl σ=>It (AK C P R (_++T) ops L (mkE nt sl) σ)) (fun _ _ _ h=>h.it) (fun s env σ hl hk=>IH hl hk) hn (show PN P im r ops _ ops.toList 0 s env σ fun s env σ=>ih s _ env σ from h) E0 E g a w B hC hf hB)
   |true=>exact QC hm hn (fun s env σ hl hk=>IH hl hk) (show Nu P im ops s env σ fun s env σ=>ih s _ env σ from h)
  ·exact h.elim
theorem Qw{C:Ent->Ent->Prop}(L:FS C){m:Nat}(hCm:∀E0 E,C E0 E->E.g.n<=m)(hm:P.follows .mixedOrders=true){rk:Nat->List D->St->Prop}{nt:Nat}{im:List Nat}{T:List KI}(hR:∀b env σ,env.length=nt->rk b env σ->R env σ):
  ∀{fuel:Nat} {s:Sc} {ks:List KI} {env:List D} {σ:St},env.length=nt->vc C m P R rk nt im T fuel s ks env σ->A9 C P R (ks++T) env σ
 |0,s,ks,env,σ,_,h=>(h:False).elim
 |fuel+1,s,ks,env,σ,hn,h=>by
  have h':pre 1000000 0 s env σ (TB C m P R rk nt im T (vc C m P R rk nt im T fuel) ks):=h
  obtain⟨s1,env1,σ1,h1,h2,h3⟩:=LB h'
  exact YL h2 (TA L hCm hm hR (Qw L hCm hm hR) (h3.trans hn) h1)
noncomputable def VL(P:Program)(env:List D)(σ:St)(dg:Bool)(rs:List ResultVar)(K:List D->Prop):Prop:=
 List.rec (motive:=fun _=>(List D->Prop)->Prop) (fun K=>K []) (fun r _ ih K=>match r with
  |.tmp t=>cond (Nat.blt t env.length) (Dz env t fun d=>ih fun ds=>K (d::ds)) False
  |.cell a t=>Dz env a fun d=>match d with
   |.ptr q off=>(match σ.H[q]?,Cz P t with
    |some (some cs),some (1,false)=>(match cs[off]? with
     |some d=>ih fun ds=>K (d::ds)
     |none=>False)
    |some (some cs),some (n,true)=>cond (Nat.ble (off+n) cs.length) (Bool.rec (match Cy ((cs.drop off).take n) with
     |some xs=>ih fun ds=>K (.v (.agg xs)::ds)
     |none=>False) (AH ((cs.drop off).take n) fun es=>ih fun ds=>K (.dagg es::ds)) dg) False
    |_,_=>False)
   |_=>False) rs K
theorem Gp{env:List D}{σ:St}{dg:Bool}:∀{rs:List ResultVar} {K:List D->Prop},VL P env σ dg rs K->∃ds,K ds/\FO P env σ rs ds
 |[],K,h=>⟨[],h,.nil⟩
 |.tmp t::rs,K,h=>by
  have h':cond (Nat.blt t env.length) (Dz env t fun d=>VL P env σ dg rs fun ds=>K (d::ds)) False:=h
  obtain⟨h1,h2⟩:=Aj h'
  rw[Cr] at h2
  obtain⟨ds,h3,h4⟩:=Gp h2
  refine⟨_,h3,.tmp ?_ h4⟩
  have:t<env.length:=HR h1
  rw[H6,Hx this];rfl
 |.cell a t::rs,K,h=>by
  have h':Dz env a fun d=>match (generalizing:=false) d with
   |.ptr q off=>(match σ.H[q]?,Cz P t with
    |some (some cs),some (1,false)=>(match cs[off]? with
     |some d=>VL P env σ dg rs fun ds=>K (d::ds)
     |none=>False)
    |some (some cs),some (n,true)=>cond (Nat.ble (off+n) cs.length) (Bool.rec (match Cy ((cs.drop off).take n) with
     |some xs=>VL P env σ dg rs fun ds=>K (.v (.agg xs)::ds)
     |none=>False) (AH ((cs.drop off).take n) fun es=>VL P env σ dg rs fun ds=>K (.dagg es::ds)) dg) False
    |_,_=>False)
   |_=>False:=h
  rw[Cr] at h'
  split at h'
  ·rename_i q off hd
   have ha:=getD_some hd (by simp)
   split at h'
   ·rename_i cs hq hz
    split at h'
    ·rename_i d hc
     obtain⟨ds,h3,h4⟩:=Gp h'
     exact⟨_,h3,.cell1 ha hq hz hc h4⟩
    ·exact h'.elim
   ·rename_i cs n hq hz
    obtain⟨h1,h2⟩:=Aj h'
    cases dg with
    |false=>
     have h2:(match Cy ((cs.drop off).take n) with
      |some xs=>VL P env σ false rs fun ds=>K (.v (.agg xs)::ds)
      |none=>False):=h2
     split at h2
     ·rename_i xs hx
      obtain⟨ds,h3,h4⟩:=Gp h2
      exact⟨_,h3,.cellA ha hq hz (HR h1) (Ep hx) h4⟩
     ·exact h2.elim
    |true=>
     have h2:AH ((cs.drop off).take n) fun es=>VL P env σ true rs fun ds=>K (.dagg es::ds):=h2
     rw[AE] at h2
     obtain⟨ds,h3,h4⟩:=Gp h2
     exact⟨_,h3,.cellD ha hq hz (HR h1) h4⟩
   ·exact h'.elim
  ·exact h'.elim
def nlV:V->V
 |.nils=>.list []
 |x=>x
theorem Rm{M:Mem}:∀{xs:List V} {us:List Value},repA M xs us->repA M (xs.map nlV) us
 |[],us,h=>h
 |x::xs,us,h=>by
  simp only[repA] at h
  obtain⟨u,us',rfl,ha,h1,h2⟩:=h
  simp only[HO,repA]
  refine⟨u,us',rfl,?_,?_,Rm h2⟩
  ·cases x<;>first|exact ha|rfl
  ·cases x with
   |nils=>
    have h3:repV M .nils u:=(AT (by rfl)).2 h1
    have h4:Ac (⟨M,fun _=>0,0,fun _ _=>none,fun _=>0⟩:Gh) (.v (.list [])) u:=Es (by simpa only[Ac] using h3)
    show repC M (.list []) [u]
    exact(AT (by rfl)).1 (by simpa only[Ac] using h4)
   |_=>exact h1
noncomputable def wkD(ts:List Nat)(kn:Bool):D->D
 |.acc k xs=>Bool.rec (.v (.list xs)) (.acc k xs) (ts.any (Nat.beq k))
 |.v .nils=>Bool.rec (.v (.list [])) (.v .nils) kn
 |.v (.agg xs)=>Bool.rec (.v (.agg (xs.map nlV))) (.v (.agg xs)) kn
 |d=>d
theorem WF{ts:List Nat}{kn:Bool}{g:Gh}{d:D}{u:Value}(h:Ac g d u):Ac g (wkD ts kn d) u:=by
 unfold wkD
 split
 ·cases ts.any _
  ·exact K3 h
  ·exact h
 ·cases kn
  ·exact Es h
  ·exact h
 ·cases kn
  ·simp only[Ac,BR] at h⊢
   obtain⟨ws,h1,h2⟩:=h
   exact⟨ws,Rm h1,h2⟩
  ·exact h
 ·exact h
theorem D6{ts:List Nat}{kn:Bool}{g:Gh}:∀{ds:List D} {us:List Value},Ab g ds us->Ab g (ds.map (wkD ts kn)) us
 |[],us,h=>by simpa using h
 |d::ds,us,h=>by
  simp only[Ab,HO] at h⊢
  obtain⟨u,us',e,h1,h2⟩:=h
  exact⟨u,us',e,WF h1,D6 h2⟩
noncomputable def Xs:List D->(D->Prop)->Prop
 |[d],K=>K d
 |ds,K=>AH ds fun ds=>K (.tup ds)
theorem Uz(ds:List D)(K:D->Prop):Xs ds K=K (U0 ds):=by
 match ds with
 |[]=>rfl
 |[d]=>rfl
 |a::b::ds=>simp only[Xs,U0,AE]
noncomputable def Q4(P:Program)(rs:List ResultVar)(d:D)(σ':St)(md:Nat)(env:List D)(σ:St):Prop:=
 VL P env σ (Nat.beq md 3) rs fun ds=>AH (ds.map (wkD (σ'.own.map (·.1)) (Nat.beq md 1))) fun ds=>Xs ds fun d'=>
  cond (D.okN σ'.H.length (σ'.own.map (·.1)) d&&Nat.ble σ'.H.length σ.H.length) (Aaq (Nat.beq md 2) (okH σ'.H.length (σ'.own.map (·.1)) (σ.H.take σ'.H.length))
   (SA σ'.H (σ.H.take σ'.H.length) (SA σ'.own (Yj (σ'.own.map (·.1)) σ.own) (d'=d)))) False
theorem Ku{fn:Func}{d:D}{σ':St}{md:Nat}{env:List D}{σ:St}(h:Q4 P fn.results.toList d σ' md env σ):A2 P fn env σ d σ':=by
 obtain⟨ds,h1,hr⟩:=Gp h
 rw[AE,Uz] at h1
 obtain⟨h2,h3⟩:=Aj h1
 obtain⟨h8,h3⟩:=RY h3
 simp only[Hy] at h2
 generalize Nat.beq md 1=kn at h3
 have h4:U0 (ds.map (wkD (σ'.own.map (·.1)) kn))=d/\σ.H.take σ'.H.length=σ'.H/\Yj (σ'.own.map (·.1)) σ.own=σ'.own:=by
  obtain⟨e1,h3⟩:=GL h3 (fun e=>by rw[e];rfl)
  obtain⟨e2,h3⟩:=GL h3 (fun e=>by rw[e];unfold Yj;rw[List.filter_eq_nil_iff];simp)
  exact⟨h3,e1,e2⟩
 obtain⟨rfl,hH,hown⟩:=h4
 intro E g a w hf hE
 obtain⟨us,h5,h6⟩:=hr.run hf
 have hrun:(results fn a.tmps).run P w=.ok (if h:us.length=1 then us[0] else .tuple us.toArray) w:=by
  rw[OO,Array.mapM_eq_mapM_toList]
  simp only[Sem.run_bind,Sem.run_map,h5,Result.andThen_ok]
  by_cases h:us.length=1<;>simp[h]
 have hsub:σ'.own.Sublist σ.own:=by rw[←hown];exact List.filter_sublist
 refine⟨_,_,hrun,Y4 hf.wi hH.symm (HR h2.2) hE (by have:=h8;rwa[hH] at this) hsub,?_⟩
 refine Rj _ _ h2.1 ?_
 have h7:=D6 (ts:=σ'.own.map (·.1)) (kn:=kn) h6
 generalize ds.map (wkD (σ'.own.map (·.1)) kn)=ds' at h7
 have hl:=A7 h7
 unfold U0
 split
 ·rename_i d0
  obtain⟨u,rfl,h3⟩:=Av.1 h7
  simpa using h3
 ·rename_i hne
  have:us.length≠1:=by
   rw[hl]
   intro h
   match ds',h with
   |[d0],_=>exact hne d0 rfl
  rw[dif_neg this]
  simp only[Ac]
  exact⟨us,rfl,h7⟩
theorem Ls{f:FuncId}{fn:Func}{c:Code}{ds:List D}{σ σ':St}{d:D}(hf:P.funcs[f]?=some fn)(hb:fn.body=some c)(hn:(fn.name=="runtime.NumGoroutine")=false)
  (hH:σ.H.length<=σ'.H.length) (h:A9 (CN σ.H.length) P (fun env σ1=>A2 P fn env σ1 d σ') [.code c] (ds++replicate (fn.ntmps-ds.length) .undef) σ):Aa P f ds σ d σ':=by
 refine⟨⟨fn,hf,hn,by simp[hb]⟩,fun g w args hw hargs=>?_⟩
 refine calls_of_wp hf hb ?_
 have hfi:FI ⟨g,w,σ⟩ g σ (ds++replicate (fn.ntmps-ds.length) .undef) { tmps:=args.toArray++Array.replicate (fn.ntmps-args.toArray.size) undef,defers:=[]} w:=by
  refine⟨WI.start hw,?_,rfl⟩
  have hl:=A7 hargs
  simp only[Array.toList_append,Array.toList_replicate,IB,hl]
  refine Aw hargs ?_
  generalize fn.ntmps-ds.length=m
  induction m with
  |zero=>simp[Ab]
  |succ m ih=>simp only[Iq,Ab];exact⟨_,_,rfl,by simp[Ac],ih⟩
 have:=h ⟨g,w,σ⟩ ⟨g,w,σ⟩ g _ w (bodyPost P fn fun e w'=>∃u g',e=.returned u/\WI ⟨g,w,σ⟩ g' σ' w'/\Ac g' d u) ⟨rfl,Nat.le_of_eq hw.n⟩ hfi ?_
 ·simp only[KQ] at this
  exact this
 ·intro g' env' σ1 a' w' hfi' hR
  obtain⟨u,g2,h1,h2,h3⟩:=hR _ _ _ _ hfi' (by rw[hw.n];exact hH)
  have:a'.defers=[]/\∃v,(results fn a'.tmps).run P w'=.ok v w'/\∃u g',Ending.returned v=.returned u/\WI ⟨g,w,σ⟩ g' σ' w'/\Ac g' d u:=
   ⟨hfi'.defers,u,h1,u,g2,rfl,h2,h3⟩
  exact⟨this,this⟩
abbrev Rn(P:Program)(fn:Func)(C:Nat)(d:D)(σ':St)(k:List KI)(env:List D)(σ:St):Prop:=A9 (CN C) P (fun env σ1=>A2 P fn env σ1 d σ') k env σ
theorem Xa(hm:P.follows .mixedOrders=true){f:FuncId}{ds:List D}{σ σ':St}{d:D}(fn:Func)(c:Code)(hf:P.funcs[f]?=some fn)(hb:fn.body=some c)(hn:(fn.name=="runtime.NumGoroutine")=false)(hH:Nat.ble σ.H.length σ'.H.length=true)(nt:Nat)(hnt:(ds++replicate (fn.ntmps-ds.length) D.undef).length=nt)
  (im:List Nat) (s:Sc)
  (h:AH (ds++replicate (fn.ntmps-ds.length) D.undef) fun env=>vc (CN σ.H.length) σ.H.length P (fun env σ1=>A2 P fn env σ1 d σ') (Q4 P fn.results.toList d σ') nt im [] 10000 s [.code c] env σ):Aa P f ds σ d σ':=by
 rw[AE] at h
 refine Ls hf hb hn (HR hH) ?_
 exact Qw (ks:=[.code c]) (T:=[]) (MV _) (fun _ _ h=>h.2) hm (fun b env σ _ h=>Ku h) hnt h
theorem XA(hm:P.follows .mixedOrders=true){C:Nat}{fn:Func}{d:D}{σ':St}(nt:Nat)(im:List Nat){ks T:List KI}{L:List (Nat×D)}{σ:St}(s:Sc)
  (h:AH (mkE nt L) fun env=>vc (CN C) C P (fun env σ1=>A2 P fn env σ1 d σ') (Q4 P fn.results.toList d σ') nt im T 10000 (.h .n s) ks env σ):Rn P fn C d σ' (ks++T) (mkE nt L) σ:=by
 rw[AE] at h
 exact Qw (MV _) (fun _ _ h=>h.2) hm (fun b env σ _ h=>Ku h) (by simp[mkE,DG]) h
theorem VU(hm:P.follows .mixedOrders=true){C:Ent->Ent->Prop}(L:FS C)(m:Nat)(hCm:∀E0 E,C E0 E->E.g.n<=m){fn:Func}{d:D}{σ':St}(nt:Nat)(im:List Nat){ks T:List KI}{E:List (Nat×D)}{σ:St}(s:Sc)
  (h:AH (mkE nt E) fun env=>vc C m P (fun env σ1=>A2 P fn env σ1 d σ') (Q4 P fn.results.toList d σ') nt im T 10000 s ks env σ):A9 C P (fun env σ1=>A2 P fn env σ1 d σ') (ks++T) (mkE nt E) σ:=by
 rw[AE] at h
 exact Qw L hCm hm (fun b env σ _ h=>Ku h) (by simp[mkE,DG]) h
theorem F7(hm:P.follows .mixedOrders=true){C:Ent->Ent->Prop}(Lk:FS C)(m:Nat)(hCm:∀E0 E,C E0 E->E.g.n<=m){fn:Func}{d:D}{σ':St}(nt:Nat)(im:List Nat)(r i:Nat){ops:Array Oper}{L:List Oper}{ks T:List KI}{E:List (Nat×D)}{σ:St}(s:Sc)
  (h:AH (mkE nt E) fun env=>PN P im r ops (fun L sl σ=>It (AK C P (fun env σ1=>A2 P fn env σ1 d σ') (ks++T) ops L (mkE nt sl) σ)) L i s env σ fun s env σ=>vc C m P (fun env σ1=>A2 P fn env σ1 d σ') (Q4 P fn.results.toList d σ') nt im T 10000 s ks env σ):AK C P (fun env σ1=>A2 P fn env σ1 d σ') (ks++T) ops L (mkE nt E) σ:=by
 rw[AE] at h
 exact Kv (n:=nt) (fun _ _ _ h=>h.it) (fun s env σ hl hk=>Qw Lk hCm hm (fun b env σ _ h=>Ku h) hl hk) (by simp[mkE,DG]) h
theorem via{a b:Prop}(h:a=b)(ha:a):b:=h▸ha
end
end Go.Nv

namespace Go.Proofs.YtpmahmngmgnnbaaGreatDoor
open Go.Dv Go.Nv
set_option maxRecDepth 20000
open List (flatten length map replicate take)
open Go.IntKind (wrap)
abbrev Q{α:Type}(a:α):Prop:=a=a
abbrev F0(f:FuncId)(ds:List D)(d:D):Prop:=Aa PP f ds ⟨[],[]⟩ d ⟨[],[]⟩
abbrev I0(fn:Func)(C:Nat)(d:D)(s:St)(k:List KI)(e:List D)(t:St):Prop:=It (Rn PP fn C d s k e t)
abbrev kl(c:Code)(p:List Nat):KI:=.lp (sub c p)
abbrev kc(c:Code)(p:List Nat):KI:=.code (sub c p)
abbrev dn:D:=.v .nils
abbrev zRl:List D:=[D.v (V.str (ByteArray.mk #[]).data.toList),di 0,di 0,D.v V.nils,D.v V.nils,D.v V.nils,di 0,di 0,di 0,D.v V.nils,D.v V.nils,D.v V.nils,D.v V.nils,di 0]
abbrev zMl:List D:=[di 0,D.v V.nils,D.v V.nils,D.v V.nils,D.v V.nils,di 0,di 0,D.v V.nils,di 0,D.v V.nils]
theorem sv{f:FuncId}{ds:List D}{σ σ':St}{d:D}(fn:Func)(nt:Nat)(im:List Nat)(s:Sc)(a:Prop)(ha:a)(hf:PP.funcs[f]?=some fn:=by kernel_rfl)(hb:fn.body=some (fn.body.getD .skip):=by kernel_rfl)(hn:(fn.name=="runtime.NumGoroutine")=false:=by kernel_rfl)(hH:Nat.ble σ.H.length σ'.H.length=true:=by kernel_rfl)(hnt:(ds++replicate (fn.ntmps-ds.length) D.undef).length=nt:=by kernel_rfl)
  (h:a=AH (ds++replicate (fn.ntmps-ds.length) D.undef) fun env=>vc (CN σ.H.length) σ.H.length PP (fun env σ1=>A2 PP fn env σ1 d σ') (Q4 PP fn.results.toList d σ') nt im [] 10000 s [.code (fn.body.getD .skip)] env σ:=by kernel_rfl):Aa PP f ds σ d σ':=Xa mixed fn _ hf hb hn hH nt hnt im s (via h ha)
theorem lv{C:Nat}{fn:Func}{d:D}{σ':St}{ks T:List KI}{L:List (Nat×D)}{σ:St}(nt:Nat)(im:List Nat)(s:Sc)(a:Prop)(ha:a)
  (h:a=AH (mkE nt L) fun env=>vc (CN C) C PP (fun env σ1=>A2 PP fn env σ1 d σ') (Q4 PP fn.results.toList d σ') nt im T 10000 (.h .n s) ks env σ:=by kernel_rfl):Rn PP fn C d σ' (ks++T) (mkE nt L) σ:=XA mixed nt im s (via h ha)
abbrev σ0:St:=⟨[],[]⟩
abbrev dfn(f:FuncId):D:=.v (.fn f [] [])
abbrev dl(l:List V):D:=.v (.list l)
abbrev ke(t:Nat):Nat×Option D:=(t,none)
abbrev ch(t:Nat)(d:D):Nat×Option D:=(t,some d)
theorem AW{α:Type}{f:α->V}{a:List α}{i:Nat}{x:α}(h:a[i]?=some x):(a.map f)[((i:Nat):Int).toNat]?=some (f x):=by simp[h]
theorem Ai{n:Int}(h0: -9223372036854775808<=n)(h1:n<=9223372036854775807):IntKind.i64.wrap n=n:=by rw[IntKind.wrap_i64];omega
theorem Ae{i:Nat}(h:i<9223372036854775807):di (IntKind.i64.wrap ((i:Int)+1))=di ((i+1:Nat):Int):=by rw[Ai (by omega) (by omega)];simp
inductive Val where
 |mk (n:Int) (kids:List Val)
 deriving Inhabited
def Val.n:Val->Int
 |.mk n _=>n
def Val.kids:Val->List Val
 |.mk _ ks=>ks
mutual
def Val.enc:Val->V
 |.mk n ks=>.agg [vi n,.list (Val.encs ks)]
def Val.encs:List Val->List V
 |[]=>[]
 |v::vs=>v.enc::Val.encs vs
end
abbrev eV:Val->V:=Val.enc
abbrev vVs(l:List Val):V:=.list (l.map eV)
abbrev Ag(v:Val):V:=.agg [vi v.n,vVs v.kids]
theorem encs_map:∀l:List Val,Val.encs l=l.map eV
 |[]=>rfl
 |v::l=>by simp[Val.encs,encs_map l]
theorem Cb(v:Val):eV v=Ag v:=by cases v with|mk n ks=>simp only[eV,Val.enc,encs_map];rfl
abbrev dV(v:Val):D:=.v (Ag v)
abbrev dVs(l:List Val):D:=.v (vVs l)
theorem AB{a:List Val}{i:Nat}{x:Val}(h:a[i]?=some x):(a.map eV)[((i:Nat):Int).toNat]?=some (Ag x):=by rw[←Cb];exact AW h
theorem DM(a:List Val)(x:Val):a.map eV++[Ag x]=(a++[x]).map eV:=by rw[←Cb];simp
mutual
def Val.size:Val->Nat
 |.mk _ ks=>1+Val.sizes ks
def Val.sizes:List Val->Nat
 |[]=>0
 |v::vs=>v.size+Val.sizes vs
end
theorem Val.size_eq(v:Val):v.size=1+Val.sizes v.kids:=by cases v;rfl
theorem Val.size_pos(v:Val):1<=v.size:=by rw[Val.size_eq];omega
theorem Val.size_mem{v:Val}:∀{l:List Val},v∈l->v.size<=Val.sizes l
 |w::l,h=>by
  rcases Ib.1 h with rfl|h
  ·simp[Val.sizes]
  ·have:=Val.size_mem h;simp only[Val.sizes];omega
theorem Val.length_le:∀l:List Val,l.length<=Val.sizes l
 |[]=>by simp[Val.sizes]
 |v::l=>by have:=Val.length_le l;have:=v.size_pos;simp only[H3,Val.sizes];omega
noncomputable abbrev Ab5:Func:= Tryz.f120
theorem Ob(x:Int):Aa PP 120 [di x] σ0 (db false) σ0:=by
 refine sv Ab5 6 [] .r (db (x !=x)=db false) ?_
 simp
def B2(a b:Int):Int:=if a<b then-1 else if b<a then 1 else 0
noncomputable abbrev AaK:Func:= Tryz.f87
theorem Ml(a b:Int):Aa PP 87 [di a,di b] σ0 (di (B2 a b)) σ0:=by
 refine sv AaK 20 [] (.c (db false)<|.c (db false)<|.k<|.k<|.b .r<|.b .r .r) (F0 120 [di a] (db false)/\F0 120 [di b] (db false)/\(decide (a<b)=true->di (-1)=di (B2 a b))/\(decide (a<b)=false->(decide (a>b)=true->di 1=di (B2 a b))/\(decide (a>b)=false->di 0=di (B2 a b)))) ?_
 refine⟨Ob a,Ob b,fun h=>?_,fun h=>⟨fun h1=>?_,fun h1=>?_⟩⟩<;>simp_all [B2]<;>omega
def orM:List Int->Int
 |[]=>0
 |x::l=>if x=0 then orM l else x
noncomputable abbrev fOr:Func:= Tryz.f86
noncomputable def cOr:Code:=fOr.body.getD .skip
theorem Xu(l:List Int)(hl:l.length<=1000000)(n:Nat):∀k:Nat,l.length-k=n->
  Rn PP fOr 0 (di (orM (l.drop k))) σ0 ([.lp (sub cOr [1,1,0,1,0,0]),.blk 0,.code (sub cOr [1,1,1])]++[]) (mkE 18 [(3,di 0),(6,dl (l.map vi)),(7,di l.length),(8,di k)]) σ0:=by
 induction n using Nat.strongRecOn with
 |_ n ih=>
 intro k hn
 refine lv 18 [] (.b (.e fun x:Int=>.x (vi x)<|.b .r (.l [ke 3,ke 6,ke 7,ch 8 (di (k+1:Nat))])) .r) ((decide ((k:Int)<(l.length:Int))=true->∃a,0<=(k:Int)/\(map vi l)[Int.toNat (k:Int)]?=some (vi a)/\((a !=0)=true->di a=di (orM (List.drop k l)))/\((a !=0)=false->di (wrap IntKind.i64 ((k:Int)+1))=di (↑(k+1):Int)/\Nv.It (A9 (CN 0) PP (fun env σ1=>A2 PP fOr env σ1 (di (orM (List.drop k l))) σ0) [kl cOr [1,1,0,1,0,0],KI.blk 0,kc cOr [1,1,1]] (mkE 18 [(3,di 0),(6,D.v (V.list (map vi l))),(7,di (l.length:Int)),(8,di (↑(k+1):Int))]) σ0)))/\(decide ((k:Int)<(l.length:Int))=false->di 0=di (orM (List.drop k l)))) ?_
 refine⟨fun h=>?_,fun h=>?_⟩
 ·have hk:k<l.length:=by simpa using h
  have hx:l[k]?=some l[k]:=Hx hk
  rw[HD hk]
  generalize l[k]=x at hx⊢
  refine⟨x,by omega,AW hx,fun hf=>?_,fun hf=>⟨Ae (by omega),⟨?_⟩⟩⟩
  ·have:x≠0:=by simpa using hf
   simp[orM,this]
  ·have:x=0:=by simpa using hf
   subst this
   exact ih (l.length- (k+1)) (by omega) (k+1) rfl
 ·have hk:l.length<=k:=by simpa using h
  rw[HI hk];rfl
theorem Xt(l:List Int)(hl:l.length<=1000000):Aa PP 86 [dl (l.map vi)] σ0 (di (orM l)) σ0:=by
 refine sv fOr 18 [] (.l [ke 3,ke 6,ch 7 (di l.length),ch 8 (di (0:Nat))]) (di (length (map vi l):Int)=di (l.length:Int)/\di 0=di (↑0:Int)/\I0 fOr σ0.H.length (di (orM l)) σ0 [kl cOr [1,1,0,1,0,0],KI.blk 0,kc cOr [1,1,1]] (mkE 18 [(3,di 0),(6,dl (map vi l)),(7,di (l.length:Int)),(8,di (↑0:Int))]) σ0) ?_
 refine⟨by simp,rfl,⟨?_⟩⟩
 exact Xu l hl _ 0 rfl
def BD{α:Type}(c:α->α->Int):List α->List α->Int
 |[],[]=>0
 |[],_::_=> -1
 |_::_,[]=>1
 |x::a,y::b=>if c x y=0 then BD c a b else c x y
noncomputable abbrev Mg:Func:= Tryz.f88
noncomputable def Kk:Code:=Mg.body.getD .skip
theorem PA(F:FuncId)(fs cs:List V)(c:Val->Val->Int)(a b:List Val)(ha:a.length<=9223372036854775807)(hf:∀x∈a,∀y∈b,Aa PP F ((fs++[Ag x,Ag y]++cs).map .v) σ0 (di (c x y)) σ0)(n:Nat):∀k:Nat,a.length-k=n->k<=b.length->k<=a.length->
  Rn PP Mg 0 (di (BD c (a.drop k) (b.drop k))) σ0 ([.lp (sub Kk [1,0,1,0,0]),.blk 0,.code (sub Kk [1,1])]++[]) (mkE 39 [(0,dVs a),(1,dVs b),(2,.v (.fn F fs cs)),(11,dVs a),(12,di a.length),(13,di k)]) σ0:=by
 induction n using Nat.strongRecOn with
 |_ n ih=>
 intro k hn hkb hka
 refine lv 39 [] (.b (.e fun x:Val=>.x (Ag x)<|.b .r<|.e fun y:Val=>.x (Ag y)<|.c (di (c x y))<|.b .r (.ls [ke 0,ke 1,ke 2,ke 11,ke 12,ch 13 (di (k+1:Nat))] σ0)) (.b .r .r)) ((decide ((k:Int)<(a.length:Int))=true->∃a_2,0<=(k:Int)/\(map eV a)[Int.toNat (k:Int)]?=some (Ag a_2)/\(decide ((k:Int)>=(length (map eV b):Int))=true->di 1=di (BD c (List.drop k a) (List.drop k b)))/\(decide ((k:Int)>=(length (map eV b):Int))=false->∃a_4,0<=(k:Int)/\(map eV b)[Int.toNat (k:Int)]?=some (Ag a_4)/\Aa PP F (map D.v (fs++[V.agg [vi a_2.n,vVs a_2.kids],V.agg [vi a_4.n,vVs a_4.kids]]++cs)) (St.mk [] []) (di (c a_2 a_4)) (St.mk [] [])/\((c a_2 a_4 !=0)=true->di (c a_2 a_4)=di (BD c (List.drop k a) (List.drop k b)))/\((c a_2 a_4 !=0)=false->di (wrap IntKind.i64 ((k:Int)+1))=di (↑(k+1):Int)/\Nv.It (A9 (CN 0) PP (fun env σ1=>A2 PP Mg env σ1 (di (BD c (List.drop k a) (List.drop k b))) σ0) [kl Kk [1,0,1,0,0],KI.blk 0,kc Kk [1,1]] (mkE 39 [(0,dVs a),(1,dVs b),(2,D.v (V.fn F fs cs)),(11,dVs a),(12,di (a.length:Int)),(13,di (↑(k+1):Int))]) σ0))))/\(decide ((k:Int)<(a.length:Int))=false->(decide ((length (map eV a):Int)<(length (map eV b):Int))=true->di (-1)=di (BD c (List.drop k a) (List.drop k b)))/\(decide ((length (map eV a):Int)<(length (map eV b):Int))=false->di 0=di (BD c (List.drop k a) (List.drop k b))))) ?_
 refine⟨fun h=>?_,fun h=>?_⟩
 ·have hk:k<a.length:=by simpa using h
  have hx:a[k]?=some a[k]:=Hx hk
  rw[HD hk]
  generalize a[k]=x at hx⊢
  refine⟨x,by omega,AB hx,fun h1=>?_,fun h1=>?_⟩
  ·have:b.drop k=[]:=HI (by simpa using h1)
   rw[this];rfl
  ·have hk2:k<b.length:=by simpa using h1
   have hy:b[k]?=some b[k]:=Hx hk2
   rw[HD hk2]
   generalize b[k]=y at hy⊢
   refine⟨y,by omega,AB hy,hf x (H4 hx) y (H4 hy),fun h2=>?_,fun h2=>⟨Ae (by omega),⟨?_⟩⟩⟩
   ·have:c x y≠0:=by simpa using h2
    simp[BD,this]
   ·have:c x y=0:=by simpa using h2
    simp only[BD,this,I6]
    exact ih (a.length- (k+1)) (by omega) (k+1) rfl hk2 hk
 ·have hk:k=a.length:=by have:a.length<=k:=(by simpa using h);omega
  subst hk
  rw[List.drop_length]
  refine⟨fun h1=>?_,fun h1=>?_⟩
  ·have h1:a.length<b.length:=by simpa using h1
   rw[HD h1];rfl
  ·have h1:b.length<=a.length:=by simpa using h1
   rw[HI h1];rfl
theorem P9(F:FuncId)(fs cs:List V)(c:Val->Val->Int)(a b:List Val)(ha:a.length<=9223372036854775807)(hf:∀x∈a,∀y∈b,Aa PP F ((fs++[Ag x,Ag y]++cs).map .v) σ0 (di (c x y)) σ0):
  Aa PP 88 [dVs a,dVs b,.v (.fn F fs cs)] σ0 (di (BD c a b)) σ0:=by
 refine sv Mg 39 [] (.l [ke 0,ke 1,ke 2,ke 11,ch 12 (di a.length),ch 13 (di (0:Nat))]) (di (length (map eV a):Int)=di (a.length:Int)/\di 0=di (↑0:Int)/\I0 Mg σ0.H.length (di (BD c a b)) σ0 [kl Kk [1,0,1,0,0],KI.blk 0,kc Kk [1,1]] (mkE 39 [(0,dVs a),(1,dVs b),(2,D.v (V.fn F fs cs)),(11,dVs a),(12,di (a.length:Int)),(13,di (↑0:Int))]) σ0) ?_
 refine⟨by simp,rfl,⟨?_⟩⟩
 exact PA F fs cs c a b ha hf _ 0 rfl (by omega) (by omega)
mutual
def Aq:Val->Val->Int
 |.mk n ks,.mk m ls=>if B2 n m=0 then(if B2 ks.length ls.length=0 then V3 ks ls else B2 ks.length ls.length) else B2 n m
def V3:List Val->List Val->Int
 |[],[]=>0
 |[],_::_=> -1
 |_::_,[]=>1
 |x::a,y::b=>if Aq x y=0 then V3 a b else Aq x y
end
theorem KT:∀a b:List Val,V3 a b=BD Aq a b
 |[],[]=>rfl
 |[],_::_=>rfl
 |_::_,[]=>rfl
 |x::a,y::b=>by simp only[V3,BD,KT a b]
theorem or3(x y z:Int):(if x=0 then(if y=0 then z else y) else x)=orM [x,y,z]:=by
 simp only[orM]
 by_cases h1:x=0<;>by_cases h2:y=0<;>by_cases h3:z=0<;>simp_all
theorem SQ(a b:Val):Aq a b=orM [B2 a.n b.n,B2 a.kids.length b.kids.length,BD Aq a.kids b.kids]:=by
 cases a;cases b
 rw[Aq,KT]
 exact or3 _ _ _
mutual
def Val.fit:Val->Prop
 |.mk _ l=>l.length<=9223372036854775807/\Val.fits l
def Val.fits:List Val->Prop
 |[]=>True
 |v::l=>v.fit/\Val.fits l
end
theorem Val.fits_mem{v:Val}:∀{l:List Val},Val.fits l->v∈l->v.fit
 |w::l,h,hm=>by
  rcases Ib.1 hm with rfl|hm
  ·exact h.1
  ·exact Val.fits_mem h.2 hm
theorem Val.fits_of:∀{l:List Val},(∀v∈l,v.fit)->Val.fits l
 |[],_=>trivial
 |v::l,h=>⟨h v (by simp),Val.fits_of fun w hw=>h w (by simp[hw])⟩
theorem Val.fit.len{v:Val}(h:v.fit):v.kids.length<=9223372036854775807:=by cases v;exact h.1
theorem Val.fit.mem{v x:Val}(h:v.fit)(hx:x∈v.kids):x.fit:=by cases v;exact Val.fits_mem h.2 hx
mutual
theorem Val.fit_of:∀v:Val,v.size<=1000000->v.fit
 |.mk n l,h=>by
  have h1:1+Val.sizes l<=1000000:=h
  have h2:=Val.length_le l
  exact⟨by omega,Val.fit_ofs l (by omega)⟩
theorem Val.fit_ofs:∀l:List Val,Val.sizes l<=1000000->Val.fits l
 |[],_=>trivial
 |v::l,h=>by
  have h1:v.size+Val.sizes l<=1000000:=h
  exact⟨Val.fit_of v (by omega),Val.fit_ofs l (by omega)⟩
end
noncomputable abbrev AaJ:Func:= Tryz.f55
theorem Oo(N:Nat):∀a b:Val,a.size<=N->a.fit->Aa PP 55 [dV a,dV b] σ0 (di (Aq a b)) σ0:=by
 induction N with
 |zero=>intro a b h;have:=a.size_pos;omega
 |succ N ih=>
 intro a b ha hb
 refine sv AaJ 24 [2,3] (.c (di (B2 a.n b.n))<|.c (di (B2 a.kids.length b.kids.length))<|.c (di (BD Aq a.kids b.kids))<|.c (di (Aq a b)) .r) (F0 87 [di a.n,di b.n] (di (B2 a.n b.n))/\F0 87 [di (length (map eV a.kids):Int),di (length (map eV b.kids):Int)] (di (B2 (a.kids.length:Int) (b.kids.length:Int)))/\F0 88 [dVs a.kids,dVs b.kids,D.v (V.fn 55 [] [])] (di (BD Aq a.kids b.kids))/\F0 86 [D.v (V.list [vi (B2 a.n b.n),vi (B2 (a.kids.length:Int) (b.kids.length:Int)),vi (BD Aq a.kids b.kids)])] (di (Aq a b))/\Q (di (Aq a b))) ?_
 have hs:=a.size_eq
 have hl:=hb.len
 refine⟨Ml _ _,by simpa using Ml _ _,P9 _ _ _ Aq a.kids b.kids (by omega) (fun x hx y hy=>?_),?_,rfl⟩
 ·have:=Val.size_mem hx
  exact ih x y (by omega) (hb.mem hx)
 ·rw[SQ];exact Xt [_,_,_] (by simp)
theorem SP(N:Nat)(a b:Val)(_:a.size<=N)(h:a.size<=1000000):Aa PP 55 [dV a,dV b] σ0 (di (Aq a b)) σ0:=Oo _ a b (H5 _) (Val.fit_of a h)
def ixM{α:Type}(p:α->Bool):List α->Nat->Int
 |[],_=> -1
 |x::l,k=>if p x then k else ixM p l (k+1)
theorem FD{α:Type}(p:α->Bool):∀(l:List α) (k:Nat),decide (ixM p l k>=0)=l.any p
 |[],k=>by simp[ixM]
 |x::l,k=>by
  simp only[ixM,List.any_cons]
  by_cases h:p x=true
  ·simp[h]
  ·simp[h,FD p l]
noncomputable abbrev Z6:Func:= Tryz.f126
noncomputable def Yw:Code:=Z6.body.getD .skip
theorem Vb(F:FuncId)(fs cs:List V)(p:Int->Bool)(l:List (Int))(hl:l.length<=1000000)(hp:∀x∈l,Aa PP F ((fs++[vi x]++cs).map .v) σ0 (db (p x)) σ0)(n:Nat):∀k:Nat,l.length-k=n->
  Rn PP Z6 0 (di (ixM p (l.drop k) k)) σ0 ([.lp (sub Yw [1,0,1,0,0]),.blk 0,.code (sub Yw [1,1])]++[]) (mkE 19 [(0,dl (l.map vi)),(1,.v (.fn F fs cs)),(7,di l.length),(8,di k)]) σ0:=by
 induction n using Nat.strongRecOn with
 |_ n ih=>
 intro k hn
 refine lv 19 [] (.b (.e fun x:Int=>.x (vi x)<|.c (db (p x))<|.b .r (.l [ke 0,ke 1,ke 7,ch 8 (di (k+1:Nat))])) .r) ((decide ((k:Int)<(l.length:Int))=true->∃a,0<=(k:Int)/\(map vi l)[Int.toNat (k:Int)]?=some (vi a)/\Aa PP F (map D.v (fs++[vi a]++cs)) (St.mk [] []) (db (p a)) (St.mk [] [])/\(p a=true->di (k:Int)=di (ixM p (List.drop k l) k))/\(p a=false->di (wrap IntKind.i64 ((k:Int)+1))=di (↑(k+1):Int)/\Nv.It (A9 (CN 0) PP (fun env σ1=>A2 PP Z6 env σ1 (di (ixM p (List.drop k l) k)) σ0) [kl Yw [1,0,1,0,0],KI.blk 0,kc Yw [1,1]] (mkE 19 [(0,D.v (V.list (map vi l))),(1,D.v (V.fn F fs cs)),(7,di (l.length:Int)),(8,di (↑(k+1):Int))]) σ0)))/\(decide ((k:Int)<(l.length:Int))=false->di (-1)=di (ixM p (List.drop k l) k))) ?_
 refine⟨fun h=>?_,fun h=>?_⟩
 ·have hk:k<l.length:=by simpa using h
  have hx:l[k]?=some l[k]:=Hx hk
  rw[HD hk]
  generalize l[k]=x at hx⊢
  refine⟨x,by omega,AW hx,hp x (H4 hx),fun hf=>by simp[ixM,hf],fun hf=>⟨Ae (by omega),⟨?_⟩⟩⟩
  simp only[ixM,hf]
  exact ih (l.length- (k+1)) (by omega) (k+1) rfl
 ·have hk:l.length<=k:=by simpa using h
  rw[HI hk];rfl
theorem Va(F:FuncId)(fs cs:List V)(p:Int->Bool)(l:List (Int))(hl:l.length<=1000000)(hp:∀x∈l,Aa PP F ((fs++[vi x]++cs).map .v) σ0 (db (p x)) σ0):
  Aa PP 126 [dl (l.map vi),.v (.fn F fs cs)] σ0 (di (ixM p l 0)) σ0:=by
 refine sv Z6 19 [] (.l [ke 0,ke 1,ch 7 (di l.length),ch 8 (di (0:Nat))]) (di (length (map vi l):Int)=di (l.length:Int)/\di 0=di (↑0:Int)/\I0 Z6 σ0.H.length (di (ixM p l 0)) σ0 [kl Yw [1,0,1,0,0],KI.blk 0,kc Yw [1,1]] (mkE 19 [(0,dl (map vi l)),(1,D.v (V.fn F fs cs)),(7,di (l.length:Int)),(8,di (↑0:Int))]) σ0) ?_
 refine⟨by simp,rfl,⟨?_⟩⟩
 exact Vb F fs cs p l hl hp _ 0 rfl
noncomputable abbrev AaH:Func:= Tryz.f96
theorem FF(F:FuncId)(fs cs:List V)(p:Int->Bool)(l:List (Int))(hl:l.length<=1000000)(hp:∀x∈l,Aa PP F ((fs++[vi x]++cs).map .v) σ0 (db (p x)) σ0):
  Aa PP 96 [dl (l.map vi),.v (.fn F fs cs)] σ0 (db (l.any p)) σ0:=by
 refine sv AaH 9 [] (.c (di (ixM p l 0)) .r) (F0 126 [D.v (V.list (map vi l)),D.v (V.fn F fs cs)] (di (ixM p l 0))/\db (decide (ixM p l 0>=0))=db (List.any l p)) ?_
 exact⟨Va F fs cs p l hl hp,by rw[←FD]⟩
noncomputable abbrev Z3:Func:= Tryz.f169
noncomputable def Yt:Code:=Z3.body.getD .skip
theorem UV(F:FuncId)(fs cs:List V)(p:Val->Bool)(l:List (Val))(hl:l.length<=1000000)(hp:∀x∈l,Aa PP F ((fs++[Ag x]++cs).map .v) σ0 (db (p x)) σ0)(n:Nat):∀k:Nat,l.length-k=n->
  Rn PP Z3 0 (di (ixM p (l.drop k) k)) σ0 ([.lp (sub Yt [1,0,1,0,0]),.blk 0,.code (sub Yt [1,1])]++[]) (mkE 19 [(0,dl (l.map eV)),(1,.v (.fn F fs cs)),(7,di l.length),(8,di k)]) σ0:=by
 induction n using Nat.strongRecOn with
 |_ n ih=>
 intro k hn
 refine lv 19 [] (.b (.e fun x:Val=>.x (Ag x)<|.c (db (p x))<|.b .r (.l [ke 0,ke 1,ke 7,ch 8 (di (k+1:Nat))])) .r) ((decide ((k:Int)<(l.length:Int))=true->∃a,0<=(k:Int)/\(map eV l)[Int.toNat (k:Int)]?=some (Ag a)/\Aa PP F (map D.v (fs++[Ag a]++cs)) (St.mk [] []) (db (p a)) (St.mk [] [])/\(p a=true->di (k:Int)=di (ixM p (List.drop k l) k))/\(p a=false->di (wrap IntKind.i64 ((k:Int)+1))=di (↑(k+1):Int)/\Nv.It (A9 (CN 0) PP (fun env σ1=>A2 PP Z3 env σ1 (di (ixM p (List.drop k l) k)) σ0) [kl Yt [1,0,1,0,0],KI.blk 0,kc Yt [1,1]] (mkE 19 [(0,D.v (V.list (map eV l))),(1,D.v (V.fn F fs cs)),(7,di (l.length:Int)),(8,di (↑(k+1):Int))]) σ0)))/\(decide ((k:Int)<(l.length:Int))=false->di (-1)=di (ixM p (List.drop k l) k))) ?_
 refine⟨fun h=>?_,fun h=>?_⟩
 ·have hk:k<l.length:=by simpa using h
  have hx:l[k]?=some l[k]:=Hx hk
  rw[HD hk]
  generalize l[k]=x at hx⊢
  refine⟨x,by omega,AB hx,hp x (H4 hx),fun hf=>by simp[ixM,hf],fun hf=>⟨Ae (by omega),⟨?_⟩⟩⟩
  simp only[ixM,hf]
  exact ih (l.length- (k+1)) (by omega) (k+1) rfl
 ·have hk:l.length<=k:=by simpa using h
  rw[HI hk];rfl
theorem UU(F:FuncId)(fs cs:List V)(p:Val->Bool)(l:List (Val))(hl:l.length<=1000000)(hp:∀x∈l,Aa PP F ((fs++[Ag x]++cs).map .v) σ0 (db (p x)) σ0):
  Aa PP 169 [dl (l.map eV),.v (.fn F fs cs)] σ0 (di (ixM p l 0)) σ0:=by
 refine sv Z3 19 [] (.l [ke 0,ke 1,ch 7 (di l.length),ch 8 (di (0:Nat))]) (di (length (map eV l):Int)=di (l.length:Int)/\di 0=di (↑0:Int)/\I0 Z3 σ0.H.length (di (ixM p l 0)) σ0 [kl Yt [1,0,1,0,0],KI.blk 0,kc Yt [1,1]] (mkE 19 [(0,dl (map eV l)),(1,D.v (V.fn F fs cs)),(7,di (l.length:Int)),(8,di (↑0:Int))]) σ0) ?_
 refine⟨by simp,rfl,⟨?_⟩⟩
 exact UV F fs cs p l hl hp _ 0 rfl
noncomputable abbrev AaF:Func:= Tryz.f147
theorem LS(F:FuncId)(fs cs:List V)(p:Val->Bool)(l:List (Val))(hl:l.length<=1000000)(hp:∀x∈l,Aa PP F ((fs++[Ag x]++cs).map .v) σ0 (db (p x)) σ0):
  Aa PP 147 [dl (l.map eV),.v (.fn F fs cs)] σ0 (db (l.any p)) σ0:=by
 refine sv AaF 9 [] (.c (di (ixM p l 0)) .r) (F0 169 [D.v (V.list (map eV l)),D.v (V.fn F fs cs)] (di (ixM p l 0))/\db (decide (ixM p l 0>=0))=db (List.any l p)) ?_
 exact⟨UU F fs cs p l hl hp,by rw[←FD]⟩
noncomputable abbrev ZB:Func:= Tryz.f140
noncomputable def Yy:Code:=ZB.body.getD .skip
theorem Vt(a b:List (Int))(ha:a.length<=1000000)(hab:a.length=b.length)(n:Nat):∀k:Nat,a.length-k=n->
  Rn PP ZB 0 (db (decide (a.drop k=b.drop k))) σ0 ([.lp (sub Yy [1,1,0,1,0,0]),.blk 0,.code (sub Yy [1,1,1])]++[]) (mkE 26 [(0,dl (a.map vi)),(1,dl (b.map vi)),(12,di a.length),(13,di k)]) σ0:=by
 induction n using Nat.strongRecOn with
 |_ n ih=>
 intro k hn
 refine lv 26 [] (.b (.e fun x:Int=>.x (vi x)<|.e fun y:Int=>.x (vi y)<|.b .r (.l [ke 0,ke 1,ke 12,ch 13 (di (k+1:Nat))])) .r) ((decide ((k:Int)<(a.length:Int))=true->∃a_2,0<=(k:Int)/\(map vi a)[Int.toNat (k:Int)]?=some (vi a_2)/\∃a_3,0<=(k:Int)/\(map vi b)[Int.toNat (k:Int)]?=some (vi a_3)/\((a_2 !=a_3)=true->db false=db (decide (List.drop k a=List.drop k b)))/\((a_2 !=a_3)=false->di (wrap IntKind.i64 ((k:Int)+1))=di (↑(k+1):Int)/\Nv.It (A9 (CN 0) PP (fun env σ1=>A2 PP ZB env σ1 (db (decide (List.drop k a=List.drop k b))) σ0) [kl Yy [1,1,0,1,0,0],KI.blk 0,kc Yy [1,1,1]] (mkE 26 [(0,D.v (V.list (map vi a))),(1,D.v (V.list (map vi b))),(12,di (a.length:Int)),(13,di (↑(k+1):Int))]) (St.mk [] []))))/\(decide ((k:Int)<(a.length:Int))=false->db true=db (decide (List.drop k a=List.drop k b)))) ?_
 refine⟨fun h=>?_,fun h=>?_⟩
 ·have hk:k<a.length:=by simpa using h
  have hk2:k<b.length:=by omega
  have hx:a[k]?=some a[k]:=Hx hk
  have hy:b[k]?=some b[k]:=Hx hk2
  rw[HD hk,HD hk2]
  generalize a[k]=x at hx⊢
  generalize b[k]=y at hy⊢
  refine⟨x,by omega,AW hx,y,by omega,AW hy,fun hf=>?_,fun hf=>⟨Ae (by omega),⟨?_⟩⟩⟩
  ·have:x≠y:=by simpa using hf
   simp[this]
  ·have:x=y:=by simpa using hf
   subst this
   simpa using ih (a.length- (k+1)) (by omega) (k+1) rfl
 ·have hk:a.length<=k:=by simpa using h
  rw[HI hk,HI (by omega)];simp
theorem DH(a b:List (Int))(ha:a.length<=1000000):Aa PP 140 [dl (a.map vi),dl (b.map vi)] σ0 (db (decide (a=b))) σ0:=by
 refine sv ZB 26 [] (.b .r (.l [ke 0,ke 1,ch 12 (di a.length),ch 13 (di (0:Nat))])) ((((length (map vi a):Int) !=(length (map vi b):Int))=true->db false=db (decide (a=b)))/\(((length (map vi a):Int) !=(length (map vi b):Int))=false->di (length (map vi a):Int)=di (a.length:Int)/\di 0=di (↑0:Int)/\I0 ZB σ0.H.length (db (decide (a=b))) σ0 [kl Yy [1,1,0,1,0,0],KI.blk 0,kc Yy [1,1,1]] (mkE 26 [(0,dl (map vi a)),(1,dl (map vi b)),(12,di (a.length:Int)),(13,di (↑0:Int))]) σ0)) ?_
 refine⟨fun h=>?_,fun h=>⟨by simp,rfl,⟨?_⟩⟩⟩
 ·have h:a.length≠b.length:=by simp at h;omega
  rw[H1 fun e=>h (by rw[e])]
 ·exact Vt a b ha (by simp at h;omega) _ 0 rfl
theorem LX{α:Type}{ls:List (List α)}{k:Nat}(hk:k<ls.length):(ls.take (k+1)).flatten=(ls.take k).flatten++ls[k]:=by
 rw[List.take_succ_eq_append_getElem hk,List.flatten_append];simp
theorem S2{α:Type}(ls:List (List α))(k:Nat):(ls.take k).flatten.length<=ls.flatten.length:=by
 have:=HL (fun l=>l.flatten.length) (List.take_append_drop k ls)
 simp only[List.flatten_append,HC] at this
 omega
theorem Sq{α β:Type}{e:α->V}{f:β->V}{a:List α}{b:List β}{by':Nat}(h:a.length+b.length<=2000000)(hb:by'<=10000):Ax ((a.map e).length+(b.map f).length) by':=by
 rw[Hw,Hw]
 have:(a.length+b.length)*by'<=2000000*10000:=Nat.mul_le_mul h hb
 exact⟨by omega,by omega⟩
abbrev vIs(l:List Int):V:=.list (l.map vi)
abbrev dIs(l:List Int):D:=.v (vIs l)
theorem NB(l:List Int):∀y∈l.map vi,y.size=1:=by simp[V.size]
noncomputable abbrev XN:Func:= Tryz.f116
theorem SS(l:List Int)(hl:l.length<=1000000):Aa PP 116 [dIs l] σ0 (dIs l) σ0:=by
 by_cases h:l=[]
 ·subst h
  refine TX (ds:=[]) (ds':=[]) fun a cap=>?_
  cases a with
  |none=>
   refine sv XN 8 [] .r (D.v (V.list [])=dIs []) ?_
   rfl
  |some a=>
   refine sv XN 8 [] (.a 1<|.h (.q 3 2)<|.h (.un 6)<|.r) (Q nV/\Ax 0 8/\D.v (V.list [])=dIs []) ?_
   refine⟨rfl,⟨by simp,by simp⟩,?_⟩
   rfl
 ·refine sv XN 8 [] (.a 1<|.w .r) (map vi l≠ []/\Q nV/\Ax (length nV+length (map vi l)) 8/\(∀(y:V),y∈map vi l->V.size y=1)/\D.v (V.list ([]++map vi l))=dIs l) ?_
  exact⟨by simpa using h,rfl,⟨by simp;omega,by simp;omega⟩,NB l,rfl⟩
theorem Ua(l:List (List UInt8)):∀y∈l.map V.str,y.size=1:=by simp[V.size]
noncomputable abbrev Abm:Func:= Tryz.f127
theorem Vg(n:Nat)(hn:n<=1000000):Aa PP 127 [.v .nils,di n] σ0 (.acc 1 []) ⟨[],[(1,1,[])]⟩:=by
 have h1:IntKind.i64.wrap (0-0)=0:=by decide
 by_cases h:n=0
 ·subst h
  refine sv Abm 27 [] (.f<|.f<|.h (.q 6 0)<|.h (.nw 0 1 1) .r) (decide ((↑0:Int)<0)=false/\decide (wrap IntKind.i64 ((↑0:Int)-wrap IntKind.i64 (0-0))>0)=false/\Q [(1,1,nV)]/\Q (D.acc 1 [])) ?_
  exact⟨by decide,by decide,rfl,rfl⟩
 ·refine sv Abm 27 [] (.f<|.t<|.a 1 .r) (decide ((n:Int)<0)=false/\decide (wrap IntKind.i64 ((n:Int)-wrap IntKind.i64 (0-0))>0)=true/\iz 0=0/\0<wrap IntKind.i64 ((n:Int)-wrap IntKind.i64 (0-0))/\Ax (Int.toNat (wrap IntKind.i64 ((n:Int)-wrap IntKind.i64 (0-0)))) 16/\iz 0=0/\Q [(1,1,nV)]/\Q (D.acc 1 [])) ?_
  have h2:IntKind.i64.wrap ((n:Int)-IntKind.i64.wrap (0-0))=n:=by rw[h1,Ai (by omega) (by omega)];omega
  rw[h2]
  refine⟨by simp,by simp;omega,by simp,by omega,⟨by simp;omega,by simp;omega⟩,by simp,rfl,rfl⟩
noncomputable abbrev Wx:Func:= Tryz.f98
noncomputable def PV:Code:=Wx.body.getD .skip
abbrev EW(ls:List (List (List UInt8))):List V:=ls.map fun l=>.list (l.map V.str)
theorem P6(ls:List (List (List UInt8)))(hl:ls.length<=1000)(ht:ls.flatten.length<=1000000)(n:Nat):∀k:Nat,ls.length-k=n->
  Rn PP Wx 0 (.acc 1 (ls.flatten.map V.str)) ⟨[],[(1,1,ls.flatten.map V.str)]⟩ ([.lp (sub PV [1,1,1,1,0,1,0,0]),.blk 2,.code (sub PV [1,1,1,1,1])]++[]) (mkE 36 [(0,dl (EW ls)),(6,.acc 1 ((ls.take k).flatten.map V.str)),(25,dl (EW ls)),(26,di ls.length),(27,di k)]) ⟨[],[(1,1,(ls.take k).flatten.map V.str)]⟩:=by
 induction n using Nat.strongRecOn with
 |_ n ih=>
 intro k hn
 refine lv 36 [] (.b (.e fun x:List (List UInt8)=>.x (.list (x.map V.str))<|.w<|.ls [ke 0,ch 6 (.acc 1 ((ls.take (k+1)).flatten.map V.str)),ke 25,ke 26,ch 27 (di (k+1:Nat))] ⟨[],[(1,1,(ls.take (k+1)).flatten.map V.str)]⟩) .r) ((decide ((k:Int)<(ls.length:Int))=true->∃a,0<=(k:Int)/\(EW ls)[Int.toNat (k:Int)]?=some (V.list (map V.str a))/\map V.str (flatten (take k ls))=map V.str (flatten (take k ls))/\Ax (length (map V.str (flatten (take k ls)))+length (map V.str a)) 16/\(∀(y:V),y∈map V.str a->V.size y=1)/\D.acc 1 (map V.str (flatten (take k ls))++map V.str a)=D.acc 1 (map V.str (flatten (take (k+1) ls)))/\di (wrap IntKind.i64 ((k:Int)+1))=di (↑(k+1):Int)/\[(1,1,map V.str (flatten (take k ls))++map V.str a)]=[(1,1,map V.str (flatten (take (k+1) ls)))]/\Nv.It (A9 (CN 0) PP (fun env σ1=>A2 PP Wx env σ1 (D.acc 1 (map V.str (flatten ls))) (St.mk [] [(1,1,map V.str (flatten ls))])) [kl PV [1,1,1,1,0,1,0,0],KI.blk 2,kc PV [1,1,1,1,1]] (mkE 36 [(0,D.v (V.list (EW ls))),(6,D.acc 1 (map V.str (flatten (take (k+1) ls)))),(25,D.v (V.list (EW ls))),(26,di (ls.length:Int)),(27,di (↑(k+1):Int))]) (St.mk [] [(1,1,map V.str (flatten (take (k+1) ls)))])))/\(decide ((k:Int)<(ls.length:Int))=false->[(1,1,map V.str (flatten (take k ls)))]=[(1,1,map V.str (flatten ls))]/\D.acc 1 (map V.str (flatten (take k ls)))=D.acc 1 (map V.str (flatten ls)))) ?_
 refine⟨fun h=>?_,fun h=>?_⟩
 ·have hk:k<ls.length:=by simpa using h
  have hx:ls[k]?=some ls[k]:=Hx hk
  have hf:=LX hk
  have hle:=S2 ls (k+1)
  have hih:=ih (ls.length- (k+1)) (by omega) (k+1) rfl
  rw[hf] at hle hih⊢
  generalize ls[k]=x at hx hle hih⊢
  simp only[HC] at hle
  refine⟨x,by omega,by simp[hx],rfl,Sq (by omega) (by decide),Ua x,by simp,Ae (by omega),by simp,⟨hih⟩⟩
 ·have hk:ls.length<=k:=by simpa using h
  rw[HQ hk];exact⟨rfl,rfl⟩
theorem P7(ls:List (List (List UInt8)))(hl:ls.length<=1000)(ht:ls.flatten.length<=1000000)(n:Nat):∀k:Nat,ls.length-k=n->
  Rn PP Wx 0 (.acc 1 (ls.flatten.map V.str)) ⟨[],[(1,1,ls.flatten.map V.str)]⟩ ([.lp (sub PV [1,1,0,1,0,0]),.blk 0,.code (sub PV [1,1,1])]++[]) (mkE 36 [(0,dl (EW ls)),(3,di ((ls.take k).flatten.length:Nat)),(9,dl (EW ls)),(10,di ls.length),(11,di k)]) σ0:=by
 induction n using Nat.strongRecOn with
 |_ n ih=>
 intro k hn
 refine lv 36 [] (.b (.e fun x:List (List UInt8)=>.x (.list (x.map V.str))<|.f<|.l [ke 0,ch 3 (di ((ls.take (k+1)).flatten.length:Nat)),ke 9,ke 10,ch 11 (di (k+1:Nat))]) (.h (.ckn 1 1 1 [])<|.ls [ke 0,ch 6 (.acc 1 ((ls.take 0).flatten.map V.str)),ke 25,ch 26 (di ls.length),ch 27 (di (0:Nat))] ⟨[],[(1,1,(ls.take 0).flatten.map V.str)]⟩)) ((decide ((k:Int)<(ls.length:Int))=true->∃a,0<=(k:Int)/\(EW ls)[Int.toNat (k:Int)]?=some (V.list (map V.str a))/\decide (wrap IntKind.i64 ((length (flatten (take k ls)):Int)+(length (map V.str a):Int))<0)=false/\di (wrap IntKind.i64 ((length (flatten (take k ls)):Int)+(length (map V.str a):Int)))=di (length (flatten (take (k+1) ls)):Int)/\di (wrap IntKind.i64 ((k:Int)+1))=di (↑(k+1):Int)/\Nv.It (A9 (CN 0) PP (fun env σ1=>A2 PP Wx env σ1 (D.acc 1 (map V.str (flatten ls))) (St.mk [] [(1,1,map V.str (flatten ls))])) [kl PV [1,1,0,1,0,0],KI.blk 0,kc PV [1,1,1]] (mkE 36 [(0,D.v (V.list (EW ls))),(3,di (length (flatten (take (k+1) ls)):Int)),(9,D.v (V.list (EW ls))),(10,di (ls.length:Int)),(11,di (↑(k+1):Int))]) σ0))/\(decide ((k:Int)<(ls.length:Int))=false->Aa PP 127 [dn,di (length (flatten (take k ls)):Int)] (St.mk [] []) (D.acc 1 []) (St.mk [] [(1,1,[])])/\Q (D.acc 1 [])/\di (length (EW ls):Int)=di (ls.length:Int)/\di 0=di (↑0:Int)/\Q [(1,1,nV)]/\I0 Wx 0 (D.acc 1 (map V.str (flatten ls))) (St.mk [] [(1,1,map V.str (flatten ls))]) [kl PV [1,1,1,1,0,1,0,0],KI.blk 2,kc PV [1,1,1,1,1]] (mkE 36 [(0,D.v (V.list (EW ls))),(6,D.acc 1 []),(25,D.v (V.list (EW ls))),(26,di (ls.length:Int)),(27,di (↑0:Int))]) (St.mk [] [(1,1,[])]))) ?_
 refine⟨fun h=>?_,fun h=>?_⟩
 ·have hk:k<ls.length:=by simpa using h
  have hx:ls[k]?=some ls[k]:=Hx hk
  have hf:=HL length (LX hk)
  rw[HC] at hf
  have hle:=S2 ls (k+1)
  generalize ls[k]=x at hx hf⊢
  have h2:IntKind.i64.wrap ((((ls.take k).flatten.length:Nat):Int)+((x.map V.str).length:Int))=(((ls.take (k+1)).flatten.length:Nat):Int):=by rw[Ai (by simp only[Hw];omega) (by simp only[Hw];omega),hf];simp
  refine⟨x,by omega,by simp[hx],by rw[h2];simp,by rw[h2],Ae (by omega),⟨?_⟩⟩
  exact ih (ls.length- (k+1)) (by omega) (k+1) rfl
 ·have hk:ls.length<=k:=by simpa using h
  rw[HQ hk]
  refine⟨Vg ls.flatten.length ht,rfl,by simp,rfl,rfl,⟨?_⟩⟩
  exact P6 ls hl ht _ 0 rfl
theorem SO(ls:List (List (List UInt8)))(hl:ls.length<=1000)(ht:ls.flatten.length<=1000000):Aa PP 98 [dl (EW ls)] σ0 (.acc 1 (ls.flatten.map V.str)) ⟨[],[(1,1,ls.flatten.map V.str)]⟩:=by
 refine sv Wx 36 [] (.l [ke 0,ch 3 (di ((ls.take 0).flatten.length:Nat)),ke 9,ch 10 (di ls.length),ch 11 (di (0:Nat))]) (di 0=di (length (flatten (take 0 ls)):Int)/\di (length (EW ls):Int)=di (ls.length:Int)/\di 0=di (↑0:Int)/\I0 Wx σ0.H.length (D.acc 1 (map V.str (flatten ls))) (St.mk [] [(1,1,map V.str (flatten ls))]) [kl PV [1,1,0,1,0,0],KI.blk 0,kc PV [1,1,1]] (mkE 36 [(0,dl (EW ls)),(3,di (length (flatten (take 0 ls)):Int)),(9,dl (EW ls)),(10,di (ls.length:Int)),(11,di (↑0:Int))]) σ0) ?_
 refine⟨rfl,by simp,rfl,⟨?_⟩⟩
 exact P7 ls hl ht _ 0 rfl
structure Tk where
 place:Int
 low:Int
 high:Int
 deriving DecidableEq,Inhabited
abbrev vTk(t:Tk):V:=.agg [vi t.place,vi t.low,vi t.high]
abbrev D8(l:List Tk):V:=.list (l.map vTk)
structure Rul where
 name:List UInt8
 frm:Int
 to:Int
 need:List Int
 give:List Int
 move:List Int
 chan:Int
 act:Int
 letter:Int
 path:List Int
 next:List Int
 takes:List Tk
 makes:List Int
 second:Int
 deriving DecidableEq,Inhabited
abbrev Ah(r:Rul):V:=.agg [.str r.name,vi r.frm,vi r.to,vIs r.need,vIs r.give,vIs r.move,vi r.chan,vi r.act,vi r.letter,vIs r.path,vIs r.next,D8 r.takes,vIs r.makes,vi r.second]
abbrev EV(l:List Rul):V:=.list (l.map Ah)
abbrev vSs(l:List (List UInt8)):V:=.list (l.map V.str)
structure Mod where
 kind:Int
 states:List (List UInt8)
 places:List (List UInt8)
 letters:List (List UInt8)
 ranks:List Int
 levels:Int
 age:Int
 rules:List Rul
 start:Val
 deriving Inhabited
abbrev Az(m:Mod):V:=.agg [vi m.kind,vSs m.states,vSs m.places,vSs m.letters,vIs m.ranks,vi m.levels,vi m.age,EV m.rules,vi m.start.n,vVs m.start.kids]
abbrev Ad(m:Mod):D:=.v (Az m)
abbrev BN(r:Rul):D:=.v (Ah r)
def An(x a b:Int):Bool:=decide (a<=x)&&decide (x<=b)
noncomputable abbrev AaM:Func:= Tryz.f66
theorem Cs(x a b:Int):Aa PP 66 [di x,di a,di b] σ0 (db (An x a b)) σ0:=by
 refine sv AaM 15 [] (.b .r .r) ((decide (x>=a)=true->db (decide (x<=b))=db (An x a b))/\(decide (x>=a)=false->db false=db (An x a b))) ?_
 refine⟨fun h=>?_,fun h=>?_⟩
 ·have h:a<=x:=by simpa using h
  simp[An,h]
 ·have h:¬a<=x:=by simpa using h
  simp[An,h]
noncomputable abbrev XM:Func:= Tryz.f102
theorem B4(x:Int)(n:Nat)(hn:n<=1000000):Aa PP 102 [di x,di n] σ0 (db (An x 0 (n-1))) σ0:=by
 refine sv XM 9 [] (.c (db (An x 0 (n-1))) .r) (F0 66 [di x,di 0,di (wrap IntKind.i64 ((n:Int)-1))] (db (An x 0 ((n:Int)-1)))/\Q (db (An x 0 ((n:Int)-1)))) ?_
 refine⟨?_,rfl⟩
 rw[Ai (by omega) (by omega)]
 exact Cs x 0 (n-1)
noncomputable abbrev AaC:Func:= Tryz.f108
noncomputable abbrev Z0:Func:= Tryz.f139
theorem Ps(F:FuncId)(fs cs:List V)(p:Int->Bool)(x:Int)(hp:Aa PP F ((fs++[vi x]++cs).map .v) σ0 (db (p x)) σ0):Aa PP 139 [di x,.v (.ref (.fn F fs cs))] σ0 (db (!p x)) σ0:=by
 refine sv Z0 8 [] (.c (db (p x)) .r) (F0 F (map D.v (fs++[vi x]++cs)) (db (p x))/\(db !p x)=db !p x) ?_
 exact⟨hp,rfl⟩
theorem Eu(F:FuncId)(fs cs:List V)(p:Int->Bool)(l:List Int)(hl:l.length<=1000000)(hp:∀x∈l,Aa PP F ((fs++[vi x]++cs).map .v) σ0 (db (p x)) σ0):Aa PP 108 [dIs l,.v (.fn F fs cs)] σ0 (db (l.all p)) σ0:=by
 refine sv AaC 9 [3] (.c (db (l.any fun x=> !p x)) .r) (F0 96 [dIs l,D.v (V.fn 139 [] [V.ref (V.fn F fs cs)])] (db (List.any l fun x=> !p x))/\(db !List.any l fun x=> !p x)=db (List.all l p)) ?_
 refine⟨FF _ [] _ (fun x=> !p x) l hl fun x hx=>Ps F fs cs p x (hp x hx),?_⟩
 congr 2
 induction l with
 |nil=>rfl
 |cons x l ih=>
  have h:=ih (by simp at hl;omega) (fun x hx=>hp x (by simp[hx]))
  simp only[List.any_cons,List.all_cons,Bool.not_or,Bool.not_not,h]
noncomputable abbrev AbD:Func:= Tryz.f103
noncomputable abbrev AaL:Func:= Tryz.f132
abbrev C3(x:Int):Bool:=An x 0 16
theorem Mp(x:Int):Aa PP 132 [di x] σ0 (db (C3 x)) σ0:=by
 refine sv AaL 5 [] (.c (db (C3 x)) .r) (F0 66 [di x,di 0,di 16] (db (C3 x))/\Q (db (C3 x))) ?_
 exact⟨Cs x 0 16,rfl⟩
structure Rul.short(r:Rul):Prop where
 need:r.need.length<=1000000
 give:r.give.length<=1000000
 move:r.move.length<=1000000
 path:r.path.length<=1000000
 next:r.next.length<=1000000
 takes:r.takes.length<=1000000
 makes:r.makes.length<=1000000
def AY(m:Mod)(r:Rul):Bool:=((r.need.length:Int)==m.places.length)&&(((r.give.length:Int)==m.places.length)&&(r.need.all C3&&r.give.all C3))
theorem Ow(m:Mod)(r:Rul)(hr:r.short):Aa PP 103 [Ad m,BN r] σ0 (db (AY m r)) σ0:=by
 refine sv AbD 34 [2,3] (.b (.b (.c (db (r.need.all C3))<|.b (.c (db (r.give.all C3)) .r) .r) .r) .r) ((((length (map vi r.need):Int)==(length (map V.str m.places):Int))=true->(((length (map vi r.give):Int)==(length (map V.str m.places):Int))=true->F0 108 [dIs r.need,D.v (V.fn 132 [] [])] (db (List.all r.need C3))/\(List.all r.need C3=true->F0 108 [dIs r.give,D.v (V.fn 132 [] [])] (db (List.all r.give C3))/\db (List.all r.give C3)=db (AY m r))/\(List.all r.need C3=false->db false=db (AY m r)))/\(((length (map vi r.give):Int)==(length (map V.str m.places):Int))=false->db false=db (AY m r)))/\(((length (map vi r.need):Int)==(length (map V.str m.places):Int))=false->db false=db (AY m r))) ?_
 refine⟨fun h1=>⟨fun h2=>⟨Eu _ [] [] C3 _ hr.need fun x _=>Mp x,fun h3=>⟨Eu _ [] [] C3 _ hr.give fun x _=>Mp x,?_⟩,fun h3=>?_⟩,fun h2=>?_⟩,fun h1=>?_⟩<;>(simp only[Hw] at*;simp[AY, *])
noncomputable abbrev Ab6:Func:= Tryz.f104
noncomputable abbrev AaB:Func:= Tryz.f133
theorem Si(n:Nat)(hn:n<=1000000)(x:Int):Aa PP 133 [di x,.v (.ref (vi n))] σ0 (db (An x (-1) (n-1))) σ0:=by
 refine sv AaB 8 [] (.c (db (An x (-1) (n-1))) .r) (F0 66 [di x,di (-1),di (wrap IntKind.i64 ((n:Int)-1))] (db (An x (-1) ((n:Int)-1)))/\Q (db (An x (-1) ((n:Int)-1)))) ?_
 refine⟨?_,rfl⟩
 rw[Ai (by omega) (by omega)]
 exact Cs x (-1) (n-1)
def Cw(m:Mod)(r:Rul):Bool:=((r.move.length:Int)==0)||(((r.move.length:Int)==m.places.length)&&r.move.all fun x=>An x (-1) (m.places.length-1))
theorem UM(m:Mod)(hm:m.places.length<=1000000)(r:Rul)(hr:r.short):Aa PP 104 [Ad m,BN r] σ0 (db (Cw m r)) σ0:=by
 refine sv Ab6 26 [2,3] (.h (.q 2 0)<|.h (.f1 0 [5])<|.b .r (.b (.c (db (r.move.all fun x=>An x (-1) (m.places.length-1))) .r) .r)) ((((length (map vi r.move):Int)==0)=true->db true=db (Cw m r))/\(((length (map vi r.move):Int)==0)=false->(((length (map vi r.move):Int)==(length (map V.str m.places):Int))=true->F0 108 [dIs r.move,D.v (V.fn 133 [] [V.ref (vi (length (map V.str m.places):Int))])] (db (List.all r.move fun x=>An x (-1) ((m.places.length:Int)-1)))/\db (List.all r.move fun x=>An x (-1) ((m.places.length:Int)-1))=db (Cw m r))/\(((length (map vi r.move):Int)==(length (map V.str m.places):Int))=false->db false=db (Cw m r)))) ?_
 refine⟨fun h1=>?_,fun h1=>⟨fun h2=>⟨Eu _ [] [_] _ _ hr.move fun x _=>by simpa using Si m.places.length hm x,?_⟩,fun h2=>?_⟩⟩<;>(simp only[Hw] at*;simp[Cw, *])
noncomputable abbrev AaN:Func:= Tryz.f105
def CL(m:Mod)(r:Rul):Bool:=if (r.act==0)=true then(r.chan==0)&&(r.letter==0) else An r.act 1 2&&(An r.chan 0 (m.places.length-1)&&An r.letter 0 (m.letters.length-1))
theorem Th(m:Mod)(hm:m.places.length<=1000000)(hl:m.letters.length<=1000000)(r:Rul):Aa PP 105 [Ad m,BN r] σ0 (db (CL m r)) σ0:=by
 refine sv AaN 35 [2,3] (.b (.b .r .r) (.c (db (An r.act 1 2))<|.b (.c (db (An r.chan 0 (m.places.length-1)))<|.b (.c (db (An r.letter 0 (m.letters.length-1))) .r) .r) .r)) (((r.act==0)=true->((r.chan==0)=true->db (r.letter==0)=db (CL m r))/\((r.chan==0)=false->db false=db (CL m r)))/\((r.act==0)=false->F0 66 [di r.act,di 1,di 2] (db (An r.act 1 2))/\(An r.act 1 2=true->F0 102 [di r.chan,di (length (map V.str m.places):Int)] (db (An r.chan 0 ((m.places.length:Int)-1)))/\(An r.chan 0 ((m.places.length:Int)-1)=true->F0 102 [di r.letter,di (length (map V.str m.letters):Int)] (db (An r.letter 0 ((m.letters.length:Int)-1)))/\db (An r.letter 0 ((m.letters.length:Int)-1))=db (CL m r))/\(An r.chan 0 ((m.places.length:Int)-1)=false->db false=db (CL m r)))/\(An r.act 1 2=false->db false=db (CL m r)))) ?_
 refine⟨fun h1=>⟨fun h2=>?_,fun h2=>?_⟩,fun h1=>⟨Cs _ 1 2,fun h2=>⟨by simpa using B4 r.chan m.places.length hm,fun h3=>⟨by simpa using B4 r.letter m.letters.length hl,?_⟩,fun h3=>?_⟩,fun h2=>?_⟩⟩<;>(try simp only[Hw] at*)<;>simp[CL, *]
noncomputable abbrev Abn:Func:= Tryz.f141
theorem S9(a:List Tk):Aa PP 141 [.v (D8 a),.v (D8 [])] σ0 (db (decide (a=[]))) σ0:=by
 refine sv Abn 26 [] (.b .r (.n<|.f .r)) ((((length (map vTk a):Int) !=(length (map vTk []):Int))=true->db false=db (decide (a=[])))/\(((length (map vTk a):Int) !=(length (map vTk []):Int))=false->decide (0<(length (map vTk a):Int))=false/\db true=db (decide (a=[])))) ?_
 refine⟨fun h=>?_,fun h=>?_⟩
 ·have:a≠ []:=by rintro rfl;simp at h
  simp[this]
 ·have:a=[]:=by simpa using h
  subst this
  simp
def B0(a b:Rul):Bool:=(a.name==b.name)&&((a.frm==b.frm)&&((a.to==b.to)&&(decide (a.need=b.need)&&(decide (a.give=b.give)&&(decide (a.move=b.move)&&((a.chan==b.chan)&&((a.act==b.act)&&((a.letter==b.letter)&&(decide (a.path=b.path)&&(decide (a.next=b.next)&&(decide (a.takes=[])&&(decide (a.makes=b.makes)&&(a.second==b.second)))))))))))))
noncomputable abbrev Zs:Func:= Tryz.f110
theorem Ho(a b:Rul)(ha:a.short)(hb:b.takes=[]):Aa PP 110 [BN a,BN b] σ0 (db (B0 a b)) σ0:=by
 refine sv Zs 101 [2,3] (.b (.b (.b (.c (db (decide (a.need=b.need)))<|.b (.c (db (decide (a.give=b.give)))<|.b (.c (db (decide (a.move=b.move)))<|.b (.b (.b (.b (.c (db (decide (a.path=b.path)))<|.b (.c (db (decide (a.next=b.next)))<|.b (.c (db (decide (a.takes=[])))<|.b (.c (db (decide (a.makes=b.makes)))<|.b .r .r) .r) .r) .r) .r) .r) .r) .r) .r) .r) .r) .r) .r) (((a.name==b.name)=true->((a.frm==b.frm)=true->((a.to==b.to)=true->F0 140 [dIs a.need,dIs b.need] (db (decide (a.need=b.need)))/\(decide (a.need=b.need)=true->F0 140 [dIs a.give,dIs b.give] (db (decide (a.give=b.give)))/\(decide (a.give=b.give)=true->F0 140 [dIs a.move,dIs b.move] (db (decide (a.move=b.move)))/\(decide (a.move=b.move)=true->((a.chan==b.chan)=true->((a.act==b.act)=true->((a.letter==b.letter)=true->F0 140 [dIs a.path,dIs b.path] (db (decide (a.path=b.path)))/\(decide (a.path=b.path)=true->F0 140 [dIs a.next,dIs b.next] (db (decide (a.next=b.next)))/\(decide (a.next=b.next)=true->F0 141 [D.v (D8 a.takes),D.v (D8 b.takes)] (db (decide (a.takes=[])))/\(decide (a.takes=[])=true->F0 140 [dIs a.makes,dIs b.makes] (db (decide (a.makes=b.makes)))/\(decide (a.makes=b.makes)=true->db (a.second==b.second)=db (B0 a b))/\(decide (a.makes=b.makes)=false->db false=db (B0 a b)))/\(decide (a.takes=[])=false->db false=db (B0 a b)))/\(decide (a.next=b.next)=false->db false=db (B0 a b)))/\(decide (a.path=b.path)=false->db false=db (B0 a b)))/\((a.letter==b.letter)=false->db false=db (B0 a b)))/\((a.act==b.act)=false->db false=db (B0 a b)))/\((a.chan==b.chan)=false->db false=db (B0 a b)))/\(decide (a.move=b.move)=false->db false=db (B0 a b)))/\(decide (a.give=b.give)=false->db false=db (B0 a b)))/\(decide (a.need=b.need)=false->db false=db (B0 a b)))/\((a.to==b.to)=false->db false=db (B0 a b)))/\((a.frm==b.frm)=false->db false=db (B0 a b)))/\((a.name==b.name)=false->db false=db (B0 a b))) ?_
 repeat' first|with_reducible refine And.intro ?_ ?_|intro _
 all_goals first|exact DH _ _ ha.need|exact DH _ _ ha.give|exact DH _ _ ha.move|exact DH _ _ ha.path|exact DH _ _ ha.next|exact DH _ _ ha.makes|(rw[hb];exact S9 _)|simp[B0, *]
def LM(r:Rul):Rul:={ name:=r.name,frm:=r.frm,to:=r.to,need:=r.need,give:=r.give,move:=r.move,chan:=0,act:=0,letter:=0,path:=[],next:=[],takes:=[],makes:=[],second:=0 }
def Fk(r:Rul):Rul:={ name:=r.name,frm:=r.frm,to:=r.to,need:=[],give:=[],move:=[],chan:=r.chan,act:=r.act,letter:=r.letter,path:=[],next:=[],takes:=[],makes:=[],second:=0 }
noncomputable abbrev Mc:Func:= Tryz.f72
def CR(m:Mod)(r:Rul):Bool:=An r.to 0 (m.states.length-1)&&(An r.frm 0 (m.states.length-1)&&(AY m r&&(Cw m r&&B0 r (LM r))))
structure Mod.short(m:Mod):Prop where
 states:m.states.length<=1000000
 places:m.places.length<=1000000
 letters:m.letters.length<=1000000
 ranks:m.ranks.length<=1000000
 rules:m.rules.length<=1000000
 rule:∀r∈m.rules,r.short
theorem MJ(m:Mod)(hm:m.short)(hk:m.kind=1)(r:Rul)(hr:r.short):Aa PP 72 [Ad m,BN r] σ0 (db (CR m r)) σ0:=by
 refine sv Mc 142 [2,3] (.c (db (An r.to 0 (m.states.length-1)))<|.b .r<|.c (db (An r.frm 0 (m.states.length-1)))<|.b (.t .r)<|.k<|.t<|.c (db (AY m r))<|.b (.c (db (Cw m r))<|.b (.c (db (B0 r (LM r))) .r) .r) .r) (F0 102 [di r.to,di (length (map V.str m.states):Int)] (db (An r.to 0 ((m.states.length:Int)-1)))/\((!An r.to 0 ((m.states.length:Int)-1))=true->db false=db (CR m r))/\((!An r.to 0 ((m.states.length:Int)-1))=false->F0 102 [di r.frm,di (length (map V.str m.states):Int)] (db (An r.frm 0 ((m.states.length:Int)-1)))/\((!An r.frm 0 ((m.states.length:Int)-1))=true->(m.kind !=6)=true/\db false=db (CR m r))/\((!An r.frm 0 ((m.states.length:Int)-1))=false->(m.kind==1)=true/\F0 103 [Ad m,BN r] (db (AY m r))/\(AY m r=true->F0 104 [Ad m,BN r] (db (Cw m r))/\(Cw m r=true->F0 110 [BN r,D.v (V.agg [V.str r.name,vi r.frm,vi r.to,vIs r.need,vIs r.give,vIs r.move,vi 0,vi 0,vi 0,V.list [],V.list [],V.list [],V.list [],vi 0])] (db (B0 r (LM r)))/\db (B0 r (LM r))=db (CR m r))/\(Cw m r=false->db false=db (CR m r)))/\(AY m r=false->db false=db (CR m r))))) ?_
 repeat' first|with_reducible refine And.intro ?_ ?_|intro _
 all_goals first|(simpa using B4 _ _ hm.states)|exact Ow m r hr|exact UM m hm.places r hr|exact Ho r (LM r) hr rfl|simp_all [CR]
def Dm(m:Mod)(r:Rul):Bool:=An r.to 0 (m.states.length-1)&&(An r.frm 0 (m.states.length-1)&&(CL m r&&B0 r (Fk r)))
theorem MI(m:Mod)(hm:m.short)(hk:m.kind=2∨m.kind=3)(r:Rul)(hr:r.short):Aa PP 72 [Ad m,BN r] σ0 (db (Dm m r)) σ0:=by
 refine sv Mc 142 [2,3] (.c (db (An r.to 0 (m.states.length-1)))<|.b .r<|.c (db (An r.frm 0 (m.states.length-1)))<|.b (.t .r)<|.k<|.f<|.b (.k<|.c (db (CL m r))<|.b (.c (db (B0 r (Fk r))) .r) .r) (.t<|.c (db (CL m r))<|.b (.c (db (B0 r (Fk r))) .r) .r)) (F0 102 [di r.to,di (length (map V.str m.states):Int)] (db (An r.to 0 ((m.states.length:Int)-1)))/\((!An r.to 0 ((m.states.length:Int)-1))=true->db false=db (Dm m r))/\((!An r.to 0 ((m.states.length:Int)-1))=false->F0 102 [di r.frm,di (length (map V.str m.states):Int)] (db (An r.frm 0 ((m.states.length:Int)-1)))/\((!An r.frm 0 ((m.states.length:Int)-1))=true->(m.kind !=6)=true/\db false=db (Dm m r))/\((!An r.frm 0 ((m.states.length:Int)-1))=false->(m.kind==1)=false/\((m.kind==2)=true->F0 105 [Ad m,BN r] (db (CL m r))/\(CL m r=true->F0 110 [BN r,D.v (V.agg [V.str r.name,vi r.frm,vi r.to,V.list [],V.list [],V.list [],vi r.chan,vi r.act,vi r.letter,V.list [],V.list [],V.list [],V.list [],vi 0])] (db (B0 r (Fk r)))/\db (B0 r (Fk r))=db (Dm m r))/\(CL m r=false->db false=db (Dm m r)))/\((m.kind==2)=false->(m.kind==3)=true/\F0 105 [Ad m,BN r] (db (CL m r))/\(CL m r=true->F0 110 [BN r,D.v (V.agg [V.str r.name,vi r.frm,vi r.to,V.list [],V.list [],V.list [],vi r.chan,vi r.act,vi r.letter,V.list [],V.list [],V.list [],V.list [],vi 0])] (db (B0 r (Fk r)))/\db (B0 r (Fk r))=db (Dm m r))/\(CL m r=false->db false=db (Dm m r)))))) ?_
 repeat' first|with_reducible refine And.intro ?_ ?_|intro _
 all_goals first|(simpa using B4 _ _ hm.states)|exact Th m hm.places hm.letters r|exact Ho r (Fk r) hr rfl|(rcases hk with hk|hk<;>simp_all [Dm])
end Go.Proofs.YtpmahmngmgnnbaaGreatDoor

namespace Go.Nv
open Go.Dv
open Go.IntKind (wrap)
abbrev CS(m r:Nat)(l:List (List UInt8))(E0 E:Ent):Prop:=Mw r (Ch l) E0 E/\E.g.n<=m
theorem Zm(m r:Nat)(l:List (List UInt8)):FS (CS m r l):=⟨fun h _ _ _ hw=>h.1.link _ _ _ hw⟩
section
variable {P : Program} {R : List D -> St -> Prop} {k : List KI} {env : List D} {σ : St} {ops : Array Oper} {L : List Oper} {o : Oper}
theorem OG{m:Nat}(t:Nat){ty:TypeId}(hg:BP env ops o=some true)(ht:o.dst=some t)(hop:o.op=.makeMap ty none)
  (hk:∀r:Nat,AK (CS σ.H.length r []) P R k ops L (env.set t (.raw (.map (some r)))) σ):AK (CN m) P R k ops (o::L) env σ:=by
 intro E0 E g a w B hC hf hB
 unfold wpList
 rw[HJ (BH hf.env hg)]
 refine .inl ?_
 have hw:=(MV m).ok hC hf.wi
 have hput:=hf.put (hf.wi.alloc (.map #[] 0)) g.le_refl (d:=.raw (.map (some w.heap.size))) (u:=.map (some w.heap.size)) (by simp only[Ac]) (some t)
 have hsize:(w.alloc (.map #[] 0)).heap.size=w.heap.size+1:=by simp
 obtain⟨h1,h2⟩:=Mw.of (r:=w.heap.size) (ob:=.map #[] 0) (w1:=w.alloc (.map #[] 0)) hw
  (fun b hb=>by
   by_cases hlt:b<w.heap.size
   ·exact heap_alloc_old w _ b hlt
   ·rw[Array.getElem?_eq_none (by omega),Array.getElem?_eq_none (by omega)])
  (heap_alloc_new w _) (by omega) rfl rfl rfl hw.size (hw.rep.new_none (H5 _)) (fun i cs hi=>Nat.ne_of_lt (hw.rep.obj_lt hi)) (fun x hx u hu hb=>by have:=hw.rep.own_lt hx hu hb;omega)
 have:=hk w.heap.size E0 _ g _ _ B ⟨h1,Nat.le_of_eq hw.rep.n⟩ ⟨h2,hput.env,hput.defers⟩ hB
 unfold Oper.wp execOp
 simpa[hop,Instr.makeMap,ht,Oper.upon] using this
theorem Ra{m:Nat}(t sm sk:Nat){ty kt et:TypeId}{r:Nat}{s:List UInt8}{l:List (List UInt8)}{inf:TypeInfo}(hg:BP env ops o=some true)(ht:o.dst=some t)(hop:o.op=.lookup ty (.tmp sm) (.tmp sk) false)
  (hty:P.underlying ty=some (.map kt et)) (hkt:P.underlying kt=some .string) (hi:P.info? et=some inf) (hz:inf.zero=some (.bool false)) (hm:env[sm]?=some (.raw (.map (some r)))) (hs:env[sk]?=some (.v (.str s)))
  (hk:AK (CS m r l) P R k ops L (env.set t (.v (.bool (l.contains s)))) σ):AK (CS m r l) P R k ops (o::L) env σ:=by
 intro E0 E g a w B hC hf hB
 unfold wpList
 rw[HJ (BH hf.env hg)]
 refine .inl ?_
 have e1:a.eval (.tmp sm)=.map (some r):=by have:=Cl hf.env sm;rw[Fu hm] at this;simpa only[Ac] using this
 have e2:a.eval (.tmp sk)=.string ⟨s.toArray⟩:=by have:=Cl hf.env sk;rw[Fu hs] at this;simpa only[Ac,AI] using this
 have hnow:=(hC.1.side.now hf.wi).1
 obtain⟨q,hq⟩:=KM s l 0 0
 have:=hk E0 E g _ _ B hC (hf.put hf.wi g.le_refl (d:=.v (.bool (l.contains s))) (u:=.bool (l.contains s)) (by simp[Ac]) (some t)) hB
 have hrun:(Instr.lookup ty (.map (some r)) (.string ⟨s.toArray⟩) false).run P w=.ok (.bool (l.contains s)) w:=by
  have hget:(getObj r).run P w=.ok (Ch l) w:=by simp[getObj,Sem.run,hnow,Ch]
  have hfk:(Instr.findKey kt (.string ⟨s.toArray⟩) (DI 0 l)).run P w=.ok (if l.contains s then some (q,.bool true) else none) w:=by simp only[Instr.findKey,Sem.run_bind,run_underlying hkt,Result.andThen_ok,hq,Sem.run_pure]
  have hck:∀b,(Instr.checkKey b 10000 kt (.string ⟨s.toArray⟩)).run P w=.ok () w:=fun b=>by
   rw[show(10000:Nat)=9999+1 from rfl];unfold Instr.checkKey;simp[run_underlying hkt]
  unfold Instr.lookup
  simp only[Sem.run_bind,run_underlying hty,Result.andThen_ok,hget,Ch,Sem.run_pure,hck,hfk]
  cases hc:l.contains s with
  |true=>simp
  |false=>simp[zeroValue,typeInfo,hi,hz]
 unfold Oper.wp execOp
 simp only[hop,e1,e2,Sem.run_bind,hrun,Result.andThen_ok]
 simp only[Sem.run_pure,Oper.upon,ht]
 exact this
theorem QZ{m:Nat}(sm sk:Nat){v:Operand}{ty kt et:TypeId}{r:Nat}{s:List UInt8}{l:List (List UInt8)}(hg:BP env ops o=some true)(ht:o.dst=none)(hop:o.op=.mapUpdate ty (.tmp sm) (.tmp sk) v)(hv:evD env v=.v (.bool true))
  (hty:P.underlying ty=some (.map kt et)) (hkt:P.underlying kt=some .string) (hm:env[sm]?=some (.raw (.map (some r)))) (hs:env[sk]?=some (.v (.str s))) (hnew:l.contains s=false)
  (hk:AK (CS σ.H.length r (l++[s])) P R k ops L env σ):AK (CS m r l) P R k ops (o::L) env σ:=by
 intro E0 E g a w B hC hf hB
 unfold wpList
 rw[HJ (BH hf.env hg)]
 refine .inl ?_
 have e1:a.eval (.tmp sm)=.map (some r):=by have:=Cl hf.env sm;rw[Fu hm] at this;simpa only[Ac] using this
 have e2:a.eval (.tmp sk)=.string ⟨s.toArray⟩:=by have:=Cl hf.env sk;rw[Fu hs] at this;simpa only[Ac,AI] using this
 have e3:a.eval v=.bool true:=by have:=G1 hf.wi.rep.gl hf.env v;rw[hv] at this;simpa only[Ac,Cq] using this
 obtain⟨hnow,hM,hobj,hown⟩:=hC.1.side.now hf.wi
 obtain⟨q,hq⟩:=KM s l 0 0
 rw[hnew] at hq
 have hlt:r<w.heap.size:=(Ir.1 hnow).1
 obtain⟨h1,h2⟩:=Mw.of (r:=r) (ob:=Ch (l++[s])) (w1:={ w with heap:=w.heap.setIfInBounds r (Ch (l++[s]))}) (hC.1.link _ _ _ hf.wi) (fun b hb=>by simp[Ne.symm hb]) (by simp[hlt]) (by simp) rfl rfl rfl hC.1.new hM hobj hown
 have:=hk E0 _ g a _ B ⟨h1,Nat.le_of_eq hf.wi.rep.n⟩ ⟨h2,hf.env,hf.defers⟩ hB
 have hrun:(Instr.mapUpdate ty (.map (some r)) (.string ⟨s.toArray⟩) (.bool true)).run P w=.ok () { w with heap:=w.heap.setIfInBounds r (Ch (l++[s]))}:=by
  have hget:(getObj r).run P w=.ok (Ch l) w:=by simp[getObj,Sem.run,hnow,Ch]
  have hfk:(Instr.findKey kt (.string ⟨s.toArray⟩) (DI 0 l)).run P w=.ok none w:=by simp only[Instr.findKey,Sem.run_bind,run_underlying hkt,Result.andThen_ok,hq,Sem.run_pure];rfl
  have hck:∀b,(Instr.checkKey b 10000 kt (.string ⟨s.toArray⟩)).run P w=.ok () w:=fun b=>by
   rw[show(10000:Nat)=9999+1 from rfl];unfold Instr.checkKey;simp[run_underlying hkt]
  have hset:∀ob,(setObj r ob).run P w=.ok () { w with heap:=w.heap.setIfInBounds r ob }:=fun ob=>by simp[setObj,Sem.run,hnow,Ch]
  unfold Instr.mapUpdate
  simp only[Sem.run_bind,run_underlying hty,Result.andThen_ok,hget,Ch,hck,hfk]
  rw[hset]
  congr 3
  rw[J0]
  simp
 unfold Oper.wp execOp
 simp only[hop,e1,e2,e3,Sem.run_bind,hrun,Result.andThen_ok]
 simp only[Sem.run_pure,Oper.upon,ht]
 exact this
end
def hdO(L:List Oper):Oper:=match L with
 |o::_=>o
 |[]=>⟨none,.makeMap 0 none,0,"", #[],none⟩
theorem S1{L:List Oper}(h:L.isEmpty=false):L=hdO L::L.tail:=by cases L with
 |nil=>simp at h
 |cons o L=>rfl
def mmQ:Op->Bool|.makeMap _ none=>true|_=>false
def mtQ:Op->TypeId|.makeMap t _=>t|.lookup t _ _ _=>t|.mapUpdate t _ _ _=>t|_=>0
def luQ(sm sk:Nat):Op->Bool|.lookup _ (.tmp a) (.tmp b) false=>a==sm&&b==sk|_=>false
def muQ(sm sk:Nat):Op->Bool|.mapUpdate _ (.tmp a) (.tmp b) (.const (.bool true))=>a==sm&&b==sk|_=>false
theorem Zj{o:Op}(h:mmQ o=true):o=.makeMap (mtQ o) none:=by
 unfold mmQ at h;split at h
 ·rfl
 ·exact absurd h (by simp)
theorem Zl{sm sk:Nat}{o:Op}(h:luQ sm sk o=true):o=.lookup (mtQ o) (.tmp sm) (.tmp sk) false:=by
 unfold luQ at h;split at h
 ·simp at h;simp[mtQ,h]
 ·exact absurd h (by simp)
theorem Zh{sm sk:Nat}{o:Op}(h:muQ sm sk o=true):o=.mapUpdate (mtQ o) (.tmp sm) (.tmp sk) (.const (.bool true)):=by
 unfold muQ at h;split at h
 ·simp at h;simp[mtQ,h]
 ·exact absurd h (by simp)
def smQ(P:Program)(ty:TypeId):Bool:=match P.underlying ty with
 |some (.map kt et)=>(match P.underlying kt with
  |some .string=>true
  |_=>false)&&(match P.info? et with
  |some inf=>(match inf.zero with
   |some (.bool false)=>true
   |_=>false)
  |_=>false)
 |_=>false
theorem VT{P:Program}{ty:TypeId}(h:smQ P ty=true):∃kt et inf,P.underlying ty=some (.map kt et)/\P.underlying kt=some .string/\P.info? et=some inf/\inf.zero=some (.bool false):=by
 unfold smQ at h
 split at h
 ·rename_i kt et h1
  simp only[Hy] at h
  obtain⟨h2,h3⟩:=h
  split at h2
  ·rename_i h4
   split at h3
   ·rename_i inf h5
    split at h3
    ·rename_i h6
     exact⟨kt,et,inf,h1,h4,h5,h6⟩
    ·exact absurd h3 (by simp)
   ·exact absurd h3 (by simp)
  ·exact absurd h2 (by simp)
 ·exact absurd h (by simp)
theorem Oe(n:Nat)(E:List (Nat×D))(t:Nat)(d:D):mkE n (E++[(t,d)])=(mkE n E).set t d:=by simp[mkE,List.foldl_append]
section
variable {P : Program} {R : List D -> St -> Prop} {k : List KI} {nt : Nat} {E : List (Nat × D)} {σ : St} {ops : Array Oper} {L0 : List Oper}
theorem MH{m:Nat}(t:Nat)(h0:L0.isEmpty=false)(hg:BP (mkE nt E) ops (hdO L0)=some true)(ht:(hdO L0).dst=some t)(hop:mmQ (hdO L0).op=true)
  (hk:∀r:Nat,AK (CS σ.H.length r []) P R k ops L0.tail (mkE nt (E++[(t,.raw (.map (some r)))])) σ):AK (CN m) P R k ops L0 (mkE nt E) σ:=by
 rw[S1 h0]
 exact OG t hg ht (Zj hop) fun r=>by rw[←Oe];exact hk r
theorem OH{m:Nat}(t sm sk:Nat){r:Nat}{s:List UInt8}{l:List (List UInt8)}(h0:L0.isEmpty=false)(hg:BP (mkE nt E) ops (hdO L0)=some true)(ht:(hdO L0).dst=some t)(hop:luQ sm sk (hdO L0).op=true)
  (hty:smQ P (mtQ (hdO L0).op)=true) (hm:(mkE nt E)[sm]?=some (.raw (.map (some r)))) (hs:(mkE nt E)[sk]?=some (.v (.str s)))
  (hk:AK (CS m r l) P R k ops L0.tail (mkE nt (E++[(t,.v (.bool (l.contains s)))])) σ):AK (CS m r l) P R k ops L0 (mkE nt E) σ:=by
 obtain⟨kt,et,inf,h1,h2,h3,h4⟩:=VT hty
 rw[S1 h0]
 exact Ra t sm sk hg ht (Zl hop) h1 h2 h3 h4 hm hs (by rw[←Oe];exact hk)
theorem OD{m:Nat}(sm sk:Nat){r:Nat}{s:List UInt8}{l:List (List UInt8)}(h0:L0.isEmpty=false)(hg:BP (mkE nt E) ops (hdO L0)=some true)(ht:(hdO L0).dst=none)(hop:muQ sm sk (hdO L0).op=true)
  (hty:smQ P (mtQ (hdO L0).op)=true) (hm:(mkE nt E)[sm]?=some (.raw (.map (some r)))) (hs:(mkE nt E)[sk]?=some (.v (.str s))) (hnew:l.contains s=false)
  (hk:AK (CS σ.H.length r (l++[s])) P R k ops L0.tail (mkE nt E) σ):AK (CS m r l) P R k ops L0 (mkE nt E) σ:=by
 obtain⟨kt,et,inf,h1,h2,h3,h4⟩:=VT hty
 rw[S1 h0]
 exact QZ sm sk hg ht (Zh hop) rfl h1 h2 hm hs hnew hk
end
section
variable {P : Program} {fn : Func} {d : D} {σ' : St} {m r : Nat} {l : List (List UInt8)} {k : List KI} {E : List (Nat × D)} {σ : St}
theorem Ri(hm:P.follows .mixedOrders=true)(nt:Nat)(im:List Nat)(rg i:Nat){ops:Array Oper}{L:List Oper}(s:Sc)
  (h:AH (mkE nt E) fun env=>PN P im rg ops (fun L sl σ=>It (AK (CS m r l) P (fun env σ1=>A2 P fn env σ1 d σ') (k++[]) ops L (mkE nt sl) σ)) L i s env σ fun s env σ=>vc (CS m r l) m P (fun env σ1=>A2 P fn env σ1 d σ') (Q4 P fn.results.toList d σ') nt im [] 10000 s k env σ):
  AK (CS m r l) P (fun env σ1=>A2 P fn env σ1 d σ') k ops L (mkE nt E) σ:=by
 have:=F7 hm (Zm m r l) m (fun _ _ h=>h.2) nt im rg i s h
 rwa[Il] at this
theorem YJ(hm:P.follows .mixedOrders=true)(nt:Nat)(im:List Nat)(s:Sc)
  (h:AH (mkE nt E) fun env=>vc (CS m r l) m P (fun env σ1=>A2 P fn env σ1 d σ') (Q4 P fn.results.toList d σ') nt im [] 10000 (.h .n s) k env σ):
  A9 (CS m r l) P (fun env σ1=>A2 P fn env σ1 d σ') k (mkE nt E) σ:=by
 have:=VU (T:=[]) hm (Zm m r l) m (fun _ _ h=>h.2) nt im (.h .n s) h
 rwa[Il] at this
end
end Go.Nv

namespace Go.Proofs.YtpmahmngmgnnbaaGreatDoor
open Go.Dv Go.Nv
set_option maxRecDepth 20000
open List (all_cons headD length map replicate take)
open Go.IntKind (wrap)
noncomputable abbrev Ab8:Func:= Tryz.f128
noncomputable abbrev AbA:Func:= Tryz.f160
noncomputable abbrev Aa6:Func:= Tryz.f130
def FM(c:UInt8):Bool:=decide ((c.toNat:Int)>=97)&&decide ((c.toNat:Int)<=122)
def Ts(c:UInt8):Bool:=decide ((c.toNat:Int)>=48)&&decide ((c.toNat:Int)<=57)
def CA(c:UInt8):Bool:=FM c||(Ts c||((c.toNat:Int)==95))
theorem Og(c:UInt8):Aa PP 128 [.v (vb c)] σ0 (db (FM c)) σ0:=by
 refine sv Ab8 9 [] (.b .r .r) ((decide ((↑(UInt8.toNat c):Int)>=97)=true->db (decide ((↑(UInt8.toNat c):Int)<=122))=db (FM c))/\(decide ((↑(UInt8.toNat c):Int)>=97)=false->db false=db (FM c))) ?_
 refine⟨fun h=>?_,fun h=>?_⟩<;>simp[FM, *]
theorem Vx(c:UInt8):Aa PP 160 [.v (vb c)] σ0 (db (Ts c)) σ0:=by
 refine sv AbA 9 [] (.b .r .r) ((decide ((↑(UInt8.toNat c):Int)>=48)=true->db (decide ((↑(UInt8.toNat c):Int)<=57))=db (Ts c))/\(decide ((↑(UInt8.toNat c):Int)>=48)=false->db false=db (Ts c))) ?_
 refine⟨fun h=>?_,fun h=>?_⟩<;>simp[Ts, *]
theorem R5(c:UInt8):Aa PP 130 [.v (vb c)] σ0 (db (CA c)) σ0:=by
 refine sv Aa6 13 [] (.c (db (FM c))<|.b .r<|.c (db (Ts c))<|.b .r .r) (F0 128 [D.v (V.int IntKind.u8 (↑(UInt8.toNat c):Int))] (db (FM c))/\(FM c=true->db true=db (CA c))/\(FM c=false->F0 160 [D.v (V.int IntKind.u8 (↑(UInt8.toNat c):Int))] (db (Ts c))/\(Ts c=true->db true=db (CA c))/\(Ts c=false->db ((↑(UInt8.toNat c):Int)==95)=db (CA c)))) ?_
 refine⟨Og c,fun h=>?_,fun h=>⟨Vx c,fun h2=>?_,fun h2=>?_⟩⟩<;>simp[CA, *]
noncomputable abbrev Zv:Func:= Tryz.f129
noncomputable def Ys:Code:=Zv.body.getD .skip
def EN(p:UInt8->Bool):List UInt8->Nat
 |[]=>0
 |c::s=>if p c then EN p s+1 else 0
theorem run_loop(F:FuncId)(p:UInt8->Bool)(s:List UInt8)(hs:s.length<=1000000)(hp:∀c∈s,Aa PP F [.v (vb c)] σ0 (db (p c)) σ0)(n:Nat):∀k:Nat,s.length-k=n->k<=s.length->
  Rn PP Zv 0 (di ((k+EN p (s.drop k):Nat):Int)) σ0 ([.lp (sub Ys [1,1,0,0,0]),.blk 0,.code (sub Ys [1,1,1])]++[]) (mkE 20 [(0,ds s),(1,.v (.fn F [] [])),(5,di k)]) σ0:=by
 induction n using Nat.strongRecOn with
 |_ n ih=>
 intro k hn hk0
 refine lv 20 [] (.b (.e fun c:UInt8=>.y c<|.c (db (p c))<|.b (.l [ke 0,ke 1,ch 5 (di (k+1:Nat))]) .r) (.k .r)) ((decide ((k:Int)<(s.length:Int))=true->∃a,0<=(k:Int)/\s[Int.toNat (k:Int)]?=some a/\Aa PP F [D.v (V.int IntKind.u8 (↑(UInt8.toNat a):Int))] (St.mk [] []) (db (p a)) (St.mk [] [])/\(p a=true->di (wrap IntKind.i64 ((k:Int)+1))=di (↑(k+1):Int)/\Nv.It (A9 (CN 0) PP (fun env σ1=>A2 PP Zv env σ1 (di (↑(k+EN p (List.drop k s)):Int)) σ0) [kl Ys [1,1,0,0,0],KI.blk 0,kc Ys [1,1,1]] (mkE 20 [(0,D.v (V.str s)),(1,D.v (V.fn F [] [])),(5,di (↑(k+1):Int))]) σ0))/\(p a=false->di (k:Int)=di (↑(k+EN p (List.drop k s)):Int)))/\(decide ((k:Int)<(s.length:Int))=false->di (k:Int)=di (↑(k+EN p (List.drop k s)):Int))) ?_
 refine⟨fun h=>?_,fun h=>?_⟩
 ·have hk:k<s.length:=by simpa using h
  have hx:s[k]?=some s[k]:=Hx hk
  have hih:=ih (s.length- (k+1)) (by omega) (k+1) rfl hk
  rw[HD hk]
  generalize s[k]=c at hx⊢
  refine⟨c,by omega,by simpa using hx,by simpa using hp c (H4 hx),fun h2=>⟨Ae (by omega),⟨?_⟩⟩,fun h2=>?_⟩
  ·simp only[EN,h2,I6]
   rw[show k+(EN p (s.drop (k+1))+1)=k+1+EN p (s.drop (k+1)) by omega]
   exact hih
  ·simp[EN,h2]
 ·have hk:s.length<=k:=by simpa using h
  rw[HI hk];simp[EN]
theorem Uf(F:FuncId)(p:UInt8->Bool)(s:List UInt8)(hs:s.length<=1000000)(hp:∀c∈s,Aa PP F [.v (vb c)] σ0 (db (p c)) σ0):Aa PP 129 [ds s,.v (.fn F [] [])] σ0 (di (EN p s)) σ0:=by
 refine sv Zv 20 [] (.l [ke 0,ke 1,ch 5 (di (0:Nat))]) (di 0=di (↑0:Int)/\I0 Zv σ0.H.length (di (↑(EN p s):Int)) σ0 [kl Ys [1,1,0,0,0],KI.blk 0,kc Ys [1,1,1]] (mkE 20 [(0,D.v (V.str s)),(1,D.v (V.fn F [] [])),(5,di (↑0:Int))]) σ0) ?_
 refine⟨rfl,⟨?_⟩⟩
 have:=run_loop F p s hs hp _ 0 rfl (by omega)
 simpa using this
noncomputable abbrev Aa0:Func:= Tryz.f99
def CM(s:List UInt8):Bool:=(s !=[])&&(decide ((s.length:Int)<=12)&&(FM (s.headD 0)&&((EN CA s:Int)==s.length)))
theorem Xb{s:List UInt8}(h:decide ((s.length:Int)<=12)=true):s.length<=1000000:=by
 have h:=H9 h
 omega
theorem PW(s:List UInt8):Aa PP 99 [ds s] σ0 (db (CM s)) σ0:=by
 refine sv Aa0 22 [] (.b (.b (.y (s.headD 0)<|.c (db (FM (s.headD 0)))<|.b (.c (di (EN CA s)) .r) .r) .r) .r) (((!s==(ByteArray.mk #[]).data.toList)=true->(decide ((s.length:Int)<=12)=true->iz 0<=0/\s[Int.toNat 0]?=some (headD s 0)/\F0 128 [D.v (V.int IntKind.u8 (↑(UInt8.toNat (headD s 0)):Int))] (db (FM (headD s 0)))/\(FM (headD s 0)=true->F0 129 [D.v (V.str s),D.v (V.fn 130 [] [])] (di (↑(EN CA s):Int))/\db ((↑(EN CA s):Int)==(s.length:Int))=db (CM s))/\(FM (headD s 0)=false->db false=db (CM s)))/\(decide ((s.length:Int)<=12)=false->db false=db (CM s)))/\((!s==(ByteArray.mk #[]).data.toList)=false->db false=db (CM s))) ?_
 refine⟨fun h1=>⟨fun h2=>⟨by simp,?_,Og _,fun h3=>⟨Uf _ CA s (Xb h2) fun c _=>R5 c,?_⟩,fun h3=>?_⟩,fun h2=>?_⟩,fun h1=>?_⟩
 ·cases s with
  |nil=>simp[Aac] at h1
  |cons a s=>rfl
 all_goals simp_all [CM]
 all_goals omega
theorem BA{l:List (List UInt8)}{k:Nat}{s:List UInt8}(h:l[k]?=some s):(l.map V.str)[Int.toNat (k:Int)]?=some (.str s):=by simp[h]
noncomputable abbrev Z7:Func:= Tryz.f161
noncomputable def Yx:Code:=Z7.body.getD .skip
theorem Ve(l:List (List UInt8))(v:List UInt8)(hl:l.length<=1000000)(n:Nat):∀k:Nat,l.length-k=n->
  Rn PP Z7 0 (di (ixM (· ==v) (l.drop k) k)) σ0 ([.lp (sub Yx [1,0,1,0,0]),.blk 0,.code (sub Yx [1,1])]++[]) (mkE 19 [(0,dl (l.map V.str)),(1,.v (V.str v)),(7,di l.length),(8,di k)]) σ0:=by
 induction n using Nat.strongRecOn with
 |_ n ih=>
 intro k hn
 refine lv 19 [] (.b (.e fun x:List UInt8=>.x (V.str x)<|.b .r (.l [ke 0,ke 1,ke 7,ch 8 (di (k+1:Nat))])) .r) ((decide ((k:Int)<(l.length:Int))=true->∃a,0<=(k:Int)/\(map V.str l)[Int.toNat (k:Int)]?=some (V.str a)/\((v==a)=true->di (k:Int)=di (ixM (fun x=>x==v) (List.drop k l) k))/\((v==a)=false->di (wrap IntKind.i64 ((k:Int)+1))=di (↑(k+1):Int)/\Nv.It (A9 (CN 0) PP (fun env σ1=>A2 PP Z7 env σ1 (di (ixM (fun x=>x==v) (List.drop k l) k)) σ0) [kl Yx [1,0,1,0,0],KI.blk 0,kc Yx [1,1]] (mkE 19 [(0,D.v (V.list (map V.str l))),(1,D.v (V.str v)),(7,di (l.length:Int)),(8,di (↑(k+1):Int))]) σ0)))/\(decide ((k:Int)<(l.length:Int))=false->di (-1)=di (ixM (fun x=>x==v) (List.drop k l) k))) ?_
 refine⟨fun h=>?_,fun h=>?_⟩
 ·have hk:k<l.length:=by simpa using h
  have hx:l[k]?=some l[k]:=Hx hk
  rw[HD hk]
  generalize l[k]=x at hx⊢
  refine⟨x,by omega,BA hx,fun hf=>?_,fun hf=>⟨Ae (by omega),⟨?_⟩⟩⟩
  ·have:v=x:=by simpa using hf
   subst this;simp[ixM]
  ·have h2:v≠x:=by simpa using hf
   have:(x==v)=false:=by simpa using fun e=>h2 e.symm
   simp only[ixM,this]
   exact ih (l.length- (k+1)) (by omega) (k+1) rfl
 ·have hk:l.length<=k:=by simpa using h
  rw[HI hk];rfl
theorem Vd(l:List (List UInt8))(v:List UInt8)(hl:l.length<=1000000):Aa PP 161 [dl (l.map V.str),.v (V.str v)] σ0 (di (ixM (· ==v) l 0)) σ0:=by
 refine sv Z7 19 [] (.l [ke 0,ke 1,ch 7 (di l.length),ch 8 (di (0:Nat))]) (di (length (map V.str l):Int)=di (l.length:Int)/\di 0=di (↑0:Int)/\I0 Z7 σ0.H.length (di (ixM (fun x=>x==v) l 0)) σ0 [kl Yx [1,0,1,0,0],KI.blk 0,kc Yx [1,1]] (mkE 19 [(0,dl (map V.str l)),(1,D.v (V.str v)),(7,di (l.length:Int)),(8,di (↑0:Int))]) σ0) ?_
 refine⟨by simp,rfl,⟨?_⟩⟩
 exact Ve l v hl _ 0 rfl
noncomputable abbrev AaI:Func:= Tryz.f131
theorem SN(l:List (List UInt8))(v:List UInt8)(hl:l.length<=1000000):Aa PP 131 [dl (l.map V.str),.v (V.str v)] σ0 (db (l.any (· ==v))) σ0:=by
 refine sv AaI 9 [] (.c (di (ixM (· ==v) l 0)) .r) (F0 161 [D.v (V.list (map V.str l)),D.v (V.str v)] (di (ixM (fun x=>x==v) l 0))/\db (decide (ixM (fun x=>x==v) l 0>=0))=db (List.any l fun x=>x==v)) ?_
 exact⟨Vd l v hl,by rw[←FD]⟩
def Yl:List (List UInt8):=[[109,111,100,101,108],[115,116,97,116,101,115],[112,108,97,99,101,115],[108,101,116,116,101,114,115],[108,101,118,101,108,115],[97,103,101],[114,117,108,101],[110,101,101,100],[103,105,118,101],[109,111,118,101],[101,109,112,116,121],[115,101,110,100],[114,101,99,101,105,118,101],[112,97,116,104],[110,101,120,116],[116,97,107,101],[109,97,107,101],[115,116,97,114,116]]
def Pw(s:List UInt8):Bool:=Yl.any (· ==s)
noncomputable abbrev fKw:Func:= Tryz.f100
theorem XC(s:List UInt8):Aa PP 100 [ds s] σ0 (db (Pw s)) σ0:=by
 refine sv fKw 6 [] (.c (db (Pw s)) .r) (F0 131 [D.v (V.list [V.str (ByteArray.mk #[109,111,100,101,108]).data.toList,V.str (ByteArray.mk #[115,116,97,116,101,115]).data.toList,V.str (ByteArray.mk #[112,108,97,99,101,115]).data.toList,V.str (ByteArray.mk #[108,101,116,116,101,114,115]).data.toList,V.str (ByteArray.mk #[108,101,118,101,108,115]).data.toList,V.str (ByteArray.mk #[97,103,101]).data.toList,V.str (ByteArray.mk #[114,117,108,101]).data.toList,V.str (ByteArray.mk #[110,101,101,100]).data.toList,V.str (ByteArray.mk #[103,105,118,101]).data.toList,V.str (ByteArray.mk #[109,111,118,101]).data.toList,V.str (ByteArray.mk #[101,109,112,116,121]).data.toList,V.str (ByteArray.mk #[115,101,110,100]).data.toList,V.str (ByteArray.mk #[114,101,99,101,105,118,101]).data.toList,V.str (ByteArray.mk #[112,97,116,104]).data.toList,V.str (ByteArray.mk #[110,101,120,116]).data.toList,V.str (ByteArray.mk #[116,97,107,101]).data.toList,V.str (ByteArray.mk #[109,97,107,101]).data.toList,V.str (ByteArray.mk #[115,116,97,114,116]).data.toList]),D.v (V.str s)] (db (Pw s))/\Q (db (Pw s))) ?_
 exact⟨SN Yl s (by decide),rfl⟩
noncomputable abbrev S4:Func:= Tryz.f69
noncomputable def Da:Code:=S4.body.getD .skip
def nmB(used:List (List UInt8)):List (List UInt8)->Bool
 |[]=>true
 |s::l=>CM s&&(!Pw s&&(!used.contains s&&nmB (used++[s]) l))
def Bz(m:Mod):List (List UInt8):=[m.states,m.places,m.letters].flatten
def Dp(m:Mod):List (List UInt8):=Bz m++m.rules.map Rul.name
def Cu(m:Mod):Bool:=nmB [] (Dp m)
abbrev Hb(l:List (List UInt8)):D:=.acc 1 (l.map V.str)
abbrev To(l:List (List UInt8)):St:=⟨[],[(1,1,l.map V.str)]⟩
theorem Sg(r:Nat)(l:List (List UInt8))(hl:l.length<=1000000)(n:Nat):∀k:Nat,l.length-k=n->k<=l.length->
  A9 (CS 0 r (l.take k)) PP (fun env σ1=>A2 PP S4 env σ1 (db (nmB (l.take k) (l.drop k))) σ0) [.lp (sub Da [1,1,1,1,0,1,0,0]),.blk 2,.code (sub Da [1,1,1,1,1])] (mkE 52 [(3,.raw (.map (some r))),(31,dl (l.map V.str)),(32,di l.length),(33,di k)]) σ0:=by
 induction n using Nat.strongRecOn with
 |_ n ih=>
 intro k hn hk0
 refine YJ mixed 52 [1] (.b (.e fun s:List UInt8=>.x (.str s)<|.c (db (CM s))<|.b .r (.c (db (Pw s))<|.b .r (.h (.q 11 10)<|.h (.s [ke 3,ke 8,ke 31,ke 32,ke 33,ke 44,ke 45,ke 46]) .z))) .r) ?_
 refine via (by kernel_rfl:((decide ((k:Int)<(l.length:Int))=true->∃a,0<=(k:Int)/\(map V.str l)[Int.toNat (k:Int)]?=some (V.str a)/\Aa PP 99 [D.v (V.str a)] (St.mk [] []) (db (CM a)) (St.mk [] [])/\((!CM a)=true->db false=db (nmB (take k l) (List.drop k l)))/\((!CM a)=false->Aa PP 100 [D.v (V.str a)] (St.mk [] []) (db (Pw a)) (St.mk [] [])/\(Pw a=true->db false=db (nmB (take k l) (List.drop k l)))/\(Pw a=false->Nv.It (AK (CS 0 r (take k l)) PP (fun env σ1=>A2 PP S4 env σ1 (db (nmB (take k l) (List.drop k l))) σ0) [kc Da [1,1,1,1,0,1,0,0,1,1,0,0,1,0,1],kc Da [1,1,1,1,0,1,0,0,1,1,0,0,1,1],KI.blk 3,kc Da [1,1,1,1,0,1,0,0,1,1,1],kl Da [1,1,1,1,0,1,0,0],KI.blk 2,kc Da [1,1,1,1,1]] (BF (sub Da [1,1,1,1,0,1,0,0,1,1,0,0,1,0,0])) (List.drop 10 (BF (sub Da [1,1,1,1,0,1,0,0,1,1,0,0,1,0,0])).toList) (mkE 52 [(3,D.raw (Value.map (some r))),(8,D.v (V.str a)),(31,D.v (V.list (map V.str l))),(32,di (l.length:Int)),(33,di (k:Int)),(44,db false),(45,D.raw (Value.map (some r))),(46,D.v (V.str a))]) σ0))))/\(decide ((k:Int)<(l.length:Int))=false->db true=db (nmB (take k l) (List.drop k l))))=_) ?_
 refine⟨fun h=>?_,fun h=>?_⟩
 ·have hk:k<l.length:=by simpa using h
  have hx:l[k]?=some l[k]:=Hx hk
  have hih:=ih (l.length- (k+1)) (by omega) (k+1) rfl hk
  rw[List.take_succ_eq_append_getElem hk] at hih
  rw[HD hk]
  generalize l[k]=s at hx hih⊢
  refine⟨s,by omega,by simp[hx],PW s,fun h1=>?_,fun h1=>⟨XC s,fun h2=>?_,fun h2=>⟨?_⟩⟩⟩
  ·simp only[Io,Bool.not_eq_eq_eq_not,Bool.not_true] at h1;simp[nmB,h1]
  ·simp[nmB,h2]
  ·have h1:CM s=true:=by simpa using h1
   refine OH (s:=s) 47 45 46 rfl (by kernel_rfl) (by kernel_rfl) (by kernel_rfl) (by kernel_rfl) (by kernel_rfl) (by kernel_rfl) ?_
   refine Ri mixed 52 [1] 11 11 (.b .r (.h (.q 13 2)<|.h (.s [ke 3,ke 8,ke 31,ke 32,ke 33,ke 49,ke 50]) .z)) ?_
   refine via (by kernel_rfl:((List.contains (take k l) s=true->db false=db (nmB (take k l) (s::List.drop (k+1) l)))/\(List.contains (take k l) s=false->Nv.It (AK (CS 0 r (take k l)) PP (fun env σ1=>A2 PP S4 env σ1 (db (nmB (take k l) (s::List.drop (k+1) l))) σ0) [KI.blk 3,kc Da [1,1,1,1,0,1,0,0,1,1,1],kl Da [1,1,1,1,0,1,0,0],KI.blk 2,kc Da [1,1,1,1,1]] (BF (sub Da [1,1,1,1,0,1,0,0,1,1,0,0,1,1])) (List.drop 2 (BF (sub Da [1,1,1,1,0,1,0,0,1,1,0,0,1,1])).toList) (mkE 52 [(3,D.raw (Value.map (some r))),(8,D.v (V.str s)),(31,D.v (V.list (map V.str l))),(32,di (l.length:Int)),(33,di (k:Int)),(49,D.raw (Value.map (some r))),(50,D.v (V.str s))]) σ0)))=_) ?_
   refine⟨fun h3=>?_,fun h3=>⟨?_⟩⟩
   ·simp only[nmB,h3,Bool.not_true,HT,IR]
   ·refine OD (s:=s) 49 50 rfl (by kernel_rfl) (by kernel_rfl) (by kernel_rfl) (by kernel_rfl) (by kernel_rfl) (by kernel_rfl) h3 ?_
    refine Ri mixed 52 [1] 13 3 (.ls [ke 3,ke 31,ke 32,ch 33 (di (k+1:Nat))] σ0) ?_
    refine via (by kernel_rfl:(di (wrap IntKind.i64 ((k:Int)+1))=di (↑(k+1):Int)/\Nv.It (A9 (CS σ0.H.length r (take k l++[s])) PP (fun env σ1=>A2 PP S4 env σ1 (db (nmB (take k l) (s::List.drop (k+1) l))) σ0) [kl Da [1,1,1,1,0,1,0,0],KI.blk 2,kc Da [1,1,1,1,1]] (mkE 52 [(3,D.raw (Value.map (some r))),(31,D.v (V.list (map V.str l))),(32,di (l.length:Int)),(33,di (↑(k+1):Int))]) σ0))=_) ?_
    refine⟨Ae (by omega),⟨?_⟩⟩
    simp only[nmB,h1,h2,h3,Bool.not_false,HV]
    exact hih
 ·have hk:l.length<=k:=by simpa using h
  rw[HI hk];rfl
theorem Sh(r:Nat)(m:Mod)(b:List (List UInt8))(hm:m.rules.length<=1000000)(hb:b.length+m.rules.length<=1000000)(n:Nat):∀k:Nat,m.rules.length-k=n->k<=m.rules.length->
  A9 (CS 0 r []) PP (fun env σ1=>A2 PP S4 env σ1 (db (nmB [] (b++m.rules.map Rul.name))) σ0) [.lp (sub Da [1,1,1,0,1,0,0]),.blk 0,.code (sub Da [1,1,1,1])] (mkE 52 [(3,.raw (.map (some r))),(4,Hb (b++(m.rules.take k).map Rul.name)),(19,dl (m.rules.map Ah)),(20,di m.rules.length),(21,di k)]) (To (b++(m.rules.take k).map Rul.name)):=by
 induction n using Nat.strongRecOn with
 |_ n ih=>
 intro k hn hk0
 refine YJ mixed 52 [1] (.b (.e fun x:Rul=>.h (.xs (Ah x))<|.w<|.ls [ke 3,ch 4 (Hb (b++(m.rules.take (k+1)).map Rul.name)),ke 19,ke 20,ch 21 (di (k+1:Nat))] (To (b++(m.rules.take (k+1)).map Rul.name))) (.h (.q 8 0)<|.h (.un 4)<|.ls [ke 3,ch 31 (dl ((b++m.rules.map Rul.name).map V.str)),ch 32 (di (b++m.rules.map Rul.name).length),ch 33 (di (0:Nat))] σ0)) ?_
 refine via (by kernel_rfl:((decide ((k:Int)<(m.rules.length:Int))=true->∃a,14=14/\0<=(k:Int)/\(map Ah m.rules)[Int.toNat (k:Int)]?=some (Ah a)/\map V.str (b++map Rul.name (take k m.rules))=map V.str (b++map Rul.name (take k m.rules))/\Ax (length (map V.str (b++map Rul.name (take k m.rules)))+length (V.str a.name::nV)) 16/\(∀(y:V),y∈ [V.str a.name]->V.size y=1)/\D.acc 1 (map V.str (b++map Rul.name (take k m.rules))++[V.str a.name])=Hb (b++map Rul.name (take (k+1) m.rules))/\di (wrap IntKind.i64 ((k:Int)+1))=di (↑(k+1):Int)/\[(1,1,map V.str (b++map Rul.name (take k m.rules))++V.str a.name::nV)]=[(1,1,map V.str (b++map Rul.name (take (k+1) m.rules)))]/\Nv.It (A9 (CS 0 r []) PP (fun env σ1=>A2 PP S4 env σ1 (db (nmB [] (b++map Rul.name m.rules))) σ0) [kl Da [1,1,1,0,1,0,0],KI.blk 0,kc Da [1,1,1,1]] (mkE 52 [(3,D.raw (Value.map (some r))),(4,Hb (b++map Rul.name (take (k+1) m.rules))),(19,D.v (V.list (map Ah m.rules))),(20,di (m.rules.length:Int)),(21,di (↑(k+1):Int))]) (To (b++map Rul.name (take (k+1) m.rules)))))/\(decide ((k:Int)<(m.rules.length:Int))=false->D.v (V.list (map V.str (b++map Rul.name (take k m.rules))))=dl (map V.str (b++map Rul.name m.rules))/\di (length (map V.str (b++map Rul.name (take k m.rules))):Int)=di (length (b++map Rul.name m.rules):Int)/\di 0=di (↑0:Int)/\Nv.It (A9 (CS 0 r []) PP (fun env σ1=>A2 PP S4 env σ1 (db (nmB [] (b++map Rul.name m.rules))) σ0) [kl Da [1,1,1,1,0,1,0,0],KI.blk 2,kc Da [1,1,1,1,1]] (mkE 52 [(3,D.raw (Value.map (some r))),(31,dl (map V.str (b++map Rul.name m.rules))),(32,di (length (b++map Rul.name m.rules):Int)),(33,di (↑0:Int))]) σ0)))=_) ?_
 refine⟨fun h=>?_,fun h=>?_⟩
 ·have hk:k<m.rules.length:=by simpa using h
  have hx:m.rules[k]?=some m.rules[k]:=Hx hk
  have hih:=ih (m.rules.length- (k+1)) (by omega) (k+1) rfl hk
  have hl:(b++(m.rules.take k).map Rul.name).length<=1000000:=by simp;omega
  have ht:b++(m.rules.take (k+1)).map Rul.name=b++(m.rules.take k).map Rul.name++[(m.rules[k]).name]:=by rw[List.take_succ_eq_append_getElem hk,IC,I4];rfl
  rw[ht] at hih⊢
  generalize m.rules[k]=x at hx hih⊢
  generalize b++(m.rules.take k).map Rul.name=p at hl hih⊢
  refine⟨x,rfl,by omega,by simp[hx],rfl,?_,by simp[V.size],by simp,Ae (by omega),by simp,⟨hih⟩⟩
  exact⟨by simp only[Hw,H3,H7];omega,by simp only[Hw,H3,H7];omega⟩
 ·have hk:m.rules.length<=k:=by simpa using h
  rw[HQ hk]
  refine⟨rfl,by simp,rfl,⟨?_⟩⟩
  exact Sg r _ (by simpa using hb) _ 0 rfl (by omega)
theorem Fm(m:Mod)(h1:(Bz m).length+m.rules.length<=1000000):Aa PP 69 [Ad m] σ0 (db (Cu m)) σ0:=by
 refine sv S4 52 [1] (.h (.q 1 0)<|.h (.s [ke 1]) .z) (Nv.It (AK (CN σ0.H.length) PP (fun env σ1=>A2 PP S4 env σ1 (db (Cu m)) σ0) [kc Da [1,1]] (BF (sub Da [1,0])) (List.drop 0 (BF (sub Da [1,0])).toList) (mkE 52 [(1,D.v (V.ref (Az m)))]) σ0)) ?_
 refine⟨MH 9 rfl (by kernel_rfl) (by kernel_rfl) (by kernel_rfl) fun r=>?_⟩
 refine Ri mixed 52 [1] 1 1 (.h (.ck 1 1 1 ((Bz m).map V.str))<|.ls [ke 3,ch 4 (Hb (Bz m++(m.rules.take 0).map Rul.name)),ke 19,ch 20 (di m.rules.length),ch 21 (di (0:Nat))] (To (Bz m++(m.rules.take 0).map Rul.name))) ?_
 refine via (by kernel_rfl:(Aa PP 98 [D.v (V.list [vSs m.states,vSs m.places,vSs m.letters])] (St.mk [] []) (D.acc 1 (map V.str (Bz m))) (St.mk [] [(1,1,map V.str (Bz m))])/\D.acc 1 (map V.str (Bz m))=Hb (Bz m++map Rul.name (take 0 m.rules))/\di (length (map Ah m.rules):Int)=di (m.rules.length:Int)/\di 0=di (↑0:Int)/\[(1,1,map V.str (Bz m))]=[(1,1,map V.str (Bz m++[]))]/\Nv.It (A9 (CS σ0.H.length r []) PP (fun env σ1=>A2 PP S4 env σ1 (db (Cu m)) σ0) [kl Da [1,1,1,0,1,0,0],KI.blk 0,kc Da [1,1,1,1]] (mkE 52 [(3,D.raw (Value.map (some r))),(4,Hb (Bz m++map Rul.name (take 0 m.rules))),(19,D.v (EV m.rules)),(20,di (m.rules.length:Int)),(21,di (↑0:Int))]) (To (Bz m++map Rul.name (take 0 m.rules)))))=_) ?_
 refine⟨SO [m.states,m.places,m.letters] (by simp only[H3,H7];omega) (by show(Bz m).length<=_;omega),by simp,by simp,rfl,by simp,⟨?_⟩⟩
 exact Sh r m (Bz m) (by omega) h1 _ 0 rfl (by omega)
inductive Typ where
 |nat
 |lab (n:Int)
 |prod (l:List Typ)
 |word (t:Typ)
 |bag (t:Typ)
 |prio (n:Int) (r:List Int)
 deriving Inhabited
mutual
def Typ.enc:Typ->V
 |.nat=>.agg [vi 1,vi 0,.list [],.list []]
 |.lab n=>.agg [vi 2,vi n,.list [],.list []]
 |.prod l=>.agg [vi 3,vi 0,.list [],.list (Typ.encs l)]
 |.word t=>.agg [vi 4,vi 0,.list [],.list [t.enc]]
 |.bag t=>.agg [vi 5,vi 0,.list [],.list [t.enc]]
 |.prio n r=>.agg [vi 7,vi n,vIs r,.list []]
def Typ.encs:List Typ->List V
 |[]=>[]
 |t::l=>t.enc::Typ.encs l
end
theorem Typ.encs_map:∀l:List Typ,Typ.encs l=l.map Typ.enc
 |[]=>rfl
 |t::l=>by simp[Typ.encs,Typ.encs_map l]
abbrev vTy(k n:Int)(r:List Int)(l:List V):V:=.agg [vi k,vi n,vIs r,.list l]
def Typ.kd:Typ->Int
 |.nat=>1|.lab _=>2|.prod _=>3|.word _=>4|.bag _=>5|.prio _ _=>7
def Typ.sz:Typ->Int
 |.lab n=>n|.prio n _=>n|_=>0
def Typ.rk:Typ->List Int
 |.prio _ r=>r|_=>[]
def Typ.ps:Typ->List Typ
 |.prod l=>l|.word t=>[t]|.bag t=>[t]|_=>[]
abbrev eT:Typ->V:=Typ.enc
abbrev vT(t:Typ):V:=vTy t.kd t.sz t.rk (t.ps.map eT)
abbrev dT(t:Typ):D:=.v (vT t)
theorem Vv(t:Typ):eT t=vT t:=by cases t<;>simp only[eT,Typ.enc,Typ.encs_map]<;>rfl
theorem KK{a:List Typ}{i:Nat}{x:Typ}(h:a[i]?=some x):(a.map eT)[((i:Nat):Int).toNat]?=some (vT x):=by rw[←Vv];exact AW h
theorem Kt(t:Typ):vT (.word t)=vTy 4 0 [] [vT t]:=by rw[←Vv t];rfl
theorem Nt(t:Typ):vT (.bag t)=vTy 5 0 [] [vT t]:=by rw[←Vv t];rfl
noncomputable abbrev Ab9:Func:= Tryz.f143
def Ca(n:Int)(v:Val):Bool:=decide (v.n>=0)&&(decide (v.n<n)&&((v.kids.length:Int)==0))
theorem Oh(n:Int)(v:Val):Aa PP 143 [dV v,di n] σ0 (db (Ca n v)) σ0:=by
 refine sv Ab9 20 [2] (.b (.b .r .r) .r) ((decide (v.n>=0)=true->(decide (v.n<n)=true->db ((length (map eV v.kids):Int)==0)=db (Ca n v))/\(decide (v.n<n)=false->db false=db (Ca n v)))/\(decide (v.n>=0)=false->db false=db (Ca n v))) ?_
 refine⟨fun h1=>⟨fun h2=>?_,fun h2=>?_⟩,fun h1=>?_⟩<;>(try simp only[Hw] at*)<;>simp_all [Ca]<;>(intros;omega)
noncomputable abbrev Yp:Func:= Tryz.f145
noncomputable def Yr:Code:=Yp.body.getD .skip
def PO(l:List Val):Nat->Bool
 |0=>true
 |k+1=>if Aq (l.getD (k+1) default) (l.getD k default)<0 then false else PO l k
theorem TS(l:List Val)(hs:Val.sizes l<=1000000)(k:Nat):k<l.length->
  Rn PP Yp 0 (db (PO l k)) σ0 ([.lp (sub Yr [1,0,1,0,0]),.blk 0,.code (sub Yr [1,1])]++[]) (mkE 25 [(0,dVs l),(1,dfn 55),(5,di k)]) σ0:=by
 induction k with
 |zero=>
  intro hk
  refine lv 25 [] (.f .r) (decide ((↑0:Int)>0)=false/\db true=db (PO l 0)) ?_
  exact⟨rfl,rfl⟩
 |succ k ih=>
  intro hk
  refine lv 25 [] (.t<|.x (Ag (l.getD (k+1) default))<|.x (Ag (l.getD k default))<|.c (di (Aq (l.getD (k+1) default) (l.getD k default)))<|.b .r (.l [ke 0,ke 1,ch 5 (di k)])) (decide ((↑(k+1):Int)>0)=true/\0<=(↑(k+1):Int)/\(map eV l)[Int.toNat (↑(k+1):Int)]?=some (Ag (List.getD l (k+1) default))/\0<=wrap IntKind.i64 ((↑(k+1):Int)-1)/\(map eV l)[Int.toNat (wrap IntKind.i64 ((↑(k+1):Int)-1))]?=some (Ag (List.getD l k default))/\F0 55 [D.v (Ag (List.getD l (k+1) default)),D.v (Ag (List.getD l k default))] (di (Aq (List.getD l (k+1) default) (List.getD l k default)))/\(decide (Aq (List.getD l (k+1) default) (List.getD l k default)<0)=true->db false=db (PO l (k+1)))/\(decide (Aq (List.getD l (k+1) default) (List.getD l k default)<0)=false->di (wrap IntKind.i64 ((↑(k+1):Int)-1))=di (k:Int)/\I0 Yp 0 (db (PO l (k+1))) σ0 [kl Yr [1,0,1,0,0],KI.blk 0,kc Yr [1,1]] (mkE 25 [(0,dVs l),(1,D.v (V.fn 55 [] [])),(5,di (k:Int))]) (St.mk [] []))) ?_
  have h1:IntKind.i64.wrap (((k+1:Nat):Int)-1)=k:=by rw[Ai (by have:=Val.length_le l;omega) (by have:=Val.length_le l;omega)];omega
  have hx:l[k+1]?=some (l.getD (k+1) default):=by rw[H6,Hx hk];rfl
  have hy:l[k]?=some (l.getD k default):=by rw[H6,Hx (by omega)];rfl
  have hz:(l.getD (k+1) default).size<=1000000:=by have:=Val.size_mem (H4 hx);omega
  rw[h1]
  refine⟨by simp,by omega,AB hx,by omega,AB hy,SP _ _ _ (H5 _) hz,fun h2=>?_,fun h2=>⟨rfl,⟨?_⟩⟩⟩
  ·simp only[PO,HJ (H9 h2)]
  ·simp only[PO,HF (Ig h2)]
   exact ih (by omega)
def PQ(l:List Val):Bool:=PO l (l.length-1)
theorem TR(l:List Val)(hs:Val.sizes l<=1000000):Aa PP 145 [dVs l,dfn 55] σ0 (db (PQ l)) σ0:=by
 cases l with
 |nil=>
  refine sv Yp 25 [] (.n<|.f .r) (decide (wrap IntKind.i64 ((length (map eV []):Int)-1)>0)=false/\db true=db (PQ [])) ?_
  exact⟨rfl,rfl⟩
 |cons v l=>
  refine sv Yp 25 [] (.l [ke 0,ke 1,ch 5 (di (l.length:Nat))]) (di (wrap IntKind.i64 ((length (map eV (v::l)):Int)-1))=di (l.length:Int)/\I0 Yp σ0.H.length (db (PQ (v::l))) σ0 [kl Yr [1,0,1,0,0],KI.blk 0,kc Yr [1,1]] (mkE 25 [(0,dVs (v::l)),(1,dfn 55),(5,di (l.length:Int))]) σ0) ?_
  have:=Val.length_le (v::l)
  have h1:IntKind.i64.wrap ((((v::l).map eV).length:Int)-1)=l.length:=by
   rw[Hw,H3] at*
   rw[Ai (by omega) (by omega)];omega
  rw[h1]
  exact⟨rfl,⟨TS (v::l) hs l.length (by simp)⟩⟩
mutual
def Ao:Typ->Val->Bool
 |.nat,v=>decide (v.n>=0)&&(decide (v.n<=1048576)&&((v.kids.length:Int)==0))
 |.lab n,v=>Ca n v
 |.prod l,v=>(v.n==0)&&(((v.kids.length:Int)==l.length)&&BV l v.kids)
 |.word t,v=>(v.n==0)&&(decide ((v.kids.length:Int)<=12)&&v.kids.all (fun k=>Ao t k))
 |.bag t,v=>((v.n==0)&&(decide ((v.kids.length:Int)<=12)&&v.kids.all (fun k=>Ao t k)))&&PQ v.kids
 |.prio n _,v=>(v.n==0)&&(decide ((v.kids.length:Int)<=12)&&v.kids.all (fun k=>Ca n k))
def BV:List Typ->List Val->Bool
 |t::l,v::vs=>Ao t v&&BV l vs
 |_,_=>true
end
noncomputable abbrev Tr:Func:= Tryz.f112
noncomputable def V7:Code:=Tr.body.getD .skip
noncomputable abbrev AaD:Func:= Tryz.f144
noncomputable abbrev Z1:Func:= Tryz.f167
noncomputable abbrev Aa8:Func:= Tryz.f148
theorem KX{α:Type}(l:List α)(p:α->Bool):(!l.any fun k=> !p k)=l.all p:=by
 induction l with
 |nil=>rfl
 |cons x l ih=>simp only[List.any_cons,all_cons,Bool.not_or,Bool.not_not,ih]
theorem RX(n:Int)(r:List Int)(v:Val):Aa PP 148 [dV v,.v (.ref (vT (.prio n r)))] σ0 (db (!Ca n v)) σ0:=by
 refine sv Aa8 9 [2] (.c (db (Ca n v)) .r) (F0 143 [dV v,di (Typ.sz (Typ.prio n r))] (db (Ca n v))/\(db !Ca n v)=db !Ca n v) ?_
 exact⟨Oh n v,rfl⟩
theorem Pu(t:Typ)(v:Val)(h:Aa PP 112 [dT t,dV v] σ0 (db (Ao t v)) σ0):Aa PP 167 [dV v,.v (.ref (vT t))] σ0 (db (!Ao t v)) σ0:=by
 refine sv Z1 8 [2] (.c (db (Ao t v)) .r) (F0 112 [D.v (vT t),dV v] (db (Ao t v))/\(db !Ao t v)=db !Ao t v) ?_
 exact⟨h,rfl⟩
def Ds(t:Typ)(v:Val):Bool:=(v.n==0)&&(decide ((v.kids.length:Int)<=12)&&v.kids.all (fun k=>Ao t k))
theorem Zo{v:Val}(h:decide (((v.kids.map eV).length:Int)<=12)=true):v.kids.length<=1000000:=by
 have h:=H9 h
 rw[Hw] at h
 omega
theorem LP(t:Typ)(v:Val)(h:∀k∈v.kids,Aa PP 112 [dT t,dV k] σ0 (db (Ao t k)) σ0):Aa PP 144 [dV v,dT t] σ0 (db (Ds t v)) σ0:=by
 refine sv AaD 21 [2,3] (.b (.b (.c (db (v.kids.any fun k=> !Ao t k)) .r) .r) .r) (((v.n==0)=true->(decide ((length (map eV v.kids):Int)<=12)=true->F0 147 [dVs v.kids,D.v (V.fn 167 [] [V.ref (vT t)])] (db (List.any v.kids fun k=> !Ao t k))/\(db !List.any v.kids fun k=> !Ao t k)=db (Ds t v))/\(decide ((length (map eV v.kids):Int)<=12)=false->db false=db (Ds t v)))/\((v.n==0)=false->db false=db (Ds t v))) ?_
 refine⟨fun h1=>⟨fun h2=>⟨LS _ [] [_] _ v.kids (Zo h2) fun k hk=>Pu t k (h k hk),?_⟩,fun h2=>?_⟩,fun h1=>?_⟩
 ·rw[KX];simp_all [Ds]
 all_goals (simp_all [Ds]<;>(intros;omega))
theorem X4(v:Val):Aa PP 112 [dT .nat,dV v] σ0 (db (Ao .nat v)) σ0:=by
 refine sv Tr 110 [2,3] (.k<|.b (.b .r .r) .r) ((decide (v.n>=0)=true->(decide (v.n<=1048576)=true->db ((length (map eV v.kids):Int)==0)=db (Ao Typ.nat v))/\(decide (v.n<=1048576)=false->db false=db (Ao Typ.nat v)))/\(decide (v.n>=0)=false->db false=db (Ao Typ.nat v))) ?_
 refine⟨fun h1=>⟨fun h2=>?_,fun h2=>?_⟩,fun h1=>?_⟩<;>simp_all [Ao]<;>(intros;omega)
theorem X5(n:Int)(v:Val):Aa PP 112 [dT (.lab n),dV v] σ0 (db (Ao (.lab n) v)) σ0:=by
 refine sv Tr 110 [2,3] (.c (db (Ca n v)) .r) (F0 143 [dV v,di (Typ.sz (Typ.lab n))] (db (Ca n v))/\db (Ca n v)=db (Ao (Typ.lab n) v)) ?_
 exact⟨Oh n v,by simp only[Ao]⟩
theorem UF(n:Int)(r:List Int)(v:Val):Aa PP 112 [dT (.prio n r),dV v] σ0 (db (Ao (.prio n r) v)) σ0:=by
 refine sv Tr 110 [2,3] (.k<|.k<|.k<|.k<|.k<|.k<|.b (.b (.c (db (v.kids.any fun k=> !Ca n k)) .r) .r) .r) (((v.n==0)=true->(decide ((length (map eV v.kids):Int)<=12)=true->F0 147 [dVs v.kids,D.v (V.fn 148 [] [V.ref (vT (Typ.prio n r))])] (db (List.any v.kids fun k=> !Ca n k))/\(db !List.any v.kids fun k=> !Ca n k)=db (Ao (Typ.prio n r) v))/\(decide ((length (map eV v.kids):Int)<=12)=false->db false=db (Ao (Typ.prio n r) v)))/\((v.n==0)=false->db false=db (Ao (Typ.prio n r) v))) ?_
 refine⟨fun h1=>⟨fun h2=>⟨LS _ [] [_] _ v.kids (Zo h2) fun k hk=>RX n r k,?_⟩,fun h2=>?_⟩,fun h1=>?_⟩
 ·rw[KX];simp_all [Ao]
 all_goals (simp_all [Ao]<;>(intros;omega))
theorem UC(t:Typ)(v:Val)(h:∀k∈v.kids,Aa PP 112 [dT t,dV k] σ0 (db (Ao t k)) σ0):Aa PP 112 [dT (.word t),dV v] σ0 (db (Ao (.word t) v)) σ0:=by
 rw[dT,Kt]
 refine sv Tr 110 [2,3] (.x (vT t)<|.c (db (Ds t v)) .r) (iz 0<=0/\Q (some (vT t))/\F0 144 [dV v,D.v (vT t)] (db (Ds t v))/\db (Ds t v)=db (Ao (Typ.word t) v)) ?_
 exact⟨by decide,rfl,LP t v h,by simp only[Ao,Ds]⟩
theorem X6(t:Typ)(v:Val)(hv:v.size<=1000000)(h:∀k∈v.kids,Aa PP 112 [dT t,dV k] σ0 (db (Ao t k)) σ0):Aa PP 112 [dT (.bag t),dV v] σ0 (db (Ao (.bag t) v)) σ0:=by
 rw[dT,Nt]
 refine sv Tr 110 [2,3] (.x (vT t)<|.c (db (Ds t v))<|.b (.c (db (PQ v.kids)) .r) .r) (iz 0<=0/\Q (some (vT t))/\F0 144 [dV v,D.v (vT t)] (db (Ds t v))/\(Ds t v=true->F0 145 [dVs v.kids,D.v (V.fn 55 [] [])] (db (PQ v.kids))/\db (PQ v.kids)=db (Ao (Typ.bag t) v))/\(Ds t v=false->db false=db (Ao (Typ.bag t) v))) ?_
 have:=Val.size_eq v
 refine⟨by decide,rfl,LP t v h,fun h1=>⟨TR v.kids (by omega),?_⟩,fun h1=>?_⟩
 ·simp only[Ds] at h1;simp only[Ao,h1,HV]
 ·simp only[Ds] at h1;simp only[Ao,h1,HT]
theorem R1(l:List Typ)(v:Val)(hl:v.kids.length=l.length)(hv:v.kids.length<=1000000)(h:∀t∈l,∀k∈v.kids,Aa PP 112 [dT t,dV k] σ0 (db (Ao t k)) σ0)(n:Nat):∀k:Nat,l.length-k=n->
  Rn PP Tr 0 (db (BV (l.drop k) (v.kids.drop k))) σ0 ([.lp (sub V7 [1,0,1,0,1,1,1,1,1,0,1,0,1,0,0]),.blk 1,.code (sub V7 [1,0,1,0,1,1,1,1,1,0,1,1]),.blk 0,.code (sub V7 [1,1])]++[]) (mkE 110 [(2,.v (.ref (vT (.prod l)))),(46,dVs v.kids),(47,di v.kids.length),(48,di k)]) σ0:=by
 induction n using Nat.strongRecOn with
 |_ n ih=>
 intro k hn
 refine lv 110 [2,3] (.b (.e fun x:Val=>.x (Ag x)<|.e fun t:Typ=>.x (vT t)<|.c (db (Ao t x))<|.b .r (.ls [ke 2,ke 46,ke 47,ch 48 (di (k+1:Nat))] σ0)) .r) ((decide ((k:Int)<(v.kids.length:Int))=true->∃a,0<=(k:Int)/\(map eV v.kids)[Int.toNat (k:Int)]?=some (Ag a)/\∃a_1,0<=(k:Int)/\(map eT (Typ.ps (Typ.prod l)))[Int.toNat (k:Int)]?=some (vT a_1)/\Aa PP 112 [D.v (vT a_1),dV a] (St.mk [] []) (db (Ao a_1 a)) (St.mk [] [])/\(True/\True)/\((!Ao a_1 a)=true->db false=db (BV (List.drop k l) (List.drop k v.kids)))/\((!Ao a_1 a)=false->di (wrap IntKind.i64 ((k:Int)+1))=di (↑(k+1):Int)/\Nv.It (A9 (CN 0) PP (fun env σ1=>A2 PP Tr env σ1 (db (BV (List.drop k l) (List.drop k v.kids))) σ0) [kl V7 [1,0,1,0,1,1,1,1,1,0,1,0,1,0,0],KI.blk 1,kc V7 [1,0,1,0,1,1,1,1,1,0,1,1],KI.blk 0,kc V7 [1,1]] (mkE 110 [(2,D.v (V.ref (vT (Typ.prod l)))),(46,dVs v.kids),(47,di (v.kids.length:Int)),(48,di (↑(k+1):Int))]) σ0)))/\(decide ((k:Int)<(v.kids.length:Int))=false->db true=db (BV (List.drop k l) (List.drop k v.kids)))) ?_
 refine⟨fun h1=>?_,fun h1=>?_⟩
 ·have hk:k<v.kids.length:=by simpa using h1
  have hk2:k<l.length:=by omega
  have hx:v.kids[k]?=some v.kids[k]:=Hx hk
  have hy:l[k]?=some l[k]:=Hx hk2
  rw[HD hk,HD hk2]
  generalize v.kids[k]=x at hx⊢
  generalize l[k]=t at hy⊢
  refine⟨x,by omega,AB hx,t,by omega,KK hy,h t (H4 hy) x (H4 hx),⟨trivial,trivial⟩,fun h2=>?_,fun h2=>⟨Ae (by omega),⟨?_⟩⟩⟩
  ·have h2:Ao t x=false:=by simpa using h2
   simp only[BV,h2,HT]
  ·have h2:Ao t x=true:=by simpa using h2
   simp only[BV,h2,HV]
   exact ih (l.length- (k+1)) (by omega) (k+1) rfl
 ·have hk:v.kids.length<=k:=by simpa using h1
  rw[HI hk,HI (by omega)];simp only[BV]
theorem UE(l:List Typ)(v:Val)(hv:v.size<=1000000)(h:∀t∈l,∀k∈v.kids,Aa PP 112 [dT t,dV k] σ0 (db (Ao t k)) σ0):Aa PP 112 [dT (.prod l),dV v] σ0 (db (Ao (.prod l) v)) σ0:=by
 refine sv Tr 110 [2,3] (.k<|.k<|.k<|.b .r (.b .r (.l [ke 2,ke 46,ch 47 (di v.kids.length),ch 48 (di (0:Nat))]))) (((v.n !=0)=true->db false=db (Ao (Typ.prod l) v))/\((v.n !=0)=false->(((length (map eV v.kids):Int) !=(length (map eT (Typ.ps (Typ.prod l))):Int))=true->db false=db (Ao (Typ.prod l) v))/\(((length (map eV v.kids):Int) !=(length (map eT (Typ.ps (Typ.prod l))):Int))=false->di (length (map eV v.kids):Int)=di (v.kids.length:Int)/\di 0=di (↑0:Int)/\I0 Tr σ0.H.length (db (Ao (Typ.prod l) v)) σ0 [kl V7 [1,0,1,0,1,1,1,1,1,0,1,0,1,0,0],KI.blk 1,kc V7 [1,0,1,0,1,1,1,1,1,0,1,1],KI.blk 0,kc V7 [1,1]] (mkE 110 [(2,D.v (V.ref (vT (Typ.prod l)))),(46,dVs v.kids),(47,di (v.kids.length:Int)),(48,di (↑0:Int))]) σ0))) ?_
 have hlen:=Val.length_le v.kids
 have hsz:=Val.size_eq v
 refine⟨fun h1=>?_,fun h1=>⟨fun h2=>?_,fun h2=>⟨by rw[Hw],rfl,⟨?_⟩⟩⟩⟩
 ·have h1:(v.n==0)=false:=by simpa using h1
  simp only[Ao,h1,HT]
 ·have h2:((v.kids.length:Int)==l.length)=false:=by simpa[Typ.ps] using h2
  simp only[Ao,h2,HT,IR]
 ·have h1:(v.n==0)=true:=by simpa using h1
  have h2:(v.kids.length:Int)=l.length:=by simpa[Typ.ps] using h2
  have h3:((v.kids.length:Int)==l.length)=true:=by simpa using h2
  simp only[Ao,h1,h3,HV]
  exact R1 l v (by omega) (by omega) h _ 0 rfl
theorem UD(N:Nat):∀(t:Typ),SizeOf.sizeOf t<=N->∀v:Val,v.size<=1000000->Aa PP 112 [dT t,dV v] σ0 (db (Ao t v)) σ0:=by
 induction N with
 |zero=>intro t ht;cases t<;>simp at ht<;>omega
 |succ N ih=>
  intro t ht v hv
  have hk:∀k∈v.kids,k.size<=1000000:=fun k hk=>by have:=Val.size_mem hk;have:=Val.size_eq v;omega
  cases t with
  |nat=>exact X4 v
  |lab n=>exact X5 n v
  |prio n r=>exact UF n r v
  |word t=>exact UC t v fun k h=>ih t (by simp at ht;omega) k (hk k h)
  |bag t=>exact X6 t v hv fun k h=>ih t (by simp at ht;omega) k (hk k h)
  |prod l=>exact UE l v hv fun t h k h'=>ih t (by have:=List.sizeOf_lt_of_mem h;simp at ht;omega) k (hk k h')
noncomputable abbrev Z5:Func:= Tryz.f184
noncomputable def Yu:Code:=Z5.body.getD .skip
theorem UX(F:FuncId)(fs cs:List V)(p:Typ->Bool)(l:List (Typ))(hl:l.length<=1000000)(hp:∀x∈l,Aa PP F ((fs++[vT x]++cs).map .v) σ0 (db (p x)) σ0)(n:Nat):∀k:Nat,l.length-k=n->
  Rn PP Z5 0 (di (ixM p (l.drop k) k)) σ0 ([.lp (sub Yu [1,0,1,0,0]),.blk 0,.code (sub Yu [1,1])]++[]) (mkE 19 [(0,dl (l.map eT)),(1,.v (.fn F fs cs)),(7,di l.length),(8,di k)]) σ0:=by
 induction n using Nat.strongRecOn with
 |_ n ih=>
 intro k hn
 refine lv 19 [] (.b (.e fun x:Typ=>.x (vT x)<|.c (db (p x))<|.b .r (.l [ke 0,ke 1,ke 7,ch 8 (di (k+1:Nat))])) .r) ((decide ((k:Int)<(l.length:Int))=true->∃a,0<=(k:Int)/\(map eT l)[Int.toNat (k:Int)]?=some (vT a)/\Aa PP F (map D.v (fs++[vT a]++cs)) (St.mk [] []) (db (p a)) (St.mk [] [])/\(p a=true->di (k:Int)=di (ixM p (List.drop k l) k))/\(p a=false->di (wrap IntKind.i64 ((k:Int)+1))=di (↑(k+1):Int)/\Nv.It (A9 (CN 0) PP (fun env σ1=>A2 PP Z5 env σ1 (di (ixM p (List.drop k l) k)) σ0) [kl Yu [1,0,1,0,0],KI.blk 0,kc Yu [1,1]] (mkE 19 [(0,D.v (V.list (map eT l))),(1,D.v (V.fn F fs cs)),(7,di (l.length:Int)),(8,di (↑(k+1):Int))]) σ0)))/\(decide ((k:Int)<(l.length:Int))=false->di (-1)=di (ixM p (List.drop k l) k))) ?_
 refine⟨fun h=>?_,fun h=>?_⟩
 ·have hk:k<l.length:=by simpa using h
  have hx:l[k]?=some l[k]:=Hx hk
  rw[HD hk]
  generalize l[k]=x at hx⊢
  refine⟨x,by omega,KK hx,hp x (H4 hx),fun hf=>by simp[ixM,hf],fun hf=>⟨Ae (by omega),⟨?_⟩⟩⟩
  simp only[ixM,hf]
  exact ih (l.length- (k+1)) (by omega) (k+1) rfl
 ·have hk:l.length<=k:=by simpa using h
  rw[HI hk];rfl
theorem UW(F:FuncId)(fs cs:List V)(p:Typ->Bool)(l:List (Typ))(hl:l.length<=1000000)(hp:∀x∈l,Aa PP F ((fs++[vT x]++cs).map .v) σ0 (db (p x)) σ0):
  Aa PP 184 [dl (l.map eT),.v (.fn F fs cs)] σ0 (di (ixM p l 0)) σ0:=by
 refine sv Z5 19 [] (.l [ke 0,ke 1,ch 7 (di l.length),ch 8 (di (0:Nat))]) (di (length (map eT l):Int)=di (l.length:Int)/\di 0=di (↑0:Int)/\I0 Z5 σ0.H.length (di (ixM p l 0)) σ0 [kl Yu [1,0,1,0,0],KI.blk 0,kc Yu [1,1]] (mkE 19 [(0,dl (map eT l)),(1,D.v (V.fn F fs cs)),(7,di (l.length:Int)),(8,di (↑0:Int))]) σ0) ?_
 refine⟨by simp,rfl,⟨?_⟩⟩
 exact UX F fs cs p l hl hp _ 0 rfl
noncomputable abbrev AaG:Func:= Tryz.f165
theorem Jy(F:FuncId)(fs cs:List V)(p:Typ->Bool)(l:List (Typ))(hl:l.length<=1000000)(hp:∀x∈l,Aa PP F ((fs++[vT x]++cs).map .v) σ0 (db (p x)) σ0):
  Aa PP 165 [dl (l.map eT),.v (.fn F fs cs)] σ0 (db (l.any p)) σ0:=by
 refine sv AaG 9 [] (.c (di (ixM p l 0)) .r) (F0 184 [D.v (V.list (map eT l)),D.v (V.fn F fs cs)] (di (ixM p l 0))/\db (decide (ixM p l 0>=0))=db (List.any l p)) ?_
 exact⟨UW F fs cs p l hl hp,by rw[←FD]⟩
noncomputable abbrev Ab3:Func:= Tryz.f182
noncomputable abbrev Aa4:Func:= Tryz.f190
noncomputable abbrev Aa7:Func:= Tryz.f164
def Rc(x:Int):Bool:=decide (x<0)||decide (x>=6)
theorem Um(x:Int):Aa PP 190 [di x] σ0 (db (Rc x)) σ0:=by
 refine sv Aa4 9 [] (.b .r .r) ((decide (x<0)=true->db true=db (Rc x))/\(decide (x<0)=false->db (decide (x>=6))=db (Rc x))) ?_
 refine⟨fun h=>?_,fun h=>?_⟩<;>simp[Rc, *]
def CH(r:List Int):Bool:=decide ((r.length:Int)>=1)&&(decide ((r.length:Int)<=6)&& !(r.any Rc))
theorem Ul(r:List Int):Aa PP 182 [dIs r] σ0 (db (CH r)) σ0:=by
 refine sv Ab3 16 [] (.b (.b (.c (db (r.any Rc)) .r) .r) .r) ((decide ((length (map vi r):Int)>=1)=true->(decide ((length (map vi r):Int)<=6)=true->F0 96 [dIs r,D.v (V.fn 190 [] [])] (db (List.any r Rc))/\(db !List.any r Rc)=db (CH r))/\(decide ((length (map vi r):Int)<=6)=false->db false=db (CH r)))/\(decide ((length (map vi r):Int)>=1)=false->db false=db (CH r))) ?_
 refine⟨fun h1=>⟨fun h2=>⟨FF _ [] [] Rc r (by have h2:=H9 h2;rw[Hw] at h2;omega) fun x _=>Um x,?_⟩,fun h2=>?_⟩,fun h1=>?_⟩<;>(try simp only[Hw] at*)<;>simp only[CH,h1,HV,HT]<;>simp only[h2,HV,HT]
theorem Uw(r:List Int)(h:CH r=true):Aa PP 164 [dIs r,dl []] σ0 (db true) σ0:=by
 refine sv Aa7 18 [2] (.c (db (CH r))<|.t<|.k<|.c (db false) .r) (F0 182 [dIs r] (db (CH r))/\CH r=true/\F0 96 [D.v (V.list []),D.v (V.fn 183 [] [V.ref (vIs r)])] (db false)/\(db !false)=db true) ?_
 exact⟨Ul r,h,FF _ [] [_] (fun _=>false) [] (by simp) (fun x hx=>by simp at hx),rfl⟩
noncomputable abbrev fRt:Func:= Tryz.f142
noncomputable abbrev Ab2:Func:= Tryz.f166
def AS:Nat->Typ->Bool
 |0,_=>false
 |d+1,.nat=>true
 |d+1,.lab n=>decide (n>=1)&&decide (n<=16)
 |d+1,.prio n r=>(n==r.length)&&CH r
 |d+1,.word t=>AS d t
 |d+1,.bag t=>AS d t
 |d+1,.prod l=> !((l.length:Int)==0)&&(!decide ((l.length:Int)>8)&&l.all (AS d))
theorem EZ(t:Typ)(d:Nat)(hd:d<=100)(h:Aa PP 142 [dT t,di d] σ0 (db true) σ0):Aa PP 166 [dT t,.v (.ref (vi ((d+1:Nat):Int)))] σ0 (db false) σ0:=by
 refine sv Ab2 9 [2] (.c (db true) .r) (F0 142 [D.v (vT t),di (wrap IntKind.i64 ((↑(d+1):Int)-1))] (db true)/\(db !true)=db false) ?_
 refine⟨?_,rfl⟩
 rw[show IntKind.i64.wrap (((d+1:Nat):Int)-1)=d by rw[Ai (by omega) (by omega)];omega]
 exact h
theorem Rd(d:Nat):Aa PP 142 [dT .nat,di ((d+1:Nat):Int)] σ0 (db true) σ0:=by
 refine sv fRt 94 [2,3] (.f .r) (((↑(d+1):Int)==0)=false/\db (Typ.sz Typ.nat==0)=db true) ?_
 have hz:(((d+1:Nat):Int)==0)=false:=Ia.2 (by omega)
 exact⟨hz,rfl⟩
theorem Re(d:Nat)(n:Int)(h1:1<=n)(h2:n<=16):Aa PP 142 [dT (.lab n),di ((d+1:Nat):Int)] σ0 (db true) σ0:=by
 refine sv fRt 94 [2,3] (.f<|.k<|.k<|.k<|.k<|.k<|.k<|.t .r) (((↑(d+1):Int)==0)=false/\decide (Typ.sz (Typ.lab n)>=1)=true/\db (decide (Typ.sz (Typ.lab n)<=16))=db true) ?_
 have hz:(((d+1:Nat):Int)==0)=false:=Ia.2 (by omega)
 exact⟨hz,Hz h1,HL db (Hz h2)⟩
theorem ON(d:Nat)(n:Int)(r:List Int)(h1:n=r.length)(h2:CH r=true):Aa PP 142 [dT (.prio n r),di ((d+1:Nat):Int)] σ0 (db true) σ0:=by
 refine sv fRt 94 [2,3] (.f<|.t<|.k<|.k<|.k<|.k<|.k<|.k<|.t<|.c (db true) .r) (((↑(d+1):Int)==0)=false/\decide ((length (map vi (Typ.rk (Typ.prio n r))):Int)>0)=true/\(Typ.sz (Typ.prio n r)==(length (map vi (Typ.rk (Typ.prio n r))):Int))=true/\F0 164 [D.v (vIs (Typ.rk (Typ.prio n r))),D.v (V.list [])] (db true)/\Q (db true)) ?_
 have hz:(((d+1:Nat):Int)==0)=false:=Ia.2 (by omega)
 have h3:=h2
 simp only[CH,Hy,H8] at h3
 refine⟨hz,Hz ?_,?_,Uw r h2,rfl⟩
 ·simp only[Typ.rk,Hw];omega
 ·simp only[Typ.sz,Typ.rk,Hw,h1,beq_self_eq_true]
theorem OL(d:Nat)(t:Typ)(hd:d<=100)(h:Aa PP 142 [dT t,di d] σ0 (db true) σ0):Aa PP 142 [dT (.word t),di ((d+1:Nat):Int)] σ0 (db true) σ0:=by
 refine sv fRt 94 [2,3] (.f<|.c (db false) .r) (((↑(d+1):Int)==0)=false/\F0 165 [D.v (V.list [eT t]),D.v (V.fn 166 [] [V.ref (vi (↑(d+1):Int))])] (db false)/\(db !false)=db true) ?_
 have hz:(((d+1:Nat):Int)==0)=false:=Ia.2 (by omega)
 exact⟨hz,Jy _ [] [_] (fun _=>false) [t] (by simp) (fun x hx=>by rw[HE.1 hx];exact EZ t d hd h),rfl⟩
theorem Rf(d:Nat)(t:Typ)(hd:d<=100)(h:Aa PP 142 [dT t,di d] σ0 (db true) σ0):Aa PP 142 [dT (.bag t),di ((d+1:Nat):Int)] σ0 (db true) σ0:=by
 refine sv fRt 94 [2,3] (.f<|.c (db false) .r) (((↑(d+1):Int)==0)=false/\F0 165 [D.v (V.list [eT t]),D.v (V.fn 166 [] [V.ref (vi (↑(d+1):Int))])] (db false)/\(db !false)=db true) ?_
 have hz:(((d+1:Nat):Int)==0)=false:=Ia.2 (by omega)
 exact⟨hz,Jy _ [] [_] (fun _=>false) [t] (by simp) (fun x hx=>by rw[HE.1 hx];exact EZ t d hd h),rfl⟩
theorem OM(d:Nat)(l:List Typ)(hd:d<=100)(h1:((l.length:Int)==0)=false)(h2:decide ((l.length:Int)>8)=false)(h:∀t∈l,Aa PP 142 [dT t,di d] σ0 (db true) σ0):Aa PP 142 [dT (.prod l),di ((d+1:Nat):Int)] σ0 (db true) σ0:=by
 refine sv fRt 94 [2,3] (.f<|.k<|.k<|.k<|.k<|.k<|.k<|.k<|.k<|.f<|.f<|.c (db false) .r) (((↑(d+1):Int)==0)=false/\((length (map eT (Typ.ps (Typ.prod l))):Int)==0)=false/\decide ((length (map eT (Typ.ps (Typ.prod l))):Int)>8)=false/\F0 165 [D.v (V.list (map eT (Typ.ps (Typ.prod l)))),D.v (V.fn 166 [] [V.ref (vi (↑(d+1):Int))])] (db false)/\(db !false)=db true) ?_
 have hz:(((d+1:Nat):Int)==0)=false:=Ia.2 (by omega)
 refine⟨hz,by simpa[Typ.ps] using h1,by simpa[Typ.ps] using h2,?_,rfl⟩
 have h3:¬((l.length:Int)>8):=Ig h2
 have:=Jy 166 [] [.ref (vi ((d+1:Nat):Int))] (fun _=>false) l (by omega) (fun x hx=>EZ x d hd (h x hx))
 rw[show l.any (fun _=>false)=false by induction l<;>simp_all] at this
 exact this
theorem E6:∀(d:Nat) (t:Typ),d<=100->AS d t=true->Aa PP 142 [dT t,di d] σ0 (db true) σ0
 |0,t,_,h=>by simp[AS] at h
 |d+1,.nat,_,h=>Rd d
 |d+1,.lab n,_,h=>by
  simp only[AS,Hy,H8] at h
  exact Re d n h.1 h.2
 |d+1,.prio n r,_,h=>by
  simp only[AS,Hy,HX] at h
  exact ON d n r h.1 h.2
 |d+1,.word t,hd,h=>OL d t (by omega) (E6 d t (by omega) (by simpa only[AS] using h))
 |d+1,.bag t,hd,h=>Rf d t (by omega) (E6 d t (by omega) (by simpa only[AS] using h))
 |d+1,.prod l,hd,h=>by
  simp only[AS,Hy,Io,Ii] at h
  exact OM d l (by omega) h.1 h.2.1 fun t ht=>E6 d t (by omega) (h.2.2 t ht)
noncomputable abbrev AaA:Func:= Tryz.f111
theorem Se(t:Typ)(h:AS 8 t=true):Aa PP 111 [dT t] σ0 (di 0) σ0:=by
 refine sv AaA 6 [1] (.c (db true) .r) (F0 142 [D.v (vT t),di 8] (db true)/\Q (di 0)) ?_
 exact⟨E6 8 t (by omega) h,rfl⟩
noncomputable abbrev ZD:Func:= Tryz.f61
noncomputable def Yz:Code:=ZD.body.getD .skip
theorem V1(N:Nat):∀v:Val,v.size<=N->∀m:Int,0<=m->m<=1000->Aa PP 61 [dV v,di m] σ0 (di (min (v.size:Int) (m+1))) σ0:=by
 induction N with
 |zero=>intro v hv;have:=v.size_pos;omega
 |succ N ihN=>
  intro v hv m hm0 hm1
  have hsz:=v.size_eq
  have loop (n:Nat):∀(k:Nat) (a:Int),v.kids.length-k=n->k+1<=a->a<=m+1->
    Rn PP ZD 0 (di (min (a+(Val.sizes (v.kids.drop k):Int)) (m+1))) σ0 ([.lp (sub Yz [1,1,0,1,0,0]),.blk 0,.code (sub Yz [1,1,1])]++[]) (mkE 27 [(1,di m),(5,di a),(9,dVs v.kids),(10,di v.kids.length),(11,di k)]) σ0:=by
   induction n using Nat.strongRecOn with
   |_ n ih=>
   intro k a hn ha0 ha1
   refine lv 27 [2] (.b (.e fun x:Val=>.x (Ag x)<|.b .r<|.c (di (min (x.size:Int) (m-a+1)))<|.ls [ke 1,ch 5 (di (min (a+(x.size:Int)) (m+1))),ke 9,ke 10,ch 11 (di (k+1:Nat))] σ0) .r) ((decide ((k:Int)<(v.kids.length:Int))=true->∃a_2,0<=(k:Int)/\(map eV v.kids)[Int.toNat (k:Int)]?=some (Ag a_2)/\(decide (a>m)=true->di a=di (min (a+(↑(Val.sizes (List.drop k v.kids)):Int)) (m+1)))/\(decide (a>m)=false->Aa PP 61 [dV a_2,di (wrap IntKind.i64 (m-a))] (St.mk [] []) (di (min (↑(Val.size a_2):Int) (m-a+1))) (St.mk [] [])/\di (wrap IntKind.i64 (a+min (↑(Val.size a_2):Int) (m-a+1)))=di (min (a+(↑(Val.size a_2):Int)) (m+1))/\di (wrap IntKind.i64 ((k:Int)+1))=di (↑(k+1):Int)/\Nv.It (A9 (CN 0) PP (fun env σ1=>A2 PP ZD env σ1 (di (min (a+(↑(Val.sizes (List.drop k v.kids)):Int)) (m+1))) σ0) [kl Yz [1,1,0,1,0,0],KI.blk 0,kc Yz [1,1,1]] (mkE 27 [(1,di m),(5,di (min (a+(↑(Val.size a_2):Int)) (m+1))),(9,dVs v.kids),(10,di (v.kids.length:Int)),(11,di (↑(k+1):Int))]) σ0)))/\(decide ((k:Int)<(v.kids.length:Int))=false->di a=di (min (a+(↑(Val.sizes (List.drop k v.kids)):Int)) (m+1)))) ?_
   refine⟨fun h=>?_,fun h=>?_⟩
   ·have hk:k<v.kids.length:=by simpa using h
    have hx:v.kids[k]?=some v.kids[k]:=Hx hk
    rw[HD hk]
    generalize v.kids[k]=x at hx⊢
    have hxs:=Val.size_mem (H4 hx)
    have hx1:=x.size_pos
    simp only[Val.sizes]
    refine⟨x,by omega,AB hx,fun h1=>?_,fun h1=>⟨?_,?_,Ae (by omega),⟨?_⟩⟩⟩
    ·have h1:=H9 h1
     rw[Iw];split<;>congr 1<;>omega
    ·rw[Ai (by omega) (by omega)]
     have h1:=Ig h1
     exact ihN x (by omega) (m-a) (by omega) (by omega)
    ·have h1:=Ig h1
     rw[Ai (by rw[Iw];split<;>omega) (by rw[Iw];split<;>omega)]
     simp only[Iw];congr 1;split<;>split<;>omega
    ·have h1:=Ig h1
     have:=ih (v.kids.length- (k+1)) (by omega) (k+1) (min (a+(x.size:Int)) (m+1)) rfl (by rw[Iw];split<;>omega) (by rw[Iw];split<;>omega)
     rw[show min (min (a+(x.size:Int)) (m+1)+(Val.sizes (v.kids.drop (k+1)):Int)) (m+1)=min (a+((x.size+Val.sizes (v.kids.drop (k+1)):Nat):Int)) (m+1) by simp only[Iw];(repeat' split)<;>omega] at this
     exact this
   ·have hk:v.kids.length<=k:=by simpa using h
    rw[HI hk]
    simp only[Val.sizes];rw[Iw];split<;>congr 1<;>omega
  refine sv ZD 27 [2] (.l [ke 1,ch 5 (di 1),ke 9,ch 10 (di v.kids.length),ch 11 (di (0:Nat))]) (Q (di 1)/\di (length (map eV v.kids):Int)=di (v.kids.length:Int)/\di 0=di (↑0:Int)/\I0 ZD σ0.H.length (di (min (↑(Val.size v):Int) (m+1))) σ0 [kl Yz [1,1,0,1,0,0],KI.blk 0,kc Yz [1,1,1]] (mkE 27 [(1,di m),(5,di 1),(9,dVs v.kids),(10,di (v.kids.length:Int)),(11,di (↑0:Int))]) σ0) ?_
  refine⟨rfl,by rw[Hw],rfl,⟨?_⟩⟩
  have:=loop _ 0 1 rfl (by omega) (by omega)
  rw[IP,show(1:Int)+(Val.sizes v.kids:Int)=v.size by omega] at this
  exact this
noncomputable abbrev Zy:Func:= Tryz.f40
theorem JL(v:Val):Aa PP 40 [dV v] σ0 (di (min (v.size:Int) 129)) σ0:=by
 refine sv Zy 6 [1] (.c (di (min (v.size:Int) 129)) .r) (F0 61 [dV v,di 128] (di (min (↑(Val.size v):Int) 129))/\di (if 129<min (↑(Val.size v):Int) 129 then 129 else min (↑(Val.size v):Int) 129)=di (min (↑(Val.size v):Int) 129)) ?_
 exact⟨V1 _ v (H5 _) 128 (by decide) (by decide),by rw[HF (by rw[Iw];split<;>omega)]⟩
noncomputable abbrev Aa9:Func:= Tryz.f75
def Ak(t:Typ)(v:Val):Bool:=decide ((v.size:Int)<=128)&&Ao t v
theorem G4(t:Typ)(h:AS 8 t=true)(v:Val):Aa PP 75 [dT t,dV v] σ0 (db (Ak t v)) σ0:=by
 refine sv Aa9 18 [2,3] (.c (di 0)<|.c (di (min (v.size:Int) 129))<|.b (.c (db (Ao t v)) .r) .r) (F0 111 [D.v (vT t)] (di 0)/\F0 40 [dV v] (di (min (↑(Val.size v):Int) 129))/\(decide (min (↑(Val.size v):Int) 129<=128)=true->F0 112 [D.v (vT t),dV v] (db (Ao t v))/\db (Ao t v)=db (Ak t v))/\(decide (min (↑(Val.size v):Int) 129<=128)=false->db false=db (Ak t v))) ?_
 refine⟨Se t h,JL v,fun h1=>?_,fun h1=>?_⟩
 ·have h1:=H9 h1
  have h2:(v.size:Int)<=128:=by rw[Iw] at h1;split at h1<;>omega
  exact⟨UD _ t (H5 _) v (by omega),by rw[Ak,Hz h2,HV]⟩
 ·have h1:=Ig h1
  rw[Ak,H1 (show ¬(v.size:Int)<=128 by rw[Iw] at h1;split at h1<;>omega),HT]
noncomputable abbrev fOf:Func:= Tryz.f95
structure WD where
 pl:Int
 ph:Int
 ll:Int
 lh:Int
 vl:Int
 vh:Int
 al:Int
 ah:Int
abbrev Gg(l:WD):D:=.v (.agg [vi l.pl,vi l.ph,vi l.ll,vi l.lh,vi l.vl,vi l.vh,vi l.al,vi l.ah])
abbrev XB:WD:=⟨1,6,0,0,0,0,0,0⟩
abbrev Zn:WD:=⟨1,2,1,6,0,0,0,0⟩
abbrev Yk:WD:=⟨1,6,0,0,0,0,0,3⟩
theorem Aau:Aa PP 95 [di 1] σ0 (Gg XB) σ0:=by
 refine sv fOf 29 [] .r (D.v (V.agg [vi 1,vi 6,vi 0,vi 0,vi 0,vi 0,vi 0,vi 0])=Gg XB) ?_
 rfl
theorem Aat:Aa PP 95 [di 2] σ0 (Gg Zn) σ0:=by
 refine sv fOf 29 [] .r (D.v (V.agg [vi 1,vi 2,vi 1,vi 6,vi 0,vi 0,vi 0,vi 0])=Gg Zn) ?_
 rfl
theorem Aas:Aa PP 95 [di 3] σ0 (Gg Zn) σ0:=by
 refine sv fOf 29 [] .r (D.v (V.agg [vi 1,vi 2,vi 1,vi 6,vi 0,vi 0,vi 0,vi 0])=Gg Zn) ?_
 rfl
theorem Aar:Aa PP 95 [di 5] σ0 (Gg Yk) σ0:=by
 refine sv fOf 29 [] .r (D.v (V.agg [vi 1,vi 6,vi 0,vi 0,vi 0,vi 0,vi 0,vi 3])=Gg Yk) ?_
 rfl
noncomputable abbrev Zr:Func:= Tryz.f67
def B3(l:WD)(m:Mod):Bool:=An m.states.length 1 8&&(decide ((m.rules.length:Int)<=12)&&(An m.places.length l.pl l.ph&&(An m.letters.length l.ll l.lh&&(An m.levels l.vl l.vh&&An m.age l.al l.ah))))
theorem CQ(l:WD)(m:Mod)(h:Aa PP 95 [di m.kind] σ0 (Gg l) σ0):Aa PP 67 [Ad m] σ0 (db (B3 l m)) σ0:=by
 refine sv Zr 63 [1] (.c (Gg l)<|.c (db (An m.states.length 1 8))<|.b (.b (.c (db (An m.places.length l.pl l.ph))<|.b (.c (db (An m.letters.length l.ll l.lh))<|.b (.c (db (An m.levels l.vl l.vh))<|.b (.c (db (An m.age l.al l.ah)) .r) .r) .r) .r) .r) .r) (F0 95 [di m.kind] (Gg l)/\F0 66 [di (length (map V.str m.states):Int),di 1,di 8] (db (An (m.states.length:Int) 1 8))/\(An (m.states.length:Int) 1 8=true->(decide ((length (map Ah m.rules):Int)<=12)=true->iz 0<=0/\0<(↑2:Int)/\iz 0<=1/\1<(↑2:Int)/\F0 66 [di (length (map V.str m.places):Int),di l.pl,di l.ph] (db (An (m.places.length:Int) l.pl l.ph))/\(An (m.places.length:Int) l.pl l.ph=true->iz 0<=0/\0<(↑2:Int)/\iz 0<=1/\1<(↑2:Int)/\F0 66 [di (length (map V.str m.letters):Int),di l.ll,di l.lh] (db (An (m.letters.length:Int) l.ll l.lh))/\(An (m.letters.length:Int) l.ll l.lh=true->iz 0<=0/\0<(↑2:Int)/\iz 0<=1/\1<(↑2:Int)/\F0 66 [di m.levels,di l.vl,di l.vh] (db (An m.levels l.vl l.vh))/\(An m.levels l.vl l.vh=true->iz 0<=0/\0<(↑2:Int)/\iz 0<=1/\1<(↑2:Int)/\F0 66 [di m.age,di l.al,di l.ah] (db (An m.age l.al l.ah))/\db (An m.age l.al l.ah)=db (B3 l m))/\(An m.levels l.vl l.vh=false->db false=db (B3 l m)))/\(An (m.letters.length:Int) l.ll l.lh=false->db false=db (B3 l m)))/\(An (m.places.length:Int) l.pl l.ph=false->db false=db (B3 l m)))/\(decide ((length (map Ah m.rules):Int)<=12)=false->db false=db (B3 l m)))/\(An (m.states.length:Int) 1 8=false->db false=db (B3 l m))) ?_
 repeat' first|with_reducible refine And.intro ?_ ?_|intro _
 all_goals first|exact h|exact Cs _ _ _|(simp only[Hw];exact Cs _ _ _)|decide|(simp_all [B3];done)|(simp_all [B3]<;>(intro h1<;>exfalso;omega))
noncomputable abbrev XJ:Func:= Tryz.f68
noncomputable abbrev Vl:Func:= Tryz.f97
theorem L7(x:Int):Aa PP 97 [di x] σ0 (db (!An x 0 5)) σ0:=by
 refine sv Vl 6 [] (.c (db (An x 0 5)) .r) (F0 66 [di x,di 0,di 5] (db (An x 0 5))/\(db !An x 0 5)=db !An x 0 5) ?_
 exact⟨Cs x 0 5,rfl⟩
def AN(m:Mod):Bool:=if (m.kind !=3)=true then(m.ranks.length:Int)==0 else((m.ranks.length:Int)==m.letters.length)&&m.ranks.all fun x=>An x 0 5
theorem De(m:Mod)(hm:m.ranks.length<=1000000):Aa PP 68 [Ad m] σ0 (db (AN m)) σ0:=by
 refine sv XJ 23 [1] (.b .r (.b (.c (db (m.ranks.any fun x=> !An x 0 5)) .r) .r)) (((m.kind !=3)=true->db ((length (map vi m.ranks):Int)==0)=db (AN m))/\((m.kind !=3)=false->(((length (map vi m.ranks):Int)==(length (map V.str m.letters):Int))=true->F0 96 [dIs m.ranks,D.v (V.fn 97 [] [])] (db (List.any m.ranks fun x=> !An x 0 5))/\(db !List.any m.ranks fun x=> !An x 0 5)=db (AN m))/\(((length (map vi m.ranks):Int)==(length (map V.str m.letters):Int))=false->db false=db (AN m)))) ?_
 refine⟨fun h1=>?_,fun h1=>⟨fun h2=>⟨FF _ [] [] _ m.ranks hm fun x _=>L7 x,?_⟩,fun h2=>?_⟩⟩
 ·simp only[AN,h1,I6,Hw]
 ·rw[KX];simp only[Hw] at h2;simp[AN,h1,h2]
 ·simp only[Hw] at h2;simp[AN,h1,h2]
noncomputable abbrev XL:Func:= Tryz.f113
theorem Df(n:Int):Aa PP 113 [di n] σ0 (dT (.lab n)) σ0:=by
 refine sv XL 5 [] .r (D.v (V.agg [vi 2,vi n,V.list [],V.list []])=dT (Typ.lab n)) ?_
 rfl
noncomputable abbrev Ww:Func:= Tryz.f115
theorem Pr(t:Typ):Aa PP 115 [di 4,dT t] σ0 (dT (.word t)) σ0:=by
 refine sv Ww 9 [3] .r (D.v (V.agg [vi 4,vi 0,V.list [],V.list [vT t]])=dT (Typ.word t)) ?_
 rw[dT,Kt];rfl
theorem Sl(t:Typ):Aa PP 115 [di 5,dT t] σ0 (dT (.bag t)) σ0:=by
 refine sv Ww 9 [3] .r (D.v (V.agg [vi 5,vi 0,V.list [],V.list [vT t]])=dT (Typ.bag t)) ?_
 rw[dT,Nt];rfl
noncomputable abbrev Ei:Func:= Tryz.f76
noncomputable def CJ:Code:=Ei.body.getD .skip
abbrev ES(l:List Typ):D:=.acc 1 (l.map eT)
abbrev RA(l:List Typ):St:=⟨[some [di 0,di 0,.v .nils,.v .nils]],[(1,4,l.map eT)]⟩
theorem BK(l:List Typ)(t:Typ):l.map eT++[vT t]=(l++[t]).map eT:=by rw[←Vv];simp
def Dh(m:Mod):Typ:=if m.kind=1 then .nat else if m.kind=2 then .word (.lab m.letters.length) else .prio m.letters.length m.ranks
def AL(m:Mod):Typ:=.prod (.lab m.states.length::replicate m.places.length (Dh m))
theorem MB(m:Mod)(hm:m.places.length<=1000)(hk:m.kind=1)(n:Nat):∀(k:Nat) (xs:List Typ),m.places.length-k=n->k<=m.places.length->xs.length<=k+1->
  Rn PP Ei 0 (dT (.prod (xs++replicate n (.nat)))) σ0 ([.lp (sub CJ [1,1,0,1,0,1,1,1,1,1,0,0]),.blk 1,.blk 0,.code (sub CJ [1,1,1])]++[]) (mkE 70 [(1,.v (.ref (Az m))),(2,.ptr 0 0),(3,ES xs),(14,di m.places.length),(15,di k)]) (RA xs):=by
 induction n with
 |zero=>
  intro k xs hn hk0 hxs
  refine lv 70 [1] (.f .r) (decide ((k:Int)<(m.places.length:Int))=false/\D.v (V.agg [vi 3,vi 0,V.list [],V.list (map eT xs)])=dT (Typ.prod (xs++replicate 0 Typ.nat))) ?_
  refine⟨H1 (by omega),?_⟩
  rw[List.replicate_zero,Il];rfl
 |succ n ih=>
  intro k xs hn hk0 hxs
  refine lv 70 [1] (.t<|.f<|.f<|.ls [ke 1,ke 2,ch 3 (ES (xs++[.nat])),ke 14,ch 15 (di (k+1:Nat))] (RA (xs++[.nat]))) (decide ((k:Int)<(m.places.length:Int))=true/\(m.kind==2)=false/\(m.kind==3)=false/\Q (map eT xs)/\Ax (length (map eT xs)+length (V.agg (V.int IntKind.i64 1::V.int IntKind.i64 0::V.list nV::V.list nV::nV)::nV)) 64/\D.acc 1 (map eT xs++[V.agg [vi 1,vi 0,V.list [],V.list []]])=ES (xs++[Typ.nat])/\di (wrap IntKind.i64 ((k:Int)+1))=di (↑(k+1):Int)/\Q [some [di 0,di 0,dn,dn]]/\[(1,4,map eT xs++V.agg (vi 1::vi 0::V.list nV::V.list nV::nV)::nV)]=[(1,4,map eT (xs++[Typ.nat]))]/\I0 Ei 0 (dT (Typ.prod (xs++replicate (n+1) Typ.nat))) σ0 [kl CJ [1,1,0,1,0,1,1,1,1,1,0,0],KI.blk 1,KI.blk 0,kc CJ [1,1,1]] (mkE 70 [(1,D.v (V.ref (Az m))),(2,D.ptr 0 0),(3,ES (xs++[Typ.nat])),(14,di (m.places.length:Int)),(15,di (↑(k+1):Int))]) (RA (xs++[Typ.nat]))) ?_
  have h:=ih (k+1) (xs++[.nat]) (by omega) (by omega) (by simp only[HC,H3,H7];omega)
  rw[I4] at h
  refine⟨Hz (by omega),by rw[hk];rfl,by rw[hk];rfl,rfl,⟨?_,?_⟩,?_,Ae (by omega),rfl,?_,⟨h⟩⟩
  ·simp only[Hw,H3,H7];omega
  ·simp only[Hw,H3,H7];omega
  ·rw[ES, ←BK];rfl
  ·rw[←BK];rfl
theorem MA(m:Mod)(hm:m.places.length<=1000)(hk:m.kind=2)(n:Nat):∀(k:Nat) (xs:List Typ),m.places.length-k=n->k<=m.places.length->xs.length<=k+1->
  Rn PP Ei 0 (dT (.prod (xs++replicate n (.word (.lab m.letters.length))))) σ0 ([.lp (sub CJ [1,1,0,1,0,1,1,1,1,1,0,0]),.blk 1,.blk 0,.code (sub CJ [1,1,1])]++[]) (mkE 70 [(1,.v (.ref (Az m))),(2,.ptr 0 0),(3,ES xs),(14,di m.places.length),(15,di k)]) (RA xs):=by
 induction n with
 |zero=>
  intro k xs hn hk0 hxs
  refine lv 70 [1] (.f .r) (decide ((k:Int)<(m.places.length:Int))=false/\D.v (V.agg [vi 3,vi 0,V.list [],V.list (map eT xs)])=dT (Typ.prod (xs++replicate 0 (Typ.word (Typ.lab (m.letters.length:Int)))))) ?_
  refine⟨H1 (by omega),?_⟩
  rw[List.replicate_zero,Il];rfl
 |succ n ih=>
  intro k xs hn hk0 hxs
  refine lv 70 [1] (.t<|.t<|.c (dT (.lab m.letters.length))<|.c (dT (.word (.lab m.letters.length)))<|.ls [ke 1,ke 2,ch 3 (ES (xs++[.word (.lab m.letters.length)])),ke 14,ch 15 (di (k+1:Nat))] (RA (xs++[.word (.lab m.letters.length)]))) (decide ((k:Int)<(m.places.length:Int))=true/\(m.kind==2)=true/\F0 113 [di (length (map V.str m.letters):Int)] (dT (Typ.lab (m.letters.length:Int)))/\F0 115 [di 4,D.v (vT (Typ.lab (m.letters.length:Int)))] (dT (Typ.word (Typ.lab (m.letters.length:Int))))/\Q (map eT xs)/\Ax (length (map eT xs)+length (V.agg (vi (Typ.kd (Typ.word (Typ.lab (m.letters.length:Int))))::vi (Typ.sz (Typ.word (Typ.lab (m.letters.length:Int))))::vIs (Typ.rk (Typ.word (Typ.lab (m.letters.length:Int))))::V.list (map eT (Typ.ps (Typ.word (Typ.lab (m.letters.length:Int)))))::nV)::nV)) 64/\D.acc 1 (map eT xs++[V.agg [vi (Typ.kd (Typ.word (Typ.lab (m.letters.length:Int)))),vi (Typ.sz (Typ.word (Typ.lab (m.letters.length:Int)))),vIs (Typ.rk (Typ.word (Typ.lab (m.letters.length:Int)))),V.list [eT (Typ.lab (m.letters.length:Int))]]])=ES (xs++[Typ.word (Typ.lab (m.letters.length:Int))])/\di (wrap IntKind.i64 ((k:Int)+1))=di (↑(k+1):Int)/\Q [some [di 0,di 0,dn,dn]]/\[(1,4,map eT xs++V.agg (vi (Typ.kd (Typ.word (Typ.lab (m.letters.length:Int))))::vi (Typ.sz (Typ.word (Typ.lab (m.letters.length:Int))))::vIs (Typ.rk (Typ.word (Typ.lab (m.letters.length:Int))))::V.list (eT (Typ.lab (m.letters.length:Int))::nV)::nV)::nV)]=[(1,4,map eT (xs++[Typ.word (Typ.lab (m.letters.length:Int))]))]/\I0 Ei 0 (dT (Typ.prod (xs++replicate (n+1) (Typ.word (Typ.lab (m.letters.length:Int)))))) σ0 [kl CJ [1,1,0,1,0,1,1,1,1,1,0,0],KI.blk 1,KI.blk 0,kc CJ [1,1,1]] (mkE 70 [(1,D.v (V.ref (Az m))),(2,D.ptr 0 0),(3,ES (xs++[Typ.word (Typ.lab (m.letters.length:Int))])),(14,di (m.places.length:Int)),(15,di (↑(k+1):Int))]) (RA (xs++[Typ.word (Typ.lab (m.letters.length:Int))]))) ?_
  have h:=ih (k+1) (xs++[.word (.lab m.letters.length)]) (by omega) (by omega) (by simp only[HC,H3,H7];omega)
  rw[I4] at h
  refine⟨Hz (by omega),by rw[hk];rfl,by rw[Hw];exact Df _,Pr _,rfl,⟨?_,?_⟩,?_,Ae (by omega),rfl,?_,⟨h⟩⟩
  ·simp only[Hw,H3,H7];omega
  ·simp only[Hw,H3,H7];omega
  ·rw[ES, ←BK];rfl
  ·rw[←BK];rfl
theorem M9(m:Mod)(hm:m.places.length<=1000)(hr:m.ranks.length<=1000000)(hk:m.kind=3)(n:Nat):∀(k:Nat) (xs:List Typ),m.places.length-k=n->k<=m.places.length->xs.length<=k+1->
  Rn PP Ei 0 (dT (.prod (xs++replicate n (.prio m.letters.length m.ranks)))) σ0 ([.lp (sub CJ [1,1,0,1,0,1,1,1,1,1,0,0]),.blk 1,.blk 0,.code (sub CJ [1,1,1])]++[]) (mkE 70 [(1,.v (.ref (Az m))),(2,.ptr 0 0),(3,ES xs),(14,di m.places.length),(15,di k)]) (RA xs):=by
 induction n with
 |zero=>
  intro k xs hn hk0 hxs
  refine lv 70 [1] (.f .r) (decide ((k:Int)<(m.places.length:Int))=false/\D.v (V.agg [vi 3,vi 0,V.list [],V.list (map eT xs)])=dT (Typ.prod (xs++replicate 0 (Typ.prio (m.letters.length:Int) m.ranks)))) ?_
  refine⟨H1 (by omega),?_⟩
  rw[List.replicate_zero,Il];rfl
 |succ n ih=>
  intro k xs hn hk0 hxs
  refine lv 70 [1] (.t<|.f<|.t<|.c (dIs m.ranks)<|.ls [ke 1,ke 2,ch 3 (ES (xs++[.prio m.letters.length m.ranks])),ke 14,ch 15 (di (k+1:Nat))] (RA (xs++[.prio m.letters.length m.ranks]))) (decide ((k:Int)<(m.places.length:Int))=true/\(m.kind==2)=false/\(m.kind==3)=true/\F0 116 [dIs m.ranks] (dIs m.ranks)/\Q (map eT xs)/\Ax (length (map eT xs)+length (V.agg (V.int IntKind.i64 7::V.int IntKind.i64 (length (map V.str m.letters):Int)::vIs m.ranks::V.list nV::nV)::nV)) 64/\D.acc 1 (map eT xs++[V.agg [vi 7,vi (length (map V.str m.letters):Int),vIs m.ranks,V.list []]])=ES (xs++[Typ.prio (m.letters.length:Int) m.ranks])/\di (wrap IntKind.i64 ((k:Int)+1))=di (↑(k+1):Int)/\Q [some [di 0,di 0,dn,dn]]/\[(1,4,map eT xs++V.agg (vi 7::vi (length (map V.str m.letters):Int)::vIs m.ranks::V.list nV::nV)::nV)]=[(1,4,map eT (xs++[Typ.prio (m.letters.length:Int) m.ranks]))]/\I0 Ei 0 (dT (Typ.prod (xs++replicate (n+1) (Typ.prio (m.letters.length:Int) m.ranks)))) σ0 [kl CJ [1,1,0,1,0,1,1,1,1,1,0,0],KI.blk 1,KI.blk 0,kc CJ [1,1,1]] (mkE 70 [(1,D.v (V.ref (Az m))),(2,D.ptr 0 0),(3,ES (xs++[Typ.prio (m.letters.length:Int) m.ranks])),(14,di (m.places.length:Int)),(15,di (↑(k+1):Int))]) (RA (xs++[Typ.prio (m.letters.length:Int) m.ranks]))) ?_
  have h:=ih (k+1) (xs++[.prio m.letters.length m.ranks]) (by omega) (by omega) (by simp only[HC,H3,H7];omega)
  rw[I4] at h
  refine⟨Hz (by omega),by rw[hk];rfl,by rw[hk];rfl,SS m.ranks hr,rfl,⟨?_,?_⟩,?_,Ae (by omega),rfl,?_,⟨h⟩⟩
  ·simp only[Hw,H3,H7];omega
  ·simp only[Hw,H3,H7];omega
  ·rw[ES, ←BK];rw[Hw];rfl
  ·rw[←BK];rw[Hw];rfl
theorem JB(m:Mod)(hm:m.places.length<=1000)(hr:m.ranks.length<=1000000)(hk:m.kind=1∨m.kind=2∨m.kind=3):Aa PP 76 [Ad m] σ0 (dT (AL m)) σ0:=by
 refine sv Ei 70 [1] (.c (dT (.lab m.states.length))<|.a 1<|.f<|.f<|.ls [ke 1,ke 2,ch 3 (ES [.lab m.states.length]),ch 14 (di m.places.length),ch 15 (di (0:Nat))] (RA [.lab m.states.length])) (F0 113 [di (length (map V.str m.states):Int)] (dT (Typ.lab (m.states.length:Int)))/\(m.kind==4)=false/\(m.kind==5)=false/\D.acc 1 [vT (Typ.lab (m.states.length:Int))]=ES [Typ.lab (m.states.length:Int)]/\di (length (map V.str m.places):Int)=di (m.places.length:Int)/\di 0=di (↑0:Int)/\Q [some [di 0,di 0,dn,dn]]/\[(1,4,vT (Typ.lab (m.states.length:Int))::nV)]=[(1,4,eT (Typ.lab (m.states.length:Int))::nV)]/\I0 Ei σ0.H.length (dT (AL m)) σ0 [kl CJ [1,1,0,1,0,1,1,1,1,1,0,0],KI.blk 1,KI.blk 0,kc CJ [1,1,1]] (mkE 70 [(1,D.v (V.ref (Az m))),(2,D.ptr 0 0),(3,ES [Typ.lab (m.states.length:Int)]),(14,di (m.places.length:Int)),(15,di (↑0:Int))]) (RA [Typ.lab (m.states.length:Int)])) ?_
 refine⟨by rw[Hw];exact Df _,by rcases hk with h|h|h<;>rw[h]<;>rfl,by rcases hk with h|h|h<;>rw[h]<;>rfl,rfl,by rw[Hw],rfl,rfl,rfl,⟨?_⟩⟩
 rcases hk with h|h|h
 ·have:=MB m hm h _ 0 [.lab m.states.length] rfl (by omega) (by simp)
  rw[Nat.sub_zero] at this
  rw[AL,show Dh m=.nat by simp[Dh,h]]
  exact this
 ·have:=MA m hm h _ 0 [.lab m.states.length] rfl (by omega) (by simp)
  rw[Nat.sub_zero] at this
  rw[AL,show Dh m=.word (.lab m.letters.length) by simp[Dh,h]]
  exact this
 ·have:=M9 m hm hr h _ 0 [.lab m.states.length] rfl (by omega) (by simp)
  rw[Nat.sub_zero] at this
  rw[AL,show Dh m=.prio m.letters.length m.ranks by simp[Dh,h]]
  exact this
noncomputable abbrev Yq:Func:= Tryz.f101
noncomputable def Yv:Code:=Yq.body.getD .skip
theorem UZ(F:FuncId)(fs cs:List V)(p:Rul->Bool)(l:List (Rul))(hl:l.length<=1000000)(hp:∀x∈l,Aa PP F ((fs++[Ah x]++cs).map .v) σ0 (db (p x)) σ0)(n:Nat):∀k:Nat,l.length-k=n->
  Rn PP Yq 0 (di (ixM p (l.drop k) k)) σ0 ([.lp (sub Yv [1,0,1,0,0]),.blk 0,.code (sub Yv [1,1])]++[]) (mkE 19 [(0,dl (l.map Ah)),(1,.v (.fn F fs cs)),(7,di l.length),(8,di k)]) σ0:=by
 induction n using Nat.strongRecOn with
 |_ n ih=>
 intro k hn
 refine lv 19 [] (.b (.e fun x:Rul=>.x (Ah x)<|.c (db (p x))<|.b .r (.l [ke 0,ke 1,ke 7,ch 8 (di (k+1:Nat))])) .r) ((decide ((k:Int)<(l.length:Int))=true->∃a,0<=(k:Int)/\(map Ah l)[Int.toNat (k:Int)]?=some (Ah a)/\Aa PP F (map D.v (fs++[Ah a]++cs)) (St.mk [] []) (db (p a)) (St.mk [] [])/\(p a=true->di (k:Int)=di (ixM p (List.drop k l) k))/\(p a=false->di (wrap IntKind.i64 ((k:Int)+1))=di (↑(k+1):Int)/\Nv.It (A9 (CN 0) PP (fun env σ1=>A2 PP Yq env σ1 (di (ixM p (List.drop k l) k)) σ0) [kl Yv [1,0,1,0,0],KI.blk 0,kc Yv [1,1]] (mkE 19 [(0,D.v (V.list (map Ah l))),(1,D.v (V.fn F fs cs)),(7,di (l.length:Int)),(8,di (↑(k+1):Int))]) σ0)))/\(decide ((k:Int)<(l.length:Int))=false->di (-1)=di (ixM p (List.drop k l) k))) ?_
 refine⟨fun h=>?_,fun h=>?_⟩
 ·have hk:k<l.length:=by simpa using h
  have hx:l[k]?=some l[k]:=Hx hk
  rw[HD hk]
  generalize l[k]=x at hx⊢
  refine⟨x,by omega,AW hx,hp x (H4 hx),fun hf=>by simp[ixM,hf],fun hf=>⟨Ae (by omega),⟨?_⟩⟩⟩
  simp only[ixM,hf]
  exact ih (l.length- (k+1)) (by omega) (k+1) rfl
 ·have hk:l.length<=k:=by simpa using h
  rw[HI hk];rfl
theorem UY(F:FuncId)(fs cs:List V)(p:Rul->Bool)(l:List (Rul))(hl:l.length<=1000000)(hp:∀x∈l,Aa PP F ((fs++[Ah x]++cs).map .v) σ0 (db (p x)) σ0):
  Aa PP 101 [dl (l.map Ah),.v (.fn F fs cs)] σ0 (di (ixM p l 0)) σ0:=by
 refine sv Yq 19 [] (.l [ke 0,ke 1,ch 7 (di l.length),ch 8 (di (0:Nat))]) (di (length (map Ah l):Int)=di (l.length:Int)/\di 0=di (↑0:Int)/\I0 Yq σ0.H.length (di (ixM p l 0)) σ0 [kl Yv [1,0,1,0,0],KI.blk 0,kc Yv [1,1]] (mkE 19 [(0,dl (map Ah l)),(1,D.v (V.fn F fs cs)),(7,di (l.length:Int)),(8,di (↑0:Int))]) σ0) ?_
 refine⟨by simp,rfl,⟨?_⟩⟩
 exact UZ F fs cs p l hl hp _ 0 rfl
noncomputable abbrev Z9:Func:= Tryz.f70
theorem FE(F:FuncId)(fs cs:List V)(p:Rul->Bool)(l:List (Rul))(hl:l.length<=1000000)(hp:∀x∈l,Aa PP F ((fs++[Ah x]++cs).map .v) σ0 (db (p x)) σ0):
  Aa PP 70 [dl (l.map Ah),.v (.fn F fs cs)] σ0 (db (l.any p)) σ0:=by
 refine sv Z9 9 [] (.c (di (ixM p l 0)) .r) (F0 101 [D.v (V.list (map Ah l)),D.v (V.fn F fs cs)] (di (ixM p l 0))/\db (decide (ixM p l 0>=0))=db (List.any l p)) ?_
 exact⟨UY F fs cs p l hl hp,by rw[←FD]⟩
def Fo(m:Mod):WD:=if m.kind=1 then XB else Zn
def Dl(m:Mod)(r:Rul):Bool:=if m.kind=1 then CR m r else Dm m r
structure Mod.okN(m:Mod):Prop where
 kind:m.kind=1∨m.kind=2∨m.kind=3
 sized:B3 (Fo m) m=true
 ranked:AN m=true
 named:Cu m=true
structure Mod.okS(m:Mod):Prop where
 n:m.okN
 rshort:∀r∈m.rules,r.short
 right:∀r∈m.rules,Dl m r=true
structure Mod.ok(m:Mod):Prop where
 kind:m.kind=1∨m.kind=2∨m.kind=3
 sized:B3 (Fo m) m=true
 ranked:AN m=true
 named:Cu m=true
 rshort:∀r∈m.rules,r.short
 right:∀r∈m.rules,Dl m r=true
 start:Ak (AL m) m.start=true
 ssize:m.start.size<=1000000
theorem Mod.ok.n{m:Mod}(h:m.ok):m.okN:=⟨h.kind,h.sized,h.ranked,h.named⟩
theorem Mod.ok.s{m:Mod}(h:m.ok):m.okS:=⟨h.n,h.rshort,h.right⟩
instance {m:Mod}:Coe m.ok m.okN:=⟨Mod.ok.n⟩
instance {m:Mod}:Coe m.okS m.okN:=⟨Mod.okS.n⟩
instance {m:Mod}:Coe m.ok m.okS:=⟨Mod.ok.s⟩
theorem BC{x a b:Int}(h:An x a b=true):a<=x/\x<=b:=by simpa[An] using h
theorem Mod.okN.sz{m:Mod}(h:m.okN):1<=m.states.length/\m.states.length<=8/\m.rules.length<=12/\1<=m.places.length/\m.places.length<=6/\m.letters.length<=6/\m.ranks.length<=6/\(m.kind≠1->1<=m.letters.length):=by
 have hs:=h.sized
 simp only[B3,Hy,H8] at hs
 obtain⟨h1,h2,h3,h4,h5,h6⟩:=hs
 have h1:=BC h1
 have h3:=BC h3
 have h4:=BC h4
 have hr:=h.ranked
 have hl:(Fo m).pl=1/\(Fo m).ph<=6/\(Fo m).lh<=6/\(m.kind≠1->(Fo m).ll=1):=by
  unfold Fo
  split
  ·rename_i hk
   exact⟨rfl,by decide,by decide,fun hk2=>absurd hk hk2⟩
  ·exact⟨rfl,by decide,by decide,fun _=>rfl⟩
 have hrk:m.ranks.length=0∨m.ranks.length=m.letters.length:=by
  unfold AN at hr
  split at hr
  ·exact .inl (by simpa using hr)
  ·right
   simp only[Hy,HX] at hr
   exact Int.ofNat_inj.1 hr.1
 obtain⟨a1,a2,a3,a4⟩:=hl
 refine⟨by omega,by omega,by omega,by omega,by omega,by omega,by omega,fun hk=>?_⟩
 have:=a4 hk
 omega
theorem Mod.ok.sz{m:Mod}(h:m.ok):1<=m.states.length/\m.states.length<=8/\m.rules.length<=12/\1<=m.places.length/\m.places.length<=6/\m.letters.length<=6/\m.ranks.length<=6/\(m.kind≠1->1<=m.letters.length):=h.n.sz
theorem Mod.okS.short{m:Mod}(h:m.okS):m.short:=by
 obtain⟨h1,h2,h3,h4,h5,h6,h7,h8⟩:=h.n.sz
 exact⟨by omega,by omega,by omega,by omega,by omega,h.rshort⟩
theorem Mod.ok.short{m:Mod}(h:m.ok):m.short:=h.s.short
theorem Mod.okN.good{m:Mod}(h:m.okN):AS 8 (AL m)=true:=by
 obtain⟨h1,h2,h3,h4,h5,h6,h7,h8⟩:=h.sz
 have he:AS 7 (Dh m)=true:=by
  unfold Dh
  split
  ·rfl
  ·rename_i hk
   split
   ·have:=h8 hk
    simp only[AS,Hy,H8];omega
   ·rename_i hk2
    have hk3:m.kind=3:=by rcases h.kind with h|h|h<;>omega
    have hr:=h.ranked
    simp only[AN,hk3,bne_self_eq_false,IV,if_false,Hy,HX,Ii] at hr
    have:=h8 hk
    simp only[AS,CH,Hy,HX,H8,Io,List.any_eq_false,Bool.not_eq_true]
    refine⟨by omega,by omega,by omega,fun x hx=>?_⟩
    have:=BC (hr.2 x hx)
    simp only[Rc,Bool.or_eq_false_iff,IF];omega
 simp only[AL,AS,H3,List.length_replicate,all_cons,Hy,Io,Ia,IF,H8,Ii]
 refine⟨by omega,by omega,⟨by omega,by omega⟩,fun t ht=>?_⟩
 rw[(List.mem_replicate.1 ht).2];exact he
theorem Mod.ok.good{m:Mod}(h:m.ok):AS 8 (AL m)=true:=h.n.good
theorem Xg(m:Mod)(hm:m.okS)(r:Rul)(hr:r∈m.rules):Aa PP 72 [Ad m,BN r] σ0 (db true) σ0:=by
 have h:=hm.right r hr
 rcases hm.n.kind with hk|hk
 ·rw[Dl,HJ hk] at h
  rw[←h];exact MJ m hm.short hk r (hm.rshort r hr)
 ·rw[Dl,HF (by omega)] at h
  rw[←h];exact MI m hm.short hk r (hm.rshort r hr)
noncomputable abbrev Vp:Func:= Tryz.f71
theorem SV(m:Mod)(hm:m.okS)(r:Rul)(hr:r∈m.rules):Aa PP 71 [BN r,.v (.ref (Az m))] σ0 (db false) σ0:=by
 refine sv Vp 8 [2] (.c (db true) .r) (F0 72 [Ad m,BN r] (db true)/\(db !true)=db false) ?_
 exact⟨Xg m hm r hr,rfl⟩
noncomputable abbrev Abp:Func:= Tryz.f73
theorem W6(m:Mod)(t:Typ)(b:Bool)(hk:(m.kind==6)=false)(hT:Aa PP 76 [Ad m] σ0 (dT t) σ0)(hV:Aa PP 75 [dT t,dV m.start] σ0 (db b) σ0):Aa PP 73 [Ad m] σ0 (db b) σ0:=by
 refine sv Abp 22 [1] (.f<|.c (dT t)<|.c (db b) .r) ((m.kind==6)=false/\F0 76 [Ad m] (dT t)/\F0 75 [D.v (vT t),dV m.start] (db b)/\Q (db b)) ?_
 exact⟨hk,hT,hV,rfl⟩
noncomputable abbrev Abo:Func:= Tryz.f45
def W3(b1 b2 b3 b4 b5 b6:Bool):Int:=if b1 then(if b2 then(if b3 then(if b4 then(if b5 then 16 else(if b6 then 0 else 17)) else 13) else 14) else 1) else 15
theorem GT(m:Mod)(b1 b2 b3 b4 b5 b6:Bool)(h1:An m.kind 1 6=b1)(h2:b1=true->Aa PP 67 [Ad m] σ0 (db b2) σ0)(h3:b2=true->Aa PP 68 [Ad m] σ0 (db b3) σ0)(h4:b2=true->Aa PP 69 [Ad m] σ0 (db b4) σ0)
  (h5:b2=true->Aa PP 70 [.v (EV m.rules),.v (.fn 71 [] [.ref (Az m)])] σ0 (db b5) σ0) (h6:b5=false->Aa PP 73 [Ad m] σ0 (db b6) σ0):Aa PP 45 [Ad m] σ0 (di (W3 b1 b2 b3 b4 b5 b6)) σ0:=by
 have h1:=h1▸Cs m.kind 1 6
 refine sv Abo 29 [1] (.c (db b1)<|.b .r<|.c (db b2)<|.b .r<|.c (db b3)<|.b .r<|.c (db b4)<|.b .r<|.c (db b5)<|.b .r<|.c (db b6)<|.b .r .r) (F0 66 [di m.kind,di 1,di 6] (db b1)/\((!b1)=true->di 15=di (W3 b1 b2 b3 b4 b5 b6))/\((!b1)=false->F0 67 [Ad m] (db b2)/\((!b2)=true->di 1=di (W3 b1 b2 b3 b4 b5 b6))/\((!b2)=false->F0 68 [Ad m] (db b3)/\((!b3)=true->di 14=di (W3 b1 b2 b3 b4 b5 b6))/\((!b3)=false->F0 69 [Ad m] (db b4)/\((!b4)=true->di 13=di (W3 b1 b2 b3 b4 b5 b6))/\((!b4)=false->F0 70 [D.v (EV m.rules),D.v (V.fn 71 [] [V.ref (Az m)])] (db b5)/\(b5=true->di 16=di (W3 b1 b2 b3 b4 b5 b6))/\(b5=false->F0 73 [Ad m] (db b6)/\((!b6)=true->di 17=di (W3 b1 b2 b3 b4 b5 b6))/\((!b6)=false->di 0=di (W3 b1 b2 b3 b4 b5 b6)))))))) ?_
 have nb:∀{b:Bool},(!b)=false->b=true:=fun h=>by simpa using h
 have nt:∀{b:Bool},(!b)=true->b=false:=fun h=>by simpa using h
 exact⟨h1,fun e=>by rw[nt e];rfl,fun e1=>⟨h2 (nb e1),fun e=>by rw[nb e1,nt e];rfl,fun e2=>⟨h3 (nb e2),fun e=>by rw[nb e1,nb e2,nt e];rfl,fun e3=>⟨h4 (nb e2),fun e=>by rw[nb e1,nb e2,nb e3,nt e];rfl,fun e4=>⟨h5 (nb e2),fun e=>by rw[nb e1,nb e2,nb e3,nb e4,e];rfl,fun e5=>⟨h6 e5,fun e=>by rw[nb e1,nb e2,nb e3,nb e4,e5,nt e];rfl,fun e=>by rw[nb e1,nb e2,nb e3,nb e4,e5,nb e];rfl⟩⟩⟩⟩⟩⟩
theorem SU(m:Mod)(hm:m.okS):Aa PP 45 [Ad m] σ0 (di (if Ak (AL m) m.start then 0 else 17)) σ0:=by
 obtain⟨h1,h2,h3,h4,h5,h6,h7,h8⟩:=hm.n.sz
 have:=GT m true true true true false (Ak (AL m) m.start) (by rcases hm.n.kind with h|h|h<;>rw[h]<;>rfl) (fun _=>?_) (fun _=>?_) (fun _=>?_) (fun _=>?_) (fun _=>W6 m _ _ (by rcases hm.n.kind with h|h|h<;>rw[h]<;>rfl) (JB m (by omega) (by omega) hm.n.kind) (G4 _ hm.n.good _))
 ·exact this
 ·have:=CQ (Fo m) m (by
   unfold Fo
   rcases hm.n.kind with h|h|h<;>rw[h]
   ·exact Aau
   ·exact Aat
   ·exact Aas)
  rwa[hm.n.sized] at this
 ·have:=De m (by omega)
  rwa[hm.n.ranked] at this
 ·have:=Fm m (by simp only[Bz,IK,List.flatten_nil,HC,H7];omega)
  rwa[hm.n.named] at this
 ·have:=FE 71 [] [.ref (Az m)] (fun _=>false) m.rules (by omega) (fun r hr=>SV m hm r hr)
  rw[show m.rules.any (fun _=>false)=false by simp] at this
  exact this
theorem Ot(m:Mod)(hm:m.ok):Aa PP 45 [Ad m] σ0 (di 0) σ0:=by
 have:=SU m hm
 rwa[hm.start,HJ rfl] at this
noncomputable abbrev Zz:Func:= Tryz.f47
theorem Oc(m:Mod)(hm:m.ok)(v:Val):Aa PP 47 [Ad m,dV v] σ0 (db (Ak (AL m) v)) σ0:=by
 refine sv Zz 14 [2,3] (.c (di 0)<|.c (dT (AL m))<|.c (db (Ak (AL m) v)) .r) (F0 45 [Ad m] (di 0)/\F0 76 [Ad m] (dT (AL m))/\F0 75 [D.v (vT (AL m)),dV v] (db (Ak (AL m) v))/\Q (db (Ak (AL m) v))) ?_
 obtain⟨h1,h2,h3,h4,h5,h6,h7,h8⟩:=hm.sz
 exact⟨Ot m hm,JB m (by omega) (by omega) hm.kind,G4 _ hm.good v,rfl⟩
theorem Sj(m:Mod)(hm:m.ok)(v:Val)(_:v.size<=1000000):Aa PP 47 [Ad m,dV v] σ0 (db (Ak (AL m) v)) σ0:=Oc m hm v
noncomputable abbrev Aab:Func:= Tryz.f27
theorem T0(m:Mod)(hm:m.ok):Aa PP 27 [Ad m] σ0 (di 0) σ0:=by
 refine sv Aab 12 [1] (.c (di 0)<|.k<|.f .r) (F0 45 [Ad m] (di 0)/\(m.kind==6)=false/\Q (di 0)) ?_
 exact⟨Ot m hm,by rcases hm.kind with h|h|h<;>rw[h]<;>rfl,rfl⟩
noncomputable abbrev Ab0:Func:= Tryz.f46
noncomputable abbrev Aa2:Func:= Tryz.f74
def B1(m:Mod):Bool:=(m.kind==1)&&m.rules.all fun r=> !decide ((r.move.length:Int)>0)
theorem QQ(r:Rul):Aa PP 74 [BN r] σ0 (db (decide ((r.move.length:Int)>0))) σ0:=by
 refine sv Aa2 7 [1] .r (db (decide ((length (map vi r.move):Int)>0))=db (decide ((r.move.length:Int)>0))) ?_
 rw[Hw]
theorem N9(m:Mod)(hm:m.rules.length<=1000000):Aa PP 46 [Ad m] σ0 (db (B1 m)) σ0:=by
 refine sv Ab0 12 [1] (.b (.c (db (m.rules.any fun r=>decide ((r.move.length:Int)>0))) .r) .r) (((m.kind==1)=true->F0 70 [D.v (EV m.rules),D.v (V.fn 74 [] [])] (db (List.any m.rules fun r=>decide ((r.move.length:Int)>0)))/\(db !List.any m.rules fun r=>decide ((r.move.length:Int)>0))=db (B1 m))/\((m.kind==1)=false->db false=db (B1 m))) ?_
 refine⟨fun h=>⟨FE _ [] [] _ m.rules hm fun r _=>QQ r,?_⟩,fun h=>?_⟩
 ·simp only[B1,h,HV]
  rw[←KX];simp only[Bool.not_not]
 ·simp only[B1,h,HT]
noncomputable abbrev Zu:Func:= Tryz.f32
theorem Lr(a b:Val)(ha:a.fit):Aa PP 32 [dV a,dV b] σ0 (db (Aq a b==0)) σ0:=by
 refine sv Zu 9 [2,3] (.c (di (Aq a b)) .r) (F0 55 [dV a,dV b] (di (Aq a b))/\Q (db (Aq a b==0))) ?_
 exact⟨Oo _ a b (H5 _) ha,rfl⟩
end Go.Proofs.YtpmahmngmgnnbaaGreatDoor
