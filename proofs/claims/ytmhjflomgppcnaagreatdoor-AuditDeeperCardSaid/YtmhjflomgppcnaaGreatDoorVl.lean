/-
  A part of the proof.
-/
import Derived.Test.YtmhjflomgppcnaaGreatDoorZh
import Derived.Test.YtmhjflomgppcnaaGreatDoorZi
import Derived.Test.YtmhjflomgppcnaaGreatDoorZe
namespace Go.Proofs.YtmhjflomgppcnaaGreatDoor
open Go.Dv Go.Nv
set_option maxRecDepth 20000
open Go.IntKind (wrap i64 u64)
theorem Ad0(s:List UInt8){o:Oper}{c:Call}{fo:Operand}(ho:o.op=.call c)(hc:c.callee=.value fo):Ah PP o [.v (.fn 6 [] []),.v (vBs s)] σ0 (.ptr 0 0) (dz (s.take 200) 0):=by
 have:=CT (σ:=σ0) ho hc (fD:=.v (.fn 6 [] [])) rfl (ds:=[.v (vBs s)]) [] id (Aav s) (.cons (.ren (dc:=.v (vBs s)) rfl) .nil) .nil (by simp) rfl (by simp) (by simp) rfl (by rfl)
 simp[Gi,CM,Gg,D.ren,D.rens,rho] at this
 exact this
theorem NH(S:Val->List Stp×Int)(v:Val):∀d:Nat,∃d',d'<=d/\Py S v d=A7 S 256 d' v/\((A7 S 256 d' v).2.2=0∨d'=0)/\∀j,d'<j->j<=d->(A7 S 256 j v).2.2≠0
 |0=>⟨0,HB _,rfl,.inr rfl,fun j h1 h2=>by omega⟩
 |d+1=>by
  rw[Py]
  by_cases h:((A7 S 256 (d+1) v).2.2 !=0)=true
  ·rw[HP h]
   obtain⟨d',h1,h2,h3,h4⟩:=NH S v d
   refine⟨d',by omega,h2,h3,fun j hj1 hj2=>?_⟩
   by_cases e:j=d+1
   ·subst e;simpa using h
   ·exact h4 j hj1 (by omega)
  ·rw[HL h]
   exact⟨d+1,HB _,rfl,.inl (by simpa using h),fun j h1 h2=>by omega⟩
def AcO(sh:Val->Bool)(r:List Val×Bool×Int):Bool:=if (r.2.2 !=0)=true then true else !r.1.any sh
theorem Yd(S:Val->List Stp×Int)(v:Val)(sh:Val->Bool){k d:Nat}(hk:k<=d)(h:AcO sh (Py S v d)=true):AcO sh (Py S v k)=true:=by
 obtain⟨d1,a1,a2,a3,a4⟩:=NH S v d
 obtain⟨k1,b1,b2,b3,b4⟩:=NH S v k
 rw[a2] at h
 rw[b2]
 unfold AcO at h⊢
 by_cases hk0:((A7 S 256 k1 v).2.2 !=0)=true
 ·rw[HP hk0]
 ·rw[HL hk0]
  have hke:(A7 S 256 k1 v).2.2=0:=by simpa using hk0
  have hkd:k1<=d1:=by
   rcases Nat.lt_or_ge d1 k1 with hlt|hge
   ·exact absurd hke (a4 k1 hlt (by omega))
   ·exact hge
  have hde:(A7 S 256 d1 v).2.2=0:=by
   rcases a3 with a3|a3
   ·exact a3
   ·have:k1=d1:=by omega
    rw[←this];exact hke
  rw[HL (by rw[hde];decide)] at h
  have hsub:=(Qm S 256 v hkd hde).2
  simp only[Iv,List.any_eq_false] at h⊢
  exact fun x hx=>h x (hsub x hx)
theorem Fg.agrees{m:Mod}(h:Fg m){t:Val}(ht:Ace m t){k:Int}(hk:k=1∨k=2)(rest:List V):∃sh:Val->Bool,∀d:Nat,d<=16->Aa PP 15 [Ag m,dQ ⟨k,0,t⟩,.v (Acm false rest),di d] σ0 (.tup [db (AcO sh (Py (C2 m) m.start d)),di 0]) σ0:=by
 have hst:=h.steps
 have hI:=h.int
 have htv:Aj (Ade m) t=true:=ht.cfgA h
 have htz:=F3 htv
 have hC:∀d:Nat,d<=16->(Py (C2 m) m.start d).1.length<=256/\∀c∈ (Py (C2 m) m.start d).1,F1 m c:=fun d hd=>by
  obtain⟨d',_,e,_,_⟩:=NH (C2 m) m.start d
  rw[e]
  obtain⟨c1,c2⟩:=AcE hst 256 d' [m.start] [] 0 (by simp) (fun v hv=>by rw[HK.1 hv];exact hst.start) (by simp)
  unfold A7
  split
  ·exact⟨by simp,by simp⟩
  ·exact⟨by show(sortV _).length<=256;rw[(AH _).length_eq];omega,fun c hc=>c2 c ((AH _).mem_iff.1 hc)⟩
 have hval:EP m (Ade m) ⟨k,0,t⟩=true:=by
  rcases hk with rfl|rfl<;>simp[EP,htv]
 have hck:Aa PP 32 [Ag m,dQ ⟨k,0,t⟩] σ0 (di 0) σ0:=by
  have hv:Aa PP 67 [Ag m,dQ ⟨k,0,t⟩] σ0 (db (EP m (Ade m) ⟨k,0,t⟩)) σ0:=by
   rcases hk with rfl|rfl
   ·exact SR m _ hI 0 t (by omega)
   ·exact SQ m _ hI 0 t (by omega)
  rw[hval] at hv
  exact VH m _ hI _ true hv
 rcases hk with rfl|rfl
 ·obtain⟨p,hp⟩:=h.leq
  refine⟨p t,fun d hd=>Sm hst _ rest d hd (.inl rfl) hck fun d'=>?_⟩
  obtain⟨c1,c2⟩:=hC d hd
  generalize Py (C2 m) m.start d=r at*
  unfold AcO
  by_cases he:(r.2.2 !=0)=true
  ·rw[HP he];exact Yb m _ rest d' r he
  ·rw[HL he];exact Yc m t rest d' r (HG he) (by omega) _ (fun c hc=>hp t c htv (c2 c hc))
 ·refine⟨fun c=>Au c t==0,fun d hd=>Sm hst _ rest d hd (.inr rfl) hck fun d'=>?_⟩
  obtain⟨c1,c2⟩:=hC d hd
  generalize Py (C2 m) m.start d=r at*
  unfold AcO
  by_cases he:(r.2.2 !=0)=true
  ·rw[HP he];exact Yb m _ rest d' r he
  ·rw[HL he];exact Ya m t rest d' r (HG he) (by omega) (fun c hc=>by have:=F3 (c2 c hc);omega)
noncomputable abbrev AgI:Func:= Tryz.f4
noncomputable abbrev Akx:=(Azh [Azk true,Azk false,Azf [],Azf [],Azf [],vi 0,Azf [],Azf [],Azf [],Azf [],Azf [],vi 0])
noncomputable abbrev Alc:=(some [db true,db false,D.v (Azf []),D.v (Azf []),D.v (Azf []),di 0,D.v (Azf []),D.v (Azf []),D.v (Azf []),D.v (Azf []),D.v (Azf []),di 0])
noncomputable abbrev Alu:=fun a₀ b₀ c₀=>Aa PP 7 [Azb 0 0] (Azd [some (cDz a₀ 0)] []) (Ag b₀) (dz a₀ c₀)
noncomputable abbrev Al1:=fun a₀ b₀=>(N0 [D.v (Azl 6 [] []),D.v (vBs a₀)] σ0 (Azb 0 0) (dz b₀ 0))
noncomputable abbrev Al3:=fun a₀=>(Azh [vi (Qst.mk 2 0 a₀).kind,vi (Qst.mk 2 0 a₀).place,vi (Val.n (Qst.mk 2 0 a₀).target),vVs (Val.kids (Qst.mk 2 0 a₀).target)])
noncomputable abbrev Al4:=fun a₀=>(Azh [vi (Qst.mk 1 0 a₀).kind,vi (Qst.mk 1 0 a₀).place,vi (Val.n (Qst.mk 1 0 a₀).target),vVs (Val.kids (Qst.mk 1 0 a₀).target)])
noncomputable abbrev Anc:=F0 5 [] (db true)
noncomputable abbrev App:=fun a₀=>(some [di (Qst.mk 2 0 a₀).kind,di (Qst.mk 2 0 a₀).place,di (Val.n (Qst.mk 2 0 a₀).target),D.v (vVs (Val.kids (Qst.mk 2 0 a₀).target))])
noncomputable abbrev Apq:=fun a₀=>(some [di (Qst.mk 1 0 a₀).kind,di (Qst.mk 1 0 a₀).place,di (Val.n (Qst.mk 1 0 a₀).target),D.v (vVs (Val.kids (Qst.mk 1 0 a₀).target))])
theorem deeper_spec(s:List UInt8):Aa PP 4 [.v (vBs s)] σ0 (db true) σ0:=by
 obtain⟨l,hl⟩:∃l,l=s.take 200:=⟨_,rfl⟩
 have hll:l.length<=200:=by rw[hl,HY];omega
 have hnew:=fun(o:Oper) (c:Call) (fo:Operand) (ho:o.op=.call c) (hc:c.callee=.value fo)=>hl▸Ad0 s ho hc
 obtain⟨m,a1,hmk,m2,m3⟩:=Ahw l hll 0 (Ic _)
 obtain⟨q,a2,q1,q2,q3⟩:=AbS m hmk l hll a1 m2
 obtain⟨r,a3,r1,r2,r3,r4⟩:=Ax l hll a2 q1 3 (by decide) (by decide)
 obtain⟨n,rfl⟩:∃n:Nat,r=n:=⟨r.toNat,by omega⟩
 obtain⟨k,pl,t⟩:=q
 by_cases hk:k=1∨k=2
 ·obtain⟨hp,ht⟩:=q2 hk
  dsimp only at hp ht
  subst hp
  obtain⟨sh,hA⟩:=hmk.agrees ht hk [.list [],.list [],.list [],vi 0,.list [],.list [],.list [],.list [],.list [],vi 0]
  have h3:=hA 3 (by decide)
  have hn:=hA n (by omega)
  have hle:=Yd (C2 m) m.start sh (k:=n) (d:=3) (by omega)
  generalize AcO sh (Py (C2 m) m.start 3)=b3 at*
  generalize AcO sh (Py (C2 m) m.start n)=bn at*
  have hb:b3=false∨(b3=true/\bn=true):=by cases b3<;>simp_all
  rcases hk with rfl|rfl
  ·rcases hb with rfl|⟨rfl,rfl⟩
   ·refine sv AgI 58 [] (.c (db true)<|.h (.oc (.ptr 0 0) (dz l 0))<|.c1 (cDz l a1) (Ag m)<|.c1 (cDz l a2) (dQ ⟨1,0,t⟩)<|.k<|.c (.tup [db false,di 0])<|.c1 (cDz l a3) (di n)<|.c (.tup [db bn,di 0]) .r) (Anc/\(Al1 s l)/\Alu l m a1/\Aa PP 14 [Azb 0 0,Ag m] (dz l a1) (dQ (Qst.mk 1 0 t)) (dz l a2)/\F0 15 [Ag m,D.v (Al4 t),D.v Akx,di 3] (Azn [db false,di 0])/\Ak6 l a2 n a3/\F0 15 [Ag m,D.v (Al4 t),D.v Akx,di (n:Int)] (Azn [db bn,di 0])/\((Q (some [di m.kind,D.v (vSs m.states),D.v (vSs m.places),D.v (vSs m.letters),dIs m.ranks,di m.levels,di m.age,D.v (CJ m.rules),di m.start.n,dVs m.start.kids])/\True)/\(Q (Apq t)/\True)/\(Q Alc/\True)/\True)/\Q (db true)) ?_
    exact⟨F6,hnew,m3,q3,h3,r4,hn,⟨⟨rfl,Ji⟩,⟨rfl,Ji⟩,⟨rfl,Ji⟩,Ji⟩,rfl⟩
   ·refine sv AgI 58 [] (.c (db true)<|.h (.oc (.ptr 0 0) (dz l 0))<|.c1 (cDz l a1) (Ag m)<|.c1 (cDz l a2) (dQ ⟨1,0,t⟩)<|.k<|.c (.tup Arj)<|.c1 (cDz l a3) (di n)<|.c (.tup Arj) .r) (Anc/\(Al1 s l)/\Alu l m a1/\Aa PP 14 [Azb 0 0,Ag m] (dz l a1) (dQ (Qst.mk 1 0 t)) (dz l a2)/\F0 15 [Ag m,D.v (Al4 t),D.v Akx,di 3] (Azn Arj)/\Ak6 l a2 n a3/\F0 15 [Ag m,D.v (Al4 t),D.v Akx,di (n:Int)] (Azn Arj)/\((Q (some [di m.kind,D.v (vSs m.states),D.v (vSs m.places),D.v (vSs m.letters),dIs m.ranks,di m.levels,di m.age,D.v (CJ m.rules),di m.start.n,dVs m.start.kids])/\True)/\(Q (Apq t)/\True)/\(Q Alc/\True)/\True)/\Q (db true)) ?_
    exact⟨F6,hnew,m3,q3,h3,r4,hn,⟨⟨rfl,Ji⟩,⟨rfl,Ji⟩,⟨rfl,Ji⟩,Ji⟩,rfl⟩
  ·rcases hb with rfl|⟨rfl,rfl⟩
   ·refine sv AgI 58 [] (.c (db true)<|.h (.oc (.ptr 0 0) (dz l 0))<|.c1 (cDz l a1) (Ag m)<|.c1 (cDz l a2) (dQ ⟨2,0,t⟩)<|.k<|.c (.tup [db false,di 0])<|.c1 (cDz l a3) (di n)<|.c (.tup [db bn,di 0]) .r) (Anc/\(Al1 s l)/\Alu l m a1/\Aa PP 14 [Azb 0 0,Ag m] (dz l a1) (dQ (Qst.mk 2 0 t)) (dz l a2)/\F0 15 [Ag m,D.v (Al3 t),D.v Akx,di 3] (Azn [db false,di 0])/\Ak6 l a2 n a3/\F0 15 [Ag m,D.v (Al3 t),D.v Akx,di (n:Int)] (Azn [db bn,di 0])/\((Q (some [di m.kind,D.v (vSs m.states),D.v (vSs m.places),D.v (vSs m.letters),dIs m.ranks,di m.levels,di m.age,D.v (CJ m.rules),di m.start.n,dVs m.start.kids])/\True)/\(Q (App t)/\True)/\(Q Alc/\True)/\True)/\Q (db true)) ?_
    exact⟨F6,hnew,m3,q3,h3,r4,hn,⟨⟨rfl,Ji⟩,⟨rfl,Ji⟩,⟨rfl,Ji⟩,Ji⟩,rfl⟩
   ·refine sv AgI 58 [] (.c (db true)<|.h (.oc (.ptr 0 0) (dz l 0))<|.c1 (cDz l a1) (Ag m)<|.c1 (cDz l a2) (dQ ⟨2,0,t⟩)<|.k<|.c (.tup Arj)<|.c1 (cDz l a3) (di n)<|.c (.tup Arj) .r) (Anc/\(Al1 s l)/\Alu l m a1/\Aa PP 14 [Azb 0 0,Ag m] (dz l a1) (dQ (Qst.mk 2 0 t)) (dz l a2)/\F0 15 [Ag m,D.v (Al3 t),D.v Akx,di 3] (Azn Arj)/\Ak6 l a2 n a3/\F0 15 [Ag m,D.v (Al3 t),D.v Akx,di (n:Int)] (Azn Arj)/\((Q (some [di m.kind,D.v (vSs m.states),D.v (vSs m.places),D.v (vSs m.letters),dIs m.ranks,di m.levels,di m.age,D.v (CJ m.rules),di m.start.n,dVs m.start.kids])/\True)/\(Q (App t)/\True)/\(Q Alc/\True)/\True)/\Q (db true)) ?_
    exact⟨F6,hnew,m3,q3,h3,r4,hn,⟨⟨rfl,Ji⟩,⟨rfl,Ji⟩,⟨rfl,Ji⟩,Ji⟩,rfl⟩
 ·have k1:(k !=1)=true:=by simpa using fun e=>hk (.inl e)
  have k2:(k !=2)=true:=by simpa using fun e=>hk (.inr e)
  refine sv AgI 58 [] (.c (db true)<|.h (.oc (.ptr 0 0) (dz l 0))<|.c1 (cDz l a1) (Ag m)<|.c1 (cDz l a2) (dQ ⟨k,pl,t⟩)<|.t<|.t .r) (Anc/\(Al1 s l)/\Alu l m a1/\Aa PP 14 [Azb 0 0,Ag m] (dz l a1) (dQ (Qst.mk k pl t)) (dz l a2)/\((Qst.mk k pl t).kind !=1)=true/\((Qst.mk k pl t).kind !=2)=true/\Q (db true)) ?_
  exact⟨F6,hnew,m3,q3,k1,k2,rfl⟩
end Go.Proofs.YtmhjflomgppcnaaGreatDoor
