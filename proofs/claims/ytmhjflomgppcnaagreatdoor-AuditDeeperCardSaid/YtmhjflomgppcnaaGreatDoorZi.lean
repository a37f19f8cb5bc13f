/-
  A part of the proof.
-/
import Derived.Test.YtmhjflomgppcnaaGreatDoorZh
import Derived.Test.YtmhjflomgppcnaaGreatDoorZd
namespace Go.Proofs.YtmhjflomgppcnaaGreatDoor
open Go.Dv Go.Nv
set_option maxRecDepth 20000
open List (length map take)
open Go.IntKind (wrap i64 u64)
theorem Abe(S:Val->List Stp×Int)(most:Int)(d:Nat):∀(l:List Val) (st:List (List Stp)) (frm:Nat),∀x∈l,x∈ (BU S most d l st frm).found:=by
 induction d with
 |zero=>
  intro l st frm x hx
  rw[BU]
  split
  ·exact hx
  ·split<;>exact hx
 |succ d ih=>
  intro l st frm x hx
  rw[BU]
  split
  ·exact hx
  ·split
   ·exact hx
   ·split
    ·exact hx
    ·exact ih _ _ _ x (Iq.2 (.inl hx))
theorem Xk(S:Val->List Stp×Int)(most:Int)(d:Nat):∀(l:List Val) (st:List (List Stp)) (frm:Nat),(BU S most (d+1) l st frm).err=0->(BU S most d l st frm).err=0/\∀x∈ (BU S most d l st frm).found,x∈ (BU S most (d+1) l st frm).found:=by
 induction d with
 |zero=>
  intro l st frm h
  refine⟨?_,fun x hx=>Abe S most (0+1) l st frm x ?_⟩
  ·rw[BU.eq_def S most (0+1)] at h
   rw[BU.eq_def S most 0]
   dsimp only at h⊢
   by_cases h1:((BF S (l.drop st.length) st).2 !=0)=true
   ·rw[HP h1] at h⊢;exact h
   ·rw[HL h1]
    split<;>rfl
  ·rw[BU.eq_def S most 0] at hx
   dsimp only at hx
   split at hx
   ·exact hx
   ·split at hx<;>exact hx
 |succ d ih=>
  intro l st frm h
  rw[BU.eq_def S most (d+1+1)] at h
  rw[BU.eq_def S most (d+1),BU.eq_def S most (d+1+1)]
  dsimp only at h⊢
  by_cases h1:((BF S (l.drop st.length) st).2 !=0)=true
  ·rw[HP h1] at h
   rw[HP h1,HP h1]
   exact⟨h,fun x hx=>hx⟩
  ·rw[HL h1] at h
   rw[HL h1,HL h1]
   by_cases h2:(((G8 l ((BF S (l.drop st.length) st).1.drop frm) []).length:Int)==0)=true
   ·rw[HP h2,HP h2]
    exact⟨rfl,fun x hx=>hx⟩
   ·rw[HL h2] at h
    rw[HL h2,HL h2]
    by_cases h3:decide (((l.length+(G8 l ((BF S (l.drop st.length) st).1.drop frm) []).length:Nat):Int)>most)=true
    ·rw[HP h3] at h
     exact absurd (show(1:Int)=0 from h) (by decide)
    ·rw[HL h3] at h
     rw[HL h3,HL h3]
     exact ih _ _ _ h
theorem Nx(S:Val->List Stp×Int)(most:Int)(d:Nat)(v:Val)(h:(A7 S most (d+1) v).2.2=0):(A7 S most d v).2.2=0/\∀x∈ (A7 S most d v).1,x∈ (A7 S most (d+1) v).1:=by
 have hz:∀r:ExR,((r.err !=0)=true)=(r.err≠0):=fun r=>by simp
 unfold A7 at h⊢
 by_cases he:((BU S most (d+1) [v] [] 0).err !=0)=true
 ·rw[HP he] at h
  exact absurd h (by simpa using he)
 ·have he0:(BU S most (d+1) [v] [] 0).err=0:=by simpa using he
  obtain⟨h1,h2⟩:=Xk S most d [v] [] 0 he0
  rw[HL he,HL (by rw[h1];decide)]
  exact⟨rfl,fun x hx=>(AH _).mem_iff.2 (h2 x ((AH _).mem_iff.1 hx))⟩
theorem Qm(S:Val->List Stp×Int)(most:Int)(v:Val){i j:Nat}(hij:i<=j)(h:(A7 S most j v).2.2=0):(A7 S most i v).2.2=0/\∀x∈ (A7 S most i v).1,x∈ (A7 S most j v).1:=by
 induction hij with
 |refl=>exact⟨h,fun x hx=>hx⟩
 |step hij ih=>
  obtain⟨h1,h2⟩:=Nx S most _ v h
  obtain⟨h3,h4⟩:=ih h1
  exact⟨h3,fun x hx=>h2 x (h4 x hx)⟩
noncomputable abbrev AjP:Func:= Tryz.f38
theorem GU(x:Int)(hx:0<=x/\x<2147483647)(n:Int)(hn:1<=n/\n<=1000):∃r x':Int,(0<=r/\r<n)/\(0<=x'/\x'<2147483647)/\Aa PP 38 [.ptr 0 0,di n] ⟨[some [di x]],[]⟩ (di r) ⟨[some [di x']],[]⟩:=by
 refine⟨(x.tdiv 8).tmod n,(x*48271).tmod 2147483647,?_,?_,?_⟩
 ·have h1:=Int.emod_nonneg (x/8) (show n≠0 by omega)
  have h2:=Int.emod_lt_of_pos (x/8) (show 0<n by omega)
  rw[Int.tdiv_eq_ediv_of_nonneg hx.1,Int.tmod_eq_emod_of_nonneg (by omega)]
  exact⟨h1,h2⟩
 ·rw[Int.tmod_eq_emod_of_nonneg (by omega)]
  omega
 refine sv AjP 23 [] (.ro) (iz 8≠0/\iz 2147483647≠0/\n≠0/\okH 1 [] [some [di (Int.tmod (wrap i64 (x*48271)) 2147483647)]]=true/\[some [di (Int.tmod (wrap i64 (x*48271)) 2147483647)]]=[some [di (Int.tmod (x*48271) 2147483647)]]/\di (Int.tmod (wrap i64 (Int.tdiv x 8)) n)=di (Int.tmod (Int.tdiv x 8) n)) ?_
 rw[Al (n:=x*48271) (by omega) (by omega),Al (n:=x.tdiv 8) (by rw[Int.tdiv_eq_ediv_of_nonneg hx.1];omega) (by rw[Int.tdiv_eq_ediv_of_nonneg hx.1];omega)]
 exact⟨by decide,by decide,by omega,rfl,rfl,rfl⟩
noncomputable abbrev AjX:Func:= Tryz.f39
noncomputable abbrev Ai6:Func:= Tryz.f71
noncomputable abbrev AjY:Func:= Tryz.f120
noncomputable abbrev AjH:Func:= Tryz.f165
def dig(i:Nat):List UInt8:=[48+UInt8.ofNat i]
noncomputable abbrev Aok:=(Aze #[48,49,50,51,52,53,54,55,56,57,97,98,99,100,101,102,103,104,105,106,107,108,109,110,111,112,113,114,115,116,117,118,119,120,121,122])
theorem Zs(i:Nat)(hi:i<10):Aa PP 165 [di i] σ0 (ds (dig i)) σ0:=by
 refine sv AjH 15 [] (.t .r) (decide ((i:Int)<10)=true/\0<=(fun x=>x.snd) (Anx i)/\(fun x=>x.snd) (Anx i)<=(fun x=>x.snd) (i64,wrap i64 ((i:Int)+1))/\(fun x=>x.snd) (i64,wrap i64 ((i:Int)+1))<=(↑(length Aok.data.toList):Int)/\D.v (Azg (List.drop (Int.toNat ((fun x=>x.snd) (Anx i))) (take (Int.toNat ((fun x=>x.snd) (i64,wrap i64 ((i:Int)+1)))) Aok.data.toList)))=D.v (Azg (dig i))) ?_
 rcases(show i=0∨i=1∨i=2∨i=3∨i=4∨i=5∨i=6∨i=7∨i=8∨i=9 by omega) with rfl|rfl|rfl|rfl|rfl|rfl|rfl|rfl|rfl|rfl<;>exact⟨by decide,by decide,by decide,by decide,by rfl⟩
theorem AaR(i:Nat)(hi:i<10):Aa PP 120 [di i,di 10] σ0 (ds (dig i)) σ0:=by
 refine sv AjY 54 [] (.k<|.t<|.t<|.c (ds (dig i)) .r) (decide (0<=(i:Int))=true/\decide ((i:Int)<100)=true/\F0 165 [di (i:Int)] (D.v (Azg (dig i)))/\Q (D.v (Azg (dig i)))) ?_
 exact⟨H6 (by omega),H6 (by omega),Zs i hi,rfl⟩
theorem AaJ(i:Nat)(hi:i<10):Aa PP 39 [di i] σ0 (ds (dig i)) σ0:=by
 have h1:=AaR i hi
 have h2:Aa PP 71 [di i] σ0 (ds (dig i)) σ0:=by
  refine sv Ai6 5 [] (.c (ds (dig i)) .r) (F0 120 [di (i:Int),di 10] (D.v (Azg (dig i)))/\Q (D.v (Azg (dig i)))) ?_
  exact⟨h1,rfl⟩
 refine sv AjX 5 [] (.c (ds (dig i)) .r) (F0 71 [di (i:Int)] (D.v (Azg (dig i)))/\Q (D.v (Azg (dig i)))) ?_
 exact⟨h2,rfl⟩
noncomputable abbrev Agu:Func:= Tryz.f40
noncomputable def AeM:Code:=Agu.body.getD .skip
theorem Z1(l:List Int)(hl:l.length<=1000)(s:Int)(n:Nat):∀(k:Nat) (xs:List Val),l.length-k=n->xs.length=k+1->
  Rn PP Agu 0 (dV (.mk 0 (xs++(l.drop k).map fun x=>.mk x []))) σ0 ([.lp (sub AeM [1,1,0,1,0,0]),.blk 0,.code (sub AeM [1,1,1])]++[]) (mkE 27 [(4,.ptr 0 0),(5,.ptr 1 0),(12,dIs l),(13,di l.length),(14,di k)]) (Yr s xs):=by
 induction n with
 |zero=>
  intro k xs hk hx
  refine lv 27 [] (.f .r) (decide ((k:Int)<(l.length:Int))=false/\D.v (Azh [vi 0,Azf (map eV xs)])=dV (Val.mk 0 (xs++map (fun x=>Val.mk x []) (List.drop k l)))) ?_
  refine⟨H8 (by omega),?_⟩
  rw[HO (by omega),I1,Is];rfl
 |succ n ih=>
  intro k xs hk hxl
  refine lv 27 [] (.t<|.e fun x:Int=>.x (vi x)<|.ls [ke 4,ke 5,ke 12,ke 13,ch 14 (di (k+1:Nat))] (Yr s (xs++[.mk x []]))) (decide ((k:Int)<(l.length:Int))=true/\∃a,0<=(k:Int)/\(map vi l)[Int.toNat (k:Int)]?=some (vi a)/\Q (map eV xs)/\Ar (length (map eV xs)+length (Azh (Amb a)::nV)) 32/\di (wrap i64 ((k:Int)+1))=di (↑(k+1):Int)/\[some [di 0,dn],some [di 0,Azc 1 (map eV xs++Azh (Amb a)::nV)]]=[some [di 0,dn],some [di 0,Azc 1 (map eV (xs++[Val.mk a []]))]]/\[(1,2,map eV xs++Azh (Amb a)::nV)]=[(1,2,map eV (xs++[Val.mk a []]))]/\I0 Agu 0 (dV (Val.mk 0 (xs++map (fun x=>Val.mk x []) (List.drop k l)))) σ0 [kl AeM Akw,Aza 0,kc AeM [1,1,1]] (mkE 27 [(4,Azb 0 0),(5,Azb 1 0),(12,dIs l),(13,di (l.length:Int)),(14,di (↑(k+1):Int))]) (Yr s (xs++[Val.mk a []]))) ?_
  have hk1:k<l.length:=by omega
  have hx:l[k]?=some l[k]:=H4 hk1
  rw[HJ hk1]
  generalize l[k]=x at hx⊢
  have h:=ih (k+1) (xs++[.mk x []]) (by omega) (by simp[hxl])
  rw[IA] at h
  refine⟨H6 (by omega),x,by omega,Aq hx,rfl,⟨?_,?_⟩,Ad (by omega),?_,?_,⟨h⟩⟩
  ·simp only[H3,H9,HD];omega
  ·simp only[H3,H9,HD];omega
  ·rw[←BB];rfl
  ·rw[←BB];rfl
theorem Z0(l:List Int)(hl:l.length<=1000)(s:Int):Aa PP 40 [di s,dIs l] σ0 (dV (C5 s l)) σ0:=by
 refine sv Agu 27 [] (.a 1<|.h .g<|.ls [ke 4,ke 5,ch 12 (dIs l),ch 13 (di l.length),ch 14 (di (0:Nat))] (Yr s [.mk s []])) (Q (dIs l)/\di (length (map vi l):Int)=di (l.length:Int)/\di 0=di (↑0:Int)/\[some [di 0,dn],some [di 0,Azc 1 (Azh (Amb s)::nV)]]=[some [di 0,dn],some [di 0,Azc 1 (eV (Alz s)::nV)]]/\[(1,2,Azh (Amb s)::nV)]=[(1,2,eV (Alz s)::nV)]/\I0 Agu σ0.H.length (dV (C5 s l)) σ0 [kl AeM Akw,Aza 0,kc AeM [1,1,1]] (mkE 27 [(4,Azb 0 0),(5,Azb 1 0),(12,dIs l),(13,di (l.length:Int)),(14,di (↑0:Int))]) (Yr s [Val.mk s []])) ?_
 exact⟨rfl,by rw[H3],rfl,rfl,rfl,⟨Z1 l hl s _ 0 [.mk s []] rfl rfl⟩⟩
noncomputable abbrev WX:Func:= Tryz.f16
noncomputable def DT:Code:=WX.body.getD .skip
def nmS:List (List UInt8):=[[97],[98],[99]]
def nmP:List (List UInt8):=[[120],[121],[122]]
structure AhJ(ns np:Nat)(k:Nat)(r:Rul):Prop where
 name:r.name=114::dig k
 frm:0<=r.frm/\r.frm<ns
 to:0<=r.to/\r.to<ns
 need:r.need.length=np/\∀x∈r.need,0<=x/\x<=2
 give:r.give.length=np/\∀x∈r.give,0<=x/\x<=2
 rest:r=mkV r.name r.frm r.to r.need r.give []
structure FN(m:Mod):Prop where
 kind:m.kind=1
 states:∃n:Nat,1<=n/\n<=3/\m.states=nmS.take n
 places:∃n:Nat,1<=n/\n<=3/\m.places=nmP.take n
 letters:m.letters=[]
 ranks:m.ranks=[]
 levels:m.levels=0
 age:m.age=0
 count:1<=m.rules.length/\m.rules.length<=4
 rules:∀k r,m.rules[k]?=some r->AhJ m.states.length m.places.length k r
 start:∃ys:List Int,ys.length=m.places.length/\(∀x∈ys,0<=x/\x<=3)/\m.start=C5 0 ys
abbrev Afy(x:Int)(S Pl:List (List UInt8))(rs:List Rul):St:=⟨[some zM,some [di x],some (cM S Pl rs)],[(2,14,rs.map Ak)]⟩
abbrev Ae9(x:Int)(S Pl:List (List UInt8))(rs:List Rul)(nm:List UInt8)(f t:Int)(nd gv:List Int):St:=⟨[some zM,some [di x],some (cM S Pl rs),some [.v (.str nm),di f,di t,.acc 3 (nd.map vi),.acc 4 (gv.map vi),.v .nils,di 0,di 0,di 0,.v .nils,.v .nils,.v .nils,.v .nils,di 0]],[(4,1,gv.map vi),(3,1,nd.map vi),(2,14,rs.map Ak)]⟩
set_option linter.unusedSectionVars false
section
variable {S Pl : List (List UInt8)} (hS : 1 <= S.length /\ S.length <= 3) (hP : 1 <= Pl.length /\ Pl.length <= 3) {R : Int} (hR : 1 <= R /\ R <= 4)
include hS hP hR
def Ajz(S Pl:List (List UInt8))(R:Int)(k:Nat)(x:Int)(rs:List Rul):Prop:=∃m:Mod,FN m/\Rn PP WX 0 (Ag m) σ0 ([.lp (sub DT [1,1,1,1,1,1,0,1,0,0]),.blk 0,.code (sub DT [1,1,1,1,1,1,1])]++[]) (mkE 94 [(2,.ptr 0 0),(3,.ptr 1 0),(4,.ptr 2 0),(34,di R),(35,di k)]) (Afy x S Pl rs)
noncomputable abbrev Alr:=fun a₀ b₀ c₀ d₀ e₀=>(Azg (mkV a₀ b₀ c₀ d₀ e₀ []).name::vi (mkV a₀ b₀ c₀ d₀ e₀ []).frm::vi (mkV a₀ b₀ c₀ d₀ e₀ []).to::vIs (mkV a₀ b₀ c₀ d₀ e₀ []).need::vIs (mkV a₀ b₀ c₀ d₀ e₀ []).give::vIs (mkV a₀ b₀ c₀ d₀ e₀ []).move::vi (mkV a₀ b₀ c₀ d₀ e₀ []).chan::vi (mkV a₀ b₀ c₀ d₀ e₀ []).act::vi (mkV a₀ b₀ c₀ d₀ e₀ []).letter::vIs (mkV a₀ b₀ c₀ d₀ e₀ []).path::vIs (mkV a₀ b₀ c₀ d₀ e₀ []).next::AD (mkV a₀ b₀ c₀ d₀ e₀ []).takes::vIs (mkV a₀ b₀ c₀ d₀ e₀ []).makes::vi (mkV a₀ b₀ c₀ d₀ e₀ []).second::nV)
noncomputable abbrev Ami:=fun a₀=>(Azd [some [di a₀]] [])
noncomputable abbrev Ang:=[kl DT [1,1,1,1,1,1,0,1,0,0,1,1,0,0,1,1,0,1,0,0],Aza 2,kc DT [1,1,1,1,1,1,0,1,0,0,1,1,0,0,1,1,1],Aza 1,kc DT [1,1,1,1,1,1,0,1,0,0,1,1,1],kl DT [1,1,1,1,1,1,0,1,0,0],Aza 0,kc DT [1,1,1,1,1,1,1]]
noncomputable abbrev Ao0:=fun a₀ b₀ c₀=>Aa PP 38 [Azb 0 0,di 3] (Ami a₀) (di b₀) (Ami c₀)
theorem Af4{k:Nat}{rs:List Rul}{nm:List UInt8}{f t:Int}(hk:k<=3)(hout:∀(x:Int) (nd gv:List Int),(0<=x/\x<2147483647)->(nd.length=Pl.length/\∀x∈nd,0<=x/\x<=2)->(gv.length=Pl.length/\∀x∈gv,0<=x/\x<=2)->Ajz S Pl R (k+1) x (rs++[mkV nm f t nd gv []]))(hrs:rs.length<=3)(n:Nat):∀(j:Nat) (x:Int) (nd gv:List Int),Pl.length-j=n->j<=Pl.length->(0<=x/\x<2147483647)->(nd.length=j/\∀x∈nd,0<=x/\x<=2)->(gv.length=j/\∀x∈gv,0<=x/\x<=2)->
  ∃m:Mod,FN m/\Rn PP WX 0 (Ag m) σ0 ([.lp (sub DT [1,1,1,1,1,1,0,1,0,0,1,1,0,0,1,1,0,1,0,0]),.blk 2,.code (sub DT [1,1,1,1,1,1,0,1,0,0,1,1,0,0,1,1,1]),.blk 1,.code (sub DT [1,1,1,1,1,1,0,1,0,0,1,1,1]),.lp (sub DT [1,1,1,1,1,1,0,1,0,0]),.blk 0,.code (sub DT [1,1,1,1,1,1,1])]++[]) (mkE 94 [(2,.ptr 0 0),(3,.ptr 1 0),(4,.ptr 2 0),(6,.ptr 3 0),(34,di R),(35,di k),(54,di Pl.length),(55,di j)]) (Ae9 x S Pl rs nm f t nd gv):=by
 induction n with
 |zero=>
  intro j x nd gv hn hj hx hd hg
  obtain⟨m,hm,h⟩:=hout x nd gv hx ⟨by omega,hd.2⟩ ⟨by omega,hg.2⟩
  refine⟨m,hm,?_⟩
  refine lv 94 [] (.f<|.h (.q 16 2)<|.h (.cs ⟨[some zM,some [di x],some (cM S Pl rs),some (cR (mkV nm f t nd gv []))],[(4,1,gv.map vi),(3,1,nd.map vi),(2,14,rs.map Ak)]⟩)<|.ls [ke 2,ke 3,ke 4,ke 34,ch 35 (di (k+1:Nat))] (Afy x S Pl (rs++[mkV nm f t nd gv []]))) (decide ((j:Int)<(Pl.length:Int))=false/\(∀(e:List D) (E:Ent) (g:Gh) (a:Act) (w:World),FI E g (Azd [some zM,some [di x],some (cM S Pl rs),some [D.v (Azg nm),di f,di t,Azc 3 (map vi nd),Azc 4 (map vi gv),dn,di 0,di 0,di 0,dn,dn,dn,dn,di 0]] [(4,1,map vi gv),(3,1,map vi nd),(Alf rs)]) e a w->∃g',FI E g' (Azd [some zM,some [di x],some (cM S Pl rs),some (cR (mkV nm f t nd gv []))] [(4,1,map vi gv),(3,1,map vi nd),(Alf rs)]) e a w)/\Q (map Ak rs)/\Ar (length (map Ak rs)+length (Azh (Azg (mkV nm f t nd gv []).name::V.int i64 (mkV nm f t nd gv []).frm::V.int i64 (mkV nm f t nd gv []).to::vIs (mkV nm f t nd gv []).need::vIs (mkV nm f t nd gv []).give::vIs (mkV nm f t nd gv []).move::V.int i64 (mkV nm f t nd gv []).chan::V.int i64 (mkV nm f t nd gv []).act::V.int i64 (mkV nm f t nd gv []).letter::vIs (mkV nm f t nd gv []).path::vIs (mkV nm f t nd gv []).next::AD (mkV nm f t nd gv []).takes::vIs (mkV nm f t nd gv []).makes::V.int i64 (mkV nm f t nd gv []).second::nV)::nV)) 232/\di (wrap i64 ((k:Int)+1))=di (↑(k+1):Int)/\[some zM,some [di x],some [di 1,D.v (vSs S),D.v (vSs Pl),dn,dn,di 0,di 0,Azc 2 (map Ak rs++Azh (Alr nm f t nd gv)::nV),di 0,dn]]=[some zM,some [di x],some (cM S Pl (rs++[mkV nm f t nd gv []]))]/\[(2,14,map Ak rs++Azh (Alr nm f t nd gv)::nV)]=[(2,14,map Ak (rs++[mkV nm f t nd gv []]))]/\I0 WX 0 (Ag m) σ0 [kl DT [1,1,1,1,1,1,0,1,0,0],Aza 0,kc DT [1,1,1,1,1,1,1]] (mkE 94 [An1,(3,Azb 1 0),(4,Azb 2 0),(34,di R),(35,di (↑(k+1):Int))]) (Afy x S Pl (rs++[mkV nm f t nd gv []]))) ?_
  have ev:=AL rs (mkV nm f t nd gv [])
  refine⟨H8 (by omega),fun e=>?_,rfl,⟨?_,?_⟩,Ad (by omega),HR (fun z=>[some zM,some [di x],some [di 1,.v (vSs S),.v (vSs Pl),.v .nils,.v .nils,di 0,di 0,.acc 2 z,di 0,.v .nils]]) ev,HR (fun z=>[(2,14,z)]) ev,⟨h⟩⟩
  ·exact El (σ:=⟨[some zM,some [di x],some (cM S Pl rs),some [.v (.str nm),di f,di t,.acc 3 (nd.map vi),.acc 4 (gv.map vi),.v .nils,di 0,di 0,di 0,.v .nils,.v .nils,.v .nils,.v .nils,di 0]],[(4,1,gv.map vi),(3,1,nd.map vi),(2,14,rs.map Ak)]⟩) (q:=3) rfl (fun g us hr=>by
    have:=Ds (ts:=[]) (kn:=false) hr
    exact this) (fun _ x hx=>by
    simp only[cR,Ij,IU,or_false] at hx
    rcases hx with rfl|rfl|rfl|rfl|rfl|rfl|rfl|rfl|rfl|rfl|rfl|rfl|rfl|rfl<;>rfl) e
  ·simp only[H3,H9,HD];omega
  ·simp only[H3,H9,HD];omega
 |succ n ih=>
  intro j x nd gv hn hj hx hd hg
  obtain⟨a,x1,a1,a2,a3⟩:=GU x hx 3 (by decide)
  obtain⟨b,x2,b1,b2,b3⟩:=GU x1 a2 3 (by decide)
  obtain⟨m,hm,h⟩:=ih (j+1) x2 (nd++[a]) (gv++[b]) (by omega) (by omega) b2 ⟨by simp;omega,fun y hy=>by
   rcases Iq.1 hy with hy|hy
   ·exact hd.2 y hy
   ·rw[HK.1 hy];omega⟩ ⟨by simp;omega,fun y hy=>by
   rcases Iq.1 hy with hy|hy
   ·exact hg.2 y hy
   ·rw[HK.1 hy];omega⟩
  refine⟨m,hm,?_⟩
  refine lv 94 [] (.t<|.c1 [di x1] (di a)<|.c1 [di x2] (di b)<|.ls [ke 2,ke 3,ke 4,ke 6,ke 34,ke 35,ke 54,ch 55 (di (j+1:Nat))] (Ae9 x2 S Pl rs nm f t (nd++[a]) (gv++[b]))) (decide ((j:Int)<(Pl.length:Int))=true/\Ao0 x a x1/\Q (map vi nd)/\Ar (length (map vi nd)+length (V.int i64 a::nV)) 8/\((Q (some [Azc 3 (map vi nd)])/\True)/\True)/\Ao0 x1 b x2/\Q (map vi gv)/\Ar (length (map vi gv)+length (V.int i64 b::nV)) 8/\((Q (some [Azc 4 (map vi gv)])/\True)/\True)/\di (wrap i64 ((j:Int)+1))=di (↑(j+1):Int)/\[some zM,some [di x2],some (cM S Pl rs),some [D.v (Azg nm),di f,di t,Azc 3 (map vi nd++vi a::nV),Azc 4 (map vi gv++vi b::nV),dn,di 0,di 0,di 0,dn,dn,dn,dn,di 0]]=[some zM,some [di x2],some (cM S Pl rs),some [D.v (Azg nm),di f,di t,Azc 3 (map vi (nd++[a])),Azc 4 (map vi (gv++[b])),dn,di 0,di 0,di 0,dn,dn,dn,dn,di 0]]/\[(4,1,map vi gv++vi b::nV),(3,1,map vi nd++vi a::nV),(Alf rs)]=[(4,1,map vi (gv++[b])),(3,1,map vi (nd++[a])),(Alf rs)]/\I0 WX 0 (Ag m) σ0 Ang (mkE 94 [An1,(3,Azb 1 0),(4,Azb 2 0),(6,Azb 3 0),(34,di R),(35,di (k:Int)),(54,di (Pl.length:Int)),(55,di (↑(j+1):Int))]) (Ae9 x2 S Pl rs nm f t (nd++[a]) (gv++[b]))) ?_
  have e1:(nd++[a]).map vi=nd.map vi++[vi a]:=by simp
  have e2:(gv++[b]).map vi=gv.map vi++[vi b]:=by simp
  rw[Ae9,e1,e2] at h⊢
  refine⟨H6 (by omega),a3,rfl,⟨?_,?_⟩,⟨⟨rfl,trivial⟩,trivial⟩,b3,rfl,⟨?_,?_⟩,⟨⟨rfl,trivial⟩,trivial⟩,Ad (by omega),rfl,rfl,⟨h⟩⟩
  all_goals (simp only[H3,H9,HD];omega)
theorem Zr{m:Mod}(x:Int)(rs:List Rul)(hfin:∀ys:List Int,ys.length=Pl.length->(∀x∈ys,0<=x/\x<=3)->FN ⟨1,S,Pl,[],[],0,0,rs,C5 0 ys⟩)(n:Nat):∀(j:Nat) (x:Int) (ys:List Int),Pl.length-j=n->j<=Pl.length->(0<=x/\x<2147483647)->(ys.length=j/\∀x∈ys,0<=x/\x<=3)->
  ∃m:Mod,FN m/\Rn PP WX 0 (Ag m) σ0 ([.lp (sub DT [1,1,1,1,1,1,1,1,0,1,0,0]),.blk 4,.code (sub DT [1,1,1,1,1,1,1,1,1])]++[]) (mkE 94 [(2,.ptr 0 0),(3,.ptr 1 0),(4,.ptr 2 0),(7,.acc 5 (ys.map vi)),(81,di Pl.length),(82,di j)]) ⟨[some zM,some [di x],some (cM S Pl rs)],[(5,1,ys.map vi),(2,14,rs.map Ak)]⟩:=by
 induction n with
 |zero=>
  intro j x ys hn hj hx hy
  have hc:=Z0 ys (by omega) 0
  have hm:=hfin ys (by omega) hy.2
  generalize C5 0 ys=c at hc hm
  refine⟨_,hm,?_⟩
  refine lv 94 [] (.f<|.c (dV c) .r) (decide ((j:Int)<(Pl.length:Int))=false/\F0 40 [di 0,D.v (Aqp ys)] (dV c)/\D.v (Ant S Pl rs c.n c.kids)=Ag (Mod.mk 1 S Pl [] [] 0 0 rs c)) ?_
  exact⟨H8 (by omega),hc,rfl⟩
 |succ n ih=>
  intro j x ys hn hj hx hy
  obtain⟨a,x1,a1,a2,a3⟩:=GU x hx 4 (by decide)
  obtain⟨m,hm,h⟩:=ih (j+1) x1 (ys++[a]) (by omega) (by omega) a2 ⟨by simp;omega,fun y hy2=>by
   rcases Iq.1 hy2 with hy2|hy2
   ·exact hy.2 y hy2
   ·rw[HK.1 hy2];omega⟩
  refine⟨m,hm,?_⟩
  have e1:(ys++[a]).map vi=ys.map vi++[vi a]:=by simp
  rw[e1] at h
  refine lv 94 [] (.t<|.c1 [di x1] (di a)<|.ls [ke 2,ke 3,ke 4,ch 7 (.acc 5 (ys.map vi++[vi a])),ke 81,ch 82 (di (j+1:Nat))] ⟨[some zM,some [di x1],some (cM S Pl rs)],[(5,1,ys.map vi++[vi a]),(2,14,rs.map Ak)]⟩) (decide ((j:Int)<(Pl.length:Int))=true/\Aa PP 38 [Azb 0 0,di 4] (Ami x) (di a) (Ami x1)/\Q (map vi ys)/\Ar (length (map vi ys)+length (V.int i64 a::nV)) 8/\Q (Azc 5 (map vi ys++[vi a]))/\di (wrap i64 ((j:Int)+1))=di (↑(j+1):Int)/\Q [some zM,some [di x1],some (cM S Pl rs)]/\Q [(5,1,map vi ys++vi a::nV),(Alf rs)]/\I0 WX 0 (Ag m) σ0 [kl DT [1,1,1,1,1,1,1,1,0,1,0,0],Aza 4,kc DT [1,1,1,1,1,1,1,1,1]] (mkE 94 [An1,(3,Azb 1 0),(4,Azb 2 0),(7,Azc 5 (map vi ys++[vi a])),(81,di (Pl.length:Int)),(82,di (↑(j+1):Int))]) (Azd [some zM,some [di x1],some (cM S Pl rs)] [(5,1,map vi ys++[vi a]),(Alf rs)])) ?_
  refine⟨H6 (by omega),a3,rfl,⟨?_,?_⟩,rfl,Ad (by omega),rfl,rfl,⟨h⟩⟩
  all_goals (simp only[H3,H9,HD];omega)
noncomputable abbrev Aly:=fun a₀ b₀ c₀ d₀=>Aa PP 38 [Azb 0 0,di (length (Aks a₀):Int)] (Azd [some [di b₀]] []) (di c₀) (Azd [some [di d₀]] [])
theorem Zq(hfin:∀(rs:List Rul) (ys:List Int),1<=rs.length/\rs.length<=4->(∀k r,rs[k]?=some r->AhJ S.length Pl.length k r)->ys.length=Pl.length->(∀x∈ys,0<=x/\x<=3)->FN ⟨1,S,Pl,[],[],0,0,rs,C5 0 ys⟩)(n:Nat):∀(k:Nat) (x:Int) (rs:List Rul),R.toNat-k=n->k<=R.toNat->(0<=x/\x<2147483647)->rs.length=k->(∀k r,rs[k]?=some r->AhJ S.length Pl.length k r)->Ajz S Pl R k x rs:=by
 induction n with
 |zero=>
  intro k x rs hn hk hx hrs hr
  obtain⟨m,hm,h⟩:=Zr hS hP hR (m:=default) x rs (fun ys h1 h2=>hfin rs ys (by omega) hr h1 h2) _ 0 x [] rfl (by omega) hx ⟨rfl,by simp⟩
  refine⟨m,hm,?_⟩
  refine lv 94 [] (.f<|.h (.q 19 0)<|.h (.nw 7 5 1)<|.ls [ke 2,ke 3,ke 4,ke 7,ch 81 (di Pl.length),ch 82 (di (0:Nat))] ⟨[some zM,some [di x],some (cM S Pl rs)],[(5,1,[]),(2,14,rs.map Ak)]⟩) (decide ((k:Int)<R)=false/\di (length (map Azg Pl):Int)=di (Pl.length:Int)/\di 0=di (↑0:Int)/\Q [some zM,some [di x],some (cM S Pl rs)]/\Q [(5,1,nV),(2,14,map Ak rs)]/\I0 WX 0 (Ag m) σ0 [kl DT [1,1,1,1,1,1,1,1,0,1,0,0],Aza 4,kc DT [1,1,1,1,1,1,1,1,1]] (mkE 94 [(2,Azb 0 0),(3,Azb 1 0),(4,Azb 2 0),(7,Azc 5 []),(81,di (Pl.length:Int)),(82,di (↑0:Int))]) (Azd [some zM,some [di x],some (cM S Pl rs)] [(5,1,[]),(2,14,map Ak rs)])) ?_
  exact⟨H8 (by omega),by rw[H3],rfl,rfl,rfl,⟨h⟩⟩
 |succ n ih=>
  intro k x rs hn hk hx hrs hr
  obtain⟨f,x1,f1,f2,f3⟩:=GU x hx S.length (by omega)
  obtain⟨t,x2,t1,t2,t3⟩:=GU x1 f2 S.length (by omega)
  obtain⟨m,hm,h⟩:=Af4 hS hP hR (k:=k) (rs:=rs) (nm:=114::dig k) (f:=f) (t:=t) (by omega) (fun x nd gv hx h1 h2=>ih (k+1) x _ (by omega) (by omega) hx (by simp[hrs]) fun i r hi=>by
   by_cases hik:i<rs.length
   ·rw[HQ hik] at hi;exact hr i r hi
   ·rw[HN (by omega)] at hi
    have h1i:i-rs.length=0:=by
     have:=(H7.1 hi).1
     simp at this;omega
    rw[h1i] at hi
    simp only[I5,Ia] at hi;subst hi
    have hik2:i=k:=by omega
    subst hik2
    exact⟨rfl,f1,t1,h1,h2,rfl⟩) (by omega) _ 0 x2 [] [] rfl (by omega) t2 ⟨rfl,by simp⟩ ⟨rfl,by simp⟩
  refine⟨m,hm,?_⟩
  have hit:=AaJ k (by omega)
  refine lv 94 [] (.t<|.h (.dr 14)<|.c (ds (dig k))<|.c1 [di x1] (di f)<|.c1 [di x2] (di t)<|.h .rn<|.h (.q 11 0)<|.h (.cl 3 3 3 1)<|.h (.cl 3 4 4 1)<|.ls [ke 2,ke 3,ke 4,ke 6,ke 34,ke 35,ch 54 (di Pl.length),ch 55 (di (0:Nat))] (Ae9 x2 S Pl rs (114::dig k) f t [] [])) (decide ((k:Int)<R)=true/\F0 39 [di (k:Int)] (D.v (Azg (dig k)))/\2<=9223372036854775807/\Aa PP 38 [Azb 0 0,di (length (map Azg S):Int)] (Azd [some [di x]] []) (di f) (Azd [some [di x1]] [])/\Aa PP 38 [Azb 0 0,di (length (map Azg S):Int)] (Azd [some [di x]] []) (di f) (Azd [some [di x1]] [])/\Q (di f)/\Aa PP 38 [Azb 0 0,di (length (map Azg S):Int)] (Azd [some [di x1]] []) (di t) (Azd [some [di x2]] [])/\Aa PP 38 [Azb 0 0,di (length (map Azg S):Int)] (Azd [some [di x1]] []) (di t) (Azd [some [di x2]] [])/\Q (di t)/\Q [Azd [some zM,some [di x],some (cM S Pl rs),some zRl] [(2,14,map Ak rs)],Azd [some zM,some [di x1],some (cM S Pl rs),some zRl] [(2,14,map Ak rs)],Azd [some zM,some [di x2],some (cM S Pl rs),some zRl] [(2,14,map Ak rs)]]/\((Q (some [D.v (vSs S)])/\Q (some [D.v (vSs S)])/\Q (some [D.v (vSs S)])/\Q (some [D.v (vSs S)])/\Q (some [D.v (vSs S)])/\Q (some [D.v (vSs S)])/\Q (some [D.v (vSs S)])/\True)/\(Q (some [D.v (vSs S)])/\Q (some [D.v (vSs S)])/\Q (some [D.v (vSs S)])/\Q (some [D.v (vSs S)])/\Q (some [D.v (vSs S)])/\Q (some [D.v (vSs S)])/\Q (some [D.v (vSs S)])/\True)/\True)/\di (length (map Azg Pl):Int)=di (Pl.length:Int)/\di 0=di (↑0:Int)/\[some zM,some [di x2],some (cM S Pl rs),some [D.v (Azg ((Aze #[114]).data.toList++dig k)),di f,di t,Azc 3 nV,Azc 4 nV,dn,di 0,di 0,di 0,dn,dn,dn,dn,di 0]]=[some zM,some [di x2],some (cM S Pl rs),some [D.v (Azg (114::dig k)),di f,di t,Azc 3 nV,Azc 4 nV,dn,di 0,di 0,di 0,dn,dn,dn,dn,di 0]]/\Q [(4,1,nV),(3,1,nV),(2,14,map Ak rs)]/\I0 WX 0 (Ag m) σ0 [kl DT [1,1,1,1,1,1,0,1,0,0,1,1,0,0,1,1,0,1,0,0],Aza 2,kc DT [1,1,1,1,1,1,0,1,0,0,1,1,0,0,1,1,1],Aza 1,kc DT [1,1,1,1,1,1,0,1,0,0,1,1,1],kl DT [1,1,1,1,1,1,0,1,0,0],Aza 0,kc DT [1,1,1,1,1,1,1]] (mkE 94 [(2,Azb 0 0),(3,Azb 1 0),(4,Azb 2 0),(6,Azb 3 0),(34,di R),(35,di (k:Int)),(54,di (Pl.length:Int)),(55,di (↑0:Int))]) (Ae9 x2 S Pl rs (114::dig k) f t [] [])) ?_
  have hSl:((S.map V.str).length:Int)=(S.length:Int):=by rw[H3]
  rw[hSl]
  repeat' first|with_reducible refine And.intro ?_ ?_
  all_goals first|exact hit|exact f3|exact t3|exact H6 (by omega)|exact⟨h⟩|(rw[H3];done)|rfl|trivial|omega
end
noncomputable abbrev Apk:=[Azg (Aze #[120]).data.toList,Azg (Aze #[121]).data.toList,Azg (Aze #[122]).data.toList]
theorem Af5(seed:Int)(hs:0<=seed/\seed<=1073741824):∃m:Mod,FN m/\Aa PP 16 [di seed] σ0 (Ag m) σ0:=by
 obtain⟨a,x1,a1,a2,a3⟩:=GU (seed+1) (by omega) 3 (by decide)
 obtain⟨b,x2,b1,b2,b3⟩:=GU x1 a2 3 (by decide)
 obtain⟨c,x3,c1,c2,c3⟩:=GU x2 b2 4 (by decide)
 obtain⟨S,hS⟩:∃S,S=nmS.take (1+a).toNat:=⟨_,rfl⟩
 obtain⟨Pl,hP⟩:∃S,S=nmP.take (1+b).toNat:=⟨_,rfl⟩
 have hSl:S.length=(1+a).toNat:=by rw[hS,HY];simp only[nmS,H9,HD];omega
 have hPl:Pl.length=(1+b).toNat:=by rw[hP,HY];simp only[nmP,H9,HD];omega
 obtain⟨m,hm,h⟩:=Zq (S:=S) (Pl:=Pl) (R:=1+c) (by omega) (by omega) (by omega) (fun rs ys h1 h2 h3 h4=>⟨rfl,⟨(1+a).toNat,by omega,by omega,hS⟩,⟨(1+b).toNat,by omega,by omega,hP⟩,rfl,rfl,rfl,rfl,h1,h2,ys,h3,h4,rfl⟩) _ 0 x3 [] rfl (by omega) c2 rfl (by simp)
 refine⟨m,hm,?_⟩
 refine sv WX 94 [] (.f<|.f<|.h .rn<|.h .rn<|.c1 [di x1] (di a)<|.c1 [di x2] (di b)<|.c1 [di x3] (di c)<|.h (.q 7 3)<|.h (.cl 2 7 2 14)<|.ls [ke 2,ke 3,ke 4,ch 34 (di (1+c)),ch 35 (di (0:Nat))] (Afy x3 S Pl [])) (decide (seed<0)=false/\decide (seed>1073741824)=false/\Aa PP 38 [Azb 0 0,di 3] (Azd [some [di (wrap i64 (seed+1))]] []) (di a) (Ami x1)/\(∀(x:V),x∈ Aky->V.size x=1)/\0<=(fun x=>x.snd) (i64,wrap i64 (1+a))/\(fun x=>x.snd) (i64,wrap i64 (1+a))<=(↑(length Aky):Int)/\Ao0 x1 b x2/\(∀(x:V),x∈ Apk->V.size x=1)/\0<=(fun x=>x.snd) (i64,wrap i64 (1+b))/\(fun x=>x.snd) (i64,wrap i64 (1+b))<=(↑(length Apk):Int)/\Aa PP 38 [Azb 0 0,di 4] (Ami x2) (di c) (Ami x3)/\di (wrap i64 (1+c))=di (1+c)/\di 0=di (↑0:Int)/\[some zMl,some [di x3],some [di 1,D.v (Azf (List.drop 0 (take (Int.toNat ((fun x=>x.snd) (i64,wrap i64 (1+a)))) (Azg (Aze #[97]).data.toList::Azg (Aze #[98]).data.toList::Azg (Aze #[99]).data.toList::nV)))),D.v (Azf (List.drop 0 (take (Int.toNat ((fun x=>x.snd) (i64,wrap i64 (1+b)))) (Azg (Aze #[120]).data.toList::Azg (Aze #[121]).data.toList::Azg (Aze #[122]).data.toList::nV)))),dn,dn,di 0,di 0,Azc 2 nV,di 0,dn]]=[some zM,some [di x3],some (cM S Pl [])]/\Q [(2,14,nV)]/\I0 WX σ0.H.length (Ag m) σ0 [kl DT [1,1,1,1,1,1,0,1,0,0],Aza 0,kc DT [1,1,1,1,1,1,1]] (mkE 94 [An1,(3,Azb 1 0),(4,Azb 2 0),(34,di (1+c)),(35,di (↑0:Int))]) (Afy x3 S Pl [])) ?_
 rw[Al (n:=seed+1) (by omega) (by omega),Al (n:=1+a) (by omega) (by omega),Al (n:=1+b) (by omega) (by omega),Al (n:=1+c) (by omega) (by omega)]
 have e1:∀(l:List (List UInt8)) (k:Nat),((l.map V.str).take k).drop 0=(l.take k).map V.str:=fun l k=>by rw[IW,List.map_take]
 refine⟨H8 (by omega),H8 (by omega),a3,fun y hy=>?_,by show(0:Int)<=1+a;omega,by show 1+a<=(3:Int);omega,b3,fun y hy=>?_,by show(0:Int)<=1+b;omega,by show 1+b<=(3:Int);omega,c3,rfl,rfl,?_,rfl,⟨h⟩⟩
 ·simp only[Ij,IU,or_false] at hy
  rcases hy with rfl|rfl|rfl<;>rfl
 ·simp only[Ij,IU,or_false] at hy
  rcases hy with rfl|rfl|rfl<;>rfl
 ·subst hS;subst hP
  show [some zM,some [di x3],some [di 1,D.v (V.list (List.drop 0 (take (1+a).toNat (nmS.map V.str)))),D.v (V.list (List.drop 0 (take (1+b).toNat (nmP.map V.str)))),D.v V.nils,D.v V.nils,di 0,di 0,D.acc 2 [],di 0,D.v V.nils]]=_
  rw[e1,e1];rfl
theorem FN.sz{m:Mod}(h:FN m):(1<=m.states.length/\m.states.length<=3)/\(1<=m.places.length/\m.places.length<=3):=by
 obtain⟨n,n1,n2,hn⟩:=h.states
 obtain⟨p,p1,p2,hp⟩:=h.places
 rw[hn,hp,HY,HY]
 simp only[nmS,nmP,H9,HD]
 omega
theorem FN.names{m:Mod}(h:FN m):m.rules.map Rul.name=(List.range m.rules.length).map fun k=>114::dig k:=by
 apply List.ext_getElem?
 intro i
 by_cases hi:i<m.rules.length
 ·have hx:m.rules[i]?=some m.rules[i]:=H4 hi
  rw[Ik,Ik,hx,List.getElem?_range hi,I4,I4,(h.rules i _ hx).name]
 ·rw[Ir (by simp;omega),Ir (by simp;omega)]
theorem FN.get{m:Mod}(h:FN m){r:Rul}(hr:r∈m.rules):∃k,AhJ m.states.length m.places.length k r:=by
 obtain⟨k,hk⟩:=List.getElem?_of_mem hr
 exact⟨k,h.rules k r hk⟩
theorem FN.ok{m:Mod}(h:FN m):m.ok:=by
 obtain⟨hst,hpl⟩:=h.sz
 have hb:∀{x a b:Int},a<=x->x<=b->Av x a b=true:=fun h1 h2=>by simp[Av,h1,h2]
 have hc:=h.count
 refine⟨.inl h.kind,?_,?_,?_,?_,?_,?_,?_⟩
 ·simp only[C3,Qe,HP h.kind,H5,HE,h.letters,h.levels,h.age]
  exact⟨hb (by omega) (by omega),by omega,hb (by omega) (by omega),by decide,by decide,by decide⟩
 ·rw[BO,HP (by rw[h.kind];rfl),h.ranks];rfl
 ·have hn:=h.names
  rw[D0,DO,hn,BL,h.letters]
  obtain⟨n,n1,n2,hn⟩:=h.states
  obtain⟨p,p1,p2,hp⟩:=h.places
  rw[hn,hp]
  have e1:n=1∨n=2∨n=3:=by omega
  have e2:p=1∨p=2∨p=3:=by omega
  have e3:m.rules.length=1∨m.rules.length=2∨m.rules.length=3∨m.rules.length=4:=by omega
  rcases e1 with rfl|rfl|rfl<;>rcases e2 with rfl|rfl|rfl<;>rcases e3 with e|e|e|e<;>rw[e]<;>decide
 ·intro r hr
  obtain⟨k,hm⟩:=h.get hr
  have h1:=hm.need.1
  have h2:=hm.give.1
  rw[hm.rest]
  exact⟨by show r.need.length<=_;omega,by show r.give.length<=_;omega,Ic _,Ic _,Ic _,Ic _,Ic _⟩
 ·intro r hr
  obtain⟨k,hm⟩:=h.get hr
  obtain⟨f1,f2⟩:=hm.frm
  obtain⟨t1,t2⟩:=hm.to
  obtain⟨n1,n2⟩:=hm.need
  obtain⟨g1,g2⟩:=hm.give
  have hr:=hm.rest
  generalize r.name=nm at hr
  generalize r.frm=f at*
  generalize r.to=t at*
  generalize r.need=nd at*
  generalize r.give=gv at*
  subst hr
  rw[Et,HP h.kind]
  simp only[Du,BJ,BN,MU,mkV,H5,Ip,Ie,HE,Ih,true_and,HD]
  exact⟨hb (by omega) (by omega),hb (by omega) (by omega),⟨by omega,by omega,fun x hx=>hb (n2 x hx).1 (by have:=(n2 x hx).2;omega),fun x hx=>hb (g2 x hx).1 (by have:=(g2 x hx).2;omega)⟩,by simp[CB]⟩
 ·obtain⟨ys,y1,y2,y3⟩:=h.start
  rw[y3]
  exact FL m h.kind (by omega) 0 ⟨by omega,by omega⟩ ys y1 fun x hx=>by have:=y2 x hx;omega
 ·obtain⟨ys,y1,y2,y3⟩:=h.start
  rw[y3,EO];omega
theorem FN.ctm{m:Mod}(h:FN m):CtM m:=⟨h.ok,h.kind,Qq h.kind h.ok.start⟩
theorem CtM.steps{m:Mod}(h:CtM m):Fw m (BS m) (CO m):=by
 have hp:=h.places
 exact⟨h.ok.int.walks,h.start,fun v hv=>by have:=hv.sizeM h;omega,fun v hv=>LS m h v hv,fun v hv=>by have:=(Ht h hv).2.1;omega,fun v hv s hs=>((Ht h hv).2.2 s hs).ok⟩
theorem Acy(r:Rul):∀(ys ns:List Int) (k:Nat) (ws:List Int) (B:Int),0<=B->(∀w∈ws,w<=B)->(∀y∈ys,y<=3)->(∀n∈ns,0<=n)->∀w∈mvL r k ys ns ws,w<=B+3*ys.length
 |[],ns,k,ws,B,_,h,_,_,w,hw=>by rw[Qb] at hw;have:=h w hw;simp;omega
 |y::ys,[],k,ws,B,hB,h,_,_,w,hw=>by
  have:mvL r k (y::ys) [] ws=ws:=by simp[mvL]
  rw[this] at hw
  have:=h w hw
  simp only[H9];omega
 |y::ys,n::ns,k,ws,B,hB,h,h1,h2,w,hw=>by
  rw[mvL] at hw
  have hy:=h1 y (by simp)
  have hn:=h2 n (by simp)
  have:=Acy r ys ns (k+1) (mvS r k (y-n) ws) (B+3) (by omega) (fun z hz=>by
   unfold mvS at hz
   split at hz
   ·rcases I8 hz with hz|hz
    ·have:=h z hz;omega
    ·rw[hz,HC]
     cases hi:ws[(mvT r k).toNat]? with
     |none=>simp;omega
     |some v=>have:=h v (HA hi);simp only[IT];omega
   ·have:=h z hz;omega) (fun z hz=>h1 z (by simp[hz])) (fun z hz=>h2 z (by simp[hz])) w hw
  simp only[H9];omega
theorem Oz:∀(ws gs:List Int) (xs:List Val),(∀w∈ws,w<=100)->(∀g∈gs,g<=100)->(G7 xs ws gs).2=0
 |[],gs,xs,_,_=>by simp[G7]
 |w::ws,[],xs,_,_=>by simp[G7]
 |w::ws,g::gs,xs,h1,h2=>by
  have a:=h1 w (by simp)
  have b:=h2 g (by simp)
  rw[G7,HL (by simp;omega)]
  exact Oz ws gs _ (fun z hz=>h1 z (by simp[hz])) (fun z hz=>h2 z (by simp[hz]))
theorem Pq{ap:Int->List Val×Int}(h:∀i,(ap i).2=0/\(ap i).1.length<=1):∀(n:Nat) (i:Int) (acc:List Stp),acc.length+n<=256->(D9 ap n i acc).2=0
 |0,i,acc,hl=>by rw[D9,HL (by simp;omega)]
 |n+1,i,acc,hl=>by
  rw[D9,HL (by rw[(h i).1];decide)]
  exact Pq h n _ _ (by rw[HI,H3];have:=(h i).2;omega)
theorem FN.fine{m:Mod}(h:FN m):(CO m m.start).2=0:=by
 have hc:=h.count
 obtain⟨hst,hpl⟩:=h.sz
 obtain⟨ys,y1,y2,y3⟩:=h.start
 have hnm:nmV m.start=ys:=by rw[y3,Nm]
 refine Pq (fun i=>?_) _ _ _ (by simp;omega)
 have ho:=Pp h.ctm h.ctm.start i
 refine⟨?_,ho.2.1⟩
 unfold apT
 split
 ·rfl
 ·split
  ·rename_i r hr
   obtain⟨k,hm⟩:=h.get (HA hr)
   have:(apV r (stV m.start) (nmV m.start)).2=0∨(apV r (stV m.start) (nmV m.start)).2=18:=by
    unfold apV
    split
    ·refine .inl (Oz _ _ _ (fun w hw=>?_) fun g hg=>by have:=hm.give.2 g hg;omega)
     have:=Acy r (nmV m.start) r.need 0 (List.replicate (nmV m.start).length 0) 0 (by omega) (fun w hw=>by rw[(List.mem_replicate.1 hw).2];omega) (fun y hy=>by rw[hnm] at hy;exact(y2 y hy).2) (fun n hn=>(hm.need.2 n hn).1) w hw
     rw[hnm] at this
     omega
    ·exact .inr rfl
   unfold Cj
   rcases this with e|e
   ·rw[HL (by rw[e];decide),HL (by rw[e];decide)]
   ·rw[HP (by rw[e];decide)]
  ·rfl
theorem FN.look{m:Mod}(h:FN m):A7 (CO m) 9 0 m.start=([m.start],(A7 (CO m) 9 0 m.start).2.1,0):=by
 have hf:=h.fine
 have hlk:BF (CO m) [m.start] []=([(CO m m.start).1],0):=by rw[BF,HL (by rw[hf];decide)];rfl
 have he:(BU (CO m) 9 0 [m.start] [] 0).err=0/\(BU (CO m) 9 0 [m.start] [] 0).found=[m.start]:=by
  rw[BU]
  simp only[HD,IW,hlk]
  rw[HL (by decide)]
  split<;>exact⟨rfl,rfl⟩
 unfold A7
 rw[HL (by rw[he.1];decide),he.2,show sortV [m.start]=[m.start] from List.perm_singleton.1 (AH _)]
noncomputable abbrev Agp:Func:= Tryz.f5
theorem F6:Aa PP 5 [] σ0 (db true) σ0:=by
 obtain⟨m,hm,h⟩:=Af5 5 (by decide)
 have hx:=JB hm.ctm.steps 9 (by decide) 0 (by decide)
 rw[hm.look] at hx
 generalize (A7 (CO m) 9 0 m.start).2.1=w at hx
 have hsz:=hm.ctm.start.sizeM hm.ctm
 have hpl:=hm.sz
 have hsm:=Jz m.start m.start (by omega)
 rw[show(Au m.start m.start==0)=true by rw[JG.2 rfl];rfl] at hsm
 have hchk:=JI m hm.ok
 have hc:=hm.count
 refine sv Agp 38 [] (.c (Ag m)<|.c (.tup [dVs [m.start],db w,di 0])<|.k<|.k<|.x (Af m.start)<|.c (db true)<|.k<|.c (di 0)<|.k .r) (F0 16 [di 5] (Ag m)/\F0 9 [Ag m,di 0,di 9] (Azn [dVs [m.start],db w,di 0])/\iz 0<=0/\some (eV m.start)=some (Af m.start)/\F0 17 [dV m.start,dV m.start] (db true)/\F0 18 [Ag m] (di 0)/\(True/\True/\True/\True)/\db (decide ((length (Aps m.rules):Int)>0))=db true) ?_
 exact⟨h,hx,HV _,HR some (Bz _),hsm,hchk,⟨trivial,trivial,trivial,trivial⟩,by rw[H3,H6 (by omega)]⟩
end Go.Proofs.YtmhjflomgppcnaaGreatDoor
