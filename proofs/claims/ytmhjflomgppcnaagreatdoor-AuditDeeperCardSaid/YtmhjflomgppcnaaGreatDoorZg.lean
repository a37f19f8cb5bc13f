/-
  A part of the proof.
-/
import Derived.Test.YtmhjflomgppcnaaGreatDoorZf
import Derived.Test.YtmhjflomgppcnaaGreatDoorZe
namespace Go.Proofs.YtmhjflomgppcnaaGreatDoor
open Go.Dv Go.Nv
set_option maxRecDepth 20000
open List (all_cons flatten flatten_nil length length_map length_set map mem_singleton replicate take)
open Go.IntKind (wrap i64 u64)
inductive Ace (m:Mod) (c:Val):Prop where
 |ctr (hk:m.kind=1) (s:Int) (ys:List Int) (hs:0<=s/\s<m.states.length) (hy:ys.length=m.places.length) (h:∀y∈ys,0<=y/\y<=3) (hc:c=C5 s ys)
 |chan (hk:m.kind=2∨m.kind=3) (s:Int) (ys:List Val) (hs:0<=s/\s<m.states.length) (hy:ys.length=m.places.length) (h:∀y∈ys,EZ m.letters.length y) (hc:c=.mk 0 (.mk s []::ys))
 |bag (hk:m.kind=5) (s:Int) (ts:List Val) (hs:0<=s/\s<m.states.length) (h:AbZ m.places.length m.age 2 ts) (hc:c=.mk 0 [.mk s [],.mk 0 ts])
noncomputable abbrev Ao4:=fun a₀ b₀=>(Azh [vi a₀,Azf (Alj b₀)])
theorem XJ(m:Mod)(hk:m.kind=1)(hst:1<=m.states.length/\m.states.length<=3)(hp:1<=m.places.length/\m.places.length<=2)(l:List UInt8)(hl:l.length<=200)(a:Nat)(ha:a<=l.length):
  ∃(c:Val) (a':Nat),Ace m c/\a'<=l.length/\Aa PP 31 [.ptr 0 0,Ag m] (dz l a) (dV c) (dz l a'):=by
 obtain⟨s,a1,s1,s2,s3,s4⟩:=Ax l hl a ha m.states.length (by omega) (by omega)
 obtain⟨ys,a2,y1,y2,y3,y4⟩:=Fk l hl a1 s3 m.places.length (by omega) 3 (by decide) (by decide)
 obtain⟨c,hc⟩:∃c,c=C5 s ys:=⟨_,rfl⟩
 refine⟨c,a2,.ctr hk s ys ⟨s1,s2⟩ y2 y3 hc,y1,?_⟩
 refine sv AaY 47 [3] (.t<|.c1 (cDz l a1) (di s)<|.c1 (cDz l a2) (dIs ys)<|.c (dV c) .r) ((m.kind==1)=true/\Aa PP 8 [Azb 0 0,di (length (map Azg m.states):Int)] (dz l a) (di s) (dz l a1)/\Aa PP 48 [Azb 0 0,di (length (map Azg m.places):Int),di 3] (dz l a1) (dIs ys) (dz l a2)/\F0 49 [di s,dIs ys] (dV c)/\Q [some (cDz l a2)]/\D.v (Azh [vi c.n,Azf (map eV c.kids)])=dV c) ?_
 refine⟨by rw[hk];rfl,by rw[H3];exact s4,by rw[H3];exact y4,hc▸JJ ys (by omega) s,rfl,rfl⟩
theorem XO{o:Oper}(ho:o.op=.build 31 #[(0,.tmp 27)])(s:Int)(τ:St):Ah PP o [di s] τ (.v (Af (.mk s []))) τ:=
 MT ho (z:=[vi 0,.list []]) (places:=[(0,1),(1,1)]) (by kernel_rfl) (xs:=[(0,vi s)]) rfl rfl
noncomputable abbrev Ak0:=(Oper.mk (some 29) (Op.buildSlice 29 1 #[(0,Operand.tmp 28)]) 29 "play.go:165" #[Edge.mk 5 Ground.data] none)
noncomputable abbrev Ans:=fun a₀ b₀ c₀=>(Azd (Alg a₀ b₀) [(1,2,[Af (Alz c₀)])])
noncomputable abbrev Aoi:=(Oper.mk (some 28) (Op.build 31 #[(0,Operand.tmp 27)]) 31 "play.go:165" #[Edge.mk 4 Ground.data] none)
theorem XI(m:Mod)(hk:m.kind=2∨m.kind=3)(hst:1<=m.states.length/\m.states.length<=3)(hp:1<=m.places.length/\m.places.length<=2)(hle:1<=m.letters.length/\m.letters.length<=2)(l:List UInt8)(hl:l.length<=200)(a:Nat)(ha:a<=l.length):
  ∃(c:Val) (a':Nat),Ace m c/\a'<=l.length/\Aa PP 31 [.ptr 0 0,Ag m] (dz l a) (dV c) (dz l a'):=by
 obtain⟨s,a1,s1,s2,s3,s4⟩:=Ax l hl a ha m.states.length (by omega) (by omega)
 obtain⟨ys,a2,y1,y2,y3,y4⟩:=Ach l hl a1 s3 m.places.length (by omega) m.letters.length (by omega) (by omega)
 obtain⟨c,hc⟩:∃c:Val,c=.mk 0 (.mk s []::ys):=⟨_,rfl⟩
 refine⟨c,a2,.chan hk s ys ⟨s1,s2⟩ y2 y3 hc,y1,?_⟩
 have hpk:Aa PP 8 [D.ptr 0 0,di (↑(length (map V.str m.states)):Int)] (St.mk [some (cDz l a)] []) (di s) (St.mk [some (cDz l a1)] []):=by rw[H3];exact s4
 have hwd:Aa PP 50 [D.ptr 0 0,di (↑(length (map V.str m.places)):Int),di (↑(length (map V.str m.letters)):Int),di 2] (St.mk [some (cDz l a1)] []) (dVs ys) (St.mk [some (cDz l a2)] []):=by rw[H3,H3];exact y4
 have hsl:∀(o:Oper) (H:List (Option (List D))),o.op=.buildSlice 29 1 #[(0,.tmp 28)]->Ah PP o [.v (Af (.mk s []))] ⟨H,[]⟩ (.acc 1 [Af (.mk s [])]) ⟨H,[(1,2,[Af (.mk s [])])]⟩:=fun o H ho=>GR (σ:=⟨H,[]⟩) ho (by rfl) rfl slV rfl (ds:=[.v (Af (.mk s []))]) (xs:=[Af (.mk s [])]) rfl (fun z hz=>by rw[HK.1 hz];rfl) (by decide) (by decide) (by decide) 1 (by simp)
 rcases hk with hk|hk
 ·refine sv AaY 47 [3] (.f<|.t<|.k<|.h (.dr 6)<|.h (.cs ⟨[],[(1,2,[Af (.mk s [])])]⟩)<|.c1 (cDz l a1) (di s)<|.h (.p (.v (Af (.mk s []))))<|.h (.o (.acc 1 [Af (.mk s [])]) σ0)<|.c1 (cDz l a2) (dVs ys)<|.w .r) ((m.kind==1)=false/\(m.kind==2)=true/\Alb m.states l a s a1/\Alb m.states l a s a1/\Q (di s)/\(∀(τ:St),Ah PP Aoi [di s] τ (D.v (Af (Alz s))) τ)/\Q [Azd (Alg l a) [(1,2,Af (Alz s)::nV)],Azd (Alg l a1) [(1,2,Af (Alz s)::nV)]]/\(Ah PP Ak0 [D.v (Af (Alz s))] (Azd (Alg l a) []) (Azc 1 [Af (Alz s)]) (Ans l a s)/\Ah PP Ak0 [D.v (Af (Alz s))] (Azd (Alg l a1) []) (Azc 1 [Af (Alz s)]) (Ans l a1 s)/\True)/\Aa PP 50 [Azb 0 0,di (length (Aks m.places):Int),di (length (Aks m.letters):Int),di 2] (dz l a1) (dVs ys) (dz l a2)/\Aa PP 50 [Azb 0 0,di (length (Aks m.places):Int),di (length (Aks m.letters):Int),di 2] (dz l a1) (dVs ys) (dz l a2)/\Q (dVs ys)/\(Q (Ans l a2 s)/\Ah PP Ak0 [D.v (Af (Alz s))] (Azd (Alg l a2) []) (Azc 1 [Af (Alz s)]) (Ans l a2 s))/\Q (Af (Alz s)::nV)/\Ar (length (Af (Alz s)::nV)+length (map eV ys)) 32/\(∀(y:V),y∈map eV ys->V.size y=2)/\True/\Q (Am4 l a2)/\D.v (Azh [vi 0,Azf (Af (Alz s)::[]++(map eV ys))])=dV c) ?_
  refine⟨by rw[hk];rfl,by rw[hk];rfl,hpk,hpk,rfl,fun τ=>XO rfl s τ,rfl,⟨hsl _ _ rfl,hsl _ _ rfl,trivial⟩,hwd,hwd,rfl,⟨rfl,hsl _ _ rfl⟩,rfl,?_,fun y hy=>?_,trivial,rfl,?_⟩
  ·simp only[H9,HD,H3,y2];exact⟨by omega,by omega⟩
  ·obtain⟨z,_,rfl⟩:=Il.1 hy
   cases z;rfl
  ·subst hc
   rw[←Bz];rfl
 ·refine sv AaY 47 [3] (.f<|.f<|.t<|.h (.dr 6)<|.h (.cs ⟨[],[(1,2,[Af (.mk s [])])]⟩)<|.c1 (cDz l a1) (di s)<|.h (.p (.v (Af (.mk s []))))<|.h (.o (.acc 1 [Af (.mk s [])]) σ0)<|.c1 (cDz l a2) (dVs ys)<|.w .r) ((m.kind==1)=false/\(m.kind==2)=false/\(m.kind==3)=true/\Alb m.states l a s a1/\Alb m.states l a s a1/\Q (di s)/\(∀(τ:St),Ah PP Aoi [di s] τ (D.v (Af (Alz s))) τ)/\Q [Azd (Alg l a) [(1,2,Af (Alz s)::nV)],Azd (Alg l a1) [(1,2,Af (Alz s)::nV)]]/\(Ah PP Ak0 [D.v (Af (Alz s))] (Azd (Alg l a) []) (Azc 1 [Af (Alz s)]) (Ans l a s)/\Ah PP Ak0 [D.v (Af (Alz s))] (Azd (Alg l a1) []) (Azc 1 [Af (Alz s)]) (Ans l a1 s)/\True)/\Aa PP 50 [Azb 0 0,di (length (Aks m.places):Int),di (length (Aks m.letters):Int),di 2] (dz l a1) (dVs ys) (dz l a2)/\Aa PP 50 [Azb 0 0,di (length (Aks m.places):Int),di (length (Aks m.letters):Int),di 2] (dz l a1) (dVs ys) (dz l a2)/\Q (dVs ys)/\(Q (Ans l a2 s)/\Ah PP Ak0 [D.v (Af (Alz s))] (Azd (Alg l a2) []) (Azc 1 [Af (Alz s)]) (Ans l a2 s))/\Q (Af (Alz s)::nV)/\Ar (length (Af (Alz s)::nV)+length (map eV ys)) 32/\(∀(y:V),y∈map eV ys->V.size y=2)/\True/\Q (Am4 l a2)/\D.v (Azh [vi 0,Azf (Af (Alz s)::[]++(map eV ys))])=dV c) ?_
  refine⟨by rw[hk];rfl,by rw[hk];rfl,by rw[hk];rfl,hpk,hpk,rfl,fun τ=>XO rfl s τ,rfl,⟨hsl _ _ rfl,hsl _ _ rfl,trivial⟩,hwd,hwd,rfl,⟨rfl,hsl _ _ rfl⟩,rfl,?_,fun y hy=>?_,trivial,rfl,?_⟩
  ·simp only[H9,HD,H3,y2];exact⟨by omega,by omega⟩
  ·obtain⟨z,_,rfl⟩:=Il.1 hy
   cases z;rfl
  ·subst hc
   rw[←Bz];rfl
theorem Aei(m:Mod)(hk:m.kind=5)(hst:1<=m.states.length/\m.states.length<=3)(hp:1<=m.places.length/\m.places.length<=2)(hag:0<=m.age/\m.age<=3)(l:List UInt8)(hl:l.length<=200)(a:Nat)(ha:a<=l.length):
  ∃(c:Val) (a':Nat),Ace m c/\a'<=l.length/\Aa PP 31 [.ptr 0 0,Ag m] (dz l a) (dV c) (dz l a'):=by
 obtain⟨s,ts,a1,h1,h2,h3,h4⟩:=Ahr l hl m hst hp hag a ha
 obtain⟨c,hc⟩:∃c:Val,c=.mk 0 [.mk s [],.mk 0 ts]:=⟨_,rfl⟩
 rw[←hc] at h4
 refine⟨c,a1,.bag hk s ts h1 h2 hc,h3,?_⟩
 refine sv AaY 47 [3] (.f<|.f<|.f<|.t<|.c1 (cDz l a1) (dV c) .r) ((m.kind==1)=false/\(m.kind==2)=false/\(m.kind==3)=false/\(m.kind==5)=true/\Aa PP 51 [Azb 0 0,Ag m,di 2] (dz l a) (dV c) (dz l a1)/\Q (Am4 l a1)/\D.v (Ao4 c.n c.kids)=dV c) ?_
 exact⟨by rw[hk];rfl,by rw[hk];rfl,by rw[hk];rfl,by rw[hk];rfl,h4,rfl,rfl⟩
theorem Fg.cfg_ex{m:Mod}(h:Fg m)(l:List UInt8)(hl:l.length<=200)(a:Nat)(ha:a<=l.length):
  ∃(c:Val) (a':Nat),Ace m c/\a'<=l.length/\Aa PP 31 [.ptr 0 0,Ag m] (dz l a) (dV c) (dz l a'):=by
 have hP:m.places=[[120]]∨m.places=[[120],[121]]:=by
  cases h with
  |cM h=>exact h.places
  |l2 h=>exact h.places
  |l3 h=>exact h.places
  |tm h=>exact h.places
  |c h=>exact h.places
 have hpl:1<=m.places.length/\m.places.length<=2:=by rcases hP with e|e<;>rw[e]<;>decide
 have two:∀S:List (List UInt8),(S=[[97]]∨S=[[97],[98]])->1<=S.length/\S.length<=3:=fun S e=>by rcases e with e|e<;>rw[e]<;>decide
 cases h with
 |cM h=>exact XJ m h.kind (two _ h.states) hpl l hl a ha
 |c h=>exact XJ m h.kind (two _ h.states) hpl l hl a ha
 |tm h=>exact Aei m h.kind (two _ h.states) hpl (by have:=h.age;omega) l hl a ha
 |l2 h=>exact XI m (.inl h.kind) (by obtain⟨n,h1,h2,e⟩:=h.states;rw[e,HY];simp only[H9,HD];omega) hpl (by rcases h.letters with e|e<;>rw[e]<;>decide) l hl a ha
 |l3 h=>exact XI m (.inr h.kind) (by obtain⟨n,h1,h2,e⟩:=h.states;rw[e,HY];simp only[H9,HD];omega) hpl (by rcases h.letters with e|e<;>rw[e]<;>decide) l hl a ha
noncomputable abbrev Ajv:Func:= Tryz.f253
def RZ(m:Mod)(w:List Int):List (List Int):=if (m.kind==3)=true then Gp m.ranks w else FR w
theorem N9(m:Mod)(w:List Int):(RZ m w).length<=12/\∀v∈RZ m w,v.length<=12:=by
 unfold RZ
 split
 ·exact ST _ _
 ·exact Sz _
theorem AbD(m:Mod)(hr:m.ranks.length<=1000)(w:List Int)(hw:w.length<=1000):Aa PP 253 [Ag m,dIs w] σ0 (dl ((RZ m w).map vIs)) σ0:=by
 unfold RZ
 by_cases hk:(m.kind==3)=true
 ·rw[HP hk]
  have g3:=ZR m.ranks w hr hw
  generalize Gp m.ranks w=ws at g3⊢
  refine sv Ajv 14 [2] (.t<|.c (dl (ws.map vIs)) .r) ((m.kind==3)=true/\F0 269 [dIs m.ranks,dIs w] (dl (Aos ws))/\D.v (Azf (Aos ws))=dl (Aos ws)) ?_
  exact⟨hk,g3,rfl⟩
 ·rw[HL hk]
  have g3:=YB w hw
  generalize FR w=ws at g3⊢
  refine sv Ajv 14 [2] (.f<|.c (dl (ws.map vIs)) .r) ((m.kind==3)=false/\F0 270 [dIs w] (dl (Aos ws))/\D.v (Azf (Aos ws))=dl (Aos ws)) ?_
  exact⟨HG hk,g3,rfl⟩
noncomputable abbrev Uf:Func:= Tryz.f221
noncomputable def Dr:Code:=Uf.body.getD .skip
def Yp(outs:List Val):St:=match outs with
 |[]=>σ0
 |o::outs=>⟨[some (Ab ((o::outs).map eV))],[]⟩
def dLo(outs:List Val):D:=match outs with
 |[]=>.v .nils
 |o::outs=>.gro 0 (outs.length+1) 2
theorem RO{l:List Val}(h:l≠ []):dLo l=.gro 0 l.length 2:=by cases l with
 |nil=>exact absurd rfl h
 |cons=>rfl
theorem MA{l:List Val}(h:l≠ []):Yp l=⟨[some (Ab (l.map eV))],[]⟩:=by cases l with
 |nil=>exact absurd rfl h
 |cons=>rfl
theorem Aho{o:Oper}{t:Nat}(x:Val)(τ:St)(ho:o.op=.buildSlice 29 1 #[(0,.tmp t)]):Ah PP o [dV x] τ (.v (.list [Af x])) τ:=
 DZ ho rfl rfl slV rfl (xs:=[Af x]) rfl (fun y hy=>by rw[HK.1 hy];rfl) (by decide) (by decide) (by decide)
theorem ET(l:List Val):(Ab (l.map eV)).all D.one=true:=by
 induction l with
 |nil=>rfl
 |cons x l ih=>rw[AB,List.all_append,ih];rfl
theorem J9(l:List Val)(x:Val):Ab (l.map eV)++[D.v (vi x.n),D.v (vVs x.kids)]=Ab ((l++[x]).map eV):=by rw[EN,AB];rfl
def loW(c:Val)(k:Nat)(w:List Int):Val:=Hh c k (c.kids.getD 0 z00).n w
def loF(m:Mod)(c:Val)(K:Nat):List Val:=(List.range K).flatMap fun k=>(RZ m (AS (c.kids.getD (1+k) (.mk 0 [])))).map (loW c k)
theorem No(m:Mod)(c:Val)(K:Nat):loF m c (K+1)=loF m c K++(RZ m (AS (c.kids.getD (1+K) (.mk 0 [])))).map (loW c K):=by simp[loF,List.range_succ]
theorem Qd(m:Mod)(c:Val)(K:Nat):(loF m c K).length<=12*K:=by
 induction K with
 |zero=>exact HB _
 |succ K ih=>
  have:=(N9 m (AS (c.kids.getD (1+K) (.mk 0 [])))).1
  rw[No,HI,H3];omega
theorem Ac0{c s0 x:Val}{k:Nat}(h0:c.kids[0]?=some s0)(hx:c.kids[1+k]?=some x)(w:List Int):loW c k w=.mk c.n (BC c.kids s0 x s0.n (1+k) w):=by
 rw[loW,Ph h0 hx,show c.kids.getD 0 z00=s0 by rw[HC,h0];rfl]
theorem Aa7{c:Val}(hc:c.size<=128){k:Nat}(hk:1+k<c.kids.length){w:List Int}(hw:w.length<=12):(loW c k w).size<=200:=by
 obtain⟨s0,h0⟩:∃x,c.kids[0]?=some x:=⟨_,H4 (by omega)⟩
 obtain⟨x,hx⟩:∃x,c.kids[1+k]?=some x:=⟨_,H4 hk⟩
 rw[Ac0 h0 hx]
 have:=Jx h0 hx s0.n w c.n
 have:=c.size_eq
 omega
theorem R9{m:Mod}{c:Val}(hc:c.size<=128){K:Nat}(hK:K<c.kids.length){v:Val}(hv:v∈loF m c K):v.size<=200:=by
 obtain⟨k,hk,hv⟩:=List.mem_flatMap.1 hv
 obtain⟨w,hw,rfl⟩:=Il.1 hv
 have:=List.mem_range.1 hk
 exact Aa7 hc (by omega) ((N9 m _).2 w hw)
noncomputable abbrev Al2:=[kl Dr [1,1,1,0,1,0,0,1,1,0,0,1,1,0,0],Aza 2,Aza 1,kc Dr [1,1,1,0,1,0,0,1,1,1],kl Dr Ak2,Aza 0,kc Dr [1,1,1,1]]
noncomputable abbrev Ane:=fun a₀=>(Azd [some (Akr a₀)] [])
theorem Agf(m:Mod)(c s0 x:Val)(k:Nat)(hk2:k<=1000)(hc:c.size<=128)(h0:c.kids[0]?=some s0)(hx:c.kids[1+k]?=some x)(ws:List (List Int))(hw:ws.length<=12)(hws:∀v∈ws,v.length<=12)(l o1:List Val)(ho1:o1.length<=900)
  (l2:Rn PP Uf 0 (dLP (l,0)) σ0 ([.lp (sub Dr [1,1,1,0,1,0,0]),.blk 0,.code (sub Dr [1,1,1,1])]++[]) (mkE 51 [(2,.v (.ref (A8 m))),(3,.v (.ref (Af c))),(7,dLo (o1++ws.map (loW c k))),(20,di m.places.length),(21,di (k+1:Nat))]) (Yp (o1++ws.map (loW c k)))) (n:Nat):
  ∀(j:Nat) (outs:List Val),ws.length-j=n->outs=o1++(ws.take j).map (loW c k)->Rn PP Uf 0 (dLP (l,0)) σ0 ([.lp (sub Dr [1,1,1,0,1,0,0,1,1,0,0,1,1,0,0]),.blk 2,.blk 1,.code (sub Dr [1,1,1,0,1,0,0,1,1,1]),.lp (sub Dr [1,1,1,0,1,0,0]),.blk 0,.code (sub Dr [1,1,1,1])]++[]) (mkE 51 [(2,.v (.ref (A8 m))),(3,.v (.ref (Af c))),(7,dLo outs),(8,di k),(20,di m.places.length),(21,di k),(28,dl (ws.map vIs)),(29,di ws.length),(30,di j)]) (Yp outs):=by
 induction n with
 |zero=>
  intro j outs hn houts
  rw[HW (by omega)] at houts
  rw[←houts] at l2
  clear houts
  by_cases hne:outs=[]
  ·subst hne
   rw[show dLo ([]:List Val)=D.v V.nils from rfl,show Yp []=σ0 from rfl] at l2⊢
   refine lv 51 [2,3] (.f<|.l [ke 2,ke 3,ke 7,ke 20,ch 21 (di (k+1:Nat))]) (decide ((j:Int)<(ws.length:Int))=false/\di (wrap i64 ((k:Int)+1))=di (↑(k+1):Int)/\I0 Uf 0 (dLP (l,0)) σ0 [kl Dr Ak2,Aza 0,kc Dr [1,1,1,1]] (mkE 51 [(Aqw m),(Als c),(7,dn),(20,di (m.places.length:Int)),(21,di (↑(k+1):Int))]) σ0) ?_
   exact⟨H8 (by omega),Ad (by omega),⟨l2⟩⟩
  ·rw[RO hne,MA hne] at l2⊢
   refine lv 51 [2,3] (.f<|.lo [ke 2,ke 3,ke 7,ke 20,ch 21 (di (k+1:Nat))] ⟨[some (Ab (outs.map eV))],[]⟩) (decide ((j:Int)<(ws.length:Int))=false/\di (wrap i64 ((k:Int)+1))=di (↑(k+1):Int)/\okH 1 [] [some (Akr outs)]=true/\Q [some (Akr outs)]/\I0 Uf 0 (dLP (l,0)) σ0 [kl Dr Ak2,Aza 0,kc Dr [1,1,1,1]] (mkE 51 [(Aqw m),(Als c),(7,Azm 0 outs.length 2),(20,di (m.places.length:Int)),(21,di (↑(k+1):Int))]) (Ane outs)) ?_
   exact⟨H8 (by omega),Ad (by omega),HM.2 ⟨Ai 1 [] _,rfl⟩,rfl,⟨l2⟩⟩
 |succ n ih=>
  intro j outs hn houts
  obtain⟨w,hw1⟩:∃w,ws[j]?=some w:=⟨_,H4 (show j<ws.length by omega)⟩
  have hwl:=hws w (HA hw1)
  have hsp:=NS c (by omega) s0 x k h0 hx s0.n w (by omega)
  have hsz:=Jx h0 hx s0.n w c.n
  have hcs:=c.size_eq
  have hfw:=Ac0 h0 hx w
  have hol:outs.length<=912:=by rw[houts,HI,H3,HY];omega
  generalize Val.mk c.n (BC c.kids s0 x s0.n (1+k) w)=v at hsp hsz hfw
  have hx0:(c.kids.map eV)[Int.toNat 0]?=some (Af s0):=As (i:=0) h0
  have l2:=ih (j+1) (outs++[v]) (by omega) (by rw[houts,IF,hw1, ←hfw];simp)
  clear houts
  rw[RO (by simp),MA (by simp)] at l2
  by_cases hne:outs=[]
  ·subst hne
   rw[show dLo ([]:List Val)=D.v V.nils from rfl,show Yp []=σ0 from rfl]
   refine lv 51 [2,3] (.t<|.x (vIs w)<|.h (.xs (Af s0))<|.c (dV v)<|.h (.p (.v (.list [Af v])))<|.h .g<|.lo [ke 2,ke 3,ch 7 (.gro 0 1 2),ke 8,ke 20,ke 21,ke 28,ke 29,ch 30 (di (j+1:Nat))] ⟨[some (Ab ([v].map eV))],[]⟩) (decide ((j:Int)<(ws.length:Int))=true/\0<=(j:Int)/\(Aos ws)[Int.toNat (j:Int)]?=some (vIs w)/\Q 2/\iz 0<=0/\(Alj c.kids)[Int.toNat 0]?=some (Af s0)/\F0 242 [dV c,di s0.n,di (k:Int),dIs w] (dV v)/\(∀(τ:St),Ah PP (Oper.mk (some 44) (Op.buildSlice 29 1 #[(0,Operand.tmp 43)]) 29 "channel.go:118" #[Edge.mk 9 Ground.data] none) [dV v] τ (D.v (Azf [Af v])) τ)/\[Af v]≠ []/\(∀(y:V),y∈ [Af v]->V.size y=2)/\Ar 1 32/\Q (Azm 0 1 2)/\di (wrap i64 ((j:Int)+1))=di (↑(j+1):Int)/\okH 1 [] [some (Ana v.n v.kids)]=true/\[some (Ana v.n v.kids)]=[some (Ab (eV v::nV))]/\I0 Uf 0 (dLP (l,0)) σ0 Al2 (mkE 51 [(Aqw m),(Als c),(7,Azm 0 1 2),(8,di (k:Int)),(20,di (m.places.length:Int)),(21,di (k:Int)),(28,D.v (Azf (Aos ws))),(29,di (ws.length:Int)),(30,di (↑(j+1):Int))]) (Azd [some (Ab [eV v])] [])) ?_
   refine⟨H6 (by omega),by omega,by rw[IB,Ik,hw1];rfl,rfl,HV _,hx0,hsp,fun τ=>Aho v τ rfl,by simp,fun y hy=>by rw[HK.1 hy];rfl,⟨by decide,by decide⟩,rfl,Ad (by omega),rfl,?_,⟨l2⟩⟩
   show [some [di v.n,D.v (vVs v.kids)]]=[some (Ab ([v].map eV))]
   rw[AB];rfl
  ·rw[RO hne,MA hne]
   refine lv 51 [2,3] (.t<|.x (vIs w)<|.h (.xs (Af s0))<|.c (dV v)<|.lo [ke 2,ke 3,ch 7 (.gro 1 (outs.length+1) 2),ke 8,ke 20,ke 21,ke 28,ke 29,ch 30 (di (j+1:Nat))] ⟨[none,some (Ab ((outs++[v]).map eV))],[]⟩) (decide ((j:Int)<(ws.length:Int))=true/\0<=(j:Int)/\(Aos ws)[Int.toNat (j:Int)]?=some (vIs w)/\Q 2/\iz 0<=0/\(Alj c.kids)[Int.toNat 0]?=some (Af s0)/\F0 242 [dV c,di s0.n,di (k:Int),dIs w] (dV v)/\length (Akr outs)=length outs*2/\[Af v]≠ []/\(∀(y:V),y∈ [Af v]->V.size y=2)/\Ar (length outs+length (Af v::nV)) 32/\Azm 1 (length outs+length (Af v::nV)) 2=Azm 1 (length outs+1) 2/\di (wrap i64 ((j:Int)+1))=di (↑(j+1):Int)/\okH 2 [] [none,some (Ab (Alj outs)++(Ana v.n v.kids))]=true/\[none,some (Ab (Alj outs)++(Ana v.n v.kids))]=[none,some (Ab (map eV (outs++[v])))]/\I0 Uf 0 (dLP (l,0)) σ0 Al2 (mkE 51 [(Aqw m),(Als c),(7,Azm 1 (length outs+1) 2),(8,di (k:Int)),(20,di (m.places.length:Int)),(21,di (k:Int)),(28,D.v (Azf (Aos ws))),(29,di (ws.length:Int)),(30,di (↑(j+1):Int))]) (Azd [none,some (Ab (map eV (outs++[v])))] [])) ?_
   rw[J9]
   refine⟨H6 (by omega),by omega,by rw[IB,Ik,hw1];rfl,rfl,HV _,hx0,hsp,BA _,by simp,fun y hy=>by rw[HK.1 hy];rfl,⟨?_,?_⟩,rfl,Ad (by omega),?_,rfl,⟨?_⟩⟩
   ·simp only[H9,HD];omega
   ·simp only[H9,HD];omega
   ·simp[okH,D.okNs,D.okN,Ai]
   ·rw[HI] at l2
    refine DH (H0:=[none]) (fun E0 E h=>h.2) 1 rfl (fun cs hc=>?_) ?_ ?_ l2
    ·simp at hc;rw[hc];exact A3 _
    ·simp[mkE,D.okNs,D.okN]
    ·simp[mkE,D.rens,D.ren]
noncomputable abbrev Am1:=(Azl 24 [] [])
noncomputable abbrev Anb:=F0 24 [D.v (Azf []),D.v Alv] (Azn [])
theorem AdF(m:Mod)(c s0:Val)(hc:c.size<=128)(hr:m.ranks.length<=1000)(hp:m.places.length<=2)(h0:c.kids[0]?=some s0)(hl:c.kids.length=1+m.places.length)(hw:∀(k:Nat) (x:Val),c.kids[1+k]?=some x->x.kids.length<=12)(n:Nat):
  ∀(k:Nat) (outs:List Val),m.places.length-k=n->k<=m.places.length->outs=loF m c k->Rn PP Uf 0 (dLP (sortV (loF m c m.places.length),0)) σ0 ([.lp (sub Dr [1,1,1,0,1,0,0]),.blk 0,.code (sub Dr [1,1,1,1])]++[]) (mkE 51 [(2,.v (.ref (A8 m))),(3,.v (.ref (Af c))),(7,dLo outs),(20,di m.places.length),(21,di k)]) (Yp outs):=by
 induction n with
 |zero=>
  intro k outs hn hkp houts
  rw[show m.places.length=k by omega, ←houts]
  have ho:=Qd m c k
  rw[←houts] at ho
  have hs:∀v∈outs,v.size<=200:=fun v hv=>R9 (m:=m) (K:=k) hc (by omega) (by rw[←houts];exact hv)
  clear houts
  cases outs with
  |nil=>
   rw[show sortV []=[] by simp[sortV]]
   rw[show dLo ([]:List Val)=D.v V.nils from rfl,show Yp []=σ0 from rfl]
   refine lv 51 [2,3] (.f<|.c (.tup []) .r) (decide ((k:Int)<(k:Int))=false/\Anb/\Azn [D.v (Azf []),di 0]=dLP ([],0)) ?_
   exact⟨H8 (by omega),KP,rfl⟩
  |cons o outs=>
   rw[show dLo (o::outs)=D.gro 0 (o::outs).length 2 from rfl,show Yp (o::outs)=⟨[some (Ab ((o::outs).map eV))],[]⟩ from rfl]
   generalize o::outs=ol at*
   refine lv 51 [2,3] (.f<|.h (.q 14 0)<|.h (.ga 7)<|.h (.oc (.tup []) ⟨[some (Ab ((sortV ol).map eV))],[]⟩)<|.h (.q 15 1)<|.h (.ct 50 (dVs (sortV ol)) ⟨[none],[]⟩) .r) (decide ((k:Int)<(k:Int))=false/\(N0 [D.v Am1,Azi 0 0 ol.length,D.v Alv] (Ane ol) (Azn []) (Azd [some (Ab (map eV (sortV ol)))] []))/\(∀(e:List D),e[50]?=some (Aoj ol.length)->∀(E:Ent) (g:Gh) (a:Act) (w:World),FI E g (Azd [some (Ab (map eV (sortV ol)))] []) e a w->∃g',FI E g' (Azd [none] []) (List.set e 50 (dVs (sortV ol))) a w)/\Azn [D.v (vVs (sortV ol)),di 0]=dLP (sortV ol,0)) ?_
   have hsl:(sortV ol).length=ol.length:=(AH ol).length_eq
   refine⟨H8 (by omega),fun o cl fo hop hc=>?_,fun e he=>?_,rfl⟩
   ·exact Ci (H:=[Ab (ol.map eV)]) hop hc (fs:=[]) (cs:=[]) (ds:=[.arr 0 0 ol.length,dfn 25]) rfl (FV ol (by omega) (fun v hv=>by have:=hs v hv;omega)) rfl (fun cs hm=>by rw[HK.1 hm];exact⟨Ai _ _ _,ET _⟩) rfl (HM.2 ⟨Ai _ _ _,rfl⟩) (HB _)
   ·exact Xx (σ:=⟨[some (Ab ((sortV ol).map eV))],[]⟩) (q:=0) (sz:=2) (by decide) (C7 _) (by rw[H3,hsl]) rfl he
 |succ n ih=>
  intro k outs hn hkp houts
  obtain⟨x,hx⟩:∃x,c.kids[1+k]?=some x:=⟨_,H4 (by omega)⟩
  have hx12:=hw k x hx
  have hct:=Pd c k x hx (by omega) (by omega)
  have w3:=AbD m hr (AS x) (by rw[H3];omega)
  obtain⟨w1,w2⟩:=N9 m (AS x)
  have ho:=Qd m c k
  rw[←houts] at ho
  have hnx:=No m c k
  rw[←houts,show c.kids.getD (1+k) (.mk 0 [])=x by rw[HC,hx];rfl] at hnx
  generalize RZ m (AS x)=ws at w1 w2 w3 hnx
  have l2:=Agf m c s0 x k (by omega) hc h0 hx ws w1 w2 (sortV (loF m c m.places.length)) outs (by omega) (by rw[←hnx];exact ih (k+1) _ (by omega) (by omega) rfl) _ 0 outs rfl (by simp)
  clear houts hnx
  generalize sortV (loF m c m.places.length)=l at l2⊢
  cases outs with
  |nil=>
   rw[show dLo ([]:List Val)=D.v V.nils from rfl,show Yp []=σ0 from rfl] at l2⊢
   refine lv 51 [2,3] (.t<|.c (dIs (AS x))<|.c (dl (ws.map vIs))<|.l [ke 2,ke 3,ke 7,ke 8,ke 20,ke 21,ke 28,ch 29 (di ws.length),ch 30 (di (0:Nat))]) (decide ((k:Int)<(m.places.length:Int))=true/\F0 241 [dV c,di (k:Int)] (dIs (AS x))/\F0 253 [Ag m,D.v (vIs (AS x))] (dl (Aos ws))/\di (length (Aos ws):Int)=di (ws.length:Int)/\di 0=di (↑0:Int)/\I0 Uf 0 (dLP (l,0)) σ0 Al2 (mkE 51 [(Aqw m),(Als c),(7,dn),(8,di (k:Int)),(20,di (m.places.length:Int)),(21,di (k:Int)),(28,dl (Aos ws)),(29,di (ws.length:Int)),(30,di (↑0:Int))]) Akz) ?_
   exact⟨H6 (by omega),hct,w3,by rw[H3],rfl,⟨l2⟩⟩
  |cons o outs=>
   rw[RO (by simp),MA (by simp)] at l2⊢
   generalize o::outs=ol at*
   refine lv 51 [2,3] (.t<|.c (dIs (AS x))<|.c (dl (ws.map vIs))<|.l [ke 2,ke 3,ke 7,ke 8,ke 20,ke 21,ke 28,ch 29 (di ws.length),ch 30 (di (0:Nat))]) (decide ((k:Int)<(m.places.length:Int))=true/\F0 241 [dV c,di (k:Int)] (dIs (AS x))/\F0 253 [Ag m,D.v (vIs (AS x))] (dl (Aos ws))/\di (length (Aos ws):Int)=di (ws.length:Int)/\di 0=di (↑0:Int)/\I0 Uf 0 (dLP (l,0)) σ0 Al2 (mkE 51 [(Aqw m),(Als c),(7,Azm 0 ol.length 2),(8,di (k:Int)),(20,di (m.places.length:Int)),(21,di (k:Int)),(28,dl (Aos ws)),(29,di (ws.length:Int)),(30,di (↑0:Int))]) (Ane ol)) ?_
   exact⟨H6 (by omega),hct,w3,by rw[H3],rfl,⟨l2⟩⟩
theorem Aa6(m:Mod)(t:Typ)(hm:ChM m t)(hr:m.ranks.length<=1000)(c:Val)(hv:Aj t c=true):Aa PP 221 [Ag m,dV c] σ0 (dLP (sortV (loF m c m.places.length),0)) σ0:=by
 have hsh:=hm.shape c hv
 have hsz:=hsh.size
 have hck:=AcI m t hm c (by omega)
 rw[AcH,HP hv] at hck
 obtain⟨s0,h0⟩:∃x,c.kids[0]?=some x:=⟨_,H4 (by rw[hsh.len];omega)⟩
 have l2:=AdF m c s0 hsz hr hm.few.2 h0 hsh.len hsh.word _ 0 [] rfl (by omega) rfl
 generalize sortV (loF m c m.places.length)=l at l2⊢
 rw[show dLo ([]:List Val)=D.v V.nils from rfl,show Yp []=σ0 from rfl] at l2
 refine sv Uf 51 [2,3] (.c (di 0)<|.k<|.l [ke 2,ke 3,ke 7,ch 20 (di m.places.length),ch 21 (di (0:Nat))]) (F0 252 [Ag m,D.v (Azf [Af c])] (di 0)/\di (length (Aks m.places):Int)=di (m.places.length:Int)/\di 0=di (↑0:Int)/\I0 Uf σ0.H.length (dLP (l,0)) σ0 [kl Dr Ak2,Aza 0,kc Dr [1,1,1,1]] (mkE 51 [(Aqw m),(Als c),(7,dn),(20,di (m.places.length:Int)),(21,di (↑0:Int))]) σ0) ?_
 exact⟨hck,by rw[H3],rfl,⟨l2⟩⟩
structure TmC(c:Val):Prop where
 size:c.size<=128
 len:c.kids.length=2
 few:∀b,c.kids[1]?=some b->b.kids.length<=12
 toks:∀b v,c.kids[1]?=some b->v∈b.kids->v.kids.length=2
structure TmM(m:Mod)(t:Typ):Prop where
 int:Fx m t
 chk:Aa PP 52 [Ag m] σ0 (di 0) σ0
 kind:m.kind=5
 few:m.rules.length<=12
 rule:∀r∈m.rules,r.takes.length<=1/\r.makes.length<=1
 shape:∀c,Aj t c=true->TmC c
noncomputable abbrev AaU:Func:= Tryz.f234
noncomputable def Uh:Code:=AaU.body.getD .skip
noncomputable abbrev Aq7:=[kl Uh Akw,Aza 0,kc Uh [1,1,1]]
theorem YZ(l:List Val)(hl:l.length<=1000)(ps:List (Int×Int))(hp:ps.length=l.length)(hv:∀(k:Nat) (v:Val),l[k]?=some v->∃a b,v.kids[0]?=some a/\v.kids[1]?=some b/\ps[k]?=some (a.n,b.n))(n:Nat):∀k:Nat,l.length-k=n->
  Rn PP AaU 0 (.acc 1 (ps.map vPr)) ⟨[],[(1,2,ps.map vPr)]⟩ ([.lp (sub Uh [1,1,0,1,0,0]),.blk 0,.code (sub Uh [1,1,1])]++[]) (mkE 32 [(3,.acc 1 ((ps.take k).map vPr)),(10,dVs l),(11,di l.length),(12,di k)]) ⟨[],[(1,2,(ps.take k).map vPr)]⟩:=by
 induction n with
 |zero=>
  intro k hn
  refine lv 32 [1] (.f .r) (decide ((k:Int)<(l.length:Int))=false/\[(1,2,map vPr (take k ps))]=[(1,2,map vPr ps)]/\Azc 1 (map vPr (take k ps))=Azc 1 (map vPr ps)) ?_
  rw[HW (by omega)]
  exact⟨H8 (by omega),rfl,rfl⟩
 |succ n ih=>
  intro k hn
  obtain⟨x,hx⟩:∃x,l[k]?=some x:=⟨_,H4 (show k<l.length by omega)⟩
  obtain⟨a,b,ha,hb,hpk⟩:=hv k x hx
  refine lv 32 [1] (.t<|.h (.xs (Af x))<|.h (.xs (Af a))<|.h (.xs (Af b))<|.ls [ch 3 (.acc 1 ((ps.take (k+1)).map vPr)),ke 10,ke 11,ch 12 (di (k+1:Nat))] ⟨[],[(1,2,(ps.take (k+1)).map vPr)]⟩) (decide ((k:Int)<(l.length:Int))=true/\Q 2/\0<=(k:Int)/\(map eV l)[Int.toNat (k:Int)]?=some (Af x)/\Q 2/\iz 0<=0/\(Alj x.kids)[Int.toNat 0]?=some (Af a)/\Q 2/\iz 0<=1/\(Alj x.kids)[Int.toNat 1]?=some (Af b)/\Q (map vPr (take k ps))/\Ar (length (map vPr (take k ps))+length (Azh (vi a.n::vi b.n::nV)::nV)) 16/\(True/\True/\True)/\Azc 1 (map vPr (take k ps)++[Azh [vi a.n,vi b.n]])=Azc 1 (map vPr (take (k+1) ps))/\di (wrap i64 ((k:Int)+1))=di (↑(k+1):Int)/\[(1,2,map vPr (take k ps)++Azh (vi a.n::vi b.n::nV)::nV)]=[(1,2,map vPr (take (k+1) ps))]/\I0 AaU 0 (Azc 1 (map vPr ps)) (Azd [] [(1,2,map vPr ps)]) Aq7 (mkE 32 [(3,Azc 1 (map vPr (take (k+1) ps))),(10,dVs l),(11,di (l.length:Int)),(12,di (↑(k+1):Int))]) (Azd [] [(1,2,map vPr (take (k+1) ps))])) ?_
  have hk:=(H7.1 hx).1
  have ht:(ps.take (k+1)).map vPr=(ps.take k).map vPr++[V.agg [vi a.n,vi b.n]]:=by rw[IF,hpk];simp
  rw[ht]
  refine⟨H6 (by omega),rfl,by omega,As hx,rfl,HV _,As (i:=0) ha,rfl,by decide,As (i:=1) hb,rfl,⟨?_,?_⟩,⟨trivial,trivial,trivial⟩,rfl,Ad (by omega),rfl,⟨?_⟩⟩
  ·simp only[H3,HY,H9,HD];omega
  ·simp only[H3,HY,H9,HD];omega
  ·have:=ih (k+1) (by omega)
   rw[ht] at this
   exact this
theorem QL(c b:Val)(hb:c.kids[1]?=some b)(hl:b.kids.length<=1000)(ps:List (Int×Int))(hp:ps.length=b.kids.length)(hv:∀(k:Nat) (v:Val),b.kids[k]?=some v->∃a y,v.kids[0]?=some a/\v.kids[1]?=some y/\ps[k]?=some (a.n,y.n)):
  Aa PP 234 [dV c] σ0 (AC ps) σ0:=by
 have h:Aa PP 234 [dV c] σ0 (.acc 1 (ps.map vPr)) ⟨[],[(1,2,ps.map vPr)]⟩:=by
  refine sv AaU 32 [1] (.h (.q 2 0)<|.h (.nw 3 1 2)<|.h (.xs (Af b))<|.ls [ch 3 (.acc 1 []),ke 10,ch 11 (di b.kids.length),ch 12 (di (0:Nat))] ⟨[],[(1,2,[])]⟩) (Q 2/\iz 0<=1/\(Alj c.kids)[Int.toNat 1]?=some (Af b)/\Q Anz/\di (length (Alj b.kids):Int)=di (b.kids.length:Int)/\di 0=di (↑0:Int)/\Q [(1,2,nV)]/\I0 AaU σ0.H.length (Azc 1 (map vPr ps)) (Azd [] [(1,2,map vPr ps)]) Aq7 (mkE 32 [(3,Azc 1 []),(10,dVs b.kids),(11,di (b.kids.length:Int)),(12,di (↑0:Int))]) Arc) ?_
  exact⟨rfl,by decide,As (i:=1) hb,rfl,by rw[H3],rfl,rfl,⟨YZ b.kids hl ps hp hv _ 0 rfl⟩⟩
 exact FU h
noncomputable abbrev AjF:Func:= Tryz.f258
theorem Q8(s:Int)(b:Val)(hb:b.size<=10000):Aa PP 258 [di s,dl [Af b]] σ0 (dV (.mk 0 [.mk s [],b])) σ0:=by
 refine sv AjF 13 [] (.c (dVs [b])<|.c (dVs [.mk s [],b]) .r) (F0 273 [D.v (Azf [Af b])] (dVs [b])/\F0 272 [D.v (Azf [Azf [Azh [vi s,Azf []]],vVs [b]])] (dVs [Val.mk s [],b])/\D.v (Azh [vi 0,Azf [eV (Alz s),eV b]])=dV (Val.mk 0 [Val.mk s [],b])) ?_
 have h1:=RS [b] (by simp) (fun x hx=>by rw[HK.1 hx];exact RR _ b (HB _) (by omega))
 rw[show dVs [b]=dl [Af b] from HR (fun z=>dl [z]) (Bz b)] at h1⊢
 have h2:=Abu [[.mk s []],[b]] (by simp) (by simp)
 have e:[[Val.mk s []],[b]].flatten.map eV=[Val.mk s [],b].map eV:=rfl
 rw[e] at h2
 refine⟨h1,?_,?_⟩
 ·have e2:D.v (V.list [V.list [V.agg [vi s,V.list []]],vVs [b]])=dl (G4 [[.mk s []],[b]]):=by
   show _=D.v (.list [.list [eV (.mk s [])],.list [eV b]])
   rw[Bz];rfl
  rw[e2];exact h2
 ·rfl
abbrev Afx(ps:List (Int×Int)):St:=⟨[some (Ab (ps.map vPr))],[]⟩
theorem Gu(p:Int×Int)(l:List (Int×Int)):Ab ((p::l).map vPr)=[di p.1,di p.2]++Ab (l.map vPr):=rfl
theorem Lv:∀l:List (Int×Int),(Ab (l.map vPr)).length=l.length*2
 |[]=>rfl
 |p::l=>by rw[Gu,HI,Lv l,H9];simp;omega
theorem WV(l k:List (Int×Int)):Ab ((l++k).map vPr)=Ab (l.map vPr)++Ab (k.map vPr):=by simp only[Ab,IJ,List.flatMap_append]
theorem UQ(l:List Val)(hl:l.length<=1000)(ps:List (Int×Int))(hp:ps.length=l.length)(hv:∀(k:Nat) (v:Val),l[k]?=some v->∃a b,v.kids[0]?=some a/\v.kids[1]?=some b/\ps[k]?=some (a.n,b.n))(n:Nat):∀k:Nat,l.length- (k+1)=n->k<l.length->
  Rn PP AaU 0 (.arr 0 0 ps.length) (Afx ps) ([.lp (sub Uh [1,1,0,1,0,0]),.blk 0,.code (sub Uh [1,1,1])]++[]) (mkE 32 [(3,.gro 0 (k+1) 2),(10,dVs l),(11,di l.length),(12,di (k+1:Nat))]) (Afx (ps.take (k+1))):=by
 induction n with
 |zero=>
  intro k hn hk
  refine lv 32 [1] (.f<|.h (.q 7 0)<|.h (.ga 3) .ro) (decide ((↑(k+1):Int)<(l.length:Int))=false/\okH 1 [] [some (Ab (map vPr (take (k+1) ps)))]=true/\[some (Ab (map vPr (take (k+1) ps)))]=[some (Ab (map vPr ps))]/\Azi 0 0 (k+1)=Azi 0 0 ps.length) ?_
  have e:k+1=ps.length:=by omega
  rw[e,HW (HB _)]
  exact⟨H8 (by omega),HM.2 ⟨Ai 1 [] _,rfl⟩,rfl,rfl⟩
 |succ n ih=>
  intro k hn hk
  obtain⟨x,hx⟩:∃x,l[k+1]?=some x:=⟨_,H4 (show k+1<l.length by omega)⟩
  obtain⟨a,b,ha,hb,hpk⟩:=hv (k+1) x hx
  refine lv 32 [1] (.t<|.h (.xs (Af x))<|.h (.xs (Af a))<|.h (.xs (Af b))<|.lo [ch 3 (.gro 2 (k+1+1) 2),ke 10,ke 11,ch 12 (di (k+1+1:Nat))] ⟨[none,some (Ana x.n x.kids),some (Ab ((ps.take (k+1+1)).map vPr))],[]⟩) (decide ((↑(k+1):Int)<(l.length:Int))=true/\Q 2/\0<=(↑(k+1):Int)/\(map eV l)[Int.toNat (↑(k+1):Int)]?=some (Af x)/\Q 2/\iz 0<=0/\(Alj x.kids)[Int.toNat 0]?=some (Af a)/\Q 2/\iz 0<=1/\(Alj x.kids)[Int.toNat 1]?=some (Af b)/\length (Ab (map vPr (take (k+1) ps)))=(k+1)*2/\[Azh [vi a.n,vi b.n]]≠ []/\(∀(y:V),y∈ [Azh [vi a.n,vi b.n]]->V.size y=2)/\Ar (k+1+length (Azh (vi a.n::vi b.n::nV)::nV)) 16/\(True/\True/\True)/\Azm 2 (k+1+length (Azh (vi a.n::vi b.n::nV)::nV)) 2=Azm 2 (k+1+1) 2/\di (wrap i64 ((↑(k+1):Int)+1))=di (↑(k+1+1):Int)/\okH 3 [] [none,some (Ana x.n x.kids),some (Ab (map vPr (take (k+1) ps))++[di a.n,di b.n])]=true/\[none,some (Ana x.n x.kids),some (Ab (map vPr (take (k+1) ps))++[di a.n,di b.n])]=[none,some (Ana x.n x.kids),some (Ab (map vPr (take (k+1+1) ps)))]/\I0 AaU 0 (Aoj ps.length) (Afx ps) Aq7 (mkE 32 [(3,Azm 2 (k+1+1) 2),(10,dVs l),(11,di (l.length:Int)),(12,di (↑(k+1+1):Int))]) (Azd [none,some (Ana x.n x.kids),some (Ab (map vPr (take (k+1+1) ps)))] [])) ?_
  have hk1:=(H7.1 hx).1
  have ht:(ps.take (k+1+1))=(ps.take (k+1))++[(a.n,b.n)]:=by rw[IF (i:=k+1),hpk];rfl
  have hf:Ab ((ps.take (k+1)).map vPr)++[di a.n,di b.n]=Ab ((ps.take (k+1+1)).map vPr):=by rw[ht,WV];rfl
  have hih:=ih (k+1) (by omega) hk1
  rw[hf]
  refine⟨H6 (by omega),rfl,by omega,As hx,rfl,HV _,As (i:=0) ha,rfl,by decide,As (i:=1) hb,by rw[Lv,HY];omega,by simp,fun y hy=>by rw[HK.1 hy];rfl,⟨?_,?_⟩,⟨trivial,trivial,trivial⟩,rfl,Ad (by omega),?_,rfl,⟨?_⟩⟩
  ·simp only[H9,HD];omega
  ·simp only[H9,HD];omega
  ·simp[okH,D.okNs,D.okN,Ai]
  ·refine DH (H0:=[none,some [di x.n,dVs x.kids]]) (fun E0 E h=>h.2) 2 rfl (fun cs hc=>?_) ?_ ?_ hih
   ·simp at hc;rw[hc];exact A3 _
   ·simp[mkE,D.okNs,D.okN]
   ·simp[mkE,D.rens,D.ren]
theorem Aii{o:Oper}{t:Nat}(x:Val)(τ:St)(ho:o.op=.fieldAddr 31 (.tmp t) 0):Ah PP o [.v (.ref (Af x))] τ (.v (.ref (vi x.n))) τ:=EJ ho (fo:=0) (n:=1) (b:=false) (by kernel_rfl) (by decide) (fun _=>rfl) rfl
theorem AjE{o:Oper}{t:Nat}(x:Int)(τ:St)(ho:o.op=.load 3 (.tmp t)):Ah PP o [.v (.ref (vi x))] τ (di x) τ:=EI ho (by unfold NK;kernel_rfl) rfl
theorem AiT{o:Oper}{t t':Nat}(x y:Int)(τ:St)(ho:o.op=.build 169 #[(0,.tmp t),(1,.tmp t')]):Ah PP o [di x,di y] τ (.v (vPr (x,y))) τ:=MT ho (z:=[vi 0,vi 0]) (places:=[(0,1),(1,1)]) (by kernel_rfl) (xs:=[(0,vi x),(1,vi y)]) rfl rfl
theorem slP:BP PP 243=some (169,2,16,some (.agg #[.int .i64 0,.int .i64 0])):=by kernel_rfl
theorem Akj{o:Oper}{t:Nat}(p:Int×Int)(τ:St)(ho:o.op=.buildSlice 243 1 #[(0,.tmp t)]):Ah PP o [.v (vPr p)] τ (.v (.list [vPr p])) τ:=
 DZ ho rfl rfl slP rfl (xs:=[vPr p]) rfl (fun y hy=>by rw[HK.1 hy];rfl) (by decide) (by decide) (by decide)
theorem UP(c b:Val)(hb:c.kids[1]?=some b)(hl:b.kids.length<=1000)(hn:b.kids≠ [])(ps:List (Int×Int))(hp:ps.length=b.kids.length)(hv:∀(k:Nat) (v:Val),b.kids[k]?=some v->∃a y,v.kids[0]?=some a/\v.kids[1]?=some y/\ps[k]?=some (a.n,y.n)):
  Aa PP 234 [dV c] σ0 (.arr 0 0 ps.length) (Afx ps):=by
 have hpos:=List.length_pos_iff.2 hn
 obtain⟨x,hx⟩:∃x,b.kids[0]?=some x:=⟨_,H4 hpos⟩
 obtain⟨a,y,ha,hy,hpk⟩:=hv 0 x hx
 refine sv AaU 32 [1] (.h (.xs (Af b))<|.n<|.t<|.h (.xs (Af x))<|.h (.xs (Af a))<|.h (.xs (Af y))<|.h (.p (.v (.ref (vi y.n))))<|.h (.p (di y.n))<|.h (.p (.v (vPr (a.n,y.n))))<|.h (.p (.v (.list [vPr (a.n,y.n)])))<|.h .g<|.lo [ch 3 (.gro 1 1 2),ke 10,ch 11 (di b.kids.length),ch 12 (di (1:Nat))] ⟨[some (Ana x.n x.kids),some (Ab ((ps.take 1).map vPr))],[]⟩) (Q 2/\iz 0<=1/\(Alj c.kids)[Int.toNat 1]?=some (Af b)/\decide (0<(length (Alj b.kids):Int))=true/\Q 2/\iz 0<=0/\(Alj b.kids)[Int.toNat 0]?=some (Af x)/\Q 2/\iz 0<=0/\(Alj x.kids)[Int.toNat 0]?=some (Af a)/\Q 2/\iz 0<=1/\(Alj x.kids)[Int.toNat 1]?=some (Af y)/\(∀(τ:St),Ah PP (Oper.mk (some 25) (Op.fieldAddr 31 (Operand.tmp 24) 0) 0 "timed.go:30" #[Edge.mk 8 Ground.data] none) [D.v (Apv y)] τ (D.v (Azo (vi y.n))) τ)/\(∀(τ:St),Ah PP (Oper.mk (some 26) (Op.load 3 (Operand.tmp 25)) 3 "timed.go:30" #[Edge.mk 9 Ground.data] none) [D.v (Azo (vi y.n))] τ (di y.n) τ)/\(∀(τ:St),Ah PP (Oper.mk (some 27) (Op.build 169 #[(0,Operand.tmp 21),(1,Operand.tmp 26)]) 169 "timed.go:30" #[Edge.mk 5 Ground.data,Edge.mk 10 Ground.data] none) [di a.n,di y.n] τ (D.v (vPr (Val.n a,Val.n y))) τ)/\(∀(τ:St),Ah PP (Oper.mk (some 28) (Op.buildSlice 243 1 #[(0,Operand.tmp 27)]) 243 "timed.go:30" #[Edge.mk 11 Ground.data] none) [D.v (vPr (Val.n a,Val.n y))] τ (D.v (Azf [vPr (Val.n a,Val.n y)])) τ)/\[vPr (Val.n a,Val.n y)]≠ []/\(∀(y_1:V),y_1∈ [vPr (Val.n a,Val.n y)]->V.size y_1=2)/\Ar 1 16/\(True/\True/\True)/\Q (Azm 1 1 2)/\di (length (Alj b.kids):Int)=di (b.kids.length:Int)/\di (wrap i64 (0+1))=di (↑1:Int)/\okH 2 [] [some (Ana x.n x.kids),some [di (Val.n a,Val.n y).fst,di (Val.n a,Val.n y).snd]]=true/\[some (Ana x.n x.kids),some [di (Val.n a,Val.n y).fst,di (Val.n a,Val.n y).snd]]=[some (Ana x.n x.kids),some (Ab (map vPr (take 1 ps)))]/\I0 AaU σ0.H.length (Aoj ps.length) (Afx ps) Aq7 (mkE 32 [(3,Azm 1 1 2),(10,dVs b.kids),(11,di (b.kids.length:Int)),(12,di (↑1:Int))]) (Azd [some (Ana x.n x.kids),some (Ab (map vPr (take 1 ps)))] [])) ?_
 have ht:ps.take 1=[(a.n,y.n)]:=by
  cases ps with
  |nil=>simp at hpk
  |cons p l=>simp at hpk;simp[hpk]
 have hih:=UQ b.kids hl ps hp hv _ 0 rfl hpos
 refine⟨rfl,by decide,As (i:=1) hb,H6 (by rw[H3];omega),rfl,HV _,As (i:=0) hx,rfl,HV _,As (i:=0) ha,rfl,by decide,As (i:=1) hy,fun τ=>Aii y τ rfl,fun τ=>AjE y.n τ rfl,fun τ=>AiT a.n y.n τ rfl,fun τ=>Akj _ τ rfl,by simp,fun z hz=>by rw[HK.1 hz];rfl,⟨by decide,by decide⟩,⟨trivial,trivial,trivial⟩,rfl,by rw[H3],HR di (by decide),rfl,?_,⟨?_⟩⟩
 ·rw[ht];rfl
 ·refine DH (H0:=[some [di x.n,dVs x.kids]]) (fun E0 E h=>h.2) 1 rfl (fun cs hc=>?_) ?_ ?_ hih
  ·simp at hc;rw[hc];exact A3 _
  ·simp[mkE,D.okNs,D.okN]
  ·simp[mkE,D.rens,D.ren]
noncomputable abbrev AeI:Func:= Tryz.f236
noncomputable def Afb:Code:=AeI.body.getD .skip
abbrev Af1(xs:List Val):St:=⟨[some [di 0,.v .nils],some [di 0,.gro 2 xs.length 2],some (Ab (xs.map eV))],[]⟩
abbrev pV(p:Int×Int):Val:=.mk 0 [.mk p.1 [],.mk p.2 []]
theorem VZ(p:Int×Int):(pV p).size=3:=rfl
theorem Zf{l k:List Val}(h:l.Perm k):Val.sizes l=Val.sizes k:=by
 induction h with
 |nil=>rfl
 |cons x _ ih=>rw[Val.sizes,Val.sizes,ih]
 |swap x y l=>simp only[Val.sizes];omega
 |trans _ _ ih1 ih2=>rw[ih1,ih2]
theorem UW:∀l:List (Int×Int),Val.sizes (l.map pV)=3*l.length
 |[]=>rfl
 |p::l=>by rw[HU,Val.sizes,UW l,VZ,H9];omega
theorem Si(l:List (Int×Int))(hl:l.length<=100):(Val.mk 0 (sortV (l.map pV))).size<=301:=by
 rw[Val.size,Zf (AH _),UW];omega
theorem Aje(s:Int)(l:List (Int×Int))(hl:l.length<=100):(Val.mk 0 [.mk s [],.mk 0 (sortV (l.map pV))]).size<=400:=by
 have:=Si l hl
 simp only[Val.size,Val.sizes] at this⊢;omega
theorem vsz(s:Int)(l:List (Int×Int))(hl:l.length<=100):(Val.mk 0 [.mk s [],.mk 0 (sortV (l.map pV))]).size<=1000000:=by
 have:=Aje s l hl;omega
theorem AbI{R:List D->St->Prop}{ks:List KI}{e e':List D}(n:Nat)(x:List D)(F:List V)(_:Nat)(_:(0:Nat)<=0)(_:(0:Nat)=0)(he:D.okNs 3 [] e'=true)(hee:e=D.rens (fun i=>if i<2 then i else i+2) id e')
  (h:A1 (CN 0) PP R ks e' ⟨[some [di 0,.v .nils],some [di 0,.gro 2 n 2],some (Ab F)],[]⟩):A1 (CN 0) PP R ks e ⟨[some [di 0,.v .nils],some [di 0,.gro 4 n 2],none,some x,some (Ab F)],[]⟩:=by
 refine Ee (σ:=⟨[some [di 0,.v .nils],some [di 0,.gro 4 n 2],none,some x,some (Ab F)],[]⟩) (e':=e') (H':=[some [di 0,.v .nils],some [di 0,.gro 2 n 2],some (Ab F)]) (m:=0) (fun _ _ h=>h.2) (fun i=>if i<2 then i else i+2) (Ic _) (fun i hi=>by omega) (fun i j _ _ h=>?_) (fun i cs hi=>?_) he hee h
 ·have h:(if i<2 then i else i+2)=(if j<2 then j else j+2):=h
  split at h<;>split at h<;>omega
 ·match i,hi with
  |0,hi=>simp at hi;subst hi;exact⟨rfl,rfl⟩
  |1,hi=>simp at hi;subst hi;exact⟨rfl,rfl⟩
  |2,hi=>
   simp at hi;subst hi
   exact⟨by rw[AV (A3 _)];rfl,Ai _ _ _⟩
  |i+3,hi=>simp at hi
theorem XP{R:List D->St->Prop}{ks:List KI}{e e':List D}(n:Nat)(x:List D)(F:List V)(_:(0:Nat)<=0)(_:(0:Nat)=0)(he:D.okNs 3 [] e'=true)(hee:e=D.rens (fun i=>if i<2 then i else i+1) id e')
  (h:A1 (CN 0) PP R ks e' ⟨[some [di 0,.v .nils],some [di 0,.gro 2 n 2],some (Ab F)],[]⟩):A1 (CN 0) PP R ks e ⟨[some [di 0,.v .nils],some [di 0,.gro 3 n 2],some x,some (Ab F)],[]⟩:=by
 refine Ee (σ:=⟨[some [di 0,.v .nils],some [di 0,.gro 3 n 2],some x,some (Ab F)],[]⟩) (e':=e') (H':=[some [di 0,.v .nils],some [di 0,.gro 2 n 2],some (Ab F)]) (m:=0) (fun _ _ h=>h.2) (fun i=>if i<2 then i else i+1) (Ic _) (fun i hi=>by omega) (fun i j _ _ h=>?_) (fun i cs hi=>?_) he hee h
 ·have h:(if i<2 then i else i+1)=(if j<2 then j else j+1):=h
  split at h<;>split at h<;>omega
 ·match i,hi with
  |0,hi=>simp at hi;subst hi;exact⟨rfl,rfl⟩
  |1,hi=>simp at hi;subst hi;exact⟨rfl,rfl⟩
  |2,hi=>
   simp at hi;subst hi
   exact⟨by rw[AV (A3 _)];rfl,Ai _ _ _⟩
  |i+3,hi=>simp at hi
noncomputable abbrev Apo:=fun a₀ b₀=>(Azh (V.int i64 0::Azf (Azh (Amb a₀)::Azh (Amb b₀)::nV)::nV)::nV)
noncomputable abbrev Aqn:=fun a₀ b₀=>(map pV (take (a₀+1) b₀))
theorem AbJ(m:Mod)(t:Typ)(hm:Fx m t)(s:Int)(l:List (Int×Int))(hl:l.length<=100)(v:Val)(b:Bool)(hv:v=.mk 0 [.mk s [],.mk 0 (sortV (l.map pV))])(hb:b=Aj t v)(n:Nat):∀k:Nat,l.length- (k+1)=n->k<l.length->
  Rn PP AeI 0 (.tup [dV v,db b]) σ0 ([.lp (sub Afb [1,1,0,1,0,0]),.blk 0,.code (sub Afb [1,1,1])]++[]) (mkE 44 [(1,di s),(3,.v (.ref (A8 m))),(6,.ptr 0 0),(8,.ptr 1 0),(13,AC l),(14,di l.length),(15,di (k+1:Nat))]) (Af1 ((l.take (k+1)).map pV)):=by
 induction n with
 |zero=>
  intro k hn hk
  refine lv 44 [3] (.f<|.h (.q 7 2)<|.h (.ga 34)<|.h (.oc (.tup []) ⟨[some [di 0,.v .nils],some [di 0,.gro 2 l.length 2],some (Ab ((sortV (l.map pV)).map eV))],[]⟩)<|.h (.q 8 0)<|.h (.cs ⟨[some [di 0,.v .nils],some [di 0,dVs (sortV (l.map pV))],none],[]⟩)<|.c (dV v)<|.c (db b) .r) (decide ((↑(k+1):Int)<(l.length:Int))=false/\(∀(o:Oper) (c:Call) (fo:Operand),o.op=Op.call c->c.callee=Callee.value fo->Ah PP o [D.v (Azl 24 [] []),Azi 2 0 (length (map pV (take (k+1) l))),D.v (Azl 25 [] [])] (Af1 (map pV (take (k+1) l))) (Azn []) (Azd [some [di 0,dn],some [di 0,Azm 2 l.length 2],some (Ab (map eV (sortV (map pV l))))] []))/\(∀(e:List D) (E:Ent) (g:Gh) (a:Act) (w:World),FI E g (Azd [some [di 0,dn],some [di 0,Azm 2 l.length 2],some (Ab (map eV (sortV (map pV l))))] []) e a w->∃g',FI E g' (Azd [some [di 0,dn],some [di 0,dVs (sortV (map pV l))],none] []) e a w)/\F0 258 [di s,D.v (Azf [Azh [vi 0,vVs (sortV (map pV l))]])] (dV v)/\F0 118 [Ag m,dV v] (db b)/\(True/\True/\True)/\Azn [D.v (Azh [vi v.n,Azf (map eV v.kids)]),db b]=Azn [dV v,db b]) ?_
  have e:k+1=l.length:=by omega
  rw[e,HW (HB _)]
  have hsz:∀x∈l.map pV,x.size<=1000000:=fun x hx=>by obtain⟨p,_,rfl⟩:=Il.1 hx;rw[VZ];decide
  have hsl:(sortV (l.map pV)).length=l.length:=by rw[(AH _).length_eq,H3]
  have hbs:=Si l hl
  refine⟨H8 (by omega),fun o cl fo hop hc=>?_,fun e=>?_,?_,hb▸hm.valid v (by rw[hv];exact vsz s l hl),⟨trivial,trivial,trivial⟩,rfl⟩
  ·have:=MR (dc:=[.arr 0 0 l.length,dfn 25]) (σ:=Af1 (l.map pV)) (q:=2) (fs:=[]) (cs:=[]) (ds:=[.arr 2 0 (l.map pV).length,dfn 25]) hop hc rfl (A3 _) (A3 _) (by rw[H3];exact .arr (.pl rfl .nil)) rfl (by have:=FV (l.map pV) (by rw[H3];omega) hsz;rwa[H3] at this)
   simpa[Af1] using this
  ·exact JD (σ:=⟨[some [di 0,.v .nils],some [di 0,.gro 2 l.length 2],some (Ab ((sortV (l.map pV)).map eV))],[]⟩) (p:=1) (q:=2) (i:=1) (sz:=2) (cs:=[di 0,.gro 2 l.length 2]) (xs:=(sortV (l.map pV)).map eV) (by decide) rfl rfl (by decide) (by rw[H3,hsl];rfl) (C7 _) e
  ·rw[hv];exact Q8 s (.mk 0 (sortV (l.map pV))) (by omega)
 |succ n ih=>
  intro k hn hk
  obtain⟨x,hx⟩:∃x,l[k+1]?=some x:=⟨_,H4 (show k+1<l.length by omega)⟩
  refine lv 44 [3] (.t<|.x (vPr x)<|.lo [ke 1,ke 3,ke 6,ke 8,ke 13,ke 14,ch 15 (di (k+1+1:Nat))] ⟨[some [di 0,.v .nils],some [di 0,.gro 4 (k+1+1) 2],none,some [di x.1,di x.2],some (Ab (((l.take (k+1+1)).map pV).map eV))],[]⟩) (decide ((↑(k+1):Int)<(l.length:Int))=true/\0<=(↑(k+1):Int)/\(map vPr l)[Int.toNat (↑(k+1):Int)]?=some (vPr x)/\iz 0<=0/\0<(↑2:Int)/\iz 0<=1/\1<(↑2:Int)/\length (Ab (map eV (map pV (take (k+1) l))))=length (map pV (take (k+1) l))*2/\[Azh [vi 0,Azf [Azh [vi x.fst,Azf []],Azh [vi x.snd,Azf []]]]]≠ []/\(∀(y:V),y∈ [Azh [vi 0,Azf [Azh [vi x.fst,Azf []],Azh [vi x.snd,Azf []]]]]->V.size y=2)/\Ar (length (map pV (take (k+1) l))+length (Azh (V.int i64 0::Azf (Azh (vi x.fst::Azf nV::nV)::Azh (vi x.snd::Azf nV::nV)::nV)::nV)::nV)) 32/\di (wrap i64 ((↑(k+1):Int)+1))=di (↑(k+1+1):Int)/\okH 5 [] [some [di 0,dn],some [di 0,Azm 4 (length (map pV (take (k+1) l))+length (Azh (V.int i64 0::Azf (Azh (vi x.fst::Azf nV::nV)::Azh (vi x.snd::Azf nV::nV)::nV)::nV)::nV)) 2],none,some [di x.fst,di x.snd],some (Ab (map eV (map pV (take (k+1) l)))++[di 0,D.v (Azf [Azh [vi x.fst,Azf []],Azh [vi x.snd,Azf []]])])]=true/\[some [di 0,dn],some [di 0,Azm 4 (length (map pV (take (k+1) l))+length (Azh (V.int i64 0::Azf (Azh (vi x.fst::Azf nV::nV)::Azh (vi x.snd::Azf nV::nV)::nV)::nV)::nV)) 2],none,some [di x.fst,di x.snd],some (Ab (map eV (map pV (take (k+1) l)))++[di 0,D.v (Azf (Azh (vi x.fst::Azf nV::nV)::Azh (vi x.snd::Azf nV::nV)::nV))])]=[some [di 0,dn],some [di 0,Azm 4 (k+1+1) 2],none,some [di x.fst,di x.snd],some (Ab (map eV (map pV (take (k+1+1) l))))]/\I0 AeI 0 (Azn [dV v,db b]) σ0 [kl Afb [1,1,0,1,0,0],Aza 0,kc Afb [1,1,1]] (mkE 44 [(1,di s),(3,D.v (Azo (A8 m))),(6,Azb 0 0),(8,Azb 1 0),(13,D.v (Cb l)),(14,di (l.length:Int)),(15,di (↑(k+1+1):Int))]) (Azd [some [di 0,dn],some [di 0,Azm 4 (k+1+1) 2],none,some [di x.fst,di x.snd],some (Ab (map eV (map pV (take (k+1+1) l))))] [])) ?_
  have hk1:=(H7.1 hx).1
  have ht:l.take (k+1+1)=l.take (k+1)++[x]:=by rw[IF (i:=k+1),hx];rfl
  have hpe:D.v (V.list [V.agg [vi x.1,V.list []],V.agg [vi x.2,V.list []]])=dVs (pV x).kids:=by
   show _=D.v (.list [eV (.mk x.1 []),eV (.mk x.2 [])])
   rw[Bz,Bz];rfl
  have hf:Ab (((l.take (k+1)).map pV).map eV)++[di 0,D.v (V.list [V.agg [vi x.1,V.list []],V.agg [vi x.2,V.list []]])]=Ab (((l.take (k+1+1)).map pV).map eV):=by
   rw[hpe,ht,IJ,EN]
   congr 1
  have hih:=ih (k+1) (by omega) hk1
  have hll:((l.take (k+1)).map pV).length=k+1:=by rw[H3,HY];omega
  have hll2:((l.take (k+1+1)).map pV).length=k+1+1:=by rw[H3,HY];omega
  rw[hll,hf]
  refine⟨H6 (by omega),by omega,Aq hx,HV _,by decide,by decide,by decide,by rw[BA,hll],by simp,fun y hy=>by rw[HK.1 hy];rfl,⟨?_,?_⟩,Ad (by omega),?_,?_,⟨?_⟩⟩
  ·simp only[H9,HD];omega
  ·simp only[H9,HD];omega
  ·simp[okH,D.okNs,D.okN,Ai]
  ·rfl
  ·rw[Af1,hll2] at hih
   exact AbI _ _ _ 0 (by decide) rfl (by simp[mkE,D.okNs,D.okN]) (by simp[mkE,D.rens,D.ren]) hih
def Ca(s:Int)(l:List (Int×Int)):Val:=.mk 0 [.mk s [],.mk 0 (sortV (l.map pV))]
theorem LC(s:Int)(l:List (Int×Int))(hl:l.length<=100):(Ca s l).size<=400:=Aje s l hl
theorem NC(m:Mod)(t:Typ)(hm:Fx m t)(s:Int)(l:List (Int×Int))(hl:l.length<=100):Aa PP 236 [Ag m,di s,AC l] σ0 (.tup [dV (Ca s l),db (Aj t (Ca s l))]) σ0:=by
 obtain⟨v,hv⟩:∃v:Val,v=Ca s l:=⟨_,rfl⟩
 rw[←hv]
 unfold Ca at hv
 ·cases l with
  |nil=>
   refine sv AeI 44 [3] (.n<|.f<|.c (.tup [])<|.c (dV v)<|.c (db (Aj t v)) .r) (decide (0<(length (map vPr []):Int))=false/\Anb/\F0 258 [di s,D.v (Azf [Azh [vi 0,Azf []]])] (dV v)/\F0 118 [Ag m,dV v] (db (Aj t v))/\(True/\True/\True)/\Azn [D.v (Ao3 v.n v.kids),db (Aj t v)]=Azn [dV v,db (Aj t v)]) ?_
   have hmv:=hm.valid v (by rw[hv];exact vsz s [] hl)
   have hn0:sortV ([].map pV)=[]:=(AH _).eq_nil
   refine⟨by decide,KP,?_,hmv,⟨trivial,trivial,trivial⟩,rfl⟩
   rw[hv,hn0]
   exact Q8 s (.mk 0 []) (by decide)
  |cons x l=>
   refine sv AeI 44 [3] (.h (.q 1 0)<|.h .rn<|.n<|.t<|.x (vPr x)<|.h (.q 5 11)<|.h .g<|.lo [ke 1,ke 3,ke 6,ke 8,ke 13,ch 14 (di (x::l).length),ch 15 (di (1:Nat))] ⟨[some [di 0,.v .nils],some [di 0,.gro 3 1 2],some [di x.1,di x.2],some (Ab ([pV x].map eV))],[]⟩) (decide (0<(length (map vPr (x::l)):Int))=true/\iz 0<=0/\Q (some (vPr x))/\iz 0<=0/\0<(↑2:Int)/\iz 0<=1/\1<(↑2:Int)/\[Azh [vi 0,Azf (Amu x.fst x.snd)]]≠ []/\(∀(y:V),y∈ [Azh [vi 0,Azf (Amu x.fst x.snd)]]->V.size y=2)/\Ar 1 32/\di (length (map vPr (x::l)):Int)=di (length (x::l):Int)/\di (wrap i64 (0+1))=di (↑1:Int)/\okH 4 [] [some [di 0,dn],some [di 0,Azm 3 1 2],some [di x.fst,di x.snd],some [di 0,D.v (Azf (Amu x.fst x.snd))]]=true/\Q [some [di 0,dn],some [di 0,Azm 3 1 2],some [di x.fst,di x.snd],some [di 0,D.v (Azf (Azh (Amb x.fst)::Azh (Amb x.snd)::nV))]]/\I0 AeI σ0.H.length (Azn [dV v,db (Aj t v)]) σ0 [kl Afb Akw,Aza 0,kc Afb [1,1,1]] (mkE 44 [(1,di s),(3,D.v (Amc m)),(6,Azb 0 0),(8,Azb 1 0),(13,AC (x::l)),(14,di (length (x::l):Int)),(15,di (↑1:Int))]) (Azd [some [di 0,dn],some [di 0,Azm 3 1 2],some [di x.fst,di x.snd],some [di 0,D.v (Azf (Amu x.fst x.snd))]] [])) ?_
   have hpe:D.v (V.list [V.agg [vi x.1,V.list []],V.agg [vi x.2,V.list []]])=dVs (pV x).kids:=by
    show _=D.v (.list [eV (.mk x.1 []),eV (.mk x.2 [])])
    rw[Bz,Bz];rfl
   have hf:[di 0,D.v (V.list [V.agg [vi x.1,V.list []],V.agg [vi x.2,V.list []]])]=Ab ([pV x].map eV):=by
    rw[hpe,AB];rfl
   have hlp:=AbJ m t hm s (x::l) hl v _ hv rfl _ 0 rfl (by simp)
   refine⟨H6 (by simp only[H3,H9];omega),HV _,rfl,HV _,by decide,by decide,by decide,by simp,fun y hy=>by rw[HK.1 hy];rfl,⟨by decide,by decide⟩,by rw[H3],HR di (by decide),rfl,rfl,⟨?_⟩⟩
   rw[hf]
   exact XP _ _ _ (by decide) rfl (by simp[mkE,D.okNs,D.okN]) (by simp[mkE,D.rens,D.ren]) hlp
noncomputable abbrev Aik:Func:= Tryz.f254
theorem UR(m:Mod)(t:Typ)(hm:TmM m t)(c:Val)(hv:Aj t c=true):Aa PP 254 [Ag m,dV c] σ0 (di 0) σ0:=by
 refine sv Aik 20 [2,3] (.c (di 0)<|.k<|.f<|.c (db true) .r) (Ak1 m/\(m.kind !=5)=false/\Am8 m c/\Q (di 0)) ?_
 have h1:=hm.int.valid c (by have:=(hm.shape c hv).size;omega)
 rw[hv] at h1
 exact⟨hm.chk,by rw[hm.kind];rfl,h1,rfl⟩
def Gm(b:Val):List (Int×Int):=b.kids.map fun v=>((v.kids.getD 0 z00).n,(v.kids.getD 1 z00).n)
theorem ML(b:Val):(Gm b).length=b.kids.length:=H3 _
theorem VN(b:Val)(h:∀v∈b.kids,v.kids.length=2)(k:Nat)(v:Val)(hk:b.kids[k]?=some v):∃a y,v.kids[0]?=some a/\v.kids[1]?=some y/\(Gm b)[k]?=some (a.n,y.n):=by
 have h2:=h v (HA hk)
 refine⟨v.kids[0],v.kids[1],H4 (by omega),H4 (by omega),?_⟩
 rw[Gm,Ik,hk]
 simp[HC,h2]
def Fu(m:Mod)(x:Int):Int:=if wrap i64 (m.age+1)<wrap i64 (x+1) then wrap i64 (m.age+1) else wrap i64 (x+1)
theorem WU{l:List (Int×Int)}{k:Nat}{x:Int×Int}(h:l[k]?=some x):(Ab (l.map vPr))[k*2+1]?=some (di x.2):=by
 induction l generalizing k with
 |nil=>simp at h
 |cons y l ih=>
  cases k with
  |zero=>simp at h;subst h;rfl
  |succ k=>
   rw[Gu,show(k+1)*2+1=(k*2+1)+2 by omega]
   exact ih (by simpa using h)
theorem OP{l:List (Int×Int)}{k:Nat}{x:Int×Int}(h:l[k]?=some x)(y:Int):(Ab (l.map vPr)).set (k*2+1) (di y)=Ab ((l.set k (x.1,y)).map vPr):=by
 induction l generalizing k with
 |nil=>simp at h
 |cons z l ih=>
  cases k with
  |zero=>simp at h;subst h;rfl
  |succ k=>
   rw[Gu,IP,Gu, ←ih (by simpa using h),show(k+1)*2+1=(k*2+1)+2 by omega]
   rfl
noncomputable abbrev AeF:Func:= Tryz.f222
noncomputable def AeK:Code:=AeF.body.getD .skip
def olP(m:Mod)(ps:List (Int×Int)):List (Int×Int):=ps.map fun p=>(p.1,Fu m p.2)
noncomputable abbrev Amy:=(TypeInfo.mk (TypeDesc.int i64) "int" 1 8 false 8 8 (some (Value.int i64 0)) true #[])
noncomputable abbrev Api:=fun a₀=>[some [di 0,dn],some (Ab (map vPr a₀))]
theorem Zd(m:Mod)(c s0:Val)(h0:c.kids[0]?=some s0)(ps:List (Int×Int))(N:Nat)(hpN:ps.length=N)(hN:N<=100)(v:Val)(b:Bool)(v2:Aa PP 236 [Ag m,di s0.n,AC (olP m ps)] σ0 (.tup [dV v,db b]) σ0)(n:Nat):∀(k:Nat) (l:List (Int×Int)),N-k=n->l.length=N->(∀i:Nat,l[i]?=if i<k then(olP m ps)[i]? else ps[i]?)->
  Rn PP AeF 0 (.tup [dV v,di 0]) σ0 ([.lp (sub AeK [1,1,1,0,1,0,0]),.blk 0,.code (sub AeK [1,1,1,1])]++[]) (mkE 52 [(2,.v (.ref (A8 m))),(3,.v (.ref (Af c))),(4,.ptr 0 0),(7,.arr 1 0 N),(21,di N),(22,di k)]) ⟨[some [di 0,.v .nils],some (Ab (l.map vPr))],[]⟩:=by
 induction n with
 |zero=>
  intro k l hn hl hi
  have e:l=olP m ps:=List.ext_getElem? fun i=>by
   rw[hi i]
   split
   ·rfl
   ·rw[Ir (by omega),Ir (by rw[olP,H3];omega)]
  rw[←e] at v2
  clear hi e
  refine lv 52 [2,3] (.h (.q 6 0)<|.h (.ct 7 (AC l) ⟨[some [di 0,.v .nils],none],[]⟩)<|.f<|.h (.dr 11)<|.h (.xs (Af s0))<|.c (.tup [dV v,db b]) .r) ((∀(e:List D),e[7]?=some (Azi 1 0 N)->∀(E:Ent) (g:Gh) (a:Act) (w:World),FI E g (Azd (Api l) []) e a w->∃g',FI E g' (Azd [some [di 0,dn],none] []) (List.set e 7 (AC l)) a w)/\decide ((k:Int)<(N:Int))=false/\Q 2/\iz 0<=0/\(Alj c.kids)[Int.toNat 0]?=some (Af s0)/\F0 236 [Ag m,di s0.n,D.v (Cb l)] (Azn [dV v,db b])/\Q [Azd [some [di 0,dn],none,some [di 0,dn]] []]/\True/\Azn [D.v (Ao3 v.n v.kids),di 0]=Azn [dV v,di 0]) ?_
  exact⟨fun e he=>Xx (σ:=⟨[some [di 0,.v .nils],some (Ab (l.map vPr))],[]⟩) (q:=1) (sz:=2) (by decide) (Oc _) (by rw[H3];omega) rfl he,H8 (by omega),rfl,HV _,As (i:=0) h0,v2,rfl,trivial,rfl⟩
 |succ n ih=>
  intro k l hn hl hi
  obtain⟨x,hx⟩:∃x,l[k]?=some x:=⟨_,H4 (show k<l.length by omega)⟩
  have v2:=ih (k+1) (l.set k (x.1,Fu m x.2)) (by omega) (by rw[length_set];exact hl) (fun i=>by
   have hx':=hi k
   rw[hx,HL (Nat.lt_irrefl k)] at hx'
   by_cases hik:i=k
   ·subst hik
    rw[List.getElem?_set_self (by omega),HP (Nat.lt_succ_self i),olP,Ik, ←hx'];rfl
   ·rw[List.getElem?_set_ne (fun h=>hik h.symm),hi i]
    by_cases h1:i<k
    ·rw[HP h1,HP (by omega)]
    ·rw[HL h1,HL (by omega)])
  clear hi
  refine lv 52 [2,3] (.t<|.m (di x.2)<|.w<|.lo [ke 2,ke 3,ke 4,ke 7,ke 21,ch 22 (di (k+1:Nat))] ⟨[some [di 0,.v .nils],some (Ab ((l.set k (x.1,Fu m x.2)).map vPr))],[]⟩) (decide ((k:Int)<(N:Int))=true/\0<=(k:Int)/\(k:Int)<(N:Int)/\iz 0<=1/\1<(↑2:Int)/\(Ab (map vPr l))[0+Int.toNat (k:Int)*2+Int.toNat 1*(1,match Amy.desc with|TypeDesc.struct fields=>true|TypeDesc.array len elem=>true|x=>false).fst]?=some (di x.snd)/\0<=(k:Int)/\(k:Int)<(N:Int)/\iz 0<=1/\1<(↑2:Int)/\0+Int.toNat (k:Int)*2+Int.toNat 1*(1,match Amy.desc with|TypeDesc.struct fields=>true|TypeDesc.array len elem=>true|x=>false).fst<length (Ab (map vPr l))/\(True/\True)/\di (wrap i64 ((k:Int)+1))=di (↑(k+1):Int)/\okH 2 [] [some [di 0,dn],some (List.set (Ab (map vPr l)) (0+Int.toNat (k:Int)*2+Int.toNat 1*(1,match Amy.desc with|TypeDesc.struct fields=>true|TypeDesc.array len elem=>true|x=>false).fst) (di (if wrap i64 (m.age+1)<wrap i64 (x.snd+1) then wrap i64 (m.age+1) else wrap i64 (x.snd+1))))]=true/\[some [di 0,dn],some (List.set (Ab (map vPr l)) (0+Int.toNat (k:Int)*2+Int.toNat 1*(1,match Amy.desc with|TypeDesc.struct fields=>true|TypeDesc.array len elem=>true|x=>false).fst) (di (if wrap i64 (m.age+1)<wrap i64 (x.snd+1) then wrap i64 (m.age+1) else wrap i64 (x.snd+1))))]=[some [di 0,dn],some (Ab (map vPr (List.set l k (x.fst,Fu m x.snd))))]/\I0 AeF 0 (Azn [dV v,di 0]) σ0 [kl AeK Ak2,Aza 0,kc AeK [1,1,1,1]] (mkE 52 [(Aqw m),(Als c),(4,Azb 0 0),(7,Azi 1 0 N),(21,di (N:Int)),(22,di (↑(k+1):Int))]) (Azd [some [di 0,dn],some (Ab (map vPr (List.set l k (x.fst,Fu m x.snd))))] [])) ?_
  have e1:0+Int.toNat (k:Int)*2+Int.toNat 1*1=k*2+1:=by omega
  refine⟨H6 (by omega),by omega,by omega,by decide,by decide,?_,by omega,by omega,by decide,by decide,?_,⟨trivial,trivial⟩,Ad (by omega),?_,?_,⟨v2⟩⟩
  ·show(Ab (l.map vPr))[0+Int.toNat (k:Int)*2+Int.toNat 1*1]?=_
   rw[e1];exact WU hx
  ·show 0+Int.toNat (k:Int)*2+Int.toNat 1*1<_
   rw[e1,Lv];omega
  ·show okH 2 [] [some [di 0,D.v V.nils],some ((Ab (l.map vPr)).set (0+Int.toNat (k:Int)*2+Int.toNat 1*1) (di (Fu m x.2)))]=true
   rw[e1,OP hx];simp[okH,D.okNs,D.okN,Ai]
  ·show [some [di 0,D.v V.nils],some ((Ab (l.map vPr)).set (0+Int.toNat (k:Int)*2+Int.toNat 1*1) (di (Fu m x.2)))]=_
   rw[e1,OP hx]
def Adl(m:Mod)(c:Val):Val:=Ca (c.kids.getD 0 z00).n (olP m (Gm (c.kids.getD 1 z00)))
theorem QM(m:Mod)(t:Typ)(hm:TmM m t)(c:Val)(hv:Aj t c=true):(Adl m c).size<=1000/\Aa PP 222 [Ag m,dV c] σ0 (.tup [dV (Adl m c),di 0]) σ0:=by
 have hsh:=hm.shape c hv
 have hck:=UR m t hm c hv
 obtain⟨s0,h0⟩:∃x,c.kids[0]?=some x:=⟨_,H4 (by rw[hsh.len];omega)⟩
 obtain⟨b,hb⟩:∃x,c.kids[1]?=some x:=⟨_,H4 (by rw[hsh.len];omega)⟩
 have hb12:=hsh.few b hb
 have hpl:=ML b
 have hol:(olP m (Gm b)).length=b.kids.length:=by rw[olP,H3,hpl]
 have e0:c.kids.getD 0 z00=s0:=by rw[HC,h0];rfl
 have e1:c.kids.getD 1 z00=b:=by rw[HC,hb];rfl
 rw[Adl,e0,e1]
 have v1:=LC s0.n (olP m (Gm b)) (by omega)
 have v2:=NC m t hm.int s0.n (olP m (Gm b)) (by omega)
 refine⟨by omega,?_⟩
 generalize Ca s0.n (olP m (Gm b))=v at v1 v2⊢
 generalize Aj t v=x at v2
 by_cases hn:b.kids=[]
 ·have ht:=QL c b hb (by omega) [] (by rw[hn];rfl) (fun k v hk=>by rw[hn] at hk;simp at hk)
  rw[show olP m (Gm b)=[] by simp[olP,Gm,hn]] at v2
  refine sv AeF 52 [2,3] (.c (di 0)<|.k<|.c (AC [])<|.n<|.f<|.h (.dr 11)<|.h (.xs (Af s0))<|.c (.tup [dV v,db x]) .r) (F0 254 [Ag m,dV c] (di 0)/\F0 234 [dV c] (AC [])/\decide (0<(length (map vPr []):Int))=false/\Q 2/\iz 0<=0/\(Alj c.kids)[Int.toNat 0]?=some (Af s0)/\F0 236 [Ag m,di s0.n,D.v (Cb [])] (Azn [dV v,db x])/\Q [Azd [some [di 0,dn],some [di 0,dn]] []]/\True/\Azn [D.v (Ao3 v.n v.kids),di 0]=Azn [dV v,di 0]) ?_
  exact⟨hck,ht,rfl,rfl,HV _,As (i:=0) h0,v2,rfl,trivial,rfl⟩
 ·have ht:=UP c b hb (by omega) hn (Gm b) hpl (VN b fun v hv=>hsh.toks b v hb hv)
  have v3:=Zd m c s0 h0 (Gm b) (Gm b).length rfl (by omega) v x v2 _ 0 (Gm b) rfl rfl (fun i=>by rw[HL (Nat.not_lt_zero i)])
  clear v2
  generalize Gm b=ps at ht v3
  refine sv AeF 52 [2,3] (.c (di 0)<|.k<|.h (.oc (.arr 1 0 ps.length) ⟨[some [di 0,.v .nils],some (Ab (ps.map vPr))],[]⟩)<|.lo [ke 2,ke 3,ke 4,ke 7,ch 21 (di ps.length),ch 22 (di (0:Nat))] ⟨[some [di 0,.v .nils],some (Ab (ps.map vPr))],[]⟩) (F0 254 [Ag m,dV c] (di 0)/\(N0 [D.v (Azl 234 [] []),dV c] (Azd [some [di 0,dn]] []) (Azi 1 0 ps.length) (Azd (Api ps) []))/\Q (di (ps.length:Int))/\di 0=di (↑0:Int)/\okH 2 [] (Api ps)=true/\Q (Api ps)/\I0 AeF σ0.H.length (Azn [dV v,di 0]) σ0 [kl AeK Ak2,Aza 0,kc AeK [1,1,1,1]] (mkE 52 [(Aqw m),(Als c),(4,Azb 0 0),(7,Azi 1 0 ps.length),(21,di (ps.length:Int)),(22,di (↑0:Int))]) (Azd (Api ps) [])) ?_
  exact⟨hck,fun o cl fo ho hc=>E8 (σ:=⟨[some [di 0,.v .nils]],[]⟩) (fs:=[]) (cs:=[]) (ds:=[dV c]) ho hc rfl (A3 _) ht,rfl,rfl,by simp[okH,D.okNs,D.okN,Ai],rfl,⟨v3⟩⟩
theorem Yo(l:List Val):(Ab (l.map eV)).length=l.length*2:=BA l
theorem D6{l:List Val}{i:Nat}{x:Val}(h:l[i]?=some x):i*2+2<=(Ab (l.map eV)).length:=by
 obtain⟨h,_⟩:=H7.1 h
 rw[BA];omega
theorem ED{l:List Val}{i:Nat}{x:Val}(h:l[i]?=some x):((Ab (l.map eV)).drop (i*2)).take 2=[.v (vi x.n),.v (vVs x.kids)]:=K4 h
theorem Ss:∀(l:List Val) (k:Nat),(Ab (l.map eV)).take (k*2)=Ab ((l.take k).map eV)
 |[],k=>by simp[Ab]
 |v::l,0=>rfl
 |v::l,k+1=>by
  rw[AB,List.take_succ_cons,AB, ←Ss l k,show(k+1)*2=k*2+1+1 by omega];rfl
theorem Q3:∀(l:List Val) (k:Nat) (x:Val) (_:k<l.length),(Ab (l.map eV)).take (k*2)++[D.v (vi x.n),D.v (vVs x.kids)]++(Ab (l.map eV)).drop (k*2+2)=Ab ((l.set k x).map eV)
 |v::l,0,x,_=>by rw[List.set_cons_zero,AB,AB];rfl
 |v::l,k+1,x,h=>by
  rw[IP,AB,AB, ←Q3 l k x (by simpa using h),show(k+1)*2=k*2+1+1 by omega];rfl
theorem Acd(k:Nat):(((replicate k [vi 0,V.nils]).flatten.map D.v).all D.one)=true:=by
 induction k with
 |zero=>rfl
 |succ k ih=>simp only[Ix,IR,IJ,List.all_append,ih];rfl
theorem Zt:BP PP 29=some (31,2,32,some (.agg #[.int .i64 0,.slice none 0 0])):=by kernel_rfl
theorem Q4(l:List V){R:List D}(h:D.pls R=true):D.pls (Ab l++R)=true:=by rw[Db,A3,h];rfl
noncomputable abbrev Xh:Func:= Tryz.f231
noncomputable def Eo:Code:=Xh.body.getD .skip
noncomputable abbrev Amj:=[kl Eo [1,1,0,1,0,0,1,0,0,1,0,1,0,1,0,0],Aza 2,kc Eo [1,1,0,1,0,0,1,0,0,1,0,1,1],Aza 1,kc Eo [1,1,0,1,0,0,1,1],kl Eo Akw,Aza 0,kc Eo [1,1,1]]
theorem Ah4(F:FuncId)(l:List Val)(q:Val->Val->Bool)(hl:l.length<=1000)(hq:∀x∈l,∀y∈l,Aa PP F [dV x,dV y] σ0 (db (q x y)) σ0)(k0:Nat)(h0:1<=k0)(h1:k0<l.length)(n:Nat):∀(k j:Nat) (A:List Val),l.length-k0-j=n->1<=k->1<=j->k<k0+j->j<=l.length-k0->A.length=l.length->(∀x∈A,x∈l)->(∀i:Nat,k0+j-1<=i->A[i]?=l[i]?)->(∀p,l[k0+j-1]?=some p->A.take k++BI q p (l.drop (k0+j))=AG q l)->
  ∃(ys:List Val) (R:List D),ys=AG q l/\D.pls R=true/\R.all D.one=true/\Rn PP Xh 1 (.arr 0 0 ys.length) ⟨[some (Ab (ys.map eV)++R)],[]⟩ ([.lp (sub Eo [1,1,0,1,0,0,1,0,0,1,0,1,0,1,0,0]),.blk 2,.code (sub Eo [1,1,0,1,0,0,1,0,0,1,0,1,1]),.blk 1,.code (sub Eo [1,1,0,1,0,0,1,1]),.lp (sub Eo [1,1,0,1,0,0]),.blk 0,.code (sub Eo [1,1,1])]++[]) (mkE 66 [(0,.arr 0 0 l.length),(1,dfn F),(5,di k),(6,.arr 0 (k0*2) (l.length-k0)),(7,di j)]) ⟨[some (Ab (A.map eV))],[]⟩:=by
 induction n with
 |zero=>
  intro k j A hn hk hj hkj hjl hA hAl hAe hT
  refine⟨A.take k,(replicate (l.length-k) [vi 0,V.nils]).flatten.map .v,?_,?_,?_,?_⟩
  ·obtain⟨p,hp⟩:∃p,l[k0+j-1]?=some p:=⟨_,H4 (by omega)⟩
   have:=hT p hp
   rw[HO (by omega),BI,Is] at this
   exact this
  ·exact BT _
  ·exact Acd _
  refine lv 66 [] (.f<|.h (.q 14 2)<|.h (.o (.arr 0 (k*2) (l.length-k)) ⟨[some (Ab (A.map eV))],[]⟩)<|.h (.o (.tup []) ⟨[some (Ab ((A.take k).map eV)++(replicate (l.length-k) [vi 0,V.nils]).flatten.map .v)],[]⟩)<|.h (.q 15 2)<|.h (.o (.arr 0 0 k) ⟨[some (Ab ((A.take k).map eV)++(replicate (l.length-k) [vi 0,V.nils]).flatten.map .v)],[]⟩) .ro) (decide ((j:Int)<(↑(length l-k0):Int))=false/\Ah PP (Oper.mk (some 61) (Op.slice 29 (Operand.tmp 59) (some (Operand.tmp 60)) none none) 29 "slices.go:410" #[Edge.mk 0 Ground.data,Edge.mk 1 Ground.data] none) [Azi 0 0 l.length,di (k:Int)] (Ane A) (Azi 0 (k*2) (length l-k)) (Ane A)/\Ah PP (Oper.mk none (Op.call (Call.mk (Callee.builtin Builtin.clear) #[Operand.tmp 61] #[29])) 0 "slices.go:410" #[Edge.mk 2 Ground.data] none) [Azi 0 (k*2) (length l-k)] (Ane A) (Azn []) (Azd [some (Ab (Apd k A)++map D.v (flatten (replicate (length l-k) [vi 0,V.nils])))] [])/\Ah PP (Oper.mk (some 64) (Op.slice 29 (Operand.tmp 62) none (some (Operand.tmp 63)) none) 29 "slices.go:411" #[Edge.mk 0 Ground.data,Edge.mk 1 Ground.data] none) [Azi 0 0 l.length,di (k:Int)] (Azd [some (Ab (Apd k A)++map D.v (flatten (replicate (length l-k) [vi 0,V.nils])))] []) (Aoj k) (Azd [some (Ab (Apd k A)++map D.v (flatten (replicate (length l-k) [vi 0,V.nils])))] [])/\okH 1 [] [some (Ab (Apd k A)++map D.v (flatten (replicate (length l-k) [vi 0,V.nils])))]=true/\Q [some (Ab (Apd k A)++map D.v (flatten (replicate (length l-k) (vi 0::V.nils::nV))))]/\Azi 0 0 k=Azi 0 0 (length (take k A))) ?_
  have hkl:k<l.length:=by omega
  have hsl:∀(o:Oper) (x:Operand) (y:Operand) (τ:St),o.op=.slice 29 x (some y) none none->Ah PP o [.arr 0 0 l.length,di k] τ (.arr 0 (k*2) (l.length-k)) τ:=fun o x y τ ho=>by
   have:=Cy (P:=PP) (o:=o) (σ:=τ) ho Zt (q:=0) (off:=0) (len:=l.length) (some (.i64,(k:Int))) none rfl rfl (l':=k) (h':=l.length) (by simp[BD];omega) hkl
   rwa[Io] at this
  have hsh:∀(o:Oper) (x:Operand) (y:Operand) (τ:St),o.op=.slice 29 x none (some y) none->Ah PP o [.arr 0 0 l.length,di k] τ (.arr 0 0 k) τ:=fun o x y τ ho=>by
   have:=Cy (P:=PP) (o:=o) (σ:=τ) ho Zt (q:=0) (off:=0) (len:=l.length) none (some (.i64,(k:Int))) rfl rfl (l':=0) (h':=k) (by simp[BD];omega) (by omega)
   rwa[Nat.zero_mul,I2,Nat.sub_zero] at this
  have hfl:(Ab (A.map eV)).length=l.length*2:=by rw[Yo,hA]
  have hcl:=fun(o:Oper) (x:Operand) (ho:o.op=.call { callee:=.builtin .clear,args:= #[x],argTypes:= #[29]})=>Li (P:=PP) (o:=o) (σ:=⟨[some (Ab (A.map eV))],[]⟩) ho Zt (zs:=[vi 0,.nils]) rfl rfl (q:=0) (off:=k*2) (len:=l.length-k) rfl (by omega) (by rw[hfl];omega)
  have hd:(Ab (A.map eV)).drop (k*2+(l.length-k)*2)=[]:=HO (by rw[hfl];omega)
  have htk:(Ab (A.map eV)).take (k*2)=Ab ((A.take k).map eV):=Ss A k
  rw[hd,htk,Is] at hcl
  refine⟨H8 (by omega),hsl _ _ _ _ rfl,hcl _ _ rfl,hsh _ _ _ _ rfl,?_,rfl,by rw[HY,hA,Nat.min_eq_left (by omega)]⟩
  exact HM.2 ⟨AO (Q4 _ (BT _)),rfl⟩
 |succ n ih=>
  intro k j A hn hk hj hkj hjl hA hAl hAe hT
  obtain⟨x,hx⟩:∃x,A[k0+j]?=some x:=⟨_,H4 (show k0+j<A.length by omega)⟩
  obtain⟨y,hy⟩:∃x,A[k0+j-1]?=some x:=⟨_,H4 (show k0+j-1<A.length by omega)⟩
  have hc:=hq x (hAl x (HA hx)) y (hAl y (HA hy))
  have hw1:i64.wrap ((j:Int)-1)=((j-1:Nat):Int):=by rw[Al (by omega) (by omega)];omega
  have hT':=hT y (by rw[←hAe _ (HB _)];exact hy)
  have hx':l[k0+j]?=some x:=by rw[←hAe _ (by omega)];exact hx
  rw[drop_cons hx',BI] at hT'
  cases hb:q x y with
  |true=>
   rw[hb] at hc
   obtain⟨ys,R,r1,r3,r5,r4⟩:=ih k (j+1) A (by omega) hk (by omega) (by omega) (by omega) hA hAl (fun i hi=>hAe i (by omega)) (fun p hp=>by
    have e:x=p:=HT (hx'.symm.trans hp)
    rw[hb,HP rfl,e] at hT';exact hT')
   refine⟨ys,R,r1,r3,r5,?_⟩
   refine lv 66 [] (.t<|.m (dV x)<|.m (dV y)<|.c (db true)<|.lo [ke 0,ke 1,ke 5,ke 6,ch 7 (di (j+1:Nat))] ⟨[some (Ab (A.map eV))],[]⟩) (decide ((j:Int)<(↑(length l-k0):Int))=true/\0<=(j:Int)/\(j:Int)<(↑(length l-k0):Int)/\k0*2+Int.toNat (j:Int)*2+2<=length (Akr A)/\take 2 (List.drop (k0*2+Int.toNat (j:Int)*2) (Akr A))=(Ana x.n x.kids)/\0<=wrap i64 ((j:Int)-1)/\wrap i64 ((j:Int)-1)<(↑(length l-k0):Int)/\k0*2+Int.toNat (wrap i64 ((j:Int)-1))*2+2<=length (Akr A)/\take 2 (List.drop (k0*2+Int.toNat (wrap i64 ((j:Int)-1))*2) (Akr A))=(Ana y.n y.kids)/\F0 F [dV x,dV y] (db true)/\(True/\True/\True)/\di (wrap i64 ((j:Int)+1))=di (↑(j+1):Int)/\okH 1 [] [some (Akr A)]=true/\Q [some (Akr A)]/\I0 Xh 1 (Aoj ys.length) (Azd [some (Ab (map eV ys)++R)] []) Amj (mkE 66 [(0,Azi 0 0 l.length),(Ao7 F),(5,di (k:Int)),(6,Azi 0 (k0*2) (length l-k0)),(7,di (↑(j+1):Int))]) (Ane A)) ?_
   rw[hw1]
   refine⟨H6 (by omega),by omega,by omega,by rw[show k0*2+Int.toNat (j:Int)*2=(k0+j)*2 by omega];have:=D6 hx;omega,by rw[show k0*2+Int.toNat (j:Int)*2=(k0+j)*2 by omega];exact ED hx,by omega,by omega,by rw[show k0*2+Int.toNat ((j-1:Nat):Int)*2=(k0+j-1)*2 by omega];have:=D6 hy;omega,by rw[show k0*2+Int.toNat ((j-1:Nat):Int)*2=(k0+j-1)*2 by omega];exact ED hy,hc,⟨trivial,trivial,trivial⟩,Ad (by omega),HM.2 ⟨Ai 1 [] _,rfl⟩,rfl,⟨r4⟩⟩
  |false=>
   rw[hb] at hc
   have hA2:∀z∈A.set k x,z∈l:=fun z hz=>by
    rcases I8 hz with h|h
    ·exact hAl z h
    ·rw[h];exact hAl x (HA hx)
   obtain⟨ys,R,r1,r3,r5,r4⟩:=ih (k+1) (j+1) (A.set k x) (by omega) (by omega) (by omega) (by omega) (by omega) (by rw[length_set];exact hA) hA2 (fun i hi=>by rw[List.getElem?_set_ne (by omega)];exact hAe i (by omega)) (fun p hp=>by
    have e:x=p:=HT (hx'.symm.trans hp)
    rw[hb,HL (by decide)] at hT'
    rw[Jn (by omega),IA,List.singleton_append, ←e];exact hT')
   refine⟨ys,R,r1,r3,r5,?_⟩
   refine lv 66 [] (.t<|.m (dV x)<|.m (dV y)<|.c (db false)<|.m (dV x)<|.h .ww<|.lo [ke 0,ke 1,ch 5 (di (k+1:Nat)),ke 6,ch 7 (di (j+1:Nat))] ⟨[some (Ab ((A.set k x).map eV))],[]⟩) (decide ((j:Int)<(↑(length l-k0):Int))=true/\0<=(j:Int)/\(j:Int)<(↑(length l-k0):Int)/\k0*2+Int.toNat (j:Int)*2+2<=length (Akr A)/\take 2 (List.drop (k0*2+Int.toNat (j:Int)*2) (Akr A))=(Ana x.n x.kids)/\0<=wrap i64 ((j:Int)-1)/\wrap i64 ((j:Int)-1)<(↑(length l-k0):Int)/\k0*2+Int.toNat (wrap i64 ((j:Int)-1))*2+2<=length (Akr A)/\take 2 (List.drop (k0*2+Int.toNat (wrap i64 ((j:Int)-1))*2) (Akr A))=(Ana y.n y.kids)/\F0 F [dV x,dV y] (db false)/\(True/\True/\True)/\0<=(j:Int)/\(j:Int)<(↑(length l-k0):Int)/\k0*2+Int.toNat (j:Int)*2+2<=length (Akr A)/\take 2 (List.drop (k0*2+Int.toNat (j:Int)*2) (Akr A))=(Ana x.n x.kids)/\0<=(k:Int)/\(k:Int)<(l.length:Int)/\0+Int.toNat (k:Int)*2+2<=length (Akr A)/\di (wrap i64 ((k:Int)+1))=di (↑(k+1):Int)/\di (wrap i64 ((j:Int)+1))=di (↑(j+1):Int)/\okH 1 [] [some (take (0+Int.toNat (k:Int)*2) (Akr A)++(Ana x.n x.kids)++List.drop (0+Int.toNat (k:Int)*2+2) (Akr A))]=true/\[some (take (0+Int.toNat (k:Int)*2) (Akr A)++(Ana x.n x.kids)++List.drop (0+Int.toNat (k:Int)*2+2) (Akr A))]=[some (Ab (map eV (List.set A k x)))]/\I0 Xh 1 (Aoj ys.length) (Azd [some (Ab (map eV ys)++R)] []) Amj (mkE 66 [(0,Azi 0 0 l.length),(Ao7 F),(5,di (↑(k+1):Int)),(6,Azi 0 (k0*2) (length l-k0)),(7,di (↑(j+1):Int))]) (Azd [some (Ab (map eV (List.set A k x)))] [])) ?_
   rw[hw1]
   refine⟨H6 (by omega),by omega,by omega,by rw[show k0*2+Int.toNat (j:Int)*2=(k0+j)*2 by omega];have:=D6 hx;omega,by rw[show k0*2+Int.toNat (j:Int)*2=(k0+j)*2 by omega];exact ED hx,by omega,by omega,by rw[show k0*2+Int.toNat ((j-1:Nat):Int)*2=(k0+j-1)*2 by omega];have:=D6 hy;omega,by rw[show k0*2+Int.toNat ((j-1:Nat):Int)*2=(k0+j-1)*2 by omega];exact ED hy,hc,⟨trivial,trivial,trivial⟩,by omega,by omega,by rw[show k0*2+Int.toNat (j:Int)*2=(k0+j)*2 by omega];have:=D6 hx;omega,by rw[show k0*2+Int.toNat (j:Int)*2=(k0+j)*2 by omega];exact ED hx,by omega,by omega,by rw[Yo];omega,Ad (by omega),Ad (by omega),?_,?_,⟨r4⟩⟩
   ·rw[show 0+Int.toNat (k:Int)*2=k*2 by omega,Q3 A k x (by omega)]
    exact HM.2 ⟨Ai 1 [] _,rfl⟩
   ·rw[show 0+Int.toNat (k:Int)*2=k*2 by omega,Q3 A k x (by omega)]
theorem Ae4(F:FuncId)(l:List Val)(q:Val->Val->Bool)(hl:l.length<=1000)(hq:∀x∈l,∀y∈l,Aa PP F [dV x,dV y] σ0 (db (q x y)) σ0)(n:Nat):∀(k:Nat),l.length-k=n->1<=k->k<=l.length->(∀p,l[k-1]?=some p->l.take k++BI q p (l.drop k)=AG q l)->
  ∃(ys:List Val) (R:List D),ys=AG q l/\D.pls R=true/\R.all D.one=true/\Rn PP Xh 1 (.arr 0 0 ys.length) ⟨[some (Ab (ys.map eV)++R)],[]⟩ ([.lp (sub Eo [1,1,0,1,0,0]),.blk 0,.code (sub Eo [1,1,1])]++[]) (mkE 66 [(0,.arr 0 0 l.length),(1,dfn F),(5,di k)]) ⟨[some (Ab (l.map eV))],[]⟩:=by
 induction n with
 |zero=>
  intro k hn hk hkl hT
  refine⟨l,[],?_,rfl,rfl,?_⟩
  ·obtain⟨p,hp⟩:∃p,l[k-1]?=some p:=⟨_,H4 (by omega)⟩
   have:=hT p hp
   rw[HO (by omega),BI,Is,HW (by omega)] at this
   exact this
  refine lv 66 [] (.f .ro) (decide ((k:Int)<(l.length:Int))=false/\okH 1 [] [some (Akr l)]=true/\[some (Akr l)]=[some (Ab (map eV l)++[])]/\Q (Aoj l.length)) ?_
  exact⟨H8 (by omega),HM.2 ⟨Ai 1 [] _,rfl⟩,by rw[Is],rfl⟩
 |succ n ih=>
  intro k hn hk hkl' hT
  obtain⟨x,hx⟩:∃x,l[k]?=some x:=⟨_,H4 (show k<l.length by omega)⟩
  obtain⟨y,hy⟩:∃x,l[k-1]?=some x:=⟨_,H4 (show k-1<l.length by omega)⟩
  have hc:=hq x (HA hx) y (HA hy)
  have hkl:k<l.length:=by omega
  have hw1:i64.wrap ((k:Int)-1)=((k-1:Nat):Int):=by rw[Al (by omega) (by omega)];omega
  have hT':=hT y hy
  rw[drop_cons hx,BI] at hT'
  cases hb:q x y with
  |true=>
   rw[hb] at hc
   obtain⟨ys,R,r1,r3,r5,r4⟩:=Ah4 F l q hl hq k hk (by omega) _ k 1 l rfl hk (by omega) (by omega) (by omega) rfl (fun x h=>h) (fun _ _=>rfl) (fun p hp=>by
    have e:x=p:=HT (hx.symm.trans hp)
    rw[hb,HP rfl,e] at hT';exact hT')
   refine⟨ys,R,r1,r3,r5,?_⟩
   refine lv 66 [] (.t<|.m (dV x)<|.m (dV y)<|.c (db true)<|.k<|.h (.q 7 2)<|.h (.o (.arr 0 (k*2) (l.length-k)) ⟨[some (Ab (l.map eV))],[]⟩)<|.lo [ke 0,ke 1,ke 5,ke 6,ch 7 (di (1:Nat))] ⟨[some (Ab (l.map eV))],[]⟩) (decide ((k:Int)<(l.length:Int))=true/\0<=(k:Int)/\(k:Int)<(l.length:Int)/\0+Int.toNat (k:Int)*2+2<=length (Akr l)/\take 2 (List.drop (0+Int.toNat (k:Int)*2) (Akr l))=(Ana x.n x.kids)/\0<=wrap i64 ((k:Int)-1)/\wrap i64 ((k:Int)-1)<(l.length:Int)/\0+Int.toNat (wrap i64 ((k:Int)-1))*2+2<=length (Akr l)/\take 2 (List.drop (0+Int.toNat (wrap i64 ((k:Int)-1))*2) (Akr l))=(Ana y.n y.kids)/\F0 F [dV x,dV y] (db true)/\(True/\True/\True)/\Ah PP (Oper.mk (some 31) (Op.slice 29 (Operand.tmp 29) (some (Operand.tmp 30)) none none) 29 "slices.go:402" #[Edge.mk 0 Ground.data,Edge.mk 1 Ground.data] none) [Azi 0 0 l.length,di (k:Int)] (Ane l) (Azi 0 (k*2) (length l-k)) (Ane l)/\di 1=di (↑1:Int)/\okH 1 [] [some (Akr l)]=true/\Q [some (Akr l)]/\I0 Xh 1 (Aoj ys.length) (Azd [some (Ab (map eV ys)++R)] []) Amj (mkE 66 [(0,Azi 0 0 l.length),(Ao7 F),(5,di (k:Int)),(6,Azi 0 (k*2) (length l-k)),(7,di (↑1:Int))]) (Ane l)) ?_
   have hsl:∀(o:Oper) (x:Operand) (y:Operand) (τ:St),o.op=.slice 29 x (some y) none none->Ah PP o [.arr 0 0 l.length,di k] τ (.arr 0 (k*2) (l.length-k)) τ:=fun o x y τ ho=>by
    have:=Cy (P:=PP) (o:=o) (σ:=τ) ho Zt (q:=0) (off:=0) (len:=l.length) (some (.i64,(k:Int))) none rfl rfl (l':=k) (h':=l.length) (by simp[BD];omega) hkl
    rwa[Io] at this
   rw[hw1]
   exact⟨H6 (by omega),by omega,by omega,by rw[show 0+Int.toNat (k:Int)*2=(k)*2 by omega];have:=D6 hx;omega,by rw[show 0+Int.toNat (k:Int)*2=(k)*2 by omega];exact ED hx,by omega,by omega,by rw[show 0+Int.toNat ((k-1:Nat):Int)*2=(k-1)*2 by omega];have:=D6 hy;omega,by rw[show 0+Int.toNat ((k-1:Nat):Int)*2=(k-1)*2 by omega];exact ED hy,hc,⟨trivial,trivial,trivial⟩,hsl _ _ _ _ rfl,rfl,HM.2 ⟨Ai 1 [] _,rfl⟩,rfl,⟨r4⟩⟩
  |false=>
   rw[hb] at hc
   obtain⟨ys,R,r1,r3,r5,r4⟩:=ih (k+1) (by omega) (by omega) (by omega) (fun p hp=>by
    have e:x=p:=HT (hx.symm.trans hp)
    rw[hb,HL (by decide)] at hT'
    rw[IF,hx,Option.toList_some,IA,List.singleton_append, ←e];exact hT')
   refine⟨ys,R,r1,r3,r5,?_⟩
   refine lv 66 [] (.t<|.m (dV x)<|.m (dV y)<|.c (db false)<|.lo [ke 0,ke 1,ch 5 (di (k+1:Nat))] ⟨[some (Ab (l.map eV))],[]⟩) (decide ((k:Int)<(l.length:Int))=true/\0<=(k:Int)/\(k:Int)<(l.length:Int)/\0+Int.toNat (k:Int)*2+2<=length (Akr l)/\take 2 (List.drop (0+Int.toNat (k:Int)*2) (Akr l))=(Ana x.n x.kids)/\0<=wrap i64 ((k:Int)-1)/\wrap i64 ((k:Int)-1)<(l.length:Int)/\0+Int.toNat (wrap i64 ((k:Int)-1))*2+2<=length (Akr l)/\take 2 (List.drop (0+Int.toNat (wrap i64 ((k:Int)-1))*2) (Akr l))=(Ana y.n y.kids)/\F0 F [dV x,dV y] (db false)/\(True/\True/\True)/\di (wrap i64 ((k:Int)+1))=di (↑(k+1):Int)/\okH 1 [] [some (Akr l)]=true/\Q [some (Akr l)]/\I0 Xh 1 (Aoj ys.length) (Azd [some (Ab (map eV ys)++R)] []) [kl Eo Akw,Aza 0,kc Eo [1,1,1]] (mkE 66 [(0,Azi 0 0 l.length),(Ao7 F),(5,di (↑(k+1):Int))]) (Ane l)) ?_
   rw[hw1]
   exact⟨H6 (by omega),by omega,by omega,by rw[show 0+Int.toNat (k:Int)*2=(k)*2 by omega];have:=D6 hx;omega,by rw[show 0+Int.toNat (k:Int)*2=(k)*2 by omega];exact ED hx,by omega,by omega,by rw[show 0+Int.toNat ((k-1:Nat):Int)*2=(k-1)*2 by omega];have:=D6 hy;omega,by rw[show 0+Int.toNat ((k-1:Nat):Int)*2=(k-1)*2 by omega];exact ED hy,hc,⟨trivial,trivial,trivial⟩,Ad (by omega),HM.2 ⟨Ai 1 [] _,rfl⟩,rfl,⟨r4⟩⟩
theorem Ah5(F:FuncId)(l:List Val)(q:Val->Val->Bool)(hl:l.length<=1000)(hq:∀x∈l,∀y∈l,Aa PP F [dV x,dV y] σ0 (db (q x y)) σ0):
  ∃R:List D,D.pls R=true/\R.all D.one=true/\Aa PP 231 [.arr 0 0 l.length,dfn F] ⟨[some (Ab (l.map eV))],[]⟩ (.arr 0 0 (AG q l).length) ⟨[some (Ab ((AG q l).map eV)++R)],[]⟩:=by
 by_cases h2:l.length<2
 ·refine⟨[],rfl,rfl,?_⟩
  rw[Jt q h2]
  refine sv Xh 66 [] (.t .ro) (decide ((l.length:Int)<2)=true/\okH 1 [] [some (Akr l)]=true/\[some (Akr l)]=[some (Ab (map eV l)++[])]/\Q (Aoj l.length)) ?_
  exact⟨H6 (by omega),HM.2 ⟨Ai 1 [] _,rfl⟩,by rw[Is],rfl⟩
 ·obtain⟨ys,R,r1,r3,r5,r4⟩:=Ae4 F l q hl hq _ 1 rfl (HB _) (by omega) (fun p hp=>L6 hp)
  subst r1
  refine⟨R,r3,r5,?_⟩
  refine sv Xh 66 [] (.f<|.lo [ke 0,ke 1,ch 5 (di (1:Nat))] ⟨[some (Ab (l.map eV))],[]⟩) (decide ((l.length:Int)<2)=false/\di 1=di (↑1:Int)/\okH 1 [] [some (Akr l)]=true/\Q [some (Akr l)]/\I0 Xh (length (Ane l).H) (Azi 0 0 (length (AG q l))) (Azd [some (Ab (map eV (AG q l))++R)] []) [kl Eo Akw,Aza 0,kc Eo [1,1,1]] (mkE 66 [(0,Azi 0 0 l.length),(1,dfn F),(5,di (↑1:Int))]) (Ane l)) ?_
  exact⟨H8 (by omega),rfl,HM.2 ⟨Ai 1 [] _,rfl⟩,rfl,⟨r4⟩⟩
abbrev AhT(x:V):D:=.v (.ref x)
abbrev EX(m:Mod)(r:Rul)(ms:List (Int×Int)):List D:=[AhT (A8 m),AhT (Ak r),AhT (Cb ms),.ptr 0 0,.ptr 1 0]
abbrev G5(b:Bool)(xs:List Val):St:=⟨[some [.gro 2 xs.length 2],some [db b],some (Ab (xs.map eV))],[]⟩
abbrev D7(b:Bool)(xs:List Val):St:=⟨[some [.gro 3 xs.length 2],some [db b],none,some (Ab (xs.map eV))],[]⟩
noncomputable abbrev RK:Func:= Tryz.f235
noncomputable abbrev Amg:=(Oper.mk (some 22) (Op.buildSlice 29 1 #[(0,Operand.tmp 21)]) 29 "timed.go:85" #[Edge.mk 1 Ground.data] none)
noncomputable abbrev Anj:=fun a₀ b₀=>F0 237 [D.v (Azf [Cb a₀,Cb b₀])] (AC (a₀++b₀))
theorem AiM(m:Mod)(t:Typ)(hm:Fx m t)(r:Rul)(ms l:List (Int×Int))(hl:l.length<=50)(hms:ms.length<=50)(b:Bool):Aa PP 235 ([AC l]++EX m r ms) ⟨[some [.v .nils],some [db b]],[]⟩ (.tup []) (G5 (b&&Aj t (Ca r.to (l++ms))) [Ca r.to (l++ms)]):=by
 have h2:=NC m t hm r.to (l++ms) (by simp;omega)
 generalize Aj t (Ca r.to (l++ms))=ok at h2⊢
 generalize Ca r.to (l++ms)=v at h2⊢
 have hco:Aa PP 237 [D.v (V.list [Cb l,Cb ms])] σ0 (AC (l++ms)) σ0:=by
  have:=L8 [l,ms] (by simp) (by simp;omega)
  simp only[IR,flatten_nil,Is] at this
  exact this
 have hfA:∀z:Bool,[some [D.gro 3 1 2],some [db z],some [di v.n,D.v (vVs v.kids)],some [di v.n,D.v (vVs v.kids)]]=[some [D.gro 3 1 2],some [db z],some [di v.n,dVs v.kids],some (Ab ([v].map eV))]:=fun z=>by rw[AB];rfl
 have h:Aa PP 235 ([AC l]++EX m r ms) ⟨[some [.v .nils],some [db b]],[]⟩ (.tup []) ⟨[some [.gro 3 1 2],some [db (b&&ok)],some [di v.n,dVs v.kids],some (Ab ([v].map eV))],[]⟩:=by
  cases b with
  |true=>
   refine sv RK 28 [] (.h (.dr 11)<|.c (AC (l++ms))<|.c (.tup [dV v,db ok])<|.m (.v .nils)<|.m (dV v)<|.h (.p (.v (.list [Af v])))<|.h .g<|.ro) (Anj l ms/\F0 236 [Ag m,di r.to,D.v (Cb (l++ms))] (Azn [dV v,db ok])/\Q [Azd [some [dn],some [db true],some [di 0,dn]] []]/\True/\Q (some (dn))/\2<=2/\Q (Ana v.n v.kids)/\(∀(τ:St),Ah PP Amg [dV v] τ (D.v (Azf [Af v])) τ)/\[Af v]≠ []/\(∀(y:V),y∈ [Af v]->V.size y=2)/\Ar 1 32/\(True/\True/\(Q (some [db true])/\True)/\True)/\([]:List KI)=[]/\okH 4 [] [some [Azm 3 1 2],some [db ok],some (Ana v.n v.kids),some (Ana v.n v.kids)]=true/\[some [Azm 3 1 2],some [db ok],some (Ana v.n v.kids),some (Ana v.n v.kids)]=[some [Azm 3 1 2],some [db (true&&ok)],some (Ana v.n v.kids),some (Ab (eV v::nV))]/\Q (Azn [])) ?_
   exact⟨hco,h2,rfl,trivial,rfl,HB _,rfl,fun τ=>Aho v τ rfl,by simp,fun y hy=>by rw[HK.1 hy];rfl,⟨by decide,by decide⟩,⟨trivial,trivial,⟨rfl,trivial⟩,trivial⟩,rfl,rfl,hfA _,rfl⟩
  |false=>
   refine sv RK 28 [] (.h (.dr 11)<|.c (AC (l++ms))<|.c (.tup [dV v,db ok])<|.m (.v .nils)<|.m (dV v)<|.h (.p (.v (.list [Af v])))<|.h .g<|.ro) (Anj l ms/\F0 236 [Ag m,di r.to,D.v (Cb (l++ms))] (Azn [dV v,db ok])/\Q [Azd [some [dn],some [db false],some [di 0,dn]] []]/\True/\Q (some (dn))/\2<=2/\Q (Ana v.n v.kids)/\(∀(τ:St),Ah PP Amg [dV v] τ (D.v (Azf [Af v])) τ)/\[Af v]≠ []/\(∀(y:V),y∈ [Af v]->V.size y=2)/\Ar 1 32/\(True/\True/\(Q (some [db false])/\True)/\True)/\([]:List KI)=[]/\okH 4 [] [some [Azm 3 1 2],some [db false],some (Ana v.n v.kids),some (Ana v.n v.kids)]=true/\[some [Azm 3 1 2],some [db false],some (Ana v.n v.kids),some (Ana v.n v.kids)]=[some [Azm 3 1 2],some [db (false&&ok)],some (Ana v.n v.kids),some (Ab (eV v::nV))]/\Q (Azn [])) ?_
   exact⟨hco,h2,rfl,trivial,rfl,HB _,rfl,fun τ=>Aho v τ rfl,by simp,fun y hy=>by rw[HK.1 hy];rfl,⟨by decide,by decide⟩,⟨trivial,trivial,⟨rfl,trivial⟩,trivial⟩,rfl,rfl,hfA _,rfl⟩
 refine KN (σ:=⟨[some [.v .nils],some [db b]],[]⟩) (fun i=>if i<2 then i else i+1) (show 2<=3 by decide) (fun i hi=>HP hi) (fun i j _ _ h=>?_) (fun i hi=>?_) (fun i cs hi=>?_) rfl h
 ·have h:(if i<2 then i else i+1)=(if j<2 then j else j+1):=h
  split at h<;>split at h<;>omega
 ·have hi:i<3:=hi
  show(if i<2 then i else i+1)<4
  split<;>omega
 ·match i,hi with
  |0,hi=>have hi:=HT (HT (hi:some (some _)=some (some cs)));subst hi;exact⟨rfl,rfl⟩
  |1,hi=>have hi:=HT (HT (hi:some (some _)=some (some cs)));subst hi;exact⟨rfl,rfl⟩
  |2,hi=>have hi:=HT (HT (hi:some (some _)=some (some cs)));subst hi;exact⟨by rw[AV (A3 _)];rfl,Ai _ _ _⟩
  |i+3,hi=>simp at hi
theorem AiL(m:Mod)(t:Typ)(hm:Fx m t)(r:Rul)(ms l:List (Int×Int))(hl:l.length<=50)(hms:ms.length<=50)(xs:List Val)(hx:xs.length<=50)(b:Bool):Aa PP 235 ([AC l]++EX m r ms) (G5 b xs) (.tup []) (D7 (b&&Aj t (Ca r.to (l++ms))) (xs++[Ca r.to (l++ms)])):=by
 have h2:=NC m t hm r.to (l++ms) (by simp;omega)
 generalize Aj t (Ca r.to (l++ms))=ok at h2⊢
 generalize Ca r.to (l++ms)=v at h2⊢
 have hco:Aa PP 237 [D.v (V.list [Cb l,Cb ms])] σ0 (AC (l++ms)) σ0:=by
  have:=L8 [l,ms] (by simp) (by simp;omega)
  simp only[IR,flatten_nil,Is] at this
  exact this
 have hfB:∀z:Bool,[some [D.gro 4 (xs.length+[Af v].length) 2],some [db z],none,some [di v.n,D.v (vVs v.kids)],some (Ab (xs.map eV)++[di v.n,D.v (vVs v.kids)])]=[some [D.gro 4 (xs++[v]).length 2],some [db z],none,some [di v.n,dVs v.kids],some (Ab ((xs++[v]).map eV))]:=fun z=>by
  rw[J9,HI];rfl
 have hkB:∀z:Bool,okH 5 [] [some [D.gro 4 (xs.length+[Af v].length) 2],some [db z],none,some [di v.n,D.v (vVs v.kids)],some (Ab (xs.map eV)++[di v.n,D.v (vVs v.kids)])]=true:=fun z=>by
  rw[J9];simp[okH,D.okNs,D.okN,Ai]
 have h:Aa PP 235 ([AC l]++EX m r ms) (G5 b xs) (.tup []) ⟨[some [.gro 4 (xs++[v]).length 2],some [db (b&&ok)],none,some [di v.n,dVs v.kids],some (Ab ((xs++[v]).map eV))],[]⟩:=by
  cases b with
  |true=>
   refine sv RK 28 [] (.h (.dr 11)<|.c (AC (l++ms))<|.c (.tup [dV v,db ok])<|.m (.gro 2 xs.length 2)<|.m (dV v)<|.h (.p (.v (.list [Af v])))<|.ro) (Anj l ms/\F0 236 [Ag m,di r.to,D.v (Cb (l++ms))] (Azn [dV v,db ok])/\Q [Azd [some [Azm 2 xs.length 2],some [db true],some (Akr xs),some [di 0,dn]] []]/\True/\Q (some (Azm 2 xs.length 2))/\2<=2/\Q (Ana v.n v.kids)/\(∀(τ:St),Ah PP Amg [dV v] τ (D.v (Azf [Af v])) τ)/\length (Akr xs)=length xs*2/\[Af v]≠ []/\(∀(y:V),y∈ [Af v]->V.size y=2)/\Ar (length xs+length (Af v::nV)) 32/\(True/\True/\(Q (some [db true])/\True)/\True)/\([]:List KI)=[]/\okH 5 [] [some [Azm 4 (length xs+length (Af v::nV)) 2],some [db ok],none,some (Ana v.n v.kids),some (Ab (map eV xs)++(Ana v.n v.kids))]=true/\[some [Azm 4 (length xs+length (Af v::nV)) 2],some [db ok],none,some (Ana v.n v.kids),some (Ab (map eV xs)++(Ana v.n v.kids))]=[some [Azm 4 (length (xs++[v])) 2],some [db (true&&ok)],none,some (Ana v.n v.kids),some (Ab (map eV (xs++[v])))]/\Q (Azn [])) ?_
   exact⟨hco,h2,rfl,trivial,rfl,HB _,rfl,fun τ=>Aho v τ rfl,by rw[BA],by simp,fun y hy=>by rw[HK.1 hy];rfl,⟨by simp only[H9,HD];omega,by simp only[H9,HD];omega⟩,⟨trivial,trivial,⟨rfl,trivial⟩,trivial⟩,rfl,hkB _,hfB _,rfl⟩
  |false=>
   refine sv RK 28 [] (.h (.dr 11)<|.c (AC (l++ms))<|.c (.tup [dV v,db ok])<|.m (.gro 2 xs.length 2)<|.m (dV v)<|.h (.p (.v (.list [Af v])))<|.ro) (Anj l ms/\F0 236 [Ag m,di r.to,D.v (Cb (l++ms))] (Azn [dV v,db ok])/\Q [Azd [some [Azm 2 xs.length 2],some [db false],some (Akr xs),some [di 0,dn]] []]/\True/\Q (some (Azm 2 xs.length 2))/\2<=2/\Q (Ana v.n v.kids)/\(∀(τ:St),Ah PP Amg [dV v] τ (D.v (Azf [Af v])) τ)/\length (Akr xs)=length xs*2/\[Af v]≠ []/\(∀(y:V),y∈ [Af v]->V.size y=2)/\Ar (length xs+length (Af v::nV)) 32/\(True/\True/\(Q (some [db false])/\True)/\True)/\([]:List KI)=[]/\okH 5 [] [some [Azm 4 (length xs+length (Af v::nV)) 2],some [db false],none,some (Ana v.n v.kids),some (Ab (map eV xs)++(Ana v.n v.kids))]=true/\[some [Azm 4 (length xs+length (Af v::nV)) 2],some [db false],none,some (Ana v.n v.kids),some (Ab (map eV xs)++(Ana v.n v.kids))]=[some [Azm 4 (length (xs++[v])) 2],some [db (false&&ok)],none,some (Ana v.n v.kids),some (Ab (map eV (xs++[v])))]/\Q (Azn [])) ?_
   exact⟨hco,h2,rfl,trivial,rfl,HB _,rfl,fun τ=>Aho v τ rfl,by rw[BA],by simp,fun y hy=>by rw[HK.1 hy];rfl,⟨by simp only[H9,HD];omega,by simp only[H9,HD];omega⟩,⟨trivial,trivial,⟨rfl,trivial⟩,trivial⟩,rfl,hkB _,hfB _,rfl⟩
 refine KN (σ:=G5 b xs) (fun i=>if i<3 then i else i+1) (show 3<=4 by decide) (fun i hi=>HP hi) (fun i j _ _ h=>?_) (fun i hi=>?_) (fun i cs hi=>?_) rfl h
 ·have h:(if i<3 then i else i+1)=(if j<3 then j else j+1):=h
  split at h<;>split at h<;>omega
 ·have hi:i<4:=hi
  show(if i<3 then i else i+1)<5
  split<;>omega
 ·match i,hi with
  |0,hi=>have hi:=HT (HT (hi:some (some _)=some (some cs)));subst hi;exact⟨rfl,rfl⟩
  |1,hi=>have hi:=HT (HT (hi:some (some _)=some (some cs)));subst hi;exact⟨rfl,rfl⟩
  |2,hi=>simp at hi
  |3,hi=>have hi:=HT (HT (hi:some (some _)=some (some cs)));subst hi;exact⟨by rw[AV (A3 _)];rfl,Ai _ _ _⟩
  |i+4,hi=>simp at hi
abbrev tPr:TypeId:=169
theorem AfG:PP.underlying tPr=some (.array 2 3):=by kernel_rfl
theorem Ady:(PP.info? 3).isSome=true:=by kernel_rfl
theorem ZO:PP.cellsOf 3=1:=by kernel_rfl
theorem Rh:PP.plainKey 3=true:=by kernel_rfl
theorem AfF:PP.underlying 3=some (.int .i64):=by kernel_rfl
theorem ZN:PP.eqGuardType PP.depth tPr=false:=by kernel_rfl
theorem Z5(d:Nat)(a b x y:Int)(w:World):
  (Op.equalIn (d+2) tPr (.agg #[.int .i64 a,.int .i64 b]) (.agg #[.int .i64 x,.int .i64 y])).run PP w=.ok (a==x&&b==y) w:=by
 obtain⟨i,hi⟩:=Option.isSome_iff_exists.1 Ady
 rw[run_equalIn_array w (d+1) _ _ AfG hi,ZO,show List.range 2=[0,1] from rfl]
 have e1:∀(x y:Int) w,(part 3 #[.int .i64 x,.int .i64 y] (0*1)).run PP w=.ok (.int .i64 x) w:=fun x y w=>run_part_plain w Rh rfl
 have e2:∀(x y:Int) w,(part 3 #[.int .i64 x,.int .i64 y] (1*1)).run PP w=.ok (.int .i64 y) w:=fun x y w=>run_part_plain w Rh rfl
 have e3:=fun(a x:Int) w=>run_equalIn_int (P:=PP) w d 3 .i64 .i64 a x AfF
 simp only[Op.eqItems,Sem.run_bind,e1,e2,e3,Result.andThen_ok,IC]
 cases h1:(a==x)<;>cases h2:(b==y)<;>simp_all
theorem Ky{o:Oper}{σ:St}{ty:TypeId}{p q:Operand}(ho:o.op=.binOp .neq tPr p q ty)(a b x y:Int):Ah PP o [.v (vPr (a,b)),.v (vPr (x,y))] σ (db (!(a==x&&b==y))) σ:=by
 refine Az fun E g ρ w hw hds=>?_
 simp only[ho,Op.operands,Ao] at hds
 obtain⟨u,v,e,h1,h2'⟩:=hds
 simp only[HU,I1,HH,Ih] at e
 obtain⟨e1,e2⟩:=e
 simp only[Ae,Cr] at h1 h2'
 obtain⟨ws,h1,rfl⟩:=h1
 obtain⟨vs,h3,rfl⟩:=h2'
 have hw1:ws=[.int .i64 a,.int .i64 b]:=by
  simp only[repA,repC,HH,Ih] at h1
  obtain⟨u,us,rfl,_,rfl,u2,us2,rfl,_,rfl,rfl⟩:=h1;rfl
 have hw2:vs=[.int .i64 x,.int .i64 y]:=by
  simp only[repA,repC,HH,Ih] at h3
  obtain⟨u,us,rfl,_,rfl,u2,us2,rfl,_,rfl,rfl⟩:=h3;rfl
 subst hw1 hw2
 refine⟨.bool (!(a==x&&b==y)),?_,by simp[Ae]⟩
 have hr:=Z5 9998 a b x y w
 simp[execOp,ho,e1,e2,run_eqGuard_agg w .neq tPr p q _ _ ZN,run_neq_struct,hr]
abbrev σA(b:Bool):St:=⟨[some [.v .nils],some [db b]],[]⟩
abbrev Ey(m:Mod)(r:Rul)(ms:List (Int×Int)):D:=.dfn 235 [] (EX m r ms)
noncomputable abbrev Dq:Func:= Tryz.f233
noncomputable def EY:Code:=Dq.body.getD .skip
theorem Aed(m:Mod)(t:Typ)(hm:Fx m t)(r:Rul)(ms l:List (Int×Int))(hl:l.length<=50)(hms:ms.length<=50)(b:Bool):Aa PP 233 [AC l,.v (AD []),Ey m r ms] (σA b) (.tup []) (G5 (b&&Aj t (Ca r.to (l++ms))) [Ca r.to (l++ms)]):=by
 have h2:=AiM m t hm r ms l hl hms b
 generalize Aj t (Ca r.to (l++ms))=ok at h2⊢
 generalize Ca r.to (l++ms)=v at h2⊢
 refine sv Dq 71 [] (.t<|.h (.oc (.tup []) (G5 (b&&ok) [v])) .ro) (((length (map vTk []):Int)==0)=true/\(N0 [Ey m r ms,AC l] (σA b) (Azn []) (G5 (b&&ok) [v]))/\okH 3 [] [some [Azm 2 1 2],some [db (b&&ok)],some (Ab [eV v])]=true/\Q [some [Azm 2 1 2],some [db (b&&ok)],some (Ab (eV v::nV))]/\Q (Azn [])) ?_
 refine⟨rfl,fun o cl fo ho hc=>?_,by rw[←show Ab ([v].map eV)=Ab [eV v] from rfl];simp[okH,D.okNs,D.okN,Ai],rfl,rfl⟩
 exact Ci (H:=[[.v .nils],[db b]]) ho hc (fs:=[]) (cs:=EX m r ms) (ds:=[AC l]) rfl h2 rfl (fun cs hm=>by
  simp at hm;rcases hm with rfl|rfl<;>exact⟨rfl,rfl⟩) rfl (by simp[okH,D.okNs,D.okN,Ai]) (by show 2<=3;decide)
theorem Ahj(m:Mod)(t:Typ)(hm:Fx m t)(r:Rul)(ms l:List (Int×Int))(hl:l.length<=50)(hms:ms.length<=50)(xs:List Val)(hx:xs.length<=50)(b:Bool):Aa PP 233 [AC l,.v (AD []),Ey m r ms] (G5 b xs) (.tup []) (D7 (b&&Aj t (Ca r.to (l++ms))) (xs++[Ca r.to (l++ms)])):=by
 have h2:=AiL m t hm r ms l hl hms xs hx b
 generalize Aj t (Ca r.to (l++ms))=ok at h2⊢
 generalize Ca r.to (l++ms)=v at h2⊢
 refine sv Dq 71 [] (.t<|.h (.oc (.tup []) (D7 (b&&ok) (xs++[v]))) .ro) (((length (map vTk []):Int)==0)=true/\(N0 [Ey m r ms,AC l] (G5 b xs) (Azn []) (D7 (b&&ok) (xs++[v])))/\okH 4 [] [some [Azm 3 (length (xs++[v])) 2],some [db (b&&ok)],none,some (Ab (map eV (xs++[v])))]=true/\Q [some [Azm 3 (length (xs++[v])) 2],some [db (b&&ok)],none,some (Ab (map eV (xs++[v])))]/\Q (Azn [])) ?_
 refine⟨rfl,fun o cl fo ho hc=>?_,by simp[okH,D.okNs,D.okN,Ai],rfl,rfl⟩
 exact Ci (H:=[[.gro 2 xs.length 2],[db b],Ab (xs.map eV)]) ho hc (fs:=[]) (cs:=EX m r ms) (ds:=[AC l]) rfl h2 rfl (fun cs hm=>by
  simp at hm;rcases hm with rfl|rfl|rfl
  ·exact⟨rfl,rfl⟩
  ·exact⟨rfl,rfl⟩
  ·exact⟨Ai _ _ _,ET _⟩) rfl (by simp[okH,D.okNs,D.okN,Ai]) (by show 3<=4;decide)
abbrev Pt(b:Bool):St:=⟨[some [.v .nils],some [db b],none],[]⟩
def AhB(b:Bool):List Val->St
 |[]=>Pt b
 |x::xs=>D7 b (x::xs)
def Af0(b:Bool):List Val->St
 |[]=>σA b
 |x::xs=>D7 b (x::xs)
theorem PC{b:Bool}{xs:List Val}(h:xs≠ []):AhB b xs=D7 b xs:=by
 cases xs with
 |nil=>exact absurd rfl h
 |cons x xs=>rfl
theorem PE{b:Bool}{xs:List Val}(h:xs≠ []):Af0 b xs=D7 b xs:=by
 cases xs with
 |nil=>exact absurd rfl h
 |cons x xs=>rfl
theorem Cn{l:List (Int×Int)}{k:Nat}{x:Int×Int}(h:l[k]?=some x):(l.map vPr)[Int.toNat (k:Int)]?=some (vPr x):=by rw[IB,Ik,h];rfl
def TX(tk:Tk)(l:List (Int×Int))(k:Nat):Bool:=match l[k]? with
 |some x=>(x.1==tk.place)&&(decide (x.2>=tk.low)&&(decide (x.2<=tk.high)&&(((k:Int)==0)||(match l[k-1]? with
  |some y=> !(y.1==x.1&&y.2==x.2)
  |none=>true))))
 |none=>false
theorem CV(tk:Tk){l:List (Int×Int)}{k:Nat}{x:Int×Int}(h:l[k]?=some x):TX tk l k=((x.1==tk.place)&&(decide (x.2>=tk.low)&&(decide (x.2<=tk.high)&&(((k:Int)==0)||(match l[k-1]? with
  |some y=> !(y.1==x.1&&y.2==x.2)
  |none=>true))))):=by
 unfold TX;rw[h]
theorem N7(l:List (Int×Int))(hl:l.length<=50)(k:Nat)(hk:k<l.length):Aa PP 237 [D.v (V.list [V.list (List.drop 0 (take (Int.toNat (k:Int)) (l.map vPr))),V.list (List.drop (Int.toNat ((k+1:Nat):Int)) (take (l.map vPr).length (l.map vPr)))])] σ0 (AC (l.take k++l.drop (k+1))) σ0:=by
 have h:=L8 [l.take k,l.drop (k+1)] (by simp) (by simp;omega)
 simp only[IR,flatten_nil,Is] at h
 have e:D.v (V.list [V.list (List.drop 0 (take (Int.toNat (k:Int)) (l.map vPr))),V.list (List.drop (Int.toNat ((k+1:Nat):Int)) (take (l.map vPr).length (l.map vPr)))])=dl (DB [l.take k,l.drop (k+1)]):=by
  rw[HW (HB _),IW,IB,IB, ←List.map_take, ←List.map_drop];rfl
 rw[e];exact h
theorem AfX{R:List D->St->Prop}{ks:List KI}{e e':List D}(x:Int×Int)(v:Val)(b:Bool)(he:D.okNs 4 [] e'=true)(hee:e=D.rens (fun i=>if i<3 then i else i+1) id e')
  (h:A1 (CN 2) PP R ks e' (D7 b [v])):A1 (CN 2) PP R ks e ⟨[some [.gro 4 1 2],some [db b],none,some [di x.1,di x.2],some (Ab ([v].map eV))],[]⟩:=by
 refine Ee (σ:=⟨[some [.gro 4 1 2],some [db b],none,some [di x.1,di x.2],some (Ab ([v].map eV))],[]⟩) (e':=e') (H':=(D7 b [v]).H) (m:=2) (fun _ _ h=>h.2) (fun i=>if i<3 then i else i+1) (show 2<=4 by decide) (fun i hi=>HP (by omega)) (fun i j _ _ h=>?_) (fun i cs hi=>?_) he hee h
 ·have h:(if i<3 then i else i+1)=(if j<3 then j else j+1):=h
  split at h<;>split at h<;>omega
 ·match i,hi with
  |0,hi=>have hi:=HT (HT (hi:some (some _)=some (some cs)));subst hi;exact⟨rfl,rfl⟩
  |1,hi=>have hi:=HT (HT (hi:some (some _)=some (some cs)));subst hi;exact⟨rfl,rfl⟩
  |2,hi=>simp at hi
  |3,hi=>have hi:=HT (HT (hi:some (some _)=some (some cs)));subst hi;exact⟨by rw[AV (A3 _)];rfl,Ai _ _ _⟩
  |i+4,hi=>simp at hi
theorem AfW{R:List D->St->Prop}{ks:List KI}{e e':List D}(x:Int×Int)(v:Val)(xs:List Val)(b:Bool)(he:D.okNs 4 [] e'=true)(hee:e=D.rens (fun i=>if i<3 then i else i+2) id e')
  (h:A1 (CN 2) PP R ks e' (D7 b (xs++[v]))):A1 (CN 2) PP R ks e ⟨[some [.gro 5 (xs++[v]).length 2],some [db b],none,none,some [di x.1,di x.2],some (Ab ((xs++[v]).map eV))],[]⟩:=by
 refine Ee (σ:=⟨[some [.gro 5 (xs++[v]).length 2],some [db b],none,none,some [di x.1,di x.2],some (Ab ((xs++[v]).map eV))],[]⟩) (e':=e') (H':=(D7 b (xs++[v])).H) (m:=2) (fun _ _ h=>h.2) (fun i=>if i<3 then i else i+2) (show 2<=4 by decide) (fun i hi=>HP (by omega)) (fun i j _ _ h=>?_) (fun i cs hi=>?_) he hee h
 ·have h:(if i<3 then i else i+2)=(if j<3 then j else j+2):=h
  split at h<;>split at h<;>omega
 ·match i,hi with
  |0,hi=>have hi:=HT (HT (hi:some (some _)=some (some cs)));subst hi;exact⟨rfl,rfl⟩
  |1,hi=>have hi:=HT (HT (hi:some (some _)=some (some cs)));subst hi;exact⟨rfl,rfl⟩
  |2,hi=>simp at hi
  |3,hi=>have hi:=HT (HT (hi:some (some _)=some (some cs)));subst hi;exact⟨by rw[AV (A3 _)];rfl,Ai _ _ _⟩
  |i+4,hi=>simp at hi
theorem B7{n:Nat}{qs:List Nat}:∀{dcs ds:List D},D.okNs qs.length [] dcs=true->ds=D.rens (rho n qs) id dcs->G3 n qs ds dcs
 |[],ds,_,e=>by
  have e:ds=[]:=e
  subst e;exact .nil
 |d::dcs,ds,h,e=>by
  have e:ds=d.ren (rho n qs) id::D.rens (rho n qs) id dcs:=e
  subst e
  simp only[D.okNs,H5] at h
  exact .cons (.ren h.1) (B7 h.2 rfl)
theorem Wt(m:Mod)(r:Rul)(ms l:List (Int×Int))(x:Int×Int)(v:Val)(b b2:Bool){o:Oper}{c:Call}{fo:Operand}(ho:o.op=.call c)(hc:c.callee=.value fo)
  (h:Aa PP 233 [AC l,.v (AD []),Ey m r ms] (σA b) (.tup []) (G5 b2 [v])):
  Ah PP o [.v (.fn 233 [] []),AC l,.v (AD []),Ey m r ms] ⟨[some [.v .nils],some [db b],none,some [di x.1,di x.2]],[]⟩ (.tup []) ⟨[some [.gro 4 1 2],some [db b2],none,some [di x.1,di x.2],some (Ab ([v].map eV))],[]⟩:=by
 have h2:=CT (σ:=⟨[some [.v .nils],some [db b],none,some [di x.1,di x.2]],[]⟩) ho hc (fD:=.v (.fn 233 [] [])) (fs:=[]) (cs:=[]) (ds:=[AC l,.v (AD []),Ey m r ms]) rfl [0,1] id h
  (B7 rfl rfl) (.cons rfl (B7 rfl rfl) rfl (.cons rfl (B7 rfl rfl) rfl .nil)) (by decide) rfl (by simp) (by simp) rfl (by simp[okH,D.okNs,D.okN,Ai])
 have e:Gi (rho 4 [0,1]) id (G5 b2 [v]).H=[some [.gro 4 1 2],some [db b2],some (Ab ([v].map eV))]:=by
  show [some _,some _,some (D.rens _ _ (Ab ([v].map eV)))]=_
  rw[AV (A3 _)];rfl
 have h2:Ah PP o _ _ _ ⟨CM _ _ (Gi (rho 4 [0,1]) id (G5 b2 [v]).H),_⟩:=h2
 rw[e] at h2
 exact h2
theorem Ws(m:Mod)(r:Rul)(ms l:List (Int×Int))(x:Int×Int)(v:Val)(xs:List Val)(b b2:Bool){o:Oper}{c:Call}{fo:Operand}(ho:o.op=.call c)(hc:c.callee=.value fo)
  (h:Aa PP 233 [AC l,.v (AD []),Ey m r ms] (G5 b xs) (.tup []) (D7 b2 (xs++[v]))):
  Ah PP o [.v (.fn 233 [] []),AC l,.v (AD []),Ey m r ms] ⟨[some [.gro 3 xs.length 2],some [db b],none,some (Ab (xs.map eV)),some [di x.1,di x.2]],[]⟩ (.tup []) ⟨[some [.gro 5 (xs++[v]).length 2],some [db b2],none,none,some [di x.1,di x.2],some (Ab ((xs++[v]).map eV))],[]⟩:=by
 have h2:=CT (σ:=⟨[some [.gro 3 xs.length 2],some [db b],none,some (Ab (xs.map eV)),some [di x.1,di x.2]],[]⟩) ho hc (fD:=.v (.fn 233 [] [])) (fs:=[]) (cs:=[]) (ds:=[AC l,.v (AD []),Ey m r ms]) rfl [0,1,3] id h
  (B7 rfl rfl) (.cons rfl (B7 rfl rfl) rfl (.cons rfl (B7 rfl rfl) rfl (.cons rfl (B7 (Ai _ _ _) (AV (A3 _)).symm) (ET _) .nil))) (by decide) rfl (by simp) (by simp) rfl (by simp[okH,D.okNs,D.okN,Ai])
 have e:Gi (rho 5 [0,1,3]) id (D7 b2 (xs++[v])).H=[some [.gro 5 (xs++[v]).length 2],some [db b2],none,some (Ab ((xs++[v]).map eV))]:=by
  show [some _,some _,none,some (D.rens _ _ (Ab ((xs++[v]).map eV)))]=_
  rw[AV (A3 _)];rfl
 have h2:Ah PP o _ _ _ ⟨CM _ _ (Gi (rho 5 [0,1,3]) id (D7 b2 (xs++[v])).H),_⟩:=h2
 rw[e] at h2
 exact h2
noncomputable abbrev Ak8:=(Oper.mk (some 54) (Op.binOp BinOp.neq 169 (Operand.tmp 52) (Operand.tmp 53) 169) 4 "timed.go:54" #[Edge.mk 27 Ground.data,Edge.mk 28 Ground.data,Edge.mk 22 Ground.guard] (some (22,false)))
noncomputable abbrev Ala:=fun a₀=>[ke 0,ke 1,ke 2,ke 6,ke 18,ke 19,ch 20 (di (a₀+1:Nat))]
noncomputable abbrev Ale:=fun a₀ b₀ c₀=>(2,D.dfn 235 [] (EX a₀ b₀ c₀))
noncomputable abbrev Alx:=fun a₀ b₀ c₀ d₀ e₀=>[D.v (Azl 233 [] []),AC (take a₀ b₀++List.drop (a₀+1) b₀),D.v (Azf []),D.dfn 235 [] (EX c₀ d₀ e₀)]
noncomputable abbrev Amd:=[kl EY [1,1,1,0,0],Aza 0]
noncomputable abbrev Am6:=fun a₀=>[some [dn],some [db a₀],none]
noncomputable abbrev Amp:=fun a₀ b₀ c₀ d₀=>[some [Azm 4 1 2],some [db a₀],none,some [di b₀,di c₀],some (Ab [eV d₀])]
noncomputable abbrev An0:=fun a₀=>(6,D.v (Azo (vTk a₀)))
noncomputable abbrev Ap5:=fun a₀=>(1,D.v (AD [a₀]))
noncomputable abbrev Apt:=fun (a₀:Nat)=>(19,di (a₀:Int))
theorem Ahi(m:Mod)(t:Typ)(hm:Fx m t)(r:Rul)(ms l:List (Int×Int))(hl:l.length<=50)(hms:ms.length<=50)(tk:Tk)(b:Bool)(k:Nat)(hk:k<l.length)(S:St)
  (ihy:TX tk l k=true->Rn PP Dq 2 (.tup []) S ([.lp (sub EY [1,1,1,0,0]),.blk 0]++[]) (mkE 71 [(0,AC l),(1,.v (AD [tk])),(2,Ey m r ms),(6,.v (.ref (vTk tk))),(18,AC l),(19,di l.length),(20,di (k+1:Nat))]) (D7 (b&&Aj t (Ca r.to (l.take k++l.drop (k+1)++ms))) ([Ca r.to (l.take k++l.drop (k+1)++ms)])))
  (ihn:TX tk l k=false->Rn PP Dq 2 (.tup []) S ([.lp (sub EY [1,1,1,0,0]),.blk 0]++[]) (mkE 71 [(0,AC l),(1,.v (AD [tk])),(2,Ey m r ms),(6,.v (.ref (vTk tk))),(18,AC l),(19,di l.length),(20,di (k+1:Nat))]) (Pt b)):
  Rn PP Dq 2 (.tup []) S ([.lp (sub EY [1,1,1,0,0]),.blk 0]++[]) (mkE 71 [(0,AC l),(1,.v (AD [tk])),(2,Ey m r ms),(6,.v (.ref (vTk tk))),(18,AC l),(19,di l.length),(20,di k)]) (Pt b):=by
 have hw1:i64.wrap ((k:Int)-1)=((k-1:Nat):Int)∨k=0:=by
  by_cases h:k=0
  ·exact .inr h
  ·left;rw[Al (by omega) (by omega)];omega
 have hw2:i64.wrap ((k:Int)+1)=((k+1:Nat):Int):=by rw[Al (by omega) (by omega)];omega
 obtain⟨x,hx⟩:∃x,l[k]?=some x:=⟨_,H4 hk⟩
 have szp:∀y∈l.map vPr,y.size=2:=fun y hy=>by obtain⟨z,_,rfl⟩:=Il.1 hy;rfl
 by_cases c1:(x.1==tk.place)=true
 ·by_cases c2:decide (x.2>=tk.low)=true
  ·by_cases c3:decide (x.2<=tk.high)=true
   ·by_cases c4:((k:Int)==0)=true
    ·have v2:=Aed m t hm r ms (l.take k++l.drop (k+1)) (by simp;omega) hms b
     have r3:=ihy (by rw[CV tk hx];simp only[c1,c2,c3,c4];rfl)
     generalize (b&&Aj t (Ca r.to (l.take k++l.drop (k+1)++ms)))=b2 at v2 r3
     generalize Ca r.to (l.take k++l.drop (k+1)++ms)=v at v2 r3
     refine lv 71 [] (.t<|.x (vPr x)<|.t<|.t<|.t<|.t<|.c (AC (l.take k++l.drop (k+1)))<|.h (.oc (.tup []) ⟨[some [.gro 4 1 2],some [db b2],none,some [di x.1,di x.2],some (Ab ([v].map eV))],[]⟩)<|.lo (Ala k) ⟨[some [.gro 4 1 2],some [db b2],none,some [di x.1,di x.2],some (Ab ([v].map eV))],[]⟩) (decide ((k:Int)<(l.length:Int))=true/\0<=(k:Int)/\(map vPr l)[Int.toNat (k:Int)]?=some (vPr x)/\iz 0<=0/\0<(↑2:Int)/\(x.fst==tk.place)=true/\iz 0<=1/\1<(↑2:Int)/\decide (x.snd>=tk.low)=true/\iz 0<=1/\1<(↑2:Int)/\decide (x.snd<=tk.high)=true/\((k:Int)==0)=true/\(True/\True/\True/\True)/\(∀(x:V),x∈map vPr l->V.size x=2)/\0<=(fun x=>x.snd) (Anx k)/\(fun x=>x.snd) (Anx k)<=(length (map vPr l):Int)/\(∀(x:V),x∈map vPr l->V.size x=2)/\0<=(fun x=>x.snd) (i64,wrap i64 ((k:Int)+1))/\(fun x=>x.snd) (i64,wrap i64 ((k:Int)+1))<=(length (map vPr l):Int)/\F0 237 [D.v (Azf [Azf (List.drop 0 (take (Int.toNat ((fun x=>x.snd) (Anx k))) (map vPr l))),Azf (List.drop (Int.toNat ((fun x=>x.snd) (i64,wrap i64 ((k:Int)+1)))) (take (length (map vPr l)) (map vPr l)))])] (AC (take k l++List.drop (k+1) l))/\(∀(x:V),x∈ [vTk tk]->V.size x=3)/\0<=(1:Int)/\(1:Int)<=(length (map vTk [tk]):Int)/\(N0 (Alx k l m r ms) (Azd [some [dn],some [db b],none,some [di x.fst,di x.snd]] []) (Azn []) (Azd (Amp b2 x.fst x.snd v) []))/\di (wrap i64 ((k:Int)+1))=di (↑(k+1):Int)/\okH 5 [] (Amp b2 x.fst x.snd v)=true/\Q [some [Azm 4 1 2],some [db b2],none,some [di x.fst,di x.snd],some (Ab (eV v::nV))]/\I0 Dq 2 (Azn []) S Amd (mkE 71 [(0,D.v (Cb l)),(Ap5 tk),(Ale m r ms),(An0 tk),(18,D.v (Cb l)),(Apt l.length),(20,di (↑(k+1):Int))]) (Azd (Amp b2 x.fst x.snd v) [])) ?_
     rw[hw2]
     exact⟨decide_eq_true (by omega),by omega,Cn hx,Int.le_refl _,by decide,c1,by decide,by decide,c2,by decide,by decide,c3,c4,by repeat' first|with_reducible refine And.intro ?_ ?_|rfl|trivial,szp,(by show(0:Int)<=(k:Int);omega),(by show(k:Int)<=(((l.map vPr).length:Nat):Int);rw[length_map];omega),szp,(by show(0:Int)<=((k+1:Nat):Int);omega),(by show((k+1:Nat):Int)<=(((l.map vPr).length:Nat):Int);rw[length_map];omega),N7 l hl k hk,fun y hy=>by rw[mem_singleton.1 hy];rfl,by decide,Int.le_refl 1,fun o cl fo ho hc=>Wt m r ms _ x v b b2 ho hc v2,rfl,by simp[okH,D.okNs,D.okN,Ai],rfl,⟨AfX x v b2 rfl rfl r3⟩⟩
    ·have c4f:=HG c4
     obtain⟨y,hy⟩:∃y,l[k-1]?=some y:=⟨_,H4 (show k-1<l.length by omega)⟩
     by_cases c5:(!(y.1==x.1&&y.2==x.2))=true
     ·have v2:=Aed m t hm r ms (l.take k++l.drop (k+1)) (by simp;omega) hms b
      have r3:=ihy (by rw[CV tk hx];simp only[c1,c2,c3,c4f,hy,c5];rfl)
      generalize (b&&Aj t (Ca r.to (l.take k++l.drop (k+1)++ms)))=b2 at v2 r3
      generalize Ca r.to (l.take k++l.drop (k+1)++ms)=v at v2 r3
      refine lv 71 [] (.t<|.x (vPr x)<|.t<|.t<|.t<|.f<|.x (vPr y)<|.m (.v (vPr x))<|.h (.p (db (!(y.1==x.1&&y.2==x.2))))<|.t<|.c (AC (l.take k++l.drop (k+1)))<|.h (.oc (.tup []) ⟨[some [.gro 4 1 2],some [db b2],none,some [di x.1,di x.2],some (Ab ([v].map eV))],[]⟩)<|.lo (Ala k) ⟨[some [.gro 4 1 2],some [db b2],none,some [di x.1,di x.2],some (Ab ([v].map eV))],[]⟩) (decide ((k:Int)<(l.length:Int))=true/\0<=(k:Int)/\(map vPr l)[Int.toNat (k:Int)]?=some (vPr x)/\iz 0<=0/\0<(↑2:Int)/\(x.fst==tk.place)=true/\iz 0<=1/\1<(↑2:Int)/\decide (x.snd>=tk.low)=true/\iz 0<=1/\1<(↑2:Int)/\decide (x.snd<=tk.high)=true/\((k:Int)==0)=false/\0<=wrap i64 ((k:Int)-1)/\(map vPr l)[Int.toNat (wrap i64 ((k:Int)-1))]?=some (vPr y)/\2<=2/\Q [di x.fst,di x.snd]/\(∀(τ:St),Ah PP Ak8 [D.v (vPr y),D.v (Azh [vi x.fst,vi x.snd])] τ (db !(y.fst==x.fst&&y.snd==x.snd)) τ)/\(True/\True/\True/\True/\True)/\(!(y.fst==x.fst&&y.snd==x.snd))=true/\(∀(x:V),x∈map vPr l->V.size x=2)/\0<=(fun x=>x.snd) (Anx k)/\(fun x=>x.snd) (Anx k)<=(length (map vPr l):Int)/\(∀(x:V),x∈map vPr l->V.size x=2)/\0<=(fun x=>x.snd) (i64,wrap i64 ((k:Int)+1))/\(fun x=>x.snd) (i64,wrap i64 ((k:Int)+1))<=(length (map vPr l):Int)/\F0 237 [D.v (Azf [Azf (List.drop 0 (take (Int.toNat ((fun x=>x.snd) (Anx k))) (map vPr l))),Azf (List.drop (Int.toNat ((fun x=>x.snd) (i64,wrap i64 ((k:Int)+1)))) (take (length (map vPr l)) (map vPr l)))])] (AC (take k l++List.drop (k+1) l))/\(∀(x:V),x∈ [vTk tk]->V.size x=3)/\0<=(1:Int)/\(1:Int)<=(length (map vTk [tk]):Int)/\(N0 (Alx k l m r ms) (Azd [some [dn],some [db b],none,some [di x.fst,di x.snd]] []) (Azn []) (Azd (Amp b2 x.fst x.snd v) []))/\di (wrap i64 ((k:Int)+1))=di (↑(k+1):Int)/\okH 5 [] (Amp b2 x.fst x.snd v)=true/\Q [some [Azm 4 1 2],some [db b2],none,some [di x.fst,di x.snd],some (Ab (eV v::nV))]/\I0 Dq 2 (Azn []) S Amd (mkE 71 [(0,D.v (Cb l)),(Ap5 tk),(Ale m r ms),(An0 tk),(18,D.v (Cb l)),(Apt l.length),(20,di (↑(k+1):Int))]) (Azd (Amp b2 x.fst x.snd v) [])) ?_
      have hw1:=hw1.resolve_right (fun h=>c4 (by rw[h];rfl))
      rw[hw1]
      rw[hw2]
      exact⟨decide_eq_true (by omega),by omega,Cn hx,Int.le_refl _,by decide,c1,by decide,by decide,c2,by decide,by decide,c3,c4f,by omega,Cn hy,Nat.le_refl _,rfl,fun τ=>Ky rfl y.1 y.2 x.1 x.2,by repeat' first|with_reducible refine And.intro ?_ ?_|rfl|trivial,c5,szp,(by show(0:Int)<=(k:Int);omega),(by show(k:Int)<=(((l.map vPr).length:Nat):Int);rw[length_map];omega),szp,(by show(0:Int)<=((k+1:Nat):Int);omega),(by show((k+1:Nat):Int)<=(((l.map vPr).length:Nat):Int);rw[length_map];omega),N7 l hl k hk,fun y hy=>by rw[mem_singleton.1 hy];rfl,by decide,Int.le_refl 1,fun o cl fo ho hc=>Wt m r ms _ x v b b2 ho hc v2,rfl,by simp[okH,D.okNs,D.okN,Ai],rfl,⟨AfX x v b2 rfl rfl r3⟩⟩
     ·have r3:=ihn (by rw[CV tk hx];simp only[c1,c2,c3,c4f,hy,HG c5];rfl)
      refine lv 71 [] (.t<|.x (vPr x)<|.t<|.t<|.t<|.f<|.x (vPr y)<|.m (.v (vPr x))<|.h (.p (db (!(y.1==x.1&&y.2==x.2))))<|.f<|.lo (Ala k) (Pt b)) (decide ((k:Int)<(l.length:Int))=true/\0<=(k:Int)/\(map vPr l)[Int.toNat (k:Int)]?=some (vPr x)/\iz 0<=0/\0<(↑2:Int)/\(x.fst==tk.place)=true/\iz 0<=1/\1<(↑2:Int)/\decide (x.snd>=tk.low)=true/\iz 0<=1/\1<(↑2:Int)/\decide (x.snd<=tk.high)=true/\((k:Int)==0)=false/\0<=wrap i64 ((k:Int)-1)/\(map vPr l)[Int.toNat (wrap i64 ((k:Int)-1))]?=some (vPr y)/\2<=2/\Q [di x.fst,di x.snd]/\(∀(τ:St),Ah PP Ak8 [D.v (vPr y),D.v (Azh [vi x.fst,vi x.snd])] τ (db !(y.fst==x.fst&&y.snd==x.snd)) τ)/\(True/\True/\True/\True/\True)/\(!(y.fst==x.fst&&y.snd==x.snd))=false/\di (wrap i64 ((k:Int)+1))=di (↑(k+1):Int)/\okH 3 [] (Am6 b)=true/\Q (Am6 b)/\I0 Dq 2 (Azn []) S Amd (mkE 71 [(0,D.v (Cb l)),(Ap5 tk),(Ale m r ms),(An0 tk),(18,D.v (Cb l)),(Apt l.length),(20,di (↑(k+1):Int))]) (Pt b)) ?_
      have hw1:=hw1.resolve_right (fun h=>c4 (by rw[h];rfl))
      rw[hw1]
      exact⟨decide_eq_true (by omega),by omega,Cn hx,Int.le_refl _,by decide,c1,by decide,by decide,c2,by decide,by decide,c3,c4f,by omega,Cn hy,Nat.le_refl _,rfl,fun τ=>Ky rfl y.1 y.2 x.1 x.2,by repeat' first|with_reducible refine And.intro ?_ ?_|rfl|trivial,eq_false_of_ne_true c5,congrArg di hw2,rfl,rfl,⟨r3⟩⟩
   ·have r3:=ihn (by rw[CV tk hx];simp only[c1,c2,HG c3];rfl)
    refine lv 71 [] (.t<|.x (vPr x)<|.t<|.t<|.f<|.lo (Ala k) (Pt b)) (decide ((k:Int)<(l.length:Int))=true/\0<=(k:Int)/\(map vPr l)[Int.toNat (k:Int)]?=some (vPr x)/\iz 0<=0/\0<(↑2:Int)/\(x.fst==tk.place)=true/\iz 0<=1/\1<(↑2:Int)/\decide (x.snd>=tk.low)=true/\iz 0<=1/\1<(↑2:Int)/\decide (x.snd<=tk.high)=false/\(True/\True/\True/\True)/\di (wrap i64 ((k:Int)+1))=di (↑(k+1):Int)/\okH 3 [] (Am6 b)=true/\Q (Am6 b)/\I0 Dq 2 (Azn []) S Amd (mkE 71 [(0,D.v (Cb l)),(Ap5 tk),(Ale m r ms),(An0 tk),(18,D.v (Cb l)),(Apt l.length),(20,di (↑(k+1):Int))]) (Pt b)) ?_
    exact⟨decide_eq_true (by omega),by omega,Cn hx,Int.le_refl _,by decide,c1,by decide,by decide,c2,by decide,by decide,eq_false_of_ne_true c3,by repeat' first|with_reducible refine And.intro ?_ ?_|rfl|trivial,congrArg di hw2,rfl,rfl,⟨r3⟩⟩
  ·have r3:=ihn (by rw[CV tk hx];simp only[c1,HG c2];rfl)
   refine lv 71 [] (.t<|.x (vPr x)<|.t<|.f<|.lo (Ala k) (Pt b)) (decide ((k:Int)<(l.length:Int))=true/\0<=(k:Int)/\(map vPr l)[Int.toNat (k:Int)]?=some (vPr x)/\iz 0<=0/\0<(↑2:Int)/\(x.fst==tk.place)=true/\iz 0<=1/\1<(↑2:Int)/\decide (x.snd>=tk.low)=false/\(True/\True/\True)/\di (wrap i64 ((k:Int)+1))=di (↑(k+1):Int)/\okH 3 [] (Am6 b)=true/\Q (Am6 b)/\I0 Dq 2 (Azn []) S Amd (mkE 71 [(0,D.v (Cb l)),(Ap5 tk),(Ale m r ms),(An0 tk),(18,D.v (Cb l)),(Apt l.length),(20,di (↑(k+1):Int))]) (Pt b)) ?_
   exact⟨decide_eq_true (by omega),by omega,Cn hx,Int.le_refl _,by decide,c1,by decide,by decide,eq_false_of_ne_true c2,by repeat' first|with_reducible refine And.intro ?_ ?_|rfl|trivial,congrArg di hw2,rfl,rfl,⟨r3⟩⟩
 ·have r3:=ihn (by rw[CV tk hx];simp only[HG c1];rfl)
  refine lv 71 [] (.t<|.x (vPr x)<|.f<|.lo (Ala k) (Pt b)) (decide ((k:Int)<(l.length:Int))=true/\0<=(k:Int)/\(map vPr l)[Int.toNat (k:Int)]?=some (vPr x)/\iz 0<=0/\0<(↑2:Int)/\(x.fst==tk.place)=false/\(True/\True)/\di (wrap i64 ((k:Int)+1))=di (↑(k+1):Int)/\okH 3 [] (Am6 b)=true/\Q (Am6 b)/\I0 Dq 2 (Azn []) S Amd (mkE 71 [(0,D.v (Cb l)),(Ap5 tk),(Ale m r ms),(An0 tk),(18,D.v (Cb l)),(Apt l.length),(20,di (↑(k+1):Int))]) (Pt b)) ?_
  exact⟨decide_eq_true (by omega),by omega,Cn hx,Int.le_refl _,by decide,eq_false_of_ne_true c1,by repeat' first|with_reducible refine And.intro ?_ ?_|rfl|trivial,congrArg di hw2,rfl,rfl,⟨r3⟩⟩
noncomputable abbrev Ak5:=fun a₀ b₀ c₀ d₀ e₀=>[some [Azm 5 (length (a₀++[b₀])) 2],some [db c₀],none,none,some [di d₀,di e₀],some (Ab (map eV (a₀++[b₀])))]
noncomputable abbrev Al5:=fun a₀ b₀ c₀=>[some [Azm 3 a₀ 2],some [db b₀],none,some (Akr c₀)]
theorem Ahh(m:Mod)(t:Typ)(hm:Fx m t)(r:Rul)(ms l:List (Int×Int))(hl:l.length<=50)(hms:ms.length<=50)(tk:Tk)(xs:List Val)(hxs:xs≠ [])(b:Bool)(k:Nat)(hk:k<l.length)(hkx:xs.length<=k)(S:St)
  (ihy:TX tk l k=true->Rn PP Dq 2 (.tup []) S ([.lp (sub EY [1,1,1,0,0]),.blk 0]++[]) (mkE 71 [(0,AC l),(1,.v (AD [tk])),(2,Ey m r ms),(6,.v (.ref (vTk tk))),(18,AC l),(19,di l.length),(20,di (k+1:Nat))]) (D7 (b&&Aj t (Ca r.to (l.take k++l.drop (k+1)++ms))) (xs++[Ca r.to (l.take k++l.drop (k+1)++ms)])))
  (ihn:TX tk l k=false->Rn PP Dq 2 (.tup []) S ([.lp (sub EY [1,1,1,0,0]),.blk 0]++[]) (mkE 71 [(0,AC l),(1,.v (AD [tk])),(2,Ey m r ms),(6,.v (.ref (vTk tk))),(18,AC l),(19,di l.length),(20,di (k+1:Nat))]) (D7 b xs)):
  Rn PP Dq 2 (.tup []) S ([.lp (sub EY [1,1,1,0,0]),.blk 0]++[]) (mkE 71 [(0,AC l),(1,.v (AD [tk])),(2,Ey m r ms),(6,.v (.ref (vTk tk))),(18,AC l),(19,di l.length),(20,di k)]) (D7 b xs):=by
 have hw1:i64.wrap ((k:Int)-1)=((k-1:Nat):Int)∨k=0:=by
  by_cases h:k=0
  ·exact .inr h
  ·left;rw[Al (by omega) (by omega)];omega
 have hw2:i64.wrap ((k:Int)+1)=((k+1:Nat):Int):=by rw[Al (by omega) (by omega)];omega
 obtain⟨x,hx⟩:∃x,l[k]?=some x:=⟨_,H4 hk⟩
 have szp:∀y∈l.map vPr,y.size=2:=fun y hy=>by obtain⟨z,_,rfl⟩:=Il.1 hy;rfl
 by_cases c1:(x.1==tk.place)=true
 ·by_cases c2:decide (x.2>=tk.low)=true
  ·by_cases c3:decide (x.2<=tk.high)=true
   ·by_cases c4:((k:Int)==0)=true
    ·have v2:=Ahj m t hm r ms (l.take k++l.drop (k+1)) (by simp;omega) hms xs (by omega) b
     have r3:=ihy (by rw[CV tk hx];simp only[c1,c2,c3,c4];rfl)
     generalize (b&&Aj t (Ca r.to (l.take k++l.drop (k+1)++ms)))=b2 at v2 r3
     generalize Ca r.to (l.take k++l.drop (k+1)++ms)=v at v2 r3
     refine lv 71 [] (.t<|.x (vPr x)<|.t<|.t<|.t<|.t<|.c (AC (l.take k++l.drop (k+1)))<|.h (.oc (.tup []) ⟨[some [.gro 5 (xs++[v]).length 2],some [db b2],none,none,some [di x.1,di x.2],some (Ab ((xs++[v]).map eV))],[]⟩)<|.lo (Ala k) ⟨[some [.gro 5 (xs++[v]).length 2],some [db b2],none,none,some [di x.1,di x.2],some (Ab ((xs++[v]).map eV))],[]⟩) (decide ((k:Int)<(l.length:Int))=true/\0<=(k:Int)/\(map vPr l)[Int.toNat (k:Int)]?=some (vPr x)/\iz 0<=0/\0<(↑2:Int)/\(x.fst==tk.place)=true/\iz 0<=1/\1<(↑2:Int)/\decide (x.snd>=tk.low)=true/\iz 0<=1/\1<(↑2:Int)/\decide (x.snd<=tk.high)=true/\((k:Int)==0)=true/\(True/\True/\True/\True)/\(∀(x:V),x∈map vPr l->V.size x=2)/\0<=(fun x=>x.snd) (Anx k)/\(fun x=>x.snd) (Anx k)<=(length (map vPr l):Int)/\(∀(x:V),x∈map vPr l->V.size x=2)/\0<=(fun x=>x.snd) (i64,wrap i64 ((k:Int)+1))/\(fun x=>x.snd) (i64,wrap i64 ((k:Int)+1))<=(length (map vPr l):Int)/\F0 237 [D.v (Azf [Azf (List.drop 0 (take (Int.toNat ((fun x=>x.snd) (Anx k))) (map vPr l))),Azf (List.drop (Int.toNat ((fun x=>x.snd) (i64,wrap i64 ((k:Int)+1)))) (take (length (map vPr l)) (map vPr l)))])] (AC (take k l++List.drop (k+1) l))/\(∀(x:V),x∈ [vTk tk]->V.size x=3)/\0<=(1:Int)/\(1:Int)<=(length (map vTk [tk]):Int)/\(N0 (Alx k l m r ms) (Azd [some [Azm 3 xs.length 2],some [db b],none,some (Akr xs),some [di x.fst,di x.snd]] []) (Azn []) (Azd (Ak5 xs v b2 x.fst x.snd) []))/\di (wrap i64 ((k:Int)+1))=di (↑(k+1):Int)/\okH 6 [] (Ak5 xs v b2 x.fst x.snd)=true/\Q (Ak5 xs v b2 x.fst x.snd)/\I0 Dq 2 (Azn []) S Amd (mkE 71 [(0,D.v (Cb l)),(Ap5 tk),(Ale m r ms),(An0 tk),(18,D.v (Cb l)),(Apt l.length),(20,di (↑(k+1):Int))]) (Azd (Ak5 xs v b2 x.fst x.snd) [])) ?_
     rw[hw2]
     exact⟨decide_eq_true (by omega),by omega,Cn hx,Int.le_refl _,by decide,c1,by decide,by decide,c2,by decide,by decide,c3,c4,by repeat' first|with_reducible refine And.intro ?_ ?_|rfl|trivial,szp,(by show(0:Int)<=(k:Int);omega),(by show(k:Int)<=(((l.map vPr).length:Nat):Int);rw[length_map];omega),szp,(by show(0:Int)<=((k+1:Nat):Int);omega),(by show((k+1:Nat):Int)<=(((l.map vPr).length:Nat):Int);rw[length_map];omega),N7 l hl k hk,fun y hy=>by rw[mem_singleton.1 hy];rfl,by decide,Int.le_refl 1,fun o cl fo ho hc=>Ws m r ms _ x v xs b b2 ho hc v2,rfl,by simp[okH,D.okNs,D.okN,Ai],rfl,⟨AfW x v xs b2 rfl rfl r3⟩⟩
    ·have c4f:=HG c4
     obtain⟨y,hy⟩:∃y,l[k-1]?=some y:=⟨_,H4 (show k-1<l.length by omega)⟩
     by_cases c5:(!(y.1==x.1&&y.2==x.2))=true
     ·have v2:=Ahj m t hm r ms (l.take k++l.drop (k+1)) (by simp;omega) hms xs (by omega) b
      have r3:=ihy (by rw[CV tk hx];simp only[c1,c2,c3,c4f,hy,c5];rfl)
      generalize (b&&Aj t (Ca r.to (l.take k++l.drop (k+1)++ms)))=b2 at v2 r3
      generalize Ca r.to (l.take k++l.drop (k+1)++ms)=v at v2 r3
      refine lv 71 [] (.t<|.x (vPr x)<|.t<|.t<|.t<|.f<|.x (vPr y)<|.m (.v (vPr x))<|.h (.p (db (!(y.1==x.1&&y.2==x.2))))<|.t<|.c (AC (l.take k++l.drop (k+1)))<|.h (.oc (.tup []) ⟨[some [.gro 5 (xs++[v]).length 2],some [db b2],none,none,some [di x.1,di x.2],some (Ab ((xs++[v]).map eV))],[]⟩)<|.lo (Ala k) ⟨[some [.gro 5 (xs++[v]).length 2],some [db b2],none,none,some [di x.1,di x.2],some (Ab ((xs++[v]).map eV))],[]⟩) (decide ((k:Int)<(l.length:Int))=true/\0<=(k:Int)/\(map vPr l)[Int.toNat (k:Int)]?=some (vPr x)/\iz 0<=0/\0<(↑2:Int)/\(x.fst==tk.place)=true/\iz 0<=1/\1<(↑2:Int)/\decide (x.snd>=tk.low)=true/\iz 0<=1/\1<(↑2:Int)/\decide (x.snd<=tk.high)=true/\((k:Int)==0)=false/\0<=wrap i64 ((k:Int)-1)/\(map vPr l)[Int.toNat (wrap i64 ((k:Int)-1))]?=some (vPr y)/\2<=2/\Q [di x.fst,di x.snd]/\(∀(τ:St),Ah PP Ak8 [D.v (vPr y),D.v (Azh [vi x.fst,vi x.snd])] τ (db !(y.fst==x.fst&&y.snd==x.snd)) τ)/\(True/\True/\True/\True/\True)/\(!(y.fst==x.fst&&y.snd==x.snd))=true/\(∀(x:V),x∈map vPr l->V.size x=2)/\0<=(fun x=>x.snd) (Anx k)/\(fun x=>x.snd) (Anx k)<=(length (map vPr l):Int)/\(∀(x:V),x∈map vPr l->V.size x=2)/\0<=(fun x=>x.snd) (i64,wrap i64 ((k:Int)+1))/\(fun x=>x.snd) (i64,wrap i64 ((k:Int)+1))<=(length (map vPr l):Int)/\F0 237 [D.v (Azf [Azf (List.drop 0 (take (Int.toNat ((fun x=>x.snd) (Anx k))) (map vPr l))),Azf (List.drop (Int.toNat ((fun x=>x.snd) (i64,wrap i64 ((k:Int)+1)))) (take (length (map vPr l)) (map vPr l)))])] (AC (take k l++List.drop (k+1) l))/\(∀(x:V),x∈ [vTk tk]->V.size x=3)/\0<=(1:Int)/\(1:Int)<=(length (map vTk [tk]):Int)/\(N0 (Alx k l m r ms) (Azd [some [Azm 3 xs.length 2],some [db b],none,some (Akr xs),some [di x.fst,di x.snd]] []) (Azn []) (Azd (Ak5 xs v b2 x.fst x.snd) []))/\di (wrap i64 ((k:Int)+1))=di (↑(k+1):Int)/\okH 6 [] (Ak5 xs v b2 x.fst x.snd)=true/\Q (Ak5 xs v b2 x.fst x.snd)/\I0 Dq 2 (Azn []) S Amd (mkE 71 [(0,D.v (Cb l)),(Ap5 tk),(Ale m r ms),(An0 tk),(18,D.v (Cb l)),(Apt l.length),(20,di (↑(k+1):Int))]) (Azd (Ak5 xs v b2 x.fst x.snd) [])) ?_
      have hw1:=hw1.resolve_right (fun h=>c4 (by rw[h];rfl))
      rw[hw1]
      rw[hw2]
      exact⟨decide_eq_true (by omega),by omega,Cn hx,Int.le_refl _,by decide,c1,by decide,by decide,c2,by decide,by decide,c3,c4f,by omega,Cn hy,Nat.le_refl _,rfl,fun τ=>Ky rfl y.1 y.2 x.1 x.2,by repeat' first|with_reducible refine And.intro ?_ ?_|rfl|trivial,c5,szp,(by show(0:Int)<=(k:Int);omega),(by show(k:Int)<=(((l.map vPr).length:Nat):Int);rw[length_map];omega),szp,(by show(0:Int)<=((k+1:Nat):Int);omega),(by show((k+1:Nat):Int)<=(((l.map vPr).length:Nat):Int);rw[length_map];omega),N7 l hl k hk,fun y hy=>by rw[mem_singleton.1 hy];rfl,by decide,Int.le_refl 1,fun o cl fo ho hc=>Ws m r ms _ x v xs b b2 ho hc v2,rfl,by simp[okH,D.okNs,D.okN,Ai],rfl,⟨AfW x v xs b2 rfl rfl r3⟩⟩
     ·have r3:=ihn (by rw[CV tk hx];simp only[c1,c2,c3,c4f,hy,HG c5];rfl)
      refine lv 71 [] (.t<|.x (vPr x)<|.t<|.t<|.t<|.f<|.x (vPr y)<|.m (.v (vPr x))<|.h (.p (db (!(y.1==x.1&&y.2==x.2))))<|.f<|.lo (Ala k) (D7 b xs)) (decide ((k:Int)<(l.length:Int))=true/\0<=(k:Int)/\(map vPr l)[Int.toNat (k:Int)]?=some (vPr x)/\iz 0<=0/\0<(↑2:Int)/\(x.fst==tk.place)=true/\iz 0<=1/\1<(↑2:Int)/\decide (x.snd>=tk.low)=true/\iz 0<=1/\1<(↑2:Int)/\decide (x.snd<=tk.high)=true/\((k:Int)==0)=false/\0<=wrap i64 ((k:Int)-1)/\(map vPr l)[Int.toNat (wrap i64 ((k:Int)-1))]?=some (vPr y)/\2<=2/\Q [di x.fst,di x.snd]/\(∀(τ:St),Ah PP Ak8 [D.v (vPr y),D.v (Azh [vi x.fst,vi x.snd])] τ (db !(y.fst==x.fst&&y.snd==x.snd)) τ)/\(True/\True/\True/\True/\True)/\(!(y.fst==x.fst&&y.snd==x.snd))=false/\di (wrap i64 ((k:Int)+1))=di (↑(k+1):Int)/\okH 4 [] (Al5 xs.length b xs)=true/\Q (Al5 xs.length b xs)/\I0 Dq 2 (Azn []) S Amd (mkE 71 [(0,D.v (Cb l)),(Ap5 tk),(Ale m r ms),(An0 tk),(18,D.v (Cb l)),(Apt l.length),(20,di (↑(k+1):Int))]) (D7 b xs)) ?_
      have hw1:=hw1.resolve_right (fun h=>c4 (by rw[h];rfl))
      rw[hw1]
      exact⟨decide_eq_true (by omega),by omega,Cn hx,Int.le_refl _,by decide,c1,by decide,by decide,c2,by decide,by decide,c3,c4f,by omega,Cn hy,Nat.le_refl _,rfl,fun τ=>Ky rfl y.1 y.2 x.1 x.2,by repeat' first|with_reducible refine And.intro ?_ ?_|rfl|trivial,eq_false_of_ne_true c5,congrArg di hw2,by simp[okH,D.okNs,D.okN,Ai],rfl,⟨r3⟩⟩
   ·have r3:=ihn (by rw[CV tk hx];simp only[c1,c2,HG c3];rfl)
    refine lv 71 [] (.t<|.x (vPr x)<|.t<|.t<|.f<|.lo (Ala k) (D7 b xs)) (decide ((k:Int)<(l.length:Int))=true/\0<=(k:Int)/\(map vPr l)[Int.toNat (k:Int)]?=some (vPr x)/\iz 0<=0/\0<(↑2:Int)/\(x.fst==tk.place)=true/\iz 0<=1/\1<(↑2:Int)/\decide (x.snd>=tk.low)=true/\iz 0<=1/\1<(↑2:Int)/\decide (x.snd<=tk.high)=false/\(True/\True/\True/\True)/\di (wrap i64 ((k:Int)+1))=di (↑(k+1):Int)/\okH 4 [] (Al5 xs.length b xs)=true/\Q (Al5 xs.length b xs)/\I0 Dq 2 (Azn []) S Amd (mkE 71 [(0,D.v (Cb l)),(Ap5 tk),(Ale m r ms),(An0 tk),(18,D.v (Cb l)),(Apt l.length),(20,di (↑(k+1):Int))]) (D7 b xs)) ?_
    exact⟨decide_eq_true (by omega),by omega,Cn hx,Int.le_refl _,by decide,c1,by decide,by decide,c2,by decide,by decide,eq_false_of_ne_true c3,by repeat' first|with_reducible refine And.intro ?_ ?_|rfl|trivial,congrArg di hw2,by simp[okH,D.okNs,D.okN,Ai],rfl,⟨r3⟩⟩
  ·have r3:=ihn (by rw[CV tk hx];simp only[c1,HG c2];rfl)
   refine lv 71 [] (.t<|.x (vPr x)<|.t<|.f<|.lo (Ala k) (D7 b xs)) (decide ((k:Int)<(l.length:Int))=true/\0<=(k:Int)/\(map vPr l)[Int.toNat (k:Int)]?=some (vPr x)/\iz 0<=0/\0<(↑2:Int)/\(x.fst==tk.place)=true/\iz 0<=1/\1<(↑2:Int)/\decide (x.snd>=tk.low)=false/\(True/\True/\True)/\di (wrap i64 ((k:Int)+1))=di (↑(k+1):Int)/\okH 4 [] (Al5 xs.length b xs)=true/\Q (Al5 xs.length b xs)/\I0 Dq 2 (Azn []) S Amd (mkE 71 [(0,D.v (Cb l)),(Ap5 tk),(Ale m r ms),(An0 tk),(18,D.v (Cb l)),(Apt l.length),(20,di (↑(k+1):Int))]) (D7 b xs)) ?_
   exact⟨decide_eq_true (by omega),by omega,Cn hx,Int.le_refl _,by decide,c1,by decide,by decide,eq_false_of_ne_true c2,by repeat' first|with_reducible refine And.intro ?_ ?_|rfl|trivial,congrArg di hw2,by simp[okH,D.okNs,D.okN,Ai],rfl,⟨r3⟩⟩
 ·have r3:=ihn (by rw[CV tk hx];simp only[HG c1];rfl)
  refine lv 71 [] (.t<|.x (vPr x)<|.f<|.lo (Ala k) (D7 b xs)) (decide ((k:Int)<(l.length:Int))=true/\0<=(k:Int)/\(map vPr l)[Int.toNat (k:Int)]?=some (vPr x)/\iz 0<=0/\0<(↑2:Int)/\(x.fst==tk.place)=false/\(True/\True)/\di (wrap i64 ((k:Int)+1))=di (↑(k+1):Int)/\okH 4 [] (Al5 xs.length b xs)=true/\Q (Al5 xs.length b xs)/\I0 Dq 2 (Azn []) S Amd (mkE 71 [(0,D.v (Cb l)),(Ap5 tk),(Ale m r ms),(An0 tk),(18,D.v (Cb l)),(Apt l.length),(20,di (↑(k+1):Int))]) (D7 b xs)) ?_
  exact⟨decide_eq_true (by omega),by omega,Cn hx,Int.le_refl _,by decide,eq_false_of_ne_true c1,by repeat' first|with_reducible refine And.intro ?_ ?_|rfl|trivial,congrArg di hw2,by simp[okH,D.okNs,D.okN,Ai],rfl,⟨r3⟩⟩
def RX(tk:Tk)(l:List (Int×Int))(K:Nat):List (List (Int×Int)):=((List.range K).filter (TX tk l)).map fun k=>l.take k++l.drop (k+1)
theorem Ab8{tk:Tk}{l:List (Int×Int)}{k:Nat}(h:TX tk l k=true):RX tk l (k+1)=RX tk l k++[l.take k++l.drop (k+1)]:=by simp[RX,List.range_succ,h]
theorem Aee{tk:Tk}{l:List (Int×Int)}{k:Nat}(h:TX tk l k=false):RX tk l (k+1)=RX tk l k:=by simp[RX,List.range_succ,h]
theorem RW(tk:Tk)(l:List (Int×Int))(k:Nat):(RX tk l k).length<=k:=by
 have:=List.length_filter_le (TX tk l) (List.range k)
 rw[List.length_range] at this
 rw[RX,H3];exact this
theorem Aef{tk:Tk}{l:List (Int×Int)}{k:Nat}{x:List (Int×Int)}(h:x∈RX tk l k):x.length<=l.length:=by
 obtain⟨i,_,rfl⟩:=Il.1 h
 rw[HI,HY,I9];omega
theorem Ab7(m:Mod)(t:Typ)(hm:Fx m t)(r:Rul)(ms l:List (Int×Int))(hl:l.length<=50)(hms:ms.length<=50)(tk:Tk)(b0:Bool)(Y:List Val)(B:Bool)(hY:Y=(RX tk l l.length).map fun x=>Ca r.to (x++ms))(hB:B=(b0&&Y.all (Aj t)))(n:Nat):∀(k:Nat) (xs:List Val) (b:Bool),l.length-k=n->k<=l.length->xs=((RX tk l k).map fun x=>Ca r.to (x++ms))->b=(b0&&xs.all (Aj t))->
  Rn PP Dq 2 (.tup []) (Af0 B Y) ([.lp (sub EY [1,1,1,0,0]),.blk 0]++[]) (mkE 71 [(0,AC l),(1,.v (AD [tk])),(2,Ey m r ms),(6,.v (.ref (vTk tk))),(18,AC l),(19,di l.length),(20,di k)]) (AhB b xs):=by
 induction n with
 |zero=>
  intro k xs b hn hk hxk hb
  have e:Y=xs:=by rw[hY,hxk,show k=l.length by omega]
  rw[hB,e, ←hb]
  clear hxk hb
  by_cases hxs:xs=[]
  ·subst hxs
   show Rn PP Dq 2 (.tup []) (σA b) _ _ (Pt b)
   refine lv 71 [] (.f .ro) (decide ((k:Int)<(l.length:Int))=false/\([]:List KI)=[]/\okH 2 [] [some [dn],some [db b]]=true/\Q [some [dn],some [db b]]/\Q (Azn [])) ?_
   exact⟨H8 (by omega),rfl,rfl,rfl,rfl⟩
  ·rw[PC hxs,PE hxs]
   refine lv 71 [] (.f .ro) (decide ((k:Int)<(l.length:Int))=false/\([]:List KI)=[]/\okH 4 [] (Al5 xs.length b xs)=true/\Q (Al5 xs.length b xs)/\Q (Azn [])) ?_
   exact⟨H8 (by omega),rfl,by simp[okH,D.okNs,D.okN,Ai],rfl,rfl⟩
 |succ n ih=>
  intro k xs b hn hkl hxk hb
  have hk:k<l.length:=by omega
  have hle:=RW tk l k
  have hxl:xs.length<=k:=by rw[hxk,H3];exact hle
  have ihy:TX tk l k=true->Rn PP Dq 2 (.tup []) (Af0 B Y) ([.lp (sub EY [1,1,1,0,0]),.blk 0]++[]) (mkE 71 [(0,AC l),(1,.v (AD [tk])),(2,Ey m r ms),(6,.v (.ref (vTk tk))),(18,AC l),(19,di l.length),(20,di (k+1:Nat))]) (AhB (b&&Aj t (Ca r.to (l.take k++l.drop (k+1)++ms))) (xs++[Ca r.to (l.take k++l.drop (k+1)++ms)])):=fun h=>
   ih (k+1) _ _ (by omega) (by omega) (by rw[Ab8 h,IJ, ←hxk];rfl) (by rw[hb,List.all_append];simp[Bool.and_assoc])
  have ihn:TX tk l k=false->Rn PP Dq 2 (.tup []) (Af0 B Y) ([.lp (sub EY [1,1,1,0,0]),.blk 0]++[]) (mkE 71 [(0,AC l),(1,.v (AD [tk])),(2,Ey m r ms),(6,.v (.ref (vTk tk))),(18,AC l),(19,di l.length),(20,di (k+1:Nat))]) (AhB b xs):=fun h=>
   ih (k+1) _ _ (by omega) (by omega) (by rw[Aee h];exact hxk) hb
  by_cases hxs:xs=[]
  ·subst hxs
   exact Ahi m t hm r ms l hl hms tk b k hk _ ihy ihn
  ·rw[PC hxs] at ihn⊢
   exact Ahh m t hm r ms l hl hms tk xs hxs b k hk hxl _ (fun h=>by have:=ihy h;rwa[PC (by simp)] at this) ihn
theorem Ahg(m:Mod)(t:Typ)(hm:Fx m t)(r:Rul)(ms l:List (Int×Int))(hl:l.length<=50)(hms:ms.length<=50)(tk:Tk)(b:Bool)(ys:List Val)(b':Bool)(hY:ys=(RX tk l l.length).map fun x=>Ca r.to (x++ms))(hB:b'=(b&&ys.all (Aj t))):Aa PP 233 [AC l,.v (AD [tk]),Ey m r ms] (σA b) (.tup []) (Af0 b' ys):=by
 have r3:=Ab7 m t hm r ms l hl hms tk b ys b' hY hB _ 0 [] b rfl (Ic _) rfl (by simp)
 clear hY hB
 by_cases hy:ys=[]
 ·subst hy
  have r3:Rn PP Dq 2 (.tup []) (σA b') _ _ _:=r3
  show Aa PP _ _ _ _ (σA b')
  refine sv Dq 71 [] (.f<|.x (vTk tk)<|.h (.q 3 0)<|.h (.fa 2 [6])<|.lo [ke 0,ke 1,ke 2,ke 6,ch 18 (AC l),ch 19 (di l.length),ch 20 (di (0:Nat))] (Pt b)) (((length (map vTk [tk]):Int)==0)=false/\iz 0<=0/\Q (some (vTk tk))/\Q (AC l)/\di (length (map vPr l):Int)=di (l.length:Int)/\di 0=di (↑0:Int)/\okH 3 [] (Am6 b)=true/\Q (Am6 b)/\I0 Dq (length (σA b).H) (Azn []) (σA b') Amd (mkE 71 [(0,AC l),(Ap5 tk),(2,Ey m r ms),(6,D.v (Azo (Azh [vi tk.place,vi tk.low,vi tk.high]))),(18,AC l),(Apt l.length),(20,di (↑0:Int))]) (Pt b)) ?_
  exact⟨rfl,HV _,rfl,rfl,by rw[H3],rfl,rfl,rfl,⟨r3⟩⟩
 ·rw[PE hy] at r3⊢
  refine sv Dq 71 [] (.f<|.x (vTk tk)<|.h (.q 3 0)<|.h (.fa 2 [6])<|.lo [ke 0,ke 1,ke 2,ke 6,ch 18 (AC l),ch 19 (di l.length),ch 20 (di (0:Nat))] (Pt b)) (((length (map vTk [tk]):Int)==0)=false/\iz 0<=0/\Q (some (vTk tk))/\Q (AC l)/\di (length (map vPr l):Int)=di (l.length:Int)/\di 0=di (↑0:Int)/\okH 3 [] (Am6 b)=true/\Q (Am6 b)/\I0 Dq (length (σA b).H) (Azn []) (D7 b' ys) Amd (mkE 71 [(0,AC l),(Ap5 tk),(2,Ey m r ms),(6,D.v (Azo (Azh [vi tk.place,vi tk.low,vi tk.high]))),(18,AC l),(Apt l.length),(20,di (↑0:Int))]) (Pt b)) ?_
  exact⟨rfl,HV _,rfl,rfl,by rw[H3],rfl,rfl,rfl,⟨r3⟩⟩
def Afz(b:Bool):List Val->St
 |[]=>σA b
 |x::xs=>G5 b (x::xs)
theorem PD{b:Bool}{xs:List Val}(h:xs≠ []):Afz b xs=G5 b xs:=by
 cases xs with
 |nil=>exact absurd rfl h
 |cons x xs=>rfl
def XD:List Tk->List (Int×Int)->List (List (Int×Int))
 |[],l=>[l]
 |tk::ts,l=>(RX tk l l.length).flatMap (XD ts)
theorem RU(tk:Tk)(l:List (Int×Int)):XD [tk] l=RX tk l l.length:=by simp[XD]
theorem Aec(m:Mod)(t:Typ)(hm:Fx m t)(r:Rul)(ms l:List (Int×Int))(hl:l.length<=50)(hms:ms.length<=50)(ts:List Tk)(ht:ts.length<=1)(b:Bool)(ys:List Val)(b':Bool)(hY:ys=(XD ts l).map fun x=>Ca r.to (x++ms))(hB:b'=(b&&ys.all (Aj t))):Aa PP 233 [AC l,.v (AD ts),Ey m r ms] (σA b) (.tup []) (Afz b' ys):=by
 match ts,ht with
 |[],_=>
  have h:=Aed m t hm r ms l hl hms b
  rw[hB,hY]
  have e:(XD [] l).map (fun x=>Ca r.to (x++ms))=[Ca r.to (l++ms)]:=rfl
  rw[e,all_cons,List.all_nil,Bool.and_true]
  exact h
 |[tk],_=>
  rw[RU] at hY
  have h3:=Ahg m t hm r ms l hl hms tk b ys b' hY hB
  by_cases hy:ys=[]
  ·rw[hy] at h3⊢;exact h3
  ·rw[PD hy]
   rw[PE hy] at h3
   refine KN (σ:=σA b) (fun i=>if i<2 then i else i+1) (show 2<=3 by decide) (fun i hi=>HP hi) (fun i j _ _ h=>?_) (fun i hi=>?_) (fun i cs hi=>?_) rfl h3
   ·have h:(if i<2 then i else i+1)=(if j<2 then j else j+1):=h
    split at h<;>split at h<;>omega
   ·have hi:i<3:=hi
    show(if i<2 then i else i+1)<4
    split<;>omega
   ·match i,hi with
    |0,hi=>have hi:=HT (HT (hi:some (some _)=some (some cs)));subst hi;exact⟨rfl,rfl⟩
    |1,hi=>have hi:=HT (HT (hi:some (some _)=some (some cs)));subst hi;exact⟨rfl,rfl⟩
    |2,hi=>have hi:=HT (HT (hi:some (some _)=some (some cs)));subst hi;exact⟨by rw[AV (A3 _)];rfl,Ai _ _ _⟩
    |i+3,hi=>simp at hi
noncomputable abbrev Hd:Func:= Tryz.f198
noncomputable def Pi:Code:=Hd.body.getD .skip
def AhH(a b:Val):Bool:=Au a b==0
def Aci(l:List Val):List Val:=AG AhH (sortV l)
theorem YE(l:List Val):(Aci l).length<=l.length:=by
 have:=L7 AhH (sortV l)
 rwa[(AH l).length_eq] at this
theorem QE{l:List Val}{v:Val}(h:v∈Aci l):v∈l:=(AH l).mem_iff.1 (Qs h)
theorem Qw:∀(ts:List Tk) (l:List (Int×Int)) {x:List (Int×Int)},x∈XD ts l->x.length<=l.length
 |[],l,x,h=>by rw[XD,HK] at h;rw[h];exact HB _
 |tk::ts,l,x,h=>by
  rw[XD] at h
  obtain⟨y,hy,h⟩:=List.mem_flatMap.1 h
  exact Iz (Qw ts y h) (Aef hy)
theorem RV{ts:List Tk}(ht:ts.length<=1){l:List (Int×Int)}(hl:l.length<=50):(XD ts l).length<=50:=by
 match ts,ht with
 |[],_=>show 1<=50;decide
 |[tk],_=>rw[RU];have:=RW tk l l.length;omega
def tmR(t:Typ)(ys:List Val):List Val×Int:=if ys.all (Aj t)=true then(Aci ys,0) else([],1)
theorem Ze(m:Mod)(t:Typ)(hm:TmM m t)(i:Nat)(r:Rul)(hi:m.rules[i]?=some r)(c:Val)(hs:c.size<=1000)(hv:Aj t c=false):Aa PP 198 [Ag m,di i,dV c] σ0 (.tup [dVs [],di 17]) σ0:=by
 have hil:=(H7.1 hi).1
 have hval:=hm.int.valid c (by omega)
 rw[hv] at hval
 refine sv Hd 77 [3,5] (.c (di 0)<|.k<|.f<|.f<|.f<|.c (db false) .r) (Ak1 m/\(m.kind !=5)=false/\decide ((i:Int)<0)=false/\decide ((i:Int)>=(length (Aps m.rules):Int))=false/\F0 118 [Ag m,dV c] (db false)/\Azn [D.v (Azf []),di 17]=Azn [dVs [],di 17]) ?_
 exact⟨hm.chk,by rw[hm.kind];rfl,H8 (by omega),H8 (by rw[H3];omega),hval,rfl⟩
theorem UU(m:Mod)(t:Typ)(hm:TmM m t)(i:Nat)(r:Rul)(hi:m.rules[i]?=some r)(c:Val)(hs:c.size<=1000)(hv:Aj t c=true)(s0:Val)(h0:c.kids[0]?=some s0)(hf:s0.n≠r.frm):Aa PP 198 [Ag m,di i,dV c] σ0 (.tup [dVs [],di 0]) σ0:=by
 have hil:=(H7.1 hi).1
 have hval:=hm.int.valid c (by omega)
 rw[hv] at hval
 refine sv Hd 77 [3,5] (.c (di 0)<|.k<|.f<|.f<|.f<|.c (db true)<|.x (Ak r)<|.h (.xs (Af s0))<|.t .r) (Ak1 m/\(m.kind !=5)=false/\decide ((i:Int)<0)=false/\decide ((i:Int)>=(length (Aps m.rules):Int))=false/\Am8 m c/\0<=(i:Int)/\(Aps m.rules)[Int.toNat (i:Int)]?=some (Ak r)/\Q 2/\iz 0<=0/\(Alj c.kids)[Int.toNat 0]?=some (Af s0)/\(True/\True)/\(s0.n !=r.frm)=true/\Azn [D.v (Azf []),di 0]=Azn [dVs [],di 0]) ?_
 exact⟨hm.chk,by rw[hm.kind];rfl,H8 (by omega),H8 (by rw[H3];omega),hval,by omega,Aq hi,rfl,HV _,As (i:=0) h0,⟨trivial,trivial⟩,bne_iff_ne.2 hf,rfl⟩
abbrev rC(r:Rul):List D:=[.v (.str r.name),di r.frm,di r.to,dIs r.need,dIs r.give,dIs r.move,di r.chan,di r.act,di r.letter,dIs r.path,dIs r.next,.v (AD r.takes),dIs r.makes,di r.second]
abbrev mkP(l:List Int):List (Int×Int):=l.map fun p=>(p,0)
abbrev owM(ms:List Int):List (Nat×Nat×List V):=[(1,2,(mkP ms).map vPr)]
abbrev AeA(r:Rul)(l:List Int):St:=⟨[some (rC r),some [.acc 1 ((mkP l).map vPr)]],owM l⟩
abbrev SB(b:Bool)(xs:List Val)(n:Nat)(ms:List Int):St:=⟨[none,none,some [.gro 4 n 2],some [db b],some (Ab (xs.map eV))],owM ms⟩
abbrev Af2(n:Nat)(zs:List Val)(R:List D)(ms:List Int):St:=⟨[none,none,some [.gro 4 n 2],some [db true],some (Ab (zs.map eV)++R)],owM ms⟩
abbrev Ajh(n:Nat)(ms:List Int):St:=⟨[none,none,some [.gro 4 n 2],some [db true],none],owM ms⟩
abbrev Zg(b:Bool)(ms:List Int):St:=⟨[none,none,some [.v .nils],some [db b]],owM ms⟩
abbrev Pw(m:Mod)(r:Rul):D:=.dfn 235 [] [.v (.ref (A8 m)),.v (.ref (Ak r)),.v (.ref (Cb (mkP r.makes))),.ptr 2 0,.ptr 3 0]
theorem Ae5(F:FuncId):Aa PP 231 [dl [],dfn F] σ0 (dl []) σ0:=by
 refine sv Xh 66 [] (.t .r) (decide ((nV.length:Int)<2)=true/\D.v (Azf [])=dl []) ?_
 exact⟨by decide,rfl⟩
noncomputable abbrev Ail:Func:= Tryz.f238
theorem UV(x y:Val)(hx:x.size<=1000):Aa PP 238 [dV x,dV y] σ0 (db (Au x y==0)) σ0:=by
 refine sv Ail 9 [2,3] (.c (di (Au x y)) .r) (F0 25 [dV x,dV y] (di (Au x y))/\Q (db (Au x y==0))) ?_
 exact⟨Ju _ x y (HB _) (by omega),rfl⟩
theorem Acu(m:Mod)(r:Rul)(ps:List (Int×Int)){b b':Bool}{o:Oper}{c:Call}{fo:Operand}(ho:o.op=.call c)(hc:c.callee=.value fo)
  (h:Aa PP 233 [AC ps,.v (AD r.takes),Ey m r (mkP r.makes)] (σA b) (.tup []) (Afz b' [])):
  Ah PP o [.v (.fn 233 [] []),AC ps,.v (AD r.takes),Pw m r] (Zg b r.makes) (.tup []) (Zg b' r.makes):=
 CT (σ:=Zg b r.makes) ho hc (fD:=.v (.fn 233 [] [])) (fs:=[]) (cs:=[]) (ds:=[AC ps,.v (AD r.takes),Pw m r]) rfl [2,3] id h
  (B7 rfl rfl) (.cons rfl (B7 rfl rfl) rfl (.cons rfl (B7 rfl rfl) rfl .nil)) (by decide) rfl (by simp[Afz]) (by simp[Afz]) rfl rfl
theorem Acv(m:Mod)(r:Rul)(ps:List (Int×Int)){b b':Bool}{ys:List Val}{o:Oper}{c:Call}{fo:Operand}(ho:o.op=.call c)(hc:c.callee=.value fo)
  (h:Aa PP 233 [AC ps,.v (AD r.takes),Ey m r (mkP r.makes)] (σA b) (.tup []) (G5 b' ys)):
  Ah PP o [.v (.fn 233 [] []),AC ps,.v (AD r.takes),Pw m r] (Zg b r.makes) (.tup []) (SB b' ys ys.length r.makes):=by
 have h2:=CT (σ:=Zg b r.makes) ho hc (fD:=.v (.fn 233 [] [])) (fs:=[]) (cs:=[]) (ds:=[AC ps,.v (AD r.takes),Pw m r]) rfl [2,3] id h
  (B7 rfl rfl) (.cons rfl (B7 rfl rfl) rfl (.cons rfl (B7 rfl rfl) rfl .nil)) (by decide) rfl (by simp) (by simp) rfl (by simp[okH,D.okNs,D.okN,Ai])
 have e:Gi (rho 4 [2,3]) id (G5 b' ys).H=[some [.gro 4 ys.length 2],some [db b'],some (Ab (ys.map eV))]:=by
  show [some _,some _,some (D.rens _ _ (Ab (ys.map eV)))]=_
  rw[AV (A3 _)];rfl
 have h2:Ah PP o _ _ _ ⟨CM _ _ (Gi (rho 4 [2,3]) id (G5 b' ys).H),_⟩:=h2
 rw[e] at h2
 exact h2
theorem AfM(ys:List Val)(hl:ys.length<=1000)(hs:∀v∈ys,v.size<=1000000)(ms:List Int){o:Oper}{c:Call}{fo:Operand}(ho:o.op=.call c)(hc:c.callee=.value fo):
  Ah PP o [.v (.fn 24 [] []),.arr 4 0 ys.length,dfn 25] (SB true ys ys.length ms) (.tup []) (SB true (sortV ys) ys.length ms):=by
 have h2:=CT (σ:=SB true ys ys.length ms) ho hc (fD:=.v (.fn 24 [] [])) (fs:=[]) (cs:=[]) (ds:=[.arr 4 0 ys.length,dfn 25]) rfl [4] id (FV ys (by omega) hs)
  (B7 rfl rfl) (.cons rfl (B7 (Ai _ _ _) (AV (A3 _)).symm) (ET _) .nil) (by decide) rfl (by simp) (by simp) rfl (by simp[okH,D.okNs,D.okN,Ai])
 have e:Gi (rho 5 [4]) id [some (Ab ((sortV ys).map eV))]=[some (Ab ((sortV ys).map eV))]:=by
  show [some (D.rens _ _ _)]=_
  rw[AV (A3 _)]
 have h2:Ah PP o _ _ _ ⟨CM _ _ (Gi (rho 5 [4]) id [some (Ab ((sortV ys).map eV))]),_⟩:=h2
 rw[e] at h2
 exact h2
theorem AfP(xs zs:List Val)(n:Nat)(R:List D)(ms:List Int)(hR:D.pls R=true)(hn:xs.length=n){F:FuncId}{o:Oper}{c:Call}{fo:Operand}(ho:o.op=.call c)(hc:c.callee=.value fo)
  (h:Aa PP 231 [.arr 0 0 xs.length,dfn F] ⟨[some (Ab (xs.map eV))],[]⟩ (.arr 0 0 zs.length) ⟨[some (Ab (zs.map eV)++R)],[]⟩):
  Ah PP o [.v (.fn 231 [] []),.arr 4 0 n,dfn F] (SB true xs n ms) (.arr 4 0 zs.length) (Af2 n zs R ms):=by
 subst hn
 have h2:=CT (σ:=SB true xs xs.length ms) ho hc (fD:=.v (.fn 231 [] [])) (fs:=[]) (cs:=[]) (ds:=[.arr 4 0 xs.length,dfn F]) rfl [4] id h
  (B7 rfl rfl) (.cons rfl (B7 (Ai _ _ _) (AV (A3 _)).symm) (ET _) .nil) (by decide) rfl (by simp) (by simp) rfl (HM.2 ⟨AO (Q4 _ hR),rfl⟩)
 have e:Gi (rho 5 [4]) id [some (Ab (zs.map eV)++R)]=[some (Ab (zs.map eV)++R)]:=by
  show [some (D.rens _ _ _)]=_
  rw[AV (Q4 _ hR)]
 have h2:Ah PP o _ _ _ ⟨CM _ _ (Gi (rho 5 [4]) id [some (Ab (zs.map eV)++R)]),_⟩:=h2
 rw[e] at h2
 exact h2
noncomputable abbrev Alh:=(Oper.mk (some 69) (Op.makeFunc (Fn.func 235) #[] #[Operand.tmp 3,Operand.tmp 9,Operand.tmp 10,Operand.tmp 13,Operand.tmp 14]) 248 "timed.go:83" #[] none)
noncomputable abbrev Am3:=(Oper.mk (some 67) (Op.fieldAddr 91 (Operand.tmp 9) 11) 0 "timed.go:83" #[] none)
noncomputable abbrev Am5:=fun a₀ b₀ c₀=>[D.v (Amc a₀),D.v (Azo (Ak b₀)),D.v (Azo (Azf (map vPr (mkP c₀)))),Azb 2 0,Azb 3 0]
noncomputable abbrev Amo:=(Oper.mk (some 68) (Op.load 89 (Operand.tmp 67)) 89 "timed.go:83" #[Edge.mk 2 Ground.data] none)
noncomputable abbrev Anr:=fun a₀=>(Azd [none,none,some [dn],some [db true]] [(1,2,map vPr (mkP a₀))])
noncomputable abbrev An2:=fun a₀ b₀ c₀ d₀=>[D.v (Azl 233 [] []),AC a₀,D.v (AD b₀),Pw c₀ d₀]
noncomputable abbrev Aqg:=fun a₀ b₀=>F0 234 [dV a₀] (AC b₀)
theorem UT(m:Mod)(t:Typ)(hm:TmM m t)(r:Rul)(hmk:r.makes.length<=50)(htl:r.takes.length<=1)(c:Val)(ps:List (Int×Int))(hps:ps.length<=50)(htk:Aa PP 234 [dV c] σ0 (AC ps) σ0)(ys:List Val)(hY:ys=(XD r.takes ps).map fun x=>Ca r.to (x++mkP r.makes))(p:List Val×Int)(hp:p=tmR t ys):
  ∀(n k:Nat),r.makes.length-k=n->Rn PP Hd 0 (.tup [dVs p.1,di p.2]) σ0 ([.lp (sub Pi [1,1,1,1,1,1,0,1,0,0]),.blk 1,.code (sub Pi [1,1,1,1,1,1,1])]++[]) (mkE 77 [(3,.v (.ref (A8 m))),(5,.v (.ref (Af c))),(9,.ptr 0 0),(10,.ptr 1 0),(53,dIs r.makes),(54,di r.makes.length),(55,di k)]) (AeA r (r.makes.take k)):=by
 suffices hz:∀(k:Nat),r.makes.length-k=0->Rn PP Hd 0 (.tup [dVs p.1,di p.2]) σ0 ([.lp (sub Pi [1,1,1,1,1,1,0,1,0,0]),.blk 1,.code (sub Pi [1,1,1,1,1,1,1])]++[]) (mkE 77 [(3,.v (.ref (A8 m))),(5,.v (.ref (Af c))),(9,.ptr 0 0),(10,.ptr 1 0),(53,dIs r.makes),(54,di r.makes.length),(55,di k)]) (AeA r r.makes) by
  intro n
  induction n with
  |zero=>
   intro k hn
   have:=hz k hn
   rw[HW (by omega)];exact this
  |succ n ih=>
   intro k hn
   obtain⟨x,hx⟩:∃x,r.makes[k]?=some x:=⟨_,H4 (show k<r.makes.length by omega)⟩
   have hr:=ih (k+1) (by omega)
   have e:(mkP (r.makes.take k)).map vPr++[V.agg [vi x,vi 0]]=(mkP (r.makes.take (k+1))).map vPr:=by
    rw[IF,hx];simp
   refine lv 77 [3,5] (.t<|.x (vi x)<|.lo [ke 3,ke 5,ke 9,ke 10,ke 53,ke 54,ch 55 (di (k+1:Nat))] (AeA r (r.makes.take (k+1)))) (decide ((k:Int)<(r.makes.length:Int))=true/\0<=(k:Int)/\(Anw r.makes)[Int.toNat (k:Int)]?=some (vi x)/\Q (map vPr (mkP (take k r.makes)))/\Ar (length (map vPr (mkP (take k r.makes)))+length (Azh (vi x::V.int i64 0::nV)::nV)) 16/\di (wrap i64 ((k:Int)+1))=di (↑(k+1):Int)/\okH 2 [1] [some (rC r),some [Azc 1 (map vPr (mkP (take k r.makes))++[Azh [vi x,vi 0]])]]=true/\[some (rC r),some [Azc 1 (map vPr (mkP (take k r.makes))++Azh (vi x::vi 0::nV)::nV)]]=[some (rC r),some [Azc 1 (map vPr (mkP (take (k+1) r.makes)))]]/\[(1,2,map vPr (mkP (take k r.makes))++Azh (vi x::vi 0::nV)::nV)]=[(1,2,map vPr (mkP (take (k+1) r.makes)))]/\I0 Hd 0 (Azn [dVs p.fst,di p.snd]) σ0 [kl Pi [1,1,1,1,1,1,0,1,0,0],Aza 1,kc Pi [1,1,1,1,1,1,1]] (mkE 77 [(3,D.v (Amc m)),(5,D.v (Apv c)),(9,Azb 0 0),(10,Azb 1 0),(53,dIs r.makes),(54,di (r.makes.length:Int)),(55,di (↑(k+1):Int))]) (AeA r (take (k+1) r.makes))) ?_
   rw[e]
   exact⟨H6 (by omega),by omega,by rw[IB,Ik,hx];rfl,rfl,⟨by simp only[H3,HY,H9,HD];omega,by simp only[H3,HY,H9,HD];omega⟩,Ad (by omega),rfl,rfl,rfl,⟨hr⟩⟩
 have h1:ys.length<=50:=by rw[hY,H3];exact RV htl hps
 have h2:∀v∈ys,v.size<=1000:=fun v hv=>by
  rw[hY] at hv
  obtain⟨x,hx,rfl⟩:=Il.1 hv
  have:=Qw _ _ hx
  have:=LC r.to (x++mkP r.makes) (by rw[HI,H3];omega)
  omega
 have h3:=Aec m t hm.int r (mkP r.makes) ps hps (by rw[H3];exact hmk) r.takes htl true ys (ys.all (Aj t)) hY rfl
 unfold tmR at hp
 clear hY
 intro k hn
 cases hb:ys.all (Aj t) with
 |false=>
  rw[hb] at h3 hp
  rw[HL (by decide)] at hp
  subst hp
  clear hb
  show Rn PP Hd 0 (.tup [dVs [],di 1]) σ0 _ _ _
  by_cases hy:ys=[]
  ·subst hy
   refine lv 77 [3,5] (.f<|.h (.q 20 0)<|.h (.fa 0 [9])<|.h (.f1 1 [10])<|.c (AC ps)<|.h (.p (.v (.ref (AD r.takes))))<|.h (.p (.v (AD r.takes)))<|.h (.p (Pw m r))<|.h (.oc (.tup []) (Zg false r.makes))<|.k<|.r) (decide ((k:Int)<(r.makes.length:Int))=false/\Aqg c ps/\(∀(τ:St),Ah PP Am3 [D.v (Azo (Ak r))] τ (D.v (Azo (AD r.takes))) τ)/\(∀(τ:St),Ah PP Amo [D.v (Azo (AD r.takes))] τ (D.v (AD r.takes)) τ)/\(∀(τ:St),Ah PP Alh (Am5 m r r.makes) τ (Pw m r) τ)/\(N0 (An2 ps r.takes m r) (Anr r.makes) (Azn []) (Zg false r.makes))/\Azn [D.v (Azf []),di 1]=Azn [dVs [],di 1]) ?_
   exact⟨H8 (by omega),htk,fun τ=>EJ rfl (fo:=11) (n:=1) (b:=false) (by kernel_rfl) (by decide) (fun _=>rfl) rfl,fun τ=>EI rfl (by unfold NK;kernel_rfl) rfl,fun τ=>E7 rfl rfl,fun o cl fo ho hc=>Acu m r ps ho hc h3,rfl⟩
  ·rw[PD hy] at h3
   refine lv 77 [3,5] (.f<|.h (.q 20 0)<|.h (.fa 0 [9])<|.h (.f1 1 [10])<|.c (AC ps)<|.h (.p (.v (.ref (AD r.takes))))<|.h (.p (.v (AD r.takes)))<|.h (.p (Pw m r))<|.h (.oc (.tup []) (SB false ys ys.length r.makes))<|.k<|.r) (decide ((k:Int)<(r.makes.length:Int))=false/\Aqg c ps/\(∀(τ:St),Ah PP Am3 [D.v (Azo (Ak r))] τ (D.v (Azo (AD r.takes))) τ)/\(∀(τ:St),Ah PP Amo [D.v (Azo (AD r.takes))] τ (D.v (AD r.takes)) τ)/\(∀(τ:St),Ah PP Alh (Am5 m r r.makes) τ (Pw m r) τ)/\(N0 (An2 ps r.takes m r) (Anr r.makes) (Azn []) (SB false ys ys.length r.makes))/\Azn [D.v (Azf []),di 1]=Azn [dVs [],di 1]) ?_
   exact⟨H8 (by omega),htk,fun τ=>EJ rfl (fo:=11) (n:=1) (b:=false) (by kernel_rfl) (by decide) (fun _=>rfl) rfl,fun τ=>EI rfl (by unfold NK;kernel_rfl) rfl,fun τ=>E7 rfl rfl,fun o cl fo ho hc=>Acv m r ps ho hc h3,rfl⟩
 |true=>
  rw[hb] at h3 hp
  rw[HP rfl] at hp
  subst hp
  clear hb
  by_cases hy:ys=[]
  ·subst hy
   rw[show Aci []=[] by simp[Aci,sortV,AG]]
   show Rn PP Hd 0 (.tup [dVs [],di 0]) σ0 _ _ _
   refine lv 77 [3,5] (.f<|.h (.q 20 0)<|.h (.fa 0 [9])<|.h (.f1 1 [10])<|.c (AC ps)<|.h (.p (.v (.ref (AD r.takes))))<|.h (.p (.v (AD r.takes)))<|.h (.p (Pw m r))<|.h (.oc (.tup []) (Zg true r.makes))<|.k<|.c (.tup [])<|.c (dl []) .r) (decide ((k:Int)<(r.makes.length:Int))=false/\Aqg c ps/\(∀(τ:St),Ah PP Am3 [D.v (Azo (Ak r))] τ (D.v (Azo (AD r.takes))) τ)/\(∀(τ:St),Ah PP Amo [D.v (Azo (AD r.takes))] τ (D.v (AD r.takes)) τ)/\(∀(τ:St),Ah PP Alh (Am5 m r r.makes) τ (Pw m r) τ)/\(N0 (An2 ps r.takes m r) (Anr r.makes) (Azn []) (Zg true r.makes))/\Anb/\F0 231 [D.v (Azf []),D.v (Azl 238 [] [])] (dl [])/\Azn [D.v (Azf []),di 0]=Azn [dVs [],di 0]) ?_
   exact⟨H8 (by omega),htk,fun τ=>EJ rfl (fo:=11) (n:=1) (b:=false) (by kernel_rfl) (by decide) (fun _=>rfl) rfl,fun τ=>EI rfl (by unfold NK;kernel_rfl) rfl,fun τ=>E7 rfl rfl,fun o cl fo ho hc=>Acu m r ps ho hc h3,KP,Ae5 _,rfl⟩
  ·rw[PD hy] at h3
   obtain⟨R,c3,_,c4⟩:=Ah5 238 (sortV ys) AhH (by rw[(AH ys).length_eq];omega) (fun x hx y hy=>UV x y (h2 x ((AH ys).mem_iff.1 hx)))
   rw[show AG AhH (sortV ys)=Aci ys from rfl] at c4
   generalize Aci ys=zs at c4⊢
   show Rn PP Hd 0 (.tup [dVs zs,di 0]) σ0 _ _ _
   refine lv 77 [3,5] (.f<|.h (.q 20 0)<|.h (.fa 0 [9])<|.h (.f1 1 [10])<|.c (AC ps)<|.h (.p (.v (.ref (AD r.takes))))<|.h (.p (.v (AD r.takes)))<|.h (.p (Pw m r))<|.h (.oc (.tup []) (SB true ys ys.length r.makes))<|.k<|.h (.q 24 1)<|.h (.ga 73)<|.h (.oc (.tup []) (SB true (sortV ys) ys.length r.makes))<|.h (.q 25 1)<|.h (.ga 75)<|.h (.oc (.arr 4 0 zs.length) (Af2 ys.length zs R r.makes))<|.h (.q 25 2)<|.h (.ct 76 (dVs zs) (Ajh ys.length r.makes)) .r) (decide ((k:Int)<(r.makes.length:Int))=false/\Aqg c ps/\(∀(τ:St),Ah PP Am3 [D.v (Azo (Ak r))] τ (D.v (Azo (AD r.takes))) τ)/\(∀(τ:St),Ah PP Amo [D.v (Azo (AD r.takes))] τ (D.v (AD r.takes)) τ)/\(∀(τ:St),Ah PP Alh (Am5 m r r.makes) τ (Pw m r) τ)/\(N0 (An2 ps r.takes m r) (Anr r.makes) (Azn []) (SB true ys ys.length r.makes))/\(N0 [D.v Am1,Azi 4 0 ys.length,D.v Alv] (Azd [none,none,some [Azm 4 ys.length 2],some [db true],some (Akr ys)] (owM r.makes)) (Azn []) (SB true (sortV ys) ys.length r.makes))/\(N0 [D.v (Azl 231 [] []),Azi 4 0 ys.length,D.v (Azl 238 [] [])] (SB true (sortV ys) ys.length r.makes) (Azi 4 0 zs.length) (Af2 ys.length zs R r.makes))/\(∀(e:List D),e[76]?=some (Azi 4 0 zs.length)->∀(E:Ent) (g:Gh) (a:Act) (w:World),FI E g (Af2 ys.length zs R r.makes) e a w->∃g',FI E g' (Ajh ys.length r.makes) (List.set e 76 (dVs zs)) a w)/\Azn [dVs zs,di 0]=Azn [dVs zs,di 0]) ?_
   exact⟨H8 (by omega),htk,fun τ=>EJ rfl (fo:=11) (n:=1) (b:=false) (by kernel_rfl) (by decide) (fun _=>rfl) rfl,fun τ=>EI rfl (by unfold NK;kernel_rfl) rfl,fun τ=>E7 rfl rfl,fun o cl fo ho hc=>Acv m r ps ho hc h3,fun o cl fo ho hc=>AfM ys (by omega) (fun v hv=>by have:=h2 v hv;omega) r.makes ho hc,fun o cl fo ho hc=>AfP (sortV ys) zs ys.length R r.makes c3 (AH ys).length_eq ho hc c4,fun e he=>Qp (σ:=Af2 ys.length zs R r.makes) (q:=4) (sz:=2) (by decide) (C7 _) (by rw[H3]) rfl he,rfl⟩
def YY(r:Rul)(c:Val):List Val:=(XD r.takes (Gm (c.kids.getD 1 z00))).map fun x=>Ca r.to (x++mkP r.makes)
def S9(t:Typ)(r:Rul)(c:Val):List Val×Int:=if Aj t c=true then(if (c.kids.getD 0 z00).n=r.frm then tmR t (YY r c) else([],0)) else([],17)
theorem UN{r:Rul}{c:Val}(hc:TmC c)(hr:r.takes.length<=1/\r.makes.length<=1):(YY r c).length<=50/\∀v∈YY r c,v.size<=1000:=by
 obtain⟨b,hb⟩:∃x,c.kids[1]?=some x:=⟨_,H4 (by rw[hc.len];omega)⟩
 have hb12:=hc.few b hb
 have e1:c.kids.getD 1 z00=b:=by rw[HC,hb];rfl
 have hpl:=ML b
 rw[YY,e1]
 refine⟨by rw[H3];exact RV hr.1 (by omega),fun v hv=>?_⟩
 obtain⟨x,hx,rfl⟩:=Il.1 hv
 have:=Qw _ _ hx
 have:=LC r.to (x++mkP r.makes) (by rw[HI,H3];omega)
 omega
theorem UO{t:Typ}{r:Rul}{c:Val}(hc:Aj t c=true->TmC c)(hr:r.takes.length<=1/\r.makes.length<=1):(S9 t r c).1.length<=50/\∀v∈ (S9 t r c).1,v.size<=1000:=by
 unfold S9 tmR
 split
 ·rename_i hv
  obtain⟨h1,h2⟩:=UN (hc hv) hr
  have:=YE (YY r c)
  split
  ·split
   ·exact⟨by show(Aci (YY r c)).length<=50;omega,fun v hv=>h2 v (QE hv)⟩
   ·exact⟨by simp,by simp⟩
  ·exact⟨by simp,by simp⟩
 ·exact⟨by simp,by simp⟩
theorem US(m:Mod)(t:Typ)(hm:TmM m t)(i:Nat)(r:Rul)(hi:m.rules[i]?=some r)(c:Val)(hs:c.size<=1000):Aa PP 198 [Ag m,di i,dV c] σ0 (.tup [dVs (S9 t r c).1,di (S9 t r c).2]) σ0:=by
 have hir:=(H7.1 hi).1
 have hfew:=hm.few
 unfold S9
 cases hv:Aj t c with
 |false=>rw[HL (by decide)];exact Ze m t hm i r hi c hs hv
 |true=>
  rw[HP rfl]
  have hsh:=hm.shape c hv
  obtain⟨s0,h0⟩:∃x,c.kids[0]?=some x:=⟨_,H4 (by rw[hsh.len];omega)⟩
  obtain⟨b,hb⟩:∃x,c.kids[1]?=some x:=⟨_,H4 (by rw[hsh.len];omega)⟩
  have e0:c.kids.getD 0 z00=s0:=by rw[HC,h0];rfl
  have e1:c.kids.getD 1 z00=b:=by rw[HC,hb];rfl
  rw[e0]
  by_cases hf:s0.n=r.frm
  ·rw[HP hf]
   have hb12:=hsh.few b hb
   have hru:=hm.rule r (HA hi)
   have hpl:=ML b
   have ht:=QL c b hb (by omega) (Gm b) hpl (VN b fun v hv=>hsh.toks b v hb hv)
   have p3:=UT m t hm r (by omega) hru.1 c (Gm b) (by omega) ht (YY r c) (by rw[YY,e1]) _ rfl
   generalize tmR t (YY r c)=p at p3⊢
   have hil:=hir
   have hval:=hm.int.valid c (by omega)
   rw[hv] at hval
   refine sv Hd 77 [3,5] (.c (di 0)<|.k<|.f<|.f<|.f<|.c (db true)<|.x (Ak r)<|.h (.xs (Af s0))<|.f<|.h (.q 14 0)<|.h (.cl 1 0 1 2)<|.lo [ke 3,ke 5,ke 9,ke 10,ch 53 (dIs r.makes),ch 54 (di r.makes.length),ch 55 (di (0:Nat))] (AeA r [])) (Ak1 m/\(m.kind !=5)=false/\decide ((i:Int)<0)=false/\decide ((i:Int)>=(length (Aps m.rules):Int))=false/\Am8 m c/\0<=(i:Int)/\(Aps m.rules)[Int.toNat (i:Int)]?=some (Ak r)/\Q 2/\iz 0<=0/\(Alj c.kids)[Int.toNat 0]?=some (Af s0)/\(True/\True)/\(s0.n !=r.frm)=false/\dIs r.makes=dIs r.makes/\di (length (Anw r.makes):Int)=di (r.makes.length:Int)/\di 0=di (↑0:Int)/\okH 2 [1] [some [D.v (Azg r.name),di r.frm,di r.to,dIs r.need,dIs r.give,dIs r.move,di r.chan,di r.act,di r.letter,dIs r.path,dIs r.next,D.v (AD r.takes),dIs r.makes,di r.second],some [Azc 1 []]]=true/\[some [D.v (Azg r.name),di r.frm,di r.to,dIs r.need,dIs r.give,dIs r.move,di r.chan,di r.act,di r.letter,dIs r.path,dIs r.next,D.v (AD r.takes),dIs r.makes,di r.second],some [Azc 1 nV]]=[some (rC r),some [Azc 1 nV]]/\Q [(1,2,nV)]/\I0 Hd σ0.H.length (Azn [dVs p.fst,di p.snd]) σ0 [kl Pi [1,1,1,1,1,1,0,1,0,0],Aza 1,kc Pi [1,1,1,1,1,1,1]] (mkE 77 [(3,D.v (Amc m)),(5,D.v (Apv c)),(9,Azb 0 0),(10,Azb 1 0),(53,dIs r.makes),(54,di (r.makes.length:Int)),(55,di (↑0:Int))]) (AeA r [])) ?_
   exact⟨hm.chk,by rw[hm.kind];rfl,H8 (by omega),H8 (by rw[H3];omega),hval,by omega,Aq hi,rfl,HV _,As (i:=0) h0,⟨trivial,trivial⟩,by rw[hf];exact bne_self_eq_false _,rfl,by rw[H3],rfl,rfl,rfl,rfl,⟨p3 _ 0 rfl⟩⟩
  ·rw[HL hf]
   exact UU m t hm i r hi c hs hv s0 h0 hf
theorem XZ{ap:Int->List Val×Int}{Q:Stp->Prop}(hq:∀i,∀v∈ (ap i).1,Q (i,v)):∀(n:Nat) (i:Int) (acc:List Stp),(∀s∈acc,Q s)->(D9 ap n i acc).1.length<=256/\∀s∈ (D9 ap n i acc).1,Q s
 |0,i,acc,ha=>by
  rw[D9]
  split
  ·exact⟨by simp,by simp⟩
  ·rename_i h
   exact⟨by have:=Im (HG h);show acc.length<=256;omega,ha⟩
 |n+1,i,acc,ha=>by
  rw[D9]
  split
  ·exact⟨by simp,by simp⟩
  ·exact XZ hq n (i+1) (acc++(ap i).1.map fun v=>(i,v)) (fun s hs=>by
    rcases Iq.1 hs with hs|hs
    ·exact ha s hs
    ·obtain⟨v,hv,rfl⟩:=Il.1 hs
     exact hq i v hv)
def Aj2(p:List Val×Int):Prop:=p.1.length<=1000/\∀v∈p.1,v.size<=1000
theorem Aap{p:Val×Int}(h:p.1.size<=1000):Aj2 (Cj p):=by
 unfold Cj
 split
 ·exact⟨by simp,by simp⟩
 ·split
  ·exact⟨by simp,by simp⟩
  ·exact⟨by simp,fun v hv=>by rw[HK.1 hv];exact h⟩
structure StM(m:Mod)(t:Typ)(ap:Val->Int->List Val×Int):Prop where
 int:Fx m t
 chk:Aa PP 52 [Ag m] σ0 (di 0) σ0
 kind:m.kind=2∨m.kind=3∨m.kind=5
 few:m.rules.length<=12
 bp:∀c:Val,Aj t c=true->∀i:Int,Aj2 (ap c i)
 beh:∀c:Val,c.size<=1000->Aj t c=true->∀i:Int, -1<=i->i<m.rules.length->Aa PP 143 [Ag m,di i,dV c] σ0 (dLP (ap c i)) σ0
theorem Ajg{m:Mod}{t:Typ}{ap:Val->Int->List Val×Int}(hm:StM m t ap):Aa PP 193 [Ag m] σ0 (di 0) σ0:=by
 refine sv Agn 12 [1] (.c (di 0)<|.k<|.f .r) (Ak1 m/\(m.kind==6)=false/\Q (di 0)) ?_
 exact⟨hm.chk,by rcases hm.kind with h|h|h<;>(rw[h];rfl),rfl⟩
theorem Aia{m:Mod}{t:Typ}{ap:Val->Int->List Val×Int}(hm:StM m t ap)(c:Val)(hs:c.size<=1000):Aa PP 142 [Ag m,dV c] σ0 (di (if Aj t c=true then 0 else 17)) σ0:=by
 have h1:=hm.int.valid c (by omega)
 cases hv:Aj t c with
 |true=>
  rw[hv] at h1
  show Aa PP _ _ _ (di 0) _
  refine sv AdO 15 [2,3] (.c (di 0)<|.c (db true) .r) (F0 193 [Ag m] (di 0)/\Am8 m c/\Q (di 0)) ?_
  exact⟨Ajg hm,h1,rfl⟩
 |false=>
  rw[hv] at h1
  show Aa PP _ _ _ (di 17) _
  refine sv AdO 15 [2,3] (.c (di 0)<|.c (db false) .r) (F0 193 [Ag m] (di 0)/\F0 118 [Ag m,dV c] (db false)/\Q (di 17)) ?_
  exact⟨Ajg hm,h1,rfl⟩
def Oh(m:Mod)(t:Typ)(ap:Val->Int->List Val×Int)(c:Val):List Stp×Int:=if Aj t c=true then D9 (ap c) (m.rules.length+1) (-1) [] else([],17)
theorem Af7{m:Mod}{t:Typ}{ap:Val->Int->List Val×Int}(hm:StM m t ap)(c:Val)(hs:c.size<=1000):((Oh m t ap c).1.length<=256/\∀s∈ (Oh m t ap c).1,s.2.size<=1000)/\Aa PP 92 [Ag m,dV c] σ0 (dSP (Oh m t ap c)) σ0:=by
 have hc:=Aia hm c hs
 unfold Oh
 cases hv:Aj t c with
 |false=>
  rw[hv] at hc
  have hc:Aa PP 142 [Ag m,dV c] σ0 (di 17) σ0:=hc
  rw[HL (by decide)]
  refine⟨⟨by simp,by simp⟩,?_⟩
  refine sv G1 53 [2,3] (.c (di 17) .r) (F0 142 [Ag m,dV c] (di 17)/\Azn [D.v (Azf []),di 17]=dSP ([],17)) ?_
  exact⟨hc,rfl⟩
 |true=>
  rw[hv] at hc
  have hc:Aa PP 142 [Ag m,dV c] σ0 (di 0) σ0:=hc
  rw[HP rfl]
  have hb:=hm.bp c hv
  have hap:=fun i h1 h2=>hm.beh c hs hv i h1 h2
  generalize ap c=ap at hb hap⊢
  refine⟨XZ (ap:=ap) (Q:=fun s=>s.2.size<=1000) (fun i v hv=>(hb i).2 v hv) (m.rules.length+1) (-1) [] (by simp),?_⟩
  refine sv G1 53 [2,3] (.c (di 0)<|.h (.q 5 0)<|.h (.nw 7 1 3)<|.ls [ke 2,ke 3,ke 7,ch 8 (di (-1))] (Wc [])) (F0 142 [Ag m,dV c] (di 0)/\Q (di (-1))/\Q [(1,3,nV)]/\I0 G1 σ0.H.length (dSP (D9 ap (length m.rules+1) (-1) [])) σ0 [kl CL Ak2,Aza 0,kc CL [1,1,1,1]] (mkE 53 [(Aqw m),(Als c),(7,Azc 1 []),(8,di (-1))]) (Wc [])) ?_
  refine⟨hc,rfl,rfl,⟨?_⟩⟩
  exact Og m hm.few c ap (fun i=>(hb i).1) (fun i h1 h2=>hap i h1 h2) (m.rules.length+1) (-1) [] (by omega) (by omega) (by omega) (by simp)
theorem Aj6{m:Mod}{c:Val}(hk:m.kind=2∨m.kind=3){l:List Val}(hl:Aa PP 221 [Ag m,dV c] σ0 (dLP (l,0)) σ0):Aa PP 194 [Ag m,dV c] σ0 (dVs l) σ0:=by
 rcases hk with hk|hk
 ·refine sv AhF 31 [2,3] (.t<|.c (dLP (l,0)) .r) ((m.kind==2)=true/\F0 221 [Ag m,dV c] (dLP (l,0))/\D.v (vVs (l,0).fst)=dVs l) ?_
  exact⟨by rw[hk];rfl,hl,rfl⟩
 ·refine sv AhF 31 [2,3] (.f<|.t<|.c (dLP (l,0)) .r) ((m.kind==2)=false/\(m.kind==3)=true/\F0 221 [Ag m,dV c] (dLP (l,0))/\D.v (vVs (l,0).fst)=dVs l) ?_
  exact⟨by rw[hk];rfl,by rw[hk];rfl,hl,rfl⟩
theorem Aj5{m:Mod}{c:Val}(hk:m.kind=5){v:Val}(hl:Aa PP 222 [Ag m,dV c] σ0 (.tup [dV v,di 0]) σ0):Aa PP 194 [Ag m,dV c] σ0 (dVs [v]) σ0:=by
 refine sv AhF 31 [2,3] (.f<|.f<|.t<|.c (.tup [dV v,di 0]) .r) ((m.kind==2)=false/\(m.kind==3)=false/\(m.kind==5)=true/\F0 222 [Ag m,dV c] (Azn [dV v,di 0])/\D.v (Azf [Azh [vi v.n,vVs v.kids]])=dVs [v]) ?_
 refine⟨by rw[hk];rfl,by rw[hk];rfl,by rw[hk];rfl,hl,?_⟩
 show D.v (.list [Af v])=dVs [v]
 rw[←Bz];rfl
theorem AcJ{m:Mod}{c:Val}{l:List Val}(h:Aa PP 194 [Ag m,dV c] σ0 (dVs l) σ0):Aa PP 143 [Ag m,di (-1),dV c] σ0 (dLP (l,0)) σ0:=by
 refine sv AgP 56 [3,5] (.c (dVs l) .r) (F0 194 [Ag m,dV c] (dVs l)/\Azn [dVs l,di 0]=dLP (l,0)) ?_
 exact⟨h,rfl⟩
theorem Akl{m:Mod}(hk:m.kind=2∨m.kind=3)(i:Nat)(c:Val)(p:Val×Int)(hp:Aa PP 199 [Ag m,di i,dV c] σ0 (dP p) σ0):Aa PP 143 [Ag m,di i,dV c] σ0 (dLP (Cj p)) σ0:=by
 refine sv AgP 56 [3,5] (.f<|.f<|.f<|.f<|.c (dP p)<|.c (dLP (Cj p)) .r) (((i:Int)== -1)=false/\(m.kind==1)=false/\(m.kind==4)=false/\(m.kind==5)=false/\F0 199 [Ag m,di (i:Int),dV c] (dP p)/\F0 195 [dV p.fst,di p.snd] (dLP (Cj p))/\Azn [D.v (vVs (Cj p).fst),di (Cj p).snd]=dLP (Cj p)) ?_
 exact⟨Ii.2 (by omega),by rcases hk with h|h<;>(rw[h];rfl),by rcases hk with h|h<;>(rw[h];rfl),by rcases hk with h|h<;>(rw[h];rfl),hp,NZ p,rfl⟩
theorem Akk{m:Mod}(hk:m.kind=5)(i:Nat)(c:Val)(p:List Val×Int)(hp:Aa PP 198 [Ag m,di i,dV c] σ0 (dLP p) σ0):Aa PP 143 [Ag m,di i,dV c] σ0 (dLP p) σ0:=by
 refine sv AgP 56 [3,5] (.f<|.f<|.f<|.t<|.c (dLP p) .r) (((i:Int)== -1)=false/\(m.kind==1)=false/\(m.kind==4)=false/\(m.kind==5)=true/\F0 198 [Ag m,di (i:Int),dV c] (dLP p)/\Azn [dVs p.fst,di p.snd]=dLP p) ?_
 exact⟨Ii.2 (by omega),by rw[hk];rfl,by rw[hk];rfl,by rw[hk];rfl,hp,rfl⟩
def apC(m:Mod)(t:Typ)(c:Val)(i:Int):List Val×Int:=if i<0 then(sortV (loF m c m.places.length),0) else match m.rules[i.toNat]? with
 |some r=>Cj (TI t r c)
 |none=>([],0)
theorem ChM.st{m:Mod}{t:Typ}(hm:ChM m t)(hr:m.ranks.length<=1000):StM m t (apC m t):=by
 refine⟨hm.int,hm.chk,by rcases hm.kind with h|h<;>simp[h],hm.few.1,fun c hv i=>?_,fun c hs hv i h1 h2=>?_⟩
 ·have hsh:=hm.shape c hv
  have hl:=hsh.len
  have h2:=hm.few.2
  unfold apC
  split
  ·have hlen:=Qd m c m.places.length
   refine⟨by show(sortV _).length<=1000;rw[(AH _).length_eq];omega,fun v hv=>?_⟩
   have:=R9 hsh.size (by omega) ((AH _).mem_iff.1 hv)
   omega
  ·split
   ·rename_i r hr
    have:=hsh.size
    exact Aap (Sa m t hm _ r hr c (by omega)).1
   ·exact⟨by simp,by simp⟩
 ·unfold apC
  by_cases h0:i<0
  ·have:i= -1:=by omega
   subst this
   rw[HP h0]
   exact AcJ (Aj6 hm.kind (Aa6 m t hm hr c hv))
  ·obtain⟨k,rfl⟩:∃k:Nat,i=k:=⟨i.toNat,by omega⟩
   have hk:k<m.rules.length:=by omega
   have hr:m.rules[k]?=some m.rules[k]:=H4 hk
   rw[HL h0,show((k:Nat):Int).toNat=k by omega,hr]
   exact Akl hm.kind k c _ (Sa m t hm k _ hr c hs).2
def XV(m:Mod)(t:Typ)(c:Val)(i:Int):List Val×Int:=if i<0 then([Adl m c],0) else match m.rules[i.toNat]? with
 |some r=>S9 t r c
 |none=>([],0)
theorem TmM.st{m:Mod}{t:Typ}(hm:TmM m t):StM m t (XV m t):=by
 refine⟨hm.int,hm.chk,.inr (.inr hm.kind),hm.few,fun c hv i=>?_,fun c hs hv i h1 h2=>?_⟩
 ·unfold XV
  split
  ·exact⟨by simp,fun y hy=>by rw[HK.1 hy];exact(QM m t hm c hv).1⟩
  ·split
   ·rename_i r hr
    have:=UO (t:=t) (r:=r) (fun _=>hm.shape c hv) (hm.rule r (HA hr))
    exact⟨by omega,this.2⟩
   ·exact⟨by simp,by simp⟩
 ·unfold XV
  by_cases h0:i<0
  ·have:i= -1:=by omega
   subst this
   rw[HP h0]
   exact AcJ (Aj5 hm.kind (QM m t hm c hv).2)
  ·obtain⟨k,rfl⟩:∃k:Nat,i=k:=⟨i.toNat,by omega⟩
   have hk:k<m.rules.length:=by omega
   have hr:m.rules[k]?=some m.rules[k]:=H4 hk
   rw[HL h0,show((k:Nat):Int).toNat=k by omega,hr]
   exact Akk hm.kind k c _ (US m t hm k _ hr c hs)
def chV(s:Int)(ws:List (List Int)):Val:=.mk 0 (lf s::ws.map wdV)
structure ChW(m:Mod)(s:Int)(ws:List (List Int)):Prop where
 st:0<=s/\s<m.states.length
 len:ws.length=m.places.length
 word:∀w∈ws,w.length<=12/\∀x∈w,0<=x/\x<m.letters.length
theorem FA{n:Int}{v:Val}(h:Cd n v=true):v=lf v.n/\0<=v.n/\v.n<n:=by
 simp only[Cd,H5,HE,Ie] at h
 obtain⟨h1,h2,h3⟩:=h
 cases v with
 |mk a ks=>
  have h3:(ks.length:Int)=0:=h3
  have:ks=[]:=IL (by omega)
  subst this
  exact⟨rfl,h1,h2⟩
theorem OI{n x:Int}(h:0<=x/\x<n):Cd n (lf x)=true:=by
 simp only[Cd,Val.n,Val.kids,H5,HE]
 exact⟨H6 h.1,H6 h.2,rfl⟩
theorem OH{n:Int}:∀{ks:List Val},(ks.all fun k=>Cd n k)=true->∃w:List Int,ks=w.map lf/\∀x∈w,0<=x/\x<n
 |[],_=>⟨[],rfl,by simp⟩
 |k::ks,h=>by
  simp only[all_cons,H5] at h
  obtain⟨h1,h2,h3⟩:=FA h.1
  obtain⟨w,e,hw⟩:=OH h.2
  refine⟨k.n::w,?_,fun x hx=>?_⟩
  ·rw[HU, ←h1, ←e]
  ·rcases Ij.1 hx with rfl|hx
   ·exact⟨h2,h3⟩
   ·exact hw x hx
theorem Abk{m:Mod}(hk:m.kind=2∨m.kind=3){v:Val}(h:Am (BH m) v=true):∃w:List Int,v=wdV w/\w.length<=12/\∀x∈w,0<=x/\x<m.letters.length:=by
 have h2:v.n=0/\(v.kids.length:Int)<=12/\(v.kids.all fun k=>Cd m.letters.length k)=true:=by
  rcases hk with hk|hk
  ·rw[show BH m=.word (.lab m.letters.length) by simp[BH,hk]] at h
   simp only[Am,H5,HE,Ie] at h
   exact⟨h.1,h.2.1,h.2.2⟩
  ·rw[show BH m=.prio m.letters.length m.ranks by simp[BH,hk]] at h
   simp only[Am,H5,HE,Ie] at h
   exact⟨h.1,h.2.1,h.2.2⟩
 obtain⟨h1,h3,h4⟩:=h2
 obtain⟨w,e,hw⟩:=OH h4
 cases v with
 |mk a ks=>
  simp only[Val.n,Val.kids] at h1 h3 e
  subst h1;subst e
  exact⟨w,rfl,by rw[H3] at h3;omega,hw⟩
theorem AgU{m:Mod}(hk:m.kind=2∨m.kind=3){w:List Int}(h1:w.length<=12)(h2:∀x∈w,0<=x/\x<m.letters.length):Am (BH m) (wdV w)=true:=by
 have h4:((w.map lf).all fun k=>Cd m.letters.length k)=true:=Ip.2 fun k hk=>by
  obtain⟨x,hx,rfl⟩:=Il.1 hk
  exact OI (h2 x hx)
 have h5:(w.map lf).length=w.length:=H3 _
 rcases hk with hk|hk
 ·rw[show BH m=.word (.lab m.letters.length) by simp[BH,hk]]
  simp only[Am,Val.n,Val.kids,H5,HE,Ie]
  exact⟨trivial,H6 (by have:=h5;omega),h4⟩
 ·rw[show BH m=.prio m.letters.length m.ranks by simp[BH,hk]]
  simp only[Am,Val.n,Val.kids,H5,HE,Ie]
  exact⟨trivial,H6 (by have:=h5;omega),h4⟩
theorem Pa{m:Mod}(hk:m.kind=2∨m.kind=3):∀(n:Nat) (vs:List Val),vs.length=n->AW (replicate n (BH m)) vs=true->∃ws:List (List Int),vs=ws.map wdV/\∀w∈ws,w.length<=12/\∀x∈w,0<=x/\x<m.letters.length
 |0,vs,hl,_=>⟨[],by simpa using hl,by simp⟩
 |n+1,[],hl,_=>by simp at hl
 |n+1,v::vs,hl,h=>by
  simp only[Ix,AW,H5] at h
  obtain⟨w,e,h1,h2⟩:=Abk hk h.1
  obtain⟨ws,e2,h3⟩:=Pa hk n vs (by simpa using hl) h.2
  refine⟨w::ws,by rw[HU, ←e, ←e2],fun x hx=>?_⟩
  rcases Ij.1 hx with rfl|hx
  ·exact⟨h1,h2⟩
  ·exact h3 x hx
theorem Xr{m:Mod}(hk:m.kind=2∨m.kind=3):∀(ws:List (List Int)),(∀w∈ws,w.length<=12/\∀x∈w,0<=x/\x<m.letters.length)->AW (replicate ws.length (BH m)) (ws.map wdV)=true
 |[],_=>rfl
 |w::ws,h=>by
  simp only[H9,Ix,HU,AW,H5]
  exact⟨AgU hk (h w (by simp)).1 (h w (by simp)).2,Xr hk ws fun x hx=>h x (by simp[hx])⟩
theorem YD(w:List Int):(wdV w).size=1+w.length:=by rw[Val.size,Hu]
theorem QB:∀(ws:List (List Int)),(∀w∈ws,w.length<=12)->Val.sizes (ws.map wdV)<=13*ws.length
 |[],_=>HB _
 |w::ws,h=>by
  have h1:=h w (by simp)
  have h2:=QB ws fun z hz=>h z (by simp[hz])
  have h3:=YD w
  rw[HU,Val.sizes,H9];omega
theorem Aeg{m:Mod}(hk:m.kind=2∨m.kind=3){c:Val}(h:Aj (AI m) c=true):∃s ws,c=chV s ws/\ChW m s ws:=by
 simp only[Aj,AI,Am,H5,HE,Ie] at h
 obtain⟨_,h2,h3,h4⟩:=h
 cases c with
 |mk a ks=>
  simp only[Val.n,Val.kids] at h2 h3 h4
  subst h2
  cases ks with
  |nil=>simp at h3;omega
  |cons k ks=>
   simp only[AW,H5] at h4
   simp only[H9,List.length_replicate] at h3
   obtain⟨l1,l2⟩:=FA (by simpa[Am] using h4.1)
   obtain⟨ws,e,hw⟩:=Pa hk m.places.length ks (by omega) h4.2
   refine⟨k.n,ws,by rw[chV, ←l1, ←e],l2,?_,hw⟩
   have:=HR length e
   rw[H3] at this;omega
theorem N8{m:Mod}(hk:m.kind=2∨m.kind=3)(hp:m.places.length<=2){s:Int}{ws:List (List Int)}(h:ChW m s ws):Aj (AI m) (chV s ws)=true:=by
 have hz:=QB ws fun w hw=>(h.word w hw).1
 have hl:=h.len
 have h4:=Xr hk ws h.word
 rw[hl] at h4
 simp only[Aj,AI,Am,chV,Val.n,Val.kids,H5,HE,Ie,AW]
 refine⟨?_,trivial,?_,OI h.st,h4⟩
 ·have e:(Val.mk 0 (lf s::ws.map wdV)).size=1+(1+Val.sizes (ws.map wdV)):=by simp only[Val.size,Val.sizes]
  exact H6 (by omega)
 ·simp[hl]
theorem MZ(w:List Int):AS (wdV w)=w:=WH w
theorem FK(s:Int)(ws:List (List Int)):(chV s ws).kids.getD 0 z00=lf s:=rfl
theorem LA{s:Int}{ws:List (List Int)}{k:Nat}{w:List Int}(h:ws[k]?=some w):(chV s ws).kids.getD (1+k) z00=wdV w:=by
 rw[show 1+k=k+1 by omega,HC]
 show((lf s::ws.map wdV)[k+1]?).getD z00=wdV w
 rw[Jm,Ik,h];rfl
theorem FJ{s:Int}{ws:List (List Int)}{k:Nat}{w:List Int}(h:ws[k]?=some w)(s':Int)(w':List Int):Hh (chV s ws) k s' w'=chV s' (ws.set k w'):=by
 rw[Hh,FK,LA h,chV,BC]
 show Val.mk 0 (((lf s::ws.map wdV).set 0 (.mk s' [])).set (1+k) (.mk 0 (w'.map lf)))=_
 rw[List.set_cons_zero,show 1+k=k+1 by omega,IP,chV,List.map_set]
theorem XG{m:Mod}(hk:m.kind=2∨m.kind=3)(hp:m.places.length<=2){s:Int}{ws:List (List Int)}(h:ChW m s ws){r:Rul}{k:Nat}(hrk:r.chan=k){w:List Int}(hw:ws[k]?=some w):
  TI (AI m) r (chV s ws)=if ((s==r.frm)&&((r.act !=2)||w.head?==some r.letter))=true then
   if (r.act==1)=true then(if ((w.length:Int)==12)=true then(z00,1) else(chV r.to (ws.set k (w++[r.letter])),0))
   else if (r.act==2)=true then(chV r.to (ws.set k (w.drop 1)),0) else(chV r.to (ws.set k w),0)
  else(z00,18):=by
 have ek:r.chan.toNat=k:=by rw[hrk];rfl
 unfold TI AiR
 rw[HP (N8 hk hp h),ek,FK,LA hw,MZ]
 simp only[FJ hw]
 rfl
theorem RA{m:Mod}{s:Int}{ws:List (List Int)}(hl:ws.length=m.places.length):∀K:Nat,K<=ws.length->∀v,v∈loF m (chV s ws) K↔∃k w w',k<K/\ws[k]?=some w/\w'∈RZ m w/\v=chV s (ws.set k w'):=by
 intro K hK v
 simp only[loF,List.mem_flatMap,List.mem_range,Il]
 constructor
 ·rintro ⟨k,hk,w',h1,rfl⟩
  obtain⟨w,hw⟩:∃w,ws[k]?=some w:=⟨_,H4 (show k<ws.length by omega)⟩
  rw[LA hw,MZ] at h1
  exact⟨k,w,w',hk,hw,h1,by rw[loW,FK,FJ hw];rfl⟩
 ·rintro ⟨k,w,w',hk,hw,h1,rfl⟩
  refine⟨k,hk,w',?_,?_⟩
  ·rw[LA hw,MZ];exact h1
  ·rw[loW,FK,FJ hw];rfl
theorem XF{s s':Int}{ws ws':List (List Int)}(h:chV s ws=chV s' ws'):s=s'/\ws=ws':=by
 simp only[chV,Val.mk.injEq,HH,true_and] at h
 refine⟨by have:=h.1;simpa using this,?_⟩
 exact(List.map_inj_right fun a b e=>P3 e).1 h.2
theorem Mh{m:Mod}{w w':List Int}(h:w'∈RZ m w):w'.length+1=w.length/\∀x∈w',x∈w:=by
 have hd:∀i,i<w.length->(del w i).length+1=w.length/\∀x∈del w i,x∈w:=fun i hi=>by
  refine⟨by rw[del,HI,HY,I9];omega,fun x hx=>?_⟩
  rcases Iq.1 hx with hx|hx
  ·exact IK hx
  ·exact Iu hx
 unfold RZ at h
 split at h
 ·unfold Gp at h
  split at h
  ·obtain⟨i,hi,rfl⟩:=Il.1 (((F2 _).2 w').1 h)
   have:=List.mem_range.1 (List.mem_filter.1 hi).1
   exact hd i (by omega)
  ·simp at h
 ·unfold FR at h
  split at h
  ·obtain⟨i,hi,rfl⟩:=Il.1 (((F2 _).2 w').1 h)
   exact hd i (List.mem_range.1 hi)
  ·simp at h
theorem TH(m:Mod)(w:List Int):(RZ m w).Nodup:=by
 unfold RZ Gp FR
 split
 ·split
  ·exact Pn N4 (F2 _).1
  ·exact .nil
 ·split
  ·exact Pn N4 (F2 _).1
  ·exact .nil
theorem WK{m:Mod}{s:Int}{ws:List (List Int)}(hl:ws.length=m.places.length):∀K:Nat,K<=ws.length->(loF m (chV s ws) K).Nodup:=by
 intro K
 induction K with
 |zero=>intro _;exact .nil
 |succ K ih=>
  intro hK
  obtain⟨w,hw⟩:∃w,ws[K]?=some w:=⟨_,H4 (show K<ws.length by omega)⟩
  rw[No,LA hw,MZ]
  refine List.nodup_append.2 ⟨ih (by omega),?_,fun a ha b hb e=>?_⟩
  ·refine(List.pairwise_map.2 ((TH m w).imp fun{a b} hab e=>hab ?_))
   rw[loW,loW,FK,FJ hw,FJ hw] at e
   have:=HR (fun l=>l[K]?) (XF e).2
   simp only[List.getElem?_set_self (show K<ws.length by omega)] at this
   exact HT this
  ·obtain⟨k,u,u',hk,hu,h1,rfl⟩:=(RA hl K (by omega) a).1 ha
   obtain⟨w',h2,rfl⟩:=Il.1 hb
   rw[loW,FK,FJ hw] at e
   have:=HR (fun l=>l[k]?) (XF e).2
   simp only[List.getElem?_set_self (show k<ws.length by omega)] at this
   rw[List.getElem?_set_ne (by omega),hu] at this
   have h3:=(Mh h1).1
   rw[HT this] at h3
   omega
theorem Zp(l:List Val):(sortV l).Pairwise fun a b=>Au a b<=0:=(JN l).imp fun{a b} h=>HF h
theorem AdG{m:Mod}{s:Int}{ws:List (List Int)}(hl:ws.length=m.places.length):Asc Au (sortV (loF m (chV s ws) m.places.length))/\∀v,v∈sortV (loF m (chV s ws) m.places.length)↔∃k w w',ws[k]?=some w/\w'∈RZ m w/\v=chV s (ws.set k w'):=by
 have hn:=WK (s:=s) hl m.places.length (by omega)
 refine⟨XU AP (Zp _) ((AH _).nodup_iff.2 hn),fun v=>?_⟩
 rw[(AH _).mem_iff,RA hl _ (by omega)]
 constructor
 ·rintro ⟨k,w,w',_,h⟩;exact⟨k,w,w',h⟩
 ·rintro ⟨k,w,w',h⟩
  have:=(H7.1 h.1).1
  exact⟨k,w,w',by omega,h⟩
theorem ChW.set{m:Mod}{s:Int}{ws:List (List Int)}(h:ChW m s ws){s':Int}(hs:0<=s'/\s'<m.states.length)(k:Nat){w:List Int}(h1:w.length<=12)(h2:∀x∈w,0<=x/\x<m.letters.length):ChW m s' (ws.set k w):=
 ⟨hs,by rw[length_set];exact h.len,fun u hu=>by
  rcases I8 hu with hu|rfl
  ·exact h.word u hu
  ·exact⟨h1,h2⟩⟩
structure ChR(m:Mod)(r:Rul):Prop where
 to:0<=r.to/\r.to<m.states.length
 chan:0<=r.chan/\r.chan<m.places.length
 letter:r.act=1->0<=r.letter/\r.letter<m.letters.length
theorem Aeh{m:Mod}(hk:m.kind=2∨m.kind=3)(hp:m.places.length<=2){s:Int}{ws:List (List Int)}(h:ChW m s ws){r:Rul}(hr:ChR m r):
  ((TI (AI m) r (chV s ws)).2=0/\∃s' ws',(TI (AI m) r (chV s ws)).1=chV s' ws'/\ChW m s' ws')∨(TI (AI m) r (chV s ws)).2=1∨(TI (AI m) r (chV s ws)).2=18:=by
 obtain⟨k,hrk⟩:∃k:Nat,r.chan=k:=⟨r.chan.toNat,by have:=hr.chan;omega⟩
 obtain⟨w,hw⟩:∃w,ws[k]?=some w:=⟨_,H4 (by have:=hr.chan;rw[h.len];omega)⟩
 have hww:=h.word w (HA hw)
 rw[XG hk hp h hrk hw]
 split
 ·split
  ·rename_i h1
   split
   ·exact .inr (.inl rfl)
   ·rename_i h2
    have h2:¬(w.length:Int)=12:=by simpa using h2
    refine .inl ⟨rfl,_,_,rfl,h.set hr.to k (by rw[HI];simp only[H9,HD];omega) fun x hx=>?_⟩
    rcases Iq.1 hx with hx|hx
    ·exact hww.2 x hx
    ·rw[HK.1 hx];exact hr.letter (by simpa using h1)
  ·split
   ·exact .inl ⟨rfl,_,_,rfl,h.set hr.to k (by rw[I9];omega) fun x hx=>hww.2 x (Iu hx)⟩
   ·exact .inl ⟨rfl,_,_,rfl,h.set hr.to k hww.1 hww.2⟩
 ·exact .inr (.inr rfl)
theorem Age{m:Mod}{s:Int}{ws:List (List Int)}(h:ChW m s ws){v:Val}(hv:v∈sortV (loF m (chV s ws) m.places.length)):∃ws',v=chV s ws'/\ChW m s ws':=by
 obtain⟨k,w,w',hw,h1,rfl⟩:=((AdG h.len).2 v).1 hv
 have hww:=h.word w (HA hw)
 obtain⟨d1,d2⟩:=Mh h1
 exact⟨_,rfl,h.set h.st k (by omega) fun x hx=>hww.2 x (d2 x hx)⟩
theorem Sl{ap:Int->List Val×Int}{Q:Stp->Prop}(hq:∀i,∀v∈ (ap i).1,Q (i,v))(n:Nat)(i:Int):∀s∈ (D9 ap n i []).1,Q s:=(XZ hq n i [] (by simp)).2
theorem XX{m:Mod}(hk:m.kind=2∨m.kind=3)(hp:m.places.length<=2)(hr:∀r∈m.rules,ChR m r){c:Val}(hc:Aj (AI m) c=true)(i:Int):((apC m (AI m) c i).2=0∨(apC m (AI m) c i).2=1)/\∀v∈ (apC m (AI m) c i).1,Aj (AI m) v=true:=by
 obtain⟨s,ws,rfl,h⟩:=Aeg hk hc
 unfold apC
 split
 ·refine⟨.inl rfl,fun v hv=>?_⟩
  obtain⟨ws',rfl,h'⟩:=Age h hv
  exact N8 hk hp h'
 ·split
  ·rename_i r hri
   rcases Aeh hk hp h (hr r (HA hri)) with⟨h1,s',ws',h2,h3⟩|h1|h1
   ·have:Cj (TI (AI m) r (chV s ws))=([chV s' ws'],0):=by
     rw[Cj,HL (by rw[h1];decide),HL (by rw[h1];decide),h2]
    rw[this]
    exact⟨.inl rfl,fun v hv=>by rw[HK.1 hv];exact N8 hk hp h3⟩
   ·have:Cj (TI (AI m) r (chV s ws))=([],1):=by rw[Cj,HL (by rw[h1];decide),HP (by rw[h1];decide),h1]
    rw[this];exact⟨.inr rfl,by simp⟩
   ·have:Cj (TI (AI m) r (chV s ws))=([],0):=by rw[Cj,HP (by rw[h1];decide)]
    rw[this];exact⟨.inl rfl,by simp⟩
  ·exact⟨.inl rfl,by simp⟩
theorem QN(l:List Val):∀k:Nat,k<l.length->(TY l k=true↔∀i,i<k->Au (l.getD i default) (l.getD (i+1) default)<=0)
 |0,_=>⟨fun _ i h=>absurd h (Nat.not_lt_zero i),fun _=>rfl⟩
 |k+1,hk=>by
  have ih:=QN l k (by omega)
  rw[TY]
  split
  ·rename_i h
   refine⟨fun h=>by simp at h,fun h2=>?_⟩
   have:=(Gs _ _).1 (h2 k (by omega))
   exact absurd h this
  ·rename_i h
   rw[ih]
   refine⟨fun h2 i hi=>?_,fun h2 i hi=>h2 i (by omega)⟩
   by_cases e:i=k
   ·subst e;exact(Gs _ _).2 h
   ·exact h2 i (by omega)
theorem Lb:∀(l:List Val),(∀i,i+1<l.length->Au (l.getD i default) (l.getD (i+1) default)<=0)->l.Pairwise fun a b=>Au a b<=0
 |[],_=>.nil
 |[_],_=>List.pairwise_singleton _ _
 |x::y::l,h=>by
  have ih:=Lb (y::l) fun i hi=>h (i+1) (by simp at hi⊢;omega)
  have h0:Au x y<=0:=h 0 (by simp)
  refine List.pairwise_cons.2 ⟨fun z hz=>?_,ih⟩
  rcases Ij.1 hz with rfl|hz
  ·exact h0
  ·exact EK h0 ((List.pairwise_cons.1 ih).1 z hz)
theorem MB(l:List Val):SC l=true↔l.Pairwise fun a b=>Au a b<=0:=by
 unfold SC
 cases l with
 |nil=>exact⟨fun _=>.nil,fun _=>rfl⟩
 |cons x l=>
  rw[QN _ _ (by simp)]
  constructor
  ·exact fun h=>Lb _ fun i hi=>h i (by simp at hi⊢;omega)
  ·intro h i hi
   have hi:i<l.length:=by simpa using hi
   have h1:i<(x::l).length:=by simp;omega
   have h2:i+1<(x::l).length:=by simp;omega
   have:=List.pairwise_iff_getElem.1 h i (i+1) h1 h2 (by omega)
   rw[HC,HC,H4 h1,H4 h2]
   exact this
def tmV(s:Int)(ps:List (Int×Int)):Val:=.mk 0 [lf s,.mk 0 (ps.map pV)]
def PQ(l:List (Int×Int)):List (Int×Int):=l.mergeSort fun a b=>decide (Au (pV a) (pV b)<=0)
theorem J2(l:List (Int×Int)):(PQ l).Perm l:=List.mergeSort_perm l _
theorem Rf(l:List (Int×Int)):((PQ l).map pV).Pairwise fun a b=>Au a b<=0:=
 List.pairwise_map.2 ((List.pairwise_mergeSort (le:=fun a b=>decide (Au (pV a) (pV b)<=0)) (fun a b c h1 h2=>H6 (EK (HF h1) (HF h2))) (fun a b=>by rcases Js (pV a) (pV b) with h|h<;>simp[h]) l).imp fun{a b} h=>HF h)
theorem Zo(l:List (Int×Int)):sortV (l.map pV)=(PQ l).map pV:=
 (QQ ((J2 l).map pV) ((Rf l).imp fun{a b} h=>H6 h)).symm
theorem Aek(s:Int)(l:List (Int×Int)):Ca s l=tmV s (PQ l):=by rw[Ca,Zo];rfl
structure TmW(m:Mod)(s:Int)(ps:List (Int×Int)):Prop where
 st:0<=s/\s<m.states.length
 len:ps.length<=12
 tok:∀p∈ps,(0<=p.1/\p.1<m.places.length)/\0<=p.2/\p.2<m.age+2
 srt:(ps.map pV).Pairwise fun a b=>Au a b<=0
theorem QK{ks:List Val}(h:(ks.length:Int)=2):∃x y,ks=[x,y]:=by
 match ks,h with
 |[x,y],_=>exact⟨x,y,rfl⟩
abbrev Ae7(m:Mod):Typ:=.prod [.lab m.places.length,.lab (m.age+2)]
theorem YV{m:Mod}{v:Val}(h:Am (Ae7 m) v=true):∃p:Int×Int,v=pV p/\(0<=p.1/\p.1<m.places.length)/\0<=p.2/\p.2<m.age+2:=by
 simp only[Am,H5,Ie] at h
 obtain⟨h1,h2,h3⟩:=h
 cases v with
 |mk a ks=>
  have h1:a=0:=h1
  have h2:(ks.length:Int)=2:=h2
  have h3:AW [.lab m.places.length,.lab (m.age+2)] ks=true:=h3
  subst h1
  obtain⟨x,y,rfl⟩:=QK h2
  ·have h3:=HM.1 h3
   have h4:=HM.1 h3.2
   obtain⟨x1,x2⟩:=FA (by simpa[Am] using h3.1)
   obtain⟨y1,y2⟩:=FA (by simpa[Am] using h4.1)
   exact⟨(x.n,y.n),by show _=Val.mk 0 [lf x.n,lf y.n];rw[←x1, ←y1],x2,y2⟩
theorem Afs{m:Mod}{p:Int×Int}(h:(0<=p.1/\p.1<m.places.length)/\0<=p.2/\p.2<m.age+2):Am (Ae7 m) (pV p)=true:=by
 rw[Am]
 exact HM.2 ⟨rfl,HM.2 ⟨rfl,HM.2 ⟨by rw[Am];exact OI h.1,HM.2 ⟨by rw[Am];exact OI h.2,rfl⟩⟩⟩⟩
theorem NW{m:Mod}:∀{ks:List Val},(ks.all fun k=>Am (Ae7 m) k)=true->∃ps:List (Int×Int),ks=ps.map pV/\∀p∈ps,(0<=p.1/\p.1<m.places.length)/\0<=p.2/\p.2<m.age+2
 |[],_=>⟨[],rfl,by simp⟩
 |k::ks,h=>by
  simp only[all_cons,H5] at h
  obtain⟨p,e,hp⟩:=YV h.1
  obtain⟨ps,e2,hps⟩:=NW h.2
  refine⟨p::ps,by rw[HU, ←e, ←e2],fun x hx=>?_⟩
  rcases Ij.1 hx with rfl|hx
  ·exact hp
  ·exact hps x hx
theorem Adh{m:Mod}{c:Val}(h:Aj (AR m) c=true):∃s ps,c=tmV s ps/\TmW m s ps:=by
 simp only[Aj,AR,Am,H5,HE,Ie] at h
 obtain⟨_,h2,h3,h4⟩:=h
 cases c with
 |mk a ks=>
  have h2:a=0:=h2
  have h3:(ks.length:Int)=2:=h3
  have h4:AW [.lab m.states.length,.bag (Ae7 m)] ks=true:=h4
  subst h2
  obtain⟨x,y,rfl⟩:=QK h3
  ·have h4:=HM.1 h4
   obtain⟨x1,x2⟩:=FA (by simpa[Am] using h4.1)
   have hy:=(HM.1 h4.2).1
   rw[Am] at hy
   simp only[H5,HE,Ie] at hy
   obtain⟨⟨y1,y2,y3⟩,y4⟩:=hy
   obtain⟨ps,e,hps⟩:=NW y3
   cases y with
   |mk b vs=>
    have y1:b=0:=y1
    have y2:(vs.length:Int)<=12:=y2
    have e:vs=ps.map pV:=e
    have y4:SC vs=true:=y4
    subst y1;subst e
    refine⟨x.n,ps,by rw[tmV, ←x1],x2,by have hl:(ps.map pV).length=ps.length:=H3 _;have y2:((ps.map pV).length:Int)<=12:=y2;omega,hps,(MB _).1 y4⟩
theorem YX{m:Mod}{s:Int}{ps:List (Int×Int)}(h:TmW m s ps):Aj (AR m) (tmV s ps)=true:=by
 have hz:=UW ps
 have hl:=h.len
 have ha:((ps.map pV).all fun k=>Am (Ae7 m) k)=true:=Ip.2 fun k hk=>by
  obtain⟨p,hp,rfl⟩:=Il.1 hk
  exact Afs (h.tok p hp)
 have e:(tmV s ps).size=1+(1+(1+Val.sizes (ps.map pV)+0)):=by simp only[tmV,Val.size,Val.sizes]
 have hb:Am (.bag (Ae7 m)) (.mk 0 (ps.map pV))=true:=by
  rw[Am]
  simp only[H5]
  have hlm:(ps.map pV).length=ps.length:=H3 _
  exact⟨⟨rfl,H6 (by show((ps.map pV).length:Int)<=12;omega),ha⟩,(MB _).2 h.srt⟩
 rw[Aj,H6 (by omega),Ib,AR,Am]
 exact HM.2 ⟨rfl,HM.2 ⟨rfl,HM.2 ⟨by rw[Am];exact OI h.st,HM.2 ⟨hb,rfl⟩⟩⟩⟩
theorem Adw(ps:List (Int×Int)):Gm (.mk 0 (ps.map pV))=ps:=by
 show(ps.map pV).map _=ps
 rw[List.map_map]
 exact(List.map_congr_left fun p _=>rfl).trans (List.map_id ps)
theorem Adg(s:Int)(ps:List (Int×Int)):(tmV s ps).kids.getD 0 z00=lf s:=rfl
theorem Adf(s:Int)(ps:List (Int×Int)):(tmV s ps).kids.getD 1 z00=.mk 0 (ps.map pV):=rfl
theorem Adk{m:Mod}(ha:0<=m.age/\m.age<=1000){s:Int}{ps:List (Int×Int)}(h:TmW m s ps):Adl m (tmV s ps)=tmV s (PQ (olP m ps))/\TmW m s (PQ (olP m ps)):=by
 have e:Adl m (tmV s ps)=tmV s (PQ (olP m ps)):=by rw[Adl,Adg,Adf,Adw,Aek];rfl
 refine⟨e,h.st,?_,fun p hp=>?_,Rf _⟩
 ·rw[(J2 _).length_eq,olP,H3];exact h.len
 ·have hp:=(J2 _).mem_iff.1 hp
  obtain⟨q,hq,rfl⟩:=Il.1 hp
  have:=h.tok q hq
  refine⟨this.1,?_⟩
  show 0<=Fu m q.2/\Fu m q.2<m.age+2
  unfold Fu
  rw[Al (by omega) (by omega),Al (by omega) (by omega)]
  split<;>omega
theorem Adi{m:Mod}{s:Int}{ps:List (Int×Int)}{r:Rul}:((S9 (AR m) r (tmV s ps)).2=0∨(S9 (AR m) r (tmV s ps)).2=1∨(S9 (AR m) r (tmV s ps)).2=17)/\∀v∈ (S9 (AR m) r (tmV s ps)).1,Aj (AR m) v=true:=by
 unfold S9 tmR
 split
 ·split
  ·split
   ·rename_i ha
    exact⟨.inl rfl,fun v hv=>Ip.1 ha v (QE hv)⟩
   ·exact⟨.inr (.inl rfl),by simp⟩
  ·exact⟨.inl rfl,by simp⟩
 ·exact⟨.inr (.inr rfl),by simp⟩
theorem TT{m:Mod}(ha:0<=m.age/\m.age<=1000){c:Val}(hc:Aj (AR m) c=true)(i:Int):((XV m (AR m) c i).2=0∨(XV m (AR m) c i).2=1)/\∀v∈ (XV m (AR m) c i).1,Aj (AR m) v=true:=by
 obtain⟨s,ps,rfl,h⟩:=Adh hc
 unfold XV
 split
 ·obtain⟨e,h2⟩:=Adk ha h
  exact⟨.inl rfl,fun v hv=>by rw[HK.1 hv,e];exact YX h2⟩
 ·split
  ·rename_i r hr
   obtain⟨h1,h2⟩:=Adi (m:=m) (s:=s) (ps:=ps) (r:=r)
   refine⟨?_,h2⟩
   rcases h1 with h1|h1|h1
   ·exact .inl h1
   ·exact .inr h1
   ·exfalso
    unfold S9 at h1
    rw[HP hc] at h1
    split at h1
    ·unfold tmR at h1;split at h1<;>simp at h1
    ·simp at h1
  ·exact⟨.inl rfl,by simp⟩
end Go.Proofs.YtmhjflomgppcnaaGreatDoor
