/-
  A part of the proof.
-/
import Derived.Test.YtkkplhjidondkaaGreatZd
import Derived.Test.YtkkplhjidondkaaGreatZh
import Derived.Test.YtkkplhjidondkaaGreatZe
namespace Go.Proofs.YtkkplhjidondkaaGreat
open Go.Dv Go.Nv
set_option maxRecDepth 20000
open List (length_map length_pos_iff replicate take zipWith)
open Go.IntKind (u64)
open Go.IntKind renaming wrap → yu, i64 → yt
open List renaming length → I, map → U, drop → W
open Option renaming some → G
open Bool renaming true → J, false → O
open Decidable renaming decide → Y
open Int renaming toNat → Z
open Go.Dv.V renaming list → ai, str → ae, agg → ab, int → aa, ref → bz, fn → bw, nils → bv, bool → bu
open Go.Dv.D renaming v → bt, acc → br, ptr → bq, arr → bo, gro → bm, tup → bk, undef → bj, dagg → bi
open Go.Dv.St renaming mk → bh
open Go.Dv.KI renaming blk → bf
open _root_.ByteArray renaming mk → bc
open Go renaming Operand → x8, Program → x7, TypeId → x6, World → x5, Value → yz, Oper → yy, FuncId → yx, Func → yw, IntKind → yv
structure c7 where
 found:List b9
 before:List Int
 av:List Int
 next:Int
 cand:Int
 used:Int
 deriving Inhabited
abbrev vt(h:c7):V:=.agg [dt h.found,cw h.before,cw h.av,vi h.next,vi h.cand,vi h.used]
abbrev F5(h:c7):D:=.v (vt h)
structure e9 where
 decided:Bool
 yes:Bool
 run:List cb
 coefs:List Int
 mod:Int
 vals:List Int
 closed:List b9
 used:Int
 deriving Inhabited
abbrev Aqr(v:e9):V:=.agg [.bool v.decided,.bool v.yes,B2 v.run,cw v.coefs,vi v.mod,cw v.vals,dt v.closed,vi v.used]
abbrev Cr(v:e9):D:=.v (Aqr v)
def Aq(u:Int):e9:=⟨false,false,[],[],0,[],[],u⟩
def Dn(l:List cb)(u:Int):e9:=⟨true,true,l,[],0,[],[],u⟩
theorem Yr(l:List Int)(hl:I l<=1000000)(h:l≠ []):Aa PP 66 [cx l] ba (.acc 1 (l.map vi)) ⟨[],[(1,1,l.map vi)]⟩:=by
 refine sv vp 8 [] (.a 1<|.w .r) (U vi l≠ []/\Q nV/\Ao (I nV+I (U vi l)) 8/\(∀(y:V),y∈U vi l->V.size y=1)/\[(1,1,nV++U vi l)]=[(1,1,U vi l)]/\br 1 ([]++U vi l)=br 1 (U vi l)) ?_
 grind[V.size]
noncomputable abbrev AoT:=Tryz.f36
abbrev j0(h:c7):List D:=[.acc 1 (h.found.map eV),.acc 2 (h.before.map vi),.acc 3 (h.av.map vi),di h.next,di h.cand,di h.used]
abbrev fu(h:c7):List (Nat×Nat×List V):=[(3,1,h.av.map vi),(2,1,h.before.map vi),(1,2,h.found.map eV)]
noncomputable abbrev j7:=fun a₀ b₀ c₀=>[(3,1,U vi a₀),(2,1,U vi b₀),(1,2,U eV c₀)]
noncomputable abbrev Avw:=fun a₀=>Aa PP 66 [cx a₀] d7 (br 1 (cc a₀)) (bh [] [(1,1,U vi a₀)])
theorem QL(h:c7)(h1:I h.found<=100000)(hs:∀v∈h.found,v.size<=1000000)(h2:I h.before<=100000)(h3:I h.av<=100000)(hb:h.before≠ [])(hr:h.av≠ []):
  Aa PP 36 [F5 h] ba (.dagg (j0 h)) ⟨[],fu h⟩:=by
 refine sv AoT 16 [] (.h (.ck 1 1 2 (h.found.map eV))<|.h (.ck 2 1 1 (h.before.map vi))<|.h (.ck 3 1 1 (h.av.map vi))<|.h (.m (.dagg (j0 h))) .rd) (Aa PP 39 [cq h.found] d7 (br 1 (ce h.found)) (bh [] [(1,2,U eV h.found)])/\Avw h.before/\Avw h.av/\(True/\(Q (G [cx h.before])/\True)/\(Q (G [cx h.av])/\Q (G [cx h.av])/\True)/\True)/\6<=6/\[br 1 (ce h.found),br 2 (cc h.before),br 3 (cc h.av),di h.next,di h.cand,di h.used]=j0 h/\Q (j7 h.av h.before h.found)/\bi [br 1 (ce h.found),br 2 (cc h.before),br 3 (cc h.av),di h.next,di h.cand,di h.used]=bi (j0 h)) ?_
 grind[Ahp,Yr]
noncomputable abbrev Anp:=Tryz.f27
theorem Si(m:cz)(hm:em m)(c:b9)(hc:AN m c):F0 27 [Ad m,dV c] (di 0):=by
 have hsz:=hc.size hm
 have h1:=EC m hm.ok c (by omega)
 rw[hc.valid hm] at h1
 exact sv Anp 15 [2,3] (.c (di 0)<|.c (db J) .r) (_/\_/\Q (di 0)) ⟨TV m hm.ok,h1,rfl⟩
def BI(m:cz):c7:=⟨[m.start],[-1],[-1],0,0,0⟩
noncomputable abbrev AbP:=Tryz.f19
noncomputable abbrev oy:=fun a₀ b₀=>F0 27 [Ad a₀,dV b₀] (di 0)
theorem ST(m:cz)(hm:em m)(c:b9)(hc:AN m c):F0 19 [Ad m,dV c] (.tup [F5 (BI m),di 0]):=by
 refine sv AbP 21 [2,3] (.c (di 0)<|.c (dV m.start) .r) (oy m c/\qf m.start/\bk [bt (ab [ai [Ac m.start],ai [vi (-1)],ai [vi (-1)],vi 0,vi 0,vi 0]),di 0]=bk [F5 (BI m),di 0]) ?_
 have hsz:=hm.start.size hm
 grind[Si,Gi,BI,AH]
noncomputable abbrev vz:=Tryz.f122
noncomputable def ApF:=yl vz
def SJ{α:Type}(l:List α)(i j:Nat):List α:=match l[i]?,l[j]? with
 |some a,some b=>(l.set i b).set j a
 |_,_=>l
def Ei{α:Type}:Nat->Nat->List α->List α
 |0,_,l=>l
 |n+1,i,l=>if 2*i+1<I l then Ei n (i+1) (SJ l i (I l-1-i)) else l
theorem Mh{α:Type}(l:List α)(i j:Nat):I (SJ l i j)=I l:=by
 grind[SJ]
theorem Ps{α:Type}:∀(n i:Nat) (l:List α),I (Ei n i l)=I l
 |0,_,_=>rfl
 |n+1,i,l=>by
  rw[Ei];split
  ·rw[Ps n,Mh]
  ·rfl
theorem KR(s:cb)(l:List cb):Ab ((s::l).map c8)=[di s.1,di s.2.n,cq s.2.az]++Ab (l.map c8):=by
 rfl
theorem Rx(l k:List cb):Ab ((l++k).map c8)=Ab (l.map c8)++Ab (k.map c8):=by
 grind[Ab]
theorem Hg:∀l:List cb,I (Ab (l.map c8))=I l*3
 |[]=>rfl
 |v::l=>by rw[KR,HW,Hg l,HN];grind
theorem VM{l:List cb}{i:Nat}{x:cb}(h:l[i]?=G x):((Ab (l.map c8)).drop (i*3)).take 3=[di x.1,di x.2.n,cq x.2.az]:=by
 obtain⟨hi,rfl⟩:=HL.1 h
 have e:l=l.take i++l[i]::l.drop (i+1):=by simp_all
 grind[KR,Hg,Ab]
theorem Rw{l:List cb}{i:Nat}(hi:i<I l)(x:cb):(Ab (l.map c8)).take (i*3)++[di x.1,di x.2.n,cq x.2.az]++(Ab (l.map c8)).drop (i*3+3)=Ab ((l.set i x).map c8):=by
 have e:l=l.take i++l[i]::l.drop (i+1):=by simp_all
 grind[Hg,Rx,KR]
abbrev mq(l:List cb):St:=⟨[G (Ab (l.map c8))],[]⟩
noncomputable abbrev Aui:=fun a₀=>(Ab (U c8 a₀))
theorem AeS(N:Nat)(hN:N<=1000)(n:Nat):∀(i:Nat) (l:List cb),I l=N->N-2*i<=2*n->
  Rn PP vz 1 (.tup []) (mq (Ei n i l)) ([kl ApF [1,0,0],.blk 0]++[]) (cy 28 [(0,.arr 0 0 N),(2,di i),(3,di ((N:Int)-1-i))]) (mq l):=by
 induction n with
 |zero=>
  intro i l hl hn
  refine lv 28 [] (.f .ro) (Y ((i:Int)<(N:Int)-1- (i:Int))=O/\([]:List KI)=[]/\cm 1 [] [G (Ab (U c8 l))]=J/\[G (Ab (U c8 l))]=[G (Ab (U c8 (Ei 0 i l)))]/\Q (bk [])) ?_
  grind[Aj,cm,Ei]
 |succ n ih=>
  intro i l hl hn
  by_cases h:2*i+1<N
  ·obtain⟨a,ha⟩:=yk (show i<I l by omega)
   obtain⟨b,hb⟩:=yk (show N-1-i<I l by omega)
   refine lv 28 [] (.t<|.m (.v (c8 b))<|.m (.v (c8 a))<|.h .ww<|.h .ww<|.lo [ke 0,ch 2 (di (i+1:Nat)),ch 3 (di ((N:Int)-1- (i+1:Nat)))] (mq ((l.set i b).set (N-1-i) a))) (Y ((i:Int)<(N:Int)-1- (i:Int))=J/\0<=(N:Int)-1- (i:Int)/\(N:Int)-1- (i:Int)<(N:Int)/\0+Z ((N:Int)-1- (i:Int))*3+3<=I (Ab (U c8 l))/\take 3 (W (0+Z ((N:Int)-1- (i:Int))*3) (Ab (U c8 l)))=[di b.fst,di b.snd.n,cq b.snd.az]/\0<=(i:Int)/\(i:Int)<(N:Int)/\0+Z (i:Int)*3+3<=I (Ab (U c8 l))/\take 3 (W (0+Z (i:Int)*3) (Ab (U c8 l)))=[di a.fst,di a.snd.n,cq a.snd.az]/\0<=(i:Int)/\(i:Int)<(N:Int)/\0+Z (i:Int)*3+3<=I (Ab (U c8 l))/\0<=(N:Int)-1- (i:Int)/\(N:Int)-1- (i:Int)<(N:Int)/\0+Z ((N:Int)-1- (i:Int))*3+3<=I (take (0+Z (i:Int)*3) (Ab (U c8 l))++Az (bt (ab (vi b.fst::vi b.snd.n::dt b.snd.az::nV)))++W (0+Z (i:Int)*3+3) (Ab (U c8 l)))/\yo/\di (yu yt ((i:Int)+1))=di (↑(i+1):Int)/\di (yu yt ((N:Int)-1- (i:Int)-1))=di ((N:Int)-1- (↑(i+1):Int))/\cm 1 [] [G (take (0+Z ((N:Int)-1- (i:Int))*3) (take (0+Z (i:Int)*3) (Ab (U c8 l))++[di b.fst,di b.snd.n,cq b.snd.az]++W (0+Z (i:Int)*3+3) (Ab (U c8 l)))++[di a.fst,di a.snd.n,cq a.snd.az]++W (0+Z ((N:Int)-1- (i:Int))*3+3) (take (0+Z (i:Int)*3) (Ab (U c8 l))++[di b.fst,di b.snd.n,cq b.snd.az]++W (0+Z (i:Int)*3+3) (Ab (U c8 l))))]=J/\[G (take (0+Z ((N:Int)-1- (i:Int))*3) (take (0+Z (i:Int)*3) (Ab (U c8 l))++[di b.fst,di b.snd.n,cq b.snd.az]++W (0+Z (i:Int)*3+3) (Ab (U c8 l)))++[di a.fst,di a.snd.n,cq a.snd.az]++W (0+Z ((N:Int)-1- (i:Int))*3+3) (take (0+Z (i:Int)*3) (Ab (U c8 l))++[di b.fst,di b.snd.n,cq b.snd.az]++W (0+Z (i:Int)*3+3) (Ab (U c8 l))))]=[G (Ab (U c8 (List.set (List.set l i b) (N-1-i) a)))]/\I0 vz 1 (bk []) (mq (Ei (n+1) i l)) [kl ApF [1,0,0],bf 0] (cy 28 [(0,bo 0 0 N),(2,di (↑(i+1):Int)),(3,di ((N:Int)-1- (↑(i+1):Int)))]) (mq (List.set (List.set l i b) (N-1-i) a))) ?_
   have e0:0+Z (i:Int)*3=i*3:=by omega
   have e1:0+Z ((N:Int)-1-i)*3=(N-1-i)*3:=by omega
   have f1:(Ab (l.map c8)).take (i*3)++[di b.1,di b.2.n,bt (dt b.2.az)]++(Ab (l.map c8)).drop (i*3+3)=Ab ((l.set i b).map c8):=Rw (by omega) b
   have f2:(Ab ((l.set i b).map c8)).take ((N-1-i)*3)++[di a.1,di a.2.n,bt (dt a.2.az)]++(Ab ((l.set i b).map c8)).drop ((N-1-i)*3+3)=Ab (((l.set i b).set (N-1-i) a).map c8):=Rw (by grind) a
   have f3:Az (bt (ab (vi b.1::vi b.2.n::dt b.2.az::nV)))=[di b.1,di b.2.n,bt (dt b.2.az)]:=rfl
   have g1:SJ l i (N-1-i)=(l.set i b).set (N-1-i) a:=by grind[SJ]
   have g2:Ei (n+1) i l=Ei n (i+1) ((l.set i b).set (N-1-i) a):=by grind[Ei]
   have hll:I (Ab (l.map c8))=N*3:=by rw[Hg,hl]
   have hls:I (Ab ((l.set i b).map c8))=N*3:=by grind
   rw[e0,e1,f3,f1,f2,g2]
   refine⟨yr,by omega,by omega,by omega,VM hb,by omega,by omega,by omega,VM ha,by omega,by omega,by omega,by omega,by omega,by omega,ym,Ae,?_,?_,rfl,⟨ih (i+1) _ (by grind) (by omega)⟩⟩
   ·grind[Ak]
   grind[Aj,cm]
  ·refine lv 28 [] (.f .ro) (Y ((i:Int)<(N:Int)-1- (i:Int))=O/\([]:List KI)=[]/\cm 1 [] [G (Ab (U c8 l))]=J/\[G (Ab (U c8 l))]=[G (Ab (U c8 (Ei (n+1) i l)))]/\Q (bk [])) ?_
   grind[Ei,Aj,cm]
theorem AeR(l:List cb)(hl:I l<=1000):Aa PP 122 [.arr 0 0 (I l)] (mq l) (.tup []) (mq (Ei (I l) 0 l)):=by
 refine sv vz 28 [] (.lo [ke 0,ch 2 (di (0:Nat)),ch 3 (di ((I l:Int)-1- (0:Nat)))] (mq l)) (Q (di 0)/\di (yu yt ((I l:Int)-1))=di ((I l:Int)-1- (↑0:Int))/\cm 1 [] [G (Aui l)]=J/\Q (mq l).H/\_) ⟨rfl,by grind[Ak],Ia.2 ⟨Aj 1 [] _,rfl⟩,rfl,iK (AeS (I l) (by omega) (I l) 0 l rfl (by omega))⟩
theorem Ajb:F0 122 [dl []] (.tup []):=by
 exact sv vz 28 [] (.n<|.f .r) (Y (0<yu yt ((I nV:Int)-1))=O/\([]:List KI)=[]/\Q (bk [])) ⟨by decide,rfl,rfl⟩
noncomputable abbrev sx:=Tryz.f68
noncomputable def r7:=yl sx
abbrev dv(h:c7)(m:cz)(c:b9):List D:=[cq h.found,cx h.before,cx h.av,di h.next,di h.cand,di h.used,di m.kind,.v (cp m.aw),.v (cp m.ay),.v (cp m.ax),.v (cw m.au),di m.ao,di m.age,.v (BF m.av),di m.start.n,cq m.start.az,di c.n,cq c.az]
abbrev f0(h:c7)(m:cz)(c:b9):St:=⟨[G (dv h m c)],[]⟩
structure L3(h:c7):Prop where
 ne:h.found≠ []
 len:I h.found<=128
 size:∀v∈h.found,v.size<=1000
 bl:I h.before=I h.found
 rl:I h.av=I h.found
 back:∀(i:Nat) (b:Int),h.before[i]?=G b-> -1<=b/\b<i
def FB(h:c7):Nat->Int->List cb
 |0,_=>[]
 |f+1,n=>if h.before.getD n.toNat 0>=0 then(h.av.getD n.toNat 0,h.found.getD n.toNat default)::FB h f (h.before.getD n.toNat 0) else[]
def wayM(h:c7)(n:Int):List cb:=Ei (I (FB h 200 n)) 0 (FB h 200 n)
abbrev Qt(j:Nat)(xs:List cb):List (Option (List D)):=replicate j none++[G (Ab (xs.map c8))]
theorem PJ(x:List D)(j:Nat)(xs:List cb):(G x::Qt j xs)[j+1]?=G (G (Ab (xs.map c8))):=by
 grind
theorem VI(x:List D)(j:Nat)(xs:List cb)(o:Option (List D)):(G x::Qt j xs).set (j+1) o=G x::(replicate j none++[o]):=by
 simp_all
theorem AdL(h:c7)(hh:L3 h)(m:cz)(c:b9)(f:Nat):∀(n j:Nat) (xs:List cb),n<f->n<I h.found->xs≠ []->I xs+f<=200->
  Rn PP sx 1 (.v (B2 (Ei (I (xs++FB h f n)) 0 (xs++FB h f n)))) (f0 h m c) ([kl r7 [1,1,0,0,0],.blk 0,kc r7 [1,1,1]]++[]) (cy 47 [(0,.ptr 0 0),(1,di n),(5,.gro (j+1) (I xs) 3)]) ⟨G (dv h m c)::Qt j xs,[]⟩:=by
 induction f with
 |zero=>omega
 |succ f ih=>
  intro n j xs h1 h3 h4 h5
  obtain⟨b,hb⟩:∃b,h.before[n]?=G b:=⟨_,HI (by rw[hh.bl];exact h3)⟩
  obtain⟨rl,hr⟩:∃b,h.av[n]?=G b:=⟨_,HI (by rw[hh.rl];exact h3)⟩
  obtain⟨v,hv⟩:∃b,h.found[n]?=G b:=⟨_,HI h3⟩
  have hbk:=hh.back n b hb
  by_cases hb0:b>=0
  ·refine lv 47 [] (.x (vi b)<|.t<|.x (vi rl)<|.h (.xs (Ac v))<|.c (dV v)<|.h (.gx (Ab (xs.map c8)) (G (dv h m c)::Qt (j+1) (xs++[(rl,v)])))<|.x (vi b)<|.l [ke 0,ch 1 (di b.toNat),ch 5 (.gro (j+2) (I (xs++[(rl,v)])) 3)]) (0<=(n:Int)/\(cc h.before)[Z (n:Int)]?=G (vi b)/\Y (b>=0)=J/\0<=(n:Int)/\(cc h.av)[Z (n:Int)]?=G (vi rl)/\Q 2/\0<=(n:Int)/\(ce h.found)[Z (n:Int)]?=G (Ac v)/\qf v/\(G (dv h m c)::Qt j xs)[j+1]?=G (G (Aui xs))/\I (Aui xs)=I xs*3/\[ab [vi rl,vi v.n,dt v.az]]≠ []/\(∀(y:V),y∈ [ab [vi rl,vi v.n,dt v.az]]->V.size y=3)/\Ao (I xs+I (ab (vi rl::vi v.n::dt v.az::nV)::nV)) 40/\Aqp (bh (G (dv h m c)::Qt j xs) []).H (G (dv h m c)::Qt (j+1) (xs++[(rl,v)])) (j+1) (Ab (U c8 xs)++Ab [ab [vi rl,vi v.n,dt v.az]])/\yo/\0<=(n:Int)/\(cc h.before)[Z (n:Int)]?=G (vi b)/\di b=di (↑(Z b):Int)/\bm (I (bh (G (dv h m c)::Qt j xs) []).H) (I xs+I (ab (vi rl::vi v.n::dt v.az::nV)::nV)) 3=bm (j+2) (I (xs++[(rl,v)])) 3/\I0 sx 1 (bt (B2 (Ei (I (xs++FB h (f+1) (n:Int))) 0 (xs++FB h (f+1) (n:Int))))) (f0 h m c) [kl r7 [1,1,0,0,0],bf 0,kc r7 [1,1,1]] (cy 47 [jx,(1,di (↑(Z b):Int)),(5,bm (j+2) (I (xs++[(rl,v)])) 3)]) (bh (G (dv h m c)::Qt (j+1) (xs++[(rl,v)])) [])) ?_
   have hw:FB h (f+1) n=(rl,v)::FB h f b:=by
    grind[FB]
   obtain⟨b',rfl⟩:∃b':Nat,b=b':=⟨b.toNat,by omega⟩
   have e:Ab (xs.map c8)++Ab [ab [vi rl,vi v.n,dt v.az]]=Ab ((xs++[(rl,v)]).map c8):=by rw[Rx];rfl
   have hi:=ih b' (j+1) (xs++[(rl,v)]) (by omega) (by omega) (by simp)
   refine⟨by omega,Am hb,HK hb0,by omega,Am hr,rfl,by omega,Ap hv,Gi _ v (HP _) (by have:=hh.size v (HO hv);omega),PJ _ _ _,Hg _,by simp,fun y hy=>by rw[HY.1 hy];rfl,⟨?_,?_⟩,⟨?_⟩,ym,by omega,Am hb,rfl,?_,⟨?_⟩⟩
   ·grind
   ·grind
   all_goals grind[VI,List.replicate_succ']
  ·refine lv 47 [] (.x (vi b)<|.f<|.h (.q 5 0)<|.h (.ga 5)<|.h (.q 5 1)<|.h (.oc (.tup []) ⟨G (dv h m c)::Qt j (Ei (I xs) 0 xs),[]⟩)<|.h (.q 6 0)<|.h (.ct 5 (.v (B2 (Ei (I xs) 0 xs))) ⟨G (dv h m c)::(replicate (j+1) none),[]⟩) .r) (0<=(n:Int)/\(cc h.before)[Z (n:Int)]?=G (vi b)/\Y (b>=0)=O/\(N0 [bt (bw 122 [] []),bo (j+1) 0 (I xs)] (bh (G (dv h m c)::Qt j xs) []) (bk []) (bh (G (dv h m c)::Qt j (Ei (I xs) 0 xs)) []))/\(∀(e:List D),e[5]?=G (bo (j+1) 0 (I xs))->∀(E:cd) (g:Gh) (a:Act) (w:x5),FI E g (bh (G (dv h m c)::Qt j (Ei (I xs) 0 xs)) []) e a w->∃g',FI E g' (bh (G (dv h m c)::replicate (j+1) none) []) (List.set e 5 (bt (B2 (Ei (I xs) 0 xs)))) a w)/\Q [G (dv h m c)]/\bt (B2 (Ei (I xs) 0 xs))=bt (B2 (Ei (I (xs++FB h (f+1) (n:Int))) 0 (xs++FB h (f+1) (n:Int))))) ?_
   have hw:FB h (f+1) n=[]:=by
    grind[FB]
   rw[hw,I8]
   refine⟨by omega,Am hb,HM hb0,fun o c' fo ho hc=>?_,fun e he=>?_,rfl,rfl⟩
   ·have:=JQ (σ:=⟨G (dv h m c)::Qt j xs,[]⟩) (fs:=[]) (cs:=[]) (ds:=[.arr (j+1) 0 (I xs)]) (d:=.tup []) ho hc (q:=j+1) (PJ _ _ _) (Ay _) (Ay _) (.arr .nil) (by rfl) (by simpa using AeR xs (by omega))
    simp_all
   ·have:=Ox (σ:=⟨G (dv h m c)::Qt j (Ei (I xs) 0 xs),[]⟩) (q:=j+1) (t:=5) (sz:=3) (xs:=(Ei (I xs) 0 xs).map c8) (by decide) (fun x hx=>by obtain⟨s,_,rfl⟩:=I2.1 hx;rfl) (by grind[Ps]) (PJ _ _ _) he
    rw[VI] at this
    rwa[show replicate j none++[none]=replicate (j+1) (none:Option (List D)) by rw[List.replicate_succ']] at this
theorem AdK(h:c7)(hh:L3 h)(m:cz)(c:b9)(n:Nat)(hn:n<I h.found):Aa PP 68 [.ptr 0 0,di n] (f0 h m c) (.v (B2 (wayM h n))) (f0 h m c):=by
 obtain⟨b,hb⟩:∃b,h.before[n]?=G b:=⟨_,HI (by rw[hh.bl];exact hn)⟩
 obtain⟨rl,hr⟩:∃b,h.av[n]?=G b:=⟨_,HI (by rw[hh.rl];exact hn)⟩
 obtain⟨v,hv⟩:∃b,h.found[n]?=G b:=⟨_,HI hn⟩
 have hbk:=hh.back n b hb
 have hlen:=hh.len
 by_cases hb0:b>=0
 ·refine sv sx 47 [] (.n<|.x (vi b)<|.t<|.x (vi rl)<|.h (.xs (Ac v))<|.c (dV v)<|.h (.gx [] (G (dv h m c)::Qt 0 [(rl,v)]))<|.x (vi b)<|.l [ke 0,ch 1 (di b.toNat),ch 5 (.gro 1 [(rl,v)].length 3)]) (0<=(n:Int)/\(cc h.before)[Z (n:Int)]?=G (vi b)/\Y (b>=0)=J/\0<=(n:Int)/\(cc h.av)[Z (n:Int)]?=G (vi rl)/\Q 2/\0<=(n:Int)/\(ce h.found)[Z (n:Int)]?=G (Ac v)/\qf v/\[ab [vi rl,vi v.n,dt v.az]]≠ []/\(∀(y:V),y∈ [ab [vi rl,vi v.n,dt v.az]]->V.size y=3)/\Ao 1 40/\G (dv h m c)::Qt 0 [(rl,v)]=[G (dv h m c),G [di rl,di v.n,cq v.az]]/\yo/\0<=(n:Int)/\(cc h.before)[Z (n:Int)]?=G (vi b)/\di b=di (↑(Z b):Int)/\Q (bm 1 1 3)/\I0 sx (I (f0 h m c).H) (bt (B2 (wayM h (n:Int)))) (f0 h m c) [kl r7 [1,1,0,0,0],bf 0,kc r7 [1,1,1]] (cy 47 [jx,(1,di (↑(Z b):Int)),(5,bm 1 1 3)]) (bh (G (dv h m c)::Qt 0 [(rl,v)]) [])) ?_
  have hw:FB h 200 n=(rl,v)::FB h 199 b:=by
   rw[FB,IR,HQ,HQ,HQ,hb,hr,hv]
   grind
  obtain⟨b',rfl⟩:∃b':Nat,b=b':=⟨b.toNat,by omega⟩
  have hi:=AdL h hh m c 199 b' 0 [(rl,v)] (by omega) (by omega) (by simp) (by simp)
  refine⟨by omega,Am hb,HK hb0,by omega,Am hr,rfl,by omega,Ap hv,Gi _ v (HP _) (by have:=hh.size v (HO hv);omega),by simp,fun y hy=>by rw[HY.1 hy];rfl,⟨by decide,by decide⟩,rfl,ym,by omega,Am hb,rfl,rfl,⟨?_⟩⟩
  grind[wayM]
 ·refine sv sx 47 [] (.n<|.x (vi b)<|.f<|.c (.tup []) .r) (0<=(n:Int)/\(cc h.before)[Z (n:Int)]?=G (vi b)/\Y (b>=0)=O/\F0 122 [bt (ai [])] (bk [])/\Q [G (dv h m c)]/\bt (ai [])=bt (B2 (wayM h (n:Int)))) ?_
  have hw:FB h 200 n=[]:=by
   grind[FB]
  exact⟨by omega,Am hb,HM hb0,Ajb,rfl,by rw[wayM,hw];rfl⟩
abbrev F7(h:c7)(m:cz)(c:b9):List D:=[.acc 1 (h.found.map eV),.acc 2 (h.before.map vi),.acc 3 (h.av.map vi),di h.next,di h.cand,di h.used,di m.kind,.v (cp m.aw),.v (cp m.ay),.v (cp m.ax),.v (cw m.au),di m.ao,di m.age,.v (BF m.av),di m.start.n,cq m.start.az,di c.n,cq c.az]
abbrev d9:List D:=[db O,db O,.v .nils,.v .nils,di 0,.v .nils,.v .nils,di 0]
theorem Gq(h:c7)(m:cz)(c:b9)(H:List (Option (List D)))(own:List (Nat×Nat×List V))(e:List D):Cv e ⟨G (F7 h m c)::H,own⟩ e ⟨G (dv h m c)::H,own⟩:=
 D0 (σ:=⟨G (F7 h m c)::H,own⟩) (q:=0) (cs:=F7 h m c) (cs':=dv h m c) rfl (fun g us hr=>by
  have:=EV hr
  simpa[D.un] using this) (fun _ x hx=>by
  simp only[dv,Iz,Jr,or_false] at hx
  rcases hx with rfl|rfl|rfl|rfl|rfl|rfl|rfl|rfl|rfl|rfl|rfl|rfl|rfl|rfl|rfl|rfl|rfl|rfl<;>rfl) e
noncomputable abbrev AqB:=Tryz.f67
theorem EX(h:c7)(m:cz)(c:b9):Aa PP 67 [.ptr 0 0] (f0 h m c) (Cr (Aq h.used)) (f0 h m c):=by
 exact sv AqB 9 [] .r (Q [G (dv h m c)]/\bt (ab [bu false,bu false,ai [],ai [],vi 0,ai [],ai [],vi h.used])=Cr (Aq h.used)) ⟨rfl,rfl⟩
noncomputable abbrev Aqb:=Tryz.f37
theorem AdD(h:c7)(m:cz)(c:b9)(l:List cb):Aa PP 37 [.ptr 0 0,.v (B2 l)] (f0 h m c) (Cr (Dn l h.used)) (f0 h m c):=by
 exact sv Aqb 12 [] .r (Q [G (dv h m c)]/\bt (ab [bu true,bu true,ai (U c8 l),ai [],vi 0,ai [],ai [],vi h.used])=Cr (Dn l h.used)) ⟨rfl,rfl⟩
noncomputable abbrev Ly:=Tryz.f38
noncomputable def NH:=yl Ly
def CA(h:c7)(at':Int)(s:cb):c7:=⟨h.found++[s.2],h.before++[at'],h.av++[s.1],h.next,h.cand,h.used⟩
def BG(c:b9)(at':Int):c7->List cb->c7×e9×Int
 |h,[]=>(h,Aq h.used,0)
 |h,s::l=>if Y (Dj h.found s.2>=0)=J then BG c at' h l
  else if Y ((I h.found:Int)>=128)=J then(h,Aq 0,1)
  else if (!(Ar s.2 c==0))=J then BG c at' (CA h at' s) l
  else if Y ((I (wayM (CA h at' s) (I h.found)):Int)>64)=J then(CA h at' s,Aq 0,1)
  else(CA h at' s,Dn (wayM (CA h at' s) (I h.found)) h.used,0)
abbrev RK(r:c7×e9×Int):D:=.tup [Cr r.2.1,di r.2.2]
theorem TO{h:c7}(hh:L3 h)(hl:I h.found<128){at':Int}(ha:0<=at'/\at'<I h.found){s:cb}(hs:s.2.size<=1000):L3 (CA h at' s) where
 ne:=by simp[CA]
 len:=by grind[CA]
 size:=fun v hv=>by
  rcases I6.1 hv with hv|hv
  ·exact hh.size v hv
  grind
 bl:=by have:=hh.bl;grind[CA]
 rl:=by have:=hh.rl;grind[CA]
 back:=fun i b hb=>by
  have hbl:=hh.bl
  by_cases hi:i<I h.before
  ·rw[CA,Ig hi] at hb;exact hh.back i b hb
  grind[CA]
abbrev ln(h:c7)(m:cz)(c:b9):St:=⟨[G (F7 h m c),G d9],fu h⟩
noncomputable abbrev td:=fun a₀=>(ab [bu (Aq a₀).decided,bu (Aq a₀).yes,ai [],ai [],vi (Aq a₀).mod,ai [],ai [],vi (Aq a₀).used])
noncomputable abbrev ot:=(ab [bu false,bu false,ai [],ai [],vi 0,ai [],ai [],vi 0])
noncomputable abbrev Avb:=[kl NH [1,1,1,1,1,1,0,1,0,0],bf 0,kc NH [1,1,1,1,1,1,1]]
theorem Rz(m:cz)(c:b9)(at':Int)(l:List cb)(hll:I l<=256)(hls:∀s∈l,s.2.size<=1000)(N:Nat):∀(k:Nat) (h:c7),I l-k=N->L3 h->0<=at'/\at'<I h.found->
  Rn PP Ly 1 (RK (BG c at' h (l.drop k))) (f0 (BG c at' h (l.drop k)).1 m c) ([kl NH [1,1,1,1,1,1,0,1,0,0],.blk 0,kc NH [1,1,1,1,1,1,1]]++[]) (cy 143 [(0,.ptr 0 0),(2,.ptr 1 0),(4,di at'),(54,.v (B2 l)),(55,di (I l)),(56,di k)]) (ln h m c):=by
 induction N with
 |zero=>
  intro k h hn hh ha
  rw[Ic (by omega)]
  simp only[BG]
  exact lv 143 [] (.f<|.h (.q 21 0)<|.h (.cs ⟨[G (dv h m c),G d9],fu h⟩)<|.c1 (dv h m c) (Cr (Aq h.used)) .r) (Y ((k:Int)<(I l:Int))=O/\(∀(e:List D) (E:cd) (g:Gh) (a:Act) (w:x5),FI E g (bh [G (F7 h m c),G d9] (j7 h.av h.before h.found)) e a w->∃g',FI E g' (bh [G (dv h m c),G d9] (fu h)) e a w)/\_/\Q [G (dv h m c)]/\bk [bt (td h.used),di 0]=RK (h,Aq h.used,0)) ⟨yq,fun e=>Gq h m c _ _ e,EX h m c,rfl,rfl⟩
 |succ N ih=>
  intro k h hn hh ha
  have hk:k<I l:=by omega
  obtain⟨s,hs⟩:∃s,l[k]?=G s:=⟨_,HI hk⟩
  have e3:l.drop k=s::l.drop (k+1):=by rw[HX hk];congr 1;rw[HI hk] at hs;simpa using hs
  have hss:=hls s (HO hs)
  rw[e3]
  have hlen:=hh.len
  have hbl:=hh.bl
  have hrl:=hh.rl
  have hidx:=Mn h.found (by omega) (fun v hv=>by have:=hh.size v hv;omega) s.2
  have hown:=Gi _ s.2 (HP _) (by omega)
  have hsame:=FZ s.2 c (by omega)
  have hA:F7 (CA h at' s) m c=[br 1 (h.found.map eV++[Ac s.2]),br 2 (h.before.map vi++[vi at']),br 3 (h.av.map vi++[vi s.1]),di h.next,di h.cand,di h.used,di m.kind,.v (cp m.aw),.v (cp m.ay),.v (cp m.ax),.v (cw m.au),di m.ao,di m.age,.v (BF m.av),di m.start.n,cq m.start.az,di c.n,cq c.az]:=by
   rw[BM]
   show [br 1 ((h.found++[s.2]).map eV),br 2 ((h.before++[at']).map vi),br 3 ((h.av++[s.1]).map vi),_,_,_,_,_,_,_,_,_,_,_,_,_,_,_]=_
   simp only[IZ,Ik,IF];rfl
  have hO:fu (CA h at' s)=[(3,1,h.av.map vi++[vi s.1]),(2,1,h.before.map vi++[vi at']),(1,2,h.found.map eV++[Ac s.2])]:=by
   rw[BM]
   show [(3,1,(h.av++[s.1]).map vi),(2,1,(h.before++[at']).map vi),(1,2,(h.found++[s.2]).map eV)]=_
   simp only[IZ,Ik,IF]
  have lk:∀{n:Nat} {b:Nat},n<=128->b<=100->Ao (n+1) b:=fun{n b} h1 h2=>⟨by
   have:=Nat.mul_le_mul (show n+1<=129 by omega) h2
   omega,by omega⟩
  by_cases h1:Y (Dj h.found s.2>=0)=J
  ·rw[BG,Ie h1]
   exact lv 143 [] (.t<|.x (c8 s)<|.c (di (Dj h.found s.2))<|.t<|.ls [ke 0,ke 2,ke 4,ke 54,ke 55,ch 56 (di (k+1:Nat))] (ln h m c)) (Y ((k:Int)<(I l:Int))=J/\0<=(k:Int)/\(U c8 l)[Z (k:Int)]?=G (c8 s)/\_/\yo/\_/\di (yu yt ((k:Int)+1))=di (↑(k+1):Int)/\Q (ln h m c).H/\Q (ln h m c).own/\_) ⟨yr,by omega,Am hs,hidx,ym,h1,Ae,rfl,rfl,iK (ih (k+1) h (by omega) hh ha)⟩
  ·have f1:=HU h1
   by_cases h2:Y ((I h.found:Int)>=128)=J
   ·rw[BG,HZ h1,Ie h2]
    exact lv 143 [] (.t<|.x (c8 s)<|.c (di (Dj h.found s.2))<|.f<|.t<|.h (.q 13 0)<|.h (.cs ⟨[G (dv h m c),G d9,G [di s.1,di s.2.n,cq s.2.az]],fu h⟩) .r) (Y ((k:Int)<(I l:Int))=J/\0<=(k:Int)/\(U c8 l)[Z (k:Int)]?=G (c8 s)/\_/\yo/\_/\Y ((I (ce h.found):Int)>=128)=J/\(∀(e:List D) (E:cd) (g:Gh) (a:Act) (w:x5),FI E g (bh [G (F7 h m c),G d9,G [bt (vi s.fst),bt (vi s.snd.n),cq s.snd.az]] (j7 h.av h.before h.found)) e a w->∃g',FI E g' (bh [G (dv h m c),G d9,G [di s.fst,di s.snd.n,cq s.snd.az]] (fu h)) e a w)/\Q [G (dv h m c)]/\bk [bt ot,di 1]=RK (h,Aq 0,1)) ⟨yr,by omega,Am hs,hidx,ym,f1,by rw[HH];exact h2,fun e=>Gq h m c _ _ e,rfl,rfl⟩
   ·have f2:=HU h2
    have hlt:I h.found<128:=by have:=I3 f2;omega
    have hok:=TO hh hlt ha hss
    by_cases h3:(!(Ar s.2 c==0))=J
    ·rw[BG,HZ h1,HZ h2,Ie h3]
     refine lv 143 [] (.t<|.x (c8 s)<|.c (di (Dj h.found s.2))<|.f<|.f<|.c (dV s.2)<|.c (db (Ar s.2 c==0))<|.t<|.ls [ke 0,ke 2,ke 4,ke 54,ke 55,ch 56 (di (k+1:Nat))] (ln (CA h at' s) m c)) (Y ((k:Int)<(I l:Int))=J/\0<=(k:Int)/\(U c8 l)[Z (k:Int)]?=G (c8 s)/\_/\yo/\_/\Y ((I (ce h.found):Int)>=128)=O/\_/\Q (ce h.found)/\Ao (I (ce h.found)+I (Ac s.snd::nV)) 32/\Q (cc h.before)/\Ao (I (cc h.before)+I (aa yt at'::nV)) 8/\Q (cc h.av)/\Ao (I (cc h.av)+I (vi s.fst::nV)) 8/\(True/\True/\(Q (G [br 2 (cc h.before)])/\True)/\(Q (G [br 3 (cc h.av)])/\Q (G [br 3 (cc h.av)])/\True)/\(Q (G [di s.fst])/\Q (G [di s.fst])/\True)/\True)/\_/\yo/\_/\di (yu yt ((k:Int)+1))=di (↑(k+1):Int)/\[G [br 1 (U eV h.found++Ac s.snd::nV),br 2 (U vi h.before++vi at'::nV),br 3 (U vi h.av++vi s.fst::nV),di h.next,di h.cand,di h.used,di m.kind,bt (cp m.aw),bt (cp m.ay),bt (cp m.ax),cx m.au,di m.ao,di m.age,bt (BF m.av),di m.start.n,cq m.start.az,di c.n,cq c.az],G d9]=[G (F7 (CA h at' s) m c),G d9]/\_/\I0 Ly 1 (RK (BG c at' (CA h at' s) (W (k+1) l))) (f0 (BG c at' (CA h at' s) (W (k+1) l)).fst m c) Avb (cy 143 [jx,(2,bq 1 0),(4,di at'),(54,bt (B2 l)),(55,di (I l:Int)),(56,di (↑(k+1):Int))]) (ln (CA h at' s) m c)) ⟨yr,by omega,Am hs,hidx,ym,f1,by rw[HH];exact f2,hown,rfl,by rw[HH];exact lk (by omega) (by decide),rfl,by rw[HH];exact lk (by omega) (by decide),rfl,by rw[HH];exact lk (by omega) (by decide),⟨trivial,trivial,⟨rfl,trivial⟩,⟨rfl,rfl,trivial⟩,⟨rfl,rfl,trivial⟩,trivial⟩,hsame,ym,h3,Ae,?_,hO.symm,⟨ih (k+1) (CA h at' s) (by omega) hok ⟨ha.1,?_⟩⟩⟩
     ·rw[hA]
     ·simp only[CA,HW,HN,HR];omega
    ·have f3:=HU h3
     obtain⟨w,hw⟩:∃w,w=wayM (CA h at' s) (I h.found):=⟨_,rfl⟩
     obtain⟨h',hh'⟩:∃h',h'=CA h at' s:=⟨_,rfl⟩
     have hway:Aa PP 68 [.ptr 0 0,di (yt.wrap ((I (h'.found.map eV):Nat)-1:Int))] (f0 h' m c) (.v (B2 w)) (f0 h' m c):=by
      subst hh'
      have hl:I ((CA h at' s).found.map eV)=I h.found+1:=by rw[HH];simp[CA]
      rw[hl,Ak,show((I h.found+1:Nat):Int)-1=(I h.found:Int) by omega,hw]
      exact AdK _ hok m c (I h.found) (by simp[CA])
     have hcv:∀e:List D,Cv e ⟨[G [br 1 (h.found.map eV++[Ac s.2]),br 2 (h.before.map vi++[vi at']),br 3 (h.av.map vi++[vi s.1]),di h.next,di h.cand,di h.used,di m.kind,.v (cp m.aw),.v (cp m.ay),.v (cp m.ax),.v (cw m.au),di m.ao,di m.age,.v (BF m.av),di m.start.n,cq m.start.az,di c.n,cq c.az],G d9,G [di s.1,di s.2.n,cq s.2.az]],[(3,1,h.av.map vi++[vi s.1]),(2,1,h.before.map vi++[vi at']),(1,2,h.found.map eV++[Ac s.2])]⟩ e ⟨[G (dv h' m c),G d9,G [di s.1,di s.2.n,cq s.2.az]],fu h'⟩:=fun e=>by
      have:=Gq (CA h at' s) m c [G d9,G [di s.1,di s.2.n,cq s.2.az]] (fu (CA h at' s)) e
      rw[hA] at this
      rw[hh', ←hO];exact this
     have hyes:=AdD h' m c w
     by_cases h4:Y ((I w:Int)>64)=J
     ·rw[BG,HZ h1,HZ h2,HZ h3,Ie (by rw[←hw];exact h4), ←hh']
      exact lv 143 [] (.t<|.x (c8 s)<|.c (di (Dj h.found s.2))<|.f<|.f<|.c (dV s.2)<|.c (db (Ar s.2 c==0))<|.f<|.h (.q 16 0)<|.h (.cs ⟨[G (dv h' m c),G d9,G [di s.1,di s.2.n,cq s.2.az]],fu h'⟩)<|.c1 (dv h' m c) (.v (B2 w))<|.t .r) (Y ((k:Int)<(I l:Int))=J/\0<=(k:Int)/\(U c8 l)[Z (k:Int)]?=G (c8 s)/\_/\yo/\_/\Y ((I (ce h.found):Int)>=128)=O/\_/\Q (ce h.found)/\Ao (I (ce h.found)+I (Ac s.snd::nV)) 32/\Q (cc h.before)/\Ao (I (cc h.before)+I (aa yt at'::nV)) 8/\Q (cc h.av)/\Ao (I (cc h.av)+I (vi s.fst::nV)) 8/\(True/\True/\(Q (G [br 2 (cc h.before)])/\True)/\(Q (G [br 3 (cc h.av)])/\Q (G [br 3 (cc h.av)])/\True)/\(Q (G [di s.fst])/\Q (G [di s.fst])/\True)/\True)/\_/\yo/\_/\_/\_/\Y ((I (U c8 w):Int)>64)=J/\Q [G (dv h' m c)]/\bk [bt ot,di 1]=RK (h',Aq 0,1)) ⟨yr,by omega,Am hs,hidx,ym,f1,by rw[HH];exact f2,hown,rfl,by rw[HH];exact lk (by omega) (by decide),rfl,by rw[HH];exact lk (by omega) (by decide),rfl,by rw[HH];exact lk (by omega) (by decide),⟨trivial,trivial,⟨rfl,trivial⟩,⟨rfl,rfl,trivial⟩,⟨rfl,rfl,trivial⟩,trivial⟩,hsame,ym,f3,hcv,hway,by rw[HH];exact h4,rfl,rfl⟩
     ·rw[BG,HZ h1,HZ h2,HZ h3,HZ (by rw[←hw];exact h4), ←hw, ←hh']
      refine lv 143 [] (.t<|.x (c8 s)<|.c (di (Dj h.found s.2))<|.f<|.f<|.c (dV s.2)<|.c (db (Ar s.2 c==0))<|.f<|.h (.q 16 0)<|.h (.cs ⟨[G (dv h' m c),G d9,G [di s.1,di s.2.n,cq s.2.az]],fu h'⟩)<|.c1 (dv h' m c) (.v (B2 w))<|.f<|.c1 (dv h' m c) (Cr (Dn w h.used)) .r) (Y ((k:Int)<(I l:Int))=J/\0<=(k:Int)/\(U c8 l)[Z (k:Int)]?=G (c8 s)/\F0 49 [bt (ai (ce h.found)),dV s.snd] (di (Dj h.found s.snd))/\yo/\Y (Dj h.found s.snd>=0)=O/\Y ((I (ce h.found):Int)>=128)=O/\qf s.snd/\Q (ce h.found)/\Ao (I (ce h.found)+I (Ac s.snd::nV)) 32/\Q (cc h.before)/\Ao (I (cc h.before)+I (aa yt at'::nV)) 8/\Q (cc h.av)/\Ao (I (cc h.av)+I (vi s.fst::nV)) 8/\(True/\True/\(Q (G [br 2 (cc h.before)])/\True)/\(Q (G [br 3 (cc h.av)])/\Q (G [br 3 (cc h.av)])/\True)/\(Q (G [di s.fst])/\Q (G [di s.fst])/\True)/\True)/\F0 22 [dV s.snd,dV c] (db (Ar s.snd c==0))/\yo/\(!Ar s.snd c==0)=O/\(∀(e:List D) (E:cd) (g:Gh) (a:Act) (w:x5),FI E g (bh [G [br 1 (U eV h.found++[Ac s.snd]),br 2 (U vi h.before++[aa yt at']),br 3 (U vi h.av++[vi s.fst]),di h.next,di h.cand,di h.used,di m.kind,bt (cp m.aw),bt (cp m.ay),bt (cp m.ax),cx m.au,di m.ao,di m.age,bt (BF m.av),di m.start.n,cq m.start.az,di c.n,cq c.az],G d9,G [bt (vi s.fst),bt (vi s.snd.n),cq s.snd.az]] [(3,1,U vi h.av++[vi s.fst]),(2,1,U vi h.before++[aa yt at']),(1,2,U eV h.found++[Ac s.snd])]) e a w->∃g',FI E g' (bh [G (dv h' m c),G d9,G [di s.fst,di s.snd.n,cq s.snd.az]] (fu h')) e a w)/\Aa PP 68 [bq 0 0,di (yu yt ((I (ce h'.found):Int)-1))] (bh [G (dv h' m c)] []) (bt (B2 w)) (bh [G (dv h' m c)] [])/\Y ((I (U c8 w):Int)>64)=O/\Aa PP 37 [bq 0 0,bt (B2 w)] (bh [G (dv h' m c)] []) (Cr (Dn w h.used)) (bh [G (dv h' m c)] [])/\[G (dv h' m c)]=[G (dv (h',Dn w h.used,0).fst m c)]/\bk [bt (ab [bu (Dn w h.used).decided,bu (Dn w h.used).yes,ai (U c8 (Dn w h.used).run),ai [],vi (Dn w h.used).mod,ai [],ai [],vi (Dn w h.used).used]),di 0]=RK (h',Dn w h.used,0)) ?_
      rw[show h'.used=h.used by rw[hh'];rfl] at hyes
      exact⟨yr,by omega,Am hs,hidx,ym,f1,by rw[HH];exact f2,hown,rfl,by rw[HH];exact lk (by omega) (by decide),rfl,by rw[HH];exact lk (by omega) (by decide),rfl,by rw[HH];exact lk (by omega) (by decide),⟨trivial,trivial,⟨rfl,trivial⟩,⟨rfl,rfl,trivial⟩,⟨rfl,rfl,trivial⟩,trivial⟩,hsame,ym,f3,hcv,hway,by rw[HH];exact HU h4,hyes,rfl,rfl⟩
theorem e8{a:List b9}{n:Int}{x:b9}(h:a[n.toNat]?=G x):(a.map eV)[n.toNat]?=G (Ac x):=by grind[AH]
def BC(m:cz)(c:b9)(h:c7):c7×e9×Int:=if Y (h.next>=(I h.found:Int))=J then(h,Aq h.used,0)
 else if ((Em m (h.found.getD h.next.toNat default)).2 !=0)=J then(h,Aq 0,(Em m (h.found.getD h.next.toNat default)).2)
 else BG c h.next ⟨h.found,h.before,h.av,h.next+1,h.cand,h.used⟩ (Em m (h.found.getD h.next.toNat default)).1
noncomputable abbrev qb:=[bt (bu false),bt (bu false),dn,dn,bt (aa yt 0),dn,dn,bt (aa yt 0)]
theorem AbL(m:cz)(hm:em m)(c:b9)(h:c7)(hh:L3 h)(hn:0<=h.next)(hn2:h.next<=1000)(hf:∀v∈h.found,AN m v):Aa PP 38 [.ptr 0 0] ⟨[G (F7 h m c)],fu h⟩ (RK (BC m c h)) (f0 (BC m c h).1 m c):=by
 by_cases h1:Y (h.next>=(I h.found:Int))=J
 ·rw[BC,Ie h1]
  exact sv Ly 143 [] (.t<|.h (.q 3 0)<|.h (.cs ⟨[G (dv h m c),G d9],fu h⟩)<|.c1 (dv h m c) (Cr (Aq h.used)) .r) (Y (h.next>=(I (ce h.found):Int))=J/\(∀(e:List D) (E:cd) (g:Gh) (a:Act) (w:x5),FI E g (bh [G (F7 h m c),G qb] (j7 h.av h.before h.found)) e a w->∃g',FI E g' (bh [G (dv h m c),G d9] (fu h)) e a w)/\_/\Q [G (dv h m c)]/\bk [bt (td h.used),di 0]=RK (h,Aq h.used,0)) ⟨by rw[HH];exact h1,fun e=>Gq h m c _ _ e,EX h m c,rfl,rfl⟩
 ·have f1:=HU h1
  have hlt:=I3 f1
  obtain⟨v,hv⟩:∃v,h.found[h.next.toNat]?=G v:=⟨_,HI (show h.next.toNat<I h.found by omega)⟩
  have hvc:=hf v (HO hv)
  have hall:=Aab m hm v hvc
  have hst:=Mj hm hvc
  have e1:h.found.getD h.next.toNat default=v:=by rw[HQ,hv];rfl
  rw[BC,HZ h1,e1]
  generalize Em m v=p at*
  by_cases h2:(p.2 !=0)=J
  ·rw[Ie h2]
   exact sv Ly 143 [] (.f<|.h (.xs (Ac v))<|.c (fw p)<|.t<|.h (.q 6 0)<|.h (.cs ⟨[G (dv h m c),G d9],fu h⟩) .r) (Y (h.next>=(I (ce h.found):Int))=O/\Q 2/\_/\(ce h.found)[Z h.next]?=G (Ac v)/\_/\yo/\_/\(∀(e:List D) (E:cd) (g:Gh) (a:Act) (w:x5),FI E g (bh [G (F7 h m c),G qb] (j7 h.av h.before h.found)) e a w->∃g',FI E g' (bh [G (dv h m c),G d9] (fu h)) e a w)/\Q [G (dv h m c)]/\bk [bt ot,di p.snd]=RK (h,Aq 0,p.snd)) ⟨by rw[HH];exact f1,rfl,hn,e8 hv,hall,ym,h2,fun e=>Gq h m c _ _ e,rfl,rfl⟩
  ·rw[HZ h2]
   obtain⟨h',hh'⟩:∃h':c7,h'=⟨h.found,h.before,h.av,h.next+1,h.cand,h.used⟩:=⟨_,rfl⟩
   rw[←hh']
   have hlen:=hh.len
   have hk':L3 h':=by rw[hh'];exact⟨hh.ne,hh.len,hh.size,hh.bl,hh.rl,hh.back⟩
   have hl:=Rz m c h.next p.1 (by omega) (fun s hs=>by have:=(hst.2.2 s hs).ok.size hm;omega) _ 0 h' rfl hk' (by rw[hh'];exact⟨hn,by show h.next<(I h.found:Int);omega⟩)
   refine sv Ly 143 [] (.f<|.h (.xs (Ac v))<|.c (fw p)<|.f<|.ls [ke 0,ke 2,ke 4,ch 54 (.v (B2 p.1)),ch 55 (di (I p.1)),ch 56 (di (0:Nat))] (ln h' m c)) (Y (h.next>=(I (ce h.found):Int))=O/\Q 2/\_/\(ce h.found)[Z h.next]?=G (Ac v)/\_/\yo/\(p.snd !=0)=O/\Q (bt (B2 p.fst))/\di (I (U c8 p.fst):Int)=di (I p.fst:Int)/\Q (di 0)/\[G [br 1 (ce h.found),br 2 (cc h.before),br 3 (cc h.av),di (yu yt (h.next+1)),di h.cand,di h.used,di m.kind,bt (cp m.aw),bt (cp m.ay),bt (cp m.ax),cx m.au,di m.ao,di m.age,bt (BF m.av),di m.start.n,cq m.start.az,di c.n,cq c.az],G [db O,db O,dn,dn,di 0,dn,dn,di 0]]=[G (F7 h' m c),G d9]/\[(3,1,U vi h.av),(2,1,U vi h.before),(1,2,U eV h.found)]=(j7 h'.av h'.before h'.found)/\I0 Ly (I (bh [G (F7 h m c)] (fu h)).H) (RK (BG c h.next h' p.fst)) (f0 (BG c h.next h' p.fst).fst m c) Avb (cy 143 [jx,(2,bq 1 0),(4,di h.next),(54,bt (B2 p.fst)),(55,di (I p.fst:Int)),(56,di (↑0:Int))]) (ln h' m c)) ⟨by rw[HH];exact f1,rfl,hn,e8 hv,hall,ym,HU h2,rfl,by rw[HH],rfl,?_,by rw[hh'],⟨by simpa using hl⟩⟩
   rw[hh',Ak]
abbrev f9:Int:=1099511627776
def Ck:List Int->List Int->Int
 |c::cs,v::vs=>c*v+Ck cs vs
 |_,_=>0
noncomputable abbrev vm:=Tryz.f100
noncomputable def Y6:=yl vm
theorem AhU{c v:Int}(hc: -4<=c/\c<=4)(hv:0<=v/\v<=1048576): -4194304<=c*v/\c*v<=4194304:=by
 have h:c= -4∨c= -3∨c= -2∨c= -1∨c=0∨c=1∨c=2∨c=3∨c=4:=by omega
 grind
theorem G8:∀(cs vs:List Int),(∀c∈cs, -4<=c/\c<=4)->(∀v∈vs,0<=v/\v<=1048576)-> -(4194304*I cs)<=Ck cs vs/\Ck cs vs<=4194304*I cs
 |[],_,_,_=>by simp[Ck]
 |c::cs,[],_,_=>by grind[Ck]
 |c::cs,v::vs,hc,hv=>by
  have h1:=G8 cs vs (fun c h=>hc c (by simp[h])) (fun v h=>hv v (by simp[h]))
  have h2:=AhU (hc c (by simp)) (hv v (by simp))
  grind[Ck]
theorem Abz(cs vs:List Int)(hl:I cs<=I vs)(hl2:I cs<=100)(hc:∀c∈cs, -4<=c/\c<=4)(hv:∀v∈vs,0<=v/\v<=1048576)(N:Nat):∀(k:Nat) (a:Int),I cs-k=N->k<=I cs-> -(4194304*(k:Int))<=a/\a<=4194304*(k:Int)->
  Rn PP vm 0 (di (a+Ck (cs.drop k) (vs.drop k))) ba ([kl Y6 [1,1,0,1,0,0],.blk 0,kc Y6 [1,1,1]]++[]) (cy 25 [(1,cx vs),(5,di a),(8,cx cs),(9,di (I cs)),(10,di k)]) ba:=by
 induction N with
 |zero=>
  intro k a hn hk ha
  refine lv 25 [] (.f .r) (Y ((k:Int)<(I cs:Int))=O/\di a=di (a+Ck (W k cs) (W k vs))) ?_
  grind[List.drop_of_length_le,Ck]
 |succ N ih=>
  intro k a hn hk ha
  obtain⟨c,hc1⟩:=yk (show k<I cs by omega)
  obtain⟨v,hv1⟩:=yk (show k<I vs by omega)
  refine lv 25 [] (.t<|.x (vi c)<|.x (vi v)<|.l [ke 1,ch 5 (di (a+c*v)),ke 8,ke 9,ch 10 (di (k+1:Nat))]) (Y ((k:Int)<(I cs:Int))=J/\0<=(k:Int)/\(U vi cs)[Z (k:Int)]?=G (vi c)/\0<=(k:Int)/\(U vi vs)[Z (k:Int)]?=G (vi v)/\di (yu yt (a+yu yt (c*v)))=di (a+c*v)/\di (yu yt ((k:Int)+1))=di (↑(k+1):Int)/\I0 vm 0 (di (a+Ck (W k cs) (W k vs))) ba [kl Y6 ee,bf 0,kc Y6 [1,1,1]] (cy 25 [(1,cx vs),(5,di (a+c*v)),(8,cx cs),(9,di (I cs:Int)),(10,di (↑(k+1):Int))]) ba) ?_
  have h2:=AhU (hc c (HO hc1)) (hv v (HO hv1))
  have e3:cs.drop k=c::cs.drop (k+1):=by rw[HX (by omega)];grind
  have e4:vs.drop k=v::vs.drop (k+1):=by rw[HX (by omega)];grind
  have hi:=ih (k+1) (a+c*v) (by omega) (by omega) (by omega)
  rw[e3,e4]
  simp only[Ck]
  rw[←Int.add_assoc]
  refine⟨yr,by omega,Am hc1,by omega,Am hv1,?_,Ae,⟨hi⟩⟩
  grind[Ak]
theorem JZ(cs vs:List Int)(hl:I cs<=I vs)(hl2:I cs<=100)(hc:∀c∈cs, -4<=c/\c<=4)(hv:∀v∈vs,0<=v/\v<=1048576):F0 100 [cx cs,cx vs] (di (Ck cs vs)):=by
 have:=Abz cs vs hl hl2 hc hv _ 0 0 rfl (by omega) (by omega)
 simp only[Int.zero_add,Jt] at this
 exact sv vm 25 [] (.l [ke 1,ke 5,ke 8,ch 9 (di (I cs)),ch 10 (di (0:Nat))]) (di (I (U vi cs):Int)=di (I cs:Int)/\Q (di 0)/\I0 vm (I ba.H) (di (Ck cs vs)) ba [kl Y6 ee,bf 0,kc Y6 [1,1,1]] (cy 25 [(1,cx vs),(5,di 0),(8,cx cs),(9,di (I cs:Int)),(10,di (↑0:Int))]) ba) ⟨by grind,rfl,⟨this⟩⟩
noncomputable abbrev AmR:=Tryz.f139
theorem KN(n k:Int)(hk:1<=k/\k<=100)(_: -1125899906842624<=n/\n<=1125899906842624):F0 139 [di n,di k] (di (n%k)):=by
 refine sv AmR 12 [] .r (k≠0/\k≠0/\di (Int.tmod (yu yt (Int.tmod n k+k)) k)=di (n%k)) ?_
 have h1:=Int.lt_tmod_of_pos n (show 0<k by omega)
 have h2:=Int.tmod_lt_of_pos n (show 0<k by omega)
 have e1:yt.wrap (n.tmod k+k)=n.tmod k+k:=Ak
 rw[e1]
 refine⟨by omega,by omega,?_⟩
 congr 3
 rw[Int.tmod_eq_emod_of_nonneg (by omega),Int.add_emod_right]
 have e:=Int.mul_tdiv_add_tmod n k
 conv=>rhs;rw[←e,Int.add_comm,Int.add_mul_emod_self_left]
noncomputable abbrev Apm:=Tryz.f99
def C6(cs:List Int)(r:cf):Int:=Ck cs r.ak-Ck cs r.am
theorem Rr(m:cz)(r:cf)(hr:Sn m r)(cs:List Int)(hl:I cs=I m.ay)(hl2:I cs<=2)(hc:∀c∈cs, -4<=c/\c<=4):F0 99 [cx cs,BP r] (di (C6 cs r)):=by
 have b1:∀v∈r.ak,0<=v/\v<=1048576:=fun v hv=>by have:=hr.ak v hv;omega
 have b2:∀v∈r.am,0<=v/\v<=1048576:=fun v hv=>by have:=hr.am v hv;omega
 have h1:=G8 cs r.ak hc b1
 have h2:=G8 cs r.am hc b2
 refine sv Apm 14 [3] (.c (di (Ck cs r.ak))<|.c (di (Ck cs r.am)) .r) (_/\_/\di (yu yt (Ck cs r.ak-Ck cs r.am))=di (C6 cs r)) ⟨JZ cs r.ak (by rw[hl,hr.giveL];omega) (by omega) hc b1,JZ cs r.am (by rw[hl,hr.needL];omega) (by omega) hc b2,?_⟩
 rw[Ak];rfl
noncomputable abbrev Apl:=Tryz.f94
noncomputable abbrev AmU:=Tryz.f161
def XD(c:Int):Bool:=Y (c< -4)||Y (c>4)
theorem XA(c:Int):F0 161 [di c] (db (XD c)):=by
 refine sv AmU 9 [] (.b .r .r) ((Y (c< -4)=J->db J=db (XD c))/\(Y (c< -4)=O->db (Y (c>4))=db (XD c))) ?_
 grind[XD]
theorem MK(cs:List Int)(hl:I cs<=1000):F0 94 [cx cs] (db (!cs.any XD)):=by
 refine sv Apl 6 [] (.c (db (cs.any XD)) .r) (F0 96 [cx cs,bt (bw 161 [] [])] (db (List.any cs XD))/\(db !List.any cs XD)=db !List.any cs XD) ?_
 grind[Di,XA]
noncomputable abbrev Api:=Tryz.f95
def m0(k:Int):Bool:=(k==0)||(Y (k>=2)&&Y (k<=8))
theorem MJ(k:Int):F0 95 [di k] (db (m0 k)):=by
 refine sv Api 13 [] (.b .r (.b .r .r)) (((k==0)=J->db J=db (m0 k))/\((k==0)=O->(Y (k>=2)=J->db (Y (k<=8))=db (m0 k))/\(Y (k>=2)=O->db O=db (m0 k)))) ?_
 grind[m0]
noncomputable abbrev AoQ:=Tryz.f93
theorem NX{m:cz}(hm:em m):F2 m=J:=by
 simp only[F2,hm.kind,HJ,I5]
 refine⟨rfl,fun r hr=>?_⟩
 rw[hm.move r hr];rfl
theorem JK(m:cz)(hm:em m):F0 93 [Ad m] (di 0):=by
 have h:=L9 m (by have:=hm.ay;omega)
 rw[NX hm] at h
 exact sv AoQ 12 [1] (.c (di 0)<|.c (db J) .r) (_/\_/\Q (di 0)) ⟨Es m hm.ok,h,rfl⟩
noncomputable abbrev AbN:=Tryz.f101
noncomputable def Y2:=yl AbN
abbrev Aon(xs:List Int):D:=.acc 1 (xs.map vi)
theorem ZW(ys:List Int)(hl:I ys<=1000)(n:Nat):∀k:Nat,I ys-k=n->
  Rn PP AbN 0 (cx ys) ba ([kl Y2 [1,1,0,1,0,0],.blk 0,kc Y2 [1,1,1]]++[]) (cy 21 [(3,Aon (ys.take k)),(8,cq (ys.map lf)),(9,di (I ys)),(10,di k)]) ⟨[],[(1,1,(ys.take k).map vi)]⟩:=by
 induction n with
 |zero=>
  intro k hn
  refine lv 21 [1] (.f .r) (Y ((k:Int)<(I ys:Int))=O/\bt (ai (U vi (take k ys)))=cx ys) ?_
  grind[List.take_of_length_le]
 |succ n ih=>
  intro k hn
  obtain⟨y,hy⟩:=yk (show k<I ys by omega)
  have ht:ys.take (k+1)=ys.take k++[y]:=by rw[IW,hy];rfl
  refine lv 21 [1] (.t<|.h (.xs (Ac (lf y)))<|.ls [ch 3 (Aon (ys.take (k+1))),ke 8,ke 9,ch 10 (di (k+1:Nat))] ⟨[],[(1,1,(ys.take (k+1)).map vi)]⟩) (Y ((k:Int)<(I ys:Int))=J/\Q 2/\0<=(k:Int)/\(U eV (U lf ys))[Z (k:Int)]?=G (Ac (lf y))/\Q (U vi (take k ys))/\Ao (I (U vi (take k ys))+I (vi (b9.n (lf y))::nV)) 8/\br 1 (U vi (take k ys)++[vi (b9.n (lf y))])=Aon (take (k+1) ys)/\di (yu yt ((k:Int)+1))=di (↑(k+1):Int)/\[(1,1,U vi (take k ys)++vi (b9.n (lf y))::nV)]=[(1,1,U vi (take (k+1) ys))]/\_) ⟨yr,rfl,by omega,Ap (by grind),rfl,⟨?_,?_⟩,?_,Ae,?_,iK (ih (k+1) (by omega))⟩
  all_goals grind[b9.n]
theorem QC(c:b9)(s:Int)(ys:List Int)(hc:km c s ys)(hl:I ys<=1000):F0 101 [dV c] (cx ys):=by
 have hd:=JX hc
 have hlen:I c.az=I ys+1:=hc.len
 refine sv AbN 21 [1] (.h (.q 2 0)<|.h (.nw 3 1 1)<|.ls [ke 3,ch 8 (cq (ys.map lf)),ch 9 (di (I ys)),ch 10 (di (0:Nat))] ⟨[],[(1,1,[])]⟩) ((∀(x:V),x∈U eV c.az->V.size x=2)/\0<=(1:Int)/\(1:Int)<=(I (ce c.az):Int)/\bt (ai (W (Z ((1:Int))) (take (I (ce c.az)) (ce c.az))))=cq (U lf ys)/\di (I (W (Z ((1:Int))) (take (I (ce c.az)) (ce c.az))):Int)=di (I ys:Int)/\Q (di 0)/\Q [(1,1,nV)]/\_) ⟨?_,by omega,?_,?_,?_,rfl,rfl,iK (ZW ys hl _ 0 rfl)⟩
 ·intro x hx;obtain⟨v,_,rfl⟩:=I2.1 hx;rw[AH];rfl
 all_goals grind
structure fh where
 coefs:List Int
 mod:Int
 vals:List Int
 deriving Inhabited
abbrev Q4(a:fh):V:=.agg [cw a.coefs,vi a.mod,cw a.vals]
abbrev m7(a:fh):D:=.v (Q4 a)
structure E3(m:cz)(a:fh):Prop where
 len:I a.coefs=I m.ay
 coef:∀c∈a.coefs, -4<=c/\c<=4
 mod:a.mod=0∨2<=a.mod/\a.mod<=8
 vlen:I a.vals=I m.aw
 val:∀v∈a.vals,v=f9∨(a.mod=0/\ -1099511627776<=v/\v<=1099511627775)∨(0<a.mod/\0<=v/\v<=a.mod-1)
noncomputable abbrev Apk:=Tryz.f98
def YL(a:fh)(amt:Int)(v:Int):Bool:=if (v==f9)=J then false else if (a.mod==0)=J then Y (amt>=v) else amt%a.mod==v
theorem Rq(m:cz)(a:fh)(ha:E3 m a)(amt:Int)(hb: -1125899906842624<=amt/\amt<=1125899906842624)(s:Int)(v:Int)(hs:0<=s)(hv:a.vals[s.toNat]?=G v):F0 98 [m7 a,di amt,di s] (db (YL a amt v)):=by
 refine sv Apk 29 [3] (.x (vi v)<|.b .r (.b .r (.c (di (amt%a.mod)) .r))) (0<=s/\(cc a.vals)[Z s]?=G (vi v)/\((v==1099511627776)=J->db O=db (YL a amt v))/\((v==1099511627776)=O->((a.mod==0)=J->db (Y (amt>=v))=db (YL a amt v))/\((a.mod==0)=O->F0 139 [di amt,di a.mod] (di (amt%a.mod))/\db (amt%a.mod==v)=db (YL a amt v)))) ?_
 have hm:=ha.mod
 grind[KN,YL]
noncomputable abbrev Apj:=Tryz.f55
def HG(a:fh)(c:b9):Bool:=YL a (Ck a.coefs (d6 c)) (a.vals.getD (ei c).toNat 0)
theorem Rp(m:cz)(hm:em m)(a:fh)(ha:E3 m a)(c:b9)(hc:AN m c):F0 55 [m7 a,dV c] (db (HG a c)):=by
 have hp:=hm.ay
 have hs:=hc.st
 obtain⟨v,hv⟩:∃v,a.vals[(ei c).toNat]?=G v:=⟨_,HI (by rw[ha.vlen];omega)⟩
 have hb:=G8 a.coefs (d6 c) ha.coef hc.nm
 have hl:=ha.len
 have hcl:=hc.len
 refine sv Apj 17 [2,3] (.c (cx (d6 c))<|.c (di (Ck a.coefs (d6 c)))<|.h (.xs (Ac (lf (ei c))))<|.c (db (HG a c)) .r) (_/\_/\Q 2/\iz 0<=0/\(ce c.az)[Z 0]?=G (Ac (lf (ei c)))/\F0 98 [bt (Q4 a),di (Ck a.coefs (d6 c)),di (b9.n (lf (ei c)))] (db (HG a c))/\Q (db (HG a c))) ⟨QC c _ _ hc.isC (by omega),JZ _ _ (by omega) (by omega) ha.coef hc.nm,rfl,by decide,Ap (i:=0) hc.isC.head,?_,rfl⟩
 have h:=Rq m a ha (Ck a.coefs (d6 c)) (by omega) (ei c) v hs.1 hv
 rw[HG,HQ,hv]
 exact h
noncomputable abbrev AmX:=Tryz.f53
noncomputable abbrev AmW:=Tryz.f97
theorem Oi(v lo hi:Int)(h:v=f9∨lo<=v/\v<=hi):F0 97 [di v,.v (.ref (vi lo)),.v (.ref (vi hi))] (db O):=by
 refine sv AmW 17 [] (.b (.f .r) .r) (((v !=1099511627776)=J->Y (v<lo)=O/\db (Y (v>hi))=db O)/\((v !=1099511627776)=O->Q (db O))) ?_
 grind
theorem AcV{m:cz}{a:fh}(ha:E3 m a):a.coefs.any XD=O:=by
 rw[List.any_eq_false]
 intro c hc
 have:=ha.coef c hc
 grind[XD]
theorem AcU{m:cz}{a:fh}(ha:E3 m a):m0 a.mod=J:=by
 rcases ha.mod with h|h
 all_goals grind[m0]
noncomputable abbrev w8:=fun a₀=>F0 94 [cx a₀] (db J)
noncomputable abbrev wa:=fun a₀=>F0 93 [Ad a₀] (di 0)
noncomputable abbrev wg:=fun a₀=>F0 95 [di a₀] (db J)
theorem AhZ(m:cz)(hm:em m)(a:fh)(ha:E3 m a):F0 53 [Ad m,m7 a] (di 0):=by
 by_cases h:a.mod=0
 ·refine sv AmX 51 [2,3] (.c (di 0)<|.k<|.f<|.c (db J)<|.c (db J)<|.k<|.f<|.f<|.h (.q 9 0)<|.h (.f1 0 [6])<|.h (.f1 1 [7])<|.c (db O) .r) (wa m/\((I (cc a.coefs):Int) !=(I (df m.ay):Int))=O/\w8 a.coefs/\wg a.mod/\((I (cc a.vals):Int) !=(I (df m.aw):Int))=O/\Y (a.mod>0)=O/\F0 96 [cx a.vals,bt (bw 97 [] [bz (vi (-1099511627776)),bz (vi 1099511627775)])] (db O)/\Q (di 0)) ?_
  have hp:=hm.ay
  have hl:=ha.len
  have hv:=ha.vlen
  have hf:=MK a.coefs (by omega)
  have hmd:=MJ a.mod
  rw[AcV ha] at hf
  rw[AcU ha] at hmd
  have hh:=Di 97 [] [.ref (vi (-1099511627776)),.ref (vi 1099511627775)] (fun _=>false) a.vals (by omega) (fun v hv=>Oi v (-1099511627776) 1099511627775 (by rcases ha.val v hv with h1|h1|h1<;>omega))
  grind[JK]
 ·refine sv AmX 51 [2,3] (.c (di 0)<|.k<|.f<|.c (db J)<|.c (db J)<|.k<|.f<|.t<|.h (.q 9 0)<|.h (.f1 0 [6])<|.h (.f1 1 [7])<|.c (db O) .r) (wa m/\((I (cc a.coefs):Int) !=(I (df m.ay):Int))=O/\w8 a.coefs/\wg a.mod/\((I (cc a.vals):Int) !=(I (df m.aw):Int))=O/\Y (a.mod>0)=J/\F0 96 [cx a.vals,bt (bw 97 [] [bz (vi 0),bz (vi (yu yt (a.mod-1)))])] (db O)/\Q (di 0)) ?_
  have hp:=hm.ay
  have hl:=ha.len
  have hv:=ha.vlen
  have hf:=MK a.coefs (by omega)
  have hmd:=MJ a.mod
  rw[AcV ha] at hf
  rw[AcU ha] at hmd
  have hmm:=ha.mod
  have hh:=Di 97 [] [.ref (vi 0),.ref (vi (a.mod-1))] (fun _=>false) a.vals (by omega) (fun v hv=>Oi v 0 (a.mod-1) (by rcases ha.val v hv with h1|h1|h1<;>omega))
  grind[JK,Ak]
noncomputable abbrev AmT:=Tryz.f30
theorem Oh(m:cz)(hm:em m)(a:fh)(ha:E3 m a)(c:b9)(hc:AN m c):F0 30 [Ad m,m7 a,dV c] (.tup [db (HG a c),di 0]):=by
 refine sv AmT 22 [3,4,5] (.c (di 0)<|.c (db J)<|.c (db (HG a c)) .r) (F0 53 [Ad m,bt (Q4 a)] (di 0)/\tg m c/\F0 55 [bt (Q4 a),dV c] (db (HG a c))/\Q (bk [db (HG a c),di 0])) ?_
 have hsz:=hc.size hm
 have h1:=EC m hm.ok c (by omega)
 rw[hc.valid hm] at h1
 grind[AhZ,Rp]
noncomputable abbrev T6:=Tryz.f54
noncomputable def Sb:=yl T6
def qy(a:fh)(r:cf):Bool:= !(a.vals.getD r.aj.toNat 0==f9)&& !YL a (a.vals.getD r.aj.toNat 0+C6 a.coefs r) (a.vals.getD r.to.toNat 0)
def Sy(m:cz)(a:fh):Int:=if HG a m.start=J then(if m.av.any (qy a)=J then 41 else 0) else 42
theorem Aci{m:cz}{r:cf}(hr:Sn m r){cs:List Int}(hl:I cs<=2)(hc:∀c∈cs, -4<=c/\c<=4): -16777216<=C6 cs r/\C6 cs r<=16777216:=by
 have b1:∀v∈r.ak,0<=v/\v<=1048576:=fun v hv=>by have:=hr.ak v hv;omega
 have b2:∀v∈r.am,0<=v/\v<=1048576:=fun v hv=>by have:=hr.am v hv;omega
 have h1:=G8 cs r.ak hc b1
 have h2:=G8 cs r.am hc b2
 grind[C6]
theorem E3.vbd{m:cz}{a:fh}(ha:E3 m a){v:Int}(hv:v∈a.vals): -1099511627776<=v/\v<=1099511627776:=by
 have:=ha.mod
 rcases ha.val v hv with h|h|h
 all_goals grind
theorem Ab9(m:cz)(hm:em m)(a:fh)(ha:E3 m a)(N:Nat):∀k:Nat,I m.av-k=N->
  Rn PP T6 0 (di (if (m.av.drop k).any (qy a)=J then 41 else 0)) ba ([kl Sb [1,1,0,1,0,0],.blk 0,kc Sb [1,1,1]]++[]) (cy 42 [(3,.v (.ref (Q4 a))),(14,.v (BF m.av)),(15,di (I m.av)),(16,di k)]) ba:=by
 induction N with
 |zero=>
  intro k hn
  refine lv 42 [2,3] (.f .r) (Y ((k:Int)<(I m.av:Int))=O/\di 0=di (if List.any (W k m.av) (qy a)=J then 41 else 0)) ?_
  rw[Ic (by omega)]
  exact⟨yq,rfl⟩
 |succ N ih=>
  intro k hn
  have hk:k<I m.av:=by omega
  obtain⟨r,hr⟩:∃r,m.av[k]?=G r:=⟨_,HI hk⟩
  have e3:m.av.drop k=r::m.av.drop (k+1):=by rw[HX hk];congr 1;rw[HI hk] at hr;simpa using hr
  have hro:=hm.rule (HO hr)
  have hp:=hm.ay
  have hf:=hm.few
  obtain⟨v,hv⟩:∃v,a.vals[r.aj.toNat]?=G v:=⟨_,HI (by rw[ha.vlen];have:=hro.aj;omega)⟩
  obtain⟨u,hu⟩:∃v,a.vals[r.to.toNat]?=G v:=⟨_,HI (by rw[ha.vlen];have:=hro.to;omega)⟩
  have hvb:=ha.vbd (HO hv)
  have heb:=Aci hro (by rw[ha.len];omega) ha.coef
  have hcb:qy a r=(!(v==f9)&& !YL a (v+C6 a.coefs r) u):=by
   rw[qy,HQ,HQ,hv,hu];rfl
  have hi:=ih (k+1) (by omega)
  have heff:=Rr m r hro a.coefs ha.len (by rw[ha.len];omega) ha.coef
  have hfol:=Rq m a ha (v+C6 a.coefs r) (by omega) r.to u hro.to.1 hu
  rw[e3,List.any_cons,hcb]
  by_cases h1:(v !=1099511627776)=J
  ·have h1':(v==f9)=O:=by simpa[f9] using h1
   rw[h1',Bool.not_false,Is]
   cases hb:YL a (v+C6 a.coefs r) u with
   |true=>
    rw[hb] at hfol
    rw[Bool.not_true,Bool.false_or]
    refine lv 42 [2,3] (.t<|.x (Al r)<|.x (vi v)<|.t<|.c (di (C6 a.coefs r))<|.c (db J)<|.ls [ke 3,ke 14,ke 15,ch 16 (di (k+1:Nat))] ba) (Y ((k:Int)<(I m.av:Int))=J/\0<=(k:Int)/\(U Al m.av)[Z (k:Int)]?=G (Al r)/\_/\(cc a.vals)[Z r.aj]?=G (vi v)/\_/\_/\F0 98 [bt (Q4 a),di (yu yt (v+C6 a.coefs r)),di r.to] (db J)/\yo/\di (yu yt ((k:Int)+1))=di (↑(k+1):Int)/\_) ⟨yr,by omega,Am hr,hro.aj.1,by rw[I1,hv];rfl,h1,heff,?_,ym,Ae,iK hi⟩
    rw[Ak];exact hfol
   |false=>
    rw[hb] at hfol
    rw[Bool.not_false,Bool.true_or]
    refine lv 42 [2,3] (.t<|.x (Al r)<|.x (vi v)<|.t<|.c (di (C6 a.coefs r))<|.c (db O) .r) (Y ((k:Int)<(I m.av:Int))=J/\0<=(k:Int)/\(U Al m.av)[Z (k:Int)]?=G (Al r)/\_/\(cc a.vals)[Z r.aj]?=G (vi v)/\_/\_/\F0 98 [bt (Q4 a),di (yu yt (v+C6 a.coefs r)),di r.to] (db O)/\yo/\Q (di 41)) ⟨yr,by omega,Am hr,hro.aj.1,by rw[I1,hv];rfl,h1,heff,?_,ym,rfl⟩
    rw[Ak];exact hfol
  ·have h1':(v==f9)=J:=by simpa[f9] using h1
   rw[h1',Bool.not_true,Iq,Bool.false_or]
   exact lv 42 [2,3] (.t<|.x (Al r)<|.x (vi v)<|.f<|.ls [ke 3,ke 14,ke 15,ch 16 (di (k+1:Nat))] ba) (Y ((k:Int)<(I m.av:Int))=J/\0<=(k:Int)/\(U Al m.av)[Z (k:Int)]?=G (Al r)/\_/\(cc a.vals)[Z r.aj]?=G (vi v)/\(v !=1099511627776)=O/\di (yu yt ((k:Int)+1))=di (↑(k+1):Int)/\_) ⟨yr,by omega,Am hr,hro.aj.1,by rw[I1,hv];rfl,HU h1,Ae,iK hi⟩
theorem Rs(m:cz)(hm:em m)(a:fh)(ha:E3 m a):F0 54 [Ad m,m7 a] (di (Sy m a)):=by
 have hh:=Rp m hm a ha m.start hm.start
 cases hb:HG a m.start with
 |false=>
  refine sv T6 42 [2,3] (.c (db O) .r) (F0 55 [bt (Q4 a),dV m.start] (db O)/\di 42=di (Sy m a)) ?_
  grind[Sy]
 |true=>
  rw[hb] at hh
  refine sv T6 42 [2,3] (.c (db J)<|.l [ke 3,ke 14,ch 15 (di (I m.av)),ch 16 (di (0:Nat))]) (F0 55 [bt (Q4 a),dV m.start] (db J)/\di (I (U Al m.av):Int)=di (I m.av:Int)/\di 0=di (↑0:Int)/\I0 T6 (I ba.H) (di (Sy m a)) ba [kl Sb ee,bf 0,kc Sb [1,1,1]] (cy 42 [(3,bt (bz (Q4 a))),(14,bt (BF m.av)),(15,di (I m.av:Int)),(16,di (↑0:Int))]) ba) ?_
  have hl:=Ab9 m hm a ha _ 0 rfl
  rw[Sy,hb]
  exact⟨hh,by grind,rfl,⟨hl⟩⟩
noncomputable abbrev AmV:=Tryz.f77
def XM(m:cz)(a:fh)(c:b9):Bool:= !HG a c&&(Sy m a==0)
theorem Ab7(m:cz)(hm:em m)(a:fh)(ha:E3 m a)(c:b9)(hc:AN m c):F0 77 [Ad m,m7 a,dV c] (.tup [db (XM m a c),di 0]):=by
 have h:=Oh m hm a ha c hc
 cases hb:HG a c with
 |true=>
  refine sv AmV 28 [3,4,5] (.c (.tup [db J,di 0]) .r) (F0 30 [Ad m,bt (Q4 a),dV c] (bk [db J,di 0])/\bk [db O,di 0]=bk [db (XM m a c),di 0]) ?_
  grind[XM]
 |false=>
  refine sv AmV 28 [3,4,5] (.c (.tup [db O,di 0])<|.c (di (Sy m a)) .r) (F0 30 [Ad m,bt (Q4 a),dV c] (bk [db O,di 0])/\F0 54 [Ad m,bt (Q4 a)] (di (Sy m a))/\bk [db (Sy m a==0),di 0]=bk [db (XM m a c),di 0]) ?_
  grind[Rs,XM]
noncomputable abbrev AmS:=Tryz.f135
theorem Ab5:F0 135 [di 1] (di 3):=by
 refine sv AmS 17 [] (.n<|.n .r) (di (yu yt (1*3))=di 3) ?_
 rfl
theorem VH:F0 135 [di 2] (di 9):=by
 refine sv AmS 17 [] (.n<|.n<|.n .r) (di (yu yt (yu yt (1*3)*3))=di 9) ?_
 rfl
noncomputable abbrev AmY:=Tryz.f134
theorem AbB:F0 134 [di 1] (di 24):=by
 exact sv AmY 6 [] (.c (di 3) .r) (_/\di (yu yt (8*3))=di 24) ⟨Ab5,by rfl⟩
theorem AbA:F0 134 [di 2] (di 72):=by
 exact sv AmY 6 [] (.c (di 9) .r) (_/\di (yu yt (8*9))=di 72) ⟨VH,by rfl⟩
noncomputable abbrev XH:=Tryz.f74
def Gr(p:Nat)(n:Int):List Int×Int×Bool:=if p=1 then(if n<24 then([n%3-1],(if n/3>0 then n/3+1 else 0),true) else([],0,false))
 else(if n<72 then([n%9%3-1,n%9/3%3-1],(if n/9>0 then n/9+1 else 0),true) else([],0,false))
abbrev l0(c:List Int×Int×Bool):D:=.tup [cx c.1,di c.2.1,db c.2.2]
theorem tq{n k:Int}(h:0<=n):n.tdiv k=n/k:=Int.tdiv_eq_ediv_of_nonneg h
theorem tr{n k:Int}(h:0<=n):n.tmod k=n%k:=Int.tmod_eq_emod_of_nonneg h
noncomputable abbrev we:=F0 135 [di 1] (di 3)
noncomputable abbrev Avs:=F0 134 [di 1] (di 24)
theorem AhY(n:Int)(hn:0<=n/\n<=1000):F0 74 [di 1,di n] (l0 (Gr 1 n)):=by
 by_cases h:n<24
 ·by_cases h2:n/3>0
  ·refine sv XH 49 [] (.f<|.c (di 24)<|.f<|.c (di 3)<|.c (di 3)<|.t<|.n<|.n<|.h (.q 13 0)<|.h (.fl 0 9 [vi (n%3-1)]) .r) (Y (n<0)=O/\Avs/\Y (n>=24)=O/\we/\iz 3≠0/\we/\iz 3≠0/\Y (yu yt (Int.tdiv n 3)>0)=J/\iz 1=1/\iz 0<=1/\(8:Int)*1<=281474976710656/\iz 1<=9223372036854775807/\iz 3≠0/\iz 0<=0/\0<(↑(Z 1):Int)/\iz 3≠0/\[di (yu yt (Int.tmod (Int.tmod n 3) 3-1))]=[di (n%3-1)]/\Q 1/\bk [bt (ai [vi (n%3-1)]),di (yu yt (yu yt (Int.tdiv n 3)+1)),db J]=l0 (Gr 1 n)) ?_
   grind[Ak,AbB,Ab5,Gr]
  ·refine sv XH 49 [] (.f<|.c (di 24)<|.f<|.c (di 3)<|.c (di 3)<|.f<|.n<|.n<|.h (.q 13 0)<|.h (.fl 0 9 [vi (n%3-1)]) .r) (Y (n<0)=O/\Avs/\Y (n>=24)=O/\we/\iz 3≠0/\we/\iz 3≠0/\Y (yu yt (Int.tdiv n 3)>0)=O/\iz 1=1/\iz 0<=1/\(8:Int)*1<=281474976710656/\iz 1<=9223372036854775807/\iz 3≠0/\iz 0<=0/\0<(↑(Z 1):Int)/\iz 3≠0/\[di (yu yt (Int.tmod (Int.tmod n 3) 3-1))]=[di (n%3-1)]/\Q 1/\bk [bt (ai [vi (n%3-1)]),di (yu yt (Int.tdiv n 3)),db J]=l0 (Gr 1 n)) ?_
   grind[Ak,AbB,Ab5,Gr]
 ·refine sv XH 49 [] (.f<|.c (di 24)<|.t .r) (Y (n<0)=O/\Avs/\Y (n>=24)=J/\bk [bt (ai []),di 0,db O]=l0 (Gr 1 n)) ?_
  grind[AbB,Gr]
noncomputable abbrev wd:=F0 135 [di 2] (di 9)
noncomputable abbrev Avr:=F0 134 [di 2] (di 72)
theorem AhX(n:Int)(hn:0<=n/\n<=1000):F0 74 [di 2,di n] (l0 (Gr 2 n)):=by
 by_cases h:n<72
 ·by_cases h2:n/9>0
  ·refine sv XH 49 [] (.f<|.c (di 72)<|.f<|.c (di 9)<|.c (di 9)<|.t<|.n<|.n<|.n<|.h (.q 13 0)<|.h (.fl 0 9 [vi (n%9%3-1),vi (n%9/3%3-1)]) .r) (Y (n<0)=O/\Avr/\Y (n>=72)=O/\wd/\iz 9≠0/\wd/\iz 9≠0/\Y (yu yt (Int.tdiv n 9)>0)=J/\iz 2=2/\iz 0<=2/\(8:Int)*2<=281474976710656/\iz 2<=9223372036854775807/\iz 3≠0/\iz 0<=0/\0<(↑(Z 2):Int)/\iz 3≠0/\iz 3≠0/\0<=yu yt (0+1)/\yu yt (0+1)<(↑(Z 2):Int)/\iz 3≠0/\[di (yu yt (Int.tmod (Int.tmod n 9) 3-1)),di (yu yt (Int.tmod (yu yt (Int.tdiv (Int.tmod n 9) 3)) 3-1))]=[di (n%9%3-1),di (n%9/3%3-1)]/\Q 2/\bk [bt (ai [vi (n%9%3-1),vi (n%9/3%3-1)]),di (yu yt (yu yt (Int.tdiv n 9)+1)),db J]=l0 (Gr 2 n)) ?_
   grind[AbA,VH,Ak,Gr]
  ·refine sv XH 49 [] (.f<|.c (di 72)<|.f<|.c (di 9)<|.c (di 9)<|.f<|.n<|.n<|.n<|.h (.q 13 0)<|.h (.fl 0 9 [vi (n%9%3-1),vi (n%9/3%3-1)]) .r) (Y (n<0)=O/\Avr/\Y (n>=72)=O/\wd/\iz 9≠0/\wd/\iz 9≠0/\Y (yu yt (Int.tdiv n 9)>0)=O/\iz 2=2/\iz 0<=2/\(8:Int)*2<=281474976710656/\iz 2<=9223372036854775807/\iz 3≠0/\iz 0<=0/\0<(↑(Z 2):Int)/\iz 3≠0/\iz 3≠0/\0<=yu yt (0+1)/\yu yt (0+1)<(↑(Z 2):Int)/\iz 3≠0/\[di (yu yt (Int.tmod (Int.tmod n 9) 3-1)),di (yu yt (Int.tmod (yu yt (Int.tdiv (Int.tmod n 9) 3)) 3-1))]=[di (n%9%3-1),di (n%9/3%3-1)]/\Q 2/\bk [bt (ai [vi (n%9%3-1),vi (n%9/3%3-1)]),di (yu yt (Int.tdiv n 9)),db J]=l0 (Gr 2 n)) ?_
   have e1:=tq (k:=9) hn.1
   have e2:n.tmod 9=n%9:=tr hn.1
   have e3:(n%9).tmod 3=n%9%3:=tr (by omega)
   have e4:(n%9).tdiv 3=n%9/3:=tq (by omega)
   have e5:(n%9/3).tmod 3=n%9/3%3:=tr (by omega)
   rw[e1,e2,e3,e4,Ak (n:=n/9),Ak (n:=n%9/3),e5,Ak (n:=n%9%3-1),Ak (n:=n%9/3%3-1)]
   refine⟨yq,AbA,yq,VH,by decide,VH,by decide,HM h2,rfl,by decide,by decide,by decide,by decide,by decide,by decide,by decide,by decide,by decide,by decide,by decide,rfl,rfl,?_⟩
   grind[Gr]
 ·refine sv XH 49 [] (.f<|.c (di 72)<|.t .r) (Y (n<0)=O/\Avr/\Y (n>=72)=J/\bk [bt (ai []),di 0,db O]=l0 (Gr 2 n)) ?_
  grind[AbA,Gr]
noncomputable abbrev AjF:=Tryz.f192
def Xu(cs:List Int)(md:Int)(r:cf)(v:Int):Int:=if Y (md>0)=J then(v+C6 cs r)%md else v+C6 cs r
abbrev fx(m:cz)(cs:List Int)(md:Int)(N:Nat):List D:=[di m.kind,.v (cp m.aw),.v (cp m.ay),.v (cp m.ax),.v (cw m.au),di m.ao,di m.age,.v (BF m.av),di m.start.n,cq m.start.az,cx cs,di md,.arr 1 0 N]
abbrev i8(m:cz)(cs:List Int)(md:Int)(N:Nat)(vals:List Int):St:=⟨[G (fx m cs md N),G (c9 vals)],[]⟩
def CL(cs:List Int)(md:Int)(r:cf)(vals:List Int):List Int×Bool×Bool:=
 let v:=vals.getD r.aj.toNat 0
 let u:=vals.getD r.to.toNat 0
 if v=f9 then(vals,false,true)
 else if u=f9∨md=0/\Xu cs md r v<u then(vals.set r.to.toNat (Xu cs md r v),true,true)
 else if md>0/\Xu cs md r v≠u then(vals,false,false)
 else(vals,false,true)
structure ki(m:cz)(cs:List Int)(md:Int):Prop where
 len:I cs=I m.ay
 coef:∀c∈cs, -4<=c/\c<=4
 mod:md=0∨2<=md/\md<=8
noncomputable abbrev Ata:=fun a₀ b₀ c₀ d₀=>[db (CL a₀ b₀ c₀ d₀).snd.fst,db (CL a₀ b₀ c₀ d₀).snd.snd]
noncomputable abbrev mh:=fun a₀ b₀ c₀ d₀ e₀=>[G (fx a₀ b₀ c₀ d₀),G (c9 e₀)]
theorem Ab6(m:cz)(hm:em m)(cs:List Int)(md:Int)(hc:ki m cs md)(r:cf)(hr:Sn m r)(vals:List Int)(N:Nat)(hN:I vals=N)(hN2:N=I m.aw)(hb:∀v∈vals, -1099511627776<=v/\v<=1099511627776):
  Aa PP 192 [.ptr 0 0,BP r] (i8 m cs md N vals) (.tup [db (CL cs md r vals).2.1,db (CL cs md r vals).2.2]) (i8 m cs md N (CL cs md r vals).1):=by
 have hf:=hr.aj
 have ht:=hr.to
 have hp:=hm.ay
 have hfw:=hm.few
 obtain⟨v,hv⟩:∃v,vals[r.aj.toNat]?=G v:=⟨_,HI (by omega)⟩
 obtain⟨u,hu⟩:∃v,vals[r.to.toNat]?=G v:=⟨_,HI (by omega)⟩
 have hvb:=hb v (HO hv)
 have hub:=hb u (HO hu)
 have hcl:=hc.len
 have heff:=Rr m r hr cs hcl (by omega) hc.coef
 have heb:=Aci hr (by omega) hc.coef
 have g1:vals.getD r.aj.toNat 0=v:=by grind
 have g2:vals.getD r.to.toNat 0=u:=by grind
 have hmd:=hc.mod
 have okS:∀l:List Int,cm 2 [] [G (fx m cs md N),G (c9 l)]=J:=fun l=>by simp[cm,D.okNs,D.okN,BB]
 have i1:(c9 vals)[0+Z r.aj*1]?=G (di v):=by grind
 have i2:(c9 vals)[0+Z r.to*1]?=G (di u):=by grind
 have i3:∀x:Int,List.set (c9 vals) (0+Z r.to*1) (di x)=c9 (vals.set r.to.toNat x):=fun x=>by simp_all
 have i4:0+Z r.to*1<I (c9 vals):=by grind
 by_cases h1:v=f9
 ·refine sv AjF 87 [3] (.m (.arr 1 0 N)<|.m (di v)<|.t .ro) (Q (G (bo 1 0 N))/\0<=r.aj/\r.aj<(N:Int)/\(c9 vals)[0+Z r.aj*1]?=G (di v)/\0<=r.to/\r.to<(N:Int)/\(yj (True))/\(v==1099511627776)=J/\cm 2 [] [G (fx m cs md N),G (c9 vals)]=J/\[G (fx m cs md N),G (c9 vals)]=[G (fx m cs md N),G (c9 (CL cs md r vals).fst)]/\bk [db O,db J]=bk [db (CL cs md r vals).snd.fst,db (CL cs md r vals).snd.snd]) ?_
  grind[CL]
 ·by_cases h2:md=0
  ·refine sv AjF 87 [3] (.m (.arr 1 0 N)<|.m (di v)<|.f<|.c (di (C6 cs r))<|.f<|.m (di u)<|.b (.w .ro) (.t<|.m (di u)<|.b (.w .ro) (.f .ro))) (Q (G (bo 1 0 N))/\0<=r.aj/\r.aj<(N:Int)/\(c9 vals)[0+Z r.aj*1]?=G (di v)/\0<=r.to/\r.to<(N:Int)/\(yj (True))/\(v==1099511627776)=O/\F0 99 [cx cs,BP r] (di (C6 cs r))/\yp/\Y (md>0)=O/\(c9 vals)[0+Z r.to*1]?=G (di u)/\((u==1099511627776)=J->0+Z r.to*1<I (c9 vals)/\cm 2 [] [G (fx m cs md N),G (List.set (c9 vals) (0+Z r.to*1) (di (yu yt (v+C6 cs r))))]=J/\[G (fx m cs md N),G (List.set (c9 vals) (0+Z r.to*1) (di (yu yt (v+C6 cs r))))]=[G (fx m cs md N),G (c9 (CL cs md r vals).fst)]/\bk [db J,db J]=bk [db (CL cs md r vals).snd.fst,db (CL cs md r vals).snd.snd])/\((u==1099511627776)=O->(md==0)=J/\(c9 vals)[0+Z r.to*1]?=G (di u)/\(Y (yu yt (v+C6 cs r)<u)=J->0+Z r.to*1<I (c9 vals)/\cm 2 [] [G (fx m cs md N),G (List.set (c9 vals) (0+Z r.to*1) (di (yu yt (v+C6 cs r))))]=J/\[G (fx m cs md N),G (List.set (c9 vals) (0+Z r.to*1) (di (yu yt (v+C6 cs r))))]=[G (fx m cs md N),G (c9 (CL cs md r vals).fst)]/\bk [db J,db J]=bk [db (CL cs md r vals).snd.fst,db (CL cs md r vals).snd.snd])/\(Y (yu yt (v+C6 cs r)<u)=O->Y (md>0)=O/\cm 2 [] [G (fx m cs md N),G (c9 vals)]=J/\[G (fx m cs md N),G (c9 vals)]=[G (fx m cs md N),G (c9 (CL cs md r vals).fst)]/\bk [db O,db J]=bk [db (CL cs md r vals).snd.fst,db (CL cs md r vals).snd.snd]))) ?_
   have hx:Xu cs md r v=v+C6 cs r:=by grind[Xu]
   rw[Ak (n:=v+C6 cs r),i3]
   refine⟨rfl,hf.1,by omega,i1,ht.1,by omega,⟨trivial,trivial,trivial,trivial⟩,Iy.2 h1,heff,yn,yq,i2,fun h3=>?_,fun h3=>⟨by grind,i2,fun h4=>?_,fun h4=>?_⟩⟩
   ·grind[CL]
   ·grind[CL]
   grind[CL]
  ·have hrs:=KN (v+C6 cs r) md (by omega) (by omega)
   refine sv AjF 87 [3] (.m (.arr 1 0 N)<|.m (di v)<|.f<|.c (di (C6 cs r))<|.t<|.c (di ((v+C6 cs r)%md))<|.m (di u)<|.b (.w .ro) (.f<|.k<|.t<|.m (di u)<|.b .ro .ro)) (Q (G (bo 1 0 N))/\0<=r.aj/\r.aj<(N:Int)/\(c9 vals)[0+Z r.aj*1]?=G (di v)/\0<=r.to/\r.to<(N:Int)/\(yj (True))/\(v==1099511627776)=O/\F0 99 [cx cs,BP r] (di (C6 cs r))/\yp/\Y (md>0)=J/\F0 139 [di (yu yt (v+C6 cs r)),di md] (di ((v+C6 cs r)%md))/\(c9 vals)[0+Z r.to*1]?=G (di u)/\((u==1099511627776)=J->0+Z r.to*1<I (c9 vals)/\cm 2 [] [G (fx m cs md N),G (List.set (c9 vals) (0+Z r.to*1) (di ((v+C6 cs r)%md)))]=J/\[G (fx m cs md N),G (List.set (c9 vals) (0+Z r.to*1) (di ((v+C6 cs r)%md)))]=[G (fx m cs md N),G (c9 (CL cs md r vals).fst)]/\bk [db J,db J]=bk [db (CL cs md r vals).snd.fst,db (CL cs md r vals).snd.snd])/\((u==1099511627776)=O->(md==0)=O/\Y (md>0)=J/\(c9 vals)[0+Z r.to*1]?=G (di u)/\(((v+C6 cs r)%md !=u)=J->cm 2 [] [G (fx m cs md N),G (c9 vals)]=J/\[G (fx m cs md N),G (c9 vals)]=[G (fx m cs md N),G (c9 (CL cs md r vals).fst)]/\bk [db O,db O]=bk [db (CL cs md r vals).snd.fst,db (CL cs md r vals).snd.snd])/\(((v+C6 cs r)%md !=u)=O->cm 2 [] [G (fx m cs md N),G (c9 vals)]=J/\[G (fx m cs md N),G (c9 vals)]=[G (fx m cs md N),G (c9 (CL cs md r vals).fst)]/\bk [db O,db J]=bk [db (CL cs md r vals).snd.fst,db (CL cs md r vals).snd.snd]))) ?_
   have hx:Xu cs md r v=(v+C6 cs r)%md:=by grind[Xu]
   grind[Ak,CL]
structure k9(md B:Int)(vals:List Int):Prop where
 bd:∀v∈vals,v=f9∨ -B<=v/\v<=B
 md:0<md->∀v∈vals,v=f9∨0<=v/\v<=md-1
theorem AbI{m:cz}(hm:em m){cs:List Int}{md:Int}(hc:ki m cs md){r:cf}(hr:Sn m r){B:Int}(hB:0<=B){vals:List Int}(h:k9 md B vals)(hl:I vals=I m.aw):k9 md (B+16777216) (CL cs md r vals).1/\(CL cs md r vals).1.length=I m.aw:=by
 have hfw:=hm.few
 have hcl:=hc.len
 have heb:=Aci hr (by omega) hc.coef
 have hf:=hr.aj
 obtain⟨v,hv⟩:∃v,vals[r.aj.toNat]?=G v:=⟨_,HI (by omega)⟩
 have g1:vals.getD r.aj.toNat 0=v:=by grind
 have hvm:=HO hv
 have keep:k9 md (B+16777216) vals:=⟨fun v hv=>by have:=h.bd v hv;omega,h.md⟩
 simp only[CL,g1]
 split
 ·grind
 ·rename_i hne
  split
  ·have hvb:=(h.bd v hvm).resolve_left hne
   have hmd:=hc.mod
   have hx:0<md->0<=Xu cs md r v/\Xu cs md r v<=md-1:=fun hp=>by
    rw[Xu,Ie (HK hp)]
    have h1:=Int.emod_nonneg (v+C6 cs r) (show md≠0 by omega)
    have h2:=Int.emod_lt_of_pos (v+C6 cs r) hp
    omega
   have hy: -(B+16777216)<=Xu cs md r v/\Xu cs md r v<=B+16777216:=by
    grind[Xu]
   refine⟨⟨fun w hw=>?_,fun hp w hw=>?_⟩,by grind⟩
   ·rcases IN hw with hw|hw
    ·exact keep.bd w hw
    omega
   ·rcases IN hw with hw|hw
    ·exact h.md hp w hw
    omega
  grind
def DJ(cs:List Int)(md:Int):List cf->List Int->Bool->List Int×Bool×Bool
 |[],vals,ch=>(vals,ch,true)
 |r::rs,vals,ch=>if (CL cs md r vals).2.2=J then DJ cs md rs (CL cs md r vals).1 (ch||(CL cs md r vals).2.1) else((CL cs md r vals).1,false,false)
theorem Mr{m:cz}(hm:em m){cs:List Int}{md:Int}(hc:ki m cs md):∀(rs:List cf) (vals:List Int) (ch:Bool) (B:Int),(∀r∈rs,Sn m r)->0<=B->k9 md B vals->I vals=I m.aw->k9 md (B+16777216*I rs) (DJ cs md rs vals ch).1/\(DJ cs md rs vals ch).1.length=I m.aw
 |[],vals,ch,B,_,_,h,hl=>by grind[DJ]
 |r::rs,vals,ch,B,hr,hB,h,hl=>by
  obtain⟨h1,h2⟩:=AbI hm hc (hr r (by simp)) hB h hl
  rw[DJ]
  split
  ·have:=Mr hm hc rs _ (ch||(CL cs md r vals).2.1) (B+16777216) (fun r h=>hr r (by simp[h])) (by omega) h1 h2
   grind
  ·exact⟨⟨fun v hv=>by have:=h1.bd v hv;grind,h1.md⟩,h2⟩
theorem Qe(n:Nat)(qs:List Nat):∀l:List V,E4 n qs (l.map .v) (l.map .v)
 |[]=>.nil
 |x::l=>.cons (.ren (dc:=.v x) rfl) (Qe n qs l)
theorem AhL(ρ τ:Nat->Nat):∀l:List V,D.rens ρ τ (l.map .v)=l.map .v
 |[]=>rfl
 |x::l=>by simp only[Ik,D.rens,D.ren,AhL ρ τ l]
theorem Ahd(l:List Int):c9 l=(l.map vi).map .v:=by simp[c9]
theorem EY{o:yy}{c:Call}{fo:x8}(ho:o.op=.call c)(hc:c.callee=.value fo){f:yx}{H:List (Option (List D))}{m:cz}{cs:List Int}{md:Int}{N:Nat}{vals vals':List Int}(p:Nat)(hp1:p≠1)(hp:H[p]?=G (G (fx m cs md N)))(ha:H[1]?=G (G (c9 vals))){x:List V}{b1 b2:Bool}
  (hspec:Aa PP f (.ptr 0 0::x.map .v) (i8 m cs md N vals) (.tup [db b1,db b2]) (i8 m cs md N vals')):Ai PP o (.v (.fn f [] []):: .ptr p 0::x.map .v) ⟨H,[]⟩ (.tup [db b1,db b2]) ⟨(H.set p (G (fx m cs md N))).set 1 (G (c9 vals')),[]⟩:=by
 have v12:∀q,E4 (I H) q [di m.kind,.v (cp m.aw),.v (cp m.ay),.v (cp m.ax),.v (cw m.au),di m.ao,di m.age,.v (BF m.av),di m.start.n,cq m.start.az,cx cs,di md] [di m.kind,.v (cp m.aw),.v (cp m.ay),.v (cp m.ax),.v (cw m.au),di m.ao,di m.age,.v (BF m.av),di m.start.n,cq m.start.az,cx cs,di md]:=fun q=>Qe _ q [vi m.kind,cp m.aw,cp m.ay,cp m.ax,cw m.au,vi m.ao,vi m.age,BF m.av,vi m.start.n,dt m.start.az,cw cs,vi md]
 have app:∀{n:Nat} {qs:List Nat} {a b c d:List D},E4 n qs a b->E4 n qs c d->E4 n qs (a++c) (b++d):=by
  intro n qs a b c d h1 h2
  induction h1 with
  |nil=>exact h2
  |cons h hs ih=>exact .cons h ih
 have hcells:E4 (I H) [p,1] (fx m cs md N) (fx m cs md N):=app (v12 _) (.cons (.ren (dc:=.arr 1 0 N) rfl) .nil)
 have h:=B3 (σ:=⟨H,[]⟩) ho hc (fD:=.v (.fn f [] [])) rfl (ds:=.ptr p 0::x.map .v) [p,1] id hspec (.cons (.ren (dc:=.ptr 0 0) rfl) (by simpa using Qe _ _ x))
  (.cons hp hcells (by rfl) (.cons ha (by grind[Ahd,Qe]) (by rw[Ahd,I5];intro d hd;obtain⟨y,hy,rfl⟩:=I2.1 hd;obtain⟨z,_,rfl⟩:=I2.1 hy;rfl) .nil)) (by grind) rfl (by simp) (by simp) (by rfl) (by simp[cm,D.okNs,D.okN,BB])
 have e1:D.rens (ez (I H) [p,1]) id (c9 vals')=c9 vals':=by rw[Ahd,AhL]
 simpa[CO,Cy,DM,D.ren,D.rens,e1,ez] using h
noncomputable abbrev XG:=Tryz.f140
noncomputable def RZ:=yl XG
theorem Ab1(m:cz)(hm:em m)(cs:List Int)(md:Int)(hc:ki m cs md)(N:Nat)(hN:N=I m.aw)(n:Nat):∀(k:Nat) (vals:List Int) (cg:Bool) (B:Int),I m.av-k=n->0<=B->B+16777216*n<=1099511627776->k9 md B vals->I vals=N->
  Rn PP XG 2 (.tup [db (DJ cs md (m.av.drop k) vals cg).2.1,db (DJ cs md (m.av.drop k) vals cg).2.2]) (i8 m cs md N (DJ cs md (m.av.drop k) vals cg).1) ([kl RZ [1,1,0,1,0,0],.blk 0,kc RZ [1,1,1]]++[]) (cy 33 [(0,.ptr 0 0),(4,db cg),(13,.v (BF m.av)),(14,di (I m.av)),(15,di k)]) (i8 m cs md N vals):=by
 induction n with
 |zero=>
  intro k vals cg B hn hB hB2 h hl
  rw[Ic (by omega)]
  simp only[DJ]
  exact lv 33 [] (.f .ro) (Y ((k:Int)<(I m.av:Int))=O/\cm 2 [] (mh m cs md N vals)=J/\Q (mh m cs md N vals)/\Q (bk [db cg,db J])) ⟨yq,by simp[cm,D.okNs,D.okN,BB],rfl,rfl⟩
 |succ n ih=>
  intro k vals cg B hn hB hB2 h hl
  have hk:k<I m.av:=by omega
  obtain⟨r,hr⟩:∃r,m.av[k]?=G r:=⟨_,HI hk⟩
  have e3:m.av.drop k=r::m.av.drop (k+1):=by rw[HX hk];congr 1;rw[HI hk] at hr;simpa using hr
  have hro:=hm.rule (HO hr)
  have hfs:=Ab6 m hm cs md hc r hro vals N hl hN (fun v hv=>(h.bd v hv).elim (fun h1=>by rw[h1];decide) (fun h1=>by omega))
  obtain⟨hf1,hf2⟩:=AbI hm hc hro hB h (by omega)
  have hi:=fun ch'=>ih (k+1) (CL cs md r vals).1 ch' (B+16777216) (by omega) (by omega) (by omega) hf1 (by omega)
  rw[e3,DJ]
  generalize CL cs md r vals=f at*
  cases hf:f.2.2 with
  |false=>
   rw[hf] at hfs
   rw[HZ (by decide)]
   refine lv 33 [] (.t<|.x (Al r)<|.h (.q 5 2)<|.h (.oc (.tup [db f.2.1,db O]) ⟨[G (fx m cs md N),G (c9 f.1),G (cR r)],[]⟩) .ro) (Y ((k:Int)<(I m.av:Int))=J/\0<=(k:Int)/\(U Al m.av)[Z (k:Int)]?=G (Al r)/\(N0 [bt (bw 192 [] []),bq 0 0,BP r] (bh [G (fx m cs md N),G (c9 vals),G [bt (ae r.name),di r.aj,di r.to,cx r.am,cx r.ak,cx r.move,di r.chan,di r.act,di r.letter,cx r.path,cx r.next,bt (AD r.ar),cx r.aq,di r.second]] []) (bk [db f.snd.fst,db O]) (bh [G (fx m cs md N),G (c9 f.fst),G (cR r)] []))/\cm 2 [] (mh m cs md N f.fst)=J/\Q (mh m cs md N f.fst)/\Q (bk [db O,db O])) ⟨yr,by omega,Am hr,fun o c fo ho hc2=>?_,by simp[cm,D.okNs,D.okN,BB],rfl,rfl⟩
   exact EY (H:=[G (fx m cs md N),G (c9 vals),G (cR r)]) ho hc2 0 (by decide) rfl rfl (x:=[Al r]) hfs
  |true=>
   rw[hf] at hfs
   rw[Ie rfl]
   have okS:cm 2 [] [G (fx m cs md N),G (c9 f.1)]=J:=by simp[cm,D.okNs,D.okN,BB]
   refine lv 33 [] (.t<|.x (Al r)<|.h (.q 5 2)<|.h (.oc (.tup [db f.2.1,db J]) ⟨[G (fx m cs md N),G (c9 f.1),G (cR r)],[]⟩)<|.k<|.b (.lo [ke 0,ch 4 (db (cg||f.2.1)),ke 13,ke 14,ch 15 (di (k+1:Nat))] (i8 m cs md N f.1)) (.lo [ke 0,ch 4 (db (cg||f.2.1)),ke 13,ke 14,ch 15 (di (k+1:Nat))] (i8 m cs md N f.1))) (Y ((k:Int)<(I m.av:Int))=J/\0<=(k:Int)/\(U Al m.av)[Z (k:Int)]?=G (Al r)/\(N0 [bt (bw 192 [] []),bq 0 0,BP r] (bh [G (fx m cs md N),G (c9 vals),G [bt (ae r.name),di r.aj,di r.to,cx r.am,cx r.ak,cx r.move,di r.chan,di r.act,di r.letter,cx r.path,cx r.next,bt (AD r.ar),cx r.aq,di r.second]] []) (bk [db f.snd.fst,db J]) (bh [G (fx m cs md N),G (c9 f.fst),G (cR r)] []))/\(cg=J->db J=db (cg||f.snd.fst)/\di (yu yt ((k:Int)+1))=di (↑(k+1):Int)/\cm 2 [] (mh m cs md N f.fst)=J/\Q (mh m cs md N f.fst)/\I0 XG 2 (bk [db (DJ cs md (W (k+1) m.av) f.fst (cg||f.snd.fst)).snd.fst,db (DJ cs md (W (k+1) m.av) f.fst (cg||f.snd.fst)).snd.snd]) (i8 m cs md N (DJ cs md (W (k+1) m.av) f.fst (cg||f.snd.fst)).fst) [kl RZ ee,bf 0,kc RZ [1,1,1]] (cy 33 [jx,(4,db (cg||f.snd.fst)),(13,bt (BF m.av)),(14,di (I m.av:Int)),(15,di (↑(k+1):Int))]) (i8 m cs md N f.fst))/\(cg=O->db f.snd.fst=db (cg||f.snd.fst)/\di (yu yt ((k:Int)+1))=di (↑(k+1):Int)/\cm 2 [] (mh m cs md N f.fst)=J/\Q (mh m cs md N f.fst)/\I0 XG 2 (bk [db (DJ cs md (W (k+1) m.av) f.fst (cg||f.snd.fst)).snd.fst,db (DJ cs md (W (k+1) m.av) f.fst (cg||f.snd.fst)).snd.snd]) (i8 m cs md N (DJ cs md (W (k+1) m.av) f.fst (cg||f.snd.fst)).fst) [kl RZ ee,bf 0,kc RZ [1,1,1]] (cy 33 [jx,(4,db (cg||f.snd.fst)),(13,bt (BF m.av)),(14,di (I m.av:Int)),(15,di (↑(k+1):Int))]) (i8 m cs md N f.fst))) ⟨yr,by omega,Am hr,fun o c fo ho hc2=>?_,fun h1=>⟨by rw[h1,Bool.true_or],Ae (by have:=hm.ay;omega),okS,rfl,⟨hi _⟩⟩,fun h1=>⟨by rw[h1,Bool.false_or],Ae (by have:=hm.ay;omega),okS,rfl,⟨hi _⟩⟩⟩
   exact EY (H:=[G (fx m cs md N),G (c9 vals),G (cR r)]) ho hc2 0 (by decide) rfl rfl (x:=[Al r]) hfs
theorem Rm(m:cz)(hm:em m)(cs:List Int)(md:Int)(hc:ki m cs md)(N:Nat)(hN:N=I m.aw)(vals:List Int)(B:Int)(hB:0<=B)(hB2:B<=800000000)(h:k9 md B vals)(hl:I vals=N):
  Aa PP 140 [.ptr 0 0] (i8 m cs md N vals) (.tup [db (DJ cs md m.av vals false).2.1,db (DJ cs md m.av vals false).2.2]) (i8 m cs md N (DJ cs md m.av vals false).1):=by
 have hp:=hm.ay
 have hi:=Ab1 m hm cs md hc N hN (I m.av) 0 vals false B (by omega) hB (by omega) h hl
 exact sv XG 33 [] (.lo [ke 0,ke 4,ke 13,ch 14 (di (I m.av)),ch 15 (di (0:Nat))] (i8 m cs md N vals)) (di (I (U Al m.av):Int)=di (I m.av:Int)/\Q (di 0)/\cm 2 [] (mh m cs md N vals)=J/\Q (i8 m cs md N vals).H/\_) ⟨by rw[HH],rfl,by simp[cm,D.okNs,D.okN,BB],rfl,iK hi⟩
noncomputable abbrev T5:=Tryz.f76
noncomputable def Sa:=yl T5
def nj(cs:List Int)(md:Int)(rs:List cf):Nat->List Int->Option (List Int)
 |0,vals=>if (DJ cs md rs vals false).2.1=J∨(DJ cs md rs vals false).2.2=O then none else G (DJ cs md rs vals false).1
 |n+1,vals=>if (DJ cs md rs vals false).2.2=O then none else if (DJ cs md rs vals false).2.1=O then G (DJ cs md rs vals false).1 else nj cs md rs n (DJ cs md rs vals false).1
def Qp(m:cz)(cs:List Int)(md:Int):Int:=if Y (md>0)=J then Ck cs (d6 m.start)%md else Ck cs (d6 m.start)
def l6(m:cz)(cs:List Int)(md:Int):Option (List Int):=nj cs md m.av (I m.aw) ((replicate (I m.aw) f9).set (ei m.start).toNat (Qp m cs md))
abbrev Sx(cs:List Int)(md:Int)(o:Option (List Int)):D:=match o with
 |some vals=>.tup [m7 ⟨cs,md,vals⟩,db J,di 0]
 |none=>.tup [m7 ⟨[],0,[]⟩,db O,di 0]
abbrev i9:List D:=[.v .nils,di 0,.v .nils]
abbrev f8(m:cz)(cs:List Int)(md:Int)(N:Nat)(vals:List Int):St:=⟨[G i9,G (c9 vals),G (fx m cs md N)],[]⟩
abbrev uw(m:cz)(cs:List Int)(md:Int)(vals:List Int):List D:=[di m.kind,.v (cp m.aw),.v (cp m.ay),.v (cp m.ax),.v (cw m.au),di m.ao,di m.age,.v (BF m.av),di m.start.n,cq m.start.az,cx cs,di md,cx vals]
theorem An1(m:cz)(cs:List Int)(md:Int)(vals:List Int)(N:Nat)(hN:I vals=N)(e:List D):Cv e (f8 m cs md N vals) e ⟨[G i9,none,G (uw m cs md vals)],[]⟩:=by
 have h:=XZ (σ:=f8 m cs md N vals) (p:=2) (q:=1) (i:=12) (cs:=fx m cs md N) (xs:=vals.map vi) rfl (by simp_all) (by decide) (by simp_all) (fun x hx=>by obtain⟨z,_,rfl⟩:=I2.1 hx;rfl) e
 exact h
theorem okP(m:cz)(cs:List Int)(md:Int)(N:Nat)(vals:List Int):cm 3 [] [G i9,G (c9 vals),G (fx m cs md N)]=J:=by simp[cm,D.okNs,D.okN,BB]
noncomputable abbrev q8:=[bt (bw 140 [] []),bq 2 0]
noncomputable abbrev kf:=fun a₀ b₀ c₀ d₀ e₀=>[G i9,G (c9 a₀),G (fx b₀ c₀ d₀ e₀)]
noncomputable abbrev Av4:=[bt (ab [ai [],vi 0,ai []]),db O,di 0]
theorem Ab3(m:cz)(hm:em m)(cs:List Int)(md:Int)(hc:ki m cs md)(N:Nat)(hN:N=I m.aw)(n:Nat):∀(k:Nat) (vals:List Int) (B:Int),N-k=n->0<=B->B+201326592*n<=700000000->k9 md B vals->I vals=N->
  Rn PP T5 0 (Sx cs md (nj cs md m.av n vals)) ba ([kl Sa [1,1,1,1,1,1,1,0,1,0,0],.blk 1,kc Sa [1,1,1,1,1,1,1,1]]++[]) (cy 110 [(6,.ptr 0 0),(10,.ptr 2 0),(77,di N),(78,di k)]) (f8 m cs md N vals):=by
 induction n with
 |zero=>
  intro k vals B hn hB hB2 h hl
  have hr:=Rm m hm cs md hc N hN vals B hB (by omega) h hl
  obtain⟨_,hl2⟩:=Mr hm hc m.av vals false B (fun r hr=>hm.rule hr) hB h (by omega)
  rw[nj]
  generalize DJ cs md m.av vals false=f at*
  obtain⟨v2,c,ok⟩:=f
  cases c with
  |true=>
   exact lv 110 [3] (.f<|.h (.q 21 1)<|.h (.oc (.tup [db J,db ok]) (f8 m cs md N v2)) .r) (Y ((k:Int)<(N:Int))=O/\(N0 q8 (f8 m cs md N vals) (bk [db J,db ok]) (f8 m cs md N v2))/\bk Av4=Sx cs md none) ⟨yq,fun o c fo ho hc2=>EY (H:=(kf vals m cs md N)) ho hc2 2 (by decide) rfl rfl (x:=[]) hr,rfl⟩
  |false=>
   cases ok with
   |false=>
    exact lv 110 [3] (.f<|.h (.q 21 1)<|.h (.oc (.tup [db O,db O]) (f8 m cs md N v2)) .r) (Y ((k:Int)<(N:Int))=O/\(N0 q8 (f8 m cs md N vals) (bk [db O,db O]) (f8 m cs md N v2))/\bk Av4=Sx cs md none) ⟨yq,fun o c fo ho hc2=>EY (H:=(kf vals m cs md N)) ho hc2 2 (by decide) rfl rfl (x:=[]) hr,rfl⟩
   |true=>
    exact lv 110 [3] (.f<|.h (.q 21 1)<|.h (.oc (.tup [db O,db J]) (f8 m cs md N v2))<|.h (.q 24 0)<|.h (.cs ⟨[G i9,none,G (uw m cs md v2)],[]⟩) .r) (Y ((k:Int)<(N:Int))=O/\(N0 q8 (f8 m cs md N vals) (bk [db O,db J]) (f8 m cs md N v2))/\(∀(e:List D) (E:cd) (g:Gh) (a:Act) (w:x5),FI E g (bh (kf v2 m cs md N) []) e a w->∃g',FI E g' (bh [G i9,none,G (uw m cs md v2)] []) e a w)/\bk [bt (ab [ai (U vi cs),vi md,ai (U vi v2)]),db J,di 0]=Sx cs md (G (v2,false,true).fst)) ⟨yq,fun o c fo ho hc2=>EY (H:=(kf vals m cs md N)) ho hc2 2 (by decide) rfl rfl (x:=[]) hr,fun e=>An1 m cs md v2 N (by simpa using hl2.trans hN.symm) e,rfl⟩
 |succ n ih=>
  intro k vals B hn hB hB2 h hl
  have hr:=Rm m hm cs md hc N hN vals B hB (by omega) h hl
  obtain⟨hb2,hl2⟩:=Mr hm hc m.av vals false B (fun r hr=>hm.rule hr) hB h (by omega)
  have hp:=hm.ay
  rw[nj]
  generalize DJ cs md m.av vals false=f at*
  obtain⟨v2,c,ok⟩:=f
  cases ok with
  |false=>
   exact lv 110 [3] (.t<|.h (.q 15 1)<|.h (.oc (.tup [db c,db O]) (f8 m cs md N v2)) .r) (Y ((k:Int)<(N:Int))=J/\(N0 q8 (f8 m cs md N vals) (bk [db c,db O]) (f8 m cs md N v2))/\bk Av4=Sx cs md none) ⟨yr,fun o c fo ho hc2=>EY (H:=(kf vals m cs md N)) ho hc2 2 (by decide) rfl rfl (x:=[]) hr,rfl⟩
  |true=>
   cases c with
   |false=>
    rw[Ie rfl]
    exact lv 110 [3] (.t<|.h (.q 15 1)<|.h (.oc (.tup [db O,db J]) (f8 m cs md N v2))<|.h (.q 19 0)<|.h (.cs ⟨[G i9,none,G (uw m cs md v2)],[]⟩) .r) (Y ((k:Int)<(N:Int))=J/\(N0 q8 (f8 m cs md N vals) (bk [db O,db J]) (f8 m cs md N v2))/\(∀(e:List D) (E:cd) (g:Gh) (a:Act) (w:x5),FI E g (bh (kf v2 m cs md N) []) e a w->∃g',FI E g' (bh [G i9,none,G (uw m cs md v2)] []) e a w)/\bk [bt (ab [ai (U vi cs),vi md,ai (U vi v2)]),db J,di 0]=Sx cs md (G (v2,false,true).fst)) ⟨yr,fun o c fo ho hc2=>EY (H:=(kf vals m cs md N)) ho hc2 2 (by decide) rfl rfl (x:=[]) hr,fun e=>An1 m cs md v2 N (by simpa using hl2.trans hN.symm) e,rfl⟩
   |true=>
    rw[HZ (by simp)]
    exact lv 110 [3] (.t<|.h (.q 15 1)<|.h (.oc (.tup [db J,db J]) (f8 m cs md N v2))<|.lo [ke 6,ke 10,ke 77,ch 78 (di (k+1:Nat))] (f8 m cs md N v2)) (Y ((k:Int)<(N:Int))=J/\(N0 q8 (f8 m cs md N vals) (bk [db J,db J]) (f8 m cs md N v2))/\di (yu yt ((k:Int)+1))=di (↑(k+1):Int)/\cm 3 [] (kf v2 m cs md N)=J/\Q (f8 m cs md N v2).H/\_) ⟨yr,fun o c fo ho hc2=>EY (H:=(kf vals m cs md N)) ho hc2 2 (by decide) rfl rfl (x:=[]) hr,by rw[Ae],okP ..,rfl,iK (ih (k+1) v2 (B+16777216*I m.av) (by omega) (by omega) (by omega) hb2 (hl2.trans hN.symm))⟩
theorem Alp{m:cz}(hm:em m){cs:List Int}{md:Int}(hc:ki m cs md):k9 md 8388608 ((replicate (I m.aw) f9).set (ei m.start).toNat (Qp m cs md)):=by
 have hfw:=hm.few
 have hcl:=hc.len
 have hmd:=hc.mod
 have hs:=G8 cs (d6 m.start) hc.coef hm.start.nm
 have hd:0<md->0<=Qp m cs md/\Qp m cs md<=md-1:=fun hp=>by
  rw[Qp,Ie (HK hp)]
  have h1:=Int.emod_nonneg (Ck cs (d6 m.start)) (show md≠0 by omega)
  have h2:=Int.emod_lt_of_pos (Ck cs (d6 m.start)) hp
  omega
 have hb: -8388608<=Qp m cs md/\Qp m cs md<=8388608:=by
  grind[Qp]
 refine⟨fun v hv=>?_,fun hp v hv=>?_⟩
 all_goals grind
noncomputable abbrev l9:=fun a₀=>(c9 (replicate a₀ f9))
theorem Ab2(m:cz)(hm:em m)(cs:List Int)(md:Int)(hc:ki m cs md):F0 76 [Ad m,cx cs,di md] (Sx cs md (l6 m cs md)):=by
 have hp:=hm.ay
 have hfw:=hm.few
 have hcl:=hc.len
 have hmd:=hc.mod
 obtain⟨N,hN⟩:∃N,N=I m.aw:=⟨_,rfl⟩
 obtain⟨v0,hv0⟩:∃v0,v0=(replicate (I m.aw) f9).set (ei m.start).toNat (Qp m cs md):=⟨_,rfl⟩
 obtain⟨p,hpp⟩:∃p,p=l6 m cs md:=⟨_,rfl⟩
 have hfm:Qp m cs md=if Y (md>0)=J then Ck cs (d6 m.start)%md else Ck cs (d6 m.start):=rfl
 have eL:I (m.aw.map ae)=N:=by grind
 have hrep:Aa PP 138 [dl [vi 1099511627776],di N] ba (.arr 0 0 N) ⟨[G (c9 (replicate N f9))],[]⟩:=by
  have h:=AeU 1099511627776 N (by omega) (by omega)
  simp_all
 have hpl:D.pls (c9 (replicate N f9))=J:=by grind[Ahd,Ca]
 have hst:=hm.start.st
 have hkd:=VE hm.start.isC
 have hidx:(U eV (b9.az m.start))[Z 0]?=G (Ac (lf (ei m.start))):=by rw[hkd];rfl
 have hset:∀x:Int,List.set (c9 (replicate N f9)) (0+Z (b9.n (lf (ei m.start)))*1) (di x)=c9 ((replicate N f9).set (ei m.start).toNat x):=fun x=>by simp[c9,List.map_set];rfl
 have hli:0+Z (b9.n (lf (ei m.start)))*1<I (c9 (replicate N f9)):=by grind[ei]
 have hfit:=MK cs (by omega)
 rw[show cs.any XD=O from List.any_eq_false.2 fun c h=>by have:=hc.coef c h;grind[XD]] at hfit
 have hmod:=MJ md
 rw[show m0 md=J by grind[m0]] at hmod
 have hnum:=QC m.start _ _ hm.start.isC (by have:=hm.start.len;omega)
 have hsum:=JZ cs (d6 m.start) (by rw[hm.start.len,hcl];omega) (by omega) hc.coef hm.start.nm
 have hsb:=G8 cs (d6 m.start) hc.coef hm.start.nm
 have hv:=Alp hm hc
 have hlp:=Ab3 m hm cs md hc N hN N 0 v0 8388608 (by omega) (by omega) (by omega) (by grind) (by grind)
 have hpe:nj cs md m.av N v0=l6 m cs md:=by grind[l6]
 rw[hpe] at hlp
 by_cases h:Y (md>0)=J
 ·refine sv T5 110 [3] (.c (di 0)<|.k<|.f<|.c (db J)<|.c (db J)<|.c (cx cs)<|.h (.oc (.arr 1 0 N) ⟨[G i9,G (l9 N)],[]⟩)<|.h .g<|.h .g<|.c (cx (d6 m.start))<|.c (di (Ck cs (d6 m.start)))<|.t<|.c (di (Qp m cs md))<|.h (.xs (Ac (lf (ei m.start))))<|.w<|.lo [ke 6,ke 10,ch 77 (di N),ch 78 (di (0:Nat))] (f8 m cs md N v0)) (wa m/\((I (U vi cs):Int) !=(I (df m.ay):Int))=O/\w8 cs/\wg md/\F0 66 [cx cs] (cx cs)/\(N0 [bt (bw 138 [] []),bt (ai [vi 1099511627776]),di (I (df m.aw):Int)] (bh [G [dn,di 0,dn]] []) (bo 1 0 N) (bh [G i9,G (l9 N)] []))/\F0 101 [dV m.start] (cx (d6 m.start))/\F0 100 [cx cs,bt (cw (d6 m.start))] (di (Ck cs (d6 m.start)))/\Y (md>0)=J/\F0 139 [di (Ck cs (d6 m.start)),di md] (di (Qp m cs md))/\Q 2/\iz 0<=0/\(ce m.start.az)[Z 0]?=G (Ac (lf (ei m.start)))/\0<=b9.n (lf (ei m.start))/\b9.n (lf (ei m.start))<(N:Int)/\0+Z (b9.n (lf (ei m.start)))*1<I (l9 N)/\yp/\di (I (df m.aw):Int)=di (N:Int)/\di 0=di (↑0:Int)/\cm 3 [] [G i9,G (List.set (l9 N) (0+Z (b9.n (lf (ei m.start)))*1) (di (Qp m cs md))),G [di m.kind,bt (cp m.aw),bt (cp m.ay),bt (cp m.ax),cx m.au,di m.ao,di m.age,bt (BF m.av),di m.start.n,cq m.start.az,cx cs,di md,bo 1 0 N]]=J/\[G i9,G (List.set (l9 N) (0+Z (b9.n (lf (ei m.start)))*1) (di (Qp m cs md))),G [di m.kind,bt (cp m.aw),bt (cp m.ay),bt (cp m.ax),cx m.au,di m.ao,di m.age,bt (BF m.av),di m.start.n,cq m.start.az,cx cs,di md,bo 1 0 N]]=(kf v0 m cs md N)/\I0 T5 (I ba.H) (Sx cs md (l6 m cs md)) ba [kl Sa [1,1,1,1,1,1,1,0,1,0,0],bf 1,kc Sa [1,1,1,1,1,1,1,1]] (cy 110 [jh,(10,bq 2 0),(77,di (N:Int)),(78,di (↑0:Int))]) (f8 m cs md N v0)) ?_
  have hrst:F0 139 [di (Ck cs (d6 m.start)),di md] (di (Qp m cs md)):=by
   rw[Qp,Ie h];exact KN _ md (by grind) (by omega)
  rw[eL,hset,show c9 ((replicate N f9).set (ei m.start).toNat (Qp m cs md))=c9 v0 by grind]
  exact⟨JK m hm,by grind,hfit,hmod,Nx cs (by omega),fun o c fo ho hc2=>D4 (f:=138) (fs:=[]) (cs:=[]) (ds:=[dl [vi 1099511627776],di N]) ho hc2 rfl hpl hrep,hnum,hsum,h,hrst,rfl,by decide,hidx,hst.1,(by grind),hli,yn,rfl,rfl,okP m cs md N v0,rfl,⟨hlp⟩⟩
 ·refine sv T5 110 [3] (.c (di 0)<|.k<|.f<|.c (db J)<|.c (db J)<|.c (cx cs)<|.h (.oc (.arr 1 0 N) ⟨[G i9,G (l9 N)],[]⟩)<|.h .g<|.h .g<|.c (cx (d6 m.start))<|.c (di (Ck cs (d6 m.start)))<|.f<|.h (.xs (Ac (lf (ei m.start))))<|.w<|.lo [ke 6,ke 10,ch 77 (di N),ch 78 (di (0:Nat))] (f8 m cs md N v0)) (wa m/\((I (U vi cs):Int) !=(I (df m.ay):Int))=O/\w8 cs/\wg md/\F0 66 [cx cs] (cx cs)/\(N0 [bt (bw 138 [] []),bt (ai [vi 1099511627776]),di (I (df m.aw):Int)] (bh [G [dn,di 0,dn]] []) (bo 1 0 N) (bh [G i9,G (l9 N)] []))/\F0 101 [dV m.start] (cx (d6 m.start))/\F0 100 [cx cs,bt (cw (d6 m.start))] (di (Ck cs (d6 m.start)))/\Y (md>0)=O/\Q 2/\iz 0<=0/\(ce m.start.az)[Z 0]?=G (Ac (lf (ei m.start)))/\0<=b9.n (lf (ei m.start))/\b9.n (lf (ei m.start))<(N:Int)/\0+Z (b9.n (lf (ei m.start)))*1<I (l9 N)/\yp/\di (I (df m.aw):Int)=di (N:Int)/\di 0=di (↑0:Int)/\cm 3 [] [G i9,G (List.set (l9 N) (0+Z (b9.n (lf (ei m.start)))*1) (di (Ck cs (d6 m.start)))),G [di m.kind,bt (cp m.aw),bt (cp m.ay),bt (cp m.ax),cx m.au,di m.ao,di m.age,bt (BF m.av),di m.start.n,cq m.start.az,cx cs,di md,bo 1 0 N]]=J/\[G i9,G (List.set (l9 N) (0+Z (b9.n (lf (ei m.start)))*1) (di (Ck cs (d6 m.start)))),G [di m.kind,bt (cp m.aw),bt (cp m.ay),bt (cp m.ax),cx m.au,di m.ao,di m.age,bt (BF m.av),di m.start.n,cq m.start.az,cx cs,di md,bo 1 0 N]]=(kf v0 m cs md N)/\I0 T5 (I ba.H) (Sx cs md (l6 m cs md)) ba [kl Sa [1,1,1,1,1,1,1,0,1,0,0],bf 1,kc Sa [1,1,1,1,1,1,1,1]] (cy 110 [jh,(10,bq 2 0),(77,di (N:Int)),(78,di (↑0:Int))]) (f8 m cs md N v0)) ?_
  have hF:Y (md>0)=O:=by grind
  have hfs:Ck cs (d6 m.start)=Qp m cs md:=by grind
  rw[eL,hset,show c9 ((replicate N f9).set (ei m.start).toNat (Ck cs (d6 m.start)))=c9 v0 by grind]
  exact⟨JK m hm,by grind,hfit,hmod,Nx cs (by omega),fun o c fo ho hc2=>D4 (f:=138) (fs:=[]) (cs:=[]) (ds:=[dl [vi 1099511627776],di N]) ho hc2 rfl hpl hrep,hnum,hsum,hF,rfl,by decide,hidx,hst.1,(by grind),hli,yn,rfl,rfl,okP m cs md N v0,rfl,⟨hlp⟩⟩
theorem Ajh{m:cz}(hm:em m){cs:List Int}{md:Int}(hc:ki m cs md):∀(n:Nat) (vals:List Int) (B:Int),0<=B->k9 md B vals->I vals=I m.aw->∀r,nj cs md m.av n vals=G r->k9 md (B+201326592*(n+1)) r/\r.length=I m.aw:=by
 intro n
 have hp:=hm.ay
 induction n with
 |zero=>
  intro vals B hB h hl r hr
  obtain⟨h1,h2⟩:=Mr hm hc m.av vals false B (fun r hr=>hm.rule hr) hB h hl
  rw[nj] at hr
  split at hr
  ·cases hr
  ·cases hr
   exact⟨⟨fun v hv=>by have:=h1.bd v hv;omega,h1.md⟩,h2⟩
 |succ n ih=>
  intro vals B hB h hl r hr
  obtain⟨h1,h2⟩:=Mr hm hc m.av vals false B (fun r hr=>hm.rule hr) hB h hl
  rw[nj] at hr
  split at hr
  ·cases hr
  ·split at hr
   ·cases hr
    exact⟨⟨fun v hv=>by have:=h1.bd v hv;omega,h1.md⟩,h2⟩
   ·obtain⟨h3,h4⟩:=ih _ (B+16777216*I m.av) (by omega) h1 h2 r hr
    exact⟨⟨fun v hv=>by have:=h3.bd v hv;omega,h3.md⟩,h4⟩
theorem Ta{m:cz}(hm:em m){cs:List Int}{md:Int}(hc:ki m cs md){vals:List Int}(h:l6 m cs md=G vals):E3 m ⟨cs,md,vals⟩:=by
 have hfw:=hm.few
 obtain⟨h1,h2⟩:=Ajh hm hc (I m.aw) _ 8388608 (by omega) (Alp hm hc) (by grind) vals h
 refine⟨hc.len,hc.coef,hc.mod,h2,fun v hv=>?_⟩
 rcases hc.mod with hm0|hm0
 ·rcases h1.bd v hv with h|h
  all_goals grind
 ·rcases h1.md (by omega) v hv with h|h
  all_goals grind
theorem TD{m:cz}(hm:em m){n:Int}(_:0<=n)(h:(Gr (I m.ay) n).2.2=J):ki m (Gr (I m.ay) n).1 (Gr (I m.ay) n).2.1:=by
 have hfw:=hm.few
 have hp:=hm.ay
 revert h
 unfold Gr
 split
 ·rename_i hp1
  split
  ·intro _
   refine⟨by grind,fun c hc=>?_,?_⟩
   all_goals grind
  grind
 ·split
  ·intro _
   refine⟨by grind,fun c hc=>?_,?_⟩
   all_goals grind
  grind
theorem Ab8(m:cz)(hm:em m)(n:Int)(hn:0<=n/\n<=1000):F0 74 [di (I m.ay),di n] (l0 (Gr (I m.ay) n)):=by
 have hfw:=hm.few
 have hp:=hm.ay
 rcases show I m.ay=1∨m.ay.length=2 by omega with h|h
 ·rw[h];grind[AhY]
 ·rw[h];grind[AhX]
def Gk(h:c7):c7:=⟨h.found,h.before,h.av,h.next,h.cand+1,h.used⟩
def k6(cs:List Int)(md:Int)(vals:List Int)(u:Int):e9:=⟨true,false,[],cs,md,vals,[],u⟩
def B1(m:cz)(c:b9)(h:c7):c7×e9:=
 match Gr (I m.ay) h.cand with
 |(cs,md,true)=>match l6 m cs md with
  |some vals=>if XM m ⟨cs,md,vals⟩ c=J then(Gk h,k6 cs md vals h.used) else(Gk h,Aq h.used)
  |none=>(Gk h,Aq h.used)
 |(_,_,false)=>(h,Aq h.used)
noncomputable abbrev XI:=Tryz.f42
noncomputable abbrev Atd:=fun a₀ b₀ c₀ d₀=>F0 74 [di (I (df a₀):Int),di b₀] (bk [cx c₀,di d₀,db J])
theorem RG(m:cz)(hm:em m)(c:b9)(hc:AN m c)(h:c7)(hn:0<=h.cand/\h.cand<=1000):Aa PP 42 [.ptr 0 0] (f0 h m c) (Cr (B1 m c h).2) (f0 (B1 m c h).1 m c):=by
 have hcd:=Ab8 m hm h.cand hn
 have hco:=TD hm hn.1
 have hpl:=L9 m (by have:=hm.ay;omega)
 rw[NX hm] at hpl
 rw[B1]
 generalize Gr (I m.ay) h.cand=k at*
 obtain⟨cs,md,ok⟩:=k
 have hw:yt.wrap (h.cand+1)=h.cand+1:=Ak
 cases ok with
 |false=>
  dsimp only
  exact sv XI 86 [] (.c (.tup [cx cs,di md,db O])<|.c1 (dv h m c) (Cr (Aq h.used)) .r) (F0 74 [di (I (U ae m.ay):Int),di h.cand] (bk [cx cs,di md,db O])/\yo/\_/\Q [G (dv h m c)]/\bt (ab [bu (Aq h.used).decided,bu (Aq h.used).yes,ai [],ai [],vi (Aq h.used).mod,ai [],ai [],vi (Aq h.used).used])=Cr (Aq h.used)) ⟨by grind,ym,EX h m c,rfl,rfl⟩
 |true=>
  have hco:=hco rfl
  have hpo:=Ab2 m hm cs md hco
  have hpk:∀vals,l6 m cs md=G vals->E3 m ⟨cs,md,vals⟩:=fun vals h=>Ta hm hco h
  dsimp only
  generalize l6 m cs md=o at*
  cases o with
  |none=>
   refine sv XI 86 [] (.c (.tup [cx cs,di md,db J])<|.c (db J)<|.c (Sx cs md none)<|.c1 (dv (Gk h) m c) (Cr (Aq h.used)) .r) (F0 74 [di (I (U ae m.ay):Int),di h.cand] (bk [cx cs,di md,db J])/\yo/\F0 75 [Ad m] (db J)/\F0 76 [Ad m,cx cs,di md] (Sx cs md none)/\Aa PP 67 [bq 0 0] (bh [G [cq h.found,cx h.before,cx h.av,di h.next,di (yu yt (h.cand+1)),di h.used,di m.kind,bt (cp m.aw),bt (cp m.ay),bt (cp m.ax),cx m.au,di m.ao,di m.age,bt (BF m.av),di m.start.n,cq m.start.az,di c.n,cq c.az]] []) (Cr (Aq h.used)) (bh [G (dv (Gk h) m c)] [])/\[G (dv (Gk h) m c)]=[G (dv (match none with|G vals=>if XM m (fh.mk cs md vals) c=J then(Gk h,k6 cs md vals h.used) else(Gk h,Aq h.used)|none=>(Gk h,Aq h.used)).fst m c)]/\bt (ab [bu (Aq h.used).decided,bu (Aq h.used).yes,ai [],ai [],vi (Aq h.used).mod,ai [],ai [],vi (Aq h.used).used])=Cr (match none with|G vals=>if XM m (fh.mk cs md vals) c=J then(Gk h,k6 cs md vals h.used) else(Gk h,Aq h.used)|none=>(Gk h,Aq h.used)).snd) ?_
   rw[hw]
   exact⟨by grind,ym,hpl,hpo,EX (Gk h) m c,rfl,rfl⟩
  |some vals=>
   have hex:=Ab7 m hm _ (hpk vals rfl) c hc
   dsimp only
   cases hb:XM m ⟨cs,md,vals⟩ c with
   |true=>
    refine sv XI 86 [] (.c (.tup [cx cs,di md,db J])<|.c (db J)<|.c (Sx cs md (G vals))<|.c (.tup [db J,di 0]) .r) (F0 74 [di (I (U ae m.ay):Int),di h.cand] (bk [cx cs,di md,db J])/\yo/\F0 75 [Ad m] (db J)/\F0 76 [Ad m,cx cs,di md] (Sx cs md (G vals))/\F0 77 [Ad m,bt (ab [cw (fh.mk cs md vals).coefs,vi (fh.mk cs md vals).mod,cw (fh.mk cs md vals).vals]),dV c] (bk [db J,di 0])/\(yj (True))/\yo/\[G [cq h.found,cx h.before,cx h.av,di h.next,di (yu yt (h.cand+1)),di h.used,di m.kind,bt (cp m.aw),bt (cp m.ay),bt (cp m.ax),cx m.au,di m.ao,di m.age,bt (BF m.av),di m.start.n,cq m.start.az,di c.n,cq c.az]]=[G (dv (Gk h,k6 cs md vals h.used).fst m c)]/\bt (ab [bu true,bu false,ai [],ai (U vi (fh.mk cs md vals).coefs),vi (fh.mk cs md vals).mod,ai (U vi (fh.mk cs md vals).vals),ai [],vi h.used])=Cr (Gk h,k6 cs md vals h.used).snd) ?_
    rw[hw]
    exact⟨by rw[HH];exact hcd,ym,hpl,hpo,hb▸hex,⟨trivial,trivial,trivial,trivial⟩,ym,rfl,rfl⟩
   |false=>
    refine sv XI 86 [] (.c (.tup [cx cs,di md,db J])<|.c (db J)<|.c (Sx cs md (G vals))<|.c (.tup [db O,di 0])<|.c1 (dv (Gk h) m c) (Cr (Aq h.used)) .r) (F0 74 [di (I (U ae m.ay):Int),di h.cand] (bk [cx cs,di md,db J])/\yo/\F0 75 [Ad m] (db J)/\F0 76 [Ad m,cx cs,di md] (Sx cs md (G vals))/\F0 77 [Ad m,bt (ab [cw (fh.mk cs md vals).coefs,vi (fh.mk cs md vals).mod,cw (fh.mk cs md vals).vals]),dV c] (bk [db O,di 0])/\(yj (True))/\Aa PP 67 [bq 0 0] (bh [G [cq h.found,cx h.before,cx h.av,di h.next,di (yu yt (h.cand+1)),di h.used,di m.kind,bt (cp m.aw),bt (cp m.ay),bt (cp m.ax),cx m.au,di m.ao,di m.age,bt (BF m.av),di m.start.n,cq m.start.az,di c.n,cq c.az]] []) (Cr (Aq h.used)) (bh [G (dv (Gk h) m c)] [])/\[G (dv (Gk h) m c)]=[G (dv (Gk h,Aq h.used).fst m c)]/\bt (ab [bu (Aq h.used).decided,bu (Aq h.used).yes,ai [],ai [],vi (Aq h.used).mod,ai [],ai [],vi (Aq h.used).used])=Cr (Gk h,Aq h.used).snd) ?_
    rw[hw]
    exact⟨by rw[HH];exact hcd,ym,hpl,hpo,hb▸hex,⟨trivial,trivial,trivial,trivial⟩,EX (Gk h) m c,rfl,rfl⟩
structure m8(v:e9):Prop where
 run:I v.run<=1000/\∀s∈v.run,s.2.size<=1000
 coefs:I v.coefs<=1000
 vals:I v.vals<=1000
 closed:I v.closed<=1000/\∀x∈v.closed,x.size<=1000
structure ko(m:cz)(t:cr)(c:b9)(C:b9->Prop)(S:b9->List cb×Int)(X:c7->c7×e9):Prop where
 int:G2 m t
 valid:Ah t c=J
 tsize:c.size<=1000
 start:C m.start
 size:∀v,C v->v.size<=1000
 all:∀v,C v->F0 50 [Ad m,dV v] (fw (S v))
 len:∀v,C v->(S v).1.length<=256
 next:∀v,C v->∀s∈ (S v).1,C s.2
 excl:∀h:c7,0<=h.cand/\h.cand<=1000->Aa PP 42 [.ptr 0 0] (f0 h m c) (Cr (X h).2) (f0 (X h).1 m c)
 cand:∀h:c7,(X h).1=h∨(X h).1=Gk h
 told:∀h:c7,0<=h.cand->m8 (X h).2
theorem J3{m:cz}{t:cr}(hm:G2 m t)(c:b9)(hc:Ah t c=J)(hs:c.size<=1000):F0 27 [Ad m,dV c] (di 0):=by
 have h1:=hm.valid c (by omega)
 rw[hc] at h1
 exact sv Anp 15 [2,3] (.c (di 0)<|.c (db J) .r) (_/\_/\Q (di 0)) ⟨hm.walks,h1,rfl⟩
theorem QJ{m:cz}{t:cr}(hm:G2 m t)(hms:m.start.size<=1000)(c:b9)(hc:Ah t c=J)(hs:c.size<=1000):F0 19 [Ad m,dV c] (.tup [F5 (BI m),di 0]):=by
 refine sv AbP 21 [2,3] (.c (di 0)<|.c (dV m.start) .r) (oy m c/\qf m.start/\bk [bt (ab [ai [Ac m.start],ai [vi (-1)],ai [vi (-1)],vi 0,vi 0,vi 0]),di 0]=bk [F5 (BI m),di 0]) ?_
 grind[J3,Gi,BI,AH]
def AZ(S:b9->List cb×Int)(c:b9)(h:c7):c7×e9×Int:=if Y (h.next>=(I h.found:Int))=J then(h,Aq h.used,0)
 else if ((S (h.found.getD h.next.toNat default)).2 !=0)=J then(h,Aq 0,(S (h.found.getD h.next.toNat default)).2)
 else BG c h.next ⟨h.found,h.before,h.av,h.next+1,h.cand,h.used⟩ (S (h.found.getD h.next.toNat default)).1
theorem XE{m:cz}{t:cr}{c:b9}{C:b9->Prop}{S:b9->List cb×Int}{X:c7->c7×e9}(hm:ko m t c C S X)(h:c7)(hh:L3 h)(hn:0<=h.next)(hn2:h.next<=1000)(hf:∀v∈h.found,C v):Aa PP 38 [.ptr 0 0] ⟨[G (F7 h m c)],fu h⟩ (RK (AZ S c h)) (f0 (AZ S c h).1 m c):=by
 by_cases h1:Y (h.next>=(I h.found:Int))=J
 ·rw[AZ,Ie h1]
  exact sv Ly 143 [] (.t<|.h (.q 3 0)<|.h (.cs ⟨[G (dv h m c),G d9],fu h⟩)<|.c1 (dv h m c) (Cr (Aq h.used)) .r) (Y (h.next>=(I (ce h.found):Int))=J/\(∀(e:List D) (E:cd) (g:Gh) (a:Act) (w:x5),FI E g (bh [G (F7 h m c),G qb] (j7 h.av h.before h.found)) e a w->∃g',FI E g' (bh [G (dv h m c),G d9] (fu h)) e a w)/\_/\Q [G (dv h m c)]/\bk [bt (td h.used),di 0]=RK (h,Aq h.used,0)) ⟨by rw[HH];exact h1,fun e=>Gq h m c _ _ e,EX h m c,rfl,rfl⟩
 ·have f1:=HU h1
  have hlt:=I3 f1
  obtain⟨v,hv⟩:∃v,h.found[h.next.toNat]?=G v:=⟨_,HI (show h.next.toNat<I h.found by omega)⟩
  have hvc:=hf v (HO hv)
  have hall:=hm.all v hvc
  have hst:=hm.len v hvc
  have hnx:=hm.next v hvc
  have e1:h.found.getD h.next.toNat default=v:=by rw[HQ,hv];rfl
  rw[AZ,HZ h1,e1]
  generalize S v=p at*
  by_cases h2:(p.2 !=0)=J
  ·rw[Ie h2]
   exact sv Ly 143 [] (.f<|.h (.xs (Ac v))<|.c (fw p)<|.t<|.h (.q 6 0)<|.h (.cs ⟨[G (dv h m c),G d9],fu h⟩) .r) (Y (h.next>=(I (ce h.found):Int))=O/\Q 2/\_/\(ce h.found)[Z h.next]?=G (Ac v)/\_/\yo/\_/\(∀(e:List D) (E:cd) (g:Gh) (a:Act) (w:x5),FI E g (bh [G (F7 h m c),G qb] (j7 h.av h.before h.found)) e a w->∃g',FI E g' (bh [G (dv h m c),G d9] (fu h)) e a w)/\Q [G (dv h m c)]/\bk [bt ot,di p.snd]=RK (h,Aq 0,p.snd)) ⟨by rw[HH];exact f1,rfl,hn,e8 hv,hall,ym,h2,fun e=>Gq h m c _ _ e,rfl,rfl⟩
  ·rw[HZ h2]
   obtain⟨h',hh'⟩:∃h':c7,h'=⟨h.found,h.before,h.av,h.next+1,h.cand,h.used⟩:=⟨_,rfl⟩
   rw[←hh']
   have hlen:=hh.len
   have hk':L3 h':=by rw[hh'];exact⟨hh.ne,hh.len,hh.size,hh.bl,hh.rl,hh.back⟩
   have hl:=Rz m c h.next p.1 hst (fun s hs=>hm.size _ (hnx s hs)) _ 0 h' rfl hk' (by rw[hh'];exact⟨hn,by show h.next<(I h.found:Int);omega⟩)
   refine sv Ly 143 [] (.f<|.h (.xs (Ac v))<|.c (fw p)<|.f<|.ls [ke 0,ke 2,ke 4,ch 54 (.v (B2 p.1)),ch 55 (di (I p.1)),ch 56 (di (0:Nat))] (ln h' m c)) (Y (h.next>=(I (ce h.found):Int))=O/\Q 2/\_/\(ce h.found)[Z h.next]?=G (Ac v)/\_/\yo/\(p.snd !=0)=O/\Q (bt (B2 p.fst))/\di (I (U c8 p.fst):Int)=di (I p.fst:Int)/\Q (di 0)/\[G [br 1 (ce h.found),br 2 (cc h.before),br 3 (cc h.av),di (yu yt (h.next+1)),di h.cand,di h.used,di m.kind,bt (cp m.aw),bt (cp m.ay),bt (cp m.ax),cx m.au,di m.ao,di m.age,bt (BF m.av),di m.start.n,cq m.start.az,di c.n,cq c.az],G [db O,db O,dn,dn,di 0,dn,dn,di 0]]=[G (F7 h' m c),G d9]/\[(3,1,U vi h.av),(2,1,U vi h.before),(1,2,U eV h.found)]=(j7 h'.av h'.before h'.found)/\I0 Ly (I (bh [G (F7 h m c)] (fu h)).H) (RK (BG c h.next h' p.fst)) (f0 (BG c h.next h' p.fst).fst m c) Avb (cy 143 [jx,(2,bq 1 0),(4,di h.next),(54,bt (B2 p.fst)),(55,di (I p.fst:Int)),(56,di (↑0:Int))]) (ln h' m c)) ⟨by rw[HH];exact f1,rfl,hn,e8 hv,hall,ym,HU h2,rfl,by rw[HH],rfl,?_,by rw[hh'],⟨by simpa using hl⟩⟩
   rw[hh',Ak]
structure kj(m:cz)(h:c7):Prop where
 ok:L3 h
 cfg:∀v∈h.found,AN m v
theorem PN{m:cz}(hm:em m)(c:b9)(at':Int):∀(l:List cb) (h:c7),kj m h->0<=at'/\at'<I h.found->(∀s∈l,AN m s.2)->kj m (BG c at' h l).1/\(BG c at' h l).1.cand=h.cand/\(BG c at' h l).1.used=h.used/\(BG c at' h l).1.next=h.next
 |[],h,hh,_,_=>⟨hh,rfl,rfl,rfl⟩
 |s::l,h,hh,ha,hl=>by
  have hs:=hl s (by simp)
  have hl':∀s∈l,AN m s.2:=fun s h=>hl s (by simp[h])
  rw[BG]
  split
  ·exact PN hm c at' l h hh ha hl'
  ·split
   ·grind
   ·rename_i h2
    have h2:¬(I h.found:Int)>=128:=by grind
    have ho:=TO hh.ok (by omega) ha (s:=s) (by have:=hs.size hm;omega)
    have hi:kj m (CA h at' s):=⟨ho,fun v hv=>by
     rcases I6.1 hv with hv|hv
     ·exact hh.cfg v hv
     grind⟩
    split
    ·exact PN hm c at' l _ hi (by grind[CA]) hl'
    grind[CA]
theorem VN{m:cz}(hm:em m)(c:b9)(h:c7)(hh:kj m h)(hn:0<=h.next):kj m (BC m c h).1/\(BC m c h).1.cand=h.cand/\(BC m c h).1.used=h.used/\h.next<=(BC m c h).1.next/\(BC m c h).1.next<=h.next+1:=by
 rw[BC]
 split
 ·grind
 ·rename_i h1
  have h1:¬h.next>=(I h.found:Int):=by grind
  split
  ·grind
  ·obtain⟨v,hv⟩:∃v,h.found[h.next.toNat]?=G v:=⟨_,HI (show h.next.toNat<I h.found by omega)⟩
   have hst:=Mj hm (hh.cfg v (HO hv))
   obtain⟨g1,g2,g3,g4⟩:=PN hm c h.next (Em m v).1 ⟨h.found,h.before,h.av,h.next+1,h.cand,h.used⟩ ⟨⟨hh.ok.ne,hh.ok.len,hh.ok.size,hh.ok.bl,hh.ok.rl,hh.ok.back⟩,hh.cfg⟩ (by grind) (fun s hs=>(hst.2.2 s hs).ok)
   grind
theorem Aak(h:c7)(h1:I h.found<=100000)(hs:∀v∈h.found,v.size<=1000000)(h2:I h.before<=100000)(h3:I h.av<=100000)(hb:h.before≠ [])(hr:h.av≠ []):
  F0 36 [F5 h] (F5 h):=by
 have hsp:=QL h h1 hs h2 h3 hb hr
 refine⟨hsp.1,fun g w args hw ha=>Calls.mono (hsp.2 g w args hw ha) ?_⟩
 rintro e w' ⟨u,g',rfl,hw',hr⟩
 have hw2:=WB (σ':=ba) hw' (m:=0) rfl (Iu _) (by rw[hw.n];grind) rfl (by simp)
 refine⟨u,_,rfl,hw2,?_⟩
 refine Mu _ _ rfl ?_
 obtain⟨us,rfl,hr⟩:=hr
 have hr2:=EV hr
 refine⟨us,GU (g:=g') (ds:=(j0 h).map D.un) rfl hr2 (fun c hc=>?_),rfl⟩
 simp only[j0,Ik,IF,D.un,Iz,Jr,or_false] at hc
 rcases hc with rfl|rfl|rfl|rfl|rfl|rfl<;>rfl
def An(h:c7):c7:=⟨h.found,h.before,h.av,h.next,h.cand,h.used+1⟩
def KZ(l:List b9)(u:Int):e9:=⟨true,false,[],[],0,[],l,u⟩
def Pj(m:cz)(c:b9)(h:c7):c7×e9×Int:=
 if (Ar m.start c==0)=J then(An h,Dn [] (An h).used,0)
 else if ((BC m c (An h)).2.2 !=0)=J then(h,Aq 0,(BC m c (An h)).2.2)
 else if (BC m c (An h)).2.1.decided=J then((BC m c (An h)).1,(BC m c (An h)).2.1,0)
 else if Y ((BC m c (An h)).1.next>=((BC m c (An h)).1.found.length:Int))=J then((BC m c (An h)).1,KZ (sortV (BC m c (An h)).1.found) (BC m c (An h)).1.used,0)
 else((B1 m c (BC m c (An h)).1).1,(B1 m c (BC m c (An h)).1).2,0)
abbrev fj:List D:=[.v .nils,.v .nils,.v .nils,di 0,di 0,di 0]
abbrev G0(r:c7×e9×Int):D:=.tup [F5 r.1,Cr r.2.1,di r.2.2]
noncomputable abbrev T4:=Tryz.f20
noncomputable def Y1:=yl T4
theorem Vr(h:c7)(hh:L3 h){o:yy}{c:Call}{fo:x8}(ho:o.op=.call c)(hc:c.callee=.value fo)(H:List (Option (List D))):Ai PP o [.v (.fn 36 [] []),F5 h] ⟨H,[]⟩ (.dagg (j0 h)) ⟨H,fu h⟩:=by
 have hl:=hh.len
 have hbl:=hh.bl
 have hrl:=hh.rl
 have hne:0<I h.found:=length_pos_iff.2 hh.ne
 have hsp:=QL h (by omega) (fun v hv=>by have:=hh.size v hv;omega) (by omega) (by omega) (length_pos_iff.1 (by omega)) (length_pos_iff.1 (by omega))
 have:=B3 (σ:=⟨H,[]⟩) ho hc (fD:=.v (.fn 36 [] [])) rfl (ds:=[F5 h]) [] id hsp (.cons (.ren (dc:=F5 h) rfl) .nil) .nil (by simp) rfl (by simp) (by simp) (by rfl) rfl
 simpa[CO,Cy,DM,D.ren,D.rens,ez] using this
theorem RL(h:c7)(m:cz)(c:b9){H:List (Option (List D))}{own:List (Nat×Nat×List V)}{q:Nat}(hq:H[q]?=G (G (F7 h m c)))(e:List D):Cv e ⟨H,own⟩ e ⟨H.set q (G (dv h m c)),own⟩:=
 D0 (σ:=⟨H,own⟩) (q:=q) (cs:=F7 h m c) (cs':=dv h m c) hq (fun g us hr=>by
  have:=EV hr
  simpa[D.un] using this) (fun _ x hx=>by
  simp only[dv,Iz,Jr,or_false] at hx
  rcases hx with rfl|rfl|rfl|rfl|rfl|rfl|rfl|rfl|rfl|rfl|rfl|rfl|rfl|rfl|rfl|rfl|rfl|rfl<;>rfl) e
abbrev cV(v:e9):List D:=[db v.decided,db v.yes,.v (B2 v.run),cx v.coefs,di v.mod,cx v.vals,cq v.closed,di v.used]
theorem Ala(h:c7)(m:cz)(c:b9):Aa PP 37 [.ptr 0 0,.v .nils] (f0 h m c) (Cr (Dn [] h.used)) (f0 h m c):=by
 exact sv Aqb 12 [] .r (Q [G (dv h m c)]/\bt (ab [bu true,bu true,ai [],ai [],vi 0,ai [],ai [],vi h.used])=Cr (Dn [] h.used)) ⟨rfl,rfl⟩
noncomputable abbrev xu:=fun a₀=>(N0 [bt (bw 36 [] []),bt (vt a₀)] (bh [G [dn,dn,dn,di 0,di 0,di 0],G [db O,db O,dn,dn,di 0,dn,dn,di 0]] []) (bi (j0 a₀)) (bh [G fj,G d9] (fu a₀)))
noncomputable abbrev Ash:=(bw 40 [] [])
noncomputable abbrev Asn:=fun a₀=>[bt (ab [ai (U eV (An a₀).found),ai (U vi (An a₀).before),ai (U vi (An a₀).av),vi (An a₀).next,vi (An a₀).cand,vi (An a₀).used]),bt (ab [bu (Dn [] (An a₀).used).decided,bu (Dn [] (An a₀).used).yes,ai [],ai [],vi (Dn [] (An a₀).used).mod,ai [],ai [],vi (Dn [] (An a₀).used).used]),di 0]
noncomputable abbrev w5:=fun a₀ b₀ c₀ d₀ e₀=>(bh [G fj,G d9,G (dv a₀ b₀ c₀),G (cV d₀),G (Ab (U eV (sortV e₀)))] [])
noncomputable abbrev Au4:=fun a₀ b₀ c₀=>Aa PP 37 [bq 0 0,dn] (bh [G (dv (An a₀) b₀ c₀)] []) (Cr (Dn [] (An a₀).used)) (bh [G (dv (An a₀) b₀ c₀)] [])
noncomputable abbrev Avc:=fun a₀ b₀ c₀=>(cy 107 [(3,bt (gd a₀)),(4,bt (bz (Ac b₀))),(5,bt (bz (vt c₀))),jh,(7,bq 1 0),(8,di 0),(9,di 0),(10,bq 2 0),(49,bq 2 0)])
noncomputable abbrev wh:=fun a₀ b₀ c₀ d₀ e₀=>(bh [G fj,G d9,G (dv a₀ b₀ c₀),G (cV d₀),G (ej e₀)] [])
noncomputable abbrev wn:=(Bz (sub Y1 [1,1,1,1,1,0]))
theorem ZN(m:cz)(hm:em m)(c:b9)(hc:AN m c)(h:c7)(hh:kj m h)(hn:0<=h.next/\h.next<=500)(hcd:0<=h.cand/\h.cand<=500)(hu:0<=h.used/\h.used<=100000):F0 20 [Ad m,dV c,F5 h] (G0 (Pj m c h)):=by
 have hask:=Si m hm c hc
 have hsz:=hm.start.size hm
 have hsame:=FZ m.start c (by omega)
 rw[Pj]
 by_cases h1:(Ar m.start c==0)=J
 ·rw[Ie h1]
  rw[h1] at hsame
  refine sv T4 107 [3,4,5] (.c (di 0)<|.h (.oc (.dagg (j0 h)) ⟨[G fj,G d9],fu h⟩)<|.h .g<|.c (db J)<|.h (.cs ⟨[G fj,G d9,G (dv (An h) m c)],fu h⟩)<|.c1 (dv (An h) m c) (Cr (Dn [] (An h).used)) .r) (oy m c/\(xu h)/\F0 22 [dV m.start,dV c] (db J)/\(∀(e:List D) (E:cd) (g:Gh) (a:Act) (w:x5),FI E g (bh [G fj,G d9,G [br 1 (ce h.found),br 2 (cc h.before),br 3 (cc h.av),di h.next,di h.cand,bt (aa yt (yu yt (h.used+1))),bt (vi m.kind),bt (cp m.aw),bt (cp m.ay),bt (cp m.ax),cx m.au,bt (vi m.ao),bt (vi m.age),bt (BF m.av),bt (vi m.start.n),cq m.start.az,bt (vi c.n),cq c.az]] (j7 h.av h.before h.found)) e a w->∃g',FI E g' (bh [G fj,G d9,G (dv (An h) m c)] (fu h)) e a w)/\Au4 h m c/\((Q (G [cq (An h).found,cx (An h).before,cx (An h).av,di (An h).next,di (An h).cand,di (An h).used])/\True)/\True)/\bk (Asn h)=G0 (An h,Dn [] (An h).used,0)) ?_
  rw[Ak (n:=h.used+1)]
  exact⟨hask,fun o c fo ho hc2=>Vr h hh.ok ho hc2 _,hsame,fun e=>RL (An h) m c (H:=[G fj,G d9,G (F7 (An h) m c)]) (own:=fu h) (q:=2) rfl e,Ala (An h) m c,(by repeat' first|with_reducible refine And.intro ?_ ?_|rfl|trivial),rfl⟩
 ·rw[HZ h1]
  rw[HU h1] at hsame
  have hiU:kj m (An h):=⟨⟨hh.ok.ne,hh.ok.len,hh.ok.size,hh.ok.bl,hh.ok.rl,hh.ok.back⟩,hh.cfg⟩
  have hfs:=AbL m hm c (An h) hiU.ok hn.1 (by show h.next<=1000;omega) hh.cfg
  obtain⟨hi2,hc2,hu2,hn2,hn3⟩:=VN hm c (An h) hiU hn.1
  have hrp:F0 36 [F5 h] (F5 h):=by
   have hl:=hh.ok.len
   have hbl:=hh.ok.bl
   have hrl:=hh.ok.rl
   have hne:0<I h.found:=length_pos_iff.2 hh.ok.ne
   exact Aak h (by omega) (fun v hv=>by have:=hh.ok.size v hv;omega) (by omega) (by omega) (length_pos_iff.1 (by omega)) (length_pos_iff.1 (by omega))
  have hcd2:0<=(An h).cand/\(An h).cand<=500:=hcd
  refine sv T4 107 [3,4,5] (.c (di 0)<|.h (.oc (.dagg (j0 h)) ⟨[G fj,G d9],fu h⟩)<|.h .g<|.c (db O)<|.h (.q 8 1)<|.h (.s [ke 3,ke 4,ke 5,ke 6,ke 7,ke 8,ke 9,ke 10,ke 49]) .z) (oy m c/\(xu h)/\F0 22 [dV m.start,dV c] (db O)/\Nv.It (Cg (CN (I ba.H)) PP (fun env σ1=>A9 PP T4 env σ1 (G0 (if ((BC m c (An h)).snd.snd !=0)=J then(h,Aq 0,(BC m c (An h)).snd.snd) else if (BC m c (An h)).snd.fst.decided=J then((BC m c (An h)).fst,(BC m c (An h)).snd.fst,0) else if Y ((BC m c (An h)).fst.next>=(↑(I (BC m c (An h)).fst.found):Int))=J then((BC m c (An h)).fst,KZ (sortV (BC m c (An h)).fst.found) (BC m c (An h)).fst.used,0) else((B1 m c (BC m c (An h)).fst).fst,(B1 m c (BC m c (An h)).fst).snd,0))) ba) [kc Y1 [1,1,1,1,1,1]] wn (W 1 wn.toList) (Avc m c h) (bh [G fj,G d9,G [br 1 (ce h.found),br 2 (cc h.before),br 3 (cc h.av),di h.next,di h.cand,di (yu yt (h.used+1)),di m.kind,bt (cp m.aw),bt (cp m.ay),bt (cp m.ax),cx m.au,di m.ao,di m.age,bt (BF m.av),di m.start.n,cq m.start.az,di c.n,cq c.az]] (j7 h.av h.before h.found)))) ?_
  rw[Ak (n:=h.used+1)]
  refine⟨hask,fun o c fo ho hc2=>Vr h hh.ok ho hc2 _,hsame,⟨?_⟩⟩
  refine QM (σ:=⟨[G fj,G d9,G (F7 (An h) m c)],fu (An h)⟩) 50 38 2 [.ptr 2 0] [.ptr 0 0] (dv (BC m c (An h)).1 m c) (RK (BC m c (An h))) rfl (by kernel_rfl) (by kernel_rfl) (by kernel_rfl) rfl rfl (by rfl) (by rfl) (by rfl) (by rfl) ?_ (by rfl) hfs ?_
  ·exact .ptr .nil
  generalize BC m c (An h)=p at*
  obtain⟨h2,v,e⟩:=p
  dsimp only at hi2 hc2 hu2 hn2 hn3⊢
  by_cases he:(e !=0)=J
  ·rw[Ie he]
   refine Lh mixed 107 [3,4,5] 8 2 (.t<|.c (F5 h) .r) ?_
   refine fv (by kernel_rfl:(((h2,v,e).snd.snd !=0)=J/\F0 36 [bt (vt h)] (F5 h)/\bk [bt (ab [ai (ce h.found),ai (cc h.before),ai (cc h.av),vi h.next,vi h.cand,vi h.used]),bt ot,di (h2,v,e).snd.snd]=G0 (h,Aq 0,e))=_) ?_
   exact⟨he,hrp,rfl⟩
  ·rw[HZ he]
   have hf:=HU he
   by_cases hd:v.decided=J
   ·rw[Ie hd]
    refine Lh mixed 107 [3,4,5] 8 2 (.f<|.t .r) ?_
    refine fv (by kernel_rfl:(((h2,v,e).snd.snd !=0)=O/\(h2,v,e).snd.fst.decided=J/\(True/\(Q (G [db (h2,v,e).snd.fst.decided,db (h2,v,e).snd.fst.yes,bt (B2 (h2,v,e).snd.fst.run),bt (cw (h2,v,e).snd.fst.coefs),di (h2,v,e).snd.fst.mod,bt (cw (h2,v,e).snd.fst.vals),bt (dt (h2,v,e).snd.fst.closed),di (h2,v,e).snd.fst.used])/\True)/\True)/\bk [bt (ab [ai (ce h2.found),ai (cc h2.before),ai (cc h2.av),vi h2.next,vi h2.cand,vi h2.used]),bt (ab [bu (h2,v,e).snd.fst.decided,bu (h2,v,e).snd.fst.yes,ai (U c8 (h2,v,e).snd.fst.run),ai (U vi (h2,v,e).snd.fst.coefs),vi (h2,v,e).snd.fst.mod,ai (U vi (h2,v,e).snd.fst.vals),ai (U eV (h2,v,e).snd.fst.closed),vi (h2,v,e).snd.fst.used]),di 0]=G0 (h2,v,0))=_) ?_
    exact⟨hf,hd,(by repeat' first|with_reducible refine And.intro ?_ ?_|rfl|trivial),rfl⟩
   ·rw[HZ hd]
    have hd2:=HU hd
    by_cases hx:Y (h2.next>=(I h2.found:Int))=J
    ·rw[Ie hx]
     refine Lh mixed 107 [3,4,5] 8 2 (.f<|.f<|.t<|.h (.oc (.arr 4 0 (I h2.found)) ⟨[G fj,G d9,G (dv h2 m c),G (cV v),G (Ab (h2.found.map eV))],[]⟩)<|.h (.oc (.tup []) ⟨[G fj,G d9,G (dv h2 m c),G (cV v),G (Ab ((sortV h2.found).map eV))],[]⟩)<|.h (.ct 13 (cq (sortV h2.found)) ⟨[G fj,G d9,G (dv h2 m c),G (cV v),none],[]⟩) .r) ?_
     refine fv (by kernel_rfl:(((h2,v,e).snd.snd !=0)=O/\(h2,v,e).snd.fst.decided=O/\yo/\Y (h2.next>=(I (ce h2.found):Int))=J/\(N0 [bt (bw 39 [] []),cq h2.found] (bh [G fj,G d9,G (dv h2 m c),G [db (h2,v,e).snd.fst.decided,db (h2,v,e).snd.fst.yes,bt (B2 (h2,v,e).snd.fst.run),bt (cw (h2,v,e).snd.fst.coefs),di (h2,v,e).snd.fst.mod,bt (cw (h2,v,e).snd.fst.vals),bt (dt (h2,v,e).snd.fst.closed),di (h2,v,e).snd.fst.used]] []) (bo 4 0 (I h2.found)) (wh h2 m c v h2.found))/\(N0 [bt Ash,bo 4 0 (I h2.found),bt ov] (wh h2 m c v h2.found) (bk []) (w5 h2 m c v h2.found))/\(∀(e:List D),e[13]?=G (bo 4 0 (I h2.found))->∀(E:cd) (g:Gh) (a:Act) (w:x5),FI E g (w5 h2 m c v h2.found) e a w->∃g',FI E g' (bh [G fj,G d9,G (dv h2 m c),G (cV v),none] []) (List.set e 13 (cq (sortV h2.found))) a w)/\(True/\(Q (G [di h2.used])/\True)/\True)/\bk [bt (ab [ai (ce h2.found),ai (cc h2.before),ai (cc h2.av),vi h2.next,vi h2.cand,vi h2.used]),bt (ab [bu true,bu false,ai [],ai [],vi 0,ai [],ai (U eV (sortV h2.found)),vi h2.used]),di 0]=G0 (h2,KZ (sortV h2.found) h2.used,0))=_) ?_
     refine⟨hf,hd2,ym,by rw[length_map];exact hx,fun o cl fo ho hc2=>?_,fun o cl fo ho hc2=>?_,fun e he=>Ox (σ:=⟨[G fj,G d9,G (dv h2 m c),G (cV v),G (Ab ((sortV h2.found).map eV))],[]⟩) (q:=4) (sz:=2) (by decide) (Da _) (by rw[length_map,(AR _).length_eq]) rfl he,(by repeat' first|with_reducible refine And.intro ?_ ?_|rfl|trivial),rfl⟩
     ·exact D4 (σ:=⟨[G fj,G d9,G (dv h2 m c),G (cV v)],[]⟩) (fs:=[]) (cs:=[]) (ds:=[cq h2.found]) ho hc2 rfl (Ay _) (Sk h2.found (by have:=hi2.ok.len;omega) (fun v hv=>by have:=hi2.ok.size v hv;omega))
     ·exact JQ (dc:=[.arr 0 0 (I h2.found),dfn 41]) (σ:=⟨[G fj,G d9,G (dv h2 m c),G (cV v),G (Ab (h2.found.map eV))],[]⟩) (q:=4) (fs:=[]) (cs:=[]) ho hc2 rfl (Ay _) (Ay _) (.arr (.pl rfl .nil)) rfl (Ge h2.found (by have:=hi2.ok.len;omega) (fun v hv=>by have:=hi2.ok.size v hv;omega))
    ·rw[HZ hx]
     refine Lh mixed 107 [3,4,5] 8 2 (.f<|.f<|.f<|.c1 (dv (B1 m c h2).1 m c) (Cr (B1 m c h2).2) .r) ?_
     refine fv (by kernel_rfl:(((h2,v,e).snd.snd !=0)=O/\(h2,v,e).snd.fst.decided=O/\yo/\Y (h2.next>=(I (ce h2.found):Int))=O/\Aa PP 42 [bq 0 0] (bh [G (dv h2 m c)] []) (Cr (B1 m c h2).snd) (bh [G (dv (B1 m c h2).fst m c)] [])/\(True/\(Q (G [db (B1 m c h2).snd.decided,db (B1 m c h2).snd.yes,bt (B2 (B1 m c h2).snd.run),bt (cw (B1 m c h2).snd.coefs),di (B1 m c h2).snd.mod,bt (cw (B1 m c h2).snd.vals),bt (dt (B1 m c h2).snd.closed),di (B1 m c h2).snd.used])/\True)/\True)/\bk [bt (ab [ai (U eV (B1 m c h2).fst.found),ai (U vi (B1 m c h2).fst.before),ai (U vi (B1 m c h2).fst.av),vi (B1 m c h2).fst.next,vi (B1 m c h2).fst.cand,vi (B1 m c h2).fst.used]),bt (ab [bu (B1 m c h2).snd.decided,bu (B1 m c h2).snd.yes,ai (U c8 (B1 m c h2).snd.run),ai (U vi (B1 m c h2).snd.coefs),vi (B1 m c h2).snd.mod,ai (U vi (B1 m c h2).snd.vals),ai (U eV (B1 m c h2).snd.closed),vi (B1 m c h2).snd.used]),di 0]=G0 ((B1 m c h2).fst,(B1 m c h2).snd,0))=_) ?_
     exact⟨hf,hd2,ym,by rw[length_map];exact eq_false_of_ne_true hx,RG m hm c hc h2 (by omega),(by repeat' first|with_reducible refine And.intro ?_ ?_|rfl|trivial),rfl⟩
structure kz(C:b9->Prop)(h:c7):Prop where
 ok:L3 h
 cfg:∀v∈h.found,C v
theorem MV{C:b9->Prop}(hz:∀v,C v->v.size<=1000)(c:b9)(at':Int):∀(l:List cb) (h:c7),kz C h->0<=at'/\at'<I h.found->(∀s∈l,C s.2)->kz C (BG c at' h l).1/\(BG c at' h l).1.cand=h.cand/\(BG c at' h l).1.used=h.used/\(BG c at' h l).1.next=h.next
 |[],h,hh,_,_=>⟨hh,rfl,rfl,rfl⟩
 |s::l,h,hh,ha,hl=>by
  have hs:=hl s (by simp)
  have hl':∀s∈l,C s.2:=fun s h=>hl s (by simp[h])
  rw[BG]
  split
  ·exact MV hz c at' l h hh ha hl'
  ·split
   ·grind
   ·rename_i h2
    have h2:¬(I h.found:Int)>=128:=by grind
    have ho:=TO hh.ok (by omega) ha (s:=s) (hz _ hs)
    have hi:kz C (CA h at' s):=⟨ho,fun v hv=>by
     rcases I6.1 hv with hv|hv
     ·exact hh.cfg v hv
     grind⟩
    split
    ·exact MV hz c at' l _ hi (by grind[CA]) hl'
    grind[CA]
theorem PO{m:cz}{t:cr}{c:b9}{C:b9->Prop}{S:b9->List cb×Int}{X:c7->c7×e9}(hm:ko m t c C S X)(h:c7)(hh:kz C h)(hn:0<=h.next):kz C (AZ S c h).1/\(AZ S c h).1.cand=h.cand/\(AZ S c h).1.used=h.used/\h.next<=(AZ S c h).1.next/\(AZ S c h).1.next<=h.next+1:=by
 rw[AZ]
 split
 ·grind
 ·rename_i h1
  have h1:¬h.next>=(I h.found:Int):=by grind
  split
  ·grind
  ·obtain⟨v,hv⟩:∃v,h.found[h.next.toNat]?=G v:=⟨_,HI (show h.next.toNat<I h.found by omega)⟩
   have hst:=hm.next v (hh.cfg v (HO hv))
   obtain⟨g1,g2,g3,g4⟩:=MV hm.size c h.next (S v).1 ⟨h.found,h.before,h.av,h.next+1,h.cand,h.used⟩ ⟨⟨hh.ok.ne,hh.ok.len,hh.ok.size,hh.ok.bl,hh.ok.rl,hh.ok.back⟩,hh.cfg⟩ (by grind) hst
   grind
def G9(m:cz)(S:b9->List cb×Int)(X:c7->c7×e9)(c:b9)(h:c7):c7×e9×Int:=
 if (Ar m.start c==0)=J then(An h,Dn [] (An h).used,0)
 else if ((AZ S c (An h)).2.2 !=0)=J then(h,Aq 0,(AZ S c (An h)).2.2)
 else if (AZ S c (An h)).2.1.decided=J then((AZ S c (An h)).1,(AZ S c (An h)).2.1,0)
 else if Y ((AZ S c (An h)).1.next>=((AZ S c (An h)).1.found.length:Int))=J then((AZ S c (An h)).1,KZ (sortV (AZ S c (An h)).1.found) (AZ S c (An h)).1.used,0)
 else((X (AZ S c (An h)).1).1,(X (AZ S c (An h)).1).2,0)
theorem WR{m:cz}{t:cr}{c:b9}{C:b9->Prop}{S:b9->List cb×Int}{X:c7->c7×e9}(hm:ko m t c C S X)(h:c7)(hh:kz C h)(hn:0<=h.next/\h.next<=500)(hcd:0<=h.cand/\h.cand<=500)(hu:0<=h.used/\h.used<=100000):F0 20 [Ad m,dV c,F5 h] (G0 (G9 m S X c h)):=by
 have hask:=J3 hm.int c hm.valid hm.tsize
 have hsz:=hm.size _ hm.start
 have hsame:=FZ m.start c (by omega)
 rw[G9]
 by_cases h1:(Ar m.start c==0)=J
 ·rw[Ie h1]
  rw[h1] at hsame
  refine sv T4 107 [3,4,5] (.c (di 0)<|.h (.oc (.dagg (j0 h)) ⟨[G fj,G d9],fu h⟩)<|.h .g<|.c (db J)<|.h (.cs ⟨[G fj,G d9,G (dv (An h) m c)],fu h⟩)<|.c1 (dv (An h) m c) (Cr (Dn [] (An h).used)) .r) (oy m c/\(xu h)/\F0 22 [dV m.start,dV c] (db J)/\(∀(e:List D) (E:cd) (g:Gh) (a:Act) (w:x5),FI E g (bh [G fj,G d9,G [br 1 (ce h.found),br 2 (cc h.before),br 3 (cc h.av),di h.next,di h.cand,bt (aa yt (yu yt (h.used+1))),bt (vi m.kind),bt (cp m.aw),bt (cp m.ay),bt (cp m.ax),cx m.au,bt (vi m.ao),bt (vi m.age),bt (BF m.av),bt (vi m.start.n),cq m.start.az,bt (vi c.n),cq c.az]] (j7 h.av h.before h.found)) e a w->∃g',FI E g' (bh [G fj,G d9,G (dv (An h) m c)] (fu h)) e a w)/\Au4 h m c/\((Q (G [cq (An h).found,cx (An h).before,cx (An h).av,di (An h).next,di (An h).cand,di (An h).used])/\True)/\True)/\bk (Asn h)=G0 (An h,Dn [] (An h).used,0)) ?_
  rw[Ak (n:=h.used+1)]
  exact⟨hask,fun o c fo ho hc2=>Vr h hh.ok ho hc2 _,hsame,fun e=>RL (An h) m c (H:=[G fj,G d9,G (F7 (An h) m c)]) (own:=fu h) (q:=2) rfl e,Ala (An h) m c,(by repeat' first|with_reducible refine And.intro ?_ ?_|rfl|trivial),rfl⟩
 ·rw[HZ h1]
  rw[HU h1] at hsame
  have hiU:kz C (An h):=⟨⟨hh.ok.ne,hh.ok.len,hh.ok.size,hh.ok.bl,hh.ok.rl,hh.ok.back⟩,hh.cfg⟩
  have hfs:=XE hm (An h) hiU.ok hn.1 (by show h.next<=1000;omega) hh.cfg
  obtain⟨hi2,hc2,hu2,hn2,hn3⟩:=PO hm (An h) hiU hn.1
  have hrp:F0 36 [F5 h] (F5 h):=by
   have hl:=hh.ok.len
   have hbl:=hh.ok.bl
   have hrl:=hh.ok.rl
   have hne:0<I h.found:=length_pos_iff.2 hh.ok.ne
   exact Aak h (by omega) (fun v hv=>by have:=hh.ok.size v hv;omega) (by omega) (by omega) (length_pos_iff.1 (by omega)) (length_pos_iff.1 (by omega))
  have hcd2:0<=(An h).cand/\(An h).cand<=500:=hcd
  refine sv T4 107 [3,4,5] (.c (di 0)<|.h (.oc (.dagg (j0 h)) ⟨[G fj,G d9],fu h⟩)<|.h .g<|.c (db O)<|.h (.q 8 1)<|.h (.s [ke 3,ke 4,ke 5,ke 6,ke 7,ke 8,ke 9,ke 10,ke 49]) .z) (oy m c/\(xu h)/\F0 22 [dV m.start,dV c] (db O)/\Nv.It (Cg (CN (I ba.H)) PP (fun env σ1=>A9 PP T4 env σ1 (G0 (if ((AZ S c (An h)).snd.snd !=0)=J then(h,Aq 0,(AZ S c (An h)).snd.snd) else if (AZ S c (An h)).snd.fst.decided=J then((AZ S c (An h)).fst,(AZ S c (An h)).snd.fst,0) else if Y ((AZ S c (An h)).fst.next>=(↑(I (AZ S c (An h)).fst.found):Int))=J then((AZ S c (An h)).fst,KZ (sortV (AZ S c (An h)).fst.found) (AZ S c (An h)).fst.used,0) else((X (AZ S c (An h)).fst).fst,(X (AZ S c (An h)).fst).snd,0))) ba) [kc Y1 [1,1,1,1,1,1]] wn (W 1 wn.toList) (Avc m c h) (bh [G fj,G d9,G [br 1 (ce h.found),br 2 (cc h.before),br 3 (cc h.av),di h.next,di h.cand,di (yu yt (h.used+1)),di m.kind,bt (cp m.aw),bt (cp m.ay),bt (cp m.ax),cx m.au,di m.ao,di m.age,bt (BF m.av),di m.start.n,cq m.start.az,di c.n,cq c.az]] (j7 h.av h.before h.found)))) ?_
  rw[Ak (n:=h.used+1)]
  refine⟨hask,fun o c fo ho hc2=>Vr h hh.ok ho hc2 _,hsame,⟨?_⟩⟩
  refine QM (σ:=⟨[G fj,G d9,G (F7 (An h) m c)],fu (An h)⟩) 50 38 2 [.ptr 2 0] [.ptr 0 0] (dv (AZ S c (An h)).1 m c) (RK (AZ S c (An h))) rfl (by kernel_rfl) (by kernel_rfl) (by kernel_rfl) rfl rfl (by rfl) (by rfl) (by rfl) (by rfl) ?_ (by rfl) hfs ?_
  ·exact .ptr .nil
  generalize AZ S c (An h)=p at*
  obtain⟨h2,v,e⟩:=p
  dsimp only at hi2 hc2 hu2 hn2 hn3⊢
  by_cases he:(e !=0)=J
  ·rw[Ie he]
   refine Lh mixed 107 [3,4,5] 8 2 (.t<|.c (F5 h) .r) ?_
   refine fv (by kernel_rfl:(((h2,v,e).snd.snd !=0)=J/\F0 36 [bt (vt h)] (F5 h)/\bk [bt (ab [ai (ce h.found),ai (cc h.before),ai (cc h.av),vi h.next,vi h.cand,vi h.used]),bt ot,di (h2,v,e).snd.snd]=G0 (h,Aq 0,e))=_) ?_
   exact⟨he,hrp,rfl⟩
  ·rw[HZ he]
   have hf:=HU he
   by_cases hd:v.decided=J
   ·rw[Ie hd]
    refine Lh mixed 107 [3,4,5] 8 2 (.f<|.t .r) ?_
    refine fv (by kernel_rfl:(((h2,v,e).snd.snd !=0)=O/\(h2,v,e).snd.fst.decided=J/\(True/\(Q (G [db (h2,v,e).snd.fst.decided,db (h2,v,e).snd.fst.yes,bt (B2 (h2,v,e).snd.fst.run),bt (cw (h2,v,e).snd.fst.coefs),di (h2,v,e).snd.fst.mod,bt (cw (h2,v,e).snd.fst.vals),bt (dt (h2,v,e).snd.fst.closed),di (h2,v,e).snd.fst.used])/\True)/\True)/\bk [bt (ab [ai (ce h2.found),ai (cc h2.before),ai (cc h2.av),vi h2.next,vi h2.cand,vi h2.used]),bt (ab [bu (h2,v,e).snd.fst.decided,bu (h2,v,e).snd.fst.yes,ai (U c8 (h2,v,e).snd.fst.run),ai (U vi (h2,v,e).snd.fst.coefs),vi (h2,v,e).snd.fst.mod,ai (U vi (h2,v,e).snd.fst.vals),ai (U eV (h2,v,e).snd.fst.closed),vi (h2,v,e).snd.fst.used]),di 0]=G0 (h2,v,0))=_) ?_
    exact⟨hf,hd,(by repeat' first|with_reducible refine And.intro ?_ ?_|rfl|trivial),rfl⟩
   ·rw[HZ hd]
    have hd2:=HU hd
    by_cases hx:Y (h2.next>=(I h2.found:Int))=J
    ·rw[Ie hx]
     refine Lh mixed 107 [3,4,5] 8 2 (.f<|.f<|.t<|.h (.oc (.arr 4 0 (I h2.found)) ⟨[G fj,G d9,G (dv h2 m c),G (cV v),G (Ab (h2.found.map eV))],[]⟩)<|.h (.oc (.tup []) ⟨[G fj,G d9,G (dv h2 m c),G (cV v),G (Ab ((sortV h2.found).map eV))],[]⟩)<|.h (.ct 13 (cq (sortV h2.found)) ⟨[G fj,G d9,G (dv h2 m c),G (cV v),none],[]⟩) .r) ?_
     refine fv (by kernel_rfl:(((h2,v,e).snd.snd !=0)=O/\(h2,v,e).snd.fst.decided=O/\yo/\Y (h2.next>=(I (ce h2.found):Int))=J/\(N0 [bt (bw 39 [] []),cq h2.found] (bh [G fj,G d9,G (dv h2 m c),G [db (h2,v,e).snd.fst.decided,db (h2,v,e).snd.fst.yes,bt (B2 (h2,v,e).snd.fst.run),bt (cw (h2,v,e).snd.fst.coefs),di (h2,v,e).snd.fst.mod,bt (cw (h2,v,e).snd.fst.vals),bt (dt (h2,v,e).snd.fst.closed),di (h2,v,e).snd.fst.used]] []) (bo 4 0 (I h2.found)) (wh h2 m c v h2.found))/\(N0 [bt Ash,bo 4 0 (I h2.found),bt ov] (wh h2 m c v h2.found) (bk []) (w5 h2 m c v h2.found))/\(∀(e:List D),e[13]?=G (bo 4 0 (I h2.found))->∀(E:cd) (g:Gh) (a:Act) (w:x5),FI E g (w5 h2 m c v h2.found) e a w->∃g',FI E g' (bh [G fj,G d9,G (dv h2 m c),G (cV v),none] []) (List.set e 13 (cq (sortV h2.found))) a w)/\(True/\(Q (G [di h2.used])/\True)/\True)/\bk [bt (ab [ai (ce h2.found),ai (cc h2.before),ai (cc h2.av),vi h2.next,vi h2.cand,vi h2.used]),bt (ab [bu true,bu false,ai [],ai [],vi 0,ai [],ai (U eV (sortV h2.found)),vi h2.used]),di 0]=G0 (h2,KZ (sortV h2.found) h2.used,0))=_) ?_
     refine⟨hf,hd2,ym,by rw[length_map];exact hx,fun o cl fo ho hc2=>?_,fun o cl fo ho hc2=>?_,fun e he=>Ox (σ:=⟨[G fj,G d9,G (dv h2 m c),G (cV v),G (Ab ((sortV h2.found).map eV))],[]⟩) (q:=4) (sz:=2) (by decide) (Da _) (by rw[length_map,(AR _).length_eq]) rfl he,(by repeat' first|with_reducible refine And.intro ?_ ?_|rfl|trivial),rfl⟩
     ·exact D4 (σ:=⟨[G fj,G d9,G (dv h2 m c),G (cV v)],[]⟩) (fs:=[]) (cs:=[]) (ds:=[cq h2.found]) ho hc2 rfl (Ay _) (Sk h2.found (by have:=hi2.ok.len;omega) (fun v hv=>by have:=hi2.ok.size v hv;omega))
     ·exact JQ (dc:=[.arr 0 0 (I h2.found),dfn 41]) (σ:=⟨[G fj,G d9,G (dv h2 m c),G (cV v),G (Ab (h2.found.map eV))],[]⟩) (q:=4) (fs:=[]) (cs:=[]) ho hc2 rfl (Ay _) (Ay _) (.arr (.pl rfl .nil)) rfl (Ge h2.found (by have:=hi2.ok.len;omega) (fun v hv=>by have:=hi2.ok.size v hv;omega))
    ·rw[HZ hx]
     refine Lh mixed 107 [3,4,5] 8 2 (.f<|.f<|.f<|.c1 (dv (X h2).1 m c) (Cr (X h2).2) .r) ?_
     refine fv (by kernel_rfl:(((h2,v,e).snd.snd !=0)=O/\(h2,v,e).snd.fst.decided=O/\yo/\Y (h2.next>=(I (ce h2.found):Int))=O/\Aa PP 42 [bq 0 0] (bh [G (dv h2 m c)] []) (Cr (X h2).snd) (bh [G (dv (X h2).fst m c)] [])/\(True/\(Q (G [db (X h2).snd.decided,db (X h2).snd.yes,bt (B2 (X h2).snd.run),bt (cw (X h2).snd.coefs),di (X h2).snd.mod,bt (cw (X h2).snd.vals),bt (dt (X h2).snd.closed),di (X h2).snd.used])/\True)/\True)/\bk [bt (ab [ai (U eV (X h2).fst.found),ai (U vi (X h2).fst.before),ai (U vi (X h2).fst.av),vi (X h2).fst.next,vi (X h2).fst.cand,vi (X h2).fst.used]),bt (ab [bu (X h2).snd.decided,bu (X h2).snd.yes,ai (U c8 (X h2).snd.run),ai (U vi (X h2).snd.coefs),vi (X h2).snd.mod,ai (U vi (X h2).snd.vals),ai (U eV (X h2).snd.closed),vi (X h2).snd.used]),di 0]=G0 ((X h2).fst,(X h2).snd,0))=_) ?_
     exact⟨hf,hd2,ym,by rw[length_map];exact eq_false_of_ne_true hx,hm.excl h2 (by omega),(by repeat' first|with_reducible refine And.intro ?_ ?_|rfl|trivial),rfl⟩
theorem AjJ(m:cz)(c:b9)(h:c7):(B1 m c h).1=h∨(B1 m c h).1=Gk h:=by
 grind[B1]
structure s8(m:cz)(k:Nat)(h:c7):Prop where
 inv:kj m h
 next:0<=h.next/\h.next<=k
 cand:0<=h.cand/\h.cand<=k
 used:0<=h.used/\h.used<=k
theorem kj.use{m:cz}{h:c7}(hh:kj m h):kj m (An h):=⟨⟨hh.ok.ne,hh.ok.len,hh.ok.size,hh.ok.bl,hh.ok.rl,hh.ok.back⟩,hh.cfg⟩
theorem Aeu{m:cz}(hm:em m)(c:b9){k:Nat}{h:c7}(hb:s8 m k h):s8 m (k+1) (Pj m c h).1:=by
 have hn:=hb.next
 have hc:=hb.cand
 have hu:=hb.used
 obtain⟨g1,g2,g3,g4,g5⟩:=VN hm c (An h) hb.inv.use hn.1
 have e1:(An h).next=h.next:=rfl
 have e2:(An h).cand=h.cand:=rfl
 have e3:(An h).used=h.used+1:=rfl
 have hF:s8 m (k+1) (BC m c (An h)).1:=⟨g1,by omega,by omega,by omega⟩
 rw[Pj]
 split
 ·exact⟨hb.inv.use,(by omega:0<=h.next/\h.next<=(k+1:Nat)),(by omega:0<=h.cand/\h.cand<=(k+1:Nat)),(by omega:0<=(An h).used/\(An h).used<=(k+1:Nat))⟩
 ·split
  ·exact⟨hb.inv,(by omega:0<=h.next/\h.next<=(k+1:Nat)),(by omega:0<=h.cand/\h.cand<=(k+1:Nat)),(by omega:0<=h.used/\h.used<=(k+1:Nat))⟩
  ·split
   ·exact hF
   ·split
    ·exact hF
    ·rcases AjJ m c (BC m c (An h)).1 with e|e
     ·grind
     ·dsimp only;rw[e]
      exact⟨⟨⟨g1.ok.ne,g1.ok.len,g1.ok.size,g1.ok.bl,g1.ok.rl,g1.ok.back⟩,g1.cfg⟩,⟨hF.next.1,hF.next.2⟩,(by omega:0<=(BC m c (An h)).1.cand+1/\(BC m c (An h)).1.cand+1<=(k+1:Nat)),⟨hF.used.1,hF.used.2⟩⟩
def u9(m:cz)(c:b9):Nat->c7->e9->e9×Int
 |0,_,v=>(v,0)
 |n+1,h,v=>if v.decided=J then(v,0) else if ((Pj m c h).2.2 !=0)=J then(Aq 0,(Pj m c h).2.2) else u9 m c n (Pj m c h).1 (Pj m c h).2.1
def Aql(m:cz)(c:b9)(n:Nat):e9×Int:=u9 m c n (BI m) (Aq 0)
abbrev Fh(r:e9×Int):D:=.tup [Cr r.1,di r.2]
abbrev cH(h:c7):List D:=[cq h.found,cx h.before,cx h.av,di h.next,di h.cand,di h.used]
abbrev j5(h:c7)(v:e9):St:=⟨[G d9,G (cH h),G (cV v)],[]⟩
theorem Aco{H:List (Option (List D))}{own:List (Nat×Nat×List V)}{q:Nat}(hq:H[q]?=G (G d9))(e:List D):Cv e ⟨H,own⟩ e ⟨H.set q (G (cV (Aq 0))),own⟩:=
 D0 (σ:=⟨H,own⟩) (q:=q) (cs:=d9) (cs':=cV (Aq 0)) hq (fun g us hr=>by
  simp only[Af,Ag,CH] at hr⊢
  obtain⟨u0,_,rfl,h0,u1,_,rfl,h1,u2,_,rfl,h2,u3,_,rfl,h3,u4,_,rfl,h4,u5,_,rfl,h5,u6,_,rfl,h6,u7,_,rfl,h7,rfl⟩:=hr
  grind[DD,Aq]) (fun _ x hx=>by
  simp only[cV,Iz,Jr,or_false] at hx
  rcases hx with rfl|rfl|rfl|rfl|rfl|rfl|rfl|rfl<;>rfl) e
noncomputable abbrev vx:=Tryz.f9
noncomputable def YS:=yl vx
theorem Aj5{m:cz}(hm:em m):s8 m 0 (BI m) where
 inv:=⟨⟨by simp[BI],by simp[BI],fun v hv=>by rw[HY.1 hv];have:=hm.start.size hm;omega,rfl,rfl,fun i b hb=>by
  grind[BI]⟩,fun v hv=>by rw[HY.1 hv];exact hm.start⟩
 next:=by simp[BI]
 cand:=by simp[BI]
 used:=by simp[BI]
theorem Ag4(m:cz)(hm:em m)(c:b9)(hc:AN m c)(N:Nat)(hN:N<=400)(n:Nat):∀(k:Nat) (h:c7) (v:e9),N-k=n->s8 m k h->
  Rn PP vx 0 (Fh (u9 m c n h v)) ba ([kl YS [1,1,1,1,0,1,0,0],.blk 0,kc YS [1,1,1,1,1]]++[]) (cy 45 [(2,di N),(3,.v (.ref (A0 m))),(4,.v (.ref (Ac c))),(6,.ptr 0 0),(7,di 0),(8,.ptr 1 0),(10,.ptr 2 0),(11,di k)]) (j5 h v):=by
 induction n with
 |zero=>
  intro k h v hn hb
  rw[u9]
  exact lv 45 [3,4] (.f .r) (Y ((k:Int)<(N:Int))=O/\bk [bt (ab [bu v.decided,bu v.yes,ai (U c8 v.run),ai (cc v.coefs),vi v.mod,ai (cc v.vals),ai (ce v.closed),vi v.used]),di 0]=Fh (v,0)) ⟨yq,rfl⟩
 |succ n ih=>
  intro k h v hn hb
  rw[u9]
  by_cases hd:v.decided=J
  ·rw[Ie hd]
   exact lv 45 [3,4] (.t<|.f .r) (Y ((k:Int)<(N:Int))=J/\(!v.decided)=O/\bk [bt (ab [bu v.decided,bu v.yes,ai (U c8 v.run),ai (cc v.coefs),vi v.mod,ai (cc v.vals),ai (ce v.closed),vi v.used]),di 0]=Fh (v,0)) ⟨yr,by rw[hd];rfl,rfl⟩
  ·rw[HZ hd]
   have hnd:(!v.decided)=J:=by simpa using hd
   have hst:=ZN m hm c hc h hb.inv (by have:=hb.next;omega) (by have:=hb.cand;omega) (by have:=hb.used;omega)
   have hok:=Aeu hm c hb
   generalize Pj m c h=p at*
   by_cases he:(p.2.2 !=0)=J
   ·rw[Ie he]
    exact lv 45 [3,4] (.t<|.t<|.c (G0 p)<|.t .r) (Y ((k:Int)<(N:Int))=J/\_/\_/\_/\bk [bt ot,di p.snd.snd]=Fh (Aq 0,p.snd.snd)) ⟨yr,hnd,hst,he,rfl⟩
   ·rw[HZ he]
    exact lv 45 [3,4] (.t<|.t<|.c (G0 p)<|.f<|.lo [ke 2,ke 3,ke 4,ke 6,ke 7,ke 8,ke 10,ch 11 (di (k+1:Nat))] (j5 p.1 p.2.1)) (Y ((k:Int)<(N:Int))=J/\_/\_/\(p.snd.snd !=0)=O/\di (yu yt ((k:Int)+1))=di (↑(k+1):Int)/\cm 3 [] [G d9,G [cq p.fst.found,cx p.fst.before,cx p.fst.av,di p.fst.next,di p.fst.cand,di p.fst.used],G [db p.snd.fst.decided,db p.snd.fst.yes,bt (B2 p.snd.fst.run),cx p.snd.fst.coefs,di p.snd.fst.mod,cx p.snd.fst.vals,cq p.snd.fst.closed,di p.snd.fst.used]]=J/\Q [G d9,G (cH p.fst),G (cV p.snd.fst)]/\_) ⟨yr,hnd,hst,HU he,by rw[Ae],rfl,rfl,iK (ih (k+1) p.1 p.2.1 (by omega) hok)⟩
noncomputable abbrev Auf:=fun a₀=>(bh [G qb,G [bt (dt (BI a₀).found),bt (cw (BI a₀).before),bt (cw (BI a₀).av),bt (vi (BI a₀).next),bt (vi (BI a₀).cand),bt (vi (BI a₀).used)],G qb] [])
theorem VV(m:cz)(hm:em m)(c:b9)(hc:AN m c)(N:Nat)(hN:N<=400):F0 9 [Ad m,dV c,di N] (Fh (Aql m c N)):=by
 exact sv vx 45 [3,4] (.c (.tup [F5 (BI m),di 0])<|.h (.q 5 0)<|.h (.cs (j5 (BI m) (Aq 0)))<|.lo [ke 2,ke 3,ke 4,ke 6,ke 7,ke 8,ke 10,ch 11 (di (0:Nat))] (j5 (BI m) (Aq 0))) (_/\(∀(e:List D) (E:cd) (g:Gh) (a:Act) (w:x5),FI E g (Auf m) e a w->∃g',FI E g' (j5 (BI m) (Aq 0)) e a w)/\Q (di 0)/\cm 3 [] [G d9,G (cH (BI m)),G (cV (Aq 0))]=J/\Q (j5 (BI m) (Aq 0)).H/\_) ⟨ST m hm c hc,fun e=>(Aco (H:=[G d9,G (cH (BI m)),G d9]) (q:=2) rfl e),rfl,rfl,rfl,iK (Ag4 m hm c hc N hN N 0 (BI m) (Aq 0) rfl (Aj5 hm))⟩
structure qm(C:b9->Prop)(k:Nat)(h:c7):Prop where
 inv:kz C h
 next:0<=h.next/\h.next<=k
 cand:0<=h.cand/\h.cand<=k
 used:0<=h.used/\h.used<=k
theorem kz.use{C:b9->Prop}{h:c7}(hh:kz C h):kz C (An h):=⟨⟨hh.ok.ne,hh.ok.len,hh.ok.size,hh.ok.bl,hh.ok.rl,hh.ok.back⟩,hh.cfg⟩
theorem UF{m:cz}{t:cr}{c:b9}{C:b9->Prop}{S:b9->List cb×Int}{X:c7->c7×e9}(hm:ko m t c C S X){k:Nat}{h:c7}(hb:qm C k h):qm C (k+1) (G9 m S X c h).1:=by
 have hn:=hb.next
 have hc:=hb.cand
 have hu:=hb.used
 obtain⟨g1,g2,g3,g4,g5⟩:=PO hm (An h) hb.inv.use hn.1
 have e1:(An h).next=h.next:=rfl
 have e2:(An h).cand=h.cand:=rfl
 have e3:(An h).used=h.used+1:=rfl
 have hF:qm C (k+1) (AZ S c (An h)).1:=⟨g1,by omega,by omega,by omega⟩
 rw[G9]
 split
 ·exact⟨hb.inv.use,(by omega:0<=h.next/\h.next<=(k+1:Nat)),(by omega:0<=h.cand/\h.cand<=(k+1:Nat)),(by omega:0<=(An h).used/\(An h).used<=(k+1:Nat))⟩
 ·split
  ·exact⟨hb.inv,(by omega:0<=h.next/\h.next<=(k+1:Nat)),(by omega:0<=h.cand/\h.cand<=(k+1:Nat)),(by omega:0<=h.used/\h.used<=(k+1:Nat))⟩
  ·split
   ·exact hF
   ·split
    ·exact hF
    ·rcases hm.cand (AZ S c (An h)).1 with e|e
     ·grind
     ·dsimp only;rw[e]
      exact⟨⟨⟨g1.ok.ne,g1.ok.len,g1.ok.size,g1.ok.bl,g1.ok.rl,g1.ok.back⟩,g1.cfg⟩,⟨hF.next.1,hF.next.2⟩,(by omega:0<=(AZ S c (An h)).1.cand+1/\(AZ S c (An h)).1.cand+1<=(k+1:Nat)),⟨hF.used.1,hF.used.2⟩⟩
def ni(m:cz)(S:b9->List cb×Int)(X:c7->c7×e9)(c:b9):Nat->c7->e9->e9×Int
 |0,_,v=>(v,0)
 |n+1,h,v=>if v.decided=J then(v,0) else if ((G9 m S X c h).2.2 !=0)=J then(Aq 0,(G9 m S X c h).2.2) else ni m S X c n (G9 m S X c h).1 (G9 m S X c h).2.1
theorem AbC{m:cz}{t:cr}{c:b9}{C:b9->Prop}{S:b9->List cb×Int}{X:c7->c7×e9}(hm:ko m t c C S X):qm C 0 (BI m) where
 inv:=⟨⟨by simp[BI],by simp[BI],fun v hv=>by rw[HY.1 hv];exact hm.size _ hm.start,rfl,rfl,fun i b hb=>by
  grind[BI]⟩,fun v hv=>by rw[HY.1 hv];exact hm.start⟩
 next:=by simp[BI]
 cand:=by simp[BI]
 used:=by simp[BI]
theorem Acm{m:cz}{t:cr}{c:b9}{C:b9->Prop}{S:b9->List cb×Int}{X:c7->c7×e9}(hm:ko m t c C S X)(N:Nat)(hN:N<=400)(n:Nat):∀(k:Nat) (h:c7) (v:e9),N-k=n->qm C k h->
  Rn PP vx 0 (Fh (ni m S X c n h v)) ba ([kl YS [1,1,1,1,0,1,0,0],.blk 0,kc YS [1,1,1,1,1]]++[]) (cy 45 [(2,di N),(3,.v (.ref (A0 m))),(4,.v (.ref (Ac c))),(6,.ptr 0 0),(7,di 0),(8,.ptr 1 0),(10,.ptr 2 0),(11,di k)]) (j5 h v):=by
 induction n with
 |zero=>
  intro k h v hn hb
  rw[ni]
  exact lv 45 [3,4] (.f .r) (Y ((k:Int)<(N:Int))=O/\bk [bt (ab [bu v.decided,bu v.yes,ai (U c8 v.run),ai (cc v.coefs),vi v.mod,ai (cc v.vals),ai (ce v.closed),vi v.used]),di 0]=Fh (v,0)) ⟨yq,rfl⟩
 |succ n ih=>
  intro k h v hn hb
  rw[ni]
  by_cases hd:v.decided=J
  ·rw[Ie hd]
   exact lv 45 [3,4] (.t<|.f .r) (Y ((k:Int)<(N:Int))=J/\(!v.decided)=O/\bk [bt (ab [bu v.decided,bu v.yes,ai (U c8 v.run),ai (cc v.coefs),vi v.mod,ai (cc v.vals),ai (ce v.closed),vi v.used]),di 0]=Fh (v,0)) ⟨yr,by rw[hd];rfl,rfl⟩
  ·rw[HZ hd]
   have hnd:(!v.decided)=J:=by simpa using hd
   have hst:=WR hm h hb.inv (by have:=hb.next;omega) (by have:=hb.cand;omega) (by have:=hb.used;omega)
   have hok:=UF hm hb
   generalize G9 m S X c h=p at*
   by_cases he:(p.2.2 !=0)=J
   ·rw[Ie he]
    exact lv 45 [3,4] (.t<|.t<|.c (G0 p)<|.t .r) (Y ((k:Int)<(N:Int))=J/\_/\_/\_/\bk [bt ot,di p.snd.snd]=Fh (Aq 0,p.snd.snd)) ⟨yr,hnd,hst,he,rfl⟩
   ·rw[HZ he]
    exact lv 45 [3,4] (.t<|.t<|.c (G0 p)<|.f<|.lo [ke 2,ke 3,ke 4,ke 6,ke 7,ke 8,ke 10,ch 11 (di (k+1:Nat))] (j5 p.1 p.2.1)) (Y ((k:Int)<(N:Int))=J/\_/\_/\(p.snd.snd !=0)=O/\di (yu yt ((k:Int)+1))=di (↑(k+1):Int)/\cm 3 [] [G d9,G [cq p.fst.found,cx p.fst.before,cx p.fst.av,di p.fst.next,di p.fst.cand,di p.fst.used],G [db p.snd.fst.decided,db p.snd.fst.yes,bt (B2 p.snd.fst.run),cx p.snd.fst.coefs,di p.snd.fst.mod,cx p.snd.fst.vals,cq p.snd.fst.closed,di p.snd.fst.used]]=J/\Q [G d9,G (cH p.fst),G (cV p.snd.fst)]/\_) ⟨yr,hnd,hst,HU he,by rw[Ae],rfl,rfl,iK (ih (k+1) p.1 p.2.1 (by omega) hok)⟩
theorem Acl{m:cz}{t:cr}{c:b9}{C:b9->Prop}{S:b9->List cb×Int}{X:c7->c7×e9}(hm:ko m t c C S X)(N:Nat)(hN:N<=400):F0 9 [Ad m,dV c,di N] (Fh (ni m S X c N (BI m) (Aq 0))):=by
 exact sv vx 45 [3,4] (.c (.tup [F5 (BI m),di 0])<|.h (.q 5 0)<|.h (.cs (j5 (BI m) (Aq 0)))<|.lo [ke 2,ke 3,ke 4,ke 6,ke 7,ke 8,ke 10,ch 11 (di (0:Nat))] (j5 (BI m) (Aq 0))) (_/\(∀(e:List D) (E:cd) (g:Gh) (a:Act) (w:x5),FI E g (Auf m) e a w->∃g',FI E g' (j5 (BI m) (Aq 0)) e a w)/\Q (di 0)/\cm 3 [] [G d9,G (cH (BI m)),G (cV (Aq 0))]=J/\Q (j5 (BI m) (Aq 0)).H/\_) ⟨QJ hm.int (hm.size _ hm.start) c hm.valid hm.tsize,fun e=>(Aco (H:=[G d9,G (cH (BI m)),G d9]) (q:=2) rfl e),rfl,rfl,rfl,iK (Acm hm N hN N 0 (BI m) (Aq 0) rfl (AbC hm))⟩
theorem m8.open(u:Int):m8 (Aq u):=⟨⟨by simp[Aq],by simp[Aq]⟩,by simp[Aq],by simp[Aq],⟨by simp[Aq],by simp[Aq]⟩⟩
theorem m8.yes{l:List cb}(h1:I l<=1000)(h2:∀s∈l,s.2.size<=1000)(u:Int):m8 (Dn l u):=⟨⟨h1,h2⟩,by simp[Dn],by simp[Dn],⟨by simp[Dn],by simp[Dn]⟩⟩
section
variable {m : cz} {t : cr} {c : b9} {C : b9 -> Prop} {S : b9 -> List cb × Int} {X : c7 -> c7 × e9}
end
theorem LJ(l:List b9)(v:b9):Y (Dj l v>=0)=J↔v∈l:=by
 grind[Wv,FH,Dj]
theorem C5{α:Type}{l:List α}{i:Nat}{x:α}(h:l[i]?=G x)(t:List α):(l++t)[i]?=G x:=by
 grind
theorem MO{α:Type}{l:List α}{i:Nat}{x y:α}(h:(l++[y])[i]?=G x):l[i]?=G x∨(i=I l/\x=y):=by
 grind
theorem Ky{α:Type}{l:List α}{y:α}{i:Nat}(h:I l=i):(l++[y])[i]?=G y:=by grind
inductive ma (S:b9->List cb×Int) (c0:b9):List cb->b9->Prop where
 |nil:ma S c0 [] c0
 |snoc {run:List cb} {c:b9} {s:cb} (h:ma S c0 run c) (h0:(S c).2=0) (hs:s∈ (S c).1):ma S c0 (run++[s]) s.2
structure ka(S:b9->List cb×Int)(s0:b9)(h:c7)(D:List Nat):Prop where
 len:I D=I h.found
 bl:I h.before=I h.found
 rl:I h.av=I h.found
 first:h.found[0]?=G s0/\D[0]?=G 0/\h.before[0]?=G (-1)
 nd:h.found.Nodup
 back:∀(i:Nat) (b:Int),h.before[i]?=G b->i≠0->∃(k d:Nat) (r:Int) (u v:b9),b=k/\k<i/\D[k]?=G d/\D[i]?=G (d+1)/\h.av[i]?=G r/\h.found[k]?=G u/\h.found[i]?=G v/\(S u).2=0/\(r,v)∈ (S u).1
theorem ka.snoc{S:b9->List cb×Int}{s0:b9}{h:c7}{D:List Nat}(hb:ka S s0 h D){n d:Nat}{u:b9}(h1:h.found[n]?=G u)(h2:D[n]?=G d){s:cb}(h0:(S u).2=0)(hs:s∈ (S u).1)(hn:s.2∉h.found):ka S s0 (CA h n s) (D++[d+1]):=by
 have hl:=hb.len
 have hbl:=hb.bl
 have hrl:=hb.rl
 refine⟨?_,?_,?_,⟨C5 hb.first.1 _,C5 hb.first.2.1 _,C5 hb.first.2.2 _⟩,?_,?_⟩
 ·grind[CA]
 ·grind[CA]
 ·grind[CA]
 ·exact List.nodup_append.2 ⟨hb.nd,by simp,fun a ha b hb=>by grind⟩
 ·intro i b hi hi0
  rcases MO hi with hi|⟨rfl,rfl⟩
  ·obtain⟨k,d',r,x,v,g0,g1,g3,g4,g5,g6,g7,g8⟩:=hb.back i b hi hi0
   exact⟨k,d',r,x,v,g0,g1,C5 g3 _,C5 g4 _,C5 g5 _,C5 g6 _,C5 g7 _,g8⟩
  grind[Ky,CA]
theorem ka.deep{S:b9->List cb×Int}{s0:b9}{h:c7}{D:List Nat}(hb:ka S s0 h D)(i:Nat):∀d,D[i]?=G d->d<=i:=by
 induction i using Nat.strongRecOn with
 |_ i ih=>
  intro d hd
  by_cases h0:i=0
  ·subst h0
   rw[hb.first.2.1] at hd
   grind
  ·obtain⟨b,hbb⟩:∃b,h.before[i]?=G b:=⟨_,HI (by rw[hb.bl, ←hb.len];grind)⟩
   obtain⟨k,d',r,u,v,rfl,g1,g2,g3,_⟩:=hb.back i b hbb h0
   grind
theorem ka.way{S:b9->List cb×Int}{s0:b9}{h:c7}{D:List Nat}(hb:ka S s0 h D):∀(f i d:Nat) (x:b9),D[i]?=G d->h.found[i]?=G x->d<f->I (FB h f i)=d/\ma S s0 (FB h f i).reverse x
 |0,i,d,x,_,_,hf=>by omega
 |f+1,i,d,x,hd,hx,hf=>by
  rw[FB]
  obtain⟨b,hbb⟩:∃b,h.before[i]?=G b:=⟨_,HI (by rw[hb.bl, ←hb.len];grind)⟩
  rw[show h.before.getD (i:Int).toNat 0=b by grind]
  by_cases hi0:i=0
  ·subst hi0
   rw[hb.first.2.2] at hbb
   rw[hb.first.2.1] at hd
   rw[hb.first.1] at hx
   cases hbb
   cases hd
   cases hx
   exact⟨rfl,.nil⟩
  ·obtain⟨k,d',r,u,v,rfl,g1,g2,g3,g4,g5,g6,g7,g8⟩:=hb.back i b hbb hi0
   rw[hd] at g3
   cases g3
   rw[hx] at g6
   cases g6
   rw[Ie (by omega)]
   obtain⟨f1,f2⟩:=hb.way f k d' u g2 g5 (by omega)
   refine⟨by grind,?_⟩
   rw[List.reverse_cons,show h.av.getD (i:Int).toNat 0=r by grind,show h.found.getD (i:Int).toNat default=x by grind]
   exact f2.snoc (s:=(r,x)) g7 g8
theorem Aat{α:Type}:∀(n i:Nat) (l:List α),I l<=n+2*i->∀j:Nat,j<I l->(Ei n i l)[j]?=if i<=j/\j+i<I l then l[I l-1-j]? else l[j]?
 |0,i,l,hn,j,hj=>by grind[Ei]
 |n+1,i,l,hn,j,hj=>by
  rw[Ei]
  by_cases h1:2*i+1<I l
  ·rw[Ie h1]
   have hsw:∀k:Nat,k<I l->(SJ l i (I l-1-i))[k]?=if k=I l-1-i then l[i]? else if k=i then l[I l-1-i]? else l[k]?:=fun k hk=>by
    grind[SJ]
   rw[Aat n (i+1) _ (by grind[Mh]) j (by grind),Mh]
   grind
  grind
theorem AeT{α:Type}(l:List α):Ei (I l) 0 l=l.reverse:=by
 apply List.ext_getElem?
 grind[Aat,Ps]
theorem ka.wayM{S:b9->List cb×Int}{s0:b9}{h:c7}{D:List Nat}(hb:ka S s0 h D){i d:Nat}{x:b9}(hd:D[i]?=G d)(hx:h.found[i]?=G x)(hi:i<200):I (wayM h i)=d/\ma S s0 (Go.Proofs.YtkkplhjidondkaaGreat.wayM h i) x:=by
 obtain⟨g1,g2⟩:=hb.way 200 i d x hd hx (by have:=hb.deep i d hd;omega)
 grind[AeT,YtkkplhjidondkaaGreat.wayM]
structure n8(S:b9->List cb×Int)(s0:b9)(h:c7)(D:List Nat)(n:Nat):Prop where
 t:ka S s0 h D
 asc:∀i j a b:Nat,i<=j->D[i]?=G a->D[j]?=G b->a<=b
 most:∀d,D[n]?=G d->∀e∈D,e<=d+1
 exp:∀(i d:Nat) (v:b9),i<n->h.found[i]?=G v->D[i]?=G d->(S v).2=0/\∀s∈ (S v).1,∃(j e:Nat),h.found[j]?=G s.2/\D[j]?=G e/\e<=d+1
theorem jl.last{S:b9->List cb×Int}{y:b9}:∀(k:Nat) (x:b9),jl S (k+1) x y->∃z s,jl S k x z/\s∈ (S z).1/\y=s.2
 |0,x,h=>by
  cases h with
  |succ hs h=>cases h;exact⟨x,_,.zero _,hs,rfl⟩
 |k+1,x,h=>by
  cases h with
  |succ hs h=>
   obtain⟨z,s,h1,h2,h3⟩:=jl.last k _ h
   exact⟨z,s,.succ hs h1,h2,h3⟩
theorem n8.has{S:b9->List cb×Int}{s0:b9}{h:c7}{D:List Nat}{n:Nat}(hb:n8 S s0 h D n){d:Nat}(hd:D[n]?=G d∨h.found.length<=n):∀(k:Nat) (y:b9),(I h.found<=n∨k<=d)->jl S k s0 y->∃i e:Nat,h.found[i]?=G y/\D[i]?=G e/\e<=k
 |0,y,_,hr=>by
  cases hr
  exact⟨0,0,hb.t.first.1,hb.t.first.2.1,HP _⟩
 |k+1,y,hk,hr=>by
  obtain⟨z,s,h1,h2,rfl⟩:=jl.last k s0 hr
  obtain⟨i,e,g1,g2,g3⟩:=hb.has hd k z (hk.imp id fun h=>by omega) h1
  have hi:=(HL.1 g1).1
  have hin:i<n:=by
   rcases hd with hd|hd
   ·rcases hk with hk|hk
    ·omega
    ·rcases Nat.lt_or_ge i n with h|h
     ·exact h
     ·have:=hb.asc n i d e h hd g2;omega
   ·omega
  obtain⟨j,e2,f1,f2,f3⟩:=(hb.exp i e z hin g1 g2).2 s h2
  grind
structure l4(S:b9->List cb×Int)(s0:b9)(h:c7)(D:List Nat)(n d:Nat)(u:b9)(l:List cb):Prop where
 t:ka S s0 h D
 asc:∀i j a b:Nat,i<=j->D[i]?=G a->D[j]?=G b->a<=b
 most:∀e∈D,e<=d+1
 here:h.found[n]?=G u/\D[n]?=G d
 exp:∀(i d:Nat) (v:b9),i<n->h.found[i]?=G v->D[i]?=G d->(S v).2=0/\∀s∈ (S v).1,∃(j e:Nat),h.found[j]?=G s.2/\D[j]?=G e/\e<=d+1
 zero:(S u).2=0
 sub:∀s∈l,s∈ (S u).1
 done:∀s∈ (S u).1,s∈l∨∃(j e:Nat),h.found[j]?=G s.2/\D[j]?=G e/\e<=d+1
theorem l4.add{S:b9->List cb×Int}{s0:b9}{h:c7}{D:List Nat}{n d:Nat}{u:b9}{s:cb}{l:List cb}(hb:l4 S s0 h D n d u (s::l))(hn:s.2∉h.found):l4 S s0 (CA h n s) (D++[d+1]) n d u l:=by
 have hl:=hb.t.len
 have hlt:=(HL.1 hb.here.1).1
 refine⟨hb.t.snoc hb.here.1 hb.here.2 hb.zero (hb.sub s (by simp)) hn,?_,?_,⟨C5 hb.here.1 _,C5 hb.here.2 _⟩,?_,hb.zero,fun s' h'=>hb.sub s' (by grind),?_⟩
 ·intro i j a b hij ha hc
  rcases MO hc with hc|⟨_,rfl⟩
  ·have:i<I D:=by grind
   rw[Ig this] at ha
   exact hb.asc i j a b hij ha hc
  ·rcases MO ha with ha|⟨_,rfl⟩
   ·exact hb.most a (HO ha)
   omega
 ·intro e he
  rcases I6.1 he with he|he
  ·exact hb.most e he
  grind
 ·intro i d' v hi hv hd
  have hv:(h.found++[s.2])[i]?=G v:=hv
  rw[Ig (by omega)] at hv
  rw[Ig (by omega)] at hd
  obtain⟨g1,g2⟩:=hb.exp i d' v hi hv hd
  refine⟨g1,fun s' hs'=>?_⟩
  obtain⟨j,e,f1,f2,f3⟩:=g2 s' hs'
  exact⟨j,e,C5 f1 _,C5 f2 _,f3⟩
 ·intro s' hs'
  rcases hb.done s' hs' with h1|⟨j,e,f1,f2,f3⟩
  ·rcases Iz.1 h1 with rfl|h1
   ·exact .inr ⟨(I h.found),d+1,Ky rfl,Ky hl,HP _⟩
   grind
  ·exact .inr ⟨j,e,C5 f1 _,C5 f2 _,f3⟩
theorem l4.skip{S:b9->List cb×Int}{s0:b9}{h:c7}{D:List Nat}{n d:Nat}{u:b9}{s:cb}{l:List cb}(hb:l4 S s0 h D n d u (s::l))(hs:s.2∈h.found):l4 S s0 h D n d u l:=by
 refine⟨hb.t,hb.asc,hb.most,hb.here,hb.exp,hb.zero,fun s' h'=>hb.sub s' (by grind),fun s' hs'=>?_⟩
 rcases hb.done s' hs' with h1|h1
 ·rcases Iz.1 h1 with rfl|h1
  ·obtain⟨j,hj⟩:=List.getElem?_of_mem hs
   obtain⟨e,he⟩:∃e,D[j]?=G e:=⟨_,HI (by rw[hb.t.len];grind)⟩
   exact .inr ⟨j,e,hj,he,hb.most e (HO he)⟩
  grind
 grind
theorem l4.end{S:b9->List cb×Int}{s0:b9}{h:c7}{D:List Nat}{n d:Nat}{u:b9}(hb:l4 S s0 h D n d u []):n8 S s0 h D (n+1):=by
 refine⟨hb.t,hb.asc,fun d' hd' e he=>?_,fun i d' v hi hv hd=>?_⟩
 ·have:=hb.most e he
  have:=hb.asc n (n+1) d d' (by omega) hb.here.2 hd'
  omega
 ·by_cases h1:i<n
  ·exact hb.exp i d' v h1 hv hd
  ·obtain rfl:i=n:=by omega
   have:=hb.here
   rw[this.1] at hv
   rw[this.2] at hd
   cases hv
   cases hd
   exact⟨hb.zero,fun s hs=>(hb.done s hs).resolve_left (by simp)⟩
theorem MW(c:b9)(at':Int):∀(l:List cb) (h:c7),(BG c at' h l).1.next=h.next
 |[],_=>rfl
 |s::l,h=>by
  rw[BG]
  split
  ·exact MW c at' l h
  ·split
   ·rfl
   ·split
    ·exact MW c at' l _
    ·split<;>rfl
def Aqn(S:b9->List cb×Int)(s0 c:b9)(d:Nat)(v:e9):Prop:=v.yes=J/\ma S s0 v.run c/\v.run.length=d/\v.run.length<=64
theorem MX{S:b9->List cb×Int}{s0 c:b9}{n d:Nat}{u:b9}:∀(l:List cb) (h:c7) (D:List Nat),l4 S s0 h D n d u l->c∉h.found->
  ((BG c n h l).2.2=0->(BG c n h l).2.1.decided=O->∃D',n8 S s0 (BG c n h l).1 D' (n+1)/\c∉ (BG c n h l).1.found)/\((BG c n h l).2.1.decided=J->Aqn S s0 c (d+1) (BG c n h l).2.1)
 |[],h,D,hb,hc=>⟨fun _ _=>⟨D,hb.end,hc⟩,fun h=>by cases h⟩
 |s::l,h,D,hb,hc=>by
  rw[BG]
  by_cases h1:Y (Dj h.found s.2>=0)=J
  ·rw[Ie h1]
   exact MX l h D (hb.skip ((LJ _ _).1 h1)) hc
  ·rw[HZ h1]
   have h1:s.2∉h.found:=fun hm=>h1 ((LJ _ _).2 hm)
   have ha:=hb.add h1
   split
   ·exact⟨fun h=>(by cases h),fun h=>by cases h⟩
   ·rename_i h128
    have h128:¬(I h.found:Int)>=128:=by grind
    split
    ·rename_i hne
     have hne:s.2≠c:=fun e=>by grind[CW]
     exact MX l _ _ ha fun hm=>by
      rcases I6.1 hm with hm|hm
      all_goals grind
    ·have he:s.2=c:=by grind[CW]
     have hw:=ha.t.wayM (i:=I h.found) (d:=d+1) (x:=s.2) (Ky hb.t.len) (Ky rfl) (by omega)
     grind[Dn,Aq,Aqn]
def ApU(S:b9->List cb×Int)(s0 c:b9)(F:List b9):Prop:=s0∈F/\c∉F/\F.Nodup/\∀x∈F,(S x).2=0/\∀s∈ (S x).1,s.2∈F
def N9(C:b9->Prop)(S:b9->List cb×Int)(s0 c:b9)(E:e9->Prop)(v:e9):Prop:=v.decided=J->
 (v.yes=J/\ma S s0 v.run c/\v.run.length<=64/\∀k,jl S k s0 c->I v.run<=k)∨
 (v.yes=O/\∃F:List b9,I F<=128/\F≠ []/\(∀x∈F,C x)/\v.closed=sortV F/\ApU S s0 c F)∨
 (v.yes=O/\v.closed=[]/\E v)
def pj(S:b9->List cb×Int)(s0 c:b9)(h:c7):Prop:=(∃D,n8 S s0 h D h.next.toNat)/\0<=h.next/\c∉h.found
theorem n8.of{S:b9->List cb×Int}{s0:b9}{h h':c7}{D:List Nat}{n:Nat}(hb:n8 S s0 h D n)(e1:h'.found=h.found)(e2:h'.before=h.before)(e3:h'.av=h.av):n8 S s0 h' D n:=by
 obtain⟨f,b,r,x,y,z⟩:=h
 cases e1
 cases e2
 cases e3
 exact⟨⟨hb.t.len,hb.t.bl,hb.t.rl,hb.t.first,hb.t.nd,hb.t.back⟩,hb.asc,hb.most,hb.exp⟩
section
variable {m : cz} {t : cr} {c : b9} {C : b9 -> Prop} {S : b9 -> List cb × Int} {X : c7 -> c7 × e9}
theorem AbM{s0:b9}(h:c7)(hh:pj S s0 c h):((AZ S c h).2.2=0->(AZ S c h).2.1.decided=O->pj S s0 c (AZ S c h).1)/\((AZ S c h).2.1.decided=J->N9 C S s0 c (fun _=>False) (AZ S c h).2.1):=by
 obtain⟨⟨D,hb⟩,hn,hc⟩:=hh
 rw[AZ]
 by_cases h1:Y (h.next>=(I h.found:Int))=J
 ·grind[Aq,pj]
 ·rw[HZ h1]
  have h1:¬h.next>=(I h.found:Int):=by grind
  obtain⟨v,hv⟩:∃v,h.found[h.next.toNat]?=G v:=⟨_,HI (show h.next.toNat<I h.found by omega)⟩
  obtain⟨d,hd⟩:∃d,D[h.next.toNat]?=G d:=⟨_,HI (show h.next.toNat<I D by rw[hb.t.len];omega)⟩
  rw[show h.found.getD h.next.toNat default=v by grind]
  by_cases h2:((S v).2 !=0)=J
  ·grind[Aq]
  ·rw[HZ h2]
   have h2:(S v).2=0:=by grind
   obtain⟨n,hnn⟩:∃n:Nat,h.next=n:=⟨h.next.toNat,by omega⟩
   have hb':=hb.of (h':=⟨h.found,h.before,h.av,h.next+1,h.cand,h.used⟩) rfl rfl rfl
   have hnn2:h.next.toNat=n:=by omega
   rw[hnn2] at hb' hb hv hd
   have hH:l4 S s0 ⟨h.found,h.before,h.av,h.next+1,h.cand,h.used⟩ D n d v (S v).1:=⟨hb'.t,hb'.asc,hb'.most d hd,⟨hv,hd⟩,hb'.exp,h2,fun s hs=>hs,fun s hs=>.inl hs⟩
   obtain⟨g1,g2⟩:=MX (c:=c) (S v).1 _ D hH hc
   have gn:=MW c h.next (S v).1 ⟨h.found,h.before,h.av,h.next+1,h.cand,h.used⟩
   rw[←hnn] at g1 g2
   generalize BG c h.next ⟨h.found,h.before,h.av,h.next+1,h.cand,h.used⟩ (S v).1=r at*
   have gn:r.1.next=h.next+1:=gn
   refine⟨fun e0 e1=>?_,fun e1 _=>.inl ?_⟩
   ·obtain⟨D',f1,f2⟩:=g1 e0 e1
    refine⟨⟨D',?_⟩,by omega,f2⟩
    grind
   ·obtain⟨f1,f2,f3,f4⟩:=g2 e1
    refine⟨f1,f2,f4,fun k hk=>?_⟩
    rcases Nat.lt_or_ge d k with h|h
    ·omega
    ·obtain⟨i,e,i1,_,_⟩:=hb.has (.inl hd) k c (.inr h) hk
     grind
theorem ZO{E:e9->Prop}(hm:ko m t c C S X)(hX:∀h:c7,0<=h.cand->(X h).2.decided=J->(X h).2.yes=O/\(X h).2.closed=[]/\E (X h).2)(h:c7)(hg:kz C h)(hc0:0<=h.cand)(hh:m.start≠c->pj S m.start c h):
  ((G9 m S X c h).2.2=0->(G9 m S X c h).2.1.decided=O->m.start≠c/\pj S m.start c (G9 m S X c h).1)/\N9 C S m.start c E (G9 m S X c h).2.1:=by
 rw[G9]
 by_cases h0:(Ar m.start c==0)=J
 ·rw[Ie h0]
  have h0:m.start=c:=by grind[CW]
  exact⟨fun _ h=>(by cases h),fun _=>.inl ⟨rfl,by subst h0;exact .nil,Iu _,fun _ _=>Iu _⟩⟩
 ·rw[HZ h0]
  have h0:m.start≠c:=fun e=>h0 (by grind[CW])
  have hh:=hh h0
  have hu:pj S m.start c (An h):=⟨by obtain⟨D,hb⟩:=hh.1;exact⟨D,hb.of rfl rfl rfl⟩,hh.2.1,hh.2.2⟩
  obtain⟨g1,g2⟩:=AbM (An h) hu
  obtain⟨k1,k2,_,_,_⟩:=PO hm (An h) hg.use hh.2.1
  generalize AZ S c (An h)=r at*
  by_cases he:(r.2.2 !=0)=J
  ·grind[Aq,N9]
  ·rw[HZ he]
   have he:r.2.2=0:=by grind
   by_cases hd:r.2.1.decided=J
   ·rw[Ie hd]
    exact⟨fun _ h=>(by grind),fun _=>(g2 hd hd).imp id fun h=>h.imp id fun h=>h.2.2.elim⟩
   ·rw[HZ hd]
    obtain⟨⟨D,f1⟩,f2,f3⟩:=g1 he (HU hd)
    by_cases hx:Y (r.1.next>=(I r.1.found:Int))=J
    ·rw[Ie hx]
     have hx:=HT hx
     refine⟨fun _ h=>(by cases h),fun _=>.inr (.inl ⟨rfl,r.1.found,k1.ok.len,k1.ok.ne,k1.cfg,rfl,HO f1.t.first.1,f3,f1.t.nd,fun x hxm=>?_⟩)⟩
     obtain⟨i,hi⟩:=List.getElem?_of_mem hxm
     have hil:=(HL.1 hi).1
     obtain⟨d,hd⟩:∃d,D[i]?=G d:=⟨_,HI (by rw[f1.t.len];omega)⟩
     obtain⟨a1,a2⟩:=f1.exp i d x (by omega) hi hd
     grind
    ·rw[HZ hx]
     refine⟨fun _ _=>⟨h0,?_⟩,fun hd=>.inr (.inr (hX r.1 (by rw[k2];exact hc0) hd))⟩
     rcases hm.cand r.1 with e|e
     ·grind
     ·dsimp only;rw[e];exact⟨⟨D,f1.of rfl rfl rfl⟩,f2,f3⟩
theorem VU{E:e9->Prop}(hm:ko m t c C S X)(hX:∀h:c7,0<=h.cand->(X h).2.decided=J->(X h).2.yes=O/\(X h).2.closed=[]/\E (X h).2):∀(n k:Nat) (h:c7) (v:e9),qm C k h->(v.decided=O->m.start≠c->pj S m.start c h)->N9 C S m.start c E v->N9 C S m.start c E (ni m S X c n h v).1
 |0,_,_,_,_,_,hv=>hv
 |n+1,k,h,v,hb,hh,hv=>by
  rw[ni]
  by_cases hd:v.decided=J
  ·grind
  ·rw[HZ hd]
   obtain⟨g1,g2⟩:=ZO hm hX h hb.inv hb.cand.1 (hh (HU hd))
   split
   ·exact fun h=>by cases h
   ·rename_i he
    exact VU hm hX n (k+1) _ _ (UF hm hb) (fun h1 _=>(g1 (by grind) h1).2) g2
theorem XV{E:e9->Prop}(hm:ko m t c C S X)(hX:∀h:c7,0<=h.cand->(X h).2.decided=J->(X h).2.yes=O/\(X h).2.closed=[]/\E (X h).2)(n:Nat):N9 C S m.start c E (ni m S X c n (BI m) (Aq 0)).1:=by
 refine VU hm hX n 0 _ _ (AbC hm) (fun _ hne=>⟨⟨[0],⟨⟨rfl,rfl,rfl,⟨rfl,rfl,rfl⟩,by simp[BI],fun i b hb h0=>?_⟩,fun i j a b hij ha hb=>?_,fun d hd e he=>?_,fun i d v hi=>?_⟩⟩,by simp[BI],fun h=>?_⟩) (fun h=>by cases h)
 all_goals grind[BI]
end
def Aqy:cf:=⟨[114],0,0,[1],[3],[],0,0,0,[],[],[],[],0⟩
def p7:cz:=⟨1,[[97]],[[120]],[],[],0,0,[Aqy],CP 0 [2]⟩
theorem Ajz:p7.ok where
 kind:=.inl rfl
 sized:=by kernel_rfl
 ranked:=by kernel_rfl
 named:=by kernel_rfl
 rshort:=fun r hr=>by rw[HY.1 hr];exact⟨by decide,by decide,by decide,by decide,by decide,by decide,by decide⟩
 right:=fun r hr=>by rw[HY.1 hr];rfl
 start:=by kernel_rfl
 ssize:=by show(CP 0 [2]).size<=1000000;decide
theorem V3:em p7 where
 ok:=Ajz
 kind:=rfl
 move:=fun r hr=>by rw[HY.1 hr];rfl
 start:=PZ p7 0 (by decide) [2] rfl (by grind)
 few:=by decide
noncomputable abbrev AoM:=Tryz.f5
theorem JL:F0 5 [] (db J):=by
 have h1:=VV p7 V3 (CP 0 [5]) (PZ p7 0 (by decide) [5] rfl (by intro y hy;rw[HY.1 hy];decide)) 30 (by decide)
 have h2:=VV p7 V3 (CP 0 [6]) (PZ p7 0 (by decide) [6] rfl (by intro y hy;rw[HY.1 hy];decide)) 30 (by decide)
 exact sv AoM 70 [] (.c (Fh (⟨true,false,[],[-1],2,[0],[],4⟩,0))<|.c (Fh (⟨true,true,[(0,CP 0 [4]),(0,CP 0 [6])],[],0,[],[],2⟩,0)) .r) (_/\_/\Q (db J)) ⟨h1,h2,rfl⟩
theorem UE:∀(cs ys ns gs:List Int),I ns=I ys->I gs=I ys->Ck cs (zipWith (fun w g=>w+g) (zipWith (fun y n=>y-n) ys ns) gs)=Ck cs ys+(Ck cs gs-Ck cs ns)
 |[],_,_,_,_,_=>by rfl
 |c::cs,[],ns,gs,h1,h2=>by
  simp_all
 |c::cs,y::ys,[],gs,h1,_=>by grind
 |c::cs,y::ys,n::ns,[],_,h2=>by grind
 |c::cs,y::ys,n::ns,g::gs,h1,h2=>by
  have ih:=UE cs ys ns gs (by grind) (by grind)
  grind[List.zipWith_cons_cons,Ck]
theorem Agf{m:cz}(hm:em m){a:fh}(_:E3 m a)(hcl:∀r∈m.av,qy a r=O){c:b9}(hc:AN m c){s:cb}(hs:Sm m c s)(h:HG a c=J):HG a s.2=J:=by
 obtain⟨i,r,h1,h2,h3,h4,h5⟩:=hs.rule
 have hrm:=HO h2
 have hro:=hm.rule hrm
 have hb:=hcl r hrm
 have hsum:Ck a.coefs (Cm r (d6 c))=Ck a.coefs (d6 c)+C6 a.coefs r:=by
  rw[Cm,YI,UE _ _ _ _ (by rw[hro.needL,hc.len]) (by rw[hro.giveL,hc.len]),C6]
 rw[HG,h4,SK,PA,hsum]
 rw[HG,h3] at h
 rw[qy] at hb
 generalize a.vals.getD r.aj.toNat 0=v at*
 generalize a.vals.getD r.to.toNat 0=u at*
 have hv:(v==f9)=O:=by
  grind[YL]
 rw[hv,Bool.not_false,Is,Bool.not_eq_false'] at hb
 rw[YL,HZ (by grind)] at h
 rw[YL] at hb⊢
 split at hb
 ·cases hb
 ·rename_i hu
  rw[HZ hu]
  split at hb
  ·grind
  ·rename_i hz
   rw[HZ hz] at h⊢
   simp only[Iv] at h hb⊢
   rw[←hb, ←h,Int.emod_add_emod]
def AnV(m:cz)(c:b9)(v:e9):Prop:=v.decided=J->v.yes=O->v.closed=[]->E3 m ⟨v.coefs,v.mod,v.vals⟩/\XM m ⟨v.coefs,v.mod,v.vals⟩ c=J
theorem XL{m:cz}(hm:em m)(c:b9)(h:c7)(hn:0<=h.cand):AnV m c (B1 m c h).2:=by
 grind[TD,B1,Ta,AnV,k6,Aq]
theorem AlQ(s:List UInt8){o:yy}{c:Call}{fo:x8}(ho:o.op=.call c)(hc:c.callee=.value fo):Ai PP o [.v (.fn 6 [] []),.v (jr s)] ba (.ptr 0 0) (dz (s.take 200) 0):=by
 have:=B3 (σ:=ba) ho hc (fD:=.v (.fn 6 [] [])) rfl (ds:=[.v (jr s)]) [] id (Af7 s) (.cons (.ren (dc:=.v (jr s)) rfl) .nil) .nil (by simp) rfl (by simp) (by simp) rfl (by rfl)
 grind[CO,Cy,DM,D.ren,D.rens,ez]
theorem Amf{r:cf}(h:r.move=[])(p:List Int)(w x:Int)(ws:List Int):j2 r (I p) x (p++w::ws)=p++(w+x)::ws:=by
 grind[iw,j2]
theorem AhS{r:cf}(h:r.move=[]):∀(ys ns p ws:List Int),I ns=I ys->I ws=I ys->gj r (I p) ys ns (p++ws)=p++zipWith (fun w g=>w+g) ws (zipWith (fun y n=>y-n) ys ns)
 |[],ns,p,ws,_,h2=>by
  obtain rfl:=List.length_eq_zero_iff.1 h2
  rfl
 |y::ys,[],_,_,h1,_=>by grind
 |y::ys,n::ns,_,[],_,h2=>by grind
 |y::ys,n::ns,p,w::ws,h1,h2=>by
  have ih:=AhS h ys ns (p++[w+(y-n)]) ws (by grind) (by grind)
  rw[HW,IQ,IQ] at ih
  rw[gj,Amf h]
  exact ih
theorem AkZ:∀(l:List Int),zipWith (fun w g=>w+g) (replicate (I l) 0) l=l
 |[]=>rfl
 |x::l=>by rw[HN,IC,List.zipWith_cons_cons,AkZ l,Int.zero_add]
theorem Ajy{r:cf}(h:r.move=[]){ys:List Int}(hl:I r.am=I ys):nz r ys=YI r ys:=by
 have h1:=AhS h ys r.am [] (replicate (I ys) 0) hl (by simp)
 have h2:=AkZ (zipWith (fun y n=>y-n) ys r.am)
 grind[nz,YI]
theorem vv.plain{m:cz}(hm:em m){c:b9}(hc:AN m c){s:cb}(h:vv m c s):Sm m c s:=by
 obtain⟨i,r,h1,h2,h3,h4,h5⟩:=h.rule
 have hr:=HO h2
 have e:=Ajy (hm.move r hr) (ys:=d6 c) (by rw[(hm.rule hr).needL,hc.len])
 refine⟨⟨i,r,h1,h2,h3,?_,?_⟩,h.ok⟩
 all_goals grind[k8,Cm,jc,ir]
structure pf(m:cz)(c:b9)(v:e9):Prop where
 pl:em m
 tgt:AN m c
 atm:E3 m ⟨v.coefs,v.mod,v.vals⟩
 exc:XM m ⟨v.coefs,v.mod,v.vals⟩ c=J
theorem Agg{m:cz}(hm:em m)(ht:gu m){a:fh}(ha:E3 m a)(hcl:Sy m a=0){d:b9}{l:List cb}(h:Ex m m.start l d):AN m d/\HG a d=J:=by
 have hb:HG a m.start=J:=by
  grind[Sy]
 rw[Sy,hb,Ie rfl] at hcl
 induction h with
 |nil=>exact⟨hm.start,hb⟩
 | @snoc run c s h1 h2 h3 ih=>
  have e:BE m c=GK m c:=by rw[BE,Ahn hm.kind];rfl
  rw[e] at h3
  have hs:=((Mi ht ih.1).2.2 s h3).plain hm ih.1
  exact⟨hs.ok,Agf hm ha (fun r hr=>by grind) ih.1 hs ih.2⟩
theorem pf.run{m:cz}{c:b9}{v:e9}(h:pf m c v){d:b9}{l:List cb}(hr:Ex m m.start l d):d≠c:=by
 have hx:=h.exc
 simp only[XM,HJ,Iv,IA] at hx
 have:=(Agg h.pl ⟨h.pl.ok,h.pl.kind,h.pl.start⟩ h.atm hx.2 hr).2
 grind
theorem XK{m:cz}(hp:I m.ay=1∨m.ay.length=2)(hpl:F0 75 [Ad m] (db O))(c:b9)(h:c7)(hn:0<=h.cand/\h.cand<=1000):Aa PP 42 [.ptr 0 0] (f0 h m c) (Cr (Aq h.used)) (f0 h m c):=by
 have hcd:F0 74 [di (I m.ay),di h.cand] (l0 (Gr (I m.ay) h.cand)):=by
  rcases hp with e|e
  all_goals grind[AhY,AhX]
 generalize Gr (I m.ay) h.cand=k at*
 obtain⟨cs,md,ok⟩:=k
 cases ok with
 |false=>
  exact sv XI 86 [] (.c (.tup [cx cs,di md,db O])<|.c1 (dv h m c) (Cr (Aq h.used)) .r) (F0 74 [di (I (df m.ay):Int),di h.cand] (bk [cx cs,di md,db O])/\yo/\_/\Q [G (dv h m c)]/\bt (td h.used)=Cr (Aq h.used)) ⟨by grind,ym,EX h m c,rfl,rfl⟩
 |true=>
  exact sv XI 86 [] (.c (.tup [cx cs,di md,db J])<|.c (db O)<|.c1 (dv h m c) (Cr (Aq h.used)) .r) (Atd m.ay h.cand cs md/\yo/\_/\_/\Q [G (dv h m c)]/\bt (td h.used)=Cr (Aq h.used)) ⟨by grind,ym,hpl,EX h m c,rfl,rfl⟩
def Ap2(h:c7):c7×e9:=(h,Aq h.used)
def ApR(m:cz)(c:b9)(X:c7->c7×e9):Prop:=ko m (o6 m) c (G3 m) (BE m) X/\∀h:c7,0<=h.cand->(X h).2.decided=J->(X h).2.yes=O/\(X h).2.closed=[]/\pf m c (X h).2
theorem El.mdlO{m:cz}(h:El m){c:b9}(hc:G3 m c)(hpb:F2 m=O):ApR m c Ap2:=by
 have hI:=h.int
 have hs:=h.steps
 have hp:I m.ay=1∨m.ay.length=2:=by rcases h.small.2.1 with e|e<;>rw[e]<;>simp
 have hpl:=hI.plain
 rw[hpb] at hpl
 exact⟨{ int:=hI,valid:=hc,tsize:=hs.size c hc,start:=hs.start,size:=hs.size,all:=hs.all,len:=hs.len,next:=hs.next,excl:=fun h hn=>XK hp hpl c h hn,cand:=fun h=>.inl rfl,told:=fun h _=>m8.open _ },fun h _ hd=>by cases hd⟩
theorem El.mdlP{m:cz}(h:El m)(hm:em m){c:b9}(hc:G3 m c):ApR m c (B1 m c):=by
 have hs:=h.steps
 have hpl:=hm.ay
 have hcc:AN m c:=Nq hm.kind (by rw[←FX (m:=m) (by have:=hm.kind;omega)];exact hc)
 refine⟨{ int:=h.int,valid:=hc,tsize:=hs.size c hc,start:=hs.start,size:=hs.size,all:=hs.all,len:=hs.len,next:=hs.next,excl:=fun h hn=>RG m hm c hcc h hn,cand:=fun h=>?_,told:=fun h h0=>?_ },fun h h0 hd=>?_⟩
 ·grind[B1]
 ·have hco:=TD hm h0
  unfold B1
  split
  ·rename_i cs md he
   rw[he] at hco
   have hco:=hco rfl
   split
   ·rename_i vals hv
    have ha:=Ta hm hco hv
    split
    ·refine⟨⟨by simp[k6],by simp[k6]⟩,?_,?_,⟨by simp[k6],by simp[k6]⟩⟩
     ·have:=ha.len;show I cs<=1000;grind
     ·have:=ha.vlen;show I vals<=1000;grind
    grind[m8.open]
   grind[m8.open]
  grind[m8.open]
 ·have ht:=XL hm c h h0
  have hyc:(B1 m c h).2.yes=O/\(B1 m c h).2.closed=[]:=by
   grind[B1,k6,Aq]
  obtain⟨h1,h2⟩:=ht hd hyc.1 hyc.2
  exact⟨hyc.1,hyc.2,hm,hcc,h1,h2⟩
theorem El.mdlA{m:cz}(h:El m){c:b9}(hc:G3 m c):∃X,ApR m c X:=by
 cases hpb:F2 m with
 |false=>exact⟨_,h.mdlO hc hpb⟩
 |true=>
  have hk:m.kind=1:=by
   grind[F2]
  have hA:=h
  cases h with
  |cM h=>
   have hpc:em m:=⟨h.ok,hk,fun r hr=>by
    rw[F2,HJ,I5] at hpb
    simp_all,h.ctm.start,⟨by rcases h.aw with e|e<;>rw[e]<;>simp,by rcases h.ay with e|e<;>rw[e]<;>simp⟩⟩
   exact⟨_,hA.mdlP hpc hc⟩
  |c h=>exact⟨_,hA.mdlP h.plc hc⟩
  |l2 h=>have:=h.kind;omega
  |l3 h=>have:=h.kind;omega
  |tm h=>have:=h.kind;omega
theorem ma.runA{m:cz}{c0:b9}{l:List cb}{c:b9}(h:ma (BE m) c0 l c):Ex m c0 l c:=by
 induction h with
 |nil=>exact .nil
 |snoc _ h0 hs ih=>exact .snoc ih h0 hs
theorem ApU.rch{S:b9->List cb×Int}{s0 c:b9}{F:List b9}(h:ApU S s0 c F):∀(k:Nat) (x y:b9),x∈F->jl S k x y->y∈F
 |0,x,y,hx,hr=>by cases hr;exact hx
 |k+1,x,y,hx,hr=>by
  cases hr with
  |succ hs hr=>exact h.rch k _ _ ((h.2.2.2 x hx).2 _ hs) hr
theorem N9.reached{m:cz}{c:b9}{v:e9}(h:N9 (G3 m) (BE m) m.start c (pf m c) v){run:List cb}(hr:Ex m m.start run c)(hd:v.decided=J):v.yes=J/\v.run.length<=I run:=by
 rcases h hd with⟨h1,_,_,h4⟩|⟨_,F,_,_,_,_,h5⟩|⟨_,_,h6⟩
 ·exact⟨h1,h4 _ hr.rch⟩
 ·exact absurd (h5.rch _ _ _ h5.1 hr.rch) h5.2.1
 ·exact absurd rfl (h6.run hr)
end Go.Proofs.YtkkplhjidondkaaGreat
