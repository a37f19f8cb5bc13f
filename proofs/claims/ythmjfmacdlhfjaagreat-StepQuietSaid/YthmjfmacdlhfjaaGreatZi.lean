/-
  A part of the proof.
-/
import Derived.Test.YthmjfmacdlhfjaaGreatZh
import Derived.Test.YthmjfmacdlhfjaaGreatZg
import Derived.Test.YthmjfmacdlhfjaaGreatZe
import Derived.Test.YthmjfmacdlhfjaaGreatZf
namespace Go.Proofs.YthmjfmacdlhfjaaGreat
open Go.Dv Go.Nv
set_option maxRecDepth 20000
open List (replicate take_left')
open Go.IntKind (u64)
open Go.IntKind renaming wrap → yr, i64 → yq
open List renaming length → I, map → U, drop → W
open Option renaming some → G
open Bool renaming true → J, false → O
open Decidable renaming decide → Y
open Int renaming toNat → Z
open Go.Dv.V renaming list → ai, str → ae, agg → ab, int → aa, ref → bz, fn → bw, nils → bv, bool → bu
open Go.Dv.D renaming v → bt, acc → br, ptr → bq, arr → bo, gro → bm, tup → bl, undef → bk, dagg → bj
open Go.Dv.St renaming mk → bi
open Go.Dv.KI renaming blk → bh
open _root_.ByteArray renaming mk → bg
open Go renaming Operand → x5, Program → x4, TypeId → yz, World → yy, Value → yx, Oper → yw, FuncId → yv, Func → yu, IntKind → yt
def gt(b i:Int):Nat->List Int->List (List Int)
 |_,[]=>[]
 |k,y::ys=>if y=b then[i,(k:Int)]::gt b i (k+1) ys else gt b i (k+1) ys
def jr(a:Int)(b:Option Int)(i:Nat)(n:Nd):List (List Int):=
 if n.lab=a then(match b with|none=>[[(i:Int)]]|G b=>gt b i 0 n.az) else[]
def Hl(a:Int)(b:Option Int):Nat->List Nd->List (List Int)
 |_,[]=>[]
 |i,n::ns=>jr a b i n++Hl a b (i+1) ns
def re(l:List Nd)(w:List Int)(p:List Int):Prop:=
 match w with
 |[]=>p=[]
 |[_]=>∃i:Nat,i<I l/\p=[(i:Int)]
 |_=>∃(i k:Nat) (n:Nd),l[i]?=G n/\k<I n.az/\p=[(i:Int),(k:Int)]
theorem Afq(b i:Int)(ys:List Int):∀k,∀p∈gt b i k ys,∃j:Nat,k<=j/\j<k+I ys/\p=[i,(j:Int)]:=by
 induction ys with
 |nil=>intro k p hp;simp[gt] at hp
 |cons y ys ih=>
  intro k p hp
  simp only[gt] at hp
  have hr:p∈gt b i (k+1) ys->∃j:Nat,k<=j/\j<k+I (y::ys)/\p=[i,(j:Int)]:=fun h=>by
   obtain⟨j,h1,h2,h3⟩:=ih (k+1) p h
   exact⟨j,by omega,by simp only[HV];omega,h3⟩
  split at hp
  ·rcases I8.1 hp with h|h
   ·exact⟨k,HX _,by simp only[HV];omega,h⟩
   ·exact hr h
  ·exact hr hp
theorem Afp(b i:Int)(ys:List Int):∀k,I (gt b i k ys)<=I ys:=by
 induction ys with
 |nil=>intro k;simp[gt]
 |cons y ys ih=>
  intro k
  have:=ih (k+1)
  simp only[gt]
  split<;>simp only[HV]<;>omega
theorem XK(a:Int)(b:Option Int)(i:Nat)(n:Nd):I (jr a b i n)<=I n.az+1:=by
 unfold jr
 split
 ·cases b with
  |none=>simp
  |some b=>have:=Afp b i n.az 0;simp only;omega
 ·simp
theorem SR(a:Int)(b:Option Int)(w:List Int)(hw:w=a::b.toList)(l:List Nd)(t:List Nd):∀i,l.drop i=t->∀p∈Hl a b i t,re l w p:=by
 subst hw
 induction t with
 |nil=>intro i _ p hp;simp[Hl] at hp
 |cons n t ih=>
  intro i hi p hp
  simp only[Hl,IE] at hp
  have hn:l[i]?=G n:=by
   have:=Iq (·[0]?) hi
   simpa using this
  have hil:i<I l:=(HT.1 hn).1
  rcases hp with hp|hp
  ·unfold jr at hp
   split at hp
   ·cases b with
    |none=>exact⟨i,hil,by simpa using hp⟩
    |some b=>
     obtain⟨j,_,h2,h3⟩:=Afq b i n.az 0 p hp
     exact⟨i,j,n,hn,by omega,h3⟩
   ·simp at hp
  ·exact ih (i+1) (by rw[←List.drop_drop,hi];rfl) p hp
noncomputable abbrev Vx:=Tryz.f89
noncomputable def Em:=yj Vx
theorem Aid(R:List (List Int))(a b:Int)(l:List Nd)(i:Nat)(hi:i<=1000)(ys:List Int)(hy:I ys<=1000)(n:Nat):∀(j:Nat) (Q:List (List Int)),I Q+(I ys-j)<=1000000->I ys-j=n->j<=I ys->
  Rn PP Vx 0 (.acc 1 (R.map cz)) ⟨[],[(1,1,R.map cz)]⟩ ([kl Em [1,1,1,0,1,0,0],.blk 0,kc Em [1,1,1,1]]++[]) (b9 59 [(1,cy [a,b]),(5,.acc 1 ((Q++gt b i j (ys.drop j)).map cz)),(14,.v (AX l)),(15,di (I l)),(16,di (i+1:Nat))]) ⟨[],[(1,1,(Q++gt b i j (ys.drop j)).map cz)]⟩->
  Rn PP Vx 0 (.acc 1 (R.map cz)) ⟨[],[(1,1,R.map cz)]⟩ ([kl Em [1,1,1,0,1,0,0,1,1,0,0,1,0,1,1,1,1,1,0,0],.blk 3,.blk 2,.blk 1,kc Em [1,1,1,0,1,0,0,1,1,1],kl Em [1,1,1,0,1,0,0],.blk 0,kc Em [1,1,1,1]]++[]) (b9 59 [(1,cy [a,b]),(5,.acc 1 (Q.map cz)),(6,di i),(14,.v (AX l)),(15,di (I l)),(16,di i),(22,cy ys),(23,di (I ys)),(24,di j)]) ⟨[],[(1,1,Q.map cz)]⟩:=by
 induction n with
 |zero=>
  intro j Q hq hn hj hout
  simp only[Im (show I ys<=j by omega),gt,IG] at hout
  exact lv 59 [] (.f<|.ls [ke 1,ke 5,ke 14,ke 15,ch 16 (di (i+1:Nat))] ⟨[],[(1,1,Q.map cz)]⟩) (Y ((j:Int)<(I ys:Int))=O/\di (yr yq ((i:Int)+1))=di (↑(i+1):Int)/\qQ [(1,1,U cz Q)]/\_) ⟨yo,As (by have:=hi;omega),rfl,iK hout⟩
 |succ n ih=>
  intro j Q hq hn hj hout
  obtain⟨y,hx⟩:=yi (show j<I ys by omega)
  have hdr:ys.drop j=y::ys.drop (j+1):=by
   rw[Ih (show j<I ys by omega)]
   rw[HQ (show j<I ys by omega)] at hx
   rw[Is hx]
  by_cases hb:y=b
  ·refine lv 59 [] (.t<|.x (vi y)<|.x (vi b)<|.t<|.ls [ke 1,ch 5 (.acc 1 ((Q++[[(i:Int),(j:Int)]]).map cz)),ke 6,ke 14,ke 15,ke 16,ke 22,ke 23,ch 24 (di (j+1:Nat))] ⟨[],[(1,1,(Q++[[(i:Int),(j:Int)]]).map cz)]⟩) (Y ((j:Int)<(I ys:Int))=J/\0<=(j:Int)/\(U vi ys)[Z (j:Int)]?=G (vi y)/\iz 0<=1/\qQ (G (vi b))/\(y==b)=J/\qQ (U cz Q)/\A9 (I (U cz Q)+I (ai (aa yq (i:Int)::aa yq (j:Int)::nV)::nV)) 24/\br 1 (U cz Q++[ai [vi (i:Int),vi (j:Int)]])=br 1 (U cz (Q++[[(i:Int),(j:Int)]]))/\di (yr yq ((j:Int)+1))=di (↑(j+1):Int)/\[(1,1,U cz Q++ai (vi (i:Int)::vi (j:Int)::nV)::nV)]=[(1,1,U cz (Q++[[(i:Int),(j:Int)]]))]/\I0 Vx 0 (br 1 (U cz R)) (bi [] [(1,1,U cz R)]) [kl Em [1,1,1,0,1,0,0,1,1,0,0,1,0,1,1,1,1,1,0,0],bh 3,bh 2,bh 1,kc Em [1,1,1,0,1,0,0,1,1,1],kl Em [1,1,1,0,1,0,0],bh 0,kc Em [1,1,1,1]] (b9 59 [(1,bt (cz [a,b])),(5,br 1 (U cz (Q++[[(i:Int),(j:Int)]]))),(6,di (i:Int)),(14,bt (AX l)),(15,di (I l:Int)),(16,di (i:Int)),(22,cy ys),(23,di (I ys:Int)),(24,di (↑(j+1):Int))]) (bi [] [(1,1,U cz (Q++[[(i:Int),(j:Int)]]))])) ?_
   have he:=ih (j+1) (Q++[[(i:Int),(j:Int)]]) (by simp only[Ig,HV,HZ];omega) (by omega) (by omega) (by
    rw[hdr,gt,Io hb] at hout
    rwa[IZ])
   have hm:(Q++[[(i:Int),(j:Int)]]).map cz=Q.map cz++[ai [vi (i:Int),vi (j:Int)]]:=by rw[Jq];rfl
   exact⟨yp,by omega,A3 hx,by decide,rfl,by simpa using hb,rfl,⟨by simp only[HP,HV,HZ];omega,by simp only[HP,HV,HZ];omega⟩,by rw[hm],As,by rw[hm],⟨he⟩⟩
  ·refine lv 59 [] (.t<|.x (vi y)<|.x (vi b)<|.f<|.ls [ke 1,ke 5,ke 6,ke 14,ke 15,ke 16,ke 22,ke 23,ch 24 (di (j+1:Nat))] ⟨[],[(1,1,Q.map cz)]⟩) (Y ((j:Int)<(I ys:Int))=J/\0<=(j:Int)/\(U vi ys)[Z (j:Int)]?=G (vi y)/\iz 0<=1/\qQ (G (vi b))/\(y==b)=O/\di (yr yq ((j:Int)+1))=di (↑(j+1):Int)/\qQ [(1,1,U cz Q)]/\I0 Vx 0 (br 1 (U cz R)) (bi [] [(1,1,U cz R)]) [kl Em [1,1,1,0,1,0,0,1,1,0,0,1,0,1,1,1,1,1,0,0],bh 3,bh 2,bh 1,kc Em [1,1,1,0,1,0,0,1,1,1],kl Em [1,1,1,0,1,0,0],bh 0,kc Em [1,1,1,1]] (b9 59 [(1,bt (cz [a,b])),(5,br 1 (U cz Q)),(6,di (i:Int)),(14,bt (AX l)),(15,di (I l:Int)),(16,di (i:Int)),(22,cy ys),(23,di (I ys:Int)),(24,di (↑(j+1):Int))]) (bi [] [(1,1,U cz Q)])) ?_
   have he:=ih (j+1) Q (by omega) (by omega) (by omega) (by
    rwa[hdr,gt,Ij hb] at hout)
   exact⟨yp,by omega,A3 hx,by decide,rfl,by simpa using hb,As,rfl,⟨he⟩⟩
theorem AbS(R:List (List Int))(a:Int)(b:Option Int)(l:List Nd)(hl:I l<=1000)(hk:∀n∈l,I n.az<=200)(n:Nat):∀(i:Nat) (Q:List (List Int)),I Q<=201*i->Q++Hl a b i (l.drop i)=R->I l-i=n->i<=I l->
  Rn PP Vx 0 (.acc 1 (R.map cz)) ⟨[],[(1,1,R.map cz)]⟩ ([kl Em [1,1,1,0,1,0,0],.blk 0,kc Em [1,1,1,1]]++[]) (b9 59 [(1,cy (a::b.toList)),(5,.acc 1 (Q.map cz)),(14,.v (AX l)),(15,di (I l)),(16,di i)]) ⟨[],[(1,1,Q.map cz)]⟩:=by
 induction n with
 |zero=>
  intro i Q hq hR hn hi
  refine lv 59 [] (.f .r) (Y ((i:Int)<(I l:Int))=O/\[(1,1,U cz Q)]=[(1,1,U cz R)]/\br 1 (U cz Q)=br 1 (U cz R)) ?_
  rw[Im (show I l<=i by omega),Hl,IG] at hR
  rw[hR]
  exact⟨yo,rfl,rfl⟩
 |succ n ih=>
  intro i Q hq hR hn hi
  obtain⟨x,hx⟩:=yi (show i<I l by omega)
  have hdr:l.drop i=x::l.drop (i+1):=by
   rw[Ih (show i<I l by omega)]
   rw[HQ (show i<I l by omega)] at hx
   rw[Is hx]
  have hxk:=hk x (HW hx)
  have hpl:=XK a b i x
  rw[hdr,Hl, ←IZ] at hR
  have he:=ih (i+1) (Q++jr a b i x) (by rw[Ig];omega) hR (by omega) (by omega)
  by_cases ha:x.lab=a
  ·cases b with
   |none=>
    rw[jr,Io ha] at he
    have hm:(Q++[[(i:Int)]]).map cz=Q.map cz++[ai [vi (i:Int)]]:=by rw[Jq];rfl
    exact lv 59 [] (.t<|.h (.xs (cm x))<|.x (vi a)<|.f<|.k<|.ls [ke 1,ch 5 (.acc 1 ((Q++[[(i:Int)]]).map cz)),ke 14,ke 15,ch 16 (di (i+1:Nat))] ⟨[],[(1,1,(Q++[[(i:Int)]]).map cz)]⟩) (Y ((i:Int)<(I l:Int))=J/\qQ 2/\0<=(i:Int)/\(U cm l)[Z (i:Int)]?=G (cm x)/\iz 0<=0/\qQ (G (vi a))/\yn/\(x.lab !=a)=O/\qQ (U cz Q)/\A9 (I (U cz Q)+I (ai (aa yq (i:Int)::nV)::nV)) 24/\br 1 (U cz Q++[ai [vi (i:Int)]])=br 1 (U cz (Q++[[(i:Int)]]))/\di (yr yq ((i:Int)+1))=di (↑(i+1):Int)/\[(1,1,U cz Q++ai (vi (i:Int)::nV)::nV)]=[(1,1,U cz (Q++[[(i:Int)]]))]/\_) ⟨yp,rfl,by omega,A3 hx,by decide,rfl,yl,by simpa using ha,rfl,⟨by simp only[HP,HV,HZ];omega,by simp only[HP,HV,HZ];omega⟩,by rw[hm],As,by rw[hm],iK he⟩
   |some b=>
    rw[jr,Io ha] at he
    have hin:=Aid R a b l i (by omega) x.az (by omega) _ 0 Q (by omega) rfl (I3 _) he
    exact lv 59 [] (.t<|.h (.xs (cm x))<|.x (vi a)<|.f<|.k<|.ls [ke 1,ke 5,ch 6 (di i),ke 14,ke 15,ke 16,ch 22 (cy x.az),ch 23 (di (I x.az)),ch 24 (di (0:Nat))] ⟨[],[(1,1,Q.map cz)]⟩) (Y ((i:Int)<(I l:Int))=J/\qQ 2/\0<=(i:Int)/\(U cm l)[Z (i:Int)]?=G (cm x)/\iz 0<=0/\qQ (G (vi a))/\yn/\(x.lab !=a)=O/\qQ (di (i:Int))/\qQ (cy x.az)/\di (I (U vi x.az):Int)=di (I x.az:Int)/\qQ (di 0)/\qQ [(1,1,U cz Q)]/\_) ⟨yp,rfl,by omega,A3 hx,by decide,rfl,yl,by simpa using ha,rfl,rfl,by rw[HP],rfl,rfl,iK hin⟩
  ·rw[show jr a b i x=[] by unfold jr;exact Ij ha] at he
   simp only[IG] at he
   exact lv 59 [] (.t<|.h (.xs (cm x))<|.x (vi a)<|.t<|.ls [ke 1,ke 5,ke 14,ke 15,ch 16 (di (i+1:Nat))] ⟨[],[(1,1,Q.map cz)]⟩) (Y ((i:Int)<(I l:Int))=J/\qQ 2/\0<=(i:Int)/\(U cm l)[Z (i:Int)]?=G (cm x)/\iz 0<=0/\qQ (G (vi a))/\yn/\(x.lab !=a)=J/\di (yr yq ((i:Int)+1))=di (↑(i+1):Int)/\qQ [(1,1,U cz Q)]/\_) ⟨yp,rfl,by omega,A3 hx,by decide,rfl,yl,by simpa using ha,As,rfl,iK he⟩
theorem Td(a:Int)(b:Option Int)(l:List Nd)(hl:I l<=1000)(hk:∀n∈l,I n.az<=200):F0 89 [.v (AX l),cy (a::b.toList)] (.v (.list ((Hl a b 0 l).map cz))):=by
 have h:Aa PP 89 [.v (AX l),cy (a::b.toList)] bf (.acc 1 ((Hl a b 0 l).map cz)) ⟨[],[(1,1,(Hl a b 0 l).map cz)]⟩:=by
  exact sv Vx 59 [] (.f<|.h (.q 4 0)<|.h (.nw 5 1 1)<|.ls [ke 1,ch 5 (.acc 1 []),ch 14 (.v (AX l)),ch 15 (di (I l)),ch 16 (di (0:Nat))] ⟨[],[(1,1,[])]⟩) (((I (U vi (a::Option.toList b)):Int)==0)=O/\qQ (br 1 [])/\qQ (bt (AX l))/\di (I (U cm l):Int)=di (I l:Int)/\qQ (di 0)/\qQ [(1,1,nV)]/\_) ⟨I7.2 (by rw[HP,HV];omega),rfl,rfl,by rw[HP],rfl,rfl,iK (AbS _ a b l hl hk _ 0 [] (by decide) rfl rfl (I3 _))⟩
 exact Di h
theorem Af7(l:List Nd):F0 89 [.v (AX l),cy []] (.v (.list [.nils])):=by
 exact sv Vx 59 [] (.t .r) (((I (U vi []):Int)==0)=J/\qQ (bt (ai [bv]))) ⟨rfl,rfl⟩
noncomputable abbrev qn:=Tryz.f148
noncomputable abbrev AkD:=Tryz.f150
noncomputable abbrev AkE:=Tryz.f73
theorem Hz(l:List Nd):∀y∈l.map cm,y.size=2:=fun y hy=>by obtain⟨n,_,rfl⟩:=IA.1 hy;rfl
theorem JI:∀l:List Nd,I (Ad (l.map cm))=I l*2
 |[]=>rfl
 |n::l=>by rw[Iu,Ad,List.flatMap_cons,Jq,Ig,HV];have:=JI l;rw[Ad] at this;rw[this];simp[V.cellsV];omega
theorem O1(k:Nat)(l:List Nd):D.okNs k [] (Ad (l.map cm))=J:=Az _ _ _
theorem TR(l:List Nd)(hl:I l<=100000)(h:l≠ []):Aa PP 148 [.v (AX l)] bf (.gro 1 (I l) 2) ⟨[none,G (Ad (l.map cm))],[]⟩:=by
 exact sv qn 8 [] (.h .g<|.ro) (U cm l≠ []/\Q 0/\U cm l≠ []/\(∀(y:V),y∈U cm l->V.size y=2)/\A9 (0+I (U cm l)) 32/\cp 2 [] [none,G ([]++Ad (U cm l))]=J/\[none,G ([]++Ad (U cm l))]=[none,G (Ad (U cm l))]/\bm 1 (0+I (U cm l)) 2=bm 1 (I l) 2) ⟨by simpa using h,rfl,by simpa using h,Hz l,⟨by simp only[HP];omega,by simp only[HP];omega⟩,by simp[cp,O1],by simp,by simp⟩
abbrev Cm(cs:List D):St:=⟨[G cs],[]⟩
theorem Q5{FA FX FB:List D}{i n sz:Nat}(hA:I FA=i*sz)(hX:I FX=sz)(hB:I FB=(n- (i+1))*sz)(hi:i<n):∃R:List D,I R=sz/\(∀x∈R,x∈FA++FX++FB)/\(FA++FX++FB).take (i*sz)++((FA++FX++FB).drop ((i+1)*sz)).take ((n- (i+1))*sz)++(FA++FX++FB).drop (i*sz+(n- (i+1))*sz)=FA++FB++R:=by
 have e1:(i+1)*sz=I FA+I FX:=by rw[Nat.succ_mul,hA,hX]
 refine⟨(FA++FX++FB).drop (i*sz+(n- (i+1))*sz),?_,fun x hx=>II hx,?_⟩
 ·rw[IY,Ig,Ig,hA,hX,hB];omega
 ·congr 2
  ·rw[←hA,IZ,take_left'];rfl
  ·rw[e1, ←Ig,List.drop_left', ←hB,List.take_length];rfl
theorem S5{q n sz:Nat}{d:D}{g:Gh}{us:List yx}(h:Ar g [.gro q n sz,d] us):Ar g [.arr q 0 n,d] us:=by
 simp only[Ar] at h⊢
 obtain⟨u,us',e,h1,h2⟩:=h
 exact⟨u,us',e,Xl h1,h2⟩
abbrev pp:List V:=[vi 0,.nils]
abbrev po:List V:=[vi 0]
theorem ju:Ce PP 115=G (160,2,32,G (.agg #[.int .i64 0,.slice none 0 0])):=by kernel_rfl
theorem TJ(n i:Nat)(hi:i<n)(z:D)(C C1 C2:List D)(hz:∀(o:yw) (x a:x5),o.op=.slice 115 x (G a) none none->∀τ,Ay PP o [.gro 0 n 2,di (i+1:Nat)] τ z τ)(hap:∀(o:yw) (x y:x5),o.op=.call { callee:=.builtin .append,args:= #[x,y],argTypes:= #[115,115]}->Ay PP o [.gro 0 i 2,z] (Cm C) (.gro 0 (n-1) 2) (Cm C1))(hl:I C1=n*2)
  (hcl:∀(o:yw) (x:x5),o.op=.call { callee:=.builtin .clear,args:= #[x],argTypes:= #[115]}->Ay PP o [.arr 0 ((n-1)*2) 1] (Cm C1) (.tup []) (Cm C2)) (hok:cp 1 [] [G C2]=J):Aa PP 150 [.gro 0 n 2,di i,di (i+1:Nat)] (Cm C) (.arr 0 0 (n-1)) (Cm C2):=by
 have hcp:n- (n-1)=1:=by omega
 have hup:∀(o:yw) (x a b:x5),o.op=.slice 115 x (G a) (G b) none->Ay PP o [.gro 0 (n-1) 2,di (n-1:Nat),di n] (Cm C1) (.arr 0 ((n-1)*2) 1) (Cm C1):=fun o x a b ho=>by
  have:=MM (σ:=Cm C1) (i:=n-1) (j:=n) ho ju (by decide) (q:=0) (n:=n-1) (cs:=C1) rfl (by omega) (by omega) (k1:=.i64) (k2:=.i64)
  rwa[hcp] at this
 exact sv AkD 33 [] (.h (.q 1 5)<|.h (.p .undef)<|.f<|.h (.q 4 2)<|.h (.p (di n))<|.h (.p (.gro 0 n 2))<|.h (.p (di i))<|.h (.p (.gro 0 i 2))<|.h (.p (.gro 0 n 2))<|.h (.p (di (i+1:Nat)))<|.h (.p z)<|.h (.o (.gro 0 (n-1) 2) (Cm C1))<|.h (.q 6 4)<|.h (.o (.arr 0 ((n-1)*2) 1) (Cm C1))<|.h (.o (.tup []) (Cm C2))<|.h (.q 7 1)<|.h (.ga 32)<|.ro) ((∀(τ:St),Ay PP (Oper.mk (G 13) (Op.slice 115 (Operand.tmp 8) (G (Operand.tmp 9)) (G (Operand.tmp 10)) (G (Operand.tmp 12))) 115 "slices.go:225" #[Edge.mk 0 Ground.data,Edge.mk 1 Ground.data,Edge.mk 2 Ground.data,Edge.mk 4 Ground.data] none) [bm 0 n 2,di (i:Int),di (↑(i+1):Int),di (n:Int)] τ bk τ)/\((i:Int)==(↑(i+1):Int))=O/\(∀(τ:St),Ay PP (Oper.mk (G 7) (Op.assign (Operand.tmp 19)) 3 "slices.go:231" #[Edge.mk 1 Ground.data,Edge.mk 0 Ground.phase,Edge.mk 1 Ground.phase] none) [di (n:Int)] τ (di (n:Int)) τ)/\(∀(τ:St),Ay PP (Oper.mk (G 20) (Op.move (Operand.tmp 0)) 115 "slices.go:232" #[] none) [bm 0 n 2] τ (bm 0 n 2) τ)/\(∀(τ:St),Ay PP (Oper.mk (G 21) (Op.move (Operand.tmp 1)) 3 "slices.go:232" #[] none) [di (i:Int)] τ (di (i:Int)) τ)/\(∀(τ:St),Ay PP (Oper.mk (G 22) (Op.slice 115 (Operand.tmp 20) none (G (Operand.tmp 21)) none) 115 "slices.go:232" #[Edge.mk 0 Ground.data,Edge.mk 1 Ground.data] none) [bm 0 n 2,di (i:Int)] τ (bm 0 i 2) τ)/\(∀(τ:St),Ay PP (Oper.mk (G 23) (Op.move (Operand.tmp 0)) 115 "slices.go:232" #[] none) [bm 0 n 2] τ (bm 0 n 2) τ)/\(∀(τ:St),Ay PP (Oper.mk (G 24) (Op.move (Operand.tmp 2)) 3 "slices.go:232" #[] none) [di (↑(i+1):Int)] τ (di (↑(i+1):Int)) τ)/\(∀(τ:St),Ay PP (Oper.mk (G 25) (Op.slice 115 (Operand.tmp 23) (G (Operand.tmp 24)) none none) 115 "slices.go:232" #[Edge.mk 3 Ground.data,Edge.mk 4 Ground.data] none) [bm 0 n 2,di (↑(i+1):Int)] τ z τ)/\Ay PP (Oper.mk (G 26) (Op.call (Call.mk (Callee.builtin Builtin.append) #[Operand.tmp 22,Operand.tmp 25] #[115,115])) 115 "slices.go:232" #[Edge.mk 2 Ground.data,Edge.mk 5 Ground.data] none) [bm 0 i 2,z] (Cm C) (bm 0 (n-1) 2) (Cm C1)/\Ay PP (Oper.mk (G 31) (Op.slice 115 (Operand.tmp 27) (G (Operand.tmp 29)) (G (Operand.tmp 30)) none) 115 "slices.go:233" #[Edge.mk 0 Ground.data,Edge.mk 2 Ground.data,Edge.mk 3 Ground.data] none) [bm 0 (n-1) 2,di (↑(n-1):Int),di (n:Int)] (bi [G C1] []) (bo 0 ((n-1)*2) 1) (Cm C1)/\Ay PP (Oper.mk none (Op.call (Call.mk (Callee.builtin Builtin.clear) #[Operand.tmp 31] #[115])) 0 "slices.go:233" #[Edge.mk 4 Ground.data] none) [bo 0 ((n-1)*2) 1] (Cm C1) (bl []) (Cm C2)/\_/\Q [G C2]/\Q (bo 0 0 (n-1))) ⟨fun τ=>MP rfl ju (by omega) (by omega),I7.2 (by omega),fun τ=>LU rfl,fun τ=>D6 rfl,fun τ=>D6 rfl,fun τ=>MN rfl ju (by omega),fun τ=>D6 rfl,fun τ=>D6 rfl,fun τ=>hz _ _ _ rfl τ,hap _ _ _ rfl,hup _ _ _ _ rfl,hcl _ _ rfl,hok,rfl,rfl⟩
theorem V2(n i:Nat)(hi:i<n)(FA FX FB:List D)(hA:I FA=i*2)(hX:I FX=2)(hB:I FB=(n- (i+1))*2)(hok:cp 1 [] [G (FA++FB++[di 0,.v .nils])]=J):Aa PP 150 [.gro 0 n 2,di i,di (i+1:Nat)] (Cm (FA++FX++FB)) (.arr 0 0 (n-1)) (Cm (FA++FB++[di 0,.v .nils])):=by
 obtain⟨R,hR,_,hc⟩:=Q5 (sz:=2) hA hX hB hi
 have hlen:I (FA++FX++FB)=n*2:=by rw[Ig,Ig,hA,hX,hB];omega
 have hl1:I (FA++FB++R)=n*2:=by rw[Ig,Ig,hA,hR,hB];omega
 have hl0:I (FA++FB)=(n-1)*2:=by rw[Ig,hA,hB];omega
 have hcl:∀(o:yw) (x:x5),o.op=.call { callee:=.builtin .clear,args:= #[x],argTypes:= #[115]}->Ay PP o [.arr 0 ((n-1)*2) 1] (Cm (FA++FB++R)) (.tup []) (Cm (FA++FB++[di 0,.v .nils])):=fun o x ho=>by
  have:=DM (σ:=Cm (FA++FB++R)) ho ju (zs:=pp) rfl rfl (q:=0) (off:=(n-1)*2) (len:=1) (cs:=FA++FB++R) rfl (by decide) (by rw[hl1];omega)
  have e:(FA++FB++R).take ((n-1)*2)++(replicate 1 pp).flatten.map .v++(FA++FB++R).drop ((n-1)*2+1*2)=FA++FB++[di 0,.v .nils]:=by
   rw[←hl0,take_left' rfl,Im (by rw[Ig,hR];omega),IG];rfl
  rw[←e];exact this
 by_cases he:i+1<n
 ·refine TJ n i hi (.arr 0 ((i+1)*2) (n- (i+1))) _ (FA++FB++R) _ (fun o x a ho τ=>?_) (fun o x y ho=>?_) hl1 hcl hok
  ·have:=Ch (P:=PP) (σ:=τ) (q:=0) (off:=0) ho ju (len:=n) (G (.i64,((i+1:Nat):Int))) none rfl rfl (l':=i+1) (h':=n) (by simp[Cf];omega) he
   rw[IC] at this
   exact BI (fun g us h=>S5 h) this
  ·have:=LW (σ:=Cm (FA++FX++FB)) ho ju (by decide) (q:=0) (len:=i) (off:=(i+1)*2) (m:=n- (i+1)) (cs:=FA++FX++FB) rfl (by rw[hlen];omega) (by rw[hlen];omega)
   rw[show i+(n- (i+1))=n-1 by omega] at this
   rw[←hc];exact this
 ·have hB0:FB=[]:=List.length_eq_zero_iff.1 (by rw[hB];omega)
  have hR0:FA++FX++FB=FA++FB++FX:=by rw[hB0];simp
  refine TJ n i hi (.v (.list [])) _ (FA++FB++FX) _ (fun o x a ho τ=>?_) (fun o x y ho=>?_) (by rw[←hR0];exact hlen) (fun o x ho=>?_) hok
  ·have:=MO (P:=PP) (σ:=τ) ho ju (q:=0) (n:=n) (k1:=.i64)
   rwa[show((i+1:Nat):Int)=(n:Int) by omega]
  ·rw[←hR0,show n-1=i by omega]
   exact HA ho ju
  ·have:=DM (σ:=Cm (FA++FB++FX)) ho ju (zs:=pp) rfl rfl (q:=0) (off:=(n-1)*2) (len:=1) (cs:=FA++FB++FX) rfl (by decide) (by rw[←hR0,hlen];omega)
   have e:(FA++FB++FX).take ((n-1)*2)++(replicate 1 pp).flatten.map .v++(FA++FB++FX).drop ((n-1)*2+1*2)=FA++FB++[di 0,.v .nils]:=by
    rw[←hl0,take_left' rfl,Im (by rw[Ig,hX];omega),IG];rfl
   rw[←e];exact this
theorem jt:Ce PP 22=G (3,1,8,G (.int .i64 0)):=by kernel_rfl
theorem TK(n i:Nat)(hi:i<n)(z:D)(C C1 C2:List D)(hz:∀(o:yw) (x a:x5),o.op=.slice 22 x (G a) none none->∀τ,Ay PP o [.gro 0 n 1,di (i+1:Nat)] τ z τ)(hap:∀(o:yw) (x y:x5),o.op=.call { callee:=.builtin .append,args:= #[x,y],argTypes:= #[22,22]}->Ay PP o [.gro 0 i 1,z] (Cm C) (.gro 0 (n-1) 1) (Cm C1))(hl:I C1=n*1)
  (hcl:∀(o:yw) (x:x5),o.op=.call { callee:=.builtin .clear,args:= #[x],argTypes:= #[22]}->Ay PP o [.arr 0 ((n-1)*1) 1] (Cm C1) (.tup []) (Cm C2)) (hok:cp 1 [] [G C2]=J):Aa PP 73 [.gro 0 n 1,di i,di (i+1:Nat)] (Cm C) (.arr 0 0 (n-1)) (Cm C2):=by
 have hcp:n- (n-1)=1:=by omega
 have hup:∀(o:yw) (x a b:x5),o.op=.slice 22 x (G a) (G b) none->Ay PP o [.gro 0 (n-1) 1,di (n-1:Nat),di n] (Cm C1) (.arr 0 ((n-1)*1) 1) (Cm C1):=fun o x a b ho=>by
  have:=MM (σ:=Cm C1) (i:=n-1) (j:=n) ho jt (by decide) (q:=0) (n:=n-1) (cs:=C1) rfl (by omega) (by omega) (k1:=.i64) (k2:=.i64)
  rwa[hcp] at this
 exact sv AkE 33 [] (.h (.q 1 5)<|.h (.p .undef)<|.f<|.h (.q 4 2)<|.h (.p (di n))<|.h (.p (.gro 0 n 1))<|.h (.p (di i))<|.h (.p (.gro 0 i 1))<|.h (.p (.gro 0 n 1))<|.h (.p (di (i+1:Nat)))<|.h (.p z)<|.h (.o (.gro 0 (n-1) 1) (Cm C1))<|.h (.q 6 4)<|.h (.o (.arr 0 ((n-1)*1) 1) (Cm C1))<|.h (.o (.tup []) (Cm C2))<|.h (.q 7 1)<|.h (.ga 32)<|.ro) ((∀(τ:St),Ay PP (Oper.mk (G 13) (Op.slice 22 (Operand.tmp 8) (G (Operand.tmp 9)) (G (Operand.tmp 10)) (G (Operand.tmp 12))) 22 "slices.go:225" #[Edge.mk 0 Ground.data,Edge.mk 1 Ground.data,Edge.mk 2 Ground.data,Edge.mk 4 Ground.data] none) [bm 0 n 1,di (i:Int),di (↑(i+1):Int),di (n:Int)] τ bk τ)/\((i:Int)==(↑(i+1):Int))=O/\(∀(τ:St),Ay PP (Oper.mk (G 7) (Op.assign (Operand.tmp 19)) 3 "slices.go:231" #[Edge.mk 1 Ground.data,Edge.mk 0 Ground.phase,Edge.mk 1 Ground.phase] none) [di (n:Int)] τ (di (n:Int)) τ)/\(∀(τ:St),Ay PP (Oper.mk (G 20) (Op.move (Operand.tmp 0)) 22 "slices.go:232" #[] none) [bm 0 n 1] τ (bm 0 n 1) τ)/\(∀(τ:St),Ay PP (Oper.mk (G 21) (Op.move (Operand.tmp 1)) 3 "slices.go:232" #[] none) [di (i:Int)] τ (di (i:Int)) τ)/\(∀(τ:St),Ay PP (Oper.mk (G 22) (Op.slice 22 (Operand.tmp 20) none (G (Operand.tmp 21)) none) 22 "slices.go:232" #[Edge.mk 0 Ground.data,Edge.mk 1 Ground.data] none) [bm 0 n 1,di (i:Int)] τ (bm 0 i 1) τ)/\(∀(τ:St),Ay PP (Oper.mk (G 23) (Op.move (Operand.tmp 0)) 22 "slices.go:232" #[] none) [bm 0 n 1] τ (bm 0 n 1) τ)/\(∀(τ:St),Ay PP (Oper.mk (G 24) (Op.move (Operand.tmp 2)) 3 "slices.go:232" #[] none) [di (↑(i+1):Int)] τ (di (↑(i+1):Int)) τ)/\(∀(τ:St),Ay PP (Oper.mk (G 25) (Op.slice 22 (Operand.tmp 23) (G (Operand.tmp 24)) none none) 22 "slices.go:232" #[Edge.mk 3 Ground.data,Edge.mk 4 Ground.data] none) [bm 0 n 1,di (↑(i+1):Int)] τ z τ)/\Ay PP (Oper.mk (G 26) (Op.call (Call.mk (Callee.builtin Builtin.append) #[Operand.tmp 22,Operand.tmp 25] #[22,22])) 22 "slices.go:232" #[Edge.mk 2 Ground.data,Edge.mk 5 Ground.data] none) [bm 0 i 1,z] (Cm C) (bm 0 (n-1) 1) (Cm C1)/\Ay PP (Oper.mk (G 31) (Op.slice 22 (Operand.tmp 27) (G (Operand.tmp 29)) (G (Operand.tmp 30)) none) 22 "slices.go:233" #[Edge.mk 0 Ground.data,Edge.mk 2 Ground.data,Edge.mk 3 Ground.data] none) [bm 0 (n-1) 1,di (↑(n-1):Int),di (n:Int)] (bi [G C1] []) (bo 0 ((n-1)*1) 1) (Cm C1)/\Ay PP (Oper.mk none (Op.call (Call.mk (Callee.builtin Builtin.clear) #[Operand.tmp 31] #[22])) 0 "slices.go:233" #[Edge.mk 4 Ground.data] none) [bo 0 ((n-1)*1) 1] (Cm C1) (bl []) (Cm C2)/\_/\Q [G C2]/\Q (bo 0 0 (n-1))) ⟨fun τ=>MP rfl jt (by omega) (by omega),I7.2 (by omega),fun τ=>LU rfl,fun τ=>D6 rfl,fun τ=>D6 rfl,fun τ=>MN rfl jt (by omega),fun τ=>D6 rfl,fun τ=>D6 rfl,fun τ=>hz _ _ _ rfl τ,hap _ _ _ rfl,hup _ _ _ _ rfl,hcl _ _ rfl,hok,rfl,rfl⟩
theorem Nl(n i:Nat)(hi:i<n)(FA FX FB:List D)(hA:I FA=i*1)(hX:I FX=1)(hB:I FB=(n- (i+1))*1)(hok:cp 1 [] [G (FA++FB++[di 0])]=J):Aa PP 73 [.gro 0 n 1,di i,di (i+1:Nat)] (Cm (FA++FX++FB)) (.arr 0 0 (n-1)) (Cm (FA++FB++[di 0])):=by
 obtain⟨R,hR,_,hc⟩:=Q5 (sz:=1) hA hX hB hi
 have hlen:I (FA++FX++FB)=n*1:=by rw[Ig,Ig,hA,hX,hB];omega
 have hl1:I (FA++FB++R)=n*1:=by rw[Ig,Ig,hA,hR,hB];omega
 have hl0:I (FA++FB)=(n-1)*1:=by rw[Ig,hA,hB];omega
 have hcl:∀(o:yw) (x:x5),o.op=.call { callee:=.builtin .clear,args:= #[x],argTypes:= #[22]}->Ay PP o [.arr 0 ((n-1)*1) 1] (Cm (FA++FB++R)) (.tup []) (Cm (FA++FB++[di 0])):=fun o x ho=>by
  have:=DM (σ:=Cm (FA++FB++R)) ho jt (zs:=po) rfl rfl (q:=0) (off:=(n-1)*1) (len:=1) (cs:=FA++FB++R) rfl (by decide) (by rw[hl1];omega)
  have e:(FA++FB++R).take ((n-1)*1)++(replicate 1 po).flatten.map .v++(FA++FB++R).drop ((n-1)*1+1*1)=FA++FB++[di 0]:=by
   rw[←hl0,take_left' rfl,Im (by rw[Ig,hR];omega),IG];rfl
  rw[←e];exact this
 by_cases he:i+1<n
 ·refine TK n i hi (.arr 0 ((i+1)*1) (n- (i+1))) _ (FA++FB++R) _ (fun o x a ho τ=>?_) (fun o x y ho=>?_) hl1 hcl hok
  ·have:=Ch (P:=PP) (σ:=τ) (q:=0) (off:=0) ho jt (len:=n) (G (.i64,((i+1:Nat):Int))) none rfl rfl (l':=i+1) (h':=n) (by simp[Cf];omega) he
   rw[IC] at this
   exact BI (fun g us h=>S5 h) this
  ·have:=LW (σ:=Cm (FA++FX++FB)) ho jt (by decide) (q:=0) (len:=i) (off:=(i+1)*1) (m:=n- (i+1)) (cs:=FA++FX++FB) rfl (by rw[hlen];omega) (by rw[hlen];omega)
   rw[show i+(n- (i+1))=n-1 by omega] at this
   rw[←hc];exact this
 ·have hB0:FB=[]:=List.length_eq_zero_iff.1 (by rw[hB];omega)
  have hR0:FA++FX++FB=FA++FB++FX:=by rw[hB0];simp
  refine TK n i hi (.v (.list [])) _ (FA++FB++FX) _ (fun o x a ho τ=>?_) (fun o x y ho=>?_) (by rw[←hR0];exact hlen) (fun o x ho=>?_) hok
  ·have:=MO (P:=PP) (σ:=τ) ho jt (q:=0) (n:=n) (k1:=.i64)
   rwa[show((i+1:Nat):Int)=(n:Int) by omega]
  ·rw[←hR0,show n-1=i by omega]
   exact HA ho jt
  ·have:=DM (σ:=Cm (FA++FB++FX)) ho jt (zs:=po) rfl rfl (q:=0) (off:=(n-1)*1) (len:=1) (cs:=FA++FB++FX) rfl (by decide) (by rw[←hR0,hlen];omega)
   have e:(FA++FB++FX).take ((n-1)*1)++(replicate 1 po).flatten.map .v++(FA++FB++FX).drop ((n-1)*1+1*1)=FA++FB++[di 0]:=by
    rw[←hl0,take_left' rfl,Im (by rw[Ig,hX];omega),IG];rfl
   rw[←e];exact this
end Go.Proofs.YthmjfmacdlhfjaaGreat

namespace Go.Dv
open List (mem_filter)
open Go.IntKind (u64)
open Go.IntKind renaming wrap → yr, i64 → yq
open List renaming length → I, map → U, drop → W
open Option renaming some → G
open Bool renaming true → J, false → O
open Decidable renaming decide → Y
open Int renaming toNat → Z
open Go.Dv.V renaming list → ai, str → ae, agg → ab, int → aa, ref → bz, fn → bw, nils → bv, bool → bu
open Go.Dv.D renaming v → bt, acc → br, ptr → bq, arr → bo, gro → bm, tup → bl, undef → bk, dagg → bj
open Go.Dv.St renaming mk → bi
open Go.Dv.KI renaming blk → bh
open _root_.ByteArray renaming mk → bg
open Go renaming Operand → x5, Program → x4, TypeId → yz, World → yy, Value → yx, Oper → yw, FuncId → yv, Func → yu, IntKind → yt
def QO(P:x4)(ops:Array yw)(sts:Bool->List St)(fr:Nat)(pl esc:Nat->Bool)(items:List It)(lims:List Ef)(env0:List D)(i:Nat)(o:yw):Prop:=
 ∃d b,items[i]?=G (o.dst,d,b)/\
  ((C0 (CD (items.take i) env0) ops o=G false/\d=.tup []/\b=O/\i≠fr)∨
   (C0 (CD (items.take i) env0) ops o=G true/\b=O/\i≠fr/\∀(b:Bool) (c:Nat) (s:St),(sts b)[c]?=G s->(∀lim,(lims[i]?).bind (·.2)=G lim->c<=lim)->Ay P o (E2 (CD (items.take i) env0) o) s d s)∨
   (C0 (CD (items.take i) env0) ops o=G true/\b=true/\i≠fr/\∀bb s,(sts bb)[EO (items.take i)]?=G s->(bb=O->FO ops i fr=O)->∃s',(sts bb)[EO (items.take i)+1]?=G s'/\Ay P o (E2 (CD (items.take i) env0) o) s d s')∨
   (C0 (CD (items.take i) env0) ops o=G true/\b=O/\i=fr/\∀(c:Nat) (s:St),(sts false)[c]?=G s->∃s',(sts true)[c]?=G s'/\Ay P o (E2 (CD (items.take i) env0) o) s d s')∨
   (pl i=true/\b=O)∨(esc i=true/\b=O))
section
variable {C : co -> co -> Prop} {P : x4} {R : List D -> St -> Prop} {k : List KI} {env : List D} {σ : St}
set_option maxHeartbeats 1000000 in
theorem Ly{pl esc:Nat->Bool}{ops:Array yw}{sts:Bool->List St}{fr:Nat}{items:List It}{effs:List Bool}{lims:List Ef}{env0:List D}{Q:Exit->Act->yy->Prop}{E:co}{J:Gh->Prop}(hJ:∀g g':Gh,g.le g'->J g->J g')(hreg:PN ops effs=true)(hwin:Wu ops lims=true)(hle:effs=lims.map (·.1))(hlen:I items=ops.size)(heff:effs=items.map (·.2.2))
  (hfact:∀i o,ops[i]?=G o->QO P ops sts fr pl esc items lims env0 i o)
  (hesc:∀(fuel:Nat) (listed:Array Bool) (a:Act) (w:yy) (g:Gh) (s:St) (i:Nat) (o:yw),ops[i]?=G o->esc i=true->listed.size=ops.size->(∀k,pl k=true->listed.getD k false=true)->(∀k,esc k=true->listed.getD k false=O)->DC ops (fun i=>listed.getD i false)->
   (I ((List.range ops.size).filter fun i=> !listed.getD i false))=fuel+1->(∀e∈o.after,Region.binds .any e=true->listed.getD e.on false=true)->(sts (listed.getD fr false))[EN items (fun i=>listed.getD i false)]?=G s->J g->FI E g s (FG items (fun i=>listed.getD i false) env0) a w->
   wpOp P ops Q i (wpAny P .any ops Q fuel (listed.setIfInBounds i true)) a w)
  (hfin:(∀i,i<ops.size->esc i=O)->∀g a w,J g->(∃s,(sts (Y (fr<ops.size)))[EO items]?=G s/\FI E g s (CD items env0) a w)->Q .normal a w):
  ∀(fuel:Nat) (listed:Array Bool) (a:Act) (w:yy) (g:Gh) (s:St),listed.size=ops.size->(∀k,pl k=true->listed.getD k false=true)->(∀k,esc k=true->listed.getD k false=O)->DC ops (fun i=>listed.getD i false)->
   (I ((List.range ops.size).filter fun i=> !listed.getD i false))=fuel->
   (sts (listed.getD fr false))[EN items (fun i=>listed.getD i false)]?=G s->J g->FI E g s (FG items (fun i=>listed.getD i false) env0) a w->wpAny P .any ops Q fuel listed a w:=by
 -- nothing is ready:all are listed
 have done_:∀(listed:Array Bool),listed.size=ops.size->Region.ready .any ops listed=[]->∀i,i<ops.size->listed.getD i false=true:=by
  intro listed hsz hr i
  induction i using Nat.strongRecOn with
  |_ i ih=>
   intro hi
   cases hl:listed.getD i false with
   |true=>rfl
   |false=>
    exfalso
    have hmem:i∈Region.ready .any ops listed:=by
     unfold Region.ready
     rw[mem_filter]
     refine⟨by simpa using hi,?_⟩
     have ho:ops[i]?=G ops[i]:=by simp[hi]
     have hl':listed.getD i true=O:=by
      rw[Jk] at hl⊢
      have:listed[i]?=G listed[i]:=by simp[hsz,hi]
      rw[this] at hl⊢;exact hl
     rw[ho]
     simp only[hl',Bool.not_false,I2,IT,Jy]
     rw[Array.all_eq_true_iff_forall_mem]
     intro e he
     cases hb:Region.binds .any e with
     |false=>simp
     |true=>
      have hlt:=MJ hreg ho e he hb
      simp[ih e.on hlt (by omega)]
    rw[hr] at hmem
    simp at hmem
 have finish:∀(listed:Array Bool) (a:Act) (w:yy) (g:Gh) (s:St),listed.size=ops.size->(∀k,esc k=true->listed.getD k false=O)->(∀i,i<ops.size->listed.getD i false=true)->(sts (listed.getD fr false))[EN items (fun i=>listed.getD i false)]?=G s->
   J g->FI E g s (FG items (fun i=>listed.getD i false) env0) a w->Q .normal a w:=by
  intro listed a w g s hsz hes hall hs hj hf
  have e1:FG items (fun i=>listed.getD i false) env0=CD items env0:=by
   have:=Mn items ops.size env0
   rw[Iw (by omega)] at this
   rw[←this]
   apply List.ext_getElem?
   intro t
   refine DP _ _ _ (fun x hx _=>?_) rfl
   have hx2:=(HT.1 (mem_zipIdx hx)).1
   rw[hall x.2 (by omega)];simp;omega
  have e2:EN items (fun i=>listed.getD i false)=EO items:=by
   have:=K7 items ops.size
   rw[Iw (by omega)] at this
   rw[←this]
   refine ED _ _ (fun x hx _=>?_)
   have hx2:=(HT.1 (mem_zipIdx hx)).1
   rw[hall x.2 (by omega)];simp;omega
  have e3:listed.getD fr false=Y (fr<ops.size):=by
   by_cases hfr:fr<ops.size
   ·rw[hall fr hfr];simp[hfr]
   ·rw[Jk,Array.getElem?_eq_none (by omega)];simp[hfr]
  rw[e1] at hf
  rw[e2,e3] at hs
  exact hfin (fun i hi=>by
   cases he:esc i with
   |false=>rfl
   |true=>have:=hes i he;rw[hall i hi] at this;simp at this) g a w hj ⟨s,hs,hf⟩
 intro fuel
 induction fuel with
 |zero=>
  intro listed a w g s hsz hpl hes hdc hcount hs hj hf
  have hall:∀i,i<ops.size->listed.getD i false=true:=by
   intro i hi
   cases hl:listed.getD i false with
   |true=>rfl
   |false=>
    have hm:i∈ (List.range ops.size).filter fun i=> !listed.getD i false:=mem_filter.2 ⟨by simpa using hi,by simp[hl]⟩
    have hnil:=Js hcount
    rw[hnil] at hm
    simp at hm
  refine⟨?_,finish listed a w g s hsz hes hall hs hj hf⟩
  unfold Region.ready
  rw[List.filter_eq_nil_iff]
  intro i hi
  have hi':i<ops.size:=by simpa using hi
  have:=hall i hi'
  have ht:listed.getD i true=true:=by
   rw[Jk] at this⊢
   have h':listed[i]?=G listed[i]:=by simp[hsz,hi']
   rw[h'] at this⊢;exact this
  simp[ht]
 |succ fuel ih=>
  intro listed a w g s hsz hpl hes hdc hcount hs hj hf
  refine⟨fun hr=>finish listed a w g s hsz hes (done_ listed hsz hr) hs hj hf,fun i hi=>?_⟩
  -- an operation that is ready
  unfold Region.ready at hi
  rw[mem_filter] at hi
  obtain⟨hi1,hi2⟩:=hi
  have hi':i<ops.size:=by simpa using hi1
  have ho:ops[i]?=G ops[i]:=by simp[hi']
  generalize hoo:ops[i]=o at ho
  rw[ho] at hi2
  simp only[HR,IJ,IT,Jy] at hi2
  obtain⟨hnl,hall⟩:=hi2
  have hnl':listed.getD i false=O:=by
   rw[Jk] at hnl⊢
   have h':listed[i]?=G listed[i]:=by simp[hsz,hi']
   rw[h'] at hnl⊢;exact hnl
  have hready:∀e∈o.after,Region.binds .any e=true->listed.getD e.on false=true:=by
   intro e he hb
   have:=Array.all_eq_true_iff_forall_mem.1 hall e he
   simpa[hb] using this
  by_cases hei0:esc i=true
  ·exact hesc fuel listed a w g s i o ho hei0 hsz hpl hes hdc hcount hready hs hj hf
  have hpre:=EX hdc ho hready
  have hpost:=fun(j:Nat) (hs:listed.getD j false=true)=>Gi (S:=fun i=>listed.getD i false) hdc hs
  obtain⟨d,b,hit,hcase⟩:=hfact i o ho
  have hil:i<I items:=by omega
  -- every other operation that shares a slot is ordered with it
  have opAt:∀(k:Nat) (x:It),items[k]?=G x->∃ok,ops[k]?=G ok/\x.1=ok.dst:=by
   intro k x hk
   have hkl:k<ops.size:=by have:=(HT.1 hk).1;omega
   have hok:ops[k]?=G ops[k]:=by simp[hkl]
   obtain⟨d',b',h1,_⟩:=hfact k _ hok
   rw[hk] at h1
   simp at h1
   exact⟨_,hok,by rw[h1]⟩
  have lt_listed:∀(k:Nat) (ok:yw),ops[k]?=G ok->k<i->(FW ops ok o=true∨(effs.getD k false=true/\effs.getD i false=true))->listed.getD k false=true:=
   fun k ok hk hlt hc=>hpre k (DJ hreg hk ho hlt hc)
  have gt_not:∀(k:Nat) (ok:yw),ops[k]?=G ok->i<k->(FW ops o ok=true∨(effs.getD i false=true/\effs.getD k false=true))->listed.getD k false=O:=by
   intro k ok hk hlt hc
   cases hl:listed.getD k false with
   |false=>rfl
   |true=>
    have:=hpost k hl i (DJ hreg ho hk hlt hc)
    simp only[hnl'] at this
    exact absurd this (by simp)
  have agree:∀t∈EY ops o,(FG items (fun i=>listed.getD i false) env0)[t]?=(CD (items.take i) env0)[t]?:=by
   intro t ht
   rw[←Mn]
   refine DP _ _ _ (fun x hx hxt=>?_) rfl
   have hx2:=mem_zipIdx hx
   obtain⟨ok,hok,hdst⟩:=opAt x.2 x.1 hx2
   rw[hdst] at hxt
   rcases Nat.lt_trichotomy x.2 i with h|h|h
   ·rw[lt_listed x.2 ok hok h (.inl (by unfold FW;simp[hxt,ht]))];simp[h]
   ·rw[h,hnl'];simp
   ·rw[gt_not x.2 ok hok h (.inl (by unfold FW;simp[hxt,ht]))];simp;omega
  have hlast:∀(k:Nat) (x:It),items[k]?=G x->listed.getD k false=true->i<k->o.dst=none∨x.1≠o.dst:=by
   intro k x hk hl hlt
   cases hd:o.dst with
   |none=>exact .inl rfl
   |some t=>
    refine .inr fun e=>?_
    obtain⟨ok,hok,hdst⟩:=opAt k x hk
    have:=gt_not k ok hok hlt (.inl (by unfold FW;simp[hd, ←hdst,e]))
    rw[this] at hl
    simp at hl
  have hadd:=ON (S:=fun i=>listed.getD i false) (env0:=env0) hit hnl' hlast
  have hcadd:=OV (S:=fun i=>listed.getD i false) hit hnl'
  have hS':(fun k=>(listed.setIfInBounds i true).getD k false)=fun k=>listed.getD k false||k==i:=by
   funext k
   simp only[Jk,Array.getElem?_setIfInBounds]
   by_cases hk:i=k
   ·subst hk;simp[hsz,hi']
   ·simp[hk,Ne.symm hk]
  have hcnt':I ((List.range ops.size).filter fun k=> !(listed.setIfInBounds i true).getD k false)=fuel:=by
   have e1:(List.range ops.size).filter (fun k=> !(listed.setIfInBounds i true).getD k false)=((List.range ops.size).filter fun k=> !listed.getD k false).filter (fun k=>k !=i):=by
    rw[List.filter_filter]
    refine List.filter_congr fun k _=>?_
    have:=congrFun hS' k
    rw[this]
    cases listed.getD k false<;>cases hk:(k==i)<;>simp_all
   rw[e1]
   have hnd:((List.range ops.size).filter fun k=> !listed.getD k false).Nodup:=List.filter_sublist.nodup List.nodup_range
   have hm:i∈ (List.range ops.size).filter fun k=> !listed.getD k false:=mem_filter.2 ⟨hi1,by simp[hnl']⟩
   have hf1:=hnd.erase_eq_filter i
   rw[←hf1,List.length_erase_of_mem hm,hcount];rfl
  have hdc':DC ops (fun k=>(listed.setIfInBounds i true).getD k false):=by
   rw[hS']
   intro k ok hk hsk e he hb
   simp only[Bool.or_eq_true,I4] at hsk⊢
   rcases hsk with hsk|rfl
   ·exact .inl (hdc k ok hk hsk e he hb)
   ·rw[ho] at hk;simp at hk;subst hk
    exact .inl (hready e he hb)
  -- the count of effects so far
  have hcb:b=true->EN items (fun k=>listed.getD k false)=EO (items.take i):=by
   intro hbt
   rw[←K7]
   have hei:effs.getD i false=true:=by rw[heff,HY,I9,hit];simp[hbt]
   refine ED _ _ (fun x hx hxb=>?_)
   have hx2:=mem_zipIdx hx
   obtain⟨ok,hok,_⟩:=opAt x.2 x.1 hx2
   have hex:effs.getD x.2 false=true:=by rw[heff,HY,I9,hx2];simp[hxb]
   rcases Nat.lt_trichotomy x.2 i with h|h|h
   ·rw[lt_listed x.2 ok hok h (.inr ⟨hex,hei⟩)];simp[h]
   ·rw[h,hnl'];simp
   ·rw[gt_not x.2 ok hok h (.inr ⟨hei,hex⟩)];simp;omega
  have hpl':∀k,pl k=true->(listed.setIfInBounds i true).getD k false=true:=fun k hk=>by
   have:=congrFun hS' k
   rw[this,hpl k hk];simp
  have hes':∀k,esc k=true->(listed.setIfInBounds i true).getD k false=O:=fun k hk=>by
   have:=congrFun hS' k
   rw[this,hes k hk]
   have hki:k≠i:=fun e=>hei0 (e▸hk)
   simpa using hki
  have hw:=L1 agree
  have hev:=K3 agree
  have next:∀(g':Gh) (a':Act) (w':yy) (s':St),(sts ((listed.setIfInBounds i true).getD fr false))[EN items (fun k=>(listed.setIfInBounds i true).getD k false)]?=G s'->J g'->FI E g' s' (CG (FG items (fun k=>listed.getD k false) env0) o.dst d) a' w'->wpAny P .any ops Q fuel (listed.setIfInBounds i true) a' w':=by
   intro g' a' w' s' hs' hj' hf'
   refine ih _ a' w' g' s' (by simp[hsz]) hpl' hes' hdc' hcnt' hs' hj' ?_
   rw[hS',hadd];exact hf'
  unfold wpOp
  rw[ho]
  simp only
  have hflag:i≠fr->(listed.setIfInBounds i true).getD fr false=listed.getD fr false:=by
   intro hne
   have:=congrFun hS' fr
   rw[this]
   have:(fr==i)=O:=by simpa using Ne.symm hne
   rw[this,Bool.or_false]
  rcases hcase with⟨hwant,rfl,rfl,hne⟩|⟨hwant,rfl,hne,hop⟩|⟨hwant,rfl,hne,hop⟩|⟨hwant,rfl,hfr,hop⟩|⟨hp,_⟩|⟨he,_⟩
  ·rw[Ij (by rw[Ca hf.env (hw.trans hwant)];simp)]
   refine next g _ w s ?_ hj (hf.put hf.wi g.le_refl (Kp g) o.dst)
   rw[hflag hne,hS',hcadd];simpa using hs
  ·rw[Io (Ca hf.env (hw.trans hwant))]
   refine .inl ?_
   rw[←hev] at hop
   have hlim:∀lim,(lims[i]?).bind (·.2)=G lim->EN items (fun k=>listed.getD k false)<=lim:=by
    intro lim hlm
    have hil2:i<I lims:=by
     have:I lims=I items:=by have:=Iq I (hle.symm.trans heff);simpa using this
     omega
    have h1:=ID.1 hwin i (by simpa using hil2)
    rw[hlm] at h1
    obtain⟨e,_,h2⟩:=List.any_eq_true.1 h1
    simp only[HR,Ia, ←hle] at h2
    obtain⟨⟨h3,h4⟩,h5⟩:=h2
    have hnote:listed.getD e false=O:=by
     cases hl:listed.getD e false with
     |false=>rfl
     |true=>have:=hpost e hl i h5;simp only[hnl'] at this;exact absurd this (by simp)
    rw[heff, ←List.map_take, ←Ns] at h4
    rw[←h4, ←K7]
    refine Zo fun k x hk hx hS=>?_
    obtain⟨ok,hok,_⟩:=opAt k x hk
    have hex:effs.getD k false=true:=by rw[heff,HY,I9,hk];simp[hx]
    rcases Nat.lt_trichotomy k e with h|h|h
    ·simp[h]
    ·subst h;simp only[hnote] at hS;exact absurd hS (by simp)
    ·have hek:e<ops.size:=by have:=(IM.1 hok).1;omega
     have:=hpost k hS e (DJ hreg (show ops[e]?=G ops[e] by simp[hek]) hok h (.inr ⟨h3,hex⟩))
     simp only[hnote] at this;exact absurd this (by simp)
   refine hop _ _ s hs hlim E g a w _ _ hf.wi (DH hf.wi.rep.gl hf.env _) fun g' w' u h1 h2 h3=>?_
   refine next g' _ w' s ?_ (hJ g g' h2 hj) (hf.put h1 h2 h3 o.dst)
   rw[hflag hne,hS',hcadd];simpa using hs
  ·rw[Io (Ca hf.env (hw.trans hwant))]
   refine .inl ?_
   rw[hcb rfl] at hs
   rw[←hev] at hop
   obtain⟨s2,hs2,hop2⟩:=hop _ s hs (fun hb=>by
    cases hn:FO ops i fr with
    |false=>rfl
    |true=>have:=hpre fr hn;rw[hb] at this;exact absurd this (by simp))
   refine hop2 E g a w _ _ hf.wi (DH hf.wi.rep.gl hf.env _) fun g' w' u h1 h2 h3=>?_
   refine next g' _ w' s2 ?_ (hJ g g' h2 hj) (hf.put h1 h2 h3 o.dst)
   rw[hflag hne,hS',hcadd,hcb rfl];simpa using hs2
  ·rw[Io (Ca hf.env (hw.trans hwant))]
   refine .inl ?_
   rw[←hfr,hnl'] at hs
   rw[←hev] at hop
   obtain⟨s2,hs2,hop2⟩:=hop _ s hs
   refine hop2 E g a w _ _ hf.wi (DH hf.wi.rep.gl hf.env _) fun g' w' u h1 h2 h3=>?_
   refine next g' _ w' s2 ?_ (hJ g g' h2 hj) (hf.put h1 h2 h3 o.dst)
   have hset:(listed.setIfInBounds i true).getD fr false=true:=by
    have:=congrFun hS' fr
    rw[this, ←hfr];simp
   rw[hset,hS',hcadd];simpa using hs2
  ·have:=hpl i hp;rw[hnl'] at this;simp at this
  ·exact absurd he hei0
theorem Abh{listed:Array Bool}{i:Nat}(hi:i<listed.size):(fun k=>(listed.setIfInBounds i true).getD k false)=fun k=>listed.getD k false||k==i:=by
 funext k
 simp only[Jk,Array.getElem?_setIfInBounds]
 by_cases hk:i=k
 ·subst hk;simp[hi]
 ·simp[hk,Ne.symm hk]
theorem Ajx{ops:Array yw}{S:Nat->Bool}(h:DC ops S){i:Nat}{o:yw}(ho:ops[i]?=G o)(hr:∀e∈o.after,Region.binds .any e=true->S e.on=true):DC ops (fun k=>S k||k==i):=by
 intro k ok hk hsk e he hb
 simp only[Bool.or_eq_true,I4] at hsk⊢
 rcases hsk with hsk|rfl
 ·exact .inl (h k ok hk hsk e he hb)
 ·rw[ho] at hk;simp at hk;subst hk
  exact .inl (hr e he hb)
theorem Agj{n fuel i:Nat}{S:Nat->Bool}(hi:i<n)(hS:S i=O)(hc:I ((List.range n).filter fun k=> !S k)=fuel+1):I ((List.range n).filter fun k=> !(S k||k==i))=fuel:=by
 have e1:(List.range n).filter (fun k=> !(S k||k==i))=((List.range n).filter fun k=> !S k).filter (fun k=>k !=i):=by
  rw[List.filter_filter]
  refine List.filter_congr fun k _=>?_
  cases S k<;>cases hk:(k==i)<;>simp_all
 rw[e1]
 have hnd:((List.range n).filter fun k=> !S k).Nodup:=List.filter_sublist.nodup List.nodup_range
 have hm:i∈ (List.range n).filter fun k=> !S k:=mem_filter.2 ⟨by simpa using hi,by simp[hS]⟩
 have hf1:=hnd.erase_eq_filter i
 rw[←hf1,List.length_erase_of_mem hm,hc];rfl
theorem Me{S:Nat->Bool}:∀(l l':List It) (s:Nat) (e:List D),I l=I l'->(∀k,S (s+k)=true->l[k]?=l'[k]?)->(l.zipIdx s).foldl (BQ S) e=(l'.zipIdx s).foldl (BQ S) e
 |[],[],_,_,_,_=>rfl
 |[],_::_,_,_,h,_=>by simp at h
 |_::_,[],_,_,h,_=>by simp at h
 |x::l,y::l',s,e,h,hS=>by
  simp only[List.zipIdx_cons,Jo]
  have e1:BQ S e (x,s)=BQ S e (y,s):=by
   unfold BQ
   cases hs:S s with
   |false=>simp
   |true=>have:=hS 0 (by simpa using hs);simp at this;rw[this]
  rw[e1]
  exact Me l l' (s+1) _ (by simpa using h) fun k hk=>by have:=hS (k+1) (by rw[show s+(k+1)=s+1+k by omega];exact hk);simpa using this
theorem Mf{S:Nat->Bool}:∀(l l':List It) (s:Nat) (e:Nat),I l=I l'->(∀k,S (s+k)=true->l[k]?=l'[k]?)->(l.zipIdx s).foldl (BM S) e=(l'.zipIdx s).foldl (BM S) e
 |[],[],_,_,_,_=>rfl
 |[],_::_,_,_,h,_=>by simp at h
 |_::_,[],_,_,h,_=>by simp at h
 |x::l,y::l',s,e,h,hS=>by
  simp only[List.zipIdx_cons,Jo]
  have e1:BM S e (x,s)=BM S e (y,s):=by
   unfold BM
   cases hs:S s with
   |false=>simp
   |true=>have:=hS 0 (by simpa using hs);simp at this;rw[this]
  rw[e1]
  exact Mf l l' (s+1) _ (by simpa using h) fun k hk=>by have:=hS (k+1) (by rw[show s+(k+1)=s+1+k by omega];exact hk);simpa using this
structure rh(ops:Array yw)(ef:List Ef)(it:List It):Prop where
 reg:PN ops (ef.map (·.1))=true
 win:Wu ops ef=true
 len:I it=ops.size
 eff:ef.map (·.1)=it.map (·.2.2)
def F9(ops:Array yw)(i j k:Nat):Bool:=k==i||(k==j||(FO ops k i||FO ops k j))
end
section
variable {C : co -> co -> Prop} {P : x4} {R : List D -> St -> Prop} {k : List KI} {env : List D} {σ : St}
theorem V1{ops:Array yw}{effs:List Bool}{items:List It}{env0:List D}(hreg:PN ops effs=true)(_:I items=ops.size)(opAt:∀(k:Nat) (x:It),items[k]?=G x->∃ok,ops[k]?=G ok/\x.1=ok.dst){S:Nat->Bool}{i:Nat}{o:yw}(ho:ops[i]?=G o)(hdc:DC ops S)(hready:∀e∈o.after,Region.binds .any e=true->S e.on=true)(hnl:S i=O):∀t∈EY ops o,(FG items S env0)[t]?=(CD (items.take i) env0)[t]?:=by
 have hpre:=EX hdc ho hready
 have hpost:=fun(j:Nat) (hs:S j=true)=>Gi (S:=S) hdc hs
 intro t ht
 rw[←Mn]
 refine DP _ _ _ (fun x hx hxt=>?_) rfl
 have hx2:=mem_zipIdx hx
 obtain⟨ok,hok,hdst⟩:=opAt x.2 x.1 hx2
 rw[hdst] at hxt
 rcases Nat.lt_trichotomy x.2 i with h|h|h
 ·rw[hpre x.2 (DJ hreg hok ho h (.inl (by unfold FW;simp[hxt,ht])))];simp[h]
 ·rw[h,hnl];simp
 ·have:S x.2=O:=by
   cases hl:S x.2 with
   |false=>rfl
   |true=>
    have:=hpost x.2 hl i (DJ hreg ho hok h (.inl (by unfold FW;simp[hxt,ht])))
    rw[hnl] at this
    exact absurd this (by simp)
  rw[this];simp;omega
structure ZX(P:x4)(ops:Array yw)(i j:Nat)(oi:yw)(env:List D)(st0:List St)(it0:List It)(s1:Bool->List St)(it1:List It)(ef1:List Ef)(d1:D):Prop where
 ok:rh ops ef1 it1
 fact:∀k o,ops[k]?=G o->QO P ops s1 j (fun k=>k==i) (fun _=>false) it1 ef1 env k o
 go:∀(c:Nat) (s:St),st0[c]?=G s->∃s',(s1 false)[c]?=G s'/\Ay P oi (E2 (CD (it1.take i) env) oi) s d1 s'
 it:it1[i]?=G (oi.dst,d1,false)
 uniq:∀(k:Nat) (x:It),it1[k]?=G x->k≠i->x.1≠oi.dst
 agree:∀k,F9 ops i j k=O->it0[k]?=it1[k]?
set_option maxHeartbeats 2000000 in
theorem T8{ops:Array yw}{i j:Nat}{oi:yw}{env:List D}{st0:List St}{it0 it1:List It}{s1:Bool->List St}{ef1:List Ef}{d1:D}{E:co}{Q:Exit->Act->yy->Prop}(h:ZX P ops i j oi env st0 it0 s1 it1 ef1 d1)(hij:i≠j)(hjs:j<ops.size)(hl0:I it0=ops.size)(hoi:ops[i]?=G oi)(hgi:oi.guard=none)
  (hfin:∀g a w,(∃s,(s1 true)[EO it1]?=G s/\FI E g s (CD it1 env) a w)->Q .normal a w)
  (fuel:Nat) (listed:Array Bool) (a:Act) (w:yy) (g:Gh) (s:St) (hsz:listed.size=ops.size) (hes:∀k,F9 ops i j k=true->listed.getD k false=O) (hdc:DC ops (fun i=>listed.getD i false))
  (hcount:I ((List.range ops.size).filter fun i=> !listed.getD i false)=fuel+1) (hready:∀e∈oi.after,Region.binds .any e=true->listed.getD e.on false=true)
  (hs:st0[EN it0 (fun i=>listed.getD i false)]?=G s) (hf:FI E g s (FG it0 (fun i=>listed.getD i false) env) a w):wpOp P ops Q i (wpAny P .any ops Q fuel (listed.setIfInBounds i true)) a w:=by
 have hi':i<ops.size:=(IM.1 hoi).1
 have hnl:listed.getD i false=O:=hes i (by simp[F9])
 have hnj:listed.getD j false=O:=hes j (by simp[F9])
 have hag:∀k,listed.getD k false=true->it0[k]?=it1[k]?:=fun k hk=>h.agree k (by
  cases he:F9 ops i j k with
  |false=>rfl
  |true=>rw[hes k he] at hk;simp at hk)
 have hE:FG it0 (fun i=>listed.getD i false) env=FG it1 (fun i=>listed.getD i false) env:=Me _ _ 0 _ (hl0.trans h.ok.len.symm) fun k hk=>hag k (by simpa using hk)
 have hC:EN it0 (fun i=>listed.getD i false)=EN it1 (fun i=>listed.getD i false):=Mf _ _ 0 _ (hl0.trans h.ok.len.symm) fun k hk=>hag k (by simpa using hk)
 rw[hE] at hf
 rw[hC] at hs
 have hS:=Abh (listed:=listed) (i:=i) (by omega)
 have hadd:=ON (S:=fun i=>listed.getD i false) (env0:=env) h.it hnl (fun k x hk _ hlt=>.inr (h.uniq k x hk (by omega)))
 have hcadd:=OV (S:=fun i=>listed.getD i false) h.it hnl
 obtain⟨s',hs',hop⟩:=h.go _ s hs
 unfold wpOp
 rw[hoi]
 simp only
 rw[Io (Ca (b:=true) hf.env (by unfold C0;rw[hgi]))]
 rw[←K3 (V1 h.ok.reg h.ok.len (fun k x hk=>by
  have hk':k<ops.size:=by have:=(HT.1 hk).1;have:=h.ok.len;omega
  have ho:ops[k]?=G ops[k]:=by simp[hk']
  obtain⟨d,b,e,_⟩:=h.fact k _ ho
  rw[hk] at e;simp at e
  exact⟨_,ho,by rw[e]⟩) hoi hdc hready hnl)] at hop
 refine .inl (hop E g a w _ _ hf.wi (DH hf.wi.rep.gl hf.env _) fun g' w' u h1 h2 h3=>?_)
 refine Ly (pl:=fun k=>k==i) (esc:=fun _=>false) (sts:=s1) (fr:=j) (items:=it1) (effs:=ef1.map (·.1)) (lims:=ef1) (env0:=env) (E:=E) (J:=fun _=>True) (fun _ _ _ _=>trivial) h.ok.reg h.ok.win rfl h.ok.len h.ok.eff h.fact
  (fun _ _ _ _ _ _ _ _ _ he=>by simp at he) (fun _ g a w _ hx=>hfin g a w (by rwa[HS hjs] at hx)) fuel _ _ w' g' s' (by simp[hsz]) ?_ (fun k hk=>by simp at hk) ?_ ?_ ?_ trivial ?_
 ·intro k hk
  have:=congrFun hS k
  rw[this];simp at hk;simp[hk]
 ·rw[hS];exact Ajx hdc hoi hready
 ·have:=Agj (S:=fun i=>listed.getD i false) hi' hnl hcount
  rw[←this]
  congr 1
  exact List.filter_congr fun k _=>by rw[congrFun hS k]
 ·have hj:(listed.setIfInBounds i true).getD j false=O:=by
   have:=congrFun hS j
   rw[this,hnj];simp;exact fun e=>hij e.symm
  rw[hj,hS,hcadd];simpa using hs'
 ·rw[hS,hadd]
  exact hf.put h1 h2 h3 oi.dst
set_option maxHeartbeats 2000000 in
theorem UK{id:Nat}{ops:Array yw}(hm:P.follows .mixedOrders=true){i j:Nat}{oi oj:yw}(hij:i≠j)(hoi:ops[i]?=G oi)(hoj:ops[j]?=G oj)(hgi:oi.guard=none)(hgj:oj.guard=none)
  {ef0 ef1 ef2:List Ef} {it0 it1 it2:List It} {st0:List St} {s1 s2:Bool->List St} {d1 d2:D} {σ1 σ2:St} (r0:rh ops ef0 it0) (f0:∀k o,ops[k]?=G o->QO P ops (fun _=>st0) ops.size (fun _=>false) (F9 ops i j) it0 ef0 env k o) (h0:st0[0]?=G σ)
  (c1:ZX P ops i j oi env st0 it0 s1 it1 ef1 d1) (c2:ZX P ops j i oj env st0 it0 s2 it2 ef2 d2) (e1:(s1 true)[EO it1]?=G σ1) (e2:(s2 true)[EO it2]?=G σ2) (k1:AI C P R k (CD it1 env) σ1) (k2:AI C P R k (CD it2 env) σ2):
  AI C P R (.code (.region id ops true)::k) env σ:=fun E0 E g a w B hCC hfi hB=>by
 simp only[KQ]
 refine wp_region_any hm ?_
 have hi':i<ops.size:=(IM.1 hoi).1
 have hj':j<ops.size:=(IM.1 hoj).1
 have hS0:(fun i=>(Array.replicate ops.size false).getD i false)=fun _=>false:=by
  funext i
  simp only[Jk,Array.getElem?_replicate]
  split<;>rfl
 have he0:∀(l:List (It×Nat)) (e:List D),l.foldl (BQ fun _=>false) e=e:=by
  intro l;induction l with
  |nil=>intro e;rfl
  |cons x l ih=>intro e;simp only[Jo];rw[show BQ (fun _=>false) e x=e from by simp[BQ]];exact ih e
 have hc0:∀(l:List (It×Nat)) (c:Nat),l.foldl (BM fun _=>false) c=c:=by
  intro l;induction l with
  |nil=>intro e;rfl
  |cons x l ih=>intro e;simp only[Jo];rw[show BM (fun _=>false) e x=e from by simp[BM]];exact ih e
 have hfi':FI E g σ env a { w with drawn:=w.drawn+1 }:=⟨hfi.wi.drew,hfi.env,hfi.defers⟩
 have hesym:∀k,F9 ops i j k=F9 ops j i k:=fun k=>by
  unfold F9;cases(k==i)<;>cases(k==j)<;>cases FO ops k i<;>cases FO ops k j<;>rfl
 refine Ly (pl:=fun _=>false) (esc:=F9 ops i j) (sts:=fun _=>st0) (fr:=ops.size) (items:=it0) (effs:=ef0.map (·.1)) (lims:=ef0) (env0:=env) (E:=E) (J:=fun _=>True) (fun _ _ _ _=>trivial) r0.reg r0.win rfl r0.len r0.eff f0
  (fun fuel listed a w g s n o ho he hsz _ hes hdc hcount hready hs _ hf=>?_) (fun he g a w _ _=>?_) ops.size _ a _ g σ (by simp) (fun k hk=>by simp at hk) (fun k _=>congrFun hS0 k) ?_ ?_ ?_ trivial ?_
 ·by_cases hni:n=i
  ·subst hni
   rw[hoi] at ho;simp at ho;subst ho
   exact T8 c1 hij hj' r0.len hoi hgi (fun g a w ⟨s,hs,hf⟩=>by rw[e1] at hs;simp at hs;subst hs;exact k1 E0 E g a w B hCC hf hB) fuel listed a w g s hsz hes hdc hcount hready hs hf
  ·by_cases hnj:n=j
   ·subst hnj
    rw[hoj] at ho;simp at ho;subst ho
    exact T8 c2 (Ne.symm hij) hi' r0.len hoj hgj (fun g a w ⟨s,hs,hf⟩=>by rw[e2] at hs;simp at hs;subst hs;exact k2 E0 E g a w B hCC hf hB) fuel listed a w g s hsz (fun k hk=>hes k (by rw[hesym];exact hk)) hdc hcount hready hs hf
   ·exfalso
    have hpre:=EX hdc ho hready
    have e3:(n==i)=O:=by simpa using hni
    have e4:(n==j)=O:=by simpa using hnj
    simp only[F9,e3,e4,Bool.false_or,Bool.or_eq_true] at he
    rcases he with he|he
    ·have:=hpre i he
     rw[hes i (by simp[F9])] at this;simp at this
    ·have:=hpre j he
     rw[hes j (by simp[F9])] at this;simp at this
 ·have:=he i hi'
  simp[F9] at this
 ·intro k o _ hs
  rw[hS0] at hs
  simp at hs
 ·have:(List.range ops.size).filter (fun i=> !(Array.replicate ops.size false).getD i false)=List.range ops.size:=by
   rw[List.filter_eq_self]
   intro i _
   have:=congrFun hS0 i
   rw[this];rfl
  rw[this];simp
 ·rw[hS0]
  simp only[EN,hc0];exact h0
 ·rw[hS0]
  simp only[FG,he0];exact hfi'
end
end Go.Dv

namespace Go.Proofs.YthmjfmacdlhfjaaGreat
open Go.Dv Go.Nv
set_option maxRecDepth 20000
open List (all_cons all_nil length length_set map replicate take take_append_drop)
open Go.IntKind (u64)
open Go.IntKind renaming wrap → yr, i64 → yq
open List renaming length → I, map → U, drop → W
open Option renaming some → G
open Bool renaming true → J, false → O
open Decidable renaming decide → Y
open Int renaming toNat → Z
open Go.Dv.V renaming list → ai, str → ae, agg → ab, int → aa, ref → bz, fn → bw, nils → bv, bool → bu
open Go.Dv.D renaming v → bt, acc → br, ptr → bq, arr → bo, gro → bm, tup → bl, undef → bk, dagg → bj
open Go.Dv.St renaming mk → bi
open Go.Dv.KI renaming blk → bh
open _root_.ByteArray renaming mk → bg
open Go renaming Operand → x5, Program → x4, TypeId → yz, World → yy, Value → yx, Oper → yw, FuncId → yv, Func → yu, IntKind → yt
noncomputable abbrev io:=Tryz.f91
noncomputable def QT:=yj io
theorem LD{P:x4}{f:yv}{ds:List D}{sz:Nat}(h0:0<sz)(h:Aa P f ds ⟨[],[]⟩ (.v .nils) ⟨[],[]⟩):Aa P f ds ⟨[],[]⟩ (.acc 1 []) ⟨[],[(1,sz,[])]⟩:=by
 refine⟨h.1,fun g w args hw ha=>Calls.mono (h.2 g w args hw ha) ?_⟩
 rintro e w' ⟨u,g',rfl,hw',hr⟩
 simp only[Av,C4] at hr
 subst hr
 obtain⟨hw1,hle1⟩:=hw'.addOwn (k:=1) (sz:=sz) (xs:=[]) (u:=.slice none 0 0) (by simp) ⟨h0,by simp⟩ (Dm _) (.inl ⟨none,rfl⟩) (fun b hb=>by simp[Cn] at hb)
 exact⟨_,_,rfl,hw1,by simp only[Av];exact⟨Dm _,by simp⟩⟩
theorem Adk(l:List Int)(hl:I l<=100000):Aa PP 85 [cy l] bf (.acc 1 (l.map vi)) ⟨[],[(1,1,l.map vi)]⟩:=by
 by_cases h:l=[]
 ·subst h
  refine NP (ds:=[]) (ds':=[]) fun a cap=>?_
  cases a with
  |none=>
   refine LD (by decide) ?_
   refine sv Q3 8 [] .rn (Q (dn)) ?_
   rfl
  |some a=>
   refine sv Q3 8 [] (.a 1<|.h (.q 3 2)<|.h (.un 6)<|.r) (Q nV/\A9 0 8/\Q [(1,1,nV)]/\Q (br 1 [])) ⟨rfl,⟨by simp,by simp⟩,rfl,rfl⟩
 ·exact sv Q3 8 [] (.a 1<|.w .r) (U vi l≠ []/\Q nV/\A9 (I nV+I (U vi l)) 8/\(∀(y:V),y∈U vi l->V.size y=1)/\Q [(1,1,U vi l)]/\Q (br 1 (U vi l))) ⟨by simpa using h,rfl,⟨by simp;omega,by simp;omega⟩,CT l,rfl,rfl⟩
theorem Adi(l:List Nd)(hl:I l<=100000):Aa PP 148 [.v (AX l)] bf (.acc 1 (l.map cm)) ⟨[],[(1,2,l.map cm)]⟩:=by
 by_cases h:l=[]
 ·subst h
  refine NP (ds:=[]) (ds':=[]) fun a cap=>?_
  cases a with
  |none=>
   refine LD (by decide) ?_
   refine sv qn 8 [] .rn (Q (dn)) ?_
   rfl
  |some a=>
   refine sv qn 8 [] (.a 1<|.h (.q 3 2)<|.h (.un 6)<|.r) (Q nV/\A9 0 32/\Q [(1,2,nV)]/\Q (br 1 [])) ⟨rfl,⟨by simp,by simp⟩,rfl,rfl⟩
 ·exact sv qn 8 [] (.a 1<|.w .r) (U cm l≠ []/\Q nV/\A9 (I nV+I (U cm l)) 32/\(∀(y:V),y∈U cm l->V.size y=2)/\Q [(1,2,U cm l)]/\Q (br 1 (U cm l))) ⟨by simpa using h,rfl,⟨by simp;omega,by simp;omega⟩,Hz l,rfl,rfl⟩
theorem Adj(l:List Int)(hl:I l<=100000)(h:l≠ []):Aa PP 85 [cy l] bf (.gro 1 (I l) 1) ⟨[none,G (cb l)],[]⟩:=by
 refine sv Q3 8 [] (.h .g<|.ro) (U vi l≠ []/\Q 0/\U vi l≠ []/\(∀(y:V),y∈U vi l->V.size y=1)/\A9 (0+I (U vi l)) 8/\cp 2 [] [none,G ([]++Ad (U vi l))]=J/\[none,G ([]++Ad (U vi l))]=[none,G (cb l)]/\bm 1 (0+I (U vi l)) 1=bm 1 (I l) 1) ⟨by simpa using h,rfl,by simpa using h,CT l,⟨by simp;omega,by simp;omega⟩,?_,?_,?_⟩
 ·rw[OK];exact O3 l
 ·simp[OK]
 ·simp
theorem Am7(l:List Nd)(hl:I l<=1000)(w:List Int)(x:Int)(ks:List Int)(hw:w=x::ks)(hk:I ks<=1000):F0 91 [.v (AX l),cy [],cy w] (.v (AX (l++[⟨x,ks⟩]))):=by
 have h:Aa PP 91 [.v (AX l),cy [],cy w] bf (.acc 1 (l.map cm++[cm ⟨x,ks⟩])) ⟨[],[(1,2,l.map cm++[cm ⟨x,ks⟩])]⟩:=by
  exact sv io 91 [] (.h (.ck 1 1 2 (l.map cm))<|.k<|.c (.v (.agg [vi x,cz ks]))<|.r) (_/\_/\Q (U cm l)/\A9 (I (U cm l)+I (ab (vi x::cz ks::nV)::nV)) 32/\Q [(1,2,U cm l++cm (Nd.mk x ks)::nV)]/\Q (br 1 (U cm l++[cm (Nd.mk x ks)]))) ⟨Adi l (by omega),AbV w x ks hw hk,rfl,⟨by simp only[HP,HV,HZ];omega,by simp only[HP,HV,HZ];omega⟩,rfl,rfl⟩
 have:=Di h
 rwa[show l.map cm++[cm ⟨x,ks⟩]=(l++[(⟨x,ks⟩:Nd)]).map cm by rw[Jq];rfl] at this
theorem JV{P:x4}{f:yv}{ds:List D}{σ σ1 σ2:St}{d d2:D}(h:Aa P f ds σ d σ1)(hc:Cv [d] σ1 [d2] σ2):Aa P f ds σ d2 σ2:=by
 refine⟨h.1,fun g w args hw ha=>Calls.mono (h.2 g w args hw ha) ?_⟩
 rintro e w' ⟨u,g',rfl,hw',hr⟩
 obtain⟨g2,hf⟩:=hc ⟨g,w,σ⟩ g' ⟨#[u],[]⟩ w' ⟨hw',by simpa[Ar] using hr,rfl⟩
 exact⟨u,g2,rfl,hf.wi,by simpa[Ar] using hf.env⟩
theorem LC{P:x4}{f:yv}{ds:List D}{σ1:St}{x:V}(h:Aa P f ds ⟨[],[]⟩ (.v x) σ1):Aa P f ds ⟨[],[]⟩ (.v x) ⟨[],[]⟩:=by
 refine⟨h.1,fun g w args hw ha=>Calls.mono (h.2 g w args hw ha) ?_⟩
 rintro e w' ⟨u,g',rfl,hw',hr⟩
 have hw2:=Wv (σ':=⟨[],[]⟩) hw' (m:=0) rfl (I3 _) (by rw[hw.n];exact HX _) rfl (by simp)
 exact⟨u,_,rfl,hw2,LL _ _ rfl hr⟩
theorem Lo(m:Nd)(l:List Nd):Ad ((m::l).map cm)=bt (vi m.lab)::bt (cz m.az)::Ad (l.map cm):=rfl
theorem xu{l:List Nd}{i:Nat}{n:Nd}(h:l[i]?=G n):(Ad (l.map cm))[i*2+1]?=G (.v (cz n.az)):=by
 induction l generalizing i with
 |nil=>simp at h
 |cons m l ih=>
  cases i with
  |zero=>simp only[List.getElem?_cons_zero,I1] at h;subst h;rfl
  |succ i=>
   rw[J8] at h
   rw[Lo,show(i+1)*2+1=i*2+1+1+1 by omega,J8,J8];exact ih h
theorem RN:∀(l:List Nd) (i:Nat) (x:Nd),i<I l->(Ad (l.map cm)).take (i*2)++[bt (vi x.lab),bt (cz x.az)]++(Ad (l.map cm)).drop (i*2+2)=Ad ((l.set i x).map cm)
 |[],_,_,h=>by simp at h
 |m::l,0,x,_=>rfl
 |m::l,i+1,x,h=>by
  have:=RN l i x (by simpa using h)
  rw[Jv,Lo,Lo, ←this,show(i+1)*2=i*2+1+1 by omega,show i*2+1+1+2=i*2+2+1+1 by omega];rfl
theorem Mk(l k:List Nd):Ad ((l++k).map cm)=Ad (l.map cm)++Ad (k.map cm):=by
 rw[Jq];simp[Ad]
theorem R9:∀l:List Nd,(Ad (l.map cm)).all D.one=J
 |[]=>rfl
 |m::l=>by rw[Lo,all_cons,all_cons,R9 l];rfl
theorem JO{n:Nat}{qs:List Nat}:∀{ds:List D},D.pls ds=J->GA n qs ds ds
 |[],_=>.nil
 |d::ds,h=>by
  have h':(d.pl&&D.pls ds)=J:=h
  rw[HR] at h'
  have e:=kp.ren (n:=n) (qs:=qs) (RA d h'.1)
  rw[Ry d h'.1] at e
  exact .cons e (JO h'.2)
theorem vt(l:List Nd)(hl:I l<=1000)(i:Nat)(hi:i<I l)(ps:List Int):F0 91 [.v (AX l),cy ((i:Int)::ps),cy []] (.v (AX (l.eraseIdx i))):=by
 obtain⟨C,hC⟩:∃C,C=Ad (l.map cm):=⟨_,rfl⟩
 obtain⟨C2,hC2⟩:∃C2,C2=Ad ((l.eraseIdx i).map cm)++[di 0,.v .nils]:=⟨_,rfl⟩
 have hp:D.pls C=J:=by rw[hC];exact A5 _
 have hE:Ad ((l.take i).map cm)++Ad ([l[i]].map cm)++Ad ((l.drop (i+1)).map cm)=Ad (l.map cm):=by
  rw[←Mk, ←Mk,IZ,show [l[i]]++l.drop (i+1)=l.drop i by rw[Ih hi];rfl,take_append_drop]
 have hE2:Ad ((l.eraseIdx i).map cm)=Ad ((l.take i).map cm)++Ad ((l.drop (i+1)).map cm):=by
  rw[List.eraseIdx_eq_take_drop_succ,Mk]
 have hp2:D.pls C2=J:=by rw[hC2,Cw,A5];rfl
 have hok1:cp 1 [] [G C2]=J:=by simp only[cp,all_cons,all_nil,Bool.and_true];exact B2 hp2
 have hok:cp 2 [] [none,G C2]=J:=by simp only[cp,all_cons,all_nil,Bool.and_true,I2];exact B2 hp2
 have h:Aa PP 91 [.v (AX l),cy ((i:Int)::ps),cy []] bf (.arr 1 0 (I l-1)) ⟨[none,G C2],[]⟩:=by
  have hd:=V2 (I l) i hi (Ad ((l.take i).map cm)) (Ad ([l[i]].map cm)) (Ad ((l.drop (i+1)).map cm)) (by rw[JI,Iy];omega) rfl (by rw[JI,IY]) (by rw[←hE2, ←hC2];exact hok1)
  rw[hE, ←hC, ←hE2, ←hC2] at hd
  refine sv io 91 [] (.h (.oc (.gro 1 (I l) 2) ⟨[none,G C],[]⟩)<|.f<|.k<|.x (vi i)<|.x (vi i)<|.h (.oc (.arr 1 0 (I l-1)) ⟨[none,G C2],[]⟩)<|.ro) ((∀(o:yw) (c:Call) (fo:x5),o.op=Op.call c->c.callee=Callee.value fo->Ay PP o [bt (bw 148 [] []),bt (AX l)] bf (bm 1 (I l) 2) (bi [none,G C] []))/\((I (U vi ((i:Int)::ps)):Int)==0)=O/\iz 0<=0/\Q (G (vi (i:Int)))/\iz 0<=0/\Q (G (vi (i:Int)))/\(∀(o:yw) (c:Call) (fo:x5),o.op=Op.call c->c.callee=Callee.value fo->Ay PP o [bt (bw 150 [] []),bm 1 (I l) 2,di (i:Int),di (yr yq ((i:Int)+1))] (bi [none,G C] []) (bo 1 0 (I l-1)) (bi [none,G C2] []))/\_/\Q [none,G C2]/\Q (bo 1 0 (I l-1))) ⟨fun o c fo ho hc=>?_,I7.2 (by simp;omega),by decide,rfl,by decide,rfl,fun o c fo ho hc=>?_,hok,rfl,rfl⟩
  ·have:=B7 (σ:=bf) ho hc (fD:=.v (.fn 148 [] [])) rfl (ds:=[.v (AX l)]) [] id (TR l (by omega) (fun e=>by rw[e] at hi;simp at hi)) (.cons (.ren (dc:=.v (AX l)) rfl) .nil) .nil (by simp) rfl (by simp) (by simp) rfl (by simp[cp,O1])
   rw[←hC] at this
   have e:Dp (dv 0 []) id [none,G C]=[none,G C]:=by
    show [none,G (D.rens _ id C)]=_
    rw[E9 _ hp]
   have e':Dp (dv (I bf.H) []) id [none,G C]=[none,G C]:=e
   rw[e'] at this
   exact this
  ·have e1:di (yr .i64 ((i:Int)+1))=di (i+1:Nat):=As
   rw[e1]
   have:=B7 (σ:=⟨[none,G C],[]⟩) ho hc (fD:=.v (.fn 150 [] [])) rfl (ds:=[.gro 1 (I l) 2,di i,di (i+1:Nat)]) [1] id hd (.cons (.ren (dc:=.gro 0 (I l) 2) rfl) (.cons (.ren (dc:=di i) rfl) (.cons (.ren (dc:=di (i+1:Nat)) rfl) .nil))) (.cons rfl (JO hp) (by rw[hC];exact R9 l) .nil) (by simp) rfl (by simp) (by simp) rfl hok1
   have e:Dp (dv 2 [1]) id [G C2]=[G C2]:=by
    show [G (D.rens _ id C2)]=_
    rw[E9 _ hp2]
   have e':Dp (dv (bi [none,G C] []).H.length [1]) id [G C2]=[G C2]:=e
   rw[e'] at this
   exact this
 exact LC (JV h (K4 (q:=1) (t:=0) (sz:=2) (by decide) (Hz _) (by rw[HP,List.length_eraseIdx,Io hi]) (by rw[hC2];rfl) rfl))
noncomputable def Ee:Array yw:=match sub QT [1,1,1,0] with
 |.region _ ops _=>ops
 |_=> #[]
noncomputable def oC(i:Nat):yw:=(Ee[i]?).getD ⟨none,.alloc 0,0,"", #[],none⟩
theorem PW:Ee.size=14:=by kernel_rfl
theorem R6(k:Nat)(o:yw)(h:Ee[k]?=G o):k<14/\o=oC k:=by
 have h1:k<Ee.size:=(IM.1 h).1
 exact⟨by rw[←PW];exact h1,by unfold oC;rw[h];rfl⟩
theorem vq{o:yw}{ds:List D}{σ:St}{s:Sc}{d:D}(h:f8 PP [] o ds σ s (fun _ d' σ' _=>d'=d/\σ'=σ)):Ay PP o ds σ d σ:=by
 obtain⟨_,d',σ',kd,⟨rfl,rfl⟩,h2⟩:=C8 h
 exact h2.op
theorem q1(a:Int)(ws:List Int)(σ:St):Ay PP (oC 1) [cy (a::ws),di 0] σ (.v (.ref (vi a))) σ:=by
 refine vq (s:=.x (vi a) .z) ?_
 refine dq (by kernel_rfl:(iz 0<=0/\Q (G (vi a))/\Q (bt (bz (vi a)))/\Q σ)=_) ?_
 exact⟨by decide,rfl,rfl,rfl⟩
theorem q2(a:Int)(σ:St):Ay PP (oC 2) [.v (.ref (vi a))] σ (di a) σ:=by
 refine vq (s:=.z) ?_
 refine dq (by kernel_rfl:(Q (di a)/\Q σ)=_) ?_
 exact⟨rfl,rfl⟩
theorem q5(a:Int)(ws:List Int)(σ:St):Ay PP (oC 5) [cy (a::ws),di 0] σ (.v (.ref (vi a))) σ:=by
 refine vq (s:=.x (vi a) .z) ?_
 refine dq (by kernel_rfl:(iz 0<=0/\Q (G (vi a))/\Q (bt (bz (vi a)))/\Q σ)=_) ?_
 exact⟨by decide,rfl,rfl,rfl⟩
theorem q6(a:Int)(σ:St):Ay PP (oC 6) [.v (.ref (vi a))] σ (di a) σ:=by
 refine vq (s:=.z) ?_
 refine dq (by kernel_rfl:(Q (di a)/\Q σ)=_) ?_
 exact⟨rfl,rfl⟩
theorem q7(n i:Nat)(hi:i<n)(C:List D)(Hs:List (Option (List D))):Ay PP (oC 7) [.arr 1 0 n,di i] ⟨none::G C::Hs,[]⟩ (.ptr 1 (i*2)) ⟨none::G C::Hs,[]⟩:=by
 refine vq (s:=.z) ?_
 refine dq (by kernel_rfl:(0<=(i:Int)/\(i:Int)<(n:Int)/\bq 1 (0+Z (i:Int)*2)=bq 1 (i*2)/\Q (bi (none::G C::Hs) []))=_) ?_
 exact⟨by omega,by omega,by rw[IC];rfl,rfl⟩
theorem q8(i:Nat)(C:List D)(Hs:List (Option (List D))):Ay PP (oC 8) [.ptr 1 (i*2)] ⟨none::G C::Hs,[]⟩ (.ptr 1 (i*2+1)) ⟨none::G C::Hs,[]⟩:=by
 refine vq (s:=.z) ?_
 refine dq (by kernel_rfl:(bq 1 (Nat.add (i*2) 1)=bq 1 (i*2+1)/\Q (bi (none::G C::Hs) []))=_) ?_
 exact⟨rfl,rfl⟩
theorem q9(i:Nat)(C:List D)(Hs:List (Option (List D)))(K:List Int)(h:C[i*2+1]?=G (.v (cz K))):Ay PP (oC 9) [.ptr 1 (i*2+1)] ⟨none::G C::Hs,[]⟩ (.v (cz K)) ⟨none::G C::Hs,[]⟩:=by
 refine vq (s:=.m (.v (cz K)) .z) ?_
 refine dq (by kernel_rfl:(C[i*2+1]?=G (cy K)/\Q (cy K)/\Q (bi (none::G C::Hs) []))=_) ?_
 exact⟨h,rfl,rfl⟩
theorem um(a:Int)(q n:Nat)(σ:St):Ay PP (oC 11) [di a,.gro q n 1] σ (.dagg [di a,.gro q n 1]) σ:=by
 refine vq (s:=.h .g .z) ?_
 refine dq (by kernel_rfl:(Q (bj [di a,bm q n 1])/\Q σ)=_) ?_
 exact⟨rfl,rfl⟩
abbrev zC:List D:=[di 0,.v .nils]
theorem uf(σ:St):Ay PP (oC 12) [] σ (.ptr (I σ.H) 0) ⟨σ.H++[G zC],σ.own⟩:=by
 have hz:M6 PP 160=G [vi 0,.nils]:=by kernel_rfl
 exact LX (e:=160) (by kernel_rfl) hz
theorem ug(σ:St)(a:Int)(q n o:Nat)(ho:σ.H[o]?=G (G zC)):Ay PP (oC 13) [.ptr o 0,.dagg [di a,.gro q n 1]] σ .undef ⟨σ.H.set o (G [di a,.gro q n 1]),σ.own⟩:=by
 have ht:D3 PP 160=G (2,true):=by kernel_rfl
 exact Lj (P:=PP) (o:=oC 13) (σ:=σ) (d:=.dagg [di a,.gro q n 1]) (t:=160) (x:=.tmp 8) (y:=.tmp 44) (by kernel_rfl) rfl ht rfl (off:=0) ho (by decide)
theorem ue(K:List Int)(hk:I K<=1000)(h:K≠ [])(σ:St):Ay PP (oC 10) [.v (.fn 85 [] []),.v (cz K)] σ (.gro (I σ.H+1) (I K) 1) ⟨σ.H++[none,G (cb K)],σ.own⟩:=by
 have:=B7 (o:=oC 10) (σ:=σ) (c:=⟨.value (.func 85), #[.tmp 42], #[22]⟩) (fo:=.func 85) (by kernel_rfl) rfl (fD:=.v (.fn 85 [] [])) rfl (ds:=[.v (cz K)]) [] id (Adj K (by omega) h) (.cons (.ren (dc:=.v (cz K)) rfl) .nil) .nil (by simp) rfl (by simp) (by simp) rfl (O3 K)
 have e:∀ρ:Nat->Nat,Dp ρ id [none,G (cb K)]=[none,G (cb K)]:=fun ρ=>by
  show [none,G (D.rens ρ id (cb K))]=_
  rw[E9 _ (Kr K)]
 rw[e] at this
 exact this
abbrev eC(p w:List Int)(n:Nat):List (Nat×D):=[(1,cy p),(2,cy w),(7,.arr 1 0 n)]
def uh(p w:List Int)(n i:Nat)(a:Int)(K:List Int)(d10 d8:D)(b:Bool):List It:=[(G 33,cy w,false),(G 34,.v (.ref (vi a)),false),(G 35,di a,false),(G 36,.arr 1 0 n,false),(G 37,cy p,false),(G 38,.v (.ref (vi i)),false),(G 39,di i,false),(G 40,.ptr 1 (i*2),false),(G 41,.ptr 1 (i*2+1),false),(G 42,.v (cz K),false),(G 43,d10,false),(G 44,.dagg [di a,d10],false),(G 8,d8,false),(none,.undef,b)]
def j1(b:Bool):List Ef:=[(false,none),(false,none),(false,none),(false,none),(false,none),(false,none),(false,none),(false,none),(false,none),(false,none),(false,none),(false,none),(false,none),(b,none)]
theorem rp(p w:List Int)(n i:Nat)(a:Int)(K:List Int)(d10 d8:D)(b:Bool):rh Ee (j1 b) (uh p w n i a K d10 d8 b):=by
 cases b
 ·exact⟨by kernel_rfl,by kernel_rfl,by kernel_rfl,rfl⟩
 ·exact⟨by kernel_rfl,by kernel_rfl,by kernel_rfl,rfl⟩
section
variable (p' w' : List Int) (n i : Nat) (a : Int) (K : List Int) (C : List D)
abbrev ey(r:List (Option (List D))):St:=⟨none::G C::r,[]⟩
def uo:Bool->List St
 |false=>[ey C [none,G (cb K)]]
 |true=>[ey C [none,G (cb K),G zC],ey C [none,G (cb K),G [di a,.gro 3 (I K) 1]]]
def uq:Bool->List St
 |false=>[ey C [G zC]]
 |true=>[ey C [G zC,none,G (cb K)],ey C [G [di a,.gro 4 (I K) 1],none,G (cb K)]]
abbrev fv(d10 d8:D)(b:Bool):List It:=uh (i::p') (a::w') n i a K d10 d8 b
noncomputable abbrev eD:List D:=b9 91 (eC (i::p') (a::w') n)
variable {p' w' n i a K C} (hi : i < n) (hK : (I K) <= 1000) (h0 : K ≠ []) (hC : C[i * 2 + 1]? = G (.v (cz K)))
include hi hC
theorem fQ(sts:Bool->List St)(hall:∀(b:Bool) (c:Nat) (s:St),(sts b)[c]?=G s->∃r,s=ey C r)(fr:Nat)(pl esc:Nat->Bool)(d10 d8:D)(b:Bool)(k:Nat)(hk:k<10)(hf:k≠fr):
  QO PP Ee sts fr pl esc (fv p' w' n i a K d10 d8 b) (j1 b) (eD p' w' n i a) k (oC k):=by
 have Q:∀(d:D) (ds:List D),(fv p' w' n i a K d10 d8 b)[k]?=G ((oC k).dst,d,false)->C0 (CD ((fv p' w' n i a K d10 d8 b).take k) (eD p' w' n i a)) Ee (oC k)=G true->E2 (CD ((fv p' w' n i a K d10 d8 b).take k) (eD p' w' n i a)) (oC k)=ds->
   (∀r,Ay PP (oC k) ds (ey C r) d (ey C r))->QO PP Ee sts fr pl esc (fv p' w' n i a K d10 d8 b) (j1 b) (eD p' w' n i a) k (oC k):=fun d ds h1 h2 h3 h4=>
  ⟨d,false,h1,.inr (.inl ⟨h2,rfl,hf,fun b c s hs _=>by obtain⟨r,rfl⟩:=hall b c s hs;rw[h3];exact h4 r⟩)⟩
 match k,hk,Q with
 |0,_,Q=>exact Q (cy (a::w')) [cy (a::w')] (by kernel_rfl) (by kernel_rfl) (by kernel_rfl) fun r=>D6 (x:=.tmp 2) (by kernel_rfl)
 |1,_,Q=>exact Q (.v (.ref (vi a))) [cy (a::w'),di 0] (by kernel_rfl) (by kernel_rfl) (by kernel_rfl) fun r=>q1 a w' _
 |2,_,Q=>exact Q (di a) [.v (.ref (vi a))] (by kernel_rfl) (by kernel_rfl) (by kernel_rfl) fun r=>q2 a _
 |3,_,Q=>exact Q (.arr 1 0 n) [.arr 1 0 n] (by kernel_rfl) (by kernel_rfl) (by kernel_rfl) fun r=>D6 (x:=.tmp 7) (by kernel_rfl)
 |4,_,Q=>exact Q (cy (i::p')) [cy (i::p')] (by kernel_rfl) (by kernel_rfl) (by kernel_rfl) fun r=>D6 (x:=.tmp 1) (by kernel_rfl)
 |5,_,Q=>exact Q (.v (.ref (vi i))) [cy (i::p'),di 0] (by kernel_rfl) (by kernel_rfl) (by kernel_rfl) fun r=>q5 i p' _
 |6,_,Q=>exact Q (di i) [.v (.ref (vi i))] (by kernel_rfl) (by kernel_rfl) (by kernel_rfl) fun r=>q6 i _
 |7,_,Q=>exact Q (.ptr 1 (i*2)) [.arr 1 0 n,di i] (by kernel_rfl) (by kernel_rfl) (by kernel_rfl) fun r=>q7 n i hi C r
 |8,_,Q=>exact Q (.ptr 1 (i*2+1)) [.ptr 1 (i*2)] (by kernel_rfl) (by kernel_rfl) (by kernel_rfl) fun r=>q8 i C r
 |9,_,Q=>exact Q (.v (cz K)) [.ptr 1 (i*2+1)] (by kernel_rfl) (by kernel_rfl) (by kernel_rfl) fun r=>q9 i C r K hC
theorem f0C:∀k o,Ee[k]?=G o->QO PP Ee (fun _=>[ey C []]) Ee.size (fun _=>false) (F9 Ee 10 12) (fv p' w' n i a K .undef .undef false) (j1 false) (eD p' w' n i a) k o:=fun k o ho=>by
 obtain⟨hk,rfl⟩:=R6 k o ho
 by_cases h:k<10
 ·exact fQ hi hC _ (fun b c s hs=>by
   match c,hs with
   |0,hs=>cases hs;exact⟨_,rfl⟩) _ _ _ _ _ _ k h (by rw[PW];omega)
 ·match k,hk,h with
  |10,_,_=>exact⟨.undef,false,by kernel_rfl,.inr (.inr (.inr (.inr (.inr ⟨by kernel_rfl,rfl⟩))))⟩
  |11,_,_=>exact⟨.dagg [di a,.undef],false,by kernel_rfl,.inr (.inr (.inr (.inr (.inr ⟨by kernel_rfl,rfl⟩))))⟩
  |12,_,_=>exact⟨.undef,false,by kernel_rfl,.inr (.inr (.inr (.inr (.inr ⟨by kernel_rfl,rfl⟩))))⟩
  |13,_,_=>exact⟨.undef,false,by kernel_rfl,.inr (.inr (.inr (.inr (.inr ⟨by kernel_rfl,rfl⟩))))⟩
theorem f1C:∀k o,Ee[k]?=G o->QO PP Ee (uo a K C) 12 (fun k=>k==10) (fun _=>false) (fv p' w' n i a K (.gro 3 (I K) 1) (.ptr 4 0) true) (j1 true) (eD p' w' n i a) k o:=fun k o ho=>by
 obtain⟨hk,rfl⟩:=R6 k o ho
 by_cases h:k<10
 ·exact fQ hi hC _ (fun b c s hs=>by
   cases b
   ·match c,hs with
    |0,hs=>cases hs;exact⟨_,rfl⟩
   ·match c,hs with
    |0,hs=>cases hs;exact⟨_,rfl⟩
    |1,hs=>cases hs;exact⟨_,rfl⟩) _ _ _ _ _ _ k h (by omega)
 ·match k,hk,h with
  |10,_,_=>exact⟨.gro 3 (I K) 1,false,by kernel_rfl,.inr (.inr (.inr (.inr (.inl ⟨rfl,rfl⟩))))⟩
  |11,_,_=>
   have e:E2 (CD ((fv p' w' n i a K (.gro 3 (I K) 1) (.ptr 4 0) true).take 11) (eD p' w' n i a)) (oC 11)=[di a,.gro 3 (I K) 1]:=by kernel_rfl
   exact⟨.dagg [di a,.gro 3 (I K) 1],false,by kernel_rfl,.inr (.inl ⟨by kernel_rfl,rfl,by decide,fun b c s hs _=>by rw[e];exact um a 3 _ s⟩)⟩
  |12,_,_=>
   have e:E2 (CD ((fv p' w' n i a K (.gro 3 (I K) 1) (.ptr 4 0) true).take 12) (eD p' w' n i a)) (oC 12)=[]:=by kernel_rfl
   refine⟨.ptr 4 0,false,by kernel_rfl,.inr (.inr (.inr (.inl ⟨by kernel_rfl,rfl,rfl,fun c s hs=>?_⟩)))⟩
   rw[e]
   match c,hs with
   |0,hs=>cases hs;exact⟨_,rfl,uf (ey C [none,G (cb K)])⟩
  |13,_,_=>
   have e:E2 (CD ((fv p' w' n i a K (.gro 3 (I K) 1) (.ptr 4 0) true).take 13) (eD p' w' n i a)) (oC 13)=[.ptr 4 0,.dagg [di a,.gro 3 (I K) 1]]:=by kernel_rfl
   have ec:EO ((fv p' w' n i a K (.gro 3 (I K) 1) (.ptr 4 0) true).take 13)=0:=by kernel_rfl
   have en:FO Ee 13 12=J:=by kernel_rfl
   refine⟨.undef,true,by kernel_rfl,.inr (.inr (.inl ⟨by kernel_rfl,rfl,by decide,fun bb s hs hb=>?_⟩))⟩
   cases bb
   ·have:=hb rfl;rw[en] at this;exact absurd this (by decide)
   ·rw[ec] at hs
    cases hs
    rw[e,ec]
    exact⟨_,rfl,ug (ey C [none,G (cb K),G zC]) a 3 _ 4 rfl⟩
include hK h0
theorem f2C:∀k o,Ee[k]?=G o->QO PP Ee (uq a K C) 10 (fun k=>k==12) (fun _=>false) (fv p' w' n i a K (.gro 4 (I K) 1) (.ptr 2 0) true) (j1 true) (eD p' w' n i a) k o:=fun k o ho=>by
 obtain⟨hk,rfl⟩:=R6 k o ho
 by_cases h:k<10
 ·exact fQ hi hC _ (fun b c s hs=>by
   cases b
   ·match c,hs with
    |0,hs=>cases hs;exact⟨_,rfl⟩
   ·match c,hs with
    |0,hs=>cases hs;exact⟨_,rfl⟩
    |1,hs=>cases hs;exact⟨_,rfl⟩) _ _ _ _ _ _ k h (by omega)
 ·match k,hk,h with
  |12,_,_=>exact⟨.ptr 2 0,false,by kernel_rfl,.inr (.inr (.inr (.inr (.inl ⟨rfl,rfl⟩))))⟩
  |11,_,_=>
   have e:E2 (CD ((fv p' w' n i a K (.gro 4 (I K) 1) (.ptr 2 0) true).take 11) (eD p' w' n i a)) (oC 11)=[di a,.gro 4 (I K) 1]:=by kernel_rfl
   exact⟨.dagg [di a,.gro 4 (I K) 1],false,by kernel_rfl,.inr (.inl ⟨by kernel_rfl,rfl,by decide,fun b c s hs _=>by rw[e];exact um a 4 _ s⟩)⟩
  |10,_,_=>
   have e:E2 (CD ((fv p' w' n i a K (.gro 4 (I K) 1) (.ptr 2 0) true).take 10) (eD p' w' n i a)) (oC 10)=[.v (.fn 85 [] []),.v (cz K)]:=by kernel_rfl
   refine⟨.gro 4 (I K) 1,false,by kernel_rfl,.inr (.inr (.inr (.inl ⟨by kernel_rfl,rfl,rfl,fun c s hs=>?_⟩)))⟩
   rw[e]
   match c,hs with
   |0,hs=>cases hs;exact⟨_,rfl,ue K hK h0 (ey C [G zC])⟩
  |13,_,_=>
   have e:E2 (CD ((fv p' w' n i a K (.gro 4 (I K) 1) (.ptr 2 0) true).take 13) (eD p' w' n i a)) (oC 13)=[.ptr 2 0,.dagg [di a,.gro 4 (I K) 1]]:=by kernel_rfl
   have ec:EO ((fv p' w' n i a K (.gro 4 (I K) 1) (.ptr 2 0) true).take 13)=0:=by kernel_rfl
   have en:FO Ee 13 10=J:=by kernel_rfl
   refine⟨.undef,true,by kernel_rfl,.inr (.inr (.inl ⟨by kernel_rfl,rfl,by decide,fun bb s hs hb=>?_⟩))⟩
   cases bb
   ·have:=hb rfl;rw[en] at this;exact absurd this (by decide)
   ·rw[ec] at hs
    cases hs
    rw[e,ec]
    exact⟨_,rfl,ug (ey C [G zC,none,G (cb K)]) a 4 _ 2 rfl⟩
theorem Ai1:ZX PP Ee 10 12 (oC 10) (eD p' w' n i a) [ey C []] (fv p' w' n i a K .undef .undef false) (uo a K C) (fv p' w' n i a K (.gro 3 (I K) 1) (.ptr 4 0) true) (j1 true) (.gro 3 (I K) 1) where
 ok:=rp _ _ _ _ _ _ _ _ true
 fact:=f1C hi hC
 go:=fun c s hs=>by
  have e:E2 (CD ((fv p' w' n i a K (.gro 3 (I K) 1) (.ptr 4 0) true).take 10) (eD p' w' n i a)) (oC 10)=[.v (.fn 85 [] []),.v (cz K)]:=by kernel_rfl
  rw[e]
  match c,hs with
  |0,hs=>cases hs;exact⟨_,rfl,ue K hK h0 (ey C [])⟩
 it:=by kernel_rfl
 uniq:=fun k x hx hk=>by
  have e:(oC 10).dst=G 43:=by kernel_rfl
  rw[e]
  match k,hx,hk with
  |0,hx,_=>cases hx;simp
  |1,hx,_=>cases hx;simp
  |2,hx,_=>cases hx;simp
  |3,hx,_=>cases hx;simp
  |4,hx,_=>cases hx;simp
  |5,hx,_=>cases hx;simp
  |6,hx,_=>cases hx;simp
  |7,hx,_=>cases hx;simp
  |8,hx,_=>cases hx;simp
  |9,hx,_=>cases hx;simp
  |10,_,hk=>exact absurd rfl hk
  |11,hx,_=>cases hx;simp
  |12,hx,_=>cases hx;simp
  |13,hx,_=>cases hx;simp
 agree:=fun k he=>by
  by_cases h:k<10
  ·match k,h with
   |0,_=>rfl
   |1,_=>rfl
   |2,_=>rfl
   |3,_=>rfl
   |4,_=>rfl
   |5,_=>rfl
   |6,_=>rfl
   |7,_=>rfl
   |8,_=>rfl
   |9,_=>rfl
  ·match k,he,h with
   |10,he,_=>rw[show F9 Ee 10 12 10=J by kernel_rfl] at he;exact absurd he (by decide)
   |11,he,_=>rw[show F9 Ee 10 12 11=J by kernel_rfl] at he;exact absurd he (by decide)
   |12,he,_=>rw[show F9 Ee 10 12 12=J by kernel_rfl] at he;exact absurd he (by decide)
   |13,he,_=>rw[show F9 Ee 10 12 13=J by kernel_rfl] at he;exact absurd he (by decide)
   |_+14,_,_=>rfl
theorem Ai0:ZX PP Ee 12 10 (oC 12) (eD p' w' n i a) [ey C []] (fv p' w' n i a K .undef .undef false) (uq a K C) (fv p' w' n i a K (.gro 4 (I K) 1) (.ptr 2 0) true) (j1 true) (.ptr 2 0) where
 ok:=rp _ _ _ _ _ _ _ _ true
 fact:=f2C hi hK h0 hC
 go:=fun c s hs=>by
  have e:E2 (CD ((fv p' w' n i a K (.gro 4 (I K) 1) (.ptr 2 0) true).take 12) (eD p' w' n i a)) (oC 12)=[]:=by kernel_rfl
  rw[e]
  match c,hs with
  |0,hs=>cases hs;exact⟨_,rfl,uf (ey C [])⟩
 it:=by kernel_rfl
 uniq:=fun k x hx hk=>by
  have e:(oC 12).dst=G 8:=by kernel_rfl
  rw[e]
  match k,hx,hk with
  |0,hx,_=>cases hx;simp
  |1,hx,_=>cases hx;simp
  |2,hx,_=>cases hx;simp
  |3,hx,_=>cases hx;simp
  |4,hx,_=>cases hx;simp
  |5,hx,_=>cases hx;simp
  |6,hx,_=>cases hx;simp
  |7,hx,_=>cases hx;simp
  |8,hx,_=>cases hx;simp
  |9,hx,_=>cases hx;simp
  |10,hx,_=>cases hx;simp
  |11,hx,_=>cases hx;simp
  |12,_,hk=>exact absurd rfl hk
  |13,hx,_=>cases hx;simp
 agree:=fun k he=>by
  by_cases h:k<10
  ·match k,h with
   |0,_=>rfl
   |1,_=>rfl
   |2,_=>rfl
   |3,_=>rfl
   |4,_=>rfl
   |5,_=>rfl
   |6,_=>rfl
   |7,_=>rfl
   |8,_=>rfl
   |9,_=>rfl
  ·match k,he,h with
   |10,he,_=>rw[show F9 Ee 12 10 10=J by kernel_rfl] at he;exact absurd he (by decide)
   |11,he,_=>rw[show F9 Ee 12 10 11=J by kernel_rfl] at he;exact absurd he (by decide)
   |12,he,_=>rw[show F9 Ee 12 10 12=J by kernel_rfl] at he;exact absurd he (by decide)
   |13,he,_=>rw[show F9 Ee 12 10 13=J by kernel_rfl] at he;exact absurd he (by decide)
   |_+14,_,_=>rfl
def sf:Nat->Nat
 |2=>3
 |3=>4
 |4=>2
 |i=>i
theorem AlN{Cc:co->co->Prop}{R:List D->St->Prop}{ks:List KI}(hCm:∀E0 E,Cc E0 E->E.g.n<=0)(hpC:D.pls C=J)
  (h1:AI Cc PP R ks (b9 91 [(1,cy (i::p')),(2,cy (a::w')),(7,.arr 1 0 n),(33,cy (a::w')),(34,.v (.ref (vi a))),(35,di a),(36,.arr 1 0 n),(37,cy (i::p')),(38,.v (.ref (vi i))),(39,di i),(40,.ptr 1 (i*2)),(41,.ptr 1 (i*2+1)),(42,.v (cz K)),(43,.gro 3 (I K) 1),(44,.dagg [di a,.gro 3 (I K) 1]),(8,.ptr 4 0)]) (ey C [none,G (cb K),G [di a,.gro 3 (I K) 1]])):
  AI Cc PP R (.code (sub QT [1,1,1,0])::ks) (eD p' w' n i a) (ey C []):=by
 have hx:sub QT [1,1,1,0]=.region 6 Ee true:=by kernel_rfl
 rw[hx]
 refine UK mixed (i:=10) (j:=12) (oi:=oC 10) (oj:=oC 12) (by decide) (by kernel_rfl) (by kernel_rfl) (by kernel_rfl) (by kernel_rfl) (σ1:=ey C [none,G (cb K),G [di a,.gro 3 (I K) 1]]) (σ2:=ey C [G [di a,.gro 4 (I K) 1],none,G (cb K)])
  (rp _ _ _ _ _ _ .undef .undef false) (f0C hi hC) rfl (Ai1 hi hK h0 hC) (Ai0 hi hK h0 hC) (by kernel_rfl) (by kernel_rfl) ?_ ?_
 ·exact h1
 ·refine Dk (σ:=ey C [G [di a,.gro 4 (I K) 1],none,G (cb K)]) (H':=(ey C [none,G (cb K),G [di a,.gro 3 (I K) 1]]).H) (m:=0) hCm sf (I3 _) (fun i hi=>by omega) (fun x y hx hy h=>?_) (fun x cs hx=>?_) ?_ ?_ h1
  ·exact(by decide:∀x,x<5->∀y,y<5->sf x=sf y->x=y) x hx y hy h
  ·match x,hx with
   |1,hx=>cases hx;exact⟨by rw[AS hpC];rfl,B2 hpC⟩
   |3,hx=>cases hx;exact⟨by rw[AS (Kr K)];rfl,B2 (Kr K)⟩
   |4,hx=>cases hx;exact⟨rfl,rfl⟩
  ·kernel_rfl
  ·kernel_rfl
end
theorem Aja{σ:St}{q:Nat}{a b:List D}(hq:σ.H[q]?=G (G (a++b)))(e:List D):Cv e σ e ⟨σ.H.set q (G a),σ.own⟩:=fun E g ac w hf=>by
 obtain⟨us,rest,et,hb,hr,h2,hM,hκ⟩:=hf.wi.rep.obj q _ hq
 obtain⟨ua,ub,rfl,hra,_⟩:=LJ hr
 rw[IZ] at hb hκ
 exact⟨g,hf.wi.setObj hq hb hκ hra (fun c hc=>h2 c (List.mem_append_left _ hc)) (fun _ _=>rfl) rfl rfl rfl rfl,hf.env,hf.defers⟩
theorem RR:∀{a b c d:List D},DSL a b->DSL c d->DSL (a++c) (b++d)
 |_,_,_,_,.nil,h=>h
 |_,_,_,_,.cons h1 h2,h=>.cons h1 (RR h2 h)
theorem LY{n:Nat}{ts:List Nat}{C X:List D}{k m:Nat}(hp:D.pls C=J)(hX:D.okNs n ts X=J):D.okNs n ts (C.take k++X++C.drop m)=J:=by
 have h1:∀k,D.pls (C.take k)=J/\D.pls (C.drop k)=J:=fun k=>by
  have:=hp
  rw[←take_append_drop k C,Cw,HR] at this
  exact this
 exact O2 (O2 (B2 (h1 k).1) hX) (B2 (h1 m).2)
theorem Ln{l:List Nd}{i:Nat}{C:List D}(hi:i<I l)(hC:C=Ad (l.map cm)):i*2+2<=I C:=by rw[hC,JI];omega
theorem Abx{C:List D}{i:Nat}(hb:i*2+2<=I C)(x y z:D):(C.take (i*2)++[x,y]++C.drop (i*2+2)).set (i*2+1) z=C.take (i*2)++[x,z]++C.drop (i*2+2):=by
 have hl:I (C.take (i*2))=i*2:=by rw[Iy];omega
 rw[IZ,IZ,List.set_append_right _ _ (by omega),hl,show i*2+1-i*2=1 by omega];rfl
theorem AhJ{C:List D}{i:Nat}(hb:i*2+2<=I C)(x y:D):(C.take (i*2)++[x,y]++C.drop (i*2+2))[i*2+1]?=G y:=by
 have hl:I (C.take (i*2))=i*2:=by rw[Iy];omega
 rw[IZ,Il (by omega),hl,show i*2+1-i*2=1 by omega];rfl
theorem Zy{f:yv}{ds:List D}{l:List Nd}{i:Nat}(hi:i<I l){a:Int}{ks:List Int}{R C t:List D}(hC:C=Ad (l.map cm))(h:Aa PP f ds bf (.arr 1 0 (I l)) ⟨[none,G (C.take (i*2)++[di a,.arr 3 0 (I ks)]++C.drop (i*2+2)),none,G (cb ks++R),G t],[]⟩):F0 f ds (.v (AX (l.set i ⟨a,ks⟩))):=by
 have hb:=Ln hi hC
 have h1:=JV h (Aja (q:=3) rfl _)
 have h2:=JV h1 (V5 (p:=1) (q:=3) (i:=i*2+1) (xs:=ks.map vi) (cs:=C.take (i*2)++[di a,.arr 3 0 (I ks)]++C.drop (i*2+2)) rfl (by show G (G (cb ks))=_;rw[cb,List.map_map];rfl) (by decide) (by rw[AhJ hb,HP]) (fun x hx=>by obtain⟨_,_,rfl⟩:=IA.1 hx;rfl) _)
 have e:(C.take (i*2)++[di a,.arr 3 0 (I ks)]++C.drop (i*2+2)).set (i*2+1) (.v (cz ks))=Ad ((l.set i ⟨a,ks⟩).map cm):=by
  rw[Abx hb,hC];exact RN l i ⟨a,ks⟩ hi
 have h3:=JV h2 (TN (q:=1) (t:=0) (sz:=2) (n:=I l) (xs:=(l.set i ⟨a,ks⟩).map cm) (by decide) (Hz _) (by rw[HP,length_set]) (by rw[←e];rfl) rfl)
 exact LC h3
theorem Zt(l:List Nd)(hl:I l<=1000)(h:l≠ []){C:List D}(hC:C=Ad (l.map cm)){o:yw}{c:Call}{fo:x5}(ho:o.op=.call c)(hc:c.callee=.value fo):Ay PP o [.v (.fn 148 [] []),.v (AX l)] bf (.arr 1 0 (I l)) ⟨[none,G C],[]⟩:=by
 have:=B7 (σ:=bf) ho hc (fD:=.v (.fn 148 [] [])) rfl (ds:=[.v (AX l)]) [] id ((TR l (by omega) h).sub (.cons (.same _) .nil) .gro) (.cons (.ren (dc:=.v (AX l)) rfl) .nil) .nil (by simp) rfl (by simp) (by simp) rfl (by simp[cp,O1])
 rw[←hC] at this
 have e:Dp (dv 0 []) id [none,G C]=[none,G C]:=by
  show [none,G (D.rens _ id C)]=_
  rw[E9 _ (by rw[hC];exact A5 _)]
 have e':Dp (dv (I bf.H) []) id [none,G C]=[none,G C]:=e
 rw[e'] at this
 exact this
theorem vr(l:List Nd)(hl:l.length<=1000)(i:Nat)(n:Nd)(hi:l[i]?=some n)(hk:n.az.length<=1000)(h0:n.az≠ [])(p':List Int)(a:Int)(w':List Int)(C:List D)(hC:C=Ad (l.map cm)){d:D}{σ':St}
  (h:Rn PP io 0 d σ' ([.code (sub QT [1,1,1,1])]++[]) (b9 91 [(1,cy (i::p')),(2,cy (a::w')),(7,.arr 1 0 l.length),(8,.ptr 4 0)]) (ey C [none,some (cb n.az),some [di a,.gro 3 n.az.length 1]])):
  Aa PP 91 [.v (AX l),cy (i::p'),cy (a::w')] bf d σ':=by
 have hpC:D.pls C=true:=by rw[hC];exact A5 _
 refine sv io 91 [] (.h (.oc (.arr 1 0 l.length) ⟨[none,some C],[]⟩)<|.f<|.h (.q 4 0)<|.h (.s [ke 1,ke 2,ke 7]) .z) ((∀(o:yw) (c:Call) (fo:x5),o.op=Op.call c->c.callee=Callee.value fo->Ay PP o [bt (bw 148 [] []),bt (AX l)] bf (bo 1 0 l.length) (bi [none,some C] []))/\((length (map vi ((i:Int)::p')):Int)==0)=false/\Nv.It (Cp (CN bf.H.length) PP (fun env σ1=>AL PP io env σ1 d σ') [kc QT [1,1,0,0,1,1,1],bh 0,kc QT [1,1,1]] (De (sub QT [1,1,0,0,1,1,0])) (List.drop 0 (De (sub QT [1,1,0,0,1,1,0])).toList) (b9 91 [(1,cy ((i:Int)::p')),(2,cy (a::w')),(7,bo 1 0 l.length)]) (bi [none,some C] []))) ?_
 refine⟨fun o c fo ho hc=>Zt l hl (by rintro rfl;simp at hi) hC ho hc,I7.2 (by simp;omega),⟨?_⟩⟩
 refine Cb (ks:=[.code (sub QT [1,1,0,0,1,1,1]),.blk 0]) (T:=[.code (sub QT [1,1,1])]) mixed (CV 0) 0 (fun _ _ h=>h.2) 91 [] 4 0 (.f<|.lo [ke 1,ke 2,ke 7] (ey C [])) ?_
 refine dq (by kernel_rfl:(((length (map vi (a::w')):Int)==0)=false/\cp 2 [] [none,some C]=true/\Q [none,some C]/\I0 io 0 d σ' [kc QT [1,1,1]] (b9 91 [(1,bt (cz ((i:Int)::p'))),(2,bt (cz (a::w'))),(7,bo 1 0 l.length)]) (ey C []))=_) ?_
 refine⟨I7.2 (by simp;omega),by simp[cp,B2 hpC],rfl,⟨?_⟩⟩
 have hx:sub QT [1,1,1]=.seq (sub QT [1,1,1,0]) (sub QT [1,1,1,1]):=by kernel_rfl
 show Rn PP io 0 d σ' [.code (sub QT [1,1,1])] _ _
 rw[hx]
 refine Xp ?_
 refine AlN (p':=p') (w':=w') (n:=l.length) (i:=i) (a:=a) (K:=n.az) (C:=C) (HT.1 hi).1 hk h0 (by rw[hC];exact xu hi) (fun _ _ h=>h.2) (by rw[hC];exact A5 _) ?_
 have he:b9 91 [(1,cy (i::p')),(2,cy (a::w')),(7,.arr 1 0 l.length),(33,cy (a::w')),(34,.v (.ref (vi a))),(35,di a),(36,.arr 1 0 l.length),(37,cy (i::p')),(38,.v (.ref (vi i))),(39,di i),(40,.ptr 1 (i*2)),(41,.ptr 1 (i*2+1)),(42,.v (cz n.az)),(43,.gro 3 n.az.length 1),(44,.dagg [di a,.gro 3 n.az.length 1]),(8,.ptr 4 0)]=b9 91 ([(1,cy (i::p')),(2,cy (a::w')),(7,.arr 1 0 l.length),(8,.ptr 4 0)]++[(33,cy (a::w')),(34,.v (.ref (vi a))),(35,di a),(36,.arr 1 0 l.length),(37,cy (i::p')),(38,.v (.ref (vi i))),(39,di i),(40,.ptr 1 (i*2)),(41,.ptr 1 (i*2+1)),(42,.v (cz n.az)),(43,.gro 3 n.az.length 1),(44,.dagg [di a,.gro 3 n.az.length 1])]):=by kernel_rfl
 rw[he]
 refine LG (fun q hq=>?_) h
 simp only[I8,List.not_mem_nil,or_false] at hq
 rcases hq with rfl|rfl|rfl|rfl|rfl|rfl|rfl|rfl|rfl|rfl|rfl|rfl<;>kernel_rfl
theorem Aji(l:List Nd)(hl:I l<=1000)(i j:Nat)(n:Nd)(hi:l[i]?=G n)(hj:j<I n.az)(hk:I n.az<=1000)(a b:Int)(ws:List Int)(C:List D)(hb:i*2+2<=I C)(hp:D.pls C=J):Rn PP io 0 (.arr 1 0 (I l)) ⟨[none,G (C.take (i*2)++[di a,.arr 3 0 (I n.az)]++C.drop (i*2+2)),none,G (cb (n.az.set j b)),G [di a,.arr 3 0 (I n.az)]],[]⟩
  ([kc QT [1,1,1,1]]++[]) (b9 91 [(1,cy [(i:Int),(j:Int)]),(2,cy (a::b::ws)),(7,.arr 1 0 (I l)),(8,.ptr 4 0)]) (ey C [none,G (cb n.az),G [di a,.gro 3 (I n.az) 1]]):=by
 refine OU mixed 91 [] (.h (.q 8 0)<|.h (.cs ⟨[none,G C,none,G (cb n.az),G [di a,.arr 3 0 (I n.az)]],[]⟩)<|.k<|.t<|.m (.arr 3 0 (I n.az))<|.x (vi j)<|.x (vi b)<|.w<|.x (vi i)<|.m (.dagg [di a,.arr 3 0 (I n.az)])<|.h .ww<|.ro) ?_
 refine dq (by kernel_rfl:((∀(e:List D) (E:co) (g:Gh) (a_1:Act) (w:yy),FI E g (bi [none,G C,none,G (cb n.az),G [di a,bm 3 (I n.az) 1]] []) e a_1 w->∃g',FI E g' (bi [none,G C,none,G (cb n.az),G [di a,bo 3 0 (I n.az)]] []) e a_1 w)/\Y ((I (U vi (a::b::ws)):Int)>1)=J/\Q (G (bo 3 0 (I n.az)))/\iz 0<=1/\Q (G (vi (j:Int)))/\iz 0<=1/\Q (G (vi b))/\0<=(j:Int)/\(j:Int)<(I n.az:Int)/\0+Z (j:Int)*1<I (cb n.az)/\yn/\iz 0<=0/\Q (G (vi (i:Int)))/\2<=2/\Q [di a,bo 3 0 (I n.az)]/\0<=(i:Int)/\(i:Int)<(I l:Int)/\0+Z (i:Int)*2+2<=I C/\yn/\cp 5 [] [none,G (take (0+Z (i:Int)*2) C++[di a,bo 3 0 (I n.az)]++List.drop (0+Z (i:Int)*2+2) C),none,G (List.set (cb n.az) (0+Z (j:Int)*1) (di b)),G [di a,bo 3 0 (I n.az)]]=J/\[none,G (take (0+Z (i:Int)*2) C++[di a,bo 3 0 (I n.az)]++List.drop (0+Z (i:Int)*2+2) C),none,G (List.set (cb n.az) (0+Z (j:Int)*1) (di b)),G [di a,bo 3 0 (I n.az)]]=[none,G (take (i*2) C++[di a,bo 3 0 (I n.az)]++List.drop (i*2+2) C),none,G (cb (List.set n.az j b)),G [di a,bo 3 0 (I n.az)]]/\Q (bo 1 0 (I l)))=_) ?_
 have e:0+Z (i:Int)*2=i*2:=by omega
 have ej:0+Z (j:Int)*1=j:=by omega
 have ec:List.set (cb n.az) j (di b)=cb (n.az.set j b):=by simp[cb,List.map_set]
 rw[e,ej]
 refine⟨fun e=>G1 (q:=4) (cs:=[di a,.gro 3 (I n.az) 1]) (cs':=[di a,.arr 3 0 (I n.az)]) rfl (fun g us h=>?_) (fun _ c hc=>?_) e,HS (by simp;omega),rfl,by decide,rfl,by decide,rfl,by omega,by omega,?_,yl,by decide,rfl,by decide,rfl,by omega,by have:=(HT.1 hi).1;omega,hb,yl,?_,?_,rfl⟩
 ·exact(DSL.cons (.same _) (.cons .gro .nil)).rep h
 ·simp at hc;rcases hc with rfl|rfl<;>rfl
 ·simpa using hj
 ·rw[ec]
  simp only[cp,all_cons,all_nil,Bool.and_true,I2,F6,LY hp (X:=[di a,.arr 3 0 (I n.az)]) (n:=5) (ts:=[]) rfl]
  rfl
 ·rw[ec]
theorem Ajh(l:List Nd)(hl:I l<=1000)(i j:Nat)(n:Nd)(hi:l[i]?=G n)(hj:j<I n.az)(hk:I n.az<=1000)(a:Int)(C K:List D)(hb:i*2+2<=I C)(hp:D.pls C=J)(hKe:K=cb (n.az.eraseIdx j)++[di 0]):Rn PP io 0 (.arr 1 0 (I l)) ⟨[none,G (C.take (i*2)++[di a,.arr 3 0 (I n.az-1)]++C.drop (i*2+2)),none,G K,G [di a,.arr 3 0 (I n.az-1)]],[]⟩
  ([kc QT [1,1,1,1]]++[]) (b9 91 [(1,cy [(i:Int),(j:Int)]),(2,cy [a]),(7,.arr 1 0 (I l)),(8,.ptr 4 0)]) (ey C [none,G (cb n.az),G [di a,.gro 3 (I n.az) 1]]):=by
 refine OU mixed 91 [] (.k<|.k<|.k<|.m (.gro 3 (I n.az) 1)<|.x (vi j)<|.x (vi j)<|.h (.oc (.arr 3 0 (I n.az-1)) ⟨[none,G C,none,G K,G [di a,.gro 3 (I n.az) 1]],[]⟩)<|.w<|.x (vi i)<|.m (.dagg [di a,.arr 3 0 (I n.az-1)])<|.h .ww<|.ro) ?_
 refine dq (by kernel_rfl:(Q (G (bm 3 (I n.az) 1))/\iz 0<=1/\Q (G (vi (j:Int)))/\iz 0<=1/\Q (G (vi (j:Int)))/\(∀(o:yw) (c:Call) (fo:x5),o.op=Op.call c->c.callee=Callee.value fo->Ay PP o [bt (bw 73 [] []),bm 3 (I n.az) 1,di (j:Int),di (yr yq ((j:Int)+1))] (ey C [none,G (cb n.az),G [di a,bm 3 (I n.az) 1]]) (bo 3 0 (I n.az-1)) (bi [none,G C,none,G K,G [di a,bm 3 (I n.az) 1]] []))/\1<2/\yn/\iz 0<=0/\Q (G (vi (i:Int)))/\2<=2/\Q [di a,bo 3 0 (I n.az-1)]/\0<=(i:Int)/\(i:Int)<(I l:Int)/\0+Z (i:Int)*2+2<=I C/\yn/\cp 5 [] [none,G (take (0+Z (i:Int)*2) C++[di a,bo 3 0 (I n.az-1)]++List.drop (0+Z (i:Int)*2+2) C),none,G K,G [di a,bo 3 0 (I n.az-1)]]=J/\[none,G (take (0+Z (i:Int)*2) C++[di a,bo 3 0 (I n.az-1)]++List.drop (0+Z (i:Int)*2+2) C),none,G K,G [di a,bo 3 0 (I n.az-1)]]=[none,G (take (i*2) C++[di a,bo 3 0 (I n.az-1)]++List.drop (i*2+2) C),none,G K,G [di a,bo 3 0 (I n.az-1)]]/\Q (bo 1 0 (I l)))=_) ?_
 have e:0+Z (i:Int)*2=i*2:=by omega
 have hpK:D.pls K=J:=by rw[hKe,Cw,Kr];rfl
 rw[e]
 refine⟨rfl,by decide,rfl,by decide,rfl,fun o c fo ho hc=>?_,by decide,yl,by decide,rfl,by decide,rfl,by omega,by have:=(HT.1 hi).1;omega,hb,yl,?_,rfl,rfl⟩
 ·have e1:di (yr .i64 ((j:Int)+1))=di (j+1:Nat):=As
  rw[e1]
  have hE:cb (n.az.take j)++cb [n.az[j]]++cb (n.az.drop (j+1))=cb n.az:=by
   rw[cb,cb,cb, ←Jq, ←Jq,IZ,show [n.az[j]]++n.az.drop (j+1)=n.az.drop j by rw[Ih hj];rfl,take_append_drop]
  have hE2:cb (n.az.eraseIdx j)=cb (n.az.take j)++cb (n.az.drop (j+1)):=by
   rw[List.eraseIdx_eq_take_drop_succ,cb,Jq]
  have hok1:cp 1 [] [G K]=J:=by simp only[cp,all_cons,all_nil,Bool.and_true];exact B2 hpK
  have hd:=Nl (I n.az) j hj (cb (n.az.take j)) (cb [n.az[j]]) (cb (n.az.drop (j+1))) (by simp[cb];omega) rfl (by simp[cb]) (by rw[←hE2, ←hKe];exact hok1)
  rw[hE, ←hE2, ←hKe] at hd
  have:=B7 (σ:=ey C [none,G (cb n.az),G [di a,.gro 3 (I n.az) 1]]) ho hc (fD:=.v (.fn 73 [] [])) rfl (ds:=[.gro 3 (I n.az) 1,di j,di (j+1:Nat)]) [3] id hd (.cons (.ren (dc:=.gro 0 (I n.az) 1) rfl) (.cons (.ren (dc:=di j) rfl) (.cons (.ren (dc:=di (j+1:Nat)) rfl) .nil))) (.cons rfl (JO (Kr _)) (by simp[cb,D.one,V.isAgg]) .nil) (by simp) rfl (by simp) (by simp) rfl hok1
  have e2:Dp (dv 5 [3]) id [G K]=[G K]:=by
   show [G (D.rens _ id K)]=_
   rw[E9 _ hpK]
  have e3:Dp (dv (ey C [none,G (cb n.az),G [di a,.gro 3 (I n.az) 1]]).H.length [3]) id [G K]=[G K]:=e2
  rw[e3] at this
  exact this
 ·simp only[cp,all_cons,all_nil,Bool.and_true,I2,B2 hpK,LY hp (X:=[di a,.arr 3 0 (I n.az-1)]) (n:=5) (ts:=[]) rfl]
  rfl
theorem Ale(l:List Nd)(hl:I l<=1000)(i j:Nat)(n:Nd)(hi:l[i]?=G n)(hj:j<I n.az)(hk:I n.az<=1000)(a b:Int)(ws:List Int):F0 91 [.v (AX l),cy [(i:Int),(j:Int)],cy (a::b::ws)] (.v (AX (l.set i ⟨a,n.az.set j b⟩))):=by
 obtain⟨C,hC⟩:∃C,C=Ad (l.map cm):=⟨_,rfl⟩
 have hil:=(HT.1 hi).1
 refine Zy hil hC (R:=[]) (t:=[di a,.arr 3 0 (I n.az)]) ?_
 rw[IG,length_set]
 exact vr l hl i n hi hk (fun e=>by rw[e] at hj;simp at hj) [(j:Int)] a (b::ws) C hC (Aji l hl i j n hi hj hk a b ws C (Ln hil hC) (by rw[hC];exact A5 _))
theorem Ald(l:List Nd)(hl:I l<=1000)(i j:Nat)(n:Nd)(hi:l[i]?=G n)(hj:j<I n.az)(hk:I n.az<=1000)(a:Int):F0 91 [.v (AX l),cy [(i:Int),(j:Int)],cy [a]] (.v (AX (l.set i ⟨a,n.az.eraseIdx j⟩))):=by
 obtain⟨C,hC⟩:∃C,C=Ad (l.map cm):=⟨_,rfl⟩
 have hil:=(HT.1 hi).1
 refine Zy hil hC (R:=[di 0]) (t:=[di a,.arr 3 0 (I n.az-1)]) ?_
 have e:I (n.az.eraseIdx j)=I n.az-1:=by rw[List.length_eraseIdx,Io hj]
 rw[e]
 exact vr l hl i n hi hk (fun e=>by rw[e] at hj;simp at hj) [(j:Int)] a [] C hC (Ajh l hl i j n hi hj hk a C _ (Ln hil hC) (by rw[hC];exact A5 _) rfl)
theorem Alc(l:List Nd)(hl:I l<=1000)(i:Nat)(n:Nd)(hi:l[i]?=G n)(hk:I n.az<=1000)(a:Int)(ws:List Int)(hw:I ws<=1000):F0 91 [.v (AX l),cy [(i:Int)],cy (a::ws)] (.v (AX (l.set i ⟨a,n.az++ws⟩))):=by
 obtain⟨C,hC⟩:∃C,C=Ad (l.map cm):=⟨_,rfl⟩
 obtain⟨W,hW⟩:∃W,W=a::ws:=⟨_,rfl⟩
 rw[←hW]
 have hil:=(HT.1 hi).1
 have hb:=Ln hil hC
 have hp:D.pls C=J:=by rw[hC];exact A5 _
 have h:Aa PP 91 [.v (AX l),cy [(i:Int)],cy W] bf (.arr 1 0 (I l)) ⟨[none,G (C.take (i*2)++[di a,.acc 1 ((n.az++ws).map vi)]++C.drop (i*2+2)),G [di a,.acc 1 ((n.az++ws).map vi)]],[(1,1,(n.az++ws).map vi)]⟩:=by
  refine sv io 91 [] (.h (.oc (.arr 1 0 (I l)) ⟨[none,G C],[]⟩)<|.k<|.f<|.h (.dr 12)<|.x (vi a)<|.x (vi i)<|.m (.v (cz n.az))<|.h (.ck 1 1 1 (n.az.map vi))<|.h .g<|.h .ww<|.k<|.k<|.k<|.m (.acc 1 (n.az.map vi))<|.w<|.x (vi i)<|.m (.dagg [di a,.acc 1 ((n.az++ws).map vi)])<|.h .ww<|.ro) ((∀(o:yw) (c:Call) (fo:x5),o.op=Op.call c->c.callee=Callee.value fo->Ay PP o [bt (bw 148 [] []),bt (AX l)] bf (bo 1 0 (I l)) (bi [none,G C] []))/\((I (U vi W):Int)==0)=O/\iz 0<=0/\(U vi W)[Z 0]?=G (vi a)/\iz 0<=0/\Q (G (vi (i:Int)))/\0<=(i:Int)/\(i:Int)<(I l:Int)/\C[((0+Z (i:Int)*2)+1)]?=G (cy n.az)/\Aa PP 85 [cy n.az] (bi [] []) (br 1 (U vi n.az)) (bi [] [(1,1,U vi n.az)])/\Aa PP 85 [cy n.az] (bi [] []) (br 1 (U vi n.az)) (bi [] [(1,1,U vi n.az)])/\Q (br 1 (U vi n.az))/\Q [bi [none,G C,G [di 0,dn]] [],bi [none,G C,G [di 0,dn]] [(1,1,U vi n.az)]]/\2<=2/\((AG (bi [none,G C] []) (Ld.mk 1 (((0+Z (i:Int)*2)+1)) 1 (AG (bi [none,G C] []) 1 (((0+Z (i:Int)*2)+1)) 1)).q (Ld.mk 1 (((0+Z (i:Int)*2)+1)) 1 (AG (bi [none,G C] []) 1 (((0+Z (i:Int)*2)+1)) 1)).off (Ld.mk 1 (((0+Z (i:Int)*2)+1)) 1 (AG (bi [none,G C] []) 1 (((0+Z (i:Int)*2)+1)) 1)).n=(Ld.mk 1 (((0+Z (i:Int)*2)+1)) 1 (AG (bi [none,G C] []) 1 (((0+Z (i:Int)*2)+1)) 1)).c/\AG (bi [none,G C] [(1,1,U vi n.az)]) (Ld.mk 1 (((0+Z (i:Int)*2)+1)) 1 (AG (bi [none,G C] []) 1 (((0+Z (i:Int)*2)+1)) 1)).q (Ld.mk 1 (((0+Z (i:Int)*2)+1)) 1 (AG (bi [none,G C] []) 1 (((0+Z (i:Int)*2)+1)) 1)).off (Ld.mk 1 (((0+Z (i:Int)*2)+1)) 1 (AG (bi [none,G C] []) 1 (((0+Z (i:Int)*2)+1)) 1)).n=(Ld.mk 1 (((0+Z (i:Int)*2)+1)) 1 (AG (bi [none,G C] []) 1 (((0+Z (i:Int)*2)+1)) 1)).c/\AG (bi [none,G C,G [di 0,dn]] []) (Ld.mk 1 (((0+Z (i:Int)*2)+1)) 1 (AG (bi [none,G C] []) 1 (((0+Z (i:Int)*2)+1)) 1)).q (Ld.mk 1 (((0+Z (i:Int)*2)+1)) 1 (AG (bi [none,G C] []) 1 (((0+Z (i:Int)*2)+1)) 1)).off (Ld.mk 1 (((0+Z (i:Int)*2)+1)) 1 (AG (bi [none,G C] []) 1 (((0+Z (i:Int)*2)+1)) 1)).n=(Ld.mk 1 (((0+Z (i:Int)*2)+1)) 1 (AG (bi [none,G C] []) 1 (((0+Z (i:Int)*2)+1)) 1)).c/\AG (bi [none,G C,G [di 0,dn]] [(1,1,U vi n.az)]) (Ld.mk 1 (((0+Z (i:Int)*2)+1)) 1 (AG (bi [none,G C] []) 1 (((0+Z (i:Int)*2)+1)) 1)).q (Ld.mk 1 (((0+Z (i:Int)*2)+1)) 1 (AG (bi [none,G C] []) 1 (((0+Z (i:Int)*2)+1)) 1)).off (Ld.mk 1 (((0+Z (i:Int)*2)+1)) 1 (AG (bi [none,G C] []) 1 (((0+Z (i:Int)*2)+1)) 1)).n=(Ld.mk 1 (((0+Z (i:Int)*2)+1)) 1 (AG (bi [none,G C] []) 1 (((0+Z (i:Int)*2)+1)) 1)).c/\AG (bi [none,G C,G [di a,br 1 (U vi n.az)]] [(1,1,U vi n.az)]) (Ld.mk 1 (((0+Z (i:Int)*2)+1)) 1 (AG (bi [none,G C] []) 1 (((0+Z (i:Int)*2)+1)) 1)).q (Ld.mk 1 (((0+Z (i:Int)*2)+1)) 1 (AG (bi [none,G C] []) 1 (((0+Z (i:Int)*2)+1)) 1)).off (Ld.mk 1 (((0+Z (i:Int)*2)+1)) 1 (AG (bi [none,G C] []) 1 (((0+Z (i:Int)*2)+1)) 1)).n=(Ld.mk 1 (((0+Z (i:Int)*2)+1)) 1 (AG (bi [none,G C] []) 1 (((0+Z (i:Int)*2)+1)) 1)).c/\True)/\True)/\Q (G (br 1 (U vi n.az)))/\(∀(x:V),x∈U vi W->V.size x=1)/\0<=(1:Int)/\(1:Int)<=(I (U vi W):Int)/\Q (U vi n.az)/\A9 (I (U vi n.az)+I (List.drop (Z ((1:Int))) (take (I (U vi W)) (U vi W)))) 8/\(∀(y:V),y∈List.drop (Z ((1:Int))) (take (I (U vi W)) (U vi W))->V.size y=1)/\yn/\iz 0<=0/\Q (G (vi (i:Int)))/\2<=2/\[di a,br 1 (U vi n.az++List.drop (Z ((1:Int))) (take (I (U vi W)) (U vi W)))]=[di a,br 1 (U vi (n.az++ws))]/\0<=(i:Int)/\(i:Int)<(I l:Int)/\0+Z (i:Int)*2+2<=I C/\yn/\cp 3 [1] [none,G (take (0+Z (i:Int)*2) C++[di a,br 1 (U vi (n.az++ws))]++List.drop (0+Z (i:Int)*2+2) C),G [di a,br 1 (U vi n.az++List.drop (Z ((1:Int))) (take (I (U vi W)) (U vi W)))]]=J/\[none,G (take (0+Z (i:Int)*2) C++[di a,br 1 (U vi (n.az++ws))]++List.drop (0+Z (i:Int)*2+2) C),G [di a,br 1 (U vi n.az++List.drop (Z ((1:Int))) (take (I (U vi W)) (U vi W)))]]=[none,G (take (i*2) C++[di a,br 1 (U vi (n.az++ws))]++List.drop (i*2+2) C),G [di a,br 1 (U vi (n.az++ws))]]/\[(1,1,U vi n.az++List.drop (Z ((1:Int))) (take (I (U vi W)) (U vi W)))]=[(1,1,U vi (n.az++ws))]/\Q (bo 1 0 (I l))) ?_
  have e:0+Z (i:Int)*2=i*2:=by omega
  have ed:List.drop (Z 1) (take (I (W.map vi)) (W.map vi))=ws.map vi:=by rw[List.take_length,hW];rfl
  have em:n.az.map vi++ws.map vi=(n.az++ws).map vi:=by rw[Jq]
  have hWl:I W=I ws+1:=by rw[hW];rfl
  have hc1:=Adk n.az (by omega)
  rw[e,ed,em]
  refine⟨fun o c fo ho hc=>Zt l hl (by rintro rfl;simp at hi) hC ho hc,I7.2 (by rw[HP];omega),by decide,by rw[hW];rfl,by decide,rfl,by omega,by omega,by rw[hC];exact xu hi,hc1,hc1,rfl,rfl,by decide,⟨⟨rfl,rfl,rfl,rfl,rfl,trivial⟩,trivial⟩,rfl,CT W,by decide,by rw[HP,hWl];omega,rfl,⟨by rw[HP,HP];omega,by rw[HP,HP];omega⟩,CT ws,yl,by decide,rfl,by decide,rfl,by omega,by omega,hb,yl,?_,rfl,rfl,rfl⟩
  simp only[cp,all_cons,all_nil,Bool.and_true,I2,LY hp (X:=[di a,.acc 1 ((n.az++ws).map vi)]) (n:=3) (ts:=[1]) rfl]
  rfl
 have h1:=JV h (G1 (q:=1) (cs:=C.take (i*2)++[di a,.acc 1 ((n.az++ws).map vi)]++C.drop (i*2+2)) (cs':=Ad ((l.set i ⟨a,n.az++ws⟩).map cm)) rfl (fun g us h=>?_) (fun _ c hc=>?_) _)
 ·exact LC (JV h1 (TN (q:=1) (t:=0) (sz:=2) (n:=I l) (xs:=(l.set i ⟨a,n.az++ws⟩).map cm) (by decide) (Hz _) (by rw[HP,length_set]) rfl rfl))
 ·rw[←RN l i ⟨a,n.az++ws⟩ hil, ←hC]
  exact(RR (RR (Dv.DSL.refl _) (.cons (.same _) (.cons .acc .nil))) (Dv.DSL.refl _)).rep h
 ·exact ID.1 (R9 _) c hc
noncomputable abbrev ti:=Tryz.f90
noncomputable def xg:=yj ti
theorem AbW(m:ba)(hlv:m.ao=1∨m.ao=2)(hT:F0 35 [Ax m] (.tup [dT (BP m),di 0]))(s:Int)(l:List Nd)(hl:I l<=200)(hk:∀n∈l,I n.az<=200)(w:bd)(e:Int)
  (hz:(fb m.ao s l).size<=10000) (hS:F0 146 [dT (BP m),dV (fb m.ao s l)] (.tup [dV w,di e])) (n:Nat):∀k:Nat,I l-k=n->k<=I l->
  Rn PP ti 0 (.tup [dV w,db (e==0)]) bf ([kl xg [1,1,0,1,0,0],.blk 0,kc xg [1,1,1]]++[]) (b9 62 [(1,di s),(3,.v (.ref (AE m))),(6,.ptr 0 0),(8,.ptr 1 0),(17,.v (AX l)),(18,di (I l)),(19,di k)]) (ei 0 ((l.take k).map (d7 m.ao))):=by
 induction n with
 |zero=>
  intro k hn hk
  refine lv 62 [3] (.f<|.c (.tup [dT (BP m),di 0])<|.c (dV (fb m.ao s l))<|.c (.tup [dV w,di e])<|.r) (Y ((k:Int)<(I l:Int))=O/\F0 35 [Ax m] (bl [dT (BP m),di 0])/\F0 147 [di s,bt (ai [ab [vi 0,ai (U eV (U (d7 m.ao) (take k l)))]])] (dV (fb m.ao s l))/\F0 146 [bt (ab [vi (bc.kd (BP m)),vi (bc.sz (BP m)),cz (bc.rk (BP m)),ai [eT (bc.lab (I m.aw:Int)),eT (fm (I m.ax:Int) m.ao)]]),bt (Au (fb m.ao s l))] (bl [dV w,di e])/\((Q (G [di (bc.kd (BP m)),di (bc.sz (BP m)),bt (cz (bc.rk (BP m))),bt (ai [eT (bc.lab (I m.aw:Int)),eT (fm (I m.ax:Int) m.ao)])])/\True)/\(Q (G [di 0,br 1 (U eV (U (d7 m.ao) (take k l)))])/\True)/\True)/\bl [bt (ab [vi w.n,ai (U eV w.az)]),db (e==0)]=bl [dV w,db (e==0)]) ?_
  rw[Iw (by omega)]
  have hw:=NC s (.mk 0 (l.map (d7 m.ao))) (by simp only[fb,bd.size,bd.sizes] at hz⊢;omega)
  exact⟨yo,hT,hw,hS,⟨⟨rfl,trivial⟩,⟨rfl,trivial⟩,trivial⟩,rfl⟩
 |succ n ih=>
  intro k hn hk'
  obtain⟨x,hx⟩:=yi (show k<I l by omega)
  have hxk:=hk x (HW hx)
  have hz1:I (l.take k)<=200:=by rw[Iy];omega
  have hi:=ih (k+1) (by omega) (by omega)
  have hm0:((l.take (k+1)).map (d7 m.ao)).map eV=((l.take k).map (d7 m.ao)).map eV++[eV (d7 m.ao x)]:=by rw[Jn,hx,Jq,Option.toList_some,Iu,IP,Jq,Iu,IP]
  rcases hlv with e1|e1
  ·have hm:((l.take (k+1)).map (d7 m.ao)).map eV=((l.take k).map (d7 m.ao)).map eV++[ab [vi x.lab,ai []]]:=by rw[hm0,AR,d7,Io e1];rfl
   exact lv 62 [3] (.t<|.h (.xs (cm x))<|.f<|.ls [ke 1,ke 3,ke 6,ke 8,ke 17,ke 18,ch 19 (di (k+1:Nat))] (ei 0 ((l.take (k+1)).map (d7 m.ao)))) (Y ((k:Int)<(I l:Int))=J/\Q 2/\0<=(k:Int)/\(U cm l)[Z (k:Int)]?=G (cm x)/\Y (m.ao>1)=O/\Q (U eV (U (d7 m.ao) (take k l)))/\A9 (I (U eV (U (d7 m.ao) (take k l)))+I (ab (vi x.lab::ai nV::nV)::nV)) 32/\di (yr yq ((k:Int)+1))=di (↑(k+1):Int)/\[G [di 0,dn],G [di 0,br 1 (U eV (U (d7 m.ao) (take k l))++ab (vi x.lab::ai nV::nV)::nV)]]=[G [di 0,dn],G [di 0,br 1 (U eV (U (d7 m.ao) (take (k+1) l)))]]/\[(1,2,U eV (U (d7 m.ao) (take k l))++ab (vi x.lab::ai nV::nV)::nV)]=[(1,2,U eV (U (d7 m.ao) (take (k+1) l)))]/\_) ⟨yp,rfl,by omega,A3 hx,yo,rfl,⟨by simp only[HP,HV,HZ];omega,by simp only[HP,HV,HZ];omega⟩,As,by rw[hm],by rw[hm],iK hi⟩
  ·have hm:((l.take (k+1)).map (d7 m.ao)).map eV=((l.take k).map (d7 m.ao)).map eV++[ab [vi 0,ai [ab [vi x.lab,ai []],ab [vi 0,ai ((x.az.map lf).map Au)]]]]:=by
    rw[hm0,AR,d7,Ij (by omega)]
    show _++[ab [vi 0,ai [eV (lf x.lab),eV (.mk 0 (x.az.map lf))]]]=_
    rw[AR,AR]
    show _++[ab [vi 0,ai [ab [vi x.lab,ai []],ab [vi 0,ai ((x.az.map lf).map eV)]]]]=_
    rw[show(x.az.map lf).map eV=(x.az.map lf).map Au from List.map_congr_left fun y _=>AR y]
   exact lv 62 [3] (.t<|.h (.xs (cm x))<|.t<|.c (.v (.list ((x.az.map lf).map Au)))<|.ls [ke 1,ke 3,ke 6,ke 8,ke 17,ke 18,ch 19 (di (k+1:Nat))] (ei 0 ((l.take (k+1)).map (d7 m.ao)))) (Y ((k:Int)<(I l:Int))=J/\Q 2/\0<=(k:Int)/\(U cm l)[Z (k:Int)]?=G (cm x)/\Y (m.ao>1)=J/\_/\ym/\Q (U eV (U (d7 m.ao) (take k l)))/\A9 (I (U eV (U (d7 m.ao) (take k l)))+I (ab (aa yq 0::ai (ab (vi x.lab::ai nV::nV)::ab (aa yq 0::ai (U Au (U lf x.az))::nV)::nV)::nV)::nV)) 32/\di (yr yq ((k:Int)+1))=di (↑(k+1):Int)/\[G [di 0,dn],G [di 0,br 1 (U eV (U (d7 m.ao) (take k l))++ab (vi 0::ai (ab (vi x.lab::ai nV::nV)::ab (vi 0::ai (U Au (U lf x.az))::nV)::nV)::nV)::nV)]]=[G [di 0,dn],G [di 0,br 1 (U eV (U (d7 m.ao) (take (k+1) l)))]]/\[(1,2,U eV (U (d7 m.ao) (take k l))++ab (vi 0::ai (ab (vi x.lab::ai nV::nV)::ab (vi 0::ai (U Au (U lf x.az))::nV)::nV)::nV)::nV)]=[(1,2,U eV (U (d7 m.ao) (take (k+1) l)))]/\_) ⟨yp,rfl,by omega,A3 hx,yp,Yp x.az (by omega),yk,rfl,⟨by simp only[HP,HV,HZ];omega,by simp only[HP,HV,HZ];omega⟩,As,by rw[hm],by rw[hm],iK hi⟩
theorem O8(m:ba)(hlv:m.ao=1∨m.ao=2)(hT:F0 35 [Ax m] (.tup [dT (BP m),di 0]))(s:Int)(l:List Nd)(hl:I l<=200)(hk:∀n∈l,I n.az<=200)(w:bd)(e:Int)
  (hz:(fb m.ao s l).size<=10000) (hS:F0 146 [dT (BP m),dV (fb m.ao s l)] (.tup [dV w,di e])):F0 90 [Ax m,di s,.v (AX l)] (.tup [dV w,db (e==0)]):=by
 have hlp:=AbW m hlv hT s l hl hk w e hz hS _ 0 rfl (I3 _)
 exact sv ti 62 [3] (.h .rn<|.h (.q 2 0)<|.h (.cl 1 1 1 2)<|.ls [ke 1,ke 3,ke 6,ke 8,ch 17 (.v (AX l)),ch 18 (di (I l)),ch 19 (di (0:Nat))] (ei 0 [])) (Q (bt (AX l))/\di (I (U cm l):Int)=di (I l:Int)/\Q (di 0)/\Q (ei 0 []).H/\Q [(1,2,nV)]/\_) ⟨rfl,by rw[HP],rfl,rfl,rfl,iK hlp⟩
noncomputable abbrev TC:=Tryz.f49
noncomputable def Uk:=yj TC
noncomputable abbrev Amm:=Tryz.f94
theorem AbX(x y:bd)(hx:x.size<=1000):F0 94 [dV x,dV y] (db (AB x y==0)):=by
 exact sv Amm 9 [2,3] (.c (di (AB x y)) .r) (_/\Q (db (AB x y==0))) ⟨JK _ x y (HX _) (by omega),rfl⟩
theorem AhS(ys:List bd)(hl:I ys<=1000)(hs:∀v∈ys,v.size<=1000000){o:yw}{c:Call}{fo:x5}(ho:o.op=.call c)(hc:c.callee=.value fo):
  Ay PP o [.v (.fn 92 [] []),.arr 0 0 (I ys),dfn 39] ⟨[G (Ad (ys.map eV))],[]⟩ (.tup []) ⟨[G (Ad ((sortV ys).map eV))],[]⟩:=
 C9 ho hc (fD:=.v (.fn 92 [] [])) rfl (H:=[Ad (ys.map eV)]) (ds:=[.arr 0 0 (I ys),dfn 39]) (Fw ys (by omega) hs) rfl (fun cs h=>by rw[Ii.1 h];exact⟨Az _ _ _,CA _⟩) rfl (by simp[cp,Az]) (HX 1)
theorem AhW(xs zs:List bd)(R:List D)(hR:D.pls R=J){F:yv}{o:yw}{c:Call}{fo:x5}(ho:o.op=.call c)(hc:c.callee=.value fo)
  (h:Aa PP 93 [.arr 0 0 (I xs),dfn F] ⟨[G (Ad (xs.map eV))],[]⟩ (.arr 0 0 (I zs)) ⟨[G (Ad (zs.map eV)++R)],[]⟩):
  Ay PP o [.v (.fn 93 [] []),.arr 0 0 (I xs),dfn F] ⟨[G (Ad (xs.map eV))],[]⟩ (.arr 0 0 (I zs)) ⟨[G (Ad (zs.map eV)++R)],[]⟩:=
 C9 ho hc (fD:=.v (.fn 93 [] [])) rfl (H:=[Ad (xs.map eV)]) (ds:=[.arr 0 0 (I xs),dfn F]) h rfl (fun cs h=>by rw[Ii.1 h];exact⟨Az _ _ _,CA _⟩) rfl (Ik.2 ⟨B2 (Pv _ hR),rfl⟩) (HX 1)
abbrev oq(xs:List bd):St:=⟨[G (Ad (xs.map eV))],[]⟩
section
variable (m : ba) (r : cq) (l : List Nd) (P : List (List Int)) (F : List Int -> List Nd) (W : List Int -> bd) (K : List Int -> Bool)
def ij:List bd×Int:=if P.all K=J then(Rc (P.map W),0) else([],1)
end
section
variable {m : ba} {r : cq} {l : List Nd} {P : List (List Int)} {F : List Int -> List Nd} {W : List Int -> bd} {K : List Int -> Bool} {p : List bd × Int} (hp : p = ij P W K) (hP : (I P) <= 1000) (hW : ∀ x ∈ P, (W x).size <= 1000)
 (h1:∀x∈P,Aa PP 91 [.v (AX l),cy x,cy r.next] bf (.v (AX (F x))) bf) (h2:∀x∈P,Aa PP 90 [Ax m,di r.to,.v (AX (F x))] bf (.tup [dV (W x),db (K x)]) bf)
include hp hP hW h1 h2
theorem AbY(n:Nat):∀k:Nat,I P-k=n->0<k->k<=I P->(∀x∈P.take k,K x=J)->
  Rn PP TC 0 (.tup [cx p.1,di p.2]) bf ([kl Uk [1,1,1,1,1,1,1,0,1,0,0],.blk 0,kc Uk [1,1,1,1,1,1,1,1]]++[]) (b9 74 [(3,.v (.ref (AE m))),(9,.v (.ref (AD r))),(10,.v (AX l)),(11,.gro 0 k 2),(45,.v (.list (P.map cz))),(46,di (I P)),(47,di k)]) (oq ((P.take k).map W)):=by
 induction n with
 |zero=>
  intro k hn h0 hk hK
  have hPt:P.take k=P:=Iw (by omega)
  have hall:P.all K=J:=ID.2 fun x hx=>hK x (by rw[hPt];exact hx)
  have hk':k=I (P.map W):=by rw[HP];omega
  have hkl:k=I (sortV (P.map W)):=by rw[(AN _).length_eq];exact hk'
  have hsz:∀v∈P.map W,v.size<=1000:=fun v hv=>by obtain⟨x,hx,rfl⟩:=IA.1 hv;exact hW x hx
  obtain⟨R,c3,_,c4⟩:=xl 94 (sortV (P.map W)) kz (by rw[(AN _).length_eq];omega) (fun x hx y hy=>AbX x y (hsz x ((AN _).mem_iff.1 hx)))
  rw[show AW kz (sortV (P.map W))=Rc (P.map W) from rfl] at c4
  unfold ij at hp
  rw[Io hall] at hp
  obtain⟨zs,hzs⟩:∃zs,zs=Rc (P.map W):=⟨_,rfl⟩
  rw[←hzs] at c4 hp
  subst hp
  show Rn PP TC 0 (.tup [cx zs,di 0]) bf _ _ _
  refine lv 74 [3,5] (.f<|.h (.q 19 1)<|.h (.ga 70)<|.h (.oc (.tup []) (oq (sortV (P.map W))))<|.h (.q 20 1)<|.h (.ga 72)<|.h (.oc (.arr 0 0 (I zs)) ⟨[G (Ad (zs.map eV)++R)],[]⟩)<|.h (.q 20 2)<|.h (.ct 73 (cx zs) ⟨[none],[]⟩) .r) (Y ((k:Int)<(I P:Int))=O/\(∀(o:yw) (c:Call) (fo:x5),o.op=Op.call c->c.callee=Callee.value fo->Ay PP o [bt (bw 92 [] []),bo 0 0 k,bt (bw 39 [] [])] (oq (U W (take k P))) (bl []) (oq (sortV (U W P))))/\(∀(o:yw) (c:Call) (fo:x5),o.op=Op.call c->c.callee=Callee.value fo->Ay PP o [bt (bw 93 [] []),bo 0 0 k,bt (bw 94 [] [])] (oq (sortV (U W P))) (bo 0 0 (I zs)) (bi [G (Ad (U eV zs)++R)] []))/\(∀(e:List D),e[73]?=G (bo 0 0 (I zs))->∀(E:co) (g:Gh) (a:Act) (w:yy),FI E g (bi [G (Ad (U eV zs)++R)] []) e a w->∃g',FI E g' (bi [none] []) (List.set e 73 (cx zs)) a w)/\bl [cx zs,di 0]=bl [cx zs,di 0]) ?_
  rw[hPt]
  refine⟨yo,fun o cl fo ho hc=>?_,fun o cl fo ho hc=>?_,fun e he=>K4 (σ:=⟨[G (Ad (zs.map eV)++R)],[]⟩) (q:=0) (sz:=2) (by decide) (Fx _) (by rw[HP]) rfl he,rfl⟩
  ·have:=AhS (P.map W) (by omega) (fun v hv=>by have:=hsz v hv;omega) ho hc
   rwa[←hk'] at this
  ·have:=AhW (sortV (P.map W)) zs R c3 ho hc c4
   rwa[←hkl] at this
 |succ n ih=>
  intro k hn h0 hk hK
  obtain⟨x,hx⟩:=yi (show k<I P by omega)
  have hxm:=HW hx
  cases hb:K x with
  |false=>
   have hall:¬P.all K=J:=fun h=>by have:=ID.1 h x hxm;rw[hb] at this;exact absurd this (by decide)
   unfold ij at hp
   rw[Ij hall] at hp
   subst hp
   show Rn PP TC 0 (.tup [cx [],di 1]) bf _ _ _
   exact lv 74 [3,5] (.t<|.x (cz x)<|.c (.v (AX (F x)))<|.c (.tup [dV (W x),db O])<|.k<|.r) (Y ((k:Int)<(I P:Int))=J/\0<=(k:Int)/\(U cz P)[Z (k:Int)]?=G (cz x)/\_/\F0 90 [Ax m,di r.to,bt (AX (F x))] (bl [dV (W x),db O])/\Q (bl [cx [],di 1])) ⟨yp,by omega,by rw[Ji,I9,hx];rfl,h1 x hxm,hb▸h2 x hxm,rfl⟩
  |true=>
   have ht:P.take (k+1)=P.take k++[x]:=by rw[Jn,hx];rfl
   have ih':=ih (k+1) (by omega) (by omega) (by omega) (fun y hy=>by
    rw[ht] at hy
    rcases IE.1 hy with h|h
    ·exact hK y h
    ·rw[Ii.1 h];exact hb)
   have hg:Rn PP TC 0 (.tup [cx p.1,di p.2]) bf ([kl Uk [1,1,1,1,1,1,1,0,1,0,0],.blk 0,kc Uk [1,1,1,1,1,1,1,1]]++[]) (b9 74 [(3,.v (.ref (AE m))),(9,.v (.ref (AD r))),(10,.v (AX l)),(11,.gro 2 (k+1) 2),(45,.v (.list (P.map cz))),(46,di (I P)),(47,di (k+1:Nat))]) ⟨[none,G [di (W x).n,cx (W x).az],G (Ad (((P.take (k+1)).map W).map eV))],[]⟩:=by
    refine CW (H0:=[none,G [di (W x).n,cx (W x).az]]) (fun E0 E h=>h.2) 2 rfl (fun cs hc=>?_) ?_ ?_ ih'
    ·rw[Is (Ii.1 hc)];exact A5 _
    ·kernel_rfl
    ·kernel_rfl
   have hlk:I (Ad (((P.take k).map W).map eV))=k*2:=by rw[BC,HP,Iy];omega
   have he:Ad (((P.take k).map W).map eV)++Ad [Au (W x)]=Ad (((P.take (k+1)).map W).map eV):=by
    rw[ht,Jq,DR]
    simp[Ad,AR]
   refine lv 74 [3,5] (.t<|.x (cz x)<|.c (.v (AX (F x)))<|.c (.tup [dV (W x),db J])<|.k<|.lo [ke 3,ke 9,ke 10,ch 11 (.gro 2 (k+1) 2),ke 45,ke 46,ch 47 (di (k+1:Nat))] ⟨[none,G [di (W x).n,cx (W x).az],G (Ad (((P.take (k+1)).map W).map eV))],[]⟩) (Y ((k:Int)<(I P:Int))=J/\0<=(k:Int)/\(U cz P)[Z (k:Int)]?=G (cz x)/\F0 91 [bt (AX l),cy x,cy r.next] (bt (AX (F x)))/\F0 90 [Ax m,di r.to,bt (AX (F x))] (bl [dV (W x),db J])/\I (Ad (U eV (U W (take k P))))=k*2/\[ab [vi (bd.n (W x)),cc (bd.az (W x))]]≠ []/\(∀(y:V),y∈ [ab [vi (bd.n (W x)),cc (bd.az (W x))]]->V.size y=2)/\A9 (k+I (ab (vi (bd.n (W x))::cc (bd.az (W x))::nV)::nV)) 32/\bm 2 (k+I (ab (vi (bd.n (W x))::cc (bd.az (W x))::nV)::nV)) 2=bm 2 (k+1) 2/\di (yr yq ((k:Int)+1))=di (↑(k+1):Int)/\cp 3 [] [none,G [di (bd.n (W x)),bt (cc (bd.az (W x)))],G (Ad (U eV (U W (take k P)))++[di (bd.n (W x)),bt (cc (bd.az (W x)))])]=J/\[none,G [di (bd.n (W x)),bt (cc (bd.az (W x)))],G (Ad (U eV (U W (take k P)))++[di (bd.n (W x)),bt (cc (bd.az (W x)))])]=[none,G [di (bd.n (W x)),cx (bd.az (W x))],G (Ad (U eV (U W (take (k+1) P))))]/\I0 TC 0 (bl [cx p.fst,di p.snd]) bf [kl Uk [1,1,1,1,1,1,1,0,1,0,0],bh 0,kc Uk [1,1,1,1,1,1,1,1]] (b9 74 [(3,bt (bz (AE m))),(9,bt (bz (AD r))),(10,bt (AX l)),(11,bm 2 (k+1) 2),(45,bt (ai (U cz P))),(46,di (I P:Int)),(47,di (↑(k+1):Int))]) (bi [none,G [di (bd.n (W x)),cx (bd.az (W x))],G (Ad (U eV (U W (take (k+1) P))))] [])) ?_
   have he':Ad (((P.take k).map W).map eV)++[di (W x).n,cx (W x).az]=Ad (((P.take (k+1)).map W).map eV):=by rw[←he];rfl
   rw[he']
   exact⟨yp,by omega,by rw[Ji,I9,hx];rfl,h1 x hxm,hb▸h2 x hxm,hlk,by simp,fun y hy=>by rw[Ii.1 hy];rfl,⟨by simp only[HV,HZ];omega,by simp only[HV,HZ];omega⟩,rfl,As,by simp[cp,Az,D.okNs,D.okN],rfl,⟨hg⟩⟩
theorem Yt:Rn PP TC 0 (.tup [cx p.1,di p.2]) bf ([kl Uk [1,1,1,1,1,1,1,0,1,0,0],.blk 0,kc Uk [1,1,1,1,1,1,1,1]]++[]) (b9 74 [(3,.v (.ref (AE m))),(9,.v (.ref (AD r))),(10,.v (AX l)),(11,.v .nils),(45,.v (.list (P.map cz))),(46,di P.length),(47,di (0:Nat))]) bf:=by
 by_cases hP0:P=[]
 ·have:p=([],0):=by rw[hp,hP0];simp[ij,Rc,sortV,AW]
  subst this
  have hPl:P.length=0:=by rw[hP0];rfl
  show Rn PP TC 0 (.tup [cx [],di 0]) bf _ _ _
  refine lv 74 [3,5] (.f<|.c (.tup [])<|.c (dl []) .r) (decide ((↑0:Int)<(P.length:Int))=false/\F0 92 [bt (ai []),bt (bw 39 [] [])] (bl [])/\F0 93 [bt (ai []),bt (bw 94 [] [])] (dl [])/\bl [bt (ai []),di 0]=bl [cx [],di 0]) ?_
  exact⟨yo,Gp,Aaa _,rfl⟩
 ·have hPl:0<P.length:=List.length_pos_iff.2 hP0
  obtain⟨x,hx⟩:∃x,P[0]?=some x:=⟨_,HQ hPl⟩
  have hxm:=HW hx
  cases hb:K x with
  |false=>
   have hall:¬P.all K=true:=fun h=>by have:=ID.1 h x hxm;rw[hb] at this;exact absurd this (by decide)
   unfold ij at hp
   rw[Ij hall] at hp
   subst hp
   show Rn PP TC 0 (.tup [cx [],di 1]) bf _ _ _
   refine lv 74 [3,5] (.t<|.x (cz x)<|.c (.v (AX (F x)))<|.c (.tup [dV (W x),db false])<|.k<|.r) (decide ((↑0:Int)<(P.length:Int))=true/\0<=(↑0:Int)/\(map cz P)[Int.toNat (↑0:Int)]?=some (cz x)/\F0 91 [bt (AX l),cy x,cy r.next] (bt (AX (F x)))/\F0 90 [Ax m,di r.to,bt (AX (F x))] (bl [dV (W x),db false])/\bl [bt (ai []),di 1]=bl [cx [],di 1]) ?_
   exact⟨yp,by decide,by show(P.map cz)[0]?=_;rw[I9,hx];rfl,h1 x hxm,hb▸h2 x hxm,rfl⟩
  |true=>
   have ht:P.take 1=[x]:=by
    rw[show 1=0+1 from rfl,Jn,hx];rfl
   have ih':=AbY hp hP hW h1 h2 _ 1 rfl (by decide) (by omega) (fun y hy=>by rw[ht] at hy;rw[Ii.1 hy];exact hb)
   have hg:Rn PP TC 0 (.tup [cx p.1,di p.2]) bf ([kl Uk [1,1,1,1,1,1,1,0,1,0,0],.blk 0,kc Uk [1,1,1,1,1,1,1,1]]++[]) (b9 74 [(3,.v (.ref (AE m))),(9,.v (.ref (AD r))),(10,.v (AX l)),(11,.gro 1 1 2),(45,.v (.list (P.map cz))),(46,di P.length),(47,di (1:Nat))]) ⟨[some [di (W x).n,cx (W x).az],some (Ad [Au (W x)])],[]⟩:=by
    have e:Ad [Au (W x)]=Ad (((P.take 1).map W).map eV):=by rw[ht];simp[Ad,AR]
    rw[e]
    refine CW (H0:=[some [di (W x).n,cx (W x).az]]) (fun E0 E h=>h.2) 1 rfl (fun cs hc=>?_) ?_ ?_ ih'
    ·rw[Is (Ii.1 hc)];exact A5 _
    ·kernel_rfl
    ·kernel_rfl
   refine lv 74 [3,5] (.t<|.x (cz x)<|.c (.v (AX (F x)))<|.c (.tup [dV (W x),db true])<|.k<|.h (.q 17 3)<|.h .g<|.lo [ke 3,ke 9,ke 10,ch 11 (.gro 1 1 2),ke 45,ke 46,ch 47 (di (1:Nat))] ⟨[some [di (W x).n,cx (W x).az],some (Ad [Au (W x)])],[]⟩) (decide ((↑0:Int)<(P.length:Int))=true/\0<=(↑0:Int)/\(map cz P)[Int.toNat (↑0:Int)]?=some (cz x)/\F0 91 [bt (AX l),cy x,cy r.next] (bt (AX (F x)))/\F0 90 [Ax m,di r.to,bt (AX (F x))] (bl [dV (W x),db true])/\[ab [vi (bd.n (W x)),cc (bd.az (W x))]]≠ []/\(∀(y:V),y∈ [ab [vi (bd.n (W x)),cc (bd.az (W x))]]->V.size y=2)/\A9 1 32/\Q (bm 1 1 2)/\di (yr yq ((↑0:Int)+1))=di (↑1:Int)/\cp 2 [] [some [di (bd.n (W x)),bt (cc (bd.az (W x)))],some [di (bd.n (W x)),bt (cc (bd.az (W x)))]]=true/\[some [di (bd.n (W x)),bt (cc (bd.az (W x)))],some [di (bd.n (W x)),bt (cc (bd.az (W x)))]]=[some [di (bd.n (W x)),cx (bd.az (W x))],some [di (bd.n (W x)),bt (cc (bd.az (W x)))]]/\I0 TC 0 (bl [cx p.fst,di p.snd]) bf [kl Uk [1,1,1,1,1,1,1,0,1,0,0],bh 0,kc Uk [1,1,1,1,1,1,1,1]] (b9 74 [(3,bt (bz (AE m))),(9,bt (bz (AD r))),(10,bt (AX l)),(11,bm 1 1 2),(45,bt (ai (map cz P))),(46,di (P.length:Int)),(47,di (↑1:Int))]) (bi [some [di (bd.n (W x)),cx (bd.az (W x))],some [di (bd.n (W x)),bt (cc (bd.az (W x)))]] [])) ?_
   exact⟨yp,by decide,by show(P.map cz)[0]?=_;rw[I9,hx];rfl,h1 x hxm,hb▸h2 x hxm,by simp,fun y hy=>by rw[Ii.1 hy];rfl,⟨by decide,by decide⟩,rfl,rfl,rfl,rfl,⟨hg⟩⟩
end
noncomputable abbrev Amk:=Tryz.f87
def fq(l:List Nd):List Int->List Int->List Nd
 |[],[]=>l
 |[],x::ks=>l++[⟨x,ks⟩]
 |i::_,[]=>l.eraseIdx i.toNat
 |[i],a::ws=>match l[i.toNat]? with
  |some n=>l.set i.toNat ⟨a,n.az++ws⟩
  |none=>l
 |i::k::_,[a]=>match l[i.toNat]? with
  |some n=>l.set i.toNat ⟨a,n.az.eraseIdx k.toNat⟩
  |none=>l
 |i::k::_,a::b::_=>match l[i.toNat]? with
  |some n=>l.set i.toNat ⟨a,n.az.set k.toNat b⟩
  |none=>l
theorem Yr(l:List Nd)(hl:I l<=1000)(hk:∀n∈l,I n.az<=1000)(w p nx:List Int)(hf:re l w p)(hw:0<I w+I nx)(hn:I nx<=1000):F0 91 [.v (AX l),cy p,cy nx] (.v (AX (fq l p nx))):=by
 match w,hf with
 |[],hf=>
  have hf:p=[]:=hf
  subst hf
  match nx,hw,hn with
  |x::ks,_,hn=>exact Am7 l hl (x::ks) x ks rfl (by simp at hn;omega)
 |[a],hf=>
  obtain⟨i,hi,rfl⟩:∃i:Nat,i<I l/\p=[(i:Int)]:=hf
  match nx,hn with
  |[],_=>exact vt l hl i hi []
  |x::ws,hn=>
   have hx:l[i]?=G l[i]:=HQ hi
   have e:fq l [(i:Int)] (x::ws)=l.set i ⟨x,(l[i]).az++ws⟩:=by
    simp only[fq,Ji,hx]
   rw[e]
   exact Alc l hl i l[i] hx (hk _ (List.getElem_mem hi)) x ws (by simp at hn;omega)
 |a::b::w',hf=>
  obtain⟨i,k,n,hi,hkn,rfl⟩:∃(i k:Nat) (n:Nd),l[i]?=G n/\k<I n.az/\p=[(i:Int),(k:Int)]:=hf
  have hil:=(HT.1 hi).1
  have hnk:=hk n (HW hi)
  match nx with
  |[]=>exact vt l hl i hil [(k:Int)]
  |[x]=>
   have e:fq l [(i:Int),(k:Int)] [x]=l.set i ⟨x,n.az.eraseIdx k⟩:=by
    simp only[fq,Ji,hi]
   rw[e]
   exact Ald l hl i k n hi hkn hnk x
  |x::y::ws=>
   have e:fq l [(i:Int),(k:Int)] (x::y::ws)=l.set i ⟨x,n.az.set k y⟩:=by
    simp only[fq,Ji,hi]
   rw[e]
   exact Ale l hl i k n hi hkn hnk x y ws
theorem RX(l:List Nd)(p nx:List Int):I (fq l p nx)<=I l+1:=by
 unfold fq
 split
 ·omega
 ·rw[Ig];exact HX _
 ·have:=List.length_eraseIdx_le l (Z ‹Int›);omega
 all_goals (split<;>simp)
theorem NR{l:List Nd}{i:Nat}{x:Nd}{K:Nat}(h:∀n∈l,I n.az<=K)(hx:I x.az<=K):∀n∈l.set i x,I n.az<=K:=fun n hn=>by
 rcases IX hn with h1|h1
 ·exact h n h1
 ·rw[h1];exact hx
theorem Pc(l:List Nd)(K:Nat)(h:∀n∈l,I n.az<=K)(p nx:List Int)(hn:I nx<=2):∀n∈fq l p nx,I n.az<=K+1:=by
 have h1:∀n∈l,I n.az<=K+1:=fun n hn=>Nat.le_succ_of_le (h n hn)
 unfold fq
 split
 ·exact h1
 ·rename_i x ks
  intro n hx
  rcases IE.1 hx with hx|hx
  ·exact h1 n hx
  ·rw[Ii.1 hx]
   show I ks<=_
   rw[HV] at hn;omega
 ·exact fun n hx=>h1 n (List.mem_of_mem_eraseIdx hx)
 ·rename_i a ws
  split
  ·rename_i n hi
   have:=h n (HW hi)
   refine NR h1 ?_
   show(n.az++ws).length<=_
   rw[Ig]
   rw[HV] at hn;omega
  ·exact h1
 ·split
  ·rename_i n hi
   have:=h n (HW hi)
   refine NR h1 ?_
   show(n.az.eraseIdx _).length<=_
   exact IN (List.length_eraseIdx_le _ _) (by omega)
  ·exact h1
 ·split
  ·rename_i n hi
   have:=h n (HW hi)
   refine NR h1 ?_
   show(n.az.set _ _).length<=_
   rw[length_set];omega
  ·exact h1
theorem Tj(lv:Int)(n:Nd):(d7 lv n).size=(j4 lv n).size:=by
 unfold d7 j4
 split
 ·rfl
 ·simp only[bd.size,bd.sizes];rw[La (AN _)]
theorem AdN(lv:Int):∀l:List Nd,bd.sizes (l.map (d7 lv))=bd.sizes (l.map (j4 lv))
 |[]=>rfl
 |n::l=>by rw[Iu,Iu,bd.sizes,bd.sizes,Tj,AdN lv l]
theorem OW(lv s:Int)(l:List Nd):(gi lv s l).size=(fb lv s l).size:=by
 unfold gi fb
 simp only[bd.size,bd.sizes]
 rw[La (AN _),AdN]
theorem Xa(lv:Int)(K:Nat):∀l:List Nd,(∀n∈l,I n.az<=K)->bd.sizes (l.map (d7 lv))<=I l*(K+3)
 |[],_=>by simp[bd.sizes]
 |n::l,h=>by
  rw[Iu,bd.sizes,HV,Nat.succ_mul]
  have h1:=Xa lv K l fun x hx=>h x (by simp[hx])
  have h2:=O7 lv n
  rw[←Tj] at h2
  have h3:=h n (by simp)
  omega
theorem Zp(lv s:Int)(K:Nat)(l:List Nd)(h:∀n∈l,I n.az<=K):(fb lv s l).size<=I l*(K+3)+3:=by
 have:=Xa lv K l h
 unfold fb
 simp only[bd.size,bd.sizes];omega
def g7(m:ba)(to:Int)(l:List Nd):bd:=if Aw (BP m) (gi m.ao to l)=J then gi m.ao to l else .mk 0 []
theorem Af9(m:ba)(hm:d6 m)(hc:F0 52 [Ax m] (di 0))(to:Int)(l:List Nd)(hl:I l<=200)(hk:∀n∈l,I n.az<=200)(hz:(fb m.ao to l).size<=10000):
  F0 90 [Ax m,di to,.v (AX l)] (.tup [dV (g7 m to l),db (Aw (BP m) (gi m.ao to l))]):=by
 have hT:=Qk hc (Hw m hm.kind hm.ao)
 have ha:=Ad5 m hm.ao to l (by omega) (fun n hn=>by have:=hk n hn;omega)
 have hs:=OW m.ao to l
 by_cases hb:(fb m.ao to l).size<=128
 ·cases h1:A0 (BP m) (gi m.ao to l) with
  |true=>
   have hv:Aw (BP m) (gi m.ao to l)=J:=by unfold Aw;rw[h1,yp];rfl
   have:=O8 m hm.ao hT to l hl hk (gi m.ao to l) 0 hz (AhQ _ hm.good _ _ ha hb (by omega) h1)
   rw[g7,Io hv,hv];exact this
  |false=>
   have hv:Aw (BP m) (gi m.ao to l)=O:=by unfold Aw;rw[h1,J3]
   have:=O8 m hm.ao hT to l hl hk (.mk 0 []) 5 hz (Afr _ hm.good _ _ ha hb (by omega) h1)
   rw[g7,Ij (by rw[hv];decide),hv];exact this
 ·have hv:Aw (BP m) (gi m.ao to l)=O:=by unfold Aw;rw[yo];rfl
  have:=O8 m hm.ao hT to l hl hk (.mk 0 []) 5 hz (Afs _ hm.good _ (by omega))
  rw[g7,Ij (by rw[hv];decide),hv];exact this
theorem d6.mval{m:ba}(hm:d6 m)(hc:F0 52 [Ax m] (di 0))(v:bd):F0 29 [Ax m,dV v] (db (Aw (BP m) v)):=by
 exact sv tc 14 [2,3] (.c (di 0)<|.c (dT (BP m))<|.c (db (Aw (BP m) v)) .r) (_/\_/\_/\Q (db (Aw (BP m) v))) ⟨hc,Hw m hm.kind hm.ao,F5 _ hm.good v,rfl⟩
theorem XJ(a:Int)(b:Option Int)(K:Nat)(l:List Nd)(h:∀n∈l,I n.az<=K):∀i,I (Hl a b i l)<=(K+1)*I l:=by
 induction l with
 |nil=>intro i;simp[Hl]
 |cons n l ih=>
  intro i
  have h1:=XK a b i n
  have h2:=h n (by simp)
  have h3:=ih (fun n hn=>h n (by simp[hn])) (i+1)
  simp only[Hl,Ig,HV,Nat.mul_succ]
  omega
def GN(m:ba)(c:bd):List Nd:=if m.ao=1 then(c.az.getD 1 dt).az.map fun v=>⟨v.n,[]⟩ else(c.az.getD 1 dt).az.map ft
def H9(r:cq)(l:List Nd):List (List Int):=match r.path with
 |[]=>[[]]
 |a::b=>Hl a b.head? 0 l
theorem LZ{m:ba}(hm:d6 m){c:bd}(hv:Aw (BP m) c=J):∃s b,c.az=[s,b]/\b.az.length<=12/\(m.ao=2->∀v∈b.az,∃p q,v.az=[p,q]/\q.az.length<=12):=by
 obtain⟨h1,h2,h3⟩:=Ev hv
 match hk:c.az,h2 with
 |[s,b],_=>
  rw[hk] at h3
  refine⟨s,b,rfl,?_⟩
  have hb:A0 (fm (I m.ax) m.ao) b=J:=Gt _ _ 1 _ _ h3 rfl rfl
  rcases hm.ao with e|e
  ·rw[fm,Io e] at hb
   simp only[A0,HR,Ia] at hb
   exact⟨by omega,fun h=>by omega⟩
  ·rw[fm,Ij (by omega)] at hb
   simp only[A0,HR,Ia,ID] at hb
   refine⟨by omega,fun _ v hvb=>?_⟩
   have hv:=hb.1.2.2 v hvb
   have h4:I v.az=2/\B1 [.lab (I m.ax),.bag (.lab (I m.ax))] v.az=J:=by
    obtain⟨_,h5,h6⟩:=hv
    have h5:=eq_of_beq h5
    exact⟨by have:(I v.az:Int)=2:=h5;omega,h6⟩
   obtain⟨h4,h5⟩:=h4
   match hvk:v.az,h4 with
   |[p,q],_=>
    rw[hvk] at h5
    have hq:A0 (.bag (.lab (I m.ax))) q=J:=Gt _ _ 1 _ _ h5 rfl rfl
    simp only[A0,HR,Ia] at hq
    exact⟨p,q,rfl,by omega⟩
theorem Te{m:ba}(hm:d6 m){c:bd}(hv:Aw (BP m) c=J):I (GN m c)<=12/\(∀n∈GN m c,I n.az<=12)/\F0 88 [Ax m,dV c] (.v (AX (GN m c))):=by
 obtain⟨s,b,hc,hb,h2⟩:=LZ hm hv
 have e1:c.az.getD 1 dt=b:=by rw[hc];rfl
 unfold GN
 rw[e1]
 rcases hm.ao with e|e
 ·rw[Io e]
  exact⟨by rw[HP];exact hb,fun n hn=>by obtain⟨v,_,rfl⟩:=IA.1 hn;exact I3 _,Ym m e c s b hc (by omega)⟩
 ·rw[Ij (by omega)]
  refine⟨by rw[HP];exact hb,fun n hn=>?_,Yk m e c s b hc (by omega) fun v hv=>?_⟩
  ·obtain⟨v,hv,rfl⟩:=IA.1 hn
   obtain⟨p,q,e2,e3⟩:=h2 e v hv
   rw[ft,e2]
   show(q.az.map bd.n).length<=12
   rw[HP];exact e3
  ·obtain⟨p,q,e2,e3⟩:=h2 e v hv
   exact⟨p,q,e2,by omega⟩
theorem SN(r:cq)(hr:I r.path<=2)(l:List Nd)(hl:I l<=12)(hk:∀n∈l,I n.az<=12):I (H9 r l)<=156/\(∀p∈H9 r l,re l r.path p)/\F0 89 [.v (AX l),cy r.path] (.v (.list ((H9 r l).map cz))):=by
 unfold H9
 match hp:r.path,hr with
 |[],_=>
  exact⟨by show 1<=156;decide,fun p h=>Ii.1 h,(Af7 l).sub (Dv.DSL.refl _) (.v (.list (.cons .nils .nil)))⟩
 |[a],_=>
  have h1:=XJ a none 12 l hk 0
  exact⟨by show(Hl a none 0 l).length<=156;omega,SR a none [a] rfl l l 0 rfl,Td a none l (by omega) (fun n hn=>by have:=hk n hn;omega)⟩
 |[a,b],_=>
  have h1:=XJ a (G b) 12 l hk 0
  exact⟨by show(Hl a (G b) 0 l).length<=156;omega,SR a (G b) [a,b] rfl l l 0 rfl,Td a (G b) l (by omega) (fun n hn=>by have:=hk n hn;omega)⟩
def VY(m:ba)(r:cq)(c:bd):List bd×Int:=if (c.az.getD 0 dt).n=r.aj then ij (H9 r (GN m c)) (fun p=>g7 m r.to (fq (GN m c) p r.next)) (fun p=>Aw (BP m) (gi m.ao r.to (fq (GN m c) p r.next))) else([],0)
theorem AbT{m:ba}(hm:d6 m)(hc:F0 52 [Ax m] (di 0))(i:Nat)(hi:i<I m.av):F0 87 [Ax m,di i] (di 0):=by
 have:=hm.count
 exact sv Amk 25 [2] (.c (di 0)<|.k<|.f<|.f<|.f<|.r) (_/\(m.kind !=4)=O/\Y ((i:Int)<0)=O/\Y ((i:Int)>=(I (U AD m.av):Int))=O/\Q (di 0)) ⟨hc,by rw[hm.kind];rfl,yo,HU (by rw[HP];omega),rfl⟩
theorem Ys{m:ba}(hm:d6 m)(hc:F0 52 [Ax m] (di 0))(i:Nat)(r:cq)(hi:m.av[i]?=G r)(c:bd)(hv:Aw (BP m) c=J):F0 49 [Ax m,di i,dV c] (.tup [cx (VY m r c).1,di (VY m r c).2]):=by
 have hil:=(HT.1 hi).1
 have hru:=hm.av r (HW hi)
 obtain⟨s,b,hcs,_⟩:=LZ hm hv
 have h0:c.az[0]?=G s:=by rw[hcs];rfl
 have e0:c.az.getD 0 dt=s:=by rw[hcs];rfl
 have hck:=AbT hm hc i hil
 have hval:=hm.mval hc c
 rw[hv] at hval
 unfold VY
 rw[e0]
 by_cases hf:s.n=r.aj
 ·rw[Io hf]
  obtain⟨n1,n2,n3⟩:=Te hm hv
  generalize GN m c=l at n1 n2 n3⊢
  obtain⟨p1,p2,p3⟩:=SN r (by have:=hru.pl;rcases hm.ao with e|e<;>omega) l n1 n2
  have hnx:I r.next<=2:=by have:=hru.nl;rcases hm.ao with e|e<;>omega
  have hcz:∀p,(fb m.ao r.to (fq l p r.next)).size<=1000:=fun p=>by
   have h1:=Zp m.ao r.to 13 (fq l p r.next) (Pc l 12 n2 p r.next hnx)
   have h2:=RX l p r.next
   omega
  obtain⟨q,hq⟩:∃q,q=ij (H9 r l) (fun p=>g7 m r.to (fq l p r.next)) (fun p=>Aw (BP m) (gi m.ao r.to (fq l p r.next))):=⟨_,rfl⟩
  rw[←hq]
  have hlp:=Yt (m:=m) (r:=r) (l:=l) (F:=fun p=>fq l p r.next) hq (by omega) (fun p _=>by
    show(g7 _ _ _).size<=1000
    unfold g7
    split
    ·rw[OW];exact hcz p
    ·decide)
   (fun p hp=>Yr l (by omega) (fun n hn=>by have:=n2 n hn;omega) r.path p r.next (p2 p hp) hru.some (by omega))
   (fun p hp=>Af9 m hm hc r.to (fq l p r.next) (by have:=RX l p r.next;omega) (fun n hn=>by have:=Pc l 12 n2 p r.next hnx n hn;omega) (by have:=hcz p;omega))
  clear hq
  generalize H9 r l=P at p1 p2 p3 hlp
  refine sv TC 74 [3,5] (.c (di 0)<|.k<|.c (db J)<|.k<|.x (AD r)<|.h (.xs (Au s))<|.f<|.h (.q 9 0)<|.h (.fa 0 [9])<|.c (.v (AX l))<|.c (.v (.list (P.map cz)))<|.lo [ke 3,ke 9,ke 10,ch 11 (.v .nils),ke 45,ch 46 (di (I P)),ch 47 (di (0:Nat))] ⟨[none],[]⟩) (_/\_/\0<=(i:Int)/\(U AD m.av)[Z (i:Int)]?=G (AD r)/\Q 2/\iz 0<=0/\(U eV c.az)[Z 0]?=G (Au s)/\yn/\(s.n !=r.aj)=O/\_/\_/\Q (dn)/\di (I (U cz P):Int)=di (I P:Int)/\Q (di 0)/\cp 1 [] [none]=J/\([none]:List (Option (List D)))=[none]/\I0 TC (I bf.H) (bl [cx q.fst,di q.snd]) bf [kl Uk [1,1,1,1,1,1,1,0,1,0,0],bh 0,kc Uk [1,1,1,1,1,1,1,1]] (b9 74 [(3,bt (bz (AE m))),(9,bt (bz (AD r))),(10,bt (AX l)),(11,dn),(45,bt (ai (U cz P))),(46,di (I P:Int)),(47,di (↑0:Int))]) (bi [none] [])) ⟨hck,hval,by omega,A3 hi,rfl,by decide,A1 (i:=0) h0,yl,by rw[hf];exact bne_self_eq_false _,n3,p3,rfl,by rw[HP],rfl,rfl,rfl,⟨?_⟩⟩
  refine CW (H0:=[none]) (H':=[]) (fun E0 E h=>h.2) 1 rfl (fun cs hc=>by simp at hc) ?_ ?_ hlp
  ·kernel_rfl
  ·kernel_rfl
 ·rw[Ij hf]
  show Aa PP _ _ _ (.tup [cx [],di 0]) _
  exact sv TC 74 [3,5] (.c (di 0)<|.k<|.c (db J)<|.k<|.x (AD r)<|.h (.xs (Au s))<|.t .r) (_/\_/\0<=(i:Int)/\(U AD m.av)[Z (i:Int)]?=G (AD r)/\Q 2/\iz 0<=0/\(U eV c.az)[Z 0]?=G (Au s)/\yn/\(s.n !=r.aj)=J/\Q (bl [cx [],di 0])) ⟨hck,hval,by omega,A3 hi,rfl,by decide,A1 (i:=0) h0,yl,bne_iff_ne.2 hf,rfl⟩
theorem Qh{m:ba}(hm:d6 m)(r:cq)(hr:r∈m.av)(c:bd)(hv:Aw (BP m) c=J):ri (VY m r c)/\((VY m r c).2=0∨(VY m r c).2=1):=by
 have hru:=hm.av r hr
 obtain⟨n1,n2,_⟩:=Te hm hv
 unfold VY
 split
 ·generalize GN m c=l at n1 n2⊢
  obtain⟨p1,_,_⟩:=SN r (by have:=hru.pl;rcases hm.ao with e|e<;>omega) l n1 n2
  have hnx:I r.next<=2:=by have:=hru.nl;rcases hm.ao with e|e<;>omega
  unfold ij
  split
  ·refine⟨⟨?_,fun v hv=>?_⟩,.inl rfl⟩
   ·have:=Sn ((H9 r l).map fun p=>g7 m r.to (fq l p r.next))
    rw[HP] at this
    show(Rc _).length<=1000
    omega
   ·obtain⟨p,_,rfl⟩:=IA.1 (Hq hv)
    show(g7 _ _ _).size<=1000
    unfold g7
    split
    ·rw[OW]
     have h1:=Zp m.ao r.to 13 (fq l p r.next) (Pc l 12 n2 p r.next hnx)
     have h2:=RX l p r.next
     omega
    ·decide
  ·exact⟨⟨by simp,by simp⟩,.inr rfl⟩
 ·exact⟨⟨by simp,by simp⟩,.inl rfl⟩
theorem Yj{m:ba}(r:cq)(c:bd):∀v∈ (VY m r c).1,Aw (BP m) v=J/\(v.az.getD 0 dt).n=r.to/\(c.az.getD 0 dt).n=r.aj:=by
 unfold VY
 split
 ·rename_i hf
  unfold ij
  split
  ·rename_i hall
   intro v hv
   obtain⟨p,hp,rfl⟩:=IA.1 (Hq hv)
   have:=ID.1 hall p hp
   rw[g7,Io this]
   exact⟨this,rfl,hf⟩
  ·intro v hv;simp at hv
 ·intro v hv;simp at hv
theorem u5{m:ba}{c:bd}(hk:m.kind=4):F0 34 [Ax m,dV c] (cx []):=by
 exact sv ow 31 [2,3] (.f<|.f<|.f<|.r) ((m.kind==2)=O/\(m.kind==3)=O/\(m.kind==5)=O/\Q (cx [])) ⟨by rw[hk];rfl,by rw[hk];rfl,by rw[hk];rfl,rfl⟩
theorem AmB{m:ba}(hk:m.kind=4)(i:Nat)(c:bd)(p:List bd×Int)(hp:F0 49 [Ax m,di i,dV c] (dm p)):F0 27 [Ax m,di i,dV c] (dm p):=by
 exact sv mj 56 [3,5] (.f<|.f<|.t<|.c (dm p) .r) (((i:Int)== -1)=O/\(m.kind==1)=O/\(m.kind==4)=J/\_/\bl [cx p.fst,di p.snd]=dm p) ⟨I7.2 (by omega),by rw[hk];rfl,by rw[hk];rfl,hp,rfl⟩
def k9(m:ba)(c:bd)(i:Int):List bd×Int:=if i<0 then([],0) else match m.av[i.toNat]? with
 |some r=>VY m r c
 |none=>([],0)
theorem d6.st{m:ba}(hm:d6 m)(hst:Aw (BP m) m.start=J):jn m (BP m) (k9 m):=by
 have hc:=hm.chk
 rw[hst,Io rfl] at hc
 refine⟨⟨fun v _=>hm.mval hc v,by rw[hm.ay];decide⟩,hc,by rw[hm.kind];decide,by have:=hm.count;omega,fun c hv i=>?_,fun c hs hv i h1 h2=>?_⟩
 ·unfold k9
  split
  ·exact⟨by simp,by simp⟩
  ·split
   ·rename_i r hr
    exact(Qh hm r (HW hr) c hv).1
   ·exact⟨by simp,by simp⟩
 ·unfold k9
  by_cases h0:i<0
  ·have:i= -1:=by omega
   subst this
   rw[Io h0]
   exact Z6 (u5 hm.kind)
  ·obtain⟨k,rfl⟩:∃k:Nat,i=k:=⟨i.toNat,by omega⟩
   have hk:k<I m.av:=by omega
   have hr:m.av[k]?=G m.av[k]:=HQ hk
   rw[Ij h0,show((k:Nat):Int).toNat=k by omega,hr]
   exact AmB hm.kind k c _ (Ys hm hc k _ hr c hv)
theorem Ej:gg AB []:=List.Pairwise.nil
theorem RZ(v:bd):gg AB [v]:=List.pairwise_singleton _ v
theorem SY(p:bd×Int):gg AB (Cx p).1:=by
 unfold Cx
 split
 ·exact Ej
 ·split
  ·exact Ej
  ·exact RZ _
theorem AbM{p:bd×Int}{v:bd}(h:v∈ (Cx p).1):v=p.1/\p.2=0:=by
 unfold Cx at h
 split at h
 ·simp at h
 ·split at h
  ·simp at h
  ·rename_i h2
   exact⟨Ii.1 h,by simpa using h2⟩
theorem AjS(c:bd):ez c=(c.az.getD 0 dt).n:=by
 unfold ez
 cases c.az<;>rfl
theorem f9.ans{m:ba}(hm:f9 m):kr m (AJ m) (ia m):=by
 have hcf:∀c,Aw (AJ m) c=J->C7 m c:=fun c hv=>RT hm.kind hv
 refine⟨⟨hm.ok.int,HL m hm.ok,by rw[hm.kind];decide,hm.ay.2.2.2.2,fun c hv i=>?_,fun c _ hv i h1 h2=>Z7 m hm c (hcf c hv) i h1 h2⟩,⟨_,rfl⟩,fun c hv i=>(Uv hm (hcf c hv) i).1,fun c hv i=>?_,fun c hv i v h=>((Uv hm (hcf c hv) i).2.2 v h).ok.validM hm,fun c hv i hi v h=>?_,fun c hv i hi v h=>?_,fun c hv=>?_,fun v hv=>?_⟩
 ·obtain⟨_,h1,h2⟩:=Uv hm (hcf c hv) i
  exact⟨by omega,fun v h=>by have h3:v.size<=8:=(h2 v h).ok.sizeM hm;omega⟩
 ·unfold ia
  split
  ·exact Ej
  ·split
   ·exact SY _
   ·exact Ej
 ·rw[ia,Io hi] at h
  simp at h
 ·obtain⟨k,r,h1,h2,h3,h4,_⟩:=((Uv hm (hcf c hv) i).2.2 v h).rule
  have h1:i=k:=h1
  have h4:v=EP r.to _:=h4
  refine⟨r,by rw[h1,Ji];exact h2,by rw[←AjS];exact h3.symm,?_⟩
  rw[h4];rfl
 ·rw[(hcf c hv).eq];exact Nat.succ_pos _
 ·have:=P4 m hm.ok v
  rwa[hv] at this
theorem Zz{m:ba}(h:m.ok)(hk:m.kind=2∨m.kind=3)(hp:I m.ay<=2)(hr:∀r∈m.av,l9 m r):ip m (AJ m)/\kr m (AJ m) (fj m (AJ m)):=by
 have hsz:=h.sz
 have hch:ip m (AJ m):=⟨h.int,HL m h,hk,⟨by omega,hp⟩,fun r h=>(hr r h).chan,VJ hk⟩
 refine⟨hch,⟨hch.st (by omega),⟨_,rfl⟩,fun c hv i=>(QN hk hp hr hv i).1,fun c hv i=>?_,fun c hv i v hv2=>(QN hk hp hr hv i).2 v hv2,fun c hv i hi v hv2=>?_,fun c hv i hi v hv2=>?_,fun c hv=>?_,fun v hv=>?_⟩⟩
 ·obtain⟨s,ws,rfl,hw⟩:=KA hk hv
  unfold fj
  split
  ·exact(OD hw.len).1
  ·split
   ·exact SY _
   ·exact Ej
 ·obtain⟨s,ws,rfl,hw⟩:=KA hk hv
  rw[fj,Io hi] at hv2
  obtain⟨ws',rfl,_⟩:=xm hw hv2
  rfl
 ·obtain⟨s,ws,rfl,hw⟩:=KA hk hv
  rw[fj,Ij (by omega)] at hv2
  split at hv2
  ·rename_i r hri
   obtain⟨e1,e2⟩:=AbM hv2
   have hrm:=hr r (HW hri)
   obtain⟨k,hrk⟩:∃k:Nat,r.chan=k:=⟨r.chan.toNat,by have:=hrm.chan;omega⟩
   obtain⟨w,hww⟩:∃w,ws[k]?=G w:=⟨_,HQ (by have:=hrm.chan;rw[hw.len];omega)⟩
   refine⟨r,hri,?_⟩
   rw[QF hk hp hw hrk hww] at e1 e2
   split at e1
   ·rename_i hc
    rw[Io hc] at e2
    simp only[HR,I4] at hc
    refine⟨hc.1.symm,?_⟩
    split at e1
    ·rename_i h1
     rw[Io h1] at e2
     split at e1
     ·rename_i h2
      rw[Io h2] at e2
      simp at e2
     ·rw[e1];rfl
    ·split at e1
     ·rw[e1];rfl
     ·rw[e1];rfl
   ·rename_i hc
    rw[Ij hc] at e2
    simp at e2
  ·simp at hv2
 ·obtain⟨s,ws,rfl,hw⟩:=KA hk hv
  exact Nat.succ_pos _
 ·have:=P4 m h v
  rwa[hv] at this
theorem Sq{m:ba}{t:bc}(hg:B4 8 t=J)(h1:F0 31 [Ax m] (di 0))(h2:F0 33 [Ax m] (dT t))(v:bd)(hv:Aw t v=J):F0 15 [Ax m,dV v] (db J):=by
 have:=Gk t hg v
 rw[hv] at this
 exact sv xw 14 [2,3] (.c (di 0)<|.c (dT t)<|.c (db J)<|.r) (_/\_/\F0 32 [bt (vT t),dV v] (db J)/\Q (db J)) ⟨h1,h2,this,rfl⟩
theorem d6.ans{m:ba}(hm:d6 m)(hst:Aw (BP m) m.start=J):kr m (BP m) (k9 m):=by
 have hc15:=hm.chk15
 rw[hst,Io rfl] at hc15
 have hcase:∀(c:bd) (i:Int),k9 m c i=([],0)∨0<=i/\∃r,m.av[i.toNat]?=G r/\k9 m c i=VY m r c:=fun c i=>by
  unfold k9
  split
  ·exact .inl rfl
  ·split
   ·rename_i h r hr
    exact .inr ⟨by omega,r,hr,rfl⟩
   ·exact .inl rfl
 refine⟨hm.st hst,⟨_,rfl⟩,fun c hv i=>?_,fun c hv i=>?_,fun c hv i v h=>?_,fun c hv i hi v h=>?_,fun c hv i hi v h=>?_,fun c hv=>?_,Sq hm.good hc15 (t7 m hm.kind hm.ao)⟩
 ·rcases hcase c i with e|⟨_,r,hr,e⟩<;>rw[e]
  ·exact .inl rfl
  ·exact(Qh hm r (HW hr) c hv).2
 ·rcases hcase c i with e|⟨_,r,hr,e⟩<;>rw[e]
  ·exact Ej
  ·unfold VY ij
   split
   ·split
    ·exact(So _).1
    ·exact Ej
   ·exact Ej
 ·rcases hcase c i with e|⟨_,r,hr,e⟩<;>rw[e] at h
  ·simp at h
  ·exact(Yj r c v h).1
 ·rcases hcase c i with e|⟨h0,_⟩
  ·rw[e] at h;simp at h
  ·omega
 ·rcases hcase c i with e|⟨_,r,hr,e⟩<;>rw[e] at h
  ·simp at h
  ·obtain⟨_,h2,h3⟩:=Yj r c v h
   exact⟨r,hr,h3.symm,h2.symm⟩
 ·obtain⟨s,b,h,_⟩:=LZ hm hv
  rw[h];simp
theorem ep.mval{m:ba}(hm:ep m)(hc:F0 52 [Ax m] (di 0))(v:bd):F0 29 [Ax m,dV v] (db (Aw (Cq m) v)):=by
 exact sv tc 14 [2,3] (.c (di 0)<|.c (dT (Cq m))<|.c (db (Aw (Cq m) v)) .r) (_/\_/\_/\Q (db (Aw (Cq m) v))) ⟨hc,L7 m hm.kind (by have:=hm.age;omega),F5 _ hm.good v,rfl⟩
theorem ep.tmm{m:ba}(hm:ep m)(hst:Aw (Cq m) m.start=J):jo m (Cq m):=by
 have hc:=hm.chk
 rw[hst,Io rfl] at hc
 exact⟨⟨fun v _=>hm.mval hc v,by have:=hm.ay;omega⟩,hc,hm.kind,by have:=hm.count;omega,fun r hr=>⟨(hm.av r hr).tl,(hm.av r hr).ml⟩,ZB⟩
theorem ep.ans{m:ba}(hm:ep m)(hst:Aw (Cq m) m.start=J):kr m (Cq m) (ZJ m (Cq m)):=by
 have hc15:=hm.chk15
 rw[hst,Io rfl] at hc15
 have hag:0<=m.age/\m.age<=1000:=by have:=hm.age;omega
 have htm:=hm.tmm hst
 have hav:=fun(c:bd) (hv:Aw (Cq m) c=J) (i:Int)=>VU hag hv i
 refine⟨htm.st,⟨_,rfl⟩,fun c hv i=>(hav c hv i).1,fun c hv i=>?_,fun c hv i v h=>(hav c hv i).2 v h,fun c hv i hi v h=>?_,fun c hv i hi v h=>?_,fun c hv=>?_,Sq hm.good hc15 (t6 m hm.kind hag)⟩
 ·unfold ZJ
  split
  ·exact RZ _
  ·split
   ·unfold Rl jv
    rw[Io hv]
    split
    ·split
     ·exact(So _).1
     ·exact Ej
    ·exact Ej
   ·exact Ej
 ·obtain⟨s,ps,rfl,hw⟩:=WL hv
  rw[ZJ,Io hi] at h
  rw[Ii.1 h,(WR hag hw).1]
  rfl
 ·rw[ZJ,Ij (by omega)] at h
  split at h
  ·rename_i r hr
   refine⟨r,hr,?_⟩
   unfold Rl jv at h
   rw[Io hv] at h
   split at h
   ·rename_i hf
    split at h
    ·have h:=Hq h
     obtain⟨x,_,rfl⟩:=IA.1 h
     exact⟨hf.symm,rfl⟩
    ·simp at h
   ·simp at h
  ·simp at h
 ·have:=(htm.shape c hv).len
  omega
theorem Qp{α:Type}(p:α->Bool):∀(l:List α) (k:Nat),c7 p l (k+1)=if c7 p l k<0 then-1 else c7 p l k+1
 |[],k=>rfl
 |x::l,k=>by
  simp only[c7]
  split
  ·rw[Ij (by omega)];omega
  ·exact Qp p l (k+1)
theorem RP(q:bd->bd->Bool)(x:bd)(a:List bd)(y:bd)(b:List bd)(h:q x y=J):EE q (x::a) (y::b)=EE q a b:=by
 have e:c7 (q x) (y::b) 0=0:=by simp only[c7];rw[Io h];rfl
 rw[EE,e,Ij (by decide)];rfl
theorem Age(q:bd->bd->Bool)(x:bd)(a:List bd)(y:bd)(b:List bd)(h:q x y=O):EE q (x::a) (y::b)=EE q (x::a) b:=by
 have e:c7 (q x) (y::b) 0=if c7 (q x) b 0<0 then-1 else c7 (q x) b 0+1:=by
  simp only[c7]
  rw[Ij (by rw[h];decide)]
  exact Qp _ b 0
 rw[EE,EE,e]
 by_cases hn:c7 (q x) b 0<0
 ·rw[Io hn]
  simp only[HS hn]
  rfl
 ·rw[Ij hn]
  simp only[HU hn,HU (show ¬c7 (q x) b 0+1<0 by omega)]
  have:(c7 (q x) b 0+1).toNat=(c7 (q x) b 0).toNat+1:=by omega
  rw[this];rfl
theorem Mp{q:bd->bd->Bool}(hq:∀x,q x x=J):∀a:List bd,EE q a a=J
 |[]=>rfl
 |x::a=>by rw[RP q x a x a (hq x)];exact Mp hq a
theorem TG{q:bd->bd->Bool}(hq:∀x,q x x=J):∀(a:List bd) (y:bd),EE q a (y::a)=J
 |[],_=>rfl
 |x::a,y=>by
  cases h:q x y with
  |true=>rw[RP q x a y _ h];exact TG hq a x
  |false=>rw[Age q x a y _ h];exact Mp hq _
theorem TF{q:bd->bd->Bool}(hq:∀x,q x x=J){a b:List bd}(h:EE q a b=J):∀p:List bd,EE q (p++a) (p++b)=J
 |[]=>h
 |x::p=>by rw[J7,J7,RP q x _ x _ (hq x)];exact TF hq h p
theorem TH{q:bd->bd->Bool}:∀{a b:List bd},EE q a b=J->I a<=I b
 |[],_,_=>I3 _
 |x::a,b,h=>by
  rw[EE] at h
  split at h
  ·simp at h
  ·rename_i h1
   have h1:¬c7 (q x) b 0<0:=by simpa using h1
   have:=TH h
   rw[IY] at this
   rcases YC (q x) b 0 with e|e
   ·omega
   ·rw[HV];omega
theorem SS{rk b:List Int}{x:Int}{g:Nat->Bool}{f:Nat}:∀{n p j:Nat},j<n->b[p+j]?=G x->ky rk b f (p+j) x=J->g (p+j+1)=J->pL rk b x g f n p=J
 |0,_,_,h,_,_,_=>by omega
 |n+1,p,0,_,h1,h2,h3=>by
  rw[IQ] at h1 h2 h3
  rw[pL,h1,h2,h3];simp
 |n+1,p,j+1,h,h1,h2,h3=>by
  rw[show p+(j+1)=p+1+j by omega] at h1 h2 h3
  rw[pL,SS (by omega) h1 h2 h3,Bool.or_true]
theorem x8{rk b:List Int}{x:Int}{g:Nat->Bool}{f:Nat}:∀{n p:Nat},pL rk b x g f n p=J->∃j,j<n/\g (p+j+1)=J
 |0,_,h=>by simp[pL] at h
 |n+1,p,h=>by
  rw[pL,Bool.or_eq_true] at h
  rcases h with h|h
  ·simp only[HR] at h
   exact⟨0,by omega,h.2.2⟩
  ·obtain⟨j,h1,h2⟩:=x8 h
   exact⟨j+1,by omega,by rw[show p+(j+1)+1=p+1+j+1 by omega];exact h2⟩
theorem x7{rk b:List Int}:∀{a:List Int} {f:Nat},f<=I b->pS rk b a f=J->I a+f<=I b
 |[],f,hf,_=>by simpa using hf
 |x::a,f,hf,h=>by
  obtain⟨j,h1,h2⟩:=x8 h
  have:=x7 (by omega) h2
  rw[HV];omega
theorem XI{rk b:List Int}:∀(n f:Nat),I b-f=n->f<=I b->pS rk b (b.drop f) f=J:=by
 intro n
 induction n with
 |zero=>
  intro f hn hf
  rw[Im (by omega)]
  show((f:Int)==I b)=J
  rw[I4];omega
 |succ n ih=>
  intro f hn hf
  rw[Ih (show f<I b by omega)]
  refine SS (j:=0) (by omega) (HQ (by omega)) ?_ (ih (f+1) (by omega) (by omega))
  have:(b.take (f+0)).drop f=[]:=Im (by rw[Iy];omega)
  rw[ky,this];rfl
theorem AhO{rk b:List Int}{i:Nat}(hi:i+1<I b)(hr:e8 rk b[i]<=e8 rk b[i+1]):∀(n k:Nat),i-k=n->k<=i->pS rk b ((b.take i).drop k++b.drop (i+1)) k=J:=by
 intro n
 induction n with
 |zero=>
  intro k hn hk
  have:k=i:=by omega
  subst this
  rw[Im (by rw[Iy];omega),List.nil_append,Ih hi]
  refine SS (j:=1) (by omega) (HQ (by omega)) ?_ (XI _ (k+2) rfl (by omega))
  have:(b.take (k+1)).drop k=[b[k]]:=by
   rw[Jn,HQ (show k<I b by omega),List.drop_append_of_le_length (by rw[Iy];omega),Im (by rw[Iy];omega)];rfl
  rw[ky,this]
  simp;omega
 |succ n ih=>
  intro k hn hk
  have e:(b.take i).drop k=b[k]::(b.take i).drop (k+1):=by
   rw[Ih (show k<I (b.take i) by rw[Iy];omega),List.getElem_take]
  rw[e,J7]
  refine SS (j:=0) (by omega) (HQ (by omega)) ?_ (ih (k+1) (by omega) (by omega))
  have:(b.take (k+0)).drop k=[]:=Im (by rw[Iy];omega)
  rw[ky,this];rfl
theorem PQ{q:bd->bd->Bool}:∀(n:Nat) (xs ys:List bd),(∀(i:Nat) (x y:bd),xs[i]?=G x->ys[i]?=G y->q x y=J)->Ep (replicate n q) xs ys=J
 |0,_,_,_=>rfl
 |n+1,[],_,_=>rfl
 |n+1,_::_,[],_=>rfl
 |n+1,x::xs,y::ys,h=>by
  rw[IL,Ep,h 0 x y rfl rfl,PQ n xs ys fun i a b ha hb=>h (i+1) a b ha hb];rfl
theorem SK{q:bd->bd->Bool}:∀(n:Nat) (xs ys:List bd) (i:Nat) (x y:bd),i<n->xs[i]?=G x->ys[i]?=G y->q x y=O->Ep (replicate n q) xs ys=O
 |0,_,_,_,_,_,h,_,_,_=>by omega
 |n+1,[],_,_,_,_,_,h,_,_=>by simp at h
 |n+1,_::_,[],_,_,_,_,_,h,_=>by simp at h
 |n+1,a::xs,b::ys,0,x,y,_,h1,h2,h3=>by
  simp only[List.getElem?_cons_zero,I1] at h1 h2
  rw[IL,Ep,h1,h2,h3];rfl
 |n+1,a::xs,b::ys,i+1,x,y,hi,h1,h2,h3=>by
  rw[IL,Ep,SK n xs ys i x y (by omega) h1 h2 h3,J3]
theorem AcO{m:ba}(h:m.ok)(hk:m.kind=2∨m.kind=3):∃q,i7 (BB m) q/\(∀w:List Int,q (dw w) (dw w)=J)/\∀w w':List Int,w'∈GY m w->q (dw w') (dw w)=J/\q (dw w) (dw w')=O:=by
 rcases hk with hk|hk
 ·have e:BB m=.word (.lab (I m.ax)):=by simp[BB,hk]
  rw[e]
  have hq:∀x:bd,(fun a b:bd=>a.n==b.n) x x=J:=fun x=>beq_self_eq_true _
  refine⟨_,Ad0 (Z9 _),fun w=>Mp hq _,fun w w' hw=>?_⟩
  have hl:=(FD hw).1
  refine⟨?_,?_⟩
  ·unfold GY Ft at hw
   rw[Ij (by rw[hk];decide)] at hw
   split at hw
   ·obtain⟨i,hi,rfl⟩:=IA.1 (((DZ _).2 w').1 hw)
    have hi:=List.mem_range.1 hi
    have e1:(gj w i).map lf=(w.take i).map lf++(w.drop (i+1)).map lf:=by rw[gj,Jq]
    have e2:w.map lf=(w.take i).map lf++lf w[i]::(w.drop (i+1)).map lf:=by
     rw[←Iu, ←Ih hi, ←Jq,take_append_drop]
    show EE _ ((gj w i).map lf) (w.map lf)=J
    rw[e1,e2]
    exact TF hq (TG hq _ _) _
   ·simp at hw
  ·cases hb:EE (fun a b:bd=>a.n==b.n) (dw w).az (dw w').az with
   |false=>rfl
   |true=>
    have h1:=TH hb
    have h2:I (w.map lf)<=I (w'.map lf):=h1
    rw[HP,HP] at h2
    omega
 ·have e:BB m=.prio (I m.ax) m.au:=by simp[BB,hk]
  have hr:=h.ranked
  have hz:=h.sz
  rw[BJ,Ij (by rw[hk];decide)] at hr
  simp only[HR,I4,ID] at hr
  have h1:=hz.2.2.2.2.2.2.2 (by omega)
  have hprk:kj m.au=J:=by
   simp only[kj,HR,Ia,IJ]
   refine⟨by omega,by omega,List.any_eq_false.2 fun x hx=>?_⟩
   have:=Ci (hr.2 x hx)
   simp;omega
  rw[e]
  have en:∀w:List Int,(dw w).az.map bd.n=w:=fun w=>Tq w
  refine⟨_,Ad2 _ _ hprk (by omega),fun w=>?_,fun w w' hw=>?_⟩
  ·rw[en];exact XI _ 0 rfl (I3 _)
  ·have hl:=(FD hw).1
   rw[en,en]
   refine⟨?_,?_⟩
   ·unfold GY Gf at hw
    rw[Io (by rw[hk];rfl)] at hw
    split at hw
    ·obtain⟨i,hi,rfl⟩:=IA.1 (((DZ _).2 w').1 hw)
     obtain⟨h2,h3⟩:=List.mem_filter.1 hi
     have h2:=List.mem_range.1 h2
     have h4:e8 m.au w[i]<=e8 m.au w[i+1]:=by
      have h3:=Ib h3
      rw[HY (l:=w) (i:=i),HY (l:=w) (i:=i+1),HQ (show i<I w by omega),HQ (show i+1<I w by omega)] at h3
      exact h3
     have:=AhO (rk:=m.au) (b:=w) (i:=i) (by omega) h4 _ 0 rfl (I3 _)
     rw[J1] at this
     exact this
    ·simp at hw
   ·cases hb:FM m.au w w' with
    |false=>rfl
    |true=>
     have:=x7 (I3 _) hb
     omega
theorem Ty{m:ba}(h:m.ok)(hk:m.kind=2∨m.kind=3)(hp:I m.ay<=2){c:bd}(hv:Aw (AJ m) c=J)(y:bd)(hy:y∈sortV (fk m c (I m.ay)))(hvy:Aw (AJ m) y=J):
  F0 17 [Ax m,dV y,dV c] (.tup [db J,di 0])/\F0 17 [Ax m,dV c,dV y] (.tup [db O,di 0]):=by
 obtain⟨q,hq,q1,q2⟩:=AcO h hk
 have hz:=h.sz
 have hT:=Qk (HL m h) (JT m (by omega) (by omega) h.kind)
 have hb:i7 (AJ m) (fun a b=>Ep ((fun a b=>a.n==b.n)::replicate (I m.ay) q) a.az b.az):=Ad1 _ (by simp;omega) _ fun i t ht=>by
  cases i with
  |zero=>simp only[List.getElem?_cons_zero,I1] at ht;subst ht;exact⟨_,rfl,Z9 _⟩
  |succ i=>
   rw[J8,List.getElem?_replicate] at ht
   split at ht
   ·rename_i hi
    simp only[I1] at ht;subst ht;exact⟨q,by rw[J8,List.getElem?_replicate,Io hi],hq⟩
   ·simp at ht
 have s1:=PD hT h.good hb y c hvy hv
 have s2:=PD hT h.good hb c y hv hvy
 obtain⟨s,ws,rfl,hw⟩:=KA hk hv
 obtain⟨k,w,w',hkw,hd,rfl⟩:=((OD hw.len).2 y).1 hy
 obtain⟨d1,d2⟩:=q2 w w' hd
 have hkl:=(HT.1 hkw).1
 have k1:((ws.set k w').map dw)[k]?=G (dw w'):=by rw[I9,List.getElem?_set_self hkl];rfl
 have k2:(ws.map dw)[k]?=G (dw w):=by rw[I9,hkw];rfl
 have e1:Ep ((fun a b=>a.n==b.n)::replicate (I m.ay) q) (de s (ws.set k w')).az (de s ws).az=J:=by
  show((s==s)&&Ep _ _ _)=J
  rw[beq_self_eq_true,I2]
  refine PQ _ _ _ fun i a b ha hb=>?_
  by_cases hi:i=k
  ·subst hi
   have ha:((ws.set i w').map dw)[i]?=G a:=ha
   have hb:(ws.map dw)[i]?=G b:=hb
   rw[k1] at ha
   rw[k2] at hb
   rw[←Is ha, ←Is hb];exact d1
  ·have ha:((ws.set k w').map dw)[i]?=G a:=ha
   have hb:(ws.map dw)[i]?=G b:=hb
   rw[I9,List.getElem?_set_ne (fun e=>hi e.symm)] at ha
   rw[I9] at hb
   rw[ha] at hb
   rw[←Is hb]
   cases hx:ws[i]? with
   |none=>rw[hx] at ha;simp at ha
   |some x=>rw[hx] at ha;simp at ha;rw[←ha];exact q1 x
 have e2:Ep ((fun a b=>a.n==b.n)::replicate (I m.ay) q) (de s ws).az (de s (ws.set k w')).az=O:=by
  show((s==s)&&Ep _ _ _)=O
  rw[beq_self_eq_true,I2]
  exact SK _ _ _ k _ _ (by rw[←hw.len];exact hkl) k2 k1 d2
 rw[e1] at s1
 rw[e2] at s2
 exact⟨s1,s2⟩
theorem AfI(haw:U6){l:List Int}{m:ba}{c:bd}{a1 a2:Nat}{s1 s2:Int}(hx:jg l m c a1 s1 a2 s2){t:bc}(hm:D1 m t)(hv:Aw t c=J):F0 4 [cy l] (db J):=by
 have hcs:=hx.csz
 cases hm with
 |ct h hk=>
  have hct:f9 m:=⟨h,hk,RT hk h.start⟩
  exact Tr haw hx (.inl hk) (o9 hct.ans.st c hcs hv [] (PB m hct c))
 |ch h hk hp hr=>
  obtain⟨hch,han⟩:=Zz h hk hp hr
  have hz:=h.sz
  have hb:=han.st.bp c hv (-1)
  have ht:=han.typ c hv (-1)
  rw[fj,Io (by decide)] at hb ht
  exact Acl haw hx hk _ (o9 han.st c hcs hv _ (se hk (OC m _ hch (by omega) c hv))) hb.1 fun y hy=>Ty h hk hp hv y hy (ht y hy)
 |ns h hs=>exact Tr haw hx (.inr h.kind) (o9 (h.ans hs).st c hcs hv [] (u5 h.kind))
 |tm h hs=>exact Aci haw hx h.kind _ (o9 (h.ans hs).st c hcs hv _ (u4 h.kind (NL m _ (h.tmm hs) c hv).2))
theorem D1.ans{m:ba}{t:bc}(hm:D1 m t):∃ap,kr m t ap:=by
 cases hm with
 |ct h hk=>exact⟨_,f9.ans ⟨h,hk,RT hk h.start⟩⟩
 |ch h hk hp hr=>exact⟨_,(Zz h hk hp hr).2⟩
 |ns h hs=>exact⟨_,h.ans hs⟩
 |tm h hs=>exact⟨_,h.ans hs⟩
abbrev d5:bd:=.mk 0 []
abbrev c0:bd:=.mk 0 [d5,.mk 0 [d5]]
abbrev e0:bd:=.mk 0 [d5,.mk 0 []]
theorem Agi:Aa PP 70 [dV c0,di 0] bf (.gro 1 1 1) ⟨[G [di 0,cx []],G [di 0]],[]⟩:=by
 exact sv Vz 27 [2] (.h (.xs (Au (.mk 0 [d5])))<|.n<|.t<|.h (.xs (Au d5))<|.h (.q 5 4)<|.h .g<|.n<|.f<|.ro) (Q 2/\0<=yr yq (1+0)/\G (eV (bd.mk 0 [d5]))=G (Au (bd.mk 0 [d5]))/\Y (0<(I (U eV (bd.az (bd.mk 0 [d5]))):Int))=J/\Q 2/\iz 0<=0/\G (eV d5)=G (Au d5)/\[vi d5.n]≠ []/\(∀(y:V),y∈ [vi d5.n]->V.size y=1)/\A9 1 8/\Y (yr yq (0+1)<(I (U eV (bd.az (bd.mk 0 [d5]))):Int))=O/\cp 2 [] [G [di d5.n,cx d5.az],G [di d5.n]]=J/\Q [G [di 0,cx []],G [di 0]]/\Q (bm 1 1 1)) ⟨rfl,by decide,by rw[AR],by decide,rfl,by decide,by rw[AR],by simp,fun y hy=>by rw[Ii.1 hy];rfl,⟨by decide,by decide⟩,by decide,rfl,rfl,rfl⟩
noncomputable abbrev Ama:=Tryz.f140
noncomputable abbrev AkH:=Tryz.f72
noncomputable abbrev Ak6:=Tryz.f141
theorem AfR(x:Int):F0 141 [cy [],di x] (di (-1)):=by
 exact sv Ak6 19 [] (.n<|.f<|.r) (Y (0<(I (U vi []):Int))=O/\Q (di (-1))) ⟨by decide,rfl⟩
theorem AcW(x:Int):F0 72 [cy [],di x] (db O):=by
 exact sv AkH 9 [] (.c (di (-1))<|.r) (_/\db (Y (-1>=0))=db O) ⟨AfR x,rfl⟩
theorem AeE:F0 140 [cy [],cy [0]] (.tup [.v .nils,db J]):=by
 exact sv Ama 44 [] (.c (db J)<|.k<|.c (db J)<|.k<|.n<|.f<|.rn) (_/\_/\Y (0<(I (U vi []):Int))=O/\Q (bl [dn,db J])) ⟨Lx [] (by decide),Lx [0] (by decide),by decide,rfl⟩
noncomputable abbrev Amz:=Tryz.f71
theorem Agl(m:ba)(hk:m.kind=2):F0 71 [Ax m,cy [],cy [0]] (.tup [.v .nils,db J]):=by
 exact sv Amz 23 [3] (.f<|.c (.tup [.v .nils,db J])<|.rn) ((m.kind==3)=O/\_/\Q (bl [dn,db J])) ⟨by rw[hk];rfl,AeE,rfl⟩
noncomputable abbrev Am0:=Tryz.f38
abbrev nn:List D:=[di 0,cx [d5,.mk 0 [d5]]]
abbrev Xf(K:List D):St:=⟨[G nn,G [di 0,cx []],G K],[]⟩
theorem Adp(m:ba)(t:bc)(hm:ip m t)(hk:m.kind=2)(hp:I m.ay=1)(hc:F0 69 [Ax m,dl [Au c0,Au e0]] (di 0)):F0 38 [Ax m,dV c0,dV e0] (.tup [cx [e0],di 0]):=by
 refine sv Am0 88 [3,4,5] (.c (di 0)<|.k<|.h (.xs (Au d5))<|.h (.xs (Au d5))<|.k<|.n<|.t<|.h (.oc (.gro 2 1 1) (Xf [di 0]))<|.c (cy [])<|.h (.oc (.tup [.v .nils,db J]) (Xf [di 0]))<|.k<|.n<|.k<|.c (db O)<|.k<|.h (.oc (.arr 2 0 0) (Xf [di 0]))<|.h (.q 19 6)<|.h (.ct 12 (cy []) ⟨[G nn,G [di 0,cx []],none],[]⟩)<|.h (.xs (Au d5))<|.c (dV e0)<|.h (.q 21 3)<|.a 1<|.n<|.k<|.n<|.f<|.c (cx [e0])<|.r) (F0 69 [Ax m,bt (ai [Au c0,Au e0])] (di 0)/\Q 2/\iz 0<=0/\G (eV d5)=G (Au d5)/\Q 2/\iz 0<=0/\G (eV d5)=G (Au d5)/\Y (0<(I (U ae m.ay):Int))=J/\(∀(o:yw) (c:Call) (fo:x5),o.op=Op.call c->c.callee=Callee.value fo->Ay PP o [bt (bw 70 [] []),dV c0,di 0] (bi [G [di c0.n,cx c0.az]] []) (bm 2 1 1) (Xf [di 0]))/\F0 70 [dV e0,di 0] (cy [])/\(∀(o:yw) (c:Call) (fo:x5),o.op=Op.call c->c.callee=Callee.value fo->Ay PP o [bt (bw 71 [] []),Ax m,cy [],bm 2 1 1] (Xf [di 0]) (bl [dn,db J]) (Xf [di 0]))/\F0 72 [bt (ai []),di (yr yq ((↑1:Int)-1))] (db O)/\(∀(o:yw) (c:Call) (fo:x5),o.op=Op.call c->c.callee=Callee.value fo->Ay PP o [bt (bw 73 [] []),bm 2 1 1,di (yr yq ((↑1:Int)-1)),di (yr yq (yr yq ((↑1:Int)-1)+1))] (bi [G nn,G [di 0,cx []],G [di 0]] []) (bo 2 0 0) (Xf [di 0]))/\(∀(e:List D),e[12]?=G (bo 2 0 0)->∀(E:co) (g:Gh) (a:Act) (w:yy),FI E g (Xf [di 0]) e a w->∃g',FI E g' (bi [G nn,G [di 0,cx []],none] []) (List.set e 12 (cy [])) a w)/\Q 2/\iz 0<=0/\G (eV d5)=G (Au d5)/\F0 74 [bt (ab [vi 0,cc [d5,bd.mk 0 [d5]]]),di d5.n,di 0,bt (cz [])] (dV e0)/\ym/\A9 1 32/\Y (yr yq (0+1)<(I (U ae m.ay):Int))=O/\F0 75 [bt (ai [ab [vi e0.n,cc e0.az]])] (cx [e0])/\bl [bt (cc [e0]),di 0]=bl [cx [e0],di 0]) ?_
 have w1:yr .i64 (1-1)=0:=by decide
 have w2:yr .i64 (0+1)=1:=by decide
 rw[w1,w2]
 refine⟨hc,rfl,by decide,by rw[AR],rfl,by decide,by rw[AR],HS (by rw[HP];omega),fun o c fo ho hc=>?_,Ms e0 0 (.mk 0 []) rfl (by decide) (by decide),fun o c fo ho hc=>?_,AcW _,fun o c fo ho hc=>?_,fun e he=>K4 (σ:=Xf [di 0]) (q:=2) (sz:=1) (xs:=[]) (rest:=[di 0]) (by decide) (by simp) rfl rfl he,rfl,by decide,by rw[AR],?_,yk,⟨by decide,by decide⟩,HU (by rw[HP];omega),?_,rfl⟩
 ·exact B7 (σ:=⟨[G nn],[]⟩) ho hc (fD:=.v (.fn 70 [] [])) rfl (ds:=[dV c0,di 0]) [] id Agi (.cons (.ren (dc:=dV c0) rfl) (.cons (.ren (dc:=di 0) rfl) .nil)) .nil (by simp) rfl (by simp) (by simp) rfl rfl
 ·refine AbG (σ:=Xf [di 0]) ho hc (fs:=[]) (cs:=[]) (xs:=[AE m,cz [],cz [0]]) (d0:=.tup [.v .nils,db J]) (.cons (n:=0) ⟨Ax m,.same,rfl⟩ (.cons (n:=0) ⟨cy [],.same,rfl⟩ (.cons (n:=1) ?_ .nil))) rfl (Agl m hk)
  refine .inr (.inr ⟨2,0,1,[di 0],[vi 0],.inr ⟨1,rfl,rfl⟩,rfl,by decide,by simp[V.size],rfl,fun j y hy=>?_⟩)
  match j,hy with
  |0,hy=>cases hy;exact⟨rfl,di 0,rfl,di 0,.same,rfl⟩
 ·exact B7 (σ:=Xf [di 0]) ho hc (fD:=.v (.fn 73 [] [])) rfl (ds:=[.gro 2 1 1,di 0,di 1]) [2] id (Nl 1 0 (by decide) [] [di 0] [] rfl rfl rfl rfl) (.cons (.ren (dc:=.gro 0 1 1) rfl) (.cons (.ren (dc:=di 0) rfl) (.cons (.ren (dc:=di 1) rfl) .nil))) (.cons rfl (JO rfl) rfl .nil) (by simp) rfl (by simp) (by simp) rfl rfl
 ·have:=Lz c0 (by decide) d5 (.mk 0 [d5]) 0 rfl rfl 0 [] (by decide)
  exact this
 ·have:=OT [e0] (by decide) (fun v hv=>OS _ v (HX _) (by rw[Ii.1 hv];decide))
  have e:bt (ai [ab [vi e0.n,cc e0.az]])=cx [e0]:=by
   show bt (.list [Au e0])=bt (.list [eV e0])
   rw[AR]
  rw[e];exact this
theorem RS{l:List Int}(hl:I l<=400):∃(m:ba) (t:bc) (c:bd) (a1:Nat) (s1:Int) (a2:Nat) (s2:Int),D1 m t/\Aw t c=J/\jg l m c a1 s1 a2 s2:=by
 obtain⟨m,t,a1,s1,hn,hd,hr,ha,hm⟩:=Acb hl
 obtain⟨c,a2,s2,hv,_,hc⟩:=hn.cfg hl m.av m.start a1 s1 ha
 have hz:=NF hv
 exact⟨m,t,c,a1,s1,a2,s2,hd,hv,hl,hm,hc,by omega,by omega⟩
theorem Xc(haw:U6)(l:List Int):F0 5 [cy l] (db J):=by
 by_cases hl:I l<=400
 ·obtain⟨m,t,c,a1,s1,a2,s2,hd,hv,hx⟩:=RS hl
  obtain⟨ap,ha⟩:=hd.ans
  exact AfH haw hx ha hv
 ·exact Ach haw l (by omega)
theorem Ajq(haw:U6)(l:List Int):F0 3 [cy l] (db J):=by
 by_cases hl:I l<=400
 ·obtain⟨m,t,c,a1,s1,a2,s2,hd,hv,hx⟩:=RS hl
  obtain⟨ap,ha⟩:=hd.ans
  exact AfP haw hx ha hv
 ·exact Acu haw l (by omega)
theorem Abv(haw:U6)(l:List Int):F0 4 [cy l] (db J):=by
 by_cases hl:I l<=400
 ·obtain⟨m,t,c,a1,s1,a2,s2,hd,hv,hx⟩:=RS hl
  exact AfI haw hx hd hv
 ·exact Ack haw l (by omega)
end Go.Proofs.YthmjfmacdlhfjaaGreat
