/-
  A part of the proof.
-/
import Derived.Test.YtpmahmngmgnnbaaGreatDoorZc
namespace Go.Proofs.YtpmahmngmgnnbaaGreatDoor
open Go.Dv Go.Nv
set_option maxRecDepth 20000
open List (all_cons headD length map replicate take)
open Go.IntKind (wrap)
noncomputable abbrev Z2:Func:= Tryz.f117
theorem Pv(c:UInt8):Aa PP 117 [.v (vb c)] σ0 (db (CA c)) σ0:=by
 refine sv Z2 21 [] (.b (.b .r (.b (.b .r .r) .r)) (.k<|.b (.b .r .r) .r)) ((decide ((↑(UInt8.toNat c):Int)>=97)=true->(decide ((↑(UInt8.toNat c):Int)<=122)=true->db true=db (CA c))/\(decide ((↑(UInt8.toNat c):Int)<=122)=false->(decide ((↑(UInt8.toNat c):Int)>=48)=true->(decide ((↑(UInt8.toNat c):Int)<=57)=true->db true=db (CA c))/\(decide ((↑(UInt8.toNat c):Int)<=57)=false->db ((↑(UInt8.toNat c):Int)==95)=db (CA c)))/\(decide ((↑(UInt8.toNat c):Int)>=48)=false->db ((↑(UInt8.toNat c):Int)==95)=db (CA c))))/\(decide ((↑(UInt8.toNat c):Int)>=97)=false->(decide ((↑(UInt8.toNat c):Int)>=48)=true->(decide ((↑(UInt8.toNat c):Int)<=57)=true->db true=db (CA c))/\(decide ((↑(UInt8.toNat c):Int)<=57)=false->db ((↑(UInt8.toNat c):Int)==95)=db (CA c)))/\(decide ((↑(UInt8.toNat c):Int)>=48)=false->db ((↑(UInt8.toNat c):Int)==95)=db (CA c)))) ?_
 repeat' first|with_reducible refine And.intro ?_ ?_|intro _
 all_goals simp only[CA,FM,Ts, *]<;>simp
noncomputable abbrev GG:Func:= Tryz.f77
noncomputable def FK:Code:=GG.body.getD .skip
theorem QX(p:UInt8->Bool):∀s:List UInt8,EN p s=s.length->∀c∈s,p c=true
 |[],_,_,h=>absurd h (by simp)
 |x::s,h,c,hc=>by
  unfold EN at h
  split at h
  ·rename_i hx
   rcases Ib.1 hc with rfl|hc
   ·exact hx
   ·exact QX p s (by simpa using h) c hc
  ·simp at h
theorem M2(s:List UInt8)(hs:s.length<=12)(hw:CM s=true)(n:Nat):∀k:Nat,s.length-k=n->
  Rn PP GG 0 (db true) σ0 ([.lp (sub FK [1,0,1,0,0]),.blk 0,.code (sub FK [1,1])]++[]) (mkE 33 [(0,ds s),(3,di k)]) σ0:=by
 induction n using Nat.strongRecOn with
 |_ n ih=>
 intro k hn
 refine lv 33 [] (.b (.e fun c:UInt8=>.y c<|.c (db true)<|.l [ke 0,ch 3 (di (k+1:Nat))]) (.t<|.t<|.y (s.headD 0)<|.t<|.y (s.headD 0) .r)) ((decide ((k:Int)<(s.length:Int))=true->∃a,0<=(k:Int)/\s[Int.toNat (k:Int)]?=some a/\Aa PP 117 [D.v (V.int IntKind.u8 (↑(UInt8.toNat a):Int))] (St.mk [] []) (db true) (St.mk [] [])/\di (wrap IntKind.i64 ((k:Int)+1))=di (↑(k+1):Int)/\Nv.It (A9 (CN 0) PP (fun env σ1=>A2 PP GG env σ1 (db true) σ0) [kl FK [1,0,1,0,0],KI.blk 0,kc FK [1,1]] (mkE 33 [(0,D.v (V.str s)),(3,di (↑(k+1):Int))]) σ0))/\(decide ((k:Int)<(s.length:Int))=false->decide ((s.length:Int)>=1)=true/\decide ((s.length:Int)<=12)=true/\iz 0<=0/\s[Int.toNat 0]?=some (headD s 0)/\decide ((↑(UInt8.toNat (headD s 0)):Int)>=97)=true/\iz 0<=0/\s[Int.toNat 0]?=some (headD s 0)/\db (decide ((↑(UInt8.toNat (headD s 0)):Int)<=122))=db true)) ?_
 simp only[CM,Hy,bne_iff_ne,ne_eq,HX] at hw
 obtain⟨w1,w2,w3,w4⟩:=hw
 have hall:=QX CA s (Int.ofNat_inj.1 w4)
 have h0:s[0]?=some (s.headD 0):=by cases s with
  |nil=>simp at w1
  |cons a s=>rfl
 simp only[FM,Hy] at w3
 refine⟨fun h=>?_,fun h=>?_⟩
 ·have hk:k<s.length:=by simpa using h
  have hx:s[k]?=some s[k]:=Hx hk
  generalize s[k]=c at hx
  refine⟨c,by omega,by simpa using hx,hall c (H4 hx)▸Pv c,Ae (by omega),⟨?_⟩⟩
  exact ih (s.length- (k+1)) (by omega) (k+1) rfl
 ·refine⟨Hz ?_,w2,by decide,h0,w3.1,by decide,h0,HL db w3.2⟩
  cases s with
  |nil=>simp at w1
  |cons a s=>simp only[H3];omega
theorem M1(s:List UInt8)(hw:CM s=true):Aa PP 77 [ds s] σ0 (db true) σ0:=by
 have hs:s.length<=12:=by
  simp only[CM,Hy,H8] at hw
  omega
 refine sv GG 33 [] (.l [ke 0,ch 3 (di (0:Nat))]) (di 0=di (↑0:Int)/\I0 GG σ0.H.length (db true) σ0 [kl FK [1,0,1,0,0],KI.blk 0,kc FK [1,1]] (mkE 33 [(0,D.v (V.str s)),(3,di (↑0:Int))]) σ0) ?_
 exact⟨rfl,⟨M2 s hs hw _ 0 rfl⟩⟩
noncomputable abbrev XO:Func:= Tryz.f48
theorem A6(x a b:Int):Aa PP 48 [di x,di a,di b] σ0 (db (An x a b)) σ0:=by
 refine sv XO 15 [] (.b .r .r) ((decide (x>=a)=true->db (decide (x<=b))=db (An x a b))/\(decide (x>=a)=false->db false=db (An x a b))) ?_
 refine⟨fun h=>?_,fun h=>?_⟩
 ·have h:a<=x:=by simpa using h
  simp[An,h]
 ·have h:¬a<=x:=by simpa using h
  simp[An,h]
noncomputable abbrev Ej:Func:= Tryz.f49
theorem JP(m:Mod)(hm:m.okN):Aa PP 49 [Ad m] σ0 (db true) σ0:=by
 have h1:∀a b x,An x a b=true->Aa PP 48 [di x,di a,di b] σ0 (db true) σ0:=fun a b x h=>h▸A6 x a b
 have hs:=hm.sized
 simp only[B3,Hy,H8] at hs
 obtain⟨s1,s2,s3,s4,s5,s6⟩:=hs
 have hk:=hm.kind
 clear hm
 obtain⟨kind,states,places,letters,ranks,levels,age,rules,start⟩:=m
 dsimp only at*
 rcases hk with hk|hk|hk<;>subst hk
 ·refine sv Ej 81 [1] (.c (db true)<|.c (db true)<|.k<|.f<|.c (db true)<|.c (db true) .r) (F0 48 [di (length (map V.str (Mod.mk 1 states places letters ranks levels age rules start).states):Int),di 1,di 8] (db true)/\F0 48 [di (length (map V.str (Mod.mk 1 states places letters ranks levels age rules start).places):Int),di 1,di 6] (db true)/\decide ((length (map Ah (Mod.mk 1 states places letters ranks levels age rules start).rules):Int)>12)=false/\F0 48 [di (length (map V.str (Mod.mk 1 states places letters ranks levels age rules start).letters):Int),di 0,di 0] (db true)/\F0 48 [di (Mod.mk 1 states places letters ranks levels age rules start).levels,di 0,di 0] (db true)/\db ((Mod.mk 1 states places letters ranks levels age rules start).age==0)=db true) ?_
  refine⟨by rw[Hw];exact h1 _ _ _ s1,by rw[Hw];exact h1 _ _ _ s3,by rw[Hw];show decide ((rules.length:Int)>12)=false;exact H1 (by omega),by rw[Hw];exact h1 _ _ _ s4,h1 _ _ _ s5,?_⟩
  have:=BC s6
  rw[show age=0 by simp only[Fo] at this;simp at this;omega];rfl
 ·refine sv Ej 81 [1] (.c (db true)<|.c (db true)<|.k<|.f<|.c (db true)<|.c (db true) .r) (F0 48 [di (length (map V.str (Mod.mk 2 states places letters ranks levels age rules start).states):Int),di 1,di 8] (db true)/\F0 48 [di (length (map V.str (Mod.mk 2 states places letters ranks levels age rules start).places):Int),di 1,di 2] (db true)/\decide ((length (map Ah (Mod.mk 2 states places letters ranks levels age rules start).rules):Int)>12)=false/\F0 48 [di (length (map V.str (Mod.mk 2 states places letters ranks levels age rules start).letters):Int),di 1,di 6] (db true)/\F0 48 [di (Mod.mk 2 states places letters ranks levels age rules start).levels,di 0,di 0] (db true)/\db ((Mod.mk 2 states places letters ranks levels age rules start).age==0)=db true) ?_
  refine⟨by rw[Hw];exact h1 _ _ _ s1,by rw[Hw];exact h1 _ _ _ s3,by rw[Hw];show decide ((rules.length:Int)>12)=false;exact H1 (by omega),by rw[Hw];exact h1 _ _ _ s4,h1 _ _ _ s5,?_⟩
  have:=BC s6
  rw[show age=0 by simp only[Fo] at this;simp at this;omega];rfl
 ·refine sv Ej 81 [1] (.c (db true)<|.c (db true)<|.k<|.f<|.c (db true)<|.c (db true) .r) (F0 48 [di (length (map V.str (Mod.mk 3 states places letters ranks levels age rules start).states):Int),di 1,di 8] (db true)/\F0 48 [di (length (map V.str (Mod.mk 3 states places letters ranks levels age rules start).places):Int),di 1,di 2] (db true)/\decide ((length (map Ah (Mod.mk 3 states places letters ranks levels age rules start).rules):Int)>12)=false/\F0 48 [di (length (map V.str (Mod.mk 3 states places letters ranks levels age rules start).letters):Int),di 1,di 6] (db true)/\F0 48 [di (Mod.mk 3 states places letters ranks levels age rules start).levels,di 0,di 0] (db true)/\db ((Mod.mk 3 states places letters ranks levels age rules start).age==0)=db true) ?_
  refine⟨by rw[Hw];exact h1 _ _ _ s1,by rw[Hw];exact h1 _ _ _ s3,by rw[Hw];show decide ((rules.length:Int)>12)=false;exact H1 (by omega),by rw[Hw];exact h1 _ _ _ s4,h1 _ _ _ s5,?_⟩
  have:=BC s6
  rw[show age=0 by simp only[Fo] at this;simp at this;omega];rfl
noncomputable abbrev Ft:Func:= Tryz.f50
noncomputable def Ke:Code:=Ft.body.getD .skip
theorem Uk(m:Mod)(hm:m.okN)(hk:m.kind≠3):Aa PP 50 [Ad m] σ0 (db true) σ0:=by
 refine sv Ft 32 [1] (.t .r) ((m.kind !=3)=true/\db ((length (map vi m.ranks):Int)==0)=db true) ?_
 have h:=hm.ranked
 rw[AN,HJ (bne_iff_ne.2 hk)] at h
 exact⟨bne_iff_ne.2 hk,by rw[Hw];exact HL db h⟩
theorem OI(m:Mod)(hm:m.okN)(hk:m.kind=3)(n:Nat):∀k:Nat,m.ranks.length-k=n->
  Rn PP Ft 0 (db true) σ0 ([.lp (sub Ke [1,1,1,0,1,0,0]),.blk 0,.code (sub Ke [1,1,1,1])]++[]) (mkE 32 [(1,.v (.ref (Az m))),(3,di k)]) σ0:=by
 induction n using Nat.strongRecOn with
 |_ n ih=>
 intro k hn
 refine lv 32 [1] (.b (.e fun x:Int=>.x (vi x)<|.c (db true)<|.l [ke 1,ch 3 (di (k+1:Nat))]) .r) ((decide ((k:Int)<(length (map vi m.ranks):Int))=true->∃a,0<=(k:Int)/\(map vi m.ranks)[Int.toNat (k:Int)]?=some (vi a)/\Aa PP 48 [di a,di 0,di 5] (St.mk [] []) (db true) (St.mk [] [])/\di (wrap IntKind.i64 ((k:Int)+1))=di (↑(k+1):Int)/\Nv.It (A9 (CN 0) PP (fun env σ1=>A2 PP Ft env σ1 (db true) σ0) [kl Ke [1,1,1,0,1,0,0],KI.blk 0,kc Ke [1,1,1,1]] (mkE 32 [(1,D.v (V.ref (Az m))),(3,di (↑(k+1):Int))]) σ0))/\(decide ((k:Int)<(length (map vi m.ranks):Int))=false->Q (db true))) ?_
 have h:=hm.ranked
 simp only[AN,hk,bne_self_eq_false,IV,if_false,Hy,Ii] at h
 have hz:=hm.sz
 refine⟨fun h1=>?_,fun h1=>rfl⟩
 have hk1:k<m.ranks.length:=by simpa using h1
 have hx:m.ranks[k]?=some m.ranks[k]:=Hx hk1
 generalize m.ranks[k]=x at hx
 refine⟨x,by omega,AW hx,h.2 x (H4 hx)▸A6 x 0 5,Ae (by omega),⟨?_⟩⟩
 exact ih (m.ranks.length- (k+1)) (by omega) (k+1) rfl
theorem Xf(m:Mod)(hm:m.okN)(hk:m.kind=3):Aa PP 50 [Ad m] σ0 (db true) σ0:=by
 refine sv Ft 32 [1] (.f<|.f<|.l [ke 1,ch 3 (di (0:Nat))]) ((m.kind !=3)=false/\((length (map vi m.ranks):Int) !=(length (map V.str m.letters):Int))=false/\di 0=di (↑0:Int)/\I0 Ft σ0.H.length (db true) σ0 [kl Ke [1,1,1,0,1,0,0],KI.blk 0,kc Ke [1,1,1,1]] (mkE 32 [(1,D.v (V.ref (Az m))),(3,di (↑0:Int))]) σ0) ?_
 have h:=hm.ranked
 simp only[AN,hk,bne_self_eq_false,IV,if_false,Hy] at h
 refine⟨by rw[hk];rfl,by rw[Hw,Hw];simpa using h.1,rfl,⟨OI m hm hk _ 0 rfl⟩⟩
theorem JF(m:Mod)(hm:m.okN):Aa PP 50 [Ad m] σ0 (db true) σ0:=by
 by_cases hk:m.kind=3
 ·exact Xf m hm hk
 ·exact Uk m hm hk
noncomputable abbrev S5:Func:= Tryz.f78
noncomputable def PI:Code:=S5.body.getD .skip
theorem Sv(l:List (List UInt8))(hl:l.length<=1000)(s:List UInt8)(n:Nat):∀k:Nat,l.length-k=n->
  Rn PP S5 0 (db ((l.drop k).any (· ==s))) σ0 ([.lp (sub PI [1,1,0,1,0,0]),.blk 0,.code (sub PI [1,1,1])]++[]) (mkE 18 [(0,ds s),(3,dl (l.map V.str)),(4,di k)]) σ0:=by
 induction n using Nat.strongRecOn with
 |_ n ih=>
 intro k hn
 refine lv 18 [] (.b (.e fun x:List UInt8=>.x (.str x)<|.b .r (.l [ke 0,ke 3,ch 4 (di (k+1:Nat))])) .r) ((decide ((k:Int)<(length (map V.str l):Int))=true->∃a,0<=(k:Int)/\(map V.str l)[Int.toNat (k:Int)]?=some (V.str a)/\((a==s)=true->db true=db (List.any (List.drop k l) fun x=>x==s))/\((a==s)=false->di (wrap IntKind.i64 ((k:Int)+1))=di (↑(k+1):Int)/\Nv.It (A9 (CN 0) PP (fun env σ1=>A2 PP S5 env σ1 (db (List.any (List.drop k l) fun x=>x==s)) σ0) [kl PI [1,1,0,1,0,0],KI.blk 0,kc PI [1,1,1]] (mkE 18 [(0,D.v (V.str s)),(3,D.v (V.list (map V.str l))),(4,di (↑(k+1):Int))]) σ0)))/\(decide ((k:Int)<(length (map V.str l):Int))=false->db false=db (List.any (List.drop k l) fun x=>x==s))) ?_
 refine⟨fun h=>?_,fun h=>?_⟩
 ·have hk:k<l.length:=by simpa using h
  have hx:l[k]?=some l[k]:=Hx hk
  rw[HD hk]
  generalize l[k]=x at hx⊢
  refine⟨x,by omega,BA hx,fun h1=>?_,fun h1=>⟨Ae (by omega),⟨?_⟩⟩⟩
  ·rw[List.any_cons,h1,Bool.true_or]
  ·rw[List.any_cons,h1,Bool.false_or]
   exact ih (l.length- (k+1)) (by omega) (k+1) rfl
 ·have hk:l.length<=k:=by simpa using h
  rw[HI hk];rfl
theorem Su(s:List UInt8):Aa PP 78 [ds s] σ0 (db (Pw s)) σ0:=by
 refine sv S5 18 [] (.l [ke 0,ch 3 (dl (Yl.map V.str)),ch 4 (di (0:Nat))]) (D.v (V.list [V.str (ByteArray.mk #[109,111,100,101,108]).data.toList,V.str (ByteArray.mk #[115,116,97,116,101,115]).data.toList,V.str (ByteArray.mk #[112,108,97,99,101,115]).data.toList,V.str (ByteArray.mk #[108,101,116,116,101,114,115]).data.toList,V.str (ByteArray.mk #[108,101,118,101,108,115]).data.toList,V.str (ByteArray.mk #[97,103,101]).data.toList,V.str (ByteArray.mk #[114,117,108,101]).data.toList,V.str (ByteArray.mk #[110,101,101,100]).data.toList,V.str (ByteArray.mk #[103,105,118,101]).data.toList,V.str (ByteArray.mk #[109,111,118,101]).data.toList,V.str (ByteArray.mk #[101,109,112,116,121]).data.toList,V.str (ByteArray.mk #[115,101,110,100]).data.toList,V.str (ByteArray.mk #[114,101,99,101,105,118,101]).data.toList,V.str (ByteArray.mk #[112,97,116,104]).data.toList,V.str (ByteArray.mk #[110,101,120,116]).data.toList,V.str (ByteArray.mk #[116,97,107,101]).data.toList,V.str (ByteArray.mk #[109,97,107,101]).data.toList,V.str (ByteArray.mk #[115,116,97,114,116]).data.toList])=dl (map V.str Yl)/\di 0=di (↑0:Int)/\I0 S5 σ0.H.length (db (Pw s)) σ0 [kl PI [1,1,0,1,0,0],KI.blk 0,kc PI [1,1,1]] (mkE 18 [(0,D.v (V.str s)),(3,dl (map V.str Yl)),(4,di (↑0:Int))]) σ0) ?_
 refine⟨rfl,rfl,⟨?_⟩⟩
 exact Sv Yl (by decide) s _ 0 rfl
theorem Wl:∀(l u:List (List UInt8)),nmB u l=true->(∀s∈l,CM s=true/\Pw s=false/\u.contains s=false)/\l.Nodup
 |[],_,_=>⟨fun s hs=>absurd hs (by simp),List.nodup_nil⟩
 |x::l,u,h=>by
  simp only[nmB,Hy,Io] at h
  obtain⟨h1,h2,h3,h4⟩:=h
  obtain⟨h5,h6⟩:=Wl l (u++[x]) h4
  refine⟨fun s hs=>?_,?_⟩
  ·rcases Ib.1 hs with rfl|hs
   ·exact⟨h1,h2,h3⟩
   ·obtain⟨a,b,c⟩:=h5 s hs
    refine⟨a,b,?_⟩
    simp at c⊢
    exact c.1
  ·refine List.nodup_cons.2 ⟨fun hx=>?_,h6⟩
   have:=(h5 x hx).2.2
   simp at this
noncomputable abbrev Dq:Func:= Tryz.f51
noncomputable def AZ:Code:=Dq.body.getD .skip
theorem MS(l:List (List UInt8))(hl:l.length<=1000000)(hd:l.Nodup)(i:Nat)(hi:i<l.length)
  (hout:Rn PP Dq 0 (db true) σ0 ([.lp (sub AZ [1,1,1,0,1,0,0]),.blk 2,.code (sub AZ [1,1,1,1])]++[]) (mkE 65 [(3,dl (l.map V.str)),(5,di (i+1:Nat))]) σ0) (n:Nat):∀k:Nat,i-k=n->
  Rn PP Dq 0 (db true) σ0 ([.lp (sub AZ [1,1,1,0,1,0,0,1,0,0,1,1,0,0]),.blk 4,.blk 3,.code (sub AZ [1,1,1,0,1,0,0,1,1]),.lp (sub AZ [1,1,1,0,1,0,0]),.blk 2,.code (sub AZ [1,1,1,1])]++[]) (mkE 65 [(3,dl (l.map V.str)),(5,di i),(6,di k)]) σ0:=by
 induction n using Nat.strongRecOn with
 |_ n ih=>
 intro k hn
 refine lv 65 [1] (.b (.e fun a:List UInt8=>.x (.str a)<|.e fun b:List UInt8=>.x (.str b)<|.f<|.l [ke 3,ke 5,ch 6 (di (k+1:Nat))]) (.l [ke 3,ch 5 (di (i+1:Nat))])) ((decide ((k:Int)<(i:Int))=true->∃a,0<=(k:Int)/\(map V.str l)[Int.toNat (k:Int)]?=some (V.str a)/\∃a_1,0<=(i:Int)/\(map V.str l)[Int.toNat (i:Int)]?=some (V.str a_1)/\(a==a_1)=false/\di (wrap IntKind.i64 ((k:Int)+1))=di (↑(k+1):Int)/\Nv.It (A9 (CN 0) PP (fun env σ1=>A2 PP Dq env σ1 (db true) σ0) [kl AZ [1,1,1,0,1,0,0,1,0,0,1,1,0,0],KI.blk 4,KI.blk 3,kc AZ [1,1,1,0,1,0,0,1,1],kl AZ [1,1,1,0,1,0,0],KI.blk 2,kc AZ [1,1,1,1]] (mkE 65 [(3,D.v (V.list (map V.str l))),(5,di (i:Int)),(6,di (↑(k+1):Int))]) (St.mk [] [])))/\(decide ((k:Int)<(i:Int))=false->di (wrap IntKind.i64 ((i:Int)+1))=di (↑(i+1):Int)/\I0 Dq 0 (db true) σ0 [kl AZ [1,1,1,0,1,0,0],KI.blk 2,kc AZ [1,1,1,1]] (mkE 65 [(3,D.v (V.list (map V.str l))),(5,di (↑(i+1):Int))]) σ0)) ?_
 refine⟨fun h=>?_,fun h=>⟨Ae (by omega),⟨hout⟩⟩⟩
 have hk:k<i:=by simpa using h
 have hx:l[k]?=some l[k]:=Hx (by omega)
 have hy:l[i]?=some l[i]:=Hx hi
 have hxy:l[k]≠l[i]:=List.pairwise_iff_getElem.1 hd k i (by omega) hi hk
 exact⟨l[k],by omega,BA hx,l[i],by omega,BA hy,Ia.2 hxy,Ae (by omega),⟨ih (i- (k+1)) (by omega) (k+1) rfl⟩⟩
theorem MT(l:List (List UInt8))(hl:l.length<=1000000)(hd:l.Nodup)(hw:∀s∈l,CM s=true/\Pw s=false)(n:Nat):∀i:Nat,l.length-i=n->
  Rn PP Dq 0 (db true) σ0 ([.lp (sub AZ [1,1,1,0,1,0,0]),.blk 2,.code (sub AZ [1,1,1,1])]++[]) (mkE 65 [(3,dl (l.map V.str)),(5,di i)]) σ0:=by
 induction n using Nat.strongRecOn with
 |_ n ih=>
 intro i hn
 refine lv 65 [1] (.b (.e fun s:List UInt8=>.x (.str s)<|.c (db true)<|.x (.str s)<|.c (db false)<|.l [ke 3,ke 5,ch 6 (di (0:Nat))]) .r) ((decide ((i:Int)<(length (map V.str l):Int))=true->∃a,0<=(i:Int)/\(map V.str l)[Int.toNat (i:Int)]?=some (V.str a)/\Aa PP 77 [D.v (V.str a)] (St.mk [] []) (db true) (St.mk [] [])/\0<=(i:Int)/\(map V.str l)[Int.toNat (i:Int)]?=some (V.str a)/\Aa PP 78 [D.v (V.str a)] (St.mk [] []) (db false) (St.mk [] [])/\di 0=di (↑0:Int)/\Nv.It (A9 (CN 0) PP (fun env σ1=>A2 PP Dq env σ1 (db true) σ0) [kl AZ [1,1,1,0,1,0,0,1,0,0,1,1,0,0],KI.blk 4,KI.blk 3,kc AZ [1,1,1,0,1,0,0,1,1],kl AZ [1,1,1,0,1,0,0],KI.blk 2,kc AZ [1,1,1,1]] (mkE 65 [(3,D.v (V.list (map V.str l))),(5,di (i:Int)),(6,di (↑0:Int))]) σ0))/\(decide ((i:Int)<(length (map V.str l):Int))=false->Q (db true))) ?_
 refine⟨fun h=>?_,fun h=>rfl⟩
 have hk:i<l.length:=by simpa using h
 have hx:l[i]?=some l[i]:=Hx hk
 have h3:=MS l hl hd i hk (ih (l.length- (i+1)) (by omega) (i+1) rfl) _ 0 rfl
 generalize l[i]=s at hx
 obtain⟨w1,w2⟩:=hw s (H4 hx)
 exact⟨s,by omega,BA hx,M1 s w1,by omega,BA hx,w2▸Su s,rfl,⟨h3⟩⟩
theorem MU(m:Mod)(hlen:(Dp m).length<=100)(hrl:m.rules.length<=100)(hnm:Cu m=true)(n:Nat):∀(k:Nat) (xs:List (List UInt8)),m.rules.length-k=n->xs++(m.rules.drop k).map Rul.name=Dp m->
  Rn PP Dq 0 (db true) σ0 ([.lp (sub AZ [1,1,0,1,0,0]),.blk 0,.code (sub AZ [1,1,1])]++[]) (mkE 65 [(1,.v (.ref (Az m))),(3,Hb xs),(4,di k)]) (To xs):=by
 induction n with
 |zero=>
  intro k xs hn hx
  refine lv 65 [1] (.f<|.h (.q 6 0)<|.h (.un 3)<|.ls [ch 3 (dl (xs.map V.str)),ch 5 (di (0:Nat))] σ0) (decide ((k:Int)<(length (map Ah m.rules):Int))=false/\D.v (V.list (map V.str xs))=dl (map V.str xs)/\di 0=di (↑0:Int)/\I0 Dq 0 (db true) σ0 [kl AZ [1,1,1,0,1,0,0],KI.blk 2,kc AZ [1,1,1,1]] (mkE 65 [(3,dl (map V.str xs)),(5,di (↑0:Int))]) σ0) ?_
  refine⟨by rw[Hw];exact H1 (by omega),rfl,rfl,⟨?_⟩⟩
  rw[HI (by omega)] at hx
  rw[Iu,Il] at hx
  subst hx
  obtain⟨h1,h2⟩:=Wl _ _ hnm
  exact MT _ (by omega) h2 (fun s hs=>⟨(h1 s hs).1,(h1 s hs).2.1⟩) _ 0 rfl
 |succ n ih=>
  intro k xs hn hx
  refine lv 65 [1] (.t<|.e fun r:Rul=>.h (.xs (Ah r))<|.w<|.ls [ke 1,ch 3 (Hb (xs++[r.name])),ch 4 (di (k+1:Nat))] (To (xs++[r.name]))) (decide ((k:Int)<(length (map Ah m.rules):Int))=true/\∃a,14=14/\0<=(k:Int)/\(map Ah m.rules)[Int.toNat (k:Int)]?=some (Ah a)/\Q (map V.str xs)/\Ax (length (map V.str xs)+length (V.str a.name::nV)) 16/\(∀(y:V),y∈ [V.str a.name]->V.size y=1)/\D.acc 1 (map V.str xs++[V.str a.name])=Hb (xs++[a.name])/\di (wrap IntKind.i64 ((k:Int)+1))=di (↑(k+1):Int)/\[(1,1,map V.str xs++V.str a.name::nV)]=[(1,1,map V.str (xs++[a.name]))]/\I0 Dq 0 (db true) σ0 [kl AZ [1,1,0,1,0,0],KI.blk 0,kc AZ [1,1,1]] (mkE 65 [(1,D.v (V.ref (Az m))),(3,Hb (xs++[a.name])),(4,di (↑(k+1):Int))]) (To (xs++[a.name]))) ?_
  have hk:k<m.rules.length:=by omega
  have hr:m.rules[k]?=some m.rules[k]:=Hx hk
  rw[HD hk] at hx
  generalize m.rules[k]=r at hr hx
  have hxl:xs.length<=100:=by
   have:=HL length hx
   simp only[HC] at this;omega
  refine⟨by rw[Hw];exact Hz (by omega),r,rfl,by omega,AW hr,rfl,⟨?_,?_⟩,by simp[V.size],by simp,Ae (by omega),by simp,⟨?_⟩⟩
  ·simp only[Hw,H3,H7];omega
  ·simp only[Hw,H3,H7];omega
  ·exact ih (k+1) (xs++[r.name]) (by omega) (by rw[←hx];simp)
theorem KE(m:Mod)(hlen:(Dp m).length<=100)(hrl:m.rules.length<=100)(hnm:Cu m=true):Aa PP 51 [Ad m] σ0 (db true) σ0:=by
 have hl2:=hlen
 simp only[Dp,Bz,IK,List.flatten_nil,HC,Hw,H7] at hl2
 refine sv Dq 65 [1] (.a 1<|.w<|.w<|.w<|.ls [ke 1,ch 3 (Hb (Bz m)),ch 4 (di (0:Nat))] (To (Bz m))) (Ax (length (map V.str m.states)) 16/\(∀(y:V),y∈map V.str m.states->V.size y=1)/\Q (map V.str m.states)/\Ax (length (map V.str m.states)+length (map V.str m.places)) 16/\(∀(y:V),y∈map V.str m.places->V.size y=1)/\Q (map V.str m.states++map V.str m.places)/\Ax (length (map V.str m.states++map V.str m.places)+length (map V.str m.letters)) 16/\(∀(y:V),y∈map V.str m.letters->V.size y=1)/\D.acc 1 (map V.str m.states++map V.str m.places++map V.str m.letters)=Hb (Bz m)/\di 0=di (↑0:Int)/\[(1,1,map V.str m.states++map V.str m.places++map V.str m.letters)]=[(1,1,map V.str (Bz m))]/\I0 Dq σ0.H.length (db true) σ0 [kl AZ [1,1,0,1,0,0],KI.blk 0,kc AZ [1,1,1]] (mkE 65 [(1,D.v (V.ref (Az m))),(3,Hb (Bz m)),(4,di (↑0:Int))]) (To (Bz m))) ?_
 have hb:Bz m=m.states++m.places++m.letters:=by simp[Bz]
 refine⟨⟨?_,?_⟩,by simp[V.size],rfl,⟨?_,?_⟩,by simp[V.size],rfl,⟨?_,?_⟩,by simp[V.size],by simp[hb],rfl,by simp[hb],⟨?_⟩⟩
 all_goals try (simp only[Hw,HC];omega)
 exact MU m hlen hrl hnm _ 0 (Bz m) rfl rfl
theorem JQ(m:Mod)(hm:m.okN):Aa PP 51 [Ad m] σ0 (db true) σ0:=by
 have hsz:=hm.sz
 exact KE m (by simp only[Dp,Bz,IK,List.flatten_nil,HC,Hw,H7];omega) (by omega) hm.named
noncomputable abbrev Me:Func:= Tryz.f79
noncomputable def Kh:Code:=Me.body.getD .skip
theorem Pt(l:List Int)(hl:l.length<=1000000)(n a b:Int)(hn:l.length=n)(hx:∀x∈l,An x a b=true)(N:Nat):∀k:Nat,l.length-k=N->
  Rn PP Me 0 (db true) σ0 ([.lp (sub Kh [1,0,1,0,0]),.blk 0,.code (sub Kh [1,1])]++[]) (mkE 28 [(0,dIs l),(1,di n),(2,di a),(3,di b),(9,di k)]) σ0:=by
 induction N using Nat.strongRecOn with
 |_ N ih=>
 intro k hk
 refine lv 28 [] (.b (.e fun x:Int=>.x (vi x)<|.c (db true)<|.l [ke 0,ke 1,ke 2,ke 3,ch 9 (di (k+1:Nat))]) .r) ((decide ((k:Int)<(length (map vi l):Int))=true->∃a_2,0<=(k:Int)/\(map vi l)[Int.toNat (k:Int)]?=some (vi a_2)/\Aa PP 48 [di a_2,di a,di b] (St.mk [] []) (db true) (St.mk [] [])/\di (wrap IntKind.i64 ((k:Int)+1))=di (↑(k+1):Int)/\Nv.It (A9 (CN 0) PP (fun env σ1=>A2 PP Me env σ1 (db true) σ0) [kl Kh [1,0,1,0,0],KI.blk 0,kc Kh [1,1]] (mkE 28 [(0,dIs l),(1,di n),(2,di a),(3,di b),(9,di (↑(k+1):Int))]) σ0))/\(decide ((k:Int)<(length (map vi l):Int))=false->db ((length (map vi l):Int)==n)=db true)) ?_
 refine⟨fun h=>?_,fun h=>?_⟩
 ·have hk1:k<l.length:=by simpa using h
  have hy:l[k]?=some l[k]:=Hx hk1
  generalize l[k]=x at hy
  exact⟨x,by omega,AW hy,hx x (H4 hy)▸A6 x a b,Ae (by omega),⟨ih (l.length- (k+1)) (by omega) (k+1) rfl⟩⟩
 ·rw[Hw,hn,beq_self_eq_true]
theorem C5(l:List Int)(hl:l.length<=1000000)(n a b:Int)(hn:l.length=n)(hx:∀x∈l,An x a b=true):Aa PP 79 [dIs l,di n,di a,di b] σ0 (db true) σ0:=by
 refine sv Me 28 [] (.l [ke 0,ke 1,ke 2,ke 3,ch 9 (di (0:Nat))]) (di 0=di (↑0:Int)/\I0 Me σ0.H.length (db true) σ0 [kl Kh [1,0,1,0,0],KI.blk 0,kc Kh [1,1]] (mkE 28 [(0,dIs l),(1,di n),(2,di a),(3,di b),(9,di (↑0:Int))]) σ0) ?_
 exact⟨rfl,⟨Pt l hl n a b hn hx _ 0 rfl⟩⟩
noncomputable abbrev Nk:Func:= Tryz.f52
theorem Cg{α β:Type}(f:α->β)(l:List α)(h:l.length<=1000000):IntKind.i64.wrap (((l.map f).length:Int)-1)=(l.length:Int)-1:=by
 rw[Hw,Ai (by omega) (by omega)]
theorem gt0{α β:Type}(f:α->β){l:List α}(h:l=[]):decide (((l.map f).length:Int)>0)=false:=by subst h;rfl
theorem QY(m:Mod)(hm:m.okS)(r:Rul)(hr:r∈m.rules):Aa PP 52 [Ad m,BN r] σ0 (db true) σ0:=by
 have h1:∀a b x,An x a b=true->Aa PP 48 [di x,di a,di b] σ0 (db true) σ0:=fun a b x h=>h▸A6 x a b
 have hs:=hm.short
 have hsz:=hm.n.sz
 have hrs:=hm.rshort r hr
 have hR:=hm.right r hr
 have hk:=hm.n.kind
 clear hm hr
 obtain⟨kind,states,places,letters,ranks,levels,age,rules,start⟩:=m
 have hst:=hs.states
 have hpl:=hs.places
 have hlt:=hs.letters
 clear hs
 dsimp only at*
 rcases hk with hk|hk|hk<;>subst hk
 ·simp only[Dl,I6,CR,AY,Cw,B0,LM,Hy,HX,H8,Ii] at hR
  obtain⟨a1,a2,⟨a3,a4,a5,a6⟩,a7, -, -, -, -, -, -,b1,b2,b3,b4,b5,b6,b7,b8⟩:=hR
  refine sv Nk 234 [2,3] (.c (db true)<|.c (db true)<|.c (db true)<|.c (db true)<|.k<|.b (.c (db true)<|.k<|.k<|.f<|.f<|.f<|.k<|.f<|.f<|.k<|.f<|.f .r) (.k<|.k<|.f<|.f<|.f<|.k<|.f<|.f<|.k<|.f<|.f .r)) (F0 48 [di r.frm,di 0,di (wrap IntKind.i64 ((length (map V.str (Mod.mk 1 states places letters ranks levels age rules start).states):Int)-1))] (db true)/\F0 48 [di r.to,di 0,di (wrap IntKind.i64 ((length (map V.str (Mod.mk 1 states places letters ranks levels age rules start).states):Int)-1))] (db true)/\F0 79 [dIs r.need,di (length (map V.str (Mod.mk 1 states places letters ranks levels age rules start).places):Int),di 0,di 16] (db true)/\F0 79 [dIs r.give,di (length (map V.str (Mod.mk 1 states places letters ranks levels age rules start).places):Int),di 0,di 16] (db true)/\(decide ((length (map vi r.move):Int)>0)=true->F0 79 [dIs r.move,di (length (map V.str (Mod.mk 1 states places letters ranks levels age rules start).places):Int),di (-1),di (wrap IntKind.i64 ((length (map V.str (Mod.mk 1 states places letters ranks levels age rules start).places):Int)-1))] (db true)/\(r.chan !=0)=false/\(r.act !=0)=false/\(r.letter !=0)=false/\decide ((length (map vi r.path):Int)>0)=false/\decide ((length (map vi r.next):Int)>0)=false/\decide ((length (map vTk r.takes):Int)>0)=false/\decide ((length (map vi r.makes):Int)>0)=false/\db (r.second==0)=db true)/\(decide ((length (map vi r.move):Int)>0)=false->(r.chan !=0)=false/\(r.act !=0)=false/\(r.letter !=0)=false/\decide ((length (map vi r.path):Int)>0)=false/\decide ((length (map vi r.next):Int)>0)=false/\decide ((length (map vTk r.takes):Int)>0)=false/\decide ((length (map vi r.makes):Int)>0)=false/\db (r.second==0)=db true)) ?_
  rw[Cg _ _ hst,Cg _ _ hpl]
  have hmv:(r.move.map vi).length>0->Aa PP 79 [dIs r.move,di ((places.map V.str).length:Int),di (-1),di ((places.length:Int)-1)] σ0 (db true) σ0:=fun h=>by
   rw[Hw] at h
   simp only[Bool.or_eq_true,HX,Hy,Ii] at a7
   rcases a7 with a7|⟨a7,a8⟩
   ·omega
   ·rw[Hw];exact C5 _ hrs.move _ _ _ a7 a8
  refine⟨h1 _ _ _ a2,h1 _ _ _ a1,?_,?_,fun h=>⟨hmv (by simpa using h),?_⟩,fun h=>?_⟩
  ·rw[Hw];exact C5 _ hrs.need _ _ _ a3 a5
  ·rw[Hw];exact C5 _ hrs.give _ _ _ a4 a6
  ·refine⟨by rw[b1];rfl,by rw[b2];rfl,by rw[b3];rfl,gt0 _ (H9 b4),gt0 _ (H9 b5),gt0 _ b6,gt0 _ (H9 b7),by rw[b8];rfl⟩
  ·refine⟨by rw[b1];rfl,by rw[b2];rfl,by rw[b3];rfl,gt0 _ (H9 b4),gt0 _ (H9 b5),gt0 _ b6,gt0 _ (H9 b7),by rw[b8];rfl⟩
 ·rw[Dl,HF (fun h=>absurd h (by show ¬(_:Int)=1;simp only;decide))] at hR
  simp only[Dm,B0,Fk,Hy,HX,H8] at hR
  simp only[CL] at hR
  obtain⟨a1,a2,a3, -, -, -,c1,c2,c3, -, -, -,b4,b5,b6,b7,b8⟩:=hR
  have hl:=hsz.2.2.2.2.2.2.2 (by decide)
  have hA:An r.act 0 2=true/\An r.chan 0 ((places.length:Int)-1)=true/\An r.letter 0 ((letters.length:Int)-1)=true/\(r.act=0->r.chan=0/\r.letter=0):=by
   split at a3
   ·rename_i h0
    have h0:r.act=0:=by simpa using h0
    simp only[Hy,HX] at a3
    rw[h0,a3.1,a3.2]
    refine⟨by decide,?_,?_,fun _=>⟨rfl,rfl⟩⟩<;>simp only[An,Hy,H8]<;>omega
   ·rename_i h0
    have h0:r.act≠0:=by simpa using h0
    simp only[Hy] at a3
    have:=BC a3.1
    refine⟨?_,a3.2.1,a3.2.2,fun h=>absurd h h0⟩
    simp only[An,Hy,H8];omega
  obtain⟨d1,d2,d3,d4⟩:=hA
  refine sv Nk 234 [2,3] (.c (db true)<|.c (db true)<|.k<|.k<|.k<|.k<|.f<|.f<|.f<|.k<|.c (db true)<|.c (db true)<|.c (db true)<|.k<|.b (.f<|.f<|.k<|.f<|.f<|.k<|.f<|.f .r) (.k<|.k<|.f<|.f<|.k<|.f<|.f .r)) (F0 48 [di r.frm,di 0,di (wrap IntKind.i64 ((length (map V.str (Mod.mk 2 states places letters ranks levels age rules start).states):Int)-1))] (db true)/\F0 48 [di r.to,di 0,di (wrap IntKind.i64 ((length (map V.str (Mod.mk 2 states places letters ranks levels age rules start).states):Int)-1))] (db true)/\decide ((length (map vi r.need):Int)>0)=false/\decide ((length (map vi r.give):Int)>0)=false/\decide ((length (map vi r.move):Int)>0)=false/\F0 48 [di r.act,di 0,di 2] (db true)/\F0 48 [di r.chan,di 0,di (wrap IntKind.i64 ((length (map V.str (Mod.mk 2 states places letters ranks levels age rules start).places):Int)-1))] (db true)/\F0 48 [di r.letter,di 0,di (wrap IntKind.i64 ((length (map V.str (Mod.mk 2 states places letters ranks levels age rules start).letters):Int)-1))] (db true)/\((r.act==0)=true->(r.chan !=0)=false/\(r.letter !=0)=false/\decide ((length (map vi r.path):Int)>0)=false/\decide ((length (map vi r.next):Int)>0)=false/\decide ((length (map vTk r.takes):Int)>0)=false/\decide ((length (map vi r.makes):Int)>0)=false/\db (r.second==0)=db true)/\((r.act==0)=false->decide ((length (map vi r.path):Int)>0)=false/\decide ((length (map vi r.next):Int)>0)=false/\decide ((length (map vTk r.takes):Int)>0)=false/\decide ((length (map vi r.makes):Int)>0)=false/\db (r.second==0)=db true)) ?_
  rw[Cg _ _ hst,Cg _ _ hpl,Cg _ _ hlt]
  refine⟨h1 _ _ _ a2,h1 _ _ _ a1,gt0 _ (H9 c1),gt0 _ (H9 c2),gt0 _ (H9 c3),h1 _ _ _ d1,h1 _ _ _ d2,h1 _ _ _ d3,fun h=>?_,fun h=>?_⟩
  ·have:=d4 (by simpa using h)
   exact⟨by rw[this.1];rfl,by rw[this.2];rfl,gt0 _ (H9 b4),gt0 _ (H9 b5),gt0 _ b6,gt0 _ (H9 b7),by rw[b8];rfl⟩
  ·exact⟨gt0 _ (H9 b4),gt0 _ (H9 b5),gt0 _ b6,gt0 _ (H9 b7),by rw[b8];rfl⟩
 ·rw[Dl,HF (fun h=>absurd h (by show ¬(_:Int)=1;simp only;decide))] at hR
  simp only[Dm,B0,Fk,Hy,HX,H8] at hR
  simp only[CL] at hR
  obtain⟨a1,a2,a3, -, -, -,c1,c2,c3, -, -, -,b4,b5,b6,b7,b8⟩:=hR
  have hl:=hsz.2.2.2.2.2.2.2 (by decide)
  have hA:An r.act 0 2=true/\An r.chan 0 ((places.length:Int)-1)=true/\An r.letter 0 ((letters.length:Int)-1)=true/\(r.act=0->r.chan=0/\r.letter=0):=by
   split at a3
   ·rename_i h0
    have h0:r.act=0:=by simpa using h0
    simp only[Hy,HX] at a3
    rw[h0,a3.1,a3.2]
    refine⟨by decide,?_,?_,fun _=>⟨rfl,rfl⟩⟩<;>simp only[An,Hy,H8]<;>omega
   ·rename_i h0
    have h0:r.act≠0:=by simpa using h0
    simp only[Hy] at a3
    have:=BC a3.1
    refine⟨?_,a3.2.1,a3.2.2,fun h=>absurd h h0⟩
    simp only[An,Hy,H8];omega
  obtain⟨d1,d2,d3,d4⟩:=hA
  refine sv Nk 234 [2,3] (.c (db true)<|.c (db true)<|.k<|.k<|.k<|.k<|.f<|.f<|.f<|.k<|.c (db true)<|.c (db true)<|.c (db true)<|.k<|.b (.f<|.f<|.k<|.f<|.f<|.k<|.f<|.f .r) (.k<|.k<|.f<|.f<|.k<|.f<|.f .r)) (F0 48 [di r.frm,di 0,di (wrap IntKind.i64 ((length (map V.str (Mod.mk 3 states places letters ranks levels age rules start).states):Int)-1))] (db true)/\F0 48 [di r.to,di 0,di (wrap IntKind.i64 ((length (map V.str (Mod.mk 3 states places letters ranks levels age rules start).states):Int)-1))] (db true)/\decide ((length (map vi r.need):Int)>0)=false/\decide ((length (map vi r.give):Int)>0)=false/\decide ((length (map vi r.move):Int)>0)=false/\F0 48 [di r.act,di 0,di 2] (db true)/\F0 48 [di r.chan,di 0,di (wrap IntKind.i64 ((length (map V.str (Mod.mk 3 states places letters ranks levels age rules start).places):Int)-1))] (db true)/\F0 48 [di r.letter,di 0,di (wrap IntKind.i64 ((length (map V.str (Mod.mk 3 states places letters ranks levels age rules start).letters):Int)-1))] (db true)/\((r.act==0)=true->(r.chan !=0)=false/\(r.letter !=0)=false/\decide ((length (map vi r.path):Int)>0)=false/\decide ((length (map vi r.next):Int)>0)=false/\decide ((length (map vTk r.takes):Int)>0)=false/\decide ((length (map vi r.makes):Int)>0)=false/\db (r.second==0)=db true)/\((r.act==0)=false->decide ((length (map vi r.path):Int)>0)=false/\decide ((length (map vi r.next):Int)>0)=false/\decide ((length (map vTk r.takes):Int)>0)=false/\decide ((length (map vi r.makes):Int)>0)=false/\db (r.second==0)=db true)) ?_
  rw[Cg _ _ hst,Cg _ _ hpl,Cg _ _ hlt]
  refine⟨h1 _ _ _ a2,h1 _ _ _ a1,gt0 _ (H9 c1),gt0 _ (H9 c2),gt0 _ (H9 c3),h1 _ _ _ d1,h1 _ _ _ d2,h1 _ _ _ d3,fun h=>?_,fun h=>?_⟩
  ·have:=d4 (by simpa using h)
   exact⟨by rw[this.1];rfl,by rw[this.2];rfl,gt0 _ (H9 b4),gt0 _ (H9 b5),gt0 _ b6,gt0 _ (H9 b7),by rw[b8];rfl⟩
  ·exact⟨gt0 _ (H9 b4),gt0 _ (H9 b5),gt0 _ b6,gt0 _ (H9 b7),by rw[b8];rfl⟩
noncomputable abbrev ZC:Func:= Tryz.f85
theorem P5(l:List Int)(hl:l.length<=1000000):Aa PP 85 [dIs l] σ0 (dIs l) σ0:=by
 refine sv ZC 5 [] (.a 1<|.w .r) (Ax (length (map vi l)) 8/\(∀(y:V),y∈map vi l->V.size y=1)/\D.v (V.list (map vi l))=dIs l) ?_
 exact⟨⟨by simp;omega,by simp;omega⟩,NB l,rfl⟩
noncomputable abbrev Zx:Func:= Tryz.f89
theorem JM(a b:Int):Aa PP 89 [di a,di b] σ0 (di (B2 a b)) σ0:=by
 refine sv Zx 11 [] (.b .r<|.b .r .r) ((decide (a<b)=true->di (-1)=di (B2 a b))/\(decide (a<b)=false->(decide (a>b)=true->di 1=di (B2 a b))/\(decide (a>b)=false->di 0=di (B2 a b)))) ?_
 refine⟨fun h=>?_,fun h=>⟨fun h1=>?_,fun h1=>?_⟩⟩<;>simp_all [B2]<;>omega
noncomputable abbrev Ma:Func:= Tryz.f43
noncomputable def Kc:Code:=Ma.body.getD .skip
theorem FV(N:Nat):∀v:Val,v.size<=N->∀m:Int,0<=m->m<=1000->Aa PP 43 [dV v,di m] σ0 (di (min (v.size:Int) (m+1))) σ0:=by
 induction N with
 |zero=>intro v hv;have:=v.size_pos;omega
 |succ N ihN=>
  intro v hv m hm0 hm1
  have hsz:=v.size_eq
  have loop (n:Nat):∀(k:Nat) (a:Int),v.kids.length-k=n->k+1<=a->a<=m+1->
    Rn PP Ma 0 (di (min (a+(Val.sizes (v.kids.drop k):Int)) (m+1))) σ0 ([.lp (sub Kc [1,1,0,1,0,0]),.blk 0,.code (sub Kc [1,1,1])]++[]) (mkE 31 [(1,di m),(2,.v (.ref (Ag v))),(5,di a),(6,di k)]) σ0:=by
   induction n using Nat.strongRecOn with
   |_ n ih=>
   intro k a hn ha0 ha1
   refine lv 31 [2] (.b (.b (.e fun x:Val=>.x (Ag x)<|.c (di (min (x.size:Int) (m-a+1)))<|.l [ke 1,ke 2,ch 5 (di (min (a+(x.size:Int)) (m+1))),ch 6 (di (k+1:Nat))]) .r) .r) ((decide ((k:Int)<(length (map eV v.kids):Int))=true->(decide (a<=m)=true->∃a_3,0<=(k:Int)/\(map eV v.kids)[Int.toNat (k:Int)]?=some (Ag a_3)/\Aa PP 43 [dV a_3,di (wrap IntKind.i64 (m-a))] (St.mk [] []) (di (min (↑(Val.size a_3):Int) (m-a+1))) (St.mk [] [])/\di (wrap IntKind.i64 (a+min (↑(Val.size a_3):Int) (m-a+1)))=di (min (a+(↑(Val.size a_3):Int)) (m+1))/\di (wrap IntKind.i64 ((k:Int)+1))=di (↑(k+1):Int)/\Nv.It (A9 (CN 0) PP (fun env σ1=>A2 PP Ma env σ1 (di (min (a+(↑(Val.sizes (List.drop k v.kids)):Int)) (m+1))) σ0) [kl Kc [1,1,0,1,0,0],KI.blk 0,kc Kc [1,1,1]] (mkE 31 [(1,di m),(2,D.v (V.ref (Ag v))),(5,di (min (a+(↑(Val.size a_3):Int)) (m+1))),(6,di (↑(k+1):Int))]) σ0))/\(decide (a<=m)=false->di a=di (min (a+(↑(Val.sizes (List.drop k v.kids)):Int)) (m+1))))/\(decide ((k:Int)<(length (map eV v.kids):Int))=false->di a=di (min (a+(↑(Val.sizes (List.drop k v.kids)):Int)) (m+1)))) ?_
   refine⟨fun h=>⟨fun h1=>?_,fun h1=>?_⟩,fun h=>?_⟩
   ·have hk:k<v.kids.length:=by simpa using h
    have hx:v.kids[k]?=some v.kids[k]:=Hx hk
    rw[HD hk]
    generalize v.kids[k]=x at hx⊢
    have hxs:=Val.size_mem (H4 hx)
    have hx1:=x.size_pos
    simp only[Val.sizes]
    have h1:=H9 h1
    refine⟨x,by omega,AB hx,?_,?_,Ae (by omega),⟨?_⟩⟩
    ·rw[Ai (by omega) (by omega)]
     exact ihN x (by omega) (m-a) (by omega) (by omega)
    ·rw[Ai (by rw[Iw];split<;>omega) (by rw[Iw];split<;>omega)]
     simp only[Iw];congr 1;split<;>split<;>omega
    ·have:=ih (v.kids.length- (k+1)) (by omega) (k+1) (min (a+(x.size:Int)) (m+1)) rfl (by rw[Iw];split<;>omega) (by rw[Iw];split<;>omega)
     rw[show min (min (a+(x.size:Int)) (m+1)+(Val.sizes (v.kids.drop (k+1)):Int)) (m+1)=min (a+((x.size+Val.sizes (v.kids.drop (k+1)):Nat):Int)) (m+1) by simp only[Iw];(repeat' split)<;>omega] at this
     exact this
   ·have h1:=Ig h1
    rw[Iw];split<;>congr 1<;>omega
   ·have hk:v.kids.length<=k:=by simpa using h
    rw[HI hk]
    simp only[Val.sizes];rw[Iw];split<;>congr 1<;>omega
  refine sv Ma 31 [2] (.l [ke 1,ke 2,ch 5 (di 1),ch 6 (di (0:Nat))]) (Q (di 1)/\di 0=di (↑0:Int)/\I0 Ma σ0.H.length (di (min (↑(Val.size v):Int) (m+1))) σ0 [kl Kc [1,1,0,1,0,0],KI.blk 0,kc Kc [1,1,1]] (mkE 31 [(1,di m),(2,D.v (V.ref (Ag v))),(5,di 1),(6,di (↑0:Int))]) σ0) ?_
  refine⟨rfl,rfl,⟨?_⟩⟩
  have:=loop _ 0 1 rfl (by omega) (by omega)
  rw[IP,show(1:Int)+(Val.sizes v.kids:Int)=v.size by omega] at this
  exact this
theorem GS{a b:Int}:B2 a b=0↔a=b:=by unfold B2;(repeat' split)<;>omega
theorem V4(a b:Val):Aq a b=if B2 a.n b.n=0 then(if B2 a.kids.length b.kids.length=0 then BD Aq a.kids b.kids else B2 a.kids.length b.kids.length) else B2 a.n b.n:=by
 cases a;cases b;simp only[Aq,KT];rfl
noncomputable abbrev Mh:Func:= Tryz.f56
noncomputable def Kl:Code:=Mh.body.getD .skip
theorem Mm(N:Nat):∀a b:Val,a.size<=N->a.fit->Aa PP 56 [dV a,dV b] σ0 (di (Aq a b)) σ0:=by
 induction N with
 |zero=>intro v _ hv;have:=v.size_pos;omega
 |succ N ihN=>
  intro a b ha ha1
  have hsz:=a.size_eq
  have hlen:=ha1.len
  have loop (hab:a.kids.length=b.kids.length) (n:Nat):∀k:Nat,a.kids.length-k=n->
    Rn PP Mh 0 (di (BD Aq (a.kids.drop k) (b.kids.drop k))) σ0 ([.lp (sub Kl [1,1,1,0,1,0,0]),.blk 0,.code (sub Kl [1,1,1,1])]++[]) (mkE 52 [(2,.v (.ref (Ag a))),(3,.v (.ref (Ag b))),(5,di k)]) σ0:=by
   induction n using Nat.strongRecOn with
   |_ n ih=>
   intro k hn
   refine lv 52 [2,3] (.b (.e fun x:Val=>.x (Ag x)<|.e fun y:Val=>.x (Ag y)<|.c (di (Aq x y))<|.b .r (.l [ke 2,ke 3,ch 5 (di (k+1:Nat))])) .r) ((decide ((k:Int)<(length (map eV a.kids):Int))=true->∃a_2,0<=(k:Int)/\(map eV a.kids)[Int.toNat (k:Int)]?=some (Ag a_2)/\∃a_3,0<=(k:Int)/\(map eV b.kids)[Int.toNat (k:Int)]?=some (Ag a_3)/\Aa PP 56 [dV a_2,dV a_3] (St.mk [] []) (di (Aq a_2 a_3)) (St.mk [] [])/\((Aq a_2 a_3 !=0)=true->di (Aq a_2 a_3)=di (BD Aq (List.drop k a.kids) (List.drop k b.kids)))/\((Aq a_2 a_3 !=0)=false->di (wrap IntKind.i64 ((k:Int)+1))=di (↑(k+1):Int)/\Nv.It (A9 (CN 0) PP (fun env σ1=>A2 PP Mh env σ1 (di (BD Aq (List.drop k a.kids) (List.drop k b.kids))) σ0) [kl Kl [1,1,1,0,1,0,0],KI.blk 0,kc Kl [1,1,1,1]] (mkE 52 [(2,D.v (V.ref (Ag a))),(3,D.v (V.ref (Ag b))),(5,di (↑(k+1):Int))]) (St.mk [] []))))/\(decide ((k:Int)<(length (map eV a.kids):Int))=false->di 0=di (BD Aq (List.drop k a.kids) (List.drop k b.kids)))) ?_
   refine⟨fun h=>?_,fun h=>?_⟩
   ·have hk:k<a.kids.length:=by simpa using h
    have hk2:k<b.kids.length:=by omega
    have hx:a.kids[k]?=some a.kids[k]:=Hx hk
    have hy:b.kids[k]?=some b.kids[k]:=Hx hk2
    rw[HD hk,HD hk2]
    generalize a.kids[k]=x at hx⊢
    generalize b.kids[k]=y at hy⊢
    have hxs:=Val.size_mem (H4 hx)
    refine⟨x,by omega,AB hx,y,by omega,AB hy,ihN x y (by omega) (ha1.mem (H4 hx)),fun h1=>?_,fun h1=>⟨Ae (by omega),⟨?_⟩⟩⟩
    ·have h1:Aq x y≠0:=by simpa using h1
     simp only[BD,HF h1]
    ·have h1:Aq x y=0:=by simpa using h1
     simp only[BD,HJ h1]
     exact ih (a.kids.length- (k+1)) (by omega) (k+1) rfl
   ·have hk:a.kids.length<=k:=by simpa using h
    rw[HI hk,HI (by omega)];rfl
  refine sv Mh 52 [2,3] (.b (.c (di (B2 a.n b.n)) .r) (.b (.c (di (B2 a.kids.length b.kids.length)) .r) (.l [ke 2,ke 3,ch 5 (di (0:Nat))]))) (((a.n !=Val.n b)=true->F0 89 [di a.n,di b.n] (di (B2 a.n b.n))/\di (B2 a.n b.n)=di (Aq a b))/\((a.n !=Val.n b)=false->(((length (map eV a.kids):Int) !=(length (map eV b.kids):Int))=true->F0 89 [di (length (map eV a.kids):Int),di (length (map eV b.kids):Int)] (di (B2 (a.kids.length:Int) (b.kids.length:Int)))/\di (B2 (a.kids.length:Int) (b.kids.length:Int))=di (Aq a b))/\(((length (map eV a.kids):Int) !=(length (map eV b.kids):Int))=false->di 0=di (↑0:Int)/\I0 Mh σ0.H.length (di (Aq a b)) σ0 [kl Kl [1,1,1,0,1,0,0],KI.blk 0,kc Kl [1,1,1,1]] (mkE 52 [(2,D.v (V.ref (Ag a))),(3,D.v (V.ref (Ag b))),(5,di (↑0:Int))]) σ0))) ?_
  rw[V4]
  refine⟨fun h=>⟨JM _ _,?_⟩,fun h=>⟨fun h1=>⟨?_,?_⟩,fun h1=>⟨rfl,⟨?_⟩⟩⟩⟩
  ·rw[HF (fun e=>(bne_iff_ne.1 h) (GS.1 e))]
  ·rw[Hw,Hw];exact JM _ _
  ·have h:a.n=b.n:=by simpa using h
   have h1:(a.kids.length:Int)≠b.kids.length:=by simpa using h1
   rw[HJ (GS.2 h),HF (fun e=>h1 (GS.1 e))]
  ·have h:a.n=b.n:=by simpa using h
   have h1:(a.kids.length:Int)=b.kids.length:=by simpa using h1
   rw[HJ (GS.2 h),HJ (GS.2 h1)]
   exact loop (Int.ofNat_inj.1 h1) _ 0 rfl
theorem EG(N:Nat)(a b:Val)(_:a.size<=N)(h:a.size<=1000000):Aa PP 56 [dV a,dV b] σ0 (di (Aq a b)) σ0:=Mm _ a b (H5 _) (Val.fit_of a h)
noncomputable abbrev Zt:Func:= Tryz.f33
theorem Lw(a b:Val)(ha:a.fit):Aa PP 33 [dV a,dV b] σ0 (db (Aq a b==0)) σ0:=by
 refine sv Zt 9 [2,3] (.c (di (Aq a b)) .r) (F0 56 [dV a,dV b] (di (Aq a b))/\Q (db (Aq a b==0))) ?_
 exact⟨Mm _ a b (H5 _) ha,rfl⟩
theorem JD(a b:Val)(ha:a.size<=1000000):Aa PP 33 [dV a,dV b] σ0 (db (Aq a b==0)) σ0:=Lw a b (Val.fit_of a ha)
noncomputable abbrev Mb:Func:= Tryz.f149
noncomputable def Kf:Code:=Mb.body.getD .skip
theorem OK(r:List Int)(hr:CH r=true)(n:Nat):∀k:Nat,r.length-k=n->
  Rn PP Mb 0 (db true) σ0 ([.lp (sub Kf [1,0,1,0,0]),.blk 0,.code (sub Kf [1,1])]++[]) (mkE 30 [(0,dIs r),(3,di k)]) σ0:=by
 induction n using Nat.strongRecOn with
 |_ n ih=>
 intro k hn
 refine lv 30 [] (.b (.e fun x:Int=>.x (vi x)<|.f<|.x (vi x)<|.f<|.l [ke 0,ch 3 (di (k+1:Nat))]) (.t .r)) ((decide ((k:Int)<(length (map vi r):Int))=true->∃a,0<=(k:Int)/\(map vi r)[Int.toNat (k:Int)]?=some (vi a)/\decide (a<0)=false/\0<=(k:Int)/\(map vi r)[Int.toNat (k:Int)]?=some (vi a)/\decide (a>=6)=false/\di (wrap IntKind.i64 ((k:Int)+1))=di (↑(k+1):Int)/\Nv.It (A9 (CN 0) PP (fun env σ1=>A2 PP Mb env σ1 (db true) σ0) [kl Kf [1,0,1,0,0],KI.blk 0,kc Kf [1,1]] (mkE 30 [(0,dIs r),(3,di (↑(k+1):Int))]) σ0))/\(decide ((k:Int)<(length (map vi r):Int))=false->decide ((length (map vi r):Int)>=1)=true/\db (decide ((length (map vi r):Int)<=6))=db true)) ?_
 simp only[CH,Hy,Io,List.any_eq_false] at hr
 obtain⟨h1,h2,h3⟩:=hr
 have hlen:=H9 h2
 refine⟨fun h=>?_,fun h=>⟨by rw[Hw];exact h1,by rw[Hw];exact HL db h2⟩⟩
 have hk:k<r.length:=by simpa using h
 have hx:r[k]?=some r[k]:=Hx hk
 generalize r[k]=x at hx
 have h4:=h3 x (H4 hx)
 simp only[Rc,Bool.not_eq_true,Bool.or_eq_false_iff] at h4
 exact⟨x,by omega,AW hx,h4.1,by omega,AW hx,h4.2,Ae (by omega),⟨ih (r.length- (k+1)) (by omega) (k+1) rfl⟩⟩
theorem OJ(r:List Int)(hr:CH r=true):Aa PP 149 [dIs r] σ0 (db true) σ0:=by
 refine sv Mb 30 [] (.l [ke 0,ch 3 (di (0:Nat))]) (di 0=di (↑0:Int)/\I0 Mb σ0.H.length (db true) σ0 [kl Kf [1,0,1,0,0],KI.blk 0,kc Kf [1,1]] (mkE 30 [(0,dIs r),(3,di (↑0:Int))]) σ0) ?_
 exact⟨rfl,⟨OK r hr _ 0 rfl⟩⟩
noncomputable abbrev Tq:Func:= Tryz.f54
noncomputable def GV:Code:=Tq.body.getD .skip
abbrev R9(l:List Typ)(n:Nat):St:=⟨[some [di 0,di 0,.v .nils,.v .nils],some [di 3,di 0,.v (.list []),.acc 1 (l.map eT)],some [di 2,di n,.v (.list []),.v (.list [])]],[(1,4,l.map eT)]⟩
theorem OB(m:Mod)(hm:m.okN)(hk:m.kind=1)(n:Nat):∀(k:Nat) (xs:List Typ),m.places.length-k=n->k<=m.places.length->xs.length<=k+1->
  Rn PP Tq 0 (dT (.prod (xs++replicate n (.nat)))) σ0 ([.lp (sub GV [1,1,1,0,1,0,1,1,1,1,1,0,0]),.blk 1,.blk 0,.code (sub GV [1,1,1,1])]++[]) (mkE 96 [(1,.v (.ref (Az m))),(2,.ptr 0 0),(3,.ptr 1 0),(4,.ptr 2 0),(8,di k)]) (R9 xs m.letters.length):=by
 have hsz:=hm.sz
 induction n with
 |zero=>
  intro k xs hn hk0 hxs
  refine lv 96 [1] (.f .r) (decide ((k:Int)<(length (map V.str m.places):Int))=false/\D.v (V.agg [vi 3,vi 0,V.list [],V.list (map eT xs)])=dT (Typ.prod (xs++replicate 0 Typ.nat))) ?_
  refine⟨by rw[Hw];exact H1 (by omega),?_⟩
  rw[List.replicate_zero,Il];rfl
 |succ n ih=>
  intro k xs hn hk0 hxs
  refine lv 96 [1] (.t<|.f<|.f<|.ls [ke 1,ke 2,ke 3,ke 4,ch 8 (di (k+1:Nat))] (R9 (xs++[.nat]) m.letters.length)) (decide ((k:Int)<(length (map V.str m.places):Int))=true/\(m.kind==2)=false/\(m.kind==3)=false/\Q (map eT xs)/\Ax (length (map eT xs)+length (V.agg (V.int IntKind.i64 1::V.int IntKind.i64 0::V.list nV::V.list nV::nV)::nV)) 64/\di (wrap IntKind.i64 ((k:Int)+1))=di (↑(k+1):Int)/\[some [di 0,di 0,dn,dn],some [di 3,di 0,D.v (V.list nV),D.acc 1 (map eT xs++V.agg (vi 1::vi 0::V.list nV::V.list nV::nV)::nV)],some [di 2,di (m.letters.length:Int),D.v (V.list nV),D.v (V.list nV)]]=[some [di 0,di 0,dn,dn],some [di 3,di 0,D.v (V.list nV),D.acc 1 (map eT (xs++[Typ.nat]))],some [di 2,di (m.letters.length:Int),D.v (V.list nV),D.v (V.list nV)]]/\[(1,4,map eT xs++V.agg (vi 1::vi 0::V.list nV::V.list nV::nV)::nV)]=[(1,4,map eT (xs++[Typ.nat]))]/\I0 Tq 0 (dT (Typ.prod (xs++replicate (n+1) Typ.nat))) σ0 [kl GV [1,1,1,0,1,0,1,1,1,1,1,0,0],KI.blk 1,KI.blk 0,kc GV [1,1,1,1]] (mkE 96 [(1,D.v (V.ref (Az m))),(2,D.ptr 0 0),(3,D.ptr 1 0),(4,D.ptr 2 0),(8,di (↑(k+1):Int))]) (R9 (xs++[Typ.nat]) m.letters.length)) ?_
  have h:=ih (k+1) (xs++[.nat]) (by omega) (by omega) (by simp only[HC,H3,H7];omega)
  rw[I4] at h
  refine⟨by rw[Hw];exact Hz (by omega),by rw[hk];rfl,by rw[hk];rfl,rfl,⟨?_,?_⟩,Ae (by omega),?_,?_,⟨h⟩⟩
  ·simp only[Hw,H3,H7];omega
  ·simp only[Hw,H3,H7];omega
  ·rw[←BK];rfl
  ·rw[←BK];rfl
theorem OA(m:Mod)(hm:m.okN)(hk:m.kind=2)(n:Nat):∀(k:Nat) (xs:List Typ),m.places.length-k=n->k<=m.places.length->xs.length<=k+1->
  Rn PP Tq 0 (dT (.prod (xs++replicate n (.word (.lab m.letters.length))))) σ0 ([.lp (sub GV [1,1,1,0,1,0,1,1,1,1,1,0,0]),.blk 1,.blk 0,.code (sub GV [1,1,1,1])]++[]) (mkE 96 [(1,.v (.ref (Az m))),(2,.ptr 0 0),(3,.ptr 1 0),(4,.ptr 2 0),(8,di k)]) (R9 xs m.letters.length):=by
 have hsz:=hm.sz
 induction n with
 |zero=>
  intro k xs hn hk0 hxs
  refine lv 96 [1] (.f .r) (decide ((k:Int)<(length (map V.str m.places):Int))=false/\D.v (V.agg [vi 3,vi 0,V.list [],V.list (map eT xs)])=dT (Typ.prod (xs++replicate 0 (Typ.word (Typ.lab (m.letters.length:Int)))))) ?_
  refine⟨by rw[Hw];exact H1 (by omega),?_⟩
  rw[List.replicate_zero,Il];rfl
 |succ n ih=>
  intro k xs hn hk0 hxs
  refine lv 96 [1] (.t<|.t<|.f<|.ls [ke 1,ke 2,ke 3,ke 4,ch 8 (di (k+1:Nat))] (R9 (xs++[.word (.lab m.letters.length)]) m.letters.length)) (decide ((k:Int)<(length (map V.str m.places):Int))=true/\(m.kind==2)=true/\(m.kind==3)=false/\Q (map eT xs)/\Ax (length (map eT xs)+length (V.agg (V.int IntKind.i64 4::V.int IntKind.i64 0::V.list nV::V.list (V.agg (V.int IntKind.i64 2::V.int IntKind.i64 (m.letters.length:Int)::V.list nV::V.list nV::nV)::nV)::nV)::nV)) 64/\di (wrap IntKind.i64 ((k:Int)+1))=di (↑(k+1):Int)/\[some [di 0,di 0,dn,dn],some [di 3,di 0,D.v (V.list nV),D.acc 1 (map eT xs++V.agg (vi 4::vi 0::V.list nV::V.list (V.agg (vi 2::vi (m.letters.length:Int)::V.list nV::V.list nV::nV)::nV)::nV)::nV)],some [di 2,di (m.letters.length:Int),D.v (V.list nV),D.v (V.list nV)]]=[some [di 0,di 0,dn,dn],some [di 3,di 0,D.v (V.list nV),D.acc 1 (map eT (xs++[Typ.word (Typ.lab (m.letters.length:Int))]))],some [di 2,di (m.letters.length:Int),D.v (V.list nV),D.v (V.list nV)]]/\[(1,4,map eT xs++V.agg (vi 4::vi 0::V.list nV::V.list (V.agg (vi 2::vi (m.letters.length:Int)::V.list nV::V.list nV::nV)::nV)::nV)::nV)]=[(1,4,map eT (xs++[Typ.word (Typ.lab (m.letters.length:Int))]))]/\I0 Tq 0 (dT (Typ.prod (xs++replicate (n+1) (Typ.word (Typ.lab (m.letters.length:Int)))))) σ0 [kl GV [1,1,1,0,1,0,1,1,1,1,1,0,0],KI.blk 1,KI.blk 0,kc GV [1,1,1,1]] (mkE 96 [(1,D.v (V.ref (Az m))),(2,D.ptr 0 0),(3,D.ptr 1 0),(4,D.ptr 2 0),(8,di (↑(k+1):Int))]) (R9 (xs++[Typ.word (Typ.lab (m.letters.length:Int))]) m.letters.length)) ?_
  have h:=ih (k+1) (xs++[.word (.lab m.letters.length)]) (by omega) (by omega) (by simp only[HC,H3,H7];omega)
  rw[I4] at h
  refine⟨by rw[Hw];exact Hz (by omega),by rw[hk];rfl,by rw[hk];rfl,rfl,⟨?_,?_⟩,Ae (by omega),?_,?_,⟨h⟩⟩
  ·simp only[Hw,H3,H7];omega
  ·simp only[Hw,H3,H7];omega
  ·rw[←BK];rfl
  ·rw[←BK];rfl
theorem O9(m:Mod)(hm:m.okN)(hk:m.kind=3)(n:Nat):∀(k:Nat) (xs:List Typ),m.places.length-k=n->k<=m.places.length->xs.length<=k+1->
  Rn PP Tq 0 (dT (.prod (xs++replicate n (.prio m.letters.length m.ranks)))) σ0 ([.lp (sub GV [1,1,1,0,1,0,1,1,1,1,1,0,0]),.blk 1,.blk 0,.code (sub GV [1,1,1,1])]++[]) (mkE 96 [(1,.v (.ref (Az m))),(2,.ptr 0 0),(3,.ptr 1 0),(4,.ptr 2 0),(8,di k)]) (R9 xs m.letters.length):=by
 have hsz:=hm.sz
 induction n with
 |zero=>
  intro k xs hn hk0 hxs
  refine lv 96 [1] (.f .r) (decide ((k:Int)<(length (map V.str m.places):Int))=false/\D.v (V.agg [vi 3,vi 0,V.list [],V.list (map eT xs)])=dT (Typ.prod (xs++replicate 0 (Typ.prio (m.letters.length:Int) m.ranks)))) ?_
  refine⟨by rw[Hw];exact H1 (by omega),?_⟩
  rw[List.replicate_zero,Il];rfl
 |succ n ih=>
  intro k xs hn hk0 hxs
  refine lv 96 [1] (.t<|.f<|.t<|.c (dIs m.ranks)<|.ls [ke 1,ke 2,ke 3,ke 4,ch 8 (di (k+1:Nat))] (R9 (xs++[.prio m.letters.length m.ranks]) m.letters.length)) (decide ((k:Int)<(length (map V.str m.places):Int))=true/\(m.kind==2)=false/\(m.kind==3)=true/\F0 85 [dIs m.ranks] (dIs m.ranks)/\Q (map eT xs)/\Ax (length (map eT xs)+length (V.agg (V.int IntKind.i64 7::V.int IntKind.i64 (length (map V.str m.letters):Int)::vIs m.ranks::V.list nV::nV)::nV)) 64/\di (wrap IntKind.i64 ((k:Int)+1))=di (↑(k+1):Int)/\[some [di 0,di 0,dn,dn],some [di 3,di 0,D.v (V.list nV),D.acc 1 (map eT xs++V.agg (vi 7::vi (length (map V.str m.letters):Int)::vIs m.ranks::V.list nV::nV)::nV)],some [di 2,di (m.letters.length:Int),D.v (V.list nV),D.v (V.list nV)]]=[some [di 0,di 0,dn,dn],some [di 3,di 0,D.v (V.list nV),D.acc 1 (map eT (xs++[Typ.prio (m.letters.length:Int) m.ranks]))],some [di 2,di (m.letters.length:Int),D.v (V.list nV),D.v (V.list nV)]]/\[(1,4,map eT xs++V.agg (vi 7::vi (length (map V.str m.letters):Int)::vIs m.ranks::V.list nV::nV)::nV)]=[(1,4,map eT (xs++[Typ.prio (m.letters.length:Int) m.ranks]))]/\I0 Tq 0 (dT (Typ.prod (xs++replicate (n+1) (Typ.prio (m.letters.length:Int) m.ranks)))) σ0 [kl GV [1,1,1,0,1,0,1,1,1,1,1,0,0],KI.blk 1,KI.blk 0,kc GV [1,1,1,1]] (mkE 96 [(1,D.v (V.ref (Az m))),(2,D.ptr 0 0),(3,D.ptr 1 0),(4,D.ptr 2 0),(8,di (↑(k+1):Int))]) (R9 (xs++[Typ.prio (m.letters.length:Int) m.ranks]) m.letters.length)) ?_
  have h:=ih (k+1) (xs++[.prio m.letters.length m.ranks]) (by omega) (by omega) (by simp only[HC,H3,H7];omega)
  rw[I4] at h
  refine⟨by rw[Hw];exact Hz (by omega),by rw[hk];rfl,by rw[hk];rfl,P5 m.ranks (by omega),rfl,⟨?_,?_⟩,Ae (by omega),?_,?_,⟨h⟩⟩
  ·simp only[Hw,H3,H7];omega
  ·simp only[Hw,H3,H7];omega
  ·rw[←BK];rw[Hw];rfl
  ·rw[←BK];rw[Hw];rfl
theorem Ll(m:Mod)(hm:m.okN):Aa PP 54 [Ad m] σ0 (dT (AL m)) σ0:=by
 have hk:=hm.kind
 refine sv Tq 96 [1] (.a 1<|.h .g<|.f<|.f<|.ls [ke 1,ke 2,ke 3,ke 4,ch 8 (di (0:Nat))] (R9 [.lab m.states.length] m.letters.length)) ((m.kind==4)=false/\(m.kind==5)=false/\di 0=di (↑0:Int)/\[some [di 0,di 0,dn,dn],some [di 3,di 0,D.v (V.list nV),D.acc 1 (V.agg (vi 2::vi (length (map V.str m.states):Int)::V.list nV::V.list nV::nV)::nV)],some [di 2,di (length (map V.str m.letters):Int),D.v (V.list nV),D.v (V.list nV)]]=[some [di 0,di 0,dn,dn],some [di 3,di 0,D.v (V.list nV),D.acc 1 (eT (Typ.lab (m.states.length:Int))::nV)],some [di 2,di (m.letters.length:Int),D.v (V.list nV),D.v (V.list nV)]]/\[(1,4,V.agg (vi 2::vi (length (map V.str m.states):Int)::V.list nV::V.list nV::nV)::nV)]=[(1,4,eT (Typ.lab (m.states.length:Int))::nV)]/\I0 Tq σ0.H.length (dT (AL m)) σ0 [kl GV [1,1,1,0,1,0,1,1,1,1,1,0,0],KI.blk 1,KI.blk 0,kc GV [1,1,1,1]] (mkE 96 [(1,D.v (V.ref (Az m))),(2,D.ptr 0 0),(3,D.ptr 1 0),(4,D.ptr 2 0),(8,di (↑0:Int))]) (R9 [Typ.lab (m.states.length:Int)] m.letters.length)) ?_
 refine⟨by rcases hk with h|h|h<;>rw[h]<;>rfl,by rcases hk with h|h|h<;>rw[h]<;>rfl,rfl,by rw[Hw,Hw];rfl,by rw[Hw];rfl,⟨?_⟩⟩
 rcases hk with h|h|h
 ·have:=OB m hm h _ 0 [.lab m.states.length] rfl (by omega) (by simp)
  rw[Nat.sub_zero] at this
  rw[AL,show Dh m=.nat by simp[Dh,h]]
  exact this
 ·have:=OA m hm h _ 0 [.lab m.states.length] rfl (by omega) (by simp)
  rw[Nat.sub_zero] at this
  rw[AL,show Dh m=.word (.lab m.letters.length) by simp[Dh,h]]
  exact this
 ·have:=O9 m hm h _ 0 [.lab m.states.length] rfl (by omega) (by simp)
  rw[Nat.sub_zero] at this
  rw[AL,show Dh m=.prio m.letters.length m.ranks by simp[Dh,h]]
  exact this
noncomputable abbrev FR:Func:= Tryz.f118
noncomputable def GU:Code:=FR.body.getD .skip
theorem T2(d:Nat):Aa PP 118 [dT .nat,di ((d+1:Nat):Int)] σ0 (db true) σ0:=by
 refine sv FR 132 [2] (.f .r) (((↑(d+1):Int)==0)=false/\db ((length (map eT (Typ.ps Typ.nat)):Int)==0)=db true) ?_
 have hz:(((d+1:Nat):Int)==0)=false:=Ia.2 (by omega)
 exact⟨hz,rfl⟩
theorem EU(d:Nat)(n:Int)(h1:1<=n)(h2:n<=16):Aa PP 118 [dT (.lab n),di ((d+1:Nat):Int)] σ0 (db true) σ0:=by
 refine sv FR 132 [2] (.f<|.k<|.k<|.k<|.k<|.k<|.t<|.t .r) (((↑(d+1):Int)==0)=false/\decide (Typ.sz (Typ.lab n)>=1)=true/\decide (Typ.sz (Typ.lab n)<=16)=true/\db ((length (map eT (Typ.ps (Typ.lab n))):Int)==0)=db true) ?_
 have hz:(((d+1:Nat):Int)==0)=false:=Ia.2 (by omega)
 exact⟨hz,Hz h1,Hz h2,rfl⟩
theorem Qu(d:Nat)(n:Int)(r:List Int)(h1:n=r.length)(h2:CH r=true):Aa PP 118 [dT (.prio n r),di ((d+1:Nat):Int)] σ0 (db true) σ0:=by
 refine sv FR 132 [2] (.f<|.t<|.k<|.k<|.k<|.k<|.k<|.t<|.t<|.k<|.t<|.c (db true) .r) (((↑(d+1):Int)==0)=false/\decide ((length (map vi (Typ.rk (Typ.prio n r))):Int)>0)=true/\decide (Typ.sz (Typ.prio n r)>=1)=true/\decide (Typ.sz (Typ.prio n r)<=6)=true/\((length (map vi (Typ.rk (Typ.prio n r))):Int)==Typ.sz (Typ.prio n r))=true/\F0 149 [D.v (vIs (Typ.rk (Typ.prio n r)))] (db true)/\Q (db true)) ?_
 have hz:(((d+1:Nat):Int)==0)=false:=Ia.2 (by omega)
 have h3:=h2
 simp only[CH,Hy,H8] at h3
 refine⟨hz,Hz ?_,Hz ?_,Hz ?_,?_,OJ r h2,rfl⟩
 ·simp only[Typ.rk,Hw];omega
 ·simp only[Typ.sz];omega
 ·simp only[Typ.sz];omega
 ·simp only[Typ.sz,Typ.rk,Hw,h1,beq_self_eq_true]
theorem PY(d:Nat)(t:Typ)(hd:d<=100)(h:Aa PP 118 [dT t,di d] σ0 (db true) σ0):Aa PP 118 [dT (.word t),di ((d+1:Nat):Int)] σ0 (db true) σ0:=by
 rw[dT,Kt]
 refine sv FR 132 [2] (.f<|.x (vT t)<|.c (db true) .r) (((↑(d+1):Int)==0)=false/\iz 0<=0/\Q (some (vT t))/\F0 118 [D.v (vT t),di (wrap IntKind.i64 ((↑(d+1):Int)-1))] (db true)/\Q (db true)) ?_
 have hz:(((d+1:Nat):Int)==0)=false:=Ia.2 (by omega)
 rw[show IntKind.i64.wrap (((d+1:Nat):Int)-1)=d by rw[Ai (by omega) (by omega)];omega]
 exact⟨hz,by decide,rfl,h,rfl⟩
theorem Qv(d:Nat)(l:List Typ)(hd:d<=100)(hl:l.length<=8)(h:∀t∈l,Aa PP 118 [dT t,di d] σ0 (db true) σ0)(n:Nat):∀k:Nat,l.length-k=n->
  Rn PP FR 0 (db true) σ0 ([.lp (sub GU [1,1,0,1,0,1,1,1,1,1,1,1,1,1,0,1,0,1,0,0]),.blk 1,.code (sub GU [1,1,0,1,0,1,1,1,1,1,1,1,1,1,0,1,1]),.blk 0,.code (sub GU [1,1,1])]++[]) (mkE 132 [(1,di ((d+1:Nat):Int)),(2,.v (.ref (vT (.prod l)))),(5,di k)]) σ0:=by
 induction n using Nat.strongRecOn with
 |_ n ih=>
 intro k hn
 refine lv 132 [2] (.b (.e fun t:Typ=>.x (vT t)<|.c (db true)<|.l [ke 1,ke 2,ch 5 (di (k+1:Nat))]) .r) ((decide ((k:Int)<(length (map eT (Typ.ps (Typ.prod l))):Int))=true->∃a,0<=(k:Int)/\(map eT (Typ.ps (Typ.prod l)))[Int.toNat (k:Int)]?=some (vT a)/\Aa PP 118 [D.v (vT a),di (wrap IntKind.i64 ((↑(d+1):Int)-1))] (St.mk [] []) (db true) (St.mk [] [])/\di (wrap IntKind.i64 ((k:Int)+1))=di (↑(k+1):Int)/\Nv.It (A9 (CN 0) PP (fun env σ1=>A2 PP FR env σ1 (db true) σ0) [kl GU [1,1,0,1,0,1,1,1,1,1,1,1,1,1,0,1,0,1,0,0],KI.blk 1,kc GU [1,1,0,1,0,1,1,1,1,1,1,1,1,1,0,1,1],KI.blk 0,kc GU [1,1,1]] (mkE 132 [(1,di (↑(d+1):Int)),(2,D.v (V.ref (vT (Typ.prod l)))),(5,di (↑(k+1):Int))]) σ0))/\(decide ((k:Int)<(length (map eT (Typ.ps (Typ.prod l))):Int))=false->Q (db true))) ?_
 rw[show IntKind.i64.wrap (((d+1:Nat):Int)-1)=d by rw[Ai (by omega) (by omega)];omega]
 refine⟨fun h1=>?_,fun h1=>rfl⟩
 have hk:k<l.length:=by simpa[Typ.ps] using h1
 have hx:l[k]?=some l[k]:=Hx hk
 generalize l[k]=t at hx
 exact⟨t,by omega,KK hx,h t (H4 hx),Ae (by omega),⟨ih (l.length- (k+1)) (by omega) (k+1) rfl⟩⟩
theorem Hh(d:Nat)(l:List Typ)(hd:d<=100)(h1:((l.length:Int)==0)=false)(h2:decide ((l.length:Int)>8)=false)(h:∀t∈l,Aa PP 118 [dT t,di d] σ0 (db true) σ0):Aa PP 118 [dT (.prod l),di ((d+1:Nat):Int)] σ0 (db true) σ0:=by
 refine sv FR 132 [2] (.f<|.k<|.k<|.k<|.k<|.k<|.k<|.k<|.k<|.k<|.k<|.f<|.f<|.l [ke 1,ke 2,ch 5 (di (0:Nat))]) (((↑(d+1):Int)==0)=false/\decide ((length (map eT (Typ.ps (Typ.prod l))):Int)<1)=false/\decide ((length (map eT (Typ.ps (Typ.prod l))):Int)>8)=false/\di 0=di (↑0:Int)/\I0 FR σ0.H.length (db true) σ0 [kl GU [1,1,0,1,0,1,1,1,1,1,1,1,1,1,0,1,0,1,0,0],KI.blk 1,kc GU [1,1,0,1,0,1,1,1,1,1,1,1,1,1,0,1,1],KI.blk 0,kc GU [1,1,1]] (mkE 132 [(1,di (↑(d+1):Int)),(2,D.v (V.ref (vT (Typ.prod l)))),(5,di (↑0:Int))]) σ0) ?_
 have hz:(((d+1:Nat):Int)==0)=false:=Ia.2 (by omega)
 have h3:¬((l.length:Int)>8):=Ig h2
 have h4:(l.length:Int)≠0:=by simpa using h1
 refine⟨hz,H1 ?_,by simpa[Typ.ps] using h2,rfl,⟨Qv d l hd (by omega) h _ 0 rfl⟩⟩
 simp only[Typ.ps,Hw];omega
theorem Qt(m:Mod)(hm:m.okN):Aa PP 118 [dT (AL m),di 8] σ0 (db true) σ0:=by
 have hg:=hm.good
 simp only[AL,AS,Hy,Io,Ii] at hg
 obtain⟨h1,h2,h3⟩:=hg
 refine Hh 7 _ (by omega) h1 h2 fun t ht=>?_
 have hgt:=h3 t ht
 rcases Ib.1 ht with rfl|ht
 ·simp only[AS,Hy,H8] at hgt
  exact EU 6 _ hgt.1 hgt.2
 ·have e:=(List.mem_replicate.1 ht).2
  subst e
  unfold Dh at hgt⊢
  split
  ·exact T2 6
  ·rename_i hk
   rw[HF hk] at hgt
   split
   ·rename_i hk2
    rw[HJ hk2] at hgt
    simp only[AS,Hy,H8] at hgt
    exact PY 6 _ (by omega) (EU 5 _ hgt.1 hgt.2)
   ·rename_i hk2
    rw[HF hk2] at hgt
    simp only[AS,Hy,HX] at hgt
    exact Qu 6 _ _ hgt.1 hgt.2
noncomputable abbrev Wz:Func:= Tryz.f83
theorem PE(m:Mod)(hm:m.okN):Aa PP 83 [dT (AL m)] σ0 (di 0) σ0:=by
 refine sv Wz 6 [1] (.c (db true) .r) (F0 118 [D.v (vT (AL m)),di 8] (db true)/\Q (di 0)) ?_
 exact⟨Qt m hm,rfl⟩
noncomputable abbrev CC:Func:= Tryz.f84
noncomputable def BL:Code:=CC.body.getD .skip
theorem UH(v:Val):Aa PP 84 [dT .nat,dV v] σ0 (db (Ao .nat v)) σ0:=by
 refine sv CC 169 [2,3] (.k<|.b (.b .r .r) .r) ((decide (v.n>=0)=true->(decide (v.n<=1048576)=true->db ((length (map eV v.kids):Int)==0)=db (Ao Typ.nat v))/\(decide (v.n<=1048576)=false->db false=db (Ao Typ.nat v)))/\(decide (v.n>=0)=false->db false=db (Ao Typ.nat v))) ?_
 refine⟨fun h1=>⟨fun h2=>?_,fun h2=>?_⟩,fun h1=>?_⟩<;>simp_all [Ao]<;>(intros;omega)
theorem G7(n:Int)(v:Val):Aa PP 84 [dT (.lab n),dV v] σ0 (db (Ao (.lab n) v)) σ0:=by
 refine sv CC 169 [2,3] (.k<|.k<|.b (.b .r .r) .r) ((decide (v.n>=0)=true->(decide (v.n<Typ.sz (Typ.lab n))=true->db ((length (map eV v.kids):Int)==0)=db (Ao (Typ.lab n) v))/\(decide (v.n<Typ.sz (Typ.lab n))=false->db false=db (Ao (Typ.lab n) v)))/\(decide (v.n>=0)=false->db false=db (Ao (Typ.lab n) v))) ?_
 refine⟨fun h1=>⟨fun h2=>?_,fun h2=>?_⟩,fun h1=>?_⟩<;>(try simp only[Typ.sz,Hw] at*)<;>simp only[Ao,Ca,h1,HV,HT]<;>(by_cases hh:v.n<n<;>simp_all)<;>(intros;omega)
theorem OZ(t:Typ)(v:Val)(hv:v.kids.length<=12)(h:∀k∈v.kids,Aa PP 84 [dT t,dV k] σ0 (db (Ao t k)) σ0)(n:Nat):∀k:Nat,v.kids.length-k=n->
  Rn PP CC 0 (db ((v.kids.drop k).all fun x=>Ao t x)) σ0 ([.lp (sub BL [1,1,1,0,1,0,0]),.blk 3,.code (sub BL [1,1,1,1])]++[]) (mkE 169 [(2,.v (.ref (vTy 4 0 [] [vT t]))),(3,.v (.ref (Ag v))),(6,di k)]) σ0:=by
 induction n using Nat.strongRecOn with
 |_ n ih=>
 intro k hn
 refine lv 169 [2,3] (.b (.e fun x:Val=>.x (vT t)<|.x (Ag x)<|.c (db (Ao t x))<|.b .r (.l [ke 2,ke 3,ch 6 (di (k+1:Nat))])) .r) ((decide ((k:Int)<(length (map eV v.kids):Int))=true->∃a,iz 0<=0/\some (vT t)=some (vT t)/\0<=(k:Int)/\(map eV v.kids)[Int.toNat (k:Int)]?=some (Ag a)/\Aa PP 84 [D.v (vT t),dV a] (St.mk [] []) (db (Ao t a)) (St.mk [] [])/\((!Ao t a)=true->db false=db (List.all (List.drop k v.kids) fun x=>Ao t x))/\((!Ao t a)=false->di (wrap IntKind.i64 ((k:Int)+1))=di (↑(k+1):Int)/\Nv.It (A9 (CN 0) PP (fun env σ1=>A2 PP CC env σ1 (db (List.all (List.drop k v.kids) fun x=>Ao t x)) σ0) [kl BL [1,1,1,0,1,0,0],KI.blk 3,kc BL [1,1,1,1]] (mkE 169 [(2,D.v (V.ref (vTy 4 0 [] [vT t]))),(3,D.v (V.ref (Ag v))),(6,di (↑(k+1):Int))]) (St.mk [] []))))/\(decide ((k:Int)<(length (map eV v.kids):Int))=false->db true=db (List.all (List.drop k v.kids) fun x=>Ao t x))) ?_
 refine⟨fun h1=>?_,fun h1=>?_⟩
 ·have hk:k<v.kids.length:=by simpa using h1
  have hx:v.kids[k]?=some v.kids[k]:=Hx hk
  rw[HD hk]
  generalize v.kids[k]=x at hx⊢
  refine⟨x,by decide,rfl,by omega,AB hx,h x (H4 hx),fun h2=>?_,fun h2=>⟨Ae (by omega),⟨?_⟩⟩⟩
  ·have h2:Ao t x=false:=by simpa using h2
   rw[all_cons,h2,HT]
  ·have h2:Ao t x=true:=by simpa using h2
   rw[all_cons,h2,HV]
   exact ih (v.kids.length- (k+1)) (by omega) (k+1) rfl
 ·have hk:v.kids.length<=k:=by simpa using h1
  rw[HI hk];rfl
theorem RZ(t:Typ)(v:Val)(h:∀k∈v.kids,Aa PP 84 [dT t,dV k] σ0 (db (Ao t k)) σ0):Aa PP 84 [dT (.word t),dV v] σ0 (db (Ao (.word t) v)) σ0:=by
 rw[dT,Kt]
 refine sv CC 169 [2,3] (.k<|.k<|.k<|.k<|.b .r (.b .r (.l [ke 2,ke 3,ch 6 (di (0:Nat))]))) (((v.n !=0)=true->db false=db (Ao (Typ.word t) v))/\((v.n !=0)=false->(decide ((length (map eV v.kids):Int)>12)=true->db false=db (Ao (Typ.word t) v))/\(decide ((length (map eV v.kids):Int)>12)=false->di 0=di (↑0:Int)/\I0 CC σ0.H.length (db (Ao (Typ.word t) v)) σ0 [kl BL [1,1,1,0,1,0,0],KI.blk 3,kc BL [1,1,1,1]] (mkE 169 [(2,D.v (V.ref (vTy 4 0 [] [vT t]))),(3,D.v (V.ref (Ag v))),(6,di (↑0:Int))]) σ0))) ?_
 refine⟨fun h1=>?_,fun h1=>⟨fun h2=>?_,fun h2=>⟨rfl,⟨?_⟩⟩⟩⟩
 ·have h1:(v.n==0)=false:=by simpa using h1
  simp only[Ao,h1,HT]
 ·have h2:¬((v.kids.length:Int)<=12):=by simpa using h2
  simp only[Ao,H1 h2,HT,IR]
 ·have h1:(v.n==0)=true:=by simpa using h1
  have h2:(v.kids.length:Int)<=12:=by simpa using h2
  simp only[Ao,h1,Hz h2,HV]
  exact OZ t v (by omega) h _ 0 rfl
theorem Pe(sz:Int)(r:List Int)(v:Val)(hv:v.kids.length<=12)(n:Nat):∀k:Nat,v.kids.length-k=n->
  Rn PP CC 0 (db ((v.kids.drop k).all fun x=>Ca sz x)) σ0 ([.lp (sub BL [1,1,1,0,1,0,0]),.blk 3,.code (sub BL [1,1,1,1])]++[]) (mkE 169 [(2,.v (.ref (vT (.prio sz r)))),(3,.v (.ref (Ag v))),(6,di k)]) σ0:=by
 induction n using Nat.strongRecOn with
 |_ n ih=>
 intro k hn
 refine lv 169 [2,3] (.b (.e fun x:Val=>.k<|.h (.xs (Ag x))<|.b .r (.h (.xs (Ag x))<|.b .r (.h (.xs (Ag x))<|.b .r (.l [ke 2,ke 3,ch 6 (di (k+1:Nat))])))) .r) ((decide ((k:Int)<(length (map eV v.kids):Int))=true->∃a,2=2/\0<=(k:Int)/\(map eV v.kids)[Int.toNat (k:Int)]?=some (Ag a)/\(decide (a.n<0)=true->db false=db (List.all (List.drop k v.kids) fun x=>Ca sz x))/\(decide (a.n<0)=false->2=2/\0<=(k:Int)/\(map eV v.kids)[Int.toNat (k:Int)]?=some (Ag a)/\(decide (a.n>=Typ.sz (Typ.prio sz r))=true->db false=db (List.all (List.drop k v.kids) fun x=>Ca sz x))/\(decide (a.n>=Typ.sz (Typ.prio sz r))=false->2=2/\0<=(k:Int)/\(map eV v.kids)[Int.toNat (k:Int)]?=some (Ag a)/\(decide ((length (map eV a.kids):Int)>0)=true->db false=db (List.all (List.drop k v.kids) fun x=>Ca sz x))/\(decide ((length (map eV a.kids):Int)>0)=false->di (wrap IntKind.i64 ((k:Int)+1))=di (↑(k+1):Int)/\Nv.It (A9 (CN 0) PP (fun env σ1=>A2 PP CC env σ1 (db (List.all (List.drop k v.kids) fun x=>Ca sz x)) σ0) [kl BL [1,1,1,0,1,0,0],KI.blk 3,kc BL [1,1,1,1]] (mkE 169 [(2,D.v (V.ref (vT (Typ.prio sz r)))),(3,D.v (V.ref (Ag v))),(6,di (↑(k+1):Int))]) (St.mk [] []))))))/\(decide ((k:Int)<(length (map eV v.kids):Int))=false->db true=db (List.all (List.drop k v.kids) fun x=>Ca sz x))) ?_
 refine⟨fun h1=>?_,fun h1=>?_⟩
 ·have hk:k<v.kids.length:=by simpa using h1
  have hx:v.kids[k]?=some v.kids[k]:=Hx hk
  rw[HD hk]
  generalize v.kids[k]=x at hx⊢
  refine⟨x,rfl,by omega,AB hx,fun h2=>?_,fun h2=>⟨rfl,by omega,AB hx,fun h3=>?_,fun h3=>⟨rfl,by omega,AB hx,fun h4=>?_,fun h4=>⟨Ae (by omega),⟨?_⟩⟩⟩⟩⟩
  ·have h2:¬(x.n>=0):=by have:=H9 h2;omega
   rw[all_cons,Ca,H1 h2,HT,HT]
  ·have h3:¬(x.n<sz):=by have:=H9 h3;simp only[Typ.sz] at this;omega
   rw[all_cons,Ca,H1 h3,HT,IR,HT]
  ·have h4:((x.kids.length:Int)==0)=false:=by have:=H9 h4;rw[Hw] at this;exact Ia.2 (by omega)
   rw[all_cons,Ca,h4,IR,IR,HT]
  ·have h2:x.n>=0:=by have:=Ig h2;omega
   have h3:x.n<sz:=by have:=Ig h3;simp only[Typ.sz] at this;omega
   have h4:((x.kids.length:Int)==0)=true:=by have:=Ig h4;rw[Hw] at this;exact HX.2 (by omega)
   rw[all_cons,Ca,Hz h2,Hz h3,h4,HV,HV,HV]
   exact ih (v.kids.length- (k+1)) (by omega) (k+1) rfl
 ·have hk:v.kids.length<=k:=by simpa using h1
  rw[HI hk];rfl
theorem Sd(sz:Int)(r:List Int)(v:Val):Aa PP 84 [dT (.prio sz r),dV v] σ0 (db (Ao (.prio sz r) v)) σ0:=by
 refine sv CC 169 [2,3] (.k<|.k<|.k<|.k<|.b .r (.b .r (.l [ke 2,ke 3,ch 6 (di (0:Nat))]))) (((v.n !=0)=true->db false=db (Ao (Typ.prio sz r) v))/\((v.n !=0)=false->(decide ((length (map eV v.kids):Int)>12)=true->db false=db (Ao (Typ.prio sz r) v))/\(decide ((length (map eV v.kids):Int)>12)=false->di 0=di (↑0:Int)/\I0 CC σ0.H.length (db (Ao (Typ.prio sz r) v)) σ0 [kl BL [1,1,1,0,1,0,0],KI.blk 3,kc BL [1,1,1,1]] (mkE 169 [(2,D.v (V.ref (vT (Typ.prio sz r)))),(3,D.v (V.ref (Ag v))),(6,di (↑0:Int))]) σ0))) ?_
 refine⟨fun h1=>?_,fun h1=>⟨fun h2=>?_,fun h2=>⟨rfl,⟨?_⟩⟩⟩⟩
 ·have h1:(v.n==0)=false:=by simpa using h1
  simp only[Ao,h1,HT]
 ·have h2:¬((v.kids.length:Int)<=12):=by simpa using h2
  simp only[Ao,H1 h2,HT,IR]
 ·have h1:(v.n==0)=true:=by simpa using h1
  have h2:(v.kids.length:Int)<=12:=by simpa using h2
  simp only[Ao,h1,Hz h2,HV]
  exact Pe sz r v (by omega) _ 0 rfl
theorem Pn(l:List Typ)(v:Val)(hl:v.kids.length=l.length)(hv:v.kids.length<=1000000)(h:∀t∈l,∀k∈v.kids,Aa PP 84 [dT t,dV k] σ0 (db (Ao t k)) σ0)(n:Nat):∀k:Nat,l.length-k=n->
  Rn PP CC 0 (db (BV (l.drop k) (v.kids.drop k))) σ0 ([.lp (sub BL [1,0,1,0,1,1,1,1,1,1,1,0,1,0,1,0,0]),.blk 1,.code (sub BL [1,0,1,0,1,1,1,1,1,1,1,0,1,1]),.blk 0,.code (sub BL [1,1])]++[]) (mkE 169 [(2,.v (.ref (vT (.prod l)))),(3,.v (.ref (Ag v))),(5,di k)]) σ0:=by
 induction n using Nat.strongRecOn with
 |_ n ih=>
 intro k hn
 refine lv 169 [2,3] (.b (.e fun t:Typ=>.x (vT t)<|.e fun x:Val=>.x (Ag x)<|.c (db (Ao t x))<|.b .r (.l [ke 2,ke 3,ch 5 (di (k+1:Nat))])) .r) ((decide ((k:Int)<(length (map eV v.kids):Int))=true->∃a,0<=(k:Int)/\(map eT (Typ.ps (Typ.prod l)))[Int.toNat (k:Int)]?=some (vT a)/\∃a_1,0<=(k:Int)/\(map eV v.kids)[Int.toNat (k:Int)]?=some (Ag a_1)/\Aa PP 84 [D.v (vT a),dV a_1] (St.mk [] []) (db (Ao a a_1)) (St.mk [] [])/\((!Ao a a_1)=true->db false=db (BV (List.drop k l) (List.drop k v.kids)))/\((!Ao a a_1)=false->di (wrap IntKind.i64 ((k:Int)+1))=di (↑(k+1):Int)/\Nv.It (A9 (CN 0) PP (fun env σ1=>A2 PP CC env σ1 (db (BV (List.drop k l) (List.drop k v.kids))) σ0) [kl BL [1,0,1,0,1,1,1,1,1,1,1,0,1,0,1,0,0],KI.blk 1,kc BL [1,0,1,0,1,1,1,1,1,1,1,0,1,1],KI.blk 0,kc BL [1,1]] (mkE 169 [(2,D.v (V.ref (vT (Typ.prod l)))),(3,D.v (V.ref (Ag v))),(5,di (↑(k+1):Int))]) (St.mk [] []))))/\(decide ((k:Int)<(length (map eV v.kids):Int))=false->db true=db (BV (List.drop k l) (List.drop k v.kids)))) ?_
 refine⟨fun h1=>?_,fun h1=>?_⟩
 ·have hk:k<v.kids.length:=by simpa using h1
  have hk2:k<l.length:=by omega
  have hx:v.kids[k]?=some v.kids[k]:=Hx hk
  have hy:l[k]?=some l[k]:=Hx hk2
  rw[HD hk,HD hk2]
  generalize v.kids[k]=x at hx⊢
  generalize l[k]=t at hy⊢
  refine⟨t,by omega,KK hy,x,by omega,AB hx,h t (H4 hy) x (H4 hx),fun h2=>?_,fun h2=>⟨Ae (by omega),⟨?_⟩⟩⟩
  ·have h2:Ao t x=false:=by simpa using h2
   simp only[BV,h2,HT]
  ·have h2:Ao t x=true:=by simpa using h2
   simp only[BV,h2,HV]
   exact ih (l.length- (k+1)) (by omega) (k+1) rfl
 ·have hk:v.kids.length<=k:=by simpa using h1
  rw[HI hk,HI (by omega)];simp only[BV]
theorem Hv(l:List Typ)(v:Val)(hv:v.size<=1000000)(h:∀t∈l,∀k∈v.kids,Aa PP 84 [dT t,dV k] σ0 (db (Ao t k)) σ0):Aa PP 84 [dT (.prod l),dV v] σ0 (db (Ao (.prod l) v)) σ0:=by
 refine sv CC 169 [2,3] (.k<|.k<|.k<|.k<|.b .r (.b .r (.l [ke 2,ke 3,ch 5 (di (0:Nat))]))) (((v.n !=0)=true->db false=db (Ao (Typ.prod l) v))/\((v.n !=0)=false->(((length (map eV v.kids):Int) !=(length (map eT (Typ.ps (Typ.prod l))):Int))=true->db false=db (Ao (Typ.prod l) v))/\(((length (map eV v.kids):Int) !=(length (map eT (Typ.ps (Typ.prod l))):Int))=false->di 0=di (↑0:Int)/\I0 CC σ0.H.length (db (Ao (Typ.prod l) v)) σ0 [kl BL [1,0,1,0,1,1,1,1,1,1,1,0,1,0,1,0,0],KI.blk 1,kc BL [1,0,1,0,1,1,1,1,1,1,1,0,1,1],KI.blk 0,kc BL [1,1]] (mkE 169 [(2,D.v (V.ref (vT (Typ.prod l)))),(3,D.v (V.ref (Ag v))),(5,di (↑0:Int))]) σ0))) ?_
 have hlen:=Val.length_le v.kids
 have hsz:=Val.size_eq v
 refine⟨fun h1=>?_,fun h1=>⟨fun h2=>?_,fun h2=>⟨rfl,⟨?_⟩⟩⟩⟩
 ·have h1:(v.n==0)=false:=by simpa using h1
  simp only[Ao,h1,HT]
 ·have h2:((v.kids.length:Int)==l.length)=false:=by simpa[Typ.ps] using h2
  simp only[Ao,h2,HT,IR]
 ·have h1:(v.n==0)=true:=by simpa using h1
  have h2:(v.kids.length:Int)=l.length:=by simpa[Typ.ps] using h2
  have h3:((v.kids.length:Int)==l.length)=true:=by simpa using h2
  simp only[Ao,h1,h3,HV]
  exact Pn l v (by omega) (by omega) h _ 0 rfl
theorem UI(m:Mod)(v:Val):Aa PP 84 [dT (Dh m),dV v] σ0 (db (Ao (Dh m) v)) σ0:=by
 unfold Dh
 split
 ·exact UH v
 ·split
  ·exact RZ _ v fun k _=>G7 _ k
  ·exact Sd _ _ v
theorem Sb(m:Mod)(v:Val)(hv:v.size<=1000000):Aa PP 84 [dT (AL m),dV v] σ0 (db (Ao (AL m) v)) σ0:=
 Hv _ v hv fun t ht k _=>by
  rcases Ib.1 ht with rfl|ht
  ·exact G7 _ k
  ·rw[(List.mem_replicate.1 ht).2];exact UI m k
noncomputable abbrev Wr:Func:= Tryz.f53
theorem Lg(m:Mod)(hm:m.okN)(v:Val):Aa PP 53 [dT (AL m),dV v] σ0 (db (Ak (AL m) v)) σ0:=by
 refine sv Wr 18 [2,3] (.c (di 0)<|.c (di (min (v.size:Int) 129))<|.b (.c (db (Ao (AL m) v)) .r) .r) (F0 83 [D.v (vT (AL m))] (di 0)/\F0 43 [dV v,di 128] (di (min (↑(Val.size v):Int) 129))/\(decide (min (↑(Val.size v):Int) 129<=128)=true->F0 84 [D.v (vT (AL m)),dV v] (db (Ao (AL m) v))/\db (Ao (AL m) v)=db (Ak (AL m) v))/\(decide (min (↑(Val.size v):Int) 129<=128)=false->db false=db (Ak (AL m) v))) ?_
 refine⟨PE m hm,FV _ v (H5 _) 128 (by decide) (by decide),fun h1=>?_,fun h1=>?_⟩
 ·have h1:=H9 h1
  have h2:(v.size:Int)<=128:=by rw[Iw] at h1;split at h1<;>omega
  exact⟨Sb m v (by omega),by rw[Ak,Hz h2,HV]⟩
 ·have h1:=Ig h1
  rw[Ak,H1 (show ¬(v.size:Int)<=128 by rw[Iw] at h1;split at h1<;>omega),HT]
noncomputable abbrev Ek:Func:= Tryz.f29
noncomputable def Em:Code:=Ek.body.getD .skip
theorem JZ(m:Mod)(t:Typ)(b:Bool)(hl:m.rules.length<=1000000)(hk:(m.kind==6)=false)(hR:∀r∈m.rules,Aa PP 52 [Ad m,BN r] σ0 (db true) σ0)(hT:Aa PP 54 [Ad m] σ0 (dT t) σ0)(hV:Aa PP 53 [dT t,dV m.start] σ0 (db b) σ0)(n:Nat):∀k:Nat,m.rules.length-k=n->
  Rn PP Ek 0 (di (if b then 0 else 17)) σ0 ([.lp (sub Em [1,1,1,1,1,0,1,0,0]),.blk 0,.code (sub Em [1,1,1,1,1,1])]++[]) (mkE 52 [(1,.v (.ref (Az m))),(3,di k)]) σ0:=by
 induction n using Nat.strongRecOn with
 |_ n ih=>
 intro k hn
 refine lv 52 [1] (.b (.e fun r:Rul=>.x (Ah r)<|.c (db true)<|.l [ke 1,ch 3 (di (k+1:Nat))]) (.f<|.c (dT t)<|.c (db b)<|.b .r .r)) ((decide ((k:Int)<(length (map Ah m.rules):Int))=true->∃a,0<=(k:Int)/\(map Ah m.rules)[Int.toNat (k:Int)]?=some (Ah a)/\Aa PP 52 [Ad m,BN a] (St.mk [] []) (db true) (St.mk [] [])/\di (wrap IntKind.i64 ((k:Int)+1))=di (↑(k+1):Int)/\Nv.It (A9 (CN 0) PP (fun env σ1=>A2 PP Ek env σ1 (di (if b=true then 0 else 17)) σ0) [kl Em [1,1,1,1,1,0,1,0,0],KI.blk 0,kc Em [1,1,1,1,1,1]] (mkE 52 [(1,D.v (V.ref (Az m))),(3,di (↑(k+1):Int))]) (St.mk [] [])))/\(decide ((k:Int)<(length (map Ah m.rules):Int))=false->(m.kind==6)=false/\F0 54 [Ad m] (dT t)/\F0 53 [D.v (vT t),dV m.start] (db b)/\((!b)=true->di 17=di (if b=true then 0 else 17))/\((!b)=false->di 0=di (if b=true then 0 else 17)))) ?_
 refine⟨fun h=>?_,fun h=>⟨hk,hT,hV,fun e=>?_,fun e=>?_⟩⟩
 ·have hk:k<m.rules.length:=by simpa using h
  have hx:m.rules[k]?=some m.rules[k]:=Hx hk
  generalize m.rules[k]=r at hx
  exact⟨r,by omega,AW hx,hR r (H4 hx),Ae (by omega),⟨ih (m.rules.length- (k+1)) (by omega) (k+1) rfl⟩⟩
 ·cases b<;>first|rfl|exact absurd e (by decide)
 ·cases b<;>first|rfl|exact absurd e (by decide)
theorem KU(m:Mod)(e:Int)(h1:An m.kind 1 6=true)(h2:Aa PP 49 [Ad m] σ0 (db true) σ0)(h3:Aa PP 50 [Ad m] σ0 (db true) σ0)(h4:Aa PP 51 [Ad m] σ0 (db true) σ0)
  (hl:Rn PP Ek 0 (di e) σ0 ([.lp (sub Em [1,1,1,1,1,0,1,0,0]),.blk 0,.code (sub Em [1,1,1,1,1,1])]++[]) (mkE 52 [(1,.v (.ref (Az m))),(3,di (0:Nat))]) σ0):Aa PP 29 [Ad m] σ0 (di e) σ0:=by
 have h1:=h1▸A6 m.kind 1 6
 refine sv Ek 52 [1] (.c (db true)<|.c (db true)<|.c (db true)<|.c (db true)<|.l [ke 1,ch 3 (di (0:Nat))]) (F0 48 [di m.kind,di 1,di 6] (db true)/\F0 49 [Ad m] (db true)/\F0 50 [Ad m] (db true)/\F0 51 [Ad m] (db true)/\di 0=di (↑0:Int)/\I0 Ek σ0.H.length (di e) σ0 [kl Em [1,1,1,1,1,0,1,0,0],KI.blk 0,kc Em [1,1,1,1,1,1]] (mkE 52 [(1,D.v (V.ref (Az m))),(3,di (↑0:Int))]) σ0) ?_
 exact⟨h1,h2,h3,h4,rfl,⟨hl⟩⟩
theorem Mo(m:Mod)(hm:m.okS):Aa PP 29 [Ad m] σ0 (di (if Ak (AL m) m.start then 0 else 17)) σ0:=
 KU m _ (by rcases hm.n.kind with h|h|h<;>rw[h]<;>rfl) (JP m hm) (JF m hm) (JQ m hm) (JZ m _ _ (by have:=hm.n.sz;omega) (by rcases hm.n.kind with h|h|h<;>rw[h]<;>rfl) (fun r hr=>QY m hm r hr) (Ll m hm) (Lg m hm m.start) _ 0 rfl)
theorem JY(m:Mod)(hm:m.ok):Aa PP 29 [Ad m] σ0 (di 0) σ0:=by
 have:=Mo m hm
 rwa[hm.start,HJ rfl] at this
noncomputable abbrev Ws:Func:= Tryz.f30
theorem Qx(m:Mod)(hm:m.ok)(v:Val):Aa PP 30 [Ad m,dV v] σ0 (db (Ak (AL m) v)) σ0:=by
 refine sv Ws 14 [2,3] (.c (di 0)<|.c (dT (AL m))<|.c (db (Ak (AL m) v)) .r) (F0 29 [Ad m] (di 0)/\F0 54 [Ad m] (dT (AL m))/\F0 53 [D.v (vT (AL m)),dV v] (db (Ak (AL m) v))/\Q (db (Ak (AL m) v))) ?_
 exact⟨JY m hm,Ll m hm,Lg m hm v,rfl⟩
abbrev vBs(l:List UInt8):V:=.list (l.map vb)
abbrev cDz(l:List UInt8)(a:Nat):List D:=[.v (vBs l),di a]
abbrev dz(l:List UInt8)(a:Nat):St:=⟨[some (cDz l a)],[]⟩
noncomputable abbrev Zw:Func:= Tryz.f18
theorem Al(l:List UInt8)(hl:l.length<=200)(a:Nat)(ha:a<=l.length)(n:Int)(hn:1<=n)(hn2:n<=1000):
  ∃(r:Int) (a':Nat),0<=r/\r<n/\a'<=l.length/\Aa PP 18 [.ptr 0 0,di n] (dz l a) (di r) (dz l a'):=by
 by_cases h:a<l.length
 ·refine⟨(l[a].toNat:Int)%n,a+1,Int.emod_nonneg _ (by omega),Int.emod_lt_of_pos _ (by omega),h,?_⟩
  refine sv Zw 36 [] (.f<|.x (vb l[a]) .r) ((True/\True/\True)/\decide ((a:Int)>=(length (map vb l):Int))=false/\0<=wrap IntKind.i64 (wrap IntKind.i64 ((a:Int)+1)-1)/\(map vb l)[Int.toNat (wrap IntKind.i64 (wrap IntKind.i64 ((a:Int)+1)-1))]?=some (V.int IntKind.u8 (↑(UInt8.toNat l[a]):Int))/\n≠0/\(True/\True/\True)/\[some [D.v (vBs l),di (wrap IntKind.i64 ((a:Int)+1))]]=[some (cDz l (a+1))]/\di (Int.tmod (wrap IntKind.i64 (↑(UInt8.toNat l[a]):Int)) n)=di ((↑(UInt8.toNat l[a]):Int)%n)) ?_
  have hx:l[a]?=some l[a]:=Hx h
  have hb:l[a].toNat<256:=UInt8.toNat_lt _
  generalize l[a]=c at hx hb
  rw[show IntKind.i64.wrap (IntKind.i64.wrap ((a:Int)+1)-1)=a by rw[Ai (n:=(a:Int)+1) (by omega) (by omega),Ai (by omega) (by omega)];omega]
  refine⟨⟨trivial,trivial,trivial⟩,by rw[Hw];exact H1 (by omega),by omega,AW hx,by omega,⟨trivial,trivial,trivial⟩,?_,?_⟩
  ·rw[Ai (by omega) (by omega)];rfl
  ·rw[Ai (by omega) (by omega),Int.tmod_eq_emod_of_nonneg (by omega)]
 ·refine⟨0,a,by omega,by omega,ha,?_⟩
  refine sv Zw 36 [] (.t .r) ((True/\True/\True)/\decide ((a:Int)>=(length (map vb l):Int))=true/\Q [some (cDz l a)]/\Q (di 0)) ?_
  exact⟨⟨trivial,trivial,trivial⟩,by rw[Hw];exact Hz (by omega),rfl,rfl⟩
noncomputable abbrev S6:Func:= Tryz.f36
noncomputable def PJ:Code:=S6.body.getD .skip
abbrev YW(l:List UInt8)(a:Nat)(xs:List Int):St:=⟨[some (cDz l a)],[(1,1,xs.map vi)]⟩
theorem S0(l:List UInt8)(hl:l.length<=200)(n:Nat)(hn:n<=100)(most:Int)(hm:0<=most)(hm2:most<=100)(N:Nat):∀(k:Nat) (a:Nat) (xs:List Int),n-k=N->k<=n->a<=l.length->xs.length=k->(∀x∈xs,0<=x/\x<=most)->
  ∃(ys:List Int) (a':Nat),a'<=l.length/\ys.length=n/\(∀x∈ys,0<=x/\x<=most)/\
  Rn PP S6 1 (dIs ys) (dz l a') ([.lp (sub PJ [1,1,0,1,0,0]),.blk 0,.code (sub PJ [1,1,1])]++[]) (mkE 22 [(0,.ptr 0 0),(1,di n),(2,di most),(7,.acc 1 (xs.map vi)),(8,di k)]) (YW l a xs):=by
 induction N with
 |zero=>
  intro k a xs hk hk0 ha hx hxs
  by_cases hkn:k=n
  ·refine⟨xs,a,ha,by omega,hxs,?_⟩
   refine lv 22 [] (.f .r) (decide ((k:Int)<(n:Int))=false/\Q [some (cDz l a)]/\D.v (V.list (map vi xs))=dIs xs) ?_
   exact⟨H1 (by omega),rfl,rfl⟩
  ·exact absurd hk0 (by omega)
 |succ N ih=>
  intro k a xs hk hk0 ha hx hxs
  obtain⟨r,a1,h1,h2,h3,h4⟩:=Al l hl a ha (most+1) (by omega) (by omega)
  obtain⟨ys,a',h5,h6,h7,h8⟩:=ih (k+1) a1 (xs++[r]) (by omega) (by omega) h3 (by simp[hx]) (fun x hx=>by
   rcases Ij.1 hx with hx|hx
   ·exact hxs x hx
   ·rw[HE.1 hx];omega)
  refine⟨ys,a',h5,h6,h7,?_⟩
  refine lv 22 [] (.t<|.c1 (cDz l a1) (di r)<|.ls [ke 0,ke 1,ke 2,ch 7 (.acc 1 ((xs++[r]).map vi)),ch 8 (di (k+1:Nat))] (YW l a1 (xs++[r]))) (decide ((k:Int)<(n:Int))=true/\Aa PP 18 [D.ptr 0 0,di (wrap IntKind.i64 (most+1))] (dz l a) (di r) (dz l a1)/\Q (map vi xs)/\Ax (length (map vi xs)+length (V.int IntKind.i64 r::nV)) 8/\D.acc 1 (map vi xs++[vi r])=D.acc 1 (map vi (xs++[r]))/\di (wrap IntKind.i64 ((k:Int)+1))=di (↑(k+1):Int)/\Q [some (cDz l a1)]/\[(1,1,map vi xs++vi r::nV)]=[(1,1,map vi (xs++[r]))]/\I0 S6 1 (dIs ys) (dz l a') [kl PJ [1,1,0,1,0,0],KI.blk 0,kc PJ [1,1,1]] (mkE 22 [(0,D.ptr 0 0),(1,di (n:Int)),(2,di most),(7,D.acc 1 (map vi (xs++[r]))),(8,di (↑(k+1):Int))]) (YW l a1 (xs++[r]))) ?_
  refine⟨Hz (by omega),?_,rfl,⟨?_,?_⟩,by simp,Ae (by omega),rfl,by simp,⟨h8⟩⟩
  ·rw[Ai (by omega) (by omega)];exact h4
  ·simp only[Hw,H3,H7];omega
  ·simp only[Hw,H3,H7];omega
theorem Ea(l:List UInt8)(hl:l.length<=200)(a:Nat)(ha:a<=l.length)(n:Nat)(hn:n<=100)(most:Int)(hm:0<=most)(hm2:most<=100):
  ∃(ys:List Int) (a':Nat),a'<=l.length/\ys.length=n/\(∀x∈ys,0<=x/\x<=most)/\Aa PP 36 [.ptr 0 0,di n,di most] (dz l a) (dIs ys) (dz l a'):=by
 obtain⟨ys,a',h1,h2,h3,h4⟩:=S0 l hl n hn most hm hm2 _ 0 a [] rfl (by omega) ha rfl (by simp)
 refine⟨ys,a',h1,h2,h3,?_⟩
 refine sv S6 22 [] (.h (.q 2 0)<|.h (.nw 7 1 1)<|.ls [ke 0,ke 1,ke 2,ke 7,ch 8 (di (0:Nat))] (YW l a [])) (di 0=di (↑0:Int)/\Q [some (cDz l a)]/\Q [(1,1,nV)]/\I0 S6 (length (dz l a).H) (dIs ys) (dz l a') [kl PJ [1,1,0,1,0,0],KI.blk 0,kc PJ [1,1,1]] (mkE 22 [(0,D.ptr 0 0),(1,di (n:Int)),(2,di most),(7,D.acc 1 []),(8,di (↑0:Int))]) (YW l a [])) ?_
 exact⟨rfl,rfl,rfl,⟨h4⟩⟩
noncomputable abbrev Mi:Func:= Tryz.f37
noncomputable def Km:Code:=Mi.body.getD .skip
abbrev YX(s:Int)(xs:List Val):St:=⟨[some [di 0,.v .nils],some [di 0,.acc 1 (xs.map eV)]],[(1,2,xs.map eV)]⟩
def El(s:Int)(l:List Int):Val:=.mk 0 (.mk s []::l.map fun x=>.mk x [])
theorem PG(l:List Int)(hl:l.length<=1000)(s:Int)(n:Nat):∀(k:Nat) (xs:List Val),l.length-k=n->xs.length=k+1->
  Rn PP Mi 0 (dV (.mk 0 (xs++(l.drop k).map fun x=>.mk x []))) σ0 ([.lp (sub Km [1,1,0,1,0,0]),.blk 0,.code (sub Km [1,1,1])]++[]) (mkE 28 [(1,dIs l),(4,.ptr 0 0),(5,.ptr 1 0),(6,di k)]) (YX s xs):=by
 induction n with
 |zero=>
  intro k xs hk hx
  refine lv 28 [] (.f .r) (decide ((k:Int)<(length (map vi l):Int))=false/\D.v (V.agg [vi 0,V.list (map eV xs)])=dV (Val.mk 0 (xs++map (fun x=>Val.mk x []) (List.drop k l)))) ?_
  refine⟨by rw[Hw];exact H1 (by omega),?_⟩
  rw[HI (by omega),Iu,Il];rfl
 |succ n ih=>
  intro k xs hk hxl
  refine lv 28 [] (.t<|.e fun x:Int=>.x (vi x)<|.ls [ke 1,ke 4,ke 5,ch 6 (di (k+1:Nat))] (YX s (xs++[.mk x []]))) (decide ((k:Int)<(length (map vi l):Int))=true/\∃a,0<=(k:Int)/\(map vi l)[Int.toNat (k:Int)]?=some (vi a)/\Q (map eV xs)/\Ax (length (map eV xs)+length (V.agg (vi a::V.list nV::nV)::nV)) 32/\(True/\True)/\di (wrap IntKind.i64 ((k:Int)+1))=di (↑(k+1):Int)/\[some [di 0,dn],some [di 0,D.acc 1 (map eV xs++V.agg (vi a::V.list nV::nV)::nV)]]=[some [di 0,dn],some [di 0,D.acc 1 (map eV (xs++[Val.mk a []]))]]/\[(1,2,map eV xs++V.agg (vi a::V.list nV::nV)::nV)]=[(1,2,map eV (xs++[Val.mk a []]))]/\I0 Mi 0 (dV (Val.mk 0 (xs++map (fun x=>Val.mk x []) (List.drop k l)))) σ0 [kl Km [1,1,0,1,0,0],KI.blk 0,kc Km [1,1,1]] (mkE 28 [(1,dIs l),(4,D.ptr 0 0),(5,D.ptr 1 0),(6,di (↑(k+1):Int))]) (YX s (xs++[Val.mk a []]))) ?_
  have hk1:k<l.length:=by omega
  have hx:l[k]?=some l[k]:=Hx hk1
  rw[HD hk1]
  generalize l[k]=x at hx⊢
  have h:=ih (k+1) (xs++[.mk x []]) (by omega) (by simp[hxl])
  rw[I4] at h
  refine⟨by rw[Hw];exact Hz (by omega),x,by omega,AW hx,rfl,⟨?_,?_⟩,⟨trivial,trivial⟩,Ae (by omega),?_,?_,⟨h⟩⟩
  ·simp only[Hw,H3,H7];omega
  ·simp only[Hw,H3,H7];omega
  ·rw[←DM];rfl
  ·rw[←DM];rfl
theorem Gj(l:List Int)(hl:l.length<=1000)(s:Int):Aa PP 37 [di s,dIs l] σ0 (dV (El s l)) σ0:=by
 refine sv Mi 28 [] (.a 1<|.h .g<|.ls [ke 1,ke 4,ke 5,ch 6 (di (0:Nat))] (YX s [.mk s []])) (di 0=di (↑0:Int)/\[some [di 0,dn],some [di 0,D.acc 1 (V.agg (vi s::V.list nV::nV)::nV)]]=[some [di 0,dn],some [di 0,D.acc 1 (eV (Val.mk s [])::nV)]]/\[(1,2,V.agg (vi s::V.list nV::nV)::nV)]=[(1,2,eV (Val.mk s [])::nV)]/\I0 Mi σ0.H.length (dV (El s l)) σ0 [kl Km [1,1,0,1,0,0],KI.blk 0,kc Km [1,1,1]] (mkE 28 [(1,dIs l),(4,D.ptr 0 0),(5,D.ptr 1 0),(6,di (↑0:Int))]) (YX s [Val.mk s []])) ?_
 exact⟨rfl,rfl,rfl,⟨PG l hl s _ 0 [.mk s []] rfl rfl⟩⟩
abbrev dl3:List (List UInt8):=[[114],[115],[116]]
def mkR(nm:List UInt8)(f t:Int)(nd gv:List Int):Rul:=⟨nm,f,t,nd,gv,[],0,0,0,[],[],[],[],0⟩
abbrev cM(S Pl:List (List UInt8))(rs:List Rul):List D:=[di 1,.v (vSs S),.v (vSs Pl),.v .nils,.v .nils,di 0,di 0,.acc 2 (rs.map Ah),di 0,.v .nils]
abbrev zM:List D:=[di 0,.v .nils,.v .nils,.v .nils,.v .nils,di 0,di 0,.v .nils,di 0,.v .nils]
abbrev stC(l:List UInt8)(a:Nat)(S Pl:List (List UInt8))(rs:List Rul):St:=⟨[some (cDz l a),some zM,some (cM S Pl rs)],[(2,14,rs.map Ah)]⟩
structure VH(ns np:Nat)(k:Nat)(r:Rul):Prop where
 name:dl3[k]?=some r.name
 frm:0<=r.frm/\r.frm<ns
 to:0<=r.to/\r.to<ns
 need:r.need.length=np/\∀x∈r.need,0<=x/\x<=2
 give:r.give.length=np/\∀x∈r.give,0<=x/\x<=2
 rest:r=mkR r.name r.frm r.to r.need r.give
structure Tm(m:Mod):Prop where
 kind:m.kind=1
 states:m.states=[[97]]∨m.states=[[97],[98]]
 places:m.places=[[120]]∨m.places=[[120],[121]]
 letters:m.letters=[]
 ranks:m.ranks=[]
 levels:m.levels=0
 age:m.age=0
 count:m.rules.length<=3
 pos:1<=m.rules.length
 rules:∀k r,m.rules[k]?=some r->VH m.states.length m.places.length k r
 start:∃ys:List Int,ys.length=m.places.length/\(∀x∈ys,0<=x/\x<=3)/\m.start=El 0 ys
theorem AC(rs:List Rul)(r:Rul):rs.map Ah++[Ah r]=(rs++[r]).map Ah:=by simp
noncomputable abbrev S7:Func:= Tryz.f19
noncomputable def FN:Code:=S7.body.getD .skip
theorem V0(l:List UInt8)(hl:l.length<=200)(S Pl:List (List UInt8))(hS:S=[[97]]∨S=[[97],[98]])(hP:Pl=[[120]]∨Pl=[[120],[121]])(n:Nat):∀(k a:Nat) (rs:List Rul),3-k=n->a<=l.length->k<=3->rs.length=k->(∀i r,rs[i]?=some r->VH S.length Pl.length i r)->
  ∃(m:Mod) (a':Nat),Tm m/\a'<=l.length/\Rn PP S7 1 (Ad m) (dz l a') ([.lp (sub FN [1,1,1,0,1,0,0]),.blk 0,.code (sub FN [1,1,1,1])]++[]) (mkE 85 [(0,.ptr 0 0),(1,db false),(4,.ptr 1 0),(5,.ptr 2 0),(6,di Pl.length),(7,di k)]) (stC l a S Pl rs):=by
 induction n using Nat.strongRecOn with
 |_ n ih=>
 intro k a rs hn ha hk3 hrs hR
 have hSl:1<=S.length/\S.length<=2:=by rcases hS with rfl|rfl<;>decide
 have hPl:1<=Pl.length/\Pl.length<=2:=by rcases hP with rfl|rfl<;>decide
 obtain⟨r,a1,h1,h2,h3,h4⟩:=Al l hl a ha 3 (by decide) (by decide)
 by_cases hk:(k:Int)<1+r
 ·obtain⟨f,a2,f1,f2,f3,f4⟩:=Al l hl a1 h3 S.length (by omega) (by omega)
  obtain⟨t,a3,t1,t2,t3,t4⟩:=Al l hl a2 f3 S.length (by omega) (by omega)
  obtain⟨nd,a4,n1,n2,n3,n4⟩:=Ea l hl a3 t3 Pl.length (by omega) 2 (by decide) (by decide)
  obtain⟨gv,a5,g1,g2,g3,g4⟩:=Ea l hl a4 n1 Pl.length (by omega) 2 (by decide) (by decide)
  obtain⟨nm,hnm⟩:∃nm,dl3[k]?=some nm:=⟨_,Hx (show k<dl3.length by show k<3;omega)⟩
  obtain⟨m,a',m1,m2,m3⟩:=ih (3- (k+1)) (by omega) (k+1) a5 (rs++[mkR nm f t nd gv]) rfl g1 (by omega) (by simp[hrs]) (fun i r hi=>by
   by_cases hik:i<rs.length
   ·rw[HK hik] at hi;exact hR i r hi
   ·rw[HH (by omega)] at hi
    have:i-rs.length=0:=by
     have:=(H0.1 hi).1
     simp at this;omega
    rw[this] at hi
    simp at hi;subst hi
    have hik2:i=k:=by omega
    subst hik2
    exact⟨hnm,⟨f1,f2⟩,⟨t1,t2⟩,⟨n2,n3⟩,⟨g2,g3⟩,rfl⟩)
  refine⟨m,a',m1,m2,?_⟩
  refine lv 85 [] (.c1 (cDz l a1) (di r)<|.t<|.h (.dr 21)<|.x (.str nm)<|.c1 (cDz l a2) (di f)<|.c1 (cDz l a3) (di t)<|.c1 (cDz l a4) (dIs nd)<|.c1 (cDz l a5) (dIs gv)<|.ls [ke 0,ke 1,ke 4,ke 5,ke 6,ch 7 (di (k+1:Nat))] (stC l a5 S Pl (rs++[mkR nm f t nd gv]))) (Aa PP 18 [D.ptr 0 0,di 3] (dz l a) (di r) (dz l a1)/\decide ((k:Int)<wrap IntKind.i64 (1+r))=true/\0<=(k:Int)/\[V.str (ByteArray.mk #[114]).data.toList,V.str (ByteArray.mk #[115]).data.toList,V.str (ByteArray.mk #[116]).data.toList][Int.toNat (k:Int)]?=some (V.str nm)/\Aa PP 18 [D.ptr 0 0,di (length (map V.str S):Int)] (dz l a1) (di f) (dz l a2)/\Aa PP 18 [D.ptr 0 0,di (length (map V.str S):Int)] (dz l a1) (di f) (dz l a2)/\Q (di f)/\Aa PP 18 [D.ptr 0 0,di (length (map V.str S):Int)] (dz l a2) (di t) (dz l a3)/\Aa PP 18 [D.ptr 0 0,di (length (map V.str S):Int)] (dz l a2) (di t) (dz l a3)/\Q (di t)/\Aa PP 36 [D.ptr 0 0,di (Pl.length:Int),di 2] (dz l a3) (dIs nd) (dz l a4)/\Aa PP 36 [D.ptr 0 0,di (Pl.length:Int),di 2] (dz l a3) (dIs nd) (dz l a4)/\Q (dIs nd)/\Aa PP 36 [D.ptr 0 0,di (Pl.length:Int),di 2] (dz l a4) (dIs gv) (dz l a5)/\Aa PP 36 [D.ptr 0 0,di (Pl.length:Int),di 2] (dz l a4) (dIs gv) (dz l a5)/\Q (dIs gv)/\Q [St.mk [some (cDz l a1),some zM,some (cM S Pl rs),some zRl] [(2,14,map Ah rs)],St.mk [some (cDz l a2),some zM,some (cM S Pl rs),some zRl] [(2,14,map Ah rs)],St.mk [some (cDz l a3),some zM,some (cM S Pl rs),some zRl] [(2,14,map Ah rs)],St.mk [some (cDz l a4),some zM,some (cM S Pl rs),some zRl] [(2,14,map Ah rs)],St.mk [some (cDz l a5),some zM,some (cM S Pl rs),some zRl] [(2,14,map Ah rs)]]/\((Q (some [D.v (vSs S)])/\Q (some [D.v (vSs S)])/\Q (some [D.v (vSs S)])/\Q (some [D.v (vSs S)])/\Q (some [D.v (vSs S)])/\Q (some [D.v (vSs S)])/\Q (some [D.v (vSs S)])/\Q (some [D.v (vSs S)])/\Q (some [D.v (vSs S)])/\Q (some [D.v (vSs S)])/\Q (some [D.v (vSs S)])/\True)/\(Q (some [D.v (vSs S)])/\Q (some [D.v (vSs S)])/\Q (some [D.v (vSs S)])/\Q (some [D.v (vSs S)])/\Q (some [D.v (vSs S)])/\Q (some [D.v (vSs S)])/\Q (some [D.v (vSs S)])/\Q (some [D.v (vSs S)])/\Q (some [D.v (vSs S)])/\Q (some [D.v (vSs S)])/\Q (some [D.v (vSs S)])/\True)/\True)/\Q (map Ah rs)/\Ax (length (map Ah rs)+length (V.agg (V.str nm::V.int IntKind.i64 f::V.int IntKind.i64 t::vIs nd::vIs gv::V.list nV::V.int IntKind.i64 0::V.int IntKind.i64 0::V.int IntKind.i64 0::V.list nV::V.list nV::V.list nV::V.list nV::V.int IntKind.i64 0::nV)::nV)) 232/\di (wrap IntKind.i64 ((k:Int)+1))=di (↑(k+1):Int)/\[some (cDz l a5),some zM,some [di 1,D.v (vSs S),D.v (vSs Pl),dn,dn,di 0,di 0,D.acc 2 (map Ah rs++V.agg (V.str nm::vi f::vi t::vIs nd::vIs gv::V.list nV::vi 0::vi 0::vi 0::V.list nV::V.list nV::V.list nV::V.list nV::vi 0::nV)::nV),di 0,dn]]=[some (cDz l a5),some zM,some (cM S Pl (rs++[mkR nm f t nd gv]))]/\[(2,14,map Ah rs++V.agg (V.str nm::vi f::vi t::vIs nd::vIs gv::V.list nV::vi 0::vi 0::vi 0::V.list nV::V.list nV::V.list nV::V.list nV::vi 0::nV)::nV)]=[(2,14,map Ah (rs++[mkR nm f t nd gv]))]/\I0 S7 1 (Ad m) (dz l a') [kl FN [1,1,1,0,1,0,0],KI.blk 0,kc FN [1,1,1,1]] (mkE 85 [(0,D.ptr 0 0),(1,db false),(4,D.ptr 1 0),(5,D.ptr 2 0),(6,di (Pl.length:Int)),(7,di (↑(k+1):Int))]) (stC l a5 S Pl (rs++[mkR nm f t nd gv]))) ?_
  rw[show((S.map V.str).length:Int)=(S.length:Int) by rw[Hw]]
  refine⟨h4,?_,by omega,BA hnm,f4,f4,rfl,t4,t4,rfl,n4,n4,rfl,g4,g4,rfl,rfl,by simp,rfl,⟨?_,?_⟩,Ae (by omega),?_,?_,⟨m3⟩⟩
  ·rw[Ai (by omega) (by omega)];exact Hz hk
  ·simp only[Hw,H3,H7];omega
  ·simp only[Hw,H3,H7];omega
  ·show _=[some (cDz l a5),some zM,some [di 1,.v (vSs S),.v (vSs Pl),.v .nils,.v .nils,di 0,di 0,.acc 2 ((rs++[mkR nm f t nd gv]).map Ah),di 0,.v .nils]]
   rw[←AC];rfl
  ·rw[←AC];rfl
 ·obtain⟨ys,a2,y1,y2,y3,y4⟩:=Ea l hl a1 h3 Pl.length (by omega) 3 (by decide) (by decide)
  obtain⟨c,hc⟩:∃c,c=El 0 ys:=⟨_,rfl⟩
  refine⟨⟨1,S,Pl,[],[],0,0,rs,c⟩,a2,⟨rfl,hS,hP,rfl,rfl,rfl,rfl,by show rs.length<=3;omega,by show 1<=rs.length;omega,hR,ys,y2,y3,hc⟩,y1,?_⟩
  refine lv 85 [] (.c1 (cDz l a1) (di r)<|.f<|.c1 (cDz l a2) (dIs ys)<|.c (dV c) .r) (Aa PP 18 [D.ptr 0 0,di 3] (dz l a) (di r) (dz l a1)/\decide ((k:Int)<wrap IntKind.i64 (1+r))=false/\Aa PP 36 [D.ptr 0 0,di (Pl.length:Int),di 3] (dz l a1) (dIs ys) (dz l a2)/\F0 37 [di 0,dIs ys] (dV c)/\Q [some (cDz l a2)]/\D.v (V.agg [vi 1,V.list (map V.str S),V.list (map V.str Pl),V.list [],V.list [],vi 0,vi 0,V.list (map Ah rs),vi c.n,V.list (map eV c.kids)])=Ad (Mod.mk 1 S Pl [] [] 0 0 rs c)) ?_
  refine⟨h4,?_,y4,hc▸Gj ys (by omega) 0,rfl,rfl⟩
  rw[Ai (by omega) (by omega)];exact H1 hk
theorem ZM(l:List UInt8)(hl:l.length<=200)(a:Nat)(ha:a<=l.length):
  ∃(m:Mod) (a':Nat),Tm m/\a'<=l.length/\Aa PP 19 [.ptr 0 0,db false] (dz l a) (Ad m) (dz l a'):=by
 obtain⟨r1,a1,h1,h2,h3,h4⟩:=Al l hl a ha 2 (by decide) (by decide)
 obtain⟨r2,a2,h5,h6,h7,h8⟩:=Al l hl a1 h3 2 (by decide) (by decide)
 obtain⟨S,hS,hS2⟩:∃S:List (List UInt8),(S=[[97]]∨S=[[97],[98]])/\(r1=0/\S=[[97]]∨r1=1/\S=[[97],[98]]):=by
  rcases(show r1=0∨r1=1 by omega) with h|h
  ·exact⟨_,.inl rfl,.inl ⟨h,rfl⟩⟩
  ·exact⟨_,.inr rfl,.inr ⟨h,rfl⟩⟩
 obtain⟨Pl,hP,hP2⟩:∃S:List (List UInt8),(S=[[120]]∨S=[[120],[121]])/\(r2=0/\S=[[120]]∨r2=1/\S=[[120],[121]]):=by
  rcases(show r2=0∨r2=1 by omega) with h|h
  ·exact⟨_,.inl rfl,.inl ⟨h,rfl⟩⟩
  ·exact⟨_,.inr rfl,.inr ⟨h,rfl⟩⟩
 obtain⟨m,a',m1,m2,m3⟩:=V0 l hl S Pl hS hP _ 0 a2 [] rfl h7 (by omega) rfl (fun i r h=>by simp at h)
 refine⟨m,a',m1,m2,?_⟩
 refine sv S7 85 [] (.h (.dr 11)<|.c1 (cDz l a1) (di r1)<|.c1 (cDz l a2) (di r2)<|.h .rn<|.h (.q 3 0)<|.h (.cl 2 7 2 14)<|.ls [ke 0,ke 1,ke 4,ke 5,ch 6 (di Pl.length),ch 7 (di (0:Nat))] (stC l a2 S Pl [])) (Aa PP 18 [D.ptr 0 0,di 2] (dz l a) (di r1) (dz l a1)/\Aa PP 18 [D.ptr 0 0,di 2] (dz l a) (di r1) (dz l a1)/\Q (di r1)/\(∀(x:V),x∈ [V.str (ByteArray.mk #[97]).data.toList,V.str (ByteArray.mk #[98]).data.toList]->V.size x=1)/\0<=(fun x=>x.snd) (IntKind.i64,wrap IntKind.i64 (1+r1))/\(fun x=>x.snd) (IntKind.i64,wrap IntKind.i64 (1+r1))<=(↑(length [V.str (ByteArray.mk #[97]).data.toList,V.str (ByteArray.mk #[98]).data.toList]):Int)/\Aa PP 18 [D.ptr 0 0,di 2] (dz l a1) (di r2) (dz l a2)/\Aa PP 18 [D.ptr 0 0,di 2] (dz l a1) (di r2) (dz l a2)/\Q (di r2)/\(∀(x:V),x∈ [V.str (ByteArray.mk #[120]).data.toList,V.str (ByteArray.mk #[121]).data.toList]->V.size x=1)/\0<=(fun x=>x.snd) (IntKind.i64,wrap IntKind.i64 (1+r2))/\(fun x=>x.snd) (IntKind.i64,wrap IntKind.i64 (1+r2))<=(↑(length [V.str (ByteArray.mk #[120]).data.toList,V.str (ByteArray.mk #[121]).data.toList]):Int)/\Q [St.mk [some (cDz l a),some zMl,some zMl] [],St.mk [some (cDz l a1),some zMl,some zMl] [],St.mk [some (cDz l a2),some zMl,some zMl] []]/\True/\di (length (List.drop 0 (take (Int.toNat ((fun x=>x.snd) (IntKind.i64,wrap IntKind.i64 (1+r2)))) (V.str (ByteArray.mk #[120]).data.toList::V.str (ByteArray.mk #[121]).data.toList::nV))):Int)=di (Pl.length:Int)/\di 0=di (↑0:Int)/\[some (cDz l a2),some zMl,some [di 1,D.v (V.list (List.drop 0 (take (Int.toNat ((fun x=>x.snd) (IntKind.i64,wrap IntKind.i64 (1+r1)))) (V.str (ByteArray.mk #[97]).data.toList::V.str (ByteArray.mk #[98]).data.toList::nV)))),D.v (V.list (List.drop 0 (take (Int.toNat ((fun x=>x.snd) (IntKind.i64,wrap IntKind.i64 (1+r2)))) (V.str (ByteArray.mk #[120]).data.toList::V.str (ByteArray.mk #[121]).data.toList::nV)))),dn,dn,di 0,di 0,D.acc 2 nV,di 0,dn]]=[some (cDz l a2),some zM,some (cM S Pl [])]/\Q [(2,14,nV)]/\I0 S7 (length (dz l a).H) (Ad m) (dz l a') [kl FN [1,1,1,0,1,0,0],KI.blk 0,kc FN [1,1,1,1]] (mkE 85 [(0,D.ptr 0 0),(1,db false),(4,D.ptr 1 0),(5,D.ptr 2 0),(6,di (Pl.length:Int)),(7,di (↑0:Int))]) (stC l a2 S Pl [])) ?_
 refine⟨h4,h4,rfl,by simp[V.size],?_,?_,h8,h8,rfl,by simp[V.size],?_,?_,rfl,trivial,?_,rfl,?_,rfl,⟨m3⟩⟩
 ·show 0<=IntKind.i64.wrap (1+r1);rw[Ai (by omega) (by omega)];omega
 ·show IntKind.i64.wrap (1+r1)<=2;rw[Ai (by omega) (by omega)];omega
 ·show 0<=IntKind.i64.wrap (1+r2);rw[Ai (by omega) (by omega)];omega
 ·show IntKind.i64.wrap (1+r2)<=2;rw[Ai (by omega) (by omega)];omega
 ·rcases hP2 with⟨rfl,rfl⟩|⟨rfl,rfl⟩<;>rfl
 ·rcases hS2 with⟨rfl,rfl⟩|⟨rfl,rfl⟩<;>rcases hP2 with⟨rfl,rfl⟩|⟨rfl,rfl⟩<;>rfl
theorem X9{rs:List Rul}(h3:rs.length<=3){ns np:Nat}(h:∀k r,rs[k]?=some r->VH ns np k r):rs.map Rul.name=dl3.take rs.length:=by
 apply List.ext_getElem?
 intro i
 by_cases hi:i<rs.length
 ·have hx:rs[i]?=some rs[i]:=Hx hi
  rw[Ic,hx,List.getElem?_take_of_lt hi,(h i _ hx).name];rfl
 ·rw[Ik (by simp;omega),Ik (by simp;omega)]
theorem T5(ys:List Int)(n:Nat)(h:ys.length=n)(h0:∀x∈ys,0<=x/\x<=1048576):BV (replicate n .nat) (ys.map fun x=>Val.mk x [])=true:=by
 induction n generalizing ys with
 |zero=>cases ys with
  |nil=>rfl
  |cons y ys=>simp at h
 |succ n ih=>cases ys with
  |nil=>simp at h
  |cons y ys=>
   have:=h0 y (by simp)
   simp only[Iq,HO,BV,Ao,Hy,H8,HX]
   exact⟨⟨this.1,this.2,rfl⟩,ih ys (by simpa using h) fun x hx=>h0 x (by simp[hx])⟩
theorem Lu(ys:List Int):Val.sizes (ys.map fun x=>Val.mk x [])=ys.length:=by
 induction ys with
 |nil=>rfl
 |cons y ys ih=>simp only[HO,Val.sizes,ih,H3,Val.size];omega
theorem Ez(s:Int)(ys:List Int):(El s ys).size=2+ys.length:=by
 simp only[El,Val.size,Val.sizes,Lu];omega
theorem J3(m:Mod)(hk:m.kind=1)(hpl:m.places.length<=100)(s:Int)(hs:0<=s/\s<m.states.length)(ys:List Int)(hy:ys.length=m.places.length)(h:∀x∈ys,0<=x/\x<=1048576):Ak (AL m) (El s ys)=true:=by
 rw[Ak,Hz (by rw[Ez];omega),HV,AL,show Dh m=.nat by simp[Dh,hk]]
 simp only[Ao,El,Val.n,Val.kids,BV,Ca,Hy,H8,HX]
 refine⟨?_,by simp[hy],⟨Hz hs.1,Hz hs.2,by rfl⟩,T5 ys _ hy h⟩
 first|trivial|rfl
theorem Tm.ok{m:Mod}(h:Tm m):m.ok:=by
 have hst:1<=m.states.length/\m.states.length<=2:=by rcases h.states with e|e<;>rw[e]<;>decide
 have hpl:1<=m.places.length/\m.places.length<=2:=by rcases h.places with e|e<;>rw[e]<;>decide
 have hb:∀{x a b:Int},a<=x->x<=b->An x a b=true:=fun h1 h2=>by simp[An,h1,h2]
 have hget:∀r∈m.rules,VH m.states.length m.places.length (m.rules.idxOf r) r:=fun r hr=>by
  have hi:=List.idxOf_lt_length_of_mem hr
  exact h.rules _ r (by rw[Hx hi,List.getElem_idxOf])
 have hc:=h.count
 refine⟨.inl h.kind,?_,?_,?_,?_,?_,?_,?_⟩
 ·simp only[B3,Fo,HJ h.kind,Hy,H8,h.letters,h.levels,h.age]
  exact⟨hb (by omega) (by omega),by omega,hb (by omega) (by omega),by decide,by decide,by decide⟩
 ·rw[AN,HJ (by rw[h.kind];rfl),h.ranks];rfl
 ·have hn:=X9 h.count h.rules
  rw[Cu,Dp,hn,Bz,h.letters]
  have:m.rules.length=0∨m.rules.length=1∨m.rules.length=2∨m.rules.length=3:=by omega
  rcases h.states with e|e<;>rcases h.places with e'|e'<;>rcases this with e2|e2|e2|e2<;>rw[e,e',e2]<;>decide
 ·intro r hr
  have hm:=hget r hr
  have h1:=hm.need.1
  have h2:=hm.give.1
  rw[hm.rest]
  exact⟨by show r.need.length<=_;omega,by show r.give.length<=_;omega,HW _,HW _,HW _,HW _,HW _⟩
 ·intro r hr
  have hm:=hget r hr
  obtain⟨f1,f2⟩:=hm.frm
  obtain⟨t1,t2⟩:=hm.to
  obtain⟨n1,n2⟩:=hm.need
  obtain⟨g1,g2⟩:=hm.give
  have hr:=hm.rest
  generalize r.name=nm at hr
  generalize r.frm=f at*
  generalize r.to=t at*
  generalize r.need=nd at*
  generalize r.give=gv at*
  subst hr
  rw[Dl,HJ h.kind]
  simp only[CR,AY,Cw,B0,LM,mkR,Hy,Ii,HX,H8,HZ,true_and,H7]
  refine⟨hb (by omega) (by omega),hb (by omega) (by omega),⟨by omega,by omega,fun x hx=>hb (n2 x hx).1 (by have:=(n2 x hx).2;omega),fun x hx=>hb (g2 x hx).1 (by have:=(g2 x hx).2;omega)⟩,?_⟩
  simp
 ·obtain⟨ys,y1,y2,y3⟩:=h.start
  rw[y3]
  exact J3 m h.kind (by omega) 0 ⟨by omega,by omega⟩ ys y1 fun x hx=>by have:=y2 x hx;omega
 ·obtain⟨ys,y1,y2,y3⟩:=h.start
  rw[y3,Ez];omega
end Go.Proofs.YtpmahmngmgnnbaaGreatDoor

namespace Go.Nv
open Go.Dv
open Go.IntKind (wrap)
section
variable {C : Ent -> Ent -> Prop} {P : Program} {R : List D -> St -> Prop} {k : List KI} {env : List D} {σ : St} {ops : Array Oper} {L : List Oper} {o : Oper}
end
section
variable {P : Program} {R : List D -> St -> Prop} {k : List KI} {nt : Nat} {E : List (Nat × D)} {σ : St} {ops : Array Oper} {L0 : List Oper} {C : Ent -> Ent -> Prop}
end
section
variable {P : Program} {fn : Func} {d : D} {σ' : St} {m : Nat} {k : List KI} {E : List (Nat × D)} {σ : St}
theorem YR(hm:P.follows .mixedOrders=true)(nt:Nat)(im:List Nat)(rg i:Nat){ops:Array Oper}{L:List Oper}(s:Sc)
  (h:AH (mkE nt E) fun env=>PN P im rg ops (fun L sl σ=>It (AK (CN m) P (fun env σ1=>A2 P fn env σ1 d σ') (k++[]) ops L (mkE nt sl) σ)) L i s env σ fun s env σ=>vc (CN m) m P (fun env σ1=>A2 P fn env σ1 d σ') (Q4 P fn.results.toList d σ') nt im [] 10000 s k env σ):
  AK (CN m) P (fun env σ1=>A2 P fn env σ1 d σ') k ops L (mkE nt E) σ:=by
 have:=F7 hm (MV m) m (fun _ _ h=>h.2) nt im rg i s h
 rwa[Il] at this
end
theorem GP{σ:St}{q:Nat}{cs cs':List D}(hq:σ.H[q]?=some (some cs))(h:∀(g:Gh) (us:List Value),Ab g cs us->Ab g cs' us)(h1:(∀c∈cs,c.one=true)->∀c∈cs',c.one=true)(e:List D):Cv e σ e ⟨σ.H.set q (some cs'),σ.own⟩:=fun E g a w hf=>by
 refine⟨g,?_,hf.env,hf.defers⟩
 have hw:=hf.wi
 obtain⟨us,rest,et,hb,hr,h2,hM,hκ⟩:=hw.rep.obj q cs hq
 exact hw.setObj hq hb hκ (h g us hr) (h1 h2) (fun _ _=>rfl) rfl rfl rfl rfl
end Go.Nv

namespace Go.Proofs.YtpmahmngmgnnbaaGreatDoor
open Go.Dv Go.Nv
set_option maxRecDepth 20000
open List (length map take)
open Go.IntKind (wrap)
def DN(L:Int)(v:Val):Prop:=∃ks:List Int,ks.length<=2/\(∀x∈ks,0<=x/\x<L)/\v=.mk 0 (ks.map fun x=>.mk x [])
theorem DN.size{L:Int}{v:Val}(h:DN L v):v.size<=3:=by
 obtain⟨ks,h1,_,rfl⟩:=h
 simp only[Val.size,Lu];omega
theorem SI{H:List (Option (List D))}{own:List (Nat×Nat×List V)}{q tag:Nat}{xs:List V}(hq:H[q]?=some (some [di 0,.acc tag xs]))(e:List D):Cv e ⟨H,own⟩ e ⟨H.set q (some [di 0,dl xs]),own⟩:=
 GP (σ:=⟨H,own⟩) (q:=q) hq (fun g us hr=>by
  have:=D6 (ts:=[]) (kn:=false) hr
  exact this) (fun _ x hx=>by
  simp only[Ib,IM,or_false] at hx
  rcases hx with rfl|rfl<;>rfl) e
theorem Vy{H:List (Option (List D))}{own:List (Nat×Nat×List V)}{q:Nat}(hq:H[q]?=some (some [di 0,.v .nils]))(e:List D):Cv e ⟨H,own⟩ e ⟨H.set q (some [di 0,dl []]),own⟩:=
 GP (σ:=⟨H,own⟩) (q:=q) hq (fun g us hr=>by
  have:=D6 (ts:=[]) (kn:=false) hr
  exact this) (fun _ x hx=>by
  simp only[Ib,IM,or_false] at hx
  rcases hx with rfl|rfl<;>rfl) e
theorem FG(os:List Val)(v:Val):os.map eV++[Ag v]=(os++[v]).map eV:=by rw[←Cb];simp
noncomputable abbrev XI:Func:= Tryz.f38
noncomputable def Tt:Code:=XI.body.getD .skip
abbrev stW(l:List UInt8)(a:Nat)(os:List Val):St:=⟨[some (cDz l a)],[(1,2,os.map eV)]⟩
theorem T1(l:List UInt8)(hl:l.length<=200)(n:Nat)(hn:n<=100)(L:Int)(hL:1<=L)(hL2:L<=100)(N:Nat):∀(k a:Nat) (os:List Val),n-k=N->k<=n->a<=l.length->os.length=k->(∀y∈os,DN L y)->
  ∃(ys:List Val) (a':Nat),a'<=l.length/\ys.length=n/\(∀y∈ys,DN L y)/\
  Rn PP XI 1 (dVs ys) (dz l a') ([.lp (sub Tt [1,1,0,1,0,0]),.blk 0,.code (sub Tt [1,1,1])]++[]) (mkE 40 [(0,.ptr 0 0),(1,di n),(2,di L),(3,di 2),(9,.acc 1 (os.map eV)),(10,di k)]) (stW l a os):=by
 induction N with
 |zero=>
  intro k a os hk hk0 ha hx hos
  refine⟨os,a,ha,by omega,hos,?_⟩
  refine lv 40 [] (.f .r) (decide ((k:Int)<(n:Int))=false/\Q [some (cDz l a)]/\D.v (V.list (map eV os))=dVs os) ?_
  exact⟨H1 (by omega),rfl,rfl⟩
 |succ N ih=>
  intro k a os hk hk0 ha hx hos
  obtain⟨r,a1,h1,h2,h3,h4⟩:=Al l hl a ha 3 (by decide) (by decide)
  have hmem:∀(w:Val),DN L w->∀y∈os++[w],DN L y:=fun w hw y hy=>by
   rcases Ij.1 hy with hy|hy
   ·exact hos y hy
   ·rw[HE.1 hy];exact hw
  have hkn:decide ((k:Int)<n)=true:=Hz (by omega)
  rcases(show r=0∨r=1∨r=2 by omega) with rfl|rfl|rfl
  ·obtain⟨w,hw⟩:∃w:Val,w=.mk 0 []:=⟨_,rfl⟩
   obtain⟨ys,a',y1,y2,y3,y4⟩:=ih (k+1) a1 (os++[w]) (by omega) (by omega) h3 (by simp[hx]) (hmem _ ⟨[],by simp,by simp,hw⟩)
   refine⟨ys,a',y1,y2,y3,?_⟩
   refine lv 40 [] (.t<|.c1 (cDz l a1) (di 0)<|.n<|.h (.q 10 1)<|.h (.cs ⟨[some (cDz l a1),some [di 0,dl []]],[(1,2,os.map eV)]⟩)<|.ls [ke 0,ke 1,ke 2,ke 3,ch 9 (.acc 1 ((os++[w]).map eV)),ch 10 (di (k+1:Nat))] (stW l a1 (os++[w]))) (decide ((k:Int)<(n:Int))=true/\Aa PP 18 [D.ptr 0 0,di (wrap IntKind.i64 (2+1))] (dz l a) (di 0) (dz l a1)/\(∀(e:List D) (E:Ent) (g:Gh) (a:Act) (w:World),FI E g (St.mk [some (cDz l a1),some [D.v (V.int IntKind.i64 0),dn]] [(1,2,map eV os)]) e a w->∃g',FI E g' (St.mk [some (cDz l a1),some [di 0,dl []]] [(1,2,map eV os)]) e a w)/\Q (map eV os)/\Ax (length (map eV os)+length (V.agg (V.int IntKind.i64 0::V.list nV::nV)::nV)) 32/\D.acc 1 (map eV os++[V.agg [vi 0,V.list []]])=D.acc 1 (map eV (os++[w]))/\di (wrap IntKind.i64 ((k:Int)+1))=di (↑(k+1):Int)/\Q [some (cDz l a1)]/\[(1,2,map eV os++V.agg (vi 0::V.list nV::nV)::nV)]=[(1,2,map eV (os++[w]))]/\I0 XI 1 (dVs ys) (dz l a') [kl Tt [1,1,0,1,0,0],KI.blk 0,kc Tt [1,1,1]] (mkE 40 [(0,D.ptr 0 0),(1,di (n:Int)),(2,di L),(3,di 2),(9,D.acc 1 (map eV (os++[w]))),(10,di (↑(k+1):Int))]) (stW l a1 (os++[w]))) ?_
   have hv:V.agg [vi 0,.list []]=Ag w:=by rw[hw];rfl
   rw[show IntKind.i64.wrap (2+1)=3 from by decide]
   repeat' first|with_reducible refine And.intro ?_ ?_
   all_goals first|exact hkn|exact h4|exact Ae (by omega)|exact⟨y4⟩|(simp only[Hw,H3,H7];omega)|rfl|trivial|skip
   ·exact fun e=>Vy (H:=[some (cDz l a1),some [di 0,.v .nils]]) (own:=[(1,2,os.map eV)]) (q:=1) rfl e
   ·exact HL (D.acc 1) ((HL (fun z=>os.map eV++[z]) hv).trans (FG os w))
   ·exact HL (fun z=>[(1,2,z)]) ((HL (fun z=>os.map eV++[z]) hv).trans (FG os w))
  ·obtain⟨x1,a2,x11,x12,x13,x14⟩:=Al l hl a1 h3 L hL (by omega)
   obtain⟨w,hw⟩:∃w:Val,w=.mk 0 [.mk x1 []]:=⟨_,rfl⟩
   obtain⟨ys,a',y1,y2,y3,y4⟩:=ih (k+1) a2 (os++[w]) (by omega) (by omega) x13 (by simp[hx]) (hmem _ ⟨[x1],by simp,by simp[x11,x12],hw⟩)
   refine⟨ys,a',y1,y2,y3,?_⟩
   refine lv 40 [] (.t<|.c1 (cDz l a1) (di 1)<|.h (.q 6 4)<|.h (.cl 1 1 2 2)<|.n<|.m (.acc 2 [])<|.c1 (cDz l a2) (di x1)<|.n<|.h (.q 10 1)<|.h (.cs ⟨[some (cDz l a2),some [di 0,dl [eV (.mk x1 [])]]],[(2,2,[eV (.mk x1 [])]),(1,2,os.map eV)]⟩)<|.ls [ke 0,ke 1,ke 2,ke 3,ch 9 (.acc 1 ((os++[w]).map eV)),ch 10 (di (k+1:Nat))] (stW l a2 (os++[w]))) (decide ((k:Int)<(n:Int))=true/\Aa PP 18 [D.ptr 0 0,di (wrap IntKind.i64 (2+1))] (dz l a) (di 1) (dz l a1)/\Q (some (D.acc 2 []))/\Aa PP 18 [D.ptr 0 0,di L] (dz l a1) (di x1) (dz l a2)/\Q nV/\Ax 1 32/\((Q (some [D.acc 2 []])/\True)/\True)/\(∀(e:List D) (E:Ent) (g:Gh) (a:Act) (w:World),FI E g (St.mk [some (cDz l a2),some [D.v (V.int IntKind.i64 0),D.acc 2 ([]++[V.agg [V.int IntKind.i64 x1,V.list []]])]] [(2,2,[]++[V.agg [V.int IntKind.i64 x1,V.list []]]),(1,2,map eV os)]) e a w->∃g',FI E g' (St.mk [some (cDz l a2),some [di 0,dl [eV (Val.mk x1 [])]]] [(2,2,[eV (Val.mk x1 [])]),(1,2,map eV os)]) e a w)/\Q (map eV os)/\Ax (length (map eV os)+length (V.agg (V.int IntKind.i64 0::V.list (eV (Val.mk x1 [])::nV)::nV)::nV)) 32/\D.acc 1 (map eV os++[V.agg [vi 0,V.list [eV (Val.mk x1 [])]]])=D.acc 1 (map eV (os++[w]))/\di (wrap IntKind.i64 ((k:Int)+1))=di (↑(k+1):Int)/\Q [some (cDz l a2)]/\[(1,2,map eV os++V.agg (vi 0::V.list (eV (Val.mk x1 [])::nV)::nV)::nV)]=[(1,2,map eV (os++[w]))]/\I0 XI 1 (dVs ys) (dz l a') [kl Tt [1,1,0,1,0,0],KI.blk 0,kc Tt [1,1,1]] (mkE 40 [(0,D.ptr 0 0),(1,di (n:Int)),(2,di L),(3,di 2),(9,D.acc 1 (map eV (os++[w]))),(10,di (↑(k+1):Int))]) (stW l a2 (os++[w]))) ?_
   have hv:V.agg [vi 0,.list [eV (.mk x1 [])]]=Ag w:=by rw[hw];rfl
   rw[show IntKind.i64.wrap (2+1)=3 from by decide]
   repeat' first|with_reducible refine And.intro ?_ ?_
   all_goals first|exact hkn|exact h4|exact x14|exact Sq (by decide) (by decide)|exact⟨by decide,by decide⟩|exact Ae (by omega)|exact⟨y4⟩|(simp only[Hw,H3,H7];omega)|rfl|trivial|skip
   ·exact fun e=>SI (H:=[some (cDz l a2),some [di 0,.acc 2 [eV (.mk x1 [])]]]) (own:=[(2,2,[eV (.mk x1 [])]),(1,2,os.map eV)]) (q:=1) rfl e
   ·exact HL (D.acc 1) ((HL (fun z=>os.map eV++[z]) hv).trans (FG os w))
   ·exact HL (fun z=>[(1,2,z)]) ((HL (fun z=>os.map eV++[z]) hv).trans (FG os w))
  ·obtain⟨x1,a2,x11,x12,x13,x14⟩:=Al l hl a1 h3 L hL (by omega)
   obtain⟨x2,a3,x21,x22,x23,x24⟩:=Al l hl a2 x13 L hL (by omega)
   obtain⟨w,hw⟩:∃w:Val,w=.mk 0 [.mk x1 [],.mk x2 []]:=⟨_,rfl⟩
   obtain⟨ys,a',y1,y2,y3,y4⟩:=ih (k+1) a3 (os++[w]) (by omega) (by omega) x23 (by simp[hx]) (hmem _ ⟨[x1,x2],by simp,by simp[x11,x12,x21,x22],hw⟩)
   refine⟨ys,a',y1,y2,y3,?_⟩
   refine lv 40 [] (.t<|.c1 (cDz l a1) (di 2)<|.h (.q 6 4)<|.h (.cl 1 1 2 2)<|.n<|.m (.acc 2 [])<|.c1 (cDz l a2) (di x1)<|.n<|.m (.acc 2 [eV (.mk x1 [])])<|.c1 (cDz l a3) (di x2)<|.n<|.h (.q 10 1)<|.h (.cs ⟨[some (cDz l a3),some [di 0,dl [eV (.mk x1 []),eV (.mk x2 [])]]],[(2,2,[eV (.mk x1 []),eV (.mk x2 [])]),(1,2,os.map eV)]⟩)<|.ls [ke 0,ke 1,ke 2,ke 3,ch 9 (.acc 1 ((os++[w]).map eV)),ch 10 (di (k+1:Nat))] (stW l a3 (os++[w]))) (decide ((k:Int)<(n:Int))=true/\Aa PP 18 [D.ptr 0 0,di (wrap IntKind.i64 (2+1))] (dz l a) (di 2) (dz l a1)/\Q (some (D.acc 2 []))/\Aa PP 18 [D.ptr 0 0,di L] (dz l a1) (di x1) (dz l a2)/\Q nV/\Ax 1 32/\((Q (some [D.acc 2 []])/\True)/\True)/\some (D.acc 2 [V.agg [vi x1,V.list []]])=some (D.acc 2 [eV (Val.mk x1 [])])/\Aa PP 18 [D.ptr 0 0,di L] (dz l a2) (di x2) (dz l a3)/\V.agg (vi x1::V.list nV::nV)::nV=eV (Val.mk x1 [])::nV/\Ax 2 32/\((Q (some [D.acc 2 [V.agg [vi x1,V.list []]]])/\True)/\True)/\(∀(e:List D) (E:Ent) (g:Gh) (a:Act) (w:World),FI E g (St.mk [some (cDz l a3),some [D.v (V.int IntKind.i64 0),D.acc 2 ([eV (Val.mk x1 [])]++[V.agg [V.int IntKind.i64 x2,V.list []]])]] [(2,2,[eV (Val.mk x1 [])]++[V.agg [V.int IntKind.i64 x2,V.list []]]),(1,2,map eV os)]) e a w->∃g',FI E g' (St.mk [some (cDz l a3),some [di 0,dl [eV (Val.mk x1 []),eV (Val.mk x2 [])]]] [(2,2,[eV (Val.mk x1 []),eV (Val.mk x2 [])]),(1,2,map eV os)]) e a w)/\Q (map eV os)/\Ax (length (map eV os)+length (V.agg (V.int IntKind.i64 0::V.list (eV (Val.mk x1 [])::eV (Val.mk x2 [])::nV)::nV)::nV)) 32/\D.acc 1 (map eV os++[V.agg [vi 0,V.list [eV (Val.mk x1 []),eV (Val.mk x2 [])]]])=D.acc 1 (map eV (os++[w]))/\di (wrap IntKind.i64 ((k:Int)+1))=di (↑(k+1):Int)/\Q [some (cDz l a3)]/\[(1,2,map eV os++V.agg (vi 0::V.list (eV (Val.mk x1 [])::eV (Val.mk x2 [])::nV)::nV)::nV)]=[(1,2,map eV (os++[w]))]/\I0 XI 1 (dVs ys) (dz l a') [kl Tt [1,1,0,1,0,0],KI.blk 0,kc Tt [1,1,1]] (mkE 40 [(0,D.ptr 0 0),(1,di (n:Int)),(2,di L),(3,di 2),(9,D.acc 1 (map eV (os++[w]))),(10,di (↑(k+1):Int))]) (stW l a3 (os++[w]))) ?_
   have hv:V.agg [vi 0,.list [eV (.mk x1 []),eV (.mk x2 [])]]=Ag w:=by rw[hw];rfl
   rw[show IntKind.i64.wrap (2+1)=3 from by decide]
   repeat' first|with_reducible refine And.intro ?_ ?_
   all_goals first|exact hkn|exact h4|exact x14|exact x24|exact Sq (by decide) (by decide)|exact⟨by decide,by decide⟩|exact Ae (by omega)|exact⟨y4⟩|(simp only[Hw,H3,H7];omega)|rfl|trivial|skip
   ·exact fun e=>SI (H:=[some (cDz l a3),some [di 0,.acc 2 [eV (.mk x1 []),eV (.mk x2 [])]]]) (own:=[(2,2,[eV (.mk x1 []),eV (.mk x2 [])]),(1,2,os.map eV)]) (q:=1) rfl e
   ·exact HL (D.acc 1) ((HL (fun z=>os.map eV++[z]) hv).trans (FG os w))
   ·exact HL (fun z=>[(1,2,z)]) ((HL (fun z=>os.map eV++[z]) hv).trans (FG os w))
theorem VJ(l:List UInt8)(hl:l.length<=200)(a:Nat)(ha:a<=l.length)(n:Nat)(hn:n<=100)(L:Int)(hL:1<=L)(hL2:L<=100):
  ∃(ys:List Val) (a':Nat),a'<=l.length/\ys.length=n/\(∀y∈ys,DN L y)/\Aa PP 38 [.ptr 0 0,di n,di L,di 2] (dz l a) (dVs ys) (dz l a'):=by
 obtain⟨ys,a',h1,h2,h3,h4⟩:=T1 l hl n hn L hL hL2 _ 0 a [] rfl (by omega) ha rfl (by simp)
 refine⟨ys,a',h1,h2,h3,?_⟩
 refine sv XI 40 [] (.h (.q 2 0)<|.h (.nw 9 1 2)<|.ls [ke 0,ke 1,ke 2,ke 3,ke 9,ch 10 (di (0:Nat))] (stW l a [])) (di 0=di (↑0:Int)/\Q [some (cDz l a)]/\Q [(1,2,nV)]/\I0 XI (length (dz l a).H) (dVs ys) (dz l a') [kl Tt [1,1,0,1,0,0],KI.blk 0,kc Tt [1,1,1]] (mkE 40 [(0,D.ptr 0 0),(1,di (n:Int)),(2,di L),(3,di 2),(9,D.acc 1 []),(10,di (↑0:Int))]) (stW l a [])) ?_
 exact⟨rfl,rfl,rfl,⟨h4⟩⟩
abbrev dl4:List (List UInt8):=[[114],[115],[116],[117]]
def mkL(nm:List UInt8)(f t ch ac le:Int):Rul:=⟨nm,f,t,[],[],[],ch,ac,le,[],[],[],[],0⟩
abbrev lM(K:Int)(S Pl Le:List (List UInt8))(rk:List Int)(rs:List Rul):List D:=[di K,.v (vSs S),.v (vSs Pl),.v (vSs Le),.v (vIs rk),di 0,di 0,.acc 2 (rs.map Ah),di 0,dl []]
abbrev stL(l:List UInt8)(a:Nat)(K:Int)(S Pl Le:List (List UInt8))(rk:List Int)(rs:List Rul):St:=⟨[some (cDz l a),some zM,some (lM K S Pl Le rk rs)],[(2,14,rs.map Ah)]⟩
structure Kr(ns np nl:Nat)(k:Nat)(r:Rul):Prop where
 name:dl4[k]?=some r.name
 frm:0<=r.frm/\r.frm<ns
 to:0<=r.to/\r.to<ns
 act:r.act=0/\r.chan=0/\r.letter=0∨(1<=r.act/\r.act<=2)/\(0<=r.chan/\r.chan<np)/\(0<=r.letter/\r.letter<nl)
 rest:r=mkL r.name r.frm r.to r.chan r.act r.letter
structure PM(K:Int)(m:Mod):Prop where
 kind:m.kind=K
 states:∃n:Nat,1<=n/\n<=3/\m.states=([[97],[98],[99]]:List (List UInt8)).take n
 places:m.places=[[120]]∨m.places=[[120],[121]]
 letters:m.letters=[[112]]∨m.letters=[[112],[113]]
 ranks:if K=3 then m.ranks.length=m.letters.length/\∀x∈m.ranks,0<=x/\x<=1 else m.ranks=[]
 levels:m.levels=0
 age:m.age=0
 count:m.rules.length<=4
 pos:1<=m.rules.length
 rules:∀k r,m.rules[k]?=some r->Kr m.states.length m.places.length m.letters.length k r
 start:∃ys:List Val,ys.length=m.places.length/\(∀y∈ys,DN m.letters.length y)/\m.start=.mk 0 (.mk 0 []::ys)
theorem Wn{ns np nl:Nat}{rs:List Rul}{k:Nat}{nm:List UInt8}{f t chn ac le:Int}(hnm:dl4[k]?=some nm)(hf:0<=f/\f<ns)(ht:0<=t/\t<ns)(ha:ac=0/\chn=0/\le=0∨(1<=ac/\ac<=2)/\(0<=chn/\chn<np)/\(0<=le/\le<nl))(hrs:rs.length=k)(hR:∀i r,rs[i]?=some r->Kr ns np nl i r):∀i r,(rs++[mkL nm f t chn ac le])[i]?=some r->Kr ns np nl i r:=fun i r hi=>by
 by_cases hik:i<rs.length
 ·rw[HK hik] at hi;exact hR i r hi
 ·rw[HH (by omega)] at hi
  have h1:i-rs.length=0:=by
   have:=(H0.1 hi).1
   simp at this;omega
  rw[h1] at hi
  simp at hi;subst hi
  have hik2:i=k:=by omega
  subst hik2
  exact⟨hnm,hf,ht,ha,rfl⟩
noncomputable abbrev Wy:Func:= Tryz.f20
noncomputable def Tu:Code:=Wy.body.getD .skip
theorem Oq(l:List UInt8)(hl:l.length<=200)(K:Int)(S Pl Le:List (List UInt8))(rk:List Int)(hS:∃n:Nat,1<=n/\n<=3/\S=([[97],[98],[99]]:List (List UInt8)).take n)(hP:Pl=[[120]]∨Pl=[[120],[121]])(hLe:Le=[[112]]∨Le=[[112],[113]])(hrk:if K=3 then rk.length=Le.length/\∀x∈rk,0<=x/\x<=1 else rk=[])(n:Nat):∀(k a:Nat) (rs:List Rul),4-k=n->a<=l.length->k<=4->rs.length=k->(∀i r,rs[i]?=some r->Kr S.length Pl.length Le.length i r)->
  ∃(m:Mod) (a':Nat),PM K m/\a'<=l.length/\Rn PP Wy 1 (Ad m) (dz l a') ([.lp (sub Tu [1,1,1,0,1,0,0]),.blk 0,.code (sub Tu [1,1,1,1])]++[]) (mkE 92 [(0,.ptr 0 0),(4,.ptr 1 0),(5,.ptr 2 0),(6,di k)]) (stL l a K S Pl Le rk rs):=by
 induction n using Nat.strongRecOn with
 |_ n ih=>
 intro k a rs hn ha hk4 hrs hR
 have hSl:1<=S.length/\S.length<=3:=by obtain⟨n,h1,h2,rfl⟩:=hS;rw[HS];simp only[H3,H7];omega
 have hPl:1<=Pl.length/\Pl.length<=2:=by rcases hP with rfl|rfl<;>decide
 have hLl:1<=Le.length/\Le.length<=2:=by rcases hLe with rfl|rfl<;>decide
 have hSm:((S.map V.str).length:Int)=(S.length:Int):=by rw[Hw]
 have hPm:((Pl.map V.str).length:Int)=(Pl.length:Int):=by rw[Hw]
 have hLm:((Le.map V.str).length:Int)=(Le.length:Int):=by rw[Hw]
 obtain⟨r,a1,h1,h2,h3,h4⟩:=Al l hl a ha 4 (by decide) (by decide)
 by_cases hk:(k:Int)<1+r
 ·obtain⟨f,a2,f1,f2,f3,f4⟩:=Al l hl a1 h3 S.length (by omega) (by omega)
  obtain⟨t,a3,t1,t2,t3,t4⟩:=Al l hl a2 f3 S.length (by omega) (by omega)
  obtain⟨ac,a4,c1,c2,c3,c4⟩:=Al l hl a3 t3 3 (by decide) (by decide)
  obtain⟨nm,hnm⟩:∃nm,dl4[k]?=some nm:=⟨_,Hx (show k<dl4.length by show k<4;omega)⟩
  have hkr:decide ((k:Int)<wrap IntKind.i64 (1+r))=true:=by rw[Ai (by omega) (by omega)];exact Hz hk
  by_cases hw:(ac !=0)=true
  ·obtain⟨chn,a5,d1,d2,d3,d4⟩:=Al l hl a4 c3 Pl.length (by omega) (by omega)
   obtain⟨le,a6,e1,e2,e3,e4⟩:=Al l hl a5 d3 Le.length (by omega) (by omega)
   have hac:ac≠0:=by simpa using hw
   obtain⟨m,a',m1,m2,m3⟩:=ih (4- (k+1)) (by omega) (k+1) a6 (rs++[mkL nm f t chn ac le]) rfl e3 (by omega) (by simp[hrs]) (Wn hnm ⟨f1,f2⟩ ⟨t1,t2⟩ (.inr ⟨by omega,⟨d1,d2⟩,⟨e1,e2⟩⟩) hrs hR)
   refine⟨m,a',m1,m2,?_⟩
   refine lv 92 [] (.c1 (cDz l a1) (di r)<|.t<|.h (.dr 17)<|.x (.str nm)<|.c1 (cDz l a2) (di f)<|.c1 (cDz l a3) (di t)<|.c1 (cDz l a4) (di ac)<|.t<|.c1 (cDz l a5) (di chn)<|.c1 (cDz l a6) (di le)<|.ls [ke 0,ke 4,ke 5,ch 6 (di (k+1:Nat))] (stL l a6 K S Pl Le rk (rs++[mkL nm f t chn ac le]))) (Aa PP 18 [D.ptr 0 0,di 4] (dz l a) (di r) (dz l a1)/\decide ((k:Int)<wrap IntKind.i64 (1+r))=true/\0<=(k:Int)/\[V.str (ByteArray.mk #[114]).data.toList,V.str (ByteArray.mk #[115]).data.toList,V.str (ByteArray.mk #[116]).data.toList,V.str (ByteArray.mk #[117]).data.toList][Int.toNat (k:Int)]?=some (V.str nm)/\Aa PP 18 [D.ptr 0 0,di (length (map V.str S):Int)] (dz l a1) (di f) (dz l a2)/\Aa PP 18 [D.ptr 0 0,di (length (map V.str S):Int)] (dz l a1) (di f) (dz l a2)/\Q (di f)/\Aa PP 18 [D.ptr 0 0,di (length (map V.str S):Int)] (dz l a2) (di t) (dz l a3)/\Aa PP 18 [D.ptr 0 0,di (length (map V.str S):Int)] (dz l a2) (di t) (dz l a3)/\Q (di t)/\Aa PP 18 [D.ptr 0 0,di 3] (dz l a3) (di ac) (dz l a4)/\Aa PP 18 [D.ptr 0 0,di 3] (dz l a3) (di ac) (dz l a4)/\Q (di ac)/\Q [St.mk [some (cDz l a1),some zM,some (lM K S Pl Le rk rs),some zRl] [(2,14,map Ah rs)],St.mk [some (cDz l a2),some zM,some (lM K S Pl Le rk rs),some zRl] [(2,14,map Ah rs)],St.mk [some (cDz l a3),some zM,some (lM K S Pl Le rk rs),some zRl] [(2,14,map Ah rs)],St.mk [some (cDz l a4),some zM,some (lM K S Pl Le rk rs),some zRl] [(2,14,map Ah rs)]]/\((Q (some [D.v (vSs S)])/\Q (some [D.v (vSs S)])/\Q (some [D.v (vSs S)])/\Q (some [D.v (vSs S)])/\Q (some [D.v (vSs S)])/\Q (some [D.v (vSs S)])/\Q (some [D.v (vSs S)])/\Q (some [D.v (vSs S)])/\Q (some [D.v (vSs S)])/\True)/\(Q (some [D.v (vSs S)])/\Q (some [D.v (vSs S)])/\Q (some [D.v (vSs S)])/\Q (some [D.v (vSs S)])/\Q (some [D.v (vSs S)])/\Q (some [D.v (vSs S)])/\Q (some [D.v (vSs S)])/\Q (some [D.v (vSs S)])/\Q (some [D.v (vSs S)])/\True)/\True)/\(ac !=0)=true/\Aa PP 18 [D.ptr 0 0,di (length (map V.str Pl):Int)] (dz l a4) (di chn) (dz l a5)/\Aa PP 18 [D.ptr 0 0,di (length (map V.str Le):Int)] (dz l a5) (di le) (dz l a6)/\(True/\(Q (some [D.v (vSs Le)])/\True)/\True)/\Q (map Ah rs)/\Ax (length (map Ah rs)+length (V.agg (V.str nm::V.int IntKind.i64 f::V.int IntKind.i64 t::V.list nV::V.list nV::V.list nV::V.int IntKind.i64 chn::V.int IntKind.i64 ac::V.int IntKind.i64 le::V.list nV::V.list nV::V.list nV::V.list nV::V.int IntKind.i64 0::nV)::nV)) 232/\di (wrap IntKind.i64 ((k:Int)+1))=di (↑(k+1):Int)/\[some (cDz l a6),some zM,some [di K,D.v (vSs S),D.v (vSs Pl),D.v (vSs Le),dIs rk,di 0,di 0,D.acc 2 (map Ah rs++V.agg (V.str nm::vi f::vi t::V.list nV::V.list nV::V.list nV::vi chn::vi ac::vi le::V.list nV::V.list nV::V.list nV::V.list nV::vi 0::nV)::nV),di 0,dl nV]]=[some (cDz l a6),some zM,some (lM K S Pl Le rk (rs++[mkL nm f t chn ac le]))]/\[(2,14,map Ah rs++V.agg (V.str nm::vi f::vi t::V.list nV::V.list nV::V.list nV::vi chn::vi ac::vi le::V.list nV::V.list nV::V.list nV::V.list nV::vi 0::nV)::nV)]=[(2,14,map Ah (rs++[mkL nm f t chn ac le]))]/\I0 Wy 1 (Ad m) (dz l a') [kl Tu [1,1,1,0,1,0,0],KI.blk 0,kc Tu [1,1,1,1]] (mkE 92 [(0,D.ptr 0 0),(4,D.ptr 1 0),(5,D.ptr 2 0),(6,di (↑(k+1):Int))]) (stL l a6 K S Pl Le rk (rs++[mkL nm f t chn ac le]))) ?_
   rw[hSm,hPm,hLm]
   repeat' first|with_reducible refine And.intro ?_ ?_
   all_goals first|exact h4|exact hkr|exact f4|exact t4|exact c4|exact d4|exact e4|exact hw|exact BA hnm|exact⟨m3⟩|exact Ae (by omega)|omega|rfl|trivial|skip
   all_goals first|exact HL (fun z=>[some (cDz l a6),some zM,some [di K,.v (vSs S),.v (vSs Pl),.v (vSs Le),.v (vIs rk),di 0,di 0,.acc 2 z,di 0,dl []]]) (AC rs (mkL nm f t chn ac le))|exact HL (fun z=>[(2,14,z)]) (AC rs (mkL nm f t chn ac le))|(simp only[Hw,H3,H7];omega)
  ·have hac:ac=0:=by simpa using hw
   subst hac
   obtain⟨m,a',m1,m2,m3⟩:=ih (4- (k+1)) (by omega) (k+1) a4 (rs++[mkL nm f t 0 0 0]) rfl c3 (by omega) (by simp[hrs]) (Wn hnm ⟨f1,f2⟩ ⟨t1,t2⟩ (.inl ⟨rfl,rfl,rfl⟩) hrs hR)
   refine⟨m,a',m1,m2,?_⟩
   refine lv 92 [] (.c1 (cDz l a1) (di r)<|.t<|.h (.dr 17)<|.x (.str nm)<|.c1 (cDz l a2) (di f)<|.c1 (cDz l a3) (di t)<|.c1 (cDz l a4) (di 0)<|.k<|.ls [ke 0,ke 4,ke 5,ch 6 (di (k+1:Nat))] (stL l a4 K S Pl Le rk (rs++[mkL nm f t 0 0 0]))) (Aa PP 18 [D.ptr 0 0,di 4] (dz l a) (di r) (dz l a1)/\decide ((k:Int)<wrap IntKind.i64 (1+r))=true/\0<=(k:Int)/\[V.str (ByteArray.mk #[114]).data.toList,V.str (ByteArray.mk #[115]).data.toList,V.str (ByteArray.mk #[116]).data.toList,V.str (ByteArray.mk #[117]).data.toList][Int.toNat (k:Int)]?=some (V.str nm)/\Aa PP 18 [D.ptr 0 0,di (length (map V.str S):Int)] (dz l a1) (di f) (dz l a2)/\Aa PP 18 [D.ptr 0 0,di (length (map V.str S):Int)] (dz l a1) (di f) (dz l a2)/\Q (di f)/\Aa PP 18 [D.ptr 0 0,di (length (map V.str S):Int)] (dz l a2) (di t) (dz l a3)/\Aa PP 18 [D.ptr 0 0,di (length (map V.str S):Int)] (dz l a2) (di t) (dz l a3)/\Q (di t)/\Aa PP 18 [D.ptr 0 0,di 3] (dz l a3) (di 0) (dz l a4)/\Aa PP 18 [D.ptr 0 0,di 3] (dz l a3) (di 0) (dz l a4)/\Q (di 0)/\Q [St.mk [some (cDz l a1),some zM,some (lM K S Pl Le rk rs),some zRl] [(2,14,map Ah rs)],St.mk [some (cDz l a2),some zM,some (lM K S Pl Le rk rs),some zRl] [(2,14,map Ah rs)],St.mk [some (cDz l a3),some zM,some (lM K S Pl Le rk rs),some zRl] [(2,14,map Ah rs)],St.mk [some (cDz l a4),some zM,some (lM K S Pl Le rk rs),some zRl] [(2,14,map Ah rs)]]/\((Q (some [D.v (vSs S)])/\Q (some [D.v (vSs S)])/\Q (some [D.v (vSs S)])/\Q (some [D.v (vSs S)])/\Q (some [D.v (vSs S)])/\Q (some [D.v (vSs S)])/\Q (some [D.v (vSs S)])/\Q (some [D.v (vSs S)])/\Q (some [D.v (vSs S)])/\True)/\(Q (some [D.v (vSs S)])/\Q (some [D.v (vSs S)])/\Q (some [D.v (vSs S)])/\Q (some [D.v (vSs S)])/\Q (some [D.v (vSs S)])/\Q (some [D.v (vSs S)])/\Q (some [D.v (vSs S)])/\Q (some [D.v (vSs S)])/\Q (some [D.v (vSs S)])/\True)/\True)/\Q (map Ah rs)/\Ax (length (map Ah rs)+length (V.agg (V.str nm::V.int IntKind.i64 f::V.int IntKind.i64 t::V.list nV::V.list nV::V.list nV::V.int IntKind.i64 0::V.int IntKind.i64 0::V.int IntKind.i64 0::V.list nV::V.list nV::V.list nV::V.list nV::V.int IntKind.i64 0::nV)::nV)) 232/\di (wrap IntKind.i64 ((k:Int)+1))=di (↑(k+1):Int)/\[some (cDz l a4),some zM,some [di K,D.v (vSs S),D.v (vSs Pl),D.v (vSs Le),dIs rk,di 0,di 0,D.acc 2 (map Ah rs++V.agg (V.str nm::vi f::vi t::V.list nV::V.list nV::V.list nV::vi 0::vi 0::vi 0::V.list nV::V.list nV::V.list nV::V.list nV::vi 0::nV)::nV),di 0,dl nV]]=[some (cDz l a4),some zM,some (lM K S Pl Le rk (rs++[mkL nm f t 0 0 0]))]/\[(2,14,map Ah rs++V.agg (V.str nm::vi f::vi t::V.list nV::V.list nV::V.list nV::vi 0::vi 0::vi 0::V.list nV::V.list nV::V.list nV::V.list nV::vi 0::nV)::nV)]=[(2,14,map Ah (rs++[mkL nm f t 0 0 0]))]/\I0 Wy 1 (Ad m) (dz l a') [kl Tu [1,1,1,0,1,0,0],KI.blk 0,kc Tu [1,1,1,1]] (mkE 92 [(0,D.ptr 0 0),(4,D.ptr 1 0),(5,D.ptr 2 0),(6,di (↑(k+1):Int))]) (stL l a4 K S Pl Le rk (rs++[mkL nm f t 0 0 0]))) ?_
   rw[hSm]
   repeat' first|with_reducible refine And.intro ?_ ?_
   all_goals first|exact h4|exact hkr|exact f4|exact t4|exact c4|exact BA hnm|exact⟨m3⟩|exact Ae (by omega)|omega|rfl|trivial|skip
   all_goals first|exact HL (fun z=>[some (cDz l a4),some zM,some [di K,.v (vSs S),.v (vSs Pl),.v (vSs Le),.v (vIs rk),di 0,di 0,.acc 2 z,di 0,dl []]]) (AC rs (mkL nm f t 0 0 0))|exact HL (fun z=>[(2,14,z)]) (AC rs (mkL nm f t 0 0 0))|(simp only[Hw,H3,H7];omega)
 ·obtain⟨ys,a2,y1,y2,y3,y4⟩:=VJ l hl a1 h3 Pl.length (by omega) Le.length (by omega) (by omega)
  obtain⟨c,hc⟩:∃c:Val,c=.mk 0 (.mk 0 []::ys):=⟨_,rfl⟩
  refine⟨⟨K,S,Pl,Le,rk,0,0,rs,c⟩,a2,⟨rfl,hS,hP,hLe,hrk,rfl,rfl,by show rs.length<=4;omega,by show 1<=rs.length;omega,hR,ys,y2,y3,hc⟩,y1,?_⟩
  refine lv 92 [] (.c1 (cDz l a1) (di r)<|.f<|.a 3<|.c1 (cDz l a2) (dVs ys)<|.w .r) (Aa PP 18 [D.ptr 0 0,di 4] (dz l a) (di r) (dz l a1)/\decide ((k:Int)<wrap IntKind.i64 (1+r))=false/\Aa PP 38 [D.ptr 0 0,di (length (map V.str Pl):Int),di (length (map V.str Le):Int),di 2] (dz l a1) (dVs ys) (dz l a2)/\Q (V.agg (vi 0::V.list nV::nV)::nV)/\Ax (length (V.agg (V.int IntKind.i64 0::V.list nV::nV)::nV)+length (map eV ys)) 32/\(∀(y:V),y∈map eV ys->V.size y=2)/\Q [some (cDz l a2)]/\D.v (V.agg [vi K,V.list (map V.str S),V.list (map V.str Pl),V.list (map V.str Le),V.list (map vi rk),vi 0,vi 0,V.list (map Ah rs),vi 0,V.list (V.agg [vi 0,V.list []]::[]++(map eV ys))])=Ad (Mod.mk K S Pl Le rk 0 0 rs c)) ?_
  rw[hPm,hLm]
  refine⟨h4,H1 (by rw[Ai (by omega) (by omega)];exact hk),y4,rfl,⟨?_,?_⟩,fun y hy=>?_,rfl,?_⟩
  ·have:=hPl;simp only[Hw,H3,H7,y2];omega
  ·have:=hPl;simp only[Hw,H3,H7,y2];omega
  ·obtain⟨z,_,rfl⟩:=Ie.1 hy
   rw[Cb];rfl
  ·rw[hc];rfl
theorem WG{ts:List Nat}{kn:Bool}{d:D}(h:d.one=true):(wkD ts kn d).one=true:=by
 unfold wkD
 split
 ·cases ts.any _<;>rfl
 ·cases kn<;>rfl
 ·cases kn
  ·exact absurd h (by simp[D.one,V.isAgg])
  ·exact h
 ·exact h
theorem ZL{H:List (Option (List D))}{own:List (Nat×Nat×List V)}{q:Nat}{d0:Int}{S Pl Le:V}{rk:V}(hq:H[q]?=some (some [di d0,.v S,.v Pl,.v Le,.v rk,di 0,di 0,.acc 2 [],di 0,.v .nils]))(e:List D):Cv e ⟨H,own⟩ e ⟨H.set q (some ([di d0,.v S,.v Pl,.v Le,.v rk,di 0,di 0,.acc 2 [],di 0,.v .nils].map (wkD [2] false))),own⟩:=
 GP (σ:=⟨H,own⟩) (q:=q) hq (fun g us hr=>D6 hr) (fun h c hc=>by
  obtain⟨d,hd,rfl⟩:=Ie.1 hc
  exact WG (h d hd)) e
theorem W2(l:List UInt8)(hl:l.length<=200)(a:Nat)(ha:a<=l.length)(K:Int)(hK:K=2∨K=3):
  ∃(m:Mod) (a':Nat),PM K m/\a'<=l.length/\Aa PP 20 [.ptr 0 0,di K] (dz l a) (Ad m) (dz l a'):=by
 obtain⟨r1,a1,p1,p2,p3,p4⟩:=Al l hl a ha 3 (by decide) (by decide)
 obtain⟨r2,a2,q1,q2,q3,q4⟩:=Al l hl a1 p3 2 (by decide) (by decide)
 obtain⟨r3,a3,u1,u2,u3,u4⟩:=Al l hl a2 q3 2 (by decide) (by decide)
 obtain⟨n1,rfl⟩:∃n:Nat,r1=n:=⟨r1.toNat,by omega⟩
 obtain⟨n2,rfl⟩:∃n:Nat,r2=n:=⟨r2.toNat,by omega⟩
 obtain⟨n3,rfl⟩:∃n:Nat,r3=n:=⟨r3.toNat,by omega⟩
 obtain⟨S,hS⟩:∃S,S=([[97],[98],[99]]:List (List UInt8)).take (1+n1):=⟨_,rfl⟩
 obtain⟨Pl,hPl⟩:∃S,S=([[120],[121]]:List (List UInt8)).take (1+n2):=⟨_,rfl⟩
 obtain⟨Le,hLe⟩:∃S,S=([[112],[113]]:List (List UInt8)).take (1+n3):=⟨_,rfl⟩
 have hSx:∃n:Nat,1<=n/\n<=3/\S=([[97],[98],[99]]:List (List UInt8)).take n:=⟨1+n1,by omega,by omega,hS⟩
 have hPx:Pl=[[120]]∨Pl=[[120],[121]]:=by
  rcases(show n2=0∨n2=1 by omega) with rfl|rfl
  ·exact .inl hPl
  ·exact .inr hPl
 have hLx:Le=[[112]]∨Le=[[112],[113]]:=by
  rcases(show n3=0∨n3=1 by omega) with rfl|rfl
  ·exact .inl hLe
  ·exact .inr hLe
 rcases hK with rfl|rfl
 ·obtain⟨m,a',m1,m2,m3⟩:=Oq l hl 2 S Pl Le [] hSx hPx hLx (by simp) _ 0 a3 [] rfl u3 (by omega) rfl (by simp)
  refine⟨m,a',m1,m2,?_⟩
  refine sv Wy 92 [] (.h (.dr 17)<|.c1 (cDz l a1) (di n1)<|.c1 (cDz l a2) (di n2)<|.c1 (cDz l a3) (di n3)<|.h .rn<|.k<|.h (.q 4 0)<|.h (.cl 2 7 2 14)<|.h (.cs (stL l a3 2 S Pl Le [] []))<|.ls [ke 0,ke 4,ke 5,ch 6 (di (0:Nat))] (stL l a3 2 S Pl Le [] [])) (Aa PP 18 [D.ptr 0 0,di 3] (dz l a) (di (n1:Int)) (dz l a1)/\Aa PP 18 [D.ptr 0 0,di 3] (dz l a) (di (n1:Int)) (dz l a1)/\Q (di (n1:Int))/\(∀(x:V),x∈ [V.str (ByteArray.mk #[97]).data.toList,V.str (ByteArray.mk #[98]).data.toList,V.str (ByteArray.mk #[99]).data.toList]->V.size x=1)/\0<=(fun x=>x.snd) (IntKind.i64,wrap IntKind.i64 (1+(n1:Int)))/\(fun x=>x.snd) (IntKind.i64,wrap IntKind.i64 (1+(n1:Int)))<=(↑(length [V.str (ByteArray.mk #[97]).data.toList,V.str (ByteArray.mk #[98]).data.toList,V.str (ByteArray.mk #[99]).data.toList]):Int)/\Aa PP 18 [D.ptr 0 0,di 2] (dz l a1) (di (n2:Int)) (dz l a2)/\Aa PP 18 [D.ptr 0 0,di 2] (dz l a1) (di (n2:Int)) (dz l a2)/\Q (di (n2:Int))/\(∀(x:V),x∈ [V.str (ByteArray.mk #[120]).data.toList,V.str (ByteArray.mk #[121]).data.toList]->V.size x=1)/\0<=(fun x=>x.snd) (IntKind.i64,wrap IntKind.i64 (1+(n2:Int)))/\(fun x=>x.snd) (IntKind.i64,wrap IntKind.i64 (1+(n2:Int)))<=(↑(length [V.str (ByteArray.mk #[120]).data.toList,V.str (ByteArray.mk #[121]).data.toList]):Int)/\Aa PP 18 [D.ptr 0 0,di 2] (dz l a2) (di (n3:Int)) (dz l a3)/\Aa PP 18 [D.ptr 0 0,di 2] (dz l a2) (di (n3:Int)) (dz l a3)/\Q (di (n3:Int))/\(∀(x:V),x∈ [V.str (ByteArray.mk #[112]).data.toList,V.str (ByteArray.mk #[113]).data.toList]->V.size x=1)/\0<=(fun x=>x.snd) (IntKind.i64,wrap IntKind.i64 (1+(n3:Int)))/\(fun x=>x.snd) (IntKind.i64,wrap IntKind.i64 (1+(n3:Int)))<=(↑(length [V.str (ByteArray.mk #[112]).data.toList,V.str (ByteArray.mk #[113]).data.toList]):Int)/\Q [St.mk [some (cDz l a),some zMl,some zMl] [],St.mk [some (cDz l a1),some zMl,some zMl] [],St.mk [some (cDz l a2),some zMl,some zMl] [],St.mk [some (cDz l a3),some zMl,some zMl] []]/\True/\(∀(e:List D) (E:Ent) (g:Gh) (a:Act) (w:World),FI E g (St.mk [some (cDz l a3),some [D.v (V.int IntKind.i64 0),dn,dn,dn,dn,D.v (V.int IntKind.i64 0),D.v (V.int IntKind.i64 0),dn,D.v (V.int IntKind.i64 0),dn],some [D.v (V.int IntKind.i64 2),D.v (V.list (List.drop 0 (take (Int.toNat ((fun x=>x.snd) (IntKind.i64,wrap IntKind.i64 (1+(n1:Int))))) [V.str (ByteArray.mk #[97]).data.toList,V.str (ByteArray.mk #[98]).data.toList,V.str (ByteArray.mk #[99]).data.toList]))),D.v (V.list (List.drop 0 (take (Int.toNat ((fun x=>x.snd) (IntKind.i64,wrap IntKind.i64 (1+(n2:Int))))) [V.str (ByteArray.mk #[120]).data.toList,V.str (ByteArray.mk #[121]).data.toList]))),D.v (V.list (List.drop 0 (take (Int.toNat ((fun x=>x.snd) (IntKind.i64,wrap IntKind.i64 (1+(n3:Int))))) [V.str (ByteArray.mk #[112]).data.toList,V.str (ByteArray.mk #[113]).data.toList]))),dn,D.v (V.int IntKind.i64 0),D.v (V.int IntKind.i64 0),D.acc 2 [],D.v (V.int IntKind.i64 0),dn]] [(2,14,[])]) e a w->∃g',FI E g' (stL l a3 2 S Pl Le [] []) e a w)/\di 0=di (↑0:Int)/\Q [some (cDz l a3),some zM,some (lM 2 S Pl Le [] [])]/\Q [(2,14,nV)]/\I0 Wy (length (dz l a).H) (Ad m) (dz l a') [kl Tu [1,1,1,0,1,0,0],KI.blk 0,kc Tu [1,1,1,1]] (mkE 92 [(0,D.ptr 0 0),(4,D.ptr 1 0),(5,D.ptr 2 0),(6,di (↑0:Int))]) (stL l a3 2 S Pl Le [] [])) ?_
  have w1:wrap IntKind.i64 (1+(n1:Int))=1+n1:=Ai (by omega) (by omega)
  have w2:wrap IntKind.i64 (1+(n2:Int))=1+n2:=Ai (by omega) (by omega)
  have w3:wrap IntKind.i64 (1+(n3:Int))=1+n3:=Ai (by omega) (by omega)
  have z1:∀x∈ [V.str [97],V.str [98],V.str [99]],x.size=1:=by simp[V.size]
  have z2:∀x∈ [V.str [120],V.str [121]],x.size=1:=by simp[V.size]
  have z3:∀x∈ [V.str [112],V.str [113]],x.size=1:=by simp[V.size]
  have k1:V.list (List.drop 0 (take (1+(n1:Int)).toNat [V.str [97],V.str [98],V.str [99]]))=vSs S:=by
   rw[hS,IP,show(1+(n1:Int)).toNat=1+n1 by omega]
   rcases(show n1=0∨n1=1∨n1=2 by omega) with rfl|rfl|rfl<;>rfl
  have k2:V.list (List.drop 0 (take (1+(n2:Int)).toNat [V.str [120],V.str [121]]))=vSs Pl:=by
   rw[hPl,IP,show(1+(n2:Int)).toNat=1+n2 by omega]
   rcases(show n2=0∨n2=1 by omega) with rfl|rfl<;>rfl
  have k3:List.drop 0 (take (1+(n3:Int)).toNat [V.str [112],V.str [113]])=Le.map V.str:=by
   rw[hLe,IP,show(1+(n3:Int)).toNat=1+n3 by omega]
   rcases(show n3=0∨n3=1 by omega) with rfl|rfl<;>rfl
  rw[w1,w2,w3]
  refine⟨p4,p4,rfl,z1,by show 0<=1+(n1:Int);omega,by show 1+(n1:Int)<=3;omega,q4,q4,rfl,z2,by show 0<=1+(n2:Int);omega,by show 1+(n2:Int)<=2;omega,u4,u4,rfl,z3,by show 0<=1+(n3:Int);omega,by show 1+(n3:Int)<=2;omega,rfl,trivial,fun e=>?_,rfl,rfl,rfl,⟨m3⟩⟩
  show Cv e ⟨[some (cDz l a3),some zM,some [di 2,.v (V.list (List.drop 0 (take (1+(n1:Int)).toNat [V.str [97],V.str [98],V.str [99]]))),.v (V.list (List.drop 0 (take (1+(n2:Int)).toNat [V.str [120],V.str [121]]))),.v (V.list (List.drop 0 (take (1+(n3:Int)).toNat [V.str [112],V.str [113]]))),.v .nils,di 0,di 0,.acc 2 [],di 0,.v .nils]],[(2,14,[])]⟩ e _
  rw[k1,k2,k3]
  exact ZL (H:=[some (cDz l a3),some zM,some [di 2,.v (vSs S),.v (vSs Pl),.v (vSs Le),.v .nils,di 0,di 0,.acc 2 [],di 0,.v .nils]]) (q:=2) rfl e
 ·obtain⟨rk,a4,v1,v2,v3,v4⟩:=Ea l hl a3 u3 Le.length (by rcases hLx with h|h<;>rw[h]<;>decide) 1 (by decide) (by decide)
  obtain⟨m,a',m1,m2,m3⟩:=Oq l hl 3 S Pl Le rk hSx hPx hLx (by rw[HJ rfl];exact⟨v2,v3⟩) _ 0 a4 [] rfl (by omega) (by omega) rfl (by simp)
  refine⟨m,a',m1,m2,?_⟩
  refine sv Wy 92 [] (.h (.dr 17)<|.c1 (cDz l a1) (di n1)<|.c1 (cDz l a2) (di n2)<|.c1 (cDz l a3) (di n3)<|.h .rn<|.k<|.c1 (cDz l a4) (dIs rk)<|.h (.q 4 0)<|.h (.cl 2 7 2 14)<|.h (.cs (stL l a4 3 S Pl Le rk []))<|.ls [ke 0,ke 4,ke 5,ch 6 (di (0:Nat))] (stL l a4 3 S Pl Le rk [])) (Aa PP 18 [D.ptr 0 0,di 3] (dz l a) (di (n1:Int)) (dz l a1)/\Aa PP 18 [D.ptr 0 0,di 3] (dz l a) (di (n1:Int)) (dz l a1)/\Q (di (n1:Int))/\(∀(x:V),x∈ [V.str (ByteArray.mk #[97]).data.toList,V.str (ByteArray.mk #[98]).data.toList,V.str (ByteArray.mk #[99]).data.toList]->V.size x=1)/\0<=(fun x=>x.snd) (IntKind.i64,wrap IntKind.i64 (1+(n1:Int)))/\(fun x=>x.snd) (IntKind.i64,wrap IntKind.i64 (1+(n1:Int)))<=(↑(length [V.str (ByteArray.mk #[97]).data.toList,V.str (ByteArray.mk #[98]).data.toList,V.str (ByteArray.mk #[99]).data.toList]):Int)/\Aa PP 18 [D.ptr 0 0,di 2] (dz l a1) (di (n2:Int)) (dz l a2)/\Aa PP 18 [D.ptr 0 0,di 2] (dz l a1) (di (n2:Int)) (dz l a2)/\Q (di (n2:Int))/\(∀(x:V),x∈ [V.str (ByteArray.mk #[120]).data.toList,V.str (ByteArray.mk #[121]).data.toList]->V.size x=1)/\0<=(fun x=>x.snd) (IntKind.i64,wrap IntKind.i64 (1+(n2:Int)))/\(fun x=>x.snd) (IntKind.i64,wrap IntKind.i64 (1+(n2:Int)))<=(↑(length [V.str (ByteArray.mk #[120]).data.toList,V.str (ByteArray.mk #[121]).data.toList]):Int)/\Aa PP 18 [D.ptr 0 0,di 2] (dz l a2) (di (n3:Int)) (dz l a3)/\Aa PP 18 [D.ptr 0 0,di 2] (dz l a2) (di (n3:Int)) (dz l a3)/\Q (di (n3:Int))/\(∀(x:V),x∈ [V.str (ByteArray.mk #[112]).data.toList,V.str (ByteArray.mk #[113]).data.toList]->V.size x=1)/\0<=(fun x=>x.snd) (IntKind.i64,wrap IntKind.i64 (1+(n3:Int)))/\(fun x=>x.snd) (IntKind.i64,wrap IntKind.i64 (1+(n3:Int)))<=(↑(length [V.str (ByteArray.mk #[112]).data.toList,V.str (ByteArray.mk #[113]).data.toList]):Int)/\Q [St.mk [some (cDz l a),some zMl,some zMl] [],St.mk [some (cDz l a1),some zMl,some zMl] [],St.mk [some (cDz l a2),some zMl,some zMl] [],St.mk [some (cDz l a3),some zMl,some zMl] []]/\True/\Aa PP 36 [D.ptr 0 0,di (length (List.drop 0 (take (Int.toNat ((fun x=>x.snd) (IntKind.i64,wrap IntKind.i64 (1+(n3:Int))))) (V.str (ByteArray.mk #[112]).data.toList::V.str (ByteArray.mk #[113]).data.toList::nV))):Int),di 1] (dz l a3) (dIs rk) (dz l a4)/\(∀(e:List D) (E:Ent) (g:Gh) (a:Act) (w:World),FI E g (St.mk [some (cDz l a4),some [D.v (V.int IntKind.i64 0),dn,dn,dn,dn,D.v (V.int IntKind.i64 0),D.v (V.int IntKind.i64 0),dn,D.v (V.int IntKind.i64 0),dn],some [D.v (V.int IntKind.i64 3),D.v (V.list (List.drop 0 (take (Int.toNat ((fun x=>x.snd) (IntKind.i64,wrap IntKind.i64 (1+(n1:Int))))) [V.str (ByteArray.mk #[97]).data.toList,V.str (ByteArray.mk #[98]).data.toList,V.str (ByteArray.mk #[99]).data.toList]))),D.v (V.list (List.drop 0 (take (Int.toNat ((fun x=>x.snd) (IntKind.i64,wrap IntKind.i64 (1+(n2:Int))))) [V.str (ByteArray.mk #[120]).data.toList,V.str (ByteArray.mk #[121]).data.toList]))),D.v (V.list (List.drop 0 (take (Int.toNat ((fun x=>x.snd) (IntKind.i64,wrap IntKind.i64 (1+(n3:Int))))) [V.str (ByteArray.mk #[112]).data.toList,V.str (ByteArray.mk #[113]).data.toList]))),dIs rk,D.v (V.int IntKind.i64 0),D.v (V.int IntKind.i64 0),D.acc 2 [],D.v (V.int IntKind.i64 0),dn]] [(2,14,[])]) e a w->∃g',FI E g' (stL l a4 3 S Pl Le rk []) e a w)/\di 0=di (↑0:Int)/\Q [some (cDz l a4),some zM,some (lM 3 S Pl Le rk [])]/\Q [(2,14,nV)]/\I0 Wy (length (dz l a).H) (Ad m) (dz l a') [kl Tu [1,1,1,0,1,0,0],KI.blk 0,kc Tu [1,1,1,1]] (mkE 92 [(0,D.ptr 0 0),(4,D.ptr 1 0),(5,D.ptr 2 0),(6,di (↑0:Int))]) (stL l a4 3 S Pl Le rk [])) ?_
  have w1:wrap IntKind.i64 (1+(n1:Int))=1+n1:=Ai (by omega) (by omega)
  have w2:wrap IntKind.i64 (1+(n2:Int))=1+n2:=Ai (by omega) (by omega)
  have w3:wrap IntKind.i64 (1+(n3:Int))=1+n3:=Ai (by omega) (by omega)
  have z1:∀x∈ [V.str [97],V.str [98],V.str [99]],x.size=1:=by simp[V.size]
  have z2:∀x∈ [V.str [120],V.str [121]],x.size=1:=by simp[V.size]
  have z3:∀x∈ [V.str [112],V.str [113]],x.size=1:=by simp[V.size]
  have k1:V.list (List.drop 0 (take (1+(n1:Int)).toNat [V.str [97],V.str [98],V.str [99]]))=vSs S:=by
   rw[hS,IP,show(1+(n1:Int)).toNat=1+n1 by omega]
   rcases(show n1=0∨n1=1∨n1=2 by omega) with rfl|rfl|rfl<;>rfl
  have k2:V.list (List.drop 0 (take (1+(n2:Int)).toNat [V.str [120],V.str [121]]))=vSs Pl:=by
   rw[hPl,IP,show(1+(n2:Int)).toNat=1+n2 by omega]
   rcases(show n2=0∨n2=1 by omega) with rfl|rfl<;>rfl
  have k3:List.drop 0 (take (1+(n3:Int)).toNat [V.str [112],V.str [113]])=Le.map V.str:=by
   rw[hLe,IP,show(1+(n3:Int)).toNat=1+n3 by omega]
   rcases(show n3=0∨n3=1 by omega) with rfl|rfl<;>rfl
  rw[w1,w2,w3]
  refine⟨p4,p4,rfl,z1,by show 0<=1+(n1:Int);omega,by show 1+(n1:Int)<=3;omega,q4,q4,rfl,z2,by show 0<=1+(n2:Int);omega,by show 1+(n2:Int)<=2;omega,u4,u4,rfl,z3,by show 0<=1+(n3:Int);omega,by show 1+(n3:Int)<=2;omega,rfl,trivial,?_,fun e=>?_,rfl,rfl,rfl,⟨m3⟩⟩
  ·show Aa PP _ [_,di ((List.drop 0 (take (1+(n3:Int)).toNat [V.str [112],V.str [113]])).length:Int),_] _ _ _
   rw[k3,Hw];exact v4
  show Cv e ⟨[some (cDz l a4),some zM,some [di 3,.v (V.list (List.drop 0 (take (1+(n1:Int)).toNat [V.str [97],V.str [98],V.str [99]]))),.v (V.list (List.drop 0 (take (1+(n2:Int)).toNat [V.str [120],V.str [121]]))),.v (V.list (List.drop 0 (take (1+(n3:Int)).toNat [V.str [112],V.str [113]]))),dIs rk,di 0,di 0,.acc 2 [],di 0,.v .nils]],[(2,14,[])]⟩ e _
  rw[k1,k2,k3]
  exact ZL (H:=[some (cDz l a4),some zM,some [di 3,.v (vSs S),.v (vSs Pl),.v (vSs Le),dIs rk,di 0,di 0,.acc 2 [],di 0,.v .nils]]) (q:=2) rfl e
theorem UP{rs:List Rul}(h3:rs.length<=4){ns np nl:Nat}(h:∀k r,rs[k]?=some r->Kr ns np nl k r):rs.map Rul.name=dl4.take rs.length:=by
 apply List.ext_getElem?
 intro i
 by_cases hi:i<rs.length
 ·have hx:rs[i]?=some rs[i]:=Hx hi
  rw[Ic,hx,List.getElem?_take_of_lt hi,(h i _ hx).name];rfl
 ·rw[Ik (by simp;omega),Ik (by simp;omega)]
theorem Tz{L:Int}{v:Val}(h:DN L v):(v.n==0)=true/\decide ((v.kids.length:Int)<=12)=true/\(v.kids.all fun k=>Ca L k)=true:=by
 obtain⟨ks,h1,h2,rfl⟩:=h
 refine⟨rfl,Hz (by simp only[Val.kids,Hw];omega),?_⟩
 simp only[Val.kids,Ii]
 intro k hk
 obtain⟨x,hx,rfl⟩:=Ie.1 hk
 have:=h2 x hx
 simp only[Ca,Val.n,Val.kids,Hy,H8]
 exact⟨Hz this.1,Hz this.2,rfl⟩
theorem Lc(t:Typ)(L:Int)(ht:∀v,DN L v->Ao t v=true):∀(n:Nat) (ys:List Val),ys.length=n->(∀y∈ys,DN L y)->BV (List.replicate n t) ys=true
 |0,ys,h,_=>by
  cases ys with
  |nil=>rfl
  |cons y ys=>simp at h
 |n+1,ys,h,hy=>by
  cases ys with
  |nil=>simp at h
  |cons y ys=>
   simp only[Iq,BV,Hy]
   exact⟨ht y (hy y (by simp)),Lc t L ht n ys (by simpa using h) fun z hz=>hy z (by simp[hz])⟩
theorem Gn(L:Int):∀(ys:List Val),(∀y∈ys,DN L y)->Val.sizes ys<=3*ys.length
 |[],_=>H5 _
 |y::ys,h=>by
  have h1:=(h y (by simp)).size
  have h2:=Gn L ys fun z hz=>h z (by simp[hz])
  simp only[Val.sizes,H3];omega
theorem PF(m:Mod)(hk:m.kind=2∨m.kind=3)(hpl:m.places.length<=2)(s:Int)(hs:0<=s/\s<m.states.length)(ys:List Val)(hy:ys.length=m.places.length)(h:∀y∈ys,DN m.letters.length y):Ak (AL m) (.mk 0 (.mk s []::ys))=true:=by
 have hsz:=Gn _ ys h
 rw[Ak,Hz (by simp only[Val.size,Val.sizes];omega),HV,AL]
 have he:∀v,DN m.letters.length v->Ao (Dh m) v=true:=fun v hv=>by
  obtain⟨h1,h2,h3⟩:=Tz hv
  rcases hk with hk|hk
  ·rw[show Dh m=.word (.lab m.letters.length) by simp[Dh,hk]]
   simp only[Ao,Hy]
   exact⟨h1,h2,h3⟩
  ·rw[show Dh m=.prio m.letters.length m.ranks by simp[Dh,hk]]
   simp only[Ao,Hy]
   exact⟨h1,h2,h3⟩
 simp only[Ao,Val.n,Val.kids,BV,Ca,Hy,H8,HX]
 refine⟨?_,by simp[hy],⟨Hz hs.1,Hz hs.2,by rfl⟩,Lc _ _ he _ ys hy h⟩
 first|trivial|rfl
theorem PM.ok{K:Int}{m:Mod}(hK:K=2∨K=3)(h:PM K m):m.ok:=by
 have hk:=h.kind
 have hk1:¬m.kind=1:=by omega
 have hst:1<=m.states.length/\m.states.length<=3:=by obtain⟨n,h1,h2,e⟩:=h.states;rw[e,HS];simp only[H3,H7];omega
 have hpl:1<=m.places.length/\m.places.length<=2:=by rcases h.places with e|e<;>rw[e]<;>decide
 have hll:1<=m.letters.length/\m.letters.length<=2:=by rcases h.letters with e|e<;>rw[e]<;>decide
 have hb:∀{x a b:Int},a<=x->x<=b->An x a b=true:=fun h1 h2=>by simp[An,h1,h2]
 have hget:∀r∈m.rules,Kr m.states.length m.places.length m.letters.length (m.rules.idxOf r) r:=fun r hr=>by
  have hi:=List.idxOf_lt_length_of_mem hr
  exact h.rules _ r (by rw[Hx hi,List.getElem_idxOf])
 have hc:=h.count
 refine⟨.inr (by omega),?_,?_,?_,?_,?_,?_,?_⟩
 ·simp only[B3,Fo,HF hk1,Hy,H8,h.levels,h.age]
  exact⟨hb (by omega) (by omega),by omega,hb (by omega) (by omega),hb (by omega) (by omega),by decide,by decide⟩
 ·have hr:=h.ranks
  rw[AN]
  rcases hK with rfl|rfl
  ·rw[HF (by decide)] at hr
   rw[HJ (by rw[hk];rfl),hr];rfl
  ·rw[HJ rfl] at hr
   rw[HF (by rw[hk];decide)]
   simp only[Hy,HX,Ii]
   exact⟨by omega,fun x hx=>hb (hr.2 x hx).1 (by have:=(hr.2 x hx).2;omega)⟩
 ·have hn:=UP h.count h.rules
  obtain⟨n,n1,n2,e⟩:=h.states
  rw[Cu,Dp,hn,Bz]
  have:m.rules.length=0∨m.rules.length=1∨m.rules.length=2∨m.rules.length=3∨m.rules.length=4:=by omega
  rcases(show n=1∨n=2∨n=3 by omega) with rfl|rfl|rfl<;>rcases h.places with e'|e'<;>rcases h.letters with e3|e3<;>rcases this with e2|e2|e2|e2|e2<;>rw[e,e',e2,e3]<;>decide+kernel
 ·intro r hr
  rw[(hget r hr).rest]
  exact⟨HW _,HW _,HW _,HW _,HW _,HW _,HW _⟩
 ·intro r hr
  have hm:=hget r hr
  obtain⟨f1,f2⟩:=hm.frm
  obtain⟨t1,t2⟩:=hm.to
  have ha:=hm.act
  have hr:=hm.rest
  generalize r.name=nm at hr
  generalize r.frm=f at*
  generalize r.to=t at*
  generalize r.chan=cn at*
  generalize r.act=ac at*
  generalize r.letter=le at*
  subst hr
  rw[Dl,HF hk1]
  simp only[Dm,B0,Fk,mkL,CL,Hy,HX,H8,HZ,true_and]
  refine⟨hb (by omega) (by omega),hb (by omega) (by omega),?_⟩
  rcases ha with⟨rfl,rfl,rfl⟩|⟨h1,h2,h3⟩
  ·rfl
  ·rw[HF (by omega)]
   simp only[Hy]
   exact⟨hb (by omega) (by omega),hb (by omega) (by omega),hb (by omega) (by omega)⟩
 ·obtain⟨ys,y1,y2,y3⟩:=h.start
  rw[y3]
  exact PF m (by omega) (by omega) 0 ⟨by omega,by omega⟩ ys y1 y2
 ·obtain⟨ys,y1,y2,y3⟩:=h.start
  have:=Gn _ ys y2
  rw[y3];simp only[Val.size,Val.sizes];omega
end Go.Proofs.YtpmahmngmgnnbaaGreatDoor

namespace Go.Nv
open Go.Dv
open Go.IntKind (wrap)
theorem Jr{g:Gh}:∀{a b:List D} {us:List Value},Ab g (a++b) us->∃u v,us=u++v/\Ab g a u/\Ab g b v
 |[],b,us,h=>⟨[],us,rfl,rfl,h⟩
 |x::a,b,us,h=>by
  simp only[IW,Ab] at h
  obtain⟨u,us',rfl,h1,h2⟩:=h
  obtain⟨v,w,rfl,h3,h4⟩:=Jr h2
  exact⟨u::v,w,rfl,⟨u,v,rfl,h1,h3⟩,h4⟩
theorem TW{P:Program}{f:FuncId}{ds A B es:List D}{T:List (Option (List D))}{q n sz:Nat}{c1 c2:List D}(hB:D.pls B=true)(he:D.pls es=true)(h1:D.pls c1=true)(h2:D.pls c2=true)(hq:T[q]?=some (some es))
  (h:Aa P f ds ⟨[some A],[]⟩ (.dagg (c1++ .gro (q+1) n sz::c2)) ⟨some B::T,[]⟩):Aa P f ds ⟨[some A],[]⟩ (.dagg (c1++ .arr 1 0 n::c2)) ⟨[some B,some es],[]⟩:=by
 refine⟨h.1,fun g w args hw ha=>Calls.mono (h.2 g w args hw ha) ?_⟩
 rintro e w' ⟨u,g',rfl,hw',hr⟩
 have hgn:g.n=1:=hw.n
 have hne:g'.β 0≠g'.β (q+1):=fun e=>by
  have:=hw'.rep.inj 0 (q+1) B es rfl (by simpa using hq) e
  omega
 refine⟨u,{ M:=g'.M,β:=fun i=>if i=0 then g'.β 0 else g'.β (q+1),n:=2,ι:=g'.ι,κ:=fun i=>if i=0 then g'.κ 0 else g'.κ (q+1)},rfl,?_,?_⟩
 ·refine{ rep:=?_,M:=hw'.M,size:=hw'.size,keep:=hw'.keep,os:=hw'.os,tape:=hw'.tape,output:=hw'.output,nE:=?_,βE:=?_,κE:=?_,objs:=?_,owns:=fun x hx=>by simp at hx,drawn:=hw'.drawn }
  ·refine{ n:=rfl,mem:=hw'.rep.mem,obj:=?_,inj:=?_,own:=fun k s xs hx=>by simp at hx,tags:=by simp,sep:=fun x hx=>by simp at hx,ownObj:=fun x hx=>by simp at hx,fresh:=hw'.rep.fresh,gl:=hw'.rep.gl,gw:=hw'.rep.gw }
   ·intro i cs hi
    match i,hi with
    |0,hi=>
     simp at hi;subst hi
     obtain⟨us,rest,et,a1,a2,a3,a4,a5⟩:=hw'.rep.obj 0 B rfl
     exact⟨us,rest,et,a1,AV (by rfl) hB a2,a3,a4,a5⟩
    |1,hi=>
     simp at hi;subst hi
     obtain⟨us,rest,et,a1,a2,a3,a4,a5⟩:=hw'.rep.obj (q+1) es (by simpa using hq)
     exact⟨us,rest,et,a1,AV (by rfl) he a2,a3,a4,a5⟩
    |i+2,hi=>simp at hi
   ·intro i j cs ds hi hj hij
    match i,j,hi,hj with
    |0,0,_,_=>rfl
    |0,1,_,_=>exact absurd hij hne
    |1,0,_,_=>exact absurd hij.symm hne
    |1,1,_,_=>rfl
    |i+2,_,hi,_=>simp at hi
    |_,j+2,_,hj=>simp at hj
  ·show g.n<=2;omega
  ·intro o ho
   have h0:o=0:=by show o=0;have:o<g.n:=ho;omega
   subst h0;exact hw'.βE 0 ho
  ·intro o ho
   have h0:o=0:=by show o=0;have:o<g.n:=ho;omega
   subst h0;exact hw'.κE 0 ho
  ·intro i cs hi
   match i,hi with
   |0,hi=>exact hw'.objs 0 B rfl
   |1,hi=>exact hw'.objs (q+1) es (by simpa using hq)
   |i+2,hi=>simp at hi
 ·simp only[Ac] at hr⊢
  obtain⟨us,rfl,hr⟩:=hr
  obtain⟨u1,u2,rfl,b1,b2⟩:=Jr hr
  simp only[Ab] at b2
  obtain⟨x,u3,rfl,b3,b4⟩:=b2
  simp only[Ac] at b3
  obtain⟨b5,cap,b6,b7,b8⟩:=b3
  refine⟨_,rfl,Aw (AV (by rfl) h1 b1) ?_⟩
  simp only[Ab]
  exact⟨_,_,rfl,by simp only[Ac];exact⟨by decide,cap,b6,b8⟩,AV (by rfl) h2 b4⟩
theorem J1{σ:St}{p q i sz:Nat}{cs:List D}{xs:List V}(hsz:0<sz)(hp:σ.H[p]?=some (some cs))(hq:σ.H[q]?=some (some (B5 xs)))(hpq:p≠q)(hi:cs[i]?=some (.arr q 0 xs.length))(hx:∀x∈xs,x.size=sz)(e:List D):
  Cv e σ e ⟨(σ.H.set q none).set p (some (cs.set i (.v (.list xs)))),σ.own⟩:=fun E g a w hf=>by
 obtain⟨us,rest,et,hb,hr,h1,hM,_⟩:=hf.wi.rep.obj q _ hq
 have hA:repA g.M (xs.flatMap V.cellsV) us:=Gt (Eo _) hr h1
 let M':Mem:=fun b o=>if b=g.β q then us[o]? else g.M b o
 have hle:g.M.le M':=fun b o v hm=>by
  simp only[M']
  rw[HF]; ·exact hm
  intro e;subst e;rw[hM o] at hm;simp at hm
 have hlg:g.le { g with M:=M' }:=⟨hle,H5 _,fun _ _=>rfl,fun _ _ _ h=>h,fun _ _=>rfl⟩
 have hin:inM M' (g.β q) 0 us:=fun j v hj=>by simp[M',hj]
 have hw':WI E { g with M:=M' } ⟨σ.H.set q none,σ.own⟩ w:=hf.wi.setObjG hle hq (fun c hc=>by simp at hc) (fun b _ hne=>⟨rfl,fun o=>by simp[M',hne]⟩) (fun b o v hm=>by
   simp only[M'] at hm
   split at hm
   ·rename_i e;subst e
    simp only[World.cell?,hb,I1];exact Dw hm
   ·exact hf.wi.rep.mem b o v hm) (H5 _) rfl rfl rfl
 have hp':(σ.H.set q none)[p]?=some (some cs):=by rw[List.getElem?_set_ne (fun e=>hpq e.symm)];exact hp
 obtain⟨us2,rest2,et2,hb2,hr2,h12,_,hκ2⟩:=hw'.rep.obj p cs hp'
 obtain⟨u,hu,hru⟩:=BJ hr2 hi
 simp only[Ac] at hru
 obtain⟨_,cap,hcap,rfl⟩:=hru
 have hlist:repV M' (.list xs) (.slice (some ⟨g.β q,0,none⟩) xs.length cap):=C0 hsz hin (E9 hx (repA.mono hle _ _ hA)) hcap
 have hset:=CU hr2 i (d:=.v (.list xs)) (u:=.slice (some ⟨g.β q,0,none⟩) xs.length cap) (by simp only[Ac];exact hlist)
 rw[Er hu] at hset
 have h3:=hw'.setObj hp' hb2 hκ2 hset (fun c hc=>by
  rcases List.mem_or_eq_of_mem_set hc with h|h
  ·exact h12 c h
  ·rw[h];rfl) (fun _ _=>rfl) rfl rfl rfl rfl
 exact⟨_,h3,Ab.mono hlg _ _ hf.env,hf.defers⟩
theorem J7{P:Program}{o:Oper}{σ:St}{t:TypeId}{len:Nat}{parts:Array (Nat×Operand)}(ho:o.op=.buildSlice t len parts)(hp:parts.toList=((parts.toList.map (·.2)).zipIdx 0).map fun x=>(x.2,x.1))(hlen:parts.size=len)
  {e:TypeId} {sz by':Nat} {z:Option Value} (hs:BW P t=some (e,sz,by',z)) (hz:z.isSome=true) {ds:List D} {xs:List V} (hx:Dk ds=some xs) (hsz:∀x∈xs,x.size=sz) (h0:0<len) (h1:0<sz) (h2:len*sz<=1000):
  Ap P o ds σ (.gro σ.H.length len sz) ⟨σ.H++[some (B5 xs)],σ.own⟩:=by
 intro E g a w K Q hw hds hK
 simp only[ho,Op.operands] at hds
 obtain⟨i,hu,hi,rfl,rfl,rfl⟩:=A8 hs
 obtain⟨zz,hzz⟩:=Option.isSome_iff_exists.1 hz
 have hlm:(parts.toList.map fun p=>a.eval p.2).length=len:=by simp[hlen]
 have hds':Ab g ds (parts.toList.map fun p=>a.eval p.2):=by simpa[Function.comp_def] using hds
 obtain⟨hr,hcs⟩:=F4 hx hds' hsz
 have hxl:xs.length=len:=by rw[DV hx, ←A7 hds',hlm]
 have hpos:0<len*i.size:=Nat.mul_pos h0 h1
 have hf:=GF i.size (parts.toList.map fun p=>a.eval p.2) 0 [] ((Array.range (len*i.size)).map (zz.cells[· %zz.cells.size]!)).toList (by simp) hcs (by simp[hlen])
 have hpp:((parts.toList.map fun p=>a.eval p.2).zipIdx 0).map (fun x=>(x.2,x.1))=parts.toList.map fun p=>(p.1,a.eval p.2):=by
  have e1:(parts.toList.map fun p=>a.eval p.2)=(parts.toList.map (·.2)).map a.eval:=by simp
  rw[e1,List.zipIdx_map,List.map_map]
  conv=>rhs;rw[hp,List.map_map]
  rfl
 rw[hpp] at hf
 simp only[List.nil_append,Array.toArray_toList] at hf
 have hrun:=run_buildSlice (P:=P) w t e len (parts.map fun p=>(p.1,a.eval p.2)) _ i zz hu hi hzz (by omega) (by omega) (by simpa using hf)
 generalize hus:(parts.toList.map fun p=>a.eval p.2).flatMap (·.cells.toList)=us at hr hrun
 have hul:us.length=len*i.size:=by rw[AU hr,hxl]
 obtain⟨h5,h6⟩:=DB hr
 obtain⟨g',h3,h4,h5',h6',h7⟩:=hw.newObjR (us:=us) (rest:=[]) (cs:=B5 xs) e h5 h6
 rw[Il] at h3 h6'
 have:=hK g' _ (.slice (some ⟨w.heap.size,0,none⟩) len len) h3 h4 (by
  simp only[Ac]
  exact⟨by omega,len,H5 _,by rw[h6',hul],by rw[h5']⟩)
 unfold Oper.wp execOp
 simp only[ho]
 simp only[Sem.run_bind]
 rw[show(parts.map fun(x:Nat×Operand)=>match x with|(i,x)=>(i,a.eval x))=parts.map fun p=>(p.1,a.eval p.2) from rfl,hrun]
 exact this
end Go.Nv

namespace Go.Proofs.YtpmahmngmgnnbaaGreatDoor
open Go.Dv Go.Nv
set_option maxRecDepth 20000
open List (length map take)
open Go.IntKind (wrap)
noncomputable abbrev Mf:Func:= Tryz.f92
noncomputable def Kj:Code:=Mf.body.getD .skip
abbrev stQ(n:Int)(l:List Val):St:=⟨[some [di 0,.v .nils],some [di n,.acc 1 (l.map eV)]],[(1,2,l.map eV)]⟩
theorem P4(v:Val)(hv:v.size<=1000000)(hk:∀x∈v.kids,Aa PP 92 [dV x] σ0 (dV x) σ0)(n:Nat):∀k:Nat,v.kids.length-k=n->
  Rn PP Mf 0 (dV v) σ0 ([.lp (sub Kj [1,1,0,1,0,0]),.blk 0,.code (sub Kj [1,1,1])]++[]) (mkE 27 [(1,.v (.ref (Ag v))),(2,.ptr 0 0),(3,.ptr 1 0),(4,di k)]) (stQ v.n (v.kids.take k)):=by
 have hs:=v.size_eq
 have hl:=Val.length_le v.kids
 induction n with
 |zero=>
  intro k hn
  refine lv 27 [1] (.f .r) (decide ((k:Int)<(length (map eV v.kids):Int))=false/\D.v (V.agg [vi v.n,V.list (map eV (take k v.kids))])=dV v) ?_
  rw[HQ (by omega)]
  exact⟨H1 (by rw[Hw];omega),rfl⟩
 |succ n ih=>
  intro k hn
  obtain⟨x,hx⟩:∃x,v.kids[k]?=some x:=⟨_,Hx (show k<v.kids.length by omega)⟩
  refine lv 27 [1] (.t<|.h (.xs (Ag x))<|.c (dV x)<|.ls [ke 1,ke 2,ke 3,ch 4 (di (k+1:Nat))] (stQ v.n (v.kids.take (k+1)))) (decide ((k:Int)<(length (map eV v.kids):Int))=true/\Q 2/\0<=(k:Int)/\(map eV v.kids)[Int.toNat (k:Int)]?=some (Ag x)/\F0 92 [dV x] (dV x)/\Q (map eV (take k v.kids))/\Ax (length (map eV (take k v.kids))+length (Ag x::nV)) 32/\(True/\True)/\di (wrap IntKind.i64 ((k:Int)+1))=di (↑(k+1):Int)/\[some [di 0,dn],some [di v.n,D.acc 1 (map eV (take k v.kids)++Ag x::nV)]]=[some [di 0,dn],some [di v.n,D.acc 1 (map eV (take (k+1) v.kids))]]/\[(1,2,map eV (take k v.kids)++Ag x::nV)]=[(1,2,map eV (take (k+1) v.kids))]/\I0 Mf 0 (dV v) σ0 [kl Kj [1,1,0,1,0,0],KI.blk 0,kc Kj [1,1,1]] (mkE 27 [(1,D.v (V.ref (Ag v))),(2,D.ptr 0 0),(3,D.ptr 1 0),(4,di (↑(k+1):Int))]) (stQ v.n (take (k+1) v.kids))) ?_
  have ht:v.kids.take (k+1)=v.kids.take k++[x]:=by rw[List.take_add_one,hx];rfl
  refine⟨Hz (by rw[Hw];omega),rfl,by omega,AB hx,hk x (H4 hx),rfl,⟨?_,?_⟩,⟨trivial,trivial⟩,Ae (by omega),?_,?_,⟨ih (k+1) (by omega)⟩⟩
  ·simp only[Hw,HS,H3,H7];omega
  ·simp only[Hw,HS,H3,H7];omega
  ·rw[ht,DM]
  ·rw[ht,DM]
theorem JV(N:Nat):∀v:Val,v.size<=N->v.size<=1000000->Aa PP 92 [dV v] σ0 (dV v) σ0:=by
 induction N with
 |zero=>intro v h;have:=v.size_pos;omega
 |succ N ih=>
  intro v hN hv
  have hs:=v.size_eq
  refine sv Mf 27 [1] (.h .rn<|.h (.q 2 0)<|.h (.cl 1 1 1 2)<|.ls [ke 1,ke 2,ke 3,ch 4 (di (0:Nat))] (stQ v.n [])) (di 0=di (↑0:Int)/\Q [some [di 0,dn],some [di v.n,D.acc 1 nV]]/\Q [(1,2,nV)]/\I0 Mf σ0.H.length (dV v) σ0 [kl Kj [1,1,0,1,0,0],KI.blk 0,kc Kj [1,1,1]] (mkE 27 [(1,D.v (V.ref (Ag v))),(2,D.ptr 0 0),(3,D.ptr 1 0),(4,di (↑0:Int))]) (stQ v.n [])) ?_
  have:=P4 v hv (fun x hx=>by have:=Val.size_mem hx;exact ih x (by omega) (by omega)) _ 0 rfl
  exact⟨rfl,rfl,rfl,⟨by simpa using this⟩⟩
noncomputable abbrev Md:Func:= Tryz.f60
noncomputable def Kg:Code:=Md.body.getD .skip
def AA(v:Val):List Val->Nat
 |[]=>0
 |x::l=>if Aq x v<0 then AA v l+1 else 0
def CX(l:List Val)(v:Val):List Val:=match l[AA v l]? with
 |some x=>if (Aq x v==0)=true then l else l.take (AA v l)++v::l.drop (AA v l)
 |none=>l.take (AA v l)++v::l.drop (AA v l)
theorem Rz(v:Val):∀l:List Val,AA v l<=l.length
 |[]=>H5 _
 |x::l=>by
  have:=Rz v l
  unfold AA;split<;>simp only[H3]<;>omega
theorem Ry(v:Val):∀(l:List Val) (k:Nat),k<AA v l->∃x,l[k]?=some x/\Aq x v<0
 |[],k,h=>by simp[AA] at h
 |x::l,k,h=>by
  unfold AA at h
  split at h
  ·rename_i hx
   cases k with
   |zero=>exact⟨x,rfl,hx⟩
   |succ k=>exact Ry v l k (by omega)
  ·omega
theorem R0(v:Val):∀(l:List Val) (x:Val),l[AA v l]?=some x->¬Aq x v<0
 |[],x,h=>by simp at h
 |y::l,x,h=>by
  unfold AA at h
  split at h
  ·exact R0 v l x (by simpa using h)
  ·rename_i hy
   simp at h;subst h;exact hy
theorem XQ(l:List Val):∀x∈l.map eV,x.size=2:=fun x hx=>by
 obtain⟨y,_,rfl⟩:=Ie.1 hx
 rw[Cb];rfl
theorem ZH(l:List Val)(i j:Nat):∀x∈ ((l.map eV).take j).drop i,x.size=2:=fun x hx=>XQ l x (List.mem_of_mem_take (List.mem_of_mem_drop hx))
theorem Xr(l:List Val)(v:Val)(k:Nat):take k (l.map eV)++[Ag v]++List.drop k (l.map eV)=(l.take k++v::l.drop k).map eV:=by
 rw[←Cb];simp[List.map_take,List.map_drop]
theorem Rx(l:List Val)(v:Val)(k:Nat):D.v (V.list (List.drop 0 (take ((k:Nat):Int).toNat (l.map eV))++[Ag v]++List.drop ((k:Nat):Int).toNat (take (l.map eV).length (l.map eV))))=dVs (l.take k++v::l.drop k):=by
 rw[IP,List.take_length];exact HL (fun z=>D.v (V.list z)) (Xr l v k)
theorem Uy(l:List Val)(v:Val)(hl:Val.sizes l<=1000000)(hv:v.size<=1000000)(n:Nat):∀k:Nat,AA v l-k=n->k<=AA v l->
  Rn PP Md 0 (dVs (CX l v)) σ0 ([.lp (sub Kg [1,1,0,0,0]),.blk 0,.code (sub Kg [1,1,1])]++[]) (mkE 46 [(0,dVs l),(3,.v (.ref (Ag v))),(5,di k)]) σ0:=by
 have hil:=Rz v l
 have hll:=Val.length_le l
 induction n with
 |zero=>
  intro k hn hk0
  have hk:k=AA v l:=by omega
  subst hk
  cases hx:l[AA v l]? with
  |none=>
   have e1:CX l v=l.take (AA v l)++v::l.drop (AA v l):=by rw[CX,hx]
   have hlt:l.length<=AA v l:=List.getElem?_eq_none_iff.1 hx
   rw[e1]
   refine lv 46 [3] (.f<|.k<|.f<|.k<|.a 1<|.w<|.c (dV v)<|.w<|.w<|.r) (decide ((↑(AA v l):Int)<(length (map eV l):Int))=false/\decide ((↑(AA v l):Int)<(length (map eV l):Int))=false/\(∀(x:V),x∈map eV l->V.size x=2)/\0<=(fun x=>x.snd) (IntKind.i64,(↑(AA v l):Int))/\(fun x=>x.snd) (IntKind.i64,(↑(AA v l):Int))<=(length (map eV l):Int)/\Ax (length (List.drop 0 (take (Int.toNat ((fun x=>x.snd) (IntKind.i64,(↑(AA v l):Int)))) (map eV l)))) 32/\(∀(y:V),y∈List.drop 0 (take (Int.toNat ((fun x=>x.snd) (IntKind.i64,(↑(AA v l):Int)))) (map eV l))->V.size y=2)/\F0 92 [dV v] (dV v)/\Q (List.drop 0 (take (Int.toNat ((fun x=>x.snd) (IntKind.i64,(↑(AA v l):Int)))) (map eV l)))/\Ax (length (List.drop 0 (take (Int.toNat ((fun x=>x.snd) (IntKind.i64,(↑(AA v l):Int)))) (map eV l)))+length (Ag v::nV)) 32/\(∀(y:V),y∈ [Ag v]->V.size y=2)/\(∀(x:V),x∈map eV l->V.size x=2)/\0<=(fun x=>x.snd) (IntKind.i64,(↑(AA v l):Int))/\(fun x=>x.snd) (IntKind.i64,(↑(AA v l):Int))<=(length (map eV l):Int)/\Q (List.drop 0 (take (Int.toNat ((fun x=>x.snd) (IntKind.i64,(↑(AA v l):Int)))) (map eV l))++Ag v::nV)/\Ax (length (List.drop 0 (take (Int.toNat ((fun x=>x.snd) (IntKind.i64,(↑(AA v l):Int)))) (map eV l))++Ag v::nV)+length (List.drop (Int.toNat ((fun x=>x.snd) (IntKind.i64,(↑(AA v l):Int)))) (take (length (map eV l)) (map eV l)))) 32/\(∀(y:V),y∈List.drop (Int.toNat ((fun x=>x.snd) (IntKind.i64,(↑(AA v l):Int)))) (take (length (map eV l)) (map eV l))->V.size y=2)/\D.v (V.list (List.drop 0 (take (Int.toNat ((fun x=>x.snd) (IntKind.i64,(↑(AA v l):Int)))) (map eV l))++[Ag v]++List.drop (Int.toNat ((fun x=>x.snd) (IntKind.i64,(↑(AA v l):Int)))) (take (length (map eV l)) (map eV l))))=dVs (take (AA v l) l++v::List.drop (AA v l) l)) ?_
   have z0:(0:Int)<=(AA v l:Int):=by omega
   have z1:(AA v l:Int)<=((l.map eV).length:Int):=by rw[Hw];omega
   have z2:∀y∈ [Ag v],y.size=2:=fun y hy=>by rw[HE.1 hy];rfl
   repeat' first|with_reducible refine And.intro ?_ ?_
   all_goals first|exact H1 (by rw[Hw];omega)|exact XQ l|exact ZH l _ _|exact z2|exact JV _ v (H5 _) hv|exact z0|exact z1|exact HW _|rfl|(simp only[HC,I3,HS,Hw,H3,H7];omega)|exact Rx l v _
  |some x=>
   have hlt:=(H0.1 hx).1
   have hc:=R0 v l x hx
   have hsz:=Val.size_mem (H4 hx)
   have z0':(0:Int)<=(AA v l:Int):=by omega
   by_cases he:(Aq x v==0)=true
   ·have e1:CX l v=l:=by rw[CX,hx];simp only[he,I6]
    rw[e1]
    refine lv 46 [3] (.t<|.h (.xs (Ag x))<|.c (di (Aq x v))<|.f<|.t<|.h (.xs (Ag x))<|.c (db (Aq x v==0))<|.t<|.r) (decide ((↑(AA v l):Int)<(length (map eV l):Int))=true/\Q 2/\0<=(↑(AA v l):Int)/\(map eV l)[Int.toNat (↑(AA v l):Int)]?=some (Ag x)/\F0 56 [dV x,dV v] (di (Aq x v))/\decide (Aq x v<0)=false/\decide ((↑(AA v l):Int)<(length (map eV l):Int))=true/\Q 2/\0<=(↑(AA v l):Int)/\(map eV l)[Int.toNat (↑(AA v l):Int)]?=some (Ag x)/\F0 33 [dV x,dV v] (db (Aq x v==0))/\(Aq x v==0)=true/\dVs l=dVs l) ?_
    exact⟨Hz (by rw[Hw];omega),rfl,z0',AB hx,EG _ x v (H5 _) (by omega),H1 hc,Hz (by rw[Hw];omega),rfl,z0',AB hx,JD x v (by omega),he,rfl⟩
   ·have e1:CX l v=l.take (AA v l)++v::l.drop (AA v l):=by rw[CX,hx];simp only[he];rfl
    have he2:(Aq x v==0)=false:=by simpa using he
    rw[e1]
    refine lv 46 [3] (.t<|.h (.xs (Ag x))<|.c (di (Aq x v))<|.f<|.t<|.h (.xs (Ag x))<|.c (db (Aq x v==0))<|.f<|.a 1<|.w<|.c (dV v)<|.w<|.w<|.r) (decide ((↑(AA v l):Int)<(length (map eV l):Int))=true/\Q 2/\0<=(↑(AA v l):Int)/\(map eV l)[Int.toNat (↑(AA v l):Int)]?=some (Ag x)/\F0 56 [dV x,dV v] (di (Aq x v))/\decide (Aq x v<0)=false/\decide ((↑(AA v l):Int)<(length (map eV l):Int))=true/\Q 2/\0<=(↑(AA v l):Int)/\(map eV l)[Int.toNat (↑(AA v l):Int)]?=some (Ag x)/\F0 33 [dV x,dV v] (db (Aq x v==0))/\(Aq x v==0)=false/\(∀(x:V),x∈map eV l->V.size x=2)/\0<=(fun x=>x.snd) (IntKind.i64,(↑(AA v l):Int))/\(fun x=>x.snd) (IntKind.i64,(↑(AA v l):Int))<=(length (map eV l):Int)/\Ax (length (List.drop 0 (take (Int.toNat ((fun x=>x.snd) (IntKind.i64,(↑(AA v l):Int)))) (map eV l)))) 32/\(∀(y:V),y∈List.drop 0 (take (Int.toNat ((fun x=>x.snd) (IntKind.i64,(↑(AA v l):Int)))) (map eV l))->V.size y=2)/\F0 92 [dV v] (dV v)/\Q (List.drop 0 (take (Int.toNat ((fun x=>x.snd) (IntKind.i64,(↑(AA v l):Int)))) (map eV l)))/\Ax (length (List.drop 0 (take (Int.toNat ((fun x=>x.snd) (IntKind.i64,(↑(AA v l):Int)))) (map eV l)))+length (Ag v::nV)) 32/\(∀(y:V),y∈ [Ag v]->V.size y=2)/\(∀(x:V),x∈map eV l->V.size x=2)/\0<=(fun x=>x.snd) (IntKind.i64,(↑(AA v l):Int))/\(fun x=>x.snd) (IntKind.i64,(↑(AA v l):Int))<=(length (map eV l):Int)/\Q (List.drop 0 (take (Int.toNat ((fun x=>x.snd) (IntKind.i64,(↑(AA v l):Int)))) (map eV l))++Ag v::nV)/\Ax (length (List.drop 0 (take (Int.toNat ((fun x=>x.snd) (IntKind.i64,(↑(AA v l):Int)))) (map eV l))++Ag v::nV)+length (List.drop (Int.toNat ((fun x=>x.snd) (IntKind.i64,(↑(AA v l):Int)))) (take (length (map eV l)) (map eV l)))) 32/\(∀(y:V),y∈List.drop (Int.toNat ((fun x=>x.snd) (IntKind.i64,(↑(AA v l):Int)))) (take (length (map eV l)) (map eV l))->V.size y=2)/\D.v (V.list (List.drop 0 (take (Int.toNat ((fun x=>x.snd) (IntKind.i64,(↑(AA v l):Int)))) (map eV l))++[Ag v]++List.drop (Int.toNat ((fun x=>x.snd) (IntKind.i64,(↑(AA v l):Int)))) (take (length (map eV l)) (map eV l))))=dVs (take (AA v l) l++v::List.drop (AA v l) l)) ?_
    have z0:(0:Int)<=(AA v l:Int):=by omega
    have z1:(AA v l:Int)<=((l.map eV).length:Int):=by rw[Hw];omega
    have z2:∀y∈ [Ag v],y.size=2:=fun y hy=>by rw[HE.1 hy];rfl
    repeat' first|with_reducible refine And.intro ?_ ?_
    all_goals first|exact Hz (by rw[Hw];omega)|exact AB hx|exact EG _ x v (H5 _) (by omega)|exact H1 hc|exact JD x v (by omega)|exact he2|exact XQ l|exact ZH l _ _|exact z2|exact JV _ v (H5 _) hv|exact z0|exact z1|exact HW _|rfl|(simp only[HC,I3,HS,Hw,H3,H7];omega)|exact Rx l v _
 |succ n ih=>
  intro k hn hk0
  obtain⟨x,hx,hc⟩:=Ry v l k (by omega)
  have hlt:=(H0.1 hx).1
  have hsz:=Val.size_mem (H4 hx)
  refine lv 46 [3] (.t<|.h (.xs (Ag x))<|.c (di (Aq x v))<|.t<|.l [ke 0,ke 3,ch 5 (di (k+1:Nat))]) (decide ((k:Int)<(length (map eV l):Int))=true/\Q 2/\0<=(k:Int)/\(map eV l)[Int.toNat (k:Int)]?=some (Ag x)/\F0 56 [dV x,dV v] (di (Aq x v))/\decide (Aq x v<0)=true/\di (wrap IntKind.i64 ((k:Int)+1))=di (↑(k+1):Int)/\I0 Md 0 (dVs (CX l v)) σ0 [kl Kg [1,1,0,0,0],KI.blk 0,kc Kg [1,1,1]] (mkE 46 [(0,dVs l),(3,D.v (V.ref (Ag v))),(5,di (↑(k+1):Int))]) (St.mk [] [])) ?_
  exact⟨Hz (by rw[Hw];omega),rfl,by omega,AB hx,EG _ x v (H5 _) (by omega),Hz hc,Ae (by omega),⟨ih (k+1) (by omega) (by omega)⟩⟩
theorem Ux(l:List Val)(v:Val)(hl:Val.sizes l<=1000000)(hv:v.size<=1000000):Aa PP 60 [dVs l,dV v] σ0 (dVs (CX l v)) σ0:=by
 refine sv Md 46 [3] (.l [ke 0,ke 3,ch 5 (di (0:Nat))]) (di 0=di (↑0:Int)/\I0 Md σ0.H.length (dVs (CX l v)) σ0 [kl Kg [1,1,0,0,0],KI.blk 0,kc Kg [1,1,1]] (mkE 46 [(0,dVs l),(3,D.v (V.ref (Ag v))),(5,di (↑0:Int))]) σ0) ?_
 exact⟨rfl,⟨Uy l v hl hv _ 0 rfl (HW _)⟩⟩
abbrev lf(y:Int):Val:=.mk y []
def UL:List Int->List Int->Bool
 |n::ns,y::ys=> !decide (y<n)&&UL ns ys
 |_,_=>true
def enB(r:Rul)(s:Int)(ys:List Int):Bool:=(s==r.frm)&&UL r.need ys
abbrev cR(r:Rul):List D:=[.v (.str r.name),di r.frm,di r.to,dIs r.need,dIs r.give,dIs r.move,di r.chan,di r.act,di r.letter,dIs r.path,dIs r.next,.v (D8 r.takes),dIs r.makes,di r.second]
def RC:List Val->List Int->List Int->Val×Int
 |xs,w::ws,g::gs=>if decide (w+g>1048576)=true then(.mk 0 [],1) else RC (xs++[lf (w+g)]) ws gs
 |xs,_,_=>(.mk 0 xs,0)
def YF(r:Rul)(ys:List Int):List Int:=List.zipWith (fun y n=>y-n) ys r.need
def apM(r:Rul)(s:Int)(ys:List Int):Val×Int:=if enB r s ys=true then RC [lf r.to] (YF r ys) r.give else(.mk 0 [],18)
def X7(p:Val×Int):List Val×Int:=if (p.2==18)=true then([],0) else if (p.2 !=0)=true then([],p.2) else([p.1],0)
abbrev Stp:=Int×Val
def WB(ap:Int->List Val×Int):Nat->Int->List Stp->List Stp×Int
 |0,_,acc=>if decide ((acc.length:Int)>256)=true then([],1) else(acc,0)
 |n+1,i,acc=>if ((ap i).2 !=0)=true then([],(ap i).2) else WB ap n (i+1) (acc++(ap i).1.map fun v=>(i,v))
noncomputable abbrev Abl:Func:= Tryz.f5
theorem UK(s:List UInt8):Aa PP 5 [.v (vBs s)] σ0 (.ptr 0 0) (dz (s.take 200) 0):=by
 by_cases h:s.length>200
 ·refine sv Abl 11 [] (.t .ro) (decide ((length (map vb s):Int)>200)=true/\(∀(x:V),x∈map vb s->V.size x=1)/\0<=(200:Int)/\(200:Int)<=(length (map vb s):Int)/\okH 1 [] [some [D.v (V.list (List.drop 0 (take (Int.toNat ((200:Int))) (map vb s)))),di 0]]=true/\[some [D.v (V.list (List.drop 0 (take (Int.toNat ((200:Int))) (map vb s)))),di 0]]=[some (cDz (take 200 s) 0)]/\Q (D.ptr 0 0)) ?_
  have e:(s.take 200).map vb=List.drop 0 (take (Int.toNat 200) (s.map vb)):=by rw[List.map_take];rfl
  refine⟨by rw[Hw];exact Hz (by omega),by simp[V.size],by decide,by show(200:Int)<=_;rw[Hw];omega,rfl,?_,rfl⟩
  rw[cDz,vBs,e];rfl
 ·refine sv Abl 11 [] (.f .ro) (decide ((length (map vb s):Int)>200)=false/\okH 1 [] [some [D.v (vBs s),di 0]]=true/\[some [D.v (vBs s),di 0]]=[some (cDz (take 200 s) 0)]/\Q (D.ptr 0 0)) ?_
  refine⟨by rw[Hw];exact H1 (by omega),rfl,?_,rfl⟩
  rw[HQ (by omega)];rfl
def stV(c:Val):Int:=(c.kids.headD (.mk 0 [])).n
def nmV(c:Val):List Int:=c.kids.tail.map Val.n
theorem Zk(ys:List Int):(ys.map lf).map Val.n=ys:=by
 induction ys with
 |nil=>rfl
 |cons y ys ih=>simp only[HO,ih,lf,Val.n]
theorem QN(s:Int)(ys:List Int):stV (El s ys)=s:=rfl
theorem MR(s:Int)(ys:List Int):nmV (El s ys)=ys:=by
 show(map lf ys).map Val.n=ys
 exact Zk ys
structure Ee(m:Mod)(c:Val):Prop where
 eq:c=El (stV c) (nmV c)
 st:0<=stV c/\stV c<m.states.length
 len:(nmV c).length=m.places.length
 nm:∀y∈nmV c,0<=y/\y<=1048576
theorem AaX(m:Mod)(s:Int)(hs:0<=s/\s<m.states.length)(ys:List Int)(hy:ys.length=m.places.length)(h:∀y∈ys,0<=y/\y<=1048576):Ee m (El s ys):=
 ⟨by rw[QN,MR],by rw[QN];exact hs,by rw[MR];exact hy,by rw[MR];exact h⟩
structure PlC(m:Mod):Prop where
 ok:m.ok
 kind:m.kind=1
 move:∀r∈m.rules,r.move=[]
 start:Ee m m.start
 few:m.states.length<=2/\m.places.length<=2
structure Yf(m:Mod)(r:Rul):Prop where
 frm:0<=r.frm/\r.frm<m.states.length
 to:0<=r.to/\r.to<m.states.length
 needL:r.need.length=m.places.length
 giveL:r.give.length=m.places.length
 need:∀x∈r.need,0<=x/\x<=16
 give:∀x∈r.give,0<=x/\x<=16
 move:r.move=[]
theorem PlC.rule{m:Mod}(h:PlC m){r:Rul}(hr:r∈m.rules):Yf m r:=by
 have h1:=h.ok.right r hr
 rw[Dl,HJ h.kind] at h1
 simp only[CR,AY,Hy,Ii,HX] at h1
 obtain⟨h2,h3,⟨h4,h5,h6,h7⟩,_⟩:=h1
 have h2:=BC h2
 have h3:=BC h3
 exact⟨⟨h3.1,by omega⟩,⟨h2.1,by omega⟩,by omega,by omega,fun x hx=>BC (h6 x hx),fun x hx=>BC (h7 x hx),h.move r hr⟩
theorem PlC.places{m:Mod}(h:PlC m):1<=m.places.length/\m.places.length<=6/\1<=m.states.length/\m.states.length<=8/\m.rules.length<=12:=by
 obtain⟨h1,h2,h3,h4,h5,_⟩:=h.ok.sz
 omega
theorem Ee.size{m:Mod}(hm:PlC m){c:Val}(h:Ee m c):c.size<=8:=by
 rw[h.eq,Ez,h.len]
 have:=hm.places;omega
theorem Ee.valid{m:Mod}(hm:PlC m){c:Val}(h:Ee m c):Ak (AL m) c=true:=by
 rw[h.eq]
 exact J3 m hm.kind (by have:=hm.places;omega) _ h.st _ h.len h.nm
def apS(m:Mod)(c:Val)(i:Int):List Val×Int:=if i<0 then([],0) else match m.rules[i.toNat]? with
 |some r=>X7 (apM r (stV c) (nmV c))
 |none=>([],0)
def Hn(m:Mod)(c:Val):List Stp×Int:=WB (apS m c) (m.rules.length+1) (-1) []
def Fy(r:Rul)(ys:List Int):List Int:=List.zipWith (fun w g=>w+g) (YF r ys) r.give
theorem RB:∀(ws gs:List Int) (xs:List Val),((RC xs ws gs).2=0/\(RC xs ws gs).1=.mk 0 (xs++(List.zipWith (fun w g=>w+g) ws gs).map lf)/\∀y∈List.zipWith (fun w g=>w+g) ws gs,y<=1048576)∨RC xs ws gs=(.mk 0 [],1)
 |[],gs,xs=>.inl ⟨by simp[RC],by simp[RC],by simp⟩
 |w::ws,[],xs=>.inl ⟨by simp[RC],by simp[RC],by simp⟩
 |w::ws,g::gs,xs=>by
  by_cases h:w+g>1048576
  ·exact .inr (by rw[RC,HJ (Hz h)])
  ·rw[RC,HF (by rw[H1 h];decide)]
   rcases RB ws gs (xs++[lf (w+g)]) with⟨h1,h2,h3⟩|h1
   ·refine .inl ⟨h1,by rw[h2];simp,fun y hy=>?_⟩
    simp only[List.zipWith_cons_cons,Ib] at hy
    rcases hy with rfl|hy
    ·omega
    ·exact h3 y hy
   ·exact .inr h1
theorem Oa:∀{ns ys:List Int},UL ns ys=true->∀(i:Nat) (n y:Int),ns[i]?=some n->ys[i]?=some y->n<=y
 |[],ys,_,i,n,y,h,_=>by simp at h
 |n::ns,[],_,i,n',y,_,h=>by simp at h
 |n::ns,y::ys,h,i,n',y',h1,h2=>by
  simp only[UL,Hy,Io,IF] at h
  cases i with
  |zero=>simp at h1 h2;subst h1;subst h2;omega
  |succ i=>exact Oa h.2 i n' y' (by simpa using h1) (by simpa using h2)
theorem PL{m:Mod}{r:Rul}(hr:Yf m r){ys:List Int}(hy:ys.length=m.places.length):(Fy r ys).length=m.places.length:=by
 have h1:=hr.needL;have h2:=hr.giveL
 simp only[Fy,YF,List.length_zipWith];omega
theorem Tf{r:Rul}{ys:List Int}{i:Nat}{z:Int}(h:(Fy r ys)[i]?=some z):∃y n g,ys[i]?=some y/\r.need[i]?=some n/\r.give[i]?=some g/\z=y-n+g:=by
 simp only[Fy,YF,List.getElem?_zipWith] at h
 split at h
 ·rename_i w g h1 h2
  split at h1
  ·rename_i y n h3 h4
   simp at h h1
   exact⟨y,n,g,h3,h4,h2,by omega⟩
  ·simp at h1
 ·simp at h
theorem ZR{m:Mod}{r:Rul}(hr:Yf m r){c:Val}(hc:Ee m c):
  ((apM r (stV c) (nmV c)).2=0/\stV c=r.frm/\(apM r (stV c) (nmV c)).1=El r.to (Fy r (nmV c))/\Ee m (El r.to (Fy r (nmV c))))∨(apM r (stV c) (nmV c)).2=1∨(apM r (stV c) (nmV c)).2=18:=by
 unfold apM
 split
 ·rename_i he
  simp only[enB,Hy,HX] at he
  rcases RB (YF r (nmV c)) r.give [lf r.to] with⟨h1,h2,h3⟩|h1
  ·refine .inl ⟨h1,he.1,by rw[h2];rfl,AaX m _ hr.to _ (PL hr hc.len) fun z hz=>⟨?_,h3 z hz⟩⟩
   obtain⟨i,hi⟩:=List.getElem?_of_mem hz
   obtain⟨y,n,g,a1,a2,a3,rfl⟩:=Tf hi
   have b1:=Oa he.2 i n y a2 a1
   have b2:=(hr.give g (H4 a3)).1
   omega
  ·exact .inr (.inl (by rw[h1]))
 ·exact .inr (.inr rfl)
structure Ti(m:Mod)(c:Val)(s:Stp):Prop where
 rule:∃(i:Nat) (r:Rul),s.1=i/\m.rules[i]?=some r/\stV c=r.frm/\s.2=El r.to (Fy r (nmV c))/\apM r (stV c) (nmV c)=(s.2,0)
 ok:Ee m s.2
theorem Tc{m:Mod}(hm:PlC m){c:Val}(hc:Ee m c)(i:Int):((apS m c i).2=0∨(apS m c i).2=1)/\(apS m c i).1.length<=1/\∀v∈ (apS m c i).1,Ti m c (i,v):=by
 unfold apS
 split
 ·exact⟨.inl rfl,by simp,by simp⟩
 ·rename_i h0
  split
  ·rename_i r hi
   have hr:=hm.rule (H4 hi)
   rcases ZR hr hc with⟨h1,h2,h3,h4⟩|h1|h1
   ·have:X7 (apM r (stV c) (nmV c))=([El r.to (Fy r (nmV c))],0):=by
     rw[X7,HF (by rw[h1];decide),HF (by rw[h1];decide),h3]
    rw[this]
    refine⟨.inl rfl,by simp,fun v hv=>?_⟩
    rw[HE.1 hv]
    exact⟨⟨i.toNat,r,by show i=_;omega,hi,h2,rfl,by rw[←h3, ←h1]⟩,h4⟩
   ·have:X7 (apM r (stV c) (nmV c))=([],1):=by rw[X7,HF (by rw[h1];decide),HJ (by rw[h1];decide),h1]
    rw[this];exact⟨.inr rfl,by simp,by simp⟩
   ·have:X7 (apM r (stV c) (nmV c))=([],0):=by rw[X7,HJ (by rw[h1];decide)]
    rw[this];exact⟨.inl rfl,by simp,by simp⟩
  ·exact⟨.inl rfl,by simp,by simp⟩
theorem Te{ap:Int->List Val×Int}(he:∀i,(ap i).2=0∨(ap i).2=1)(hl:∀i,(ap i).1.length<=1){Q:Stp->Prop}(hq:∀i,∀v∈ (ap i).1,Q (i,v)):∀(n:Nat) (i:Int) (acc:List Stp),(∀s∈acc,Q s)->
  ((WB ap n i acc).2=0∨(WB ap n i acc).2=1)/\(WB ap n i acc).1.length<=acc.length+n/\∀s∈ (WB ap n i acc).1,Q s
 |0,i,acc,ha=>by
  rw[WB]
  split
  ·exact⟨.inr rfl,by simp,by simp⟩
  ·exact⟨.inl rfl,by simp,ha⟩
 |n+1,i,acc,ha=>by
  rw[WB]
  split
  ·exact⟨he i,by simp,by simp⟩
  ·obtain⟨h1,h2,h3⟩:=Te he hl hq n (i+1) (acc++(ap i).1.map fun v=>(i,v)) (fun s hs=>by
    rcases Ij.1 hs with hs|hs
    ·exact ha s hs
    ·obtain⟨v,hv,rfl⟩:=Ie.1 hs
     exact hq i v hv)
   have:=hl i
   exact⟨h1,by simp only[HC,Hw] at h2;omega,h3⟩
theorem QM{m:Mod}(hm:PlC m){c:Val}(hc:Ee m c):((Hn m c).2=0∨(Hn m c).2=1)/\(Hn m c).1.length<=13/\∀s∈ (Hn m c).1,Ti m c s:=by
 have:=hm.places
 obtain⟨h1,h2,h3⟩:=Te (ap:=apS m c) (fun i=>(Tc hm hc i).1) (fun i=>(Tc hm hc i).2.1) (Q:=Ti m c) (fun i=>(Tc hm hc i).2.2) (m.rules.length+1) (-1) [] (by simp)
 exact⟨h1,by simp only[H7] at h2;exact Is h2 (by omega),h3⟩
inductive ZU (m:Mod) (c:Val):List Stp->Val->Prop where
 |nil:ZU m c [] c
 |snoc {l:List Stp} {d:Val} {s:Stp}:ZU m c l d->(Hn m d).2=0->s∈ (Hn m d).1->ZU m c (l++[s]) s.2
theorem ZU.ok{m:Mod}(hm:PlC m){c d:Val}{l:List Stp}(hc:Ee m c)(h:ZU m c l d):Ee m d:=by
 induction h with
 |nil=>exact hc
 |snoc _ _ hs ih=>exact((QM hm ih).2.2 _ hs).ok
structure Lin{α:Type}(c:α->α->Int)(S:α->Prop):Prop where
 refl:∀x,S x->c x x=0
 eq:∀x y,S x->S y->c x y=0->x=y
 swap:∀x y,S x->S y->(c x y<0↔0<c y x)
 trans:∀x y z,S x->S y->S z->c x y<0->c y z<0->c x z<0
theorem V6:Lin B2 fun _=>True:=by
 constructor<;>simp only[B2]<;>intros<;>(repeat' split at*)<;>(repeat' split)<;>omega
theorem V5{α:Type}{c:α->α->Int}{S:α->Prop}(h:Lin c S):Lin (BD c) fun l=>∀x∈l,S x:=by
 have rfl':∀l:List α,(∀x∈l,S x)->BD c l l=0:=by
  intro l
  induction l with
  |nil=>intro _;rfl
  |cons x l ih=>intro hs;rw[BD,HJ (h.refl x (hs x (by simp)))];exact ih fun y hy=>hs y (by simp[hy])
 have eq':∀a b:List α,(∀x∈a,S x)->(∀x∈b,S x)->BD c a b=0->a=b:=by
  intro a
  induction a with
  |nil=>intro b _ _ e;cases b with
   |nil=>rfl
   |cons y b=>simp[BD] at e
  |cons x a ih=>intro b ha hb e;cases b with
   |nil=>simp[BD] at e
   |cons y b=>
    simp only[BD] at e
    split at e
    ·rename_i h0
     rw[h.eq x y (ha x (by simp)) (hb y (by simp)) h0,ih b (fun z hz=>ha z (by simp[hz])) (fun z hz=>hb z (by simp[hz])) e]
    ·exact absurd e (by assumption)
 have c0:∀x y,S x->S y->(c x y=0↔c y x=0):=fun x y hx hy=>by
  have h1:=h.swap x y hx hy
  have h2:=h.swap y x hy hx
  constructor<;>intro _<;>omega
 have sw:∀a b:List α,(∀x∈a,S x)->(∀x∈b,S x)->(BD c a b<0↔0<BD c b a):=by
  intro a
  induction a with
  |nil=>intro b _ _;cases b<;>simp[BD]
  |cons x a ih=>intro b ha hb;cases b with
   |nil=>simp[BD]
   |cons y b=>
    have hx:=ha x (by simp);have hy:=hb y (by simp)
    simp only[BD]
    by_cases h0:c x y=0
    ·rw[HJ h0,HJ ((c0 x y hx hy).1 h0)];exact ih b (fun z hz=>ha z (by simp[hz])) (fun z hz=>hb z (by simp[hz]))
    ·rw[HF h0,HF (fun e=>h0 ((c0 x y hx hy).2 e))];exact h.swap x y hx hy
 have tr:∀a b d:List α,(∀x∈a,S x)->(∀x∈b,S x)->(∀x∈d,S x)->BD c a b<0->BD c b d<0->BD c a d<0:=by
  intro a
  induction a with
  |nil=>intro b d _ _ _ h1 h2;cases b with
   |nil=>simp[BD] at h1
   |cons y b=>cases d with
    |nil=>simp[BD] at h2
    |cons z d=>simp[BD]
  |cons x a ih=>intro b d ha hb hd h1 h2;cases b with
   |nil=>simp[BD] at h1
   |cons y b=>cases d with
    |nil=>simp[BD] at h2
    |cons z d=>
     have hx:=ha x (by simp);have hy:=hb y (by simp);have hz:=hd z (by simp)
     have ha':∀w∈a,S w:=fun w hw=>ha w (by simp[hw])
     have hb':∀w∈b,S w:=fun w hw=>hb w (by simp[hw])
     have hd':∀w∈d,S w:=fun w hw=>hd w (by simp[hw])
     simp only[BD] at*
     by_cases e1:c x y=0
     ·have:=h.eq x y hx hy e1;subst this
      rw[HJ e1] at h1
      by_cases e2:c x z=0
      ·rw[HJ e2] at h2⊢
       exact ih b d ha' hb' hd' h1 h2
      ·rw[HF e2] at h2⊢;exact h2
     ·rw[HF e1] at h1
      by_cases e2:c y z=0
      ·have:=h.eq y z hy hz e2;subst this
       rw[HF e1];exact h1
      ·rw[HF e2] at h2
       have:=h.trans x y z hx hy hz h1 h2
       rw[HF (by omega)];exact this
 exact⟨rfl',eq',sw,tr⟩
theorem Fw(a b:Val):Aq a b=if B2 a.n b.n=0 then(if B2 a.kids.length b.kids.length=0 then BD Aq a.kids b.kids else B2 a.kids.length b.kids.length) else B2 a.n b.n:=by
 rw[SQ, ←or3]
theorem Val.ext:∀{a b:Val},a.n=b.n->a.kids=b.kids->a=b
 |.mk _ _,.mk _ _,rfl,rfl=>rfl
theorem SR(N:Nat):Lin Aq fun v=>v.size<=N:=by
 induction N with
 |zero=>exact⟨fun x h=>absurd x.size_pos (by omega),fun x _ h=>absurd x.size_pos (by omega),fun x _ h=>absurd x.size_pos (by omega),fun x _ _ h=>absurd x.size_pos (by omega)⟩
 |succ N ih=>
  have hL:=V5 ih
  have hk:∀v:Val,v.size<=N+1->∀x∈v.kids,x.size<=N:=fun v hv x hx=>by
   have:=v.size_eq;have:=Val.size_mem hx;omega
  have h1:=V6
  have i0:∀x y:Int,B2 x y=0↔B2 y x=0:=fun x y=>by
   have a:=h1.swap x y trivial trivial
   have b:=h1.swap y x trivial trivial
   constructor<;>intro _<;>omega
  refine⟨fun x hx=>?_,fun x y hx hy e=>?_,fun x y hx hy=>?_,fun x y z hx hy hz e1 e2=>?_⟩
  ·rw[Fw,HJ (h1.refl _ trivial),HJ (h1.refl _ trivial)];exact hL.refl _ (hk x hx)
  ·rw[Fw] at e
   split at e
   ·rename_i a1
    split at e
    ·exact Val.ext (h1.eq _ _ trivial trivial a1) (hL.eq _ _ (hk x hx) (hk y hy) e)
    ·exact absurd e (by assumption)
   ·exact absurd e (by assumption)
  ·rw[Fw,Fw y x]
   by_cases a1:B2 x.n y.n=0
   ·rw[HJ a1,HJ ((i0 _ _).1 a1)]
    by_cases a2:B2 x.kids.length y.kids.length=0
    ·rw[HJ a2,HJ ((i0 _ _).1 a2)];exact hL.swap _ _ (hk x hx) (hk y hy)
    ·rw[HF a2,HF (fun e=>a2 ((i0 _ _).2 e))];exact h1.swap _ _ trivial trivial
   ·rw[HF a1,HF (fun e=>a1 ((i0 _ _).2 e))];exact h1.swap _ _ trivial trivial
  ·rw[Fw] at e1 e2⊢
   by_cases a1:B2 x.n y.n=0
   ·rw[HJ a1] at e1
    have b1:=h1.eq _ _ trivial trivial a1
    rw[b1]
    by_cases c1:B2 y.n z.n=0
    ·rw[HJ c1] at e2⊢
     by_cases a2:B2 x.kids.length y.kids.length=0
     ·rw[HJ a2] at e1
      have b2:=h1.eq _ _ trivial trivial a2
      rw[b2]
      by_cases c2:B2 y.kids.length z.kids.length=0
      ·rw[HJ c2] at e2⊢;exact hL.trans _ _ _ (hk x hx) (hk y hy) (hk z hz) e1 e2
      ·rw[HF c2] at e2⊢;exact e2
     ·rw[HF a2] at e1
      by_cases c2:B2 y.kids.length z.kids.length=0
      ·have b2:=h1.eq _ _ trivial trivial c2
       rw[←b2,HF a2];exact e1
      ·rw[HF c2] at e2
       have:=h1.trans _ _ _ trivial trivial trivial e1 e2
       rw[HF (by omega)];exact this
    ·rw[HF c1] at e2⊢;exact e2
   ·rw[HF a1] at e1
    by_cases c1:B2 y.n z.n=0
    ·have b1:=h1.eq _ _ trivial trivial c1
     rw[←b1,HF a1];exact e1
    ·rw[HF c1] at e2
     have:=h1.trans _ _ _ trivial trivial trivial e1 e2
     rw[HF (by omega)];exact this
theorem Ey:Lin Aq fun _=>True:=by
 have h:∀x y z:Val,Lin Aq fun v=>v.size<=x.size+y.size+z.size:=fun x y z=>SR _
 exact⟨fun x _=>(h x x x).refl x (by omega),fun x y _ _ e=>(h x y y).eq x y (by omega) (by omega) e,fun x y _ _=>(h x y y).swap x y (by omega) (by omega),fun x y z _ _ _ e1 e2=>(h x y z).trans x y z (by omega) (by omega) (by omega) e1 e2⟩
theorem FJ{a b:Val}:Aq a b=0↔a=b:=⟨fun h=>Ey.eq a b trivial trivial h,fun h=>by rw[h];exact Ey.refl b trivial⟩
def WC(np age:Int)(v:Val):Prop:=∃p g:Int,(0<=p/\p<np)/\(0<=g/\g<age+2)/\v=.mk 0 [.mk p [],.mk g []]
structure VF(np age:Int)(n:Nat)(ts:List Val):Prop where
 tok:∀t∈ts,WC np age t
 len:ts.length<=n
 asc:∀i x y,ts[i]?=some x->ts[i+1]?=some y->Aq x y<0
theorem WC.sz{np age:Int}{v:Val}(h:WC np age v):v.size=3:=by
 obtain⟨p,g,_,_,rfl⟩:=h;rfl
theorem MC{np age:Int}:∀(ts:List Val),(∀t∈ts,WC np age t)->Val.sizes ts=3*ts.length
 |[],_=>rfl
 |t::ts,h=>by
  have h1:=(h t (by simp)).sz
  have h2:=MC ts fun z hz=>h z (by simp[hz])
  simp only[Val.sizes,H3];omega
theorem ZQ{np age:Int}{v:Val}(h:WC np age v):VF np age 1 [v]:=⟨fun t ht=>by rw[HE.1 ht];exact h,by simp,fun i x y _ hy=>by simp at hy⟩
theorem Xq{np age:Int}{ts:List Val}{v:Val}(h:VF np age 1 ts)(hv:WC np age v):VF np age 2 (CX ts v):=by
 match ts,h with
 |[],_=>exact⟨(ZQ hv).tok,by simp[CX,AA],(ZQ hv).asc⟩
 |[x],h=>
  have hx:=h.tok x (by simp)
  by_cases hc:Aq x v<0
  ·have e:CX [x] v=[x,v]:=by simp[CX,AA,hc]
   rw[e]
   refine⟨fun t ht=>?_,by simp,fun i a b ha hb=>?_⟩
   ·rcases Ib.1 ht with rfl|ht
    ·exact hx
    ·rw[HE.1 ht];exact hv
   ·match i,ha,hb with
    |0,ha,hb=>simp at ha hb;subst ha hb;exact hc
    |i+1,_,hb=>simp at hb
  ·by_cases he:(Aq x v==0)=true
   ·have e:CX [x] v=[x]:=by simp only[CX,AA,hc,if_false,List.getElem?_cons_zero,he,I6]
    rw[e]
    exact⟨h.tok,by simp,fun i a b ha hb=>by simp at hb⟩
   ·have e:CX [x] v=[v,x]:=by simp only[CX,AA,hc,if_false,List.getElem?_cons_zero,he];rfl
    rw[e]
    refine⟨fun t ht=>?_,by simp,fun i a b ha hb=>?_⟩
    ·rcases Ib.1 ht with rfl|ht
     ·exact hv
     ·rw[HE.1 ht];exact hx
    ·match i,ha,hb with
     |0,ha,hb=>
      simp at ha hb;subst ha hb
      have:=(Ey.swap v x trivial trivial).2
      have he:Aq x v≠0:=by simpa using he
      exact this (by omega)
     |i+1,_,hb=>simp at hb
 |_::_::_,h=>exact absurd h.len (by simp)
noncomputable abbrev PS:Func:= Tryz.f39
noncomputable def ER:Code:=PS.body.getD .skip
abbrev FL(l:List UInt8)(a:Nat):St:=⟨[some (cDz l a),some [di 0,.v .nils]],[]⟩
theorem KW(l:List UInt8)(hl:l.length<=200)(m:Mod)(hpl:1<=m.places.length/\m.places.length<=2)(hag:0<=m.age/\m.age<=3)(k:Nat)(hk:k<=2)(a:Nat)(ha:a<=l.length)(ts:List Val)(hts:Val.sizes ts<=1000):
  ∃(t:Val) (a':Nat),WC m.places.length m.age t/\a'<=l.length/\∀(d:D) (σ':St),Rn PP PS 1 d σ' ([.lp (sub ER [1,1,0,1,0,0]),.blk 0,.code (sub ER [1,1,1])]++[]) (mkE 43 [(0,.ptr 0 0),(4,.v (.ref (Az m))),(6,.ptr 1 0),(7,dVs (CX ts t)),(8,di k)]) (FL l a')->
   Rn PP PS 1 d σ' ([.lp (sub ER [1,1,0,1,0,0]),.blk 0,.code (sub ER [1,1,1])]++[]) (mkE 43 [(0,.ptr 0 0),(4,.v (.ref (Az m))),(6,.ptr 1 0),(7,dVs ts),(8,di (k+1:Nat))]) (FL l a):=by
 obtain⟨p,a1,p1,p2,p3,p4⟩:=Al l hl a ha m.places.length (by omega) (by omega)
 obtain⟨g,a2,q1,q2,q3,q4⟩:=Al l hl a1 p3 (m.age+2) (by omega) (by omega)
 obtain⟨t,ht⟩:∃t:Val,t=.mk 0 [.mk p [],.mk g []]:=⟨_,rfl⟩
 refine⟨t,a2,⟨p,g,⟨p1,p2⟩,⟨q1,q2⟩,ht⟩,q3,fun d σ' hrn=>?_⟩
 refine lv 43 [4] (.t<|.c1 (cDz l a1) (di p)<|.c1 (cDz l a2) (di g)<|.c (dVs (CX ts t))<|.ls [ke 0,ke 4,ke 6,ch 7 (dVs (CX ts t)),ch 8 (di k)] (FL l a2)) (decide ((↑(k+1):Int)>0)=true/\Aa PP 18 [D.ptr 0 0,di (length (map V.str m.places):Int)] (dz l a) (di p) (dz l a1)/\Aa PP 18 [D.ptr 0 0,di (wrap IntKind.i64 (m.age+2))] (dz l a1) (di g) (dz l a2)/\F0 60 [dVs ts,D.v (V.agg [vi 0,V.list [V.agg [vi p,V.list []],V.agg [vi g,V.list []]]])] (dVs (CX ts t))/\Q (dVs (CX ts t))/\di (wrap IntKind.i64 ((↑(k+1):Int)-1))=di (k:Int)/\Q [some (cDz l a2),some [di 0,dn]]/\I0 PS 1 d σ' [kl ER [1,1,0,1,0,0],KI.blk 0,kc ER [1,1,1]] (mkE 43 [(0,D.ptr 0 0),(4,D.v (V.ref (Az m))),(6,D.ptr 1 0),(7,dVs (CX ts t)),(8,di (k:Int))]) (FL l a2)) ?_
 rw[show wrap IntKind.i64 (m.age+2)=m.age+2 from Ai (by omega) (by omega),show wrap IntKind.i64 ((k+1:Nat)-1:Int)=(k:Int) from by rw[Ai (by omega) (by omega)];omega]
 refine⟨Hz (by omega),by rw[Hw];exact p4,q4,?_,rfl,rfl,rfl,⟨hrn⟩⟩
 subst ht
 exact Ux ts (.mk 0 [.mk p [],.mk g []]) (by omega) (by show 3<=1000000;decide)
theorem Yb(l:List UInt8)(hl:l.length<=200)(m:Mod)(hst:1<=m.states.length/\m.states.length<=3)(a:Nat)(ha:a<=l.length)(ts:List Val):
  ∃(s:Int) (a':Nat),(0<=s/\s<m.states.length)/\a'<=l.length/\Rn PP PS 1 (dV (.mk 0 [.mk s [],.mk 0 ts])) (dz l a') ([.lp (sub ER [1,1,0,1,0,0]),.blk 0,.code (sub ER [1,1,1])]++[]) (mkE 43 [(0,.ptr 0 0),(4,.v (.ref (Az m))),(6,.ptr 1 0),(7,dVs ts),(8,di (0:Nat))]) (FL l a):=by
 obtain⟨s,a1,p1,p2,p3,p4⟩:=Al l hl a ha m.states.length (by omega) (by omega)
 refine⟨s,a1,⟨p1,p2⟩,p3,?_⟩
 refine lv 43 [4] (.f<|.c1 (cDz l a1) (di s) .r) (decide ((↑0:Int)>0)=false/\Aa PP 18 [D.ptr 0 0,di (length (map V.str m.states):Int)] (dz l a) (di s) (dz l a1)/\Q [some (cDz l a1)]/\D.v (V.agg [vi 0,V.list [V.agg [vi s,V.list []],V.agg [vi 0,vVs ts]]])=dV (Val.mk 0 [Val.mk s [],Val.mk 0 ts])) ?_
 refine⟨by decide,by rw[Hw];exact p4,rfl,?_⟩
 show D.v (V.agg [vi 0,V.list [Ag (.mk s []),Ag (.mk 0 ts)]])=_
 rw[←Cb, ←Cb];rfl
theorem slV:BW PP 23=some (25,2,32,some (.agg #[.int .i64 0,.slice none 0 0])):=by kernel_rfl
theorem XZ{o:Oper}{σ:St}(ho:o.op=.buildSlice 23 2 #[(0,.tmp 38),(1,.tmp 40)])(x y:Val):Ap PP o [.v (Ag x),.v (Ag y)] σ (.gro σ.H.length 2 2) ⟨σ.H++[some (B5 [Ag x,Ag y])],σ.own⟩:=
 J7 ho (by rfl) rfl slV rfl (ds:=[.v (Ag x),.v (Ag y)]) (xs:=[Ag x,Ag y]) rfl (fun z hz=>by simp at hz;rcases hz with rfl|rfl<;>rfl) (by decide) (by decide) (by decide)
theorem VA(l:List UInt8)(hl:l.length<=200)(m:Mod)(hst:1<=m.states.length/\m.states.length<=3)(a:Nat)(ha:a<=l.length)(ts:List Val):
  ∃(s:Int) (a':Nat),(0<=s/\s<m.states.length)/\a'<=l.length/\Rn PP PS 1 (.dagg [di 0,.gro 2 2 2]) ⟨[some (cDz l a'),some [di 0,.gro 2 2 2],some (B5 [Ag (.mk s []),Ag (.mk 0 ts)])],[]⟩ ([.lp (sub ER [1,1,0,1,0,0]),.blk 0,.code (sub ER [1,1,1])]++[]) (mkE 43 [(0,.ptr 0 0),(4,.v (.ref (Az m))),(6,.ptr 1 0),(7,dVs ts),(8,di (0:Nat))]) (FL l a):=by
 obtain⟨s,a1,p1,p2,p3,p4⟩:=Al l hl a ha m.states.length (by omega) (by omega)
 refine⟨s,a1,⟨p1,p2⟩,p3,?_⟩
 refine lv 43 [4] (.f<|.c1 (cDz l a1) (di s)<|.h (.q 6 8)<|.h (.o (.gro 2 2 2) ⟨[some (cDz l a1),some [di 0,.v .nils],some (B5 [Ag (.mk s []),Ag (.mk 0 ts)])],[]⟩)<|.h .g<|.h .ww<|.rd) (decide ((↑0:Int)>0)=false/\Aa PP 18 [D.ptr 0 0,di (length (map V.str m.states):Int)] (dz l a) (di s) (dz l a1)/\Ap PP (Oper.mk (some 41) (Op.buildSlice 23 2 #[(0,Operand.tmp 38),(1,Operand.tmp 40)]) 23 "play.go:141" #[Edge.mk 5 Ground.data,Edge.mk 7 Ground.data] none) [D.v (V.agg [vi s,V.list []]),D.v (V.agg [vi 0,vVs ts])] (St.mk [some (cDz l a1),some [di 0,dn]] []) (D.gro 2 2 2) (St.mk [some (cDz l a1),some [di 0,dn],some [di (Val.n (Val.mk s [])),D.v (vVs (Val.kids (Val.mk s []))),di (Val.n (Val.mk 0 ts)),D.v (vVs (Val.kids (Val.mk 0 ts)))]] [])/\2<=2/\Q [some (cDz l a1),some [di 0,D.gro 2 2 2],some [di (Val.n (Val.mk s [])),D.v (vVs (Val.kids (Val.mk s []))),di (Val.n (Val.mk 0 ts)),D.v (vVs (Val.kids (Val.mk 0 ts)))]]/\Q (D.dagg [di 0,D.gro 2 2 2])) ?_
 exact⟨by decide,by rw[Hw];exact p4,XZ (σ:=⟨[some (cDz l a1),some [di 0,.v .nils]],[]⟩) rfl (.mk s []) (.mk 0 ts),by decide,rfl,rfl⟩
theorem ZK{σ:St}{t:Nat}(e:List D)(he:e[t]?=some (.v .nils)):Cv e σ (e.set t (.v (.list []))) σ:=fun E g a w hf=>by
 obtain⟨u,hu,hr⟩:=BJ hf.env he
 refine⟨g,hf.wi,?_,hf.defers⟩
 have:=CU hf.env t (d:=.v (.list [])) (u:=u) (Es hr)
 rwa[Er hu] at this
theorem Oz(l:List UInt8)(hl:l.length<=200)(m:Mod)(hpl:1<=m.places.length/\m.places.length<=2)(hag:0<=m.age/\m.age<=3)(a:Nat)(ha:a<=l.length)(r:Nat)(hr:r<=2):
  ∃(ts:List Val) (a':Nat),VF m.places.length m.age 2 ts/\a'<=l.length/\∀(d:D) (σ':St),Rn PP PS 1 d σ' ([.lp (sub ER [1,1,0,1,0,0]),.blk 0,.code (sub ER [1,1,1])]++[]) (mkE 43 [(0,.ptr 0 0),(4,.v (.ref (Az m))),(6,.ptr 1 0),(7,dVs ts),(8,di (0:Nat))]) (FL l a')->
   Rn PP PS 1 d σ' ([.lp (sub ER [1,1,0,1,0,0]),.blk 0,.code (sub ER [1,1,1])]++[]) (mkE 43 [(0,.ptr 0 0),(4,.v (.ref (Az m))),(6,.ptr 1 0),(7,dVs []),(8,di (r:Nat))]) (FL l a):=by
 rcases(show r=0∨r=1∨r=2 by omega) with rfl|rfl|rfl
 ·exact⟨[],a,⟨fun t ht=>by simp at ht,by simp,fun i x y hx=>by simp at hx⟩,ha,fun d σ' h=>h⟩
 ·obtain⟨t,a1,h1,h2,h3⟩:=KW l hl m hpl hag 0 (by omega) a ha [] (by decide)
  exact⟨CX [] t,a1,⟨(ZQ h1).tok,by simp[CX,AA],(ZQ h1).asc⟩,h2,h3⟩
 ·obtain⟨t,a1,h1,h2,h3⟩:=KW l hl m hpl hag 1 (by omega) a ha [] (by decide)
  obtain⟨t2,a2,h4,h5,h6⟩:=KW l hl m hpl hag 0 (by omega) a1 h2 [t] (by simp only[Val.sizes,h1.sz];decide)
  exact⟨CX [t] t2,a2,Xq (ZQ h1) h4,h5,fun d σ' h=>h3 d σ' (h6 d σ' h)⟩
theorem ZP(l:List UInt8)(hl:l.length<=200)(m:Mod)(hst:1<=m.states.length/\m.states.length<=3)(hpl:1<=m.places.length/\m.places.length<=2)(hag:0<=m.age/\m.age<=3)(a:Nat)(ha:a<=l.length):
  ∃(s:Int) (ts:List Val) (a':Nat),(0<=s/\s<m.states.length)/\VF m.places.length m.age 2 ts/\a'<=l.length/\Aa PP 39 [.ptr 0 0,Ad m,di 2] (dz l a) (dV (.mk 0 [.mk s [],.mk 0 ts])) (dz l a'):=by
 obtain⟨r,a1,p1,p2,p3,p4⟩:=Al l hl a ha 3 (by decide) (by decide)
 obtain⟨r,rfl⟩:∃n:Nat,r=n:=⟨r.toNat,by omega⟩
 obtain⟨ts,a2,h1,h2,h3⟩:=Oz l hl m hpl hag a1 p3 r (by omega)
 obtain⟨s,a3,h4,h5,h6⟩:=Yb l hl m hst a2 h2 ts
 refine⟨s,ts,a3,h4,h1,h5,?_⟩
 have hrn:=h3 _ _ h6
 refine sv PS 43 [4] (.h (.q 2 0)<|.h (.ct 7 (dVs []) (FL l a))<|.c1 (cDz l a1) (di r)<|.ls [ke 0,ke 4,ke 6,ch 7 (dVs []),ch 8 (di r)] (FL l a1)) ((∀(e:List D),e[7]?=some (dn)->∀(E:Ent) (g:Gh) (a_2:Act) (w:World),FI E g (St.mk [some (cDz l a),some [D.v (V.int IntKind.i64 0),dn]] (dz l a).own) e a_2 w->∃g',FI E g' (FL l a) (List.set e 7 (dVs [])) a_2 w)/\Aa PP 18 [D.ptr 0 0,di (wrap IntKind.i64 (2+1))] (dz l a) (di (r:Int)) (dz l a1)/\Q (dVs [])/\Q (di (r:Int))/\Q [some (cDz l a1),some [di 0,dn]]/\I0 PS (length (dz l a).H) (dV (Val.mk 0 [Val.mk s [],Val.mk 0 ts])) (dz l a3) [kl ER [1,1,0,1,0,0],KI.blk 0,kc ER [1,1,1]] (mkE 43 [(0,D.ptr 0 0),(4,D.v (V.ref (Az m))),(6,D.ptr 1 0),(7,dVs []),(8,di (r:Int))]) (FL l a1)) ?_
 have w3:wrap IntKind.i64 (2+1)=3:=by decide
 rw[w3]
 exact⟨fun e he=>ZK e he,p4,rfl,rfl,rfl,⟨hrn⟩⟩
theorem Ya(l:List UInt8)(hl:l.length<=200)(m:Mod)(hst:1<=m.states.length/\m.states.length<=3)(hpl:1<=m.places.length/\m.places.length<=2)(hag:0<=m.age/\m.age<=3)(a:Nat)(ha:a<=l.length):
  ∃(s:Int) (ts:List Val) (a':Nat),(0<=s/\s<m.states.length)/\VF m.places.length m.age 2 ts/\a'<=l.length/\Aa PP 39 [.ptr 0 0,Ad m,di 2] (dz l a) (.dagg [di 0,.arr 1 0 2]) ⟨[some (cDz l a'),some [di s,dVs [],di 0,dVs ts]],[]⟩:=by
 obtain⟨r,a1,p1,p2,p3,p4⟩:=Al l hl a ha 3 (by decide) (by decide)
 obtain⟨r,rfl⟩:∃n:Nat,r=n:=⟨r.toNat,by omega⟩
 obtain⟨ts,a2,h1,h2,h3⟩:=Oz l hl m hpl hag a1 p3 r (by omega)
 obtain⟨s,a3,h4,h5,h6⟩:=VA l hl m hst a2 h2 ts
 refine⟨s,ts,a3,h4,h1,h5,?_⟩
 have hrn:=h3 _ _ h6
 refine TW (c1:=[di 0]) (c2:=[]) (T:=[some [di 0,.gro 2 2 2],some (B5 [Ag (.mk s []),Ag (.mk 0 ts)])]) (q:=1) (sz:=2) rfl rfl rfl rfl rfl ?_
 refine sv PS 43 [4] (.h (.q 2 0)<|.h (.ct 7 (dVs []) (FL l a))<|.c1 (cDz l a1) (di r)<|.ls [ke 0,ke 4,ke 6,ch 7 (dVs []),ch 8 (di r)] (FL l a1)) ((∀(e:List D),e[7]?=some (dn)->∀(E:Ent) (g:Gh) (a_2:Act) (w:World),FI E g (St.mk [some (cDz l a),some [D.v (V.int IntKind.i64 0),dn]] (dz l a).own) e a_2 w->∃g',FI E g' (FL l a) (List.set e 7 (dVs [])) a_2 w)/\Aa PP 18 [D.ptr 0 0,di (wrap IntKind.i64 (2+1))] (dz l a) (di (r:Int)) (dz l a1)/\Q (dVs [])/\Q (di (r:Int))/\Q [some (cDz l a1),some [di 0,dn]]/\I0 PS (length (dz l a).H) (D.dagg ([di 0]++[D.gro (1+1) 2 2])) (St.mk [some (cDz l a3),some [di 0,D.gro 2 2 2],some (B5 [Ag (Val.mk s []),Ag (Val.mk 0 ts)])] []) [kl ER [1,1,0,1,0,0],KI.blk 0,kc ER [1,1,1]] (mkE 43 [(0,D.ptr 0 0),(4,D.v (V.ref (Az m))),(6,D.ptr 1 0),(7,dVs []),(8,di (r:Int))]) (FL l a1)) ?_
 have w3:wrap IntKind.i64 (2+1)=3:=by decide
 rw[w3]
 exact⟨fun e he=>ZK e he,p4,rfl,rfl,rfl,⟨hrn⟩⟩
end Go.Proofs.YtpmahmngmgnnbaaGreatDoor
