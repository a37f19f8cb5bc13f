/-
  A part of the proof.
-/
import Derived.Test.YtkkplhjidondkaaGreatZd
import Derived.Test.YtkkplhjidondkaaGreatZc
import Derived.Shelf.SlSortCmp.NoneTotal
namespace Go.Proofs.YtkkplhjidondkaaGreat
open Go.Dv Go.Nv
set_option maxRecDepth 20000
open List (flatten take)
open Go.IntKind (u64)
open Go.IntKind renaming wrap → yu, i64 → yt
open List renaming length → I, map → U, drop → W
open Option renaming some → G
open Bool renaming true → J, false → O
open Decidable renaming decide → Y
open Int renaming toNat → Z
open Go.Dv.V renaming list → ai, str → ae, agg → ab, int → aa, ref → bz, fn → bw, nils → bv, bool → bu
open Go.Dv.D renaming v → bt, acc → br, ptr → bq, arr → bo, gro → bm, tup → bk, undef → bj, dagg → bi
open Go.Dv.St renaming mk → bh
open Go.Dv.KI renaming blk → bf
open _root_.ByteArray renaming mk → bc
open Go renaming Operand → x8, Program → x7, TypeId → x6, World → x5, Value → yz, Oper → yy, FuncId → yx, Func → yw, IntKind → yv
abbrev cn(p:Int×Int):V:=.agg [vi p.1,vi p.2]
abbrev BV(l:List (Int×Int)):V:=.list (l.map cn)
abbrev A4(l:List (Int×Int)):D:=.v (BV l)
theorem QD(l:List (Int×Int)):∀y∈l.map cn,y.size=2:=by grind[V.size]
noncomputable abbrev Aqi:=Tryz.f300
theorem Agj(n:Nat)(hn:n<=1000000):Aa PP 300 [.v .nils,di n] ba (.acc 1 []) ⟨[],[(1,1,[])]⟩:=by
 have h1:yt.wrap (0-0)=0:=by decide
 by_cases h:n=0
 ·subst h
  refine sv Aqi 27 [] (.f<|.f<|.h (.q 6 0)<|.h (.nw 0 1 1) .r) (Y ((↑0:Int)<0)=O/\Y (yu yt ((↑0:Int)-yu yt (0-0))>0)=O/\Q [(1,1,nV)]/\Q iu) ?_
  grind
 ·refine sv Aqi 27 [] (.f<|.t<|.a 1 .r) (Y ((n:Int)<0)=O/\Y (yu yt ((n:Int)-yu yt (0-0))>0)=J/\iz 0=0/\0<yu yt ((n:Int)-yu yt (0-0))/\Ao (Z (yu yt ((n:Int)-yu yt (0-0)))) 8/\iz 0=0/\Q [(1,1,nV)]/\Q iu) ?_
  grind[Ak]
noncomputable abbrev oe:=Tryz.f293
noncomputable def YW:=yl oe
abbrev Q2(ls:List (List (Int))):List V:=ls.map fun l=>.list (l.map vi)
theorem Ac6(ls:List (List (Int)))(hl:I ls<=1000)(ht:I ls.flatten<=1000000)(n:Nat):∀k:Nat,I ls-k=n->
  Rn PP oe 0 (dl (ls.flatten.map vi)) ba ([kl YW [1,1,1,1,0,1,0,0],.blk 2,kc YW [1,1,1,1,1]]++[]) (cy 36 [(0,dl (Q2 ls)),(6,.acc 1 ((ls.take k).flatten.map vi)),(25,dl (Q2 ls)),(26,di (I ls)),(27,di k)]) ⟨[],[(1,1,(ls.take k).flatten.map vi)]⟩:=by
 induction n using Nat.strongRecOn with
 |_ n ih=>
 intro k hn
 refine lv 36 [] (.b (.e fun x:List (Int)=>.x (.list (x.map vi))<|.w<|.ls [ke 0,ch 6 (.acc 1 ((ls.take (k+1)).flatten.map vi)),ke 25,ke 26,ch 27 (di (k+1:Nat))] ⟨[],[(1,1,(ls.take (k+1)).flatten.map vi)]⟩) .r) ((Y ((k:Int)<(I ls:Int))=J->∃a,0<=(k:Int)/\(Q2 ls)[Z (k:Int)]?=G (ai (U vi a))/\U vi (flatten (take k ls))=U vi (flatten (take k ls))/\Ao (I (U vi (flatten (take k ls)))+I (U vi a)) 8/\(∀(y:V),y∈U vi a->V.size y=1)/\br 1 (U vi (flatten (take k ls))++U vi a)=br 1 (U vi (flatten (take (k+1) ls)))/\di (yu yt ((k:Int)+1))=di (↑(k+1):Int)/\[(1,1,U vi (flatten (take k ls))++U vi a)]=[(1,1,U vi (flatten (take (k+1) ls)))]/\Nv.It (A2 (CN 0) PP (fun env σ1=>A9 PP oe env σ1 (dl (U vi (flatten ls))) ba) [kl YW ia,bf 2,kc YW [1,1,1,1,1]] (cy 36 [(0,bt (ai (Q2 ls))),(6,br 1 (U vi (flatten (take (k+1) ls)))),(25,bt (ai (Q2 ls))),(26,di (I ls:Int)),(27,di (↑(k+1):Int))]) (bh [] [(1,1,U vi (flatten (take (k+1) ls)))])))/\(Y ((k:Int)<(I ls:Int))=O->bt (ai (U vi (flatten (take k ls))))=dl (U vi (flatten ls)))) ⟨fun h=>?_,fun h=>?_⟩
 ·have hk:k<I ls:=by grind
  have hx:ls[k]?=G ls[k]:=HI hk
  have hf:=Ec hk
  have hle:=GG ls (k+1)
  have hih:=ih (I ls- (k+1)) (by omega) (k+1) rfl
  rw[hf] at hle hih⊢
  generalize ls[k]=x at hx hle hih⊢
  simp only[HW] at hle
  refine⟨x,by omega,by simp[hx],rfl,Of (by omega) (by decide),UN x,by simp,Ae,by simp,⟨hih⟩⟩
 grind[List.take_of_length_le]
theorem Ac7(ls:List (List (Int)))(hl:I ls<=1000)(ht:I ls.flatten<=1000000)(n:Nat):∀k:Nat,I ls-k=n->
  Rn PP oe 0 (dl (ls.flatten.map vi)) ba ([kl YW [1,1,0,1,0,0],.blk 0,kc YW [1,1,1]]++[]) (cy 36 [(0,dl (Q2 ls)),(3,di ((ls.take k).flatten.length:Nat)),(9,dl (Q2 ls)),(10,di (I ls)),(11,di k)]) ba:=by
 induction n using Nat.strongRecOn with
 |_ n ih=>
 intro k hn
 refine lv 36 [] (.b (.e fun x:List (Int)=>.x (.list (x.map vi))<|.f<|.l [ke 0,ch 3 (di ((ls.take (k+1)).flatten.length:Nat)),ke 9,ke 10,ch 11 (di (k+1:Nat))]) (.h (.ckn 1 1 1 [])<|.ls [ke 0,ch 6 (.acc 1 ((ls.take 0).flatten.map vi)),ke 25,ch 26 (di (I ls)),ch 27 (di (0:Nat))] ⟨[],[(1,1,(ls.take 0).flatten.map vi)]⟩)) ((Y ((k:Int)<(I ls:Int))=J->∃a,0<=(k:Int)/\(Q2 ls)[Z (k:Int)]?=G (ai (U vi a))/\Y (yu yt ((I (flatten (take k ls)):Int)+(I (U vi a):Int))<0)=O/\di (yu yt ((I (flatten (take k ls)):Int)+(I (U vi a):Int)))=di (I (flatten (take (k+1) ls)):Int)/\di (yu yt ((k:Int)+1))=di (↑(k+1):Int)/\Nv.It (A2 (CN 0) PP (fun env σ1=>A9 PP oe env σ1 (dl (U vi (flatten ls))) ba) [kl YW ee,bf 0,kc YW [1,1,1]] (cy 36 [(0,bt (ai (Q2 ls))),(3,di (I (flatten (take (k+1) ls)):Int)),(9,bt (ai (Q2 ls))),(10,di (I ls:Int)),(11,di (↑(k+1):Int))]) ba))/\(Y ((k:Int)<(I ls:Int))=O->Aa PP 300 [dn,di (I (flatten (take k ls)):Int)] d7 iu s7/\Q iu/\di (I (Q2 ls):Int)=di (I ls:Int)/\di 0=di (↑0:Int)/\Q [(1,1,nV)]/\I0 oe 0 (dl (U vi (flatten ls))) ba [kl YW ia,bf 2,kc YW [1,1,1,1,1]] (cy 36 [(0,bt (ai (Q2 ls))),(6,br 1 []),(25,bt (ai (Q2 ls))),(26,di (I ls:Int)),(27,di (↑0:Int))]) s7)) ⟨fun h=>?_,fun h=>?_⟩
 ·have hk:k<I ls:=by grind
  have hx:ls[k]?=G ls[k]:=HI hk
  have hf:=Ih I (Ec hk)
  have hle:=GG ls (k+1)
  generalize ls[k]=x at hx hf⊢
  have h2:yt.wrap ((((ls.take k).flatten.length:Nat):Int)+(I (x.map vi):Int))=(((ls.take (k+1)).flatten.length:Nat):Int):=by rw[Ak (by omega) (by grind),hf];simp
  refine⟨x,by omega,by simp[hx],by grind,by rw[h2],Ae,⟨?_⟩⟩
  grind
 ·have hk:I ls<=k:=by grind
  rw[Im hk]
  refine⟨Agj (I ls.flatten) ht,rfl,by simp,rfl,rfl,⟨?_⟩⟩
  exact Ac6 ls hl ht _ 0 rfl
theorem AgD(ls:List (List (Int)))(hl:I ls<=1000)(ht:I ls.flatten<=1000000):F0 293 [dl (Q2 ls)] (dl (ls.flatten.map vi)):=by
 refine sv oe 36 [] (.l [ke 0,ch 3 (di ((ls.take 0).flatten.length:Nat)),ke 9,ch 10 (di (I ls)),ch 11 (di (0:Nat))]) (Q (di 0)/\di (I (Q2 ls):Int)=di (I ls:Int)/\Q (di 0)/\I0 oe (I ba.H) (dl (U vi (flatten ls))) ba [kl YW ee,bf 0,kc YW [1,1,1]] (cy 36 [(0,dl (Q2 ls)),(3,di (I (flatten (take 0 ls)):Int)),(9,dl (Q2 ls)),(10,di (I ls:Int)),(11,di (↑0:Int))]) ba) ⟨rfl,by simp,rfl,⟨?_⟩⟩
 exact Ac7 ls hl ht _ 0 rfl
noncomputable abbrev Ana:=Tryz.f277
theorem AbF(n:Nat)(hn:n<=1000000):Aa PP 277 [.v .nils,di n] ba (.acc 1 []) ⟨[],[(1,2,[])]⟩:=by
 have h1:yt.wrap (0-0)=0:=by decide
 by_cases h:n=0
 ·subst h
  refine sv Ana 27 [] (.f<|.f<|.h (.q 6 0)<|.h (.nw 0 1 2) .r) (Y ((↑0:Int)<0)=O/\Y (yu yt ((↑0:Int)-yu yt (0-0))>0)=O/\Q [(1,2,nV)]/\Q iu) ?_
  grind
 ·refine sv Ana 27 [] (.f<|.t<|.a 1 .r) (Y ((n:Int)<0)=O/\Y (yu yt ((n:Int)-yu yt (0-0))>0)=J/\iz 0=0/\0<yu yt ((n:Int)-yu yt (0-0))/\Ao (Z (yu yt ((n:Int)-yu yt (0-0)))) 16/\iz 0=0/\Q [(1,2,nV)]/\Q iu) ?_
  grind[Ak]
noncomputable abbrev RB:=Tryz.f230
noncomputable def L1:=yl RB
abbrev Ez(ls:List (List (Int×Int))):List V:=ls.map fun l=>.list (l.map cn)
theorem Yk(ls:List (List (Int×Int)))(hl:I ls<=1000)(ht:I ls.flatten<=1000000)(n:Nat):∀k:Nat,I ls-k=n->
  Rn PP RB 0 (dl (ls.flatten.map cn)) ba ([kl L1 [1,1,1,1,0,1,0,0],.blk 2,kc L1 [1,1,1,1,1]]++[]) (cy 36 [(0,dl (Ez ls)),(6,.acc 1 ((ls.take k).flatten.map cn)),(25,dl (Ez ls)),(26,di (I ls)),(27,di k)]) ⟨[],[(1,2,(ls.take k).flatten.map cn)]⟩:=by
 induction n using Nat.strongRecOn with
 |_ n ih=>
 intro k hn
 refine lv 36 [] (.b (.e fun x:List (Int×Int)=>.x (.list (x.map cn))<|.w<|.ls [ke 0,ch 6 (.acc 1 ((ls.take (k+1)).flatten.map cn)),ke 25,ke 26,ch 27 (di (k+1:Nat))] ⟨[],[(1,2,(ls.take (k+1)).flatten.map cn)]⟩) .r) ((Y ((k:Int)<(I ls:Int))=J->∃a,0<=(k:Int)/\(Ez ls)[Z (k:Int)]?=G (ai (U cn a))/\U cn (flatten (take k ls))=U cn (flatten (take k ls))/\Ao (I (U cn (flatten (take k ls)))+I (U cn a)) 16/\(∀(y:V),y∈U cn a->V.size y=2)/\br 1 (U cn (flatten (take k ls))++U cn a)=br 1 (U cn (flatten (take (k+1) ls)))/\di (yu yt ((k:Int)+1))=di (↑(k+1):Int)/\[(1,2,U cn (flatten (take k ls))++U cn a)]=[(1,2,U cn (flatten (take (k+1) ls)))]/\Nv.It (A2 (CN 0) PP (fun env σ1=>A9 PP RB env σ1 (dl (U cn (flatten ls))) ba) [kl L1 ia,bf 2,kc L1 [1,1,1,1,1]] (cy 36 [(0,bt (ai (Ez ls))),(6,br 1 (U cn (flatten (take (k+1) ls)))),(25,bt (ai (Ez ls))),(26,di (I ls:Int)),(27,di (↑(k+1):Int))]) (bh [] [(1,2,U cn (flatten (take (k+1) ls)))])))/\(Y ((k:Int)<(I ls:Int))=O->bt (ai (U cn (flatten (take k ls))))=dl (U cn (flatten ls)))) ⟨fun h=>?_,fun h=>?_⟩
 ·have hk:k<I ls:=by grind
  have hx:ls[k]?=G ls[k]:=HI hk
  have hf:=Ec hk
  have hle:=GG ls (k+1)
  have hih:=ih (I ls- (k+1)) (by omega) (k+1) rfl
  rw[hf] at hle hih⊢
  generalize ls[k]=x at hx hle hih⊢
  simp only[HW] at hle
  refine⟨x,by omega,by simp[hx],rfl,Of (by omega) (by decide),QD x,by simp,Ae,by simp,⟨hih⟩⟩
 grind[List.take_of_length_le]
theorem Yl(ls:List (List (Int×Int)))(hl:I ls<=1000)(ht:I ls.flatten<=1000000)(n:Nat):∀k:Nat,I ls-k=n->
  Rn PP RB 0 (dl (ls.flatten.map cn)) ba ([kl L1 [1,1,0,1,0,0],.blk 0,kc L1 [1,1,1]]++[]) (cy 36 [(0,dl (Ez ls)),(3,di ((ls.take k).flatten.length:Nat)),(9,dl (Ez ls)),(10,di (I ls)),(11,di k)]) ba:=by
 induction n using Nat.strongRecOn with
 |_ n ih=>
 intro k hn
 refine lv 36 [] (.b (.e fun x:List (Int×Int)=>.x (.list (x.map cn))<|.f<|.l [ke 0,ch 3 (di ((ls.take (k+1)).flatten.length:Nat)),ke 9,ke 10,ch 11 (di (k+1:Nat))]) (.h (.ckn 1 1 2 [])<|.ls [ke 0,ch 6 (.acc 1 ((ls.take 0).flatten.map cn)),ke 25,ch 26 (di (I ls)),ch 27 (di (0:Nat))] ⟨[],[(1,2,(ls.take 0).flatten.map cn)]⟩)) ((Y ((k:Int)<(I ls:Int))=J->∃a,0<=(k:Int)/\(Ez ls)[Z (k:Int)]?=G (ai (U cn a))/\Y (yu yt ((I (flatten (take k ls)):Int)+(I (U cn a):Int))<0)=O/\di (yu yt ((I (flatten (take k ls)):Int)+(I (U cn a):Int)))=di (I (flatten (take (k+1) ls)):Int)/\di (yu yt ((k:Int)+1))=di (↑(k+1):Int)/\Nv.It (A2 (CN 0) PP (fun env σ1=>A9 PP RB env σ1 (dl (U cn (flatten ls))) ba) [kl L1 ee,bf 0,kc L1 [1,1,1]] (cy 36 [(0,bt (ai (Ez ls))),(3,di (I (flatten (take (k+1) ls)):Int)),(9,bt (ai (Ez ls))),(10,di (I ls:Int)),(11,di (↑(k+1):Int))]) ba))/\(Y ((k:Int)<(I ls:Int))=O->Aa PP 277 [dn,di (I (flatten (take k ls)):Int)] d7 iu (bh [] [(1,2,[])])/\Q iu/\di (I (Ez ls):Int)=di (I ls:Int)/\di 0=di (↑0:Int)/\Q [(1,2,nV)]/\I0 RB 0 (dl (U cn (flatten ls))) ba [kl L1 ia,bf 2,kc L1 [1,1,1,1,1]] (cy 36 [(0,bt (ai (Ez ls))),(6,br 1 []),(25,bt (ai (Ez ls))),(26,di (I ls:Int)),(27,di (↑0:Int))]) (bh [] [(1,2,[])]))) ⟨fun h=>?_,fun h=>?_⟩
 ·have hk:k<I ls:=by grind
  have hx:ls[k]?=G ls[k]:=HI hk
  have hf:=Ih I (Ec hk)
  have hle:=GG ls (k+1)
  generalize ls[k]=x at hx hf⊢
  have h2:yt.wrap ((((ls.take k).flatten.length:Nat):Int)+(I (x.map cn):Int))=(((ls.take (k+1)).flatten.length:Nat):Int):=by rw[Ak (by omega) (by grind),hf];simp
  refine⟨x,by omega,by simp[hx],by grind,by rw[h2],Ae,⟨?_⟩⟩
  grind
 ·have hk:I ls<=k:=by grind
  rw[Im hk]
  refine⟨AbF (I ls.flatten) ht,rfl,by simp,rfl,rfl,⟨?_⟩⟩
  exact Yk ls hl ht _ 0 rfl
theorem Nw(ls:List (List (Int×Int)))(hl:I ls<=1000)(ht:I ls.flatten<=1000000):F0 230 [dl (Ez ls)] (dl (ls.flatten.map cn)):=by
 refine sv RB 36 [] (.l [ke 0,ch 3 (di ((ls.take 0).flatten.length:Nat)),ke 9,ch 10 (di (I ls)),ch 11 (di (0:Nat))]) (Q (di 0)/\di (I (Ez ls):Int)=di (I ls:Int)/\Q (di 0)/\I0 RB (I ba.H) (dl (U cn (flatten ls))) ba [kl L1 ee,bf 0,kc L1 [1,1,1]] (cy 36 [(0,dl (Ez ls)),(3,di (I (flatten (take 0 ls)):Int)),(9,dl (Ez ls)),(10,di (I ls:Int)),(11,di (↑0:Int))]) ba) ⟨rfl,by simp,rfl,⟨?_⟩⟩
 exact Yl ls hl ht _ 0 rfl
noncomputable abbrev Aqg:=Tryz.f299
theorem Agh(n:Nat)(hn:n<=1000000):Aa PP 299 [.v .nils,di n] ba (.acc 1 []) ⟨[],[(1,2,[])]⟩:=by
 have h1:yt.wrap (0-0)=0:=by decide
 by_cases h:n=0
 ·subst h
  refine sv Aqg 27 [] (.f<|.f<|.h (.q 6 0)<|.h (.nw 0 1 2) .r) (Y ((↑0:Int)<0)=O/\Y (yu yt ((↑0:Int)-yu yt (0-0))>0)=O/\Q [(1,2,nV)]/\Q iu) ?_
  grind
 ·refine sv Aqg 27 [] (.f<|.t<|.a 1 .r) (Y ((n:Int)<0)=O/\Y (yu yt ((n:Int)-yu yt (0-0))>0)=J/\iz 0=0/\0<yu yt ((n:Int)-yu yt (0-0))/\Ao (Z (yu yt ((n:Int)-yu yt (0-0)))) 32/\iz 0=0/\Q [(1,2,nV)]/\Q iu) ?_
  grind[Ak]
noncomputable abbrev o9:=Tryz.f291
noncomputable def YU:=yl o9
abbrev Qm(ls:List (List (b9))):List V:=ls.map fun l=>.list (l.map eV)
theorem Ac3(ls:List (List (b9)))(hl:I ls<=1000)(ht:I ls.flatten<=1000000)(n:Nat):∀k:Nat,I ls-k=n->
  Rn PP o9 0 (dl (ls.flatten.map eV)) ba ([kl YU [1,1,1,1,0,1,0,0],.blk 2,kc YU [1,1,1,1,1]]++[]) (cy 36 [(0,dl (Qm ls)),(6,.acc 1 ((ls.take k).flatten.map eV)),(25,dl (Qm ls)),(26,di (I ls)),(27,di k)]) ⟨[],[(1,2,(ls.take k).flatten.map eV)]⟩:=by
 induction n using Nat.strongRecOn with
 |_ n ih=>
 intro k hn
 refine lv 36 [] (.b (.e fun x:List (b9)=>.x (.list (x.map eV))<|.w<|.ls [ke 0,ch 6 (.acc 1 ((ls.take (k+1)).flatten.map eV)),ke 25,ke 26,ch 27 (di (k+1:Nat))] ⟨[],[(1,2,(ls.take (k+1)).flatten.map eV)]⟩) .r) ((Y ((k:Int)<(I ls:Int))=J->∃a,0<=(k:Int)/\(Qm ls)[Z (k:Int)]?=G (ai (U eV a))/\U eV (flatten (take k ls))=U eV (flatten (take k ls))/\Ao (I (U eV (flatten (take k ls)))+I (U eV a)) 32/\(∀(y:V),y∈U eV a->V.size y=2)/\br 1 (U eV (flatten (take k ls))++U eV a)=br 1 (U eV (flatten (take (k+1) ls)))/\di (yu yt ((k:Int)+1))=di (↑(k+1):Int)/\[(1,2,U eV (flatten (take k ls))++U eV a)]=[(1,2,U eV (flatten (take (k+1) ls)))]/\Nv.It (A2 (CN 0) PP (fun env σ1=>A9 PP o9 env σ1 (dl (U eV (flatten ls))) ba) [kl YU ia,bf 2,kc YU [1,1,1,1,1]] (cy 36 [(0,bt (ai (Qm ls))),(6,br 1 (U eV (flatten (take (k+1) ls)))),(25,bt (ai (Qm ls))),(26,di (I ls:Int)),(27,di (↑(k+1):Int))]) (bh [] [(1,2,U eV (flatten (take (k+1) ls)))])))/\(Y ((k:Int)<(I ls:Int))=O->bt (ai (U eV (flatten (take k ls))))=dl (U eV (flatten ls)))) ⟨fun h=>?_,fun h=>?_⟩
 ·have hk:k<I ls:=by grind
  have hx:ls[k]?=G ls[k]:=HI hk
  have hf:=Ec hk
  have hle:=GG ls (k+1)
  have hih:=ih (I ls- (k+1)) (by omega) (k+1) rfl
  rw[hf] at hle hih⊢
  generalize ls[k]=x at hx hle hih⊢
  simp only[HW] at hle
  refine⟨x,by omega,by simp[hx],rfl,Of (by omega) (by decide),Da x,by simp,Ae,by simp,⟨hih⟩⟩
 grind[List.take_of_length_le]
theorem Ac4(ls:List (List (b9)))(hl:I ls<=1000)(ht:I ls.flatten<=1000000)(n:Nat):∀k:Nat,I ls-k=n->
  Rn PP o9 0 (dl (ls.flatten.map eV)) ba ([kl YU [1,1,0,1,0,0],.blk 0,kc YU [1,1,1]]++[]) (cy 36 [(0,dl (Qm ls)),(3,di ((ls.take k).flatten.length:Nat)),(9,dl (Qm ls)),(10,di (I ls)),(11,di k)]) ba:=by
 induction n using Nat.strongRecOn with
 |_ n ih=>
 intro k hn
 refine lv 36 [] (.b (.e fun x:List (b9)=>.x (.list (x.map eV))<|.f<|.l [ke 0,ch 3 (di ((ls.take (k+1)).flatten.length:Nat)),ke 9,ke 10,ch 11 (di (k+1:Nat))]) (.h (.ckn 1 1 2 [])<|.ls [ke 0,ch 6 (.acc 1 ((ls.take 0).flatten.map eV)),ke 25,ch 26 (di (I ls)),ch 27 (di (0:Nat))] ⟨[],[(1,2,(ls.take 0).flatten.map eV)]⟩)) ((Y ((k:Int)<(I ls:Int))=J->∃a,0<=(k:Int)/\(Qm ls)[Z (k:Int)]?=G (ai (U eV a))/\Y (yu yt ((I (flatten (take k ls)):Int)+(I (U eV a):Int))<0)=O/\di (yu yt ((I (flatten (take k ls)):Int)+(I (U eV a):Int)))=di (I (flatten (take (k+1) ls)):Int)/\di (yu yt ((k:Int)+1))=di (↑(k+1):Int)/\Nv.It (A2 (CN 0) PP (fun env σ1=>A9 PP o9 env σ1 (dl (U eV (flatten ls))) ba) [kl YU ee,bf 0,kc YU [1,1,1]] (cy 36 [(0,bt (ai (Qm ls))),(3,di (I (flatten (take (k+1) ls)):Int)),(9,bt (ai (Qm ls))),(10,di (I ls:Int)),(11,di (↑(k+1):Int))]) ba))/\(Y ((k:Int)<(I ls:Int))=O->Aa PP 299 [dn,di (I (flatten (take k ls)):Int)] d7 iu (bh [] [(1,2,[])])/\Q iu/\di (I (Qm ls):Int)=di (I ls:Int)/\di 0=di (↑0:Int)/\Q [(1,2,nV)]/\I0 o9 0 (dl (U eV (flatten ls))) ba [kl YU ia,bf 2,kc YU [1,1,1,1,1]] (cy 36 [(0,bt (ai (Qm ls))),(6,br 1 []),(25,bt (ai (Qm ls))),(26,di (I ls:Int)),(27,di (↑0:Int))]) (bh [] [(1,2,[])]))) ⟨fun h=>?_,fun h=>?_⟩
 ·have hk:k<I ls:=by grind
  have hx:ls[k]?=G ls[k]:=HI hk
  have hf:=Ih I (Ec hk)
  have hle:=GG ls (k+1)
  generalize ls[k]=x at hx hf⊢
  have h2:yt.wrap ((((ls.take k).flatten.length:Nat):Int)+(I (x.map eV):Int))=(((ls.take (k+1)).flatten.length:Nat):Int):=by rw[Ak (by omega) (by grind),hf];simp
  refine⟨x,by omega,by simp[hx],by grind,by rw[h2],Ae,⟨?_⟩⟩
  grind
 ·have hk:I ls<=k:=by grind
  rw[Im hk]
  refine⟨Agh (I ls.flatten) ht,rfl,by simp,rfl,rfl,⟨?_⟩⟩
  exact Ac3 ls hl ht _ 0 rfl
theorem AgC(ls:List (List (b9)))(hl:I ls<=1000)(ht:I ls.flatten<=1000000):F0 291 [dl (Qm ls)] (dl (ls.flatten.map eV)):=by
 refine sv o9 36 [] (.l [ke 0,ch 3 (di ((ls.take 0).flatten.length:Nat)),ke 9,ch 10 (di (I ls)),ch 11 (di (0:Nat))]) (Q (di 0)/\di (I (Qm ls):Int)=di (I ls:Int)/\Q (di 0)/\I0 o9 (I ba.H) (dl (U eV (flatten ls))) ba [kl YU ee,bf 0,kc YU [1,1,1]] (cy 36 [(0,dl (Qm ls)),(3,di (I (flatten (take 0 ls)):Int)),(9,dl (Qm ls)),(10,di (I ls:Int)),(11,di (↑0:Int))]) ba) ⟨rfl,by simp,rfl,⟨?_⟩⟩
 exact Ac4 ls hl ht _ 0 rfl
noncomputable abbrev t7:=Tryz.f302
noncomputable def rr:=yl t7
theorem AgL(a b:List Int)(ha:I a<=1000000)(n:Nat):∀k:Nat,I a-k=n->k<=I b->k<=I a->
  Rn PP t7 0 (di (AW AJ (a.drop k) (b.drop k))) ba ([kl rr [1,0,1,0,0],.blk 0,kc rr [1,1]]++[]) (cy 36 [(0,cx a),(1,cx b),(9,cx a),(10,di (I a)),(11,di k)]) ba:=by
 induction n using Nat.strongRecOn with
 |_ n ih=>
 intro k hn hkb hka
 refine lv 36 [] (.b (.e fun x:Int=>.x (vi x)<|.b .r<|.e fun y:Int=>.x (vi y)<|.c (di (AJ x y))<|.b .r (.ls [ke 0,ke 1,ke 9,ke 10,ch 11 (di (k+1:Nat))] ba)) (.b .r .r)) ((Y ((k:Int)<(I a:Int))=J->∃a_2,0<=(k:Int)/\(U vi a)[Z (k:Int)]?=G (vi a_2)/\(Y ((k:Int)>=(I (U vi b):Int))=J->di 1=di (AW AJ (W k a) (W k b)))/\(Y ((k:Int)>=(I (U vi b):Int))=O->∃a_4,0<=(k:Int)/\(U vi b)[Z (k:Int)]?=G (vi a_4)/\Aa PP 72 [di a_2,di a_4] d7 (di (AJ a_2 a_4)) d7/\((AJ a_2 a_4 !=0)=J->di (AJ a_2 a_4)=di (AW AJ (W k a) (W k b)))/\((AJ a_2 a_4 !=0)=O->di (yu yt ((k:Int)+1))=di (↑(k+1):Int)/\Nv.It (A2 (CN 0) PP (fun env σ1=>A9 PP t7 env σ1 (di (AW AJ (W k a) (W k b))) ba) [kl rr [1,0,1,0,0],bf 0,kc rr [1,1]] (cy 36 [(0,cx a),(1,cx b),(9,cx a),(10,di (I a:Int)),(11,di (↑(k+1):Int))]) ba))))/\(Y ((k:Int)<(I a:Int))=O->(Y ((I (U vi a):Int)<(I (U vi b):Int))=J->di (-1)=di (AW AJ (W k a) (W k b)))/\(Y ((I (U vi a):Int)<(I (U vi b):Int))=O->di 0=di (AW AJ (W k a) (W k b))))) ⟨fun h=>?_,fun h=>?_⟩
 ·have hk:k<I a:=by grind
  have hx:a[k]?=G a[k]:=HI hk
  rw[HX hk]
  generalize a[k]=x at hx⊢
  refine⟨x,by omega,Am hx,fun h1=>?_,fun h1=>?_⟩
  ·grind[List.drop_of_length_le,AW]
  ·have hk2:k<I b:=by grind
   have hy:b[k]?=G b[k]:=HI hk2
   rw[HX hk2]
   generalize b[k]=y at hy⊢
   refine⟨y,by omega,Am hy,K2 x y,fun h2=>?_,fun h2=>⟨Ae,⟨?_⟩⟩⟩
   ·grind[AW]
   ·have:AJ x y=0:=by grind
    simp only[AW,this,IT]
    grind
 ·refine⟨fun h1=>?_,fun h1=>?_⟩
  ·grind[List.drop_eq_getElem_cons,AW]
  grind[List.drop_of_length_le,AW]
theorem AgK(a b:List Int)(ha:I a<=1000000):F0 302 [cx a,cx b] (di (AW AJ a b)):=by
 refine sv t7 36 [] (.ls [ke 0,ke 1,ke 9,ch 10 (di (I a)),ch 11 (di (0:Nat))] ba) (di (I (U vi a):Int)=di (I a:Int)/\Q (di 0)/\I0 t7 (I ba.H) (di (AW AJ a b)) ba [kl rr [1,0,1,0,0],bf 0,kc rr [1,1]] (cy 36 [(0,cx a),(1,cx b),(9,cx a),(10,di (I a:Int)),(11,di (↑0:Int))]) ba) ⟨by grind,rfl,⟨?_⟩⟩
 exact AgL a b ha _ 0 rfl (by omega) (by omega)
theorem AjP(x y:Int):Ar (lf x) (lf y)=AJ x y:=by
 grind[PW,jn,AJ,b9.n,b9.az,AW]
theorem TE:∀a b:List Int,AW Ar (a.map lf) (b.map lf)=AW AJ a b
 |[],[]=>rfl
 |[],_::_=>rfl
 |_::_,[]=>rfl
 |x::a,y::b=>by simp only[Ik,AW,AjP,TE a b]
noncomputable abbrev Aq6:=Tryz.f295
theorem TZ:Akv:=by
 intro a b ha hb
 have h1:A8 a b=jn [AJ (I a) (I b),AW AJ a b]:=by
  grind[A8,PW,jn,AJ,TE,b9.n,b9.az]
 refine sv Aq6 15 [] (.c (di (AJ (I a) (I b)))<|.c (di (AW AJ a b))<|.c (di (A8 a b)) .r) (F0 72 [di (I (U vi a):Int),di (I (U vi b):Int)] (di (AJ (I a:Int) (I b:Int)))/\_/\F0 71 [bt (ai [vi (AJ (I a:Int) (I b:Int)),vi (AW AJ a b)])] (di (A8 a b))/\Q (di (A8 a b))) ⟨by grind[K2],AgK a b ha,?_,rfl⟩
 rw[h1];exact AaM [_,_] (by simp)
structure G2(m:cz)(t:cr):Prop where
 walks:F0 46 [Ad m] (di 0)
 plain:F0 75 [Ad m] (db (F2 m))
 valid:∀v:b9,v.size<=1000000->F0 47 [Ad m,dV v] (db (Ah t v))
 ay:I m.ay<=1000000
theorem cz.ok.int{m:cz}(h:m.ok):G2 m (AE m):=by
 obtain⟨h1,h2,h3,h4,h5,h6,h7,h8⟩:=h.sz
 exact⟨TV m h,L9 m (by omega),fun v hv=>EC m h v hv,by omega⟩
end Go.Proofs.YtkkplhjidondkaaGreat

namespace Go.Nv
open Go.Dv
open List (map_map replicate)
open Go.IntKind (u64)
open Go.IntKind renaming wrap → yu, i64 → yt
open List renaming length → I, map → U, drop → W
open Option renaming some → G
open Bool renaming true → J, false → O
open Decidable renaming decide → Y
open Int renaming toNat → Z
open Go.Dv.V renaming list → ai, str → ae, agg → ab, int → aa, ref → bz, fn → bw, nils → bv, bool → bu
open Go.Dv.D renaming v → bt, acc → br, ptr → bq, arr → bo, gro → bm, tup → bk, undef → bj, dagg → bi
open Go.Dv.St renaming mk → bh
open Go.Dv.KI renaming blk → bf
open _root_.ByteArray renaming mk → bc
open Go renaming Operand → x8, Program → x7, TypeId → x6, World → x5, Value → yz, Oper → yy, FuncId → yx, Func → yw, IntKind → yv
theorem Mt{g:Gh}:∀{a b:List D} {us:List yz},Af g (a++b) us->∃u v,us=u++v/\Af g a u/\Af g b v
 |[],b,us,h=>⟨[],us,rfl,rfl,h⟩
 |x::a,b,us,h=>by
  simp only[Jz,Af] at h
  obtain⟨u,us',rfl,h1,h2⟩:=h
  obtain⟨v,w,rfl,h3,h4⟩:=Mt h2
  exact⟨u::v,w,rfl,⟨u,v,rfl,h1,h3⟩,h4⟩
theorem AeA{P:x7}{f:yx}{ds A B es:List D}{T:List (Option (List D))}{q n sz:Nat}{c1 c2:List D}(hB:D.pls B=J)(he:D.pls es=J)(h1:D.pls c1=J)(h2:D.pls c2=J)(hq:T[q]?=G (G es))
  (h:Aa P f ds ⟨[G A],[]⟩ (.dagg (c1++ .gro (q+1) n sz::c2)) ⟨G B::T,[]⟩):Aa P f ds ⟨[G A],[]⟩ (.dagg (c1++ .arr 1 0 n::c2)) ⟨[G B,G es],[]⟩:=by
 refine⟨h.1,fun g w args hw ha=>Calls.mono (h.2 g w args hw ha) ?_⟩
 rintro e w' ⟨u,g',rfl,hw',hr⟩
 have hgn:g.n=1:=hw.n
 have hne:g'.β 0≠g'.β (q+1):=fun e=>by
  have:=hw'.rep.inj 0 (q+1) B es rfl (by grind) e
  omega
 refine⟨u,{ M:=g'.M,β:=fun i=>if i=0 then g'.β 0 else g'.β (q+1),n:=2,ι:=g'.ι,κ:=fun i=>if i=0 then g'.κ 0 else g'.κ (q+1)},rfl,?_,?_⟩
 ·refine{ rep:=?_,M:=hw'.M,size:=hw'.size,keep:=hw'.keep,os:=hw'.os,tape:=hw'.tape,output:=hw'.output,nE:=?_,βE:=?_,κE:=?_,objs:=?_,owns:=fun x hx=>by grind,drawn:=hw'.drawn }
  ·refine{ n:=rfl,mem:=hw'.rep.mem,obj:=?_,inj:=?_,own:=fun k s xs hx=>by grind,tags:=by simp,sep:=fun x hx=>by grind,ownObj:=fun x hx=>by grind,fresh:=hw'.rep.fresh,gl:=hw'.rep.gl,gw:=hw'.rep.gw }
   ·intro i cs hi
    match i,hi with
    |0,hi=>
     simp at hi;subst hi
     obtain⟨us,rest,et,a1,a2,a3,a4,a5⟩:=hw'.rep.obj 0 B rfl
     grind[BK]
    |1,hi=>
     simp at hi;subst hi
     obtain⟨us,rest,et,a1,a2,a3,a4,a5⟩:=hw'.rep.obj (q+1) es (by grind)
     grind[BK]
    |i+2,hi=>grind
   grind
  ·grind
  ·intro o ho
   have h0:o=0:=by grind
   subst h0;exact hw'.βE 0 ho
  ·intro o ho
   have h0:o=0:=by grind
   subst h0;exact hw'.κE 0 ho
  ·intro i cs hi
   match i,hi with
   |0,hi=>exact hw'.objs 0 B rfl
   |1,hi=>exact hw'.objs (q+1) es (by grind)
   |i+2,hi=>grind
 grind[Ag,Mt,Af,Aw,BK]
theorem BY{σ:St}{p q i sz:Nat}{cs:List D}{xs:List V}(hsz:0<sz)(hp:σ.H[p]?=G (G cs))(hq:σ.H[q]?=G (G (Ab xs)))(hpq:p≠q)(hi:cs[i]?=G (.arr q 0 (I xs)))(hx:∀x∈xs,x.size=sz)(e:List D):
  Cv e σ e ⟨(σ.H.set q none).set p (G (cs.set i (.v (.list xs)))),σ.own⟩:=fun E g a w hf=>by
 obtain⟨us,rest,et,hb,hr,h1,hM,_⟩:=hf.wi.rep.obj q _ hq
 have hA:repA g.M (xs.flatMap V.cellsV) us:=GU (GV _) hr h1
 let M':c6:=fun b o=>if b=g.β q then us[o]? else g.M b o
 have hle:g.M.le M':=fun b o v hm=>by
  grind
 have hlg:g.le { g with M:=M' }:=⟨hle,HP _,fun _ _=>rfl,fun _ _ _ h=>h,fun _ _=>rfl⟩
 have hin:fe M' (g.β q) 0 us:=fun j v hj=>by grind
 have hw':WI E { g with M:=M' } ⟨σ.H.set q none,σ.own⟩ w:=hf.wi.setObjG hle hq (fun c hc=>by grind) (fun b _ hne=>⟨rfl,fun o=>by grind⟩) (fun b o v hm=>by
   simp only[M'] at hm
   split at hm
   ·grind[World.cell?]
   ·exact hf.wi.rep.mem b o v hm) (HP _) rfl rfl rfl
 have hp':(σ.H.set q none)[p]?=G (G cs):=by grind
 obtain⟨us2,rest2,et2,hb2,hr2,h12,_,hκ2⟩:=hw'.rep.obj p cs hp'
 obtain⟨u,hu,hru⟩:=BA hr2 hi
 simp only[Ag] at hru
 obtain⟨_,cap,hcap,rfl⟩:=hru
 have hlist:repV M' (.list xs) (.slice (G ⟨g.β q,0,none⟩) (I xs) cap):=Dh hsz hin (FC hx (repA.mono hle _ _ hA)) hcap
 have hset:=CI hr2 i (d:=.v (.list xs)) (u:=.slice (G ⟨g.β q,0,none⟩) (I xs) cap) (by grind[Ag])
 rw[DA hu] at hset
 have h3:=hw'.setObj hp' hb2 hκ2 hset (fun c hc=>by
  rcases IN hc with h|h
  ·grind
  ·rw[h];rfl) (fun _ _=>rfl) rfl rfl rfl rfl
 exact⟨_,h3,Af.mono hlg _ _ hf.env,hf.defers⟩
theorem ND{P:x7}{o:yy}{σ:St}{t:x6}{len:Nat}{parts:Array (Nat×x8)}(ho:o.op=.buildSlice t len parts)(hp:parts.toList=((parts.toList.map (·.2)).zipIdx 0).map fun x=>(x.2,x.1))(hlen:parts.size=len)
  {e:x6} {sz by':Nat} {z:Option yz} (hs:BS P t=G (e,sz,by',z)) (hz:z.isSome=J) {ds:List D} {xs:List V} (hx:Fx ds=G xs) (hsz:∀x∈xs,x.size=sz) (h0:0<len) (h1:0<sz) (h2:len*sz<=1000):
  Ai P o ds σ (.gro (I σ.H) len sz) ⟨σ.H++[G (Ab xs)],σ.own⟩:=by
 intro E g a w K Q hw hds hK
 simp only[ho,Op.operands] at hds
 obtain⟨i,hu,hi,rfl,rfl,rfl⟩:=AF hs
 obtain⟨zz,hzz⟩:=Option.isSome_iff_exists.1 hz
 have hlm:I (parts.toList.map fun p=>a.eval p.2)=len:=by grind
 have hds':Af g ds (parts.toList.map fun p=>a.eval p.2):=by grind[Function.comp_def]
 obtain⟨hr,hcs⟩:=JG hx hds' hsz
 have hxl:I xs=len:=by rw[G5 hx, ←A1 hds',hlm]
 have hpos:0<len*i.size:=Nat.mul_pos h0 h1
 have hf:=K0 i.size (parts.toList.map fun p=>a.eval p.2) 0 [] ((Array.range (len*i.size)).map (zz.cells[· %zz.cells.size]!)).toList (by simp) hcs (by grind)
 have hpp:((parts.toList.map fun p=>a.eval p.2).zipIdx 0).map (fun x=>(x.2,x.1))=parts.toList.map fun p=>(p.1,a.eval p.2):=by
  have e1:(parts.toList.map fun p=>a.eval p.2)=(parts.toList.map (·.2)).map a.eval:=by simp
  rw[e1,List.zipIdx_map,map_map]
  conv=>rhs;rw[hp,map_map]
  rfl
 rw[hpp] at hf
 simp only[List.nil_append,Array.toArray_toList] at hf
 have hrun:=run_buildSlice (P:=P) w t e len (parts.map fun p=>(p.1,a.eval p.2)) _ i zz hu hi hzz (by omega) (by omega) (by simpa using hf)
 generalize hus:(parts.toList.map fun p=>a.eval p.2).flatMap (·.cells.toList)=us at hr hrun
 have hul:I us=len*i.size:=by grind[BX]
 obtain⟨h5,h6⟩:=E9 hr
 obtain⟨g',h3,h4,h5',h6',h7⟩:=hw.newObjR (us:=us) (rest:=[]) (cs:=Ab xs) e h5 h6
 rw[I8] at h3 h6'
 have:=hK g' _ (.slice (G ⟨w.heap.size,0,none⟩) len len) h3 h4 (by
  grind[Ag])
 unfold Oper.wp execOp
 simp only[ho]
 simp only[Sem.run_bind]
 rw[show(parts.map fun(x:Nat×x8)=>match x with|(i,x)=>(i,a.eval x))=parts.map fun p=>(p.1,a.eval p.2) from rfl,hrun]
 exact this
theorem P7{ρ τ:Nat->Nat}:∀{ds:List D},(∀c∈D.rens ρ τ ds,c.one=J)->∀c∈ds,c.one=J
 |[],_,c,hc=>by grind
 |d::ds,h,c,hc=>by
  simp only[D.rens,Iz] at h
  rcases Iz.1 hc with rfl|hc
  ·grind[Aa0]
  ·exact P7 (fun x hx=>h x (.inr hx)) c hc
mutual
theorem Aaz{ρ τ:Nat->Nat}:∀(d:D),d.pl=J->d.ren ρ τ=d
 |.v _,_|.raw _,_|.rv ..,_|.err,_|.undef,_=>by simp[D.ren]
 |.tup ds,h=>by rw[D.ren,Pw ds (by grind[D.pl])]
 |.acc ..,h|.ptr ..,h|.arr ..,h|.gro ..,h|.dagg _,h|.dfn ..,h=>by simp[D.pl] at h
theorem Pw{ρ τ:Nat->Nat}:∀(ds:List D),D.pls ds=J->D.rens ρ τ ds=ds
 |[],_=>by rfl
 |d::ds,h=>by
  simp only[D.pls,HJ] at h
  rw[D.rens,Aaz d h.1,Pw ds h.2]
end
mutual
theorem Aba{n:Nat}{ts:List Nat}:∀(d:D),d.pl=J->d.okN n ts=J
 |.v _,_|.raw _,_|.rv ..,_|.err,_|.undef,_=>by simp[D.okN]
 |.tup ds,h=>by rw[D.okN,P8 ds (by grind[D.pl])]
 |.acc ..,h|.ptr ..,h|.arr ..,h|.gro ..,h|.dagg _,h|.dfn ..,h=>by simp[D.pl] at h
theorem P8{n:Nat}{ts:List Nat}:∀(ds:List D),D.pls ds=J->D.okNs n ts ds=J
 |[],_=>by rfl
 |d::ds,h=>by
  simp only[D.pls,HJ] at h
  rw[D.okNs,Aba d h.1,P8 ds h.2];rfl
end
theorem A7{ρ τ:Nat->Nat}{ds:List D}(h:D.pls ds=J):D.rens ρ τ ds=ds:=Pw ds h
theorem AO{n:Nat}{ts:List Nat}{ds:List D}(h:D.pls ds=J):D.okNs n ts ds=J:=P8 ds h
theorem E5{P:x7}{f:yx}{ds:List D}{σ:St}{d:D}{T H':List (Option (List D))}(sel:Nat->Nat)(hk:I σ.H<=I H')(hfix:∀i,i<I σ.H->sel i=i)
  (hinj:∀i j,i<I H'->j<I H'->sel i=sel j->i=j) (_:∀i,i<I H'->sel i<I T)
  (hsel:∀i cs,H'[i]?=G (G cs)->T[sel i]?=G (G (D.rens sel id cs))/\D.okNs (I H') [] cs=J) (hd:d.okN (I H') []=J)
  (h:Aa P f ds σ (d.ren sel id) ⟨T,[]⟩):Aa P f ds σ d ⟨H',[]⟩:=by
 refine⟨h.1,fun g w args hw ha=>Calls.mono (h.2 g w args hw ha) ?_⟩
 rintro e w' ⟨u,g',rfl,hw',hr⟩
 have hgn:g.n=I σ.H:=hw.n
 have hn':g'.n=I T:=hw'.rep.n
 let g2:Gh:={ M:=g'.M,β:=fun i=>g'.β (sel i),n:=I H',ι:=g'.ι,κ:=fun i=>g'.κ (sel i)}
 have ho:∀o,o<I H'->sel o<g'.n->id o<g2.n/\g2.β (id o)=g'.β (sel o)/\g2.κ (id o)=g'.κ (sel o):=fun o h _=>⟨h,rfl,rfl⟩
 have hι:∀t,([]:List Nat).contains t=J->∀m u,g'.ι (id t) m=G u->g2.ι (id t) m=G u:=fun t ht=>by grind
 have hdd:=fun(d:D) (u:yz) (hk:d.okN (I H') []=J) (h:Ag g' (d.ren sel id) u)=>by
  have:=LA (g:=g') (g':=g2) (ρ:=sel) (τ:=id) (ρ':=id) (τ':=id) (fun _ _ h=>h) ho hι d u hk h
  rwa[NU] at this
 have hds:=fun(ds:List D) (us:List yz) (hk:D.okNs (I H') [] ds=J) (h:Af g' (D.rens sel id ds) us)=>by
  have:=DX (g:=g') (g':=g2) (ρ:=sel) (τ:=id) (ρ':=id) (τ':=id) (fun _ _ h=>h) ho hι ds us hk h
  rwa[FE] at this
 refine⟨u,g2,rfl,?_,hdd d u hd hr⟩
 refine{ rep:=?_,M:=hw'.M,size:=hw'.size,keep:=hw'.keep,os:=hw'.os,tape:=hw'.tape,output:=hw'.output,nE:=?_,βE:=?_,κE:=?_,objs:=?_,owns:=fun x hx=>by grind,drawn:=hw'.drawn }
 ·refine{ n:=rfl,mem:=hw'.rep.mem,obj:=?_,inj:=?_,own:=fun k s xs hx=>by grind,tags:=by simp,sep:=fun x hx=>by grind,ownObj:=fun x hx=>by grind,fresh:=hw'.rep.fresh,gl:=hw'.rep.gl,gw:=hw'.rep.gw }
  ·intro i cs hi
   obtain⟨h1,h2⟩:=hsel i cs hi
   obtain⟨us,rest,et,a1,a2,a3,a4,a5⟩:=hw'.rep.obj (sel i) _ h1
   exact⟨us,rest,et,a1,hds cs us h2 a2,P7 a3,a4,a5⟩
  ·intro i j cs ds hi hj hij
   have hil:=(HL.1 hi).1
   have hjl:=(HL.1 hj).1
   exact hinj i j hil hjl (hw'.rep.inj _ _ _ _ (hsel i cs hi).1 (hsel j ds hj).1 hij)
 ·grind
 ·intro o ho2
  have h2:o<I σ.H:=by grind
  show g'.β (sel o)=g.β o
  rw[hfix o h2];exact hw'.βE o ho2
 ·intro o ho2
  have h2:o<I σ.H:=by grind
  show g'.κ (sel o)=g.κ o
  rw[hfix o h2];exact hw'.κE o ho2
 ·intro i cs hi
  exact hw'.objs _ _ (hsel i cs hi).1
theorem Aj8{E:cd}{g:Gh}{σ:St}{e e':List D}{a:Act}{w:x5}{H':List (Option (List D))}(sel:Nat->Nat){m:Nat}(hEm:E.g.n<=m)(hm:m<=I H')(hfix:∀i,i<m->sel i=i)
  (hinj:∀i j,i<I H'->j<I H'->sel i=sel j->i=j)
  (hsel:∀i cs,H'[i]?=G (G cs)->σ.H[sel i]?=G (G (D.rens sel id cs))/\D.okNs (I H') (σ.own.map (·.1)) cs=J)
  (he:D.okNs (I H') (σ.own.map (·.1)) e'=J) (hee:e=D.rens sel id e') (hf:FI E g σ e a w):∃g',FI E g' ⟨H',σ.own⟩ e' a w:=by
 have hw:=hf.wi
 let g2:Gh:={ M:=g.M,β:=fun i=>g.β (sel i),n:=I H',ι:=g.ι,κ:=fun i=>g.κ (sel i)}
 have ho:∀o,o<I H'->sel o<g.n->id o<g2.n/\g2.β (id o)=g.β (sel o)/\g2.κ (id o)=g.κ (sel o):=fun o h _=>⟨h,rfl,rfl⟩
 have hι:∀t,(σ.own.map (·.1)).contains t=J->∀m u,g.ι (id t) m=G u->g2.ι (id t) m=G u:=fun t _ m u h=>h
 have hds:=fun(ds:List D) (us:List yz) (hk:D.okNs (I H') (σ.own.map (·.1)) ds=J) (h:Af g (D.rens sel id ds) us)=>by
  have:=DX (g:=g) (g':=g2) (ρ:=sel) (τ:=id) (ρ':=id) (τ':=id) (fun _ _ h=>h) ho hι ds us hk h
  rwa[FE] at this
 refine⟨g2,?_,hds e' _ he (hee▸hf.env),hf.defers⟩
 refine{ rep:=?_,M:=hw.M,size:=hw.size,keep:=hw.keep,os:=hw.os,tape:=hw.tape,output:=hw.output,nE:=IE hEm hm,βE:=?_,κE:=?_,objs:=?_,owns:=hw.owns,drawn:=hw.drawn }
 ·refine{ n:=rfl,mem:=hw.rep.mem,obj:=?_,inj:=?_,own:=hw.rep.own,tags:=hw.rep.tags,sep:=hw.rep.sep,ownObj:=?_,fresh:=hw.rep.fresh,gl:=hw.rep.gl,gw:=hw.rep.gw }
  ·intro i cs hi
   obtain⟨h1,h2⟩:=hsel i cs hi
   obtain⟨us,rest,et,a1,a2,a3,a4,a5⟩:=hw.rep.obj (sel i) _ h1
   exact⟨us,rest,et,a1,hds cs us h2 a2,P7 a3,a4,a5⟩
  ·intro i j cs ds hi hj hij
   have hil:=(HL.1 hi).1
   have hjl:=(HL.1 hj).1
   exact hinj i j hil hjl (hw.rep.inj _ _ _ _ (hsel i cs hi).1 (hsel j ds hj).1 hij)
  ·intro x hx u hu b hb i cs hi
   exact hw.rep.ownObj x hx u hu b hb _ _ (hsel i cs hi).1
 ·intro o ho2
  show g.β (sel o)=E.g.β o
  rw[hfix o (by omega)];exact hw.βE o ho2
 ·intro o ho2
  show g.κ (sel o)=E.g.κ o
  rw[hfix o (by omega)];exact hw.κE o ho2
 ·intro i cs hi
  exact hw.objs _ _ (hsel i cs hi).1
theorem C3{C:cd->cd->Prop}{P:x7}{R:List D->St->Prop}{k:List KI}{σ:St}{e e':List D}{H':List (Option (List D))}{m:Nat}(hCm:∀E0 E,C E0 E->E.g.n<=m)(sel:Nat->Nat)(hm:m<=I H')(hfix:∀i,i<m->sel i=i)
  (hinj:∀i j,i<I H'->j<I H'->sel i=sel j->i=j)
  (hsel:∀i cs,H'[i]?=G (G cs)->σ.H[sel i]?=G (G (D.rens sel id cs))/\D.okNs (I H') (σ.own.map (·.1)) cs=J)
  (he:D.okNs (I H') (σ.own.map (·.1)) e'=J) (hee:e=D.rens sel id e') (h:A2 C P R k e' ⟨H',σ.own⟩):A2 C P R k e σ:=by grind[Aj8,A2]
theorem E6{C:cd->cd->Prop}{P:x7}{R:List D->St->Prop}{k:List KI}{H0 H':List (Option (List D))}{e e':List D}(hCm:∀E0 E,C E0 E->E.g.n<=0)(j:Nat)(hj:I H0=j)(hp:∀cs,G cs∈H'->D.pls cs=J)
  (he:D.okNs (I H') [] e'=J) (hee:e=D.rens (fun i=>i+j) id e') (h:A2 C P R k e' ⟨H',[]⟩):A2 C P R k e ⟨H0++H',[]⟩:=by
 refine C3 (σ:=⟨H0++H',[]⟩) (e':=e') (H':=H') (m:=0) hCm (fun i=>i+j) (Iu _) (fun i hi=>by omega) (fun i k _ _ h=>by omega) (fun i cs hi=>?_) he hee h
 grind[AO,A7]
theorem Hx{P:x7}{f:yx}{ds:List D}{k:Nat}{xs:List V}{own:List (Nat×Nat×List V)}(h:Aa P f ds ⟨[],[]⟩ (.acc k xs) ⟨[],own⟩):Aa P f ds ⟨[],[]⟩ (.v (.list xs)) ⟨[],[]⟩:=by
 refine⟨h.1,fun g w args hw ha=>Calls.mono (h.2 g w args hw ha) ?_⟩
 rintro e w' ⟨u,g',rfl,hw',hr⟩
 have hw2:=WB (σ':=⟨[],[]⟩) hw' (m:=0) rfl (Iu _) (by rw[hw.n];grind) rfl (by simp)
 grind[Ag]
def ku:St:=⟨[],[(1,1,[]),(1,1,[])]⟩
theorem Vt{P:x7}{o:yy}{ds:List D}{d:D}{s':St}:Ai P o ds ku d s':=fun E g a w K Q hw=>by
 have:=hw.rep.tags
 grind[ku]
theorem Afw{P:x7}{o:yy}{ds:List D}{q off:Nat}{s:St}{d:D}{s':St}(h:I s.H<=q):Ai P o (.ptr q off::ds) s d s':=fun E g a w K Q hw hds=>by
 simp only[Af,Ag] at hds
 have:=hw.rep.n
 omega
theorem QE:∀(L:List (Nat×D)) (e0 e:List D),I e0=I e->(∀(i:Nat) (d':D),e0[i]?=G d'->d'=.undef∨e[i]?=G d')->(∀p∈L,e0[p.1]?=G .undef)->
  (I e0)=I (L.foldl (fun e p=>e.set p.1 p.2) e)/\∀(i:Nat) (d':D),e0[i]?=G d'->d'=.undef∨(L.foldl (fun e p=>e.set p.1 p.2) e)[i]?=G d'
 |[],e0,e,hl,h,_=>⟨hl,h⟩
 |p::L,e0,e,hl,h,hp=>by
  refine QE L e0 (e.set p.1 p.2) (by grind) (fun i d' hd=>?_) (fun q hq=>hp q (by simp[hq]))
  grind
theorem SS{C:cd->cd->Prop}{P:x7}{R:List D->St->Prop}{k:List KI}{n:Nat}{L L2:List (Nat×D)}{σ:St}(hp:∀p∈L2,(cy n L)[p.1]?=G .undef)(h:A2 C P R k (cy n L) σ):A2 C P R k (cy n (L++L2)) σ:=by
 obtain⟨h1,h2⟩:=QE L2 (cy n L) (cy n L) rfl (fun i d' hd=>.inr hd) hp
 grind[cy,H4]
theorem AgB{P:x7}(hm:P.follows .mixedOrders=J){C:Nat}{fn:yw}{d:D}{σ':St}(nt:Nat)(im:List Nat){ks T:List KI}{L:List (Nat×D)}{σ:St}(s:Sc)
  (h:AX (cy nt L) fun env=>vc (CN C) C P (fun env σ1=>A9 P fn env σ1 d σ') (Zr P fn.results.toList d σ') nt im T 10000 s ks env σ):Rn P fn C d σ' (ks++T) (cy nt L) σ:=AhJ hm (NF _) _ (fun _ _ h=>h.2) nt im s h
noncomputable def Ai6(P:x7)(rs:List ResultVar)(d:D)(σ':St)(env:List D)(σ:St)(kn0:Bool:=false):Prop:=
 l5 P env σ true rs fun ds=>AX (ds.map (io (σ'.own.map (·.1)) kn0)) fun ds=>vg ds fun d'=>
  cond (D.okN (I σ'.H) (σ'.own.map (·.1)) d&&Nat.ble (I σ'.H) (I σ.H)) (xl true (cm (I σ'.H) (σ'.own.map (·.1)) (σ.H.take (I σ'.H)))
   (T7 σ'.H (σ.H.take (I σ'.H)) (T7 σ'.own (m6 (σ'.own.map (·.1)) σ.own) (d'=d)))) False
theorem U3{P:x7}{fn:yw}{d:D}{σ':St}{env:List D}{σ:St}(h:Ai6 P fn.results.toList d σ' env σ):A9 P fn env σ d σ':=by
 obtain⟨ds,h1,hr⟩:=Hv h
 rw[AQ,Pz] at h1
 obtain⟨h2,h3⟩:=As h1
 obtain⟨h8,h3⟩:=Tm h3
 simp only[HJ] at h2
 generalize false=kn at h3
 have h4:Tb (ds.map (io (σ'.own.map (·.1)) kn))=d/\σ.H.take (I σ'.H)=σ'.H/\m6 (σ'.own.map (·.1)) σ.own=σ'.own:=by
  obtain⟨e1,h3⟩:=Hi h3 (fun e=>by grind)
  grind[Hi,m6,List.filter_eq_nil_iff]
 obtain⟨rfl,hH,hown⟩:=h4
 intro E g a w hf hE
 obtain⟨us,h5,h6⟩:=hr.run hf
 have hrun:(results fn a.tmps).run P w=.ok (if h:I us=1 then us[0] else .tuple us.toArray) w:=by
  rw[H6,Array.mapM_eq_mapM_toList]
  simp_all
 have hsub:σ'.own.Sublist σ.own:=by rw[←hown];exact List.filter_sublist
 refine⟨_,_,hrun,WB hf.wi hH.symm (Io h2.2) hE (by grind) hsub,?_⟩
 refine Mu _ _ h2.1 ?_
 have h7:=D7 (ts:=σ'.own.map (·.1)) (kn:=kn) h6
 generalize ds.map (io (σ'.own.map (·.1)) kn)=ds' at h7
 have hl:=A1 h7
 unfold Tb
 split
 ·grind[AB]
 ·rename_i hne
  have:I us≠1:=by
   rw[hl]
   intro h
   match ds',h with
   |[d0],_=>grind
  grind[Ag]
theorem Po{P:x7}(hm:P.follows .mixedOrders=J){f:yx}{ds:List D}{σ σ':St}{d:D}(fn:yw)(c:Code)(hf:P.funcs[f]?=G fn)(hb:fn.body=G c)(hn:(fn.name=="runtime.NumGoroutine")=O)(hH:Nat.ble (I σ.H) (I σ'.H)=J)(nt:Nat)(hnt:I (ds++replicate (fn.ntmps-I ds) bj)=nt)
  (im:List Nat) (s:Sc)
  (h:AX (ds++replicate (fn.ntmps-I ds) bj) fun env=>vc (CN (I σ.H)) (I σ.H) P (fun env σ1=>A9 P fn env σ1 d σ') (fun _ env σ=>Ai6 P fn.results.toList d σ' env σ) nt im [] 10000 s [.code c] env σ):Aa P f ds σ d σ':=by
 rw[AQ] at h
 refine Lg hf hb hn (Io hH) ?_
 exact Qz (ks:=[.code c]) (T:=[]) (NF _) (fun _ _ h=>h.2) hm (fun b env σ _ h=>U3 h) hnt h
section
variable {P : x7} {o : yy} {σ : St} {d : D}
theorem M7{x:x8}{t:x6}(ho:o.op=.call { callee:=.builtin .clear,args:= #[x],argTypes:= #[t]}){e:x6}{sz by':Nat}{z:yz}(hs:BS P t=G (e,sz,by',G z)){zs:List V}(hz:FK z.cells.toList=G zs)(hzc:z.cells.size=sz)
  {q off len:Nat} {cs:List D} (hq:σ.H[q]?=G (G cs)) (hn:0<len) (hfit:off+len*sz<=I cs):
  Ai P o [.arr q off len] σ (.tup []) ⟨σ.H.set q (G (cs.take off++(replicate len zs).flatten.map .v++cs.drop (off+len*sz))),σ.own⟩:=by
 intro E g a w K Q hw hds hK
 simp only[ho,Op.operands,Call.operands] at hds
 obtain⟨u,eq,h1⟩:=AB.1 (by simpa using hds)
 simp only[HV,Ix] at eq
 simp only[Ag] at h1
 obtain⟨_,cap,_,rfl⟩:=h1
 obtain⟨i,hu,hi,hsz,hby,hzz⟩:=AF hs
 obtain⟨us,rest,et,hb,hr,hone,hM,hκ⟩:=hw.rep.obj q cs hq
 have hul:=A1 hr
 have hcells:(Builtin.zeroCells z.cells len).toList=(replicate len z.cells.toList).flatten:=by
  have h:=Ln z.cells len
  grind[Builtin.zeroCells,madeCells]
 obtain⟨hr1,ho1⟩:=DL (g:=g) (Fp (M:=g.M) hz)
 have hrz:∀m,Af g ((replicate m zs).flatten.map .v) (replicate m z.cells.toList).flatten/\∀c∈ (replicate m zs).flatten.map bt,c.one=J:=by
  intro m
  induction m<;>grind[Af,Aw]
 have hvl:(replicate len z.cells.toList).flatten.length=len*sz:=by simp_all
 have hst:=run_storeCells_at P (g.β q) off et (replicate len z.cells.toList).flatten 0 (us++rest).toArray w hb (by grind) (fun v hv=>Cp (hrz len).2 (hrz len).1 v hv)
 simp only[IG,hvl] at hst
 rw[show(us++rest).take off++(replicate len z.cells.toList).flatten++(us++rest).drop (off+len*sz)=(us.take off++(replicate len z.cells.toList).flatten++us.drop (off+len*sz))++rest from by
  grind] at hst
 have hw':=hw.setObj (cs':=cs.take off++(replicate len zs).flatten.map .v++cs.drop (off+len*sz)) hq (us:=us.take off++(replicate len z.cells.toList).flatten++us.drop (off+len*sz)) (rest:=rest) (e:=et)
  (w':=w.setRow (g.β q) ((us.take off++(replicate len z.cells.toList).flatten++us.drop (off+len*sz))++rest).toArray) (setRow_heap w _ _ _ et _ hb) (by grind)
  (Aw (Aw (Ce hr off) (hrz len).1) (Cq hr (off+len*sz)))
  (fun c hc=>by
   grind)
  (fun b hb=>setRow_other w _ _ _ hb) (by simp) rfl rfl rfl
 have:=hK g _ (.tuple #[]) hw' g.le_refl (by grind[Ag,Af])
 obtain⟨m,hm⟩:∃m,len=m+1:=⟨len-1,by omega⟩
 have hrun:(Builtin.clear_ #[t] o.type #[.slice (G ⟨g.β q,off,none⟩) len cap]).run P w=.ok (.tuple #[]) (w.setRow (g.β q) ((us.take off++(replicate len z.cells.toList).flatten++us.drop (off+len*sz))++rest).toArray):=by
  subst hm
  simp[Builtin.clear_,run_underlying hu,zeroValue,typeInfo,hi,hzz,hcells,hst]
 unfold Oper.wp execOp
 simp only[ho,resolve,invoke,builtin,Sem.run_bind,Sem.run_pure,Result.andThen_ok]
 grind[Oper.upon,Result.andThen]
end
theorem T9{env:List D}{σ:St}{q t sz n:Nat}{xs:List V}{rest:List D}(hsz:0<sz)(hs:∀x∈xs,x.size=sz)(hn:n=I xs)(hq:σ.H[q]?=G (G (Ab xs++rest)))(ht:env[t]?=G (.arr q 0 n)):Cv env σ (env.set t (.v (.list xs))) ⟨σ.H.set q none,σ.own⟩:=fun E g a w hf=>by
 subst hn
 have hone:∀y∈xs.flatMap V.cellsV,y.isAgg=O:=fun y hy=>by
  obtain⟨_,_,_,_,_,h1,_⟩:=hf.wi.rep.obj q _ hq
  have:=h1 (.v y) (I6.2 (.inl (I2.2 ⟨y,hy,rfl⟩)))
  grind[D.one]
 have hz:Fz (EE [q] σ.H) env (env.set t (.v (.list xs))):=by
  refine Oj (n:=1) (Fz.refl env) ht (.inr (.inr ⟨q,0,sz,Ab xs++rest,xs,.inl rfl,rfl,hsz,hs,by grind[EE],fun j y hy=>?_⟩))
  exact⟨hone y (HO hy),.v y,by grind[Ab],.v y,.same,rfl⟩
 obtain⟨g',hf'⟩:=RM [q] hz E g a w hf
 grind[MI]
theorem Aas(n:Nat):ez n (List.range n)=id:=by
 grind[ez]
theorem N5:∀(H2 H1 os:List (Option (List D))),I H2<=I os->Cy (H1++H2) (List.range' (I H1) (I H2)) os=H1++os
 |[],H1,os,_=>by simp[Cy]
 |x::H2,H1,[],h=>by grind
 |x::H2,H1,o::os,h=>by
  rw[HN,List.range'_succ,Cy]
  have h2:=N5 H2 (H1++[o]) os (by grind)
  grind
theorem AeX(H:List (Option (List D))):CO id id H=H:=by
 unfold CO
 conv=>rhs;rw[←List.map_id H]
 refine List.map_congr_left fun x _=>?_
 cases x<;>grind[FE]
theorem N7{n:Nat}{qs:List Nat}(hq:I qs=n)(hr:ez n qs=id):∀{ds:List D},D.okNs n [] ds=J->E4 n qs ds ds
 |[],_=>.nil
 |d::ds,h=>by
  simp only[D.okNs,HJ] at h
  refine .cons ?_ (N7 hq hr h.2)
  have:=pk.ren (n:=n) (qs:=qs) (dc:=d) (by grind)
  grind[NU]
theorem Rh{H:List (List D)}{qs:List Nat}(hq:I qs=I H)(hr:ez (I H) qs=id)(hH:∀cs∈H,D.okNs (I H) [] cs=J/\cs.all D.one=J):∀(k:Nat),k<=I H->Qh (H.map some) qs (List.range' (I H-k) k) ((H.drop (I H-k)).map some)
 |0,_=>by simp;exact .nil
 |k+1,hk=>by
  have hlt:I H- (k+1)<I H:=by omega
  rw[List.range'_succ,HX hlt,Ik,show I H- (k+1)+1=I H-k by omega]
  have hm:=hH _ (List.getElem_mem hlt)
  refine .cons (cs:=H[I H- (k+1)]) (by grind) ?_ hm.2 (Rh hq hr hH k (by omega))
  grind[N7]
theorem Dw{P:x7}{o:yy}{c:Call}{fo:x8}(ho:o.op=.call c)(hc:c.callee=.value fo){fD:D}{f:yx}{fs cs:List D}(hf:PL fD=G (f,fs,cs)){H:List (List D)}{H':List (Option (List D))}{ds:List D}{d:D}
  (hspec:Aa P f (fs++ds++cs) ⟨H.map some,[]⟩ d ⟨H',[]⟩) (hds:D.okNs (I H) [] (fs++ds++cs)=J) (hH:∀cs∈H,D.okNs (I H) [] cs=J/\cs.all D.one=J) (hd:d.okN (I H') []=J) (hH':cm (I H') [] H'=J) (hle:I H<=I H'):
  Ai P o (fD::ds) ⟨H.map some,[]⟩ d ⟨H',[]⟩:=by
 have hq:I (List.range (I H))=I H:=List.length_range
 have hr:=Aas (I H)
 have hl:I (H.map some)=I H:=HH ..
 have hob:=Rh hq hr hH (I H) (HP _)
 rw[Nat.sub_self,Jt, ←List.range_eq_range'] at hob
 have h:=B3 (σ:=⟨H.map some,[]⟩) ho hc hf (List.range (I H)) id hspec (by
  show E4 (I (H.map some)) _ _ _
  rw[hl];exact N7 hq hr hds) hob List.nodup_range rfl (by simp) (by simp) hd hH'
 have hb:Cy (H.map some) (List.range (I H)) H'=H':=by
  have:=N5 (H.map some) [] H' (by omega)
  grind[List.range_eq_range']
 grind[NU,AeX,DM]
end Go.Nv

namespace Go.Proofs.YtkkplhjidondkaaGreat
open Go.Dv Go.Nv
set_option maxRecDepth 20000
open List (flatten pairwise_cons replicate take)
open Go.IntKind (u64)
open Go.IntKind renaming wrap → yu, i64 → yt
open List renaming length → I, map → U, drop → W
open Option renaming some → G
open Bool renaming true → J, false → O
open Decidable renaming decide → Y
open Int renaming toNat → Z
open Go.Dv.V renaming list → ai, str → ae, agg → ab, int → aa, ref → bz, fn → bw, nils → bv, bool → bu
open Go.Dv.D renaming v → bt, acc → br, ptr → bq, arr → bo, gro → bm, tup → bk, undef → bj, dagg → bi
open Go.Dv.St renaming mk → bh
open Go.Dv.KI renaming blk → bf
open _root_.ByteArray renaming mk → bc
open Go renaming Operand → x8, Program → x7, TypeId → x6, World → x5, Value → yz, Oper → yy, FuncId → yx, Func → yw, IntKind → yv
structure ChC(m:cz)(c:b9):Prop where
 size:c.size<=128
 len:I c.az=1+I m.ay
 word:∀(k:Nat) (x:b9),c.az[1+k]?=G x->I x.az<=12
structure n9(m:cz)(t:cr):Prop where
 int:G2 m t
 chk:F0 84 [Ad m] (di 0)
 kind:m.kind=2∨m.kind=3
 few:I m.av<=12/\m.ay.length<=2
 rule:∀r∈m.av,0<=r.chan/\r.chan<I m.ay
 shape:∀c,Ah t c=J->ChC m c
noncomputable abbrev Ann:=Tryz.f287
theorem Y0(m:cz)(t:cr)(hm:G2 m t)(c:b9)(hs:c.size<=1000000):F0 287 [dV c,.v (.ref (A0 m))] (db (!Ah t c)):=by
 exact sv Ann 8 [2] (.c (db (Ah t c)) .r) (_/\Q (db !Ah t c)) ⟨hm.valid c hs,rfl⟩
noncomputable abbrev Ov:=Tryz.f266
theorem AnC(m:cz)(t:cr)(hm:n9 m t):F0 266 [Ad m,dl []] (di 0):=by
 have h:=FV 287 [] [.ref (A0 m)] (fun c=> !Ah t c) [] (by simp) (by simp)
 rcases hm.kind with hk|hk
 ·exact sv Ov 24 [2] (.c (di 0)<|.k<|.f<|.c (db O) .r) (_/\(m.kind !=2)=O/\_/\Q (di 0)) ⟨hm.chk,by grind,h,rfl⟩
 ·exact sv Ov 24 [2] (.c (di 0)<|.k<|.t<|.f<|.c (db O) .r) (_/\(m.kind !=2)=J/\(m.kind !=3)=O/\_/\Q (di 0)) ⟨hm.chk,by grind,by grind,h,rfl⟩
def om(t:cr)(c:b9):Int:=if Ah t c=J then 0 else 17
theorem Aip(m:cz)(t:cr)(hm:n9 m t)(c:b9)(hs:c.size<=1000000):F0 266 [Ad m,dl [Ac c]] (di (om t c)):=by
 have h:=FV 287 [] [.ref (A0 m)] (fun c=> !Ah t c) [c] (by simp) (fun x hx=>by rw[HY.1 hx];exact Y0 m t hm.int c hs)
 rw[show [c].map eV=[Ac c] from Ih (fun z=>[z]) (AH c)] at h
 rw[om]
 cases hv:Ah t c with
 |true=>
  rw[show([c].any fun c=> !Ah t c)=O by simp[hv]] at h
  rcases hm.kind with hk|hk
  ·exact sv Ov 24 [2] (.c (di 0)<|.k<|.f<|.c (db O) .r) (_/\(m.kind !=2)=O/\_/\Q (di 0)) ⟨hm.chk,by rw[hk];rfl,h,rfl⟩
  ·exact sv Ov 24 [2] (.c (di 0)<|.k<|.t<|.f<|.c (db O) .r) (_/\(m.kind !=2)=J/\(m.kind !=3)=O/\_/\Q (di 0)) ⟨hm.chk,by rw[hk];rfl,by rw[hk];rfl,h,rfl⟩
 |false=>
  rw[show([c].any fun c=> !Ah t c)=J by simp[hv]] at h
  rcases hm.kind with hk|hk
  ·exact sv Ov 24 [2] (.c (di 0)<|.k<|.f<|.c (db J) .r) (_/\(m.kind !=2)=O/\_/\Q (di 17)) ⟨hm.chk,by rw[hk];rfl,h,rfl⟩
  ·exact sv Ov 24 [2] (.c (di 0)<|.k<|.t<|.f<|.c (db J) .r) (_/\(m.kind !=2)=J/\(m.kind !=3)=O/\_/\Q (di 17)) ⟨hm.chk,by rw[hk];rfl,by rw[hk];rfl,h,rfl⟩
noncomputable abbrev AqM:=Tryz.f232
theorem Aha(m:cz)(t:cr)(hm:n9 m t)(i:Nat)(hi:i<I m.av)(c:b9)(hs:c.size<=1000000):F0 232 [Ad m,di i,dV c] (di (om t c)):=by
 refine sv AqM 28 [3,5] (.c (di 0)<|.k<|.k<|.f<|.c (di (om t c)) .r) (F0 266 [Ad m,bt (ai [])] (di 0)/\Y ((i:Int)>=(I (U Al m.av):Int))=O/\F0 266 [Ad m,bt (ai [Ac c])] (di (om t c))/\Q (di (om t c))) ?_
 grind[AnC,Aip]
abbrev AP(x:b9):List Int:=x.az.map b9.n
noncomputable abbrev vo:=Tryz.f234
noncomputable def Y8:=yl vo
theorem Ac1(l:List b9)(hl:I l<=1000000)(n:Nat):∀k:Nat,I l-k=n->
  Rn PP vo 0 (.acc 1 ((l.map b9.n).map vi)) ⟨[],[(1,1,(l.map b9.n).map vi)]⟩ ([kl Y8 [1,1,0,1,0,0],.blk 0,kc Y8 [1,1,1]]++[]) (cy 27 [(5,.acc 1 (((l.take k).map b9.n).map vi)),(14,cq l),(15,di (I l)),(16,di k)]) ⟨[],[(1,1,((l.take k).map b9.n).map vi)]⟩:=by
 induction n with
 |zero=>
  intro k hn
  refine lv 27 [2] (.f .r) (Y ((k:Int)<(I l:Int))=O/\[(1,1,U vi (U b9.n (take k l)))]=[(1,1,U vi (U b9.n l))]/\br 1 (U vi (U b9.n (take k l)))=br 1 (U vi (U b9.n l))) ?_
  grind[List.take_of_length_le]
 |succ n ih=>
  intro k hn
  obtain⟨x,hx⟩:=yk (show k<I l by omega)
  refine lv 27 [2] (.t<|.h (.xs (Ac x))<|.ls [ch 5 (.acc 1 (((l.take (k+1)).map b9.n).map vi)),ke 14,ke 15,ch 16 (di (k+1:Nat))] ⟨[],[(1,1,((l.take (k+1)).map b9.n).map vi)]⟩) (Y ((k:Int)<(I l:Int))=J/\Q 2/\0<=(k:Int)/\(U eV l)[Z (k:Int)]?=G (Ac x)/\Q (U vi (U b9.n (take k l)))/\Ao (I (U vi (U b9.n (take k l)))+I (vi x.n::nV)) 8/\br 1 (U vi (U b9.n (take k l))++[vi x.n])=br 1 (U vi (U b9.n (take (k+1) l)))/\di (yu yt ((k:Int)+1))=di (↑(k+1):Int)/\[(1,1,U vi (U b9.n (take k l))++vi x.n::nV)]=[(1,1,U vi (U b9.n (take (k+1) l)))]/\I0 vo 0 (br 1 (U vi (U b9.n l))) (bh [] [(1,1,U vi (U b9.n l))]) [kl Y8 ee,bf 0,kc Y8 [1,1,1]] (cy 27 [(5,br 1 (U vi (U b9.n (take (k+1) l)))),(14,cq l),(15,di (I l:Int)),(16,di (↑(k+1):Int))]) (bh [] [(1,1,U vi (U b9.n (take (k+1) l)))])) ?_
  have ht:((l.take (k+1)).map b9.n).map vi=((l.take k).map b9.n).map vi++[vi x.n]:=by rw[IW,hx];simp
  rw[ht]
  refine⟨yr,rfl,by omega,Ap hx,rfl,⟨?_,?_⟩,rfl,Ae,rfl,⟨?_⟩⟩
  ·simp only[HH,Ip,HN,HR];omega
  ·simp only[HH,Ip,HN,HR];omega
  grind
theorem Oz(c:b9)(k:Nat)(x:b9)(hx:c.az[1+k]?=G x)(hl:I c.az<=1000000)(hs:I x.az<=1000000):Aa PP 234 [dV c,di k] ba (.acc 1 ((AP x).map vi)) ⟨[],[(1,1,(AP x).map vi)]⟩:=by
 refine sv vo 27 [2] (.h (.q 2 0)<|.h (.nw 5 1 1)<|.h (.xs (Ac x))<|.ls [ch 5 (.acc 1 []),ke 14,ch 15 (di (I x.az)),ch 16 (di (0:Nat))] ⟨[],[(1,1,[])]⟩) (Q 2/\0<=yu yt (1+(k:Int))/\(ce c.az)[Z (yu yt (1+(k:Int)))]?=G (Ac x)/\Q iu/\di (I (ce x.az):Int)=di (I x.az:Int)/\di 0=di (↑0:Int)/\Q [(1,1,nV)]/\I0 vo (I ba.H) (br 1 (U vi (AP x))) (bh [] [(1,1,U vi (AP x))]) [kl Y8 ee,bf 0,kc Y8 [1,1,1]] (cy 27 [(5,br 1 []),(14,cq x.az),(15,di (I x.az:Int)),(16,di (↑0:Int))]) s7) ?_
 have hk:=(HL.1 hx).1
 have hw:yt.wrap (1+(k:Int))=((1+k:Nat):Int):=by grind[Ak]
 rw[hw]
 exact⟨rfl,by omega,Ap hx,rfl,by grind,rfl,rfl,⟨Ac1 x.az hs _ 0 rfl⟩⟩
theorem RQ(c:b9)(k:Nat)(x:b9)(hx:c.az[1+k]?=G x)(hl:I c.az<=1000000)(hs:I x.az<=1000000):F0 234 [dV c,di k] (cx (AP x)):=Hx (Oz c k x hx hl hs)
noncomputable abbrev Agw:=Tryz.f233
theorem AcL(r:cf)(c:b9)(k:Nat)(hk:r.chan=k)(s x:b9)(hs:c.az[0]?=G s)(hx:c.az[1+k]?=G x)(hl:I c.az<=1000000)(hz:I x.az<=1000000):
  F0 233 [BP r,dV c] (db ((s.n==r.aj)&&((r.act !=2)||(AP x).head?==G r.letter))):=by
 have hct:=RQ c k x hx hl hz
 rw[←hk] at hct
 have hx0:(c.az.map eV)[Z 0]?=G (Ac s):=Ap (i:=0) hs
 by_cases h1:(s.n !=r.aj)=J
 ·have e1:(s.n==r.aj)=O:=by simpa using h1
  refine sv Agw 32 [2,3] (.h (.xs (Ac s))<|.t .r) (Q 2/\iz 0<=0/\(ce c.az)[Z 0]?=G (Ac s)/\(s.n !=r.aj)=J/\db O=db (s.n==r.aj&&(r.act !=2||List.head? (AP x)==G r.letter))) ?_
  rw[e1]
  exact⟨rfl,Il _,hx0,h1,rfl⟩
 ·have f1:=HU h1
  have e1:(s.n==r.aj)=J:=by simpa using h1
  by_cases h2:(r.act !=2)=J
  ·refine sv Agw 32 [2,3] (.h (.xs (Ac s))<|.f<|.t .r) (Q 2/\iz 0<=0/\(ce c.az)[Z 0]?=G (Ac s)/\(s.n !=r.aj)=O/\(r.act !=2)=J/\db J=db (s.n==r.aj&&(r.act !=2||List.head? (AP x)==G r.letter))) ?_
   rw[e1,h2]
   exact⟨rfl,Il _,hx0,f1,rfl,rfl⟩
  ·have f2:=HU h2
   rw[e1,f2]
   cases hn:AP x with
   |nil=>
    rw[hn] at hct
    exact sv Agw 32 [2,3] (.h (.xs (Ac s))<|.f<|.f<|.c (cx []) .r) (Q 2/\iz 0<=0/\_/\_/\_/\_/\Q (db O)) ⟨rfl,Il _,hx0,f1,f2,hct,rfl⟩
   |cons y ys=>
    rw[hn] at hct
    exact sv Agw 32 [2,3] (.h (.xs (Ac s))<|.f<|.f<|.c (cx (y::ys))<|.t<|.x (vi y) .r) (Q 2/\iz 0<=0/\_/\_/\_/\_/\Y ((I (U vi (y::ys)):Int)>0)=J/\iz 0<=0/\Q (G (vi y))/\db (y==r.letter)=db (true&&(false||List.head? (y::ys)==G r.letter))) ⟨rfl,Il _,hx0,f1,f2,hct,HK (by simp only[HH,HN];omega),Il _,rfl,by simp⟩
noncomputable abbrev qz:=Tryz.f82
noncomputable def YT:=yl qz
theorem AgA(l:List b9)(hl:I l<=1000000)(hp:∀v∈l,F0 44 [dV v] (dV v))(n:Nat):∀k:Nat,I l-k=n->
  Rn PP qz 0 (.acc 1 (l.map eV)) ⟨[],[(1,2,l.map eV)]⟩ ([kl YT [1,1,0,1,0,0],.blk 0,kc YT [1,1,1]]++[]) (cy 19 [(3,.acc 1 ((l.take k).map eV)),(6,cq l),(7,di (I l)),(8,di k)]) ⟨[],[(1,2,(l.take k).map eV)]⟩:=by
 induction n with
 |zero=>
  intro k hn
  refine lv 19 [] (.f .r) (Y ((k:Int)<(I l:Int))=O/\[(1,2,U eV (take k l))]=[(1,2,U eV l)]/\br 1 (U eV (take k l))=br 1 (U eV l)) ?_
  rw[Im (by omega)]
  exact⟨yq,rfl,rfl⟩
 |succ n ih=>
  intro k hn
  obtain⟨x,hx⟩:=yk (show k<I l by omega)
  have hk:=(HL.1 hx).1
  have ht:l.take (k+1)=l.take k++[x]:=by rw[IW,hx];rfl
  refine lv 19 [] (.t<|.h (.xs (Ac x))<|.c (dV x)<|.ls [ch 3 (.acc 1 ((l.take (k+1)).map eV)),ke 6,ke 7,ch 8 (di (k+1:Nat))] ⟨[],[(1,2,(l.take (k+1)).map eV)]⟩) (Y ((k:Int)<(I l:Int))=J/\Q 2/\0<=(k:Int)/\(U eV l)[Z (k:Int)]?=G (Ac x)/\_/\Q (U eV (take k l))/\Ao (I (U eV (take k l))+I (Ac x::nV)) 32/\br 1 (U eV (take k l)++[Ac x])=br 1 (U eV (take (k+1) l))/\di (yu yt ((k:Int)+1))=di (↑(k+1):Int)/\[(1,2,U eV (take k l)++Ac x::nV)]=[(1,2,U eV (take (k+1) l))]/\_) ⟨yr,rfl,by omega,Ap hx,hp x (HO hx),rfl,⟨?_,?_⟩,?_,Ae,?_,iK (ih (k+1) (by omega))⟩
  ·simp only[HH,Ip,HN,HR];omega
  ·simp only[HH,Ip,HN,HR];omega
  ·rw[BM, ←ht]
  ·rw[ht, ←BM]
theorem VZ(l:List b9)(hl:I l<=1000000)(hp:∀v∈l,F0 44 [dV v] (dV v)):F0 82 [cq l] (cq l):=by
 have h:Aa PP 82 [cq l] ba (.acc 1 (l.map eV)) ⟨[],[(1,2,l.map eV)]⟩:=by
  exact sv qz 19 [] (.h (.q 2 0)<|.h (.nw 3 1 2)<|.ls [ch 3 (.acc 1 []),ke 6,ch 7 (di (I l)),ch 8 (di (0:Nat))] ⟨[],[(1,2,[])]⟩) (Q iu/\di (I (U eV l):Int)=di (I l:Int)/\Q (di 0)/\Q [(1,2,nV)]/\_) ⟨rfl,by rw[HH],rfl,rfl,iK (AgA l hl hp _ 0 rfl)⟩
 exact Hx h
noncomputable abbrev Apt:=Tryz.f44
noncomputable def AqR:=yl Apt
theorem LO(N:Nat):∀v:b9,v.size<=N->v.size<=1000000->F0 44 [dV v] (dV v):=by
 induction N with
 |zero=>intro v h;have:=v.size_pos;omega
 |succ N ih=>
  intro v hN hv
  have hs:=v.size_eq
  have hl:=b9.length_le v.az
  exact sv Apt 9 [1] (.c (cq v.az) .r) (_/\Q (dV v)) ⟨VZ v.az (by omega) (fun x hx=>by have:=b9.size_mem hx;exact ih x (by omega) (by omega)),rfl⟩
abbrev ub(xs:List b9):St:=⟨[G (Ab (xs.map eV))],[]⟩
theorem Ac0(l:List b9)(hl:I l<=100000)(hp:∀v∈l,F0 44 [dV v] (dV v))(n:Nat):∀k:Nat,I l- (k+1)=n->k<I l->
  Rn PP qz 0 (.arr 0 0 (I l)) (ub l) ([kl YT [1,1,0,1,0,0],.blk 0,kc YT [1,1,1]]++[]) (cy 19 [(3,.gro 0 (k+1) 2),(6,cq l),(7,di (I l)),(8,di (k+1:Nat))]) (ub (l.take (k+1))):=by
 induction n with
 |zero=>
  intro k hn hk
  refine lv 19 [] (.f<|.h (.q 7 0)<|.h (.ga 3) .ro) (Y ((↑(k+1):Int)<(I l:Int))=O/\cm 1 [] [G (Ab (U eV (take (k+1) l)))]=J/\[G (Ab (U eV (take (k+1) l)))]=[G (ej l)]/\bo 0 0 (k+1)=bo 0 0 (I l)) ?_
  have e:k+1=I l:=by omega
  rw[e,Im (HP _)]
  exact⟨yq,Ia.2 ⟨Aj 1 [] _,rfl⟩,rfl,rfl⟩
 |succ n ih=>
  intro k hn hk
  obtain⟨x,hx⟩:=yk (show k+1<I l by omega)
  refine lv 19 [] (.t<|.h (.xs (Ac x))<|.c (dV x)<|.lo [ch 3 (.gro 2 (k+1+1) 2),ke 6,ke 7,ch 8 (di (k+1+1:Nat))] ⟨[none,G (dp x.n x.az),G (Ab ((l.take (k+1+1)).map eV))],[]⟩) (Y ((↑(k+1):Int)<(I l:Int))=J/\Q 2/\0<=(↑(k+1):Int)/\(U eV l)[Z (↑(k+1):Int)]?=G (Ac x)/\F0 44 [dV x] (dV x)/\I (Ab (U eV (take (k+1) l)))=(k+1)*2/\[Ac x]≠ []/\(∀(y:V),y∈ [Ac x]->V.size y=2)/\Ao (k+1+I (Ac x::nV)) 32/\bm 2 (k+1+I (Ac x::nV)) 2=bm 2 (k+1+1) 2/\di (yu yt ((↑(k+1):Int)+1))=di (↑(k+1+1):Int)/\cm 3 [] [none,G (dp x.n x.az),G (Ab (U eV (take (k+1) l))++(dp x.n x.az))]=J/\[none,G (dp x.n x.az),G (Ab (U eV (take (k+1) l))++(dp x.n x.az))]=[none,G (dp x.n x.az),G (Ab (U eV (take (k+1+1) l)))]/\I0 qz 0 (bo 0 0 (I l)) (ub l) [kl YT ee,bf 0,kc YT [1,1,1]] (cy 19 [(3,bm 2 (k+1+1) 2),(6,cq l),(7,di (I l:Int)),(8,di (↑(k+1+1):Int))]) (bh [none,G (dp x.n x.az),G (Ab (U eV (take (k+1+1) l)))] [])) ?_
  have hk1:=(HL.1 hx).1
  have ht:l.take (k+1+1)=l.take (k+1)++[x]:=by rw[IW (i:=k+1),hx];rfl
  have hf:Ab ((l.take (k+1)).map eV)++[di x.n,bt (dt x.az)]=Ab ((l.take (k+1+1)).map eV):=by rw[ht,Hf,AG];rfl
  have hih:=ih (k+1) (by omega) hk1
  rw[hf]
  refine⟨yr,rfl,by omega,Ap hx,hp x (HO hx),by rw[AU,Ip];omega,by simp,fun y hy=>by rw[HY.1 hy];rfl,⟨?_,?_⟩,rfl,Ae,?_,rfl,⟨?_⟩⟩
  ·simp only[HN,HR];omega
  ·simp only[HN,HR];omega
  ·simp[cm,D.okNs,D.okN,Aj]
  ·refine E6 (H0:=[none,G [di x.n,cq x.az]]) (fun E0 E h=>h.2) 2 rfl (fun cs hc=>?_) ?_ ?_ hih
   ·simp at hc;rw[hc];exact Ay _
   ·simp[cy,D.okNs,D.okN]
   ·simp[cy,D.rens,D.ren]
theorem Acz(l:List b9)(hn:l≠ [])(hl:I l<=100000)(hp:∀v∈l,F0 44 [dV v] (dV v)):Aa PP 82 [cq l] ba (.arr 0 0 (I l)) (ub l):=by
 obtain⟨x,hx⟩:∃x,l[0]?=G x:=⟨_,HI (List.length_pos_iff.2 hn)⟩
 have hk1:=(HL.1 hx).1
 have ht:l.take 1=[x]:=by
  cases l with
  |nil=>simp at hx
  |cons y l=>simp at hx;simp[hx]
 have hih:=Ac0 l hl hp _ 0 rfl (by omega)
 refine sv qz 19 [] (.n<|.t<|.h (.xs (Ac x))<|.c (dV x)<|.h (.q 5 4)<|.h .g<|.lo [ch 3 (.gro 1 1 2),ke 6,ch 7 (di (I l)),ch 8 (di (1:Nat))] ⟨[G (dp x.n x.az),G (Ab ((l.take 1).map eV))],[]⟩) (Y (0<(I (U eV l):Int))=J/\Q 2/\iz 0<=0/\(U eV l)[Z 0]?=G (Ac x)/\_/\[Ac x]≠ []/\(∀(y:V),y∈ [Ac x]->V.size y=2)/\Ao 1 32/\Q (bm 1 1 2)/\di (I (U eV l):Int)=di (I l:Int)/\di (yu yt (0+1))=di (↑1:Int)/\cm 2 [] [G (dp x.n x.az),G (dp x.n x.az)]=J/\[G (dp x.n x.az),G (dp x.n x.az)]=[G (dp x.n x.az),G (Ab (U eV (take 1 l)))]/\I0 qz (I ba.H) (bo 0 0 (I l)) (ub l) [kl YT ee,bf 0,kc YT [1,1,1]] (cy 19 [(3,bm 1 1 2),(6,cq l),(7,di (I l:Int)),(8,di (↑1:Int))]) (bh [G (dp x.n x.az),G (Ab (U eV (take 1 l)))] [])) ⟨HK (by simp only[HH];omega),rfl,Il _,Ap (i:=0) hx,hp x (HO hx),by simp,fun y hy=>by rw[HY.1 hy];rfl,⟨by decide,by decide⟩,rfl,by rw[HH],Ih di (by decide),rfl,?_,⟨?_⟩⟩
 ·rw[ht,AG];rfl
 ·refine E6 (H0:=[G [di x.n,cq x.az]]) (fun E0 E h=>h.2) 1 rfl (fun cs hc=>?_) ?_ ?_ hih
  ·simp at hc;rw[hc];exact Ay _
  ·simp[cy,D.okNs,D.okN]
  ·simp[cy,D.rens,D.ren]
theorem Acy(v:b9)(hn:v.az≠ [])(hv:v.size<=100000):Aa PP 44 [dV v] ba (.dagg [di v.n,.arr 1 0 (I v.az)]) ⟨[G [di v.n,.arr 1 0 (I v.az)],G (Ab (v.az.map eV))],[]⟩:=by
 have hs:=v.size_eq
 have hl:=b9.length_le v.az
 refine Po mixed Apt AqR (by kernel_rfl) (by kernel_rfl) (by kernel_rfl) (by kernel_rfl) 9 (by kernel_rfl) [1] (.h (.oc (.arr 1 0 (I v.az)) ⟨[G [di 0,.v .nils],G (Ab (v.az.map eV))],[]⟩)<|.h .g<|.r) ?_
 refine fv (by kernel_rfl:((N0 [bt (bw 82 [] []),cq v.az] tz (bo 1 0 (I v.az)) (bh [G [di 0,dn],G (ej v.az)] []))/\cm 2 [] [G [di v.n,bo 1 0 (I v.az)],G (ej v.az)]=J/\Q [G [di v.n,bo 1 0 (I v.az)],G (ej v.az)]/\Q (bi [di v.n,bo 1 0 (I v.az)]))=_) ?_
 refine⟨fun o cl fo ho hc=>?_,by simp[cm,D.okNs,D.okN,Aj],rfl,rfl⟩
 exact D4 (σ:=⟨[G [di 0,.v .nils]],[]⟩) (fs:=[]) (cs:=[]) (ds:=[cq v.az]) ho hc rfl (Ay _) (Acz v.az hn (by omega) (fun x hx=>by have:=b9.size_mem hx;exact LO _ x (HP _) (by omega)))
theorem gk{P:x7}{o:yy}{ds ds':List D}{σ σ':St}{d:D}(h:DSL ds ds')(ho:Ai P o ds' σ d σ'):Ai P o ds σ d σ':=fun E g a w K Q hw hds hK=>ho E g a w K Q hw (h.rep hds) hK
theorem Afx{P:x7}{o:yy}{ds ds':List D}{σ σ':St}{d:D}(h:∀(g:Gh) (a:Act),Af g ds' (o.op.operands.toList.map a.eval))(ho:Ai P o ds' σ d σ'):Ai P o ds σ d σ':=by grind[Ai]
noncomputable abbrev Lx:=Tryz.f235
noncomputable def B7:=yl Lx
noncomputable def uf:Array yy:=match sub B7 [1,1,1,1,1,0,1,0,0,1,1,0,0,1] with
 |.region _ ops _=>ops
 |_=> #[]
noncomputable def oW(i:Nat):yy:=(uf[i]?).getD ⟨none,.alloc 0,0,"", #[],none⟩
theorem CJ:uf.size=12:=by rfl
theorem AaN:uf.toList=[oW 0,oW 1,oW 2,oW 3,oW 4,oW 5,oW 6,oW 7,oW 8,oW 9,oW 10,oW 11]:=by rfl
abbrev B9(c:b9)(L:List D)(T:List (Option (List D))):St:=⟨[G [di 0,.v .nils],G [di c.n,.arr 2 0 (I c.az)],G L,G [di c.n,.arr 2 0 (I c.az)]]++T,[]⟩
abbrev zE:V:=.agg [vi 0,.nils]
abbrev lE(x:Int):V:=.agg [vi x,.list []]
theorem Aow(p:Nat)(σ:St):Ai PP (oW 0) [.ptr 2 p] σ (.ptr 2 p) σ:=by
 obtain⟨_,d,σ',kd,⟨rfl,rfl,rfl⟩,h⟩:=CG (P:=PP) (im:=[]) (s:=.z) (o:=oW 0) (ds:=[.ptr 2 p]) (σ:=σ) (K:=fun _ d' σ' kd=>d'=(.ptr 2 p)/\σ'=σ/\kd=.pure) (by
  refine fv (by kernel_rfl:(Q (bq 2 p)/\Q σ/\Q Kd.pure)=_) ?_
  grind)
 exact h.op
theorem Aov(p:Nat)(σ:St):Ai PP (oW 1) [.ptr 2 p] σ (.ptr 2 p) σ:=by
 obtain⟨_,d,σ',kd,⟨rfl,rfl,rfl⟩,h⟩:=CG (P:=PP) (im:=[]) (s:=.z) (o:=oW 1) (ds:=[.ptr 2 p]) (σ:=σ) (K:=fun _ d' σ' kd=>d'=(.ptr 2 p)/\σ'=σ/\kd=.pure) (by
  refine fv (by kernel_rfl:(Q (bq 2 p)/\Q σ/\Q Kd.pure)=_) ?_
  grind)
 exact h.op
theorem Alk(p:Nat)(σ:St):Ai PP (oW 10) [.ptr 2 p] σ (.ptr 2 p) σ:=by
 obtain⟨_,d,σ',kd,⟨rfl,rfl,rfl⟩,h⟩:=CG (P:=PP) (im:=[]) (s:=.z) (o:=oW 10) (ds:=[.ptr 2 p]) (σ:=σ) (K:=fun _ d' σ' kd=>d'=(.ptr 2 p)/\σ'=σ/\kd=.pure) (by
  refine fv (by kernel_rfl:(Q (bq 2 p)/\Q σ/\Q Kd.pure)=_) ?_
  grind)
 exact h.op
theorem Aou(c:b9)(L:List D)(p:Nat)(g0:D)(T:List (Option (List D)))(h:L[p]?=G g0):Ai PP (oW 2) [.ptr 2 p] (B9 c L T) g0 (B9 c L T):=by
 obtain⟨_,d,σ',kd,⟨rfl,rfl,rfl⟩,h⟩:=CG (P:=PP) (im:=[]) (s:=.m g0 .z) (o:=oW 2) (ds:=[.ptr 2 p]) (σ:=(B9 c L T)) (K:=fun _ d' σ' kd=>d'=g0/\σ'=(B9 c L T)/\kd=.load 2 p 1) (by
  refine fv (by kernel_rfl:(L[p]?=G g0/\Q g0/\Q (B9 c L T)/\Q (Kd.load 2 p 1))=_) ?_
  grind)
 exact h.op
theorem Aot(x:Int)(σ:St):Ai PP (oW 3) [di x] σ (di x) σ:=by
 obtain⟨_,d,σ',kd,⟨rfl,rfl,rfl⟩,h⟩:=CG (P:=PP) (im:=[]) (s:=.z) (o:=oW 3) (ds:=[di x]) (σ:=σ) (K:=fun _ d' σ' kd=>d'=(di x)/\σ'=σ/\kd=.pure) (by
  refine fv (by kernel_rfl:(Q (di x)/\Q σ/\Q Kd.pure)=_) ?_
  grind)
 exact h.op
theorem Aos(x:Int)(σ:St):Ai PP (oW 4) [di x] σ (.v (lE x)) σ:=by
 obtain⟨_,d,σ',kd,⟨rfl,rfl,rfl⟩,h⟩:=CG (P:=PP) (im:=[]) (s:=.z) (o:=oW 4) (ds:=[di x]) (σ:=σ) (K:=fun _ d' σ' kd=>d'=(.v (lE x))/\σ'=σ/\kd=.pure) (by
  refine fv (by kernel_rfl:(bt (ab [vi x,ai []])=bt (lE x)/\Q σ/\Q Kd.pure)=_) ?_
  grind)
 exact h.op
theorem Aor(σ:St):Ai PP (oW 6) [.v zE] σ (.v (.list [zE])) σ:=by
 obtain⟨_,d,σ',kd,⟨rfl,rfl,rfl⟩,h⟩:=CG (P:=PP) (im:=[]) (s:=.z) (o:=oW 6) (ds:=[.v zE]) (σ:=σ) (K:=fun _ d' σ' kd=>d'=(.v (.list [zE]))/\σ'=σ/\kd=.pure) (by
  refine fv (by kernel_rfl:(Q (bt (ai [zE]))/\Q σ/\Q Kd.pure)=_) ?_
  grind)
 exact h.op
theorem Ali(q n:Nat)(σ:St):Ai PP (oW 5) [.arr q 0 n] σ (di n) σ:=by
 obtain⟨_,d,σ',kd,⟨rfl,rfl,rfl⟩,h⟩:=CG (P:=PP) (im:=[]) (s:=.z) (o:=oW 5) (ds:=[.arr q 0 n]) (σ:=σ) (K:=fun _ d' σ' kd=>d'=(di n)/\σ'=σ/\kd=.pure) (by
  refine fv (by kernel_rfl:(Q (di (n:Int))/\Q σ/\Q Kd.pure)=_) ?_
  grind)
 exact h.op
theorem Alh(σ:St):Ai PP (oW 5) [.v .nils] σ (di 0) σ:=by
 obtain⟨_,d,σ',kd,⟨rfl,rfl,rfl⟩,h⟩:=CG (P:=PP) (im:=[]) (s:=.z) (o:=oW 5) (ds:=[.v .nils]) (σ:=σ) (K:=fun _ d' σ' kd=>d'=(di 0)/\σ'=σ/\kd=.pure) (by
  refine fv (by kernel_rfl:(Q (di 0)/\Q σ/\Q Kd.pure)=_) ?_
  grind)
 exact h.op
theorem Ale(q n j:Nat)(σ:St)(h:j<n):Ai PP (oW 8) [.arr q 0 n,di j] σ (.ptr q (0+Z (j:Int)*2)) σ:=by
 obtain⟨_,d,σ',kd,⟨rfl,rfl,rfl⟩,h⟩:=CG (P:=PP) (im:=[]) (s:=.z) (o:=oW 8) (ds:=[.arr q 0 n,di j]) (σ:=σ) (K:=fun _ d' σ' kd=>d'=(.ptr q (0+Z (j:Int)*2))/\σ'=σ/\kd=.pure) (by
  refine fv (by kernel_rfl:(0<=(j:Int)/\(j:Int)<(n:Int)/\Q (bq q (0+Z (j:Int)*2))/\Q σ/\Q Kd.pure)=_) ?_
  grind)
 exact h.op
theorem Aoq(c:b9)(L:List D)(Cc:List D)(n:Nat)(hn:n<=1000)(hC:I Cc=n*2):Ai PP (oW 7) [.gro 4 n 2,.v (.list [zE])] (B9 c L [G Cc]) (.gro 5 (n+1) 2) (B9 c L [none,G (Cc++[di 0,.v .nils])]):=by
 obtain⟨_,d,σ',kd,⟨rfl,rfl,rfl⟩,h⟩:=CG (P:=PP) (im:=[]) (s:=.z) (o:=oW 7) (ds:=[.gro 4 n 2,.v (.list [zE])]) (σ:=(B9 c L [G Cc])) (K:=fun _ d' σ' kd=>d'=(.gro 5 (n+1) 2)/\σ'=(B9 c L [none,G (Cc++[di 0,.v .nils])])/\kd=.eff) (by
  refine fv (by kernel_rfl:(I Cc=n*2/\[zE]≠ []/\(∀(y:V),y∈ [zE]->V.size y=2)/\Ao (n+I (zE::nV)) 32/\bm 5 (n+I (zE::nV)) 2=bm 5 (n+1) 2/\bh [G [di 0,dn],G [di c.n,bo 2 0 (I c.az)],G L,G [di c.n,bo 2 0 (I c.az)],none,G (Cc++[di 0,dn])] []=B9 c L [none,G (Cc++[di 0,dn])]/\Q Kd.eff)=_) ?_
  grind[V.size])
 exact h.op
theorem Alf(c:b9)(L:List D):Ai PP (oW 7) [.v .nils,.v (.list [zE])] (B9 c L []) (.gro 4 1 2) (B9 c L [G [di 0,.v .nils]]):=by
 obtain⟨_,d,σ',kd,⟨rfl,rfl,rfl⟩,h⟩:=CG (P:=PP) (im:=[]) (s:=.h .g .z) (o:=oW 7) (ds:=[.v .nils,.v (.list [zE])]) (σ:=(B9 c L [])) (K:=fun _ d' σ' kd=>d'=(.gro 4 1 2)/\σ'=(B9 c L [G [di 0,.v .nils]])/\kd=.eff) (by
  refine fv (by kernel_rfl:([zE]≠ []/\(∀(y:V),y∈ [zE]->V.size y=2)/\Ao 1 32/\Q (bm 4 1 2)/\bh [G [di 0,dn],G [di c.n,bo 2 0 (I c.az)],G L,G [di c.n,bo 2 0 (I c.az)],G [di 0,dn]] []=B9 c L [G [di 0,dn]]/\Q Kd.eff)=_) ?_
  exact⟨by simp,fun y hy=>by rw[HY.1 hy];rfl,⟨by decide,by decide⟩,rfl,rfl,rfl⟩)
 exact h.op
theorem Aop(c:b9)(L:List D)(Cc:List D)(j:Nat)(x:Int)(hC:j+2<=I Cc):Ai PP (oW 9) [.ptr 5 j,.v (lE x)] (B9 c L [none,G Cc]) .undef (B9 c L [none,G (Cc.take j++[di x,.v (.list [])]++Cc.drop (j+2))]):=by
 obtain⟨_,d,σ',kd,⟨rfl,rfl,rfl⟩,h⟩:=CG (P:=PP) (im:=[]) (s:=.h .ww .z) (o:=oW 9) (ds:=[.ptr 5 j,.v (lE x)]) (σ:=(B9 c L [none,G Cc])) (K:=fun _ d' σ' kd=>d'=.undef/\σ'=(B9 c L [none,G (Cc.take j++[di x,.v (.list [])]++Cc.drop (j+2))])/\kd=.eff) (by
  refine fv (by kernel_rfl:(j+2<=I Cc/\Q bj/\bh [G [di 0,dn],G [di c.n,bo 2 0 (I c.az)],G L,G [di c.n,bo 2 0 (I c.az)],none,G (take j Cc++[di x,bt (ai [])]++W (j+2) Cc)] []=B9 c L [none,G (take j Cc++[di x,bt (ai [])]++W (j+2) Cc)]/\Q Kd.eff)=_) ?_
  grind)
 exact h.op
theorem Ald(c:b9)(L:List D)(x:Int):Ai PP (oW 9) [.ptr 4 0,.v (lE x)] (B9 c L [G [di 0,.v .nils]]) .undef (B9 c L [G [di x,.v (.list [])]]):=by
 obtain⟨_,d,σ',kd,⟨rfl,rfl,rfl⟩,h⟩:=CG (P:=PP) (im:=[]) (s:=.z) (o:=oW 9) (ds:=[.ptr 4 0,.v (lE x)]) (σ:=(B9 c L [G [di 0,.v .nils]])) (K:=fun _ d' σ' kd=>d'=.undef/\σ'=(B9 c L [G [di x,.v (.list [])]])/\kd=.eff) (by
  refine fv (by kernel_rfl:(Q bj/\bh [G [di 0,dn],G [di c.n,bo 2 0 (I c.az)],G L,G [di c.n,bo 2 0 (I c.az)],G [di x,bt (ai [])]] []=B9 c L [G [di x,bt (ai [])]]/\Q Kd.eff)=_) ?_
  grind)
 exact h.op
theorem Alj(c:b9)(L:List D)(p q j:Nat)(T:List (Option (List D)))(hp:p<I L):Ai PP (oW 11) [.ptr 2 p,.gro q j 2] (B9 c L T) .undef (B9 c (L.set p (.gro q j 2)) T):=by
 obtain⟨_,d,σ',kd,⟨rfl,rfl,rfl⟩,h⟩:=CG (P:=PP) (im:=[]) (s:=.w .z) (o:=oW 11) (ds:=[.ptr 2 p,.gro q j 2]) (σ:=(B9 c L T)) (K:=fun _ d' σ' kd=>d'=.undef/\σ'=(B9 c (L.set p (.gro q j 2)) T)/\kd=.eff) (by
  refine fv (by kernel_rfl:(p<I L/\Q bj/\bh (G [di 0,dn]::G [di c.n,bo 2 0 (I c.az)]::G (List.set L p (bm q j 2))::G [di c.n,bo 2 0 (I c.az)]::[]++T) []=B9 c (List.set L p (bm q j 2)) T/\Q Kd.eff)=_) ?_
  grind)
 exact h.op
theorem Alg(ds:List D)(σ:St):Ai PP (oW 6) ds σ (.v (.list [zE])) σ:=by
 refine Afx (fun g a=>?_) (Aor σ)
 have e:(oW 6).op.operands.toList=[.const (.agg #[.int .i64 0,.slice none 0 0])]:=by kernel_rfl
 rw[e]
 refine⟨_,_,rfl,⟨[.int .i64 0,.slice none 0 0],?_,rfl⟩,rfl⟩
 exact⟨_,_,rfl,rfl,rfl,_,_,rfl,rfl,rfl,rfl⟩
theorem TW{C:cd->cd->Prop}{R:List D->St->Prop}{ks:List KI}(c:b9)(p:Nat)(L:List D)(hp:p<I L)(x:Int)(j:Nat)(g0:D)(T0 T1 T2:List (Option (List D)))(q1:Nat)(hq:4+I T0<=q1)(ws:List Int)(kk:Int)
  (h5:∀τ,Ai PP (oW 5) [g0] τ (di j) τ) (h7:Ai PP (oW 7) [g0,.v (.list [zE])] (B9 c (L.set p g0) T0) (.gro q1 (j+1) 2) (B9 c (L.set p g0) T1))
  (h9:∀M,Ai PP (oW 9) [.ptr q1 (0+Z (j:Int)*2),.v (lE x)] (B9 c M T1) .undef (B9 c M T2))
  (hk:A2 C PP R ks (cy 46 [(8,.ptr 0 0),(9,.ptr 3 0),(10,.ptr 2 p),(12,di x),(28,cx ws),(29,di (I ws)),(30,di kk),(34,.ptr 2 p),(35,.ptr 2 p),(36,g0),(37,di x),(38,.v (lE x)),(39,di j),(40,.v (.list [zE])),(41,.gro q1 (j+1) 2),(42,.ptr q1 (0+Z (j:Int)*2)),(43,.ptr 2 p)]) (B9 c (L.set p (.gro q1 (j+1) 2)) T2)):
  A2 C PP R (.code (sub B7 [1,1,1,1,1,0,1,0,0,1,1,0,0,1])::ks) (cy 46 [(8,.ptr 0 0),(9,.ptr 3 0),(10,.ptr 2 p),(12,di x),(28,cx ws),(29,di (I ws)),(30,di kk)]) (B9 c (L.set p g0) T0):=by
 have hx:sub B7 [1,1,1,1,1,0,1,0,0,1,1,0,0,1]=.region 8 uf true:=by rfl
 rw[hx]
 have h11:∀T,Ai PP (oW 11) [.ptr 2 p,.gro q1 (j+1) 2] (B9 c (L.set p g0) T) .undef (B9 c (L.set p (.gro q1 (j+1) 2)) T):=fun T=>by
  grind[Alj,List.set_set]
 have h2:=Aou c (L.set p g0) p g0 T0 (by grind)
 let sts:Bool->List St:=fun b=>match b with
  |false=>[B9 c (L.set p g0) T0,B9 c (L.set p g0) T1,B9 c (L.set p (.gro q1 (j+1) 2)) T1]
  |true=>[ku,B9 c (L.set p g0) T2,B9 c (L.set p (.gro q1 (j+1) 2)) T2]
 have h8:∀τ,Ai PP (oW 8) [.gro q1 (j+1) 2,di j] τ (.ptr q1 (0+Z (j:Int)*2)) τ:=fun τ=>gk (.cons .gro (.cons (.same _) .nil)) (Ale q1 (j+1) j τ (by omega))
 refine JM mixed sts 9 (vals:=[.ptr 2 p,.ptr 2 p,g0,di x,.v (lE x),di j,.v (.list [zE]),.gro q1 (j+1) 2,.ptr q1 (0+Z (j:Int)*2),.undef,.ptr 2 p,.undef]) (j':=2) (σ':=B9 c (L.set p (.gro q1 (j+1) 2)) T2) (effs:=[(false,none),(false,none),(false,G 0),(false,none),(false,none),(false,none),(false,none),(true,none),(false,none),(false,none),(false,none),(true,none)]) rfl (by rfl) ?_ (by kernel_rfl) hk
 rw[AaN]
 have en:∀{a b:List D},a=b->GR PP uf sts 9 [] a 2 [] [] b 2:=fun h=>h▸ .nil
 have e:∀{a b:List D} {o:yy} {s s':St} {d:D},a=b->Ai PP o b s d s'->Ai PP o a s d s':=fun h k=>h▸k
 refine .quiet (d:=.ptr 2 p) (by grind[CJ]) (by rfl) (fun b s _=>e (by rfl) (Aow p s)) ?_
 refine .quiet (d:=.ptr 2 p) (by grind[CJ]) (by rfl) (fun b s _=>e (by rfl) (Aov p s)) ?_
 refine .quietW (d:=g0) 0 (by grind[CJ]) (by rfl) (fun b k s hk0 hs=>?_) ?_
 ·have hk0:k=0:=by omega
  subst hk0
  cases b with
  |false=>simp[sts] at hs;subst hs;exact e (by rfl) h2
  |true=>grind[Vt]
 refine .quiet (d:=di x) (by grind[CJ]) (by rfl) (fun b s _=>e (by rfl) (Aot x s)) ?_
 refine .quiet (d:=.v (lE x)) (by grind[CJ]) (by rfl) (fun b s _=>e (by rfl) (Aos x s)) ?_
 refine .quiet (d:=di j) (by grind[CJ]) (by rfl) (fun b s _=>e (by kernel_rfl) (h5 s)) ?_
 refine .quiet (d:=.v (.list [zE])) (by grind[CJ]) (by rfl) (fun b s _=>Alg _ s) ?_
 refine .eff (d:=.gro q1 (j+1) 2) (by grind[CJ]) (by rfl) (fun b s hs _=>?_) ?_
 ·cases b with
  |false=>simp[sts] at hs;subst hs;exact⟨_,rfl,e (by kernel_rfl) h7⟩
  |true=>grind[Vt]
 refine .quiet (d:=.ptr q1 (0+Z (j:Int)*2)) (by grind[CJ]) (by rfl) (fun b s _=>e (by kernel_rfl) (h8 s)) ?_
 refine .free (d:=.undef) (by rfl) (by rfl) (fun k s hs=>?_) ?_
 ·match k,hs with
  |0,hs=>simp[sts] at hs;subst hs;exact⟨_,rfl,e (b:=[.ptr q1 (0+Z (j:Int)*2),.v (lE x)]) (by kernel_rfl) (Afw (by grind))⟩
  |1,hs=>simp[sts] at hs;subst hs;exact⟨_,rfl,e (by kernel_rfl) (h9 _)⟩
  |2,hs=>simp[sts] at hs;subst hs;exact⟨_,rfl,e (by kernel_rfl) (h9 _)⟩
  |k+3,hs=>grind
 refine .quiet (d:=.ptr 2 p) (by grind[CJ]) (by rfl) (fun b s _=>e (by kernel_rfl) (Alk p s)) ?_
 refine .eff (d:=.undef) (by grind[CJ]) (by rfl) (fun b s hs _=>?_) (en (by kernel_rfl))
 cases b with
 |false=>simp[sts] at hs;subst hs;exact⟨_,rfl,e (by kernel_rfl) (h11 _)⟩
 |true=>simp[sts] at hs;subst hs;exact⟨_,rfl,e (by kernel_rfl) (h11 _)⟩
theorem MR:∀(l:List b9) (i:Nat) (x:b9) (s:Int),l[i]?=G x->(Ab (l.map eV)).set (i*2) (di s)=Ab ((l.set i (.mk s x.az)).map eV)
 |[],_,_,_,h=>by rfl
 |y::l,0,x,s,h=>by
  simp at h;subst h
  rw[AG,List.set_cons_zero,AG];rfl
 |y::l,i+1,x,s,h=>by
  have h':l[i]?=G x:=by grind
  rw[AG,Jn,AG, ←MR l i x s h',show(i+1)*2=i*2+2 by omega]
  rfl
theorem Rv:∀(l:List b9) (i:Nat) (x:b9) (ys:List b9),l[i]?=G x->(Ab (l.map eV)).set (i*2+1) (cq ys)=Ab ((l.set i (.mk x.n ys)).map eV)
 |[],_,_,_,h=>by rfl
 |y::l,0,x,s,h=>by
  simp at h;subst h
  rw[AG,List.set_cons_zero,AG];rfl
 |y::l,i+1,x,s,h=>by
  have h':l[i]?=G x:=by grind
  rw[AG,Jn,AG, ←Rv l i x s h',show(i+1)*2+1=(i*2+1)+2 by omega]
  rfl
theorem Abu(ws:List Int):ws.map lE=(ws.map lf).map eV:=by
 rw[List.map_map]
 rfl
def BU(l:List b9)(s0 x:b9)(s:Int)(i:Nat)(ws:List Int):List b9:=(l.set 0 (.mk s s0.az)).set i (.mk x.n (ws.map lf))
theorem PU{e e1 e2:List D}{σ σ1 σ2:St}(h1:Cv e σ e1 σ1)(h2:Cv e1 σ1 e2 σ2):Cv e σ e2 σ2:=fun E g a w hf=>by
 obtain⟨g1,hf1⟩:=h1 E g a w hf
 exact h2 E g1 a w hf1
theorem Oy{σ:St}{p q i sz:Nat}{cs:List D}{xs:List V}(hsz:0<sz)(hp:σ.H[p]?=G (G cs))(hq:σ.H[q]?=G (G (Ab xs)))(hpq:p≠q)(hi:cs[i]?=G (.gro q (I xs) sz))(hx:∀x∈xs,x.size=sz)(e:List D):
  Cv e σ e ⟨(σ.H.set q none).set p (G (cs.set i (.v (.list xs)))),σ.own⟩:=by
 have h1:Cv e σ e ⟨σ.H.set p (G (cs.set i (.arr q 0 (I xs)))),σ.own⟩:=D0 (σ:=σ) (q:=p) (cs:=cs) (cs':=cs.set i (.arr q 0 (I xs))) hp (fun g us hr=>by
  obtain⟨u,hu,hru⟩:=BA hr hi
  have:=CI hr i (d:=.arr q 0 (I xs)) (u:=u) (DS.rep .gro hru)
  grind[DA]) (fun h c hc=>by
  grind[D.one]) e
 have h2:=BY (σ:=⟨σ.H.set p (G (cs.set i (.arr q 0 (I xs)))),σ.own⟩) (p:=p) (q:=q) (i:=i) (cs:=cs.set i (.arr q 0 (I xs))) (xs:=xs) hsz (by grind) (by grind) hpq (by grind) hx e
 grind[List.set_set,List.set_comm,Cv]
abbrev sq(c:b9)(xs:List b9)(T:List (Option (List D))):St:=⟨[G [di 0,.v .nils],G [di c.n,.arr 2 0 (I c.az)],none,G [di c.n,cq xs]]++T,[]⟩
theorem VX(c:b9)(xs:List b9)(L:List D)(hL:L=Ab (xs.map eV))(hx:I xs=I c.az)(T:List (Option (List D)))(e:List D):Cv e (B9 c L T) e (sq c xs T):=by
 have h:=BY (σ:=B9 c L T) (p:=3) (q:=2) (i:=1) (sz:=2) (cs:=[di c.n,.arr 2 0 (I c.az)]) (xs:=xs.map eV) (by decide) rfl (by grind) (by decide) (by grind) (Da _) e
 exact h
theorem Ag7(c:b9)(xs:List b9)(L:List D)(p:Nat)(hp:p<I L)(ws:List Int)(hL:L.set p (.v (.list (ws.map lE)))=Ab (xs.map eV))(hx:I xs=I c.az)(e:List D):
  Cv e (B9 c (L.set p (.gro 4 (I ws) 2)) [G (Ab (ws.map lE))]) e (sq c xs [none]):=by
 have h:=Oy (σ:=B9 c (L.set p (.gro 4 (I ws) 2)) [G (Ab (ws.map lE))]) (p:=2) (q:=4) (i:=p) (sz:=2) (cs:=L.set p (.gro 4 (I ws) 2)) (xs:=ws.map lE) (by decide) rfl rfl (by decide) (by grind) (fun y hy=>by obtain⟨x,_,rfl⟩:=I2.1 hy;rfl) e
 grind[List.set_set,PU,VX]
theorem Vh{ρ τ:Nat->Nat}:∀(L:List D) (p:Nat) (d:D),D.pls L=J->D.rens ρ τ (L.set p d)=L.set p (d.ren ρ τ)
 |[],_,_,_=>by rfl
 |x::L,0,d,h=>by
  grind[D.pls,D.rens,A7]
 |x::L,p+1,d,h=>by
  simp only[D.pls,HJ] at h
  rw[Jn,D.rens,Vh L p d h.2,Aaz x h.1,Jn]
theorem Vu{n:Nat}{ts:List Nat}:∀(L:List D) (p:Nat) (d:D),D.pls L=J->d.okN n ts=J->D.okNs n ts (L.set p d)=J
 |[],_,_,_,_=>by rfl
 |x::L,0,d,h,hd=>by
  grind[D.pls,D.okNs,AO]
 |x::L,p+1,d,h,hd=>by
  simp only[D.pls,HJ] at h
  rw[Jn,D.okNs,Aba x h.1,Vu L p d h.2 hd];rfl
noncomputable abbrev wx(p:Nat)(ws:List Int)(k:Nat):List D:=cy 46 [(8,.ptr 0 0),(9,.ptr 3 0),(10,.ptr 2 p),(28,cx ws),(29,di (I ws)),(30,di k)]
theorem Zf{R:List D->St->Prop}{ks:List KI}(c:b9)(L F:List D)(hL:D.pls L=J)(hF:D.pls F=J)(p n:Nat)(ws:List Int)(k:Nat)
  (h:A2 (CN 0) PP R ks (wx p ws k) (B9 c (L.set p (.gro 4 n 2)) [G F])):A2 (CN 0) PP R ks (wx p ws k) (B9 c (L.set p (.gro 5 n 2)) [none,G F]):=by
 refine C3 (σ:=B9 c (L.set p (.gro 5 n 2)) [none,G F]) (e':=wx p ws k) (H':=(B9 c (L.set p (.gro 4 n 2)) [G F]).H) (m:=0) (fun _ _ h=>h.2) (fun i=>if i<4 then i else i+1) (Iu _) (fun i hi=>by omega) (fun i j _ _ h=>?_) (fun i cs hi=>?_) ?_ ?_ h
 ·grind
 ·match i,hi with
  |0,hi=>simp at hi;subst hi;exact⟨rfl,rfl⟩
  |1,hi=>simp at hi;subst hi;exact⟨rfl,rfl⟩
  |2,hi=>
   simp at hi;subst hi
   refine⟨?_,Vu L p _ hL rfl⟩
   rw[Vh L p _ hL];rfl
  |3,hi=>simp at hi;subst hi;exact⟨rfl,rfl⟩
  |4,hi=>
   grind[AO,A7]
  |i+5,hi=>grind
 all_goals rfl
theorem Qw(d:D)(σ':St)(c:b9)(L:List D)(T:List (Option (List D)))(p:Nat)(ws:List Int)(x:Int)(k:Nat)(hk:k<=1000)(d36 d39 d41 d42:D)
  (h:Rn PP Lx 0 d σ' [kl B7 [1,1,1,1,1,0,1,0,0],.blk 0,kc B7 [1,1,1,1,1,1]] (wx p ws (k+1)) (B9 c L T)):
  Rn PP Lx 0 d σ' [.blk 1,kc B7 [1,1,1,1,1,0,1,0,0,1,1,1],kl B7 [1,1,1,1,1,0,1,0,0],.blk 0,kc B7 [1,1,1,1,1,1]] (cy 46 [(8,.ptr 0 0),(9,.ptr 3 0),(10,.ptr 2 p),(12,di x),(28,cx ws),(29,di (I ws)),(30,di k),(34,.ptr 2 p),(35,.ptr 2 p),(36,d36),(37,di x),(38,.v (lE x)),(39,d39),(40,.v (.list [zE])),(41,d41),(42,d42),(43,.ptr 2 p)]) (B9 c L T):=by
 have h0:Rn PP Lx 0 d σ' ([.blk 1,kc B7 [1,1,1,1,1,0,1,0,0,1,1,1],kl B7 [1,1,1,1,1,0,1,0,0],.blk 0,kc B7 [1,1,1,1,1,1]]++[]) (cy 46 [(8,.ptr 0 0),(9,.ptr 3 0),(10,.ptr 2 p),(12,di x),(28,cx ws),(29,di (I ws)),(30,di k)]) (B9 c L T):=by
  refine AgB mixed 46 [4] (.l [ke 8,ke 9,ke 10,ke 28,ke 29,ch 30 (di (k+1:Nat))]) ?_
  refine fv (by kernel_rfl:(di (yu yt ((k:Int)+1))=di (↑(k+1):Int)/\I0 Lx 0 d σ' [kl B7 [1,1,1,1,1,0,1,0,0],bf 0,kc B7 [1,1,1,1,1,1]] (cy 46 [(8,bq 0 0),(9,bq 3 0),(10,bq 2 p),(28,cx ws),(29,di (I ws:Int)),(30,di (↑(k+1):Int))]) (B9 c L T))=_) ?_
  exact⟨Ae,⟨h⟩⟩
 refine SS (L:=[(8,.ptr 0 0),(9,.ptr 3 0),(10,.ptr 2 p),(12,di x),(28,cx ws),(29,di (I ws)),(30,di k)]) (L2:=[(34,.ptr 2 p),(35,.ptr 2 p),(36,d36),(37,di x),(38,.v (lE x)),(39,d39),(40,.v (.list [zE])),(41,d41),(42,d42),(43,.ptr 2 p)]) (fun q hq=>?_) h0
 simp only[Iz,Jr,or_false] at hq
 rcases hq with rfl|rfl|rfl|rfl|rfl|rfl|rfl|rfl|rfl|rfl<;>simp[cy]
theorem T3(l:List Int):I (Ab (l.map lE))=I l*2:=by grind[Abu,AU]
noncomputable abbrev xr:=[kc B7 [1,1,1,1,1,0,1,0,0,1,1,0,0,1],bf 1,kc B7 [1,1,1,1,1,0,1,0,0,1,1,1],kl B7 [1,1,1,1,1,0,1,0,0],bf 0,kc B7 [1,1,1,1,1,1]]
noncomputable abbrev w9:=(Bz (sub B7 [1,1,1,1,1,0,1,0,0,1,1,0,0,0]))
theorem Zg(c:b9)(xs:List b9)(L:List D)(hpl:D.pls L=J)(p:Nat)(hp:p<I L)(ws:List Int)(hw:I ws<=900)(hL:L.set p (.v (.list (ws.map lE)))=Ab (xs.map eV))(hx:I xs=I c.az)(n:Nat):∀k:Nat,I ws- (k+1)=n->k<I ws->
  Rn PP Lx 0 (dV (.mk c.n xs)) ba ([kl B7 [1,1,1,1,1,0,1,0,0],.blk 0,kc B7 [1,1,1,1,1,1]]++[]) (cy 46 [(8,.ptr 0 0),(9,.ptr 3 0),(10,.ptr 2 p),(28,cx ws),(29,di (I ws)),(30,di (k+1:Nat))]) (B9 c (L.set p (.gro 4 (k+1) 2)) [G (Ab ((ws.take (k+1)).map lE))]):=by
 induction n with
 |zero=>
  intro k hn hk
  refine lv 46 [4] (.f<|.h (.q 10 0)<|.h (.cs (sq c xs [none])) .r) (Y ((↑(k+1):Int)<(I ws:Int))=O/\(∀(e:List D) (E:cd) (g:Gh) (a:Act) (w:x5),FI E g (bh [G [di 0,dn],G [di c.n,bo 2 0 (I c.az)],G (List.set L p (bm 4 (k+1) 2)),G [di c.n,bo 2 0 (I c.az)],G (Ab (U lE (take (k+1) ws)))] []) e a w->∃g',FI E g' (sq c xs [none]) e a w)/\bt (ab [vi c.n,ai (U eV xs)])=dV (b9.mk c.n xs)) ?_
  have e:k+1=I ws:=by omega
  rw[e,Im (HP _)]
  exact⟨yq,fun e=>Ag7 c xs L p hp ws hL hx e,rfl⟩
 |succ n ih=>
  intro k hn hk
  obtain⟨x,hx1⟩:=yk (show k+1<I ws by omega)
  refine lv 46 [4] (.t<|.x (vi x)<|.h (.q 7 2)<|.h (.s [ke 8,ke 9,ke 10,ke 28,ke 29,ke 30,ke 33]) .z) (Y ((↑(k+1):Int)<(I ws:Int))=J/\0<=(↑(k+1):Int)/\(U vi ws)[Z (↑(k+1):Int)]?=G (vi x)/\Nv.It (Cg (CN 0) PP (fun env σ1=>A9 PP Lx env σ1 (dV (b9.mk c.n xs)) ba) xr w9 (W 2 w9.toList) (cy 46 [(8,bq 0 0),(9,bq 3 0),(10,bq 2 p),(28,cx ws),(29,di (I ws:Int)),(30,di (↑(k+1):Int)),(33,di x)]) (B9 c (List.set L p (bm 4 (k+1) 2)) [G (Ab (U lE (take (k+1) ws)))]))) ⟨yr,by omega,Am hx1,⟨?_⟩⟩
  refine Pt (ks:=[]) (T:=[kc B7 [1,1,1,1,1,0,1,0,0,1,1,0,0,1],.blk 1,kc B7 [1,1,1,1,1,0,1,0,0,1,1,1],kl B7 [1,1,1,1,1,0,1,0,0],.blk 0,kc B7 [1,1,1,1,1,1]]) mixed (NF 0) 0 (fun _ _ h=>h.2) 46 [4] 7 2 (.l [ke 8,ke 9,ke 10,ch 12 (di x),ke 28,ke 29,ke 30]) ?_
  refine fv (by kernel_rfl:(Q (di x)/\I0 Lx 0 (dV (b9.mk c.n xs)) ba xr (cy 46 [(8,bq 0 0),(9,bq 3 0),(10,bq 2 p),(12,di x),(28,cx ws),(29,di (I ws:Int)),(30,di (↑(k+1):Int))]) (B9 c (List.set L p (bm 4 (k+1) 2)) [G (Ab (U lE (take (k+1) ws)))]))=_) ?_
  have hk1:=(HL.1 hx1).1
  have ht:(ws.take (k+1+1)).map lE=(ws.take (k+1)).map lE++[lE x]:=by rw[IW (i:=k+1),hx1];simp
  have hfl:I (Ab ((ws.take (k+1)).map lE))=(k+1)*2:=by grind[T3,List.length_take]
  have hih:=ih (k+1) (by omega) hk1
  have hF:(Ab ((ws.take (k+1)).map lE)++[di 0,.v .nils]).take (0+Z ((k+1:Nat):Int)*2)++[di x,.v (.list [])]++(Ab ((ws.take (k+1)).map lE)++[di 0,.v .nils]).drop (0+Z ((k+1:Nat):Int)*2+2)=Ab ((ws.take (k+1+1)).map lE):=by
   rw[show 0+Z ((k+1:Nat):Int)*2=(k+1)*2 by omega,List.take_left' hfl,Ic (by simp_all),I8,ht]
   simp only[Ab,List.flatMap_append,IZ];rfl
  refine⟨rfl,⟨TW c p L hp x (k+1) (.gro 4 (k+1) 2) [G (Ab ((ws.take (k+1)).map lE))] _ _ 5 (by simp) ws (k+1:Nat) (fun τ=>gk (.cons .gro .nil) (Ali 4 (k+1) τ)) (Aoq c _ _ (k+1) (by omega) hfl) (fun M=>Aop c M _ _ x (by simp_all)) ?_⟩⟩
  refine Qw _ _ c _ _ p ws x (k+1) (by omega) _ _ _ _ ?_
  rw[hF]
  exact Zf c L _ hpl (Ay _) p (k+1+1) ws (k+1+1) hih
theorem XY{σ:St}{q i:Nat}{cs:List D}(hq:σ.H[q]?=G (G cs))(hi:cs[i]?=G (.v .nils))(e:List D):Cv e σ e ⟨σ.H.set q (G (cs.set i (.v (.list [])))),σ.own⟩:=
 D0 (σ:=σ) (q:=q) (cs:=cs) (cs':=cs.set i (.v (.list []))) hq (fun g us hr=>by
  obtain⟨u,hu,hru⟩:=BA hr hi
  have:=CI hr i (d:=.v (.list [])) (u:=u) (FQ hru)
  grind[DA]) (fun h c hc=>by
  rcases IN hc with h2|h2
  ·grind
  ·rw[h2];rfl) e
theorem LW{l:List b9}{s0 x:b9}{k:Nat}(h0:l[0]?=G s0)(hx:l[1+k]?=G x)(s:Int)(ws:List Int):
  ((Ab (l.map eV)).set 0 (di s)).set ((1+k)*2+1) (.v (.list (ws.map lE)))=Ab ((BU l s0 x s (1+k) ws).map eV):=by
 have h1:=MR l 0 s0 s h0
 rw[h1,Abu]
 exact Rv _ (1+k) x _ (by grind)
theorem AaV(c:b9)(hn:c.az≠ [])(hc:c.size<=1000){o:yy}{cl:Call}{fo:x8}(ho:o.op=.call cl)(hc2:cl.callee=.value fo):Ai PP o [.v (.fn 44 [] []),dV c] ⟨[G [di 0,.v .nils]],[]⟩ (.dagg [di c.n,.arr 2 0 (I c.az)]) ⟨[G [di 0,.v .nils],G [di c.n,.arr 2 0 (I c.az)],G (Ab (c.az.map eV))],[]⟩:=by
 have h:=B3 (σ:=⟨[G [di 0,.v .nils]],[]⟩) ho hc2 (fD:=.v (.fn 44 [] [])) rfl (ds:=[dV c]) [] id (Acy c hn (by omega)) (.cons (.ren (dc:=dV c) rfl) .nil) .nil (by simp) rfl (by simp) (by simp) (by rfl) (by simp[cm,D.okN,D.okNs,Aj])
 have e1:D.rens (ez 1 []) id (Ab (c.az.map eV))=Ab (c.az.map eV):=A7 (Ay _)
 simpa[CO,Cy,DM,D.ren,D.rens,ez,e1] using h
noncomputable abbrev th:=fun a₀ b₀=>(bh [G [di 0,dn],G [di a₀,bo 2 0 (I b₀)],G (ej b₀)] [])
theorem Qx(c:b9)(hc:c.size<=1000)(s0 x:b9)(k:Nat)(h0:c.az[0]?=G s0)(hx:c.az[1+k]?=G x)(s:Int)(ws:List Int)(hw:I ws<=900):
  F0 235 [dV c,di s,di k,cx ws] (dV (.mk c.n (BU c.az s0 x s (1+k) ws))):=by
 have hk:=(HL.1 hx).1
 have hkl:=b9.length_le c.az
 have hks:=c.size_eq
 have hww:yt.wrap (1+(k:Int))=((1+k:Nat):Int):=by rw[Ak];omega
 have hfl:I (Ab (c.az.map eV))=I c.az*2:=AU _
 have hp0:Nat.add (0+Z ((1+k:Nat):Int)*2) 1=(1+k)*2+1:=by grind
 have hne:c.az≠ []:=by grind
 have hxl:I (BU c.az s0 x s (1+k) ws)=I c.az:=by simp[BU]
 have hcl:=LW h0 hx s ws
 cases ws with
 |nil=>
  refine sv Lx 46 [4] (.h (.oc (.dagg [di c.n,.arr 2 0 (I c.az)]) ⟨[G [di 0,.v .nils],G [di c.n,.arr 2 0 (I c.az)],G (Ab (c.az.map eV))],[]⟩)<|.h (.q 2 5)<|.w<|.h (.q 4 2)<|.w<|.n<|.f<|.h (.q 10 0)<|.h (.cs (sq c (BU c.az s0 x s (1+k) []) [])) .r) ((N0 [bt (bw 44 [] []),dV c] tz (bi [di c.n,bo 2 0 (I c.az)]) (th c.n c.az))/\iz 0<=0/\0<(I c.az:Int)/\0<I (ej c.az)/\0<=yu yt (1+(k:Int))/\yu yt (1+(k:Int))<(I c.az:Int)/\Nat.add (0+Z (yu yt (1+(k:Int)))*2) 1<I (List.set (ej c.az) (Nat.add (0+Z 0*2) 0) (di s))/\Y (0<(I (U vi []):Int))=O/\(∀(e:List D) (E:cd) (g:Gh) (a:Act) (w:x5),FI E g (bh [G [di 0,dn],G [di c.n,bo 2 0 (I c.az)],G (List.set (List.set (ej c.az) (Nat.add (0+Z 0*2) 0) (di s)) (Nat.add (0+Z (yu yt (1+(k:Int)))*2) 1) (lj [dV c,di s,di (k:Int),cx [],bt (jy c),bj,bj,bj,bq (I ba.H) 0,bq (I (th c.n c.az).H) 0,bq 2 (Nat.add (0+Z (yu yt (1+(k:Int)))*2) 1),bj,bj,dV c,bi [di c.n,bo 2 0 (I c.az)],bq (I (th c.n c.az).H) (Nat.add 0 1),bo 2 0 (I c.az),di s,bq 2 (0+Z 0*2),bq 2 (Nat.add (0+Z 0*2) 0),bq (I (th c.n c.az).H) (Nat.add 0 1),bo 2 0 (I c.az),di (k:Int),bt (aa yt (yu yt (1+(k:Int)))),bq 2 (0+Z (yu yt (1+(k:Int)))*2),bq 2 (Nat.add (0+Z (yu yt (1+(k:Int)))*2) 1),bq 2 (Nat.add (0+Z (yu yt (1+(k:Int)))*2) 1),bq 2 (Nat.add (0+Z (yu yt (1+(k:Int)))*2) 1),bj,bj,bj,bj,bj,bj,bj,bj,bj,bj,bj,bj,bj,bj,bj,bj,bj,bj] (Operand.const (Value.slice none 0 0)))),G [di c.n,bo 2 0 (I c.az)]] []) e a w->∃g',FI E g' (sq c (BU c.az s0 x s (1+k) []) []) e a w)/\bt (ab [vi c.n,ai (U eV (BU c.az s0 x s (1+k) []))])=dV (b9.mk c.n (BU c.az s0 x s (1+k) []))) ?_
  rw[hww,hp0]
  refine⟨fun o cl fo ho hc2=>AaV c hne hc ho hc2,Il _,by omega,by grind,by omega,by omega,by grind,rfl,fun e=>?_,rfl⟩
  refine PU (XY (σ:=B9 c (((Ab (c.az.map eV)).set 0 (di s)).set ((1+k)*2+1) (.v .nils)) []) (q:=2) (i:=(1+k)*2+1) rfl (by grind) e) ?_
  grind[List.set_set,VX]
 |cons y ws=>
  refine sv Lx 46 [4] (.h (.oc (.dagg [di c.n,.arr 2 0 (I c.az)]) ⟨[G [di 0,.v .nils],G [di c.n,.arr 2 0 (I c.az)],G (Ab (c.az.map eV))],[]⟩)<|.h (.q 2 5)<|.w<|.h (.q 4 2)<|.w<|.n<|.t<|.x (vi y)<|.h (.q 7 2)<|.h (.s [ke 8,ke 9,ke 10,ke 28,ke 29,ke 30,ke 33]) .z) ((N0 [bt (bw 44 [] []),dV c] tz (bi [di c.n,bo 2 0 (I c.az)]) (th c.n c.az))/\iz 0<=0/\0<(I c.az:Int)/\0<I (ej c.az)/\0<=yu yt (1+(k:Int))/\yu yt (1+(k:Int))<(I c.az:Int)/\Nat.add (0+Z (yu yt (1+(k:Int)))*2) 1<I (List.set (ej c.az) (Nat.add (0+Z 0*2) 0) (di s))/\Y (0<(I (U vi (y::ws)):Int))=J/\iz 0<=0/\Q (G (vi y))/\Nv.It (Cg (CN (I ba.H)) PP (fun env σ1=>A9 PP Lx env σ1 (dV (b9.mk c.n (BU c.az s0 x s (1+k) (y::ws)))) ba) xr w9 (W 2 w9.toList) (cy 46 [(8,bq 0 0),(9,bq 3 0),(10,bq 2 (Nat.add (0+Z (yu yt (1+(k:Int)))*2) 1)),(28,cx (y::ws)),(29,di (I (U vi (y::ws)):Int)),(30,di 0),(33,di y)]) (bh [G [di 0,dn],G [di c.n,bo 2 0 (I c.az)],G (List.set (List.set (ej c.az) (Nat.add (0+Z 0*2) 0) (di s)) (Nat.add (0+Z (yu yt (1+(k:Int)))*2) 1) (dn)),G [di c.n,bo 2 0 (I c.az)]] []))) ?_
  rw[hww,hp0]
  refine⟨fun o cl fo ho hc2=>AaV c hne hc ho hc2,Il _,by omega,by grind,by omega,by omega,by grind,HK (by grind),Il _,rfl,⟨?_⟩⟩
  obtain⟨L,hL⟩:∃L,L=(Ab (c.az.map eV)).set 0 (di s):=⟨_,rfl⟩
  rw[←hL] at hcl
  have hpl:D.pls L=J:=by
   rw[hL]
   have h1:=MR c.az 0 s0 s h0
   grind[Ay]
  have hpL:(1+k)*2+1<I L:=by grind
  have hlp:=Zg c _ L hpl ((1+k)*2+1) hpL (y::ws) hw hcl hxl _ 0 rfl (by simp)
  have hst:bh [G [di 0,bt bv],G [di c.n,bo 2 0 (I c.az)],G (((Ab (c.az.map eV)).set (Nat.add (0+Z 0*2) 0) (di s)).set ((1+k)*2+1) (bt bv)),G [di c.n,bo 2 0 (I c.az)]] []=B9 c (L.set ((1+k)*2+1) (.v .nils)) []:=by grind
  rw[hst]
  refine Pt (ks:=[]) (T:=[kc B7 [1,1,1,1,1,0,1,0,0,1,1,0,0,1],.blk 1,kc B7 [1,1,1,1,1,0,1,0,0,1,1,1],kl B7 [1,1,1,1,1,0,1,0,0],.blk 0,kc B7 [1,1,1,1,1,1]]) mixed (NF 0) 0 (fun _ _ h=>h.2) 46 [4] 7 2 (.l [ke 8,ke 9,ke 10,ch 12 (di y),ke 28,ch 29 (di (I (y::ws))),ch 30 (di (0:Nat))]) ?_
  refine fv (by kernel_rfl:(Q (di y)/\di (I (U vi (y::ws)):Int)=di (I (y::ws):Int)/\di 0=di (↑0:Int)/\I0 Lx 0 (dV (b9.mk c.n (BU c.az s0 x s (1+k) (y::ws)))) ba xr (cy 46 [(8,bq 0 0),(9,bq 3 0),(10,bq 2 ((1+k)*2+1)),(12,di y),(28,bt (cw (y::ws))),(29,di (I (y::ws):Int)),(30,di (↑0:Int))]) (B9 c (List.set L ((1+k)*2+1) (dn)) []))=_) ?_
  refine⟨rfl,by rw[HH],rfl,⟨TW c ((1+k)*2+1) L hpL y 0 (.v .nils) [] [G [di 0,.v .nils]] [G [di y,.v (.list [])]] 4 (by simp) (y::ws) (0:Nat) (fun τ=>Alh τ) (Alf c _) (fun M=>Ald c M y) ?_⟩⟩
  exact Qw _ _ c _ _ ((1+k)*2+1) (y::ws) y 0 (by omega) _ _ _ _ hlp
noncomputable abbrev XJ:=Tryz.f160
theorem Mm:∀(l:List b9) (i:Nat) (x y:b9),l[i]?=G x->b9.sizes (l.set i y)+x.size=b9.sizes l+y.size
 |[],_,_,_,h=>by grind
 |z::l,0,x,y,h=>by
  grind[b9.sizes]
 |z::l,i+1,x,y,h=>by
  have:=Mm l i x y (by grind)
  grind[b9.sizes]
theorem AeG(ws:List Int):b9.sizes (ws.map lf)=I ws:=JJ ws
theorem K7{l:List b9}{s0 x:b9}{k:Nat}(h0:l[0]?=G s0)(hx:l[1+k]?=G x)(s:Int)(ws:List Int)(n:Int):(b9.mk n (BU l s0 x s (1+k) ws)).size<=1+b9.sizes l+I ws+1:=by
 have h1:=Mm l 0 s0 (.mk s s0.az) h0
 have h2:=Mm (l.set 0 (.mk s s0.az)) (1+k) x (.mk x.n (ws.map lf)) (by grind)
 have h3:(b9.mk n (BU l s0 x s (1+k) ws)).size=1+b9.sizes ((l.set 0 (.mk s s0.az)).set (1+k) (.mk x.n (ws.map lf))):=by rfl
 have h4:(b9.mk s s0.az).size=1+b9.sizes s0.az:=by rfl
 have h5:(b9.mk x.n (ws.map lf)).size=1+b9.sizes (ws.map lf):=by rfl
 have h6:=s0.size_eq
 grind[AeG]
abbrev e6:b9:=.mk 0 []
def K3(c:b9)(k:Nat)(s:Int)(w:List Int):b9:=.mk c.n (BU c.az (c.az.getD 0 e6) (c.az.getD (1+k) e6) s (1+k) w)
def ApE(r:cf)(c:b9):Bool:=((c.az.getD 0 e6).n==r.aj)&&((r.act !=2)||(AP (c.az.getD (1+r.chan.toNat) e6)).head?==G r.letter)
def YP(t:cr)(r:cf)(c:b9):b9×Int:=
 if Ah t c=J then
  if ApE r c=J then
   if (r.act==1)=J then
    if ((I (AP (c.az.getD (1+r.chan.toNat) e6)):Int)==12)=J then(e6,1) else(K3 c r.chan.toNat r.to (AP (c.az.getD (1+r.chan.toNat) e6)++[r.letter]),0)
   else if (r.act==2)=J then(K3 c r.chan.toNat r.to ((AP (c.az.getD (1+r.chan.toNat) e6)).drop 1),0) else(K3 c r.chan.toNat r.to (AP (c.az.getD (1+r.chan.toNat) e6)),0)
  else(e6,18)
 else(e6,17)
theorem RW{c s0 x:b9}{k:Nat}(h0:c.az[0]?=G s0)(hx:c.az[1+k]?=G x)(s:Int)(w:List Int):K3 c k s w=.mk c.n (BU c.az s0 x s (1+k) w):=by
 grind[K3]
theorem Wn(m:cz)(t:cr)(hm:n9 m t)(i:Nat)(r:cf)(hi:m.av[i]?=G r)(c:b9)(hs:c.size<=1000):(YP t r c).1.size<=1000/\F0 160 [Ad m,di i,dV c] (dP (YP t r c)):=by
 have hir:=(HL.1 hi).1
 have hat:=Aha m t hm i hir c (by omega)
 have hfew:=hm.few
 rw[om] at hat
 unfold YP
 by_cases hv:Ah t c=J
 ·rw[Ie hv] at hat
  rw[Ie hv]
  have hsh:=hm.shape c hv
  have hrc:=hm.rule r (HO hi)
  obtain⟨k,hk⟩:∃k:Nat,r.chan=k:=⟨r.chan.toNat,by omega⟩
  obtain⟨s0,h0⟩:∃x,c.az[0]?=G x:=⟨_,HI (by rw[hsh.len];omega)⟩
  obtain⟨x,hx⟩:∃x,c.az[1+k]?=G x:=⟨_,HI (by rw[hsh.len];omega)⟩
  have hx12:=hsh.word k x hx
  have hkl:I c.az<=1000000:=by rw[hsh.len];omega
  have hen:=AcL r c k hk s0 x h0 hx hkl (by omega)
  have hct:=Oz c k x hx hkl (by omega)
  have hwi:=fun ws hw=>Qx c hs s0 x k h0 hx r.to ws hw
  have hsz:=fun ws=>K7 h0 hx r.to ws c.n
  have hcs:=c.size_eq
  have h128:=hsh.size
  rw[←hk] at hct hwi
  have hnl:I (AP x)<=12:=by grind
  have ek:r.chan.toNat=k:=by omega
  have e0:c.az.getD 0 e6=s0:=by grind
  have ex:c.az.getD (1+k) e6=x:=by grind
  unfold ApE
  rw[ek,e0,ex]
  simp only[RW h0 hx]
  cases hb:((s0.n==r.aj)&&((r.act !=2)||(AP x).head?==G r.letter)) with
  |false=>
   rw[hb] at hen
   rw[HZ (by decide)]
   refine⟨by decide,?_⟩
   exact sv XJ 57 [3,5] (.c (di 0)<|.k<|.x (Al r)<|.c (db O) .r) (_/\0<=(i:Int)/\(U Al m.av)[Z (i:Int)]?=G (Al r)/\_/\bk [bt mf,di 18]=dP (e6,18)) ⟨hat,by omega,Am hi,hen,rfl⟩
  |true=>
   rw[hb] at hen
   by_cases h1:(r.act==1)=J
   ·rw[Ie h1]
    by_cases h2:((I (AP x):Int)==12)=J
    ·rw[Ie h2]
     refine⟨by decide,?_⟩
     exact sv XJ 57 [3,5] (.c (di 0)<|.k<|.x (Al r)<|.c (db J)<|.k<|.h (.ck 1 1 1 ((AP x).map vi))<|.t<|.t .r) (_/\0<=(i:Int)/\(U Al m.av)[Z (i:Int)]?=G (Al r)/\_/\_/\_/\((I (U vi (AP x)):Int)==12)=J/\bk [bt mf,di 1]=dP (e6,1)) ⟨hat,by omega,Am hi,hen,hct,h1,by rw[HH];exact h2,rfl⟩
    ·rw[HZ h2]
     refine⟨?_,?_⟩
     ·have:=hsz (AP x++[r.letter])
      simp only[HW,HN,HR] at this
      show(b9.mk c.n (BU c.az s0 x r.to (1+k) (AP x++[r.letter]))).size<=1000
      omega
     ·refine sv XJ 57 [3,5] (.c (di 0)<|.k<|.x (Al r)<|.c (db J)<|.k<|.h (.ck 1 1 1 ((AP x).map vi))<|.t<|.f<|.c (dV (.mk c.n (BU c.az s0 x r.to (1+k) (AP x++[r.letter])))) .r) (F0 232 [Ad m,di (i:Int),dV c] (di 0)/\0<=(i:Int)/\(U Al m.av)[Z (i:Int)]?=G (Al r)/\F0 233 [BP r,dV c] (db J)/\Aa PP 234 [dV c,di r.chan] d7 (br 1 (U vi (AP x))) (bh [] [(1,1,U vi (AP x))])/\(r.act==1)=J/\((I (U vi (AP x)):Int)==12)=O/\Q (U vi (AP x))/\Ao (I (U vi (AP x))+I (vi r.letter::nV)) 8/\F0 235 [dV c,di r.to,di r.chan,bt (ai (U vi (AP x)++[vi r.letter]))] (dV (b9.mk c.n (BU c.az s0 x r.to (1+k) (AP x++[r.letter]))))/\bk [bt (ab [vi (b9.n (b9.mk c.n (BU c.az s0 x r.to (1+k) (AP x++[r.letter])))),ai (U eV (b9.az (b9.mk c.n (BU c.az s0 x r.to (1+k) (AP x++[r.letter])))))]),di 0]=dP (b9.mk c.n (BU c.az s0 x r.to (1+k) (AP x++[r.letter])),0)) ?_
      have hw:=hwi (AP x++[r.letter]) (by simp only[HW,HN,HR];omega)
      have e:(AP x).map vi++[vi r.letter]=(AP x++[r.letter]).map vi:=by simp
      rw[e]
      exact⟨hat,by omega,Am hi,hen,hct,h1,by rw[HH];exact HU h2,rfl,⟨by simp only[HH,HN,HR] at*;omega,by simp only[HH,HN,HR] at*;omega⟩,hw,rfl⟩
   ·rw[HZ h1]
    by_cases h2:(r.act==2)=J
    ·rw[Ie h2]
     have hn:1<=I (AP x):=by
      cases hn:AP x with
      |nil=>rw[hn] at hb;simp_all
      |cons y ys=>simp
     obtain⟨W,hW⟩:∃W,W=AP x:=⟨_,rfl⟩
     rw[←hW] at hct hn hnl⊢
     refine⟨?_,?_⟩
     ·have:=hsz (W.drop 1)
      rw[IP] at this
      show(b9.mk c.n (BU c.az s0 x r.to (1+k) (W.drop 1))).size<=1000
      omega
     ·refine sv XJ 57 [3,5] (.c (di 0)<|.k<|.x (Al r)<|.c (db J)<|.k<|.h (.ck 1 1 1 (W.map vi))<|.f<|.t<|.c (dV (.mk c.n (BU c.az s0 x r.to (1+k) (W.drop 1)))) .r) (F0 232 [Ad m,di (i:Int),dV c] (di 0)/\0<=(i:Int)/\(U Al m.av)[Z (i:Int)]?=G (Al r)/\F0 233 [BP r,dV c] (db J)/\Aa PP 234 [dV c,di r.chan] d7 (br 1 (U vi W)) (bh [] [(1,1,U vi W)])/\(r.act==1)=O/\(r.act==2)=J/\(∀(x:V),x∈U vi W->V.size x=1)/\0<=(1:Int)/\(1:Int)<=(I (U vi W):Int)/\F0 235 [dV c,di r.to,di r.chan,bt (ai (List.drop (Z ((1:Int))) (take (I (U vi W)) (U vi W))))] (dV (b9.mk c.n (BU c.az s0 x r.to (1+k) (List.drop 1 W))))/\bk [bt (ab [vi (b9.n (b9.mk c.n (BU c.az s0 x r.to (1+k) (List.drop 1 W)))),ai (U eV (b9.az (b9.mk c.n (BU c.az s0 x r.to (1+k) (List.drop 1 W)))))]),di 0]=dP (b9.mk c.n (BU c.az s0 x r.to (1+k) (List.drop 1 W)),0)) ?_
      have e:List.drop (Z (1:Int)) (take (I (W.map vi)) (W.map vi))=(W.drop 1).map vi:=by rw[Im (HP _),List.map_drop];rfl
      rw[e]
      exact⟨hat,by omega,Am hi,hen,hct,HU h1,h2,fun y hy=>by obtain⟨z,_,rfl⟩:=I2.1 hy;rfl,by omega,by rw[HH];omega,hwi (W.drop 1) (by rw[IP];omega),rfl⟩
    ·rw[HZ h2]
     refine⟨?_,?_⟩
     ·have:=hsz (AP x)
      show(b9.mk c.n (BU c.az s0 x r.to (1+k) (AP x))).size<=1000
      omega
     ·exact sv XJ 57 [3,5] (.c (di 0)<|.k<|.x (Al r)<|.c (db J)<|.k<|.h (.ck 1 1 1 ((AP x).map vi))<|.f<|.f<|.c (dV (.mk c.n (BU c.az s0 x r.to (1+k) (AP x)))) .r) (_/\0<=(i:Int)/\(U Al m.av)[Z (i:Int)]?=G (Al r)/\_/\_/\(r.act==1)=O/\(r.act==2)=O/\_/\bk [bt (ab [vi (b9.n (b9.mk c.n (BU c.az s0 x r.to (1+k) (AP x)))),ai (U eV (b9.az (b9.mk c.n (BU c.az s0 x r.to (1+k) (AP x)))))]),di 0]=dP (b9.mk c.n (BU c.az s0 x r.to (1+k) (AP x)),0)) ⟨hat,by omega,Am hi,hen,hct,HU h1,HU h2,hwi (AP x) (by omega),rfl⟩
 ·rw[HZ hv] at hat
  rw[HZ hv]
  refine⟨by decide,?_⟩
  exact sv XJ 57 [3,5] (.c (di 17) .r) (_/\bk [bt mf,di 17]=dP (e6,17)) ⟨hat,rfl⟩
section
variable {α : Type} {c : α -> α -> Int}
abbrev kb:α->Prop:=fun _=>True
abbrev j9(c:α->α->Int)(l:List α):Prop:=l.Pairwise fun a b=>c a b<0
theorem AcY(h:ic c kb)(x:α):¬c x x<0:=by rw[h.refl x trivial];omega
theorem AnJ(h:ic c kb){x y:α}(h1:c x y<0):¬c y x<0:=fun h2=>AcY h x (h.trans x y x trivial trivial trivial h1 h2)
theorem N6(h:ic c kb){l:List α}(ha:j9 c l):l.Nodup:=ha.imp fun{a b} hab e=>by subst e;exact AcY h a hab
theorem TM(h:ic c kb){l k:List α}(ha:j9 c l)(hb:j9 c k)(hm:∀x,x∈l↔x∈k):l=k:=
 List.Perm.eq_of_pairwise (fun _ _ _ _ h1 h2=>absurd h2 (AnJ h h1)) ha hb ((List.perm_ext_iff_of_nodup (N6 h ha) (N6 h hb)).2 hm)
theorem AcX(h:ic c kb){k:List α}(hs:k.Pairwise fun a b=>c a b<=0)(hn:k.Nodup):j9 c k:=
 (hs.and hn).imp fun{a b} hab=>by
  have:=h.eq a b trivial trivial
  grind
def Cf(q:α->α->Bool):α->List α->List α
 |_,[]=>[]
 |p,x::r=>if q x p=J then Cf q x r else x::Cf q x r
def AM(q:α->α->Bool):List α->List α
 |[]=>[]
 |x::r=>x::Cf q x r
theorem KY(q:α->α->Bool):∀(l:List α) (p x:α),x∈Cf q p l->x∈l
 |[],_,_,h=>by grind[Cf]
 |y::l,p,x,h=>by
  unfold Cf at h
  split at h
  ·exact List.mem_cons_of_mem _ (KY q l y x h)
  ·rcases Iz.1 h with rfl|h
   ·simp
   ·exact List.mem_cons_of_mem _ (KY q l y x h)
theorem da{l:List α}{i:Nat}{x:α}(h:l[i]?=G x):l.drop i=x::l.drop (i+1):=by
 grind[List.drop_eq_getElem_cons]
theorem JI{l:List α}{k:Nat}{x:α}(h:k<I l):(l.set k x).take (k+1)=l.take k++[x]:=by
 grind[List.take_add_one,List.take_set_of_le]
theorem K1(q:α->α->Bool){l:List α}(h:I l<2):AM q l=l:=by
 match l,h with
 |[],_=>rfl
 |[_],_=>rfl
theorem Ns{q:α->α->Bool}{l:List α}{p:α}(h:l[1-1]?=G p):l.take 1++Cf q p (l.drop 1)=AM q l:=by
 cases l<;>grind[AM]
theorem TB{q:α->α->Bool}{l:List α}{x:α}(h:x∈AM q l):x∈l:=by
 cases l<;>grind[AM,KY]
theorem O2(q:α->α->Bool):∀(l:List α) (p:α),I (Cf q p l)<=I l
 |[],_=>HP _
 |y::l,p=>by
  have:=O2 q l y
  grind[Cf]
theorem Nt(q:α->α->Bool)(l:List α):I (AM q l)<=I l:=by
 cases l<;>grind[O2,AM]
theorem O3(h:ic c kb){q:α->α->Bool}(hq:∀x y,q x y=J↔x=y):∀(l:List α) (p:α),(p::l).Pairwise (fun a b=>c a b<=0)->j9 c (p::Cf q p l)/\∀x,(x=p∨x∈Cf q p l)↔(x=p∨x∈l)
 |[],p,_=>⟨by simp[Cf],fun x=>by rfl⟩
 |y::l,p,hs=>by
  have hp:=pairwise_cons.1 hs
  obtain⟨a1,a2⟩:=O3 h hq l y hp.2
  unfold Cf
  by_cases e:y=p
  ·grind
  ·rw[HZ (fun he=>e ((hq y p).1 he))]
   have h1:c p y<0:=by
    rcases Int.lt_or_eq_of_le (hp.1 y (by simp)) with h1|h1
    ·exact h1
    ·exact absurd (h.eq p y trivial trivial h1).symm e
   refine⟨pairwise_cons.2 ⟨fun b hb=>?_,a1⟩,fun x=>?_⟩
   ·rcases Iz.1 hb with rfl|hb
    ·exact h1
    ·exact h.trans p y b trivial trivial trivial h1 ((pairwise_cons.1 a1).1 b hb)
   grind
theorem Nu(h:ic c kb){q:α->α->Bool}(hq:∀x y,q x y=J↔x=y){l:List α}(hs:l.Pairwise fun a b=>c a b<=0):j9 c (AM q l)/\∀x,x∈AM q l↔x∈l:=by
 cases l with
 |nil=>exact⟨.nil,fun x=>Iff.rfl⟩
 |cons p l=>
  grind[O3,AM]
def De(c:α->α->Int):List α->α->List α
 |[],v=>[v]
 |x::l,v=>if c x v<0 then x::De c l v else if c x v=0 then x::l else v::x::l
theorem Vn(h:ic c kb)(v:α):∀l:List α,j9 c l->j9 c (De c l v)/\∀x,x∈De c l v↔(x∈l∨x=v)
 |[],_=>⟨List.pairwise_singleton _ _,fun x=>by simp[De]⟩
 |y::l,ha=>by
  have hp:=pairwise_cons.1 ha
  obtain⟨a1,a2⟩:=Vn h v l hp.2
  unfold De
  by_cases h1:c y v<0
  ·grind[pairwise_cons]
  ·rw[HZ h1]
   by_cases h2:c y v=0
   ·have:=h.eq y v trivial trivial h2
    grind
   ·rw[HZ h2]
    have h3:c v y<0:=by
     have:=(h.swap v y trivial trivial)
     omega
    refine⟨pairwise_cons.2 ⟨fun b hb=>?_,ha⟩,fun x=>?_⟩
    ·rcases Iz.1 hb with rfl|hb
     ·exact h3
     ·exact h.trans v y b trivial trivial trivial h3 (hp.1 b hb)
    grind
end
theorem OU(l:List (List Int)):Ab (l.map cw)=l.map fun w=>bt (cw w):=by
 induction l with
 |nil=>rfl
 |cons x l ih=>show bt (cw x)::Ab (l.map cw)=_;grind
theorem Qk(l:List (List Int)):I (Ab (l.map cw))=I l*1:=by grind[OU]
theorem FN{l:List (List Int)}{i:Nat}{x:List Int}(h:l[i]?=G x):(Ab (l.map cw))[i]?=G (bt (cw x)):=by grind[OU]
theorem Ah4(l:List (List Int))(k:Nat):(Ab (l.map cw)).take (k*1)=Ab ((l.take k).map cw):=by grind[OU,List.map_take]
theorem Adt(l:List (List Int))(k:Nat)(x:List Int)(_:k<I l):(Ab (l.map cw)).set k (bt (cw x))=Ab ((l.set k x).map cw):=by grind[OU,List.map_set]
theorem Ah5(k:Nat):(((replicate k [bv]).flatten.map bt).all D.one)=J:=by
 induction k with
 |zero=>rfl
 |succ k ih=>simp only[IC,List.flatten_cons,IZ,List.all_append,ih];rfl
theorem NC(l:List (List Int)):(Ab (l.map cw)).all D.one=J:=by
 rw[OU,I5]
 intro x hx
 obtain⟨w,_,rfl⟩:=I2.1 hx
 rfl
theorem ZY:BS PP 182=G (27,1,24,G (.slice none 0 0)):=by rfl
theorem NB(l:List V){R:List D}(h:D.pls R=J):D.pls (Ab l++R)=J:=by grind[Du,Ay]
noncomputable abbrev mu:=Tryz.f296
noncomputable def Ft:=yl mu
noncomputable abbrev Asr:=[kl Ft [1,1,0,1,0,0,1,0,0,1,0,1,0,1,0,0],bf 2,kc Ft [1,1,0,1,0,0,1,0,0,1,0,1,1],bf 1,kc Ft [1,1,0,1,0,0,1,1],kl Ft ee,bf 0,kc Ft [1,1,1]]
noncomputable abbrev fb:=fun a₀=>(Ab (U cw a₀))
noncomputable abbrev ky:=fun a₀=>(bh [G (fb a₀)] [])
noncomputable abbrev mg:=fun a₀ b₀=>(bh [G (Ab (U cw a₀)++b₀)] [])
theorem AnZ(F:yx)(l:List (List Int))(q:(List Int)->(List Int)->Bool)(hl:I l<=1000)(hq:∀x∈l,∀y∈l,F0 F [.v (cw x),.v (cw y)] (db (q x y)))(k0:Nat)(h0:1<=k0)(h1:k0<I l)(n:Nat):∀(k j:Nat) (A:List (List Int)),I l-k0-j=n->1<=k->1<=j->k<k0+j->j<=I l-k0->I A=I l->(∀x∈A,x∈l)->(∀i:Nat,k0+j-1<=i->A[i]?=l[i]?)->(∀p,l[k0+j-1]?=G p->A.take k++Cf q p (l.drop (k0+j))=AM q l)->
  ∃(ys:List (List Int)) (R:List D),ys=AM q l/\D.pls R=J/\R.all D.one=J/\Rn PP mu 1 (.arr 0 0 (I ys)) ⟨[G (Ab (ys.map cw)++R)],[]⟩ ([kl Ft [1,1,0,1,0,0,1,0,0,1,0,1,0,1,0,0],.blk 2,kc Ft [1,1,0,1,0,0,1,0,0,1,0,1,1],.blk 1,kc Ft [1,1,0,1,0,0,1,1],kl Ft [1,1,0,1,0,0],.blk 0,kc Ft [1,1,1]]++[]) (cy 66 [(0,.arr 0 0 (I l)),(1,dfn F),(5,di k),(6,.arr 0 (k0*1) (I l-k0)),(7,di j)]) ⟨[G (Ab (A.map cw))],[]⟩:=by
 induction n with
 |zero=>
  intro k j A hn hk hj hkj hjl hA hAl hAe hT
  refine⟨A.take k,(replicate (I l-k) [bv]).flatten.map .v,?_,?_,?_,?_⟩
  ·obtain⟨p,hp⟩:∃p,l[k0+j-1]?=G p:=⟨_,HI (by omega)⟩
   have:=hT p hp
   rw[Ic (by omega),Cf,I8] at this
   omega
  ·exact Ca _
  ·exact Ah5 _
  have hkl:k<I l:=by omega
  have hsl:∀(o:yy) (x:x8) (y:x8) (τ:St),o.op=.slice 182 x (G y) none none->Ai PP o [.arr 0 0 (I l),di k] τ (.arr 0 (k*1) (I l-k)) τ:=fun o x y τ ho=>by
   have:=CU (P:=PP) (o:=o) (σ:=τ) ho ZY (q:=0) (off:=0) (len:=I l) (G (.i64,(k:Int))) none rfl rfl (l':=k) (h':=I l) (by grind[C8]) hkl
   rwa[I4] at this
  have hsh:∀(o:yy) (x:x8) (y:x8) (τ:St),o.op=.slice 182 x none (G y) none->Ai PP o [.arr 0 0 (I l),di k] τ (.arr 0 0 k) τ:=fun o x y τ ho=>by
   have:=CU (P:=PP) (o:=o) (σ:=τ) ho ZY (q:=0) (off:=0) (len:=I l) none (G (.i64,(k:Int))) rfl rfl (l':=0) (h':=k) (by grind[C8]) (by omega)
   rwa[Nat.zero_mul,IG,Nat.sub_zero] at this
  have hfl:I (Ab (A.map cw))=I l*1:=by rw[Qk,hA]
  have hcl:=fun(o:yy) (x:x8) (ho:o.op=.call { callee:=.builtin .clear,args:= #[x],argTypes:= #[182]})=>M7 (P:=PP) (o:=o) (σ:=⟨[G (Ab (A.map cw))],[]⟩) ho ZY (zs:=[.nils]) rfl rfl (q:=0) (off:=k*1) (len:=I l-k) rfl (by omega) (by omega)
  have hd:(Ab (A.map cw)).drop (k*1+(I l-k)*1)=[]:=Ic (by omega)
  have htk:(Ab (A.map cw)).take (k*1)=Ab ((A.take k).map cw):=Ah4 A k
  rw[hd,htk,I8] at hcl
  refine lv 66 [] (.f<|.h (.q 14 2)<|.h (.o (.arr 0 (k*1) (I l-k)) ⟨[G (Ab (A.map cw))],[]⟩)<|.h (.o (.tup []) ⟨[G (Ab ((A.take k).map cw)++(replicate (I l-k) [bv]).flatten.map .v)],[]⟩)<|.h (.q 15 2)<|.h (.o (.arr 0 0 k) ⟨[G (Ab ((A.take k).map cw)++(replicate (I l-k) [bv]).flatten.map .v)],[]⟩) .ro) (Y ((j:Int)<(↑(I l-k0):Int))=O/\Ai PP (Oper.mk (G 61) (Op.slice 182 (Operand.tmp 59) (G (Operand.tmp 60)) none none) 182 "slices.go:410" #[Edge.mk 0 Ground.data,Edge.mk 1 Ground.data] none) [bo 0 0 (I l),di (k:Int)] (ky A) (bo 0 (k*1) (I l-k)) (ky A)/\Ai PP (Oper.mk none (Op.call (Call.mk (Callee.builtin Builtin.clear) #[Operand.tmp 61] #[182])) 0 "slices.go:410" #[Edge.mk 2 Ground.data] none) [bo 0 (k*1) (I l-k)] (ky A) (bk []) (bh [G (Ab (U cw (take k A))++U bt (flatten (replicate (I l-k) [bv])))] [])/\Ai PP (Oper.mk (G 64) (Op.slice 182 (Operand.tmp 62) none (G (Operand.tmp 63)) none) 182 "slices.go:411" #[Edge.mk 0 Ground.data,Edge.mk 1 Ground.data] none) [bo 0 0 (I l),di (k:Int)] (bh [G (Ab (U cw (take k A))++U bt (flatten (replicate (I l-k) [bv])))] []) (bo 0 0 k) (bh [G (Ab (U cw (take k A))++U bt (flatten (replicate (I l-k) [bv])))] [])/\cm 1 [] [G (Ab (U cw (take k A))++U bt (flatten (replicate (I l-k) [bv])))]=J/\Q [G (Ab (U cw (take k A))++U bt (flatten (replicate (I l-k) (bv::nV))))]/\bo 0 0 k=bo 0 0 (I (take k A))) ⟨yq,hsl _ _ _ _ rfl,hcl _ _ rfl,hsh _ _ _ _ rfl,?_,rfl,by grind⟩
  exact Ia.2 ⟨AO (NB _ (Ca _)),rfl⟩
 |succ n ih=>
  intro k j A hn hk hj hkj hjl hA hAl hAe hT
  obtain⟨x,hx⟩:=yk (show k0+j<I A by omega)
  obtain⟨y,hy⟩:=yk (show k0+j-1<I A by omega)
  have hc:=hq x (hAl x (HO hx)) y (hAl y (HO hy))
  have hw1:yt.wrap ((j:Int)-1)=((j-1:Nat):Int):=by rw[Ak];omega
  have hT':=hT y (by grind)
  have hx':l[k0+j]?=G x:=by grind
  rw[da hx',Cf] at hT'
  cases hb:q x y with
  |true=>
   rw[hb] at hc
   obtain⟨ys,R,r1,r3,r5,r4⟩:=ih k (j+1) A (by omega) hk (by omega) (by omega) (by omega) hA hAl (fun i hi=>hAe i (by omega)) (fun p hp=>by
    grind)
   refine⟨ys,R,r1,r3,r5,?_⟩
   refine lv 66 [] (.t<|.m (.v (cw x))<|.m (.v (cw y))<|.c (db J)<|.lo [ke 0,ke 1,ke 5,ke 6,ch 7 (di (j+1:Nat))] ⟨[G (Ab (A.map cw))],[]⟩) (Y ((j:Int)<(↑(I l-k0):Int))=J/\0<=(j:Int)/\(j:Int)<(↑(I l-k0):Int)/\(fb A)[k0*1+Z (j:Int)*1]?=G (cx x)/\0<=yu yt ((j:Int)-1)/\yu yt ((j:Int)-1)<(↑(I l-k0):Int)/\(fb A)[k0*1+Z (yu yt ((j:Int)-1))*1]?=G (cx y)/\F0 F [cx x,cx y] (db J)/\yo/\di (yu yt ((j:Int)+1))=di (↑(j+1):Int)/\cm 1 [] [G (fb A)]=J/\Q [G (fb A)]/\I0 mu 1 (bo 0 0 (I ys)) (mg ys R) Asr (cy 66 [(0,bo 0 0 (I l)),(oz F),(5,di (k:Int)),(6,bo 0 (k0*1) (I l-k0)),(7,di (↑(j+1):Int))]) (ky A)) ?_
   rw[hw1]
   refine⟨yr,by omega,by omega,by grind[Z,FN],by omega,by omega,by rw[show k0*1+Z ((j-1:Nat):Int)*1=k0+j-1 by omega];exact FN hy,hc,ym,Ae,Ia.2 ⟨Aj 1 [] _,rfl⟩,rfl,⟨r4⟩⟩
  |false=>
   rw[hb] at hc
   have hA2:∀z∈A.set k x,z∈l:=fun z hz=>by
    grind
   obtain⟨ys,R,r1,r3,r5,r4⟩:=ih (k+1) (j+1) (A.set k x) (by omega) (by omega) (by omega) (by omega) (by omega) (by grind) hA2 (fun i hi=>by grind[List.getElem?_set_ne]) (fun p hp=>by
    grind[JI])
   refine⟨ys,R,r1,r3,r5,?_⟩
   refine lv 66 [] (.t<|.m (.v (cw x))<|.m (.v (cw y))<|.c (db O)<|.m (.v (cw x))<|.w<|.lo [ke 0,ke 1,ch 5 (di (k+1:Nat)),ke 6,ch 7 (di (j+1:Nat))] ⟨[G (Ab ((A.set k x).map cw))],[]⟩) (Y ((j:Int)<(↑(I l-k0):Int))=J/\0<=(j:Int)/\(j:Int)<(↑(I l-k0):Int)/\(fb A)[k0*1+Z (j:Int)*1]?=G (cx x)/\0<=yu yt ((j:Int)-1)/\yu yt ((j:Int)-1)<(↑(I l-k0):Int)/\(fb A)[k0*1+Z (yu yt ((j:Int)-1))*1]?=G (cx y)/\F0 F [cx x,cx y] (db O)/\yo/\0<=(j:Int)/\(j:Int)<(↑(I l-k0):Int)/\(fb A)[k0*1+Z (j:Int)*1]?=G (cx x)/\0<=(k:Int)/\(k:Int)<(I l:Int)/\0+Z (k:Int)*1<I (fb A)/\di (yu yt ((k:Int)+1))=di (↑(k+1):Int)/\di (yu yt ((j:Int)+1))=di (↑(j+1):Int)/\cm 1 [] [G (List.set (fb A) (0+Z (k:Int)*1) (cx x))]=J/\[G (List.set (fb A) (0+Z (k:Int)*1) (cx x))]=[G (Ab (U cw (List.set A k x)))]/\I0 mu 1 (bo 0 0 (I ys)) (mg ys R) Asr (cy 66 [(0,bo 0 0 (I l)),(oz F),(5,di (↑(k+1):Int)),(6,bo 0 (k0*1) (I l-k0)),(7,di (↑(j+1):Int))]) (bh [G (Ab (U cw (List.set A k x)))] [])) ?_
   rw[hw1]
   refine⟨yr,by omega,by omega,by grind[Z,FN],by omega,by omega,by rw[show k0*1+Z ((j-1:Nat):Int)*1=k0+j-1 by omega];exact FN hy,hc,ym,by omega,by omega,by grind[Z,FN],by omega,by omega,by rw[Qk];omega,Ae,Ae,?_,?_,⟨r4⟩⟩
   ·grind[Adt,Aj,cm]
   grind[Z,Adt]
theorem Akw(F:yx)(l:List (List Int))(q:(List Int)->(List Int)->Bool)(hl:I l<=1000)(hq:∀x∈l,∀y∈l,F0 F [.v (cw x),.v (cw y)] (db (q x y)))(n:Nat):∀(k:Nat),I l-k=n->1<=k->k<=I l->(∀p,l[k-1]?=G p->l.take k++Cf q p (l.drop k)=AM q l)->
  ∃(ys:List (List Int)) (R:List D),ys=AM q l/\D.pls R=J/\R.all D.one=J/\Rn PP mu 1 (.arr 0 0 (I ys)) ⟨[G (Ab (ys.map cw)++R)],[]⟩ ([kl Ft [1,1,0,1,0,0],.blk 0,kc Ft [1,1,1]]++[]) (cy 66 [(0,.arr 0 0 (I l)),(1,dfn F),(5,di k)]) ⟨[G (Ab (l.map cw))],[]⟩:=by
 induction n with
 |zero=>
  intro k hn hk hkl hT
  refine⟨l,[],?_,rfl,rfl,?_⟩
  ·obtain⟨p,hp⟩:∃p,l[k-1]?=G p:=⟨_,HI (by omega)⟩
   have:=hT p hp
   rw[Ic (by omega),Cf,I8,Im (by omega)] at this
   omega
  exact lv 66 [] (.f .ro) (Y ((k:Int)<(I l:Int))=O/\cm 1 [] [G (fb l)]=J/\[G (fb l)]=[G (Ab (U cw l)++[])]/\Q (bo 0 0 (I l))) ⟨yq,Ia.2 ⟨Aj 1 [] _,rfl⟩,by rw[I8],rfl⟩
 |succ n ih=>
  intro k hn hk hkl' hT
  obtain⟨x,hx⟩:=yk (show k<I l by omega)
  obtain⟨y,hy⟩:=yk (show k-1<I l by omega)
  have hc:=hq x (HO hx) y (HO hy)
  have hkl:k<I l:=by omega
  have hw1:yt.wrap ((k:Int)-1)=((k-1:Nat):Int):=by rw[Ak];omega
  have hT':=hT y hy
  rw[da hx,Cf] at hT'
  cases hb:q x y with
  |true=>
   rw[hb] at hc
   obtain⟨ys,R,r1,r3,r5,r4⟩:=AnZ F l q hl hq k hk (by omega) _ k 1 l rfl hk (by omega) (by omega) (by omega) rfl (fun x h=>h) (fun _ _=>rfl) (fun p hp=>by
    grind)
   refine⟨ys,R,r1,r3,r5,?_⟩
   refine lv 66 [] (.t<|.m (.v (cw x))<|.m (.v (cw y))<|.c (db J)<|.k<|.h (.q 7 2)<|.h (.o (.arr 0 (k*1) (I l-k)) ⟨[G (Ab (l.map cw))],[]⟩)<|.lo [ke 0,ke 1,ke 5,ke 6,ch 7 (di (1:Nat))] ⟨[G (Ab (l.map cw))],[]⟩) (Y ((k:Int)<(I l:Int))=J/\0<=(k:Int)/\(k:Int)<(I l:Int)/\(fb l)[0+Z (k:Int)*1]?=G (cx x)/\0<=yu yt ((k:Int)-1)/\yu yt ((k:Int)-1)<(I l:Int)/\(fb l)[0+Z (yu yt ((k:Int)-1))*1]?=G (cx y)/\F0 F [cx x,cx y] (db J)/\yo/\Ai PP (Oper.mk (G 31) (Op.slice 182 (Operand.tmp 29) (G (Operand.tmp 30)) none none) 182 "slices.go:402" #[Edge.mk 0 Ground.data,Edge.mk 1 Ground.data] none) [bo 0 0 (I l),di (k:Int)] (ky l) (bo 0 (k*1) (I l-k)) (ky l)/\di 1=di (↑1:Int)/\cm 1 [] [G (fb l)]=J/\Q [G (fb l)]/\I0 mu 1 (bo 0 0 (I ys)) (mg ys R) Asr (cy 66 [(0,bo 0 0 (I l)),(oz F),(5,di (k:Int)),(6,bo 0 (k*1) (I l-k)),(7,di (↑1:Int))]) (ky l)) ?_
   have hsl:∀(o:yy) (x:x8) (y:x8) (τ:St),o.op=.slice 182 x (G y) none none->Ai PP o [.arr 0 0 (I l),di k] τ (.arr 0 (k*1) (I l-k)) τ:=fun o x y τ ho=>by
    have:=CU (P:=PP) (o:=o) (σ:=τ) ho ZY (q:=0) (off:=0) (len:=I l) (G (.i64,(k:Int))) none rfl rfl (l':=k) (h':=I l) (by simp[C8];omega) hkl
    rwa[I4] at this
   rw[hw1]
   exact⟨yr,by omega,by omega,by grind[Z,FN],by omega,by omega,by grind[Z,FN],hc,ym,hsl _ _ _ _ rfl,rfl,Ia.2 ⟨Aj 1 [] _,rfl⟩,rfl,⟨r4⟩⟩
  |false=>
   rw[hb] at hc
   obtain⟨ys,R,r1,r3,r5,r4⟩:=ih (k+1) (by omega) (by omega) (by omega) (fun p hp=>by
    have e:x=p:=Ij (hx.symm.trans hp)
    rw[hb,HZ (by decide)] at hT'
    rw[IW,hx,Option.toList_some,IQ,List.singleton_append, ←e];omega)
   refine⟨ys,R,r1,r3,r5,?_⟩
   refine lv 66 [] (.t<|.m (.v (cw x))<|.m (.v (cw y))<|.c (db O)<|.lo (tp k) ⟨[G (Ab (l.map cw))],[]⟩) (Y ((k:Int)<(I l:Int))=J/\0<=(k:Int)/\(k:Int)<(I l:Int)/\(fb l)[0+Z (k:Int)*1]?=G (cx x)/\0<=yu yt ((k:Int)-1)/\yu yt ((k:Int)-1)<(I l:Int)/\(fb l)[0+Z (yu yt ((k:Int)-1))*1]?=G (cx y)/\F0 F [cx x,cx y] (db O)/\yo/\di (yu yt ((k:Int)+1))=di (↑(k+1):Int)/\cm 1 [] [G (fb l)]=J/\Q [G (fb l)]/\I0 mu 1 (bo 0 0 (I ys)) (mg ys R) [kl Ft ee,bf 0,kc Ft [1,1,1]] (cy 66 [(0,bo 0 0 (I l)),(oz F),(5,di (↑(k+1):Int))]) (ky l)) ?_
   rw[hw1]
   exact⟨yr,by omega,by omega,by grind[Z,FN],by omega,by omega,by grind[Z,FN],hc,ym,Ae,Ia.2 ⟨Aj 1 [] _,rfl⟩,rfl,⟨r4⟩⟩
theorem Aix(F:yx)(l:List (List Int))(q:(List Int)->(List Int)->Bool)(hl:I l<=1000)(hq:∀x∈l,∀y∈l,F0 F [.v (cw x),.v (cw y)] (db (q x y))):
  ∃R:List D,D.pls R=J/\R.all D.one=J/\Aa PP 296 [.arr 0 0 (I l),dfn F] ⟨[G (Ab (l.map cw))],[]⟩ (.arr 0 0 (I (AM q l))) ⟨[G (Ab ((AM q l).map cw)++R)],[]⟩:=by
 by_cases h2:I l<2
 ·refine⟨[],rfl,rfl,?_⟩
  rw[K1 q h2]
  exact sv mu 66 [] (.t .ro) (Y ((I l:Int)<2)=J/\cm 1 [] [G (fb l)]=J/\[G (fb l)]=[G (Ab (U cw l)++[])]/\Q (bo 0 0 (I l))) ⟨yr,Ia.2 ⟨Aj 1 [] _,rfl⟩,by rw[I8],rfl⟩
 ·obtain⟨ys,R,r1,r3,r5,r4⟩:=Akw F l q hl hq _ 1 rfl (HP _) (by omega) (fun p hp=>Ns hp)
  subst r1
  refine⟨R,r3,r5,?_⟩
  exact sv mu 66 [] (.f<|.lo [ke 0,ke 1,ch 5 (di (1:Nat))] ⟨[G (Ab (l.map cw))],[]⟩) (Y ((I l:Int)<2)=O/\Q (di 1)/\cm 1 [] [G (fb l)]=J/\Q [G (fb l)]/\_) ⟨yq,rfl,Ia.2 ⟨Aj 1 [] _,rfl⟩,rfl,iK r4⟩
end Go.Proofs.YtkkplhjidondkaaGreat

namespace Go.Proofs.YtkkplhjidondkaaGreat
open Go.Dv Go.Nv Go.Shelf
set_option maxRecDepth 20000
open List (take)
open Go.IntKind (u64)
open Go.IntKind renaming wrap → yu, i64 → yt
open List renaming length → I, map → U, drop → W
open Option renaming some → G
open Bool renaming true → J, false → O
open Decidable renaming decide → Y
open Int renaming toNat → Z
open Go.Dv.V renaming list → ai, str → ae, agg → ab, int → aa, ref → bz, fn → bw, nils → bv, bool → bu
open Go.Dv.D renaming v → bt, acc → br, ptr → bq, arr → bo, gro → bm, tup → bk, undef → bj, dagg → bi
open Go.Dv.St renaming mk → bh
open Go.Dv.KI renaming blk → bf
open _root_.ByteArray renaming mk → bc
open Go renaming Operand → x8, Program → x7, TypeId → x6, World → x5, Value → yz, Oper → yy, FuncId → yx, Func → yw, IntKind → yv
theorem QB:F0 294 [dl [],dfn 295] (.tup []):=by
 refine⟨⟨_, Tryz.func294,by kernel_rfl,by kernel_rfl⟩,fun g w args hw hargs=>?_⟩
 obtain⟨u0,u1,rfl,h0,h1⟩:=Au.1 hargs
 simp only[Ag,B4] at h0
 obtain⟨a,cap,rfl,_,_⟩:=h0
 have h:=AnyF.slices_SortFunc_none { Tryz.sortW with } a cap u1 w
 refine Calls.mono h ?_
 grind[WI.start,Ag,Af]
theorem Ml:F0 40 [dl [],dfn 41] (.tup []):=by
 refine⟨⟨_, Tryz.func40,by kernel_rfl,by kernel_rfl⟩,fun g w args hw hargs=>?_⟩
 obtain⟨u0,u1,rfl,h0,h1⟩:=Au.1 hargs
 simp only[Ag,B4] at h0
 obtain⟨a,cap,rfl,_,_⟩:=h0
 have h:=AnyF.slices_SortFunc_none Tryz.sortV a cap u1 w
 refine Calls.mono h ?_
 grind[WI.start,Ag,Af]
theorem LP:ic A8 kb:=by
 constructor
 ·exact fun x _=>B6.refl (dy x) trivial
 ·exact fun x y _ _ h=>Zh (B6.eq (dy x) (dy y) trivial trivial h)
 ·exact fun x y _ _=>B6.swap (dy x) (dy y) trivial trivial
 ·exact fun x y z _ _ _=>B6.trans (dy x) (dy y) (dy z) trivial trivial trivial
theorem AeB(l:List (List Int)):(sortW l).Pairwise fun a b=>A8 a b<=0:=
 by grind[List.pairwise_mergeSort,A8,EF,JW,sortW]
def pt(a b:List Int):Bool:=Y (a=b)
def CB(l:List (List Int)):List (List Int):=AM pt (sortW l)
theorem ET(l:List (List Int)):j9 A8 (CB l)/\∀x,x∈CB l↔x∈l:=by
 grind[Nu,LP,pt,AeB,DH,CB]
theorem L4(l:List (List Int)):I (CB l)<=I l:=by
 have:=Nt pt (sortW l)
 rwa[(DH l).length_eq] at this
noncomputable abbrev Amw:=Tryz.f298
noncomputable abbrev wk:=fun a₀=>(bh [G (Ab (U cw (sortW a₀)))] [])
noncomputable abbrev Awg:=(bw 295 [] [])
noncomputable abbrev Awj:=(bw 259 [] [])
theorem Aiz(l:List (List Int))(hl:I l<=1000)(hs:∀v∈l,I v<=1000):∃R:List D,D.pls R=J/\R.all D.one=J/\Aa PP 298 [.arr 0 0 (I l)] ⟨[G (Ab (l.map cw))],[]⟩ (.arr 0 0 (I (CB l))) ⟨[G (Ab ((CB l).map cw)++R)],[]⟩:=by
 have hlen:I (sortW l)=I l:=(DH l).length_eq
 obtain⟨R,h3,h5,h4⟩:=Aix 259 (sortW l) pt (by omega) (fun x hx y hy=>Er x y (by have:=hs x ((DH l).mem_iff.1 hx);omega))
 refine⟨R,h3,h5,?_⟩
 rw[hlen] at h4
 obtain⟨ys,hys⟩:∃ys,ys=CB l:=⟨_,rfl⟩
 rw[show AM pt (sortW l)=CB l from rfl, ←hys] at h4
 rw[←hys]
 have hsp:=NO TZ l (by omega) (fun v hv=>by have:=hs v hv;omega)
 refine sv Amw 7 [] (.h (.oc (.tup []) ⟨[G (Ab ((sortW l).map cw))],[]⟩)<|.h (.oc (.arr 0 0 (I ys)) ⟨[G (Ab (ys.map cw)++R)],[]⟩) .ro) ((N0 [bt (bw 294 [] []),bo 0 0 (I l),bt Awg] (ky l) (bk []) (wk l))/\(N0 [bt (bw 296 [] []),bo 0 0 (I l),bt Awj] (wk l) (bo 0 0 (I ys)) (mg ys R))/\cm 1 [] [G (Ab (U cw ys)++R)]=J/\Q [G (Ab (U cw ys)++R)]/\Q (bo 0 0 (I ys))) ⟨fun o cl fo ho hc=>?_,fun o cl fo ho hc=>?_,Ia.2 ⟨AO (NB _ h3),rfl⟩,rfl,rfl⟩
 ·exact Dw (H:=[Ab (l.map cw)]) ho hc (fs:=[]) (cs:=[]) (ds:=[.arr 0 0 (I l),dfn 295]) rfl hsp rfl (fun cs hm=>by rw[HY.1 hm];exact⟨Aj _ _ _,NC l⟩) rfl (Ia.2 ⟨Aj _ _ _,rfl⟩) (HP _)
 ·exact Dw (H:=[Ab ((sortW l).map cw)]) ho hc (fs:=[]) (cs:=[]) (ds:=[.arr 0 0 (I l),dfn 259]) rfl h4 rfl (fun cs hm=>by rw[HY.1 hm];exact⟨Aj _ _ _,NC _⟩) rfl (Ia.2 ⟨AO (NB _ h3),rfl⟩) (HP _)
theorem Adu(F:yx):F0 296 [dl [],dfn F] (dl []):=by
 exact sv mu 66 [] (.t .r) (Y ((I nV:Int)<2)=J/\bt (ai [])=dl []) ⟨by decide,rfl⟩
theorem AdE:F0 298 [dl []] (dl []):=by
 refine sv Amw 7 [] (.c (.tup [])<|.c (dl []) .r) (F0 294 [bt (ai []),bt Awg] (bk [])/\F0 296 [bt (ai []),bt Awj] (dl [])/\bt (ai [])=dl []) ?_
 grind[QB,Adu]
noncomputable abbrev Amu:=Tryz.f303
theorem W5(x:Int):F0 303 [di x] (db (Y (x<0)||Y (x>=16))):=by
 exact sv Amu 9 [] (.b .r .r) ((Y (x<0)=J->db J=db (Y (x<0)||Y (x>=16)))/\(Y (x<0)=O->db (Y (x>=16))=db (Y (x<0)||Y (x>=16)))) ⟨fun h=>by grind,fun h=>by grind⟩
noncomputable abbrev Amv:=Tryz.f297
def S2(w:List Int):Bool:=Y ((I w:Int)<=12)&& !(w.any fun x=>Y (x<0)||Y (x>=16))
theorem Zb(w:List Int)(hw:I w<=1000):F0 297 [cx w] (db (S2 w)):=by
 rw[S2]
 by_cases h:Y ((I w:Int)<=12)=J
 ·rw[h,Is]
  exact sv Amv 11 [] (.t<|.c (db (w.any fun x=>Y (x<0)||Y (x>=16))) .r) (Y ((I (U vi w):Int)<=12)=J/\_/\(db !List.any w fun x=>Y (x<0)||Y (x>=16))=db !List.any w fun x=>Y (x<0)||Y (x>=16)) ⟨by rw[HH];exact h,Di 303 [] [] (fun x=>Y (x<0)||Y (x>=16)) w (by omega) (fun x _=>W5 x),rfl⟩
 ·rw[HU h,Iq]
  exact sv Amv 11 [] (.f .r) (Y ((I (U vi w):Int)<=12)=O/\Q (db O)) ⟨by rw[HH];exact HU h,rfl⟩
theorem Qu{w:List Int}(h:S2 w=J):I w<=12:=by
 have:=(Ia.1 h).1
 grind
theorem LM(w:List Int)(hw:I w<=1000)(i:Nat)(hi:i<I w):F0 293 [bt (ai [ai (W 0 (take (Z (i:Int)) (w.map vi))),ai (W (Z ((i+1:Nat):Int)) (take (I (w.map vi)) (w.map vi)))])] (cx (w.take i++w.drop (i+1))):=by
 have h:=AgD [w.take i,w.drop (i+1)] (by simp) (by grind)
 grind[List.map_take,List.map_drop]
theorem Q9(w:List Int):∀x∈w.map vi,V.size x=1:=by grind[V.size]
theorem Om(l:List (List Int))(x:List Int):Ab (l.map cw)++[bt (cw x)]=Ab ((l++[x]).map cw):=by grind[OU]
theorem Aqm{o:yy}{t:Nat}(x:List Int)(τ:St)(ho:o.op=.buildSlice 182 1 #[(0,.tmp t)]):Ai PP o [cx x] τ (.v (.list [cw x])) τ:=
 ES ho rfl rfl ZY rfl (xs:=[cw x]) rfl (fun y hy=>by rw[HY.1 hy];rfl) (by decide) (by decide) (by decide)
noncomputable abbrev p8:=Tryz.f289
noncomputable def r8:=yl p8
def fd(w:List Int)(i:Nat):List Int:=w.take i++w.drop (i+1)
theorem PS(w:List Int)(i:Nat):I (fd w i)<=I w:=by grind[fd]
def CE(w:List Int)(k:Nat):List (List Int):=(List.range k).map (fd w)
theorem NJ(w:List Int)(k:Nat):CE w (k+1)=CE w k++[fd w k]:=by simp[CE,List.range_succ]
theorem JE(w:List Int)(k:Nat):I (CE w k)=k:=by simp[CE]
theorem OY{w:List Int}(hw:I w<=12){k:Nat}{v:List Int}(h:v∈CE w k):I v<=12:=by
 obtain⟨i,_,rfl⟩:=I2.1 h
 grind[PS]
def FW(w:List Int):List (List Int):=if S2 w=J then CB (CE w (I w)) else[]
noncomputable abbrev lb:=fun a₀=>(ai (U cw a₀))
theorem AdJ(w:List Int)(hw:I w<=12)(n:Nat):∀k:Nat,I w- (k+1)=n->k<I w->
  Rn PP p8 0 (dl ((CB (CE w (I w))).map cw)) ba ([kl r8 [1,1,1,0,1,0,0],.blk 0,kc r8 [1,1,1,1]]++[]) (cy 28 [(0,cx w),(3,.gro 0 (k+1) 1),(8,cx w),(9,di (I w)),(10,di (k+1:Nat))]) ⟨[G (Ab ((CE w (k+1)).map cw))],[]⟩:=by
 induction n with
 |zero=>
  intro k hn hk
  obtain⟨outs,houts⟩:∃outs,outs=CE w (k+1):=⟨_,rfl⟩
  have ho:I outs=k+1:=by rw[houts];exact JE _ _
  obtain⟨R,h3,h5,h4⟩:=Aiz outs (by omega) (fun v hv=>by rw[houts] at hv;have:=OY hw hv;omega)
  rw[ho] at h4
  obtain⟨ys,hys⟩:∃ys,ys=CB outs:=⟨_,rfl⟩
  rw[←hys] at h4
  rw[←houts,show CE w (I w)=outs by rw[houts];congr 1;omega, ←hys]
  refine lv 28 [] (.f<|.h (.q 9 0)<|.h (.ga 3)<|.h (.oc (.arr 0 0 (I ys)) ⟨[G (Ab (ys.map cw)++R)],[]⟩)<|.h (.q 9 2)<|.h (.ct 27 (dl (ys.map cw)) ⟨[none],[]⟩) .r) (Y ((↑(k+1):Int)<(I w:Int))=O/\(N0 [bt (bw 298 [] []),bo 0 0 (k+1)] (ky outs) (bo 0 0 (I ys)) (mg ys R))/\(∀(e:List D),e[27]?=G (bo 0 0 (I ys))->∀(E:cd) (g:Gh) (a:Act) (w:x5),FI E g (mg ys R) e a w->∃g',FI E g' (bh [none] []) (List.set e 27 (dl (U cw ys))) a w)/\bt (lb ys)=dl (U cw ys)) ⟨yq,fun o cl fo hop hc=>?_,fun e he=>?_,rfl⟩
  ·exact Dw (H:=[Ab (outs.map cw)]) hop hc (fs:=[]) (cs:=[]) (ds:=[.arr 0 0 (k+1)]) rfl h4 rfl (fun cs hm=>by rw[HY.1 hm];exact⟨Aj _ _ _,NC _⟩) rfl (Ia.2 ⟨AO (NB _ h3),rfl⟩) (HP _)
  ·exact T9 (σ:=⟨[G (Ab (ys.map cw)++R)],[]⟩) (q:=0) (sz:=1) (rest:=R) (by decide) (fun x hx=>by obtain⟨y,_,rfl⟩:=I2.1 hx;rfl) (by rw[HH]) rfl he
 |succ n ih=>
  intro k hn hk
  have g3:=ih (k+1) (by omega) (by omega)
  rw[NJ w (k+1),show fd w (k+1)=w.take (k+1)++w.drop (k+2) from rfl] at g3
  have ho:=JE w (k+1)
  generalize CB (CE w (I w))=ws at g3⊢
  generalize CE w (k+1)=outs at g3 ho⊢
  refine lv 28 [] (.t<|.c (cx (w.take (k+1)++w.drop (k+2)))<|.lo [ke 0,ch 3 (.gro 1 (k+1+1) 1),ke 8,ke 9,ch 10 (di (k+1+1:Nat))] ⟨[none,G (Ab ((outs++[w.take (k+1)++w.drop (k+2)]).map cw))],[]⟩) (Y ((↑(k+1):Int)<(I w:Int))=J/\(∀(x:V),x∈U vi w->V.size x=1)/\0<=(fun x=>x.snd) (yt,(↑(k+1):Int))/\(fun x=>x.snd) (yt,(↑(k+1):Int))<=(I (U vi w):Int)/\(∀(x:V),x∈U vi w->V.size x=1)/\0<=(fun x=>x.snd) (yt,yu yt ((↑(k+1):Int)+1))/\(fun x=>x.snd) (yt,yu yt ((↑(k+1):Int)+1))<=(I (U vi w):Int)/\F0 293 [bt (ai [ai (W 0 (take (Z ((fun x=>x.snd) (yt,(↑(k+1):Int)))) (U vi w))),ai (W (Z ((fun x=>x.snd) (yt,yu yt ((↑(k+1):Int)+1)))) (take (I (U vi w)) (U vi w)))])] (cx (take (k+1) w++W (k+2) w))/\I (fb outs)=(k+1)*1/\[cw (take (k+1) w++W (k+2) w)]≠ []/\(∀(y:V),y∈ [cw (take (k+1) w++W (k+2) w)]->V.size y=1)/\Ao (k+1+I (cw (take (k+1) w++W (k+2) w)::nV)) 24/\bm 1 (k+1+I (cw (take (k+1) w++W (k+2) w)::nV)) 1=bm 1 (k+1+1) 1/\di (yu yt ((↑(k+1):Int)+1))=di (↑(k+1+1):Int)/\cm 2 [] [none,G (Ab (U cw outs)++[bt (cw (take (k+1) w++W (k+2) w))])]=J/\[none,G (Ab (U cw outs)++[bt (cw (take (k+1) w++W (k+2) w))])]=[none,G (Ab (U cw (outs++[take (k+1) w++W (k+2) w])))]/\I0 p8 0 (dl (U cw ws)) ba [kl r8 gb,bf 0,kc r8 [1,1,1,1]] (cy 28 [(0,cx w),(3,bm 1 (k+1+1) 1),(8,cx w),(9,di (I w:Int)),(10,di (↑(k+1+1):Int))]) (bh [none,G (Ab (U cw (outs++[take (k+1) w++W (k+2) w])))] [])) ?_
  have hw1:yt.wrap (((k+1:Nat):Int)+1)=((k+1+1:Nat):Int):=by rw[Ak];omega
  rw[hw1,Om]
  refine⟨yr,Q9 w,by show(0:Int)<=((k+1:Nat):Int);omega,by show((k+1:Nat):Int)<=_;rw[HH];omega,Q9 w,by show(0:Int)<=((k+1+1:Nat):Int);omega,by show((k+1+1:Nat):Int)<=_;rw[HH];omega,LM w (by omega) (k+1) (by omega),by rw[Qk,ho],by simp,fun y hy=>by rw[HY.1 hy];rfl,⟨by simp only[HN,HR];omega,by simp only[HN,HR];omega⟩,rfl,rfl,?_,rfl,⟨?_⟩⟩
  ·simp[cm,Aj]
  ·refine E6 (H0:=[none]) (fun E0 E h=>h.2) 1 rfl (fun cs hc=>?_) ?_ ?_ g3
   ·simp at hc;rw[hc];exact Ay _
   ·simp[cy,D.okNs,D.okN]
   ·simp[cy,D.rens,D.ren]
theorem AdI(w:List Int)(hw:I w<=1000):F0 289 [cx w] (dl ((FW w).map cw)):=by
 have hb2:=Zb w hw
 unfold FW
 cases hv:S2 w with
 |false=>
  rw[hv] at hb2
  rw[HZ (by decide)]
  exact sv p8 28 [] (.c (db O) .r) (_/\Q (bt (ai []))) ⟨hb2,rfl⟩
 |true=>
  have h12:=Qu hv
  rw[hv] at hb2
  rw[Ie rfl]
  by_cases h0:w=[]
  ·subst h0
   rw[show CB (CE [] (I ([]:List Int)))=[] by simp[CB,CE,sortW,AM]]
   exact sv p8 28 [] (.c (db J)<|.k<|.n<|.f<|.c (dl []) .r) (_/\Y (0<(I (U vi []):Int))=O/\_/\Q (bt (ai []))) ⟨hb2,rfl,AdE,rfl⟩
  ·have hpos:=List.length_pos_iff.2 h0
   have g3:=AdJ w h12 _ 0 rfl hpos
   rw[show CE w (0+1)=[w.drop 1] by simp[CE,List.range_succ,fd]] at g3
   generalize CB (CE w (I w))=ws at g3⊢
   refine sv p8 28 [] (.c (db J)<|.k<|.n<|.t<|.c (cx (w.drop 1))<|.h (.p (.v (.list [cw (w.drop 1)])))<|.h .g<|.lo [ke 0,ch 3 (.gro 0 1 1),ke 8,ch 9 (di (I w)),ch 10 (di (1:Nat))] ⟨[G (Ab ([w.drop 1].map cw))],[]⟩) (F0 297 [cx w] (db J)/\Y (0<(I (U vi w):Int))=J/\(∀(x:V),x∈U vi w->V.size x=1)/\0<=(0:Int)/\(0:Int)<=(I (U vi w):Int)/\(∀(x:V),x∈U vi w->V.size x=1)/\0<=(fun x=>x.snd) (yt,yu yt (0+1))/\(fun x=>x.snd) (yt,yu yt (0+1))<=(I (U vi w):Int)/\F0 293 [bt (ai [ai [],ai (W (Z ((fun x=>x.snd) (yt,yu yt (0+1)))) (take (I (U vi w)) (U vi w)))])] (cx (W 1 w))/\(∀(τ:St),Ai PP (Oper.mk (G 23) (Op.buildSlice 182 1 #[(0,Operand.tmp 22)]) 182 "word.go:71" #[Edge.mk 9 Ground.data] none) [cx (W 1 w)] τ (bt (ai [cw (W 1 w)])) τ)/\[cw (W 1 w)]≠ []/\(∀(y:V),y∈ [cw (W 1 w)]->V.size y=1)/\Ao 1 24/\Q (bm 0 1 1)/\di (I (U vi w):Int)=di (I w:Int)/\di (yu yt (0+1))=di (↑1:Int)/\cm 1 [] [G [bt (cw (W 1 w))]]=J/\Q [G [bt (cw (W 1 w))]]/\I0 p8 (I ba.H) (dl (U cw ws)) ba [kl r8 gb,bf 0,kc r8 [1,1,1,1]] (cy 28 [(0,cx w),(3,bm 0 1 1),(8,cx w),(9,di (I w:Int)),(10,di (↑1:Int))]) (bh [G [bt (cw (W 1 w))]] [])) ?_
   have hw1:yt.wrap (0+1)=((0+1:Nat):Int):=by decide
   rw[hw1]
   refine⟨hb2,HK (by rw[HH];omega),Q9 w,Il _,by omega,Q9 w,by decide,by show((0+1:Nat):Int)<=_;rw[HH];omega,LM w (by omega) 0 hpos,fun τ=>Aqm _ τ rfl,by simp,fun y hy=>by rw[HY.1 hy];rfl,⟨by decide,by decide⟩,rfl,by rw[HH],rfl,rfl,rfl,⟨g3⟩⟩
theorem WC(w:List Int):I (FW w)<=12/\∀v∈FW w,I v<=12:=by
 grind[FW,Qu,L4,JE,OY,ET]
end Go.Proofs.YtkkplhjidondkaaGreat

namespace Go.Proofs.YtkkplhjidondkaaGreat
open Go.Dv Go.Nv
set_option maxRecDepth 20000
open List (take)
open Go.IntKind (u64)
open Go.IntKind renaming wrap → yu, i64 → yt
open List renaming length → I, map → U, drop → W
open Option renaming some → G
open Bool renaming true → J, false → O
open Decidable renaming decide → Y
open Int renaming toNat → Z
open Go.Dv.V renaming list → ai, str → ae, agg → ab, int → aa, ref → bz, fn → bw, nils → bv, bool → bu
open Go.Dv.D renaming v → bt, acc → br, ptr → bq, arr → bo, gro → bm, tup → bk, undef → bj, dagg → bi
open Go.Dv.St renaming mk → bh
open Go.Dv.KI renaming blk → bf
open _root_.ByteArray renaming mk → bc
open Go renaming Operand → x8, Program → x7, TypeId → x6, World → x5, Value → yz, Oper → yy, FuncId → yx, Func → yw, IntKind → yv
theorem OW(k:Nat)(h:k<=1000000):yt.wrap ((k:Int)+1)=((k+1:Nat):Int):=by grind[Ak]
theorem DG{l:List Int}{x r:Int}(_:0<=x)(h:l[x.toNat]?=G r):(l.map vi)[Z x]?=G (vi r):=by grind
noncomputable abbrev AoZ:=Tryz.f292
theorem AaB(x:Int):F0 292 [di x] (db (Y (x<0)||Y (x>=6))):=by
 exact sv AoZ 9 [] (.b .r .r) ((Y (x<0)=J->db J=db (Y (x<0)||Y (x>=6)))/\(Y (x<0)=O->db (Y (x>=6))=db (Y (x<0)||Y (x>=6)))) ⟨fun h=>by grind,fun h=>by grind⟩
noncomputable abbrev Apa:=Tryz.f284
def ud(rk:List Int):Bool:=Y ((I rk:Int)>=1)&&(Y ((I rk:Int)<=6)&& !(rk.any fun x=>Y (x<0)||Y (x>=6)))
theorem Afd(rk:List Int)(hr:I rk<=1000):F0 284 [cx rk] (db (ud rk)):=by
 rw[ud]
 by_cases h:Y ((I rk:Int)>=1)=J
 ·rw[h,Is]
  by_cases h2:Y ((I rk:Int)<=6)=J
  ·rw[h2,Is]
   exact sv Apa 16 [] (.t<|.t<|.c (db (rk.any fun x=>Y (x<0)||Y (x>=6))) .r) (Y ((I (U vi rk):Int)>=1)=J/\Y ((I (U vi rk):Int)<=6)=J/\_/\(db !List.any rk fun x=>Y (x<0)||Y (x>=6))=db !List.any rk fun x=>Y (x<0)||Y (x>=6)) ⟨by rw[HH];exact h,by rw[HH];exact h2,Di 292 [] [] (fun x=>Y (x<0)||Y (x>=6)) rk (by omega) (fun x _=>AaB x),rfl⟩
  ·rw[HU h2,Iq]
   exact sv Apa 16 [] (.t<|.f .r) (Y ((I (U vi rk):Int)>=1)=J/\Y ((I (U vi rk):Int)<=6)=O/\Q (db O)) ⟨by rw[HH];exact h,by rw[HH];exact HU h2,rfl⟩
 ·rw[HU h,Iq]
  exact sv Apa 16 [] (.f .r) (Y ((I (U vi rk):Int)>=1)=O/\Q (db O)) ⟨by rw[HH];exact HU h,rfl⟩
noncomputable abbrev AoW:=Tryz.f285
theorem Aa3(rk:List Int)(x:Int):F0 285 [di x,.v (.ref (cw rk))] (db (Y (x<0)||Y (x>=I rk))):=by
 exact sv AoW 12 [] (.b .r .r) ((Y (x<0)=J->db J=db (Y (x<0)||Y (x>=(I rk:Int))))/\(Y (x<0)=O->db (Y (x>=(I (U vi rk):Int)))=db (Y (x<0)||Y (x>=(I rk:Int))))) ⟨fun h=>by grind,fun h=>by grind⟩
noncomputable abbrev AoX:=Tryz.f261
def pb(rk w:List Int):Bool:=ud rk&&(Y ((I w:Int)<=12)&& !(w.any fun x=>Y (x<0)||Y (x>=I rk)))
theorem Afa(rk w:List Int)(hr:I rk<=1000)(hw:I w<=1000):F0 261 [cx rk,cx w] (db (pb rk w)):=by
 have hb:=Afd rk hr
 rw[pb]
 cases hv:ud rk with
 |false=>
  rw[hv] at hb
  exact sv AoX 18 [2] (.c (db O) .r) (_/\db O=db (false&&(Y ((I w:Int)<=12)&& !List.any w fun x=>Y (x<0)||Y (x>=(I rk:Int))))) ⟨hb,rfl⟩
 |true=>
  rw[hv] at hb
  rw[Is]
  by_cases h:Y ((I w:Int)<=12)=J
  ·rw[h,Is]
   exact sv AoX 18 [2] (.c (db J)<|.k<|.t<|.c (db (w.any fun x=>Y (x<0)||Y (x>=I rk))) .r) (_/\Y ((I (U vi w):Int)<=12)=J/\_/\(db !List.any w fun x=>Y (x<0)||Y (x>=(I rk:Int)))=db !List.any w fun x=>Y (x<0)||Y (x>=(I rk:Int))) ⟨hb,by rw[HH];exact h,Di 285 [] [.ref (cw rk)] (fun x=>Y (x<0)||Y (x>=I rk)) w (by omega) (fun x _=>Aa3 rk x),rfl⟩
  ·rw[HU h,Iq]
   exact sv AoX 18 [2] (.c (db J)<|.k<|.f .r) (_/\Y ((I (U vi w):Int)<=12)=O/\Q (db O)) ⟨hb,by rw[HH];exact HU h,rfl⟩
theorem NV{rk w:List Int}(hv:pb rk w=J):I w<=12/\∀x∈w,0<=x/\x<I rk:=by
 grind[pb]
noncomputable abbrev nn:=Tryz.f288
noncomputable def Wp:=yl nn
def pc(rk w:List Int)(i:Nat):Bool:=Y (rk.getD (w.getD i 0).toNat 0<=rk.getD (w.getD (i+1) 0).toNat 0)
def Cx(rk w:List Int)(k:Nat):List (List Int):=((List.range k).filter (pc rk w)).map (fd w)
theorem M2{rk w:List Int}{k:Nat}(h:pc rk w k=J):Cx rk w (k+1)=Cx rk w k++[w.take k++w.drop (k+1)]:=by grind[Cx,List.range_succ,fd]
theorem P0{rk w:List Int}{k:Nat}(h:pc rk w k=O):Cx rk w (k+1)=Cx rk w k:=by grind[Cx,List.range_succ]
theorem M3(rk w:List Int)(k:Nat):I (Cx rk w k)<=k:=by
 grind[Cx]
theorem P1{rk w:List Int}(hw:I w<=12){k:Nat}{v:List Int}(h:v∈Cx rk w k):I v<=12:=by
 obtain⟨i,_,rfl⟩:=I2.1 h
 grind[PS]
theorem Ajj{rk w:List Int}{k:Nat}{x y rx ry:Int}(h1:w[k]?=G x)(h2:w[k+1]?=G y)(h3:rk[x.toNat]?=G rx)(h4:rk[y.toNat]?=G ry):pc rk w k=Y (rx<=ry):=by
 grind[pc]
def Gg(rk w:List Int):List (List Int):=if pb rk w=J then CB (Cx rk w (I w-1)) else[]
theorem Xj(rk w:List Int):I (Gg rk w)<=12/\∀v∈Gg rk w,I v<=12:=by
 grind[Gg,NV,L4,M3,P1,ET]
noncomputable abbrev fz:=fun (a₀:Nat)=>(yt,(a₀:Int))
noncomputable abbrev po:=fun a₀=>[ke 0,ke 1,ke 5,ch 6 (di (a₀+1:Nat))]
noncomputable abbrev wj:=[kl Wp gb,bf 0,kc Wp [1,1,1,1]]
theorem Afh(rk w:List Int)(hw:I w<=12)(hx:∀x∈w,0<=x/\x<I rk)(n:Nat):∀(k m:Nat) (outs:List (List Int)),I w-k=n->I outs=m+1->k+1<=I w->outs=Cx rk w k->
  Rn PP nn 0 (dl ((CB (Cx rk w (I w-1))).map cw)) ba ([kl Wp [1,1,1,0,1,0,0],.blk 0,kc Wp [1,1,1,1]]++[]) (cy 50 [(0,cx rk),(1,cx w),(5,.gro 0 (m+1) 1),(6,di k)]) ⟨[G (Ab (outs.map cw))],[]⟩:=by
 induction n using Nat.strongRecOn with
 |_ n ih=>
 intro k m outs hn ho hkw houts
 have hm:=M3 rk w k
 rw[←houts,ho] at hm
 by_cases hk:k+1<I w
 ·obtain⟨x,hx1⟩:=yk (show k<I w by omega)
  obtain⟨y,hy1⟩:=yk (show k+1<I w by omega)
  have bx:=hx x (HO hx1)
  have bY:=hx y (HO hy1)
  obtain⟨rx,hrx⟩:=yk (show x.toNat<I rk by omega)
  obtain⟨ry,hry⟩:=yk (show y.toNat<I rk by omega)
  have hpc:=Ajj hx1 hy1 hrx hry
  by_cases hc:Y (rx<=ry)=J
  ·have g3:=ih (I w- (k+1)) (by omega) (k+1) (m+1) (outs++[w.take k++w.drop (k+1)]) rfl (by simp[ho]) (by omega) (by rw[houts];exact(M2 (hpc.trans hc)).symm)
   generalize CB (Cx rk w (I w-1))=ws at g3⊢
   clear houts
   refine lv 50 [] (.t<|.x (vi x)<|.x (vi rx)<|.x (vi y)<|.x (vi ry)<|.t<|.c (cx (w.take k++w.drop (k+1)))<|.lo [ke 0,ke 1,ch 5 (.gro 1 (m+1+1) 1),ch 6 (di (k+1:Nat))] ⟨[none,G (Ab ((outs++[w.take k++w.drop (k+1)]).map cw))],[]⟩) (Y (yu yt ((k:Int)+1)<(I (U vi w):Int))=J/\0<=(k:Int)/\(U vi w)[Z (k:Int)]?=G (vi x)/\0<=x/\(U vi rk)[Z x]?=G (vi rx)/\0<=yu yt ((k:Int)+1)/\(U vi w)[Z (yu yt ((k:Int)+1))]?=G (vi y)/\0<=y/\(U vi rk)[Z y]?=G (vi ry)/\Y (rx<=ry)=J/\(∀(x:V),x∈U vi w->V.size x=1)/\0<=(fun x=>x.snd) (fz k)/\(fun x=>x.snd) (fz k)<=(I (U vi w):Int)/\(∀(x:V),x∈U vi w->V.size x=1)/\0<=(fun x=>x.snd) (yt,yu yt ((k:Int)+1))/\(fun x=>x.snd) (yt,yu yt ((k:Int)+1))<=(I (U vi w):Int)/\F0 293 [bt (ai [ai (W 0 (take (Z ((fun x=>x.snd) (fz k))) (U vi w))),ai (W (Z ((fun x=>x.snd) (yt,yu yt ((k:Int)+1)))) (take (I (U vi w)) (U vi w)))])] (cx (take k w++W (k+1) w))/\I (fb outs)=(m+1)*1/\[cw (take k w++W (k+1) w)]≠ []/\(∀(y:V),y∈ [cw (take k w++W (k+1) w)]->V.size y=1)/\Ao (m+1+I (cw (take k w++W (k+1) w)::nV)) 24/\bm 1 (m+1+I (cw (take k w++W (k+1) w)::nV)) 1=bm 1 (m+1+1) 1/\di (yu yt ((k:Int)+1))=di (↑(k+1):Int)/\cm 2 [] [none,G (Ab (U cw outs)++[bt (cw (take k w++W (k+1) w))])]=J/\[none,G (Ab (U cw outs)++[bt (cw (take k w++W (k+1) w))])]=[none,G (Ab (U cw (outs++[take k w++W (k+1) w])))]/\I0 nn 0 (dl (U cw ws)) ba wj (cy 50 [(0,cx rk),(1,cx w),(5,bm 1 (m+1+1) 1),(6,di (↑(k+1):Int))]) (bh [none,G (Ab (U cw (outs++[take k w++W (k+1) w])))] [])) ?_
   rw[OW k (by omega),Om]
   refine⟨HK (by rw[HH];omega),by omega,Am hx1,bx.1,DG bx.1 hrx,by omega,Am hy1,bY.1,DG bY.1 hry,hc,Q9 w,by show(0:Int)<=(k:Int);omega,by show(k:Int)<=_;rw[HH];omega,Q9 w,by show(0:Int)<=((k+1:Nat):Int);omega,by show((k+1:Nat):Int)<=_;rw[HH];omega,LM w (by omega) k (by omega),by rw[Qk,ho],by simp,fun y hy=>by rw[HY.1 hy];rfl,⟨by simp only[HN,HR];omega,by simp only[HN,HR];omega⟩,rfl,rfl,?_,rfl,⟨?_⟩⟩
   ·simp[cm,Aj]
   ·refine E6 (H0:=[none]) (fun E0 E h=>h.2) 1 rfl (fun cs hc=>?_) ?_ ?_ g3
    ·simp at hc;rw[hc];exact Ay _
    ·simp[cy,D.okNs,D.okN]
    ·simp[cy,D.rens,D.ren]
  ·have g3:=ih (I w- (k+1)) (by omega) (k+1) m outs rfl ho (by omega) (by rw[houts];exact(P0 (hpc.trans (HU hc))).symm)
   generalize CB (Cx rk w (I w-1))=ws at g3⊢
   clear houts
   refine lv 50 [] (.t<|.x (vi x)<|.x (vi rx)<|.x (vi y)<|.x (vi ry)<|.f<|.lo (po k) ⟨[G (Ab (outs.map cw))],[]⟩) (Y (yu yt ((k:Int)+1)<(I (U vi w):Int))=J/\0<=(k:Int)/\(U vi w)[Z (k:Int)]?=G (vi x)/\0<=x/\(U vi rk)[Z x]?=G (vi rx)/\0<=yu yt ((k:Int)+1)/\(U vi w)[Z (yu yt ((k:Int)+1))]?=G (vi y)/\0<=y/\(U vi rk)[Z y]?=G (vi ry)/\Y (rx<=ry)=O/\di (yu yt ((k:Int)+1))=di (↑(k+1):Int)/\cm 1 [] [G (fb outs)]=J/\Q [G (fb outs)]/\I0 nn 0 (dl (U cw ws)) ba wj (cy 50 [(0,cx rk),(1,cx w),(5,bm 0 (m+1) 1),(6,di (↑(k+1):Int))]) (ky outs)) ?_
   rw[OW k (by omega)]
   exact⟨HK (by rw[HH];omega),by omega,Am hx1,bx.1,DG bx.1 hrx,by omega,Am hy1,bY.1,DG bY.1 hry,HU hc,rfl,Ia.2 ⟨Aj 1 [] _,rfl⟩,rfl,⟨g3⟩⟩
 ·have hlen:I (sortW outs)=I outs:=(DH outs).length_eq
  have hs:∀v∈outs,I v<=12:=fun v hv=>by rw[houts] at hv;exact P1 hw hv
  obtain⟨R,h3,h5,h4⟩:=Aix 259 (sortW outs) pt (by omega) (fun x hx y hy=>Er x y (by have:=hs x ((DH outs).mem_iff.1 hx);omega))
  rw[hlen,ho] at h4
  rw[show I w-1=k by omega, ←houts]
  obtain⟨ys,hys⟩:∃ys,ys=CB outs:=⟨_,rfl⟩
  rw[show AM pt (sortW outs)=CB outs from rfl, ←hys] at h4
  rw[←hys]
  refine lv 50 [] (.f<|.h (.q 9 0)<|.h (.ga 5)<|.h (.oc (.tup []) ⟨[G (Ab ((sortW outs).map cw))],[]⟩)<|.h (.oc (.arr 0 0 (I ys)) ⟨[G (Ab (ys.map cw)++R)],[]⟩)<|.h (.q 10 2)<|.h (.ct 49 (dl (ys.map cw)) ⟨[none],[]⟩) .r) (Y (yu yt ((k:Int)+1)<(I (U vi w):Int))=O/\(N0 [bt (bw 294 [] []),bo 0 0 (m+1),bt Awg] (ky outs) (bk []) (wk outs))/\(N0 [bt (bw 296 [] []),bo 0 0 (m+1),bt Awj] (wk outs) (bo 0 0 (I ys)) (mg ys R))/\(∀(e:List D),e[49]?=G (bo 0 0 (I ys))->∀(E:cd) (g:Gh) (a:Act) (w:x5),FI E g (mg ys R) e a w->∃g',FI E g' (bh [none] []) (List.set e 49 (dl (U cw ys))) a w)/\bt (lb ys)=dl (U cw ys)) ?_
  rw[OW k (by omega)]
  have hsp:=NO TZ outs (by omega) (fun v hv=>by have:=hs v hv;omega)
  rw[ho] at hsp
  refine⟨HM (by rw[HH];omega),fun o cl fo hop hc=>?_,fun o cl fo hop hc=>?_,fun e he=>?_,rfl⟩
  ·exact Dw (H:=[Ab (outs.map cw)]) hop hc (fs:=[]) (cs:=[]) (ds:=[.arr 0 0 (m+1),dfn 295]) rfl hsp rfl (fun cs hm=>by rw[HY.1 hm];exact⟨Aj _ _ _,NC _⟩) rfl (Ia.2 ⟨Aj _ _ _,rfl⟩) (HP _)
  ·exact Dw (H:=[Ab ((sortW outs).map cw)]) hop hc (fs:=[]) (cs:=[]) (ds:=[.arr 0 0 (m+1),dfn 259]) rfl h4 rfl (fun cs hm=>by rw[HY.1 hm];exact⟨Aj _ _ _,NC _⟩) rfl (Ia.2 ⟨AO (NB _ h3),rfl⟩) (HP _)
  ·exact T9 (σ:=⟨[G (Ab (ys.map cw)++R)],[]⟩) (q:=0) (sz:=1) (rest:=R) (by decide) (fun x hx=>by obtain⟨y,_,rfl⟩:=I2.1 hx;rfl) (by rw[HH]) rfl he
theorem AaG(rk w:List Int)(hw:I w<=12)(hx:∀x∈w,0<=x/\x<I rk)(n:Nat):∀(k:Nat),I w-k=n->(k=0∨k+1<=I w)->Cx rk w k=[]->
  Rn PP nn 0 (dl ((CB (Cx rk w (I w-1))).map cw)) ba ([kl Wp [1,1,1,0,1,0,0],.blk 0,kc Wp [1,1,1,1]]++[]) (cy 50 [(0,cx rk),(1,cx w),(5,.v .nils),(6,di k)]) ba:=by
 induction n using Nat.strongRecOn with
 |_ n ih=>
 intro k hn hkw houts
 by_cases hk:k+1<I w
 ·obtain⟨x,hx1⟩:=yk (show k<I w by omega)
  obtain⟨y,hy1⟩:=yk (show k+1<I w by omega)
  have bx:=hx x (HO hx1)
  have bY:=hx y (HO hy1)
  obtain⟨rx,hrx⟩:=yk (show x.toNat<I rk by omega)
  obtain⟨ry,hry⟩:=yk (show y.toNat<I rk by omega)
  have hpc:=Ajj hx1 hy1 hrx hry
  by_cases hc:Y (rx<=ry)=J
  ·have g3:=Afh rk w hw hx (I w- (k+1)) (k+1) 0 [w.take k++w.drop (k+1)] rfl rfl (by omega) (by grind[M2])
   generalize CB (Cx rk w (I w-1))=ws at g3⊢
   refine lv 50 [] (.t<|.x (vi x)<|.x (vi rx)<|.x (vi y)<|.x (vi ry)<|.t<|.c (cx (w.take k++w.drop (k+1)))<|.h (.p (.v (.list [cw (w.take k++w.drop (k+1))])))<|.h .g<|.lo [ke 0,ke 1,ch 5 (.gro 0 1 1),ch 6 (di (k+1:Nat))] ⟨[G (Ab ([w.take k++w.drop (k+1)].map cw))],[]⟩) (Y (yu yt ((k:Int)+1)<(I (U vi w):Int))=J/\0<=(k:Int)/\(U vi w)[Z (k:Int)]?=G (vi x)/\0<=x/\(U vi rk)[Z x]?=G (vi rx)/\0<=yu yt ((k:Int)+1)/\(U vi w)[Z (yu yt ((k:Int)+1))]?=G (vi y)/\0<=y/\(U vi rk)[Z y]?=G (vi ry)/\Y (rx<=ry)=J/\(∀(x:V),x∈U vi w->V.size x=1)/\0<=(fun x=>x.snd) (fz k)/\(fun x=>x.snd) (fz k)<=(I (U vi w):Int)/\(∀(x:V),x∈U vi w->V.size x=1)/\0<=(fun x=>x.snd) (yt,yu yt ((k:Int)+1))/\(fun x=>x.snd) (yt,yu yt ((k:Int)+1))<=(I (U vi w):Int)/\F0 293 [bt (ai [ai (W 0 (take (Z ((fun x=>x.snd) (fz k))) (U vi w))),ai (W (Z ((fun x=>x.snd) (yt,yu yt ((k:Int)+1)))) (take (I (U vi w)) (U vi w)))])] (cx (take k w++W (k+1) w))/\(∀(τ:St),Ai PP (Oper.mk (G 44) (Op.buildSlice 182 1 #[(0,Operand.tmp 43)]) 182 "priority.go:29" #[Edge.mk 9 Ground.data] none) [cx (take k w++W (k+1) w)] τ (bt (ai [cw (take k w++W (k+1) w)])) τ)/\[cw (take k w++W (k+1) w)]≠ []/\(∀(y:V),y∈ [cw (take k w++W (k+1) w)]->V.size y=1)/\Ao 1 24/\Q (bm 0 1 1)/\di (yu yt ((k:Int)+1))=di (↑(k+1):Int)/\cm 1 [] [G [bt (cw (take k w++W (k+1) w))]]=J/\Q [G [bt (cw (take k w++W (k+1) w))]]/\I0 nn 0 (dl (U cw ws)) ba wj (cy 50 [(0,cx rk),(1,cx w),(5,bm 0 1 1),(6,di (↑(k+1):Int))]) (bh [G [bt (cw (take k w++W (k+1) w))]] [])) ?_
   rw[OW k (by omega)]
   exact⟨HK (by grind),by omega,Am hx1,bx.1,DG bx.1 hrx,by omega,Am hy1,bY.1,DG bY.1 hry,hc,Q9 w,by grind,by grind,Q9 w,by grind,by grind,LM w (by omega) k (by omega),fun τ=>Aqm _ τ rfl,by simp,fun y hy=>by rw[HY.1 hy];rfl,⟨by decide,by decide⟩,rfl,rfl,rfl,rfl,⟨g3⟩⟩
  ·have g3:=ih (I w- (k+1)) (by omega) (k+1) rfl (by omega) (by grind[P0])
   generalize CB (Cx rk w (I w-1))=ws at g3⊢
   refine lv 50 [] (.t<|.x (vi x)<|.x (vi rx)<|.x (vi y)<|.x (vi ry)<|.f<|.l (po k)) (Y (yu yt ((k:Int)+1)<(I (U vi w):Int))=J/\0<=(k:Int)/\(U vi w)[Z (k:Int)]?=G (vi x)/\0<=x/\(U vi rk)[Z x]?=G (vi rx)/\0<=yu yt ((k:Int)+1)/\(U vi w)[Z (yu yt ((k:Int)+1))]?=G (vi y)/\0<=y/\(U vi rk)[Z y]?=G (vi ry)/\Y (rx<=ry)=O/\di (yu yt ((k:Int)+1))=di (↑(k+1):Int)/\I0 nn 0 (dl (U cw ws)) ba wj (cy 50 [(0,cx rk),(1,cx w),(5,dn),(6,di (↑(k+1):Int))]) d7) ?_
   rw[OW k (by omega)]
   exact⟨HK (by grind),by omega,Am hx1,bx.1,DG bx.1 hrx,by omega,Am hy1,bY.1,DG bY.1 hry,HU hc,rfl,⟨g3⟩⟩
 ·have e:CB (Cx rk w (I w-1))=[]:=by
   rw[show Cx rk w (I w-1)=[] by rw[show I w-1=k by omega];omega]
   simp[CB,sortW,AM]
  rw[e]
  refine Abs mixed 50 [] (.f<|.c (.tup [])<|.c (dl []) .r) ?_
  refine⟨?_,QB,Adu _,rfl⟩
  rw[HH,OW k (by omega)];grind
theorem Afg(rk w:List Int)(hr:I rk<=1000)(hw:I w<=1000):F0 288 [cx rk,cx w] (dl ((Gg rk w).map cw)):=by
 have hb2:=Afa rk w hr hw
 unfold Gg
 cases hv:pb rk w with
 |false=>
  rw[hv] at hb2
  rw[HZ (by decide)]
  exact sv nn 50 [] (.c (db O) .r) (_/\Q (bt (ai []))) ⟨hb2,rfl⟩
 |true=>
  rw[hv] at hb2
  rw[Ie rfl]
  obtain⟨h12,hx⟩:=NV hv
  have g3:=AaG rk w h12 hx _ 0 rfl (.inl rfl) rfl
  generalize CB (Cx rk w (I w-1))=ws at g3⊢
  exact sv nn 50 [] (.c (db J)<|.k<|.l [ke 0,ke 1,ke 5,ch 6 (di (0:Nat))]) (_/\Q (di 0)/\_) ⟨hb2,rfl,iK g3⟩
def Gv(L:Int)(v:b9):Prop:=∃ks:List Int,I ks<=2/\(∀x∈ks,0<=x/\x<L)/\v=.mk 0 (ks.map fun x=>.mk x [])
theorem Gv.size{L:Int}{v:b9}(h:Gv L v):v.size<=3:=by
 obtain⟨ks,h1,_,rfl⟩:=h
 grind[b9.size,JJ]
theorem Acp{H:List (Option (List D))}{own:List (Nat×Nat×List V)}{q tag:Nat}{xs:List V}(hq:H[q]?=G (G [di 0,.acc tag xs]))(e:List D):Cv e ⟨H,own⟩ e ⟨H.set q (G [di 0,dl xs]),own⟩:=
 D0 (σ:=⟨H,own⟩) (q:=q) hq (fun g us hr=>by
  have:=D7 (ts:=[]) (kn:=false) hr
  exact this) (fun _ x hx=>by
  simp only[Iz,Jr,or_false] at hx
  rcases hx with rfl|rfl<;>rfl) e
theorem Ag6{H:List (Option (List D))}{own:List (Nat×Nat×List V)}{q:Nat}(hq:H[q]?=G (G [di 0,.v .nils]))(e:List D):Cv e ⟨H,own⟩ e ⟨H.set q (G [di 0,dl []]),own⟩:=
 D0 (σ:=⟨H,own⟩) (q:=q) hq (fun g us hr=>by
  have:=D7 (ts:=[]) (kn:=false) hr
  exact this) (fun _ x hx=>by
  simp only[Iz,Jr,or_false] at hx
  rcases hx with rfl|rfl<;>rfl) e
theorem KU(os:List b9)(v:b9):os.map eV++[Ac v]=(os++[v]).map eV:=by grind[AH]
noncomputable abbrev sp:=Tryz.f25
noncomputable def px:=yl sp
abbrev mr(l:List UInt8)(a:Nat)(os:List b9):St:=⟨[G (co l a)],[(1,2,os.map eV)]⟩
noncomputable abbrev ip:=(aa yt 0)
noncomputable abbrev w7:=fun a₀=>[ab [aa yt a₀,ai []]]
noncomputable abbrev Aua:=fun (a₀:Nat) b₀ c₀ d₀ (e₀:Nat)=>(cy 40 [jx,(1,di (a₀:Int)),(2,di b₀),(3,di 2),(9,br 1 (U eV (c₀++[d₀]))),(10,di (↑(e₀+1):Int))])
noncomputable abbrev Aug:=fun a₀ b₀ c₀ d₀ e₀=>Aa PP 14 [bq 0 0,di a₀] (dz b₀ c₀) (di d₀) (dz b₀ e₀)
theorem AdH(l:List UInt8)(hl:I l<=200)(n:Nat)(hn:n<=100)(L:Int)(hL:1<=L)(hL2:L<=100)(N:Nat):∀(k a:Nat) (os:List b9),n-k=N->k<=n->a<=I l->I os=k->(∀y∈os,Gv L y)->
  ∃(ys:List b9) (a':Nat),a'<=I l/\ys.length=n/\(∀y∈ys,Gv L y)/\
  Rn PP sp 1 (cq ys) (dz l a') ([kl px [1,1,0,1,0,0],.blk 0,kc px [1,1,1]]++[]) (cy 40 [(0,.ptr 0 0),(1,di n),(2,di L),(3,di 2),(9,.acc 1 (os.map eV)),(10,di k)]) (mr l a os):=by
 induction N with
 |zero=>
  intro k a os hk hk0 ha hx hos
  refine⟨os,a,ha,by omega,hos,?_⟩
  exact lv 40 [] (.f .r) (Y ((k:Int)<(n:Int))=O/\Q [G (co l a)]/\Q (cq os)) ⟨yq,rfl,rfl⟩
 |succ N ih=>
  intro k a os hk hk0 ha hx hos
  obtain⟨r,a1,h1,h2,h3,h4⟩:=A5 l hl a ha 3 (by decide) (by decide)
  have hmem:∀(w:b9),Gv L w->∀y∈os++[w],Gv L y:=fun w hw y hy=>by
   rcases I6.1 hy with hy|hy
   ·exact hos y hy
   ·rw[HY.1 hy];exact hw
  have hkn:Y ((k:Int)<n)=J:=yr
  rcases(show r=0∨r=1∨r=2 by omega) with rfl|rfl|rfl
  ·obtain⟨w,hw⟩:∃w:b9,w=.mk 0 []:=⟨_,rfl⟩
   obtain⟨ys,a',y1,y2,y3,y4⟩:=ih (k+1) a1 (os++[w]) (by omega) (by omega) h3 (by simp[hx]) (hmem _ ⟨[],by simp,by simp,hw⟩)
   refine⟨ys,a',y1,y2,y3,?_⟩
   refine lv 40 [] (.t<|.c1 (co l a1) (di 0)<|.n<|.h (.q 10 1)<|.h (.cs ⟨[G (co l a1),G [di 0,dl []]],[(1,2,os.map eV)]⟩)<|.ls [ke 0,ke 1,ke 2,ke 3,ch 9 (.acc 1 ((os++[w]).map eV)),ch 10 (di (k+1:Nat))] (mr l a1 (os++[w]))) (Y ((k:Int)<(n:Int))=J/\Aa PP 14 [bq 0 0,di (yu yt (2+1))] (dz l a) (di 0) (dz l a1)/\(∀(e:List D) (E:cd) (g:Gh) (a:Act) (w:x5),FI E g (bh [G (co l a1),G [bt ip,dn]] [(1,2,U eV os)]) e a w->∃g',FI E g' (bh [G (co l a1),G [di 0,dl []]] [(1,2,U eV os)]) e a w)/\Q (U eV os)/\Ao (I (U eV os)+I (ab (aa yt 0::ai nV::nV)::nV)) 32/\br 1 (U eV os++[ab [vi 0,ai []]])=br 1 (U eV (os++[w]))/\di (yu yt ((k:Int)+1))=di (↑(k+1):Int)/\Q [G (co l a1)]/\[(1,2,U eV os++ab (vi 0::ai nV::nV)::nV)]=[(1,2,U eV (os++[w]))]/\I0 sp 1 (cq ys) (dz l a') [kl px ee,bf 0,kc px [1,1,1]] (Aua n L os w k) (mr l a1 (os++[w]))) ?_
   have hv:ab [vi 0,.list []]=Ac w:=by rw[hw];rfl
   rw[show yt.wrap (2+1)=3 from by decide]
   repeat' first|with_reducible refine And.intro ?_ ?_
   all_goals first|exact hkn|exact h4|exact Ae|exact⟨y4⟩|(simp only[HH,HN,HR];omega)|rfl|trivial|skip
   ·exact fun e=>Ag6 (H:=[G (co l a1),G [di 0,.v .nils]]) (own:=[(1,2,os.map eV)]) (q:=1) rfl e
   ·exact Ih (br 1) ((Ih (fun z=>os.map eV++[z]) hv).trans (KU os w))
   ·exact Ih (fun z=>[(1,2,z)]) ((Ih (fun z=>os.map eV++[z]) hv).trans (KU os w))
  ·obtain⟨x1,a2,x11,x12,x13,x14⟩:=A5 l hl a1 h3 L hL (by omega)
   obtain⟨w,hw⟩:∃w:b9,w=.mk 0 [.mk x1 []]:=⟨_,rfl⟩
   obtain⟨ys,a',y1,y2,y3,y4⟩:=ih (k+1) a2 (os++[w]) (by omega) (by omega) x13 (by simp[hx]) (hmem _ ⟨[x1],by simp,by simp[x11,x12],hw⟩)
   refine⟨ys,a',y1,y2,y3,?_⟩
   refine lv 40 [] (.t<|.c1 (co l a1) (di 1)<|.h (.q 6 4)<|.h (.cl 1 1 2 2)<|.n<|.m (.acc 2 [])<|.c1 (co l a2) (di x1)<|.n<|.h (.q 10 1)<|.h (.cs ⟨[G (co l a2),G [di 0,dl [eV (.mk x1 [])]]],[(2,2,[eV (.mk x1 [])]),(1,2,os.map eV)]⟩)<|.ls [ke 0,ke 1,ke 2,ke 3,ch 9 (.acc 1 ((os++[w]).map eV)),ch 10 (di (k+1:Nat))] (mr l a2 (os++[w]))) (Y ((k:Int)<(n:Int))=J/\Aa PP 14 [bq 0 0,di (yu yt (2+1))] (dz l a) (di 1) (dz l a1)/\Q (G (br 2 []))/\Aug L l a1 x1 a2/\Q nV/\Ao 1 32/\((Q (G [br 2 []])/\True)/\True)/\(∀(e:List D) (E:cd) (g:Gh) (a:Act) (w:x5),FI E g (bh [G (co l a2),G [bt ip,br 2 ([]++(w7 x1))]] [(2,2,[]++(w7 x1)),(1,2,U eV os)]) e a w->∃g',FI E g' (bh [G (co l a2),G [di 0,dl [eV (ey x1)]]] [(2,2,[eV (ey x1)]),(1,2,U eV os)]) e a w)/\Q (U eV os)/\Ao (I (U eV os)+I (ab (aa yt 0::ai (eV (ey x1)::nV)::nV)::nV)) 32/\br 1 (U eV os++[ab [vi 0,ai [eV (ey x1)]]])=br 1 (U eV (os++[w]))/\di (yu yt ((k:Int)+1))=di (↑(k+1):Int)/\Q [G (co l a2)]/\[(1,2,U eV os++ab (vi 0::ai (eV (ey x1)::nV)::nV)::nV)]=[(1,2,U eV (os++[w]))]/\I0 sp 1 (cq ys) (dz l a') [kl px ee,bf 0,kc px [1,1,1]] (Aua n L os w k) (mr l a2 (os++[w]))) ?_
   have hv:ab [vi 0,.list [eV (.mk x1 [])]]=Ac w:=by rw[hw];rfl
   rw[show yt.wrap (2+1)=3 from by decide]
   repeat' first|with_reducible refine And.intro ?_ ?_
   all_goals first|exact hkn|exact h4|exact x14|exact Of (by decide) (by decide)|exact⟨by decide,by decide⟩|exact Ae|exact⟨y4⟩|(simp only[HH,HN,HR];omega)|rfl|trivial|skip
   ·exact fun e=>Acp (H:=[G (co l a2),G [di 0,.acc 2 [eV (.mk x1 [])]]]) (own:=[(2,2,[eV (.mk x1 [])]),(1,2,os.map eV)]) (q:=1) rfl e
   ·exact Ih (br 1) ((Ih (fun z=>os.map eV++[z]) hv).trans (KU os w))
   ·exact Ih (fun z=>[(1,2,z)]) ((Ih (fun z=>os.map eV++[z]) hv).trans (KU os w))
  ·obtain⟨x1,a2,x11,x12,x13,x14⟩:=A5 l hl a1 h3 L hL (by omega)
   obtain⟨x2,a3,x21,x22,x23,x24⟩:=A5 l hl a2 x13 L hL (by omega)
   obtain⟨w,hw⟩:∃w:b9,w=.mk 0 [.mk x1 [],.mk x2 []]:=⟨_,rfl⟩
   obtain⟨ys,a',y1,y2,y3,y4⟩:=ih (k+1) a3 (os++[w]) (by omega) (by omega) x23 (by simp[hx]) (hmem _ ⟨[x1,x2],by simp,by simp[x11,x12,x21,x22],hw⟩)
   refine⟨ys,a',y1,y2,y3,?_⟩
   refine lv 40 [] (.t<|.c1 (co l a1) (di 2)<|.h (.q 6 4)<|.h (.cl 1 1 2 2)<|.n<|.m (.acc 2 [])<|.c1 (co l a2) (di x1)<|.n<|.m (.acc 2 [eV (.mk x1 [])])<|.c1 (co l a3) (di x2)<|.n<|.h (.q 10 1)<|.h (.cs ⟨[G (co l a3),G [di 0,dl [eV (.mk x1 []),eV (.mk x2 [])]]],[(2,2,[eV (.mk x1 []),eV (.mk x2 [])]),(1,2,os.map eV)]⟩)<|.ls [ke 0,ke 1,ke 2,ke 3,ch 9 (.acc 1 ((os++[w]).map eV)),ch 10 (di (k+1:Nat))] (mr l a3 (os++[w]))) (Y ((k:Int)<(n:Int))=J/\Aa PP 14 [bq 0 0,di (yu yt (2+1))] (dz l a) (di 2) (dz l a1)/\Q (G (br 2 []))/\Aug L l a1 x1 a2/\Q nV/\Ao 1 32/\((Q (G [br 2 []])/\True)/\True)/\G (br 2 [ab [vi x1,ai []]])=G (br 2 [eV (ey x1)])/\Aug L l a2 x2 a3/\ab (ib x1)::nV=eV (ey x1)::nV/\Ao 2 32/\((Q (G [br 2 [ab [vi x1,ai []]]])/\True)/\True)/\(∀(e:List D) (E:cd) (g:Gh) (a:Act) (w:x5),FI E g (bh [G (co l a3),G [bt ip,br 2 ([eV (ey x1)]++(w7 x2))]] [(2,2,[eV (ey x1)]++(w7 x2)),(1,2,U eV os)]) e a w->∃g',FI E g' (bh [G (co l a3),G [di 0,dl [eV (ey x1),eV (ey x2)]]] [(2,2,[eV (ey x1),eV (ey x2)]),(1,2,U eV os)]) e a w)/\Q (U eV os)/\Ao (I (U eV os)+I (ab (aa yt 0::ai (eV (ey x1)::eV (ey x2)::nV)::nV)::nV)) 32/\br 1 (U eV os++[ab [vi 0,ai [eV (ey x1),eV (ey x2)]]])=br 1 (U eV (os++[w]))/\di (yu yt ((k:Int)+1))=di (↑(k+1):Int)/\Q [G (co l a3)]/\[(1,2,U eV os++ab (vi 0::ai (eV (ey x1)::eV (ey x2)::nV)::nV)::nV)]=[(1,2,U eV (os++[w]))]/\I0 sp 1 (cq ys) (dz l a') [kl px ee,bf 0,kc px [1,1,1]] (Aua n L os w k) (mr l a3 (os++[w]))) ?_
   have hv:ab [vi 0,.list [eV (.mk x1 []),eV (.mk x2 [])]]=Ac w:=by rw[hw];rfl
   rw[show yt.wrap (2+1)=3 from by decide]
   repeat' first|with_reducible refine And.intro ?_ ?_
   all_goals first|exact hkn|exact h4|exact x14|exact x24|exact Of (by decide) (by decide)|exact⟨by decide,by decide⟩|exact Ae|exact⟨y4⟩|(simp only[HH,HN,HR];omega)|rfl|trivial|skip
   ·exact fun e=>Acp (H:=[G (co l a3),G [di 0,.acc 2 [eV (.mk x1 []),eV (.mk x2 [])]]]) (own:=[(2,2,[eV (.mk x1 []),eV (.mk x2 [])]),(1,2,os.map eV)]) (q:=1) rfl e
   ·exact Ih (br 1) ((Ih (fun z=>os.map eV++[z]) hv).trans (KU os w))
   ·exact Ih (fun z=>[(1,2,z)]) ((Ih (fun z=>os.map eV++[z]) hv).trans (KU os w))
theorem Ah9(l:List UInt8)(hl:I l<=200)(a:Nat)(ha:a<=I l)(n:Nat)(hn:n<=100)(L:Int)(hL:1<=L)(hL2:L<=100):
  ∃(ys:List b9) (a':Nat),a'<=I l/\ys.length=n/\(∀y∈ys,Gv L y)/\Aa PP 25 [.ptr 0 0,di n,di L,di 2] (dz l a) (cq ys) (dz l a'):=by
 obtain⟨ys,a',h1,h2,h3,h4⟩:=AdH l hl n hn L hL hL2 _ 0 a [] rfl (by omega) ha rfl (by simp)
 refine⟨ys,a',h1,h2,h3,?_⟩
 exact sv sp 40 [] (.h (.q 2 0)<|.h (.nw 9 1 2)<|.ls [ke 0,ke 1,ke 2,ke 3,ke 9,ch 10 (di (0:Nat))] (mr l a [])) (Q (di 0)/\Q (mr l a []).H/\Q [(1,2,nV)]/\_) ⟨rfl,rfl,rfl,iK h4⟩
abbrev sc:List (List UInt8):=[[114],[115],[116],[117]]
def ik(nm:List UInt8)(f t ch ac le:Int):cf:=⟨nm,f,t,[],[],[],ch,ac,le,[],[],[],[],0⟩
abbrev lM(K:Int)(S Pl Le:List (List UInt8))(rk:List Int)(rs:List cf):List D:=[di K,.v (cp S),.v (cp Pl),.v (cp Le),.v (cw rk),di 0,di 0,.acc 2 (rs.map Al),di 0,dl []]
abbrev jo(l:List UInt8)(a:Nat)(K:Int)(S Pl Le:List (List UInt8))(rk:List Int)(rs:List cf):St:=⟨[G (co l a),G zM,G (lM K S Pl Le rk rs)],[(2,14,rs.map Al)]⟩
structure OT(ns np nl:Nat)(k:Nat)(r:cf):Prop where
 name:sc[k]?=G r.name
 aj:0<=r.aj/\r.aj<ns
 to:0<=r.to/\r.to<ns
 act:r.act=0/\r.chan=0/\r.letter=0∨(1<=r.act/\r.act<=2)/\(0<=r.chan/\r.chan<np)/\(0<=r.letter/\r.letter<nl)
 rest:r=ik r.name r.aj r.to r.chan r.act r.letter
structure Gw(K:Int)(m:cz):Prop where
 kind:m.kind=K
 aw:∃n:Nat,1<=n/\n<=3/\m.aw=([[97],[98],[99]]:List (List UInt8)).take n
 ay:m.ay=[[120]]∨m.ay=[[120],[121]]
 ax:m.ax=[[112]]∨m.ax=[[112],[113]]
 au:if K=3 then I m.au=I m.ax/\∀x∈m.au,0<=x/\x<=1 else m.au=[]
 ao:m.ao=0
 age:m.age=0
 count:I m.av<=4
 pos:1<=I m.av
 av:∀k r,m.av[k]?=G r->OT (I m.aw) (I m.ay) (I m.ax) k r
 start:∃ys:List b9,I ys=I m.ay/\(∀y∈ys,Gv (I m.ax) y)/\m.start=.mk 0 (.mk 0 []::ys)
theorem AhV{ns np nl:Nat}{rs:List cf}{k:Nat}{nm:List UInt8}{f t chn ac le:Int}(hnm:sc[k]?=G nm)(hf:0<=f/\f<ns)(ht:0<=t/\t<ns)(ha:ac=0/\chn=0/\le=0∨(1<=ac/\ac<=2)/\(0<=chn/\chn<np)/\(0<=le/\le<nl))(hrs:I rs=k)(hR:∀i r,rs[i]?=G r->OT ns np nl i r):∀i r,(rs++[ik nm f t chn ac le])[i]?=G r->OT ns np nl i r:=fun i r hi=>by
 by_cases hik:i<I rs
 ·grind
 ·rw[Ib (by omega)] at hi
  have h1:i-I rs=0:=by
   grind
  rw[h1] at hi
  simp at hi;subst hi
  have hik2:i=k:=by omega
  subst hik2
  exact⟨hnm,hf,ht,ha,rfl⟩
noncomputable abbrev og:=Tryz.f16
noncomputable def py:=yl og
noncomputable abbrev Ar8:=fun a₀ b₀ c₀=>(ae a₀::vi b₀::vi c₀::ai nV::ai nV::ai nV::vi 0::vi 0::vi 0::ai nV::ai nV::ai nV::ai nV::vi 0::nV)
noncomputable abbrev Asa:=fun a₀ b₀ c₀ d₀ e₀=>Aa PP 14 [bq 0 0,di (I (df a₀):Int)] (dz b₀ c₀) (di d₀) (dz b₀ e₀)
noncomputable abbrev At5:=fun a₀ b₀ c₀=>(ab (ae a₀::aa yt b₀::aa yt c₀::ai nV::ai nV::ai nV::aa yt 0::aa yt 0::aa yt 0::ai nV::ai nV::ai nV::ai nV::aa yt 0::nV)::nV)
noncomputable abbrev At9:=fun a₀ b₀ c₀ d₀=>Aa PP 14 [bq 0 0,di 4] (dz a₀ b₀) (di c₀) (dz a₀ d₀)
noncomputable abbrev Avt:=[kl py gb,bf 0,kc py [1,1,1,1]]
theorem Wi(l:List UInt8)(hl:I l<=200)(K:Int)(S Pl Le:List (List UInt8))(rk:List Int)(hS:∃n:Nat,1<=n/\n<=3/\S=([[97],[98],[99]]:List (List UInt8)).take n)(hP:Pl=[[120]]∨Pl=[[120],[121]])(hLe:Le=[[112]]∨Le=[[112],[113]])(hrk:if K=3 then I rk=I Le/\∀x∈rk,0<=x/\x<=1 else rk=[])(n:Nat):∀(k a:Nat) (rs:List cf),4-k=n->a<=I l->k<=4->I rs=k->(∀i r,rs[i]?=G r->OT (I S) (I Pl) (I Le) i r)->
  ∃(m:cz) (a':Nat),Gw K m/\a'<=I l/\Rn PP og 1 (Ad m) (dz l a') ([kl py [1,1,1,0,1,0,0],.blk 0,kc py [1,1,1,1]]++[]) (cy 92 [(0,.ptr 0 0),(4,.ptr 1 0),(5,.ptr 2 0),(6,di k)]) (jo l a K S Pl Le rk rs):=by
 induction n using Nat.strongRecOn with
 |_ n ih=>
 intro k a rs hn ha hk4 hrs hR
 have hSl:1<=I S/\S.length<=3:=by grind
 have hPl:1<=I Pl/\Pl.length<=2:=by grind
 have hLl:1<=I Le/\Le.length<=2:=by grind
 have hSm:(I (S.map ae):Int)=(I S:Int):=by grind
 have hPm:(I (Pl.map ae):Int)=(I Pl:Int):=by grind
 have hLm:(I (Le.map ae):Int)=(I Le:Int):=by grind
 obtain⟨r,a1,h1,h2,h3,h4⟩:=A5 l hl a ha 4 (by decide) (by decide)
 by_cases hk:(k:Int)<1+r
 ·obtain⟨f,a2,f1,f2,f3,f4⟩:=A5 l hl a1 h3 (I S) (by omega) (by omega)
  obtain⟨t,a3,t1,t2,t3,t4⟩:=A5 l hl a2 f3 (I S) (by omega) (by omega)
  obtain⟨ac,a4,c1,c2,c3,c4⟩:=A5 l hl a3 t3 3 (by decide) (by decide)
  obtain⟨nm,hnm⟩:∃nm,sc[k]?=G nm:=⟨_,HI (show k<I sc by grind)⟩
  have hkr:Y ((k:Int)<yu yt (1+r))=J:=by grind[Ak]
  by_cases hw:(ac !=0)=J
  ·obtain⟨chn,a5,d1,d2,d3,d4⟩:=A5 l hl a4 c3 (I Pl) (by omega) (by omega)
   obtain⟨le,a6,e1,e2,e3,e4⟩:=A5 l hl a5 d3 (I Le) (by omega) (by omega)
   have hac:ac≠0:=by grind
   obtain⟨m,a',m1,m2,m3⟩:=ih (4- (k+1)) (by omega) (k+1) a6 (rs++[ik nm f t chn ac le]) rfl e3 (by omega) (by simp[hrs]) (AhV hnm ⟨f1,f2⟩ ⟨t1,t2⟩ (.inr ⟨by omega,⟨d1,d2⟩,⟨e1,e2⟩⟩) hrs hR)
   refine⟨m,a',m1,m2,?_⟩
   refine lv 92 [] (.c1 (co l a1) (di r)<|.t<|.h (.dr 17)<|.x (.str nm)<|.c1 (co l a2) (di f)<|.c1 (co l a3) (di t)<|.c1 (co l a4) (di ac)<|.t<|.c1 (co l a5) (di chn)<|.c1 (co l a6) (di le)<|.ls [ke 0,ke 4,ke 5,ch 6 (di (k+1:Nat))] (jo l a6 K S Pl Le rk (rs++[ik nm f t chn ac le]))) (Aa PP 14 [bq 0 0,di 4] (dz l a) (di r) (dz l a1)/\Y ((k:Int)<yu yt (1+r))=J/\0<=(k:Int)/\[ae (bc #[114]).data.toList,ae (bc #[115]).data.toList,ae (bc #[116]).data.toList,ae (bc #[117]).data.toList][Z (k:Int)]?=G (ae nm)/\Aa PP 14 [bq 0 0,di (I (U ae S):Int)] (dz l a1) (di f) (dz l a2)/\Aa PP 14 [bq 0 0,di (I (U ae S):Int)] (dz l a1) (di f) (dz l a2)/\Q (di f)/\Aa PP 14 [bq 0 0,di (I (U ae S):Int)] (dz l a2) (di t) (dz l a3)/\Aa PP 14 [bq 0 0,di (I (U ae S):Int)] (dz l a2) (di t) (dz l a3)/\Q (di t)/\Aa PP 14 [bq 0 0,di 3] (dz l a3) (di ac) (dz l a4)/\Aa PP 14 [bq 0 0,di 3] (dz l a3) (di ac) (dz l a4)/\Q (di ac)/\Q [bh [G (co l a1),G zM,G (lM K S Pl Le rk rs),G fq] [(2,14,U Al rs)],bh [G (co l a2),G zM,G (lM K S Pl Le rk rs),G fq] [(2,14,U Al rs)],bh [G (co l a3),G zM,G (lM K S Pl Le rk rs),G fq] [(2,14,U Al rs)],bh [G (co l a4),G zM,G (lM K S Pl Le rk rs),G fq] [(2,14,U Al rs)]]/\((yg (Q (G [bt (cp S)])))/\(yg (Q (G [bt (cp S)])))/\True)/\(ac !=0)=J/\Aa PP 14 [bq 0 0,di (I (U ae Pl):Int)] (dz l a4) (di chn) (dz l a5)/\Aa PP 14 [bq 0 0,di (I (U ae Le):Int)] (dz l a5) (di le) (dz l a6)/\(True/\(Q (G [bt (cp Le)])/\True)/\True)/\Q (U Al rs)/\Ao (I (U Al rs)+I (ab (ae nm::aa yt f::aa yt t::ai nV::ai nV::ai nV::aa yt chn::aa yt ac::aa yt le::ai nV::ai nV::ai nV::ai nV::aa yt 0::nV)::nV)) 232/\di (yu yt ((k:Int)+1))=di (↑(k+1):Int)/\[G (co l a6),G zM,G [di K,bt (cp S),bt (cp Pl),bt (cp Le),cx rk,di 0,di 0,br 2 (U Al rs++ab (ae nm::vi f::vi t::ai nV::ai nV::ai nV::vi chn::vi ac::vi le::ai nV::ai nV::ai nV::ai nV::vi 0::nV)::nV),di 0,dl nV]]=[G (co l a6),G zM,G (lM K S Pl Le rk (rs++[ik nm f t chn ac le]))]/\[(2,14,U Al rs++ab (ae nm::vi f::vi t::ai nV::ai nV::ai nV::vi chn::vi ac::vi le::ai nV::ai nV::ai nV::ai nV::vi 0::nV)::nV)]=[(2,14,U Al (rs++[ik nm f t chn ac le]))]/\I0 og 1 (Ad m) (dz l a') [kl py [1,1,1,0,1,0,0],bf 0,kc py [1,1,1,1]] (cy 92 [(0,bq 0 0),(4,bq 1 0),(5,bq 2 0),(6,di (↑(k+1):Int))]) (jo l a6 K S Pl Le rk (rs++[ik nm f t chn ac le]))) ?_
   rw[hSm,hPm,hLm]
   repeat' first|with_reducible refine And.intro ?_ ?_
   all_goals first|exact h4|exact hkr|exact f4|exact t4|exact c4|exact d4|exact e4|exact hw|exact CC hnm|exact⟨m3⟩|exact Ae|omega|rfl|trivial|skip
   all_goals first|exact Ih (fun z=>[G (co l a6),G zM,G [di K,.v (cp S),.v (cp Pl),.v (cp Le),.v (cw rk),di 0,di 0,.acc 2 z,di 0,dl []]]) (AY rs (ik nm f t chn ac le))|exact Ih (fun z=>[(2,14,z)]) (AY rs (ik nm f t chn ac le))|(simp only[HH,HN,HR];omega)
  ·have hac:ac=0:=by grind
   subst hac
   obtain⟨m,a',m1,m2,m3⟩:=ih (4- (k+1)) (by omega) (k+1) a4 (rs++[ik nm f t 0 0 0]) rfl c3 (by omega) (by simp[hrs]) (AhV hnm ⟨f1,f2⟩ ⟨t1,t2⟩ (.inl ⟨rfl,rfl,rfl⟩) hrs hR)
   refine⟨m,a',m1,m2,?_⟩
   refine lv 92 [] (.c1 (co l a1) (di r)<|.t<|.h (.dr 17)<|.x (.str nm)<|.c1 (co l a2) (di f)<|.c1 (co l a3) (di t)<|.c1 (co l a4) (di 0)<|.k<|.ls [ke 0,ke 4,ke 5,ch 6 (di (k+1:Nat))] (jo l a4 K S Pl Le rk (rs++[ik nm f t 0 0 0]))) (Aa PP 14 [bq 0 0,di 4] (dz l a) (di r) (dz l a1)/\Y ((k:Int)<yu yt (1+r))=J/\0<=(k:Int)/\[ae (bc #[114]).data.toList,ae (bc #[115]).data.toList,ae (bc #[116]).data.toList,ae (bc #[117]).data.toList][Z (k:Int)]?=G (ae nm)/\Aa PP 14 [bq 0 0,di (I (U ae S):Int)] (dz l a1) (di f) (dz l a2)/\Aa PP 14 [bq 0 0,di (I (U ae S):Int)] (dz l a1) (di f) (dz l a2)/\Q (di f)/\Aa PP 14 [bq 0 0,di (I (U ae S):Int)] (dz l a2) (di t) (dz l a3)/\Aa PP 14 [bq 0 0,di (I (U ae S):Int)] (dz l a2) (di t) (dz l a3)/\Q (di t)/\Aa PP 14 [bq 0 0,di 3] (dz l a3) (di 0) (dz l a4)/\Aa PP 14 [bq 0 0,di 3] (dz l a3) (di 0) (dz l a4)/\Q (di 0)/\Q [bh [G (co l a1),G zM,G (lM K S Pl Le rk rs),G fq] [(2,14,U Al rs)],bh [G (co l a2),G zM,G (lM K S Pl Le rk rs),G fq] [(2,14,U Al rs)],bh [G (co l a3),G zM,G (lM K S Pl Le rk rs),G fq] [(2,14,U Al rs)],bh [G (co l a4),G zM,G (lM K S Pl Le rk rs),G fq] [(2,14,U Al rs)]]/\((yg (Q (G [bt (cp S)])))/\(yg (Q (G [bt (cp S)])))/\True)/\Q (U Al rs)/\Ao (I (U Al rs)+I (ab (ae nm::aa yt f::aa yt t::ai nV::ai nV::ai nV::aa yt 0::aa yt 0::aa yt 0::ai nV::ai nV::ai nV::ai nV::aa yt 0::nV)::nV)) 232/\di (yu yt ((k:Int)+1))=di (↑(k+1):Int)/\[G (co l a4),G zM,G [di K,bt (cp S),bt (cp Pl),bt (cp Le),cx rk,di 0,di 0,br 2 (U Al rs++ab (ae nm::vi f::vi t::ai nV::ai nV::ai nV::vi 0::vi 0::vi 0::ai nV::ai nV::ai nV::ai nV::vi 0::nV)::nV),di 0,dl nV]]=[G (co l a4),G zM,G (lM K S Pl Le rk (rs++[ik nm f t 0 0 0]))]/\[(2,14,U Al rs++ab (ae nm::vi f::vi t::ai nV::ai nV::ai nV::vi 0::vi 0::vi 0::ai nV::ai nV::ai nV::ai nV::vi 0::nV)::nV)]=[(2,14,U Al (rs++[ik nm f t 0 0 0]))]/\I0 og 1 (Ad m) (dz l a') [kl py [1,1,1,0,1,0,0],bf 0,kc py [1,1,1,1]] (cy 92 [(0,bq 0 0),(4,bq 1 0),(5,bq 2 0),(6,di (↑(k+1):Int))]) (jo l a4 K S Pl Le rk (rs++[ik nm f t 0 0 0]))) ?_
   repeat' first|with_reducible refine And.intro ?_ ?_
   all_goals first|exact h4|exact hkr|exact f4|exact t4|exact c4|exact CC hnm|exact⟨m3⟩|exact Ae|omega|rfl|trivial|skip
   all_goals first|exact Ih (fun z=>[G (co l a4),G zM,G [di K,.v (cp S),.v (cp Pl),.v (cp Le),.v (cw rk),di 0,di 0,.acc 2 z,di 0,dl []]]) (AY rs (ik nm f t 0 0 0))|exact Ih (fun z=>[(2,14,z)]) (AY rs (ik nm f t 0 0 0))|(simp only[HH,HN,HR];omega)
 ·obtain⟨ys,a2,y1,y2,y3,y4⟩:=Ah9 l hl a1 h3 (I Pl) (by omega) (I Le) (by omega) (by omega)
  obtain⟨c,hc⟩:∃c:b9,c=.mk 0 (.mk 0 []::ys):=⟨_,rfl⟩
  refine⟨⟨K,S,Pl,Le,rk,0,0,rs,c⟩,a2,⟨rfl,hS,hP,hLe,hrk,rfl,rfl,by grind,by grind,hR,ys,y2,y3,hc⟩,y1,?_⟩
  refine lv 92 [] (.c1 (co l a1) (di r)<|.f<|.a 3<|.c1 (co l a2) (cq ys)<|.w .r) (Aa PP 14 [bq 0 0,di 4] (dz l a) (di r) (dz l a1)/\Y ((k:Int)<yu yt (1+r))=O/\Aa PP 25 [bq 0 0,di (I (U ae Pl):Int),di (I (U ae Le):Int),di 2] (dz l a1) (cq ys) (dz l a2)/\Q (ab (vi 0::ai nV::nV)::nV)/\Ao (I (ab (aa yt 0::ai nV::nV)::nV)+I (U eV ys)) 32/\(∀(y:V),y∈U eV ys->V.size y=2)/\Q [G (co l a2)]/\bt (ab [vi K,ai (U ae S),ai (U ae Pl),ai (U ae Le),ai (U vi rk),vi 0,vi 0,ai (U Al rs),vi 0,ai (ab [vi 0,ai []]::[]++(U eV ys))])=Ad (cz.mk K S Pl Le rk 0 0 rs c)) ?_
  rw[hPm,hLm]
  refine⟨h4,HM (by grind[Ak]),y4,rfl,⟨?_,?_⟩,fun y hy=>?_,rfl,?_⟩
  ·grind
  ·grind
  ·grind[AH,V.size]
  ·rw[hc];rfl
theorem Ai1{ts:List Nat}{kn:Bool}{d:D}(h:d.one=J):(io ts kn d).one=J:=by
 unfold io
 split
 ·cases ts.any _<;>rfl
 ·cases kn<;>rfl
 all_goals grind[D.one,V.isAgg]
theorem An2{H:List (Option (List D))}{own:List (Nat×Nat×List V)}{q:Nat}{d0:Int}{S Pl Le:V}{rk:V}(hq:H[q]?=G (G [di d0,.v S,.v Pl,.v Le,.v rk,di 0,di 0,.acc 2 [],di 0,.v .nils]))(e:List D):Cv e ⟨H,own⟩ e ⟨H.set q (G ([di d0,.v S,.v Pl,.v Le,.v rk,di 0,di 0,.acc 2 [],di 0,.v .nils].map (io [2] false))),own⟩:=
 D0 (σ:=⟨H,own⟩) (q:=q) hq (fun g us hr=>D7 hr) (fun h c hc=>by
  grind[Ai1]) e
noncomputable abbrev q6:=[ae (bc #[112]).data.toList,ae (bc #[113]).data.toList]
noncomputable abbrev kv:=fun a₀ b₀ (c₀:Nat) d₀=>Aa PP 14 [bq 0 0,di 2] (dz a₀ b₀) (di (c₀:Int)) (dz a₀ d₀)
noncomputable abbrev qc:=[ae (bc #[97]).data.toList,ae (bc #[98]).data.toList,ae (bc #[99]).data.toList]
noncomputable abbrev xw:=fun a₀ b₀ (c₀:Nat) d₀=>Aa PP 14 [bq 0 0,di 3] (dz a₀ b₀) (di (c₀:Int)) (dz a₀ d₀)
noncomputable abbrev gt:=fun (a₀:Nat)=>(1+(a₀:Int))
theorem Aim(l:List UInt8)(hl:I l<=200)(a:Nat)(ha:a<=I l)(K:Int)(hK:K=2∨K=3):
  ∃(m:cz) (a':Nat),Gw K m/\a'<=I l/\Aa PP 16 [.ptr 0 0,di K] (dz l a) (Ad m) (dz l a'):=by
 obtain⟨r1,a1,p1,p2,p3,p4⟩:=A5 l hl a ha 3 (by decide) (by decide)
 obtain⟨r2,a2,q1,q2,q3,q4⟩:=A5 l hl a1 p3 2 (by decide) (by decide)
 obtain⟨r3,a3,u1,u2,u3,u4⟩:=A5 l hl a2 q3 2 (by decide) (by decide)
 obtain⟨n1,rfl⟩:∃n:Nat,r1=n:=⟨r1.toNat,by omega⟩
 obtain⟨n2,rfl⟩:∃n:Nat,r2=n:=⟨r2.toNat,by omega⟩
 obtain⟨n3,rfl⟩:∃n:Nat,r3=n:=⟨r3.toNat,by omega⟩
 obtain⟨S,hS⟩:∃S,S=([[97],[98],[99]]:List (List UInt8)).take (1+n1):=⟨_,rfl⟩
 obtain⟨Pl,hPl⟩:∃S,S=([[120],[121]]:List (List UInt8)).take (1+n2):=⟨_,rfl⟩
 obtain⟨Le,hLe⟩:∃S,S=([[112],[113]]:List (List UInt8)).take (1+n3):=⟨_,rfl⟩
 have hSx:∃n:Nat,1<=n/\n<=3/\S=([[97],[98],[99]]:List (List UInt8)).take n:=⟨1+n1,by omega,by omega,hS⟩
 have hPx:Pl=[[120]]∨Pl=[[120],[121]]:=by
  rcases(show n2=0∨n2=1 by omega) with rfl|rfl
  all_goals grind
 have hLx:Le=[[112]]∨Le=[[112],[113]]:=by
  rcases(show n3=0∨n3=1 by omega) with rfl|rfl
  all_goals grind
 rcases hK with rfl|rfl
 ·obtain⟨m,a',m1,m2,m3⟩:=Wi l hl 2 S Pl Le [] hSx hPx hLx (by simp) _ 0 a3 [] rfl u3 (by omega) rfl (by simp)
  refine⟨m,a',m1,m2,?_⟩
  refine sv og 92 [] (.h (.dr 17)<|.c1 (co l a1) (di n1)<|.c1 (co l a2) (di n2)<|.c1 (co l a3) (di n3)<|.h .rn<|.k<|.h (.q 4 0)<|.h (.cl 2 7 2 14)<|.h (.cs (jo l a3 2 S Pl Le [] []))<|.ls [ke 0,ke 4,ke 5,ch 6 (di (0:Nat))] (jo l a3 2 S Pl Le [] [])) (xw l a n1 a1/\xw l a n1 a1/\Q (di (n1:Int))/\(∀(x:V),x∈ qc->V.size x=1)/\0<=(fun x=>x.snd) (yt,yu yt (gt n1))/\(fun x=>x.snd) (yt,yu yt (gt n1))<=(↑(I qc):Int)/\kv l a1 n2 a2/\kv l a1 n2 a2/\Q (di (n2:Int))/\(∀(x:V),x∈ kw->V.size x=1)/\0<=(fun x=>x.snd) (yt,yu yt (gt n2))/\(fun x=>x.snd) (yt,yu yt (gt n2))<=(↑(I kw):Int)/\kv l a2 n3 a3/\kv l a2 n3 a3/\Q (di (n3:Int))/\(∀(x:V),x∈ q6->V.size x=1)/\0<=(fun x=>x.snd) (yt,yu yt (gt n3))/\(fun x=>x.snd) (yt,yu yt (gt n3))<=(↑(I q6):Int)/\Q [bh (il l a) [],bh (il l a1) [],bh (il l a2) [],bh (il l a3) []]/\True/\(∀(e:List D) (E:cd) (g:Gh) (a:Act) (w:x5),FI E g (bh [G (co l a3),G [bt ip,dn,dn,dn,dn,bt ip,bt ip,dn,bt ip,dn],G [bt (aa yt 2),bt (ai (W 0 (take (Z ((fun x=>x.snd) (yt,yu yt (gt n1)))) qc))),bt (ai (W 0 (take (Z ((fun x=>x.snd) (yt,yu yt (gt n2)))) kw))),bt (ai (W 0 (take (Z ((fun x=>x.snd) (yt,yu yt (gt n3)))) q6))),dn,bt ip,bt ip,br 2 [],bt ip,dn]] [(2,14,[])]) e a w->∃g',FI E g' (jo l a3 2 S Pl Le [] []) e a w)/\di 0=di (↑0:Int)/\Q (jo l a3 2 S Pl Le [] []).H/\Q [(2,14,nV)]/\I0 og (I (dz l a).H) (Ad m) (dz l a') Avt (cy 92 [jx,Awn,pq,(6,di (↑0:Int))]) (jo l a3 2 S Pl Le [] [])) ?_
  have w1:yu yt (1+(n1:Int))=1+n1:=Ak
  have w2:yu yt (1+(n2:Int))=1+n2:=Ak
  have w3:yu yt (1+(n3:Int))=1+n3:=Ak
  have z1:∀x∈ [ae [97],ae [98],ae [99]],x.size=1:=by simp[V.size]
  have z2:∀x∈ [ae [120],ae [121]],x.size=1:=by simp[V.size]
  have z3:∀x∈ [ae [112],ae [113]],x.size=1:=by simp[V.size]
  have k1:ai (W 0 (take (1+(n1:Int)).toNat [ae [97],ae [98],ae [99]]))=cp S:=by
   rw[hS,Jt,show(1+(n1:Int)).toNat=1+n1 by omega]
   simp_all
  have k2:ai (W 0 (take (1+(n2:Int)).toNat [ae [120],ae [121]]))=cp Pl:=by
   rw[hPl,Jt,show(1+(n2:Int)).toNat=1+n2 by omega]
   simp_all
  have k3:W 0 (take (1+(n3:Int)).toNat [ae [112],ae [113]])=Le.map ae:=by
   rw[hLe,Jt,show(1+(n3:Int)).toNat=1+n3 by omega]
   simp_all
  rw[w1,w2,w3]
  refine⟨p4,p4,rfl,z1,by grind,by grind,q4,q4,rfl,z2,by grind,by grind,u4,u4,rfl,z3,by grind,by grind,rfl,trivial,fun e=>?_,rfl,rfl,rfl,⟨m3⟩⟩
  show Cv e ⟨[G (co l a3),G zM,G [di 2,.v (ai (W 0 (take (1+(n1:Int)).toNat [ae [97],ae [98],ae [99]]))),.v (ai (W 0 (take (1+(n2:Int)).toNat [ae [120],ae [121]]))),.v (ai (W 0 (take (1+(n3:Int)).toNat [ae [112],ae [113]]))),.v .nils,di 0,di 0,.acc 2 [],di 0,.v .nils]],[(2,14,[])]⟩ e _
  rw[k1,k2,k3]
  exact An2 (H:=[G (co l a3),G zM,G [di 2,.v (cp S),.v (cp Pl),.v (cp Le),.v .nils,di 0,di 0,.acc 2 [],di 0,.v .nils]]) (q:=2) rfl e
 ·obtain⟨rk,a4,v1,v2,v3,v4⟩:=GE l hl a3 u3 (I Le) (by grind) 1 (by decide) (by decide)
  obtain⟨m,a',m1,m2,m3⟩:=Wi l hl 3 S Pl Le rk hSx hPx hLx (by grind) _ 0 a4 [] rfl (by omega) (by omega) rfl (by simp)
  refine⟨m,a',m1,m2,?_⟩
  refine sv og 92 [] (.h (.dr 17)<|.c1 (co l a1) (di n1)<|.c1 (co l a2) (di n2)<|.c1 (co l a3) (di n3)<|.h .rn<|.k<|.c1 (co l a4) (cx rk)<|.h (.q 4 0)<|.h (.cl 2 7 2 14)<|.h (.cs (jo l a4 3 S Pl Le rk []))<|.ls [ke 0,ke 4,ke 5,ch 6 (di (0:Nat))] (jo l a4 3 S Pl Le rk [])) (xw l a n1 a1/\xw l a n1 a1/\Q (di (n1:Int))/\(∀(x:V),x∈ qc->V.size x=1)/\0<=(fun x=>x.snd) (yt,yu yt (gt n1))/\(fun x=>x.snd) (yt,yu yt (gt n1))<=(↑(I qc):Int)/\kv l a1 n2 a2/\kv l a1 n2 a2/\Q (di (n2:Int))/\(∀(x:V),x∈ kw->V.size x=1)/\0<=(fun x=>x.snd) (yt,yu yt (gt n2))/\(fun x=>x.snd) (yt,yu yt (gt n2))<=(↑(I kw):Int)/\kv l a2 n3 a3/\kv l a2 n3 a3/\Q (di (n3:Int))/\(∀(x:V),x∈ q6->V.size x=1)/\0<=(fun x=>x.snd) (yt,yu yt (gt n3))/\(fun x=>x.snd) (yt,yu yt (gt n3))<=(↑(I q6):Int)/\Q [bh (il l a) [],bh (il l a1) [],bh (il l a2) [],bh (il l a3) []]/\True/\Aa PP 24 [bq 0 0,di (I (W 0 (take (Z ((fun x=>x.snd) (yt,yu yt (gt n3)))) (ae (bc #[112]).data.toList::ae (bc #[113]).data.toList::nV))):Int),di 1] (dz l a3) (cx rk) (dz l a4)/\(∀(e:List D) (E:cd) (g:Gh) (a:Act) (w:x5),FI E g (bh [G (co l a4),G [bt ip,dn,dn,dn,dn,bt ip,bt ip,dn,bt ip,dn],G [bt (aa yt 3),bt (ai (W 0 (take (Z ((fun x=>x.snd) (yt,yu yt (gt n1)))) qc))),bt (ai (W 0 (take (Z ((fun x=>x.snd) (yt,yu yt (gt n2)))) kw))),bt (ai (W 0 (take (Z ((fun x=>x.snd) (yt,yu yt (gt n3)))) q6))),cx rk,bt ip,bt ip,br 2 [],bt ip,dn]] [(2,14,[])]) e a w->∃g',FI E g' (jo l a4 3 S Pl Le rk []) e a w)/\di 0=di (↑0:Int)/\Q (jo l a4 3 S Pl Le rk []).H/\Q [(2,14,nV)]/\I0 og (I (dz l a).H) (Ad m) (dz l a') Avt (cy 92 [jx,Awn,pq,(6,di (↑0:Int))]) (jo l a4 3 S Pl Le rk [])) ?_
  have w1:yu yt (1+(n1:Int))=1+n1:=Ak
  have w2:yu yt (1+(n2:Int))=1+n2:=Ak
  have w3:yu yt (1+(n3:Int))=1+n3:=Ak
  have z1:∀x∈ [ae [97],ae [98],ae [99]],x.size=1:=by simp[V.size]
  have z2:∀x∈ [ae [120],ae [121]],x.size=1:=by simp[V.size]
  have z3:∀x∈ [ae [112],ae [113]],x.size=1:=by simp[V.size]
  have k1:ai (W 0 (take (1+(n1:Int)).toNat [ae [97],ae [98],ae [99]]))=cp S:=by
   rw[hS,Jt,show(1+(n1:Int)).toNat=1+n1 by omega]
   simp_all
  have k2:ai (W 0 (take (1+(n2:Int)).toNat [ae [120],ae [121]]))=cp Pl:=by
   rw[hPl,Jt,show(1+(n2:Int)).toNat=1+n2 by omega]
   simp_all
  have k3:W 0 (take (1+(n3:Int)).toNat [ae [112],ae [113]])=Le.map ae:=by
   rw[hLe,Jt,show(1+(n3:Int)).toNat=1+n3 by omega]
   simp_all
  rw[w1,w2,w3]
  refine⟨p4,p4,rfl,z1,by grind,by grind,q4,q4,rfl,z2,by grind,by grind,u4,u4,rfl,z3,by grind,by grind,rfl,trivial,?_,fun e=>?_,rfl,rfl,rfl,⟨m3⟩⟩
  ·grind
  show Cv e ⟨[G (co l a4),G zM,G [di 3,.v (ai (W 0 (take (1+(n1:Int)).toNat [ae [97],ae [98],ae [99]]))),.v (ai (W 0 (take (1+(n2:Int)).toNat [ae [120],ae [121]]))),.v (ai (W 0 (take (1+(n3:Int)).toNat [ae [112],ae [113]]))),cx rk,di 0,di 0,.acc 2 [],di 0,.v .nils]],[(2,14,[])]⟩ e _
  rw[k1,k2,k3]
  exact An2 (H:=[G (co l a4),G zM,G [di 3,.v (cp S),.v (cp Pl),.v (cp Le),cx rk,di 0,di 0,.acc 2 [],di 0,.v .nils]]) (q:=2) rfl e
theorem AfJ{rs:List cf}(_:I rs<=4){ns np nl:Nat}(h:∀k r,rs[k]?=G r->OT ns np nl k r):rs.map cf.name=sc.take (I rs):=by
 apply List.ext_getElem?
 intro i
 by_cases hi:i<I rs
 ·have hx:rs[i]?=G rs[i]:=HI hi
  rw[I1,hx,List.getElem?_take_of_lt hi,(h i _ hx).name];rfl
 grind
theorem AdF{L:Int}{v:b9}(h:Gv L v):(v.n==0)=J/\Y ((I v.az:Int)<=12)=J/\(v.az.all fun k=>C9 L k)=J:=by
 obtain⟨ks,h1,h2,rfl⟩:=h
 grind[b9.az,C9,b9.n]
theorem Qv(t:cr)(L:Int)(ht:∀v,Gv L v->Ax t v=J):∀(n:Nat) (ys:List b9),I ys=n->(∀y∈ys,Gv L y)->BN (List.replicate n t) ys=J
 |0,ys,h,_=>by
  rfl
 |n+1,ys,h,hy=>by
  cases ys with
  |nil=>rfl
  |cons y ys=>
   simp only[IC,BN,HJ]
   exact⟨ht y (hy y (by simp)),Qv t L ht n ys (by grind) fun z hz=>hy z (by grind)⟩
theorem OX(L:Int):∀(ys:List b9),(∀y∈ys,Gv L y)->b9.sizes ys<=3*I ys
 |[],_=>HP _
 |y::ys,h=>by
  have h1:=(h y (by simp)).size
  have h2:=OX L ys fun z hz=>h z (by grind)
  grind[b9.sizes]
theorem O6(m:cz)(hk:m.kind=2∨m.kind=3)(hpl:I m.ay<=2)(s:Int)(hs:0<=s/\s<I m.aw)(ys:List b9)(hy:I ys=I m.ay)(h:∀y∈ys,Gv (I m.ax) y):Ah (AE m) (.mk 0 (.mk s []::ys))=J:=by
 have hsz:=OX _ ys h
 rw[Ah,HK (by grind[b9.size,b9.sizes]),Is,AE]
 have he:∀v,Gv (I m.ax) v->Ax (EK m) v=J:=fun v hv=>by
  obtain⟨h1,h2,h3⟩:=AdF hv
  grind[EK,Ax]
 simp only[Ax,b9.n,b9.az,BN,C9,HJ,Iv]
 refine⟨?_,by grind,⟨HK hs.1,HK hs.2,by rfl⟩,Qv _ _ he _ ys hy h⟩
 grind
theorem Gw.ok{K:Int}{m:cz}(hK:K=2∨K=3)(h:Gw K m):m.ok:=by
 have hk:=h.kind
 have hk1:¬m.kind=1:=by omega
 have hst:1<=I m.aw/\m.aw.length<=3:=by obtain⟨n,h1,h2,e⟩:=h.aw;grind
 have hpl:1<=I m.ay/\m.ay.length<=2:=by rcases h.ay with e|e<;>rw[e]<;>decide
 have hll:1<=I m.ax/\m.ax.length<=2:=by rcases h.ax with e|e<;>rw[e]<;>decide
 have hb:∀{x a b:Int},a<=x->x<=b->A3 x a b=J:=fun h1 h2=>by grind[A3]
 have hget:∀r∈m.av,OT (I m.aw) (I m.ay) (I m.ax) (m.av.idxOf r) r:=fun r hr=>by
  exact h.av _ r (by grind)
 have hc:=h.count
 refine⟨.inr (by omega),?_,?_,?_,?_,?_,?_,?_⟩
 ·simp only[Dr,Tt,HZ hk1,HJ,HS,h.ao,h.age]
  grind
 ·have hr:=h.au
  grind[C4]
 ·have hn:=AfJ h.count h.av
  obtain⟨n,n1,n2,e⟩:=h.aw
  rw[F3,Gm,hn,Cj]
  have:I m.av=0∨m.av.length=1∨m.av.length=2∨m.av.length=3∨m.av.length=4:=by omega
  rcases(show n=1∨n=2∨n=3 by omega) with rfl|rfl|rfl<;>rcases h.ay with e'|e'<;>rcases h.ax with e3|e3<;>rcases this with e2|e2|e2|e2|e2<;>rw[e,e',e2,e3]<;>decide+kernel
 ·intro r hr
  rw[(hget r hr).rest]
  exact⟨Iu _,Iu _,Iu _,Iu _,Iu _,Iu _,Iu _⟩
 ·intro r hr
  have hm:=hget r hr
  obtain⟨f1,f2⟩:=hm.aj
  obtain⟨t1,t2⟩:=hm.to
  have ha:=hm.act
  have hr:=hm.rest
  grind[Fy,F1,Ch,MC,ik,Eu]
 ·obtain⟨ys,y1,y2,y3⟩:=h.start
  grind[O6]
 ·obtain⟨ys,y1,y2,y3⟩:=h.start
  have:=OX _ ys y2
  grind[b9.size,b9.sizes]
end Go.Proofs.YtkkplhjidondkaaGreat
