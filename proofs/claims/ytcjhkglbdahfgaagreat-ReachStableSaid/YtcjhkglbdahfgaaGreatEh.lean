/-
  A part of the proof.
-/
import Derived.Test.YtcjhkglbdahfgaaGreatEf
namespace Go.Proofs.YtcjhkglbdahfgaaGreat
open Go.Dv Go.Nv
set_option maxRecDepth 20000
open List (all_eq_true append_assoc append_nil cons_append drop_eq_getElem_cons drop_of_length_le drop_zero ext_getElem? flatMap_cons flatten flatten_cons foldl_cons getD_eq_getElem?_getD getElem?_append_left getElem?_append_right getElem?_drop getElem?_eq_getElem getElem?_eq_none getElem?_map getElem?_set getElem?_take getElem?_toArray length length_append length_cons length_drop length_map length_nil length_pos_iff length_set length_take map map_append map_cons map_map map_nil mem_append mem_cons mem_map mem_of_getElem? mem_of_mem_drop mem_of_mem_take mem_or_eq_of_mem_set mem_singleton nil_append not_mem_nil replicate replicate_succ set_cons_succ set_cons_zero size_toArray take take_add_one take_append_drop take_left take_of_length_le take_succ_cons zipWith)
open Go.IntKind (wrap i64 u64)
structure Hnt where
 found:List Val
 before:List Int
 rules:List Int
 next:Int
 cand:Int
 used:Int
 deriving Inhabited
abbrev vHnt(h:Hnt):V:=.agg [vVs h.found,vIs h.before,vIs h.rules,vi h.next,vi h.cand,vi h.used]
abbrev DE(h:Hnt):D:=.v (vHnt h)
structure Vrd where
 decided:Bool
 yes:Bool
 run:List Stp
 coefs:List Int
 mod:Int
 vals:List Int
 closed:List Val
 used:Int
 deriving Inhabited
abbrev vVrd(v:Vrd):V:=.agg [.bool v.decided,.bool v.yes,BS v.run,vIs v.coefs,vi v.mod,vIs v.vals,vVs v.closed,vi v.used]
abbrev BV(v:Vrd):D:=.v (vVrd v)
def An(u:Int):Vrd:=⟨false,false,[],[],0,[],[],u⟩
def Cz(l:List Stp)(u:Int):Vrd:=⟨true,true,l,[],0,[],[],u⟩
theorem cloIO_spec(l:List Int)(hl:l.length<=1000000)(h:l≠ []):Ab PP 44 [dIs l] σ0 (.acc 1 (l.map vi)) ⟨[],[(1,1,l.map vi)]⟩:=by
 refine sv fCloI 8 [] (.a 1<|.w .r) (map vi l≠ []/\Q nV/\Ar (length nV+length (map vi l)) 8/\(∀(y:V),y∈map vi l->V.size y=1)/\[(1,1,nV++map vi l)]=[(1,1,map vi l)]/\D.acc 1 ([]++map vi l)=D.acc 1 (map vi l)) ?_
 exact⟨by simpa using h,rfl,⟨by simp;omega,by simp;omega⟩,sizes_vi l,rfl,rfl⟩
noncomputable abbrev fROwn:Func:= Tryz.f26
abbrev cAc(h:Hnt):List D:=[.acc 1 (h.found.map eV),.acc 2 (h.before.map vi),.acc 3 (h.rules.map vi),di h.next,di h.cand,di h.used]
abbrev owA(h:Hnt):List (Nat×Nat×List V):=[(3,1,h.rules.map vi),(2,1,h.before.map vi),(1,2,h.found.map eV)]
theorem rown_spec(h:Hnt)(h1:h.found.length<=100000)(hs:∀v∈h.found,v.size<=1000000)(h2:h.before.length<=100000)(h3:h.rules.length<=100000)(hb:h.before≠ [])(hr:h.rules≠ []):
  Ab PP 26 [DE h] σ0 (.dagg (cAc h)) ⟨[],owA h⟩:=by
 refine sv fROwn 16 [] (.h (.ck 1 1 2 (h.found.map eV))<|.h (.ck 2 1 1 (h.before.map vi))<|.h (.ck 3 1 1 (h.rules.map vi))<|.h (.m (.dagg (cAc h))) .rd) (Ab PP 30 [dVs h.found] (St.mk [] []) (D.acc 1 (map eV h.found)) (St.mk [] [(1,2,map eV h.found)])/\Ab PP 44 [dIs h.before] (St.mk [] []) (D.acc 1 (map vi h.before)) (St.mk [] [(1,1,map vi h.before)])/\Ab PP 44 [dIs h.rules] (St.mk [] []) (D.acc 1 (map vi h.rules)) (St.mk [] [(1,1,map vi h.rules)])/\(True/\(Q (some [dIs h.before])/\True)/\(Q (some [dIs h.rules])/\Q (some [dIs h.rules])/\True)/\True)/\6<=6/\[D.acc 1 (map eV h.found),D.acc 2 (map vi h.before),D.acc 3 (map vi h.rules),di h.next,di h.cand,di h.used]=cAc h/\Q [(3,1,map vi h.rules),(2,1,map vi h.before),(1,2,map eV h.found)]/\D.dagg [D.acc 1 (map eV h.found),D.acc 2 (map vi h.before),D.acc 3 (map vi h.rules),di h.next,di h.cand,di h.used]=D.dagg (cAc h)) ?_
 exact⟨all_spec _ h1 hs,cloIO_spec _ (by omega) hb,cloIO_spec _ (by omega) hr,⟨trivial,⟨rfl,trivial⟩,⟨rfl,rfl,trivial⟩,trivial⟩,by decide,rfl,rfl,rfl⟩
noncomputable abbrev fAskd:Func:= Tryz.f24
theorem askd_spec(m:Mod)(hm:PlC m)(c:Val)(hc:AC m c):Ab PP 24 [Ah m,dV c] σ0 (di 0) σ0:=by
 refine sv fAskd 15 [2,3] (.c (di 0)<|.c (db true) .r) (F0 41 [Ah m] (di 0)/\F0 42 [Ah m,dV c] (db true)/\Q (di 0)) ?_
 have hsz:=hc.size hm
 have h1:=D9 m hm.ok c (by omega)
 rw[hc.valid hm] at h1
 exact⟨wlk_spec m hm.ok,h1,rfl⟩
def AX(m:Mod):Hnt:=⟨[m.start],[-1],[-1],0,0,0⟩
noncomputable abbrev fRStart:Func:= Tryz.f18
theorem rstart_spec(m:Mod)(hm:PlC m)(c:Val)(hc:AC m c):Ab PP 18 [Ah m,dV c] σ0 (.tup [DE (AX m),di 0]) σ0:=by
 refine sv fRStart 21 [2,3] (.c (di 0)<|.c (dV m.start) .r) (F0 24 [Ah m,dV c] (di 0)/\F0 25 [dV m.start] (dV m.start)/\D.tup [D.v (V.agg [V.list [Ad m.start],V.list [vi (-1)],V.list [vi (-1)],vi 0,vi 0,vi 0]),di 0]=D.tup [DE (AX m),di 0]) ?_
 have hsz:=hm.start.size hm
 refine⟨askd_spec m hm c hc,EF _ m.start (Nat.le_refl _) (by omega),?_⟩
 rw[show DE (AX m)=D.v (.agg [.list [eV m.start],.list [vi (-1)],.list [vi (-1)],vi 0,vi 0,vi 0]) from rfl,AN]
noncomputable abbrev fRev:Func:= Tryz.f66
noncomputable def cRev:Code:=fRev.body.getD .skip
def swapL{α:Type}(l:List α)(i j:Nat):List α:=match l[i]?,l[j]? with
 |some a,some b=>(l.set i b).set j a
 |_,_=>l
def Du{α:Type}:Nat->Nat->List α->List α
 |0,_,l=>l
 |n+1,i,l=>if 2*i+1<l.length then Du n (i+1) (swapL l i (l.length-1-i)) else l
theorem swapL_len{α:Type}(l:List α)(i j:Nat):(swapL l i j).length=l.length:=by
 unfold swapL;split<;>simp
theorem revS_len{α:Type}:∀(n i:Nat) (l:List α),(Du n i l).length=l.length
 |0,_,_=>rfl
 |n+1,i,l=>by
  rw[Du];split
  ·rw[revS_len n,swapL_len]
  ·rfl
theorem Gi(s:Stp)(l:List Stp):Aa ((s::l).map vSt)=[di s.1,di s.2.n,dVs s.2.kids]++Aa (l.map vSt):=by
 simp only[Aa,map_cons,flatMap_cons,map_append];rfl
theorem Ho(l k:List Stp):Aa ((l++k).map vSt)=Aa (l.map vSt)++Aa (k.map vSt):=by
 simp only[Aa,map_append,List.flatMap_append]
theorem E6:∀l:List Stp,(Aa (l.map vSt)).length=l.length*3
 |[]=>rfl
 |v::l=>by rw[Gi,length_append,E6 l,length_cons];simp;omega
theorem flatS_at{l:List Stp}{i:Nat}{x:Stp}(h:l[i]?=some x):((Aa (l.map vSt)).drop (i*3)).take 3=[di x.1,di x.2.n,dVs x.2.kids]:=by
 obtain⟨hi,rfl⟩:=List.getElem?_eq_some_iff.1 h
 have e:l=l.take i++l[i]::l.drop (i+1):=by rw[←drop_eq_getElem_cons hi,take_append_drop]
 conv=>lhs;rw[e]
 rw[Ho,Gi,List.drop_left' (by rw[E6,length_take];omega)]
 rfl
theorem flatS_put{l:List Stp}{i:Nat}(hi:i<l.length)(x:Stp):(Aa (l.map vSt)).take (i*3)++[di x.1,di x.2.n,dVs x.2.kids]++(Aa (l.map vSt)).drop (i*3+3)=Aa ((l.set i x).map vSt):=by
 have e:l=l.take i++l[i]::l.drop (i+1):=by rw[←drop_eq_getElem_cons hi,take_append_drop]
 have e2:l.set i x=l.take i++x::l.drop (i+1):=by rw[List.set_eq_take_append_cons_drop,if_pos hi]
 have hl:(Aa ((l.take i).map vSt)).length=i*3:=by rw[E6,length_take];omega
 rw[e2,Ho,Gi]
 conv=>lhs;rw[e]
 rw[Ho,Gi,List.take_left' hl, ←List.drop_drop,List.drop_left' hl,append_assoc]
 rfl
abbrev stR(l:List Stp):St:=⟨[some (Aa (l.map vSt))],[]⟩
theorem rev_loop(N:Nat)(hN:N<=1000)(n:Nat):∀(i:Nat) (l:List Stp),l.length=N->N-2*i<=2*n->
  Rn PP fRev 1 (.tup []) (stR (Du n i l)) ([.lp (sub cRev [1,0,0]),.blk 0]++[]) (mkE 28 [(0,.arr 0 0 N),(2,di i),(3,di ((N:Int)-1-i))]) (stR l):=by
 induction n with
 |zero=>
  intro i l hl hn
  refine lv 28 [] (.f .ro) (decide ((i:Int)<(N:Int)-1- (i:Int))=false/\([]:List KI)=[]/\okH 1 [] [some (Aa (map vSt l))]=true/\[some (Aa (map vSt l))]=[some (Aa (map vSt (Du 0 i l)))]/\Q (D.tup [])) ?_
  exact⟨decide_eq_false (by omega),rfl,Bool.and_eq_true_iff.2 ⟨Ag 1 [] _,rfl⟩,rfl,rfl⟩
 |succ n ih=>
  intro i l hl hn
  by_cases h:2*i+1<N
  ·obtain⟨a,ha⟩:∃a,l[i]?=some a:=⟨_,getElem?_eq_getElem (show i<l.length by omega)⟩
   obtain⟨b,hb⟩:∃b,l[N-1-i]?=some b:=⟨_,getElem?_eq_getElem (show N-1-i<l.length by omega)⟩
   refine lv 28 [] (.t<|.m (.v (vSt b))<|.m (.v (vSt a))<|.h .ww<|.h .ww<|.lo [ke 0,ch 2 (di (i+1:Nat)),ch 3 (di ((N:Int)-1- (i+1:Nat)))] (stR ((l.set i b).set (N-1-i) a))) (decide ((i:Int)<(N:Int)-1- (i:Int))=true/\0<=(N:Int)-1- (i:Int)/\(N:Int)-1- (i:Int)<(N:Int)/\0+Int.toNat ((N:Int)-1- (i:Int))*3+3<=length (Aa (map vSt l))/\take 3 (List.drop (0+Int.toNat ((N:Int)-1- (i:Int))*3) (Aa (map vSt l)))=[di b.fst,di b.snd.n,dVs b.snd.kids]/\0<=(i:Int)/\(i:Int)<(N:Int)/\0+Int.toNat (i:Int)*3+3<=length (Aa (map vSt l))/\take 3 (List.drop (0+Int.toNat (i:Int)*3) (Aa (map vSt l)))=[di a.fst,di a.snd.n,dVs a.snd.kids]/\0<=(i:Int)/\(i:Int)<(N:Int)/\0+Int.toNat (i:Int)*3+3<=length (Aa (map vSt l))/\0<=(N:Int)-1- (i:Int)/\(N:Int)-1- (i:Int)<(N:Int)/\0+Int.toNat ((N:Int)-1- (i:Int))*3+3<=length (take (0+Int.toNat (i:Int)*3) (Aa (map vSt l))++B6 (D.v (V.agg (vi b.fst::vi b.snd.n::vVs b.snd.kids::nV)))++List.drop (0+Int.toNat (i:Int)*3+3) (Aa (map vSt l)))/\(True/\True/\True)/\di (wrap i64 ((i:Int)+1))=di (↑(i+1):Int)/\di (wrap i64 ((N:Int)-1- (i:Int)-1))=di ((N:Int)-1- (↑(i+1):Int))/\okH 1 [] [some (take (0+Int.toNat ((N:Int)-1- (i:Int))*3) (take (0+Int.toNat (i:Int)*3) (Aa (map vSt l))++[di b.fst,di b.snd.n,dVs b.snd.kids]++List.drop (0+Int.toNat (i:Int)*3+3) (Aa (map vSt l)))++[di a.fst,di a.snd.n,dVs a.snd.kids]++List.drop (0+Int.toNat ((N:Int)-1- (i:Int))*3+3) (take (0+Int.toNat (i:Int)*3) (Aa (map vSt l))++[di b.fst,di b.snd.n,dVs b.snd.kids]++List.drop (0+Int.toNat (i:Int)*3+3) (Aa (map vSt l))))]=true/\[some (take (0+Int.toNat ((N:Int)-1- (i:Int))*3) (take (0+Int.toNat (i:Int)*3) (Aa (map vSt l))++[di b.fst,di b.snd.n,dVs b.snd.kids]++List.drop (0+Int.toNat (i:Int)*3+3) (Aa (map vSt l)))++[di a.fst,di a.snd.n,dVs a.snd.kids]++List.drop (0+Int.toNat ((N:Int)-1- (i:Int))*3+3) (take (0+Int.toNat (i:Int)*3) (Aa (map vSt l))++[di b.fst,di b.snd.n,dVs b.snd.kids]++List.drop (0+Int.toNat (i:Int)*3+3) (Aa (map vSt l))))]=[some (Aa (map vSt (List.set (List.set l i b) (N-1-i) a)))]/\I0 fRev 1 (D.tup []) (stR (Du (n+1) i l)) [kl cRev [1,0,0],KI.blk 0] (mkE 28 [(0,D.arr 0 0 N),(2,di (↑(i+1):Int)),(3,di ((N:Int)-1- (↑(i+1):Int)))]) (stR (List.set (List.set l i b) (N-1-i) a))) ?_
   have e0:0+Int.toNat (i:Int)*3=i*3:=by omega
   have e1:0+Int.toNat ((N:Int)-1-i)*3=(N-1-i)*3:=by omega
   have f1:(Aa (l.map vSt)).take (i*3)++[di b.1,di b.2.n,D.v (vVs b.2.kids)]++(Aa (l.map vSt)).drop (i*3+3)=Aa ((l.set i b).map vSt):=flatS_put (by omega) b
   have f2:(Aa ((l.set i b).map vSt)).take ((N-1-i)*3)++[di a.1,di a.2.n,D.v (vVs a.2.kids)]++(Aa ((l.set i b).map vSt)).drop ((N-1-i)*3+3)=Aa (((l.set i b).set (N-1-i) a).map vSt):=flatS_put (by rw[length_set];omega) a
   have f3:B6 (D.v (V.agg (vi b.1::vi b.2.n::vVs b.2.kids::nV)))=[di b.1,di b.2.n,D.v (vVs b.2.kids)]:=rfl
   have g1:swapL l i (N-1-i)=(l.set i b).set (N-1-i) a:=by rw[swapL,ha,hb]
   have g2:Du (n+1) i l=Du n (i+1) ((l.set i b).set (N-1-i) a):=by rw[Du,if_pos (by omega),hl,g1]
   have hll:(Aa (l.map vSt)).length=N*3:=by rw[E6,hl]
   have hls:(Aa ((l.set i b).map vSt)).length=N*3:=by rw[E6,length_set,hl]
   rw[e0,e1,f3,f1,f2,g2]
   refine⟨decide_eq_true (by omega),by omega,by omega,by omega,flatS_at hb,by omega,by omega,by omega,flatS_at ha,by omega,by omega,by omega,by omega,by omega,by omega,⟨trivial,trivial,trivial⟩,Af (by omega),?_,?_,rfl,⟨ih (i+1) _ (by simp[hl]) (by omega)⟩⟩
   ·rw[Aj (by omega) (by omega),show(N:Int)-1-i-1=(N:Int)-1- ((i+1:Nat):Int) by omega]
   ·exact Bool.and_eq_true_iff.2 ⟨Ag 1 [] _,rfl⟩
  ·refine lv 28 [] (.f .ro) (decide ((i:Int)<(N:Int)-1- (i:Int))=false/\([]:List KI)=[]/\okH 1 [] [some (Aa (map vSt l))]=true/\[some (Aa (map vSt l))]=[some (Aa (map vSt (Du (n+1) i l)))]/\Q (D.tup [])) ?_
   rw[Du,if_neg (by omega)]
   exact⟨decide_eq_false (by omega),rfl,Bool.and_eq_true_iff.2 ⟨Ag 1 [] _,rfl⟩,rfl,rfl⟩
theorem rev_spec(l:List Stp)(hl:l.length<=1000):Ab PP 66 [.arr 0 0 l.length] (stR l) (.tup []) (stR (Du l.length 0 l)):=by
 refine sv fRev 28 [] (.lo [ke 0,ch 2 (di (0:Nat)),ch 3 (di ((l.length:Int)-1- (0:Nat)))] (stR l)) (di 0=di (↑0:Int)/\di (wrap i64 ((l.length:Int)-1))=di ((l.length:Int)-1- (↑0:Int))/\okH 1 [] [some (Aa (map vSt l))]=true/\Q [some (Aa (map vSt l))]/\I0 fRev (length (stR l).H) (D.tup []) (stR (Du l.length 0 l)) [kl cRev [1,0,0],KI.blk 0] (mkE 28 [(0,D.arr 0 0 l.length),(2,di (↑0:Int)),(3,di ((l.length:Int)-1- (↑0:Int)))]) (stR l)) ?_
 refine⟨rfl,by rw[Aj (by omega) (by omega)];exact congrArg di (by omega),Bool.and_eq_true_iff.2 ⟨Ag 1 [] _,rfl⟩,rfl,⟨rev_loop l.length (by omega) l.length 0 l rfl (by omega)⟩⟩
theorem rev_nil:Ab PP 66 [dl []] σ0 (.tup []) σ0:=by
 refine sv fRev 28 [] (.n<|.f .r) (decide (0<wrap i64 ((nV.length:Int)-1))=false/\([]:List KI)=[]/\Q (D.tup [])) ?_
 exact⟨by decide,rfl,rfl⟩
noncomputable abbrev fWay:Func:= Tryz.f48
noncomputable def cWay:Code:=fWay.body.getD .skip
abbrev cPl(h:Hnt)(m:Mod)(c:Val):List D:=[dVs h.found,dIs h.before,dIs h.rules,di h.next,di h.cand,di h.used,di m.kind,.v (vSs m.states),.v (vSs m.places),.v (vSs m.letters),.v (vIs m.ranks),di m.levels,di m.age,.v (AY m.rules),di m.start.n,dVs m.start.kids,di c.n,dVs c.kids]
abbrev stH(h:Hnt)(m:Mod)(c:Val):St:=⟨[some (cPl h m c)],[]⟩
structure Gw(h:Hnt):Prop where
 ne:h.found≠ []
 len:h.found.length<=128
 size:∀v∈h.found,v.size<=1000
 bl:h.before.length=h.found.length
 rl:h.rules.length=h.found.length
 back:∀(i:Nat) (b:Int),h.before[i]?=some b-> -1<=b/\b<i
def D2(h:Hnt):Nat->Int->List Stp
 |0,_=>[]
 |f+1,n=>if h.before.getD n.toNat 0>=0 then(h.rules.getD n.toNat 0,h.found.getD n.toNat default)::D2 h f (h.before.getD n.toNat 0) else[]
theorem wayL_len(h:Hnt):∀(f:Nat) (n:Int),(D2 h f n).length<=f
 |0,_=>Nat.le_refl _
 |f+1,n=>by
  rw[D2];split
  ·have:=wayL_len h f (h.before.getD n.toNat 0);simp only[length_cons];omega
  ·simp
def wayM(h:Hnt)(n:Int):List Stp:=Du (D2 h 200 n).length 0 (D2 h 200 n)
abbrev Ew(j:Nat)(xs:List Stp):List (Option (List D)):=replicate j none++[some (Aa (xs.map vSt))]
theorem hole_get(x:List D)(j:Nat)(xs:List Stp):(some x::Ew j xs)[j+1]?=some (some (Aa (xs.map vSt))):=by
 rw[List.getElem?_cons_succ,Ew,getElem?_append_right (by simp)];simp
theorem hole_len(x:List D)(j:Nat)(xs:List Stp):(some x::Ew j xs).length=j+2:=by simp[Ew]
theorem hole_set(x:List D)(j:Nat)(xs:List Stp)(o:Option (List D)):(some x::Ew j xs).set (j+1) o=some x::(replicate j none++[o]):=by
 rw[set_cons_succ,Ew,List.set_append_right _ _ (by simp)];simp
theorem way_loop(h:Hnt)(hh:Gw h)(m:Mod)(c:Val)(f:Nat):∀(n j:Nat) (xs:List Stp),n<f->n<h.found.length->xs≠ []->xs.length+f<=200->
  Rn PP fWay 1 (.v (BS (Du (xs++D2 h f n).length 0 (xs++D2 h f n)))) (stH h m c) ([.lp (sub cWay [1,1,0,0,0]),.blk 0,.code (sub cWay [1,1,1])]++[]) (mkE 47 [(0,.ptr 0 0),(1,di n),(5,.gro (j+1) xs.length 3)]) ⟨some (cPl h m c)::Ew j xs,[]⟩:=by
 induction f with
 |zero=>intro n j xs h1;omega
 |succ f ih=>
  intro n j xs h1 h3 h4 h5
  obtain⟨b,hb⟩:∃b,h.before[n]?=some b:=⟨_,getElem?_eq_getElem (by rw[hh.bl];exact h3)⟩
  obtain⟨rl,hr⟩:∃b,h.rules[n]?=some b:=⟨_,getElem?_eq_getElem (by rw[hh.rl];exact h3)⟩
  obtain⟨v,hv⟩:∃b,h.found[n]?=some b:=⟨_,getElem?_eq_getElem h3⟩
  have hbk:=hh.back n b hb
  by_cases hb0:b>=0
  ·refine lv 47 [] (.x (vi b)<|.t<|.x (vi rl)<|.h (.xs (Ad v))<|.c (dV v)<|.h (.gx (Aa (xs.map vSt)) (some (cPl h m c)::Ew (j+1) (xs++[(rl,v)])))<|.x (vi b)<|.l [ke 0,ch 1 (di b.toNat),ch 5 (.gro (j+2) (xs++[(rl,v)]).length 3)]) (0<=(n:Int)/\(map vi h.before)[Int.toNat (n:Int)]?=some (vi b)/\decide (b>=0)=true/\0<=(n:Int)/\(map vi h.rules)[Int.toNat (n:Int)]?=some (vi rl)/\Q 2/\0<=(n:Int)/\(map eV h.found)[Int.toNat (n:Int)]?=some (Ad v)/\F0 25 [dV v] (dV v)/\(some (cPl h m c)::Ew j xs)[j+1]?=some (some (Aa (map vSt xs)))/\length (Aa (map vSt xs))=length xs*3/\[V.agg [vi rl,vi v.n,vVs v.kids]]≠ []/\(∀(y:V),y∈ [V.agg [vi rl,vi v.n,vVs v.kids]]->V.size y=3)/\Ar (length xs+length (V.agg (vi rl::vi v.n::vVs v.kids::nV)::nV)) 40/\GxOK (St.mk (some (cPl h m c)::Ew j xs) []).H (some (cPl h m c)::Ew (j+1) (xs++[(rl,v)])) (j+1) (Aa (map vSt xs)++Aa [V.agg [vi rl,vi v.n,vVs v.kids]])/\(True/\True/\True)/\0<=(n:Int)/\(map vi h.before)[Int.toNat (n:Int)]?=some (vi b)/\di b=di (↑(Int.toNat b):Int)/\D.gro (length (St.mk (some (cPl h m c)::Ew j xs) []).H) (length xs+length (V.agg (vi rl::vi v.n::vVs v.kids::nV)::nV)) 3=D.gro (j+2) (length (xs++[(rl,v)])) 3/\I0 fWay 1 (D.v (BS (Du (length (xs++D2 h (f+1) (n:Int))) 0 (xs++D2 h (f+1) (n:Int))))) (stH h m c) [kl cWay [1,1,0,0,0],KI.blk 0,kc cWay [1,1,1]] (mkE 47 [(0,D.ptr 0 0),(1,di (↑(Int.toNat b):Int)),(5,D.gro (j+2) (length (xs++[(rl,v)])) 3)]) (St.mk (some (cPl h m c)::Ew (j+1) (xs++[(rl,v)])) [])) ?_
   have hw:D2 h (f+1) n=(rl,v)::D2 h f b:=by
    rw[D2,Int.toNat_natCast,getD_eq_getElem?_getD,getD_eq_getElem?_getD,getD_eq_getElem?_getD,hb,hr,hv]
    simp only[Option.getD_some];rw[if_pos hb0]
   obtain⟨b',rfl⟩:∃b':Nat,b=b':=⟨b.toNat,by omega⟩
   have e:Aa (xs.map vSt)++Aa [V.agg [vi rl,vi v.n,vVs v.kids]]=Aa ((xs++[(rl,v)]).map vSt):=by rw[Ho];rfl
   have hi:=ih b' (j+1) (xs++[(rl,v)]) (by omega) (by omega) (by simp)
   rw[hw,show xs++(rl,v)::D2 h f (b':Int)=(xs++[(rl,v)])++D2 h f (b':Int) by simp,e]
   refine⟨by omega,Ao hb,decide_eq_true hb0,by omega,Ao hr,rfl,by omega,Az hv,EF _ v (Nat.le_refl _) (by have:=hh.size v (mem_of_getElem? hv);omega),hole_get _ _ _,E6 _,by simp,fun y hy=>by rw[mem_singleton.1 hy];rfl,⟨?_,?_⟩,⟨?_⟩,⟨trivial,trivial,trivial⟩,by omega,Ao hb,rfl,?_,⟨?_⟩⟩
   ·simp only[length_cons,length_nil];omega
   ·simp only[length_cons,length_nil];omega
   ·show _=(some (cPl h m c)::Ew j xs).set (j+1) none++_
    rw[hole_set]
    simp[Ew,List.replicate_succ']
   ·rw[hole_len];simp
   ·exact hi (by simp;omega)
  ·refine lv 47 [] (.x (vi b)<|.f<|.h (.q 5 0)<|.h (.ga 5)<|.h (.q 5 1)<|.h (.oc (.tup []) ⟨some (cPl h m c)::Ew j (Du xs.length 0 xs),[]⟩)<|.h (.q 6 0)<|.h (.ct 5 (.v (BS (Du xs.length 0 xs))) ⟨some (cPl h m c)::(replicate (j+1) none),[]⟩) .r) (0<=(n:Int)/\(map vi h.before)[Int.toNat (n:Int)]?=some (vi b)/\decide (b>=0)=false/\(∀(o:Oper) (c_1:Call) (fo:Operand),o.op=Op.call c_1->c_1.callee=Callee.value fo->Ai PP o [D.v (V.fn 66 [] []),D.arr (j+1) 0 xs.length] (St.mk (some (cPl h m c)::Ew j xs) []) (D.tup []) (St.mk (some (cPl h m c)::Ew j (Du xs.length 0 xs)) []))/\(∀(e:List D),e[5]?=some (D.arr (j+1) 0 xs.length)->∀(E:Ent) (g:Gh) (a:Act) (w:World),FI E g (St.mk (some (cPl h m c)::Ew j (Du xs.length 0 xs)) []) e a w->∃g',FI E g' (St.mk (some (cPl h m c)::replicate (j+1) none) []) (List.set e 5 (D.v (BS (Du xs.length 0 xs)))) a w)/\Q [some (cPl h m c)]/\D.v (BS (Du xs.length 0 xs))=D.v (BS (Du (length (xs++D2 h (f+1) (n:Int))) 0 (xs++D2 h (f+1) (n:Int))))) ?_
   have hw:D2 h (f+1) n=[]:=by
    rw[D2,Int.toNat_natCast,getD_eq_getElem?_getD,hb]
    simp only[Option.getD_some];rw[if_neg hb0]
   rw[hw,append_nil]
   refine⟨by omega,Ao hb,decide_eq_false hb0,fun o c' fo ho hc=>?_,fun e he=>?_,rfl,rfl⟩
   ·have:=GE (σ:=⟨some (cPl h m c)::Ew j xs,[]⟩) (fs:=[]) (cs:=[]) (ds:=[.arr (j+1) 0 xs.length]) (d:=.tup []) ho hc (q:=j+1) (hole_get _ _ _) (As _) (As _) (.arr .nil) (by rfl) (by simpa using rev_spec xs (by omega))
    rwa[hole_set] at this
   ·have:=cv_flz (σ:=⟨some (cPl h m c)::Ew j (Du xs.length 0 xs),[]⟩) (q:=j+1) (t:=5) (sz:=3) (xs:=(Du xs.length 0 xs).map vSt) (by decide) (fun x hx=>by obtain⟨s,_,rfl⟩:=mem_map.1 hx;rfl) (by rw[length_map,revS_len]) (hole_get _ _ _) he
    rw[hole_set] at this
    rwa[show replicate j none++[none]=replicate (j+1) (none:Option (List D)) by rw[List.replicate_succ']] at this
theorem way_spec(h:Hnt)(hh:Gw h)(m:Mod)(c:Val)(n:Nat)(hn:n<h.found.length):Ab PP 48 [.ptr 0 0,di n] (stH h m c) (.v (BS (wayM h n))) (stH h m c):=by
 obtain⟨b,hb⟩:∃b,h.before[n]?=some b:=⟨_,getElem?_eq_getElem (by rw[hh.bl];exact hn)⟩
 obtain⟨rl,hr⟩:∃b,h.rules[n]?=some b:=⟨_,getElem?_eq_getElem (by rw[hh.rl];exact hn)⟩
 obtain⟨v,hv⟩:∃b,h.found[n]?=some b:=⟨_,getElem?_eq_getElem hn⟩
 have hbk:=hh.back n b hb
 have hlen:=hh.len
 by_cases hb0:b>=0
 ·refine sv fWay 47 [] (.n<|.x (vi b)<|.t<|.x (vi rl)<|.h (.xs (Ad v))<|.c (dV v)<|.h (.gx [] (some (cPl h m c)::Ew 0 [(rl,v)]))<|.x (vi b)<|.l [ke 0,ch 1 (di b.toNat),ch 5 (.gro 1 [(rl,v)].length 3)]) (0<=(n:Int)/\(map vi h.before)[Int.toNat (n:Int)]?=some (vi b)/\decide (b>=0)=true/\0<=(n:Int)/\(map vi h.rules)[Int.toNat (n:Int)]?=some (vi rl)/\Q 2/\0<=(n:Int)/\(map eV h.found)[Int.toNat (n:Int)]?=some (Ad v)/\F0 25 [dV v] (dV v)/\[V.agg [vi rl,vi v.n,vVs v.kids]]≠ []/\(∀(y:V),y∈ [V.agg [vi rl,vi v.n,vVs v.kids]]->V.size y=3)/\Ar 1 40/\some (cPl h m c)::Ew 0 [(rl,v)]=[some (cPl h m c),some [di rl,di v.n,dVs v.kids]]/\(True/\True/\True)/\0<=(n:Int)/\(map vi h.before)[Int.toNat (n:Int)]?=some (vi b)/\di b=di (↑(Int.toNat b):Int)/\Q (D.gro 1 1 3)/\I0 fWay (length (stH h m c).H) (D.v (BS (wayM h (n:Int)))) (stH h m c) [kl cWay [1,1,0,0,0],KI.blk 0,kc cWay [1,1,1]] (mkE 47 [(0,D.ptr 0 0),(1,di (↑(Int.toNat b):Int)),(5,D.gro 1 1 3)]) (St.mk (some (cPl h m c)::Ew 0 [(rl,v)]) [])) ?_
  have hw:D2 h 200 n=(rl,v)::D2 h 199 b:=by
   rw[D2,Int.toNat_natCast,getD_eq_getElem?_getD,getD_eq_getElem?_getD,getD_eq_getElem?_getD,hb,hr,hv]
   simp only[Option.getD_some];rw[if_pos hb0]
  obtain⟨b',rfl⟩:∃b':Nat,b=b':=⟨b.toNat,by omega⟩
  have hi:=way_loop h hh m c 199 b' 0 [(rl,v)] (by omega) (by omega) (by simp) (by simp)
  refine⟨by omega,Ao hb,decide_eq_true hb0,by omega,Ao hr,rfl,by omega,Az hv,EF _ v (Nat.le_refl _) (by have:=hh.size v (mem_of_getElem? hv);omega),by simp,fun y hy=>by rw[mem_singleton.1 hy];rfl,⟨by decide,by decide⟩,rfl,⟨trivial,trivial,trivial⟩,by omega,Ao hb,rfl,rfl,⟨?_⟩⟩
  rw[wayM,hw]
  exact hi
 ·refine sv fWay 47 [] (.n<|.x (vi b)<|.f<|.c (.tup []) .r) (0<=(n:Int)/\(map vi h.before)[Int.toNat (n:Int)]?=some (vi b)/\decide (b>=0)=false/\F0 66 [D.v (V.list [])] (D.tup [])/\Q [some (cPl h m c)]/\D.v (V.list [])=D.v (BS (wayM h (n:Int)))) ?_
  have hw:D2 h 200 n=[]:=by
   rw[D2,Int.toNat_natCast,getD_eq_getElem?_getD,hb]
   simp only[Option.getD_some];rw[if_neg hb0]
  exact⟨by omega,Ao hb,decide_eq_false hb0,rev_nil,rfl,by rw[wayM,hw];rfl⟩
abbrev Ek(h:Hnt)(m:Mod)(c:Val):List D:=[.acc 1 (h.found.map eV),.acc 2 (h.before.map vi),.acc 3 (h.rules.map vi),di h.next,di h.cand,di h.used,di m.kind,.v (vSs m.states),.v (vSs m.places),.v (vSs m.letters),.v (vIs m.ranks),di m.levels,di m.age,.v (AY m.rules),di m.start.n,dVs m.start.kids,di c.n,dVs c.kids]
abbrev zVr:List D:=[db false,db false,.v .nils,.v .nils,di 0,.v .nils,.v .nils,di 0]
theorem EK(h:Hnt)(m:Mod)(c:Val)(H:List (Option (List D)))(own:List (Nat×Nat×List V))(e:List D):Cv e ⟨some (Ek h m c)::H,own⟩ e ⟨some (cPl h m c)::H,own⟩:=
 Dr (σ:=⟨some (Ek h m c)::H,own⟩) (q:=0) (cs:=Ek h m c) (cs':=cPl h m c) rfl (fun g us hr=>by
  have:=DP hr
  simpa[D.un] using this) (fun _ x hx=>by
  simp only[cPl,mem_cons,not_mem_nil,or_false] at hx
  rcases hx with rfl|rfl|rfl|rfl|rfl|rfl|rfl|rfl|rfl|rfl|rfl|rfl|rfl|rfl|rfl|rfl|rfl|rfl<;>rfl) e
noncomputable abbrev fOpn:Func:= Tryz.f45
theorem DR(h:Hnt)(m:Mod)(c:Val):Ab PP 45 [.ptr 0 0] (stH h m c) (BV (An h.used)) (stH h m c):=by
 refine sv fOpn 9 [] .r (Q [some (cPl h m c)]/\D.v (V.agg [V.bool false,V.bool false,V.list [],V.list [],vi 0,V.list [],V.list [],vi h.used])=BV (An h.used)) ?_
 exact⟨rfl,rfl⟩
noncomputable abbrev fYes:Func:= Tryz.f28
theorem yes_spec(h:Hnt)(m:Mod)(c:Val)(l:List Stp):Ab PP 28 [.ptr 0 0,.v (BS l)] (stH h m c) (BV (Cz l h.used)) (stH h m c):=by
 refine sv fYes 12 [] .r (Q [some (cPl h m c)]/\D.v (V.agg [V.bool true,V.bool true,V.list (map vSt l),V.list [],vi 0,V.list [],V.list [],vi h.used])=BV (Cz l h.used)) ?_
 exact⟨rfl,rfl⟩
noncomputable abbrev Gu:Func:= Tryz.f29
noncomputable def H8:Code:=Gu.body.getD .skip
def C0(h:Hnt)(at':Int)(s:Stp):Hnt:=⟨h.found++[s.2],h.before++[at'],h.rules++[s.1],h.next,h.cand,h.used⟩
def BL(c:Val)(at':Int):Hnt->List Stp->Hnt×Vrd×Int
 |h,[]=>(h,An h.used,0)
 |h,s::l=>if decide (F2 h.found s.2>=0)=true then BL c at' h l
  else if decide ((h.found.length:Int)>=128)=true then(h,An 0,1)
  else if (!(Av s.2 c==0))=true then BL c at' (C0 h at' s) l
  else if decide (((wayM (C0 h at' s) h.found.length).length:Int)>64)=true then(C0 h at' s,An 0,1)
  else(C0 h at' s,Cz (wayM (C0 h at' s) h.found.length) h.used,0)
abbrev GN(r:Hnt×Vrd×Int):D:=.tup [BV r.2.1,di r.2.2]
theorem addH_ok{h:Hnt}(hh:Gw h)(hl:h.found.length<128){at':Int}(ha:0<=at'/\at'<h.found.length){s:Stp}(hs:s.2.size<=1000):Gw (C0 h at' s) where
 ne:=by simp[C0]
 len:=by simp only[C0,length_append,length_cons,length_nil];omega
 size:=fun v hv=>by
  rcases mem_append.1 hv with hv|hv
  ·exact hh.size v hv
  ·rw[mem_singleton.1 hv];exact hs
 bl:=by have:=hh.bl;simp[C0];omega
 rl:=by have:=hh.rl;simp[C0];omega
 back:=fun i b hb=>by
  have hbl:=hh.bl
  by_cases hi:i<h.before.length
  ·rw[C0,getElem?_append_left hi] at hb;exact hh.back i b hb
  ·rw[C0,getElem?_append_right (by omega)] at hb
   have:i-h.before.length=0:=by
    have:=(List.getElem?_eq_some_iff.1 hb).1
    simp at this;omega
   rw[this] at hb
   simp at hb;subst hb;omega
abbrev stF(h:Hnt)(m:Mod)(c:Val):St:=⟨[some (Ek h m c),some zVr],owA h⟩
theorem find_loop(m:Mod)(c:Val)(at':Int)(l:List Stp)(hll:l.length<=256)(hls:∀s∈l,s.2.size<=1000)(N:Nat):∀(k:Nat) (h:Hnt),l.length-k=N->Gw h->0<=at'/\at'<h.found.length->
  Rn PP Gu 1 (GN (BL c at' h (l.drop k))) (stH (BL c at' h (l.drop k)).1 m c) ([.lp (sub H8 [1,1,1,1,1,1,0,1,0,0]),.blk 0,.code (sub H8 [1,1,1,1,1,1,1])]++[]) (mkE 143 [(0,.ptr 0 0),(2,.ptr 1 0),(4,di at'),(54,.v (BS l)),(55,di l.length),(56,di k)]) (stF h m c):=by
 induction N with
 |zero=>
  intro k h hn hh ha
  rw[drop_of_length_le (by omega)]
  simp only[BL]
  refine lv 143 [] (.f<|.h (.q 21 0)<|.h (.cs ⟨[some (cPl h m c),some zVr],owA h⟩)<|.c1 (cPl h m c) (BV (An h.used)) .r) (decide ((k:Int)<(l.length:Int))=false/\(∀(e:List D) (E:Ent) (g:Gh) (a:Act) (w:World),FI E g (St.mk [some (Ek h m c),some zVr] [(3,1,map vi h.rules),(2,1,map vi h.before),(1,2,map eV h.found)]) e a w->∃g',FI E g' (St.mk [some (cPl h m c),some zVr] (owA h)) e a w)/\Ab PP 45 [D.ptr 0 0] (St.mk [some (cPl h m c)] []) (BV (An h.used)) (St.mk [some (cPl h m c)] [])/\Q [some (cPl h m c)]/\D.tup [D.v (V.agg [V.bool (An h.used).decided,V.bool (An h.used).yes,V.list [],V.list [],vi (An h.used).mod,V.list [],V.list [],vi (An h.used).used]),di 0]=GN (h,An h.used,0)) ?_
  exact⟨decide_eq_false (by omega),fun e=>EK h m c _ _ e,DR h m c,rfl,rfl⟩
 |succ N ih=>
  intro k h hn hh ha
  have hk:k<l.length:=by omega
  obtain⟨s,hs⟩:∃s,l[k]?=some s:=⟨_,getElem?_eq_getElem hk⟩
  have e3:l.drop k=s::l.drop (k+1):=by rw[drop_eq_getElem_cons hk];congr 1;rw[getElem?_eq_getElem hk] at hs;simpa using hs
  have hss:=hls s (mem_of_getElem? hs)
  rw[e3]
  have hlen:=hh.len
  have hbl:=hh.bl
  have hrl:=hh.rl
  have hidx:=sidx_spec h.found (by omega) (fun v hv=>by have:=hh.size v hv;omega) s.2
  have hown:=EF _ s.2 (Nat.le_refl _) (by omega)
  have hsame:=EA s.2 c (by omega)
  have hA:Ek (C0 h at' s) m c=[D.acc 1 (h.found.map eV++[Ad s.2]),D.acc 2 (h.before.map vi++[vi at']),D.acc 3 (h.rules.map vi++[vi s.1]),di h.next,di h.cand,di h.used,di m.kind,.v (vSs m.states),.v (vSs m.places),.v (vSs m.letters),.v (vIs m.ranks),di m.levels,di m.age,.v (AY m.rules),di m.start.n,dVs m.start.kids,di c.n,dVs c.kids]:=by
   rw[BE]
   show [D.acc 1 ((h.found++[s.2]).map eV),D.acc 2 ((h.before++[at']).map vi),D.acc 3 ((h.rules++[s.1]).map vi),_,_,_,_,_,_,_,_,_,_,_,_,_,_,_]=_
   simp only[map_append,map_cons,map_nil];rfl
  have hO:owA (C0 h at' s)=[(3,1,h.rules.map vi++[vi s.1]),(2,1,h.before.map vi++[vi at']),(1,2,h.found.map eV++[Ad s.2])]:=by
   rw[BE]
   show [(3,1,(h.rules++[s.1]).map vi),(2,1,(h.before++[at']).map vi),(1,2,(h.found++[s.2]).map eV)]=_
   simp only[map_append,map_cons,map_nil]
  have lk:∀{n:Nat} {b:Nat},n<=128->b<=100->Ar (n+1) b:=fun{n b} h1 h2=>⟨by
   have:=Nat.mul_le_mul (show n+1<=129 by omega) h2
   omega,by omega⟩
  by_cases h1:decide (F2 h.found s.2>=0)=true
  ·rw[BL,if_pos h1]
   refine lv 143 [] (.t<|.x (vSt s)<|.c (di (F2 h.found s.2))<|.t<|.ls [ke 0,ke 2,ke 4,ke 54,ke 55,ch 56 (di (k+1:Nat))] (stF h m c)) (decide ((k:Int)<(l.length:Int))=true/\0<=(k:Int)/\(map vSt l)[Int.toNat (k:Int)]?=some (vSt s)/\F0 47 [D.v (V.list (map eV h.found)),dV s.snd] (di (F2 h.found s.snd))/\(True/\True/\True)/\decide (F2 h.found s.snd>=0)=true/\di (wrap i64 ((k:Int)+1))=di (↑(k+1):Int)/\Q [some (Ek h m c),some zVr]/\Q [(3,1,map vi h.rules),(2,1,map vi h.before),(1,2,map eV h.found)]/\I0 Gu 1 (GN (BL c at' h (List.drop (k+1) l))) (stH (BL c at' h (List.drop (k+1) l)).fst m c) [kl H8 [1,1,1,1,1,1,0,1,0,0],KI.blk 0,kc H8 [1,1,1,1,1,1,1]] (mkE 143 [(0,D.ptr 0 0),(2,D.ptr 1 0),(4,di at'),(54,D.v (BS l)),(55,di (l.length:Int)),(56,di (↑(k+1):Int))]) (stF h m c)) ?_
   exact⟨decide_eq_true (by omega),by omega,Ao hs,hidx,⟨trivial,trivial,trivial⟩,h1,Af (by omega),rfl,rfl,⟨ih (k+1) h (by omega) hh ha⟩⟩
  ·have f1:=eq_false_of_ne_true h1
   by_cases h2:decide ((h.found.length:Int)>=128)=true
   ·rw[BL,if_neg h1,if_pos h2]
    refine lv 143 [] (.t<|.x (vSt s)<|.c (di (F2 h.found s.2))<|.f<|.t<|.h (.q 13 0)<|.h (.cs ⟨[some (cPl h m c),some zVr,some [di s.1,di s.2.n,dVs s.2.kids]],owA h⟩) .r) (decide ((k:Int)<(l.length:Int))=true/\0<=(k:Int)/\(map vSt l)[Int.toNat (k:Int)]?=some (vSt s)/\F0 47 [D.v (V.list (map eV h.found)),dV s.snd] (di (F2 h.found s.snd))/\(True/\True/\True)/\decide (F2 h.found s.snd>=0)=false/\decide ((length (map eV h.found):Int)>=128)=true/\(∀(e:List D) (E:Ent) (g:Gh) (a:Act) (w:World),FI E g (St.mk [some (Ek h m c),some zVr,some [D.v (vi s.fst),D.v (vi s.snd.n),dVs s.snd.kids]] [(3,1,map vi h.rules),(2,1,map vi h.before),(1,2,map eV h.found)]) e a w->∃g',FI E g' (St.mk [some (cPl h m c),some zVr,some [di s.fst,di s.snd.n,dVs s.snd.kids]] (owA h)) e a w)/\[some (cPl h m c)]=[some (cPl (h,An 0,1).fst m c)]/\D.tup [D.v (V.agg [V.bool false,V.bool false,V.list [],V.list [],vi 0,V.list [],V.list [],vi 0]),di 1]=GN (h,An 0,1)) ?_
    exact⟨decide_eq_true (by omega),by omega,Ao hs,hidx,⟨trivial,trivial,trivial⟩,f1,by rw[length_map];exact h2,fun e=>EK h m c _ _ e,rfl,rfl⟩
   ·have f2:=eq_false_of_ne_true h2
    have hlt:h.found.length<128:=by have:=of_decide_eq_false f2;omega
    have hok:=addH_ok hh hlt ha hss
    by_cases h3:(!(Av s.2 c==0))=true
    ·rw[BL,if_neg h1,if_neg h2,if_pos h3]
     refine lv 143 [] (.t<|.x (vSt s)<|.c (di (F2 h.found s.2))<|.f<|.f<|.c (dV s.2)<|.c (db (Av s.2 c==0))<|.t<|.ls [ke 0,ke 2,ke 4,ke 54,ke 55,ch 56 (di (k+1:Nat))] (stF (C0 h at' s) m c)) (decide ((k:Int)<(l.length:Int))=true/\0<=(k:Int)/\(map vSt l)[Int.toNat (k:Int)]?=some (vSt s)/\F0 47 [D.v (V.list (map eV h.found)),dV s.snd] (di (F2 h.found s.snd))/\(True/\True/\True)/\decide (F2 h.found s.snd>=0)=false/\decide ((length (map eV h.found):Int)>=128)=false/\F0 25 [dV s.snd] (dV s.snd)/\Q (map eV h.found)/\Ar (length (map eV h.found)+length (Ad s.snd::nV)) 32/\Q (map vi h.before)/\Ar (length (map vi h.before)+length (V.int i64 at'::nV)) 8/\Q (map vi h.rules)/\Ar (length (map vi h.rules)+length (vi s.fst::nV)) 8/\(True/\True/\(Q (some [D.acc 2 (map vi h.before)])/\True)/\(Q (some [D.acc 3 (map vi h.rules)])/\Q (some [D.acc 3 (map vi h.rules)])/\True)/\(Q (some [di s.fst])/\Q (some [di s.fst])/\True)/\True)/\F0 27 [dV s.snd,dV c] (db (Av s.snd c==0))/\(True/\True/\True)/\(!Av s.snd c==0)=true/\di (wrap i64 ((k:Int)+1))=di (↑(k+1):Int)/\[some [D.acc 1 (map eV h.found++Ad s.snd::nV),D.acc 2 (map vi h.before++vi at'::nV),D.acc 3 (map vi h.rules++vi s.fst::nV),di h.next,di h.cand,di h.used,di m.kind,D.v (vSs m.states),D.v (vSs m.places),D.v (vSs m.letters),dIs m.ranks,di m.levels,di m.age,D.v (AY m.rules),di m.start.n,dVs m.start.kids,di c.n,dVs c.kids],some zVr]=[some (Ek (C0 h at' s) m c),some zVr]/\[(3,1,map vi h.rules++vi s.fst::nV),(2,1,map vi h.before++vi at'::nV),(1,2,map eV h.found++Ad s.snd::nV)]=[(3,1,map vi (C0 h at' s).rules),(2,1,map vi (C0 h at' s).before),(1,2,map eV (C0 h at' s).found)]/\I0 Gu 1 (GN (BL c at' (C0 h at' s) (List.drop (k+1) l))) (stH (BL c at' (C0 h at' s) (List.drop (k+1) l)).fst m c) [kl H8 [1,1,1,1,1,1,0,1,0,0],KI.blk 0,kc H8 [1,1,1,1,1,1,1]] (mkE 143 [(0,D.ptr 0 0),(2,D.ptr 1 0),(4,di at'),(54,D.v (BS l)),(55,di (l.length:Int)),(56,di (↑(k+1):Int))]) (stF (C0 h at' s) m c)) ?_
     refine⟨decide_eq_true (by omega),by omega,Ao hs,hidx,⟨trivial,trivial,trivial⟩,f1,by rw[length_map];exact f2,hown,rfl,by rw[length_map];exact lk (by omega) (by decide),rfl,by rw[length_map];exact lk (by omega) (by decide),rfl,by rw[length_map];exact lk (by omega) (by decide),⟨trivial,trivial,⟨rfl,trivial⟩,⟨rfl,rfl,trivial⟩,⟨rfl,rfl,trivial⟩,trivial⟩,hsame,⟨trivial,trivial,trivial⟩,h3,Af (by omega),?_,hO.symm,⟨ih (k+1) (C0 h at' s) (by omega) hok ⟨ha.1,?_⟩⟩⟩
     ·rw[hA]
     ·simp only[C0,length_append,length_cons,length_nil];omega
    ·have f3:=eq_false_of_ne_true h3
     obtain⟨w,hw⟩:∃w,w=wayM (C0 h at' s) h.found.length:=⟨_,rfl⟩
     obtain⟨h',hh'⟩:∃h',h'=C0 h at' s:=⟨_,rfl⟩
     have hway:Ab PP 48 [.ptr 0 0,di (i64.wrap (((h'.found.map eV).length:Nat)-1:Int))] (stH h' m c) (.v (BS w)) (stH h' m c):=by
      subst hh'
      have hl:((C0 h at' s).found.map eV).length=h.found.length+1:=by rw[length_map];simp[C0]
      rw[hl,Aj (by omega) (by omega),show((h.found.length+1:Nat):Int)-1=(h.found.length:Int) by omega,hw]
      exact way_spec _ hok m c h.found.length (by simp[C0])
     have hcv:∀e:List D,Cv e ⟨[some [D.acc 1 (h.found.map eV++[Ad s.2]),D.acc 2 (h.before.map vi++[vi at']),D.acc 3 (h.rules.map vi++[vi s.1]),di h.next,di h.cand,di h.used,di m.kind,.v (vSs m.states),.v (vSs m.places),.v (vSs m.letters),.v (vIs m.ranks),di m.levels,di m.age,.v (AY m.rules),di m.start.n,dVs m.start.kids,di c.n,dVs c.kids],some zVr,some [di s.1,di s.2.n,dVs s.2.kids]],[(3,1,h.rules.map vi++[vi s.1]),(2,1,h.before.map vi++[vi at']),(1,2,h.found.map eV++[Ad s.2])]⟩ e ⟨[some (cPl h' m c),some zVr,some [di s.1,di s.2.n,dVs s.2.kids]],owA h'⟩:=fun e=>by
      have:=EK (C0 h at' s) m c [some zVr,some [di s.1,di s.2.n,dVs s.2.kids]] (owA (C0 h at' s)) e
      rw[hA] at this
      rw[hh', ←hO];exact this
     have hyes:=yes_spec h' m c w
     by_cases h4:decide ((w.length:Int)>64)=true
     ·rw[BL,if_neg h1,if_neg h2,if_neg h3,if_pos (by rw[←hw];exact h4), ←hh']
      refine lv 143 [] (.t<|.x (vSt s)<|.c (di (F2 h.found s.2))<|.f<|.f<|.c (dV s.2)<|.c (db (Av s.2 c==0))<|.f<|.h (.q 16 0)<|.h (.cs ⟨[some (cPl h' m c),some zVr,some [di s.1,di s.2.n,dVs s.2.kids]],owA h'⟩)<|.c1 (cPl h' m c) (.v (BS w))<|.t .r) (decide ((k:Int)<(l.length:Int))=true/\0<=(k:Int)/\(map vSt l)[Int.toNat (k:Int)]?=some (vSt s)/\F0 47 [D.v (V.list (map eV h.found)),dV s.snd] (di (F2 h.found s.snd))/\(True/\True/\True)/\decide (F2 h.found s.snd>=0)=false/\decide ((length (map eV h.found):Int)>=128)=false/\F0 25 [dV s.snd] (dV s.snd)/\Q (map eV h.found)/\Ar (length (map eV h.found)+length (Ad s.snd::nV)) 32/\Q (map vi h.before)/\Ar (length (map vi h.before)+length (V.int i64 at'::nV)) 8/\Q (map vi h.rules)/\Ar (length (map vi h.rules)+length (vi s.fst::nV)) 8/\(True/\True/\(Q (some [D.acc 2 (map vi h.before)])/\True)/\(Q (some [D.acc 3 (map vi h.rules)])/\Q (some [D.acc 3 (map vi h.rules)])/\True)/\(Q (some [di s.fst])/\Q (some [di s.fst])/\True)/\True)/\F0 27 [dV s.snd,dV c] (db (Av s.snd c==0))/\(True/\True/\True)/\(!Av s.snd c==0)=false/\(∀(e:List D) (E:Ent) (g:Gh) (a:Act) (w:World),FI E g (St.mk [some [D.acc 1 (map eV h.found++[Ad s.snd]),D.acc 2 (map vi h.before++[V.int i64 at']),D.acc 3 (map vi h.rules++[vi s.fst]),di h.next,di h.cand,di h.used,di m.kind,D.v (vSs m.states),D.v (vSs m.places),D.v (vSs m.letters),dIs m.ranks,di m.levels,di m.age,D.v (AY m.rules),di m.start.n,dVs m.start.kids,di c.n,dVs c.kids],some zVr,some [D.v (vi s.fst),D.v (vi s.snd.n),dVs s.snd.kids]] [(3,1,map vi h.rules++[vi s.fst]),(2,1,map vi h.before++[V.int i64 at']),(1,2,map eV h.found++[Ad s.snd])]) e a w->∃g',FI E g' (St.mk [some (cPl h' m c),some zVr,some [di s.fst,di s.snd.n,dVs s.snd.kids]] (owA h')) e a w)/\Ab PP 48 [D.ptr 0 0,di (wrap i64 ((length (map eV h'.found):Int)-1))] (St.mk [some (cPl h' m c)] []) (D.v (BS w)) (St.mk [some (cPl h' m c)] [])/\decide ((length (map vSt w):Int)>64)=true/\[some (cPl h' m c)]=[some (cPl (h',An 0,1).fst m c)]/\D.tup [D.v (V.agg [V.bool false,V.bool false,V.list [],V.list [],vi 0,V.list [],V.list [],vi 0]),di 1]=GN (h',An 0,1)) ?_
      exact⟨decide_eq_true (by omega),by omega,Ao hs,hidx,⟨trivial,trivial,trivial⟩,f1,by rw[length_map];exact f2,hown,rfl,by rw[length_map];exact lk (by omega) (by decide),rfl,by rw[length_map];exact lk (by omega) (by decide),rfl,by rw[length_map];exact lk (by omega) (by decide),⟨trivial,trivial,⟨rfl,trivial⟩,⟨rfl,rfl,trivial⟩,⟨rfl,rfl,trivial⟩,trivial⟩,hsame,⟨trivial,trivial,trivial⟩,f3,hcv,hway,by rw[length_map];exact h4,rfl,rfl⟩
     ·rw[BL,if_neg h1,if_neg h2,if_neg h3,if_neg (by rw[←hw];exact h4), ←hw, ←hh']
      refine lv 143 [] (.t<|.x (vSt s)<|.c (di (F2 h.found s.2))<|.f<|.f<|.c (dV s.2)<|.c (db (Av s.2 c==0))<|.f<|.h (.q 16 0)<|.h (.cs ⟨[some (cPl h' m c),some zVr,some [di s.1,di s.2.n,dVs s.2.kids]],owA h'⟩)<|.c1 (cPl h' m c) (.v (BS w))<|.f<|.c1 (cPl h' m c) (BV (Cz w h.used)) .r) (decide ((k:Int)<(l.length:Int))=true/\0<=(k:Int)/\(map vSt l)[Int.toNat (k:Int)]?=some (vSt s)/\F0 47 [D.v (V.list (map eV h.found)),dV s.snd] (di (F2 h.found s.snd))/\(True/\True/\True)/\decide (F2 h.found s.snd>=0)=false/\decide ((length (map eV h.found):Int)>=128)=false/\F0 25 [dV s.snd] (dV s.snd)/\Q (map eV h.found)/\Ar (length (map eV h.found)+length (Ad s.snd::nV)) 32/\Q (map vi h.before)/\Ar (length (map vi h.before)+length (V.int i64 at'::nV)) 8/\Q (map vi h.rules)/\Ar (length (map vi h.rules)+length (vi s.fst::nV)) 8/\(True/\True/\(Q (some [D.acc 2 (map vi h.before)])/\True)/\(Q (some [D.acc 3 (map vi h.rules)])/\Q (some [D.acc 3 (map vi h.rules)])/\True)/\(Q (some [di s.fst])/\Q (some [di s.fst])/\True)/\True)/\F0 27 [dV s.snd,dV c] (db (Av s.snd c==0))/\(True/\True/\True)/\(!Av s.snd c==0)=false/\(∀(e:List D) (E:Ent) (g:Gh) (a:Act) (w:World),FI E g (St.mk [some [D.acc 1 (map eV h.found++[Ad s.snd]),D.acc 2 (map vi h.before++[V.int i64 at']),D.acc 3 (map vi h.rules++[vi s.fst]),di h.next,di h.cand,di h.used,di m.kind,D.v (vSs m.states),D.v (vSs m.places),D.v (vSs m.letters),dIs m.ranks,di m.levels,di m.age,D.v (AY m.rules),di m.start.n,dVs m.start.kids,di c.n,dVs c.kids],some zVr,some [D.v (vi s.fst),D.v (vi s.snd.n),dVs s.snd.kids]] [(3,1,map vi h.rules++[vi s.fst]),(2,1,map vi h.before++[V.int i64 at']),(1,2,map eV h.found++[Ad s.snd])]) e a w->∃g',FI E g' (St.mk [some (cPl h' m c),some zVr,some [di s.fst,di s.snd.n,dVs s.snd.kids]] (owA h')) e a w)/\Ab PP 48 [D.ptr 0 0,di (wrap i64 ((length (map eV h'.found):Int)-1))] (St.mk [some (cPl h' m c)] []) (D.v (BS w)) (St.mk [some (cPl h' m c)] [])/\decide ((length (map vSt w):Int)>64)=false/\Ab PP 28 [D.ptr 0 0,D.v (BS w)] (St.mk [some (cPl h' m c)] []) (BV (Cz w h.used)) (St.mk [some (cPl h' m c)] [])/\[some (cPl h' m c)]=[some (cPl (h',Cz w h.used,0).fst m c)]/\D.tup [D.v (V.agg [V.bool (Cz w h.used).decided,V.bool (Cz w h.used).yes,V.list (map vSt (Cz w h.used).run),V.list [],vi (Cz w h.used).mod,V.list [],V.list [],vi (Cz w h.used).used]),di 0]=GN (h',Cz w h.used,0)) ?_
      rw[show h'.used=h.used by rw[hh'];rfl] at hyes
      exact⟨decide_eq_true (by omega),by omega,Ao hs,hidx,⟨trivial,trivial,trivial⟩,f1,by rw[length_map];exact f2,hown,rfl,by rw[length_map];exact lk (by omega) (by decide),rfl,by rw[length_map];exact lk (by omega) (by decide),rfl,by rw[length_map];exact lk (by omega) (by decide),⟨trivial,trivial,⟨rfl,trivial⟩,⟨rfl,rfl,trivial⟩,⟨rfl,rfl,trivial⟩,trivial⟩,hsame,⟨trivial,trivial,trivial⟩,f3,hcv,hway,by rw[length_map];exact eq_false_of_ne_true h4,hyes,rfl,rfl⟩
theorem idx_val'{a:List Val}{n:Int}{x:Val}(h:a[n.toNat]?=some x):(a.map eV)[n.toNat]?=some (Ad x):=by rw[getElem?_map,h, ←AN];rfl
def AV(m:Mod)(c:Val)(h:Hnt):Hnt×Vrd×Int:=if decide (h.next>=(h.found.length:Int))=true then(h,An h.used,0)
 else if ((Dk m (h.found.getD h.next.toNat default)).2 !=0)=true then(h,An 0,(Dk m (h.found.getD h.next.toNat default)).2)
 else BL c h.next ⟨h.found,h.before,h.rules,h.next+1,h.cand,h.used⟩ (Dk m (h.found.getD h.next.toNat default)).1
theorem find_spec(m:Mod)(hm:PlC m)(c:Val)(h:Hnt)(hh:Gw h)(hn:0<=h.next)(hn2:h.next<=1000)(hf:∀v∈h.found,AC m v):Ab PP 29 [.ptr 0 0] ⟨[some (Ek h m c)],owA h⟩ (GN (AV m c h)) (stH (AV m c h).1 m c):=by
 by_cases h1:decide (h.next>=(h.found.length:Int))=true
 ·rw[AV,if_pos h1]
  refine sv Gu 143 [] (.t<|.h (.q 3 0)<|.h (.cs ⟨[some (cPl h m c),some zVr],owA h⟩)<|.c1 (cPl h m c) (BV (An h.used)) .r) (decide (h.next>=(length (map eV h.found):Int))=true/\(∀(e:List D) (E:Ent) (g:Gh) (a:Act) (w:World),FI E g (St.mk [some (Ek h m c),some [D.v (V.bool false),D.v (V.bool false),dn,dn,D.v (V.int i64 0),dn,dn,D.v (V.int i64 0)]] [(3,1,map vi h.rules),(2,1,map vi h.before),(1,2,map eV h.found)]) e a w->∃g',FI E g' (St.mk [some (cPl h m c),some zVr] (owA h)) e a w)/\Ab PP 45 [D.ptr 0 0] (St.mk [some (cPl h m c)] []) (BV (An h.used)) (St.mk [some (cPl h m c)] [])/\[some (cPl h m c)]=[some (cPl (h,An h.used,0).fst m c)]/\D.tup [D.v (V.agg [V.bool (An h.used).decided,V.bool (An h.used).yes,V.list [],V.list [],vi (An h.used).mod,V.list [],V.list [],vi (An h.used).used]),di 0]=GN (h,An h.used,0)) ?_
  exact⟨by rw[length_map];exact h1,fun e=>EK h m c _ _ e,DR h m c,rfl,rfl⟩
 ·have f1:=eq_false_of_ne_true h1
  have hlt:=of_decide_eq_false f1
  obtain⟨v,hv⟩:∃v,h.found[h.next.toNat]?=some v:=⟨_,getElem?_eq_getElem (show h.next.toNat<h.found.length by omega)⟩
  have hvc:=hf v (mem_of_getElem? hv)
  have hall:=sall_spec m hm v hvc
  have hst:=F8 hm hvc
  have e1:h.found.getD h.next.toNat default=v:=by rw[getD_eq_getElem?_getD,hv];rfl
  rw[AV,if_neg h1,e1]
  generalize Dk m v=p at*
  by_cases h2:(p.2 !=0)=true
  ·rw[if_pos h2]
   refine sv Gu 143 [] (.f<|.h (.xs (Ad v))<|.c (dSP p)<|.t<|.h (.q 6 0)<|.h (.cs ⟨[some (cPl h m c),some zVr],owA h⟩) .r) (decide (h.next>=(length (map eV h.found):Int))=false/\Q 2/\0<=h.next/\(map eV h.found)[Int.toNat h.next]?=some (Ad v)/\F0 46 [Ah m,dV v] (dSP p)/\(True/\True/\True)/\(p.snd !=0)=true/\(∀(e:List D) (E:Ent) (g:Gh) (a:Act) (w:World),FI E g (St.mk [some (Ek h m c),some [D.v (V.bool false),D.v (V.bool false),dn,dn,D.v (V.int i64 0),dn,dn,D.v (V.int i64 0)]] [(3,1,map vi h.rules),(2,1,map vi h.before),(1,2,map eV h.found)]) e a w->∃g',FI E g' (St.mk [some (cPl h m c),some zVr] (owA h)) e a w)/\[some (cPl h m c)]=[some (cPl (h,An 0,p.snd).fst m c)]/\D.tup [D.v (V.agg [V.bool false,V.bool false,V.list [],V.list [],vi 0,V.list [],V.list [],vi 0]),di p.snd]=GN (h,An 0,p.snd)) ?_
   exact⟨by rw[length_map];exact f1,rfl,hn,idx_val' hv,hall,⟨trivial,trivial,trivial⟩,h2,fun e=>EK h m c _ _ e,rfl,rfl⟩
  ·rw[if_neg h2]
   obtain⟨h',hh'⟩:∃h':Hnt,h'=⟨h.found,h.before,h.rules,h.next+1,h.cand,h.used⟩:=⟨_,rfl⟩
   rw[←hh']
   refine sv Gu 143 [] (.f<|.h (.xs (Ad v))<|.c (dSP p)<|.f<|.ls [ke 0,ke 2,ke 4,ch 54 (.v (BS p.1)),ch 55 (di p.1.length),ch 56 (di (0:Nat))] (stF h' m c)) (decide (h.next>=(length (map eV h.found):Int))=false/\Q 2/\0<=h.next/\(map eV h.found)[Int.toNat h.next]?=some (Ad v)/\F0 46 [Ah m,dV v] (dSP p)/\(True/\True/\True)/\(p.snd !=0)=false/\Q (D.v (BS p.fst))/\di (length (map vSt p.fst):Int)=di (p.fst.length:Int)/\di 0=di (↑0:Int)/\[some [D.acc 1 (map eV h.found),D.acc 2 (map vi h.before),D.acc 3 (map vi h.rules),di (wrap i64 (h.next+1)),di h.cand,di h.used,di m.kind,D.v (vSs m.states),D.v (vSs m.places),D.v (vSs m.letters),dIs m.ranks,di m.levels,di m.age,D.v (AY m.rules),di m.start.n,dVs m.start.kids,di c.n,dVs c.kids],some [db false,db false,dn,dn,di 0,dn,dn,di 0]]=[some (Ek h' m c),some zVr]/\[(3,1,map vi h.rules),(2,1,map vi h.before),(1,2,map eV h.found)]=[(3,1,map vi h'.rules),(2,1,map vi h'.before),(1,2,map eV h'.found)]/\I0 Gu (length (St.mk [some (Ek h m c)] (owA h)).H) (GN (BL c h.next h' p.fst)) (stH (BL c h.next h' p.fst).fst m c) [kl H8 [1,1,1,1,1,1,0,1,0,0],KI.blk 0,kc H8 [1,1,1,1,1,1,1]] (mkE 143 [(0,D.ptr 0 0),(2,D.ptr 1 0),(4,di h.next),(54,D.v (BS p.fst)),(55,di (p.fst.length:Int)),(56,di (↑0:Int))]) (stF h' m c)) ?_
   have hlen:=hh.len
   have hk':Gw h':=by rw[hh'];exact⟨hh.ne,hh.len,hh.size,hh.bl,hh.rl,hh.back⟩
   have hl:=find_loop m c h.next p.1 (by omega) (fun s hs=>by have:=(hst.2.2 s hs).ok.size hm;omega) _ 0 h' rfl hk' (by rw[hh'];exact⟨hn,by show h.next<(h.found.length:Int);omega⟩)
   refine⟨by rw[length_map];exact f1,rfl,hn,idx_val' hv,hall,⟨trivial,trivial,trivial⟩,eq_false_of_ne_true h2,rfl,by rw[length_map],rfl,?_,by rw[hh'],⟨by simpa using hl⟩⟩
   rw[hh',Aj (by omega) (by omega)]
abbrev OMG:Int:=1099511627776
def Cd:List Int->List Int->Int
 |c::cs,v::vs=>c*v+Cd cs vs
 |_,_=>0
noncomputable abbrev fISum:Func:= Tryz.f86
noncomputable def cISum:Code:=fISum.body.getD .skip
theorem mul_bd{c v:Int}(hc: -4<=c/\c<=4)(hv:0<=v/\v<=1048576): -4194304<=c*v/\c*v<=4194304:=by
 have h:c= -4∨c= -3∨c= -2∨c= -1∨c=0∨c=1∨c=2∨c=3∨c=4:=by omega
 rcases h with rfl|rfl|rfl|rfl|rfl|rfl|rfl|rfl|rfl<;>omega
theorem EW:∀(cs vs:List Int),(∀c∈cs, -4<=c/\c<=4)->(∀v∈vs,0<=v/\v<=1048576)-> -(4194304*cs.length)<=Cd cs vs/\Cd cs vs<=4194304*cs.length
 |[],_,_,_=>by simp[Cd]
 |c::cs,[],_,_=>by simp only[Cd,length_cons];omega
 |c::cs,v::vs,hc,hv=>by
  have h1:=EW cs vs (fun c h=>hc c (by simp[h])) (fun v h=>hv v (by simp[h]))
  have h2:=mul_bd (hc c (by simp)) (hv v (by simp))
  simp only[Cd,length_cons];omega
theorem isum_loop(cs vs:List Int)(hl:cs.length<=vs.length)(hl2:cs.length<=100)(hc:∀c∈cs, -4<=c/\c<=4)(hv:∀v∈vs,0<=v/\v<=1048576)(N:Nat):∀(k:Nat) (a:Int),cs.length-k=N->k<=cs.length-> -(4194304*(k:Int))<=a/\a<=4194304*(k:Int)->
  Rn PP fISum 0 (di (a+Cd (cs.drop k) (vs.drop k))) σ0 ([.lp (sub cISum [1,1,0,1,0,0]),.blk 0,.code (sub cISum [1,1,1])]++[]) (mkE 25 [(1,dIs vs),(5,di a),(8,dIs cs),(9,di cs.length),(10,di k)]) σ0:=by
 induction N with
 |zero=>
  intro k a hn hk ha
  refine lv 25 [] (.f .r) (decide ((k:Int)<(cs.length:Int))=false/\di a=di (a+Cd (List.drop k cs) (List.drop k vs))) ?_
  refine⟨decide_eq_false (by omega),?_⟩
  rw[drop_of_length_le (show cs.length<=k by omega)];simp only[Cd,Int.add_zero]
 |succ N ih=>
  intro k a hn hk ha
  obtain⟨c,hc1⟩:∃c,cs[k]?=some c:=⟨_,getElem?_eq_getElem (show k<cs.length by omega)⟩
  obtain⟨v,hv1⟩:∃v,vs[k]?=some v:=⟨_,getElem?_eq_getElem (show k<vs.length by omega)⟩
  refine lv 25 [] (.t<|.x (vi c)<|.x (vi v)<|.l [ke 1,ch 5 (di (a+c*v)),ke 8,ke 9,ch 10 (di (k+1:Nat))]) (decide ((k:Int)<(cs.length:Int))=true/\0<=(k:Int)/\(map vi cs)[Int.toNat (k:Int)]?=some (vi c)/\0<=(k:Int)/\(map vi vs)[Int.toNat (k:Int)]?=some (vi v)/\di (wrap i64 (a+wrap i64 (c*v)))=di (a+c*v)/\di (wrap i64 ((k:Int)+1))=di (↑(k+1):Int)/\I0 fISum 0 (di (a+Cd (List.drop k cs) (List.drop k vs))) σ0 [kl cISum [1,1,0,1,0,0],KI.blk 0,kc cISum [1,1,1]] (mkE 25 [(1,dIs vs),(5,di (a+c*v)),(8,dIs cs),(9,di (cs.length:Int)),(10,di (↑(k+1):Int))]) σ0) ?_
  have h2:=mul_bd (hc c (mem_of_getElem? hc1)) (hv v (mem_of_getElem? hv1))
  have e3:cs.drop k=c::cs.drop (k+1):=by rw[drop_eq_getElem_cons (by omega)];congr 1;rw[getElem?_eq_getElem (by omega)] at hc1;simpa using hc1
  have e4:vs.drop k=v::vs.drop (k+1):=by rw[drop_eq_getElem_cons (by omega)];congr 1;rw[getElem?_eq_getElem (by omega)] at hv1;simpa using hv1
  have hi:=ih (k+1) (a+c*v) (by omega) (by omega) (by omega)
  rw[e3,e4]
  simp only[Cd]
  rw[←Int.add_assoc]
  refine⟨decide_eq_true (by omega),by omega,Ao hc1,by omega,Ao hv1,?_,Af (by omega),⟨hi⟩⟩
  rw[Aj (n:=c*v) (by omega) (by omega),Aj (by omega) (by omega)]
theorem Hl(cs vs:List Int)(hl:cs.length<=vs.length)(hl2:cs.length<=100)(hc:∀c∈cs, -4<=c/\c<=4)(hv:∀v∈vs,0<=v/\v<=1048576):Ab PP 86 [dIs cs,dIs vs] σ0 (di (Cd cs vs)) σ0:=by
 refine sv fISum 25 [] (.l [ke 1,ke 5,ke 8,ch 9 (di cs.length),ch 10 (di (0:Nat))]) (di (length (map vi cs):Int)=di (cs.length:Int)/\di 0=di (↑0:Int)/\I0 fISum σ0.H.length (di (Cd cs vs)) σ0 [kl cISum [1,1,0,1,0,0],KI.blk 0,kc cISum [1,1,1]] (mkE 25 [(1,dIs vs),(5,di 0),(8,dIs cs),(9,di (cs.length:Int)),(10,di (↑0:Int))]) σ0) ?_
 have:=isum_loop cs vs hl hl2 hc hv _ 0 0 rfl (by omega) (by omega)
 simp only[Int.zero_add,drop_zero] at this
 exact⟨by rw[length_map],rfl,⟨this⟩⟩
noncomputable abbrev fIRest:Func:= Tryz.f88
theorem irest_spec(n k:Int)(hk:1<=k/\k<=100)(hn: -1125899906842624<=n/\n<=1125899906842624):Ab PP 88 [di n,di k] σ0 (di (n%k)) σ0:=by
 refine sv fIRest 12 [] .r (k≠0/\k≠0/\di (Int.tmod (wrap i64 (Int.tmod n k+k)) k)=di (n%k)) ?_
 have h1:=Int.lt_tmod_of_pos n (show 0<k by omega)
 have h2:=Int.tmod_lt_of_pos n (show 0<k by omega)
 have e1:i64.wrap (n.tmod k+k)=n.tmod k+k:=Aj (by omega) (by omega)
 rw[e1]
 refine⟨by omega,by omega,?_⟩
 congr 3
 rw[Int.tmod_eq_emod_of_nonneg (by omega),Int.add_emod_right]
 have e:=Int.mul_tdiv_add_tmod n k
 conv=>rhs;rw[←e,Int.add_comm,Int.add_mul_emod_self_left]
noncomputable abbrev fIEff:Func:= Tryz.f125
def BU(cs:List Int)(r:Rul):Int:=Cd cs r.give-Cd cs r.need
theorem ieff_spec(m:Mod)(r:Rul)(hr:RulOK m r)(cs:List Int)(hl:cs.length=m.places.length)(hl2:cs.length<=2)(hc:∀c∈cs, -4<=c/\c<=4):Ab PP 125 [dIs cs,BK r] σ0 (di (BU cs r)) σ0:=by
 have b1:∀v∈r.give,0<=v/\v<=1048576:=fun v hv=>by have:=hr.give v hv;omega
 have b2:∀v∈r.need,0<=v/\v<=1048576:=fun v hv=>by have:=hr.need v hv;omega
 refine sv fIEff 14 [3] (.c (di (Cd cs r.give))<|.c (di (Cd cs r.need)) .r) (F0 86 [dIs cs,dIs r.give] (di (Cd cs r.give))/\F0 86 [dIs cs,dIs r.need] (di (Cd cs r.need))/\di (wrap i64 (Cd cs r.give-Cd cs r.need))=di (BU cs r)) ?_
 have h1:=EW cs r.give hc b1
 have h2:=EW cs r.need hc b2
 refine⟨Hl cs r.give (by rw[hl,hr.giveL];exact Nat.le_refl _) (by omega) hc b1,Hl cs r.need (by rw[hl,hr.needL];exact Nat.le_refl _) (by omega) hc b2,?_⟩
 rw[Aj (by omega) (by omega)];rfl
noncomputable abbrev fIFit:Func:= Tryz.f83
noncomputable abbrev fIFit1:Func:= Tryz.f119
def fitB(c:Int):Bool:=decide (c< -4)||decide (c>4)
theorem ifit1_spec(c:Int):Ab PP 119 [di c] σ0 (db (fitB c)) σ0:=by
 refine sv fIFit1 9 [] (.b .r .r) ((decide (c< -4)=true->db true=db (fitB c))/\(decide (c< -4)=false->db (decide (c>4))=db (fitB c))) ?_
 refine⟨fun h=>?_,fun h=>?_⟩
 ·rw[fitB,h,Bool.true_or]
 ·rw[fitB,h,Bool.false_or]
theorem ifit_spec(cs:List Int)(hl:cs.length<=1000):Ab PP 83 [dIs cs] σ0 (db (!cs.any fitB)) σ0:=by
 refine sv fIFit 6 [] (.c (db (cs.any fitB)) .r) (F0 118 [dIs cs,D.v (V.fn 119 [] [])] (db (List.any cs fitB))/\(db !List.any cs fitB)=db !List.any cs fitB) ?_
 exact⟨Cw _ [] [] fitB cs (by omega) fun c _=>ifit1_spec c,rfl⟩
noncomputable abbrev fIMod:Func:= Tryz.f84
def modB(k:Int):Bool:=(k==0)||(decide (k>=2)&&decide (k<=8))
theorem imod_spec(k:Int):Ab PP 84 [di k] σ0 (db (modB k)) σ0:=by
 refine sv fIMod 13 [] (.b .r (.b .r .r)) (((k==0)=true->db true=db (modB k))/\((k==0)=false->(decide (k>=2)=true->db (decide (k<=8))=db (modB k))/\(decide (k>=2)=false->db false=db (modB k)))) ?_
 refine⟨fun h=>?_,fun h=>⟨fun h2=>?_,fun h2=>?_⟩⟩
 ·rw[modB,h,Bool.true_or]
 ·rw[modB,h,h2,Bool.false_or,Bool.true_and]
 ·rw[modB,h,h2,Bool.false_or,Bool.false_and]
noncomputable abbrev fSCnt:Func:= Tryz.f82
theorem plainB_plc{m:Mod}(hm:PlC m):D8 m=true:=by
 simp only[D8,hm.kind,Bool.and_eq_true,all_eq_true]
 refine⟨rfl,fun r hr=>?_⟩
 rw[hm.move r hr];rfl
theorem Ha(m:Mod)(hm:PlC m):Ab PP 82 [Ah m] σ0 (di 0) σ0:=by
 refine sv fSCnt 12 [1] (.c (di 0)<|.c (db true) .r) (F0 59 [Ah m] (di 0)/\F0 55 [Ah m] (db true)/\Q (di 0)) ?_
 have h:=spl_spec m (by have:=hm.places;omega)
 rw[plainB_plc hm] at h
 exact⟨Ea m hm.ok,h,rfl⟩
noncomputable abbrev fSNum:Func:= Tryz.f87
noncomputable def cSNum:Code:=fSNum.body.getD .skip
abbrev accI(xs:List Int):D:=.acc 1 (xs.map vi)
theorem snum_loop(ys:List Int)(hl:ys.length<=1000)(n:Nat):∀k:Nat,ys.length-k=n->
  Rn PP fSNum 0 (dIs ys) σ0 ([.lp (sub cSNum [1,1,0,1,0,0]),.blk 0,.code (sub cSNum [1,1,1])]++[]) (mkE 21 [(3,accI (ys.take k)),(8,dVs (ys.map lf)),(9,di ys.length),(10,di k)]) ⟨[],[(1,1,(ys.take k).map vi)]⟩:=by
 induction n with
 |zero=>
  intro k hn
  refine lv 21 [1] (.f .r) (decide ((k:Int)<(ys.length:Int))=false/\D.v (V.list (map vi (take k ys)))=dIs ys) ?_
  rw[take_of_length_le (show ys.length<=k by omega)]
  exact⟨decide_eq_false (by omega),rfl⟩
 |succ n ih=>
  intro k hn
  obtain⟨y,hy⟩:∃y,ys[k]?=some y:=⟨_,getElem?_eq_getElem (show k<ys.length by omega)⟩
  refine lv 21 [1] (.t<|.h (.xs (Ad (lf y)))<|.ls [ch 3 (accI (ys.take (k+1))),ke 8,ke 9,ch 10 (di (k+1:Nat))] ⟨[],[(1,1,(ys.take (k+1)).map vi)]⟩) (decide ((k:Int)<(ys.length:Int))=true/\Q 2/\0<=(k:Int)/\(map eV (map lf ys))[Int.toNat (k:Int)]?=some (Ad (lf y))/\Q (map vi (take k ys))/\Ar (length (map vi (take k ys))+length (vi (Val.n (lf y))::nV)) 8/\D.acc 1 (map vi (take k ys)++[vi (Val.n (lf y))])=accI (take (k+1) ys)/\di (wrap i64 ((k:Int)+1))=di (↑(k+1):Int)/\[(1,1,map vi (take k ys)++vi (Val.n (lf y))::nV)]=[(1,1,map vi (take (k+1) ys))]/\I0 fSNum 0 (dIs ys) σ0 [kl cSNum [1,1,0,1,0,0],KI.blk 0,kc cSNum [1,1,1]] (mkE 21 [(3,accI (take (k+1) ys)),(8,D.v (vVs (map lf ys))),(9,di (ys.length:Int)),(10,di (↑(k+1):Int))]) (St.mk [] [(1,1,map vi (take (k+1) ys))])) ?_
  have ht:ys.take (k+1)=ys.take k++[y]:=by rw[take_add_one,hy];rfl
  refine⟨decide_eq_true (by omega),rfl,by omega,Az (by rw[getElem?_map,hy];rfl),rfl,⟨?_,?_⟩,?_,Af (by omega),?_,⟨ih (k+1) (by omega)⟩⟩
  ·simp only[length_map,length_take,length_cons,length_nil];omega
  ·simp only[length_map,length_take,length_cons,length_nil];omega
  ·rw[ht,accI,map_append];rfl
  ·rw[ht,map_append];rfl
theorem snum_spec(c:Val)(s:Int)(ys:List Int)(hc:IsC c s ys)(hl:ys.length<=1000):Ab PP 87 [dV c] σ0 (dIs ys) σ0:=by
 refine sv fSNum 21 [1] (.h (.q 2 0)<|.h (.nw 3 1 1)<|.ls [ke 3,ch 8 (dVs (ys.map lf)),ch 9 (di ys.length),ch 10 (di (0:Nat))] ⟨[],[(1,1,[])]⟩) ((∀(x:V),x∈map eV c.kids->V.size x=2)/\0<=(1:Int)/\(1:Int)<=(length (map eV c.kids):Int)/\D.v (V.list (List.drop (Int.toNat ((1:Int))) (take (length (map eV c.kids)) (map eV c.kids))))=dVs (map lf ys)/\di (length (List.drop (Int.toNat ((1:Int))) (take (length (map eV c.kids)) (map eV c.kids))):Int)=di (ys.length:Int)/\di 0=di (↑0:Int)/\Q [(1,1,nV)]/\I0 fSNum σ0.H.length (dIs ys) σ0 [kl cSNum [1,1,0,1,0,0],KI.blk 0,kc cSNum [1,1,1]] (mkE 21 [(3,D.acc 1 []),(8,dVs (map lf ys)),(9,di (ys.length:Int)),(10,di (↑0:Int))]) (St.mk [] [(1,1,[])])) ?_
 have hd:=Hj hc
 have hlen:c.kids.length=ys.length+1:=hc.len
 refine⟨?_,by omega,?_,?_,?_,rfl,rfl,⟨snum_loop ys hl _ 0 rfl⟩⟩
 ·intro x hx;obtain⟨v,_,rfl⟩:=mem_map.1 hx;rw[AN];rfl
 ·rw[length_map];omega
 ·exact congrArg (fun l=>D.v (.list l)) hd
 ·have:=congrArg (fun l:List V=>di (l.length:Int)) hd
  simpa using this
structure Atm where
 coefs:List Int
 mod:Int
 vals:List Int
 deriving Inhabited
abbrev H9(a:Atm):V:=.agg [vIs a.coefs,vi a.mod,vIs a.vals]
abbrev dAtm(a:Atm):D:=.v (H9 a)
structure FN(m:Mod)(a:Atm):Prop where
 len:a.coefs.length=m.places.length
 coef:∀c∈a.coefs, -4<=c/\c<=4
 mod:a.mod=0∨2<=a.mod/\a.mod<=8
 vlen:a.vals.length=m.states.length
 val:∀v∈a.vals,v=OMG∨(a.mod=0/\ -1099511627776<=v/\v<=1099511627775)∨(0<a.mod/\0<=v/\v<=a.mod-1)
noncomputable abbrev fIFol:Func:= Tryz.f124
def folB(a:Atm)(amt:Int)(v:Int):Bool:=if (v==OMG)=true then false else if (a.mod==0)=true then decide (amt>=v) else amt%a.mod==v
theorem ifol_spec(m:Mod)(a:Atm)(ha:FN m a)(amt:Int)(hb: -1125899906842624<=amt/\amt<=1125899906842624)(s:Int)(v:Int)(hs:0<=s)(hv:a.vals[s.toNat]?=some v):Ab PP 124 [dAtm a,di amt,di s] σ0 (db (folB a amt v)) σ0:=by
 refine sv fIFol 29 [3] (.x (vi v)<|.b .r (.b .r (.c (di (amt%a.mod)) .r))) (0<=s/\(map vi a.vals)[Int.toNat s]?=some (vi v)/\((v==1099511627776)=true->db false=db (folB a amt v))/\((v==1099511627776)=false->((a.mod==0)=true->db (decide (amt>=v))=db (folB a amt v))/\((a.mod==0)=false->F0 88 [di amt,di a.mod] (di (amt%a.mod))/\db (amt%a.mod==v)=db (folB a amt v)))) ?_
 have hm:=ha.mod
 refine⟨hs,by rw[getElem?_map,hv];rfl,fun h=>?_,fun h=>⟨fun h2=>?_,fun h2=>⟨irest_spec amt a.mod ?_ hb,?_⟩⟩⟩
 ·have h:(v==OMG)=true:=h
  rw[folB,if_pos h]
 ·have h:(v==OMG)=false:=h
  rw[folB,if_neg (by rw[h];decide),if_pos h2]
 ·have h2:a.mod≠0:=by simpa using h2
  omega
 ·have h:(v==OMG)=false:=h
  rw[folB,if_neg (by rw[h];decide),if_neg (by rw[h2];decide)]
noncomputable abbrev fIHld:Func:= Tryz.f123
def hldB(a:Atm)(c:Val):Bool:=folB a (Cd a.coefs (nmV c)) (a.vals.getD (stV c).toNat 0)
theorem ihld_spec(m:Mod)(hm:PlC m)(a:Atm)(ha:FN m a)(c:Val)(hc:AC m c):Ab PP 123 [dAtm a,dV c] σ0 (db (hldB a c)) σ0:=by
 refine sv fIHld 17 [2,3] (.c (dIs (nmV c))<|.c (di (Cd a.coefs (nmV c)))<|.h (.xs (Ad (lf (stV c))))<|.c (db (hldB a c)) .r) (F0 87 [dV c] (dIs (nmV c))/\F0 86 [dIs a.coefs,D.v (vIs (nmV c))] (di (Cd a.coefs (nmV c)))/\Q 2/\iz 0<=0/\(map eV c.kids)[Int.toNat 0]?=some (Ad (lf (stV c)))/\F0 124 [D.v (H9 a),di (Cd a.coefs (nmV c)),di (Val.n (lf (stV c)))] (db (hldB a c))/\Q (db (hldB a c))) ?_
 have hp:=hm.places
 have hf:=hm.few
 have hs:=hc.st
 obtain⟨v,hv⟩:∃v,a.vals[(stV c).toNat]?=some v:=⟨_,getElem?_eq_getElem (by rw[ha.vlen];omega)⟩
 have hb:=EW a.coefs (nmV c) ha.coef hc.nm
 have hl:=ha.len
 have hcl:=hc.len
 refine⟨snum_spec c _ _ hc.isC (by omega),Hl _ _ (by omega) (by omega) ha.coef hc.nm,rfl,by decide,Az (i:=0) hc.isC.head,?_,rfl⟩
 have h:=ifol_spec m a ha (Cd a.coefs (nmV c)) (by omega) (stV c) v hs.1 hv
 rw[hldB,getD_eq_getElem?_getD,hv]
 exact h
noncomputable abbrev fIChk:Func:= Tryz.f122
noncomputable abbrev fIChk1:Func:= Tryz.f174
theorem ichk1_spec(v lo hi:Int)(h:v=OMG∨lo<=v/\v<=hi):Ab PP 174 [di v,.v (.ref (vi lo)),.v (.ref (vi hi))] σ0 (db false) σ0:=by
 refine sv fIChk1 17 [] (.b (.f .r) .r) (((v !=1099511627776)=true->decide (v<lo)=false/\db (decide (v>hi))=db false)/\((v !=1099511627776)=false->Q (db false))) ?_
 refine⟨fun h1=>?_,fun _=>rfl⟩
 have h1:v≠OMG:=by simpa[OMG] using h1
 have h2:=h.resolve_left h1
 exact⟨decide_eq_false (by omega),by rw[decide_eq_false (by omega)]⟩
theorem atm_fit{m:Mod}{a:Atm}(ha:FN m a):a.coefs.any fitB=false:=by
 rw[List.any_eq_false]
 intro c hc
 have:=ha.coef c hc
 simp only[fitB,Bool.or_eq_true,decide_eq_true_eq];omega
theorem atm_mod{m:Mod}{a:Atm}(ha:FN m a):modB a.mod=true:=by
 rcases ha.mod with h|h
 ·rw[h];rfl
 ·simp only[modB,Bool.or_eq_true,Bool.and_eq_true,decide_eq_true_eq];omega
theorem ichk_0(m:Mod)(hm:PlC m)(a:Atm)(ha:FN m a):Ab PP 122 [Ah m,dAtm a] σ0 (di 0) σ0:=by
 by_cases h:a.mod=0
 ·refine sv fIChk 51 [2,3] (.c (di 0)<|.k<|.f<|.c (db true)<|.c (db true)<|.k<|.f<|.f<|.h (.q 9 0)<|.h (.f1 0 [6])<|.h (.f1 1 [7])<|.c (db false) .r) (F0 82 [Ah m] (di 0)/\((length (map vi a.coefs):Int) !=(length (map V.str m.places):Int))=false/\F0 83 [dIs a.coefs] (db true)/\F0 84 [di a.mod] (db true)/\((length (map vi a.vals):Int) !=(length (map V.str m.states):Int))=false/\decide (a.mod>0)=false/\F0 118 [dIs a.vals,D.v (V.fn 174 [] [V.ref (vi (-1099511627776)),V.ref (vi 1099511627775)])] (db false)/\Q (di 0)) ?_
  have hp:=hm.places
  have hl:=ha.len
  have hv:=ha.vlen
  have hf:=ifit_spec a.coefs (by omega)
  have hmd:=imod_spec a.mod
  rw[atm_fit ha] at hf
  rw[atm_mod ha] at hmd
  have hmm:=ha.mod
  have e1:((a.coefs.map vi).length:Int)=((m.places.map V.str).length:Int):=by rw[length_map,length_map,hl]
  have e2:((a.vals.map vi).length:Int)=((m.states.map V.str).length:Int):=by rw[length_map,length_map,hv]
  have hh:=Cw 174 [] [.ref (vi (-1099511627776)),.ref (vi 1099511627775)] (fun _=>false) a.vals (by omega) (fun v hv=>ichk1_spec v (-1099511627776) 1099511627775 (by rcases ha.val v hv with h1|h1|h1<;>omega))
  rw[show(a.vals.any fun _=>false)=false by simp] at hh
  exact⟨Ha m hm,by rw[e1];simp,hf,hmd,by rw[e2];simp,decide_eq_false (by omega),hh,rfl⟩
 ·refine sv fIChk 51 [2,3] (.c (di 0)<|.k<|.f<|.c (db true)<|.c (db true)<|.k<|.f<|.t<|.h (.q 9 0)<|.h (.f1 0 [6])<|.h (.f1 1 [7])<|.c (db false) .r) (F0 82 [Ah m] (di 0)/\((length (map vi a.coefs):Int) !=(length (map V.str m.places):Int))=false/\F0 83 [dIs a.coefs] (db true)/\F0 84 [di a.mod] (db true)/\((length (map vi a.vals):Int) !=(length (map V.str m.states):Int))=false/\decide (a.mod>0)=true/\F0 118 [dIs a.vals,D.v (V.fn 174 [] [V.ref (vi 0),V.ref (vi (wrap i64 (a.mod-1)))])] (db false)/\Q (di 0)) ?_
  have hp:=hm.places
  have hl:=ha.len
  have hv:=ha.vlen
  have hf:=ifit_spec a.coefs (by omega)
  have hmd:=imod_spec a.mod
  rw[atm_fit ha] at hf
  rw[atm_mod ha] at hmd
  have hmm:=ha.mod
  have e1:((a.coefs.map vi).length:Int)=((m.places.map V.str).length:Int):=by rw[length_map,length_map,hl]
  have e2:((a.vals.map vi).length:Int)=((m.states.map V.str).length:Int):=by rw[length_map,length_map,hv]
  have hh:=Cw 174 [] [.ref (vi 0),.ref (vi (a.mod-1))] (fun _=>false) a.vals (by omega) (fun v hv=>ichk1_spec v 0 (a.mod-1) (by rcases ha.val v hv with h1|h1|h1<;>omega))
  rw[show(a.vals.any fun _=>false)=false by simp] at hh
  refine⟨Ha m hm,by rw[e1];simp,hf,hmd,by rw[e2];simp,decide_eq_true (by omega),?_,rfl⟩
  rw[Aj (by omega) (by omega)];exact hh
noncomputable abbrev fIHlds:Func:= Tryz.f90
theorem ihlds_spec(m:Mod)(hm:PlC m)(a:Atm)(ha:FN m a)(c:Val)(hc:AC m c):Ab PP 90 [Ah m,dAtm a,dV c] σ0 (.tup [db (hldB a c),di 0]) σ0:=by
 refine sv fIHlds 22 [3,4,5] (.c (di 0)<|.c (db true)<|.c (db (hldB a c)) .r) (F0 122 [Ah m,D.v (H9 a)] (di 0)/\F0 42 [Ah m,dV c] (db true)/\F0 123 [D.v (H9 a),dV c] (db (hldB a c))/\Q (D.tup [db (hldB a c),di 0])) ?_
 have hsz:=hc.size hm
 have h1:=D9 m hm.ok c (by omega)
 rw[hc.valid hm] at h1
 exact⟨ichk_0 m hm a ha,h1,ihld_spec m hm a ha c hc,rfl⟩
noncomputable abbrev fICls:Func:= Tryz.f91
noncomputable def cICls:Code:=fICls.body.getD .skip
def clsB(a:Atm)(r:Rul):Bool:= !(a.vals.getD r.frm.toNat 0==OMG)&& !folB a (a.vals.getD r.frm.toNat 0+BU a.coefs r) (a.vals.getD r.to.toNat 0)
def clsM(m:Mod)(a:Atm):Int:=if hldB a m.start=true then(if m.rules.any (clsB a)=true then 41 else 0) else 42
theorem eff_bd{m:Mod}{r:Rul}(hr:RulOK m r){cs:List Int}(hl:cs.length<=2)(hc:∀c∈cs, -4<=c/\c<=4): -16777216<=BU cs r/\BU cs r<=16777216:=by
 have b1:∀v∈r.give,0<=v/\v<=1048576:=fun v hv=>by have:=hr.give v hv;omega
 have b2:∀v∈r.need,0<=v/\v<=1048576:=fun v hv=>by have:=hr.need v hv;omega
 have h1:=EW cs r.give hc b1
 have h2:=EW cs r.need hc b2
 unfold BU;omega
theorem FN.vbd{m:Mod}{a:Atm}(ha:FN m a){v:Int}(hv:v∈a.vals): -1099511627776<=v/\v<=1099511627776:=by
 have:=ha.mod
 rcases ha.val v hv with h|h|h
 ·rw[h];decide
 ·omega
 ·omega
theorem icls_loop(m:Mod)(hm:PlC m)(a:Atm)(ha:FN m a)(N:Nat):∀k:Nat,m.rules.length-k=N->
  Rn PP fICls 0 (di (if (m.rules.drop k).any (clsB a)=true then 41 else 0)) σ0 ([.lp (sub cICls [1,1,0,1,0,0]),.blk 0,.code (sub cICls [1,1,1])]++[]) (mkE 42 [(3,.v (.ref (H9 a))),(14,.v (AY m.rules)),(15,di m.rules.length),(16,di k)]) σ0:=by
 induction N with
 |zero=>
  intro k hn
  refine lv 42 [2,3] (.f .r) (decide ((k:Int)<(m.rules.length:Int))=false/\di 0=di (if List.any (List.drop k m.rules) (clsB a)=true then 41 else 0)) ?_
  rw[drop_of_length_le (by omega)]
  exact⟨decide_eq_false (by omega),rfl⟩
 |succ N ih=>
  intro k hn
  have hk:k<m.rules.length:=by omega
  obtain⟨r,hr⟩:∃r,m.rules[k]?=some r:=⟨_,getElem?_eq_getElem hk⟩
  have e3:m.rules.drop k=r::m.rules.drop (k+1):=by rw[drop_eq_getElem_cons hk];congr 1;rw[getElem?_eq_getElem hk] at hr;simpa using hr
  have hro:=hm.rule (mem_of_getElem? hr)
  have hp:=hm.places
  have hf:=hm.few
  obtain⟨v,hv⟩:∃v,a.vals[r.frm.toNat]?=some v:=⟨_,getElem?_eq_getElem (by rw[ha.vlen];have:=hro.frm;omega)⟩
  obtain⟨u,hu⟩:∃v,a.vals[r.to.toNat]?=some v:=⟨_,getElem?_eq_getElem (by rw[ha.vlen];have:=hro.to;omega)⟩
  have hvb:=ha.vbd (mem_of_getElem? hv)
  have heb:=eff_bd hro (by rw[ha.len];omega) ha.coef
  have hcb:clsB a r=(!(v==OMG)&& !folB a (v+BU a.coefs r) u):=by
   rw[clsB,getD_eq_getElem?_getD,getD_eq_getElem?_getD,hv,hu];rfl
  have hi:=ih (k+1) (by omega)
  have heff:=ieff_spec m r hro a.coefs ha.len (by rw[ha.len];omega) ha.coef
  have hfol:=ifol_spec m a ha (v+BU a.coefs r) (by omega) r.to u hro.to.1 hu
  rw[e3,List.any_cons,hcb]
  by_cases h1:(v !=1099511627776)=true
  ·have h1':(v==OMG)=false:=by simpa[OMG] using h1
   rw[h1',Bool.not_false,Bool.true_and]
   cases hb:folB a (v+BU a.coefs r) u with
   |true=>
    rw[hb] at hfol
    rw[Bool.not_true,Bool.false_or]
    refine lv 42 [2,3] (.t<|.x (Ak r)<|.x (vi v)<|.t<|.c (di (BU a.coefs r))<|.c (db true)<|.ls [ke 3,ke 14,ke 15,ch 16 (di (k+1:Nat))] σ0) (decide ((k:Int)<(m.rules.length:Int))=true/\0<=(k:Int)/\(map Ak m.rules)[Int.toNat (k:Int)]?=some (Ak r)/\0<=r.frm/\(map vi a.vals)[Int.toNat r.frm]?=some (vi v)/\(v !=1099511627776)=true/\F0 125 [dIs a.coefs,BK r] (di (BU a.coefs r))/\F0 124 [D.v (H9 a),di (wrap i64 (v+BU a.coefs r)),di r.to] (db true)/\(True/\True/\True)/\di (wrap i64 ((k:Int)+1))=di (↑(k+1):Int)/\I0 fICls 0 (di (if List.any (List.drop (k+1) m.rules) (clsB a)=true then 41 else 0)) σ0 [kl cICls [1,1,0,1,0,0],KI.blk 0,kc cICls [1,1,1]] (mkE 42 [(3,D.v (V.ref (H9 a))),(14,D.v (AY m.rules)),(15,di (m.rules.length:Int)),(16,di (↑(k+1):Int))]) σ0) ?_
    refine⟨decide_eq_true (by omega),by omega,Ao hr,hro.frm.1,by rw[getElem?_map,hv];rfl,h1,heff,?_,⟨trivial,trivial,trivial⟩,Af (by omega),⟨hi⟩⟩
    rw[Aj (by omega) (by omega)];exact hfol
   |false=>
    rw[hb] at hfol
    rw[Bool.not_false,Bool.true_or]
    refine lv 42 [2,3] (.t<|.x (Ak r)<|.x (vi v)<|.t<|.c (di (BU a.coefs r))<|.c (db false) .r) (decide ((k:Int)<(m.rules.length:Int))=true/\0<=(k:Int)/\(map Ak m.rules)[Int.toNat (k:Int)]?=some (Ak r)/\0<=r.frm/\(map vi a.vals)[Int.toNat r.frm]?=some (vi v)/\(v !=1099511627776)=true/\F0 125 [dIs a.coefs,BK r] (di (BU a.coefs r))/\F0 124 [D.v (H9 a),di (wrap i64 (v+BU a.coefs r)),di r.to] (db false)/\(True/\True/\True)/\di 41=di (if true=true then 41 else 0)) ?_
    refine⟨decide_eq_true (by omega),by omega,Ao hr,hro.frm.1,by rw[getElem?_map,hv];rfl,h1,heff,?_,⟨trivial,trivial,trivial⟩,rfl⟩
    rw[Aj (by omega) (by omega)];exact hfol
  ·have h1':(v==OMG)=true:=by simpa[OMG] using h1
   rw[h1',Bool.not_true,Bool.false_and,Bool.false_or]
   refine lv 42 [2,3] (.t<|.x (Ak r)<|.x (vi v)<|.f<|.ls [ke 3,ke 14,ke 15,ch 16 (di (k+1:Nat))] σ0) (decide ((k:Int)<(m.rules.length:Int))=true/\0<=(k:Int)/\(map Ak m.rules)[Int.toNat (k:Int)]?=some (Ak r)/\0<=r.frm/\(map vi a.vals)[Int.toNat r.frm]?=some (vi v)/\(v !=1099511627776)=false/\di (wrap i64 ((k:Int)+1))=di (↑(k+1):Int)/\I0 fICls 0 (di (if List.any (List.drop (k+1) m.rules) (clsB a)=true then 41 else 0)) σ0 [kl cICls [1,1,0,1,0,0],KI.blk 0,kc cICls [1,1,1]] (mkE 42 [(3,D.v (V.ref (H9 a))),(14,D.v (AY m.rules)),(15,di (m.rules.length:Int)),(16,di (↑(k+1):Int))]) σ0) ?_
   exact⟨decide_eq_true (by omega),by omega,Ao hr,hro.frm.1,by rw[getElem?_map,hv];rfl,eq_false_of_ne_true h1,Af (by omega),⟨hi⟩⟩
theorem icls_spec(m:Mod)(hm:PlC m)(a:Atm)(ha:FN m a):Ab PP 91 [Ah m,dAtm a] σ0 (di (clsM m a)) σ0:=by
 have hh:=ihld_spec m hm a ha m.start hm.start
 cases hb:hldB a m.start with
 |false=>
  rw[hb] at hh
  refine sv fICls 42 [2,3] (.c (db false) .r) (F0 123 [D.v (H9 a),dV m.start] (db false)/\di 42=di (clsM m a)) ?_
  exact⟨hh,by rw[clsM,hb];rfl⟩
 |true=>
  rw[hb] at hh
  refine sv fICls 42 [2,3] (.c (db true)<|.l [ke 3,ke 14,ch 15 (di m.rules.length),ch 16 (di (0:Nat))]) (F0 123 [D.v (H9 a),dV m.start] (db true)/\di (length (map Ak m.rules):Int)=di (m.rules.length:Int)/\di 0=di (↑0:Int)/\I0 fICls σ0.H.length (di (clsM m a)) σ0 [kl cICls [1,1,0,1,0,0],KI.blk 0,kc cICls [1,1,1]] (mkE 42 [(3,D.v (V.ref (H9 a))),(14,D.v (AY m.rules)),(15,di (m.rules.length:Int)),(16,di (↑0:Int))]) σ0) ?_
  have hl:=icls_loop m hm a ha _ 0 rfl
  rw[clsM,hb]
  exact⟨hh,by rw[length_map],rfl,⟨hl⟩⟩
noncomputable abbrev fIExc:Func:= Tryz.f57
def excB(m:Mod)(a:Atm)(c:Val):Bool:= !hldB a c&&(clsM m a==0)
theorem iexc_spec(m:Mod)(hm:PlC m)(a:Atm)(ha:FN m a)(c:Val)(hc:AC m c):Ab PP 57 [Ah m,dAtm a,dV c] σ0 (.tup [db (excB m a c),di 0]) σ0:=by
 have h:=ihlds_spec m hm a ha c hc
 cases hb:hldB a c with
 |true=>
  rw[hb] at h
  refine sv fIExc 28 [3,4,5] (.c (.tup [db true,di 0]) .r) (F0 90 [Ah m,D.v (H9 a),dV c] (D.tup [db true,di 0])/\D.tup [db false,di 0]=D.tup [db (excB m a c),di 0]) ?_
  exact⟨h,by rw[excB,hb];rfl⟩
 |false=>
  rw[hb] at h
  refine sv fIExc 28 [3,4,5] (.c (.tup [db false,di 0])<|.c (di (clsM m a)) .r) (F0 90 [Ah m,D.v (H9 a),dV c] (D.tup [db false,di 0])/\F0 91 [Ah m,D.v (H9 a)] (di (clsM m a))/\D.tup [db (clsM m a==0),di 0]=D.tup [db (excB m a c),di 0]) ?_
  exact⟨h,icls_spec m hm a ha,by rw[excB,hb];rfl⟩
theorem fu_int:PP.underlying 3=some (.int .i64):=by kernel_rfl
theorem fu_uint:PP.underlying 98=some (.int .u64):=by kernel_rfl
theorem Hn:PP.underlying 27=some (.slice 3):=by kernel_rfl
theorem GI:BJ PP 27=some (3,1,8,some (.int .i64 0)):=by kernel_rfl
noncomputable abbrev fM64:Func:= Tryz.f173
theorem m64_1:Ab PP 173 [.v (.int .u64 1),.v (.int .u64 1)] σ0 (.tup [.v (.int .u64 0),.v (.int .u64 1)]) σ0:=by
 refine sv fM64 51 [] .r (iz 0<=32/\iz 0<=32/\iz 0<=32/\iz 0<=32/\iz 0<=32/\D.tup [D.v (V.int u64 (wrap u64 (wrap u64 (wrap u64 (Int.fdiv 1 (2^min (Int.toNat 32) (IntKind.bits u64))*Int.fdiv 1 (2^min (Int.toNat 32) (IntKind.bits u64)))+Int.fdiv (wrap u64 (wrap u64 (Int.fdiv 1 (2^min (Int.toNat 32) (IntKind.bits u64))*wrap u64 (↑(BitVec.toNat (BitVec.ofInt (IntKind.bits u64) 1&&&BitVec.ofInt (IntKind.bits u64) 4294967295)):Int))+Int.fdiv (wrap u64 (wrap u64 (↑(BitVec.toNat (BitVec.ofInt (IntKind.bits u64) 1&&&BitVec.ofInt (IntKind.bits u64) 4294967295)):Int)*wrap u64 (↑(BitVec.toNat (BitVec.ofInt (IntKind.bits u64) 1&&&BitVec.ofInt (IntKind.bits u64) 4294967295)):Int))) (2^min (Int.toNat 32) (IntKind.bits u64)))) (2^min (Int.toNat 32) (IntKind.bits u64)))+Int.fdiv (wrap u64 (wrap u64 (↑(BitVec.toNat (BitVec.ofInt (IntKind.bits u64) (wrap u64 (wrap u64 (Int.fdiv 1 (2^min (Int.toNat 32) (IntKind.bits u64))*wrap u64 (↑(BitVec.toNat (BitVec.ofInt (IntKind.bits u64) 1&&&BitVec.ofInt (IntKind.bits u64) 4294967295)):Int))+Int.fdiv (wrap u64 (wrap u64 (↑(BitVec.toNat (BitVec.ofInt (IntKind.bits u64) 1&&&BitVec.ofInt (IntKind.bits u64) 4294967295)):Int)*wrap u64 (↑(BitVec.toNat (BitVec.ofInt (IntKind.bits u64) 1&&&BitVec.ofInt (IntKind.bits u64) 4294967295)):Int))) (2^min (Int.toNat 32) (IntKind.bits u64))))&&&BitVec.ofInt (IntKind.bits u64) 4294967295)):Int)+wrap u64 (wrap u64 (↑(BitVec.toNat (BitVec.ofInt (IntKind.bits u64) 1&&&BitVec.ofInt (IntKind.bits u64) 4294967295)):Int)*Int.fdiv 1 (2^min (Int.toNat 32) (IntKind.bits u64))))) (2^min (Int.toNat 32) (IntKind.bits u64))))),D.v (V.int u64 (wrap u64 (1*1)))]=D.tup [D.v (V.int u64 0),D.v (V.int u64 1)]) ?_
 exact⟨by decide,by decide,by decide,by decide,by decide,by kernel_rfl⟩
theorem m64_2:Ab PP 173 [.v (.int .u64 1),.v (.int .u64 2)] σ0 (.tup [.v (.int .u64 0),.v (.int .u64 2)]) σ0:=by
 refine sv fM64 51 [] .r (iz 0<=32/\iz 0<=32/\iz 0<=32/\iz 0<=32/\iz 0<=32/\D.tup [D.v (V.int u64 (wrap u64 (wrap u64 (wrap u64 (Int.fdiv 1 (2^min (Int.toNat 32) (IntKind.bits u64))*Int.fdiv 2 (2^min (Int.toNat 32) (IntKind.bits u64)))+Int.fdiv (wrap u64 (wrap u64 (Int.fdiv 1 (2^min (Int.toNat 32) (IntKind.bits u64))*wrap u64 (↑(BitVec.toNat (BitVec.ofInt (IntKind.bits u64) 2&&&BitVec.ofInt (IntKind.bits u64) 4294967295)):Int))+Int.fdiv (wrap u64 (wrap u64 (↑(BitVec.toNat (BitVec.ofInt (IntKind.bits u64) 1&&&BitVec.ofInt (IntKind.bits u64) 4294967295)):Int)*wrap u64 (↑(BitVec.toNat (BitVec.ofInt (IntKind.bits u64) 2&&&BitVec.ofInt (IntKind.bits u64) 4294967295)):Int))) (2^min (Int.toNat 32) (IntKind.bits u64)))) (2^min (Int.toNat 32) (IntKind.bits u64)))+Int.fdiv (wrap u64 (wrap u64 (↑(BitVec.toNat (BitVec.ofInt (IntKind.bits u64) (wrap u64 (wrap u64 (Int.fdiv 1 (2^min (Int.toNat 32) (IntKind.bits u64))*wrap u64 (↑(BitVec.toNat (BitVec.ofInt (IntKind.bits u64) 2&&&BitVec.ofInt (IntKind.bits u64) 4294967295)):Int))+Int.fdiv (wrap u64 (wrap u64 (↑(BitVec.toNat (BitVec.ofInt (IntKind.bits u64) 1&&&BitVec.ofInt (IntKind.bits u64) 4294967295)):Int)*wrap u64 (↑(BitVec.toNat (BitVec.ofInt (IntKind.bits u64) 2&&&BitVec.ofInt (IntKind.bits u64) 4294967295)):Int))) (2^min (Int.toNat 32) (IntKind.bits u64))))&&&BitVec.ofInt (IntKind.bits u64) 4294967295)):Int)+wrap u64 (wrap u64 (↑(BitVec.toNat (BitVec.ofInt (IntKind.bits u64) 1&&&BitVec.ofInt (IntKind.bits u64) 4294967295)):Int)*Int.fdiv 2 (2^min (Int.toNat 32) (IntKind.bits u64))))) (2^min (Int.toNat 32) (IntKind.bits u64))))),D.v (V.int u64 (wrap u64 (1*2)))]=D.tup [D.v (V.int u64 0),D.v (V.int u64 2)]) ?_
 exact⟨by decide,by decide,by decide,by decide,by decide,by kernel_rfl⟩
noncomputable abbrev fMul:Func:= Tryz.f120
theorem mul_spec(n:Nat)(h0:1<=n)(h6:n<=2):Ab PP 120 [.v (.int .u64 1),.v (.int .u64 (n:Int))] σ0 (.tup [.v (.int .u64 0),.v (.int .u64 (n:Int))]) σ0:=by
 refine sv fMul 30 [] (.c (.tup [.v (.int .u64 0),.v (.int .u64 (n:Int))]) .r) (F0 173 [D.v (V.int u64 1),D.v (V.int u64 (n:Int))] (D.tup [D.v (V.int u64 0),D.v (V.int u64 (n:Int))])/\Q (D.tup [D.v (V.int u64 0),D.v (V.int u64 (n:Int))])) ?_
 refine⟨?_,rfl⟩
 rcases(show n=1∨n=2 by omega) with rfl|rfl
 ·exact m64_1
 ·exact m64_2
def Dz(n k:Nat):List D:=replicate k (di 1099511627776)++replicate (n-k) (di 0)
section
variable {P : Program} {o : Oper} {σ : St}
theorem op_sliceFrom{t:TypeId}{x lo:Operand}(ho:o.op=.slice t x (some lo) none none){e:TypeId}{by':Nat}{z:Option Value}(hs:BJ P t=some (e,1,by',z)){q len k:Nat}(hk:k<len):
  Ai P o [.arr q 0 len,di ↑k] σ (.arr q k (len-k)) σ:=by
 have:=op_sliceArr (P:=P) (o:=o) (σ:=σ) ho hs (q:=q) (off:=0) (len:=len) (some (.i64,(k:Int))) none rfl rfl (l':=k) (h':=len) (by simp[BI];omega) hk
 rw[Nat.zero_add] at this;exact this
theorem op_sliceTo{t:TypeId}{x hi:Operand}(ho:o.op=.slice t x none (some hi) none){e:TypeId}{by':Nat}{z:Option Value}(hs:BJ P t=some (e,1,by',z)){q len k:Nat}(hk:k<len):
  Ai P o [.arr q 0 len,di ↑k] σ (.arr q 0 k) σ:=by
 have:=op_sliceArr (P:=P) (o:=o) (σ:=σ) ho hs (q:=q) (off:=0) (len:=len) none (some (.i64,(k:Int))) rfl rfl (l':=0) (h':=k) (by simp[BI];omega) (by omega)
 rw[Nat.zero_add,Nat.sub_zero] at this;exact this
theorem op_copyRep{x y:Operand}{t:TypeId}(ho:o.op=.call { callee:=.builtin .copy,args:= #[x,y],argTypes:= #[t,t]}){e:TypeId}{by':Nat}{z:Option Value}(hs:BJ P t=some (e,1,by',z)){n k:Nat}(hk:k<n):
  Ai P o [.arr 0 k (n-k),.arr 0 0 k] ⟨[some (Dz n k)],[]⟩ (di ↑(min k (n-k))) ⟨[some (Dz n (k+min k (n-k)))],[]⟩:=by
 have hl:(Dz n k).length=n:=by simp[Dz];omega
 have h1:min k (n-k)<=n-k:=Nat.min_le_right _ _
 have h2:min k (n-k)<=k:=Nat.min_le_left _ _
 have:=op_copyA (P:=P) (o:=o) (σ:=⟨[some (Dz n k)],[]⟩) ho hs (q:=0) (off:=k) (len:=n-k) (off2:=0) (len2:=k) (k:=min k (n-k)) (cs:=Dz n k) rfl rfl (by omega) (by omega)
 have e:(Dz n k).take k++((Dz n k).drop 0).take (min k (n-k))++(Dz n k).drop (k+min k (n-k))=Dz n (k+min k (n-k)):=by
  generalize min k (n-k)=j at h1 h2⊢
  simp only[Dz,drop_zero]
  rw[List.take_append_of_le_length (by simp),List.take_replicate,Nat.min_self,List.take_append_of_le_length (by simpa using h2),List.take_replicate,Nat.min_eq_left h2,List.drop_append,List.drop_replicate,List.drop_replicate,List.length_replicate]
  rw[show k- (k+j)=0 by omega,List.replicate_zero,nil_append,List.replicate_append_replicate,show k+j-k=j by omega,show n-k-j=n- (k+j) by omega]
 rw[e] at this
 exact this
end
theorem pls_rep(n:Nat):D.pls (replicate n (di 1099511627776))=true:=by
 induction n with
 |zero=>rfl
 |succ n ih=>rw[replicate_succ];simp only[D.pls,ih,Bool.and_true];rfl
theorem wrap_u{n:Nat}(h:n<=1000):u64.wrap (n:Int)=n:=by
 have:∀m:Nat,m<=1000->u64.wrap (m:Int)=m:=by decide+kernel
 exact this n h
theorem rep_start{n:Nat}(_:1<=n):take 0 (replicate n (di 0))++map D.v (take 1 [vi 1099511627776])++List.drop 1 (replicate n (di 0))=Dz n 1:=by
 simp[Dz]
noncomputable def cRep:Code:= Tryz.f85.body.getD .skip
set_option maxRecDepth 20000 in
theorem rep_loop(n:Nat)(hn:n<=100)(m:Nat):∀(k:Nat),n-k=m->1<=k->k<=n->Run PP (fun env σ1=>A8 PP Tryz.f85 env σ1 (.arr 0 0 n) ⟨[some (replicate n (di 1099511627776))],[]⟩) [.lp (sub cRep [1,1,1,1,1,1,0,0,0]),.blk 0,.code (sub cRep [1,1,1,1,1,1,1])] (.undef:: .undef:: .undef:: .undef:: .undef:: .undef:: .undef::(.arr 0 0 n)::(di ↑k):: .undef:: .undef:: .undef:: .undef:: .undef:: .undef:: .undef:: .undef:: .undef:: .undef:: .undef:: .undef:: .undef:: .undef:: .undef:: .undef:: .undef:: .undef:: .undef:: .undef:: .undef:: .undef:: .undef:: .undef:: .undef:: .undef:: .undef:: .undef:: .undef:: .undef:: .undef:: .undef:: .undef:: .undef:: .undef:: .undef:: .undef:: .undef:: .undef::[]) ⟨[some (Dz n k)],[]⟩:=by
 induction m using Nat.strongRecOn with
 |_ m ih=>
  intro k hm hk1 hkn
  refine run_lp ?_
  refine El [1,1,1,1,1,1,0,0,0,0] [1,1,1,1,1,1,0,0,0,1] rfl ?_
  refine El [1,1,1,1,1,1,0,0,0,0,0] [1,1,1,1,1,1,0,0,0,0,1] rfl ?_
  refine Df rfl ?_
  refine D0 8 34 rfl rfl rfl (.inl rfl) rfl (by dsimp only[List.set]) ?_
  refine D0 7 35 rfl rfl rfl (.inl rfl) rfl (by dsimp only[List.set]) ?_
  first|(refine Dg (some 36) rfl rfl rfl rfl (Hf rfl Hn) (by dsimp only[AK,List.set]) ?_)|(refine Dg (some 36) rfl rfl rfl rfl (opOK_un (Hf rfl Hn)) (by dsimp only[AK,List.set]) ?_)|(refine Dg (some 36) rfl rfl rfl rfl (op_lenA rfl Hn) (by dsimp only[AK,List.set]) ?_)
  refine Dg (some 37) rfl rfl rfl rfl (Hg rfl rfl) (by dsimp only[AK,List.set]) ?_
  refine GR rfl ?_
  refine at_cond [1,1,1,1,1,1,0,0,0,0,1,0] [1,1,1,1,1,1,0,0,0,0,1,1] rfl rfl (fun hc1=>?_) (fun hc1=>?_)
  ·skip
   have hlt:k<n:=by simp at hc1;omega
   refine at_skip rfl ?_
   refine at_block [1,1,1,1,1,1,0,0,0,1,0] 1 rfl ?_
   refine at_draw mixed rfl [⟨[some (Dz n k)],[]⟩,⟨[some (Dz n (k+min k (n-k)))],[]⟩] rfl ?_
   refine da_mv 8 38 rfl rfl rfl (.inl rfl) rfl (by dsimp only[List.set]) ?_
   refine da_mv 7 39 rfl rfl rfl (.inl rfl) rfl (by dsimp only[List.set]) ?_
   refine da_mv 8 40 rfl rfl rfl (.inl rfl) rfl (by dsimp only[List.set]) ?_
   refine da_quiet (some 41) rfl rfl rfl rfl (fun s hs=>op_sliceFrom rfl GI hlt) (by dsimp only[AK,List.set]) ?_
   refine da_mv 7 42 rfl rfl rfl (.inl rfl) rfl (by dsimp only[List.set]) ?_
   refine da_mv 8 43 rfl rfl rfl (.inl rfl) rfl (by dsimp only[List.set]) ?_
   refine da_quiet (some 44) rfl rfl rfl rfl (fun s hs=>op_sliceTo rfl GI hlt) (by dsimp only[AK,List.set]) ?_
   refine da_eff (some 45) rfl rfl rfl rfl rfl rfl (op_copyRep rfl GI hlt) (by dsimp only[AK,List.set]) ?_
   refine da_quiet (some 46) rfl rfl rfl rfl (fun s hs=>Hg rfl rfl) (by dsimp only[AK,List.set]) ?_
   refine da_mv 46 8 rfl rfl rfl (.inr rfl) rfl (by dsimp only[List.set]) ?_
   refine da_end rfl ⟨by decide+kernel,_,rfl,?_⟩
   refine run_blk ?_
   rw[Aj (by omega) (by omega),show(k:Int)+((min k (n-k):Nat):Int)=((k+min k (n-k):Nat):Int) by omega]
   exact run_wk (.drop (.drop (.drop (.drop (.drop (.drop (.drop (.keep (.keep (.drop (.drop (.drop (.drop (.drop (.drop (.drop (.drop (.drop (.drop (.drop (.drop (.drop (.drop (.drop (.drop (.drop (.drop (.drop (.drop (.drop (.drop (.drop (.drop (.drop (.drop (.drop (.drop (.drop (.drop (.drop (.drop (.drop (.drop (.drop (.drop (.drop (.drop (.drop .nil)))))))))))))))))))))))))))))))))))))))))))))))) (ih _ (by omega) (k+min k (n-k)) rfl (by omega) (by omega))
  ·skip
   have hge:k=n:=by simp at hc1;omega
   subst hge
   rw[show Dz k k=replicate k (di 1099511627776) by simp[Dz]]
   refine at_exit rfl rfl ?_
   refine El [1,1,1,1,1,1,1,0] [1,1,1,1,1,1,1,1] rfl ?_
   refine Df rfl ?_
   refine D0 7 47 rfl rfl rfl (.inl rfl) rfl (by dsimp only[List.set]) ?_
   refine D0 47 4 rfl rfl rfl (.inr rfl) rfl (by dsimp only[List.set]) ?_
   refine GR rfl ?_
   refine at_ret rfl ?_
   exact res_okA (.tmp rfl .nil) 1 rfl (by simp) (fun i cs h=>by cases i with|zero=>(simp only[List.getElem?_cons_zero,Option.some.injEq] at h;subst h;exact pls_rep _)|succ i=>simp at h) (List.Sublist.refl _) (by decide)
set_option maxRecDepth 20000 in
theorem rep_spec(n:Nat)(h0:1<=n)(h6:n<=2):Ab PP 85 [dl [vi 1099511627776],di ↑n] σ0 (.arr 0 0 n) ⟨[some (replicate n (di 1099511627776))],[]⟩:=by
 refine spec_at cRep Tryz.func85 rfl (by kernel_rfl) (by first|decide|simp) _ (by dsimp only[Tryz.f85,length,Nat.reduceAdd,Nat.reduceSub,replicate,cons_append,nil_append]) ?_
 refine El [0] [1] rfl ?_
 refine Df rfl ?_
 refine at_mc 4 rfl rfl rfl (.inr rfl) (by dsimp only[constD]) (by dsimp only[List.set]) ?_
 refine GR rfl ?_
 refine El [1,0] [1,1] rfl ?_
 refine El [1,0,0] [1,0,1] rfl ?_
 refine Df rfl ?_
 refine D0 1 9 rfl rfl rfl (.inl rfl) rfl (by dsimp only[List.set]) ?_
 refine Dg (some 10) rfl rfl rfl rfl (Hg rfl rfl) (by dsimp only[AK,List.set]) ?_
 refine GR rfl ?_
 refine at_cond [1,0,1,0] [1,0,1,1] rfl rfl (fun hc1=>?_) (fun hc1=>?_)
 ·skip
  exact absurd hc1 (by first|(simp;done)|(simp;omega))
 ·skip
  refine at_skip rfl ?_
  refine El [1,1,0] [1,1,1] rfl ?_
  refine Df rfl ?_
  refine D0 0 13 rfl rfl rfl (.inl rfl) rfl (by dsimp only[List.set]) ?_
  first|(refine Dg (some 14) rfl rfl rfl rfl (Hf rfl Hn) (by dsimp only[AK,List.set]) ?_)|(refine Dg (some 14) rfl rfl rfl rfl (opOK_un (Hf rfl Hn)) (by dsimp only[AK,List.set]) ?_)|(refine Dg (some 14) rfl rfl rfl rfl (op_lenA rfl Hn) (by dsimp only[AK,List.set]) ?_)
  refine Dg (some 15) rfl rfl rfl rfl (op_convI rfl fu_int fu_uint) (by dsimp only[AK,List.set]) ?_
  rw[show u64.wrap ((([vi 1099511627776]).length:Nat):Int)=1 from wrap_u (n:=1) (by decide)]
  refine D0 1 16 rfl rfl rfl (.inl rfl) rfl (by dsimp only[List.set]) ?_
  refine Dg (some 17) rfl rfl rfl rfl (op_convI rfl fu_int fu_uint) (by dsimp only[AK,List.set]) ?_
  rw[wrap_u (by omega)]
  refine Dg (some 18) rfl rfl rfl rfl (op_call0 rfl rfl rfl rfl (mul_spec n h0 h6)) (by dsimp only[AK,List.set]) ?_
  refine D0 18 12 rfl rfl rfl (.inl rfl) rfl (by dsimp only[List.set]) ?_
  refine Dg (some 19) rfl rfl rfl rfl (op_extract rfl rfl) (by dsimp only[AK,List.set]) ?_
  refine Dg (some 20) rfl rfl rfl rfl (op_extract rfl rfl) (by dsimp only[AK,List.set]) ?_
  refine D0 19 5 rfl rfl rfl (.inr rfl) rfl (by dsimp only[List.set]) ?_
  refine D0 20 6 rfl rfl rfl (.inr rfl) rfl (by dsimp only[List.set]) ?_
  refine GR rfl ?_
  refine El [1,1,1,0] [1,1,1,1] rfl ?_
  refine El [1,1,1,0,0] [1,1,1,0,1] rfl ?_
  refine Df rfl ?_
  refine D0 5 21 rfl rfl rfl (.inl rfl) rfl (by dsimp only[List.set]) ?_
  refine Dg (some 22) rfl rfl rfl rfl (Hg rfl rfl) (by dsimp only[AK,List.set]) ?_
  refine D0 22 23 rfl rfl rfl (.inl rfl) rfl (by dsimp only[List.set]) ?_
  refine at_split 23 rfl (fun hb2 env' he=>?_) (fun hb2 env' he=>?_)
  ·dsimp only[List.set] at he;subst he
   exact absurd hb2 (by simp)
  ·dsimp only[List.set] at he;subst he
   refine D0 6 24 rfl rfl rfl (.inl rfl) rfl (by dsimp only[List.set]) ?_
   refine Dg (some 25) rfl rfl rfl rfl (Hg rfl rfl) (by dsimp only[AK,List.set]) ?_
   refine at_pk false 23 25 26 rfl rfl rfl rfl rfl rfl rfl (by dsimp only[List.set]) ?_
   refine GR rfl ?_
   refine at_cond [1,1,1,0,1,0] [1,1,1,0,1,1] rfl rfl (fun hc3=>?_) (fun hc3=>?_)
   ·skip
    exact absurd hc3 (by first|(simp;done)|(simp;omega))
   ·skip
    refine at_skip rfl ?_
    refine El [1,1,1,1,0] [1,1,1,1,1] rfl ?_
    refine Df rfl ?_
    refine D0 6 28 rfl rfl rfl (.inl rfl) rfl (by dsimp only[List.set]) ?_
    refine Dg (some 29) rfl rfl rfl rfl (op_convI rfl fu_uint fu_int) (by dsimp only[AK,List.set]) ?_
    rw[Aj (by omega) (by omega)]
    refine at_opS (some 30) rfl rfl rfl rfl (op_make rfl GI rfl (by omega) (by omega) (by omega)) (by dsimp only[AK,List.set]) (by dsimp only[List.set,List.append,cons_append,nil_append,B6,map,Fy,length,Nat.reduceAdd,if_true, ↓reduceIte];first|done|rfl) ?_
    rw[Int.toNat_natCast]
    refine D0 30 7 rfl rfl rfl (.inr rfl) rfl (by dsimp only[List.set]) ?_
    refine GR rfl ?_
    refine El [1,1,1,1,1,0] [1,1,1,1,1,1] rfl ?_
    refine Df rfl ?_
    refine D0 7 31 rfl rfl rfl (.inl rfl) rfl (by dsimp only[List.set]) ?_
    refine D0 0 32 rfl rfl rfl (.inl rfl) rfl (by dsimp only[List.set]) ?_
    refine at_opS (some 33) rfl rfl rfl rfl (op_copyL (k:=1) rfl GI rfl (by simp[V.size,V.isAgg]) (by show(1:Nat)=min 1 n;omega) (by decide) (by simp;omega)) (by dsimp only[AK,List.set]) (by dsimp only[List.set,List.append,cons_append,nil_append,B6,map,Fy,length,Nat.reduceAdd,if_true, ↓reduceIte];first|done|rfl) ?_
    refine D0 33 8 rfl rfl rfl (.inr rfl) rfl (by dsimp only[List.set]) ?_
    refine GR rfl ?_
    rw[rep_start h0]
    refine El [1,1,1,1,1,1,0] [1,1,1,1,1,1,1] rfl ?_
    refine at_block [1,1,1,1,1,1,0,0] 0 rfl ?_
    refine at_loop [1,1,1,1,1,1,0,0,0] rfl ?_
    try simp only[length_map,length_nil]
    exact run_wk (.drop (.drop (.drop (.drop (.drop (.drop (.drop (.keep (.keep (.drop (.drop (.drop (.drop (.drop (.drop (.drop (.drop (.drop (.drop (.drop (.drop (.drop (.drop (.drop (.drop (.drop (.drop (.drop (.drop (.drop (.drop (.drop (.drop (.drop (.drop (.drop (.drop (.drop (.drop (.drop (.drop (.drop (.drop (.drop (.drop (.drop (.drop (.drop .nil)))))))))))))))))))))))))))))))))))))))))))))))) (rep_loop n (by omega) _ 1 rfl (by omega) h0)
noncomputable abbrev fILst:Func:= Tryz.f79
theorem ilst_1:Ab PP 79 [di 1] σ0 (di 3) σ0:=by
 refine sv fILst 17 [] (.n<|.n .r) (di (wrap i64 (1*3))=di 3) ?_
 kernel_rfl
theorem ilst_2:Ab PP 79 [di 2] σ0 (di 9) σ0:=by
 refine sv fILst 17 [] (.n<|.n<|.n .r) (di (wrap i64 (wrap i64 (1*3)*3))=di 9) ?_
 kernel_rfl
noncomputable abbrev fICds:Func:= Tryz.f78
theorem icds_1:Ab PP 78 [di 1] σ0 (di 24) σ0:=by
 refine sv fICds 6 [] (.c (di 3) .r) (F0 79 [di 1] (di 3)/\di (wrap i64 (8*3))=di 24) ?_
 exact⟨ilst_1,by kernel_rfl⟩
theorem icds_2:Ab PP 78 [di 2] σ0 (di 72) σ0:=by
 refine sv fICds 6 [] (.c (di 9) .r) (F0 79 [di 2] (di 9)/\di (wrap i64 (8*9))=di 72) ?_
 exact⟨ilst_2,by kernel_rfl⟩
noncomputable abbrev fICnd:Func:= Tryz.f54
def EL(p:Nat)(n:Int):List Int×Int×Bool:=if p=1 then(if n<24 then([n%3-1],(if n/3>0 then n/3+1 else 0),true) else([],0,false))
 else(if n<72 then([n%9%3-1,n%9/3%3-1],(if n/9>0 then n/9+1 else 0),true) else([],0,false))
abbrev dCnd(c:List Int×Int×Bool):D:=.tup [dIs c.1,di c.2.1,db c.2.2]
theorem tq{n k:Int}(h:0<=n):n.tdiv k=n/k:=Int.tdiv_eq_ediv_of_nonneg h
theorem tr{n k:Int}(h:0<=n):n.tmod k=n%k:=Int.tmod_eq_emod_of_nonneg h
theorem icnd_1(n:Int)(hn:0<=n/\n<=1000):Ab PP 54 [di 1,di n] σ0 (dCnd (EL 1 n)) σ0:=by
 by_cases h:n<24
 ·by_cases h2:n/3>0
  ·refine sv fICnd 49 [] (.f<|.c (di 24)<|.f<|.c (di 3)<|.c (di 3)<|.t<|.n<|.n<|.h (.q 13 0)<|.h (.fl 0 9 [vi (n%3-1)]) .r) (decide (n<0)=false/\F0 78 [di 1] (di 24)/\decide (n>=24)=false/\F0 79 [di 1] (di 3)/\iz 3≠0/\F0 79 [di 1] (di 3)/\iz 3≠0/\decide (wrap i64 (Int.tdiv n 3)>0)=true/\iz 1=1/\iz 0<=1/\(8:Int)*1<=281474976710656/\iz 1<=9223372036854775807/\iz 3≠0/\iz 0<=0/\0<(↑(Int.toNat 1):Int)/\iz 3≠0/\[di (wrap i64 (Int.tmod (Int.tmod n 3) 3-1))]=[di (n%3-1)]/\Q 1/\D.tup [D.v (V.list [vi (n%3-1)]),di (wrap i64 (wrap i64 (Int.tdiv n 3)+1)),db true]=dCnd (EL 1 n)) ?_
   have e1:=tq (k:=3) hn.1
   have e2:(n.tmod 3).tmod 3=n%3:=by rw[tr hn.1,tr (by omega)];omega
   rw[e1,e2,Aj (n:=n/3) (by omega) (by omega),Aj (n:=n%3-1) (by omega) (by omega)]
   refine⟨decide_eq_false (by omega),icds_1,decide_eq_false (by omega),ilst_1,by decide,ilst_1,by decide,decide_eq_true h2,rfl,by decide,by decide,by decide,by decide,by decide,by decide,by decide,rfl,rfl,?_⟩
   rw[Aj (n:=n/3+1) (by omega) (by omega),EL,if_pos rfl,if_pos h,if_pos h2];rfl
  ·refine sv fICnd 49 [] (.f<|.c (di 24)<|.f<|.c (di 3)<|.c (di 3)<|.f<|.n<|.n<|.h (.q 13 0)<|.h (.fl 0 9 [vi (n%3-1)]) .r) (decide (n<0)=false/\F0 78 [di 1] (di 24)/\decide (n>=24)=false/\F0 79 [di 1] (di 3)/\iz 3≠0/\F0 79 [di 1] (di 3)/\iz 3≠0/\decide (wrap i64 (Int.tdiv n 3)>0)=false/\iz 1=1/\iz 0<=1/\(8:Int)*1<=281474976710656/\iz 1<=9223372036854775807/\iz 3≠0/\iz 0<=0/\0<(↑(Int.toNat 1):Int)/\iz 3≠0/\[di (wrap i64 (Int.tmod (Int.tmod n 3) 3-1))]=[di (n%3-1)]/\Q 1/\D.tup [D.v (V.list [vi (n%3-1)]),di (wrap i64 (Int.tdiv n 3)),db true]=dCnd (EL 1 n)) ?_
   have e1:=tq (k:=3) hn.1
   have e2:(n.tmod 3).tmod 3=n%3:=by rw[tr hn.1,tr (by omega)];omega
   rw[e1,e2,Aj (n:=n/3) (by omega) (by omega),Aj (n:=n%3-1) (by omega) (by omega)]
   refine⟨decide_eq_false (by omega),icds_1,decide_eq_false (by omega),ilst_1,by decide,ilst_1,by decide,decide_eq_false h2,rfl,by decide,by decide,by decide,by decide,by decide,by decide,by decide,rfl,rfl,?_⟩
   rw[EL,if_pos rfl,if_pos h,if_neg h2,show n/3=0 by omega];rfl
 ·refine sv fICnd 49 [] (.f<|.c (di 24)<|.t .r) (decide (n<0)=false/\F0 78 [di 1] (di 24)/\decide (n>=24)=true/\D.tup [D.v (V.list []),di 0,db false]=dCnd (EL 1 n)) ?_
  exact⟨decide_eq_false (by omega),icds_1,decide_eq_true (by omega),by rw[EL,if_pos rfl,if_neg h];rfl⟩
theorem icnd_2(n:Int)(hn:0<=n/\n<=1000):Ab PP 54 [di 2,di n] σ0 (dCnd (EL 2 n)) σ0:=by
 by_cases h:n<72
 ·by_cases h2:n/9>0
  ·refine sv fICnd 49 [] (.f<|.c (di 72)<|.f<|.c (di 9)<|.c (di 9)<|.t<|.n<|.n<|.n<|.h (.q 13 0)<|.h (.fl 0 9 [vi (n%9%3-1),vi (n%9/3%3-1)]) .r) (decide (n<0)=false/\F0 78 [di 2] (di 72)/\decide (n>=72)=false/\F0 79 [di 2] (di 9)/\iz 9≠0/\F0 79 [di 2] (di 9)/\iz 9≠0/\decide (wrap i64 (Int.tdiv n 9)>0)=true/\iz 2=2/\iz 0<=2/\(8:Int)*2<=281474976710656/\iz 2<=9223372036854775807/\iz 3≠0/\iz 0<=0/\0<(↑(Int.toNat 2):Int)/\iz 3≠0/\iz 3≠0/\0<=wrap i64 (0+1)/\wrap i64 (0+1)<(↑(Int.toNat 2):Int)/\iz 3≠0/\[di (wrap i64 (Int.tmod (Int.tmod n 9) 3-1)),di (wrap i64 (Int.tmod (wrap i64 (Int.tdiv (Int.tmod n 9) 3)) 3-1))]=[di (n%9%3-1),di (n%9/3%3-1)]/\Q 2/\D.tup [D.v (V.list [vi (n%9%3-1),vi (n%9/3%3-1)]),di (wrap i64 (wrap i64 (Int.tdiv n 9)+1)),db true]=dCnd (EL 2 n)) ?_
   have e1:=tq (k:=9) hn.1
   have e2:n.tmod 9=n%9:=tr hn.1
   have e3:(n%9).tmod 3=n%9%3:=tr (by omega)
   have e4:(n%9).tdiv 3=n%9/3:=tq (by omega)
   have e5:(n%9/3).tmod 3=n%9/3%3:=tr (by omega)
   rw[e1,e2,e3,e4,Aj (n:=n/9) (by omega) (by omega),Aj (n:=n%9/3) (by omega) (by omega),e5,Aj (n:=n%9%3-1) (by omega) (by omega),Aj (n:=n%9/3%3-1) (by omega) (by omega)]
   refine⟨decide_eq_false (by omega),icds_2,decide_eq_false (by omega),ilst_2,by decide,ilst_2,by decide,decide_eq_true h2,rfl,by decide,by decide,by decide,by decide,by decide,by decide,by decide,by decide,by decide,by decide,by decide,rfl,rfl,?_⟩
   rw[Aj (n:=n/9+1) (by omega) (by omega),EL,if_neg (by decide),if_pos h,if_pos h2];rfl
  ·refine sv fICnd 49 [] (.f<|.c (di 72)<|.f<|.c (di 9)<|.c (di 9)<|.f<|.n<|.n<|.n<|.h (.q 13 0)<|.h (.fl 0 9 [vi (n%9%3-1),vi (n%9/3%3-1)]) .r) (decide (n<0)=false/\F0 78 [di 2] (di 72)/\decide (n>=72)=false/\F0 79 [di 2] (di 9)/\iz 9≠0/\F0 79 [di 2] (di 9)/\iz 9≠0/\decide (wrap i64 (Int.tdiv n 9)>0)=false/\iz 2=2/\iz 0<=2/\(8:Int)*2<=281474976710656/\iz 2<=9223372036854775807/\iz 3≠0/\iz 0<=0/\0<(↑(Int.toNat 2):Int)/\iz 3≠0/\iz 3≠0/\0<=wrap i64 (0+1)/\wrap i64 (0+1)<(↑(Int.toNat 2):Int)/\iz 3≠0/\[di (wrap i64 (Int.tmod (Int.tmod n 9) 3-1)),di (wrap i64 (Int.tmod (wrap i64 (Int.tdiv (Int.tmod n 9) 3)) 3-1))]=[di (n%9%3-1),di (n%9/3%3-1)]/\Q 2/\D.tup [D.v (V.list [vi (n%9%3-1),vi (n%9/3%3-1)]),di (wrap i64 (Int.tdiv n 9)),db true]=dCnd (EL 2 n)) ?_
   have e1:=tq (k:=9) hn.1
   have e2:n.tmod 9=n%9:=tr hn.1
   have e3:(n%9).tmod 3=n%9%3:=tr (by omega)
   have e4:(n%9).tdiv 3=n%9/3:=tq (by omega)
   have e5:(n%9/3).tmod 3=n%9/3%3:=tr (by omega)
   rw[e1,e2,e3,e4,Aj (n:=n/9) (by omega) (by omega),Aj (n:=n%9/3) (by omega) (by omega),e5,Aj (n:=n%9%3-1) (by omega) (by omega),Aj (n:=n%9/3%3-1) (by omega) (by omega)]
   refine⟨decide_eq_false (by omega),icds_2,decide_eq_false (by omega),ilst_2,by decide,ilst_2,by decide,decide_eq_false h2,rfl,by decide,by decide,by decide,by decide,by decide,by decide,by decide,by decide,by decide,by decide,by decide,rfl,rfl,?_⟩
   rw[EL,if_neg (by decide),if_pos h,if_neg h2,show n/9=0 by omega];rfl
 ·refine sv fICnd 49 [] (.f<|.c (di 72)<|.t .r) (decide (n<0)=false/\F0 78 [di 2] (di 72)/\decide (n>=72)=true/\D.tup [D.v (V.list []),di 0,db false]=dCnd (EL 2 n)) ?_
  exact⟨decide_eq_false (by omega),icds_2,decide_eq_true (by omega),by rw[EL,if_neg (by decide),if_neg h];rfl⟩
noncomputable abbrev fIFlw:Func:= Tryz.f121
def nxtM(cs:List Int)(md:Int)(r:Rul)(v:Int):Int:=if decide (md>0)=true then(v+BU cs r)%md else v+BU cs r
abbrev cSp(m:Mod)(cs:List Int)(md:Int)(N:Nat):List D:=[di m.kind,.v (vSs m.states),.v (vSs m.places),.v (vSs m.letters),.v (vIs m.ranks),di m.levels,di m.age,.v (AY m.rules),di m.start.n,dVs m.start.kids,dIs cs,di md,.arr 1 0 N]
abbrev stS(m:Mod)(cs:List Int)(md:Int)(N:Nat)(vals:List Int):St:=⟨[some (cSp m cs md N),some (cIs vals)],[]⟩
def BN(cs:List Int)(md:Int)(r:Rul)(vals:List Int):List Int×Bool×Bool:=
 let v:=vals.getD r.frm.toNat 0
 let u:=vals.getD r.to.toNat 0
 if v=OMG then(vals,false,true)
 else if u=OMG∨md=0/\nxtM cs md r v<u then(vals.set r.to.toNat (nxtM cs md r v),true,true)
 else if md>0/\nxtM cs md r v≠u then(vals,false,false)
 else(vals,false,true)
structure CoM(m:Mod)(cs:List Int)(md:Int):Prop where
 len:cs.length=m.places.length
 coef:∀c∈cs, -4<=c/\c<=4
 mod:md=0∨2<=md/\md<=8
theorem iflw_spec(m:Mod)(hm:PlC m)(cs:List Int)(md:Int)(hc:CoM m cs md)(r:Rul)(hr:RulOK m r)(vals:List Int)(N:Nat)(hN:vals.length=N)(hN2:N=m.states.length)(hb:∀v∈vals, -1099511627776<=v/\v<=1099511627776):
  Ab PP 121 [.ptr 0 0,BK r] (stS m cs md N vals) (.tup [db (BN cs md r vals).2.1,db (BN cs md r vals).2.2]) (stS m cs md N (BN cs md r vals).1):=by
 have hf:=hr.frm
 have ht:=hr.to
 have hp:=hm.places
 have hfw:=hm.few
 obtain⟨v,hv⟩:∃v,vals[r.frm.toNat]?=some v:=⟨_,getElem?_eq_getElem (by omega)⟩
 obtain⟨u,hu⟩:∃v,vals[r.to.toNat]?=some v:=⟨_,getElem?_eq_getElem (by omega)⟩
 have hvb:=hb v (mem_of_getElem? hv)
 have hub:=hb u (mem_of_getElem? hu)
 have hcl:=hc.len
 have heff:=ieff_spec m r hr cs hcl (by omega) hc.coef
 have heb:=eff_bd hr (by omega) hc.coef
 have g1:vals.getD r.frm.toNat 0=v:=by rw[getD_eq_getElem?_getD,hv];rfl
 have g2:vals.getD r.to.toNat 0=u:=by rw[getD_eq_getElem?_getD,hu];rfl
 have hmd:=hc.mod
 have okS:∀l:List Int,okH 2 [] [some (cSp m cs md N),some (cIs l)]=true:=fun l=>by simp[okH,D.okNs,D.okN,BH]
 have i1:(cIs vals)[0+Int.toNat r.frm*1]?=some (di v):=by simp[cIs,hv]
 have i2:(cIs vals)[0+Int.toNat r.to*1]?=some (di u):=by simp[cIs,hu]
 have i3:∀x:Int,List.set (cIs vals) (0+Int.toNat r.to*1) (di x)=cIs (vals.set r.to.toNat x):=fun x=>by simp[cIs,List.map_set]
 have i4:0+Int.toNat r.to*1<(cIs vals).length:=by simp[cIs];omega
 by_cases h1:v=OMG
 ·refine sv fIFlw 87 [3] (.m (.arr 1 0 N)<|.m (di v)<|.t .ro) (Q (some (D.arr 1 0 N))/\0<=r.frm/\r.frm<(N:Int)/\(cIs vals)[0+Int.toNat r.frm*1]?=some (di v)/\0<=r.to/\r.to<(N:Int)/\(True/\True/\True/\True)/\(v==1099511627776)=true/\okH 2 [] [some (cSp m cs md N),some (cIs vals)]=true/\[some (cSp m cs md N),some (cIs vals)]=[some (cSp m cs md N),some (cIs (BN cs md r vals).fst)]/\D.tup [db false,db true]=D.tup [db (BN cs md r vals).snd.fst,db (BN cs md r vals).snd.snd]) ?_
  have e:BN cs md r vals=(vals,false,true):=by simp only[BN,g1,g2];rw[if_pos h1]
  rw[e]
  exact⟨rfl,hf.1,by omega,i1,ht.1,by omega,⟨trivial,trivial,trivial,trivial⟩,by rw[h1];rfl,okS _,rfl,rfl⟩
 ·by_cases h2:md=0
  ·refine sv fIFlw 87 [3] (.m (.arr 1 0 N)<|.m (di v)<|.f<|.c (di (BU cs r))<|.f<|.m (di u)<|.b (.w .ro) (.t<|.m (di u)<|.b (.w .ro) (.f .ro))) (Q (some (D.arr 1 0 N))/\0<=r.frm/\r.frm<(N:Int)/\(cIs vals)[0+Int.toNat r.frm*1]?=some (di v)/\0<=r.to/\r.to<(N:Int)/\(True/\True/\True/\True)/\(v==1099511627776)=false/\F0 125 [dIs cs,BK r] (di (BU cs r))/\(True/\True)/\decide (md>0)=false/\(cIs vals)[0+Int.toNat r.to*1]?=some (di u)/\((u==1099511627776)=true->0+Int.toNat r.to*1<length (cIs vals)/\okH 2 [] [some (cSp m cs md N),some (List.set (cIs vals) (0+Int.toNat r.to*1) (di (wrap i64 (v+BU cs r))))]=true/\[some (cSp m cs md N),some (List.set (cIs vals) (0+Int.toNat r.to*1) (di (wrap i64 (v+BU cs r))))]=[some (cSp m cs md N),some (cIs (BN cs md r vals).fst)]/\D.tup [db true,db true]=D.tup [db (BN cs md r vals).snd.fst,db (BN cs md r vals).snd.snd])/\((u==1099511627776)=false->(md==0)=true/\(cIs vals)[0+Int.toNat r.to*1]?=some (di u)/\(decide (wrap i64 (v+BU cs r)<u)=true->0+Int.toNat r.to*1<length (cIs vals)/\okH 2 [] [some (cSp m cs md N),some (List.set (cIs vals) (0+Int.toNat r.to*1) (di (wrap i64 (v+BU cs r))))]=true/\[some (cSp m cs md N),some (List.set (cIs vals) (0+Int.toNat r.to*1) (di (wrap i64 (v+BU cs r))))]=[some (cSp m cs md N),some (cIs (BN cs md r vals).fst)]/\D.tup [db true,db true]=D.tup [db (BN cs md r vals).snd.fst,db (BN cs md r vals).snd.snd])/\(decide (wrap i64 (v+BU cs r)<u)=false->decide (md>0)=false/\okH 2 [] [some (cSp m cs md N),some (cIs vals)]=true/\[some (cSp m cs md N),some (cIs vals)]=[some (cSp m cs md N),some (cIs (BN cs md r vals).fst)]/\D.tup [db false,db true]=D.tup [db (BN cs md r vals).snd.fst,db (BN cs md r vals).snd.snd]))) ?_
   have hx:nxtM cs md r v=v+BU cs r:=by rw[nxtM,if_neg (by rw[h2];decide)]
   rw[Aj (n:=v+BU cs r) (by omega) (by omega),i3]
   refine⟨rfl,hf.1,by omega,i1,ht.1,by omega,⟨trivial,trivial,trivial,trivial⟩,beq_eq_false_iff_ne.2 h1,heff,⟨trivial,trivial⟩,decide_eq_false (by omega),i2,fun h3=>?_,fun h3=>⟨by rw[h2];rfl,i2,fun h4=>?_,fun h4=>?_⟩⟩
   ·have h3:u=OMG:=by simpa[OMG] using h3
    have e:BN cs md r vals=(vals.set r.to.toNat (v+BU cs r),true,true):=by simp only[BN,g1,g2];rw[if_neg h1,if_pos (.inl h3),hx]
    rw[e];exact⟨i4,okS _,rfl,rfl⟩
   ·have h4:=of_decide_eq_true h4
    have e:BN cs md r vals=(vals.set r.to.toNat (v+BU cs r),true,true):=by simp only[BN,g1,g2];rw[if_neg h1,if_pos (.inr ⟨h2,by rw[hx];exact h4⟩),hx]
    rw[e];exact⟨i4,okS _,rfl,rfl⟩
   ·have h3:u≠OMG:=by simpa[OMG] using h3
    have h4:=of_decide_eq_false h4
    have e:BN cs md r vals=(vals,false,true):=by simp only[BN,g1,g2];rw[if_neg h1,if_neg (by rw[hx];exact fun h=>h.elim h3 fun h=>h4 h.2),if_neg (by omega)]
    rw[e];exact⟨decide_eq_false (by omega),okS _,rfl,rfl⟩
  ·have hrs:=irest_spec (v+BU cs r) md (by omega) (by omega)
   refine sv fIFlw 87 [3] (.m (.arr 1 0 N)<|.m (di v)<|.f<|.c (di (BU cs r))<|.t<|.c (di ((v+BU cs r)%md))<|.m (di u)<|.b (.w .ro) (.f<|.k<|.t<|.m (di u)<|.b .ro .ro)) (Q (some (D.arr 1 0 N))/\0<=r.frm/\r.frm<(N:Int)/\(cIs vals)[0+Int.toNat r.frm*1]?=some (di v)/\0<=r.to/\r.to<(N:Int)/\(True/\True/\True/\True)/\(v==1099511627776)=false/\F0 125 [dIs cs,BK r] (di (BU cs r))/\(True/\True)/\decide (md>0)=true/\F0 88 [di (wrap i64 (v+BU cs r)),di md] (di ((v+BU cs r)%md))/\(cIs vals)[0+Int.toNat r.to*1]?=some (di u)/\((u==1099511627776)=true->0+Int.toNat r.to*1<length (cIs vals)/\okH 2 [] [some (cSp m cs md N),some (List.set (cIs vals) (0+Int.toNat r.to*1) (di ((v+BU cs r)%md)))]=true/\[some (cSp m cs md N),some (List.set (cIs vals) (0+Int.toNat r.to*1) (di ((v+BU cs r)%md)))]=[some (cSp m cs md N),some (cIs (BN cs md r vals).fst)]/\D.tup [db true,db true]=D.tup [db (BN cs md r vals).snd.fst,db (BN cs md r vals).snd.snd])/\((u==1099511627776)=false->(md==0)=false/\decide (md>0)=true/\(cIs vals)[0+Int.toNat r.to*1]?=some (di u)/\(((v+BU cs r)%md !=u)=true->okH 2 [] [some (cSp m cs md N),some (cIs vals)]=true/\[some (cSp m cs md N),some (cIs vals)]=[some (cSp m cs md N),some (cIs (BN cs md r vals).fst)]/\D.tup [db false,db false]=D.tup [db (BN cs md r vals).snd.fst,db (BN cs md r vals).snd.snd])/\(((v+BU cs r)%md !=u)=false->okH 2 [] [some (cSp m cs md N),some (cIs vals)]=true/\[some (cSp m cs md N),some (cIs vals)]=[some (cSp m cs md N),some (cIs (BN cs md r vals).fst)]/\D.tup [db false,db true]=D.tup [db (BN cs md r vals).snd.fst,db (BN cs md r vals).snd.snd]))) ?_
   have hx:nxtM cs md r v=(v+BU cs r)%md:=by rw[nxtM,if_pos (decide_eq_true (by omega))]
   rw[Aj (n:=v+BU cs r) (by omega) (by omega),i3]
   refine⟨rfl,hf.1,by omega,i1,ht.1,by omega,⟨trivial,trivial,trivial,trivial⟩,beq_eq_false_iff_ne.2 h1,heff,⟨trivial,trivial⟩,decide_eq_true (by omega),hrs,i2,fun h3=>?_,fun h3=>⟨beq_eq_false_iff_ne.2 h2,decide_eq_true (by omega),i2,fun h4=>?_,fun h4=>?_⟩⟩
   ·have h3:u=OMG:=by simpa[OMG] using h3
    have e:BN cs md r vals=(vals.set r.to.toNat ((v+BU cs r)%md),true,true):=by simp only[BN,g1,g2];rw[if_neg h1,if_pos (.inl h3),hx]
    rw[e];exact⟨i4,okS _,rfl,rfl⟩
   ·have h3:u≠OMG:=by simpa[OMG] using h3
    have h4:(v+BU cs r)%md≠u:=by simpa using h4
    have e:BN cs md r vals=(vals,false,false):=by simp only[BN,g1,g2];rw[if_neg h1,if_neg (fun h=>h.elim h3 fun h=>h2 h.1),if_pos ⟨by omega,by rw[hx];exact h4⟩]
    rw[e];exact⟨okS _,rfl,rfl⟩
   ·have h3:u≠OMG:=by simpa[OMG] using h3
    have h4:(v+BU cs r)%md=u:=by simpa using h4
    have e:BN cs md r vals=(vals,false,true):=by simp only[BN,g1,g2];rw[if_neg h1,if_neg (fun h=>h.elim h3 fun h=>h2 h.1),if_neg (by rw[hx];rintro ⟨_,h⟩;exact h h4)]
    rw[e];exact⟨okS _,rfl,rfl⟩
structure ValB(md B:Int)(vals:List Int):Prop where
 bd:∀v∈vals,v=OMG∨ -B<=v/\v<=B
 md:0<md->∀v∈vals,v=OMG∨0<=v/\v<=md-1
theorem flwM_ok{m:Mod}(hm:PlC m){cs:List Int}{md:Int}(hc:CoM m cs md){r:Rul}(hr:RulOK m r){B:Int}(hB:0<=B){vals:List Int}(h:ValB md B vals)(hl:vals.length=m.states.length):ValB md (B+16777216) (BN cs md r vals).1/\(BN cs md r vals).1.length=m.states.length:=by
 have hfw:=hm.few
 have hcl:=hc.len
 have heb:=eff_bd hr (by omega) hc.coef
 have hf:=hr.frm
 obtain⟨v,hv⟩:∃v,vals[r.frm.toNat]?=some v:=⟨_,getElem?_eq_getElem (by omega)⟩
 have g1:vals.getD r.frm.toNat 0=v:=by rw[getD_eq_getElem?_getD,hv];rfl
 have hvm:=mem_of_getElem? hv
 have keep:ValB md (B+16777216) vals:=⟨fun v hv=>by have:=h.bd v hv;omega,h.md⟩
 simp only[BN,g1]
 split
 ·exact⟨keep,hl⟩
 ·rename_i hne
  split
  ·have hvb:=(h.bd v hvm).resolve_left hne
   have hmd:=hc.mod
   have hx:0<md->0<=nxtM cs md r v/\nxtM cs md r v<=md-1:=fun hp=>by
    rw[nxtM,if_pos (decide_eq_true hp)]
    have h1:=Int.emod_nonneg (v+BU cs r) (show md≠0 by omega)
    have h2:=Int.emod_lt_of_pos (v+BU cs r) hp
    omega
   have hy: -(B+16777216)<=nxtM cs md r v/\nxtM cs md r v<=B+16777216:=by
    by_cases hp:0<md
    ·have:=hx hp;omega
    ·rw[nxtM,if_neg (by rw[decide_eq_false hp];decide)];omega
   refine⟨⟨fun w hw=>?_,fun hp w hw=>?_⟩,by rw[length_set];exact hl⟩
   ·rcases mem_or_eq_of_mem_set hw with hw|hw
    ·exact keep.bd w hw
    ·rw[hw];exact .inr hy
   ·rcases mem_or_eq_of_mem_set hw with hw|hw
    ·exact h.md hp w hw
    ·rw[hw];exact .inr (hx hp)
  ·split
   ·exact⟨keep,hl⟩
   ·exact⟨keep,hl⟩
def CQ(cs:List Int)(md:Int):List Rul->List Int->Bool->List Int×Bool×Bool
 |[],vals,ch=>(vals,ch,true)
 |r::rs,vals,ch=>if (BN cs md r vals).2.2=true then CQ cs md rs (BN cs md r vals).1 (ch||(BN cs md r vals).2.1) else((BN cs md r vals).1,false,false)
theorem rndM_ok{m:Mod}(hm:PlC m){cs:List Int}{md:Int}(hc:CoM m cs md):∀(rs:List Rul) (vals:List Int) (ch:Bool) (B:Int),(∀r∈rs,RulOK m r)->0<=B->ValB md B vals->vals.length=m.states.length->ValB md (B+16777216*rs.length) (CQ cs md rs vals ch).1/\(CQ cs md rs vals ch).1.length=m.states.length
 |[],vals,ch,B,_,_,h,hl=>by rw[CQ];exact⟨by simpa using h,hl⟩
 |r::rs,vals,ch,B,hr,hB,h,hl=>by
  obtain⟨h1,h2⟩:=flwM_ok hm hc (hr r (by simp)) hB h hl
  rw[CQ]
  split
  ·have:=rndM_ok hm hc rs _ (ch||(BN cs md r vals).2.1) (B+16777216) (fun r h=>hr r (by simp[h])) (by omega) h1 h2
   rw[show B+16777216*((r::rs).length:Int)=B+16777216+16777216*(rs.length:Int) by simp only[length_cons];omega]
   exact this
  ·exact⟨⟨fun v hv=>by have:=h1.bd v hv;simp only[length_cons];omega,h1.md⟩,h2⟩
theorem argsR_v(n:Nat)(qs:List Nat):∀l:List V,D1 n qs (l.map .v) (l.map .v)
 |[]=>.nil
 |x::l=>.cons (.ren (dc:=.v x) rfl) (argsR_v n qs l)
theorem rens_v(ρ τ:Nat->Nat):∀l:List V,D.rens ρ τ (l.map .v)=l.map .v
 |[]=>rfl
 |x::l=>by simp only[map_cons,D.rens,D.ren,rens_v ρ τ l]
theorem cIs_v(l:List Int):cIs l=(l.map vi).map .v:=by simp[cIs]
theorem DT{o:Oper}{c:Call}{fo:Operand}(ho:o.op=.call c)(hc:c.callee=.value fo){f:FuncId}{H:List (Option (List D))}{m:Mod}{cs:List Int}{md:Int}{N:Nat}{vals vals':List Int}(p:Nat)(hp1:p≠1)(hp:H[p]?=some (some (cSp m cs md N)))(ha:H[1]?=some (some (cIs vals))){x:List V}{b1 b2:Bool}
  (hspec:Ab PP f (.ptr 0 0::x.map .v) (stS m cs md N vals) (.tup [db b1,db b2]) (stS m cs md N vals')):Ai PP o (.v (.fn f [] []):: .ptr p 0::x.map .v) ⟨H,[]⟩ (.tup [db b1,db b2]) ⟨(H.set p (some (cSp m cs md N))).set 1 (some (cIs vals')),[]⟩:=by
 have v12:∀q,D1 H.length q [di m.kind,.v (vSs m.states),.v (vSs m.places),.v (vSs m.letters),.v (vIs m.ranks),di m.levels,di m.age,.v (AY m.rules),di m.start.n,dVs m.start.kids,dIs cs,di md] [di m.kind,.v (vSs m.states),.v (vSs m.places),.v (vSs m.letters),.v (vIs m.ranks),di m.levels,di m.age,.v (AY m.rules),di m.start.n,dVs m.start.kids,dIs cs,di md]:=fun q=>argsR_v _ q [vi m.kind,vSs m.states,vSs m.places,vSs m.letters,vIs m.ranks,vi m.levels,vi m.age,AY m.rules,vi m.start.n,vVs m.start.kids,vIs cs,vi md]
 have app:∀{n:Nat} {qs:List Nat} {a b c d:List D},D1 n qs a b->D1 n qs c d->D1 n qs (a++c) (b++d):=by
  intro n qs a b c d h1 h2
  induction h1 with
  |nil=>exact h2
  |cons h hs ih=>exact .cons h ih
 have hcells:D1 H.length [p,1] (cSp m cs md N) (cSp m cs md N):=app (v12 _) (.cons (.ren (dc:=.arr 1 0 N) rfl) .nil)
 have h:=Cr (σ:=⟨H,[]⟩) ho hc (fD:=.v (.fn f [] [])) rfl (ds:=.ptr p 0::x.map .v) [p,1] id hspec (.cons (.ren (dc:=.ptr 0 0) rfl) (by simpa using argsR_v _ _ x))
  (.cons hp hcells (by rfl) (.cons ha (by rw[cIs_v];exact argsR_v _ _ _) (by rw[cIs_v,all_eq_true];intro d hd;obtain⟨y,hy,rfl⟩:=mem_map.1 hd;obtain⟨z,_,rfl⟩:=mem_map.1 hy;rfl) .nil)) (by simp[hp1]) rfl (by simp) (by simp) (by simp[D.okN,D.okNs]) (by simp[okH,D.okNs,D.okN,BH])
 have e1:D.rens (rho H.length [p,1]) id (cIs vals')=cIs vals':=by rw[cIs_v,rens_v]
 simpa[F1,Cy,EE,D.ren,D.rens,e1,rho] using h
noncomputable abbrev fIRnd:Func:= Tryz.f89
noncomputable def cIRnd:Code:=fIRnd.body.getD .skip
theorem irnd_loop(m:Mod)(hm:PlC m)(cs:List Int)(md:Int)(hc:CoM m cs md)(N:Nat)(hN:N=m.states.length)(n:Nat):∀(k:Nat) (vals:List Int) (cg:Bool) (B:Int),m.rules.length-k=n->0<=B->B+16777216*n<=1099511627776->ValB md B vals->vals.length=N->
  Rn PP fIRnd 2 (.tup [db (CQ cs md (m.rules.drop k) vals cg).2.1,db (CQ cs md (m.rules.drop k) vals cg).2.2]) (stS m cs md N (CQ cs md (m.rules.drop k) vals cg).1) ([.lp (sub cIRnd [1,1,0,1,0,0]),.blk 0,.code (sub cIRnd [1,1,1])]++[]) (mkE 33 [(0,.ptr 0 0),(4,db cg),(13,.v (AY m.rules)),(14,di m.rules.length),(15,di k)]) (stS m cs md N vals):=by
 induction n with
 |zero=>
  intro k vals cg B hn hB hB2 h hl
  rw[drop_of_length_le (by omega)]
  simp only[CQ]
  refine lv 33 [] (.f .ro) (decide ((k:Int)<(m.rules.length:Int))=false/\okH 2 [] [some (cSp m cs md N),some (cIs vals)]=true/\Q [some (cSp m cs md N),some (cIs vals)]/\Q (D.tup [db cg,db true])) ?_
  exact⟨decide_eq_false (by omega),by simp[okH,D.okNs,D.okN,BH],rfl,rfl⟩
 |succ n ih=>
  intro k vals cg B hn hB hB2 h hl
  have hk:k<m.rules.length:=by omega
  obtain⟨r,hr⟩:∃r,m.rules[k]?=some r:=⟨_,getElem?_eq_getElem hk⟩
  have e3:m.rules.drop k=r::m.rules.drop (k+1):=by rw[drop_eq_getElem_cons hk];congr 1;rw[getElem?_eq_getElem hk] at hr;simpa using hr
  have hro:=hm.rule (mem_of_getElem? hr)
  have hfs:=iflw_spec m hm cs md hc r hro vals N hl hN (fun v hv=>(h.bd v hv).elim (fun h1=>by rw[h1];decide) (fun h1=>by omega))
  obtain⟨hf1,hf2⟩:=flwM_ok hm hc hro hB h (by omega)
  have hi:=fun ch'=>ih (k+1) (BN cs md r vals).1 ch' (B+16777216) (by omega) (by omega) (by omega) hf1 (by omega)
  rw[e3,CQ]
  generalize BN cs md r vals=f at*
  cases hf:f.2.2 with
  |false=>
   rw[hf] at hfs
   rw[if_neg (by decide)]
   refine lv 33 [] (.t<|.x (Ak r)<|.h (.q 5 2)<|.h (.oc (.tup [db f.2.1,db false]) ⟨[some (cSp m cs md N),some (cIs f.1),some (cR r)],[]⟩) .ro) (decide ((k:Int)<(m.rules.length:Int))=true/\0<=(k:Int)/\(map Ak m.rules)[Int.toNat (k:Int)]?=some (Ak r)/\(∀(o:Oper) (c:Call) (fo:Operand),o.op=Op.call c->c.callee=Callee.value fo->Ai PP o [D.v (V.fn 121 [] []),D.ptr 0 0,BK r] (St.mk [some (cSp m cs md N),some (cIs vals),some [D.v (V.str r.name),di r.frm,di r.to,dIs r.need,dIs r.give,dIs r.move,di r.chan,di r.act,di r.letter,dIs r.path,dIs r.next,D.v (AA r.takes),dIs r.makes,di r.second]] []) (D.tup [db f.snd.fst,db false]) (St.mk [some (cSp m cs md N),some (cIs f.fst),some (cR r)] []))/\okH 2 [] [some (cSp m cs md N),some (cIs f.fst)]=true/\[some (cSp m cs md N),some (cIs f.fst)]=[some (cSp m cs md N),some (cIs (f.fst,false,false).fst)]/\D.tup [db false,db false]=D.tup [db (f.fst,false,false).snd.fst,db (f.fst,false,false).snd.snd]) ?_
   refine⟨decide_eq_true (by omega),by omega,Ao hr,fun o c fo ho hc2=>?_,by simp[okH,D.okNs,D.okN,BH],rfl,rfl⟩
   exact DT (H:=[some (cSp m cs md N),some (cIs vals),some (cR r)]) ho hc2 0 (by decide) rfl rfl (x:=[Ak r]) hfs
  |true=>
   rw[hf] at hfs
   rw[if_pos rfl]
   refine lv 33 [] (.t<|.x (Ak r)<|.h (.q 5 2)<|.h (.oc (.tup [db f.2.1,db true]) ⟨[some (cSp m cs md N),some (cIs f.1),some (cR r)],[]⟩)<|.k<|.b (.lo [ke 0,ch 4 (db (cg||f.2.1)),ke 13,ke 14,ch 15 (di (k+1:Nat))] (stS m cs md N f.1)) (.lo [ke 0,ch 4 (db (cg||f.2.1)),ke 13,ke 14,ch 15 (di (k+1:Nat))] (stS m cs md N f.1))) (decide ((k:Int)<(m.rules.length:Int))=true/\0<=(k:Int)/\(map Ak m.rules)[Int.toNat (k:Int)]?=some (Ak r)/\(∀(o:Oper) (c:Call) (fo:Operand),o.op=Op.call c->c.callee=Callee.value fo->Ai PP o [D.v (V.fn 121 [] []),D.ptr 0 0,BK r] (St.mk [some (cSp m cs md N),some (cIs vals),some [D.v (V.str r.name),di r.frm,di r.to,dIs r.need,dIs r.give,dIs r.move,di r.chan,di r.act,di r.letter,dIs r.path,dIs r.next,D.v (AA r.takes),dIs r.makes,di r.second]] []) (D.tup [db f.snd.fst,db true]) (St.mk [some (cSp m cs md N),some (cIs f.fst),some (cR r)] []))/\(cg=true->db true=db (cg||f.snd.fst)/\di (wrap i64 ((k:Int)+1))=di (↑(k+1):Int)/\okH 2 [] [some (cSp m cs md N),some (cIs f.fst)]=true/\Q [some (cSp m cs md N),some (cIs f.fst)]/\I0 fIRnd 2 (D.tup [db (CQ cs md (List.drop (k+1) m.rules) f.fst (cg||f.snd.fst)).snd.fst,db (CQ cs md (List.drop (k+1) m.rules) f.fst (cg||f.snd.fst)).snd.snd]) (stS m cs md N (CQ cs md (List.drop (k+1) m.rules) f.fst (cg||f.snd.fst)).fst) [kl cIRnd [1,1,0,1,0,0],KI.blk 0,kc cIRnd [1,1,1]] (mkE 33 [(0,D.ptr 0 0),(4,db (cg||f.snd.fst)),(13,D.v (AY m.rules)),(14,di (m.rules.length:Int)),(15,di (↑(k+1):Int))]) (stS m cs md N f.fst))/\(cg=false->db f.snd.fst=db (cg||f.snd.fst)/\di (wrap i64 ((k:Int)+1))=di (↑(k+1):Int)/\okH 2 [] [some (cSp m cs md N),some (cIs f.fst)]=true/\Q [some (cSp m cs md N),some (cIs f.fst)]/\I0 fIRnd 2 (D.tup [db (CQ cs md (List.drop (k+1) m.rules) f.fst (cg||f.snd.fst)).snd.fst,db (CQ cs md (List.drop (k+1) m.rules) f.fst (cg||f.snd.fst)).snd.snd]) (stS m cs md N (CQ cs md (List.drop (k+1) m.rules) f.fst (cg||f.snd.fst)).fst) [kl cIRnd [1,1,0,1,0,0],KI.blk 0,kc cIRnd [1,1,1]] (mkE 33 [(0,D.ptr 0 0),(4,db (cg||f.snd.fst)),(13,D.v (AY m.rules)),(14,di (m.rules.length:Int)),(15,di (↑(k+1):Int))]) (stS m cs md N f.fst))) ?_
   have okS:okH 2 [] [some (cSp m cs md N),some (cIs f.1)]=true:=by simp[okH,D.okNs,D.okN,BH]
   refine⟨decide_eq_true (by omega),by omega,Ao hr,fun o c fo ho hc2=>?_,fun h1=>⟨by rw[h1,Bool.true_or],Af (by have:=hm.places;omega),okS,rfl,⟨hi _⟩⟩,fun h1=>⟨by rw[h1,Bool.false_or],Af (by have:=hm.places;omega),okS,rfl,⟨hi _⟩⟩⟩
   exact DT (H:=[some (cSp m cs md N),some (cIs vals),some (cR r)]) ho hc2 0 (by decide) rfl rfl (x:=[Ak r]) hfs
theorem irnd_spec(m:Mod)(hm:PlC m)(cs:List Int)(md:Int)(hc:CoM m cs md)(N:Nat)(hN:N=m.states.length)(vals:List Int)(B:Int)(hB:0<=B)(hB2:B<=800000000)(h:ValB md B vals)(hl:vals.length=N):
  Ab PP 89 [.ptr 0 0] (stS m cs md N vals) (.tup [db (CQ cs md m.rules vals false).2.1,db (CQ cs md m.rules vals false).2.2]) (stS m cs md N (CQ cs md m.rules vals false).1):=by
 have hp:=hm.places
 refine sv fIRnd 33 [] (.lo [ke 0,ke 4,ke 13,ch 14 (di m.rules.length),ch 15 (di (0:Nat))] (stS m cs md N vals)) (di (length (map Ak m.rules):Int)=di (m.rules.length:Int)/\di 0=di (↑0:Int)/\okH 2 [] [some (cSp m cs md N),some (cIs vals)]=true/\Q [some (cSp m cs md N),some (cIs vals)]/\I0 fIRnd (length (stS m cs md N vals).H) (D.tup [db (CQ cs md m.rules vals false).snd.fst,db (CQ cs md m.rules vals false).snd.snd]) (stS m cs md N (CQ cs md m.rules vals false).fst) [kl cIRnd [1,1,0,1,0,0],KI.blk 0,kc cIRnd [1,1,1]] (mkE 33 [(0,D.ptr 0 0),(4,db false),(13,D.v (AY m.rules)),(14,di (m.rules.length:Int)),(15,di (↑0:Int))]) (stS m cs md N vals)) ?_
 have hi:=irnd_loop m hm cs md hc N hN m.rules.length 0 vals false B (by omega) hB (by omega) h hl
 rw[drop_zero] at hi
 exact⟨by rw[length_map],rfl,by simp[okH,D.okNs,D.okN,BH],rfl,⟨hi⟩⟩
noncomputable abbrev fIPot:Func:= Tryz.f56
noncomputable def cIPot:Code:=fIPot.body.getD .skip
def potL(cs:List Int)(md:Int)(rs:List Rul):Nat->List Int->Option (List Int)
 |0,vals=>if (CQ cs md rs vals false).2.1=true∨(CQ cs md rs vals false).2.2=false then none else some (CQ cs md rs vals false).1
 |n+1,vals=>if (CQ cs md rs vals false).2.2=false then none else if (CQ cs md rs vals false).2.1=false then some (CQ cs md rs vals false).1 else potL cs md rs n (CQ cs md rs vals false).1
def Gg(m:Mod)(cs:List Int)(md:Int):Int:=if decide (md>0)=true then Cd cs (nmV m.start)%md else Cd cs (nmV m.start)
def potM(m:Mod)(cs:List Int)(md:Int):Option (List Int):=potL cs md m.rules m.states.length ((replicate m.states.length OMG).set (stV m.start).toNat (Gg m cs md))
abbrev Hy(cs:List Int)(md:Int)(o:Option (List Int)):D:=match o with
 |some vals=>.tup [dAtm ⟨cs,md,vals⟩,db true,di 0]
 |none=>.tup [dAtm ⟨[],0,[]⟩,db false,di 0]
abbrev zAt:List D:=[.v .nils,di 0,.v .nils]
abbrev stP(m:Mod)(cs:List Int)(md:Int)(N:Nat)(vals:List Int):St:=⟨[some zAt,some (cIs vals),some (cSp m cs md N)],[]⟩
abbrev cSpP(m:Mod)(cs:List Int)(md:Int)(vals:List Int):List D:=[di m.kind,.v (vSs m.states),.v (vSs m.places),.v (vSs m.letters),.v (vIs m.ranks),di m.levels,di m.age,.v (AY m.rules),di m.start.n,dVs m.start.kids,dIs cs,di md,dIs vals]
theorem cv_sp(m:Mod)(cs:List Int)(md:Int)(vals:List Int)(N:Nat)(hN:vals.length=N)(e:List D):Cv e (stP m cs md N vals) e ⟨[some zAt,none,some (cSpP m cs md vals)],[]⟩:=by
 have h:=cv_cellArr (σ:=stP m cs md N vals) (p:=2) (q:=1) (i:=12) (cs:=cSp m cs md N) (xs:=vals.map vi) rfl (by rw[←cIs_v];rfl) (by decide) (by rw[length_map,hN];rfl) (fun x hx=>by obtain⟨z,_,rfl⟩:=mem_map.1 hx;rfl) e
 exact h
theorem okP(m:Mod)(cs:List Int)(md:Int)(N:Nat)(vals:List Int):okH 3 [] [some zAt,some (cIs vals),some (cSp m cs md N)]=true:=by simp[okH,D.okNs,D.okN,BH]
theorem ipot_loop(m:Mod)(hm:PlC m)(cs:List Int)(md:Int)(hc:CoM m cs md)(N:Nat)(hN:N=m.states.length)(n:Nat):∀(k:Nat) (vals:List Int) (B:Int),N-k=n->0<=B->B+201326592*n<=700000000->ValB md B vals->vals.length=N->
  Rn PP fIPot 0 (Hy cs md (potL cs md m.rules n vals)) σ0 ([.lp (sub cIPot [1,1,1,1,1,1,1,0,1,0,0]),.blk 1,.code (sub cIPot [1,1,1,1,1,1,1,1])]++[]) (mkE 110 [(6,.ptr 0 0),(10,.ptr 2 0),(77,di N),(78,di k)]) (stP m cs md N vals):=by
 induction n with
 |zero=>
  intro k vals B hn hB hB2 h hl
  have hr:=irnd_spec m hm cs md hc N hN vals B hB (by omega) h hl
  obtain⟨_,hl2⟩:=rndM_ok hm hc m.rules vals false B (fun r hr=>hm.rule hr) hB h (by omega)
  rw[potL]
  generalize CQ cs md m.rules vals false=f at*
  obtain⟨v2,c,ok⟩:=f
  cases c with
  |true=>
   rw[if_pos (.inl rfl)]
   refine lv 110 [3] (.f<|.h (.q 21 1)<|.h (.oc (.tup [db true,db ok]) (stP m cs md N v2)) .r) (decide ((k:Int)<(N:Int))=false/\(∀(o:Oper) (c:Call) (fo:Operand),o.op=Op.call c->c.callee=Callee.value fo->Ai PP o [D.v (V.fn 89 [] []),D.ptr 2 0] (stP m cs md N vals) (D.tup [db true,db ok]) (stP m cs md N v2))/\D.tup [D.v (V.agg [V.list [],vi 0,V.list []]),db false,di 0]=Hy cs md none) ?_
   exact⟨decide_eq_false (by omega),fun o c fo ho hc2=>DT (H:=[some zAt,some (cIs vals),some (cSp m cs md N)]) ho hc2 2 (by decide) rfl rfl (x:=[]) hr,rfl⟩
  |false=>
   cases ok with
   |false=>
    rw[if_pos (.inr rfl)]
    refine lv 110 [3] (.f<|.h (.q 21 1)<|.h (.oc (.tup [db false,db false]) (stP m cs md N v2)) .r) (decide ((k:Int)<(N:Int))=false/\(∀(o:Oper) (c:Call) (fo:Operand),o.op=Op.call c->c.callee=Callee.value fo->Ai PP o [D.v (V.fn 89 [] []),D.ptr 2 0] (stP m cs md N vals) (D.tup [db false,db false]) (stP m cs md N v2))/\D.tup [D.v (V.agg [V.list [],vi 0,V.list []]),db false,di 0]=Hy cs md none) ?_
    exact⟨decide_eq_false (by omega),fun o c fo ho hc2=>DT (H:=[some zAt,some (cIs vals),some (cSp m cs md N)]) ho hc2 2 (by decide) rfl rfl (x:=[]) hr,rfl⟩
   |true=>
    rw[if_neg (by simp)]
    refine lv 110 [3] (.f<|.h (.q 21 1)<|.h (.oc (.tup [db false,db true]) (stP m cs md N v2))<|.h (.q 24 0)<|.h (.cs ⟨[some zAt,none,some (cSpP m cs md v2)],[]⟩) .r) (decide ((k:Int)<(N:Int))=false/\(∀(o:Oper) (c:Call) (fo:Operand),o.op=Op.call c->c.callee=Callee.value fo->Ai PP o [D.v (V.fn 89 [] []),D.ptr 2 0] (stP m cs md N vals) (D.tup [db false,db true]) (stP m cs md N v2))/\(∀(e:List D) (E:Ent) (g:Gh) (a:Act) (w:World),FI E g (St.mk [some zAt,some (cIs v2),some (cSp m cs md N)] []) e a w->∃g',FI E g' (St.mk [some zAt,none,some (cSpP m cs md v2)] []) e a w)/\D.tup [D.v (V.agg [V.list (map vi cs),vi md,V.list (map vi v2)]),db true,di 0]=Hy cs md (some (v2,false,true).fst)) ?_
    exact⟨decide_eq_false (by omega),fun o c fo ho hc2=>DT (H:=[some zAt,some (cIs vals),some (cSp m cs md N)]) ho hc2 2 (by decide) rfl rfl (x:=[]) hr,fun e=>cv_sp m cs md v2 N (by simpa using hl2.trans hN.symm) e,rfl⟩
 |succ n ih=>
  intro k vals B hn hB hB2 h hl
  have hr:=irnd_spec m hm cs md hc N hN vals B hB (by omega) h hl
  obtain⟨hb2,hl2⟩:=rndM_ok hm hc m.rules vals false B (fun r hr=>hm.rule hr) hB h (by omega)
  have hp:=hm.places
  rw[potL]
  generalize CQ cs md m.rules vals false=f at*
  obtain⟨v2,c,ok⟩:=f
  cases ok with
  |false=>
   rw[if_pos rfl]
   refine lv 110 [3] (.t<|.h (.q 15 1)<|.h (.oc (.tup [db c,db false]) (stP m cs md N v2)) .r) (decide ((k:Int)<(N:Int))=true/\(∀(o:Oper) (c_1:Call) (fo:Operand),o.op=Op.call c_1->c_1.callee=Callee.value fo->Ai PP o [D.v (V.fn 89 [] []),D.ptr 2 0] (stP m cs md N vals) (D.tup [db c,db false]) (stP m cs md N v2))/\D.tup [D.v (V.agg [V.list [],vi 0,V.list []]),db false,di 0]=Hy cs md none) ?_
   exact⟨decide_eq_true (by omega),fun o c fo ho hc2=>DT (H:=[some zAt,some (cIs vals),some (cSp m cs md N)]) ho hc2 2 (by decide) rfl rfl (x:=[]) hr,rfl⟩
  |true=>
   rw[if_neg (by simp)]
   cases c with
   |false=>
    rw[if_pos rfl]
    refine lv 110 [3] (.t<|.h (.q 15 1)<|.h (.oc (.tup [db false,db true]) (stP m cs md N v2))<|.h (.q 19 0)<|.h (.cs ⟨[some zAt,none,some (cSpP m cs md v2)],[]⟩) .r) (decide ((k:Int)<(N:Int))=true/\(∀(o:Oper) (c:Call) (fo:Operand),o.op=Op.call c->c.callee=Callee.value fo->Ai PP o [D.v (V.fn 89 [] []),D.ptr 2 0] (stP m cs md N vals) (D.tup [db false,db true]) (stP m cs md N v2))/\(∀(e:List D) (E:Ent) (g:Gh) (a:Act) (w:World),FI E g (St.mk [some zAt,some (cIs v2),some (cSp m cs md N)] []) e a w->∃g',FI E g' (St.mk [some zAt,none,some (cSpP m cs md v2)] []) e a w)/\D.tup [D.v (V.agg [V.list (map vi cs),vi md,V.list (map vi v2)]),db true,di 0]=Hy cs md (some (v2,false,true).fst)) ?_
    exact⟨decide_eq_true (by omega),fun o c fo ho hc2=>DT (H:=[some zAt,some (cIs vals),some (cSp m cs md N)]) ho hc2 2 (by decide) rfl rfl (x:=[]) hr,fun e=>cv_sp m cs md v2 N (by simpa using hl2.trans hN.symm) e,rfl⟩
   |true=>
    rw[if_neg (by simp)]
    refine lv 110 [3] (.t<|.h (.q 15 1)<|.h (.oc (.tup [db true,db true]) (stP m cs md N v2))<|.lo [ke 6,ke 10,ke 77,ch 78 (di (k+1:Nat))] (stP m cs md N v2)) (decide ((k:Int)<(N:Int))=true/\(∀(o:Oper) (c:Call) (fo:Operand),o.op=Op.call c->c.callee=Callee.value fo->Ai PP o [D.v (V.fn 89 [] []),D.ptr 2 0] (stP m cs md N vals) (D.tup [db true,db true]) (stP m cs md N v2))/\di (wrap i64 ((k:Int)+1))=di (↑(k+1):Int)/\okH 3 [] [some zAt,some (cIs v2),some (cSp m cs md N)]=true/\Q [some zAt,some (cIs v2),some (cSp m cs md N)]/\I0 fIPot 0 (Hy cs md (potL cs md m.rules n (v2,true,true).fst)) σ0 [kl cIPot [1,1,1,1,1,1,1,0,1,0,0],KI.blk 1,kc cIPot [1,1,1,1,1,1,1,1]] (mkE 110 [(6,D.ptr 0 0),(10,D.ptr 2 0),(77,di (N:Int)),(78,di (↑(k+1):Int))]) (stP m cs md N v2)) ?_
    exact⟨decide_eq_true (by omega),fun o c fo ho hc2=>DT (H:=[some zAt,some (cIs vals),some (cSp m cs md N)]) ho hc2 2 (by decide) rfl rfl (x:=[]) hr,by rw[Af (by omega)],okP ..,rfl,⟨ih (k+1) v2 (B+16777216*m.rules.length) (by omega) (by omega) (by omega) hb2 (hl2.trans hN.symm)⟩⟩
theorem v0_ok{m:Mod}(hm:PlC m){cs:List Int}{md:Int}(hc:CoM m cs md):ValB md 8388608 ((replicate m.states.length OMG).set (stV m.start).toNat (Gg m cs md)):=by
 have hfw:=hm.few
 have hcl:=hc.len
 have hmd:=hc.mod
 have hs:=EW cs (nmV m.start) hc.coef hm.start.nm
 have hd:0<md->0<=Gg m cs md/\Gg m cs md<=md-1:=fun hp=>by
  rw[Gg,if_pos (decide_eq_true hp)]
  have h1:=Int.emod_nonneg (Cd cs (nmV m.start)) (show md≠0 by omega)
  have h2:=Int.emod_lt_of_pos (Cd cs (nmV m.start)) hp
  omega
 have hb: -8388608<=Gg m cs md/\Gg m cs md<=8388608:=by
  by_cases hp:0<md
  ·have:=hd hp;omega
  ·rw[Gg,if_neg (by rw[decide_eq_false hp];decide)];omega
 refine⟨fun v hv=>?_,fun hp v hv=>?_⟩
 ·rcases mem_or_eq_of_mem_set hv with h|h
  ·exact .inl (List.mem_replicate.1 h).2
  ·rw[h];exact .inr hb
 ·rcases mem_or_eq_of_mem_set hv with h|h
  ·exact .inl (List.mem_replicate.1 h).2
  ·rw[h];exact .inr (hd hp)
theorem ipot_spec(m:Mod)(hm:PlC m)(cs:List Int)(md:Int)(hc:CoM m cs md):Ab PP 56 [Ah m,dIs cs,di md] σ0 (Hy cs md (potM m cs md)) σ0:=by
 have hp:=hm.places
 have hfw:=hm.few
 have hcl:=hc.len
 have hmd:=hc.mod
 obtain⟨N,hN⟩:∃N,N=m.states.length:=⟨_,rfl⟩
 obtain⟨v0,hv0⟩:∃v0,v0=(replicate m.states.length OMG).set (stV m.start).toNat (Gg m cs md):=⟨_,rfl⟩
 obtain⟨p,hpp⟩:∃p,p=potM m cs md:=⟨_,rfl⟩
 have hfm:Gg m cs md=if decide (md>0)=true then Cd cs (nmV m.start)%md else Cd cs (nmV m.start):=rfl
 have eL:(m.states.map V.str).length=N:=by rw[length_map,hN]
 have hrep:Ab PP 85 [dl [vi 1099511627776],di N] σ0 (.arr 0 0 N) ⟨[some (cIs (replicate N OMG))],[]⟩:=by
  have h:=rep_spec N (by omega) (by omega)
  rwa[show replicate N (di 1099511627776)=cIs (replicate N OMG) by simp[cIs]] at h
 have hpl:D.pls (cIs (replicate N OMG))=true:=by rw[cIs_v];exact BB _
 have hst:=hm.start.st
 have hkd:=isC_kids hm.start.isC
 have hidx:(map eV (Val.kids m.start))[Int.toNat 0]?=some (Ad (lf (stV m.start))):=by rw[hkd];rfl
 have hset:∀x:Int,List.set (cIs (replicate N OMG)) (0+Int.toNat (Val.n (lf (stV m.start)))*1) (di x)=cIs ((replicate N OMG).set (stV m.start).toNat x):=fun x=>by simp[cIs,List.map_set];rfl
 have hli:0+Int.toNat (Val.n (lf (stV m.start)))*1<(cIs (replicate N OMG)).length:=by show 0+(stV m.start).toNat*1<_;simp[cIs];omega
 have hfit:=ifit_spec cs (by omega)
 rw[show cs.any fitB=false from List.any_eq_false.2 fun c h=>by have:=hc.coef c h;simp[fitB];omega] at hfit
 have hmod:=imod_spec md
 rw[show modB md=true by simp only[modB,Bool.or_eq_true,Bool.and_eq_true,decide_eq_true_eq,beq_iff_eq];omega] at hmod
 have hnum:=snum_spec m.start _ _ hm.start.isC (by have:=hm.start.len;omega)
 have hsum:=Hl cs (nmV m.start) (by rw[hm.start.len,hcl];exact Nat.le_refl _) (by omega) hc.coef hm.start.nm
 have hsb:=EW cs (nmV m.start) hc.coef hm.start.nm
 have hv:=v0_ok hm hc
 have hlp:=ipot_loop m hm cs md hc N hN N 0 v0 8388608 (by omega) (by omega) (by omega) (by rw[hv0];exact hv) (by rw[hv0,length_set,List.length_replicate,hN])
 have hpe:potL cs md m.rules N v0=potM m cs md:=by rw[potM,hv0,hN]
 rw[hpe] at hlp
 by_cases h:decide (md>0)=true
 ·refine sv fIPot 110 [3] (.c (di 0)<|.k<|.f<|.c (db true)<|.c (db true)<|.c (dIs cs)<|.h (.oc (.arr 1 0 N) ⟨[some zAt,some (cIs (replicate N OMG))],[]⟩)<|.h .g<|.h .g<|.c (dIs (nmV m.start))<|.c (di (Cd cs (nmV m.start)))<|.t<|.c (di (Gg m cs md))<|.h (.xs (Ad (lf (stV m.start))))<|.w<|.lo [ke 6,ke 10,ch 77 (di N),ch 78 (di (0:Nat))] (stP m cs md N v0)) (F0 82 [Ah m] (di 0)/\((length (map vi cs):Int) !=(length (map V.str m.places):Int))=false/\F0 83 [dIs cs] (db true)/\F0 84 [di md] (db true)/\F0 44 [dIs cs] (dIs cs)/\(∀(o:Oper) (c:Call) (fo:Operand),o.op=Op.call c->c.callee=Callee.value fo->Ai PP o [D.v (V.fn 85 [] []),D.v (V.list [vi 1099511627776]),di (length (map V.str m.states):Int)] (St.mk [some [dn,di 0,dn]] []) (D.arr 1 0 N) (St.mk [some zAt,some (cIs (replicate N OMG))] []))/\F0 87 [dV m.start] (dIs (nmV m.start))/\F0 86 [dIs cs,D.v (vIs (nmV m.start))] (di (Cd cs (nmV m.start)))/\decide (md>0)=true/\F0 88 [di (Cd cs (nmV m.start)),di md] (di (Gg m cs md))/\Q 2/\iz 0<=0/\(map eV m.start.kids)[Int.toNat 0]?=some (Ad (lf (stV m.start)))/\0<=Val.n (lf (stV m.start))/\Val.n (lf (stV m.start))<(N:Int)/\0+Int.toNat (Val.n (lf (stV m.start)))*1<length (cIs (replicate N OMG))/\(True/\True)/\di (length (map V.str m.states):Int)=di (N:Int)/\di 0=di (↑0:Int)/\okH 3 [] [some zAt,some (List.set (cIs (replicate N OMG)) (0+Int.toNat (Val.n (lf (stV m.start)))*1) (di (Gg m cs md))),some [di m.kind,D.v (vSs m.states),D.v (vSs m.places),D.v (vSs m.letters),dIs m.ranks,di m.levels,di m.age,D.v (AY m.rules),di m.start.n,dVs m.start.kids,dIs cs,di md,D.arr 1 0 N]]=true/\[some zAt,some (List.set (cIs (replicate N OMG)) (0+Int.toNat (Val.n (lf (stV m.start)))*1) (di (Gg m cs md))),some [di m.kind,D.v (vSs m.states),D.v (vSs m.places),D.v (vSs m.letters),dIs m.ranks,di m.levels,di m.age,D.v (AY m.rules),di m.start.n,dVs m.start.kids,dIs cs,di md,D.arr 1 0 N]]=[some zAt,some (cIs v0),some (cSp m cs md N)]/\I0 fIPot σ0.H.length (Hy cs md (potM m cs md)) σ0 [kl cIPot [1,1,1,1,1,1,1,0,1,0,0],KI.blk 1,kc cIPot [1,1,1,1,1,1,1,1]] (mkE 110 [(6,D.ptr 0 0),(10,D.ptr 2 0),(77,di (N:Int)),(78,di (↑0:Int))]) (stP m cs md N v0)) ?_
  have hrst:Ab PP 88 [di (Cd cs (nmV m.start)),di md] σ0 (di (Gg m cs md)) σ0:=by
   rw[Gg,if_pos h];exact irest_spec _ md (by have:=of_decide_eq_true h;omega) (by omega)
  rw[eL,hset,show cIs ((replicate N OMG).set (stV m.start).toNat (Gg m cs md))=cIs v0 by rw[hv0,hN]]
  exact⟨Ha m hm,by rw[length_map,length_map,hcl];simp,hfit,hmod,cloI_spec cs (by omega),fun o c fo ho hc2=>CB (f:=85) (fs:=[]) (cs:=[]) (ds:=[dl [vi 1099511627776],di N]) ho hc2 rfl hpl hrep,hnum,hsum,h,hrst,rfl,by decide,hidx,hst.1,(by show stV m.start<_;omega),hli,⟨trivial,trivial⟩,rfl,rfl,okP m cs md N v0,rfl,⟨hlp⟩⟩
 ·refine sv fIPot 110 [3] (.c (di 0)<|.k<|.f<|.c (db true)<|.c (db true)<|.c (dIs cs)<|.h (.oc (.arr 1 0 N) ⟨[some zAt,some (cIs (replicate N OMG))],[]⟩)<|.h .g<|.h .g<|.c (dIs (nmV m.start))<|.c (di (Cd cs (nmV m.start)))<|.f<|.h (.xs (Ad (lf (stV m.start))))<|.w<|.lo [ke 6,ke 10,ch 77 (di N),ch 78 (di (0:Nat))] (stP m cs md N v0)) (F0 82 [Ah m] (di 0)/\((length (map vi cs):Int) !=(length (map V.str m.places):Int))=false/\F0 83 [dIs cs] (db true)/\F0 84 [di md] (db true)/\F0 44 [dIs cs] (dIs cs)/\(∀(o:Oper) (c:Call) (fo:Operand),o.op=Op.call c->c.callee=Callee.value fo->Ai PP o [D.v (V.fn 85 [] []),D.v (V.list [vi 1099511627776]),di (length (map V.str m.states):Int)] (St.mk [some [dn,di 0,dn]] []) (D.arr 1 0 N) (St.mk [some zAt,some (cIs (replicate N OMG))] []))/\F0 87 [dV m.start] (dIs (nmV m.start))/\F0 86 [dIs cs,D.v (vIs (nmV m.start))] (di (Cd cs (nmV m.start)))/\decide (md>0)=false/\Q 2/\iz 0<=0/\(map eV m.start.kids)[Int.toNat 0]?=some (Ad (lf (stV m.start)))/\0<=Val.n (lf (stV m.start))/\Val.n (lf (stV m.start))<(N:Int)/\0+Int.toNat (Val.n (lf (stV m.start)))*1<length (cIs (replicate N OMG))/\(True/\True)/\di (length (map V.str m.states):Int)=di (N:Int)/\di 0=di (↑0:Int)/\okH 3 [] [some zAt,some (List.set (cIs (replicate N OMG)) (0+Int.toNat (Val.n (lf (stV m.start)))*1) (di (Cd cs (nmV m.start)))),some [di m.kind,D.v (vSs m.states),D.v (vSs m.places),D.v (vSs m.letters),dIs m.ranks,di m.levels,di m.age,D.v (AY m.rules),di m.start.n,dVs m.start.kids,dIs cs,di md,D.arr 1 0 N]]=true/\[some zAt,some (List.set (cIs (replicate N OMG)) (0+Int.toNat (Val.n (lf (stV m.start)))*1) (di (Cd cs (nmV m.start)))),some [di m.kind,D.v (vSs m.states),D.v (vSs m.places),D.v (vSs m.letters),dIs m.ranks,di m.levels,di m.age,D.v (AY m.rules),di m.start.n,dVs m.start.kids,dIs cs,di md,D.arr 1 0 N]]=[some zAt,some (cIs v0),some (cSp m cs md N)]/\I0 fIPot σ0.H.length (Hy cs md (potM m cs md)) σ0 [kl cIPot [1,1,1,1,1,1,1,0,1,0,0],KI.blk 1,kc cIPot [1,1,1,1,1,1,1,1]] (mkE 110 [(6,D.ptr 0 0),(10,D.ptr 2 0),(77,di (N:Int)),(78,di (↑0:Int))]) (stP m cs md N v0)) ?_
  have hF:decide (md>0)=false:=by simpa using h
  have hfs:Cd cs (nmV m.start)=Gg m cs md:=by rw[Gg,if_neg h]
  rw[eL,hset,show cIs ((replicate N OMG).set (stV m.start).toNat (Cd cs (nmV m.start)))=cIs v0 by rw[hv0,hN,hfs]]
  exact⟨Ha m hm,by rw[length_map,length_map,hcl];simp,hfit,hmod,cloI_spec cs (by omega),fun o c fo ho hc2=>CB (f:=85) (fs:=[]) (cs:=[]) (ds:=[dl [vi 1099511627776],di N]) ho hc2 rfl hpl hrep,hnum,hsum,hF,rfl,by decide,hidx,hst.1,(by show stV m.start<_;omega),hli,⟨trivial,trivial⟩,rfl,rfl,okP m cs md N v0,rfl,⟨hlp⟩⟩
theorem potL_ok{m:Mod}(hm:PlC m){cs:List Int}{md:Int}(hc:CoM m cs md):∀(n:Nat) (vals:List Int) (B:Int),0<=B->ValB md B vals->vals.length=m.states.length->∀r,potL cs md m.rules n vals=some r->ValB md (B+201326592*(n+1)) r/\r.length=m.states.length:=by
 intro n
 have hp:=hm.places
 induction n with
 |zero=>
  intro vals B hB h hl r hr
  obtain⟨h1,h2⟩:=rndM_ok hm hc m.rules vals false B (fun r hr=>hm.rule hr) hB h hl
  rw[potL] at hr
  split at hr
  ·cases hr
  ·cases hr
   exact⟨⟨fun v hv=>by have:=h1.bd v hv;omega,h1.md⟩,h2⟩
 |succ n ih=>
  intro vals B hB h hl r hr
  obtain⟨h1,h2⟩:=rndM_ok hm hc m.rules vals false B (fun r hr=>hm.rule hr) hB h hl
  rw[potL] at hr
  split at hr
  ·cases hr
  ·split at hr
   ·cases hr
    exact⟨⟨fun v hv=>by have:=h1.bd v hv;omega,h1.md⟩,h2⟩
   ·obtain⟨h3,h4⟩:=ih _ (B+16777216*m.rules.length) (by omega) h1 h2 r hr
    exact⟨⟨fun v hv=>by have:=h3.bd v hv;omega,h3.md⟩,h4⟩
theorem potM_ok{m:Mod}(hm:PlC m){cs:List Int}{md:Int}(hc:CoM m cs md){vals:List Int}(h:potM m cs md=some vals):FN m ⟨cs,md,vals⟩:=by
 have hfw:=hm.few
 obtain⟨h1,h2⟩:=potL_ok hm hc m.states.length _ 8388608 (by omega) (v0_ok hm hc) (by rw[length_set,List.length_replicate]) vals h
 refine⟨hc.len,hc.coef,hc.mod,h2,fun v hv=>?_⟩
 rcases hc.mod with hm0|hm0
 ·rcases h1.bd v hv with h|h
  ·exact .inl h
  ·exact .inr (.inl ⟨hm0,by omega⟩)
 ·rcases h1.md (by omega) v hv with h|h
  ·exact .inl h
  ·exact .inr (.inr ⟨by show 0<md;omega,h⟩)
theorem cndM_ok{m:Mod}(hm:PlC m){n:Int}(hn:0<=n)(h:(EL m.places.length n).2.2=true):CoM m (EL m.places.length n).1 (EL m.places.length n).2.1:=by
 have hfw:=hm.few
 have hp:=hm.places
 revert h
 unfold EL
 split
 ·rename_i hp1
  split
  ·intro _
   refine⟨by simp[hp1],fun c hc=>?_,?_⟩
   ·simp only[mem_singleton] at hc;omega
   ·dsimp only;split<;>omega
  ·intro h;cases h
 ·split
  ·intro _
   refine⟨by simp;omega,fun c hc=>?_,?_⟩
   ·simp only[mem_cons,not_mem_nil,or_false] at hc;omega
   ·dsimp only;split<;>omega
  ·intro h;cases h
theorem icnd_spec(m:Mod)(hm:PlC m)(n:Int)(hn:0<=n/\n<=1000):Ab PP 54 [di m.places.length,di n] σ0 (dCnd (EL m.places.length n)) σ0:=by
 have hfw:=hm.few
 have hp:=hm.places
 rcases show m.places.length=1∨m.places.length=2 by omega with h|h
 ·rw[h];exact icnd_1 n hn
 ·rw[h];exact icnd_2 n hn
def EG(h:Hnt):Hnt:=⟨h.found,h.before,h.rules,h.next,h.cand+1,h.used⟩
def atmV(cs:List Int)(md:Int)(vals:List Int)(u:Int):Vrd:=⟨true,false,[],cs,md,vals,[],u⟩
def AW(m:Mod)(c:Val)(h:Hnt):Hnt×Vrd:=
 match EL m.places.length h.cand with
 |(cs,md,true)=>match potM m cs md with
  |some vals=>if excB m ⟨cs,md,vals⟩ c=true then(EG h,atmV cs md vals h.used) else(EG h,An h.used)
  |none=>(EG h,An h.used)
 |(_,_,false)=>(h,An h.used)
noncomputable abbrev fExcl:Func:= Tryz.f33
theorem excl_spec(m:Mod)(hm:PlC m)(c:Val)(hc:AC m c)(h:Hnt)(hn:0<=h.cand/\h.cand<=1000):Ab PP 33 [.ptr 0 0] (stH h m c) (BV (AW m c h).2) (stH (AW m c h).1 m c):=by
 have hcd:=icnd_spec m hm h.cand hn
 have hco:=cndM_ok hm hn.1
 have hpl:=spl_spec m (by have:=hm.places;omega)
 rw[plainB_plc hm] at hpl
 rw[AW]
 generalize EL m.places.length h.cand=k at*
 obtain⟨cs,md,ok⟩:=k
 have hw:i64.wrap (h.cand+1)=h.cand+1:=Aj (by omega) (by omega)
 cases ok with
 |false=>
  dsimp only
  refine sv fExcl 86 [] (.c (.tup [dIs cs,di md,db false])<|.c1 (cPl h m c) (BV (An h.used)) .r) (F0 54 [di (length (map V.str m.places):Int),di h.cand] (D.tup [dIs cs,di md,db false])/\(True/\True/\True)/\Ab PP 45 [D.ptr 0 0] (St.mk [some (cPl h m c)] []) (BV (An h.used)) (St.mk [some (cPl h m c)] [])/\Q [some (cPl h m c)]/\D.v (V.agg [V.bool (An h.used).decided,V.bool (An h.used).yes,V.list [],V.list [],vi (An h.used).mod,V.list [],V.list [],vi (An h.used).used])=BV (An h.used)) ?_
  exact⟨by rw[length_map];exact hcd,⟨trivial,trivial,trivial⟩,DR h m c,rfl,rfl⟩
 |true=>
  have hco:=hco rfl
  have hpo:=ipot_spec m hm cs md hco
  have hpk:∀vals,potM m cs md=some vals->FN m ⟨cs,md,vals⟩:=fun vals h=>potM_ok hm hco h
  dsimp only
  generalize potM m cs md=o at*
  cases o with
  |none=>
   refine sv fExcl 86 [] (.c (.tup [dIs cs,di md,db true])<|.c (db true)<|.c (Hy cs md none)<|.c1 (cPl (EG h) m c) (BV (An h.used)) .r) (F0 54 [di (length (map V.str m.places):Int),di h.cand] (D.tup [dIs cs,di md,db true])/\(True/\True/\True)/\F0 55 [Ah m] (db true)/\F0 56 [Ah m,dIs cs,di md] (Hy cs md none)/\Ab PP 45 [D.ptr 0 0] (St.mk [some [dVs h.found,dIs h.before,dIs h.rules,di h.next,di (wrap i64 (h.cand+1)),di h.used,di m.kind,D.v (vSs m.states),D.v (vSs m.places),D.v (vSs m.letters),dIs m.ranks,di m.levels,di m.age,D.v (AY m.rules),di m.start.n,dVs m.start.kids,di c.n,dVs c.kids]] []) (BV (An h.used)) (St.mk [some (cPl (EG h) m c)] [])/\[some (cPl (EG h) m c)]=[some (cPl (match none with|some vals=>if excB m (Atm.mk cs md vals) c=true then(EG h,atmV cs md vals h.used) else(EG h,An h.used)|none=>(EG h,An h.used)).fst m c)]/\D.v (V.agg [V.bool (An h.used).decided,V.bool (An h.used).yes,V.list [],V.list [],vi (An h.used).mod,V.list [],V.list [],vi (An h.used).used])=BV (match none with|some vals=>if excB m (Atm.mk cs md vals) c=true then(EG h,atmV cs md vals h.used) else(EG h,An h.used)|none=>(EG h,An h.used)).snd) ?_
   rw[hw]
   exact⟨by rw[length_map];exact hcd,⟨trivial,trivial,trivial⟩,hpl,hpo,DR (EG h) m c,rfl,rfl⟩
  |some vals=>
   have hex:=iexc_spec m hm _ (hpk vals rfl) c hc
   dsimp only
   cases hb:excB m ⟨cs,md,vals⟩ c with
   |true=>
    rw[if_pos rfl]
    refine sv fExcl 86 [] (.c (.tup [dIs cs,di md,db true])<|.c (db true)<|.c (Hy cs md (some vals))<|.c (.tup [db true,di 0]) .r) (F0 54 [di (length (map V.str m.places):Int),di h.cand] (D.tup [dIs cs,di md,db true])/\(True/\True/\True)/\F0 55 [Ah m] (db true)/\F0 56 [Ah m,dIs cs,di md] (Hy cs md (some vals))/\F0 57 [Ah m,D.v (V.agg [vIs (Atm.mk cs md vals).coefs,vi (Atm.mk cs md vals).mod,vIs (Atm.mk cs md vals).vals]),dV c] (D.tup [db true,di 0])/\(True/\True/\True/\True)/\(True/\True/\True)/\[some [dVs h.found,dIs h.before,dIs h.rules,di h.next,di (wrap i64 (h.cand+1)),di h.used,di m.kind,D.v (vSs m.states),D.v (vSs m.places),D.v (vSs m.letters),dIs m.ranks,di m.levels,di m.age,D.v (AY m.rules),di m.start.n,dVs m.start.kids,di c.n,dVs c.kids]]=[some (cPl (EG h,atmV cs md vals h.used).fst m c)]/\D.v (V.agg [V.bool true,V.bool false,V.list [],V.list (map vi (Atm.mk cs md vals).coefs),vi (Atm.mk cs md vals).mod,V.list (map vi (Atm.mk cs md vals).vals),V.list [],vi h.used])=BV (EG h,atmV cs md vals h.used).snd) ?_
    rw[hw]
    exact⟨by rw[length_map];exact hcd,⟨trivial,trivial,trivial⟩,hpl,hpo,hb▸hex,⟨trivial,trivial,trivial,trivial⟩,⟨trivial,trivial,trivial⟩,rfl,rfl⟩
   |false=>
    rw[if_neg (by decide)]
    refine sv fExcl 86 [] (.c (.tup [dIs cs,di md,db true])<|.c (db true)<|.c (Hy cs md (some vals))<|.c (.tup [db false,di 0])<|.c1 (cPl (EG h) m c) (BV (An h.used)) .r) (F0 54 [di (length (map V.str m.places):Int),di h.cand] (D.tup [dIs cs,di md,db true])/\(True/\True/\True)/\F0 55 [Ah m] (db true)/\F0 56 [Ah m,dIs cs,di md] (Hy cs md (some vals))/\F0 57 [Ah m,D.v (V.agg [vIs (Atm.mk cs md vals).coefs,vi (Atm.mk cs md vals).mod,vIs (Atm.mk cs md vals).vals]),dV c] (D.tup [db false,di 0])/\(True/\True/\True/\True)/\Ab PP 45 [D.ptr 0 0] (St.mk [some [dVs h.found,dIs h.before,dIs h.rules,di h.next,di (wrap i64 (h.cand+1)),di h.used,di m.kind,D.v (vSs m.states),D.v (vSs m.places),D.v (vSs m.letters),dIs m.ranks,di m.levels,di m.age,D.v (AY m.rules),di m.start.n,dVs m.start.kids,di c.n,dVs c.kids]] []) (BV (An h.used)) (St.mk [some (cPl (EG h) m c)] [])/\[some (cPl (EG h) m c)]=[some (cPl (EG h,An h.used).fst m c)]/\D.v (V.agg [V.bool (An h.used).decided,V.bool (An h.used).yes,V.list [],V.list [],vi (An h.used).mod,V.list [],V.list [],vi (An h.used).used])=BV (EG h,An h.used).snd) ?_
    rw[hw]
    exact⟨by rw[length_map];exact hcd,⟨trivial,trivial,trivial⟩,hpl,hpo,hb▸hex,⟨trivial,trivial,trivial,trivial⟩,DR (EG h) m c,rfl,rfl⟩
structure HnI(m:Mod)(h:Hnt):Prop where
 ok:Gw h
 cfg:∀v∈h.found,AC m v
theorem findL_ok{m:Mod}(hm:PlC m)(c:Val)(at':Int):∀(l:List Stp) (h:Hnt),HnI m h->0<=at'/\at'<h.found.length->(∀s∈l,AC m s.2)->HnI m (BL c at' h l).1/\(BL c at' h l).1.cand=h.cand/\(BL c at' h l).1.used=h.used/\(BL c at' h l).1.next=h.next
 |[],h,hh,_,_=>⟨hh,rfl,rfl,rfl⟩
 |s::l,h,hh,ha,hl=>by
  have hs:=hl s (by simp)
  have hl':∀s∈l,AC m s.2:=fun s h=>hl s (by simp[h])
  rw[BL]
  split
  ·exact findL_ok hm c at' l h hh ha hl'
  ·split
   ·exact⟨hh,rfl,rfl,rfl⟩
   ·rename_i h2
    have h2:¬(h.found.length:Int)>=128:=by simpa using h2
    have ho:=addH_ok hh.ok (by omega) ha (s:=s) (by have:=hs.size hm;omega)
    have hi:HnI m (C0 h at' s):=⟨ho,fun v hv=>by
     rcases mem_append.1 hv with hv|hv
     ·exact hh.cfg v hv
     ·rw[mem_singleton.1 hv];exact hs⟩
    split
    ·exact findL_ok hm c at' l _ hi (by simp only[C0,length_append,length_cons,length_nil];omega) hl'
    ·split
     ·exact⟨hi,rfl,rfl,rfl⟩
     ·exact⟨hi,rfl,rfl,rfl⟩
theorem findM_ok{m:Mod}(hm:PlC m)(c:Val)(h:Hnt)(hh:HnI m h)(hn:0<=h.next):HnI m (AV m c h).1/\(AV m c h).1.cand=h.cand/\(AV m c h).1.used=h.used/\h.next<=(AV m c h).1.next/\(AV m c h).1.next<=h.next+1:=by
 rw[AV]
 split
 ·exact⟨hh,rfl,rfl,by show h.next<=h.next;omega,by show h.next<=h.next+1;omega⟩
 ·rename_i h1
  have h1:¬h.next>=(h.found.length:Int):=by simpa using h1
  split
  ·exact⟨hh,rfl,rfl,by show h.next<=h.next;omega,by show h.next<=h.next+1;omega⟩
  ·obtain⟨v,hv⟩:∃v,h.found[h.next.toNat]?=some v:=⟨_,getElem?_eq_getElem (show h.next.toNat<h.found.length by omega)⟩
   have hst:=F8 hm (hh.cfg v (mem_of_getElem? hv))
   rw[show h.found.getD h.next.toNat default=v by rw[getD_eq_getElem?_getD,hv];rfl]
   obtain⟨g1,g2,g3,g4⟩:=findL_ok hm c h.next (Dk m v).1 ⟨h.found,h.before,h.rules,h.next+1,h.cand,h.used⟩ ⟨⟨hh.ok.ne,hh.ok.len,hh.ok.size,hh.ok.bl,hh.ok.rl,hh.ok.back⟩,hh.cfg⟩ (by show 0<=h.next/\h.next<h.found.length;omega) (fun s hs=>(hst.2.2 s hs).ok)
   exact⟨g1,g2,g3,by rw[g4];show h.next<=h.next+1;omega,by rw[g4];show h.next+1<=h.next+1;omega⟩
theorem rown_pl(h:Hnt)(h1:h.found.length<=100000)(hs:∀v∈h.found,v.size<=1000000)(h2:h.before.length<=100000)(h3:h.rules.length<=100000)(hb:h.before≠ [])(hr:h.rules≠ []):
  Ab PP 26 [DE h] σ0 (DE h) σ0:=by
 have hsp:=rown_spec h h1 hs h2 h3 hb hr
 refine⟨hsp.1,fun g w args hw ha=>Calls.mono (hsp.2 g w args hw ha) ?_⟩
 rintro e w' ⟨u,g',rfl,hw',hr⟩
 have hw2:=wi_sh (σ':=σ0) hw' (m:=0) rfl (Nat.zero_le _) (by rw[hw.n];exact Nat.le_refl _) rfl (by simp)
 refine⟨u,_,rfl,hw2,?_⟩
 refine repD_sh _ _ rfl ?_
 simp only[Ae,BZ] at hr⊢
 obtain⟨us,rfl,hr⟩:=hr
 have hr2:=DP hr
 refine⟨us,F6 (g:=g') (ds:=(cAc h).map D.un) rfl hr2 (fun c hc=>?_),rfl⟩
 simp only[cAc,map_cons,map_nil,D.un,mem_cons,not_mem_nil,or_false] at hc
 rcases hc with rfl|rfl|rfl|rfl|rfl|rfl<;>rfl
def Al(h:Hnt):Hnt:=⟨h.found,h.before,h.rules,h.next,h.cand,h.used+1⟩
def DN(l:List Val)(u:Int):Vrd:=⟨true,false,[],[],0,[],l,u⟩
def stepH(m:Mod)(c:Val)(h:Hnt):Hnt×Vrd×Int:=
 if (Av m.start c==0)=true then(Al h,Cz [] (Al h).used,0)
 else if ((AV m c (Al h)).2.2 !=0)=true then(h,An 0,(AV m c (Al h)).2.2)
 else if (AV m c (Al h)).2.1.decided=true then((AV m c (Al h)).1,(AV m c (Al h)).2.1,0)
 else if decide ((AV m c (Al h)).1.next>=((AV m c (Al h)).1.found.length:Int))=true then((AV m c (Al h)).1,DN (sortV (AV m c (Al h)).1.found) (AV m c (Al h)).1.used,0)
 else((AW m c (AV m c (Al h)).1).1,(AW m c (AV m c (Al h)).1).2,0)
abbrev zHn:List D:=[.v .nils,.v .nils,.v .nils,di 0,di 0,di 0]
abbrev ES(r:Hnt×Vrd×Int):D:=.tup [DE r.1,BV r.2.1,di r.2.2]
noncomputable abbrev fStep:Func:= Tryz.f19
noncomputable def cStep:Code:=fStep.body.getD .skip
theorem op_own(h:Hnt)(hh:Gw h){o:Oper}{c:Call}{fo:Operand}(ho:o.op=.call c)(hc:c.callee=.value fo)(H:List (Option (List D))):Ai PP o [.v (.fn 26 [] []),DE h] ⟨H,[]⟩ (.dagg (cAc h)) ⟨H,owA h⟩:=by
 have hl:=hh.len
 have hbl:=hh.bl
 have hrl:=hh.rl
 have hne:0<h.found.length:=length_pos_iff.2 hh.ne
 have hsp:=rown_spec h (by omega) (fun v hv=>by have:=hh.size v hv;omega) (by omega) (by omega) (length_pos_iff.1 (by omega)) (length_pos_iff.1 (by omega))
 have:=Cr (σ:=⟨H,[]⟩) ho hc (fD:=.v (.fn 26 [] [])) rfl (ds:=[DE h]) [] id hsp (.cons (.ren (dc:=DE h) rfl) .nil) .nil (by simp) rfl (by simp) (by simp) (by simp[D.okN,D.okNs]) rfl
 simpa[F1,Cy,EE,D.ren,D.rens,rho] using this
theorem cv_plainQ(h:Hnt)(m:Mod)(c:Val){H:List (Option (List D))}{own:List (Nat×Nat×List V)}{q:Nat}(hq:H[q]?=some (some (Ek h m c)))(e:List D):Cv e ⟨H,own⟩ e ⟨H.set q (some (cPl h m c)),own⟩:=
 Dr (σ:=⟨H,own⟩) (q:=q) (cs:=Ek h m c) (cs':=cPl h m c) hq (fun g us hr=>by
  have:=DP hr
  simpa[D.un] using this) (fun _ x hx=>by
  simp only[cPl,mem_cons,not_mem_nil,or_false] at hx
  rcases hx with rfl|rfl|rfl|rfl|rfl|rfl|rfl|rfl|rfl|rfl|rfl|rfl|rfl|rfl|rfl|rfl|rfl|rfl<;>rfl) e
abbrev cV(v:Vrd):List D:=[db v.decided,db v.yes,.v (BS v.run),dIs v.coefs,di v.mod,dIs v.vals,dVs v.closed,di v.used]
theorem yes_0(h:Hnt)(m:Mod)(c:Val):Ab PP 28 [.ptr 0 0,.v .nils] (stH h m c) (BV (Cz [] h.used)) (stH h m c):=by
 refine sv fYes 12 [] .r (Q [some (cPl h m c)]/\D.v (V.agg [V.bool true,V.bool true,V.list [],V.list [],vi 0,V.list [],V.list [],vi h.used])=BV (Cz [] h.used)) ?_
 exact⟨rfl,rfl⟩
theorem step_spec(m:Mod)(hm:PlC m)(c:Val)(hc:AC m c)(h:Hnt)(hh:HnI m h)(hn:0<=h.next/\h.next<=500)(hcd:0<=h.cand/\h.cand<=500)(hu:0<=h.used/\h.used<=100000):Ab PP 19 [Ah m,dV c,DE h] σ0 (ES (stepH m c h)) σ0:=by
 have hask:=askd_spec m hm c hc
 have hsz:=hm.start.size hm
 have hsame:=EA m.start c (by omega)
 rw[stepH]
 by_cases h1:(Av m.start c==0)=true
 ·rw[if_pos h1]
  rw[h1] at hsame
  refine sv fStep 107 [3,4,5] (.c (di 0)<|.h (.oc (.dagg (cAc h)) ⟨[some zHn,some zVr],owA h⟩)<|.h .g<|.c (db true)<|.h (.cs ⟨[some zHn,some zVr,some (cPl (Al h) m c)],owA h⟩)<|.c1 (cPl (Al h) m c) (BV (Cz [] (Al h).used)) .r) (F0 24 [Ah m,dV c] (di 0)/\(∀(o:Oper) (c:Call) (fo:Operand),o.op=Op.call c->c.callee=Callee.value fo->Ai PP o [D.v (V.fn 26 [] []),D.v (vHnt h)] (St.mk [some [dn,dn,dn,di 0,di 0,di 0],some [db false,db false,dn,dn,di 0,dn,dn,di 0]] []) (D.dagg (cAc h)) (St.mk [some zHn,some zVr] (owA h)))/\F0 27 [dV m.start,dV c] (db true)/\(∀(e:List D) (E:Ent) (g:Gh) (a:Act) (w:World),FI E g (St.mk [some zHn,some zVr,some [D.acc 1 (map eV h.found),D.acc 2 (map vi h.before),D.acc 3 (map vi h.rules),di h.next,di h.cand,D.v (V.int i64 (wrap i64 (h.used+1))),D.v (vi m.kind),D.v (vSs m.states),D.v (vSs m.places),D.v (vSs m.letters),dIs m.ranks,D.v (vi m.levels),D.v (vi m.age),D.v (AY m.rules),D.v (vi m.start.n),dVs m.start.kids,D.v (vi c.n),dVs c.kids]] [(3,1,map vi h.rules),(2,1,map vi h.before),(1,2,map eV h.found)]) e a w->∃g',FI E g' (St.mk [some zHn,some zVr,some (cPl (Al h) m c)] (owA h)) e a w)/\Ab PP 28 [D.ptr 0 0,dn] (St.mk [some (cPl (Al h) m c)] []) (BV (Cz [] (Al h).used)) (St.mk [some (cPl (Al h) m c)] [])/\((Q (some [dVs (Al h).found,dIs (Al h).before,dIs (Al h).rules,di (Al h).next,di (Al h).cand,di (Al h).used])/\True)/\True)/\D.tup [D.v (V.agg [V.list (map eV (Al h).found),V.list (map vi (Al h).before),V.list (map vi (Al h).rules),vi (Al h).next,vi (Al h).cand,vi (Al h).used]),D.v (V.agg [V.bool (Cz [] (Al h).used).decided,V.bool (Cz [] (Al h).used).yes,V.list [],V.list [],vi (Cz [] (Al h).used).mod,V.list [],V.list [],vi (Cz [] (Al h).used).used]),di 0]=ES (Al h,Cz [] (Al h).used,0)) ?_
  rw[Aj (n:=h.used+1) (by omega) (by omega)]
  exact⟨hask,fun o c fo ho hc2=>op_own h hh.ok ho hc2 _,hsame,fun e=>cv_plainQ (Al h) m c (H:=[some zHn,some zVr,some (Ek (Al h) m c)]) (own:=owA h) (q:=2) rfl e,yes_0 (Al h) m c,(by repeat' first|with_reducible refine And.intro ?_ ?_|rfl|trivial),rfl⟩
 ·rw[if_neg h1]
  rw[eq_false_of_ne_true h1] at hsame
  have hiU:HnI m (Al h):=⟨⟨hh.ok.ne,hh.ok.len,hh.ok.size,hh.ok.bl,hh.ok.rl,hh.ok.back⟩,hh.cfg⟩
  have hfs:=find_spec m hm c (Al h) hiU.ok hn.1 (by show h.next<=1000;omega) hh.cfg
  obtain⟨hi2,hc2,hu2,hn2,hn3⟩:=findM_ok hm c (Al h) hiU hn.1
  have hrp:Ab PP 26 [DE h] σ0 (DE h) σ0:=by
   have hl:=hh.ok.len
   have hbl:=hh.ok.bl
   have hrl:=hh.ok.rl
   have hne:0<h.found.length:=length_pos_iff.2 hh.ok.ne
   exact rown_pl h (by omega) (fun v hv=>by have:=hh.ok.size v hv;omega) (by omega) (by omega) (length_pos_iff.1 (by omega)) (length_pos_iff.1 (by omega))
  have hcd2:0<=(Al h).cand/\(Al h).cand<=500:=hcd
  refine sv fStep 107 [3,4,5] (.c (di 0)<|.h (.oc (.dagg (cAc h)) ⟨[some zHn,some zVr],owA h⟩)<|.h .g<|.c (db false)<|.h (.q 8 1)<|.h (.s [ke 3,ke 4,ke 5,ke 6,ke 7,ke 8,ke 9,ke 10,ke 49]) .z) (F0 24 [Ah m,dV c] (di 0)/\(∀(o:Oper) (c:Call) (fo:Operand),o.op=Op.call c->c.callee=Callee.value fo->Ai PP o [D.v (V.fn 26 [] []),D.v (vHnt h)] (St.mk [some [dn,dn,dn,di 0,di 0,di 0],some [db false,db false,dn,dn,di 0,dn,dn,di 0]] []) (D.dagg (cAc h)) (St.mk [some zHn,some zVr] (owA h)))/\F0 27 [dV m.start,dV c] (db false)/\Nv.It (BF (CN σ0.H.length) PP (fun env σ1=>A8 PP fStep env σ1 (ES (if ((AV m c (Al h)).snd.snd !=0)=true then(h,An 0,(AV m c (Al h)).snd.snd) else if (AV m c (Al h)).snd.fst.decided=true then((AV m c (Al h)).fst,(AV m c (Al h)).snd.fst,0) else if decide ((AV m c (Al h)).fst.next>=(↑(length (AV m c (Al h)).fst.found):Int))=true then((AV m c (Al h)).fst,DN (sortV (AV m c (Al h)).fst.found) (AV m c (Al h)).fst.used,0) else((AW m c (AV m c (Al h)).fst).fst,(AW m c (AV m c (Al h)).fst).snd,0))) σ0) [kc cStep [1,1,1,1,1,1]] (AD (sub cStep [1,1,1,1,1,0])) (List.drop 1 (AD (sub cStep [1,1,1,1,1,0])).toList) (mkE 107 [(3,D.v (V.ref (AE m))),(4,D.v (V.ref (Ad c))),(5,D.v (V.ref (vHnt h))),(6,D.ptr 0 0),(7,D.ptr 1 0),(8,di 0),(9,di 0),(10,D.ptr 2 0),(49,D.ptr 2 0)]) (St.mk [some zHn,some zVr,some [D.acc 1 (map eV h.found),D.acc 2 (map vi h.before),D.acc 3 (map vi h.rules),di h.next,di h.cand,di (wrap i64 (h.used+1)),di m.kind,D.v (vSs m.states),D.v (vSs m.places),D.v (vSs m.letters),dIs m.ranks,di m.levels,di m.age,D.v (AY m.rules),di m.start.n,dVs m.start.kids,di c.n,dVs c.kids]] [(3,1,map vi h.rules),(2,1,map vi h.before),(1,2,map eV h.found)]))) ?_
  rw[Aj (n:=h.used+1) (by omega) (by omega)]
  refine⟨hask,fun o c fo ho hc2=>op_own h hh.ok ho hc2 _,hsame,⟨?_⟩⟩
  refine ro_callHE (σ:=⟨[some zHn,some zVr,some (Ek (Al h) m c)],owA (Al h)⟩) 50 29 2 [.ptr 2 0] [.ptr 0 0] (cPl (AV m c (Al h)).1 m c) (GN (AV m c (Al h))) rfl (by kernel_rfl) (by kernel_rfl) (by kernel_rfl) rfl rfl (by rfl) (by rfl) (by rfl) (by rfl) ?_ (by rfl) hfs ?_
  ·exact .ptr .nil
  generalize AV m c (Al h)=p at*
  obtain⟨h2,v,e⟩:=p
  dsimp only at hi2 hc2 hu2 hn2 hn3⊢
  by_cases he:(e !=0)=true
  ·rw[if_pos he]
   refine GA mixed 107 [3,4,5] 8 2 (.t<|.c (DE h) .r) ?_
   refine via (by kernel_rfl:(((h2,v,e).snd.snd !=0)=true/\F0 26 [D.v (vHnt h)] (DE h)/\D.tup [D.v (V.agg [V.list (map eV h.found),V.list (map vi h.before),V.list (map vi h.rules),vi h.next,vi h.cand,vi h.used]),D.v (V.agg [V.bool false,V.bool false,V.list [],V.list [],vi 0,V.list [],V.list [],vi 0]),di (h2,v,e).snd.snd]=ES (h,An 0,e))=_) ?_
   exact⟨he,hrp,rfl⟩
  ·rw[if_neg he]
   have hf:=eq_false_of_ne_true he
   by_cases hd:v.decided=true
   ·rw[if_pos hd]
    refine GA mixed 107 [3,4,5] 8 2 (.f<|.t .r) ?_
    refine via (by kernel_rfl:(((h2,v,e).snd.snd !=0)=false/\(h2,v,e).snd.fst.decided=true/\(True/\(Q (some [db (h2,v,e).snd.fst.decided,db (h2,v,e).snd.fst.yes,D.v (BS (h2,v,e).snd.fst.run),D.v (vIs (h2,v,e).snd.fst.coefs),di (h2,v,e).snd.fst.mod,D.v (vIs (h2,v,e).snd.fst.vals),D.v (vVs (h2,v,e).snd.fst.closed),di (h2,v,e).snd.fst.used])/\True)/\True)/\D.tup [D.v (V.agg [V.list (map eV h2.found),V.list (map vi h2.before),V.list (map vi h2.rules),vi h2.next,vi h2.cand,vi h2.used]),D.v (V.agg [V.bool (h2,v,e).snd.fst.decided,V.bool (h2,v,e).snd.fst.yes,V.list (map vSt (h2,v,e).snd.fst.run),V.list (map vi (h2,v,e).snd.fst.coefs),vi (h2,v,e).snd.fst.mod,V.list (map vi (h2,v,e).snd.fst.vals),V.list (map eV (h2,v,e).snd.fst.closed),vi (h2,v,e).snd.fst.used]),di 0]=ES (h2,v,0))=_) ?_
    exact⟨hf,hd,(by repeat' first|with_reducible refine And.intro ?_ ?_|rfl|trivial),rfl⟩
   ·rw[if_neg hd]
    have hd2:=eq_false_of_ne_true hd
    by_cases hx:decide (h2.next>=(h2.found.length:Int))=true
    ·rw[if_pos hx]
     refine GA mixed 107 [3,4,5] 8 2 (.f<|.f<|.t<|.h (.oc (.arr 4 0 h2.found.length) ⟨[some zHn,some zVr,some (cPl h2 m c),some (cV v),some (Aa (h2.found.map eV))],[]⟩)<|.h (.oc (.tup []) ⟨[some zHn,some zVr,some (cPl h2 m c),some (cV v),some (Aa ((sortV h2.found).map eV))],[]⟩)<|.h (.ct 13 (dVs (sortV h2.found)) ⟨[some zHn,some zVr,some (cPl h2 m c),some (cV v),none],[]⟩) .r) ?_
     refine via (by kernel_rfl:(((h2,v,e).snd.snd !=0)=false/\(h2,v,e).snd.fst.decided=false/\(True/\True/\True)/\decide (h2.next>=(length (map eV h2.found):Int))=true/\(∀(o:Oper) (c_1:Call) (fo:Operand),o.op=Op.call c_1->c_1.callee=Callee.value fo->Ai PP o [D.v (V.fn 30 [] []),dVs h2.found] (St.mk [some zHn,some zVr,some (cPl h2 m c),some [db (h2,v,e).snd.fst.decided,db (h2,v,e).snd.fst.yes,D.v (BS (h2,v,e).snd.fst.run),D.v (vIs (h2,v,e).snd.fst.coefs),di (h2,v,e).snd.fst.mod,D.v (vIs (h2,v,e).snd.fst.vals),D.v (vVs (h2,v,e).snd.fst.closed),di (h2,v,e).snd.fst.used]] []) (D.arr 4 0 h2.found.length) (St.mk [some zHn,some zVr,some (cPl h2 m c),some (cV v),some (Aa (map eV h2.found))] []))/\(∀(o:Oper) (c_1:Call) (fo:Operand),o.op=Op.call c_1->c_1.callee=Callee.value fo->Ai PP o [D.v (V.fn 31 [] []),D.arr 4 0 h2.found.length,D.v (V.fn 32 [] [])] (St.mk [some zHn,some zVr,some (cPl h2 m c),some (cV v),some (Aa (map eV h2.found))] []) (D.tup []) (St.mk [some zHn,some zVr,some (cPl h2 m c),some (cV v),some (Aa (map eV (sortV h2.found)))] []))/\(∀(e:List D),e[13]?=some (D.arr 4 0 h2.found.length)->∀(E:Ent) (g:Gh) (a:Act) (w:World),FI E g (St.mk [some zHn,some zVr,some (cPl h2 m c),some (cV v),some (Aa (map eV (sortV h2.found)))] []) e a w->∃g',FI E g' (St.mk [some zHn,some zVr,some (cPl h2 m c),some (cV v),none] []) (List.set e 13 (dVs (sortV h2.found))) a w)/\(True/\(Q (some [di h2.used])/\True)/\True)/\D.tup [D.v (V.agg [V.list (map eV h2.found),V.list (map vi h2.before),V.list (map vi h2.rules),vi h2.next,vi h2.cand,vi h2.used]),D.v (V.agg [V.bool true,V.bool false,V.list [],V.list [],vi 0,V.list [],V.list (map eV (sortV h2.found)),vi h2.used]),di 0]=ES (h2,DN (sortV h2.found) h2.used,0))=_) ?_
     refine⟨hf,hd2,⟨trivial,trivial,trivial⟩,by rw[length_map];exact hx,fun o cl fo ho hc2=>?_,fun o cl fo ho hc2=>?_,fun e he=>cv_flz (σ:=⟨[some zHn,some zVr,some (cPl h2 m c),some (cV v),some (Aa ((sortV h2.found).map eV))],[]⟩) (q:=4) (sz:=2) (by decide) (Dl _) (by rw[length_map,(AL _).length_eq]) rfl he,(by repeat' first|with_reducible refine And.intro ?_ ?_|rfl|trivial),rfl⟩
     ·exact CB (σ:=⟨[some zHn,some zVr,some (cPl h2 m c),some (cV v)],[]⟩) (fs:=[]) (cs:=[]) (ds:=[dVs h2.found]) ho hc2 rfl (As _) (allA_spec h2.found (by have:=hi2.ok.len;omega) (fun v hv=>by have:=hi2.ok.size v hv;omega))
     ·exact GE (dc:=[.arr 0 0 h2.found.length,dfn 32]) (σ:=⟨[some zHn,some zVr,some (cPl h2 m c),some (cV v),some (Aa (h2.found.map eV))],[]⟩) (q:=4) (fs:=[]) (cs:=[]) ho hc2 rfl (As _) (As _) (.arr (.pl rfl .nil)) rfl (EB h2.found (by have:=hi2.ok.len;omega) (fun v hv=>by have:=hi2.ok.size v hv;omega))
    ·rw[if_neg hx]
     refine GA mixed 107 [3,4,5] 8 2 (.f<|.f<|.f<|.c1 (cPl (AW m c h2).1 m c) (BV (AW m c h2).2) .r) ?_
     refine via (by kernel_rfl:(((h2,v,e).snd.snd !=0)=false/\(h2,v,e).snd.fst.decided=false/\(True/\True/\True)/\decide (h2.next>=(length (map eV h2.found):Int))=false/\Ab PP 33 [D.ptr 0 0] (St.mk [some (cPl h2 m c)] []) (BV (AW m c h2).snd) (St.mk [some (cPl (AW m c h2).fst m c)] [])/\(True/\(Q (some [db (AW m c h2).snd.decided,db (AW m c h2).snd.yes,D.v (BS (AW m c h2).snd.run),D.v (vIs (AW m c h2).snd.coefs),di (AW m c h2).snd.mod,D.v (vIs (AW m c h2).snd.vals),D.v (vVs (AW m c h2).snd.closed),di (AW m c h2).snd.used])/\True)/\True)/\D.tup [D.v (V.agg [V.list (map eV (AW m c h2).fst.found),V.list (map vi (AW m c h2).fst.before),V.list (map vi (AW m c h2).fst.rules),vi (AW m c h2).fst.next,vi (AW m c h2).fst.cand,vi (AW m c h2).fst.used]),D.v (V.agg [V.bool (AW m c h2).snd.decided,V.bool (AW m c h2).snd.yes,V.list (map vSt (AW m c h2).snd.run),V.list (map vi (AW m c h2).snd.coefs),vi (AW m c h2).snd.mod,V.list (map vi (AW m c h2).snd.vals),V.list (map eV (AW m c h2).snd.closed),vi (AW m c h2).snd.used]),di 0]=ES ((AW m c h2).fst,(AW m c h2).snd,0))=_) ?_
     exact⟨hf,hd2,⟨trivial,trivial,trivial⟩,by rw[length_map];exact eq_false_of_ne_true hx,excl_spec m hm c hc h2 (by omega),(by repeat' first|with_reducible refine And.intro ?_ ?_|rfl|trivial),rfl⟩
theorem exclM_h(m:Mod)(c:Val)(h:Hnt):(AW m c h).1=h∨(AW m c h).1=EG h:=by
 rw[AW]
 split
 ·split
  ·split
   ·exact .inr rfl
   ·exact .inr rfl
  ·exact .inr rfl
 ·exact .inl rfl
structure HnB(m:Mod)(k:Nat)(h:Hnt):Prop where
 inv:HnI m h
 next:0<=h.next/\h.next<=k
 cand:0<=h.cand/\h.cand<=k
 used:0<=h.used/\h.used<=k
theorem HnI.use{m:Mod}{h:Hnt}(hh:HnI m h):HnI m (Al h):=⟨⟨hh.ok.ne,hh.ok.len,hh.ok.size,hh.ok.bl,hh.ok.rl,hh.ok.back⟩,hh.cfg⟩
theorem stepH_ok{m:Mod}(hm:PlC m)(c:Val){k:Nat}{h:Hnt}(hb:HnB m k h):HnB m (k+1) (stepH m c h).1:=by
 have hn:=hb.next
 have hc:=hb.cand
 have hu:=hb.used
 obtain⟨g1,g2,g3,g4,g5⟩:=findM_ok hm c (Al h) hb.inv.use hn.1
 have e1:(Al h).next=h.next:=rfl
 have e2:(Al h).cand=h.cand:=rfl
 have e3:(Al h).used=h.used+1:=rfl
 have hF:HnB m (k+1) (AV m c (Al h)).1:=⟨g1,by omega,by omega,by omega⟩
 rw[stepH]
 split
 ·exact⟨hb.inv.use,(by omega:0<=h.next/\h.next<=(k+1:Nat)),(by omega:0<=h.cand/\h.cand<=(k+1:Nat)),(by omega:0<=(Al h).used/\(Al h).used<=(k+1:Nat))⟩
 ·split
  ·exact⟨hb.inv,(by omega:0<=h.next/\h.next<=(k+1:Nat)),(by omega:0<=h.cand/\h.cand<=(k+1:Nat)),(by omega:0<=h.used/\h.used<=(k+1:Nat))⟩
  ·split
   ·exact hF
   ·split
    ·exact hF
    ·rcases exclM_h m c (AV m c (Al h)).1 with e|e
     ·dsimp only;rw[e];exact hF
     ·dsimp only;rw[e]
      exact⟨⟨⟨g1.ok.ne,g1.ok.len,g1.ok.size,g1.ok.bl,g1.ok.rl,g1.ok.back⟩,g1.cfg⟩,⟨hF.next.1,hF.next.2⟩,(by omega:0<=(AV m c (Al h)).1.cand+1/\(AV m c (Al h)).1.cand+1<=(k+1:Nat)),⟨hF.used.1,hF.used.2⟩⟩
def decL(m:Mod)(c:Val):Nat->Hnt->Vrd->Vrd×Int
 |0,_,v=>(v,0)
 |n+1,h,v=>if v.decided=true then(v,0) else if ((stepH m c h).2.2 !=0)=true then(An 0,(stepH m c h).2.2) else decL m c n (stepH m c h).1 (stepH m c h).2.1
def decM(m:Mod)(c:Val)(n:Nat):Vrd×Int:=decL m c n (AX m) (An 0)
abbrev Di(r:Vrd×Int):D:=.tup [BV r.1,di r.2]
abbrev cH(h:Hnt):List D:=[dVs h.found,dIs h.before,dIs h.rules,di h.next,di h.cand,di h.used]
abbrev stD(h:Hnt)(v:Vrd):St:=⟨[some zVr,some (cH h),some (cV v)],[]⟩
theorem cv_zero{H:List (Option (List D))}{own:List (Nat×Nat×List V)}{q:Nat}(hq:H[q]?=some (some zVr))(e:List D):Cv e ⟨H,own⟩ e ⟨H.set q (some (cV (An 0))),own⟩:=
 Dr (σ:=⟨H,own⟩) (q:=q) (cs:=zVr) (cs':=cV (An 0)) hq (fun g us hr=>by
  simp only[Ac,Ae,BY] at hr⊢
  obtain⟨u0,_,rfl,h0,u1,_,rfl,h1,u2,_,rfl,h2,u3,_,rfl,h3,u4,_,rfl,h4,u5,_,rfl,h5,u6,_,rfl,h6,u7,_,rfl,h7,rfl⟩:=hr
  subst h2 h3 h5 h6
  exact⟨_,_,rfl,h0,_,_,rfl,h1,_,_,rfl,Cj _,_,_,rfl,Cj _,_,_,rfl,h4,_,_,rfl,Cj _,_,_,rfl,Cj _,_,_,rfl,h7,rfl⟩) (fun _ x hx=>by
  simp only[cV,mem_cons,not_mem_nil,or_false] at hx
  rcases hx with rfl|rfl|rfl|rfl|rfl|rfl|rfl|rfl<;>rfl) e
noncomputable abbrev fDcd:Func:= Tryz.f9
noncomputable def cDcd:Code:=fDcd.body.getD .skip
theorem hnt0_ok{m:Mod}(hm:PlC m):HnB m 0 (AX m) where
 inv:=⟨⟨by simp[AX],by simp[AX],fun v hv=>by rw[mem_singleton.1 hv];have:=hm.start.size hm;omega,rfl,rfl,fun i b hb=>by
  have h1:=(List.getElem?_eq_some_iff.1 hb).1
  simp[AX] at h1;subst h1
  simp[AX] at hb;omega⟩,fun v hv=>by rw[mem_singleton.1 hv];exact hm.start⟩
 next:=by simp[AX]
 cand:=by simp[AX]
 used:=by simp[AX]
theorem dcd_loop(m:Mod)(hm:PlC m)(c:Val)(hc:AC m c)(N:Nat)(hN:N<=400)(n:Nat):∀(k:Nat) (h:Hnt) (v:Vrd),N-k=n->HnB m k h->
  Rn PP fDcd 0 (Di (decL m c n h v)) σ0 ([.lp (sub cDcd [1,1,1,1,0,1,0,0]),.blk 0,.code (sub cDcd [1,1,1,1,1])]++[]) (mkE 45 [(2,di N),(3,.v (.ref (AE m))),(4,.v (.ref (Ad c))),(6,.ptr 0 0),(7,di 0),(8,.ptr 1 0),(10,.ptr 2 0),(11,di k)]) (stD h v):=by
 induction n with
 |zero=>
  intro k h v hn hb
  rw[decL]
  refine lv 45 [3,4] (.f .r) (decide ((k:Int)<(N:Int))=false/\D.tup [D.v (V.agg [V.bool v.decided,V.bool v.yes,V.list (map vSt v.run),V.list (map vi v.coefs),vi v.mod,V.list (map vi v.vals),V.list (map eV v.closed),vi v.used]),di 0]=Di (v,0)) ?_
  exact⟨decide_eq_false (by omega),rfl⟩
 |succ n ih=>
  intro k h v hn hb
  rw[decL]
  by_cases hd:v.decided=true
  ·rw[if_pos hd]
   refine lv 45 [3,4] (.t<|.f .r) (decide ((k:Int)<(N:Int))=true/\(!v.decided)=false/\D.tup [D.v (V.agg [V.bool v.decided,V.bool v.yes,V.list (map vSt v.run),V.list (map vi v.coefs),vi v.mod,V.list (map vi v.vals),V.list (map eV v.closed),vi v.used]),di 0]=Di (v,0)) ?_
   exact⟨decide_eq_true (by omega),by rw[hd];rfl,rfl⟩
  ·rw[if_neg hd]
   have hnd:(!v.decided)=true:=by simpa using hd
   have hst:=step_spec m hm c hc h hb.inv (by have:=hb.next;omega) (by have:=hb.cand;omega) (by have:=hb.used;omega)
   have hok:=stepH_ok hm c hb
   generalize stepH m c h=p at*
   by_cases he:(p.2.2 !=0)=true
   ·rw[if_pos he]
    refine lv 45 [3,4] (.t<|.t<|.c (ES p)<|.t .r) (decide ((k:Int)<(N:Int))=true/\(!v.decided)=true/\F0 19 [Ah m,dV c,D.v (V.agg [vVs h.found,vIs h.before,vIs h.rules,vi h.next,vi h.cand,vi h.used])] (ES p)/\(p.snd.snd !=0)=true/\D.tup [D.v (V.agg [V.bool false,V.bool false,V.list [],V.list [],vi 0,V.list [],V.list [],vi 0]),di p.snd.snd]=Di (An 0,p.snd.snd)) ?_
    exact⟨decide_eq_true (by omega),hnd,hst,he,rfl⟩
   ·rw[if_neg he]
    refine lv 45 [3,4] (.t<|.t<|.c (ES p)<|.f<|.lo [ke 2,ke 3,ke 4,ke 6,ke 7,ke 8,ke 10,ch 11 (di (k+1:Nat))] (stD p.1 p.2.1)) (decide ((k:Int)<(N:Int))=true/\(!v.decided)=true/\F0 19 [Ah m,dV c,D.v (V.agg [vVs h.found,vIs h.before,vIs h.rules,vi h.next,vi h.cand,vi h.used])] (ES p)/\(p.snd.snd !=0)=false/\di (wrap i64 ((k:Int)+1))=di (↑(k+1):Int)/\okH 3 [] [some zVr,some [dVs p.fst.found,dIs p.fst.before,dIs p.fst.rules,di p.fst.next,di p.fst.cand,di p.fst.used],some [db p.snd.fst.decided,db p.snd.fst.yes,D.v (BS p.snd.fst.run),dIs p.snd.fst.coefs,di p.snd.fst.mod,dIs p.snd.fst.vals,dVs p.snd.fst.closed,di p.snd.fst.used]]=true/\[some zVr,some [dVs p.fst.found,dIs p.fst.before,dIs p.fst.rules,di p.fst.next,di p.fst.cand,di p.fst.used],some [db p.snd.fst.decided,db p.snd.fst.yes,D.v (BS p.snd.fst.run),dIs p.snd.fst.coefs,di p.snd.fst.mod,dIs p.snd.fst.vals,dVs p.snd.fst.closed,di p.snd.fst.used]]=[some zVr,some (cH p.fst),some (cV p.snd.fst)]/\I0 fDcd 0 (Di (decL m c n p.fst p.snd.fst)) σ0 [kl cDcd [1,1,1,1,0,1,0,0],KI.blk 0,kc cDcd [1,1,1,1,1]] (mkE 45 [(2,di (N:Int)),(3,D.v (V.ref (AE m))),(4,D.v (V.ref (Ad c))),(6,D.ptr 0 0),(7,di 0),(8,D.ptr 1 0),(10,D.ptr 2 0),(11,di (↑(k+1):Int))]) (stD p.fst p.snd.fst)) ?_
    exact⟨decide_eq_true (by omega),hnd,hst,eq_false_of_ne_true he,by rw[Af (by omega)],rfl,rfl,⟨ih (k+1) p.1 p.2.1 (by omega) hok⟩⟩
theorem dcd_spec(m:Mod)(hm:PlC m)(c:Val)(hc:AC m c)(N:Nat)(hN:N<=400):Ab PP 9 [Ah m,dV c,di N] σ0 (Di (decM m c N)) σ0:=by
 refine sv fDcd 45 [3,4] (.c (.tup [DE (AX m),di 0])<|.h (.q 5 0)<|.h (.cs (stD (AX m) (An 0)))<|.lo [ke 2,ke 3,ke 4,ke 6,ke 7,ke 8,ke 10,ch 11 (di (0:Nat))] (stD (AX m) (An 0))) (F0 18 [Ah m,dV c] (D.tup [DE (AX m),di 0])/\(∀(e:List D) (E:Ent) (g:Gh) (a:Act) (w:World),FI E g (St.mk [some [D.v (V.bool false),D.v (V.bool false),dn,dn,D.v (V.int i64 0),dn,dn,D.v (V.int i64 0)],some [D.v (vVs (AX m).found),D.v (vIs (AX m).before),D.v (vIs (AX m).rules),D.v (vi (AX m).next),D.v (vi (AX m).cand),D.v (vi (AX m).used)],some [D.v (V.bool false),D.v (V.bool false),dn,dn,D.v (V.int i64 0),dn,dn,D.v (V.int i64 0)]] []) e a w->∃g',FI E g' (stD (AX m) (An 0)) e a w)/\di 0=di (↑0:Int)/\okH 3 [] [some zVr,some (cH (AX m)),some (cV (An 0))]=true/\Q [some zVr,some (cH (AX m)),some (cV (An 0))]/\I0 fDcd σ0.H.length (Di (decM m c N)) σ0 [kl cDcd [1,1,1,1,0,1,0,0],KI.blk 0,kc cDcd [1,1,1,1,1]] (mkE 45 [(2,di (N:Int)),(3,D.v (V.ref (AE m))),(4,D.v (V.ref (Ad c))),(6,D.ptr 0 0),(7,di 0),(8,D.ptr 1 0),(10,D.ptr 2 0),(11,di (↑0:Int))]) (stD (AX m) (An 0))) ?_
 exact⟨rstart_spec m hm c hc,fun e=>(cv_zero (H:=[some zVr,some (cH (AX m)),some zVr]) (q:=2) rfl e),rfl,rfl,rfl,⟨dcd_loop m hm c hc N hN N 0 (AX m) (An 0) rfl (hnt0_ok hm)⟩⟩
def rulS:Rul:=⟨[114],0,0,[1],[3],[],0,0,0,[],[],[],[],0⟩
def modS:Mod:=⟨1,[[97]],[[120]],[],[],0,0,[rulS],Cf 0 [2]⟩
theorem modS_ok:modS.ok where
 kind:=.inl rfl
 sized:=by kernel_rfl
 ranked:=by kernel_rfl
 named:=by kernel_rfl
 rshort:=fun r hr=>by rw[mem_singleton.1 hr];exact⟨by decide,by decide,by decide,by decide,by decide,by decide,by decide⟩
 right:=fun r hr=>by rw[mem_singleton.1 hr];kernel_rfl
 start:=by kernel_rfl
 ssize:=by show(Cf 0 [2]).size<=1000000;decide
theorem modS_plc:PlC modS where
 ok:=modS_ok
 kind:=rfl
 move:=fun r hr=>by rw[mem_singleton.1 hr];rfl
 start:=cfgOK modS 0 (by decide) [2] rfl (by intro y hy;rw[mem_singleton.1 hy];decide)
 few:=by decide
theorem sane_1:(decM modS (Cf 0 [5]) 30)=(⟨true,false,[],[-1],2,[0],[],4⟩,0):=by kernel_rfl
theorem sane_2:(decM modS (Cf 0 [6]) 30)=(⟨true,true,[(0,Cf 0 [4]),(0,Cf 0 [6])],[],0,[],[],2⟩,0):=by kernel_rfl
noncomputable abbrev fSane:Func:= Tryz.f4
theorem sane_spec:Ab PP 4 [] σ0 (db true) σ0:=by
 refine sv fSane 70 [] (.c (Di (⟨true,false,[],[-1],2,[0],[],4⟩,0))<|.c (Di (⟨true,true,[(0,Cf 0 [4]),(0,Cf 0 [6])],[],0,[],[],2⟩,0)) .r) (F0 9 [D.v (V.agg [vi 1,V.list [V.str (ByteArray.mk #[97]).data.toList],V.list [V.str (ByteArray.mk #[120]).data.toList],V.list [],V.list [],vi 0,vi 0,V.list [V.agg [V.str (ByteArray.mk #[114]).data.toList,vi 0,vi 0,V.list [vi 1],V.list [vi 3],V.list [],vi 0,vi 0,vi 0,V.list [],V.list [],V.list [],V.list [],vi 0]],vi 0,V.list [V.agg [vi 0,V.list []],V.agg [vi 2,V.list []]]]),D.v (V.agg [vi 0,V.list [V.agg [vi 0,V.list []],V.agg [vi 5,V.list []]]]),di 30] (Di (Vrd.mk true false [] [-1] 2 [0] [] 4,0))/\F0 9 [D.v (V.agg [vi 1,V.list [V.str (ByteArray.mk #[97]).data.toList],V.list [V.str (ByteArray.mk #[120]).data.toList],V.list [],V.list [],vi 0,vi 0,V.list [V.agg [V.str (ByteArray.mk #[114]).data.toList,vi 0,vi 0,V.list [vi 1],V.list [vi 3],V.list [],vi 0,vi 0,vi 0,V.list [],V.list [],V.list [],V.list [],vi 0]],vi 0,V.list [V.agg [vi 0,V.list []],V.agg [vi 2,V.list []]]]),D.v (V.agg [vi 0,V.list [V.agg [vi 0,V.list []],V.agg [vi 6,V.list []]]]),di 30] (Di (Vrd.mk true true [(0,Cf 0 [4]),(0,Cf 0 [6])] [] 0 [] [] 2,0))/\db ((length (map vSt (Vrd.mk true true [(0,Cf 0 [4]),(0,Cf 0 [6])] [] 0 [] [] 2,0).fst.run):Int)==2)=db true) ?_
 have h1:=dcd_spec modS modS_plc (Cf 0 [5]) (cfgOK modS 0 (by decide) [5] rfl (by intro y hy;rw[mem_singleton.1 hy];decide)) 30 (by decide)
 have h2:=dcd_spec modS modS_plc (Cf 0 [6]) (cfgOK modS 0 (by decide) [6] rfl (by intro y hy;rw[mem_singleton.1 hy];decide)) 30 (by decide)
 rw[sane_1] at h1
 rw[sane_2] at h2
 exact⟨h1,h2,rfl⟩
end Go.Proofs.YtcjhkglbdahfgaaGreat
