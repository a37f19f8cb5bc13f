/-
  A part of the proof.
-/
import Derived.Test.YtfhgjfkleggjfaaGreatDoorZe
import Derived.Shelf.SlSortCmp.NoneTotal
import Derived.Test.YtfhgjfkleggjfaaGreatDoorZd
import Derived.Laws.StructEq
import Derived.ChangeKeysEq
namespace Go.Proofs.YtfhgjfkleggjfaaGreatDoor
open Go.Dv Go.Nv Go.Shelf
set_option maxRecDepth 20000
open List (take)
open Go.IntKind (u64)
open Go.IntKind renaming wrap → yu, i64 → yt
open List renaming length → I, map → U, drop → W
open Option renaming some → G
open Bool renaming true → J, false → O
open Decidable renaming decide → Y
open Int renaming toNat → Z
open Go.Dv.V renaming list → ai, str → ae, agg → ab, int → aa, ref → bz, fn → bw, nils → bv, bool → bu
open Go.Dv.D renaming v → bt, acc → br, ptr → bq, arr → bo, gro → bm, tup → bl, undef → bk, dagg → bj
open Go.Dv.St renaming mk → bi
open Go.Dv.KI renaming blk → bh
open _root_.ByteArray renaming mk → bf
open Go renaming Operand → x8, Program → x7, TypeId → x6, World → x5, Value → yz, Oper → yy, FuncId → yx, Func → yw, IntKind → yv
theorem Pt:F0 261 [dl [],dfn 262] (.tup []):=by
 refine⟨⟨_, Tryz.func261,by kernel_rfl,by kernel_rfl⟩,fun g w args hw hargs=>?_⟩
 obtain⟨u0,u1,rfl,h0,h1⟩:=Av.1 hargs
 simp only[Ag,B3] at h0
 obtain⟨a,cap,rfl,_,_⟩:=h0
 have h:=AnyF.slices_SortFunc_none { Tryz.sortW with } a cap u1 w
 refine Calls.mono h ?_
 rintro e w' ⟨rfl,rfl⟩
 exact⟨_,g,rfl,WI.start hw,by simp only[Ag];exact⟨[],rfl,by simp[Ad]⟩⟩
theorem L3:F0 21 [dl [],dfn 22] (.tup []):=by
 refine⟨⟨_, Tryz.func21,by kernel_rfl,by kernel_rfl⟩,fun g w args hw hargs=>?_⟩
 obtain⟨u0,u1,rfl,h0,h1⟩:=Av.1 hargs
 simp only[Ag,B3] at h0
 obtain⟨a,cap,rfl,_,_⟩:=h0
 have h:=AnyF.slices_SortFunc_none Tryz.sortV a cap u1 w
 refine Calls.mono h ?_
 rintro e w' ⟨rfl,rfl⟩
 exact⟨_,g,rfl,WI.start hw,by simp only[Ag];exact⟨[],rfl,by simp[Ad]⟩⟩
theorem JE:iy A5 je:=by
 constructor
 ·exact fun x _=>Bz.refl (ce x) trivial
 ·exact fun x y _ _ h=>QQ (Bz.eq (ce x) (ce y) trivial trivial h)
 ·exact fun x y _ _=>Bz.swap (ce x) (ce y) trivial trivial
 ·exact fun x y z _ _ _=>Bz.trans (ce x) (ce y) (ce z) trivial trivial trivial
theorem AbC(l:List (List Int)):(sortW l).Pairwise fun a b=>A5 a b<=0:=
 (List.pairwise_mergeSort (le:=fun a b=>Y (A5 a b<=0)) (fun a b c h1 h2=>HC (Ey (HL h1) (HL h2))) (fun a b=>by rcases J9 (ce a) (ce b) with h|h<;>simp[A5,h]) l).imp fun{a b} h=>HL h
def lb(a b:List Int):Bool:=Y (a=b)
def C4(l:List (List Int)):List (List Int):=AP lb (sortW l)
theorem DT(l:List (List Int)):jz A5 (C4 l)/\∀x,x∈C4 l↔x∈l:=by
 obtain⟨h1,h2⟩:=Mr JE (q:=lb) (fun x y=>by simp[lb]) (AbC l)
 exact⟨h1,fun x=>(h2 x).trans (D3 l).mem_iff⟩
theorem KG(l:List (List Int)):I (C4 l)<=I l:=by
 have:=Mq lb (sortW l)
 rwa[(D3 l).length_eq] at this
noncomputable abbrev Aiv:=Tryz.f265
noncomputable abbrev wt:=(bw 262 [] [])
noncomputable abbrev wv:=(bw 167 [] [])
noncomputable abbrev sa:=fun a₀=>(bi [G (Ab (U cz (sortW a₀)))] [])
theorem AeN(l:List (List Int))(hl:I l<=1000)(hs:∀v∈l,I v<=1000):∃R:List D,D.pls R=J/\R.all D.one=J/\Aa PP 265 [.arr 0 0 (I l)] ⟨[G (Ab (l.map cz))],[]⟩ (.arr 0 0 (I (C4 l))) ⟨[G (Ab ((C4 l).map cz)++R)],[]⟩:=by
 have hlen:I (sortW l)=I l:=(D3 l).length_eq
 obtain⟨R,h3,h5,h4⟩:=AeL 167 (sortW l) lb (by omega) (fun x hx y hy=>Eb x y (by have:=hs x ((D3 l).mem_iff.1 hx);omega))
 refine⟨R,h3,h5,?_⟩
 rw[hlen] at h4
 obtain⟨ys,hys⟩:∃ys,ys=C4 l:=⟨_,rfl⟩
 rw[show AP lb (sortW l)=C4 l from rfl, ←hys] at h4
 rw[←hys]
 have hsp:=MF Sd l (by omega) (fun v hv=>by have:=hs v hv;omega)
 refine sv Aiv 7 [] (.h (.oc (.tup []) ⟨[G (Ab ((sortW l).map cz))],[]⟩)<|.h (.oc (.arr 0 0 (I ys)) ⟨[G (Ab (ys.map cz)++R)],[]⟩) .ro) ((N0 [bt (bw 261 [] []),bo 0 0 (I l),bt wt] (jq l) (bl []) (sa l))/\(N0 [bt (bw 263 [] []),bo 0 0 (I l),bt wv] (sa l) (bo 0 0 (I ys)) (lz ys R))/\cm 1 [] [G (Ab (U cz ys)++R)]=J/\Q [G (Ab (U cz ys)++R)]/\Q (bo 0 0 (I ys))) ⟨fun o cl fo ho hc=>?_,fun o cl fo ho hc=>?_,HS.2 ⟨AS (M1 _ h3),rfl⟩,rfl,rfl⟩
 ·exact Dd (H:=[Ab (l.map cz)]) ho hc (fs:=[]) (cs:=[]) (ds:=[.arr 0 0 (I l),dfn 262]) rfl hsp rfl (fun cs hm=>by rw[HQ.1 hm];exact⟨Ak _ _ _,M2 l⟩) rfl (HS.2 ⟨Ak _ _ _,rfl⟩) (HH _)
 ·exact Dd (H:=[Ab ((sortW l).map cz)]) ho hc (fs:=[]) (cs:=[]) (ds:=[.arr 0 0 (I l),dfn 167]) rfl h4 rfl (fun cs hm=>by rw[HQ.1 hm];exact⟨Ak _ _ _,M2 _⟩) rfl (HS.2 ⟨AS (M1 _ h3),rfl⟩) (HH _)
theorem Aa6(F:yx):F0 263 [dl [],dfn F] (dl []):=by
 exact sv Zx 66 [] (.t .r) (Y ((I nV:Int)<2)=J/\bt (ai [])=dl []) ⟨by decide,rfl⟩
noncomputable abbrev Aq7:=F0 261 [bt (ai []),bt wt] (bl [])
noncomputable abbrev Aq8:=F0 263 [bt (ai []),bt wv] (dl [])
theorem AaN:F0 265 [dl []] (dl []):=by
 refine sv Aiv 7 [] (.c (.tup [])<|.c (dl []) .r) (Aq7/\Aq8/\bt (ai [])=dl []) ?_
 exact⟨Pt,Aa6 _,rfl⟩
noncomputable abbrev Ait:=Tryz.f270
theorem TQ(x:Int):F0 270 [di x] (db (Y (x<0)||Y (x>=16))):=by
 exact sv Ait 9 [] (.b .r .r) ((Y (x<0)=J->db J=db (Y (x<0)||Y (x>=16)))/\(Y (x<0)=O->db (Y (x>=16))=db (Y (x<0)||Y (x>=16)))) ⟨fun h=>by rw[h];rfl,fun h=>by rw[h];rfl⟩
noncomputable abbrev Aiu:=Tryz.f264
def QN(w:List Int):Bool:=Y ((I w:Int)<=12)&& !(w.any fun x=>Y (x<0)||Y (x>=16))
theorem W5(w:List Int)(hw:I w<=1000):F0 264 [cw w] (db (QN w)):=by
 rw[QN]
 by_cases h:Y ((I w:Int)<=12)=J
 ·rw[h,Ij]
  exact sv Aiu 11 [] (.t<|.c (db (w.any fun x=>Y (x<0)||Y (x>=16))) .r) (Y ((I (U vi w):Int)<=12)=J/\_/\(db !List.any w fun x=>Y (x<0)||Y (x>=16))=db !List.any w fun x=>Y (x<0)||Y (x>=16)) ⟨by rw[H9];exact h,Ez 270 [] [] (fun x=>Y (x<0)||Y (x>=16)) w (by omega) (fun x _=>TQ x),rfl⟩
 ·rw[HM h,Ih]
  exact sv Aiu 11 [] (.f .r) (Y ((I (U vi w):Int)<=12)=O/\Q (db O)) ⟨by rw[H9];exact HM h,rfl⟩
theorem Pc{w:List Int}(h:QN w=J):I w<=12:=by
 have:=(HS.1 h).1
 have:=HL this
 omega
theorem Lj(w:List Int)(hw:I w<=1000)(i:Nat)(hi:i<I w):F0 260 [bt (ai [ai (W 0 (take (Z (i:Int)) (w.map vi))),ai (W (Z ((i+1:Nat):Int)) (take (I (w.map vi)) (w.map vi)))])] (cw (w.take i++w.drop (i+1))):=by
 have h:=Ad2 [w.take i,w.drop (i+1)] (by simp) (by simp only[IY,List.flatten_nil,Iz,HO,Ig,IF];omega)
 rw[II,II,Jk,Ic (HH _), ←List.map_take, ←List.map_drop,show cw (w.take i++w.drop (i+1))=dl ([w.take i,w.drop (i+1)].flatten.map vi) by simp]
 exact h
theorem Pq(w:List Int):∀x∈w.map vi,V.size x=1:=fun x h=>by obtain⟨y,_,rfl⟩:=Is.1 h;rfl
theorem MY(l:List (List Int))(x:List Int):Ab (l.map cz)++[bt (cz x)]=Ab ((l++[x]).map cz):=by rw[Hb,Hb];simp
theorem Al0{o:yy}{t:Nat}(x:List Int)(τ:St)(ho:o.op=.buildSlice 156 1 #[(0,.tmp t)]):Aj PP o [cw x] τ (.v (.list [cz x])) τ:=
 EA ho rfl rfl X6 rfl (xs:=[cz x]) rfl (fun y hy=>by rw[HQ.1 hy];rfl) (by decide) (by decide) (by decide)
noncomputable abbrev m0:=Tryz.f255
noncomputable def pv:=yl m0
def fp(w:List Int)(i:Nat):List Int:=w.take i++w.drop (i+1)
theorem OK(w:List Int)(i:Nat):I (fp w i)<=I w:=by unfold fp;rw[HO,Ig,IF];omega
def Cs(w:List Int)(k:Nat):List (List Int):=(List.range k).map (fp w)
theorem M8(w:List Int)(k:Nat):Cs w (k+1)=Cs w k++[fp w k]:=by simp[Cs,List.range_succ]
theorem Jx(w:List Int)(k:Nat):I (Cs w k)=k:=by simp[Cs]
theorem NR{w:List Int}(hw:I w<=12){k:Nat}{v:List Int}(h:v∈Cs w k):I v<=12:=by
 obtain⟨i,_,rfl⟩:=Is.1 h
 have:=OK w i;omega
def FS(w:List Int):List (List Int):=if QN w=J then C4 (Cs w (I w)) else[]
noncomputable abbrev j1:=fun a₀=>(ai (U cz a₀))
theorem AaT(w:List Int)(hw:I w<=12)(n:Nat):∀k:Nat,I w- (k+1)=n->k<I w->
  Rn PP m0 0 (dl ((C4 (Cs w (I w))).map cz)) bd ([kl pv [1,1,1,0,1,0,0],.blk 0,kc pv [1,1,1,1]]++[]) (ba 28 [(0,cw w),(3,.gro 0 (k+1) 1),(8,cw w),(9,di (I w)),(10,di (k+1:Nat))]) ⟨[G (Ab ((Cs w (k+1)).map cz))],[]⟩:=by
 induction n with
 |zero=>
  intro k hn hk
  obtain⟨outs,houts⟩:∃outs,outs=Cs w (k+1):=⟨_,rfl⟩
  have ho:I outs=k+1:=by rw[houts];exact Jx _ _
  obtain⟨R,h3,h5,h4⟩:=AeN outs (by omega) (fun v hv=>by rw[houts] at hv;have:=NR hw hv;omega)
  rw[ho] at h4
  obtain⟨ys,hys⟩:∃ys,ys=C4 outs:=⟨_,rfl⟩
  rw[←hys] at h4
  rw[←houts,show Cs w (I w)=outs by rw[houts];congr 1;omega, ←hys]
  refine lv 28 [] (.f<|.h (.q 9 0)<|.h (.ga 3)<|.h (.oc (.arr 0 0 (I ys)) ⟨[G (Ab (ys.map cz)++R)],[]⟩)<|.h (.q 9 2)<|.h (.ct 27 (dl (ys.map cz)) ⟨[none],[]⟩) .r) (Y ((↑(k+1):Int)<(I w:Int))=O/\(N0 [bt (bw 265 [] []),bo 0 0 (k+1)] (jq outs) (bo 0 0 (I ys)) (lz ys R))/\(∀(e:List D),e[27]?=G (bo 0 0 (I ys))->∀(E:cf) (g:Gh) (a:Act) (w:x5),FI E g (lz ys R) e a w->∃g',FI E g' (bi [none] []) (List.set e 27 (dl (U cz ys))) a w)/\bt (j1 ys)=dl (U cz ys)) ⟨yq,fun o cl fo hop hc=>?_,fun e he=>?_,rfl⟩
  ·exact Dd (H:=[Ab (outs.map cz)]) hop hc (fs:=[]) (cs:=[]) (ds:=[.arr 0 0 (k+1)]) rfl h4 rfl (fun cs hm=>by rw[HQ.1 hm];exact⟨Ak _ _ _,M2 _⟩) rfl (HS.2 ⟨AS (M1 _ h3),rfl⟩) (HH _)
  ·exact RC (σ:=⟨[G (Ab (ys.map cz)++R)],[]⟩) (q:=0) (sz:=1) (rest:=R) (by decide) (fun x hx=>by obtain⟨y,_,rfl⟩:=Is.1 hx;rfl) (by rw[H9]) rfl he
 |succ n ih=>
  intro k hn hk
  have g3:=ih (k+1) (by omega) (by omega)
  rw[M8 w (k+1),show fp w (k+1)=w.take (k+1)++w.drop (k+2) from rfl] at g3
  have ho:=Jx w (k+1)
  generalize C4 (Cs w (I w))=ws at g3⊢
  generalize Cs w (k+1)=outs at g3 ho⊢
  refine lv 28 [] (.t<|.c (cw (w.take (k+1)++w.drop (k+2)))<|.lo [ke 0,ch 3 (.gro 1 (k+1+1) 1),ke 8,ke 9,ch 10 (di (k+1+1:Nat))] ⟨[none,G (Ab ((outs++[w.take (k+1)++w.drop (k+2)]).map cz))],[]⟩) (Y ((↑(k+1):Int)<(I w:Int))=J/\(∀(x:V),x∈U vi w->V.size x=1)/\0<=(fun x=>x.snd) (yt,(↑(k+1):Int))/\(fun x=>x.snd) (yt,(↑(k+1):Int))<=(I (U vi w):Int)/\(∀(x:V),x∈U vi w->V.size x=1)/\0<=(fun x=>x.snd) (yt,yu yt ((↑(k+1):Int)+1))/\(fun x=>x.snd) (yt,yu yt ((↑(k+1):Int)+1))<=(I (U vi w):Int)/\F0 260 [bt (ai [ai (W 0 (take (Z ((fun x=>x.snd) (yt,(↑(k+1):Int)))) (U vi w))),ai (W (Z ((fun x=>x.snd) (yt,yu yt ((↑(k+1):Int)+1)))) (take (I (U vi w)) (U vi w)))])] (cw (take (k+1) w++W (k+2) w))/\I (fk outs)=(k+1)*1/\[cz (take (k+1) w++W (k+2) w)]≠ []/\(∀(y:V),y∈ [cz (take (k+1) w++W (k+2) w)]->V.size y=1)/\Ao (k+1+I (cz (take (k+1) w++W (k+2) w)::nV)) 24/\bm 1 (k+1+I (cz (take (k+1) w++W (k+2) w)::nV)) 1=bm 1 (k+1+1) 1/\di (yu yt ((↑(k+1):Int)+1))=di (↑(k+1+1):Int)/\cm 2 [] [none,G (Ab (U cz outs)++[bt (cz (take (k+1) w++W (k+2) w))])]=J/\[none,G (Ab (U cz outs)++[bt (cz (take (k+1) w++W (k+2) w))])]=[none,G (Ab (U cz (outs++[take (k+1) w++W (k+2) w])))]/\I0 m0 0 (dl (U cz ws)) bd [kl pv gi,bh 0,kc pv [1,1,1,1]] (ba 28 [(0,cw w),(3,bm 1 (k+1+1) 1),(8,cw w),(9,di (I w:Int)),(10,di (↑(k+1+1):Int))]) (bi [none,G (Ab (U cz (outs++[take (k+1) w++W (k+2) w])))] [])) ?_
  have hw1:yt.wrap (((k+1:Nat):Int)+1)=((k+1+1:Nat):Int):=by rw[Al];omega
  rw[hw1,MY]
  refine⟨yr,Pq w,by show(0:Int)<=((k+1:Nat):Int);omega,by show((k+1:Nat):Int)<=_;rw[H9];omega,Pq w,by show(0:Int)<=((k+1+1:Nat):Int);omega,by show((k+1+1:Nat):Int)<=_;rw[H9];omega,Lj w (by omega) (k+1) (by omega),by rw[Pa,ho],by simp,fun y hy=>by rw[HQ.1 hy];rfl,⟨by simp only[HF,HJ];omega,by simp only[HF,HJ];omega⟩,rfl,rfl,?_,rfl,⟨?_⟩⟩
  ·simp[cm,D.okNs,D.okN,Ak]
  ·refine Ep (H0:=[none]) (fun E0 E h=>h.2) 1 rfl (fun cs hc=>?_) ?_ ?_ g3
   ·simp at hc;rw[hc];exact A3 _
   ·simp[ba,D.okNs,D.okN]
   ·simp[ba,D.rens,D.ren]
theorem AaS(w:List Int)(hw:I w<=1000):F0 255 [cw w] (dl ((FS w).map cz)):=by
 have hb2:=W5 w hw
 unfold FS
 cases hv:QN w with
 |false=>
  rw[hv] at hb2
  rw[HR (by decide)]
  exact sv m0 28 [] (.c (db O) .r) (_/\Q (bt (ai []))) ⟨hb2,rfl⟩
 |true=>
  have h12:=Pc hv
  rw[hv] at hb2
  rw[HV rfl]
  by_cases h0:w=[]
  ·subst h0
   rw[show C4 (Cs [] (I ([]:List Int)))=[] by simp[C4,Cs,sortW,AP]]
   exact sv m0 28 [] (.c (db J)<|.k<|.n<|.f<|.c (dl []) .r) (_/\Y (0<(I (U vi []):Int))=O/\_/\Q (bt (ai []))) ⟨hb2,rfl,AaN,rfl⟩
  ·have hpos:=List.length_pos_iff.2 h0
   have g3:=AaT w h12 _ 0 rfl hpos
   rw[show Cs w (0+1)=[w.drop 1] by simp[Cs,List.range_succ,fp]] at g3
   generalize C4 (Cs w (I w))=ws at g3⊢
   refine sv m0 28 [] (.c (db J)<|.k<|.n<|.t<|.c (cw (w.drop 1))<|.h (.p (.v (.list [cz (w.drop 1)])))<|.h .g<|.lo [ke 0,ch 3 (.gro 0 1 1),ke 8,ch 9 (di (I w)),ch 10 (di (1:Nat))] ⟨[G (Ab ([w.drop 1].map cz))],[]⟩) (F0 264 [cw w] (db J)/\Y (0<(I (U vi w):Int))=J/\(∀(x:V),x∈U vi w->V.size x=1)/\0<=(0:Int)/\(0:Int)<=(I (U vi w):Int)/\(∀(x:V),x∈U vi w->V.size x=1)/\0<=(fun x=>x.snd) (yt,yu yt (0+1))/\(fun x=>x.snd) (yt,yu yt (0+1))<=(I (U vi w):Int)/\F0 260 [bt (ai [ai [],ai (W (Z ((fun x=>x.snd) (yt,yu yt (0+1)))) (take (I (U vi w)) (U vi w)))])] (cw (W 1 w))/\(∀(τ:St),Aj PP (Oper.mk (G 23) (Op.buildSlice 156 1 #[(0,Operand.tmp 22)]) 156 "word.go:71" #[Edge.mk 9 Ground.data] none) [cw (W 1 w)] τ (bt (ai [cz (W 1 w)])) τ)/\[cz (W 1 w)]≠ []/\(∀(y:V),y∈ [cz (W 1 w)]->V.size y=1)/\Ao 1 24/\Q (bm 0 1 1)/\di (I (U vi w):Int)=di (I w:Int)/\di (yu yt (0+1))=di (↑1:Int)/\cm 1 [] [G [bt (cz (W 1 w))]]=J/\Q [G [bt (cz (W 1 w))]]/\I0 m0 (I bd.H) (dl (U cz ws)) bd [kl pv gi,bh 0,kc pv [1,1,1,1]] (ba 28 [(0,cw w),(3,bm 0 1 1),(8,cw w),(9,di (I w:Int)),(10,di (↑1:Int))]) (bi [G [bt (cz (W 1 w))]] [])) ?_
   have hw1:yt.wrap (0+1)=((0+1:Nat):Int):=by decide
   rw[hw1]
   refine⟨hb2,HC (by rw[H9];omega),Pq w,Ib _,by omega,Pq w,by decide,by show((0+1:Nat):Int)<=_;rw[H9];omega,Lj w (by omega) 0 hpos,fun τ=>Al0 _ τ rfl,by simp,fun y hy=>by rw[HQ.1 hy];rfl,⟨by decide,by decide⟩,rfl,by rw[H9],rfl,rfl,rfl,⟨g3⟩⟩
theorem TV(w:List Int):I (FS w)<=12/\∀v∈FS w,I v<=12:=by
 unfold FS
 split
 ·rename_i h
  have h12:=Pc h
  have hl:=KG (Cs w (I w))
  rw[Jx] at hl
  exact⟨by omega,fun v hv=>NR h12 (((DT _).2 v).1 hv)⟩
 ·exact⟨by decide,by simp⟩
end Go.Proofs.YtfhgjfkleggjfaaGreatDoor

namespace Go.Proofs.YtfhgjfkleggjfaaGreatDoor
open Go.Dv Go.Nv
set_option maxRecDepth 20000
open List (ext_getElem? length_set map_set replicate take zipWith)
open Go.IntKind (u64)
open Go.IntKind renaming wrap → yu, i64 → yt
open List renaming length → I, map → U, drop → W
open Option renaming some → G
open Bool renaming true → J, false → O
open Decidable renaming decide → Y
open Int renaming toNat → Z
open Go.Dv.V renaming list → ai, str → ae, agg → ab, int → aa, ref → bz, fn → bw, nils → bv, bool → bu
open Go.Dv.D renaming v → bt, acc → br, ptr → bq, arr → bo, gro → bm, tup → bl, undef → bk, dagg → bj
open Go.Dv.St renaming mk → bi
open Go.Dv.KI renaming blk → bh
open _root_.ByteArray renaming mk → bf
open Go renaming Operand → x8, Program → x7, TypeId → x6, World → x5, Value → yz, Oper → yy, FuncId → yx, Func → yw, IntKind → yv
theorem NP(k:Nat)(h:k<=1000000):yt.wrap ((k:Int)+1)=((k+1:Nat):Int):=by rw[Al];omega
theorem D1{l:List Int}{x r:Int}(_:0<=x)(h:l[x.toNat]?=G r):(l.map vi)[Z x]?=G (vi r):=by rw[Ir,h];rfl
noncomputable abbrev Ak5:=Tryz.f259
theorem Ye(x:Int):F0 259 [di x] (db (Y (x<0)||Y (x>=6))):=by
 exact sv Ak5 9 [] (.b .r .r) ((Y (x<0)=J->db J=db (Y (x<0)||Y (x>=6)))/\(Y (x<0)=O->db (Y (x>=6))=db (Y (x<0)||Y (x>=6)))) ⟨fun h=>by rw[h];rfl,fun h=>by rw[h];rfl⟩
noncomputable abbrev xx:=Tryz.f250
def rm(rk:List Int):Bool:=Y ((I rk:Int)>=1)&&(Y ((I rk:Int)<=6)&& !(rk.any fun x=>Y (x<0)||Y (x>=6)))
theorem Acc(rk:List Int)(hr:I rk<=1000):F0 250 [cw rk] (db (rm rk)):=by
 rw[rm]
 by_cases h:Y ((I rk:Int)>=1)=J
 ·rw[h,Ij]
  by_cases h2:Y ((I rk:Int)<=6)=J
  ·rw[h2,Ij]
   exact sv xx 16 [] (.t<|.t<|.c (db (rk.any fun x=>Y (x<0)||Y (x>=6))) .r) (Y ((I (U vi rk):Int)>=1)=J/\Y ((I (U vi rk):Int)<=6)=J/\_/\(db !List.any rk fun x=>Y (x<0)||Y (x>=6))=db !List.any rk fun x=>Y (x<0)||Y (x>=6)) ⟨by rw[H9];exact h,by rw[H9];exact h2,Ez 259 [] [] (fun x=>Y (x<0)||Y (x>=6)) rk (by omega) (fun x _=>Ye x),rfl⟩
  ·rw[HM h2,Ih]
   exact sv xx 16 [] (.t<|.f .r) (Y ((I (U vi rk):Int)>=1)=J/\Y ((I (U vi rk):Int)<=6)=O/\Q (db O)) ⟨by rw[H9];exact h,by rw[H9];exact HM h2,rfl⟩
 ·rw[HM h,Ih]
  exact sv xx 16 [] (.f .r) (Y ((I (U vi rk):Int)>=1)=O/\Q (db O)) ⟨by rw[H9];exact HM h,rfl⟩
noncomputable abbrev Ak2:=Tryz.f251
theorem XR(rk:List Int)(x:Int):F0 251 [di x,.v (.ref (cz rk))] (db (Y (x<0)||Y (x>=I rk))):=by
 exact sv Ak2 12 [] (.b .r .r) ((Y (x<0)=J->db J=db (Y (x<0)||Y (x>=(I rk:Int))))/\(Y (x<0)=O->db (Y (x>=(I (U vi rk):Int)))=db (Y (x<0)||Y (x>=(I rk:Int))))) ⟨fun h=>by rw[h];rfl,fun h=>by rw[h,H9];rfl⟩
noncomputable abbrev xw:=Tryz.f232
def m4(rk w:List Int):Bool:=rm rk&&(Y ((I w:Int)<=12)&& !(w.any fun x=>Y (x<0)||Y (x>=I rk)))
theorem AbZ(rk w:List Int)(hr:I rk<=1000)(hw:I w<=1000):F0 232 [cw rk,cw w] (db (m4 rk w)):=by
 have hb:=Acc rk hr
 rw[m4]
 cases hv:rm rk with
 |false=>
  rw[hv] at hb
  exact sv xw 18 [2] (.c (db O) .r) (_/\db O=db (false&&(Y ((I w:Int)<=12)&& !List.any w fun x=>Y (x<0)||Y (x>=(I rk:Int))))) ⟨hb,rfl⟩
 |true=>
  rw[hv] at hb
  rw[Ij]
  by_cases h:Y ((I w:Int)<=12)=J
  ·rw[h,Ij]
   exact sv xw 18 [2] (.c (db J)<|.k<|.t<|.c (db (w.any fun x=>Y (x<0)||Y (x>=I rk))) .r) (_/\Y ((I (U vi w):Int)<=12)=J/\_/\(db !List.any w fun x=>Y (x<0)||Y (x>=(I rk:Int)))=db !List.any w fun x=>Y (x<0)||Y (x>=(I rk:Int))) ⟨hb,by rw[H9];exact h,Ez 251 [] [.ref (cz rk)] (fun x=>Y (x<0)||Y (x>=I rk)) w (by omega) (fun x _=>XR rk x),rfl⟩
  ·rw[HM h,Ih]
   exact sv xw 18 [2] (.c (db J)<|.k<|.f .r) (_/\Y ((I (U vi w):Int)<=12)=O/\Q (db O)) ⟨hb,by rw[H9];exact HM h,rfl⟩
theorem MN{rk w:List Int}(hv:m4 rk w=J):I w<=12/\∀x∈w,0<=x/\x<I rk:=by
 unfold m4 at hv
 simp only[HB,I2] at hv
 refine⟨by have:=HL hv.2.1;omega,fun x hx=>?_⟩
 have:=List.any_eq_false.1 hv.2.2 x hx
 simp at this;omega
noncomputable abbrev lg:=Tryz.f254
noncomputable def TB:=yl lg
def pc(rk w:List Int)(i:Nat):Bool:=Y (rk.getD (w.getD i 0).toNat 0<=rk.getD (w.getD (i+1) 0).toNat 0)
def Ca(rk w:List Int)(k:Nat):List (List Int):=((List.range k).filter (pc rk w)).map (fp w)
theorem LI{rk w:List Int}{k:Nat}(h:pc rk w k=J):Ca rk w (k+1)=Ca rk w k++[w.take k++w.drop (k+1)]:=by simp[Ca,List.range_succ,h,fp]
theorem Ot{rk w:List Int}{k:Nat}(h:pc rk w k=O):Ca rk w (k+1)=Ca rk w k:=by simp[Ca,List.range_succ,h]
theorem LJ(rk w:List Int)(k:Nat):I (Ca rk w k)<=k:=by
 have:=List.length_filter_le (pc rk w) (List.range k)
 rw[List.length_range] at this
 rw[Ca,H9];exact this
theorem Ou{rk w:List Int}(hw:I w<=12){k:Nat}{v:List Int}(h:v∈Ca rk w k):I v<=12:=by
 obtain⟨i,_,rfl⟩:=Is.1 h
 have:=OK w i;omega
theorem xn{rk w:List Int}{k:Nat}{x y rx ry:Int}(h1:w[k]?=G x)(h2:w[k+1]?=G y)(h3:rk[x.toNat]?=G rx)(h4:rk[y.toNat]?=G ry):pc rk w k=Y (rx<=ry):=by
 simp only[pc,HI,h1,h2,h3,h4,IZ]
def FU(rk w:List Int):List (List Int):=if m4 rk w=J then C4 (Ca rk w (I w-1)) else[]
theorem UQ(rk w:List Int):I (FU rk w)<=12/\∀v∈FU rk w,I v<=12:=by
 unfold FU
 split
 ·rename_i h
  have h12:=(MN h).1
  have hl:=KG (Ca rk w (I w-1))
  have:=LJ rk w (I w-1)
  exact⟨by omega,fun v hv=>Ou h12 (((DT _).2 v).1 hv)⟩
 ·exact⟨by decide,by simp⟩
noncomputable abbrev ec:=fun (a₀:Nat)=>(yt,(a₀:Int))
noncomputable abbrev me:=fun a₀=>[ke 0,ke 1,ke 5,ch 6 (di (a₀+1:Nat))]
noncomputable abbrev se:=[kl TB gi,bh 0,kc TB [1,1,1,1]]
theorem Acg(rk w:List Int)(hw:I w<=12)(hx:∀x∈w,0<=x/\x<I rk)(n:Nat):∀(k m:Nat) (outs:List (List Int)),I w-k=n->I outs=m+1->k+1<=I w->outs=Ca rk w k->
  Rn PP lg 0 (dl ((C4 (Ca rk w (I w-1))).map cz)) bd ([kl TB [1,1,1,0,1,0,0],.blk 0,kc TB [1,1,1,1]]++[]) (ba 50 [(0,cw rk),(1,cw w),(5,.gro 0 (m+1) 1),(6,di k)]) ⟨[G (Ab (outs.map cz))],[]⟩:=by
 induction n using Nat.strongRecOn with
 |_ n ih=>
 intro k m outs hn ho hkw houts
 have hm:=LJ rk w k
 rw[←houts,ho] at hm
 by_cases hk:k+1<I w
 ·obtain⟨x,hx1⟩:=yk (show k<I w by omega)
  obtain⟨y,hy1⟩:=yk (show k+1<I w by omega)
  have bx:=hx x (HG hx1)
  have bY:=hx y (HG hy1)
  obtain⟨rx,hrx⟩:=yk (show x.toNat<I rk by omega)
  obtain⟨ry,hry⟩:=yk (show y.toNat<I rk by omega)
  have hpc:=xn hx1 hy1 hrx hry
  by_cases hc:Y (rx<=ry)=J
  ·have g3:=ih (I w- (k+1)) (by omega) (k+1) (m+1) (outs++[w.take k++w.drop (k+1)]) rfl (by simp[ho]) (by omega) (by rw[houts];exact(LI (hpc.trans hc)).symm)
   generalize C4 (Ca rk w (I w-1))=ws at g3⊢
   clear houts
   refine lv 50 [] (.t<|.x (vi x)<|.x (vi rx)<|.x (vi y)<|.x (vi ry)<|.t<|.c (cw (w.take k++w.drop (k+1)))<|.lo [ke 0,ke 1,ch 5 (.gro 1 (m+1+1) 1),ch 6 (di (k+1:Nat))] ⟨[none,G (Ab ((outs++[w.take k++w.drop (k+1)]).map cz))],[]⟩) (Y (yu yt ((k:Int)+1)<(I (U vi w):Int))=J/\0<=(k:Int)/\(U vi w)[Z (k:Int)]?=G (vi x)/\0<=x/\(U vi rk)[Z x]?=G (vi rx)/\0<=yu yt ((k:Int)+1)/\(U vi w)[Z (yu yt ((k:Int)+1))]?=G (vi y)/\0<=y/\(U vi rk)[Z y]?=G (vi ry)/\Y (rx<=ry)=J/\(∀(x:V),x∈U vi w->V.size x=1)/\0<=(fun x=>x.snd) (ec k)/\(fun x=>x.snd) (ec k)<=(I (U vi w):Int)/\(∀(x:V),x∈U vi w->V.size x=1)/\0<=(fun x=>x.snd) (yt,yu yt ((k:Int)+1))/\(fun x=>x.snd) (yt,yu yt ((k:Int)+1))<=(I (U vi w):Int)/\F0 260 [bt (ai [ai (W 0 (take (Z ((fun x=>x.snd) (ec k))) (U vi w))),ai (W (Z ((fun x=>x.snd) (yt,yu yt ((k:Int)+1)))) (take (I (U vi w)) (U vi w)))])] (cw (take k w++W (k+1) w))/\I (fk outs)=(m+1)*1/\[cz (take k w++W (k+1) w)]≠ []/\(∀(y:V),y∈ [cz (take k w++W (k+1) w)]->V.size y=1)/\Ao (m+1+I (cz (take k w++W (k+1) w)::nV)) 24/\bm 1 (m+1+I (cz (take k w++W (k+1) w)::nV)) 1=bm 1 (m+1+1) 1/\di (yu yt ((k:Int)+1))=di (↑(k+1):Int)/\cm 2 [] [none,G (Ab (U cz outs)++[bt (cz (take k w++W (k+1) w))])]=J/\[none,G (Ab (U cz outs)++[bt (cz (take k w++W (k+1) w))])]=[none,G (Ab (U cz (outs++[take k w++W (k+1) w])))]/\I0 lg 0 (dl (U cz ws)) bd se (ba 50 [(0,cw rk),(1,cw w),(5,bm 1 (m+1+1) 1),(6,di (↑(k+1):Int))]) (bi [none,G (Ab (U cz (outs++[take k w++W (k+1) w])))] [])) ?_
   rw[NP k (by omega),MY]
   refine⟨HC (by rw[H9];omega),by omega,Am hx1,bx.1,D1 bx.1 hrx,by omega,Am hy1,bY.1,D1 bY.1 hry,hc,Pq w,by show(0:Int)<=(k:Int);omega,by show(k:Int)<=_;rw[H9];omega,Pq w,by show(0:Int)<=((k+1:Nat):Int);omega,by show((k+1:Nat):Int)<=_;rw[H9];omega,Lj w (by omega) k (by omega),by rw[Pa,ho],by simp,fun y hy=>by rw[HQ.1 hy];rfl,⟨by simp only[HF,HJ];omega,by simp only[HF,HJ];omega⟩,rfl,rfl,?_,rfl,⟨?_⟩⟩
   ·simp[cm,D.okNs,D.okN,Ak]
   ·refine Ep (H0:=[none]) (fun E0 E h=>h.2) 1 rfl (fun cs hc=>?_) ?_ ?_ g3
    ·simp at hc;rw[hc];exact A3 _
    ·simp[ba,D.okNs,D.okN]
    ·simp[ba,D.rens,D.ren]
  ·have g3:=ih (I w- (k+1)) (by omega) (k+1) m outs rfl ho (by omega) (by rw[houts];exact(Ot (hpc.trans (HM hc))).symm)
   generalize C4 (Ca rk w (I w-1))=ws at g3⊢
   clear houts
   refine lv 50 [] (.t<|.x (vi x)<|.x (vi rx)<|.x (vi y)<|.x (vi ry)<|.f<|.lo (me k) ⟨[G (Ab (outs.map cz))],[]⟩) (Y (yu yt ((k:Int)+1)<(I (U vi w):Int))=J/\0<=(k:Int)/\(U vi w)[Z (k:Int)]?=G (vi x)/\0<=x/\(U vi rk)[Z x]?=G (vi rx)/\0<=yu yt ((k:Int)+1)/\(U vi w)[Z (yu yt ((k:Int)+1))]?=G (vi y)/\0<=y/\(U vi rk)[Z y]?=G (vi ry)/\Y (rx<=ry)=O/\di (yu yt ((k:Int)+1))=di (↑(k+1):Int)/\cm 1 [] [G (fk outs)]=J/\Q [G (fk outs)]/\I0 lg 0 (dl (U cz ws)) bd se (ba 50 [(0,cw rk),(1,cw w),(5,bm 0 (m+1) 1),(6,di (↑(k+1):Int))]) (jq outs)) ?_
   rw[NP k (by omega)]
   exact⟨HC (by rw[H9];omega),by omega,Am hx1,bx.1,D1 bx.1 hrx,by omega,Am hy1,bY.1,D1 bY.1 hry,HM hc,rfl,HS.2 ⟨Ak 1 [] _,rfl⟩,rfl,⟨g3⟩⟩
 ·have hlen:I (sortW outs)=I outs:=(D3 outs).length_eq
  have hs:∀v∈outs,I v<=12:=fun v hv=>by rw[houts] at hv;exact Ou hw hv
  obtain⟨R,h3,h5,h4⟩:=AeL 167 (sortW outs) lb (by omega) (fun x hx y hy=>Eb x y (by have:=hs x ((D3 outs).mem_iff.1 hx);omega))
  rw[hlen,ho] at h4
  rw[show I w-1=k by omega, ←houts]
  obtain⟨ys,hys⟩:∃ys,ys=C4 outs:=⟨_,rfl⟩
  rw[show AP lb (sortW outs)=C4 outs from rfl, ←hys] at h4
  rw[←hys]
  refine lv 50 [] (.f<|.h (.q 9 0)<|.h (.ga 5)<|.h (.oc (.tup []) ⟨[G (Ab ((sortW outs).map cz))],[]⟩)<|.h (.oc (.arr 0 0 (I ys)) ⟨[G (Ab (ys.map cz)++R)],[]⟩)<|.h (.q 10 2)<|.h (.ct 49 (dl (ys.map cz)) ⟨[none],[]⟩) .r) (Y (yu yt ((k:Int)+1)<(I (U vi w):Int))=O/\(N0 [bt (bw 261 [] []),bo 0 0 (m+1),bt wt] (jq outs) (bl []) (sa outs))/\(N0 [bt (bw 263 [] []),bo 0 0 (m+1),bt wv] (sa outs) (bo 0 0 (I ys)) (lz ys R))/\(∀(e:List D),e[49]?=G (bo 0 0 (I ys))->∀(E:cf) (g:Gh) (a:Act) (w:x5),FI E g (lz ys R) e a w->∃g',FI E g' (bi [none] []) (List.set e 49 (dl (U cz ys))) a w)/\bt (j1 ys)=dl (U cz ys)) ?_
  rw[NP k (by omega)]
  have hsp:=MF Sd outs (by omega) (fun v hv=>by have:=hs v hv;omega)
  rw[ho] at hsp
  refine⟨HE (by rw[H9];omega),fun o cl fo hop hc=>?_,fun o cl fo hop hc=>?_,fun e he=>?_,rfl⟩
  ·exact Dd (H:=[Ab (outs.map cz)]) hop hc (fs:=[]) (cs:=[]) (ds:=[.arr 0 0 (m+1),dfn 262]) rfl hsp rfl (fun cs hm=>by rw[HQ.1 hm];exact⟨Ak _ _ _,M2 _⟩) rfl (HS.2 ⟨Ak _ _ _,rfl⟩) (HH _)
  ·exact Dd (H:=[Ab ((sortW outs).map cz)]) hop hc (fs:=[]) (cs:=[]) (ds:=[.arr 0 0 (m+1),dfn 167]) rfl h4 rfl (fun cs hm=>by rw[HQ.1 hm];exact⟨Ak _ _ _,M2 _⟩) rfl (HS.2 ⟨AS (M1 _ h3),rfl⟩) (HH _)
  ·exact RC (σ:=⟨[G (Ab (ys.map cz)++R)],[]⟩) (q:=0) (sz:=1) (rest:=R) (by decide) (fun x hx=>by obtain⟨y,_,rfl⟩:=Is.1 hx;rfl) (by rw[H9]) rfl he
theorem Yi(rk w:List Int)(hw:I w<=12)(hx:∀x∈w,0<=x/\x<I rk)(n:Nat):∀(k:Nat),I w-k=n->(k=0∨k+1<=I w)->Ca rk w k=[]->
  Rn PP lg 0 (dl ((C4 (Ca rk w (I w-1))).map cz)) bd ([kl TB [1,1,1,0,1,0,0],.blk 0,kc TB [1,1,1,1]]++[]) (ba 50 [(0,cw rk),(1,cw w),(5,.v .nils),(6,di k)]) bd:=by
 induction n using Nat.strongRecOn with
 |_ n ih=>
 intro k hn hkw houts
 by_cases hk:k+1<I w
 ·obtain⟨x,hx1⟩:=yk (show k<I w by omega)
  obtain⟨y,hy1⟩:=yk (show k+1<I w by omega)
  have bx:=hx x (HG hx1)
  have bY:=hx y (HG hy1)
  obtain⟨rx,hrx⟩:=yk (show x.toNat<I rk by omega)
  obtain⟨ry,hry⟩:=yk (show y.toNat<I rk by omega)
  have hpc:=xn hx1 hy1 hrx hry
  by_cases hc:Y (rx<=ry)=J
  ·have g3:=Acg rk w hw hx (I w- (k+1)) (k+1) 0 [w.take k++w.drop (k+1)] rfl rfl (by omega) (by rw[LI (hpc.trans hc),houts];rfl)
   generalize C4 (Ca rk w (I w-1))=ws at g3⊢
   refine lv 50 [] (.t<|.x (vi x)<|.x (vi rx)<|.x (vi y)<|.x (vi ry)<|.t<|.c (cw (w.take k++w.drop (k+1)))<|.h (.p (.v (.list [cz (w.take k++w.drop (k+1))])))<|.h .g<|.lo [ke 0,ke 1,ch 5 (.gro 0 1 1),ch 6 (di (k+1:Nat))] ⟨[G (Ab ([w.take k++w.drop (k+1)].map cz))],[]⟩) (Y (yu yt ((k:Int)+1)<(I (U vi w):Int))=J/\0<=(k:Int)/\(U vi w)[Z (k:Int)]?=G (vi x)/\0<=x/\(U vi rk)[Z x]?=G (vi rx)/\0<=yu yt ((k:Int)+1)/\(U vi w)[Z (yu yt ((k:Int)+1))]?=G (vi y)/\0<=y/\(U vi rk)[Z y]?=G (vi ry)/\Y (rx<=ry)=J/\(∀(x:V),x∈U vi w->V.size x=1)/\0<=(fun x=>x.snd) (ec k)/\(fun x=>x.snd) (ec k)<=(I (U vi w):Int)/\(∀(x:V),x∈U vi w->V.size x=1)/\0<=(fun x=>x.snd) (yt,yu yt ((k:Int)+1))/\(fun x=>x.snd) (yt,yu yt ((k:Int)+1))<=(I (U vi w):Int)/\F0 260 [bt (ai [ai (W 0 (take (Z ((fun x=>x.snd) (ec k))) (U vi w))),ai (W (Z ((fun x=>x.snd) (yt,yu yt ((k:Int)+1)))) (take (I (U vi w)) (U vi w)))])] (cw (take k w++W (k+1) w))/\(∀(τ:St),Aj PP (Oper.mk (G 44) (Op.buildSlice 156 1 #[(0,Operand.tmp 43)]) 156 "priority.go:29" #[Edge.mk 9 Ground.data] none) [cw (take k w++W (k+1) w)] τ (bt (ai [cz (take k w++W (k+1) w)])) τ)/\[cz (take k w++W (k+1) w)]≠ []/\(∀(y:V),y∈ [cz (take k w++W (k+1) w)]->V.size y=1)/\Ao 1 24/\Q (bm 0 1 1)/\di (yu yt ((k:Int)+1))=di (↑(k+1):Int)/\cm 1 [] [G [bt (cz (take k w++W (k+1) w))]]=J/\Q [G [bt (cz (take k w++W (k+1) w))]]/\I0 lg 0 (dl (U cz ws)) bd se (ba 50 [(0,cw rk),(1,cw w),(5,bm 0 1 1),(6,di (↑(k+1):Int))]) (bi [G [bt (cz (take k w++W (k+1) w))]] [])) ?_
   rw[NP k (by omega)]
   exact⟨HC (by rw[H9];omega),by omega,Am hx1,bx.1,D1 bx.1 hrx,by omega,Am hy1,bY.1,D1 bY.1 hry,hc,Pq w,by show(0:Int)<=(k:Int);omega,by show(k:Int)<=_;rw[H9];omega,Pq w,by show(0:Int)<=((k+1:Nat):Int);omega,by show((k+1:Nat):Int)<=_;rw[H9];omega,Lj w (by omega) k (by omega),fun τ=>Al0 _ τ rfl,by simp,fun y hy=>by rw[HQ.1 hy];rfl,⟨by decide,by decide⟩,rfl,rfl,rfl,rfl,⟨g3⟩⟩
  ·have g3:=ih (I w- (k+1)) (by omega) (k+1) rfl (by omega) (by rw[Ot (hpc.trans (HM hc))];exact houts)
   generalize C4 (Ca rk w (I w-1))=ws at g3⊢
   refine lv 50 [] (.t<|.x (vi x)<|.x (vi rx)<|.x (vi y)<|.x (vi ry)<|.f<|.l (me k)) (Y (yu yt ((k:Int)+1)<(I (U vi w):Int))=J/\0<=(k:Int)/\(U vi w)[Z (k:Int)]?=G (vi x)/\0<=x/\(U vi rk)[Z x]?=G (vi rx)/\0<=yu yt ((k:Int)+1)/\(U vi w)[Z (yu yt ((k:Int)+1))]?=G (vi y)/\0<=y/\(U vi rk)[Z y]?=G (vi ry)/\Y (rx<=ry)=O/\di (yu yt ((k:Int)+1))=di (↑(k+1):Int)/\I0 lg 0 (dl (U cz ws)) bd se (ba 50 [(0,cw rk),(1,cw w),(5,dn),(6,di (↑(k+1):Int))]) dh) ?_
   rw[NP k (by omega)]
   exact⟨HC (by rw[H9];omega),by omega,Am hx1,bx.1,D1 bx.1 hrx,by omega,Am hy1,bY.1,D1 bY.1 hry,HM hc,rfl,⟨g3⟩⟩
 ·have e:C4 (Ca rk w (I w-1))=[]:=by
   rw[show Ca rk w (I w-1)=[] by rw[show I w-1=k by omega];exact houts]
   simp[C4,sortW,AP]
  rw[e]
  refine lv 50 [] (.f<|.c (.tup [])<|.c (dl []) .r) (Y (yu yt ((k:Int)+1)<(I (U vi w):Int))=O/\Aq7/\Aq8/\bt (ai [])=dl (U cz [])) ?_
  refine⟨?_,Pt,Aa6 _,rfl⟩
  rw[H9,NP k (by omega)];exact yq
theorem Acf(rk w:List Int)(hr:I rk<=1000)(hw:I w<=1000):F0 254 [cw rk,cw w] (dl ((FU rk w).map cz)):=by
 have hb2:=AbZ rk w hr hw
 unfold FU
 cases hv:m4 rk w with
 |false=>
  rw[hv] at hb2
  rw[HR (by decide)]
  exact sv lg 50 [] (.c (db O) .r) (_/\Q (bt (ai []))) ⟨hb2,rfl⟩
 |true=>
  rw[hv] at hb2
  rw[HV rfl]
  obtain⟨h12,hx⟩:=MN hv
  have g3:=Yi rk w h12 hx _ 0 rfl (.inl rfl) rfl
  generalize C4 (Ca rk w (I w-1))=ws at g3⊢
  exact sv lg 50 [] (.c (db J)<|.k<|.l [ke 0,ke 1,ke 5,ch 6 (di (0:Nat))]) (_/\Q (di 0)/\_) ⟨hb2,rfl,iK g3⟩
def FR(L:Int)(v:bc):Prop:=∃ks:List Int,I ks<=2/\(∀x∈ks,0<=x/\x<L)/\v=.mk 0 (ks.map fun x=>.mk x [])
theorem FR.size{L:Int}{v:bc}(h:FR L v):v.size<=3:=by
 obtain⟨ks,h1,_,rfl⟩:=h
 simp only[bc.size,J1];omega
theorem ZC{H:List (Option (List D))}{own:List (Nat×Nat×List V)}{q tag:Nat}{xs:List V}(hq:H[q]?=G (G [di 0,.acc tag xs]))(e:List D):Cv e ⟨H,own⟩ e ⟨H.set q (G [di 0,dl xs]),own⟩:=
 Ec (σ:=⟨H,own⟩) (q:=q) hq (fun g us hr=>by
  have:=CV (ts:=[]) (kn:=false) hr
  exact this) (fun _ x hx=>by
  simp only[Iq,Ji,or_false] at hx
  rcases hx with rfl|rfl<;>rfl) e
theorem Adv{H:List (Option (List D))}{own:List (Nat×Nat×List V)}{q:Nat}(hq:H[q]?=G (G [di 0,.v .nils]))(e:List D):Cv e ⟨H,own⟩ e ⟨H.set q (G [di 0,dl []]),own⟩:=
 Ec (σ:=⟨H,own⟩) (q:=q) hq (fun g us hr=>by
  have:=CV (ts:=[]) (kn:=false) hr
  exact this) (fun _ x hx=>by
  simp only[Iq,Ji,or_false] at hx
  rcases hx with rfl|rfl<;>rfl) e
theorem JZ(os:List bc)(v:bc):os.map eV++[Ac v]=(os++[v]).map eV:=by rw[←AE];simp
noncomputable abbrev pj:=Tryz.f39
noncomputable def mn:=yl pj
abbrev kj(l:List UInt8)(a:Nat)(os:List bc):St:=⟨[G (cr l a)],[(1,2,os.map eV)]⟩
noncomputable abbrev gf:=(aa yt 0)
noncomputable abbrev wo:=fun (a₀:Nat) b₀ c₀ d₀ (e₀:Nat)=>(ba 40 [gd,(1,di (a₀:Int)),(2,di b₀),(3,di 2),(9,br 1 (U eV (c₀++[d₀]))),(10,di (↑(e₀+1):Int))])
noncomputable abbrev s7:=fun a₀=>[ab [aa yt a₀,ai []]]
noncomputable abbrev wq:=fun a₀ b₀ c₀ d₀ e₀=>Aa PP 7 [bq 0 0,di a₀] (dz b₀ c₀) (di d₀) (dz b₀ e₀)
theorem AaR(l:List UInt8)(hl:I l<=200)(n:Nat)(hn:n<=100)(L:Int)(hL:1<=L)(hL2:L<=100)(N:Nat):∀(k a:Nat) (os:List bc),n-k=N->k<=n->a<=I l->I os=k->(∀y∈os,FR L y)->
  ∃(ys:List bc) (a':Nat),a'<=I l/\ys.length=n/\(∀y∈ys,FR L y)/\
  Rn PP pj 1 (cx ys) (dz l a') ([kl mn [1,1,0,1,0,0],.blk 0,kc mn [1,1,1]]++[]) (ba 40 [(0,.ptr 0 0),(1,di n),(2,di L),(3,di 2),(9,.acc 1 (os.map eV)),(10,di k)]) (kj l a os):=by
 induction N with
 |zero=>
  intro k a os hk hk0 ha hx hos
  refine⟨os,a,ha,by omega,hos,?_⟩
  exact lv 40 [] (.f .r) (Y ((k:Int)<(n:Int))=O/\Q [G (cr l a)]/\Q (cx os)) ⟨yq,rfl,rfl⟩
 |succ N ih=>
  intro k a os hk hk0 ha hx hos
  obtain⟨r,a1,h1,h2,h3,h4⟩:=A2 l hl a ha 3 (by decide) (by decide)
  have hmem:∀(w:bc),FR L w->∀y∈os++[w],FR L y:=fun w hw y hy=>by
   rcases Ix.1 hy with hy|hy
   ·exact hos y hy
   ·rw[HQ.1 hy];exact hw
  have hkn:Y ((k:Int)<n)=J:=yr
  rcases(show r=0∨r=1∨r=2 by omega) with rfl|rfl|rfl
  ·obtain⟨w,hw⟩:∃w:bc,w=.mk 0 []:=⟨_,rfl⟩
   obtain⟨ys,a',y1,y2,y3,y4⟩:=ih (k+1) a1 (os++[w]) (by omega) (by omega) h3 (by simp[hx]) (hmem _ ⟨[],by simp,by simp,hw⟩)
   refine⟨ys,a',y1,y2,y3,?_⟩
   refine lv 40 [] (.t<|.c1 (cr l a1) (di 0)<|.n<|.h (.q 10 1)<|.h (.cs ⟨[G (cr l a1),G [di 0,dl []]],[(1,2,os.map eV)]⟩)<|.ls [ke 0,ke 1,ke 2,ke 3,ch 9 (.acc 1 ((os++[w]).map eV)),ch 10 (di (k+1:Nat))] (kj l a1 (os++[w]))) (Y ((k:Int)<(n:Int))=J/\Aa PP 7 [bq 0 0,di (yu yt (2+1))] (dz l a) (di 0) (dz l a1)/\(∀(e:List D) (E:cf) (g:Gh) (a:Act) (w:x5),FI E g (bi [G (cr l a1),G [bt gf,dn]] [(1,2,U eV os)]) e a w->∃g',FI E g' (bi [G (cr l a1),G [di 0,dl []]] [(1,2,U eV os)]) e a w)/\Q (U eV os)/\Ao (I (U eV os)+I (ab (aa yt 0::ai nV::nV)::nV)) 32/\br 1 (U eV os++[ab [vi 0,ai []]])=br 1 (U eV (os++[w]))/\di (yu yt ((k:Int)+1))=di (↑(k+1):Int)/\Q [G (cr l a1)]/\[(1,2,U eV os++ab (vi 0::ai nV::nV)::nV)]=[(1,2,U eV (os++[w]))]/\I0 pj 1 (cx ys) (dz l a') [kl mn d5,bh 0,kc mn [1,1,1]] (wo n L os w k) (kj l a1 (os++[w]))) ?_
   have hv:ab [vi 0,.list []]=Ac w:=by rw[hw];rfl
   rw[show yt.wrap (2+1)=3 from by decide]
   repeat' first|with_reducible refine And.intro ?_ ?_
   all_goals first|exact hkn|exact h4|exact Ae|exact⟨y4⟩|(simp only[H9,HF,HJ];omega)|rfl|trivial|skip
   ·exact fun e=>Adv (H:=[G (cr l a1),G [di 0,.v .nils]]) (own:=[(1,2,os.map eV)]) (q:=1) rfl e
   ·exact HX (br 1) ((HX (fun z=>os.map eV++[z]) hv).trans (JZ os w))
   ·exact HX (fun z=>[(1,2,z)]) ((HX (fun z=>os.map eV++[z]) hv).trans (JZ os w))
  ·obtain⟨x1,a2,x11,x12,x13,x14⟩:=A2 l hl a1 h3 L hL (by omega)
   obtain⟨w,hw⟩:∃w:bc,w=.mk 0 [.mk x1 []]:=⟨_,rfl⟩
   obtain⟨ys,a',y1,y2,y3,y4⟩:=ih (k+1) a2 (os++[w]) (by omega) (by omega) x13 (by simp[hx]) (hmem _ ⟨[x1],by simp,by simp[x11,x12],hw⟩)
   refine⟨ys,a',y1,y2,y3,?_⟩
   refine lv 40 [] (.t<|.c1 (cr l a1) (di 1)<|.h (.q 6 4)<|.h (.cl 1 1 2 2)<|.n<|.m (.acc 2 [])<|.c1 (cr l a2) (di x1)<|.n<|.h (.q 10 1)<|.h (.cs ⟨[G (cr l a2),G [di 0,dl [eV (.mk x1 [])]]],[(2,2,[eV (.mk x1 [])]),(1,2,os.map eV)]⟩)<|.ls [ke 0,ke 1,ke 2,ke 3,ch 9 (.acc 1 ((os++[w]).map eV)),ch 10 (di (k+1:Nat))] (kj l a2 (os++[w]))) (Y ((k:Int)<(n:Int))=J/\Aa PP 7 [bq 0 0,di (yu yt (2+1))] (dz l a) (di 1) (dz l a1)/\Q (G (br 2 []))/\wq L l a1 x1 a2/\Q nV/\Ao 1 32/\((Q (G [br 2 []])/\True)/\True)/\(∀(e:List D) (E:cf) (g:Gh) (a:Act) (w:x5),FI E g (bi [G (cr l a2),G [bt gf,br 2 ([]++(s7 x1))]] [(2,2,[]++(s7 x1)),(1,2,U eV os)]) e a w->∃g',FI E g' (bi [G (cr l a2),G [di 0,dl [eV (fz x1)]]] [(2,2,[eV (fz x1)]),(1,2,U eV os)]) e a w)/\Q (U eV os)/\Ao (I (U eV os)+I (ab (aa yt 0::ai (eV (fz x1)::nV)::nV)::nV)) 32/\br 1 (U eV os++[ab [vi 0,ai [eV (fz x1)]]])=br 1 (U eV (os++[w]))/\di (yu yt ((k:Int)+1))=di (↑(k+1):Int)/\Q [G (cr l a2)]/\[(1,2,U eV os++ab (vi 0::ai (eV (fz x1)::nV)::nV)::nV)]=[(1,2,U eV (os++[w]))]/\I0 pj 1 (cx ys) (dz l a') [kl mn d5,bh 0,kc mn [1,1,1]] (wo n L os w k) (kj l a2 (os++[w]))) ?_
   have hv:ab [vi 0,.list [eV (.mk x1 [])]]=Ac w:=by rw[hw];rfl
   rw[show yt.wrap (2+1)=3 from by decide]
   repeat' first|with_reducible refine And.intro ?_ ?_
   all_goals first|exact hkn|exact h4|exact x14|exact MT (by decide) (by decide)|exact⟨by decide,by decide⟩|exact Ae|exact⟨y4⟩|(simp only[H9,HF,HJ];omega)|rfl|trivial|skip
   ·exact fun e=>ZC (H:=[G (cr l a2),G [di 0,.acc 2 [eV (.mk x1 [])]]]) (own:=[(2,2,[eV (.mk x1 [])]),(1,2,os.map eV)]) (q:=1) rfl e
   ·exact HX (br 1) ((HX (fun z=>os.map eV++[z]) hv).trans (JZ os w))
   ·exact HX (fun z=>[(1,2,z)]) ((HX (fun z=>os.map eV++[z]) hv).trans (JZ os w))
  ·obtain⟨x1,a2,x11,x12,x13,x14⟩:=A2 l hl a1 h3 L hL (by omega)
   obtain⟨x2,a3,x21,x22,x23,x24⟩:=A2 l hl a2 x13 L hL (by omega)
   obtain⟨w,hw⟩:∃w:bc,w=.mk 0 [.mk x1 [],.mk x2 []]:=⟨_,rfl⟩
   obtain⟨ys,a',y1,y2,y3,y4⟩:=ih (k+1) a3 (os++[w]) (by omega) (by omega) x23 (by simp[hx]) (hmem _ ⟨[x1,x2],by simp,by simp[x11,x12,x21,x22],hw⟩)
   refine⟨ys,a',y1,y2,y3,?_⟩
   refine lv 40 [] (.t<|.c1 (cr l a1) (di 2)<|.h (.q 6 4)<|.h (.cl 1 1 2 2)<|.n<|.m (.acc 2 [])<|.c1 (cr l a2) (di x1)<|.n<|.m (.acc 2 [eV (.mk x1 [])])<|.c1 (cr l a3) (di x2)<|.n<|.h (.q 10 1)<|.h (.cs ⟨[G (cr l a3),G [di 0,dl [eV (.mk x1 []),eV (.mk x2 [])]]],[(2,2,[eV (.mk x1 []),eV (.mk x2 [])]),(1,2,os.map eV)]⟩)<|.ls [ke 0,ke 1,ke 2,ke 3,ch 9 (.acc 1 ((os++[w]).map eV)),ch 10 (di (k+1:Nat))] (kj l a3 (os++[w]))) (Y ((k:Int)<(n:Int))=J/\Aa PP 7 [bq 0 0,di (yu yt (2+1))] (dz l a) (di 2) (dz l a1)/\Q (G (br 2 []))/\wq L l a1 x1 a2/\Q nV/\Ao 1 32/\((Q (G [br 2 []])/\True)/\True)/\G (br 2 [ab [vi x1,ai []]])=G (br 2 [eV (fz x1)])/\wq L l a2 x2 a3/\ab (gn x1)::nV=eV (fz x1)::nV/\Ao 2 32/\((Q (G [br 2 [ab [vi x1,ai []]]])/\True)/\True)/\(∀(e:List D) (E:cf) (g:Gh) (a:Act) (w:x5),FI E g (bi [G (cr l a3),G [bt gf,br 2 ([eV (fz x1)]++(s7 x2))]] [(2,2,[eV (fz x1)]++(s7 x2)),(1,2,U eV os)]) e a w->∃g',FI E g' (bi [G (cr l a3),G [di 0,dl [eV (fz x1),eV (fz x2)]]] [(2,2,[eV (fz x1),eV (fz x2)]),(1,2,U eV os)]) e a w)/\Q (U eV os)/\Ao (I (U eV os)+I (ab (aa yt 0::ai (eV (fz x1)::eV (fz x2)::nV)::nV)::nV)) 32/\br 1 (U eV os++[ab [vi 0,ai [eV (fz x1),eV (fz x2)]]])=br 1 (U eV (os++[w]))/\di (yu yt ((k:Int)+1))=di (↑(k+1):Int)/\Q [G (cr l a3)]/\[(1,2,U eV os++ab (vi 0::ai (eV (fz x1)::eV (fz x2)::nV)::nV)::nV)]=[(1,2,U eV (os++[w]))]/\I0 pj 1 (cx ys) (dz l a') [kl mn d5,bh 0,kc mn [1,1,1]] (wo n L os w k) (kj l a3 (os++[w]))) ?_
   have hv:ab [vi 0,.list [eV (.mk x1 []),eV (.mk x2 [])]]=Ac w:=by rw[hw];rfl
   rw[show yt.wrap (2+1)=3 from by decide]
   repeat' first|with_reducible refine And.intro ?_ ?_
   all_goals first|exact hkn|exact h4|exact x14|exact x24|exact MT (by decide) (by decide)|exact⟨by decide,by decide⟩|exact Ae|exact⟨y4⟩|(simp only[H9,HF,HJ];omega)|rfl|trivial|skip
   ·exact fun e=>ZC (H:=[G (cr l a3),G [di 0,.acc 2 [eV (.mk x1 []),eV (.mk x2 [])]]]) (own:=[(2,2,[eV (.mk x1 []),eV (.mk x2 [])]),(1,2,os.map eV)]) (q:=1) rfl e
   ·exact HX (br 1) ((HX (fun z=>os.map eV++[z]) hv).trans (JZ os w))
   ·exact HX (fun z=>[(1,2,z)]) ((HX (fun z=>os.map eV++[z]) hv).trans (JZ os w))
theorem Ahb(l:List UInt8)(hl:I l<=200)(a:Nat)(ha:a<=I l)(n:Nat)(hn:n<=100)(L:Int)(hL:1<=L)(hL2:L<=100):
  ∃(ys:List bc) (a':Nat),a'<=I l/\ys.length=n/\(∀y∈ys,FR L y)/\Aa PP 39 [.ptr 0 0,di n,di L,di 2] (dz l a) (cx ys) (dz l a'):=by
 obtain⟨ys,a',h1,h2,h3,h4⟩:=AaR l hl n hn L hL hL2 _ 0 a [] rfl (by omega) ha rfl (by simp)
 refine⟨ys,a',h1,h2,h3,?_⟩
 exact sv pj 40 [] (.h (.q 2 0)<|.h (.nw 9 1 2)<|.ls [ke 0,ke 1,ke 2,ke 3,ke 9,ch 10 (di (0:Nat))] (kj l a [])) (Q (di 0)/\Q (kj l a []).H/\Q [(1,2,nV)]/\_) ⟨rfl,rfl,rfl,iK h4⟩
abbrev p6:List (List UInt8):=[[114],[115],[116],[117]]
def gb(nm:List UInt8)(f t ch ac le:Int):cp:=⟨nm,f,t,[],[],[],ch,ac,le,[],[],[],[],0⟩
abbrev lM(K:Int)(S Pl Le:List (List UInt8))(rk:List Int)(rs:List cp):List D:=[di K,.v (co S),.v (co Pl),.v (co Le),.v (cz rk),di 0,di 0,.acc 2 (rs.map Ai),di 0,dl []]
abbrev ii(l:List UInt8)(a:Nat)(K:Int)(S Pl Le:List (List UInt8))(rk:List Int)(rs:List cp):St:=⟨[G (cr l a),G zM,G (lM K S Pl Le rk rs)],[(2,14,rs.map Ai)]⟩
structure NN(ns np nl:Nat)(k:Nat)(r:cp):Prop where
 name:p6[k]?=G r.name
 aj:0<=r.aj/\r.aj<ns
 to:0<=r.to/\r.to<ns
 act:r.act=0/\r.chan=0/\r.letter=0∨(1<=r.act/\r.act<=2)/\(0<=r.chan/\r.chan<np)/\(0<=r.letter/\r.letter<nl)
 rest:r=gb r.name r.aj r.to r.chan r.act r.letter
structure FD(K:Int)(m:b9):Prop where
 kind:m.kind=K
 aw:∃n:Nat,1<=n/\n<=3/\m.aw=([[97],[98],[99]]:List (List UInt8)).take n
 ay:m.ay=[[120]]∨m.ay=[[120],[121]]
 ax:m.ax=[[112]]∨m.ax=[[112],[113]]
 au:if K=3 then I m.au=I m.ax/\∀x∈m.au,0<=x/\x<=1 else m.au=[]
 ao:m.ao=0
 age:m.age=0
 count:I m.av<=4
 pos:1<=I m.av
 av:∀k r,m.av[k]?=G r->NN (I m.aw) (I m.ay) (I m.ax) k r
 start:∃ys:List bc,I ys=I m.ay/\(∀y∈ys,FR (I m.ax) y)/\m.start=.mk 0 (.mk 0 []::ys)
theorem Aev{ns np nl:Nat}{rs:List cp}{k:Nat}{nm:List UInt8}{f t chn ac le:Int}(hnm:p6[k]?=G nm)(hf:0<=f/\f<ns)(ht:0<=t/\t<ns)(ha:ac=0/\chn=0/\le=0∨(1<=ac/\ac<=2)/\(0<=chn/\chn<np)/\(0<=le/\le<nl))(hrs:I rs=k)(hR:∀i r,rs[i]?=G r->NN ns np nl i r):∀i r,(rs++[gb nm f t chn ac le])[i]?=G r->NN ns np nl i r:=fun i r hi=>by
 by_cases hik:i<I rs
 ·rw[HW hik] at hi;exact hR i r hi
 ·rw[HT (by omega)] at hi
  have h1:i-I rs=0:=by
   have:=(HD.1 hi).1
   simp at this;omega
  rw[h1] at hi
  simp at hi;subst hi
  have hik2:i=k:=by omega
  subst hik2
  exact⟨hnm,hf,ht,ha,rfl⟩
noncomputable abbrev mw:=Tryz.f17
noncomputable def mo:=yl mw
noncomputable abbrev Ana:=fun a₀ b₀ c₀=>(ae a₀::vi b₀::vi c₀::ai nV::ai nV::ai nV::vi 0::vi 0::vi 0::ai nV::ai nV::ai nV::ai nV::vi 0::nV)
noncomputable abbrev Anh:=fun a₀ b₀ c₀ d₀ e₀=>Aa PP 7 [bq 0 0,di (I (dm a₀):Int)] (dz b₀ c₀) (di d₀) (dz b₀ e₀)
noncomputable abbrev Ao4:=fun a₀ b₀ c₀=>(ab (ae a₀::aa yt b₀::aa yt c₀::ai nV::ai nV::ai nV::aa yt 0::aa yt 0::aa yt 0::ai nV::ai nV::ai nV::ai nV::aa yt 0::nV)::nV)
noncomputable abbrev Ao6:=fun a₀ b₀ c₀ d₀=>Aa PP 7 [bq 0 0,di 4] (dz a₀ b₀) (di c₀) (dz a₀ d₀)
noncomputable abbrev Aqb:=[kl mo gi,bh 0,kc mo [1,1,1,1]]
noncomputable abbrev dy:=fun a₀=>(G [bt (co a₀)])
noncomputable abbrev Ari:=fun a₀ b₀ c₀=>(ae a₀::vi b₀::vi c₀::ai nV::ai nV::ai nV::vi 0::vi 0::vi 0::ai nV::ai nV::ai nV::ai nV::vi 0::nV)
noncomputable abbrev gq:=fun a₀=>[(2,14,U Ai a₀)]
noncomputable abbrev gu:=(0,bq 0 0)
noncomputable abbrev Art:=fun a₀ b₀ c₀=>(ab (ae a₀::aa yt b₀::aa yt c₀::ai nV::ai nV::ai nV::aa yt 0::aa yt 0::aa yt 0::ai nV::ai nV::ai nV::ai nV::aa yt 0::nV)::nV)
noncomputable abbrev vg:=fun a₀ b₀ c₀ d₀=>Aa PP 7 [bq 0 0,di 4] (dz a₀ b₀) (di c₀) (dz a₀ d₀)
noncomputable abbrev n9:=(bf #[115])
noncomputable abbrev na:=(bf #[114])
noncomputable abbrev Arx:=fun a₀ b₀ c₀ d₀=>(2,14,U Ai a₀++ab (ae b₀::vi c₀::vi d₀::ai nV::ai nV::ai nV::vi 0::vi 0::vi 0::ai nV::ai nV::ai nV::ai nV::vi 0::nV)::nV)
noncomputable abbrev Arz:=fun a₀ b₀ c₀ d₀=>(U Ai a₀++ab (ae b₀::vi c₀::vi d₀::ai nV::ai nV::ai nV::vi 0::vi 0::vi 0::ai nV::ai nV::ai nV::ai nV::vi 0::nV)::nV)
theorem T6(l:List UInt8)(hl:I l<=200)(K:Int)(S Pl Le:List (List UInt8))(rk:List Int)(hS:∃n:Nat,1<=n/\n<=3/\S=([[97],[98],[99]]:List (List UInt8)).take n)(hP:Pl=[[120]]∨Pl=[[120],[121]])(hLe:Le=[[112]]∨Le=[[112],[113]])(hrk:if K=3 then I rk=I Le/\∀x∈rk,0<=x/\x<=1 else rk=[])(n:Nat):∀(k a:Nat) (rs:List cp),4-k=n->a<=I l->k<=4->I rs=k->(∀i r,rs[i]?=G r->NN (I S) (I Pl) (I Le) i r)->
  ∃(m:b9) (a':Nat),FD K m/\a'<=I l/\Rn PP mw 1 (Af m) (dz l a') ([kl mo [1,1,1,0,1,0,0],.blk 0,kc mo [1,1,1,1]]++[]) (ba 92 [(0,.ptr 0 0),(4,.ptr 1 0),(5,.ptr 2 0),(6,di k)]) (ii l a K S Pl Le rk rs):=by
 induction n using Nat.strongRecOn with
 |_ n ih=>
 intro k a rs hn ha hk4 hrs hR
 have hSl:1<=I S/\S.length<=3:=by obtain⟨n,h1,h2,rfl⟩:=hS;rw[Ig];simp only[HF,HJ];omega
 have hPl:1<=I Pl/\Pl.length<=2:=by rcases hP with rfl|rfl<;>decide
 have hLl:1<=I Le/\Le.length<=2:=by rcases hLe with rfl|rfl<;>decide
 have hSm:(I (S.map ae):Int)=(I S:Int):=by rw[H9]
 have hPm:(I (Pl.map ae):Int)=(I Pl:Int):=by rw[H9]
 have hLm:(I (Le.map ae):Int)=(I Le:Int):=by rw[H9]
 obtain⟨r,a1,h1,h2,h3,h4⟩:=A2 l hl a ha 4 (by decide) (by decide)
 by_cases hk:(k:Int)<1+r
 ·obtain⟨f,a2,f1,f2,f3,f4⟩:=A2 l hl a1 h3 (I S) (by omega) (by omega)
  obtain⟨t,a3,t1,t2,t3,t4⟩:=A2 l hl a2 f3 (I S) (by omega) (by omega)
  obtain⟨ac,a4,c1,c2,c3,c4⟩:=A2 l hl a3 t3 3 (by decide) (by decide)
  obtain⟨nm,hnm⟩:∃nm,p6[k]?=G nm:=⟨_,HA (show k<I p6 by show k<4;omega)⟩
  have hkr:Y ((k:Int)<yu yt (1+r))=J:=by rw[Al];exact HC hk
  by_cases hw:(ac !=0)=J
  ·obtain⟨chn,a5,d1,d2,d3,d4⟩:=A2 l hl a4 c3 (I Pl) (by omega) (by omega)
   obtain⟨le,a6,e1,e2,e3,e4⟩:=A2 l hl a5 d3 (I Le) (by omega) (by omega)
   have hac:ac≠0:=by simpa using hw
   obtain⟨m,a',m1,m2,m3⟩:=ih (4- (k+1)) (by omega) (k+1) a6 (rs++[gb nm f t chn ac le]) rfl e3 (by omega) (by simp[hrs]) (Aev hnm ⟨f1,f2⟩ ⟨t1,t2⟩ (.inr ⟨by omega,⟨d1,d2⟩,⟨e1,e2⟩⟩) hrs hR)
   refine⟨m,a',m1,m2,?_⟩
   refine lv 92 [] (.c1 (cr l a1) (di r)<|.t<|.h (.dr 17)<|.x (.str nm)<|.c1 (cr l a2) (di f)<|.c1 (cr l a3) (di t)<|.c1 (cr l a4) (di ac)<|.t<|.c1 (cr l a5) (di chn)<|.c1 (cr l a6) (di le)<|.ls [ke 0,ke 4,ke 5,ch 6 (di (k+1:Nat))] (ii l a6 K S Pl Le rk (rs++[gb nm f t chn ac le]))) (vg l a r a1/\Y ((k:Int)<yu yt (1+r))=J/\0<=(k:Int)/\[ae na.data.toList,ae n9.data.toList,ae (bf #[116]).data.toList,ae (bf #[117]).data.toList][Z (k:Int)]?=G (ae nm)/\Aa PP 7 [bq 0 0,di (I (U ae S):Int)] (dz l a1) (di f) (dz l a2)/\Aa PP 7 [bq 0 0,di (I (U ae S):Int)] (dz l a1) (di f) (dz l a2)/\Q (di f)/\Aa PP 7 [bq 0 0,di (I (U ae S):Int)] (dz l a2) (di t) (dz l a3)/\Aa PP 7 [bq 0 0,di (I (U ae S):Int)] (dz l a2) (di t) (dz l a3)/\Q (di t)/\Aa PP 7 [bq 0 0,di 3] (dz l a3) (di ac) (dz l a4)/\Aa PP 7 [bq 0 0,di 3] (dz l a3) (di ac) (dz l a4)/\Q (di ac)/\Q [bi [G (cr l a1),G zM,G (lM K S Pl Le rk rs),G ei] (gq rs),bi [G (cr l a2),G zM,G (lM K S Pl Le rk rs),G ei] (gq rs),bi [G (cr l a3),G zM,G (lM K S Pl Le rk rs),G ei] (gq rs),bi [G (cr l a4),G zM,G (lM K S Pl Le rk rs),G ei] (gq rs)]/\((yg (Q (dy S)))/\(yg (Q (dy S)))/\True)/\(ac !=0)=J/\Aa PP 7 [bq 0 0,di (I (U ae Pl):Int)] (dz l a4) (di chn) (dz l a5)/\Aa PP 7 [bq 0 0,di (I (U ae Le):Int)] (dz l a5) (di le) (dz l a6)/\(True/\(Q (G [bt (co Le)])/\True)/\True)/\Q (U Ai rs)/\Ao (I (U Ai rs)+I (ab (ae nm::aa yt f::aa yt t::ai nV::ai nV::ai nV::aa yt chn::aa yt ac::aa yt le::ai nV::ai nV::ai nV::ai nV::aa yt 0::nV)::nV)) 232/\di (yu yt ((k:Int)+1))=di (↑(k+1):Int)/\[G (cr l a6),G zM,G [di K,bt (co S),bt (co Pl),bt (co Le),cw rk,di 0,di 0,br 2 (U Ai rs++ab (ae nm::vi f::vi t::ai nV::ai nV::ai nV::vi chn::vi ac::vi le::ai nV::ai nV::ai nV::ai nV::vi 0::nV)::nV),di 0,dl nV]]=[G (cr l a6),G zM,G (lM K S Pl Le rk (rs++[gb nm f t chn ac le]))]/\[(2,14,U Ai rs++ab (ae nm::vi f::vi t::ai nV::ai nV::ai nV::vi chn::vi ac::vi le::ai nV::ai nV::ai nV::ai nV::vi 0::nV)::nV)]=[(2,14,U Ai (rs++[gb nm f t chn ac le]))]/\I0 mw 1 (Af m) (dz l a') [kl mo [1,1,1,0,1,0,0],bh 0,kc mo [1,1,1,1]] (ba 92 [gu,(4,bq 1 0),(5,bq 2 0),(6,di (↑(k+1):Int))]) (ii l a6 K S Pl Le rk (rs++[gb nm f t chn ac le]))) ?_
   rw[hSm,hPm,hLm]
   repeat' first|with_reducible refine And.intro ?_ ?_
   all_goals first|exact h4|exact hkr|exact f4|exact t4|exact c4|exact d4|exact e4|exact hw|exact C0 hnm|exact⟨m3⟩|exact Ae|omega|rfl|trivial|skip
   all_goals first|exact HX (fun z=>[G (cr l a6),G zM,G [di K,.v (co S),.v (co Pl),.v (co Le),.v (cz rk),di 0,di 0,.acc 2 z,di 0,dl []]]) (AV rs (gb nm f t chn ac le))|exact HX (fun z=>[(2,14,z)]) (AV rs (gb nm f t chn ac le))|(simp only[H9,HF,HJ];omega)
  ·have hac:ac=0:=by simpa using hw
   subst hac
   obtain⟨m,a',m1,m2,m3⟩:=ih (4- (k+1)) (by omega) (k+1) a4 (rs++[gb nm f t 0 0 0]) rfl c3 (by omega) (by simp[hrs]) (Aev hnm ⟨f1,f2⟩ ⟨t1,t2⟩ (.inl ⟨rfl,rfl,rfl⟩) hrs hR)
   refine⟨m,a',m1,m2,?_⟩
   refine lv 92 [] (.c1 (cr l a1) (di r)<|.t<|.h (.dr 17)<|.x (.str nm)<|.c1 (cr l a2) (di f)<|.c1 (cr l a3) (di t)<|.c1 (cr l a4) (di 0)<|.k<|.ls [ke 0,ke 4,ke 5,ch 6 (di (k+1:Nat))] (ii l a4 K S Pl Le rk (rs++[gb nm f t 0 0 0]))) (vg l a r a1/\Y ((k:Int)<yu yt (1+r))=J/\0<=(k:Int)/\[ae na.data.toList,ae n9.data.toList,ae (bf #[116]).data.toList,ae (bf #[117]).data.toList][Z (k:Int)]?=G (ae nm)/\Aa PP 7 [bq 0 0,di (I (U ae S):Int)] (dz l a1) (di f) (dz l a2)/\Aa PP 7 [bq 0 0,di (I (U ae S):Int)] (dz l a1) (di f) (dz l a2)/\Q (di f)/\Aa PP 7 [bq 0 0,di (I (U ae S):Int)] (dz l a2) (di t) (dz l a3)/\Aa PP 7 [bq 0 0,di (I (U ae S):Int)] (dz l a2) (di t) (dz l a3)/\Q (di t)/\Aa PP 7 [bq 0 0,di 3] (dz l a3) (di 0) (dz l a4)/\Aa PP 7 [bq 0 0,di 3] (dz l a3) (di 0) (dz l a4)/\Q (di 0)/\Q [bi [G (cr l a1),G zM,G (lM K S Pl Le rk rs),G ei] (gq rs),bi [G (cr l a2),G zM,G (lM K S Pl Le rk rs),G ei] (gq rs),bi [G (cr l a3),G zM,G (lM K S Pl Le rk rs),G ei] (gq rs),bi [G (cr l a4),G zM,G (lM K S Pl Le rk rs),G ei] (gq rs)]/\((yg (Q (dy S)))/\(yg (Q (dy S)))/\True)/\Q (U Ai rs)/\Ao (I (U Ai rs)+I (Art nm f t)) 232/\di (yu yt ((k:Int)+1))=di (↑(k+1):Int)/\[G (cr l a4),G zM,G [di K,bt (co S),bt (co Pl),bt (co Le),cw rk,di 0,di 0,br 2 (Arz rs nm f t),di 0,dl nV]]=[G (cr l a4),G zM,G (lM K S Pl Le rk (rs++[gb nm f t 0 0 0]))]/\[(Arx rs nm f t)]=[(2,14,U Ai (rs++[gb nm f t 0 0 0]))]/\I0 mw 1 (Af m) (dz l a') [kl mo [1,1,1,0,1,0,0],bh 0,kc mo [1,1,1,1]] (ba 92 [gu,(4,bq 1 0),(5,bq 2 0),(6,di (↑(k+1):Int))]) (ii l a4 K S Pl Le rk (rs++[gb nm f t 0 0 0]))) ?_
   rw[hSm]
   repeat' first|with_reducible refine And.intro ?_ ?_
   all_goals first|exact h4|exact hkr|exact f4|exact t4|exact c4|exact C0 hnm|exact⟨m3⟩|exact Ae|omega|rfl|trivial|skip
   all_goals first|exact HX (fun z=>[G (cr l a4),G zM,G [di K,.v (co S),.v (co Pl),.v (co Le),.v (cz rk),di 0,di 0,.acc 2 z,di 0,dl []]]) (AV rs (gb nm f t 0 0 0))|exact HX (fun z=>[(2,14,z)]) (AV rs (gb nm f t 0 0 0))|(simp only[H9,HF,HJ];omega)
 ·obtain⟨ys,a2,y1,y2,y3,y4⟩:=Ahb l hl a1 h3 (I Pl) (by omega) (I Le) (by omega) (by omega)
  obtain⟨c,hc⟩:∃c:bc,c=.mk 0 (.mk 0 []::ys):=⟨_,rfl⟩
  refine⟨⟨K,S,Pl,Le,rk,0,0,rs,c⟩,a2,⟨rfl,hS,hP,hLe,hrk,rfl,rfl,by show I rs<=4;omega,by show 1<=I rs;omega,hR,ys,y2,y3,hc⟩,y1,?_⟩
  refine lv 92 [] (.c1 (cr l a1) (di r)<|.f<|.a 3<|.c1 (cr l a2) (cx ys)<|.w .r) (vg l a r a1/\Y ((k:Int)<yu yt (1+r))=O/\Aa PP 39 [bq 0 0,di (I (U ae Pl):Int),di (I (U ae Le):Int),di 2] (dz l a1) (cx ys) (dz l a2)/\Q (ab (vi 0::ai nV::nV)::nV)/\Ao (I (ab (aa yt 0::ai nV::nV)::nV)+I (U eV ys)) 32/\(∀(y:V),y∈U eV ys->V.size y=2)/\Q [G (cr l a2)]/\bt (ab [vi K,ai (U ae S),ai (U ae Pl),ai (U ae Le),ai (U vi rk),vi 0,vi 0,ai (U Ai rs),vi 0,ai (ab [vi 0,ai []]::[]++(U eV ys))])=Af (b9.mk K S Pl Le rk 0 0 rs c)) ?_
  rw[hPm,hLm]
  refine⟨h4,HE (by rw[Al];exact hk),y4,rfl,⟨?_,?_⟩,fun y hy=>?_,rfl,?_⟩
  ·have:=hPl;simp only[H9,HF,HJ,y2];omega
  ·have:=hPl;simp only[H9,HF,HJ,y2];omega
  ·obtain⟨z,_,rfl⟩:=Is.1 hy
   rw[AE];rfl
  ·rw[hc];rfl
theorem AeP{ts:List Nat}{kn:Bool}{d:D}(h:d.one=J):(gh ts kn d).one=J:=by
 unfold gh
 split
 ·cases ts.any _<;>rfl
 ·cases kn<;>rfl
 ·cases kn
  ·exact absurd h (by simp[D.one,V.isAgg])
  ·exact h
 ·exact h
theorem Ajk{H:List (Option (List D))}{own:List (Nat×Nat×List V)}{q:Nat}{d0:Int}{S Pl Le:V}{rk:V}(hq:H[q]?=G (G [di d0,.v S,.v Pl,.v Le,.v rk,di 0,di 0,.acc 2 [],di 0,.v .nils]))(e:List D):Cv e ⟨H,own⟩ e ⟨H.set q (G ([di d0,.v S,.v Pl,.v Le,.v rk,di 0,di 0,.acc 2 [],di 0,.v .nils].map (gh [2] false))),own⟩:=
 Ec (σ:=⟨H,own⟩) (q:=q) hq (fun g us hr=>CV hr) (fun h c hc=>by
  obtain⟨d,hd,rfl⟩:=Is.1 hc
  exact AeP (h d hd)) e
noncomputable abbrev om:=[ae (bf #[112]).data.toList,ae (bf #[113]).data.toList]
noncomputable abbrev tf:=fun a₀ b₀ (c₀:Nat) d₀=>Aa PP 7 [bq 0 0,di 3] (dz a₀ b₀) (di (c₀:Int)) (dz a₀ d₀)
noncomputable abbrev jn:=fun a₀ b₀ (c₀:Nat) d₀=>Aa PP 7 [bq 0 0,di 2] (dz a₀ b₀) (di (c₀:Int)) (dz a₀ d₀)
noncomputable abbrev l5:=[ae (bf #[97]).data.toList,ae (bf #[98]).data.toList,ae (bf #[99]).data.toList]
noncomputable abbrev fh:=fun (a₀:Nat)=>(1+(a₀:Int))
theorem AeB(l:List UInt8)(hl:I l<=200)(a:Nat)(ha:a<=I l)(K:Int)(hK:K=2∨K=3):
  ∃(m:b9) (a':Nat),FD K m/\a'<=I l/\Aa PP 17 [.ptr 0 0,di K] (dz l a) (Af m) (dz l a'):=by
 obtain⟨r1,a1,p1,p2,p3,p4⟩:=A2 l hl a ha 3 (by decide) (by decide)
 obtain⟨r2,a2,q1,q2,q3,q4⟩:=A2 l hl a1 p3 2 (by decide) (by decide)
 obtain⟨r3,a3,u1,u2,u3,u4⟩:=A2 l hl a2 q3 2 (by decide) (by decide)
 obtain⟨n1,rfl⟩:∃n:Nat,r1=n:=⟨r1.toNat,by omega⟩
 obtain⟨n2,rfl⟩:∃n:Nat,r2=n:=⟨r2.toNat,by omega⟩
 obtain⟨n3,rfl⟩:∃n:Nat,r3=n:=⟨r3.toNat,by omega⟩
 obtain⟨S,hS⟩:∃S,S=([[97],[98],[99]]:List (List UInt8)).take (1+n1):=⟨_,rfl⟩
 obtain⟨Pl,hPl⟩:∃S,S=([[120],[121]]:List (List UInt8)).take (1+n2):=⟨_,rfl⟩
 obtain⟨Le,hLe⟩:∃S,S=([[112],[113]]:List (List UInt8)).take (1+n3):=⟨_,rfl⟩
 have hSx:∃n:Nat,1<=n/\n<=3/\S=([[97],[98],[99]]:List (List UInt8)).take n:=⟨1+n1,by omega,by omega,hS⟩
 have hPx:Pl=[[120]]∨Pl=[[120],[121]]:=by
  rcases(show n2=0∨n2=1 by omega) with rfl|rfl
  ·exact .inl hPl
  ·exact .inr hPl
 have hLx:Le=[[112]]∨Le=[[112],[113]]:=by
  rcases(show n3=0∨n3=1 by omega) with rfl|rfl
  ·exact .inl hLe
  ·exact .inr hLe
 rcases hK with rfl|rfl
 ·obtain⟨m,a',m1,m2,m3⟩:=T6 l hl 2 S Pl Le [] hSx hPx hLx (by simp) _ 0 a3 [] rfl u3 (by omega) rfl (by simp)
  refine⟨m,a',m1,m2,?_⟩
  refine sv mw 92 [] (.h (.dr 17)<|.c1 (cr l a1) (di n1)<|.c1 (cr l a2) (di n2)<|.c1 (cr l a3) (di n3)<|.h .rn<|.k<|.h (.q 4 0)<|.h (.cl 2 7 2 14)<|.h (.cs (ii l a3 2 S Pl Le [] []))<|.ls [ke 0,ke 4,ke 5,ch 6 (di (0:Nat))] (ii l a3 2 S Pl Le [] [])) (tf l a n1 a1/\tf l a n1 a1/\Q (di (n1:Int))/\(∀(x:V),x∈ l5->V.size x=1)/\0<=(fun x=>x.snd) (yt,yu yt (fh n1))/\(fun x=>x.snd) (yt,yu yt (fh n1))<=(↑(I l5):Int)/\jn l a1 n2 a2/\jn l a1 n2 a2/\Q (di (n2:Int))/\(∀(x:V),x∈ jo->V.size x=1)/\0<=(fun x=>x.snd) (yt,yu yt (fh n2))/\(fun x=>x.snd) (yt,yu yt (fh n2))<=(↑(I jo):Int)/\jn l a2 n3 a3/\jn l a2 n3 a3/\Q (di (n3:Int))/\(∀(x:V),x∈ om->V.size x=1)/\0<=(fun x=>x.snd) (yt,yu yt (fh n3))/\(fun x=>x.snd) (yt,yu yt (fh n3))<=(↑(I om):Int)/\Q [bi (ge l a) [],bi (ge l a1) [],bi (ge l a2) [],bi (ge l a3) []]/\True/\(∀(e:List D) (E:cf) (g:Gh) (a:Act) (w:x5),FI E g (bi [G (cr l a3),G [bt gf,dn,dn,dn,dn,bt gf,bt gf,dn,bt gf,dn],G [bt (aa yt 2),bt (ai (W 0 (take (Z ((fun x=>x.snd) (yt,yu yt (fh n1)))) l5))),bt (ai (W 0 (take (Z ((fun x=>x.snd) (yt,yu yt (fh n2)))) jo))),bt (ai (W 0 (take (Z ((fun x=>x.snd) (yt,yu yt (fh n3)))) om))),dn,bt gf,bt gf,br 2 [],bt gf,dn]] [(2,14,[])]) e a w->∃g',FI E g' (ii l a3 2 S Pl Le [] []) e a w)/\di 0=di (↑0:Int)/\Q (ii l a3 2 S Pl Le [] []).H/\Q [(2,14,nV)]/\I0 mw (I (dz l a).H) (Af m) (dz l a') Aqb (ba 92 [gd,qu,mf,(6,di (↑0:Int))]) (ii l a3 2 S Pl Le [] [])) ?_
  have w1:yu yt (1+(n1:Int))=1+n1:=Al
  have w2:yu yt (1+(n2:Int))=1+n2:=Al
  have w3:yu yt (1+(n3:Int))=1+n3:=Al
  have z1:∀x∈ [ae [97],ae [98],ae [99]],x.size=1:=by simp[V.size]
  have z2:∀x∈ [ae [120],ae [121]],x.size=1:=by simp[V.size]
  have z3:∀x∈ [ae [112],ae [113]],x.size=1:=by simp[V.size]
  have k1:ai (W 0 (take (1+(n1:Int)).toNat [ae [97],ae [98],ae [99]]))=co S:=by
   rw[hS,Jk,show(1+(n1:Int)).toNat=1+n1 by omega]
   rcases(show n1=0∨n1=1∨n1=2 by omega) with rfl|rfl|rfl<;>rfl
  have k2:ai (W 0 (take (1+(n2:Int)).toNat [ae [120],ae [121]]))=co Pl:=by
   rw[hPl,Jk,show(1+(n2:Int)).toNat=1+n2 by omega]
   rcases(show n2=0∨n2=1 by omega) with rfl|rfl<;>rfl
  have k3:W 0 (take (1+(n3:Int)).toNat [ae [112],ae [113]])=Le.map ae:=by
   rw[hLe,Jk,show(1+(n3:Int)).toNat=1+n3 by omega]
   rcases(show n3=0∨n3=1 by omega) with rfl|rfl<;>rfl
  rw[w1,w2,w3]
  refine⟨p4,p4,rfl,z1,by show 0<=1+(n1:Int);omega,by show 1+(n1:Int)<=3;omega,q4,q4,rfl,z2,by show 0<=1+(n2:Int);omega,by show 1+(n2:Int)<=2;omega,u4,u4,rfl,z3,by show 0<=1+(n3:Int);omega,by show 1+(n3:Int)<=2;omega,rfl,trivial,fun e=>?_,rfl,rfl,rfl,⟨m3⟩⟩
  show Cv e ⟨[G (cr l a3),G zM,G [di 2,.v (ai (W 0 (take (1+(n1:Int)).toNat [ae [97],ae [98],ae [99]]))),.v (ai (W 0 (take (1+(n2:Int)).toNat [ae [120],ae [121]]))),.v (ai (W 0 (take (1+(n3:Int)).toNat [ae [112],ae [113]]))),.v .nils,di 0,di 0,.acc 2 [],di 0,.v .nils]],[(2,14,[])]⟩ e _
  rw[k1,k2,k3]
  exact Ajk (H:=[G (cr l a3),G zM,G [di 2,.v (co S),.v (co Pl),.v (co Le),.v .nils,di 0,di 0,.acc 2 [],di 0,.v .nils]]) (q:=2) rfl e
 ·obtain⟨rk,a4,v1,v2,v3,v4⟩:=GQ l hl a3 u3 (I Le) (by rcases hLx with h|h<;>rw[h]<;>decide) 1 (by decide) (by decide)
  obtain⟨m,a',m1,m2,m3⟩:=T6 l hl 3 S Pl Le rk hSx hPx hLx (by rw[HV rfl];exact⟨v2,v3⟩) _ 0 a4 [] rfl (by omega) (by omega) rfl (by simp)
  refine⟨m,a',m1,m2,?_⟩
  refine sv mw 92 [] (.h (.dr 17)<|.c1 (cr l a1) (di n1)<|.c1 (cr l a2) (di n2)<|.c1 (cr l a3) (di n3)<|.h .rn<|.k<|.c1 (cr l a4) (cw rk)<|.h (.q 4 0)<|.h (.cl 2 7 2 14)<|.h (.cs (ii l a4 3 S Pl Le rk []))<|.ls [ke 0,ke 4,ke 5,ch 6 (di (0:Nat))] (ii l a4 3 S Pl Le rk [])) (tf l a n1 a1/\tf l a n1 a1/\Q (di (n1:Int))/\(∀(x:V),x∈ l5->V.size x=1)/\0<=(fun x=>x.snd) (yt,yu yt (fh n1))/\(fun x=>x.snd) (yt,yu yt (fh n1))<=(↑(I l5):Int)/\jn l a1 n2 a2/\jn l a1 n2 a2/\Q (di (n2:Int))/\(∀(x:V),x∈ jo->V.size x=1)/\0<=(fun x=>x.snd) (yt,yu yt (fh n2))/\(fun x=>x.snd) (yt,yu yt (fh n2))<=(↑(I jo):Int)/\jn l a2 n3 a3/\jn l a2 n3 a3/\Q (di (n3:Int))/\(∀(x:V),x∈ om->V.size x=1)/\0<=(fun x=>x.snd) (yt,yu yt (fh n3))/\(fun x=>x.snd) (yt,yu yt (fh n3))<=(↑(I om):Int)/\Q [bi (ge l a) [],bi (ge l a1) [],bi (ge l a2) [],bi (ge l a3) []]/\True/\Aa PP 37 [bq 0 0,di (I (W 0 (take (Z ((fun x=>x.snd) (yt,yu yt (fh n3)))) (ae (bf #[112]).data.toList::ae (bf #[113]).data.toList::nV))):Int),di 1] (dz l a3) (cw rk) (dz l a4)/\(∀(e:List D) (E:cf) (g:Gh) (a:Act) (w:x5),FI E g (bi [G (cr l a4),G [bt gf,dn,dn,dn,dn,bt gf,bt gf,dn,bt gf,dn],G [bt (aa yt 3),bt (ai (W 0 (take (Z ((fun x=>x.snd) (yt,yu yt (fh n1)))) l5))),bt (ai (W 0 (take (Z ((fun x=>x.snd) (yt,yu yt (fh n2)))) jo))),bt (ai (W 0 (take (Z ((fun x=>x.snd) (yt,yu yt (fh n3)))) om))),cw rk,bt gf,bt gf,br 2 [],bt gf,dn]] [(2,14,[])]) e a w->∃g',FI E g' (ii l a4 3 S Pl Le rk []) e a w)/\di 0=di (↑0:Int)/\Q (ii l a4 3 S Pl Le rk []).H/\Q [(2,14,nV)]/\I0 mw (I (dz l a).H) (Af m) (dz l a') Aqb (ba 92 [gd,qu,mf,(6,di (↑0:Int))]) (ii l a4 3 S Pl Le rk [])) ?_
  have w1:yu yt (1+(n1:Int))=1+n1:=Al
  have w2:yu yt (1+(n2:Int))=1+n2:=Al
  have w3:yu yt (1+(n3:Int))=1+n3:=Al
  have z1:∀x∈ [ae [97],ae [98],ae [99]],x.size=1:=by simp[V.size]
  have z2:∀x∈ [ae [120],ae [121]],x.size=1:=by simp[V.size]
  have z3:∀x∈ [ae [112],ae [113]],x.size=1:=by simp[V.size]
  have k1:ai (W 0 (take (1+(n1:Int)).toNat [ae [97],ae [98],ae [99]]))=co S:=by
   rw[hS,Jk,show(1+(n1:Int)).toNat=1+n1 by omega]
   rcases(show n1=0∨n1=1∨n1=2 by omega) with rfl|rfl|rfl<;>rfl
  have k2:ai (W 0 (take (1+(n2:Int)).toNat [ae [120],ae [121]]))=co Pl:=by
   rw[hPl,Jk,show(1+(n2:Int)).toNat=1+n2 by omega]
   rcases(show n2=0∨n2=1 by omega) with rfl|rfl<;>rfl
  have k3:W 0 (take (1+(n3:Int)).toNat [ae [112],ae [113]])=Le.map ae:=by
   rw[hLe,Jk,show(1+(n3:Int)).toNat=1+n3 by omega]
   rcases(show n3=0∨n3=1 by omega) with rfl|rfl<;>rfl
  rw[w1,w2,w3]
  refine⟨p4,p4,rfl,z1,by show 0<=1+(n1:Int);omega,by show 1+(n1:Int)<=3;omega,q4,q4,rfl,z2,by show 0<=1+(n2:Int);omega,by show 1+(n2:Int)<=2;omega,u4,u4,rfl,z3,by show 0<=1+(n3:Int);omega,by show 1+(n3:Int)<=2;omega,rfl,trivial,?_,fun e=>?_,rfl,rfl,rfl,⟨m3⟩⟩
  ·show Aa PP _ [_,di (I (W 0 (take (1+(n3:Int)).toNat [ae [112],ae [113]])):Int),_] _ _ _
   rw[k3,H9];exact v4
  show Cv e ⟨[G (cr l a4),G zM,G [di 3,.v (ai (W 0 (take (1+(n1:Int)).toNat [ae [97],ae [98],ae [99]]))),.v (ai (W 0 (take (1+(n2:Int)).toNat [ae [120],ae [121]]))),.v (ai (W 0 (take (1+(n3:Int)).toNat [ae [112],ae [113]]))),cw rk,di 0,di 0,.acc 2 [],di 0,.v .nils]],[(2,14,[])]⟩ e _
  rw[k1,k2,k3]
  exact Ajk (H:=[G (cr l a4),G zM,G [di 3,.v (co S),.v (co Pl),.v (co Le),cw rk,di 0,di 0,.acc 2 [],di 0,.v .nils]]) (q:=2) rfl e
theorem AcD{rs:List cp}(h3:I rs<=4){ns np nl:Nat}(h:∀k r,rs[k]?=G r->NN ns np nl k r):rs.map cp.name=p6.take (I rs):=by
 apply ext_getElem?
 intro i
 by_cases hi:i<I rs
 ·have hx:rs[i]?=G rs[i]:=HA hi
  rw[Ir,hx,List.getElem?_take_of_lt hi,(h i _ hx).name];rfl
 ·rw[Iy (by simp;omega),Iy (by simp;omega)]
theorem AaO{L:Int}{v:bc}(h:FR L v):(v.n==0)=J/\Y ((I v.az:Int)<=12)=J/\(v.az.all fun k=>Cx L k)=J:=by
 obtain⟨ks,h1,h2,rfl⟩:=h
 refine⟨rfl,HC (by simp only[bc.az,H9];omega),?_⟩
 simp only[bc.az,Iw]
 intro k hk
 obtain⟨x,hx,rfl⟩:=Is.1 hk
 have:=h2 x hx
 simp only[Cx,bc.n,bc.az,HB,HK]
 exact⟨HC this.1,HC this.2,rfl⟩
theorem Pd(t:cy)(L:Int)(ht:∀v,FR L v->Ar t v=J):∀(n:Nat) (ys:List bc),I ys=n->(∀y∈ys,FR L y)->BA (replicate n t) ys=J
 |0,ys,h,_=>by
  cases ys with
  |nil=>rfl
  |cons y ys=>simp at h
 |n+1,ys,h,hy=>by
  cases ys with
  |nil=>simp at h
  |cons y ys=>
   simp only[I4,BA,HB]
   exact⟨ht y (hy y (by simp)),Pd t L ht n ys (by simpa using h) fun z hz=>hy z (by simp[hz])⟩
theorem NQ(L:Int):∀(ys:List bc),(∀y∈ys,FR L y)->bc.sizes ys<=3*I ys
 |[],_=>HH _
 |y::ys,h=>by
  have h1:=(h y (by simp)).size
  have h2:=NQ L ys fun z hz=>h z (by simp[hz])
  simp only[bc.sizes,HF];omega
theorem VU(m:b9)(hk:m.kind=2∨m.kind=3)(hpl:I m.ay<=2)(s:Int)(hs:0<=s/\s<I m.aw)(ys:List bc)(hy:I ys=I m.ay)(h:∀y∈ys,FR (I m.ax) y):Ah (AF m) (.mk 0 (.mk s []::ys))=J:=by
 have hsz:=NQ _ ys h
 rw[Ah,HC (by simp only[bc.size,bc.sizes];omega),Ij,AF]
 have he:∀v,FR (I m.ax) v->Ar (Cl m) v=J:=fun v hv=>by
  obtain⟨h1,h2,h3⟩:=AaO hv
  rcases hk with hk|hk
  ·rw[show Cl m=.word (.lab (I m.ax)) by simp[Cl,hk]]
   simp only[Ar,HB]
   exact⟨h1,h2,h3⟩
  ·rw[show Cl m=.prio (I m.ax) m.au by simp[Cl,hk]]
   simp only[Ar,HB]
   exact⟨h1,h2,h3⟩
 simp only[Ar,bc.n,bc.az,BA,Cx,HB,HK,Il]
 refine⟨?_,by simp[hy],⟨HC hs.1,HC hs.2,by rfl⟩,Pd _ _ he _ ys hy h⟩
 first|trivial|rfl
theorem FD.ok{K:Int}{m:b9}(hK:K=2∨K=3)(h:FD K m):m.ok:=by
 have hk:=h.kind
 have hk1:¬m.kind=1:=by omega
 have hst:1<=I m.aw/\m.aw.length<=3:=by obtain⟨n,h1,h2,e⟩:=h.aw;rw[e,Ig];simp only[HF,HJ];omega
 have hpl:1<=I m.ay/\m.ay.length<=2:=by rcases h.ay with e|e<;>rw[e]<;>decide
 have hll:1<=I m.ax/\m.ax.length<=2:=by rcases h.ax with e|e<;>rw[e]<;>decide
 have hb:∀{x a b:Int},a<=x->x<=b->Ay x a b=J:=fun h1 h2=>by simp[Ay,h1,h2]
 have hget:∀r∈m.av,NN (I m.aw) (I m.ay) (I m.ax) (m.av.idxOf r) r:=fun r hr=>by
  have hi:=List.idxOf_lt_length_of_mem hr
  exact h.av _ r (by rw[HA hi,List.getElem_idxOf])
 have hc:=h.count
 refine⟨.inr (by omega),?_,?_,?_,?_,?_,?_,?_⟩
 ·simp only[CE,QF,HR hk1,HB,HK,h.ao,h.age]
  exact⟨hb (by omega) (by omega),by omega,hb (by omega) (by omega),hb (by omega) (by omega),by decide,by decide⟩
 ·have hr:=h.au
  rw[BV]
  rcases hK with rfl|rfl
  ·rw[HR (by decide)] at hr
   rw[HV (by rw[hk];rfl),hr];rfl
  ·rw[HV rfl] at hr
   rw[HR (by rw[hk];decide)]
   simp only[HB,Il,Iw]
   exact⟨by omega,fun x hx=>hb (hr.2 x hx).1 (by have:=(hr.2 x hx).2;omega)⟩
 ·have hn:=AcD h.count h.av
  obtain⟨n,n1,n2,e⟩:=h.aw
  rw[Ew,EP,hn,BW]
  have:I m.av=0∨m.av.length=1∨m.av.length=2∨m.av.length=3∨m.av.length=4:=by omega
  rcases(show n=1∨n=2∨n=3 by omega) with rfl|rfl|rfl<;>rcases h.ay with e'|e'<;>rcases h.ax with e3|e3<;>rcases this with e2|e2|e2|e2|e2<;>rw[e,e',e2,e3]<;>decide+kernel
 ·intro r hr
  rw[(hget r hr).rest]
  exact⟨Ik _,Ik _,Ik _,Ik _,Ik _,Ik _,Ik _⟩
 ·intro r hr
  have hm:=hget r hr
  obtain⟨f1,f2⟩:=hm.aj
  obtain⟨t1,t2⟩:=hm.to
  have ha:=hm.act
  have hr:=hm.rest
  generalize r.name=nm at hr
  generalize r.aj=f at*
  generalize r.to=t at*
  generalize r.chan=cn at*
  generalize r.act=ac at*
  generalize r.letter=le at*
  subst hr
  rw[Er,HR hk1]
  simp only[EO,BU,LR,gb,Eg,HB,Il,HK,Io,true_and]
  refine⟨hb (by omega) (by omega),hb (by omega) (by omega),?_⟩
  rcases ha with⟨rfl,rfl,rfl⟩|⟨h1,h2,h3⟩
  ·rfl
  ·rw[HR (by omega)]
   simp only[HB]
   exact⟨hb (by omega) (by omega),hb (by omega) (by omega),hb (by omega) (by omega)⟩
 ·obtain⟨ys,y1,y2,y3⟩:=h.start
  rw[y3]
  exact VU m (by omega) (by omega) 0 ⟨by omega,by omega⟩ ys y1 y2
 ·obtain⟨ys,y1,y2,y3⟩:=h.start
  have:=NQ _ ys y2
  rw[y3];simp only[bc.size,bc.sizes];omega
noncomputable abbrev AZ:=Tryz.f101
noncomputable def A6:=yl AZ
abbrev ij(n:Int)(l:List bc):St:=⟨[G [di 0,.v .nils],G [di n,.acc 1 (l.map eV)]],[(1,2,l.map eV)]⟩
theorem VE(v:bc)(hv:v.size<=1000000)(hk:∀x∈v.az,F0 101 [dV x] (dV x))(n:Nat):∀k:Nat,I v.az-k=n->
  Rn PP AZ 0 (dV v) bd ([kl A6 [1,1,0,1,0,0],.blk 0,kc A6 [1,1,1]]++[]) (ba 27 [(1,.v (.ref (Ac v))),(2,.ptr 0 0),(3,.ptr 1 0),(4,di k)]) (ij v.n (v.az.take k)):=by
 have hs:=v.size_eq
 have hl:=bc.length_le v.az
 induction n with
 |zero=>
  intro k hn
  refine lv 27 [1] (.f .r) (Y ((k:Int)<(I (cc v.az):Int))=O/\bt (ab [vi v.n,ai (U eV (take k v.az))])=dV v) ?_
  rw[Ic (by omega)]
  exact⟨HE (by rw[H9];omega),rfl⟩
 |succ n ih=>
  intro k hn
  obtain⟨x,hx⟩:∃x,v.az[k]?=G x:=⟨_,HA (show k<I v.az by omega)⟩
  have ht:v.az.take (k+1)=v.az.take k++[x]:=by rw[IM,hx];rfl
  refine lv 27 [1] (.t<|.h (.xs (Ac x))<|.c (dV x)<|.ls [ke 1,ke 2,ke 3,ch 4 (di (k+1:Nat))] (ij v.n (v.az.take (k+1)))) (Y ((k:Int)<(I (cc v.az):Int))=J/\Q 2/\0<=(k:Int)/\(cc v.az)[Z (k:Int)]?=G (Ac x)/\_/\Q (U eV (take k v.az))/\Ao (I (U eV (take k v.az))+I (Ac x::nV)) 32/\yp/\di (yu yt ((k:Int)+1))=di (↑(k+1):Int)/\[G [di 0,dn],G [di v.n,br 1 (U eV (take k v.az)++Ac x::nV)]]=[G [di 0,dn],G [di v.n,br 1 (U eV (take (k+1) v.az))]]/\[(1,2,U eV (take k v.az)++Ac x::nV)]=[(1,2,U eV (take (k+1) v.az))]/\_) ⟨HC (by rw[H9];omega),rfl,by omega,An hx,hk x (HG hx),rfl,⟨?_,?_⟩,yn,Ae,?_,?_,iK (ih (k+1) (by omega))⟩
  ·simp only[H9,Ig,HF,HJ];omega
  ·simp only[H9,Ig,HF,HJ];omega
  ·rw[ht,B1]
  ·rw[ht,B1]
noncomputable abbrev ly:=[kl A6 d5,bh 0,kc A6 [1,1,1]]
theorem DD(N:Nat):∀v:bc,v.size<=N->v.size<=1000000->F0 101 [dV v] (dV v):=by
 induction N with
 |zero=>intro v h;have:=v.size_pos;omega
 |succ N ih=>
  intro v hN hv
  have hs:=v.size_eq
  have:=VE v hv (fun x hx=>by have:=bc.size_mem hx;exact ih x (by omega) (by omega)) _ 0 rfl
  exact sv AZ 27 [1] (.h .rn<|.h (.q 2 0)<|.h (.cl 1 1 1 2)<|.ls [ke 1,ke 2,ke 3,ch 4 (di (0:Nat))] (ij v.n [])) (Q (di 0)/\Q (ij v.n []).H/\Q [(1,2,nV)]/\I0 AZ (I bd.H) (dV v) bd ly (ba 27 [(1,bt (f7 v)),i7,jr,(4,di (↑0:Int))]) (ij v.n [])) ⟨rfl,rfl,rfl,⟨by simpa using this⟩⟩
noncomputable abbrev Qf:=Tryz.f67
noncomputable def N8:=yl Qf
def AQ(v:bc):List bc->Nat
 |[]=>0
 |x::l=>if Aq x v<0 then AQ v l+1 else 0
def BH(l:List bc)(v:bc):List bc:=match l[AQ v l]? with
 |some x=>if (Aq x v==0)=J then l else l.take (AQ v l)++v::l.drop (AQ v l)
 |none=>l.take (AQ v l)++v::l.drop (AQ v l)
theorem XV(v:bc):∀l:List bc,AQ v l<=I l
 |[]=>HH _
 |x::l=>by
  have:=XV v l
  unfold AQ;split<;>simp only[HF]<;>omega
theorem XU(v:bc):∀(l:List bc) (k:Nat),k<AQ v l->∃x,l[k]?=G x/\Aq x v<0
 |[],k,h=>by simp[AQ] at h
 |x::l,k,h=>by
  unfold AQ at h
  split at h
  ·rename_i hx
   cases k with
   |zero=>exact⟨x,rfl,hx⟩
   |succ k=>exact XU v l k (by omega)
  ·omega
theorem XW(v:bc):∀(l:List bc) (x:bc),l[AQ v l]?=G x->¬Aq x v<0
 |[],x,h=>by simp at h
 |y::l,x,h=>by
  unfold AQ at h
  split at h
  ·exact XW v l x (by simpa using h)
  ·rename_i hy
   simp at h;subst h;exact hy
theorem xk(l:List bc):∀x∈l.map eV,x.size=2:=fun x hx=>by
 obtain⟨y,_,rfl⟩:=Is.1 hx
 rw[AE];rfl
theorem Aji(l:List bc)(i j:Nat):∀x∈ ((l.map eV).take j).drop i,x.size=2:=fun x hx=>xk l x (IR (I1 hx))
theorem Afv(l:List bc)(v:bc)(k:Nat):take k (l.map eV)++[Ac v]++W k (l.map eV)=(l.take k++v::l.drop k).map eV:=by
 rw[←AE];simp[List.map_take,List.map_drop]
theorem XS(l:List bc)(v:bc)(k:Nat):bt (ai (W 0 (take ((k:Nat):Int).toNat (l.map eV))++[Ac v]++W ((k:Nat):Int).toNat (take (I (l.map eV)) (l.map eV))))=cx (l.take k++v::l.drop k):=by
 rw[Jk,List.take_length];exact HX (fun z=>bt (ai z)) (Afv l v k)
noncomputable abbrev ma:=fun a₀ b₀=>F0 11 [dV a₀,dV b₀] (di (Aq a₀ b₀))
noncomputable abbrev qn:=fun a₀=>F0 101 [dV a₀] (dV a₀)
theorem Acb(l:List bc)(v:bc)(hl:bc.sizes l<=1000000)(hv:v.size<=1000000)(n:Nat):∀k:Nat,AQ v l-k=n->k<=AQ v l->
  Rn PP Qf 0 (cx (BH l v)) bd ([kl N8 [1,1,0,0,0],.blk 0,kc N8 [1,1,1]]++[]) (ba 46 [(0,cx l),(3,.v (.ref (Ac v))),(5,di k)]) bd:=by
 have hil:=XV v l
 have hll:=bc.length_le l
 induction n with
 |zero=>
  intro k hn hk0
  have hk:k=AQ v l:=by omega
  subst hk
  cases hx:l[AQ v l]? with
  |none=>
   have e1:BH l v=l.take (AQ v l)++v::l.drop (AQ v l):=by rw[BH,hx]
   have hlt:I l<=AQ v l:=List.getElem?_eq_none_iff.1 hx
   rw[e1]
   refine lv 46 [3] (.f<|.k<|.f<|.k<|.a 1<|.w<|.c (dV v)<|.w<|.w<|.r) (Y ((↑(AQ v l):Int)<(I (U eV l):Int))=O/\Y ((↑(AQ v l):Int)<(I (U eV l):Int))=O/\(∀(x:V),x∈U eV l->V.size x=2)/\0<=(fun x=>x.snd) (yt,(↑(AQ v l):Int))/\(fun x=>x.snd) (yt,(↑(AQ v l):Int))<=(I (U eV l):Int)/\Ao (I (W 0 (take (Z ((fun x=>x.snd) (yt,(↑(AQ v l):Int)))) (U eV l)))) 32/\(∀(y:V),y∈W 0 (take (Z ((fun x=>x.snd) (yt,(↑(AQ v l):Int)))) (U eV l))->V.size y=2)/\qn v/\Q (W 0 (take (Z ((fun x=>x.snd) (yt,(↑(AQ v l):Int)))) (U eV l)))/\Ao (I (W 0 (take (Z ((fun x=>x.snd) (yt,(↑(AQ v l):Int)))) (U eV l)))+I (Ac v::nV)) 32/\(∀(y:V),y∈ [Ac v]->V.size y=2)/\(∀(x:V),x∈U eV l->V.size x=2)/\0<=(fun x=>x.snd) (yt,(↑(AQ v l):Int))/\(fun x=>x.snd) (yt,(↑(AQ v l):Int))<=(I (U eV l):Int)/\Q (W 0 (take (Z ((fun x=>x.snd) (yt,(↑(AQ v l):Int)))) (U eV l))++Ac v::nV)/\Ao (I (W 0 (take (Z ((fun x=>x.snd) (yt,(↑(AQ v l):Int)))) (U eV l))++Ac v::nV)+I (W (Z ((fun x=>x.snd) (yt,(↑(AQ v l):Int)))) (take (I (U eV l)) (U eV l)))) 32/\(∀(y:V),y∈W (Z ((fun x=>x.snd) (yt,(↑(AQ v l):Int)))) (take (I (U eV l)) (U eV l))->V.size y=2)/\bt (ai (W 0 (take (Z ((fun x=>x.snd) (yt,(↑(AQ v l):Int)))) (U eV l))++[Ac v]++W (Z ((fun x=>x.snd) (yt,(↑(AQ v l):Int)))) (take (I (U eV l)) (U eV l))))=cx (take (AQ v l) l++v::W (AQ v l) l)) ?_
   have z0:(0:Int)<=(AQ v l:Int):=by omega
   have z1:(AQ v l:Int)<=(I (l.map eV):Int):=by rw[H9];omega
   have z2:∀y∈ [Ac v],y.size=2:=fun y hy=>by rw[HQ.1 hy];rfl
   repeat' first|with_reducible refine And.intro ?_ ?_
   all_goals first|exact HE (by rw[H9];omega)|exact xk l|exact Aji l _ _|exact z2|exact DD _ v (HH _) hv|exact z0|exact z1|exact Ik _|rfl|(simp only[HO,IF,Ig,H9,HF,HJ];omega)|exact XS l v _
  |some x=>
   have hlt:=(HD.1 hx).1
   have hc:=XW v l x hx
   have hsz:=bc.size_mem (HG hx)
   have z0':(0:Int)<=(AQ v l:Int):=by omega
   by_cases he:(Aq x v==0)=J
   ·have e1:BH l v=l:=by rw[BH,hx];simp only[he,IJ]
    rw[e1]
    exact lv 46 [3] (.t<|.h (.xs (Ac x))<|.c (di (Aq x v))<|.f<|.t<|.h (.xs (Ac x))<|.c (db (Aq x v==0))<|.t<|.r) (Y ((↑(AQ v l):Int)<(I (U eV l):Int))=J/\Q 2/\_/\(U eV l)[Z (↑(AQ v l):Int)]?=G (Ac x)/\_/\Y (Aq x v<0)=O/\Y ((↑(AQ v l):Int)<(I (U eV l):Int))=J/\Q 2/\_/\(U eV l)[Z (↑(AQ v l):Int)]?=G (Ac x)/\_/\_/\Q (cx l)) ⟨HC (by rw[H9];omega),rfl,z0',An hx,Dh _ x v (HH _) (by omega),HE hc,HC (by rw[H9];omega),rfl,z0',An hx,GD x v (by omega),he,rfl⟩
   ·have e1:BH l v=l.take (AQ v l)++v::l.drop (AQ v l):=by rw[BH,hx];simp only[he];rfl
    have he2:(Aq x v==0)=O:=by simpa using he
    rw[e1]
    refine lv 46 [3] (.t<|.h (.xs (Ac x))<|.c (di (Aq x v))<|.f<|.t<|.h (.xs (Ac x))<|.c (db (Aq x v==0))<|.f<|.a 1<|.w<|.c (dV v)<|.w<|.w<|.r) (Y ((↑(AQ v l):Int)<(I (U eV l):Int))=J/\Q 2/\0<=(↑(AQ v l):Int)/\(U eV l)[Z (↑(AQ v l):Int)]?=G (Ac x)/\ma x v/\Y (Aq x v<0)=O/\Y ((↑(AQ v l):Int)<(I (U eV l):Int))=J/\Q 2/\0<=(↑(AQ v l):Int)/\(U eV l)[Z (↑(AQ v l):Int)]?=G (Ac x)/\F0 14 [dV x,dV v] (db (Aq x v==0))/\(Aq x v==0)=O/\(∀(x:V),x∈U eV l->V.size x=2)/\0<=(fun x=>x.snd) (yt,(↑(AQ v l):Int))/\(fun x=>x.snd) (yt,(↑(AQ v l):Int))<=(I (U eV l):Int)/\Ao (I (W 0 (take (Z ((fun x=>x.snd) (yt,(↑(AQ v l):Int)))) (U eV l)))) 32/\(∀(y:V),y∈W 0 (take (Z ((fun x=>x.snd) (yt,(↑(AQ v l):Int)))) (U eV l))->V.size y=2)/\qn v/\Q (W 0 (take (Z ((fun x=>x.snd) (yt,(↑(AQ v l):Int)))) (U eV l)))/\Ao (I (W 0 (take (Z ((fun x=>x.snd) (yt,(↑(AQ v l):Int)))) (U eV l)))+I (Ac v::nV)) 32/\(∀(y:V),y∈ [Ac v]->V.size y=2)/\(∀(x:V),x∈U eV l->V.size x=2)/\0<=(fun x=>x.snd) (yt,(↑(AQ v l):Int))/\(fun x=>x.snd) (yt,(↑(AQ v l):Int))<=(I (U eV l):Int)/\Q (W 0 (take (Z ((fun x=>x.snd) (yt,(↑(AQ v l):Int)))) (U eV l))++Ac v::nV)/\Ao (I (W 0 (take (Z ((fun x=>x.snd) (yt,(↑(AQ v l):Int)))) (U eV l))++Ac v::nV)+I (W (Z ((fun x=>x.snd) (yt,(↑(AQ v l):Int)))) (take (I (U eV l)) (U eV l)))) 32/\(∀(y:V),y∈W (Z ((fun x=>x.snd) (yt,(↑(AQ v l):Int)))) (take (I (U eV l)) (U eV l))->V.size y=2)/\bt (ai (W 0 (take (Z ((fun x=>x.snd) (yt,(↑(AQ v l):Int)))) (U eV l))++[Ac v]++W (Z ((fun x=>x.snd) (yt,(↑(AQ v l):Int)))) (take (I (U eV l)) (U eV l))))=cx (take (AQ v l) l++v::W (AQ v l) l)) ?_
    have z0:(0:Int)<=(AQ v l:Int):=by omega
    have z1:(AQ v l:Int)<=(I (l.map eV):Int):=by rw[H9];omega
    have z2:∀y∈ [Ac v],y.size=2:=fun y hy=>by rw[HQ.1 hy];rfl
    repeat' first|with_reducible refine And.intro ?_ ?_
    all_goals first|exact HC (by rw[H9];omega)|exact An hx|exact Dh _ x v (HH _) (by omega)|exact HE hc|exact GD x v (by omega)|exact he2|exact xk l|exact Aji l _ _|exact z2|exact DD _ v (HH _) hv|exact z0|exact z1|exact Ik _|rfl|(simp only[HO,IF,Ig,H9,HF,HJ];omega)|exact XS l v _
 |succ n ih=>
  intro k hn hk0
  obtain⟨x,hx,hc⟩:=XU v l k (by omega)
  have hlt:=(HD.1 hx).1
  have hsz:=bc.size_mem (HG hx)
  exact lv 46 [3] (.t<|.h (.xs (Ac x))<|.c (di (Aq x v))<|.t<|.l [ke 0,ke 3,ch 5 (di (k+1:Nat))]) (Y ((k:Int)<(I (U eV l):Int))=J/\Q 2/\0<=(k:Int)/\(U eV l)[Z (k:Int)]?=G (Ac x)/\_/\Y (Aq x v<0)=J/\di (yu yt ((k:Int)+1))=di (↑(k+1):Int)/\_) ⟨HC (by rw[H9];omega),rfl,by omega,An hx,Dh _ x v (HH _) (by omega),HC hc,Ae,iK (ih (k+1) (by omega) (by omega))⟩
theorem Om(l:List bc)(v:bc)(hl:bc.sizes l<=1000000)(hv:v.size<=1000000):F0 67 [cx l,dV v] (cx (BH l v)):=by
 exact sv Qf 46 [3] (.l [ke 0,ke 3,ch 5 (di (0:Nat))]) (Q (di 0)/\_) ⟨rfl,iK (Acb l v hl hv _ 0 rfl (Ik _))⟩
def mz(np age:Int)(v:bc):Prop:=∃p g:Int,(0<=p/\p<np)/\(0<=g/\g<age+2)/\v=.mk 0 [.mk p [],.mk g []]
structure m7(np age:Int)(n:Nat)(ts:List bc):Prop where
 tok:∀t∈ts,mz np age t
 len:I ts<=n
 asc:∀i x y,ts[i]?=G x->ts[i+1]?=G y->Aq x y<0
theorem mz.sz{np age:Int}{v:bc}(h:mz np age v):v.size=3:=by
 obtain⟨p,g,_,_,rfl⟩:=h;rfl
theorem Xc{np age:Int}:∀(ts:List bc),(∀t∈ts,mz np age t)->bc.sizes ts=3*I ts
 |[],_=>rfl
 |t::ts,h=>by
  have h1:=(h t (by simp)).sz
  have h2:=Xc ts fun z hz=>h z (by simp[hz])
  simp only[bc.sizes,HF];omega
theorem qg{np age:Int}{v:bc}(h:mz np age v):m7 np age 1 [v]:=⟨fun t ht=>by rw[HQ.1 ht];exact h,by simp,fun i x y _ hy=>by simp at hy⟩
theorem Afu{np age:Int}{ts:List bc}{v:bc}(h:m7 np age 1 ts)(hv:mz np age v):m7 np age 2 (BH ts v):=by
 match ts,h with
 |[],_=>exact⟨(qg hv).tok,by simp[BH,AQ],(qg hv).asc⟩
 |[x],h=>
  have hx:=h.tok x (by simp)
  by_cases hc:Aq x v<0
  ·have e:BH [x] v=[x,v]:=by simp[BH,AQ,hc]
   rw[e]
   refine⟨fun t ht=>?_,by simp,fun i a b ha hb=>?_⟩
   ·rcases Iq.1 ht with rfl|ht
    ·exact hx
    ·rw[HQ.1 ht];exact hv
   ·match i,ha,hb with
    |0,ha,hb=>simp at ha hb;subst ha hb;exact hc
    |i+1,_,hb=>simp at hb
  ·by_cases he:(Aq x v==0)=J
   ·have e:BH [x] v=[x]:=by simp only[BH,AQ,hc,if_false,List.getElem?_cons_zero,he,IJ]
    rw[e]
    exact⟨h.tok,by simp,fun i a b ha hb=>by simp at hb⟩
   ·have e:BH [x] v=[v,x]:=by simp only[BH,AQ,hc,if_false,List.getElem?_cons_zero,he];rfl
    rw[e]
    refine⟨fun t ht=>?_,by simp,fun i a b ha hb=>?_⟩
    ·rcases Iq.1 ht with rfl|ht
     ·exact hv
     ·rw[HQ.1 ht];exact hx
    ·match i,ha,hb with
     |0,ha,hb=>
      simp at ha hb;subst ha hb
      have:=(Bz.swap v x trivial trivial).2
      have he:Aq x v≠0:=by simpa using he
      exact this (by omega)
     |i+1,_,hb=>simp at hb
 |_::_::_,h=>exact absurd h.len (by simp)
noncomputable abbrev lw:=Tryz.f40
noncomputable def TD:=yl lw
abbrev Xz(l:List UInt8)(a:Nat):St:=⟨[G (cr l a),G [di 0,.v .nils]],[]⟩
noncomputable abbrev ql:=fun a₀ b₀=>[ab [vi a₀,ai []],ab [vi b₀,ai []]]
noncomputable abbrev sf:=fun a₀ b₀=>[ab [vi a₀,ai []],ab [vi b₀,ai []]]
theorem OS(l:List UInt8)(hl:I l<=200)(m:b9)(hpl:1<=I m.ay/\m.ay.length<=2)(hag:0<=m.age/\m.age<=3)(k:Nat)(hk:k<=2)(a:Nat)(ha:a<=I l)(ts:List bc)(hts:bc.sizes ts<=1000):
  ∃(t:bc) (a':Nat),mz (I m.ay) m.age t/\a'<=I l/\∀(d:D) (σ':St),Rn PP lw 1 d σ' ([kl TD [1,1,0,1,0,0],.blk 0,kc TD [1,1,1]]++[]) (ba 43 [(0,.ptr 0 0),(4,.v (.ref (A1 m))),(6,.ptr 1 0),(7,cx (BH ts t)),(8,di k)]) (Xz l a')->
   Rn PP lw 1 d σ' ([kl TD [1,1,0,1,0,0],.blk 0,kc TD [1,1,1]]++[]) (ba 43 [(0,.ptr 0 0),(4,.v (.ref (A1 m))),(6,.ptr 1 0),(7,cx ts),(8,di (k+1:Nat))]) (Xz l a):=by
 obtain⟨p,a1,p1,p2,p3,p4⟩:=A2 l hl a ha (I m.ay) (by omega) (by omega)
 obtain⟨g,a2,q1,q2,q3,q4⟩:=A2 l hl a1 p3 (m.age+2) (by omega) (by omega)
 obtain⟨t,ht⟩:∃t:bc,t=.mk 0 [.mk p [],.mk g []]:=⟨_,rfl⟩
 refine⟨t,a2,⟨p,g,⟨p1,p2⟩,⟨q1,q2⟩,ht⟩,q3,fun d σ' hrn=>?_⟩
 refine lv 43 [4] (.t<|.c1 (cr l a1) (di p)<|.c1 (cr l a2) (di g)<|.c (cx (BH ts t))<|.ls [ke 0,ke 4,ke 6,ch 7 (cx (BH ts t)),ch 8 (di k)] (Xz l a2)) (Y ((↑(k+1):Int)>0)=J/\Aa PP 7 [bq 0 0,di (I (U ae m.ay):Int)] (dz l a) (di p) (dz l a1)/\Aa PP 7 [bq 0 0,di (yu yt (m.age+2))] (dz l a1) (di g) (dz l a2)/\F0 67 [cx ts,bt (ab [vi 0,ai (sf p g)])] (cx (BH ts t))/\Q (cx (BH ts t))/\di (yu yt ((↑(k+1):Int)-1))=di (k:Int)/\Q (Xz l a2).H/\I0 lw 1 d σ' [kl TD [1,1,0,1,0,0],bh 0,kc TD [1,1,1]] (ba 43 [gu,(4,bt (bz (A1 m))),(6,bq 1 0),(7,cx (BH ts t)),(8,di (k:Int))]) (Xz l a2)) ?_
 rw[show yu yt (m.age+2)=m.age+2 from Al,show yu yt ((k+1:Nat)-1:Int)=(k:Int) from by rw[Al];omega]
 refine⟨yr,by rw[H9];exact p4,q4,?_,rfl,rfl,rfl,⟨hrn⟩⟩
 subst ht
 exact Om ts (.mk 0 [.mk p [],.mk g []]) (by omega) (by show 3<=1000000;decide)
theorem jh:Cd PP 29=G (31,2,32,G (.agg #[.int .i64 0,.slice none 0 0])):=by kernel_rfl
theorem Agl{o:yy}{σ:St}(ho:o.op=.buildSlice 29 2 #[(0,.tmp 38),(1,.tmp 40)])(x y:bc):Aj PP o [.v (Ac x),.v (Ac y)] σ (.gro (I σ.H) 2 2) ⟨σ.H++[G (Ab [Ac x,Ac y])],σ.own⟩:=
 H8 ho (by rfl) rfl jh rfl (ds:=[.v (Ac x),.v (Ac y)]) (xs:=[Ac x,Ac y]) rfl (fun z hz=>by simp at hz;rcases hz with rfl|rfl<;>rfl) (by decide) (by decide) (by decide)
noncomputable abbrev Ar4:=fun a₀ b₀=>[di (bc.n (bc.mk a₀ [])),bt (dt (bc.az (bc.mk a₀ []))),di (bc.n (bc.mk 0 b₀)),bt (dt (bc.az (bc.mk 0 b₀)))]
theorem AdR(l:List UInt8)(hl:I l<=200)(m:b9)(hst:1<=I m.aw/\m.aw.length<=3)(a:Nat)(ha:a<=I l)(ts:List bc):
  ∃(s:Int) (a':Nat),(0<=s/\s<I m.aw)/\a'<=I l/\Rn PP lw 1 (.dagg [di 0,.gro 2 2 2]) ⟨[G (cr l a'),G [di 0,.gro 2 2 2],G (Ab [Ac (.mk s []),Ac (.mk 0 ts)])],[]⟩ ([kl TD [1,1,0,1,0,0],.blk 0,kc TD [1,1,1]]++[]) (ba 43 [(0,.ptr 0 0),(4,.v (.ref (A1 m))),(6,.ptr 1 0),(7,cx ts),(8,di (0:Nat))]) (Xz l a):=by
 obtain⟨s,a1,p1,p2,p3,p4⟩:=A2 l hl a ha (I m.aw) (by omega) (by omega)
 refine⟨s,a1,⟨p1,p2⟩,p3,?_⟩
 exact lv 43 [4] (.f<|.c1 (cr l a1) (di s)<|.h (.q 6 8)<|.h (.o (.gro 2 2 2) ⟨[G (cr l a1),G [di 0,.v .nils],G (Ab [Ac (.mk s []),Ac (.mk 0 ts)])],[]⟩)<|.h .g<|.h .ww<|.rd) (Y ((↑0:Int)>0)=O/\Aa PP 7 [bq 0 0,di (I (U ae m.aw):Int)] (dz l a) (di s) (dz l a1)/\Aj PP (Oper.mk (G 41) (Op.buildSlice 29 2 #[(0,Operand.tmp 38),(1,Operand.tmp 40)]) 29 "play.go:141" #[Edge.mk 5 Ground.data,Edge.mk 7 Ground.data] none) [bt (ab [vi s,ai []]),bt (ab [vi 0,dt ts])] (bi [G (cr l a1),G [di 0,dn]] []) (bm 2 2 2) (bi [G (cr l a1),G [di 0,dn],G (Ar4 s ts)] [])/\2<=2/\Q [G (cr l a1),G [di 0,bm 2 2 2],G (Ar4 s ts)]/\Q (bj [di 0,bm 2 2 2])) ⟨by decide,by rw[H9];exact p4,Agl (σ:=⟨[G (cr l a1),G [di 0,.v .nils]],[]⟩) rfl (.mk s []) (.mk 0 ts),by decide,rfl,rfl⟩
theorem ZE{σ:St}{t:Nat}(e:List D)(he:e[t]?=G (.v .nils)):Cv e σ (e.set t (.v (.list []))) σ:=fun E g a w hf=>by
 obtain⟨u,hu,hr⟩:=BF hf.env he
 refine⟨g,hf.wi,?_,hf.defers⟩
 have:=CR hf.env t (d:=.v (.list [])) (u:=u) (Ft hr)
 rwa[DV hu] at this
theorem AdQ(l:List UInt8)(hl:I l<=200)(m:b9)(hpl:1<=I m.ay/\m.ay.length<=2)(hag:0<=m.age/\m.age<=3)(a:Nat)(ha:a<=I l)(r:Nat)(hr:r<=2):
  ∃(ts:List bc) (a':Nat),m7 (I m.ay) m.age 2 ts/\a'<=I l/\∀(d:D) (σ':St),Rn PP lw 1 d σ' ([kl TD [1,1,0,1,0,0],.blk 0,kc TD [1,1,1]]++[]) (ba 43 [(0,.ptr 0 0),(4,.v (.ref (A1 m))),(6,.ptr 1 0),(7,cx ts),(8,di (0:Nat))]) (Xz l a')->
   Rn PP lw 1 d σ' ([kl TD [1,1,0,1,0,0],.blk 0,kc TD [1,1,1]]++[]) (ba 43 [(0,.ptr 0 0),(4,.v (.ref (A1 m))),(6,.ptr 1 0),(7,cx []),(8,di (r:Nat))]) (Xz l a):=by
 rcases(show r=0∨r=1∨r=2 by omega) with rfl|rfl|rfl
 ·exact⟨[],a,⟨fun t ht=>by simp at ht,by simp,fun i x y hx=>by simp at hx⟩,ha,fun d σ' h=>h⟩
 ·obtain⟨t,a1,h1,h2,h3⟩:=OS l hl m hpl hag 0 (by omega) a ha [] (by decide)
  exact⟨BH [] t,a1,⟨(qg h1).tok,by simp[BH,AQ],(qg h1).asc⟩,h2,h3⟩
 ·obtain⟨t,a1,h1,h2,h3⟩:=OS l hl m hpl hag 1 (by omega) a ha [] (by decide)
  obtain⟨t2,a2,h4,h5,h6⟩:=OS l hl m hpl hag 0 (by omega) a1 h2 [t] (by simp only[bc.sizes,h1.sz];decide)
  exact⟨BH [t] t2,a2,Afu (qg h1) h4,h5,fun d σ' h=>h3 d σ' (h6 d σ' h)⟩
theorem Agm(l:List UInt8)(hl:I l<=200)(m:b9)(hst:1<=I m.aw/\m.aw.length<=3)(hpl:1<=I m.ay/\m.ay.length<=2)(hag:0<=m.age/\m.age<=3)(a:Nat)(ha:a<=I l):
  ∃(s:Int) (ts:List bc) (a':Nat),(0<=s/\s<I m.aw)/\m7 (I m.ay) m.age 2 ts/\a'<=I l/\Aa PP 40 [.ptr 0 0,Af m,di 2] (dz l a) (.dagg [di 0,.arr 1 0 2]) ⟨[G (cr l a'),G [di s,cx [],di 0,cx ts]],[]⟩:=by
 obtain⟨r,a1,p1,p2,p3,p4⟩:=A2 l hl a ha 3 (by decide) (by decide)
 obtain⟨r,rfl⟩:∃n:Nat,r=n:=⟨r.toNat,by omega⟩
 obtain⟨ts,a2,h1,h2,h3⟩:=AdQ l hl m hpl hag a1 p3 r (by omega)
 obtain⟨s,a3,h4,h5,h6⟩:=AdR l hl m hst a2 h2 ts
 refine⟨s,ts,a3,h4,h1,h5,?_⟩
 have hrn:=h3 _ _ h6
 refine AbB (c1:=[di 0]) (c2:=[]) (T:=[G [di 0,.gro 2 2 2],G (Ab [Ac (.mk s []),Ac (.mk 0 ts)])]) (q:=1) (sz:=2) rfl rfl rfl rfl rfl ?_
 refine sv lw 43 [4] (.h (.q 2 0)<|.h (.ct 7 (cx []) (Xz l a))<|.c1 (cr l a1) (di r)<|.ls [ke 0,ke 4,ke 6,ch 7 (cx []),ch 8 (di r)] (Xz l a1)) ((∀(e:List D),e[7]?=G (dn)->∀(E:cf) (g:Gh) (a_2:Act) (w:x5),FI E g (bi [G (cr l a),G [bt gf,dn]] (dz l a).own) e a_2 w->∃g',FI E g' (Xz l a) (List.set e 7 (cx [])) a_2 w)/\Aa PP 7 [bq 0 0,di (yu yt (2+1))] (dz l a) (di (r:Int)) (dz l a1)/\Q (cx [])/\Q (di (r:Int))/\Q (Xz l a1).H/\I0 lw (I (dz l a).H) (bj ([di 0]++[bm (1+1) 2 2])) (bi [G (cr l a3),G [di 0,bm 2 2 2],G (Ab [Ac (fz s),Ac (bc.mk 0 ts)])] []) [kl TD d5,bh 0,kc TD [1,1,1]] (ba 43 [gd,(4,bt (ic m)),(6,bq 1 0),(7,cx []),(8,di (r:Int))]) (Xz l a1)) ?_
 have w3:yu yt (2+1)=3:=by decide
 rw[w3]
 exact⟨fun e he=>ZE e he,p4,rfl,rfl,rfl,⟨hrn⟩⟩
abbrev p5:List (List UInt8):=[[114],[115]]
def er(nm:List UInt8)(f t:Int)(tk:List Tk)(mk:List Int):cp:=⟨nm,f,t,[],[],[],0,0,0,[],[],tk,mk,0⟩
abbrev fe(S Pl:List (List UInt8))(ag:Int)(rs:List cp):List D:=[di 5,.v (co S),.v (co Pl),.v .nils,.v .nils,di 0,di ag,.acc 2 (rs.map Ai),di 0,.v .nils]
abbrev Xy(l:List UInt8)(a:Nat)(S Pl:List (List UInt8))(ag:Int)(rs:List cp):St:=⟨[G (cr l a),G zM,G (fe S Pl ag rs)],[(2,14,rs.map Ai)]⟩
structure NM(ns np:Nat)(ag:Int)(k:Nat)(r:cp):Prop where
 name:p5[k]?=G r.name
 aj:0<=r.aj/\r.aj<ns
 to:0<=r.to/\r.to<ns
 ar:r.ar=[]∨∃p lo hi:Int,(0<=p/\p<np)/\(0<=lo/\lo<=hi/\hi<=ag+1)/\r.ar=[⟨p,lo,hi⟩]
 aq:r.aq=[]∨∃p:Int,(0<=p/\p<np)/\r.aq=[p]
 rest:r=er r.name r.aj r.to r.ar r.aq
structure BB(m:b9):Prop where
 kind:m.kind=5
 aw:m.aw=[[97]]∨m.aw=[[97],[98]]
 ay:m.ay=[[120]]∨m.ay=[[120],[121]]
 ax:m.ax=[]
 au:m.au=[]
 ao:m.ao=0
 age:0<=m.age/\m.age<=1
 count:I m.av<=2
 pos:1<=I m.av
 av:∀k r,m.av[k]?=G r->NM (I m.aw) (I m.ay) m.age k r
 start:∃ts:List bc,m7 (I m.ay) m.age 2 ts/\m.start=.mk 0 [.mk 0 [],.mk 0 ts]
theorem SW{ns np:Nat}{ag:Int}{rs:List cp}{k:Nat}{nm:List UInt8}{f t:Int}{tk:List Tk}{mk:List Int}(hnm:p5[k]?=G nm)(hf:0<=f/\f<ns)(ht:0<=t/\t<ns)(h1:tk=[]∨∃p lo hi:Int,(0<=p/\p<np)/\(0<=lo/\lo<=hi/\hi<=ag+1)/\tk=[⟨p,lo,hi⟩])(h2:mk=[]∨∃p:Int,(0<=p/\p<np)/\mk=[p])(hrs:I rs=k)(hR:∀i r,rs[i]?=G r->NM ns np ag i r):∀i r,(rs++[er nm f t tk mk])[i]?=G r->NM ns np ag i r:=fun i r hi=>by
 by_cases hik:i<I rs
 ·rw[HW hik] at hi;exact hR i r hi
 ·rw[HT (by omega)] at hi
  have h0:i-I rs=0:=by
   have:=(HD.1 hi).1
   simp at this;omega
  rw[h0] at hi
  simp at hi;subst hi
  have hik2:i=k:=by omega
  subst hik2
  exact⟨hnm,hf,ht,h1,h2,rfl⟩
noncomputable abbrev mq:=Tryz.f18
noncomputable def Wx:=yl mq
noncomputable abbrev Amf:=fun a₀ b₀ c₀ d₀=>Aa PP 7 [bq 0 0,di 2] (dz a₀ b₀) (di c₀) (dz a₀ d₀)
noncomputable abbrev Aow:=fun (a₀:Nat)=>(ba 94 [gd,(2,bq 1 0),(3,bq 2 0),(4,di (↑(a₀+1):Int))])
noncomputable abbrev Ap3:=fun a₀=>[ke 0,ke 2,ke 3,ch 4 (di (a₀+1:Nat))]
noncomputable abbrev Ap8:=fun a₀ b₀ c₀ d₀=>(ae a₀::vi b₀::vi c₀::ai nV::ai nV::ai nV::vi 0::vi 0::vi 0::ai nV::ai nV::ai nV::ai (vi d₀::nV)::vi 0::nV)
noncomputable abbrev Apm:=[kl Wx d5,bh 0,kc Wx [1,1,1]]
noncomputable abbrev Ar1:=fun a₀ b₀ c₀ d₀=>(ae a₀::vi b₀::vi c₀::ai nV::ai nV::ai nV::vi 0::vi 0::vi 0::ai nV::ai nV::ai nV::ai (vi d₀::nV)::vi 0::nV)
noncomputable abbrev sg:=fun a₀=>[ke 0,ke 2,ke 3,ch 4 (di (a₀+1:Nat))]
noncomputable abbrev jt:=fun a₀ b₀ c₀ d₀=>Aa PP 7 [bq 0 0,di 2] (dz a₀ b₀) (di c₀) (dz a₀ d₀)
noncomputable abbrev si:=[kl Wx [1,1,0,1,0,0],bh 0,kc Wx [1,1,1]]
theorem Abv(l:List UInt8)(hl:I l<=200)(S Pl:List (List UInt8))(ag:Int)(hS:S=[[97]]∨S=[[97],[98]])(hP:Pl=[[120]]∨Pl=[[120],[121]])(hag:0<=ag/\ag<=1)(n:Nat):∀(k a:Nat) (rs:List cp),2-k=n->a<=I l->k<=2->I rs=k->(∀i r,rs[i]?=G r->NM (I S) (I Pl) ag i r)->
  ∃(m:b9) (a':Nat),BB m/\a'<=I l/\Rn PP mq 1 (Af m) (dz l a') ([kl Wx [1,1,0,1,0,0],.blk 0,kc Wx [1,1,1]]++[]) (ba 94 [(0,.ptr 0 0),(2,.ptr 1 0),(3,.ptr 2 0),(4,di k)]) (Xy l a S Pl ag rs):=by
 induction n using Nat.strongRecOn with
 |_ n ih=>
 intro k a rs hn ha hk2 hrs hR
 have hSl:1<=I S/\S.length<=2:=by rcases hS with rfl|rfl<;>decide
 have hPl:1<=I Pl/\Pl.length<=2:=by rcases hP with rfl|rfl<;>decide
 have hSm:(I (S.map ae):Int)=(I S:Int):=by rw[H9]
 have hPm:(I (Pl.map ae):Int)=(I Pl:Int):=by rw[H9]
 have wag:yu yt (ag+2)=ag+2:=Al
 obtain⟨r,a1,h1,h2,h3,h4⟩:=A2 l hl a ha 2 (by decide) (by decide)
 by_cases hk:(k:Int)<1+r
 ·obtain⟨f,a2,f1,f2,f3,f4⟩:=A2 l hl a1 h3 (I S) (by omega) (by omega)
  obtain⟨t,a3,t1,t2,t3,t4⟩:=A2 l hl a2 f3 (I S) (by omega) (by omega)
  obtain⟨nm,hnm⟩:∃nm,p5[k]?=G nm:=⟨_,HA (show k<I p5 by show k<2;omega)⟩
  have hkr:Y ((k:Int)<yu yt (1+r))=J:=by rw[Al];exact HC hk
  obtain⟨u,a4,u1,u2,u3,u4⟩:=A2 l hl a3 t3 2 (by decide) (by decide)
  by_cases hu:(u==0)=J
  ·obtain⟨lo,a5,lo1,lo2,lo3,lo4⟩:=A2 l hl a4 u3 (ag+2) (by omega) (by omega)
   obtain⟨p,a6,p1,p2,p3,p4⟩:=A2 l hl a5 lo3 (I Pl) (by omega) (by omega)
   obtain⟨hi,a7,hi1,hi2,hi3,hi4⟩:=A2 l hl a6 p3 (ag+2-lo) (by omega) (by omega)
   obtain⟨x,a8,x1,x2,x3,x4⟩:=A2 l hl a7 hi3 2 (by decide) (by decide)
   have wlo:yu yt (ag+2-lo)=ag+2-lo:=Al
   have whi:yu yt (lo+hi)=lo+hi:=Al
   have htk:([⟨p,lo,lo+hi⟩]:List Tk)=[]∨∃p' lo' hi':Int,(0<=p'/\p'<I Pl)/\(0<=lo'/\lo'<=hi'/\hi'<=ag+1)/\([⟨p,lo,lo+hi⟩]:List Tk)=[⟨p',lo',hi'⟩]:=.inr ⟨p,lo,lo+hi,⟨p1,p2⟩,⟨lo1,by omega,by omega⟩,rfl⟩
   by_cases hx:(x==0)=J
   ·obtain⟨q,a9,q1,q2,q3,q4⟩:=A2 l hl a8 x3 (I Pl) (by omega) (by omega)
    obtain⟨m,a',m1,m2,m3⟩:=ih (2- (k+1)) (by omega) (k+1) a9 (rs++[er nm f t [⟨p,lo,lo+hi⟩] [q]]) rfl q3 (by omega) (by simp[hrs]) (SW hnm ⟨f1,f2⟩ ⟨t1,t2⟩ htk (.inr ⟨q,⟨q1,q2⟩,rfl⟩) hrs hR)
    refine⟨m,a',m1,m2,?_⟩
    refine lv 94 [] (.c1 (cr l a1) (di r)<|.t<|.h (.dr 15)<|.x (.str nm)<|.c1 (cr l a2) (di f)<|.c1 (cr l a3) (di t)<|.c1 (cr l a4) (di u)<|.t<|.c1 (cr l a5) (di lo)<|.c1 (cr l a6) (di p)<|.c1 (cr l a7) (di hi)<|.c1 (cr l a8) (di x)<|.t<|.c1 (cr l a9) (di q)<|.ls (sg k) (Xy l a9 S Pl ag (rs++[er nm f t [⟨p,lo,lo+hi⟩] [q]]))) (jt l a r a1/\Y ((k:Int)<yu yt (1+r))=J/\0<=(k:Int)/\[ae na.data.toList,ae n9.data.toList][Z (k:Int)]?=G (ae nm)/\Aa PP 7 [bq 0 0,di (I (U ae S):Int)] (dz l a1) (di f) (dz l a2)/\Aa PP 7 [bq 0 0,di (I (U ae S):Int)] (dz l a1) (di f) (dz l a2)/\Q (di f)/\Aa PP 7 [bq 0 0,di (I (U ae S):Int)] (dz l a2) (di t) (dz l a3)/\Aa PP 7 [bq 0 0,di (I (U ae S):Int)] (dz l a2) (di t) (dz l a3)/\Q (di t)/\Q [bi [G (cr l a1),G zM,G (fe S Pl ag rs),G ei] (gq rs),bi [G (cr l a2),G zM,G (fe S Pl ag rs),G ei] (gq rs),bi [G (cr l a3),G zM,G (fe S Pl ag rs),G ei] (gq rs)]/\((yh (Q (dy S)))/\(yh (Q (dy S)))/\True)/\jt l a3 u a4/\(u==0)=J/\Aa PP 7 [bq 0 0,di (yu yt (ag+2))] (dz l a4) (di lo) (dz l a5)/\Aa PP 7 [bq 0 0,di (I (U ae Pl):Int)] (dz l a5) (di p) (dz l a6)/\Aa PP 7 [bq 0 0,di (yu yt (yu yt (ag+2)-lo))] (dz l a6) (di hi) (dz l a7)/\(True/\(Q (G [di ag])/\True)/\True)/\jt l a7 x a8/\(x==0)=J/\Aa PP 7 [bq 0 0,di (I (U ae Pl):Int)] (dz l a8) (di q) (dz l a9)/\Q (U Ai rs)/\Ao (I (U Ai rs)+I (ab (ae nm::aa yt f::aa yt t::ai nV::ai nV::ai nV::aa yt 0::aa yt 0::aa yt 0::ai nV::ai nV::ai (ab (aa yt p::aa yt lo::aa yt (yu yt (lo+hi))::nV)::nV)::ai (aa yt q::nV)::aa yt 0::nV)::nV)) 232/\di (yu yt ((k:Int)+1))=di (↑(k+1):Int)/\[G (cr l a9),G zM,G [di 5,bt (co S),bt (co Pl),dn,dn,di 0,di ag,br 2 (U Ai rs++ab (ae nm::vi f::vi t::ai nV::ai nV::ai nV::vi 0::vi 0::vi 0::ai nV::ai nV::ai (ab (vi p::vi lo::vi (yu yt (lo+hi))::nV)::nV)::ai (vi q::nV)::vi 0::nV)::nV),di 0,dn]]=[G (cr l a9),G zM,G (fe S Pl ag (rs++[er nm f t [Tk.mk p lo (lo+hi)] [q]]))]/\[(2,14,U Ai rs++ab (ae nm::vi f::vi t::ai nV::ai nV::ai nV::vi 0::vi 0::vi 0::ai nV::ai nV::ai (ab (vi p::vi lo::vi (yu yt (lo+hi))::nV)::nV)::ai (vi q::nV)::vi 0::nV)::nV)]=[(2,14,U Ai (rs++[er nm f t [Tk.mk p lo (lo+hi)] [q]]))]/\I0 mq 1 (Af m) (dz l a') si (ba 94 [gu,(2,bq 1 0),(3,bq 2 0),(4,di (↑(k+1):Int))]) (Xy l a9 S Pl ag (rs++[er nm f t [Tk.mk p lo (lo+hi)] [q]]))) ?_
    rw[hSm,hPm,wag,wlo,whi]
    repeat' first|with_reducible refine And.intro ?_ ?_
    all_goals first|exact h4|exact hkr|exact f4|exact t4|exact u4|exact lo4|exact p4|exact hi4|exact hu|exact hx|exact x4|exact q4|  exact C0 hnm|exact⟨m3⟩|exact Ae|omega|rfl|trivial|skip
    all_goals first|exact HX (fun z=>[G (cr l a9),G zM,G [di 5,.v (co S),.v (co Pl),.v .nils,.v .nils,di 0,di ag,.acc 2 z,di 0,.v .nils]]) (AV rs (er nm f t [⟨p,lo,lo+hi⟩] [q]))|exact HX (fun z=>[(2,14,z)]) (AV rs (er nm f t [⟨p,lo,lo+hi⟩] [q]))|(simp only[H9,HF,HJ];omega)
   ·have hx:(x==0)=O:=by simpa using hx
    obtain⟨m,a',m1,m2,m3⟩:=ih (2- (k+1)) (by omega) (k+1) a8 (rs++[er nm f t [⟨p,lo,lo+hi⟩] []]) rfl x3 (by omega) (by simp[hrs]) (SW hnm ⟨f1,f2⟩ ⟨t1,t2⟩ htk (.inl rfl) hrs hR)
    refine⟨m,a',m1,m2,?_⟩
    refine lv 94 [] (.c1 (cr l a1) (di r)<|.t<|.h (.dr 15)<|.x (.str nm)<|.c1 (cr l a2) (di f)<|.c1 (cr l a3) (di t)<|.c1 (cr l a4) (di u)<|.t<|.c1 (cr l a5) (di lo)<|.c1 (cr l a6) (di p)<|.c1 (cr l a7) (di hi)<|.c1 (cr l a8) (di x)<|.f<|.ls (sg k) (Xy l a8 S Pl ag (rs++[er nm f t [⟨p,lo,lo+hi⟩] []]))) (jt l a r a1/\Y ((k:Int)<yu yt (1+r))=J/\0<=(k:Int)/\[ae na.data.toList,ae n9.data.toList][Z (k:Int)]?=G (ae nm)/\Aa PP 7 [bq 0 0,di (I (U ae S):Int)] (dz l a1) (di f) (dz l a2)/\Aa PP 7 [bq 0 0,di (I (U ae S):Int)] (dz l a1) (di f) (dz l a2)/\Q (di f)/\Aa PP 7 [bq 0 0,di (I (U ae S):Int)] (dz l a2) (di t) (dz l a3)/\Aa PP 7 [bq 0 0,di (I (U ae S):Int)] (dz l a2) (di t) (dz l a3)/\Q (di t)/\Q [bi [G (cr l a1),G zM,G (fe S Pl ag rs),G ei] (gq rs),bi [G (cr l a2),G zM,G (fe S Pl ag rs),G ei] (gq rs),bi [G (cr l a3),G zM,G (fe S Pl ag rs),G ei] (gq rs)]/\((yh (Q (dy S)))/\(yh (Q (dy S)))/\True)/\jt l a3 u a4/\(u==0)=J/\Aa PP 7 [bq 0 0,di (yu yt (ag+2))] (dz l a4) (di lo) (dz l a5)/\Aa PP 7 [bq 0 0,di (I (U ae Pl):Int)] (dz l a5) (di p) (dz l a6)/\Aa PP 7 [bq 0 0,di (yu yt (yu yt (ag+2)-lo))] (dz l a6) (di hi) (dz l a7)/\(True/\(Q (G [di ag])/\True)/\True)/\jt l a7 x a8/\(x==0)=O/\Q (U Ai rs)/\Ao (I (U Ai rs)+I (ab (ae nm::aa yt f::aa yt t::ai nV::ai nV::ai nV::aa yt 0::aa yt 0::aa yt 0::ai nV::ai nV::ai (ab (aa yt p::aa yt lo::aa yt (yu yt (lo+hi))::nV)::nV)::ai nV::aa yt 0::nV)::nV)) 232/\di (yu yt ((k:Int)+1))=di (↑(k+1):Int)/\[G (cr l a8),G zM,G [di 5,bt (co S),bt (co Pl),dn,dn,di 0,di ag,br 2 (U Ai rs++ab (ae nm::vi f::vi t::ai nV::ai nV::ai nV::vi 0::vi 0::vi 0::ai nV::ai nV::ai (ab (vi p::vi lo::vi (yu yt (lo+hi))::nV)::nV)::ai nV::vi 0::nV)::nV),di 0,dn]]=[G (cr l a8),G zM,G (fe S Pl ag (rs++[er nm f t [Tk.mk p lo (lo+hi)] []]))]/\[(2,14,U Ai rs++ab (ae nm::vi f::vi t::ai nV::ai nV::ai nV::vi 0::vi 0::vi 0::ai nV::ai nV::ai (ab (vi p::vi lo::vi (yu yt (lo+hi))::nV)::nV)::ai nV::vi 0::nV)::nV)]=[(2,14,U Ai (rs++[er nm f t [Tk.mk p lo (lo+hi)] []]))]/\I0 mq 1 (Af m) (dz l a') si (ba 94 [gu,(2,bq 1 0),(3,bq 2 0),(4,di (↑(k+1):Int))]) (Xy l a8 S Pl ag (rs++[er nm f t [Tk.mk p lo (lo+hi)] []]))) ?_
    rw[hSm,hPm,wag,wlo,whi]
    repeat' first|with_reducible refine And.intro ?_ ?_
    all_goals first|exact h4|exact hkr|exact f4|exact t4|exact u4|exact lo4|exact p4|exact hi4|exact hu|exact hx|exact x4|  exact C0 hnm|exact⟨m3⟩|exact Ae|omega|rfl|trivial|skip
    all_goals first|exact HX (fun z=>[G (cr l a8),G zM,G [di 5,.v (co S),.v (co Pl),.v .nils,.v .nils,di 0,di ag,.acc 2 z,di 0,.v .nils]]) (AV rs (er nm f t [⟨p,lo,lo+hi⟩] []))|exact HX (fun z=>[(2,14,z)]) (AV rs (er nm f t [⟨p,lo,lo+hi⟩] []))|(simp only[H9,HF,HJ];omega)
  ·have hu:(u==0)=O:=by simpa using hu
   obtain⟨x,a8,x1,x2,x3,x4⟩:=A2 l hl a4 u3 2 (by decide) (by decide)
   by_cases hx:(x==0)=J
   ·obtain⟨q,a9,q1,q2,q3,q4⟩:=A2 l hl a8 x3 (I Pl) (by omega) (by omega)
    obtain⟨m,a',m1,m2,m3⟩:=ih (2- (k+1)) (by omega) (k+1) a9 (rs++[er nm f t [] [q]]) rfl q3 (by omega) (by simp[hrs]) (SW hnm ⟨f1,f2⟩ ⟨t1,t2⟩ (.inl rfl) (.inr ⟨q,⟨q1,q2⟩,rfl⟩) hrs hR)
    refine⟨m,a',m1,m2,?_⟩
    refine lv 94 [] (.c1 (cr l a1) (di r)<|.t<|.h (.dr 15)<|.x (.str nm)<|.c1 (cr l a2) (di f)<|.c1 (cr l a3) (di t)<|.c1 (cr l a4) (di u)<|.f<|.c1 (cr l a8) (di x)<|.t<|.c1 (cr l a9) (di q)<|.ls (sg k) (Xy l a9 S Pl ag (rs++[er nm f t [] [q]]))) (jt l a r a1/\Y ((k:Int)<yu yt (1+r))=J/\0<=(k:Int)/\[ae na.data.toList,ae n9.data.toList][Z (k:Int)]?=G (ae nm)/\Aa PP 7 [bq 0 0,di (I (U ae S):Int)] (dz l a1) (di f) (dz l a2)/\Aa PP 7 [bq 0 0,di (I (U ae S):Int)] (dz l a1) (di f) (dz l a2)/\Q (di f)/\Aa PP 7 [bq 0 0,di (I (U ae S):Int)] (dz l a2) (di t) (dz l a3)/\Aa PP 7 [bq 0 0,di (I (U ae S):Int)] (dz l a2) (di t) (dz l a3)/\Q (di t)/\Q [bi [G (cr l a1),G zM,G (fe S Pl ag rs),G ei] (gq rs),bi [G (cr l a2),G zM,G (fe S Pl ag rs),G ei] (gq rs),bi [G (cr l a3),G zM,G (fe S Pl ag rs),G ei] (gq rs)]/\((yh (Q (dy S)))/\(yh (Q (dy S)))/\True)/\jt l a3 u a4/\(u==0)=O/\jt l a4 x a8/\(x==0)=J/\Aa PP 7 [bq 0 0,di (I (U ae Pl):Int)] (dz l a8) (di q) (dz l a9)/\Q (U Ai rs)/\Ao (I (U Ai rs)+I (ab (ae nm::aa yt f::aa yt t::ai nV::ai nV::ai nV::aa yt 0::aa yt 0::aa yt 0::ai nV::ai nV::ai nV::ai (aa yt q::nV)::aa yt 0::nV)::nV)) 232/\di (yu yt ((k:Int)+1))=di (↑(k+1):Int)/\[G (cr l a9),G zM,G [di 5,bt (co S),bt (co Pl),dn,dn,di 0,di ag,br 2 (U Ai rs++ab (Ar1 nm f t q)::nV),di 0,dn]]=[G (cr l a9),G zM,G (fe S Pl ag (rs++[er nm f t [] [q]]))]/\[(2,14,U Ai rs++ab (Ar1 nm f t q)::nV)]=[(2,14,U Ai (rs++[er nm f t [] [q]]))]/\I0 mq 1 (Af m) (dz l a') si (ba 94 [gu,(2,bq 1 0),(3,bq 2 0),(4,di (↑(k+1):Int))]) (Xy l a9 S Pl ag (rs++[er nm f t [] [q]]))) ?_
    rw[hSm,hPm]
    repeat' first|with_reducible refine And.intro ?_ ?_
    all_goals first|exact h4|exact hkr|exact f4|exact t4|exact u4|exact hu|exact hx|exact x4|exact q4|  exact C0 hnm|exact⟨m3⟩|exact Ae|omega|rfl|trivial|skip
    all_goals first|exact HX (fun z=>[G (cr l a9),G zM,G [di 5,.v (co S),.v (co Pl),.v .nils,.v .nils,di 0,di ag,.acc 2 z,di 0,.v .nils]]) (AV rs (er nm f t [] [q]))|exact HX (fun z=>[(2,14,z)]) (AV rs (er nm f t [] [q]))|(simp only[H9,HF,HJ];omega)
   ·have hx:(x==0)=O:=by simpa using hx
    obtain⟨m,a',m1,m2,m3⟩:=ih (2- (k+1)) (by omega) (k+1) a8 (rs++[er nm f t [] []]) rfl x3 (by omega) (by simp[hrs]) (SW hnm ⟨f1,f2⟩ ⟨t1,t2⟩ (.inl rfl) (.inl rfl) hrs hR)
    refine⟨m,a',m1,m2,?_⟩
    refine lv 94 [] (.c1 (cr l a1) (di r)<|.t<|.h (.dr 15)<|.x (.str nm)<|.c1 (cr l a2) (di f)<|.c1 (cr l a3) (di t)<|.c1 (cr l a4) (di u)<|.f<|.c1 (cr l a8) (di x)<|.f<|.ls (sg k) (Xy l a8 S Pl ag (rs++[er nm f t [] []]))) (jt l a r a1/\Y ((k:Int)<yu yt (1+r))=J/\0<=(k:Int)/\[ae na.data.toList,ae n9.data.toList][Z (k:Int)]?=G (ae nm)/\Aa PP 7 [bq 0 0,di (I (U ae S):Int)] (dz l a1) (di f) (dz l a2)/\Aa PP 7 [bq 0 0,di (I (U ae S):Int)] (dz l a1) (di f) (dz l a2)/\Q (di f)/\Aa PP 7 [bq 0 0,di (I (U ae S):Int)] (dz l a2) (di t) (dz l a3)/\Aa PP 7 [bq 0 0,di (I (U ae S):Int)] (dz l a2) (di t) (dz l a3)/\Q (di t)/\Q [bi [G (cr l a1),G zM,G (fe S Pl ag rs),G ei] (gq rs),bi [G (cr l a2),G zM,G (fe S Pl ag rs),G ei] (gq rs),bi [G (cr l a3),G zM,G (fe S Pl ag rs),G ei] (gq rs)]/\((yh (Q (dy S)))/\(yh (Q (dy S)))/\True)/\jt l a3 u a4/\(u==0)=O/\jt l a4 x a8/\(x==0)=O/\Q (U Ai rs)/\Ao (I (U Ai rs)+I (Art nm f t)) 232/\di (yu yt ((k:Int)+1))=di (↑(k+1):Int)/\[G (cr l a8),G zM,G [di 5,bt (co S),bt (co Pl),dn,dn,di 0,di ag,br 2 (Arz rs nm f t),di 0,dn]]=[G (cr l a8),G zM,G (fe S Pl ag (rs++[er nm f t [] []]))]/\[(Arx rs nm f t)]=[(2,14,U Ai (rs++[er nm f t [] []]))]/\I0 mq 1 (Af m) (dz l a') si (ba 94 [gu,(2,bq 1 0),(3,bq 2 0),(4,di (↑(k+1):Int))]) (Xy l a8 S Pl ag (rs++[er nm f t [] []]))) ?_
    rw[hSm]
    repeat' first|with_reducible refine And.intro ?_ ?_
    all_goals first|exact h4|exact hkr|exact f4|exact t4|exact u4|exact hu|exact hx|exact x4|  exact C0 hnm|exact⟨m3⟩|exact Ae|omega|rfl|trivial|skip
    all_goals first|exact HX (fun z=>[G (cr l a8),G zM,G [di 5,.v (co S),.v (co Pl),.v .nils,.v .nils,di 0,di ag,.acc 2 z,di 0,.v .nils]]) (AV rs (er nm f t [] []))|exact HX (fun z=>[(2,14,z)]) (AV rs (er nm f t [] []))|(simp only[H9,HF,HJ];omega)
 ·obtain⟨m0',hm0⟩:∃m0':b9,m0'=⟨5,S,Pl,[],[],0,ag,rs,.mk 0 []⟩:=⟨_,rfl⟩
  obtain⟨s,ts,a2,s1,s2,s3,s4⟩:=Agm l hl m0' (by rw[hm0];show 1<=I S/\S.length<=3;omega) (by rw[hm0];exact hPl) (by rw[hm0];show 0<=ag/\ag<=3;omega) a1 h3
  refine⟨⟨5,S,Pl,[],[],0,ag,rs,.mk 0 [.mk 0 [],.mk 0 ts]⟩,a2,⟨rfl,hS,hP,rfl,rfl,rfl,hag,by show I rs<=2;omega,by show 1<=I rs;omega,hR,ts,by rw[hm0] at s2;exact s2,rfl⟩,s3,?_⟩
  refine lv 94 [] (.c1 (cr l a1) (di r)<|.f<|.h (.oc (.dagg [di 0,.arr 3 0 2]) ⟨[G (cr l a2),G zM,G (fe S Pl ag rs),G [di s,cx [],di 0,cx ts]],[(2,14,rs.map Ai)]⟩)<|.h .ww<|.m (.arr 3 0 2)<|.h (.q 14 0)<|.h (.cs ⟨[G (cr l a2),G zM,G [di 5,.v (co S),.v (co Pl),.v .nils,.v .nils,di 0,di ag,.acc 2 (rs.map Ai),di 0,.v (.list [Ac (.mk 0 []),Ac (.mk 0 ts)])],none],[(2,14,rs.map Ai)]⟩) .r) (_/\Y ((k:Int)<yu yt (1+r))=O/\(N0 [bt (bw 40 [] []),bq 0 0,bt (ab [vi 5,co S,co Pl,bv,bv,vi 0,vi ag,ai (U Ai rs),vi 0,bv]),di 2] (bi [G (cr l a1),G zM,G (fe S Pl ag rs)] [(2,14,U Ai rs)]) (bj [di 0,bo 3 0 2]) (bi [G (cr l a2),G zM,G (fe S Pl ag rs),G [di s,cx [],di 0,cx ts]] [(2,14,U Ai rs)]))/\10<=10/\Q (G (bo 3 0 2))/\iz 0<=0/\0<(↑2:Int)/\(∀(e:List D) (E:cf) (g:Gh) (a:Act) (w:x5),FI E g (bi [G (cr l a2),G zM,G (take (Nat.add 0 8) (fe S Pl ag rs)++Ax (bj [di 0,bo 3 0 2])++W (Nat.add 0 8+2) (fe S Pl ag rs)),G [j8 [(0,bq 0 0).snd,bk,(2,bq 1 0).snd,(3,bq 2 0).snd,(4,di (k:Int)).snd,bk,bk,bk,bk,bk,bk,bk,bk,bk,bk,bk,bk,bk,bk,bk,(4,di (k:Int)).snd,(0,bq 0 0).snd,di r,bt (aa yt (yu yt (1+r))),bt (bu false),bk,bk,bk,bk,bk,bk,bk,bk,bk,bk,bk,bk,bk,bk,bk,bk,bk,bk,bk,bk,bk,bk,bk,bk,bk,bk,bk,bk,bk,bk,bk,bk,bk,bk,bk,bk,bk,bk,bk,bk,bk,bk,bk,bk,bk,bk,bk,bk,bk,bk,bk,bk,bk,bk,bk,bk,bk,bk,bk,(0,bq 0 0).snd,bt (ab [aa yt 5,co S,co Pl,bv,bv,aa yt 0,aa yt ag,ai (U Ai rs),aa yt 0,bv]),bj [di 0,bo 3 0 2],bq 2 (Nat.add 0 8),bq 2 (Nat.add 0 8),bq 2 (Nat.add (Nat.add 0 8) 1),bo 3 0 2,bq 3 (0+Z 0*2),bq 3 (Nat.add (0+Z 0*2) 0),bk] (Operand.const (Value.int yt 0)),cx [],di 0,cx ts]] [(2,14,U Ai rs)]) e a w->∃g',FI E g' (bi [G (cr l a2),G zM,G [di 5,bt (co S),bt (co Pl),dn,dn,di 0,di ag,br 2 (U Ai rs),di 0,bt (ai [Ac (bc.mk 0 []),Ac (bc.mk 0 ts)])],none] [(2,14,U Ai rs)]) e a w)/\Q [G (cr l a2)]/\bt (ab [vi 5,ai (U ae S),ai (U ae Pl),ai [],ai [],vi 0,vi ag,ai (U Ai rs),vi 0,ai [Ac (bc.mk 0 []),Ac (bc.mk 0 ts)]])=Af (b9.mk 5 S Pl [] [] 0 ag rs (bc.mk 0 [bc.mk 0 [],bc.mk 0 ts]))) ⟨h4,HE (by rw[Al];exact hk),fun o c fo ho hc=>?_,by decide,rfl,by decide,by decide,?_,rfl,?_⟩
  ·refine BD (ds':=[.v (.fn 40 [] []),.ptr 0 0,Af m0',di 2]) (fun g us h=>by rw[hm0];exact CV (ts:=[]) (kn:=false) h) ?_
   have h:=BX (σ:=⟨[G (cr l a1),G zM,G (fe S Pl ag rs)],[(2,14,rs.map Ai)]⟩) ho hc (fD:=.v (.fn 40 [] [])) rfl (ds:=[.ptr 0 0,Af m0',di 2]) [0] id s4 (.cons (.ren (dc:=.ptr 0 0) rfl) (.cons (.ren (dc:=Af m0') rfl) (.cons (.ren (dc:=di 2) rfl) .nil)))
    (.cons rfl (.cons (.ren (dc:=.v (i4 l)) rfl) (.cons (.ren (dc:=di a1) rfl) .nil)) (by rfl) .nil) (by simp) rfl (by simp) (by simp) (by simp[D.okN,D.okNs]) (by simp[cm,D.okNs,D.okN])
   simp[D7,CD,Ev,D.ren,D.rens,df] at h
   exact h
  ·intro e
   exact BP (σ:=⟨[G (cr l a2),G zM,G [di 5,.v (co S),.v (co Pl),.v .nils,.v .nils,di 0,di ag,.acc 2 (rs.map Ai),di 0,.arr 3 0 2],G (Ab [Ac (.mk 0 []),Ac (.mk 0 ts)])],[(2,14,rs.map Ai)]⟩) (p:=2) (q:=3) (i:=9) (sz:=2) (cs:=[di 5,.v (co S),.v (co Pl),.v .nils,.v .nils,di 0,di ag,.acc 2 (rs.map Ai),di 0,.arr 3 0 2]) (xs:=[Ac (.mk 0 []),Ac (.mk 0 ts)]) (by decide) rfl rfl (by decide) rfl (fun x hx=>by simp at hx;rcases hx with rfl|rfl<;>rfl) e
  ·show bt (ab [vi 5,co S,co Pl,co [],cz [],vi 0,vi ag,Dq rs,vi 0,ai [Ac (.mk 0 []),Ac (.mk 0 ts)]])=_
   rw[←AE, ←AE];rfl
theorem Aht(l:List UInt8)(hl:I l<=200)(a:Nat)(ha:a<=I l):
  ∃(m:b9) (a':Nat),BB m/\a'<=I l/\Aa PP 18 [.ptr 0 0] (dz l a) (Af m) (dz l a'):=by
 obtain⟨r1,a1,p1,p2,p3,p4⟩:=A2 l hl a ha 2 (by decide) (by decide)
 obtain⟨r2,a2,q1,q2,q3,q4⟩:=A2 l hl a1 p3 2 (by decide) (by decide)
 obtain⟨ag,a3,u1,u2,u3,u4⟩:=A2 l hl a2 q3 2 (by decide) (by decide)
 obtain⟨n1,rfl⟩:∃n:Nat,r1=n:=⟨r1.toNat,by omega⟩
 obtain⟨n2,rfl⟩:∃n:Nat,r2=n:=⟨r2.toNat,by omega⟩
 obtain⟨S,hS⟩:∃S,S=([[97],[98]]:List (List UInt8)).take (1+n1):=⟨_,rfl⟩
 obtain⟨Pl,hPl⟩:∃S,S=([[120],[121]]:List (List UInt8)).take (1+n2):=⟨_,rfl⟩
 have hSx:S=[[97]]∨S=[[97],[98]]:=by
  rcases(show n1=0∨n1=1 by omega) with rfl|rfl
  ·exact .inl hS
  ·exact .inr hS
 have hPx:Pl=[[120]]∨Pl=[[120],[121]]:=by
  rcases(show n2=0∨n2=1 by omega) with rfl|rfl
  ·exact .inl hPl
  ·exact .inr hPl
 obtain⟨m,a',m1,m2,m3⟩:=Abv l hl S Pl ag hSx hPx ⟨u1,by omega⟩ _ 0 a3 [] rfl u3 (by omega) rfl (by simp)
 refine⟨m,a',m1,m2,?_⟩
 refine sv mq 94 [] (.h (.dr 13)<|.c1 (cr l a1) (di n1)<|.c1 (cr l a2) (di n2)<|.c1 (cr l a3) (di ag)<|.h .rn<|.h (.q 2 0)<|.h (.cl 2 7 2 14)<|.ls [ke 0,ke 2,ke 3,ch 4 (di (0:Nat))] (Xy l a3 S Pl ag [])) (jn l a n1 a1/\jn l a n1 a1/\Q (di (n1:Int))/\(∀(x:V),x∈ oo->V.size x=1)/\0<=(fun x=>x.snd) (yt,yu yt (fh n1))/\(fun x=>x.snd) (yt,yu yt (fh n1))<=(↑(I oo):Int)/\jn l a1 n2 a2/\jn l a1 n2 a2/\Q (di (n2:Int))/\(∀(x:V),x∈ jo->V.size x=1)/\0<=(fun x=>x.snd) (yt,yu yt (fh n2))/\(fun x=>x.snd) (yt,yu yt (fh n2))<=(↑(I jo):Int)/\Amf l a2 ag a3/\Amf l a2 ag a3/\Q (di ag)/\Q [bi (ge l a) [],bi (ge l a1) [],bi (ge l a2) [],bi (ge l a3) []]/\True/\di 0=di (↑0:Int)/\[G (cr l a3),G nn,G [di 5,bt (ai (W 0 (take (Z ((fun x=>x.snd) (yt,yu yt (fh n1)))) wn))),bt (ai (W 0 (take (Z ((fun x=>x.snd) (yt,yu yt (fh n2)))) qk))),dn,dn,di 0,di ag,br 2 nV,di 0,dn]]=[G (cr l a3),G zM,G (fe S Pl ag [])]/\Q [(2,14,nV)]/\I0 mq (I (dz l a).H) (Af m) (dz l a') Apm (ba 94 [gd,(2,bq 1 0),(3,bq 2 0),(4,di (↑0:Int))]) (Xy l a3 S Pl ag [])) ?_
 have w1:yu yt (1+(n1:Int))=1+n1:=Al
 have w2:yu yt (1+(n2:Int))=1+n2:=Al
 have z1:∀x∈ [ae [97],ae [98]],x.size=1:=by simp[V.size]
 have z2:∀x∈ [ae [120],ae [121]],x.size=1:=by simp[V.size]
 have k1:ai (W 0 (take (1+(n1:Int)).toNat [ae [97],ae [98]]))=co S:=by
  rw[hS,Jk,show(1+(n1:Int)).toNat=1+n1 by omega]
  rcases(show n1=0∨n1=1 by omega) with rfl|rfl<;>rfl
 have k2:ai (W 0 (take (1+(n2:Int)).toNat [ae [120],ae [121]]))=co Pl:=by
  rw[hPl,Jk,show(1+(n2:Int)).toNat=1+n2 by omega]
  rcases(show n2=0∨n2=1 by omega) with rfl|rfl<;>rfl
 rw[w1,w2]
 refine⟨p4,p4,rfl,z1,by show 0<=1+(n1:Int);omega,by show 1+(n1:Int)<=2;omega,q4,q4,rfl,z2,by show 0<=1+(n2:Int);omega,by show 1+(n2:Int)<=2;omega,u4,u4,rfl,rfl,trivial,rfl,?_,rfl,⟨m3⟩⟩
 show [G (cr l a3),G zM,G [di 5,.v (ai (W 0 (take (1+(n1:Int)).toNat [ae [97],ae [98]]))),.v (ai (W 0 (take (1+(n2:Int)).toNat [ae [120],ae [121]]))),.v .nils,.v .nils,di 0,di ag,.acc 2 [],di 0,.v .nils]]=_
 rw[k1,k2];rfl
def Zc(P:x7)(t:x6):Bool:=match P.underlying t with
 |some (.int .i64)=>true
 |_=>false
theorem OC{P:x7}{t:x6}(h:Zc P t=J):P.underlying t=G (.int .i64):=by
 unfold Zc at h
 split at h
 ·assumption
 ·simp at h
def Lz(P:x7)(t:x6):Bool:=match (P.fieldsOf t).toList with
 |[f,g,h]=>f.name !="_"&&g.name !="_"&&h.name !="_"&&f.offset==0&&g.offset==1&&h.offset==2&&P.plainKey f.type&&P.plainKey g.type&&P.plainKey h.type&&Zc P f.type&&Zc P g.type&&Zc P h.type
 |_=>false
theorem Afp{P:x7}{t:x6}(h2:Lz P t=J)(ht:P.underlying t=G (.struct (P.fieldsOf t)))(hp:P.stoodInHeld t=O)(d:Nat)(a b c:Int)(w:x5):
  (Op.equalIn (d+2) t (.agg #[.int .i64 a,.int .i64 b,.int .i64 c]) (.agg #[.int .i64 a,.int .i64 b,.int .i64 c])).run P w=.ok true w:=by
 rw[run_equalIn_struct w (d+1) t _ _ ht hp]
 unfold Lz at h2
 split at h2
 ·rename_i f g h hfs
  rw[hfs]
  simp only[HB,bne_iff_ne,Il] at h2
  obtain⟨⟨⟨⟨⟨⟨⟨⟨⟨⟨⟨n1,n2⟩,n3⟩,o1⟩,o2⟩,o3⟩,p1⟩,p2⟩,p3⟩,u1⟩,u2⟩,u3⟩:=h2
  have e1:∀w,(part f.type #[.int .i64 a,.int .i64 b,.int .i64 c] f.offset).run P w=.ok (.int .i64 a) w:=fun w=>run_part_plain w p1 (by rw[o1];rfl)
  have e3:∀w,(part g.type #[.int .i64 a,.int .i64 b,.int .i64 c] g.offset).run P w=.ok (.int .i64 b) w:=fun w=>run_part_plain w p2 (by rw[o2];rfl)
  have e5:∀w,(part h.type #[.int .i64 a,.int .i64 b,.int .i64 c] h.offset).run P w=.ok (.int .i64 c) w:=fun w=>run_part_plain w p3 (by rw[o3];rfl)
  simp only[Op.eqFields,ne_eq,n1,n2,n3,not_false_eq_true,IJ,Sem.run_bind,e1,Result.andThen_ok,run_equalIn_int _ d _ .i64 .i64 _ _ (OC u1)]
  have u2':=fun w=>run_equalIn_int (P:=P) w d g.type .i64 .i64 b b (OC u2)
  have u3':=fun w=>run_equalIn_int (P:=P) w d h.type .i64 .i64 c c (OC u3)
  simp[Sem.run_ite,e3,u2',e5,u3']
 ·simp at h2
abbrev ld:x6:=85
theorem Abr:Lz PP ld=J:=by kernel_rfl
theorem Akl:PP.underlying ld=G (.struct (PP.fieldsOf ld)):=by kernel_rfl
theorem Afg:PP.stoodInHeld ld=O:=by kernel_rfl
theorem Abs:PP.eqGuardType PP.depth ld=O:=by kernel_rfl
theorem Ahr:RW PP ld 3:=by unfold RW;kernel_rfl
theorem Acl{o:yy}{σ:St}{ty:x6}{x y:x8}(ho:o.op=.binOp .neq ld x y ty)(a:Tk):Aj PP o [.v (dx a),.v (dx a)] σ (db O) σ:=by
 refine A0 fun E g ρ w hw hds=>?_
 simp only[ho,Op.operands,Av] at hds
 obtain⟨u,v,e,h1,h2'⟩:=hds
 simp only[Ia,I7,HN,Io] at e
 obtain⟨e1,e2⟩:=e
 simp only[Ag,C6] at h1 h2'
 obtain⟨ws,h1,rfl⟩:=h1
 obtain⟨vs,h3,rfl⟩:=h2'
 have hw1:ws=[.int .i64 a.1,.int .i64 a.2,.int .i64 a.3]:=by
  simp only[repA,repC,HN,Io] at h1
  obtain⟨u,us,rfl,_,rfl,u2,us2,rfl,_,rfl,u3,us3,rfl,_,rfl,rfl⟩:=h1;rfl
 have hw2:vs=[.int .i64 a.1,.int .i64 a.2,.int .i64 a.3]:=by
  simp only[repA,repC,HN,Io] at h3
  obtain⟨u,us,rfl,_,rfl,u2,us2,rfl,_,rfl,u3,us3,rfl,_,rfl,rfl⟩:=h3;rfl
 subst hw1 hw2
 refine⟨.bool false,?_,by simp[Ag]⟩
 have hr:=Afp Abr Akl Afg 9998 a.1 a.2 a.3 w
 simp[execOp,ho,e1,e2,run_eqGuard_agg w .neq ld x y _ _ Abs,run_neq_struct,hr]
theorem AfU(a:Tk):F0 168 [.v (AA [a]),.v (AA [a])] (db J):=by
 exact sv Aly 26 [] (.n<|.x (dx a)<|.x (dx a)<|.h (.p (.v (dx a)))<|.h (.p (db O))<|.n<|.r) (iz 0<=0/\Q (G (dx a))/\iz 0<=0/\Q (G (dx a))/\(∀(τ:St),Aj PP (Oper.mk (G 23) (Op.load 85 (Operand.tmp 22)) 85 "slices.go:25" #[Edge.mk 6 Ground.data] none) [bt (bz (dx a))] τ (bt (dx a)) τ)/\(∀(τ:St),Aj PP (Oper.mk (G 24) (Op.binOp BinOp.neq 85 (Operand.tmp 19) (Operand.tmp 23) 85) 4 "slices.go:25" #[Edge.mk 3 Ground.data,Edge.mk 7 Ground.data] none) [bt (dx a),bt (dx a)] τ (db O) τ)/\Q (db J)) ⟨by decide,rfl,by decide,rfl,fun τ=>PG rfl Ahr,fun τ=>Acl rfl a,rfl⟩
theorem Adp(l:List Tk)(h:I l<=1):F0 168 [.v (AA l),.v (AA l)] (db J):=by
 match l,h with
 |[],_=>exact Z4 []
 |[a],_=>exact AfU a
noncomputable abbrev Als:=Tryz.f162
theorem Ab9(l:List Int)(h:I l<=1):F0 162 [cw l] (db J):=by
 match l,h with
 |[],_=>
  refine sv Als 21 [] (.n<|.r) (Q (db J)) ?_
  rfl
 |[a],_=>
  refine sv Als 21 [] (.n<|.r) (Q (db J)) ?_
  rfl
noncomputable abbrev AlX:=Tryz.f163
theorem Aea(n:Nat)(hn:n<=1000000)(x:Int):F0 163 [di x,.v (.ref (vi n))] (db (Ay x 0 (n-1))):=by
 exact sv AlX 7 [] (.c (db (Ay x 0 (n-1))) .r) (_/\Q (db (Ay x 0 ((n:Int)-1)))) ⟨Df x n hn,rfl⟩
noncomputable abbrev AlW:=Tryz.f165
theorem AjD(m:b9)(hm:I m.ay<=1000000)(hag:0<=m.age/\m.age<=1000)(t:Tk)(h1:0<=t.place/\t.place<I m.ay)(h2:0<=t.low/\t.low<=t.high/\t.high<=m.age+1):F0 165 [.v (dx t),.v (.ref (vi (I m.ay))),.v (.ref (A1 m))] (db O):=by
 refine sv AlW 30 [3] (.c (db J)<|.k<|.f<|.f<|.r) (F0 113 [di t.place,di (I m.ay:Int)] (db J)/\Y (t.low<0)=O/\Y (t.low>t.high)=O/\db (Y (t.high>yu yt (m.age+1)))=db O) ?_
 have h:=Df t.place (I m.ay) hm
 rw[show Ay t.place 0 ((I m.ay:Int)-1)=J by simp[Ay];omega] at h
 refine⟨h,yq,yq,?_⟩
 rw[Al,yq]
noncomputable abbrev AiJ:=Tryz.f197
noncomputable abbrev AiO:=Tryz.f164
theorem V0(F:yx)(cs:List V)(l:List Tk)(h:I l<=1)(hp:∀x∈l,F0 F ((([]:List V)++[dx x]++cs).map .v) (db O)):F0 164 [.v (AA l),.v (.fn F [] cs)] (db O):=by
 have hi:F0 197 [.v (AA l),.v (.fn F [] cs)] (di (-1)):=by
  match l,h with
  |[],_=>
   refine sv AiJ 19 [] (.n<|.r) (Q (di (-1))) ?_
   rfl
  |[a],_=>
   exact sv AiJ 19 [] (.n<|.x (dx a)<|.c (db O)<|.n<|.r) (iz 0<=0/\Q (G (dx a))/\F0 F (bt (dx a)::U bt ([]++cs)) (db O)/\Q (di (-1))) ⟨by decide,rfl,by simpa using hp a (by simp),rfl⟩
 exact sv AiO 9 [] (.c (di (-1)) .r) (_/\db (Y (-1>=0))=db O) ⟨hi,rfl⟩
noncomputable abbrev AlV:=Tryz.f118
theorem AjC(m:b9)(hm:I m.ay<=1000000)(hag:0<=m.age/\m.age<=1000)(r:cp)(h1:I r.ar<=1)(h2:I r.aq<=1)(h3:∀t∈r.ar,(0<=t.place/\t.place<I m.ay)/\(0<=t.low/\t.low<=t.high/\t.high<=m.age+1))(h4:∀x∈r.aq,0<=x/\x<I m.ay):F0 118 [Af m,Cu r] (db J):=by
 refine sv AlV 37 [2,3] (.h (.q 2 0)<|.h (.f1 0 [5])<|.t<|.t<|.c (db J)<|.k<|.c (db J)<|.k<|.c (db O)<|.r) (Y ((I (U dx r.ar):Int)<=3)=J/\Y ((I (U vi r.aq):Int)<=3)=J/\_/\F0 119 [cw r.aq,bt (bw 163 [] [bz (vi (I (dm m.ay):Int))])] (db J)/\F0 164 [bt (AA r.ar),bt (bw 165 [] [bz (vi (I (dm m.ay):Int)),bz (A1 m)])] (db O)/\Q (db J)) ⟨HC (by rw[H9];omega),HC (by rw[H9];omega),Ab9 _ h2,?_,?_,rfl⟩
 ·rw[H9]
  have h:=J8 163 [] [.ref (vi (I m.ay))] (fun x=>Ay x 0 ((I m.ay:Int)-1)) r.aq (by omega) (fun x _=>Aea (I m.ay) hm x)
  rwa[show(r.aq.all fun x=>Ay x 0 ((I m.ay:Int)-1))=J from by
   rw[Iw];intro x hx;have:=h4 x hx;simp[Ay];omega] at h
 ·rw[H9]
  exact V0 _ _ r.ar h1 fun x hx=>AjD m hm hag x (h3 x hx).1 (h3 x hx).2
theorem AbO(nm:List UInt8)(f t:Int)(tk:List Tk)(mk:List Int)(h1:I tk<=1)(h2:I mk<=1):F0 121 [Cu (er nm f t tk mk),Cu (er nm f t tk mk)] (db J):=by
 have e:∀l:List Int,I l<=1000000->F0 167 [.v (cz l),.v (cz l)] (db J):=fun l hl=>by simpa using Eb l l hl
 have n0:=e [] (by decide)
 exact sv Ai2 101 [2,3] (.t<|.t<|.t<|.c (db J)<|.k<|.c (db J)<|.k<|.c (db J)<|.k<|.k<|.k<|.k<|.c (db J)<|.k<|.c (db J)<|.k<|.c (db J)<|.k<|.c (db J)<|.k<|.r) (((er nm f t tk mk).name==(er nm f t tk mk).name)=J/\((er nm f t tk mk).aj==(er nm f t tk mk).aj)=J/\((er nm f t tk mk).to==(er nm f t tk mk).to)=J/\_/\_/\_/\_/\_/\_/\_/\db ((er nm f t tk mk).second==(er nm f t tk mk).second)=db J) ⟨by simp,by simp,by simp,n0,n0,n0,n0,n0,Adp tk h1,e mk (by omega),by simp⟩
theorem XI(m:b9)(hm:I m.ay<=1000000)(hst:I m.aw<=1000000)(hk:m.kind=5)(hag:0<=m.age/\m.age<=1000)(nm:List UInt8)(f t:Int)(tk:List Tk)(mk:List Int)(hf:0<=f/\f<I m.aw)(ht:0<=t/\t<I m.aw)(h1:I tk<=1)(h2:I mk<=1)(h3:∀t∈tk,(0<=t.place/\t.place<I m.ay)/\(0<=t.low/\t.low<=t.high/\t.high<=m.age+1))(h4:∀x∈mk,0<=x/\x<I m.ay):F0 74 [Af m,Cu (er nm f t tk mk)] (db J):=by
 have hx:∀x:Int,0<=x->x<I m.aw->F0 113 [di x,di (I (m.aw.map ae):Int)] (db J):=fun x h0 h1=>by
  rw[H9]
  have h:=Df x (I m.aw) hst
  rwa[show Ay x 0 ((I m.aw:Int)-1)=J by simp[Ay];omega] at h
 exact sv Zm 142 [2,3] (.c (db J)<|.k<|.c (db J)<|.k<|.k<|.f<|.f<|.f<|.f<|.t<|.c (db J)<|.k<|.c (db J) .r) (_/\_/\(m.kind==1)=O/\(m.kind==2)=O/\(m.kind==3)=O/\(m.kind==4)=O/\(m.kind==5)=J/\_/\_/\Q (db J)) ⟨hx t ht.1 ht.2,hx f hf.1 hf.2,by rw[hk];rfl,by rw[hk];rfl,by rw[hk];rfl,by rw[hk];rfl,by rw[hk];rfl,AjC m hm hag (er nm f t tk mk) h1 h2 h3 h4,AbO nm f t tk mk h1 h2,rfl⟩
def As(m:b9):cy:=.prod [.lab (I m.aw),.bag (.prod [.lab (I m.ay),.lab (m.age+2)])]
theorem Lx(m:b9)(hk:m.kind=5)(hag:0<=m.age/\m.age<=1000):F0 123 [Af m] (dT (As m)):=by
 exact sv FW 70 [1] (.c (dT (.lab (I m.aw)))<|.a 1<|.f<|.t<|.c (dT (.lab (I m.ay)))<|.c (dT (.lab (m.age+2)))<|.c (dT (.bag (.prod [.lab (I m.ay),.lab (m.age+2)])))<|.r) (F0 172 [di (I (U ae m.aw):Int)] (dT (cy.lab (I m.aw:Int)))/\(m.kind==4)=O/\(m.kind==5)=J/\F0 172 [di (I (U ae m.ay):Int)] (dT (cy.lab (I m.ay:Int)))/\F0 172 [di (yu yt (m.age+2))] (dT (cy.lab (m.age+2)))/\_/\Q (vT (cy.lab (I m.aw:Int))::nV)/\Ao 2 64/\bt (ab [vi 3,vi 0,ai [],ai [vT (cy.lab (I m.aw:Int)),vT (cy.bag (cy.prod [cy.lab (I m.ay:Int),cy.lab (m.age+2)]))]])=dT (As m)) ⟨by rw[H9];exact EE _,by rw[hk];rfl,by rw[hk];rfl,by rw[H9];exact EE _,by rw[Al];exact EE _,YP (.prod [.lab (I m.ay),.lab (m.age+2)]),rfl,⟨by decide,by decide⟩,rfl⟩
theorem Akt(m:b9)(hst:1<=I m.aw/\m.aw.length<=16)(hpl:1<=I m.ay/\m.ay.length<=16)(hag:0<=m.age/\m.age<=3):CB 8 (As m)=J:=by
 simp only[As,CB,HF,HJ,List.all_cons,List.all_nil,Bool.and_true,HB,I2,Ip,IU,HK]
 omega
theorem Aho(np age:Int)(t:bc)(h:mz np age t):Ar (.prod [.lab np,.lab (age+2)]) t=J:=by
 obtain⟨p,g,h1,h2,rfl⟩:=h
 simp only[Ar,bc.n,bc.az,BA,Cx,HB,HK,Il]
 refine⟨?_,?_,⟨?_,?_,?_⟩,⟨?_,?_,?_⟩,?_⟩
 all_goals first|exact HC h1.1|exact HC h1.2|exact HC h2.1|exact HC h2.2|rfl|trivial
theorem Ss(l:List bc)(h:∀i x y,l[i]?=G x->l[i+1]?=G y->Aq x y<0):∀k,k<I l->Ws l k=J
 |0,_=>rfl
 |k+1,hk=>by
  have h1:l[k]?=G l[k]:=HA (by omega)
  have h2:l[k+1]?=G l[k+1]:=HA hk
  have h3:=h k _ _ h1 h2
  have h4:=(Bz.swap _ _ trivial trivial).1 h3
  rw[Ws,HI,HI,h1,h2,HR (by show ¬Aq l[k+1] l[k]<0;omega)]
  exact Ss l h k (by omega)
theorem Aal(m:b9)(s:Int)(hs:0<=s/\s<I m.aw)(ts:List bc)(h:m7 (I m.ay) m.age 2 ts):Ah (As m) (.mk 0 [.mk s [],.mk 0 ts])=J:=by
 have hsz:=Xc ts h.tok
 have hl:=h.len
 have hsr:UA ts=J:=by
  unfold UA
  cases ts with
  |nil=>rfl
  |cons t ts=>exact Ss _ h.asc _ (by simp)
 rw[Ah,HC (by simp only[bc.size,bc.sizes];omega),Ij,As]
 simp only[Ar,bc.n,bc.az,BA,Cx,HB,HK,Il,Iw]
 refine⟨?_,?_,⟨?_,?_,?_⟩,⟨⟨?_,?_,?_⟩,?_⟩,?_⟩
 all_goals first|exact HC hs.1|exact HC hs.2|exact hsr|(intro t ht;obtain⟨p,g,h1,h2,rfl⟩:=h.tok t ht;have:=Aho _ _ _ ⟨p,g,h1,h2,rfl⟩;simp only[Ar,HB] at this;exact⟨rfl,rfl,this.2.2⟩)|rfl|trivial|exact yr
def gy(r:cp)(k:Nat):Int:=if r.move=[] then k else r.move.getD k 0
def ju(r:cp)(k:Nat)(x:Int)(ws:List Int):List Int:=if gy r k>=0 then ws.set (gy r k).toNat (ws.getD (gy r k).toNat 0+x) else ws
def ft(r:cp):Nat->List Int->List Int->List Int->List Int
 |k,y::ys,n::ns,ws=>ft r (k+1) ys ns (ju r k (y-n) ws)
 |_,_,_,ws=>ws
def nz(r:cp)(ys:List Int):List Int:=ft r 0 ys r.am (replicate (I ys) 0)
theorem O4(r:cp)(k:Nat)(ns ws:List Int):ft r k [] ns ws=ws:=by simp[ft]
theorem YN(r:cp)(k:Nat)(x:Int)(ws:List Int):I (ju r k x ws)=I ws:=by
 unfold ju;split
 ·rw[length_set]
 ·rfl
theorem R3(r:cp):∀(ys ns:List Int) (k:Nat) (ws:List Int),I (ft r k ys ns ws)=I ws
 |[],_,_,_=>by simp[ft]
 |_::_,[],_,_=>by simp[ft]
 |y::ys,n::ns,k,ws=>by rw[ft,R3 r ys ns,YN]
def m8(r:cp)(N:Nat):Prop:=r.move=[]∨r.move.length=N/\∀t∈r.move, -1<=t/\t<N
theorem Aes{r:cp}{N k:Nat}(h:m8 r N)(hk:k<N): -1<=gy r k/\gy r k<N:=by
 unfold gy
 rcases h with h|⟨h1,h2⟩
 ·rw[HV h];omega
 ·split
  ·omega
  ·rw[HI,HA (by omega)]
   exact h2 _ (List.getElem_mem _)
noncomputable abbrev wu:=[kl EW [1,1,1,1,1,1,0,1,0,0],bh 0,kc EW [1,1,1,1,1,1,1]]
theorem AdT(r:cp)(c:bc)(s:Int)(ys:List Int)(hc:j4 c s ys)(hl:I r.am=I ys)(hg:I r.ak=I ys)(hy:I ys<=6)(by1:∀y∈ys,0<=y/\y<=1048576)(bn:∀y∈r.am,0<=y/\y<=16)(bg:∀y∈r.ak,0<=y/\y<=16)(N:Nat)(hN:N=I ys)(hm:m8 r N)(n:Nat):∀(k:Nat) (ws:List Int),N-k=n->k<=N->I ws=N->(∀w∈ws, -(1048576*(k:Int))<=w/\w<=1048576*(k:Int))->
  Rn PP Mj 0 (Wt [lf r.to] (ft r k (ys.drop k) (r.am.drop k) ws) r.ak) bd ([kl EW [1,1,1,1,1,1,0,1,0,0],.blk 0,kc EW [1,1,1,1,1,1,1]]++[]) (ba 116 [(5,.v (.ref (Ac c))),(6,.ptr 0 0),(10,.ptr 1 0),(11,.arr 2 0 N),(12,di k)]) (gm r ws):=by
 induction n with
 |zero=>
  intro k ws hn hkN hx hb
  refine lv 116 [3,5] (.f<|.a 1<|.h .g<|.lo [ke 6,ke 10,ke 11,ke 14,ch 15 (di (0:Nat))] (j9 r ws [lf r.to])) (Y ((k:Int)<(N:Int))=O/\di 0=di (↑0:Int)/\cm 4 [1] [G [di 0,dn],G (cR r),G (dp ws),G [di 0,br 1 [ab [vi r.to,ai []]]]]=J/\[G [di 0,dn],G (cR r),G (dp ws),G [di 0,br 1 (ab (gn r.to)::nV)]]=[G [di 0,dn],G (cR r),G (dp ws),G [di 0,br 1 (eV (lf r.to)::nV)]]/\[(1,2,ab (gn r.to)::nV)]=[(1,2,eV (lf r.to)::nV)]/\I0 Mj 0 (Wt [lf r.to] (ft r k (W k ys) (W k r.am) ws) r.ak) bd [kl EW [1,1,1,1,1,1,1,1,0,1,0,0],bh 2,kc EW [1,1,1,1,1,1,1,1,1]] (ba 116 [j0,(10,bq 1 0),(11,bo 2 0 N),(14,bq 3 0),(15,di (↑0:Int))]) (j9 r ws [lf r.to])) ?_
  rw[HU (show I ys<=k by omega),O4]
  refine⟨yq,rfl,by simp[cm,D.okNs,D.okN,Dw],rfl,rfl,⟨?_⟩⟩
  have:=Ags r ws (by omega) (by omega) (fun w hw=>by have:=hb w hw;omega) (fun w hw=>by have:=bg w hw;omega) _ 0 [lf r.to] rfl (by simp)
  rw[hx] at this
  exact this
 |succ n ih=>
  intro k ws hn hkN hx hb
  have hk:k<N:=by omega
  have okS:∀l:List Int,cm 3 [] [G [di 0,.v .nils],G (cR r),G (dp l)]=J:=fun l=>by simp[cm,D.okNs,D.okN,Dw]
  obtain⟨y,hy1⟩:=@yk _ ys k (by omega)
  obtain⟨x,hn1⟩:∃x,r.am[k]?=G x:=⟨_,HA (by omega)⟩
  have e3:ys.drop k=y::ys.drop (k+1):=by rw[HP (by omega)];congr 1;rw[HA (by omega)] at hy1;simpa using hy1
  have e4:r.am.drop k=x::r.am.drop (k+1):=by rw[HP (by omega)];congr 1;rw[HA (by omega)] at hn1;simpa using hn1
  have hcy:=hc.at' k _ hy1
  have b1:=by1 _ (HG hy1)
  have b2:=bn _ (HG hn1)
  have ht:=Aes hm hk
  obtain⟨t,hte⟩:∃t,t=gy r k:=⟨_,rfl⟩
  have e1:yt.wrap (1+(k:Int))=((k+1:Nat):Int):=by rw[Al];omega
  rw[e3,e4,ft,ju, ←hte]
  by_cases h0:t>=0
  ·rw[HV h0]
   obtain⟨w,hw⟩:∃w,ws[t.toNat]?=G w:=⟨_,HA (by omega)⟩
   rw[show ws.getD t.toNat 0=w by rw[HI,hw];rfl]
   by_cases hmv:r.move=[]
   ·refine lv 116 [3,5] (.t<|.f<|.t<|.m (di w)<|.h (.xs (Ac (lf y)))<|.x (vi x)<|.w<|.lo [ke 5,ke 6,ke 10,ke 11,ch 12 (di (k+1:Nat))] (gm r (ws.set t.toNat (w+(y-x))))) (Y ((k:Int)<(N:Int))=J/\Y ((I (U vi r.move):Int)>0)=O/\Y ((k:Int)>=0)=J/\0<=(k:Int)/\(k:Int)<(N:Int)/\(dp ws)[0+Z (k:Int)*1]?=G (di w)/\Q 2/\0<=yu yt (1+(k:Int))/\(cc c.az)[Z (yu yt (1+(k:Int)))]?=G (Ac (lf y))/\0<=(k:Int)/\(U vi r.am)[Z (k:Int)]?=G (vi x)/\0<=(k:Int)/\(k:Int)<(N:Int)/\0+Z (k:Int)*1<I (dp ws)/\yo/\di (yu yt ((k:Int)+1))=di (↑(k+1):Int)/\cm 3 [] [G [di 0,dn],G (cR r),G (List.set (dp ws) (0+Z (k:Int)*1) (di (yu yt (w+yu yt (bc.n (lf y)-x)))))]=J/\[G [di 0,dn],G (cR r),G (List.set (dp ws) (0+Z (k:Int)*1) (di (yu yt (w+yu yt (bc.n (lf y)-x)))))]=[G [di 0,dn],G (cR r),G (dp (List.set ws (Z t) (w+(y-x))))]/\I0 Mj 0 (Wt [lf r.to] (ft r (k+1) (W (k+1) ys) (W (k+1) r.am) (List.set ws (Z t) (w+(y-x)))) r.ak) bd wu (ba 116 [(5,bt (f7 c)),j0,(10,bq 1 0),(11,bo 2 0 N),(12,di (↑(k+1):Int))]) (gm r (List.set ws (Z t) (w+(y-x))))) ?_
    have htk:t=(k:Int):=by rw[hte,gy,HV hmv]
    have hwb:=hb w (HG hw)
    have ew:yt.wrap (w+yt.wrap (bc.n (lf y)-x))=w+(y-x):=by
     rw[show bc.n (lf y)=y from rfl,Al (n:=y-x),Al]
    have es:List.set (dp ws) (0+Z (k:Int)*1) (di (w+(y-x)))=dp (ws.set t.toNat (w+(y-x))):=by
     rw[htk,II];simp[dp,map_set]
    have hi:=ih (k+1) (ws.set t.toNat (w+(y-x))) (by omega) (by omega) (by rw[length_set];exact hx) (fun v hv=>by
     rcases IE hv with hv|hv
     ·have:=hb v hv;omega
     ·rw[hv];omega)
    rw[ew,es,e1]
    refine⟨yr,fq _ hmv,yr,by omega,by omega,?_,rfl,by omega,An hcy,by omega,Am hn1,by omega,by omega,by simp[dp];omega,ym,Ae,okS _,rfl,⟨hi⟩⟩
    rw[htk,II] at hw
    simp[dp,hw]
   ·refine lv 116 [3,5] (.t<|.t<|.x (vi t)<|.t<|.m (di w)<|.h (.xs (Ac (lf y)))<|.x (vi x)<|.w<|.lo [ke 5,ke 6,ke 10,ke 11,ch 12 (di (k+1:Nat))] (gm r (ws.set t.toNat (w+(y-x))))) (Y ((k:Int)<(N:Int))=J/\Y ((I (U vi r.move):Int)>0)=J/\0<=(k:Int)/\(U vi r.move)[Z (k:Int)]?=G (vi t)/\Y (t>=0)=J/\0<=t/\t<(N:Int)/\(dp ws)[0+Z t*1]?=G (di w)/\Q 2/\0<=yu yt (1+(k:Int))/\(cc c.az)[Z (yu yt (1+(k:Int)))]?=G (Ac (lf y))/\0<=(k:Int)/\(U vi r.am)[Z (k:Int)]?=G (vi x)/\0<=t/\t<(N:Int)/\0+Z t*1<I (dp ws)/\yo/\di (yu yt ((k:Int)+1))=di (↑(k+1):Int)/\cm 3 [] [G [di 0,dn],G (cR r),G (List.set (dp ws) (0+Z t*1) (di (yu yt (w+yu yt (bc.n (lf y)-x)))))]=J/\[G [di 0,dn],G (cR r),G (List.set (dp ws) (0+Z t*1) (di (yu yt (w+yu yt (bc.n (lf y)-x)))))]=[G [di 0,dn],G (cR r),G (dp (List.set ws (Z t) (w+(y-x))))]/\I0 Mj 0 (Wt [lf r.to] (ft r (k+1) (W (k+1) ys) (W (k+1) r.am) (List.set ws (Z t) (w+(y-x)))) r.ak) bd wu (ba 116 [(5,bt (f7 c)),j0,(10,bq 1 0),(11,bo 2 0 N),(12,di (↑(k+1):Int))]) (gm r (List.set ws (Z t) (w+(y-x))))) ?_
    have hml:I r.move=N/\∀t∈r.move, -1<=t/\t<N:=hm.resolve_left hmv
    have hti:r.move[k]?=G t:=by rw[hte,gy,HR hmv,HI,HA (show k<I r.move by omega)];rfl
    have hmp:Y ((I (r.move.map vi):Int)>0)=J:=HC (by rw[H9];omega)
    have hwb:=hb w (HG hw)
    have ew:yt.wrap (w+yt.wrap (bc.n (lf y)-x))=w+(y-x):=by
     rw[show bc.n (lf y)=y from rfl,Al (n:=y-x),Al]
    have es:List.set (dp ws) (0+Z t*1) (di (w+(y-x)))=dp (ws.set t.toNat (w+(y-x))):=by
      simp[dp,map_set]
    have hi:=ih (k+1) (ws.set t.toNat (w+(y-x))) (by omega) (by omega) (by rw[length_set];exact hx) (fun v hv=>by
     rcases IE hv with hv|hv
     ·have:=hb v hv;omega
     ·rw[hv];omega)
    rw[ew,es,e1]
    exact⟨yr,hmp,by omega,Am hti,yr,by omega,by omega,by simp[dp,hw],rfl,by omega,An hcy,by omega,Am hn1,by omega,by omega,by simp[dp];omega,ym,Ae,okS _,rfl,⟨hi⟩⟩
  ·rw[HR h0]
   have hmv:r.move≠ []:=fun e=>by rw[hte,gy,HV e] at h0;omega
   have hml:I r.move=N/\∀t∈r.move, -1<=t/\t<N:=hm.resolve_left hmv
   have hti:r.move[k]?=G t:=by rw[hte,gy,HR hmv,HI,HA (show k<I r.move by omega)];rfl
   have hmp:Y ((I (r.move.map vi):Int)>0)=J:=HC (by rw[H9];omega)
   exact lv 116 [3,5] (.t<|.t<|.x (vi t)<|.f<|.lo [ke 5,ke 6,ke 10,ke 11,ch 12 (di (k+1:Nat))] (gm r ws)) (Y ((k:Int)<(N:Int))=J/\_/\0<=(k:Int)/\(U vi r.move)[Z (k:Int)]?=G (vi t)/\Y (t>=0)=O/\di (yu yt ((k:Int)+1))=di (↑(k+1):Int)/\cm 3 [] [G [di 0,dn],G (cR r),G (dp ws)]=J/\Q (gm r ws).H/\_) ⟨yr,hmp,by omega,Am hti,yq,Ae,okS _,rfl,iK (ih (k+1) ws (by omega) (by omega) hx (fun w hw=>by have:=hb w hw;omega))⟩
def f8(r:cp)(s:Int)(ys:List Int):bc×Int:=if gj r s ys=J then FG [lf r.to] (nz r ys) r.ak else(.mk 0 [],18)
theorem Wm(m:b9)(hm:m.ok)(hk:m.kind=1)(i:Nat)(r:cp)(hi:m.av[i]?=G r)(c:bc)(hcs:c.size<=1000000)(hv:Ah (AF m) c=J)(s:Int)(ys:List Int)(hc:j4 c s ys)(hl:I r.am=I ys)(hg:I r.ak=I ys)(hy:I ys<=6)(hmv:m8 r (I ys))(by1:∀y∈ys,0<=y/\y<=1048576)(bn:∀y∈r.am,0<=y/\y<=16)(bg:∀y∈r.ak,0<=y/\y<=16):
  F0 54 [Af m,di i,dV c] (dP (f8 r s ys)):=by
 have he:=V5 m hm hk i r hi c hcs hv s ys hc hl (by omega)
 cases hb:gj r s ys with
 |false=>
  rw[hb] at he
  exact sv Mj 116 [3,5] (.c (.tup [db O,di 0]) .r) (_/\bl [bt l8,di 18]=dP (f8 r s ys)) ⟨he,by rw[f8,hb];rfl⟩
 |true=>
  rw[hb] at he
  obtain⟨N,hN⟩:∃N,N=I ys:=⟨_,rfl⟩
  obtain⟨ws,hws⟩:∃ws:List Int,ws=replicate N 0:=⟨_,rfl⟩
  refine sv Mj 116 [3,5] (.c (.tup [db J,di 0])<|.x (Ai r)<|.lo [ke 5,ke 6,ke 10,ch 11 (.arr 2 0 N),ch 12 (di (0:Nat))] (gm r ws)) (F0 99 [Af m,di (i:Int),dV c] (bl [db J,di 0])/\0<=(i:Int)/\(U Ai m.av)[Z (i:Int)]?=G (Ai r)/\Q (I (U vi r.am):Int)/\0<=(I (U vi r.am):Int)/\(8:Int)*(I (U vi r.am):Int)<=281474976710656/\(I (U vi r.am):Int)<=9223372036854775807/\bo 2 0 (Z (I (U vi r.am):Int))=bo 2 0 N/\di 0=di (↑0:Int)/\cm 3 [] [G [di 0,dn],G [bt (ae r.name),di r.aj,di r.to,cw r.am,cw r.ak,cw r.move,di r.chan,di r.act,di r.letter,cw r.path,cw r.next,bt (AA r.ar),cw r.aq,di r.second],G (replicate (Z (I (U vi r.am):Int)) (di 0))]=J/\[G [di 0,dn],G [bt (ae r.name),di r.aj,di r.to,cw r.am,cw r.ak,cw r.move,di r.chan,di r.act,di r.letter,cw r.path,cw r.next,bt (AA r.ar),cw r.aq,di r.second],G (replicate (Z (I (U vi r.am):Int)) (di 0))]=[G [di 0,dn],G (cR r),G (dp ws)]/\I0 Mj (I bd.H) (dP (f8 r s ys)) bd wu (ba 116 [(5,bt (f7 c)),j0,(10,bq 1 0),(11,bo 2 0 N),(12,di (↑0:Int))]) (gm r ws)) ?_
  have hlen:Z (I (r.am.map vi):Int)=N:=by rw[H9,II];omega
  have hrep:replicate N (di 0)=dp ws:=by rw[hws,dp,List.map_replicate]
  rw[hlen,hrep]
  refine⟨he,by omega,Am hi,rfl,by omega,by rw[H9];omega,by rw[H9];omega,rfl,rfl,by simp[cm,D.okNs,D.okN,Dw],rfl,⟨?_⟩⟩
  have:=AdT r c s ys hc hl hg hy by1 bn bg N hN (hN▸hmv) _ 0 ws rfl (by omega) (by rw[hws,List.length_replicate]) (fun w hw=>by rw[hws] at hw;rw[(List.mem_replicate.1 hw).2];omega)
  rw[f8,HV hb,nz, ←hN, ←hws]
  simpa using this
structure fi(m:b9):Prop where
 ok:m.ok
 kind:m.kind=1
 start:BT m m.start
structure we(m:b9)(r:cp):Prop where
 aj:0<=r.aj/\r.aj<I m.aw
 to:0<=r.to/\r.to<I m.aw
 needL:I r.am=I m.ay
 giveL:I r.ak=I m.ay
 am:∀x∈r.am,0<=x/\x<=16
 ak:∀x∈r.ak,0<=x/\x<=16
 move:m8 r (I m.ay)
theorem fi.rule{m:b9}(h:fi m){r:cp}(hr:r∈m.av):we m r:=by
 have h1:=h.ok.right r hr
 rw[Er,HV h.kind] at h1
 simp only[DW,BR,De,HB,Bool.or_eq_true,Iw,Il] at h1
 obtain⟨h2,h3,⟨h4,h5,h6,h7⟩,h8,_⟩:=h1
 have h2:=Cj h2
 have h3:=Cj h3
 refine⟨⟨h3.1,by omega⟩,⟨h2.1,by omega⟩,by omega,by omega,fun x hx=>Cj (h6 x hx),fun x hx=>Cj (h7 x hx),?_⟩
 rcases h8 with h8|⟨h8,h9⟩
 ·exact .inl (List.length_eq_zero_iff.1 (by omega))
 ·exact .inr ⟨by omega,fun t ht=>by have:=Cj (h9 t ht);omega⟩
theorem fi.ay{m:b9}(h:fi m):1<=I m.ay/\m.ay.length<=6/\1<=I m.aw/\m.aw.length<=8/\m.av.length<=12:=by
 obtain⟨h1,h2,h3,h4,h5,_⟩:=h.ok.sz
 omega
theorem BT.sizeM{m:b9}(hm:fi m){c:bc}(h:BT m c):c.size<=8:=by
 rw[h.eq,F1,h.len]
 have:=hm.ay;omega
theorem BT.validM{m:b9}(hm:fi m){c:bc}(h:BT m c):Ah (AF m) c=J:=by
 rw[h.eq]
 exact Gw m hm.kind (by have:=hm.ay;omega) _ h.st _ h.len h.nm
theorem AfD(r:cp)(k:Nat)(x:Int)(ws gs:List Int)(h:I ws=I gs):ju r k x (zipWith (fun w g=>w+g) ws gs)=zipWith (fun w g=>w+g) (ju r k x ws) gs:=by
 unfold ju
 split
 ·generalize (gy r k).toNat=i
  apply ext_getElem?
  intro j
  rw[List.getElem?_set,List.length_zipWith,List.getElem?_zipWith,List.getElem?_zipWith,List.getElem?_set]
  by_cases hij:i=j
  ·subst hij
   rw[HV rfl,HV rfl,HI,HI,List.getElem?_zipWith]
   by_cases hi:i<I ws
   ·rw[HV (by omega),HV hi,HA hi,HA (show i<I gs by omega)]
    simp only[IZ]
    congr 1;omega
   ·rw[HR (by omega),HR hi]
  ·rw[HR hij,HR hij]
 ·rfl
theorem YO(r:cp)(gs:List Int):∀(ys ns:List Int) (k:Nat) (ws:List Int),I ws=I gs->ft r k ys ns (zipWith (fun w g=>w+g) ws gs)=zipWith (fun w g=>w+g) (ft r k ys ns ws) gs
 |[],_,_,_,_=>by simp[ft]
 |_::_,[],_,_,_=>by simp[ft]
 |y::ys,n::ns,k,ws,h=>by
  rw[ft,ft,AfD r k _ ws gs h,YO r gs ys ns (k+1) _ (by rw[YN];exact h)]
theorem RX:∀gs:List Int,zipWith (fun w g=>w+g) (replicate (I gs) 0) gs=gs
 |[]=>rfl
 |g::gs=>by simp[I4,RX gs]
def kv(r:cp)(ys:List Int):List Int:=zipWith (fun w g=>w+g) (nz r ys) r.ak
theorem Agt(r:cp)(ys:List Int)(h:I r.ak=I ys):ft r 0 ys r.am r.ak=kv r ys:=by
 rw[kv,nz, ←YO r r.ak ys r.am 0 _ (by rw[List.length_replicate,h]), ←h,RX]
theorem VZ(m:b9)(hm:fi m)(i:Nat)(hi:i<I m.av)(c:bc)(hc:BT m c):F0 208 [Af m,di i,dV c] (di 0):=by
 have hsz:=hc.sizeM hm
 have h1:=LW m hm.ok c (by omega)
 rw[hc.validM hm] at h1
 exact sv AkO 32 [3,5] (.c (di 0)<|.k<|.f<|.f<|.f<|.c (db J) .r) (_/\(m.kind !=1)=O/\Y ((i:Int)<0)=O/\Y ((i:Int)>=(I (U Ai m.av):Int))=O/\_/\Q (di 0)) ⟨JH m hm.ok,by rw[hm.kind];rfl,yq,by rw[H9];exact yq,h1,rfl⟩
theorem YL(r:cp)(i N:Nat)(h:m8 r N)(hi:i<N):F0 210 [Cu r,di i] (di (gy r i)):=by
 by_cases hr:r.move=[]
 ·exact sv Alu 15 [2] (.t .r) (((I (U vi r.move):Int)==0)=J/\di (i:Int)=di (gy r i)) ⟨by rw[hr];rfl,by rw[gy,HV hr]⟩
 ·have hl:=(h.resolve_left hr).1
  have hti:r.move[i]?=G (gy r i):=by rw[gy,HR hr,HI,HA (show i<I r.move by omega)];rfl
  generalize gy r i=t at*
  exact sv Alu 15 [2] (.f<|.x (vi t) .r) (((I (U vi r.move):Int)==0)=O/\0<=(i:Int)/\(U vi r.move)[Z (i:Int)]?=G (vi t)/\Q (di t)) ⟨Ip.2 (by rw[H9];omega),by omega,Am hti,rfl⟩
theorem Agj(r:cp)(ys:List Int)(hl:I r.am=I ys)(hy:I ys<=6)(by1:∀y∈ys,0<=y/\y<=1048576)(bn:∀y∈r.am,0<=y/\y<=16)(N:Nat)(hN:N=I ys)(hm:m8 r N)(n:Nat):∀(k:Nat) (ws:List Int),N-k=n->k<=N->I ws=N->(∀w∈ws, -(1048576*(k:Int))<=w/\w<=1048576*(k:Int)+16)->
  Rn PP li 0 (dP (UR [lf r.to] (ft r k (ys.drop k) (r.am.drop k) ws))) bd ([kl TC [1,1,1,1,1,0,1,0,0],.blk 0,kc TC [1,1,1,1,1,1]]++[]) (ba 90 [(6,.ptr 0 0),(9,.ptr 1 0),(10,.arr 2 0 N),(40,cx (ys.map lf)),(41,di (I ys)),(42,di k)]) (gm r ws):=by
 induction n with
 |zero=>
  intro k ws hn hkN hx hb
  refine lv 90 [3,5] (.f<|.a 1<|.h .g<|.lo [ke 6,ke 14,ch 72 (.arr 2 0 N),ch 73 (di N),ch 74 (di (0:Nat))] (j9 r ws [lf r.to])) (Y ((k:Int)<(I ys:Int))=O/\Q (bo 2 0 N)/\Q (di (N:Int))/\di 0=di (↑0:Int)/\cm 4 [1] [G [di 0,dn],G (cR r),G (dp ws),G [di 0,br 1 [ab [vi r.to,ai []]]]]=J/\[G [di 0,dn],G (cR r),G (dp ws),G [di 0,br 1 (ab (gn r.to)::nV)]]=[G [di 0,dn],G (cR r),G (dp ws),G [di 0,br 1 (eV (lf r.to)::nV)]]/\[(1,2,ab (gn r.to)::nV)]=[(1,2,eV (lf r.to)::nV)]/\I0 li 0 (dP (UR [lf r.to] (ft r k (W k ys) (W k r.am) ws))) bd [kl TC [1,1,1,1,1,1,1,0,1,0,0],bh 2,kc TC [1,1,1,1,1,1,1,1]] (ba 90 [j0,(14,bq 3 0),(72,bo 2 0 N),(73,di (N:Int)),(74,di (↑0:Int))]) (j9 r ws [lf r.to])) ?_
  rw[HU (show I ys<=k by omega),O4]
  refine⟨yq,rfl,rfl,rfl,by simp[cm,D.okNs,D.okN,Dw],rfl,rfl,⟨?_⟩⟩
  have:=Ajw r ws (by omega) _ 0 [lf r.to] rfl (by simp)
  rw[hx] at this
  exact this
 |succ n ih=>
  intro k ws hn hkN hx hb
  have hk:k<N:=by omega
  have okS:∀l:List Int,cm 3 [] [G [di 0,.v .nils],G (cR r),G (dp l)]=J:=fun l=>by simp[cm,D.okNs,D.okN,Dw]
  obtain⟨y,hy1⟩:=@yk _ ys k (by omega)
  obtain⟨x,hn1⟩:∃x,r.am[k]?=G x:=⟨_,HA (by omega)⟩
  have e3:ys.drop k=y::ys.drop (k+1):=by rw[HP (by omega)];congr 1;rw[HA (by omega)] at hy1;simpa using hy1
  have e4:r.am.drop k=x::r.am.drop (k+1):=by rw[HP (by omega)];congr 1;rw[HA (by omega)] at hn1;simpa using hn1
  have b1:=by1 _ (HG hy1)
  have b2:=bn _ (HG hn1)
  have ht:=Aes hm hk
  have hmd:=YL r k N hm hk
  have hyv:((ys.map lf).map eV)[Z (k:Int)]?=G (Ac (lf y)):=An (by rw[Ir,hy1];rfl)
  rw[e3,e4,ft,ju]
  generalize gy r k=t at*
  by_cases h0:t>=0
  ·rw[HV h0]
   obtain⟨w,hw⟩:∃w,ws[t.toNat]?=G w:=⟨_,HA (by omega)⟩
   rw[show ws.getD t.toNat 0=w by rw[HI,hw];rfl]
   refine lv 90 [3,5] (.t<|.h (.xs (Ac (lf y)))<|.c (di t)<|.t<|.m (di w)<|.x (vi x)<|.w<|.lo [ke 6,ke 9,ke 10,ke 40,ke 41,ch 42 (di (k+1:Nat))] (gm r (ws.set t.toNat (w+(y-x))))) (Y ((k:Int)<(I ys:Int))=J/\Q 2/\0<=(k:Int)/\(U eV (U lf ys))[Z (k:Int)]?=G (Ac (lf y))/\F0 210 [Cu r,di (k:Int)] (di t)/\Y (t>=0)=J/\0<=t/\t<(N:Int)/\(dp ws)[0+Z t*1]?=G (di w)/\0<=(k:Int)/\(U vi r.am)[Z (k:Int)]?=G (vi x)/\0<=t/\t<(N:Int)/\0+Z t*1<I (dp ws)/\(yj (True))/\di (yu yt ((k:Int)+1))=di (↑(k+1):Int)/\cm 3 [] [G [di 0,dn],G (cR r),G (List.set (dp ws) (0+Z t*1) (di (yu yt (w+yu yt (bc.n (lf y)-x)))))]=J/\[G [di 0,dn],G (cR r),G (List.set (dp ws) (0+Z t*1) (di (yu yt (w+yu yt (bc.n (lf y)-x)))))]=[G [di 0,dn],G (cR r),G (dp (List.set ws (Z t) (w+(y-x))))]/\I0 li 0 (dP (UR [lf r.to] (ft r (k+1) (W (k+1) ys) (W (k+1) r.am) (List.set ws (Z t) (w+(y-x)))))) bd [kl TC [1,1,1,1,1,0,1,0,0],bh 0,kc TC [1,1,1,1,1,1]] (ba 90 [j0,(9,bq 1 0),(10,bo 2 0 N),(40,bt (dt (U lf ys))),(41,di (I ys:Int)),(42,di (↑(k+1):Int))]) (gm r (List.set ws (Z t) (w+(y-x))))) ?_
   have hwb:=hb w (HG hw)
   have ew:yt.wrap (w+yt.wrap (bc.n (lf y)-x))=w+(y-x):=by
    rw[show bc.n (lf y)=y from rfl,Al (n:=y-x),Al]
   have es:List.set (dp ws) (0+Z t*1) (di (w+(y-x)))=dp (ws.set t.toNat (w+(y-x))):=by simp[dp,map_set]
   have hi:=ih (k+1) (ws.set t.toNat (w+(y-x))) (by omega) (by omega) (by rw[length_set];exact hx) (fun v hv=>by
    rcases IE hv with hv|hv
    ·have:=hb v hv;omega
    ·rw[hv];omega)
   rw[ew,es]
   exact⟨yr,rfl,by omega,hyv,hmd,yr,by omega,by omega,by simp[dp,hw],by omega,Am hn1,by omega,by omega,by simp[dp];omega,⟨trivial,trivial,trivial,trivial⟩,Ae,okS _,rfl,⟨hi⟩⟩
  ·rw[HR h0]
   exact lv 90 [3,5] (.t<|.h (.xs (Ac (lf y)))<|.c (di t)<|.f<|.lo [ke 6,ke 9,ke 10,ke 40,ke 41,ch 42 (di (k+1:Nat))] (gm r ws)) (Y ((k:Int)<(I ys:Int))=J/\Q 2/\0<=(k:Int)/\_/\_/\Y (t>=0)=O/\di (yu yt ((k:Int)+1))=di (↑(k+1):Int)/\cm 3 [] [G [di 0,dn],G (cR r),G (dp ws)]=J/\Q (gm r ws).H/\_) ⟨yr,rfl,by omega,hyv,hmd,yq,Ae,okS _,rfl,iK (ih (k+1) ws (by omega) (by omega) hx (fun w hw=>by have:=hb w hw;omega))⟩
theorem Aag(m:b9)(hm:fi m)(i:Nat)(r:cp)(hi:m.av[i]?=G r)(c:bc)(hc:BT m c):F0 180 [Af m,di i,dV c] (dP (f8 r (fw c) (ej c))):=by
 have hr:=hm.rule (HG hi)
 have hp:=hm.ay
 have hil:=(HD.1 hi).1
 have hck:=VZ m hm i hil c hc
 have hcc:=hc.isC
 have hyl:=hc.len
 have hnm:=hc.nm
 have he:=AdI r c _ _ hcc (by rw[hr.needL,hc.len]) (by omega)
 generalize fw c=s at*
 generalize ej c=ys at*
 cases hb:gj r s ys with
 |false=>
  rw[hb] at he
  exact sv li 90 [3,5] (.c (di 0)<|.x (Ai r)<|.c (db O) .r) (_/\0<=(i:Int)/\(U Ai m.av)[Z (i:Int)]?=G (Ai r)/\_/\bl [bt l8,di 18]=dP (f8 r s ys)) ⟨hck,by omega,Am hi,he,by rw[f8,hb];rfl⟩
 |true=>
  rw[hb] at he
  obtain⟨N,hN⟩:∃N,N=I ys:=⟨_,rfl⟩
  have hN0:r.ak≠ []:=by intro h;have:=hr.giveL;rw[h] at this;simp at this;omega
  have hgl:I r.ak=N:=by rw[hr.giveL];omega
  have hd:=PS hcc
  have hlen:I c.az=I ys+1:=hcc.len
  refine sv li 90 [3,5] (.c (di 0)<|.x (Ai r)<|.c (db J)<|.h (.q 7 2)<|.h (.oc (.arr 2 0 N) (gm r r.ak))<|.lo [ke 6,ke 9,ke 10,ch 40 (cx (ys.map lf)),ch 41 (di (I ys)),ch 42 (di (0:Nat))] (gm r r.ak)) (_/\0<=(i:Int)/\(U Ai m.av)[Z (i:Int)]?=G (Ai r)/\_/\(N0 [bt (bw 175 [] []),cw r.ak] (bi [G [di 0,dn],G [bt (ae r.name),di r.aj,di r.to,cw r.am,cw r.ak,cw r.move,di r.chan,di r.act,di r.letter,cw r.path,cw r.next,bt (AA r.ar),cw r.aq,di r.second]] []) (bo 2 0 N) (gm r r.ak))/\(∀(x:V),x∈U eV c.az->V.size x=2)/\0<=(1:Int)/\(1:Int)<=(I (cc c.az):Int)/\bt (ai (W (Z ((1:Int))) (take (I (cc c.az)) (cc c.az))))=cx (U lf ys)/\di (I (W (Z ((1:Int))) (take (I (cc c.az)) (cc c.az))):Int)=di (I ys:Int)/\Q (di 0)/\cm 3 [] [G [di 0,dn],G (cR r),G (dp r.ak)]=J/\Q (gm r r.ak).H/\I0 li (I bd.H) (dP (f8 r s ys)) bd [kl TC [1,1,1,1,1,0,1,0,0],bh 0,kc TC [1,1,1,1,1,1]] (ba 90 [j0,(9,bq 1 0),(10,bo 2 0 N),(40,cx (U lf ys)),(41,di (I ys:Int)),(42,di (↑0:Int))]) (gm r r.ak)) ⟨hck,by omega,Am hi,he,fun o c' fo ho hc'=>?_,?_,by omega,?_,?_,?_,rfl,by simp[cm,D.okNs,D.okN,Dw],rfl,⟨?_⟩⟩
  ·exact FV (σ:=⟨[G [di 0,.v .nils],G (cR r)],[]⟩) (fs:=[]) (cs:=[]) (ds:=[cw r.ak]) ho hc' rfl (Hc:=[none,G (dp r.ak)]) (j:=1) rfl (Afx _) (by rw[←hgl];exact VO r.ak (by omega) hN0)
  ·intro x hx;obtain⟨v,_,rfl⟩:=Is.1 hx;rw[AE];rfl
  ·rw[H9];omega
  ·exact HX (fun l=>bt (.list l)) hd
  ·have:=HX (fun l:List V=>di (I l:Int)) hd
   simpa using this
  ·have h1:=Agj r ys (by rw[hr.needL];omega) (by omega) hnm hr.am N hN (by rw[hN,hyl];exact hr.move) _ 0 r.ak rfl (by omega) hgl (fun w hw=>by have:=hr.ak w hw;omega)
   rw[Jk,Jk,Agt r ys (by omega),kv,Yo _ _ _ (by rw[nz,R3,List.length_replicate];omega)] at h1
   rw[f8,HV hb]
   exact h1
theorem Aie{r:cp}{k:Nat}{x:Int}(hx:0<=x){ws:List Int}(h:∀w∈ws,0<=w):∀w∈ju r k x ws,0<=w:=by
 intro w hw
 unfold ju at hw
 split at hw
 ·rcases IE hw with hw|hw
  ·exact h w hw
  ·rw[hw,HI]
   cases hi:ws[(gy r k).toNat]? with
   |none=>simpa using hx
   |some v=>have:=h v (HG hi);simp only[IZ];omega
 ·exact h w hw
theorem Aet(r:cp):∀(ys ns:List Int) (k:Nat) (ws:List Int),DI ns ys=J->(∀w∈ws,0<=w)->∀w∈ft r k ys ns ws,0<=w
 |[],ns,k,ws,_,h=>by rw[O4];exact h
 |y::ys,[],k,ws,_,h=>by simpa[ft] using h
 |y::ys,n::ns,k,ws,hn,h=>by
  simp only[DI,HB,I2,IU] at hn
  rw[ft]
  exact Aet r ys ns (k+1) _ hn.2 (Aie (by omega) h)
theorem Aeb{m:b9}{r:cp}(hr:we m r){ys:List Int}(hy:I ys=I m.ay):I (kv r ys)=I m.ay:=by
 have h2:=hr.giveL
 simp only[kv,nz,List.length_zipWith,R3,List.length_replicate];omega
theorem Aj2{m:b9}{r:cp}(hr:we m r){c:bc}(hc:BT m c):
  ((f8 r (fw c) (ej c)).2=0/\fw c=r.aj/\(f8 r (fw c) (ej c)).1=Dp r.to (kv r (ej c))/\BT m (Dp r.to (kv r (ej c))))∨(f8 r (fw c) (ej c)).2=1∨(f8 r (fw c) (ej c)).2=18:=by
 unfold f8
 split
 ·rename_i he
  simp only[gj,HB,Il] at he
  rcases Rv (nz r (ej c)) r.ak [lf r.to] with⟨h1,h2,h3⟩|h1
  ·refine .inl ⟨h1,he.1,by rw[h2];rfl,ub m _ hr.to _ (Aeb hr hc.len) fun z hz=>⟨?_,h3 z hz⟩⟩
   obtain⟨i,hi⟩:=List.getElem?_of_mem hz
   rw[kv,List.getElem?_zipWith] at hi
   split at hi
   ·rename_i w g hw hg
    cases hi
    have b1:=Aet r (ej c) r.am 0 (replicate (I (ej c)) 0) he.2 (fun w hw=>by rw[(List.mem_replicate.1 hw).2];exact Ib 0) w (HG hw)
    have b2:=(hr.ak g (HG hg)).1
    omega
   ·cases hi
  ·exact .inr (.inl (by rw[h1]))
 ·exact .inr (.inr rfl)
def ir(m:b9)(c:bc)(i:Int):List bc×Int:=if i<0 then([],0) else match m.av[i.toNat]? with
 |some r=>BG (f8 r (fw c) (ej c))
 |none=>([],0)
def CX(m:b9)(c:bc):List c8×Int:=Cz (ir m c) (I m.av+1) (-1) []
structure xt(m:b9)(c:bc)(s:c8):Prop where
 rule:∃(i:Nat) (r:cp),s.1=i/\m.av[i]?=G r/\fw c=r.aj/\s.2=Dp r.to (kv r (ej c))/\f8 r (fw c) (ej c)=(s.2,0)
 ok:BT m s.2
theorem NI{m:b9}(hm:fi m){c:bc}(hc:BT m c)(i:Int):((ir m c i).2=0∨(ir m c i).2=1)/\(ir m c i).1.length<=1/\∀v∈ (ir m c i).1,xt m c (i,v):=by
 unfold ir
 split
 ·exact⟨.inl rfl,by simp,by simp⟩
 ·rename_i h0
  split
  ·rename_i r hi
   have hr:=hm.rule (HG hi)
   rcases Aj2 hr hc with⟨h1,h2,h3,h4⟩|h1|h1
   ·have:BG (f8 r (fw c) (ej c))=([Dp r.to (kv r (ej c))],0):=by
     rw[BG,HR (by rw[h1];decide),HR (by rw[h1];decide),h3]
    rw[this]
    refine⟨.inl rfl,by simp,fun v hv=>?_⟩
    rw[HQ.1 hv]
    exact⟨⟨i.toNat,r,by show i=_;omega,hi,h2,rfl,by rw[←h3, ←h1]⟩,h4⟩
   ·have:BG (f8 r (fw c) (ej c))=([],1):=by rw[BG,HR (by rw[h1];decide),HV (by rw[h1];decide),h1]
    rw[this];exact⟨.inr rfl,by simp,by simp⟩
   ·have:BG (f8 r (fw c) (ej c))=([],0):=by rw[BG,HV (by rw[h1];decide)]
    rw[this];exact⟨.inl rfl,by simp,by simp⟩
  ·exact⟨.inl rfl,by simp,by simp⟩
theorem J0{m:b9}(hm:fi m){c:bc}(hc:BT m c):((CX m c).2=0∨(CX m c).2=1)/\(CX m c).1.length<=13/\∀s∈ (CX m c).1,xt m c s:=by
 have:=hm.ay
 obtain⟨h1,h2,h3⟩:=RQ (ap:=ir m c) (fun i=>(NI hm hc i).1) (fun i=>(NI hm hc i).2.1) (Q:=xt m c) (fun i=>(NI hm hc i).2.2) (I m.av+1) (-1) [] (by simp)
 exact⟨h1,by simp only[HJ] at h2;exact I6 h2 (by omega),h3⟩
theorem Ale(m:b9)(hm:fi m)(c:bc)(hc:BT m c)(i:Int)(h1: -1<=i)(h2:i<I m.av):F0 26 [Af m,di i,dV c] (du (ir m c i)):=by
 have hsz:=hc.sizeM hm
 by_cases h0:i<0
 ·have:i= -1:=by omega
  subst this
  exact Aj7 m hm.ok hm.kind c (by omega) (hc.validM hm)
 ·obtain⟨k,rfl⟩:∃k:Nat,i=k:=⟨i.toNat,by omega⟩
  have hk:k<I m.av:=by omega
  have hr:m.av[k]?=G m.av[k]:=HA hk
  have hro:=hm.rule (HG hr)
  rw[ir,HR h0,show((k:Nat):Int).toNat=k by omega,hr]
  generalize m.av[k]=r at hr hro
  have hp:=hm.ay
  exact Aj8 m hm.ok hm.kind k hk c (by omega) (hc.validM hm) _ (Wm m hm.ok hm.kind k r hr c (by omega) (hc.validM hm) _ _ hc.isC (by rw[hro.needL,hc.len]) (by rw[hro.giveL,hc.len]) (by rw[hc.len];omega) (by rw[hc.len];exact hro.move) hc.nm hro.am hro.ak)
theorem AjB{m:b9}(hm:fi m){c:bc}(hc:BT m c):F0 12 [Af m,dV c] (e7 (CX m c)):=by
 have hsz:=hc.sizeM hm
 exact Wn m hm.ok c (by omega) (hc.validM hm) (ir m c) (fun i=>by have:=(NI hm hc i).2.1;omega) (fun i h1 h2=>Ale m hm c hc i h1 h2)
theorem U7(m:b9)(hm:fi m):F0 176 [Af m] (di 0):=by
 exact sv Aiy 12 [1] (.c (di 0)<|.k<|.f .r) (_/\(m.kind==6)=O/\Q (di 0)) ⟨JH m hm.ok,by rw[hm.kind];rfl,rfl⟩
theorem UC(m:b9)(hm:fi m)(c:bc)(hc:BT m c):F0 124 [Af m,dV c] (di 0):=by
 have hsz:=hc.sizeM hm
 have h1:=LW m hm.ok c (by omega)
 rw[hc.validM hm] at h1
 exact sv xi 15 [2,3] (.c (di 0)<|.c (db J) .r) (_/\_/\Q (di 0)) ⟨U7 m hm,h1,rfl⟩
theorem X1(m:b9)(hm:fi m)(c:bc):F0 178 [Af m,dV c] (cx []):=by
 exact sv t8 31 [2,3] (.f<|.f<|.f .r) ((m.kind==2)=O/\(m.kind==3)=O/\(m.kind==5)=O/\Q (cx [])) ⟨by rw[hm.kind];rfl,by rw[hm.kind];rfl,by rw[hm.kind];rfl,rfl⟩
theorem Ajy(m:b9)(hm:fi m)(c:bc):F0 125 [Af m,di (-1),dV c] (du ([],0)):=by
 exact sv qi 56 [3,5] (.c (cx []) .r) (_/\bl [bt (dt []),di 0]=du ([],0)) ⟨X1 m hm c,rfl⟩
theorem Ajx(m:b9)(hm:fi m)(i:Nat)(c:bc)(p:bc×Int)(hp:F0 180 [Af m,di i,dV c] (dP p)):F0 125 [Af m,di i,dV c] (du (BG p)):=by
 exact sv qi 56 [3,5] (.f<|.t<|.c (dP p)<|.c (du (BG p)) .r) (((i:Int)== -1)=O/\(m.kind==1)=J/\_/\_/\bl [bt (dt (BG p).fst),di (BG p).snd]=du (BG p)) ⟨Ip.2 (by omega),by rw[hm.kind];rfl,hp,Pr p,rfl⟩
theorem Aak(m:b9)(hm:fi m)(c:bc)(hc:BT m c)(i:Int)(h1: -1<=i)(h2:i<I m.av):F0 125 [Af m,di i,dV c] (du (ir m c i)):=by
 by_cases h0:i<0
 ·have:i= -1:=by omega
  subst this
  exact Ajy m hm c
 ·obtain⟨k,rfl⟩:∃k:Nat,i=k:=⟨i.toNat,by omega⟩
  have hr:m.av[k]?=G m.av[k]:=HA (show k<I m.av by omega)
  rw[ir,HR h0,show((k:Nat):Int).toNat=k by omega,hr]
  exact Ajx m hm k c _ (Aag m hm k _ hr c hc)
theorem MI(m:b9)(hm:fi m)(c:bc)(hc:BT m c):F0 77 [Af m,dV c] (e7 (CX m c)):=by
 have hp:=hm.ay
 refine sv Hf 53 [2,3] (.c (di 0)<|.h (.q 5 0)<|.h (.nw 7 1 3)<|.ls sb (FF [])) (_/\Q (di (-1))/\Q [(1,3,nV)]/\I0 Hf (I bd.H) (e7 (CX m c)) bd [kl Dr gi,bh 0,kc Dr [1,1,1,1]] (ba 53 (tz m c)) (FF [])) ⟨UC m hm c hc,rfl,rfl,⟨?_⟩⟩
 exact Py m (by omega) c (ir m c) (fun i=>by have:=(NI hm hc i).2.1;omega) (fun i h1 h2=>Aak m hm c hc i h1 h2) (I m.av+1) (-1) [] (by omega) (by omega) (by omega) (by simp)
def cg(nm:List UInt8)(f t:Int)(nd gv mv:List Int):cp:=⟨nm,f,t,nd,gv,mv,0,0,0,[],[],[],[],0⟩
structure QB(ns np:Nat)(k:Nat)(r:cp):Prop where
 name:kg[k]?=G r.name
 aj:0<=r.aj/\r.aj<ns
 to:0<=r.to/\r.to<ns
 am:I r.am=np/\∀x∈r.am,0<=x/\x<=2
 ak:I r.ak=np/\∀x∈r.ak,0<=x/\x<=2
 move:m8 r np
 rest:r=cg r.name r.aj r.to r.am r.ak r.move
structure RS(m:b9):Prop where
 kind:m.kind=1
 aw:m.aw=[[97]]∨m.aw=[[97],[98]]
 ay:m.ay=[[120]]∨m.ay=[[120],[121]]
 ax:m.ax=[]
 au:m.au=[]
 ao:m.ao=0
 age:m.age=0
 count:I m.av<=3
 pos:1<=I m.av
 av:∀k r,m.av[k]?=G r->QB (I m.aw) (I m.ay) k r
 start:∃ys:List Int,I ys=I m.ay/\(∀x∈ys,0<=x/\x<=3)/\m.start=Dp 0 ys
theorem YQ{ns np:Nat}{rs:List cp}{k:Nat}{nm:List UInt8}{f t:Int}{nd gv mv:List Int}(hnm:kg[k]?=G nm)(hf:0<=f/\f<ns)(ht:0<=t/\t<ns)(hn:I nd=np/\∀x∈nd,0<=x/\x<=2)(hg:I gv=np/\∀x∈gv,0<=x/\x<=2)(hm:mv=[]∨mv.length=np/\∀t∈mv, -1<=t/\t<np)(hrs:I rs=k)(hR:∀i r,rs[i]?=G r->QB ns np i r):∀i r,(rs++[cg nm f t nd gv mv])[i]?=G r->QB ns np i r:=fun i r hi=>by
 by_cases hik:i<I rs
 ·rw[HW hik] at hi;exact hR i r hi
 ·rw[HT (by omega)] at hi
  have h1:i-I rs=0:=by
   have:=(HD.1 hi).1
   simp at this;omega
  rw[h1] at hi
  simp at hi;subst hi
  have hik2:i=k:=by omega
  subst hik2
  exact⟨hnm,hf,ht,hn,hg,hm,rfl⟩
theorem ZD{H:List (Option (List D))}{own:List (Nat×Nat×List V)}{q tag:Nat}{nm:List UInt8}{f t:Int}{nd gv xs:List Int}(hq:H[q]?=G (G [.v (.str nm),di f,di t,.v (cz nd),.v (cz gv),.acc tag (xs.map vi),di 0,di 0,di 0,.v .nils,.v .nils,.v .nils,.v .nils,di 0]))(e:List D):Cv e ⟨H,own⟩ e ⟨H.set q (G (cR (cg nm f t nd gv xs))),own⟩:=
 Ec (σ:=⟨H,own⟩) (q:=q) hq (fun g us hr=>by
  have:=CV (ts:=[]) (kn:=false) hr
  exact this) (fun _ x hx=>by
  simp only[cR,Iq,Ji,or_false] at hx
  rcases hx with rfl|rfl|rfl|rfl|rfl|rfl|rfl|rfl|rfl|rfl|rfl|rfl|rfl|rfl<;>rfl) e
noncomputable abbrev Amg:=fun a₀ b₀ c₀ d₀=>Aa PP 7 [bq 0 0,di 2] (dz a₀ b₀) (di c₀) (dz a₀ d₀)
noncomputable abbrev Anc:=fun a₀ b₀ c₀ d₀=>Aa PP 37 [bq 0 0,di (↑(I [[120],[121]]):Int),di 2] (dz a₀ b₀) (cw c₀) (dz a₀ d₀)
noncomputable abbrev Anl:=fun a₀ b₀ c₀ d₀=>Aa PP 37 [bq 0 0,di (↑(I [[120]]):Int),di 2] (dz a₀ b₀) (cw c₀) (dz a₀ d₀)
noncomputable abbrev Anz:=(aa yt 0)
noncomputable abbrev Ao2:=[[120],[121]]
noncomputable abbrev Aqa:=fun a₀ b₀ c₀ d₀=>[G (cr a₀ b₀),G zM,G (cM c₀ [[120]] d₀),G ei]
noncomputable abbrev Ar3:=fun a₀ b₀ c₀ d₀=>[G (cr a₀ b₀),G zM,G (cM c₀ [[120]] d₀),G ei]
noncomputable abbrev Ar6:=[kl QK [1,1,1,0,1,0,0],bh 0,kc QK [1,1,1,1]]
noncomputable abbrev Ar8:=(aa yt 0)
noncomputable abbrev Ard:=fun a₀=>(G [bt (co a₀)])
noncomputable abbrev Arf:=fun a₀ b₀ c₀ d₀=>Aa PP 7 [bq 0 0,di 2] (dz a₀ b₀) (di c₀) (dz a₀ d₀)
noncomputable abbrev Ark:=fun a₀ b₀ c₀ d₀=>Aa PP 7 [bq 0 0,di 3] (dz a₀ b₀) (di c₀) (dz a₀ d₀)
noncomputable abbrev Arn:=fun a₀=>[(2,14,U Ai a₀)]
noncomputable abbrev Arp:=(0,bq 0 0)
noncomputable abbrev Arq:=[[120],[121]]
theorem ZH(l:List UInt8)(hl:I l<=200)(S Pl:List (List UInt8))(hS:S=[[97]]∨S=[[97],[98]])(hP:Pl=[[120]]∨Pl=[[120],[121]])(n:Nat):∀(k a:Nat) (rs:List cp),3-k=n->a<=I l->k<=3->I rs=k->(∀i r,rs[i]?=G r->QB (I S) (I Pl) i r)->
  ∃(m:b9) (a':Nat),RS m/\a'<=I l/\Rn PP Zv 1 (Af m) (dz l a') ([kl QK [1,1,1,0,1,0,0],.blk 0,kc QK [1,1,1,1]]++[]) (ba 85 [(0,.ptr 0 0),(1,db J),(4,.ptr 1 0),(5,.ptr 2 0),(6,di (I Pl)),(7,di k)]) (jv l a S Pl rs):=by
 induction n using Nat.strongRecOn with
 |_ n ih=>
 intro k a rs hn ha hk3 hrs hR
 have hSl:1<=I S/\S.length<=2:=by rcases hS with rfl|rfl<;>decide
 have hPl:1<=I Pl/\Pl.length<=2:=by rcases hP with rfl|rfl<;>decide
 obtain⟨r,a1,h1,h2,h3,h4⟩:=A2 l hl a ha 3 (by decide) (by decide)
 by_cases hk:(k:Int)<1+r
 ·obtain⟨f,a2,f1,f2,f3,f4⟩:=A2 l hl a1 h3 (I S) (by omega) (by omega)
  obtain⟨t,a3,t1,t2,t3,t4⟩:=A2 l hl a2 f3 (I S) (by omega) (by omega)
  obtain⟨nd,a4,n1,n2,n3,n4⟩:=GQ l hl a3 t3 (I Pl) (by omega) 2 (by decide) (by decide)
  obtain⟨gv,a5,g1,g2,g3,g4⟩:=GQ l hl a4 n1 (I Pl) (by omega) 2 (by decide) (by decide)
  obtain⟨nm,hnm⟩:∃nm,kg[k]?=G nm:=⟨_,HA (show k<I kg by show k<3;omega)⟩
  obtain⟨w,a6,w1,w2,w3,w4⟩:=A2 l hl a5 g1 2 (by decide) (by decide)
  have hkr:Y ((k:Int)<yu yt (1+r))=J:=by rw[Al];exact HC hk
  have hSm:(I (S.map ae):Int)=(I S:Int):=by rw[H9]
  by_cases hw:(w==0)=J
  ·rcases hP with hP|hP
   ·obtain⟨v1,a7,v11,v12,v13,v14⟩:=A2 l hl a6 w3 2 (by decide) (by decide)
    obtain⟨m,a',m1,m2,m3⟩:=ih (3- (k+1)) (by omega) (k+1) a7 (rs++[cg nm f t nd gv [v1-1]]) rfl v13 (by omega) (by simp[hrs]) (YQ hnm ⟨f1,f2⟩ ⟨t1,t2⟩ ⟨n2,n3⟩ ⟨g2,g3⟩ (.inr ⟨by rw[hP];rfl,fun t ht=>by rw[HQ.1 ht,hP];show-1<=v1-1/\v1-1<((1:Nat):Int);omega⟩) hrs hR)
    refine⟨m,a',m1,m2,?_⟩
    subst hP
    refine lv 85 [] (.c1 (cr l a1) (di r)<|.t<|.h (.dr 21)<|.x (.str nm)<|.c1 (cr l a2) (di f)<|.c1 (cr l a3) (di t)<|.c1 (cr l a4) (cw nd)<|.c1 (cr l a5) (cw gv)<|.h .rn<|.c1 (cr l a6) (di w)<|.t<|.h (.q 8 0)<|.h (.cl 3 5 3 1)<|.n<|.m (.acc 3 [])<|.c1 (cr l a7) (di v1)<|.n<|.f<|.h (.q 12 2)<|.h (.cs ⟨[G (cr l a7),G zM,G (cM S [[120]] rs),G (cR (cg nm f t nd gv [v1-1]))],[(3,1,[vi (v1-1)]),(2,14,rs.map Ai)]⟩)<|.ls [ke 0,ke 1,ke 4,ke 5,ke 6,ch 7 (di (k+1:Nat))] (jv l a7 S [[120]] (rs++[cg nm f t nd gv [v1-1]]))) (Aa PP 7 [bq 0 0,di 3] (dz l a) (di r) (dz l a1)/\Y ((k:Int)<yu yt (1+r))=J/\0<=(k:Int)/\[ae (bf #[114]).data.toList,ae (bf #[115]).data.toList,ae (bf #[116]).data.toList][Z (k:Int)]?=G (ae nm)/\Aa PP 7 [bq 0 0,di (I (U ae S):Int)] (dz l a1) (di f) (dz l a2)/\Aa PP 7 [bq 0 0,di (I (U ae S):Int)] (dz l a1) (di f) (dz l a2)/\Q (di f)/\Aa PP 7 [bq 0 0,di (I (U ae S):Int)] (dz l a2) (di t) (dz l a3)/\Aa PP 7 [bq 0 0,di (I (U ae S):Int)] (dz l a2) (di t) (dz l a3)/\Q (di t)/\Aa PP 37 [bq 0 0,di (↑(I [[120]]):Int),di 2] (dz l a3) (cw nd) (dz l a4)/\Aa PP 37 [bq 0 0,di (↑(I [[120]]):Int),di 2] (dz l a3) (cw nd) (dz l a4)/\Q (cw nd)/\Aa PP 37 [bq 0 0,di (↑(I [[120]]):Int),di 2] (dz l a4) (cw gv) (dz l a5)/\Aa PP 37 [bq 0 0,di (↑(I [[120]]):Int),di 2] (dz l a4) (cw gv) (dz l a5)/\Q (cw gv)/\Q [bi [G (cr l a1),G zM,G (cM S [[120]] rs),G ei] [(2,14,U Ai rs)],bi [G (cr l a2),G zM,G (cM S [[120]] rs),G ei] [(2,14,U Ai rs)],bi [G (cr l a3),G zM,G (cM S [[120]] rs),G ei] [(2,14,U Ai rs)],bi [G (cr l a4),G zM,G (cM S [[120]] rs),G ei] [(2,14,U Ai rs)],bi [G (cr l a5),G zM,G (cM S [[120]] rs),G ei] [(2,14,U Ai rs)]]/\((yf (Q (G [bt (co S)])))/\(yf (Q (G [bt (co S)])))/\True)/\Aa PP 7 [bq 0 0,di 2] (dz l a5) (di w) (dz l a6)/\(w==0)=J/\Q (G (br 3 []))/\Aa PP 7 [bq 0 0,di (yu yt ((↑(I [[120]]):Int)+1))] (dz l a6) (di v1) (dz l a7)/\Q nV/\Ao 1 8/\((Q (G [br 3 []])/\True)/\True)/\Y (yu yt (0+1)<(↑(I [[120]]):Int))=O/\(∀(e:List D) (E:cf) (g:Gh) (a:Act) (w:x5),FI E g (bi [G (cr l a7),G zM,G (cM S [[120]] rs),G [bt (ae nm),bt (aa yt f),bt (aa yt t),cw nd,cw gv,br 3 ([]++[aa yt (yu yt (v1-1))]),bt (aa yt 0),bt (aa yt 0),bt (aa yt 0),dn,dn,dn,dn,bt (aa yt 0)]] [(3,1,[]++[aa yt (yu yt (v1-1))]),(2,14,U Ai rs)]) e a w->∃g',FI E g' (bi [G (cr l a7),G zM,G (cM S [[120]] rs),G (cR (cg nm f t nd gv [v1-1]))] [(3,1,[vi (v1-1)]),(2,14,U Ai rs)]) e a w)/\Q (U Ai rs)/\Ao (I (U Ai rs)+I (ab (ae (cg nm f t nd gv [v1-1]).name::aa yt (cg nm f t nd gv [v1-1]).aj::aa yt (cg nm f t nd gv [v1-1]).to::cz (cg nm f t nd gv [v1-1]).am::cz (cg nm f t nd gv [v1-1]).ak::cz (cg nm f t nd gv [v1-1]).move::aa yt (cg nm f t nd gv [v1-1]).chan::aa yt (cg nm f t nd gv [v1-1]).act::aa yt (cg nm f t nd gv [v1-1]).letter::cz (cg nm f t nd gv [v1-1]).path::cz (cg nm f t nd gv [v1-1]).next::AA (cg nm f t nd gv [v1-1]).ar::cz (cg nm f t nd gv [v1-1]).aq::aa yt (cg nm f t nd gv [v1-1]).second::nV)::nV)) 232/\di (yu yt ((k:Int)+1))=di (↑(k+1):Int)/\[G (cr l a7),G zM,G [di 1,bt (co S),bt (co [[120]]),dn,dn,di 0,di 0,br 2 (U Ai rs++ab (ae (cg nm f t nd gv [v1-1]).name::vi (cg nm f t nd gv [v1-1]).aj::vi (cg nm f t nd gv [v1-1]).to::cz (cg nm f t nd gv [v1-1]).am::cz (cg nm f t nd gv [v1-1]).ak::cz (cg nm f t nd gv [v1-1]).move::vi (cg nm f t nd gv [v1-1]).chan::vi (cg nm f t nd gv [v1-1]).act::vi (cg nm f t nd gv [v1-1]).letter::cz (cg nm f t nd gv [v1-1]).path::cz (cg nm f t nd gv [v1-1]).next::AA (cg nm f t nd gv [v1-1]).ar::cz (cg nm f t nd gv [v1-1]).aq::vi (cg nm f t nd gv [v1-1]).second::nV)::nV),di 0,dn]]=[G (cr l a7),G zM,G (cM S [[120]] (rs++[cg nm f t nd gv [v1-1]]))]/\[(2,14,U Ai rs++ab (ae (cg nm f t nd gv [v1-1]).name::vi (cg nm f t nd gv [v1-1]).aj::vi (cg nm f t nd gv [v1-1]).to::cz (cg nm f t nd gv [v1-1]).am::cz (cg nm f t nd gv [v1-1]).ak::cz (cg nm f t nd gv [v1-1]).move::vi (cg nm f t nd gv [v1-1]).chan::vi (cg nm f t nd gv [v1-1]).act::vi (cg nm f t nd gv [v1-1]).letter::cz (cg nm f t nd gv [v1-1]).path::cz (cg nm f t nd gv [v1-1]).next::AA (cg nm f t nd gv [v1-1]).ar::cz (cg nm f t nd gv [v1-1]).aq::vi (cg nm f t nd gv [v1-1]).second::nV)::nV)]=[(2,14,U Ai (rs++[cg nm f t nd gv [v1-1]]))]/\I0 Zv 1 (Af m) (dz l a') [kl QK [1,1,1,0,1,0,0],bh 0,kc QK [1,1,1,1]] (ba 85 [(0,bq 0 0),(1,db J),(4,bq 1 0),(5,bq 2 0),(6,di (↑(I [[120]]):Int)),(7,di (↑(k+1):Int))]) (jv l a7 S [[120]] (rs++[cg nm f t nd gv [v1-1]]))) ?_
    rw[hSm,Al (n:=v1-1)]
    repeat' first|with_reducible refine And.intro ?_ ?_
    all_goals first|exact h4|exact hkr|exact f4|exact t4|exact n4|exact g4|exact w4|exact hw|exact v14|exact C0 hnm|exact⟨m3⟩|exact Ae|omega|rfl|trivial|skip
    all_goals first|exact HX (fun z=>[G (cr l a7),G zM,G [di 1,.v (co S),.v (co [[120]]),.v .nils,.v .nils,di 0,di 0,.acc 2 z,di 0,.v .nils]]) (AV rs (cg nm f t nd gv [v1-1]))|exact HX (fun z=>[(2,14,z)]) (AV rs (cg nm f t nd gv [v1-1]))|(simp only[H9,HF,HJ];omega)|exact(fun e=>ZD (H:=[G (cr l a7),G zM,G (cM S [[120]] rs),G [.v (.str nm),di f,di t,.v (cz nd),.v (cz gv),.acc 3 ([v1-1].map vi),di 0,di 0,di 0,.v .nils,.v .nils,.v .nils,.v .nils,di 0]]) (own:=[(3,1,[v1-1].map vi),(2,14,rs.map Ai)]) (q:=3) (tag:=3) (nm:=nm) (f:=f) (t:=t) (nd:=nd) (gv:=gv) (xs:=[v1-1]) rfl e)
   ·obtain⟨v1,a7,v11,v12,v13,v14⟩:=A2 l hl a6 w3 3 (by decide) (by decide)
    obtain⟨v2,a8,v21,v22,v23,v24⟩:=A2 l hl a7 v13 3 (by decide) (by decide)
    obtain⟨m,a',m1,m2,m3⟩:=ih (3- (k+1)) (by omega) (k+1) a8 (rs++[cg nm f t nd gv [v1-1,v2-1]]) rfl v23 (by omega) (by simp[hrs]) (YQ hnm ⟨f1,f2⟩ ⟨t1,t2⟩ ⟨n2,n3⟩ ⟨g2,g3⟩ (.inr ⟨by rw[hP];rfl,fun t ht=>by
     rw[hP];show-1<=t/\t<((2:Nat):Int)
     simp only[Iq,Ji,or_false] at ht
     omega⟩) hrs hR)
    refine⟨m,a',m1,m2,?_⟩
    subst hP
    refine lv 85 [] (.c1 (cr l a1) (di r)<|.t<|.h (.dr 21)<|.x (.str nm)<|.c1 (cr l a2) (di f)<|.c1 (cr l a3) (di t)<|.c1 (cr l a4) (cw nd)<|.c1 (cr l a5) (cw gv)<|.h .rn<|.c1 (cr l a6) (di w)<|.t<|.h (.q 8 0)<|.h (.cl 3 5 3 1)<|.n<|.m (.acc 3 [])<|.c1 (cr l a7) (di v1)<|.n<|.t<|.m (.acc 3 [vi (v1-1)])<|.c1 (cr l a8) (di v2)<|.n<|.f<|.h (.q 12 2)<|.h (.cs ⟨[G (cr l a8),G zM,G (cM S [[120],[121]] rs),G (cR (cg nm f t nd gv [v1-1,v2-1]))],[(3,1,[vi (v1-1),vi (v2-1)]),(2,14,rs.map Ai)]⟩)<|.ls [ke 0,ke 1,ke 4,ke 5,ke 6,ch 7 (di (k+1:Nat))] (jv l a8 S [[120],[121]] (rs++[cg nm f t nd gv [v1-1,v2-1]]))) (Aa PP 7 [bq 0 0,di 3] (dz l a) (di r) (dz l a1)/\Y ((k:Int)<yu yt (1+r))=J/\0<=(k:Int)/\[ae (bf #[114]).data.toList,ae (bf #[115]).data.toList,ae (bf #[116]).data.toList][Z (k:Int)]?=G (ae nm)/\Aa PP 7 [bq 0 0,di (I (U ae S):Int)] (dz l a1) (di f) (dz l a2)/\Aa PP 7 [bq 0 0,di (I (U ae S):Int)] (dz l a1) (di f) (dz l a2)/\Q (di f)/\Aa PP 7 [bq 0 0,di (I (U ae S):Int)] (dz l a2) (di t) (dz l a3)/\Aa PP 7 [bq 0 0,di (I (U ae S):Int)] (dz l a2) (di t) (dz l a3)/\Q (di t)/\Aa PP 37 [bq 0 0,di (↑(I [[120],[121]]):Int),di 2] (dz l a3) (cw nd) (dz l a4)/\Aa PP 37 [bq 0 0,di (↑(I [[120],[121]]):Int),di 2] (dz l a3) (cw nd) (dz l a4)/\Q (cw nd)/\Aa PP 37 [bq 0 0,di (↑(I [[120],[121]]):Int),di 2] (dz l a4) (cw gv) (dz l a5)/\Aa PP 37 [bq 0 0,di (↑(I [[120],[121]]):Int),di 2] (dz l a4) (cw gv) (dz l a5)/\Q (cw gv)/\Q [bi [G (cr l a1),G zM,G (cM S [[120],[121]] rs),G ei] [(2,14,U Ai rs)],bi [G (cr l a2),G zM,G (cM S [[120],[121]] rs),G ei] [(2,14,U Ai rs)],bi [G (cr l a3),G zM,G (cM S [[120],[121]] rs),G ei] [(2,14,U Ai rs)],bi [G (cr l a4),G zM,G (cM S [[120],[121]] rs),G ei] [(2,14,U Ai rs)],bi [G (cr l a5),G zM,G (cM S [[120],[121]] rs),G ei] [(2,14,U Ai rs)]]/\((yf (Q (G [bt (co S)])))/\(yf (Q (G [bt (co S)])))/\True)/\Aa PP 7 [bq 0 0,di 2] (dz l a5) (di w) (dz l a6)/\(w==0)=J/\Q (G (br 3 []))/\Aa PP 7 [bq 0 0,di (yu yt ((↑(I [[120],[121]]):Int)+1))] (dz l a6) (di v1) (dz l a7)/\Q nV/\Ao 1 8/\((Q (G [br 3 []])/\True)/\True)/\Y (yu yt (0+1)<(↑(I [[120],[121]]):Int))=J/\G (br 3 [vi (yu yt (v1-1))])=G (br 3 [vi (v1-1)])/\Aa PP 7 [bq 0 0,di (yu yt ((↑(I [[120],[121]]):Int)+1))] (dz l a7) (di v2) (dz l a8)/\vi (yu yt (v1-1))::nV=vi (v1-1)::nV/\Ao 2 8/\((Q (G [br 3 [vi (yu yt (v1-1))]])/\True)/\True)/\Y (yu yt (yu yt (0+1)+1)<(↑(I [[120],[121]]):Int))=O/\(∀(e:List D) (E:cf) (g:Gh) (a:Act) (w:x5),FI E g (bi [G (cr l a8),G zM,G (cM S [[120],[121]] rs),G [bt (ae nm),bt (aa yt f),bt (aa yt t),cw nd,cw gv,br 3 ([vi (v1-1)]++[aa yt (yu yt (v2-1))]),bt (aa yt 0),bt (aa yt 0),bt (aa yt 0),dn,dn,dn,dn,bt (aa yt 0)]] [(3,1,[vi (v1-1)]++[aa yt (yu yt (v2-1))]),(2,14,U Ai rs)]) e a w->∃g',FI E g' (bi [G (cr l a8),G zM,G (cM S [[120],[121]] rs),G (cR (cg nm f t nd gv [v1-1,v2-1]))] [(3,1,[vi (v1-1),vi (v2-1)]),(2,14,U Ai rs)]) e a w)/\Q (U Ai rs)/\Ao (I (U Ai rs)+I (ab (ae (cg nm f t nd gv [v1-1,v2-1]).name::aa yt (cg nm f t nd gv [v1-1,v2-1]).aj::aa yt (cg nm f t nd gv [v1-1,v2-1]).to::cz (cg nm f t nd gv [v1-1,v2-1]).am::cz (cg nm f t nd gv [v1-1,v2-1]).ak::cz (cg nm f t nd gv [v1-1,v2-1]).move::aa yt (cg nm f t nd gv [v1-1,v2-1]).chan::aa yt (cg nm f t nd gv [v1-1,v2-1]).act::aa yt (cg nm f t nd gv [v1-1,v2-1]).letter::cz (cg nm f t nd gv [v1-1,v2-1]).path::cz (cg nm f t nd gv [v1-1,v2-1]).next::AA (cg nm f t nd gv [v1-1,v2-1]).ar::cz (cg nm f t nd gv [v1-1,v2-1]).aq::aa yt (cg nm f t nd gv [v1-1,v2-1]).second::nV)::nV)) 232/\di (yu yt ((k:Int)+1))=di (↑(k+1):Int)/\[G (cr l a8),G zM,G [di 1,bt (co S),bt (co [[120],[121]]),dn,dn,di 0,di 0,br 2 (U Ai rs++ab (ae (cg nm f t nd gv [v1-1,v2-1]).name::vi (cg nm f t nd gv [v1-1,v2-1]).aj::vi (cg nm f t nd gv [v1-1,v2-1]).to::cz (cg nm f t nd gv [v1-1,v2-1]).am::cz (cg nm f t nd gv [v1-1,v2-1]).ak::cz (cg nm f t nd gv [v1-1,v2-1]).move::vi (cg nm f t nd gv [v1-1,v2-1]).chan::vi (cg nm f t nd gv [v1-1,v2-1]).act::vi (cg nm f t nd gv [v1-1,v2-1]).letter::cz (cg nm f t nd gv [v1-1,v2-1]).path::cz (cg nm f t nd gv [v1-1,v2-1]).next::AA (cg nm f t nd gv [v1-1,v2-1]).ar::cz (cg nm f t nd gv [v1-1,v2-1]).aq::vi (cg nm f t nd gv [v1-1,v2-1]).second::nV)::nV),di 0,dn]]=[G (cr l a8),G zM,G (cM S [[120],[121]] (rs++[cg nm f t nd gv [v1-1,v2-1]]))]/\[(2,14,U Ai rs++ab (ae (cg nm f t nd gv [v1-1,v2-1]).name::vi (cg nm f t nd gv [v1-1,v2-1]).aj::vi (cg nm f t nd gv [v1-1,v2-1]).to::cz (cg nm f t nd gv [v1-1,v2-1]).am::cz (cg nm f t nd gv [v1-1,v2-1]).ak::cz (cg nm f t nd gv [v1-1,v2-1]).move::vi (cg nm f t nd gv [v1-1,v2-1]).chan::vi (cg nm f t nd gv [v1-1,v2-1]).act::vi (cg nm f t nd gv [v1-1,v2-1]).letter::cz (cg nm f t nd gv [v1-1,v2-1]).path::cz (cg nm f t nd gv [v1-1,v2-1]).next::AA (cg nm f t nd gv [v1-1,v2-1]).ar::cz (cg nm f t nd gv [v1-1,v2-1]).aq::vi (cg nm f t nd gv [v1-1,v2-1]).second::nV)::nV)]=[(2,14,U Ai (rs++[cg nm f t nd gv [v1-1,v2-1]]))]/\I0 Zv 1 (Af m) (dz l a') [kl QK [1,1,1,0,1,0,0],bh 0,kc QK [1,1,1,1]] (ba 85 [(0,bq 0 0),(1,db J),(4,bq 1 0),(5,bq 2 0),(6,di (↑(I [[120],[121]]):Int)),(7,di (↑(k+1):Int))]) (jv l a8 S [[120],[121]] (rs++[cg nm f t nd gv [v1-1,v2-1]]))) ?_
    rw[hSm,Al (n:=v1-1),Al (n:=v2-1)]
    repeat' first|with_reducible refine And.intro ?_ ?_
    all_goals first|exact h4|exact hkr|exact f4|exact t4|exact n4|exact g4|exact w4|exact hw|exact v14|exact v24|exact C0 hnm|exact⟨m3⟩|exact Ae|omega|rfl|trivial|skip
    all_goals first|exact HX (fun z=>[G (cr l a8),G zM,G [di 1,.v (co S),.v (co [[120],[121]]),.v .nils,.v .nils,di 0,di 0,.acc 2 z,di 0,.v .nils]]) (AV rs (cg nm f t nd gv [v1-1,v2-1]))|exact HX (fun z=>[(2,14,z)]) (AV rs (cg nm f t nd gv [v1-1,v2-1]))|(simp only[H9,HF,HJ];omega)|exact(fun e=>ZD (H:=[G (cr l a8),G zM,G (cM S [[120],[121]] rs),G [.v (.str nm),di f,di t,.v (cz nd),.v (cz gv),.acc 3 ([v1-1,v2-1].map vi),di 0,di 0,di 0,.v .nils,.v .nils,.v .nils,.v .nils,di 0]]) (own:=[(3,1,[v1-1,v2-1].map vi),(2,14,rs.map Ai)]) (q:=3) (tag:=3) (nm:=nm) (f:=f) (t:=t) (nd:=nd) (gv:=gv) (xs:=[v1-1,v2-1]) rfl e)
  ·obtain⟨m,a',m1,m2,m3⟩:=ih (3- (k+1)) (by omega) (k+1) a6 (rs++[cg nm f t nd gv []]) rfl w3 (by omega) (by simp[hrs]) (YQ hnm ⟨f1,f2⟩ ⟨t1,t2⟩ ⟨n2,n3⟩ ⟨g2,g3⟩ (.inl rfl) hrs hR)
   refine⟨m,a',m1,m2,?_⟩
   refine lv 85 [] (.c1 (cr l a1) (di r)<|.t<|.h (.dr 21)<|.x (.str nm)<|.c1 (cr l a2) (di f)<|.c1 (cr l a3) (di t)<|.c1 (cr l a4) (cw nd)<|.c1 (cr l a5) (cw gv)<|.c1 (cr l a6) (di w)<|.f<|.ls [ke 0,ke 1,ke 4,ke 5,ke 6,ch 7 (di (k+1:Nat))] (jv l a6 S Pl (rs++[cg nm f t nd gv []]))) (Aa PP 7 [bq 0 0,di 3] (dz l a) (di r) (dz l a1)/\Y ((k:Int)<yu yt (1+r))=J/\0<=(k:Int)/\[ae (bf #[114]).data.toList,ae (bf #[115]).data.toList,ae (bf #[116]).data.toList][Z (k:Int)]?=G (ae nm)/\Aa PP 7 [bq 0 0,di (I (U ae S):Int)] (dz l a1) (di f) (dz l a2)/\Aa PP 7 [bq 0 0,di (I (U ae S):Int)] (dz l a1) (di f) (dz l a2)/\Q (di f)/\Aa PP 7 [bq 0 0,di (I (U ae S):Int)] (dz l a2) (di t) (dz l a3)/\Aa PP 7 [bq 0 0,di (I (U ae S):Int)] (dz l a2) (di t) (dz l a3)/\Q (di t)/\Aa PP 37 [bq 0 0,di (I Pl:Int),di 2] (dz l a3) (cw nd) (dz l a4)/\Aa PP 37 [bq 0 0,di (I Pl:Int),di 2] (dz l a3) (cw nd) (dz l a4)/\Q (cw nd)/\Aa PP 37 [bq 0 0,di (I Pl:Int),di 2] (dz l a4) (cw gv) (dz l a5)/\Aa PP 37 [bq 0 0,di (I Pl:Int),di 2] (dz l a4) (cw gv) (dz l a5)/\Q (cw gv)/\Q [bi [G (cr l a1),G zM,G (cM S Pl rs),G ei] [(2,14,U Ai rs)],bi [G (cr l a2),G zM,G (cM S Pl rs),G ei] [(2,14,U Ai rs)],bi [G (cr l a3),G zM,G (cM S Pl rs),G ei] [(2,14,U Ai rs)],bi [G (cr l a4),G zM,G (cM S Pl rs),G ei] [(2,14,U Ai rs)],bi [G (cr l a5),G zM,G (cM S Pl rs),G ei] [(2,14,U Ai rs)]]/\((yf (Q (G [bt (co S)])))/\(yf (Q (G [bt (co S)])))/\True)/\Aa PP 7 [bq 0 0,di 2] (dz l a5) (di w) (dz l a6)/\(w==0)=O/\Q (U Ai rs)/\Ao (I (U Ai rs)+I (ab (ae nm::aa yt f::aa yt t::cz nd::cz gv::ai nV::aa yt 0::aa yt 0::aa yt 0::ai nV::ai nV::ai nV::ai nV::aa yt 0::nV)::nV)) 232/\di (yu yt ((k:Int)+1))=di (↑(k+1):Int)/\[G (cr l a6),G zM,G [di 1,bt (co S),bt (co Pl),dn,dn,di 0,di 0,br 2 (U Ai rs++ab (ae nm::vi f::vi t::cz nd::cz gv::ai nV::vi 0::vi 0::vi 0::ai nV::ai nV::ai nV::ai nV::vi 0::nV)::nV),di 0,dn]]=[G (cr l a6),G zM,G (cM S Pl (rs++[cg nm f t nd gv []]))]/\[(2,14,U Ai rs++ab (ae nm::vi f::vi t::cz nd::cz gv::ai nV::vi 0::vi 0::vi 0::ai nV::ai nV::ai nV::ai nV::vi 0::nV)::nV)]=[(2,14,U Ai (rs++[cg nm f t nd gv []]))]/\I0 Zv 1 (Af m) (dz l a') [kl QK [1,1,1,0,1,0,0],bh 0,kc QK [1,1,1,1]] (ba 85 [(0,bq 0 0),(1,db J),(4,bq 1 0),(5,bq 2 0),(6,di (I Pl:Int)),(7,di (↑(k+1):Int))]) (jv l a6 S Pl (rs++[cg nm f t nd gv []]))) ?_
   rw[hSm]
   repeat' first|with_reducible refine And.intro ?_ ?_
   all_goals first|exact h4|exact hkr|exact f4|exact t4|exact n4|exact g4|exact w4|exact HM hw|exact C0 hnm|exact⟨m3⟩|exact Ae|omega|rfl|trivial|skip
   all_goals first|exact HX (fun z=>[G (cr l a6),G zM,G [di 1,.v (co S),.v (co Pl),.v .nils,.v .nils,di 0,di 0,.acc 2 z,di 0,.v .nils]]) (AV rs (cg nm f t nd gv []))|exact HX (fun z=>[(2,14,z)]) (AV rs (cg nm f t nd gv []))|(simp only[H9,HF,HJ];omega)
 ·obtain⟨ys,a2,y1,y2,y3,y4⟩:=GQ l hl a1 h3 (I Pl) (by omega) 3 (by decide) (by decide)
  obtain⟨c,hc⟩:∃c,c=Dp 0 ys:=⟨_,rfl⟩
  refine⟨⟨1,S,Pl,[],[],0,0,rs,c⟩,a2,⟨rfl,hS,hP,rfl,rfl,rfl,rfl,by show I rs<=3;omega,by show 1<=I rs;omega,hR,ys,y2,y3,hc⟩,y1,?_⟩
  refine lv 85 [] (.c1 (cr l a1) (di r)<|.f<|.c1 (cr l a2) (cw ys)<|.c (dV c) .r) (_/\Y ((k:Int)<yu yt (1+r))=O/\_/\F0 38 [di 0,cw ys] (dV c)/\Q [G (cr l a2)]/\bt (ab [vi 1,ai (U ae S),ai (U ae Pl),ai [],ai [],vi 0,vi 0,ai (U Ai rs),vi c.n,ai (U eV c.az)])=Af (b9.mk 1 S Pl [] [] 0 0 rs c)) ⟨h4,?_,y4,hc▸Nx ys (by omega) 0,rfl,rfl⟩
  rw[Al];exact HE hk
theorem AfW(l:List UInt8)(hl:I l<=200)(a:Nat)(ha:a<=I l):
  ∃(m:b9) (a':Nat),RS m/\a'<=I l/\Aa PP 16 [.ptr 0 0,db J] (dz l a) (Af m) (dz l a'):=by
 obtain⟨r1,a1,h1,h2,h3,h4⟩:=A2 l hl a ha 2 (by decide) (by decide)
 obtain⟨r2,a2,h5,h6,h7,h8⟩:=A2 l hl a1 h3 2 (by decide) (by decide)
 obtain⟨S,hS,hS2⟩:∃S:List (List UInt8),(S=[[97]]∨S=[[97],[98]])/\(r1=0/\S=[[97]]∨r1=1/\S=[[97],[98]]):=by
  rcases(show r1=0∨r1=1 by omega) with h|h
  ·exact⟨_,.inl rfl,.inl ⟨h,rfl⟩⟩
  ·exact⟨_,.inr rfl,.inr ⟨h,rfl⟩⟩
 obtain⟨Pl,hP,hP2⟩:∃S:List (List UInt8),(S=[[120]]∨S=[[120],[121]])/\(r2=0/\S=[[120]]∨r2=1/\S=[[120],[121]]):=by
  rcases(show r2=0∨r2=1 by omega) with h|h
  ·exact⟨_,.inl rfl,.inl ⟨h,rfl⟩⟩
  ·exact⟨_,.inr rfl,.inr ⟨h,rfl⟩⟩
 obtain⟨m,a',m1,m2,m3⟩:=ZH l hl S Pl hS hP _ 0 a2 [] rfl h7 (by omega) rfl (fun i r h=>by simp at h)
 refine⟨m,a',m1,m2,?_⟩
 refine sv Zv 85 [] (.h (.dr 11)<|.c1 (cr l a1) (di r1)<|.c1 (cr l a2) (di r2)<|.h .rn<|.h (.q 3 0)<|.h (.cl 2 7 2 14)<|.ls [ke 0,ke 1,ke 4,ke 5,ch 6 (di (I Pl)),ch 7 (di (0:Nat))] (jv l a2 S Pl [])) (_/\_/\Q (di r1)/\(∀(x:V),x∈ oo->V.size x=1)/\0<=(fun x=>x.snd) (yt,yu yt (1+r1))/\(fun x=>x.snd) (yt,yu yt (1+r1))<=(↑(I oo):Int)/\_/\_/\Q (di r2)/\(∀(x:V),x∈ jo->V.size x=1)/\0<=(fun x=>x.snd) (yt,yu yt (1+r2))/\(fun x=>x.snd) (yt,yu yt (1+r2))<=(↑(I jo):Int)/\Q [bi (ge l a) [],bi (ge l a1) [],bi (ge l a2) []]/\True/\di (I (W 0 (take (Z ((fun x=>x.snd) (yt,yu yt (1+r2)))) qk)):Int)=di (I Pl:Int)/\Q (di 0)/\[G (cr l a2),G nn,G [di 1,bt (ai (W 0 (take (Z ((fun x=>x.snd) (yt,yu yt (1+r1)))) wn))),bt (ai (W 0 (take (Z ((fun x=>x.snd) (yt,yu yt (1+r2)))) qk))),dn,dn,di 0,di 0,br 2 nV,di 0,dn]]=[G (cr l a2),G zM,G (cM S Pl [])]/\Q [(2,14,nV)]/\_) ⟨h4,h4,rfl,by simp[V.size],?_,?_,h8,h8,rfl,by simp[V.size],?_,?_,rfl,trivial,?_,rfl,?_,rfl,iK m3⟩
 ·show 0<=yt.wrap (1+r1);rw[Al];omega
 ·show yt.wrap (1+r1)<=2;rw[Al];omega
 ·show 0<=yt.wrap (1+r2);rw[Al];omega
 ·show yt.wrap (1+r2)<=2;rw[Al];omega
 ·rcases hP2 with⟨rfl,rfl⟩|⟨rfl,rfl⟩<;>rfl
 ·rcases hS2 with⟨rfl,rfl⟩|⟨rfl,rfl⟩<;>rcases hP2 with⟨rfl,rfl⟩|⟨rfl,rfl⟩<;>rfl
theorem QB.short{ns np k:Nat}{r:cp}(h:QB ns np k r)(hnp:np<=2):r.short:=by
 have h1:=h.am.1
 have h2:=h.ak.1
 have h3:I r.move<=2:=by
  rcases h.move with e|e
  ·rw[e];decide
  ·rw[e.1];exact hnp
 rw[h.rest]
 exact⟨by show I r.am<=_;omega,by show I r.ak<=_;omega,by show I r.move<=_;omega,Ik _,Ik _,Ik _,Ik _⟩
theorem AcB{rs:List cp}(h3:I rs<=3){ns np:Nat}(h:∀k r,rs[k]?=G r->QB ns np k r):rs.map cp.name=kg.take (I rs):=by
 apply ext_getElem?
 intro i
 by_cases hi:i<I rs
 ·have hx:rs[i]?=G rs[i]:=HA hi
  rw[Ir,hx,List.getElem?_take_of_lt hi,(h i _ hx).name];rfl
 ·rw[Iy (by simp;omega),Iy (by simp;omega)]
theorem RS.ok{m:b9}(h:RS m):m.ok:=by
 have hst:1<=I m.aw/\m.aw.length<=2:=by rcases h.aw with e|e<;>rw[e]<;>decide
 have hpl:1<=I m.ay/\m.ay.length<=2:=by rcases h.ay with e|e<;>rw[e]<;>decide
 have hb:∀{x a b:Int},a<=x->x<=b->Ay x a b=J:=fun h1 h2=>by simp[Ay,h1,h2]
 have hget:∀r∈m.av,QB (I m.aw) (I m.ay) (m.av.idxOf r) r:=fun r hr=>by
  have hi:=List.idxOf_lt_length_of_mem hr
  exact h.av _ r (by rw[HA hi,List.getElem_idxOf])
 have hc:=h.count
 refine⟨.inl h.kind,?_,?_,?_,?_,?_,?_,?_⟩
 ·simp only[CE,QF,HV h.kind,HB,HK,h.ax,h.ao,h.age]
  exact⟨hb (by omega) (by omega),by omega,hb (by omega) (by omega),by decide,by decide,by decide⟩
 ·rw[BV,HV (by rw[h.kind];rfl),h.au];rfl
 ·have hn:=AcB h.count h.av
  rw[Ew,EP,hn,BW,h.ax]
  have:I m.av=0∨m.av.length=1∨m.av.length=2∨m.av.length=3:=by omega
  rcases h.aw with e|e<;>rcases h.ay with e'|e'<;>rcases this with e2|e2|e2|e2<;>rw[e,e',e2]<;>decide
 ·intro r hr
  have hm:=hget r hr
  exact hm.short (by omega)
 ·intro r hr
  have hm:=hget r hr
  obtain⟨f1,f2⟩:=hm.aj
  obtain⟨t1,t2⟩:=hm.to
  obtain⟨n1,n2⟩:=hm.am
  obtain⟨g1,g2⟩:=hm.ak
  have hmv:r.move=[]∨r.move.length=I m.ay/\∀t∈r.move, -1<=t/\t<I m.ay:=hm.move
  have hr:=hm.rest
  generalize r.name=nm at hr
  generalize r.aj=f at*
  generalize r.to=t at*
  generalize r.am=nd at*
  generalize r.ak=gv at*
  generalize r.move=mv at*
  subst hr
  rw[Er,HV h.kind]
  simp only[DW,BR,BU,Oy,cg,HB,Iw,Il,HK,Io,true_and,HJ]
  refine⟨hb (by omega) (by omega),hb (by omega) (by omega),⟨by omega,by omega,fun x hx=>hb (n2 x hx).1 (by have:=(n2 x hx).2;omega),fun x hx=>hb (g2 x hx).1 (by have:=(g2 x hx).2;omega)⟩,?_⟩
  have hmb:De m (cg nm f t nd gv mv)=J:=by
   rcases hmv with e|⟨e1,e2⟩
   ·simp[De,cg,e]
   ·simp only[De,cg,Bool.or_eq_true,HB,Iw,Il]
    exact .inr ⟨by omega,fun x hx=>hb (e2 x hx).1 (by have:=(e2 x hx).2;omega)⟩
  exact hmb
 ·obtain⟨ys,y1,y2,y3⟩:=h.start
  rw[y3]
  exact Gw m h.kind (by omega) 0 ⟨by omega,by omega⟩ ys y1 fun x hx=>by have:=y2 x hx;omega
 ·obtain⟨ys,y1,y2,y3⟩:=h.start
  rw[y3,F1];omega
theorem RS.ctm{m:b9}(h:RS m):fi m:=by
 have hst:1<=I m.aw:=by rcases h.aw with e|e<;>rw[e]<;>decide
 refine⟨h.ok,h.kind,?_⟩
 obtain⟨ys,y1,y2,y3⟩:=h.start
 rw[y3]
 exact ub m 0 ⟨by omega,by omega⟩ ys y1 fun x hx=>by have:=y2 x hx;omega
end Go.Proofs.YtfhgjfkleggjfaaGreatDoor
