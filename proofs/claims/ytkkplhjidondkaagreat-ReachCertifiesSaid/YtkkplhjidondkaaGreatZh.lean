/-
  A part of the proof.
-/
import Derived.Test.YtkkplhjidondkaaGreatZg
import Derived.Test.YtkkplhjidondkaaGreatZd
import Derived.Test.YtkkplhjidondkaaGreatZf
import Derived.Test.YtkkplhjidondkaaGreatZe
namespace Go.Proofs.YtkkplhjidondkaaGreat
open Go.Dv Go.Nv
set_option maxRecDepth 20000
open List (cons_append length map map_drop map_take nil_append range_succ replicate take take_length)
open Go.IntKind (u64)
open Go.IntKind renaming wrap → yu, i64 → yt
open List renaming length → I, map → U, drop → W
open Option renaming some → G
open Bool renaming true → J, false → O
open Decidable renaming decide → Y
open Int renaming toNat → Z
open Go.Dv.V renaming list → ai, str → ae, agg → ab, int → aa, ref → bz, fn → bw, nils → bv, bool → bu
open Go.Dv.D renaming v → bt, acc → br, ptr → bq, arr → bo, gro → bm, tup → bk, undef → bj, dagg → bi
open Go.Dv.St renaming mk → bh
open Go.Dv.KI renaming blk → bf
open _root_.ByteArray renaming mk → bc
open Go renaming Operand → x8, Program → x7, TypeId → x6, World → x5, Value → yz, Oper → yy, FuncId → yx, Func → yw, IntKind → yv
def ec(b k:Nat):List D:=(List.range k).flatMap fun i=>[di 0,.arr (b+i) 0 2]
theorem L8(b k:Nat):ec b (k+1)=ec b k++[di 0,.arr (b+k) 0 2]:=by simp[ec,range_succ]
theorem AiL(b k:Nat):I (ec b k)=k*2:=by
 induction k<;>grind[L8,ec]
theorem Lf{n:Nat}{ts:List Nat}(b k:Nat)(h:b+k<=n):D.okNs n ts (ec b k)=J:=by
 induction k<;>grind[L8,JT,D.okNs,D.okN,ec]
theorem GZ{ρ:Nat->Nat}(b b' k:Nat)(h:∀i,i<k->ρ (b+i)=b'+i):D.rens ρ id (ec b k)=ec b' k:=by
 induction k<;>grind[L8,JP,D.rens,D.ren,ec]
abbrev gy(x:b9):List D:=Ab (x.az.map eV)
def dj(l:List b9):List (Option (List D)):=l.map fun x=>G (gy x)
theorem Dk(x:b9):D.pls (gy x)=J:=Ay _
theorem Me{l:List b9}{j:Nat}{cs:List D}(h:(dj l)[j]?=G (G cs)):∃x,l[j]?=G x/\cs=gy x:=by
 grind[dj]
theorem vr(x:b9)(hn:x.az≠ [])(hv:x.size<=900):Aa PP 83 [dV x] ba (.dagg [di x.n,.arr 0 0 (I x.az)]) ⟨[G (gy x)],[]⟩:=by
 have h:=RN (I x.az) (List.length_pos_iff.2 hn) x hn hv
 rw[Tw x.az (I x.az) (I x.az) (HP _) (HP _),take_length,show EA (I x.az) x.az (I x.az)=[] by grind[EA]] at h
 refine E5 (σ:=ba) (T:=(xk x.n (I x.az) (gy x) []).H) (fun i=>i+2) (Iu _) (fun i hi=>by grind) (fun i j _ _ h=>by omega) (fun i hi=>by grind) (fun i cs hi=>?_) (by rfl) (by grind[D.ren,D.rens])
 grind[A7,Dk,AO]
abbrev je(n:Int)(k:Nat)(L:List D)(Hs:List (Option (List D))):St:=⟨G [di 0,.v .nils]::G [di n,.gro 2 k 2]::G L::Hs,[]⟩
theorem Air{P:x7}{o:yy}{σ:St}{t:x6}{x:x8}{N:Nat}(hN:I σ.H=N)(ho:o.op=.buildSlice t 1 #[(0,x)])
  {e:x6} {sz by':Nat} {z:Option yz} (hs:BS P t=G (e,sz,by',z)) (hz:z.isSome=J) {d:D} (hd:d.sto=J) (hc:I (Az d)=sz) (h1:0<sz) (h2:sz<=1000):
  Ai P o [d] σ (.gro N 1 sz) ⟨σ.H++[G (Az d)],σ.own⟩:=by
 grind[Gj]
theorem RO{H:List (Option (List D))}{N:Nat}(hN:I H=N){x:b9}{F:List D}(hF:D.pls F=J)(hsp:Aa PP 83 [dV x] ba (.dagg [di x.n,.arr 0 0 (I x.az)]) ⟨[G F],[]⟩){o:yy}{cl:Call}{fo:x8}(ho:o.op=.call cl)(hc2:cl.callee=.value fo):
  Ai PP o [.v (.fn 83 [] []),dV x] ⟨H,[]⟩ (.dagg [di x.n,.arr N 0 (I x.az)]) ⟨H++[G F],[]⟩:=by
 subst hN
 have h:=B3 (σ:=⟨H,[]⟩) ho hc2 (fD:=.v (.fn 83 [] [])) rfl (ds:=[dV x]) [] id hsp (.cons (.ren (dc:=dV x) rfl) .nil) .nil (by simp) rfl (by simp) (by simp) (by rfl) (by grind[cm,AO])
 simpa[CO,Cy,DM,D.ren,D.rens,ez,A7 hF] using h
theorem AoC{R:List D->St->Prop}{ks:List KI}{e e':List D}(n:Int)(l:List b9)(x:b9)(S:Option (List D))(he:D.okNs (I l+4) [] e'=J)(hee:e=D.rens (fun i=>if i=2 then I l+5 else i) id e')
  (h:A2 (CN 0) PP R ks e' (je n (I l+1) (ec 3 (I l+1)) (dj (l++[x])))):
  A2 (CN 0) PP R ks e ⟨G [di 0,.v .nils]::G [di n,.gro (I l+5) (I l+1) 2]::none::(((dj l++[G (gy x)])++[S])++[G (ec 3 (I l+1))]),[]⟩:=by
 have hl:I (dj l)=I l:=by simp[dj]
 have hl2:I (dj (l++[x]))=I l+1:=by simp[dj]
 have hH:(je n (I l+1) (ec 3 (I l+1)) (dj (l++[x]))).H.length=I l+4:=by grind
 refine C3 (e':=e') (H':=(je n (I l+1) (ec 3 (I l+1)) (dj (l++[x]))).H) (m:=0) (fun _ _ h=>h.2) (fun i=>if i=2 then I l+5 else i) (Iu _) (fun i hi=>by omega) (fun i j hi hj h=>?_) (fun i cs hi=>?_) (by grind) hee h
 ·grind
 ·rw[hH]
  match i,hi with
  |0,hi=>simp at hi;subst hi;exact⟨rfl,by rfl⟩
  |1,hi=>grind[D.rens,D.ren,D.okNs,D.okN]
  |2,hi=>
   simp at hi;subst hi
   refine⟨?_,Lf _ _ (by omega)⟩
   rw[GZ 3 3 _ (fun i hi=>by grind)]
   simp_all
  |i+3,hi=>
   grind[AO,Dk,A7,dj]
theorem Acv{n:Int}{l:List b9}(hk:I l<=900)(hk1:1<=I l){v:b9}{x:b9}(hx:v.az[I l]?=G x)(h0:x.n=0)(h2:I x.az=2)(hsz:x.size<=900){d:D}{σ':St}
  (next:Rn PP B0 0 d σ' ([kl AA [1,1,0,1,0,0],.blk 0,kc AA [1,1,1]]++[]) (cy 27 [(1,.v (.ref (Ac v))),(2,.ptr 0 0),(3,.ptr 1 0),(4,di (I l+1:Nat))]) (je n (I l+1) (ec 3 (I l+1)) (dj (l++[x])))):
  Rn PP B0 0 d σ' ([kl AA [1,1,0,1,0,0],.blk 0,kc AA [1,1,1]]++[]) (cy 27 [(1,.v (.ref (Ac v))),(2,.ptr 0 0),(3,.ptr 1 0),(4,di (I l:Nat))]) (je n (I l) (ec 3 (I l)) (dj l)):=by
 have hsp:=vr x (by grind) hsz
 have hlt:=(HL.1 hx).1
 have hOl:I (dj l)=I l:=by simp[dj]
 have hLl:=AiL 3 (I l)
 have hnm:=fun(e e':List D) he hee=>AoC (R:=fun env σ1=>A9 PP B0 env σ1 d σ') (ks:=[kl AA [1,1,0,1,0,0],.blk 0,kc AA [1,1,1]]) (e:=e) (e':=e') n l x (G [di 0,.arr (I l+3) 0 2]) he hee
 have hLs:=L8 3 (I l)
 generalize dj (l++[x])=Hs' at next hnm
 generalize ec 3 (I l+1)=L' at next hnm hLs
 generalize dj l=Hs at hOl hnm⊢
 generalize ec 3 (I l)=L at hLl hLs⊢
 refine lv 27 [1] (.t<|.h (.xs (Ac x))<|.h (.oc (.dagg [di x.n,.arr (I l+3) 0 (I x.az)]) ⟨G [di 0,.v .nils]::G [di n,.gro 2 (I l) 2]::G L::(Hs++[G (gy x)]),[]⟩)<|.h (.o (.gro (I l+4) 1 2) ⟨G [di 0,.v .nils]::G [di n,.gro 2 (I l) 2]::G L::((Hs++[G (gy x)])++[G [di 0,.arr (I l+3) 0 2]]),[]⟩)<|.h (.o (.gro (I l+5) (I l+1) 2) ⟨G [di 0,.v .nils]::G [di n,.gro 2 (I l) 2]::none::(((Hs++[G (gy x)])++[G [di 0,.arr (I l+3) 0 2]])++[G L']),[]⟩)<|.l [ke 1,ke 2,ke 3,ch 4 (di (I l+1:Nat))]) (Y ((I l:Int)<(I (ce v.az):Int))=J/\Q 2/\0<=(I l:Int)/\(ce v.az)[Z (I l:Int)]?=G (Ac x)/\(N0 (Arz x) (je n (I l) L Hs) (bi [di x.n,bo (I l+3) 0 (I x.az)]) (bh (G [di 0,dn]::G [di n,bm 2 (I l) 2]::G L::(Hs++[G (gy x)])) []))/\Ai PP qd [bi [di x.n,bo (I l+3) 0 (I x.az)]] (bh (G [di 0,dn]::G [di n,bm 2 (I l) 2]::G L::(Hs++[G (gy x)])) []) (bm (I l+4) 1 2) (bh (G [di 0,dn]::G [di n,bm 2 (I l) 2]::G L::(Hs++[G (gy x)]++[G [di 0,bo (I l+3) 0 2]])) [])/\Ai PP xt [bm 2 (I l) 2,bm (I l+4) 1 2] (bh (G [di 0,dn]::G [di n,bm 2 (I l) 2]::G L::(Hs++[G (gy x)]++[G [di 0,bo (I l+3) 0 2]])) []) (bm (I l+5) (I l+1) 2) (bh (G [di 0,dn]::G [di n,bm 2 (I l) 2]::none::(Hs++[G (gy x)]++[G [di 0,bo (I l+3) 0 2]]++[G L'])) [])/\((Q (G [bm 2 (I l) 2])/\Q (G [bm 2 (I l) 2])/\True)/\True)/\di (yu yt ((I l:Int)+1))=di (↑(I l+1):Int)/\_) ⟨HK (by grind),rfl,by omega,Ap hx,fun o c fo ho hc=>RO (by grind) (Dk x) hsp ho hc,?_,?_,⟨⟨rfl,rfl,trivial⟩,trivial⟩,Ae,iK (hnm _ _ (by rfl) (by rfl) next)⟩
 ·rw[h0,h2]
  refine Air ?_ rfl kp rfl rfl rfl (by decide) (by decide)
  grind
 ·rw[hLs,Nat.add_comm 3 (I l)]
  have hN:I l+5=I (G [di 0,.v .nils]::G [di n,.gro 2 (I l) 2]::G L::((Hs++[G (gy x)])++[G [di 0,.arr (I l+3) 0 2]])):=by simp[hOl]
  rw[hN]
  refine KH rfl kp rfl (by decide) (q:=2) (q2:=I l+4) (cs:=L) (cs2:=[di 0,.arr (I l+3) 0 2]) rfl hLl ?_ rfl (by decide) (by omega) (by omega)
  grind
noncomputable def Alm(P:x7)(rs:List ResultVar)(d:D)(σ':St)(env:List D)(σ:St):Prop:=
 l5 P env σ true rs fun ds=>AX (ds.map (io [] false)) fun ds=>vg ds fun d'=>cond (σ'.own.isEmpty&&σ.own.isEmpty) ((D.okN (I σ'.H) [] d=J/\cm (I σ'.H) [] σ'.H=J)/\σ.H=σ'.H/\d'=d) False
theorem AdS{P:x7}{fn:yw}{d:D}{σ':St}{env:List D}{σ:St}(h:Alm P fn.results.toList d σ' env σ):A9 P fn env σ d σ':=by
 obtain⟨ds,h1,hr⟩:=Hv h
 rw[AQ,Pz] at h1
 obtain⟨h2,⟨hokd,h8⟩,hH,h4⟩:=As h1
 simp only[HJ,List.isEmpty_iff] at h2
 obtain⟨ho',ho⟩:=h2
 intro E g a w hf hE
 obtain⟨us,h5,h6⟩:=hr.run hf
 have hrun:(results fn a.tmps).run P w=.ok (if h:I us=1 then us[0] else .tuple us.toArray) w:=by
  rw[H6,Array.mapM_eq_mapM_toList]
  simp_all
 refine⟨_,_,hrun,WB (m:=I σ'.H) hf.wi (by grind) (by grind) hE (by grind) (by grind),?_⟩
 refine Mu _ _ (by grind) ?_
 have h7:=D7 (ts:=[]) (kn:=false) h6
 subst h4
 generalize ds.map (io [] false)=ds' at h7
 have hl:=A1 h7
 unfold Tb
 split
 ·grind[AB]
 ·rename_i hne
  have:I us≠1:=by
   rw[hl]
   intro h
   match ds',h with
   |[d0],_=>grind
  grind[Ag]
theorem AfM{P:x7}(hm:P.follows .mixedOrders=J){C:Nat}{fn:yw}{d:D}{σ':St}(nt:Nat)(im:List Nat){ks T:List KI}{L:List (Nat×D)}{σ:St}(s:Sc)
  (h:AX (cy nt L) fun env=>vc (CN C) C P (fun env σ1=>A9 P fn env σ1 d σ') (fun _ env σ=>Alm P fn.results.toList d σ' env σ) nt im T 10000 (.h .n s) ks env σ):Rn P fn C d σ' (ks++T) (cy nt L) σ:=by
 rw[AQ] at h
 exact Qz (NF _) (fun _ _ h=>h.2) hm (fun b env σ _ h=>AdS h) (by simp[cy,DN]) h
theorem VY{n:Int}{m:Nat}{L:List D}{Hs:List (Option (List D))}{v:b9}(hm:I v.az=m)(hL:D.okNs (I Hs+3) [] L=J)(hH:cm (I Hs+3) [] Hs=J):
  Rn PP B0 0 (.dagg [di n,.arr 2 0 m]) ⟨G [di n,.arr 2 0 m]::G [di n,.arr 2 0 m]::G L::Hs,[]⟩ ([kl AA [1,1,0,1,0,0],.blk 0,kc AA [1,1,1]]++[]) (cy 27 [(1,.v (.ref (Ac v))),(2,.ptr 0 0),(3,.ptr 1 0),(4,di (m:Nat))]) (je n m L Hs):=by
 have e1:∀e:List D,Cv e (je n m L Hs) e ⟨G [di 0,.v .nils]::G [di n,.arr 2 0 m]::G L::Hs,[]⟩:=fun e=>Acr (σ:=je n m L Hs) (p:=1) (q:=2) (i:=1) (n:=m) (sz:=2) (cs:=[di n,.gro 2 m 2]) rfl rfl e
 refine Mp (e1 _) ?_
 clear e1
 refine AfM mixed 27 [1] (.f<|.h (.m (.dagg [di n,.arr 2 0 m]))<|.h .ww<|.r) ?_
 refine fv (by kernel_rfl:(Y ((m:Int)<(I (ce v.az):Int))=O/\2<=2/\Q [di n,bo 2 0 m]/\2<=2/\(D.okN (I (bh (G [di n,bo 2 0 m]::G [di n,bo 2 0 m]::G L::Hs) []).H) [] (bi [di n,bo 2 0 m])=J/\cm (I (bh (G [di n,bo 2 0 m]::G [di n,bo 2 0 m]::G L::Hs) []).H) [] (G [di n,bo 2 0 m]::G [di n,bo 2 0 m]::G L::Hs)=J)/\Q (G [di n,bo 2 0 m]::G [di n,bo 2 0 m]::G L::Hs)/\Q (bi [di n,bo 2 0 m]))=_) ?_
 have hle:(bh (G [di n,.arr 2 0 m]::G [di n,.arr 2 0 m]::G L::Hs) []).H.length=I Hs+3:=by simp
 rw[hle]
 exact⟨HM (by rw[HH];omega),HP _,rfl,HP _,⟨by simp[D.okN,D.okNs],by simp[cm,D.okN,D.okNs,hL,hH]⟩,rfl,rfl⟩
def wu(x:b9):Prop:=x.n=0/\x.az.length=2
theorem P9{n:Nat}(l:List b9):cm n [] (dj l)=J:=by
 induction l<;>grind[cm,dj,AO,Dk]
theorem Vk(ρ τ:Nat->Nat)(l:List b9):CO ρ τ (dj l)=dj l:=by
 induction l<;>grind[CO,dj,A7,Dk]
theorem Md(l:List b9):I (dj l)=I l:=by simp[dj]
theorem Acw(v:b9)(hv:v.size<=900)(hk:∀x∈v.az,wu x)(n:Nat):∀k:Nat,I v.az-k=n->1<=k->k<=I v.az->
  Rn PP B0 0 (.dagg [di v.n,.arr 2 0 (I v.az)]) ⟨G [di v.n,.arr 2 0 (I v.az)]::G [di v.n,.arr 2 0 (I v.az)]::G (ec 3 (I v.az))::dj v.az,[]⟩ ([kl AA [1,1,0,1,0,0],.blk 0,kc AA [1,1,1]]++[]) (cy 27 [(1,.v (.ref (Ac v))),(2,.ptr 0 0),(3,.ptr 1 0),(4,di (k:Nat))]) (je v.n k (ec 3 k) (dj (v.az.take k))):=by
 have hs:=v.size_eq
 have hl:=b9.length_le v.az
 induction n with
 |zero=>
  grind[VY,Lf,Md,P9]
 |succ n ih=>
  intro k hn hk1 hk2
  obtain⟨x,hx⟩:∃x,v.az[k]?=G x:=⟨_,HI (show k<I v.az by omega)⟩
  have ht:v.az.take (k+1)=v.az.take k++[x]:=by rw[IW,hx];rfl
  have hlen:I (v.az.take k)=k:=by grind
  obtain⟨h0,h2⟩:=hk x (HO hx)
  have hst:= @Acv v.n (v.az.take k) (by omega) (by omega) v x (by grind) h0 h2 (by have:=b9.size_mem (HO hx);omega) (.dagg [di v.n,.arr 2 0 (I v.az)]) ⟨G [di v.n,.arr 2 0 (I v.az)]::G [di v.n,.arr 2 0 (I v.az)]::G (ec 3 (I v.az))::dj v.az,[]⟩
  grind
theorem Afv{P:x7}{o:yy}{σ:St}{x y:x8}{t:x6}(ho:o.op=.call { callee:=.builtin .append,args:= #[x,y],argTypes:= #[t,t]}){e:x6}{sz by':Nat}{z:yz}(hs:BS P t=G (e,sz,by',G z))(hzc:z.cells.size=sz)
  {q2 n:Nat} {cs2:List D} (hq2:σ.H[q2]?=G (G cs2)) (hl2:I cs2=n*sz) (hpos:0<n) (hlen:n*by'<=140737488355328) (hlen2:n<=140737488355328):
  Ai P o [.v .nils,.gro q2 n sz] σ (.gro (I σ.H) n sz) ⟨σ.H++[G cs2],σ.own⟩:=by
 intro E g a w K Q hw hds hK
 refine Tj ho hs hzc hq2 hl2 hpos hlen hlen2 E g a w K Q hw ?_ hK
 grind[Af,Ag,CH]
noncomputable abbrev n5:=[di 0,bo 2 0 2]
theorem ApA(v:b9)(hv:v.size<=900)(hk:∀x∈v.az,wu x)(hn:v.az≠ []):Aa PP 83 [dV v] ba (.dagg [di v.n,.arr 0 0 (I v.az)]) ⟨G (ec 1 (I v.az))::dj v.az,[]⟩:=by
 have hs:=v.size_eq
 have hpos:=List.length_pos_iff.2 hn
 obtain⟨x,hx⟩:∃x,v.az[0]?=G x:=⟨_,HI hpos⟩
 obtain⟨x0,x2⟩:=hk x (HO hx)
 have hxs:=b9.size_mem (HO hx)
 have hsp:=vr x (by grind) (by omega)
 have hlp:=Acw v hv hk _ 1 rfl (HP _) hpos
 have ht:v.az.take 1=[x]:=by grind[List.take_add_one]
 rw[ht] at hlp
 have h0:(v.az.map eV)[Z 0]?=G (Ac x):=Ap (i:=0) hx
 have hlt:(0:Int)<(I (v.az.map eV):Int):=by grind
 have hle:I (G [di v.n,.arr 2 0 (I v.az)]::G [di v.n,.arr 2 0 (I v.az)]::G (ec 3 (I v.az))::dj v.az)=I v.az+3:=by simp[Md]
 refine E5 (σ:=ba) (T:=G [di v.n,.arr 2 0 (I v.az)]::G [di v.n,.arr 2 0 (I v.az)]::G (ec 3 (I v.az))::dj v.az) (fun i=>i+2) (Iu _) (fun i hi=>by grind) (fun i j _ _ h=>by omega) (fun i hi=>?_) (fun i cs hi=>?_) (by rfl) ?_
 ·grind
 ·match i,hi with
  |0,hi=>
   simp at hi;subst hi
   exact⟨by rw[GZ 1 3 _ (fun i _=>by omega)];rfl,Lf _ _ (by grind)⟩
  |i+1,hi=>
   grind[Me,A7,Dk,AO]
 ·show Aa PP _ _ _ (.dagg [di v.n,.arr 2 0 (I v.az)]) _
  generalize (⟨G [di v.n,.arr 2 0 (I v.az)]::G [di v.n,.arr 2 0 (I v.az)]::G (ec 3 (I v.az))::dj v.az,[]⟩:St)=out at hlp⊢
  generalize bi [di v.n,.arr 2 0 (I v.az)]=od at hlp⊢
  have hF:=Dk x
  have hlp2:Rn PP B0 0 od out ([kl AA [1,1,0,1,0,0],.blk 0,kc AA [1,1,1]]++[]) (cy 27 [(1,.v (.ref (Ac v))),(2,.ptr 0 0),(3,.ptr 1 0),(4,di (1:Nat))]) ⟨[G [di 0,.v .nils],G [di v.n,.gro 4 1 2],G (gy x),G [di 0,.arr 2 0 2],G [di 0,.arr 2 0 2]],[]⟩:=by
   refine C3 (H':=(je v.n 1 (ec 3 1) (dj [x])).H) (e':=cy 27 [(1,.v (.ref (Ac v))),(2,.ptr 0 0),(3,.ptr 1 0),(4,di (1:Nat))]) (m:=0) (fun _ _ h=>h.2) (fun i=>if i=2 then 4 else if i=3 then 2 else i) (Iu _) (fun i hi=>by omega) (fun i j hi hj h=>?_) (fun i cs hi=>?_) (by rfl) (by rfl) hlp
   ·have hi:i<4:=hi
    have hj:j<4:=hj
    grind
   ·have h4:(je v.n 1 (ec 3 1) (dj [x])).H.length=4:=rfl
    rw[h4]
    match i,hi with
    |0,hi=>simp at hi;subst hi;exact⟨rfl,by rfl⟩
    |1,hi=>simp at hi;subst hi;exact⟨rfl,by rfl⟩
    |2,hi=>simp at hi;subst hi;exact⟨rfl,rfl⟩
    |3,hi=>
     have hi:G (G (gy x))=G (G cs):=hi
     grind[A7,AO]
    |i+4,hi=>grind
  clear hlp
  generalize gy x=F at hsp hF hlp2
  refine Po mixed B0 AA (by rfl) (by kernel_rfl) (by rfl) (by rfl) 27 (by rfl) [1] (.h .rn<|.n<|.t<|.h (.xs (Ac x))<|.h (.oc (.dagg [di x.n,.arr 2 0 (I x.az)]) ⟨[G [di 0,.v .nils],G [di v.n,.v .nils],G F],[]⟩)<|.h (.o (.gro 3 1 2) ⟨[G [di 0,.v .nils],G [di v.n,.v .nils],G F,G [di 0,.arr 2 0 2]],[]⟩)<|.h (.o (.gro 4 1 2) ⟨[G [di 0,.v .nils],G [di v.n,.v .nils],G F,G [di 0,.arr 2 0 2],G [di 0,.arr 2 0 2]],[]⟩)<|.l [ke 1,ke 2,ke 3,ch 4 (di (1:Nat))]) ?_
  refine fv (by kernel_rfl:(Y (0<(I (ce v.az):Int))=J/\Q 2/\iz 0<=0/\(ce v.az)[Z 0]?=G (Ac x)/\(N0 (Arz x) (bh [G [di 0,dn],G [di v.n,dn]] []) (bi [di x.n,bo 2 0 (I x.az)]) (bh [G [di 0,dn],G [di v.n,dn],G F] []))/\Ai PP qd [bi [di x.n,bo 2 0 (I x.az)]] (bh [G [di 0,dn],G [di v.n,dn],G F] []) (bm 3 1 2) (bh [G [di 0,dn],G [di v.n,dn],G F,G n5] [])/\Ai PP xt [dn,bm 3 1 2] (bh [G [di 0,dn],G [di v.n,dn],G F,G n5] []) (bm 4 1 2) (bh [G [di 0,dn],G [di v.n,dn],G F,G n5,G n5] [])/\((Q (G [dn])/\Q (G [dn])/\True)/\True)/\di (yu yt (0+1))=di (↑1:Int)/\I0 B0 (I ba.H) od out tu (Aup v) (bh [G [di 0,dn],G [di v.n,bm 4 1 2],G F,G n5,G n5] []))=_) ?_
  refine⟨HK hlt,rfl,Il _,h0,fun o c fo ho hc=>?_,?_,Afv rfl kp rfl (q2:=3) (cs2:=[di 0,.arr 2 0 2]) rfl rfl (by decide) (by decide) (by decide),⟨⟨rfl,rfl,trivial⟩,trivial⟩,Ih di (by decide),⟨hlp2⟩⟩
  ·exact RO (H:=[G [di 0,.v .nils],G [di v.n,.v .nils]]) rfl hF hsp ho hc
  ·rw[x0,x2]
   exact Gj rfl kp rfl rfl rfl (by decide) (by decide)
abbrev Ho(x:b9)(b m:Nat):List D:=fg x++[di 0,.arr b 0 m]
theorem ApB(x b:b9)(hx:x.az=[])(hb0:b.n=0)(hb:b.size<=900)(hk:∀y∈b.az,wu y)(hn:b.az≠ [])(v:b9)(hv:v.n=0)(hvk:v.az=[x,b]):Aa PP 83 [dV v] ba (.dagg [di 0,.arr 0 0 2]) ⟨G (Ho x 1 (I b.az))::G (ec 2 (I b.az))::dj b.az,[]⟩:=by
 have hsp:=ApA b hb hk hn
 have hcx:=DO _ x (HP _) (by have:=x.size_eq;grind[b9.sizes])
 have hlen:I v.az=2:=by grind
 have hxv:v.az[0]?=G x:=by grind
 have hbv:v.az[1]?=G b:=by grind
 obtain⟨m,hm⟩:∃m,I b.az=m:=⟨_,rfl⟩
 have hO:=Md b.az
 rw[hm] at hsp hO⊢
 refine E5 (σ:=ba) (T:=G [di 0,.arr 2 0 2]::G [di 0,.arr 2 0 2]::G (Ho x 3 m)::G (ec 4 m)::dj b.az) (fun i=>i+2) (Iu _) (fun i hi=>by grind) (fun i j _ _ h=>by omega) (fun i hi=>?_) (fun i cs hi=>?_) (by rfl) ?_
 ·grind
 ·match i,hi with
  |0,hi=>
   grind[D.rens,D.ren,D.okNs,D.okN]
  |1,hi=>
   simp at hi;subst hi
   exact⟨by rw[GZ 2 4 _ (fun i _=>by omega)];rfl,Lf _ _ (by grind)⟩
  |i+2,hi=>
   grind[Me,A7,Dk,AO]
 ·show Aa PP _ _ _ (.dagg [di 0,.arr 2 0 2]) _
  have hend:= @VY 0 2 (Ho x 3 m) (G (ec 4 m)::dj b.az) v hlen (by rfl) (by grind[cm,P9,Lf])
  generalize (⟨G [di 0,.arr 2 0 2]::G [di 0,.arr 2 0 2]::G (Ho x 3 m)::G (ec 4 m)::dj b.az,[]⟩:St)=out at hend⊢
  generalize bi [di 0,.arr 2 0 2]=od at hend⊢
  have hen2:Rn PP B0 0 od out ([kl AA [1,1,0,1,0,0],.blk 0,kc AA [1,1,1]]++[]) (cy 27 [(1,.v (.ref (Ac v))),(2,.ptr 0 0),(3,.ptr 1 0),(4,di (2:Nat))]) ⟨G [di 0,.v .nils]::G [di 0,.gro (m+5) 2 2]::none::((G (ec 4 m)::dj b.az++[G [di 0,.arr 3 0 m]])++[G (Ho x 3 m)]),[]⟩:=by
   have hH:(je 0 2 (Ho x 3 m) (G (ec 4 m)::dj b.az)).H.length=m+4:=by simp[hO]
   refine C3 (H':=(je 0 2 (Ho x 3 m) (G (ec 4 m)::dj b.az)).H) (e':=cy 27 [(1,.v (.ref (Ac v))),(2,.ptr 0 0),(3,.ptr 1 0),(4,di (2:Nat))]) (m:=0) (fun _ _ h=>h.2) (fun i=>if i=2 then m+5 else i) (Iu _) (fun i hi=>by omega) (fun i j hi hj h=>?_) (fun i cs hi=>?_) (by rfl) (by rfl) hend
   ·grind
   ·rw[hH]
    match i,hi with
    |0,hi=>simp at hi;subst hi;exact⟨rfl,by rfl⟩
    |1,hi=>grind[D.rens,D.ren,D.okNs,D.okN]
    |2,hi=>
     simp at hi;subst hi
     refine⟨?_,by simp[D.okNs,D.okN]⟩
     grind[D.rens,D.ren]
    |3,hi=>
     have hi:G (G (ec 4 m))=G (G cs):=hi
     simp only[Ir] at hi
     subst hi
     exact⟨by rw[GZ 4 4 _ (fun i hi=>by grind)];rfl,Lf _ _ (by omega)⟩
    |i+4,hi=>
     grind[AO,Dk,A7,dj]
  have hcall:∀(o:yy) (c:Call) (fo:x8),o.op=.call c->c.callee=.value fo->Ai PP o [.v (.fn 83 [] []),dV b] (gm 0 1 (fg x) []) (.dagg [di 0,.arr 3 0 m]) ⟨G [di 0,.v .nils]::G [di 0,.gro 2 1 2]::G (fg x)::(G (ec 4 m)::dj b.az),[]⟩:=fun o c fo ho hc=>by
   have h:=B3 (σ:=gm 0 1 (fg x) []) ho hc (fD:=.v (.fn 83 [] [])) rfl (ds:=[dV b]) [] id hsp (.cons (.ren (dc:=dV b) rfl) .nil) .nil (by simp) rfl (by simp) (by simp) (by rfl) (by grind[cm,P9,Lf])
   have e1:CO (ez 3 []) id (G (ec 1 m)::dj b.az)=G (ec 4 m)::dj b.az:=by
    show G (D.rens (ez 3 []) id (ec 1 m))::CO (ez 3 []) id (dj b.az)=_
    grind[Vk,GZ,ez]
   have e2:(bi [di b.n,.arr 0 0 m]).ren (ez 3 []) id=.dagg [di 0,.arr 3 0 m]:=by rw[hb0];rfl
   have h:Ai PP o [.v (.fn 83 [] []),dV b] (gm 0 1 (fg x) []) ((bi [di b.n,.arr 0 0 m]).ren (ez 3 []) id) ⟨G [di 0,.v .nils]::G [di 0,.gro 2 1 2]::G (fg x)::CO (ez 3 []) id (G (ec 1 m)::dj b.az),[]⟩:=h
   grind
  have hsec:Rn PP B0 0 od out ([kl AA [1,1,0,1,0,0],.blk 0,kc AA [1,1,1]]++[]) (cy 27 [(1,.v (.ref (Ac v))),(2,.ptr 0 0),(3,.ptr 1 0),(4,di (1:Nat))]) (gm 0 1 (fg x) []):=by
   have hHl:I (G (ec 4 m)::dj b.az)=m+1:=by simp[hO]
   generalize G (ec 4 m)::dj b.az=Hs at hen2 hcall hHl
   generalize hCF:Ho x 3 m=CF at hen2
   refine lv 27 [1] (.t<|.h (.xs (Ac b))<|.h (.oc (.dagg [di 0,.arr 3 0 m]) ⟨G [di 0,.v .nils]::G [di 0,.gro 2 1 2]::G (fg x)::Hs,[]⟩)<|.h (.o (.gro (m+4) 1 2) ⟨G [di 0,.v .nils]::G [di 0,.gro 2 1 2]::G (fg x)::(Hs++[G [di 0,.arr 3 0 m]]),[]⟩)<|.h (.o (.gro (m+5) 2 2) ⟨G [di 0,.v .nils]::G [di 0,.gro 2 1 2]::none::((Hs++[G [di 0,.arr 3 0 m]])++[G CF]),[]⟩)<|.l [ke 1,ke 2,ke 3,ch 4 (di (2:Nat))]) (Y ((↑1:Int)<(I (ce v.az):Int))=J/\Q 2/\0<=(↑1:Int)/\(ce v.az)[Z (↑1:Int)]?=G (Ac b)/\_/\Ai PP qd [bi [di 0,bo 3 0 m]] (bh (G [di 0,dn]::G [di 0,bm 2 1 2]::G (fg x)::Hs) []) (bm (m+4) 1 2) (bh (G [di 0,dn]::G [di 0,bm 2 1 2]::G (fg x)::(Hs++[G [di 0,bo 3 0 m]])) [])/\Ai PP xt [bm 2 1 2,bm (m+4) 1 2] (bh (G [di 0,dn]::G [di 0,bm 2 1 2]::G (fg x)::(Hs++[G [di 0,bo 3 0 m]])) []) (bm (m+5) 2 2) (bh (G [di 0,dn]::G [di 0,bm 2 1 2]::none::(Hs++[G [di 0,bo 3 0 m]]++[G CF])) [])/\((Q (G [bm 2 1 2])/\Q (G [bm 2 1 2])/\True)/\True)/\di (yu yt ((↑1:Int)+1))=di (↑2:Int)/\_) ⟨HK (by rw[HH];omega),rfl,by omega,Ap hbv,hcall,?_,?_,⟨⟨rfl,rfl,trivial⟩,trivial⟩,Ih di (by decide),iK hen2⟩
   ·refine Air ?_ rfl kp rfl rfl rfl (by decide) (by decide)
    simp[hHl]
   ·have hN:m+5=I (G [di 0,.v .nils]::G [di 0,.gro 2 1 2]::G (fg x)::(Hs++[G [di 0,.arr 3 0 m]])):=by simp[hHl]
    rw[hN, ←hCF]
    refine KH rfl kp rfl (by decide) (q:=2) (q2:=m+4) (cs:=fg x) (cs2:=[di 0,.arr 3 0 m]) rfl rfl ?_ rfl (by decide) (by decide) (by decide)
    show(Hs++[G [di 0,.arr 3 0 m]])[m+1]?=_
    rw[Ib (by omega)]
    simp[hHl]
  have h0:(v.az.map eV)[Z 0]?=G (Ac x):=Ap (i:=0) hxv
  refine sv B0 27 [1] (.h .rn<|.n<|.t<|.h (.xs (Ac x))<|.c (dV x)<|.h (.p (.v (.list [Ac x])))<|.h .g<|.lo [ke 1,ke 2,ke 3,ch 4 (di (1:Nat))] (gm v.n 1 (fg x) [])) (Y (0<(I (ce v.az):Int))=J/\Q 2/\iz 0<=0/\_/\_/\(∀(τ:St),Ai PP qd [dV x] τ (bt (ai [Ac x])) τ)/\[Ac x]≠ []/\(∀(y:V),y∈ [Ac x]->V.size y=2)/\Ao 1 32/\yp/\di (yu yt (0+1))=di (↑1:Int)/\cm 3 [] [G [di 0,dn],G [di v.n,bm 2 1 2],G (dp x.n x.az)]=J/\Q [G [di 0,dn],G [di v.n,bm 2 1 2],G (fg x)]/\I0 B0 (I ba.H) od out tu (Aup v) (gm v.n 1 (fg x) [])) ⟨HK (by grind),rfl,Il _,h0,hcx,fun τ=>pa x τ rfl,by simp,fun y hy=>by rw[HY.1 hy];rfl,⟨by decide,by decide⟩,yn,Ih di (by decide),rfl,rfl,⟨?_⟩⟩
  grind
noncomputable abbrev F9:=Tryz.f112
noncomputable def E1:=yl F9
def gI(m i j:Nat):Nat:=if j<i then 5+(m-i)+j else 5+(j-i)
def fi(g:Nat->Nat)(k:Nat):List D:=(List.range k).flatMap fun j=>[di 0,.arr (g j) 0 2]
theorem JH(g:Nat->Nat)(k:Nat):fi g (k+1)=fi g k++[di 0,.arr (g k) 0 2]:=by simp[fi,range_succ]
theorem SF(g:Nat->Nat)(k:Nat):I (fi g k)=2*k:=by
 induction k<;>grind[JH,fi]
theorem ZD(g:Nat->Nat)(k j:Nat)(h:j<k):(fi g k)[2*j+1]?=G (.arr (g j) 0 2):=by
 induction k<;>grind[JH,SF]
theorem AhE{g:Nat->Nat}{n:Nat}{ts:List Nat}(k:Nat)(h:∀j,j<k->g j<n):D.okNs n ts (fi g k)=J:=by
 induction k<;>grind[JH,JT,D.okNs,D.okN,fi]
theorem UC{ρ g g':Nat->Nat}(k:Nat)(h:∀j,j<k->ρ (g j)=g' j):D.rens ρ id (fi g k)=fi g' k:=by
 induction k<;>grind[JH,JP,D.rens,D.ren,fi]
abbrev j6(ty:D)(s:Int)(n:Nat)(K:List D)(qQ:List (Option (List D))):St:=⟨G [di 0,.v .nils]::G (Az ty)::G [di 0,.arr 3 0 2]::G [di s,cq [],di 0,.arr 4 0 n]::G K::qQ,[]⟩
theorem Amq{n i j:Nat}(hi:i<=n)(hj:j<n):gI n i j<n+5:=by grind[gI]
theorem Amp{n i j:Nat}(hi:i<n)(hj:j<n):(if gI n (i+1) j<5 then gI n (i+1) j else if gI n (i+1) j=n+4 then 5 else gI n (i+1) j+1)=gI n i j:=by
 grind[gI]
theorem Alt{R:List D->St->Prop}{ks:List KI}{e:List D}(ty:D)(hty:D.pls (Az ty)=J)(s:Int)(n i:Nat)(hi:i<n)(qQ:List (Option (List D)))(hQl:I qQ+1=n)(hQ:∀(k:Nat) (cs:List D),qQ[k]?=G (G cs)->D.pls cs=J)(F:List D)(hF:D.pls F=J)
  (he:D.okNs (n+5) [] e=J) (hee:e=D.rens (fun k=>if k<5 then k else if k=n+4 then 5 else k+1) id e) (h:A2 (CN 0) PP R ks e (j6 ty s n (fi (gI n (i+1)) n) (qQ++[G F]))):A2 (CN 0) PP R ks e (j6 ty s n (fi (gI n i) n) (G F::qQ)):=by
 have hH:(j6 ty s n (fi (gI n (i+1)) n) (qQ++[G F])).H.length=n+5:=by simp;omega
 refine C3 (H':=(j6 ty s n (fi (gI n (i+1)) n) (qQ++[G F])).H) (e':=e) (m:=0) (fun _ _ h=>h.2) (fun k=>if k<5 then k else if k=n+4 then 5 else k+1) (Iu _) (fun i hi=>by omega) (fun a b ha hb h=>?_) (fun k cs hk=>?_) (by grind) hee h
 ·grind
 ·rw[hH]
  match k,hk with
  |0,hk=>simp at hk;subst hk;exact⟨rfl,by rfl⟩
  |1,hk=>
   grind[A7,AO]
  |2,hk=>simp at hk;subst hk;exact⟨rfl,by rfl⟩
  |3,hk=>simp at hk;subst hk;exact⟨rfl,by rfl⟩
  |4,hk=>
   grind[AhE,Amq,UC,Amp]
  |k+5,hk=>
   have hk:(qQ++[G F])[k]?=G (G cs):=hk
   have hlt:=(HL.1 hk).1
   simp at hlt
   by_cases h1:k<I qQ
   ·grind[AO,A7]
   ·have e:k=I qQ:=by omega
    subst e
    rw[Ib (HP _),Nat.sub_self] at hk
    have hk:G (G F)=G (G cs):=hk
    simp only[Ir] at hk
    subst hk
    refine⟨?_,AO hF⟩
    rw[A7 hF,HZ (by omega),Ie (by omega)]
    rfl
abbrev vd(p:Int×Int):List D:=[di p.1,cq [],di p.2,cq []]
theorem AiI(m:cz)(_:0<=m.age/\m.age<=1000)(ty:D)(hty:D.pls (Az ty)=J)(s:Int)(n i:Nat)(hi:i<n)(hn:n<=1000)(p:Int×Int)(_:0<=p.2/\p.2<m.age+2)(qQ:List (Option (List D)))(hQl:I qQ+1=n)(hQ:∀(k:Nat) (cs:List D),qQ[k]?=G (G cs)->D.pls cs=J){d:D}{σ':St}
  (next:Rn PP F9 0 d σ' ([kl E1 [1,1,1,1,1,0,1,0,0],.blk 0,kc E1 [1,1,1,1,1,1]]++[]) (cy 76 [(2,.v (.ref (A0 m))),(4,.ptr 0 0),(7,.ptr 1 0),(9,.ptr 2 0),(10,di (i+1:Nat))]) (j6 ty s n (fi (gI n (i+1)) n) (qQ++[G (vd (p.1,EB m p.2))]))):
  Rn PP F9 0 d σ' ([kl E1 [1,1,1,1,1,0,1,0,0],.blk 0,kc E1 [1,1,1,1,1,1]]++[]) (cy 76 [(2,.v (.ref (A0 m))),(4,.ptr 0 0),(7,.ptr 1 0),(9,.ptr 2 0),(10,di (i:Nat))]) (j6 ty s n (fi (gI n i) n) (G (vd p)::qQ)):=by
 have hr:=Alt (R:=fun env σ1=>A9 PP F9 env σ1 d σ') (ks:=[kl E1 [1,1,1,1,1,0,1,0,0],.blk 0,kc E1 [1,1,1,1,1,1]]++[]) (e:=cy 76 [(2,.v (.ref (A0 m))),(4,.ptr 0 0),(7,.ptr 1 0),(9,.ptr 2 0),(10,di (i+1:Nat))]) ty hty s n i hi qQ hQl hQ (vd (p.1,EB m p.2)) rfl (by simp[cy,D.okNs,D.okN]) (by simp[cy,D.rens,D.ren]) next
 have hK:(fi (gI n i) n)[2*i+1]?=G (.arr 5 0 2):=by
  rw[ZD _ _ _ hi,gI,HZ (Nat.lt_irrefl _),Nat.sub_self]
 have ho:(if yu .i64 (m.age+1)<yu .i64 (p.2+1) then yu .i64 (m.age+1) else yu .i64 (p.2+1))=EB m p.2:=rfl
 generalize fi (gI n i) n=K at hr hK⊢
 have hK2:K[((0+Z (i:Int)*2)+1)]?=G (.arr 5 0 2):=by rw[show 0+Z (i:Int)*2+1=2*i+1 by omega];exact hK
 refine lv 76 [2,3] (.t<|.m (.arr 3 0 2)<|.m (.arr 4 0 n)<|.m (.arr 5 0 2)<|.m (.arr 3 0 2)<|.m (.arr 4 0 n)<|.m (.arr 5 0 2)<|.m (di p.2)<|.l [ke 2,ke 4,ke 7,ke 9,ch 10 (di (i+1:Nat))]) (iz 0<=1/\1<(↑2:Int)/\Y ((i:Int)<(n:Int))=J/\Q (G (bo 3 0 2))/\iz 0<=1/\1<(↑2:Int)/\Q (G (bo 4 0 n))/\0<=(i:Int)/\(i:Int)<(n:Int)/\_/\Q (G (bo 3 0 2))/\iz 0<=1/\1<(↑2:Int)/\Q (G (bo 4 0 n))/\0<=(i:Int)/\(i:Int)<(n:Int)/\_/\iz 0<=1/\1<(↑2:Int)/\Q (G (di p.snd))/\iz 0<=1/\1<(↑2:Int)/\(yh (True))/\di (yu yt ((i:Int)+1))=di (↑(i+1):Int)/\I0 F9 0 d σ' [kl E1 [1,1,1,1,1,0,1,0,0],bf 0,kc E1 [1,1,1,1,1,1]] (cy 76 [(2,bt (gd m)),(4,bq 0 0),(7,bq 1 0),(9,bq 2 0),(10,di (↑(i+1):Int))]) (bh (G [di 0,dn]::G (Az ty)::G [di 0,bo 3 0 2]::G [di s,cq [],di 0,bo 4 0 n]::G K::G [di p.fst,cq [],di (if yu yt (m.age+1)<yu yt (p.snd+1) then yu yt (m.age+1) else yu yt (p.snd+1)),cq []]::qQ) [])) ⟨by decide,by decide,yr,rfl,by decide,by decide,rfl,by omega,by omega,hK2,rfl,by decide,by decide,rfl,by omega,by omega,hK2,by decide,by decide,rfl,by decide,by decide,⟨trivial,trivial,trivial,trivial,trivial,trivial,trivial,trivial⟩,Ae,⟨?_⟩⟩
 grind
theorem Aen(g:Nat->Nat)(k j:Nat)(h:j<k):(fi g k)[2*j]?=G (di 0):=by
 induction k<;>grind[JH,SF]
theorem Ag2{α:Type}{l:List α}{i:Nat}{a b:α}(h1:l[i]?=G a)(h2:l[i+1]?=G b):l.drop i=a::b::l.drop (i+2):=by
 grind[List.drop_eq_getElem_cons]
theorem Aeo(g:Nat->Nat)(k j:Nat)(h:j<k):(fi g k).drop (2*j)=di 0:: .arr (g j) 0 2::(fi g k).drop (2*(j+1)):=by grind[Ag2,Aen,ZD]
theorem cvC{e:List D}{σ σ1 σ2:St}(h:Cv e σ e σ1)(h2:Cv e σ1 e σ2):Cv e σ e σ2:=by grind[Cv]
def m4(g:Nat->Nat)(T:List b9)(k:Nat):List D:=Ab ((T.take k).map eV)++(fi g (I T)).drop (2*k)
theorem Agl(g:Nat->Nat)(T:List b9)(hT:∀x∈T,x.n=0)(hk2:∀x∈T,I x.az=2)(hg:∀j,j<I T->g j=5+j)(a b c d:Option (List D))(e:List D)(k:Nat):k<=I T->∃Z:List (Option (List D)),I Z=I T/\(∀j,k<=j->Z[j]?=(dj T)[j]?)/\
  Cv e ⟨a::b::c::d::G (fi g (I T))::dj T,[]⟩ e ⟨a::b::c::d::G (m4 g T k)::Z,[]⟩:=by
 induction k with
 |zero=>
  intro _
  refine⟨dj T,Md T,fun j _=>rfl,?_⟩
  exact fun E g a w hf=>⟨g,hf⟩
 |succ k ih=>
  intro hk
  obtain⟨Z,h1,h2,h3⟩:=ih (by omega)
  obtain⟨x,hx⟩:=yk (show k<I T by omega)
  have hz:Z[k]?=G (G (gy x)):=by grind[dj]
  have hx0:=hT x (HO hx)
  have hl:I (Ab ((T.take k).map eV))=2*k:=by grind[AU]
  have hm:m4 g T k=(Ab ((T.take k).map eV)++[di 0])++ .arr (g k) 0 2::(fi g (I T)).drop (2*(k+1)):=by
   grind[m4,Aeo]
  have hA:I (Ab ((T.take k).map eV)++[di 0])=2*k+1:=by grind
  have hm':m4 g T (k+1)=(Ab ((T.take k).map eV)++[di 0])++ .v (.list (x.az.map eV))::(fi g (I T)).drop (2*(k+1)):=by
   rw[m4,IW,hx,Option.toList_some, ←EH,hx0];simp
  have hgk:=hg k (by omega)
  refine⟨Z.set k none,by grind,fun j hj=>by grind,cvC h3 ?_⟩
  have hc:=BY (σ:=⟨a::b::c::d::G (m4 g T k)::Z,[]⟩) (p:=4) (q:=k+5) (i:=2*k+1) (sz:=2) (cs:=m4 g T k) (xs:=x.az.map eV) (by decide) rfl hz (by omega) (by
   grind) (fun v hv=>by
   grind[AH,V.size]) e
  simp_all
theorem Aj6(ty:D)(s:Int)(T:List b9)(hT:∀x∈T,x.n=0)(hk2:∀x∈T,I x.az=2)(e:List D):∃Z,Cv e (j6 ty s (I T) (fi (gI (I T) (I T)) (I T)) (dj T)) e ⟨G [di 0,.v .nils]::G (Az ty)::G [di 0,cq [lf s,.mk 0 T]]::none::none::Z,[]⟩:=by
 obtain⟨Z,_,_,h⟩:=Agl (gI (I T) (I T)) T hT hk2 (fun j hj=>by grind[gI]) (G [di 0,.v .nils]) (G (Az ty)) (G [di 0,.arr 3 0 2]) (G [di s,cq [],di 0,.arr 4 0 (I T)]) e (I T) (HP _)
 have hm:m4 (gI (I T) (I T)) T (I T)=Ab (T.map eV):=by
  grind[m4,SF]
 rw[hm] at h
 have sz2:∀l:List b9,∀v∈l.map eV,v.size=2:=fun l v hv=>by
  grind[AH,V.size]
 refine⟨Z,cvC h ?_⟩
 have h1:=BY (σ:=⟨G [di 0,.v .nils]::G (Az ty)::G [di 0,.arr 3 0 2]::G [di s,cq [],di 0,.arr 4 0 (I T)]::G (Ab (T.map eV))::Z,[]⟩) (p:=3) (q:=4) (i:=3) (sz:=2) (cs:=[di s,cq [],di 0,.arr 4 0 (I T)]) (xs:=T.map eV) (by decide) rfl rfl (by decide) (by grind) (sz2 T) e
 refine cvC h1 ?_
 have e3:Ab ([lf s,.mk 0 T].map eV)=[di s,cq [],di 0,cq T]:=by rw[AG,AG];rfl
 have h2:=BY (σ:=⟨G [di 0,.v .nils]::G (Az ty)::G [di 0,.arr 3 0 2]::G [di s,cq [],di 0,cq T]::none::Z,[]⟩) (p:=2) (q:=3) (i:=1) (sz:=2) (cs:=[di 0,.arr 3 0 2]) (xs:=[lf s,.mk 0 T].map eV) (by decide) rfl (by grind) (by decide) rfl (sz2 _) e
 exact h2
noncomputable abbrev BD:=Tryz.f182
noncomputable def Dl:=yl BD
abbrev GL(n:Int)(N:Nat)(C:List D):St:=⟨[G [di 0,.v .nils],G C,G [di n,.arr 1 0 N]],[]⟩
abbrev nv(n:Int)(xs:List b9):St:=GL n (I xs) (Ab (xs.map eV))
noncomputable abbrev He:List KI:=[kl Dl [1,1,1,1,0,1,0,0],.blk 2,kc Dl [1,1,1,1,1]]
noncomputable abbrev mp:List KI:=[kl Dl [1,1,1,1,0,1,0,0,1,0,0,1,0,0],.blk 4,.blk 3,kc Dl [1,1,1,1,0,1,0,0,1,1]]
theorem MT(A B:List b9)(a b:b9):(Ab ((A++a::B).map eV)).take (I A*2)++Az (dV b)++(Ab ((A++a::B).map eV)).drop (I A*2+2)=Ab ((A++b::B).map eV):=by
 grind[AU,Hf,AG,Az]
theorem Al3(t:cr)(n:Int)(L R:List b9)(x y:b9)(hx:x.size<=1000000)(hlt:Ar x y<0)(hN:I L+I R<=1000)(d:D)(σ':St)(i:Nat)
  (next:Rn PP BD 0 d σ' (mp++He) (cy 117 [(2,.v (.ref (vT t))),(4,.ptr 0 0),(5,.ptr 2 0),(7,di i),(8,di (I L:Nat))]) (nv n (L++x::y::R))):
  Rn PP BD 0 d σ' (mp++He) (cy 117 [(2,.v (.ref (vT t))),(4,.ptr 0 0),(5,.ptr 2 0),(7,di i),(8,di (I L+1:Nat))]) (nv n (L++y::x::R)):=by
 have hc:=EL _ x y (HP _) hx
 have s1:=MT (L++[y]) R x y
 have s2:=MT L (y::R) y x
 have d1:=Ep (l:=L++y::x::R) (i:=I L+1) (x:=x) (by simp)
 have d0:=Ep (l:=L++y::x::R) (i:=I L) (x:=y) (by simp)
 rw[show(L++[y])++x::R=L++y::x::R by simp,show(L++[y])++y::R=L++y::y::R by simp,show(L++[y]).length=I L+1 by simp] at s1
 have c1:=AU (L++y::x::R)
 have c2:=AU (L++y::y::R)
 have n1:I (L++y::x::R)=I L+I R+2:=by grind
 have n2:I (L++y::y::R)=I L+I R+2:=by grind
 have n3:I (L++x::y::R)=I L+I R+2:=by grind
 have next:Rn PP BD 0 d σ' (mp++He) (cy 117 [(2,.v (.ref (vT t))),(4,.ptr 0 0),(5,.ptr 2 0),(7,di i),(8,di (I L:Nat))]) (GL n (I L+I R+2) (Ab ((L++x::y::R).map eV))):=by grind
 show Rn PP BD 0 d σ' (mp++He) (cy 117 [(2,.v (.ref (vT t))),(4,.ptr 0 0),(5,.ptr 2 0),(7,di i),(8,di (I L+1:Nat))]) (GL n (I (L++y::x::R)) (Ab ((L++y::x::R).map eV)))
 rw[n1]
 rw[n1] at c1
 rw[n2] at c2
 generalize Ab ((L++y::x::R).map eV)=C at*
 generalize Ab ((L++x::y::R).map eV)=C2 at*
 generalize Ab ((L++y::y::R).map eV)=C1 at*
 have hw:yu .i64 (((I L+1:Nat):Int)-1)=(I L:Int):=by rw[Ak];omega
 have k1:0+Z ((I L+1:Nat):Int)*2=(I L+1)*2:=by omega
 have k0:0+Z (I L:Int)*2=I L*2:=by omega
 refine lv 117 [2,3] (.t<|.m (.arr 1 0 (I L+I R+2))<|.m (dV x)<|.m (.arr 1 0 (I L+I R+2))<|.m (dV y)<|.c (di (Ar x y))<|.t<|.m (.arr 1 0 (I L+I R+2))<|.m (.arr 1 0 (I L+I R+2))<|.m (.arr 1 0 (I L+I R+2))<|.m (dV y)<|.m (.arr 1 0 (I L+I R+2))<|.m (dV x)<|.h .ww<|.h .ww<|.l [ke 2,ke 4,ke 5,ke 7,ch 8 (di (I L:Nat))]) (Y ((↑(I L+1):Int)>0)=J/\G (bo 1 0 (I L+I R+2))=G (bo 1 0 (I L+I R+2))/\0<=(↑(I L+1):Int)/\(↑(I L+1):Int)<(↑(I L+I R+2):Int)/\0+Z (↑(I L+1):Int)*2+2<=I C/\take 2 (W (0+Z (↑(I L+1):Int)*2) C)=(dp x.n x.az)/\G (bo 1 0 (I L+I R+2))=G (bo 1 0 (I L+I R+2))/\0<=yu yt ((↑(I L+1):Int)-1)/\yu yt ((↑(I L+1):Int)-1)<(↑(I L+I R+2):Int)/\0+Z (yu yt ((↑(I L+1):Int)-1))*2+2<=I C/\take 2 (W (0+Z (yu yt ((↑(I L+1):Int)-1))*2) C)=(dp y.n y.az)/\tf x y/\(yi (True))/\Y (Ar x y<0)=J/\G (bo 1 0 (I L+I R+2))=G (bo 1 0 (I L+I R+2))/\G (bo 1 0 (I L+I R+2))=G (bo 1 0 (I L+I R+2))/\G (bo 1 0 (I L+I R+2))=G (bo 1 0 (I L+I R+2))/\0<=yu yt ((↑(I L+1):Int)-1)/\yu yt ((↑(I L+1):Int)-1)<(↑(I L+I R+2):Int)/\0+Z (yu yt ((↑(I L+1):Int)-1))*2+2<=I C/\take 2 (W (0+Z (yu yt ((↑(I L+1):Int)-1))*2) C)=(dp y.n y.az)/\G (bo 1 0 (I L+I R+2))=G (bo 1 0 (I L+I R+2))/\0<=(↑(I L+1):Int)/\(↑(I L+1):Int)<(↑(I L+I R+2):Int)/\0+Z (↑(I L+1):Int)*2+2<=I C/\take 2 (W (0+Z (↑(I L+1):Int)*2) C)=(dp x.n x.az)/\0<=(↑(I L+1):Int)/\(↑(I L+1):Int)<(↑(I L+I R+2):Int)/\0+Z (↑(I L+1):Int)*2+2<=I C/\0<=yu yt ((↑(I L+1):Int)-1)/\yu yt ((↑(I L+1):Int)-1)<(↑(I L+I R+2):Int)/\0+Z (yu yt ((↑(I L+1):Int)-1))*2+2<=I (take (0+Z (↑(I L+1):Int)*2) C++Az (bt (ab (vi y.n::dt y.az::nV)))++W (0+Z (↑(I L+1):Int)*2+2) C)/\(True/\(G [bo 1 0 (I L+I R+2)]=G [bo 1 0 (I L+I R+2)]/\True)/\True/\True/\True/\True/\True)/\di (yu yt ((↑(I L+1):Int)-1))=di (I L:Int)/\I0 BD 0 d σ' [kl Dl [1,1,1,1,0,1,0,0,1,0,0,1,0,0],bf 4,bf 3,kc Dl [1,1,1,1,0,1,0,0,1,1],kl Dl ia,bf 2,kc Dl [1,1,1,1,1]] (cy 117 [(2,bt (bz (vT t))),(4,bq 0 0),pq,(7,di (i:Int)),(8,di (I L:Int))]) (bh [G [di 0,dn],G (take (0+Z (yu yt ((↑(I L+1):Int)-1))*2) (take (0+Z (↑(I L+1):Int)*2) C++(dp y.n y.az)++W (0+Z (↑(I L+1):Int)*2+2) C)++(dp x.n x.az)++W (0+Z (yu yt ((↑(I L+1):Int)-1))*2+2) (take (0+Z (↑(I L+1):Int)*2) C++(dp y.n y.az)++W (0+Z (↑(I L+1):Int)*2+2) C)),G [di n,bo 1 0 (I L+I R+2)]] [])) ?_
 simp only[hw,k1,k0]
 have e1:C.take ((I L+1)*2)++[di y.n,.v (dt y.az)]++C.drop ((I L+1)*2+2)=C1:=s1
 have e2:C1.take (I L*2)++[di x.n,.v (dt x.az)]++C1.drop (I L*2+2)=C2:=s2
 have e3:C.take ((I L+1)*2)++Az (.v (.agg (vi y.n::dt y.az::nV)))++C.drop ((I L+1)*2+2)=C1:=s1
 simp only[e1,e2,e3]
 refine⟨yr,trivial,by omega,by omega,by omega,d1,trivial,by omega,by omega,by omega,d0,hc,⟨trivial,trivial,trivial,trivial,trivial⟩,HK hlt,trivial,trivial,trivial,by omega,by omega,by omega,d0,trivial,by omega,by omega,by omega,d1,by omega,by omega,by omega,by omega,by omega,by omega,⟨trivial,yn,trivial,trivial,trivial,trivial,trivial⟩,trivial,⟨next⟩⟩
theorem Ae2(t:cr)(n:Int)(N:Nat)(C:List D)(d:D)(σ':St)(i:Nat)(hi:i<=1000)
  (next:Rn PP BD 0 d σ' (He++[]) (cy 117 [(2,.v (.ref (vT t))),(4,.ptr 0 0),(5,.ptr 2 0),(7,di (i+1:Nat))]) (GL n N C)):
  Rn PP BD 0 d σ' (mp++He) (cy 117 [(2,.v (.ref (vT t))),(4,.ptr 0 0),(5,.ptr 2 0),(7,di i),(8,di (0:Nat))]) (GL n N C):=by
 exact lv 117 [2,3] (.k<|.f<|.l [ke 2,ke 4,ke 5,ch 7 (di (i+1:Nat))]) (Q false/\di (yu yt ((i:Int)+1))=di (↑(i+1):Int)/\_) ⟨rfl,Ae,iK next⟩
theorem Ae1(t:cr)(n:Int)(L R:List b9)(x y:b9)(hx:x.size<=1000000)(hlt:¬Ar x y<0)(hN:I L+I R<=1000)(d:D)(σ':St)(i:Nat)(hi:i<=1000)
  (next:Rn PP BD 0 d σ' (He++[]) (cy 117 [(2,.v (.ref (vT t))),(4,.ptr 0 0),(5,.ptr 2 0),(7,di (i+1:Nat))]) (nv n (L++y::x::R))):
  Rn PP BD 0 d σ' (mp++He) (cy 117 [(2,.v (.ref (vT t))),(4,.ptr 0 0),(5,.ptr 2 0),(7,di i),(8,di (I L+1:Nat))]) (nv n (L++y::x::R)):=by
 have hc:=EL _ x y (HP _) hx
 have d1:=Ep (l:=L++y::x::R) (i:=I L+1) (x:=x) (by simp)
 have d0:=Ep (l:=L++y::x::R) (i:=I L) (x:=y) (by simp)
 have c1:=AU (L++y::x::R)
 have n1:I (L++y::x::R)=I L+I R+2:=by simp;omega
 have next:Rn PP BD 0 d σ' (He++[]) (cy 117 [(2,.v (.ref (vT t))),(4,.ptr 0 0),(5,.ptr 2 0),(7,di (i+1:Nat))]) (GL n (I (L++y::x::R)) (Ab ((L++y::x::R).map eV))):=next
 show Rn PP BD 0 d σ' (mp++He) (cy 117 [(2,.v (.ref (vT t))),(4,.ptr 0 0),(5,.ptr 2 0),(7,di i),(8,di (I L+1:Nat))]) (GL n (I (L++y::x::R)) (Ab ((L++y::x::R).map eV)))
 rw[n1] at next⊢
 generalize Ab ((L++y::x::R).map eV)=C at*
 have hw:yu .i64 (((I L+1:Nat):Int)-1)=(I L:Int):=by rw[Ak];omega
 have k1:0+Z ((I L+1:Nat):Int)*2=(I L+1)*2:=by omega
 have k0:0+Z (I L:Int)*2=I L*2:=by omega
 refine lv 117 [2,3] (.t<|.m (.arr 1 0 (I L+I R+2))<|.m (dV x)<|.m (.arr 1 0 (I L+I R+2))<|.m (dV y)<|.c (di (Ar x y))<|.f<|.l [ke 2,ke 4,ke 5,ch 7 (di (i+1:Nat))]) (Y ((↑(I L+1):Int)>0)=J/\G (bo 1 0 (I L+I R+2))=G (bo 1 0 (I L+I R+2))/\0<=(↑(I L+1):Int)/\(↑(I L+1):Int)<(↑(I L+I R+2):Int)/\0+Z (↑(I L+1):Int)*2+2<=I C/\take 2 (W (0+Z (↑(I L+1):Int)*2) C)=(dp x.n x.az)/\G (bo 1 0 (I L+I R+2))=G (bo 1 0 (I L+I R+2))/\0<=yu yt ((↑(I L+1):Int)-1)/\yu yt ((↑(I L+1):Int)-1)<(↑(I L+I R+2):Int)/\0+Z (yu yt ((↑(I L+1):Int)-1))*2+2<=I C/\take 2 (W (0+Z (yu yt ((↑(I L+1):Int)-1))*2) C)=(dp y.n y.az)/\tf x y/\(yi (True))/\Y (Ar x y<0)=O/\di (yu yt ((i:Int)+1))=di (↑(i+1):Int)/\I0 BD 0 d σ' He (cy 117 [(2,bt (bz (vT t))),(4,bq 0 0),pq,(7,di (↑(i+1):Int))]) (bh [G [di 0,dn],G C,G [di n,bo 1 0 (I L+I R+2)]] [])) ?_
 simp only[hw,k1,k0]
 refine⟨yr,trivial,by omega,by omega,by omega,d1,trivial,by omega,by omega,by omega,d0,hc,⟨trivial,trivial,trivial,trivial,trivial⟩,HM hlt,Ae,⟨next⟩⟩
theorem Al4(t:cr)(n:Int)(N:Nat)(C:List D)(d:D)(σ':St)(i:Nat)(hi:i<N)
  (next:Rn PP BD 0 d σ' (mp++He) (cy 117 [(2,.v (.ref (vT t))),(4,.ptr 0 0),(5,.ptr 2 0),(7,di i),(8,di i)]) (GL n N C)):
  Rn PP BD 0 d σ' (He++[]) (cy 117 [(2,.v (.ref (vT t))),(4,.ptr 0 0),(5,.ptr 2 0),(7,di i)]) (GL n N C):=by
 exact lv 117 [2,3] (.t<|.l [ke 2,ke 4,ke 5,ke 7,ch 8 (di i)]) (Y ((i:Int)<(N:Int))=J/\Q (di (i:Int))/\_) ⟨yr,rfl,iK next⟩
theorem AiQ(t:cr)(n:Int)(xs:List b9)(i:Nat)(hi:¬i<I xs):
  Rn PP BD 0 (dV (.mk n xs)) ba (He++[]) (cy 117 [(2,.v (.ref (vT t))),(4,.ptr 0 0),(5,.ptr 2 0),(7,di i)]) (nv n xs):=by
 have sz2:∀l:List b9,∀v∈l.map eV,v.size=2:=fun l v hv=>by
  grind[AH,V.size]
 have hcv:=fun e=>BY (σ:=nv n xs) (p:=2) (q:=1) (i:=1) (sz:=2) (cs:=[di n,.arr 1 0 (I xs)]) (xs:=xs.map eV) (by decide) rfl rfl (by decide) (by grind) (sz2 xs) e
 refine Mp (hcv _) ?_
 show Rn PP BD 0 (dV (.mk n xs)) ba (He++[]) (cy 117 [(2,.v (.ref (vT t))),(4,.ptr 0 0),(5,.ptr 2 0),(7,di i)]) ⟨[G [di 0,.v .nils],none,G [di n,cq xs]],[]⟩
 exact lv 117 [2,3] (.f<|.r) (Y ((i:Int)<(I (U eV xs):Int))=O/\Q (dV (b9.mk n xs))) ⟨HM (by grind),rfl⟩
abbrev leV(a b:b9):Prop:=Ar a b<=0
theorem AiP(t:cr)(n:Int)(i:Nat)(hi:i<=1000)(S:List b9)(x:b9)(hx:x.size<=1000000)(d:D)(σ':St)(m:Nat):∀L R:List b9,I L=m->I L+I R+I S<=1000->(L++R).Pairwise leV->(∀r∈R,Ar x r<=0)->
  (∀ys:List b9,ys.Perm (L++x::R)->ys.Pairwise leV->Rn PP BD 0 d σ' (He++[]) (cy 117 [(2,.v (.ref (vT t))),(4,.ptr 0 0),(5,.ptr 2 0),(7,di (i+1:Nat))]) (nv n (ys++S)))->
  Rn PP BD 0 d σ' (mp++He) (cy 117 [(2,.v (.ref (vT t))),(4,.ptr 0 0),(5,.ptr 2 0),(7,di i),(8,di (I L:Nat))]) (nv n (L++x::R++S)):=by
 induction m with
 |zero=>
  intro L R hl hN hp hR next
  obtain rfl:L=[]:=List.length_eq_zero_iff.1 hl
  exact Ae2 t n _ _ d σ' i hi (next (x::R) (List.Perm.refl _) (List.pairwise_cons.2 ⟨hR,hp⟩))
 |succ m ih=>
  intro L R hl hN hp hR next
  obtain⟨L',y,rfl⟩:∃L' y,L=L'++[y]:=⟨L.dropLast,L.getLast (by grind),(List.dropLast_concat_getLast _).symm⟩
  simp only[HW,List.length_singleton] at hl hN
  have e0:L'++[y]++x::R++S=L'++y::x::(R++S):=by simp
  rw[e0,show(L'++[y]).length=I L'+1 by simp]
  by_cases hlt:Ar x y<0
  ·refine Al3 t n L' (R++S) x y hx hlt (by grind) d σ' i ?_
   have h:=ih L' (y::R) (by omega) (by grind) (by simp_all) (fun r hr=>by
    grind) (fun ys hy hs=>next ys (hy.trans (by
     have:=(List.perm_middle (a:=y) (l₁:=L'++[x]) (l₂:=R))
     simp only[IQ,Jz,nil_append] at this⊢
     exact(List.Perm.append_left L' (List.Perm.swap y x R)))) hs)
   simp_all
  ·refine Ae1 t n L' (R++S) x y hx hlt (by grind) d σ' i hi ?_
   rw[←e0]
   refine next (L'++[y]++x::R) (List.Perm.refl _) ?_
   have hyx:Ar y x<=0:=(MH y x).2 hlt
   rw[List.pairwise_append] at hp⊢
   refine⟨hp.1,List.pairwise_cons.2 ⟨hR,hp.2.1⟩,fun a ha b hb=>?_⟩
   rcases Iz.1 hb with rfl|hb
   ·rcases I6.1 ha with ha'|ha'
    ·exact EF ((List.pairwise_append.1 hp.1).2.2 a ha' y (by simp)) hyx
    grind
   grind
theorem Ae8(t:cr)(n:Int)(T:List b9)(hT:I T<=900)(hz:∀x∈T,x.size<=1000000)(m:Nat):∀(i:Nat) (xs:List b9),1<=i->I T-i=m->xs.Perm T->(xs.take i).Pairwise leV->
  Rn PP BD 0 (dV (.mk n (sortV T))) ba (He++[]) (cy 117 [(2,.v (.ref (vT t))),(4,.ptr 0 0),(5,.ptr 2 0),(7,di i)]) (nv n xs):=by
 induction m with
 |zero=>
  intro i xs hi hm hp hs
  have hl:=hp.length_eq
  grind[Pp,List.take_of_length_le,AiQ]
 |succ m ih=>
  intro i xs hi hm hp hs
  have hl:=hp.length_eq
  obtain⟨x,hx⟩:=yk (show i<I xs by omega)
  have hxs:xs=xs.take i++[x]++xs.drop (i+1):=by
   conv=>lhs;rw[←List.take_append_drop (i+1) xs,IW,hx]
   rfl
  have hli:I (xs.take i)=i:=by grind
  refine Al4 t n _ _ _ _ i (by omega) ?_
  have h:=AiP t n i (by omega) (xs.drop (i+1)) x (hz x (hp.mem_iff.1 (HO hx))) (dV (.mk n (sortV T))) ba _ (xs.take i) [] rfl (by grind) (by grind) (fun r hr=>by grind) (fun ys hy hs'=>by
   have hyl:=hy.length_eq
   rw[HW,hli,List.length_singleton] at hyl
   refine ih (i+1) (ys++xs.drop (i+1)) (by omega) (by omega) ?_ (by grind)
   exact(hy.append_right (xs.drop (i+1))).trans (by grind))
  grind
noncomputable abbrev m5:List KI:=[kl Dl [1,1,0,1,0,0],.blk 0,kc Dl [1,1,1]]
theorem Ae5(l:List cr)(n:Int)(N k:Nat)(hk:k<N)(hN:N<=1000)(C C':List D)(hC:I C=N*2)(t:cr)(x x':b9)(hx:(C.drop (k*2)).take 2=[.v (vi x.n),.v (dt x.az)])(hC':C.take (k*2)++[.v (vi x'.n),.v (dt x'.az)]++C.drop (k*2+2)=C')(ht:l[k]?=G t)(hc:F0 182 [dT t,dV x] (dV x'))(d:D)(σ':St)
  (next:Rn PP BD 0 d σ' (m5++[]) (cy 117 [(2,.v (.ref (vT (.prod l)))),(4,.ptr 0 0),(5,.ptr 2 0),(6,di (k+1:Nat))]) (GL n N C')):
  Rn PP BD 0 d σ' (m5++[]) (cy 117 [(2,.v (.ref (vT (.prod l)))),(4,.ptr 0 0),(5,.ptr 2 0),(6,di k)]) (GL n N C):=by
 have k0:0+Z (k:Int)*2=k*2:=by omega
 refine lv 117 [2,3] (.t<|.k<|.t<|.m (.arr 1 0 N)<|.x (vT t)<|.m (.arr 1 0 N)<|.m (dV x)<|.c (dV x')<|.h .ww<|.k<|.f<|.l [ke 2,ke 4,ke 5,ch 6 (di (k+1:Nat))]) (Y ((k:Int)<(N:Int))=J/\Y ((k:Int)<(I (jv l):Int))=J/\G (bo 1 0 N)=G (bo 1 0 N)/\0<=(k:Int)/\(jv l)[Z (k:Int)]?=G (vT t)/\G (bo 1 0 N)=G (bo 1 0 N)/\0<=(k:Int)/\(k:Int)<(N:Int)/\0+Z (k:Int)*2+2<=I C/\take 2 (W (0+Z (k:Int)*2) C)=(dp x.n x.az)/\F0 182 [bt (vT t),dV x] (dV x')/\0<=(k:Int)/\(k:Int)<(N:Int)/\0+Z (k:Int)*2+2<=I C/\(yj (True))/\(cr.kd (cr.prod l)==5)=O/\di (yu yt ((k:Int)+1))=di (↑(k+1):Int)/\I0 BD 0 d σ' [kl Dl ee,bf 0,kc Dl [1,1,1]] (cy 117 [(qk l),(4,bq 0 0),pq,(6,di (↑(k+1):Int))]) (bh [G [di 0,dn],G (take (0+Z (k:Int)*2) C++(dp x'.n x'.az)++W (0+Z (k:Int)*2+2) C),G [di n,bo 1 0 N]] [])) ?_
 simp only[k0]
 have hC2:C.take (k*2)++[di x'.n,.v (dt x'.az)]++C.drop (k*2+2)=C':=hC'
 simp only[hC2]
 have hlt:=(HL.1 ht).1
 refine⟨yr,HK (by rw[HH];show(k:Int)<(I l:Int);omega),trivial,by omega,?_,trivial,by omega,by omega,by omega,hx,hc,by omega,by omega,by omega,⟨trivial,trivial,trivial,trivial⟩,rfl,Ae,⟨next⟩⟩
 grind[XQ,cr.ps]
theorem Ae4(t:cr)(n:Int)(N k:Nat)(hk:k<N)(hN:N<=1000)(C C':List D)(hC:I C=N*2)(x x':b9)(hx:(C.drop (k*2)).take 2=[.v (vi x.n),.v (dt x.az)])(hC':C.take (k*2)++[.v (vi x'.n),.v (dt x'.az)]++C.drop (k*2+2)=C')(hc:F0 182 [dT t,dV x] (dV x'))(d:D)(σ':St)
  (next:Rn PP BD 0 d σ' (m5++[]) (cy 117 [(2,.v (.ref (vT (.bag t)))),(4,.ptr 0 0),(5,.ptr 2 0),(6,di (k+1:Nat))]) (GL n N C')):
  Rn PP BD 0 d σ' (m5++[]) (cy 117 [(2,.v (.ref (vT (.bag t)))),(4,.ptr 0 0),(5,.ptr 2 0),(6,di k)]) (GL n N C):=by
 have k0:0+Z (k:Int)*2=k*2:=by omega
 refine lv 117 [2,3] (.t<|.k<|.f<|.k<|.t<|.m (.arr 1 0 N)<|.x (vT t)<|.m (.arr 1 0 N)<|.m (dV x)<|.c (dV x')<|.h .ww<|.l [ke 2,ke 4,ke 5,ch 6 (di (k+1:Nat))]) (Y ((k:Int)<(N:Int))=J/\false=O/\(cr.kd (cr.bag t)==5)=J/\G (bo 1 0 N)=G (bo 1 0 N)/\iz 0<=0/\G (eT t)=G (vT t)/\G (bo 1 0 N)=G (bo 1 0 N)/\0<=(k:Int)/\(k:Int)<(N:Int)/\0+Z (k:Int)*2+2<=I C/\take 2 (W (0+Z (k:Int)*2) C)=(dp x.n x.az)/\F0 182 [bt (vT t),dV x] (dV x')/\0<=(k:Int)/\(k:Int)<(N:Int)/\0+Z (k:Int)*2+2<=I C/\(yj (True))/\di (yu yt ((k:Int)+1))=di (↑(k+1):Int)/\I0 BD 0 d σ' [kl Dl ee,bf 0,kc Dl [1,1,1]] (cy 117 [(2,bt (bz (vT (cr.bag t)))),(4,bq 0 0),pq,(6,di (↑(k+1):Int))]) (bh [G [di 0,dn],G (take (0+Z (k:Int)*2) C++(dp x'.n x'.az)++W (0+Z (k:Int)*2+2) C),G [di n,bo 1 0 N]] [])) ?_
 simp only[k0]
 have hC2:C.take (k*2)++[di x'.n,.v (dt x'.az)]++C.drop (k*2+2)=C':=hC'
 simp only[hC2]
 exact⟨yr,trivial,rfl,trivial,by decide,Ih G (XQ t),trivial,by omega,by omega,by omega,hx,hc,by omega,by omega,by omega,⟨trivial,trivial,trivial,trivial⟩,Ae,⟨next⟩⟩
theorem Pn(t:cr)(n:Int):F0 182 [dT t,dV (.mk n [])] (dV (.mk n [])):=by
 have hc:=DO _ (.mk n []) (HP _) (by show 1<=_;decide)
 by_cases h5:t.kd=5
 ·exact sv BD 117 [2,3] (.c (dV (.mk n []))<|.n<|.k<|.f<|.n<|.k<|.r) (_/\(cr.kd t !=5)=O/\Q (dV (ey n))) ⟨hc,by grind,rfl⟩
 ·exact sv BD 117 [2,3] (.c (dV (.mk n []))<|.n<|.k<|.t<|.r) (_/\(cr.kd t !=5)=J/\Q (dV (ey n))) ⟨hc,bne_iff_ne.2 h5,rfl⟩
theorem QA(l:List cr)(n:Int)(ks ks':List b9)(hn:ks≠ [])(hl:I ks=I l)(hl':I ks'=I l)(hz:(b9.mk n ks).size<=900)(hs:∀(i:Nat) (t:cr) (x x':b9),l[i]?=G t->ks[i]?=G x->ks'[i]?=G x'->F0 182 [dT t,dV x] (dV x')):F0 182 [dT (.prod l),dV (.mk n ks)] (dV (.mk n ks')):=by
 have hsz:=(b9.mk n ks).size_eq
 have hle:=b9.length_le ks
 have hks:(b9.mk n ks).az=ks:=rfl
 rw[hks] at hsz
 have hcp:=vr (.mk n ks) hn hz
 have sz2:∀l:List b9,∀v∈l.map eV,v.size=2:=fun l v hv=>by
  obtain⟨y,_,rfl⟩:=I2.1 hv
  rw[AH];rfl
 have loop (m:Nat):∀k:Nat,I ks-k=m->k<=I ks->Rn PP BD 0 (dV (.mk n ks')) ba (m5++[]) (cy 117 [(2,.v (.ref (vT (.prod l)))),(4,.ptr 0 0),(5,.ptr 2 0),(6,di k)]) (GL n (I ks) (Ab ((ks'.take k++ks.drop k).map eV))):=by
  induction m with
  |zero=>
   intro k hm hk
   have e:k=I ks':=by omega
   subst e
   rw[take_length,Ic (by omega),I8 ks']
   have hcv:=fun e=>BY (σ:=GL n (I ks) (Ab (ks'.map eV))) (p:=2) (q:=1) (i:=1) (sz:=2) (cs:=[di n,.arr 1 0 (I ks)]) (xs:=ks'.map eV) (by decide) rfl rfl (by decide) (by rw[HH,hl', ←hl];rfl) (sz2 ks') e
   refine Mp (hcv _) ?_
   show Rn PP BD 0 (dV (.mk n ks')) ba (m5++[]) (cy 117 [(2,.v (.ref (vT (.prod l)))),(4,.ptr 0 0),(5,.ptr 2 0),(6,di (I ks'))]) ⟨[G [di 0,.v .nils],none,G [di n,cq ks']],[]⟩
   exact lv 117 [2,3] (.f<|.k<|.r) (Y ((I ks':Int)<(I (U eV ks'):Int))=O/\Q (dV (b9.mk n ks'))) ⟨HM (by rw[HH];omega),rfl⟩
  |succ m ih=>
   intro k hm hk
   obtain⟨t,ht⟩:=yk (show k<I l by omega)
   obtain⟨x,hx⟩:=yk (show k<I ks by omega)
   obtain⟨x',hx'⟩:∃x,ks'[k]?=G x:=⟨_,HI (show k<I ks' by omega)⟩
   have hd:ks.drop k=x::ks.drop (k+1):=by rw[HX (show k<I ks by omega),(HL.1 hx).2]
   have htk:ks'.take (k+1)=ks'.take k++[x']:=by rw[IW,hx'];rfl
   have hkl:I (ks'.take k)=k:=by rw[Ip];omega
   have hm1:=MT (ks'.take k) (ks.drop (k+1)) x x'
   have hat:=Ep (l:=ks'.take k++x::ks.drop (k+1)) (i:=k) (x:=x) (by rw[Ib (by omega),hkl,Nat.sub_self];rfl)
   rw[hkl] at hm1
   rw[hd]
   have hih:=ih (k+1) (by omega) (by omega)
   rw[htk,IQ,List.singleton_append] at hih
   exact Ae5 l n (I ks) k (by omega) (by omega) _ _ (by rw[AU,HW,HN,IP,hkl];omega) t x x' hat hm1 ht (hs k t x x' ht hx hx') _ _ hih
 have hlp:=loop _ 0 rfl (Iu _)
 have hF:=Dk (.mk n ks)
 have hcall:∀(o:yy) (c:Call) (fo:x8),o.op=.call c->c.callee=.value fo->Ai PP o [.v (.fn 83 [] []),dV (.mk n ks)] ⟨[G [di 0,.v .nils]],[]⟩ (.dagg [di n,.arr 1 0 (I ks)]) ⟨[G [di 0,.v .nils],G (gy (.mk n ks))],[]⟩:=fun o c fo ho hc=>RO (H:=[G [di 0,.v .nils]]) rfl hF hcp ho hc
 have hlp:Rn PP BD 0 (dV (.mk n ks')) ba (m5++[]) (cy 117 [(2,.v (.ref (vT (.prod l)))),(4,.ptr 0 0),(5,.ptr 2 0),(6,di (0:Nat))]) (GL n (I ks) (gy (.mk n ks))):=hlp
 clear hcp
 generalize gy (.mk n ks)=F at*
 exact sv BD 117 [2,3] (.h (.oc (.dagg [di n,.arr 1 0 (I ks)]) ⟨[G [di 0,.v .nils],G F],[]⟩)<|.l [ke 2,ke 4,ke 5,ch 6 (di (0:Nat))]) (_/\Q (di 0)/\_) ⟨hcall,rfl,iK hlp⟩
theorem Ae6(t:cr)(n:Int)(T:List b9)(hn:T≠ [])(hz:(b9.mk n T).size<=900)(hs:∀x∈T,F0 182 [dT t,dV x] (dV x)):F0 182 [dT (.bag t),dV (.mk n T)] (dV (.mk n (sortV T))):=by
 have hsz:=(b9.mk n T).size_eq
 have hle:=b9.length_le T
 have hks:(b9.mk n T).az=T:=rfl
 rw[hks] at hsz
 have hcp:=vr (.mk n T) hn hz
 have hsl:=Ae8 (.bag t) n T (by omega) (fun x hx=>by have:=b9.size_mem hx;omega) _ 1 T (HP _) rfl (List.Perm.refl _) (by
  cases T<;>grind)
 have loop (m:Nat):∀k:Nat,I T-k=m->k<=I T->Rn PP BD 0 (dV (.mk n (sortV T))) ba (m5++[]) (cy 117 [(2,.v (.ref (vT (.bag t)))),(4,.ptr 0 0),(5,.ptr 2 0),(6,di k)]) (GL n (I T) (Ab (T.map eV))):=by
  induction m with
  |zero=>
   intro k hm hk
   have hsl:Rn PP BD 0 (dV (.mk n (sortV T))) ba (He++[]) (cy 117 [(2,.v (.ref (vT (.bag t)))),(4,.ptr 0 0),(5,.ptr 2 0),(7,di (1:Nat))]) (GL n (I T) (Ab (T.map eV))):=hsl
   generalize Ab (T.map eV)=F at*
   exact lv 117 [2,3] (.f<|.k<|.l [ke 2,ke 4,ke 5,ch 7 (di (1:Nat))]) (Y ((k:Int)<(I T:Int))=O/\Q (di 1)/\_) ⟨yq,rfl,iK hsl⟩
  |succ m ih=>
   intro k hm hk
   obtain⟨x,hx⟩:=yk (show k<I T by omega)
   exact Ae4 t n (I T) k (by omega) (by omega) _ _ (AU T) x x (Ep hx) (MS hx) (hs x (HO hx)) _ _ (ih (k+1) (by omega) (by omega))
 have hlp:=loop _ 0 rfl (Iu _)
 have hF:=Dk (.mk n T)
 have hcall:∀(o:yy) (c:Call) (fo:x8),o.op=.call c->c.callee=.value fo->Ai PP o [.v (.fn 83 [] []),dV (.mk n T)] ⟨[G [di 0,.v .nils]],[]⟩ (.dagg [di n,.arr 1 0 (I T)]) ⟨[G [di 0,.v .nils],G (gy (.mk n T))],[]⟩:=fun o c fo ho hc=>RO (H:=[G [di 0,.v .nils]]) rfl hF hcp ho hc
 have hlp:Rn PP BD 0 (dV (.mk n (sortV T))) ba (m5++[]) (cy 117 [(2,.v (.ref (vT (.bag t)))),(4,.ptr 0 0),(5,.ptr 2 0),(6,di (0:Nat))]) (GL n (I T) (gy (.mk n T))):=hlp
 clear hcp hsl loop
 generalize gy (.mk n T)=F at*
 exact sv BD 117 [2,3] (.h (.oc (.dagg [di n,.arr 1 0 (I T)]) ⟨[G [di 0,.v .nils],G F],[]⟩)<|.l [ke 2,ke 4,ke 5,ch 6 (di (0:Nat))]) (_/\Q (di 0)/\_) ⟨hcall,rfl,iK hlp⟩
theorem AlZ(m:cz)(hm:D1 m):F0 103 [Ad m] (db J):=by
 have h1:∀a b x,A3 x a b=J->F0 102 [di x,di a,di b] (db J):=fun a b x h=>h▸CR x a b
 have hb:∀{x a b:Int},a<=x->x<=b->A3 x a b=J:=fun h1 h2=>by simp[A3,h1,h2]
 obtain⟨hst,hpl⟩:=hm.sz
 have hag:=hm.age
 have hc:=hm.count
 have hle:=hm.ax
 have hlv:=hm.ao
 have hk:=hm.kind
 clear hm
 obtain⟨kind,aw,ay,ax,au,ao,age,av,start⟩:=m
 dsimp only at*
 subst hk
 subst hle
 subst hlv
 refine sv VP 81 [1] (.c (db J)<|.c (db J)<|.k<|.f<|.c (db J)<|.c (db J)<|.c (db J) .r) (F0 102 [di (I (U ae (cz.mk 5 aw ay [] au 0 age av start).aw):Int),di 1,di 8] (db J)/\F0 102 [di (I (U ae (cz.mk 5 aw ay [] au 0 age av start).ay):Int),di 1,di 6] (db J)/\Y ((I (U Al (cz.mk 5 aw ay [] au 0 age av start).av):Int)>12)=O/\F0 102 [di (I (U ae (cz.mk 5 aw ay [] au 0 age av start).ax):Int),di 0,di 0] (db J)/\F0 102 [di (cz.mk 5 aw ay [] au 0 age av start).ao,di 0,di 0] (db J)/\F0 102 [di (cz.mk 5 aw ay [] au 0 age av start).age,di 0,di 3] (db J)/\Q (db J)) ?_
 have b1:A3 (I aw:Int) 1 8=J:=hb (by omega) (by omega)
 have b2:A3 (I ay:Int) 1 6=J:=hb (by omega) (by omega)
 have b3:Y ((I av:Int)>12)=O:=yq
 have b4:A3 age 0 3=J:=hb (by omega) (by omega)
 exact⟨by rw[HH];exact h1 _ _ _ b1,by rw[HH];exact h1 _ _ _ b2,by rw[HH];exact b3,h1 _ _ _ rfl,h1 _ _ _ rfl,h1 _ _ _ b4,rfl⟩
theorem AlB(m:cz)(hm:D1 m):F0 104 [Ad m] (db J):=by
 exact sv Nl 32 [1] (.t .r) ((m.kind !=3)=J/\db ((I (cc m.au):Int)==0)=db J) ⟨by rw[hm.kind];rfl,by rw[hm.au];rfl⟩
theorem Ame(m:cz)(hm:D1 m):F0 105 [Ad m] (db J):=by
 obtain⟨hst,hpl⟩:=hm.sz
 have hc:=hm.count
 exact V2 m (by simp only[Gm,Cj,List.flatten_cons,List.flatten_nil,HW,HH,HR,hm.ax];omega) (by omega) hm.named
noncomputable abbrev Ane:=Tryz.f166
theorem Agm(l:List Int)(hl:I l<=3)(b:Int)(h:∀x∈l,0<=x/\x<=b):F0 166 [cx l,di 3,di b] (db J):=by
 have:=Oc l (by omega) (I l) 0 b rfl (fun x hx=>by grind[A3])
 refine sv Ane 18 [] (.t<|.c (db J) .r) (Y ((I (U vi l):Int)<=3)=J/\F0 165 [cx l,di (I (U vi l):Int),di 0,di b] (db J)/\Q (db J)) ?_
 grind
noncomputable abbrev Aic:=Tryz.f167
theorem Aee(m:cz)(hp:1<=I m.ay/\m.ay.length<=1000)(ha:0<=m.age/\m.age<=1000)(r:cf)(h1:r.ar=[]∨∃p lo hi:Int,(0<=p/\p<I m.ay)/\(0<=lo/\lo<=hi/\hi<=m.age+1)/\r.ar=[⟨p,lo,hi⟩])(h2:r.aq=[]∨∃p:Int,(0<=p/\p<I m.ay)/\r.aq=[p]):F0 167 [Ad m,BP r] (db J):=by
 have hw:yt.wrap ((I (m.ay.map ae):Int)-1)=(I m.ay:Int)-1:=GT _ _ (by omega)
 have hwa:yt.wrap (m.age+1)=m.age+1:=Ak
 have hm1:I r.aq<=1:=by grind
 have hfew:=Agm r.aq (by omega) ((I m.ay:Int)-1) (fun x hx=>by
  grind)
 have hml:¬(1:Int)<(I (r.aq.map vi):Int):=by grind
 rcases h1 with e|⟨p,lo,hi,⟨p1,p2⟩,⟨l1,l2,l3⟩,e⟩
 ·refine sv Aic 81 [2,3] (.f<|.c (db J)<|.k<|.n<|.f<|.n<|.f .r) (Y ((I (U dh r.ar):Int)>3)=O/\F0 166 [cx r.aq,di 3,di (yu yt ((I (df m.ay):Int)-1))] (db J)/\Y (0<(I (U dh r.ar):Int))=O/\Y (1<(I (cc r.aq):Int))=O/\Q (db J)) ?_
  grind
 ·have hbt:F0 102 [di p,di 0,di ((I m.ay:Int)-1)] (db J):=by
   grind[CR,A3]
  refine sv Aic 81 [2,3] (.f<|.c (db J)<|.k<|.n<|.t<|.x (dh ⟨p,lo,hi⟩)<|.c (db J)<|.k<|.f<|.f<|.f<|.n<|.f<|.n<|.f .r) (Y ((I (U dh r.ar):Int)>3)=O/\F0 166 [cx r.aq,di 3,di (yu yt ((I (df m.ay):Int)-1))] (db J)/\Y (0<(I (U dh r.ar):Int))=J/\iz 0<=0/\(U dh r.ar)[Z 0]?=G (dh (Tk.mk p lo hi))/\F0 102 [di (Tk.mk p lo hi).place,di 0,di (yu yt ((I (df m.ay):Int)-1))] (db J)/\Y ((Tk.mk p lo hi).low<0)=O/\Y ((Tk.mk p lo hi).low>(Tk.mk p lo hi).high)=O/\Y ((Tk.mk p lo hi).high>yu yt (m.age+1))=O/\Y (yu yt (0+1)<(I (U dh r.ar):Int))=O/\Y (1<(I (cc r.aq):Int))=O/\Q (db J)) ?_
  rw[hw,hwa]
  exact⟨by grind,hfew,by grind,Il _,by grind,hbt,HM (by grind),HM (by grind),HM (by grind),by rw[e];rfl,HM hml,rfl⟩
theorem Ao6(m:cz)(hm:GQ m)(r:cf)(hr:r∈m.av):F0 106 [Ad m,BP r] (db J):=by
 have h1:∀a b x,A3 x a b=J->F0 102 [di x,di a,di b] (db J):=fun a b x h=>h▸CR x a b
 have hb:∀{x a b:Int},a<=x->x<=b->A3 x a b=J:=fun h1 h2=>by simp[A3,h1,h2]
 obtain⟨i,hi⟩:=List.getElem?_of_mem hr
 have hR:=hm.av i r hi
 obtain⟨hst,hpl⟩:=hm.n.sz
 have ht:=Aee m (by omega) (by have:=hm.n.age;omega) r hR.ar hR.aq
 have hf:=hR.aj
 have hto:=hR.to
 have hw:yt.wrap ((I (m.aw.map ae):Int)-1)=(I m.aw:Int)-1:=GT _ _ (by omega)
 have hre:=hR.rest
 have hk:=hm.n.kind
 clear hm hr hi hR
 generalize r.name=nm at*
 generalize r.aj=f at*
 generalize r.to=t at*
 generalize r.ar=tk at*
 generalize r.aq=mk at*
 subst hre
 obtain⟨kind,aw,ay,ax,au,ao,age,av,start⟩:=m
 dsimp only at*
 subst hk
 refine sv Agp 234 [2,3] (.c (db J)<|.c (db J)<|.c (db J) .r) (F0 102 [di (e7 nm f t tk mk).aj,di 0,di (yu yt ((I (U ae (cz.mk 5 aw ay ax au ao age av start).aw):Int)-1))] (db J)/\F0 102 [di (e7 nm f t tk mk).to,di 0,di (yu yt ((I (U ae (cz.mk 5 aw ay ax au ao age av start).aw):Int)-1))] (db J)/\F0 167 [bt (A0 (cz.mk 5 aw ay ax au ao age av start)),bt (Al (e7 nm f t tk mk))] (db J)/\db ((e7 nm f t tk mk).second==0)=db J) ?_
 rw[hw]
 have b1:A3 f 0 ((I aw:Int)-1)=J:=hb hf.1 (by omega)
 have b2:A3 t 0 ((I aw:Int)-1)=J:=hb hto.1 (by omega)
 exact⟨h1 _ _ _ b1,h1 _ _ _ b2,ht,rfl⟩
theorem AiF(m:cz)(hk:m.kind=5)(hag:0<=m.age/\m.age<=1000):F0 59 [Ad m] (dT (Av m)):=by
 obtain⟨kind,aw,ay,ax,au,ao,age,av,start⟩:=m
 dsimp only at*
 subst hk
 refine sv qw 96 [1] (.a 1<|.h .g .r) (Q (ab (vi 2::vi (I (U ae (cz.mk 5 aw ay ax au ao age av start).aw):Int)::ai nV::ai nV::nV)::nV)/\Ao 2 64/\bt (ab [vi 3,vi 0,ai [],ai [ab [vi 2,vi (I (U ae (cz.mk 5 aw ay ax au ao age av start).aw):Int),ai [],ai []],ab [vi 5,vi 0,ai [],ai [ab [vi 3,vi 0,ai [],ai [ab [vi 2,vi (I (U ae (cz.mk 5 aw ay ax au ao age av start).ay):Int),ai [],ai []],ab [vi 2,vi (yu yt ((cz.mk 5 aw ay ax au ao age av start).age+2)),ai [],ai []]]]]]]])=dT (Av (cz.mk 5 aw ay ax au ao age av start))) ⟨rfl,⟨by decide,by decide⟩,?_⟩
 show bt (ab [vi 3,vi 0,ai [],ai [ab [vi 2,vi (I (aw.map ae):Int),ai [],ai []],ab [vi 5,vi 0,ai [],ai [ab [vi 3,vi 0,ai [],ai [ab [vi 2,vi (I (ay.map ae):Int),ai [],ai []],ab [vi 2,vi (yu yt (age+2)),ai [],ai []]]]]]]])=_
 rw[HH,HH,Ak (n:=age+2)]
 show _=bt (vT (.prod [.lab (I aw),.bag (.prod [.lab (I ay),.lab (age+2)])]))
 rfl
theorem AdO(d:Nat)(t:cr)(hd:d<=100)(h:F0 169 [dT t,di d] (db J)):F0 169 [dT (.bag t),di ((d+1:Nat):Int)] (db J):=by
 rw[dT,U1]
 refine sv NG 132 [2] (.f<|.x (vT t)<|.c (db J) .r) (((↑(d+1):Int)==0)=O/\iz 0<=0/\Q (G (vT t))/\F0 169 [bt (vT t),di (yu yt ((↑(d+1):Int)-1))] (db J)/\Q (db J)) ?_
 have hz:(((d+1:Nat):Int)==0)=O:=Iy.2 (by omega)
 rw[show yt.wrap (((d+1:Nat):Int)-1)=d by rw[Ak];omega]
 exact⟨hz,by decide,rfl,h,rfl⟩
theorem Zj(m:cz)(hm:D1 m):F0 169 [dT (Av m),di 8] (db J):=by
 obtain⟨hst,hpl⟩:=hm.sz
 have hag:=hm.age
 refine LY 7 _ (by decide) rfl rfl fun t ht=>?_
 simp only[Iz,Jr,or_false] at ht
 rcases ht with rfl|rfl
 ·exact JF 6 _ (by omega) (by omega)
 ·refine AdO 6 _ (by decide) (LY 5 _ (by decide) rfl rfl fun t ht=>?_)
  simp only[Iz,Jr,or_false] at ht
  rcases ht with rfl|rfl
  ·exact JF 4 _ (by omega) (by omega)
  ·exact JF 4 _ (by omega) (by omega)
theorem AcI(m:cz)(hm:D1 m):F0 107 [dT (Av m)] (di 0):=by
 refine sv Aik 6 [1] (.c (db J) .r) (F0 169 [bt (vT (Av m)),di 8] (db J)/\Q (di 0)) ?_
 grind[Zj]
def o7(t:cr)(l:List b9):Nat->Nat->Bool
 |0,_=>true
 |n+1,k=>(Ax t (l.getD k default)&& !(Y (k>0)&&Y (Ar (l.getD (k-1) default) (l.getD k default)>0)))&&o7 t l n (k+1)
theorem Xt(t:cr)(v:b9)(hv:I v.az<=12)(hz:v.size<=1000000)(h:∀k∈v.az,F0 109 [dT t,dV k] (db (Ax t k)))(n:Nat):∀k:Nat,I v.az-k=n->
  Rn PP Ed 0 (db (o7 t v.az n k)) ba ([kl C7 [1,1,1,0,1,0,0],.blk 3,kc C7 [1,1,1,1]]++[]) (cy 169 [(2,.v (.ref (lx 5 0 [] [vT t]))),(3,.v (.ref (Ac v))),(6,di k)]) ba:=by
 induction n with
 |zero=>
  intro k hn
  exact lv 169 [2,3] (.f .r) (Y ((k:Int)<(I (ce v.az):Int))=O/\Q (db J)) ⟨HM (by rw[HH];omega),rfl⟩
 |succ n ih=>
  intro k hn
  obtain⟨x,hx⟩:∃r,v.az[k]?=G r:=⟨_,HI (by omega)⟩
  have hlt:Y ((k:Int)<(I (v.az.map eV):Int))=J:=HK (by rw[HH];omega)
  have hxd:v.az.getD k default=x:=by rw[HQ,hx];rfl
  have ho:=h x (HO hx)
  rw[o7,hxd]
  have hih:=ih (k+1) (by omega)
  generalize o7 t v.az n (k+1)=b at*
  cases hb:Ax t x with
  |false=>
   rw[hb] at ho
   exact lv 169 [2,3] (.t<|.x (vT t)<|.x (Ac x)<|.c (db O)<|.k<|.k .r) (_/\iz 0<=0/\Q (G (vT t))/\0<=(k:Int)/\(ce v.az)[Z (k:Int)]?=G (Ac x)/\_/\db O=db (false&& !(Y (k>0)&&Y (Ar (List.getD v.az (k-1) default) x>0))&&b)) ⟨hlt,by decide,rfl,by omega,Ap hx,ho,by rw[Iq,Iq]⟩
  |true=>
   rw[hb] at ho
   cases k with
   |zero=>
    exact lv 169 [2,3] (.t<|.x (vT t)<|.x (Ac x)<|.c (db J)<|.k<|.k<|.k<|.l [ke 2,ke 3,ch 6 (di ((0:Nat)+1:Nat))]) (_/\iz 0<=0/\Q (G (vT t))/\0<=(↑0:Int)/\(ce v.az)[Z (↑0:Int)]?=G (Ac x)/\_/\Q (di (↑(0+1):Int))/\I0 Ed 0 (db (true&& !(Y (0>0)&&Y (Ar (List.getD v.az (0-1) default) x>0))&&b)) ba pn (cy 169 [(2,bt (bz (lx 5 0 [] [vT t]))),(jw v),(6,di (↑(0+1):Int))]) d7) ⟨hlt,by decide,rfl,by omega,Ap hx,ho,rfl,⟨by simpa using hih⟩⟩
   |succ k=>
    obtain⟨y,hy⟩:∃r,v.az[k]?=G r:=⟨_,HI (by omega)⟩
    have hyd:v.az.getD k default=y:=by rw[HQ,hy];rfl
    rw[show k+1-1=k by omega,hyd]
    have hyz:=b9.size_mem (HO hy)
    have hvz:=b9.size_eq v
    have hcm:=EL _ y x (HP _) (by omega)
    have hw1:yu yt (((k+1:Nat):Int)-1)=(k:Int):=by rw[Ak];omega
    have hg:Y (((k+1:Nat):Int)>0)=J:=yr
    by_cases hc:Ar y x>0
    ·refine lv 169 [2,3] (.t<|.x (vT t)<|.x (Ac x)<|.c (db J)<|.k<|.k<|.t<|.x (Ac y)<|.x (Ac x)<|.c (di (Ar y x))<|.t .r) (Y ((↑(k+1):Int)<(I (ce v.az):Int))=J/\iz 0<=0/\Q (G (vT t))/\0<=(↑(k+1):Int)/\(ce v.az)[Z (↑(k+1):Int)]?=G (Ac x)/\F0 109 [bt (vT t),dV x] (db J)/\Y ((↑(k+1):Int)>0)=J/\0<=yu yt ((↑(k+1):Int)-1)/\(ce v.az)[Z (yu yt ((↑(k+1):Int)-1))]?=G (Ac y)/\0<=(↑(k+1):Int)/\(ce v.az)[Z (↑(k+1):Int)]?=G (Ac x)/\tf y x/\Y (Ar y x>0)=J/\db O=db (true&& !(Y (k+1>0)&&Y (Ar y x>0))&&b)) ?_
     rw[hw1]
     exact⟨hlt,by decide,rfl,by omega,Ap hx,ho,hg,by omega,Ap hy,by omega,Ap hx,hcm,HK hc,by rw[HK hc];simp⟩
    ·refine lv 169 [2,3] (.t<|.x (vT t)<|.x (Ac x)<|.c (db J)<|.k<|.k<|.t<|.x (Ac y)<|.x (Ac x)<|.c (di (Ar y x))<|.f<|.l [ke 2,ke 3,ch 6 (di (k+1+1:Nat))]) (Y ((↑(k+1):Int)<(I (ce v.az):Int))=J/\iz 0<=0/\Q (G (vT t))/\0<=(↑(k+1):Int)/\(ce v.az)[Z (↑(k+1):Int)]?=G (Ac x)/\F0 109 [bt (vT t),dV x] (db J)/\Y ((↑(k+1):Int)>0)=J/\0<=yu yt ((↑(k+1):Int)-1)/\(ce v.az)[Z (yu yt ((↑(k+1):Int)-1))]?=G (Ac y)/\0<=(↑(k+1):Int)/\(ce v.az)[Z (↑(k+1):Int)]?=G (Ac x)/\tf y x/\Y (Ar y x>0)=O/\di (yu yt ((↑(k+1):Int)+1))=di (↑(k+1+1):Int)/\I0 Ed 0 (db (true&& !(Y (k+1>0)&&Y (Ar y x>0))&&b)) ba pn (cy 169 [(2,bt (bz (lx 5 0 [] [vT t]))),(jw v),(6,di (↑(k+1+1):Int))]) d7) ?_
     rw[hw1]
     exact⟨hlt,by decide,rfl,by omega,Ap hx,ho,hg,by omega,Ap hy,by omega,Ap hx,hcm,HM hc,Ae,⟨by rw[HM hc];simpa using hih⟩⟩
theorem Ahi(t:cr)(l:List b9)(n:Nat):∀k:Nat,I l-k=n->k<=I l->(o7 t l n k=J↔(∀i,k<=i->i<I l->Ax t (l.getD i default)=J)/\∀i,k<=i->0<i->i<I l->Ar (l.getD (i-1) default) (l.getD i default)<=0):=by
 induction n with
 |zero=>
  grind[o7]
 |succ n ih=>
  intro k hn hk
  rw[o7,HJ,HJ,ih (k+1) (by omega) (by omega)]
  simp only[IA,Bool.and_eq_false_iff,Jk]
  constructor
  ·all_goals grind
  ·grind
theorem Akc(t:cr)(l:List b9):o7 t l (I l) 0=(l.all (fun k=>Ax t k)&&WT l):=by
 grind[Ahi,Pm,Mz,List.getElem?_of_mem,List.pairwise_iff_getElem]
theorem Af6(t:cr)(v:b9)(hz:v.size<=1000000)(h:∀k∈v.az,F0 109 [dT t,dV k] (db (Ax t k))):F0 109 [dT (.bag t),dV v] (db (Ax (.bag t) v)):=by
 rw[dT,U1]
 refine sv Ed 169 [2,3] (.k<|.k<|.k<|.k<|.b .r (.b .r (.l [ke 2,ke 3,ch 6 (di (0:Nat))]))) (((v.n !=0)=J->db O=db (Ax (cr.bag t) v))/\((v.n !=0)=O->(Y ((I (ce v.az):Int)>12)=J->db O=db (Ax (cr.bag t) v))/\(Y ((I (ce v.az):Int)>12)=O->di 0=di (↑0:Int)/\I0 Ed (I ba.H) (db (Ax (cr.bag t) v)) ba pn (cy 169 [(2,bt (bz (lx 5 0 [] [vT t]))),(jw v),(6,di (↑0:Int))]) ba))) ⟨fun h1=>?_,fun h1=>⟨fun h2=>?_,fun h2=>⟨rfl,⟨?_⟩⟩⟩⟩
 ·have h1:(v.n==0)=O:=by simpa using h1
  simp only[Ax,h1,Iq]
 ·have h2:¬((I v.az:Int)<=12):=by simpa using h2
  simp only[Ax,HM h2,Iq,Jv]
 ·have h1:(v.n==0)=J:=by simpa using h1
  have h2:(I v.az:Int)<=12:=by simpa using h2
  simp only[Ax,h1,HK h2,Is]
  rw[←Akc]
  exact Xt t v (by omega) hz h _ 0 rfl
theorem Abc(m:cz)(v:b9)(hv:v.size<=1000000):F0 109 [dT (Av m),dV v] (db (Ax (Av m) v)):=
 MF _ v hv fun t ht k hk=>by
  have hks:=b9.size_mem hk
  have hvs:=v.size_eq
  simp only[Iz,Jr,or_false] at ht
  rcases ht with rfl|rfl
  ·exact LH _ k
  ·refine Af6 _ k (by omega) fun x hx=>MF _ x (by have:=b9.size_mem hx;have:=k.size_eq;omega) fun t ht y _=>?_
   grind[LH]
theorem Hr(m:cz)(hm:D1 m)(v:b9):F0 58 [dT (Av m),dV v] (db (Ah (Av m) v)):=by
 refine sv Aia 18 [2,3] (.c (di 0)<|.c (di (min (v.size:Int) 129))<|.b (.c (db (Ax (Av m) v)) .r) .r) (_/\_/\(Y (min (↑(iq v):Int) 129<=128)=J->F0 109 [bt (vT (Av m)),dV v] (db (Ax (Av m) v))/\db (Ax (Av m) v)=db (Ah (Av m) v))/\(Y (min (↑(iq v):Int) 129<=128)=O->db O=db (Ah (Av m) v))) ⟨AcI m hm,Hz _ v (HP _) 128 (by decide) (by decide),fun h1=>?_,fun h1=>?_⟩
 all_goals grind[Abc,Ah]
theorem Yt(m:cz)(hm:GQ m):F0 57 [Ad m] (di (if Ah (Av m) m.start then 0 else 17)):=
 Wj m _ (by rw[hm.n.kind];rfl) (AlZ m hm) (AlB m hm) (Ame m hm) (O5 m _ _ (by have:=hm.n.count;omega) (by rw[hm.n.kind];rfl) (fun r hr=>Ao6 m hm r hr) (AiF m hm.n.kind (by have:=hm.n.age;omega)) (Hr m hm m.start) _ 0 rfl)
theorem Wl(m:cz)(hm:BH m):F0 57 [Ad m] (di 0):=by
 have:=Yt m hm
 rwa[hm.start_ok,Ie rfl] at this
theorem Ht(m:cz)(hm:BH m)(v:b9):F0 33 [Ad m,dV v] (db (Ah (Av m) v)):=by
 exact sv Aib 14 [2,3] (.c (di 0)<|.c (dT (Av m))<|.c (db (Ah (Av m) v)) .r) (_/\_/\_/\Q (db (Ah (Av m) v))) ⟨Wl m hm,AiF m hm.kind (by have:=hm.age;omega),Hr m hm v,rfl⟩
noncomputable abbrev Amz:=Tryz.f116
theorem AiO(a b:Int)(p:Int×Int):F0 182 [dT (.prod [.lab a,.lab b]),dV (pV p)] (dV (pV p)):=by
 refine QA [.lab a,.lab b] 0 [lf p.1,lf p.2] [lf p.1,lf p.2] (by simp) rfl rfl (by show 3<=900;decide) (fun i t x x' ht hx hx'=>?_)
 grind[Pn]
theorem NM:∀ps:List (Int×Int),b9.sizes (ps.map pV)=3*I ps
 |[]=>rfl
 |p::ps=>by
  show(pV p).size+b9.sizes (ps.map pV)=_
  rw[NM ps,HN]
  show 3+_=_
  omega
theorem N4(ps:List (Int×Int)):(b9.mk 0 (ps.map pV)).size=1+3*I ps:=by grind[NM,b9.size]
theorem GY(s:Int)(ps:List (Int×Int)):(d5 s ps).size=3+3*I ps:=by
 show 1+((lf s).size+((b9.mk 0 (ps.map pV)).size+0))=_
 rw[N4]
 show 1+(1+_)=_
 omega
theorem Al5(m:cz)(s:Int)(ps:List (Int×Int))(hl:I ps<=100):F0 182 [dT (Av m),dV (d5 s ps)] (dV (d5 s (BL ps))):=by
 have hb:F0 182 [dT (.bag (.prod [.lab (I m.ay),.lab (m.age+2)])),dV (.mk 0 (ps.map pV))] (dV (.mk 0 ((BL ps).map pV))):=by
  by_cases e:ps=[]
  ·subst e
   rw[show BL []=[] by simp[BL]]
   exact Pn _ 0
  ·rw[←UK]
   exact Ae6 _ 0 (ps.map pV) (by simp_all) (by grind[N4]) (fun x hx=>by
    obtain⟨p,_,rfl⟩:=I2.1 hx
    grind[AiO])
 grind[QA,d5,GY,Pn,Av]
theorem SN(m:cz)(hm:D1 m)(s:Int)(ps:List (Int×Int))(hl:I ps<=40)(hv:Ah (Av m) (d5 s (BL ps))=J):F0 116 [dT (Av m),dV (d5 s ps)] (.tup [dV (d5 s (BL ps)),di 0]):=by
 have h1:=AcI m hm
 have h2:=Al5 m s ps (by omega)
 have h3:=Hr m hm (d5 s (BL ps))
 rw[hv] at h3
 generalize Av m=t at*
 have hz:=GY s ps
 generalize d5 s (BL ps)=w at*
 generalize d5 s ps=v at*
 exact sv Amz 27 [2,3] (.c (di 0)<|.k<|.c (di (min (v.size:Int) (128+1)))<|.f<|.c (dV w)<|.c (db J)<|.k<|.r) (_/\_/\Y (min (↑(b9.size v):Int) (128+1)>128)=O/\_/\_/\Q (bk [dV w,di 0])) ⟨h1,Hz _ v (HP _) 128 (by decide) (by decide),yq,h2,h3,rfl⟩
theorem AeD(m:cz)(hm:D1 m)(s:Int)(ps:List (Int×Int))(hl:I ps<=40)(hv:Ah (Av m) (d5 s (BL ps))=O):F0 116 [dT (Av m),dV (d5 s ps)] (.tup [dV (.mk 0 []),di 5]):=by
 have h1:=AcI m hm
 have h2:=Al5 m s ps (by omega)
 have h3:=Hr m hm (d5 s (BL ps))
 rw[hv] at h3
 generalize Av m=t at*
 have hz:=GY s ps
 generalize d5 s (BL ps)=w at*
 generalize d5 s ps=v at*
 exact sv Amz 27 [2,3] (.c (di 0)<|.k<|.c (di (min (v.size:Int) (128+1)))<|.f<|.c (dV w)<|.c (db O)<|.k<|.r) (_/\_/\Y (min (↑(b9.size v):Int) (128+1)>128)=O/\_/\_/\Q (bk [dV (b9.mk 0 []),di 5])) ⟨h1,Hz _ v (HP _) 128 (by decide) (by decide),yq,h2,h3,rfl⟩
noncomputable abbrev AmI:=Tryz.f117
theorem KM(m:cz)(hm:BH m):F0 117 [Ad m] (di 0):=by
 have h:=Wl m hm
 have hk:=hm.kind
 refine sv AmI 12 [1] (.c (di 0)<|.k<|.f<|.r) (ti m/\(m.kind !=5)=O/\Q (di 0)) ?_
 grind
noncomputable abbrev Amx:=Tryz.f114
theorem Z3(m:cz)(hm:BH m):F0 114 [Ad m] (.tup [dT (Av m),di 0]):=by
 have h:=Wl m hm
 have h2:=AiF m hm.kind ⟨hm.age.1,by have:=hm.age.2;omega⟩
 generalize Av m=t at*
 refine sv Amx 13 [1] (.c (di 0)<|.k<|.c (dT t)<|.r) (ti m/\F0 59 [Ad m] (dT t)/\bk [bt (ab [vi (cr.kd t),vi (cr.sz t),ai (U vi (cr.rk t)),ai (U eT (cr.ps t))]),di 0]=bk [dT t,di 0]) ?_
 grind
theorem AiJ(m:cz)(ha:0<=m.age/\m.age<=1000)(ty:D)(hty:D.pls (Az ty)=J)(s:Int)(ps:List (Int×Int))(hn:I ps<=1000)(hp:∀p∈ps,0<=p.2/\p.2<m.age+2){d:D}{σ':St}
  (fin:Rn PP F9 0 d σ' ([kl E1 [1,1,1,1,1,0,1,0,0],.blk 0,kc E1 [1,1,1,1,1,1]]++[]) (cy 76 [(2,.v (.ref (A0 m))),(4,.ptr 0 0),(7,.ptr 1 0),(9,.ptr 2 0),(10,di (I ps:Nat))]) (j6 ty s (I ps) (fi (gI (I ps) (I ps)) (I ps)) (dj ((fm m ps).map pV)))) (k:Nat):∀i:Nat,I ps-i=k->i<=I ps->
  Rn PP F9 0 d σ' ([kl E1 [1,1,1,1,1,0,1,0,0],.blk 0,kc E1 [1,1,1,1,1,1]]++[]) (cy 76 [(2,.v (.ref (A0 m))),(4,.ptr 0 0),(7,.ptr 1 0),(9,.ptr 2 0),(10,di (i:Nat))]) (j6 ty s (I ps) (fi (gI (I ps) i) (I ps)) (dj ((ps.drop i).map pV)++dj ((fm m (ps.take i)).map pV))):=by
 induction k with
 |zero=>
  intro i hk hi
  have e:i=I ps:=by omega
  subst e
  rw[List.drop_length,take_length]
  exact fin
 |succ k ih=>
  intro i hk hi
  obtain⟨p,hx⟩:=yk (show i<I ps by omega)
  have hd:ps.drop i=p::ps.drop (i+1):=by grind[List.drop_eq_getElem_cons]
  have ht:fm m (ps.take (i+1))=fm m (ps.take i)++[(p.1,EB m p.2)]:=by grind[fm]
  have hih:=ih (i+1) (by omega) (by omega)
  have eQ:dj ((ps.drop (i+1)).map pV)++dj ((fm m (ps.take (i+1))).map pV)=(dj ((ps.drop (i+1)).map pV)++dj ((fm m (ps.take i)).map pV))++[G (vd (p.1,EB m p.2))]:=by
   rw[ht,IZ,show ∀a b:List b9,dj (a++b)=dj a++dj b from fun a b=>by simp[dj], ←IQ];rfl
  rw[eQ] at hih
  rw[hd]
  refine AiI m ha ty hty s (I ps) i (by omega) hn p (hp p (HO hx)) (dj ((ps.drop (i+1)).map pV)++dj ((fm m (ps.take i)).map pV)) (by simp[dj,fm];omega) (fun j cs hj=>?_) hih
  rw[show dj ((ps.drop (i+1)).map pV)++dj ((fm m (ps.take i)).map pV)=dj ((ps.drop (i+1)).map pV++(fm m (ps.take i)).map pV) by simp[dj]] at hj
  obtain⟨y,_,rfl⟩:=Me hj
  exact Dk y
noncomputable abbrev se:List KI:=[kl E1 [1,1,1,1,1,0,1,0,0],.blk 0,kc E1 [1,1,1,1,1,1]]
theorem Alu(m:cz)(t:cr)(s:Int)(T:List b9)(hT:∀x∈T,wu x)(w:b9)(hs:F0 116 [dT t,dV (.mk 0 [lf s,.mk 0 T])] (.tup [dV w,di 0])):
  Rn PP F9 0 (.tup [dV w,di 0]) ba (se++[]) (cy 76 [(2,.v (.ref (A0 m))),(4,.ptr 0 0),(7,.ptr 1 0),(9,.ptr 2 0),(10,di (I T:Nat))]) (j6 (dT t) s (I T) (fi (gI (I T) (I T)) (I T)) (dj T)):=by
 obtain⟨Z,hcv⟩:=Aj6 (dT t) s T (fun x hx=>(hT x hx).1) (fun x hx=>(hT x hx).2) (cy 76 [(2,.v (.ref (A0 m))),(4,.ptr 0 0),(7,.ptr 1 0),(9,.ptr 2 0),(10,di (I T:Nat))])
 refine Mp hcv ?_
 have hgo:Rn PP F9 0 (.tup [dV w,di 0]) ba (se++[]) (cy 76 [(2,.v (.ref (A0 m))),(4,.ptr 0 0),(7,.ptr 1 0),(9,.ptr 2 0),(10,di (I T:Nat))]) ⟨[G [di 0,.v .nils],G (Az (dT t)),G [di 0,cq [lf s,.mk 0 T]]],[]⟩:=by
  exact lv 76 [2,3] (.x (Ac (.mk 0 T))<|.f<|.c (.tup [dV w,di 0])<|.r) (iz 0<=1/\G (eV (b9.mk 0 T))=G (Ac (b9.mk 0 T))/\Y ((I T:Int)<(I (U eV (b9.az (b9.mk 0 T))):Int))=O/\_/\bk [bt (tv w.n w.az),di 0]=bk [dV w,di 0]) ⟨by decide,Ih G (AH _),HM (by grind[b9.az]),hs,rfl⟩
 refine C3 (H':=[G [di 0,.v .nils],G (Az (dT t)),G [di 0,cq [lf s,.mk 0 T]]]) (e':=cy 76 [(2,.v (.ref (A0 m))),(4,.ptr 0 0),(7,.ptr 1 0),(9,.ptr 2 0),(10,di (I T:Nat))]) (m:=0) (fun _ _ h=>h.2) id (Iu _) (fun i _=>rfl) (fun i j _ _ h=>h) (fun i cs hi=>?_) (by rfl) (by rfl) hgo
 match i,hi with
 |0,hi=>simp at hi;subst hi;exact⟨rfl,by rfl⟩
 |1,hi=>
  have hp:D.pls (Az (dT t))=J:=rfl
  grind[A7,AO]
 |2,hi=>
  have hi:G (G [di 0,cq [lf s,.mk 0 T]])=G (G cs):=hi
  simp only[Ir] at hi
  subst hi
  exact⟨rfl,rfl⟩
 |i+3,hi=>grind
theorem WP(m:cz)(hm:BH m)(s:Int)(ps:List (Int×Int))(hw:qn m s ps)(hne:ps≠ [])(hv:Ah (Av m) (d5 s ps)=J)(hv2:Ah (Av m) (d5 s (BL (fm m ps)))=J):F0 112 [Ad m,dV (d5 s ps)] (.tup [dV (d5 s (BL (fm m ps))),di 0]):=by
 have hlen:=hw.len
 have ha:0<=m.age/\m.age<=1000:=⟨hm.age.1,by have:=hm.age.2;omega⟩
 have h1:=KM m hm
 have h2:=Ht m hm (d5 s ps)
 rw[hv] at h2
 have h3:=Z3 m hm
 have hol:I (fm m ps)=I ps:=by simp[fm]
 have h4:=SN m hm.n s (fm m ps) (by omega) hv2
 have hcp:=ApB (lf s) (.mk 0 (ps.map pV)) rfl rfl (by grind[N4]) (fun y hy=>by
  obtain⟨p,_,rfl⟩:=I2.1 hy
  exact⟨rfl,rfl⟩) (by simpa[b9.az] using hne) (d5 s ps) rfl rfl
 have hkl:(b9.mk 0 (ps.map pV)).az.length=I ps:=by show(ps.map pV).length=_;simp
 rw[hkl] at hcp
 have hend:=Alu m (Av m) s ((fm m ps).map pV) (fun x hx=>by
  obtain⟨p,_,rfl⟩:=I2.1 hx
  exact⟨rfl,rfl⟩) _ h4
 rw[HH,hol] at hend
 have hlp:=AiJ m ha (dT (Av m)) rfl s ps (by omega) (fun p hp=>(hw.tok p hp).2) hend _ 0 rfl (Iu _)
 rw[Jt,show fm m (ps.take 0)=[] by rfl,show dj (([]:List (Int×Int)).map pV)=[] from rfl,I8 (dj _)] at hlp
 obtain⟨n,hn⟩:∃n,I ps=n:=⟨_,rfl⟩
 have hO:I (dj (ps.map pV))=n:=by grind[Md]
 have hOget:=fun(i:Nat) (cs:List D) (h:(dj (ps.map pV))[i]?=G (G cs))=>(Me h).elim fun y hy=>(show D.pls cs=J by grind[Dk])
 have hOren:=fun ρ τ=>Vk ρ τ (ps.map pV)
 have hOok:=fun n=>P9 (n:=n) (ps.map pV)
 rw[hn] at hcp hlp
 change Aa PP _ _ _ (.dagg [di 0,.arr 0 0 2]) ⟨G (Ho (lf s) 1 n)::G (ec 2 n)::dj (ps.map pV),[]⟩ at hcp
 clear hend h4 hv hv2
 generalize d5 s (BL (fm m ps))=w at*
 generalize d5 s ps=c at*
 generalize dj (ps.map pV)=Q at*
 have hty:D.pls (Az (dT (Av m)))=J:=rfl
 have hcall:∀(o:yy) (cl:Call) (fo:x8),o.op=.call cl->cl.callee=.value fo->Ai PP o [.v (.fn 83 [] []),dV c] ⟨[G [di 0,.v .nils],G (Az (dT (Av m)))],[]⟩ (.dagg [di 0,.arr 2 0 2]) ⟨G [di 0,.v .nils]::G (Az (dT (Av m)))::(G (Ho (lf s) 3 n)::G (ec 4 n)::Q),[]⟩:=fun o cl fo ho hc=>by
  have h:=B3 (σ:=⟨[G [di 0,.v .nils],G (Az (dT (Av m)))],[]⟩) ho hc (fD:=.v (.fn 83 [] [])) rfl (ds:=[dV c]) [] id hcp (.cons (.ren (dc:=dV c) rfl) .nil) .nil (by simp) rfl (by simp) (by simp) (by rfl) (by
   grind[cm,Lf,D.okNs,D.okN])
  have e1:CO (ez 2 []) id (G (Ho (lf s) 1 n)::G (ec 2 n)::Q)=G (Ho (lf s) 3 n)::G (ec 4 n)::Q:=by
   show G (D.rens (ez 2 []) id (Ho (lf s) 1 n))::G (D.rens (ez 2 []) id (ec 2 n))::CO (ez 2 []) id Q=_
   rw[hOren,GZ 2 4 _ (fun i _=>by grind[ez])]
   rfl
  have h:Ai PP o [.v (.fn 83 [] []),dV c] ⟨[G [di 0,.v .nils],G (Az (dT (Av m)))],[]⟩ ((bi [di 0,.arr 0 0 2]).ren (ez 2 []) id) ⟨G [di 0,.v .nils]::G (Az (dT (Av m)))::CO (ez 2 []) id (G (Ho (lf s) 1 n)::G (ec 2 n)::Q),[]⟩:=h
  rw[e1] at h
  exact h
 have hgo:Rn PP F9 0 (.tup [dV w,di 0]) ba (se++[]) (cy 76 [(2,.v (.ref (A0 m))),(4,.ptr 0 0),(7,.ptr 1 0),(9,.ptr (n+4) 0),(10,di (0:Nat))]) ⟨G [di 0,.v .nils]::G (Az (dT (Av m)))::((G (Ho (lf s) 3 n)::G (ec 4 n)::Q)++[G [di 0,.arr 2 0 2]]),[]⟩:=by
  have hH:(j6 (dT (Av m)) s n (fi (gI n 0) n) Q).H.length=n+5:=by grind
  refine C3 (H':=(j6 (dT (Av m)) s n (fi (gI n 0) n) Q).H) (e':=cy 76 [(2,.v (.ref (A0 m))),(4,.ptr 0 0),(7,.ptr 1 0),(9,.ptr 2 0),(10,di (0:Nat))]) (m:=0) (fun _ _ h=>h.2) (fun i=>if i<2 then i else if i=2 then n+4 else i-1) (Iu _) (fun i hi=>by omega) (fun i j hi hj h=>?_) (fun i cs hi=>?_) (by rfl) (by rfl) hlp
  ·grind
  ·rw[hH]
   match i,hi with
   |0,hi=>simp at hi;subst hi;exact⟨rfl,by rfl⟩
   |1,hi=>
    grind[A7,AO]
   |2,hi=>
    simp at hi;subst hi
    refine⟨?_,by simp[D.okNs,D.okN]⟩
    grind[D.rens,D.ren]
   |3,hi=>
    have hi:G (G [di s,cq [],di 0,.arr 4 0 n])=G (G cs):=hi
    simp only[Ir] at hi
    subst hi
    exact⟨rfl,by rfl⟩
   |4,hi=>
    have hi:G (G (fi (gI n 0) n))=G (G cs):=hi
    simp only[Ir] at hi
    subst hi
    refine⟨?_,AhE n fun j hj=>Amq (by omega) hj⟩
    rw[UC (g':=fun j=>4+j) n fun j hj=>?_]
    ·rfl
    grind[gI]
   |i+5,hi=>
    grind[AO,A7]
 have hHs:I (G (Ho (lf s) 3 n)::G (ec 4 n)::Q)=n+2:=by grind
 generalize G (Ho (lf s) 3 n)::G (ec 4 n)::Q=Hs at*
 refine sv F9 76 [2,3] (.c (di 0)<|.k<|.c (db J)<|.k<|.c (.tup [dT (Av m),di 0])<|.h (.oc (.dagg [di 0,.arr 2 0 2]) ⟨G [di 0,.v .nils]::G (Az (dT (Av m)))::Hs,[]⟩)<|.h (.o (.ptr (n+4) 0) ⟨G [di 0,.v .nils]::G (Az (dT (Av m)))::(Hs++[G [di 0,.v .nils]]),[]⟩)<|.h (.o .undef ⟨G [di 0,.v .nils]::G (Az (dT (Av m)))::(Hs++[G [di 0,.arr 2 0 2]]),[]⟩)<|.l [ke 2,ke 4,ke 7,ke 9,ch 10 (di (0:Nat))]) (_/\_/\_/\_/\Ai PP (Oper.mk (G 9) (Op.alloc 31) 0 "ref.go:83" #[] none) [] (bh (G [di 0,dn]::G [di (cr.kd (Av m)),di (cr.sz (Av m)),bt (cw (cr.rk (Av m))),bt (ai [eT (cr.lab (I m.aw:Int)),eT (cr.bag (cr.prod [cr.lab (I m.ay:Int),cr.lab (m.age+2)]))])]::Hs) []) (bq (n+4) 0) (bh (G [di 0,dn]::G [di (cr.kd (Av m)),di (cr.sz (Av m)),bt (cw (cr.rk (Av m))),bt (ai [eT (cr.lab (I m.aw:Int)),eT (cr.bag (cr.prod [cr.lab (I m.ay:Int),cr.lab (m.age+2)]))])]::(Hs++[G [di 0,dn]])) [])/\Ai PP (Oper.mk none (Op.store 31 (Operand.tmp 9) (Operand.tmp 30)) 0 "ref.go:83" #[Edge.mk 2 Ground.data,Edge.mk 1 Ground.data,Edge.mk 1 Ground.chain,Edge.mk 0 Ground.phase,Edge.mk 1 Ground.phase,Edge.mk 2 Ground.phase] none) [bq (n+4) 0,bi n5] (bh (G [di 0,dn]::G [di (cr.kd (Av m)),di (cr.sz (Av m)),bt (cw (cr.rk (Av m))),bt (ai [eT (cr.lab (I m.aw:Int)),eT (cr.bag (cr.prod [cr.lab (I m.ay:Int),cr.lab (m.age+2)]))])]::(Hs++[G [di 0,dn]])) []) bj (bh (G [di 0,dn]::G [di (cr.kd (Av m)),di (cr.sz (Av m)),bt (cw (cr.rk (Av m))),bt (ai [eT (cr.lab (I m.aw:Int)),eT (cr.bag (cr.prod [cr.lab (I m.ay:Int),cr.lab (m.age+2)]))])]::(Hs++[G n5])) [])/\di 0=di (↑0:Int)/\_) ⟨h1,h2,h3,hcall,?_,?_,rfl,iK hgo⟩
 ·have hN:n+4=I (G [di 0,.v .nils]::G (Az (dT (Av m)))::Hs):=by grind
  rw[hN]
  exact MB rfl (xs:=[vi 0,.nils]) rfl
 ·have h:=LD (P:=PP) (o:=Oper.mk none (Op.store 31 (Operand.tmp 9) (Operand.tmp 30)) 0 "ref.go:83" #[Edge.mk 2 Ground.data,Edge.mk 1 Ground.data,Edge.mk 1 Ground.chain,Edge.mk 0 Ground.phase,Edge.mk 1 Ground.phase,Edge.mk 2 Ground.phase] none) (σ:=⟨G [di 0,.v .nils]::G (Az (dT (Av m)))::(Hs++[G [di 0,.v .nils]]),[]⟩) (d:=.dagg [di 0,.arr 2 0 2]) rfl rfl (n:=2) (b:=true) rfl rfl (q:=n+4) (off:=0) (cs:=[di 0,.v .nils]) (by
   grind) (by decide)
  have e:(G [di 0,.v .nils]::G (Az (dT (Av m)))::(Hs++[G [di 0,.v .nils]])).set (n+4) (G [di 0,.arr 2 0 2])=G [di 0,.v .nils]::G (Az (dT (Av m)))::(Hs++[G [di 0,.arr 2 0 2]]):=by
   simp_all
  have h:Ai PP _ [.ptr (n+4) 0,.dagg [di 0,.arr 2 0 2]] ⟨G [di 0,.v .nils]::G (Az (dT (Av m)))::(Hs++[G [di 0,.v .nils]]),[]⟩ .undef ⟨(G [di 0,.v .nils]::G (Az (dT (Av m)))::(Hs++[G [di 0,.v .nils]])).set (n+4) (G [di 0,.arr 2 0 2]),[]⟩:=h
  rw[e] at h
  exact h
theorem WO(m:cz)(hm:BH m)(s:Int)(hv:Ah (Av m) (d5 s [])=J):F0 112 [Ad m,dV (d5 s [])] (.tup [dV (d5 s []),di 0]):=by
 have h1:=KM m hm
 have h2:=Ht m hm (d5 s [])
 rw[hv] at h2
 have h3:=Z3 m hm
 have h4:=SN m hm.n s [] (by decide) (by rw[show BL []=[] by simp[BL]];exact hv)
 rw[show BL []=[] by simp[BL]] at h4
 have hcp:=vr (d5 s []) (by simp[d5,b9.az]) (by grind[GY])
 have hcall:∀(o:yy) (cl:Call) (fo:x8),o.op=.call cl->cl.callee=.value fo->Ai PP o [.v (.fn 83 [] []),dV (d5 s [])] ⟨[G [di 0,.v .nils],G (Az (dT (Av m)))],[]⟩ (.dagg [di 0,.arr 2 0 2]) ⟨[G [di 0,.v .nils],G (Az (dT (Av m))),G [di s,cq [],di 0,cq []]],[]⟩:=fun o cl fo ho hc=>RO (x:=d5 s []) (H:=[G [di 0,.v .nils],G (Az (dT (Av m)))]) rfl rfl hcp ho hc
 have hgo:Rn PP F9 0 (.tup [dV (d5 s []),di 0]) ba (se++[]) (cy 76 [(2,.v (.ref (A0 m))),(4,.ptr 0 0),(7,.ptr 1 0),(9,.ptr 3 0),(10,di (0:Nat))]) ⟨[G [di 0,.v .nils],G (Az (dT (Av m))),G [di s,cq [],di 0,cq []],G [di 0,.arr 2 0 2]],[]⟩:=by
  have sz2:∀l:List b9,∀v∈l.map eV,v.size=2:=fun l v hv=>by
   grind[AH,V.size]
  have e3:Ab ([lf s,.mk 0 []].map eV)=[di s,cq [],di 0,cq []]:=by rfl
  have hcv:=fun e=>BY (σ:=⟨[G [di 0,.v .nils],G (Az (dT (Av m))),G [di s,cq [],di 0,cq []],G [di 0,.arr 2 0 2]],[]⟩) (p:=3) (q:=2) (i:=1) (sz:=2) (cs:=[di 0,.arr 2 0 2]) (xs:=[lf s,.mk 0 []].map eV) (by decide) rfl (by rfl) (by decide) rfl (sz2 _) e
  refine Mp (hcv _) ?_
  show Rn PP F9 0 (.tup [dV (d5 s []),di 0]) ba (se++[]) (cy 76 [(2,.v (.ref (A0 m))),(4,.ptr 0 0),(7,.ptr 1 0),(9,.ptr 3 0),(10,di (0:Nat))]) ⟨[G [di 0,.v .nils],G (Az (dT (Av m))),none,G [di 0,cq [lf s,.mk 0 []]]],[]⟩
  clear hcv hcall hcp
  generalize Av m=t at*
  exact lv 76 [2,3] (.x (Ac (.mk 0 []))<|.k<|.c (.tup [dV (d5 s []),di 0])<|.r) (iz 0<=1/\G (eV (b9.mk 0 []))=G (Ac (b9.mk 0 []))/\_/\Q (bk [dV (d5 s []),di 0])) ⟨by decide,Ih G (AH _),h4,rfl⟩
 generalize Av m=t at*
 exact sv F9 76 [2,3] (.c (di 0)<|.k<|.c (db J)<|.k<|.c (.tup [dT t,di 0])<|.h (.oc (.dagg [di 0,.arr 2 0 2]) ⟨[G [di 0,.v .nils],G (Az (dT t)),G [di s,cq [],di 0,cq []]],[]⟩)<|.l [ke 2,ke 4,ke 7,ke 9,ch 10 (di (0:Nat))]) (_/\_/\_/\_/\Q (di 0)/\_) ⟨h1,h2,h3,hcall,rfl,iK hgo⟩
theorem WN(m:cz)(hm:BH m)(c:b9)(hv:Ah (Av m) c=J):F0 112 [Ad m,dV c] (.tup [dV (nu m c),di 0]):=by
 obtain⟨s,ps,rfl,hw⟩:=Pi hv
 obtain⟨e1,hw2⟩:=ZE ⟨hm.age.1,by have:=hm.age.2;omega⟩ hw
 rw[e1]
 by_cases hne:ps=[]
 ·subst hne
  rw[show BL (fm m [])=[] by simp[BL,fm]]
  grind[WO]
 grind[WP,UA]
noncomputable abbrev EI:=Tryz.f118
noncomputable def F6:=yl EI
abbrev vP(l:List (Int×Int)):V:=dt (l.map pV)
abbrev kr(L:List (List (Int×Int))):V:=.list (L.map vP)
theorem ZC(ys:List V):F0 118 [.v (.list ys),.v (AD [])] (.v (.list [.list ys])):=by
 refine sv EI 73 [] (.k<|.r) (Q (bt (ai [ai ys]))) ?_
 rfl
abbrev SL(xs:List V):St:=⟨[],[(1,1,xs)]⟩
noncomputable abbrev sf:List KI:=[kl F6 [1,1,1,0,1,0,0],.blk 0,kc F6 [1,1,1,1]]
theorem SO(l:List (Int×Int)):∀x∈ (l.map pV).map eV,V.size x=2:=by grind[AH,V.size]
noncomputable abbrev gp:=fun a₀=>(U eV (U pV a₀))
theorem Aeh(tk:Tk)(l:List (Int×Int))(hl:I l<=100)(k:Nat)(p:Int×Int)(hp:l[k]?=G p)(xs:List V)(hxs:I xs<=100)(hm:jq tk l k=J)(d:D)
  (next:Rn PP EI 0 d ba (sf++[]) (cy 73 [(0,.v (vP l)),(1,.v (AD [tk])),(5,.acc 1 (xs++[vP (l.take k++l.drop (k+1))])),(6,di (k+1:Nat))]) (SL (xs++[vP (l.take k++l.drop (k+1))]))):
  Rn PP EI 0 d ba (sf++[]) (cy 73 [(0,.v (vP l)),(1,.v (AD [tk])),(5,.acc 1 xs),(6,di k)]) (SL xs):=by
 have hk:=(HL.1 hp).1
 have hlen:I ((l.map pV).map eV)=I l:=by simp
 have hpx:((l.map pV).map eV)[Z (k:Int)]?=G (Ac (pV p)):=Ap (by rw[I1,hp];rfl)
 have hsz:=SO l
 have hcut:W 0 (take (Z (k:Int)) ((l.map pV).map eV))++W (Z ((k+1:Nat):Int)) (take (I ((l.map pV).map eV)) ((l.map pV).map eV))=((l.take k++l.drop (k+1)).map pV).map eV:=by
  rw[Jt,take_length,IR,IR,IZ,IZ,map_take,map_take,map_drop,map_drop]
 have hc:=ZC (((l.take k++l.drop (k+1)).map pV).map eV)
 have hw1:yu .i64 ((k:Int)+1)=((k+1:Nat):Int):=by rw[Ak];omega
 unfold jq at hm
 rw[hp] at hm
 simp only[HJ] at hm
 obtain⟨m1,m2,m3⟩:=hm
 generalize hR:vP (l.take k++l.drop (k+1))=R at next
 refine lv 73 [] (.t<|.x (Ac (pV p))<|.x (Ac (lf p.2))<|.x (Ac (pV p))<|.x (Ac (lf p.1))<|.x (dh tk)<|.t<|.x (dh tk)<|.t<|.x (dh tk)<|.t<|.a 2<|.w<|.w<|.c (.v (.list [R]))<|.w<|.ls (po k) (SL (xs++[R]))) (Y ((k:Int)<(I (gp l):Int))=J/\0<=(k:Int)/\(gp l)[Z (k:Int)]?=G (Ac (pV p))/\iz 0<=1/\G (eV (ey p.snd))=G (Ac (lf p.snd))/\0<=(k:Int)/\(gp l)[Z (k:Int)]?=G (Ac (pV p))/\iz 0<=0/\G (eV (ey p.fst))=G (Ac (lf p.fst))/\iz 0<=0/\Q (G (dh tk))/\(b9.n (lf p.fst)==tk.place)=J/\iz 0<=0/\Q (G (dh tk))/\Y (b9.n (lf p.snd)>=tk.low)=J/\iz 0<=0/\Q (G (dh tk))/\Y (b9.n (lf p.snd)<=tk.high)=J/\(∀(x:V),x∈U eV (U pV l)->V.size x=2)/\0<=(fun x=>x.snd) (fz k)/\(fun x=>x.snd) (fz k)<=(I (gp l):Int)/\Ao (I (W 0 (take (Z ((fun x=>x.snd) (fz k))) (gp l)))) 32/\(∀(y:V),y∈W 0 (take (Z ((fun x=>x.snd) (fz k))) (gp l))->V.size y=2)/\(∀(x:V),x∈U eV (U pV l)->V.size x=2)/\0<=(fun x=>x.snd) (yt,yu yt ((k:Int)+1))/\(fun x=>x.snd) (yt,yu yt ((k:Int)+1))<=(I (gp l):Int)/\Q (W 0 (take (Z ((fun x=>x.snd) (fz k))) (gp l)))/\Ao (I (W 0 (take (Z ((fun x=>x.snd) (fz k))) (gp l)))+I (W (Z ((fun x=>x.snd) (yt,yu yt ((k:Int)+1)))) (take (I (gp l)) (gp l)))) 32/\(∀(y:V),y∈W (Z ((fun x=>x.snd) (yt,yu yt ((k:Int)+1)))) (take (I (gp l)) (gp l))->V.size y=2)/\(∀(x:V),x∈ [dh tk]->V.size x=3)/\0<=(1:Int)/\(1:Int)<=(I (U dh [tk]):Int)/\F0 118 [bt (ai (W 0 (take (Z ((fun x=>x.snd) (fz k))) (gp l))++W (Z ((fun x=>x.snd) (yt,yu yt ((k:Int)+1)))) (take (I (gp l)) (gp l)))),bt (ai [])] (bt (ai [R]))/\Q xs/\Ao (I xs+I (R::nV)) 24/\(∀(y:V),y∈ [R]->V.size y=1)/\di (yu yt ((k:Int)+1))=di (↑(k+1):Int)/\Q [(1,1,xs++R::nV)]/\I0 EI 0 d ba [kl F6 gb,bf 0,kc F6 [1,1,1,1]] (cy 73 [(0,bt (vP l)),(1,bt (AD [tk])),(5,br 1 (xs++[R])),(6,di (↑(k+1):Int))]) (SL (xs++[R]))) ?_
 rw[hw1]
 have l1:I (W 0 (take (Z (k:Int)) ((l.map pV).map eV)))<=100:=by simp only[IP,Ip,hlen];omega
 have l2:I (W (Z ((k+1:Nat):Int)) (take (I ((l.map pV).map eV)) ((l.map pV).map eV)))<=100:=by simp only[IP,Ip,hlen];omega
 refine⟨HK (by rw[hlen];omega),by omega,hpx,by decide,Ih G (AH _),by omega,hpx,by decide,Ih G (AH _),by decide,rfl,m1,by decide,rfl,m2,by decide,rfl,m3,hsz,by show(0:Int)<=(k:Int);omega,by show(k:Int)<=_;rw[hlen];omega,⟨IE (Nat.mul_le_mul_right 32 l1) (by decide),IE l1 (by decide)⟩,fun y hy=>hsz y (Ji (List.mem_of_mem_drop hy)),hsz,by show(0:Int)<=((k+1:Nat):Int);omega,by show((k+1:Nat):Int)<=_;rw[hlen];omega,rfl,⟨IE (Nat.mul_le_mul_right 32 (Nat.add_le_add l1 l2)) (by decide),IE (Nat.add_le_add l1 l2) (by decide)⟩,fun y hy=>hsz y (Ji (List.mem_of_mem_drop hy)),fun x hx=>by rw[HY.1 hx];rfl,by decide,Il _,?_,rfl,⟨by show(_+1)*24<=_;omega,by show _+1<=_;omega⟩,fun y hy=>by rw[HY.1 hy, ←hR];rfl,rfl,rfl,⟨next⟩⟩
 grind
theorem Aej(tk:Tk)(l:List (Int×Int))(hl:I l<=100)(k:Nat)(p:Int×Int)(hp:l[k]?=G p)(xs:List V)(hm:jq tk l k=O)(d:D)
  (next:Rn PP EI 0 d ba (sf++[]) (cy 73 [(0,.v (vP l)),(1,.v (AD [tk])),(5,.acc 1 xs),(6,di (k+1:Nat))]) (SL xs)):
  Rn PP EI 0 d ba (sf++[]) (cy 73 [(0,.v (vP l)),(1,.v (AD [tk])),(5,.acc 1 xs),(6,di k)]) (SL xs):=by
 have hk:=(HL.1 hp).1
 have hlen:I ((l.map pV).map eV)=I l:=by simp
 have hpx:((l.map pV).map eV)[Z (k:Int)]?=G (Ac (pV p)):=Ap (by rw[I1,hp];rfl)
 unfold jq at hm
 rw[hp] at hm
 simp only at hm
 by_cases m1:(p.1==tk.place)=J
 ·rw[m1,Is] at hm
  by_cases m2:p.2>=tk.low
  ·rw[HK m2,Is] at hm
   exact lv 73 [] (.t<|.x (Ac (pV p))<|.x (Ac (lf p.2))<|.x (Ac (pV p))<|.x (Ac (lf p.1))<|.x (dh tk)<|.t<|.x (dh tk)<|.t<|.x (dh tk)<|.f<|.ls (po k) (SL xs)) (Y ((k:Int)<(I (gp l):Int))=J/\0<=(k:Int)/\_/\iz 0<=1/\G (eV (ey p.snd))=G (Ac (lf p.snd))/\0<=(k:Int)/\_/\iz 0<=0/\G (eV (ey p.fst))=G (Ac (lf p.fst))/\iz 0<=0/\Q (G (dh tk))/\_/\iz 0<=0/\Q (G (dh tk))/\Y (b9.n (lf p.snd)>=tk.low)=J/\iz 0<=0/\Q (G (dh tk))/\_/\di (yu yt ((k:Int)+1))=di (↑(k+1):Int)/\Q [(1,1,xs)]/\_) ⟨HK (by rw[hlen];omega),by omega,hpx,by decide,Ih G (AH _),by omega,hpx,by decide,Ih G (AH _),by decide,rfl,m1,by decide,rfl,HK m2,by decide,rfl,hm,Ae,rfl,iK next⟩
  ·exact lv 73 [] (.t<|.x (Ac (pV p))<|.x (Ac (lf p.2))<|.x (Ac (pV p))<|.x (Ac (lf p.1))<|.x (dh tk)<|.t<|.x (dh tk)<|.f<|.k<|.ls (po k) (SL xs)) (Y ((k:Int)<(I (gp l):Int))=J/\0<=(k:Int)/\_/\iz 0<=1/\G (eV (ey p.snd))=G (Ac (lf p.snd))/\0<=(k:Int)/\_/\iz 0<=0/\G (eV (ey p.fst))=G (Ac (lf p.fst))/\iz 0<=0/\Q (G (dh tk))/\_/\iz 0<=0/\Q (G (dh tk))/\Y (b9.n (lf p.snd)>=tk.low)=O/\di (yu yt ((k:Int)+1))=di (↑(k+1):Int)/\Q [(1,1,xs)]/\_) ⟨HK (by rw[hlen];omega),by omega,hpx,by decide,Ih G (AH _),by omega,hpx,by decide,Ih G (AH _),by decide,rfl,m1,by decide,rfl,HM m2,Ae,rfl,iK next⟩
 ·exact lv 73 [] (.t<|.x (Ac (pV p))<|.x (Ac (lf p.2))<|.x (Ac (pV p))<|.x (Ac (lf p.1))<|.x (dh tk)<|.f<|.k<|.k<|.ls (po k) (SL xs)) (Y ((k:Int)<(I (gp l):Int))=J/\0<=(k:Int)/\_/\iz 0<=1/\G (eV (ey p.snd))=G (Ac (lf p.snd))/\0<=(k:Int)/\_/\iz 0<=0/\G (eV (ey p.fst))=G (Ac (lf p.fst))/\iz 0<=0/\Q (G (dh tk))/\(b9.n (lf p.fst)==tk.place)=O/\di (yu yt ((k:Int)+1))=di (↑(k+1):Int)/\Q [(1,1,xs)]/\_) ⟨HK (by rw[hlen];omega),by omega,hpx,by decide,Ih G (AH _),by omega,hpx,by decide,Ih G (AH _),by decide,rfl,HU m1,Ae,rfl,iK next⟩
theorem AgR{tk:Tk}{l:List (Int×Int)}{k:Nat}(h:jq tk l k=J):FL tk l (k+1)=FL tk l k++[l.take k++l.drop (k+1)]:=by
 simp[FL,range_succ,List.filter_append,h]
theorem AjQ{tk:Tk}{l:List (Int×Int)}{k:Nat}(h:jq tk l k=O):FL tk l (k+1)=FL tk l k:=by
 simp[FL,range_succ,List.filter_append,h]
theorem AgS(tk:Tk)(l:List (Int×Int))(k:Nat):I (FL tk l k)<=k:=by
 rw[FL,HH]
 exact IE (List.length_filter_le _ _) (by rw[List.length_range];exact HP _)
theorem Aek(tk:Tk)(l:List (Int×Int))(hl:I l<=100)(n:Nat):∀k:Nat,I l-k=n->k<=I l->
  Rn PP EI 0 (.v (kr (FL tk l (I l)))) ba (sf++[]) (cy 73 [(0,.v (vP l)),(1,.v (AD [tk])),(5,.acc 1 ((FL tk l k).map vP)),(6,di k)]) (SL ((FL tk l k).map vP)):=by
 have hlen:I ((l.map pV).map eV)=I l:=by simp
 induction n with
 |zero=>
  intro k hn hk
  have e:k=I l:=by omega
  subst e
  obtain⟨xs,hxs⟩:∃xs,xs=(FL tk l (I l)).map vP:=⟨_,rfl⟩
  rw[←hxs]
  exact lv 73 [] (.f<|.r) (Y ((I l:Int)<(I (gp l):Int))=O/\bt (ai xs)=bt (kr (FL tk l (I l)))) ⟨HM (by rw[hlen];omega),by rw[hxs]⟩
 |succ n ih=>
  intro k hn hk
  obtain⟨p,hp⟩:=yk (show k<I l by omega)
  have hih:=ih (k+1) (by omega) (by omega)
  have hcl:=AgS tk l k
  cases hm:jq tk l k with
  |true=>
   rw[AgR hm,IZ] at hih
   exact Aeh tk l hl k p hp _ (by rw[HH];omega) hm _ hih
  |false=>
   rw[AjQ hm] at hih
   exact Aej tk l hl k p hp _ hm _ hih
theorem AiH(tk:Tk)(l:List (Int×Int))(hl:I l<=100):F0 118 [.v (vP l),.v (AD [tk])] (.v (kr (FL tk l (I l)))):=by
 have h:=Aek tk l hl _ 0 rfl (Iu _)
 rw[show FL tk l 0=[] from rfl] at h
 generalize FL tk l (I l)=out at h⊢
 exact sv EI 73 [] (.k<|.h (.q 4 0)<|.h (.nw 5 1 1)<|.ls [ke 0,ke 1,ke 5,ch 6 (di (0:Nat))] (SL [])) (Q (di 0)/\Q [(1,1,nV)]/\_) ⟨rfl,rfl,iK h⟩
theorem Aei(ts:List Tk)(ht:ts=[]∨∃tk,ts=[tk])(l:List (Int×Int))(hl:I l<=100):F0 118 [.v (vP l),.v (AD ts)] (.v (kr (SI ts l))):=by
 rcases ht with rfl|⟨tk,rfl⟩
 ·exact ZC _
 ·have e:SI [tk] l=FL tk l (I l):=by
   show(FL tk l (I l)).flatMap (fun x=>[x])=_
   simp
  rw[e]
  exact AiH tk l hl
noncomputable abbrev Amy:=Tryz.f119
theorem NN(p a:Int):F0 119 [di p,di a] (dV (pV (p,a))):=by
 refine sv Amy 11 [] (.r) (bt (ab [vi 0,ai (qe p a)])=dV (pV (p,a))) ?_
 rfl
noncomputable abbrev Lz:=Tryz.f62
noncomputable def Sd:=yl Lz
abbrev YJ(r:cf)(t:cr):St:=⟨[G (rC r),G (Az (dT t))],[]⟩
noncomputable abbrev qt:List KI:=[kl Sd [1,1,1,1,1,1,1,1,1,0,1,0,0],.blk 0,kc Sd [1,1,1,1,1,1,1,1,1,1]]
theorem L7(s:Int)(ps:List (Int×Int)):dV (d5 s ps)=.v (.agg [vi 0,.list [.agg [vi s,.list []],.agg [vi 0,.list ((ps.map pV).map eV)]]]):=by
 show bt (.agg [vi 0,.list [eV (lf s),eV (.mk 0 (ps.map pV))]])=_
 rw[AH,AH];rfl
theorem Akh(m:cz)(r:cf)(hmk:r.aq=[]∨∃p,r.aq=[p])(t:cr)(L:List (List (Int×Int)))(hL:I L<=1000)(i:Nat)(q:List (Int×Int))(hq:L[i]?=G q)(hql:I q<=100)(os:List b9)(w:b9)(hs:F0 116 [dT t,dV (d5 r.to (q++ft r.aq))] (.tup [dV w,di 0]))(hp:F0 45 [cq os,dV w] (cq (BT os w)))(d:D)
  (next:Rn PP Lz 0 d ba (qt++[]) (cy 108 [(3,.v (.ref (A0 m))),(9,.ptr 0 0),(10,.ptr 1 0),(12,.v (kr L)),(13,cq (BT os w)),(14,di (i+1:Nat))]) (YJ r t)):
  Rn PP Lz 0 d ba (qt++[]) (cy 108 [(3,.v (.ref (A0 m))),(9,.ptr 0 0),(10,.ptr 1 0),(12,.v (kr L)),(13,cq os),(14,di i)]) (YJ r t):=by
 have hi:=(HL.1 hq).1
 have hlen:I (L.map vP)=I L:=by simp
 have hqx:(L.map vP)[Z (i:Int)]?=G (vP q):=by grind
 have hsz:=SO q
 have hqe:I ((q.map pV).map eV)=I q:=by simp
 have ok:Ao (I ((q.map pV).map eV)) 32:=⟨by omega,by omega⟩
 have ok1:Ao (I ((q.map pV).map eV)+1) 32:=⟨by omega,by omega⟩
 rcases hmk with hm|⟨p,hm⟩
 ·rw[hm,show q++ft []=q by simp,L7] at hs
  exact lv 108 [3,5] (.t<|.x (vP q)<|.a 1<|.w<|.n<|.f<|.h (.q 22 0)<|.h (.un 15)<|.c (.tup [dV w,di 0])<|.k<|.c (cq (BT os w))<|.ls [ke 3,ke 9,ke 10,ke 12,ch 13 (cq (BT os w)),ch 14 (di (i+1:Nat))] (YJ r t)) (Y ((i:Int)<(I (U vP L):Int))=J/\0<=(i:Int)/\_/\_/\_/\Y (0<(I (cc r.aq):Int))=O/\_/\_/\Q (cq (BT os w))/\di (yu yt ((i:Int)+1))=di (↑(i+1):Int)/\Q (YJ r t).H/\_) ⟨yr,by omega,hqx,ok,hsz,HM (by grind),hs,hp,rfl,Ae,rfl,iK next⟩
 ·have hs2:F0 116 [dT t,.v (.agg [vi 0,.list [.agg [vi r.to,.list []],.agg [vi 0,.list ((q.map pV).map eV++[Ac (pV (p,0))])]]])] (.tup [dV w,di 0]):=by
   rw[hm,L7] at hs
   have e:(q.map pV).map eV++[Ac (pV (p,0))]=((q++ft [p]).map pV).map eV:=by rw[IZ,IZ];rfl
   grind
  exact lv 108 [3,5] (.t<|.x (vP q)<|.a 1<|.w<|.n<|.t<|.x (vi p)<|.c (dV (pV (p,0)))<|.w<|.n<|.f<|.h (.q 22 0)<|.h (.un 15)<|.c (.tup [dV w,di 0])<|.k<|.c (cq (BT os w))<|.ls [ke 3,ke 9,ke 10,ke 12,ch 13 (cq (BT os w)),ch 14 (di (i+1:Nat))] (YJ r t)) (Y ((i:Int)<(I (U vP L):Int))=J/\0<=(i:Int)/\_/\_/\_/\Y (0<(I (cc r.aq):Int))=J/\iz 0<=0/\(cc r.aq)[Z 0]?=G (vi p)/\_/\Q (gp q)/\_/\(∀(y:V),y∈ [Ac (pV (p,0))]->V.size y=2)/\Y (yu yt (0+1)<(I (cc r.aq):Int))=O/\_/\_/\Q (cq (BT os w))/\di (yu yt ((i:Int)+1))=di (↑(i+1):Int)/\Q (YJ r t).H/\_) ⟨yr,by omega,hqx,ok,hsz,HK (by grind),by decide,by grind,NN p 0,rfl,ok1,fun y hy=>by rw[HY.1 hy];rfl,HM (by rw[hm];show ¬yu .i64 (0+1)<(1:Int);decide),hs2,hp,rfl,Ae,rfl,iK next⟩
theorem Akj(m:cz)(r:cf)(hmk:r.aq=[]∨∃p,r.aq=[p])(t:cr)(L:List (List (Int×Int)))(_:I L<=1000)(i:Nat)(q:List (Int×Int))(hq:L[i]?=G q)(hql:I q<=100)(os:List b9)(hs:F0 116 [dT t,dV (d5 r.to (q++ft r.aq))] (.tup [dV (.mk 0 []),di 5])):
  Rn PP Lz 0 (.tup [cq [],di 1]) ba (qt++[]) (cy 108 [(3,.v (.ref (A0 m))),(9,.ptr 0 0),(10,.ptr 1 0),(12,.v (kr L)),(13,cq os),(14,di i)]) (YJ r t):=by
 have hi:=(HL.1 hq).1
 have hlen:I (L.map vP)=I L:=by simp
 have hqx:(L.map vP)[Z (i:Int)]?=G (vP q):=by grind
 have hsz:=SO q
 have hqe:I ((q.map pV).map eV)=I q:=by simp
 have ok:Ao (I ((q.map pV).map eV)) 32:=⟨by omega,by omega⟩
 have ok1:Ao (I ((q.map pV).map eV)+1) 32:=⟨by omega,by omega⟩
 rcases hmk with hm|⟨p,hm⟩
 ·rw[hm,show q++ft []=q by simp,L7] at hs
  refine lv 108 [3,5] (.t<|.x (vP q)<|.a 1<|.w<|.n<|.f<|.h (.q 22 0)<|.h (.un 15)<|.c (.tup [dV (.mk 0 []),di 5])<|.k<|.r) (Y ((i:Int)<(I (U vP L):Int))=J/\0<=(i:Int)/\(U vP L)[Z (i:Int)]?=G (vP q)/\Ao (I (gp q)) 32/\(∀(y:V),y∈U eV (U pV q)->V.size y=2)/\Y (0<(I (cc r.aq):Int))=O/\F0 116 [bt (ab [vi (cr.kd t),vi (cr.sz t),cw (cr.rk t),ai (U eT (cr.ps t))]),bt (ab [vi 0,ai [ab [vi r.to,ai []],ab [vi 0,ai (gp q)]]])] (bk [dV (b9.mk 0 []),di 5])/\bk [bt (ai []),di 1]=bk [cq [],di 1]) ?_
  grind
 ·have hs2:F0 116 [dT t,.v (.agg [vi 0,.list [.agg [vi r.to,.list []],.agg [vi 0,.list ((q.map pV).map eV++[Ac (pV (p,0))])]]])] (.tup [dV (.mk 0 []),di 5]):=by
   rw[hm,L7] at hs
   have e:(q.map pV).map eV++[Ac (pV (p,0))]=((q++ft [p]).map pV).map eV:=by rw[IZ,IZ];rfl
   grind
  exact lv 108 [3,5] (.t<|.x (vP q)<|.a 1<|.w<|.n<|.t<|.x (vi p)<|.c (dV (pV (p,0)))<|.w<|.n<|.f<|.h (.q 22 0)<|.h (.un 15)<|.c (.tup [dV (.mk 0 []),di 5])<|.k<|.r) (Y ((i:Int)<(I (U vP L):Int))=J/\0<=(i:Int)/\_/\_/\_/\Y (0<(I (cc r.aq):Int))=J/\iz 0<=0/\(cc r.aq)[Z 0]?=G (vi p)/\_/\Q (gp q)/\_/\(∀(y:V),y∈ [Ac (pV (p,0))]->V.size y=2)/\Y (yu yt (0+1)<(I (cc r.aq):Int))=O/\_/\Q (bk [cq [],di 1])) ⟨yr,by omega,hqx,ok,hsz,HK (by grind),by decide,by grind,NN p 0,rfl,ok1,fun y hy=>by rw[HY.1 hy];rfl,HM (by rw[hm];show ¬yu .i64 (0+1)<(1:Int);decide),hs2,rfl⟩
theorem AnL(m:cz)(r:cf)(t:cr)(L:List (List (Int×Int)))(os:List b9):
  Rn PP Lz 0 (.tup [cq os,di 0]) ba (qt++[]) (cy 108 [(3,.v (.ref (A0 m))),(9,.ptr 0 0),(10,.ptr 1 0),(12,.v (kr L)),(13,cq os),(14,di (I L))]) (YJ r t):=by
 refine lv 108 [3,5] (.f<|.r) (Y ((I L:Int)<(I (U vP L):Int))=O/\bk [cq os,di 0]=bk [cq os,di 0]) ?_
 grind
theorem Xh(l:List b9)(v:b9):b9.sizes (BT l v)<=b9.sizes l+v.size:=by
 have hs:∀a b:List b9,b9.sizes (a++b)=b9.sizes a+b9.sizes b:=fun a b=>by
  induction a<;>grind[b9.sizes]
 grind[b9.sizes,List.take_append_drop,BT]
theorem Ol{B:Nat}:∀(ys os:List b9),(∀y∈ys,y.size<=B)->b9.sizes (ys.foldl BT os)<=b9.sizes os+B*I ys
 |[],os,_=>by simp
 |y::ys,os,h=>by
  have h1:=Ol ys (BT os y) fun z hz=>h z (List.mem_cons_of_mem _ hz)
  grind[Xh,Nat.mul_add]
def lu(t:cr)(ys:List b9):List b9×Int:=if ys.all (Ah t)=J then(ys.foldl BT [],0) else([],1)
theorem Aki(m:cz)(hm:D1 m)(r:cf)(hmk:r.aq=[]∨∃p,r.aq=[p])(L:List (List (Int×Int)))(hL:I L<=100)(hq:∀q∈L,I q<=30)(k:Nat):∀i:Nat,I L-i=k->i<=I L->(∀q∈L.take i,Ah (Av m) (d5 r.to (BL (q++ft r.aq)))=J)->
  Rn PP Lz 0 (.tup [cq (lu (Av m) (L.map fun q=>d5 r.to (BL (q++ft r.aq)))).1,di (lu (Av m) (L.map fun q=>d5 r.to (BL (q++ft r.aq)))).2]) ba (qt++[]) (cy 108 [(3,.v (.ref (A0 m))),(9,.ptr 0 0),(10,.ptr 1 0),(12,.v (kr L)),(13,cq (((L.take i).map fun q=>d5 r.to (BL (q++ft r.aq))).foldl BT [])),(14,di i)]) (YJ r (Av m)):=by
 have hml:I (ft r.aq)<=1:=by
  grind
 have hsz:∀q:List (Int×Int),I q<=30->(d5 r.to (BL (q++ft r.aq))).size<=200:=fun q h=>by
  rw[GY,(HD _).length_eq,HW];omega
 induction k with
 |zero=>
  intro i hk hi hv
  grind[take_length,lu,AnL]
 |succ k ih=>
  intro i hk hi hv
  obtain⟨q,hx⟩:=yk (show i<I L by omega)
  have hqm:=HO hx
  have hql:=hq q hqm
  have ht:L.take (i+1)=L.take i++[q]:=by grind[List.take_add_one]
  have hal:I (q++ft r.aq)<=40:=by grind
  cases hval:Ah (Av m) (d5 r.to (BL (q++ft r.aq))) with
  |true=>
   have hih:=ih (i+1) (by omega) (by omega) (fun q' hq'=>by
    rw[ht] at hq'
    rcases I6.1 hq' with h|h
    ·exact hv q' h
    ·rw[HY.1 h];exact hval)
   rw[ht,IZ,List.foldl_append] at hih
   have hos:=Ol (B:=200) ((L.take i).map fun q=>d5 r.to (BL (q++ft r.aq))) [] (fun y hy=>by
    obtain⟨q',h,rfl⟩:=I2.1 hy
    exact hsz q' (hq q' (Ji h)))
   rw[HH,Ip] at hos
   have hos3:b9.sizes ([]:List b9)=0:=rfl
   exact Akh m r hmk (Av m) L (by omega) i q hx (by omega) _ _ (SN m hm r.to _ hal hval) (Px _ _ (by omega) (by have:=hsz q hql;omega)) _ hih
  |false=>
   rw[lu,HZ (fun h=>by
    simp_all)]
   exact Akj m r hmk (Av m) L (by omega) i q hx (by omega) _ (AeD m hm r.to _ hal hval)
theorem SH{ts:List Tk}(ht:ts=[]∨∃tk,ts=[tk])(l:List (Int×Int)):I (SI ts l)<=I l+1/\∀q∈SI ts l,I q<=I l:=by
 rcases ht with rfl|⟨tk,rfl⟩
 ·grind[SI]
 ·have e:SI [tk] l=FL tk l (I l):=by
   show(FL tk l (I l)).flatMap (fun x=>[x])=_
   simp
  rw[e]
  grind[FL]
theorem Adc(m:cz)(hm:BH m)(i:Nat)(r:cf)(hi:m.av[i]?=G r)(hmk:r.aq=[]∨∃p,r.aq=[p])(htk:r.ar=[]∨∃tk,r.ar=[tk])(s:Int)(ps:List (Int×Int))(hw:qn m s ps)(hv:Ah (Av m) (d5 s ps)=J):F0 62 [Ad m,di i,dV (d5 s ps)] (if s=r.aj then .tup [cq (lu (Av m) ((SI r.ar ps).map fun q=>d5 r.to (BL (q++ft r.aq)))).1,di (lu (Av m) ((SI r.ar ps).map fun q=>d5 r.to (BL (q++ft r.aq)))).2] else .tup [cq [],di 0]):=by
 have hlen:=hw.len
 have h1:=KM m hm
 have h2:=Ht m hm (d5 s ps)
 rw[hv] at h2
 have h3:=Z3 m hm
 have h4:=Aei r.ar htk ps (by omega)
 have hir:=(HL.1 hi).1
 have hb:=SH htk ps
 have hlp:=Aki m hm.n r hmk (SI r.ar ps) (by omega) (fun q hq=>by have:=hb.2 q hq;omega) _ 0 rfl (Iu _) (fun q hq=>by simp at hq)
 by_cases hf:s=r.aj
 ·rw[Ie hf]
  generalize (lu (Av m) ((SI r.ar ps).map fun q=>d5 r.to (BL (q++ft r.aq))))=out at*
  generalize SI r.ar ps=L at*
  have hgo:Rn PP Lz 0 (.tup [cq out.1,di out.2]) ba (qt++[]) (cy 108 [(3,.v (.ref (A0 m))),(9,.ptr 0 0),(10,.ptr 1 0),(12,.v (kr L)),(13,.v .nils),(14,di (0:Nat))]) (YJ r (Av m)):=Mp (XX (t:=13) _ rfl) hlp
  exact sv Lz 108 [3,5] (.c (di 0)<|.k<|.f<|.f<|.c (db J)<|.k<|.x (Al r)<|.x (Ac (lf s))<|.f<|.c (.tup [dT (Av m),di 0])<|.x (Ac (.mk 0 (ps.map pV)))<|.c (.v (kr L))<|.ls [ke 3,ke 9,ke 10,ke 12,ke 13,ch 14 (di (0:Nat))] (YJ r (Av m))) (_/\Y ((i:Int)<0)=O/\Y ((i:Int)>=(I (U Al m.av):Int))=O/\_/\0<=(i:Int)/\(U Al m.av)[Z (i:Int)]?=G (Al r)/\iz 0<=0/\G (eV (lf s))=G (Ac (lf s))/\yp/\(b9.n (lf s) !=r.aj)=O/\_/\iz 0<=1/\G (eV (b9.mk 0 (U pV ps)))=G (Ac (b9.mk 0 (U pV ps)))/\_/\yp/\Q (di 0)/\Q [G (rC r),G [di (cr.kd (Av m)),di (cr.sz (Av m)),bt (cw (cr.rk (Av m))),bt (ai (eT (cr.lab (I m.aw:Int))::eT (cr.bag (cr.prod [cr.lab (I m.ay:Int),cr.lab (m.age+2)]))::nV))]]/\_) ⟨h1,yq,HM (by rw[HH];omega),h2,by omega,by rw[IR,I1,hi];rfl,by decide,Ih G (AH _),yn,by rw[hf];exact bne_self_eq_false _,h3,by decide,Ih G (AH _),h4,yn,rfl,rfl,iK hgo⟩
 ·rw[HZ hf]
  clear hlp h4
  exact sv Lz 108 [3,5] (.c (di 0)<|.k<|.f<|.f<|.c (db J)<|.k<|.x (Al r)<|.x (Ac (lf s))<|.t<|.r) (_/\Y ((i:Int)<0)=O/\Y ((i:Int)>=(I (U Al m.av):Int))=O/\_/\0<=(i:Int)/\(U Al m.av)[Z (i:Int)]?=G (Al r)/\iz 0<=0/\G (eV (lf s))=G (Ac (lf s))/\yp/\(b9.n (lf s) !=r.aj)=J/\Q (bk [cq [],di 0])) ⟨h1,yq,HM (by rw[HH];omega),h2,by omega,by rw[IR,I1,hi];rfl,by decide,Ih G (AH _),yn,bne_iff_ne.2 hf,rfl⟩
theorem Ao2(t:cr){ys zs:List b9}(h:∀y,y∈ys↔y∈zs):lu t ys=lw t zs:=by
 grind[lu,lw,LX]
theorem Ade(m:cz)(hm:BH m)(i:Nat)(r:cf)(hi:m.av[i]?=G r)(c:b9)(hv:Ah (Av m) c=J):F0 62 [Ad m,di i,dV c] (.tup [cq (Q8 (Av m) r c).1,di (Q8 (Av m) r c).2]):=by
 obtain⟨s,ps,rfl,hw⟩:=Pi hv
 have hr:=hm.av i r hi
 have h:=Adc m hm i r hi (hr.aq.imp id fun⟨p,_,h⟩=>⟨p,h⟩) (hr.ar.imp id fun⟨_,_,_,_,_,h⟩=>⟨_,h⟩) s ps hw hv
 have e:lu (Av m) ((SI r.ar ps).map fun q=>d5 r.to (BL (q++ft r.aq)))=lw (Av m) (nr r (d5 s ps)):=Ao2 _ fun y=>by
  grind[nr,Z6,Aa8,AcS,SG]
 rw[e] at h
 unfold Q8
 rw[Ie hv,Z7]
 by_cases hf:s=r.aj
 ·rw[Ie hf] at h
  rw[Ie (show(lf s).n=r.aj from hf)]
  exact h
 ·rw[HZ hf] at h
  rw[HZ (show ¬(lf s).n=r.aj from hf)]
  exact h
structure wr(m:cz)(t:cr):Prop where
 chk:F0 57 [Ad m] (di 0)
 val:∀c:b9,c.size<=1000->F0 33 [Ad m,dV c] (db (Ah t c))
 kind:m.kind=2∨m.kind=3∨m.kind=5
 few:I m.av<=12
section
variable {m : cz} {t : cr} (hm : wr m t) {c : b9} (hcs : c.size <= 1000) (hv : Ah t c = true)
include hm
theorem Tv:F0 32 [Ad m] (di 0):=by
 exact sv AmJ 12 [1] (.c (di 0)<|.k<|.f .r) (_/\(m.kind==6)=O/\Q (di 0)) ⟨hm.chk,by rcases hm.kind with h|h|h<;>rw[h]<;>rfl,rfl⟩
include hcs hv
theorem S7:F0 33 [Ad m,dV c] (db J):=hv▸hm.val c hcs
theorem AlH(hk:m.kind=2)(p:List b9×Int)(hp:F0 111 [Ad m,dV c] (dq p)):F0 60 [Ad m,dV c] (dq p):=by
 refine sv Ags 38 [2,3] (.c (di 0)<|.c (db J)<|.k<|.t<|.c (dq p) .r) (me m/\j8 m c/\(m.kind==2)=J/\F0 111 [Ad m,dV c] (dq p)/\bk [cq p.fst,di p.snd]=dq p) ?_
 grind[Tv,S7]
theorem AlG(hk:m.kind=3)(p:List b9×Int)(hp:F0 111 [Ad m,dV c] (dq p)):F0 60 [Ad m,dV c] (dq p):=by
 refine sv Ags 38 [2,3] (.c (di 0)<|.c (db J)<|.k<|.f<|.t<|.c (dq p) .r) (me m/\j8 m c/\(m.kind==2)=O/\(m.kind==3)=J/\F0 111 [Ad m,dV c] (dq p)/\bk [cq p.fst,di p.snd]=dq p) ?_
 grind[Tv,S7]
theorem AlF(hk:m.kind=5)(w:b9)(hp:F0 112 [Ad m,dV c] (.tup [dV w,di 0])):F0 60 [Ad m,dV c] (dq ([w],0)):=by
 refine sv Ags 38 [2,3] (.c (di 0)<|.c (db J)<|.k<|.f<|.f<|.t<|.c (.tup [dV w,di 0]) .r) (me m/\j8 m c/\(m.kind==2)=O/\(m.kind==3)=O/\(m.kind==5)=J/\F0 112 [Ad m,dV c] (bk [dV w,di 0])/\bk [bt (ai [ab [vi w.n,dt w.az]]),di 0]=dq ([w],0)) ?_
 grind[Tv,S7,AH]
theorem Adb(q:List b9×Int)(hq:F0 60 [Ad m,dV c] (dq q)):F0 34 [Ad m,di (-1),dV c] (dq q):=by
 refine sv vq 78 [3,5] (.c (di 0)<|.k<|.k<|.f<|.c (db J)<|.c (dq q) .r) (me m/\Y (-1>=(I (U Al m.av):Int))=O/\j8 m c/\F0 60 [Ad m,dV c] (dq q)/\bk [cq q.fst,di q.snd]=dq q) ?_
 grind[Tv,S7]
theorem AnQ(hk:m.kind=5)(i:Nat)(hi:i<I m.av)(p:List b9×Int)(hp:F0 62 [Ad m,di i,dV c] (dq p)):F0 34 [Ad m,di i,dV c] (dq p):=by
 refine sv vq 78 [3,5] (.c (di 0)<|.k<|.f<|.f<|.c (db J)<|.k<|.f<|.f<|.t<|.c (dq p) .r) (me m/\Y ((i:Int)< -1)=O/\Y ((i:Int)>=(I (U Al m.av):Int))=O/\j8 m c/\((i:Int)== -1)=O/\(m.kind==4)=O/\(m.kind==5)=J/\F0 62 [Ad m,di (i:Int),dV c] (dq p)/\bk [cq p.fst,di p.snd]=dq p) ?_
 grind[Tv,S7]
theorem Akm(hk:m.kind=2∨m.kind=3)(i:Nat)(hi:i<I m.av)(p p0:b9×Int)(hp0:F0 63 [Ad m,di i,dV c] (dP p0))(hp:F0 64 [Ad m,di i,dV c] (dP p)):F0 34 [Ad m,di i,dV c] (dq (Cu p)):=by
 refine sv vq 78 [3,5] (.c (di 0)<|.k<|.f<|.f<|.c (db J)<|.k<|.f<|.f<|.f<|.c (dP p0)<|.t<|.c (dP p)<|.b .r (.b .r .r)) (me m/\Y ((i:Int)< -1)=O/\Y ((i:Int)>=(I (U Al m.av):Int))=O/\j8 m c/\((i:Int)== -1)=O/\(m.kind==4)=O/\(m.kind==5)=O/\F0 63 [Ad m,di (i:Int),dV c] (dP p0)/\(m.kind !=1)=J/\F0 64 [Ad m,di (i:Int),dV c] (dP p)/\((p.snd==18)=J->bk pp=dq (Cu p))/\((p.snd==18)=O->((p.snd !=0)=J->bk [bt (ai []),di p.snd]=dq (Cu p))/\((p.snd !=0)=O->bk [bt (ai [ab [vi p.fst.n,dt p.fst.az]]),di 0]=dq (Cu p)))) ?_
 grind[Tv,S7,Cu,AH]
theorem Adi(ap:Int->List b9×Int)(hl:∀i,(ap i).1.length<=1000)(hap:∀i:Int, -1<=i->i<I m.av->F0 34 [Ad m,di i,dV c] (dq (ap i))):
  F0 18 [Ad m,dV c] (fw (CX ap (I m.av+1) (-1) [])):=by
 have hsz:=hm.few
 refine sv Gp 57 [2,3] (.c (di 0)<|.c (db J)<|.h (.q 7 0)<|.h (.nw 7 1 3)<|.ls tx (FF [])) (_/\_/\Q (di (-1))/\Q [(1,3,nV)]/\I0 Gp (I ba.H) (fw (CX ap (I m.av+1) (-1) [])) ba [kl Cz ia,bf 0,kc Cz [1,1,1,1,1]] (cy 57 (te m c)) (FF [])) ⟨Tv hm,S7 hm hcs hv,rfl,rfl,⟨?_⟩⟩
 exact OQ m (by omega) c ap hl hap (I m.av+1) (-1) [] (by omega) (by omega) (by omega) (by simp)
end
section
variable {m : cz} {t : cr} (hm : wr m t)
include hm
noncomputable abbrev Anb:=Tryz.f183
theorem Amr(hk:m.kind≠1)(i:Int):F0 183 [Ad m,di i] (di 15):=by
 exact sv Anb 23 [2] (.c (di 0)<|.k<|.t .r) (_/\(m.kind !=1)=J/\Q (di 15)) ⟨hm.chk,bne_iff_ne.2 hk,rfl⟩
noncomputable abbrev Aps:=Tryz.f120
theorem Ap3(hk:m.kind≠1)(i:Int)(c:b9):F0 120 [Ad m,di i,dV c] (.tup [db O,di 15]):=by
 refine sv Aps 26 [3,5] (.c (di 15)<|.k .r) (F0 183 [Ad m,di i] (di 15)/\Q (bk [db O,di 15])) ?_
 grind[Amr]
noncomputable abbrev Anr:=Tryz.f63
theorem ApP(hk:m.kind≠1)(i:Int)(c:b9):F0 63 [Ad m,di i,dV c] (dP (.mk 0 [],15)):=by
 exact sv Anr 116 [3,5] (.c (.tup [db O,di 15])<|.k .r) (_/\bk [bt mf,di 15]=dP (b9.mk 0 [],15)) ⟨Ap3 hm hk i c,rfl⟩
end
theorem mi.rf{m:cz}(hm:mi m):wr m (AE m):=⟨Gs m hm.ok,fun c _=>Q0 m hm.ok c,by rcases hm.kind with h|h<;>simp[h],hm.few.1⟩
theorem BH.rf{m:cz}(hm:BH m):wr m (Av m):=⟨Wl m hm,fun c _=>Ht m hm c,.inr (.inr hm.kind),by have:=hm.count;omega⟩
theorem Ahs{m:cz}(hm:BH m){c:b9}(hv:Ah (Av m) c=J)(hl:∀i,(S1 m (Av m) c i).1.length<=1000):F0 18 [Ad m,dV c] (fw (CX (S1 m (Av m) c) (I m.av+1) (-1) [])):=by
 have hcs:c.size<=1000:=by
  obtain⟨s,ps,rfl,hw⟩:=Pi hv
  rw[GY];have:=hw.len;omega
 refine Adi hm.rf hcs hv _ hl fun i h1 h2=>?_
 by_cases h0:i<0
 ·have e:i= -1:=by omega
  subst e
  have ea:S1 m (Av m) c (-1)=([nu m c],0):=by rfl
  rw[ea]
  exact Adb hm.rf hcs hv _ (AlF hm.rf hcs hv hm.kind _ (WN m hm c hv))
 ·obtain⟨k,rfl⟩:∃k:Nat,i=k:=⟨i.toNat,by omega⟩
  obtain⟨r,hr⟩:∃r,m.av[k]?=G r:=⟨_,HI (show k<I m.av by omega)⟩
  have ea:S1 m (Av m) c (k:Nat)=Q8 (Av m) r c:=by grind[S1]
  rw[ea]
  exact AnQ hm.rf hcs hv hm.kind k (by omega) _ (Ade m hm k r hr c hv)
theorem Ahu{m:cz}(hm:mi m){c:b9}(hv:Ah (AE m) c=J)(hl:∀i,(i5 m (AE m) c i).1.length<=1000):F0 18 [Ad m,dV c] (fw (CX (i5 m (AE m) c) (I m.av+1) (-1) [])):=by
 obtain⟨s,ws,rfl,h⟩:=TI hm.kind hv
 have hcs:(dx s ws).size<=1000:=by grind[sa]
 refine Adi hm.rf hcs hv _ hl fun i h1 h2=>?_
 by_cases h0:i<0
 ·have e:i= -1:=by omega
  subst e
  have ea:i5 m (AE m) (dx s ws) (-1)=(sortV (fk m (dx s ws) (I m.ay)),0):=by rfl
  rw[ea]
  refine Adb hm.rf hcs hv _ ?_
  rcases hm.kind with hk|hk
  ·exact AlH hm.rf hcs hv hk _ (Oe hm h)
  ·exact AlG hm.rf hcs hv hk _ (Oe hm h)
 ·obtain⟨k,rfl⟩:∃k:Nat,i=k:=⟨i.toNat,by omega⟩
  obtain⟨r,hr⟩:∃r,m.av[k]?=G r:=⟨_,HI (show k<I m.av by omega)⟩
  have ea:i5 m (AE m) (dx s ws) (k:Nat)=Cu (YP (AE m) r (dx s ws)):=by grind[i5]
  rw[ea]
  have hR:=hm.rule r (HO hr)
  obtain⟨j,hj⟩:∃j:Nat,r.chan=j:=⟨r.chan.toNat,by have:=hR.chan;omega⟩
  obtain⟨w,hw⟩:∃w,ws[j]?=G w:=⟨_,HI (by have:=hR.chan;rw[h.len];omega)⟩
  exact Akm hm.rf hcs hv hm.kind k (by omega) _ _ (ApP hm.rf (by rcases hm.kind with h|h<;>rw[h]<;>decide) k (dx s ws)) (YA hm h hr hj hw)
theorem AbH:PP.underlying 3=G (.int .i64):=by rfl
theorem Ty:PP.underlying 117=G (.int .u64):=by rfl
theorem KP:PP.underlying 27=G (.slice 3):=by rfl
theorem Kz:BS PP 27=G (3,1,8,G (.int .i64 0)):=by rfl
theorem Aqs{k:yv}{a b a' b':Int}(h:a=a')(h':b=b'):bk [.v (.int k a),.v (.int k b)]=bk [.v (.int k a'),.v (.int k b')]:=by rw[h,h']
noncomputable abbrev AqF:=Tryz.f245
noncomputable abbrev jg:=(IntKind.bits u64)
noncomputable abbrev wc:=fun (a₀:Nat)=>(BitVec.ofInt jg (a₀:Int)&&&BitVec.ofInt jg 4294967295)
noncomputable abbrev Av7:=(BitVec.ofInt jg 1&&&BitVec.ofInt jg 4294967295)
theorem AoF(n:Nat)(h:n<=128):F0 245 [.v (.int .u64 1),.v (.int .u64 (n:Int))] (.tup [.v (.int .u64 0),.v (.int .u64 (n:Int))]):=by
 refine sv AqF 51 [] .r (iz 0<=32/\iz 0<=32/\iz 0<=32/\iz 0<=32/\iz 0<=32/\bk [bt (aa u64 (yu u64 (yu u64 (yu u64 (Int.fdiv 1 (2^min (Z 32) jg)*Int.fdiv (n:Int) (2^min (Z 32) jg))+Int.fdiv (yu u64 (yu u64 (Int.fdiv 1 (2^min (Z 32) jg)*yu u64 (↑(BitVec.toNat (wc n)):Int))+Int.fdiv (yu u64 (yu u64 (↑(BitVec.toNat Av7):Int)*yu u64 (↑(BitVec.toNat (wc n)):Int))) (2^min (Z 32) jg))) (2^min (Z 32) jg))+Int.fdiv (yu u64 (yu u64 (↑(BitVec.toNat (BitVec.ofInt jg (yu u64 (yu u64 (Int.fdiv 1 (2^min (Z 32) jg)*yu u64 (↑(BitVec.toNat (wc n)):Int))+Int.fdiv (yu u64 (yu u64 (↑(BitVec.toNat Av7):Int)*yu u64 (↑(BitVec.toNat (wc n)):Int))) (2^min (Z 32) jg)))&&&BitVec.ofInt jg 4294967295)):Int)+yu u64 (yu u64 (↑(BitVec.toNat Av7):Int)*Int.fdiv (n:Int) (2^min (Z 32) jg)))) (2^min (Z 32) jg)))),bt (aa u64 (yu u64 (1*(n:Int))))]=bk [bt (aa u64 0),bt (aa u64 (n:Int))]) ?_
 refine⟨by decide,by decide,by decide,by decide,by decide,Aqs ?_ ?_⟩<;>(revert n;decide+kernel)
noncomputable abbrev AqE:=Tryz.f191
theorem AfD(n:Nat)(h:n<=128):F0 191 [.v (.int .u64 1),.v (.int .u64 (n:Int))] (.tup [.v (.int .u64 0),.v (.int .u64 (n:Int))]):=by
 refine sv AqE 30 [] (.c (.tup [.v (.int .u64 0),.v (.int .u64 (n:Int))]) .r) (F0 245 [bt (aa u64 1),bt (aa u64 (n:Int))] (bk [bt (aa u64 0),bt (aa u64 (n:Int))])/\Q (bk [bt (aa u64 0),bt (aa u64 (n:Int))])) ?_
 grind[AoF]
def GA(x:Int)(n k:Nat):List D:=replicate k (di x)++replicate (n-k) (di 0)
section
variable {P : x7} {o : yy} {σ : St}
theorem Ra{t:x6}{x lo:x8}(ho:o.op=.slice t x (G lo) none none){e:x6}{by':Nat}{z:Option yz}(hs:BS P t=G (e,1,by',z)){q len k:Nat}(hk:k<len):
  Ai P o [.arr q 0 len,di ↑k] σ (.arr q k (len-k)) σ:=by
 have:=M4 (P:=P) (o:=o) (σ:=σ) ho hs (q:=q) (off:=0) (len:=len) (G (.i64,(k:Int))) none rfl rfl (l':=k) (h':=len) (by grind[C8]) hk
 rw[I4] at this;exact this
theorem Xl{t:x6}{x hi:x8}(ho:o.op=.slice t x none (G hi) none){e:x6}{by':Nat}{z:Option yz}(hs:BS P t=G (e,1,by',z)){q len k:Nat}(hk:k<len):
  Ai P o [.arr q 0 len,di ↑k] σ (.arr q 0 k) σ:=by
 have:=M4 (P:=P) (o:=o) (σ:=σ) ho hs (q:=q) (off:=0) (len:=len) none (G (.i64,(k:Int))) rfl rfl (l':=0) (h':=k) (by grind[C8]) (by omega)
 exact this
theorem Xn{x y:x8}{t:x6}(ho:o.op=.call { callee:=.builtin .copy,args:= #[x,y],argTypes:= #[t,t]}){e:x6}{by':Nat}{z:Option yz}(hs:BS P t=G (e,1,by',z)){x:Int}{n k:Nat}(hk:k<n):
  Ai P o [.arr 0 k (n-k),.arr 0 0 k] ⟨[G (GA x n k)],[]⟩ (di ↑(min k (n-k))) ⟨[G (GA x n (k+min k (n-k)))],[]⟩:=by
 have hl:I (GA x n k)=n:=by grind[GA]
 have:=Afu (P:=P) (o:=o) (σ:=⟨[G (GA x n k)],[]⟩) ho hs (q:=0) (off:=k) (len:=n-k) (off2:=0) (len2:=k) (k:=min k (n-k)) (cs:=GA x n k) rfl rfl (by omega) (by omega)
 grind[GA,List.drop_append,List.replicate_append_replicate]
end
theorem Aji(x:Int)(n:Nat):D.pls (replicate n (di x))=J:=by
 induction n with
 |zero=>rfl
 |succ n ih=>rw[IC];simp only[D.pls,ih,Bool.and_true];rfl
theorem Ah8{n:Nat}(h:n<=1000):u64.wrap (n:Int)=n:=by
 have:∀m:Nat,m<=1000->u64.wrap (m:Int)=m:=by decide+kernel
 grind
theorem Aav{x:Int}{n:Nat}(_:1<=n):take 0 (replicate n (di 0))++U bt (take 1 [vi x])++W 1 (replicate n (di 0))=GA x n 1:=by
 simp[GA]
noncomputable def ApG:Code:= Tryz.f138.body.getD .skip
set_option maxRecDepth 20000 in
theorem AeV(x:Int)(n:Nat)(hn:n<=1000)(m:Nat):∀(k:Nat),n-k=m->1<=k->k<=n->wt PP (fun env σ1=>A9 PP Tryz.f138 env σ1 (.arr 0 0 n) ⟨[G (replicate n (di x))],[]⟩) [kl ApG [1,1,1,1,1,1,0,0,0],.blk 0,kc ApG [1,1,1,1,1,1,1]] (.undef:: .undef:: .undef:: .undef:: .undef:: .undef:: .undef::(.arr 0 0 n)::(di ↑k):: .undef:: .undef:: .undef:: .undef:: .undef:: .undef:: .undef:: .undef:: .undef:: .undef:: .undef:: .undef:: .undef:: .undef:: .undef:: .undef:: .undef:: .undef:: .undef:: .undef:: .undef:: .undef:: .undef:: .undef:: .undef:: .undef:: .undef:: .undef:: .undef:: .undef:: .undef:: .undef:: .undef:: .undef:: .undef:: .undef:: .undef:: .undef:: .undef::[]) ⟨[G (GA x n k)],[]⟩:=by
 induction m using Nat.strongRecOn with
 |_ m ih=>
  intro k hm hk1 hkn
  refine AhK ?_
  refine F8 [1,1,1,1,1,1,0,0,0,0] [1,1,1,1,1,1,0,0,0,1] rfl ?_
  refine F8 [1,1,1,1,1,1,0,0,0,0,0] [1,1,1,1,1,1,0,0,0,0,1] rfl ?_
  refine Ee rfl ?_
  refine E2 8 34 rfl rfl rfl (.inl rfl) rfl (by dsimp only[List.set]) ?_
  refine E2 7 35 rfl rfl rfl (.inl rfl) rfl (by dsimp only[List.set]) ?_
  first|(refine Eg (G 36) rfl rfl rfl rfl (KE rfl KP) (by dsimp only[B5,List.set]) ?_)|(refine Eg (G 36) rfl rfl rfl rfl (Tl (KE rfl KP)) (by dsimp only[B5,List.set]) ?_)|(refine Eg (G 36) rfl rfl rfl rfl (P4 rfl KP) (by dsimp only[B5,List.set]) ?_)
  refine Eg (G 37) rfl rfl rfl rfl (KG rfl rfl) (by dsimp only[B5,List.set]) ?_
  refine Lu rfl ?_
  refine TL [1,1,1,1,1,1,0,0,0,0,1,0] [1,1,1,1,1,1,0,0,0,0,1,1] rfl rfl (fun hc1=>?_) (fun hc1=>?_)
  ·skip
   have hlt:k<n:=by grind
   refine TK rfl ?_
   refine Wt [1,1,1,1,1,1,0,0,0,1,0] 1 rfl ?_
   refine Akg mixed rfl [⟨[G (GA x n k)],[]⟩,⟨[G (GA x n (k+min k (n-k)))],[]⟩] rfl ?_
   refine XW 8 38 rfl rfl rfl (.inl rfl) rfl (by dsimp only[List.set]) ?_
   refine XW 7 39 rfl rfl rfl (.inl rfl) rfl (by dsimp only[List.set]) ?_
   refine XW 8 40 rfl rfl rfl (.inl rfl) rfl (by dsimp only[List.set]) ?_
   refine PT (G 41) rfl rfl rfl rfl (fun s hs=>Ra rfl Kz hlt) (by dsimp only[B5,List.set]) ?_
   refine XW 7 42 rfl rfl rfl (.inl rfl) rfl (by dsimp only[List.set]) ?_
   refine XW 8 43 rfl rfl rfl (.inl rfl) rfl (by dsimp only[List.set]) ?_
   refine PT (G 44) rfl rfl rfl rfl (fun s hs=>Xl rfl Kz hlt) (by dsimp only[B5,List.set]) ?_
   refine An0 (G 45) rfl rfl rfl rfl rfl rfl (Xn rfl Kz hlt) (by dsimp only[B5,List.set]) ?_
   refine PT (G 46) rfl rfl rfl rfl (fun s hs=>KG rfl rfl) (by dsimp only[B5,List.set]) ?_
   refine XW 46 8 rfl rfl rfl (.inr rfl) rfl (by dsimp only[List.set]) ?_
   refine Anz rfl ⟨by decide+kernel,_,rfl,?_⟩
   refine Aae ?_
   rw[Ak,show(k:Int)+((min k (n-k):Nat):Int)=((k+min k (n-k):Nat):Int) by omega]
   exact AhI (.drop (.drop (.drop (.drop (.drop (.drop (.drop (.keep (.keep (.drop (.drop (.drop (.drop (.drop (.drop (.drop (.drop (.drop (.drop (.drop (.drop (.drop (.drop (.drop (.drop (.drop (.drop (.drop (.drop (.drop (.drop (.drop (.drop (.drop (.drop (.drop (.drop (.drop (.drop (.drop (.drop (.drop (.drop (.drop (.drop (.drop (.drop (.drop .nil)))))))))))))))))))))))))))))))))))))))))))))))) (ih _ (by omega) (k+min k (n-k)) rfl (by omega) (by omega))
  ·skip
   have hge:k=n:=by grind
   subst hge
   rw[show GA x k k=replicate k (di x) by simp[GA]]
   refine Akf rfl rfl ?_
   refine F8 [1,1,1,1,1,1,1,0] [1,1,1,1,1,1,1,1] rfl ?_
   refine Ee rfl ?_
   refine E2 7 47 rfl rfl rfl (.inl rfl) rfl (by dsimp only[List.set]) ?_
   refine E2 47 4 rfl rfl rfl (.inr rfl) rfl (by dsimp only[List.set]) ?_
   refine Lu rfl ?_
   refine AnI rfl ?_
   exact Ajc (.tmp rfl .nil) 1 rfl (by simp) (fun i cs h=>by cases i<;>grind[Aji]) (List.Sublist.refl _) (by decide)
set_option maxRecDepth 20000 in
theorem AeU(x:Int)(n:Nat)(h0:1<=n)(h6:n<=128):Aa PP 138 [dl [vi x],di ↑n] ba (.arr 0 0 n) ⟨[G (replicate n (di x))],[]⟩:=by
 refine AiS ApG Tryz.func138 rfl (by rfl) (by grind) _ (by dsimp only[Tryz.f138,length,Nat.reduceAdd,Nat.reduceSub,replicate,cons_append,nil_append]) ?_
 refine F8 [0] [1] rfl ?_
 refine Ee rfl ?_
 refine ApN 4 rfl rfl rfl (.inr rfl) (by dsimp only[O1]) (by dsimp only[List.set]) ?_
 refine Lu rfl ?_
 refine F8 [1,0] [1,1] rfl ?_
 refine F8 [1,0,0] [1,0,1] rfl ?_
 refine Ee rfl ?_
 refine E2 1 9 rfl rfl rfl (.inl rfl) rfl (by dsimp only[List.set]) ?_
 refine Eg (G 10) rfl rfl rfl rfl (KG rfl rfl) (by dsimp only[B5,List.set]) ?_
 refine Lu rfl ?_
 refine TL [1,0,1,0] [1,0,1,1] rfl rfl (fun hc1=>?_) (fun hc1=>?_)
 ·grind
 ·skip
  refine TK rfl ?_
  refine F8 [1,1,0] [1,1,1] rfl ?_
  refine Ee rfl ?_
  refine E2 0 13 rfl rfl rfl (.inl rfl) rfl (by dsimp only[List.set]) ?_
  first|(refine Eg (G 14) rfl rfl rfl rfl (KE rfl KP) (by dsimp only[B5,List.set]) ?_)|(refine Eg (G 14) rfl rfl rfl rfl (Tl (KE rfl KP)) (by dsimp only[B5,List.set]) ?_)|(refine Eg (G 14) rfl rfl rfl rfl (P4 rfl KP) (by dsimp only[B5,List.set]) ?_)
  refine Eg (G 15) rfl rfl rfl rfl (LG rfl AbH Ty) (by dsimp only[B5,List.set]) ?_
  rw[show u64.wrap ((I ([vi x]):Nat):Int)=1 from Ah8 (n:=1) (by decide)]
  refine E2 1 16 rfl rfl rfl (.inl rfl) rfl (by dsimp only[List.set]) ?_
  refine Eg (G 17) rfl rfl rfl rfl (LG rfl AbH Ty) (by dsimp only[B5,List.set]) ?_
  rw[Ah8 (by omega)]
  refine Eg (G 18) rfl rfl rfl rfl (P5 rfl rfl rfl rfl (AfD n h6)) (by dsimp only[B5,List.set]) ?_
  refine E2 18 12 rfl rfl rfl (.inl rfl) rfl (by dsimp only[List.set]) ?_
  refine Eg (G 19) rfl rfl rfl rfl (KF rfl rfl) (by dsimp only[B5,List.set]) ?_
  refine Eg (G 20) rfl rfl rfl rfl (KF rfl rfl) (by dsimp only[B5,List.set]) ?_
  refine E2 19 5 rfl rfl rfl (.inr rfl) rfl (by dsimp only[List.set]) ?_
  refine E2 20 6 rfl rfl rfl (.inr rfl) rfl (by dsimp only[List.set]) ?_
  refine Lu rfl ?_
  refine F8 [1,1,1,0] [1,1,1,1] rfl ?_
  refine F8 [1,1,1,0,0] [1,1,1,0,1] rfl ?_
  refine Ee rfl ?_
  refine E2 5 21 rfl rfl rfl (.inl rfl) rfl (by dsimp only[List.set]) ?_
  refine Eg (G 22) rfl rfl rfl rfl (KG rfl rfl) (by dsimp only[B5,List.set]) ?_
  refine E2 22 23 rfl rfl rfl (.inl rfl) rfl (by dsimp only[List.set]) ?_
  refine Ahk 23 rfl (fun hb2 env' he=>?_) (fun hb2 env' he=>?_)
  ·grind
  ·dsimp only[List.set] at he;subst he
   refine E2 6 24 rfl rfl rfl (.inl rfl) rfl (by dsimp only[List.set]) ?_
   refine Eg (G 25) rfl rfl rfl rfl (KG rfl rfl) (by dsimp only[B5,List.set]) ?_
   refine ApM false 23 25 26 rfl rfl rfl rfl rfl rfl rfl (by dsimp only[List.set]) ?_
   refine Lu rfl ?_
   refine TL [1,1,1,0,1,0] [1,1,1,0,1,1] rfl rfl (fun hc3=>?_) (fun hc3=>?_)
   ·grind
   ·skip
    refine TK rfl ?_
    refine F8 [1,1,1,1,0] [1,1,1,1,1] rfl ?_
    refine Ee rfl ?_
    refine E2 6 28 rfl rfl rfl (.inl rfl) rfl (by dsimp only[List.set]) ?_
    refine Eg (G 29) rfl rfl rfl rfl (LG rfl Ty AbH) (by dsimp only[B5,List.set]) ?_
    rw[Ak]
    refine Aiu (G 30) rfl rfl rfl rfl (Ajl rfl Kz rfl (by omega) (by omega) (by omega)) (by dsimp only[B5,List.set]) (by dsimp only[List.set,List.append,cons_append,nil_append,Az,map,H7,length,Nat.reduceAdd,if_true, ↓reduceIte];first|done|rfl) ?_
    rw[IR]
    refine E2 30 7 rfl rfl rfl (.inr rfl) rfl (by dsimp only[List.set]) ?_
    refine Lu rfl ?_
    refine F8 [1,1,1,1,1,0] [1,1,1,1,1,1] rfl ?_
    refine Ee rfl ?_
    refine E2 7 31 rfl rfl rfl (.inl rfl) rfl (by dsimp only[List.set]) ?_
    refine E2 0 32 rfl rfl rfl (.inl rfl) rfl (by dsimp only[List.set]) ?_
    refine Aiu (G 33) rfl rfl rfl rfl (Aft (k:=1) rfl Kz rfl (by simp[V.size,V.isAgg]) (by grind) (by decide) (by grind)) (by dsimp only[B5,List.set]) (by dsimp only[List.set,List.append,cons_append,nil_append,Az,map,H7,length,Nat.reduceAdd,if_true, ↓reduceIte];first|done|rfl) ?_
    refine E2 33 8 rfl rfl rfl (.inr rfl) rfl (by dsimp only[List.set]) ?_
    refine Lu rfl ?_
    rw[Aav h0]
    refine F8 [1,1,1,1,1,1,0] [1,1,1,1,1,1,1] rfl ?_
    refine Wt [1,1,1,1,1,1,0,0] 0 rfl ?_
    refine Ake [1,1,1,1,1,1,0,0,0] rfl ?_
    try simp only[HR]
    exact AhI (.drop (.drop (.drop (.drop (.drop (.drop (.drop (.keep (.keep (.drop (.drop (.drop (.drop (.drop (.drop (.drop (.drop (.drop (.drop (.drop (.drop (.drop (.drop (.drop (.drop (.drop (.drop (.drop (.drop (.drop (.drop (.drop (.drop (.drop (.drop (.drop (.drop (.drop (.drop (.drop (.drop (.drop (.drop (.drop (.drop (.drop (.drop (.drop .nil)))))))))))))))))))))))))))))))))))))))))))))))) (AeV x n (by omega) _ 1 rfl (by omega) h0)
end Go.Proofs.YtkkplhjidondkaaGreat

namespace Go.Nv
open Go.Dv
open Go.IntKind (u64)
open Go.IntKind renaming wrap → yu, i64 → yt
open List renaming length → I, map → U, drop → W
open Option renaming some → G
open Bool renaming true → J, false → O
open Decidable renaming decide → Y
open Int renaming toNat → Z
open Go.Dv.V renaming list → ai, str → ae, agg → ab, int → aa, ref → bz, fn → bw, nils → bv, bool → bu
open Go.Dv.D renaming v → bt, acc → br, ptr → bq, arr → bo, gro → bm, tup → bk, undef → bj, dagg → bi
open Go.Dv.St renaming mk → bh
open Go.Dv.KI renaming blk → bf
open _root_.ByteArray renaming mk → bc
open Go renaming Operand → x8, Program → x7, TypeId → x6, World → x5, Value → yz, Oper → yy, FuncId → yx, Func → yw, IntKind → yv
section
variable {P : x7} {R : List D -> St -> Prop} {k : List KI} {nt : Nat} {E : List (Nat × D)} {σ : St} {ops : Array yy} {L0 : List yy} {C : cd -> cd -> Prop}
end
end Go.Nv

namespace Go.Proofs.YtkkplhjidondkaaGreat
open Go.Dv Go.Nv
set_option maxRecDepth 20000
open List (length_pos_iff replicate)
open Go.IntKind (u64)
open Go.IntKind renaming wrap → yu, i64 → yt
open List renaming length → I, map → U, drop → W
open Option renaming some → G
open Bool renaming true → J, false → O
open Decidable renaming decide → Y
open Int renaming toNat → Z
open Go.Dv.V renaming list → ai, str → ae, agg → ab, int → aa, ref → bz, fn → bw, nils → bv, bool → bu
open Go.Dv.D renaming v → bt, acc → br, ptr → bq, arr → bo, gro → bm, tup → bk, undef → bj, dagg → bi
open Go.Dv.St renaming mk → bh
open Go.Dv.KI renaming blk → bf
open _root_.ByteArray renaming mk → bc
open Go renaming Operand → x8, Program → x7, TypeId → x6, World → x5, Value → yz, Oper → yy, FuncId → yx, Func → yw, IntKind → yv
structure Akq(T:List (List Bool))(c:Nat)(O:List Int):Prop where
 len:I O=c
 rng:∀x∈O,x= -1∨(0<=x/\x<I T)
theorem Akq.set{T:List (List Bool)}{c:Nat}{O:List Int}(h:Akq T c O){k row:Nat}(hr:row<I T):Akq T c (O.set k row):=⟨by rw[List.length_set,h.len],fun x hx=>by
 rcases IN hx with hx|rfl
 ·exact h.rng x hx
 omega⟩
theorem MD:∀(l:List cr) (vs:List b9) (k:Nat) (t:cr) (v:b9),BN l vs=J->l[k]?=G t->vs[k]?=G v->Ax t v=J
 |[],_,_,_,_,_,h,_=>by grind
 |_::_,[],_,_,_,_,_,h=>by grind
 |s::l,x::vs,0,t,v,h,h1,h2=>by
  grind[BN]
 |s::l,x::vs,k+1,t,v,h,h1,h2=>by
  simp only[BN,HJ] at h
  exact MD l vs k t v h.2 (by grind) (by grind)
theorem KC{l:List cr}{c:b9}(h:Ah (.prod l) c=J):c.size<=128/\c.az.length=I l/\BN l c.az=J:=by
 grind[Ah,Ax]
theorem Yv{m:cz}(hk:m.kind=2∨m.kind=3)(c:b9)(h:Ah (AE m) c=J):ChC m c:=by
 obtain⟨h1,h2,h3⟩:=KC h
 refine⟨h1,by rw[h2];simp;omega,fun k x hx=>?_⟩
 have hkl:=(HL.1 hx).1
 have ht:(cr.lab (I m.aw)::replicate (I m.ay) (EK m))[1+k]?=G (EK m):=by
  rw[show 1+k=k+1 by omega,J0,List.getElem?_replicate]
  rw[Ie]
  simp at h2;omega
 have ho:=MD _ _ _ _ _ h3 ht hx
 grind[EK,Ax]
theorem AcT{m:cz}(c:b9)(h:Ah (Av m) c=J):wv c:=by
 obtain⟨h1,h2,h3⟩:=KC h
 have hb:∀b,c.az[1]?=G b->Ax (.bag (.prod [.lab (I m.ay),.lab (m.age+2)])) b=J:=fun b hb=>MD _ _ 1 _ _ h3 rfl hb
 refine⟨h1,h2,fun b hx=>?_,fun b v hx hv=>?_⟩
 all_goals grind[Ax]
theorem Gw.chm{K:Int}{m:cz}(hK:K=2∨K=3)(h:Gw K m):n9 m (AE m):=by
 have hk:m.kind=2∨m.kind=3:=by rw[h.kind];exact hK
 have hpl:1<=I m.ay/\m.ay.length<=2:=by rcases h.ay with e|e<;>rw[e]<;>decide
 refine⟨(h.ok hK).int,Es m (h.ok hK),hk,⟨by have:=h.count;omega,hpl.2⟩,fun r hr=>?_,Yv hk⟩
 obtain⟨i,hi⟩:=List.getElem?_of_mem hr
 have:=(h.av i r hi).act
 omega
theorem BH.tmm{m:cz}(h:BH m):mm m (Av m):=by
 refine⟨h.int,N1 m h,h.kind,by have:=h.count;omega,fun r hr=>?_,AcT⟩
 obtain⟨i,hi⟩:=List.getElem?_of_mem hr
 have hr2:=h.av i r hi
 refine⟨?_,?_⟩
 ·rcases hr2.ar with e|⟨_,_,_,_,_,e⟩<;>rw[e]<;>simp
 ·rcases hr2.aq with e|⟨_,_,e⟩<;>rw[e]<;>simp
theorem L5{t:cr}{c:b9}(h:Ah t c=J):c.size<=128:=by
 grind[Ah]
structure AnW(m:cz)(C:b9->Prop)(S:b9->List cb×Int):Prop where
 walks:F0 46 [Ad m] (di 0)
 start:C m.start
 size:∀v,C v->v.size<=1000
 all:∀v,C v->F0 50 [Ad m,dV v] (fw (S v))
 len:∀v,C v->(S v).1.length<=256
 next:∀v,C v->∀s∈ (S v).1,C s.2
abbrev cX(m:cz)(most:Int)(F S:D):List D:=[di m.kind,.v (cp m.aw),.v (cp m.ay),.v (cp m.ax),.v (cw m.au),di m.ao,di m.age,.v (BF m.av),di m.start.n,cq m.start.az,di most,F,S]
abbrev ow1(st:List (List cb)):List (Nat×Nat×List V):=[(1,1,st.map B2)]
abbrev stX(m:cz)(most:Int)(l:List b9)(st:List (List cb)):St:=⟨[G (cX m most (.gro 1 (I l) 2) (.acc 1 (st.map B2))),G (Ab (l.map eV))],ow1 st⟩
theorem V5:∀{ks:List b9},(∀k∈ks,k.az=[])->ks=(ks.map b9.n).map fun x=>b9.mk x []
 |[],_=>rfl
 |k::ks,h=>by
  have h1:=h k (by simp)
  rw[Ik,Ik, ←V5 fun x hx=>h x (by grind)]
  cases k<;>grind[b9.az,b9.n]
theorem Ri:∀(n:Nat) (vs:List b9),I vs=n->BN (replicate n .nat) vs=J->∀v∈vs,(0<=v.n/\v.n<=1048576)/\v.az=[]
 |0,[],_,_,v,hv=>by grind
 |n+1,[],hl,_,_,_=>by grind
 |0,_::_,hl,_,_,_=>by grind
 |n+1,x::vs,hl,h,v,hv=>by
  rw[IC] at h
  simp only[BN,HJ] at h
  rcases Iz.1 hv with rfl|hv
  ·grind[Ax,List.length_eq_zero_iff]
  ·exact Ri n vs (by grind) h.2 v hv
theorem Nq{m:cz}(hk:m.kind=1){c:b9}(h:Ah (AE m) c=J):AN m c:=by
 have hn:c.n=0:=by
  grind[Ah,AE,Ax]
 rw[AE,show EK m=.nat by grind[EK]] at h
 obtain⟨_,h2,h3⟩:=KC h
 cases c with
 |mk n ks=>
  subst hn
  simp only[b9.az] at h2 h3
  cases ks with
  |nil=>simp at h2
  |cons x vs=>
   simp only[BN,HJ] at h3
   have hl:I vs=I m.ay:=by simpa using h2
   have hx:=Hd (show C9 (I m.aw) x=J by simpa only[Ax] using h3.1)
   have hv:=Ri _ vs hl h3.2
   have e:b9.mk 0 (x::vs)=CP x.n (vs.map b9.n):=by
    rw[CP]
    congr 1
    have:=V5 (ks:=vs) fun k hk=>(hv k hk).2
    rw[←this]
    congr 1
    exact hx.1
   rw[e]
   exact PZ m x.n ⟨hx.2.1,hx.2.2⟩ _ (by rw[HH,hl]) fun y hy=>by
    obtain⟨v,hv1,rfl⟩:=I2.1 hy
    exact(hv v hv1).1
theorem Qi.ctm{m:cz}(h:Qi m):gu m:=⟨h.ok,h.kind,Nq h.kind h.ok.start⟩
abbrev o6(m:cz):cr:=if m.kind=5 then Av m else AE m
def mn(m:cz)(c:b9)(i:Int):List b9×Int:=if m.kind=1 then i6 m c i else if m.kind=5 then S1 m (Av m) c i else i5 m (AE m) c i
def BE(m:cz)(c:b9):List cb×Int:=CX (mn m c) (I m.av+1) (-1) []
abbrev G3(m:cz)(v:b9):Prop:=Ah (o6 m) v=J
theorem Gw.chr{K:Int}{m:cz}(_:K=2∨K=3)(h:Gw K m):∀r∈m.av,wo m r:=fun r hr=>by
 obtain⟨i,hi⟩:=List.getElem?_of_mem hr
 have h1:=h.av i r hi
 have hp:1<=I m.ay:=by rcases h.ay with e|e<;>rw[e]<;>decide
 refine⟨h1.to,?_,fun ha=>?_⟩
 ·rcases h1.act with⟨_,e,_⟩|⟨_,e,_⟩<;>omega
 ·rcases h1.act with⟨e,_,_⟩|⟨_,_,e⟩<;>omega
theorem El.kinds{m:cz}(h:El m):(gu m/\m.kind=1)∨(∃K,(K=2∨K=3)/\Gw K m/\m.kind=K)∨(BH m/\m.kind=5):=by
 cases h with
 |cM h=>exact .inl ⟨h.ctm,h.kind⟩
 |c h=>exact .inl ⟨h.ctm,h.kind⟩
 |l2 h=>exact .inr (.inl ⟨2,.inl rfl,h,h.kind⟩)
 |l3 h=>exact .inr (.inl ⟨3,.inr rfl,h,h.kind⟩)
 |tm h=>exact .inr (.inr ⟨h,h.kind⟩)
theorem FX{m:cz}(h:m.kind≠5):o6 m=AE m:=HZ h
theorem U8{m:cz}(h:m.kind=5):o6 m=Av m:=Ie h
theorem Ahn{m:cz}(h:m.kind=1):mn m=i6 m:=by grind[mn]
theorem Akl{m:cz}(h:m.kind=5):mn m=S1 m (Av m):=by grind[mn]
theorem Akk{m:cz}{K:Int}(hK:K=2∨K=3)(h:m.kind=K):mn m=i5 m (AE m):=by grind[mn]
theorem El.int{m:cz}(h:El m):G2 m (o6 m):=by
 rcases h.kinds with⟨h,hk⟩|⟨K,hK,h,hk⟩|⟨h,hk⟩
 ·rw[FX (by omega)];exact h.ok.int
 ·rw[FX (by omega)];exact(h.ok hK).int
 ·rw[U8 hk];exact h.int
theorem Gw.rks{K:Int}{m:cz}(h:Gw K m):I m.au<=1000:=by
 have h1:=h.au
 have h2:I m.ax<=2:=by rcases h.ax with e|e<;>rw[e]<;>simp
 grind
theorem El.steps{m:cz}(h:El m):AnW m (G3 m) (BE m):=by
 have hI:=h.int
 rcases h.kinds with⟨h,hk⟩|⟨K,hK,h,hk⟩|⟨h,hk⟩
 ·have eT:=FX (m:=m) (by omega)
  have eA:=Ahn hk
  have hC:∀v,G3 m v->AN m v:=fun v hv=>Nq hk (by rw[←eT];exact hv)
  have hS:∀v,BE m v=GK m v:=fun v=>by rw[BE,eA];rfl
  exact⟨hI.walks,by rw[G3,eT];exact h.ok.start,fun v hv=>by have:=(hC v hv).sizeM h;omega,fun v hv=>by rw[hS];exact WW m h v (hC v hv),fun v hv=>by rw[hS];have:=(Mi h (hC v hv)).2.1;omega,fun v hv s hs=>by
   rw[hS] at hs
   rw[G3,eT]
   exact((Mi h (hC v hv)).2.2 s hs).ok.validM h⟩
 ·have eT:=FX (m:=m) (by omega)
  have eA:=Akk hK hk
  have hst:=(h.chm hK).st h.rks
  have hpl:I m.ay<=2:=by rcases h.ay with e|e<;>rw[e]<;>decide
  have hS:∀v,Ah (AE m) v=J->BE m v=QG m (AE m) (i5 m (AE m)) v:=fun v hv=>by rw[BE,eA,QG,Ie hv]
  refine⟨hI.walks,by rw[G3,eT];exact(h.ok hK).start,fun v hv=>by grind[L5],fun v hv=>?_,fun v hv=>?_,fun v hv s hs=>?_⟩
  all_goals
   have hv':=hv
   rw[G3,eT] at hv'
   have h1:=Al7 hst v (by have:=L5 hv;omega)
  ·grind
  ·grind
  ·rw[G3,eT]
   rw[BE,eA] at hs
   exact(Wy (ap:=i5 m (AE m) v) (Q:=fun s=>Ah (AE m) s.2=J) (fun i v' hv2=>(Ada (by omega) hpl (h.chr hK) hv' i).2 v' hv2) _ _) s hs
 ·have eT:=U8 hk
  have eA:=Akl hk
  have hst:=h.tmm.st
  have hag:=h.age
  have hS:∀v,Ah (Av m) v=J->BE m v=QG m (Av m) (S1 m (Av m)) v:=fun v hv=>by rw[BE,eA,QG,Ie hv]
  refine⟨hI.walks,by rw[G3,eT];exact h.start_ok,fun v hv=>by grind[L5],fun v hv=>?_,fun v hv=>?_,fun v hv s hs=>?_⟩
  all_goals
   have hv':=hv
   rw[G3,eT] at hv'
   have h1:=Al7 hst v (by have:=L5 hv;omega)
  ·grind
  ·grind
  ·rw[G3,eT]
   rw[BE,eA] at hs
   exact(Wy (ap:=S1 m (Av m) v) (Q:=fun s=>Ah (Av m) s.2=J) (fun i v' hv2=>(YB (by omega) hv' i).2 v' hv2) _ _) s hs
theorem q0.cfgA{m:cz}{c:b9}(h:El m)(hc:q0 m c):G3 m c:=by
 have hP:=h.small.2.1
 have hp:I m.ay<=2:=by grind
 cases hc with
 |ctr hk s ys hs hy hb hc=>
  rw[G3,FX (by omega),hc]
  rcases h.kinds with⟨h,_⟩|⟨K,hK,h,hk2⟩|⟨h,hk2⟩
  ·exact(PZ m s hs ys hy fun y hy=>by grind).validM h
  all_goals omega
 |chan hk s ys hs hy hb hc=>grind[O6]
 |bag hk s ts hs hb hc=>grind[Sg]
def ShE(m:cz)(most:Int)(σ':St):Prop:=(∃l st,σ'=stX m most l st)∨∃(l:List b9) (st:List (List cb)),σ'=⟨[G (cX m most (.gro 2 (I l) 2) (.acc 1 (st.map B2))),none,G (Ab (l.map eV))],ow1 st⟩
theorem ShE.len{m:cz}{most:Int}{σ':St}(h:ShE m most σ'):1<=I σ'.H:=by
 rcases h with⟨l,st,rfl⟩|⟨l,st,rfl⟩
 all_goals grind
theorem Gw.chx{K:Int}{m:cz}(hK:K=2∨K=3)(h:Gw K m):mi m:=by
 have hp:1<=I m.ay/\m.ay.length<=2:=by rcases h.ay with e|e<;>rw[e]<;>decide
 have hl:I m.ax<=2:=by rcases h.ax with e|e<;>rw[e]<;>decide
 refine⟨h.ok hK,by have:=h.kind;omega,⟨by have:=h.count;omega,hp.1,hp.2⟩,by omega,fun h3=>?_,h.chr hK⟩
 have hk:=h.kind
 have e:K=3:=by omega
 subst e
 have hr:=h.au
 have hl1:1<=I m.ax:=by rcases h.ax with e|e<;>rw[e]<;>decide
 grind[ly,Dd]
theorem El.all22{m:cz}(h:El m){c:b9}(hc:G3 m c):F0 18 [Ad m,dV c] (fw (BE m c)):=by
 rcases h.kinds with⟨h,hk⟩|⟨K,hK,h,hk⟩|⟨h,hk⟩
 ·have eT:=FX (m:=m) (by omega)
  rw[BE,Ahn hk]
  exact AnS h (Nq hk (by grind))
 ·have eT:=FX (m:=m) (by omega)
  have hv:Ah (AE m) c=J:=by grind
  rw[BE,Akk hK hk]
  exact Ahu (h.chx hK) hv fun i=>(((h.chm hK).st h.rks).bp c hv i).1
 ·have eT:=U8 hk
  have hv:Ah (Av m) c=J:=by grind
  rw[BE,Akl hk]
  exact Ahs h hv fun i=>(h.tmm.st.bp c hv i).1
inductive Ex (m:cz) (c0:b9):List cb->b9->Prop where
 |nil:Ex m c0 [] c0
 |snoc {run:List cb} {c:b9} {s:cb} (h:Ex m c0 run c) (h0:(BE m c).2=0) (hs:s∈ (BE m c).1):Ex m c0 (run++[s]) s.2
theorem Ex.ok{m:cz}(hm:El m){run:List cb}{c:b9}(h:Ex m m.start run c):G3 m c:=by
 induction h with
 |nil=>exact hm.steps.start
 |snoc _ _ hs ih=>exact hm.steps.next _ ih _ hs
theorem Xx(m:cz)(hm:El m)(l:List UInt8)(hl:I l<=200)(n:Nat):∀(a:Nat) (c:b9) (run:List cb),a<=I l->Ex m m.start run c->I run+n<=60->
  ∃(d:b9) (run':List cb) (a':Nat),Ex m m.start run' d/\run'.length<=60/\a'<=I l/\
  Rn PP AbQ 1 (.tup [dV d,.v (B2 run')]) (dz l a') ([kl Y3 [1,1,1,0,1,0,0],.blk 0,kc Y3 [1,1,1,1]]++[]) (cy 52 [(0,.ptr 0 0),(4,.v (.ref (A0 m))),(6,.ptr 1 0),(8,.ptr 2 0),(9,Sl run),(10,di n)]) (stN l a c run):=by
 induction n with
 |zero=>
  intro a c run ha hr hn
  refine⟨c,run,a,hr,by omega,ha,?_⟩
  exact lv 52 [4] (.f .r) (Y ((↑0:Int)>0)=O/\Q [G (co l a)]/\Q (bk [dV c,bt (B2 run)])) ⟨rfl,rfl,rfl⟩
 |succ n ih=>
  intro a c run ha hr hn
  have hc:=Ex.ok hm hr
  have e2:=hm.steps.len c hc
  have hall:=hm.all22 hc
  have snoc:∀s:cb,(BE m c).2=0->s∈ (BE m c).1->Ex m m.start (run++[s]) s.2:=fun s h1 h2=>.snoc hr h1 h2
  generalize BE m c=p at*
  by_cases hA:p.2≠0∨p.1=[]
  ·refine⟨c,run,a,hr,by omega,ha,?_⟩
   refine lv 52 [4] (.t<|.c (fw p)<|.b .r (.t .r)) (Y ((↑(n+1):Int)>0)=J/\_/\((p.snd !=0)=J->Q [G (co l a)]/\bk [bt (tv c.n c.az),bt (ai (U c8 run))]=bk [dV c,bt (B2 run)])/\((p.snd !=0)=O->((I (U c8 p.fst):Int)==0)=J/\Q [G (co l a)]/\bk [bt (tv c.n c.az),bt (ai (U c8 run))]=bk [dV c,bt (B2 run)])) ⟨yr,hall,fun h=>⟨rfl,rfl⟩,fun h=>⟨?_,rfl,rfl⟩⟩
   have h:p.2=0:=by simpa using h
   rcases hA with h1|h1
   ·exact absurd h h1
   ·rw[h1];rfl
  ·have h0:p.2=0:=by omega
   have h1:p.1≠ []:=fun h=>hA (.inr h)
   have hlen:0<I p.1:=length_pos_iff.2 h1
   obtain⟨r,a1,r1,r2,r3,r4⟩:=A5 l hl a ha (I p.1) (by omega) (by omega)
   obtain⟨i,rfl⟩:∃i:Nat,r=i:=⟨r.toNat,by omega⟩
   obtain⟨x,hx⟩:∃x,p.1[i]?=G x:=⟨_,HI (show i<I p.1 by omega)⟩
   have hxm:=HO hx
   obtain⟨d,run',a',g1,g2,g3,g4⟩:=ih a1 x.2 (run++[x]) r3 (snoc x h0 hxm) (by simp;omega)
   refine⟨d,run',a',g1,g2,g3,?_⟩
   refine lv 52 [4] (.t<|.c (fw p)<|.f<|.f<|.c1 (co l a1) (di i)<|.x (c8 x)<|.ls [ke 0,ke 4,ke 6,ke 8,ch 9 (Sl (run++[x])),ch 10 (di n)] (stN l a1 x.2 (run++[x]))) (Y ((↑(n+1):Int)>0)=J/\_/\(p.snd !=0)=O/\((I (U c8 p.fst):Int)==0)=O/\Aa PP 14 [bq 0 0,di (I (U c8 p.fst):Int)] (dz l a) (di (i:Int)) (dz l a1)/\0<=(i:Int)/\(U c8 p.fst)[Z (i:Int)]?=G (c8 x)/\Q (U c8 run)/\Ao (I (U c8 run)+I (ab (vi x.fst::vi x.snd.n::dt x.snd.az::nV)::nV)) 40/\((Q (G (dp x.snd.n x.snd.az))/\True)/\True/\True)/\br 1 (U c8 run++[ab [vi x.fst,vi x.snd.n,dt x.snd.az]])=Sl (run++[x])/\di (yu yt ((↑(n+1):Int)-1))=di (n:Int)/\Q [G (co l a1),G [di 0,dn],G (dp x.snd.n x.snd.az)]/\[(1,3,U c8 run++ab (vi x.fst::vi x.snd.n::dt x.snd.az::nV)::nV)]=[(1,3,U c8 (run++[x]))]/\_) ⟨decide_eq_true (by omega),hall,by rw[h0];rfl,beq_eq_false_iff_ne.2 (by rw[List.length_map];omega),by rw[List.length_map];exact r4,by omega,Am hx,rfl,⟨?_,?_⟩,(by repeat' first|with_reducible refine And.intro ?_ ?_|rfl|trivial),?_,?_,rfl,?_,iK g4⟩
   ·simp only[HH,HN,HR];omega
   ·simp only[HH,HN,HR];omega
   ·rw[Sl, ←U2]
   ·rw[Ak];congr 2;omega
   ·rw[←U2]
theorem Af8(m:cz)(hm:El m)(l:List UInt8)(hl:I l<=200)(a:Nat)(ha:a<=I l)(most:Nat)(hmo:most<=50):
  ∃(d:b9) (run:List cb) (a':Nat),Ex m m.start run d/\run.length<=60/\a'<=I l/\Aa PP 8 [.ptr 0 0,Ad m,di most] (dz l a) (.tup [dV d,.v (B2 run)]) (dz l a'):=by
 obtain⟨n,a1,n1,n2,n3,n4⟩:=A5 l hl a ha (most+1) (by omega) (by omega)
 obtain⟨k,rfl⟩:∃k:Nat,n=k:=⟨n.toNat,by omega⟩
 obtain⟨d,run,a',g1,g2,g3,g4⟩:=Xx m hm l hl k a1 m.start [] n3 .nil (by grind)
 refine⟨d,run,a',g1,g2,g3,?_⟩
 refine sv AbQ 52 [4] (.h (.q 3 0)<|.h (.nw 9 1 3)<|.c1 (co l a1) (di k)<|.ls [ke 0,ke 4,ke 6,ke 8,ke 9,ke 10] (stN l a1 m.start [])) (Aa PP 14 [bq 0 0,di (yu yt ((most:Int)+1))] (dz l a) (di (k:Int)) (dz l a1)/\Q [G (co l a1),G [di 0,dn],G (dp m.start.n m.start.az)]/\Q [(1,3,nV)]/\_) ⟨by grind[Ak],rfl,rfl,iK g4⟩
noncomputable abbrev Aq8:=Tryz.f79
theorem Aqx{m:cz}{t:cr}{ap:b9->Int->List b9×Int}(hm:ml m t ap)(c:b9)(hs:c.size<=1000)(hv:Ah t c=J)(i:Int)(h1: -1<=i)(h2:i<I m.av):F0 79 [Ad m,di i,dV c] (dq (ap c i)):=by
 have hval:=hm.int.valid c (by omega)
 have hb:=hm.beh c hs hv i h1 h2
 generalize ap c i=p at hb⊢
 refine sv Aq8 36 [3,5] (.c (di 0)<|.k<|.f<|.f<|.c (db J)<|.k<|.c (dq p)<|.r) (tl m/\Y (i< -1)=O/\Y (i>=(I (U Al m.av):Int))=O/\tg m c/\F0 91 [Ad m,di i,dV c] (dq p)/\bk [cq p.fst,di p.snd]=dq p) ?_
 grind[Ao4]
theorem gu.st{m:cz}(hm:gu m):ml m (AE m) (i6 m):=by
 have hcf:∀c,Ah (AE m) c=J->AN m c:=fun c hv=>Nq hm.kind hv
 refine⟨hm.ok.int,Es m hm.ok,by rw[hm.kind];decide,hm.ay.2.2.2.2,fun c hv i=>?_,fun c _ hv i h1 h2=>Sf m hm c (hcf c hv) i h1 h2⟩
 obtain⟨_,h1,h2⟩:=OO hm (hcf c hv) i
 exact⟨by omega,fun v h=>by have h3:v.size<=8:=(h2 v h).ok.sizeM hm;omega⟩
theorem El.stm{m:cz}(h:El m):ml m (o6 m) (mn m):=by
 rcases h.kinds with⟨h,hk⟩|⟨K,hK,h,hk⟩|⟨h,hk⟩
 ·rw[FX (by omega),Ahn hk];exact h.st
 ·rw[FX (by omega),Akk hK hk];exact(h.chm hK).st h.rks
 ·rw[U8 hk,Akl hk];exact h.tmm.st
theorem Wx{ap:Int->List b9×Int}:∀(n:Nat) (i:Int) (acc:List cb),(CX ap n i acc).2=0->∀s∈ (CX ap n i acc).1,s∈acc∨(i<=s.1/\s.1<i+n/\(ap s.1).2=0/\s.2∈ (ap s.1).1)
 |0,i,acc,h,s,hs=>by
  grind[CX]
 |n+1,i,acc,h,s,hs=>by
  rw[CX] at h hs
  split at hs
  ·grind
  ·rename_i h0
   rw[HZ h0] at h
   rcases Wx n (i+1) _ h s hs with h1|⟨h1,h2,h3,h4⟩
   all_goals grind
theorem Aaf{m:cz}{c d:b9}{l:List cb}(h:Ex m c l d):∀(k:Nat) (s:cb),l[k]?=G s->∃e,Ex m c (l.take k) e/\(BE m e).2=0/\s∈ (BE m e).1/\Ex m c (l.take (k+1)) s.2:=by
 induction h with
 |nil=>grind
 | @snoc l d s' h1 h2 h3 ih=>
  intro k s hs
  by_cases hk:k<I l
  ·grind
  ·have hk2:=(HL.1 hs).1
   simp at hk2
   have:k=I l:=by omega
   subst this
   simp at hs;subst hs
   refine⟨d,by rw[List.take_left'];exact h1;rfl,h2,h3,?_⟩
   rw[Im (by simp)]
   exact .snoc h1 h2 h3
theorem Ex.det{m:cz}{c d e:b9}{l:List cb}(h:Ex m c l d)(h2:Ex m c l e):d=e:=by
 cases h with
 |nil=>
  generalize hl:([]:List cb)=l at h2
  cases h2<;>simp_all
 | @snoc l d s h1 h3 h4=>
  generalize hl:l++[s]=l' at h2
  cases h2<;>simp_all
noncomputable abbrev AoS:=Tryz.f78
theorem Aai{m:cz}{t:cr}{ap:b9->Int->List b9×Int}(hm:ml m t ap):F0 78 [Ad m] (di 0):=by
 exact sv AoS 12 [1] (.c (di 0)<|.k<|.f .r) (_/\(m.kind==6)=O/\Q (di 0)) ⟨hm.chk,Iy.2 hm.kind,rfl⟩
noncomputable abbrev AoU:=Tryz.f81
theorem Aa2(s:cb)(v:b9)(h:v.size<=1000000):F0 81 [.v (Ac v),.v (.ref (c8 s))] (db (Ar v s.2==0)):=by
 refine sv AoU 9 [2] (.c (di (Ar v s.2)) .r) (F0 41 [dV v,dV s.snd] (di (Ar v s.snd))/\Q (db (Ar v s.snd==0))) ?_
 grind[Hl]
abbrev Al0(c:b9):St:=⟨[G [di c.n,cq c.az]],[]⟩
noncomputable abbrev AmA:=Tryz.f43
noncomputable def AkH:=yl AmA
theorem AeZ(m:cz)(hm:El m)(run:List cb)(d:b9)(hr:Ex m m.start run d)(hl:I run<=64)(n:Nat):∀(k:Nat) (c:b9),I run-k=n->Ex m m.start (run.take k) c->
  Rn PP AmA 0 (.tup [di (I run),di 0]) ba ([kl AkH [1,1,1,0,1,0,0],.blk 1,kc AkH [1,1,1,1]]++[]) (cy 59 [(2,.v (B2 run)),(3,.v (.ref (A0 m))),(9,.ptr 0 0),(30,.v (B2 run)),(31,di (I run)),(32,di k)]) (Al0 c):=by
 induction n with
 |zero=>
  intro k c hn hc
  refine lv 59 [3,4] (.f .r) (Y ((k:Int)<(I run:Int))=O/\bk [di (I (U c8 run):Int),di 0]=bk [di (I run:Int),di 0]) ?_
  grind
 |succ n ih=>
  intro k c hn hc
  obtain⟨s,hs⟩:=yk (show k<I run by omega)
  obtain⟨e,g1,g2,g3,g4⟩:=Aaf hr k s hs
  have he:e=c:=g1.det hc
  subst he
  have hst:=hm.steps
  have hco:=g1.ok hm
  have hcn:=g4.ok hm
  have hsz:=hst.size e hco
  rcases Wx _ _ _ g2 s g3 with h1|⟨h1,h2,h3,h4⟩
  ·grind
  have happ:=Aqx hm.stm e hsz hco s.1 h1 (by omega)
  obtain⟨b1,b2⟩:=hm.stm.bp e hco s.1
  generalize mn m e s.1=p at happ h3 h4 b1 b2
  obtain⟨L,z⟩:=p
  dsimp only at h3 h4 b1 b2
  subst h3
  have hh:=FV 81 [] [.ref (c8 s)] (fun v=>Ar v s.2==0) L (by omega) (fun v hv=>Aa2 s v (by grind))
  have ha:(L.any fun v=>Ar v s.2==0)=J:=List.any_eq_true.2 ⟨s.2,h4,by grind[CW]⟩
  rw[ha] at hh
  exact lv 59 [3,4] (.t<|.x (c8 s)<|.c (dq (L,0))<|.h (.q 13 0)<|.h (.fa 1 [11])<|.c (db J)<|.k<|.lo [ke 2,ke 3,ke 9,ke 30,ke 31,ch 32 (di (k+1:Nat))] (Al0 s.2)) (Y ((k:Int)<(I run:Int))=J/\0<=(k:Int)/\(U c8 run)[Z (k:Int)]?=G (c8 s)/\_/\_/\di (yu yt ((k:Int)+1))=di (↑(k+1):Int)/\cm 1 [] [G (dp s.snd.n s.snd.az)]=J/\Q [G (dp s.snd.n s.snd.az)]/\_) ⟨yr,by omega,Am hs,happ,hh,by grind[Ae],rfl,rfl,iK (ih (k+1) s.2 (by omega) g4)⟩
theorem AeY(m:cz)(hm:El m)(run:List cb)(d:b9)(hr:Ex m m.start run d)(hl:I run<=64):F0 43 [Ad m,dV m.start,.v (B2 run)] (.tup [di (I run),di 0]):=by
 have hs:=hm.steps
 have h1:=hm.int.valid m.start (by have:=hs.size _ hs.start;omega)
 rw[show Ah (o6 m) m.start=J from hs.start] at h1
 exact sv AmA 59 [3,4] (.c (di 0)<|.k<|.c (db J)<|.k<|.f<|.lo [ke 2,ke 3,ke 9,ke 30,ch 31 (di (I run)),ch 32 (di (0:Nat))] (Al0 m.start)) (_/\_/\Y ((I (U c8 run):Int)>64)=O/\di (I (U c8 run):Int)=di (I run:Int)/\Q (di 0)/\cm 1 [] [G (dp m.start.n m.start.az)]=J/\Q [G (dp m.start.n m.start.az)]/\_) ⟨Aai hm.stm,h1,HM (by grind),by grind,rfl,rfl,rfl,iK (AeZ m hm run d hr hl _ 0 m.start rfl .nil)⟩
noncomputable abbrev Am8:=Tryz.f21
theorem Aaj(m:cz)(hm:El m)(run:List cb)(d:b9)(hr:Ex m m.start run d)(hl:I run<=64):F0 21 [Ad m,.v (B2 run)] (.tup [dV d,di (I run),di 0]):=by
 have hck:=AeY m hm run d hr hl
 by_cases h:run=[]
 ·refine sv Am8 37 [2] (.c (.tup [di (I run),di 0])<|.k<|.t<|.c (dV m.start) .r) (F0 43 [Ad m,dV m.start,bt (B2 run)] (bk [di (I run:Int),di 0])/\((I run:Int)==0)=J/\F0 44 [dV m.start] (dV m.start)/\bk [bt (tv m.start.n m.start.az),di 0,di 0]=bk [dV d,di (I run:Int),di 0]) ?_
  have hd:d=m.start:=by rw[h] at hr;exact hr.det .nil
  have hcp:=LO _ m.start (HP _) (by have:=hm.steps.size _ hm.steps.start;omega)
  grind
 ·obtain⟨s,hs⟩:∃s,run[I run-1]?=G s:=⟨_,HI (show I run-1<I run by have:=length_pos_iff.2 h;omega)⟩
  refine sv Am8 37 [2] (.c (.tup [di (I run),di 0])<|.k<|.f<|.x (c8 s)<|.c (dV s.2) .r) (F0 43 [Ad m,dV m.start,bt (B2 run)] (bk [di (I run:Int),di 0])/\((I run:Int)==0)=O/\0<=yu yt ((I run:Int)-1)/\(U c8 run)[Z (yu yt ((I run:Int)-1))]?=G (c8 s)/\F0 44 [dV s.snd] (dV s.snd)/\bk [bt (tv s.snd.n s.snd.az),di (I run:Int),di 0]=bk [dV d,di (I run:Int),di 0]) ?_
  have hlen:=length_pos_iff.2 h
  obtain⟨e,g1,g2,g3,g4⟩:=Aaf hr _ s hs
  have hd:d=s.2:=by
   rw[Nat.sub_add_cancel hlen,List.take_length] at g4
   exact hr.det g4
  have hcp:=LO _ s.2 (HP _) (by have:=hm.steps.size _ (g4.ok hm);omega)
  have ew:yt.wrap ((I run:Int)-1)=((I run-1:Nat):Int):=by rw[Ak];omega
  simp_all
noncomputable abbrev Am9:=Tryz.f10
theorem QK(m:cz)(hm:El m)(run:List cb)(d c:b9)(hr:Ex m m.start run d)(hl:I run<=64):F0 10 [Ad m,dV c,.v (B2 run)] (di (if (Ar d c==0)=J then 0 else 40)):=by
 have h1:=Aaj m hm run d hr hl
 have h2:=FZ d c (by have:=hm.steps.size d (hr.ok hm);omega)
 cases hb:(Ar d c==0) with
 |true=>
  refine sv Am9 24 [3,4] (.c (.tup [dV d,di (I run),di 0])<|.k<|.c (db J)<|.k<|.r) (F0 21 [Ad m,bt (B2 run)] (bk [dV d,di (I run:Int),di 0])/\F0 22 [dV d,dV c] (db J)/\di 0=di (if true=J then 0 else 40)) ?_
  grind
 |false=>
  refine sv Am9 24 [3,4] (.c (.tup [dV d,di (I run),di 0])<|.k<|.c (db O)<|.k<|.r) (F0 21 [Ad m,bt (B2 run)] (bk [dV d,di (I run:Int),di 0])/\F0 22 [dV d,dV c] (db O)/\di 40=di (if false=J then 0 else 40)) ?_
  grind
inductive jl (S:b9->List cb×Int):Nat->b9->b9->Prop where
 |zero (x:b9):jl S 0 x x
 |succ {k:Nat} {x y:b9} {s:cb} (hs:s∈ (S x).1) (h:jl S k s.2 y):jl S (k+1) x y
theorem jl.snoc{S:b9->List cb×Int}{k:Nat}{x y:b9}{s:cb}(h:jl S k x y)(hs:s∈ (S y).1):jl S (k+1) x s.2:=by
 induction h with
 |zero x=>exact .succ hs (.zero _)
 |succ h1 _ ih=>exact .succ h1 (ih hs)
theorem Ex.rch{m:cz}{c0:b9}{run:List cb}{c:b9}(h:Ex m c0 run c):jl (BE m) (I run) c0 c:=by
 induction h with
 |nil=>exact .zero _
 |snoc _ _ hs ih=>rw[HW];exact ih.snoc hs
theorem Wv(l:List b9)(v:b9):(l.any fun x=>Ar x v==0)=J↔v∈l:=by
 grind[CW]
theorem Agb(l:List b9)(v:b9):Y (Dj l v<0)=J↔v∉l:=by
 have h:=FH (fun x=>Ar x v==0) l 0
 grind[Wv,Dj]
theorem ZV{F:List b9}(hn:F.Nodup){i:Nat}{a b:b9}(ha:(sortV F)[i]?=G a)(hb:(sortV F)[i+1]?=G b):Ar a b<0:=by
 grind[List.pairwise_iff_getElem,Hy,AR,CW]
end Go.Proofs.YtkkplhjidondkaaGreat
