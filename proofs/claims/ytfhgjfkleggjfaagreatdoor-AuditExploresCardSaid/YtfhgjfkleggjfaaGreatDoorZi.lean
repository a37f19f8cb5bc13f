/-
  A part of the proof.
-/
import Derived.Test.YtfhgjfkleggjfaaGreatDoorZh
import Derived.Test.YtfhgjfkleggjfaaGreatDoorZe
import Derived.Test.YtfhgjfkleggjfaaGreatDoorZf
import Derived.Test.YtfhgjfkleggjfaaGreatDoorZg
import Derived.Test.YtfhgjfkleggjfaaGreatDoorZd
namespace Go.Proofs.YtfhgjfkleggjfaaGreatDoor
open Go.Dv Go.Nv
set_option maxRecDepth 20000
open Go.IntKind (u64)
open Go.IntKind renaming wrap → yu, i64 → yt
open List renaming length → I, map → U, drop → W
open Option renaming some → G
open Bool renaming true → J, false → O
open Decidable renaming decide → Y
open Int renaming toNat → Z
open Go.Dv.V renaming list → ai, str → ae, agg → ab, int → aa, ref → bz, fn → bw, nils → bv, bool → bu
open Go.Dv.D renaming v → bt, acc → br, ptr → bq, arr → bo, gro → bm, tup → bl, undef → bk, dagg → bj
open Go.Dv.St renaming mk → bi
open Go.Dv.KI renaming blk → bh
open _root_.ByteArray renaming mk → bf
open Go renaming Operand → x8, Program → x7, TypeId → x6, World → x5, Value → yz, Oper → yy, FuncId → yx, Func → yw, IntKind → yv
structure sq(m:b9)(t:cy):Prop where
 chk:F0 15 [Af m] (di 0)
 val:∀c:bc,c.size<=1000->F0 25 [Af m,dV c] (db (Ah t c))
 kind:m.kind=2∨m.kind=3∨m.kind=5
 few:I m.av<=12
section
variable {m : b9} {t : cy} (hm : sq m t) {c : bc} (hcs : c.size <= 1000) (hv : Ah t c = true)
include hm
theorem R5:F0 24 [Af m] (di 0):=by
 exact sv AiH 12 [1] (.c (di 0)<|.k<|.f .r) (_/\(m.kind==6)=O/\Q (di 0)) ⟨hm.chk,by rcases hm.kind with h|h|h<;>rw[h]<;>rfl,rfl⟩
include hcs hv
theorem QT:F0 25 [Af m,dV c] (db J):=hv▸hm.val c hcs
theorem AhK(hk:m.kind=2)(p:List bc×Int)(hp:F0 90 [Af m,dV c] (du p)):F0 51 [Af m,dV c] (du p):=by
 exact sv ue 38 [2,3] (.c (di 0)<|.c (db J)<|.k<|.t<|.c (du p) .r) (_/\_/\(m.kind==2)=J/\_/\bl [cx p.fst,di p.snd]=du p) ⟨R5 hm,QT hm hcs hv,by rw[hk];rfl,hp,rfl⟩
theorem AhJ(hk:m.kind=3)(p:List bc×Int)(hp:F0 90 [Af m,dV c] (du p)):F0 51 [Af m,dV c] (du p):=by
 exact sv ue 38 [2,3] (.c (di 0)<|.c (db J)<|.k<|.f<|.t<|.c (du p) .r) (_/\_/\(m.kind==2)=O/\(m.kind==3)=J/\_/\bl [cx p.fst,di p.snd]=du p) ⟨R5 hm,QT hm hcs hv,by rw[hk];rfl,by rw[hk];rfl,hp,rfl⟩
theorem AhI(hk:m.kind=5)(w:bc)(hp:F0 91 [Af m,dV c] (.tup [dV w,di 0])):F0 51 [Af m,dV c] (du ([w],0)):=by
 refine sv ue 38 [2,3] (.c (di 0)<|.c (db J)<|.k<|.f<|.f<|.t<|.c (.tup [dV w,di 0]) .r) (_/\_/\(m.kind==2)=O/\(m.kind==3)=O/\(m.kind==5)=J/\_/\bl [bt (ai [ab [vi w.n,dt w.az]]),di 0]=du ([w],0)) ⟨R5 hm,QT hm hcs hv,by rw[hk];rfl,by rw[hk];rfl,by rw[hk];rfl,hp,?_⟩
 show _=bl [.v (.list [eV w]),di 0]
 rw[AE]
theorem Aar(q:List bc×Int)(hq:F0 51 [Af m,dV c] (du q)):F0 26 [Af m,di (-1),dV c] (du q):=by
 exact sv Zz 78 [3,5] (.c (di 0)<|.k<|.k<|.f<|.c (db J)<|.c (du q) .r) (_/\Y (-1>=(I (U Ai m.av):Int))=O/\_/\_/\bl [cx q.fst,di q.snd]=du q) ⟨R5 hm,yq,QT hm hcs hv,hq,rfl⟩
theorem Aj9(hk:m.kind=5)(i:Nat)(hi:i<I m.av)(p:List bc×Int)(hp:F0 53 [Af m,di i,dV c] (du p)):F0 26 [Af m,di i,dV c] (du p):=by
 exact sv Zz 78 [3,5] (.c (di 0)<|.k<|.f<|.f<|.c (db J)<|.k<|.f<|.f<|.t<|.c (du p) .r) (_/\Y ((i:Int)< -1)=O/\Y ((i:Int)>=(I (U Ai m.av):Int))=O/\_/\((i:Int)== -1)=O/\(m.kind==4)=O/\(m.kind==5)=J/\_/\bl [cx p.fst,di p.snd]=du p) ⟨R5 hm,yq,by rw[H9];exact yq,QT hm hcs hv,Ip.2 (by omega),by rw[hk];rfl,by rw[hk];rfl,hp,rfl⟩
theorem Agr(hk:m.kind=2∨m.kind=3)(i:Nat)(hi:i<I m.av)(p p0:bc×Int)(hp0:F0 54 [Af m,di i,dV c] (dP p0))(hp:F0 55 [Af m,di i,dV c] (dP p)):F0 26 [Af m,di i,dV c] (du (BG p)):=by
 refine sv Zz 78 [3,5] (.c (di 0)<|.k<|.f<|.f<|.c (db J)<|.k<|.f<|.f<|.f<|.c (dP p0)<|.t<|.c (dP p)<|.b .r (.b .r .r)) (_/\Y ((i:Int)< -1)=O/\Y ((i:Int)>=(I (U Ai m.av):Int))=O/\_/\((i:Int)== -1)=O/\(m.kind==4)=O/\(m.kind==5)=O/\_/\(m.kind !=1)=J/\_/\((p.snd==18)=J->bl n7=du (BG p))/\((p.snd==18)=O->((p.snd !=0)=J->bl [bt (ai []),di p.snd]=du (BG p))/\((p.snd !=0)=O->bl [bt (ai [ab [vi p.fst.n,dt p.fst.az]]),di 0]=du (BG p)))) ⟨R5 hm,yq,by rw[H9];exact yq,QT hm hcs hv,Ip.2 (by omega),by rcases hk with h|h<;>rw[h]<;>rfl,by rcases hk with h|h<;>rw[h]<;>rfl,hp0,by rcases hk with h|h<;>rw[h]<;>rfl,hp,fun h=>?_,fun h=>⟨fun h2=>?_,fun h2=>?_⟩⟩
 ·rw[BG,HV h];rfl
 ·rw[BG,HR (by rw[h];decide),HV h2];rfl
 ·rw[BG,HR (by rw[h];decide),HR (by rw[h2];decide)]
  show _=bl [.v (.list [eV p.1]),di 0]
  rw[AE]
theorem Aaw(ap:Int->List bc×Int)(hl:∀i,(ap i).1.length<=1000)(hap:∀i:Int, -1<=i->i<I m.av->F0 26 [Af m,di i,dV c] (du (ap i))):
  F0 12 [Af m,dV c] (e7 (Cz ap (I m.av+1) (-1) [])):=by
 have hsz:=hm.few
 refine sv F8 57 [2,3] (.c (di 0)<|.c (db J)<|.h (.q 7 0)<|.h (.nw 7 1 3)<|.ls sb (FF [])) (_/\_/\Q (di (-1))/\Q [(1,3,nV)]/\I0 F8 (I bd.H) (e7 (Cz ap (I m.av+1) (-1) [])) bd [kl Co iw,bh 0,kc Co [1,1,1,1,1]] (ba 57 (tz m c)) (FF [])) ⟨R5 hm,QT hm hcs hv,rfl,rfl,⟨?_⟩⟩
 exact NK m (by omega) c ap hl hap (I m.av+1) (-1) [] (by omega) (by omega) (by omega) (by simp)
end
section
variable {m : b9} {t : cy} (hm : sq m t)
include hm
noncomputable abbrev AiQ:=Tryz.f146
theorem Aiq(hk:m.kind≠1)(i:Int):F0 146 [Af m,di i] (di 15):=by
 exact sv AiQ 23 [2] (.c (di 0)<|.k<|.t .r) (_/\(m.kind !=1)=J/\Q (di 15)) ⟨hm.chk,bne_iff_ne.2 hk,rfl⟩
noncomputable abbrev AkI:=Tryz.f99
theorem AkR(hk:m.kind≠1)(i:Int)(c:bc):F0 99 [Af m,di i,dV c] (.tup [db O,di 15]):=by
 exact sv AkI 26 [3,5] (.c (di 15)<|.k .r) (_/\Q (bl [db O,di 15])) ⟨Aiq hm hk i,rfl⟩
noncomputable abbrev Ajc:=Tryz.f54
theorem Alf(hk:m.kind≠1)(i:Int)(c:bc):F0 54 [Af m,di i,dV c] (dP (.mk 0 [],15)):=by
 exact sv Ajc 116 [3,5] (.c (.tup [db O,di 15])<|.k .r) (_/\bl [bt l8,di 15]=dP (bc.mk 0 [],15)) ⟨AkR hm hk i c,rfl⟩
end
theorem k8.rf{m:b9}(hm:k8 m):sq m (AF m):=⟨E5 m hm.ok,fun c _=>Pk m hm.ok c,by rcases hm.kind with h|h<;>simp[h],hm.few.1⟩
theorem BB.rf{m:b9}(hm:BB m):sq m (As m):=⟨T8 m hm,fun c _=>G2 m hm c,.inr (.inr hm.kind),by have:=hm.count;omega⟩
theorem AdX{m:b9}(hm:BB m){c:bc}(hv:Ah (As m) c=J)(hl:∀i,(Q9 m (As m) c i).1.length<=1000):F0 12 [Af m,dV c] (e7 (Cz (Q9 m (As m) c) (I m.av+1) (-1) [])):=by
 have hcs:c.size<=1000:=by
  obtain⟨s,ps,rfl,hw⟩:=NZ hv
  rw[Gi];have:=hw.len;omega
 refine Aaw hm.rf hcs hv _ hl fun i h1 h2=>?_
 by_cases h0:i<0
 ·have e:i= -1:=by omega
  subst e
  have ea:Q9 m (As m) c (-1)=([ln m c],0):=by unfold Q9;rw[HV (by decide)]
  rw[ea]
  exact Aar hm.rf hcs hv _ (AhI hm.rf hcs hv hm.kind _ (U4 m hm c hv))
 ·obtain⟨k,rfl⟩:∃k:Nat,i=k:=⟨i.toNat,by omega⟩
  obtain⟨r,hr⟩:∃r,m.av[k]?=G r:=⟨_,HA (show k<I m.av by omega)⟩
  have ea:Q9 m (As m) c (k:Nat)=Hv (As m) r c:=by unfold Q9;rw[HR h0,II,hr]
  rw[ea]
  exact Aj9 hm.rf hcs hv hm.kind k (by omega) _ (Aat m hm k r hr c hv)
theorem AdZ{m:b9}(hm:k8 m){c:bc}(hv:Ah (AF m) c=J)(hl:∀i,(g7 m (AF m) c i).1.length<=1000):F0 12 [Af m,dV c] (e7 (Cz (g7 m (AF m) c) (I m.av+1) (-1) [])):=by
 obtain⟨s,ws,rfl,h⟩:=RK hm.kind hv
 have hcs:(cb s ws).size<=1000:=by have:=qz hm h;omega
 refine Aaw hm.rf hcs hv _ hl fun i h1 h2=>?_
 by_cases h0:i<0
 ·have e:i= -1:=by omega
  subst e
  have ea:g7 m (AF m) (cb s ws) (-1)=(sortV (e8 m (cb s ws) (I m.ay)),0):=by unfold g7;rw[HV (by decide)]
  rw[ea]
  refine Aar hm.rf hcs hv _ ?_
  rcases hm.kind with hk|hk
  ·exact AhK hm.rf hcs hv hk _ (MS hm h)
  ·exact AhJ hm.rf hcs hv hk _ (MS hm h)
 ·obtain⟨k,rfl⟩:∃k:Nat,i=k:=⟨i.toNat,by omega⟩
  obtain⟨r,hr⟩:∃r,m.av[k]?=G r:=⟨_,HA (show k<I m.av by omega)⟩
  have ea:g7 m (AF m) (cb s ws) (k:Nat)=BG (RM (AF m) r (cb s ws)):=by unfold g7;rw[HR h0,II,hr]
  rw[ea]
  have hR:=hm.rule r (HG hr)
  obtain⟨j,hj⟩:∃j:Nat,r.chan=j:=⟨r.chan.toNat,by have:=hR.chan;omega⟩
  obtain⟨w,hw⟩:∃w,ws[j]?=G w:=⟨_,HA (by have:=hR.chan;rw[h.len];omega)⟩
  exact Agr hm.rf hcs hv hm.kind k (by omega) _ _ (Alf hm.rf (by rcases hm.kind with h|h<;>rw[h]<;>decide) k (cb s ws)) (Wj hm h hr hj hw)
section
variable {P : x7} {o : yy} {σ : St}
end
end Go.Proofs.YtfhgjfkleggjfaaGreatDoor

namespace Go.Nv
open Go.Dv
open Go.IntKind (u64)
open Go.IntKind renaming wrap → yu, i64 → yt
open List renaming length → I, map → U, drop → W
open Option renaming some → G
open Bool renaming true → J, false → O
open Decidable renaming decide → Y
open Int renaming toNat → Z
open Go.Dv.V renaming list → ai, str → ae, agg → ab, int → aa, ref → bz, fn → bw, nils → bv, bool → bu
open Go.Dv.D renaming v → bt, acc → br, ptr → bq, arr → bo, gro → bm, tup → bl, undef → bk, dagg → bj
open Go.Dv.St renaming mk → bi
open Go.Dv.KI renaming blk → bh
open _root_.ByteArray renaming mk → bf
open Go renaming Operand → x8, Program → x7, TypeId → x6, World → x5, Value → yz, Oper → yy, FuncId → yx, Func → yw, IntKind → yv
theorem WB{E:cf}{g:Gh}{σ:St}{w:x5}(hw:WI E g σ w)(b:Nat)(h:cf.priv ⟨g,w,σ⟩ b):E.w.heap.size<=b∨E.priv b:=by
 rcases h with⟨i,cs,hi,rfl⟩|⟨x,hx,u,hu,hb⟩
 ·exact hw.objs i cs hi
 ·exact hw.owns x hx u hu b hb
theorem AaQ{E:cf}{g g':Gh}{σ σ':St}{w w':x5}(hw:WI E g σ w)(h:WI ⟨g,w,σ⟩ g' σ' w'):WI E g' σ' w':=by
 have back:∀b,w.heap.size<=b∨cf.priv ⟨g,w,σ⟩ b->E.w.heap.size<=b∨E.priv b:=fun b hb=>by
  rcases hb with hb|hb
  ·exact .inl (I6 hw.size hb)
  ·exact WB hw b hb
 exact hw.update (fun b=>cf.priv ⟨g,w,σ⟩ b) (fun b hb=>WB hw b hb) (fun b hb hx=>h.keep b hb hx) h.M h.nE h.βE h.κE h.size h.os h.tape h.output h.rep
  (fun i cs hi=>back _ (h.objs i cs hi)) (fun x hx u hu b hb=>back _ (h.owns x hx u hu b hb)) (drawn:=h.drawn)
section
variable {P : x7} {R : List D -> St -> Prop} {k : List KI} {nt : Nat} {E : List (Nat × D)} {σ : St} {ops : Array yy} {L0 : List yy} {C : cf -> cf -> Prop}
theorem Cf(t f:Nat)(ds:List D)(d:D)(σ':St)(h0:L0.isEmpty=O)(hg:CK (ba nt E) ops (gg L0)=G true)(ht:(gg L0).dst=G t)(hop:vk f (gg L0).op=J)
  (hds:(clA (gg L0).op).map (iu (ba nt E))=ds) (hnoE:D.okNs (I σ.H) [] (ba nt E)=J) (hspec:Aa P f ds σ d σ')
  (hk:B8 C P R k ops L0.tail (ba nt (E++[(t,d)])) σ'):B8 C P R k ops L0 (ba nt E) σ:=by
 obtain⟨c,h1,h2,h3⟩:=Ajp hop
 rw[Tg h0]
 rw[O5] at hk
 intro E0 E' g a w B hC hf hB
 unfold wpList
 rw[HV (CP hf.env hg)]
 refine .inl ?_
 have hops:(gg L0).op.operands.toList.map (iu (ba nt E))=.v (.fn f [] [])::ds:=by
  rw[h1]
  simp only[Op.operands,Call.operands,h2]
  rw[h3] at hds
  simp[←hds,iu]
 have hop':Ad g (.v (.fn f [] [])::ds) ((gg L0).op.operands.toList.map a.eval):=by
  rw[←hops];exact Gm hf.wi.rep.gl hf.env _
 obtain⟨us,vs,ws,hfn,hargs,k1,k2,k3⟩:=Di h1 h2 hop'
 simp only[I7,Ad] at k1 k2
 subst k1;subst k2
 refine EY (_E:=E') (_g:=g) h1 h2 hspec.1 hfn hargs ?_
 refine Calls.mono (hspec.2 g w _ hf.wi.rep (by simpa using k3)) ?_
 rintro e w' ⟨u,g',rfl,hw',hr⟩
 have h4:=AaQ hf.wi hw'
 refine⟨u,rfl,?_⟩
 have hn:g.n=I σ.H:=hf.wi.rep.n
 have henv:Ad g' (ba nt E) a.tmps.toList:=by
  have h5:=EC (m:=g.n) (ts:=[]) _ _ (by rw[hn];exact hnoE) hf.env
  refine Ad.mono (g:=pf g g.n []) ⟨hw'.M,hw'.nE,hw'.βE,fun k m u h=>?_,hw'.κE⟩ _ _ h5
  simp[pf] at h
 have hfi:FI E' g' σ' (ba nt E) a w':=⟨h4,henv,hf.defers⟩
 have:=hfi.put h4 (Gh.le_refl _) (d:=d) (u:=u) hr (G t)
 rw[ht]
 exact hk E0 E' _ _ _ B hC this hB
end
end Go.Nv

namespace Go.Proofs.YtfhgjfkleggjfaaGreatDoor
open Go.Dv Go.Nv
set_option maxRecDepth 20000
open List (getElem?_of_mem map_drop replicate take take_length)
open Go.IntKind (u64)
open Go.IntKind renaming wrap → yu, i64 → yt
open List renaming length → I, map → U, drop → W
open Option renaming some → G
open Bool renaming true → J, false → O
open Decidable renaming decide → Y
open Int renaming toNat → Z
open Go.Dv.V renaming list → ai, str → ae, agg → ab, int → aa, ref → bz, fn → bw, nils → bv, bool → bu
open Go.Dv.D renaming v → bt, acc → br, ptr → bq, arr → bo, gro → bm, tup → bl, undef → bk, dagg → bj
open Go.Dv.St renaming mk → bi
open Go.Dv.KI renaming blk → bh
open _root_.ByteArray renaming mk → bf
open Go renaming Operand → x8, Program → x7, TypeId → x6, World → x5, Value → yz, Oper → yy, FuncId → yx, Func → yw, IntKind → yv
structure xv(T:List (List Bool))(c:Nat)(O:List Int):Prop where
 len:I O=c
 rng:∀x∈O,x= -1∨(0<=x/\x<I T)
theorem xv.set{T:List (List Bool)}{c:Nat}{O:List Int}(h:xv T c O){k row:Nat}(hr:row<I T):xv T c (O.set k row):=⟨by rw[List.length_set,h.len],fun x hx=>by
 rcases IE hx with hx|rfl
 ·exact h.rng x hx
 ·exact .inr ⟨by omega,by omega⟩⟩
theorem LS:∀(l:List cy) (vs:List bc) (k:Nat) (t:cy) (v:bc),BA l vs=J->l[k]?=G t->vs[k]?=G v->Ar t v=J
 |[],_,_,_,_,_,h,_=>by simp at h
 |_::_,[],_,_,_,_,_,h=>by simp at h
 |s::l,x::vs,0,t,v,h,h1,h2=>by
  simp only[BA,HB] at h
  simp at h1 h2
  subst h1;subst h2;exact h.1
 |s::l,x::vs,k+1,t,v,h,h1,h2=>by
  simp only[BA,HB] at h
  exact LS l vs k t v h.2 (by simpa using h1) (by simpa using h2)
theorem JS{l:List cy}{c:bc}(h:Ah (.prod l) c=J):c.size<=128/\c.az.length=I l/\BA l c.az=J:=by
 simp only[Ah,Ar,HB,HK,Il] at h
 obtain⟨h1,h2,h3,h4⟩:=h
 exact⟨by omega,by omega,h4⟩
theorem YA{l:List cy}{c:bc}(h:Ar (.prod l) c=J):I c.az=I l/\BA l c.az=J:=by
 simp only[Ar,HB,Il] at h
 exact⟨by omega,h.2.2⟩
theorem VV{m:b9}(hk:m.kind=2∨m.kind=3)(c:bc)(h:Ah (AF m) c=J):ChC m c:=by
 rw[AF] at h
 obtain⟨h1,h2,h3⟩:=JS h
 refine⟨h1,by rw[h2];simp;omega,fun k x hx=>?_⟩
 have hkl:=(HD.1 hx).1
 have ht:(cy.lab (I m.aw)::replicate (I m.ay) (Cl m))[1+k]?=G (Cl m):=by
  rw[show 1+k=k+1 by omega,Js,List.getElem?_replicate]
  rw[HV]
  simp at h2;omega
 have ho:=LS _ _ _ _ _ h3 ht hx
 rcases hk with hk|hk
 ·rw[show Cl m=.word (.lab (I m.ax)) by simp[Cl,hk]] at ho
  simp only[Ar,HB,HK] at ho
  have:=ho.2.1
  omega
 ·rw[show Cl m=.prio (I m.ax) m.au by simp[Cl,hk]] at ho
  simp only[Ar,HB,HK] at ho
  have:=ho.2.1
  omega
theorem Aam{m:b9}(c:bc)(h:Ah (As m) c=J):sx c:=by
 rw[As] at h
 obtain⟨h1,h2,h3⟩:=JS h
 have hb:∀b,c.az[1]?=G b->Ar (.bag (.prod [.lab (I m.ay),.lab (m.age+2)])) b=J:=fun b hb=>LS _ _ 1 _ _ h3 rfl hb
 refine⟨h1,h2,fun b hx=>?_,fun b v hx hv=>?_⟩
 ·have ho:=hb b hx
  simp only[Ar,HB] at ho
  have:=HL ho.1.2.1
  omega
 ·have ho:=hb b hx
  rw[Ar] at ho
  simp only[HB,Iw] at ho
  exact(YA (ho.1.2.2 v hv)).1
theorem FD.chm{K:Int}{m:b9}(hK:K=2∨K=3)(h:FD K m):la m (AF m):=by
 have hk:m.kind=2∨m.kind=3:=by rw[h.kind];exact hK
 have hpl:1<=I m.ay/\m.ay.length<=2:=by rcases h.ay with e|e<;>rw[e]<;>decide
 refine⟨(h.ok hK).int,JH m (h.ok hK),hk,⟨by have:=h.count;omega,hpl.2⟩,fun r hr=>?_,VV hk⟩
 obtain⟨i,hi⟩:=getElem?_of_mem hr
 have:=(h.av i r hi).act
 omega
theorem BB.tmm{m:b9}(h:BB m):kb m (As m):=by
 refine⟨h.int,Mv m h,h.kind,by have:=h.count;omega,fun r hr=>?_,Aam⟩
 obtain⟨i,hi⟩:=getElem?_of_mem hr
 have hr2:=h.av i r hi
 refine⟨?_,?_⟩
 ·rcases hr2.ar with e|⟨_,_,_,_,_,e⟩<;>rw[e]<;>simp
 ·rcases hr2.aq with e|⟨_,_,e⟩<;>rw[e]<;>simp
theorem F2{t:cy}{c:bc}(h:Ah t c=J):c.size<=128:=by
 simp only[Ah,HB,HK] at h
 omega
structure Ha(m:b9)(C:bc->Prop)(S:bc->List c8×Int):Prop where
 walks:F0 19 [Af m] (di 0)
 start:C m.start
 size:∀v,C v->v.size<=1000
 all:∀v,C v->F0 77 [Af m,dV v] (e7 (S v))
 len:∀v,C v->(S v).1.length<=256
 next:∀v,C v->∀s∈ (S v).1,C s.2
abbrev cX(m:b9)(most:Int)(F S:D):List D:=[di m.kind,.v (co m.aw),.v (co m.ay),.v (co m.ax),.v (cz m.au),di m.ao,di m.age,.v (Dq m.av),di m.start.n,cx m.start.az,di most,F,S]
abbrev fu(st:List (List c8)):List (Nat×Nat×List V):=[(1,1,st.map Aw)]
abbrev dj(m:b9)(most:Int)(l:List bc)(st:List (List c8)):St:=⟨[G (cX m most (.gro 1 (I l) 2) (.acc 1 (st.map Aw))),G (Ab (l.map eV))],fu st⟩
theorem iv(m:b9)(most:Int)(l:List bc)(st:List V)(n:Nat)(ts:List Nat)(h1:ts.contains 1=J)(h2:1<n):cm n ts [G (cX m most (.gro 1 (I l) 2) (.acc 1 st)),G (Ab (l.map eV))]=J:=by
 have h1:1∈ts:=by simpa using h1
 simp[cm,D.okNs,D.okN,Ak,h1,h2]
def AW(S:bc->List c8×Int):List bc->List (List c8)->List (List c8)×Int
 |[],st=>(st,0)
 |c::l,st=>if ((S c).2 !=0)=J then(st,(S c).2) else AW S l (st++[(S c).1])
noncomputable abbrev Zq:=Tryz.f43
noncomputable def Wc:=yl Zq
noncomputable abbrev lx:=fun a₀ b₀ c₀ d₀=>[G (cX a₀ b₀ (bm 1 (I c₀) 2) (br 1 (U Aw d₀))),G (Ab (U eV c₀))]
noncomputable abbrev kx:=fun a₀=>(br 1 (U Aw a₀))
theorem YU{m:b9}{C:bc->Prop}{S:bc->List c8×Int}(hm:Ha m C S)(most:Int)(l:List bc)(hl:I l<=256)(hC:∀v∈l,C v)(k0:Nat)(hk0:k0<I l)(N:Nat):∀(j:Nat) (st:List (List c8)),I l-k0-j=N->I st=k0+j->
  Rn PP Zq 2 (di (AW S (l.drop (k0+j)) st).2) (dj m most l (AW S (l.drop (k0+j)) st).1) ([kl Wc [1,0,1,0,0],.blk 0,kc Wc [1,1]]++[]) (ba 45 [(0,.ptr 0 0),(16,.arr 1 (k0*2) (I l-k0)),(17,di ((I l-k0:Nat):Int)),(18,di j)]) (dj m most l st):=by
 induction N with
 |zero=>
  intro j st hn hs
  rw[HU (by omega)]
  simp only[AW]
  exact lv 45 [] (.f .ro) (Y ((j:Int)<(↑(I l-k0):Int))=O/\cm 2 [1] [G (cX m most (bm 1 (I l) 2) (br 1 (U Aw st))),G (Ab (U eV l))]=J/\Q [G (cX m most (bm 1 (I l) 2) (br 1 (U Aw st))),G (Ab (U eV l))]/\Q [(1,1,U Aw st)]/\Q (di 0)) ⟨yq,iv _ _ _ _ _ _ rfl (by decide),rfl,rfl,rfl⟩
 |succ N ih=>
  intro j st hn hs
  obtain⟨c,hc⟩:=@yk _ l (k0+j) (by omega)
  have e3:l.drop (k0+j)=c::l.drop (k0+j+1):=by rw[HP (by omega)];congr 1;rw[HA (by omega)] at hc;simpa using hc
  have hcc:=hC c (HG hc)
  have hall:=hm.all c hcc
  have hfl:=AT l
  have hat:=Dz hc
  have e0:k0*2+Z (j:Int)*2=(k0+j)*2:=by omega
  rw[e3,AW]
  generalize S c=p at*
  by_cases h2:(p.2 !=0)=J
  ·rw[HV h2]
   exact lv 45 [] (.t<|.m (dV c)<|.c (e7 p)<|.t .ro) (Y ((j:Int)<(↑(I l-k0):Int))=J/\0<=(j:Int)/\(j:Int)<(↑(I l-k0):Int)/\k0*2+Z (j:Int)*2+2<=I (Ab (U eV l))/\take 2 (W (k0*2+Z (j:Int)*2) (Ab (U eV l)))=[di c.n,cx c.az]/\_/\yo/\_/\cm 2 [1] [G (cX m most (bm 1 (I l) 2) (br 1 (U Aw st))),G (Ab (U eV l))]=J/\Q [G (cX m most (bm 1 (I l) 2) (br 1 (U Aw st))),G (Ab (U eV l))]/\Q [(1,1,U Aw st)]/\Q (di p.snd)) ⟨yr,by omega,by omega,by omega,by rw[e0];exact hat,hall,ym,h2,iv _ _ _ _ _ _ rfl (by decide),rfl,rfl,rfl⟩
  ·rw[HR h2]
   refine lv 45 [] (.t<|.m (dV c)<|.c (e7 p)<|.f<|.lo [ke 0,ke 16,ke 17,ch 18 (di (j+1:Nat))] (dj m most l (st++[p.1]))) (Y ((j:Int)<(↑(I l-k0):Int))=J/\0<=(j:Int)/\(j:Int)<(↑(I l-k0):Int)/\k0*2+Z (j:Int)*2+2<=I (Ab (U eV l))/\take 2 (W (k0*2+Z (j:Int)*2) (Ab (U eV l)))=[di c.n,cx c.az]/\F0 77 [Af m,dV c] (e7 p)/\yo/\(p.snd !=0)=O/\Q (U Aw st)/\Ao (I (U Aw st)+I (Aw p.fst::nV)) 24/\di (yu yt ((j:Int)+1))=di (↑(j+1):Int)/\cm 2 [1] [G [di m.kind,bt (co m.aw),bt (co m.ay),bt (co m.ax),cw m.au,di m.ao,di m.age,bt (Dq m.av),di m.start.n,cx m.start.az,di most,bm 1 (I l) 2,br 1 (U Aw st++[Aw p.fst])],G (Ab (U eV l))]=J/\[G [di m.kind,bt (co m.aw),bt (co m.ay),bt (co m.ax),cw m.au,di m.ao,di m.age,bt (Dq m.av),di m.start.n,cx m.start.az,di most,bm 1 (I l) 2,br 1 (U Aw st++Aw p.fst::nV)],G (Ab (U eV l))]=[G (cX m most (bm 1 (I l) 2) (br 1 (U Aw (st++[p.fst])))),G (Ab (U eV l))]/\[(1,1,U Aw st++Aw p.fst::nV)]=[(1,1,U Aw (st++[p.fst]))]/\I0 Zq 2 (di (AW S (W (k0+j+1) l) (st++[p.fst])).snd) (dj m most l (AW S (W (k0+j+1) l) (st++[p.fst])).fst) [kl Wc [1,0,1,0,0],bh 0,kc Wc [1,1]] (ba 45 [gu,(16,bo 1 (k0*2) (I l-k0)),(17,di (↑(I l-k0):Int)),(18,di (↑(j+1):Int))]) (dj m most l (st++[p.fst]))) ?_
   have e4:(st++[p.1]).map Aw=st.map Aw++[Aw p.1]:=by rw[IQ];rfl
   refine⟨yr,by omega,by omega,by omega,by rw[e0];exact hat,hall,ym,HM h2,rfl,⟨?_,?_⟩,Ae,iv _ _ _ _ _ _ rfl (by decide),by rw[e4],by rw[e4],⟨ih (j+1) _ (by omega) (by simp;omega)⟩⟩
   ·simp only[H9,HF,HJ];omega
   ·simp only[H9,HF,HJ];omega
theorem PM{m:b9}{C:bc->Prop}{S:bc->List c8×Int}(hm:Ha m C S)(most:Int)(l:List bc)(hl:I l<=256)(hC:∀v∈l,C v)(st:List (List c8))(hs:I st<I l):
  Aa PP 43 [.ptr 0 0] (dj m most l st) (di (AW S (l.drop (I st)) st).2) (dj m most l (AW S (l.drop (I st)) st).1):=by
 refine sv Zq 45 [] (.lo [ke 0,ke 16,ke 17,ch 18 (di (0:Nat))] (dj m most l st)) (0<=(I (U Aw st):Int)/\(I (U Aw st):Int)<(I l:Int)/\yo/\Q (di 0)/\cm 2 [1] (lx m most l st)=J/\Q (dj m most l st).H/\Q [(1,1,U Aw st)]/\I0 Zq (I (dj m most l st).H) (di (AW S (W (I st) l) st).snd) (dj m most l (AW S (W (I st) l) st).fst) [kl Wc [1,0,1,0,0],bh 0,kc Wc [1,1]] (ba 45 [gd,(16,bo 1 (0+Z (I (U Aw st):Int)*2) (I l-Z (I (U Aw st):Int))),(17,di (↑(I l-Z (I (U Aw st):Int)):Int)),(18,di (↑0:Int))]) (dj m most l st)) ⟨by omega,by rw[H9];omega,ym,rfl,iv _ _ _ _ _ _ rfl (by decide),rfl,rfl,⟨?_⟩⟩
 have:=YU hm most l hl hC (I st) hs _ 0 st rfl rfl
 rw[show(st.map Aw).length=I st from H9 ..]
 simpa using this
def QE(found:List bc):List c8->List bc->List bc
 |[],out=>out
 |s::l,out=>if Y (DO found s.2<0)=J then(if Y (DO out s.2<0)=J then QE found l (out++[s.2]) else QE found l out) else QE found l out
def DZ(found:List bc):List (List c8)->List bc->List bc
 |[],out=>out
 |l::ls,out=>DZ found ls (QE found l out)
theorem H7(found:List bc):∀(l:List c8) (out:List bc),I (QE found l out)<=I out+I l
 |[],out=>HH _
 |s::l,out=>by
  rw[QE,HF]
  split
  ·split
   ·have:=H7 found l (out++[s.2]);simp at this;omega
   ·have:=H7 found l out;omega
  ·have:=H7 found l out;omega
theorem PD{C:bc->Prop}(found:List bc):∀(l:List c8) (out:List bc),(∀s∈l,C s.2)->(∀v∈out,C v)->∀v∈QE found l out,C v
 |[],out,_,h=>h
 |s::l,out,h1,h=>by
  have hl:∀s∈l,C s.2:=fun s h=>h1 s (by simp[h])
  rw[QE]
  split
  ·split
   ·exact PD found l _ hl fun v hv=>by
     rcases Ix.1 hv with hv|hv
     ·exact h v hv
     ·rw[HQ.1 hv];exact h1 s (by simp)
   ·exact PD found l out hl h
  ·exact PD found l out hl h
theorem AfI{H:List (Option (List D))}{q sz:Nat}{l:List bc}(h:H[q]?=G (G (Ab (l.map eV)))):Gn (fun o=>(H[o]?).join) 1 (.gro q (I l) sz) (dt l):=by
 refine .inr (.inr ⟨q,0,2,Ab (l.map eV),l.map eV,.inr ⟨sz,by rw[H9],rfl⟩,rfl,by decide,Ct l,by show(H[q]?).join=_;rw[h];rfl,fun j y hj=>⟨?_,.v y,?_,.v y,.same,rfl⟩⟩)
 ·obtain⟨x,hx,hv⟩:=List.mem_flatMap.1 (HG hj)
  obtain⟨v,_,rfl⟩:=Is.1 hx
  rw[AE] at hv
  simp only[V.cellsV,Iq,Ji,or_false] at hv
  rcases hv with rfl|rfl<;>rfl
 ·rw[Iv,Ab,Ir,hj];rfl
theorem ia{H:List (Option (List D))}{own:List (Nat×Nat×List V)}{q sz:Nat}{l:List bc}(h:H[q]?=G (G (Ab (l.map eV))))(hl:I l<=1000000)(hs:∀v∈l,v.size<=1000000)(v:bc){o:yy}{c:Call}{fo:x8}(ho:o.op=.call c)(hc:c.callee=.value fo):
  Aj PP o [.v (.fn 78 [] []),.gro q (I l) sz,dV v] ⟨H,own⟩ (di (DO l v)) ⟨H,own⟩:=by
 refine Acu (σ:=⟨H,own⟩) ho hc (fs:=[]) (cs:=[]) (xs:=[dt l,Ac v]) (d0:=di (DO l v)) (.cons (AfI h) (.cons (n:=0) ⟨dV v,.same,rfl⟩ .nil)) rfl ?_
 exact Pv l hl hs v
noncomputable abbrev Zn:=Tryz.f44
noncomputable def Ek:=yl Zn
abbrev gz(m:b9)(most:Int)(l:List bc)(st:List (List c8))(out:List bc):St:=⟨[G (cX m most (.gro 1 (I l) 2) (.acc 1 (st.map Aw))),G (Ab (l.map eV))],(2,2,out.map eV)::fu st⟩
noncomputable abbrev tq:=[kl Ek [1,1,0,1,0,0,1,1,0,0,1,1,0,0],bh 2,bh 1,kc Ek [1,1,0,1,0,0,1,1,1],kl Ek d5,bh 0,kc Ek [1,1,1]]
noncomputable abbrev wz:=fun a₀=>[ke 0,ke 5,ke 15,ke 16,ke 17,ke 21,ke 22,ch 23 (di (a₀+1:Nat))]
noncomputable abbrev wy:=(bw 78 [] [])
theorem AhQ{m:b9}{C:bc->Prop}(hz:∀v,C v->v.size<=1000)(most:Int)(l:List bc)(hl:I l<=256)(hC:∀v∈l,C v)(st ls:List (List c8))(d:D)(σ':St)(i:Nat)(hi:i<=1000)(sl:List c8)(hsl:I sl<=256)(hsC:∀s∈sl,C s.2)
  (out1:List bc) (hout:Rn PP Zn 2 d σ' ([kl Ek [1,1,0,1,0,0],.blk 0,kc Ek [1,1,1]]++[]) (ba 50 [(0,.ptr 0 0),(5,.acc 2 (out1.map eV)),(15,.v (.list (ls.map Aw))),(16,di (I ls)),(17,di (i+1:Nat))]) (gz m most l st out1)) (N:Nat):∀(k:Nat) (out:List bc),I sl-k=N->I out+(I sl-k)<=70000->(∀v∈out,C v)->QE l (sl.drop k) out=out1->
  Rn PP Zn 2 d σ' ([kl Ek [1,1,0,1,0,0,1,1,0,0,1,1,0,0],.blk 2,.blk 1,kc Ek [1,1,0,1,0,0,1,1,1],kl Ek [1,1,0,1,0,0],.blk 0,kc Ek [1,1,1]]++[]) (ba 50 [(0,.ptr 0 0),(5,.acc 2 (out.map eV)),(15,.v (.list (ls.map Aw))),(16,di (I ls)),(17,di i),(21,.v (Aw sl)),(22,di (I sl)),(23,di k)]) (gz m most l st out):=by
 induction N with
 |zero=>
  intro k out hn ho hoC he
  refine lv 50 [] (.f<|.lo [ke 0,ke 5,ke 15,ke 16,ch 17 (di (i+1:Nat))] (gz m most l st out1)) (Y ((k:Int)<(I sl:Int))=O/\di (yu yt ((i:Int)+1))=di (↑(i+1):Int)/\cm 2 [2,1] (lx m most l st)=J/\Q (gz m most l st out1).H/\[(2,2,U eV out),(1,1,U Aw st)]=(2,2,U eV out1)::fu st/\I0 Zn 2 d σ' [kl Ek d5,bh 0,kc Ek [1,1,1]] (ba 50 [gd,(5,br 2 (U eV out)),(15,bt (ai (U Aw ls))),(16,di (I ls:Int)),(17,di (↑(i+1):Int))]) (gz m most l st out1)) ?_
  rw[HU (by omega)] at he
  have he:out=out1:=he
  subst he
  exact⟨yq,Ae,iv _ _ _ _ _ _ rfl (by decide),rfl,rfl,⟨hout⟩⟩
 |succ N ih=>
  intro k out hn ho hoC he
  obtain⟨s,hs⟩:=@yk _ sl k (by omega)
  have e3:sl.drop k=s::sl.drop (k+1):=by rw[HP (by omega)];congr 1;rw[HA (by omega)] at hs;simpa using hs
  have hcs:=hsC s (HG hs)
  have hi1:=fun(H:List (Option (List D))) (own:List (Nat×Nat×List V)) (h:H[1]?=G (G (Ab (l.map eV)))) (o:yy) (c:Call) (fo:x8) (ho:o.op=.call c) (hc:c.callee=.value fo)=>ia (own:=own) (sz:=2) h (by omega) (fun v hv=>by have:=hz v (hC v hv);omega) s.2 ho hc
  have hi2:=Pv out (by omega) (fun v hv=>by have:=hz v (hoC v hv);omega) s.2
  have e4:(out++[s.2]).map eV=out.map eV++[Ac s.2]:=(B1 ..).symm
  rw[e3,QE] at he
  by_cases h1:Y (DO l s.2<0)=J
  ·by_cases h2:Y (DO out s.2<0)=J
   ·refine lv 50 [] (.t<|.x (d8 s)<|.h (.oc (di (DO l s.2)) ⟨[G (cX m most (.gro 1 (I l) 2) (.acc 1 (st.map Aw))),G (Ab (l.map eV)),G [di s.1,di s.2.n,cx s.2.az]],(2,2,out.map eV)::fu st⟩)<|.t<|.c (di (DO out s.2))<|.t<|.lo (wz k) (gz m most l st (out++[s.2]))) (Y ((k:Int)<(I sl:Int))=J/\0<=(k:Int)/\(U d8 sl)[Z (k:Int)]?=G (d8 s)/\(N0 [bt wy,bm 1 (I l) 2,dV s.snd] (bi [G (cX m most (bm 1 (I l) 2) (kx st)),G (dv l),G [di s.fst,di s.snd.n,cx s.snd.az]] ((2,2,U eV out)::fu st)) (di (DO l s.snd)) (bi [G (cX m most (bm 1 (I l) 2) (kx st)),G (dv l),G [di s.fst,di s.snd.n,cx s.snd.az]] ((2,2,U eV out)::fu st)))/\Y (DO l s.snd<0)=J/\F0 78 [bt (ai (U eV out)),dV s.snd] (di (DO out s.snd))/\(True/\True/\(G (c7 s.snd.n s.snd.az)=G (c7 s.snd.n s.snd.az)/\True)/\True)/\Y (DO out s.snd<0)=J/\Q (U eV out)/\Ao (I (U eV out)+I (ab (aa yt s.snd.n::dt s.snd.az::nV)::nV)) 32/\di (yu yt ((k:Int)+1))=di (↑(k+1):Int)/\cm 2 [2,1] (lx m most l st)=J/\Q (gz m most l st (out++[s.2])).H/\[(2,2,U eV out++ab (vi s.snd.n::dt s.snd.az::nV)::nV),(1,1,U Aw st)]=(2,2,U eV (out++[s.snd]))::fu st/\I0 Zn 2 d σ' tq (ba 50 [gd,(5,br 2 (U eV out++[ab [vi s.snd.n,dt s.snd.az]])),(15,bt (ai (U Aw ls))),(16,di (I ls:Int)),(17,di (i:Int)),(21,bt (Aw sl)),(22,di (I sl:Int)),(23,di (↑(k+1):Int))]) (gz m most l st (out++[s.snd]))) ?_
    rw[HV h1,HV h2] at he
    have hih:=ih (k+1) (out++[s.2]) (by omega) (by simp;omega) (fun v hv=>by
     rcases Ix.1 hv with hv|hv
     ·exact hoC v hv
     ·rw[HQ.1 hv];exact hcs) he
    refine⟨yr,by omega,Am hs,fun o c fo ho hc=>hi1 _ _ rfl o c fo ho hc,h1,hi2,⟨trivial,trivial,⟨rfl,trivial⟩,trivial⟩,h2,rfl,⟨?_,?_⟩,Ae,iv _ _ _ _ _ _ rfl (by decide),rfl,by rw[e4],⟨by rw[e4] at hih;exact hih⟩⟩
    ·simp only[H9,HF,HJ];omega
    ·simp only[H9,HF,HJ];omega
   ·refine lv 50 [] (.t<|.x (d8 s)<|.h (.oc (di (DO l s.2)) ⟨[G (cX m most (.gro 1 (I l) 2) (.acc 1 (st.map Aw))),G (Ab (l.map eV)),G [di s.1,di s.2.n,cx s.2.az]],(2,2,out.map eV)::fu st⟩)<|.t<|.c (di (DO out s.2))<|.f<|.lo (wz k) (gz m most l st out)) (Y ((k:Int)<(I sl:Int))=J/\0<=(k:Int)/\(U d8 sl)[Z (k:Int)]?=G (d8 s)/\(N0 [bt wy,bm 1 (I l) 2,dV s.snd] (bi [G (cX m most (bm 1 (I l) 2) (kx st)),G (dv l),G [di s.fst,di s.snd.n,cx s.snd.az]] ((2,2,U eV out)::fu st)) (di (DO l s.snd)) (bi [G (cX m most (bm 1 (I l) 2) (kx st)),G (dv l),G [di s.fst,di s.snd.n,cx s.snd.az]] ((2,2,U eV out)::fu st)))/\Y (DO l s.snd<0)=J/\F0 78 [bt (ai (U eV out)),dV s.snd] (di (DO out s.snd))/\(True/\True/\(G (c7 s.snd.n s.snd.az)=G (c7 s.snd.n s.snd.az)/\True)/\True)/\Y (DO out s.snd<0)=O/\di (yu yt ((k:Int)+1))=di (↑(k+1):Int)/\cm 2 [2,1] (lx m most l st)=J/\Q (gz m most l st out).H/\[(2,2,U eV out),(1,1,U Aw st)]=(2,2,U eV out)::fu st/\I0 Zn 2 d σ' tq (ba 50 [gd,(5,br 2 (U eV out)),(15,bt (ai (U Aw ls))),(16,di (I ls:Int)),(17,di (i:Int)),(21,bt (Aw sl)),(22,di (I sl:Int)),(23,di (↑(k+1):Int))]) (gz m most l st out)) ?_
    rw[HV h1,HR h2] at he
    exact⟨yr,by omega,Am hs,fun o c fo ho hc=>hi1 _ _ rfl o c fo ho hc,h1,hi2,⟨trivial,trivial,⟨rfl,trivial⟩,trivial⟩,HM h2,Ae,iv _ _ _ _ _ _ rfl (by decide),rfl,rfl,⟨ih (k+1) out (by omega) (by omega) hoC he⟩⟩
  ·refine lv 50 [] (.t<|.x (d8 s)<|.h (.oc (di (DO l s.2)) ⟨[G (cX m most (.gro 1 (I l) 2) (.acc 1 (st.map Aw))),G (Ab (l.map eV)),G [di s.1,di s.2.n,cx s.2.az]],(2,2,out.map eV)::fu st⟩)<|.f<|.lo (wz k) (gz m most l st out)) (Y ((k:Int)<(I sl:Int))=J/\0<=(k:Int)/\(U d8 sl)[Z (k:Int)]?=G (d8 s)/\(N0 [bt wy,bm 1 (I l) 2,dV s.snd] (bi [G (cX m most (bm 1 (I l) 2) (kx st)),G (dv l),G [di s.fst,di s.snd.n,cx s.snd.az]] ((2,2,U eV out)::fu st)) (di (DO l s.snd)) (bi [G (cX m most (bm 1 (I l) 2) (kx st)),G (dv l),G [di s.fst,di s.snd.n,cx s.snd.az]] ((2,2,U eV out)::fu st)))/\Y (DO l s.snd<0)=O/\yo/\di (yu yt ((k:Int)+1))=di (↑(k+1):Int)/\cm 2 [2,1] (lx m most l st)=J/\Q (gz m most l st out).H/\[(2,2,U eV out),(1,1,U Aw st)]=(2,2,U eV out)::fu st/\I0 Zn 2 d σ' tq (ba 50 [gd,(5,br 2 (U eV out)),(15,bt (ai (U Aw ls))),(16,di (I ls:Int)),(17,di (i:Int)),(21,bt (Aw sl)),(22,di (I sl:Int)),(23,di (↑(k+1):Int))]) (gz m most l st out)) ?_
   rw[HR h1] at he
   exact⟨yr,by omega,Am hs,fun o c fo ho hc=>hi1 _ _ rfl o c fo ho hc,HM h1,ym,Ae,iv _ _ _ _ _ _ rfl (by decide),rfl,rfl,⟨ih (k+1) out (by omega) (by omega) hoC he⟩⟩
theorem Ack{m:b9}{C:bc->Prop}(hz:∀v,C v->v.size<=1000)(most:Int)(l:List bc)(hl:I l<=256)(hC:∀v∈l,C v)(st ls:List (List c8))(hls:I ls<=256)(hs:∀x∈ls,I x<=256/\∀s∈x,C s.2)(N:Nat):∀(i:Nat) (out:List bc),I ls-i=N->I out<=i*256->(∀v∈out,C v)->
  Rn PP Zn 2 (cx (DZ l (ls.drop i) out)) (dj m most l st) ([kl Ek [1,1,0,1,0,0],.blk 0,kc Ek [1,1,1]]++[]) (ba 50 [(0,.ptr 0 0),(5,.acc 2 (out.map eV)),(15,.v (.list (ls.map Aw))),(16,di (I ls)),(17,di i)]) (gz m most l st out):=by
 induction N with
 |zero=>
  intro i out hn ho hoC
  refine lv 50 [] (.f<|.ro) (Y ((i:Int)<(I ls:Int))=O/\cm 2 [1] (lx m most l st)=J/\Q (lx m most l st)/\Q [(1,1,U Aw st)]/\bt (ai (U eV out))=cx (DZ l (W i ls) out)) ?_
  rw[HU (by omega)]
  exact⟨yq,iv _ _ _ _ _ _ rfl (by decide),rfl,rfl,rfl⟩
 |succ N ih=>
  intro i out hn ho hoC
  obtain⟨sl,hsl⟩:=@yk _ ls i (by omega)
  refine lv 50 [] (.t<|.x (Aw sl)<|.lo [ke 0,ke 5,ke 15,ke 16,ke 17,ch 21 (.v (Aw sl)),ch 22 (di (I sl)),ch 23 (di (0:Nat))] (gz m most l st out)) (Y ((i:Int)<(I ls:Int))=J/\0<=(i:Int)/\(U Aw ls)[Z (i:Int)]?=G (Aw sl)/\Q (bt (Aw sl))/\di (I (U d8 sl):Int)=di (I sl:Int)/\di 0=di (↑0:Int)/\cm 2 [2,1] (lx m most l st)=J/\Q (gz m most l st out).H/\[(2,2,U eV out),(1,1,U Aw st)]=(2,2,U eV out)::fu st/\I0 Zn 2 (cx (DZ l (W i ls) out)) (dj m most l st) tq (ba 50 [gd,(5,br 2 (U eV out)),(15,bt (ai (U Aw ls))),(16,di (I ls:Int)),(17,di (i:Int)),(21,bt (Aw sl)),(22,di (I sl:Int)),(23,di (↑0:Int))]) (gz m most l st out)) ?_
  have e3:ls.drop i=sl::ls.drop (i+1):=by rw[HP (by omega)];congr 1;rw[HA (by omega)] at hsl;simpa using hsl
  obtain⟨h1,h2⟩:=hs sl (HG hsl)
  have hln:=H7 l sl out
  rw[e3,DZ]
  have hih:=ih (i+1) (QE l sl out) (by omega) (by omega) (PD l sl out h2 hoC)
  exact⟨yr,by omega,Am hsl,rfl,by rw[H9],rfl,iv _ _ _ _ _ _ rfl (by decide),rfl,rfl,⟨AhQ hz most l hl hC st ls _ _ i (by omega) sl h1 h2 _ hih _ 0 out rfl (by omega) hoC rfl⟩⟩
theorem SG{m:b9}{C:bc->Prop}(hz:∀v,C v->v.size<=1000)(most:Int)(l:List bc)(hl:I l<=256)(hC:∀v∈l,C v)(st:List (List c8))(aj:Nat)(hf:aj<=I st)(hls:I st<=256)(hs:∀x∈st,I x<=256/\∀s∈x,C s.2):
  Aa PP 44 [.ptr 0 0,di aj] (dj m most l st) (cx (DZ l (st.drop aj) [])) (dj m most l st):=by
 have hd:(st.map Aw).drop aj=(st.drop aj).map Aw:=map_drop.symm
 refine sv Zn 50 [] (.h (.q 2 0)<|.h (.nw 5 2 2)<|.lo [ke 0,ke 5,ch 15 (.v (.list ((st.drop aj).map Aw))),ch 16 (di (I (st.drop aj))),ch 17 (di (0:Nat))] (gz m most l st [])) ((∀(x:V),x∈U Aw st->V.size x=1)/\0<=(fun x=>x.snd) (ec aj)/\(fun x=>x.snd) (ec aj)<=(I (U Aw st):Int)/\bt (ai (W (Z ((fun x=>x.snd) (ec aj))) (take (I (U Aw st)) (U Aw st))))=bt (ai (U Aw (W aj st)))/\di (I (W (Z ((fun x=>x.snd) (ec aj))) (take (I (U Aw st)) (U Aw st))):Int)=di (I (W aj st):Int)/\Q (di 0)/\cm 2 [2,1] (lx m most l st)=J/\Q (gz m most l st []).H/\[(2,2,nV),(1,1,U Aw st)]=(2,2,nV)::fu st/\I0 Zn (I (dj m most l st).H) (cx (DZ l (W aj st) [])) (dj m most l st) [kl Ek d5,bh 0,kc Ek [1,1,1]] (ba 50 [gd,(5,br 2 []),(15,bt (ai (U Aw (W aj st)))),(16,di (I (W aj st):Int)),(17,di (↑0:Int))]) (gz m most l st [])) ⟨fun x hx=>by obtain⟨_,_,rfl⟩:=Is.1 hx;rfl,by show(0:Int)<=aj;omega,by rw[H9];show(aj:Int)<=_;omega,?_,?_,rfl,iv _ _ _ _ _ _ rfl (by decide),rfl,rfl,⟨?_⟩⟩
 ·rw[take_length];exact HX (fun l=>bt (.list l)) hd
 ·rw[take_length];exact HX (fun l:List V=>di (I l:Int)) (hd.trans rfl)|>.trans (by rw[H9])
 ·have:=Ack (m:=m) hz most l hl hC st (st.drop aj) (by rw[IF];omega) (fun x hx=>hs x (I1 hx)) _ 0 [] rfl (by simp) (by simp)
  simpa using this
theorem SX:∀{ks:List bc},(∀k∈ks,k.az=[])->ks=(ks.map bc.n).map fun x=>bc.mk x []
 |[],_=>rfl
 |k::ks,h=>by
  have h1:=h k (by simp)
  rw[Ia,Ia, ←SX fun x hx=>h x (by simp[hx])]
  cases k with|mk n l=>simp only[bc.az] at h1;subst h1;rfl
theorem PL:∀(n:Nat) (vs:List bc),I vs=n->BA (replicate n .nat) vs=J->∀v∈vs,(0<=v.n/\v.n<=1048576)/\v.az=[]
 |0,[],_,_,v,hv=>by simp at hv
 |n+1,[],hl,_,_,_=>by simp at hl
 |0,_::_,hl,_,_,_=>by simp at hl
 |n+1,x::vs,hl,h,v,hv=>by
  rw[I4] at h
  simp only[BA,HB] at h
  rcases Iq.1 hv with rfl|hv
  ·have h1:=h.1
   simp only[Ar,HB,HK,Il] at h1
   exact⟨⟨h1.1,h1.2.1⟩,List.length_eq_zero_iff.1 (by omega)⟩
  ·exact PL n vs (by simpa using hl) h.2 v hv
theorem OL{m:b9}(hk:m.kind=1){c:bc}(h:Ah (AF m) c=J):BT m c:=by
 have hn:c.n=0:=by
  simp only[Ah,AF,Ar,HB,Il] at h
  exact h.2.1
 rw[AF,show Cl m=.nat by simp[Cl,hk]] at h
 obtain⟨_,h2,h3⟩:=JS h
 cases c with
 |mk n ks=>
  simp only[bc.n] at hn
  subst hn
  simp only[bc.az] at h2 h3
  cases ks with
  |nil=>simp at h2
  |cons x vs=>
   simp only[BA,HB] at h3
   have hl:I vs=I m.ay:=by simpa using h2
   have hx:=Gp (show Cx (I m.aw) x=J by simpa only[Ar] using h3.1)
   have hv:=PL _ vs hl h3.2
   have e:bc.mk 0 (x::vs)=Dp x.n (vs.map bc.n):=by
    rw[Dp]
    congr 1
    have:=SX (ks:=vs) fun k hk=>(hv k hk).2
    rw[←this]
    congr 1
    exact hx.1
   rw[e]
   exact ub m x.n ⟨hx.2.1,hx.2.2⟩ _ (by rw[H9,hl]) fun y hy=>by
    obtain⟨v,hv1,rfl⟩:=Is.1 hy
    exact(hv v hv1).1
theorem RT.ctm{m:b9}(h:RT m):fi m:=⟨h.ok,h.kind,OL h.kind h.ok.start⟩
abbrev uw(m:b9):cy:=if m.kind=5 then As m else AF m
def mi(m:b9)(c:bc)(i:Int):List bc×Int:=if m.kind=1 then ir m c i else if m.kind=5 then Q9 m (As m) c i else g7 m (AF m) c i
def AI(m:b9)(c:bc):List c8×Int:=Cz (mi m c) (I m.av+1) (-1) []
abbrev TO(m:b9)(v:bc):Prop:=Ah (uw m) v=J
theorem FD.chr{K:Int}{m:b9}(hK:K=2∨K=3)(h:FD K m):∀r∈m.av,sj m r:=fun r hr=>by
 obtain⟨i,hi⟩:=getElem?_of_mem hr
 have h1:=h.av i r hi
 have hp:1<=I m.ay:=by rcases h.ay with e|e<;>rw[e]<;>decide
 refine⟨h1.to,?_,fun ha=>?_⟩
 ·rcases h1.act with⟨_,e,_⟩|⟨_,e,_⟩<;>omega
 ·rcases h1.act with⟨e,_,_⟩|⟨_,_,e⟩<;>omega
theorem RV.kinds{m:b9}(h:RV m):(fi m/\m.kind=1)∨(∃K,(K=2∨K=3)/\FD K m/\m.kind=K)∨(BB m/\m.kind=5):=by
 cases h with
 |cM h=>exact .inl ⟨h.ctm,h.kind⟩
 |c h=>exact .inl ⟨h.ctm,h.kind⟩
 |l2 h=>exact .inr (.inl ⟨2,.inl rfl,h,h.kind⟩)
 |l3 h=>exact .inr (.inl ⟨3,.inr rfl,h,h.kind⟩)
 |tm h=>exact .inr (.inr ⟨h,h.kind⟩)
theorem MB{m:b9}(h:m.kind≠5):uw m=AF m:=HR h
theorem Xa{m:b9}(h:m.kind=5):uw m=As m:=HV h
theorem Aj6{m:b9}(h:m.kind=1):mi m=ir m:=by funext c i;rw[mi,HV h]
theorem Aj5{m:b9}(h:m.kind=5):mi m=Q9 m (As m):=by funext c i;rw[mi,HR (by omega),HV h]
theorem Aj4{m:b9}{K:Int}(hK:K=2∨K=3)(h:m.kind=K):mi m=g7 m (AF m):=by funext c i;rw[mi,HR (by omega),HR (by omega)]
theorem RV.int{m:b9}(h:RV m):Hq m (uw m):=by
 rcases h.kinds with⟨h,hk⟩|⟨K,hK,h,hk⟩|⟨h,hk⟩
 ·rw[MB (by omega)];exact h.ok.int
 ·rw[MB (by omega)];exact(h.ok hK).int
 ·rw[Xa hk];exact h.int
theorem FD.rks{K:Int}{m:b9}(h:FD K m):I m.au<=1000:=by
 have h1:=h.au
 have h2:I m.ax<=2:=by rcases h.ax with e|e<;>rw[e]<;>simp
 split at h1
 ·omega
 ·rw[h1];simp
theorem RV.steps{m:b9}(h:RV m):Ha m (TO m) (AI m):=by
 have hI:=h.int
 rcases h.kinds with⟨h,hk⟩|⟨K,hK,h,hk⟩|⟨h,hk⟩
 ·have eT:=MB (m:=m) (by omega)
  have eA:=Aj6 hk
  have hC:∀v,TO m v->BT m v:=fun v hv=>OL hk (by rw[←eT];exact hv)
  have hS:∀v,AI m v=CX m v:=fun v=>by rw[AI,eA];rfl
  have hp:=h.ay
  exact⟨hI.walks,by rw[TO,eT];exact h.ok.start,fun v hv=>by have:=(hC v hv).sizeM h;omega,fun v hv=>by rw[hS];exact MI m h v (hC v hv),fun v hv=>by rw[hS];have:=(J0 h (hC v hv)).2.1;omega,fun v hv s hs=>by
   rw[hS] at hs
   rw[TO,eT]
   exact((J0 h (hC v hv)).2.2 s hs).ok.validM h⟩
 ·have eT:=MB (m:=m) (by omega)
  have eA:=Aj4 hK hk
  have hst:=(h.chm hK).st h.rks
  have hpl:I m.ay<=2:=by rcases h.ay with e|e<;>rw[e]<;>decide
  have hS:∀v,Ah (AF m) v=J->AI m v=Pz m (AF m) (g7 m (AF m)) v:=fun v hv=>by rw[AI,eA,Pz,HV hv]
  refine⟨hI.walks,by rw[TO,eT];exact(h.ok hK).start,fun v hv=>by have:=F2 hv;omega,fun v hv=>?_,fun v hv=>?_,fun v hv s hs=>?_⟩
  all_goals
   have hv':=hv
   rw[TO,eT] at hv'
   have h1:=Ah8 hst v (by have:=F2 hv;omega)
  ·rw[hS v hv'];exact h1.2
  ·rw[hS v hv'];exact h1.1.1
  ·rw[TO,eT]
   rw[AI,eA] at hs
   exact(TH (ap:=g7 m (AF m) v) (Q:=fun s=>Ah (AF m) s.2=J) (fun i v' hv2=>(Aaq (by omega) hpl (h.chr hK) hv' i).2 v' hv2) _ _) s hs
 ·have eT:=Xa hk
  have eA:=Aj5 hk
  have hst:=h.tmm.st
  have hag:=h.age
  have hS:∀v,Ah (As m) v=J->AI m v=Pz m (As m) (Q9 m (As m)) v:=fun v hv=>by rw[AI,eA,Pz,HV hv]
  refine⟨hI.walks,by rw[TO,eT];exact h.start_ok,fun v hv=>by have:=F2 hv;omega,fun v hv=>?_,fun v hv=>?_,fun v hv s hs=>?_⟩
  all_goals
   have hv':=hv
   rw[TO,eT] at hv'
   have h1:=Ah8 hst v (by have:=F2 hv;omega)
  ·rw[hS v hv'];exact h1.2
  ·rw[hS v hv'];exact h1.1.1
  ·rw[TO,eT]
   rw[AI,eA] at hs
   exact(TH (ap:=Q9 m (As m) v) (Q:=fun s=>Ah (As m) s.2=J) (fun i v' hv2=>(Wl (by omega) hv' i).2 v' hv2) _ _) s hs
structure fy where
 found:List bc
 steps:List (List c8)
 whole:Bool
 err:Int
def BE(S:bc->List c8×Int)(most:Int):Nat->List bc->List (List c8)->Nat->fy
 |d,l,st,aj=>
  if ((AW S (l.drop (I st)) st).2 !=0)=J then⟨l,(AW S (l.drop (I st)) st).1,false,(AW S (l.drop (I st)) st).2⟩
  else if ((I (DZ l ((AW S (l.drop (I st)) st).1.drop aj) []):Int)==0)=J then⟨l,(AW S (l.drop (I st)) st).1,true,0⟩
  else match d with
   |0=>⟨l,(AW S (l.drop (I st)) st).1,false,0⟩
   |d+1=>if Y (((I l+I (DZ l ((AW S (l.drop (I st)) st).1.drop aj) []):Nat):Int)>most)=J then⟨l,(AW S (l.drop (I st)) st).1,false,1⟩
    else BE S most d (l++DZ l ((AW S (l.drop (I st)) st).1.drop aj) []) (AW S (l.drop (I st)) st).1 (I l)
theorem La{m:b9}{C:bc->Prop}{S:bc->List c8×Int}(hm:Ha m C S):∀(l:List bc) (st:List (List c8)),(∀v∈l,C v)->(∀x∈st,I x<=256/\∀s∈x,C s.2)->(∀x∈ (AW S l st).1,I x<=256/\∀s∈x,C s.2)/\((AW S l st).2=0->(AW S l st).1=st++l.map fun v=>(S v).1)
 |[],st,_,h=>⟨h,fun _=>by simp[AW]⟩
 |c::l,st,hC,h=>by
  rw[AW]
  split
  ·rename_i h2
   exact⟨h,fun h3=>by rw[h3] at h2;simp at h2⟩
  ·have hc:=hC c (by simp)
   obtain⟨g1,g2⟩:=La hm l (st++[(S c).1]) (fun v hv=>hC v (by simp[hv])) (fun x hx=>by
    rcases Ix.1 hx with hx|hx
    ·exact h x hx
    ·rw[HQ.1 hx];exact⟨hm.len c hc,hm.next c hc⟩)
   exact⟨g1,fun h3=>by rw[g2 h3];simp⟩
theorem SI{C:bc->Prop}(found:List bc):∀(ls:List (List c8)) (out:List bc),(∀x∈ls,∀s∈x,C s.2)->(∀v∈out,C v)->∀v∈DZ found ls out,C v
 |[],out,_,h=>h
 |l::ls,out,h1,h=>SI found ls _ (fun x hx=>h1 x (by simp[hx])) (PD found l out (h1 l (by simp)) h)
theorem Ov(found:List bc):∀(ls:List (List c8)) (out:List bc),(∀x∈ls,I x<=256)->I (DZ found ls out)<=I out+I ls*256
 |[],out,_=>by simp[DZ]
 |l::ls,out,h=>by
  have h1:=H7 found l out
  have h2:=Ov found ls (QE found l out) fun x hx=>h x (by simp[hx])
  have h3:=h l (by simp)
  rw[DZ,HF]
  omega
def sr(m:b9)(most:Int)(σ':St):Prop:=(∃l st,σ'=dj m most l st)∨∃(l:List bc) (st:List (List c8)),σ'=⟨[G (cX m most (.gro 2 (I l) 2) (.acc 1 (st.map Aw))),none,G (Ab (l.map eV))],fu st⟩
theorem sr.len{m:b9}{most:Int}{σ':St}(h:sr m most σ'):1<=I σ'.H:=by
 rcases h with⟨l,st,rfl⟩|⟨l,st,rfl⟩
 ·exact Nat.le_add_left 1 1
 ·exact Nat.le_add_left 1 2
noncomputable abbrev En:=Tryz.f20
noncomputable def AD:=yl En
noncomputable abbrev Am2:=(B2 (sub AD [1,1,1,0,0,0,0,0,0]))
noncomputable abbrev Amo:=[kc AD [1,1,1,0,0,0,0,0,1],kc AD [1,1,1,0,0,0,0,1],bh 1,kc AD [1,1,1,0,0,1],kl AD [1,1,1,0,0],bh 0]
noncomputable abbrev Ane:=[kc AD [1,1,1,0,0,0,0,1,1],bh 1,kc AD [1,1,1,0,0,1],kl AD [1,1,1,0,0],bh 0]
noncomputable abbrev An2:=fun a₀ b₀=>[db (fy.mk a₀ b₀ true 0).whole,di (fy.mk a₀ b₀ true 0).err]
noncomputable abbrev Anu:=(B2 (sub AD [1,1,1,0,0,0,0,1,0]))
noncomputable abbrev Aoj:=fun a₀ b₀ c₀ d₀ e₀=>[G (cX a₀ b₀ (bm 2 (I c₀+I d₀) 2) (kx e₀)),none,G (Ab (U eV (c₀++d₀)))]
noncomputable abbrev Aoy:=fun (a₀:Nat) (b₀:Nat)=>(ba 64 [gd,(1,di (↑(a₀+1):Int)),(6,di (b₀:Int)),(21,bq 0 0)])
noncomputable abbrev Apb:=fun (a₀:Nat) (b₀:Nat)=>(ba 64 [gd,(1,di (↑(a₀+1):Int)),(6,di (b₀:Int)),(26,bq 0 0),(27,di (b₀:Int))])
noncomputable abbrev Apg:=fun a₀ b₀ c₀=>[db (fy.mk a₀ b₀ false c₀).whole,di (fy.mk a₀ b₀ false c₀).err]
noncomputable abbrev Apy:=[ke 0,ke 1,ke 6,ke 21]
noncomputable abbrev Aqe:=fun (a₀:Nat)=>(ba 64 [gd,(1,di (↑0:Int)),(6,di (a₀:Int)),(21,bq 0 0)])
noncomputable abbrev Aqn:=fun a₀ b₀=>[db (fy.mk a₀ b₀ false 1).whole,di (fy.mk a₀ b₀ false 1).err]
noncomputable abbrev Aqo:=fun a₀ b₀=>[db (fy.mk a₀ b₀ false 0).whole,di (fy.mk a₀ b₀ false 0).err]
noncomputable abbrev mg:=[ke 0,ke 1,ke 6,ke 21]
noncomputable abbrev vd:=fun a₀ b₀=>[db (fy.mk a₀ b₀ false 1).whole,di (fy.mk a₀ b₀ false 1).err]
noncomputable abbrev mh:=[kc AD [1,1,1,0,0,0,0,0,1],kc AD [1,1,1,0,0,0,0,1],bh 1,kc AD [1,1,1,0,0,1],kl AD [1,1,1,0,0],bh 0]
noncomputable abbrev i8:=(B2 (sub AD [1,1,1,0,0,0,0,0,0]))
noncomputable abbrev qv:=[kc AD [1,1,1,0,0,0,0,1,1],bh 1,kc AD [1,1,1,0,0,1],kl AD [1,1,1,0,0],bh 0]
noncomputable abbrev j2:=(B2 (sub AD [1,1,1,0,0,0,0,1,0]))
noncomputable abbrev sh:=fun a₀ b₀=>(bl [db (fy.mk a₀ b₀ true 0).whole,di (fy.mk a₀ b₀ true 0).err])
theorem Z3{m:b9}{C:bc->Prop}{S:bc->List c8×Int}(hm:Ha m C S)(most:Int)(hmost:most<=256)(d:Nat):d<=1000->∀(l:List bc) (st:List (List c8)) (aj:Nat),I l<=most->(∀v∈l,C v)->I st=aj->aj<I l->(∀x∈st,I x<=256/\∀s∈x,C s.2)->
  ∃σ',((BE S most d l st aj).err=0->σ'=dj m most (BE S most d l st aj).found (BE S most d l st aj).steps)/\sr m most σ'/\
  Rn PP En 1 (.tup [db (BE S most d l st aj).whole,di (BE S most d l st aj).err]) σ' ([kl AD [1,1,1,0,0],.blk 0]++[]) (ba 64 [(0,.ptr 0 0),(1,di d),(6,di aj)]) (dj m most l st):=by
 induction d with
 |zero=>
  intro hd l st aj hl hC hs hf hst
  have hlk:=PM hm most l (by omega) hC st (by omega)
  obtain⟨g1,g2⟩:=La hm (l.drop (I st)) st (fun v hv=>hC v (I1 hv)) hst
  rw[BE]
  generalize AW S (l.drop (I st)) st=p at*
  obtain⟨st',e⟩:=p
  dsimp only at hlk g1 g2⊢
  by_cases he:(e !=0)=J
  ·rw[HV he]
   refine⟨dj m most l st',fun h=>absurd h (by simpa using he),Or.inl ⟨_,_,rfl⟩,?_⟩
   refine lv 64 [] (.h (.q 4 1)<|.h (.s mg) .z) (Nv.It (B8 (CN 1) PP (fun env σ1=>Az PP En env σ1 (bl [db (fy.mk l st' false e).whole,di (fy.mk l st' false e).err]) (dj m most l st')) mh i8 (W 1 i8.toList) (ba 64 [gu,(1,di (↑0:Int)),(6,di (aj:Int)),(21,bq 0 0)]) (dj m most l st))) ⟨?_⟩
   refine Cf 22 43 [.ptr 0 0] (di e) (dj m most l st') (by rfl) (by kernel_rfl) (by kernel_rfl) (by kernel_rfl) rfl (by rfl) hlk ?_
   refine D5 mixed 64 [] 4 2 (.t .ro) ?_
   refine ey (by kernel_rfl:((e !=0)=J/\cm 2 [1] [G (cX m most (bm 1 (I l) 2) (br 1 (U Aw st'))),G (Ab (U eV l))]=J/\Q [G (cX m most (bm 1 (I l) 2) (br 1 (U Aw st'))),G (Ab (U eV l))]/\Q [(1,1,U Aw st')]/\bl [db O,di e]=bl [db (fy.mk l st' false e).whole,di (fy.mk l st' false e).err])=_) ?_
   exact⟨he,iv _ _ _ _ _ _ rfl (by decide),rfl,rfl,rfl⟩
  ·rw[HR he]
   have he0:e=0:=by simpa using he
   have hf1:=HM he
   have hl':I st'=I l:=by rw[g2 he0,HO,H9,IF];omega
   have hot:=SG (m:=m) hm.size most l (by omega) hC st' aj (by omega) (by omega) g1
   have hnC:=SI l (st'.drop aj) [] (fun x hx=>(g1 x (I1 hx)).2) (by simp)
   have hnl:=Ov l (st'.drop aj) [] (fun x hx=>(g1 x (I1 hx)).1)
   generalize DZ l (st'.drop aj) []=nx at*
   by_cases hn:((I nx:Int)==0)=J
   ·rw[HV hn]
    refine⟨dj m most l st',fun _=>rfl,Or.inl ⟨_,_,rfl⟩,?_⟩
    refine lv 64 [] (.h (.q 4 1)<|.h (.s mg) .z) (Nv.It (B8 (CN 1) PP (fun env σ1=>Az PP En env σ1 (sh l st') (dj m most l st')) mh i8 (W 1 i8.toList) (ba 64 [gu,(1,di (↑0:Int)),(6,di (aj:Int)),(21,bq 0 0)]) (dj m most l st))) ⟨?_⟩
    refine Cf 22 43 [.ptr 0 0] (di e) (dj m most l st') (by rfl) (by kernel_rfl) (by kernel_rfl) (by kernel_rfl) rfl (by rfl) hlk ?_
    refine D5 mixed 64 [] 4 2 (.f<|.h (.q 7 2)<|.h (.s [ke 0,ke 1,ke 6,ke 26,ke 27]) .z) ?_
    refine ey (by kernel_rfl:((e !=0)=O/\Nv.It (B8 (CN 1) PP (fun env σ1=>Az PP En env σ1 (sh l st') (dj m most l st')) qv j2 (W 2 j2.toList) (ba 64 [gu,(1,di 0),(6,di (aj:Int)),(26,bq 0 0),(27,di (aj:Int))]) (dj m most l st')))=_) ?_
    refine⟨hf1,⟨?_⟩⟩
    refine Cf 28 44 [.ptr 0 0,di aj] (cx nx) (dj m most l st') (by rfl) (by kernel_rfl) (by kernel_rfl) (by kernel_rfl) rfl (by rfl) hot ?_
    refine D5 mixed 64 [] 7 3 (.t<|.t .ro) ?_
    refine ey (by kernel_rfl:(((I (U eV nx):Int)==0)=J/\Q true/\cm 2 [1] [G (cX m most (bm 1 (I l) 2) (br 1 (U Aw st'))),G (Ab (U eV l))]=J/\Q [G (cX m most (bm 1 (I l) 2) (br 1 (U Aw st'))),G (Ab (U eV l))]/\Q [(1,1,U Aw st')]/\bl [db ((I (U eV nx):Int)==0),di 0]=bl [db (fy.mk l st' true 0).whole,di (fy.mk l st' true 0).err])=_) ?_
    exact⟨by rw[H9];exact hn,rfl,iv _ _ _ _ _ _ rfl (by decide),rfl,rfl,by rw[H9,hn]⟩
   ·rw[HR hn]
    refine⟨dj m most l st',fun _=>rfl,Or.inl ⟨_,_,rfl⟩,?_⟩
    refine lv 64 [] (.h (.q 4 1)<|.h (.s mg) .z) (Nv.It (B8 (CN 1) PP (fun env σ1=>Az PP En env σ1 (bl [db (fy.mk l st' false 0).whole,di (fy.mk l st' false 0).err]) (dj m most l st')) mh i8 (W 1 i8.toList) (ba 64 [gu,(1,di (↑0:Int)),(6,di (aj:Int)),(21,bq 0 0)]) (dj m most l st))) ⟨?_⟩
    refine Cf 22 43 [.ptr 0 0] (di e) (dj m most l st') (by rfl) (by kernel_rfl) (by kernel_rfl) (by kernel_rfl) rfl (by rfl) hlk ?_
    refine D5 mixed 64 [] 4 2 (.f<|.h (.q 7 2)<|.h (.s [ke 0,ke 1,ke 6,ke 26,ke 27]) .z) ?_
    refine ey (by kernel_rfl:((e !=0)=O/\Nv.It (B8 (CN 1) PP (fun env σ1=>Az PP En env σ1 (bl [db (fy.mk l st' false 0).whole,di (fy.mk l st' false 0).err]) (dj m most l st')) qv j2 (W 2 j2.toList) (ba 64 [gu,(1,di 0),(6,di (aj:Int)),(26,bq 0 0),(27,di (aj:Int))]) (dj m most l st')))=_) ?_
    refine⟨hf1,⟨?_⟩⟩
    refine Cf 28 44 [.ptr 0 0,di aj] (cx nx) (dj m most l st') (by rfl) (by kernel_rfl) (by kernel_rfl) (by kernel_rfl) rfl (by rfl) hot ?_
    refine D5 mixed 64 [] 7 3 (.f<|.t .ro) ?_
    refine ey (by kernel_rfl:(((I (U eV nx):Int)==0)=O/\(0==0)=J/\cm 2 [1] [G (cX m most (bm 1 (I l) 2) (br 1 (U Aw st'))),G (Ab (U eV l))]=J/\Q [G (cX m most (bm 1 (I l) 2) (br 1 (U Aw st'))),G (Ab (U eV l))]/\Q [(1,1,U Aw st')]/\bl [db ((I (U eV nx):Int)==0),di 0]=bl [db (fy.mk l st' false 0).whole,di (fy.mk l st' false 0).err])=_) ?_
    exact⟨by rw[H9];exact HM hn,rfl,iv _ _ _ _ _ _ rfl (by decide),rfl,rfl,by rw[H9,HM hn]⟩
 |succ N ih=>
  intro hd l st aj hl hC hs hf hst
  have hlk:=PM hm most l (by omega) hC st (by omega)
  obtain⟨g1,g2⟩:=La hm (l.drop (I st)) st (fun v hv=>hC v (I1 hv)) hst
  rw[BE]
  generalize AW S (l.drop (I st)) st=p at*
  obtain⟨st',e⟩:=p
  dsimp only at hlk g1 g2⊢
  by_cases he:(e !=0)=J
  ·rw[HV he]
   refine⟨dj m most l st',fun h=>absurd h (by simpa using he),Or.inl ⟨_,_,rfl⟩,?_⟩
   refine lv 64 [] (.h (.q 4 1)<|.h (.s mg) .z) (Nv.It (B8 (CN 1) PP (fun env σ1=>Az PP En env σ1 (bl [db (fy.mk l st' false e).whole,di (fy.mk l st' false e).err]) (dj m most l st')) mh i8 (W 1 i8.toList) (ba 64 [gu,(1,di (↑(N+1):Int)),(6,di (aj:Int)),(21,bq 0 0)]) (dj m most l st))) ⟨?_⟩
   refine Cf 22 43 [.ptr 0 0] (di e) (dj m most l st') (by rfl) (by kernel_rfl) (by kernel_rfl) (by kernel_rfl) rfl (by rfl) hlk ?_
   refine D5 mixed 64 [] 4 2 (.t .ro) ?_
   refine ey (by kernel_rfl:((e !=0)=J/\cm 2 [1] [G (cX m most (bm 1 (I l) 2) (br 1 (U Aw st'))),G (Ab (U eV l))]=J/\Q [G (cX m most (bm 1 (I l) 2) (br 1 (U Aw st'))),G (Ab (U eV l))]/\Q [(1,1,U Aw st')]/\bl [db O,di e]=bl [db (fy.mk l st' false e).whole,di (fy.mk l st' false e).err])=_) ?_
   exact⟨he,iv _ _ _ _ _ _ rfl (by decide),rfl,rfl,rfl⟩
  ·rw[HR he]
   have he0:e=0:=by simpa using he
   have hf1:=HM he
   have hl':I st'=I l:=by rw[g2 he0,HO,H9,IF];omega
   have hot:=SG (m:=m) hm.size most l (by omega) hC st' aj (by omega) (by omega) g1
   have hnC:=SI l (st'.drop aj) [] (fun x hx=>(g1 x (I1 hx)).2) (by simp)
   have hnl:=Ov l (st'.drop aj) [] (fun x hx=>(g1 x (I1 hx)).1)
   generalize DZ l (st'.drop aj) []=nx at*
   by_cases hn:((I nx:Int)==0)=J
   ·rw[HV hn]
    refine⟨dj m most l st',fun _=>rfl,Or.inl ⟨_,_,rfl⟩,?_⟩
    refine lv 64 [] (.h (.q 4 1)<|.h (.s mg) .z) (Nv.It (B8 (CN 1) PP (fun env σ1=>Az PP En env σ1 (sh l st') (dj m most l st')) mh i8 (W 1 i8.toList) (ba 64 [gu,(1,di (↑(N+1):Int)),(6,di (aj:Int)),(21,bq 0 0)]) (dj m most l st))) ⟨?_⟩
    refine Cf 22 43 [.ptr 0 0] (di e) (dj m most l st') (by rfl) (by kernel_rfl) (by kernel_rfl) (by kernel_rfl) rfl (by rfl) hlk ?_
    refine D5 mixed 64 [] 4 2 (.f<|.h (.q 7 2)<|.h (.s [ke 0,ke 1,ke 6,ke 26,ke 27]) .z) ?_
    refine ey (by kernel_rfl:((e !=0)=O/\Nv.It (B8 (CN 1) PP (fun env σ1=>Az PP En env σ1 (sh l st') (dj m most l st')) qv j2 (W 2 j2.toList) (ba 64 [gu,(1,di (↑(N+1):Int)),(6,di (aj:Int)),(26,bq 0 0),(27,di (aj:Int))]) (dj m most l st')))=_) ?_
    refine⟨hf1,⟨?_⟩⟩
    refine Cf 28 44 [.ptr 0 0,di aj] (cx nx) (dj m most l st') (by rfl) (by kernel_rfl) (by kernel_rfl) (by kernel_rfl) rfl (by rfl) hot ?_
    refine D5 mixed 64 [] 7 3 (.t<|.t .ro) ?_
    refine ey (by kernel_rfl:(((I (U eV nx):Int)==0)=J/\Q true/\cm 2 [1] [G (cX m most (bm 1 (I l) 2) (br 1 (U Aw st'))),G (Ab (U eV l))]=J/\Q [G (cX m most (bm 1 (I l) 2) (br 1 (U Aw st'))),G (Ab (U eV l))]/\Q [(1,1,U Aw st')]/\bl [db ((I (U eV nx):Int)==0),di 0]=bl [db (fy.mk l st' true 0).whole,di (fy.mk l st' true 0).err])=_) ?_
    exact⟨by rw[H9];exact hn,rfl,iv _ _ _ _ _ _ rfl (by decide),rfl,rfl,by rw[H9,hn]⟩
   ·rw[HR hn]
    have hdl:I (st'.drop aj)<=256:=by rw[IF];omega
    have hnl:I nx<=65536:=by simp at hnl;omega
    have hall:=F3 (AdU nx (by omega) (fun v hv=>by have:=hm.size v (hnC v hv);omega))
    have hd0:(((N+1:Nat):Int)==0)=O:=by simp;omega
    have hdm:di (yt.wrap (((N+1:Nat):Int)-1))=di N:=by rw[Al];exact HX di (by omega)
    have hne:nx.map eV≠ []:=fun h=>hn (by rw[List.map_eq_nil_iff.1 h];rfl)
    have hlk2:Ao (I l+I (nx.map eV)) 32:=⟨by rw[H9];omega,by rw[H9];omega⟩
    have hok2:∀n:Nat,cm 3 [1] [G (cX m most (.gro 2 n 2) (.acc 1 (st'.map Aw))),none,G (Ab (l.map eV)++Ab (nx.map eV))]=J:=fun n=>by
     simp[cm,D.okNs,D.okN,SO,Ak]
    by_cases hb:Y (((I l+I nx:Nat):Int)>most)=J
    ·rw[HV hb]
     refine⟨⟨[G (cX m most (.gro 2 (I l+I nx) 2) (.acc 1 (st'.map Aw))),none,G (Ab ((l++nx).map eV))],fu st'⟩,fun h=>absurd (show(1:Int)=0 from h) (by decide),Or.inr ⟨l++nx,st',by rw[HO]⟩,?_⟩
     refine lv 64 [] (.h (.q 4 1)<|.h (.s mg) .z) (Nv.It (B8 (CN 1) PP (fun env σ1=>Az PP En env σ1 (bl (vd l st')) (bi [G (cX m most (bm 2 (I l+I nx) 2) (br 1 (U Aw st'))),none,G (Ab (U eV (l++nx)))] (fu st'))) mh i8 (W 1 i8.toList) (ba 64 [gu,(1,di (↑(N+1):Int)),(6,di (aj:Int)),(21,bq 0 0)]) (dj m most l st))) ⟨?_⟩
     refine Cf 22 43 [.ptr 0 0] (di e) (dj m most l st') (by rfl) (by kernel_rfl) (by kernel_rfl) (by kernel_rfl) rfl (by rfl) hlk ?_
     refine D5 mixed 64 [] 4 2 (.f<|.h (.q 7 2)<|.h (.s [ke 0,ke 1,ke 6,ke 26,ke 27]) .z) ?_
     refine ey (by kernel_rfl:((e !=0)=O/\Nv.It (B8 (CN 1) PP (fun env σ1=>Az PP En env σ1 (bl (vd l st')) (bi [G (cX m most (bm 2 (I l+I nx) 2) (br 1 (U Aw st'))),none,G (Ab (U eV (l++nx)))] (fu st'))) qv j2 (W 2 j2.toList) (ba 64 [gu,(1,di (↑(N+1):Int)),(6,di (aj:Int)),(26,bq 0 0),(27,di (aj:Int))]) (dj m most l st')))=_) ?_
     refine⟨hf1,⟨?_⟩⟩
     refine Cf 28 44 [.ptr 0 0,di aj] (cx nx) (dj m most l st') (by rfl) (by kernel_rfl) (by kernel_rfl) (by kernel_rfl) rfl (by rfl) hot ?_
     refine D5 mixed 64 [] 7 3 (.f<|.f<|.c (cx nx)<|.t .ro) ?_
     refine ey (by kernel_rfl:(((I (U eV nx):Int)==0)=O/\((↑(N+1):Int)==0)=O/\F0 45 [cx nx] (cx nx)/\I (Ab (U eV l))=I l*2/\U eV nx≠ []/\(∀(y:V),y∈U eV nx->V.size y=2)/\Ao (I l+I (U eV nx)) 32/\yp/\yo/\Y ((↑(I l+I (U eV nx)):Int)>most)=J/\cm 3 [1] [G [di m.kind,bt (co m.aw),bt (co m.ay),bt (co m.ax),cw m.au,di m.ao,di m.age,bt (Dq m.av),di m.start.n,cx m.start.az,di most,bm 2 (I l+I (U eV nx)) 2,br 1 (U Aw st')],none,G (Ab (U eV l)++Ab (U eV nx))]=J/\[G [di m.kind,bt (co m.aw),bt (co m.ay),bt (co m.ax),cw m.au,di m.ao,di m.age,bt (Dq m.av),di m.start.n,cx m.start.az,di most,bm 2 (I l+I (U eV nx)) 2,br 1 (U Aw st')],none,G (Ab (U eV l)++Ab (U eV nx))]=[G (cX m most (bm 2 (I l+I nx) 2) (br 1 (U Aw st'))),none,G (Ab (U eV (l++nx)))]/\Q [(1,1,U Aw st')]/\bl [db O,di 1]=bl (vd l st'))=_) ?_
     exact⟨by rw[H9];exact HM hn,hd0,hall,AT l,hne,Ct nx,hlk2,yn,ym,by rw[H9];exact hb,hok2 _,by rw[DL,H9],rfl,rfl⟩
    ·rw[HR hb]
     have hnl2:((I l+I nx:Nat):Int)<=most:=by have:=Iu (HM hb);omega
     obtain⟨σ',k1,k2,k3⟩:=ih (by omega) (l++nx) st' (I l) (by rw[HO];exact hnl2) (fun v hv=>by
      rcases Ix.1 hv with hv|hv
      ·exact hC v hv
      ·exact hnC v hv) hl' (by
       have:0<I nx:=List.length_pos_iff.2 fun h=>hne (by rw[h];rfl)
       rw[HO];omega) g1
     refine⟨σ',k1,k2,?_⟩
     have k4:Rn PP En 1 (.tup [db (BE S most N (l++nx) st' (I l)).whole,di (BE S most N (l++nx) st' (I l)).err]) σ' ([kl AD [1,1,1,0,0],.blk 0]++[]) (ba 64 [(0,.ptr 0 0),(1,di N),(6,di (I l))]) ⟨[G (cX m most (.gro 2 (I l+I nx) 2) (.acc 1 (st'.map Aw))),none,G (Ab ((l++nx).map eV))],fu st'⟩:=by
      refine Ce (σ:=⟨[G (cX m most (.gro 2 (I l+I nx) 2) (.acc 1 (st'.map Aw))),none,G (Ab ((l++nx).map eV))],fu st'⟩) (H':=(dj m most (l++nx) st').H) (m:=1) (fun E0 E h=>h.2) (fun i=>if i=0 then 0 else i+1) (by simp) (fun i hi=>by cases i with|zero=>rfl|succ i=>omega) (fun i j _ _ h=>by revert h;show(if i=0 then 0 else i+1)=(if j=0 then 0 else j+1)->i=j;split<;>split<;>omega) (fun i cs hi=>?_) ?_ ?_ k3
      ·match i,hi with
       |0,hi=>
        simp only[List.getElem?_cons_zero,Ii] at hi
        subst hi
        refine⟨?_,?_⟩
        ·simp[D.rens,D.ren]
        ·simp[D.okNs,D.okN]
       |1,hi=>
        simp only[Js,List.getElem?_cons_zero,Ii] at hi
        subst hi
        refine⟨?_,Ak _ _ _⟩
        rw[AC (A3 _)]
        rfl
       |i+2,hi=>simp at hi
      ·rfl
      ·rfl
     refine lv 64 [] (.h (.q 4 1)<|.h (.s mg) .z) (Nv.It (B8 (CN 1) PP (fun env σ1=>Az PP En env σ1 (bl [db (BE S most N (l++nx) st' (I l)).whole,di (BE S most N (l++nx) st' (I l)).err]) σ') mh i8 (W 1 i8.toList) (ba 64 [gu,(1,di (↑(N+1):Int)),(6,di (aj:Int)),(21,bq 0 0)]) (dj m most l st))) ⟨?_⟩
     refine Cf 22 43 [.ptr 0 0] (di e) (dj m most l st') (by rfl) (by kernel_rfl) (by kernel_rfl) (by kernel_rfl) rfl (by rfl) hlk ?_
     refine D5 mixed 64 [] 4 2 (.f<|.h (.q 7 2)<|.h (.s [ke 0,ke 1,ke 6,ke 26,ke 27]) .z) ?_
     refine ey (by kernel_rfl:((e !=0)=O/\Nv.It (B8 (CN 1) PP (fun env σ1=>Az PP En env σ1 (bl [db (BE S most N (l++nx) st' (I l)).whole,di (BE S most N (l++nx) st' (I l)).err]) σ') qv j2 (W 2 j2.toList) (ba 64 [gu,(1,di (↑(N+1):Int)),(6,di (aj:Int)),(26,bq 0 0),(27,di (aj:Int))]) (dj m most l st')))=_) ?_
     refine⟨hf1,⟨?_⟩⟩
     refine Cf 28 44 [.ptr 0 0,di aj] (cx nx) (dj m most l st') (by rfl) (by kernel_rfl) (by kernel_rfl) (by kernel_rfl) rfl (by rfl) hot ?_
     refine D5 mixed 64 [] 7 3 (.f<|.f<|.c (cx nx)<|.f<|.lo [ke 0,ch 1 (di N),ch 6 (di (I l))] ⟨[G (cX m most (.gro 2 (I l+I nx) 2) (.acc 1 (st'.map Aw))),none,G (Ab ((l++nx).map eV))],fu st'⟩) ?_
     refine ey (by kernel_rfl:(((I (U eV nx):Int)==0)=O/\((↑(N+1):Int)==0)=O/\F0 45 [cx nx] (cx nx)/\I (Ab (U eV l))=I l*2/\U eV nx≠ []/\(∀(y:V),y∈U eV nx->V.size y=2)/\Ao (I l+I (U eV nx)) 32/\yp/\yo/\Y ((↑(I l+I (U eV nx)):Int)>most)=O/\di (yu yt ((↑(N+1):Int)-1))=di (N:Int)/\Q (di (I l:Int))/\cm 3 [1] [G [di m.kind,bt (co m.aw),bt (co m.ay),bt (co m.ax),cw m.au,di m.ao,di m.age,bt (Dq m.av),di m.start.n,cx m.start.az,di most,bm 2 (I l+I (U eV nx)) 2,br 1 (U Aw st')],none,G (Ab (U eV l)++Ab (U eV nx))]=J/\[G [di m.kind,bt (co m.aw),bt (co m.ay),bt (co m.ax),cw m.au,di m.ao,di m.age,bt (Dq m.av),di m.start.n,cx m.start.az,di most,bm 2 (I l+I (U eV nx)) 2,br 1 (U Aw st')],none,G (Ab (U eV l)++Ab (U eV nx))]=[G (cX m most (bm 2 (I l+I nx) 2) (br 1 (U Aw st'))),none,G (Ab (U eV (l++nx)))]/\Q [(1,1,U Aw st')]/\I0 En 1 (bl [db (BE S most N (l++nx) st' (I l)).whole,di (BE S most N (l++nx) st' (I l)).err]) σ' [kl AD [1,1,1,0,0],bh 0] (ba 64 [gu,(1,di (N:Int)),(6,di (I l:Int))]) (bi [G (cX m most (bm 2 (I l+I nx) 2) (br 1 (U Aw st'))),none,G (Ab (U eV (l++nx)))] (fu st')))=_) ?_
     exact⟨by rw[H9];exact HM hn,hd0,hall,AT l,hne,Ct nx,hlk2,yn,ym,by rw[H9];exact HM hb,hdm,rfl,hok2 _,by rw[DL,H9],rfl,⟨k4⟩⟩
theorem Adn{o:yy}{σ:St}{t:Nat}(ho:o.op=.buildSlice 29 1 #[(0,.tmp t)])(x:bc):Aj PP o [dV x] σ (.gro (I σ.H) 1 2) ⟨σ.H++[G (Ab [Ac x])],σ.own⟩:=
 H8 ho (by rfl) rfl jh rfl (ds:=[dV x]) (xs:=[Ac x]) rfl (fun z hz=>by rw[HQ.1 hz];rfl) (by decide) (by decide) (by decide)
theorem Z1{m:b9}{C:bc->Prop}{S:bc->List c8×Int}(hm:Ha m C S)(most:Int)(hmost:1<=most/\most<=256)(d:Nat)(hd:d<=16):
  ∃σ',((BE S most d [m.start] [] 0).err=0->σ'=dj m most (BE S most d [m.start] [] 0).found (BE S most d [m.start] [] 0).steps)/\sr m most σ'/\
  Aa PP 20 [.ptr 0 0,di d] ⟨[G (cX m most (.v .nils) (.v .nils))],[]⟩ (.tup [db (BE S most d [m.start] [] 0).whole,di (BE S most d [m.start] [] 0).err]) σ':=by
 obtain⟨σ',k1,k2,k3⟩:=Z3 hm most hmost.2 d (by omega) [m.start] [] 0 (by simp;omega) (fun v hv=>by rw[HQ.1 hv];exact hm.start) rfl (by simp) (by simp)
 refine⟨σ',k1,k2,?_⟩
 generalize BE S most d [m.start] [] 0=r at*
 have hsz:=hm.size _ hm.start
 have how:=SF _ m.start (HH _) (by omega)
 refine X3 mixed En AD (by kernel_rfl) (by kernel_rfl) (by kernel_rfl) (Nat.ble_eq_true_of_le k2.len) 64 (by kernel_rfl) [] (.c (dV m.start)<|.h (.o (.gro 1 1 2) ⟨[G (cX m most (.v .nils) (.v .nils)),G (Ab [Ac m.start])],[]⟩)<|.h (.q 2 0)<|.h (.cl 0 12 1 1)<|.lo [ke 0,ke 1,ch 6 (di (0:Nat))] (dj m most [m.start] [])) ?_
 refine ey (by kernel_rfl:(F0 42 [dV m.start] (dV m.start)/\Aj PP (Oper.mk (G 16) (Op.buildSlice 29 1 #[(0,Operand.tmp 15)]) 29 "audit.go:57" #[Edge.mk 6 Ground.data] none) [dV m.start] (bi [G (cX m most (dn) (dn))] []) (bm 1 1 2) (bi [G (cX m most (dn) (dn)),G (c7 m.start.n m.start.az)] [])/\di 0=di (↑0:Int)/\cm 2 [1] [G [di m.kind,bt (co m.aw),bt (co m.ay),bt (co m.ax),cw m.au,di m.ao,di m.age,bt (Dq m.av),di m.start.n,cx m.start.az,di most,bm 1 1 2,br 1 []],G (c7 m.start.n m.start.az)]=J/\[G [di m.kind,bt (co m.aw),bt (co m.ay),bt (co m.ax),cw m.au,di m.ao,di m.age,bt (Dq m.av),di m.start.n,cx m.start.az,di most,bm 1 1 2,br 1 nV],G (c7 m.start.n m.start.az)]=[G (cX m most (bm 1 (I [m.start]) 2) (br 1 (U Aw []))),G (Ab (eV m.start::nV))]/\Q [(1,1,nV)]/\I0 En (I (bi [G (cX m most (dn) (dn))] []).H) (bl [db r.whole,di r.err]) σ' [kl AD [1,1,1,0,0],bh 0] (ba 64 [gd,(1,di (d:Int)),(6,di (↑0:Int))]) (dj m most [m.start] []))=_) ?_
 refine⟨how,?_,rfl,by simp[cm,D.okNs,D.okN],?_,rfl,⟨k3⟩⟩
 ·exact Adn rfl m.start
 ·rw[AE];rfl
theorem Ae9{m:b9}{C:bc->Prop}{S:bc->List c8×Int}(hm:Ha m C S)(most:Int)(d:Nat):∀(l:List bc) (st:List (List c8)) (aj:Nat),I l<=most->(∀v∈l,C v)->(∀x∈st,I x<=256/\∀s∈x,C s.2)->(BE S most d l st aj).found.length<=most/\∀v∈ (BE S most d l st aj).found,C v:=by
 induction d with
 |zero=>
  intro l st aj hl hC hst
  rw[BE]
  split
  ·exact⟨hl,hC⟩
  ·split
   ·exact⟨hl,hC⟩
   ·exact⟨hl,hC⟩
 |succ d ih=>
  intro l st aj hl hC hst
  obtain⟨g1,g2⟩:=La hm (l.drop (I st)) st (fun v hv=>hC v (I1 hv)) hst
  have hnC:=SI l ((AW S (l.drop (I st)) st).1.drop aj) [] (fun x hx=>(g1 x (I1 hx)).2) (by simp)
  rw[BE]
  split
  ·exact⟨hl,hC⟩
  ·split
   ·exact⟨hl,hC⟩
   ·split
    ·exact⟨hl,hC⟩
    ·rename_i h3
     refine ih _ _ _ ?_ (fun v hv=>?_) g1
     ·have:=Iu (HM h3)
      rw[HO];omega
     ·rcases Ix.1 hv with hv|hv
      ·exact hC v hv
      ·exact hnC v hv
noncomputable abbrev Mi:=Tryz.f8
noncomputable def GY:=yl Mi
def AU(S:bc->List c8×Int)(most:Int)(d:Nat)(v:bc):List bc×Bool×Int:=
 if ((BE S most d [v] [] 0).err !=0)=J then([],false,(BE S most d [v] [] 0).err) else(sortV (BE S most d [v] [] 0).found,(BE S most d [v] [] 0).whole,0)
noncomputable abbrev ow:=(B2 (sub GY [1,1,1,1,0]))
noncomputable abbrev v8:=fun (a₀:Nat)=>(ba 55 [(10,bq 0 0),(37,bq 0 0),(38,di (a₀:Int))])
theorem JY{m:b9}{C:bc->Prop}{S:bc->List c8×Int}(hm:Ha m C S)(most:Int)(hmost:1<=most/\most<=256)(d:Nat)(hd:d<=16):
  F0 8 [Af m,di d,di most] (.tup [cx (AU S most d m.start).1,db (AU S most d m.start).2.1,di (AU S most d m.start).2.2]):=by
 obtain⟨σ',k1,k2,k3⟩:=Z1 hm most hmost d hd
 obtain⟨c1,c2⟩:=Ae9 hm most d [m.start] [] 0 (by simp;omega) (fun v hv=>by rw[HQ.1 hv];exact hm.start) (by simp)
 unfold AU
 generalize BE S most d [m.start] [] 0=r at*
 have hW:=hm.walks
 have d1:Y ((d:Int)<0)=O:=yq
 have d2:Y ((d:Int)>16)=O:=yq
 have d3:Y (most<1)=O:=yq
 have d4:Y (most>256)=O:=yq
 by_cases he:(r.err !=0)=J
 ·rw[HV he]
  show Aa PP _ _ _ (.tup [cx [],db O,di r.err]) bd
  rcases k2 with⟨l,st,rfl⟩|⟨l,st,rfl⟩
  ·refine sv Mi 55 [3] (.c (di 0)<|.f<|.f<|.f<|.f<|.f<|.h .rn<|.h (.q 7 2)<|.h (.s [ke 10,ke 37,ke 38]) .z) (_/\(0 !=0)=O/\_/\_/\_/\_/\Nv.It (B8 (CN (I bd.H)) PP (fun env σ1=>Az PP Mi env σ1 (bl [cx [],db O,di r.err]) bd) [kc GY [1,1,1,1,1]] ow (W 2 ow.toList) (v8 d) (bi [G [di m.kind,bt (co m.aw),bt (co m.ay),bt (co m.ax),cw m.au,di m.ao,di m.age,bt (Dq m.av),di m.start.n,cx m.start.az,di most,dn,dn]] []))) ⟨hW,rfl,d1,d2,d3,d4,⟨?_⟩⟩
   refine Cf 39 20 [.ptr 0 0,di d] (.tup [db r.whole,di r.err]) (dj m most l st) (by rfl) (by kernel_rfl) (by kernel_rfl) (by kernel_rfl) rfl (by rfl) k3 ?_
   refine D5 mixed 55 [3] 7 3 (.t .r) ?_
   refine ey (by kernel_rfl:((r.err !=0)=J/\bl [bt (ai []),db O,di r.err]=bl [cx [],db O,di r.err])=_) ?_
   exact⟨he,rfl⟩
  ·refine sv Mi 55 [3] (.c (di 0)<|.f<|.f<|.f<|.f<|.f<|.h .rn<|.h (.q 7 2)<|.h (.s [ke 10,ke 37,ke 38]) .z) (_/\(0 !=0)=O/\_/\_/\_/\_/\Nv.It (B8 (CN (I bd.H)) PP (fun env σ1=>Az PP Mi env σ1 (bl [cx [],db O,di r.err]) bd) [kc GY [1,1,1,1,1]] ow (W 2 ow.toList) (v8 d) (bi [G [di m.kind,bt (co m.aw),bt (co m.ay),bt (co m.ax),cw m.au,di m.ao,di m.age,bt (Dq m.av),di m.start.n,cx m.start.az,di most,dn,dn]] []))) ⟨hW,rfl,d1,d2,d3,d4,⟨?_⟩⟩
   refine Cf 39 20 [.ptr 0 0,di d] (.tup [db r.whole,di r.err]) ⟨[G (cX m most (.gro 2 (I l) 2) (.acc 1 (st.map Aw))),none,G (Ab (l.map eV))],fu st⟩ (by rfl) (by kernel_rfl) (by kernel_rfl) (by kernel_rfl) rfl (by rfl) k3 ?_
   refine D5 mixed 55 [3] 7 3 (.t .r) ?_
   refine ey (by kernel_rfl:((r.err !=0)=J/\bl [bt (ai []),db O,di r.err]=bl [cx [],db O,di r.err])=_) ?_
   exact⟨he,rfl⟩
 ·rw[HR he]
  have:=k1 (by simpa using he)
  subst this
  have hf1:=HM he
  generalize r.found=l at*
  generalize r.steps=st at*
  have hsl:I (sortV l)=I l:=(A7 _).length_eq
  show Aa PP _ _ _ (.tup [cx (sortV l),db r.whole,di 0]) bd
  refine sv Mi 55 [3] (.c (di 0)<|.f<|.f<|.f<|.f<|.f<|.h .rn<|.h (.q 7 2)<|.h (.s [ke 10,ke 37,ke 38]) .z) (_/\(0 !=0)=O/\_/\_/\_/\_/\Nv.It (B8 (CN (I bd.H)) PP (fun env σ1=>Az PP Mi env σ1 (bl [cx (sortV l),db r.whole,di 0]) bd) [kc GY [1,1,1,1,1]] ow (W 2 ow.toList) (v8 d) (bi [G [di m.kind,bt (co m.aw),bt (co m.ay),bt (co m.ax),cw m.au,di m.ao,di m.age,bt (Dq m.av),di m.start.n,cx m.start.az,di most,dn,dn]] []))) ⟨hW,rfl,d1,d2,d3,d4,⟨?_⟩⟩
  refine Cf 39 20 [.ptr 0 0,di d] (.tup [db r.whole,di r.err]) (dj m most l st) (by rfl) (by kernel_rfl) (by kernel_rfl) (by kernel_rfl) rfl (by rfl) k3 ?_
  refine D5 mixed 55 [3] 7 3 (.f<|.h (.q 10 4)<|.h (.ga 48)<|.h (.oc (.tup []) ⟨[G (cX m most (.gro 1 (I l) 2) (.acc 1 (st.map Aw))),G (Ab ((sortV l).map eV))],fu st⟩)<|.h (.q 11 0)<|.h (.cs ⟨[G (cX m most (cx (sortV l)) (.acc 1 (st.map Aw))),none],fu st⟩)<|.r) ?_
  refine ey (by kernel_rfl:((r.err !=0)=O/\(N0 [bt wk,bo 1 0 (I l),bt mb] (dj m most l st) (bl []) (bi [G (cX m most (bm 1 (I l) 2) (kx st)),G (Ab (U eV (sortV l)))] (fu st)))/\(∀(e:List D) (E:cf) (g:Gh) (a:Act) (w:x5),FI E g (bi [G (cX m most (bm 1 (I l) 2) (kx st)),G (Ab (U eV (sortV l)))] [(1,1,U Aw st)]) e a w->∃g',FI E g' (bi [G (cX m most (cx (sortV l)) (kx st)),none] (fu st)) e a w)/\bl [bt (dt (sortV l)),db r.whole,di 0]=bl [cx (sortV l),db r.whole,di 0])=_) ?_
  refine⟨hf1,fun o cl fo hop hc=>?_,fun e=>?_,rfl⟩
  ·have:=Ox (dc:=[.arr 0 0 (I l),dfn 22]) (σ:=dj m most l st) (q:=1) (fs:=[]) (cs:=[]) (ds:=[.arr 1 0 (I l),dfn 22]) hop hc rfl (A3 _) (A3 _) (.arr (.pl rfl .nil)) rfl (G9 l (by omega) fun v hv=>by have:=hm.size v (c2 v hv);omega)
   simpa[dj] using this
  ·exact Kp (σ:=⟨[G (cX m most (.gro 1 (I l) 2) (.acc 1 (st.map Aw))),G (Ab ((sortV l).map eV))],fu st⟩) (p:=0) (q:=1) (i:=11) (sz:=2) (cs:=cX m most (.gro 1 (I l) 2) (.acc 1 (st.map Aw))) (xs:=(sortV l).map eV) (by decide) rfl rfl (by decide) (by rw[H9,hsl];rfl) (Ct _) e
theorem FD.chx{K:Int}{m:b9}(hK:K=2∨K=3)(h:FD K m):k8 m:=by
 have hp:1<=I m.ay/\m.ay.length<=2:=by rcases h.ay with e|e<;>rw[e]<;>decide
 have hl:I m.ax<=2:=by rcases h.ax with e|e<;>rw[e]<;>decide
 refine⟨h.ok hK,by have:=h.kind;omega,⟨by have:=h.count;omega,hp.1,hp.2⟩,by omega,fun h3=>?_,h.chr hK⟩
 have hk:=h.kind
 have e:K=3:=by omega
 subst e
 have hr:=h.au
 rw[HV rfl] at hr
 have hl1:1<=I m.ax:=by rcases h.ax with e|e<;>rw[e]<;>decide
 refine⟨?_,hr.1⟩
 have ha:m.au.any UJ=O:=by
  rw[List.any_eq_false]
  intro x hx
  have:=hr.2 x hx
  simp only[UJ,Bool.or_eq_true,HK]
  omega
 rw[CM,ha,HB,HB,HK,HK]
 exact⟨by omega,by omega,rfl⟩
theorem RV.all22{m:b9}(h:RV m){c:bc}(hc:TO m c):F0 12 [Af m,dV c] (e7 (AI m c)):=by
 rcases h.kinds with⟨h,hk⟩|⟨K,hK,h,hk⟩|⟨h,hk⟩
 ·have eT:=MB (m:=m) (by omega)
  rw[AI,Aj6 hk]
  exact AjB h (OL hk (by rw[←eT];exact hc))
 ·have eT:=MB (m:=m) (by omega)
  have hv:Ah (AF m) c=J:=by rw[←eT];exact hc
  rw[AI,Aj4 hK hk]
  exact AdZ (h.chx hK) hv fun i=>(((h.chm hK).st h.rks).bp c hv i).1
 ·have eT:=Xa hk
  have hv:Ah (As m) c=J:=by rw[←eT];exact hc
  rw[AI,Aj5 hk]
  exact AdX h hv fun i=>(h.tmm.st.bp c hv i).1
inductive W3 (m:b9) (c0:bc):List c8->bc->Prop where
 |nil:W3 m c0 [] c0
 |snoc {run:List c8} {c:bc} {s:c8} (h:W3 m c0 run c) (h0:(AI m c).2=0) (hs:s∈ (AI m c).1):W3 m c0 (run++[s]) s.2
theorem W3.ok{m:b9}(hm:RV m){run:List c8}{c:bc}(h:W3 m m.start run c):TO m c:=by
 induction h with
 |nil=>exact hm.steps.start
 |snoc _ _ hs ih=>exact hm.steps.next _ ih _ hs
theorem Vn(m:b9)(hm:RV m)(l:List UInt8)(hl:I l<=200)(n:Nat):∀(a:Nat) (c:bc) (run:List c8),a<=I l->W3 m m.start run c->I run+n<=60->
  ∃(d:bc) (run':List c8) (a':Nat),W3 m m.start run' d/\run'.length<=60/\a'<=I l/\
  Rn PP Zo 1 (.tup [dV d,.v (Aw run')]) (dz l a') ([kl Wb [1,1,1,0,1,0,0],.blk 0,kc Wb [1,1,1,1]]++[]) (ba 52 [(0,.ptr 0 0),(4,.v (.ref (A1 m))),(6,.ptr 1 0),(8,.ptr 2 0),(9,GZ run),(10,di n)]) (vt l a c run):=by
 induction n with
 |zero=>
  intro a c run ha hr hn
  refine⟨c,run,a,hr,by omega,ha,?_⟩
  exact lv 52 [4] (.f .r) (Y ((↑0:Int)>0)=O/\Q [G (cr l a)]/\Q (bl [dV c,bt (Aw run)])) ⟨rfl,rfl,rfl⟩
 |succ n ih=>
  intro a c run ha hr hn
  have hc:=W3.ok hm hr
  have e2:=hm.steps.len c hc
  have hall:=hm.all22 hc
  have snoc:∀s:c8,(AI m c).2=0->s∈ (AI m c).1->W3 m m.start (run++[s]) s.2:=fun s h1 h2=>.snoc hr h1 h2
  generalize AI m c=p at*
  by_cases hA:p.2≠0∨p.1=[]
  ·refine⟨c,run,a,hr,by omega,ha,?_⟩
   refine lv 52 [4] (.t<|.c (e7 p)<|.b .r (.t .r)) (Y ((↑(n+1):Int)>0)=J/\_/\((p.snd !=0)=J->Q [G (cr l a)]/\bl [bt (ab [vi c.n,ai (cc c.az)]),bt (ai (U d8 run))]=bl [dV c,bt (Aw run)])/\((p.snd !=0)=O->((I (U d8 p.fst):Int)==0)=J/\Q [G (cr l a)]/\bl [bt (ab [vi c.n,ai (cc c.az)]),bt (ai (U d8 run))]=bl [dV c,bt (Aw run)])) ⟨yr,hall,fun h=>⟨rfl,rfl⟩,fun h=>⟨?_,rfl,rfl⟩⟩
   have h:p.2=0:=by simpa using h
   rcases hA with h1|h1
   ·exact absurd h h1
   ·rw[h1];rfl
  ·have h0:p.2=0:=by omega
   have h1:p.1≠ []:=fun h=>hA (.inr h)
   have hlen:0<I p.1:=List.length_pos_iff.2 h1
   obtain⟨r,a1,r1,r2,r3,r4⟩:=A2 l hl a ha (I p.1) (by omega) (by omega)
   obtain⟨i,rfl⟩:∃i:Nat,r=i:=⟨r.toNat,by omega⟩
   obtain⟨x,hx⟩:∃x,p.1[i]?=G x:=⟨_,HA (show i<I p.1 by omega)⟩
   have hxm:=HG hx
   obtain⟨d,run',a',g1,g2,g3,g4⟩:=ih a1 x.2 (run++[x]) r3 (snoc x h0 hxm) (by simp;omega)
   refine⟨d,run',a',g1,g2,g3,?_⟩
   refine lv 52 [4] (.t<|.c (e7 p)<|.f<|.f<|.c1 (cr l a1) (di i)<|.x (d8 x)<|.ls [ke 0,ke 4,ke 6,ke 8,ch 9 (GZ (run++[x])),ch 10 (di n)] (vt l a1 x.2 (run++[x]))) (Y ((↑(n+1):Int)>0)=J/\_/\(p.snd !=0)=O/\((I (U d8 p.fst):Int)==0)=O/\Aa PP 7 [bq 0 0,di (I (U d8 p.fst):Int)] (dz l a) (di (i:Int)) (dz l a1)/\0<=(i:Int)/\(U d8 p.fst)[Z (i:Int)]?=G (d8 x)/\Q (U d8 run)/\Ao (I (U d8 run)+I (ab (vi x.fst::vi x.snd.n::dt x.snd.az::nV)::nV)) 40/\((Q (G (c7 x.snd.n x.snd.az))/\True)/\True/\True)/\br 1 (U d8 run++[ab [vi x.fst,vi x.snd.n,dt x.snd.az]])=GZ (run++[x])/\di (yu yt ((↑(n+1):Int)-1))=di (n:Int)/\Q [G (cr l a1),G [di 0,dn],G (c7 x.snd.n x.snd.az)]/\[(1,3,U d8 run++ab (vi x.fst::vi x.snd.n::dt x.snd.az::nV)::nV)]=[(1,3,U d8 (run++[x]))]/\_) ⟨decide_eq_true (by omega),hall,by rw[h0];rfl,beq_eq_false_iff_ne.2 (by rw[List.length_map];omega),by rw[List.length_map];exact r4,by omega,Am hx,rfl,⟨?_,?_⟩,(by repeat' first|with_reducible refine And.intro ?_ ?_|rfl|trivial),?_,?_,rfl,?_,iK g4⟩
   ·simp only[H9,HF,HJ];omega
   ·simp only[H9,HF,HJ];omega
   ·rw[GZ, ←Ge]
   ·rw[Al];congr 2;omega
   ·rw[←Ge]
theorem Ac8(m:b9)(hm:RV m)(l:List UInt8)(hl:I l<=200)(a:Nat)(ha:a<=I l)(most:Nat)(hmo:most<=50):
  ∃(d:bc) (run:List c8) (a':Nat),W3 m m.start run d/\run.length<=60/\a'<=I l/\Aa PP 9 [.ptr 0 0,Af m,di most] (dz l a) (.tup [dV d,.v (Aw run)]) (dz l a'):=by
 obtain⟨n,a1,n1,n2,n3,n4⟩:=A2 l hl a ha (most+1) (by omega) (by omega)
 obtain⟨k,rfl⟩:∃k:Nat,n=k:=⟨n.toNat,by omega⟩
 obtain⟨d,run,a',g1,g2,g3,g4⟩:=Vn m hm l hl k a1 m.start [] n3 .nil (by simp;omega)
 refine⟨d,run,a',g1,g2,g3,?_⟩
 refine sv Zo 52 [4] (.h (.q 3 0)<|.h (.nw 9 1 3)<|.c1 (cr l a1) (di k)<|.ls [ke 0,ke 4,ke 6,ke 8,ke 9,ke 10] (vt l a1 m.start [])) (Aa PP 7 [bq 0 0,di (yu yt ((most:Int)+1))] (dz l a) (di (k:Int)) (dz l a1)/\Q [G (cr l a1),G [di 0,dn],G (c7 m.start.n m.start.az)]/\Q [(1,3,nV)]/\_) ⟨by rw[Al];exact n4,rfl,rfl,iK g4⟩
noncomputable abbrev Zt:=Tryz.f10
noncomputable def Wf:=yl Zt
theorem Ze(l:List bc)(hl:I l<=1000000)(hs:∀x∈l,x.size<=1000000)(v:bc)(n:Nat):∀k:Nat,I l-k=n->
  Rn PP Zt 0 (db ((l.drop k).any fun x=>Aq x v==0)) bd ([kl Wf [1,0,1,0,0],.blk 0,kc Wf [1,1]]++[]) (ba 18 [(0,cx l),(3,.v (.ref (Ac v))),(5,di k)]) bd:=by
 induction n with
 |zero=>
  intro k hn
  rw[HU (by omega)]
  exact lv 18 [3] (.f .r) (Y ((k:Int)<(I (U eV l):Int))=O/\db O=db (List.any [] fun x=>Aq x v==0)) ⟨HE (by rw[H9];omega),rfl⟩
 |succ n ih=>
  intro k hn
  obtain⟨x,hx⟩:=yk (show k<I l by omega)
  have e3:l.drop k=x::l.drop (k+1):=by rw[HP (by omega)];congr 1;rw[HA (by omega)] at hx;simpa using hx
  have hi:=ih (k+1) (by omega)
  rw[e3,List.any_cons]
  have hsm:=GD x v (hs x (HG hx))
  cases hc:(Aq x v==0) with
  |true=>
   rw[hc] at hsm
   rw[Bool.true_or]
   exact lv 18 [3] (.t<|.h (.xs (Ac x))<|.c (db J) .r) (Y ((k:Int)<(I (U eV l):Int))=J/\Q 2/\0<=(k:Int)/\(U eV l)[Z (k:Int)]?=G (Ac x)/\_/\Q (db J)) ⟨HC (by rw[H9];omega),rfl,by omega,An hx,hsm,rfl⟩
  |false=>
   rw[hc] at hsm
   rw[Bool.false_or]
   exact lv 18 [3] (.t<|.h (.xs (Ac x))<|.c (db O)<|.l [ke 0,ke 3,ch 5 (di (k+1:Nat))]) (Y ((k:Int)<(I (U eV l):Int))=J/\Q 2/\0<=(k:Int)/\(U eV l)[Z (k:Int)]?=G (Ac x)/\_/\di (yu yt ((k:Int)+1))=di (↑(k+1):Int)/\_) ⟨HC (by rw[H9];omega),rfl,by omega,An hx,hsm,Ae,iK hi⟩
theorem LY(l:List bc)(hl:I l<=1000000)(hs:∀x∈l,x.size<=1000000)(v:bc):F0 10 [cx l,dV v] (db (l.any fun x=>Aq x v==0)):=by
 exact sv Zt 18 [3] (.l [ke 0,ke 3,ch 5 (di (0:Nat))]) (Q (di 0)/\_) ⟨rfl,iK (Ze l hl hs v _ 0 rfl)⟩
inductive j5 (S:bc->List c8×Int):Nat->bc->bc->Prop where
 |zero (x:bc):j5 S 0 x x
 |succ {k:Nat} {x y:bc} {s:c8} (hs:s∈ (S x).1) (h:j5 S k s.2 y):j5 S (k+1) x y
theorem j5.snoc{S:bc->List c8×Int}{k:Nat}{x y:bc}{s:c8}(h:j5 S k x y)(hs:s∈ (S y).1):j5 S (k+1) x s.2:=by
 induction h with
 |zero x=>exact .succ hs (.zero _)
 |succ h1 _ ih=>exact .succ h1 (ih hs)
theorem W3.rch{m:b9}{c0:bc}{run:List c8}{c:bc}(h:W3 m c0 run c):j5 (AI m) (I run) c0 c:=by
 induction h with
 |nil=>exact .zero _
 |snoc _ _ hs ih=>rw[HO];exact ih.snoc hs
theorem Lp(l:List bc)(v:bc):(l.any fun x=>Aq x v==0)=J↔v∈l:=by
 rw[List.any_eq_true]
 constructor
 ·rintro ⟨x,hx,h⟩
  rw[Il,EB] at h
  exact h▸hx
 ·intro h
  exact⟨v,h,by rw[Il];exact EB.2 rfl⟩
theorem Lg(l:List bc)(v:bc):Y (DO l v<0)=J↔v∉l:=by
 have h:=GP (fun x=>Aq x v==0) l 0
 rw[HK, ←Lp, ←h,HK]
 show DO l v<0↔¬DO l v>=0
 omega
theorem X4{F:List bc}(hn:F.Nodup){i:Nat}{a b:bc}(ha:(sortV F)[i]?=G a)(hb:(sortV F)[i+1]?=G b):Aq a b<0:=by
 have hs:=List.pairwise_iff_getElem.1 (GA F)
 have hd:=List.pairwise_iff_getElem.1 ((A7 F).nodup_iff.2 hn)
 obtain⟨h1,rfl⟩:=HD.1 ha
 obtain⟨h2,rfl⟩:=HD.1 hb
 have a1:=HL (hs i (i+1) h1 h2 (by omega))
 have a2:=hd i (i+1) h1 h2 (by omega)
 have a3:Aq (sortV F)[i] (sortV F)[i+1]≠0:=fun e=>a2 (EB.1 e)
 omega
theorem Ado(S:bc->List c8×Int)(most:Int)(d:Nat):∀(l:List bc) (st:List (List c8)) (aj:Nat),∀x∈l,x∈ (BE S most d l st aj).found:=by
 induction d with
 |zero=>
  intro l st aj x hx
  rw[BE]
  split
  ·exact hx
  ·split<;>exact hx
 |succ d ih=>
  intro l st aj x hx
  rw[BE]
  split
  ·exact hx
  ·split
   ·exact hx
   ·split
    ·exact hx
    ·exact ih _ _ _ x (Ix.2 (.inl hx))
theorem Z2(S:bc->List c8×Int)(most:Int)(d:Nat):∀(l:List bc) (st:List (List c8)) (aj:Nat),(BE S most (d+1) l st aj).err=0->(BE S most d l st aj).err=0/\∀x∈ (BE S most d l st aj).found,x∈ (BE S most (d+1) l st aj).found:=by
 induction d with
 |zero=>
  intro l st aj h
  refine⟨?_,fun x hx=>Ado S most (0+1) l st aj x ?_⟩
  ·rw[BE.eq_def S most (0+1)] at h
   rw[BE.eq_def S most 0]
   dsimp only at h⊢
   by_cases h1:((AW S (l.drop (I st)) st).2 !=0)=J
   ·rw[HV h1] at h⊢;exact h
   ·rw[HR h1]
    split<;>rfl
  ·rw[BE.eq_def S most 0] at hx
   dsimp only at hx
   split at hx
   ·exact hx
   ·split at hx<;>exact hx
 |succ d ih=>
  intro l st aj h
  rw[BE.eq_def S most (d+1+1)] at h
  rw[BE.eq_def S most (d+1),BE.eq_def S most (d+1+1)]
  dsimp only at h⊢
  by_cases h1:((AW S (l.drop (I st)) st).2 !=0)=J
  ·rw[HV h1] at h
   rw[HV h1,HV h1]
   exact⟨h,fun x hx=>hx⟩
  ·rw[HR h1] at h
   rw[HR h1,HR h1]
   by_cases h2:((I (DZ l ((AW S (l.drop (I st)) st).1.drop aj) []):Int)==0)=J
   ·rw[HV h2,HV h2]
    exact⟨rfl,fun x hx=>hx⟩
   ·rw[HR h2] at h
    rw[HR h2,HR h2]
    by_cases h3:Y (((I l+I (DZ l ((AW S (l.drop (I st)) st).1.drop aj) []):Nat):Int)>most)=J
    ·rw[HV h3] at h
     exact absurd (show(1:Int)=0 from h) (by decide)
    ·rw[HR h3] at h
     rw[HR h3,HR h3]
     exact ih _ _ _ h
theorem OH(S:bc->List c8×Int)(most:Int)(d:Nat)(v:bc)(h:(AU S most (d+1) v).2.2=0):(AU S most d v).2.2=0/\∀x∈ (AU S most d v).1,x∈ (AU S most (d+1) v).1:=by
 have hz:∀r:fy,((r.err !=0)=J)=(r.err≠0):=fun r=>by simp
 unfold AU at h⊢
 by_cases he:((BE S most (d+1) [v] [] 0).err !=0)=J
 ·rw[HV he] at h
  exact absurd h (by simpa using he)
 ·have he0:(BE S most (d+1) [v] [] 0).err=0:=by simpa using he
  obtain⟨h1,h2⟩:=Z2 S most d [v] [] 0 he0
  rw[HR he,HR (by rw[h1];decide)]
  exact⟨rfl,fun x hx=>(A7 _).mem_iff.2 (h2 x ((A7 _).mem_iff.1 hx))⟩
theorem KW(f:List bc):∀(l:List c8) (out:List bc),out.Nodup->(QE f l out).Nodup/\∀v,v∈QE f l out↔v∈out∨v∉f/\∃s∈l,s.2=v
 |[],out,hn=>⟨hn,fun v=>by simp[QE]⟩
 |s::l,out,hn=>by
  rw[QE]
  by_cases h1:Y (DO f s.2<0)=J
  ·rw[HV h1]
   have h1:=(Lg _ _).1 h1
   by_cases h2:Y (DO out s.2<0)=J
   ·rw[HV h2]
    have h2:=(Lg _ _).1 h2
    obtain⟨g1,g2⟩:=KW f l (out++[s.2]) (List.nodup_append.2 ⟨hn,by simp,fun a ha b hb=>by rw[HQ.1 hb];exact fun e=>h2 (e▸ha)⟩)
    refine⟨g1,fun v=>?_⟩
    rw[g2 v]
    constructor
    ·rintro (h|⟨h,t,ht,rfl⟩)
     ·rcases Ix.1 h with h|h
      ·exact .inl h
      ·exact .inr ⟨by rw[HQ.1 h];exact h1,s,by simp,(HQ.1 h).symm⟩
     ·exact .inr ⟨h,t,by simp[ht],rfl⟩
    ·rintro (h|⟨h,t,ht,rfl⟩)
     ·exact .inl (Ix.2 (.inl h))
     ·rcases Iq.1 ht with rfl|ht
      ·exact .inl (by simp)
      ·exact .inr ⟨h,t,ht,rfl⟩
   ·rw[HR h2]
    have h2:s.2∈out:=Classical.byContradiction fun h=>h2 ((Lg _ _).2 h)
    obtain⟨g1,g2⟩:=KW f l out hn
    refine⟨g1,fun v=>?_⟩
    rw[g2 v]
    constructor
    ·rintro (h|⟨h,t,ht,rfl⟩)
     ·exact .inl h
     ·exact .inr ⟨h,t,by simp[ht],rfl⟩
    ·rintro (h|⟨h,t,ht,rfl⟩)
     ·exact .inl h
     ·rcases Iq.1 ht with rfl|ht
      ·exact .inl h2
      ·exact .inr ⟨h,t,ht,rfl⟩
  ·rw[HR h1]
   have h1:s.2∈f:=Classical.byContradiction fun h=>h1 ((Lg _ _).2 h)
   obtain⟨g1,g2⟩:=KW f l out hn
   refine⟨g1,fun v=>?_⟩
   rw[g2 v]
   constructor
   ·rintro (h|⟨h,t,ht,rfl⟩)
    ·exact .inl h
    ·exact .inr ⟨h,t,by simp[ht],rfl⟩
   ·rintro (h|⟨h,t,ht,rfl⟩)
    ·exact .inl h
    ·rcases Iq.1 ht with rfl|ht
     ·exact absurd h1 h
     ·exact .inr ⟨h,t,ht,rfl⟩
theorem SH(f:List bc):∀(ls:List (List c8)) (out:List bc),out.Nodup->(DZ f ls out).Nodup/\∀v,v∈DZ f ls out↔v∈out∨v∉f/\∃l∈ls,∃s∈l,s.2=v
 |[],out,hn=>⟨hn,fun v=>by simp[DZ]⟩
 |l::ls,out,hn=>by
  obtain⟨a1,a2⟩:=KW f l out hn
  obtain⟨g1,g2⟩:=SH f ls _ a1
  refine⟨g1,fun v=>?_⟩
  rw[DZ,g2 v,a2 v]
  constructor
  ·rintro ((h|⟨h,t,ht,e⟩)|⟨h,k,hk,t,ht,e⟩)
   ·exact .inl h
   ·exact .inr ⟨h,l,by simp,t,ht,e⟩
   ·exact .inr ⟨h,k,by simp[hk],t,ht,e⟩
  ·rintro (h|⟨h,k,hk,t,ht,e⟩)
   ·exact .inl (.inl h)
   ·rcases Iq.1 hk with rfl|hk
    ·exact .inl (.inr ⟨h,t,ht,e⟩)
    ·exact .inr ⟨h,k,hk,t,ht,e⟩
theorem YV(S:bc->List c8×Int):∀(l:List bc) (st:List (List c8)),(AW S l st).2=0->(AW S l st).1=st++(l.map fun v=>(S v).1)/\∀v∈l,(S v).2=0
 |[],st,_=>⟨by simp[AW],by simp⟩
 |c::l,st,h=>by
  rw[AW] at h⊢
  by_cases h1:((S c).2 !=0)=J
  ·rw[HV h1] at h
   exact absurd h (by simpa using h1)
  ·rw[HR h1] at h⊢
   obtain⟨g1,g2⟩:=YV S l _ h
   refine⟨by rw[g1];simp,fun v hv=>?_⟩
   rcases Iq.1 hv with rfl|hv
   ·simpa using h1
   ·exact g2 v hv
structure sn(S:bc->List c8×Int)(l:List bc)(st:List (List c8))(aj:Nat):Prop where
 st:st=(l.take aj).map fun v=>(S v).1
 le:aj<=I l
 nd:l.Nodup
 ex:∀v∈l.take aj,(S v).2=0/\∀s∈ (S v).1,s.2∈l
theorem sn.turn{S:bc->List c8×Int}{l:List bc}{st:List (List c8)}{aj:Nat}(h:sn S l st aj)(he:(AW S (l.drop (I st)) st).2=0):sn S (l++DZ l ((AW S (l.drop (I st)) st).1.drop aj) []) (AW S (l.drop (I st)) st).1 (I l):=by
 obtain⟨g1,g2⟩:=YV S _ _ he
 have hle:=h.le
 have hsl:I st=aj:=by rw[h.st,H9,Ig];omega
 have e1:(AW S (l.drop (I st)) st).1=l.map fun v=>(S v).1:=by
  rw[g1,hsl]
  conv=>lhs;lhs;rw[h.st]
  rw[←IQ,List.take_append_drop]
 rw[hsl] at g2
 rw[e1]
 have e2:(l.map fun v=>(S v).1).drop aj=(l.drop aj).map fun v=>(S v).1:=map_drop.symm
 rw[e2]
 obtain⟨n1,n2⟩:=SH l ((l.drop aj).map fun v=>(S v).1) [] (by simp)
 generalize DZ l ((l.drop aj).map fun v=>(S v).1) []=nx at*
 have et:(l++nx).take (I l)=l:=by rw[Jj (HH _),take_length]
 refine⟨by rw[et],by rw[HO];omega,List.nodup_append.2 ⟨h.nd,n1,fun a ha b hb=>?_⟩,fun v hv=>?_⟩
 ·rcases(n2 b).1 hb with h|⟨h,_⟩
  ·exact absurd h (by simp)
  ·exact fun e=>h (e▸ha)
 ·rw[et] at hv
  rw[←List.take_append_drop aj l] at hv
  rcases Ix.1 hv with hv|hv
  ·exact⟨(h.ex v hv).1,fun s hs=>Ix.2 (.inl ((h.ex v hv).2 s hs))⟩
  ·refine⟨g2 v hv,fun s hs=>?_⟩
   by_cases hx:s.2∈l
   ·exact Ix.2 (.inl hx)
   ·exact Ix.2 (.inr ((n2 _).2 (.inr ⟨hx,_,Is.2 ⟨v,hv,rfl⟩,s,hs,rfl⟩)))
theorem AhG{S:bc->List c8×Int}{l:List bc}(h:∀v∈l,(S v).2=0/\∀s∈ (S v).1,s.2∈l){k:Nat}{x y:bc}(hr:j5 S k x y):x∈l->y∈l:=by
 induction hr with
 |zero=>exact id
 |succ hs _ ih=>exact fun hx=>ih ((h _ hx).2 _ hs)
structure ExT(S:bc->List c8×Int)(d:Nat)(l:List bc)(r:fy):Prop where
 nd:r.found.Nodup
 whole:r.whole=J->∀v∈r.found,(S v).2=0/\∀s∈ (S v).1,s.2∈r.found
 has:∀k x y,k<=d->x∈l->j5 S k x y->y∈r.found
theorem Qq(S:bc->List c8×Int)(most:Int):∀(d:Nat) (l:List bc) (st:List (List c8)) (aj:Nat),sn S l st aj->(BE S most d l st aj).err=0->ExT S d l (BE S most d l st aj)
 |d,l,st,aj,hw,he=>by
  rw[BE.eq_def] at he⊢
  dsimp only at he⊢
  by_cases h1:((AW S (l.drop (I st)) st).2 !=0)=J
  ·rw[HV h1] at he
   exact absurd he (by simpa using h1)
  ·rw[HR h1] at he⊢
   have ht:=hw.turn (by simpa using h1)
   by_cases h2:((I (DZ l ((AW S (l.drop (I st)) st).1.drop aj) []):Int)==0)=J
   ·rw[HV h2] at he⊢
    have h2:DZ l ((AW S (l.drop (I st)) st).1.drop aj) []=[]:=List.length_eq_zero_iff.1 (by simpa using h2)
    rw[h2,Iz] at ht
    have hx:=ht.ex
    rw[take_length] at hx
    exact⟨ht.nd,fun _=>hx,fun k x y _ hxl hr=>AhG hx hr hxl⟩
   ·rw[HR h2] at he⊢
    cases d with
    |zero=>
     refine⟨hw.nd,fun h=>(by cases h),fun k x y hk hx hr=>?_⟩
     obtain rfl:k=0:=by omega
     cases hr
     exact hx
    |succ d=>
     dsimp only at he⊢
     by_cases h3:Y (((I l+I (DZ l ((AW S (l.drop (I st)) st).1.drop aj) []):Nat):Int)>most)=J
     ·rw[HV h3] at he
      exact absurd (show(1:Int)=0 from he) (by decide)
     ·rw[HR h3] at he⊢
      have hi:=Qq S most d _ _ _ ht he
      refine⟨hi.nd,hi.whole,fun k x y hk hx hr=>?_⟩
      have hx2:=ht.ex x (by rw[Jj (HH _),take_length];exact hx)
      cases hr with
      |zero=>exact hi.has 0 _ _ (Ik _) (Ix.2 (.inl hx)) (.zero _)
      |succ hs hr=>exact hi.has _ _ _ (by omega) (hx2.2 _ hs) hr
theorem Qr(S:bc->List c8×Int)(most:Int):∀(d:Nat) (l:List bc) (st:List (List c8)) (aj:Nat),(BE S most d l st aj).whole=J->BE S most (d+1) l st aj=BE S most d l st aj
 |d,l,st,aj,h=>by
  rw[BE.eq_def S most d] at h⊢
  rw[BE.eq_def S most (d+1)]
  dsimp only at h⊢
  by_cases h1:((AW S (l.drop (I st)) st).2 !=0)=J
  ·rw[HV h1] at h
   cases h
  ·rw[HR h1] at h
   rw[HR h1,HR h1]
   by_cases h2:((I (DZ l ((AW S (l.drop (I st)) st).1.drop aj) []):Int)==0)=J
   ·rw[HV h2,HV h2]
   ·rw[HR h2] at h
    rw[HR h2,HR h2]
    cases d with
    |zero=>cases h
    |succ d=>
     dsimp only at h⊢
     by_cases h3:Y (((I l+I (DZ l ((AW S (l.drop (I st)) st).1.drop aj) []):Nat):Int)>most)=J
     ·rw[HV h3] at h
      cases h
     ·rw[HR h3] at h
      rw[HR h3,HR h3]
      exact Qr S most d _ _ _ h
theorem Qp(S:bc->List c8×Int)(v:bc)(n:Nat)(h1:(AU S 200 n v).2.2=0)(h2:(AU S 200 (n+1) v).2.2=0):
  ∃F:List bc,(AU S 200 n v).1=sortV F/\F.Nodup/\(∀x∈F,x∈ (AU S 200 (n+1) v).1)/\(∀k y,k<=n->j5 S k v y->y∈F)/\
   ((AU S 200 n v).2.1=J->(∀x∈F,(S x).2=0/\∀s∈ (S x).1,s.2∈F)/\(AU S 200 (n+1) v).1.length=(AU S 200 n v).1.length):=by
 have hm:=(OH S 200 n v h2).2
 have hs:=Qr S 200 n [v] [] 0
 have ht:=Qq S 200 n [v] [] 0 ⟨rfl,Ik _,by simp,by simp⟩
 unfold AU at h1 h2 hm⊢
 by_cases he:((BE S 200 n [v] [] 0).err !=0)=J
 ·rw[HV he] at h1
  exact absurd h1 (by simpa using he)
 ·have he0:(BE S 200 n [v] [] 0).err=0:=by simpa using he
  have ht:=ht he0
  rw[HR he] at hm⊢
  refine⟨_,rfl,ht.nd,fun x hx=>hm x ((A7 _).mem_iff.2 hx),fun k y hk hr=>ht.has k v y hk (by simp) hr,fun hw=>⟨ht.whole hw,?_⟩⟩
  rw[hs hw,HR he]
noncomputable abbrev AlJ:=Tryz.f27
theorem K6(x:Int)(hx:0<=x/\x<2147483647)(n:Int)(hn:1<=n/\n<=1000):∃r x':Int,(0<=r/\r<n)/\(0<=x'/\x'<2147483647)/\Aa PP 27 [.ptr 0 0,di n] ⟨[G [di x]],[]⟩ (di r) ⟨[G [di x']],[]⟩:=by
 refine⟨(x.tdiv 8).tmod n,(x*48271).tmod 2147483647,?_,?_,?_⟩
 ·have h1:=Int.emod_nonneg (x/8) (show n≠0 by omega)
  have h2:=Int.emod_lt_of_pos (x/8) (show 0<n by omega)
  rw[Int.tdiv_eq_ediv_of_nonneg hx.1,Int.tmod_eq_emod_of_nonneg (by omega)]
  exact⟨h1,h2⟩
 ·rw[Int.tmod_eq_emod_of_nonneg (by omega)]
  omega
 refine sv AlJ 23 [] (.ro) (iz 8≠0/\iz 2147483647≠0/\n≠0/\cm 1 [] [G [di (Int.tmod (yu yt (x*48271)) 2147483647)]]=J/\[G [di (Int.tmod (yu yt (x*48271)) 2147483647)]]=[G [di (Int.tmod (x*48271) 2147483647)]]/\di (Int.tmod (yu yt (Int.tdiv x 8)) n)=di (Int.tmod (Int.tdiv x 8) n)) ?_
 rw[Al (n:=x*48271),Al (n:=x.tdiv 8) (by rw[Int.tdiv_eq_ediv_of_nonneg hx.1];omega) (by rw[Int.tdiv_eq_ediv_of_nonneg hx.1];omega)]
 exact⟨by decide,by decide,by omega,rfl,rfl,rfl⟩
noncomputable abbrev AlO:=Tryz.f28
noncomputable abbrev AkD:=Tryz.f56
noncomputable abbrev AlP:=Tryz.f102
noncomputable abbrev AlG:=Tryz.f148
def gr(i:Nat):List UInt8:=[48+UInt8.ofNat i]
noncomputable abbrev Apa:=(bf #[48,49,50,51,52,53,54,55,56,57,97,98,99,100,101,102,103,104,105,106,107,108,109,110,111,112,113,114,115,116,117,118,119,120,121,122])
theorem AbH(i:Nat)(hi:i<10):F0 148 [di i] (ds (gr i)):=by
 refine sv AlG 15 [] (.t .r) (Y ((i:Int)<10)=J/\0<=(fun x=>x.snd) (ec i)/\(fun x=>x.snd) (ec i)<=(fun x=>x.snd) (yt,yu yt ((i:Int)+1))/\(fun x=>x.snd) (yt,yu yt ((i:Int)+1))<=(↑(I Apa.data.toList):Int)/\bt (ae (W (Z ((fun x=>x.snd) (ec i))) (take (Z ((fun x=>x.snd) (yt,yu yt ((i:Int)+1)))) Apa.data.toList)))=bt (ae (gr i))) ?_
 rcases(show i=0∨i=1∨i=2∨i=3∨i=4∨i=5∨i=6∨i=7∨i=8∨i=9 by omega) with rfl|rfl|rfl|rfl|rfl|rfl|rfl|rfl|rfl|rfl<;>exact⟨by decide,by decide,by decide,by decide,by rfl⟩
theorem Adb(i:Nat)(hi:i<10):F0 102 [di i,di 10] (ds (gr i)):=by
 exact sv AlP 54 [] (.k<|.t<|.t<|.c (ds (gr i)) .r) (Y (0<=(i:Int))=J/\Y ((i:Int)<100)=J/\_/\Q (bt (ae (gr i)))) ⟨yr,yr,AbH i hi,rfl⟩
theorem AcS(i:Nat)(hi:i<10):F0 28 [di i] (ds (gr i)):=by
 have h1:=Adb i hi
 have h2:F0 56 [di i] (ds (gr i)):=by
  exact sv AkD 5 [] (.c (ds (gr i)) .r) (_/\Q (bt (ae (gr i)))) ⟨h1,rfl⟩
 exact sv AlO 5 [] (.c (ds (gr i)) .r) (_/\Q (bt (ae (gr i)))) ⟨h2,rfl⟩
noncomputable abbrev uo:=Tryz.f29
noncomputable def uj:=yl uo
theorem AbN(l:List Int)(hl:I l<=1000)(s:Int)(n:Nat):∀(k:Nat) (xs:List bc),I l-k=n->I xs=k+1->
  Rn PP uo 0 (dV (.mk 0 (xs++(l.drop k).map fun x=>.mk x []))) bd ([kl uj [1,1,0,1,0,0],.blk 0,kc uj [1,1,1]]++[]) (ba 27 [(4,.ptr 0 0),(5,.ptr 1 0),(12,cw l),(13,di (I l)),(14,di k)]) (mm s xs):=by
 induction n with
 |zero=>
  intro k xs hk hx
  refine lv 27 [] (.f .r) (Y ((k:Int)<(I l:Int))=O/\bt (tw xs)=dV (bc.mk 0 (xs++U (fun x=>bc.mk x []) (W k l)))) ⟨yq,?_⟩
  rw[HU (by omega),I7,Iz];rfl
 |succ n ih=>
  intro k xs hk hxl
  refine lv 27 [] (.t<|.e fun x:Int=>.x (vi x)<|.ls [ke 4,ke 5,ke 12,ke 13,ch 14 (di (k+1:Nat))] (mm s (xs++[.mk x []]))) (Y ((k:Int)<(I l:Int))=J/\∃a,0<=(k:Int)/\(U vi l)[Z (k:Int)]?=G (vi a)/\Q (U eV xs)/\Ao (I (U eV xs)+I (ab (gn a)::nV)) 32/\di (yu yt ((k:Int)+1))=di (↑(k+1):Int)/\[G [di 0,dn],G [di 0,br 1 (U eV xs++ab (gn a)::nV)]]=[G [di 0,dn],G [di 0,br 1 (U eV (xs++[bc.mk a []]))]]/\[(1,2,U eV xs++ab (gn a)::nV)]=[(1,2,U eV (xs++[bc.mk a []]))]/\I0 uo 0 (dV (bc.mk 0 (xs++U (fun x=>bc.mk x []) (W k l)))) bd [kl uj d5,bh 0,kc uj [1,1,1]] (ba 27 [(4,bq 0 0),(5,bq 1 0),(12,cw l),(13,di (I l:Int)),(14,di (↑(k+1):Int))]) (mm s (xs++[bc.mk a []]))) ?_
  have hk1:k<I l:=by omega
  have hx:l[k]?=G l[k]:=HA hk1
  rw[HP hk1]
  generalize l[k]=x at hx⊢
  have h:=ih (k+1) (xs++[.mk x []]) (by omega) (by simp[hxl])
  rw[IG] at h
  refine⟨yr,x,by omega,Am hx,rfl,⟨?_,?_⟩,Ae,?_,?_,⟨h⟩⟩
  ·simp only[H9,HF,HJ];omega
  ·simp only[H9,HF,HJ];omega
  ·rw[←B1];rfl
  ·rw[←B1];rfl
theorem AbM(l:List Int)(hl:I l<=1000)(s:Int):F0 29 [di s,cw l] (dV (Dp s l)):=by
 exact sv uo 27 [] (.a 1<|.h .g<|.ls [ke 4,ke 5,ch 12 (cw l),ch 13 (di (I l)),ch 14 (di (0:Nat))] (mm s [.mk s []])) (Q (cw l)/\di (I (U vi l):Int)=di (I l:Int)/\Q (di 0)/\Q [G [di 0,dn],G [di 0,br 1 (eV (fz s)::nV)]]/\Q [(1,2,eV (fz s)::nV)]/\_) ⟨rfl,by rw[H9],rfl,rfl,rfl,iK (AbN l hl s _ 0 [.mk s []] rfl rfl)⟩
noncomputable abbrev Zl:=Tryz.f13
noncomputable def E7:=yl Zl
def pb:List (List UInt8):=[[97],[98],[99]]
def pa:List (List UInt8):=[[120],[121],[122]]
structure tb(ns np:Nat)(k:Nat)(r:cp):Prop where
 name:r.name=114::gr k
 aj:0<=r.aj/\r.aj<ns
 to:0<=r.to/\r.to<ns
 am:I r.am=np/\∀x∈r.am,0<=x/\x<=2
 ak:I r.ak=np/\∀x∈r.ak,0<=x/\x<=2
 rest:r=cg r.name r.aj r.to r.am r.ak []
structure Gx(m:b9):Prop where
 kind:m.kind=1
 aw:∃n:Nat,1<=n/\n<=3/\m.aw=pb.take n
 ay:∃n:Nat,1<=n/\n<=3/\m.ay=pa.take n
 ax:m.ax=[]
 au:m.au=[]
 ao:m.ao=0
 age:m.age=0
 count:1<=I m.av/\m.av.length<=4
 av:∀k r,m.av[k]?=G r->tb (I m.aw) (I m.ay) k r
 start:∃ys:List Int,I ys=I m.ay/\(∀x∈ys,0<=x/\x<=3)/\m.start=Dp 0 ys
abbrev um(x:Int)(S Pl:List (List UInt8))(rs:List cp):St:=⟨[G zM,G [di x],G (cM S Pl rs)],[(2,14,rs.map Ai)]⟩
abbrev pn(x:Int)(S Pl:List (List UInt8))(rs:List cp)(nm:List UInt8)(f t:Int)(nd gv:List Int):St:=⟨[G zM,G [di x],G (cM S Pl rs),G [.v (.str nm),di f,di t,.acc 3 (nd.map vi),.acc 4 (gv.map vi),.v .nils,di 0,di 0,di 0,.v .nils,.v .nils,.v .nils,.v .nils,di 0]],[(4,1,gv.map vi),(3,1,nd.map vi),(2,14,rs.map Ai)]⟩
set_option linter.unusedSectionVars false
section
variable {S Pl : List (List UInt8)} (hS : 1 <= (I S) /\ (I S) <= 3) (hP : 1 <= (I Pl) /\ (I Pl) <= 3) {R : Int} (hR : 1 <= R /\ R <= 4)
include hS hP hR
def Al1(S Pl:List (List UInt8))(R:Int)(k:Nat)(x:Int)(rs:List cp):Prop:=∃m:b9,Gx m/\Rn PP Zl 0 (Af m) bd ([kl E7 [1,1,1,1,1,1,0,1,0,0],.blk 0,kc E7 [1,1,1,1,1,1,1]]++[]) (ba 94 [(2,.ptr 0 0),(3,.ptr 1 0),(4,.ptr 2 0),(34,di R),(35,di k)]) (um x S Pl rs)
noncomputable abbrev Am3:=fun a₀ b₀ c₀ d₀ e₀=>(ae (cg a₀ b₀ c₀ d₀ e₀ []).name::vi (cg a₀ b₀ c₀ d₀ e₀ []).aj::vi (cg a₀ b₀ c₀ d₀ e₀ []).to::cz (cg a₀ b₀ c₀ d₀ e₀ []).am::cz (cg a₀ b₀ c₀ d₀ e₀ []).ak::cz (cg a₀ b₀ c₀ d₀ e₀ []).move::vi (cg a₀ b₀ c₀ d₀ e₀ []).chan::vi (cg a₀ b₀ c₀ d₀ e₀ []).act::vi (cg a₀ b₀ c₀ d₀ e₀ []).letter::cz (cg a₀ b₀ c₀ d₀ e₀ []).path::cz (cg a₀ b₀ c₀ d₀ e₀ []).next::AA (cg a₀ b₀ c₀ d₀ e₀ []).ar::cz (cg a₀ b₀ c₀ d₀ e₀ []).aq::vi (cg a₀ b₀ c₀ d₀ e₀ []).second::nV)
noncomputable abbrev jx:=fun a₀=>(bi [G [di a₀]] [])
noncomputable abbrev Aoh:=[kl E7 [1,1,1,1,1,1,0,1,0,0,1,1,0,0,1,1,0,1,0,0],bh 2,kc E7 [1,1,1,1,1,1,0,1,0,0,1,1,0,0,1,1,1],bh 1,kc E7 [1,1,1,1,1,1,0,1,0,0,1,1,1],kl E7 [1,1,1,1,1,1,0,1,0,0],bh 0,kc E7 [1,1,1,1,1,1,1]]
noncomputable abbrev wr:=fun a₀ b₀ c₀=>Aa PP 27 [bq 0 0,di 3] (jx a₀) (di b₀) (jx c₀)
theorem Ah5{k:Nat}{rs:List cp}{nm:List UInt8}{f t:Int}(hk:k<=3)(hout:∀(x:Int) (nd gv:List Int),(0<=x/\x<2147483647)->(I nd=I Pl/\∀x∈nd,0<=x/\x<=2)->(I gv=I Pl/\∀x∈gv,0<=x/\x<=2)->Al1 S Pl R (k+1) x (rs++[cg nm f t nd gv []]))(hrs:I rs<=3)(n:Nat):∀(j:Nat) (x:Int) (nd gv:List Int),I Pl-j=n->j<=I Pl->(0<=x/\x<2147483647)->(I nd=j/\∀x∈nd,0<=x/\x<=2)->(I gv=j/\∀x∈gv,0<=x/\x<=2)->
  ∃m:b9,Gx m/\Rn PP Zl 0 (Af m) bd ([kl E7 [1,1,1,1,1,1,0,1,0,0,1,1,0,0,1,1,0,1,0,0],.blk 2,kc E7 [1,1,1,1,1,1,0,1,0,0,1,1,0,0,1,1,1],.blk 1,kc E7 [1,1,1,1,1,1,0,1,0,0,1,1,1],kl E7 [1,1,1,1,1,1,0,1,0,0],.blk 0,kc E7 [1,1,1,1,1,1,1]]++[]) (ba 94 [(2,.ptr 0 0),(3,.ptr 1 0),(4,.ptr 2 0),(6,.ptr 3 0),(34,di R),(35,di k),(54,di (I Pl)),(55,di j)]) (pn x S Pl rs nm f t nd gv):=by
 induction n with
 |zero=>
  intro j x nd gv hn hj hx hd hg
  obtain⟨m,hm,h⟩:=hout x nd gv hx ⟨by omega,hd.2⟩ ⟨by omega,hg.2⟩
  refine⟨m,hm,?_⟩
  have ev:=AV rs (cg nm f t nd gv [])
  refine lv 94 [] (.f<|.h (.q 16 2)<|.h (.cs ⟨[G zM,G [di x],G (cM S Pl rs),G (cR (cg nm f t nd gv []))],[(4,1,gv.map vi),(3,1,nd.map vi),(2,14,rs.map Ai)]⟩)<|.ls [ke 2,ke 3,ke 4,ke 34,ch 35 (di (k+1:Nat))] (um x S Pl (rs++[cg nm f t nd gv []]))) (Y ((j:Int)<(I Pl:Int))=O/\(∀(e:List D) (E:cf) (g:Gh) (a:Act) (w:x5),FI E g (bi [G zM,G [di x],G (cM S Pl rs),G [bt (ae nm),di f,di t,br 3 (U vi nd),br 4 (U vi gv),dn,di 0,di 0,di 0,dn,dn,dn,dn,di 0]] [(4,1,U vi gv),(3,1,U vi nd),(2,14,U Ai rs)]) e a w->∃g',FI E g' (bi [G zM,G [di x],G (cM S Pl rs),G (cR (cg nm f t nd gv []))] [(4,1,U vi gv),(3,1,U vi nd),(2,14,U Ai rs)]) e a w)/\Q (U Ai rs)/\Ao (I (U Ai rs)+I (ab (ae (cg nm f t nd gv []).name::aa yt (cg nm f t nd gv []).aj::aa yt (cg nm f t nd gv []).to::cz (cg nm f t nd gv []).am::cz (cg nm f t nd gv []).ak::cz (cg nm f t nd gv []).move::aa yt (cg nm f t nd gv []).chan::aa yt (cg nm f t nd gv []).act::aa yt (cg nm f t nd gv []).letter::cz (cg nm f t nd gv []).path::cz (cg nm f t nd gv []).next::AA (cg nm f t nd gv []).ar::cz (cg nm f t nd gv []).aq::aa yt (cg nm f t nd gv []).second::nV)::nV)) 232/\di (yu yt ((k:Int)+1))=di (↑(k+1):Int)/\[G zM,G [di x],G [di 1,bt (co S),bt (co Pl),dn,dn,di 0,di 0,br 2 (U Ai rs++ab (Am3 nm f t nd gv)::nV),di 0,dn]]=[G zM,G [di x],G (cM S Pl (rs++[cg nm f t nd gv []]))]/\[(2,14,U Ai rs++ab (Am3 nm f t nd gv)::nV)]=[(2,14,U Ai (rs++[cg nm f t nd gv []]))]/\_) ⟨yq,fun e=>?_,rfl,⟨?_,?_⟩,Ae,HX (fun z=>[G zM,G [di x],G [di 1,.v (co S),.v (co Pl),.v .nils,.v .nils,di 0,di 0,.acc 2 z,di 0,.v .nils]]) ev,HX (fun z=>[(2,14,z)]) ev,iK h⟩
  ·exact Ec (σ:=⟨[G zM,G [di x],G (cM S Pl rs),G [.v (.str nm),di f,di t,.acc 3 (nd.map vi),.acc 4 (gv.map vi),.v .nils,di 0,di 0,di 0,.v .nils,.v .nils,.v .nils,.v .nils,di 0]],[(4,1,gv.map vi),(3,1,nd.map vi),(2,14,rs.map Ai)]⟩) (q:=3) rfl (fun g us hr=>by
    have:=CV (ts:=[]) (kn:=false) hr
    exact this) (fun _ x hx=>by
    simp only[cR,Iq,Ji,or_false] at hx
    rcases hx with rfl|rfl|rfl|rfl|rfl|rfl|rfl|rfl|rfl|rfl|rfl|rfl|rfl|rfl<;>rfl) e
  ·simp only[H9,HF,HJ];omega
  ·simp only[H9,HF,HJ];omega
 |succ n ih=>
  intro j x nd gv hn hj hx hd hg
  obtain⟨a,x1,a1,a2,a3⟩:=K6 x hx 3 (by decide)
  obtain⟨b,x2,b1,b2,b3⟩:=K6 x1 a2 3 (by decide)
  obtain⟨m,hm,h⟩:=ih (j+1) x2 (nd++[a]) (gv++[b]) (by omega) (by omega) b2 ⟨by simp;omega,fun y hy=>by
   rcases Ix.1 hy with hy|hy
   ·exact hd.2 y hy
   ·rw[HQ.1 hy];omega⟩ ⟨by simp;omega,fun y hy=>by
   rcases Ix.1 hy with hy|hy
   ·exact hg.2 y hy
   ·rw[HQ.1 hy];omega⟩
  refine⟨m,hm,?_⟩
  refine lv 94 [] (.t<|.c1 [di x1] (di a)<|.c1 [di x2] (di b)<|.ls [ke 2,ke 3,ke 4,ke 6,ke 34,ke 35,ke 54,ch 55 (di (j+1:Nat))] (pn x2 S Pl rs nm f t (nd++[a]) (gv++[b]))) (Y ((j:Int)<(I Pl:Int))=J/\wr x a x1/\Q (U vi nd)/\Ao (I (U vi nd)+I (aa yt a::nV)) 8/\((Q (G [br 3 (U vi nd)])/\True)/\True)/\wr x1 b x2/\Q (U vi gv)/\Ao (I (U vi gv)+I (aa yt b::nV)) 8/\((Q (G [br 4 (U vi gv)])/\True)/\True)/\di (yu yt ((j:Int)+1))=di (↑(j+1):Int)/\[G zM,G [di x2],G (cM S Pl rs),G [bt (ae nm),di f,di t,br 3 (U vi nd++vi a::nV),br 4 (U vi gv++vi b::nV),dn,di 0,di 0,di 0,dn,dn,dn,dn,di 0]]=[G zM,G [di x2],G (cM S Pl rs),G [bt (ae nm),di f,di t,br 3 (U vi (nd++[a])),br 4 (U vi (gv++[b])),dn,di 0,di 0,di 0,dn,dn,dn,dn,di 0]]/\[(4,1,U vi gv++vi b::nV),(3,1,U vi nd++vi a::nV),(2,14,U Ai rs)]=[(4,1,U vi (gv++[b])),(3,1,U vi (nd++[a])),(2,14,U Ai rs)]/\I0 Zl 0 (Af m) bd Aoh (ba 94 [i7,jr,(4,bq 2 0),(6,bq 3 0),(34,di R),(35,di (k:Int)),(54,di (I Pl:Int)),(55,di (↑(j+1):Int))]) (pn x2 S Pl rs nm f t (nd++[a]) (gv++[b]))) ?_
  have e1:(nd++[a]).map vi=nd.map vi++[vi a]:=by simp
  have e2:(gv++[b]).map vi=gv.map vi++[vi b]:=by simp
  rw[pn,e1,e2] at h⊢
  refine⟨yr,a3,rfl,⟨?_,?_⟩,⟨⟨rfl,trivial⟩,trivial⟩,b3,rfl,⟨?_,?_⟩,⟨⟨rfl,trivial⟩,trivial⟩,Ae,rfl,rfl,⟨h⟩⟩
  all_goals (simp only[H9,HF,HJ];omega)
theorem AbG{m:b9}(x:Int)(rs:List cp)(hfin:∀ys:List Int,I ys=I Pl->(∀x∈ys,0<=x/\x<=3)->Gx ⟨1,S,Pl,[],[],0,0,rs,Dp 0 ys⟩)(n:Nat):∀(j:Nat) (x:Int) (ys:List Int),I Pl-j=n->j<=I Pl->(0<=x/\x<2147483647)->(I ys=j/\∀x∈ys,0<=x/\x<=3)->
  ∃m:b9,Gx m/\Rn PP Zl 0 (Af m) bd ([kl E7 [1,1,1,1,1,1,1,1,0,1,0,0],.blk 4,kc E7 [1,1,1,1,1,1,1,1,1]]++[]) (ba 94 [(2,.ptr 0 0),(3,.ptr 1 0),(4,.ptr 2 0),(7,.acc 5 (ys.map vi)),(81,di (I Pl)),(82,di j)]) ⟨[G zM,G [di x],G (cM S Pl rs)],[(5,1,ys.map vi),(2,14,rs.map Ai)]⟩:=by
 induction n with
 |zero=>
  intro j x ys hn hj hx hy
  have hc:=AbM ys (by omega) 0
  have hm:=hfin ys (by omega) hy.2
  generalize Dp 0 ys=c at hc hm
  refine⟨_,hm,?_⟩
  exact lv 94 [] (.f<|.c (dV c) .r) (Y ((j:Int)<(I Pl:Int))=O/\_/\bt (Aon S Pl rs c.n c.az)=Af (b9.mk 1 S Pl [] [] 0 0 rs c)) ⟨yq,hc,rfl⟩
 |succ n ih=>
  intro j x ys hn hj hx hy
  obtain⟨a,x1,a1,a2,a3⟩:=K6 x hx 4 (by decide)
  obtain⟨m,hm,h⟩:=ih (j+1) x1 (ys++[a]) (by omega) (by omega) a2 ⟨by simp;omega,fun y hy2=>by
   rcases Ix.1 hy2 with hy2|hy2
   ·exact hy.2 y hy2
   ·rw[HQ.1 hy2];omega⟩
  refine⟨m,hm,?_⟩
  have e1:(ys++[a]).map vi=ys.map vi++[vi a]:=by simp
  rw[e1] at h
  refine lv 94 [] (.t<|.c1 [di x1] (di a)<|.ls [ke 2,ke 3,ke 4,ch 7 (.acc 5 (ys.map vi++[vi a])),ke 81,ch 82 (di (j+1:Nat))] ⟨[G zM,G [di x1],G (cM S Pl rs)],[(5,1,ys.map vi++[vi a]),(2,14,rs.map Ai)]⟩) (Y ((j:Int)<(I Pl:Int))=J/\_/\Q (U vi ys)/\Ao (I (U vi ys)+I (aa yt a::nV)) 8/\Q (br 5 (U vi ys++[vi a]))/\di (yu yt ((j:Int)+1))=di (↑(j+1):Int)/\Q [G zM,G [di x1],G (cM S Pl rs)]/\Q [(5,1,U vi ys++vi a::nV),(2,14,U Ai rs)]/\_) ⟨yr,a3,rfl,⟨?_,?_⟩,rfl,Ae,rfl,rfl,iK h⟩
  all_goals (simp only[H9,HF,HJ];omega)
theorem AbF(hfin:∀(rs:List cp) (ys:List Int),1<=I rs/\rs.length<=4->(∀k r,rs[k]?=G r->tb (I S) (I Pl) k r)->I ys=I Pl->(∀x∈ys,0<=x/\x<=3)->Gx ⟨1,S,Pl,[],[],0,0,rs,Dp 0 ys⟩)(n:Nat):∀(k:Nat) (x:Int) (rs:List cp),R.toNat-k=n->k<=R.toNat->(0<=x/\x<2147483647)->I rs=k->(∀k r,rs[k]?=G r->tb (I S) (I Pl) k r)->Al1 S Pl R k x rs:=by
 induction n with
 |zero=>
  intro k x rs hn hk hx hrs hr
  obtain⟨m,hm,h⟩:=AbG hS hP hR (m:=default) x rs (fun ys h1 h2=>hfin rs ys (by omega) hr h1 h2) _ 0 x [] rfl (by omega) hx ⟨rfl,by simp⟩
  refine⟨m,hm,?_⟩
  exact lv 94 [] (.f<|.h (.q 19 0)<|.h (.nw 7 5 1)<|.ls [ke 2,ke 3,ke 4,ke 7,ch 81 (di (I Pl)),ch 82 (di (0:Nat))] ⟨[G zM,G [di x],G (cM S Pl rs)],[(5,1,[]),(2,14,rs.map Ai)]⟩) (Y ((k:Int)<R)=O/\di (I (dm Pl):Int)=di (I Pl:Int)/\Q (di 0)/\Q [G zM,G [di x],G (cM S Pl rs)]/\Q [(5,1,nV),(2,14,U Ai rs)]/\_) ⟨yq,by rw[H9],rfl,rfl,rfl,iK h⟩
 |succ n ih=>
  intro k x rs hn hk hx hrs hr
  obtain⟨f,x1,f1,f2,f3⟩:=K6 x hx (I S) (by omega)
  obtain⟨t,x2,t1,t2,t3⟩:=K6 x1 f2 (I S) (by omega)
  obtain⟨m,hm,h⟩:=Ah5 hS hP hR (k:=k) (rs:=rs) (nm:=114::gr k) (f:=f) (t:=t) (by omega) (fun x nd gv hx h1 h2=>ih (k+1) x _ (by omega) (by omega) hx (by simp[hrs]) fun i r hi=>by
   by_cases hik:i<I rs
   ·rw[HW hik] at hi;exact hr i r hi
   ·rw[HT (by omega)] at hi
    have h1i:i-I rs=0:=by
     have:=(HD.1 hi).1
     simp at this;omega
    rw[h1i] at hi
    simp only[List.getElem?_cons_zero,Ii] at hi;subst hi
    have hik2:i=k:=by omega
    subst hik2
    exact⟨rfl,f1,t1,h1,h2,rfl⟩) (by omega) _ 0 x2 [] [] rfl (by omega) t2 ⟨rfl,by simp⟩ ⟨rfl,by simp⟩
  refine⟨m,hm,?_⟩
  have hit:=AcS k (by omega)
  refine lv 94 [] (.t<|.h (.dr 14)<|.c (ds (gr k))<|.c1 [di x1] (di f)<|.c1 [di x2] (di t)<|.h .rn<|.h (.q 11 0)<|.h (.cl 3 3 3 1)<|.h (.cl 3 4 4 1)<|.ls [ke 2,ke 3,ke 4,ke 6,ke 34,ke 35,ch 54 (di (I Pl)),ch 55 (di (0:Nat))] (pn x2 S Pl rs (114::gr k) f t [] [])) (Y ((k:Int)<R)=J/\F0 28 [di (k:Int)] (bt (ae (gr k)))/\2<=9223372036854775807/\Aa PP 27 [bq 0 0,di (I (U ae S):Int)] (jx x) (di f) (jx x1)/\Aa PP 27 [bq 0 0,di (I (U ae S):Int)] (jx x) (di f) (jx x1)/\Q (di f)/\Aa PP 27 [bq 0 0,di (I (U ae S):Int)] (jx x1) (di t) (jx x2)/\Aa PP 27 [bq 0 0,di (I (U ae S):Int)] (jx x1) (di t) (jx x2)/\Q (di t)/\Q [bi [G zM,G [di x],G (cM S Pl rs),G ei] (l4 rs),bi [G zM,G [di x1],G (cM S Pl rs),G ei] (l4 rs),bi [G zM,G [di x2],G (cM S Pl rs),G ei] (l4 rs)]/\((yh (Q (e6 S)))/\(yh (Q (e6 S)))/\True)/\di (I (dm Pl):Int)=di (I Pl:Int)/\di 0=di (↑0:Int)/\[G zM,G [di x2],G (cM S Pl rs),G [bt (ae (Aop.data.toList++gr k)),di f,di t,br 3 nV,br 4 nV,dn,di 0,di 0,di 0,dn,dn,dn,dn,di 0]]=[G zM,G [di x2],G (cM S Pl rs),G [bt (ae (114::gr k)),di f,di t,br 3 nV,br 4 nV,dn,di 0,di 0,di 0,dn,dn,dn,dn,di 0]]/\Q [(4,1,nV),(3,1,nV),(2,14,U Ai rs)]/\I0 Zl 0 (Af m) bd Aoh (ba 94 [i7,jr,(4,bq 2 0),(6,bq 3 0),(34,di R),(35,di (k:Int)),(54,di (I Pl:Int)),(55,di (↑0:Int))]) (pn x2 S Pl rs (114::gr k) f t [] [])) ?_
  have hSl:(I (S.map ae):Int)=(I S:Int):=by rw[H9]
  rw[hSl]
  repeat' first|with_reducible refine And.intro ?_ ?_
  all_goals first|exact hit|exact f3|exact t3|exact yr|exact⟨h⟩|(rw[H9];done)|rfl|trivial|omega
end
noncomputable abbrev Aps:=[ae (bf #[120]).data.toList,ae (bf #[121]).data.toList,ae (bf #[122]).data.toList]
theorem Ah6(seed:Int)(hs:0<=seed/\seed<=1073741824):∃m:b9,Gx m/\F0 13 [di seed] (Af m):=by
 obtain⟨a,x1,a1,a2,a3⟩:=K6 (seed+1) (by omega) 3 (by decide)
 obtain⟨b,x2,b1,b2,b3⟩:=K6 x1 a2 3 (by decide)
 obtain⟨c,x3,c1,c2,c3⟩:=K6 x2 b2 4 (by decide)
 obtain⟨S,hS⟩:∃S,S=pb.take (1+a).toNat:=⟨_,rfl⟩
 obtain⟨Pl,hP⟩:∃S,S=pa.take (1+b).toNat:=⟨_,rfl⟩
 have hSl:I S=(1+a).toNat:=by rw[hS,Ig];simp only[pb,HF,HJ];omega
 have hPl:I Pl=(1+b).toNat:=by rw[hP,Ig];simp only[pa,HF,HJ];omega
 obtain⟨m,hm,h⟩:=AbF (S:=S) (Pl:=Pl) (R:=1+c) (by omega) (by omega) (by omega) (fun rs ys h1 h2 h3 h4=>⟨rfl,⟨(1+a).toNat,by omega,by omega,hS⟩,⟨(1+b).toNat,by omega,by omega,hP⟩,rfl,rfl,rfl,rfl,h1,h2,ys,h3,h4,rfl⟩) _ 0 x3 [] rfl (by omega) c2 rfl (by simp)
 refine⟨m,hm,?_⟩
 refine sv Zl 94 [] (.f<|.f<|.h .rn<|.h .rn<|.c1 [di x1] (di a)<|.c1 [di x2] (di b)<|.c1 [di x3] (di c)<|.h (.q 7 3)<|.h (.cl 2 7 2 14)<|.ls [ke 2,ke 3,ke 4,ch 34 (di (1+c)),ch 35 (di (0:Nat))] (um x3 S Pl [])) (Y (seed<0)=O/\Y (seed>1073741824)=O/\Aa PP 27 [bq 0 0,di 3] (bi [G [di (yu yt (seed+1))]] []) (di a) (jx x1)/\(∀(x:V),x∈ l5->V.size x=1)/\0<=(fun x=>x.snd) (yt,yu yt (1+a))/\(fun x=>x.snd) (yt,yu yt (1+a))<=(↑(I l5):Int)/\wr x1 b x2/\(∀(x:V),x∈ Aps->V.size x=1)/\0<=(fun x=>x.snd) (yt,yu yt (1+b))/\(fun x=>x.snd) (yt,yu yt (1+b))<=(↑(I Aps):Int)/\Aa PP 27 [bq 0 0,di 4] (jx x2) (di c) (jx x3)/\di (yu yt (1+c))=di (1+c)/\di 0=di (↑0:Int)/\[G nn,G [di x3],G [di 1,bt (ai (W 0 (take (Z ((fun x=>x.snd) (yt,yu yt (1+a)))) (ae (bf #[97]).data.toList::ae (bf #[98]).data.toList::ae (bf #[99]).data.toList::nV)))),bt (ai (W 0 (take (Z ((fun x=>x.snd) (yt,yu yt (1+b)))) (ae (bf #[120]).data.toList::ae (bf #[121]).data.toList::ae (bf #[122]).data.toList::nV)))),dn,dn,di 0,di 0,br 2 nV,di 0,dn]]=[G zM,G [di x3],G (cM S Pl [])]/\Q [(2,14,nV)]/\I0 Zl (I bd.H) (Af m) bd [kl E7 [1,1,1,1,1,1,0,1,0,0],bh 0,kc E7 [1,1,1,1,1,1,1]] (ba 94 [i7,jr,(4,bq 2 0),(34,di (1+c)),(35,di (↑0:Int))]) (um x3 S Pl [])) ?_
 rw[Al (n:=seed+1),Al (n:=1+a),Al (n:=1+b),Al (n:=1+c)]
 have e1:∀(l:List (List UInt8)) (k:Nat),((l.map ae).take k).drop 0=(l.take k).map ae:=fun l k=>by rw[Jk,List.map_take]
 refine⟨yq,yq,a3,fun y hy=>?_,by show(0:Int)<=1+a;omega,by show 1+a<=(3:Int);omega,b3,fun y hy=>?_,by show(0:Int)<=1+b;omega,by show 1+b<=(3:Int);omega,c3,rfl,rfl,?_,rfl,⟨h⟩⟩
 ·simp only[Iq,Ji,or_false] at hy
  rcases hy with rfl|rfl|rfl<;>rfl
 ·simp only[Iq,Ji,or_false] at hy
  rcases hy with rfl|rfl|rfl<;>rfl
 ·subst hS;subst hP
  show [G zM,G [di x3],G [di 1,bt (ai (W 0 (take (1+a).toNat (pb.map ae)))),bt (ai (W 0 (take (1+b).toNat (pa.map ae)))),bt bv,bt bv,di 0,di 0,br 2 [],di 0,bt bv]]=_
  rw[e1,e1];rfl
theorem Gx.sz{m:b9}(h:Gx m):(1<=I m.aw/\m.aw.length<=3)/\(1<=I m.ay/\m.ay.length<=3):=by
 obtain⟨n,n1,n2,hn⟩:=h.aw
 obtain⟨p,p1,p2,hp⟩:=h.ay
 rw[hn,hp,Ig,Ig]
 simp only[pb,pa,HF,HJ]
 omega
theorem Gx.names{m:b9}(h:Gx m):m.av.map cp.name=(List.range (I m.av)).map fun k=>114::gr k:=by
 apply List.ext_getElem?
 intro i
 by_cases hi:i<I m.av
 ·have hx:m.av[i]?=G m.av[i]:=HA hi
  rw[Ir,Ir,hx,List.getElem?_range hi,IA,IA,(h.av i _ hx).name]
 ·rw[Iy (by simp;omega),Iy (by simp;omega)]
theorem Gx.get{m:b9}(h:Gx m){r:cp}(hr:r∈m.av):∃k,tb (I m.aw) (I m.ay) k r:=by
 obtain⟨k,hk⟩:=getElem?_of_mem hr
 exact⟨k,h.av k r hk⟩
theorem Gx.ok{m:b9}(h:Gx m):m.ok:=by
 obtain⟨hst,hpl⟩:=h.sz
 have hb:∀{x a b:Int},a<=x->x<=b->Ay x a b=J:=fun h1 h2=>by simp[Ay,h1,h2]
 have hc:=h.count
 refine⟨.inl h.kind,?_,?_,?_,?_,?_,?_,?_⟩
 ·simp only[CE,QF,HV h.kind,HB,HK,h.ax,h.ao,h.age]
  exact⟨hb (by omega) (by omega),by omega,hb (by omega) (by omega),by decide,by decide,by decide⟩
 ·rw[BV,HV (by rw[h.kind];rfl),h.au];rfl
 ·have hn:=h.names
  rw[Ew,EP,hn,BW,h.ax]
  obtain⟨n,n1,n2,hn⟩:=h.aw
  obtain⟨p,p1,p2,hp⟩:=h.ay
  rw[hn,hp]
  have e1:n=1∨n=2∨n=3:=by omega
  have e2:p=1∨p=2∨p=3:=by omega
  have e3:I m.av=1∨m.av.length=2∨m.av.length=3∨m.av.length=4:=by omega
  rcases e1 with rfl|rfl|rfl<;>rcases e2 with rfl|rfl|rfl<;>rcases e3 with e|e|e|e<;>rw[e]<;>decide
 ·intro r hr
  obtain⟨k,hm⟩:=h.get hr
  have h1:=hm.am.1
  have h2:=hm.ak.1
  rw[hm.rest]
  exact⟨by show I r.am<=_;omega,by show I r.ak<=_;omega,Ik _,Ik _,Ik _,Ik _,Ik _⟩
 ·intro r hr
  obtain⟨k,hm⟩:=h.get hr
  obtain⟨f1,f2⟩:=hm.aj
  obtain⟨t1,t2⟩:=hm.to
  obtain⟨n1,n2⟩:=hm.am
  obtain⟨g1,g2⟩:=hm.ak
  have hr:=hm.rest
  generalize r.name=nm at hr
  generalize r.aj=f at*
  generalize r.to=t at*
  generalize r.am=nd at*
  generalize r.ak=gv at*
  subst hr
  rw[Er,HV h.kind]
  simp only[DW,BR,BU,Oy,cg,HB,Iw,Il,HK,Io,true_and,HJ]
  exact⟨hb (by omega) (by omega),hb (by omega) (by omega),⟨by omega,by omega,fun x hx=>hb (n2 x hx).1 (by have:=(n2 x hx).2;omega),fun x hx=>hb (g2 x hx).1 (by have:=(g2 x hx).2;omega)⟩,by simp[De]⟩
 ·obtain⟨ys,y1,y2,y3⟩:=h.start
  rw[y3]
  exact Gw m h.kind (by omega) 0 ⟨by omega,by omega⟩ ys y1 fun x hx=>by have:=y2 x hx;omega
 ·obtain⟨ys,y1,y2,y3⟩:=h.start
  rw[y3,F1];omega
theorem Gx.ctm{m:b9}(h:Gx m):fi m:=⟨h.ok,h.kind,OL h.kind h.ok.start⟩
theorem fi.steps{m:b9}(h:fi m):Ha m (BT m) (CX m):=by
 have hp:=h.ay
 exact⟨h.ok.int.walks,h.start,fun v hv=>by have:=hv.sizeM h;omega,fun v hv=>MI m h v hv,fun v hv=>by have:=(J0 h hv).2.1;omega,fun v hv s hs=>((J0 h hv).2.2 s hs).ok⟩
theorem Aeu(r:cp):∀(ys ns:List Int) (k:Nat) (ws:List Int) (B:Int),0<=B->(∀w∈ws,w<=B)->(∀y∈ys,y<=3)->(∀n∈ns,0<=n)->∀w∈ft r k ys ns ws,w<=B+3*I ys
 |[],ns,k,ws,B,_,h,_,_,w,hw=>by rw[O4] at hw;have:=h w hw;simp;omega
 |y::ys,[],k,ws,B,hB,h,_,_,w,hw=>by
  have:ft r k (y::ys) [] ws=ws:=by simp[ft]
  rw[this] at hw
  have:=h w hw
  simp only[HF];omega
 |y::ys,n::ns,k,ws,B,hB,h,h1,h2,w,hw=>by
  rw[ft] at hw
  have hy:=h1 y (by simp)
  have hn:=h2 n (by simp)
  have:=Aeu r ys ns (k+1) (ju r k (y-n) ws) (B+3) (by omega) (fun z hz=>by
   unfold ju at hz
   split at hz
   ·rcases IE hz with hz|hz
    ·have:=h z hz;omega
    ·rw[hz,HI]
     cases hi:ws[(gy r k).toNat]? with
     |none=>simp;omega
     |some v=>have:=h v (HG hi);simp only[IZ];omega
   ·have:=h z hz;omega) (fun z hz=>h1 z (by simp[hz])) (fun z hz=>h2 z (by simp[hz])) w hw
  simp only[HF];omega
theorem PC:∀(ws gs:List Int) (xs:List bc),(∀w∈ws,w<=100)->(∀g∈gs,g<=100)->(FG xs ws gs).2=0
 |[],gs,xs,_,_=>by simp[FG]
 |w::ws,[],xs,_,_=>by simp[FG]
 |w::ws,g::gs,xs,h1,h2=>by
  have a:=h1 w (by simp)
  have b:=h2 g (by simp)
  rw[FG,HR (by simp;omega)]
  exact PC ws gs _ (fun z hz=>h1 z (by simp[hz])) (fun z hz=>h2 z (by simp[hz]))
theorem QA{ap:Int->List bc×Int}(h:∀i,(ap i).2=0/\(ap i).1.length<=1):∀(n:Nat) (i:Int) (acc:List c8),I acc+n<=256->(Cz ap n i acc).2=0
 |0,i,acc,hl=>by rw[Cz,HR (by simp;omega)]
 |n+1,i,acc,hl=>by
  rw[Cz,HR (by rw[(h i).1];decide)]
  exact QA h n _ _ (by rw[HO,H9];have:=(h i).2;omega)
theorem Gx.fine{m:b9}(h:Gx m):(CX m m.start).2=0:=by
 have hc:=h.count
 obtain⟨hst,hpl⟩:=h.sz
 obtain⟨ys,y1,y2,y3⟩:=h.start
 have hnm:ej m.start=ys:=by rw[y3,O3]
 refine QA (fun i=>?_) _ _ _ (by simp;omega)
 have ho:=NI h.ctm h.ctm.start i
 refine⟨?_,ho.2.1⟩
 unfold ir
 split
 ·rfl
 ·split
  ·rename_i r hr
   obtain⟨k,hm⟩:=h.get (HG hr)
   have:(f8 r (fw m.start) (ej m.start)).2=0∨(f8 r (fw m.start) (ej m.start)).2=18:=by
    unfold f8
    split
    ·refine .inl (PC _ _ _ (fun w hw=>?_) fun g hg=>by have:=hm.ak.2 g hg;omega)
     have:=Aeu r (ej m.start) r.am 0 (replicate (I (ej m.start)) 0) 0 (by omega) (fun w hw=>by rw[(List.mem_replicate.1 hw).2];omega) (fun y hy=>by rw[hnm] at hy;exact(y2 y hy).2) (fun n hn=>(hm.am.2 n hn).1) w hw
     rw[hnm] at this
     omega
    ·exact .inr rfl
   unfold BG
   rcases this with e|e
   ·rw[HR (by rw[e];decide),HR (by rw[e];decide)]
   ·rw[HV (by rw[e];decide)]
  ·rfl
theorem Gx.look{m:b9}(h:Gx m):AU (CX m) 9 0 m.start=([m.start],(AU (CX m) 9 0 m.start).2.1,0):=by
 have hf:=h.fine
 have hlk:AW (CX m) [m.start] []=([(CX m m.start).1],0):=by rw[AW,HR (by rw[hf];decide)];rfl
 have he:(BE (CX m) 9 0 [m.start] [] 0).err=0/\(BE (CX m) 9 0 [m.start] [] 0).found=[m.start]:=by
  rw[BE]
  simp only[HJ,Jk,hlk]
  rw[HR (by decide)]
  split<;>exact⟨rfl,rfl⟩
 unfold AU
 rw[HR (by rw[he.1];decide),he.2,show sortV [m.start]=[m.start] from List.perm_singleton.1 (A7 _)]
noncomputable abbrev Ai1:=Tryz.f4
theorem J2:F0 4 [] (db J):=by
 obtain⟨m,hm,h⟩:=Ah6 5 (by decide)
 have hx:=JY hm.ctm.steps 9 (by decide) 0 (by decide)
 rw[hm.look] at hx
 generalize (AU (CX m) 9 0 m.start).2.1=w at hx
 have hsz:=hm.ctm.start.sizeM hm.ctm
 have hpl:=hm.sz
 have hsm:=GD m.start m.start (by omega)
 rw[show(Aq m.start m.start==0)=J by rw[EB.2 rfl];rfl] at hsm
 have hchk:=E5 m hm.ok
 have hc:=hm.count
 exact sv Ai1 38 [] (.c (Af m)<|.c (.tup [cx [m.start],db w,di 0])<|.k<|.k<|.x (Ac m.start)<|.c (db J)<|.k<|.c (di 0)<|.k .r) (_/\_/\iz 0<=0/\G (eV m.start)=G (Ac m.start)/\_/\_/\(yj (True))/\db (Y ((I (U Ai m.av):Int)>0))=db J) ⟨h,hx,Ib _,HX G (AE _),hsm,hchk,⟨trivial,trivial,trivial,trivial⟩,by rw[H9,yr]⟩
end Go.Proofs.YtfhgjfkleggjfaaGreatDoor
