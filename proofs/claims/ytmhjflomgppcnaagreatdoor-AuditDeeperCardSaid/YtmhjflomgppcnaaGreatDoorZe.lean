/-
  A part of the proof.
-/
import Derived.Test.YtmhjflomgppcnaaGreatDoorZd
import Derived.Test.YtmhjflomgppcnaaGreatDoorZc
import Derived.Laws.StructEq
import Derived.ChangeKeysEq
namespace Go.Proofs.YtmhjflomgppcnaaGreatDoor
open Go.Dv Go.Nv
set_option maxRecDepth 20000
open List (ext_getElem? length map map_take replicate take zipWith)
open Go.IntKind (wrap i64 u64)
def EZ(L:Int)(v:Val):Prop:=∃ks:List Int,ks.length<=2/\(∀x∈ks,0<=x/\x<L)/\v=.mk 0 (ks.map fun x=>.mk x [])
theorem EZ.size{L:Int}{v:Val}(h:EZ L v):v.size<=3:=by
 obtain⟨ks,h1,_,rfl⟩:=h
 simp only[Val.size,Hu];omega
theorem Xv{H:List (Option (List D))}{own:List (Nat×Nat×List V)}{q tag:Nat}{xs:List V}(hq:H[q]?=some (some [di 0,.acc tag xs]))(e:List D):Cv e ⟨H,own⟩ e ⟨H.set q (some [di 0,dl xs]),own⟩:=
 El (σ:=⟨H,own⟩) (q:=q) hq (fun g us hr=>by
  have:=Ds (ts:=[]) (kn:=false) hr
  exact this) (fun _ x hx=>by
  simp only[Ij,IU,or_false] at hx
  rcases hx with rfl|rfl<;>rfl) e
theorem Abp{H:List (Option (List D))}{own:List (Nat×Nat×List V)}{q:Nat}(hq:H[q]?=some (some [di 0,.v .nils]))(e:List D):Cv e ⟨H,own⟩ e ⟨H.set q (some [di 0,dl []]),own⟩:=
 El (σ:=⟨H,own⟩) (q:=q) hq (fun g us hr=>by
  have:=Ds (ts:=[]) (kn:=false) hr
  exact this) (fun _ x hx=>by
  simp only[Ij,IU,or_false] at hx
  rcases hx with rfl|rfl<;>rfl) e
theorem JC(os:List Val)(v:Val):os.map eV++[Af v]=(os++[v]).map eV:=by rw[←Bz];simp
noncomputable abbrev AdM:Func:= Tryz.f50
noncomputable def Yz:Code:=AdM.body.getD .skip
abbrev stW(l:List UInt8)(a:Nat)(os:List Val):St:=⟨[some (cDz l a)],[(1,2,os.map eV)]⟩
noncomputable abbrev Ams:=(V.int i64 0)
noncomputable abbrev Aoe:=fun (a₀:Nat) b₀ c₀ d₀ (e₀:Nat)=>(mkE 40 [Ald,(1,di (a₀:Int)),(2,di b₀),(3,di 2),(9,Azc 1 (map eV (c₀++[d₀]))),(10,di (↑(e₀+1):Int))])
noncomputable abbrev Aoo:=fun a₀ b₀ c₀ d₀ e₀=>Aa PP 8 [Azb 0 0,di a₀] (dz b₀ c₀) (di d₀) (dz b₀ e₀)
noncomputable abbrev Aq4:=[kl Yz Akw,Aza 0,kc Yz [1,1,1]]
theorem YA(l:List UInt8)(hl:l.length<=200)(n:Nat)(hn:n<=100)(L:Int)(hL:1<=L)(hL2:L<=100)(N:Nat):∀(k a:Nat) (os:List Val),n-k=N->k<=n->a<=l.length->os.length=k->(∀y∈os,EZ L y)->
  ∃(ys:List Val) (a':Nat),a'<=l.length/\ys.length=n/\(∀y∈ys,EZ L y)/\
  Rn PP AdM 1 (dVs ys) (dz l a') ([.lp (sub Yz [1,1,0,1,0,0]),.blk 0,.code (sub Yz [1,1,1])]++[]) (mkE 40 [(0,.ptr 0 0),(1,di n),(2,di L),(3,di 2),(9,.acc 1 (os.map eV)),(10,di k)]) (stW l a os):=by
 induction N with
 |zero=>
  intro k a os hk hk0 ha hx hos
  refine⟨os,a,ha,by omega,hos,?_⟩
  refine lv 40 [] (.f .r) (decide ((k:Int)<(n:Int))=false/\Q (Am4 l a)/\D.v (Azf (map eV os))=dVs os) ?_
  exact⟨H8 (by omega),rfl,rfl⟩
 |succ N ih=>
  intro k a os hk hk0 ha hx hos
  obtain⟨r,a1,h1,h2,h3,h4⟩:=Ax l hl a ha 3 (by decide) (by decide)
  have hmem:∀(w:Val),EZ L w->∀y∈os++[w],EZ L y:=fun w hw y hy=>by
   rcases Iq.1 hy with hy|hy
   ·exact hos y hy
   ·rw[HK.1 hy];exact hw
  have hkn:decide ((k:Int)<n)=true:=H6 (by omega)
  rcases(show r=0∨r=1∨r=2 by omega) with rfl|rfl|rfl
  ·obtain⟨w,hw⟩:∃w:Val,w=.mk 0 []:=⟨_,rfl⟩
   obtain⟨ys,a',y1,y2,y3,y4⟩:=ih (k+1) a1 (os++[w]) (by omega) (by omega) h3 (by simp[hx]) (hmem _ ⟨[],by simp,by simp,hw⟩)
   refine⟨ys,a',y1,y2,y3,?_⟩
   refine lv 40 [] (.t<|.c1 (cDz l a1) (di 0)<|.n<|.h (.q 10 1)<|.h (.cs ⟨[some (cDz l a1),some [di 0,dl []]],[(1,2,os.map eV)]⟩)<|.ls [ke 0,ke 1,ke 2,ke 3,ch 9 (.acc 1 ((os++[w]).map eV)),ch 10 (di (k+1:Nat))] (stW l a1 (os++[w]))) (decide ((k:Int)<(n:Int))=true/\Aa PP 8 [Azb 0 0,di (wrap i64 (2+1))] (dz l a) (di 0) (dz l a1)/\(∀(e:List D) (E:Ent) (g:Gh) (a:Act) (w:World),FI E g (Azd [some (cDz l a1),some [D.v Ams,dn]] [(1,2,map eV os)]) e a w->∃g',FI E g' (Azd [some (cDz l a1),some [di 0,dl []]] [(1,2,map eV os)]) e a w)/\Q (map eV os)/\Ar (length (map eV os)+length (Azh (V.int i64 0::Azf nV::nV)::nV)) 32/\Azc 1 (map eV os++[Azh [vi 0,Azf []]])=Azc 1 (map eV (os++[w]))/\di (wrap i64 ((k:Int)+1))=di (↑(k+1):Int)/\Q (Am4 l a1)/\[(1,2,map eV os++Azh (vi 0::Azf nV::nV)::nV)]=[(1,2,map eV (os++[w]))]/\I0 AdM 1 (dVs ys) (dz l a') Aq4 (Aoe n L os w k) (stW l a1 (os++[w]))) ?_
   have hv:V.agg [vi 0,.list []]=Af w:=by rw[hw];rfl
   rw[show i64.wrap (2+1)=3 from by decide]
   repeat' first|with_reducible refine And.intro ?_ ?_
   all_goals first|exact hkn|exact h4|exact Ad (by omega)|exact⟨y4⟩|(simp only[H3,H9,HD];omega)|rfl|trivial|skip
   ·exact fun e=>Abp (H:=[some (cDz l a1),some [di 0,.v .nils]]) (own:=[(1,2,os.map eV)]) (q:=1) rfl e
   ·exact HR (D.acc 1) ((HR (fun z=>os.map eV++[z]) hv).trans (JC os w))
   ·exact HR (fun z=>[(1,2,z)]) ((HR (fun z=>os.map eV++[z]) hv).trans (JC os w))
  ·obtain⟨x1,a2,x11,x12,x13,x14⟩:=Ax l hl a1 h3 L hL (by omega)
   obtain⟨w,hw⟩:∃w:Val,w=.mk 0 [.mk x1 []]:=⟨_,rfl⟩
   obtain⟨ys,a',y1,y2,y3,y4⟩:=ih (k+1) a2 (os++[w]) (by omega) (by omega) x13 (by simp[hx]) (hmem _ ⟨[x1],by simp,by simp[x11,x12],hw⟩)
   refine⟨ys,a',y1,y2,y3,?_⟩
   refine lv 40 [] (.t<|.c1 (cDz l a1) (di 1)<|.h (.q 6 4)<|.h (.cl 1 1 2 2)<|.n<|.m (.acc 2 [])<|.c1 (cDz l a2) (di x1)<|.n<|.h (.q 10 1)<|.h (.cs ⟨[some (cDz l a2),some [di 0,dl [eV (.mk x1 [])]]],[(2,2,[eV (.mk x1 [])]),(1,2,os.map eV)]⟩)<|.ls [ke 0,ke 1,ke 2,ke 3,ch 9 (.acc 1 ((os++[w]).map eV)),ch 10 (di (k+1:Nat))] (stW l a2 (os++[w]))) (decide ((k:Int)<(n:Int))=true/\Aa PP 8 [Azb 0 0,di (wrap i64 (2+1))] (dz l a) (di 1) (dz l a1)/\Q (some (Azc 2 []))/\Aoo L l a1 x1 a2/\Q nV/\Ar 1 32/\((Q (some [Azc 2 []])/\True)/\True)/\(∀(e:List D) (E:Ent) (g:Gh) (a:Act) (w:World),FI E g (Azd [some (cDz l a2),some [D.v Ams,Azc 2 ([]++[Azh [V.int i64 x1,Azf []]])]] [(2,2,[]++[Azh [V.int i64 x1,Azf []]]),(1,2,map eV os)]) e a w->∃g',FI E g' (Azd [some (cDz l a2),some [di 0,dl [eV (Alz x1)]]] [(2,2,[eV (Alz x1)]),(1,2,map eV os)]) e a w)/\Q (map eV os)/\Ar (length (map eV os)+length (Azh (V.int i64 0::Azf (eV (Alz x1)::nV)::nV)::nV)) 32/\Azc 1 (map eV os++[Azh [vi 0,Azf [eV (Alz x1)]]])=Azc 1 (map eV (os++[w]))/\di (wrap i64 ((k:Int)+1))=di (↑(k+1):Int)/\Q (Am4 l a2)/\[(1,2,map eV os++Azh (vi 0::Azf (eV (Alz x1)::nV)::nV)::nV)]=[(1,2,map eV (os++[w]))]/\I0 AdM 1 (dVs ys) (dz l a') Aq4 (Aoe n L os w k) (stW l a2 (os++[w]))) ?_
   have hv:V.agg [vi 0,.list [eV (.mk x1 [])]]=Af w:=by rw[hw];rfl
   rw[show i64.wrap (2+1)=3 from by decide]
   repeat' first|with_reducible refine And.intro ?_ ?_
   all_goals first|exact hkn|exact h4|exact x14|exact Mb (by decide) (by decide)|exact⟨by decide,by decide⟩|exact Ad (by omega)|exact⟨y4⟩|(simp only[H3,H9,HD];omega)|rfl|trivial|skip
   ·exact fun e=>Xv (H:=[some (cDz l a2),some [di 0,.acc 2 [eV (.mk x1 [])]]]) (own:=[(2,2,[eV (.mk x1 [])]),(1,2,os.map eV)]) (q:=1) rfl e
   ·exact HR (D.acc 1) ((HR (fun z=>os.map eV++[z]) hv).trans (JC os w))
   ·exact HR (fun z=>[(1,2,z)]) ((HR (fun z=>os.map eV++[z]) hv).trans (JC os w))
  ·obtain⟨x1,a2,x11,x12,x13,x14⟩:=Ax l hl a1 h3 L hL (by omega)
   obtain⟨x2,a3,x21,x22,x23,x24⟩:=Ax l hl a2 x13 L hL (by omega)
   obtain⟨w,hw⟩:∃w:Val,w=.mk 0 [.mk x1 [],.mk x2 []]:=⟨_,rfl⟩
   obtain⟨ys,a',y1,y2,y3,y4⟩:=ih (k+1) a3 (os++[w]) (by omega) (by omega) x23 (by simp[hx]) (hmem _ ⟨[x1,x2],by simp,by simp[x11,x12,x21,x22],hw⟩)
   refine⟨ys,a',y1,y2,y3,?_⟩
   refine lv 40 [] (.t<|.c1 (cDz l a1) (di 2)<|.h (.q 6 4)<|.h (.cl 1 1 2 2)<|.n<|.m (.acc 2 [])<|.c1 (cDz l a2) (di x1)<|.n<|.m (.acc 2 [eV (.mk x1 [])])<|.c1 (cDz l a3) (di x2)<|.n<|.h (.q 10 1)<|.h (.cs ⟨[some (cDz l a3),some [di 0,dl [eV (.mk x1 []),eV (.mk x2 [])]]],[(2,2,[eV (.mk x1 []),eV (.mk x2 [])]),(1,2,os.map eV)]⟩)<|.ls [ke 0,ke 1,ke 2,ke 3,ch 9 (.acc 1 ((os++[w]).map eV)),ch 10 (di (k+1:Nat))] (stW l a3 (os++[w]))) (decide ((k:Int)<(n:Int))=true/\Aa PP 8 [Azb 0 0,di (wrap i64 (2+1))] (dz l a) (di 2) (dz l a1)/\Q (some (Azc 2 []))/\Aoo L l a1 x1 a2/\Q nV/\Ar 1 32/\((Q (some [Azc 2 []])/\True)/\True)/\some (Azc 2 [Azh [vi x1,Azf []]])=some (Azc 2 [eV (Alz x1)])/\Aoo L l a2 x2 a3/\Azh (Amb x1)::nV=eV (Alz x1)::nV/\Ar 2 32/\((Q (some [Azc 2 [Azh [vi x1,Azf []]]])/\True)/\True)/\(∀(e:List D) (E:Ent) (g:Gh) (a:Act) (w:World),FI E g (Azd [some (cDz l a3),some [D.v Ams,Azc 2 ([eV (Alz x1)]++[Azh [V.int i64 x2,Azf []]])]] [(2,2,[eV (Alz x1)]++[Azh [V.int i64 x2,Azf []]]),(1,2,map eV os)]) e a w->∃g',FI E g' (Azd [some (cDz l a3),some [di 0,dl [eV (Alz x1),eV (Alz x2)]]] [(2,2,[eV (Alz x1),eV (Alz x2)]),(1,2,map eV os)]) e a w)/\Q (map eV os)/\Ar (length (map eV os)+length (Azh (V.int i64 0::Azf (eV (Alz x1)::eV (Alz x2)::nV)::nV)::nV)) 32/\Azc 1 (map eV os++[Azh [vi 0,Azf [eV (Alz x1),eV (Alz x2)]]])=Azc 1 (map eV (os++[w]))/\di (wrap i64 ((k:Int)+1))=di (↑(k+1):Int)/\Q (Am4 l a3)/\[(1,2,map eV os++Azh (vi 0::Azf (eV (Alz x1)::eV (Alz x2)::nV)::nV)::nV)]=[(1,2,map eV (os++[w]))]/\I0 AdM 1 (dVs ys) (dz l a') Aq4 (Aoe n L os w k) (stW l a3 (os++[w]))) ?_
   have hv:V.agg [vi 0,.list [eV (.mk x1 []),eV (.mk x2 [])]]=Af w:=by rw[hw];rfl
   rw[show i64.wrap (2+1)=3 from by decide]
   repeat' first|with_reducible refine And.intro ?_ ?_
   all_goals first|exact hkn|exact h4|exact x14|exact x24|exact Mb (by decide) (by decide)|exact⟨by decide,by decide⟩|exact Ad (by omega)|exact⟨y4⟩|(simp only[H3,H9,HD];omega)|rfl|trivial|skip
   ·exact fun e=>Xv (H:=[some (cDz l a3),some [di 0,.acc 2 [eV (.mk x1 []),eV (.mk x2 [])]]]) (own:=[(2,2,[eV (.mk x1 []),eV (.mk x2 [])]),(1,2,os.map eV)]) (q:=1) rfl e
   ·exact HR (D.acc 1) ((HR (fun z=>os.map eV++[z]) hv).trans (JC os w))
   ·exact HR (fun z=>[(1,2,z)]) ((HR (fun z=>os.map eV++[z]) hv).trans (JC os w))
theorem Ach(l:List UInt8)(hl:l.length<=200)(a:Nat)(ha:a<=l.length)(n:Nat)(hn:n<=100)(L:Int)(hL:1<=L)(hL2:L<=100):
  ∃(ys:List Val) (a':Nat),a'<=l.length/\ys.length=n/\(∀y∈ys,EZ L y)/\Aa PP 50 [.ptr 0 0,di n,di L,di 2] (dz l a) (dVs ys) (dz l a'):=by
 obtain⟨ys,a',h1,h2,h3,h4⟩:=YA l hl n hn L hL hL2 _ 0 a [] rfl (by omega) ha rfl (by simp)
 refine⟨ys,a',h1,h2,h3,?_⟩
 refine sv AdM 40 [] (.h (.q 2 0)<|.h (.nw 9 1 2)<|.ls [ke 0,ke 1,ke 2,ke 3,ke 9,ch 10 (di (0:Nat))] (stW l a [])) (di 0=di (↑0:Int)/\Q (Am4 l a)/\Q [(1,2,nV)]/\I0 AdM (length (dz l a).H) (dVs ys) (dz l a') Aq4 (mkE 40 [Ald,(1,di (n:Int)),(2,di L),(3,di 2),(9,Azc 1 []),(10,di (↑0:Int))]) (stW l a [])) ?_
 exact⟨rfl,rfl,rfl,⟨h4⟩⟩
abbrev dl4:List (List UInt8):=[[114],[115],[116],[117]]
def mkL(nm:List UInt8)(f t ch ac le:Int):Rul:=⟨nm,f,t,[],[],[],ch,ac,le,[],[],[],[],0⟩
abbrev lM(K:Int)(S Pl Le:List (List UInt8))(rk:List Int)(rs:List Rul):List D:=[di K,.v (vSs S),.v (vSs Pl),.v (vSs Le),.v (vIs rk),di 0,di 0,.acc 2 (rs.map Ak),di 0,dl []]
abbrev stL(l:List UInt8)(a:Nat)(K:Int)(S Pl Le:List (List UInt8))(rk:List Int)(rs:List Rul):St:=⟨[some (cDz l a),some zM,some (lM K S Pl Le rk rs)],[(2,14,rs.map Ak)]⟩
structure M2(ns np nl:Nat)(k:Nat)(r:Rul):Prop where
 name:dl4[k]?=some r.name
 frm:0<=r.frm/\r.frm<ns
 to:0<=r.to/\r.to<ns
 act:r.act=0/\r.chan=0/\r.letter=0∨(1<=r.act/\r.act<=2)/\(0<=r.chan/\r.chan<np)/\(0<=r.letter/\r.letter<nl)
 rest:r=mkL r.name r.frm r.to r.chan r.act r.letter
structure FO(K:Int)(m:Mod):Prop where
 kind:m.kind=K
 states:∃n:Nat,1<=n/\n<=3/\m.states=([[97],[98],[99]]:List (List UInt8)).take n
 places:m.places=[[120]]∨m.places=[[120],[121]]
 letters:m.letters=[[112]]∨m.letters=[[112],[113]]
 ranks:if K=3 then m.ranks.length=m.letters.length/\∀x∈m.ranks,0<=x/\x<=1 else m.ranks=[]
 levels:m.levels=0
 age:m.age=0
 count:m.rules.length<=4
 rules:∀k r,m.rules[k]?=some r->M2 m.states.length m.places.length m.letters.length k r
 start:∃ys:List Val,ys.length=m.places.length/\(∀y∈ys,EZ m.letters.length y)/\m.start=.mk 0 (.mk 0 []::ys)
theorem Acz{ns np nl:Nat}{rs:List Rul}{k:Nat}{nm:List UInt8}{f t chn ac le:Int}(hnm:dl4[k]?=some nm)(hf:0<=f/\f<ns)(ht:0<=t/\t<ns)(ha:ac=0/\chn=0/\le=0∨(1<=ac/\ac<=2)/\(0<=chn/\chn<np)/\(0<=le/\le<nl))(hrs:rs.length=k)(hR:∀i r,rs[i]?=some r->M2 ns np nl i r):∀i r,(rs++[mkL nm f t chn ac le])[i]?=some r->M2 ns np nl i r:=fun i r hi=>by
 by_cases hik:i<rs.length
 ·rw[HQ hik] at hi;exact hR i r hi
 ·rw[HN (by omega)] at hi
  have h1:i-rs.length=0:=by
   have:=(H7.1 hi).1
   simp at this;omega
  rw[h1] at hi
  simp at hi;subst hi
  have hik2:i=k:=by omega
  subst hik2
  exact⟨hnm,hf,ht,ha,rfl⟩
noncomputable abbrev AcC:Func:= Tryz.f20
noncomputable def Y2:Code:=AcC.body.getD .skip
noncomputable abbrev Al8:=fun a₀ b₀ c₀=>(Azg a₀::vi b₀::vi c₀::Azf nV::Azf nV::Azf nV::vi 0::vi 0::vi 0::Azf nV::Azf nV::Azf nV::Azf nV::vi 0::nV)
noncomputable abbrev Aoa:=fun a₀ b₀ c₀=>(Azh (Azg a₀::V.int i64 b₀::V.int i64 c₀::Azf nV::Azf nV::Azf nV::V.int i64 0::V.int i64 0::V.int i64 0::Azf nV::Azf nV::Azf nV::Azf nV::V.int i64 0::nV)::nV)
noncomputable abbrev Aog:=fun a₀ b₀ c₀ d₀=>Aa PP 8 [Azb 0 0,di 4] (dz a₀ b₀) (di c₀) (dz a₀ d₀)
noncomputable abbrev Aqv:=[kl Y2 Ak2,Aza 0,kc Y2 [1,1,1,1]]
theorem RY(l:List UInt8)(hl:l.length<=200)(K:Int)(S Pl Le:List (List UInt8))(rk:List Int)(hS:∃n:Nat,1<=n/\n<=3/\S=([[97],[98],[99]]:List (List UInt8)).take n)(hP:Pl=[[120]]∨Pl=[[120],[121]])(hLe:Le=[[112]]∨Le=[[112],[113]])(hrk:if K=3 then rk.length=Le.length/\∀x∈rk,0<=x/\x<=1 else rk=[])(n:Nat):∀(k a:Nat) (rs:List Rul),4-k=n->a<=l.length->k<=4->rs.length=k->(∀i r,rs[i]?=some r->M2 S.length Pl.length Le.length i r)->
  ∃(m:Mod) (a':Nat),FO K m/\a'<=l.length/\Rn PP AcC 1 (Ag m) (dz l a') ([.lp (sub Y2 [1,1,1,0,1,0,0]),.blk 0,.code (sub Y2 [1,1,1,1])]++[]) (mkE 92 [(0,.ptr 0 0),(4,.ptr 1 0),(5,.ptr 2 0),(6,di k)]) (stL l a K S Pl Le rk rs):=by
 induction n using Nat.strongRecOn with
 |_ n ih=>
 intro k a rs hn ha hk4 hrs hR
 have hSl:1<=S.length/\S.length<=3:=by obtain⟨n,h1,h2,rfl⟩:=hS;rw[HY];simp only[H9,HD];omega
 have hPl:1<=Pl.length/\Pl.length<=2:=by rcases hP with rfl|rfl<;>decide
 have hLl:1<=Le.length/\Le.length<=2:=by rcases hLe with rfl|rfl<;>decide
 have hSm:((S.map V.str).length:Int)=(S.length:Int):=by rw[H3]
 have hPm:((Pl.map V.str).length:Int)=(Pl.length:Int):=by rw[H3]
 have hLm:((Le.map V.str).length:Int)=(Le.length:Int):=by rw[H3]
 obtain⟨r,a1,h1,h2,h3,h4⟩:=Ax l hl a ha 4 (by decide) (by decide)
 by_cases hk:(k:Int)<1+r
 ·obtain⟨f,a2,f1,f2,f3,f4⟩:=Ax l hl a1 h3 S.length (by omega) (by omega)
  obtain⟨t,a3,t1,t2,t3,t4⟩:=Ax l hl a2 f3 S.length (by omega) (by omega)
  obtain⟨ac,a4,c1,c2,c3,c4⟩:=Ax l hl a3 t3 3 (by decide) (by decide)
  obtain⟨nm,hnm⟩:∃nm,dl4[k]?=some nm:=⟨_,H4 (show k<dl4.length by show k<4;omega)⟩
  have hkr:decide ((k:Int)<wrap i64 (1+r))=true:=by rw[Al (by omega) (by omega)];exact H6 hk
  by_cases hw:(ac !=0)=true
  ·obtain⟨chn,a5,d1,d2,d3,d4⟩:=Ax l hl a4 c3 Pl.length (by omega) (by omega)
   obtain⟨le,a6,e1,e2,e3,e4⟩:=Ax l hl a5 d3 Le.length (by omega) (by omega)
   have hac:ac≠0:=by simpa using hw
   obtain⟨m,a',m1,m2,m3⟩:=ih (4- (k+1)) (by omega) (k+1) a6 (rs++[mkL nm f t chn ac le]) rfl e3 (by omega) (by simp[hrs]) (Acz hnm ⟨f1,f2⟩ ⟨t1,t2⟩ (.inr ⟨by omega,⟨d1,d2⟩,⟨e1,e2⟩⟩) hrs hR)
   refine⟨m,a',m1,m2,?_⟩
   refine lv 92 [] (.c1 (cDz l a1) (di r)<|.t<|.h (.dr 17)<|.x (.str nm)<|.c1 (cDz l a2) (di f)<|.c1 (cDz l a3) (di t)<|.c1 (cDz l a4) (di ac)<|.t<|.c1 (cDz l a5) (di chn)<|.c1 (cDz l a6) (di le)<|.ls [ke 0,ke 4,ke 5,ch 6 (di (k+1:Nat))] (stL l a6 K S Pl Le rk (rs++[mkL nm f t chn ac le]))) (Aa PP 8 [Azb 0 0,di 4] (dz l a) (di r) (dz l a1)/\decide ((k:Int)<wrap i64 (1+r))=true/\0<=(k:Int)/\[Azg (Aze #[114]).data.toList,Azg (Aze #[115]).data.toList,Azg (Aze #[116]).data.toList,Azg (Aze #[117]).data.toList][Int.toNat (k:Int)]?=some (Azg nm)/\Aa PP 8 [Azb 0 0,di (length (map Azg S):Int)] (dz l a1) (di f) (dz l a2)/\Aa PP 8 [Azb 0 0,di (length (map Azg S):Int)] (dz l a1) (di f) (dz l a2)/\Q (di f)/\Aa PP 8 [Azb 0 0,di (length (map Azg S):Int)] (dz l a2) (di t) (dz l a3)/\Aa PP 8 [Azb 0 0,di (length (map Azg S):Int)] (dz l a2) (di t) (dz l a3)/\Q (di t)/\Aa PP 8 [Azb 0 0,di 3] (dz l a3) (di ac) (dz l a4)/\Aa PP 8 [Azb 0 0,di 3] (dz l a3) (di ac) (dz l a4)/\Q (di ac)/\Q [Azd [some (cDz l a1),some zM,some (lM K S Pl Le rk rs),some zRl] [(2,14,map Ak rs)],Azd [some (cDz l a2),some zM,some (lM K S Pl Le rk rs),some zRl] [(2,14,map Ak rs)],Azd [some (cDz l a3),some zM,some (lM K S Pl Le rk rs),some zRl] [(2,14,map Ak rs)],Azd [some (cDz l a4),some zM,some (lM K S Pl Le rk rs),some zRl] [(2,14,map Ak rs)]]/\((Q (some [D.v (vSs S)])/\Q (some [D.v (vSs S)])/\Q (some [D.v (vSs S)])/\Q (some [D.v (vSs S)])/\Q (some [D.v (vSs S)])/\Q (some [D.v (vSs S)])/\Q (some [D.v (vSs S)])/\Q (some [D.v (vSs S)])/\Q (some [D.v (vSs S)])/\True)/\(Q (some [D.v (vSs S)])/\Q (some [D.v (vSs S)])/\Q (some [D.v (vSs S)])/\Q (some [D.v (vSs S)])/\Q (some [D.v (vSs S)])/\Q (some [D.v (vSs S)])/\Q (some [D.v (vSs S)])/\Q (some [D.v (vSs S)])/\Q (some [D.v (vSs S)])/\True)/\True)/\(ac !=0)=true/\Aa PP 8 [Azb 0 0,di (length (map Azg Pl):Int)] (dz l a4) (di chn) (dz l a5)/\Aa PP 8 [Azb 0 0,di (length (map Azg Le):Int)] (dz l a5) (di le) (dz l a6)/\(True/\(Q (some [D.v (vSs Le)])/\True)/\True)/\Q (map Ak rs)/\Ar (length (map Ak rs)+length (Azh (Azg nm::V.int i64 f::V.int i64 t::Azf nV::Azf nV::Azf nV::V.int i64 chn::V.int i64 ac::V.int i64 le::Azf nV::Azf nV::Azf nV::Azf nV::V.int i64 0::nV)::nV)) 232/\di (wrap i64 ((k:Int)+1))=di (↑(k+1):Int)/\[some (cDz l a6),some zM,some [di K,D.v (vSs S),D.v (vSs Pl),D.v (vSs Le),dIs rk,di 0,di 0,Azc 2 (map Ak rs++Azh (Azg nm::vi f::vi t::Azf nV::Azf nV::Azf nV::vi chn::vi ac::vi le::Azf nV::Azf nV::Azf nV::Azf nV::vi 0::nV)::nV),di 0,dl nV]]=[some (cDz l a6),some zM,some (lM K S Pl Le rk (rs++[mkL nm f t chn ac le]))]/\[(2,14,map Ak rs++Azh (Azg nm::vi f::vi t::Azf nV::Azf nV::Azf nV::vi chn::vi ac::vi le::Azf nV::Azf nV::Azf nV::Azf nV::vi 0::nV)::nV)]=[(2,14,map Ak (rs++[mkL nm f t chn ac le]))]/\I0 AcC 1 (Ag m) (dz l a') [kl Y2 [1,1,1,0,1,0,0],Aza 0,kc Y2 [1,1,1,1]] (mkE 92 [(0,Azb 0 0),(4,Azb 1 0),(5,Azb 2 0),(6,di (↑(k+1):Int))]) (stL l a6 K S Pl Le rk (rs++[mkL nm f t chn ac le]))) ?_
   rw[hSm,hPm,hLm]
   repeat' first|with_reducible refine And.intro ?_ ?_
   all_goals first|exact h4|exact hkr|exact f4|exact t4|exact c4|exact d4|exact e4|exact hw|exact Cm hnm|exact⟨m3⟩|exact Ad (by omega)|omega|rfl|trivial|skip
   all_goals first|exact HR (fun z=>[some (cDz l a6),some zM,some [di K,.v (vSs S),.v (vSs Pl),.v (vSs Le),.v (vIs rk),di 0,di 0,.acc 2 z,di 0,dl []]]) (AL rs (mkL nm f t chn ac le))|exact HR (fun z=>[(2,14,z)]) (AL rs (mkL nm f t chn ac le))|(simp only[H3,H9,HD];omega)
  ·have hac:ac=0:=by simpa using hw
   subst hac
   obtain⟨m,a',m1,m2,m3⟩:=ih (4- (k+1)) (by omega) (k+1) a4 (rs++[mkL nm f t 0 0 0]) rfl c3 (by omega) (by simp[hrs]) (Acz hnm ⟨f1,f2⟩ ⟨t1,t2⟩ (.inl ⟨rfl,rfl,rfl⟩) hrs hR)
   refine⟨m,a',m1,m2,?_⟩
   refine lv 92 [] (.c1 (cDz l a1) (di r)<|.t<|.h (.dr 17)<|.x (.str nm)<|.c1 (cDz l a2) (di f)<|.c1 (cDz l a3) (di t)<|.c1 (cDz l a4) (di 0)<|.k<|.ls [ke 0,ke 4,ke 5,ch 6 (di (k+1:Nat))] (stL l a4 K S Pl Le rk (rs++[mkL nm f t 0 0 0]))) (Aa PP 8 [Azb 0 0,di 4] (dz l a) (di r) (dz l a1)/\decide ((k:Int)<wrap i64 (1+r))=true/\0<=(k:Int)/\[Azg (Aze #[114]).data.toList,Azg (Aze #[115]).data.toList,Azg (Aze #[116]).data.toList,Azg (Aze #[117]).data.toList][Int.toNat (k:Int)]?=some (Azg nm)/\Aa PP 8 [Azb 0 0,di (length (map Azg S):Int)] (dz l a1) (di f) (dz l a2)/\Aa PP 8 [Azb 0 0,di (length (map Azg S):Int)] (dz l a1) (di f) (dz l a2)/\Q (di f)/\Aa PP 8 [Azb 0 0,di (length (map Azg S):Int)] (dz l a2) (di t) (dz l a3)/\Aa PP 8 [Azb 0 0,di (length (map Azg S):Int)] (dz l a2) (di t) (dz l a3)/\Q (di t)/\Aa PP 8 [Azb 0 0,di 3] (dz l a3) (di 0) (dz l a4)/\Aa PP 8 [Azb 0 0,di 3] (dz l a3) (di 0) (dz l a4)/\Q (di 0)/\Q [Azd [some (cDz l a1),some zM,some (lM K S Pl Le rk rs),some zRl] [(2,14,map Ak rs)],Azd [some (cDz l a2),some zM,some (lM K S Pl Le rk rs),some zRl] [(2,14,map Ak rs)],Azd [some (cDz l a3),some zM,some (lM K S Pl Le rk rs),some zRl] [(2,14,map Ak rs)],Azd [some (cDz l a4),some zM,some (lM K S Pl Le rk rs),some zRl] [(2,14,map Ak rs)]]/\((Q (some [D.v (vSs S)])/\Q (some [D.v (vSs S)])/\Q (some [D.v (vSs S)])/\Q (some [D.v (vSs S)])/\Q (some [D.v (vSs S)])/\Q (some [D.v (vSs S)])/\Q (some [D.v (vSs S)])/\Q (some [D.v (vSs S)])/\Q (some [D.v (vSs S)])/\True)/\(Q (some [D.v (vSs S)])/\Q (some [D.v (vSs S)])/\Q (some [D.v (vSs S)])/\Q (some [D.v (vSs S)])/\Q (some [D.v (vSs S)])/\Q (some [D.v (vSs S)])/\Q (some [D.v (vSs S)])/\Q (some [D.v (vSs S)])/\Q (some [D.v (vSs S)])/\True)/\True)/\Q (map Ak rs)/\Ar (length (map Ak rs)+length (Azh (Azg nm::V.int i64 f::V.int i64 t::Azf nV::Azf nV::Azf nV::V.int i64 0::V.int i64 0::V.int i64 0::Azf nV::Azf nV::Azf nV::Azf nV::V.int i64 0::nV)::nV)) 232/\di (wrap i64 ((k:Int)+1))=di (↑(k+1):Int)/\[some (cDz l a4),some zM,some [di K,D.v (vSs S),D.v (vSs Pl),D.v (vSs Le),dIs rk,di 0,di 0,Azc 2 (map Ak rs++Azh (Azg nm::vi f::vi t::Azf nV::Azf nV::Azf nV::vi 0::vi 0::vi 0::Azf nV::Azf nV::Azf nV::Azf nV::vi 0::nV)::nV),di 0,dl nV]]=[some (cDz l a4),some zM,some (lM K S Pl Le rk (rs++[mkL nm f t 0 0 0]))]/\[(2,14,map Ak rs++Azh (Azg nm::vi f::vi t::Azf nV::Azf nV::Azf nV::vi 0::vi 0::vi 0::Azf nV::Azf nV::Azf nV::Azf nV::vi 0::nV)::nV)]=[(2,14,map Ak (rs++[mkL nm f t 0 0 0]))]/\I0 AcC 1 (Ag m) (dz l a') [kl Y2 [1,1,1,0,1,0,0],Aza 0,kc Y2 [1,1,1,1]] (mkE 92 [(0,Azb 0 0),(4,Azb 1 0),(5,Azb 2 0),(6,di (↑(k+1):Int))]) (stL l a4 K S Pl Le rk (rs++[mkL nm f t 0 0 0]))) ?_
   rw[hSm]
   repeat' first|with_reducible refine And.intro ?_ ?_
   all_goals first|exact h4|exact hkr|exact f4|exact t4|exact c4|exact Cm hnm|exact⟨m3⟩|exact Ad (by omega)|omega|rfl|trivial|skip
   all_goals first|exact HR (fun z=>[some (cDz l a4),some zM,some [di K,.v (vSs S),.v (vSs Pl),.v (vSs Le),.v (vIs rk),di 0,di 0,.acc 2 z,di 0,dl []]]) (AL rs (mkL nm f t 0 0 0))|exact HR (fun z=>[(2,14,z)]) (AL rs (mkL nm f t 0 0 0))|(simp only[H3,H9,HD];omega)
 ·obtain⟨ys,a2,y1,y2,y3,y4⟩:=Ach l hl a1 h3 Pl.length (by omega) Le.length (by omega) (by omega)
  obtain⟨c,hc⟩:∃c:Val,c=.mk 0 (.mk 0 []::ys):=⟨_,rfl⟩
  refine⟨⟨K,S,Pl,Le,rk,0,0,rs,c⟩,a2,⟨rfl,hS,hP,hLe,hrk,rfl,rfl,by show rs.length<=4;omega,hR,ys,y2,y3,hc⟩,y1,?_⟩
  refine lv 92 [] (.c1 (cDz l a1) (di r)<|.f<|.a 3<|.c1 (cDz l a2) (dVs ys)<|.w .r) (Aa PP 8 [Azb 0 0,di 4] (dz l a) (di r) (dz l a1)/\decide ((k:Int)<wrap i64 (1+r))=false/\Aa PP 50 [Azb 0 0,di (length (map Azg Pl):Int),di (length (map Azg Le):Int),di 2] (dz l a1) (dVs ys) (dz l a2)/\Q (Azh (vi 0::Azf nV::nV)::nV)/\Ar (length (Azh (V.int i64 0::Azf nV::nV)::nV)+length (map eV ys)) 32/\(∀(y:V),y∈map eV ys->V.size y=2)/\Q [some (cDz l a2)]/\D.v (Azh [vi K,Azf (map Azg S),Azf (map Azg Pl),Azf (map Azg Le),Azf (map vi rk),vi 0,vi 0,Azf (map Ak rs),vi 0,Azf (Azh [vi 0,Azf []]::[]++(map eV ys))])=Ag (Mod.mk K S Pl Le rk 0 0 rs c)) ?_
  rw[hPm,hLm]
  refine⟨h4,H8 (by rw[Al (by omega) (by omega)];exact hk),y4,rfl,⟨?_,?_⟩,fun y hy=>?_,rfl,?_⟩
  ·have:=hPl;simp only[H3,H9,HD,y2];omega
  ·have:=hPl;simp only[H3,H9,HD,y2];omega
  ·obtain⟨z,_,rfl⟩:=Il.1 hy
   rw[Bz];rfl
  ·rw[hc];rfl
theorem AcT{ts:List Nat}{kn:Bool}{d:D}(h:d.one=true):(wkD ts kn d).one=true:=by
 unfold wkD
 split
 ·cases ts.any _<;>rfl
 ·cases kn<;>rfl
 ·cases kn
  ·exact absurd h (by simp[D.one,V.isAgg])
  ·exact h
 ·exact h
theorem Ahd{H:List (Option (List D))}{own:List (Nat×Nat×List V)}{q:Nat}{d0:Int}{S Pl Le:V}{rk:V}(hq:H[q]?=some (some [di d0,.v S,.v Pl,.v Le,.v rk,di 0,di 0,.acc 2 [],di 0,.v .nils]))(e:List D):Cv e ⟨H,own⟩ e ⟨H.set q (some ([di d0,.v S,.v Pl,.v Le,.v rk,di 0,di 0,.acc 2 [],di 0,.v .nils].map (wkD [2] false))),own⟩:=
 El (σ:=⟨H,own⟩) (q:=q) hq (fun g us hr=>Ds hr) (fun h c hc=>by
  obtain⟨d,hd,rfl⟩:=Il.1 hc
  exact AcT (h d hd)) e
noncomputable abbrev Ak6:=fun a₀ b₀ (c₀:Nat) d₀=>Aa PP 8 [Azb 0 0,di 3] (dz a₀ b₀) (di (c₀:Int)) (dz a₀ d₀)
noncomputable abbrev Aku:=fun a₀ b₀ (c₀:Nat) d₀=>Aa PP 8 [Azb 0 0,di 2] (dz a₀ b₀) (di (c₀:Int)) (dz a₀ d₀)
noncomputable abbrev Aky:=[Azg (Aze #[97]).data.toList,Azg (Aze #[98]).data.toList,Azg (Aze #[99]).data.toList]
noncomputable abbrev Alp:=[Azg (Aze #[112]).data.toList,Azg (Aze #[113]).data.toList]
noncomputable abbrev Ara:=fun (a₀:Nat)=>(1+(a₀:Int))
theorem AcG(l:List UInt8)(hl:l.length<=200)(a:Nat)(ha:a<=l.length)(K:Int)(hK:K=2∨K=3):
  ∃(m:Mod) (a':Nat),FO K m/\a'<=l.length/\Aa PP 20 [.ptr 0 0,di K] (dz l a) (Ag m) (dz l a'):=by
 obtain⟨r1,a1,p1,p2,p3,p4⟩:=Ax l hl a ha 3 (by decide) (by decide)
 obtain⟨r2,a2,q1,q2,q3,q4⟩:=Ax l hl a1 p3 2 (by decide) (by decide)
 obtain⟨r3,a3,u1,u2,u3,u4⟩:=Ax l hl a2 q3 2 (by decide) (by decide)
 obtain⟨n1,rfl⟩:∃n:Nat,r1=n:=⟨r1.toNat,by omega⟩
 obtain⟨n2,rfl⟩:∃n:Nat,r2=n:=⟨r2.toNat,by omega⟩
 obtain⟨n3,rfl⟩:∃n:Nat,r3=n:=⟨r3.toNat,by omega⟩
 obtain⟨S,hS⟩:∃S,S=([[97],[98],[99]]:List (List UInt8)).take (1+n1):=⟨_,rfl⟩
 obtain⟨Pl,hPl⟩:∃S,S=([[120],[121]]:List (List UInt8)).take (1+n2):=⟨_,rfl⟩
 obtain⟨Le,hLe⟩:∃S,S=([[112],[113]]:List (List UInt8)).take (1+n3):=⟨_,rfl⟩
 have hSx:∃n:Nat,1<=n/\n<=3/\S=([[97],[98],[99]]:List (List UInt8)).take n:=⟨1+n1,by omega,by omega,hS⟩
 have hPx:Pl=[[120]]∨Pl=[[120],[121]]:=by
  rcases(show n2=0∨n2=1 by omega) with rfl|rfl
  ·exact .inl hPl
  ·exact .inr hPl
 have hLx:Le=[[112]]∨Le=[[112],[113]]:=by
  rcases(show n3=0∨n3=1 by omega) with rfl|rfl
  ·exact .inl hLe
  ·exact .inr hLe
 rcases hK with rfl|rfl
 ·obtain⟨m,a',m1,m2,m3⟩:=RY l hl 2 S Pl Le [] hSx hPx hLx (by simp) _ 0 a3 [] rfl u3 (by omega) rfl (by simp)
  refine⟨m,a',m1,m2,?_⟩
  refine sv AcC 92 [] (.h (.dr 17)<|.c1 (cDz l a1) (di n1)<|.c1 (cDz l a2) (di n2)<|.c1 (cDz l a3) (di n3)<|.h .rn<|.k<|.h (.q 4 0)<|.h (.cl 2 7 2 14)<|.h (.cs (stL l a3 2 S Pl Le [] []))<|.ls [ke 0,ke 4,ke 5,ch 6 (di (0:Nat))] (stL l a3 2 S Pl Le [] [])) (Ak6 l a n1 a1/\Ak6 l a n1 a1/\Q (di (n1:Int))/\(∀(x:V),x∈ Aky->V.size x=1)/\0<=(fun x=>x.snd) (i64,wrap i64 (Ara n1))/\(fun x=>x.snd) (i64,wrap i64 (Ara n1))<=(↑(length Aky):Int)/\Aku l a1 n2 a2/\Aku l a1 n2 a2/\Q (di (n2:Int))/\(∀(x:V),x∈ Akv->V.size x=1)/\0<=(fun x=>x.snd) (i64,wrap i64 (Ara n2))/\(fun x=>x.snd) (i64,wrap i64 (Ara n2))<=(↑(length Akv):Int)/\Aku l a2 n3 a3/\Aku l a2 n3 a3/\Q (di (n3:Int))/\(∀(x:V),x∈ Alp->V.size x=1)/\0<=(fun x=>x.snd) (i64,wrap i64 (Ara n3))/\(fun x=>x.snd) (i64,wrap i64 (Ara n3))<=(↑(length Alp):Int)/\Q [Azd (Ali l a) [],Azd (Ali l a1) [],Azd (Ali l a2) [],Azd (Ali l a3) []]/\True/\(∀(e:List D) (E:Ent) (g:Gh) (a:Act) (w:World),FI E g (Azd [some (cDz l a3),some [D.v Ams,dn,dn,dn,dn,D.v Ams,D.v Ams,dn,D.v Ams,dn],some [D.v (V.int i64 2),D.v (Azf (List.drop 0 (take (Int.toNat ((fun x=>x.snd) (i64,wrap i64 (Ara n1)))) Aky))),D.v (Azf (List.drop 0 (take (Int.toNat ((fun x=>x.snd) (i64,wrap i64 (Ara n2)))) Akv))),D.v (Azf (List.drop 0 (take (Int.toNat ((fun x=>x.snd) (i64,wrap i64 (Ara n3)))) Alp))),dn,D.v Ams,D.v Ams,Azc 2 [],D.v Ams,dn]] [(2,14,[])]) e a w->∃g',FI E g' (stL l a3 2 S Pl Le [] []) e a w)/\di 0=di (↑0:Int)/\Q [some (cDz l a3),some zM,some (lM 2 S Pl Le [] [])]/\Q [(2,14,nV)]/\I0 AcC (length (dz l a).H) (Ag m) (dz l a') Aqv (mkE 92 [Ald,Arg,Arf,(6,di (↑0:Int))]) (stL l a3 2 S Pl Le [] [])) ?_
  have w1:wrap i64 (1+(n1:Int))=1+n1:=Al (by omega) (by omega)
  have w2:wrap i64 (1+(n2:Int))=1+n2:=Al (by omega) (by omega)
  have w3:wrap i64 (1+(n3:Int))=1+n3:=Al (by omega) (by omega)
  have z1:∀x∈ [V.str [97],V.str [98],V.str [99]],x.size=1:=by simp[V.size]
  have z2:∀x∈ [V.str [120],V.str [121]],x.size=1:=by simp[V.size]
  have z3:∀x∈ [V.str [112],V.str [113]],x.size=1:=by simp[V.size]
  have k1:V.list (List.drop 0 (take (1+(n1:Int)).toNat [V.str [97],V.str [98],V.str [99]]))=vSs S:=by
   rw[hS,IW,show(1+(n1:Int)).toNat=1+n1 by omega]
   rcases(show n1=0∨n1=1∨n1=2 by omega) with rfl|rfl|rfl<;>rfl
  have k2:V.list (List.drop 0 (take (1+(n2:Int)).toNat [V.str [120],V.str [121]]))=vSs Pl:=by
   rw[hPl,IW,show(1+(n2:Int)).toNat=1+n2 by omega]
   rcases(show n2=0∨n2=1 by omega) with rfl|rfl<;>rfl
  have k3:List.drop 0 (take (1+(n3:Int)).toNat [V.str [112],V.str [113]])=Le.map V.str:=by
   rw[hLe,IW,show(1+(n3:Int)).toNat=1+n3 by omega]
   rcases(show n3=0∨n3=1 by omega) with rfl|rfl<;>rfl
  rw[w1,w2,w3]
  refine⟨p4,p4,rfl,z1,by show 0<=1+(n1:Int);omega,by show 1+(n1:Int)<=3;omega,q4,q4,rfl,z2,by show 0<=1+(n2:Int);omega,by show 1+(n2:Int)<=2;omega,u4,u4,rfl,z3,by show 0<=1+(n3:Int);omega,by show 1+(n3:Int)<=2;omega,rfl,trivial,fun e=>?_,rfl,rfl,rfl,⟨m3⟩⟩
  show Cv e ⟨[some (cDz l a3),some zM,some [di 2,.v (V.list (List.drop 0 (take (1+(n1:Int)).toNat [V.str [97],V.str [98],V.str [99]]))),.v (V.list (List.drop 0 (take (1+(n2:Int)).toNat [V.str [120],V.str [121]]))),.v (V.list (List.drop 0 (take (1+(n3:Int)).toNat [V.str [112],V.str [113]]))),.v .nils,di 0,di 0,.acc 2 [],di 0,.v .nils]],[(2,14,[])]⟩ e _
  rw[k1,k2,k3]
  exact Ahd (H:=[some (cDz l a3),some zM,some [di 2,.v (vSs S),.v (vSs Pl),.v (vSs Le),.v .nils,di 0,di 0,.acc 2 [],di 0,.v .nils]]) (q:=2) rfl e
 ·obtain⟨rk,a4,v1,v2,v3,v4⟩:=Fk l hl a3 u3 Le.length (by rcases hLx with h|h<;>rw[h]<;>decide) 1 (by decide) (by decide)
  obtain⟨m,a',m1,m2,m3⟩:=RY l hl 3 S Pl Le rk hSx hPx hLx (by rw[HP rfl];exact⟨v2,v3⟩) _ 0 a4 [] rfl (by omega) (by omega) rfl (by simp)
  refine⟨m,a',m1,m2,?_⟩
  refine sv AcC 92 [] (.h (.dr 17)<|.c1 (cDz l a1) (di n1)<|.c1 (cDz l a2) (di n2)<|.c1 (cDz l a3) (di n3)<|.h .rn<|.k<|.c1 (cDz l a4) (dIs rk)<|.h (.q 4 0)<|.h (.cl 2 7 2 14)<|.h (.cs (stL l a4 3 S Pl Le rk []))<|.ls [ke 0,ke 4,ke 5,ch 6 (di (0:Nat))] (stL l a4 3 S Pl Le rk [])) (Ak6 l a n1 a1/\Ak6 l a n1 a1/\Q (di (n1:Int))/\(∀(x:V),x∈ Aky->V.size x=1)/\0<=(fun x=>x.snd) (i64,wrap i64 (Ara n1))/\(fun x=>x.snd) (i64,wrap i64 (Ara n1))<=(↑(length Aky):Int)/\Aku l a1 n2 a2/\Aku l a1 n2 a2/\Q (di (n2:Int))/\(∀(x:V),x∈ Akv->V.size x=1)/\0<=(fun x=>x.snd) (i64,wrap i64 (Ara n2))/\(fun x=>x.snd) (i64,wrap i64 (Ara n2))<=(↑(length Akv):Int)/\Aku l a2 n3 a3/\Aku l a2 n3 a3/\Q (di (n3:Int))/\(∀(x:V),x∈ Alp->V.size x=1)/\0<=(fun x=>x.snd) (i64,wrap i64 (Ara n3))/\(fun x=>x.snd) (i64,wrap i64 (Ara n3))<=(↑(length Alp):Int)/\Q [Azd (Ali l a) [],Azd (Ali l a1) [],Azd (Ali l a2) [],Azd (Ali l a3) []]/\True/\Aa PP 48 [Azb 0 0,di (length (List.drop 0 (take (Int.toNat ((fun x=>x.snd) (i64,wrap i64 (Ara n3)))) (Azg (Aze #[112]).data.toList::Azg (Aze #[113]).data.toList::nV))):Int),di 1] (dz l a3) (dIs rk) (dz l a4)/\(∀(e:List D) (E:Ent) (g:Gh) (a:Act) (w:World),FI E g (Azd [some (cDz l a4),some [D.v Ams,dn,dn,dn,dn,D.v Ams,D.v Ams,dn,D.v Ams,dn],some [D.v (V.int i64 3),D.v (Azf (List.drop 0 (take (Int.toNat ((fun x=>x.snd) (i64,wrap i64 (Ara n1)))) Aky))),D.v (Azf (List.drop 0 (take (Int.toNat ((fun x=>x.snd) (i64,wrap i64 (Ara n2)))) Akv))),D.v (Azf (List.drop 0 (take (Int.toNat ((fun x=>x.snd) (i64,wrap i64 (Ara n3)))) Alp))),dIs rk,D.v Ams,D.v Ams,Azc 2 [],D.v Ams,dn]] [(2,14,[])]) e a w->∃g',FI E g' (stL l a4 3 S Pl Le rk []) e a w)/\di 0=di (↑0:Int)/\Q [some (cDz l a4),some zM,some (lM 3 S Pl Le rk [])]/\Q [(2,14,nV)]/\I0 AcC (length (dz l a).H) (Ag m) (dz l a') Aqv (mkE 92 [Ald,Arg,Arf,(6,di (↑0:Int))]) (stL l a4 3 S Pl Le rk [])) ?_
  have w1:wrap i64 (1+(n1:Int))=1+n1:=Al (by omega) (by omega)
  have w2:wrap i64 (1+(n2:Int))=1+n2:=Al (by omega) (by omega)
  have w3:wrap i64 (1+(n3:Int))=1+n3:=Al (by omega) (by omega)
  have z1:∀x∈ [V.str [97],V.str [98],V.str [99]],x.size=1:=by simp[V.size]
  have z2:∀x∈ [V.str [120],V.str [121]],x.size=1:=by simp[V.size]
  have z3:∀x∈ [V.str [112],V.str [113]],x.size=1:=by simp[V.size]
  have k1:V.list (List.drop 0 (take (1+(n1:Int)).toNat [V.str [97],V.str [98],V.str [99]]))=vSs S:=by
   rw[hS,IW,show(1+(n1:Int)).toNat=1+n1 by omega]
   rcases(show n1=0∨n1=1∨n1=2 by omega) with rfl|rfl|rfl<;>rfl
  have k2:V.list (List.drop 0 (take (1+(n2:Int)).toNat [V.str [120],V.str [121]]))=vSs Pl:=by
   rw[hPl,IW,show(1+(n2:Int)).toNat=1+n2 by omega]
   rcases(show n2=0∨n2=1 by omega) with rfl|rfl<;>rfl
  have k3:List.drop 0 (take (1+(n3:Int)).toNat [V.str [112],V.str [113]])=Le.map V.str:=by
   rw[hLe,IW,show(1+(n3:Int)).toNat=1+n3 by omega]
   rcases(show n3=0∨n3=1 by omega) with rfl|rfl<;>rfl
  rw[w1,w2,w3]
  refine⟨p4,p4,rfl,z1,by show 0<=1+(n1:Int);omega,by show 1+(n1:Int)<=3;omega,q4,q4,rfl,z2,by show 0<=1+(n2:Int);omega,by show 1+(n2:Int)<=2;omega,u4,u4,rfl,z3,by show 0<=1+(n3:Int);omega,by show 1+(n3:Int)<=2;omega,rfl,trivial,?_,fun e=>?_,rfl,rfl,rfl,⟨m3⟩⟩
  ·show Aa PP _ [_,di ((List.drop 0 (take (1+(n3:Int)).toNat [V.str [112],V.str [113]])).length:Int),_] _ _ _
   rw[k3,H3];exact v4
  show Cv e ⟨[some (cDz l a4),some zM,some [di 3,.v (V.list (List.drop 0 (take (1+(n1:Int)).toNat [V.str [97],V.str [98],V.str [99]]))),.v (V.list (List.drop 0 (take (1+(n2:Int)).toNat [V.str [120],V.str [121]]))),.v (V.list (List.drop 0 (take (1+(n3:Int)).toNat [V.str [112],V.str [113]]))),dIs rk,di 0,di 0,.acc 2 [],di 0,.v .nils]],[(2,14,[])]⟩ e _
  rw[k1,k2,k3]
  exact Ahd (H:=[some (cDz l a4),some zM,some [di 3,.v (vSs S),.v (vSs Pl),.v (vSs Le),dIs rk,di 0,di 0,.acc 2 [],di 0,.v .nils]]) (q:=2) rfl e
theorem Aa5{rs:List Rul}(h3:rs.length<=4){ns np nl:Nat}(h:∀k r,rs[k]?=some r->M2 ns np nl k r):rs.map Rul.name=dl4.take rs.length:=by
 apply ext_getElem?
 intro i
 by_cases hi:i<rs.length
 ·have hx:rs[i]?=some rs[i]:=H4 hi
  rw[Ik,hx,List.getElem?_take_of_lt hi,(h i _ hx).name];rfl
 ·rw[Ir (by simp;omega),Ir (by simp;omega)]
theorem Y7{L:Int}{v:Val}(h:EZ L v):(v.n==0)=true/\decide ((v.kids.length:Int)<=12)=true/\(v.kids.all fun k=>Cd L k)=true:=by
 obtain⟨ks,h1,h2,rfl⟩:=h
 refine⟨rfl,H6 (by simp only[Val.kids,H3];omega),?_⟩
 simp only[Val.kids,Ip]
 intro k hk
 obtain⟨x,hx,rfl⟩:=Il.1 hk
 have:=h2 x hx
 simp only[Cd,Val.n,Val.kids,H5,HE]
 exact⟨H6 this.1,H6 this.2,rfl⟩
theorem NQ(t:Typ)(L:Int)(ht:∀v,EZ L v->Am t v=true):∀(n:Nat) (ys:List Val),ys.length=n->(∀y∈ys,EZ L y)->AW (replicate n t) ys=true
 |0,ys,h,_=>by
  cases ys with
  |nil=>rfl
  |cons y ys=>simp at h
 |n+1,ys,h,hy=>by
  cases ys with
  |nil=>simp at h
  |cons y ys=>
   simp only[Ix,AW,H5]
   exact⟨ht y (hy y (by simp)),NQ t L ht n ys (by simpa using h) fun z hz=>hy z (by simp[hz])⟩
theorem M4(L:Int):∀(ys:List Val),(∀y∈ys,EZ L y)->Val.sizes ys<=3*ys.length
 |[],_=>HB _
 |y::ys,h=>by
  have h1:=(h y (by simp)).size
  have h2:=M4 L ys fun z hz=>h z (by simp[hz])
  simp only[Val.sizes,H9];omega
theorem Mo(m:Mod)(hk:m.kind=2∨m.kind=3)(hpl:m.places.length<=2)(s:Int)(hs:0<=s/\s<m.states.length)(ys:List Val)(hy:ys.length=m.places.length)(h:∀y∈ys,EZ m.letters.length y):Aj (AI m) (.mk 0 (.mk s []::ys))=true:=by
 have hsz:=M4 _ ys h
 rw[Aj,H6 (by simp only[Val.size,Val.sizes];omega),Ib,AI]
 have he:∀v,EZ m.letters.length v->Am (BH m) v=true:=fun v hv=>by
  obtain⟨h1,h2,h3⟩:=Y7 hv
  rcases hk with hk|hk
  ·rw[show BH m=.word (.lab m.letters.length) by simp[BH,hk]]
   simp only[Am,H5]
   exact⟨h1,h2,h3⟩
  ·rw[show BH m=.prio m.letters.length m.ranks by simp[BH,hk]]
   simp only[Am,H5]
   exact⟨h1,h2,h3⟩
 simp only[Am,Val.n,Val.kids,AW,Cd,H5,HE,Ie]
 refine⟨?_,by simp[hy],⟨H6 hs.1,H6 hs.2,by rfl⟩,NQ _ _ he _ ys hy h⟩
 first|trivial|rfl
theorem FO.ok{K:Int}{m:Mod}(hK:K=2∨K=3)(h:FO K m):m.ok:=by
 have hk:=h.kind
 have hk1:¬m.kind=1:=by omega
 have hst:1<=m.states.length/\m.states.length<=3:=by obtain⟨n,h1,h2,e⟩:=h.states;rw[e,HY];simp only[H9,HD];omega
 have hpl:1<=m.places.length/\m.places.length<=2:=by rcases h.places with e|e<;>rw[e]<;>decide
 have hll:1<=m.letters.length/\m.letters.length<=2:=by rcases h.letters with e|e<;>rw[e]<;>decide
 have hb:∀{x a b:Int},a<=x->x<=b->Av x a b=true:=fun h1 h2=>by simp[Av,h1,h2]
 have hget:∀r∈m.rules,M2 m.states.length m.places.length m.letters.length (m.rules.idxOf r) r:=fun r hr=>by
  have hi:=List.idxOf_lt_length_of_mem hr
  exact h.rules _ r (by rw[H4 hi,List.getElem_idxOf])
 have hc:=h.count
 refine⟨.inr (by omega),?_,?_,?_,?_,?_,?_,?_⟩
 ·simp only[C3,Qe,HL hk1,H5,HE,h.levels,h.age]
  exact⟨hb (by omega) (by omega),by omega,hb (by omega) (by omega),hb (by omega) (by omega),by decide,by decide⟩
 ·have hr:=h.ranks
  rw[BO]
  rcases hK with rfl|rfl
  ·rw[HL (by decide)] at hr
   rw[HP (by rw[hk];rfl),hr];rfl
  ·rw[HP rfl] at hr
   rw[HL (by rw[hk];decide)]
   simp only[H5,Ie,Ip]
   exact⟨by omega,fun x hx=>hb (hr.2 x hx).1 (by have:=(hr.2 x hx).2;omega)⟩
 ·have hn:=Aa5 h.count h.rules
  obtain⟨n,n1,n2,e⟩:=h.states
  rw[D0,DO,hn,BL]
  have:m.rules.length=0∨m.rules.length=1∨m.rules.length=2∨m.rules.length=3∨m.rules.length=4:=by omega
  rcases(show n=1∨n=2∨n=3 by omega) with rfl|rfl|rfl<;>rcases h.places with e'|e'<;>rcases h.letters with e3|e3<;>rcases this with e2|e2|e2|e2|e2<;>rw[e,e',e2,e3]<;>decide+kernel
 ·intro r hr
  rw[(hget r hr).rest]
  exact⟨Ic _,Ic _,Ic _,Ic _,Ic _,Ic _,Ic _⟩
 ·intro r hr
  have hm:=hget r hr
  obtain⟨f1,f2⟩:=hm.frm
  obtain⟨t1,t2⟩:=hm.to
  have ha:=hm.act
  have hr:=hm.rest
  generalize r.name=nm at hr
  generalize r.frm=f at*
  generalize r.to=t at*
  generalize r.chan=cn at*
  generalize r.act=ac at*
  generalize r.letter=le at*
  subst hr
  rw[Et,HL hk1]
  simp only[Eu,BN,GS,mkL,D4,H5,Ie,HE,Ih,true_and]
  refine⟨hb (by omega) (by omega),hb (by omega) (by omega),?_⟩
  rcases ha with⟨rfl,rfl,rfl⟩|⟨h1,h2,h3⟩
  ·rfl
  ·rw[HL (by omega)]
   simp only[H5]
   exact⟨hb (by omega) (by omega),hb (by omega) (by omega),hb (by omega) (by omega)⟩
 ·obtain⟨ys,y1,y2,y3⟩:=h.start
  rw[y3]
  exact Mo m (by omega) (by omega) 0 ⟨by omega,by omega⟩ ys y1 y2
 ·obtain⟨ys,y1,y2,y3⟩:=h.start
  have:=M4 _ ys y2
  rw[y3];simp only[Val.size,Val.sizes];omega
noncomputable abbrev OV:Func:= Tryz.f116
noncomputable def Mv:Code:=OV.body.getD .skip
abbrev stQ(n:Int)(l:List Val):St:=⟨[some [di 0,.v .nils],some [di n,.acc 1 (l.map eV)]],[(1,2,l.map eV)]⟩
noncomputable abbrev Aq0:=fun a₀=>F0 116 [dV a₀] (dV a₀)
theorem Ty(v:Val)(hv:v.size<=1000000)(hk:∀x∈v.kids,Aa PP 116 [dV x] σ0 (dV x) σ0)(n:Nat):∀k:Nat,v.kids.length-k=n->
  Rn PP OV 0 (dV v) σ0 ([.lp (sub Mv [1,1,0,1,0,0]),.blk 0,.code (sub Mv [1,1,1])]++[]) (mkE 27 [(1,.v (.ref (Af v))),(2,.ptr 0 0),(3,.ptr 1 0),(4,di k)]) (stQ v.n (v.kids.take k)):=by
 have hs:=v.size_eq
 have hl:=Val.length_le v.kids
 induction n with
 |zero=>
  intro k hn
  refine lv 27 [1] (.f .r) (decide ((k:Int)<(length (Alj v.kids):Int))=false/\D.v (Azh [vi v.n,Azf (map eV (take k v.kids))])=dV v) ?_
  rw[HW (by omega)]
  exact⟨H8 (by rw[H3];omega),rfl⟩
 |succ n ih=>
  intro k hn
  obtain⟨x,hx⟩:∃x,v.kids[k]?=some x:=⟨_,H4 (show k<v.kids.length by omega)⟩
  refine lv 27 [1] (.t<|.h (.xs (Af x))<|.c (dV x)<|.ls [ke 1,ke 2,ke 3,ch 4 (di (k+1:Nat))] (stQ v.n (v.kids.take (k+1)))) (decide ((k:Int)<(length (Alj v.kids):Int))=true/\Q 2/\0<=(k:Int)/\(Alj v.kids)[Int.toNat (k:Int)]?=some (Af x)/\Aq0 x/\Q (map eV (take k v.kids))/\Ar (length (map eV (take k v.kids))+length (Af x::nV)) 32/\(True/\True)/\di (wrap i64 ((k:Int)+1))=di (↑(k+1):Int)/\[some [di 0,dn],some [di v.n,Azc 1 (map eV (take k v.kids)++Af x::nV)]]=[some [di 0,dn],some [di v.n,Azc 1 (map eV (take (k+1) v.kids))]]/\[(1,2,map eV (take k v.kids)++Af x::nV)]=[(1,2,map eV (take (k+1) v.kids))]/\I0 OV 0 (dV v) σ0 [kl Mv Akw,Aza 0,kc Mv [1,1,1]] (mkE 27 [(1,D.v (Apv v)),An1,(3,Azb 1 0),(4,di (↑(k+1):Int))]) (stQ v.n (take (k+1) v.kids))) ?_
  have ht:v.kids.take (k+1)=v.kids.take k++[x]:=by rw[IF,hx];rfl
  refine⟨H6 (by rw[H3];omega),rfl,by omega,As hx,hk x (HA hx),rfl,⟨?_,?_⟩,⟨trivial,trivial⟩,Ad (by omega),?_,?_,⟨ih (k+1) (by omega)⟩⟩
  ·simp only[H3,HY,H9,HD];omega
  ·simp only[H3,HY,H9,HD];omega
  ·rw[ht,BB]
  ·rw[ht,BB]
theorem Mi(N:Nat):∀v:Val,v.size<=N->v.size<=1000000->Aa PP 116 [dV v] σ0 (dV v) σ0:=by
 induction N with
 |zero=>intro v h;have:=v.size_pos;omega
 |succ N ih=>
  intro v hN hv
  have hs:=v.size_eq
  refine sv OV 27 [1] (.h .rn<|.h (.q 2 0)<|.h (.cl 1 1 1 2)<|.ls [ke 1,ke 2,ke 3,ch 4 (di (0:Nat))] (stQ v.n [])) (di 0=di (↑0:Int)/\Q [some [di 0,dn],some [di v.n,Azc 1 nV]]/\Q [(1,2,nV)]/\I0 OV σ0.H.length (dV v) σ0 [kl Mv Akw,Aza 0,kc Mv [1,1,1]] (mkE 27 [(1,D.v (Apv v)),An1,(3,Azb 1 0),(4,di (↑0:Int))]) (stQ v.n [])) ?_
  have:=Ty v hv (fun x hx=>by have:=Val.size_mem hx;exact ih x (by omega) (by omega)) _ 0 rfl
  exact⟨rfl,rfl,rfl,⟨by simpa using this⟩⟩
noncomputable abbrev OT:Func:= Tryz.f82
noncomputable def Mt:Code:=OT.body.getD .skip
def AJ(v:Val):List Val->Nat
 |[]=>0
 |x::l=>if Au x v<0 then AJ v l+1 else 0
def DN(l:List Val)(v:Val):List Val:=match l[AJ v l]? with
 |some x=>if (Au x v==0)=true then l else l.take (AJ v l)++v::l.drop (AJ v l)
 |none=>l.take (AJ v l)++v::l.drop (AJ v l)
theorem VL(v:Val):∀l:List Val,AJ v l<=l.length
 |[]=>HB _
 |x::l=>by
  have:=VL v l
  unfold AJ;split<;>simp only[H9]<;>omega
theorem VK(v:Val):∀(l:List Val) (k:Nat),k<AJ v l->∃x,l[k]?=some x/\Au x v<0
 |[],k,h=>by simp[AJ] at h
 |x::l,k,h=>by
  unfold AJ at h
  split at h
  ·rename_i hx
   cases k with
   |zero=>exact⟨x,rfl,hx⟩
   |succ k=>exact VK v l k (by omega)
  ·omega
theorem VM(v:Val):∀(l:List Val) (x:Val),l[AJ v l]?=some x->¬Au x v<0
 |[],x,h=>by simp at h
 |y::l,x,h=>by
  unfold AJ at h
  split at h
  ·exact VM v l x (by simpa using h)
  ·rename_i hy
   simp at h;subst h;exact hy
theorem AdW(l:List Val):∀x∈l.map eV,x.size=2:=fun x hx=>by
 obtain⟨y,_,rfl⟩:=Il.1 hx
 rw[Bz];rfl
theorem AgW(l:List Val)(i j:Nat):∀x∈ ((l.map eV).take j).drop i,x.size=2:=fun x hx=>AdW l x (IK (Iu hx))
theorem Adv(l:List Val)(v:Val)(k:Nat):take k (l.map eV)++[Af v]++List.drop k (l.map eV)=(l.take k++v::l.drop k).map eV:=by
 rw[←Bz];simp[map_take,List.map_drop]
theorem VJ(l:List Val)(v:Val)(k:Nat):D.v (V.list (List.drop 0 (take ((k:Nat):Int).toNat (l.map eV))++[Af v]++List.drop ((k:Nat):Int).toNat (take (l.map eV).length (l.map eV))))=dVs (l.take k++v::l.drop k):=by
 rw[IW,List.take_length];exact HR (fun z=>D.v (V.list z)) (Adv l v k)
theorem ZK(l:List Val)(v:Val)(hl:Val.sizes l<=1000000)(hv:v.size<=1000000)(n:Nat):∀k:Nat,AJ v l-k=n->k<=AJ v l->
  Rn PP OT 0 (dVs (DN l v)) σ0 ([.lp (sub Mt [1,1,0,0,0]),.blk 0,.code (sub Mt [1,1,1])]++[]) (mkE 46 [(0,dVs l),(3,.v (.ref (Af v))),(5,di k)]) σ0:=by
 have hil:=VL v l
 have hll:=Val.length_le l
 induction n with
 |zero=>
  intro k hn hk0
  have hk:k=AJ v l:=by omega
  subst hk
  cases hx:l[AJ v l]? with
  |none=>
   have e1:DN l v=l.take (AJ v l)++v::l.drop (AJ v l):=by rw[DN,hx]
   have hlt:l.length<=AJ v l:=List.getElem?_eq_none_iff.1 hx
   rw[e1]
   refine lv 46 [3] (.f<|.k<|.f<|.k<|.a 1<|.w<|.c (dV v)<|.w<|.w<|.r) (decide ((↑(AJ v l):Int)<(length (map eV l):Int))=false/\decide ((↑(AJ v l):Int)<(length (map eV l):Int))=false/\(∀(x:V),x∈map eV l->V.size x=2)/\0<=(fun x=>x.snd) (i64,(↑(AJ v l):Int))/\(fun x=>x.snd) (i64,(↑(AJ v l):Int))<=(length (map eV l):Int)/\Ar (length (List.drop 0 (take (Int.toNat ((fun x=>x.snd) (i64,(↑(AJ v l):Int)))) (map eV l)))) 32/\(∀(y:V),y∈List.drop 0 (take (Int.toNat ((fun x=>x.snd) (i64,(↑(AJ v l):Int)))) (map eV l))->V.size y=2)/\Aq0 v/\Q (List.drop 0 (take (Int.toNat ((fun x=>x.snd) (i64,(↑(AJ v l):Int)))) (map eV l)))/\Ar (length (List.drop 0 (take (Int.toNat ((fun x=>x.snd) (i64,(↑(AJ v l):Int)))) (map eV l)))+length (Af v::nV)) 32/\(∀(y:V),y∈ [Af v]->V.size y=2)/\(∀(x:V),x∈map eV l->V.size x=2)/\0<=(fun x=>x.snd) (i64,(↑(AJ v l):Int))/\(fun x=>x.snd) (i64,(↑(AJ v l):Int))<=(length (map eV l):Int)/\Q (List.drop 0 (take (Int.toNat ((fun x=>x.snd) (i64,(↑(AJ v l):Int)))) (map eV l))++Af v::nV)/\Ar (length (List.drop 0 (take (Int.toNat ((fun x=>x.snd) (i64,(↑(AJ v l):Int)))) (map eV l))++Af v::nV)+length (List.drop (Int.toNat ((fun x=>x.snd) (i64,(↑(AJ v l):Int)))) (take (length (map eV l)) (map eV l)))) 32/\(∀(y:V),y∈List.drop (Int.toNat ((fun x=>x.snd) (i64,(↑(AJ v l):Int)))) (take (length (map eV l)) (map eV l))->V.size y=2)/\D.v (Azf (List.drop 0 (take (Int.toNat ((fun x=>x.snd) (i64,(↑(AJ v l):Int)))) (map eV l))++[Af v]++List.drop (Int.toNat ((fun x=>x.snd) (i64,(↑(AJ v l):Int)))) (take (length (map eV l)) (map eV l))))=dVs (take (AJ v l) l++v::List.drop (AJ v l) l)) ?_
   have z0:(0:Int)<=(AJ v l:Int):=by omega
   have z1:(AJ v l:Int)<=((l.map eV).length:Int):=by rw[H3];omega
   have z2:∀y∈ [Af v],y.size=2:=fun y hy=>by rw[HK.1 hy];rfl
   repeat' first|with_reducible refine And.intro ?_ ?_
   all_goals first|exact H8 (by rw[H3];omega)|exact AdW l|exact AgW l _ _|exact z2|exact Mi _ v (HB _) hv|exact z0|exact z1|exact Ic _|rfl|(simp only[HI,I9,HY,H3,H9,HD];omega)|exact VJ l v _
  |some x=>
   have hlt:=(H7.1 hx).1
   have hc:=VM v l x hx
   have hsz:=Val.size_mem (HA hx)
   have z0':(0:Int)<=(AJ v l:Int):=by omega
   by_cases he:(Au x v==0)=true
   ·have e1:DN l v=l:=by rw[DN,hx];simp only[he,IC]
    rw[e1]
    refine lv 46 [3] (.t<|.h (.xs (Af x))<|.c (di (Au x v))<|.f<|.t<|.h (.xs (Af x))<|.c (db (Au x v==0))<|.t<|.r) (decide ((↑(AJ v l):Int)<(length (map eV l):Int))=true/\Q 2/\0<=(↑(AJ v l):Int)/\(map eV l)[Int.toNat (↑(AJ v l):Int)]?=some (Af x)/\Amh x v/\decide (Au x v<0)=false/\decide ((↑(AJ v l):Int)<(length (map eV l):Int))=true/\Q 2/\0<=(↑(AJ v l):Int)/\(map eV l)[Int.toNat (↑(AJ v l):Int)]?=some (Af x)/\F0 17 [dV x,dV v] (db (Au x v==0))/\(Au x v==0)=true/\dVs l=dVs l) ?_
    exact⟨H6 (by rw[H3];omega),rfl,z0',As hx,EW _ x v (HB _) (by omega),H8 hc,H6 (by rw[H3];omega),rfl,z0',As hx,Jz x v (by omega),he,rfl⟩
   ·have e1:DN l v=l.take (AJ v l)++v::l.drop (AJ v l):=by rw[DN,hx];simp only[he];rfl
    have he2:(Au x v==0)=false:=by simpa using he
    rw[e1]
    refine lv 46 [3] (.t<|.h (.xs (Af x))<|.c (di (Au x v))<|.f<|.t<|.h (.xs (Af x))<|.c (db (Au x v==0))<|.f<|.a 1<|.w<|.c (dV v)<|.w<|.w<|.r) (decide ((↑(AJ v l):Int)<(length (map eV l):Int))=true/\Q 2/\0<=(↑(AJ v l):Int)/\(map eV l)[Int.toNat (↑(AJ v l):Int)]?=some (Af x)/\Amh x v/\decide (Au x v<0)=false/\decide ((↑(AJ v l):Int)<(length (map eV l):Int))=true/\Q 2/\0<=(↑(AJ v l):Int)/\(map eV l)[Int.toNat (↑(AJ v l):Int)]?=some (Af x)/\F0 17 [dV x,dV v] (db (Au x v==0))/\(Au x v==0)=false/\(∀(x:V),x∈map eV l->V.size x=2)/\0<=(fun x=>x.snd) (i64,(↑(AJ v l):Int))/\(fun x=>x.snd) (i64,(↑(AJ v l):Int))<=(length (map eV l):Int)/\Ar (length (List.drop 0 (take (Int.toNat ((fun x=>x.snd) (i64,(↑(AJ v l):Int)))) (map eV l)))) 32/\(∀(y:V),y∈List.drop 0 (take (Int.toNat ((fun x=>x.snd) (i64,(↑(AJ v l):Int)))) (map eV l))->V.size y=2)/\Aq0 v/\Q (List.drop 0 (take (Int.toNat ((fun x=>x.snd) (i64,(↑(AJ v l):Int)))) (map eV l)))/\Ar (length (List.drop 0 (take (Int.toNat ((fun x=>x.snd) (i64,(↑(AJ v l):Int)))) (map eV l)))+length (Af v::nV)) 32/\(∀(y:V),y∈ [Af v]->V.size y=2)/\(∀(x:V),x∈map eV l->V.size x=2)/\0<=(fun x=>x.snd) (i64,(↑(AJ v l):Int))/\(fun x=>x.snd) (i64,(↑(AJ v l):Int))<=(length (map eV l):Int)/\Q (List.drop 0 (take (Int.toNat ((fun x=>x.snd) (i64,(↑(AJ v l):Int)))) (map eV l))++Af v::nV)/\Ar (length (List.drop 0 (take (Int.toNat ((fun x=>x.snd) (i64,(↑(AJ v l):Int)))) (map eV l))++Af v::nV)+length (List.drop (Int.toNat ((fun x=>x.snd) (i64,(↑(AJ v l):Int)))) (take (length (map eV l)) (map eV l)))) 32/\(∀(y:V),y∈List.drop (Int.toNat ((fun x=>x.snd) (i64,(↑(AJ v l):Int)))) (take (length (map eV l)) (map eV l))->V.size y=2)/\D.v (Azf (List.drop 0 (take (Int.toNat ((fun x=>x.snd) (i64,(↑(AJ v l):Int)))) (map eV l))++[Af v]++List.drop (Int.toNat ((fun x=>x.snd) (i64,(↑(AJ v l):Int)))) (take (length (map eV l)) (map eV l))))=dVs (take (AJ v l) l++v::List.drop (AJ v l) l)) ?_
    have z0:(0:Int)<=(AJ v l:Int):=by omega
    have z1:(AJ v l:Int)<=((l.map eV).length:Int):=by rw[H3];omega
    have z2:∀y∈ [Af v],y.size=2:=fun y hy=>by rw[HK.1 hy];rfl
    repeat' first|with_reducible refine And.intro ?_ ?_
    all_goals first|exact H6 (by rw[H3];omega)|exact As hx|exact EW _ x v (HB _) (by omega)|exact H8 hc|exact Jz x v (by omega)|exact he2|exact AdW l|exact AgW l _ _|exact z2|exact Mi _ v (HB _) hv|exact z0|exact z1|exact Ic _|rfl|(simp only[HI,I9,HY,H3,H9,HD];omega)|exact VJ l v _
 |succ n ih=>
  intro k hn hk0
  obtain⟨x,hx,hc⟩:=VK v l k (by omega)
  have hlt:=(H7.1 hx).1
  have hsz:=Val.size_mem (HA hx)
  refine lv 46 [3] (.t<|.h (.xs (Af x))<|.c (di (Au x v))<|.t<|.l [ke 0,ke 3,ch 5 (di (k+1:Nat))]) (decide ((k:Int)<(length (map eV l):Int))=true/\Q 2/\0<=(k:Int)/\(map eV l)[Int.toNat (k:Int)]?=some (Af x)/\Amh x v/\decide (Au x v<0)=true/\di (wrap i64 ((k:Int)+1))=di (↑(k+1):Int)/\I0 OT 0 (dVs (DN l v)) σ0 [kl Mt [1,1,0,0,0],Aza 0,kc Mt [1,1,1]] (mkE 46 [(0,dVs l),(Als v),(5,di (↑(k+1):Int))]) Akz) ?_
  exact⟨H6 (by rw[H3];omega),rfl,by omega,As hx,EW _ x v (HB _) (by omega),H6 hc,Ad (by omega),⟨ih (k+1) (by omega) (by omega)⟩⟩
theorem ZJ(l:List Val)(v:Val)(hl:Val.sizes l<=1000000)(hv:v.size<=1000000):Aa PP 82 [dVs l,dV v] σ0 (dVs (DN l v)) σ0:=by
 refine sv OT 46 [3] (.l [ke 0,ke 3,ch 5 (di (0:Nat))]) (di 0=di (↑0:Int)/\I0 OT σ0.H.length (dVs (DN l v)) σ0 [kl Mt [1,1,0,0,0],Aza 0,kc Mt [1,1,1]] (mkE 46 [(0,dVs l),(Als v),(5,di (↑0:Int))]) σ0) ?_
 exact⟨rfl,⟨ZK l v hl hv _ 0 rfl (Ic _)⟩⟩
abbrev lf(y:Int):Val:=.mk y []
structure IsC(c:Val)(s:Int)(ys:List Int):Prop where
 eq:c=C5 s ys
 len:c.kids.length=ys.length+1
 head:c.kids[0]?=some (lf s)
 at':∀(i:Nat) (y:Int),ys[i]?=some y->c.kids[i+1]?=some (lf y)
theorem isC(s:Int)(ys:List Int):IsC (C5 s ys) s ys:=
 ⟨rfl,by simp[C5,Val.kids],rfl,fun i y h=>by simp[C5,Val.kids,h]⟩
def F8:List Int->List Int->Bool
 |n::ns,y::ys=> !decide (y<n)&&F8 ns ys
 |_,_=>true
def enB(r:Rul)(s:Int)(ys:List Int):Bool:=(s==r.frm)&&F8 r.need ys
abbrev cR(r:Rul):List D:=[.v (.str r.name),di r.frm,di r.to,dIs r.need,dIs r.give,dIs r.move,di r.chan,di r.act,di r.letter,dIs r.path,dIs r.next,.v (AD r.takes),dIs r.makes,di r.second]
def G7:List Val->List Int->List Int->Val×Int
 |xs,w::ws,g::gs=>if decide (w+g>1048576)=true then(.mk 0 [],1) else G7 (xs++[lf (w+g)]) ws gs
 |xs,_,_=>(.mk 0 xs,0)
abbrev dP(p:Val×Int):D:=.tup [dV p.1,di p.2]
def Afw(r:Rul)(ys:List Int):List Int:=zipWith (fun y n=>y-n) ys r.need
abbrev stA(r:Rul)(ws:List Int):St:=⟨[some [di 0,.v .nils],some (cR r),some (cIs ws)],[]⟩
abbrev stB(r:Rul)(ws:List Int)(xs:List Val):St:=⟨[some [di 0,.v .nils],some (cR r),some (cIs ws),some [di 0,.acc 1 (xs.map eV)]],[(1,2,xs.map eV)]⟩
def apM(r:Rul)(s:Int)(ys:List Int):Val×Int:=if enB r s ys=true then G7 [lf r.to] (Afw r ys) r.give else(.mk 0 [],18)
def Cj(p:Val×Int):List Val×Int:=if (p.2==18)=true then([],0) else if (p.2 !=0)=true then([],p.2) else([p.1],0)
abbrev dLP(p:List Val×Int):D:=.tup [dVs p.1,di p.2]
abbrev Stp:=Int×Val
abbrev vSt(s:Stp):V:=.agg [vi s.1,vi s.2.n,vVs s.2.kids]
abbrev Ay(l:List Stp):V:=.list (l.map vSt)
abbrev Aey(l:List Stp):D:=.acc 1 (l.map vSt)
abbrev Wc(l:List Stp):St:=⟨[],[(1,3,l.map vSt)]⟩
theorem QF(l:List Stp)(s:Stp):l.map vSt++[vSt s]=(l++[s]).map vSt:=by simp
def D9(ap:Int->List Val×Int):Nat->Int->List Stp->List Stp×Int
 |0,_,acc=>if decide ((acc.length:Int)>256)=true then([],1) else(acc,0)
 |n+1,i,acc=>if ((ap i).2 !=0)=true then([],(ap i).2) else D9 ap n (i+1) (acc++(ap i).1.map fun v=>(i,v))
abbrev dSP(p:List Stp×Int):D:=.tup [.v (Ay p.1),di p.2]
noncomputable abbrev Ajn:Func:= Tryz.f6
theorem Aav(s:List UInt8):Aa PP 6 [.v (vBs s)] σ0 (.ptr 0 0) (dz (s.take 200) 0):=by
 by_cases h:s.length>200
 ·refine sv Ajn 11 [] (.t .ro) (decide ((length (map vb s):Int)>200)=true/\(∀(x:V),x∈map vb s->V.size x=1)/\0<=(200:Int)/\(200:Int)<=(length (map vb s):Int)/\okH 1 [] [some [D.v (Azf (List.drop 0 (take (Int.toNat ((200:Int))) (map vb s)))),di 0]]=true/\[some [D.v (Azf (List.drop 0 (take (Int.toNat ((200:Int))) (map vb s)))),di 0]]=[some (cDz (take 200 s) 0)]/\Q (Azb 0 0)) ?_
  have e:(s.take 200).map vb=List.drop 0 (take (Int.toNat 200) (s.map vb)):=by rw[map_take];rfl
  refine⟨by rw[H3];exact H6 (by omega),by simp[V.size],by decide,by show(200:Int)<=_;rw[H3];omega,rfl,?_,rfl⟩
  rw[cDz,vBs,e];rfl
 ·refine sv Ajn 11 [] (.f .ro) (decide ((length (map vb s):Int)>200)=false/\okH 1 [] [some [D.v (vBs s),di 0]]=true/\[some [D.v (vBs s),di 0]]=[some (cDz (take 200 s) 0)]/\Q (Azb 0 0)) ?_
  refine⟨by rw[H3];exact H8 (by omega),rfl,?_,rfl⟩
  rw[HW (by omega)];rfl
def stV(c:Val):Int:=(c.kids.headD (.mk 0 [])).n
def nmV(c:Val):List Int:=c.kids.tail.map Val.n
theorem WH(ys:List Int):(ys.map lf).map Val.n=ys:=by
 induction ys with
 |nil=>rfl
 |cons y ys ih=>simp only[HU,ih,lf,Val.n]
theorem UY(s:Int)(ys:List Int):stV (C5 s ys)=s:=rfl
theorem Nm(s:Int)(ys:List Int):nmV (C5 s ys)=ys:=by
 show(map lf ys).map Val.n=ys
 exact WH ys
structure BS(m:Mod)(c:Val):Prop where
 eq:c=C5 (stV c) (nmV c)
 st:0<=stV c/\stV c<m.states.length
 len:(nmV c).length=m.places.length
 nm:∀y∈nmV c,0<=y/\y<=1048576
theorem XH(m:Mod)(s:Int)(hs:0<=s/\s<m.states.length)(ys:List Int)(hy:ys.length=m.places.length)(h:∀y∈ys,0<=y/\y<=1048576):BS m (C5 s ys):=
 ⟨by rw[UY,Nm],by rw[UY];exact hs,by rw[Nm];exact hy,by rw[Nm];exact h⟩
structure PlC(m:Mod):Prop where
 ok:m.ok
 kind:m.kind=1
 move:∀r∈m.rules,r.move=[]
 start:BS m m.start
 few:m.states.length<=2/\m.places.length<=2
structure Ae0(m:Mod)(r:Rul):Prop where
 frm:0<=r.frm/\r.frm<m.states.length
 to:0<=r.to/\r.to<m.states.length
 needL:r.need.length=m.places.length
 giveL:r.give.length=m.places.length
 need:∀x∈r.need,0<=x/\x<=16
 give:∀x∈r.give,0<=x/\x<=16
 move:r.move=[]
theorem PlC.rule{m:Mod}(h:PlC m){r:Rul}(hr:r∈m.rules):Ae0 m r:=by
 have h1:=h.ok.right r hr
 rw[Et,HP h.kind] at h1
 simp only[Du,BJ,H5,Ip,Ie] at h1
 obtain⟨h2,h3,⟨h4,h5,h6,h7⟩,_⟩:=h1
 have h2:=BV h2
 have h3:=BV h3
 exact⟨⟨h3.1,by omega⟩,⟨h2.1,by omega⟩,by omega,by omega,fun x hx=>BV (h6 x hx),fun x hx=>BV (h7 x hx),h.move r hr⟩
theorem PlC.places{m:Mod}(h:PlC m):1<=m.places.length/\m.places.length<=6/\1<=m.states.length/\m.states.length<=8/\m.rules.length<=12:=by
 obtain⟨h1,h2,h3,h4,h5,_⟩:=h.ok.sz
 omega
theorem BS.isC{m:Mod}{c:Val}(h:BS m c):IsC c (stV c) (nmV c):=by
 have:=_root_.Go.Proofs.YtmhjflomgppcnaaGreatDoor.isC (stV c) (nmV c)
 rwa[←h.eq] at this
theorem BS.size{m:Mod}(hm:PlC m){c:Val}(h:BS m c):c.size<=8:=by
 rw[h.eq,EO,h.len]
 have:=hm.places;omega
theorem BS.valid{m:Mod}(hm:PlC m){c:Val}(h:BS m c):Aj (AI m) c=true:=by
 rw[h.eq]
 exact FL m hm.kind (by have:=hm.places;omega) _ h.st _ h.len h.nm
def apS(m:Mod)(c:Val)(i:Int):List Val×Int:=if i<0 then([],0) else match m.rules[i.toNat]? with
 |some r=>Cj (apM r (stV c) (nmV c))
 |none=>([],0)
def LN(m:Mod)(c:Val):List Stp×Int:=D9 (apS m c) (m.rules.length+1) (-1) []
def Hk(r:Rul)(ys:List Int):List Int:=zipWith (fun w g=>w+g) (Afw r ys) r.give
theorem PS:∀(ws gs:List Int) (xs:List Val),((G7 xs ws gs).2=0/\(G7 xs ws gs).1=.mk 0 (xs++(zipWith (fun w g=>w+g) ws gs).map lf)/\∀y∈zipWith (fun w g=>w+g) ws gs,y<=1048576)∨G7 xs ws gs=(.mk 0 [],1)
 |[],gs,xs=>.inl ⟨by simp[G7],by simp[G7],by simp⟩
 |w::ws,[],xs=>.inl ⟨by simp[G7],by simp[G7],by simp⟩
 |w::ws,g::gs,xs=>by
  by_cases h:w+g>1048576
  ·exact .inr (by rw[G7,HP (H6 h)])
  ·rw[G7,HL (by rw[H8 h];decide)]
   rcases PS ws gs (xs++[lf (w+g)]) with⟨h1,h2,h3⟩|h1
   ·refine .inl ⟨h1,by rw[h2];simp,fun y hy=>?_⟩
    simp only[List.zipWith_cons_cons,Ij] at hy
    rcases hy with rfl|hy
    ·omega
    ·exact h3 y hy
   ·exact .inr h1
theorem R0:∀{ns ys:List Int},F8 ns ys=true->∀(i:Nat) (n y:Int),ns[i]?=some n->ys[i]?=some y->n<=y
 |[],ys,_,i,n,y,h,_=>by simp at h
 |n::ns,[],_,i,n',y,_,h=>by simp at h
 |n::ns,y::ys,h,i,n',y',h1,h2=>by
  simp only[F8,H5,Iv,IM] at h
  cases i with
  |zero=>simp at h1 h2;subst h1;subst h2;omega
  |succ i=>exact R0 h.2 i n' y' (by simpa using h1) (by simpa using h2)
theorem TU{m:Mod}{r:Rul}(hr:Ae0 m r){ys:List Int}(hy:ys.length=m.places.length):(Hk r ys).length=m.places.length:=by
 have h1:=hr.needL;have h2:=hr.giveL
 simp only[Hk,Afw,List.length_zipWith];omega
theorem Yg{r:Rul}{ys:List Int}{i:Nat}{z:Int}(h:(Hk r ys)[i]?=some z):∃y n g,ys[i]?=some y/\r.need[i]?=some n/\r.give[i]?=some g/\z=y-n+g:=by
 simp only[Hk,Afw,List.getElem?_zipWith] at h
 split at h
 ·rename_i w g h1 h2
  split at h1
  ·rename_i y n h3 h4
   simp at h h1
   exact⟨y,n,g,h3,h4,h2,by omega⟩
  ·simp at h1
 ·simp at h
theorem Ahv{m:Mod}{r:Rul}(hr:Ae0 m r){c:Val}(hc:BS m c):
  ((apM r (stV c) (nmV c)).2=0/\stV c=r.frm/\(apM r (stV c) (nmV c)).1=C5 r.to (Hk r (nmV c))/\BS m (C5 r.to (Hk r (nmV c))))∨(apM r (stV c) (nmV c)).2=1∨(apM r (stV c) (nmV c)).2=18:=by
 unfold apM
 split
 ·rename_i he
  simp only[enB,H5,Ie] at he
  rcases PS (Afw r (nmV c)) r.give [lf r.to] with⟨h1,h2,h3⟩|h1
  ·refine .inl ⟨h1,he.1,by rw[h2];rfl,XH m _ hr.to _ (TU hr hc.len) fun z hz=>⟨?_,h3 z hz⟩⟩
   obtain⟨i,hi⟩:=List.getElem?_of_mem hz
   obtain⟨y,n,g,a1,a2,a3,rfl⟩:=Yg hi
   have b1:=R0 he.2 i n y a2 a1
   have b2:=(hr.give g (HA a3)).1
   omega
  ·exact .inr (.inl (by rw[h1]))
 ·exact .inr (.inr rfl)
structure Yj(m:Mod)(c:Val)(s:Stp):Prop where
 rule:∃(i:Nat) (r:Rul),s.1=i/\m.rules[i]?=some r/\stV c=r.frm/\s.2=C5 r.to (Hk r (nmV c))/\apM r (stV c) (nmV c)=(s.2,0)
 ok:BS m s.2
theorem XW{m:Mod}(hm:PlC m){c:Val}(hc:BS m c)(i:Int):((apS m c i).2=0∨(apS m c i).2=1)/\(apS m c i).1.length<=1/\∀v∈ (apS m c i).1,Yj m c (i,v):=by
 unfold apS
 split
 ·exact⟨.inl rfl,by simp,by simp⟩
 ·rename_i h0
  split
  ·rename_i r hi
   have hr:=hm.rule (HA hi)
   rcases Ahv hr hc with⟨h1,h2,h3,h4⟩|h1|h1
   ·have:Cj (apM r (stV c) (nmV c))=([C5 r.to (Hk r (nmV c))],0):=by
     rw[Cj,HL (by rw[h1];decide),HL (by rw[h1];decide),h3]
    rw[this]
    refine⟨.inl rfl,by simp,fun v hv=>?_⟩
    rw[HK.1 hv]
    exact⟨⟨i.toNat,r,by show i=_;omega,hi,h2,rfl,by rw[←h3, ←h1]⟩,h4⟩
   ·have:Cj (apM r (stV c) (nmV c))=([],1):=by rw[Cj,HL (by rw[h1];decide),HP (by rw[h1];decide),h1]
    rw[this];exact⟨.inr rfl,by simp,by simp⟩
   ·have:Cj (apM r (stV c) (nmV c))=([],0):=by rw[Cj,HP (by rw[h1];decide)]
    rw[this];exact⟨.inl rfl,by simp,by simp⟩
  ·exact⟨.inl rfl,by simp,by simp⟩
theorem Q0{ap:Int->List Val×Int}(he:∀i,(ap i).2=0∨(ap i).2=1)(hl:∀i,(ap i).1.length<=1){Q:Stp->Prop}(hq:∀i,∀v∈ (ap i).1,Q (i,v)):∀(n:Nat) (i:Int) (acc:List Stp),(∀s∈acc,Q s)->
  ((D9 ap n i acc).2=0∨(D9 ap n i acc).2=1)/\(D9 ap n i acc).1.length<=acc.length+n/\∀s∈ (D9 ap n i acc).1,Q s
 |0,i,acc,ha=>by
  rw[D9]
  split
  ·exact⟨.inr rfl,by simp,by simp⟩
  ·exact⟨.inl rfl,by simp,ha⟩
 |n+1,i,acc,ha=>by
  rw[D9]
  split
  ·exact⟨he i,by simp,by simp⟩
  ·obtain⟨h1,h2,h3⟩:=Q0 he hl hq n (i+1) (acc++(ap i).1.map fun v=>(i,v)) (fun s hs=>by
    rcases Iq.1 hs with hs|hs
    ·exact ha s hs
    ·obtain⟨v,hv,rfl⟩:=Il.1 hs
     exact hq i v hv)
   have:=hl i
   exact⟨h1,by simp only[HI,H3] at h2;omega,h3⟩
theorem UX{m:Mod}(hm:PlC m){c:Val}(hc:BS m c):((LN m c).2=0∨(LN m c).2=1)/\(LN m c).1.length<=13/\∀s∈ (LN m c).1,Yj m c s:=by
 have:=hm.places
 obtain⟨h1,h2,h3⟩:=Q0 (ap:=apS m c) (fun i=>(XW hm hc i).1) (fun i=>(XW hm hc i).2.1) (Q:=Yj m c) (fun i=>(XW hm hc i).2.2) (m.rules.length+1) (-1) [] (by simp)
 exact⟨h1,by simp only[HD] at h2;exact Iz h2 (by omega),h3⟩
inductive Ah1 (m:Mod) (c:Val):List Stp->Val->Prop where
 |nil:Ah1 m c [] c
 |snoc {l:List Stp} {d:Val} {s:Stp}:Ah1 m c l d->(LN m d).2=0->s∈ (LN m d).1->Ah1 m c (l++[s]) s.2
theorem Ah1.ok{m:Mod}(hm:PlC m){c d:Val}{l:List Stp}(hc:BS m c)(h:Ah1 m c l d):BS m d:=by
 induction h with
 |nil=>exact hc
 |snoc _ _ hs ih=>exact((UX hm ih).2.2 _ hs).ok
structure Lin{α:Type}(c:α->α->Int)(S:α->Prop):Prop where
 refl:∀x,S x->c x x=0
 eq:∀x y,S x->S y->c x y=0->x=y
 swap:∀x y,S x->S y->(c x y<0↔0<c y x)
 trans:∀x y z,S x->S y->S z->c x y<0->c y z<0->c x z<0
theorem Ab2:Lin AK fun _=>True:=by
 constructor<;>simp only[AK]<;>intros<;>(repeat' split at*)<;>(repeat' split)<;>omega
theorem Ab1{α:Type}{c:α->α->Int}{S:α->Prop}(h:Lin c S):Lin (AZ c) fun l=>∀x∈l,S x:=by
 have rfl':∀l:List α,(∀x∈l,S x)->AZ c l l=0:=by
  intro l
  induction l with
  |nil=>intro _;rfl
  |cons x l ih=>intro hs;rw[AZ,HP (h.refl x (hs x (by simp)))];exact ih fun y hy=>hs y (by simp[hy])
 have eq':∀a b:List α,(∀x∈a,S x)->(∀x∈b,S x)->AZ c a b=0->a=b:=by
  intro a
  induction a with
  |nil=>intro b _ _ e;cases b with
   |nil=>rfl
   |cons y b=>simp[AZ] at e
  |cons x a ih=>intro b ha hb e;cases b with
   |nil=>simp[AZ] at e
   |cons y b=>
    simp only[AZ] at e
    split at e
    ·rename_i h0
     rw[h.eq x y (ha x (by simp)) (hb y (by simp)) h0,ih b (fun z hz=>ha z (by simp[hz])) (fun z hz=>hb z (by simp[hz])) e]
    ·exact absurd e (by assumption)
 have c0:∀x y,S x->S y->(c x y=0↔c y x=0):=fun x y hx hy=>by
  have h1:=h.swap x y hx hy
  have h2:=h.swap y x hy hx
  constructor<;>intro _<;>omega
 have sw:∀a b:List α,(∀x∈a,S x)->(∀x∈b,S x)->(AZ c a b<0↔0<AZ c b a):=by
  intro a
  induction a with
  |nil=>intro b _ _;cases b<;>simp[AZ]
  |cons x a ih=>intro b ha hb;cases b with
   |nil=>simp[AZ]
   |cons y b=>
    have hx:=ha x (by simp);have hy:=hb y (by simp)
    simp only[AZ]
    by_cases h0:c x y=0
    ·rw[HP h0,HP ((c0 x y hx hy).1 h0)];exact ih b (fun z hz=>ha z (by simp[hz])) (fun z hz=>hb z (by simp[hz]))
    ·rw[HL h0,HL (fun e=>h0 ((c0 x y hx hy).2 e))];exact h.swap x y hx hy
 have tr:∀a b d:List α,(∀x∈a,S x)->(∀x∈b,S x)->(∀x∈d,S x)->AZ c a b<0->AZ c b d<0->AZ c a d<0:=by
  intro a
  induction a with
  |nil=>intro b d _ _ _ h1 h2;cases b with
   |nil=>simp[AZ] at h1
   |cons y b=>cases d with
    |nil=>simp[AZ] at h2
    |cons z d=>simp[AZ]
  |cons x a ih=>intro b d ha hb hd h1 h2;cases b with
   |nil=>simp[AZ] at h1
   |cons y b=>cases d with
    |nil=>simp[AZ] at h2
    |cons z d=>
     have hx:=ha x (by simp);have hy:=hb y (by simp);have hz:=hd z (by simp)
     have ha':∀w∈a,S w:=fun w hw=>ha w (by simp[hw])
     have hb':∀w∈b,S w:=fun w hw=>hb w (by simp[hw])
     have hd':∀w∈d,S w:=fun w hw=>hd w (by simp[hw])
     simp only[AZ] at*
     by_cases e1:c x y=0
     ·have:=h.eq x y hx hy e1;subst this
      rw[HP e1] at h1
      by_cases e2:c x z=0
      ·rw[HP e2] at h2⊢
       exact ih b d ha' hb' hd' h1 h2
      ·rw[HL e2] at h2⊢;exact h2
     ·rw[HL e1] at h1
      by_cases e2:c y z=0
      ·have:=h.eq y z hy hz e2;subst this
       rw[HL e1];exact h1
      ·rw[HL e2] at h2
       have:=h.trans x y z hx hy hz h1 h2
       rw[HL (by omega)];exact this
 exact⟨rfl',eq',sw,tr⟩
theorem Hg(a b:Val):Au a b=if AK a.n b.n=0 then(if AK a.kids.length b.kids.length=0 then AZ Au a.kids b.kids else AK a.kids.length b.kids.length) else AK a.n b.n:=by
 rw[N6, ←or3]
theorem Val.ext:∀{a b:Val},a.n=b.n->a.kids=b.kids->a=b
 |.mk _ _,.mk _ _,rfl,rfl=>rfl
theorem XA(N:Nat):Lin Au fun v=>v.size<=N:=by
 induction N with
 |zero=>exact⟨fun x h=>absurd x.size_pos (by omega),fun x _ h=>absurd x.size_pos (by omega),fun x _ h=>absurd x.size_pos (by omega),fun x _ _ h=>absurd x.size_pos (by omega)⟩
 |succ N ih=>
  have hL:=Ab1 ih
  have hk:∀v:Val,v.size<=N+1->∀x∈v.kids,x.size<=N:=fun v hv x hx=>by
   have:=v.size_eq;have:=Val.size_mem hx;omega
  have h1:=Ab2
  have i0:∀x y:Int,AK x y=0↔AK y x=0:=fun x y=>by
   have a:=h1.swap x y trivial trivial
   have b:=h1.swap y x trivial trivial
   constructor<;>intro _<;>omega
  refine⟨fun x hx=>?_,fun x y hx hy e=>?_,fun x y hx hy=>?_,fun x y z hx hy hz e1 e2=>?_⟩
  ·rw[Hg,HP (h1.refl _ trivial),HP (h1.refl _ trivial)];exact hL.refl _ (hk x hx)
  ·rw[Hg] at e
   split at e
   ·rename_i a1
    split at e
    ·exact Val.ext (h1.eq _ _ trivial trivial a1) (hL.eq _ _ (hk x hx) (hk y hy) e)
    ·exact absurd e (by assumption)
   ·exact absurd e (by assumption)
  ·rw[Hg,Hg y x]
   by_cases a1:AK x.n y.n=0
   ·rw[HP a1,HP ((i0 _ _).1 a1)]
    by_cases a2:AK x.kids.length y.kids.length=0
    ·rw[HP a2,HP ((i0 _ _).1 a2)];exact hL.swap _ _ (hk x hx) (hk y hy)
    ·rw[HL a2,HL (fun e=>a2 ((i0 _ _).2 e))];exact h1.swap _ _ trivial trivial
   ·rw[HL a1,HL (fun e=>a1 ((i0 _ _).2 e))];exact h1.swap _ _ trivial trivial
  ·rw[Hg] at e1 e2⊢
   by_cases a1:AK x.n y.n=0
   ·rw[HP a1] at e1
    have b1:=h1.eq _ _ trivial trivial a1
    rw[b1]
    by_cases c1:AK y.n z.n=0
    ·rw[HP c1] at e2⊢
     by_cases a2:AK x.kids.length y.kids.length=0
     ·rw[HP a2] at e1
      have b2:=h1.eq _ _ trivial trivial a2
      rw[b2]
      by_cases c2:AK y.kids.length z.kids.length=0
      ·rw[HP c2] at e2⊢;exact hL.trans _ _ _ (hk x hx) (hk y hy) (hk z hz) e1 e2
      ·rw[HL c2] at e2⊢;exact e2
     ·rw[HL a2] at e1
      by_cases c2:AK y.kids.length z.kids.length=0
      ·have b2:=h1.eq _ _ trivial trivial c2
       rw[←b2,HL a2];exact e1
      ·rw[HL c2] at e2
       have:=h1.trans _ _ _ trivial trivial trivial e1 e2
       rw[HL (by omega)];exact this
    ·rw[HL c1] at e2⊢;exact e2
   ·rw[HL a1] at e1
    by_cases c1:AK y.n z.n=0
    ·have b1:=h1.eq _ _ trivial trivial c1
     rw[←b1,HL a1];exact e1
    ·rw[HL c1] at e2
     have:=h1.trans _ _ _ trivial trivial trivial e1 e2
     rw[HL (by omega)];exact this
theorem AP:Lin Au fun _=>True:=by
 have h:∀x y z:Val,Lin Au fun v=>v.size<=x.size+y.size+z.size:=fun x y z=>XA _
 exact⟨fun x _=>(h x x x).refl x (by omega),fun x y _ _ e=>(h x y y).eq x y (by omega) (by omega) e,fun x y _ _=>(h x y y).swap x y (by omega) (by omega),fun x y z _ _ _ e1 e2=>(h x y z).trans x y z (by omega) (by omega) (by omega) e1 e2⟩
theorem JG{a b:Val}:Au a b=0↔a=b:=⟨fun h=>AP.eq a b trivial trivial h,fun h=>by rw[h];exact AP.refl b trivial⟩
def AcP(np age:Int)(v:Val):Prop:=∃p g:Int,(0<=p/\p<np)/\(0<=g/\g<age+2)/\v=.mk 0 [.mk p [],.mk g []]
structure AbZ(np age:Int)(n:Nat)(ts:List Val):Prop where
 tok:∀t∈ts,AcP np age t
 len:ts.length<=n
 asc:∀i x y,ts[i]?=some x->ts[i+1]?=some y->Au x y<0
theorem AcP.sz{np age:Int}{v:Val}(h:AcP np age v):v.size=3:=by
 obtain⟨p,g,_,_,rfl⟩:=h;rfl
theorem UL{np age:Int}:∀(ts:List Val),(∀t∈ts,AcP np age t)->Val.sizes ts=3*ts.length
 |[],_=>rfl
 |t::ts,h=>by
  have h1:=(h t (by simp)).sz
  have h2:=UL ts fun z hz=>h z (by simp[hz])
  simp only[Val.sizes,H9];omega
theorem Aht{np age:Int}{v:Val}(h:AcP np age v):AbZ np age 1 [v]:=⟨fun t ht=>by rw[HK.1 ht];exact h,by simp,fun i x y _ hy=>by simp at hy⟩
theorem Adu{np age:Int}{ts:List Val}{v:Val}(h:AbZ np age 1 ts)(hv:AcP np age v):AbZ np age 2 (DN ts v):=by
 match ts,h with
 |[],_=>exact⟨(Aht hv).tok,by simp[DN,AJ],(Aht hv).asc⟩
 |[x],h=>
  have hx:=h.tok x (by simp)
  by_cases hc:Au x v<0
  ·have e:DN [x] v=[x,v]:=by simp[DN,AJ,hc]
   rw[e]
   refine⟨fun t ht=>?_,by simp,fun i a b ha hb=>?_⟩
   ·rcases Ij.1 ht with rfl|ht
    ·exact hx
    ·rw[HK.1 ht];exact hv
   ·match i,ha,hb with
    |0,ha,hb=>simp at ha hb;subst ha hb;exact hc
    |i+1,_,hb=>simp at hb
  ·by_cases he:(Au x v==0)=true
   ·have e:DN [x] v=[x]:=by simp only[DN,AJ,hc,if_false,I5,he,IC]
    rw[e]
    exact⟨h.tok,by simp,fun i a b ha hb=>by simp at hb⟩
   ·have e:DN [x] v=[v,x]:=by simp only[DN,AJ,hc,if_false,I5,he];rfl
    rw[e]
    refine⟨fun t ht=>?_,by simp,fun i a b ha hb=>?_⟩
    ·rcases Ij.1 ht with rfl|ht
     ·exact hv
     ·rw[HK.1 ht];exact hx
    ·match i,ha,hb with
     |0,ha,hb=>
      simp at ha hb;subst ha hb
      have:=(AP.swap v x trivial trivial).2
      have he:Au x v≠0:=by simpa using he
      exact this (by omega)
     |i+1,_,hb=>simp at hb
 |_::_::_,h=>exact absurd h.len (by simp)
noncomputable abbrev Ug:Func:= Tryz.f51
noncomputable def GB:Code:=Ug.body.getD .skip
abbrev Pu(l:List UInt8)(a:Nat):St:=⟨[some (cDz l a),some [di 0,.v .nils]],[]⟩
noncomputable abbrev Alg:=fun a₀ b₀=>[some (cDz a₀ b₀),some [di 0,dn]]
noncomputable abbrev Amu:=fun a₀ b₀=>[Azh [vi a₀,Azf []],Azh [vi b₀,Azf []]]
theorem NE(l:List UInt8)(hl:l.length<=200)(m:Mod)(hpl:1<=m.places.length/\m.places.length<=2)(hag:0<=m.age/\m.age<=3)(k:Nat)(hk:k<=2)(a:Nat)(ha:a<=l.length)(ts:List Val)(hts:Val.sizes ts<=1000):
  ∃(t:Val) (a':Nat),AcP m.places.length m.age t/\a'<=l.length/\∀(d:D) (σ':St),Rn PP Ug 1 d σ' ([.lp (sub GB [1,1,0,1,0,0]),.blk 0,.code (sub GB [1,1,1])]++[]) (mkE 43 [(0,.ptr 0 0),(4,.v (.ref (A8 m))),(6,.ptr 1 0),(7,dVs (DN ts t)),(8,di k)]) (Pu l a')->
   Rn PP Ug 1 d σ' ([.lp (sub GB [1,1,0,1,0,0]),.blk 0,.code (sub GB [1,1,1])]++[]) (mkE 43 [(0,.ptr 0 0),(4,.v (.ref (A8 m))),(6,.ptr 1 0),(7,dVs ts),(8,di (k+1:Nat))]) (Pu l a):=by
 obtain⟨p,a1,p1,p2,p3,p4⟩:=Ax l hl a ha m.places.length (by omega) (by omega)
 obtain⟨g,a2,q1,q2,q3,q4⟩:=Ax l hl a1 p3 (m.age+2) (by omega) (by omega)
 obtain⟨t,ht⟩:∃t:Val,t=.mk 0 [.mk p [],.mk g []]:=⟨_,rfl⟩
 refine⟨t,a2,⟨p,g,⟨p1,p2⟩,⟨q1,q2⟩,ht⟩,q3,fun d σ' hrn=>?_⟩
 refine lv 43 [4] (.t<|.c1 (cDz l a1) (di p)<|.c1 (cDz l a2) (di g)<|.c (dVs (DN ts t))<|.ls [ke 0,ke 4,ke 6,ch 7 (dVs (DN ts t)),ch 8 (di k)] (Pu l a2)) (decide ((↑(k+1):Int)>0)=true/\Aa PP 8 [Azb 0 0,di (length (map Azg m.places):Int)] (dz l a) (di p) (dz l a1)/\Aa PP 8 [Azb 0 0,di (wrap i64 (m.age+2))] (dz l a1) (di g) (dz l a2)/\F0 82 [dVs ts,D.v (Azh [vi 0,Azf [Azh [vi p,Azf []],Azh [vi g,Azf []]]])] (dVs (DN ts t))/\Q (dVs (DN ts t))/\di (wrap i64 ((↑(k+1):Int)-1))=di (k:Int)/\Q [some (cDz l a2),some [di 0,dn]]/\I0 Ug 1 d σ' [kl GB [1,1,0,1,0,0],Aza 0,kc GB [1,1,1]] (mkE 43 [(0,Azb 0 0),(4,D.v (Azo (A8 m))),(6,Azb 1 0),(7,dVs (DN ts t)),(8,di (k:Int))]) (Pu l a2)) ?_
 rw[show wrap i64 (m.age+2)=m.age+2 from Al (by omega) (by omega),show wrap i64 ((k+1:Nat)-1:Int)=(k:Int) from by rw[Al (by omega) (by omega)];omega]
 refine⟨H6 (by omega),by rw[H3];exact p4,q4,?_,rfl,rfl,rfl,⟨hrn⟩⟩
 subst ht
 exact ZJ ts (.mk 0 [.mk p [],.mk g []]) (by omega) (by show 3<=1000000;decide)
theorem Aeq(l:List UInt8)(hl:l.length<=200)(m:Mod)(hst:1<=m.states.length/\m.states.length<=3)(a:Nat)(ha:a<=l.length)(ts:List Val):
  ∃(s:Int) (a':Nat),(0<=s/\s<m.states.length)/\a'<=l.length/\Rn PP Ug 1 (dV (.mk 0 [.mk s [],.mk 0 ts])) (dz l a') ([.lp (sub GB [1,1,0,1,0,0]),.blk 0,.code (sub GB [1,1,1])]++[]) (mkE 43 [(0,.ptr 0 0),(4,.v (.ref (A8 m))),(6,.ptr 1 0),(7,dVs ts),(8,di (0:Nat))]) (Pu l a):=by
 obtain⟨s,a1,p1,p2,p3,p4⟩:=Ax l hl a ha m.states.length (by omega) (by omega)
 refine⟨s,a1,⟨p1,p2⟩,p3,?_⟩
 refine lv 43 [4] (.f<|.c1 (cDz l a1) (di s) .r) (decide ((↑0:Int)>0)=false/\Aa PP 8 [Azb 0 0,di (length (map Azg m.states):Int)] (dz l a) (di s) (dz l a1)/\Q [some (cDz l a1)]/\D.v (Azh [vi 0,Azf [Azh [vi s,Azf []],Azh [vi 0,vVs ts]]])=dV (Val.mk 0 [Val.mk s [],Val.mk 0 ts])) ?_
 refine⟨by decide,by rw[H3];exact p4,rfl,?_⟩
 show D.v (V.agg [vi 0,V.list [Af (.mk s []),Af (.mk 0 ts)]])=_
 rw[←Bz, ←Bz];rfl
theorem slV:BP PP 29=some (31,2,32,some (.agg #[.int .i64 0,.slice none 0 0])):=by kernel_rfl
theorem Aeo{o:Oper}{σ:St}(ho:o.op=.buildSlice 29 2 #[(0,.tmp 38),(1,.tmp 40)])(x y:Val):Ah PP o [.v (Af x),.v (Af y)] σ (.gro σ.H.length 2 2) ⟨σ.H++[some (Ab [Af x,Af y])],σ.own⟩:=
 GQ ho (by rfl) rfl slV rfl (ds:=[.v (Af x),.v (Af y)]) (xs:=[Af x,Af y]) rfl (fun z hz=>by simp at hz;rcases hz with rfl|rfl<;>rfl) (by decide) (by decide) (by decide)
theorem AbP(l:List UInt8)(hl:l.length<=200)(m:Mod)(hst:1<=m.states.length/\m.states.length<=3)(a:Nat)(ha:a<=l.length)(ts:List Val):
  ∃(s:Int) (a':Nat),(0<=s/\s<m.states.length)/\a'<=l.length/\Rn PP Ug 1 (.dagg [di 0,.gro 2 2 2]) ⟨[some (cDz l a'),some [di 0,.gro 2 2 2],some (Ab [Af (.mk s []),Af (.mk 0 ts)])],[]⟩ ([.lp (sub GB [1,1,0,1,0,0]),.blk 0,.code (sub GB [1,1,1])]++[]) (mkE 43 [(0,.ptr 0 0),(4,.v (.ref (A8 m))),(6,.ptr 1 0),(7,dVs ts),(8,di (0:Nat))]) (Pu l a):=by
 obtain⟨s,a1,p1,p2,p3,p4⟩:=Ax l hl a ha m.states.length (by omega) (by omega)
 refine⟨s,a1,⟨p1,p2⟩,p3,?_⟩
 refine lv 43 [4] (.f<|.c1 (cDz l a1) (di s)<|.h (.q 6 8)<|.h (.o (.gro 2 2 2) ⟨[some (cDz l a1),some [di 0,.v .nils],some (Ab [Af (.mk s []),Af (.mk 0 ts)])],[]⟩)<|.h .g<|.h .ww<|.rd) (decide ((↑0:Int)>0)=false/\Aa PP 8 [Azb 0 0,di (length (map Azg m.states):Int)] (dz l a) (di s) (dz l a1)/\Ah PP (Oper.mk (some 41) (Op.buildSlice 29 2 #[(0,Operand.tmp 38),(1,Operand.tmp 40)]) 29 "play.go:141" #[Edge.mk 5 Ground.data,Edge.mk 7 Ground.data] none) [D.v (Azh [vi s,Azf []]),D.v (Azh [vi 0,vVs ts])] (Azd [some (cDz l a1),some [di 0,dn]] []) (Azm 2 2 2) (Azd [some (cDz l a1),some [di 0,dn],some [di (Val.n (Val.mk s [])),D.v (vVs (Val.kids (Val.mk s []))),di (Val.n (Val.mk 0 ts)),D.v (vVs (Val.kids (Val.mk 0 ts)))]] [])/\2<=2/\Q [some (cDz l a1),some [di 0,Azm 2 2 2],some [di (Val.n (Val.mk s [])),D.v (vVs (Val.kids (Val.mk s []))),di (Val.n (Val.mk 0 ts)),D.v (vVs (Val.kids (Val.mk 0 ts)))]]/\Q (D.dagg [di 0,Azm 2 2 2])) ?_
 exact⟨by decide,by rw[H3];exact p4,Aeo (σ:=⟨[some (cDz l a1),some [di 0,.v .nils]],[]⟩) rfl (.mk s []) (.mk 0 ts),by decide,rfl,rfl⟩
theorem Ahc{σ:St}{t:Nat}(e:List D)(he:e[t]?=some (.v .nils)):Cv e σ (e.set t (.v (.list []))) σ:=fun E g a w hf=>by
 obtain⟨u,hu,hr⟩:=B9 hf.env he
 refine⟨g,hf.wi,?_,hf.defers⟩
 have:=CG hf.env t (d:=.v (.list [])) (u:=u) (EF hr)
 rwa[Ed hu] at this
theorem Sh(l:List UInt8)(hl:l.length<=200)(m:Mod)(hpl:1<=m.places.length/\m.places.length<=2)(hag:0<=m.age/\m.age<=3)(a:Nat)(ha:a<=l.length)(r:Nat)(hr:r<=2):
  ∃(ts:List Val) (a':Nat),AbZ m.places.length m.age 2 ts/\a'<=l.length/\∀(d:D) (σ':St),Rn PP Ug 1 d σ' ([.lp (sub GB [1,1,0,1,0,0]),.blk 0,.code (sub GB [1,1,1])]++[]) (mkE 43 [(0,.ptr 0 0),(4,.v (.ref (A8 m))),(6,.ptr 1 0),(7,dVs ts),(8,di (0:Nat))]) (Pu l a')->
   Rn PP Ug 1 d σ' ([.lp (sub GB [1,1,0,1,0,0]),.blk 0,.code (sub GB [1,1,1])]++[]) (mkE 43 [(0,.ptr 0 0),(4,.v (.ref (A8 m))),(6,.ptr 1 0),(7,dVs []),(8,di (r:Nat))]) (Pu l a):=by
 rcases(show r=0∨r=1∨r=2 by omega) with rfl|rfl|rfl
 ·exact⟨[],a,⟨fun t ht=>by simp at ht,by simp,fun i x y hx=>by simp at hx⟩,ha,fun d σ' h=>h⟩
 ·obtain⟨t,a1,h1,h2,h3⟩:=NE l hl m hpl hag 0 (by omega) a ha [] (by decide)
  exact⟨DN [] t,a1,⟨(Aht h1).tok,by simp[DN,AJ],(Aht h1).asc⟩,h2,h3⟩
 ·obtain⟨t,a1,h1,h2,h3⟩:=NE l hl m hpl hag 1 (by omega) a ha [] (by decide)
  obtain⟨t2,a2,h4,h5,h6⟩:=NE l hl m hpl hag 0 (by omega) a1 h2 [t] (by simp only[Val.sizes,h1.sz];decide)
  exact⟨DN [t] t2,a2,Adu (Aht h1) h4,h5,fun d σ' h=>h3 d σ' (h6 d σ' h)⟩
theorem Ahr(l:List UInt8)(hl:l.length<=200)(m:Mod)(hst:1<=m.states.length/\m.states.length<=3)(hpl:1<=m.places.length/\m.places.length<=2)(hag:0<=m.age/\m.age<=3)(a:Nat)(ha:a<=l.length):
  ∃(s:Int) (ts:List Val) (a':Nat),(0<=s/\s<m.states.length)/\AbZ m.places.length m.age 2 ts/\a'<=l.length/\Aa PP 51 [.ptr 0 0,Ag m,di 2] (dz l a) (dV (.mk 0 [.mk s [],.mk 0 ts])) (dz l a'):=by
 obtain⟨r,a1,p1,p2,p3,p4⟩:=Ax l hl a ha 3 (by decide) (by decide)
 obtain⟨r,rfl⟩:∃n:Nat,r=n:=⟨r.toNat,by omega⟩
 obtain⟨ts,a2,h1,h2,h3⟩:=Sh l hl m hpl hag a1 p3 r (by omega)
 obtain⟨s,a3,h4,h5,h6⟩:=Aeq l hl m hst a2 h2 ts
 refine⟨s,ts,a3,h4,h1,h5,?_⟩
 have hrn:=h3 _ _ h6
 refine sv Ug 43 [4] (.h (.q 2 0)<|.h (.ct 7 (dVs []) (Pu l a))<|.c1 (cDz l a1) (di r)<|.ls [ke 0,ke 4,ke 6,ch 7 (dVs []),ch 8 (di r)] (Pu l a1)) ((∀(e:List D),e[7]?=some (dn)->∀(E:Ent) (g:Gh) (a_2:Act) (w:World),FI E g (Azd [some (cDz l a),some [D.v Ams,dn]] (dz l a).own) e a_2 w->∃g',FI E g' (Pu l a) (List.set e 7 (dVs [])) a_2 w)/\Aa PP 8 [Azb 0 0,di (wrap i64 (2+1))] (dz l a) (di (r:Int)) (dz l a1)/\Q (dVs [])/\Q (di (r:Int))/\Q (Alg l a1)/\I0 Ug (length (dz l a).H) (dV (Val.mk 0 [Val.mk s [],Val.mk 0 ts])) (dz l a3) [kl GB Akw,Aza 0,kc GB [1,1,1]] (mkE 43 [Ald,(4,D.v (Amc m)),(6,Azb 1 0),(7,dVs []),(8,di (r:Int))]) (Pu l a1)) ?_
 have w3:wrap i64 (2+1)=3:=by decide
 rw[w3]
 exact⟨fun e he=>Ahc e he,p4,rfl,rfl,rfl,⟨hrn⟩⟩
theorem Aep(l:List UInt8)(hl:l.length<=200)(m:Mod)(hst:1<=m.states.length/\m.states.length<=3)(hpl:1<=m.places.length/\m.places.length<=2)(hag:0<=m.age/\m.age<=3)(a:Nat)(ha:a<=l.length):
  ∃(s:Int) (ts:List Val) (a':Nat),(0<=s/\s<m.states.length)/\AbZ m.places.length m.age 2 ts/\a'<=l.length/\Aa PP 51 [.ptr 0 0,Ag m,di 2] (dz l a) (.dagg [di 0,.arr 1 0 2]) ⟨[some (cDz l a'),some [di s,dVs [],di 0,dVs ts]],[]⟩:=by
 obtain⟨r,a1,p1,p2,p3,p4⟩:=Ax l hl a ha 3 (by decide) (by decide)
 obtain⟨r,rfl⟩:∃n:Nat,r=n:=⟨r.toNat,by omega⟩
 obtain⟨ts,a2,h1,h2,h3⟩:=Sh l hl m hpl hag a1 p3 r (by omega)
 obtain⟨s,a3,h4,h5,h6⟩:=AbP l hl m hst a2 h2 ts
 refine⟨s,ts,a3,h4,h1,h5,?_⟩
 have hrn:=h3 _ _ h6
 refine Zl (c1:=[di 0]) (c2:=[]) (T:=[some [di 0,.gro 2 2 2],some (Ab [Af (.mk s []),Af (.mk 0 ts)])]) (q:=1) (sz:=2) rfl rfl rfl rfl rfl ?_
 refine sv Ug 43 [4] (.h (.q 2 0)<|.h (.ct 7 (dVs []) (Pu l a))<|.c1 (cDz l a1) (di r)<|.ls [ke 0,ke 4,ke 6,ch 7 (dVs []),ch 8 (di r)] (Pu l a1)) ((∀(e:List D),e[7]?=some (dn)->∀(E:Ent) (g:Gh) (a_2:Act) (w:World),FI E g (Azd [some (cDz l a),some [D.v Ams,dn]] (dz l a).own) e a_2 w->∃g',FI E g' (Pu l a) (List.set e 7 (dVs [])) a_2 w)/\Aa PP 8 [Azb 0 0,di (wrap i64 (2+1))] (dz l a) (di (r:Int)) (dz l a1)/\Q (dVs [])/\Q (di (r:Int))/\Q (Alg l a1)/\I0 Ug (length (dz l a).H) (D.dagg ([di 0]++[Azm (1+1) 2 2])) (Azd [some (cDz l a3),some [di 0,Azm 2 2 2],some (Ab [Af (Alz s),Af (Val.mk 0 ts)])] []) [kl GB Akw,Aza 0,kc GB [1,1,1]] (mkE 43 [Ald,(4,D.v (Amc m)),(6,Azb 1 0),(7,dVs []),(8,di (r:Int))]) (Pu l a1)) ?_
 have w3:wrap i64 (2+1)=3:=by decide
 rw[w3]
 exact⟨fun e he=>Ahc e he,p4,rfl,rfl,rfl,⟨hrn⟩⟩
abbrev dl2:List (List UInt8):=[[114],[115]]
def mkT(nm:List UInt8)(f t:Int)(tk:List Tk)(mk:List Int):Rul:=⟨nm,f,t,[],[],[],0,0,0,[],[],tk,mk,0⟩
abbrev cTm(S Pl:List (List UInt8))(ag:Int)(rs:List Rul):List D:=[di 5,.v (vSs S),.v (vSs Pl),.v .nils,.v .nils,di 0,di ag,.acc 2 (rs.map Ak),di 0,.v .nils]
abbrev UZ(l:List UInt8)(a:Nat)(S Pl:List (List UInt8))(ag:Int)(rs:List Rul):St:=⟨[some (cDz l a),some zM,some (cTm S Pl ag rs)],[(2,14,rs.map Ak)]⟩
structure Ps(ns np:Nat)(ag:Int)(k:Nat)(r:Rul):Prop where
 name:dl2[k]?=some r.name
 frm:0<=r.frm/\r.frm<ns
 to:0<=r.to/\r.to<ns
 takes:r.takes=[]∨∃p lo hi:Int,(0<=p/\p<np)/\(0<=lo/\lo<=hi/\hi<=ag+1)/\r.takes=[⟨p,lo,hi⟩]
 makes:r.makes=[]∨∃p:Int,(0<=p/\p<np)/\r.makes=[p]
 rest:r=mkT r.name r.frm r.to r.takes r.makes
structure BR(m:Mod):Prop where
 kind:m.kind=5
 states:m.states=[[97]]∨m.states=[[97],[98]]
 places:m.places=[[120]]∨m.places=[[120],[121]]
 letters:m.letters=[]
 ranks:m.ranks=[]
 levels:m.levels=0
 age:0<=m.age/\m.age<=1
 count:m.rules.length<=2
 rules:∀k r,m.rules[k]?=some r->Ps m.states.length m.places.length m.age k r
 start:∃ts:List Val,AbZ m.places.length m.age 2 ts/\m.start=.mk 0 [.mk 0 [],.mk 0 ts]
theorem R5{ns np:Nat}{ag:Int}{rs:List Rul}{k:Nat}{nm:List UInt8}{f t:Int}{tk:List Tk}{mk:List Int}(hnm:dl2[k]?=some nm)(hf:0<=f/\f<ns)(ht:0<=t/\t<ns)(h1:tk=[]∨∃p lo hi:Int,(0<=p/\p<np)/\(0<=lo/\lo<=hi/\hi<=ag+1)/\tk=[⟨p,lo,hi⟩])(h2:mk=[]∨∃p:Int,(0<=p/\p<np)/\mk=[p])(hrs:rs.length=k)(hR:∀i r,rs[i]?=some r->Ps ns np ag i r):∀i r,(rs++[mkT nm f t tk mk])[i]?=some r->Ps ns np ag i r:=fun i r hi=>by
 by_cases hik:i<rs.length
 ·rw[HQ hik] at hi;exact hR i r hi
 ·rw[HN (by omega)] at hi
  have h0:i-rs.length=0:=by
   have:=(H7.1 hi).1
   simp at this;omega
  rw[h0] at hi
  simp at hi;subst hi
  have hik2:i=k:=by omega
  subst hik2
  exact⟨hnm,hf,ht,h1,h2,rfl⟩
noncomputable abbrev Ac5:Func:= Tryz.f21
noncomputable def Ui:Code:=Ac5.body.getD .skip
noncomputable abbrev An3:=fun (a₀:Nat)=>(mkE 94 [Ald,(2,Azb 1 0),(3,Azb 2 0),(4,di (↑(a₀+1):Int))])
noncomputable abbrev Apb:=[kl Ui Akw,Aza 0,kc Ui [1,1,1]]
noncomputable abbrev Aqd:=fun a₀ b₀ c₀ d₀=>(Azg a₀::vi b₀::vi c₀::Azf nV::Azf nV::Azf nV::vi 0::vi 0::vi 0::Azf nV::Azf nV::Azf nV::Azf (vi d₀::nV)::vi 0::nV)
theorem Zc(l:List UInt8)(hl:l.length<=200)(S Pl:List (List UInt8))(ag:Int)(hS:S=[[97]]∨S=[[97],[98]])(hP:Pl=[[120]]∨Pl=[[120],[121]])(hag:0<=ag/\ag<=1)(n:Nat):∀(k a:Nat) (rs:List Rul),2-k=n->a<=l.length->k<=2->rs.length=k->(∀i r,rs[i]?=some r->Ps S.length Pl.length ag i r)->
  ∃(m:Mod) (a':Nat),BR m/\a'<=l.length/\Rn PP Ac5 1 (Ag m) (dz l a') ([.lp (sub Ui [1,1,0,1,0,0]),.blk 0,.code (sub Ui [1,1,1])]++[]) (mkE 94 [(0,.ptr 0 0),(2,.ptr 1 0),(3,.ptr 2 0),(4,di k)]) (UZ l a S Pl ag rs):=by
 induction n using Nat.strongRecOn with
 |_ n ih=>
 intro k a rs hn ha hk2 hrs hR
 have hSl:1<=S.length/\S.length<=2:=by rcases hS with rfl|rfl<;>decide
 have hPl:1<=Pl.length/\Pl.length<=2:=by rcases hP with rfl|rfl<;>decide
 have hSm:((S.map V.str).length:Int)=(S.length:Int):=by rw[H3]
 have hPm:((Pl.map V.str).length:Int)=(Pl.length:Int):=by rw[H3]
 have wag:wrap i64 (ag+2)=ag+2:=Al (by omega) (by omega)
 obtain⟨r,a1,h1,h2,h3,h4⟩:=Ax l hl a ha 2 (by decide) (by decide)
 by_cases hk:(k:Int)<1+r
 ·obtain⟨f,a2,f1,f2,f3,f4⟩:=Ax l hl a1 h3 S.length (by omega) (by omega)
  obtain⟨t,a3,t1,t2,t3,t4⟩:=Ax l hl a2 f3 S.length (by omega) (by omega)
  obtain⟨nm,hnm⟩:∃nm,dl2[k]?=some nm:=⟨_,H4 (show k<dl2.length by show k<2;omega)⟩
  have hkr:decide ((k:Int)<wrap i64 (1+r))=true:=by rw[Al (by omega) (by omega)];exact H6 hk
  obtain⟨u,a4,u1,u2,u3,u4⟩:=Ax l hl a3 t3 2 (by decide) (by decide)
  by_cases hu:(u==0)=true
  ·obtain⟨lo,a5,lo1,lo2,lo3,lo4⟩:=Ax l hl a4 u3 (ag+2) (by omega) (by omega)
   obtain⟨p,a6,p1,p2,p3,p4⟩:=Ax l hl a5 lo3 Pl.length (by omega) (by omega)
   obtain⟨hi,a7,hi1,hi2,hi3,hi4⟩:=Ax l hl a6 p3 (ag+2-lo) (by omega) (by omega)
   obtain⟨x,a8,x1,x2,x3,x4⟩:=Ax l hl a7 hi3 2 (by decide) (by decide)
   have wlo:wrap i64 (ag+2-lo)=ag+2-lo:=Al (by omega) (by omega)
   have whi:wrap i64 (lo+hi)=lo+hi:=Al (by omega) (by omega)
   have htk:([⟨p,lo,lo+hi⟩]:List Tk)=[]∨∃p' lo' hi':Int,(0<=p'/\p'<Pl.length)/\(0<=lo'/\lo'<=hi'/\hi'<=ag+1)/\([⟨p,lo,lo+hi⟩]:List Tk)=[⟨p',lo',hi'⟩]:=.inr ⟨p,lo,lo+hi,⟨p1,p2⟩,⟨lo1,by omega,by omega⟩,rfl⟩
   by_cases hx:(x==0)=true
   ·obtain⟨q,a9,q1,q2,q3,q4⟩:=Ax l hl a8 x3 Pl.length (by omega) (by omega)
    obtain⟨m,a',m1,m2,m3⟩:=ih (2- (k+1)) (by omega) (k+1) a9 (rs++[mkT nm f t [⟨p,lo,lo+hi⟩] [q]]) rfl q3 (by omega) (by simp[hrs]) (R5 hnm ⟨f1,f2⟩ ⟨t1,t2⟩ htk (.inr ⟨q,⟨q1,q2⟩,rfl⟩) hrs hR)
    refine⟨m,a',m1,m2,?_⟩
    refine lv 94 [] (.c1 (cDz l a1) (di r)<|.t<|.h (.dr 15)<|.x (.str nm)<|.c1 (cDz l a2) (di f)<|.c1 (cDz l a3) (di t)<|.c1 (cDz l a4) (di u)<|.t<|.c1 (cDz l a5) (di lo)<|.c1 (cDz l a6) (di p)<|.c1 (cDz l a7) (di hi)<|.c1 (cDz l a8) (di x)<|.t<|.c1 (cDz l a9) (di q)<|.ls [ke 0,ke 2,ke 3,ch 4 (di (k+1:Nat))] (UZ l a9 S Pl ag (rs++[mkT nm f t [⟨p,lo,lo+hi⟩] [q]]))) (Aa PP 8 [Azb 0 0,di 2] (dz l a) (di r) (dz l a1)/\decide ((k:Int)<wrap i64 (1+r))=true/\0<=(k:Int)/\[Azg (Aze #[114]).data.toList,Azg (Aze #[115]).data.toList][Int.toNat (k:Int)]?=some (Azg nm)/\Aa PP 8 [Azb 0 0,di (length (map Azg S):Int)] (dz l a1) (di f) (dz l a2)/\Aa PP 8 [Azb 0 0,di (length (map Azg S):Int)] (dz l a1) (di f) (dz l a2)/\Q (di f)/\Aa PP 8 [Azb 0 0,di (length (map Azg S):Int)] (dz l a2) (di t) (dz l a3)/\Aa PP 8 [Azb 0 0,di (length (map Azg S):Int)] (dz l a2) (di t) (dz l a3)/\Q (di t)/\Q [Azd [some (cDz l a1),some zM,some (cTm S Pl ag rs),some zRl] [(2,14,map Ak rs)],Azd [some (cDz l a2),some zM,some (cTm S Pl ag rs),some zRl] [(2,14,map Ak rs)],Azd [some (cDz l a3),some zM,some (cTm S Pl ag rs),some zRl] [(2,14,map Ak rs)]]/\((Q (some [D.v (vSs S)])/\Q (some [D.v (vSs S)])/\Q (some [D.v (vSs S)])/\Q (some [D.v (vSs S)])/\Q (some [D.v (vSs S)])/\Q (some [D.v (vSs S)])/\Q (some [D.v (vSs S)])/\True)/\(Q (some [D.v (vSs S)])/\Q (some [D.v (vSs S)])/\Q (some [D.v (vSs S)])/\Q (some [D.v (vSs S)])/\Q (some [D.v (vSs S)])/\Q (some [D.v (vSs S)])/\Q (some [D.v (vSs S)])/\True)/\True)/\Aa PP 8 [Azb 0 0,di 2] (dz l a3) (di u) (dz l a4)/\(u==0)=true/\Aa PP 8 [Azb 0 0,di (wrap i64 (ag+2))] (dz l a4) (di lo) (dz l a5)/\Aa PP 8 [Azb 0 0,di (length (map Azg Pl):Int)] (dz l a5) (di p) (dz l a6)/\Aa PP 8 [Azb 0 0,di (wrap i64 (wrap i64 (ag+2)-lo))] (dz l a6) (di hi) (dz l a7)/\(True/\(Q (some [di ag])/\True)/\True)/\Aa PP 8 [Azb 0 0,di 2] (dz l a7) (di x) (dz l a8)/\(x==0)=true/\Aa PP 8 [Azb 0 0,di (length (map Azg Pl):Int)] (dz l a8) (di q) (dz l a9)/\Q (map Ak rs)/\Ar (length (map Ak rs)+length (Azh (Azg nm::V.int i64 f::V.int i64 t::Azf nV::Azf nV::Azf nV::V.int i64 0::V.int i64 0::V.int i64 0::Azf nV::Azf nV::Azf (Azh (V.int i64 p::V.int i64 lo::V.int i64 (wrap i64 (lo+hi))::nV)::nV)::Azf (V.int i64 q::nV)::V.int i64 0::nV)::nV)) 232/\di (wrap i64 ((k:Int)+1))=di (↑(k+1):Int)/\[some (cDz l a9),some zM,some [di 5,D.v (vSs S),D.v (vSs Pl),dn,dn,di 0,di ag,Azc 2 (map Ak rs++Azh (Azg nm::vi f::vi t::Azf nV::Azf nV::Azf nV::vi 0::vi 0::vi 0::Azf nV::Azf nV::Azf (Azh (vi p::vi lo::vi (wrap i64 (lo+hi))::nV)::nV)::Azf (vi q::nV)::vi 0::nV)::nV),di 0,dn]]=[some (cDz l a9),some zM,some (cTm S Pl ag (rs++[mkT nm f t [Tk.mk p lo (lo+hi)] [q]]))]/\[(2,14,map Ak rs++Azh (Azg nm::vi f::vi t::Azf nV::Azf nV::Azf nV::vi 0::vi 0::vi 0::Azf nV::Azf nV::Azf (Azh (vi p::vi lo::vi (wrap i64 (lo+hi))::nV)::nV)::Azf (vi q::nV)::vi 0::nV)::nV)]=[(2,14,map Ak (rs++[mkT nm f t [Tk.mk p lo (lo+hi)] [q]]))]/\I0 Ac5 1 (Ag m) (dz l a') [kl Ui [1,1,0,1,0,0],Aza 0,kc Ui [1,1,1]] (mkE 94 [(0,Azb 0 0),(2,Azb 1 0),(3,Azb 2 0),(4,di (↑(k+1):Int))]) (UZ l a9 S Pl ag (rs++[mkT nm f t [Tk.mk p lo (lo+hi)] [q]]))) ?_
    rw[hSm,hPm,wag,wlo,whi]
    repeat' first|with_reducible refine And.intro ?_ ?_
    all_goals first|exact h4|exact hkr|exact f4|exact t4|exact u4|exact lo4|exact p4|exact hi4|exact hu|exact hx|exact x4|exact q4|  exact Cm hnm|exact⟨m3⟩|exact Ad (by omega)|omega|rfl|trivial|skip
    all_goals first|exact HR (fun z=>[some (cDz l a9),some zM,some [di 5,.v (vSs S),.v (vSs Pl),.v .nils,.v .nils,di 0,di ag,.acc 2 z,di 0,.v .nils]]) (AL rs (mkT nm f t [⟨p,lo,lo+hi⟩] [q]))|exact HR (fun z=>[(2,14,z)]) (AL rs (mkT nm f t [⟨p,lo,lo+hi⟩] [q]))|(simp only[H3,H9,HD];omega)
   ·have hx:(x==0)=false:=by simpa using hx
    obtain⟨m,a',m1,m2,m3⟩:=ih (2- (k+1)) (by omega) (k+1) a8 (rs++[mkT nm f t [⟨p,lo,lo+hi⟩] []]) rfl x3 (by omega) (by simp[hrs]) (R5 hnm ⟨f1,f2⟩ ⟨t1,t2⟩ htk (.inl rfl) hrs hR)
    refine⟨m,a',m1,m2,?_⟩
    refine lv 94 [] (.c1 (cDz l a1) (di r)<|.t<|.h (.dr 15)<|.x (.str nm)<|.c1 (cDz l a2) (di f)<|.c1 (cDz l a3) (di t)<|.c1 (cDz l a4) (di u)<|.t<|.c1 (cDz l a5) (di lo)<|.c1 (cDz l a6) (di p)<|.c1 (cDz l a7) (di hi)<|.c1 (cDz l a8) (di x)<|.f<|.ls [ke 0,ke 2,ke 3,ch 4 (di (k+1:Nat))] (UZ l a8 S Pl ag (rs++[mkT nm f t [⟨p,lo,lo+hi⟩] []]))) (Aa PP 8 [Azb 0 0,di 2] (dz l a) (di r) (dz l a1)/\decide ((k:Int)<wrap i64 (1+r))=true/\0<=(k:Int)/\[Azg (Aze #[114]).data.toList,Azg (Aze #[115]).data.toList][Int.toNat (k:Int)]?=some (Azg nm)/\Aa PP 8 [Azb 0 0,di (length (map Azg S):Int)] (dz l a1) (di f) (dz l a2)/\Aa PP 8 [Azb 0 0,di (length (map Azg S):Int)] (dz l a1) (di f) (dz l a2)/\Q (di f)/\Aa PP 8 [Azb 0 0,di (length (map Azg S):Int)] (dz l a2) (di t) (dz l a3)/\Aa PP 8 [Azb 0 0,di (length (map Azg S):Int)] (dz l a2) (di t) (dz l a3)/\Q (di t)/\Q [Azd [some (cDz l a1),some zM,some (cTm S Pl ag rs),some zRl] [(2,14,map Ak rs)],Azd [some (cDz l a2),some zM,some (cTm S Pl ag rs),some zRl] [(2,14,map Ak rs)],Azd [some (cDz l a3),some zM,some (cTm S Pl ag rs),some zRl] [(2,14,map Ak rs)]]/\((Q (some [D.v (vSs S)])/\Q (some [D.v (vSs S)])/\Q (some [D.v (vSs S)])/\Q (some [D.v (vSs S)])/\Q (some [D.v (vSs S)])/\Q (some [D.v (vSs S)])/\Q (some [D.v (vSs S)])/\True)/\(Q (some [D.v (vSs S)])/\Q (some [D.v (vSs S)])/\Q (some [D.v (vSs S)])/\Q (some [D.v (vSs S)])/\Q (some [D.v (vSs S)])/\Q (some [D.v (vSs S)])/\Q (some [D.v (vSs S)])/\True)/\True)/\Aa PP 8 [Azb 0 0,di 2] (dz l a3) (di u) (dz l a4)/\(u==0)=true/\Aa PP 8 [Azb 0 0,di (wrap i64 (ag+2))] (dz l a4) (di lo) (dz l a5)/\Aa PP 8 [Azb 0 0,di (length (map Azg Pl):Int)] (dz l a5) (di p) (dz l a6)/\Aa PP 8 [Azb 0 0,di (wrap i64 (wrap i64 (ag+2)-lo))] (dz l a6) (di hi) (dz l a7)/\(True/\(Q (some [di ag])/\True)/\True)/\Aa PP 8 [Azb 0 0,di 2] (dz l a7) (di x) (dz l a8)/\(x==0)=false/\Q (map Ak rs)/\Ar (length (map Ak rs)+length (Azh (Azg nm::V.int i64 f::V.int i64 t::Azf nV::Azf nV::Azf nV::V.int i64 0::V.int i64 0::V.int i64 0::Azf nV::Azf nV::Azf (Azh (V.int i64 p::V.int i64 lo::V.int i64 (wrap i64 (lo+hi))::nV)::nV)::Azf nV::V.int i64 0::nV)::nV)) 232/\di (wrap i64 ((k:Int)+1))=di (↑(k+1):Int)/\[some (cDz l a8),some zM,some [di 5,D.v (vSs S),D.v (vSs Pl),dn,dn,di 0,di ag,Azc 2 (map Ak rs++Azh (Azg nm::vi f::vi t::Azf nV::Azf nV::Azf nV::vi 0::vi 0::vi 0::Azf nV::Azf nV::Azf (Azh (vi p::vi lo::vi (wrap i64 (lo+hi))::nV)::nV)::Azf nV::vi 0::nV)::nV),di 0,dn]]=[some (cDz l a8),some zM,some (cTm S Pl ag (rs++[mkT nm f t [Tk.mk p lo (lo+hi)] []]))]/\[(2,14,map Ak rs++Azh (Azg nm::vi f::vi t::Azf nV::Azf nV::Azf nV::vi 0::vi 0::vi 0::Azf nV::Azf nV::Azf (Azh (vi p::vi lo::vi (wrap i64 (lo+hi))::nV)::nV)::Azf nV::vi 0::nV)::nV)]=[(2,14,map Ak (rs++[mkT nm f t [Tk.mk p lo (lo+hi)] []]))]/\I0 Ac5 1 (Ag m) (dz l a') [kl Ui [1,1,0,1,0,0],Aza 0,kc Ui [1,1,1]] (mkE 94 [(0,Azb 0 0),(2,Azb 1 0),(3,Azb 2 0),(4,di (↑(k+1):Int))]) (UZ l a8 S Pl ag (rs++[mkT nm f t [Tk.mk p lo (lo+hi)] []]))) ?_
    rw[hSm,hPm,wag,wlo,whi]
    repeat' first|with_reducible refine And.intro ?_ ?_
    all_goals first|exact h4|exact hkr|exact f4|exact t4|exact u4|exact lo4|exact p4|exact hi4|exact hu|exact hx|exact x4|  exact Cm hnm|exact⟨m3⟩|exact Ad (by omega)|omega|rfl|trivial|skip
    all_goals first|exact HR (fun z=>[some (cDz l a8),some zM,some [di 5,.v (vSs S),.v (vSs Pl),.v .nils,.v .nils,di 0,di ag,.acc 2 z,di 0,.v .nils]]) (AL rs (mkT nm f t [⟨p,lo,lo+hi⟩] []))|exact HR (fun z=>[(2,14,z)]) (AL rs (mkT nm f t [⟨p,lo,lo+hi⟩] []))|(simp only[H3,H9,HD];omega)
  ·have hu:(u==0)=false:=by simpa using hu
   obtain⟨x,a8,x1,x2,x3,x4⟩:=Ax l hl a4 u3 2 (by decide) (by decide)
   by_cases hx:(x==0)=true
   ·obtain⟨q,a9,q1,q2,q3,q4⟩:=Ax l hl a8 x3 Pl.length (by omega) (by omega)
    obtain⟨m,a',m1,m2,m3⟩:=ih (2- (k+1)) (by omega) (k+1) a9 (rs++[mkT nm f t [] [q]]) rfl q3 (by omega) (by simp[hrs]) (R5 hnm ⟨f1,f2⟩ ⟨t1,t2⟩ (.inl rfl) (.inr ⟨q,⟨q1,q2⟩,rfl⟩) hrs hR)
    refine⟨m,a',m1,m2,?_⟩
    refine lv 94 [] (.c1 (cDz l a1) (di r)<|.t<|.h (.dr 15)<|.x (.str nm)<|.c1 (cDz l a2) (di f)<|.c1 (cDz l a3) (di t)<|.c1 (cDz l a4) (di u)<|.f<|.c1 (cDz l a8) (di x)<|.t<|.c1 (cDz l a9) (di q)<|.ls [ke 0,ke 2,ke 3,ch 4 (di (k+1:Nat))] (UZ l a9 S Pl ag (rs++[mkT nm f t [] [q]]))) (Aa PP 8 [Azb 0 0,di 2] (dz l a) (di r) (dz l a1)/\decide ((k:Int)<wrap i64 (1+r))=true/\0<=(k:Int)/\[Azg (Aze #[114]).data.toList,Azg (Aze #[115]).data.toList][Int.toNat (k:Int)]?=some (Azg nm)/\Aa PP 8 [Azb 0 0,di (length (map Azg S):Int)] (dz l a1) (di f) (dz l a2)/\Aa PP 8 [Azb 0 0,di (length (map Azg S):Int)] (dz l a1) (di f) (dz l a2)/\Q (di f)/\Aa PP 8 [Azb 0 0,di (length (map Azg S):Int)] (dz l a2) (di t) (dz l a3)/\Aa PP 8 [Azb 0 0,di (length (map Azg S):Int)] (dz l a2) (di t) (dz l a3)/\Q (di t)/\Q [Azd [some (cDz l a1),some zM,some (cTm S Pl ag rs),some zRl] [(2,14,map Ak rs)],Azd [some (cDz l a2),some zM,some (cTm S Pl ag rs),some zRl] [(2,14,map Ak rs)],Azd [some (cDz l a3),some zM,some (cTm S Pl ag rs),some zRl] [(2,14,map Ak rs)]]/\((Q (some [D.v (vSs S)])/\Q (some [D.v (vSs S)])/\Q (some [D.v (vSs S)])/\Q (some [D.v (vSs S)])/\Q (some [D.v (vSs S)])/\Q (some [D.v (vSs S)])/\Q (some [D.v (vSs S)])/\True)/\(Q (some [D.v (vSs S)])/\Q (some [D.v (vSs S)])/\Q (some [D.v (vSs S)])/\Q (some [D.v (vSs S)])/\Q (some [D.v (vSs S)])/\Q (some [D.v (vSs S)])/\Q (some [D.v (vSs S)])/\True)/\True)/\Aa PP 8 [Azb 0 0,di 2] (dz l a3) (di u) (dz l a4)/\(u==0)=false/\Aa PP 8 [Azb 0 0,di 2] (dz l a4) (di x) (dz l a8)/\(x==0)=true/\Aa PP 8 [Azb 0 0,di (length (map Azg Pl):Int)] (dz l a8) (di q) (dz l a9)/\Q (map Ak rs)/\Ar (length (map Ak rs)+length (Azh (Azg nm::V.int i64 f::V.int i64 t::Azf nV::Azf nV::Azf nV::V.int i64 0::V.int i64 0::V.int i64 0::Azf nV::Azf nV::Azf nV::Azf (V.int i64 q::nV)::V.int i64 0::nV)::nV)) 232/\di (wrap i64 ((k:Int)+1))=di (↑(k+1):Int)/\[some (cDz l a9),some zM,some [di 5,D.v (vSs S),D.v (vSs Pl),dn,dn,di 0,di ag,Azc 2 (map Ak rs++Azh (Azg nm::vi f::vi t::Azf nV::Azf nV::Azf nV::vi 0::vi 0::vi 0::Azf nV::Azf nV::Azf nV::Azf (vi q::nV)::vi 0::nV)::nV),di 0,dn]]=[some (cDz l a9),some zM,some (cTm S Pl ag (rs++[mkT nm f t [] [q]]))]/\[(2,14,map Ak rs++Azh (Azg nm::vi f::vi t::Azf nV::Azf nV::Azf nV::vi 0::vi 0::vi 0::Azf nV::Azf nV::Azf nV::Azf (vi q::nV)::vi 0::nV)::nV)]=[(2,14,map Ak (rs++[mkT nm f t [] [q]]))]/\I0 Ac5 1 (Ag m) (dz l a') [kl Ui [1,1,0,1,0,0],Aza 0,kc Ui [1,1,1]] (mkE 94 [(0,Azb 0 0),(2,Azb 1 0),(3,Azb 2 0),(4,di (↑(k+1):Int))]) (UZ l a9 S Pl ag (rs++[mkT nm f t [] [q]]))) ?_
    rw[hSm,hPm]
    repeat' first|with_reducible refine And.intro ?_ ?_
    all_goals first|exact h4|exact hkr|exact f4|exact t4|exact u4|exact hu|exact hx|exact x4|exact q4|  exact Cm hnm|exact⟨m3⟩|exact Ad (by omega)|omega|rfl|trivial|skip
    all_goals first|exact HR (fun z=>[some (cDz l a9),some zM,some [di 5,.v (vSs S),.v (vSs Pl),.v .nils,.v .nils,di 0,di ag,.acc 2 z,di 0,.v .nils]]) (AL rs (mkT nm f t [] [q]))|exact HR (fun z=>[(2,14,z)]) (AL rs (mkT nm f t [] [q]))|(simp only[H3,H9,HD];omega)
   ·have hx:(x==0)=false:=by simpa using hx
    obtain⟨m,a',m1,m2,m3⟩:=ih (2- (k+1)) (by omega) (k+1) a8 (rs++[mkT nm f t [] []]) rfl x3 (by omega) (by simp[hrs]) (R5 hnm ⟨f1,f2⟩ ⟨t1,t2⟩ (.inl rfl) (.inl rfl) hrs hR)
    refine⟨m,a',m1,m2,?_⟩
    refine lv 94 [] (.c1 (cDz l a1) (di r)<|.t<|.h (.dr 15)<|.x (.str nm)<|.c1 (cDz l a2) (di f)<|.c1 (cDz l a3) (di t)<|.c1 (cDz l a4) (di u)<|.f<|.c1 (cDz l a8) (di x)<|.f<|.ls [ke 0,ke 2,ke 3,ch 4 (di (k+1:Nat))] (UZ l a8 S Pl ag (rs++[mkT nm f t [] []]))) (Aa PP 8 [Azb 0 0,di 2] (dz l a) (di r) (dz l a1)/\decide ((k:Int)<wrap i64 (1+r))=true/\0<=(k:Int)/\[Azg (Aze #[114]).data.toList,Azg (Aze #[115]).data.toList][Int.toNat (k:Int)]?=some (Azg nm)/\Aa PP 8 [Azb 0 0,di (length (map Azg S):Int)] (dz l a1) (di f) (dz l a2)/\Aa PP 8 [Azb 0 0,di (length (map Azg S):Int)] (dz l a1) (di f) (dz l a2)/\Q (di f)/\Aa PP 8 [Azb 0 0,di (length (map Azg S):Int)] (dz l a2) (di t) (dz l a3)/\Aa PP 8 [Azb 0 0,di (length (map Azg S):Int)] (dz l a2) (di t) (dz l a3)/\Q (di t)/\Q [Azd [some (cDz l a1),some zM,some (cTm S Pl ag rs),some zRl] [(2,14,map Ak rs)],Azd [some (cDz l a2),some zM,some (cTm S Pl ag rs),some zRl] [(2,14,map Ak rs)],Azd [some (cDz l a3),some zM,some (cTm S Pl ag rs),some zRl] [(2,14,map Ak rs)]]/\((Q (some [D.v (vSs S)])/\Q (some [D.v (vSs S)])/\Q (some [D.v (vSs S)])/\Q (some [D.v (vSs S)])/\Q (some [D.v (vSs S)])/\Q (some [D.v (vSs S)])/\Q (some [D.v (vSs S)])/\True)/\(Q (some [D.v (vSs S)])/\Q (some [D.v (vSs S)])/\Q (some [D.v (vSs S)])/\Q (some [D.v (vSs S)])/\Q (some [D.v (vSs S)])/\Q (some [D.v (vSs S)])/\Q (some [D.v (vSs S)])/\True)/\True)/\Aa PP 8 [Azb 0 0,di 2] (dz l a3) (di u) (dz l a4)/\(u==0)=false/\Aa PP 8 [Azb 0 0,di 2] (dz l a4) (di x) (dz l a8)/\(x==0)=false/\Q (map Ak rs)/\Ar (length (map Ak rs)+length (Azh (Azg nm::V.int i64 f::V.int i64 t::Azf nV::Azf nV::Azf nV::V.int i64 0::V.int i64 0::V.int i64 0::Azf nV::Azf nV::Azf nV::Azf nV::V.int i64 0::nV)::nV)) 232/\di (wrap i64 ((k:Int)+1))=di (↑(k+1):Int)/\[some (cDz l a8),some zM,some [di 5,D.v (vSs S),D.v (vSs Pl),dn,dn,di 0,di ag,Azc 2 (map Ak rs++Azh (Azg nm::vi f::vi t::Azf nV::Azf nV::Azf nV::vi 0::vi 0::vi 0::Azf nV::Azf nV::Azf nV::Azf nV::vi 0::nV)::nV),di 0,dn]]=[some (cDz l a8),some zM,some (cTm S Pl ag (rs++[mkT nm f t [] []]))]/\[(2,14,map Ak rs++Azh (Azg nm::vi f::vi t::Azf nV::Azf nV::Azf nV::vi 0::vi 0::vi 0::Azf nV::Azf nV::Azf nV::Azf nV::vi 0::nV)::nV)]=[(2,14,map Ak (rs++[mkT nm f t [] []]))]/\I0 Ac5 1 (Ag m) (dz l a') [kl Ui [1,1,0,1,0,0],Aza 0,kc Ui [1,1,1]] (mkE 94 [(0,Azb 0 0),(2,Azb 1 0),(3,Azb 2 0),(4,di (↑(k+1):Int))]) (UZ l a8 S Pl ag (rs++[mkT nm f t [] []]))) ?_
    rw[hSm]
    repeat' first|with_reducible refine And.intro ?_ ?_
    all_goals first|exact h4|exact hkr|exact f4|exact t4|exact u4|exact hu|exact hx|exact x4|  exact Cm hnm|exact⟨m3⟩|exact Ad (by omega)|omega|rfl|trivial|skip
    all_goals first|exact HR (fun z=>[some (cDz l a8),some zM,some [di 5,.v (vSs S),.v (vSs Pl),.v .nils,.v .nils,di 0,di ag,.acc 2 z,di 0,.v .nils]]) (AL rs (mkT nm f t [] []))|exact HR (fun z=>[(2,14,z)]) (AL rs (mkT nm f t [] []))|(simp only[H3,H9,HD];omega)
 ·obtain⟨m0',hm0⟩:∃m0':Mod,m0'=⟨5,S,Pl,[],[],0,ag,rs,.mk 0 []⟩:=⟨_,rfl⟩
  obtain⟨s,ts,a2,s1,s2,s3,s4⟩:=Aep l hl m0' (by rw[hm0];show 1<=S.length/\S.length<=3;omega) (by rw[hm0];exact hPl) (by rw[hm0];show 0<=ag/\ag<=3;omega) a1 h3
  refine⟨⟨5,S,Pl,[],[],0,ag,rs,.mk 0 [.mk 0 [],.mk 0 ts]⟩,a2,⟨rfl,hS,hP,rfl,rfl,rfl,hag,by show rs.length<=2;omega,hR,ts,by rw[hm0] at s2;exact s2,rfl⟩,s3,?_⟩
  refine lv 94 [] (.c1 (cDz l a1) (di r)<|.f<|.h (.oc (.dagg [di 0,.arr 3 0 2]) ⟨[some (cDz l a2),some zM,some (cTm S Pl ag rs),some [di s,dVs [],di 0,dVs ts]],[(2,14,rs.map Ak)]⟩)<|.h .ww<|.m (.arr 3 0 2)<|.h (.q 14 0)<|.h (.cs ⟨[some (cDz l a2),some zM,some [di 5,.v (vSs S),.v (vSs Pl),.v .nils,.v .nils,di 0,di ag,.acc 2 (rs.map Ak),di 0,.v (.list [Af (.mk 0 []),Af (.mk 0 ts)])],none],[(2,14,rs.map Ak)]⟩) .r) (Aa PP 8 [Azb 0 0,di 2] (dz l a) (di r) (dz l a1)/\decide ((k:Int)<wrap i64 (1+r))=false/\(∀(o:Oper) (c:Call) (fo:Operand),o.op=Op.call c->c.callee=Callee.value fo->Ah PP o [D.v (Azl 51 [] []),Azb 0 0,D.v (Azh [vi 5,vSs S,vSs Pl,V.nils,V.nils,vi 0,vi ag,Azf (map Ak rs),vi 0,V.nils]),di 2] (Azd [some (cDz l a1),some zM,some (cTm S Pl ag rs)] [(2,14,map Ak rs)]) (D.dagg [di 0,Azi 3 0 2]) (Azd [some (cDz l a2),some zM,some (cTm S Pl ag rs),some [di s,dVs [],di 0,dVs ts]] [(2,14,map Ak rs)]))/\10<=10/\Q (some (Azi 3 0 2))/\iz 0<=0/\0<(↑2:Int)/\(∀(e:List D) (E:Ent) (g:Gh) (a:Act) (w:World),FI E g (Azd [some (cDz l a2),some zM,some (take (Nat.add 0 8) (cTm S Pl ag rs)++BQ (D.dagg [di 0,Azi 3 0 2])++List.drop (Nat.add 0 8+2) (cTm S Pl ag rs)),some [evN [(0,Azb 0 0).snd,Azj,(2,Azb 1 0).snd,(3,Azb 2 0).snd,(4,di (k:Int)).snd,Azj,Azj,Azj,Azj,Azj,Azj,Azj,Azj,Azj,Azj,Azj,Azj,Azj,Azj,Azj,(4,di (k:Int)).snd,(0,Azb 0 0).snd,di r,D.v (V.int i64 (wrap i64 (1+r))),D.v (Azk false),Azj,Azj,Azj,Azj,Azj,Azj,Azj,Azj,Azj,Azj,Azj,Azj,Azj,Azj,Azj,Azj,Azj,Azj,Azj,Azj,Azj,Azj,Azj,Azj,Azj,Azj,Azj,Azj,Azj,Azj,Azj,Azj,Azj,Azj,Azj,Azj,Azj,Azj,Azj,Azj,Azj,Azj,Azj,Azj,Azj,Azj,Azj,Azj,Azj,Azj,Azj,Azj,Azj,Azj,Azj,Azj,Azj,Azj,Azj,(0,Azb 0 0).snd,D.v (Azh [V.int i64 5,vSs S,vSs Pl,V.nils,V.nils,V.int i64 0,V.int i64 ag,Azf (map Ak rs),V.int i64 0,V.nils]),D.dagg [di 0,Azi 3 0 2],Azb 2 (Nat.add 0 8),Azb 2 (Nat.add 0 8),Azb 2 (Nat.add (Nat.add 0 8) 1),Azi 3 0 2,Azb 3 (0+Int.toNat 0*2),Azb 3 (Nat.add (0+Int.toNat 0*2) 0),Azj] (Operand.const (Value.int i64 0)),dVs [],di 0,dVs ts]] [(2,14,map Ak rs)]) e a w->∃g',FI E g' (Azd [some (cDz l a2),some zM,some [di 5,D.v (vSs S),D.v (vSs Pl),dn,dn,di 0,di ag,Azc 2 (map Ak rs),di 0,D.v (Azf [Af (Val.mk 0 []),Af (Val.mk 0 ts)])],none] [(2,14,map Ak rs)]) e a w)/\Q [some (cDz l a2)]/\D.v (Azh [vi 5,Azf (map Azg S),Azf (map Azg Pl),Azf [],Azf [],vi 0,vi ag,Azf (map Ak rs),vi 0,Azf [Af (Val.mk 0 []),Af (Val.mk 0 ts)]])=Ag (Mod.mk 5 S Pl [] [] 0 ag rs (Val.mk 0 [Val.mk 0 [],Val.mk 0 ts]))) ?_
  refine⟨h4,H8 (by rw[Al (by omega) (by omega)];exact hk),fun o c fo ho hc=>?_,by decide,rfl,by decide,by decide,?_,rfl,?_⟩
  ·refine B3 (ds':=[.v (.fn 51 [] []),.ptr 0 0,Ag m0',di 2]) (fun g us h=>by rw[hm0];exact Ds (ts:=[]) (kn:=false) h) ?_
   have h:=CT (σ:=⟨[some (cDz l a1),some zM,some (cTm S Pl ag rs)],[(2,14,rs.map Ak)]⟩) ho hc (fD:=.v (.fn 51 [] [])) rfl (ds:=[.ptr 0 0,Ag m0',di 2]) [0] id s4 (.cons (.ren (dc:=.ptr 0 0) rfl) (.cons (.ren (dc:=Ag m0') rfl) (.cons (.ren (dc:=di 2) rfl) .nil)))
    (.cons rfl (.cons (.ren (dc:=.v (vBs l)) rfl) (.cons (.ren (dc:=di a1) rfl) .nil)) (by rfl) .nil) (by simp) rfl (by simp) (by simp) (by simp[D.okN,D.okNs]) (by simp[okH,D.okNs,D.okN])
   simp[Gi,CM,Gg,D.ren,D.rens,rho] at h
   exact h
  ·intro e
   exact Hf (σ:=⟨[some (cDz l a2),some zM,some [di 5,.v (vSs S),.v (vSs Pl),.v .nils,.v .nils,di 0,di ag,.acc 2 (rs.map Ak),di 0,.arr 3 0 2],some (Ab [Af (.mk 0 []),Af (.mk 0 ts)])],[(2,14,rs.map Ak)]⟩) (p:=2) (q:=3) (i:=9) (sz:=2) (cs:=[di 5,.v (vSs S),.v (vSs Pl),.v .nils,.v .nils,di 0,di ag,.acc 2 (rs.map Ak),di 0,.arr 3 0 2]) (xs:=[Af (.mk 0 []),Af (.mk 0 ts)]) (by decide) rfl rfl (by decide) rfl (fun x hx=>by simp at hx;rcases hx with rfl|rfl<;>rfl) e
  ·show D.v (V.agg [vi 5,vSs S,vSs Pl,vSs [],vIs [],vi 0,vi ag,CJ rs,vi 0,V.list [Af (.mk 0 []),Af (.mk 0 ts)]])=_
   rw[←Bz, ←Bz];rfl
theorem Afv(l:List UInt8)(hl:l.length<=200)(a:Nat)(ha:a<=l.length):
  ∃(m:Mod) (a':Nat),BR m/\a'<=l.length/\Aa PP 21 [.ptr 0 0] (dz l a) (Ag m) (dz l a'):=by
 obtain⟨r1,a1,p1,p2,p3,p4⟩:=Ax l hl a ha 2 (by decide) (by decide)
 obtain⟨r2,a2,q1,q2,q3,q4⟩:=Ax l hl a1 p3 2 (by decide) (by decide)
 obtain⟨ag,a3,u1,u2,u3,u4⟩:=Ax l hl a2 q3 2 (by decide) (by decide)
 obtain⟨n1,rfl⟩:∃n:Nat,r1=n:=⟨r1.toNat,by omega⟩
 obtain⟨n2,rfl⟩:∃n:Nat,r2=n:=⟨r2.toNat,by omega⟩
 obtain⟨S,hS⟩:∃S,S=([[97],[98]]:List (List UInt8)).take (1+n1):=⟨_,rfl⟩
 obtain⟨Pl,hPl⟩:∃S,S=([[120],[121]]:List (List UInt8)).take (1+n2):=⟨_,rfl⟩
 have hSx:S=[[97]]∨S=[[97],[98]]:=by
  rcases(show n1=0∨n1=1 by omega) with rfl|rfl
  ·exact .inl hS
  ·exact .inr hS
 have hPx:Pl=[[120]]∨Pl=[[120],[121]]:=by
  rcases(show n2=0∨n2=1 by omega) with rfl|rfl
  ·exact .inl hPl
  ·exact .inr hPl
 obtain⟨m,a',m1,m2,m3⟩:=Zc l hl S Pl ag hSx hPx ⟨u1,by omega⟩ _ 0 a3 [] rfl u3 (by omega) rfl (by simp)
 refine⟨m,a',m1,m2,?_⟩
 refine sv Ac5 94 [] (.h (.dr 13)<|.c1 (cDz l a1) (di n1)<|.c1 (cDz l a2) (di n2)<|.c1 (cDz l a3) (di ag)<|.h .rn<|.h (.q 2 0)<|.h (.cl 2 7 2 14)<|.ls [ke 0,ke 2,ke 3,ch 4 (di (0:Nat))] (UZ l a3 S Pl ag [])) (Aku l a n1 a1/\Aku l a n1 a1/\Q (di (n1:Int))/\(∀(x:V),x∈ Alt->V.size x=1)/\0<=(fun x=>x.snd) (i64,wrap i64 (Ara n1))/\(fun x=>x.snd) (i64,wrap i64 (Ara n1))<=(↑(length Alt):Int)/\Aku l a1 n2 a2/\Aku l a1 n2 a2/\Q (di (n2:Int))/\(∀(x:V),x∈ Akv->V.size x=1)/\0<=(fun x=>x.snd) (i64,wrap i64 (Ara n2))/\(fun x=>x.snd) (i64,wrap i64 (Ara n2))<=(↑(length Akv):Int)/\Akp l a2 ag a3/\Akp l a2 ag a3/\Q (di ag)/\Q [Azd (Ali l a) [],Azd (Ali l a1) [],Azd (Ali l a2) [],Azd (Ali l a3) []]/\True/\di 0=di (↑0:Int)/\[some (cDz l a3),some zMl,some [di 5,D.v (Azf (List.drop 0 (take (Int.toNat ((fun x=>x.snd) (i64,wrap i64 (Ara n1)))) An7))),D.v (Azf (List.drop 0 (take (Int.toNat ((fun x=>x.snd) (i64,wrap i64 (Ara n2)))) Ama))),dn,dn,di 0,di ag,Azc 2 nV,di 0,dn]]=[some (cDz l a3),some zM,some (cTm S Pl ag [])]/\Q [(2,14,nV)]/\I0 Ac5 (length (dz l a).H) (Ag m) (dz l a') Apb (mkE 94 [Ald,(2,Azb 1 0),(3,Azb 2 0),(4,di (↑0:Int))]) (UZ l a3 S Pl ag [])) ?_
 have w1:wrap i64 (1+(n1:Int))=1+n1:=Al (by omega) (by omega)
 have w2:wrap i64 (1+(n2:Int))=1+n2:=Al (by omega) (by omega)
 have z1:∀x∈ [V.str [97],V.str [98]],x.size=1:=by simp[V.size]
 have z2:∀x∈ [V.str [120],V.str [121]],x.size=1:=by simp[V.size]
 have k1:V.list (List.drop 0 (take (1+(n1:Int)).toNat [V.str [97],V.str [98]]))=vSs S:=by
  rw[hS,IW,show(1+(n1:Int)).toNat=1+n1 by omega]
  rcases(show n1=0∨n1=1 by omega) with rfl|rfl<;>rfl
 have k2:V.list (List.drop 0 (take (1+(n2:Int)).toNat [V.str [120],V.str [121]]))=vSs Pl:=by
  rw[hPl,IW,show(1+(n2:Int)).toNat=1+n2 by omega]
  rcases(show n2=0∨n2=1 by omega) with rfl|rfl<;>rfl
 rw[w1,w2]
 refine⟨p4,p4,rfl,z1,by show 0<=1+(n1:Int);omega,by show 1+(n1:Int)<=2;omega,q4,q4,rfl,z2,by show 0<=1+(n2:Int);omega,by show 1+(n2:Int)<=2;omega,u4,u4,rfl,rfl,trivial,rfl,?_,rfl,⟨m3⟩⟩
 show [some (cDz l a3),some zM,some [di 5,.v (V.list (List.drop 0 (take (1+(n1:Int)).toNat [V.str [97],V.str [98]]))),.v (V.list (List.drop 0 (take (1+(n2:Int)).toNat [V.str [120],V.str [121]]))),.v .nils,.v .nils,di 0,di ag,.acc 2 [],di 0,.v .nils]]=_
 rw[k1,k2];rfl
def WN(P:Program)(t:TypeId):Bool:=match P.underlying t with
 |some (.int .i64)=>true
 |_=>false
theorem Ns{P:Program}{t:TypeId}(h:WN P t=true):P.underlying t=some (.int .i64):=by
 unfold WN at h
 split at h
 ·assumption
 ·simp at h
def KL(P:Program)(t:TypeId):Bool:=match (P.fieldsOf t).toList with
 |[f,g,h]=>f.name !="_"&&g.name !="_"&&h.name !="_"&&f.offset==0&&g.offset==1&&h.offset==2&&P.plainKey f.type&&P.plainKey g.type&&P.plainKey h.type&&WN P f.type&&WN P g.type&&WN P h.type
 |_=>false
theorem Adq{P:Program}{t:TypeId}(h2:KL P t=true)(ht:P.underlying t=some (.struct (P.fieldsOf t)))(hp:P.stoodInHeld t=false)(d:Nat)(a b c:Int)(w:World):
  (Op.equalIn (d+2) t (.agg #[.int .i64 a,.int .i64 b,.int .i64 c]) (.agg #[.int .i64 a,.int .i64 b,.int .i64 c])).run P w=.ok true w:=by
 rw[run_equalIn_struct w (d+1) t _ _ ht hp]
 unfold KL at h2
 split at h2
 ·rename_i f g h hfs
  rw[hfs]
  simp only[H5,bne_iff_ne,Ie] at h2
  obtain⟨⟨⟨⟨⟨⟨⟨⟨⟨⟨⟨n1,n2⟩,n3⟩,o1⟩,o2⟩,o3⟩,p1⟩,p2⟩,p3⟩,u1⟩,u2⟩,u3⟩:=h2
  have e1:∀w,(part f.type #[.int .i64 a,.int .i64 b,.int .i64 c] f.offset).run P w=.ok (.int .i64 a) w:=fun w=>run_part_plain w p1 (by rw[o1];rfl)
  have e3:∀w,(part g.type #[.int .i64 a,.int .i64 b,.int .i64 c] g.offset).run P w=.ok (.int .i64 b) w:=fun w=>run_part_plain w p2 (by rw[o2];rfl)
  have e5:∀w,(part h.type #[.int .i64 a,.int .i64 b,.int .i64 c] h.offset).run P w=.ok (.int .i64 c) w:=fun w=>run_part_plain w p3 (by rw[o3];rfl)
  simp only[Op.eqFields,ne_eq,n1,n2,n3,not_false_eq_true,IC,Sem.run_bind,e1,Result.andThen_ok,run_equalIn_int _ d _ .i64 .i64 _ _ (Ns u1)]
  have u2':=fun w=>run_equalIn_int (P:=P) w d g.type .i64 .i64 b b (Ns u2)
  have u3':=fun w=>run_equalIn_int (P:=P) w d h.type .i64 .i64 c c (Ns u3)
  simp[Sem.run_ite,e3,u2',e5,u3']
 ·simp at h2
abbrev tTk:TypeId:=104
theorem Za:KL PP tTk=true:=by kernel_rfl
theorem AhZ:PP.underlying tTk=some (.struct (PP.fieldsOf tTk)):=by kernel_rfl
theorem Adj:PP.stoodInHeld tTk=false:=by kernel_rfl
theorem Zb:PP.eqGuardType PP.depth tTk=false:=by kernel_rfl
theorem Afu:Q6 PP tTk 3:=by unfold Q6;kernel_rfl
theorem ZZ{o:Oper}{σ:St}{ty:TypeId}{x y:Operand}(ho:o.op=.binOp .neq tTk x y ty)(a:Tk):Ah PP o [.v (vTk a),.v (vTk a)] σ (db false) σ:=by
 refine Az fun E g ρ w hw hds=>?_
 simp only[ho,Op.operands,Ao] at hds
 obtain⟨u,v,e,h1,h2'⟩:=hds
 simp only[HU,I1,HH,Ih] at e
 obtain⟨e1,e2⟩:=e
 simp only[Ae,Cr] at h1 h2'
 obtain⟨ws,h1,rfl⟩:=h1
 obtain⟨vs,h3,rfl⟩:=h2'
 have hw1:ws=[.int .i64 a.1,.int .i64 a.2,.int .i64 a.3]:=by
  simp only[repA,repC,HH,Ih] at h1
  obtain⟨u,us,rfl,_,rfl,u2,us2,rfl,_,rfl,u3,us3,rfl,_,rfl,rfl⟩:=h1;rfl
 have hw2:vs=[.int .i64 a.1,.int .i64 a.2,.int .i64 a.3]:=by
  simp only[repA,repC,HH,Ih] at h3
  obtain⟨u,us,rfl,_,rfl,u2,us2,rfl,_,rfl,u3,us3,rfl,_,rfl,rfl⟩:=h3;rfl
 subst hw1 hw2
 refine⟨.bool false,?_,by simp[Ae]⟩
 have hr:=Adq Za AhZ Adj 9998 a.1 a.2 a.3 w
 simp[execOp,ho,e1,e2,run_eqGuard_agg w .neq tTk x y _ _ Zb,run_neq_struct,hr]
theorem AdV(a:Tk):Aa PP 185 [.v (AD [a]),.v (AD [a])] σ0 (db true) σ0:=by
 refine sv Ajt 26 [] (.n<|.x (vTk a)<|.x (vTk a)<|.h (.p (.v (vTk a)))<|.h (.p (db false))<|.n<|.r) (iz 0<=0/\Q (some (vTk a))/\iz 0<=0/\Q (some (vTk a))/\(∀(τ:St),Ah PP (Oper.mk (some 23) (Op.load 104 (Operand.tmp 22)) 104 "slices.go:25" #[Edge.mk 6 Ground.data] none) [D.v (Azo (vTk a))] τ (D.v (vTk a)) τ)/\(∀(τ:St),Ah PP (Oper.mk (some 24) (Op.binOp BinOp.neq 104 (Operand.tmp 19) (Operand.tmp 23) 104) 4 "slices.go:25" #[Edge.mk 3 Ground.data,Edge.mk 7 Ground.data] none) [D.v (vTk a),D.v (vTk a)] τ (db false) τ)/\Q (db true)) ?_
 exact⟨by decide,rfl,by decide,rfl,fun τ=>O5 rfl Afu,fun τ=>ZZ rfl a,rfl⟩
theorem Abf(l:List Tk)(h:l.length<=1):Aa PP 185 [.v (AD l),.v (AD l)] σ0 (db true) σ0:=by
 match l,h with
 |[],_=>exact Xm []
 |[a],_=>exact AdV a
noncomputable abbrev Ajm:Func:= Tryz.f179
theorem Zj(l:List Int)(h:l.length<=1):Aa PP 179 [dIs l] σ0 (db true) σ0:=by
 match l,h with
 |[],_=>
  refine sv Ajm 21 [] (.n<|.r) (Q (db true)) ?_
  rfl
 |[a],_=>
  refine sv Ajm 21 [] (.n<|.r) (Q (db true)) ?_
  rfl
noncomputable abbrev Akg:Func:= Tryz.f180
theorem AbX(n:Nat)(hn:n<=1000000)(x:Int):Aa PP 180 [di x,.v (.ref (vi n))] σ0 (db (Av x 0 (n-1))) σ0:=by
 refine sv Akg 7 [] (.c (db (Av x 0 (n-1))) .r) (F0 131 [di x,di (n:Int)] (db (Av x 0 ((n:Int)-1)))/\Q (db (Av x 0 ((n:Int)-1)))) ?_
 exact⟨CC x n hn,rfl⟩
noncomputable abbrev Akf:Func:= Tryz.f182
theorem Ahz(m:Mod)(hm:m.places.length<=1000000)(hag:0<=m.age/\m.age<=1000)(t:Tk)(h1:0<=t.place/\t.place<m.places.length)(h2:0<=t.low/\t.low<=t.high/\t.high<=m.age+1):Aa PP 182 [.v (vTk t),.v (.ref (vi m.places.length)),.v (.ref (A8 m))] σ0 (db false) σ0:=by
 refine sv Akf 30 [3] (.c (db true)<|.k<|.f<|.f<|.r) (F0 131 [di t.place,di (m.places.length:Int)] (db true)/\decide (t.low<0)=false/\decide (t.low>t.high)=false/\db (decide (t.high>wrap i64 (m.age+1)))=db false) ?_
 have h:=CC t.place m.places.length hm
 rw[show Av t.place 0 ((m.places.length:Int)-1)=true by simp[Av];omega] at h
 refine⟨h,H8 (by omega),H8 (by omega),?_⟩
 rw[Al (by omega) (by omega),H8 (by omega)]
noncomputable abbrev Ag8:Func:= Tryz.f213
noncomputable abbrev AgD:Func:= Tryz.f181
theorem Tr(F:FuncId)(cs:List V)(l:List Tk)(h:l.length<=1)(hp:∀x∈l,Aa PP F ((([]:List V)++[vTk x]++cs).map .v) σ0 (db false) σ0):Aa PP 181 [.v (AD l),.v (.fn F [] cs)] σ0 (db false) σ0:=by
 have hi:Aa PP 213 [.v (AD l),.v (.fn F [] cs)] σ0 (di (-1)) σ0:=by
  match l,h with
  |[],_=>
   refine sv Ag8 19 [] (.n<|.r) (Q (di (-1))) ?_
   rfl
  |[a],_=>
   refine sv Ag8 19 [] (.n<|.x (vTk a)<|.c (db false)<|.n<|.r) (iz 0<=0/\Q (some (vTk a))/\F0 F (D.v (vTk a)::map D.v ([]++cs)) (db false)/\Q (di (-1))) ?_
   exact⟨by decide,rfl,by simpa using hp a (by simp),rfl⟩
 refine sv AgD 9 [] (.c (di (-1)) .r) (F0 213 [D.v (AD l),D.v (Azl F [] cs)] (di (-1))/\db (decide (-1>=0))=db false) ?_
 exact⟨hi,rfl⟩
noncomputable abbrev Ake:Func:= Tryz.f136
theorem Ahx(m:Mod)(hm:m.places.length<=1000000)(hag:0<=m.age/\m.age<=1000)(r:Rul)(h1:r.takes.length<=1)(h2:r.makes.length<=1)(h3:∀t∈r.takes,(0<=t.place/\t.place<m.places.length)/\(0<=t.low/\t.low<=t.high/\t.high<=m.age+1))(h4:∀x∈r.makes,0<=x/\x<m.places.length):Aa PP 136 [Ag m,Cl r] σ0 (db true) σ0:=by
 refine sv Ake 37 [2,3] (.h (.q 2 0)<|.h (.f1 0 [5])<|.t<|.t<|.c (db true)<|.k<|.c (db true)<|.k<|.c (db false)<|.r) (decide ((length (map vTk r.takes):Int)<=3)=true/\decide ((length (Anw r.makes):Int)<=3)=true/\F0 179 [dIs r.makes] (db true)/\F0 137 [dIs r.makes,D.v (Azl 180 [] [Azo (vi (length (Aks m.places):Int))])] (db true)/\F0 181 [D.v (AD r.takes),D.v (Azl 182 [] [Azo (vi (length (Aks m.places):Int)),Azo (A8 m)])] (db false)/\(db !false)=db true) ?_
 refine⟨H6 (by rw[H3];omega),H6 (by rw[H3];omega),Zj _ h2,?_,?_,rfl⟩
 ·rw[H3]
  have h:=Jq 180 [] [.ref (vi m.places.length)] (fun x=>Av x 0 ((m.places.length:Int)-1)) r.makes (by omega) (fun x _=>AbX m.places.length hm x)
  rwa[show(r.makes.all fun x=>Av x 0 ((m.places.length:Int)-1))=true from by
   rw[Ip];intro x hx;have:=h4 x hx;simp[Av];omega] at h
 ·rw[H3]
  exact Tr _ _ r.takes h1 fun x hx=>Ahz m hm hag x (h3 x hx).1 (h3 x hx).2
theorem Z2(nm:List UInt8)(f t:Int)(tk:List Tk)(mk:List Int)(h1:tk.length<=1)(h2:mk.length<=1):Aa PP 139 [Cl (mkT nm f t tk mk),Cl (mkT nm f t tk mk)] σ0 (db true) σ0:=by
 refine sv Agq 101 [2,3] (.t<|.t<|.t<|.c (db true)<|.k<|.c (db true)<|.k<|.c (db true)<|.k<|.k<|.k<|.k<|.c (db true)<|.k<|.c (db true)<|.k<|.c (db true)<|.k<|.c (db true)<|.k<|.r) (((mkT nm f t tk mk).name==(mkT nm f t tk mk).name)=true/\((mkT nm f t tk mk).frm==(mkT nm f t tk mk).frm)=true/\((mkT nm f t tk mk).to==(mkT nm f t tk mk).to)=true/\F0 184 [D.v (vIs (mkT nm f t tk mk).need),D.v (vIs (mkT nm f t tk mk).need)] (db true)/\F0 184 [D.v (vIs (mkT nm f t tk mk).give),D.v (vIs (mkT nm f t tk mk).give)] (db true)/\F0 184 [D.v (vIs (mkT nm f t tk mk).move),D.v (vIs (mkT nm f t tk mk).move)] (db true)/\F0 184 [D.v (vIs (mkT nm f t tk mk).path),D.v (vIs (mkT nm f t tk mk).path)] (db true)/\F0 184 [D.v (vIs (mkT nm f t tk mk).next),D.v (vIs (mkT nm f t tk mk).next)] (db true)/\F0 185 [D.v (AD (mkT nm f t tk mk).takes),D.v (AD (mkT nm f t tk mk).takes)] (db true)/\F0 184 [D.v (vIs (mkT nm f t tk mk).makes),D.v (vIs (mkT nm f t tk mk).makes)] (db true)/\db ((mkT nm f t tk mk).second==(mkT nm f t tk mk).second)=db true) ?_
 have e:∀l:List Int,l.length<=1000000->Aa PP 184 [.v (vIs l),.v (vIs l)] σ0 (db true) σ0:=fun l hl=>by simpa using D2 l l hl
 have n0:=e [] (by decide)
 exact⟨by simp,by simp,by simp,n0,n0,n0,n0,n0,Abf tk h1,e mk (by omega),by simp⟩
theorem V7(m:Mod)(hm:m.places.length<=1000000)(hst:m.states.length<=1000000)(hk:m.kind=5)(hag:0<=m.age/\m.age<=1000)(nm:List UInt8)(f t:Int)(tk:List Tk)(mk:List Int)(hf:0<=f/\f<m.states.length)(ht:0<=t/\t<m.states.length)(h1:tk.length<=1)(h2:mk.length<=1)(h3:∀t∈tk,(0<=t.place/\t.place<m.places.length)/\(0<=t.low/\t.low<=t.high/\t.high<=m.age+1))(h4:∀x∈mk,0<=x/\x<m.places.length):Aa PP 89 [Ag m,Cl (mkT nm f t tk mk)] σ0 (db true) σ0:=by
 refine sv WY 142 [2,3] (.c (db true)<|.k<|.c (db true)<|.k<|.k<|.f<|.f<|.f<|.f<|.t<|.c (db true)<|.k<|.c (db true) .r) (F0 131 [di (mkT nm f t tk mk).to,di (length (Aks m.states):Int)] (db true)/\F0 131 [di (mkT nm f t tk mk).frm,di (length (Aks m.states):Int)] (db true)/\(m.kind==1)=false/\(m.kind==2)=false/\(m.kind==3)=false/\(m.kind==4)=false/\(m.kind==5)=true/\F0 136 [Ag m,D.v (Ak (mkT nm f t tk mk))] (db true)/\F0 139 [D.v (Ak (mkT nm f t tk mk)),D.v (Azh [Azg (mkT nm f t tk mk).name,vi (mkT nm f t tk mk).frm,vi (mkT nm f t tk mk).to,Azf [],Azf [],Azf [],vi 0,vi 0,vi 0,Azf [],Azf [],AD (mkT nm f t tk mk).takes,vIs (mkT nm f t tk mk).makes,vi 0])] (db true)/\Q (db true)) ?_
 have hx:∀x:Int,0<=x->x<m.states.length->Aa PP 131 [di x,di ((m.states.map V.str).length:Int)] σ0 (db true) σ0:=fun x h0 h1=>by
  rw[H3]
  have h:=CC x m.states.length hst
  rwa[show Av x 0 ((m.states.length:Int)-1)=true by simp[Av];omega] at h
 exact⟨hx t ht.1 ht.2,hx f hf.1 hf.2,by rw[hk];rfl,by rw[hk];rfl,by rw[hk];rfl,by rw[hk];rfl,by rw[hk];rfl,Ahx m hm hag (mkT nm f t tk mk) h1 h2 h3 h4,Z2 nm f t tk mk h1 h2,rfl⟩
def AR(m:Mod):Typ:=.prod [.lab m.states.length,.bag (.prod [.lab m.places.length,.lab (m.age+2)])]
theorem GG(m:Mod)(hk:m.kind=5)(hag:0<=m.age/\m.age<=1000):Aa PP 141 [Ag m] σ0 (dT (AR m)) σ0:=by
 refine sv Fv 70 [1] (.c (dT (.lab m.states.length))<|.a 1<|.f<|.t<|.c (dT (.lab m.places.length))<|.c (dT (.lab (m.age+2)))<|.c (dT (.bag (.prod [.lab m.places.length,.lab (m.age+2)])))<|.r) (F0 189 [di (length (map Azg m.states):Int)] (dT (Typ.lab (m.states.length:Int)))/\(m.kind==4)=false/\(m.kind==5)=true/\F0 189 [di (length (map Azg m.places):Int)] (dT (Typ.lab (m.places.length:Int)))/\F0 189 [di (wrap i64 (m.age+2))] (dT (Typ.lab (m.age+2)))/\F0 191 [di 5,D.v (Azh [vi 3,vi 0,Azf [],Azf [vT (Typ.lab (m.places.length:Int)),vT (Typ.lab (m.age+2))]])] (dT (Typ.bag (Typ.prod [Typ.lab (m.places.length:Int),Typ.lab (m.age+2)])))/\Q (vT (Typ.lab (m.states.length:Int))::nV)/\Ar 2 64/\D.v (Azh [vi 3,vi 0,Azf [],Azf [vT (Typ.lab (m.states.length:Int)),vT (Typ.bag (Typ.prod [Typ.lab (m.places.length:Int),Typ.lab (m.age+2)]))]])=dT (AR m)) ?_
 exact⟨by rw[H3];exact Ei _,by rw[hk];rfl,by rw[hk];rfl,by rw[H3];exact Ei _,by rw[Al (by omega) (by omega)];exact Ei _,WE (.prod [.lab m.places.length,.lab (m.age+2)]),rfl,⟨by decide,by decide⟩,rfl⟩
theorem Aih(m:Mod)(hst:1<=m.states.length/\m.states.length<=16)(hpl:1<=m.places.length/\m.places.length<=16)(hag:0<=m.age/\m.age<=3):C0 8 (AR m)=true:=by
 simp only[AR,C0,H9,HD,List.all_cons,List.all_nil,Bool.and_true,H5,Iv,Ii,IM,HE]
 omega
theorem Aft(np age:Int)(t:Val)(h:AcP np age t):Am (.prod [.lab np,.lab (age+2)]) t=true:=by
 obtain⟨p,g,h1,h2,rfl⟩:=h
 simp only[Am,Val.n,Val.kids,AW,Cd,H5,HE,Ie]
 refine⟨?_,?_,⟨?_,?_,?_⟩,⟨?_,?_,?_⟩,?_⟩
 all_goals first|exact H6 h1.1|exact H6 h1.2|exact H6 h2.1|exact H6 h2.2|rfl|trivial
theorem QO(l:List Val)(h:∀i x y,l[i]?=some x->l[i+1]?=some y->Au x y<0):∀k,k<l.length->TY l k=true
 |0,_=>rfl
 |k+1,hk=>by
  have h1:l[k]?=some l[k]:=H4 (by omega)
  have h2:l[k+1]?=some l[k+1]:=H4 hk
  have h3:=h k _ _ h1 h2
  have h4:=(AP.swap _ _ trivial trivial).1 h3
  rw[TY,HC,HC,h1,h2,HL (by show ¬Au l[k+1] l[k]<0;omega)]
  exact QO l h k (by omega)
theorem Pk(m:Mod)(s:Int)(hs:0<=s/\s<m.states.length)(ts:List Val)(h:AbZ m.places.length m.age 2 ts):Aj (AR m) (.mk 0 [.mk s [],.mk 0 ts])=true:=by
 have hsz:=UL ts h.tok
 have hl:=h.len
 have hsr:SC ts=true:=by
  unfold SC
  cases ts with
  |nil=>rfl
  |cons t ts=>exact QO _ h.asc _ (by simp)
 rw[Aj,H6 (by simp only[Val.size,Val.sizes];omega),Ib,AR]
 simp only[Am,Val.n,Val.kids,AW,Cd,H5,HE,Ie,Ip]
 refine⟨?_,?_,⟨?_,?_,?_⟩,⟨⟨?_,?_,?_⟩,?_⟩,?_⟩
 all_goals first|exact H6 hs.1|exact H6 hs.2|exact hsr|(intro t ht;obtain⟨p,g,h1,h2,rfl⟩:=h.tok t ht;have:=Aft _ _ _ ⟨p,g,h1,h2,rfl⟩;simp only[Am,H5] at this;exact⟨rfl,rfl,this.2.2⟩)|rfl|trivial|exact H6 (by omega)
structure Fx(m:Mod)(t:Typ):Prop where
 walks:Aa PP 22 [Ag m] σ0 (di 0) σ0
 plain:Aa PP 117 [Ag m] σ0 (db (Ev m)) σ0
 valid:∀v:Val,v.size<=1000000->Aa PP 118 [Ag m,dV v] σ0 (db (Aj t v)) σ0
 places:m.places.length<=1000000
theorem Mod.ok.int{m:Mod}(h:m.ok):Fx m (AI m):=by
 obtain⟨h1,h2,h3,h4,h5,h6,h7,h8⟩:=h.sz
 exact⟨Y8 m h,QP m (by omega),fun v hv=>Lq m h v hv,by omega⟩
def mvT(r:Rul)(k:Nat):Int:=if r.move=[] then k else r.move.getD k 0
def mvS(r:Rul)(k:Nat)(x:Int)(ws:List Int):List Int:=if mvT r k>=0 then ws.set (mvT r k).toNat (ws.getD (mvT r k).toNat 0+x) else ws
def mvL(r:Rul):Nat->List Int->List Int->List Int->List Int
 |k,y::ys,n::ns,ws=>mvL r (k+1) ys ns (mvS r k (y-n) ws)
 |_,_,_,ws=>ws
def AeD(r:Rul)(ys:List Int):List Int:=mvL r 0 ys r.need (replicate ys.length 0)
theorem Qb(r:Rul)(k:Nat)(ns ws:List Int):mvL r k [] ns ws=ws:=by simp[mvL]
theorem WB(r:Rul)(k:Nat)(x:Int)(ws:List Int):(mvS r k x ws).length=ws.length:=by
 unfold mvS;split
 ·rw[List.length_set]
 ·rfl
theorem Qc(r:Rul):∀(ys ns:List Int) (k:Nat) (ws:List Int),(mvL r k ys ns ws).length=ws.length
 |[],_,_,_=>by simp[mvL]
 |_::_,[],_,_=>by simp[mvL]
 |y::ys,n::ns,k,ws=>by rw[mvL,Qc r ys ns,WB]
def Ah2(r:Rul)(N:Nat):Prop:=r.move=[]∨r.move.length=N/\∀t∈r.move, -1<=t/\t<N
theorem AfZ{r:Rul}{N k:Nat}(h:Ah2 r N)(hk:k<N): -1<=mvT r k/\mvT r k<N:=by
 unfold mvT
 rcases h with h|⟨h1,h2⟩
 ·rw[HP h];omega
 ·split
  ·omega
  ·rw[HC,H4 (by omega)]
   exact h2 _ (List.getElem_mem _)
def apV(r:Rul)(s:Int)(ys:List Int):Val×Int:=if enB r s ys=true then G7 [lf r.to] (AeD r ys) r.give else(.mk 0 [],18)
noncomputable abbrev AaY:Func:= Tryz.f31
noncomputable abbrev AiH:Func:= Tryz.f223
noncomputable abbrev AgN:Func:= Tryz.f224
noncomputable def Afa:Code:=AgN.body.getD .skip
theorem RE{c:Val}{s:Int}{ys:List Int}(hc:IsC c s ys):c.kids=lf s::ys.map lf:=by rw[hc.eq];rfl
theorem OJ{c:Val}{s:Int}{ys:List Int}(hc:IsC c s ys):List.drop 1 (take (c.kids.map eV).length (c.kids.map eV))=(ys.map lf).map eV:=by
 rw[List.take_length,RE hc];rfl
theorem AbB(r:Rul)(c:Val)(s:Int)(ys:List Int)(hl:r.need.length=ys.length)(hl2:ys.length<=1000)(n:Nat):∀k:Nat,ys.length-k=n->
  Rn PP AgN 0 (db (F8 (r.need.drop k) (ys.drop k))) σ0 ([.lp (sub Afa [1,1,0,1,0,0]),.blk 0,.code (sub Afa [1,1,1])]++[]) (mkE 33 [(2,.v (.ref (Ak r))),(17,dVs (ys.map lf)),(18,di ys.length),(19,di k)]) σ0:=by
 induction n with
 |zero=>
  intro k hn
  refine lv 33 [2,3] (.f .r) (decide ((k:Int)<(ys.length:Int))=false/\db true=db (F8 (List.drop k r.need) (List.drop k ys))) ?_
  refine⟨H8 (by omega),?_⟩
  rw[HO (show r.need.length<=k by omega)];simp only[F8]
 |succ n ih=>
  intro k hn
  obtain⟨x,hx⟩:∃x,r.need[k]?=some x:=⟨_,H4 (show k<r.need.length by omega)⟩
  obtain⟨y,hy⟩:∃y,ys[k]?=some y:=⟨_,H4 (show k<ys.length by omega)⟩
  refine lv 33 [2,3] (.t<|.h (.xs (Af (lf y)))<|.x (vi x)<|.b .r (.ls [ke 2,ke 17,ke 18,ch 19 (di (k+1:Nat))] σ0)) (decide ((k:Int)<(ys.length:Int))=true/\Q 2/\0<=(k:Int)/\(map eV (map lf ys))[Int.toNat (k:Int)]?=some (Af (lf y))/\0<=(k:Int)/\(Anw r.need)[Int.toNat (k:Int)]?=some (vi x)/\(True/\True)/\(decide (Val.n (lf y)<x)=true->db false=db (F8 (List.drop k r.need) (List.drop k ys)))/\(decide (Val.n (lf y)<x)=false->di (wrap i64 ((k:Int)+1))=di (↑(k+1):Int)/\I0 AgN 0 (db (F8 (List.drop k r.need) (List.drop k ys))) σ0 [kl Afa Akw,Aza 0,kc Afa [1,1,1]] (mkE 33 [(2,D.v (Azo (Ak r))),(17,D.v (vVs (map lf ys))),(18,di (ys.length:Int)),(19,di (↑(k+1):Int))]) σ0)) ?_
  have e3:r.need.drop k=x::r.need.drop (k+1):=by rw[HJ (by omega)];congr 1;rw[H4 (by omega)] at hx;simpa using hx
  have e4:ys.drop k=y::ys.drop (k+1):=by rw[HJ (by omega)];congr 1;rw[H4 (by omega)] at hy;simpa using hy
  rw[e3,e4]
  refine⟨H6 (by omega),rfl,by omega,As (by rw[Ik,hy];rfl),by omega,Aq hx,⟨trivial,trivial⟩,fun h1=>?_,fun h1=>⟨Ad (by omega),⟨?_⟩⟩⟩
  ·have h1:decide (y<x)=true:=h1
   simp only[F8,h1,Bool.not_true,HZ]
  ·have h1:decide (y<x)=false:=h1
   simp only[F8,h1,Bool.not_false,Ib]
   have:=ih (k+1) (by omega)
   exact this
theorem AbA(r:Rul)(c:Val)(s:Int)(ys:List Int)(hc:IsC c s ys)(hl:r.need.length=ys.length)(hl2:ys.length<=1000):Aa PP 224 [Cl r,dV c] σ0 (db (enB r s ys)) σ0:=by
 refine sv AgN 33 [2,3] (.h (.xs (Af (lf s)))<|.b .r (.l [ke 2,ch 17 (dVs (ys.map lf)),ch 18 (di ys.length),ch 19 (di (0:Nat))])) (Q 2/\iz 0<=0/\(Alj c.kids)[Int.toNat 0]?=some (Af (lf s))/\((Val.n (lf s) !=r.frm)=true->db false=db (enB r s ys))/\((Val.n (lf s) !=r.frm)=false->(∀(x:V),x∈map eV c.kids->V.size x=2)/\0<=(1:Int)/\(1:Int)<=(length (Alj c.kids):Int)/\D.v (Azf (List.drop (Int.toNat ((1:Int))) (take (length (Alj c.kids)) (Alj c.kids))))=dVs (map lf ys)/\di (length (List.drop (Int.toNat ((1:Int))) (take (length (Alj c.kids)) (Alj c.kids))):Int)=di (ys.length:Int)/\di 0=di (↑0:Int)/\I0 AgN σ0.H.length (db (enB r s ys)) σ0 [kl Afa Akw,Aza 0,kc Afa [1,1,1]] (mkE 33 [(2,D.v (Azo (Ak r))),(17,dVs (map lf ys)),(18,di (ys.length:Int)),(19,di (↑0:Int))]) Akz)) ?_
 have hk:=RE hc
 have hd:=OJ hc
 have hlen:c.kids.length=ys.length+1:=hc.len
 refine⟨rfl,by decide,As (i:=0) hc.head,fun h=>?_,fun h=>⟨?_,by omega,?_,?_,?_,rfl,⟨?_⟩⟩⟩
 ·have h:(s !=r.frm)=true:=h
  have h:(s==r.frm)=false:=by simpa using h
  simp only[enB,h,HZ]
 ·intro x hx;obtain⟨v,_,rfl⟩:=Il.1 hx;rw[Bz];rfl
 ·rw[H3];omega
 ·exact HR (fun l=>D.v (.list l)) hd
 ·have:=HR (fun l:List V=>di (l.length:Int)) hd
  simpa using this
 ·have h:(s !=r.frm)=false:=h
  have h:(s==r.frm)=true:=by simpa using h
  simp only[enB,h,Ib]
  exact AbB r c s ys hl hl2 _ 0 rfl
noncomputable abbrev Ajo:Func:= Tryz.f225
noncomputable abbrev Yw:Func:= Tryz.f196
noncomputable def Sf:Code:=Yw.body.getD .skip
def SU:List Val->List Int->Val×Int
 |xs,v::vs=>if decide (v>1048576)=true then(.mk 0 [],1) else SU (xs++[lf v]) vs
 |xs,[]=>(.mk 0 xs,0)
theorem Wd:∀(ws gs:List Int) (xs:List Val),ws.length=gs.length->SU xs (zipWith (fun w g=>w+g) ws gs)=G7 xs ws gs
 |[],[],xs,_=>rfl
 |w::ws,g::gs,xs,h=>by
  simp only[List.zipWith_cons_cons,SU,G7]
  rw[Wd ws gs _ (by simpa using h)]
theorem Ahn(r:Rul)(ws:List Int)(hw:ws.length<=1000)(n:Nat):∀(k:Nat) (xs:List Val),ws.length-k=n->xs.length<=k+1->
  Rn PP Yw 0 (dP (SU xs (ws.drop k))) σ0 ([.lp (sub Sf [1,1,1,1,1,1,1,0,1,0,0]),.blk 2,.code (sub Sf [1,1,1,1,1,1,1,1])]++[]) (mkE 90 [(6,.ptr 0 0),(14,.ptr 3 0),(72,.arr 2 0 ws.length),(73,di ws.length),(74,di k)]) (stB r ws xs):=by
 induction n with
 |zero=>
  intro k xs hn hx
  refine lv 90 [3,5] (.f .r) (decide ((k:Int)<(ws.length:Int))=false/\Azn [D.v (Azh [vi 0,Azf (map eV xs)]),di 0]=dP (SU xs (List.drop k ws))) ?_
  refine⟨H8 (by omega),?_⟩
  rw[HO (show ws.length<=k by omega)];rfl
 |succ n ih=>
  intro k xs hn hx
  obtain⟨w,hw1⟩:∃w,ws[k]?=some w:=⟨_,H4 (show k<ws.length by omega)⟩
  refine lv 90 [3,5] (.t<|.m (di w)<|.b .r (.lo [ke 6,ke 14,ke 72,ke 73,ch 74 (di (k+1:Nat))] (stB r ws (xs++[lf w])))) (decide ((k:Int)<(ws.length:Int))=true/\0<=(k:Int)/\(k:Int)<(ws.length:Int)/\(cIs ws)[0+Int.toNat (k:Int)*1]?=some (di w)/\(decide (w>1048576)=true->Azn [D.v (Azh [vi 0,Azf []]),di 1]=dP (SU xs (List.drop k ws)))/\(decide (w>1048576)=false->Q (map eV xs)/\Ar (length (map eV xs)+length (Azh (V.int i64 w::Azf nV::nV)::nV)) 32/\di (wrap i64 ((k:Int)+1))=di (↑(k+1):Int)/\okH 4 [1] [some [di 0,dn],some (cR r),some (cIs ws),some [di 0,Azc 1 (map eV xs++[Azh [vi w,Azf []]])]]=true/\[some [di 0,dn],some (cR r),some (cIs ws),some [di 0,Azc 1 (map eV xs++Azh (Amb w)::nV)]]=[some [di 0,dn],some (cR r),some (cIs ws),some [di 0,Azc 1 (map eV (xs++[lf w]))]]/\[(1,2,map eV xs++Azh (Amb w)::nV)]=[(1,2,map eV (xs++[lf w]))]/\I0 Yw 0 (dP (SU xs (List.drop k ws))) σ0 [kl Sf [1,1,1,1,1,1,1,0,1,0,0],Aza 2,kc Sf [1,1,1,1,1,1,1,1]] (mkE 90 [(6,Azb 0 0),(14,Azb 3 0),(72,Azi 2 0 ws.length),(73,di (ws.length:Int)),(74,di (↑(k+1):Int))]) (stB r ws (xs++[lf w])))) ?_
  have e3:ws.drop k=w::ws.drop (k+1):=by rw[HJ (by omega)];congr 1;rw[H4 (by omega)] at hw1;simpa using hw1
  rw[e3]
  refine⟨H6 (by omega),by omega,by omega,by simp[cIs,hw1],fun h=>?_,fun h=>⟨rfl,⟨?_,?_⟩,Ad (by omega),?_,?_,?_,⟨?_⟩⟩⟩
  ·simp only[SU,h,IC];rfl
  ·simp only[H3,H9,HD];omega
  ·simp only[H3,H9,HD];omega
  ·simp[okH,D.okNs,D.okN,CU]
  ·rw[←BB];rfl
  ·rw[←BB];rfl
  ·have:=ih (k+1) (xs++[lf w]) (by omega) (by simp;omega)
   simp only[SU,h,Jj,if_false]
   exact this
theorem VR(l:List Int):D.pls (cIs l)=true:=by
 have:cIs l=(l.map vi).map .v:=by simp[cIs]
 rw[this];exact BT _
noncomputable abbrev Agn:Func:= Tryz.f193
noncomputable abbrev AdO:Func:= Tryz.f142
noncomputable abbrev AhF:Func:= Tryz.f194
noncomputable abbrev Aim:Func:= Tryz.f195
theorem NZ(p:Val×Int):Aa PP 195 [dV p.1,di p.2] σ0 (dLP (Cj p)) σ0:=by
 refine sv Aim 14 [2] (.b .r (.b .r .r)) (((p.snd==0)=true->Azn [D.v (Azf [Af p.fst]),di 0]=dLP (Cj p))/\((p.snd==0)=false->((p.snd==18)=true->Azn [D.v (Azf []),di 0]=dLP (Cj p))/\((p.snd==18)=false->Azn [D.v (Azf []),di p.snd]=dLP (Cj p)))) ?_
 refine⟨fun h=>?_,fun h=>⟨fun h1=>?_,fun h1=>?_⟩⟩
 ·have h:p.2=0:=by simpa using h
  rw[Cj,HL (by rw[h];decide),HL (by rw[h];decide)]
  show D.tup [.v (.list [Af p.1]),di 0]=_
  rw[←Bz];rfl
 ·rw[Cj,HP h1];rfl
 ·have h:p.2≠0:=by simpa using h
  rw[Cj,HL (by rw[h1];decide),HP (by simpa using h)];rfl
noncomputable abbrev AgP:Func:= Tryz.f143
noncomputable abbrev G1:Func:= Tryz.f92
noncomputable def CL:Code:=G1.body.getD .skip
noncomputable abbrev Apr:=[kl CL [1,1,1,0,1,0,0,1,0,0,1,1,1,0,0],Aza 2,Aza 1,kc CL [1,1,1,0,1,0,0,1,1],kl CL Ak2,Aza 0,kc CL [1,1,1,1]]
noncomputable abbrev Aqw:=fun a₀=>(2,D.v (Amc a₀))
theorem Adp(m:Mod)(c:Val)(rl:Int)(hr1: -1<=rl)(hr2:rl<=1000)(l:List Val)(hl0:l.length<=1000)(p:List Stp×Int)(fin:List Stp)(hf:fin.length<=100000)
  (hout:Rn PP G1 0 (dSP p) σ0 ([.lp (sub CL [1,1,1,0,1,0,0]),.blk 0,.code (sub CL [1,1,1,1])]++[]) (mkE 53 [(2,.v (.ref (A8 m))),(3,.v (.ref (Af c))),(7,Aey fin),(8,di (rl+1))]) (Wc fin)) (n:Nat):∀(k:Nat) (xs:List Stp),l.length-k=n->xs++(l.drop k).map (fun v=>(rl,v))=fin->
  Rn PP G1 0 (dSP p) σ0 ([.lp (sub CL [1,1,1,0,1,0,0,1,0,0,1,1,1,0,0]),.blk 2,.blk 1,.code (sub CL [1,1,1,0,1,0,0,1,1]),.lp (sub CL [1,1,1,0,1,0,0]),.blk 0,.code (sub CL [1,1,1,1])]++[]) (mkE 53 [(2,.v (.ref (A8 m))),(3,.v (.ref (Af c))),(7,Aey xs),(8,di rl),(36,dVs l),(37,di l.length),(38,di k)]) (Wc xs):=by
 induction n with
 |zero=>
  intro k xs hn hx
  rw[HO (by omega),I1,Is] at hx
  subst hx
  refine lv 53 [2,3] (.f<|.l [ke 2,ke 3,ke 7,ch 8 (di (rl+1))]) (decide ((k:Int)<(l.length:Int))=false/\di (wrap i64 (rl+1))=di (rl+1)/\I0 G1 0 (dSP p) σ0 [kl CL Ak2,Aza 0,kc CL [1,1,1,1]] (mkE 53 [(Aqw m),(Als c),(7,Azc 1 (map vSt xs)),(8,di (rl+1))]) (Wc xs)) ?_
  exact⟨H8 (by omega),by rw[Al (by omega) (by omega)],⟨hout⟩⟩
 |succ n ih=>
  intro k xs hn hx
  have hk:k<l.length:=by omega
  have hv:l[k]?=some l[k]:=H4 hk
  rw[HJ hk] at hx
  generalize l[k]=v at hv hx
  have hlen:=HR length hx
  simp only[HI,H3,H9,I9] at hlen
  refine lv 53 [2,3] (.t<|.h (.xs (Af v))<|.ls [ke 2,ke 3,ch 7 (Aey (xs++[(rl,v)])),ke 8,ke 36,ke 37,ch 38 (di (k+1:Nat))] (Wc (xs++[(rl,v)]))) (decide ((k:Int)<(l.length:Int))=true/\Q 2/\0<=(k:Int)/\(map eV l)[Int.toNat (k:Int)]?=some (Af v)/\Q (map vSt xs)/\Ar (length (map vSt xs)+length (Azh (V.int i64 rl::vi v.n::vVs v.kids::nV)::nV)) 40/\Azc 1 (map vSt xs++[Azh [vi rl,vi v.n,vVs v.kids]])=Aey (xs++[(rl,v)])/\di (wrap i64 ((k:Int)+1))=di (↑(k+1):Int)/\[(1,3,map vSt xs++Azh (vi rl::vi v.n::vVs v.kids::nV)::nV)]=[(1,3,map vSt (xs++[(rl,v)]))]/\I0 G1 0 (dSP p) σ0 Apr (mkE 53 [(Aqw m),(Als c),(7,Aey (xs++[(rl,v)])),(8,di rl),(36,dVs l),(37,di (l.length:Int)),(38,di (↑(k+1):Int))]) (Wc (xs++[(rl,v)]))) ?_
  refine⟨H6 (by omega),rfl,by omega,As hv,rfl,⟨?_,?_⟩,?_,Ad (by omega),?_,⟨ih (k+1) (xs++[(rl,v)]) (by omega) (by rw[←hx];simp)⟩⟩
  ·simp only[H3,H9,HD];omega
  ·simp only[H3,H9,HD];omega
  ·rw[Aey, ←QF]
  ·rw[←QF]
theorem Og(m:Mod)(hm:m.rules.length<=12)(c:Val)(ap:Int->List Val×Int)(hl:∀i,(ap i).1.length<=1000)(hap:∀i:Int, -1<=i->i<m.rules.length->Aa PP 143 [Ag m,di i,dV c] σ0 (dLP (ap i)) σ0)(n:Nat):∀(rl:Int) (xs:List Stp), -1<=rl->rl<=m.rules.length->(m.rules.length-rl).toNat=n->xs.length<=(rl+1).toNat*1000->
  Rn PP G1 0 (dSP (D9 ap n rl xs)) σ0 ([.lp (sub CL [1,1,1,0,1,0,0]),.blk 0,.code (sub CL [1,1,1,1])]++[]) (mkE 53 [(2,.v (.ref (A8 m))),(3,.v (.ref (Af c))),(7,Aey xs),(8,di rl)]) (Wc xs):=by
 induction n with
 |zero=>
  intro rl xs h1 h2 hn hx
  refine lv 53 [2,3] (.f<|.b .r .r) (decide (rl<(length (Aps m.rules):Int))=false/\(decide ((length (map vSt xs):Int)>256)=true->Azn [D.v (Azf []),di 1]=dSP (D9 ap 0 rl xs))/\(decide ((length (map vSt xs):Int)>256)=false->Azn [D.v (Azf (map vSt xs)),di 0]=dSP (D9 ap 0 rl xs))) ?_
  refine⟨by rw[H3];exact H8 (by omega),fun h=>?_,fun h=>?_⟩
  ·rw[H3] at h;rw[D9,HP h];rfl
  ·rw[H3] at h;rw[D9,HL (by rw[h];decide)]
 |succ n ih=>
  intro rl xs h1 h2 hn hx
  have hp:=hap rl h1 (by omega)
  have hi:=ih (rl+1) (xs++(ap rl).1.map fun v=>(rl,v)) (by omega) (by omega) (by omega) (by have:=hl rl;simp only[HI,H3];omega)
  have hll:=hl rl
  rw[D9]
  generalize ap rl=q at*
  refine lv 53 [2,3] (.t<|.c (dLP q)<|.b .r (.l [ke 2,ke 3,ke 7,ke 8,ke 36,ch 37 (di q.1.length),ch 38 (di (0:Nat))])) (decide (rl<(length (Aps m.rules):Int))=true/\F0 143 [Ag m,di rl,dV c] (dLP q)/\((q.snd !=0)=true->Azn [D.v (Azf []),di q.snd]=dSP (if (q.snd !=0)=true then([],q.snd) else D9 ap n (rl+1) (xs++map (fun v=>(rl,v)) q.fst)))/\((q.snd !=0)=false->di (length (Alj q.fst):Int)=di (q.fst.length:Int)/\di 0=di (↑0:Int)/\I0 G1 0 (dSP (if (q.snd !=0)=true then([],q.snd) else D9 ap n (rl+1) (xs++map (fun v=>(rl,v)) q.fst))) σ0 Apr (mkE 53 [(Aqw m),(Als c),(7,Azc 1 (map vSt xs)),(8,di rl),(36,dVs q.fst),(37,di (q.fst.length:Int)),(38,di (↑0:Int))]) (Wc xs))) ?_
  refine⟨by rw[H3];exact H6 (by omega),hp,fun h=>?_,fun h=>⟨by rw[H3],rfl,⟨?_⟩⟩⟩
  ·rw[HP h];rfl
  ·rw[HL (by rw[h];decide)]
   exact Adp m c rl h1 (by omega) q.1 hll _ _ (by simp only[HI,H3];omega) hi _ 0 xs rfl (by simp)
structure CtM(m:Mod):Prop where
 ok:m.ok
 kind:m.kind=1
 start:BS m m.start
structure Ajb(m:Mod)(r:Rul):Prop where
 frm:0<=r.frm/\r.frm<m.states.length
 to:0<=r.to/\r.to<m.states.length
 needL:r.need.length=m.places.length
 giveL:r.give.length=m.places.length
 need:∀x∈r.need,0<=x/\x<=16
 give:∀x∈r.give,0<=x/\x<=16
 move:Ah2 r m.places.length
theorem CtM.rule{m:Mod}(h:CtM m){r:Rul}(hr:r∈m.rules):Ajb m r:=by
 have h1:=h.ok.right r hr
 rw[Et,HP h.kind] at h1
 simp only[Du,BJ,CB,H5,Bool.or_eq_true,Ip,Ie] at h1
 obtain⟨h2,h3,⟨h4,h5,h6,h7⟩,h8,_⟩:=h1
 have h2:=BV h2
 have h3:=BV h3
 refine⟨⟨h3.1,by omega⟩,⟨h2.1,by omega⟩,by omega,by omega,fun x hx=>BV (h6 x hx),fun x hx=>BV (h7 x hx),?_⟩
 rcases h8 with h8|⟨h8,h9⟩
 ·exact .inl (List.length_eq_zero_iff.1 (by omega))
 ·exact .inr ⟨by omega,fun t ht=>by have:=BV (h9 t ht);omega⟩
theorem CtM.places{m:Mod}(h:CtM m):1<=m.places.length/\m.places.length<=6/\1<=m.states.length/\m.states.length<=8/\m.rules.length<=12:=by
 obtain⟨h1,h2,h3,h4,h5,_⟩:=h.ok.sz
 omega
theorem BS.sizeM{m:Mod}(hm:CtM m){c:Val}(h:BS m c):c.size<=8:=by
 rw[h.eq,EO,h.len]
 have:=hm.places;omega
theorem BS.validM{m:Mod}(hm:CtM m){c:Val}(h:BS m c):Aj (AI m) c=true:=by
 rw[h.eq]
 exact FL m hm.kind (by have:=hm.places;omega) _ h.st _ h.len h.nm
theorem AdD(r:Rul)(k:Nat)(x:Int)(ws gs:List Int)(h:ws.length=gs.length):mvS r k x (zipWith (fun w g=>w+g) ws gs)=zipWith (fun w g=>w+g) (mvS r k x ws) gs:=by
 unfold mvS
 split
 ·generalize (mvT r k).toNat=i
  apply ext_getElem?
  intro j
  rw[List.getElem?_set,List.length_zipWith,List.getElem?_zipWith,List.getElem?_zipWith,List.getElem?_set]
  by_cases hij:i=j
  ·subst hij
   rw[HP rfl,HP rfl,HC,HC,List.getElem?_zipWith]
   by_cases hi:i<ws.length
   ·rw[HP (by omega),HP hi,H4 hi,H4 (show i<gs.length by omega)]
    simp only[IT]
    congr 1;omega
   ·rw[HL (by omega),HL hi]
  ·rw[HL hij,HL hij]
 ·rfl
theorem WC(r:Rul)(gs:List Int):∀(ys ns:List Int) (k:Nat) (ws:List Int),ws.length=gs.length->mvL r k ys ns (zipWith (fun w g=>w+g) ws gs)=zipWith (fun w g=>w+g) (mvL r k ys ns ws) gs
 |[],_,_,_,_=>by simp[mvL]
 |_::_,[],_,_,_=>by simp[mvL]
 |y::ys,n::ns,k,ws,h=>by
  rw[mvL,mvL,AdD r k _ ws gs h,WC r gs ys ns (k+1) _ (by rw[WB];exact h)]
theorem Q7:∀gs:List Int,zipWith (fun w g=>w+g) (replicate gs.length 0) gs=gs
 |[]=>rfl
 |g::gs=>by simp[Ix,Q7 gs]
def Y3(r:Rul)(ys:List Int):List Int:=zipWith (fun w g=>w+g) (AeD r ys) r.give
theorem Aex(r:Rul)(ys:List Int)(h:r.give.length=ys.length):mvL r 0 ys r.need r.give=Y3 r ys:=by
 rw[Y3,AeD, ←WC r r.give ys r.need 0 _ (by rw[List.length_replicate,h]), ←h,Q7]
noncomputable abbrev Am8:=fun a₀ b₀=>F0 118 [Ag a₀,dV b₀] (db true)
theorem TL(m:Mod)(hm:CtM m)(i:Nat)(hi:i<m.rules.length)(c:Val)(hc:BS m c):Aa PP 223 [Ag m,di i,dV c] σ0 (di 0) σ0:=by
 refine sv AiH 32 [3,5] (.c (di 0)<|.k<|.f<|.f<|.f<|.c (db true) .r) (Ak1 m/\(m.kind !=1)=false/\decide ((i:Int)<0)=false/\decide ((i:Int)>=(length (Aps m.rules):Int))=false/\Am8 m c/\Q (di 0)) ?_
 have hsz:=hc.sizeM hm
 have h1:=Lq m hm.ok c (by omega)
 rw[hc.validM hm] at h1
 exact⟨FH m hm.ok,by rw[hm.kind];rfl,H8 (by omega),by rw[H3];exact H8 (by omega),h1,rfl⟩
theorem WA(r:Rul)(i N:Nat)(h:Ah2 r N)(hi:i<N):Aa PP 225 [Cl r,di i] σ0 (di (mvT r i)) σ0:=by
 by_cases hr:r.move=[]
 ·refine sv Ajo 15 [2] (.t .r) (((length (Anw r.move):Int)==0)=true/\di (i:Int)=di (mvT r i)) ?_
  exact⟨by rw[hr];rfl,by rw[mvT,HP hr]⟩
 ·have hl:=(h.resolve_left hr).1
  have hti:r.move[i]?=some (mvT r i):=by rw[mvT,HL hr,HC,H4 (show i<r.move.length by omega)];rfl
  generalize mvT r i=t at*
  refine sv Ajo 15 [2] (.f<|.x (vi t) .r) (((length (Anw r.move):Int)==0)=false/\0<=(i:Int)/\(Anw r.move)[Int.toNat (i:Int)]?=some (vi t)/\Q (di t)) ?_
  exact⟨Ii.2 (by rw[H3];omega),by omega,Aq hti,rfl⟩
noncomputable abbrev Aqe:=[kl Sf [1,1,1,1,1,0,1,0,0],Aza 0,kc Sf [1,1,1,1,1,1]]
noncomputable abbrev Ari:=fun a₀ b₀=>[some [di 0,dn],some (cR a₀),some (cIs b₀)]
theorem Aej(r:Rul)(ys:List Int)(hl:r.need.length=ys.length)(hy:ys.length<=6)(by1:∀y∈ys,0<=y/\y<=1048576)(bn:∀y∈r.need,0<=y/\y<=16)(N:Nat)(hN:N=ys.length)(hm:Ah2 r N)(n:Nat):∀(k:Nat) (ws:List Int),N-k=n->k<=N->ws.length=N->(∀w∈ws, -(1048576*(k:Int))<=w/\w<=1048576*(k:Int)+16)->
  Rn PP Yw 0 (dP (SU [lf r.to] (mvL r k (ys.drop k) (r.need.drop k) ws))) σ0 ([.lp (sub Sf [1,1,1,1,1,0,1,0,0]),.blk 0,.code (sub Sf [1,1,1,1,1,1])]++[]) (mkE 90 [(6,.ptr 0 0),(9,.ptr 1 0),(10,.arr 2 0 N),(40,dVs (ys.map lf)),(41,di ys.length),(42,di k)]) (stA r ws):=by
 induction n with
 |zero=>
  intro k ws hn hkN hx hb
  refine lv 90 [3,5] (.f<|.a 1<|.h .g<|.lo [ke 6,ke 14,ch 72 (.arr 2 0 N),ch 73 (di N),ch 74 (di (0:Nat))] (stB r ws [lf r.to])) (decide ((k:Int)<(ys.length:Int))=false/\Q (Azi 2 0 N)/\Q (di (N:Int))/\di 0=di (↑0:Int)/\okH 4 [1] [some [di 0,dn],some (cR r),some (cIs ws),some [di 0,Azc 1 [Azh [vi r.to,Azf []]]]]=true/\[some [di 0,dn],some (cR r),some (cIs ws),some [di 0,Azc 1 (Azh (Amb r.to)::nV)]]=[some [di 0,dn],some (cR r),some (cIs ws),some [di 0,Azc 1 (eV (lf r.to)::nV)]]/\[(1,2,Azh (Amb r.to)::nV)]=[(1,2,eV (lf r.to)::nV)]/\I0 Yw 0 (dP (SU [lf r.to] (mvL r k (List.drop k ys) (List.drop k r.need) ws))) σ0 [kl Sf [1,1,1,1,1,1,1,0,1,0,0],Aza 2,kc Sf [1,1,1,1,1,1,1,1]] (mkE 90 [(6,Azb 0 0),(14,Azb 3 0),(72,Azi 2 0 N),(73,di (N:Int)),(74,di (↑0:Int))]) (stB r ws [lf r.to])) ?_
  rw[HO (show ys.length<=k by omega),Qb]
  refine⟨H8 (by omega),rfl,rfl,rfl,by simp[okH,D.okNs,D.okN,CU],rfl,rfl,⟨?_⟩⟩
  have:=Ahn r ws (by omega) _ 0 [lf r.to] rfl (by simp)
  rw[hx] at this
  exact this
 |succ n ih=>
  intro k ws hn hkN hx hb
  have hk:k<N:=by omega
  have okS:∀l:List Int,okH 3 [] [some [di 0,.v .nils],some (cR r),some (cIs l)]=true:=fun l=>by simp[okH,D.okNs,D.okN,CU]
  obtain⟨y,hy1⟩:∃y,ys[k]?=some y:=⟨_,H4 (by omega)⟩
  obtain⟨x,hn1⟩:∃x,r.need[k]?=some x:=⟨_,H4 (by omega)⟩
  have e3:ys.drop k=y::ys.drop (k+1):=by rw[HJ (by omega)];congr 1;rw[H4 (by omega)] at hy1;simpa using hy1
  have e4:r.need.drop k=x::r.need.drop (k+1):=by rw[HJ (by omega)];congr 1;rw[H4 (by omega)] at hn1;simpa using hn1
  have b1:=by1 _ (HA hy1)
  have b2:=bn _ (HA hn1)
  have ht:=AfZ hm hk
  have hmd:=WA r k N hm hk
  have hyv:((ys.map lf).map eV)[Int.toNat (k:Int)]?=some (Af (lf y)):=As (by rw[Ik,hy1];rfl)
  rw[e3,e4,mvL,mvS]
  generalize mvT r k=t at*
  by_cases h0:t>=0
  ·rw[HP h0]
   obtain⟨w,hw⟩:∃w,ws[t.toNat]?=some w:=⟨_,H4 (by omega)⟩
   rw[show ws.getD t.toNat 0=w by rw[HC,hw];rfl]
   refine lv 90 [3,5] (.t<|.h (.xs (Af (lf y)))<|.c (di t)<|.t<|.m (di w)<|.x (vi x)<|.w<|.lo [ke 6,ke 9,ke 10,ke 40,ke 41,ch 42 (di (k+1:Nat))] (stA r (ws.set t.toNat (w+(y-x))))) (decide ((k:Int)<(ys.length:Int))=true/\Q 2/\0<=(k:Int)/\(map eV (map lf ys))[Int.toNat (k:Int)]?=some (Af (lf y))/\F0 225 [Cl r,di (k:Int)] (di t)/\decide (t>=0)=true/\0<=t/\t<(N:Int)/\(cIs ws)[0+Int.toNat t*1]?=some (di w)/\0<=(k:Int)/\(Anw r.need)[Int.toNat (k:Int)]?=some (vi x)/\0<=t/\t<(N:Int)/\0+Int.toNat t*1<length (cIs ws)/\(True/\True/\True/\True)/\di (wrap i64 ((k:Int)+1))=di (↑(k+1):Int)/\okH 3 [] [some [di 0,dn],some (cR r),some (List.set (cIs ws) (0+Int.toNat t*1) (di (wrap i64 (w+wrap i64 (Val.n (lf y)-x)))))]=true/\[some [di 0,dn],some (cR r),some (List.set (cIs ws) (0+Int.toNat t*1) (di (wrap i64 (w+wrap i64 (Val.n (lf y)-x)))))]=[some [di 0,dn],some (cR r),some (cIs (List.set ws (Int.toNat t) (w+(y-x))))]/\I0 Yw 0 (dP (SU [lf r.to] (mvL r (k+1) (List.drop (k+1) ys) (List.drop (k+1) r.need) (List.set ws (Int.toNat t) (w+(y-x)))))) σ0 Aqe (mkE 90 [(6,Azb 0 0),(9,Azb 1 0),(10,Azi 2 0 N),(40,D.v (vVs (map lf ys))),(41,di (ys.length:Int)),(42,di (↑(k+1):Int))]) (stA r (List.set ws (Int.toNat t) (w+(y-x))))) ?_
   have hwb:=hb w (HA hw)
   have ew:i64.wrap (w+i64.wrap (Val.n (lf y)-x))=w+(y-x):=by
    rw[show Val.n (lf y)=y from rfl,Al (n:=y-x) (by omega) (by omega),Al (by omega) (by omega)]
   have es:List.set (cIs ws) (0+Int.toNat t*1) (di (w+(y-x)))=cIs (ws.set t.toNat (w+(y-x))):=by simp[cIs,List.map_set]
   have hi:=ih (k+1) (ws.set t.toNat (w+(y-x))) (by omega) (by omega) (by rw[List.length_set];exact hx) (fun v hv=>by
    rcases I8 hv with hv|hv
    ·have:=hb v hv;omega
    ·rw[hv];omega)
   rw[ew,es]
   exact⟨H6 (by omega),rfl,by omega,hyv,hmd,H6 (by omega),by omega,by omega,by simp[cIs,hw],by omega,Aq hn1,by omega,by omega,by simp[cIs];omega,⟨trivial,trivial,trivial,trivial⟩,Ad (by omega),okS _,rfl,⟨hi⟩⟩
  ·rw[HL h0]
   refine lv 90 [3,5] (.t<|.h (.xs (Af (lf y)))<|.c (di t)<|.f<|.lo [ke 6,ke 9,ke 10,ke 40,ke 41,ch 42 (di (k+1:Nat))] (stA r ws)) (decide ((k:Int)<(ys.length:Int))=true/\Q 2/\0<=(k:Int)/\(map eV (map lf ys))[Int.toNat (k:Int)]?=some (Af (lf y))/\F0 225 [Cl r,di (k:Int)] (di t)/\decide (t>=0)=false/\di (wrap i64 ((k:Int)+1))=di (↑(k+1):Int)/\okH 3 [] (Ari r ws)=true/\Q (Ari r ws)/\I0 Yw 0 (dP (SU [lf r.to] (mvL r (k+1) (List.drop (k+1) ys) (List.drop (k+1) r.need) ws))) σ0 Aqe (mkE 90 [(6,Azb 0 0),(9,Azb 1 0),(10,Azi 2 0 N),(40,D.v (vVs (map lf ys))),(41,di (ys.length:Int)),(42,di (↑(k+1):Int))]) (stA r ws)) ?_
   exact⟨H6 (by omega),rfl,by omega,hyv,hmd,H8 (by omega),Ad (by omega),okS _,rfl,⟨ih (k+1) ws (by omega) (by omega) hx (fun w hw=>by have:=hb w hw;omega)⟩⟩
theorem XM(m:Mod)(hm:CtM m)(i:Nat)(r:Rul)(hi:m.rules[i]?=some r)(c:Val)(hc:BS m c):Aa PP 196 [Ag m,di i,dV c] σ0 (dP (apV r (stV c) (nmV c))) σ0:=by
 have hr:=hm.rule (HA hi)
 have hp:=hm.places
 have hil:=(H7.1 hi).1
 have hck:=TL m hm i hil c hc
 have hcc:=hc.isC
 have hyl:=hc.len
 have hnm:=hc.nm
 have he:=AbA r c _ _ hcc (by rw[hr.needL,hc.len]) (by omega)
 generalize stV c=s at*
 generalize nmV c=ys at*
 cases hb:enB r s ys with
 |false=>
  rw[hb] at he
  refine sv Yw 90 [3,5] (.c (di 0)<|.x (Ak r)<|.c (db false) .r) (F0 223 [Ag m,di (i:Int),dV c] (di 0)/\0<=(i:Int)/\(Aps m.rules)[Int.toNat (i:Int)]?=some (Ak r)/\F0 224 [Cl r,dV c] (db false)/\Azn [D.v (Azh [vi 0,Azf []]),di 18]=dP (apV r s ys)) ?_
  exact⟨hck,by omega,Aq hi,he,by rw[apV,hb];rfl⟩
 |true=>
  rw[hb] at he
  obtain⟨N,hN⟩:∃N,N=ys.length:=⟨_,rfl⟩
  have hN0:r.give≠ []:=by intro h;have:=hr.giveL;rw[h] at this;simp at this;omega
  have hgl:r.give.length=N:=by rw[hr.giveL];omega
  refine sv Yw 90 [3,5] (.c (di 0)<|.x (Ak r)<|.c (db true)<|.h (.q 7 2)<|.h (.oc (.arr 2 0 N) (stA r r.give))<|.lo [ke 6,ke 9,ke 10,ch 40 (dVs (ys.map lf)),ch 41 (di ys.length),ch 42 (di (0:Nat))] (stA r r.give)) (F0 223 [Ag m,di (i:Int),dV c] (di 0)/\0<=(i:Int)/\(Aps m.rules)[Int.toNat (i:Int)]?=some (Ak r)/\F0 224 [Cl r,dV c] (db true)/\(N0 [D.v (Azl 192 [] []),dIs r.give] (Azd [some [di 0,dn],some [D.v (Azg r.name),di r.frm,di r.to,dIs r.need,dIs r.give,dIs r.move,di r.chan,di r.act,di r.letter,dIs r.path,dIs r.next,D.v (AD r.takes),dIs r.makes,di r.second]] []) (Azi 2 0 N) (stA r r.give))/\(∀(x:V),x∈map eV c.kids->V.size x=2)/\0<=(1:Int)/\(1:Int)<=(length (Alj c.kids):Int)/\D.v (Azf (List.drop (Int.toNat ((1:Int))) (take (length (Alj c.kids)) (Alj c.kids))))=dVs (map lf ys)/\di (length (List.drop (Int.toNat ((1:Int))) (take (length (Alj c.kids)) (Alj c.kids))):Int)=di (ys.length:Int)/\di 0=di (↑0:Int)/\okH 3 [] (Ari r r.give)=true/\Q (Ari r r.give)/\I0 Yw σ0.H.length (dP (apV r s ys)) σ0 Aqe (mkE 90 [(6,Azb 0 0),(9,Azb 1 0),(10,Azi 2 0 N),(40,dVs (map lf ys)),(41,di (ys.length:Int)),(42,di (↑0:Int))]) (stA r r.give)) ?_
  have hd:=OJ hcc
  have hlen:c.kids.length=ys.length+1:=hcc.len
  refine⟨hck,by omega,Aq hi,he,fun o c' fo ho hc'=>?_,?_,by omega,?_,?_,?_,rfl,by simp[okH,D.okNs,D.okN,CU],rfl,⟨?_⟩⟩
  ·exact DY (σ:=⟨[some [di 0,.v .nils],some (cR r)],[]⟩) (fs:=[]) (cs:=[]) (ds:=[dIs r.give]) ho hc' rfl (Hc:=[none,some (cIs r.give)]) (j:=1) rfl (VR _) (by rw[←hgl];exact TB r.give (by omega) hN0)
  ·intro x hx;obtain⟨v,_,rfl⟩:=Il.1 hx;rw[Bz];rfl
  ·rw[H3];omega
  ·exact HR (fun l=>D.v (.list l)) hd
  ·have:=HR (fun l:List V=>di (l.length:Int)) hd
   simpa using this
  ·have h1:=Aej r ys (by rw[hr.needL];omega) (by omega) hnm hr.need N hN (by rw[hN,hyl];exact hr.move) _ 0 r.give rfl (by omega) hgl (fun w hw=>by have:=hr.give w hw;omega)
   rw[IW,IW,Aex r ys (by omega),Y3,Wd _ _ _ (by rw[AeD,Qc,List.length_replicate];omega)] at h1
   rw[apV,HP hb]
   exact h1
theorem Aga{r:Rul}{k:Nat}{x:Int}(hx:0<=x){ws:List Int}(h:∀w∈ws,0<=w):∀w∈mvS r k x ws,0<=w:=by
 intro w hw
 unfold mvS at hw
 split at hw
 ·rcases I8 hw with hw|hw
  ·exact h w hw
  ·rw[hw,HC]
   cases hi:ws[(mvT r k).toNat]? with
   |none=>simpa using hx
   |some v=>have:=h v (HA hi);simp only[IT];omega
 ·exact h w hw
theorem Acx(r:Rul):∀(ys ns:List Int) (k:Nat) (ws:List Int),F8 ns ys=true->(∀w∈ws,0<=w)->∀w∈mvL r k ys ns ws,0<=w
 |[],ns,k,ws,_,h=>by rw[Qb];exact h
 |y::ys,[],k,ws,_,h=>by simpa[mvL] using h
 |y::ys,n::ns,k,ws,hn,h=>by
  simp only[F8,H5,Iv,IM] at hn
  rw[mvL]
  exact Acx r ys ns (k+1) _ hn.2 (Aga (by omega) h)
theorem AbY{m:Mod}{r:Rul}(hr:Ajb m r){ys:List Int}(hy:ys.length=m.places.length):(Y3 r ys).length=m.places.length:=by
 have h2:=hr.giveL
 simp only[Y3,AeD,List.length_zipWith,Qc,List.length_replicate];omega
theorem Ahu{m:Mod}{r:Rul}(hr:Ajb m r){c:Val}(hc:BS m c):
  ((apV r (stV c) (nmV c)).2=0/\stV c=r.frm/\(apV r (stV c) (nmV c)).1=C5 r.to (Y3 r (nmV c))/\BS m (C5 r.to (Y3 r (nmV c))))∨(apV r (stV c) (nmV c)).2=1∨(apV r (stV c) (nmV c)).2=18:=by
 unfold apV
 split
 ·rename_i he
  simp only[enB,H5,Ie] at he
  rcases PS (AeD r (nmV c)) r.give [lf r.to] with⟨h1,h2,h3⟩|h1
  ·refine .inl ⟨h1,he.1,by rw[h2];rfl,XH m _ hr.to _ (AbY hr hc.len) fun z hz=>⟨?_,h3 z hz⟩⟩
   obtain⟨i,hi⟩:=List.getElem?_of_mem hz
   rw[Y3,List.getElem?_zipWith] at hi
   split at hi
   ·rename_i w g hw hg
    cases hi
    have b1:=Acx r (nmV c) r.need 0 (replicate (nmV c).length 0) he.2 (fun w hw=>by rw[(List.mem_replicate.1 hw).2];exact HV 0) w (HA hw)
    have b2:=(hr.give g (HA hg)).1
    omega
   ·cases hi
  ·exact .inr (.inl (by rw[h1]))
 ·exact .inr (.inr rfl)
def apT(m:Mod)(c:Val)(i:Int):List Val×Int:=if i<0 then([],0) else match m.rules[i.toNat]? with
 |some r=>Cj (apV r (stV c) (nmV c))
 |none=>([],0)
def CO(m:Mod)(c:Val):List Stp×Int:=D9 (apT m c) (m.rules.length+1) (-1) []
structure Aez(m:Mod)(c:Val)(s:Stp):Prop where
 rule:∃(i:Nat) (r:Rul),s.1=i/\m.rules[i]?=some r/\stV c=r.frm/\s.2=C5 r.to (Y3 r (nmV c))/\apV r (stV c) (nmV c)=(s.2,0)
 ok:BS m s.2
theorem Pp{m:Mod}(hm:CtM m){c:Val}(hc:BS m c)(i:Int):((apT m c i).2=0∨(apT m c i).2=1)/\(apT m c i).1.length<=1/\∀v∈ (apT m c i).1,Aez m c (i,v):=by
 unfold apT
 split
 ·exact⟨.inl rfl,by simp,by simp⟩
 ·rename_i h0
  split
  ·rename_i r hi
   have hr:=hm.rule (HA hi)
   rcases Ahu hr hc with⟨h1,h2,h3,h4⟩|h1|h1
   ·have:Cj (apV r (stV c) (nmV c))=([C5 r.to (Y3 r (nmV c))],0):=by
     rw[Cj,HL (by rw[h1];decide),HL (by rw[h1];decide),h3]
    rw[this]
    refine⟨.inl rfl,by simp,fun v hv=>?_⟩
    rw[HK.1 hv]
    exact⟨⟨i.toNat,r,by show i=_;omega,hi,h2,rfl,by rw[←h3, ←h1]⟩,h4⟩
   ·have:Cj (apV r (stV c) (nmV c))=([],1):=by rw[Cj,HL (by rw[h1];decide),HP (by rw[h1];decide),h1]
    rw[this];exact⟨.inr rfl,by simp,by simp⟩
   ·have:Cj (apV r (stV c) (nmV c))=([],0):=by rw[Cj,HP (by rw[h1];decide)]
    rw[this];exact⟨.inl rfl,by simp,by simp⟩
  ·exact⟨.inl rfl,by simp,by simp⟩
theorem Ht{m:Mod}(hm:CtM m){c:Val}(hc:BS m c):((CO m c).2=0∨(CO m c).2=1)/\(CO m c).1.length<=13/\∀s∈ (CO m c).1,Aez m c s:=by
 have:=hm.places
 obtain⟨h1,h2,h3⟩:=Q0 (ap:=apT m c) (fun i=>(Pp hm hc i).1) (fun i=>(Pp hm hc i).2.1) (Q:=Aez m c) (fun i=>(Pp hm hc i).2.2) (m.rules.length+1) (-1) [] (by simp)
 exact⟨h1,by simp only[HD] at h2;exact Iz h2 (by omega),h3⟩
theorem SA(m:Mod)(hm:CtM m):Aa PP 193 [Ag m] σ0 (di 0) σ0:=by
 refine sv Agn 12 [1] (.c (di 0)<|.k<|.f .r) (Ak1 m/\(m.kind==6)=false/\Q (di 0)) ?_
 exact⟨FH m hm.ok,by rw[hm.kind];rfl,rfl⟩
theorem SE(m:Mod)(hm:CtM m)(c:Val)(hc:BS m c):Aa PP 142 [Ag m,dV c] σ0 (di 0) σ0:=by
 refine sv AdO 15 [2,3] (.c (di 0)<|.c (db true) .r) (F0 193 [Ag m] (di 0)/\Am8 m c/\Q (di 0)) ?_
 have hsz:=hc.sizeM hm
 have h1:=Lq m hm.ok c (by omega)
 rw[hc.validM hm] at h1
 exact⟨SA m hm,h1,rfl⟩
theorem Vl(m:Mod)(hm:CtM m)(c:Val):Aa PP 194 [Ag m,dV c] σ0 (dVs []) σ0:=by
 refine sv AhF 31 [2,3] (.f<|.f<|.f .r) ((m.kind==2)=false/\(m.kind==3)=false/\(m.kind==5)=false/\D.v (Azf [])=dVs []) ?_
 exact⟨by rw[hm.kind];rfl,by rw[hm.kind];rfl,by rw[hm.kind];rfl,rfl⟩
theorem Ahq(m:Mod)(hm:CtM m)(c:Val):Aa PP 143 [Ag m,di (-1),dV c] σ0 (dLP ([],0)) σ0:=by
 refine sv AgP 56 [3,5] (.c (dVs []) .r) (F0 194 [Ag m,dV c] (dVs [])/\Azn [D.v (vVs []),di 0]=dLP ([],0)) ?_
 exact⟨Vl m hm c,rfl⟩
theorem Ahp(m:Mod)(hm:CtM m)(i:Nat)(c:Val)(p:Val×Int)(hp:Aa PP 196 [Ag m,di i,dV c] σ0 (dP p) σ0):Aa PP 143 [Ag m,di i,dV c] σ0 (dLP (Cj p)) σ0:=by
 refine sv AgP 56 [3,5] (.f<|.t<|.c (dP p)<|.c (dLP (Cj p)) .r) (((i:Int)== -1)=false/\(m.kind==1)=true/\F0 196 [Ag m,di (i:Int),dV c] (dP p)/\F0 195 [dV p.fst,di p.snd] (dLP (Cj p))/\Azn [D.v (vVs (Cj p).fst),di (Cj p).snd]=dLP (Cj p)) ?_
 exact⟨Ii.2 (by omega),by rw[hm.kind];rfl,hp,NZ p,rfl⟩
theorem XQ(m:Mod)(hm:CtM m)(c:Val)(hc:BS m c)(i:Int)(h1: -1<=i)(h2:i<m.rules.length):Aa PP 143 [Ag m,di i,dV c] σ0 (dLP (apT m c i)) σ0:=by
 by_cases h0:i<0
 ·have:i= -1:=by omega
  subst this
  exact Ahq m hm c
 ·obtain⟨k,rfl⟩:∃k:Nat,i=k:=⟨i.toNat,by omega⟩
  have hr:m.rules[k]?=some m.rules[k]:=H4 (show k<m.rules.length by omega)
  rw[apT,HL h0,show((k:Nat):Int).toNat=k by omega,hr]
  exact Ahp m hm k c _ (XM m hm k _ hr c hc)
theorem LS(m:Mod)(hm:CtM m)(c:Val)(hc:BS m c):Aa PP 92 [Ag m,dV c] σ0 (dSP (CO m c)) σ0:=by
 have hp:=hm.places
 refine sv G1 53 [2,3] (.c (di 0)<|.h (.q 5 0)<|.h (.nw 7 1 3)<|.ls [ke 2,ke 3,ke 7,ch 8 (di (-1))] (Wc [])) (F0 142 [Ag m,dV c] (di 0)/\Q (di (-1))/\Q [(1,3,nV)]/\I0 G1 σ0.H.length (dSP (CO m c)) σ0 [kl CL Ak2,Aza 0,kc CL [1,1,1,1]] (mkE 53 [(Aqw m),(Als c),(7,Azc 1 []),(8,di (-1))]) (Wc [])) ?_
 refine⟨SE m hm c hc,rfl,rfl,⟨?_⟩⟩
 exact Og m (by omega) c (apT m c) (fun i=>by have:=(Pp hm hc i).2.1;omega) (fun i h1 h2=>XQ m hm c hc i h1 h2) (m.rules.length+1) (-1) [] (by omega) (by omega) (by omega) (by simp)
def mkV(nm:List UInt8)(f t:Int)(nd gv mv:List Int):Rul:=⟨nm,f,t,nd,gv,mv,0,0,0,[],[],[],[],0⟩
structure Pr(ns np:Nat)(k:Nat)(r:Rul):Prop where
 name:dl3[k]?=some r.name
 frm:0<=r.frm/\r.frm<ns
 to:0<=r.to/\r.to<ns
 need:r.need.length=np/\∀x∈r.need,0<=x/\x<=2
 give:r.give.length=np/\∀x∈r.give,0<=x/\x<=2
 move:Ah2 r np
 rest:r=mkV r.name r.frm r.to r.need r.give r.move
structure Q1(m:Mod):Prop where
 kind:m.kind=1
 states:m.states=[[97]]∨m.states=[[97],[98]]
 places:m.places=[[120]]∨m.places=[[120],[121]]
 letters:m.letters=[]
 ranks:m.ranks=[]
 levels:m.levels=0
 age:m.age=0
 count:m.rules.length<=3
 rules:∀k r,m.rules[k]?=some r->Pr m.states.length m.places.length k r
 start:∃ys:List Int,ys.length=m.places.length/\(∀x∈ys,0<=x/\x<=3)/\m.start=C5 0 ys
theorem WF{ns np:Nat}{rs:List Rul}{k:Nat}{nm:List UInt8}{f t:Int}{nd gv mv:List Int}(hnm:dl3[k]?=some nm)(hf:0<=f/\f<ns)(ht:0<=t/\t<ns)(hn:nd.length=np/\∀x∈nd,0<=x/\x<=2)(hg:gv.length=np/\∀x∈gv,0<=x/\x<=2)(hm:mv=[]∨mv.length=np/\∀t∈mv, -1<=t/\t<np)(hrs:rs.length=k)(hR:∀i r,rs[i]?=some r->Pr ns np i r):∀i r,(rs++[mkV nm f t nd gv mv])[i]?=some r->Pr ns np i r:=fun i r hi=>by
 by_cases hik:i<rs.length
 ·rw[HQ hik] at hi;exact hR i r hi
 ·rw[HN (by omega)] at hi
  have h1:i-rs.length=0:=by
   have:=(H7.1 hi).1
   simp at this;omega
  rw[h1] at hi
  simp at hi;subst hi
  have hik2:i=k:=by omega
  subst hik2
  exact⟨hnm,hf,ht,hn,hg,hm,rfl⟩
theorem Xw{H:List (Option (List D))}{own:List (Nat×Nat×List V)}{q tag:Nat}{nm:List UInt8}{f t:Int}{nd gv xs:List Int}(hq:H[q]?=some (some [.v (.str nm),di f,di t,.v (vIs nd),.v (vIs gv),.acc tag (xs.map vi),di 0,di 0,di 0,.v .nils,.v .nils,.v .nils,.v .nils,di 0]))(e:List D):Cv e ⟨H,own⟩ e ⟨H.set q (some (cR (mkV nm f t nd gv xs))),own⟩:=
 El (σ:=⟨H,own⟩) (q:=q) hq (fun g us hr=>by
  have:=Ds (ts:=[]) (kn:=false) hr
  exact this) (fun _ x hx=>by
  simp only[cR,Ij,IU,or_false] at hx
  rcases hx with rfl|rfl|rfl|rfl|rfl|rfl|rfl|rfl|rfl|rfl|rfl|rfl|rfl|rfl<;>rfl) e
noncomputable abbrev Al7:=fun a₀ b₀ c₀ d₀=>Aa PP 48 [Azb 0 0,di (↑(length [[120],[121]]):Int),di 2] (dz a₀ b₀) (dIs c₀) (dz a₀ d₀)
noncomputable abbrev Ame:=fun a₀ b₀ c₀ d₀=>Aa PP 48 [Azb 0 0,di (↑(length [[120]]):Int),di 2] (dz a₀ b₀) (dIs c₀) (dz a₀ d₀)
noncomputable abbrev Amt:=(V.int i64 0)
noncomputable abbrev Anp:=fun a₀ b₀ c₀ d₀=>[some (cDz a₀ b₀),some zM,some (cM c₀ [[120],[121]] d₀),some zRl]
noncomputable abbrev Aob:=fun a₀ b₀ c₀ d₀=>[some (cDz a₀ b₀),some zM,some (cM c₀ [[120]] d₀),some zRl]
noncomputable abbrev Ap3:=fun a₀ b₀ c₀ d₀=>Aa PP 8 [Azb 0 0,di (wrap i64 ((↑(length [[120],[121]]):Int)+1))] (dz a₀ b₀) (di c₀) (dz a₀ d₀)
noncomputable abbrev Arb:=[[120],[121]]
theorem Xy(l:List UInt8)(hl:l.length<=200)(S Pl:List (List UInt8))(hS:S=[[97]]∨S=[[97],[98]])(hP:Pl=[[120]]∨Pl=[[120],[121]])(n:Nat):∀(k a:Nat) (rs:List Rul),3-k=n->a<=l.length->k<=3->rs.length=k->(∀i r,rs[i]?=some r->Pr S.length Pl.length i r)->
  ∃(m:Mod) (a':Nat),Q1 m/\a'<=l.length/\Rn PP Xe 1 (Ag m) (dz l a') ([.lp (sub Px [1,1,1,0,1,0,0]),.blk 0,.code (sub Px [1,1,1,1])]++[]) (mkE 85 [(0,.ptr 0 0),(1,db true),(4,.ptr 1 0),(5,.ptr 2 0),(6,di Pl.length),(7,di k)]) (stC l a S Pl rs):=by
 induction n using Nat.strongRecOn with
 |_ n ih=>
 intro k a rs hn ha hk3 hrs hR
 have hSl:1<=S.length/\S.length<=2:=by rcases hS with rfl|rfl<;>decide
 have hPl:1<=Pl.length/\Pl.length<=2:=by rcases hP with rfl|rfl<;>decide
 obtain⟨r,a1,h1,h2,h3,h4⟩:=Ax l hl a ha 3 (by decide) (by decide)
 by_cases hk:(k:Int)<1+r
 ·obtain⟨f,a2,f1,f2,f3,f4⟩:=Ax l hl a1 h3 S.length (by omega) (by omega)
  obtain⟨t,a3,t1,t2,t3,t4⟩:=Ax l hl a2 f3 S.length (by omega) (by omega)
  obtain⟨nd,a4,n1,n2,n3,n4⟩:=Fk l hl a3 t3 Pl.length (by omega) 2 (by decide) (by decide)
  obtain⟨gv,a5,g1,g2,g3,g4⟩:=Fk l hl a4 n1 Pl.length (by omega) 2 (by decide) (by decide)
  obtain⟨nm,hnm⟩:∃nm,dl3[k]?=some nm:=⟨_,H4 (show k<dl3.length by show k<3;omega)⟩
  obtain⟨w,a6,w1,w2,w3,w4⟩:=Ax l hl a5 g1 2 (by decide) (by decide)
  have hkr:decide ((k:Int)<wrap i64 (1+r))=true:=by rw[Al (by omega) (by omega)];exact H6 hk
  have hSm:((S.map V.str).length:Int)=(S.length:Int):=by rw[H3]
  by_cases hw:(w==0)=true
  ·rcases hP with hP|hP
   ·obtain⟨v1,a7,v11,v12,v13,v14⟩:=Ax l hl a6 w3 2 (by decide) (by decide)
    obtain⟨m,a',m1,m2,m3⟩:=ih (3- (k+1)) (by omega) (k+1) a7 (rs++[mkV nm f t nd gv [v1-1]]) rfl v13 (by omega) (by simp[hrs]) (WF hnm ⟨f1,f2⟩ ⟨t1,t2⟩ ⟨n2,n3⟩ ⟨g2,g3⟩ (.inr ⟨by rw[hP];rfl,fun t ht=>by rw[HK.1 ht,hP];show-1<=v1-1/\v1-1<((1:Nat):Int);omega⟩) hrs hR)
    refine⟨m,a',m1,m2,?_⟩
    subst hP
    refine lv 85 [] (.c1 (cDz l a1) (di r)<|.t<|.h (.dr 21)<|.x (.str nm)<|.c1 (cDz l a2) (di f)<|.c1 (cDz l a3) (di t)<|.c1 (cDz l a4) (dIs nd)<|.c1 (cDz l a5) (dIs gv)<|.h .rn<|.c1 (cDz l a6) (di w)<|.t<|.h (.q 8 0)<|.h (.cl 3 5 3 1)<|.n<|.m (.acc 3 [])<|.c1 (cDz l a7) (di v1)<|.n<|.f<|.h (.q 12 2)<|.h (.cs ⟨[some (cDz l a7),some zM,some (cM S [[120]] rs),some (cR (mkV nm f t nd gv [v1-1]))],[(3,1,[vi (v1-1)]),(2,14,rs.map Ak)]⟩)<|.ls [ke 0,ke 1,ke 4,ke 5,ke 6,ch 7 (di (k+1:Nat))] (stC l a7 S [[120]] (rs++[mkV nm f t nd gv [v1-1]]))) (Aa PP 8 [Azb 0 0,di 3] (dz l a) (di r) (dz l a1)/\decide ((k:Int)<wrap i64 (1+r))=true/\0<=(k:Int)/\[Azg (Aze #[114]).data.toList,Azg (Aze #[115]).data.toList,Azg (Aze #[116]).data.toList][Int.toNat (k:Int)]?=some (Azg nm)/\Aa PP 8 [Azb 0 0,di (length (map Azg S):Int)] (dz l a1) (di f) (dz l a2)/\Aa PP 8 [Azb 0 0,di (length (map Azg S):Int)] (dz l a1) (di f) (dz l a2)/\Q (di f)/\Aa PP 8 [Azb 0 0,di (length (map Azg S):Int)] (dz l a2) (di t) (dz l a3)/\Aa PP 8 [Azb 0 0,di (length (map Azg S):Int)] (dz l a2) (di t) (dz l a3)/\Q (di t)/\Aa PP 48 [Azb 0 0,di (↑(length [[120]]):Int),di 2] (dz l a3) (dIs nd) (dz l a4)/\Aa PP 48 [Azb 0 0,di (↑(length [[120]]):Int),di 2] (dz l a3) (dIs nd) (dz l a4)/\Q (dIs nd)/\Aa PP 48 [Azb 0 0,di (↑(length [[120]]):Int),di 2] (dz l a4) (dIs gv) (dz l a5)/\Aa PP 48 [Azb 0 0,di (↑(length [[120]]):Int),di 2] (dz l a4) (dIs gv) (dz l a5)/\Q (dIs gv)/\Q [Azd [some (cDz l a1),some zM,some (cM S [[120]] rs),some zRl] [(2,14,map Ak rs)],Azd [some (cDz l a2),some zM,some (cM S [[120]] rs),some zRl] [(2,14,map Ak rs)],Azd [some (cDz l a3),some zM,some (cM S [[120]] rs),some zRl] [(2,14,map Ak rs)],Azd [some (cDz l a4),some zM,some (cM S [[120]] rs),some zRl] [(2,14,map Ak rs)],Azd [some (cDz l a5),some zM,some (cM S [[120]] rs),some zRl] [(2,14,map Ak rs)]]/\((Q (some [D.v (vSs S)])/\Q (some [D.v (vSs S)])/\Q (some [D.v (vSs S)])/\Q (some [D.v (vSs S)])/\Q (some [D.v (vSs S)])/\Q (some [D.v (vSs S)])/\Q (some [D.v (vSs S)])/\Q (some [D.v (vSs S)])/\Q (some [D.v (vSs S)])/\Q (some [D.v (vSs S)])/\Q (some [D.v (vSs S)])/\True)/\(Q (some [D.v (vSs S)])/\Q (some [D.v (vSs S)])/\Q (some [D.v (vSs S)])/\Q (some [D.v (vSs S)])/\Q (some [D.v (vSs S)])/\Q (some [D.v (vSs S)])/\Q (some [D.v (vSs S)])/\Q (some [D.v (vSs S)])/\Q (some [D.v (vSs S)])/\Q (some [D.v (vSs S)])/\Q (some [D.v (vSs S)])/\True)/\True)/\Aa PP 8 [Azb 0 0,di 2] (dz l a5) (di w) (dz l a6)/\(w==0)=true/\Q (some (Azc 3 []))/\Aa PP 8 [Azb 0 0,di (wrap i64 ((↑(length [[120]]):Int)+1))] (dz l a6) (di v1) (dz l a7)/\Q nV/\Ar 1 8/\((Q (some [Azc 3 []])/\True)/\True)/\decide (wrap i64 (0+1)<(↑(length [[120]]):Int))=false/\(∀(e:List D) (E:Ent) (g:Gh) (a:Act) (w:World),FI E g (Azd [some (cDz l a7),some zM,some (cM S [[120]] rs),some [D.v (Azg nm),D.v (V.int i64 f),D.v (V.int i64 t),dIs nd,dIs gv,Azc 3 ([]++[V.int i64 (wrap i64 (v1-1))]),D.v (V.int i64 0),D.v (V.int i64 0),D.v (V.int i64 0),dn,dn,dn,dn,D.v (V.int i64 0)]] [(3,1,[]++[V.int i64 (wrap i64 (v1-1))]),(2,14,map Ak rs)]) e a w->∃g',FI E g' (Azd [some (cDz l a7),some zM,some (cM S [[120]] rs),some (cR (mkV nm f t nd gv [v1-1]))] [(3,1,[vi (v1-1)]),(2,14,map Ak rs)]) e a w)/\Q (map Ak rs)/\Ar (length (map Ak rs)+length (Azh (Azg (mkV nm f t nd gv [v1-1]).name::V.int i64 (mkV nm f t nd gv [v1-1]).frm::V.int i64 (mkV nm f t nd gv [v1-1]).to::vIs (mkV nm f t nd gv [v1-1]).need::vIs (mkV nm f t nd gv [v1-1]).give::vIs (mkV nm f t nd gv [v1-1]).move::V.int i64 (mkV nm f t nd gv [v1-1]).chan::V.int i64 (mkV nm f t nd gv [v1-1]).act::V.int i64 (mkV nm f t nd gv [v1-1]).letter::vIs (mkV nm f t nd gv [v1-1]).path::vIs (mkV nm f t nd gv [v1-1]).next::AD (mkV nm f t nd gv [v1-1]).takes::vIs (mkV nm f t nd gv [v1-1]).makes::V.int i64 (mkV nm f t nd gv [v1-1]).second::nV)::nV)) 232/\di (wrap i64 ((k:Int)+1))=di (↑(k+1):Int)/\[some (cDz l a7),some zM,some [di 1,D.v (vSs S),D.v (vSs [[120]]),dn,dn,di 0,di 0,Azc 2 (map Ak rs++Azh (Azg (mkV nm f t nd gv [v1-1]).name::vi (mkV nm f t nd gv [v1-1]).frm::vi (mkV nm f t nd gv [v1-1]).to::vIs (mkV nm f t nd gv [v1-1]).need::vIs (mkV nm f t nd gv [v1-1]).give::vIs (mkV nm f t nd gv [v1-1]).move::vi (mkV nm f t nd gv [v1-1]).chan::vi (mkV nm f t nd gv [v1-1]).act::vi (mkV nm f t nd gv [v1-1]).letter::vIs (mkV nm f t nd gv [v1-1]).path::vIs (mkV nm f t nd gv [v1-1]).next::AD (mkV nm f t nd gv [v1-1]).takes::vIs (mkV nm f t nd gv [v1-1]).makes::vi (mkV nm f t nd gv [v1-1]).second::nV)::nV),di 0,dn]]=[some (cDz l a7),some zM,some (cM S [[120]] (rs++[mkV nm f t nd gv [v1-1]]))]/\[(2,14,map Ak rs++Azh (Azg (mkV nm f t nd gv [v1-1]).name::vi (mkV nm f t nd gv [v1-1]).frm::vi (mkV nm f t nd gv [v1-1]).to::vIs (mkV nm f t nd gv [v1-1]).need::vIs (mkV nm f t nd gv [v1-1]).give::vIs (mkV nm f t nd gv [v1-1]).move::vi (mkV nm f t nd gv [v1-1]).chan::vi (mkV nm f t nd gv [v1-1]).act::vi (mkV nm f t nd gv [v1-1]).letter::vIs (mkV nm f t nd gv [v1-1]).path::vIs (mkV nm f t nd gv [v1-1]).next::AD (mkV nm f t nd gv [v1-1]).takes::vIs (mkV nm f t nd gv [v1-1]).makes::vi (mkV nm f t nd gv [v1-1]).second::nV)::nV)]=[(2,14,map Ak (rs++[mkV nm f t nd gv [v1-1]]))]/\I0 Xe 1 (Ag m) (dz l a') [kl Px [1,1,1,0,1,0,0],Aza 0,kc Px [1,1,1,1]] (mkE 85 [(0,Azb 0 0),(1,db true),(4,Azb 1 0),(5,Azb 2 0),(6,di (↑(length [[120]]):Int)),(7,di (↑(k+1):Int))]) (stC l a7 S [[120]] (rs++[mkV nm f t nd gv [v1-1]]))) ?_
    rw[hSm,Al (n:=v1-1) (by omega) (by omega)]
    repeat' first|with_reducible refine And.intro ?_ ?_
    all_goals first|exact h4|exact hkr|exact f4|exact t4|exact n4|exact g4|exact w4|exact hw|exact v14|exact Cm hnm|exact⟨m3⟩|exact Ad (by omega)|omega|rfl|trivial|skip
    all_goals first|exact HR (fun z=>[some (cDz l a7),some zM,some [di 1,.v (vSs S),.v (vSs [[120]]),.v .nils,.v .nils,di 0,di 0,.acc 2 z,di 0,.v .nils]]) (AL rs (mkV nm f t nd gv [v1-1]))|exact HR (fun z=>[(2,14,z)]) (AL rs (mkV nm f t nd gv [v1-1]))|(simp only[H3,H9,HD];omega)|exact(fun e=>Xw (H:=[some (cDz l a7),some zM,some (cM S [[120]] rs),some [.v (.str nm),di f,di t,.v (vIs nd),.v (vIs gv),.acc 3 ([v1-1].map vi),di 0,di 0,di 0,.v .nils,.v .nils,.v .nils,.v .nils,di 0]]) (own:=[(3,1,[v1-1].map vi),(2,14,rs.map Ak)]) (q:=3) (tag:=3) (nm:=nm) (f:=f) (t:=t) (nd:=nd) (gv:=gv) (xs:=[v1-1]) rfl e)
   ·obtain⟨v1,a7,v11,v12,v13,v14⟩:=Ax l hl a6 w3 3 (by decide) (by decide)
    obtain⟨v2,a8,v21,v22,v23,v24⟩:=Ax l hl a7 v13 3 (by decide) (by decide)
    obtain⟨m,a',m1,m2,m3⟩:=ih (3- (k+1)) (by omega) (k+1) a8 (rs++[mkV nm f t nd gv [v1-1,v2-1]]) rfl v23 (by omega) (by simp[hrs]) (WF hnm ⟨f1,f2⟩ ⟨t1,t2⟩ ⟨n2,n3⟩ ⟨g2,g3⟩ (.inr ⟨by rw[hP];rfl,fun t ht=>by
     rw[hP];show-1<=t/\t<((2:Nat):Int)
     simp only[Ij,IU,or_false] at ht
     omega⟩) hrs hR)
    refine⟨m,a',m1,m2,?_⟩
    subst hP
    refine lv 85 [] (.c1 (cDz l a1) (di r)<|.t<|.h (.dr 21)<|.x (.str nm)<|.c1 (cDz l a2) (di f)<|.c1 (cDz l a3) (di t)<|.c1 (cDz l a4) (dIs nd)<|.c1 (cDz l a5) (dIs gv)<|.h .rn<|.c1 (cDz l a6) (di w)<|.t<|.h (.q 8 0)<|.h (.cl 3 5 3 1)<|.n<|.m (.acc 3 [])<|.c1 (cDz l a7) (di v1)<|.n<|.t<|.m (.acc 3 [vi (v1-1)])<|.c1 (cDz l a8) (di v2)<|.n<|.f<|.h (.q 12 2)<|.h (.cs ⟨[some (cDz l a8),some zM,some (cM S [[120],[121]] rs),some (cR (mkV nm f t nd gv [v1-1,v2-1]))],[(3,1,[vi (v1-1),vi (v2-1)]),(2,14,rs.map Ak)]⟩)<|.ls [ke 0,ke 1,ke 4,ke 5,ke 6,ch 7 (di (k+1:Nat))] (stC l a8 S [[120],[121]] (rs++[mkV nm f t nd gv [v1-1,v2-1]]))) (Aa PP 8 [Azb 0 0,di 3] (dz l a) (di r) (dz l a1)/\decide ((k:Int)<wrap i64 (1+r))=true/\0<=(k:Int)/\[Azg (Aze #[114]).data.toList,Azg (Aze #[115]).data.toList,Azg (Aze #[116]).data.toList][Int.toNat (k:Int)]?=some (Azg nm)/\Aa PP 8 [Azb 0 0,di (length (map Azg S):Int)] (dz l a1) (di f) (dz l a2)/\Aa PP 8 [Azb 0 0,di (length (map Azg S):Int)] (dz l a1) (di f) (dz l a2)/\Q (di f)/\Aa PP 8 [Azb 0 0,di (length (map Azg S):Int)] (dz l a2) (di t) (dz l a3)/\Aa PP 8 [Azb 0 0,di (length (map Azg S):Int)] (dz l a2) (di t) (dz l a3)/\Q (di t)/\Aa PP 48 [Azb 0 0,di (↑(length [[120],[121]]):Int),di 2] (dz l a3) (dIs nd) (dz l a4)/\Aa PP 48 [Azb 0 0,di (↑(length [[120],[121]]):Int),di 2] (dz l a3) (dIs nd) (dz l a4)/\Q (dIs nd)/\Aa PP 48 [Azb 0 0,di (↑(length [[120],[121]]):Int),di 2] (dz l a4) (dIs gv) (dz l a5)/\Aa PP 48 [Azb 0 0,di (↑(length [[120],[121]]):Int),di 2] (dz l a4) (dIs gv) (dz l a5)/\Q (dIs gv)/\Q [Azd [some (cDz l a1),some zM,some (cM S [[120],[121]] rs),some zRl] [(2,14,map Ak rs)],Azd [some (cDz l a2),some zM,some (cM S [[120],[121]] rs),some zRl] [(2,14,map Ak rs)],Azd [some (cDz l a3),some zM,some (cM S [[120],[121]] rs),some zRl] [(2,14,map Ak rs)],Azd [some (cDz l a4),some zM,some (cM S [[120],[121]] rs),some zRl] [(2,14,map Ak rs)],Azd [some (cDz l a5),some zM,some (cM S [[120],[121]] rs),some zRl] [(2,14,map Ak rs)]]/\((Q (some [D.v (vSs S)])/\Q (some [D.v (vSs S)])/\Q (some [D.v (vSs S)])/\Q (some [D.v (vSs S)])/\Q (some [D.v (vSs S)])/\Q (some [D.v (vSs S)])/\Q (some [D.v (vSs S)])/\Q (some [D.v (vSs S)])/\Q (some [D.v (vSs S)])/\Q (some [D.v (vSs S)])/\Q (some [D.v (vSs S)])/\True)/\(Q (some [D.v (vSs S)])/\Q (some [D.v (vSs S)])/\Q (some [D.v (vSs S)])/\Q (some [D.v (vSs S)])/\Q (some [D.v (vSs S)])/\Q (some [D.v (vSs S)])/\Q (some [D.v (vSs S)])/\Q (some [D.v (vSs S)])/\Q (some [D.v (vSs S)])/\Q (some [D.v (vSs S)])/\Q (some [D.v (vSs S)])/\True)/\True)/\Aa PP 8 [Azb 0 0,di 2] (dz l a5) (di w) (dz l a6)/\(w==0)=true/\Q (some (Azc 3 []))/\Aa PP 8 [Azb 0 0,di (wrap i64 ((↑(length [[120],[121]]):Int)+1))] (dz l a6) (di v1) (dz l a7)/\Q nV/\Ar 1 8/\((Q (some [Azc 3 []])/\True)/\True)/\decide (wrap i64 (0+1)<(↑(length [[120],[121]]):Int))=true/\some (Azc 3 [vi (wrap i64 (v1-1))])=some (Azc 3 [vi (v1-1)])/\Aa PP 8 [Azb 0 0,di (wrap i64 ((↑(length [[120],[121]]):Int)+1))] (dz l a7) (di v2) (dz l a8)/\vi (wrap i64 (v1-1))::nV=vi (v1-1)::nV/\Ar 2 8/\((Q (some [Azc 3 [vi (wrap i64 (v1-1))]])/\True)/\True)/\decide (wrap i64 (wrap i64 (0+1)+1)<(↑(length [[120],[121]]):Int))=false/\(∀(e:List D) (E:Ent) (g:Gh) (a:Act) (w:World),FI E g (Azd [some (cDz l a8),some zM,some (cM S [[120],[121]] rs),some [D.v (Azg nm),D.v (V.int i64 f),D.v (V.int i64 t),dIs nd,dIs gv,Azc 3 ([vi (v1-1)]++[V.int i64 (wrap i64 (v2-1))]),D.v (V.int i64 0),D.v (V.int i64 0),D.v (V.int i64 0),dn,dn,dn,dn,D.v (V.int i64 0)]] [(3,1,[vi (v1-1)]++[V.int i64 (wrap i64 (v2-1))]),(2,14,map Ak rs)]) e a w->∃g',FI E g' (Azd [some (cDz l a8),some zM,some (cM S [[120],[121]] rs),some (cR (mkV nm f t nd gv [v1-1,v2-1]))] [(3,1,[vi (v1-1),vi (v2-1)]),(2,14,map Ak rs)]) e a w)/\Q (map Ak rs)/\Ar (length (map Ak rs)+length (Azh (Azg (mkV nm f t nd gv [v1-1,v2-1]).name::V.int i64 (mkV nm f t nd gv [v1-1,v2-1]).frm::V.int i64 (mkV nm f t nd gv [v1-1,v2-1]).to::vIs (mkV nm f t nd gv [v1-1,v2-1]).need::vIs (mkV nm f t nd gv [v1-1,v2-1]).give::vIs (mkV nm f t nd gv [v1-1,v2-1]).move::V.int i64 (mkV nm f t nd gv [v1-1,v2-1]).chan::V.int i64 (mkV nm f t nd gv [v1-1,v2-1]).act::V.int i64 (mkV nm f t nd gv [v1-1,v2-1]).letter::vIs (mkV nm f t nd gv [v1-1,v2-1]).path::vIs (mkV nm f t nd gv [v1-1,v2-1]).next::AD (mkV nm f t nd gv [v1-1,v2-1]).takes::vIs (mkV nm f t nd gv [v1-1,v2-1]).makes::V.int i64 (mkV nm f t nd gv [v1-1,v2-1]).second::nV)::nV)) 232/\di (wrap i64 ((k:Int)+1))=di (↑(k+1):Int)/\[some (cDz l a8),some zM,some [di 1,D.v (vSs S),D.v (vSs [[120],[121]]),dn,dn,di 0,di 0,Azc 2 (map Ak rs++Azh (Azg (mkV nm f t nd gv [v1-1,v2-1]).name::vi (mkV nm f t nd gv [v1-1,v2-1]).frm::vi (mkV nm f t nd gv [v1-1,v2-1]).to::vIs (mkV nm f t nd gv [v1-1,v2-1]).need::vIs (mkV nm f t nd gv [v1-1,v2-1]).give::vIs (mkV nm f t nd gv [v1-1,v2-1]).move::vi (mkV nm f t nd gv [v1-1,v2-1]).chan::vi (mkV nm f t nd gv [v1-1,v2-1]).act::vi (mkV nm f t nd gv [v1-1,v2-1]).letter::vIs (mkV nm f t nd gv [v1-1,v2-1]).path::vIs (mkV nm f t nd gv [v1-1,v2-1]).next::AD (mkV nm f t nd gv [v1-1,v2-1]).takes::vIs (mkV nm f t nd gv [v1-1,v2-1]).makes::vi (mkV nm f t nd gv [v1-1,v2-1]).second::nV)::nV),di 0,dn]]=[some (cDz l a8),some zM,some (cM S [[120],[121]] (rs++[mkV nm f t nd gv [v1-1,v2-1]]))]/\[(2,14,map Ak rs++Azh (Azg (mkV nm f t nd gv [v1-1,v2-1]).name::vi (mkV nm f t nd gv [v1-1,v2-1]).frm::vi (mkV nm f t nd gv [v1-1,v2-1]).to::vIs (mkV nm f t nd gv [v1-1,v2-1]).need::vIs (mkV nm f t nd gv [v1-1,v2-1]).give::vIs (mkV nm f t nd gv [v1-1,v2-1]).move::vi (mkV nm f t nd gv [v1-1,v2-1]).chan::vi (mkV nm f t nd gv [v1-1,v2-1]).act::vi (mkV nm f t nd gv [v1-1,v2-1]).letter::vIs (mkV nm f t nd gv [v1-1,v2-1]).path::vIs (mkV nm f t nd gv [v1-1,v2-1]).next::AD (mkV nm f t nd gv [v1-1,v2-1]).takes::vIs (mkV nm f t nd gv [v1-1,v2-1]).makes::vi (mkV nm f t nd gv [v1-1,v2-1]).second::nV)::nV)]=[(2,14,map Ak (rs++[mkV nm f t nd gv [v1-1,v2-1]]))]/\I0 Xe 1 (Ag m) (dz l a') [kl Px [1,1,1,0,1,0,0],Aza 0,kc Px [1,1,1,1]] (mkE 85 [(0,Azb 0 0),(1,db true),(4,Azb 1 0),(5,Azb 2 0),(6,di (↑(length [[120],[121]]):Int)),(7,di (↑(k+1):Int))]) (stC l a8 S [[120],[121]] (rs++[mkV nm f t nd gv [v1-1,v2-1]]))) ?_
    rw[hSm,Al (n:=v1-1) (by omega) (by omega),Al (n:=v2-1) (by omega) (by omega)]
    repeat' first|with_reducible refine And.intro ?_ ?_
    all_goals first|exact h4|exact hkr|exact f4|exact t4|exact n4|exact g4|exact w4|exact hw|exact v14|exact v24|exact Cm hnm|exact⟨m3⟩|exact Ad (by omega)|omega|rfl|trivial|skip
    all_goals first|exact HR (fun z=>[some (cDz l a8),some zM,some [di 1,.v (vSs S),.v (vSs [[120],[121]]),.v .nils,.v .nils,di 0,di 0,.acc 2 z,di 0,.v .nils]]) (AL rs (mkV nm f t nd gv [v1-1,v2-1]))|exact HR (fun z=>[(2,14,z)]) (AL rs (mkV nm f t nd gv [v1-1,v2-1]))|(simp only[H3,H9,HD];omega)|exact(fun e=>Xw (H:=[some (cDz l a8),some zM,some (cM S [[120],[121]] rs),some [.v (.str nm),di f,di t,.v (vIs nd),.v (vIs gv),.acc 3 ([v1-1,v2-1].map vi),di 0,di 0,di 0,.v .nils,.v .nils,.v .nils,.v .nils,di 0]]) (own:=[(3,1,[v1-1,v2-1].map vi),(2,14,rs.map Ak)]) (q:=3) (tag:=3) (nm:=nm) (f:=f) (t:=t) (nd:=nd) (gv:=gv) (xs:=[v1-1,v2-1]) rfl e)
  ·obtain⟨m,a',m1,m2,m3⟩:=ih (3- (k+1)) (by omega) (k+1) a6 (rs++[mkV nm f t nd gv []]) rfl w3 (by omega) (by simp[hrs]) (WF hnm ⟨f1,f2⟩ ⟨t1,t2⟩ ⟨n2,n3⟩ ⟨g2,g3⟩ (.inl rfl) hrs hR)
   refine⟨m,a',m1,m2,?_⟩
   refine lv 85 [] (.c1 (cDz l a1) (di r)<|.t<|.h (.dr 21)<|.x (.str nm)<|.c1 (cDz l a2) (di f)<|.c1 (cDz l a3) (di t)<|.c1 (cDz l a4) (dIs nd)<|.c1 (cDz l a5) (dIs gv)<|.c1 (cDz l a6) (di w)<|.f<|.ls [ke 0,ke 1,ke 4,ke 5,ke 6,ch 7 (di (k+1:Nat))] (stC l a6 S Pl (rs++[mkV nm f t nd gv []]))) (Aa PP 8 [Azb 0 0,di 3] (dz l a) (di r) (dz l a1)/\decide ((k:Int)<wrap i64 (1+r))=true/\0<=(k:Int)/\[Azg (Aze #[114]).data.toList,Azg (Aze #[115]).data.toList,Azg (Aze #[116]).data.toList][Int.toNat (k:Int)]?=some (Azg nm)/\Aa PP 8 [Azb 0 0,di (length (map Azg S):Int)] (dz l a1) (di f) (dz l a2)/\Aa PP 8 [Azb 0 0,di (length (map Azg S):Int)] (dz l a1) (di f) (dz l a2)/\Q (di f)/\Aa PP 8 [Azb 0 0,di (length (map Azg S):Int)] (dz l a2) (di t) (dz l a3)/\Aa PP 8 [Azb 0 0,di (length (map Azg S):Int)] (dz l a2) (di t) (dz l a3)/\Q (di t)/\Aa PP 48 [Azb 0 0,di (Pl.length:Int),di 2] (dz l a3) (dIs nd) (dz l a4)/\Aa PP 48 [Azb 0 0,di (Pl.length:Int),di 2] (dz l a3) (dIs nd) (dz l a4)/\Q (dIs nd)/\Aa PP 48 [Azb 0 0,di (Pl.length:Int),di 2] (dz l a4) (dIs gv) (dz l a5)/\Aa PP 48 [Azb 0 0,di (Pl.length:Int),di 2] (dz l a4) (dIs gv) (dz l a5)/\Q (dIs gv)/\Q [Azd [some (cDz l a1),some zM,some (cM S Pl rs),some zRl] [(2,14,map Ak rs)],Azd [some (cDz l a2),some zM,some (cM S Pl rs),some zRl] [(2,14,map Ak rs)],Azd [some (cDz l a3),some zM,some (cM S Pl rs),some zRl] [(2,14,map Ak rs)],Azd [some (cDz l a4),some zM,some (cM S Pl rs),some zRl] [(2,14,map Ak rs)],Azd [some (cDz l a5),some zM,some (cM S Pl rs),some zRl] [(2,14,map Ak rs)]]/\((Q (some [D.v (vSs S)])/\Q (some [D.v (vSs S)])/\Q (some [D.v (vSs S)])/\Q (some [D.v (vSs S)])/\Q (some [D.v (vSs S)])/\Q (some [D.v (vSs S)])/\Q (some [D.v (vSs S)])/\Q (some [D.v (vSs S)])/\Q (some [D.v (vSs S)])/\Q (some [D.v (vSs S)])/\Q (some [D.v (vSs S)])/\True)/\(Q (some [D.v (vSs S)])/\Q (some [D.v (vSs S)])/\Q (some [D.v (vSs S)])/\Q (some [D.v (vSs S)])/\Q (some [D.v (vSs S)])/\Q (some [D.v (vSs S)])/\Q (some [D.v (vSs S)])/\Q (some [D.v (vSs S)])/\Q (some [D.v (vSs S)])/\Q (some [D.v (vSs S)])/\Q (some [D.v (vSs S)])/\True)/\True)/\Aa PP 8 [Azb 0 0,di 2] (dz l a5) (di w) (dz l a6)/\(w==0)=false/\Q (map Ak rs)/\Ar (length (map Ak rs)+length (Azh (Azg nm::V.int i64 f::V.int i64 t::vIs nd::vIs gv::Azf nV::V.int i64 0::V.int i64 0::V.int i64 0::Azf nV::Azf nV::Azf nV::Azf nV::V.int i64 0::nV)::nV)) 232/\di (wrap i64 ((k:Int)+1))=di (↑(k+1):Int)/\[some (cDz l a6),some zM,some [di 1,D.v (vSs S),D.v (vSs Pl),dn,dn,di 0,di 0,Azc 2 (map Ak rs++Azh (Azg nm::vi f::vi t::vIs nd::vIs gv::Azf nV::vi 0::vi 0::vi 0::Azf nV::Azf nV::Azf nV::Azf nV::vi 0::nV)::nV),di 0,dn]]=[some (cDz l a6),some zM,some (cM S Pl (rs++[mkV nm f t nd gv []]))]/\[(2,14,map Ak rs++Azh (Azg nm::vi f::vi t::vIs nd::vIs gv::Azf nV::vi 0::vi 0::vi 0::Azf nV::Azf nV::Azf nV::Azf nV::vi 0::nV)::nV)]=[(2,14,map Ak (rs++[mkV nm f t nd gv []]))]/\I0 Xe 1 (Ag m) (dz l a') [kl Px [1,1,1,0,1,0,0],Aza 0,kc Px [1,1,1,1]] (mkE 85 [(0,Azb 0 0),(1,db true),(4,Azb 1 0),(5,Azb 2 0),(6,di (Pl.length:Int)),(7,di (↑(k+1):Int))]) (stC l a6 S Pl (rs++[mkV nm f t nd gv []]))) ?_
   rw[hSm]
   repeat' first|with_reducible refine And.intro ?_ ?_
   all_goals first|exact h4|exact hkr|exact f4|exact t4|exact n4|exact g4|exact w4|exact HG hw|exact Cm hnm|exact⟨m3⟩|exact Ad (by omega)|omega|rfl|trivial|skip
   all_goals first|exact HR (fun z=>[some (cDz l a6),some zM,some [di 1,.v (vSs S),.v (vSs Pl),.v .nils,.v .nils,di 0,di 0,.acc 2 z,di 0,.v .nils]]) (AL rs (mkV nm f t nd gv []))|exact HR (fun z=>[(2,14,z)]) (AL rs (mkV nm f t nd gv []))|(simp only[H3,H9,HD];omega)
 ·obtain⟨ys,a2,y1,y2,y3,y4⟩:=Fk l hl a1 h3 Pl.length (by omega) 3 (by decide) (by decide)
  obtain⟨c,hc⟩:∃c,c=C5 0 ys:=⟨_,rfl⟩
  refine⟨⟨1,S,Pl,[],[],0,0,rs,c⟩,a2,⟨rfl,hS,hP,rfl,rfl,rfl,rfl,by show rs.length<=3;omega,hR,ys,y2,y3,hc⟩,y1,?_⟩
  refine lv 85 [] (.c1 (cDz l a1) (di r)<|.f<|.c1 (cDz l a2) (dIs ys)<|.c (dV c) .r) (Aa PP 8 [Azb 0 0,di 3] (dz l a) (di r) (dz l a1)/\decide ((k:Int)<wrap i64 (1+r))=false/\Aa PP 48 [Azb 0 0,di (Pl.length:Int),di 3] (dz l a1) (dIs ys) (dz l a2)/\F0 49 [di 0,dIs ys] (dV c)/\Q [some (cDz l a2)]/\D.v (Azh [vi 1,Azf (map Azg S),Azf (map Azg Pl),Azf [],Azf [],vi 0,vi 0,Azf (map Ak rs),vi c.n,Azf (map eV c.kids)])=Ag (Mod.mk 1 S Pl [] [] 0 0 rs c)) ?_
  refine⟨h4,?_,y4,hc▸JJ ys (by omega) 0,rfl,rfl⟩
  rw[Al (by omega) (by omega)];exact H8 hk
theorem AdZ(l:List UInt8)(hl:l.length<=200)(a:Nat)(ha:a<=l.length):
  ∃(m:Mod) (a':Nat),Q1 m/\a'<=l.length/\Aa PP 19 [.ptr 0 0,db true] (dz l a) (Ag m) (dz l a'):=by
 obtain⟨r1,a1,h1,h2,h3,h4⟩:=Ax l hl a ha 2 (by decide) (by decide)
 obtain⟨r2,a2,h5,h6,h7,h8⟩:=Ax l hl a1 h3 2 (by decide) (by decide)
 obtain⟨S,hS,hS2⟩:∃S:List (List UInt8),(S=[[97]]∨S=[[97],[98]])/\(r1=0/\S=[[97]]∨r1=1/\S=[[97],[98]]):=by
  rcases(show r1=0∨r1=1 by omega) with h|h
  ·exact⟨_,.inl rfl,.inl ⟨h,rfl⟩⟩
  ·exact⟨_,.inr rfl,.inr ⟨h,rfl⟩⟩
 obtain⟨Pl,hP,hP2⟩:∃S:List (List UInt8),(S=[[120]]∨S=[[120],[121]])/\(r2=0/\S=[[120]]∨r2=1/\S=[[120],[121]]):=by
  rcases(show r2=0∨r2=1 by omega) with h|h
  ·exact⟨_,.inl rfl,.inl ⟨h,rfl⟩⟩
  ·exact⟨_,.inr rfl,.inr ⟨h,rfl⟩⟩
 obtain⟨m,a',m1,m2,m3⟩:=Xy l hl S Pl hS hP _ 0 a2 [] rfl h7 (by omega) rfl (fun i r h=>by simp at h)
 refine⟨m,a',m1,m2,?_⟩
 refine sv Xe 85 [] (.h (.dr 11)<|.c1 (cDz l a1) (di r1)<|.c1 (cDz l a2) (di r2)<|.h .rn<|.h (.q 3 0)<|.h (.cl 2 7 2 14)<|.ls [ke 0,ke 1,ke 4,ke 5,ch 6 (di Pl.length),ch 7 (di (0:Nat))] (stC l a2 S Pl [])) (Akp l a r1 a1/\Akp l a r1 a1/\Q (di r1)/\(∀(x:V),x∈ Alt->V.size x=1)/\0<=(fun x=>x.snd) (i64,wrap i64 (1+r1))/\(fun x=>x.snd) (i64,wrap i64 (1+r1))<=(↑(length Alt):Int)/\Akp l a1 r2 a2/\Akp l a1 r2 a2/\Q (di r2)/\(∀(x:V),x∈ Akv->V.size x=1)/\0<=(fun x=>x.snd) (i64,wrap i64 (1+r2))/\(fun x=>x.snd) (i64,wrap i64 (1+r2))<=(↑(length Akv):Int)/\Q [Azd (Ali l a) [],Azd (Ali l a1) [],Azd (Ali l a2) []]/\True/\di (length (List.drop 0 (take (Int.toNat ((fun x=>x.snd) (i64,wrap i64 (1+r2)))) Ama)):Int)=di (Pl.length:Int)/\di 0=di (↑0:Int)/\[some (cDz l a2),some zMl,some [di 1,D.v (Azf (List.drop 0 (take (Int.toNat ((fun x=>x.snd) (i64,wrap i64 (1+r1)))) An7))),D.v (Azf (List.drop 0 (take (Int.toNat ((fun x=>x.snd) (i64,wrap i64 (1+r2)))) Ama))),dn,dn,di 0,di 0,Azc 2 nV,di 0,dn]]=[some (cDz l a2),some zM,some (cM S Pl [])]/\Q [(2,14,nV)]/\I0 Xe (length (dz l a).H) (Ag m) (dz l a') An4 (mkE 85 [Ald,(1,db true),Arg,Arf,(6,di (Pl.length:Int)),(7,di (↑0:Int))]) (stC l a2 S Pl [])) ?_
 refine⟨h4,h4,rfl,by simp[V.size],?_,?_,h8,h8,rfl,by simp[V.size],?_,?_,rfl,trivial,?_,rfl,?_,rfl,⟨m3⟩⟩
 ·show 0<=i64.wrap (1+r1);rw[Al (by omega) (by omega)];omega
 ·show i64.wrap (1+r1)<=2;rw[Al (by omega) (by omega)];omega
 ·show 0<=i64.wrap (1+r2);rw[Al (by omega) (by omega)];omega
 ·show i64.wrap (1+r2)<=2;rw[Al (by omega) (by omega)];omega
 ·rcases hP2 with⟨rfl,rfl⟩|⟨rfl,rfl⟩<;>rfl
 ·rcases hS2 with⟨rfl,rfl⟩|⟨rfl,rfl⟩<;>rcases hP2 with⟨rfl,rfl⟩|⟨rfl,rfl⟩<;>rfl
theorem Pr.short{ns np k:Nat}{r:Rul}(h:Pr ns np k r)(hnp:np<=2):r.short:=by
 have h1:=h.need.1
 have h2:=h.give.1
 have h3:r.move.length<=2:=by
  rcases h.move with e|e
  ·rw[e];decide
  ·rw[e.1];exact hnp
 rw[h.rest]
 exact⟨by show r.need.length<=_;omega,by show r.give.length<=_;omega,by show r.move.length<=_;omega,Ic _,Ic _,Ic _,Ic _⟩
theorem Aa4{rs:List Rul}(h3:rs.length<=3){ns np:Nat}(h:∀k r,rs[k]?=some r->Pr ns np k r):rs.map Rul.name=dl3.take rs.length:=by
 apply ext_getElem?
 intro i
 by_cases hi:i<rs.length
 ·have hx:rs[i]?=some rs[i]:=H4 hi
  rw[Ik,hx,List.getElem?_take_of_lt hi,(h i _ hx).name];rfl
 ·rw[Ir (by simp;omega),Ir (by simp;omega)]
theorem Q1.ok{m:Mod}(h:Q1 m):m.ok:=by
 have hst:1<=m.states.length/\m.states.length<=2:=by rcases h.states with e|e<;>rw[e]<;>decide
 have hpl:1<=m.places.length/\m.places.length<=2:=by rcases h.places with e|e<;>rw[e]<;>decide
 have hb:∀{x a b:Int},a<=x->x<=b->Av x a b=true:=fun h1 h2=>by simp[Av,h1,h2]
 have hget:∀r∈m.rules,Pr m.states.length m.places.length (m.rules.idxOf r) r:=fun r hr=>by
  have hi:=List.idxOf_lt_length_of_mem hr
  exact h.rules _ r (by rw[H4 hi,List.getElem_idxOf])
 have hc:=h.count
 refine⟨.inl h.kind,?_,?_,?_,?_,?_,?_,?_⟩
 ·simp only[C3,Qe,HP h.kind,H5,HE,h.letters,h.levels,h.age]
  exact⟨hb (by omega) (by omega),by omega,hb (by omega) (by omega),by decide,by decide,by decide⟩
 ·rw[BO,HP (by rw[h.kind];rfl),h.ranks];rfl
 ·have hn:=Aa4 h.count h.rules
  rw[D0,DO,hn,BL,h.letters]
  have:m.rules.length=0∨m.rules.length=1∨m.rules.length=2∨m.rules.length=3:=by omega
  rcases h.states with e|e<;>rcases h.places with e'|e'<;>rcases this with e2|e2|e2|e2<;>rw[e,e',e2]<;>decide
 ·intro r hr
  have hm:=hget r hr
  exact hm.short (by omega)
 ·intro r hr
  have hm:=hget r hr
  obtain⟨f1,f2⟩:=hm.frm
  obtain⟨t1,t2⟩:=hm.to
  obtain⟨n1,n2⟩:=hm.need
  obtain⟨g1,g2⟩:=hm.give
  have hmv:r.move=[]∨r.move.length=m.places.length/\∀t∈r.move, -1<=t/\t<m.places.length:=hm.move
  have hr:=hm.rest
  generalize r.name=nm at hr
  generalize r.frm=f at*
  generalize r.to=t at*
  generalize r.need=nd at*
  generalize r.give=gv at*
  generalize r.move=mv at*
  subst hr
  rw[Et,HP h.kind]
  simp only[Du,BJ,BN,MU,mkV,H5,Ip,Ie,HE,Ih,true_and,HD]
  refine⟨hb (by omega) (by omega),hb (by omega) (by omega),⟨by omega,by omega,fun x hx=>hb (n2 x hx).1 (by have:=(n2 x hx).2;omega),fun x hx=>hb (g2 x hx).1 (by have:=(g2 x hx).2;omega)⟩,?_⟩
  have hmb:CB m (mkV nm f t nd gv mv)=true:=by
   rcases hmv with e|⟨e1,e2⟩
   ·simp[CB,mkV,e]
   ·simp only[CB,mkV,Bool.or_eq_true,H5,Ip,Ie]
    exact .inr ⟨by omega,fun x hx=>hb (e2 x hx).1 (by have:=(e2 x hx).2;omega)⟩
  exact hmb
 ·obtain⟨ys,y1,y2,y3⟩:=h.start
  rw[y3]
  exact FL m h.kind (by omega) 0 ⟨by omega,by omega⟩ ys y1 fun x hx=>by have:=y2 x hx;omega
 ·obtain⟨ys,y1,y2,y3⟩:=h.start
  rw[y3,EO];omega
theorem Q1.ctm{m:Mod}(h:Q1 m):CtM m:=by
 have hst:1<=m.states.length:=by rcases h.states with e|e<;>rw[e]<;>decide
 refine⟨h.ok,h.kind,?_⟩
 obtain⟨ys,y1,y2,y3⟩:=h.start
 rw[y3]
 exact XH m 0 ⟨by omega,by omega⟩ ys y1 fun x hx=>by have:=y2 x hx;omega
end Go.Proofs.YtmhjflomgppcnaaGreatDoor
