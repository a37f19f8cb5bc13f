/-
  A part of the proof.
-/
import Derived.Test.YthmjfmacdlhfjaaGreatZa
import Derived.Test.YthmjfmacdlhfjaaGreatProg
import Derived.KernelRfl
import Derived.Laws.CopyRow
import Derived.Lib.AppendZeros
namespace Go.Dv
open List (length_singleton mem_filter take_left)
open Go.IntKind (u64)
open Go.IntKind renaming wrap → yr, i64 → yq
open List renaming length → I, map → U, drop → W
open Option renaming some → G
open Bool renaming true → J, false → O
open Decidable renaming decide → Y
open Int renaming toNat → Z
open Go.Dv.V renaming list → ai, str → ae, agg → ab, int → aa, ref → bz, fn → bw, nils → bv, bool → bu
open Go.Dv.D renaming v → bt, acc → br, ptr → bq, arr → bo, gro → bm, tup → bl, undef → bk, dagg → bj
open Go.Dv.St renaming mk → bi
open Go.Dv.KI renaming blk → bh
open _root_.ByteArray renaming mk → bg
open Go renaming Operand → x5, Program → x4, TypeId → yz, World → yy, Value → yx, Oper → yw, FuncId → yv, Func → yu, IntKind → yt
abbrev Ef:=Bool×Option Nat
def FO(ops:Array yw)(i f:Nat):Bool:=((EI [] ops.toList).getD i 0).testBit f
inductive G9 (P:x4) (ops:Array yw) (sts:Bool->List St) (fr:Nat):List yw->List D->Nat->List D->List Ef->List D->Nat->Prop
 |nil {env:List D} {j:Nat}:G9 P ops sts fr [] env j [] [] env j
 |skip {o:yw} {rest:List yw} {env env':List D} {j j':Nat} {vals:List D} {effs:List Ef} (hne:ops.size- (I rest+1)≠fr) (hw:C0 env ops o=G false) (h:G9 P ops sts fr rest (CG env o.dst (.tup [])) j vals effs env' j'):
   G9 P ops sts fr (o::rest) env j (.tup []::vals) ((false,none)::effs) env' j'
 |quiet {o:yw} {rest:List yw} {env env':List D} {j j':Nat} {vals:List D} {effs:List Ef} {d:D} (hne:ops.size- (I rest+1)≠fr) (hw:C0 env ops o=G true) (ho:∀b,∀s∈sts b,Ay P o (E2 env o) s d s) (h:G9 P ops sts fr rest (CG env o.dst d) j vals effs env' j'):
   G9 P ops sts fr (o::rest) env j (d::vals) ((false,none)::effs) env' j'
 |eff {o:yw} {rest:List yw} {env env':List D} {j j':Nat} {vals:List D} {effs:List Ef} {d:D} (hne:ops.size- (I rest+1)≠fr) (hw:C0 env ops o=G true) (ho:∀b s,(sts b)[j]?=G s->(b=O->FO ops (ops.size- (I rest+1)) fr=O)->∃s',(sts b)[j+1]?=G s'/\Ay P o (E2 env o) s d s')
   (h:G9 P ops sts fr rest (CG env o.dst d) (j+1) vals effs env' j'):G9 P ops sts fr (o::rest) env j (d::vals) ((true,none)::effs) env' j'
 |quietW {o:yw} {rest:List yw} {env env':List D} {j j':Nat} {vals:List D} {effs:List Ef} {d:D} (lim:Nat) (hne:ops.size- (I rest+1)≠fr) (hw:C0 env ops o=G true) (ho:∀(b:Bool) (c:Nat) (s:St),c<=lim->(sts b)[c]?=G s->Ay P o (E2 env o) s d s) (h:G9 P ops sts fr rest (CG env o.dst d) j vals effs env' j'):
   G9 P ops sts fr (o::rest) env j (d::vals) ((false,G lim)::effs) env' j'
 |free {o:yw} {rest:List yw} {env env':List D} {j j':Nat} {vals:List D} {effs:List Ef} {d:D} (hf:fr=ops.size- (I rest+1)) (hw:C0 env ops o=G true) (ho:∀(c:Nat) (s:St),(sts false)[c]?=G s->∃s',(sts true)[c]?=G s'/\Ay P o (E2 env o) s d s') (h:G9 P ops sts fr rest (CG env o.dst d) j vals effs env' j'):
   G9 P ops sts fr (o::rest) env j (d::vals) ((false,none)::effs) env' j'
def AP:List yw->List D->List Ef->List It
 |o::os,d::ds,b::bs=>(o.dst,d,b.1)::AP os ds bs
 |_,_,_=>[]
def CD(items:List It)(env0:List D):List D:=items.foldl (fun e it=>CG e it.1 it.2.1) env0
def EO(items:List It):Nat:=items.foldl (fun c it=>if it.2.2 then c+1 else c) 0
theorem G0(items:List It)(it:It)(env0:List D):CD (items++[it]) env0=CG (CD items env0) it.1 it.2.1:=by simp[CD]
theorem G2(items:List It)(it:It):EO (items++[it])=EO items+if it.2.2 then 1 else 0:=by simp[EO];split<;>rfl
def rf(P:x4)(ops:Array yw)(sts:Bool->List St)(fr:Nat)(items:List It)(lims:List Ef)(env0:List D)(i:Nat)(o:yw):Prop:=
 ∃d b,items[i]?=G (o.dst,d,b)/\
  ((C0 (CD (items.take i) env0) ops o=G false/\d=.tup []/\b=O/\i≠fr)∨
   (C0 (CD (items.take i) env0) ops o=G true/\b=O/\i≠fr/\∀(b:Bool) (c:Nat) (s:St),(sts b)[c]?=G s->(∀lim,(lims[i]?).bind (·.2)=G lim->c<=lim)->Ay P o (E2 (CD (items.take i) env0) o) s d s)∨
   (C0 (CD (items.take i) env0) ops o=G true/\b=true/\i≠fr/\∀bb s,(sts bb)[EO (items.take i)]?=G s->(bb=O->FO ops i fr=O)->∃s',(sts bb)[EO (items.take i)+1]?=G s'/\Ay P o (E2 (CD (items.take i) env0) o) s d s')∨
   (C0 (CD (items.take i) env0) ops o=G true/\b=O/\i=fr/\∀(c:Nat) (s:St),(sts false)[c]?=G s->∃s',(sts true)[c]?=G s'/\Ay P o (E2 (CD (items.take i) env0) o) s d s'))
theorem G9.facts{P:x4}{ops:Array yw}{sts:Bool->List St}{fr:Nat}{rest:List yw}{env env':List D}{j j':Nat}{vals:List D}{effs:List Ef}(h:G9 P ops sts fr rest env j vals effs env' j'):
  ∀(c9:List It) (pe:List Ef) (env0:List D),I pe=I c9->I c9+I rest=ops.size->env=CD c9 env0->j=EO c9->
   (∀k o,rest[k]?=G o->rf P ops sts fr (c9++AP rest vals effs) (pe++effs) env0 (I c9+k) o)/\env'=CD (c9++AP rest vals effs) env0/\j'=EO (c9++AP rest vals effs)/\(AP rest vals effs).length=I rest/\effs.map (·.1)=(AP rest vals effs).map (·.2.2):=by
 induction h with
 |nil=>intro c9 pe env0 hp hl he hj;simp[AP,he,hj]
 | @skip o rest env env' j j' vals effs hne hw h ih=>
  intro c9 pe env0 hp hl he hj
  have hidx:ops.size- (I rest+1)=I c9:=by simp at hl;omega
  obtain⟨f1,f2,f3,f4,f5⟩:=ih (c9++[(o.dst,bl [],false)]) (pe++[((false,none):Ef)]) env0 (by simp[hp]) (by simp at hl⊢;omega) (by rw[G0,he]) (by rw[G2,hj];simp)
  have hap:c9++[(o.dst,bl [],false)]++AP rest vals effs=c9++AP (o::rest) (.tup []::vals) (((false,none):Ef)::effs):=by simp[AP]
  have hap2:pe++[((false,none):Ef)]++effs=pe++((false,none):Ef)::effs:=by simp
  rw[hap] at f1 f2 f3
  rw[hap2] at f1
  refine⟨fun k o' hk=>?_,f2,f3,by simp[AP,f4],by simp only[AP,Iu];rw[←f5]⟩
  cases k with
  |zero=>
   simp at hk;subst hk
   have hat:(pe++((false,none):Ef)::effs)[I c9+0]?=G ((false,none):Ef):=by rw[IQ, ←hp];simp
   rw[hidx] at hne
   refine⟨.tup [],false,by simp[AP],.inl ⟨?_,rfl,rfl,hne⟩⟩
   simp only[IQ,take_left, ←he];exact hw
  |succ k=>
   have:=f1 k o' (by simpa using hk)
   simp only[Ig,length_singleton] at this
   rw[show I c9+(k+1)=I c9+1+k by omega];exact this
 | @quiet o rest env env' j j' vals effs d hne hw ho h ih=>
  intro c9 pe env0 hp hl he hj
  have hidx:ops.size- (I rest+1)=I c9:=by simp at hl;omega
  obtain⟨f1,f2,f3,f4,f5⟩:=ih (c9++[(o.dst,d,false)]) (pe++[((false,none):Ef)]) env0 (by simp[hp]) (by simp at hl⊢;omega) (by rw[G0,he]) (by rw[G2,hj];simp)
  have hap:c9++[(o.dst,d,false)]++AP rest vals effs=c9++AP (o::rest) (d::vals) (((false,none):Ef)::effs):=by simp[AP]
  have hap2:pe++[((false,none):Ef)]++effs=pe++((false,none):Ef)::effs:=by simp
  rw[hap] at f1 f2 f3
  rw[hap2] at f1
  refine⟨fun k o' hk=>?_,f2,f3,by simp[AP,f4],by simp only[AP,Iu];rw[←f5]⟩
  cases k with
  |zero=>
   simp at hk;subst hk
   have hat:(pe++((false,none):Ef)::effs)[I c9+0]?=G ((false,none):Ef):=by rw[IQ, ←hp];simp
   rw[hidx] at hne
   refine⟨d,false,by simp[AP],.inr (.inl ⟨?_,rfl,hne,?_⟩)⟩
   ·simp only[IQ,take_left, ←he];exact hw
   ·simp only[IQ,take_left, ←he];exact fun b c s hs _=>ho b s (HW hs)
  |succ k=>
   have:=f1 k o' (by simpa using hk)
   simp only[Ig,length_singleton] at this
   rw[show I c9+(k+1)=I c9+1+k by omega];exact this
 | @eff o rest env env' j j' vals effs d hne hw ho h ih=>
  intro c9 pe env0 hp hl he hj
  have hidx:ops.size- (I rest+1)=I c9:=by simp at hl;omega
  obtain⟨f1,f2,f3,f4,f5⟩:=ih (c9++[(o.dst,d,true)]) (pe++[((true,none):Ef)]) env0 (by simp[hp]) (by simp at hl⊢;omega) (by rw[G0,he]) (by rw[G2,hj];simp)
  have hap:c9++[(o.dst,d,true)]++AP rest vals effs=c9++AP (o::rest) (d::vals) (((true,none):Ef)::effs):=by simp[AP]
  have hap2:pe++[((true,none):Ef)]++effs=pe++((true,none):Ef)::effs:=by simp
  rw[hap] at f1 f2 f3
  rw[hap2] at f1
  refine⟨fun k o' hk=>?_,f2,f3,by simp[AP,f4],by simp only[AP,Iu];rw[←f5]⟩
  cases k with
  |zero=>
   simp at hk;subst hk
   have hat:(pe++((true,none):Ef)::effs)[I c9+0]?=G ((true,none):Ef):=by rw[IQ, ←hp];simp
   rw[hidx] at hne ho
   refine⟨d,true,by simp[AP],.inr (.inr (.inl ⟨?_,rfl,hne,?_⟩))⟩
   ·simp only[IQ,take_left, ←he];exact hw
   ·simp only[IQ,take_left, ←hj, ←he];exact ho
  |succ k=>
   have:=f1 k o' (by simpa using hk)
   simp only[Ig,length_singleton] at this
   rw[show I c9+(k+1)=I c9+1+k by omega];exact this
 | @quietW o rest env env' j j' vals effs d lim hne hw ho h ih=>
  intro c9 pe env0 hp hl he hj
  have hidx:ops.size- (I rest+1)=I c9:=by simp at hl;omega
  obtain⟨f1,f2,f3,f4,f5⟩:=ih (c9++[(o.dst,d,false)]) (pe++[((false,G lim):Ef)]) env0 (by simp[hp]) (by simp at hl⊢;omega) (by rw[G0,he]) (by rw[G2,hj];simp)
  have hap:c9++[(o.dst,d,false)]++AP rest vals effs=c9++AP (o::rest) (d::vals) (((false,G lim):Ef)::effs):=by simp[AP]
  have hap2:pe++[((false,G lim):Ef)]++effs=pe++((false,G lim):Ef)::effs:=by simp
  rw[hap] at f1 f2 f3
  rw[hap2] at f1
  refine⟨fun k o' hk=>?_,f2,f3,by simp[AP,f4],by simp only[AP,Iu];rw[←f5]⟩
  cases k with
  |zero=>
   simp at hk;subst hk
   have hat:(pe++((false,G lim):Ef)::effs)[I c9+0]?=G ((false,G lim):Ef):=by rw[IQ, ←hp];simp
   rw[hidx] at hne
   refine⟨d,false,by simp[AP],.inr (.inl ⟨?_,rfl,hne,?_⟩)⟩
   ·simp only[IQ,take_left, ←he];exact hw
   ·rw[hat]
    simp only[IQ,take_left, ←he]
    exact fun b c s hs hc=>ho b c s (hc lim rfl) hs
  |succ k=>
   have:=f1 k o' (by simpa using hk)
   simp only[Ig,length_singleton] at this
   rw[show I c9+(k+1)=I c9+1+k by omega];exact this
 | @free o rest env env' j j' vals effs d hf hw ho h ih=>
  intro c9 pe env0 hp hl he hj
  have hidx:ops.size- (I rest+1)=I c9:=by simp at hl;omega
  obtain⟨f1,f2,f3,f4,f5⟩:=ih (c9++[(o.dst,d,false)]) (pe++[((false,none):Ef)]) env0 (by simp[hp]) (by simp at hl⊢;omega) (by rw[G0,he]) (by rw[G2,hj];simp)
  have hap:c9++[(o.dst,d,false)]++AP rest vals effs=c9++AP (o::rest) (d::vals) (((false,none):Ef)::effs):=by simp[AP]
  have hap2:pe++[((false,none):Ef)]++effs=pe++((false,none):Ef)::effs:=by simp
  rw[hap] at f1 f2 f3
  rw[hap2] at f1
  refine⟨fun k o' hk=>?_,f2,f3,by simp[AP,f4],by simp only[AP,Iu];rw[←f5]⟩
  cases k with
  |zero=>
   simp at hk;subst hk
   have hat:(pe++((false,none):Ef)::effs)[I c9+0]?=G ((false,none):Ef):=by rw[IQ, ←hp];simp
   rw[hidx] at hf
   refine⟨d,false,by simp[AP],.inr (.inr (.inr ⟨?_,rfl,hf.symm,?_⟩))⟩
   ·simp only[IQ,take_left, ←he];exact hw
   ·simp only[IQ,take_left, ←he];exact ho
  |succ k=>
   have:=f1 k o' (by simpa using hk)
   simp only[Ig,length_singleton] at this
   rw[show I c9+(k+1)=I c9+1+k by omega];exact this
theorem Mn(items:List It)(i:Nat)(env0:List D):FG items (fun k=>Y (k<i)) env0=CD (items.take i) env0:=by
 have gen:∀(l:List It) (s:Nat) (e:List D),(l.zipIdx s).foldl (BQ fun k=>Y (k<i)) e=(l.take (i-s)).foldl (fun e it=>CG e it.1 it.2.1) e:=by
  intro l
  induction l with
  |nil=>intro s e;simp
  |cons x l ih=>
   intro s e
   simp only[List.zipIdx_cons,Jo]
   rw[ih]
   by_cases h:s<i
   ·rw[show i-s=(i- (s+1))+1 by omega,List.take_succ_cons,Jo]
    simp[BQ,h]
   ·rw[show i-s=0 by omega,show i- (s+1)=0 by omega]
    simp[BQ,h]
 simpa[FG,CD] using gen items 0 env0
theorem K7(items:List It)(i:Nat):EN items (fun k=>Y (k<i))=EO (items.take i):=by
 have gen:∀(l:List It) (s c:Nat),(l.zipIdx s).foldl (BM fun k=>Y (k<i)) c=(l.take (i-s)).foldl (fun c it=>if it.2.2 then c+1 else c) c:=by
  intro l
  induction l with
  |nil=>intro s e;simp
  |cons x l ih=>
   intro s e
   simp only[List.zipIdx_cons,Jo]
   rw[ih]
   by_cases h:s<i
   ·rw[show i-s=(i- (s+1))+1 by omega,List.take_succ_cons,Jo]
    simp[BM,h]
   ·rw[show i-s=0 by omega,show i- (s+1)=0 by omega]
    simp[BM,h]
 simpa[EN,EO] using gen items 0 0
theorem Ns(l:List It):EO l=(l.map (·.2.2)).count true:=by
 have gen:∀(l:List It) (c:Nat),l.foldl (fun c it=>if it.2.2 then c+1 else c) c=c+(l.map (·.2.2)).count true:=by
  intro l
  induction l with
  |nil=>intro c;simp
  |cons x l ih=>
   intro c
   simp only[Jo,Iu]
   rw[ih]
   cases x.2.2<;>simp<;>omega
 simpa[EO] using gen l 0
theorem Zo{items:List It}{S S':Nat->Bool}(h:∀(k:Nat) (x:It),items[k]?=G x->x.2.2=true->S k=true->S' k=true):EN items S<=EN items S':=by
 have gen:∀(l:List (It×Nat)) (c c':Nat),(∀x∈l,x.1.2.2=true->S x.2=true->S' x.2=true)->c<=c'->l.foldl (BM S) c<=l.foldl (BM S') c':=by
  intro l
  induction l with
  |nil=>intro c c' _ hc;exact hc
  |cons x l ih=>
   intro c c' hl hc
   simp only[Jo]
   refine ih _ _ (fun y hy=>hl y (List.mem_cons_of_mem _ hy)) ?_
   have:=hl x List.mem_cons_self
   unfold BM
   cases hx:x.1.2.2<;>cases hs:S x.2<;>cases hs':S' x.2<;>simp_all<;>omega
 exact gen _ 0 0 (fun x hx=>h x.2 x.1 (mem_zipIdx hx)) (HX _)
def Wu(ops:Array yw)(lims:List Ef):Bool:=
 (List.range (I lims)).all fun i=>
  match (lims[i]?).bind (·.2) with
  |none=>true
  |some lim=>(List.range (I lims)).any fun e=>(lims.map (·.1)).getD e false&&Y (((lims.map (·.1)).take e).count true=lim)&&((EI [] ops.toList).getD e 0).testBit i
def Mq(ops:Array yw)(lims:List Ef):Bool:=PN ops (lims.map (·.1))&&Wu ops lims
theorem K3{ops:Array yw}{o:yw}{env env':List D}(h:∀t∈EY ops o,env[t]?=env'[t]?):E2 env o=E2 env' o:=by
 unfold E2
 refine List.map_congr_left fun x hx=>?_
 cases x with
 |tmp t=>
  have:=h t (by
   unfold EY
   exact IE.2 (.inl (List.mem_filterMap.2 ⟨.tmp t,hx,rfl⟩)))
  simp[g9,HY,this]
 |_=>rfl
theorem L1{ops:Array yw}{o:yw}{env env':List D}(h:∀t∈EY ops o,env[t]?=env'[t]?):C0 env ops o=C0 env' ops o:=by
 unfold C0
 cases hg:o.guard with
 |none=>rfl
 |some p=>
  obtain⟨j,want⟩:=p
  simp only
  cases hj:(ops[j]?).bind (·.dst) with
  |none=>rfl
  |some t=>
   have:=h t (by unfold EY;rw[hg];simp[hj])
   simp[this]
section
variable {C : co -> co -> Prop} {P : x4} {R : List D -> St -> Prop} {k : List KI} {env : List D} {σ : St}
theorem U9{ops:Array yw}{sts:Bool->List St}{fr:Nat}{items:List It}{effs:List Bool}{lims:List Ef}{env0:List D}{Q:Exit->Act->yy->Prop}{E:co}{J:Gh->Prop}(hJ:∀g g':Gh,g.le g'->J g->J g')(hreg:PN ops effs=true)(hwin:Wu ops lims=true)(hle:effs=lims.map (·.1))(hlen:I items=ops.size)(heff:effs=items.map (·.2.2))
  (hfact:∀i o,ops[i]?=G o->rf P ops sts fr items lims env0 i o)
  (hfin:∀g a w,J g->(∃s,(sts (Y (fr<ops.size)))[EO items]?=G s/\FI E g s (CD items env0) a w)->Q .normal a w):
  ∀(fuel:Nat) (listed:Array Bool) (a:Act) (w:yy) (g:Gh) (s:St),listed.size=ops.size->DC ops (fun i=>listed.getD i false)->
   (I ((List.range ops.size).filter fun i=> !listed.getD i false))=fuel->
   (sts (listed.getD fr false))[EN items (fun i=>listed.getD i false)]?=G s->J g->FI E g s (FG items (fun i=>listed.getD i false) env0) a w->wpAny P .any ops Q fuel listed a w:=by
 -- nothing is ready:all are listed
 have done_:∀(listed:Array Bool),listed.size=ops.size->Region.ready .any ops listed=[]->∀i,i<ops.size->listed.getD i false=true:=by
  intro listed hsz hr i
  induction i using Nat.strongRecOn with
  |_ i ih=>
   intro hi
   cases hl:listed.getD i false with
   |true=>rfl
   |false=>
    exfalso
    have hmem:i∈Region.ready .any ops listed:=by
     unfold Region.ready
     rw[mem_filter]
     refine⟨by simpa using hi,?_⟩
     have ho:ops[i]?=G ops[i]:=by simp[hi]
     have hl':listed.getD i true=O:=by
      rw[Jk] at hl⊢
      have:listed[i]?=G listed[i]:=by simp[hsz,hi]
      rw[this] at hl⊢;exact hl
     rw[ho]
     simp only[hl',Bool.not_false,I2,IT,Jy]
     rw[Array.all_eq_true_iff_forall_mem]
     intro e he
     cases hb:Region.binds .any e with
     |false=>simp
     |true=>
      have hlt:=MJ hreg ho e he hb
      simp[ih e.on hlt (by omega)]
    rw[hr] at hmem
    simp at hmem
 have finish:∀(listed:Array Bool) (a:Act) (w:yy) (g:Gh) (s:St),listed.size=ops.size->(∀i,i<ops.size->listed.getD i false=true)->(sts (listed.getD fr false))[EN items (fun i=>listed.getD i false)]?=G s->
   J g->FI E g s (FG items (fun i=>listed.getD i false) env0) a w->Q .normal a w:=by
  intro listed a w g s hsz hall hs hj hf
  have e1:FG items (fun i=>listed.getD i false) env0=CD items env0:=by
   have:=Mn items ops.size env0
   rw[Iw (by omega)] at this
   rw[←this]
   apply List.ext_getElem?
   intro t
   refine DP _ _ _ (fun x hx _=>?_) rfl
   have hx2:=(HT.1 (mem_zipIdx hx)).1
   rw[hall x.2 (by omega)];simp;omega
  have e2:EN items (fun i=>listed.getD i false)=EO items:=by
   have:=K7 items ops.size
   rw[Iw (by omega)] at this
   rw[←this]
   refine ED _ _ (fun x hx _=>?_)
   have hx2:=(HT.1 (mem_zipIdx hx)).1
   rw[hall x.2 (by omega)];simp;omega
  have e3:listed.getD fr false=Y (fr<ops.size):=by
   by_cases hfr:fr<ops.size
   ·rw[hall fr hfr];simp[hfr]
   ·rw[Jk,Array.getElem?_eq_none (by omega)];simp[hfr]
  rw[e1] at hf
  rw[e2,e3] at hs
  exact hfin g a w hj ⟨s,hs,hf⟩
 intro fuel
 induction fuel with
 |zero=>
  intro listed a w g s hsz hdc hcount hs hj hf
  have hall:∀i,i<ops.size->listed.getD i false=true:=by
   intro i hi
   cases hl:listed.getD i false with
   |true=>rfl
   |false=>
    have hm:i∈ (List.range ops.size).filter fun i=> !listed.getD i false:=mem_filter.2 ⟨by simpa using hi,by simp[hl]⟩
    have hnil:=Js hcount
    rw[hnil] at hm
    simp at hm
  refine⟨?_,finish listed a w g s hsz hall hs hj hf⟩
  unfold Region.ready
  rw[List.filter_eq_nil_iff]
  intro i hi
  have hi':i<ops.size:=by simpa using hi
  have:=hall i hi'
  have ht:listed.getD i true=true:=by
   rw[Jk] at this⊢
   have h':listed[i]?=G listed[i]:=by simp[hsz,hi']
   rw[h'] at this⊢;exact this
  simp[ht]
 |succ fuel ih=>
  intro listed a w g s hsz hdc hcount hs hj hf
  refine⟨fun hr=>finish listed a w g s hsz (done_ listed hsz hr) hs hj hf,fun i hi=>?_⟩
  -- an operation that is ready
  unfold Region.ready at hi
  rw[mem_filter] at hi
  obtain⟨hi1,hi2⟩:=hi
  have hi':i<ops.size:=by simpa using hi1
  have ho:ops[i]?=G ops[i]:=by simp[hi']
  generalize hoo:ops[i]=o at ho
  rw[ho] at hi2
  simp only[HR,IJ,IT,Jy] at hi2
  obtain⟨hnl,hall⟩:=hi2
  have hnl':listed.getD i false=O:=by
   rw[Jk] at hnl⊢
   have h':listed[i]?=G listed[i]:=by simp[hsz,hi']
   rw[h'] at hnl⊢;exact hnl
  have hready:∀e∈o.after,Region.binds .any e=true->listed.getD e.on false=true:=by
   intro e he hb
   have:=Array.all_eq_true_iff_forall_mem.1 hall e he
   simpa[hb] using this
  have hpre:=EX hdc ho hready
  have hpost:=fun(j:Nat) (hs:listed.getD j false=true)=>Gi (S:=fun i=>listed.getD i false) hdc hs
  obtain⟨d,b,hit,hcase⟩:=hfact i o ho
  have hil:i<I items:=by omega
  -- every other operation that shares a slot is ordered with it
  have opAt:∀(k:Nat) (x:It),items[k]?=G x->∃ok,ops[k]?=G ok/\x.1=ok.dst:=by
   intro k x hk
   have hkl:k<ops.size:=by have:=(HT.1 hk).1;omega
   have hok:ops[k]?=G ops[k]:=by simp[hkl]
   obtain⟨d',b',h1,_⟩:=hfact k _ hok
   rw[hk] at h1
   simp at h1
   exact⟨_,hok,by rw[h1]⟩
  have lt_listed:∀(k:Nat) (ok:yw),ops[k]?=G ok->k<i->(FW ops ok o=true∨(effs.getD k false=true/\effs.getD i false=true))->listed.getD k false=true:=
   fun k ok hk hlt hc=>hpre k (DJ hreg hk ho hlt hc)
  have gt_not:∀(k:Nat) (ok:yw),ops[k]?=G ok->i<k->(FW ops o ok=true∨(effs.getD i false=true/\effs.getD k false=true))->listed.getD k false=O:=by
   intro k ok hk hlt hc
   cases hl:listed.getD k false with
   |false=>rfl
   |true=>
    have:=hpost k hl i (DJ hreg ho hk hlt hc)
    simp only[hnl'] at this
    exact absurd this (by simp)
  have agree:∀t∈EY ops o,(FG items (fun i=>listed.getD i false) env0)[t]?=(CD (items.take i) env0)[t]?:=by
   intro t ht
   rw[←Mn]
   refine DP _ _ _ (fun x hx hxt=>?_) rfl
   have hx2:=mem_zipIdx hx
   obtain⟨ok,hok,hdst⟩:=opAt x.2 x.1 hx2
   rw[hdst] at hxt
   rcases Nat.lt_trichotomy x.2 i with h|h|h
   ·rw[lt_listed x.2 ok hok h (.inl (by unfold FW;simp[hxt,ht]))];simp[h]
   ·rw[h,hnl'];simp
   ·rw[gt_not x.2 ok hok h (.inl (by unfold FW;simp[hxt,ht]))];simp;omega
  have hlast:∀(k:Nat) (x:It),items[k]?=G x->listed.getD k false=true->i<k->o.dst=none∨x.1≠o.dst:=by
   intro k x hk hl hlt
   cases hd:o.dst with
   |none=>exact .inl rfl
   |some t=>
    refine .inr fun e=>?_
    obtain⟨ok,hok,hdst⟩:=opAt k x hk
    have:=gt_not k ok hok hlt (.inl (by unfold FW;simp[hd, ←hdst,e]))
    rw[this] at hl
    simp at hl
  have hadd:=ON (S:=fun i=>listed.getD i false) (env0:=env0) hit hnl' hlast
  have hcadd:=OV (S:=fun i=>listed.getD i false) hit hnl'
  have hS':(fun k=>(listed.setIfInBounds i true).getD k false)=fun k=>listed.getD k false||k==i:=by
   funext k
   simp only[Jk,Array.getElem?_setIfInBounds]
   by_cases hk:i=k
   ·subst hk;simp[hsz,hi']
   ·simp[hk,Ne.symm hk]
  have hcnt':I ((List.range ops.size).filter fun k=> !(listed.setIfInBounds i true).getD k false)=fuel:=by
   have e1:(List.range ops.size).filter (fun k=> !(listed.setIfInBounds i true).getD k false)=((List.range ops.size).filter fun k=> !listed.getD k false).filter (fun k=>k !=i):=by
    rw[List.filter_filter]
    refine List.filter_congr fun k _=>?_
    have:=congrFun hS' k
    rw[this]
    cases listed.getD k false<;>cases hk:(k==i)<;>simp_all
   rw[e1]
   have hnd:((List.range ops.size).filter fun k=> !listed.getD k false).Nodup:=List.filter_sublist.nodup List.nodup_range
   have hm:i∈ (List.range ops.size).filter fun k=> !listed.getD k false:=mem_filter.2 ⟨hi1,by simp[hnl']⟩
   have hf1:=hnd.erase_eq_filter i
   rw[←hf1,List.length_erase_of_mem hm,hcount];rfl
  have hdc':DC ops (fun k=>(listed.setIfInBounds i true).getD k false):=by
   rw[hS']
   intro k ok hk hsk e he hb
   simp only[Bool.or_eq_true,I4] at hsk⊢
   rcases hsk with hsk|rfl
   ·exact .inl (hdc k ok hk hsk e he hb)
   ·rw[ho] at hk;simp at hk;subst hk
    exact .inl (hready e he hb)
  -- the count of effects so far
  have hcb:b=true->EN items (fun k=>listed.getD k false)=EO (items.take i):=by
   intro hbt
   rw[←K7]
   have hei:effs.getD i false=true:=by rw[heff,HY,I9,hit];simp[hbt]
   refine ED _ _ (fun x hx hxb=>?_)
   have hx2:=mem_zipIdx hx
   obtain⟨ok,hok,_⟩:=opAt x.2 x.1 hx2
   have hex:effs.getD x.2 false=true:=by rw[heff,HY,I9,hx2];simp[hxb]
   rcases Nat.lt_trichotomy x.2 i with h|h|h
   ·rw[lt_listed x.2 ok hok h (.inr ⟨hex,hei⟩)];simp[h]
   ·rw[h,hnl'];simp
   ·rw[gt_not x.2 ok hok h (.inr ⟨hei,hex⟩)];simp;omega
  have hw:=L1 agree
  have hev:=K3 agree
  have next:∀(g':Gh) (a':Act) (w':yy) (s':St),(sts ((listed.setIfInBounds i true).getD fr false))[EN items (fun k=>(listed.setIfInBounds i true).getD k false)]?=G s'->J g'->FI E g' s' (CG (FG items (fun k=>listed.getD k false) env0) o.dst d) a' w'->wpAny P .any ops Q fuel (listed.setIfInBounds i true) a' w':=by
   intro g' a' w' s' hs' hj' hf'
   refine ih _ a' w' g' s' (by simp[hsz]) hdc' hcnt' hs' hj' ?_
   rw[hS',hadd];exact hf'
  unfold wpOp
  rw[ho]
  simp only
  have hflag:i≠fr->(listed.setIfInBounds i true).getD fr false=listed.getD fr false:=by
   intro hne
   have:=congrFun hS' fr
   rw[this]
   have:(fr==i)=O:=by simpa using Ne.symm hne
   rw[this,Bool.or_false]
  rcases hcase with⟨hwant,rfl,rfl,hne⟩|⟨hwant,rfl,hne,hop⟩|⟨hwant,rfl,hne,hop⟩|⟨hwant,rfl,hfr,hop⟩
  ·rw[Ij (by rw[Ca hf.env (hw.trans hwant)];simp)]
   refine next g _ w s ?_ hj (hf.put hf.wi g.le_refl (Kp g) o.dst)
   rw[hflag hne,hS',hcadd];simpa using hs
  ·rw[Io (Ca hf.env (hw.trans hwant))]
   refine .inl ?_
   rw[←hev] at hop
   have hlim:∀lim,(lims[i]?).bind (·.2)=G lim->EN items (fun k=>listed.getD k false)<=lim:=by
    intro lim hlm
    have hil2:i<I lims:=by
     have:I lims=I items:=by have:=Iq I (hle.symm.trans heff);simpa using this
     omega
    have h1:=ID.1 hwin i (by simpa using hil2)
    rw[hlm] at h1
    obtain⟨e,_,h2⟩:=List.any_eq_true.1 h1
    simp only[HR,Ia, ←hle] at h2
    obtain⟨⟨h3,h4⟩,h5⟩:=h2
    have hnote:listed.getD e false=O:=by
     cases hl:listed.getD e false with
     |false=>rfl
     |true=>have:=hpost e hl i h5;simp only[hnl'] at this;exact absurd this (by simp)
    rw[heff, ←List.map_take, ←Ns] at h4
    rw[←h4, ←K7]
    refine Zo fun k x hk hx hS=>?_
    obtain⟨ok,hok,_⟩:=opAt k x hk
    have hex:effs.getD k false=true:=by rw[heff,HY,I9,hk];simp[hx]
    rcases Nat.lt_trichotomy k e with h|h|h
    ·simp[h]
    ·subst h;simp only[hnote] at hS;exact absurd hS (by simp)
    ·have hek:e<ops.size:=by have:=(IM.1 hok).1;omega
     have:=hpost k hS e (DJ hreg (show ops[e]?=G ops[e] by simp[hek]) hok h (.inr ⟨h3,hex⟩))
     simp only[hnote] at this;exact absurd this (by simp)
   refine hop _ _ s hs hlim E g a w _ _ hf.wi (DH hf.wi.rep.gl hf.env _) fun g' w' u h1 h2 h3=>?_
   refine next g' _ w' s ?_ (hJ g g' h2 hj) (hf.put h1 h2 h3 o.dst)
   rw[hflag hne,hS',hcadd];simpa using hs
  ·rw[Io (Ca hf.env (hw.trans hwant))]
   refine .inl ?_
   rw[hcb rfl] at hs
   rw[←hev] at hop
   obtain⟨s2,hs2,hop2⟩:=hop _ s hs (fun hb=>by
    cases hn:FO ops i fr with
    |false=>rfl
    |true=>have:=hpre fr hn;rw[hb] at this;exact absurd this (by simp))
   refine hop2 E g a w _ _ hf.wi (DH hf.wi.rep.gl hf.env _) fun g' w' u h1 h2 h3=>?_
   refine next g' _ w' s2 ?_ (hJ g g' h2 hj) (hf.put h1 h2 h3 o.dst)
   rw[hflag hne,hS',hcadd,hcb rfl];simpa using hs2
  ·rw[Io (Ca hf.env (hw.trans hwant))]
   refine .inl ?_
   rw[←hfr,hnl'] at hs
   rw[←hev] at hop
   obtain⟨s2,hs2,hop2⟩:=hop _ s hs
   refine hop2 E g a w _ _ hf.wi (DH hf.wi.rep.gl hf.env _) fun g' w' u h1 h2 h3=>?_
   refine next g' _ w' s2 ?_ (hJ g g' h2 hj) (hf.put h1 h2 h3 o.dst)
   have hset:(listed.setIfInBounds i true).getD fr false=true:=by
    have:=congrFun hS' fr
    rw[this, ←hfr];simp
   rw[hset,hS',hcadd];simpa using hs2
theorem YY{id:Nat}{ops:Array yw}{E:co}{J:Gh->Prop}(hJ:∀g g':Gh,g.le g'->J g->J g'){B:Exit->Act->yy->Prop}{g:Gh}{a:Act}{w:yy}(hm:P.follows .mixedOrders=true)(sts:Bool->List St)(fr:Nat){vals:List D}{effs:List Ef}{env':List D}{j':Nat}{σ':St}(h0:(sts false)[0]?=G σ)(hj:(sts (Y (fr<ops.size)))[j']?=G σ')
  (h:G9 P ops sts fr ops.toList env 0 vals effs env' j') (hreg:Mq ops effs=true) (hfi:FI E g σ env a w) (hjg:J g) (hk:∀g' a' w',J g'->FI E g' σ' env' a' w'->KQ P B k .normal a' w'):KQ P B (.code (.region id ops true)::k) .normal a w:=by
 simp only[KQ]
 obtain⟨f1,f2,f3,f4,f5⟩:=h.facts [] [] env rfl (by simp) (by simp[CD]) (by simp[EO])
 simp only[List.nil_append,HZ,IC] at f1 f2 f3
 have hreg1:PN ops (effs.map (·.1))=true:=by unfold Mq at hreg;rw[HR] at hreg;exact hreg.1
 have hreg2:Wu ops effs=true:=by unfold Mq at hreg;rw[HR] at hreg;exact hreg.2
 clear hreg
 have f1':∀i o,ops[i]?=G o->rf P ops sts fr (AP ops.toList vals effs) effs env i o:=fun i o ho=>f1 i o (by rw[J2];exact ho)
 have f4':I (AP ops.toList vals effs)=ops.size:=by rw[f4];simp
 refine wp_region_any hm ?_
 have hS0:(fun i=>(Array.replicate ops.size false).getD i false)=fun _=>false:=by
  funext i
  simp only[Jk,Array.getElem?_replicate]
  split<;>rfl
 have he0:∀(l:List (It×Nat)) (e:List D),l.foldl (BQ fun _=>false) e=e:=by
  intro l;induction l with
  |nil=>intro e;rfl
  |cons x l ih=>intro e;simp only[Jo];rw[show BQ (fun _=>false) e x=e from by simp[BQ]];exact ih e
 have hc0:∀(l:List (It×Nat)) (c:Nat),l.foldl (BM fun _=>false) c=c:=by
  intro l;induction l with
  |nil=>intro e;rfl
  |cons x l ih=>intro e;simp only[Jo];rw[show BM (fun _=>false) e x=e from by simp[BM]];exact ih e
 have hfi':FI E g σ env a { w with drawn:=w.drawn+1 }:=⟨hfi.wi.drew,hfi.env,hfi.defers⟩
 obtain⟨es,hes⟩:∃es,es=effs.map (·.1):=⟨_,rfl⟩
 rw[←hes] at hreg1 f5
 refine U9 (sts:=sts) (fr:=fr) (items:=AP ops.toList vals effs) (effs:=es) (lims:=effs) (env0:=env) (E:=E) hJ hreg1 hreg2 hes f4' f5 f1' (fun g' a' w' hj' hx=>?_) ops.size _ a _ g σ (by simp) ?_ ?_ ?_ hjg ?_
 ·obtain⟨s,hs,hf⟩:=hx
  rw[←f3,hj] at hs
  simp at hs;subst hs
  rw[←f2] at hf
  exact hk g' a' w' hj' hf
 ·intro i o _ hs
  rw[hS0] at hs
  simp at hs
 ·have:(List.range ops.size).filter (fun i=> !(Array.replicate ops.size false).getD i false)=List.range ops.size:=by
   rw[List.filter_eq_self]
   intro i _
   have:=congrFun hS0 i
   rw[this];rfl
  rw[this];simp
 ·have h0f:(Array.replicate ops.size false).getD fr false=O:=congrFun hS0 fr
  rw[hS0,h0f]
  simp only[EN,hc0];exact h0
 ·rw[hS0]
  simp only[FG,he0];exact hfi'
theorem Lg{id:Nat}{ops:Array yw}(hm:P.follows .mixedOrders=true)(sts:Bool->List St)(fr:Nat){vals:List D}{effs:List Ef}{env':List D}{j':Nat}{σ':St}(h0:(sts false)[0]?=G σ)(hj:(sts (Y (fr<ops.size)))[j']?=G σ')
  (h:G9 P ops sts fr ops.toList env 0 vals effs env' j') (hreg:Mq ops effs=true) (hk:AI C P R k env' σ'):AI C P R (.code (.region id ops true)::k) env σ:=fun E0 E _ _ _ B hC hfi hB=>
 YY (J:=fun _=>True) (fun _ _ _ _=>trivial) hm sts fr h0 hj h hreg hfi trivial fun g' a' w' _ hf=>hk E0 E g' a' w' B hC hf hB
end
def sub:Code->List Nat->Code
 |c,[]=>c
 |.seq a b,n::p=>if n=0 then sub a p else sub b p
 |.cond _ a b,n::p=>if n=0 then sub a p else sub b p
 |.block _ a,_::p=>sub a p
 |.loop a,_::p=>sub a p
 |.scope a,_::p=>sub a p
 |_,_::_=>.skip
def De:Code->Array yw
 |.region _ ops _=>ops
 |_=> #[]
def Cv(env:List D)(σ:St)(env':List D)(σ':St):Prop:=∀(E:co) (g:Gh) (a:Act) (w:yy),FI E g σ env a w->∃g',FI E g' σ' env' a w
section
variable {C : co -> co -> Prop} {P : x4} {R : List D -> St -> Prop} {c : Code} {p : List Nat} {k : List KI} {env env' : List D} {σ σ' : St} {i : Nat} {o : yw} {d : D}
theorem Xr(h:Cv env σ env' σ')(hk:AI C P R k env' σ'):AI C P R k env σ:=fun E0 E g a w B hC hf hB=>by
 obtain⟨g',hf'⟩:=h E g a w hf
 exact hk E0 E g' a w B hC hf' hB
theorem TE{s:Nat}(hs:env[s]?=G d):g9 env (.tmp s)=d:=by simp[g9,HY,hs]
inductive Wk:List D->List D->Prop
 |nil:Wk [] []
 |keep {d:D} {l l':List D} (h:Wk l l'):Wk (d::l) (d::l')
 |drop {d:D} {l l':List D} (h:Wk l l'):Wk (d::l) (.undef::l')
theorem Wk.ok:∀{l l':List D},Wk l l'->I l'=I l/\∀(i:Nat) (d':D),l'[i]?=G d'->d'=.undef∨l[i]?=G d'
 |_,_,.nil=>⟨rfl,fun i d' h=>by simp at h⟩
 |_,_,.keep h=>by
  obtain⟨h1,h2⟩:=h.ok
  refine⟨by simp[h1],fun i d' hi=>?_⟩
  cases i with
  |zero=>exact .inr hi
  |succ i=>exact h2 i d' (by simpa using hi)
 |_,_,.drop h=>by
  obtain⟨h1,h2⟩:=h.ok
  refine⟨by simp[h1],fun i d' hi=>?_⟩
  cases i with
  |zero=>simp at hi;exact .inl hi.symm
  |succ i=>exact h2 i d' (by simpa using hi)
theorem dx(ho:(De (sub c p))[i]?=G o):((De (sub c p)).toList.drop i)=o::(De (sub c p)).toList.drop (i+1):=by
 have ho':(De (sub c p)).toList[i]?=G o:=by simpa using ho
 rw[Ih (HT.1 ho').1,(HT.1 ho').2]
def CR(LF LT:List St):Bool->List St
 |false=>LF
 |true=>LT
end
end Go.Dv

namespace Go.Proofs.YthmjfmacdlhfjaaGreat
open Go.Dv
open Go.IntKind (u64)
open Go.IntKind renaming wrap → yr, i64 → yq
open List renaming length → I, map → U, drop → W
open Option renaming some → G
open Bool renaming true → J, false → O
open Decidable renaming decide → Y
open Int renaming toNat → Z
open Go.Dv.V renaming list → ai, str → ae, agg → ab, int → aa, ref → bz, fn → bw, nils → bv, bool → bu
open Go.Dv.D renaming v → bt, acc → br, ptr → bq, arr → bo, gro → bm, tup → bl, undef → bk, dagg → bj
open Go.Dv.St renaming mk → bi
open Go.Dv.KI renaming blk → bh
open _root_.ByteArray renaming mk → bg
open Go renaming Operand → x5, Program → x4, TypeId → yz, World → yy, Value → yx, Oper → yw, FuncId → yv, Func → yu, IntKind → yt
noncomputable abbrev PP:x4:= Tryz.prog
theorem mixed:PP.follows .mixedOrders=J:=by kernel_rfl
end Go.Proofs.YthmjfmacdlhfjaaGreat

namespace Go.Dv
open List (getElem?_set length_pos_iff length_set map_map map_toArray replicate)
open Go.IntKind (u64)
open Go.IntKind renaming wrap → yr, i64 → yq
open List renaming length → I, map → U, drop → W
open Option renaming some → G
open Bool renaming true → J, false → O
open Decidable renaming decide → Y
open Int renaming toNat → Z
open Go.Dv.V renaming list → ai, str → ae, agg → ab, int → aa, ref → bz, fn → bw, nils → bv, bool → bu
open Go.Dv.D renaming v → bt, acc → br, ptr → bq, arr → bo, gro → bm, tup → bl, undef → bk, dagg → bj
open Go.Dv.St renaming mk → bi
open Go.Dv.KI renaming blk → bh
open _root_.ByteArray renaming mk → bg
open Go renaming Operand → x5, Program → x4, TypeId → yz, World → yy, Value → yx, Oper → yw, FuncId → yv, Func → yu, IntKind → yt
def CM:List (Option (List D))->List Nat->List (Option (List D))->List (Option (List D))
 |H,q::qs,o::os=>CM (H.set q o) qs os
 |H,[],os=>H++os
 |H,_::_,[]=>H
def dv(n:Nat)(qs:List Nat)(j:Nat):Nat:=match qs[j]? with
 |some q=>q
 |none=>n+(j-I qs)
theorem KR:∀(qs:List Nat) (H os:List (Option (List D))),I qs<=I os->I (CM H qs os)=I H+(I os-I qs)
 |[],H,os,_=>by simp[CM]
 |q::qs,H,[],h=>by simp at h
 |q::qs,H,o::os,h=>by
  simp only[CM]
  rw[KR qs _ os (by simpa using h)]
  simp
theorem QK:∀(qs:List Nat) (H os:List (Option (List D))),I qs<=I os->∀{i:Nat} {cs:List D},(CM H qs os)[i]?=G (G cs)->
  (∃j,dv (I H) qs j=i/\os[j]?=G (G cs))∨(i<I H/\i∉qs/\H[i]?=G (G cs))
 |[],H,os,_,i,cs,h=>by
  simp only[CM] at h
  by_cases hi:i<I H
  ·rw[Ip hi] at h
   exact .inr ⟨hi,by simp,h⟩
  ·rw[Il (by omega)] at h
   exact .inl ⟨i-I H,by simp[dv];omega,h⟩
 |q::qs,H,[],h,_,_,_=>by simp at h
 |q::qs,H,o::os,h,i,cs,hg=>by
  simp only[CM] at hg
  rcases QK qs (H.set q o) os (by simpa using h) hg with⟨j,h1,h2⟩|⟨h1,h2,h3⟩
  ·refine .inl ⟨j+1,?_,by simpa using h2⟩
   rw[←h1]
   simp[dv]
  ·simp only[length_set] at h1
   rw[getElem?_set] at h3
   split at h3
   ·rename_i e;subst e
    simp only[h1,Jj,I1] at h3
    exact .inl ⟨0,by simp[dv],by simp[h3]⟩
   ·rename_i e
    exact .inr ⟨h1,by simp only[I8,not_or];exact⟨fun e'=>e e'.symm,h2⟩,h3⟩
def fc(g:Gh)(qs:List Nat):Gh:={ M:=g.M,β:=fun j=>g.β (qs.getD j 0),n:=I qs,ι:=fun _ _=>none,κ:=fun j=>g.κ (qs.getD j 0)}
theorem EC{qs:List Nat}{j q:Nat}(h:qs[j]?=G q):qs.getD j 0=q:=by simp[HY,h]
theorem c8.callee{g:Gh}{σ σc:St}{w:yy}(h:c8 g σ w){qs:List Nat}(hnd:qs.Nodup)(hown:σc.own=[])(hlen:I σc.H=I qs)
  (hq:∀(j q:Nat) (csc:List D),qs[j]?=G q->σc.H[j]?=G (G csc)->∃cs,σ.H[q]?=G (G cs)/\(∀us,Ar g cs us->Ar (fc g qs) csc us)/\∀c∈csc,c.one=J):c8 (fc g qs) σc w where
 n:=hlen.symm
 mem:=h.mem
 gl:=h.gl
 gw:=h.gw
 obj:=fun j csc hj=>by
  have hlt:j<I qs:=by rw[←hlen];exact(HT.1 hj).1
  have hqj:qs[j]?=G qs[j]:=HQ hlt
  obtain⟨cs,h1,h2,h3⟩:=hq j _ csc hqj hj
  obtain⟨us,rest,e,hb,hr,_,hM,hκ⟩:=h.obj _ cs h1
  have e1:(fc g qs).β j=g.β qs[j]:=by simp only[fc,EC hqj]
  have e2:(fc g qs).κ j=g.κ qs[j]:=by simp only[fc,EC hqj]
  exact⟨us,rest,e,by rw[e1];exact hb,h2 us hr,h3,by rw[e1];exact hM,by rw[e2];exact hκ⟩
 inj:=fun i j c1 c2 hi hj hij=>by
  have hlti:i<I qs:=by rw[←hlen];exact(HT.1 hi).1
  have hltj:j<I qs:=by rw[←hlen];exact(HT.1 hj).1
  have hqi:qs[i]?=G qs[i]:=HQ hlti
  have hqj:qs[j]?=G qs[j]:=HQ hltj
  obtain⟨ci,h1,_⟩:=hq i _ c1 hqi hi
  obtain⟨cj,h2,_⟩:=hq j _ c2 hqj hj
  simp only[fc,EC hqi,EC hqj] at hij
  have:=h.inj _ _ _ _ h1 h2 hij
  exact(List.getElem_inj hnd).1 this
 own:=fun k sz xs hx=>by rw[hown] at hx;simp at hx
 tags:=by rw[hown];simp
 sep:=fun x hx=>by rw[hown] at hx;simp at hx
 ownObj:=fun x hx=>by rw[hown] at hx;simp at hx
 fresh:=fun _ _ _=>rfl
def DB(g gc':Gh)(k:Nat)(own':List (Nat×Nat×List V))(τ:Nat->Nat):Gh:=
 { M:=gc'.M,n:=g.n+(gc'.n-k),β:=fun j=>if j<g.n then g.β j else gc'.β (k+(j-g.n)),κ:=fun j=>if j<g.n then g.κ j else gc'.κ (k+(j-g.n)),ι:=fun t m=>match own'.find? (fun x=>τ x.1==t) with|G x=>gc'.ι x.1 m|none=>g.ι t m }
theorem AcA{own':List (Nat×Nat×List V)}{τ:Nat->Nat}(hτ:∀x∈own',∀y∈own',τ x.1=τ y.1->x.1=y.1){y:Nat×Nat×List V}(hy:y∈own'):∃x,own'.find? (fun x=>τ x.1==τ y.1)=G x/\x.1=y.1:=by
 cases h:own'.find? (fun x=>τ x.1==τ y.1) with
 |none=>have:=List.find?_eq_none.1 h y hy;simp at this
 |some x=>exact⟨x,rfl,hτ x (List.mem_of_find?_eq_some h) y hy (by have:=List.find?_some h;simpa using this)⟩
theorem YK{own':List (Nat×Nat×List V)}{τ:Nat->Nat}{t:Nat}(h:∀x∈own',τ x.1≠t):own'.find? (fun x=>τ x.1==t)=none:=List.find?_eq_none.2 fun x hx=>by simp[h x hx]
def Ge(τ:Nat->Nat)(own':List (Nat×Nat×List V)):List (Nat×Nat×List V):=own'.map fun x=>(τ x.1,x.2)
theorem Eg{g gc':Gh}{k:Nat}{own':List (Nat×Nat×List V)}{τ:Nat->Nat}(hτ:∀x∈own',∀y∈own',τ x.1=τ y.1->x.1=y.1){y:Nat×Nat×List V}(hy:y∈own')(m:Nat):(DB g gc' k own' τ).ι (τ y.1) m=gc'.ι y.1 m:=by
 obtain⟨x,h1,h2⟩:=AcA hτ hy
 simp only[DB,h1,h2]
theorem BW{g gc':Gh}{k:Nat}{own':List (Nat×Nat×List V)}{τ:Nat->Nat}{t:Nat}(h:∀x∈own',τ x.1≠t)(m:Nat):(DB g gc' k own' τ).ι t m=g.ι t m:=by
 simp only[DB,YK h]
theorem WI.back{E:co}{g gc':Gh}{σ σc σc':St}{w w':yy}(hw:WI E g σ w){qs:List Nat}(hown:σc.own=[])(hlen:I σc.H=I qs)
  (hq:∀(j q:Nat),qs[j]?=G q->∃cs,σ.H[q]?=G (G cs)) (h:WI ⟨fc g qs,w,σc⟩ gc' σc' w') {τ:Nat->Nat} (hτ:∀x∈σc'.own,∀y∈σc'.own,τ x.1=τ y.1->x.1=y.1)
  (hfr:∀x∈σc'.own,∀y∈σ.own,τ x.1≠y.1) {H2:List (Option (List D))} (hlen2:I H2=I σc'.H)
  (hout:∀(j:Nat) (cs2:List D),H2[j]?=G (G cs2)->∃csc,σc'.H[j]?=G (G csc)/\(∀us,Ar gc' csc us->Ar (DB g gc' (I qs) σc'.own τ) cs2 us)/\∀c∈cs2,c.one=J):
  WI E (DB g gc' (I qs) σc'.own τ) ⟨CM σ.H qs H2,Ge τ σc'.own++σ.own⟩ w'/\g.le (DB g gc' (I qs) σc'.own τ):=by
 have hn':gc'.n=I σc'.H:=h.rep.n
 have hkn:I qs<=gc'.n:=h.nE
 have hgn:g.n=I σ.H:=hw.rep.n
 have hold:∀y∈σ.own,∀x∈σc'.own,τ x.1≠y.1:=fun y hy x hx=>hfr x hx y hy
 have hle:g.le (DB g gc' (I qs) σc'.own τ):=by
  refine⟨h.M,Nat.le_add_right _ _,fun o ho=>Io ho,fun t m u ht=>?_,fun o ho=>Io ho⟩
  by_cases hx:∃x∈σc'.own,τ x.1=t
  ·obtain⟨x,hx,rfl⟩:=hx
   rw[hw.rep.fresh (τ x.1) (fun y hy e=>hfr x hx y hy e.symm) m] at ht
   simp at ht
  ·rw[BW (fun x hx' e=>hx ⟨x,hx',e⟩)];exact ht
 -- the callee's blocks
 have hpriv:∀b,co.priv ⟨fc g qs,w,σc⟩ b->∃(j q:Nat),qs[j]?=G q/\b=g.β q:=by
  rintro b (⟨j,cs,hj,e⟩|⟨x,hx,_⟩)
  ·have hlt:j<I qs:=by rw[←hlen];exact(HT.1 hj).1
   have hqj:qs[j]?=G qs[j]:=HQ hlt
   exact⟨j,_,hqj,by rw[e];simp only[fc,EC hqj]⟩
  ·simp only[hown] at hx;simp at hx
 have hβ:∀j,j<gc'.n->(DB g gc' (I qs) σc'.own τ).β (dv (I σ.H) qs j)=gc'.β j/\(DB g gc' (I qs) σc'.own τ).κ (dv (I σ.H) qs j)=gc'.κ j:=by
  intro j hj
  by_cases hlt:j<I qs
  ·have hqj:qs[j]?=G qs[j]:=HQ hlt
   obtain⟨cs,hcs⟩:=hq j _ hqj
   have h1:qs[j]<g.n:=hw.rep.lt_n hcs
   have h2:=h.βE j hlt
   have h3:=h.κE j hlt
   simp only[fc,EC hqj] at h2 h3
   simp only[dv,hqj,DB,Io h1,h2,h3,and_self]
  ·have hqj:qs[j]?=none:=IF (by omega)
   have h1:¬I σ.H+(j-I qs)<g.n:=by omega
   have h2:I qs+(I σ.H+(j-I qs)-g.n)=j:=by omega
   simp only[dv,hqj,DB,Ij h1,h2,and_self]
 -- what a block of the callee can be
 have hobjc:∀(j:Nat) (csc:List D),σc'.H[j]?=G (G csc)->w.heap.size<=gc'.β j∨∃(j' q:Nat),qs[j']?=G q/\gc'.β j=g.β q:=by
  intro j csc hj
  rcases h.objs j csc hj with h1|h1
  ·exact .inl h1
  ·exact .inr (hpriv _ h1)
 have hownc:∀x∈σc'.own,∀u,gc'.ι x.1 (I x.2.2)=G u->∀b,Cn u=G b->w.heap.size<=b∨∃(j' q:Nat),qs[j']?=G q/\b=g.β q:=by
  intro x hx u hu b hb
  rcases h.owns x hx u hu b hb with h1|h1
  ·exact .inl h1
  ·exact .inr (hpriv _ h1)
 have hoff:∀(i:Nat) (cs:List D),σ.H[i]?=G (G cs)->i∉qs->∀(j q:Nat),qs[j]?=G q->g.β i≠g.β q:=by
  intro i cs hi hni j q hj e
  obtain⟨c2,h2⟩:=hq j q hj
  have:=hw.rep.inj i q _ _ hi h2 e
  subst this
  exact hni (HW hj)
 have keepOld:∀(i:Nat) (cs:List D),σ.H[i]?=G (G cs)->i∉qs->w'.heap[g.β i]?=w.heap[g.β i]?/\∀o,gc'.M (g.β i) o=g.M (g.β i) o:=by
  intro i cs hi hni
  refine h.keep (g.β i) (hw.rep.obj_lt hi) (fun hp=>?_)
  obtain⟨j,q,hj,e⟩:=hpriv _ hp
  exact hoff i cs hi hni j q hj e
 have keepOwn:∀x∈σ.own,∀u,g.ι x.1 (I x.2.2)=G u->∀b,Cn u=G b->(b<w.heap.size/\∀(j q:Nat),qs[j]?=G q->b≠g.β q)/\w'.heap[b]?=w.heap[b]?/\∀o,gc'.M b o=g.M b o:=by
  intro x hx u hu b hb
  have hlt:=hw.rep.own_lt hx hu hb
  have hne:∀(j q:Nat),qs[j]?=G q->b≠g.β q:=fun j q hj e=>by
   obtain⟨c2,h2⟩:=hq j q hj
   exact hw.rep.ownObj x hx u hu b hb q c2 h2 e.symm
  refine⟨⟨hlt,hne⟩,h.keep b hlt (fun hp=>?_)⟩
  obtain⟨j,q,hj,e⟩:=hpriv _ hp
  exact hne j q hj e
 have get:∀{i:Nat} {cs:List D},(CM σ.H qs H2)[i]?=G (G cs)->(∃j,dv (I σ.H) qs j=i/\H2[j]?=G (G cs)/\j<gc'.n)∨(i<I σ.H/\i∉qs/\σ.H[i]?=G (G cs)):=by
  intro i cs hi
  rcases QK qs σ.H H2 (by omega) hi with⟨j,h1,h2⟩|h1
  ·exact .inl ⟨j,h1,h2,by rw[hn', ←hlen2];exact(HT.1 h2).1⟩
  ·exact .inr h1
 have memO:∀{x:Nat×Nat×List V},x∈Ge τ σc'.own++σ.own->(∃y∈σc'.own,x=(τ y.1,y.2))∨x∈σ.own:=by
  intro x hx
  rcases IE.1 hx with hx|hx
  ·obtain⟨y,hy,e⟩:=IA.1 hx;exact .inl ⟨y,hy,e.symm⟩
  ·exact .inr hx
 refine⟨hw.update (fun b=>∃(j q:Nat),qs[j]?=G q/\b=g.β q) ?_ (fun b hb hx=>h.keep b hb (fun hp=>hx (hpriv b hp))) h.M (Nat.le_add_right _ _) (fun o ho=>Io ho) (fun o ho=>Io ho) h.size h.os h.tape h.output ?_ ?_ ?_ (drawn:=h.drawn),hle⟩
 ·rintro b ⟨j,q,hj,rfl⟩
  obtain⟨c2,h2⟩:=hq j q hj
  exact hw.objs q c2 h2
 ·refine⟨?_,h.rep.mem,fun i cs hi=>?_,fun i j c1 c2 hi hj hij=>?_,fun k sz xs hx=>?_,?_,fun x hx y hy hne u u' hu hu' b hb=>?_,fun x hx u hu b hb i cs hi=>?_,fun k hk m=>?_,h.rep.gl,h.rep.gw⟩
  ·simp only[DB];rw[KR qs _ _ (by omega)];omega
  ·rcases get hi with⟨j,rfl,h2,hj⟩|⟨h1,h2,h3⟩
   ·obtain⟨csc,h4,h5,h6⟩:=hout j cs h2
    obtain⟨us,rest,e,hb,hr,_,hM,hκ⟩:=h.rep.obj j csc h4
    obtain⟨e1,e2⟩:=hβ j hj
    exact⟨us,rest,e,by rw[e1];exact hb,h5 us hr,h6,by rw[e1];exact hM,by rw[e2];exact hκ⟩
   ·obtain⟨us,rest,e,hb,hr,h4,hM,hκ⟩:=hw.rep.obj i cs h3
    obtain⟨k1,k2⟩:=keepOld i cs h3 h2
    have e1:(DB g gc' (I qs) σc'.own τ).β i=g.β i:=Io (by omega)
    have e2:(DB g gc' (I qs) σc'.own τ).κ i=g.κ i:=Io (by omega)
    exact⟨us,rest,e,by rw[e1];exact k1.trans hb,Ar.mono hle _ _ hr,h4,by rw[e1];exact fun o=>(k2 o).trans (hM o),by rw[e2];exact hκ⟩
  ·rcases get hi with⟨ji,rfl,h2,hji⟩|⟨h1,h2,h3⟩<;>rcases get hj with⟨jj,rfl,h5,hjj⟩|⟨h4,h5,h6⟩
   ·rw[(hβ ji hji).1,(hβ jj hjj).1] at hij
    obtain⟨ci,hci,_⟩:=hout ji _ h2
    obtain⟨cj,hcj,_⟩:=hout jj _ h5
    rw[h.rep.inj ji jj _ _ hci hcj hij]
   ·rw[(hβ ji hji).1,show(DB g gc' (I qs) σc'.own τ).β j=g.β j from Io (by omega)] at hij
    obtain⟨ci,hci,_⟩:=hout ji _ h2
    have hlt:=hw.rep.obj_lt h6
    rcases hobjc ji ci hci with h7|⟨j',q,h7,h8⟩
    ·omega
    ·exact absurd (hij.symm.trans h8) (hoff j _ h6 h5 j' q h7)
   ·rw[(hβ jj hjj).1,show(DB g gc' (I qs) σc'.own τ).β i=g.β i from Io (by omega)] at hij
    obtain⟨cj,hcj,_⟩:=hout jj _ h5
    have hlt:=hw.rep.obj_lt h3
    rcases hobjc jj cj hcj with h7|⟨j',q,h7,h8⟩
    ·omega
    ·exact absurd (hij.trans h8) (hoff i _ h3 h2 j' q h7)
   ·rw[show(DB g gc' (I qs) σc'.own τ).β i=g.β i from Io (by omega),show(DB g gc' (I qs) σc'.own τ).β j=g.β j from Io (by omega)] at hij
    exact hw.rep.inj i j _ _ h3 h6 hij
  ·rcases memO hx with⟨y,hy,e⟩|hx
   ·simp only[Prod.mk.injEq] at e
    obtain⟨rfl,e2⟩:=e
    obtain⟨h0,u,hu,h3,h4,h5⟩:=h.rep.own y.1 sz xs (by rw[show(y.1,sz,xs)=y from by rw[e2]];exact hy)
    exact⟨h0,u,by rw[Eg hτ hy];exact hu,h3,h4,fun m hm=>by rw[Eg hτ hy];exact h5 m hm⟩
   ·obtain⟨h0,u,hu,h3,h4,h5⟩:=hw.rep.own k sz xs hx
    exact⟨h0,u,by rw[BW (hold _ hx)];exact hu,h3.mono h.M,h4.kept fun b hb=>(keepOwn _ hx u hu b hb).2,fun m hm=>by rw[BW (hold _ hx)];exact h5 m hm⟩
  ·simp only[Jq]
   refine List.nodup_append.2 ⟨?_,hw.rep.tags,fun a ha b hb e=>?_⟩
   ·have:(Ge τ σc'.own).map (·.1)=(σc'.own.map (·.1)).map τ:=by simp[Ge,Function.comp_def]
    rw[this]
    refine List.pairwise_map.2 (List.Pairwise.imp_of_mem ?_ h.rep.tags)
    intro a b ha hb hne e
    obtain⟨x,hx,rfl⟩:=IA.1 ha
    obtain⟨y,hy,rfl⟩:=IA.1 hb
    exact hne (hτ x hx y hy e)
   ·obtain⟨x,hx,rfl⟩:=IA.1 ha
    obtain⟨y,hy,rfl⟩:=IA.1 hb
    obtain⟨z,hz,rfl⟩:=IA.1 hx
    exact hfr z hz y hy e
  ·rcases memO hx with⟨x',hx',rfl⟩|hx<;>rcases memO hy with⟨y',hy',rfl⟩|hy
   ·rw[Eg hτ hx'] at hu;rw[Eg hτ hy'] at hu'
    exact h.rep.sep x' hx' y' hy' (fun e=>hne (by simp only[e])) u u' hu hu' b hb
   ·rw[Eg hτ hx'] at hu;rw[BW (hold _ hy)] at hu'
    intro hb'
    obtain⟨⟨hlt,hne'⟩,_⟩:=keepOwn y hy u' hu' b hb'
    rcases hownc x' hx' u hu b hb with h7|⟨j',q,h7,h8⟩
    ·omega
    ·exact hne' j' q h7 h8
   ·rw[BW (hold _ hx)] at hu;rw[Eg hτ hy'] at hu'
    intro hb'
    obtain⟨⟨hlt,hne'⟩,_⟩:=keepOwn x hx u hu b hb
    rcases hownc y' hy' u' hu' b hb' with h7|⟨j',q,h7,h8⟩
    ·omega
    ·exact hne' j' q h7 h8
   ·rw[BW (hold _ hx)] at hu;rw[BW (hold _ hy)] at hu'
    exact hw.rep.sep x hx y hy hne u u' hu hu' b hb
  ·rcases memO hx with⟨x',hx',rfl⟩|hx<;>rcases get hi with⟨ji,rfl,h2,hji⟩|⟨h1,h2,h3⟩
   ·rw[Eg hτ hx'] at hu
    obtain⟨ci,hci,_⟩:=hout ji _ h2
    rw[(hβ ji hji).1]
    exact h.rep.ownObj x' hx' u hu b hb ji ci hci
   ·rw[Eg hτ hx'] at hu
    rw[show(DB g gc' (I qs) σc'.own τ).β i=g.β i from Io (by omega)]
    have hlt:=hw.rep.obj_lt h3
    rcases hownc x' hx' u hu b hb with h7|⟨j',q,h7,h8⟩
    ·omega
    ·rw[h8];exact hoff i _ h3 h2 j' q h7
   ·rw[BW (hold _ hx)] at hu
    obtain⟨ci,hci,_⟩:=hout ji _ h2
    rw[(hβ ji hji).1]
    obtain⟨⟨hlt,hne'⟩,_⟩:=keepOwn x hx u hu b hb
    rcases hobjc ji ci hci with h7|⟨j',q,h7,h8⟩
    ·omega
    ·rw[h8];exact fun e=>hne' j' q h7 e.symm
   ·rw[BW (hold _ hx)] at hu
    rw[show(DB g gc' (I qs) σc'.own τ).β i=g.β i from Io (by omega)]
    exact hw.rep.ownObj x hx u hu b hb i cs h3
  ·rw[BW (fun x hx e=>hk (τ x.1,x.2) (IE.2 (.inl (IA.2 ⟨x,hx,rfl⟩))) e)]
   exact hw.rep.fresh k (fun x hx=>hk x (IE.2 (.inr hx))) m
 ·intro i cs hi
  rcases get hi with⟨j,rfl,h2,hj⟩|⟨h1,h2,h3⟩
  ·obtain⟨csc,h4,_⟩:=hout j cs h2
   rw[(hβ j hj).1]
   rcases hobjc j csc h4 with h5|⟨j',q,h5,h6⟩
   ·exact .inl (IN hw.size h5)
   ·obtain⟨c2,h7⟩:=hq j' q h5
    rw[h6];exact hw.objs q c2 h7
  ·rw[show(DB g gc' (I qs) σc'.own τ).β i=g.β i from Io (by omega)]
   exact hw.objs i cs h3
 ·intro x hx u hu b hb
  rcases memO hx with⟨x',hx',rfl⟩|hx
  ·rw[Eg hτ hx'] at hu
   rcases hownc x' hx' u hu b hb with h5|⟨j',q,h5,h6⟩
   ·exact .inl (IN hw.size h5)
   ·obtain⟨c2,h7⟩:=hq j' q h5
    rw[h6];exact hw.objs q c2 h7
  ·rw[BW (hold _ hx)] at hu
   exact hw.owns x hx u hu b hb
mutual
def D.ren(ρ τ:Nat->Nat):D->D
 |.v x=>.v x
 |.acc t xs=>.acc (τ t) xs
 |.ptr o off=>.ptr (ρ o) off
 |.arr o off len=>.arr (ρ o) off len
 |.gro o len sz=>.gro (ρ o) len sz
 |.raw x=>.raw x
 |.rv x u=>.rv x u
 |.dagg cs=>.dagg (D.rens ρ τ cs)
 |.dfn f fs cs=>.dfn f (D.rens ρ τ fs) (D.rens ρ τ cs)
 |.tup ds=>.tup (D.rens ρ τ ds)
 |.err=>.err
 |.undef=>.undef
def D.rens(ρ τ:Nat->Nat):List D->List D
 |[]=>[]
 |d::ds=>d.ren ρ τ::D.rens ρ τ ds
end
mutual
def D.okN(n:Nat)(ts:List Nat):D->Bool
 |.acc t _=>ts.contains t
 |.ptr o _|.arr o _ _|.gro o _ _=>Y (o<n)
 |.dagg cs=>D.okNs n ts cs
 |.dfn _ fs cs=>D.okNs n ts fs&&D.okNs n ts cs
 |.tup ds=>D.okNs n ts ds
 |_=>true
def D.okNs(n:Nat)(ts:List Nat):List D->Bool
 |[]=>true
 |d::ds=>d.okN n ts&&D.okNs n ts ds
end
mutual
theorem Lh{g g':Gh}{ρ τ ρ' τ':Nat->Nat}{n:Nat}{ts:List Nat}(hM:∀x u,repV g.M x u->repV g'.M x u)(ho:∀o,o<n->ρ o<g.n->ρ' o<g'.n/\g'.β (ρ' o)=g.β (ρ o)/\g'.κ (ρ' o)=g.κ (ρ o))
  (hι:∀t,ts.contains t=J->∀m u,g.ι (τ t) m=G u->g'.ι (τ' t) m=G u):∀(d:D) (u:yx),d.okN n ts=J->Av g (d.ren ρ τ) u->Av g' (d.ren ρ' τ') u
 |.v x,u,_,h=>by simp only[D.ren,Av] at h⊢;exact hM _ _ h
 |.acc t xs,u,hk,h=>by simp only[D.ren,Av] at h⊢;exact⟨hM _ _ h.1,hι t (by simpa[D.okN] using hk) _ _ h.2⟩
 |.ptr o off,u,hk,h=>by
  simp only[D.okN,Ia] at hk
  simp only[D.ren,Av] at h⊢
  obtain⟨h1,h2,_⟩:=ho o hk h.1
  exact⟨h1,by rw[h2];exact h.2⟩
 |.arr o off len,u,hk,h=>by
  simp only[D.okN,Ia] at hk
  simp only[D.ren,Av] at h⊢
  obtain⟨h1,h2,_⟩:=ho o hk h.1
  exact⟨h1,by rw[h2];exact h.2⟩
 |.gro o len sz,u,hk,h=>by
  simp only[D.okN,Ia] at hk
  simp only[D.ren,Av] at h⊢
  obtain⟨h1,h2,h3⟩:=ho o hk h.1
  exact⟨h1,by rw[h2,h3];exact h.2⟩
 |.raw x,u,_,h=>by simpa only[D.ren,Av] using h
 |.rv x u0,u,_,h=>by simp only[D.ren,Av] at h⊢;exact⟨h.1,hM _ _ h.2⟩
 |.dagg cs,u,hk,h=>by
  simp only[D.ren,Av] at h⊢
  obtain⟨us,e,h1⟩:=h
  exact⟨us,e,DG hM ho hι cs us (by simpa[D.okN] using hk) h1⟩
 |.dfn f fs cs,u,hk,h=>by
  simp only[D.okN,HR] at hk
  simp only[D.ren,Av] at h⊢
  obtain⟨us,vs,e,h1,h2⟩:=h
  exact⟨us,vs,e,DG hM ho hι fs us hk.1 h1,DG hM ho hι cs vs hk.2 h2⟩
 |.tup ds,u,hk,h=>by
  simp only[D.ren,Av] at h⊢
  obtain⟨us,e,h1⟩:=h
  exact⟨us,e,DG hM ho hι ds us (by simpa[D.okN] using hk) h1⟩
 |.err,u,_,h=>by simpa only[D.ren,Av] using h
 |.undef,u,_,_=>by simp only[D.ren,Av]
theorem DG{g g':Gh}{ρ τ ρ' τ':Nat->Nat}{n:Nat}{ts:List Nat}(hM:∀x u,repV g.M x u->repV g'.M x u)(ho:∀o,o<n->ρ o<g.n->ρ' o<g'.n/\g'.β (ρ' o)=g.β (ρ o)/\g'.κ (ρ' o)=g.κ (ρ o))
  (hι:∀t,ts.contains t=J->∀m u,g.ι (τ t) m=G u->g'.ι (τ' t) m=G u):∀(ds:List D) (us:List yx),D.okNs n ts ds=J->Ar g (D.rens ρ τ ds) us->Ar g' (D.rens ρ' τ' ds) us
 |[],us,_,h=>by simpa only[D.rens,Ar] using h
 |d::ds,us,hk,h=>by
  simp only[D.okNs,HR] at hk
  simp only[D.rens,Ar] at h⊢
  obtain⟨u,us',e,h1,h2⟩:=h
  exact⟨u,us',e,Lh hM ho hι d u hk.1 h1,DG hM ho hι ds us' hk.2 h2⟩
end
mutual
theorem MI:∀d:D,d.ren id id=d
 |.v _|.acc .. |.ptr .. |.arr .. |.gro .. |.raw _|.rv .. |.err|.undef=>by simp[D.ren]
 |.dagg cs=>by simp[D.ren,EW cs]
 |.dfn f fs cs=>by simp[D.ren,EW fs,EW cs]
 |.tup ds=>by simp[D.ren,EW ds]
theorem EW:∀ds:List D,D.rens id id ds=ds
 |[]=>rfl
 |d::ds=>by simp[D.rens,MI d,EW ds]
end
mutual
theorem X7:∀(ρ τ:Nat->Nat) (d:D),(d.ren ρ τ).one=d.one
 |ρ,τ,d=>by cases d<;>simp[D.ren,D.one]
end
theorem SG{ρ τ:Nat->Nat}:∀{ds:List D},(∀c∈ds,c.one=J)->∀c∈D.rens ρ τ ds,c.one=J
 |[],_,c,hc=>by simp[D.rens] at hc
 |d::ds,h,c,hc=>by
  simp only[D.rens,I8] at hc
  rcases hc with rfl|hc
  ·rw[X7];exact h d (by simp)
  ·exact SG (fun c hc=>h c (by simp[hc])) c hc
inductive kp (n:Nat) (qs:List Nat):D->D->Prop
 |ren {dc:D} (h:dc.okN (I qs) []=J):kp n qs (dc.ren (dv n qs) id) dc
 |acc {t:Nat} {xs:List V}:kp n qs (.acc t xs) (.v (.list xs))
 |undef {d:D}:kp n qs d .undef
inductive GA (n:Nat) (qs:List Nat):List D->List D->Prop
 |nil:GA n qs [] []
 |cons {d dc:D} {ds dcs:List D} (h:kp n qs d dc) (hs:GA n qs ds dcs):GA n qs (d::ds) (dc::dcs)
inductive Pq (H:List (Option (List D))) (qs:List Nat):List Nat->List (Option (List D))->Prop
 |nil:Pq H qs [] []
 |cons {q:Nat} {js:List Nat} {cs csc:List D} {os:List (Option (List D))} (h:H[q]?=G (G cs)) (ha:GA (I H) qs cs csc) (h1:csc.all D.one=J) (hs:Pq H qs js os):Pq H qs (q::js) (G csc::os)
theorem Pq.length{H:List (Option (List D))}{qs:List Nat}:∀{js:List Nat} {os:List (Option (List D))},Pq H qs js os->os.length=js.length
 |_,_,.nil=>rfl
 |_,_,.cons _ _ _ hs=>by simp[hs.length]
theorem Pq.get{H:List (Option (List D))}{qs:List Nat}:∀{js:List Nat} {os:List (Option (List D))},Pq H qs js os->∀{j q:Nat},js[j]?=G q->∃cs csc,H[q]?=G (G cs)/\os[j]?=G (G csc)/\GA (I H) qs cs csc/\∀c∈csc,c.one=J
 |_,_,.nil,j,q,h=>by simp at h
 |_,_,.cons h ha h1 hs,j,q,hj=>by
  cases j with
  |zero=>simp at hj;subst hj;exact⟨_,_,h,by simp,ha,by simpa using h1⟩
  |succ j=>simp at hj;obtain⟨cs,csc,h2,h3,h4⟩:=hs.get hj;exact⟨cs,csc,h2,by simpa using h3,h4⟩
theorem AhH{n:Nat}{qs:List Nat}{j:Nat}(h:j<I qs):dv n qs j=qs.getD j 0:=by
 have hqj:qs[j]?=G qs[j]:=HQ h
 simp only[dv,hqj,EC hqj]
theorem kp.rep{g:Gh}{qs:List Nat}{d dc:D}(h:kp g.n qs d dc){u:yx}(hr:Av g d u):Av (fc g qs) dc u:=by
 cases h with
 |ren hk=>
  have:=Lh (g:=g) (g':=fc g qs) (ρ:=dv g.n qs) (τ:=id) (ρ':=id) (τ':=id) (n:=I qs) (ts:=[]) (fun _ _ h=>h) (fun o ho _=>⟨ho,by simp only[fc,id,AhH ho,and_self]⟩) (fun t ht=>by simp at ht) dc u hk hr
  rwa[MI] at this
 |acc=>simp only[Av] at hr⊢;exact hr.1
 |undef=>simp only[Av]
theorem GA.rep{g:Gh}{qs:List Nat}:∀{ds dcs:List D},GA g.n qs ds dcs->∀{us:List yx},Ar g ds us->Ar (fc g qs) dcs us
 |_,_,.nil,us,h=>by simpa only[Ar] using h
 |_,_,.cons h hs,us,hr=>by
  simp only[Ar] at hr⊢
  obtain⟨u,us',e,h1,h2⟩:=hr
  exact⟨u,us',e,h.rep h1,hs.rep h2⟩
def OJ:D->Option (yv×List D×List D)
 |.v (.fn f fs cs)=>G (f,fs.map .v,cs.map .v)
 |.dfn f fs cs=>G (f,fs,cs)
 |_=>none
theorem RL{g:Gh}{d:D}{f:yv}{fs cs:List D}(h:OJ d=G (f,fs,cs)){u:yx}(hr:Av g d u):∃us vs,u=.func (.func f) us.toArray vs.toArray/\Ar g fs us/\Ar g cs vs:=by
 unfold OJ at h
 split at h
 ·simp only[I1,Prod.mk.injEq] at h
  obtain⟨rfl,rfl,rfl⟩:=h
  simp only[Av,GH] at hr
  obtain⟨us,vs,e,h1,h2⟩:=hr
  exact⟨us,vs,e,Eu h1,Eu h2⟩
 ·simp only[I1,Prod.mk.injEq] at h
  obtain⟨rfl,rfl,rfl⟩:=h
  simpa only[Av] using hr
 ·simp at h
def cp(n:Nat)(ts:List Nat):List (Option (List D))->Bool
 |[]=>true
 |some cs::H=>D.okNs n ts cs&&cp n ts H
 |none::H=>cp n ts H
theorem O4{n:Nat}{ts:List Nat}:∀{H:List (Option (List D))},cp n ts H=J->∀{j:Nat} {cs:List D},H[j]?=G (G cs)->D.okNs n ts cs=J
 |[],_,j,cs,h=>by simp at h
 |some c::H,hk,j,cs,h=>by
  simp only[cp,HR] at hk
  cases j with
  |zero=>simp at h;subst h;exact hk.1
  |succ j=>exact O4 hk.2 (by simpa using h)
 |none::H,hk,j,cs,h=>by
  simp only[cp] at hk
  cases j with
  |zero=>simp at h
  |succ j=>exact O4 hk (by simpa using h)
def Dp(ρ τ:Nat->Nat)(H:List (Option (List D))):List (Option (List D)):=H.map (Option.map (D.rens ρ τ))
section
variable {P : x4} {o : yw} {σ : St}
theorem B7{c:Call}{fo:x5}(ho:o.op=.call c)(hc:c.callee=.value fo){fD:D}{f:yv}{fs cs:List D}(hf:OJ fD=some (f,fs,cs)){ds dsc:List D}{σc σc':St}{dc:D}(qs:List Nat)(τ:Nat->Nat)
  (hspec:Aa P f dsc σc dc σc') (hargs:GA σ.H.length qs (fs++ds++cs) dsc) (hobjs:Pq σ.H qs qs σc.H) (hnd:qs.Nodup) (hown:σc.own=[]) (hτ:∀x∈σc'.own,∀y∈σc'.own,τ x.1=τ y.1->x.1=y.1)
  (hfr:∀x∈σc'.own,∀y∈σ.own,τ x.1≠y.1) (hokd:dc.okN σc'.H.length (σc'.own.map (·.1))=true) (hokH:cp σc'.H.length (σc'.own.map (·.1)) σc'.H=true):
  Ay P o (fD::ds) σ (dc.ren (dv σ.H.length qs) τ) ⟨CM σ.H qs (Dp (dv σ.H.length qs) τ σc'.H),Ge τ σc'.own++σ.own⟩:=by
 intro E g a w K Q hw hds hK
 have hn:g.n=σ.H.length:=hw.rep.n
 simp only[ho,Op.operands,Call.operands,hc] at hds
 have h':Ar g (fD::ds) (a.eval fo::c.args.toList.map a.eval):=by simpa using hds
 simp only[Ar] at h'
 obtain⟨u,us',e,h1,h2⟩:=h'
 simp only[Ie] at e
 obtain⟨e1,e2⟩:=e
 obtain⟨us,vs,e3,h3,h4⟩:=RL hf h1
 refine FH (_E:=E) (_g:=g) ho hc hspec.1 (e1.trans e3) e2 ?_
 rw[←hn] at hargs
 have hq:∀(j q:Nat),qs[j]?=some q->∃cs csc,σ.H[q]?=some (some cs)/\σc.H[j]?=some (some csc)/\GA g.n qs cs csc/\∀c∈csc,c.one=true:=fun j q hj=>by rw[hn];exact hobjs.get hj
 have hrep:c8 (fc g qs) σc w:=hw.rep.callee hnd hown hobjs.length (fun j q csc hj hcj=>by
  obtain⟨cs,csc',h5,h6,h7,h8⟩:=hq j q hj
  rw[h6] at hcj;simp at hcj;subst hcj
  exact⟨cs,h5,fun us hr=>h7.rep hr,h8⟩)
 refine Calls.mono (hspec.2 _ w _ hrep (hargs.rep (A7 (A7 h3 h2) h4))) ?_
 rintro e w' ⟨r,gc',rfl,hw',hr⟩
 have hn':gc'.n=σc'.H.length:=hw'.rep.n
 have hkn:qs.length<=gc'.n:=hw'.nE
 have hρ:∀j,j<σc'.H.length->dv σ.H.length qs j<(DB g gc' qs.length σc'.own τ).n/\(DB g gc' qs.length σc'.own τ).β (dv σ.H.length qs j)=gc'.β j/\(DB g gc' qs.length σc'.own τ).κ (dv σ.H.length qs j)=gc'.κ j:=by
  intro j hj
  by_cases hlt:j<qs.length
  ·have hqj:qs[j]?=some qs[j]:=HQ hlt
   obtain⟨cs,_,hcs,_⟩:=hq j _ hqj
   have h5:qs[j]<g.n:=hw.rep.lt_n hcs
   have h6:=hw'.βE j hlt
   have h7:=hw'.κE j hlt
   simp only[fc,EC hqj] at h6 h7
   simp only[dv,hqj,DB,Io h5,h6,h7,and_self,I6]
   omega
  ·have hqj:qs[j]?=none:=IF (by omega)
   have h5:¬σ.H.length+(j-qs.length)<g.n:=by omega
   have h6:qs.length+(σ.H.length+(j-qs.length)-g.n)=j:=by omega
   simp only[dv,hqj,DB,Ij h5,h6,and_self,I6]
   omega
 have hren:∀(dd:D) (v:yx),dd.okN σc'.H.length (σc'.own.map (·.1))=true->Av gc' dd v->Av (DB g gc' qs.length σc'.own τ) (dd.ren (dv σ.H.length qs) τ) v:=by
  intro dd v hk hv
  refine Lh (g:=gc') (g':=DB g gc' qs.length σc'.own τ) (ρ:=id) (τ:=id) (ρ':=dv σ.H.length qs) (τ':=τ) (n:=σc'.H.length) (ts:=σc'.own.map (·.1)) (fun _ _ h=>h) (fun o ho _=>hρ o ho) (fun t ht m x hx=>?_) dd v hk (by rw[MI];exact hv)
  simp only[List.contains_iff_mem,IA] at ht
  obtain⟨y,hy,rfl⟩:=ht
  rw[Eg hτ hy];exact hx
 have hrens:∀(dd:List D) (v:List yx),D.okNs σc'.H.length (σc'.own.map (·.1)) dd=true->Ar gc' dd v->Ar (DB g gc' qs.length σc'.own τ) (D.rens (dv σ.H.length qs) τ dd) v:=by
  intro dd v hk hv
  refine DG (g:=gc') (g':=DB g gc' qs.length σc'.own τ) (ρ:=id) (τ:=id) (ρ':=dv σ.H.length qs) (τ':=τ) (n:=σc'.H.length) (ts:=σc'.own.map (·.1)) (fun _ _ h=>h) (fun o ho _=>hρ o ho) (fun t ht m x hx=>?_) dd v hk (by rw[EW];exact hv)
  simp only[List.contains_iff_mem,IA] at ht
  obtain⟨y,hy,rfl⟩:=ht
  rw[Eg hτ hy];exact hx
 obtain⟨h8,h9⟩:=hw.back hown hobjs.length (fun j q hj=>by obtain⟨cs,_,h5,_⟩:=hq j q hj;exact⟨cs,h5⟩) hw' hτ hfr (H2:=Dp (dv σ.H.length qs) τ σc'.H) (by simp[Dp]) (fun j cs2 hj=>by
  simp only[Dp,I9] at hj
  cases hcj:σc'.H[j]? with
  |none=>simp[hcj] at hj
  |some oc=>
   cases oc with
   |none=>simp[hcj] at hj
   |some csc=>
    simp[hcj] at hj
    subst hj
    obtain⟨_,_,_,_,_,h1c,_⟩:=hw'.rep.obj j csc hcj
    exact⟨csc,rfl,fun us hus=>hrens csc us (O4 hokH hcj) hus,SG h1c⟩)
 exact⟨r,rfl,hK _ _ _ h8 h9 (hren dc r hokd hr)⟩
end
theorem WI.kill{E:co}{g:Gh}{σ:St}{w:yy}(hw:WI E g σ w){q:Nat}{cs:List D}(hq:σ.H[q]?=G (G cs)):WI E g ⟨σ.H.set q none,σ.own⟩ w:=
 hw.setObjG (M':=g.M) (oc:=none) (cg.le_refl _) hq (fun _ h=>by simp at h) (fun _ _ _=>⟨rfl,fun _=>rfl⟩) hw.rep.mem (HX _) rfl rfl rfl
theorem GE{H:List (Option (List D))}{q i:Nat}{cs:List D}(h:(H.set q none)[i]?=G (G cs)):i≠q/\H[i]?=G (G cs):=by
 rw[getElem?_set] at h
 split at h
 ·split at h<;>simp at h
 ·rename_i e;exact⟨fun e'=>e e'.symm,h⟩
theorem WI.rename{E:co}{g:Gh}{σ:St}{w:yy}(hw:WI E g σ w){q:Nat}{cs:List D}(hq:σ.H[q]?=G (G cs)):
  ∃g',WI E g' ⟨σ.H.set q none++[G cs],σ.own⟩ w/\g.le g'/\g'.β (I σ.H)=g.β q/\g'.κ (I σ.H)=g.κ q/\g'.n=I σ.H+1:=by
 obtain⟨us,rest,e,hb,hr,h1,hM,hκ⟩:=hw.rep.obj q cs hq
 obtain⟨h2,h3⟩:=(hw.kill hq).addObj (b:=g.β q) (us:=us) (rest:=rest) (e:=e) (cs:=cs) hb (hw.objs q cs hq) hM
  (fun i ci hi e'=>by
   obtain⟨hne,hi'⟩:=GE hi
   exact hne (hw.rep.inj i q _ _ hi' hq e'))
  (fun x hx u hu hb'=>hw.rep.ownObj x hx u hu _ hb' q cs hq rfl) hr h1
 refine⟨_,h2,h3,?_,?_,?_⟩
 ·simp[hw.rep.n]
 ·simp only[hw.rep.n,Jj];exact hκ
 ·simp[hw.rep.n]
theorem WI.newObjR{E:co}{g:Gh}{σ:St}{w:yy}(hw:WI E g σ w){us rest:List yx}{cs:List D}(e:yz)(hr:Ar g cs us)(h1:∀c∈cs,c.one=J):
  ∃g',WI E g' ⟨σ.H++[G cs],σ.own⟩ (w.alloc (.cells (us++rest).toArray e))/\g.le g'/\g'.β (I σ.H)=w.heap.size/\g'.κ (I σ.H)=I (us++rest)/\g'.n=I σ.H+1:=by
 have h2:=(hw.alloc (.cells (us++rest).toArray e)).addObj (b:=w.heap.size) (us:=us) (rest:=rest) (e:=e) (cs:=cs) (heap_alloc_new w _) (.inl hw.size) (hw.rep.new_none (HX _))
  (fun i cs hi=>Nat.ne_of_lt (hw.rep.obj_lt hi)) (fun x hx u hu hb=>by have:=hw.rep.own_lt hx hu hb;omega) hr h1
 exact⟨_,h2.1,h2.2,by simp[hw.rep.n],by simp[hw.rep.n],by simp[hw.rep.n]⟩
section
variable {P : x4} {o : yw} {σ : St} {d : D}
theorem Vg{x y:x5}{t:yz}(ho:o.op=.call { callee:=.builtin .append,args:= #[x,y],argTypes:= #[t,t]}){e:yz}{sz by':Nat}{z:yx}(hs:Ce P t=G (e,sz,by',G z))(hzc:z.cells.size=sz)(_hsz:0<sz)
  {q q2 len n:Nat} {cs cs2:List D} (hq:σ.H[q]?=G (G cs)) (hl:I cs=len*sz) (hq2:σ.H[q2]?=G (G cs2)) (hl2:I cs2=n*sz) (_hpos:0<n) (hlen:(len+n)*by'<=140737488355328) (hlen2:len+n<=140737488355328):
  Ay P o [.gro q len sz,.gro q2 n sz] σ (.gro (I σ.H) (len+n) sz) ⟨σ.H.set q none++[G (cs++cs2)],σ.own⟩:=by
 intro E g a w K Q hw hds hK
 simp only[ho,Op.operands,Call.operands] at hds
 have hds':Ar g [.gro q len sz,.gro q2 n sz] [a.eval x,a.eval y]:=by simpa using hds
 simp only[Ar] at hds'
 obtain⟨u,us0,eu,hu,v,vs0,ev,hv,rfl⟩:=hds'
 simp only[Ie] at eu
 obtain⟨ex,rfl⟩:=eu
 simp only[Ie,I6] at ev
 simp only[Av] at hu hv
 obtain⟨hqn,cap,hcap,hκ,rfl⟩:=hu
 obtain⟨_,cap2,hcap2,_,rfl⟩:=hv
 obtain⟨i,ht,hi,hisz,hib,hiz⟩:=AK hs
 obtain⟨us,rest,et,hb,hr,h1,hM,hκ1⟩:=hw.rep.obj q cs hq
 obtain⟨vs,rest2,et2,hb2,hr2,h12,hM2,_⟩:=hw.rep.obj q2 cs2 hq2
 have hul:I us=len*sz:=by rw[AF hr,hl]
 have hvl:I vs=n*i.size:=by rw[AF hr2,hl2,hisz]
 have hnews:∀j u,vs[j]?=G u->w.cell? ((⟨g.β q2,0,none⟩:Addr).add j)=G u:=fun j u hj=>by
  rw[Addr.add_lit];simp only[World.cell?,hb2,IC,IW];exact Df hj
 have holds:∀j u,us[j]?=G u->w.cell? ((⟨g.β q,0,none⟩:Addr).add j)=G u:=fun j u hj=>by
  rw[Addr.add_lit];simp only[World.cell?,hb,IC,IW];exact Df hj
 have hone:∀u∈vs,u.oneCell'=J:=Ct h12 hr2
 have hcs:∀c∈cs++cs2,c.one=J:=fun c hc=>by
  rcases IE.1 hc with h|h
  ·exact h1 c h
  ·exact h12 c h
 have hlt:I us<=I (us++rest):=by simp
 obtain⟨u',w',g',hrun,hw',hle,hd⟩:∃u' w' g',(Builtin.append_ #[t,t] o.type #[.slice (G ⟨g.β q,0,none⟩) len cap,.slice (G ⟨g.β q2,0,none⟩) n cap2]).run P w=.ok u' w'/\
   WI E g' ⟨σ.H.set q none++[G (cs++cs2)],σ.own⟩ w'/\g.le g'/\Av g' (.gro (I σ.H) (len+n) sz) u':=by
  by_cases hroom:len+n<=cap
  ·have hfit:len*i.size+I vs<=(us++rest).toArray.size:=by
    rw[Jp,hκ1, ←hκ,hvl,hisz, ←Jm]
    exact Nat.mul_le_mul_right _ hroom
   have hrun:=dy (P:=P) w t o.type e et i ht hi (g.β q) len cap (us++rest).toArray hb ⟨g.β q2,0,none⟩ n cap2 vs hvl hnews hone hroom hfit
   have hrow:(us++rest).toArray.toList.take (len*i.size)++vs++(us++rest).toArray.toList.drop (len*i.size+I vs)=(us++vs)++rest.drop (I vs):=by
    simp only[hisz, ←hul]
    rw[List.take_left',List.drop_append,Im (by omega)]<;>simp
   rw[hrow] at hrun
   have hlen3:I ((us++vs)++rest.drop (I vs))=g.κ q:=by
    rw[←hκ1]
    simp only[Jp,Ig] at hfit
    simp only[Ig,IY]
    rw[hisz, ←hul] at hfit
    omega
   have hw1:=hw.setObj (cs':=cs++cs2) (w':=w.setRow (g.β q) ((us++vs)++rest.drop (I vs)).toArray) hq (us:=us++vs) (rest:=rest.drop (I vs)) (e:=et) (setRow_heap w _ _ _ et _ hb) hlen3 (A7 hr hr2) hcs (fun b hb=>setRow_other w _ _ _ hb) (by simp) rfl rfl rfl
   have hq':(σ.H.set q (G (cs++cs2)))[q]?=G (G (cs++cs2)):=by
    rw[getElem?_set];simp;exact(HT.1 hq).1
   obtain⟨g',h3,h4,h5,h6,h7⟩:=hw1.rename (q:=q) hq'
   simp only[List.set_set,length_set] at h3 h5 h6 h7
   exact⟨_,_,g',hrun,h3,h4,by simp only[Av];exact⟨by omega,cap,hroom,by rw[h6];exact hκ,by rw[h5]⟩⟩
  ·have hfitc:Builtin.nextslicecap (len+n) cap*i.bytes<=281474976710656:=growslice_fits (by omega) (by rw[hib];exact hlen)
   have hrun:=run_append_grow (P:=P) w t o.type e i z ht hi hiz ⟨g.β q,0,none⟩ len cap us (by rw[hul,hisz]) holds ⟨g.β q2,0,none⟩ n cap2 vs hvl hnews (by omega) (by omega) hfitc
   have hge:=grownCap_ge w (len+n) cap e
   have hcell:us.toArray++vs.toArray++Builtin.zeroCells z.cells (grownCap w (len+n) cap e- (len+n))=((us++vs)++(Builtin.zeroCells z.cells (grownCap w (len+n) cap e- (len+n))).toList).toArray:=by
    apply IV;simp
   rw[hcell] at hrun
   obtain⟨g',h3,h4,h5,h6,h7⟩:=(hw.drew.kill hq).newObjR (us:=us++vs) (rest:=(Builtin.zeroCells z.cells (grownCap w (len+n) cap e- (len+n))).toList) (cs:=cs++cs2) e (A7 hr hr2) hcs
   simp only[length_set] at h3 h5 h6 h7
   refine⟨_,_,g',hrun,h3,h4,?_⟩
   simp only[Av]
   refine⟨by omega,_,hge,?_,by rw[h5];rfl⟩
   rw[h6]
   simp only[Ig,I5,size_zeroCells,hzc,hul,hvl,hisz, ←Jm]
   congr 1;omega
 have:=hK g' w' u' hw' hle hd
 unfold Oper.wp execOp
 simp only[ho,resolve,invoke,builtin,Sem.run_bind,Sem.run_pure,Result.andThen_ok,map_toArray,Iu,IP,ex,ev,hrun]
 exact this
end
inductive FF:List x5->List D->List D->Prop
 |nil:FF [] [] []
 |same {x:x5} {d:D} {xs:List x5} {ds ds':List D} (h:FF xs ds ds'):FF (x::xs) (d::ds) (d::ds')
 |const {u:yx} {d:D} {xs:List x5} {ds ds':List D} (h:FF xs ds ds'):FF (.const u::xs) (d::ds) (.raw u::ds')
theorem FF.rep{g:Gh}{a:Act}:∀{xs:List x5} {ds ds':List D},FF xs ds ds'->Ar g ds (xs.map a.eval)->Ar g ds' (xs.map a.eval)
 |_,_,_,.nil,h=>by simpa only[Ar] using h
 |_,_,_,.same h',h=>by
  simp only[Iu,Ar] at h⊢
  obtain⟨u,us,e,h1,h2⟩:=h
  simp only[Ie] at e
  obtain⟨e1,e2⟩:=e
  exact⟨_,_,rfl,by rw[e1];exact h1,h'.rep (by rw[e2];exact h2)⟩
 |_,_,_,.const h',h=>by
  simp only[Iu,Ar] at h⊢
  obtain⟨u,us,e,h1,h2⟩:=h
  simp only[Ie] at e
  obtain⟨e1,e2⟩:=e
  exact⟨_,_,rfl,by simp only[Av,Act.eval],h'.rep (by rw[e2];exact h2)⟩
section
variable {P : x4} {o : yw} {σ : St} {d : D}
end
theorem WI.review{E:co}{g:Gh}{σ:St}{w:yy}(hw:WI E g σ w){q:Nat}{cs cs':List D}(hq:σ.H[q]?=G (G cs))(h:∀us,Ar g cs us->Ar g cs' us)(h1:∀c∈cs',c.one=J):WI E g ⟨σ.H.set q (G cs'),σ.own⟩ w:=by
 obtain⟨us,rest,e,hb,hr,_,_,hκ⟩:=hw.rep.obj q cs hq
 exact hw.setObj hq hb hκ (h us hr) h1 (fun _ _=>rfl) rfl rfl rfl rfl
theorem Eb{α:Type}{l:List α}{s:Nat}{u:α}(h:l[s]?=G u):l.set s u=l:=by
 apply List.ext_getElem?
 intro i
 rw[getElem?_set]
 split
 ·rename_i e;subst e
  split
  ·exact h.symm
  ·rw[IF (by omega)]
 ·rfl
theorem WJ{g:Gh}{d:D}{x:V}{u:yx}(h:d.toV=G x)(hr:Av g d u):repC g.M x u.cells.toList:=JZ (JU h hr)
section
variable {P : x4} {o : yw} {σ : St} {d : D}
theorem Afy{e:yz}{x:x5}(ho:o.op=.box e x){y:V}(hy:d.toV=G y):Ay P o [d] σ (.v (.ref y)) σ:=by
 intro E g a w K Q hw hds hK
 simp only[ho,Op.operands,AH] at hds
 obtain⟨u,eu,hd⟩:=hds
 simp at eu
 have hc:=WJ hy hd
 obtain⟨hw',hle⟩:=hw.newImm u.cells.toList [] e
 rw[IG] at hw'
 have:=hK _ _ (.pointer (G ⟨w.heap.size,0,none⟩)) hw' hle (by
  simp only[Av,Dl]
  exact⟨w.heap.size,0,u.cells.toList,rfl,Pn g.M w.heap.size _,repC.mono hle.M _ _ hc⟩)
 unfold Oper.wp execOp
 simpa[ho,eu,Instr.box,newVar,newRow,Oper.upon] using this
end
section
variable {P : x4} {o : yw}
end
section
variable {C : co -> co -> Prop} {P : x4} {R : List D -> St -> Prop} {c : Code} {p : List Nat} {k : List KI} {env env' : List D} {σ σ' : St} {i : Nat} {o : yw} {d : D}
end
def Q7:yx->Option V
 |.slice none 0 0=>G .nils
 |u=>TO u
def Fh:List yx->Option (List V)
 |[]=>G []
 |u::us=>match Q7 u,Fh us with
  |some x,some xs=>G (x::xs)
  |_,_=>none
theorem Nr{M:cg}{u:yx}{x:V}(h:Q7 u=G x):x.isAgg=O/\repC M x [u]:=by
 unfold Q7 at h
 split at h
 ·simp at h;subst h;simp[V.isAgg,repC]
 ·exact Nq h
theorem EF{M:cg}:∀{us:List yx} {xs:List V},Fh us=G xs->repA M xs us
 |[],xs,h=>by simp[Fh] at h;subst h;simp[repA]
 |u::us,xs,h=>by
  simp only[Fh] at h
  split at h
  ·rename_i x xs' h1 h2
   simp at h;subst h
   obtain⟨h3,h4⟩:=Nr (M:=M) h1
   simp only[repA]
   exact⟨u,us,rfl,h3,h4,EF h2⟩
  ·simp at h
def M6(P:x4)(t:yz):Option (List V):=
 match (P.info? t).bind (·.zero) with
 |some z=>Fh z.cells.toList
 |none=>none
theorem Lw{P:x4}{t:yz}{xs:List V}(h:M6 P t=G xs):∃i z,P.info? t=G i/\i.zero=G z/\Fh z.cells.toList=G xs:=by
 unfold M6 at h
 split at h
 ·rename_i z hz
  cases hi:P.info? t with
  |none=>simp[hi] at hz
  |some i=>exact⟨i,z,rfl,by simpa[hi] using hz,h⟩
 ·simp at h
def sy(P:x4)(t:yz):Option (List V×List (Nat×Nat)):=
 match M6 P t,P.underlying t with
 |some z,some (.struct fs)=>(fs.toList.mapM (fun f=>(P.info? f.type).map fun i=>(f.offset,i.size))).map fun p=>(z,p)
 |_,_=>none
section
variable {P : x4} {o : yw} {σ : St} {d : D}
theorem LX{e:yz}(ho:o.op=.alloc e){xs:List V}(hz:M6 P e=G xs):Ay P o [] σ (.ptr (I σ.H) 0) ⟨σ.H++[G (xs.map .v)],σ.own⟩:=by
 intro E g a w K Q hw hds hK
 obtain⟨i,z,hi,hz1,hc⟩:=Lw hz
 obtain⟨h2,h3⟩:=D9 (g:=g) (EF hc)
 obtain⟨g',hw',hle,hβ,hn⟩:=hw.newObj e h2 h3
 have:=hK g' _ (.pointer (G ⟨w.heap.size,0,none⟩)) hw' hle (by simp only[Av];exact⟨by omega,by rw[hβ]⟩)
 unfold Oper.wp execOp
 simpa[ho,Instr.alloc,zeroValue,typeInfo,hi,hz1,newVar,newRow,Oper.upon] using this
theorem Yd{t:yz}{parts:Array (Nat×x5)}(ho:o.op=.build t parts){z:List V}{ay:List (Nat×Nat)}(hb:sy P t=G (z,ay)){ds:List D}{xs:List (Nat×V)}{out:List V}
  (hx:Dh parts.toList ds=G xs) (hf:Gy (ay[·]?) z xs=G out):Ay P o ds σ (.v (.agg out)) σ:=by
 intro E g a w K Q hw hds hK
 simp only[ho,Op.operands] at hds
 have hpr:=GB hx (a:=a) (g:=g) (by simpa[Function.comp_def] using hds)
 unfold sy at hb
 have key:∃U,P.built t (parts.toList.map fun p=>(p.1,a.eval p.2))=G U/\repA g.M out U.toList:=by
  cases hz:M6 P t with
  |none=>simp[hz] at hb
  |some z0=>
   obtain⟨i,zv,hi,hz1,hcv⟩:=Lw hz
   cases hu:P.underlying t with
   |none=>simp[hz,hu] at hb
   |some dd=>
    cases dd<;>simp only[hz,hu,reduceCtorEq] at hb
    case struct fs=>
     cases hp:fs.toList.mapM (fun f=>(P.info? f.type).map fun i=>(f.offset,i.size)) with
     |none=>simp[hp] at hb
     |some pl=>
      simp[hp] at hb
      obtain⟨rfl,rfl⟩:=hb
      obtain⟨U,hU,hrU⟩:=Lp hpr (EF (M:=g.M) hcv) hf
      exact⟨U,by simpa[Program.built,hi,hu,hz1,hp] using hU,hrU⟩
 obtain⟨U,hU,hrU⟩:=key
 have:=hK g w (.agg U) hw g.le_refl (by simp only[Av,CF];exact⟨U.toList,hrU,by simp⟩)
 have hrun:=run_build (P:=P) w t (parts.map fun p=>(p.1,a.eval p.2)) U (by simpa using hU)
 unfold Oper.wp execOp
 simp only[ho]
 simp only[Sem.run_bind]
 rw[show(parts.map fun(x:Nat×x5)=>match x with|(i,x)=>(i,a.eval x))=parts.map fun p=>(p.1,a.eval p.2) from rfl,hrun]
 exact this
theorem AbA{t:yz}{x y:x5}(ho:o.op=.makeSlice t x y){e:yz}{by':Nat}{z:yx}(hs:Ce P t=G (e,1,by',G z)){zv:V}(hz:Q7 z=G zv){k k':yt}{n:Int}(h0:0<=n)(hn:(by':Int)*n<=281474976710656)(hn2:n<=9223372036854775807):
  Ay P o [.v (.int k n),.v (.int k' n)] σ (.arr (I σ.H) 0 n.toNat) ⟨σ.H++[G (replicate n.toNat (.v zv))],σ.own⟩:=by
 intro E g a w K Q hw hds hK
 simp only[ho,Op.operands,A8] at hds
 obtain⟨u,v,eq,h1,h2⟩:=hds
 simp only[Iu,IP,Ie,I6] at eq
 obtain⟨e1,e2⟩:=eq
 simp only[Av,AM] at h1 h2
 subst h1 h2
 obtain⟨i,hu,hi,hsz,hby,hzz⟩:=AK hs
 obtain⟨hza,hzc⟩:=Nr (M:=g.M) hz
 have hz1:z.cells= #[z]:=by
  obtain⟨u',e,_,h3⟩:=Dn hza hzc
  simp at e;subst e;exact QG h3
 have hrun:=run_make (P:=P) w t e i z hu hi hzz k k' n n h0 (Iv _) (by rw[hby];exact hn) hn2
 rw[hsz,Nat.mul_one,hz1,OB] at hrun
 have hr:∀m,Ar g (replicate m (.v zv)) (replicate m z):=by
  intro m
  induction m with
  |zero=>simp[Ar]
  |succ m ih=>simp only[IL,Ar,Av];exact⟨z,_,rfl,(BV hza).2 hzc,ih⟩
 obtain⟨g',hw',hle,hβ,hn'⟩:=hw.newObj e (hr n.toNat) (fun c hc=>by rw[List.mem_replicate] at hc;rw[hc.2];simp[D.one,hza])
 have:=hK g' _ (.slice (G ⟨w.heap.size,0,none⟩) n.toNat n.toNat) hw' hle (by simp only[Av];exact⟨by omega,n.toNat,HX _,by rw[hβ]⟩)
 unfold Oper.wp execOp
 simp only[ho,e1,e2,Sem.run_bind,hrun,Result.andThen_ok]
 exact this
end
def AmE(cs cs':List D):Prop:=(∀g us,Ar g cs us->Ar g cs' us)/\((∀c∈cs,c.one=J)->∀c∈cs',c.one=J)
inductive U1:D->D->Prop
 |same {d:D}:U1 d d
 |acc {k:Nat} {xs:List V}:U1 (.acc k xs) (.v (.list xs))
 |nils:U1 (.v .nils) (.v (.list []))
 |rawnil:U1 (.raw (.slice none 0 0)) (.v .nils)
 |rv {x:V} {u:yx}:U1 (.rv x u) (.v x)
theorem U1.rep{d d':D}(h:U1 d d'){g:Gh}{u:yx}(hr:Av g d u):Av g d' u:=by
 cases h with
 |same=>exact hr
 |acc=>simp only[Av] at hr⊢;exact hr.1
 |nils=>simp only[Av,C4] at hr⊢;subst hr;exact Dm _
 |rawnil=>simp only[Av,C4] at hr⊢;exact hr
 |rv=>simp only[Av] at hr⊢;rw[hr.1];exact hr.2
theorem U1.one{d d':D}(h:U1 d d')(h1:d.one=J):d'.one=J:=by
 cases h with
 |same=>exact h1
 |acc=>rfl
 |nils=>rfl
 |rawnil=>rfl
 |rv=>simpa[D.one] using h1
inductive VW:List D->List D->Prop
 |nil:VW [] []
 |cons {d d':D} {cs cs':List D} (h:U1 d d') (hs:VW cs cs'):VW (d::cs) (d'::cs')
theorem VW.sees:∀{cs cs':List D},VW cs cs'->AmE cs cs'
 |_,_,.nil=>⟨fun _ _ h=>h,fun h=>h⟩
 |_,_,.cons h hs=>by
  refine⟨fun g us hr=>?_,fun h1 c hc=>?_⟩
  ·simp only[Ar] at hr⊢
   obtain⟨u,us',e,h2,h3⟩:=hr
   exact⟨u,us',e,h.rep h2,hs.sees.1 g us' h3⟩
  ·rcases I8.1 hc with e|hc
   ·rw[e];exact h.one (h1 _ (List.mem_cons_self))
   ·exact hs.sees.2 (fun c hc=>h1 c (List.mem_cons_of_mem _ hc)) c hc
theorem VW.refl:∀cs:List D,VW cs cs
 |[]=>.nil
 |_::cs=>.cons .same (VW.refl cs)
theorem VW.set{d d':D}(h:U1 d d'):∀{cs:List D} {j:Nat},cs[j]?=G d->VW cs (cs.set j d')
 |[],j,hj=>by simp at hj
 |c::cs,0,hj=>by simp at hj;subst hj;exact .cons h (VW.refl cs)
 |c::cs,j+1,hj=>by simp at hj;exact .cons .same (VW.set h hj)
theorem fy{P:x4}{o:yw}{ds ds':List D}{σ σ':St}{d:D}(hs:VW ds ds')(h:Ay P o ds' σ d σ'):Ay P o ds σ d σ':=fun E g a w K Q hw hds hK=>h E g a w K Q hw (hs.sees.1 g _ hds) hK
theorem AcU{env:List D}{σ:St}(q j k sz:Nat){cs:List D}(hq:σ.H[q]?=G (G cs))(hj:cs[j]?=G (.v .nils))(hk:∀x∈σ.own,x.1≠k)(hsz:0<sz):
  Cv env σ env ⟨σ.H.set q (G (cs.set j (.acc k []))),(k,sz,[])::σ.own⟩:=fun E g a w hf=>by
 obtain⟨hw1,hle1⟩:=hf.wi.addOwn (k:=k) (sz:=sz) (xs:=[]) (u:=.slice none 0 0) hk ⟨hsz,by simp⟩ (Dm _) (.inl ⟨none,rfl⟩) (fun b hb=>by simp[Cn] at hb)
 obtain⟨_,_,_,_,_,h1,_⟩:=hf.wi.rep.obj q cs hq
 have hw2:=hw1.review (cs':=cs.set j (.acc k [])) hq (fun us hr=>by
  obtain⟨u,hu,hru⟩:=BL hr hj
  simp only[Av,C4] at hru
  subst hru
  have:=CZ hr j (d:=.acc k []) (u:=.slice none 0 0) (by simp only[Av];exact⟨Dm _,by simp⟩)
  rwa[Eb hu] at this) (fun c hc=>by
  rcases IX hc with h|h
  ·exact h1 c h
  ·subst h;rfl)
 exact⟨_,hw2,Ar.mono hle1 _ _ hf.env,hf.defers⟩
theorem F2{g:Gh}{sz:Nat}:∀{ys:List V} {us:List yx},repE g.M sz ys us->Ar g ((ys.flatMap V.cellsV).map .v) us/\∀c∈ (ys.flatMap V.cellsV).map bt,c.one=J
 |[],us,h=>by simp only[repE] at h;subst h;simp[Ar]
 |y::ys,us,h=>by
  simp only[repE] at h
  obtain⟨u1,u2,rfl,hl,h1,h2⟩:=h
  obtain⟨h3,h4⟩:=F2 h2
  have hA:repA g.M y.cellsV u1:=by
   cases hy:y.isAgg with
   |true=>
    cases y with
    |agg cs=>simpa only[V.cellsV,repC] using h1
    |_=>simp[V.isAgg] at hy
   |false=>
    obtain⟨u',e1,_,_⟩:=Dn hy h1
    have e:y.cellsV=[y]:=by cases y<;>simp_all [V.cellsV,V.isAgg]
    rw[e,e1]
    simp only[repA]
    exact⟨u',[],rfl,hy,by rw[←e1];exact h1,rfl⟩
  obtain⟨h5,h6⟩:=D9 (g:=g) hA
  refine⟨by simpa using A7 h5 h3,fun c hc=>?_⟩
  simp only[List.flatMap_cons,Jq,IE] at hc
  rcases hc with hc|hc
  ·exact h6 c hc
  ·exact h4 c hc
section
variable {P : x4} {o : yw} {σ : St} {d : D}
theorem QM{E:co}{g:Gh}{w:yy}(hw:WI E g σ w){t ty e:yz}{sz by':Nat}{z:yx}(hs:Ce P t=G (e,sz,by',G z))(hzc:z.cells.size=sz)
  {q len n cap cap2:Nat} {cs cs2:List D} {vs:List yx} {ad:Addr} (hq:σ.H[q]?=G (G cs)) (hl:I cs=len*sz) (hvl0:I vs=n*sz) (hr2:Ar g cs2 vs) (h12:∀c∈cs2,c.one=J) (hnews:∀j u,vs[j]?=G u->w.cell? (ad.add j)=G u)
  (_hcap:len<=cap) (hκ:cap*sz=g.κ q) (_hpos:0<n) (hlen:(len+n)*by'<=140737488355328) (hlen2:len+n<=140737488355328):
  ∃u' w' g',(Builtin.append_ #[t,t] ty #[.slice (G ⟨g.β q,0,none⟩) len cap,.slice (G ad) n cap2]).run P w=.ok u' w'/\
   WI E g' ⟨σ.H.set q none++[G (cs++cs2)],σ.own⟩ w'/\g.le g'/\Av g' (.gro (I σ.H) (len+n) sz) u':=by
 obtain⟨i,ht,hi,hisz,hib,hiz⟩:=AK hs
 obtain⟨us,rest,et,hb,hr,h1,hM,hκ1⟩:=hw.rep.obj q cs hq
 have hul:I us=len*sz:=by rw[AF hr,hl]
 have hvl:I vs=n*i.size:=by rw[hvl0,hisz]
 have holds:∀j u,us[j]?=G u->w.cell? ((⟨g.β q,0,none⟩:Addr).add j)=G u:=fun j u hj=>by
  rw[Addr.add_lit];simp only[World.cell?,hb,IC,IW];exact Df hj
 have hone:∀u∈vs,u.oneCell'=J:=Ct h12 hr2
 have hcs:∀c∈cs++cs2,c.one=J:=fun c hc=>by
  rcases IE.1 hc with h|h
  ·exact h1 c h
  ·exact h12 c h
 by_cases hroom:len+n<=cap
 ·have hfit:len*i.size+I vs<=(us++rest).toArray.size:=by
   rw[Jp,hκ1, ←hκ,hvl,hisz, ←Jm]
   exact Nat.mul_le_mul_right _ hroom
  have hrun:=dy (P:=P) w t ty e et i ht hi (g.β q) len cap (us++rest).toArray hb ad n cap2 vs hvl hnews hone hroom hfit
  have hrow:(us++rest).toArray.toList.take (len*i.size)++vs++(us++rest).toArray.toList.drop (len*i.size+I vs)=(us++vs)++rest.drop (I vs):=by
   simp only[hisz, ←hul]
   rw[List.take_left',List.drop_append,Im (by omega)]<;>simp
  rw[hrow] at hrun
  have hlen3:I ((us++vs)++rest.drop (I vs))=g.κ q:=by
   rw[←hκ1]
   simp only[Jp,Ig] at hfit
   simp only[Ig,IY]
   rw[hisz, ←hul] at hfit
   omega
  have hw1:=hw.setObj (cs':=cs++cs2) (w':=w.setRow (g.β q) ((us++vs)++rest.drop (I vs)).toArray) hq (us:=us++vs) (rest:=rest.drop (I vs)) (e:=et) (setRow_heap w _ _ _ et _ hb) hlen3 (A7 hr hr2) hcs (fun b hb=>setRow_other w _ _ _ hb) (by simp) rfl rfl rfl
  have hq':(σ.H.set q (G (cs++cs2)))[q]?=G (G (cs++cs2)):=by
   rw[getElem?_set];simp;exact(HT.1 hq).1
  obtain⟨g',h3,h4,h5,h6,h7⟩:=hw1.rename (q:=q) hq'
  simp only[List.set_set,length_set] at h3 h5 h6 h7
  exact⟨_,_,g',hrun,h3,h4,by simp only[Av];exact⟨by omega,cap,hroom,by rw[h6];exact hκ,by rw[h5]⟩⟩
 ·have hfitc:Builtin.nextslicecap (len+n) cap*i.bytes<=281474976710656:=growslice_fits (by omega) (by rw[hib];exact hlen)
  have hrun:=run_append_grow (P:=P) w t ty e i z ht hi hiz ⟨g.β q,0,none⟩ len cap us (by rw[hul,hisz]) holds ad n cap2 vs hvl hnews (by omega) (by omega) hfitc
  have hge:=grownCap_ge w (len+n) cap e
  have hcell:us.toArray++vs.toArray++Builtin.zeroCells z.cells (grownCap w (len+n) cap e- (len+n))=((us++vs)++(Builtin.zeroCells z.cells (grownCap w (len+n) cap e- (len+n))).toList).toArray:=by
   apply IV;simp
  rw[hcell] at hrun
  obtain⟨g',h3,h4,h5,h6,h7⟩:=(hw.drew.kill hq).newObjR (us:=us++vs) (rest:=(Builtin.zeroCells z.cells (grownCap w (len+n) cap e- (len+n))).toList) (cs:=cs++cs2) e (A7 hr hr2) hcs
  simp only[length_set] at h3 h5 h6 h7
  refine⟨_,_,g',hrun,h3,h4,?_⟩
  simp only[Av]
  refine⟨by omega,_,hge,?_,by rw[h5];rfl⟩
  rw[h6]
  simp only[Ig,I5,size_zeroCells,hzc,hul,hvl,hisz, ←Jm]
  congr 1;omega
def Ad(ys:List V):List D:=(ys.flatMap V.cellsV).map .v
theorem LV{x y:x5}{t:yz}(ho:o.op=.call { callee:=.builtin .append,args:= #[x,y],argTypes:= #[t,t]}){e:yz}{sz by':Nat}{z:yx}(hs:Ce P t=G (e,sz,by',G z))(hzc:z.cells.size=sz)(hsz:0<sz)
  {q len:Nat} {cs:List D} {ys:List V} (hq:σ.H[q]?=G (G cs)) (hl:I cs=len*sz) (hys:∀y∈ys,y.size=sz) (hpos:ys≠ []) (hlen:(len+I ys)*by'<=140737488355328) (hlen2:len+I ys<=140737488355328):
  Ay P o [.gro q len sz,.v (.list ys)] σ (.gro (I σ.H) (len+I ys) sz) ⟨σ.H.set q none++[G (cs++Ad ys)],σ.own⟩:=by
 intro E g a w K Q hw hds hK
 simp only[ho,Op.operands,Call.operands] at hds
 obtain⟨u,v,eq,hu,hv⟩:=A8.1 (by simpa using hds)
 simp only[Ie,I6] at eq
 simp only[Av] at hu hv
 obtain⟨hqn,cap,hcap,hκ,rfl⟩:=hu
 obtain⟨ad,cap2,rfl,hc2,hor⟩:=Cd hv hys hsz
 rcases hor with h|⟨b,off,us,rfl,hin,hE⟩
 ·exact absurd h hpos
 obtain⟨h5,h6⟩:=F2 hE
 obtain⟨u',w',g',hrun,hw',hle,hd⟩:=QM (ty:=o.type) (cap2:=cap2) hw hs hzc hq hl (Cj hE) h5 h6 (Ex hw hin) hcap hκ (length_pos_iff.2 hpos) hlen hlen2
 have:=hK g' w' u' hw' hle hd
 unfold Oper.wp execOp
 simp only[ho,resolve,invoke,builtin,Sem.run_bind,Sem.run_pure,Result.andThen_ok,map_toArray,Iu,IP,eq.1,eq.2,hrun]
 exact this
theorem KM{x y:x5}{t:yz}(ho:o.op=.call { callee:=.builtin .append,args:= #[x,y],argTypes:= #[t,t]}){e:yz}{sz by':Nat}{z:yx}(hs:Ce P t=G (e,sz,by',G z))(hzc:z.cells.size=sz)(hsz:0<sz)
  {ys:List V} (hys:∀y∈ys,y.size=sz) (hpos:ys≠ []) (hlen:I ys*by'<=140737488355328) (hlen2:I ys<=140737488355328):
  Ay P o [.v .nils,.v (.list ys)] σ (.gro (I σ.H) (I ys) sz) ⟨σ.H++[G (Ad ys)],σ.own⟩:=by
 intro E g a w K Q hw hds hK
 simp only[ho,Op.operands,Call.operands] at hds
 obtain⟨u,v,eq,hu,hv⟩:=A8.1 (by simpa using hds)
 simp only[Ie,I6] at eq
 simp only[Av,C4] at hu hv
 subst hu
 obtain⟨ad,cap2,rfl,hc2,hor⟩:=Cd hv hys hsz
 rcases hor with h|⟨b,off,us,rfl,hin,hE⟩
 ·exact absurd h hpos
 obtain⟨h5,h6⟩:=F2 hE
 obtain⟨i,ht,hi,hisz,hib,hiz⟩:=AK hs
 have hvl:I us=I ys*i.size:=by rw[Cj hE,hisz]
 have hrun:=run_append_nil (P:=P) w t o.type e i z ht hi hiz ⟨b,off,none⟩ (I ys) cap2 us hvl (Ex hw hin) (length_pos_iff.2 hpos) (by omega) (by rw[hib];omega)
 have hge:=grownCap_ge w (I ys) 0 e
 have hcell:us.toArray++Builtin.zeroCells z.cells (grownCap w (I ys) 0 e-I ys)=(us++(Builtin.zeroCells z.cells (grownCap w (I ys) 0 e-I ys)).toList).toArray:=by
  apply IV;simp
 rw[hcell] at hrun
 obtain⟨g',h3,h4,h5',h6',h7⟩:=hw.drew.newObjR (us:=us) (rest:=(Builtin.zeroCells z.cells (grownCap w (I ys) 0 e-I ys)).toList) (cs:=Ad ys) e h5 h6
 have hd:Av g' (.gro (I σ.H) (I ys) sz) (.slice (G ⟨w.heap.size,0,none⟩) (I ys) (grownCap w (I ys) 0 e)):=by
  simp only[Av]
  refine⟨by omega,_,hge,?_,by rw[h5'];rfl⟩
  rw[h6']
  simp only[Ig,I5,size_zeroCells,hzc,hvl,hisz, ←Jm]
  congr 1;omega
 have:=hK g' _ _ h3 h4 hd
 unfold Oper.wp execOp
 simp only[ho,resolve,invoke,builtin,Sem.run_bind,Sem.run_pure,Result.andThen_ok,map_toArray,Iu,IP,eq.1,eq.2,hrun]
 exact this
end
def Hf(L:Nat->Option (List D)):Nat->D->V->Prop
 |0,d,x=>∃d',U1 d d'/\d'.toV=G x
 |n+1,d,x=>(∃d',U1 d d'/\d'.toV=G x)∨
  (∃o off cs x',d=.ptr o off/\x=.ref x'/\L o=G cs/\∀j y,x'.cellsV[j]?=G y->y.isAgg=O/\∃c,cs[off+j]?=G c/\Hf L n c y)∨
  (∃o off sz cs xs,(d=.arr o off (I xs)∨(∃sz',d=.gro o (I xs) sz'/\off=0))/\x=.list xs/\0<sz/\(∀y∈xs,y.size=sz)/\L o=G cs/\∀j y,(xs.flatMap V.cellsV)[j]?=G y->y.isAgg=O/\∃c,cs[off+j]?=G c/\Hf L n c y)
theorem Rx{M:cg}:∀{ys:List V} {us:List yx},I us=I ys->(∀(j:Nat) (y:V),ys[j]?=G y->y.isAgg=O/\∃v,us[j]?=G v/\repV M y v)->repA M ys us
 |[],us,hl,_=>by simp only[repA];exact Js (by simpa using hl)
 |y::ys,[],hl,_=>by simp at hl
 |y::ys,u::us,hl,h=>by
  simp only[repA]
  obtain⟨h1,v,h2,h3⟩:=h 0 y rfl
  simp at h2;subst h2
  exact⟨u,us,rfl,h1,(BV h1).1 h3,Rx (by simpa using hl) (fun j y' hj=>by have:=h (j+1) y' (by simpa using hj);simpa using this)⟩
theorem H6{M:cg}{x:V}{us:List yx}(h:repA M x.cellsV us):repC M x us:=by
 cases x with
 |agg cs=>simpa only[V.cellsV,repC] using h
 |_=>
  simp only[V.cellsV,repA] at h
  obtain⟨u,us',rfl,_,h1,rfl⟩:=h
  exact h1
theorem Pg(x:V):I x.cellsV=x.size:=by cases x<;>simp[V.cellsV,V.size]
theorem EU{M:cg}{sz:Nat}:∀{xs:List V} {us:List yx},(∀y∈xs,y.size=sz)->repA M (xs.flatMap V.cellsV) us->repE M sz xs us
 |[],us,_,h=>by simpa[repA,repE] using h
 |x::xs,us,hs,h=>by
  simp only[List.flatMap_cons] at h
  have h1:=JB h (I x.cellsV)
  have h2:=JC h (I x.cellsV)
  rw[List.take_left] at h1
  rw[List.drop_left] at h2
  simp only[repE]
  have hl:I (us.take (I x.cellsV))=I x.cellsV:=DI h1
  exact⟨us.take (I x.cellsV),us.drop (I x.cellsV),(List.take_append_drop _ _).symm,by rw[hl,Pg];exact hs x List.mem_cons_self,H6 h1,EU (fun y hy=>hs y (List.mem_cons_of_mem _ hy)) h2⟩
theorem Qm{g:Gh}{M':cg}{L:Nat->Option (List D)}(hM:g.M.le M')(hL:∀o cs,L o=G cs->∃us,Ar g cs us/\eb M' (g.β o) 0 us):∀(n:Nat) (d:D) (x:V) (u:yx),Hf L n d x->Av g d u->repV M' x u:=by
 have base:∀(d:D) (x:V) (u:yx),(∃d',U1 d d'/\d'.toV=G x)->Av g d u->repV M' x u:=by
  rintro d x u ⟨d',h1,h2⟩ hr
  exact(JU h2 (h1.rep hr)).mono hM
 intro n
 induction n with
 |zero=>intro d x u h hr;exact base d x u (by simpa only[Hf] using h) hr
 |succ n ih=>
  intro d x u h hr
  have cells:∀(o off:Nat) (cs:List D) (ys:List V),L o=G cs->(∀(j:Nat) (y:V),ys[j]?=G y->y.isAgg=O/\∃c,cs[off+j]?=G c/\Hf L n c y)->∃ws,eb M' (g.β o) off ws/\repA M' ys ws:=by
   intro o off cs ys ho hys
   obtain⟨us,h1,h2⟩:=hL o cs ho
   have hlen:off+I ys<=I us∨ys=[]:=by
    by_cases hn:ys=[]
    ·exact .inr hn
    ·left
     have hp:0<I ys:=length_pos_iff.2 hn
     obtain⟨_,c,hc,_⟩:=hys (I ys-1) (ys[I ys-1]'(by omega)) (HQ (by omega))
     have:=(HT.1 hc).1
     rw[AF h1];omega
   refine⟨(us.drop off).take (I ys),?_,?_⟩
   ·have:=Ll (Lm h2 off) (I ys)
    simpa using this
   ·refine Rx ?_ (fun j y hj=>?_)
    ·rcases hlen with h|h
     ·simp;omega
     ·simp[h]
    ·obtain⟨h3,c,hc,h4⟩:=hys j y hj
     obtain⟨v,hv,hrv⟩:=BL h1 hc
     refine⟨h3,v,?_,ih c y v h4 hrv⟩
     have hjl:=(HT.1 hj).1
     rw[Jw,Io hjl,List.getElem?_drop];exact hv
  simp only[Hf] at h
  rcases h with h|⟨o,off,cs,x',rfl,rfl,ho,hc⟩|⟨o,off,sz,cs,xs,hd,rfl,hsz,hss,ho,hc⟩
  ·exact base d x u h hr
  ·obtain⟨ws,h1,h2⟩:=cells o off cs _ ho hc
   simp only[Av] at hr
   rw[Dl]
   exact⟨g.β o,off,ws,hr.2,h1,H6 h2⟩
  ·obtain⟨ws,h1,h2⟩:=cells o off cs _ ho hc
   have hE:=EU hss h2
   rw[B3]
   rcases hd with rfl|⟨sz',rfl,rfl⟩
   ·simp only[Av] at hr
    obtain⟨_,cap,hcap,rfl⟩:=hr
    exact⟨_,cap,rfl,hcap,.inr ⟨g.β o,off,sz,ws,rfl,hsz,h1,hE⟩⟩
   ·simp only[Av] at hr
    obtain⟨_,cap,hcap,_,rfl⟩:=hr
    exact⟨_,cap,rfl,hcap,.inr ⟨g.β o,0,sz,ws,rfl,hsz,h1,hE⟩⟩
def V.flat:V->Bool
 |.int .. |.bool _|.str _|.nilfn|.nilp|.nils=>true
 |_=>false
mutual
def D.bor:D->D
 |.v x=>if x.flat then .v x else .undef
 |.tup ds=>.tup (D.bors ds)
 |_=>.undef
def D.bors:List D->List D
 |[]=>[]
 |d::ds=>d.bor::D.bors ds
end
theorem X4{M M':cg}{x:V}{u:yx}(hx:x.flat=J)(h:repV M x u):repV M' x u:=by
 cases x<;>simp_all [V.flat]
mutual
theorem SD{g g':Gh}:∀{d:D} {u:yx},Av g d u->Av g' d.bor u
 |.v x,u,h=>by
  simp only[D.bor]
  split
  ·simp only[Av] at h⊢;exact X4 (by assumption) h
  ·simp only[Av]
 |.tup ds,u,h=>by
  simp only[D.bor,Av] at h⊢
  obtain⟨us,e,h1⟩:=h
  exact⟨us,e,PL h1⟩
 |.acc ..,u,h=>by simp only[D.bor,Av]
 |.ptr ..,u,h=>by simp only[D.bor,Av]
 |.arr ..,u,h=>by simp only[D.bor,Av]
 |.gro ..,u,h=>by simp only[D.bor,Av]
 |.raw ..,u,h=>by simp only[D.bor,Av]
 |.rv ..,u,h=>by simp only[D.bor,Av]
 |.dagg ..,u,h=>by simp only[D.bor,Av]
 |.dfn ..,u,h=>by simp only[D.bor,Av]
 |.err,u,h=>by simp only[D.bor,Av]
 |.undef,u,h=>by simp only[D.bor,Av]
theorem PL{g g':Gh}:∀{ds:List D} {us:List yx},Ar g ds us->Ar g' (D.bors ds) us
 |[],us,h=>by simpa only[D.bors,Ar] using h
 |d::ds,us,h=>by
  simp only[D.bors,Ar] at h⊢
  obtain⟨u,us',e,h1,h2⟩:=h
  exact⟨u,us',e,SD h1,PL h2⟩
end
inductive Ps (L:Nat->Option (List D)):List D->List V->Prop
 |nil:Ps L [] []
 |cons {n:Nat} {d:D} {x:V} {ds:List D} {xs:List V} (h:Hf L n d x) (hs:Ps L ds xs):Ps L (d::ds) (x::xs)
 |fn {f:yv} {cs:List D} {ys:List V} {ds:List D} {xs:List V} (h:Ps L cs ys) (hs:Ps L ds xs):Ps L (.dfn f [] cs::ds) (.fn f [] ys::xs)
theorem Ps.rep{g:Gh}{M':cg}{L:Nat->Option (List D)}(hM:g.M.le M')(hL:∀o cs,L o=G cs->∃us,Ar g cs us/\eb M' (g.β o) 0 us){gc:Gh}(hgc:gc.M=M'):∀{ds:List D} {xs:List V} {us:List yx},Ps L ds xs->Ar g ds us->Ar gc (xs.map .v) us
 |_,_,us,.nil,h=>by simpa only[IP,Ar] using h
 |_,_,us,.cons h hs,hr=>by
  simp only[Ar,Iu,Av] at hr⊢
  obtain⟨u,us',e,h1,h2⟩:=hr
  exact⟨u,us',e,by rw[hgc];exact Qm hM hL _ _ _ _ h h1,hs.rep hM hL hgc h2⟩
 |_,_,us,.fn h hs,hr=>by
  simp only[Ar,Iu,Av] at hr⊢
  obtain⟨u,us',e,⟨u1,u2,e2,rfl,h2⟩,h3⟩:=hr
  refine⟨u,us',e,GH.2 ⟨[],u2,e2,by simp[F1],LI (Fu _) (h.rep hM hL hgc h2)⟩,hs.rep hM hL hgc h3⟩
section
variable {P : x4} {o : yw} {σ : St} {d : D}
theorem AbG{c:Call}{fo:x5}(ho:o.op=.call c)(hc:c.callee=.value fo){f:yv}{fs cs:List V}{ds:List D}{xs:List V}{d0:D}(hl:Ps (fun o=>(σ.H[o]?).join) ds xs)(hd:d0.bor=d)
  (hspec:Aa P f (fs.map .v++xs.map .v++cs.map .v) ⟨[],[]⟩ d0 ⟨[],[]⟩):Ay P o (.v (.fn f fs cs)::ds) σ d σ:=by
 subst hd
 intro E g a w K Q hw hds hK
 obtain⟨us,vs,ws,hf,hargs,h1,h2,h3⟩:=DE ho hc hds
 let M':cg:=fun b o=>w.cell? ⟨b,o,none⟩
 let gc:Gh:={ M:=M',β:=g.β,n:=0,ι:=fun _ _=>none,κ:=g.κ }
 have hM:g.M.le M':=fun b o v h=>hw.rep.mem b o v h
 have hrep:c8 gc ⟨[],[]⟩ w:={ n:=rfl,mem:=fun _ _ _ h=>h,obj:=fun i cs hi=>by simp at hi,inj:=fun i j cs ds hi=>by simp at hi,own:=fun k sz xs hx=>by simp at hx,tags:=by simp,sep:=fun x hx=>by simp at hx,ownObj:=fun x hx=>by simp at hx,fresh:=fun _ _ _=>rfl,gl:=hw.rep.gl.mono hM,gw:=hw.rep.gw }
 have hL:∀o cs,(σ.H[o]?).join=G cs->∃us,Ar g cs us/\eb M' (g.β o) 0 us:=by
  intro o cs ho
  have ho':σ.H[o]?=G (G cs):=by
   cases h:σ.H[o]? with
   |none=>simp[h] at ho
   |some c=>simp[h] at ho;rw[ho]
  obtain⟨us,rest,e,hb,hr,_⟩:=hw.rep.obj o cs ho'
  refine⟨us,hr,fun j v hj=>?_⟩
  simp only[M',World.cell?,hb,IC,IW];exact Df hj
 have hmono:∀(l:List V) (us:List yx),Ar g (l.map .v) us->Ar gc (l.map .v) us:=by
  intro l
  induction l with
  |nil=>intro us h;simpa only[IP,Ar] using h
  |cons x l ih=>
   intro us h
   simp only[Iu,Ar,Av] at h⊢
   obtain⟨u,us',e,h4,h5⟩:=h
   exact⟨u,us',e,h4.mono hM,ih _ h5⟩
 refine FH (_E:=E) (_g:=g) ho hc hspec.1 hf hargs ?_
 refine Calls.mono (hspec.2 gc w _ hrep (A7 (A7 (hmono _ _ h1) (hl.rep hM hL rfl h3)) (hmono _ _ h2))) ?_
 rintro e w' ⟨r,gc',rfl,hw',hr⟩
 refine⟨r,rfl,hK g w' r ?_ g.le_refl (SD hr)⟩
 refine hw.grow (cg.le_refl _) (fun b hb=>⟨(hw'.keep b hb EA).1,fun _=>rfl⟩) (fun b o v hm=>?_) hw'.size hw'.os hw'.tape hw'.output (drawn:=hw'.drawn)
 have hlt:=hw.rep.mem_lt hm
 have:=hw.rep.mem b o v hm
 simp only[World.cell?] at this⊢
 rw[(hw'.keep b hlt EA).1];exact this
end
def HE(F:List Nat)(H:List (Option (List D))):List (Option (List D)):=F.foldl (fun H q=>H.set q none) H
theorem KP:∀(F:List Nat) (H:List (Option (List D))),I (HE F H)=I H
 |[],H=>rfl
 |q::F,H=>by simp only[HE,Jo];exact(KP F _).trans (by simp)
theorem Fq:∀(F:List Nat) (H:List (Option (List D))) {i:Nat} {cs:List D},(HE F H)[i]?=G (G cs)->i∉F/\H[i]?=G (G cs)
 |[],H,i,cs,h=>⟨by simp,h⟩
 |q::F,H,i,cs,h=>by
  simp only[HE,Jo] at h
  obtain⟨h1,h2⟩:=Fq F _ h
  obtain⟨h3,h4⟩:=GE h2
  exact⟨by simp[h1,h3],h4⟩
inductive Fz (L:Nat->Option (List D)):List D->List D->Prop
 |nil:Fz L [] []
 |keep {d:D} {ds ds':List D} (hs:Fz L ds ds'):Fz L (d::ds) (d::ds')
 |view {n:Nat} {d:D} {x:V} {ds ds':List D} (h:Hf L n d x) (hs:Fz L ds ds'):Fz L (d::ds) (.v x::ds')
theorem Fz.rep{g g':Gh}{L:Nat->Option (List D)}(hg:g.le g')(hL:∀o cs,L o=G cs->∃us,Ar g cs us/\eb g'.M (g.β o) 0 us):∀{ds ds':List D} {us:List yx},Fz L ds ds'->Ar g ds us->Ar g' ds' us
 |_,_,us,.nil,h=>by simpa only[Ar] using h
 |_,_,us,.keep hs,hr=>by
  simp only[Ar] at hr⊢
  obtain⟨u,us',e,h1,h2⟩:=hr
  exact⟨u,us',e,Av.mono hg _ _ h1,hs.rep hg hL h2⟩
 |_,_,us,.view h hs,hr=>by
  simp only[Ar,Av] at hr⊢
  obtain⟨u,us',e,h1,h2⟩:=hr
  exact⟨u,us',e,Qm hg.M hL _ _ _ _ h h1,hs.rep hg hL h2⟩
def Ey(F:List Nat)(H:List (Option (List D)))(o:Nat):Option (List D):=if o∈F then(H[o]?).join else none
theorem Ahe{E:co}{g:Gh}{σ:St}{w:yy}(F:List Nat)(hw:WI E g σ w):∃g',g.le g'/\WI E g' ⟨HE F σ.H,σ.own⟩ w/\∀{env env':List D} {us:List yx},Fz (Ey F σ.H) env env'->Ar g env us->Ar g' env' us:=by
 classical
 let X:Nat->Prop:=fun b=>∃i∈F,∃cs,σ.H[i]?=G (G cs)/\b=g.β i
 let M':cg:=fun b o=>if X b then w.cell? ⟨b,o,none⟩ else g.M b o
 have hXnone:∀b,X b->∀o,g.M b o=none:=by
  rintro b ⟨i,_,cs,hi,rfl⟩ o
  obtain⟨_,_,_,_,_,_,h,_⟩:=hw.rep.obj i cs hi
  exact h o
 have hle:g.M.le M':=fun b o v h=>by
  simp only[M']
  split
  ·exact hw.rep.mem b o v h
  ·exact h
 have hg:g.le { g with M:=M' }:=⟨hle,HX _,fun _ _=>rfl,fun _ _ _ h=>h,fun _ _=>rfl⟩
 have hXother:∀i cs,i∉F->σ.H[i]?=G (G cs)->¬X (g.β i):=by
  rintro i cs hi hH ⟨j,hj,cj,hcj,e⟩
  exact hi (by rw[hw.rep.inj i j _ _ hH hcj e];exact hj)
 have hXown:∀x∈σ.own,∀u,g.ι x.1 (I x.2.2)=G u->∀b,Cn u=G b->¬X b:=by
  rintro x hx u hu b hb ⟨j,hj,cj,hcj,e⟩
  exact hw.rep.ownObj x hx u hu b hb j cj hcj e.symm
 refine⟨{ g with M:=M' },hg,?_,fun hz hr=>hz.rep hg (fun o cs ho=>?_) hr⟩
 ·refine hw.update X (fun b hb=>?_) (fun b _ hb=>⟨rfl,fun o=>by simp only[M',Ij hb]⟩) hle (HX _) (fun _ _=>rfl) (fun _ _=>rfl) (HX _) rfl rfl rfl ?_ (fun i cs hi=>hw.objs i cs (Fq F _ hi).2) hw.owns
  ·obtain⟨i,_,cs,hi,rfl⟩:=hb;exact hw.objs i cs hi
  ·refine⟨by rw[KP];exact hw.rep.n,fun b o v hm=>?_,fun i cs hi=>?_,fun i j c1 c2 hi hj=>hw.rep.inj i j _ _ (Fq F _ hi).2 (Fq F _ hj).2,fun k sz xs hx=>?_,hw.rep.tags,hw.rep.sep,fun x hx u hu b hb i cs hi=>hw.rep.ownObj x hx u hu b hb i cs (Fq F _ hi).2,hw.rep.fresh,hw.rep.gl.mono hle,hw.rep.gw⟩
   ·simp only[M'] at hm
    split at hm
    ·exact hm
    ·exact hw.rep.mem b o v hm
   ·obtain⟨h1,h2⟩:=Fq F _ hi
    obtain⟨us,rest,e,h3,h4,h5,h6,h7⟩:=hw.rep.obj i cs h2
    exact⟨us,rest,e,h3,Ar.mono hg _ _ h4,h5,fun o=>by simp only[M',Ij (hXother i cs h1 h2)];exact h6 o,h7⟩
   ·obtain⟨h0,u,hu,h3,h4,h5⟩:=hw.rep.own k sz xs hx
    exact⟨h0,u,hu,h3.mono hle,h4.kept fun b hb=>⟨rfl,fun o=>by simp only[M',Ij (hXown _ hx u hu b hb)]⟩,h5⟩
 ·simp only[Ey] at ho
  split at ho
  ·rename_i hF
   have ho':σ.H[o]?=G (G cs):=by
    cases h:σ.H[o]? with
    |none=>simp[h] at ho
    |some c=>simp[h] at ho;rw[ho]
   obtain⟨us,rest,e,hb,hr,_⟩:=hw.rep.obj o cs ho'
   refine⟨us,hr,fun j v hj=>?_⟩
   simp only[M',Io (show X (g.β o) from⟨o,hF,cs,ho',rfl⟩),World.cell?,hb,IC,IW]
   exact Df hj
  ·simp at ho
theorem Q6{env env':List D}{σ:St}(F:List Nat)(hz:Fz (Ey F σ.H) env env'):Cv env σ env' ⟨HE F σ.H,σ.own⟩:=fun E g a w hf=>by
 obtain⟨g',_,hw',hr⟩:=Ahe F hf.wi
 exact⟨g',hw',hr hz hf.env,hf.defers⟩
section
variable {P : x4} {o : yw} {σ : St} {d : D}
theorem M8{t:yz}{len:Nat}{parts:Array (Nat×x5)}(ho:o.op=.buildSlice t len parts)(hp:parts.toList=((parts.toList.map (·.2)).zipIdx 0).map fun x=>(x.2,x.1))(hlen:parts.size=len)
  {e:yz} {sz by':Nat} {z:Option yx} (hs:Ce P t=G (e,sz,by',z)) (hz:z.isSome=J) {ds:List D} {xs:List V} (hx:ES ds=G xs) (hsz:∀x∈xs,x.size=sz) (h0:0<len) (h1:0<sz) (h2:len*sz<=1000)
  (k:Nat) (hk:∀x∈σ.own,x.1≠k):Ay P o ds σ (.acc k xs) ⟨σ.H,(k,sz,xs)::σ.own⟩:=by
 intro E g a w K Q hw hds hK
 simp only[ho,Op.operands] at hds
 obtain⟨i,hu,hi,rfl,rfl,rfl⟩:=AK hs
 obtain⟨zz,hzz⟩:=Option.isSome_iff_exists.1 hz
 have hlm:I (parts.toList.map fun p=>a.eval p.2)=len:=by simp[hlen]
 have hds':Ar g ds (parts.toList.map fun p=>a.eval p.2):=by simpa[Function.comp_def] using hds
 obtain⟨hr,hcs⟩:=L8 hx hds' hsz
 have hxl:I xs=len:=by rw[Hy hx, ←AF hds',hlm]
 have hpos:0<len*i.size:=Nat.mul_pos h0 h1
 have hf:=Lq i.size (parts.toList.map fun p=>a.eval p.2) 0 [] ((Array.range (len*i.size)).map (zz.cells[· %zz.cells.size]!)).toList (by simp) hcs (by simp[hlen])
 have hpp:((parts.toList.map fun p=>a.eval p.2).zipIdx 0).map (fun x=>(x.2,x.1))=parts.toList.map fun p=>(p.1,a.eval p.2):=by
  have e1:(parts.toList.map fun p=>a.eval p.2)=(parts.toList.map (·.2)).map a.eval:=by simp
  rw[e1,List.zipIdx_map,map_map]
  conv=>rhs;rw[hp,map_map]
  rfl
 rw[hpp] at hf
 simp only[List.nil_append,Array.toArray_toList] at hf
 have hrun:=run_buildSlice (P:=P) w t e len (parts.map fun p=>(p.1,a.eval p.2)) _ i zz hu hi hzz (by omega) (by omega) (by simpa using hf)
 generalize hus:(parts.toList.map fun p=>a.eval p.2).flatMap (·.cells.toList)=us at hr hrun
 obtain⟨hw1,hle1⟩:=hw.newImm us [] e
 rw[IG] at hw1
 have hul:I us=len*i.size:=by rw[Cj hr,hxl]
 have hrep:repV (Uz g.M w.heap.size us) (.list xs) (.slice (G ⟨w.heap.size,0,none⟩) len len):=by
  have:=CY (cap:=len) h1 (Pn g.M w.heap.size us) (repE.mono hle1.M _ _ _ hr) (by omega)
  rwa[hxl] at this
 have hperm:Perm (Uz g.M w.heap.size us) (w.alloc (.cells us.toArray e)) i.size (.slice (G ⟨w.heap.size,0,none⟩) len len):=
  .inr ⟨w.heap.size,0,len,len,us.toArray,e,rfl,heap_alloc_new w _,HX _,by simp[hul],fun o ho'=>by simp only[Uz,Jj];exact IF (by omega),hw.rep.gw.new (HX _)⟩
 have hb:∀b,Cn (.slice (G ⟨w.heap.size,0,none⟩) len len)=G b->b=w.heap.size:=fun b hb=>by
  simp only[Cn] at hb
  split at hb
  ·simp at hb
  ·simpa using hb.symm
 obtain⟨hw',hle⟩:=hw1.addOwn (k:=k) (sz:=i.size) (xs:=xs) hk ⟨h1,hsz⟩ hrep hperm (fun b hb'=>by
  rw[hb b hb']
  exact⟨hw.size,fun j cs hj=>Nat.ne_of_lt (hw.rep.obj_lt hj),fun x hx' u' hu' hb2=>by have:=hw.rep.own_lt hx' hu' hb2;omega⟩)
 have:=hK _ _ (.slice (G ⟨w.heap.size,0,none⟩) len len) hw' (Gh.le_trans hle1 hle) (by
  simp only[Av]
  exact⟨hrep,by simp⟩)
 unfold Oper.wp execOp
 simp only[ho]
 simp only[Sem.run_bind]
 rw[show(parts.map fun(x:Nat×x5)=>match x with|(i,x)=>(i,a.eval x))=parts.map fun p=>(p.1,a.eval p.2) from rfl,hrun]
 exact this
end
theorem Perm.drop{M:cg}{w:yy}{sz:Nat}{a:Option Addr}{len cap:Nat}(h:Perm M w sz (.slice a len cap)){l:Nat}(hl:l<=len):Perm M w sz (.slice (if cap=l then a else a.map (·.add (l*sz))) (len-l) (cap-l)):=by
 rcases h with⟨a',e⟩|⟨b,f,len',cap',cur,e',e,hh,hlc,hc,hM⟩
 ·simp only[Value.slice.injEq] at e
  obtain⟨rfl,rfl,rfl⟩:=e
  obtain rfl:l=0:=by omega
  exact .inl ⟨_,by simp;rfl⟩
 ·simp only[Value.slice.injEq] at e
  obtain⟨rfl,rfl,rfl⟩:=e
  by_cases hcl:cap=l
  ·subst hcl
   obtain rfl:len=cap:=by omega
   exact .inl ⟨G ⟨b,f,none⟩,by simp⟩
  ·rw[Ij hcl]
   refine .inr ⟨b,f+l*sz,len-l,cap-l,cur,e',by simp[Addr.add_lit],hh,by omega,?_,fun o ho=>hM o ?_,hM.ng⟩
   ·have:l*sz+(cap-l)*sz=cap*sz:=by rw[←Jm];congr 1;omega
    omega
   ·have:l*sz+(len-l)*sz=len*sz:=by rw[←Jm];congr 1;omega
    omega
section
variable {C : co -> co -> Prop} {P : x4} {R : List D -> St -> Prop} {c : Code} {p : List Nat} {κ : List KI} {env env1 env' : List D} {σ σ' : St} {i : Nat} {o : yw} {d : D}
end
theorem WI.trans{E:co}{g g':Gh}{σ σ':St}{w w1 w':yy}(h:WI E g σ w)(hk:∀b,b<E.w.heap.size->¬E.priv b->w1.heap[b]?=w.heap[b]?)(hsz:w.heap.size<=w1.heap.size)(hos:w1.os=w.os)(htp:w1.tape=w.tape)(hou:w1.output=w.output)
  (h':WI ⟨g,w1,σ⟩ g' σ' w') (hdr:BO w.drawn w1.drawn:=by first|exact BO.refl _|exact BO.succ _|assumption):WI E g' σ' w' where
 rep:=h'.rep
 M:=cg.le_trans h.M h'.M
 size:=IN h.size (IN hsz h'.size)
 keep:=fun b hb hp=>by
  have hnp:¬co.priv ⟨g,w1,σ⟩ b:=by
   rintro (⟨i,cs,hi,e⟩|⟨x,hx,u,hu,hb'⟩)
   ·have e':b=g.β i:=e
    rw[e'] at hb hp
    rcases h.objs i cs hi with h1|h1
    ·omega
    ·exact hp h1
   ·rcases h.owns x hx u hu b hb' with h1|h1
    ·omega
    ·exact hp h1
  have hlt:b<w1.heap.size:=by have:=h.size;omega
  obtain⟨h1,h2⟩:=h'.keep b hlt hnp
  obtain⟨h3,h4⟩:=h.keep b hb hp
  exact⟨h1.trans ((hk b hb hp).trans h3),fun o=>(h2 o).trans (h4 o)⟩
 os:=h'.os.trans (hos.trans h.os)
 tape:=h'.tape.trans (htp.trans h.tape)
 output:=h'.output.trans (hou.trans h.output)
 drawn:=h.drawn.trans (hdr.trans h'.drawn)
 nE:=IN h.nE h'.nE
 βE:=fun o ho=>(h'.βE o (Ju ho h.nE)).trans (h.βE o ho)
 κE:=fun o ho=>(h'.κE o (Ju ho h.nE)).trans (h.κE o ho)
 objs:=fun i cs hi=>by
  rcases h'.objs i cs hi with h1|h1
  ·left;have:=h.size;simp only at h1;omega
  ·rcases h1 with⟨j,cj,hj,e⟩|⟨x,hx,u,hu,hb⟩
   ·rw[e];exact h.objs j cj hj
   ·exact h.owns x hx u hu _ hb
 owns:=fun x hx u hu b hb=>by
  rcases h'.owns x hx u hu b hb with h1|h1
  ·left;have:=h.size;simp only at h1;omega
  ·rcases h1 with⟨j,cj,hj,e⟩|⟨y,hy,u',hu',hb'⟩
   ·rw[e];exact h.objs j cj hj
   ·exact h.owns y hy u' hu' b hb'
structure ZS(r:Nat)(o:Obj)(E:co):Prop where
 at_:E.w.heap[r]?=G o
 priv:¬E.priv r
 mem:∀x,E.g.M r x=none
theorem ZS.now{r:Nat}{o:Obj}{E:co}{g:Gh}{σ:St}{w:yy}(h:ZS r o E)(hw:WI E g σ w):w.heap[r]?=G o/\(∀x,g.M r x=none)/\(∀i cs,σ.H[i]?=G (G cs)->g.β i≠r)/\(∀x∈σ.own,∀u,g.ι x.1 (I x.2.2)=G u->Cn u≠G r):=by
 have hlt:r<E.w.heap.size:=(IM.1 h.at_).1
 obtain⟨h1,h2⟩:=hw.keep r hlt h.priv
 refine⟨h1.trans h.at_,fun x=>(h2 x).trans (h.mem x),fun i cs hi e=>?_,fun x hx u hu hb=>?_⟩
 ·rcases hw.objs i cs hi with h3|h3
  ·omega
  ·rw[e] at h3;exact h.priv h3
 ·rcases hw.owns x hx u hu r hb with h3|h3
  ·omega
  ·exact h.priv h3
theorem c8.side{g:Gh}{σ:St}{w:yy}(h:c8 g σ w){r:Nat}(hM:∀x,g.M r x=none)(hobj:∀i cs,σ.H[i]?=G (G cs)->g.β i≠r)(hown:∀x∈σ.own,∀u,g.ι x.1 (I x.2.2)=G u->Cn u≠G r)
  {w':yy} (hk:∀b,b≠r->w'.heap[b]?=w.heap[b]?):c8 g σ w' where
 n:=h.n
 gl:=h.gl
 gw:=h.gw.keepG fun p hp _=>hk p.1 fun e=>by
  obtain⟨v,hv⟩:=h.gl.sized p hp
  rw[e,hM 0] at hv;simp at hv
 mem:=fun b o v hm=>by
  have hne:b≠r:=fun e=>by subst e;rw[hM o] at hm;simp at hm
  have:=h.mem b o v hm
  simp only[World.cell?] at this⊢
  rw[hk b hne];exact this
 obj:=fun i cs hi=>by
  obtain⟨us,rest,e,h1,h2⟩:=h.obj i cs hi
  exact⟨us,rest,e,by rw[hk _ (hobj i cs hi)];exact h1,h2⟩
 inj:=h.inj
 own:=fun k sz xs hx=>by
  obtain⟨h0,u,hu,h1,h2,h3⟩:=h.own k sz xs hx
  exact⟨h0,u,hu,h1,h2.kept fun b hb=>⟨hk b (fun e=>hown _ hx u hu (by rw[←e];exact hb)),fun _=>rfl⟩,h3⟩
 tags:=h.tags
 sep:=h.sep
 ownObj:=h.ownObj
 fresh:=h.fresh
structure ZT(r:Nat)(o:Obj)(E0 E:co):Prop where
 side:ZS r o E
 new:E0.w.heap.size<=r
 link:∀(g:Gh) (σ:St) (w:yy),WI E g σ w->WI E0 g σ w
section
variable {C : co -> co -> Prop} {P : x4} {R : List D -> St -> Prop} {c : Code} {p : List Nat} {k : List KI} {env env' : List D} {σ σ' : St} {i : Nat} {o : yw} {d : D}
theorem ZT.of{E0:co}{g:Gh}{w w1:yy}{r:Nat}{ob:Obj}(hw:WI E0 g σ w)(hk:∀b,b≠r->w1.heap[b]?=w.heap[b]?)(hr:w1.heap[r]?=G ob)(hsz:w.heap.size<=w1.heap.size)(hos:w1.os=w.os)(htp:w1.tape=w.tape)(hou:w1.output=w.output)(hEr:E0.w.heap.size<=r)
  (hM:∀x,g.M r x=none) (hobj:∀i cs,σ.H[i]?=G (G cs)->g.β i≠r) (hown:∀x∈σ.own,∀u,g.ι x.1 (I x.2.2)=G u->Cn u≠G r) (hdr:BO w.drawn w1.drawn:=by first|exact BO.refl _|exact BO.succ _|assumption):
  ZT r ob E0 ⟨g,w1,σ⟩/\WI ⟨g,w1,σ⟩ g σ w1:=by
 refine⟨⟨⟨hr,?_,hM⟩,hEr,fun g' σ' w' h'=>hw.trans (fun b hb _=>hk b (by omega)) hsz hos htp hou h'⟩,WI.start (hw.rep.side hM hobj hown hk)⟩
 rintro (⟨i,cs,hi,e⟩|⟨x,hx,u,hu,hb⟩)
 ·exact hobj i cs hi e.symm
 ·exact hown x hx u hu hb
end
def FC:Nat->List (List UInt8)->List MapEntry
 |_,[]=>[]
 |n,s::l=>⟨.string ⟨s.toArray⟩,.bool true,n⟩::FC (n+1) l
def Dj(l:List (List UInt8)):Obj:=.map (FC 0 l).toArray (I l)
theorem Z4(a b:List UInt8):((⟨a.toArray⟩:ByteArray)==⟨b.toArray⟩)=(a==b):=by
 have:((⟨a.toArray⟩:ByteArray)==⟨b.toArray⟩)=(a.toArray==b.toArray):=rfl
 rw[this];simp
theorem OL(s:List UInt8):∀(l:List (List UInt8)) (n m:Nat),∃q,Instr.findNow .string (.string ⟨s.toArray⟩) (FC n l) m=G (if l.contains s then G (q,.bool true) else none)
 |[],n,m=>⟨0,by simp[FC,Instr.findNow]⟩
 |x::l,n,m=>by
  obtain⟨q,hq⟩:=OL s l (n+1) (m+1)
  simp only[FC,Instr.findNow,Instr.sameNow,Z4,List.contains_cons]
  by_cases h:s=x
  ·subst h;exact⟨m,by simp⟩
  ·have hb:(s==x)=O:=by simpa using h
   simp only[hb,Bool.false_or]
   exact⟨q,hq⟩
theorem Mo:∀(l:List (List UInt8)) (n:Nat) (s:List UInt8),FC n (l++[s])=FC n l++[⟨.string ⟨s.toArray⟩,.bool true,n+I l⟩]
 |[],n,s=>by simp[FC]
 |x::l,n,s=>by simp only[J7,FC,Mo l (n+1) s,HV,Nat.add_assoc,Nat.add_comm 1]
section
variable {C : co -> co -> Prop} {P : x4} {R : List D -> St -> Prop} {c : Code} {p : List Nat} {k : List KI} {env env' : List D} {σ σ' : St} {i : Nat} {o : yw} {d : D}
end
section
variable {P : x4} {o : yw} {σ : St} {d : D}
theorem KL{c:Call}{fo:x5}(ho:o.op=.call c)(hc:c.callee=.value fo){f:yv}{fs cs:List V}{ds:List D}(hp:D.pls ds=J){os:List D}(hos:D.pls os=J){len:Nat}
  (hspec:Aa P f (fs.map .v++ds++cs.map .v) ⟨[],[]⟩ (.arr 0 0 len) ⟨[G os],[]⟩):Ay P o (.v (.fn f fs cs)::ds) σ (.arr (I σ.H) 0 len) ⟨σ.H++[G os],σ.own⟩:=by
 intro E g a w K Q hw hds hK
 obtain⟨us,vs,ws,hf,hargs,h1,h2,h3⟩:=DE ho hc hds
 refine FH (_E:=E) (_g:=g) ho hc hspec.1 hf hargs ?_
 have hargs':Ar { M:=g.M,β:=g.β,n:=0,ι:=fun _ _=>none,κ:=g.κ } (fs.map .v++ds++cs.map .v) (us++ws++vs):=
  Cs (by rfl) (by simp[Cw,Cg,hp]) (A7 (A7 h1 h3) h2)
 refine Calls.mono (hspec.2 _ w _ hw.rep.empty hargs') ?_
 rintro e w' ⟨u,g',rfl,hw',hr⟩
 obtain⟨h4,h5⟩:=hw.back0 (by rfl) hw'
 simp only[Av] at hr
 obtain⟨vs',rest',e',hb,hrv,hone,hMn,_⟩:=hw'.rep.obj 0 os (by simp)
 have hge:w.heap.size<=g'.β 0:=by
  rcases hw'.objs 0 os (by simp) with h|h
  ·exact h
  ·exact absurd h EA
 obtain⟨h6,h7⟩:=h4.addObj (b:=g'.β 0) (us:=vs') (rest:=rest') (e:=e') (cs:=os) hb (.inl (IN hw.size hge)) hMn
  (fun i cs hi=>by have:=hw.rep.obj_lt hi;simp only;omega) (fun x hx v hv hvb=>by have:=hw.rep.own_lt hx hv hvb;omega) (Cs (by rfl) hos hrv) hone
 refine⟨u,rfl,hK _ _ _ h6 (Gh.le_trans h5 h7) ?_⟩
 simp only[Av]
 obtain⟨_,cap,hcap,rfl⟩:=hr
 exact⟨by rw[hw.rep.n];omega,cap,hcap,by rw[hw.rep.n];simp⟩
theorem EZ{f:yv}{first captured:Array x5}(ho:o.op=.makeFunc (.func f) first captured)(hl:first.size=0){cs:List D}:Ay P o cs σ (.dfn f [] cs) σ:=by
 refine AA fun E g ρ w hw hds=>?_
 have h0:first= #[]:=Array.eq_empty_of_size_eq_zero hl
 subst h0
 simp only[ho,Op.operands] at hds
 refine⟨.func (.func f) #[] (captured.map ρ),?_,?_⟩
 ·simp[execOp,ho,Instr.makeFunc]
 ·simp only[Av]
  exact⟨[],captured.toList.map ρ,by congr 1;apply IV;simp,by simp[Ar],by simpa using hds⟩
end
mutual
inductive VS:V->V->Prop
 |refl (x:V):VS x x
 |nils:VS .nils (.list [])
 |agg {cs ds:List V} (h:gy cs ds):VS (.agg cs) (.agg ds)
 |list {cs ds:List V} (h:gy cs ds):VS (.list cs) (.list ds)
 |ref {x y:V} (h:VS x y):VS (.ref x) (.ref y)
inductive gy:List V->List V->Prop
 |nil:gy [] []
 |cons {x y:V} {xs ys:List V} (h:VS x y) (hs:gy xs ys):gy (x::xs) (y::ys)
end
theorem VS.isAgg{x y:V}(h:VS x y):y.isAgg=x.isAgg:=by cases h<;>rfl
theorem gy.length:∀{xs ys:List V},gy xs ys->ys.length=xs.length
 |_,_,.nil=>rfl
 |_,_,.cons _ hs=>by simp[hs.length]
theorem gy.refl:∀xs:List V,gy xs xs
 |[]=>.nil
 |x::xs=>.cons (.refl x) (gy.refl xs)
mutual
theorem VS.repC{M:cg}:∀{x y:V},VS x y->∀{ws:List yx},repC M x ws->Dv.repC M y ws
 |_,_,.refl _,_,h=>h
 |_,_,.nils,ws,h=>by
  simp only[Dv.repC] at h⊢
  subst h
  exact⟨none,0,rfl,HX _,.inl trivial⟩
 |_,_,.agg h,_,hr=>by simp only[Dv.repC] at hr⊢;exact h.repA hr
 |_,_,.list h,_,hr=>by
  simp only[Dv.repC] at hr⊢
  obtain⟨a,cap,e,hc,hor⟩:=hr
  rw[h.length]
  refine⟨a,cap,e,hc,?_⟩
  rcases hor with rfl|⟨b,off,sz,us,h1,h2,h3,h4⟩
  ·left;cases h;rfl
  ·exact .inr ⟨b,off,sz,us,h1,h2,h3,h.repE h4⟩
 |_,_,.ref h,_,hr=>by
  simp only[Dv.repC] at hr⊢
  obtain⟨b,off,us,e,hi,hx⟩:=hr
  exact⟨b,off,us,e,hi,h.repC hx⟩
theorem gy.repA{M:cg}:∀{xs ys:List V},gy xs ys->∀{us:List yx},Dv.repA M xs us->Dv.repA M ys us
 |_,_,.nil,_,h=>h
 |_,_,.cons h hs,_,hr=>by
  simp only[Dv.repA] at hr⊢
  obtain⟨u,us',e,ha,h1,h2⟩:=hr
  exact⟨u,us',e,by rw[h.isAgg];exact ha,h.repC h1,hs.repA h2⟩
theorem gy.repE{M:cg}{sz:Nat}:∀{xs ys:List V},gy xs ys->∀{us:List yx},Dv.repE M sz xs us->Dv.repE M sz ys us
 |_,_,.nil,_,h=>h
 |_,_,.cons h hs,_,hr=>by
  simp only[Dv.repE] at hr⊢
  obtain⟨u1,u2,e,hl,h1,h2⟩:=hr
  exact⟨u1,u2,e,hl,h.repC h1,hs.repE h2⟩
end
theorem VS.repV{M:cg}{x y:V}(h:VS x y){u:yx}(hr:repV M x u):Dv.repV M y u:=by
 obtain⟨ws,h1,h2⟩:=hr
 refine⟨ws,h.repC h1,?_⟩
 rw[h2]
 cases h<;>rfl
inductive DS:D->D->Prop
 |same (d:D):DS d d
 |v {x y:V} (h:VS x y):DS (.v x) (.v y)
 |gro {q len sz:Nat}:DS (.gro q len sz) (.arr q 0 len)
 |acc {k:Nat} {xs:List V}:DS (.acc k xs) (.v (.list xs))
inductive DSL:List D->List D->Prop
 |nil:DSL [] []
 |cons {d e:D} {ds es:List D} (h:DS d e) (hs:DSL ds es):DSL (d::ds) (e::es)
theorem DS.rep{g:Gh}{d e:D}(h:DS d e){u:yx}(hr:Av g d u):Av g e u:=by
 cases h with
 |same=>exact hr
 |v h=>simp only[Av] at hr⊢;exact h.repV hr
 |gro=>
  simp only[Av] at hr⊢
  obtain⟨h1,cap,h2,_,h3⟩:=hr
  exact⟨h1,cap,h2,h3⟩
 |acc=>simp only[Av] at hr⊢;exact hr.1
theorem DSL.rep{g:Gh}:∀{ds es:List D},DSL ds es->∀{us:List yx},Ar g ds us->Ar g es us
 |_,_,.nil,_,h=>h
 |_,_,.cons h hs,_,hr=>by
  simp only[Ar] at hr⊢
  obtain⟨u,us',e,h1,h2⟩:=hr
  exact⟨u,us',e,h.rep h1,hs.rep h2⟩
theorem DSL.refl:∀ds:List D,DSL ds ds
 |[]=>.nil
 |d::ds=>.cons (.same d) (DSL.refl ds)
theorem Aa.sub{P:x4}{f:yv}{ds es:List D}{σ σ':St}{d e:D}(h:Aa P f es σ d σ')(hs:DSL ds es)(hd:DS d e):Aa P f ds σ e σ':=by
 refine⟨h.1,fun g w args hw hargs=>Calls.mono (h.2 g w args hw (hs.rep hargs)) ?_⟩
 rintro x w' ⟨u,g',rfl,hw',hr⟩
 exact⟨u,g',rfl,hw',hd.rep hr⟩
theorem w6{env env':List D}{σ:St}(h:DSL env env'):Cv env σ env' σ:=fun E g a w hf=>⟨g,hf.wi,h.rep hf.env,hf.defers⟩
section
variable {P : x4} {o : yw} {σ : St}
theorem PH{op:BinOp}{t ty e:yz}{x:x5}(ho:o.op=.binOp op t x (.const (.slice none 0 0)) ty)(hu:P.underlying t=G (.slice e))(hop:op=.eql∨op=.neq)(ρ:x5->yx)(w:yy){a:Option Addr}{len cap:Nat}(e1:ρ x=.slice a len cap)(e2:ρ (.const (.slice none 0 0))=.slice none 0 0):
  (execOp ρ o).run P w=.ok (.value (.bool (if op=.eql then a.isNone else !a.isNone))) w:=by
 have heq:(Op.equal t (.slice a len cap) (.slice none 0 0)).run P w=.ok a.isNone w:=by
  have gen:∀d,(Op.equalIn (d+1) t (.slice a len cap) (.slice none 0 0)).run P w=.ok a.isNone w:=fun d=>by
   cases a<;>simp[Op.equalIn,run_underlying hu]
  exact gen 9999
 rcases hop with rfl|rfl<;>simp[execOp,ho,e1,e2,eqGuard,binOp,heq]
theorem LR{t:yz}{parts:Array (Nat×x5)}(ho:o.op=.buildSlice t 0 parts)(hp:parts= #[]){e:yz}{sz by':Nat}{z:Option yx}(hs:Ce P t=G (e,sz,by',z)):
  Ay P o [] σ (.gro (I σ.H) 0 sz) ⟨σ.H++[G []],σ.own⟩:=by
 intro E g a w K Q hw hds hK
 obtain⟨i,hu,hi,rfl,rfl,rfl⟩:=AK hs
 subst hp
 obtain⟨g',h3,h4,h5,h6,h7⟩:=hw.newObjR (us:=[]) (rest:=[]) (cs:=[]) e (by simp[Ar]) (by simp)
 have:=hK g' _ (.slice (G ⟨w.heap.size,0,none⟩) 0 0) h3 h4 (by
  simp only[Av]
  exact⟨by omega,0,HX _,by rw[h6];simp,by rw[h5]⟩)
 unfold Oper.wp execOp
 simpa[ho,Instr.buildSlice,run_underlying hu,sizeOf,typeInfo,hi,Instr.fill,newRow,Oper.upon,show Array.range 0= #[] from rfl] using this
theorem JE{c:Call}{fo:x5}(ho:o.op=.call c)(hc:c.callee=.value fo){f:yv}{fs cs:List V}{ds:List D}(hp:D.pls ds=J){Hc:List (Option (List D))}{j:Nat}{os:List D}(hj:Hc[j]?=G (G os))(hos:D.pls os=J){len:Nat}
  (hspec:Aa P f (fs.map .v++ds++cs.map .v) ⟨[],[]⟩ (.arr j 0 len) ⟨Hc,[]⟩):Ay P o (.v (.fn f fs cs)::ds) σ (.arr (I σ.H) 0 len) ⟨σ.H++[G os],σ.own⟩:=by
 intro E g a w K Q hw hds hK
 obtain⟨us,vs,ws,hf,hargs,h1,h2,h3⟩:=DE ho hc hds
 refine FH (_E:=E) (_g:=g) ho hc hspec.1 hf hargs ?_
 have hargs':Ar { M:=g.M,β:=g.β,n:=0,ι:=fun _ _=>none,κ:=g.κ } (fs.map .v++ds++cs.map .v) (us++ws++vs):=
  Cs (by rfl) (by simp[Cw,Cg,hp]) (A7 (A7 h1 h3) h2)
 refine Calls.mono (hspec.2 _ w _ hw.rep.empty hargs') ?_
 rintro e w' ⟨u,g',rfl,hw',hr⟩
 obtain⟨h4,h5⟩:=hw.back0 (by rfl) hw'
 simp only[Av] at hr
 obtain⟨vs',rest',e',hb,hrv,hone,hMn,_⟩:=hw'.rep.obj j os hj
 have hge:w.heap.size<=g'.β j:=by
  rcases hw'.objs j os hj with h|h
  ·exact h
  ·exact absurd h EA
 obtain⟨h6,h7⟩:=h4.addObj (b:=g'.β j) (us:=vs') (rest:=rest') (e:=e') (cs:=os) hb (.inl (IN hw.size hge)) hMn
  (fun i cs hi=>by have:=hw.rep.obj_lt hi;simp only;omega) (fun x hx v hv hvb=>by have:=hw.rep.own_lt hx hv hvb;omega) (Cs (by rfl) hos hrv) hone
 refine⟨u,rfl,hK _ _ _ h6 (Gh.le_trans h5 h7) ?_⟩
 simp only[Av]
 obtain⟨_,cap,hcap,rfl⟩:=hr
 exact⟨by rw[hw.rep.n];omega,cap,hcap,by rw[hw.rep.n];simp⟩
end
end Go.Dv

namespace Go.Nv
open Go.Dv
open Go.IntKind (u64)
open Go.IntKind renaming wrap → yr, i64 → yq
open List renaming length → I, map → U, drop → W
open Option renaming some → G
open Bool renaming true → J, false → O
open Decidable renaming decide → Y
open Int renaming toNat → Z
open Go.Dv.V renaming list → ai, str → ae, agg → ab, int → aa, ref → bz, fn → bw, nils → bv, bool → bu
open Go.Dv.D renaming v → bt, acc → br, ptr → bq, arr → bo, gro → bm, tup → bl, undef → bk, dagg → bj
open Go.Dv.St renaming mk → bi
open Go.Dv.KI renaming blk → bh
open _root_.ByteArray renaming mk → bg
open Go renaming Operand → x5, Program → x4, TypeId → yz, World → yy, Value → yx, Oper → yw, FuncId → yv, Func → yu, IntKind → yt
abbrev vi(n:Int):V:=.int .i64 n
abbrev di(n:Int):D:=.v (.int .i64 n)
abbrev db(b:Bool):D:=.v (.bool b)
abbrev vb(c:UInt8):V:=.int .u8 c.toNat
abbrev ds(s:List UInt8):D:=.v (.str s)
abbrev nV:List V:=[]
abbrev iz(n:Int):Int:=n
inductive vv where
 |x (v:V)                                  -- the element of a list
 |xs (v:V)                                 -- the same,of a size to be shown
 |y (c:UInt8)                              -- a byte of a string
 |c (d:D)                                  -- what a call returns (data)
 |ca (xs:List V) (d:D)                   -- the same;the arguments as the contract has them
 |c1 (os:List D) (d:D)                   -- a call that is handed one object:its cells behind
 |c1k (k k' sz:Nat) (os:List D) (xs:List V)  -- the same;it returns an owned list
 |ck (k k' sz:Nat) (xs:List V)           -- a call that returns an owned list
 |ckn (k k' sz:Nat) (xs:List V)          -- the same,handed nil
 |k                                          -- a truth value that is known
 |t
 |f
 |l (sl:List (Nat×Option D)) (σ:Option St)   -- a loop's head:what is known there
 |lo (sl:List (Nat×Option D)) (σ:St)   -- the same,with open cells
 |n                                          -- into a loop
 |m (d:D)                                  -- a cell
 |w                                          -- a write to an open place
 |ww                                         -- the same,of a struct
 |cs (σ:St)                                -- the state,seen otherwise
 |ct (t:Nat) (d:D) (σ:St)              -- a slot and the state,seen otherwise
 |oc (d:D) (σ:St)                        -- any call
 |gx (cs:List D) (H:List (Option (List D)))  -- a growing list is appended to,in a state that is not known whole
 |o (d:D) (σ:St)                         -- any operation
 |p (d:D)                                  -- any operation that leaves the state as it is
 |g                                          -- an empty literal that grows
 |ga (s:Nat)                               -- a list that grew,as an array
 |cj (j:Nat) (H:List (Option (List D))) (os:List D) (len:Nat)   -- a call that returns a new array
 |un (s:Nat)                               -- a slot's list is appended to no longer
 |dr (k:Nat)                               -- a list's right to be appended to is given up
 |fa (q:Nat) (ss:List Nat)               -- a struct or array becomes data,seen from G slots
 |f1 (q:Nat) (ss:List Nat)               -- a variable of one cell becomes data
 |fl (q s:Nat) (xs:List V)               -- a list of one-cell elements becomes data
 |q (r i:Nat)                              -- nothing before operation i of region r
 |cl (q j k sz:Nat)                        -- a cell's nil may be appended to
 |nw (s k sz:Nat)                          -- a slot's nil may be appended to
 |a (k:Nat)                                -- a list that is made may be appended to
 |s (sl:List (Nat×Option D))             -- the walk stops ahead of an operation
 |r
 |rn
 |ro
 |rd                                         -- a return of structs with lists of their own
inductive Sc:Type 1 where
 |z
 |e {A:Type} (f:A->Sc)
 |b (s t:Sc)
 |h (i:vv) (s:Sc)
namespace Sc
abbrev x(v:V)(s:Sc):Sc:=.h (.x v) s
abbrev y(c:UInt8)(s:Sc):Sc:=.h (.y c) s
abbrev c(d:D)(s:Sc):Sc:=.h (.c d) s
abbrev ca(xs:List V)(d:D)(s:Sc):Sc:=.h (.ca xs d) s
abbrev c1(os:List D)(d:D)(s:Sc):Sc:=.h (.c1 os d) s
abbrev k(s:Sc):Sc:=.h .k s
abbrev t(s:Sc):Sc:=.h .t s
abbrev f(s:Sc):Sc:=.h .f s
abbrev a(k:Nat)(s:Sc):Sc:=.h (.a k) s
abbrev n(s:Sc):Sc:=.h .n s
abbrev m(d:D)(s:Sc):Sc:=.h (.m d) s
abbrev w(s:Sc):Sc:=.h .w s
abbrev q(r i:Nat)(h:vv)(s:Sc):Sc:=.h (.q r i) (.h h s)
abbrev r:Sc:=.h .r .z
abbrev rn:Sc:=.h .rn .z
abbrev ro:Sc:=.h .ro .z
abbrev rd:Sc:=.h .rd .z
abbrev lo(sl:List (Nat×Option D))(σ:St):Sc:=.h (.lo sl σ) .z
abbrev l(sl:List (Nat×Option D)):Sc:=.h (.l sl none) .z
abbrev ls(sl:List (Nat×Option D))(σ:St):Sc:=.h (.l sl (G σ)) .z
end Sc
noncomputable def B9{α β:Type}(l:List α)(k:List α->β):β:=
 List.rec (motive:=fun _=>(List α->β)->β) (fun k=>k []) (fun a _ ih k=>ih fun r=>k (a::r)) l k
theorem Bz{α β:Type}:∀(l:List α) (k:List α->β),B9 l k=k l
 |[],_=>rfl
 |a::l,k=>by
  have h:B9 (a::l) k=B9 l fun r=>k (a::r):=rfl
  rw[h,Bz l]
noncomputable def CP{α β:Type}(l:List α)(i:Nat)(x:α)(k:List α->β):β:=
 List.rec (motive:=fun _=>Nat->(List α->β)->β) (fun _ k=>k []) (fun a t ih i k=>Nat.rec (motive:=fun _=>β) (k (x::t)) (fun j _=>ih j fun r=>k (a::r)) i) l i k
theorem BF{α β:Type}(x:α):∀(l:List α) (i:Nat) (k:List α->β),CP l i x k=k (l.set i x)
 |[],_,_=>rfl
 |a::l,0,k=>rfl
 |a::l,i+1,k=>by
  have h:CP (a::l) (i+1) x k=CP l i x fun r=>k (a::r):=rfl
  rw[h,BF x l];rfl
noncomputable def DA{β:Type}(env:List D)(t:Option Tmp)(d:D)(k:List D->β):β:=match t with
 |some t=>CP env t d k
 |none=>k env
theorem D5{β:Type}(env:List D)(t:Option Tmp)(d:D)(k:List D->β):DA env t d k=k (CG env t d):=by
 cases t with
 |none=>rfl
 |some t=>exact BF d env t k
noncomputable def AV{α β:Type}(l:List α)(x:α)(k:List α->β):β:=
 List.rec (motive:=fun _=>(List α->β)->β) (fun k=>k [x]) (fun a _ ih k=>ih fun r=>k (a::r)) l k
theorem AU{α β:Type}(x:α):∀(l:List α) (k:List α->β),AV l x k=k (l++[x])
 |[],_=>rfl
 |a::l,k=>by
  have h:AV (a::l) x k=AV l x fun r=>k (a::r):=rfl
  rw[h,AU x l];rfl
noncomputable def b9(n:Nat)(L:List (Nat×D)):List D:=L.foldl (fun e p=>e.set p.1 p.2) (List.replicate n .undef)
def sn:yx->D
 |.slice none 0 0=>.v .nils
 |u=>TP u
noncomputable def ig(env:List D):x5->D
 |.tmp t=>env.getD t .undef
 |.const u=>sn u
 |.global n=>ql n
 |.func f=>.v (.fn f [] [])
theorem Th{g:Gh}{u:yx}:Av g (sn u) u:=by
 unfold sn
 split
 ·simp[Av]
 ·exact MH g u
theorem Abt{g:Gh}{env:List D}{a:Act}(hG:FE g.M)(h:Ar g env a.tmps.toList)(x:x5):Av g (ig env x) (a.eval x):=by
 cases x with
 |tmp t=>exact F4 h t
 |const u=>exact Th
 |global n=>exact LM hG h (.global n)
 |func f=>exact LM hG h (.func f)
theorem PK{g:Gh}{env:List D}{a:Act}(hG:FE g.M)(h:Ar g env a.tmps.toList):∀(l:List x5),Ar g (l.map (ig env)) (l.map a.eval)
 |[]=>by simp[Ar]
 |x::l=>by simp only[Iu,Ar];exact⟨_,_,rfl,Abt hG h x,PK hG h l⟩
def kq(a b:yt):Bool:=Y (a=b)
noncomputable def sb(P:x4)(op:BinOp)(t:yz)(x y:V)(K:V->Prop):Prop:=
 match x,y with
 |.int kd a,.int kd' b=>
  match op with
  |.quo=>cond (kq kd kd') (b≠0/\K (.int kd (kd.wrap (a.tdiv b)))) False
  |.rem=>cond (kq kd kd') (b≠0/\K (.int kd (a.tmod b))) False
  |.shl=>0<=b/\K (.int kd (kd.wrap (a*2^(min b.toNat kd.bits))))
  |.shr=>0<=b/\K (.int kd (a.fdiv (2^(min b.toNat kd.bits))))
  |op=>cond (kq kd kd') (match r7 op kd a b with|G z=>K z|none=>False) False
 |.str a,.str b=>
  match op with
  |.add=>I a+I b<=9223372036854775807/\K (.str (a++b))
  |op=>match pi op a b with|G z=>K z|none=>False
 |.bool a,.bool b=>match P.underlying t with
  |some .bool=>match op with
   |.eql=>K (.bool (a==b))
   |.neq=>K (.bool (a !=b))
   |_=>False
  |_=>False
 |_,_=>False
theorem A4{b:Bool}{x:Prop}(h:cond b x False):b=J/\x:=by cases b<;>simp_all
theorem AeM{P:x4}{op:BinOp}{t ty:yz}{x y:V}{K:V->Prop}(h:sb P op t x y K){o:yw}{a b:x5}(ho:o.op=.binOp op t a b ty):
  ∃z,K z/\∀σ,Ay P o [.v x,.v y] σ (.v z) σ:=by
 unfold sb at h
 split at h
 ·rename_i kd a kd' b
  split at h
  ·obtain⟨e,hb,h'⟩:=A4 h
   have e:=Ib e;subst e
   exact⟨_,h',fun σ=>XS ho rfl hb⟩
  ·obtain⟨e,hb,h'⟩:=A4 h
   have e:=Ib e;subst e
   exact⟨_,h',fun σ=>XS ho rfl hb⟩
  ·exact⟨_,h.2,fun σ=>x9 ho rfl h.1⟩
  ·exact⟨_,h.2,fun σ=>x9 ho rfl h.1⟩
  ·obtain⟨e,h'⟩:=A4 h
   have e:=Ib e;subst e
   split at h'
   ·rename_i z hz;exact⟨z,h',fun σ=>Af0 ho hz⟩
   ·exact h'.elim
 ·split at h
  ·exact⟨_,h.2,fun σ=>Yc ho h.1⟩
  ·split at h
   ·rename_i z hz;exact⟨z,h,fun σ=>Afz ho hz⟩
   ·exact h.elim
 ·rename_i a b
  split at h
  ·rename_i hu
   split at h
   ·exact⟨_,h,fun σ=>by have:=Ya (P:=P) (σ:=σ) ho hu (a:=a) (b:=b) (.inl rfl);simpa using this⟩
   ·exact⟨_,h,fun σ=>by have:=Ya (P:=P) (σ:=σ) ho hu (a:=a) (b:=b) (.inr rfl);simpa using this⟩
   ·exact h.elim
  ·exact h.elim
 ·exact h.elim
noncomputable def D2:List D->Option (List V)
 |[]=>G []
 |.v x::ds=>match D2 ds with
  |some xs=>G (x::xs)
  |none=>none
 |.acc _ xs::ds=>match D2 ds with
  |some ys=>G (.list xs::ys)
  |none=>none
 |_::_=>none
theorem Gm:∀{ds:List D} {xs:List V},D2 ds=G xs->ES ds=G xs
 |[],xs,h=>by simpa[D2,ES] using h
 |d::ds,xs,h=>by
  cases d<;>simp only[D2] at h<;>first|(split at h<;>first|(rename_i h1;simp at h;subst h;simp[ES,D.toV,Gm h1])|simp at h)|simp at h
noncomputable def jd:List (Nat×x5)->List D->Option (List (Nat×V))
 |[],[]=>G []
 |p::ps,.v x::ds=>match jd ps ds with
  |some xs=>G ((p.1,x)::xs)
  |none=>none
 |p::ps,.acc _ l::ds=>match jd ps ds with
  |some xs=>G ((p.1,.list l)::xs)
  |none=>none
 |_,_=>none
theorem QW:∀{ps:List (Nat×x5)} {ds:List D} {xs:List (Nat×V)},jd ps ds=G xs->Dh ps ds=G xs
 |[],[],xs,h=>by simpa[jd,Dh] using h
 |[],_::_,xs,h=>by simp[jd] at h
 |_::_,[],xs,h=>by simp[jd] at h
 |p::ps,d::ds,xs,h=>by
  obtain⟨i,q⟩:=p
  cases d<;>simp only[jd] at h<;>first|(split at h<;>first|(rename_i h1;simp at h;subst h;simp[Dh,D.toV,QW h1])|simp at h)|simp at h
def oa:List (Nat×x5)->Nat->Bool
 |[],_=>true
 |p::ps,i=>Nat.beq p.1 i&&oa ps (Nat.succ i)
theorem Rt:∀{ps:List (Nat×x5)} {i:Nat},oa ps i=J->ps=((ps.map (·.2)).zipIdx i).map fun x=>(x.2,x.1)
 |[],i,_=>rfl
 |p::ps,i,h=>by
  simp only[oa,HR] at h
  have h1:=Ir h.1
  simp only[Iu,List.zipIdx_cons]
  rw[←Rt h.2]
  cases p;simp_all
noncomputable def ZL(sz:Nat)(xs:List V):Bool:=xs.all fun x=>Nat.beq x.size sz
theorem Lu{sz:Nat}{xs:List V}(h:ZL sz xs=J):∀x∈xs,x.size=sz:=fun x hx=>Ir (ID.1 h x hx)
noncomputable def UD(cs:List V)(fo n:Nat)(b:Bool)(K:V->Prop):Prop:=match b with
 |true=>cond (Nat.ble (fo+n) (I cs)) (K (.agg ((cs.drop fo).take n))) False
 |false=>match cs[fo]? with
  |some y=>K y
  |none=>False
theorem KY{cs:List V}{fo n:Nat}{b:Bool}{K:V->Prop}(h:UD cs fo n b K):∃y,K y/\Hd cs fo n b=G y:=by
 unfold UD at h
 split at h
 ·obtain⟨h1,h2⟩:=A4 h
  refine⟨_,h2,?_⟩
  simp[Hd,Ix h1]
 ·split at h
  ·rename_i y hy;exact⟨y,h,by simp[Hd,hy]⟩
  ·exact h.elim
noncomputable def p7(P:x4)(s:yz)(f:Nat)(cs:List V)(K:V->Prop):Prop:=match Qr P s f with
 |some (fo,1,false)=>UD cs fo 1 false K
 |some (fo,n+1,true)=>UD cs fo (n+1) true K
 |_=>False
noncomputable def p6(P:x4)(t:yz)(cs:List V)(i:Int)(K:V->Prop):Prop:=match km P t with
 |some (len,1,false)=>0<=i/\i<len/\UD cs (i.toNat*1) 1 false K
 |some (len,n,true)=>0<=i/\i<len/\UD cs (i.toNat*n) n true K
 |_=>False
theorem WB{P:x4}{t:yz}{cs:List V}{i:Int}{K:V->Prop}(h:p6 P t cs i K):
  ∃y len sz b,K y/\km P t=G (len,sz,b)/\(b=O->sz=1)/\0<=i/\i<len/\Hd cs (i.toNat*sz) sz b=G y:=by
 unfold p6 at h
 split at h
 ·rename_i len ht
  obtain⟨y,h3,h4⟩:=KY h.2.2
  exact⟨y,len,1,false,h3,ht,fun _=>rfl,h.1,h.2.1,h4⟩
 ·rename_i len n ht
  obtain⟨y,h3,h4⟩:=KY h.2.2
  exact⟨y,len,n,true,h3,ht,fun h=>by simp at h,h.1,h.2.1,h4⟩
 ·exact h.elim
noncomputable def o4(n:Nat)(l h:Option Int)(K:Nat->Nat->Prop):Prop:=match l,h with
 |none,none=>K 0 n
 |some l,none=>0<=l/\l<=n/\K l.toNat n
 |none,some h=>0<=h/\h<=n/\K 0 h.toNat
 |some l,some h=>0<=l/\l<=h/\h<=n/\K l.toNat h.toNat
theorem AdK{n:Nat}{l h:Option Int}{K:Nat->Nat->Prop}(hh:o4 n l h K):∃a b,K a b/\Cf n l h=G (a,b):=by
 unfold o4 at hh
 split at hh
 ·exact⟨_,_,hh,by simp[Cf]⟩
 ·exact⟨_,_,hh.2.2,by simp only[Cf,Option.getD];rw[Io (by omega)];simp⟩
 ·exact⟨_,_,hh.2.2,by simp only[Cf,Option.getD];rw[Io (by omega)];simp⟩
 ·exact⟨_,_,hh.2.2.2,by simp only[Cf,Option.getD];rw[Io (by omega)]⟩
def U2(P:x4)(o:yw)(ds:List D)(K:Sc->D->Prop):Prop:=∃s d,K s d/\∀σ,Ay P o ds σ d σ
theorem U2.v{P:x4}{o:yw}{ds:List D}{K:Sc->D->Prop}{s:Sc}{z:V}(hk:K s (.v z))(h:∀σ,Ay P o ds σ (.v z) σ):U2 P o ds K:=⟨s,_,hk,h⟩
def qk:x5->Bool
 |.const (.slice none 0 0)=>true
 |_=>false
theorem T6{x:x5}(h:qk x=J):x=.const (.slice none 0 0):=by
 unfold qk at h
 split at h
 ·rfl
 ·simp at h
noncomputable def sa(P:x4)(op:BinOp)(t:yz)(b:x5)(x:V)(K:V->Prop):Prop:=cond (qk b) (match P.underlying t with
 |some (.slice _)=>match op,x with
  |.eql,.list xs=>xs≠ []/\K (.bool false)
  |.neq,.list xs=>xs≠ []/\K (.bool true)
  |.eql,.nils=>K (.bool true)
  |.neq,.nils=>K (.bool false)
  |_,_=>False
 |_=>False) False
theorem NZ{P:x4}{o:yw}{op:BinOp}{t ty e:yz}{a:x5}(ho:o.op=.binOp op t a (.const (.slice none 0 0)) ty)(hu:P.underlying t=G (.slice e))(hop:op=.eql∨op=.neq){x:V}{isn:Bool}
  (hx:∀M u,repV M x u->∃ad len cap,u=.slice ad len cap/\ad.isNone=isn) (σ:St):Ay P o [.v x,.v .nils] σ (.v (.bool (if op=.eql then isn else !isn))) σ:=by
 intro E g ac w K Q hw hds hK
 simp only[ho,Op.operands] at hds
 obtain⟨u,v,eq,h1,h2⟩:=A8.1 hds
 simp only[Iu,IP,Ie,I6] at eq
 simp only[Av] at h1
 obtain⟨ad,len,cap,rfl,rfl⟩:=hx _ _ h1
 have hrun:=PH (P:=P) ho hu hop ac.eval w eq.1 rfl
 have:=hK g w (.bool (if op=.eql then ad.isNone else !ad.isNone)) hw g.le_refl (by simp[Av])
 unfold Oper.wp
 rw[hrun]
 exact this
theorem Tg{xs:List V}(hx:xs≠ [])(M:cg)(u:yx)(h:repV M (.list xs) u):∃ad len cap,u=.slice ad len cap/\ad.isNone=O:=by
 obtain⟨ad,cap,rfl,_,hor⟩:=B3.1 h
 rcases hor with h|⟨b,off,sz,us,rfl,_⟩
 ·exact absurd h hx
 ·exact⟨_,_,_,rfl,rfl⟩
theorem Tf(M:cg)(u:yx)(h:repV M .nils u):∃ad len cap,u=.slice ad len cap/\ad.isNone=J:=by
 rw[C4] at h;exact⟨_,_,_,h,rfl⟩
theorem AeI{P:x4}{op:BinOp}{t ty:yz}{x:V}{a b:x5}{K:V->Prop}(h:sa P op t b x K){o:yw}(ho:o.op=.binOp op t a b ty):∃z,K z/\∀σ,Ay P o [.v x,.v .nils] σ (.v z) σ:=by
 unfold sa at h
 obtain⟨h1,h2⟩:=A4 h
 have hb:=T6 h1;subst hb
 split at h2
 ·rename_i e hu
  split at h2
  ·exact⟨_,h2.2,fun σ=>NZ ho hu (.inl rfl) (Tg h2.1) σ⟩
  ·exact⟨_,h2.2,fun σ=>NZ ho hu (.inr rfl) (Tg h2.1) σ⟩
  ·exact⟨_,h2,fun σ=>NZ ho hu (.inl rfl) Tf σ⟩
  ·exact⟨_,h2,fun σ=>NZ ho hu (.inr rfl) Tf σ⟩
  ·exact h2.elim
 ·exact h2.elim
noncomputable def s8(P:x4)(op:BinOp)(t:yz)(b:x5)(isn:Bool)(K:V->Prop):Prop:=cond (qk b) (match P.underlying t with
 |some (.slice _)=>(match op with
  |.eql=>K (.bool isn)
  |.neq=>K (.bool !isn)
  |_=>False)
 |_=>False) False
theorem AeH{P:x4}{op:BinOp}{t ty:yz}{y:V}{ad:Option Addr}{len cap:Nat}{a b:x5}{K:V->Prop}(h:s8 P op t b ad.isNone K){o:yw}(ho:o.op=.binOp op t a b ty):∃z,K z/\∀σ,Ay P o [.rv y (.slice ad len cap),.v .nils] σ (.v z) σ:=by
 unfold s8 at h
 obtain⟨h1,h2⟩:=A4 h
 have hb:=T6 h1;subst hb
 have main:∀{e:yz},P.underlying t=G (.slice e)->op=.eql∨op=.neq->∀σ,Ay P o [.rv y (.slice ad len cap),.v .nils] σ (.v (.bool (if op=.eql then ad.isNone else !ad.isNone))) σ:=by
  intro e hu hop σ E g ac w K Q hw hds hK
  simp only[ho,Op.operands] at hds
  obtain⟨u,v,eq,h1,h2⟩:=A8.1 hds
  simp only[Iu,IP,Ie,I6] at eq
  simp only[Av] at h1
  obtain⟨rfl,_⟩:=h1
  have hrun:=PH (P:=P) ho hu hop ac.eval w eq.1 rfl
  have:=hK g w (.bool (if op=.eql then ad.isNone else !ad.isNone)) hw g.le_refl (by simp[Av])
  unfold Oper.wp
  rw[hrun]
  exact this
 split at h2
 ·rename_i e hu
  split at h2
  ·exact⟨_,h2,fun σ=>main hu (.inl rfl) σ⟩
  ·exact⟨_,h2,fun σ=>main hu (.inr rfl) σ⟩
  ·exact h2.elim
 ·exact h2.elim
theorem NP{P:x4}{f:yv}{ds ds':List D}{σ σ':St}{d:D}(h:∀a cap,Aa P f (ds++ .rv (.list []) (.slice a 0 cap)::ds') σ d σ'):Aa P f (ds++ .v (.list [])::ds') σ d σ':=by
 refine⟨(h none 0).1,fun g w args hw hargs=>?_⟩
 have split:∀{ds:List D} {us:List yx},Ar g (ds++ .v (.list [])::ds') us->∃a cap,Ar g (ds++ .rv (.list []) (.slice a 0 cap)::ds') us:=by
  intro ds
  induction ds with
  |nil=>
   intro us h
   simp only[List.nil_append,Ar] at h
   obtain⟨u,us',rfl,h3,h4⟩:=h
   simp only[Av] at h3
   obtain⟨a,cap,rfl,_,hor⟩:=B3.1 h3
   exact⟨a,cap,by simp only[List.nil_append,Ar];exact⟨_,_,rfl,by simp only[Av];exact⟨rfl,h3⟩,h4⟩⟩
  |cons x ds ih=>
   intro us h
   simp only[J7,Ar] at h⊢
   obtain⟨u,us',rfl,h3,h4⟩:=h
   obtain⟨a,cap,h5⟩:=ih h4
   exact⟨a,cap,_,_,rfl,h3,h5⟩
 obtain⟨a,cap,h5⟩:=split hargs
 exact(h a cap).2 g w args hw h5
noncomputable def NK:List D->Option (List V)
 |[]=>G []
 |.v .nils::ds=>match NK ds with
  |some xs=>G (.list []::xs)
  |none=>none
 |.v x::ds=>match NK ds with
  |some xs=>G (x::xs)
  |none=>none
 |.acc _ xs::ds=>match NK ds with
  |some ys=>G (.list xs::ys)
  |none=>none
 |_::_=>none
theorem Gq{g:Gh}{u:yx}(h:Av g (.v .nils) u):Av g (.v (.list [])) u:=by
 simp only[Av,C4] at h⊢
 subst h;exact Dm _
theorem Fl{g:Gh}:∀{ds:List D} {xs:List V} {us:List yx},NK ds=G xs->Ar g ds us->Ar g (xs.map .v) us
 |[],xs,us,h,hr=>by simp[NK] at h;subst h;simpa using hr
 |d::ds,xs,us,h,hr=>by
  simp only[Ar] at hr
  obtain⟨u,us',rfl,h1,h2⟩:=hr
  unfold NK at h
  split at h
  ·rename_i e;simp at e
  ·rename_i ds' e;simp only[Ie] at e;obtain⟨rfl,rfl⟩:=e
   split at h
   ·rename_i ys hy;simp at h;subst h
    simp only[Iu,Ar];exact⟨_,_,rfl,Gq h1,Fl hy h2⟩
   ·simp at h
  ·rename_i x ds' e;simp only[Ie] at e;obtain⟨rfl,rfl⟩:=e
   split at h
   ·rename_i ys hy;simp at h;subst h
    simp only[Iu,Ar];exact⟨_,_,rfl,h1,Fl hy h2⟩
   ·simp at h
  ·rename_i k l ds' e;simp only[Ie] at e;obtain⟨rfl,rfl⟩:=e
   split at h
   ·rename_i ys hy;simp at h;subst h
    simp only[Iu,Ar];exact⟨_,_,rfl,NV h1,Fl hy h2⟩
   ·simp at h
  ·simp at h
theorem L9{g:Gh}{ds:List D}{xs:List V}{us:List yx}(h:D2 ds=G xs)(hr:Ar g ds us):Ar g (xs.map .v) us:=
 Eu (LI (Gm h) hr)
noncomputable def qf(P:x4)(f:yv)(fs cs:List V)(ds:List D)(s:Sc)(K:Sc->D->Prop):Prop:=match s with
 |.h (.c d) s=>cond d.pl (match NK ds with
  |some xs=>Aa P f ((fs++xs++cs).map .v) ⟨[],[]⟩ d ⟨[],[]⟩/\K s d
  |none=>False) False
 |.h (.ca ys d) s=>cond d.pl (match D2 ds with
  |some xs=>gy (fs++xs++cs) ys/\Aa P f (ys.map .v) ⟨[],[]⟩ d ⟨[],[]⟩/\K s d
  |none=>False) False
 |_=>False
theorem wn:∀{xs ys:List V},gy xs ys->Dv.DSL (xs.map .v) (ys.map .v)
 |_,_,.nil=>.nil
 |_,_,.cons h hs=>.cons (.v h) (wn hs)
theorem Sw{P:x4}{f:yv}{fs cs:List V}{ds:List D}{s:Sc}{K:Sc->D->Prop}(h:qf P f fs cs ds s K){o:yw}{c:Call}{fo:x5}(ho:o.op=.call c)(hc:c.callee=.value fo):
  U2 P o (.v (.fn f fs cs)::ds) K:=by
 unfold qf at h
 split at h
 ·rename_i d s
  obtain⟨h1,h2⟩:=A4 h
  split at h2
  ·rename_i xs hx
   refine⟨_,_,h2.2,fun σ=>BI (fun g us hr=>?_) (SU (d:=d) (ds:=xs.map .v) ho hc (Cg xs) h1 (by simpa[Jq] using h2.1))⟩
   simp only[Ar] at hr⊢
   obtain⟨u,us',e,h3,h4⟩:=hr
   exact⟨u,us',e,h3,Fl hx h4⟩
  ·exact h2.elim
 ·rename_i ys d s
  obtain⟨h1,h2⟩:=A4 h
  split at h2
  ·rename_i xs hx
   obtain⟨h3,h4,h5⟩:=h2
   have h4':=h4.sub (e:=d) (by simpa using wn h3) (.same d)
   refine⟨_,_,h5,fun σ=>BI (fun g us hr=>?_) (SU (d:=d) (ds:=xs.map .v) ho hc (Cg xs) h1 (by simpa[Jq] using h4'))⟩
   simp only[Ar] at hr⊢
   obtain⟨u,us',e,h3,h4⟩:=hr
   exact⟨u,us',e,h3,L9 hx h4⟩
  ·exact h2.elim
 ·exact h.elim
noncomputable def NI(P:x4)(c:Call)(ds:List D)(K:V->Prop):Prop:=match c.callee,ds with
 |.builtin .len,[.v (.list xs)]=>match c.args.toList,c.argTypes.toList with
  |[_],[t]=>match P.underlying t with
   |some (.slice _)=>K (.int .i64 (I xs))
   |_=>False
  |_,_=>False
 |.builtin .len,[.v .nils]=>match c.args.toList,c.argTypes.toList with
  |[_],[t]=>match P.underlying t with
   |some (.slice _)=>K (.int .i64 0)
   |_=>False
  |_,_=>False
 |.builtin .len,[.arr _ _ n]=>match c.args.toList,c.argTypes.toList with
  |[_],[t]=>match P.underlying t with
   |some (.slice _)=>K (.int .i64 n)
   |_=>False
  |_,_=>False
 |.builtin .len,[.gro _ n _]=>match c.args.toList,c.argTypes.toList with
  |[_],[t]=>match P.underlying t with
   |some (.slice _)=>K (.int .i64 n)
   |_=>False
  |_,_=>False
 |.builtin .len,[.v (.str s)]=>match c.args.toList,c.argTypes.toList with
  |[_],[t]=>match P.underlying t with
   |some .string=>K (.int .i64 (I s))
   |_=>False
  |_,_=>False
 |.builtin .max,[.v (.int kd a),.v (.int ke b)]=>match c.args.toList with
  |[_,_]=>cond (kq kd ke) (K (.int kd (if b>a then b else a))) False
  |_=>False
 |.builtin .min,[.v (.int kd a),.v (.int ke b)]=>match c.args.toList with
  |[_,_]=>cond (kq kd ke) (K (.int kd (if b<a then b else a))) False
  |_=>False
 |_,_=>False
theorem Rf{P:x4}{c:Call}{ds:List D}{K:V->Prop}(h:NI P c ds K){o:yw}(ho:o.op=.call c):∃z,K z/\∀σ,Ay P o ds σ (.v z) σ:=by
 have mk1:∀{b:Builtin} {x:x5} {t:yz},c.callee=.builtin b->c.args.toList=[x]->c.argTypes.toList=[t]->o.op=.call { callee:=.builtin b,args:= #[x],argTypes:= #[t]}:=by
  intro b x t hc h1 h2
  rw[ho];cases c;simp only at hc h1 h2;subst hc
  congr 2
  ·apply IV;simpa using h1
  ·apply IV;simpa using h2
 have mk2:∀{b:Builtin} {x y:x5},c.callee=.builtin b->c.args.toList=[x,y]->o.op=.call { callee:=.builtin b,args:= #[x,y],argTypes:=c.argTypes }:=by
  intro b x y hc h1
  rw[ho];cases c;simp only at hc h1;subst hc
  congr 2
  apply IV;simpa using h1
 unfold NI at h
 split at h
 ·rename_i xs hc
  split at h
  ·rename_i x t h1 h2
   split at h
   ·rename_i e hu;exact⟨_,h,fun σ=>XW (mk1 hc h1 h2) hu⟩
   ·exact h.elim
  ·exact h.elim
 ·rename_i hc
  split at h
  ·rename_i x t h1 h2
   split at h
   ·rename_i e hu
    refine⟨_,h,fun σ=>BI (fun g us hr=>?_) (XW (xs:=[]) (mk1 hc h1 h2) hu)⟩
    rw[AH] at hr⊢
    obtain⟨u,e,hr⟩:=hr
    exact⟨u,e,Gq hr⟩
   ·exact h.elim
  ·exact h.elim
 ·rename_i q off n hc
  split at h
  ·rename_i x t h1 h2
   split at h
   ·rename_i e hu;exact⟨_,h,fun σ=>XX (mk1 hc h1 h2) hu⟩
   ·exact h.elim
  ·exact h.elim
 ·rename_i q n sz hc
  split at h
  ·rename_i x t h1 h2
   split at h
   ·rename_i e hu
    refine⟨_,h,fun σ=>BI (fun g us hr=>?_) (XX (q:=q) (off:=0) (mk1 hc h1 h2) hu)⟩
    rw[AH] at hr⊢
    obtain⟨u,e,hr⟩:=hr
    refine⟨u,e,?_⟩
    simp only[Av] at hr⊢
    obtain⟨k1,cap,k2,_,k3⟩:=hr
    exact⟨k1,cap,k2,k3⟩
   ·exact h.elim
  ·exact h.elim
 ·rename_i xs hc
  split at h
  ·rename_i x t h1 h2
   split at h
   ·rename_i hu;exact⟨_,h,fun σ=>Afu (mk1 hc h1 h2) hu⟩
   ·exact h.elim
  ·exact h.elim
 ·rename_i kd a ke b hc
  split at h
  ·rename_i x y h1
   obtain⟨e,h2⟩:=A4 h
   have e:=Ib e;subst e
   exact⟨_,h2,fun σ=>AhV (mk2 hc h1)⟩
  ·exact h.elim
 ·rename_i kd a ke b hc
  split at h
  ·rename_i x y h1
   obtain⟨e,h2⟩:=A4 h
   have e:=Ib e;subst e
   exact⟨_,h2,fun σ=>AhU (mk2 hc h1)⟩
  ·exact h.elim
 ·exact h.elim
noncomputable def AdM(P:x4)(t:yz)(ps:List (Nat×x5))(ds:List D)(s:Sc)(K:Sc->V->Prop):Prop:=match s with
 |.h .rn s=>(match sy P t,jd ps ds with
  |some (z,ay),some xs=>(match Gy (ay[·]?) z xs with
   |some out=>B9 out fun out=>K s (.agg out)
   |none=>False)
  |_,_=>False)
 |s=>(match VT P t,jd ps ds with
  |some (z,ay),some xs=>(match Gy (ay[·]?) z xs with
   |some out=>B9 out fun out=>K s (.agg out)
   |none=>False)
  |_,_=>False)
noncomputable def NJ(P:x4)(t:yz)(len:Nat)(ps:List (Nat×x5))(ds:List D)(K:List V->Prop):Prop:=match Ce P t with
 |some (_,sz,_,z)=>match len with
  |0=>match ps,ds with
   |[],[]=>K []
   |_,_=>False
  |len+1=>match D2 ds with
   |some xs=>cond (oa ps 0&&Nat.beq (I ps) (len+1)&&z.isSome&&Nat.blt 0 sz&&Nat.ble ((len+1)*sz) 1000&&ZL sz xs) (K xs) False
   |none=>False
 |none=>False
theorem Rg{P:x4}{t:yz}{len:Nat}{ps:Array (Nat×x5)}{ds:List D}{K:List V->Prop}(h:NJ P t len ps.toList ds K){o:yw}(ho:o.op=.buildSlice t len ps):∃xs,K xs/\∀σ,Ay P o ds σ (.v (.list xs)) σ:=by
 unfold NJ at h
 split at h
 ·rename_i e sz by' z hs
  split at h
  ·split at h
   ·rename_i hps
    exact⟨_,h,fun σ=>MA ho (by apply IV;simpa using hps) hs⟩
   ·exact h.elim
  ·rename_i len
   split at h
   ·rename_i xs hx
    obtain⟨h1,h2⟩:=A4 h
    simp only[HR] at h1
    obtain⟨⟨⟨⟨⟨g1,g2⟩,g3⟩,g4⟩,g5⟩,g6⟩:=h1
    have hl:ps.size=len+1:=by have:=Ir g2;simpa using this
    exact⟨_,h2,fun σ=>E5 ho (Rt g1) hl hs g3 (Gm hx) (Lu g6) (by omega) (Ix g4) (by simpa using g5)⟩
   ·exact h.elim
 ·exact h.elim
noncomputable def JR(P:x4)(t:yz)(x:D)(l h:Option (yt×Int))(K:V->Prop):Prop:=match x with
 |.v (.str s)=>match P.underlying t with
  |some .string=>o4 (I s) (l.map (·.2)) (h.map (·.2)) fun a b=>K (.str ((s.take b).drop a))
  |_=>False
 |.v (.list xs)=>match Ce P t with
  |some (_,sz,_,_)=>cond (Nat.blt 0 sz) ((∀x∈xs,x.size=sz)/\o4 (I xs) (l.map (·.2)) (h.map (·.2)) fun a b=>K (.list ((xs.take b).drop a))) False
  |none=>False
 |_=>False
noncomputable def W3(P:x4)(t:yz)(lo hi:Bool)(ds:List D)(K:V->Prop):Prop:=match lo,hi,ds with
 |false,false,[x]=>JR P t x none none K
 |true,false,[x,.v (.int kd i)]=>JR P t x (G (kd,i)) none K
 |false,true,[x,.v (.int kd i)]=>JR P t x none (G (kd,i)) K
 |true,true,[x,.v (.int kd i),.v (.int ke j)]=>JR P t x (G (kd,i)) (G (ke,j)) K
 |_,_,_=>False
theorem GC{P:x4}{t:yz}{x:D}{l h':Option (yt×Int)}{K:V->Prop}(h:JR P t x l h' K){o:yw}{xo:x5}{lo hi:Option x5}(ho:o.op=.slice t xo lo hi none)(h1:lo.isSome=l.isSome)(h2:hi.isSome=h'.isSome):
  ∃y,K y/\∀σ,Ay P o (x::(Gj l++Gj h')) σ (.v y) σ:=by
 unfold JR at h
 split at h
 ·split at h
  ·rename_i hu
   obtain⟨a,b,h3,hp⟩:=AdK h
   exact⟨_,h3,fun σ=>XQ ho hu l h' h1 h2 hp⟩
  ·exact h.elim
 ·split at h
  ·rename_i e sz by' z hs
   obtain⟨g1,g2,g3⟩:=A4 h
   obtain⟨a,b,h3,hp⟩:=AdK g3
   exact⟨_,h3,fun σ=>XR ho hs g2 (Ix g1) l h' h1 h2 hp⟩
  ·exact h.elim
 ·exact h.elim
theorem W2{P:x4}{t:yz}{lo hi:Option x5}{ds:List D}{K:V->Prop}(h:W3 P t lo.isSome hi.isSome ds K){o:yw}{xo:x5}(ho:o.op=.slice t xo lo hi none):
  ∃y,K y/\∀σ,Ay P o ds σ (.v y) σ:=by
 unfold W3 at h
 split at h
 ·rename_i e1 e2;exact GC h ho e1 e2
 ·rename_i e1 e2;exact GC h ho e1 e2
 ·rename_i e1 e2;exact GC h ho e1 e2
 ·rename_i e1 e2;exact GC h ho e1 e2
 ·exact h.elim
noncomputable def qc(xs:List V)(i:Int)(sz:Nat)(s:Sc)(K:Sc->V->Prop):Prop:=match s with
 |.h (.x y) s=>cond (Nat.beq y.size sz) (0<=i/\xs[i.toNat]?=G y/\K s y) False
 |.h (.xs y) s=>y.size=sz/\0<=i/\xs[i.toNat]?=G y/\K s y
 |_=>False
noncomputable def W9(P:x4)(t:yz)(x:V)(k:Prop):Prop:=match D3 P t,x with
 |some (1,false),.agg _=>False
 |some (1,false),_=>k
 |some (n,true),.agg cs=>cond (Nat.beq (I cs) n) k False
 |_,_=>False
theorem Aie{x:V}(h:∀cs,x=.agg cs->False):x.isAgg=O:=by cases x<;>first|rfl|exact(h _ rfl).elim
theorem W8{P:x4}{t:yz}{x:V}{k:Prop}(h:W9 P t x k){o:yw}{a:x5}(ho:o.op=.load t a):k/\∀σ,Ay P o [.v (.ref x)] σ (.v x) σ:=by
 unfold W9 at h
 split at h
 ·exact h.elim
 ·rename_i ht hx;exact⟨h,fun σ=>Fm ho ht (Aie hx)⟩
 ·rename_i n cs ht
  obtain⟨h1,h2⟩:=A4 h
  have:=Ir h1;subst this
  exact⟨h2,fun σ=>JD ho ht⟩
 ·exact h.elim
noncomputable def qe(P:x4)(o:yw)(ds:List D)(s:Sc)(K:Sc->D->Prop):Prop:=
 match o.op,ds with
 |.binOp op t a b _,[.v x,.v .nils]=>sa P op t b x fun z=>K s (.v z)
 |.binOp op t _ b _,[.rv _ (.slice ad _ _),.v .nils]=>s8 P op t b ad.isNone fun z=>K s (.v z)
 |.binOp op t _ _ _,[.v x,.v y]=>sb P op t x y fun z=>K s (.v z)
 |.unOp op _ _,[.v x]=>match qb op x with
  |some z=>K s (.v z)
  |none=>False
 |.convert st t _,[.v (.int _ n)]=>match P.underlying st,P.underlying t with
  |some _,some (.int kd)=>K s (.v (.int kd (kd.wrap n)))
  |_,_=>False
 |.extract _ i,[.tup xs]=>match xs[i]? with
  |some d=>K s d
  |none=>False
 |.nilCheck _,[.ptr q f]=>K s (.ptr q f)
 |.nilCheck _,[.v (.ref x)]=>K s (.v (.ref x))
 |.field st _ f,[.v (.agg cs)]=>p7 P st f cs fun y=>K s (.v y)
 |.fieldAddr st _ f,[.ptr q off]=>match Qr P st f with
  |some (fo,_+1,_)=>K s (.ptr q (Nat.add off fo))
  |_=>False
 |.fieldAddr st _ f,[.v (.ref (.agg cs))]=>p7 P st f cs fun y=>K s (.v (.ref y))
 |.indexAddr t _ _,[.v (.list xs),.v (.int _ i)]=>match Ce P t with
  |some (_,sz,_,_)=>qc xs i sz s fun s y=>K s (.v (.ref y))
  |none=>False
 |.indexAddr t _ _,[.arr q off len,.v (.int _ i)]=>match Ce P t with
  |some (_,sz,_,_)=>0<=i/\i<len/\K s (.ptr q (off+i.toNat*sz))
  |none=>False
 |.indexAddr t _ _,[.ptr q off,.v (.int _ i)]=>match km P t with
  |some (len,sz,_)=>0<=i/\i<len/\K s (.ptr q (off+i.toNat*sz))
  |none=>False
 |.indexAddr t _ _,[.v (.ref (.agg cs)),.v (.int _ i)]=>p6 P t cs i fun y=>K s (.v (.ref y))
 |.index t _ _,[.v (.str l),.v (.int _ i)]=>match P.underlying t with
  |some .string=>(match s with
   |.h (.y c) s=>0<=i/\l[i.toNat]?=G c/\K s (.v (vb c))
   |s=>∃c:UInt8,0<=i/\l[i.toNat]?=G c/\K s (.v (vb c)))
  |_=>False
 |.index t _ _,[.v (.agg cs),.v (.int _ i)]=>p6 P t cs i fun y=>K s (.v y)
 |.load t _,[.v (.ref x)]=>W9 P t x (K s (.v x))
 |.build t ps,ds=>AdM P t ps.toList ds s fun s x=>K s (.v x)
 |.buildSlice t len ps,ds=>NJ P t len ps.toList ds fun xs=>K s (.v (.list xs))
 |.makeFunc (.func f) fs _,ds=>match D2 ds with
  |some xs=>cond (Nat.ble fs.size (I xs)) (K s (.v (.fn f (xs.take fs.size) (xs.drop fs.size)))) False
  |none=>False
 |.slice t _ lo hi none,ds=>W3 P t lo.isSome hi.isSome ds fun x=>K s (.v x)
 |.call c,.v (.fn f fs cs)::ds=>match c.callee with
  |.value _=>qf P f fs cs ds s K
  |_=>False
 |.call c,ds=>NI P c ds fun x=>K s (.v x)
 |_,_=>False
theorem WC{P:x4}{st:yz}{f:Nat}{cs:List V}{K:V->Prop}(h:p7 P st f cs K):∃y fo n b,K y/\Qr P st f=G (fo,n,b)/\n≠0/\(b=O->n=1)/\Hd cs fo n b=G y:=by
 unfold p7 at h
 split at h
 ·rename_i fo hf;obtain⟨y,h1,h2⟩:=KY h;exact⟨y,fo,1,false,h1,hf,by simp,by simp,h2⟩
 ·rename_i fo n hf;obtain⟨y,h1,h2⟩:=KY h;exact⟨y,fo,n+1,true,h1,hf,by simp,by simp,h2⟩
 ·exact h.elim
theorem Ahn{xs:List V}{i:Int}{sz:Nat}{s:Sc}{K:Sc->V->Prop}(h:qc xs i sz s K):∃y s',K s' y/\y.size=sz/\0<=i/\xs[i.toNat]?=G y:=by
 unfold qc at h
 split at h
 ·obtain⟨h1,h2,h3,h4⟩:=A4 h
  exact⟨_,_,h4,Ir h1,h2,h3⟩
 ·exact⟨_,_,h.2.2.2,h.1,h.2.1,h.2.2.1⟩
 ·exact h.elim
theorem Aa4{P:x4}{o:yw}{ds:List D}{s:Sc}{K:Sc->D->Prop}(h:qe P o ds s K):U2 P o ds K:=by
 unfold qe at h
 split at h
 ·rename_i op t a b ty x ho
  obtain⟨z,h1,h2⟩:=AeI h ho
  exact .v h1 h2
 ·rename_i op t a b ty x ad l c ho
  obtain⟨z,h1,h2⟩:=AeH h ho
  exact .v h1 h2
 ·rename_i op t a b ty x y _ ho
  obtain⟨z,h1,h2⟩:=AeM h ho
  exact .v h1 h2
 ·rename_i op t a x ho
  split at h
  ·rename_i z hz;exact .v h fun σ=>AjW ho hz
  ·exact h.elim
 ·rename_i st t a kd n ho
  split at h
  ·rename_i d kd' h1 h2;exact .v h fun σ=>AbF ho h1 h2
  ·exact h.elim
 ·rename_i a i xs ho
  split at h
  ·rename_i d hd;exact⟨_,_,h,fun σ=>Va ho hd⟩
  ·exact h.elim
 ·rename_i a q f ho;exact⟨_,_,h,fun σ=>LQ ho⟩
 ·rename_i a x ho;exact .v h fun σ=>LP ho
 ·rename_i st a f cs ho
  obtain⟨y,fo,n,b,h1,h2,h3,h4,h5⟩:=WC h
  exact .v h1 fun σ=>AbE ho h2 h4 h5
 ·rename_i st a f q off ho
  split at h
  ·rename_i fo n b hf;exact⟨_,_,h,fun σ=>XZ ho hf (by simp)⟩
  ·exact h.elim
 ·rename_i st a f cs ho
  obtain⟨y,fo,n,b,h1,h2,h3,h4,h5⟩:=WC h
  exact .v h1 fun σ=>Fo ho h2 h3 h4 h5
 ·rename_i t a b xs kd i ho
  split at h
  ·rename_i e sz by' z hs
   obtain⟨y,s',h1,h2,h3,h4⟩:=Ahn h
   exact .v h1 fun σ=>Afw ho hs h3 h4 h2
  ·exact h.elim
 ·rename_i t a b q off len kd i ho
  split at h
  ·rename_i e sz by' z hs;exact⟨_,_,h.2.2,fun σ=>Afx ho hs h.1 h.2.1⟩
  ·exact h.elim
 ·rename_i t a b q off kd i ho
  split at h
  ·rename_i len sz bb hs;exact⟨_,_,h.2.2,fun σ=>AbD ho hs h.1 h.2.1⟩
  ·exact h.elim
 ·rename_i t a b cs kd i ho
  obtain⟨y,len,sz,bb,h1,h2,h3,h4,h5,h6⟩:=WB h
  exact .v h1 fun σ=>AbC ho h2 h3 h4 h5 h6
 ·rename_i t a b l kd i ho
  split at h
  ·rename_i hu
   split at h
   ·exact .v h.2.2 fun σ=>XY ho hu h.1 h.2.1
   ·obtain⟨c,h0,h1,h2⟩:=h
    exact .v h2 fun σ=>XY ho hu h0 h1
  ·exact h.elim
 ·rename_i t a b cs kd i ho
  obtain⟨y,len,sz,bb,h1,h2,h3,h4,h5,h6⟩:=WB h
  exact .v h1 fun σ=>Afv ho h2 h3 h4 h5 h6
 ·rename_i t a x ho
  obtain⟨h1,h2⟩:=W8 h ho
  exact .v h1 h2
 ·rename_i t ps ho
  unfold AdM at h
  split at h
  ·split at h
   ·rename_i z ay xs hb hx
    split at h
    ·rename_i out hf
     rw[Bz] at h
     exact .v h fun σ=>Yd ho hb (QW hx) hf
    ·exact h.elim
   ·exact h.elim
  ·split at h
   ·rename_i z ay xs hb hx
    split at h
    ·rename_i out hf
     rw[Bz] at h
     exact .v h fun σ=>SV ho hb (QW hx) hf
    ·exact h.elim
   ·exact h.elim
 ·rename_i t len ps ho
  obtain⟨y,h1,h2⟩:=Rg h ho
  exact .v h1 h2
 ·rename_i f fs cap ho
  split at h
  ·rename_i xs hx
   obtain⟨h1,h2⟩:=A4 h
   have hl:fs.size<=I xs:=by simpa using h1
   refine .v h2 fun σ=>BI (fun g us hr=>L9 hx hr) ?_
   have:=R7 (P:=P) (σ:=σ) ho (fs:=(xs.take fs.size).map .v) (cs:=(xs.drop fs.size).map .v) (by simp;omega) (Fu _) (Fu _)
   rw[←Jq,List.take_append_drop] at this
   exact this
  ·exact h.elim
 ·rename_i t a lo hi ho
  obtain⟨y,h1,h2⟩:=W2 h ho
  exact .v h1 h2
 ·rename_i c f fs cs ds ho
  split at h
  ·rename_i fo hc;exact Sw h ho hc
  ·exact h.elim
 ·rename_i c ho _
  obtain⟨y,h1,h2⟩:=Rf h ho
  exact .v h1 h2
 ·exact h.elim
end Go.Nv

namespace Go.Dv
open Go.IntKind (u64)
open Go.IntKind renaming wrap → yr, i64 → yq
open List renaming length → I, map → U, drop → W
open Option renaming some → G
open Bool renaming true → J, false → O
open Decidable renaming decide → Y
open Int renaming toNat → Z
open Go.Dv.V renaming list → ai, str → ae, agg → ab, int → aa, ref → bz, fn → bw, nils → bv, bool → bu
open Go.Dv.D renaming v → bt, acc → br, ptr → bq, arr → bo, gro → bm, tup → bl, undef → bk, dagg → bj
open Go.Dv.St renaming mk → bi
open Go.Dv.KI renaming blk → bh
open _root_.ByteArray renaming mk → bg
open Go renaming Operand → x5, Program → x4, TypeId → yz, World → yy, Value → yx, Oper → yw, FuncId → yv, Func → yu, IntKind → yt
theorem WI.addOwnP{E:co}{g:Gh}{σ:St}{w:yy}(hw:WI E g σ w){k sz:Nat}{xs:List V}{u:yx}(hk:∀x∈σ.own,x.1≠k)(hsz:0<sz/\∀x∈xs,x.size=sz)(hr:repV g.M (.list xs) u)(hp:Perm g.M w sz u)
  (hb:∀b,Cn u=G b->(E.w.heap.size<=b∨E.priv b)/\(∀i cs,σ.H[i]?=G (G cs)->g.β i≠b)/\∀x∈σ.own,∀u',g.ι x.1 (I x.2.2)=G u'->Cn u'≠G b):
  WI E { g with ι:=fun k' m=>if k'=k then(if m=I xs then G u else none) else g.ι k' m } ⟨σ.H,(k,sz,xs)::σ.own⟩ w/\
  g.le { g with ι:=fun k' m=>if k'=k then(if m=I xs then G u else none) else g.ι k' m }:=by
 have hle:g.le { g with ι:=fun k' m=>if k'=k then(if m=I xs then G u else none) else g.ι k' m }:=by
  refine⟨cg.le_refl _,HX _,fun _ _=>rfl,fun k' m u' h=>?_,fun _ _=>rfl⟩
  by_cases e:k'=k
  ·subst e;rw[hw.rep.fresh k' hk m] at h;simp at h
  ·simp only[Ij e];exact h
 have hold:∀x∈σ.own,(if x.1=k then(if I x.2.2=I xs then G u else none) else g.ι x.1 (I x.2.2))=g.ι x.1 (I x.2.2):=fun x hx=>Ij (hk x hx)
 refine⟨hw.update (fun _=>False) (fun _ h=>h.elim) (fun _ _ _=>⟨rfl,fun _=>rfl⟩) (cg.le_refl _) (HX _) (fun _ _=>rfl) (fun _ _=>rfl) (HX _) rfl rfl rfl ?_ hw.objs ?_,hle⟩
 ·refine⟨hw.rep.n,hw.rep.mem,fun i cs hi=>?_,hw.rep.inj,fun k' sz' xs' hx=>?_,?_,fun x hx y hy hne u1 u2 h1 h2 b hb1=>?_,fun x hx u1 h1 b hb1 i cs hi=>?_,fun k' hk' m=>?_,hw.rep.gl,hw.rep.gw⟩
  ·obtain⟨us,rest,e,h2,h3,h4,h5⟩:=hw.rep.obj i cs hi
   exact⟨us,rest,e,h2,Ar.mono hle _ _ h3,h4,h5⟩
  ·rcases I8.1 hx with e|hx
   ·simp only[Prod.mk.injEq] at e
    obtain⟨rfl,rfl,rfl⟩:=e
    refine⟨hsz,u,by simp,hr,hp,fun m hm=>?_⟩
    simp only[Jj];exact Ij (by omega)
   ·obtain⟨h0,u',hu,h3,h4,h5⟩:=hw.rep.own k' sz' xs' hx
    have hne:¬k'=k:=hk _ hx
    refine⟨h0,u',by simp only[Ij hne];exact hu,h3,h4,fun m hm=>by simp only[Ij hne];exact h5 m hm⟩
  ·simp only[Iu,List.nodup_cons]
   refine⟨fun h=>?_,hw.rep.tags⟩
   obtain⟨x,hx,e⟩:=IA.1 h
   exact hk x hx e
  ·rcases I8.1 hx with rfl|hx<;>rcases I8.1 hy with rfl|hy
   ·exact absurd rfl hne
   ·simp at h1;subst h1
    have h2':g.ι y.1 (I y.2.2)=G u2:=(hold y hy).symm.trans h2
    exact(hb b hb1).2.2 y hy u2 h2'
   ·simp at h2;subst h2
    have h1':g.ι x.1 (I x.2.2)=G u1:=(hold x hx).symm.trans h1
    intro hb2
    exact(hb b hb2).2.2 x hx u1 h1' hb1
   ·exact hw.rep.sep x hx y hy hne u1 u2 ((hold x hx).symm.trans h1) ((hold y hy).symm.trans h2) b hb1
  ·rcases I8.1 hx with rfl|hx
   ·simp at h1;subst h1
    exact(hb b hb1).2.1 i cs hi
   ·exact hw.rep.ownObj x hx u1 ((hold x hx).symm.trans h1) b hb1 i cs hi
  ·have hne:¬k'=k:=fun e=>hk' (k,sz,xs) (by simp) e.symm
   simp only[Ij hne]
   exact hw.rep.fresh k' (fun x hx=>hk' x (by simp[hx])) m
 ·intro x hx u1 h1 b hb1
  rcases I8.1 hx with rfl|hx
  ·simp at h1;subst h1
   exact(hb b hb1).1
  ·exact hw.owns x hx u1 ((hold x hx).symm.trans h1) b hb1
end Go.Dv
namespace Go.Nv
open Go.Dv
open Go.IntKind (u64)
open Go.IntKind renaming wrap → yr, i64 → yq
open List renaming length → I, map → U, drop → W
open Option renaming some → G
open Bool renaming true → J, false → O
open Decidable renaming decide → Y
open Int renaming toNat → Z
open Go.Dv.V renaming list → ai, str → ae, agg → ab, int → aa, ref → bz, fn → bw, nils → bv, bool → bu
open Go.Dv.D renaming v → bt, acc → br, ptr → bq, arr → bo, gro → bm, tup → bl, undef → bk, dagg → bj
open Go.Dv.St renaming mk → bi
open Go.Dv.KI renaming blk → bh
open _root_.ByteArray renaming mk → bg
open Go renaming Operand → x5, Program → x4, TypeId → yz, World → yy, Value → yx, Oper → yw, FuncId → yv, Func → yu, IntKind → yt
section
variable {P : x4} {o : yw} {σ : St}
theorem Vf{x y:x5}{t tn:yz}(ho:o.op=.call { callee:=.builtin .append,args:= #[x,y],argTypes:= #[t,tn]}){e:yz}{sz by':Nat}{z:yx}(hs:Ce P t=G (e,sz,by',G z))(hzc:z.cells.size=sz)(h0:0<sz){kn:yt}(htn:P.underlying tn=G (.int kn))
  {kd:yt} {n:Int} (hn:0<n) (hlen:n.toNat*by'<=140737488355328) (hlen2:n.toNat<=140737488355328):
  Ay P o [.v .nils,.v (.int kd n)] σ (.gro (I σ.H) n.toNat sz) ⟨σ.H++[G []],σ.own⟩:=by
 intro E g a w K Q hw hds hK
 simp only[ho,Op.operands,Call.operands] at hds
 obtain⟨u,v,eq,hu,hv⟩:=A8.1 (by simpa using hds)
 simp only[Ie,I6] at eq
 simp only[Av,C4,AM] at hu hv
 subst hu hv
 obtain⟨m,rfl⟩:∃m:Nat,n=m:=⟨n.toNat,by omega⟩
 simp only[Ji] at hlen hlen2 hK⊢
 obtain⟨i,ht,hi,hisz,hib,hiz⟩:=AK hs
 have hrun:=Lib.run_append_nil_zeros (P:=P) w t tn o.type e i z kd kn ht htn hi hiz m (by omega) (by omega) (by omega) (by rw[hib];omega)
 have hge:=grownCap_ge w m 0 e
 generalize hcs:Builtin.zeroCells z.cells m++Builtin.zeroCells z.cells (grownCap w m 0 e-m)=cs at hrun
 have hsize:cs.size=grownCap w m 0 e*sz:=by
  rw[←hcs]
  simp only[Array.size_append,size_zeroCells,hzc, ←Jm]
  congr 1;omega
 obtain⟨g',h3,h4,h5',h6',h7⟩:=hw.drew.newObjR (us:=[]) (rest:=cs.toList) (cs:=[]) e (by simp[Ar]) (by simp)
 have hd:Av g' (.gro (I σ.H) m sz) (.slice (G ⟨w.heap.size,0,none⟩) m (grownCap w m 0 e)):=by
  simp only[Av]
  refine⟨by omega,_,hge,?_,by rw[h5'];rfl⟩
  rw[h6'];simp[hsize]
 have hcell:(([]:List yx)++cs.toList).toArray=cs:=by simp
 rw[hcell] at h3
 have:=hK g' _ _ h3 h4 hd
 unfold Oper.wp execOp
 simp only[ho,resolve,invoke,builtin,Sem.run_bind,Sem.run_pure,Result.andThen_ok,List.map_toArray,Iu,IP,eq.1,eq.2,hrun]
 exact this
theorem UZ{t:yz}{x hx:x5}(ho:o.op=.slice t x none (G hx) none){e:yz}{sz by':Nat}{z:Option yx}(hs:Ce P t=G (e,sz,by',z))(h0:0<sz){q len:Nat}{cs:List D}(hq:σ.H[q]?=G (G cs)){kd:yt}(k:Nat)(hk:∀x∈σ.own,x.1≠k):
  Ay P o [.gro q len sz,.v (.int kd 0)] σ (.acc k []) ⟨σ.H.set q none,(k,sz,[])::σ.own⟩:=by
 intro E g a w K Q hw hds hK
 simp only[ho,Op.operands] at hds
 obtain⟨u,v,eq,h1,h2⟩:=A8.1 (by simpa using hds)
 simp only[Ie,I6] at eq
 simp only[Av,AM] at h1 h2
 subst h2
 obtain⟨hqn,cap,hcap,hκ,rfl⟩:=h1
 obtain⟨i,hu,hi',hsz,_,_⟩:=AK hs
 obtain⟨us,rest,et,hb,hr,hone,hM,hkk⟩:=hw.rep.obj q cs hq
 have hrep:repV g.M (.list []) (.slice (G ⟨g.β q,0,none⟩) 0 cap):=by rw[B3];exact⟨_,cap,rfl,I3 _,.inl rfl⟩
 obtain⟨hw2,hle⟩:=(hw.kill hq).addOwnP (k:=k) (sz:=sz) (xs:=[]) (u:=.slice (G ⟨g.β q,0,none⟩) 0 cap) hk ⟨h0,by simp⟩ hrep
  (.inr ⟨g.β q,0,0,cap,_,et,rfl,hb,I3 _,by rw[IC];simp only[Jp];rw[hkk, ←hκ];exact HX _,fun o _=>hM o,hw.rep.obj_ng hq⟩) (fun b hb'=>by
   simp only[Cn] at hb'
   split at hb'
   ·simp at hb'
   ·simp at hb';subst hb'
    refine⟨hw.objs q cs hq,fun i c hi=>?_,fun x hx u' hu' hb2=>hw.rep.ownObj x hx u' hu' _ hb2 q cs hq rfl⟩
    obtain⟨hne,hi2⟩:=GE hi
    exact fun e=>hne (hw.rep.inj i q _ _ hi2 hq e))
 have:=hK _ _ (.slice (G ⟨g.β q,0,none⟩) 0 cap) hw2 hle (by simp only[Av];exact⟨hrep,by simp⟩)
 have hbr:=Fy (P:=P) w true len cap hcap none (G (kd,0)) (l':=0) (h':=0) (by simp[Cf])
 unfold Oper.wp execOp
 simp only[ho,eq.1,eq.2,J4,IT,Instr.sliceAt,Instr.slice,Sem.run_bind,run_underlying hu,Result.andThen_ok]
 simp only[J4,IT] at hbr
 rw[hbr]
 simp only[Result.andThen_ok,sizeOf,typeInfo,hi',Sem.run_pure,Sem.run_bind]
 by_cases hc0:cap=0
 ·subst hc0;simpa[Addr.add_lit,Oper.upon,hi'] using this
 ·simpa[hc0,Addr.add_lit,Oper.upon,hi',show ¬0=cap by omega] using this
theorem Vb{x:x5}{t:yz}(ho:o.op=.call { callee:=.builtin .cap,args:= #[x],argTypes:= #[t]}){e:yz}(ht:P.underlying t=G (.slice e)):Ay P o [.v .nils] σ (.v (.int .i64 0)) σ:=by
 refine AA fun E g ρ w hw hds=>?_
 simp only[ho,Op.operands,Call.operands,AH] at hds
 obtain⟨u,e,h1⟩:=hds
 simp at e
 simp only[Av,C4] at h1
 subst h1
 exact⟨_,by simp[execOp,ho,e,resolve,invoke,builtin,Builtin.cap_,run_underlying ht,goInt];rfl,by simp[Av]⟩
theorem PY{t:yz}{x hx:x5}(ho:o.op=.slice t x none (G hx) none){e:yz}(hu:P.underlying t=G (.slice e)){inf:TypeInfo}(hi:P.info? e=G inf){kd:yt}:Ay P o [.v .nils,.v (.int kd 0)] σ (.v .nils) σ:=by
 refine AA fun E g ρ w hw hds=>?_
 simp only[ho,Op.operands] at hds
 obtain⟨u,v,eq,h1,h2⟩:=A8.1 (by simpa using hds)
 simp only[Ie,I6] at eq
 simp only[Av,AM,C4] at h1 h2
 subst h1 h2
 have hbr:=Fy (P:=P) w true 0 0 (HX _) none (G (kd,0)) (l':=0) (h':=0) (by simp[Cf])
 simp only[J4,IT] at hbr
 refine⟨.slice none 0 0,?_,by simp[Av]⟩
 simp only[execOp,ho,eq.1,eq.2,J4,IT,Instr.sliceAt,Instr.slice,Sem.run_bind,run_underlying hu,Result.andThen_ok]
 rw[hbr]
 simp[sizeOf,typeInfo,hi]
end
def kh:List (Nat×x5)->List D->Option (List (Nat×D))
 |[],[]=>G []
 |p::ps,d::ds=>match kh ps ds with
  |some xs=>G ((p.1,d)::xs)
  |none=>none
 |_,_=>none
def Vw(ay:List (Nat×Nat)):List D->List (Nat×D)->Option (List D)
 |cells,[]=>G cells
 |cells,p::xs=>match ay[p.1]? with
  |some (off,size)=>cond (p.2.sto&&Nat.beq (I (BK p.2)) size&&Nat.ble (off+size) (I cells)) (Vw ay (cells.take off++BK p.2++cells.drop (off+size)) xs) none
  |none=>none
theorem dj{g:Gh}:∀{ds:List D} {us:List yx},Ar g ds us->I us=I ds
 |[],us,h=>by simp only[Ar] at h;simp[h]
 |d::ds,us,h=>by
  simp only[Ar] at h
  obtain⟨u,us',rfl,_,h⟩:=h
  simp[dj h]
theorem LK{g:Gh}:∀{ds es:List D} {us vs:List yx},Ar g ds us->Ar g es vs->Ar g (ds++es) (us++vs)
 |[],es,us,vs,h,h2=>by simp only[Ar] at h;subst h;exact h2
 |d::ds,es,us,vs,h,h2=>by
  simp only[Ar] at h
  obtain⟨u,us',rfl,h1,h⟩:=h
  simp only[J7,Ar]
  exact⟨u,us'++vs,rfl,h1,LK h h2⟩
theorem SB{g:Gh}:∀{ds:List D} {us:List yx} (n:Nat),Ar g ds us->Ar g (ds.take n) (us.take n)
 |ds,us,0,_=>by simp[Ar]
 |[],us,n+1,h=>by simp only[Ar] at h;subst h;simp[Ar]
 |d::ds,us,n+1,h=>by
  simp only[Ar] at h
  obtain⟨u,us',rfl,h1,h⟩:=h
  simp only[List.take_succ_cons,Ar]
  exact⟨u,us'.take n,rfl,h1,SB n h⟩
theorem SC{g:Gh}:∀{ds:List D} {us:List yx} (n:Nat),Ar g ds us->Ar g (ds.drop n) (us.drop n)
 |ds,us,0,h=>by simpa using h
 |[],us,n+1,h=>by simp only[Ar] at h;subst h;simp[Ar]
 |d::ds,us,n+1,h=>by
  simp only[Ar] at h
  obtain⟨u,us',rfl,h1,h⟩:=h
  simp only[List.drop_succ_cons]
  exact SC n h
theorem Qu{g:Gh}{a:Act}{ay:List (Nat×Nat)}:∀{ps:List (Nat×x5)} {ds:List D} {xs:List (Nat×D)} {cells out:List D} {cu:Array yx},kh ps ds=G xs->Ar g ds (ps.map fun p=>a.eval p.2)->Ar g cells cu.toList->Vw ay cells xs=G out->
  ∃U,Instr.fill (ay[·]?) cu (ps.map fun p=>(p.1,a.eval p.2))=G U/\Ar g out U.toList
 |[],[],xs,cells,out,cu,hx,_,hc,hf=>by
  simp[kh] at hx;subst hx
  simp[Vw] at hf;subst hf
  exact⟨cu,rfl,hc⟩
 |[],_::_,xs,cells,out,cu,hx,_,hc,hf=>by simp[kh] at hx
 |_::_,[],xs,cells,out,cu,hx,_,hc,hf=>by simp[kh] at hx
 |p::ps,d::ds,xs,cells,out,cu,hx,hds,hc,hf=>by
  simp only[kh] at hx
  split at hx
  ·rename_i ys hys
   simp at hx;subst hx
   simp only[Iu,Ar] at hds
   obtain⟨u,us',e,h1,h2⟩:=hds
   simp at e
   obtain⟨rfl,rfl⟩:=e
   simp only[Vw] at hf
   split at hf
   ·rename_i off size hp
    cases hcd:(d.sto&&Nat.beq (I (BK d)) size&&Nat.ble (off+size) (I cells)) with
    |false=>rw[hcd] at hf;simp at hf
    |true=>
     rw[hcd] at hf
     simp only[cond_true] at hf
     simp only[HR] at hcd
     obtain⟨⟨c1,c2⟩,c3⟩:=hcd
     have c2:=Ir c2
     have c3:=Ix c3
     obtain⟨r1,r2,r3⟩:=cells_rep c1 h1
     have hl:cu.size=I cells:=by rw[←I5];exact dj hc
     have hs:(a.eval p.2).cells.size=size:=by rw[←I5,dj r1,c2]
     have hsp:=Xh off (a.eval p.2).cells.toList cu (by simp only[I5];omega)
     simp only[I5,hs] at hsp
     have hc':Ar g (cells.take off++BK d++cells.drop (off+size)) (((a.eval p.2).cells.toList.zipIdx 0).foldl (fun cs (x:yx×Nat)=>cs.setIfInBounds (off+x.2) x.1) cu).toList:=by
      rw[hsp]
      exact LK (LK (SB off hc) r1) (SC (off+size) hc)
     obtain⟨U,hU,hrU⟩:=Qu hys h2 hc' hf
     refine⟨U,?_,hrU⟩
     simp only[Iu]
     unfold Instr.fill
     simp only[hp,hs]
     rw[Ij (by simp;omega), ←hU]
     congr 1
     rw[←Array.foldl_toList,Array.toList_zipIdx]
   ·simp at hf
  ·simp at hx
section
variable {P : x4} {o : yw} {σ : St}
def OH(P:x4)(t:yz):Bool:=match P.underlying t with
 |some (.struct _)=>true
 |_=>false
theorem Ye{t:yz}{parts:Array (Nat×x5)}(ho:o.op=.build t parts){z:List V}{ay:List (Nat×Nat)}(hst:OH P t=J)(hb:VT P t=G (z,ay)){ds:List D}{xs:List (Nat×D)}{out:List D}
  (hx:kh parts.toList ds=G xs) (hf:Vw ay (z.map .v) xs=G out):Ay P o ds σ (.dagg out) σ:=by
 intro E g a w K Q hw hds hK
 simp only[ho,Op.operands] at hds
 unfold VT at hb
 unfold OH at hst
 have key:∃U,P.built t (parts.toList.map fun p=>(p.1,a.eval p.2))=G U/\Ar g out U.toList:=by
  cases hz:Wp P t with
  |none=>simp[hz] at hb
  |some z0=>
   obtain⟨i,zv,hi,hz1,hcv⟩:=Lv hz
   cases hu:P.underlying t with
   |none=>simp[hz,hu] at hb
   |some dd=>
    cases dd<;>simp only[hz,hu,reduceCtorEq] at hb hst
    case struct fs=>
     cases hp:fs.toList.mapM (fun f=>(P.info? f.type).map fun i=>(f.offset,i.size)) with
     |none=>simp[hp] at hb
     |some pl=>
      simp[hp] at hb
      obtain⟨rfl,rfl⟩:=hb
      obtain⟨U,hU,hrU⟩:=Qu (a:=a) hx (by simpa[Function.comp_def] using hds) (D9 (FV (M:=g.M) hcv)).1 hf
      exact⟨U,by simpa[Program.built,hi,hu,hz1,hp] using hU,hrU⟩
 obtain⟨U,hU,hrU⟩:=key
 have:=hK g w (.agg U) hw g.le_refl (by simp only[Av];exact⟨U.toList,by simp,hrU⟩)
 have hrun:=run_build (P:=P) w t (parts.map fun p=>(p.1,a.eval p.2)) U (by simpa using hU)
 unfold Oper.wp execOp
 simp only[ho]
 simp only[Sem.run_bind]
 rw[show(parts.map fun(x:Nat×x5)=>match x with|(i,x)=>(i,a.eval x))=parts.map fun p=>(p.1,a.eval p.2) from rfl,hrun]
 exact this
end
end Go.Nv

namespace Go.Dv
open List (replicate)
open Go.IntKind (u64)
open Go.IntKind renaming wrap → yr, i64 → yq
open List renaming length → I, map → U, drop → W
open Option renaming some → G
open Bool renaming true → J, false → O
open Decidable renaming decide → Y
open Int renaming toNat → Z
open Go.Dv.V renaming list → ai, str → ae, agg → ab, int → aa, ref → bz, fn → bw, nils → bv, bool → bu
open Go.Dv.D renaming v → bt, acc → br, ptr → bq, arr → bo, gro → bm, tup → bl, undef → bk, dagg → bj
open Go.Dv.St renaming mk → bi
open Go.Dv.KI renaming blk → bh
open _root_.ByteArray renaming mk → bg
open Go renaming Operand → x5, Program → x4, TypeId → yz, World → yy, Value → yx, Oper → yw, FuncId → yv, Func → yu, IntKind → yt
section
variable {P : x4} {o : yw} {σ : St}
theorem XU{t:yz}{a:x5}(ho:o.op=.load t a){n:Nat}(ht:Sf P t n){q off:Nat}{cs:List D}(hH:σ.H[q]?=G (G cs))(hn:off+n<=I cs){ds:List D}(hd:(cs.drop off).take n=ds):Ay P o [.ptr q off] σ (.dagg ds) σ:=by
 subst hd
 refine AA fun E g ρ w hw hds=>?_
 simp only[ho,Op.operands,AH] at hds
 obtain⟨u,e,h1⟩:=hds
 simp at e
 simp only[Av] at h1
 obtain⟨_,rfl⟩:=h1
 obtain⟨us,rest,et,hb,hr,h1,_⟩:=hw.rep.obj q cs hH
 have hra:=Cr (Cu hr off) n
 have hl:I us=I cs:=AF hr
 have hld:=run_loadCells_list (P:=P) w ⟨g.β q,off,none⟩ ((us.drop off).take n) (fun j v hj=>by
  rw[Jw] at hj
  split at hj
  ·rw[List.getElem?_drop] at hj
   rw[Addr.add_lit]
   simp only[World.cell?,hb,IW];exact Df hj
  ·simp at hj)
 have hlen:I ((us.drop off).take n)=n:=by simp;omega
 rw[hlen] at hld
 refine⟨.agg ((us.drop off).take n).toArray,?_,by simp only[Av];exact⟨_,rfl,hra⟩⟩
 simp only[execOp,ho,e,Instr.loadAt,Instr.sureAddr,loadVar,Sem.run_bind,Sem.run_pure,Result.andThen_ok,CX ht,cd ht,hld,Jj]
end
theorem Mg{α:Type}(l:List α):∀(n i:Nat),i<n*I l->(replicate n l).flatten[i]?=l[i%l.length]?
 |0,i,h=>by simp at h
 |n+1,i,h=>by
  rw[IL,Jx]
  by_cases hi:i<I l
  ·rw[Ip hi,Nat.mod_eq_of_lt hi]
  ·rw[Il (by omega),Mg l n (i-I l) (by rw[Jm] at h;omega),Nat.mod_eq_sub_mod (a:=i) (by omega)]
theorem FS{α:Type}(l:List α):∀n:Nat,(replicate n l).flatten.length=n*I l
 |0=>by simp
 |n+1=>by rw[IL,Jx,Ig,FS l n,Jm];omega
theorem KN(z:Array yx)(n:Nat):madeCells z (n*z.size)=(replicate n z.toList).flatten.toArray:=by
 apply Array.ext_getElem?
 intro i
 by_cases hi:i<n*z.size
 ·have hz:0<z.size:=by
   rcases Nat.eq_zero_or_pos z.size with h|h
   ·rw[h] at hi;simp at hi
   ·exact h
  have hm:=Nat.mod_lt i hz
  have h1:=Mg z.toList n i (by rw[I5];exact hi)
  have h2:(replicate n z.toList).flatten.toArray[i]?=(replicate n z.toList).flatten[i]?:=by simp
  rw[h2,h1,I5,J2,Array.getElem?_eq_getElem hm]
  simp[madeCells,hi,hm]
 ·rw[Array.getElem?_eq_none (by rw[size_madeCells];omega),Array.getElem?_eq_none (by simp only[Jp,FS,I5];omega)]
section
variable {P : x4} {o : yw} {σ : St} {d : D}
theorem Ab9{t:yz}{x y:x5}(ho:o.op=.makeSlice t x y){e:yz}{sz by':Nat}{z:yx}(hs:Ce P t=G (e,sz,by',G z)){zs:List V}(hz:Fh z.cells.toList=G zs)(hzc:z.cells.size=sz){k1 k2:yt}{n:Int}(h0:0<=n)(hn:(by':Int)*n<=281474976710656)(hn2:n<=9223372036854775807):
  Ay P o [.v (.int k1 0),.v (.int k2 n)] σ (.gro (I σ.H) 0 sz) ⟨σ.H++[G ((replicate n.toNat zs).flatten.map .v)],σ.own⟩:=by
 intro E g a w K Q hw hds hK
 simp only[ho,Op.operands,A8] at hds
 obtain⟨u,v,eq,h1',h2⟩:=hds
 simp only[Iu,IP,Ie,I6] at eq
 obtain⟨e1,e2⟩:=eq
 simp only[Av,AM] at h1' h2
 subst h1' h2
 obtain⟨i,hu,hi,hsz,hby,hzz⟩:=AK hs
 have hrun:=run_make (P:=P) w t e i z hu hi hzz k1 k2 0 n (Iv _) h0 (by rw[hby];exact hn) hn2
 rw[hsz, ←hzc,KN] at hrun
 obtain⟨hr1,ho1⟩:=D9 (g:=g) (EF (M:=g.M) hz)
 have hr:∀m,Ar g ((replicate m zs).flatten.map .v) (replicate m z.cells.toList).flatten/\∀c∈ (replicate m zs).flatten.map bt,c.one=J:=by
  intro m
  induction m with
  |zero=>simp[Ar]
  |succ m ih=>
   simp only[IL,Jx,Jq]
   refine⟨A7 hr1 ih.1,fun c hc=>?_⟩
   rcases IE.1 hc with h|h
   ·exact ho1 c h
   ·exact ih.2 c h
 obtain⟨g',hw',hle,hβ,hκ,hn'⟩:=hw.newObjR (us:=(replicate n.toNat z.cells.toList).flatten) (rest:=[]) e (hr n.toNat).1 (hr n.toNat).2
 rw[IG] at hw' hκ
 have:=hK g' _ (.slice (G ⟨w.heap.size,0,none⟩) 0 n.toNat) hw' hle (by
  simp only[Av]
  exact⟨by omega,n.toNat,I3 _,by rw[hκ,FS,I5,hzc],by rw[hβ]⟩)
 unfold Oper.wp execOp
 simp only[ho,e1,e2,Sem.run_bind,hrun,Result.andThen_ok]
 exact this
theorem R8{x y:x5}{t:yz}(ho:o.op=.call { callee:=.builtin .append,args:= #[x,y],argTypes:= #[t,t]}){e:yz}{sz by':Nat}{z:Option yx}(hs:Ce P t=G (e,sz,by',z))(hsz:0<sz)
  {q len:Nat} {cs:List D} {ys:List V} (hq:σ.H[q]?=G (G cs)) (hroom:(len+I ys)*sz<=I cs) (hys:∀y∈ys,y.size=sz) (hpos:ys≠ []):
  Ay P o [.gro q len sz,.v (.list ys)] σ (.gro q (len+I ys) sz) ⟨σ.H.set q (G (cs.take (len*sz)++Ad ys++cs.drop (len*sz+I (Ad ys)))),σ.own⟩:=by
 intro E g a w K Q hw hds hK
 simp only[ho,Op.operands,Call.operands] at hds
 obtain⟨u,v,eq,hu,hv⟩:=A8.1 (by simpa using hds)
 simp only[Ie,I6] at eq
 simp only[Av] at hu hv
 obtain⟨hqn,cap,hcap,hκ,rfl⟩:=hu
 obtain⟨ad,cap2,rfl,hc2,hor⟩:=Cd hv hys hsz
 rcases hor with h|⟨b,off,vs,rfl,hin,hE⟩
 ·exact absurd h hpos
 obtain⟨h5,h6⟩:=F2 hE
 obtain⟨i,ht,hi,hisz,hib,hiz⟩:=AK hs
 obtain⟨us,rest,et,hb,hr,h1,hM,hκ1⟩:=hw.rep.obj q cs hq
 have hul:I us=I cs:=AF hr
 have hvl0:I vs=I ys*sz:=Cj hE
 have hvl:I vs=I ys*i.size:=by rw[hvl0,hisz]
 have hfl:I (Ad ys)=I vs:=(AF h5).symm
 rw[Jm] at hroom
 have hroom':len+I ys<=cap:=by
  have:(len+I ys)*sz<=cap*sz:=by rw[hκ, ←hκ1,Ig,Jm];omega
  exact Nat.le_of_mul_le_mul_right this hsz
 have hone:∀u∈vs,u.oneCell'=J:=Ct h6 h5
 have hfit:len*i.size+I vs<=(us++rest).toArray.size:=by
  rw[Jp,Ig,hisz];omega
 have hrun:=dy (P:=P) w t o.type e et i ht hi (g.β q) len cap (us++rest).toArray hb ⟨b,off,none⟩ (I ys) cap2 vs hvl (Ex hw hin) hone hroom' hfit
 have hrow:(us++rest).toArray.toList.take (len*i.size)++vs++(us++rest).toArray.toList.drop (len*i.size+I vs)=(us.take (len*sz)++vs++us.drop (len*sz+I vs))++rest:=by
  simp only[hisz]
  rw[J0 (by omega),List.drop_append_of_le_length (by omega)]
  simp
 rw[hrow] at hrun
 have hw1:=hw.setObj (cs':=cs.take (len*sz)++Ad ys++cs.drop (len*sz+I (Ad ys))) (w':=w.setRow (g.β q) ((us.take (len*sz)++vs++us.drop (len*sz+I vs))++rest).toArray) hq (us:=us.take (len*sz)++vs++us.drop (len*sz+I vs)) (rest:=rest) (e:=et) (setRow_heap w _ _ _ et _ hb)
  (by rw[←hκ1];simp only[Ig,Iy,IY];omega)
  (A7 (A7 (Cr hr _) h5) (by rw[hfl];exact Cu hr _))
  (fun c hc=>by
   rcases IE.1 hc with h|h
   ·rcases IE.1 h with h|h
    ·exact h1 c (Jr h)
    ·exact h6 c h
   ·exact h1 c (II h)) (fun b hb=>setRow_other w _ _ _ hb) (by simp) rfl rfl rfl
 have:=hK g _ (.slice (G ⟨g.β q,0,none⟩) (len+I ys) cap) hw1 (Gh.le_refl g) (by simp only[Av];exact⟨hqn,cap,hroom',hκ,rfl⟩)
 unfold Oper.wp execOp
 simp only[ho,resolve,invoke,builtin,Sem.run_bind,Sem.run_pure,Result.andThen_ok,List.map_toArray,Iu,IP,eq.1,eq.2,hrun]
 exact this
end
end Go.Dv
