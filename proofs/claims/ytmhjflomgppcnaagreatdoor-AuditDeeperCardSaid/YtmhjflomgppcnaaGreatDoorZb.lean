/-
  A part of the proof.
-/
import Derived.Test.YtmhjflomgppcnaaGreatDoorZa
import Derived.Laws.CopyRow
import Derived.Lib.AppendZeros
namespace Go.Dv
open List (ext_getElem? getElem?_set length_pos_iff length_set map_map map_take replicate take_left)
open Go.IntKind (wrap i64 u64)
abbrev Ef:=Bool×Option Nat
def Tg(ops:Array Oper)(i f:Nat):Bool:=((Ep [] ops.toList).getD i 0).testBit f
inductive Fy (P:Program) (ops:Array Oper) (sts:Bool->List St) (fr:Nat):List Oper->List D->Nat->List D->List Ef->List D->Nat->Prop
 |nil {env:List D} {j:Nat}:Fy P ops sts fr [] env j [] [] env j
 |skip {o:Oper} {rest:List Oper} {env env':List D} {j j':Nat} {vals:List D} {effs:List Ef} (hne:ops.size- (rest.length+1)≠fr) (hw:BM env ops o=some false) (h:Fy P ops sts fr rest (AN env o.dst (.tup [])) j vals effs env' j'):
   Fy P ops sts fr (o::rest) env j (.tup []::vals) ((false,none)::effs) env' j'
 |quiet {o:Oper} {rest:List Oper} {env env':List D} {j j':Nat} {vals:List D} {effs:List Ef} {d:D} (hne:ops.size- (rest.length+1)≠fr) (hw:BM env ops o=some true) (ho:∀b,∀s∈sts b,Ah P o (Ek env o) s d s) (h:Fy P ops sts fr rest (AN env o.dst d) j vals effs env' j'):
   Fy P ops sts fr (o::rest) env j (d::vals) ((false,none)::effs) env' j'
 |eff {o:Oper} {rest:List Oper} {env env':List D} {j j':Nat} {vals:List D} {effs:List Ef} {d:D} (hne:ops.size- (rest.length+1)≠fr) (hw:BM env ops o=some true) (ho:∀b s,(sts b)[j]?=some s->(b=false->Tg ops (ops.size- (rest.length+1)) fr=false)->∃s',(sts b)[j+1]?=some s'/\Ah P o (Ek env o) s d s')
   (h:Fy P ops sts fr rest (AN env o.dst d) (j+1) vals effs env' j'):Fy P ops sts fr (o::rest) env j (d::vals) ((true,none)::effs) env' j'
 |quietW {o:Oper} {rest:List Oper} {env env':List D} {j j':Nat} {vals:List D} {effs:List Ef} {d:D} (lim:Nat) (hne:ops.size- (rest.length+1)≠fr) (hw:BM env ops o=some true) (ho:∀(b:Bool) (c:Nat) (s:St),c<=lim->(sts b)[c]?=some s->Ah P o (Ek env o) s d s) (h:Fy P ops sts fr rest (AN env o.dst d) j vals effs env' j'):
   Fy P ops sts fr (o::rest) env j (d::vals) ((false,some lim)::effs) env' j'
 |free {o:Oper} {rest:List Oper} {env env':List D} {j j':Nat} {vals:List D} {effs:List Ef} {d:D} (hf:fr=ops.size- (rest.length+1)) (hw:BM env ops o=some true) (ho:∀(c:Nat) (s:St),(sts false)[c]?=some s->∃s',(sts true)[c]?=some s'/\Ah P o (Ek env o) s d s') (h:Fy P ops sts fr rest (AN env o.dst d) j vals effs env' j'):
   Fy P ops sts fr (o::rest) env j (d::vals) ((false,none)::effs) env' j'
def A9:List Oper->List D->List Ef->List It
 |o::os,d::ds,b::bs=>(o.dst,d,b.1)::A9 os ds bs
 |_,_,_=>[]
def G9(items:List It)(env0:List D):List D:=items.foldl (fun e it=>AN e it.1 it.2.1) env0
def Qv(items:List It):Nat:=items.foldl (fun c it=>if it.2.2 then c+1 else c) 0
theorem FE(items:List It)(it:It)(env0:List D):G9 (items++[it]) env0=AN (G9 items env0) it.1 it.2.1:=by simp[G9]
theorem FF(items:List It)(it:It):Qv (items++[it])=Qv items+if it.2.2 then 1 else 0:=by simp[Qv];split<;>rfl
def Ajd(P:Program)(ops:Array Oper)(sts:Bool->List St)(fr:Nat)(items:List It)(lims:List Ef)(env0:List D)(i:Nat)(o:Oper):Prop:=
 ∃d b,items[i]?=some (o.dst,d,b)/\
  ((BM (G9 (items.take i) env0) ops o=some false/\d=.tup []/\b=false/\i≠fr)∨
   (BM (G9 (items.take i) env0) ops o=some true/\b=false/\i≠fr/\∀(b:Bool) (c:Nat) (s:St),(sts b)[c]?=some s->(∀lim,(lims[i]?).bind (·.2)=some lim->c<=lim)->Ah P o (Ek (G9 (items.take i) env0) o) s d s)∨
   (BM (G9 (items.take i) env0) ops o=some true/\b=true/\i≠fr/\∀bb s,(sts bb)[Qv (items.take i)]?=some s->(bb=false->Tg ops i fr=false)->∃s',(sts bb)[Qv (items.take i)+1]?=some s'/\Ah P o (Ek (G9 (items.take i) env0) o) s d s')∨
   (BM (G9 (items.take i) env0) ops o=some true/\b=false/\i=fr/\∀(c:Nat) (s:St),(sts false)[c]?=some s->∃s',(sts true)[c]?=some s'/\Ah P o (Ek (G9 (items.take i) env0) o) s d s'))
theorem Fy.facts{P:Program}{ops:Array Oper}{sts:Bool->List St}{fr:Nat}{rest:List Oper}{env env':List D}{j j':Nat}{vals:List D}{effs:List Ef}(h:Fy P ops sts fr rest env j vals effs env' j'):
  ∀(pre:List It) (pe:List Ef) (env0:List D),pe.length=pre.length->pre.length+rest.length=ops.size->env=G9 pre env0->j=Qv pre->
   (∀k o,rest[k]?=some o->Ajd P ops sts fr (pre++A9 rest vals effs) (pe++effs) env0 (pre.length+k) o)/\env'=G9 (pre++A9 rest vals effs) env0/\j'=Qv (pre++A9 rest vals effs)/\(A9 rest vals effs).length=rest.length/\effs.map (·.1)=(A9 rest vals effs).map (·.2.2):=by
 induction h with
 |nil=>intro pre pe env0 hp hl he hj;simp[A9,he,hj]
 | @skip o rest env env' j j' vals effs hne hw h ih=>
  intro pre pe env0 hp hl he hj
  have hidx:ops.size- (rest.length+1)=pre.length:=by simp at hl;omega
  obtain⟨f1,f2,f3,f4,f5⟩:=ih (pre++[(o.dst,D.tup [],false)]) (pe++[((false,none):Ef)]) env0 (by simp[hp]) (by simp at hl⊢;omega) (by rw[FE,he]) (by rw[FF,hj];simp)
  have hap:pre++[(o.dst,D.tup [],false)]++A9 rest vals effs=pre++A9 (o::rest) (.tup []::vals) (((false,none):Ef)::effs):=by simp[A9]
  have hap2:pe++[((false,none):Ef)]++effs=pe++((false,none):Ef)::effs:=by simp
  rw[hap] at f1 f2 f3
  rw[hap2] at f1
  refine⟨fun k o' hk=>?_,f2,f3,by simp[A9,f4],by simp only[A9,HU];rw[←f5]⟩
  cases k with
  |zero=>
   simp at hk;subst hk
   have hat:(pe++((false,none):Ef)::effs)[pre.length+0]?=some ((false,none):Ef):=by rw[I2, ←hp];simp
   rw[hidx] at hne
   refine⟨.tup [],false,by simp[A9],.inl ⟨?_,rfl,rfl,hne⟩⟩
   simp only[I2,take_left, ←he];exact hw
  |succ k=>
   have:=f1 k o' (by simpa using hk)
   simp only[HI,List.length_singleton] at this
   rw[show pre.length+(k+1)=pre.length+1+k by omega];exact this
 | @quiet o rest env env' j j' vals effs d hne hw ho h ih=>
  intro pre pe env0 hp hl he hj
  have hidx:ops.size- (rest.length+1)=pre.length:=by simp at hl;omega
  obtain⟨f1,f2,f3,f4,f5⟩:=ih (pre++[(o.dst,d,false)]) (pe++[((false,none):Ef)]) env0 (by simp[hp]) (by simp at hl⊢;omega) (by rw[FE,he]) (by rw[FF,hj];simp)
  have hap:pre++[(o.dst,d,false)]++A9 rest vals effs=pre++A9 (o::rest) (d::vals) (((false,none):Ef)::effs):=by simp[A9]
  have hap2:pe++[((false,none):Ef)]++effs=pe++((false,none):Ef)::effs:=by simp
  rw[hap] at f1 f2 f3
  rw[hap2] at f1
  refine⟨fun k o' hk=>?_,f2,f3,by simp[A9,f4],by simp only[A9,HU];rw[←f5]⟩
  cases k with
  |zero=>
   simp at hk;subst hk
   have hat:(pe++((false,none):Ef)::effs)[pre.length+0]?=some ((false,none):Ef):=by rw[I2, ←hp];simp
   rw[hidx] at hne
   refine⟨d,false,by simp[A9],.inr (.inl ⟨?_,rfl,hne,?_⟩)⟩
   ·simp only[I2,take_left, ←he];exact hw
   ·simp only[I2,take_left, ←he];exact fun b c s hs _=>ho b s (HA hs)
  |succ k=>
   have:=f1 k o' (by simpa using hk)
   simp only[HI,List.length_singleton] at this
   rw[show pre.length+(k+1)=pre.length+1+k by omega];exact this
 | @eff o rest env env' j j' vals effs d hne hw ho h ih=>
  intro pre pe env0 hp hl he hj
  have hidx:ops.size- (rest.length+1)=pre.length:=by simp at hl;omega
  obtain⟨f1,f2,f3,f4,f5⟩:=ih (pre++[(o.dst,d,true)]) (pe++[((true,none):Ef)]) env0 (by simp[hp]) (by simp at hl⊢;omega) (by rw[FE,he]) (by rw[FF,hj];simp)
  have hap:pre++[(o.dst,d,true)]++A9 rest vals effs=pre++A9 (o::rest) (d::vals) (((true,none):Ef)::effs):=by simp[A9]
  have hap2:pe++[((true,none):Ef)]++effs=pe++((true,none):Ef)::effs:=by simp
  rw[hap] at f1 f2 f3
  rw[hap2] at f1
  refine⟨fun k o' hk=>?_,f2,f3,by simp[A9,f4],by simp only[A9,HU];rw[←f5]⟩
  cases k with
  |zero=>
   simp at hk;subst hk
   have hat:(pe++((true,none):Ef)::effs)[pre.length+0]?=some ((true,none):Ef):=by rw[I2, ←hp];simp
   rw[hidx] at hne ho
   refine⟨d,true,by simp[A9],.inr (.inr (.inl ⟨?_,rfl,hne,?_⟩))⟩
   ·simp only[I2,take_left, ←he];exact hw
   ·simp only[I2,take_left, ←hj, ←he];exact ho
  |succ k=>
   have:=f1 k o' (by simpa using hk)
   simp only[HI,List.length_singleton] at this
   rw[show pre.length+(k+1)=pre.length+1+k by omega];exact this
 | @quietW o rest env env' j j' vals effs d lim hne hw ho h ih=>
  intro pre pe env0 hp hl he hj
  have hidx:ops.size- (rest.length+1)=pre.length:=by simp at hl;omega
  obtain⟨f1,f2,f3,f4,f5⟩:=ih (pre++[(o.dst,d,false)]) (pe++[((false,some lim):Ef)]) env0 (by simp[hp]) (by simp at hl⊢;omega) (by rw[FE,he]) (by rw[FF,hj];simp)
  have hap:pre++[(o.dst,d,false)]++A9 rest vals effs=pre++A9 (o::rest) (d::vals) (((false,some lim):Ef)::effs):=by simp[A9]
  have hap2:pe++[((false,some lim):Ef)]++effs=pe++((false,some lim):Ef)::effs:=by simp
  rw[hap] at f1 f2 f3
  rw[hap2] at f1
  refine⟨fun k o' hk=>?_,f2,f3,by simp[A9,f4],by simp only[A9,HU];rw[←f5]⟩
  cases k with
  |zero=>
   simp at hk;subst hk
   have hat:(pe++((false,some lim):Ef)::effs)[pre.length+0]?=some ((false,some lim):Ef):=by rw[I2, ←hp];simp
   rw[hidx] at hne
   refine⟨d,false,by simp[A9],.inr (.inl ⟨?_,rfl,hne,?_⟩)⟩
   ·simp only[I2,take_left, ←he];exact hw
   ·rw[hat]
    simp only[I2,take_left, ←he]
    exact fun b c s hs hc=>ho b c s (hc lim rfl) hs
  |succ k=>
   have:=f1 k o' (by simpa using hk)
   simp only[HI,List.length_singleton] at this
   rw[show pre.length+(k+1)=pre.length+1+k by omega];exact this
 | @free o rest env env' j j' vals effs d hf hw ho h ih=>
  intro pre pe env0 hp hl he hj
  have hidx:ops.size- (rest.length+1)=pre.length:=by simp at hl;omega
  obtain⟨f1,f2,f3,f4,f5⟩:=ih (pre++[(o.dst,d,false)]) (pe++[((false,none):Ef)]) env0 (by simp[hp]) (by simp at hl⊢;omega) (by rw[FE,he]) (by rw[FF,hj];simp)
  have hap:pre++[(o.dst,d,false)]++A9 rest vals effs=pre++A9 (o::rest) (d::vals) (((false,none):Ef)::effs):=by simp[A9]
  have hap2:pe++[((false,none):Ef)]++effs=pe++((false,none):Ef)::effs:=by simp
  rw[hap] at f1 f2 f3
  rw[hap2] at f1
  refine⟨fun k o' hk=>?_,f2,f3,by simp[A9,f4],by simp only[A9,HU];rw[←f5]⟩
  cases k with
  |zero=>
   simp at hk;subst hk
   have hat:(pe++((false,none):Ef)::effs)[pre.length+0]?=some ((false,none):Ef):=by rw[I2, ←hp];simp
   rw[hidx] at hf
   refine⟨d,false,by simp[A9],.inr (.inr (.inr ⟨?_,rfl,hf.symm,?_⟩))⟩
   ·simp only[I2,take_left, ←he];exact hw
   ·simp only[I2,take_left, ←he];exact ho
  |succ k=>
   have:=f1 k o' (by simpa using hk)
   simp only[HI,List.length_singleton] at this
   rw[show pre.length+(k+1)=pre.length+1+k by omega];exact this
theorem Xn(items:List It)(i:Nat)(env0:List D):Xo items (fun k=>decide (k<i)) env0=G9 (items.take i) env0:=by
 have gen:∀(l:List It) (s:Nat) (e:List D),(l.zipIdx s).foldl (Ck fun k=>decide (k<i)) e=(l.take (i-s)).foldl (fun e it=>AN e it.1 it.2.1) e:=by
  intro l
  induction l with
  |nil=>intro s e;simp
  |cons x l ih=>
   intro s e
   simp only[List.zipIdx_cons,IG]
   rw[ih]
   by_cases h:s<i
   ·rw[show i-s=(i- (s+1))+1 by omega,List.take_succ_cons,IG]
    simp[Ck,h]
   ·rw[show i-s=0 by omega,show i- (s+1)=0 by omega]
    simp[Ck,h]
 simpa[Xo,G9] using gen items 0 env0
theorem Qu(items:List It)(i:Nat):RT items (fun k=>decide (k<i))=Qv (items.take i):=by
 have gen:∀(l:List It) (s c:Nat),(l.zipIdx s).foldl (Ce fun k=>decide (k<i)) c=(l.take (i-s)).foldl (fun c it=>if it.2.2 then c+1 else c) c:=by
  intro l
  induction l with
  |nil=>intro s e;simp
  |cons x l ih=>
   intro s e
   simp only[List.zipIdx_cons,IG]
   rw[ih]
   by_cases h:s<i
   ·rw[show i-s=(i- (s+1))+1 by omega,List.take_succ_cons,IG]
    simp[Ce,h]
   ·rw[show i-s=0 by omega,show i- (s+1)=0 by omega]
    simp[Ce,h]
 simpa[RT,Qv] using gen items 0 0
theorem T7(l:List It):Qv l=(l.map (·.2.2)).count true:=by
 have gen:∀(l:List It) (c:Nat),l.foldl (fun c it=>if it.2.2 then c+1 else c) c=c+(l.map (·.2.2)).count true:=by
  intro l
  induction l with
  |nil=>intro c;simp
  |cons x l ih=>
   intro c
   simp only[IG,HU]
   rw[ih]
   cases x.2.2<;>simp<;>omega
 simpa[Qv] using gen l 0
theorem Aea{items:List It}{S S':Nat->Bool}(h:∀(k:Nat) (x:It),items[k]?=some x->x.2.2=true->S k=true->S' k=true):RT items S<=RT items S':=by
 have gen:∀(l:List (It×Nat)) (c c':Nat),(∀x∈l,x.1.2.2=true->S x.2=true->S' x.2=true)->c<=c'->l.foldl (Ce S) c<=l.foldl (Ce S') c':=by
  intro l
  induction l with
  |nil=>intro c c' _ hc;exact hc
  |cons x l ih=>
   intro c c' hl hc
   simp only[IG]
   refine ih _ _ (fun y hy=>hl y (List.mem_cons_of_mem _ hy)) ?_
   have:=hl x List.mem_cons_self
   unfold Ce
   cases hx:x.1.2.2<;>cases hs:S x.2<;>cases hs':S' x.2<;>simp_all<;>omega
 exact gen _ 0 0 (fun x hx=>h x.2 x.1 (mem_zipIdx hx)) (HB _)
def AcU(ops:Array Oper)(lims:List Ef):Bool:=
 (List.range lims.length).all fun i=>
  match (lims[i]?).bind (·.2) with
  |none=>true
  |some lim=>(List.range lims.length).any fun e=>(lims.map (·.1)).getD e false&&decide (((lims.map (·.1)).take e).count true=lim)&&((Ep [] ops.toList).getD e 0).testBit i
def He(ops:Array Oper)(lims:List Ef):Bool:=VG ops (lims.map (·.1))&&AcU ops lims
theorem Tv{ops:Array Oper}{o:Oper}{env env':List D}(h:∀t∈Gj ops o,env[t]?=env'[t]?):Ek env o=Ek env' o:=by
 unfold Ek
 refine List.map_congr_left fun x hx=>?_
 cases x with
 |tmp t=>
  have:=h t (by
   unfold Gj
   exact Iq.2 (.inl (List.mem_filterMap.2 ⟨.tmp t,hx,rfl⟩)))
  simp[evD,HC,this]
 |_=>rfl
theorem P4{ops:Array Oper}{o:Oper}{env env':List D}(h:∀t∈Gj ops o,env[t]?=env'[t]?):BM env ops o=BM env' ops o:=by
 unfold BM
 cases hg:o.guard with
 |none=>rfl
 |some p=>
  obtain⟨j,want⟩:=p
  simp only
  cases hj:(ops[j]?).bind (·.dst) with
  |none=>rfl
  |some t=>
   have:=h t (by unfold Gj;rw[hg];simp[hj])
   simp[this]
section
variable {C : Ent -> Ent -> Prop} {P : Program} {R : List D -> St -> Prop} {k : List KI} {env : List D} {σ : St}
theorem Sx{ops:Array Oper}{sts:Bool->List St}{fr:Nat}{items:List It}{effs:List Bool}{lims:List Ef}{env0:List D}{Q:Exit->Act->World->Prop}{E:Ent}{J:Gh->Prop}(hJ:∀g g':Gh,g.le g'->J g->J g')(hreg:VG ops effs=true)(hwin:AcU ops lims=true)(hle:effs=lims.map (·.1))(hlen:items.length=ops.size)(heff:effs=items.map (·.2.2))
  (hfact:∀i o,ops[i]?=some o->Ajd P ops sts fr items lims env0 i o)
  (hfin:∀g a w,J g->(∃s,(sts (decide (fr<ops.size)))[Qv items]?=some s/\FI E g s (G9 items env0) a w)->Q .normal a w):
  ∀(fuel:Nat) (listed:Array Bool) (a:Act) (w:World) (g:Gh) (s:St),listed.size=ops.size->DC ops (fun i=>listed.getD i false)->
   ((List.range ops.size).filter fun i=> !listed.getD i false).length=fuel->
   (sts (listed.getD fr false))[RT items (fun i=>listed.getD i false)]?=some s->J g->FI E g s (Xo items (fun i=>listed.getD i false) env0) a w->wpAny P .any ops Q fuel listed a w:=by
 -- nothing is ready:all are listed
 have done_:∀(listed:Array Bool),listed.size=ops.size->Region.ready .any ops listed=[]->∀i,i<ops.size->listed.getD i false=true:=by
  intro listed hsz hr i
  induction i using Nat.strongRecOn with
  |_ i ih=>
   intro hi
   cases hl:listed.getD i false with
   |true=>rfl
   |false=>
    exfalso
    have hmem:i∈Region.ready .any ops listed:=by
     unfold Region.ready
     rw[List.mem_filter]
     refine⟨by simpa using hi,?_⟩
     have ho:ops[i]?=some ops[i]:=by simp[hi]
     have hl':listed.getD i true=false:=by
      rw[ID] at hl⊢
      have:listed[i]?=some listed[i]:=by simp[hsz,hi]
      rw[this] at hl⊢;exact hl
     rw[ho]
     simp only[hl',Bool.not_false,Ib,I4,IT]
     rw[Array.all_eq_true_iff_forall_mem]
     intro e he
     cases hb:Region.binds .any e with
     |false=>simp
     |true=>
      have hlt:=SP hreg ho e he hb
      simp[ih e.on hlt (by omega)]
    rw[hr] at hmem
    simp at hmem
 have finish:∀(listed:Array Bool) (a:Act) (w:World) (g:Gh) (s:St),listed.size=ops.size->(∀i,i<ops.size->listed.getD i false=true)->(sts (listed.getD fr false))[RT items (fun i=>listed.getD i false)]?=some s->
   J g->FI E g s (Xo items (fun i=>listed.getD i false) env0) a w->Q .normal a w:=by
  intro listed a w g s hsz hall hs hj hf
  have e1:Xo items (fun i=>listed.getD i false) env0=G9 items env0:=by
   have:=Xn items ops.size env0
   rw[HW (by omega)] at this
   rw[←this]
   apply ext_getElem?
   intro t
   refine GZ _ _ _ (fun x hx _=>?_) rfl
   have hx2:=(H7.1 (mem_zipIdx hx)).1
   rw[hall x.2 (by omega)];simp;omega
  have e2:RT items (fun i=>listed.getD i false)=Qv items:=by
   have:=Qu items ops.size
   rw[HW (by omega)] at this
   rw[←this]
   refine Ha _ _ (fun x hx _=>?_)
   have hx2:=(H7.1 (mem_zipIdx hx)).1
   rw[hall x.2 (by omega)];simp;omega
  have e3:listed.getD fr false=decide (fr<ops.size):=by
   by_cases hfr:fr<ops.size
   ·rw[hall fr hfr];simp[hfr]
   ·rw[ID,Array.getElem?_eq_none (by omega)];simp[hfr]
  rw[e1] at hf
  rw[e2,e3] at hs
  exact hfin g a w hj ⟨s,hs,hf⟩
 intro fuel
 induction fuel with
 |zero=>
  intro listed a w g s hsz hdc hcount hs hj hf
  have hall:∀i,i<ops.size->listed.getD i false=true:=by
   intro i hi
   cases hl:listed.getD i false with
   |true=>rfl
   |false=>
    have hm:i∈ (List.range ops.size).filter fun i=> !listed.getD i false:=List.mem_filter.2 ⟨by simpa using hi,by simp[hl]⟩
    have hnil:=IL hcount
    rw[hnil] at hm
    simp at hm
  refine⟨?_,finish listed a w g s hsz hall hs hj hf⟩
  unfold Region.ready
  rw[List.filter_eq_nil_iff]
  intro i hi
  have hi':i<ops.size:=by simpa using hi
  have:=hall i hi'
  have ht:listed.getD i true=true:=by
   rw[ID] at this⊢
   have h':listed[i]?=some listed[i]:=by simp[hsz,hi']
   rw[h'] at this⊢;exact this
  simp[ht]
 |succ fuel ih=>
  intro listed a w g s hsz hdc hcount hs hj hf
  refine⟨fun hr=>finish listed a w g s hsz (done_ listed hsz hr) hs hj hf,fun i hi=>?_⟩
  -- an operation that is ready
  unfold Region.ready at hi
  rw[List.mem_filter] at hi
  obtain⟨hi1,hi2⟩:=hi
  have hi':i<ops.size:=by simpa using hi1
  have ho:ops[i]?=some ops[i]:=by simp[hi']
  generalize hoo:ops[i]=o at ho
  rw[ho] at hi2
  simp only[H5,Iv,I4,IT] at hi2
  obtain⟨hnl,hall⟩:=hi2
  have hnl':listed.getD i false=false:=by
   rw[ID] at hnl⊢
   have h':listed[i]?=some listed[i]:=by simp[hsz,hi']
   rw[h'] at hnl⊢;exact hnl
  have hready:∀e∈o.after,Region.binds .any e=true->listed.getD e.on false=true:=by
   intro e he hb
   have:=Array.all_eq_true_iff_forall_mem.1 hall e he
   simpa[hb] using this
  have hpre:=Oq hdc ho hready
  have hpost:=fun(j:Nat) (hs:listed.getD j false=true)=>Np (S:=fun i=>listed.getD i false) hdc hs
  obtain⟨d,b,hit,hcase⟩:=hfact i o ho
  have hil:i<items.length:=by omega
  -- every other operation that shares a slot is ordered with it
  have opAt:∀(k:Nat) (x:It),items[k]?=some x->∃ok,ops[k]?=some ok/\x.1=ok.dst:=by
   intro k x hk
   have hkl:k<ops.size:=by have:=(H7.1 hk).1;omega
   have hok:ops[k]?=some ops[k]:=by simp[hkl]
   obtain⟨d',b',h1,_⟩:=hfact k _ hok
   rw[hk] at h1
   simp at h1
   exact⟨_,hok,by rw[h1]⟩
  have lt_listed:∀(k:Nat) (ok:Oper),ops[k]?=some ok->k<i->(Qr ops ok o=true∨(effs.getD k false=true/\effs.getD i false=true))->listed.getD k false=true:=
   fun k ok hk hlt hc=>hpre k (KZ hreg hk ho hlt hc)
  have gt_not:∀(k:Nat) (ok:Oper),ops[k]?=some ok->i<k->(Qr ops o ok=true∨(effs.getD i false=true/\effs.getD k false=true))->listed.getD k false=false:=by
   intro k ok hk hlt hc
   cases hl:listed.getD k false with
   |false=>rfl
   |true=>
    have:=hpost k hl i (KZ hreg ho hk hlt hc)
    simp only[hnl'] at this
    exact absurd this (by simp)
  have agree:∀t∈Gj ops o,(Xo items (fun i=>listed.getD i false) env0)[t]?=(G9 (items.take i) env0)[t]?:=by
   intro t ht
   rw[←Xn]
   refine GZ _ _ _ (fun x hx hxt=>?_) rfl
   have hx2:=mem_zipIdx hx
   obtain⟨ok,hok,hdst⟩:=opAt x.2 x.1 hx2
   rw[hdst] at hxt
   rcases Nat.lt_trichotomy x.2 i with h|h|h
   ·rw[lt_listed x.2 ok hok h (.inl (by unfold Qr;simp[hxt,ht]))];simp[h]
   ·rw[h,hnl'];simp
   ·rw[gt_not x.2 ok hok h (.inl (by unfold Qr;simp[hxt,ht]))];simp;omega
  have hlast:∀(k:Nat) (x:It),items[k]?=some x->listed.getD k false=true->i<k->o.dst=none∨x.1≠o.dst:=by
   intro k x hk hl hlt
   cases hd:o.dst with
   |none=>exact .inl rfl
   |some t=>
    refine .inr fun e=>?_
    obtain⟨ok,hok,hdst⟩:=opAt k x hk
    have:=gt_not k ok hok hlt (.inl (by unfold Qr;simp[hd, ←hdst,e]))
    rw[this] at hl
    simp at hl
  have hadd:=Abh (S:=fun i=>listed.getD i false) (env0:=env0) hit hnl' hlast
  have hcadd:=Abx (S:=fun i=>listed.getD i false) hit hnl'
  have hS':(fun k=>(listed.setIfInBounds i true).getD k false)=fun k=>listed.getD k false||k==i:=by
   funext k
   simp only[ID,Array.getElem?_setIfInBounds]
   by_cases hk:i=k
   ·subst hk;simp[hsz,hi']
   ·simp[hk,Ne.symm hk]
  have hcnt':((List.range ops.size).filter fun k=> !(listed.setIfInBounds i true).getD k false).length=fuel:=by
   have e1:(List.range ops.size).filter (fun k=> !(listed.setIfInBounds i true).getD k false)=((List.range ops.size).filter fun k=> !listed.getD k false).filter (fun k=>k !=i):=by
    rw[List.filter_filter]
    refine List.filter_congr fun k _=>?_
    have:=congrFun hS' k
    rw[this]
    cases listed.getD k false<;>cases hk:(k==i)<;>simp_all
   rw[e1]
   have hnd:((List.range ops.size).filter fun k=> !listed.getD k false).Nodup:=List.filter_sublist.nodup List.nodup_range
   have hm:i∈ (List.range ops.size).filter fun k=> !listed.getD k false:=List.mem_filter.2 ⟨hi1,by simp[hnl']⟩
   have hf1:=hnd.erase_eq_filter i
   rw[←hf1,List.length_erase_of_mem hm,hcount];rfl
  have hdc':DC ops (fun k=>(listed.setIfInBounds i true).getD k false):=by
   rw[hS']
   intro k ok hk hsk e he hb
   simp only[Bool.or_eq_true,Ie] at hsk⊢
   rcases hsk with hsk|rfl
   ·exact .inl (hdc k ok hk hsk e he hb)
   ·rw[ho] at hk;simp at hk;subst hk
    exact .inl (hready e he hb)
  -- the count of effects so far
  have hcb:b=true->RT items (fun k=>listed.getD k false)=Qv (items.take i):=by
   intro hbt
   rw[←Qu]
   have hei:effs.getD i false=true:=by rw[heff,HC,Ik,hit];simp[hbt]
   refine Ha _ _ (fun x hx hxb=>?_)
   have hx2:=mem_zipIdx hx
   obtain⟨ok,hok,_⟩:=opAt x.2 x.1 hx2
   have hex:effs.getD x.2 false=true:=by rw[heff,HC,Ik,hx2];simp[hxb]
   rcases Nat.lt_trichotomy x.2 i with h|h|h
   ·rw[lt_listed x.2 ok hok h (.inr ⟨hex,hei⟩)];simp[h]
   ·rw[h,hnl'];simp
   ·rw[gt_not x.2 ok hok h (.inr ⟨hei,hex⟩)];simp;omega
  have hw:=P4 agree
  have hev:=Tv agree
  have next:∀(g':Gh) (a':Act) (w':World) (s':St),(sts ((listed.setIfInBounds i true).getD fr false))[RT items (fun k=>(listed.setIfInBounds i true).getD k false)]?=some s'->J g'->FI E g' s' (AN (Xo items (fun k=>listed.getD k false) env0) o.dst d) a' w'->wpAny P .any ops Q fuel (listed.setIfInBounds i true) a' w':=by
   intro g' a' w' s' hs' hj' hf'
   refine ih _ a' w' g' s' (by simp[hsz]) hdc' hcnt' hs' hj' ?_
   rw[hS',hadd];exact hf'
  unfold wpOp
  rw[ho]
  simp only
  have hflag:i≠fr->(listed.setIfInBounds i true).getD fr false=listed.getD fr false:=by
   intro hne
   have:=congrFun hS' fr
   rw[this]
   have:(fr==i)=false:=by simpa using Ne.symm hne
   rw[this,Bool.or_false]
  rcases hcase with⟨hwant,rfl,rfl,hne⟩|⟨hwant,rfl,hne,hop⟩|⟨hwant,rfl,hne,hop⟩|⟨hwant,rfl,hfr,hop⟩
  ·rw[HL (by rw[Co hf.env (hw.trans hwant)];simp)]
   refine next g _ w s ?_ hj (hf.put hf.wi g.le_refl (LU g) o.dst)
   rw[hflag hne,hS',hcadd];simpa using hs
  ·rw[HP (Co hf.env (hw.trans hwant))]
   refine .inl ?_
   rw[←hev] at hop
   have hlim:∀lim,(lims[i]?).bind (·.2)=some lim->RT items (fun k=>listed.getD k false)<=lim:=by
    intro lim hlm
    have hil2:i<lims.length:=by
     have:lims.length=items.length:=by have:=HR List.length (hle.symm.trans heff);simpa using this
     omega
    have h1:=Ip.1 hwin i (by simpa using hil2)
    rw[hlm] at h1
    obtain⟨e,_,h2⟩:=List.any_eq_true.1 h1
    simp only[H5,HE, ←hle] at h2
    obtain⟨⟨h3,h4⟩,h5⟩:=h2
    have hnote:listed.getD e false=false:=by
     cases hl:listed.getD e false with
     |false=>rfl
     |true=>have:=hpost e hl i h5;simp only[hnl'] at this;exact absurd this (by simp)
    rw[heff, ←map_take, ←T7] at h4
    rw[←h4, ←Qu]
    refine Aea fun k x hk hx hS=>?_
    obtain⟨ok,hok,_⟩:=opAt k x hk
    have hex:effs.getD k false=true:=by rw[heff,HC,Ik,hk];simp[hx]
    rcases Nat.lt_trichotomy k e with h|h|h
    ·simp[h]
    ·subst h;simp only[hnote] at hS;exact absurd hS (by simp)
    ·have hek:e<ops.size:=by have:=(Iy.1 hok).1;omega
     have:=hpost k hS e (KZ hreg (show ops[e]?=some ops[e] by simp[hek]) hok h (.inr ⟨h3,hex⟩))
     simp only[hnote] at this;exact absurd this (by simp)
   refine hop _ _ s hs hlim E g a w _ _ hf.wi (EG hf.wi.rep.gl hf.env _) fun g' w' u h1 h2 h3=>?_
   refine next g' _ w' s ?_ (hJ g g' h2 hj) (hf.put h1 h2 h3 o.dst)
   rw[hflag hne,hS',hcadd];simpa using hs
  ·rw[HP (Co hf.env (hw.trans hwant))]
   refine .inl ?_
   rw[hcb rfl] at hs
   rw[←hev] at hop
   obtain⟨s2,hs2,hop2⟩:=hop _ s hs (fun hb=>by
    cases hn:Tg ops i fr with
    |false=>rfl
    |true=>have:=hpre fr hn;rw[hb] at this;exact absurd this (by simp))
   refine hop2 E g a w _ _ hf.wi (EG hf.wi.rep.gl hf.env _) fun g' w' u h1 h2 h3=>?_
   refine next g' _ w' s2 ?_ (hJ g g' h2 hj) (hf.put h1 h2 h3 o.dst)
   rw[hflag hne,hS',hcadd,hcb rfl];simpa using hs2
  ·rw[HP (Co hf.env (hw.trans hwant))]
   refine .inl ?_
   rw[←hfr,hnl'] at hs
   rw[←hev] at hop
   obtain⟨s2,hs2,hop2⟩:=hop _ s hs
   refine hop2 E g a w _ _ hf.wi (EG hf.wi.rep.gl hf.env _) fun g' w' u h1 h2 h3=>?_
   refine next g' _ w' s2 ?_ (hJ g g' h2 hj) (hf.put h1 h2 h3 o.dst)
   have hset:(listed.setIfInBounds i true).getD fr false=true:=by
    have:=congrFun hS' fr
    rw[this, ←hfr];simp
   rw[hset,hS',hcadd];simpa using hs2
theorem Xs{id:Nat}{ops:Array Oper}{E:Ent}{J:Gh->Prop}(hJ:∀g g':Gh,g.le g'->J g->J g'){B:Exit->Act->World->Prop}{g:Gh}{a:Act}{w:World}(hm:P.follows .mixedOrders=true)(sts:Bool->List St)(fr:Nat){vals:List D}{effs:List Ef}{env':List D}{j':Nat}{σ':St}(h0:(sts false)[0]?=some σ)(hj:(sts (decide (fr<ops.size)))[j']?=some σ')
  (h:Fy P ops sts fr ops.toList env 0 vals effs env' j') (hreg:He ops effs=true) (hfi:FI E g σ env a w) (hjg:J g) (hk:∀g' a' w',J g'->FI E g' σ' env' a' w'->KQ P B k .normal a' w'):KQ P B (.code (.region id ops true)::k) .normal a w:=by
 simp only[KQ]
 obtain⟨f1,f2,f3,f4,f5⟩:=h.facts [] [] env rfl (by simp) (by simp[G9]) (by simp[Qv])
 simp only[List.nil_append,HD,Io] at f1 f2 f3
 have hreg1:VG ops (effs.map (·.1))=true:=by unfold He at hreg;rw[H5] at hreg;exact hreg.1
 have hreg2:AcU ops effs=true:=by unfold He at hreg;rw[H5] at hreg;exact hreg.2
 clear hreg
 have f1':∀i o,ops[i]?=some o->Ajd P ops sts fr (A9 ops.toList vals effs) effs env i o:=fun i o ho=>f1 i o (by rw[IX];exact ho)
 have f4':(A9 ops.toList vals effs).length=ops.size:=by rw[f4];simp
 refine wp_region_any hm ?_
 have hS0:(fun i=>(Array.replicate ops.size false).getD i false)=fun _=>false:=by
  funext i
  simp only[ID,Array.getElem?_replicate]
  split<;>rfl
 have he0:∀(l:List (It×Nat)) (e:List D),l.foldl (Ck fun _=>false) e=e:=by
  intro l;induction l with
  |nil=>intro e;rfl
  |cons x l ih=>intro e;simp only[IG];rw[show Ck (fun _=>false) e x=e from by simp[Ck]];exact ih e
 have hc0:∀(l:List (It×Nat)) (c:Nat),l.foldl (Ce fun _=>false) c=c:=by
  intro l;induction l with
  |nil=>intro e;rfl
  |cons x l ih=>intro e;simp only[IG];rw[show Ce (fun _=>false) e x=e from by simp[Ce]];exact ih e
 have hfi':FI E g σ env a { w with drawn:=w.drawn+1 }:=⟨hfi.wi.drew,hfi.env,hfi.defers⟩
 obtain⟨es,hes⟩:∃es,es=effs.map (·.1):=⟨_,rfl⟩
 rw[←hes] at hreg1 f5
 refine Sx (sts:=sts) (fr:=fr) (items:=A9 ops.toList vals effs) (effs:=es) (lims:=effs) (env0:=env) (E:=E) hJ hreg1 hreg2 hes f4' f5 f1' (fun g' a' w' hj' hx=>?_) ops.size _ a _ g σ (by simp) ?_ ?_ ?_ hjg ?_
 ·obtain⟨s,hs,hf⟩:=hx
  rw[←f3,hj] at hs
  simp at hs;subst hs
  rw[←f2] at hf
  exact hk g' a' w' hj' hf
 ·intro i o _ hs
  rw[hS0] at hs
  simp at hs
 ·have:(List.range ops.size).filter (fun i=> !(Array.replicate ops.size false).getD i false)=List.range ops.size:=by
   rw[List.filter_eq_self]
   intro i _
   have:=congrFun hS0 i
   rw[this];rfl
  rw[this];simp
 ·have h0f:(Array.replicate ops.size false).getD fr false=false:=congrFun hS0 fr
  rw[hS0,h0f]
  simp only[RT,hc0];exact h0
 ·rw[hS0]
  simp only[Xo,he0];exact hfi'
theorem GI{id:Nat}{ops:Array Oper}(hm:P.follows .mixedOrders=true)(sts:Bool->List St)(fr:Nat){vals:List D}{effs:List Ef}{env':List D}{j':Nat}{σ':St}(h0:(sts false)[0]?=some σ)(hj:(sts (decide (fr<ops.size)))[j']?=some σ')
  (h:Fy P ops sts fr ops.toList env 0 vals effs env' j') (hreg:He ops effs=true) (hk:A1 C P R k env' σ'):A1 C P R (.code (.region id ops true)::k) env σ:=fun E0 E _ _ _ B hC hfi hB=>
 Xs (J:=fun _=>True) (fun _ _ _ _=>trivial) hm sts fr h0 hj h hreg hfi trivial fun g' a' w' _ hf=>hk E0 E g' a' w' B hC hf hB
end
def sub:Code->List Nat->Code
 |c,[]=>c
 |.seq a b,n::p=>if n=0 then sub a p else sub b p
 |.cond _ a b,n::p=>if n=0 then sub a p else sub b p
 |.block _ a,_::p=>sub a p
 |.loop a,_::p=>sub a p
 |.scope a,_::p=>sub a p
 |_,_::_=>.skip
def A0:Code->Array Oper
 |.region _ ops _=>ops
 |_=> #[]
def De(C:Ent->Ent->Prop)(P:Program)(R:List D->St->Prop)(c:Code)(p:List Nat)(i:Nat)(k:List KI)(env:List D)(σ:St):Prop:=
 ∀(E0 E:Ent) (g:Gh) (a:Act) (w:World) (B:Exit->Act->World->Prop),C E0 E->FI E g σ env a w->
  (∀g' env' σ' a' w',FI E0 g' σ' env' a' w'->R env' σ'->B .ret a' w'/\B .normal a' w')->wpList P (A0 (sub c p)) (KQ P B k) ((A0 (sub c p)).toList.drop i) a w
def Cv(env:List D)(σ:St)(env':List D)(σ':St):Prop:=∀(E:Ent) (g:Gh) (a:Act) (w:World),FI E g σ env a w->∃g',FI E g' σ' env' a w
section
variable {C : Ent -> Ent -> Prop} {P : Program} {R : List D -> St -> Prop} {c : Code} {p : List Nat} {k : List KI} {env env' : List D} {σ σ' : St} {i : Nat} {o : Oper} {d : D}
theorem E1(q r:List Nat)(h:sub c p=.seq (sub c q) (sub c r))(hk:A1 C P R (.code (sub c q):: .code (sub c r)::k) env σ):A1 C P R (.code (sub c p)::k) env σ:=by rw[h];exact Vu hk
theorem Sj(q:List Nat)(id:Nat)(h:sub c p=.block id (sub c q))(hk:A1 C P R (.code (sub c q):: .blk id::k) env σ):A1 C P R (.code (sub c p)::k) env σ:=by rw[h];exact Oj hk
theorem Aet(q:List Nat)(h:sub c p=.loop (sub c q))(hk:A1 C P R (.lp (sub c q)::k) env σ):A1 C P R (.code (sub c p)::k) env σ:=by rw[h];exact run_loop hk
theorem Qz(q r:List Nat){t:Operand}{b:Bool}(h:sub c p=.cond t (sub c q) (sub c r))(hc:evD env t=.v (.bool b))(ht:b=true->A1 C P R (.code (sub c q)::k) env σ)(hf:b=false->A1 C P R (.code (sub c r)::k) env σ):
  A1 C P R (.code (sub c p)::k) env σ:=by rw[h];exact QV hc ht hf
theorem Qy(h:sub c p=.skip)(hk:A1 C P R k env σ):A1 C P R (.code (sub c p)::k) env σ:=by rw[h];exact QS hk
theorem Aeu{id:Nat}{k':List KI}(h:sub c p=.exit id)(hp:Gn id k=some k')(hk:A1 C P R k' env σ):A1 C P R (.code (sub c p)::k) env σ:=by rw[h];exact QU hp hk
theorem Aes(L:Hn C)(h:sub c p=.ret)(hk:R env σ):A1 C P R (.code (sub c p)::k) env σ:=by rw[h];exact GH L hk
theorem Ahs(h:sub c p=.ret)(hk:R env σ):Run P R (.code (sub c p)::k) env σ:=Aes Z3 h hk
theorem Dn{id:Nat}(h:sub c p=.region id (A0 (sub c p)) false)(hk:De C P R c p 0 k env σ):A1 C P R (.code (sub c p)::k) env σ:=by
 rw[h]
 intro E0 E g a w B hC hfi hB
 simp only[KQ]
 exact wp_region_list (by have:=hk E0 E g a w B hC hfi hB;rwa[IW] at this)
theorem Vx(h:Cv env σ env' σ')(hk:A1 C P R k env' σ'):A1 C P R k env σ:=fun E0 E g a w B hC hf hB=>by
 obtain⟨g',hf'⟩:=h E g a w hf
 exact hk E0 E g' a w B hC hf' hB
theorem ZY(ho:(A0 (sub c p))[i]?=some o):((A0 (sub c p)).toList.drop i)=o::(A0 (sub c p)).toList.drop (i+1):=by
 have ho':(A0 (sub c p)).toList[i]?=some o:=by simpa using ho
 rw[HJ (H7.1 ho').1,(H7.1 ho').2]
theorem Dp(t:Option Tmp)(ho:(A0 (sub c p))[i]?=some o){ds:List D}(hg:BM env (A0 (sub c p)) o=some true)(ht:o.dst=t)(hds:Ek env o=ds)(h:Ah P o ds σ d σ')(he:AN env t d=env')(hk:De C P R c p (i+1) k env' σ'):De C P R c p i k env σ:=by
 subst ht he hds
 intro E0 E g a w B hC hf hB
 rw[ZY ho]
 unfold wpList
 rw[HP (Co hf.env hg)]
 refine .inl (h E g a w _ _ hf.wi (EG hf.wi.rep.gl hf.env _) fun g' w' u hw' hg' hd=>?_)
 exact hk E0 E g' _ _ B hC (hf.put hw' hg' hd o.dst) hB
theorem AcL{σ2:St}(t:Option Tmp)(ho:(A0 (sub c p))[i]?=some o){ds:List D}(hg:BM env (A0 (sub c p)) o=some true)(ht:o.dst=t)(hds:Ek env o=ds)(h:Ah P o ds σ d σ')(he:AN env t d=env')(hσ:σ'=σ2)(hk:De C P R c p (i+1) k env' σ2):De C P R c p i k env σ:=by
 subst hσ;exact Dp t ho hg ht hds h he hk
theorem AiW(b:Bool)(s s1 t:Nat){x y:Operand}(ho:(A0 (sub c p))[i]?=some o)(hg:BM env (A0 (sub c p)) o=some true)(ht:o.dst=some t)(hop:o.op=.pick (.tmp s) x y)(hs:env[s]?=some (.v (.bool b)))(hx:(if b then x else y)=.tmp s1)(h1:env[s1]?=some d)(he:env.set t d=env')
  (hk:De C P R c p (i+1) k env' σ):De C P R c p i k env σ:=by
 refine Dp (some t) ho hg ht (ds:=[.v (.bool b),evD env x,evD env y]) ?_ (PT hop) ?_ hk
 ·simp[Ek,hop,Op.operands,evD,HC,hs]
 ·rw[←he]
  simp only[AN]
  congr 1
  cases b<;>simp at hx<;>subst hx<;>simp[evD,HC,h1]
theorem RN{s:Nat}(hs:env[s]?=some d):evD env (.tmp s)=d:=by simp[evD,HC,hs]
theorem DG(s t:Nat)(ho:(A0 (sub c p))[i]?=some o)(hg:BM env (A0 (sub c p)) o=some true)(ht:o.dst=some t)(hop:o.op=.move (.tmp s)∨o.op=.assign (.tmp s))(hs:env[s]?=some d)(he:env.set t d=env')(hk:De C P R c p (i+1) k env' σ):De C P R c p i k env σ:=by
 have hds:Ek env o=[d]:=by rcases hop with h|h<;>simp[Ek,h,Op.operands,evD,HC,hs]
 refine Dp (some t) ho hg ht hds ?_ he hk
 rcases hop with h|h
 ·exact MP h
 ·exact Jo h
theorem AiX{u:Value}(t:Nat)(ho:(A0 (sub c p))[i]?=some o)(hg:BM env (A0 (sub c p)) o=some true)(ht:o.dst=some t)(hop:o.op=.move (.const u)∨o.op=.assign (.const u))(hs:Ml u=d)(he:env.set t d=env')(hk:De C P R c p (i+1) k env' σ):De C P R c p i k env σ:=by
 have hds:Ek env o=[d]:=by rcases hop with h|h<;>simp[Ek,h,Op.operands,evD,hs]
 refine Dp (some t) ho hg ht hds ?_ he hk
 rcases hop with h|h
 ·exact MP h
 ·exact Jo h
theorem Hj(h:(A0 (sub c p)).size=i)(hk:A1 C P R k env σ):De C P R c p i k env σ:=by
 intro E0 E g a w B hC hf hB
 rw[HO (by simp[h])]
 exact hk E0 E g a w B hC hf hB
theorem AbR(t:Nat){b:Bool}(hs:env[t]?=some (.v (.bool b)))(ht:b=true->∀env',env.set t (.v (.bool true))=env'->De C P R c p i k env' σ)(hf:b=false->∀env',env.set t (.v (.bool false))=env'->De C P R c p i k env' σ):De C P R c p i k env σ:=by
 have key:∀b',b=b'->env.set t (.v (.bool b'))=env:=by
  intro b' e;subst e
  apply ext_getElem?
  intro j
  rw[getElem?_set]
  split
  ·rename_i e;subst e
   split
   ·exact hs.symm
   ·rename_i hl;rw[Ir (by omega)] at hs;simp at hs
  ·rfl
 cases b with
 |true=>exact ht rfl env (key true rfl)
 |false=>exact hf rfl env (key false rfl)
inductive Wk:List D->List D->Prop
 |nil:Wk [] []
 |keep {d:D} {l l':List D} (h:Wk l l'):Wk (d::l) (d::l')
 |drop {d:D} {l l':List D} (h:Wk l l'):Wk (d::l) (.undef::l')
theorem Wk.ok:∀{l l':List D},Wk l l'->l'.length=l.length/\∀(i:Nat) (d':D),l'[i]?=some d'->d'=.undef∨l[i]?=some d'
 |_,_,.nil=>⟨rfl,fun i d' h=>by simp at h⟩
 |_,_,.keep h=>by
  obtain⟨h1,h2⟩:=h.ok
  refine⟨by simp[h1],fun i d' hi=>?_⟩
  cases i with
  |zero=>exact .inr hi
  |succ i=>exact h2 i d' (by simpa using hi)
 |_,_,.drop h=>by
  obtain⟨h1,h2⟩:=h.ok
  refine⟨by simp[h1],fun i d' hi=>?_⟩
  cases i with
  |zero=>simp at hi;exact .inl hi.symm
  |succ i=>exact h2 i d' (by simpa using hi)
theorem Acp(hw:Wk env env')(h:A1 C P R k env' σ):A1 C P R k env σ:=FX hw.ok.1 hw.ok.2 h
def DAt(P:Program)(c:Code)(p:List Nat)(sts:Bool->List St)(fr:Nat)(i:Nat)(env:List D)(j:Nat)(effs:List Ef)(K:List D->Nat->List Ef->Prop):Prop:=
 ∃vals effs' env' j',Fy P (A0 (sub c p)) sts fr ((A0 (sub c p)).toList.drop i) env j vals effs' env' j'/\K env' j' (effs++effs')
theorem AgZ{sts:Bool->List St}{fr:Nat}{j:Nat}{effs:List Ef}{K:List D->Nat->List Ef->Prop}(h:(A0 (sub c p)).size=i)(hk:K env j effs):DAt P c p sts fr i env j effs K:=by
 refine⟨[],[],env,j,?_,by simpa using hk⟩
 rw[HO (by simp[h])]
 exact .nil
theorem drop_cons(ho:(A0 (sub c p))[i]?=some o):((A0 (sub c p)).toList.drop i)=o::(A0 (sub c p)).toList.drop (i+1):=by
 have ho':(A0 (sub c p)).toList[i]?=some o:=by simpa using ho
 rw[HJ (H7.1 ho').1,(H7.1 ho').2]
theorem RF(ho:(A0 (sub c p))[i]?=some o):(A0 (sub c p)).size- (((A0 (sub c p)).toList.drop (i+1)).length+1)=i:=by
 have:=(Iy.1 ho).1
 simp;omega
theorem Pb(t:Option Tmp){sts:Bool->List St}{fr:Nat}{j:Nat}{effs:List Ef}{K:List D->Nat->List Ef->Prop}(ho:(A0 (sub c p))[i]?=some o)(hg:BM env (A0 (sub c p)) o=some true){ds:List D}(hds:Ek env o=ds)
  (ht:o.dst=t) (h:∀b,∀s∈sts b,Ah P o ds s d s) (he:AN env t d=env') (hk:DAt P c p sts fr (i+1) env' j (effs++[(false,none)]) K) (hne:i≠fr:=by decide):DAt P c p sts fr i env j effs K:=by
 obtain⟨vals,effs',env2,j',h1,h2⟩:=hk
 subst ht hds he
 refine⟨d::vals,(false,none)::effs',env2,j',?_,by simpa using h2⟩
 rw[drop_cons ho]
 exact .quiet (by rw[RF ho];exact hne) hg h h1
theorem N3(t:Option Tmp){sts:List St}{fr:Nat}{j:Nat}{effs:List Ef}{K:List D->Nat->List Ef->Prop}(ho:(A0 (sub c p))[i]?=some o)(hg:BM env (A0 (sub c p)) o=some true){ds:List D}(hds:Ek env o=ds)
  (ht:o.dst=t) (h:∀s∈sts,Ah P o ds s d s) (he:AN env t d=env') (hk:DAt P c p (fun _=>sts) fr (i+1) env' j (effs++[(false,none)]) K) (hne:i≠fr:=by decide):DAt P c p (fun _=>sts) fr i env j effs K:=
 Pb t ho hg hds ht (fun _=>h) he hk hne
def Cz(LF LT:List St):Bool->List St
 |false=>LF
 |true=>LT
theorem Aha(t:Option Tmp){sts:List St}{fr:Nat}{j:Nat}{effs:List Ef}{K:List D->Nat->List Ef->Prop}(ho:(A0 (sub c p))[i]?=some o)(hg:BM env (A0 (sub c p)) o=some true){ds:List D}(hds:Ek env o=ds){s s':St}(hs:sts[j]?=some s)(hs':sts[j+1]?=some s')
  (ht:o.dst=t) (h:Ah P o ds s d s') (he:AN env t d=env') (hk:DAt P c p (fun _=>sts) fr (i+1) env' (j+1) (effs++[(true,none)]) K) (hne:i≠fr:=by decide):DAt P c p (fun _=>sts) fr i env j effs K:=by
 obtain⟨vals,effs',env2,j',h1,h2⟩:=hk
 subst ht hds he
 refine⟨d::vals,(true,none)::effs',env2,j',?_,by simpa using h2⟩
 rw[drop_cons ho]
 exact .eff (by rw[RF ho];exact hne) hg (fun b x hx _=>⟨s',hs',by rw[hs] at hx;simp at hx;subst hx;exact h⟩) h1
theorem Tw{sts:Bool->List St}{fr:Nat}{j:Nat}{effs:List Ef}{K:List D->Nat->List Ef->Prop}(s t:Nat)(ho:(A0 (sub c p))[i]?=some o)(hg:BM env (A0 (sub c p)) o=some true)(ht:o.dst=some t)(hop:o.op=.move (.tmp s)∨o.op=.assign (.tmp s))(hs:env[s]?=some d)
  (he:env.set t d=env') (hk:DAt P c p sts fr (i+1) env' j (effs++[(false,none)]) K) (hne:i≠fr:=by decide):DAt P c p sts fr i env j effs K:=by
 have hds:Ek env o=[d]:=by rcases hop with h|h<;>simp[Ek,h,Op.operands,evD,HC,hs]
 refine Pb (some t) ho hg hds ht (fun _ _ _=>?_) he hk hne
 rcases hop with h|h
 ·exact MP h
 ·exact Jo h
theorem Aev{id:Nat}(hm:P.follows .mixedOrders=true)(h:sub c p=.region id (A0 (sub c p)) true)(sts:List St)(h0:sts[0]?=some σ)
  (hk:DAt P c p (fun _=>sts) 1000000 0 env 0 [] (fun env' j' effs=>He (A0 (sub c p)) effs=true/\∃σ',sts[j']?=some σ'/\A1 C P R k env' σ')):A1 C P R (.code (sub c p)::k) env σ:=by
 obtain⟨vals,effs,env',j',h1,h2,σ',h3,h4⟩:=hk
 rw[h]
 exact GI hm (fun _=>sts) 1000000 h0 h3 (by simpa using h1) (by simpa using h2) h4
theorem Adm{f:FuncId}{fn:Func}{ds:List D}{σ σ':St}{d:D}(c:Code)(hf:P.funcs[f]?=some fn)(hb:fn.body=some c)(hn:(fn.name=="runtime.NumGoroutine")=false)(hH:σ.H.length<=σ'.H.length)
  (env:List D) (he:ds++replicate (fn.ntmps-ds.length) .undef=env) (h:Run P (fun env σ1=>Aw P fn env σ1 d σ') [.code (sub c [])] env σ):Aa P f ds σ d σ':=by
 subst he
 refine PF hf hb hn hH ?_
 have:sub c []=c:=by cases c<;>rfl
 rwa[this] at h
end
def CM:List (Option (List D))->List Nat->List (Option (List D))->List (Option (List D))
 |H,q::qs,o::os=>CM (H.set q o) qs os
 |H,[],os=>H++os
 |H,_::_,[]=>H
def rho(n:Nat)(qs:List Nat)(j:Nat):Nat:=match qs[j]? with
 |some q=>q
 |none=>n+(j-qs.length)
theorem JU:∀(qs:List Nat) (H os:List (Option (List D))),qs.length<=os.length->(CM H qs os).length=H.length+(os.length-qs.length)
 |[],H,os,_=>by simp[CM]
 |q::qs,H,[],h=>by simp at h
 |q::qs,H,o::os,h=>by
  simp only[CM]
  rw[JU qs _ os (by simpa using h)]
  simp
theorem Pm:∀(qs:List Nat) (H os:List (Option (List D))),qs.length<=os.length->∀{i:Nat} {cs:List D},(CM H qs os)[i]?=some (some cs)->
  (∃j,rho H.length qs j=i/\os[j]?=some (some cs))∨(i<H.length/\i∉qs/\H[i]?=some (some cs))
 |[],H,os,_,i,cs,h=>by
  simp only[CM] at h
  by_cases hi:i<H.length
  ·rw[HQ hi] at h
   exact .inr ⟨hi,by simp,h⟩
  ·rw[HN (by omega)] at h
   exact .inl ⟨i-H.length,by simp[rho];omega,h⟩
 |q::qs,H,[],h,_,_,_=>by simp at h
 |q::qs,H,o::os,h,i,cs,hg=>by
  simp only[CM] at hg
  rcases Pm qs (H.set q o) os (by simpa using h) hg with⟨j,h1,h2⟩|⟨h1,h2,h3⟩
  ·refine .inl ⟨j+1,?_,by simpa using h2⟩
   rw[←h1]
   simp[rho]
  ·simp only[length_set] at h1
   rw[getElem?_set] at h3
   split at h3
   ·rename_i e;subst e
    simp only[h1,IC,Ia] at h3
    exact .inl ⟨0,by simp[rho],by simp[h3]⟩
   ·rename_i e
    exact .inr ⟨h1,by simp only[Ij,not_or];exact⟨fun e'=>e e'.symm,h2⟩,h3⟩
def gIn(g:Gh)(qs:List Nat):Gh:={ M:=g.M,β:=fun j=>g.β (qs.getD j 0),n:=qs.length,ι:=fun _ _=>none,κ:=fun j=>g.κ (qs.getD j 0)}
theorem Ej{qs:List Nat}{j q:Nat}(h:qs[j]?=some q):qs.getD j 0=q:=by simp[HC,h]
theorem WRep.callee{g:Gh}{σ σc:St}{w:World}(h:WRep g σ w){qs:List Nat}(hnd:qs.Nodup)(hown:σc.own=[])(hlen:σc.H.length=qs.length)
  (hq:∀(j q:Nat) (csc:List D),qs[j]?=some q->σc.H[j]?=some (some csc)->∃cs,σ.H[q]?=some (some cs)/\(∀us,Ac g cs us->Ac (gIn g qs) csc us)/\∀c∈csc,c.one=true):WRep (gIn g qs) σc w where
 n:=hlen.symm
 mem:=h.mem
 gl:=h.gl
 gw:=h.gw
 obj:=fun j csc hj=>by
  have hlt:j<qs.length:=by rw[←hlen];exact(H7.1 hj).1
  have hqj:qs[j]?=some qs[j]:=H4 hlt
  obtain⟨cs,h1,h2,h3⟩:=hq j _ csc hqj hj
  obtain⟨us,rest,e,hb,hr,_,hM,hκ⟩:=h.obj _ cs h1
  have e1:(gIn g qs).β j=g.β qs[j]:=by simp only[gIn,Ej hqj]
  have e2:(gIn g qs).κ j=g.κ qs[j]:=by simp only[gIn,Ej hqj]
  exact⟨us,rest,e,by rw[e1];exact hb,h2 us hr,h3,by rw[e1];exact hM,by rw[e2];exact hκ⟩
 inj:=fun i j c1 c2 hi hj hij=>by
  have hlti:i<qs.length:=by rw[←hlen];exact(H7.1 hi).1
  have hltj:j<qs.length:=by rw[←hlen];exact(H7.1 hj).1
  have hqi:qs[i]?=some qs[i]:=H4 hlti
  have hqj:qs[j]?=some qs[j]:=H4 hltj
  obtain⟨ci,h1,_⟩:=hq i _ c1 hqi hi
  obtain⟨cj,h2,_⟩:=hq j _ c2 hqj hj
  simp only[gIn,Ej hqi,Ej hqj] at hij
  have:=h.inj _ _ _ _ h1 h2 hij
  exact(List.getElem_inj hnd).1 this
 own:=fun k sz xs hx=>by rw[hown] at hx;simp at hx
 tags:=by rw[hown];simp
 sep:=fun x hx=>by rw[hown] at hx;simp at hx
 ownObj:=fun x hx=>by rw[hown] at hx;simp at hx
 fresh:=fun _ _ _=>rfl
def Dc(g gc':Gh)(k:Nat)(own':List (Nat×Nat×List V))(τ:Nat->Nat):Gh:=
 { M:=gc'.M,n:=g.n+(gc'.n-k),β:=fun j=>if j<g.n then g.β j else gc'.β (k+(j-g.n)),κ:=fun j=>if j<g.n then g.κ j else gc'.κ (k+(j-g.n)),ι:=fun t m=>match own'.find? (fun x=>τ x.1==t) with|some x=>gc'.ι x.1 m|none=>g.ι t m }
theorem AaS{own':List (Nat×Nat×List V)}{τ:Nat->Nat}(hτ:∀x∈own',∀y∈own',τ x.1=τ y.1->x.1=y.1){y:Nat×Nat×List V}(hy:y∈own'):∃x,own'.find? (fun x=>τ x.1==τ y.1)=some x/\x.1=y.1:=by
 cases h:own'.find? (fun x=>τ x.1==τ y.1) with
 |none=>have:=List.find?_eq_none.1 h y hy;simp at this
 |some x=>exact⟨x,rfl,hτ x (List.mem_of_find?_eq_some h) y hy (by have:=List.find?_some h;simpa using this)⟩
theorem WW{own':List (Nat×Nat×List V)}{τ:Nat->Nat}{t:Nat}(h:∀x∈own',τ x.1≠t):own'.find? (fun x=>τ x.1==t)=none:=List.find?_eq_none.2 fun x hx=>by simp[h x hx]
def Gg(τ:Nat->Nat)(own':List (Nat×Nat×List V)):List (Nat×Nat×List V):=own'.map fun x=>(τ x.1,x.2)
theorem D1{g gc':Gh}{k:Nat}{own':List (Nat×Nat×List V)}{τ:Nat->Nat}(hτ:∀x∈own',∀y∈own',τ x.1=τ y.1->x.1=y.1){y:Nat×Nat×List V}(hy:y∈own')(m:Nat):(Dc g gc' k own' τ).ι (τ y.1) m=gc'.ι y.1 m:=by
 obtain⟨x,h1,h2⟩:=AaS hτ hy
 simp only[Dc,h1,h2]
theorem BG{g gc':Gh}{k:Nat}{own':List (Nat×Nat×List V)}{τ:Nat->Nat}{t:Nat}(h:∀x∈own',τ x.1≠t)(m:Nat):(Dc g gc' k own' τ).ι t m=g.ι t m:=by
 simp only[Dc,WW h]
theorem WI.back{E:Ent}{g gc':Gh}{σ σc σc':St}{w w':World}(hw:WI E g σ w){qs:List Nat}(hown:σc.own=[])(hlen:σc.H.length=qs.length)
  (hq:∀(j q:Nat),qs[j]?=some q->∃cs,σ.H[q]?=some (some cs)) (h:WI ⟨gIn g qs,w,σc⟩ gc' σc' w') {τ:Nat->Nat} (hτ:∀x∈σc'.own,∀y∈σc'.own,τ x.1=τ y.1->x.1=y.1)
  (hfr:∀x∈σc'.own,∀y∈σ.own,τ x.1≠y.1) {H2:List (Option (List D))} (hlen2:H2.length=σc'.H.length)
  (hout:∀(j:Nat) (cs2:List D),H2[j]?=some (some cs2)->∃csc,σc'.H[j]?=some (some csc)/\(∀us,Ac gc' csc us->Ac (Dc g gc' qs.length σc'.own τ) cs2 us)/\∀c∈cs2,c.one=true):
  WI E (Dc g gc' qs.length σc'.own τ) ⟨CM σ.H qs H2,Gg τ σc'.own++σ.own⟩ w'/\g.le (Dc g gc' qs.length σc'.own τ):=by
 have hn':gc'.n=σc'.H.length:=h.rep.n
 have hkn:qs.length<=gc'.n:=h.nE
 have hgn:g.n=σ.H.length:=hw.rep.n
 have hold:∀y∈σ.own,∀x∈σc'.own,τ x.1≠y.1:=fun y hy x hx=>hfr x hx y hy
 have hle:g.le (Dc g gc' qs.length σc'.own τ):=by
  refine⟨h.M,Nat.le_add_right _ _,fun o ho=>HP ho,fun t m u ht=>?_,fun o ho=>HP ho⟩
  by_cases hx:∃x∈σc'.own,τ x.1=t
  ·obtain⟨x,hx,rfl⟩:=hx
   rw[hw.rep.fresh (τ x.1) (fun y hy e=>hfr x hx y hy e.symm) m] at ht
   simp at ht
  ·rw[BG (fun x hx' e=>hx ⟨x,hx',e⟩)];exact ht
 -- the callee's blocks
 have hpriv:∀b,Ent.priv ⟨gIn g qs,w,σc⟩ b->∃(j q:Nat),qs[j]?=some q/\b=g.β q:=by
  rintro b (⟨j,cs,hj,e⟩|⟨x,hx,_⟩)
  ·have hlt:j<qs.length:=by rw[←hlen];exact(H7.1 hj).1
   have hqj:qs[j]?=some qs[j]:=H4 hlt
   exact⟨j,_,hqj,by rw[e];simp only[gIn,Ej hqj]⟩
  ·simp only[hown] at hx;simp at hx
 have hβ:∀j,j<gc'.n->(Dc g gc' qs.length σc'.own τ).β (rho σ.H.length qs j)=gc'.β j/\(Dc g gc' qs.length σc'.own τ).κ (rho σ.H.length qs j)=gc'.κ j:=by
  intro j hj
  by_cases hlt:j<qs.length
  ·have hqj:qs[j]?=some qs[j]:=H4 hlt
   obtain⟨cs,hcs⟩:=hq j _ hqj
   have h1:qs[j]<g.n:=hw.rep.lt_n hcs
   have h2:=h.βE j hlt
   have h3:=h.κE j hlt
   simp only[gIn,Ej hqj] at h2 h3
   simp only[rho,hqj,Dc,HP h1,h2,h3,and_self]
  ·have hqj:qs[j]?=none:=Ir (by omega)
   have h1:¬σ.H.length+(j-qs.length)<g.n:=by omega
   have h2:qs.length+(σ.H.length+(j-qs.length)-g.n)=j:=by omega
   simp only[rho,hqj,Dc,HL h1,h2,and_self]
 -- what a block of the callee can be
 have hobjc:∀(j:Nat) (csc:List D),σc'.H[j]?=some (some csc)->w.heap.size<=gc'.β j∨∃(j' q:Nat),qs[j']?=some q/\gc'.β j=g.β q:=by
  intro j csc hj
  rcases h.objs j csc hj with h1|h1
  ·exact .inl h1
  ·exact .inr (hpriv _ h1)
 have hownc:∀x∈σc'.own,∀u,gc'.ι x.1 x.2.2.length=some u->∀b,BZ u=some b->w.heap.size<=b∨∃(j' q:Nat),qs[j']?=some q/\b=g.β q:=by
  intro x hx u hu b hb
  rcases h.owns x hx u hu b hb with h1|h1
  ·exact .inl h1
  ·exact .inr (hpriv _ h1)
 have hoff:∀(i:Nat) (cs:List D),σ.H[i]?=some (some cs)->i∉qs->∀(j q:Nat),qs[j]?=some q->g.β i≠g.β q:=by
  intro i cs hi hni j q hj e
  obtain⟨c2,h2⟩:=hq j q hj
  have:=hw.rep.inj i q _ _ hi h2 e
  subst this
  exact hni (HA hj)
 have keepOld:∀(i:Nat) (cs:List D),σ.H[i]?=some (some cs)->i∉qs->w'.heap[g.β i]?=w.heap[g.β i]?/\∀o,gc'.M (g.β i) o=g.M (g.β i) o:=by
  intro i cs hi hni
  refine h.keep (g.β i) (hw.rep.obj_lt hi) (fun hp=>?_)
  obtain⟨j,q,hj,e⟩:=hpriv _ hp
  exact hoff i cs hi hni j q hj e
 have keepOwn:∀x∈σ.own,∀u,g.ι x.1 x.2.2.length=some u->∀b,BZ u=some b->(b<w.heap.size/\∀(j q:Nat),qs[j]?=some q->b≠g.β q)/\w'.heap[b]?=w.heap[b]?/\∀o,gc'.M b o=g.M b o:=by
  intro x hx u hu b hb
  have hlt:=hw.rep.own_lt hx hu hb
  have hne:∀(j q:Nat),qs[j]?=some q->b≠g.β q:=fun j q hj e=>by
   obtain⟨c2,h2⟩:=hq j q hj
   exact hw.rep.ownObj x hx u hu b hb q c2 h2 e.symm
  refine⟨⟨hlt,hne⟩,h.keep b hlt (fun hp=>?_)⟩
  obtain⟨j,q,hj,e⟩:=hpriv _ hp
  exact hne j q hj e
 have get:∀{i:Nat} {cs:List D},(CM σ.H qs H2)[i]?=some (some cs)->(∃j,rho σ.H.length qs j=i/\H2[j]?=some (some cs)/\j<gc'.n)∨(i<σ.H.length/\i∉qs/\σ.H[i]?=some (some cs)):=by
  intro i cs hi
  rcases Pm qs σ.H H2 (by omega) hi with⟨j,h1,h2⟩|h1
  ·exact .inl ⟨j,h1,h2,by rw[hn', ←hlen2];exact(H7.1 h2).1⟩
  ·exact .inr h1
 have memO:∀{x:Nat×Nat×List V},x∈Gg τ σc'.own++σ.own->(∃y∈σc'.own,x=(τ y.1,y.2))∨x∈σ.own:=by
  intro x hx
  rcases Iq.1 hx with hx|hx
  ·obtain⟨y,hy,e⟩:=Il.1 hx;exact .inl ⟨y,hy,e.symm⟩
  ·exact .inr hx
 refine⟨hw.update (fun b=>∃(j q:Nat),qs[j]?=some q/\b=g.β q) ?_ (fun b hb hx=>h.keep b hb (fun hp=>hx (hpriv b hp))) h.M (Nat.le_add_right _ _) (fun o ho=>HP ho) (fun o ho=>HP ho) h.size h.os h.tape h.output ?_ ?_ ?_ (drawn:=h.drawn),hle⟩
 ·rintro b ⟨j,q,hj,rfl⟩
  obtain⟨c2,h2⟩:=hq j q hj
  exact hw.objs q c2 h2
 ·refine⟨?_,h.rep.mem,fun i cs hi=>?_,fun i j c1 c2 hi hj hij=>?_,fun k sz xs hx=>?_,?_,fun x hx y hy hne u u' hu hu' b hb=>?_,fun x hx u hu b hb i cs hi=>?_,fun k hk m=>?_,h.rep.gl,h.rep.gw⟩
  ·simp only[Dc];rw[JU qs _ _ (by omega)];omega
  ·rcases get hi with⟨j,rfl,h2,hj⟩|⟨h1,h2,h3⟩
   ·obtain⟨csc,h4,h5,h6⟩:=hout j cs h2
    obtain⟨us,rest,e,hb,hr,_,hM,hκ⟩:=h.rep.obj j csc h4
    obtain⟨e1,e2⟩:=hβ j hj
    exact⟨us,rest,e,by rw[e1];exact hb,h5 us hr,h6,by rw[e1];exact hM,by rw[e2];exact hκ⟩
   ·obtain⟨us,rest,e,hb,hr,h4,hM,hκ⟩:=hw.rep.obj i cs h3
    obtain⟨k1,k2⟩:=keepOld i cs h3 h2
    have e1:(Dc g gc' qs.length σc'.own τ).β i=g.β i:=HP (by omega)
    have e2:(Dc g gc' qs.length σc'.own τ).κ i=g.κ i:=HP (by omega)
    exact⟨us,rest,e,by rw[e1];exact k1.trans hb,Ac.mono hle _ _ hr,h4,by rw[e1];exact fun o=>(k2 o).trans (hM o),by rw[e2];exact hκ⟩
  ·rcases get hi with⟨ji,rfl,h2,hji⟩|⟨h1,h2,h3⟩<;>rcases get hj with⟨jj,rfl,h5,hjj⟩|⟨h4,h5,h6⟩
   ·rw[(hβ ji hji).1,(hβ jj hjj).1] at hij
    obtain⟨ci,hci,_⟩:=hout ji _ h2
    obtain⟨cj,hcj,_⟩:=hout jj _ h5
    rw[h.rep.inj ji jj _ _ hci hcj hij]
   ·rw[(hβ ji hji).1,show(Dc g gc' qs.length σc'.own τ).β j=g.β j from HP (by omega)] at hij
    obtain⟨ci,hci,_⟩:=hout ji _ h2
    have hlt:=hw.rep.obj_lt h6
    rcases hobjc ji ci hci with h7|⟨j',q,h7,h8⟩
    ·omega
    ·exact absurd (hij.symm.trans h8) (hoff j _ h6 h5 j' q h7)
   ·rw[(hβ jj hjj).1,show(Dc g gc' qs.length σc'.own τ).β i=g.β i from HP (by omega)] at hij
    obtain⟨cj,hcj,_⟩:=hout jj _ h5
    have hlt:=hw.rep.obj_lt h3
    rcases hobjc jj cj hcj with h7|⟨j',q,h7,h8⟩
    ·omega
    ·exact absurd (hij.trans h8) (hoff i _ h3 h2 j' q h7)
   ·rw[show(Dc g gc' qs.length σc'.own τ).β i=g.β i from HP (by omega),show(Dc g gc' qs.length σc'.own τ).β j=g.β j from HP (by omega)] at hij
    exact hw.rep.inj i j _ _ h3 h6 hij
  ·rcases memO hx with⟨y,hy,e⟩|hx
   ·simp only[Prod.mk.injEq] at e
    obtain⟨rfl,e2⟩:=e
    obtain⟨h0,u,hu,h3,h4,h5⟩:=h.rep.own y.1 sz xs (by rw[show(y.1,sz,xs)=y from by rw[e2]];exact hy)
    exact⟨h0,u,by rw[D1 hτ hy];exact hu,h3,h4,fun m hm=>by rw[D1 hτ hy];exact h5 m hm⟩
   ·obtain⟨h0,u,hu,h3,h4,h5⟩:=hw.rep.own k sz xs hx
    exact⟨h0,u,by rw[BG (hold _ hx)];exact hu,h3.mono h.M,h4.kept fun b hb=>(keepOwn _ hx u hu b hb).2,fun m hm=>by rw[BG (hold _ hx)];exact h5 m hm⟩
  ·simp only[IJ]
   refine List.nodup_append.2 ⟨?_,hw.rep.tags,fun a ha b hb e=>?_⟩
   ·have:(Gg τ σc'.own).map (·.1)=(σc'.own.map (·.1)).map τ:=by simp[Gg,Function.comp_def]
    rw[this]
    refine List.pairwise_map.2 (List.Pairwise.imp_of_mem ?_ h.rep.tags)
    intro a b ha hb hne e
    obtain⟨x,hx,rfl⟩:=Il.1 ha
    obtain⟨y,hy,rfl⟩:=Il.1 hb
    exact hne (hτ x hx y hy e)
   ·obtain⟨x,hx,rfl⟩:=Il.1 ha
    obtain⟨y,hy,rfl⟩:=Il.1 hb
    obtain⟨z,hz,rfl⟩:=Il.1 hx
    exact hfr z hz y hy e
  ·rcases memO hx with⟨x',hx',rfl⟩|hx<;>rcases memO hy with⟨y',hy',rfl⟩|hy
   ·rw[D1 hτ hx'] at hu;rw[D1 hτ hy'] at hu'
    exact h.rep.sep x' hx' y' hy' (fun e=>hne (by simp only[e])) u u' hu hu' b hb
   ·rw[D1 hτ hx'] at hu;rw[BG (hold _ hy)] at hu'
    intro hb'
    obtain⟨⟨hlt,hne'⟩,_⟩:=keepOwn y hy u' hu' b hb'
    rcases hownc x' hx' u hu b hb with h7|⟨j',q,h7,h8⟩
    ·omega
    ·exact hne' j' q h7 h8
   ·rw[BG (hold _ hx)] at hu;rw[D1 hτ hy'] at hu'
    intro hb'
    obtain⟨⟨hlt,hne'⟩,_⟩:=keepOwn x hx u hu b hb
    rcases hownc y' hy' u' hu' b hb' with h7|⟨j',q,h7,h8⟩
    ·omega
    ·exact hne' j' q h7 h8
   ·rw[BG (hold _ hx)] at hu;rw[BG (hold _ hy)] at hu'
    exact hw.rep.sep x hx y hy hne u u' hu hu' b hb
  ·rcases memO hx with⟨x',hx',rfl⟩|hx<;>rcases get hi with⟨ji,rfl,h2,hji⟩|⟨h1,h2,h3⟩
   ·rw[D1 hτ hx'] at hu
    obtain⟨ci,hci,_⟩:=hout ji _ h2
    rw[(hβ ji hji).1]
    exact h.rep.ownObj x' hx' u hu b hb ji ci hci
   ·rw[D1 hτ hx'] at hu
    rw[show(Dc g gc' qs.length σc'.own τ).β i=g.β i from HP (by omega)]
    have hlt:=hw.rep.obj_lt h3
    rcases hownc x' hx' u hu b hb with h7|⟨j',q,h7,h8⟩
    ·omega
    ·rw[h8];exact hoff i _ h3 h2 j' q h7
   ·rw[BG (hold _ hx)] at hu
    obtain⟨ci,hci,_⟩:=hout ji _ h2
    rw[(hβ ji hji).1]
    obtain⟨⟨hlt,hne'⟩,_⟩:=keepOwn x hx u hu b hb
    rcases hobjc ji ci hci with h7|⟨j',q,h7,h8⟩
    ·omega
    ·rw[h8];exact fun e=>hne' j' q h7 e.symm
   ·rw[BG (hold _ hx)] at hu
    rw[show(Dc g gc' qs.length σc'.own τ).β i=g.β i from HP (by omega)]
    exact hw.rep.ownObj x hx u hu b hb i cs h3
  ·rw[BG (fun x hx e=>hk (τ x.1,x.2) (Iq.2 (.inl (Il.2 ⟨x,hx,rfl⟩))) e)]
   exact hw.rep.fresh k (fun x hx=>hk x (Iq.2 (.inr hx))) m
 ·intro i cs hi
  rcases get hi with⟨j,rfl,h2,hj⟩|⟨h1,h2,h3⟩
  ·obtain⟨csc,h4,_⟩:=hout j cs h2
   rw[(hβ j hj).1]
   rcases hobjc j csc h4 with h5|⟨j',q,h5,h6⟩
   ·exact .inl (Iz hw.size h5)
   ·obtain⟨c2,h7⟩:=hq j' q h5
    rw[h6];exact hw.objs q c2 h7
  ·rw[show(Dc g gc' qs.length σc'.own τ).β i=g.β i from HP (by omega)]
   exact hw.objs i cs h3
 ·intro x hx u hu b hb
  rcases memO hx with⟨x',hx',rfl⟩|hx
  ·rw[D1 hτ hx'] at hu
   rcases hownc x' hx' u hu b hb with h5|⟨j',q,h5,h6⟩
   ·exact .inl (Iz hw.size h5)
   ·obtain⟨c2,h7⟩:=hq j' q h5
    rw[h6];exact hw.objs q c2 h7
  ·rw[BG (hold _ hx)] at hu
   exact hw.owns x hx u hu b hb
mutual
def D.ren(ρ τ:Nat->Nat):D->D
 |.v x=>.v x
 |.acc t xs=>.acc (τ t) xs
 |.ptr o off=>.ptr (ρ o) off
 |.arr o off len=>.arr (ρ o) off len
 |.gro o len sz=>.gro (ρ o) len sz
 |.raw x=>.raw x
 |.rv x u=>.rv x u
 |.dagg cs=>.dagg (D.rens ρ τ cs)
 |.dfn f fs cs=>.dfn f (D.rens ρ τ fs) (D.rens ρ τ cs)
 |.tup ds=>.tup (D.rens ρ τ ds)
 |.err=>.err
 |.undef=>.undef
def D.rens(ρ τ:Nat->Nat):List D->List D
 |[]=>[]
 |d::ds=>d.ren ρ τ::D.rens ρ τ ds
end
mutual
def D.okN(n:Nat)(ts:List Nat):D->Bool
 |.acc t _=>ts.contains t
 |.ptr o _|.arr o _ _|.gro o _ _=>decide (o<n)
 |.dagg cs=>D.okNs n ts cs
 |.dfn _ fs cs=>D.okNs n ts fs&&D.okNs n ts cs
 |.tup ds=>D.okNs n ts ds
 |_=>true
def D.okNs(n:Nat)(ts:List Nat):List D->Bool
 |[]=>true
 |d::ds=>d.okN n ts&&D.okNs n ts ds
end
mutual
theorem Kq{g g':Gh}{ρ τ ρ' τ':Nat->Nat}{n:Nat}{ts:List Nat}(hM:∀x u,repV g.M x u->repV g'.M x u)(ho:∀o,o<n->ρ o<g.n->ρ' o<g'.n/\g'.β (ρ' o)=g.β (ρ o)/\g'.κ (ρ' o)=g.κ (ρ o))
  (hι:∀t,ts.contains t=true->∀m u,g.ι (τ t) m=some u->g'.ι (τ' t) m=some u):∀(d:D) (u:Value),d.okN n ts=true->Ae g (d.ren ρ τ) u->Ae g' (d.ren ρ' τ') u
 |.v x,u,_,h=>by simp only[D.ren,Ae] at h⊢;exact hM _ _ h
 |.acc t xs,u,hk,h=>by simp only[D.ren,Ae] at h⊢;exact⟨hM _ _ h.1,hι t (by simpa[D.okN] using hk) _ _ h.2⟩
 |.ptr o off,u,hk,h=>by
  simp only[D.okN,HE] at hk
  simp only[D.ren,Ae] at h⊢
  obtain⟨h1,h2,_⟩:=ho o hk h.1
  exact⟨h1,by rw[h2];exact h.2⟩
 |.arr o off len,u,hk,h=>by
  simp only[D.okN,HE] at hk
  simp only[D.ren,Ae] at h⊢
  obtain⟨h1,h2,_⟩:=ho o hk h.1
  exact⟨h1,by rw[h2];exact h.2⟩
 |.gro o len sz,u,hk,h=>by
  simp only[D.okN,HE] at hk
  simp only[D.ren,Ae] at h⊢
  obtain⟨h1,h2,h3⟩:=ho o hk h.1
  exact⟨h1,by rw[h2,h3];exact h.2⟩
 |.raw x,u,_,h=>by simpa only[D.ren,Ae] using h
 |.rv x u0,u,_,h=>by simp only[D.ren,Ae] at h⊢;exact⟨h.1,hM _ _ h.2⟩
 |.dagg cs,u,hk,h=>by
  simp only[D.ren,Ae] at h⊢
  obtain⟨us,e,h1⟩:=h
  exact⟨us,e,Dg hM ho hι cs us (by simpa[D.okN] using hk) h1⟩
 |.dfn f fs cs,u,hk,h=>by
  simp only[D.okN,H5] at hk
  simp only[D.ren,Ae] at h⊢
  obtain⟨us,vs,e,h1,h2⟩:=h
  exact⟨us,vs,e,Dg hM ho hι fs us hk.1 h1,Dg hM ho hι cs vs hk.2 h2⟩
 |.tup ds,u,hk,h=>by
  simp only[D.ren,Ae] at h⊢
  obtain⟨us,e,h1⟩:=h
  exact⟨us,e,Dg hM ho hι ds us (by simpa[D.okN] using hk) h1⟩
 |.err,u,_,h=>by simpa only[D.ren,Ae] using h
 |.undef,u,_,_=>by simp only[D.ren,Ae]
theorem Dg{g g':Gh}{ρ τ ρ' τ':Nat->Nat}{n:Nat}{ts:List Nat}(hM:∀x u,repV g.M x u->repV g'.M x u)(ho:∀o,o<n->ρ o<g.n->ρ' o<g'.n/\g'.β (ρ' o)=g.β (ρ o)/\g'.κ (ρ' o)=g.κ (ρ o))
  (hι:∀t,ts.contains t=true->∀m u,g.ι (τ t) m=some u->g'.ι (τ' t) m=some u):∀(ds:List D) (us:List Value),D.okNs n ts ds=true->Ac g (D.rens ρ τ ds) us->Ac g' (D.rens ρ' τ' ds) us
 |[],us,_,h=>by simpa only[D.rens,Ac] using h
 |d::ds,us,hk,h=>by
  simp only[D.okNs,H5] at hk
  simp only[D.rens,Ac] at h⊢
  obtain⟨u,us',e,h1,h2⟩:=h
  exact⟨u,us',e,Kq hM ho hι d u hk.1 h1,Dg hM ho hι ds us' hk.2 h2⟩
end
mutual
theorem LW:∀d:D,d.ren id id=d
 |.v _|.acc .. |.ptr .. |.arr .. |.gro .. |.raw _|.rv .. |.err|.undef=>by simp[D.ren]
 |.dagg cs=>by simp[D.ren,DX cs]
 |.dfn f fs cs=>by simp[D.ren,DX fs,DX cs]
 |.tup ds=>by simp[D.ren,DX ds]
theorem DX:∀ds:List D,D.rens id id ds=ds
 |[]=>rfl
 |d::ds=>by simp[D.rens,LW d,DX ds]
end
mutual
theorem VF:∀(ρ τ:Nat->Nat) (d:D),(d.ren ρ τ).one=d.one
 |ρ,τ,d=>by cases d<;>simp[D.ren,D.one]
end
theorem Rc{ρ τ:Nat->Nat}:∀{ds:List D},(∀c∈ds,c.one=true)->∀c∈D.rens ρ τ ds,c.one=true
 |[],_,c,hc=>by simp[D.rens] at hc
 |d::ds,h,c,hc=>by
  simp only[D.rens,Ij] at hc
  rcases hc with rfl|hc
  ·rw[VF];exact h d (by simp)
  ·exact Rc (fun c hc=>h c (by simp[hc])) c hc
inductive Ae6 (n:Nat) (qs:List Nat):D->D->Prop
 |ren {dc:D} (h:dc.okN qs.length []=true):Ae6 n qs (dc.ren (rho n qs) id) dc
 |acc {t:Nat} {xs:List V}:Ae6 n qs (.acc t xs) (.v (.list xs))
 |undef {d:D}:Ae6 n qs d .undef
inductive G3 (n:Nat) (qs:List Nat):List D->List D->Prop
 |nil:G3 n qs [] []
 |cons {d dc:D} {ds dcs:List D} (h:Ae6 n qs d dc) (hs:G3 n qs ds dcs):G3 n qs (d::ds) (dc::dcs)
inductive NL (H:List (Option (List D))) (qs:List Nat):List Nat->List (Option (List D))->Prop
 |nil:NL H qs [] []
 |cons {q:Nat} {js:List Nat} {cs csc:List D} {os:List (Option (List D))} (h:H[q]?=some (some cs)) (ha:G3 H.length qs cs csc) (h1:csc.all D.one=true) (hs:NL H qs js os):NL H qs (q::js) (some csc::os)
theorem NL.length{H:List (Option (List D))}{qs:List Nat}:∀{js:List Nat} {os:List (Option (List D))},NL H qs js os->os.length=js.length
 |_,_,.nil=>rfl
 |_,_,.cons _ _ _ hs=>by simp[hs.length]
theorem NL.get{H:List (Option (List D))}{qs:List Nat}:∀{js:List Nat} {os:List (Option (List D))},NL H qs js os->∀{j q:Nat},js[j]?=some q->∃cs csc,H[q]?=some (some cs)/\os[j]?=some (some csc)/\G3 H.length qs cs csc/\∀c∈csc,c.one=true
 |_,_,.nil,j,q,h=>by simp at h
 |_,_,.cons h ha h1 hs,j,q,hj=>by
  cases j with
  |zero=>simp at hj;subst hj;exact⟨_,_,h,by simp,ha,by simpa using h1⟩
  |succ j=>simp at hj;obtain⟨cs,csc,h2,h3,h4⟩:=hs.get hj;exact⟨cs,csc,h2,by simpa using h3,h4⟩
theorem AfD{n:Nat}{qs:List Nat}{j:Nat}(h:j<qs.length):rho n qs j=qs.getD j 0:=by
 have hqj:qs[j]?=some qs[j]:=H4 h
 simp only[rho,hqj,Ej hqj]
theorem Ae6.rep{g:Gh}{qs:List Nat}{d dc:D}(h:Ae6 g.n qs d dc){u:Value}(hr:Ae g d u):Ae (gIn g qs) dc u:=by
 cases h with
 |ren hk=>
  have:=Kq (g:=g) (g':=gIn g qs) (ρ:=rho g.n qs) (τ:=id) (ρ':=id) (τ':=id) (n:=qs.length) (ts:=[]) (fun _ _ h=>h) (fun o ho _=>⟨ho,by simp only[gIn,id,AfD ho,and_self]⟩) (fun t ht=>by simp at ht) dc u hk hr
  rwa[LW] at this
 |acc=>simp only[Ae] at hr⊢;exact hr.1
 |undef=>simp only[Ae]
theorem G3.rep{g:Gh}{qs:List Nat}:∀{ds dcs:List D},G3 g.n qs ds dcs->∀{us:List Value},Ac g ds us->Ac (gIn g qs) dcs us
 |_,_,.nil,us,h=>by simpa only[Ac] using h
 |_,_,.cons h hs,us,hr=>by
  simp only[Ac] at hr⊢
  obtain⟨u,us',e,h1,h2⟩:=hr
  exact⟨u,us',e,h.rep h1,hs.rep h2⟩
def Nu:D->Option (FuncId×List D×List D)
 |.v (.fn f fs cs)=>some (f,fs.map .v,cs.map .v)
 |.dfn f fs cs=>some (f,fs,cs)
 |_=>none
theorem Qj{g:Gh}{d:D}{f:FuncId}{fs cs:List D}(h:Nu d=some (f,fs,cs)){u:Value}(hr:Ae g d u):∃us vs,u=.func (.func f) us.toArray vs.toArray/\Ac g fs us/\Ac g cs vs:=by
 unfold Nu at h
 split at h
 ·simp only[Ia,Prod.mk.injEq] at h
  obtain⟨rfl,rfl,rfl⟩:=h
  simp only[Ae,FZ] at hr
  obtain⟨us,vs,e,h1,h2⟩:=hr
  exact⟨us,vs,e,DM h1,DM h2⟩
 ·simp only[Ia,Prod.mk.injEq] at h
  obtain⟨rfl,rfl,rfl⟩:=h
  simpa only[Ae] using hr
 ·simp at h
def okH(n:Nat)(ts:List Nat):List (Option (List D))->Bool
 |[]=>true
 |some cs::H=>D.okNs n ts cs&&okH n ts H
 |none::H=>okH n ts H
theorem MY{n:Nat}{ts:List Nat}:∀{H:List (Option (List D))},okH n ts H=true->∀{j:Nat} {cs:List D},H[j]?=some (some cs)->D.okNs n ts cs=true
 |[],_,j,cs,h=>by simp at h
 |some c::H,hk,j,cs,h=>by
  simp only[okH,H5] at hk
  cases j with
  |zero=>simp at h;subst h;exact hk.1
  |succ j=>exact MY hk.2 (by simpa using h)
 |none::H,hk,j,cs,h=>by
  simp only[okH] at hk
  cases j with
  |zero=>simp at h
  |succ j=>exact MY hk (by simpa using h)
def Gi(ρ τ:Nat->Nat)(H:List (Option (List D))):List (Option (List D)):=H.map (Option.map (D.rens ρ τ))
section
variable {P : Program} {o : Oper} {σ : St}
theorem CT{c:Call}{fo:Operand}(ho:o.op=.call c)(hc:c.callee=.value fo){fD:D}{f:FuncId}{fs cs:List D}(hf:Nu fD=some (f,fs,cs)){ds dsc:List D}{σc σc':St}{dc:D}(qs:List Nat)(τ:Nat->Nat)
  (hspec:Aa P f dsc σc dc σc') (hargs:G3 σ.H.length qs (fs++ds++cs) dsc) (hobjs:NL σ.H qs qs σc.H) (hnd:qs.Nodup) (hown:σc.own=[]) (hτ:∀x∈σc'.own,∀y∈σc'.own,τ x.1=τ y.1->x.1=y.1)
  (hfr:∀x∈σc'.own,∀y∈σ.own,τ x.1≠y.1) (hokd:dc.okN σc'.H.length (σc'.own.map (·.1))=true) (hokH:okH σc'.H.length (σc'.own.map (·.1)) σc'.H=true):
  Ah P o (fD::ds) σ (dc.ren (rho σ.H.length qs) τ) ⟨CM σ.H qs (Gi (rho σ.H.length qs) τ σc'.H),Gg τ σc'.own++σ.own⟩:=by
 intro E g a w K Q hw hds hK
 have hn:g.n=σ.H.length:=hw.rep.n
 simp only[ho,Op.operands,Call.operands,hc] at hds
 have h':Ac g (fD::ds) (a.eval fo::c.args.toList.map a.eval):=by simpa using hds
 simp only[Ac] at h'
 obtain⟨u,us',e,h1,h2⟩:=h'
 simp only[HH] at e
 obtain⟨e1,e2⟩:=e
 obtain⟨us,vs,e3,h3,h4⟩:=Qj hf h1
 refine E4 (_E:=E) (_g:=g) ho hc hspec.1 (e1.trans e3) e2 ?_
 rw[←hn] at hargs
 have hq:∀(j q:Nat),qs[j]?=some q->∃cs csc,σ.H[q]?=some (some cs)/\σc.H[j]?=some (some csc)/\G3 g.n qs cs csc/\∀c∈csc,c.one=true:=fun j q hj=>by rw[hn];exact hobjs.get hj
 have hrep:WRep (gIn g qs) σc w:=hw.rep.callee hnd hown hobjs.length (fun j q csc hj hcj=>by
  obtain⟨cs,csc',h5,h6,h7,h8⟩:=hq j q hj
  rw[h6] at hcj;simp at hcj;subst hcj
  exact⟨cs,h5,fun us hr=>h7.rep hr,h8⟩)
 refine Calls.mono (hspec.2 _ w _ hrep (hargs.rep (Ap (Ap h3 h2) h4))) ?_
 rintro e w' ⟨r,gc',rfl,hw',hr⟩
 have hn':gc'.n=σc'.H.length:=hw'.rep.n
 have hkn:qs.length<=gc'.n:=hw'.nE
 have hρ:∀j,j<σc'.H.length->rho σ.H.length qs j<(Dc g gc' qs.length σc'.own τ).n/\(Dc g gc' qs.length σc'.own τ).β (rho σ.H.length qs j)=gc'.β j/\(Dc g gc' qs.length σc'.own τ).κ (rho σ.H.length qs j)=gc'.κ j:=by
  intro j hj
  by_cases hlt:j<qs.length
  ·have hqj:qs[j]?=some qs[j]:=H4 hlt
   obtain⟨cs,_,hcs,_⟩:=hq j _ hqj
   have h5:qs[j]<g.n:=hw.rep.lt_n hcs
   have h6:=hw'.βE j hlt
   have h7:=hw'.κE j hlt
   simp only[gIn,Ej hqj] at h6 h7
   simp only[rho,hqj,Dc,HP h5,h6,h7,and_self,Ih]
   omega
  ·have hqj:qs[j]?=none:=Ir (by omega)
   have h5:¬σ.H.length+(j-qs.length)<g.n:=by omega
   have h6:qs.length+(σ.H.length+(j-qs.length)-g.n)=j:=by omega
   simp only[rho,hqj,Dc,HL h5,h6,and_self,Ih]
   omega
 have hren:∀(dd:D) (v:Value),dd.okN σc'.H.length (σc'.own.map (·.1))=true->Ae gc' dd v->Ae (Dc g gc' qs.length σc'.own τ) (dd.ren (rho σ.H.length qs) τ) v:=by
  intro dd v hk hv
  refine Kq (g:=gc') (g':=Dc g gc' qs.length σc'.own τ) (ρ:=id) (τ:=id) (ρ':=rho σ.H.length qs) (τ':=τ) (n:=σc'.H.length) (ts:=σc'.own.map (·.1)) (fun _ _ h=>h) (fun o ho _=>hρ o ho) (fun t ht m x hx=>?_) dd v hk (by rw[LW];exact hv)
  simp only[List.contains_iff_mem,Il] at ht
  obtain⟨y,hy,rfl⟩:=ht
  rw[D1 hτ hy];exact hx
 have hrens:∀(dd:List D) (v:List Value),D.okNs σc'.H.length (σc'.own.map (·.1)) dd=true->Ac gc' dd v->Ac (Dc g gc' qs.length σc'.own τ) (D.rens (rho σ.H.length qs) τ dd) v:=by
  intro dd v hk hv
  refine Dg (g:=gc') (g':=Dc g gc' qs.length σc'.own τ) (ρ:=id) (τ:=id) (ρ':=rho σ.H.length qs) (τ':=τ) (n:=σc'.H.length) (ts:=σc'.own.map (·.1)) (fun _ _ h=>h) (fun o ho _=>hρ o ho) (fun t ht m x hx=>?_) dd v hk (by rw[DX];exact hv)
  simp only[List.contains_iff_mem,Il] at ht
  obtain⟨y,hy,rfl⟩:=ht
  rw[D1 hτ hy];exact hx
 obtain⟨h8,h9⟩:=hw.back hown hobjs.length (fun j q hj=>by obtain⟨cs,_,h5,_⟩:=hq j q hj;exact⟨cs,h5⟩) hw' hτ hfr (H2:=Gi (rho σ.H.length qs) τ σc'.H) (by simp[Gi]) (fun j cs2 hj=>by
  simp only[Gi,Ik] at hj
  cases hcj:σc'.H[j]? with
  |none=>simp[hcj] at hj
  |some oc=>
   cases oc with
   |none=>simp[hcj] at hj
   |some csc=>
    simp[hcj] at hj
    subst hj
    obtain⟨_,_,_,_,_,h1c,_⟩:=hw'.rep.obj j csc hcj
    exact⟨csc,rfl,fun us hus=>hrens csc us (MY hokH hcj) hus,Rc h1c⟩)
 exact⟨r,rfl,hK _ _ _ h8 h9 (hren dc r hokd hr)⟩
end
theorem WI.kill{E:Ent}{g:Gh}{σ:St}{w:World}(hw:WI E g σ w){q:Nat}{cs:List D}(hq:σ.H[q]?=some (some cs)):WI E g ⟨σ.H.set q none,σ.own⟩ w:=
 hw.setObjG (M':=g.M) (oc:=none) (Mem.le_refl _) hq (fun _ h=>by simp at h) (fun _ _ _=>⟨rfl,fun _=>rfl⟩) hw.rep.mem (HB _) rfl rfl rfl
theorem FW{H:List (Option (List D))}{q i:Nat}{cs:List D}(h:(H.set q none)[i]?=some (some cs)):i≠q/\H[i]?=some (some cs):=by
 rw[getElem?_set] at h
 split at h
 ·split at h<;>simp at h
 ·rename_i e;exact⟨fun e'=>e e'.symm,h⟩
theorem WI.rename{E:Ent}{g:Gh}{σ:St}{w:World}(hw:WI E g σ w){q:Nat}{cs:List D}(hq:σ.H[q]?=some (some cs)):
  ∃g',WI E g' ⟨σ.H.set q none++[some cs],σ.own⟩ w/\g.le g'/\g'.β σ.H.length=g.β q/\g'.κ σ.H.length=g.κ q/\g'.n=σ.H.length+1:=by
 obtain⟨us,rest,e,hb,hr,h1,hM,hκ⟩:=hw.rep.obj q cs hq
 obtain⟨h2,h3⟩:=(hw.kill hq).addObj (b:=g.β q) (us:=us) (rest:=rest) (e:=e) (cs:=cs) hb (hw.objs q cs hq) hM
  (fun i ci hi e'=>by
   obtain⟨hne,hi'⟩:=FW hi
   exact hne (hw.rep.inj i q _ _ hi' hq e'))
  (fun x hx u hu hb'=>hw.rep.ownObj x hx u hu _ hb' q cs hq rfl) hr h1
 refine⟨_,h2,h3,?_,?_,?_⟩
 ·simp[hw.rep.n]
 ·simp only[hw.rep.n,IC];exact hκ
 ·simp[hw.rep.n]
theorem WI.newObjR{E:Ent}{g:Gh}{σ:St}{w:World}(hw:WI E g σ w){us rest:List Value}{cs:List D}(e:TypeId)(hr:Ac g cs us)(h1:∀c∈cs,c.one=true):
  ∃g',WI E g' ⟨σ.H++[some cs],σ.own⟩ (w.alloc (.cells (us++rest).toArray e))/\g.le g'/\g'.β σ.H.length=w.heap.size/\g'.κ σ.H.length=(us++rest).length/\g'.n=σ.H.length+1:=by
 have h2:=(hw.alloc (.cells (us++rest).toArray e)).addObj (b:=w.heap.size) (us:=us) (rest:=rest) (e:=e) (cs:=cs) (heap_alloc_new w _) (.inl hw.size) (hw.rep.new_none (HB _))
  (fun i cs hi=>Nat.ne_of_lt (hw.rep.obj_lt hi)) (fun x hx u hu hb=>by have:=hw.rep.own_lt hx hu hb;omega) hr h1
 exact⟨_,h2.1,h2.2,by simp[hw.rep.n],by simp[hw.rep.n],by simp[hw.rep.n]⟩
section
variable {P : Program} {o : Oper} {σ : St} {d : D}
end
inductive Ho:List Operand->List D->List D->Prop
 |nil:Ho [] [] []
 |same {x:Operand} {d:D} {xs:List Operand} {ds ds':List D} (h:Ho xs ds ds'):Ho (x::xs) (d::ds) (d::ds')
 |const {u:Value} {d:D} {xs:List Operand} {ds ds':List D} (h:Ho xs ds ds'):Ho (.const u::xs) (d::ds) (.raw u::ds')
section
variable {P : Program} {o : Oper} {σ : St} {d : D}
end
theorem WI.review{E:Ent}{g:Gh}{σ:St}{w:World}(hw:WI E g σ w){q:Nat}{cs cs':List D}(hq:σ.H[q]?=some (some cs))(h:∀us,Ac g cs us->Ac g cs' us)(h1:∀c∈cs',c.one=true):WI E g ⟨σ.H.set q (some cs'),σ.own⟩ w:=by
 obtain⟨us,rest,e,hb,hr,_,_,hκ⟩:=hw.rep.obj q cs hq
 exact hw.setObj hq hb hκ (h us hr) h1 (fun _ _=>rfl) rfl rfl rfl rfl
theorem Ed{α:Type}{l:List α}{s:Nat}{u:α}(h:l[s]?=some u):l.set s u=l:=by
 apply ext_getElem?
 intro i
 rw[getElem?_set]
 split
 ·rename_i e;subst e
  split
  ·exact h.symm
  ·rw[Ir (by omega)]
 ·rfl
theorem UM{g:Gh}{d:D}{x:V}{u:Value}(h:d.toV=some x)(hr:Ae g d u):repC g.M x u.cells.toList:=J1 (Hs h hr)
section
variable {P : Program} {o : Oper} {σ : St} {d : D}
theorem Ad7{e:TypeId}{x:Operand}(ho:o.op=.box e x){y:V}(hy:d.toV=some y):Ah P o [d] σ (.v (.ref y)) σ:=by
 intro E g a w K Q hw hds hK
 simp only[ho,Op.operands,A2] at hds
 obtain⟨u,eu,hd⟩:=hds
 simp at eu
 have hc:=UM hy hd
 obtain⟨hw',hle⟩:=hw.newImm u.cells.toList [] e
 rw[Is] at hw'
 have:=hK _ _ (.pointer (some ⟨w.heap.size,0,none⟩)) hw' hle (by
  simp only[Ae,CA]
  exact⟨w.heap.size,0,u.cells.toList,rfl,NI g.M w.heap.size _,repC.mono hle.M _ _ hc⟩)
 unfold Oper.wp execOp
 simpa[ho,eu,Instr.box,newVar,newRow,Oper.upon] using this
end
section
variable {P : Program} {o : Oper}
end
section
variable {C : Ent -> Ent -> Prop} {P : Program} {R : List D -> St -> Prop} {c : Code} {p : List Nat} {k : List KI} {env env' : List D} {σ σ' : St} {i : Nat} {o : Oper} {d : D}
end
def Pf:Value->Option V
 |.slice none 0 0=>some .nils
 |u=>Pe u
def EA:List Value->Option (List V)
 |[]=>some []
 |u::us=>match Pf u,EA us with
  |some x,some xs=>some (x::xs)
  |_,_=>none
theorem Mk{M:Mem}{u:Value}{x:V}(h:Pf u=some x):x.isAgg=false/\repC M x [u]:=by
 unfold Pf at h
 split at h
 ·simp at h;subst h;simp[V.isAgg,repC]
 ·exact JF h
theorem Em{M:Mem}:∀{us:List Value} {xs:List V},EA us=some xs->repA M xs us
 |[],xs,h=>by simp[EA] at h;subst h;simp[repA]
 |u::us,xs,h=>by
  simp only[EA] at h
  split at h
  ·rename_i x xs' h1 h2
   simp at h;subst h
   obtain⟨h3,h4⟩:=Mk (M:=M) h1
   simp only[repA]
   exact⟨u,us,rfl,h3,h4,Em h2⟩
  ·simp at h
def M3(P:Program)(t:TypeId):Option (List V):=
 match (P.info? t).bind (·.zero) with
 |some z=>EA z.cells.toList
 |none=>none
theorem KC{P:Program}{t:TypeId}{xs:List V}(h:M3 P t=some xs):∃i z,P.info? t=some i/\i.zero=some z/\EA z.cells.toList=some xs:=by
 unfold M3 at h
 split at h
 ·rename_i z hz
  cases hi:P.info? t with
  |none=>simp[hi] at hz
  |some i=>exact⟨i,z,rfl,by simpa[hi] using hz,h⟩
 ·simp at h
def AiU(P:Program)(t:TypeId):Option (List V×List (Nat×Nat)):=
 match M3 P t,P.underlying t with
 |some z,some (.struct fs)=>(fs.toList.mapM (fun f=>(P.info? f.type).map fun i=>(f.offset,i.size))).map fun p=>(z,p)
 |_,_=>none
section
variable {P : Program} {o : Oper} {σ : St} {d : D}
theorem O9{e:TypeId}(ho:o.op=.alloc e){xs:List V}(hz:M3 P e=some xs):Ah P o [] σ (.ptr σ.H.length 0) ⟨σ.H++[some (xs.map .v)],σ.own⟩:=by
 intro E g a w K Q hw hds hK
 obtain⟨i,z,hi,hz1,hc⟩:=KC hz
 obtain⟨h2,h3⟩:=CZ (g:=g) (Em hc)
 obtain⟨g',hw',hle,hβ,hn⟩:=hw.newObj e h2 h3
 have:=hK g' _ (.pointer (some ⟨w.heap.size,0,none⟩)) hw' hle (by simp only[Ae];exact⟨by omega,by rw[hβ]⟩)
 unfold Oper.wp execOp
 simpa[ho,Instr.alloc,zeroValue,typeInfo,hi,hz1,newVar,newRow,Oper.upon] using this
theorem Wu{t:TypeId}{parts:Array (Nat×Operand)}(ho:o.op=.build t parts){z:List V}{places:List (Nat×Nat)}(hb:AiU P t=some (z,places)){ds:List D}{xs:List (Nat×V)}{out:List V}
  (hx:C6 parts.toList ds=some xs) (hf:FC (places[·]?) z xs=some out):Ah P o ds σ (.v (.agg out)) σ:=by
 intro E g a w K Q hw hds hK
 simp only[ho,Op.operands] at hds
 have hpr:=FQ hx (a:=a) (g:=g) (by simpa[Function.comp_def] using hds)
 unfold AiU at hb
 have key:∃U,P.built t (parts.toList.map fun p=>(p.1,a.eval p.2))=some U/\repA g.M out U.toList:=by
  cases hz:M3 P t with
  |none=>simp[hz] at hb
  |some z0=>
   obtain⟨i,zv,hi,hz1,hcv⟩:=KC hz
   cases hu:P.underlying t with
   |none=>simp[hz,hu] at hb
   |some dd=>
    cases dd<;>simp only[hz,hu,reduceCtorEq] at hb
    case struct fs=>
     cases hp:fs.toList.mapM (fun f=>(P.info? f.type).map fun i=>(f.offset,i.size)) with
     |none=>simp[hp] at hb
     |some pl=>
      simp[hp] at hb
      obtain⟨rfl,rfl⟩:=hb
      obtain⟨U,hU,hrU⟩:=K5 hpr (Em (M:=g.M) hcv) hf
      exact⟨U,by simpa[Program.built,hi,hu,hz1,hp] using hU,hrU⟩
 obtain⟨U,hU,hrU⟩:=key
 have:=hK g w (.agg U) hw g.le_refl (by simp only[Ae,Cr];exact⟨U.toList,hrU,by simp⟩)
 have hrun:=run_build (P:=P) w t (parts.map fun p=>(p.1,a.eval p.2)) U (by simpa using hU)
 unfold Oper.wp execOp
 simp only[ho]
 simp only[Sem.run_bind]
 rw[show(parts.map fun(x:Nat×Operand)=>match x with|(i,x)=>(i,a.eval x))=parts.map fun p=>(p.1,a.eval p.2) from rfl,hrun]
 exact this
theorem Aab{t:TypeId}{x y:Operand}(ho:o.op=.makeSlice t x y){e:TypeId}{by':Nat}{z:Value}(hs:BP P t=some (e,1,by',some z)){zv:V}(hz:Pf z=some zv){k k':IntKind}{n:Int}(h0:0<=n)(hn:(by':Int)*n<=281474976710656)(hn2:n<=9223372036854775807):
  Ah P o [.v (.int k n),.v (.int k' n)] σ (.arr σ.H.length 0 n.toNat) ⟨σ.H++[some (replicate n.toNat (.v zv))],σ.own⟩:=by
 intro E g a w K Q hw hds hK
 simp only[ho,Op.operands,Ao] at hds
 obtain⟨u,v,eq,h1,h2⟩:=hds
 simp only[HU,I1,HH,Ih] at eq
 obtain⟨e1,e2⟩:=eq
 simp only[Ae,A5] at h1 h2
 subst h1 h2
 obtain⟨i,hu,hi,hsz,hby,hzz⟩:=AA hs
 obtain⟨hza,hzc⟩:=Mk (M:=g.M) hz
 have hz1:z.cells= #[z]:=by
  obtain⟨u',e,_,h3⟩:=Ct hza hzc
  simp at e;subst e;exact LB h3
 have hrun:=run_make (P:=P) w t e i z hu hi hzz k k' n n h0 (HV _) (by rw[hby];exact hn) hn2
 rw[hsz,Nat.mul_one,hz1,Jr] at hrun
 have hr:∀m,Ac g (replicate m (.v zv)) (replicate m z):=by
  intro m
  induction m with
  |zero=>simp[Ac]
  |succ m ih=>simp only[Ix,Ac,Ae];exact⟨z,_,rfl,(B1 hza).2 hzc,ih⟩
 obtain⟨g',hw',hle,hβ,hn'⟩:=hw.newObj e (hr n.toNat) (fun c hc=>by rw[List.mem_replicate] at hc;rw[hc.2];simp[D.one,hza])
 have:=hK g' _ (.slice (some ⟨w.heap.size,0,none⟩) n.toNat n.toNat) hw' hle (by simp only[Ae];exact⟨by omega,n.toNat,HB _,by rw[hβ]⟩)
 unfold Oper.wp execOp
 simp only[ho,e1,e2,Sem.run_bind,hrun,Result.andThen_ok]
 exact this
end
def Akm(cs cs':List D):Prop:=(∀g us,Ac g cs us->Ac g cs' us)/\((∀c∈cs,c.one=true)->∀c∈cs',c.one=true)
inductive Sp:D->D->Prop
 |same {d:D}:Sp d d
 |acc {k:Nat} {xs:List V}:Sp (.acc k xs) (.v (.list xs))
 |nils:Sp (.v .nils) (.v (.list []))
 |rawnil:Sp (.raw (.slice none 0 0)) (.v .nils)
 |rv {x:V} {u:Value}:Sp (.rv x u) (.v x)
theorem Sp.rep{d d':D}(h:Sp d d'){g:Gh}{u:Value}(hr:Ae g d u):Ae g d' u:=by
 cases h with
 |same=>exact hr
 |acc=>simp only[Ae] at hr⊢;exact hr.1
 |nils=>simp only[Ae,Cq] at hr⊢;subst hr;exact Dw _
 |rawnil=>simp only[Ae,Cq] at hr⊢;exact hr
 |rv=>simp only[Ae] at hr⊢;rw[hr.1];exact hr.2
theorem Sp.one{d d':D}(h:Sp d d')(h1:d.one=true):d'.one=true:=by
 cases h with
 |same=>exact h1
 |acc=>rfl
 |nils=>rfl
 |rawnil=>rfl
 |rv=>simpa[D.one] using h1
inductive TV:List D->List D->Prop
 |nil:TV [] []
 |cons {d d':D} {cs cs':List D} (h:Sp d d') (hs:TV cs cs'):TV (d::cs) (d'::cs')
theorem TV.sees:∀{cs cs':List D},TV cs cs'->Akm cs cs'
 |_,_,.nil=>⟨fun _ _ h=>h,fun h=>h⟩
 |_,_,.cons h hs=>by
  refine⟨fun g us hr=>?_,fun h1 c hc=>?_⟩
  ·simp only[Ac] at hr⊢
   obtain⟨u,us',e,h2,h3⟩:=hr
   exact⟨u,us',e,h.rep h2,hs.sees.1 g us' h3⟩
  ·rcases Ij.1 hc with e|hc
   ·rw[e];exact h.one (h1 _ (List.mem_cons_self))
   ·exact hs.sees.2 (fun c hc=>h1 c (List.mem_cons_of_mem _ hc)) c hc
theorem TV.refl:∀cs:List D,TV cs cs
 |[]=>.nil
 |_::cs=>.cons .same (TV.refl cs)
theorem TV.set{d d':D}(h:Sp d d'):∀{cs:List D} {j:Nat},cs[j]?=some d->TV cs (cs.set j d')
 |[],j,hj=>by simp at hj
 |c::cs,0,hj=>by simp at hj;subst hj;exact .cons h (TV.refl cs)
 |c::cs,j+1,hj=>by simp at hj;exact .cons .same (TV.set h hj)
theorem opOK_see{P:Program}{o:Oper}{ds ds':List D}{σ σ':St}{d:D}(hs:TV ds ds')(h:Ah P o ds' σ d σ'):Ah P o ds σ d σ':=fun E g a w K Q hw hds hK=>h E g a w K Q hw (hs.sees.1 g _ hds) hK
theorem RQ{env:List D}{σ:St}(q j k sz:Nat){cs:List D}(hq:σ.H[q]?=some (some cs))(hj:cs[j]?=some (.v .nils))(hk:∀x∈σ.own,x.1≠k)(hsz:0<sz):
  Cv env σ env ⟨σ.H.set q (some (cs.set j (.acc k []))),(k,sz,[])::σ.own⟩:=fun E g a w hf=>by
 obtain⟨hw1,hle1⟩:=hf.wi.addOwn (k:=k) (sz:=sz) (xs:=[]) (u:=.slice none 0 0) hk ⟨hsz,by simp⟩ (Dw _) (.inl ⟨none,rfl⟩) (fun b hb=>by simp[BZ] at hb)
 obtain⟨_,_,_,_,_,h1,_⟩:=hf.wi.rep.obj q cs hq
 have hw2:=hw1.review (cs':=cs.set j (.acc k [])) hq (fun us hr=>by
  obtain⟨u,hu,hru⟩:=B9 hr hj
  simp only[Ae,Cq] at hru
  subst hru
  have:=CG hr j (d:=.acc k []) (u:=.slice none 0 0) (by simp only[Ae];exact⟨Dw _,by simp⟩)
  rwa[Ed hu] at this) (fun c hc=>by
  rcases I8 hc with h|h
  ·exact h1 c h
  ·subst h;rfl)
 exact⟨_,hw2,Ac.mono hle1 _ _ hf.env,hf.defers⟩
theorem DL{g:Gh}{sz:Nat}:∀{ys:List V} {us:List Value},repE g.M sz ys us->Ac g ((ys.flatMap V.cellsV).map .v) us/\∀c∈ (ys.flatMap V.cellsV).map D.v,c.one=true
 |[],us,h=>by simp only[repE] at h;subst h;simp[Ac]
 |y::ys,us,h=>by
  simp only[repE] at h
  obtain⟨u1,u2,rfl,hl,h1,h2⟩:=h
  obtain⟨h3,h4⟩:=DL h2
  have hA:repA g.M y.cellsV u1:=by
   cases hy:y.isAgg with
   |true=>
    cases y with
    |agg cs=>simpa only[V.cellsV,repC] using h1
    |_=>simp[V.isAgg] at hy
   |false=>
    obtain⟨u',e1,_,_⟩:=Ct hy h1
    have e:y.cellsV=[y]:=by cases y<;>simp_all [V.cellsV,V.isAgg]
    rw[e,e1]
    simp only[repA]
    exact⟨u',[],rfl,hy,by rw[←e1];exact h1,rfl⟩
  obtain⟨h5,h6⟩:=CZ (g:=g) hA
  refine⟨by simpa using Ap h5 h3,fun c hc=>?_⟩
  simp only[List.flatMap_cons,IJ,Iq] at hc
  rcases hc with hc|hc
  ·exact h6 c hc
  ·exact h4 c hc
section
variable {P : Program} {o : Oper} {σ : St} {d : D}
theorem Po{E:Ent}{g:Gh}{w:World}(hw:WI E g σ w){t ty e:TypeId}{sz by':Nat}{z:Value}(hs:BP P t=some (e,sz,by',some z))(hzc:z.cells.size=sz)
  {q len n cap cap2:Nat} {cs cs2:List D} {vs:List Value} {ad:Addr} (hq:σ.H[q]?=some (some cs)) (hl:cs.length=len*sz) (hvl0:vs.length=n*sz) (hr2:Ac g cs2 vs) (h12:∀c∈cs2,c.one=true) (hnews:∀j u,vs[j]?=some u->w.cell? (ad.add j)=some u)
  (_hcap:len<=cap) (hκ:cap*sz=g.κ q) (_hpos:0<n) (hlen:(len+n)*by'<=140737488355328) (hlen2:len+n<=140737488355328):
  ∃u' w' g',(Builtin.append_ #[t,t] ty #[.slice (some ⟨g.β q,0,none⟩) len cap,.slice (some ad) n cap2]).run P w=.ok u' w'/\
   WI E g' ⟨σ.H.set q none++[some (cs++cs2)],σ.own⟩ w'/\g.le g'/\Ae g' (.gro σ.H.length (len+n) sz) u':=by
 obtain⟨i,ht,hi,hisz,hib,hiz⟩:=AA hs
 obtain⟨us,rest,et,hb,hr,h1,hM,hκ1⟩:=hw.rep.obj q cs hq
 have hul:us.length=len*sz:=by rw[A4 hr,hl]
 have hvl:vs.length=n*i.size:=by rw[hvl0,hisz]
 have holds:∀j u,us[j]?=some u->w.cell? ((⟨g.β q,0,none⟩:Addr).add j)=some u:=fun j u hj=>by
  rw[Addr.add_lit];simp only[World.cell?,hb,Io,I7];exact Ea hj
 have hone:∀u∈vs,u.oneCell'=true:=Cs h12 hr2
 have hcs:∀c∈cs++cs2,c.one=true:=fun c hc=>by
  rcases Iq.1 hc with h|h
  ·exact h1 c h
  ·exact h12 c h
 by_cases hroom:len+n<=cap
 ·have hfit:len*i.size+vs.length<=(us++rest).toArray.size:=by
   rw[II,hκ1, ←hκ,hvl,hisz, ←IE]
   exact Nat.mul_le_mul_right _ hroom
  have hrun:=run_append_room' (P:=P) w t ty e et i ht hi (g.β q) len cap (us++rest).toArray hb ad n cap2 vs hvl hnews hone hroom hfit
  have hrow:(us++rest).toArray.toList.take (len*i.size)++vs++(us++rest).toArray.toList.drop (len*i.size+vs.length)=(us++vs)++rest.drop vs.length:=by
   simp only[hisz, ←hul]
   rw[List.take_left',List.drop_append,HO (by omega)]<;>simp
  rw[hrow] at hrun
  have hlen3:((us++vs)++rest.drop vs.length).length=g.κ q:=by
   rw[←hκ1]
   simp only[II,HI] at hfit
   simp only[HI,I9]
   rw[hisz, ←hul] at hfit
   omega
  have hw1:=hw.setObj (cs':=cs++cs2) (w':=w.setRow (g.β q) ((us++vs)++rest.drop vs.length).toArray) hq (us:=us++vs) (rest:=rest.drop vs.length) (e:=et) (setRow_heap w _ _ _ et _ hb) hlen3 (Ap hr hr2) hcs (fun b hb=>setRow_other w _ _ _ hb) (by simp) rfl rfl rfl
  have hq':(σ.H.set q (some (cs++cs2)))[q]?=some (some (cs++cs2)):=by
   rw[getElem?_set];simp;exact(H7.1 hq).1
  obtain⟨g',h3,h4,h5,h6,h7⟩:=hw1.rename (q:=q) hq'
  simp only[List.set_set,length_set] at h3 h5 h6 h7
  exact⟨_,_,g',hrun,h3,h4,by simp only[Ae];exact⟨by omega,cap,hroom,by rw[h6];exact hκ,by rw[h5]⟩⟩
 ·have hfitc:Builtin.nextslicecap (len+n) cap*i.bytes<=281474976710656:=growslice_fits (by omega) (by rw[hib];exact hlen)
  have hrun:=run_append_grow (P:=P) w t ty e i z ht hi hiz ⟨g.β q,0,none⟩ len cap us (by rw[hul,hisz]) holds ad n cap2 vs hvl hnews (by omega) (by omega) hfitc
  have hge:=grownCap_ge w (len+n) cap e
  have hcell:us.toArray++vs.toArray++Builtin.zeroCells z.cells (grownCap w (len+n) cap e- (len+n))=((us++vs)++(Builtin.zeroCells z.cells (grownCap w (len+n) cap e- (len+n))).toList).toArray:=by
   apply I6;simp
  rw[hcell] at hrun
  obtain⟨g',h3,h4,h5,h6,h7⟩:=(hw.drew.kill hq).newObjR (us:=us++vs) (rest:=(Builtin.zeroCells z.cells (grownCap w (len+n) cap e- (len+n))).toList) (cs:=cs++cs2) e (Ap hr hr2) hcs
  simp only[length_set] at h3 h5 h6 h7
  refine⟨_,_,g',hrun,h3,h4,?_⟩
  simp only[Ae]
  refine⟨by omega,_,hge,?_,by rw[h5];rfl⟩
  rw[h6]
  simp only[HI,Ig,size_zeroCells,hzc,hul,hvl,hisz, ←IE]
  congr 1;omega
def Ab(ys:List V):List D:=(ys.flatMap V.cellsV).map .v
theorem Lm{x y:Operand}{t:TypeId}(ho:o.op=.call { callee:=.builtin .append,args:= #[x,y],argTypes:= #[t,t]}){e:TypeId}{sz by':Nat}{z:Value}(hs:BP P t=some (e,sz,by',some z))(hzc:z.cells.size=sz)(hsz:0<sz)
  {q len:Nat} {cs:List D} {ys:List V} (hq:σ.H[q]?=some (some cs)) (hl:cs.length=len*sz) (hys:∀y∈ys,y.size=sz) (hpos:ys≠ []) (hlen:(len+ys.length)*by'<=140737488355328) (hlen2:len+ys.length<=140737488355328):
  Ah P o [.gro q len sz,.v (.list ys)] σ (.gro σ.H.length (len+ys.length) sz) ⟨σ.H.set q none++[some (cs++Ab ys)],σ.own⟩:=by
 intro E g a w K Q hw hds hK
 simp only[ho,Op.operands,Call.operands] at hds
 obtain⟨u,v,eq,hu,hv⟩:=Ao.1 (by simpa using hds)
 simp only[HH,Ih] at eq
 simp only[Ae] at hu hv
 obtain⟨hqn,cap,hcap,hκ,rfl⟩:=hu
 obtain⟨ad,cap2,rfl,hc2,hor⟩:=B4 hv hys hsz
 rcases hor with h|⟨b,off,us,rfl,hin,hE⟩
 ·exact absurd h hpos
 obtain⟨h5,h6⟩:=DL hE
 obtain⟨u',w',g',hrun,hw',hle,hd⟩:=Po (ty:=o.type) (cap2:=cap2) hw hs hzc hq hl (BE hE) h5 h6 (Dj hw hin) hcap hκ (length_pos_iff.2 hpos) hlen hlen2
 have:=hK g' w' u' hw' hle hd
 unfold Oper.wp execOp
 simp only[ho,resolve,invoke,builtin,Sem.run_bind,Sem.run_pure,Result.andThen_ok,List.map_toArray,HU,I1,eq.1,eq.2,hrun]
 exact this
theorem JR{x y:Operand}{t:TypeId}(ho:o.op=.call { callee:=.builtin .append,args:= #[x,y],argTypes:= #[t,t]}){e:TypeId}{sz by':Nat}{z:Value}(hs:BP P t=some (e,sz,by',some z))(hzc:z.cells.size=sz)(hsz:0<sz)
  {ys:List V} (hys:∀y∈ys,y.size=sz) (hpos:ys≠ []) (hlen:ys.length*by'<=140737488355328) (hlen2:ys.length<=140737488355328):
  Ah P o [.v .nils,.v (.list ys)] σ (.gro σ.H.length ys.length sz) ⟨σ.H++[some (Ab ys)],σ.own⟩:=by
 intro E g a w K Q hw hds hK
 simp only[ho,Op.operands,Call.operands] at hds
 obtain⟨u,v,eq,hu,hv⟩:=Ao.1 (by simpa using hds)
 simp only[HH,Ih] at eq
 simp only[Ae,Cq] at hu hv
 subst hu
 obtain⟨ad,cap2,rfl,hc2,hor⟩:=B4 hv hys hsz
 rcases hor with h|⟨b,off,us,rfl,hin,hE⟩
 ·exact absurd h hpos
 obtain⟨h5,h6⟩:=DL hE
 obtain⟨i,ht,hi,hisz,hib,hiz⟩:=AA hs
 have hvl:us.length=ys.length*i.size:=by rw[BE hE,hisz]
 have hrun:=run_append_nil (P:=P) w t o.type e i z ht hi hiz ⟨b,off,none⟩ ys.length cap2 us hvl (Dj hw hin) (length_pos_iff.2 hpos) (by omega) (by rw[hib];omega)
 have hge:=grownCap_ge w ys.length 0 e
 have hcell:us.toArray++Builtin.zeroCells z.cells (grownCap w ys.length 0 e-ys.length)=(us++(Builtin.zeroCells z.cells (grownCap w ys.length 0 e-ys.length)).toList).toArray:=by
  apply I6;simp
 rw[hcell] at hrun
 obtain⟨g',h3,h4,h5',h6',h7⟩:=hw.drew.newObjR (us:=us) (rest:=(Builtin.zeroCells z.cells (grownCap w ys.length 0 e-ys.length)).toList) (cs:=Ab ys) e h5 h6
 have hd:Ae g' (.gro σ.H.length ys.length sz) (.slice (some ⟨w.heap.size,0,none⟩) ys.length (grownCap w ys.length 0 e)):=by
  simp only[Ae]
  refine⟨by omega,_,hge,?_,by rw[h5'];rfl⟩
  rw[h6']
  simp only[HI,Ig,size_zeroCells,hzc,hvl,hisz, ←IE]
  congr 1;omega
 have:=hK g' _ _ h3 h4 hd
 unfold Oper.wp execOp
 simp only[ho,resolve,invoke,builtin,Sem.run_bind,Sem.run_pure,Result.andThen_ok,List.map_toArray,HU,I1,eq.1,eq.2,hrun]
 exact this
end
def F9(L:Nat->Option (List D)):Nat->D->V->Prop
 |0,d,x=>∃d',Sp d d'/\d'.toV=some x
 |n+1,d,x=>(∃d',Sp d d'/\d'.toV=some x)∨
  (∃o off cs x',d=.ptr o off/\x=.ref x'/\L o=some cs/\∀j y,x'.cellsV[j]?=some y->y.isAgg=false/\∃c,cs[off+j]?=some c/\F9 L n c y)∨
  (∃o off sz cs xs,(d=.arr o off xs.length∨(∃sz',d=.gro o xs.length sz'/\off=0))/\x=.list xs/\0<sz/\(∀y∈xs,y.size=sz)/\L o=some cs/\∀j y,(xs.flatMap V.cellsV)[j]?=some y->y.isAgg=false/\∃c,cs[off+j]?=some c/\F9 L n c y)
theorem PO{M:Mem}:∀{ys:List V} {us:List Value},us.length=ys.length->(∀(j:Nat) (y:V),ys[j]?=some y->y.isAgg=false/\∃v,us[j]?=some v/\repV M y v)->repA M ys us
 |[],us,hl,_=>by simp only[repA];exact IL (by simpa using hl)
 |y::ys,[],hl,_=>by simp at hl
 |y::ys,u::us,hl,h=>by
  simp only[repA]
  obtain⟨h1,v,h2,h3⟩:=h 0 y rfl
  simp at h2;subst h2
  exact⟨u,us,rfl,h1,(B1 h1).1 h3,PO (by simpa using hl) (fun j y' hj=>by have:=h (j+1) y' (by simpa using hj);simpa using this)⟩
theorem GN{M:Mem}{x:V}{us:List Value}(h:repA M x.cellsV us):repC M x us:=by
 cases x with
 |agg cs=>simpa only[V.cellsV,repC] using h
 |_=>
  simp only[V.cellsV,repA] at h
  obtain⟨u,us',rfl,_,h1,rfl⟩:=h
  exact h1
theorem NA(x:V):x.cellsV.length=x.size:=by cases x<;>simp[V.cellsV,V.size]
theorem E5{M:Mem}{sz:Nat}:∀{xs:List V} {us:List Value},(∀y∈xs,y.size=sz)->repA M (xs.flatMap V.cellsV) us->repE M sz xs us
 |[],us,_,h=>by simpa[repA,repE] using h
 |x::xs,us,hs,h=>by
  simp only[List.flatMap_cons] at h
  have h1:=Hv h x.cellsV.length
  have h2:=Hw h x.cellsV.length
  rw[take_left] at h1
  rw[List.drop_left] at h2
  simp only[repE]
  have hl:(us.take x.cellsV.length).length=x.cellsV.length:=Dh h1
  exact⟨us.take x.cellsV.length,us.drop x.cellsV.length,(List.take_append_drop _ _).symm,by rw[hl,NA];exact hs x List.mem_cons_self,GN h1,E5 (fun y hy=>hs y (List.mem_cons_of_mem _ hy)) h2⟩
theorem OG{g:Gh}{M':Mem}{L:Nat->Option (List D)}(hM:g.M.le M')(hL:∀o cs,L o=some cs->∃us,Ac g cs us/\inM M' (g.β o) 0 us):∀(n:Nat) (d:D) (x:V) (u:Value),F9 L n d x->Ae g d u->repV M' x u:=by
 have base:∀(d:D) (x:V) (u:Value),(∃d',Sp d d'/\d'.toV=some x)->Ae g d u->repV M' x u:=by
  rintro d x u ⟨d',h1,h2⟩ hr
  exact(Hs h2 (h1.rep hr)).mono hM
 intro n
 induction n with
 |zero=>intro d x u h hr;exact base d x u (by simpa only[F9] using h) hr
 |succ n ih=>
  intro d x u h hr
  have cells:∀(o off:Nat) (cs:List D) (ys:List V),L o=some cs->(∀(j:Nat) (y:V),ys[j]?=some y->y.isAgg=false/\∃c,cs[off+j]?=some c/\F9 L n c y)->∃ws,inM M' (g.β o) off ws/\repA M' ys ws:=by
   intro o off cs ys ho hys
   obtain⟨us,h1,h2⟩:=hL o cs ho
   have hlen:off+ys.length<=us.length∨ys=[]:=by
    by_cases hn:ys=[]
    ·exact .inr hn
    ·left
     have hp:0<ys.length:=length_pos_iff.2 hn
     obtain⟨_,c,hc,_⟩:=hys (ys.length-1) (ys[ys.length-1]'(by omega)) (H4 (by omega))
     have:=(H7.1 hc).1
     rw[A4 h1];omega
   refine⟨(us.drop off).take ys.length,?_,?_⟩
   ·have:=K2 (K3 h2 off) ys.length
    simpa using this
   ·refine PO ?_ (fun j y hj=>?_)
    ·rcases hlen with h|h
     ·simp;omega
     ·simp[h]
    ·obtain⟨h3,c,hc,h4⟩:=hys j y hj
     obtain⟨v,hv,hrv⟩:=B9 h1 hc
     refine⟨h3,v,?_,ih c y v h4 hrv⟩
     have hjl:=(H7.1 hj).1
     rw[IQ,HP hjl,List.getElem?_drop];exact hv
  simp only[F9] at h
  rcases h with h|⟨o,off,cs,x',rfl,rfl,ho,hc⟩|⟨o,off,sz,cs,xs,hd,rfl,hsz,hss,ho,hc⟩
  ·exact base d x u h hr
  ·obtain⟨ws,h1,h2⟩:=cells o off cs _ ho hc
   simp only[Ae] at hr
   rw[CA]
   exact⟨g.β o,off,ws,hr.2,h1,GN h2⟩
  ·obtain⟨ws,h1,h2⟩:=cells o off cs _ ho hc
   have hE:=E5 hss h2
   rw[AU]
   rcases hd with rfl|⟨sz',rfl,rfl⟩
   ·simp only[Ae] at hr
    obtain⟨_,cap,hcap,rfl⟩:=hr
    exact⟨_,cap,rfl,hcap,.inr ⟨g.β o,off,sz,ws,rfl,hsz,h1,hE⟩⟩
   ·simp only[Ae] at hr
    obtain⟨_,cap,hcap,_,rfl⟩:=hr
    exact⟨_,cap,rfl,hcap,.inr ⟨g.β o,0,sz,ws,rfl,hsz,h1,hE⟩⟩
def V.flat:V->Bool
 |.int .. |.bool _|.str _|.nilfn|.nilp|.nils=>true
 |_=>false
mutual
def D.bor:D->D
 |.v x=>if x.flat then .v x else .undef
 |.tup ds=>.tup (D.bors ds)
 |_=>.undef
def D.bors:List D->List D
 |[]=>[]
 |d::ds=>d.bor::D.bors ds
end
theorem VB{M M':Mem}{x:V}{u:Value}(hx:x.flat=true)(h:repV M x u):repV M' x u:=by
 cases x<;>simp_all [V.flat]
mutual
theorem QZ{g g':Gh}:∀{d:D} {u:Value},Ae g d u->Ae g' d.bor u
 |.v x,u,h=>by
  simp only[D.bor]
  split
  ·simp only[Ae] at h⊢;exact VB (by assumption) h
  ·simp only[Ae]
 |.tup ds,u,h=>by
  simp only[D.bor,Ae] at h⊢
  obtain⟨us,e,h1⟩:=h
  exact⟨us,e,Oo h1⟩
 |.acc ..,u,h=>by simp only[D.bor,Ae]
 |.ptr ..,u,h=>by simp only[D.bor,Ae]
 |.arr ..,u,h=>by simp only[D.bor,Ae]
 |.gro ..,u,h=>by simp only[D.bor,Ae]
 |.raw ..,u,h=>by simp only[D.bor,Ae]
 |.rv ..,u,h=>by simp only[D.bor,Ae]
 |.dagg ..,u,h=>by simp only[D.bor,Ae]
 |.dfn ..,u,h=>by simp only[D.bor,Ae]
 |.err,u,h=>by simp only[D.bor,Ae]
 |.undef,u,h=>by simp only[D.bor,Ae]
theorem Oo{g g':Gh}:∀{ds:List D} {us:List Value},Ac g ds us->Ac g' (D.bors ds) us
 |[],us,h=>by simpa only[D.bors,Ac] using h
 |d::ds,us,h=>by
  simp only[D.bors,Ac] at h⊢
  obtain⟨u,us',e,h1,h2⟩:=h
  exact⟨u,us',e,QZ h1,Oo h2⟩
end
inductive NM (L:Nat->Option (List D)):List D->List V->Prop
 |nil:NM L [] []
 |cons {n:Nat} {d:D} {x:V} {ds:List D} {xs:List V} (h:F9 L n d x) (hs:NM L ds xs):NM L (d::ds) (x::xs)
 |fn {f:FuncId} {cs:List D} {ys:List V} {ds:List D} {xs:List V} (h:NM L cs ys) (hs:NM L ds xs):NM L (.dfn f [] cs::ds) (.fn f [] ys::xs)
theorem NM.rep{g:Gh}{M':Mem}{L:Nat->Option (List D)}(hM:g.M.le M')(hL:∀o cs,L o=some cs->∃us,Ac g cs us/\inM M' (g.β o) 0 us){gc:Gh}(hgc:gc.M=M'):∀{ds:List D} {xs:List V} {us:List Value},NM L ds xs->Ac g ds us->Ac gc (xs.map .v) us
 |_,_,us,.nil,h=>by simpa only[I1,Ac] using h
 |_,_,us,.cons h hs,hr=>by
  simp only[Ac,HU,Ae] at hr⊢
  obtain⟨u,us',e,h1,h2⟩:=hr
  exact⟨u,us',e,by rw[hgc];exact OG hM hL _ _ _ _ h h1,hs.rep hM hL hgc h2⟩
 |_,_,us,.fn h hs,hr=>by
  simp only[Ac,HU,Ae] at hr⊢
  obtain⟨u,us',e,⟨u1,u2,e2,rfl,h2⟩,h3⟩:=hr
  refine⟨u,us',e,FZ.2 ⟨[],u2,e2,by simp[EQ],KU (F4 _) (h.rep hM hL hgc h2)⟩,hs.rep hM hL hgc h3⟩
section
variable {P : Program} {o : Oper} {σ : St} {d : D}
theorem Aai{c:Call}{fo:Operand}(ho:o.op=.call c)(hc:c.callee=.value fo){f:FuncId}{fs cs:List V}{ds:List D}{xs:List V}{d0:D}(hl:NM (fun o=>(σ.H[o]?).join) ds xs)(hd:d0.bor=d)
  (hspec:Aa P f (fs.map .v++xs.map .v++cs.map .v) ⟨[],[]⟩ d0 ⟨[],[]⟩):Ah P o (.v (.fn f fs cs)::ds) σ d σ:=by
 subst hd
 intro E g a w K Q hw hds hK
 obtain⟨us,vs,ws,hf,hargs,h1,h2,h3⟩:=CE ho hc hds
 let M':Mem:=fun b o=>w.cell? ⟨b,o,none⟩
 let gc:Gh:={ M:=M',β:=g.β,n:=0,ι:=fun _ _=>none,κ:=g.κ }
 have hM:g.M.le M':=fun b o v h=>hw.rep.mem b o v h
 have hrep:WRep gc ⟨[],[]⟩ w:={ n:=rfl,mem:=fun _ _ _ h=>h,obj:=fun i cs hi=>by simp at hi,inj:=fun i j cs ds hi=>by simp at hi,own:=fun k sz xs hx=>by simp at hx,tags:=by simp,sep:=fun x hx=>by simp at hx,ownObj:=fun x hx=>by simp at hx,fresh:=fun _ _ _=>rfl,gl:=hw.rep.gl.mono hM,gw:=hw.rep.gw }
 have hL:∀o cs,(σ.H[o]?).join=some cs->∃us,Ac g cs us/\inM M' (g.β o) 0 us:=by
  intro o cs ho
  have ho':σ.H[o]?=some (some cs):=by
   cases h:σ.H[o]? with
   |none=>simp[h] at ho
   |some c=>simp[h] at ho;rw[ho]
  obtain⟨us,rest,e,hb,hr,_⟩:=hw.rep.obj o cs ho'
  refine⟨us,hr,fun j v hj=>?_⟩
  simp only[M',World.cell?,hb,Io,I7];exact Ea hj
 have hmono:∀(l:List V) (us:List Value),Ac g (l.map .v) us->Ac gc (l.map .v) us:=by
  intro l
  induction l with
  |nil=>intro us h;simpa only[I1,Ac] using h
  |cons x l ih=>
   intro us h
   simp only[HU,Ac,Ae] at h⊢
   obtain⟨u,us',e,h4,h5⟩:=h
   exact⟨u,us',e,h4.mono hM,ih _ h5⟩
 refine E4 (_E:=E) (_g:=g) ho hc hspec.1 hf hargs ?_
 refine Calls.mono (hspec.2 gc w _ hrep (Ap (Ap (hmono _ _ h1) (hl.rep hM hL rfl h3)) (hmono _ _ h2))) ?_
 rintro e w' ⟨r,gc',rfl,hw',hr⟩
 refine⟨r,rfl,hK g w' r ?_ g.le_refl (QZ hr)⟩
 refine hw.grow (Mem.le_refl _) (fun b hb=>⟨(hw'.keep b hb Eh).1,fun _=>rfl⟩) (fun b o v hm=>?_) hw'.size hw'.os hw'.tape hw'.output (drawn:=hw'.drawn)
 have hlt:=hw.rep.mem_lt hm
 have:=hw.rep.mem b o v hm
 simp only[World.cell?] at this⊢
 rw[(hw'.keep b hlt Eh).1];exact this
end
def GX(F:List Nat)(H:List (Option (List D))):List (Option (List D)):=F.foldl (fun H q=>H.set q none) H
theorem JT:∀(F:List Nat) (H:List (Option (List D))),(GX F H).length=H.length
 |[],H=>rfl
 |q::F,H=>by simp only[GX,IG];exact(JT F _).trans (by simp)
theorem EL:∀(F:List Nat) (H:List (Option (List D))) {i:Nat} {cs:List D},(GX F H)[i]?=some (some cs)->i∉F/\H[i]?=some (some cs)
 |[],H,i,cs,h=>⟨by simp,h⟩
 |q::F,H,i,cs,h=>by
  simp only[GX,IG] at h
  obtain⟨h1,h2⟩:=EL F _ h
  obtain⟨h3,h4⟩:=FW h2
  exact⟨by simp[h1,h3],h4⟩
inductive Fz (L:Nat->Option (List D)):List D->List D->Prop
 |nil:Fz L [] []
 |keep {d:D} {ds ds':List D} (hs:Fz L ds ds'):Fz L (d::ds) (d::ds')
 |view {n:Nat} {d:D} {x:V} {ds ds':List D} (h:F9 L n d x) (hs:Fz L ds ds'):Fz L (d::ds) (.v x::ds')
theorem Fz.rep{g g':Gh}{L:Nat->Option (List D)}(hg:g.le g')(hL:∀o cs,L o=some cs->∃us,Ac g cs us/\inM g'.M (g.β o) 0 us):∀{ds ds':List D} {us:List Value},Fz L ds ds'->Ac g ds us->Ac g' ds' us
 |_,_,us,.nil,h=>by simpa only[Ac] using h
 |_,_,us,.keep hs,hr=>by
  simp only[Ac] at hr⊢
  obtain⟨u,us',e,h1,h2⟩:=hr
  exact⟨u,us',e,Ae.mono hg _ _ h1,hs.rep hg hL h2⟩
 |_,_,us,.view h hs,hr=>by
  simp only[Ac,Ae] at hr⊢
  obtain⟨u,us',e,h1,h2⟩:=hr
  exact⟨u,us',e,OG hg.M hL _ _ _ _ h h1,hs.rep hg hL h2⟩
def DP(F:List Nat)(H:List (Option (List D)))(o:Nat):Option (List D):=if o∈F then(H[o]?).join else none
theorem Aff{E:Ent}{g:Gh}{σ:St}{w:World}(F:List Nat)(hw:WI E g σ w):∃g',g.le g'/\WI E g' ⟨GX F σ.H,σ.own⟩ w/\∀{env env':List D} {us:List Value},Fz (DP F σ.H) env env'->Ac g env us->Ac g' env' us:=by
 classical
 let X:Nat->Prop:=fun b=>∃i∈F,∃cs,σ.H[i]?=some (some cs)/\b=g.β i
 let M':Mem:=fun b o=>if X b then w.cell? ⟨b,o,none⟩ else g.M b o
 have hXnone:∀b,X b->∀o,g.M b o=none:=by
  rintro b ⟨i,_,cs,hi,rfl⟩ o
  obtain⟨_,_,_,_,_,_,h,_⟩:=hw.rep.obj i cs hi
  exact h o
 have hle:g.M.le M':=fun b o v h=>by
  simp only[M']
  split
  ·exact hw.rep.mem b o v h
  ·exact h
 have hg:g.le { g with M:=M' }:=⟨hle,HB _,fun _ _=>rfl,fun _ _ _ h=>h,fun _ _=>rfl⟩
 have hXother:∀i cs,i∉F->σ.H[i]?=some (some cs)->¬X (g.β i):=by
  rintro i cs hi hH ⟨j,hj,cj,hcj,e⟩
  exact hi (by rw[hw.rep.inj i j _ _ hH hcj e];exact hj)
 have hXown:∀x∈σ.own,∀u,g.ι x.1 x.2.2.length=some u->∀b,BZ u=some b->¬X b:=by
  rintro x hx u hu b hb ⟨j,hj,cj,hcj,e⟩
  exact hw.rep.ownObj x hx u hu b hb j cj hcj e.symm
 refine⟨{ g with M:=M' },hg,?_,fun hz hr=>hz.rep hg (fun o cs ho=>?_) hr⟩
 ·refine hw.update X (fun b hb=>?_) (fun b _ hb=>⟨rfl,fun o=>by simp only[M',HL hb]⟩) hle (HB _) (fun _ _=>rfl) (fun _ _=>rfl) (HB _) rfl rfl rfl ?_ (fun i cs hi=>hw.objs i cs (EL F _ hi).2) hw.owns
  ·obtain⟨i,_,cs,hi,rfl⟩:=hb;exact hw.objs i cs hi
  ·refine⟨by rw[JT];exact hw.rep.n,fun b o v hm=>?_,fun i cs hi=>?_,fun i j c1 c2 hi hj=>hw.rep.inj i j _ _ (EL F _ hi).2 (EL F _ hj).2,fun k sz xs hx=>?_,hw.rep.tags,hw.rep.sep,fun x hx u hu b hb i cs hi=>hw.rep.ownObj x hx u hu b hb i cs (EL F _ hi).2,hw.rep.fresh,hw.rep.gl.mono hle,hw.rep.gw⟩
   ·simp only[M'] at hm
    split at hm
    ·exact hm
    ·exact hw.rep.mem b o v hm
   ·obtain⟨h1,h2⟩:=EL F _ hi
    obtain⟨us,rest,e,h3,h4,h5,h6,h7⟩:=hw.rep.obj i cs h2
    exact⟨us,rest,e,h3,Ac.mono hg _ _ h4,h5,fun o=>by simp only[M',HL (hXother i cs h1 h2)];exact h6 o,h7⟩
   ·obtain⟨h0,u,hu,h3,h4,h5⟩:=hw.rep.own k sz xs hx
    exact⟨h0,u,hu,h3.mono hle,h4.kept fun b hb=>⟨rfl,fun o=>by simp only[M',HL (hXown _ hx u hu b hb)]⟩,h5⟩
 ·simp only[DP] at ho
  split at ho
  ·rename_i hF
   have ho':σ.H[o]?=some (some cs):=by
    cases h:σ.H[o]? with
    |none=>simp[h] at ho
    |some c=>simp[h] at ho;rw[ho]
   obtain⟨us,rest,e,hb,hr,_⟩:=hw.rep.obj o cs ho'
   refine⟨us,hr,fun j v hj=>?_⟩
   simp only[M',HP (show X (g.β o) from⟨o,hF,cs,ho',rfl⟩),World.cell?,hb,Io,I7]
   exact Ea hj
  ·simp at ho
theorem Pc{env env':List D}{σ:St}(F:List Nat)(hz:Fz (DP F σ.H) env env'):Cv env σ env' ⟨GX F σ.H,σ.own⟩:=fun E g a w hf=>by
 obtain⟨g',_,hw',hr⟩:=Aff F hf.wi
 exact⟨g',hw',hr hz hf.env,hf.defers⟩
section
variable {P : Program} {o : Oper} {σ : St} {d : D}
theorem GR{t:TypeId}{len:Nat}{parts:Array (Nat×Operand)}(ho:o.op=.buildSlice t len parts)(hp:parts.toList=((parts.toList.map (·.2)).zipIdx 0).map fun x=>(x.2,x.1))(hlen:parts.size=len)
  {e:TypeId} {sz by':Nat} {z:Option Value} (hs:BP P t=some (e,sz,by',z)) (hz:z.isSome=true) {ds:List D} {xs:List V} (hx:Es ds=some xs) (hsz:∀x∈xs,x.size=sz) (h0:0<len) (h1:0<sz) (h2:len*sz<=1000)
  (k:Nat) (hk:∀x∈σ.own,x.1≠k):Ah P o ds σ (.acc k xs) ⟨σ.H,(k,sz,xs)::σ.own⟩:=by
 intro E g a w K Q hw hds hK
 simp only[ho,Op.operands] at hds
 obtain⟨i,hu,hi,rfl,rfl,rfl⟩:=AA hs
 obtain⟨zz,hzz⟩:=Option.isSome_iff_exists.1 hz
 have hlm:(parts.toList.map fun p=>a.eval p.2).length=len:=by simp[hlen]
 have hds':Ac g ds (parts.toList.map fun p=>a.eval p.2):=by simpa[Function.comp_def] using hds
 obtain⟨hr,hcs⟩:=Hr hx hds' hsz
 have hxl:xs.length=len:=by rw[Fh hx, ←A4 hds',hlm]
 have hpos:0<len*i.size:=Nat.mul_pos h0 h1
 have hf:=K6 i.size (parts.toList.map fun p=>a.eval p.2) 0 [] ((Array.range (len*i.size)).map (zz.cells[· %zz.cells.size]!)).toList (by simp) hcs (by simp[hlen])
 have hpp:((parts.toList.map fun p=>a.eval p.2).zipIdx 0).map (fun x=>(x.2,x.1))=parts.toList.map fun p=>(p.1,a.eval p.2):=by
  have e1:(parts.toList.map fun p=>a.eval p.2)=(parts.toList.map (·.2)).map a.eval:=by simp
  rw[e1,List.zipIdx_map,map_map]
  conv=>rhs;rw[hp,map_map]
  rfl
 rw[hpp] at hf
 simp only[List.nil_append,Array.toArray_toList] at hf
 have hrun:=run_buildSlice (P:=P) w t e len (parts.map fun p=>(p.1,a.eval p.2)) _ i zz hu hi hzz (by omega) (by omega) (by simpa using hf)
 generalize hus:(parts.toList.map fun p=>a.eval p.2).flatMap (·.cells.toList)=us at hr hrun
 obtain⟨hw1,hle1⟩:=hw.newImm us [] e
 rw[Is] at hw1
 have hul:us.length=len*i.size:=by rw[BE hr,hxl]
 have hrep:repV (Sn g.M w.heap.size us) (.list xs) (.slice (some ⟨w.heap.size,0,none⟩) len len):=by
  have:=CR (cap:=len) h1 (NI g.M w.heap.size us) (repE.mono hle1.M _ _ _ hr) (by omega)
  rwa[hxl] at this
 have hperm:Perm (Sn g.M w.heap.size us) (w.alloc (.cells us.toArray e)) i.size (.slice (some ⟨w.heap.size,0,none⟩) len len):=
  .inr ⟨w.heap.size,0,len,len,us.toArray,e,rfl,heap_alloc_new w _,HB _,by simp[hul],fun o ho'=>by simp only[Sn,IC];exact Ir (by omega),hw.rep.gw.new (HB _)⟩
 have hb:∀b,BZ (.slice (some ⟨w.heap.size,0,none⟩) len len)=some b->b=w.heap.size:=fun b hb=>by
  simp only[BZ] at hb
  split at hb
  ·simp at hb
  ·simpa using hb.symm
 obtain⟨hw',hle⟩:=hw1.addOwn (k:=k) (sz:=i.size) (xs:=xs) hk ⟨h1,hsz⟩ hrep hperm (fun b hb'=>by
  rw[hb b hb']
  exact⟨hw.size,fun j cs hj=>Nat.ne_of_lt (hw.rep.obj_lt hj),fun x hx' u' hu' hb2=>by have:=hw.rep.own_lt hx' hu' hb2;omega⟩)
 have:=hK _ _ (.slice (some ⟨w.heap.size,0,none⟩) len len) hw' (Gh.le_trans hle1 hle) (by
  simp only[Ae]
  exact⟨hrep,by simp⟩)
 unfold Oper.wp execOp
 simp only[ho]
 simp only[Sem.run_bind]
 rw[show(parts.map fun(x:Nat×Operand)=>match x with|(i,x)=>(i,a.eval x))=parts.map fun p=>(p.1,a.eval p.2) from rfl,hrun]
 exact this
end
section
variable {C : Ent -> Ent -> Prop} {P : Program} {R : List D -> St -> Prop} {c : Code} {p : List Nat} {κ : List KI} {env env1 env' : List D} {σ σ' : St} {i : Nat} {o : Oper} {d : D}
end
theorem WI.trans{E:Ent}{g g':Gh}{σ σ':St}{w w1 w':World}(h:WI E g σ w)(hk:∀b,b<E.w.heap.size->¬E.priv b->w1.heap[b]?=w.heap[b]?)(hsz:w.heap.size<=w1.heap.size)(hos:w1.os=w.os)(htp:w1.tape=w.tape)(hou:w1.output=w.output)
  (h':WI ⟨g,w1,σ⟩ g' σ' w') (hdr:B6 w.drawn w1.drawn:=by first|exact B6.refl _|exact B6.succ _|assumption):WI E g' σ' w' where
 rep:=h'.rep
 M:=Mem.le_trans h.M h'.M
 size:=Iz h.size (Iz hsz h'.size)
 keep:=fun b hb hp=>by
  have hnp:¬Ent.priv ⟨g,w1,σ⟩ b:=by
   rintro (⟨i,cs,hi,e⟩|⟨x,hx,u,hu,hb'⟩)
   ·have e':b=g.β i:=e
    rw[e'] at hb hp
    rcases h.objs i cs hi with h1|h1
    ·omega
    ·exact hp h1
   ·rcases h.owns x hx u hu b hb' with h1|h1
    ·omega
    ·exact hp h1
  have hlt:b<w1.heap.size:=by have:=h.size;omega
  obtain⟨h1,h2⟩:=h'.keep b hlt hnp
  obtain⟨h3,h4⟩:=h.keep b hb hp
  exact⟨h1.trans ((hk b hb hp).trans h3),fun o=>(h2 o).trans (h4 o)⟩
 os:=h'.os.trans (hos.trans h.os)
 tape:=h'.tape.trans (htp.trans h.tape)
 output:=h'.output.trans (hou.trans h.output)
 drawn:=h.drawn.trans (hdr.trans h'.drawn)
 nE:=Iz h.nE h'.nE
 βE:=fun o ho=>(h'.βE o (IN ho h.nE)).trans (h.βE o ho)
 κE:=fun o ho=>(h'.κE o (IN ho h.nE)).trans (h.κE o ho)
 objs:=fun i cs hi=>by
  rcases h'.objs i cs hi with h1|h1
  ·left;have:=h.size;simp only at h1;omega
  ·rcases h1 with⟨j,cj,hj,e⟩|⟨x,hx,u,hu,hb⟩
   ·rw[e];exact h.objs j cj hj
   ·exact h.owns x hx u hu _ hb
 owns:=fun x hx u hu b hb=>by
  rcases h'.owns x hx u hu b hb with h1|h1
  ·left;have:=h.size;simp only at h1;omega
  ·rcases h1 with⟨j,cj,hj,e⟩|⟨y,hy,u',hu',hb'⟩
   ·rw[e];exact h.objs j cj hj
   ·exact h.owns y hy u' hu' b hb'
structure Yk(r:Nat)(o:Obj)(E:Ent):Prop where
 at_:E.w.heap[r]?=some o
 priv:¬E.priv r
 mem:∀x,E.g.M r x=none
theorem Yk.now{r:Nat}{o:Obj}{E:Ent}{g:Gh}{σ:St}{w:World}(h:Yk r o E)(hw:WI E g σ w):w.heap[r]?=some o/\(∀x,g.M r x=none)/\(∀i cs,σ.H[i]?=some (some cs)->g.β i≠r)/\(∀x∈σ.own,∀u,g.ι x.1 x.2.2.length=some u->BZ u≠some r):=by
 have hlt:r<E.w.heap.size:=(Iy.1 h.at_).1
 obtain⟨h1,h2⟩:=hw.keep r hlt h.priv
 refine⟨h1.trans h.at_,fun x=>(h2 x).trans (h.mem x),fun i cs hi e=>?_,fun x hx u hu hb=>?_⟩
 ·rcases hw.objs i cs hi with h3|h3
  ·omega
  ·rw[e] at h3;exact h.priv h3
 ·rcases hw.owns x hx u hu r hb with h3|h3
  ·omega
  ·exact h.priv h3
theorem WRep.side{g:Gh}{σ:St}{w:World}(h:WRep g σ w){r:Nat}(hM:∀x,g.M r x=none)(hobj:∀i cs,σ.H[i]?=some (some cs)->g.β i≠r)(hown:∀x∈σ.own,∀u,g.ι x.1 x.2.2.length=some u->BZ u≠some r)
  {w':World} (hk:∀b,b≠r->w'.heap[b]?=w.heap[b]?):WRep g σ w' where
 n:=h.n
 gl:=h.gl
 gw:=h.gw.keepG fun p hp _=>hk p.1 fun e=>by
  obtain⟨v,hv⟩:=h.gl.sized p hp
  rw[e,hM 0] at hv;simp at hv
 mem:=fun b o v hm=>by
  have hne:b≠r:=fun e=>by subst e;rw[hM o] at hm;simp at hm
  have:=h.mem b o v hm
  simp only[World.cell?] at this⊢
  rw[hk b hne];exact this
 obj:=fun i cs hi=>by
  obtain⟨us,rest,e,h1,h2⟩:=h.obj i cs hi
  exact⟨us,rest,e,by rw[hk _ (hobj i cs hi)];exact h1,h2⟩
 inj:=h.inj
 own:=fun k sz xs hx=>by
  obtain⟨h0,u,hu,h1,h2,h3⟩:=h.own k sz xs hx
  exact⟨h0,u,hu,h1,h2.kept fun b hb=>⟨hk b (fun e=>hown _ hx u hu (by rw[←e];exact hb)),fun _=>rfl⟩,h3⟩
 tags:=h.tags
 sep:=h.sep
 ownObj:=h.ownObj
 fresh:=h.fresh
structure Yl(r:Nat)(o:Obj)(E0 E:Ent):Prop where
 side:Yk r o E
 new:E0.w.heap.size<=r
 link:∀(g:Gh) (σ:St) (w:World),WI E g σ w->WI E0 g σ w
section
variable {C : Ent -> Ent -> Prop} {P : Program} {R : List D -> St -> Prop} {c : Code} {p : List Nat} {k : List KI} {env env' : List D} {σ σ' : St} {i : Nat} {o : Oper} {d : D}
theorem Yl.of{E0:Ent}{g:Gh}{w w1:World}{r:Nat}{ob:Obj}(hw:WI E0 g σ w)(hk:∀b,b≠r->w1.heap[b]?=w.heap[b]?)(hr:w1.heap[r]?=some ob)(hsz:w.heap.size<=w1.heap.size)(hos:w1.os=w.os)(htp:w1.tape=w.tape)(hou:w1.output=w.output)(hEr:E0.w.heap.size<=r)
  (hM:∀x,g.M r x=none) (hobj:∀i cs,σ.H[i]?=some (some cs)->g.β i≠r) (hown:∀x∈σ.own,∀u,g.ι x.1 x.2.2.length=some u->BZ u≠some r) (hdr:B6 w.drawn w1.drawn:=by first|exact B6.refl _|exact B6.succ _|assumption):
  Yl r ob E0 ⟨g,w1,σ⟩/\WI ⟨g,w1,σ⟩ g σ w1:=by
 refine⟨⟨⟨hr,?_,hM⟩,hEr,fun g' σ' w' h'=>hw.trans (fun b hb _=>hk b (by omega)) hsz hos htp hou h'⟩,WI.start (hw.rep.side hM hobj hown hk)⟩
 rintro (⟨i,cs,hi,e⟩|⟨x,hx,u,hu,hb⟩)
 ·exact hobj i cs hi e.symm
 ·exact hown x hx u hu hb
end
def EU:Nat->List (List UInt8)->List MapEntry
 |_,[]=>[]
 |n,s::l=>⟨.string ⟨s.toArray⟩,.bool true,n⟩::EU (n+1) l
def C8(l:List (List UInt8)):Obj:=.map (EU 0 l).toArray l.length
theorem XN(a b:List UInt8):((⟨a.toArray⟩:ByteArray)==⟨b.toArray⟩)=(a==b):=by
 have:((⟨a.toArray⟩:ByteArray)==⟨b.toArray⟩)=(a.toArray==b.toArray):=rfl
 rw[this];simp
theorem Nw(s:List UInt8):∀(l:List (List UInt8)) (n m:Nat),∃q,Instr.findNow .string (.string ⟨s.toArray⟩) (EU n l) m=some (if l.contains s then some (q,.bool true) else none)
 |[],n,m=>⟨0,by simp[EU,Instr.findNow]⟩
 |x::l,n,m=>by
  obtain⟨q,hq⟩:=Nw s l (n+1) (m+1)
  simp only[EU,Instr.findNow,Instr.sameNow,XN,List.contains_cons]
  by_cases h:s=x
  ·subst h;exact⟨m,by simp⟩
  ·have hb:(s==x)=false:=by simpa using h
   simp only[hb,Bool.false_or]
   exact⟨q,hq⟩
theorem L1:∀(l:List (List UInt8)) (n:Nat) (s:List UInt8),EU n (l++[s])=EU n l++[⟨.string ⟨s.toArray⟩,.bool true,n+l.length⟩]
 |[],n,s=>by simp[EU]
 |x::l,n,s=>by simp only[Jk,EU,L1 l (n+1) s,H9,Nat.add_assoc,Nat.add_comm 1]
section
variable {C : Ent -> Ent -> Prop} {P : Program} {R : List D -> St -> Prop} {c : Code} {p : List Nat} {k : List KI} {env env' : List D} {σ σ' : St} {i : Nat} {o : Oper} {d : D}
end
section
variable {P : Program} {o : Oper} {σ : St} {d : D}
theorem L4{E:Ent}{g:Gh}{w:World}(hw:WI E g σ w){t ty e:TypeId}{by':Nat}{z:Option Value}(hs:BP P t=some (e,1,by',z)){q:Nat}{cs:List D}(hq:σ.H[q]?=some (some cs)){off len cap sLen sCap:Nat}{a:Addr}{ds:List D}{vs:List Value}
  (hvs:Ac g ds vs) (h1:∀d∈ds,d.one=true) (hn:ds.length=Nat.min sLen len) (hsrc:∀j v,vs[j]?=some v->w.cell? (a.add j)=some v) (hfit:off+ds.length<=cs.length):
  ∃w',(Builtin.copy_ #[t,t] ty #[.slice (some ⟨g.β q,off,none⟩) len cap,.slice (some a) sLen sCap]).run P w=.ok (goInt ds.length) w'/\WI E g ⟨σ.H.set q (some (cs.take off++ds++cs.drop (off+ds.length))),σ.own⟩ w':=by
 obtain⟨i,hu,hi,hsz,_⟩:=AA hs
 obtain⟨us,rest,et,hb,hr,hone,hM,hκ⟩:=hw.rep.obj q cs hq
 have hul:=A4 hr
 have hvl:=A4 hvs
 have hrun:=run_copy_row (P:=P) w t t ty e (g.β q) off len cap a sLen sCap (us++rest).toArray et vs hu (by simp[hi,hsz]) hb (by rw[hvl,hn]) hsrc (by simp;omega) (Cs h1 hvs)
 rw[hvl] at hrun
 refine⟨_,hrun,?_⟩
 have e1:(us++rest).toArray.toList.take off++vs++(us++rest).toArray.toList.drop (off+ds.length)=(us.take off++vs++us.drop (off+ds.length))++rest:=by
  simp only[IA]
  rw[IV (by omega),List.drop_append_of_le_length (by omega)]
 rw[e1]
 refine hw.setObj hq (us:=us.take off++vs++us.drop (off+ds.length)) (rest:=rest) (setRow_heap w (g.β q) _ _ et _ hb) ?_ (Ap (Ap (B8 hr _) hvs) (BY hr _)) ?_ (fun b hb'=>setRow_other w _ _ _ hb') (by simp) rfl rfl rfl
 ·rw[←hκ];simp;omega
 ·intro c hc
  rcases Iq.1 hc with hc|hc
  ·rcases Iq.1 hc with hc|hc
   ·exact hone c (IK hc)
   ·exact h1 c hc
  ·exact hone c (Iu hc)
theorem PN{g:Gh}:∀{xs:List V} {us:List Value},(∀x∈xs,x.isAgg=false)->repE g.M 1 xs us->Ac g (xs.map .v) us
 |[],us,_,h=>by simpa[repE,Ac] using h
 |x::xs,us,hx,h=>by
  simp only[repE] at h
  obtain⟨ws,us',rfl,hl,h1,h2⟩:=h
  obtain⟨u,rfl,_⟩:=Ct (hx x (by simp)) h1
  simp only[HU,Ac,Ae]
  exact⟨u,us',rfl,(B1 (hx x (by simp))).2 h1,PN (fun y hy=>hx y (by simp[hy])) h2⟩
theorem Aag{x y:Operand}{t:TypeId}(ho:o.op=.call { callee:=.builtin .copy,args:= #[x,y],argTypes:= #[t,t]}){e:TypeId}{by':Nat}{z:Option Value}(hs:BP P t=some (e,1,by',z)){q off len k:Nat}{cs:List D}(hq:σ.H[q]?=some (some cs)){xs:List V}
  (hx:∀x∈xs,x.size=1/\x.isAgg=false) (hk:k=Nat.min xs.length len) (h0:0<k) (hfit:off+k<=cs.length):
  Ah P o [.arr q off len,.v (.list xs)] σ (.v (.int .i64 (k:Int))) ⟨σ.H.set q (some (cs.take off++(xs.take k).map .v++cs.drop (off+k))),σ.own⟩:=by
 intro E g a w K Q hw hds hK
 simp only[ho,Op.operands,Call.operands] at hds
 obtain⟨u,v,eq,h1,h2⟩:=Ao.1 (by simpa using hds)
 simp only[HH,Ih] at eq
 simp only[Ae] at h1 h2
 obtain⟨_,cap,_,rfl⟩:=h1
 obtain⟨a2,c2,rfl,hc2,hor⟩:=B4 h2 (fun x hx'=>(hx x hx').1) (by decide)
 have hkx:k<=xs.length:=by rw[hk];exact Nat.min_le_left _ _
 rcases hor with rfl|⟨b2,off2,us2,rfl,hin,hE⟩
 ·simp at hkx;omega
 have hd2:=B8 (PN (fun x hx'=>(hx x hx').2) hE) k
 rw[←map_take] at hd2
 have hlen:((xs.take k).map D.v).length=k:=by simp;omega
 obtain⟨w',hrun,hw'⟩:=L4 (P:=P) (ty:=o.type) hw hs hq (off:=off) (len:=len) (cap:=cap) (a:=⟨b2,off2,none⟩) (sLen:=xs.length) (sCap:=c2) hd2 (fun d hd=>by
   obtain⟨x,hx',rfl⟩:=Il.1 hd
   have:=(hx x (IK hx')).2
   simp[D.one,this]) (by rw[hlen,hk]) (fun j v hj=>Dj hw hin j v (by rw[IQ] at hj;split at hj;exact hj;simp at hj)) (by rw[hlen];exact hfit)
 rw[hlen] at hrun hw'
 have:=hK g w' (goInt k) hw' g.le_refl (by simp[Ae,A5,goInt])
 unfold Oper.wp execOp
 simp only[ho,resolve,invoke,builtin,Sem.run_bind,Sem.run_pure,Result.andThen_ok]
 rw[show(#[x,y]:Array Operand).map a.eval= #[.slice (some ⟨g.β q,off,none⟩) len cap,.slice (some ⟨b2,off2,none⟩) xs.length c2] from by simp[eq.1,eq.2],hrun]
 exact this
theorem Aah{x y:Operand}{t:TypeId}(ho:o.op=.call { callee:=.builtin .copy,args:= #[x,y],argTypes:= #[t,t]}){e:TypeId}{by':Nat}{z:Option Value}(hs:BP P t=some (e,1,by',z)){q off len off2 len2 k:Nat}{cs:List D}(hq:σ.H[q]?=some (some cs))
  (hk:k=Nat.min len2 len) (hfit:off+k<=cs.length) (hfit2:off2+k<=cs.length):
  Ah P o [.arr q off len,.arr q off2 len2] σ (.v (.int .i64 (k:Int))) ⟨σ.H.set q (some (cs.take off++(cs.drop off2).take k++cs.drop (off+k))),σ.own⟩:=by
 intro E g a w K Q hw hds hK
 simp only[ho,Op.operands,Call.operands] at hds
 obtain⟨u,v,eq,h1,h2⟩:=Ao.1 (by simpa using hds)
 simp only[HH,Ih] at eq
 simp only[Ae] at h1 h2
 obtain⟨_,cap,_,rfl⟩:=h1
 obtain⟨_,c2,_,rfl⟩:=h2
 obtain⟨us,rest,et,hb,hr,hone,hM,hκ⟩:=hw.rep.obj q cs hq
 have hlen:((cs.drop off2).take k).length=k:=by simp;omega
 have hul:=A4 hr
 obtain⟨w',hrun,hw'⟩:=L4 (P:=P) (ty:=o.type) hw hs hq (off:=off) (len:=len) (cap:=cap) (a:=⟨g.β q,off2,none⟩) (sLen:=len2) (sCap:=c2) (B8 (BY hr off2) k) (fun d hd=>hone d (Iu (IK hd))) (by rw[hlen,hk]) (fun j v hj=>by
   rw[IQ] at hj
   split at hj
   ·rw[List.getElem?_drop] at hj
    rw[Addr.add_lit]
    simp only[World.cell?,hb]
    have hlt:=(H7.1 hj).1
    simp[HQ hlt,hj]
   ·simp at hj) (by rw[hlen];exact hfit)
 rw[hlen] at hrun hw'
 have:=hK g w' (goInt k) hw' g.le_refl (by simp[Ae,A5,goInt])
 unfold Oper.wp execOp
 simp only[ho,resolve,invoke,builtin,Sem.run_bind,Sem.run_pure,Result.andThen_ok]
 rw[show(#[x,y]:Array Operand).map a.eval= #[.slice (some ⟨g.β q,off,none⟩) len cap,.slice (some ⟨g.β q,off2,none⟩) len2 c2] from by simp[eq.1,eq.2],hrun]
 exact this
theorem Lf{t:TypeId}{x:Operand}{lo hi:Option Operand}(ho:o.op=.slice t x lo hi none){e:TypeId}{by':Nat}{z:Option Value}(hs:BP P t=some (e,1,by',z)){q off len:Nat}
  (l h:Option (IntKind×Int)) (hlo:lo.isSome=l.isSome) (hhi:hi.isSome=h.isSome) {l' h':Nat} (hb:BD len (l.map (·.2)) (h.map (·.2))=some (l',h')) (hlt:l'<len):
  Ah P o (.arr q off len::(DV l++DV h)) σ (.arr q (off+l') (h'-l')) σ:=by
 refine Az fun E g ρ w hw hds=>?_
 obtain⟨i,hu,hi',hsz,_,_⟩:=AA hs
 have hb2:=hb
 unfold BD at hb2
 simp only at hb2
 split at hb2
 case isFalse=>simp at hb2
 rename_i hcond
 simp only[Ia,Prod.mk.injEq] at hb2
 have main:∀u (lv hv:Option Value),ρ x=u->lv=l.map (fun p=>Value.int p.1 p.2)->hv=h.map (fun p=>Value.int p.1 p.2)->lo.map ρ=lv->hi.map ρ=hv->Ae g (.arr q off len) u->
   ∃u,(execOp ρ o).run P w=.ok (.value u) w/\Ae g (.arr q (off+l') (h'-l')) u:=by
  intro u lv hv eu el eh e1 e2 hr
  simp only[Ae] at hr⊢
  obtain⟨hq,cap,hc,rfl⟩:=hr
  refine⟨.slice (some ⟨g.β q,off+l',none⟩) (h'-l') (cap-l'),?_,hq,cap-l',by omega,rfl⟩
  have hbr:=DI (P:=P) w true len cap hc l h hb
  simp only[execOp,ho,eu,e1,e2,el,eh,IZ,Instr.sliceAt,Instr.slice,Sem.run_bind,run_underlying hu,Result.andThen_ok,hbr]
  simp[sizeOf,typeInfo,hi',hsz,show ¬cap=l' by omega,Addr.add_lit]
 simp only[ho,Op.operands] at hds
 cases lo with
 |none=>
  cases l with
  |some _=>simp at hlo
  |none=>
   cases hi with
   |none=>
    cases h with
    |some _=>simp at hhi
    |none=>
     obtain⟨u,eu,h1⟩:=A2.1 (by simpa[DV] using hds)
     simp at eu
     exact main u none none eu rfl rfl rfl rfl h1
   |some ho'=>
    cases h with
    |none=>simp at hhi
    |some p=>
     obtain⟨u,v,eu,h1,h2⟩:=Ao.1 (by simpa[DV] using hds)
     simp only[HH,Ih] at eu
     simp only[Ae,A5] at h2
     exact main u none _ eu.1 rfl (by simp;rfl) rfl (by simp[eu.2,h2]) h1
 |some lo'=>
  cases l with
  |none=>simp at hlo
  |some lq=>
   cases hi with
   |none=>
    cases h with
    |some _=>simp at hhi
    |none=>
     obtain⟨u,v,eu,h1,h2⟩:=Ao.1 (by simpa[DV] using hds)
     simp only[HH,Ih] at eu
     simp only[Ae,A5] at h2
     exact main u _ none eu.1 (by simp;rfl) rfl (by simp[eu.2,h2]) rfl h1
   |some ho'=>
    cases h with
    |none=>simp at hhi
    |some p=>
     obtain⟨u,v,v2,eu,h1,h2,h3⟩:=Eg.1 (by simpa[DV] using hds)
     simp only[HH,Ih] at eu
     simp only[Ae,A5] at h2 h3
     exact main u _ _ eu.1 (by simp;rfl) (by simp;rfl) (by simp[eu.2.1,h2]) (by simp[eu.2.2,h3]) h1
theorem Adt{fn:Func}{env:List D}{σ':St}{q off len:Nat}(hr:Hl P env σ fn.results.toList [.arr q off len])(m:Nat)(hH:σ'.H=σ.H.take m)(hm:m<=σ.H.length)(hc:∀(i:Nat) (cs:List D),σ'.H[i]?=some (some cs)->D.pls cs=true)
  (hown:σ'.own.Sublist σ.own) (hq:q<m):Aw P fn env σ (.arr q off len) σ':=by
 intro E g a w hf hE
 obtain⟨us,h1,h2⟩:=hr.run hf
 obtain⟨u,rfl,h3⟩:=A2.1 h2
 have hml:σ'.H.length=m:=by rw[hH];simp;omega
 have hrun:(results fn a.tmps).run P w=.ok u w:=by
  rw[J0,Array.mapM_eq_mapM_toList]
  simp[Sem.run_map,h1,Result.andThen_ok]
 refine⟨_,_,hrun,hf.wi.restrict hH hm (by omega) hc hown,?_⟩
 simp only[Ae] at h3⊢
 exact⟨hq,h3.2⟩
theorem E8{c:Call}{fo:Operand}(ho:o.op=.call c)(hc:c.callee=.value fo){f:FuncId}{fs cs:List V}{ds:List D}(hp:D.pls ds=true){os:List D}(hos:D.pls os=true){len:Nat}
  (hspec:Aa P f (fs.map .v++ds++cs.map .v) ⟨[],[]⟩ (.arr 0 0 len) ⟨[some os],[]⟩):Ah P o (.v (.fn f fs cs)::ds) σ (.arr σ.H.length 0 len) ⟨σ.H++[some os],σ.own⟩:=by
 intro E g a w K Q hw hds hK
 obtain⟨us,vs,ws,hf,hargs,h1,h2,h3⟩:=CE ho hc hds
 refine E4 (_E:=E) (_g:=g) ho hc hspec.1 hf hargs ?_
 have hargs':Ac { M:=g.M,β:=g.β,n:=0,ι:=fun _ _=>none,κ:=g.κ } (fs.map .v++ds++cs.map .v) (us++ws++vs):=
  B2 (by rfl) (by simp[Db,BT,hp]) (Ap (Ap h1 h3) h2)
 refine Calls.mono (hspec.2 _ w _ hw.rep.empty hargs') ?_
 rintro e w' ⟨u,g',rfl,hw',hr⟩
 obtain⟨h4,h5⟩:=hw.back0 (by rfl) hw'
 simp only[Ae] at hr
 obtain⟨vs',rest',e',hb,hrv,hone,hMn,_⟩:=hw'.rep.obj 0 os (by simp)
 have hge:w.heap.size<=g'.β 0:=by
  rcases hw'.objs 0 os (by simp) with h|h
  ·exact h
  ·exact absurd h Eh
 obtain⟨h6,h7⟩:=h4.addObj (b:=g'.β 0) (us:=vs') (rest:=rest') (e:=e') (cs:=os) hb (.inl (Iz hw.size hge)) hMn
  (fun i cs hi=>by have:=hw.rep.obj_lt hi;simp only;omega) (fun x hx v hv hvb=>by have:=hw.rep.own_lt hx hv hvb;omega) (B2 (by rfl) hos hrv) hone
 refine⟨u,rfl,hK _ _ _ h6 (Gh.le_trans h5 h7) ?_⟩
 simp only[Ae]
 obtain⟨_,cap,hcap,rfl⟩:=hr
 exact⟨by rw[hw.rep.n];omega,cap,hcap,by rw[hw.rep.n];simp⟩
theorem E7{f:FuncId}{first captured:Array Operand}(ho:o.op=.makeFunc (.func f) first captured)(hl:first.size=0){cs:List D}:Ah P o cs σ (.dfn f [] cs) σ:=by
 refine Az fun E g ρ w hw hds=>?_
 have h0:first= #[]:=Array.eq_empty_of_size_eq_zero hl
 subst h0
 simp only[ho,Op.operands] at hds
 refine⟨.func (.func f) #[] (captured.map ρ),?_,?_⟩
 ·simp[execOp,ho,Instr.makeFunc]
 ·simp only[Ae]
  exact⟨[],captured.toList.map ρ,by congr 1;apply I6;simp,by simp[Ac],by simpa using hds⟩
end
mutual
inductive VS:V->V->Prop
 |refl (x:V):VS x x
 |nils:VS .nils (.list [])
 |agg {cs ds:List V} (h:VSL cs ds):VS (.agg cs) (.agg ds)
 |list {cs ds:List V} (h:VSL cs ds):VS (.list cs) (.list ds)
 |ref {x y:V} (h:VS x y):VS (.ref x) (.ref y)
inductive VSL:List V->List V->Prop
 |nil:VSL [] []
 |cons {x y:V} {xs ys:List V} (h:VS x y) (hs:VSL xs ys):VSL (x::xs) (y::ys)
end
theorem VS.isAgg{x y:V}(h:VS x y):y.isAgg=x.isAgg:=by cases h<;>rfl
theorem VSL.length:∀{xs ys:List V},VSL xs ys->ys.length=xs.length
 |_,_,.nil=>rfl
 |_,_,.cons _ hs=>by simp[hs.length]
theorem VSL.refl:∀xs:List V,VSL xs xs
 |[]=>.nil
 |x::xs=>.cons (.refl x) (VSL.refl xs)
mutual
theorem VS.repC{M:Mem}:∀{x y:V},VS x y->∀{ws:List Value},repC M x ws->Dv.repC M y ws
 |_,_,.refl _,_,h=>h
 |_,_,.nils,ws,h=>by
  simp only[Dv.repC] at h⊢
  subst h
  exact⟨none,0,rfl,HB _,.inl trivial⟩
 |_,_,.agg h,_,hr=>by simp only[Dv.repC] at hr⊢;exact h.repA hr
 |_,_,.list h,_,hr=>by
  simp only[Dv.repC] at hr⊢
  obtain⟨a,cap,e,hc,hor⟩:=hr
  rw[h.length]
  refine⟨a,cap,e,hc,?_⟩
  rcases hor with rfl|⟨b,off,sz,us,h1,h2,h3,h4⟩
  ·left;cases h;rfl
  ·exact .inr ⟨b,off,sz,us,h1,h2,h3,h.repE h4⟩
 |_,_,.ref h,_,hr=>by
  simp only[Dv.repC] at hr⊢
  obtain⟨b,off,us,e,hi,hx⟩:=hr
  exact⟨b,off,us,e,hi,h.repC hx⟩
theorem VSL.repA{M:Mem}:∀{xs ys:List V},VSL xs ys->∀{us:List Value},Dv.repA M xs us->Dv.repA M ys us
 |_,_,.nil,_,h=>h
 |_,_,.cons h hs,_,hr=>by
  simp only[Dv.repA] at hr⊢
  obtain⟨u,us',e,ha,h1,h2⟩:=hr
  exact⟨u,us',e,by rw[h.isAgg];exact ha,h.repC h1,hs.repA h2⟩
theorem VSL.repE{M:Mem}{sz:Nat}:∀{xs ys:List V},VSL xs ys->∀{us:List Value},Dv.repE M sz xs us->Dv.repE M sz ys us
 |_,_,.nil,_,h=>h
 |_,_,.cons h hs,_,hr=>by
  simp only[Dv.repE] at hr⊢
  obtain⟨u1,u2,e,hl,h1,h2⟩:=hr
  exact⟨u1,u2,e,hl,h.repC h1,hs.repE h2⟩
end
theorem VS.repV{M:Mem}{x y:V}(h:VS x y){u:Value}(hr:repV M x u):Dv.repV M y u:=by
 obtain⟨ws,h1,h2⟩:=hr
 refine⟨ws,h.repC h1,?_⟩
 rw[h2]
 cases h<;>rfl
inductive DS:D->D->Prop
 |same (d:D):DS d d
 |v {x y:V} (h:VS x y):DS (.v x) (.v y)
 |gro {q len sz:Nat}:DS (.gro q len sz) (.arr q 0 len)
 |acc {k:Nat} {xs:List V}:DS (.acc k xs) (.v (.list xs))
inductive DSL:List D->List D->Prop
 |nil:DSL [] []
 |cons {d e:D} {ds es:List D} (h:DS d e) (hs:DSL ds es):DSL (d::ds) (e::es)
theorem DS.rep{g:Gh}{d e:D}(h:DS d e){u:Value}(hr:Ae g d u):Ae g e u:=by
 cases h with
 |same=>exact hr
 |v h=>simp only[Ae] at hr⊢;exact h.repV hr
 |gro=>
  simp only[Ae] at hr⊢
  obtain⟨h1,cap,h2,_,h3⟩:=hr
  exact⟨h1,cap,h2,h3⟩
 |acc=>simp only[Ae] at hr⊢;exact hr.1
theorem DSL.rep{g:Gh}:∀{ds es:List D},DSL ds es->∀{us:List Value},Ac g ds us->Ac g es us
 |_,_,.nil,_,h=>h
 |_,_,.cons h hs,_,hr=>by
  simp only[Ac] at hr⊢
  obtain⟨u,us',e,h1,h2⟩:=hr
  exact⟨u,us',e,h.rep h1,hs.rep h2⟩
theorem DSL.refl:∀ds:List D,DSL ds ds
 |[]=>.nil
 |d::ds=>.cons (.same d) (DSL.refl ds)
theorem Aa.sub{P:Program}{f:FuncId}{ds es:List D}{σ σ':St}{d e:D}(h:Aa P f es σ d σ')(hs:DSL ds es)(hd:DS d e):Aa P f ds σ e σ':=by
 refine⟨h.1,fun g w args hw hargs=>Calls.mono (h.2 g w args hw (hs.rep hargs)) ?_⟩
 rintro x w' ⟨u,g',rfl,hw',hr⟩
 exact⟨u,g',rfl,hw',hd.rep hr⟩
theorem AcF{env env':List D}{σ:St}(h:DSL env env'):Cv env σ env' σ:=fun E g a w hf=>⟨g,hf.wi,h.rep hf.env,hf.defers⟩
section
variable {P : Program} {o : Oper} {σ : St}
theorem Oi{op:BinOp}{t ty e:TypeId}{x:Operand}(ho:o.op=.binOp op t x (.const (.slice none 0 0)) ty)(hu:P.underlying t=some (.slice e))(hop:op=.eql∨op=.neq)(ρ:Operand->Value)(w:World){a:Option Addr}{len cap:Nat}(e1:ρ x=.slice a len cap)(e2:ρ (.const (.slice none 0 0))=.slice none 0 0):
  (execOp ρ o).run P w=.ok (.value (.bool (if op=.eql then a.isNone else !a.isNone))) w:=by
 have heq:(Op.equal t (.slice a len cap) (.slice none 0 0)).run P w=.ok a.isNone w:=by
  have gen:∀d,(Op.equalIn (d+1) t (.slice a len cap) (.slice none 0 0)).run P w=.ok a.isNone w:=fun d=>by
   cases a<;>simp[Op.equalIn,run_underlying hu]
  exact gen 9999
 rcases hop with rfl|rfl<;>simp[execOp,ho,e1,e2,eqGuard,binOp,heq]
theorem Lj{t:TypeId}{parts:Array (Nat×Operand)}(ho:o.op=.buildSlice t 0 parts)(hp:parts= #[]){e:TypeId}{sz by':Nat}{z:Option Value}(hs:BP P t=some (e,sz,by',z)):
  Ah P o [] σ (.gro σ.H.length 0 sz) ⟨σ.H++[some []],σ.own⟩:=by
 intro E g a w K Q hw hds hK
 obtain⟨i,hu,hi,rfl,rfl,rfl⟩:=AA hs
 subst hp
 obtain⟨g',h3,h4,h5,h6,h7⟩:=hw.newObjR (us:=[]) (rest:=[]) (cs:=[]) e (by simp[Ac]) (by simp)
 have:=hK g' _ (.slice (some ⟨w.heap.size,0,none⟩) 0 0) h3 h4 (by
  simp only[Ae]
  exact⟨by omega,0,HB _,by rw[h6];simp,by rw[h5]⟩)
 unfold Oper.wp execOp
 simpa[ho,Instr.buildSlice,run_underlying hu,sizeOf,typeInfo,hi,Instr.fill,newRow,Oper.upon,show Array.range 0= #[] from rfl] using this
theorem DY{c:Call}{fo:Operand}(ho:o.op=.call c)(hc:c.callee=.value fo){f:FuncId}{fs cs:List V}{ds:List D}(hp:D.pls ds=true){Hc:List (Option (List D))}{j:Nat}{os:List D}(hj:Hc[j]?=some (some os))(hos:D.pls os=true){len:Nat}
  (hspec:Aa P f (fs.map .v++ds++cs.map .v) ⟨[],[]⟩ (.arr j 0 len) ⟨Hc,[]⟩):Ah P o (.v (.fn f fs cs)::ds) σ (.arr σ.H.length 0 len) ⟨σ.H++[some os],σ.own⟩:=by
 intro E g a w K Q hw hds hK
 obtain⟨us,vs,ws,hf,hargs,h1,h2,h3⟩:=CE ho hc hds
 refine E4 (_E:=E) (_g:=g) ho hc hspec.1 hf hargs ?_
 have hargs':Ac { M:=g.M,β:=g.β,n:=0,ι:=fun _ _=>none,κ:=g.κ } (fs.map .v++ds++cs.map .v) (us++ws++vs):=
  B2 (by rfl) (by simp[Db,BT,hp]) (Ap (Ap h1 h3) h2)
 refine Calls.mono (hspec.2 _ w _ hw.rep.empty hargs') ?_
 rintro e w' ⟨u,g',rfl,hw',hr⟩
 obtain⟨h4,h5⟩:=hw.back0 (by rfl) hw'
 simp only[Ae] at hr
 obtain⟨vs',rest',e',hb,hrv,hone,hMn,_⟩:=hw'.rep.obj j os hj
 have hge:w.heap.size<=g'.β j:=by
  rcases hw'.objs j os hj with h|h
  ·exact h
  ·exact absurd h Eh
 obtain⟨h6,h7⟩:=h4.addObj (b:=g'.β j) (us:=vs') (rest:=rest') (e:=e') (cs:=os) hb (.inl (Iz hw.size hge)) hMn
  (fun i cs hi=>by have:=hw.rep.obj_lt hi;simp only;omega) (fun x hx v hv hvb=>by have:=hw.rep.own_lt hx hv hvb;omega) (B2 (by rfl) hos hrv) hone
 refine⟨u,rfl,hK _ _ _ h6 (Gh.le_trans h5 h7) ?_⟩
 simp only[Ae]
 obtain⟨_,cap,hcap,rfl⟩:=hr
 exact⟨by rw[hw.rep.n];omega,cap,hcap,by rw[hw.rep.n];simp⟩
end
end Go.Dv

namespace Go.Nv
open Go.Dv
open Go.IntKind (wrap i64 u64)
abbrev vi(n:Int):V:=.int .i64 n
abbrev di(n:Int):D:=.v (.int .i64 n)
abbrev db(b:Bool):D:=.v (.bool b)
abbrev vb(c:UInt8):V:=.int .u8 c.toNat
abbrev ds(s:List UInt8):D:=.v (.str s)
abbrev nV:List V:=[]
abbrev iz(n:Int):Int:=n
inductive Aj1 where
 |x (v:V)                                  -- the element of a list
 |xs (v:V)                                 -- the same,of a size to be shown
 |y (c:UInt8)                              -- a byte of a string
 |c (d:D)                                  -- what a call returns (data)
 |ca (xs:List V) (d:D)                   -- the same;the arguments as the contract has them
 |c1 (os:List D) (d:D)                   -- a call that is handed one object:its cells behind
 |c1k (k k' sz:Nat) (os:List D) (xs:List V)  -- the same;it returns an owned list
 |ck (k k' sz:Nat) (xs:List V)           -- a call that returns an owned list
 |ckn (k k' sz:Nat) (xs:List V)          -- the same,handed nil
 |k                                          -- a truth value that is known
 |t
 |f
 |l (sl:List (Nat×Option D)) (σ:Option St)   -- a loop's head:what is known there
 |lo (sl:List (Nat×Option D)) (σ:St)   -- the same,with open cells
 |n                                          -- into a loop
 |m (d:D)                                  -- a cell
 |w                                          -- a write to an open place
 |ww                                         -- the same,of a struct
 |cs (σ:St)                                -- the state,seen otherwise
 |ct (t:Nat) (d:D) (σ:St)              -- a slot and the state,seen otherwise
 |oc (d:D) (σ:St)                        -- any call
 |gx (cs:List D) (H:List (Option (List D)))  -- a growing list is appended to,in a state that is not known whole
 |o (d:D) (σ:St)                         -- any operation
 |p (d:D)                                  -- any operation that leaves the state as it is
 |g                                          -- an empty literal that grows
 |ga (s:Nat)                               -- a list that grew,as an array
 |cj (j:Nat) (H:List (Option (List D))) (os:List D) (len:Nat)   -- a call that returns a new array
 |un (s:Nat)                               -- a slot's list is appended to no longer
 |dr (k:Nat)                               -- a list's right to be appended to is given up
 |fa (q:Nat) (ss:List Nat)               -- a struct or array becomes data,seen from some slots
 |f1 (q:Nat) (ss:List Nat)               -- a variable of one cell becomes data
 |fl (q s:Nat) (xs:List V)               -- a list of one-cell elements becomes data
 |q (r i:Nat)                              -- nothing before operation i of region r
 |cl (q j k sz:Nat)                        -- a cell's nil may be appended to
 |nw (s k sz:Nat)                          -- a slot's nil may be appended to
 |a (k:Nat)                                -- a list that is made may be appended to
 |s (sl:List (Nat×Option D))             -- the walk stops ahead of an operation
 |r
 |rn
 |ro
 |rd                                         -- a return of structs with lists of their own
inductive Sc:Type 1 where
 |z
 |e {A:Type} (f:A->Sc)
 |b (s t:Sc)
 |h (i:Aj1) (s:Sc)
namespace Sc
abbrev x(v:V)(s:Sc):Sc:=.h (.x v) s
abbrev y(c:UInt8)(s:Sc):Sc:=.h (.y c) s
abbrev c(d:D)(s:Sc):Sc:=.h (.c d) s
abbrev ca(xs:List V)(d:D)(s:Sc):Sc:=.h (.ca xs d) s
abbrev c1(os:List D)(d:D)(s:Sc):Sc:=.h (.c1 os d) s
abbrev k(s:Sc):Sc:=.h .k s
abbrev t(s:Sc):Sc:=.h .t s
abbrev f(s:Sc):Sc:=.h .f s
abbrev a(k:Nat)(s:Sc):Sc:=.h (.a k) s
abbrev n(s:Sc):Sc:=.h .n s
abbrev m(d:D)(s:Sc):Sc:=.h (.m d) s
abbrev w(s:Sc):Sc:=.h .w s
abbrev q(r i:Nat)(h:Aj1)(s:Sc):Sc:=.h (.q r i) (.h h s)
abbrev r:Sc:=.h .r .z
abbrev rn:Sc:=.h .rn .z
abbrev ro:Sc:=.h .ro .z
abbrev rd:Sc:=.h .rd .z
abbrev lo(sl:List (Nat×Option D))(σ:St):Sc:=.h (.lo sl σ) .z
abbrev l(sl:List (Nat×Option D)):Sc:=.h (.l sl none) .z
abbrev ls(sl:List (Nat×Option D))(σ:St):Sc:=.h (.l sl (some σ)) .z
end Sc
noncomputable def AQ{α β:Type}(l:List α)(k:List α->β):β:=
 List.rec (motive:=fun _=>(List α->β)->β) (fun k=>k []) (fun a _ ih k=>ih fun r=>k (a::r)) l k
theorem AM{α β:Type}:∀(l:List α) (k:List α->β),AQ l k=k l
 |[],_=>rfl
 |a::l,k=>by
  have h:AQ (a::l) k=AQ l fun r=>k (a::r):=rfl
  rw[h,AM l]
noncomputable def Cx{α β:Type}(l:List α)(i:Nat)(x:α)(k:List α->β):β:=
 List.rec (motive:=fun _=>Nat->(List α->β)->β) (fun _ k=>k []) (fun a as ih i k=>Nat.rec (motive:=fun _=>β) (k (x::as)) (fun j _=>ih j fun r=>k (a::r)) i) l i k
theorem AY{α β:Type}(x:α):∀(l:List α) (i:Nat) (k:List α->β),Cx l i x k=k (l.set i x)
 |[],_,_=>rfl
 |a::l,0,k=>rfl
 |a::l,i+1,k=>by
  have h:Cx (a::l) (i+1) x k=Cx l i x fun r=>k (a::r):=rfl
  rw[h,AY x l];rfl
noncomputable def Da{β:Type}(env:List D)(t:Option Tmp)(d:D)(k:List D->β):β:=match t with
 |some t=>Cx env t d k
 |none=>k env
theorem CW{β:Type}(env:List D)(t:Option Tmp)(d:D)(k:List D->β):Da env t d k=k (AN env t d):=by
 cases t with
 |none=>rfl
 |some t=>exact AY d env t k
noncomputable def AF{α β:Type}(l:List α)(x:α)(k:List α->β):β:=
 List.rec (motive:=fun _=>(List α->β)->β) (fun k=>k [x]) (fun a _ ih k=>ih fun r=>k (a::r)) l k
theorem AE{α β:Type}(x:α):∀(l:List α) (k:List α->β),AF l x k=k (l++[x])
 |[],_=>rfl
 |a::l,k=>by
  have h:AF (a::l) x k=AF l x fun r=>k (a::r):=rfl
  rw[h,AE x l];rfl
noncomputable def mkE(n:Nat)(L:List (Nat×D)):List D:=L.foldl (fun e p=>e.set p.1 p.2) (List.replicate n .undef)
def Aie:Value->D
 |.slice none 0 0=>.v .nils
 |u=>Ml u
noncomputable def evN(env:List D):Operand->D
 |.tmp t=>env.getD t .undef
 |.const u=>Aie u
 |.global n=>AaQ n
 |.func f=>.v (.fn f [] [])
theorem Rz{g:Gh}{u:Value}:Ae g (Aie u) u:=by
 unfold Aie
 split
 ·simp[Ae]
 ·exact LV g u
theorem ZF{g:Gh}{env:List D}{a:Act}(hG:D5 g.M)(h:Ac g env a.tmps.toList)(x:Operand):Ae g (evN env x) (a.eval x):=by
 cases x with
 |tmp t=>exact ER h t
 |const u=>exact Rz
 |global n=>exact KY hG h (.global n)
 |func f=>exact KY hG h (.func f)
theorem Om{g:Gh}{env:List D}{a:Act}(hG:D5 g.M)(h:Ac g env a.tmps.toList):∀(l:List Operand),Ac g (l.map (evN env)) (l.map a.eval)
 |[]=>by simp[Ac]
 |x::l=>by simp only[HU,Ac];exact⟨_,_,rfl,ZF hG h x,Om hG h l⟩
def kq(a b:IntKind):Bool:=decide (a=b)
noncomputable def AhW(P:Program)(op:BinOp)(t:TypeId)(x y:V)(K:V->Prop):Prop:=
 match x,y with
 |.int kd a,.int kd' b=>
  match op with
  |.quo=>cond (kq kd kd') (b≠0/\K (.int kd (kd.wrap (a.tdiv b)))) False
  |.rem=>cond (kq kd kd') (b≠0/\K (.int kd (a.tmod b))) False
  |.shl=>0<=b/\K (.int kd (kd.wrap (a*2^(min b.toNat kd.bits))))
  |.shr=>0<=b/\K (.int kd (a.fdiv (2^(min b.toNat kd.bits))))
  |op=>cond (kq kd kd') (match AiV op kd a b with|some z=>K z|none=>False) False
 |.str a,.str b=>
  match op with
  |.add=>a.length+b.length<=9223372036854775807/\K (.str (a++b))
  |op=>match AhI op a b with|some z=>K z|none=>False
 |.bool a,.bool b=>match P.underlying t with
  |some .bool=>match op with
   |.eql=>K (.bool (a==b))
   |.neq=>K (.bool (a !=b))
   |_=>False
  |_=>False
 |_,_=>False
theorem An{b:Bool}{x:Prop}(h:cond b x False):b=true/\x:=by cases b<;>simp_all
theorem Adb{P:Program}{op:BinOp}{t ty:TypeId}{x y:V}{K:V->Prop}(h:AhW P op t x y K){o:Oper}{a b:Operand}(ho:o.op=.binOp op t a b ty):
  ∃z,K z/\∀σ,Ah P o [.v x,.v y] σ (.v z) σ:=by
 unfold AhW at h
 split at h
 ·rename_i kd a kd' b
  split at h
  ·obtain⟨e,hb,h'⟩:=An h
   have e:=HF e;subst e
   exact⟨_,h',fun σ=>Wi ho rfl hb⟩
  ·obtain⟨e,hb,h'⟩:=An h
   have e:=HF e;subst e
   exact⟨_,h',fun σ=>Wi ho rfl hb⟩
  ·exact⟨_,h.2,fun σ=>Acs ho rfl h.1⟩
  ·exact⟨_,h.2,fun σ=>Acs ho rfl h.1⟩
  ·obtain⟨e,h'⟩:=An h
   have e:=HF e;subst e
   split at h'
   ·rename_i z hz;exact⟨z,h',fun σ=>Hz ho hz⟩
   ·exact h'.elim
 ·split at h
  ·exact⟨_,h.2,fun σ=>Wr ho h.1⟩
  ·split at h
   ·rename_i z hz;exact⟨z,h,fun σ=>Ad8 ho hz⟩
   ·exact h.elim
 ·rename_i a b
  split at h
  ·rename_i hu
   split at h
   ·exact⟨_,h,fun σ=>by have:=Wo (P:=P) (σ:=σ) ho hu (a:=a) (b:=b) (.inl rfl);simpa using this⟩
   ·exact⟨_,h,fun σ=>by have:=Wo (P:=P) (σ:=σ) ho hu (a:=a) (b:=b) (.inr rfl);simpa using this⟩
   ·exact h.elim
  ·exact h.elim
 ·exact h.elim
noncomputable def CQ:List D->Option (List V)
 |[]=>some []
 |.v x::ds=>match CQ ds with
  |some xs=>some (x::xs)
  |none=>none
 |.acc _ xs::ds=>match CQ ds with
  |some ys=>some (.list xs::ys)
  |none=>none
 |_::_=>none
theorem F5:∀{ds:List D} {xs:List V},CQ ds=some xs->Es ds=some xs
 |[],xs,h=>by simpa[CQ,Es] using h
 |d::ds,xs,h=>by
  cases d<;>simp only[CQ] at h<;>first|(split at h<;>first|(rename_i h1;simp at h;subst h;simp[Es,D.toV,F5 h1])|simp at h)|simp at h
noncomputable def Y5:List (Nat×Operand)->List D->Option (List (Nat×V))
 |[],[]=>some []
 |p::ps,.v x::ds=>match Y5 ps ds with
  |some xs=>some ((p.1,x)::xs)
  |none=>none
 |p::ps,.acc _ l::ds=>match Y5 ps ds with
  |some xs=>some ((p.1,.list l)::xs)
  |none=>none
 |_,_=>none
theorem Pz:∀{ps:List (Nat×Operand)} {ds:List D} {xs:List (Nat×V)},Y5 ps ds=some xs->C6 ps ds=some xs
 |[],[],xs,h=>by simpa[Y5,C6] using h
 |[],_::_,xs,h=>by simp[Y5] at h
 |_::_,[],xs,h=>by simp[Y5] at h
 |p::ps,d::ds,xs,h=>by
  obtain⟨i,q⟩:=p
  cases d<;>simp only[Y5] at h<;>first|(split at h<;>first|(rename_i h1;simp at h;subst h;simp[C6,D.toV,Pz h1])|simp at h)|simp at h
def AfA:List (Nat×Operand)->Nat->Bool
 |[],_=>true
 |p::ps,i=>Nat.beq p.1 i&&AfA ps (Nat.succ i)
theorem PJ:∀{ps:List (Nat×Operand)} {i:Nat},AfA ps i=true->ps=((ps.map (·.2)).zipIdx i).map fun x=>(x.2,x.1)
 |[],i,_=>rfl
 |p::ps,i,h=>by
  simp only[AfA,H5] at h
  have h1:=HS h.1
  simp only[HU,List.zipIdx_cons]
  rw[←PJ h.2]
  cases p;simp_all
noncomputable def XY(sz:Nat)(xs:List V):Bool:=xs.all fun x=>Nat.beq x.size sz
theorem KA{sz:Nat}{xs:List V}(h:XY sz xs=true):∀x∈xs,x.size=sz:=fun x hx=>HS (Ip.1 h x hx)
noncomputable def S4(cs:List V)(fo n:Nat)(b:Bool)(K:V->Prop):Prop:=match b with
 |true=>cond (Nat.ble (fo+n) cs.length) (K (.agg ((cs.drop fo).take n))) False
 |false=>match cs[fo]? with
  |some y=>K y
  |none=>False
theorem JX{cs:List V}{fo n:Nat}{b:Bool}{K:V->Prop}(h:S4 cs fo n b K):∃y,K y/\Gz cs fo n b=some y:=by
 unfold S4 at h
 split at h
 ·obtain⟨h1,h2⟩:=An h
  refine⟨_,h2,?_⟩
  simp[Gz,HX h1]
 ·split at h
  ·rename_i y hy;exact⟨y,h,by simp[Gz,hy]⟩
  ·exact h.elim
noncomputable def AhA(P:Program)(s:TypeId)(f:Nat)(cs:List V)(K:V->Prop):Prop:=match OM P s f with
 |some (fo,1,false)=>S4 cs fo 1 false K
 |some (fo,n+1,true)=>S4 cs fo (n+1) true K
 |_=>False
noncomputable def Ah9(P:Program)(t:TypeId)(cs:List V)(i:Int)(K:V->Prop):Prop:=match AcM P t with
 |some (len,1,false)=>0<=i/\i<len/\S4 cs (i.toNat*1) 1 false K
 |some (len,n,true)=>0<=i/\i<len/\S4 cs (i.toNat*n) n true K
 |_=>False
theorem UD{P:Program}{t:TypeId}{cs:List V}{i:Int}{K:V->Prop}(h:Ah9 P t cs i K):
  ∃y len sz b,K y/\AcM P t=some (len,sz,b)/\(b=false->sz=1)/\0<=i/\i<len/\Gz cs (i.toNat*sz) sz b=some y:=by
 unfold Ah9 at h
 split at h
 ·rename_i len ht
  obtain⟨y,h3,h4⟩:=JX h.2.2
  exact⟨y,len,1,false,h3,ht,fun _=>rfl,h.1,h.2.1,h4⟩
 ·rename_i len n ht
  obtain⟨y,h3,h4⟩:=JX h.2.2
  exact⟨y,len,n,true,h3,ht,fun h=>by simp at h,h.1,h.2.1,h4⟩
 ·exact h.elim
noncomputable def vSl(n:Nat)(l h:Option Int)(K:Nat->Nat->Prop):Prop:=match l,h with
 |none,none=>K 0 n
 |some l,none=>0<=l/\l<=n/\K l.toNat n
 |none,some h=>0<=h/\h<=n/\K 0 h.toNat
 |some l,some h=>0<=l/\l<=h/\h<=n/\K l.toNat h.toNat
theorem Acj{n:Nat}{l h:Option Int}{K:Nat->Nat->Prop}(hh:vSl n l h K):∃a b,K a b/\BD n l h=some (a,b):=by
 unfold vSl at hh
 split at hh
 ·exact⟨_,_,hh,by simp[BD]⟩
 ·exact⟨_,_,hh.2.2,by simp only[BD,Option.getD];rw[HP (by omega)];simp⟩
 ·exact⟨_,_,hh.2.2,by simp only[BD,Option.getD];rw[HP (by omega)];simp⟩
 ·exact⟨_,_,hh.2.2.2,by simp only[BD,Option.getD];rw[HP (by omega)]⟩
def Sq(P:Program)(o:Oper)(ds:List D)(K:Sc->D->Prop):Prop:=∃s d,K s d/\∀σ,Ah P o ds σ d σ
theorem Sq.v{P:Program}{o:Oper}{ds:List D}{K:Sc->D->Prop}{s:Sc}{z:V}(hk:K s (.v z))(h:∀σ,Ah P o ds σ (.v z) σ):Sq P o ds K:=⟨s,_,hk,h⟩
def AaK:Operand->Bool
 |.const (.slice none 0 0)=>true
 |_=>false
theorem RD{x:Operand}(h:AaK x=true):x=.const (.slice none 0 0):=by
 unfold AaK at h
 split at h
 ·rfl
 ·simp at h
noncomputable def AhV(P:Program)(op:BinOp)(t:TypeId)(b:Operand)(x:V)(K:V->Prop):Prop:=cond (AaK b) (match P.underlying t with
 |some (.slice _)=>match op,x with
  |.eql,.list xs=>xs≠ []/\K (.bool false)
  |.neq,.list xs=>xs≠ []/\K (.bool true)
  |.eql,.nils=>K (.bool true)
  |.neq,.nils=>K (.bool false)
  |_,_=>False
 |_=>False) False
theorem MO{P:Program}{o:Oper}{op:BinOp}{t ty e:TypeId}{a:Operand}(ho:o.op=.binOp op t a (.const (.slice none 0 0)) ty)(hu:P.underlying t=some (.slice e))(hop:op=.eql∨op=.neq){x:V}{isn:Bool}
  (hx:∀M u,repV M x u->∃ad len cap,u=.slice ad len cap/\ad.isNone=isn) (σ:St):Ah P o [.v x,.v .nils] σ (.v (.bool (if op=.eql then isn else !isn))) σ:=by
 intro E g ac w K Q hw hds hK
 simp only[ho,Op.operands] at hds
 obtain⟨u,v,eq,h1,h2⟩:=Ao.1 hds
 simp only[HU,I1,HH,Ih] at eq
 simp only[Ae] at h1
 obtain⟨ad,len,cap,rfl,rfl⟩:=hx _ _ h1
 have hrun:=Oi (P:=P) ho hu hop ac.eval w eq.1 rfl
 have:=hK g w (.bool (if op=.eql then ad.isNone else !ad.isNone)) hw g.le_refl (by simp[Ae])
 unfold Oper.wp
 rw[hrun]
 exact this
theorem Ry{xs:List V}(hx:xs≠ [])(M:Mem)(u:Value)(h:repV M (.list xs) u):∃ad len cap,u=.slice ad len cap/\ad.isNone=false:=by
 obtain⟨ad,cap,rfl,_,hor⟩:=AU.1 h
 rcases hor with h|⟨b,off,sz,us,rfl,_⟩
 ·exact absurd h hx
 ·exact⟨_,_,_,rfl,rfl⟩
theorem Rx(M:Mem)(u:Value)(h:repV M .nils u):∃ad len cap,u=.slice ad len cap/\ad.isNone=true:=by
 rw[Cq] at h;exact⟨_,_,_,h,rfl⟩
theorem AcX{P:Program}{op:BinOp}{t ty:TypeId}{x:V}{a b:Operand}{K:V->Prop}(h:AhV P op t b x K){o:Oper}(ho:o.op=.binOp op t a b ty):∃z,K z/\∀σ,Ah P o [.v x,.v .nils] σ (.v z) σ:=by
 unfold AhV at h
 obtain⟨h1,h2⟩:=An h
 have hb:=RD h1;subst hb
 split at h2
 ·rename_i e hu
  split at h2
  ·exact⟨_,h2.2,fun σ=>MO ho hu (.inl rfl) (Ry h2.1) σ⟩
  ·exact⟨_,h2.2,fun σ=>MO ho hu (.inr rfl) (Ry h2.1) σ⟩
  ·exact⟨_,h2,fun σ=>MO ho hu (.inl rfl) Rx σ⟩
  ·exact⟨_,h2,fun σ=>MO ho hu (.inr rfl) Rx σ⟩
  ·exact h2.elim
 ·exact h2.elim
noncomputable def AhU(P:Program)(op:BinOp)(t:TypeId)(b:Operand)(isn:Bool)(K:V->Prop):Prop:=cond (AaK b) (match P.underlying t with
 |some (.slice _)=>(match op with
  |.eql=>K (.bool isn)
  |.neq=>K (.bool !isn)
  |_=>False)
 |_=>False) False
theorem AcW{P:Program}{op:BinOp}{t ty:TypeId}{y:V}{ad:Option Addr}{len cap:Nat}{a b:Operand}{K:V->Prop}(h:AhU P op t b ad.isNone K){o:Oper}(ho:o.op=.binOp op t a b ty):∃z,K z/\∀σ,Ah P o [.rv y (.slice ad len cap),.v .nils] σ (.v z) σ:=by
 unfold AhU at h
 obtain⟨h1,h2⟩:=An h
 have hb:=RD h1;subst hb
 have main:∀{e:TypeId},P.underlying t=some (.slice e)->op=.eql∨op=.neq->∀σ,Ah P o [.rv y (.slice ad len cap),.v .nils] σ (.v (.bool (if op=.eql then ad.isNone else !ad.isNone))) σ:=by
  intro e hu hop σ E g ac w K Q hw hds hK
  simp only[ho,Op.operands] at hds
  obtain⟨u,v,eq,h1,h2⟩:=Ao.1 hds
  simp only[HU,I1,HH,Ih] at eq
  simp only[Ae] at h1
  obtain⟨rfl,_⟩:=h1
  have hrun:=Oi (P:=P) ho hu hop ac.eval w eq.1 rfl
  have:=hK g w (.bool (if op=.eql then ad.isNone else !ad.isNone)) hw g.le_refl (by simp[Ae])
  unfold Oper.wp
  rw[hrun]
  exact this
 split at h2
 ·rename_i e hu
  split at h2
  ·exact⟨_,h2,fun σ=>main hu (.inl rfl) σ⟩
  ·exact⟨_,h2,fun σ=>main hu (.inr rfl) σ⟩
  ·exact h2.elim
 ·exact h2.elim
theorem MC{P:Program}{f:FuncId}{ds ds':List D}{σ σ':St}{d:D}(h:∀a cap,Aa P f (ds++ .rv (.list []) (.slice a 0 cap)::ds') σ d σ'):Aa P f (ds++ .v (.list [])::ds') σ d σ':=by
 refine⟨(h none 0).1,fun g w args hw hargs=>?_⟩
 have split:∀{ds:List D} {us:List Value},Ac g (ds++ .v (.list [])::ds') us->∃a cap,Ac g (ds++ .rv (.list []) (.slice a 0 cap)::ds') us:=by
  intro ds
  induction ds with
  |nil=>
   intro us h
   simp only[List.nil_append,Ac] at h
   obtain⟨u,us',rfl,h3,h4⟩:=h
   simp only[Ae] at h3
   obtain⟨a,cap,rfl,_,hor⟩:=AU.1 h3
   exact⟨a,cap,by simp only[List.nil_append,Ac];exact⟨_,_,rfl,by simp only[Ae];exact⟨rfl,h3⟩,h4⟩⟩
  |cons x ds ih=>
   intro us h
   simp only[Jk,Ac] at h⊢
   obtain⟨u,us',rfl,h3,h4⟩:=h
   obtain⟨a,cap,h5⟩:=ih h4
   exact⟨a,cap,_,_,rfl,h3,h5⟩
 obtain⟨a,cap,h5⟩:=split hargs
 exact(h a cap).2 g w args hw h5
noncomputable def M9:List D->Option (List V)
 |[]=>some []
 |.v .nils::ds=>match M9 ds with
  |some xs=>some (.list []::xs)
  |none=>none
 |.v x::ds=>match M9 ds with
  |some xs=>some (x::xs)
  |none=>none
 |.acc _ xs::ds=>match M9 ds with
  |some ys=>some (.list xs::ys)
  |none=>none
 |_::_=>none
theorem EF{g:Gh}{u:Value}(h:Ae g (.v .nils) u):Ae g (.v (.list [])) u:=by
 simp only[Ae,Cq] at h⊢
 subst h;exact Dw _
theorem EE{g:Gh}:∀{ds:List D} {xs:List V} {us:List Value},M9 ds=some xs->Ac g ds us->Ac g (xs.map .v) us
 |[],xs,us,h,hr=>by simp[M9] at h;subst h;simpa using hr
 |d::ds,xs,us,h,hr=>by
  simp only[Ac] at hr
  obtain⟨u,us',rfl,h1,h2⟩:=hr
  unfold M9 at h
  split at h
  ·rename_i e;simp at e
  ·rename_i ds' e;simp only[HH] at e;obtain⟨rfl,rfl⟩:=e
   split at h
   ·rename_i ys hy;simp at h;subst h
    simp only[HU,Ac];exact⟨_,_,rfl,EF h1,EE hy h2⟩
   ·simp at h
  ·rename_i x ds' e;simp only[HH] at e;obtain⟨rfl,rfl⟩:=e
   split at h
   ·rename_i ys hy;simp at h;subst h
    simp only[HU,Ac];exact⟨_,_,rfl,h1,EE hy h2⟩
   ·simp at h
  ·rename_i k l ds' e;simp only[HH] at e;obtain⟨rfl,rfl⟩:=e
   split at h
   ·rename_i ys hy;simp at h;subst h
    simp only[HU,Ac];exact⟨_,_,rfl,KW h1,EE hy h2⟩
   ·simp at h
  ·simp at h
theorem KK{g:Gh}{ds:List D}{xs:List V}{us:List Value}(h:CQ ds=some xs)(hr:Ac g ds us):Ac g (xs.map .v) us:=
 DM (KU (F5 h) hr)
noncomputable def YS(P:Program)(f:FuncId)(fs cs:List V)(ds:List D)(s:Sc)(K:Sc->D->Prop):Prop:=match s with
 |.h (.c d) s=>cond d.pl (match M9 ds with
  |some xs=>Aa P f ((fs++xs++cs).map .v) ⟨[],[]⟩ d ⟨[],[]⟩/\K s d
  |none=>False) False
 |.h (.ca ys d) s=>cond d.pl (match CQ ds with
  |some xs=>VSL (fs++xs++cs) ys/\Aa P f (ys.map .v) ⟨[],[]⟩ d ⟨[],[]⟩/\K s d
  |none=>False) False
 |_=>False
theorem AgX:∀{xs ys:List V},VSL xs ys->Dv.DSL (xs.map .v) (ys.map .v)
 |_,_,.nil=>.nil
 |_,_,.cons h hs=>.cons (.v h) (AgX hs)
theorem QH{P:Program}{f:FuncId}{fs cs:List V}{ds:List D}{s:Sc}{K:Sc->D->Prop}(h:YS P f fs cs ds s K){o:Oper}{c:Call}{fo:Operand}(ho:o.op=.call c)(hc:c.callee=.value fo):
  Sq P o (.v (.fn f fs cs)::ds) K:=by
 unfold YS at h
 split at h
 ·rename_i d s
  obtain⟨h1,h2⟩:=An h
  split at h2
  ·rename_i xs hx
   refine⟨_,_,h2.2,fun σ=>B3 (fun g us hr=>?_) (MS (d:=d) (ds:=xs.map .v) ho hc (BT xs) h1 (by simpa[IJ] using h2.1))⟩
   simp only[Ac] at hr⊢
   obtain⟨u,us',e,h3,h4⟩:=hr
   exact⟨u,us',e,h3,EE hx h4⟩
  ·exact h2.elim
 ·rename_i ys d s
  obtain⟨h1,h2⟩:=An h
  split at h2
  ·rename_i xs hx
   obtain⟨h3,h4,h5⟩:=h2
   have h4':=h4.sub (e:=d) (by simpa using AgX h3) (.same d)
   refine⟨_,_,h5,fun σ=>B3 (fun g us hr=>?_) (MS (d:=d) (ds:=xs.map .v) ho hc (BT xs) h1 (by simpa[IJ] using h4'))⟩
   simp only[Ac] at hr⊢
   obtain⟨u,us',e,h3,h4⟩:=hr
   exact⟨u,us',e,h3,KK hx h4⟩
  ·exact h2.elim
 ·exact h.elim
noncomputable def M7(P:Program)(c:Call)(ds:List D)(K:V->Prop):Prop:=match c.callee,ds with
 |.builtin .len,[.v (.list xs)]=>match c.args.toList,c.argTypes.toList with
  |[_],[t]=>match P.underlying t with
   |some (.slice _)=>K (.int .i64 xs.length)
   |_=>False
  |_,_=>False
 |.builtin .len,[.v .nils]=>match c.args.toList,c.argTypes.toList with
  |[_],[t]=>match P.underlying t with
   |some (.slice _)=>K (.int .i64 0)
   |_=>False
  |_,_=>False
 |.builtin .len,[.arr _ _ n]=>match c.args.toList,c.argTypes.toList with
  |[_],[t]=>match P.underlying t with
   |some (.slice _)=>K (.int .i64 n)
   |_=>False
  |_,_=>False
 |.builtin .len,[.gro _ n _]=>match c.args.toList,c.argTypes.toList with
  |[_],[t]=>match P.underlying t with
   |some (.slice _)=>K (.int .i64 n)
   |_=>False
  |_,_=>False
 |.builtin .len,[.v (.str s)]=>match c.args.toList,c.argTypes.toList with
  |[_],[t]=>match P.underlying t with
   |some .string=>K (.int .i64 s.length)
   |_=>False
  |_,_=>False
 |.builtin .max,[.v (.int kd a),.v (.int ke b)]=>match c.args.toList with
  |[_,_]=>cond (kq kd ke) (K (.int kd (if b>a then b else a))) False
  |_=>False
 |.builtin .min,[.v (.int kd a),.v (.int ke b)]=>match c.args.toList with
  |[_,_]=>cond (kq kd ke) (K (.int kd (if b<a then b else a))) False
  |_=>False
 |_,_=>False
theorem P6{P:Program}{c:Call}{ds:List D}{K:V->Prop}(h:M7 P c ds K){o:Oper}(ho:o.op=.call c):∃z,K z/\∀σ,Ah P o ds σ (.v z) σ:=by
 have mk1:∀{b:Builtin} {x:Operand} {t:TypeId},c.callee=.builtin b->c.args.toList=[x]->c.argTypes.toList=[t]->o.op=.call { callee:=.builtin b,args:= #[x],argTypes:= #[t]}:=by
  intro b x t hc h1 h2
  rw[ho];cases c;simp only at hc h1 h2;subst hc
  congr 2
  ·apply I6;simpa using h1
  ·apply I6;simpa using h2
 have mk2:∀{b:Builtin} {x y:Operand},c.callee=.builtin b->c.args.toList=[x,y]->o.op=.call { callee:=.builtin b,args:= #[x,y],argTypes:=c.argTypes }:=by
  intro b x y hc h1
  rw[ho];cases c;simp only at hc h1;subst hc
  congr 2
  apply I6;simpa using h1
 unfold M7 at h
 split at h
 ·rename_i xs hc
  split at h
  ·rename_i x t h1 h2
   split at h
   ·rename_i e hu;exact⟨_,h,fun σ=>Hy (mk1 hc h1 h2) hu⟩
   ·exact h.elim
  ·exact h.elim
 ·rename_i hc
  split at h
  ·rename_i x t h1 h2
   split at h
   ·rename_i e hu
    refine⟨_,h,fun σ=>B3 (fun g us hr=>?_) (Hy (xs:=[]) (mk1 hc h1 h2) hu)⟩
    rw[A2] at hr⊢
    obtain⟨u,e,hr⟩:=hr
    exact⟨u,e,EF hr⟩
   ·exact h.elim
  ·exact h.elim
 ·rename_i q off n hc
  split at h
  ·rename_i x t h1 h2
   split at h
   ·rename_i e hu;exact⟨_,h,fun σ=>MQ (mk1 hc h1 h2) hu⟩
   ·exact h.elim
  ·exact h.elim
 ·rename_i q n sz hc
  split at h
  ·rename_i x t h1 h2
   split at h
   ·rename_i e hu
    refine⟨_,h,fun σ=>B3 (fun g us hr=>?_) (MQ (q:=q) (off:=0) (mk1 hc h1 h2) hu)⟩
    rw[A2] at hr⊢
    obtain⟨u,e,hr⟩:=hr
    refine⟨u,e,?_⟩
    simp only[Ae] at hr⊢
    obtain⟨k1,cap,k2,_,k3⟩:=hr
    exact⟨k1,cap,k2,k3⟩
   ·exact h.elim
  ·exact h.elim
 ·rename_i xs hc
  split at h
  ·rename_i x t h1 h2
   split at h
   ·rename_i hu;exact⟨_,h,fun σ=>Ad2 (mk1 hc h1 h2) hu⟩
   ·exact h.elim
  ·exact h.elim
 ·rename_i kd a ke b hc
  split at h
  ·rename_i x y h1
   obtain⟨e,h2⟩:=An h
   have e:=HF e;subst e
   exact⟨_,h2,fun σ=>AfO (mk2 hc h1)⟩
  ·exact h.elim
 ·rename_i kd a ke b hc
  split at h
  ·rename_i x y h1
   obtain⟨e,h2⟩:=An h
   have e:=HF e;subst e
   exact⟨_,h2,fun σ=>AfN (mk2 hc h1)⟩
  ·exact h.elim
 ·exact h.elim
noncomputable def Acl(P:Program)(t:TypeId)(ps:List (Nat×Operand))(ds:List D)(s:Sc)(K:Sc->V->Prop):Prop:=match s with
 |.h .rn s=>(match AiU P t,Y5 ps ds with
  |some (z,places),some xs=>(match FC (places[·]?) z xs with
   |some out=>AQ out fun out=>K s (.agg out)
   |none=>False)
  |_,_=>False)
 |s=>(match TS P t,Y5 ps ds with
  |some (z,places),some xs=>(match FC (places[·]?) z xs with
   |some out=>AQ out fun out=>K s (.agg out)
   |none=>False)
  |_,_=>False)
noncomputable def M8(P:Program)(t:TypeId)(len:Nat)(ps:List (Nat×Operand))(ds:List D)(K:List V->Prop):Prop:=match BP P t with
 |some (_,sz,_,z)=>match len with
  |0=>match ps,ds with
   |[],[]=>K []
   |_,_=>False
  |len+1=>match CQ ds with
   |some xs=>cond (AfA ps 0&&Nat.beq ps.length (len+1)&&z.isSome&&Nat.blt 0 sz&&Nat.ble ((len+1)*sz) 1000&&XY sz xs) (K xs) False
   |none=>False
 |none=>False
theorem P7{P:Program}{t:TypeId}{len:Nat}{ps:Array (Nat×Operand)}{ds:List D}{K:List V->Prop}(h:M8 P t len ps.toList ds K){o:Oper}(ho:o.op=.buildSlice t len ps):∃xs,K xs/\∀σ,Ah P o ds σ (.v (.list xs)) σ:=by
 unfold M8 at h
 split at h
 ·rename_i e sz by' z hs
  split at h
  ·split at h
   ·rename_i hps
    exact⟨_,h,fun σ=>LK ho (by apply I6;simpa using hps) hs⟩
   ·exact h.elim
  ·rename_i len
   split at h
   ·rename_i xs hx
    obtain⟨h1,h2⟩:=An h
    simp only[H5] at h1
    obtain⟨⟨⟨⟨⟨g1,g2⟩,g3⟩,g4⟩,g5⟩,g6⟩:=h1
    have hl:ps.size=len+1:=by have:=HS g2;simpa using this
    exact⟨_,h2,fun σ=>DZ ho (PJ g1) hl hs g3 (F5 hx) (KA g6) (by omega) (HX g4) (by simpa using g5)⟩
   ·exact h.elim
 ·exact h.elim
noncomputable def Hp(P:Program)(t:TypeId)(x:D)(l h:Option (IntKind×Int))(K:V->Prop):Prop:=match x with
 |.v (.str s)=>match P.underlying t with
  |some .string=>vSl s.length (l.map (·.2)) (h.map (·.2)) fun a b=>K (.str ((s.take b).drop a))
  |_=>False
 |.v (.list xs)=>match BP P t with
  |some (_,sz,_,_)=>cond (Nat.blt 0 sz) ((∀x∈xs,x.size=sz)/\vSl xs.length (l.map (·.2)) (h.map (·.2)) fun a b=>K (.list ((xs.take b).drop a))) False
  |none=>False
 |_=>False
noncomputable def U5(P:Program)(t:TypeId)(lo hi:Bool)(ds:List D)(K:V->Prop):Prop:=match lo,hi,ds with
 |false,false,[x]=>Hp P t x none none K
 |true,false,[x,.v (.int kd i)]=>Hp P t x (some (kd,i)) none K
 |false,true,[x,.v (.int kd i)]=>Hp P t x none (some (kd,i)) K
 |true,true,[x,.v (.int kd i),.v (.int ke j)]=>Hp P t x (some (kd,i)) (some (ke,j)) K
 |_,_,_=>False
theorem FS{P:Program}{t:TypeId}{x:D}{l h':Option (IntKind×Int)}{K:V->Prop}(h:Hp P t x l h' K){o:Oper}{xo:Operand}{lo hi:Option Operand}(ho:o.op=.slice t xo lo hi none)(h1:lo.isSome=l.isSome)(h2:hi.isSome=h'.isSome):
  ∃y,K y/\∀σ,Ah P o (x::(DV l++DV h')) σ (.v y) σ:=by
 unfold Hp at h
 split at h
 ·split at h
  ·rename_i hu
   obtain⟨a,b,h3,hp⟩:=Acj h
   exact⟨_,h3,fun σ=>Wg ho hu l h' h1 h2 hp⟩
  ·exact h.elim
 ·split at h
  ·rename_i e sz by' z hs
   obtain⟨g1,g2,g3⟩:=An h
   obtain⟨a,b,h3,hp⟩:=Acj g3
   exact⟨_,h3,fun σ=>Wh ho hs g2 (HX g1) l h' h1 h2 hp⟩
  ·exact h.elim
 ·exact h.elim
theorem U4{P:Program}{t:TypeId}{lo hi:Option Operand}{ds:List D}{K:V->Prop}(h:U5 P t lo.isSome hi.isSome ds K){o:Oper}{xo:Operand}(ho:o.op=.slice t xo lo hi none):
  ∃y,K y/\∀σ,Ah P o ds σ (.v y) σ:=by
 unfold U5 at h
 split at h
 ·rename_i e1 e2;exact FS h ho e1 e2
 ·rename_i e1 e2;exact FS h ho e1 e2
 ·rename_i e1 e2;exact FS h ho e1 e2
 ·rename_i e1 e2;exact FS h ho e1 e2
 ·exact h.elim
noncomputable def vEl(xs:List V)(i:Int)(sz:Nat)(s:Sc)(K:Sc->V->Prop):Prop:=match s with
 |.h (.x y) s=>cond (Nat.beq y.size sz) (0<=i/\xs[i.toNat]?=some y/\K s y) False
 |.h (.xs y) s=>y.size=sz/\0<=i/\xs[i.toNat]?=some y/\K s y
 |_=>False
noncomputable def UB(P:Program)(t:TypeId)(x:V)(k:Prop):Prop:=match Df P t,x with
 |some (1,false),.agg _=>False
 |some (1,false),_=>k
 |some (n,true),.agg cs=>cond (Nat.beq cs.length n) k False
 |_,_=>False
theorem AfV{x:V}(h:∀cs,x=.agg cs->False):x.isAgg=false:=by cases x<;>first|rfl|exact(h _ rfl).elim
theorem UA{P:Program}{t:TypeId}{x:V}{k:Prop}(h:UB P t x k){o:Oper}{a:Operand}(ho:o.op=.load t a):k/\∀σ,Ah P o [.v (.ref x)] σ (.v x) σ:=by
 unfold UB at h
 split at h
 ·exact h.elim
 ·rename_i ht hx;exact⟨h,fun σ=>EI ho ht (AfV hx)⟩
 ·rename_i n cs ht
  obtain⟨h1,h2⟩:=An h
  have:=HS h1;subst this
  exact⟨h2,fun σ=>O5 ho ht⟩
 ·exact h.elim
noncomputable def YN(P:Program)(o:Oper)(ds:List D)(s:Sc)(K:Sc->D->Prop):Prop:=
 match o.op,ds with
 |.binOp op t a b _,[.v x,.v .nils]=>AhV P op t b x fun z=>K s (.v z)
 |.binOp op t _ b _,[.rv _ (.slice ad _ _),.v .nils]=>AhU P op t b ad.isNone fun z=>K s (.v z)
 |.binOp op t _ _ _,[.v x,.v y]=>AhW P op t x y fun z=>K s (.v z)
 |.unOp op _ _,[.v x]=>match unI op x with
  |some z=>K s (.v z)
  |none=>False
 |.convert st t _,[.v (.int _ n)]=>match P.underlying st,P.underlying t with
  |some _,some (.int kd)=>K s (.v (.int kd (kd.wrap n)))
  |_,_=>False
 |.extract _ i,[.tup xs]=>match xs[i]? with
  |some d=>K s d
  |none=>False
 |.nilCheck _,[.ptr q f]=>K s (.ptr q f)
 |.nilCheck _,[.v (.ref x)]=>K s (.v (.ref x))
 |.field st _ f,[.v (.agg cs)]=>AhA P st f cs fun y=>K s (.v y)
 |.fieldAddr st _ f,[.ptr q off]=>match OM P st f with
  |some (fo,_+1,_)=>K s (.ptr q (Nat.add off fo))
  |_=>False
 |.fieldAddr st _ f,[.v (.ref (.agg cs))]=>AhA P st f cs fun y=>K s (.v (.ref y))
 |.indexAddr t _ _,[.v (.list xs),.v (.int _ i)]=>match BP P t with
  |some (_,sz,_,_)=>vEl xs i sz s fun s y=>K s (.v (.ref y))
  |none=>False
 |.indexAddr t _ _,[.arr q off len,.v (.int _ i)]=>match BP P t with
  |some (_,sz,_,_)=>0<=i/\i<len/\K s (.ptr q (off+i.toNat*sz))
  |none=>False
 |.indexAddr t _ _,[.ptr q off,.v (.int _ i)]=>match AcM P t with
  |some (len,sz,_)=>0<=i/\i<len/\K s (.ptr q (off+i.toNat*sz))
  |none=>False
 |.indexAddr t _ _,[.v (.ref (.agg cs)),.v (.int _ i)]=>Ah9 P t cs i fun y=>K s (.v (.ref y))
 |.index t _ _,[.v (.str l),.v (.int _ i)]=>match P.underlying t with
  |some .string=>(match s with
   |.h (.y c) s=>0<=i/\l[i.toNat]?=some c/\K s (.v (vb c))
   |s=>∃c:UInt8,0<=i/\l[i.toNat]?=some c/\K s (.v (vb c)))
  |_=>False
 |.index t _ _,[.v (.agg cs),.v (.int _ i)]=>Ah9 P t cs i fun y=>K s (.v y)
 |.load t _,[.v (.ref x)]=>UB P t x (K s (.v x))
 |.build t ps,ds=>Acl P t ps.toList ds s fun s x=>K s (.v x)
 |.buildSlice t len ps,ds=>M8 P t len ps.toList ds fun xs=>K s (.v (.list xs))
 |.makeFunc (.func f) fs _,ds=>match CQ ds with
  |some xs=>cond (Nat.ble fs.size xs.length) (K s (.v (.fn f (xs.take fs.size) (xs.drop fs.size)))) False
  |none=>False
 |.slice t _ lo hi none,ds=>U5 P t lo.isSome hi.isSome ds fun x=>K s (.v x)
 |.call c,.v (.fn f fs cs)::ds=>match c.callee with
  |.value _=>YS P f fs cs ds s K
  |_=>False
 |.call c,ds=>M7 P c ds fun x=>K s (.v x)
 |_,_=>False
theorem UE{P:Program}{st:TypeId}{f:Nat}{cs:List V}{K:V->Prop}(h:AhA P st f cs K):∃y fo n b,K y/\OM P st f=some (fo,n,b)/\n≠0/\(b=false->n=1)/\Gz cs fo n b=some y:=by
 unfold AhA at h
 split at h
 ·rename_i fo hf;obtain⟨y,h1,h2⟩:=JX h;exact⟨y,fo,1,false,h1,hf,by simp,by simp,h2⟩
 ·rename_i fo n hf;obtain⟨y,h1,h2⟩:=JX h;exact⟨y,fo,n+1,true,h1,hf,by simp,by simp,h2⟩
 ·exact h.elim
theorem Afq{xs:List V}{i:Int}{sz:Nat}{s:Sc}{K:Sc->V->Prop}(h:vEl xs i sz s K):∃y s',K s' y/\y.size=sz/\0<=i/\xs[i.toNat]?=some y:=by
 unfold vEl at h
 split at h
 ·obtain⟨h1,h2,h3,h4⟩:=An h
  exact⟨_,_,h4,HS h1,h2,h3⟩
 ·exact⟨_,_,h.2.2.2,h.1,h.2.1,h.2.2.1⟩
 ·exact h.elim
theorem YM{P:Program}{o:Oper}{ds:List D}{s:Sc}{K:Sc->D->Prop}(h:YN P o ds s K):Sq P o ds K:=by
 unfold YN at h
 split at h
 ·rename_i op t a b ty x ho
  obtain⟨z,h1,h2⟩:=AcX h ho
  exact .v h1 h2
 ·rename_i op t a b ty x ad l c ho
  obtain⟨z,h1,h2⟩:=AcW h ho
  exact .v h1 h2
 ·rename_i op t a b ty x y _ ho
  obtain⟨z,h1,h2⟩:=Adb h ho
  exact .v h1 h2
 ·rename_i op t a x ho
  split at h
  ·rename_i z hz;exact .v h fun σ=>Aid ho hz
  ·exact h.elim
 ·rename_i st t a kd n ho
  split at h
  ·rename_i d kd' h1 h2;exact .v h fun σ=>Kz ho h1 h2
  ·exact h.elim
 ·rename_i a i xs ho
  split at h
  ·rename_i d hd;exact⟨_,_,h,fun σ=>J4 ho hd⟩
  ·exact h.elim
 ·rename_i a q f ho;exact⟨_,_,h,fun σ=>Lh ho⟩
 ·rename_i a x ho;exact .v h fun σ=>Lg ho
 ·rename_i st a f cs ho
  obtain⟨y,fo,n,b,h1,h2,h3,h4,h5⟩:=UE h
  exact .v h1 fun σ=>Aaf ho h2 h4 h5
 ·rename_i st a f q off ho
  split at h
  ·rename_i fo n b hf;exact⟨_,_,h,fun σ=>Wn ho hf (by simp)⟩
  ·exact h.elim
 ·rename_i st a f cs ho
  obtain⟨y,fo,n,b,h1,h2,h3,h4,h5⟩:=UE h
  exact .v h1 fun σ=>EJ ho h2 h3 h4 h5
 ·rename_i t a b xs kd i ho
  split at h
  ·rename_i e sz by' z hs
   obtain⟨y,s',h1,h2,h3,h4⟩:=Afq h
   exact .v h1 fun σ=>Ad4 ho hs h3 h4 h2
  ·exact h.elim
 ·rename_i t a b q off len kd i ho
  split at h
  ·rename_i e sz by' z hs;exact⟨_,_,h.2.2,fun σ=>Ad6 ho hs h.1 h.2.1⟩
  ·exact h.elim
 ·rename_i t a b q off kd i ho
  split at h
  ·rename_i len sz bb hs;exact⟨_,_,h.2.2,fun σ=>Aae ho hs h.1 h.2.1⟩
  ·exact h.elim
 ·rename_i t a b cs kd i ho
  obtain⟨y,len,sz,bb,h1,h2,h3,h4,h5,h6⟩:=UD h
  exact .v h1 fun σ=>Aad ho h2 h3 h4 h5 h6
 ·rename_i t a b l kd i ho
  split at h
  ·rename_i hu
   split at h
   ·exact .v h.2.2 fun σ=>Wm ho hu h.1 h.2.1
   ·obtain⟨c,h0,h1,h2⟩:=h
    exact .v h2 fun σ=>Wm ho hu h0 h1
  ·exact h.elim
 ·rename_i t a b cs kd i ho
  obtain⟨y,len,sz,bb,h1,h2,h3,h4,h5,h6⟩:=UD h
  exact .v h1 fun σ=>Ad3 ho h2 h3 h4 h5 h6
 ·rename_i t a x ho
  obtain⟨h1,h2⟩:=UA h ho
  exact .v h1 h2
 ·rename_i t ps ho
  unfold Acl at h
  split at h
  ·split at h
   ·rename_i z places xs hb hx
    split at h
    ·rename_i out hf
     rw[AM] at h
     exact .v h fun σ=>Wu ho hb (Pz hx) hf
    ·exact h.elim
   ·exact h.elim
  ·split at h
   ·rename_i z places xs hb hx
    split at h
    ·rename_i out hf
     rw[AM] at h
     exact .v h fun σ=>MT ho hb (Pz hx) hf
    ·exact h.elim
   ·exact h.elim
 ·rename_i t len ps ho
  obtain⟨y,h1,h2⟩:=P7 h ho
  exact .v h1 h2
 ·rename_i f fs cap ho
  split at h
  ·rename_i xs hx
   obtain⟨h1,h2⟩:=An h
   have hl:fs.size<=xs.length:=by simpa using h1
   refine .v h2 fun σ=>B3 (fun g us hr=>KK hx hr) ?_
   have:=PU (P:=P) (σ:=σ) ho (fs:=(xs.take fs.size).map .v) (cs:=(xs.drop fs.size).map .v) (by simp;omega) (F4 _) (F4 _)
   rw[←IJ,List.take_append_drop] at this
   exact this
  ·exact h.elim
 ·rename_i t a lo hi ho
  obtain⟨y,h1,h2⟩:=U4 h ho
  exact .v h1 h2
 ·rename_i c f fs cs ds ho
  split at h
  ·rename_i fo hc;exact QH h ho hc
  ·exact h.elim
 ·rename_i c ho _
  obtain⟨y,h1,h2⟩:=P6 h ho
  exact .v h1 h2
 ·exact h.elim
end Go.Nv

namespace Go.Dv
open Go.IntKind (wrap i64 u64)
theorem WI.addOwnP{E:Ent}{g:Gh}{σ:St}{w:World}(hw:WI E g σ w){k sz:Nat}{xs:List V}{u:Value}(hk:∀x∈σ.own,x.1≠k)(hsz:0<sz/\∀x∈xs,x.size=sz)(hr:repV g.M (.list xs) u)(hp:Perm g.M w sz u)
  (hb:∀b,BZ u=some b->(E.w.heap.size<=b∨E.priv b)/\(∀i cs,σ.H[i]?=some (some cs)->g.β i≠b)/\∀x∈σ.own,∀u',g.ι x.1 x.2.2.length=some u'->BZ u'≠some b):
  WI E { g with ι:=fun k' m=>if k'=k then(if m=xs.length then some u else none) else g.ι k' m } ⟨σ.H,(k,sz,xs)::σ.own⟩ w/\
  g.le { g with ι:=fun k' m=>if k'=k then(if m=xs.length then some u else none) else g.ι k' m }:=by
 have hle:g.le { g with ι:=fun k' m=>if k'=k then(if m=xs.length then some u else none) else g.ι k' m }:=by
  refine⟨Mem.le_refl _,HB _,fun _ _=>rfl,fun k' m u' h=>?_,fun _ _=>rfl⟩
  by_cases e:k'=k
  ·subst e;rw[hw.rep.fresh k' hk m] at h;simp at h
  ·simp only[HL e];exact h
 have hold:∀x∈σ.own,(if x.1=k then(if x.2.2.length=xs.length then some u else none) else g.ι x.1 x.2.2.length)=g.ι x.1 x.2.2.length:=fun x hx=>HL (hk x hx)
 refine⟨hw.update (fun _=>False) (fun _ h=>h.elim) (fun _ _ _=>⟨rfl,fun _=>rfl⟩) (Mem.le_refl _) (HB _) (fun _ _=>rfl) (fun _ _=>rfl) (HB _) rfl rfl rfl ?_ hw.objs ?_,hle⟩
 ·refine⟨hw.rep.n,hw.rep.mem,fun i cs hi=>?_,hw.rep.inj,fun k' sz' xs' hx=>?_,?_,fun x hx y hy hne u1 u2 h1 h2 b hb1=>?_,fun x hx u1 h1 b hb1 i cs hi=>?_,fun k' hk' m=>?_,hw.rep.gl,hw.rep.gw⟩
  ·obtain⟨us,rest,e,h2,h3,h4,h5⟩:=hw.rep.obj i cs hi
   exact⟨us,rest,e,h2,Ac.mono hle _ _ h3,h4,h5⟩
  ·rcases Ij.1 hx with e|hx
   ·simp only[Prod.mk.injEq] at e
    obtain⟨rfl,rfl,rfl⟩:=e
    refine⟨hsz,u,by simp,hr,hp,fun m hm=>?_⟩
    simp only[IC];exact HL (by omega)
   ·obtain⟨h0,u',hu,h3,h4,h5⟩:=hw.rep.own k' sz' xs' hx
    have hne:¬k'=k:=hk _ hx
    refine⟨h0,u',by simp only[HL hne];exact hu,h3,h4,fun m hm=>by simp only[HL hne];exact h5 m hm⟩
  ·simp only[HU,List.nodup_cons]
   refine⟨fun h=>?_,hw.rep.tags⟩
   obtain⟨x,hx,e⟩:=Il.1 h
   exact hk x hx e
  ·rcases Ij.1 hx with rfl|hx<;>rcases Ij.1 hy with rfl|hy
   ·exact absurd rfl hne
   ·simp at h1;subst h1
    have h2':g.ι y.1 y.2.2.length=some u2:=(hold y hy).symm.trans h2
    exact(hb b hb1).2.2 y hy u2 h2'
   ·simp at h2;subst h2
    have h1':g.ι x.1 x.2.2.length=some u1:=(hold x hx).symm.trans h1
    intro hb2
    exact(hb b hb2).2.2 x hx u1 h1' hb1
   ·exact hw.rep.sep x hx y hy hne u1 u2 ((hold x hx).symm.trans h1) ((hold y hy).symm.trans h2) b hb1
  ·rcases Ij.1 hx with rfl|hx
   ·simp at h1;subst h1
    exact(hb b hb1).2.1 i cs hi
   ·exact hw.rep.ownObj x hx u1 ((hold x hx).symm.trans h1) b hb1 i cs hi
  ·have hne:¬k'=k:=fun e=>hk' (k,sz,xs) (by simp) e.symm
   simp only[HL hne]
   exact hw.rep.fresh k' (fun x hx=>hk' x (by simp[hx])) m
 ·intro x hx u1 h1 b hb1
  rcases Ij.1 hx with rfl|hx
  ·simp at h1;subst h1
   exact(hb b hb1).1
  ·exact hw.owns x hx u1 ((hold x hx).symm.trans h1) b hb1
end Go.Dv
namespace Go.Nv
open Go.Dv
open Go.IntKind (wrap i64 u64)
section
variable {P : Program} {o : Oper} {σ : St}
theorem Ta{x y:Operand}{t tn:TypeId}(ho:o.op=.call { callee:=.builtin .append,args:= #[x,y],argTypes:= #[t,tn]}){e:TypeId}{sz by':Nat}{z:Value}(hs:BP P t=some (e,sz,by',some z))(hzc:z.cells.size=sz)(h0:0<sz){kn:IntKind}(htn:P.underlying tn=some (.int kn))
  {kd:IntKind} {n:Int} (hn:0<n) (hlen:n.toNat*by'<=140737488355328) (hlen2:n.toNat<=140737488355328):
  Ah P o [.v .nils,.v (.int kd n)] σ (.gro σ.H.length n.toNat sz) ⟨σ.H++[some []],σ.own⟩:=by
 intro E g a w K Q hw hds hK
 simp only[ho,Op.operands,Call.operands] at hds
 obtain⟨u,v,eq,hu,hv⟩:=Ao.1 (by simpa using hds)
 simp only[HH,Ih] at eq
 simp only[Ae,Cq,A5] at hu hv
 subst hu hv
 obtain⟨m,rfl⟩:∃m:Nat,n=m:=⟨n.toNat,by omega⟩
 simp only[IB] at hlen hlen2 hK⊢
 obtain⟨i,ht,hi,hisz,hib,hiz⟩:=AA hs
 have hrun:=Lib.run_append_nil_zeros (P:=P) w t tn o.type e i z kd kn ht htn hi hiz m (by omega) (by omega) (by omega) (by rw[hib];omega)
 have hge:=grownCap_ge w m 0 e
 generalize hcs:Builtin.zeroCells z.cells m++Builtin.zeroCells z.cells (grownCap w m 0 e-m)=cs at hrun
 have hsize:cs.size=grownCap w m 0 e*sz:=by
  rw[←hcs]
  simp only[Array.size_append,size_zeroCells,hzc, ←IE]
  congr 1;omega
 obtain⟨g',h3,h4,h5',h6',h7⟩:=hw.drew.newObjR (us:=[]) (rest:=cs.toList) (cs:=[]) e (by simp[Ac]) (by simp)
 have hd:Ae g' (.gro σ.H.length m sz) (.slice (some ⟨w.heap.size,0,none⟩) m (grownCap w m 0 e)):=by
  simp only[Ae]
  refine⟨by omega,_,hge,?_,by rw[h5'];rfl⟩
  rw[h6'];simp[hsize]
 have hcell:(([]:List Value)++cs.toList).toArray=cs:=by simp
 rw[hcell] at h3
 have:=hK g' _ _ h3 h4 hd
 unfold Oper.wp execOp
 simp only[ho,resolve,invoke,builtin,Sem.run_bind,Sem.run_pure,Result.andThen_ok,List.map_toArray,HU,I1,eq.1,eq.2,hrun]
 exact this
theorem SX{t:TypeId}{x hx:Operand}(ho:o.op=.slice t x none (some hx) none){e:TypeId}{sz by':Nat}{z:Option Value}(hs:BP P t=some (e,sz,by',z))(h0:0<sz){q len:Nat}{cs:List D}(hq:σ.H[q]?=some (some cs)){kd:IntKind}(k:Nat)(hk:∀x∈σ.own,x.1≠k):
  Ah P o [.gro q len sz,.v (.int kd 0)] σ (.acc k []) ⟨σ.H.set q none,(k,sz,[])::σ.own⟩:=by
 intro E g a w K Q hw hds hK
 simp only[ho,Op.operands] at hds
 obtain⟨u,v,eq,h1,h2⟩:=Ao.1 (by simpa using hds)
 simp only[HH,Ih] at eq
 simp only[Ae,A5] at h1 h2
 subst h2
 obtain⟨hqn,cap,hcap,hκ,rfl⟩:=h1
 obtain⟨i,hu,hi',hsz,_,_⟩:=AA hs
 obtain⟨us,rest,et,hb,hr,hone,hM,hkk⟩:=hw.rep.obj q cs hq
 have hrep:repV g.M (.list []) (.slice (some ⟨g.β q,0,none⟩) 0 cap):=by rw[AU];exact⟨_,cap,rfl,Ic _,.inl rfl⟩
 obtain⟨hw2,hle⟩:=(hw.kill hq).addOwnP (k:=k) (sz:=sz) (xs:=[]) (u:=.slice (some ⟨g.β q,0,none⟩) 0 cap) hk ⟨h0,by simp⟩ hrep
  (.inr ⟨g.β q,0,0,cap,_,et,rfl,hb,Ic _,by rw[Io];simp only[II];rw[hkk, ←hκ];exact HB _,fun o _=>hM o,hw.rep.obj_ng hq⟩) (fun b hb'=>by
   simp only[BZ] at hb'
   split at hb'
   ·simp at hb'
   ·simp at hb';subst hb'
    refine⟨hw.objs q cs hq,fun i c hi=>?_,fun x hx u' hu' hb2=>hw.rep.ownObj x hx u' hu' _ hb2 q cs hq rfl⟩
    obtain⟨hne,hi2⟩:=FW hi
    exact fun e=>hne (hw.rep.inj i q _ _ hi2 hq e))
 have:=hK _ _ (.slice (some ⟨g.β q,0,none⟩) 0 cap) hw2 hle (by simp only[Ae];exact⟨hrep,by simp⟩)
 have hbr:=DI (P:=P) w true len cap hcap none (some (kd,0)) (l':=0) (h':=0) (by simp[BD])
 unfold Oper.wp execOp
 simp only[ho,eq.1,eq.2,IZ,I4,Instr.sliceAt,Instr.slice,Sem.run_bind,run_underlying hu,Result.andThen_ok]
 simp only[IZ,I4] at hbr
 rw[hbr]
 simp only[Result.andThen_ok,sizeOf,typeInfo,hi',Sem.run_pure,Sem.run_bind]
 by_cases hc0:cap=0
 ·subst hc0;simpa[Addr.add_lit,Oper.upon,hi'] using this
 ·simpa[hc0,Addr.add_lit,Oper.upon,hi',show ¬0=cap by omega] using this
theorem SZ{x:Operand}{t:TypeId}(ho:o.op=.call { callee:=.builtin .cap,args:= #[x],argTypes:= #[t]}){e:TypeId}(ht:P.underlying t=some (.slice e)):Ah P o [.v .nils] σ (.v (.int .i64 0)) σ:=by
 refine Az fun E g ρ w hw hds=>?_
 simp only[ho,Op.operands,Call.operands,A2] at hds
 obtain⟨u,e,h1⟩:=hds
 simp at e
 simp only[Ae,Cq] at h1
 subst h1
 exact⟨_,by simp[execOp,ho,e,resolve,invoke,builtin,Builtin.cap_,run_underlying ht,goInt];rfl,by simp[Ae]⟩
theorem O3{t:TypeId}{x hx:Operand}(ho:o.op=.slice t x none (some hx) none){e:TypeId}(hu:P.underlying t=some (.slice e)){inf:TypeInfo}(hi:P.info? e=some inf){kd:IntKind}:Ah P o [.v .nils,.v (.int kd 0)] σ (.v .nils) σ:=by
 refine Az fun E g ρ w hw hds=>?_
 simp only[ho,Op.operands] at hds
 obtain⟨u,v,eq,h1,h2⟩:=Ao.1 (by simpa using hds)
 simp only[HH,Ih] at eq
 simp only[Ae,A5,Cq] at h1 h2
 subst h1 h2
 have hbr:=DI (P:=P) w true 0 0 (HB _) none (some (kd,0)) (l':=0) (h':=0) (by simp[BD])
 simp only[IZ,I4] at hbr
 refine⟨.slice none 0 0,?_,by simp[Ae]⟩
 simp only[execOp,ho,eq.1,eq.2,IZ,I4,Instr.sliceAt,Instr.slice,Sem.run_bind,run_underlying hu,Result.andThen_ok]
 rw[hbr]
 simp[sizeOf,typeInfo,hi]
end
def Acf:List (Nat×Operand)->List D->Option (List (Nat×D))
 |[],[]=>some []
 |p::ps,d::ds=>match Acf ps ds with
  |some xs=>some ((p.1,d)::xs)
  |none=>none
 |_,_=>none
def Ts(places:List (Nat×Nat)):List D->List (Nat×D)->Option (List D)
 |cells,[]=>some cells
 |cells,p::xs=>match places[p.1]? with
  |some (off,size)=>cond (p.2.sto&&Nat.beq (BQ p.2).length size&&Nat.ble (off+size) cells.length) (Ts places (cells.take off++BQ p.2++cells.drop (off+size)) xs) none
  |none=>none
theorem repDs_length'{g:Gh}:∀{ds:List D} {us:List Value},Ac g ds us->us.length=ds.length
 |[],us,h=>by simp only[Ac] at h;simp[h]
 |d::ds,us,h=>by
  simp only[Ac] at h
  obtain⟨u,us',rfl,_,h⟩:=h
  simp[repDs_length' h]
theorem KV{g:Gh}:∀{ds es:List D} {us vs:List Value},Ac g ds us->Ac g es vs->Ac g (ds++es) (us++vs)
 |[],es,us,vs,h,h2=>by simp only[Ac] at h;subst h;exact h2
 |d::ds,es,us,vs,h,h2=>by
  simp only[Ac] at h
  obtain⟨u,us',rfl,h1,h⟩:=h
  simp only[Jk,Ac]
  exact⟨u,us'++vs,rfl,h1,KV h h2⟩
theorem QX{g:Gh}:∀{ds:List D} {us:List Value} (n:Nat),Ac g ds us->Ac g (ds.take n) (us.take n)
 |ds,us,0,_=>by simp[Ac]
 |[],us,n+1,h=>by simp only[Ac] at h;subst h;simp[Ac]
 |d::ds,us,n+1,h=>by
  simp only[Ac] at h
  obtain⟨u,us',rfl,h1,h⟩:=h
  simp only[List.take_succ_cons,Ac]
  exact⟨u,us'.take n,rfl,h1,QX n h⟩
theorem QY{g:Gh}:∀{ds:List D} {us:List Value} (n:Nat),Ac g ds us->Ac g (ds.drop n) (us.drop n)
 |ds,us,0,h=>by simpa using h
 |[],us,n+1,h=>by simp only[Ac] at h;subst h;simp[Ac]
 |d::ds,us,n+1,h=>by
  simp only[Ac] at h
  obtain⟨u,us',rfl,h1,h⟩:=h
  simp only[List.drop_succ_cons]
  exact QY n h
theorem OQ{g:Gh}{a:Act}{places:List (Nat×Nat)}:∀{ps:List (Nat×Operand)} {ds:List D} {xs:List (Nat×D)} {cells out:List D} {cu:Array Value},Acf ps ds=some xs->Ac g ds (ps.map fun p=>a.eval p.2)->Ac g cells cu.toList->Ts places cells xs=some out->
  ∃U,Instr.fill (places[·]?) cu (ps.map fun p=>(p.1,a.eval p.2))=some U/\Ac g out U.toList
 |[],[],xs,cells,out,cu,hx,_,hc,hf=>by
  simp[Acf] at hx;subst hx
  simp[Ts] at hf;subst hf
  exact⟨cu,rfl,hc⟩
 |[],_::_,xs,cells,out,cu,hx,_,hc,hf=>by simp[Acf] at hx
 |_::_,[],xs,cells,out,cu,hx,_,hc,hf=>by simp[Acf] at hx
 |p::ps,d::ds,xs,cells,out,cu,hx,hds,hc,hf=>by
  simp only[Acf] at hx
  split at hx
  ·rename_i ys hys
   simp at hx;subst hx
   simp only[HU,Ac] at hds
   obtain⟨u,us',e,h1,h2⟩:=hds
   simp at e
   obtain⟨rfl,rfl⟩:=e
   simp only[Ts] at hf
   split at hf
   ·rename_i off size hp
    cases hcd:(d.sto&&Nat.beq (BQ d).length size&&Nat.ble (off+size) cells.length) with
    |false=>rw[hcd] at hf;simp at hf
    |true=>
     rw[hcd] at hf
     simp only[cond_true] at hf
     simp only[H5] at hcd
     obtain⟨⟨c1,c2⟩,c3⟩:=hcd
     have c2:=HS c2
     have c3:=HX c3
     obtain⟨r1,r2,r3⟩:=cells_rep c1 h1
     have hl:cu.size=cells.length:=by rw[←Ig];exact repDs_length' hc
     have hs:(a.eval p.2).cells.size=size:=by rw[←Ig,repDs_length' r1,c2]
     have hsp:=Vn off (a.eval p.2).cells.toList cu (by simp only[Ig];omega)
     simp only[Ig,hs] at hsp
     have hc':Ac g (cells.take off++BQ d++cells.drop (off+size)) (((a.eval p.2).cells.toList.zipIdx 0).foldl (fun cs (x:Value×Nat)=>cs.setIfInBounds (off+x.2) x.1) cu).toList:=by
      rw[hsp]
      exact KV (KV (QX off hc) r1) (QY (off+size) hc)
     obtain⟨U,hU,hrU⟩:=OQ hys h2 hc' hf
     refine⟨U,?_,hrU⟩
     simp only[HU]
     unfold Instr.fill
     simp only[hp,hs]
     rw[HL (by simp;omega), ←hU]
     congr 1
     rw[←Array.foldl_toList,Array.toList_zipIdx]
   ·simp at hf
  ·simp at hx
section
variable {P : Program} {o : Oper} {σ : St}
def Nr(P:Program)(t:TypeId):Bool:=match P.underlying t with
 |some (.struct _)=>true
 |_=>false
theorem Wv{t:TypeId}{parts:Array (Nat×Operand)}(ho:o.op=.build t parts){z:List V}{places:List (Nat×Nat)}(hst:Nr P t=true)(hb:TS P t=some (z,places)){ds:List D}{xs:List (Nat×D)}{out:List D}
  (hx:Acf parts.toList ds=some xs) (hf:Ts places (z.map .v) xs=some out):Ah P o ds σ (.dagg out) σ:=by
 intro E g a w K Q hw hds hK
 simp only[ho,Op.operands] at hds
 unfold TS at hb
 unfold Nr at hst
 have key:∃U,P.built t (parts.toList.map fun p=>(p.1,a.eval p.2))=some U/\Ac g out U.toList:=by
  cases hz:zeroV P t with
  |none=>simp[hz] at hb
  |some z0=>
   obtain⟨i,zv,hi,hz1,hcv⟩:=KB hz
   cases hu:P.underlying t with
   |none=>simp[hz,hu] at hb
   |some dd=>
    cases dd<;>simp only[hz,hu,reduceCtorEq] at hb hst
    case struct fs=>
     cases hp:fs.toList.mapM (fun f=>(P.info? f.type).map fun i=>(f.offset,i.size)) with
     |none=>simp[hp] at hb
     |some pl=>
      simp[hp] at hb
      obtain⟨rfl,rfl⟩:=hb
      obtain⟨U,hU,hrU⟩:=OQ (a:=a) hx (by simpa[Function.comp_def] using hds) (CZ (Fp (M:=g.M) hcv)).1 hf
      exact⟨U,by simpa[Program.built,hi,hu,hz1,hp] using hU,hrU⟩
 obtain⟨U,hU,hrU⟩:=key
 have:=hK g w (.agg U) hw g.le_refl (by simp only[Ae];exact⟨U.toList,by simp,hrU⟩)
 have hrun:=run_build (P:=P) w t (parts.map fun p=>(p.1,a.eval p.2)) U (by simpa using hU)
 unfold Oper.wp execOp
 simp only[ho]
 simp only[Sem.run_bind]
 rw[show(parts.map fun(x:Nat×Operand)=>match x with|(i,x)=>(i,a.eval x))=parts.map fun p=>(p.1,a.eval p.2) from rfl,hrun]
 exact this
end
end Go.Nv

namespace Go.Dv
open List (replicate)
open Go.IntKind (wrap i64 u64)
section
variable {P : Program} {o : Oper} {σ : St}
theorem Wj{t:TypeId}{a:Operand}(ho:o.op=.load t a){n:Nat}(ht:Q6 P t n){q off:Nat}{cs:List D}(hH:σ.H[q]?=some (some cs))(hn:off+n<=cs.length){ds:List D}(hd:(cs.drop off).take n=ds):Ah P o [.ptr q off] σ (.dagg ds) σ:=by
 subst hd
 refine Az fun E g ρ w hw hds=>?_
 simp only[ho,Op.operands,A2] at hds
 obtain⟨u,e,h1⟩:=hds
 simp at e
 simp only[Ae] at h1
 obtain⟨_,rfl⟩:=h1
 obtain⟨us,rest,et,hb,hr,h1,_⟩:=hw.rep.obj q cs hH
 have hra:=B8 (BY hr off) n
 have hl:us.length=cs.length:=A4 hr
 have hld:=run_loadCells_list (P:=P) w ⟨g.β q,off,none⟩ ((us.drop off).take n) (fun j v hj=>by
  rw[IQ] at hj
  split at hj
  ·rw[List.getElem?_drop] at hj
   rw[Addr.add_lit]
   simp only[World.cell?,hb,I7];exact Ea hj
  ·simp at hj)
 have hlen:((us.drop off).take n).length=n:=by simp;omega
 rw[hlen] at hld
 refine⟨.agg ((us.drop off).take n).toArray,?_,by simp only[Ae];exact⟨_,rfl,hra⟩⟩
 simp only[execOp,ho,e,Instr.loadAt,Instr.sureAddr,loadVar,Sem.run_bind,Sem.run_pure,Result.andThen_ok,C1 ht,run_sizeOf' ht,hld,IC]
end
theorem Lt{α:Type}(l:List α):∀(n i:Nat),i<n*l.length->(replicate n l).flatten[i]?=l[i%l.length]?
 |0,i,h=>by simp at h
 |n+1,i,h=>by
  rw[Ix,IR]
  by_cases hi:i<l.length
  ·rw[HQ hi,Nat.mod_eq_of_lt hi]
  ·rw[HN (by omega),Lt l n (i-l.length) (by rw[IE] at h;omega),Nat.mod_eq_sub_mod (a:=i) (by omega)]
theorem Fm{α:Type}(l:List α):∀n:Nat,(replicate n l).flatten.length=n*l.length
 |0=>by simp
 |n+1=>by rw[Ix,IR,HI,Fm l n,IE];omega
theorem JS(z:Array Value)(n:Nat):madeCells z (n*z.size)=(replicate n z.toList).flatten.toArray:=by
 apply Array.ext_getElem?
 intro i
 by_cases hi:i<n*z.size
 ·have hz:0<z.size:=by
   rcases Nat.eq_zero_or_pos z.size with h|h
   ·rw[h] at hi;simp at hi
   ·exact h
  have hm:=Nat.mod_lt i hz
  have h1:=Lt z.toList n i (by rw[Ig];exact hi)
  have h2:(replicate n z.toList).flatten.toArray[i]?=(replicate n z.toList).flatten[i]?:=by simp
  rw[h2,h1,Ig,IX,Array.getElem?_eq_getElem hm]
  simp[madeCells,hi,hm]
 ·rw[Array.getElem?_eq_none (by rw[size_madeCells];omega),Array.getElem?_eq_none (by simp only[II,Fm,Ig];omega)]
section
variable {P : Program} {o : Oper} {σ : St} {d : D}
theorem Aaa{t:TypeId}{x y:Operand}(ho:o.op=.makeSlice t x y){e:TypeId}{sz by':Nat}{z:Value}(hs:BP P t=some (e,sz,by',some z)){zs:List V}(hz:EA z.cells.toList=some zs)(hzc:z.cells.size=sz){k1 k2:IntKind}{n:Int}(h0:0<=n)(hn:(by':Int)*n<=281474976710656)(hn2:n<=9223372036854775807):
  Ah P o [.v (.int k1 0),.v (.int k2 n)] σ (.gro σ.H.length 0 sz) ⟨σ.H++[some ((replicate n.toNat zs).flatten.map .v)],σ.own⟩:=by
 intro E g a w K Q hw hds hK
 simp only[ho,Op.operands,Ao] at hds
 obtain⟨u,v,eq,h1',h2⟩:=hds
 simp only[HU,I1,HH,Ih] at eq
 obtain⟨e1,e2⟩:=eq
 simp only[Ae,A5] at h1' h2
 subst h1' h2
 obtain⟨i,hu,hi,hsz,hby,hzz⟩:=AA hs
 have hrun:=run_make (P:=P) w t e i z hu hi hzz k1 k2 0 n (HV _) h0 (by rw[hby];exact hn) hn2
 rw[hsz, ←hzc,JS] at hrun
 obtain⟨hr1,ho1⟩:=CZ (g:=g) (Em (M:=g.M) hz)
 have hr:∀m,Ac g ((replicate m zs).flatten.map .v) (replicate m z.cells.toList).flatten/\∀c∈ (replicate m zs).flatten.map D.v,c.one=true:=by
  intro m
  induction m with
  |zero=>simp[Ac]
  |succ m ih=>
   simp only[Ix,IR,IJ]
   refine⟨Ap hr1 ih.1,fun c hc=>?_⟩
   rcases Iq.1 hc with h|h
   ·exact ho1 c h
   ·exact ih.2 c h
 obtain⟨g',hw',hle,hβ,hκ,hn'⟩:=hw.newObjR (us:=(replicate n.toNat z.cells.toList).flatten) (rest:=[]) e (hr n.toNat).1 (hr n.toNat).2
 rw[Is] at hw' hκ
 have:=hK g' _ (.slice (some ⟨w.heap.size,0,none⟩) 0 n.toNat) hw' hle (by
  simp only[Ae]
  exact⟨by omega,n.toNat,Ic _,by rw[hκ,Fm,Ig,hzc],by rw[hβ]⟩)
 unfold Oper.wp execOp
 simp only[ho,e1,e2,Sem.run_bind,hrun,Result.andThen_ok]
 exact this
theorem PV{x y:Operand}{t:TypeId}(ho:o.op=.call { callee:=.builtin .append,args:= #[x,y],argTypes:= #[t,t]}){e:TypeId}{sz by':Nat}{z:Option Value}(hs:BP P t=some (e,sz,by',z))(hsz:0<sz)
  {q len:Nat} {cs:List D} {ys:List V} (hq:σ.H[q]?=some (some cs)) (hroom:(len+ys.length)*sz<=cs.length) (hys:∀y∈ys,y.size=sz) (hpos:ys≠ []):
  Ah P o [.gro q len sz,.v (.list ys)] σ (.gro q (len+ys.length) sz) ⟨σ.H.set q (some (cs.take (len*sz)++Ab ys++cs.drop (len*sz+(Ab ys).length))),σ.own⟩:=by
 intro E g a w K Q hw hds hK
 simp only[ho,Op.operands,Call.operands] at hds
 obtain⟨u,v,eq,hu,hv⟩:=Ao.1 (by simpa using hds)
 simp only[HH,Ih] at eq
 simp only[Ae] at hu hv
 obtain⟨hqn,cap,hcap,hκ,rfl⟩:=hu
 obtain⟨ad,cap2,rfl,hc2,hor⟩:=B4 hv hys hsz
 rcases hor with h|⟨b,off,vs,rfl,hin,hE⟩
 ·exact absurd h hpos
 obtain⟨h5,h6⟩:=DL hE
 obtain⟨i,ht,hi,hisz,hib,hiz⟩:=AA hs
 obtain⟨us,rest,et,hb,hr,h1,hM,hκ1⟩:=hw.rep.obj q cs hq
 have hul:us.length=cs.length:=A4 hr
 have hvl0:vs.length=ys.length*sz:=BE hE
 have hvl:vs.length=ys.length*i.size:=by rw[hvl0,hisz]
 have hfl:(Ab ys).length=vs.length:=(A4 h5).symm
 rw[IE] at hroom
 have hroom':len+ys.length<=cap:=by
  have:(len+ys.length)*sz<=cap*sz:=by rw[hκ, ←hκ1,HI,IE];omega
  exact Nat.le_of_mul_le_mul_right this hsz
 have hone:∀u∈vs,u.oneCell'=true:=Cs h6 h5
 have hfit:len*i.size+vs.length<=(us++rest).toArray.size:=by
  rw[II,HI,hisz];omega
 have hrun:=run_append_room' (P:=P) w t o.type e et i ht hi (g.β q) len cap (us++rest).toArray hb ⟨b,off,none⟩ ys.length cap2 vs hvl (Dj hw hin) hone hroom' hfit
 have hrow:(us++rest).toArray.toList.take (len*i.size)++vs++(us++rest).toArray.toList.drop (len*i.size+vs.length)=(us.take (len*sz)++vs++us.drop (len*sz+vs.length))++rest:=by
  simp only[hisz]
  rw[IV (by omega),List.drop_append_of_le_length (by omega)]
  simp
 rw[hrow] at hrun
 have hw1:=hw.setObj (cs':=cs.take (len*sz)++Ab ys++cs.drop (len*sz+(Ab ys).length)) (w':=w.setRow (g.β q) ((us.take (len*sz)++vs++us.drop (len*sz+vs.length))++rest).toArray) hq (us:=us.take (len*sz)++vs++us.drop (len*sz+vs.length)) (rest:=rest) (e:=et) (setRow_heap w _ _ _ et _ hb)
  (by rw[←hκ1];simp only[HI,HY,I9];omega)
  (Ap (Ap (B8 hr _) h5) (by rw[hfl];exact BY hr _))
  (fun c hc=>by
   rcases Iq.1 hc with h|h
   ·rcases Iq.1 h with h|h
    ·exact h1 c (IK h)
    ·exact h6 c h
   ·exact h1 c (Iu h)) (fun b hb=>setRow_other w _ _ _ hb) (by simp) rfl rfl rfl
 have:=hK g _ (.slice (some ⟨g.β q,0,none⟩) (len+ys.length) cap) hw1 (Gh.le_refl g) (by simp only[Ae];exact⟨hqn,cap,hroom',hκ,rfl⟩)
 unfold Oper.wp execOp
 simp only[ho,resolve,invoke,builtin,Sem.run_bind,Sem.run_pure,Result.andThen_ok,List.map_toArray,HU,I1,eq.1,eq.2,hrun]
 exact this
end
end Go.Dv
