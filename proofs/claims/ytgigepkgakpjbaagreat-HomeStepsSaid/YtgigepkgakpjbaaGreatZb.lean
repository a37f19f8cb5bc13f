/-
  A part of the proof.
-/
import Derived.Test.YtgigepkgakpjbaaGreatZa
open Go.Proofs.Tryz renaming f66->Ad7,f133->Aib,f123->Aic,f153->Aif,f101->Aig,f82->AjF,f85->AjG,f213->AjK,f119->AjR,f98->AlF,f211->AlH,f138->AlI,f77->AlL,f97->AoK,f146->AoL,f87->AoM,f76->AoO,f7->AoS,f190->AoT,f209->AoU,f105->AoV,f205->AoW,f281->AoX,f176->AoY,f84->Apa,f100->Apj,f243->Aps,f188->Apv,f122->Apw,f36->Aq1,f147->Ar0,f208->Ar1,f199->Ar2,f144->Ar4,f252->Ar5,f255->Ar6,f279->Ar7,f90->Ar8,f197->ArM,f112->ArN,f174->ArO,f198->ArP,f96->ArQ,f141->ArR,f135->Arm,f305->Arr,f196->Art,f278->Arw,f256->Arz,f5->As2,f193->As4,f207->As6,f70->As7,f103->As9,f280->AsV,f297->AsW,f229->AsX,f140->AsY,f194->Atc,f251->Atd,f245->Ate,f139->Atf,f121->Em,f80->FF,f41->G0,f148->Ha,f78->Hb,f40->He,f31->Hy,f79->Me,f113->NQ,f126->NV,f177->O2,f120->S6,f230->S7,f102->S8,f115->SB,f175->SG,f128->SH,f67->SI,f81->Vc,f136->fKw,f99->lm,f210->mm,f134->pn,f249->q8,f83->qd,f253->sa,f137->sc,f132->th,f173->ti,f195->u5,f74->uc,f299->ud,f129->ue,f246->uh,f206->ui,f250->uj,f244->v6,f86->v8,f114->wz
open Go.Dv
open Go.IntKind (u64)
open Go.IntKind renaming wrap->yu,i64->yt
open List renaming length->I,map->U,drop->W
open Option renaming some->G
open Bool renaming true->J,false->O
open Decidable renaming decide->Y
open Int renaming toNat->Z
open Go.Dv.V renaming list->ae,str->ab,agg->aa,int->a8,ref->bz,fn->bw,nils->bv,bool->bu
open Go.Dv.D renaming v->bt,acc->br,ptr->bq,arr->bo,gro->bm,tup->bl,undef->bk,dagg->bj
open Go.Dv.St renaming mk->bi
open Go.Dv.KI renaming blk->bh
open _root_.ByteArray renaming mk->bf
open Go renaming Operand->x8,Program->x7,TypeId->x6,World->x5,Value->yz,Oper->yy,FuncId->yx,Func->yw,IntKind->yv
set_option maxRecDepth 20000
namespace Go.Nv
open List (replicate)
inductive Kd where
 |pure
 |load (q off n:Nat)
 |eff
noncomputable def Cl(τ:St)(q off n:Nat):Option (List D):=match τ.H[q]? with
 |some (some cs)=>cond (Nat.ble (off+n) (I cs)) (G ((cs.drop off).take n)) none
 |_=>none
theorem FV{τ:St}{q off n:Nat}{l:List D}(h:Cl τ q off n=G l):∃cs,τ.H[q]?=G (G cs)/\off+n<=I cs/\(cs.drop off).take n=l:=by
 unfold Cl at h
 split at h
 ·rename_i cs hcs
  cases hb:Nat.ble (off+n) (I cs)<;>simp_all
 grind
theorem Kp{τ:St}{q off n:Nat}{cs:List D}(h:τ.H[q]?=G (G cs))(hl:off+n<=I cs):Cl τ q off n=G ((cs.drop off).take n):=by
 grind[Cl,Nat.ble_eq_true_of_le]
def r8(P:x7)(o:yy)(ds:List D)(σ:St)(d:D)(σ':St):Kd->Prop
 |.pure=>σ'=σ/\∀τ,Ak P o ds τ d τ
 |.load q off n=>σ'=σ/\(Cl σ q off n).isSome=J/\∀τ,Cl τ q off n=Cl σ q off n->Ak P o ds τ d τ
 |.eff=>Ak P o ds σ d σ'
theorem r8.op{P:x7}{o:yy}{ds:List D}{σ σ':St}{d:D}{kd:Kd}(h:r8 P o ds σ d σ' kd):Ak P o ds σ d σ':=by
 cases kd with
 |pure=>obtain⟨rfl,h⟩:=h;grind
 |load q off n=>obtain⟨rfl,_,h⟩:=h;grind
 |eff=>exact h
abbrev KO:=Sc->D->St->Kd->Prop
def j6(P:x7)(o:yy)(ds:List D)(σ:St)(K:KO):Prop:=∃s d σ' kd,K s d σ' kd/\r8 P o ds σ d σ' kd
def Asz(l:List Nat)(t:Nat):Bool:=l.any (Nat.beq t)
noncomputable def EX(own:List (Nat×Nat×List V))(k:Nat):Bool:=own.all fun x=> !Nat.beq x.1 k
theorem CU{own:List (Nat×Nat×List V)}{k:Nat}(h:EX own k=J):∀x∈own,x.1≠k:=fun x hx e=>by
 have:=IU.1 h x hx
 simp_all
noncomputable def vv{β:Type}(own:List (Nat×Nat×List V))(k sz:Nat)(zs:List V)(K:List (Nat×Nat×List V)->β):β:=
 List.rec (motive:=fun _=>(List (Nat×Nat×List V)->β)->β) (fun K=>K []) (fun x _ ih K=>ih fun r=>Bool.rec (K (x::r)) (K ((k,sz,zs)::r)) (Nat.beq x.1 k)) own K
theorem U9{β:Type}(k sz:Nat)(zs:List V):∀(own:List (Nat×Nat×List V)) (K:List (Nat×Nat×List V)->β),vv own k sz zs K=K (own.map (FD k sz zs))
 |[],_=>rfl
 |x::own,K=>by
  have h:vv (x::own) k sz zs K=vv own k sz zs fun r=>Bool.rec (K (x::r)) (K ((k,sz,zs)::r)) (Nat.beq x.1 k):=rfl
  rw[h,U9 k sz zs own]
  simp only[I9,FD]
  by_cases e:x.1=k
  ·rw[I4 e,e,Nat.beq_refl]
  ·rw[Iz e,show Nat.beq x.1 k=O from by cases h:Nat.beq x.1 k with|false=>rfl|true=>exact absurd (I7 h) e]
noncomputable def Sa(own:List (Nat×Nat×List V))(k:Nat):Option (Nat×List V):=
 List.rec none (fun x _ ih=>Bool.rec ih (G x.2) (Nat.beq x.1 k)) own
theorem ON{k:Nat}{p:Nat×List V}:∀{own:List (Nat×Nat×List V)},Sa own k=G p->(k,p.1,p.2)∈own
 |[],h=>by have:Sa [] k=none:=rfl;rw[this] at h;simp at h
 |x::l,h=>by
  have e:Sa (x::l) k=Bool.rec (Sa l k) (G x.2) (Nat.beq x.1 k):=rfl
  rw[e] at h
  cases hb:Nat.beq x.1 k with
  |false=>rw[hb] at h;exact List.mem_cons_of_mem _ (ON h)
  |true=>
   rw[hb] at h
   have:=I7 hb;subst this
   simp at h;subst h;simp
abbrev Ao(n by':Nat):Prop:=n*by'<=140737488355328/\n<=140737488355328
section
variable {P : x7} {o : yy} {σ : St}
theorem KS{x y:x8}{t:x6}(ho:o.op=.call { callee:=.builtin .append,args:= #[x,y],argTypes:= #[t,t]}){e:x6}{sz by':Nat}{z:yz}(hs:BW P t=G (e,sz,by',G z))(hzc:z.cells.size=sz)
  (k:Nat) (hk:∀x∈σ.own,x.1≠k) (h0:0<sz) {ys:List V} (hsy:∀y∈ys,y.size=sz) (hlen:I ys*by'<=140737488355328) (hlen2:I ys<=140737488355328):
  Ak P o [.v .nils,.v (.list ys)] σ (.acc k ys) ⟨σ.H,(k,sz,ys)::σ.own⟩:=by
 intro E g a w K Q hw hds hK
 simp only[ho,Op.operands,Call.operands] at hds
 obtain⟨u,v,eq,h1,h2⟩:=Ax.1 (by simpa using hds)
 simp only[HX,IL] at eq
 simp only[Ah,Dm] at h1 h2
 subst h1
 obtain⟨hw1,hle1⟩:=hw.addOwn (k:=k) (sz:=sz) (xs:=[]) (u:=.slice none 0 0) hk ⟨h0,by simp⟩ (E2 _) (.inl ⟨none,rfl⟩) (fun b hb=>by grind[Co])
 obtain⟨u',w',g',hrun,hw',hle,hr⟩:=Ot (P:=P) (ty:=o.type) hw1 hs hzc (k:=k) (xs:=[]) (by simp) hsy (by grind) (by grind) (u:=.slice none 0 0) (by simp) (h2.mono hle1.M)
 have CT:σ.own.map (FD k sz ys)=σ.own:=by
  conv=>rhs;rw[←List.map_id σ.own]
  grind[List.map_congr_left,FD]
 simp only[List.nil_append,I9,CT] at hw' hr
 have e1:FD k sz ys (k,sz,[])=(k,sz,ys):=by simp[FD]
 rw[e1] at hw'
 have:=hK g' w' u' hw' (Gh.le_trans hle1 hle) hr
 unfold Oper.wp execOp
 simp_all[resolve,invoke,builtin,Oper.upon]
theorem N2{t:x6}{parts:Array (Nat×x8)}(ho:o.op=.buildSlice t 0 parts)(hp:parts= #[]){e:x6}{sz by':Nat}{z:Option yz}(hs:BW P t=G (e,sz,by',z))(hsz:0<sz)(k:Nat)(hk:∀x∈σ.own,x.1≠k):
  Ak P o [] σ (.acc k []) ⟨σ.H,(k,sz,[])::σ.own⟩:=by
 intro E g a w K Q hw hds hK
 obtain⟨i,hu,hi,rfl,rfl,rfl⟩:=AF hs
 subst hp
 have hw1:=hw.alloc (.cells #[] e (0,0))
 obtain⟨hw2,hle2⟩:=hw1.addOwn (k:=k) (sz:=i.size) (xs:=[]) (u:=.slice (G ⟨w.heap.size,0,none⟩) 0 0) hk ⟨hsz,by simp⟩ (by grind[B6]) (.inl ⟨_,rfl⟩) (fun b hb=>by grind[Co])
 have:=hK _ _ (.slice (G ⟨w.heap.size,0,none⟩) 0 0) hw2 hle2 (by grind[Ah,B6])
 unfold Oper.wp execOp
 simpa[ho,Instr.buildSlice,run_underlying hu,sizeOf,typeInfo,hi,Instr.fill,newRow,Oper.upon,show Array.range 0= #[] from rfl] using this
end
noncomputable def Akx(P:x7)(t:x6)(q off:Nat)(σ:St)(s:Sc)(K:KO):Prop:=match Ec P t with
 |some (1,false)=>(match s with
  |.h (.m d) s=>(match σ.H[q]? with
   |some (some cs)=>cs[off]?=G d/\K s d σ (.load q off 1)
   |_=>False)
  |s=>(match σ.H[q]? with
   |some (some cs)=>(match cs[off]? with
    |some d=>K s d σ (.load q off 1)
    |none=>False)
   |_=>False))
 |some (n,true)=>(match s with
  |.h (.m (.dagg ds)) s=>(match σ.H[q]? with
   |some (some cs)=>off+n<=I cs/\(cs.drop off).take n=ds/\K s (.dagg ds) σ (.load q off n)
   |_=>False)
  |.h (.m (.v (.agg xs))) s=>(match σ.H[q]? with
   |some (some cs)=>off+n<=I cs/\(cs.drop off).take n=xs.map .v/\K s (.v (.agg xs)) σ (.load q off n)
   |_=>False)
  |s=>match σ.H[q]? with
  |some (some cs)=>cond (Nat.ble (off+n) (I cs)) (match DM ((cs.drop off).take n) with
   |some xs=>K s (.v (.agg xs)) σ (.load q off n)
   |none=>False) False
  |_=>False)
 |_=>False
theorem QL{cs:List D}{off:Nat}{d:D}(h:cs[off]?=G d):off+1<=I cs/\(cs.drop off).take 1=[d]:=by
 grind[List.drop_eq_getElem_cons]
theorem Ah4{P:x7}{o:yy}{σ:St}{t:x6}{a:x8}(ho:o.op=.load t a)(ht:Ec P t=G (1,false)){q off:Nat}{cs:List D}{d:D}(hq:σ.H[q]?=G (G cs))(hd:cs[off]?=G d):
  r8 P o [.ptr q off] σ d σ (.load q off 1):=by
 obtain⟨h1,h2⟩:=QL hd
 have hc:=Kp hq h1
 refine⟨rfl,by grind,fun τ hτ=>?_⟩
 rw[hc,h2] at hτ
 obtain⟨cs',h3,h4,h5⟩:=FV hτ
 refine Acm ho ht h3 ?_
 have:((cs'.drop off).take 1)[0]?=G d:=by grind
 grind
theorem Af6{P:x7}{t:x6}{q off:Nat}{σ:St}{s:Sc}{K:KO}(h:Akx P t q off σ s K){o:yy}{a:x8}(ho:o.op=.load t a):j6 P o [.ptr q off] σ K:=by
 unfold Akx at h
 split at h
 ·grind[Ah4,j6]
 ·rename_i n ht
  split at h
  ·split at h
   ·rename_i cs hq
    obtain⟨hl,hd,h2⟩:=h
    have hc:=Kp hq hl
    refine⟨_,_,_,_,h2,rfl,by grind,fun τ hτ=>?_⟩
    rw[hc] at hτ
    obtain⟨cs',h3,h4,h5⟩:=FV hτ
    exact Acl ho ht h3 h4 (by grind)
   grind
  ·split at h
   ·rename_i cs hq
    obtain⟨hl,hd,h2⟩:=h
    have hc:=Kp hq hl
    refine⟨_,_,_,_,h2,rfl,by grind,fun τ hτ=>?_⟩
    rw[hc] at hτ
    obtain⟨cs',h3,h4,h5⟩:=FV hτ
    exact Sf ho ht h3 h4 (by grind[Gq])
   grind
  split at h
  ·rename_i cs hq
   obtain⟨h1,h2⟩:=Av h
   split at h2
   ·rename_i xs hx
    have hl:=IC h1
    have hc:=Kp hq hl
    refine⟨_,_,_,_,h2,rfl,by grind,fun τ hτ=>?_⟩
    rw[hc] at hτ
    obtain⟨cs',h3,h4,h5⟩:=FV hτ
    exact Sf ho ht h3 h4 (by grind[Hl])
   grind
  grind
 grind
noncomputable def Aap(P:x7)(t:x6)(q off:Nat)(d:D)(σ:St)(s:Sc)(K:KO):Prop:=match Ec P t with
 |some (1,false)=>(match σ.H[q]? with
  |some (some cs)=>cond d.one (match s with
   |.h .w s=>off<I cs/\CZ σ.H q (G (cs.set off d)) fun H=>K s .undef ⟨H,σ.own⟩ .eff
   |s=>cond (Nat.blt off (I cs)) (CZ cs off d fun cs=>CZ σ.H q (G cs) fun H=>K s .undef ⟨H,σ.own⟩ .eff) False) False
  |_=>False)
 |some (n,true)=>(match σ.H[q]? with
  |some (some cs)=>(match s with
   |.h .ww s=>cond (d.sto&&Nat.beq (I (A2 d)) n) (off+n<=I cs/\CZ σ.H q (G (cs.take off++A2 d++cs.drop (off+n))) fun H=>K s .undef ⟨H,σ.own⟩ .eff) False
   |s=>cond (d.sto&&Nat.beq (I (A2 d)) n&&Nat.ble (off+n) (I cs)) (B3 (cs.take off++A2 d++cs.drop (off+n)) fun cs=>CZ σ.H q (G cs) fun H=>K s .undef ⟨H,σ.own⟩ .eff) False)
  |_=>False)
 |_=>False
theorem Aao{P:x7}{t:x6}{q off:Nat}{d:D}{σ:St}{s:Sc}{K:KO}(h:Aap P t q off d σ s K){o:yy}{a b:x8}(ho:o.op=.store t a b):j6 P o [.ptr q off,d] σ K:=by
 unfold Aap at h
 split at h
 ·rename_i ht
  split at h
  ·rename_i cs hq
   obtain⟨h1,h2⟩:=Av h
   split at h2
   ·rw[BH] at h2
    exact⟨_,_,_,_,h2.2,Sb ho h1 ht hq h2.1⟩
   ·obtain⟨h3,h4⟩:=Av h2
    rw[BH,BH] at h4
    exact⟨_,_,_,_,h4,Sb ho h1 ht hq (IC h3)⟩
  grind
 ·rename_i n ht
  split at h
  ·rename_i cs hq
   split at h
   ·obtain⟨h1,h2,h3⟩:=Av h
    simp only[HL] at h1
    rw[BH] at h3
    exact⟨_,_,_,_,h3,My ho h1.1 ht (I7 h1.2) hq h2⟩
   obtain⟨h1,h2⟩:=Av h
   simp only[HL] at h1
   rw[AX,BH] at h2
   exact⟨_,_,_,_,h2,My ho h1.1.1 ht (I7 h1.1.2) hq (IC h1.2)⟩
  grind
 grind
noncomputable def AqJ(P:x7)(t:x6)(x y:D)(σ:St)(s:Sc)(K:KO):Prop:=match BW P t,y with
 |some (_,sz,by',some z),.v (.list ys)=>cond (Nat.beq z.cells.size sz&&Nat.blt 0 sz) (match x with
  |.acc k xs=>(match Sa σ.own k with
   |some (sz',xs')=>cond (Nat.beq sz' sz) (xs'=xs/\Ao (I xs+I ys) by'/\(match s with
    |.h .w s=>(∀y∈ys,y.size=sz)/\vv σ.own k sz (xs++ys) fun own=>K s (.acc k (xs++ys)) ⟨σ.H,own⟩ .eff
    |s=>cond (ve sz ys) (vv σ.own k sz (xs++ys) fun own=>K s (.acc k (xs++ys)) ⟨σ.H,own⟩ .eff) False)) False
   |none=>False)
  |.v .nils=>(match s with
   |.h (.a k) (.h .w s)=>cond (EX σ.own k) (Ao (I ys) by'/\(∀y∈ys,y.size=sz)/\K s (.acc k ys) ⟨σ.H,(k,sz,ys)::σ.own⟩ .eff) False
   |.h (.a k) s=>cond (EX σ.own k&&ve sz ys) (Ao (I ys) by'/\K s (.acc k ys) ⟨σ.H,(k,sz,ys)::σ.own⟩ .eff) False
   |.h .g s=>ys≠ []/\(∀y∈ys,y.size=sz)/\Ao (I ys) by'/\AS σ.H (G (Ab ys)) fun H=>K s (.gro (I σ.H) (I ys) sz) ⟨H,σ.own⟩ .eff
   |_=>False)
  |.gro q len sz'=>(match s with
   |.h .w s=>(match σ.H[q]? with
    |some (some cs)=>cond (Nat.beq sz' sz) ((len+I ys)*sz<=I cs/\ys≠ []/\(∀y∈ys,y.size=sz)/\CZ σ.H q (G (cs.take (len*sz)++Ab ys++cs.drop (len*sz+I (Ab ys)))) fun H=>K s (.gro q (len+I ys) sz) ⟨H,σ.own⟩ .eff) False
    |_=>False)
   |s=>match σ.H[q]? with
   |some (some cs)=>cond (Nat.beq sz' sz) (I cs=len*sz/\ys≠ []/\(∀y∈ys,y.size=sz)/\Ao (len+I ys) by'/\CZ σ.H q none fun H=>AS H (G (cs++Ab ys)) fun H=>K s (.gro (I σ.H) (len+I ys) sz) ⟨H,σ.own⟩ .eff) False
   |_=>False)
  |_=>False) False
 |_,_=>False
theorem Ak0{P:x7}{t:x6}{x y:D}{σ:St}{s:Sc}{K:KO}(h:AqJ P t x y σ s K){o:yy}{a b:x8}(ho:o.op=.call { callee:=.builtin .append,args:= #[a,b],argTypes:= #[t,t]}):j6 P o [x,y] σ K:=by
 unfold AqJ at h
 split at h
 ·rename_i e sz by' z ys hs
  obtain⟨h1,h2⟩:=Av h
  simp only[HL] at h1
  have hz:=I7 h1.1
  have hp:=IC h1.2
  split at h2
  ·rename_i k xs
   split at h2
   ·rename_i sz' xs' hg
    obtain⟨h3,rfl,h4,h5⟩:=Av h2
    have:=I7 h3;subst this
    have hm:=ON hg
    split at h5
    ·rw[U9] at h5
     exact⟨_,_,_,_,h5.2,Sh ho hs hz hm h5.1 h4.1 h4.2⟩
    ·obtain⟨h6,h7⟩:=Av h5
     rw[U9] at h7
     exact⟨_,_,_,_,h7,Sh ho hs hz hm (MC h6) h4.1 h4.2⟩
   grind
  ·split at h2
   ·obtain⟨h3,h4,h5,h6⟩:=Av h2
    exact⟨_,_,_,_,h6,KS ho hs hz _ (CU h3) hp h5 h4.1 h4.2⟩
   ·obtain⟨h3,h4,h5⟩:=Av h2
    rw[HL] at h3
    exact⟨_,_,_,_,h5,KS ho hs hz _ (CU h3.1) hp (MC h3.2) h4.1 h4.2⟩
   ·obtain⟨h3,h4,h5,h6⟩:=h2
    rw[AQ] at h6
    exact⟨_,_,_,_,h6,Ma ho hs hz hp h4 h3 h5.1 h5.2⟩
   grind
  ·rename_i q len sz'
   split at h2
   ·split at h2
    ·rename_i cs hq
     obtain⟨h3,h4,h5,h6,h7⟩:=Av h2
     have:=I7 h3;subst this
     rw[BH] at h7
     exact⟨_,_,_,_,h7,UF ho hs hp hq h4 h6 h5⟩
    grind
   split at h2
   ·rename_i cs hq
    obtain⟨h3,h4,h5,h6,h7,h8⟩:=Av h2
    have:=I7 h3;subst this
    rw[BH,AQ] at h8
    exact⟨_,_,_,_,h8,N3 ho hs hz hp hq h4 h6 h5 h7.1 h7.2⟩
   grind
  grind
 grind
noncomputable def Akw(P:x7)(t:x6)(_ _:yv)(a b:Int)(σ:St)(s:Sc)(K:KO):Prop:=match BW P t with
 |some (_,sz,by',some z)=>(match s with
  |.h (.a k) s=>cond (Nat.blt 0 sz&&EX σ.own k) (a=0/\0<=b/\(by':Int)*b<=281474976710656/\b<=9223372036854775807/\K s (.acc k []) ⟨σ.H,(k,sz,[])::σ.own⟩ .eff) False
  |.h .g s=>(match FS z.cells.toList with
   |some zs=>cond (Nat.beq z.cells.size sz) (a=0/\0<=b/\(by':Int)*b<=281474976710656/\b<=9223372036854775807/\AS σ.H (G ((replicate b.toNat zs).flatten.map .v)) fun H=>K s (.gro (I σ.H) 0 sz) ⟨H,σ.own⟩ .eff) False
   |none=>False)
  |s=>(match SW z with
   |some zv=>cond (Nat.beq sz 1) (a=b/\0<=b/\(by':Int)*b<=281474976710656/\b<=9223372036854775807/\AS σ.H (G (replicate b.toNat (.v zv))) fun H=>K s (.arr (I σ.H) 0 b.toNat) ⟨H,σ.own⟩ .eff) False
   |none=>False))
 |_=>False
theorem Af5{P:x7}{t:x6}{k1 k2:yv}{a b:Int}{σ:St}{s:Sc}{K:KO}(h:Akw P t k1 k2 a b σ s K){o:yy}{x y:x8}(ho:o.op=.makeSlice t x y):j6 P o [.v (.int k1 a),.v (.int k2 b)] σ K:=by
 unfold Akw at h
 split at h
 ·rename_i e sz by' z hs
  split at h
  ·obtain⟨h1,rfl,h2,h3,h4,h5⟩:=Av h
   rw[HL] at h1
   exact⟨_,_,_,_,h5,AgR ho hs (IC h1.1) _ (CU h1.2) h2 h3 h4⟩
  ·split at h
   ·rename_i zs hzs
    obtain⟨h1,rfl,h2,h3,h4,h5⟩:=Av h
    rw[AQ] at h5
    exact⟨_,_,_,_,h5,AgP ho hs hzs (I7 h1) h2 h3 h4⟩
   grind
  ·split at h
   ·rename_i zv hzv
    obtain⟨h1,rfl,h2,h3,h4,h5⟩:=Av h
    have:=I7 h1;subst this
    rw[AQ] at h5
    exact⟨_,_,_,_,h5,AgQ ho hs hzv h2 h3 h4⟩
   grind
 grind
def qOf:List D->Option Nat
 |[]=>none
 |.ptr q _::_=>G q
 |.arr q _ _::_=>G q
 |_::ds=>qOf ds
noncomputable def Tl(q:Nat):List D->Option (List D)
 |[]=>G []
 |.ptr q' off::ds=>cond (Nat.beq q' q) (match Tl q ds with
  |some dc=>G (.ptr 0 off::dc)
  |none=>none) none
 |.arr q' off len::ds=>cond (Nat.beq q' q) (match Tl q ds with
  |some dc=>G (.arr 0 off len::dc)
  |none=>none) none
 |d::ds=>cond d.pl (match Tl q ds with
  |some dc=>G (d::dc)
  |none=>none) none
theorem Ob{α:Type}{b:Bool}{x:Option α}{r:α}(h:cond b x none=G r):b=J/\x=G r:=by grind
theorem Lv{q:Nat}:∀{ds dc:List D},Tl q ds=G dc->F9 q ds dc
 |[],dc,h=>by simp[Tl] at h;subst h;exact .nil
 |d::ds,dc,h=>by
  unfold Tl at h
  split at h
  ·grind
  ·rename_i q' off ds' e;simp only[HX] at e;obtain⟨rfl,rfl⟩:=e
   obtain⟨h1,h2⟩:=Ob h
   have:=I7 h1;subst this
   split at h2
   ·rename_i dc' hd;simp at h2;subst h2;exact .ptr (Lv hd)
   grind
  ·rename_i q' off len ds' e;simp only[HX] at e;obtain⟨rfl,rfl⟩:=e
   obtain⟨h1,h2⟩:=Ob h
   have:=I7 h1;subst this
   split at h2
   ·rename_i dc' hd;simp at h2;subst h2;exact .arr (Lv hd)
   grind
  ·rename_i d' ds' _ _ e;simp only[HX] at e;obtain⟨rfl,rfl⟩:=e
   obtain⟨h1,h2⟩:=Ob h
   split at h2
   ·rename_i dc' hd;simp at h2;subst h2;exact .pl h1 (Lv hd)
   grind
noncomputable def Aa3(P:x7)(f:yx)(fs cs:List V)(ds:List D)(σ:St)(s:Sc)(K:KO):Prop:=match s with
 |.h (.ck k k' sz xs) s=>cond (EX σ.own k) (match PZ ds with
  |some ys=>Aa P f ((fs++ys++cs).map .v) ⟨[],[]⟩ (.acc k' xs) ⟨[],[(k',sz,xs)]⟩/\K s (.acc k xs) ⟨σ.H,(k,sz,xs)::σ.own⟩ .eff
  |none=>False) False
 |.h (.ckn k k' sz xs) s=>cond (EX σ.own k) (match DM ds with
  |some ys=>Aa P f ((fs++ys++cs).map .v) ⟨[],[]⟩ (.acc k' xs) ⟨[],[(k',sz,xs)]⟩/\K s (.acc k xs) ⟨σ.H,(k,sz,xs)::σ.own⟩ .eff
  |none=>False) False
 |.h (.c1 os' d) s=>(match qOf ds with
  |some q=>(match σ.H[q]?,Tl q (ds.map D.un) with
   |some (some os),some dc=>cond (D.pls os&&D.pls os'&&d.pl) (Aa P f (fs.map .v++dc++cs.map .v) ⟨[G os],[]⟩ d ⟨[G os'],[]⟩/\CZ σ.H q (G os') fun H=>K s d ⟨H,σ.own⟩ .eff) False
   |_,_=>False)
  |none=>False)
 |s=>Af4 P {(default:yy) with op:=.call { callee:=.value (.func f),args:= #[],argTypes:= #[]}} (.v (.fn f fs cs)::ds.map D.un) s fun s d=>K s d σ .pure
theorem Aa2{P:x7}{f:yx}{fs cs:List V}{ds:List D}{σ:St}{s:Sc}{K:KO}(h:Aa3 P f fs cs ds σ s K){o:yy}{c:Call}{fo:x8}(ho:o.op=.call c)(hc:c.callee=.value fo):j6 P o (.v (.fn f fs cs)::ds) σ K:=by
 unfold Aa3 at h
 split at h
 ·obtain⟨h1,h2⟩:=Av h
  split at h2
  ·rename_i ys hy
   refine⟨_,_,_,_,h2.2,BY (fun g us hr=>?_) (LZ (ds:=ys.map .v) ho hc (BJ ys) _ (CU h1) (by simpa[J5] using h2.1))⟩
   grind[Ag,FY]
  grind
 ·obtain⟨h1,h2⟩:=Av h
  split at h2
  ·rename_i ys hy
   refine⟨_,_,_,_,h2.2,BY (fun g us hr=>?_) (LZ (ds:=ys.map .v) ho hc (BJ ys) _ (CU h1) (by simpa[J5] using h2.1))⟩
   grind[Ag,MJ]
  grind
 ·split at h
  ·rename_i q hq
   split at h
   ·rename_i os dc hos hdc
    obtain⟨h1,h2,h3⟩:=Av h
    simp only[HL] at h1
    rw[BH] at h3
    refine⟨_,_,_,_,h3,BY (fun g us hr=>?_) (Wz (ds:=ds.map D.un) ho hc hos h1.1.1 h1.1.2 (Lv hdc) h1.2 h2)⟩
    grind[Ag,KL]
   grind
  grind
 ·have h':Af9 P f fs cs (ds.map D.un) _ (fun s d=>K s d σ .pure):=h
  obtain⟨s',d,h1,h2⟩:=VI h' ho hc
  refine⟨_,_,_,_,h1,rfl,fun τ=>BY (fun g us hr=>?_) (h2 τ)⟩
  grind[Ag,KL]
noncomputable def TI(P:x7)(t:x6)(len:Nat)(ps:List (Nat×x8))(ds:List D)(k:Nat)(σ:St)(s:Sc)(K:KO):Prop:=match BW P t with
 |some (_,sz,_,z)=>cond (EX σ.own k&&Nat.blt 0 sz) (match len with
  |0=>(match ps,ds with
   |[],[]=>K s (.acc k []) ⟨σ.H,(k,sz,[])::σ.own⟩ .eff
   |_,_=>False)
  |len+1=>(match DM ds with
   |some xs=>cond (vt ps 0&&Nat.beq (I ps) (len+1)&&z.isSome&&Nat.ble ((len+1)*sz) 1000&&ve sz xs) (K s (.acc k xs) ⟨σ.H,(k,sz,xs)::σ.own⟩ .eff) False
   |none=>False)) False
 |none=>False
theorem XL{P:x7}{t:x6}{len:Nat}{ps:Array (Nat×x8)}{ds:List D}{k:Nat}{σ:St}{s:Sc}{K:KO}(h:TI P t len ps.toList ds k σ s K){o:yy}(ho:o.op=.buildSlice t len ps):j6 P o ds σ K:=by
 unfold TI at h
 split at h
 ·rename_i e sz by' z hs
  obtain⟨h1,h2⟩:=Av h
  rw[HL] at h1
  have hp:=IC h1.2
  split at h2
  ·split at h2
   ·rename_i hps
    exact⟨_,_,_,_,h2,N2 ho (by grind) hs hp _ (CU h1.1)⟩
   grind
  ·rename_i len
   split at h2
   ·rename_i xs hx
    obtain⟨h3,h4⟩:=Av h2
    simp only[HL] at h3
    obtain⟨⟨⟨⟨g1,g2⟩,g3⟩,g5⟩,g6⟩:=h3
    have hl:ps.size=len+1:=by simp_all
    exact⟨_,_,_,_,h4,O0 ho (U2 g1) hl hs g3 (Hl hx) (MC g6) (by omega) hp (by simp_all) _ (CU h1.1)⟩
   grind
 grind
noncomputable def vP(P:x7)(o:yy)(ds:List D)(σ:St)(s:Sc)(K:KO):Prop:=Af4 P o (ds.map D.un) s fun s d=>K s d σ .pure
theorem TF{P:x7}{o:yy}{ds:List D}{σ:St}{s:Sc}{K:KO}(h:vP P o ds σ s K):j6 P o ds σ K:=by
 obtain⟨s',d,h1,h2⟩:=Af3 h
 exact⟨_,_,_,_,h1,rfl,fun τ=>UH (h2 τ)⟩
noncomputable def Ak1(P:x7)(t tn:x6)(n:Int)(σ:St)(s:Sc)(K:KO):Prop:=match BW P t,P.underlying tn with
 |some (_,sz,by',some z),some (.int _)=>cond (Nat.beq z.cells.size sz&&Nat.blt 0 sz) (0<n/\Ao n.toNat by'/\AS σ.H (G []) fun H=>K s (.gro (I σ.H) n.toNat sz) ⟨H,σ.own⟩ .eff) False
 |_,_=>False
theorem AfB{P:x7}{t tn:x6}{kd:yv}{n:Int}{σ:St}{s:Sc}{K:KO}(h:Ak1 P t tn n σ s K){o:yy}{a b:x8}(ho:o.op=.call { callee:=.builtin .append,args:= #[a,b],argTypes:= #[t,tn]}):j6 P o [.v .nils,.v (.int kd n)] σ K:=by
 unfold Ak1 at h
 split at h
 ·rename_i e sz by' z k hs hu
  obtain⟨h1,h2,h3,h4⟩:=Av h
  rw[HL] at h1
  rw[AQ] at h4
  exact⟨_,_,_,_,h4,Yt ho hs (I7 h1.1) (IC h1.2) hu h2 h3.1 h3.2⟩
 grind
noncomputable def Asu(P:x7)(t:x6)(s:Sc)(σ:St)(K:KO):Prop:=match P.underlying t with
 |some (.slice _)=>K s (.v (.int .i64 0)) σ .pure
 |_=>False
noncomputable def Aqr(P:x7)(t:x6)(x:D)(i:Int)(σ:St)(s:Sc)(K:KO):Prop:=match x with
 |.v .nils=>(match P.underlying t with
  |some (.slice e)=>(match P.info? e with
   |some _=>i=0/\K s (.v .nils) σ .pure
   |none=>False)
  |_=>False)
 |.gro q _ sz=>(match s,BW P t,σ.H[q]? with
  |.h (.a k) s,some (_,sz',_,_),some (some _)=>cond (Nat.beq sz' sz&&Nat.blt 0 sz&&EX σ.own k) (i=0/\CZ σ.H q none fun H=>K s (.acc k []) ⟨H,(k,sz,[])::σ.own⟩ .eff) False
  |_,_,_=>False)
 |_=>False
theorem Akt{P:x7}{t:x6}{x:D}{kd:yv}{i:Int}{σ:St}{s:Sc}{K:KO}(h:Aqr P t x i σ s K){o:yy}{a b:x8}(ho:o.op=.slice t a none (G b) none):j6 P o [x,.v (.int kd i)] σ K:=by
 unfold Aqr at h
 split at h
 ·split at h
  ·rename_i e hu
   split at h
   ·rename_i inf hi
    obtain⟨rfl,h⟩:=h
    exact⟨_,_,_,_,h,rfl,fun τ=>Sd ho hu hi⟩
   grind
  grind
 ·rename_i q len sz
  split at h
  ·rename_i k s' e sz' by' z cs hs hq
   obtain⟨h1,rfl,h2⟩:=Av h
   simp only[HL] at h1
   have:=I7 h1.1.1;subst this
   rw[BH] at h2
   exact⟨_,_,_,_,h2,Yq ho hs (IC h1.1.2) hq _ (CU h1.2)⟩
  grind
 grind
section
variable {P : x7} {o : yy} {σ : St}
theorem Da{t:x6}{x:x8}{lo hi:Option x8}(ho:o.op=.slice t x lo hi none){e:x6}{sz by':Nat}{z:Option yz}(hs:BW P t=G (e,sz,by',z)){q off len:Nat}
  (l h:Option (yv×Int)) (hlo:lo.isSome=l.isSome) (hhi:hi.isSome=h.isSome) {l' h':Nat} (hb:C8 len (l.map (·.2)) (h.map (·.2))=G (l',h')) (hlt:l'<len):
  Ak P o (.arr q off len::(Fk l++Fk h)) σ (.arr q (off+l'*sz) (h'-l')) σ:=by
 refine A8 fun E g ρ w hw hds=>?_
 obtain⟨i,hu,hi',hsz,_,_⟩:=AF hs
 have hb2:=hb
 unfold C8 at hb2
 simp only at hb2
 split at hb2
 case isFalse=>grind
 rename_i hcond
 simp only[IF,Prod.mk.injEq] at hb2
 have main:∀u (lv hv:Option yz),ρ x=u->lv=l.map (fun p=>Value.int p.1 p.2)->hv=h.map (fun p=>Value.int p.1 p.2)->lo.map ρ=lv->hi.map ρ=hv->Ah g (.arr q off len) u->
   ∃u,(execOp ρ o).run P w=.ok (.value u) w/\Ah g (.arr q (off+l'*sz) (h'-l')) u:=by
  intro u lv hv eu el eh e1 e2 hr
  simp only[Ah] at hr⊢
  obtain⟨hq,cap,hc,rfl⟩:=hr
  refine⟨.slice (G ⟨g.β q,off+l'*sz,none⟩) (h'-l') (cap-l'),?_,hq,cap-l',by omega,rfl⟩
  have hbr:=DX (P:=P) w true len cap hc l h hb
  simp only[execOp,ho,eu,e1,e2,el,eh,JJ,Instr.sliceAt,Instr.slice,Sem.run_bind,run_underlying hu,Result.andThen_ok,hbr]
  simp[sizeOf,typeInfo,hi',hsz,show ¬cap=l' by omega,Addr.add_lit]
 simp only[ho,Op.operands] at hds
 cases lo with
 |none=>
  cases l with
  |some _=>grind
  |none=>
   cases hi with
   |none=>
    cases h<;>grind[AG,Fk]
   |some ho'=>
    cases h<;>grind[Ax,Fk,Ah,AC]
 |some lo'=>
  cases l with
  |none=>grind
  |some lq=>
   cases hi with
   |none=>
    cases h<;>grind[Ax,Fk,Ah,AC]
   |some ho'=>
    cases h with
    |none=>grind
    |some p=>
     obtain⟨u,v,v2,eu,h1,h2,h3⟩:=Fw.1 (by simpa[Fk] using hds)
     grind[Ah,AC]
end
noncomputable def Aqq(P:x7)(t:x6)(q off n:Nat)(i:Int)(σ:St)(s:Sc)(K:KO):Prop:=match BW P t with
 |some (_,sz,_,_)=>0<=i/\i<(n:Int)/\K s (.arr q (off+i.toNat*sz) (n-i.toNat)) σ .pure
 |none=>False
theorem Aks{P:x7}{t:x6}{q off n:Nat}{kd:yv}{i:Int}{σ:St}{s:Sc}{K:KO}(h:Aqq P t q off n i σ s K){o:yy}{a b:x8}(ho:o.op=.slice t a (G b) none none):j6 P o [.arr q off n,.v (.int kd i)] σ K:=by
 unfold Aqq at h
 split at h
 ·rename_i e sz by' z hs
  obtain⟨h1,h2,h3⟩:=h
  refine⟨_,_,_,_,h3,rfl,fun τ=>?_⟩
  have hb:C8 n ((G (kd,i)).map (·.2)) ((none:Option (yv×Int)).map (·.2))=G (i.toNat,n):=by
   grind[C8]
  have:=Da (σ:=τ) (q:=q) (off:=off) ho hs (G (kd,i)) none rfl rfl hb (by omega)
  grind[Fk]
 grind
theorem Abc{g:Gh}{q n sz:Nat}{u:yz}(h:Ah g (.gro q n sz) u):Ah g (.arr q 0 n) u:=by
 grind[Ah]
theorem Akr{P:x7}{q n sz:Nat}{ds:List D}{o:yy}{σ:St}{K:KO}(h:j6 P o (.arr q 0 n::ds) σ K):j6 P o (.gro q n sz::ds) σ K:=by
 have hsub:∀g us,Ag g (.gro q n sz::ds) us->Ag g (.arr q 0 n::ds) us:=fun g us hr=>by
  grind[Ag,Abc]
 obtain⟨s',d,σ',kd,h5,h6⟩:=h
 refine⟨s',d,σ',kd,h5,?_⟩
 cases kd with
 |pure=>exact⟨h6.1,fun τ=>BY hsub (h6.2 τ)⟩
 |load q off n=>grind[BY,r8]
 |eff=>exact BY hsub h6
noncomputable def Aqs(P:x7)(im:List Nat)(o:yy)(ds:List D)(σ:St)(s:Sc)(K:KO):Prop:=match s with
 |.h (.o d σ') s=>Ak P o ds σ d σ'/\K s d σ' .eff
 |.h (.p d) s=>(∀τ,Ak P o ds τ d τ)/\K s d σ .pure
 |s=>match o.op with
  |.move _=>(match ds with
   |[d]=>K s d σ .pure
   |_=>False)
  |.assign _=>(match ds with
   |[d]=>K s d σ .pure
   |_=>False)
  |.pick _ _ _=>(match ds with
   |[.v (.bool b),d1,d2]=>Bool.rec (K s d2 σ .pure) (K s d1 σ .pure) b
   |_=>False)
  |.box _ _=>(match ds,o.dst with
   |[d],some t=>Bool.rec (cond d.sto (B3 (A2 d) fun cs=>AS σ.H (G cs) fun H=>K s (.ptr (I σ.H) 0) ⟨H,σ.own⟩ .eff) False) (match d.toV with
    |some y=>K s (.v (.ref y)) σ .pure
    |none=>False) (Asz im t)
   |_,_=>False)
  |.alloc e=>(match ds,Oy P e with
   |[],some xs=>B3 (xs.map .v) fun cs=>AS σ.H (G cs) fun H=>K s (.ptr (I σ.H) 0) ⟨H,σ.own⟩ .eff
   |_,_=>False)
  |.store t _ _=>(match ds with
   |[.ptr q off,d]=>Aap P t q off d σ s K
   |_=>False)
  |.load t _=>(match ds with
   |[.ptr q off]=>Akx P t q off σ s K
   |ds=>vP P o ds σ s K)
  |.makeSlice t _ _=>(match ds with
   |[.v (.int k1 a),.v (.int k2 b)]=>Akw P t k1 k2 a b σ s K
   |_=>False)
  |.build t ps=>(match s with
   |.h .g s=>cond (Lb P t) (match ZA P t,n7 ps.toList ds with
    |some (z,ay),some xs=>(match Vb ay (z.map .v) xs with
     |some out=>B3 out fun out=>K s (.dagg out) σ .pure
     |none=>False)
    |_,_=>False) False
   |s=>vP P o ds σ s K)
  |.buildSlice t len ps=>(match s with
   |.h (.a k) s=>TI P t len ps.toList ds k σ s K
   |.h .g s=>(match len,ps.toList,ds,BW P t with
    |0,[],[],some (_,sz,_,_)=>AS σ.H (G []) fun H=>K s (.gro (I σ.H) 0 sz) ⟨H,σ.own⟩ .eff
    |_,_,_,_=>False)
   |s=>vP P o ds σ s K)
  |.slice t _ none (some _) none=>(match ds with
   |[.v .nils,.v (.int _ i)]=>Aqr P t (.v .nils) i σ s K
   |[.gro q n sz,.v (.int _ i)]=>Aqr P t (.gro q n sz) i σ s K
   |ds=>vP P o ds σ s K)
  |.slice t _ (some _) none none=>(match ds with
   |[.gro q n _,.v (.int _ i)]=>Aqq P t q 0 n i σ s K
   |[.arr q off n,.v (.int _ i)]=>Aqq P t q off n i σ s K
   |ds=>vP P o ds σ s K)
  |.call c=>(match c.callee,ds with
   |.builtin .append,[.v .nils,.v (.int _ n)]=>(match c.args.toList,c.argTypes.toList with
    |[_,_],[t,t']=>Ak1 P t t' n σ s K
    |_,_=>False)
   |.builtin .append,[x,y]=>(match c.args.toList,c.argTypes.toList with
    |[_,_],[t,t']=>cond (Nat.beq t t') (AqJ P t x y.un σ s K) False
    |_,_=>False)
   |.builtin .cap,[.v .nils]=>(match c.args.toList,c.argTypes.toList with
    |[_],[t]=>Asu P t s σ K
    |_,_=>False)
   |.value _,.v (.fn f fs cs)::ds=>Aa3 P f fs cs ds σ s K
   |_,ds=>vP P o ds σ s K)
  |_=>vP P o ds σ s K
theorem Aat{P:x7}{im:List Nat}{o:yy}{ds:List D}{σ:St}{s:Sc}{K:KO}(h:Aqs P im o ds σ s K):j6 P o ds σ K:=by
 unfold Aqs at h
 split at h
 ·exact⟨_,_,_,_,h.2,h.1⟩
 ·exact⟨_,_,_,_,h.2,rfl,h.1⟩
 ·split at h
  ·rename_i x ho
   split at h
   ·exact⟨_,_,_,_,h,rfl,fun τ=>Qw ho⟩
   grind
  ·rename_i x ho
   split at h
   ·exact⟨_,_,_,_,h,rfl,fun τ=>KR ho⟩
   grind
  ·rename_i x y z ho
   split at h
   ·rename_i b d1 d2
    cases b
    ·exact⟨_,_,_,_,h,rfl,fun τ=>UD ho (b:=false)⟩
    ·exact⟨_,_,_,_,h,rfl,fun τ=>UD ho (b:=true)⟩
   grind
  ·rename_i e x ho
   split at h
   ·rename_i d t _
    cases hm:Asz im t with
    |false=>
     rw[hm] at h
     obtain⟨h1,h2⟩:=Av h
     rw[AX,AQ] at h2
     exact⟨_,_,_,_,h2,Aol ho h1⟩
    |true=>
     rw[hm] at h
     simp only at h
     split at h
     ·rename_i y hy;exact⟨_,_,_,_,h,rfl,fun τ=>Aln ho hy⟩
     grind
   grind
  ·rename_i e ho
   split at h
   ·rename_i xs hz
    rw[AX,AQ] at h
    exact⟨_,_,_,_,h,N4 ho hz⟩
   grind
  ·grind[Aao]
  ·grind[Af6,TF]
  ·grind[Af5]
  ·rename_i t ps ho
   split at h
   ·obtain⟨hst,h⟩:=Av h
    split at h
    ·rename_i z ay xs hb hx
     split at h
     ·rename_i out hf
      rw[AX] at h
      exact⟨_,_,_,_,h,rfl,fun τ=>Acu ho hst hb hx hf⟩
     grind
    grind
   grind[TF]
  ·rename_i t len ps ho
   split at h
   ·grind[XL]
   ·split at h
    ·have hps:ps.toList=[]:=by omega
     have hs:=(by assumption:BW P t=_)
     rw[AQ] at h
     exact⟨_,_,_,_,h,N1 ho (by grind) hs⟩
    grind
   grind[TF]
  ·grind[Akt,TF]
  ·grind[Akr,Aks,TF]
  ·rename_i c ho
   have mk2:∀{b:Builtin} {x y:x8} {t t':x6},c.callee=.builtin b->c.args.toList=[x,y]->c.argTypes.toList=[t,t']->o.op=.call { callee:=.builtin b,args:= #[x,y],argTypes:= #[t,t']}:=by
    intro b x y t t' hc h1 h2
    rw[ho];cases c;simp only at hc h1 h2;subst hc
    congr 2
    all_goals grind
   split at h
   ·rename_i kd n hc
    split at h
    all_goals grind[AfB]
   ·rename_i x y _ hc
    split at h
    ·rename_i a b t t' h1 h2
     obtain⟨h3,h4⟩:=Av h
     have:=I7 h3;subst this
     have hoo:o.op=.call { callee:=.builtin .append,args:= #[a,b],argTypes:= #[t,t]}:=by
      grind
     obtain⟨s',d,σ',kd,h5,h6⟩:=Ak0 h4 hoo
     have hsub:∀g us,Ag g [x,y] us->Ag g [x,y.un] us:=fun g us hr=>by
      grind[Ql,Ag]
     refine⟨s',d,σ',kd,h5,?_⟩
     cases kd with
     |pure=>exact⟨h6.1,fun τ=>BY hsub (h6.2 τ)⟩
     |load q off n=>grind[BY,r8]
     |eff=>exact BY hsub h6
    grind
   ·rename_i hc
    split at h
    ·rename_i x t h1 h2
     unfold Asu at h
     split at h
     ·rename_i e hu
      refine⟨_,_,_,_,h,rfl,fun τ=>Ys (x:=x) (t:=t) ?_ hu⟩
      rw[ho];cases c;simp only at hc h1 h2;subst hc
      congr 2
      all_goals grind
     grind
    grind
   all_goals grind[Aa2,TF]
  grind[TF]
def wl:Op->Bool
 |.call c=>(match c.callee with|.value _=>true|_=>false)
 |_=>false
theorem Aom{o:Op}(h:wl o=J):∃(c:Call) (fo:x8),o=.call c/\c.callee=.value fo:=by
 cases o<;>simp only[wl] at h<;>try (simp at h;done)
 grind
noncomputable def jg(P:x7)(im:List Nat)(o:yy)(ds:List D)(σ:St)(s:Sc)(K:KO):Prop:=match s with
 |.h (.oc d σ') s'=>Bool.rec (Aqs P im o ds σ (.h (.oc d σ') s') K) ((∀(o:yy) (c:Call) (fo:x8),o.op=.call c->c.callee=.value fo->Ak P o ds σ d σ')/\K s' d σ' .eff) (wl o.op)
 |s=>Aqs P im o ds σ s K
theorem CQ{P:x7}{im:List Nat}{o:yy}{ds:List D}{σ:St}{s:Sc}{K:KO}(h:jg P im o ds σ s K):j6 P o ds σ K:=by
 unfold jg at h
 split at h
 ·rename_i d σ' s'
  cases hq:wl o.op with
  |true=>
   rw[hq] at h
   obtain⟨h1,h2⟩:=(h:(∀(o:yy) (c:Call) (fo:x8),o.op=.call c->c.callee=.value fo->Ak P o ds σ d σ')/\K s' d σ' .eff)
   obtain⟨c,fo,e1,e2⟩:=Aom hq
   exact⟨_,_,_,_,h2,h1 _ _ _ e1 e2⟩
  |false=>
   rw[hq] at h
   exact Aat h
 grind[Aat]
abbrev shG(g:Gh)(m:Nat)(ts:List Nat):Gh:={ g with n:=m,ι:=fun k j=>if ts.contains k then g.ι k j else none }
mutual
theorem Qm{g:Gh}{m:Nat}{ts:List Nat}:∀(d:D) (u:yz),d.okN m ts=J->Ah g d u->Ah (shG g m ts) d u
 |.v x,u,_,h=>by simpa only[Ah] using h
 |.acc k xs,u,hk,h=>by
  simp only[D.okN] at hk
  simp only[Ah] at h⊢
  exact⟨h.1,by rw[I4 hk];exact h.2⟩
 |.ptr o f,u,hk,h=>by
  simp only[D.okN,HU] at hk
  simp only[Ah] at h⊢
  exact⟨hk,h.2⟩
 |.arr o f l,u,hk,h=>by
  simp only[D.okN,HU] at hk
  simp only[Ah] at h⊢
  exact⟨hk,h.2⟩
 |.gro o f l,u,hk,h=>by
  simp only[D.okN,HU] at hk
  simp only[Ah] at h⊢
  exact⟨hk,h.2⟩
 |.raw x,u,_,h=>by simpa only[Ah] using h
 |.err,u,_,h=>by simpa only[Ah] using h
 |.rv x u0,u,_,h=>by simpa only[Ah] using h
 |.dagg cs,u,hk,h=>by
  simp only[D.okN] at hk
  simp only[Ah] at h⊢
  obtain⟨us,e,h1⟩:=h
  exact⟨us,e,Gs cs us hk h1⟩
 |.dfn f fs cs,u,hk,h=>by
  simp only[D.okN,HL] at hk
  simp only[Ah] at h⊢
  obtain⟨us,vs,e,h1,h2⟩:=h
  exact⟨us,vs,e,Gs fs us hk.1 h1,Gs cs vs hk.2 h2⟩
 |.tup ds,u,hk,h=>by
  simp only[D.okN] at hk
  simp only[Ah] at h⊢
  obtain⟨us,e,h1⟩:=h
  exact⟨us,e,Gs ds us hk h1⟩
 |.undef,u,_,_=>by simp only[Ah]
theorem Gs{g:Gh}{m:Nat}{ts:List Nat}:∀(ds:List D) (us:List yz),D.okNs m ts ds=J->Ag g ds us->Ag (shG g m ts) ds us
 |[],us,_,h=>by simpa only[Ag] using h
 |d::ds,us,hk,h=>by
  simp only[D.okNs,HL] at hk
  simp only[Ag] at h⊢
  obtain⟨u,us',e,h1,h2⟩:=h
  exact⟨u,us',e,Qm d u hk.1 h1,Gs ds us' hk.2 h2⟩
end
theorem XE{E:c9}{g:Gh}{σ σ':St}{w:x5}(hw:WI E g σ w){m:Nat}(hH:σ'.H=σ.H.take m)(hm:m<=I σ.H)(hE:E.g.n<=m)(hc:cp m (σ'.own.map (·.1)) σ'.H=J)(CT:σ'.own.Sublist σ.own):
  WI E (shG g m (σ'.own.map (·.1))) σ' w:=by
 have get:∀(i:Nat) (cs:List D),σ'.H[i]?=G (G cs)->σ.H[i]?=G (G cs)/\i<m:=by
  grind
 have hι:∀x∈σ'.own,(if (σ'.own.map (·.1)).contains x.1 then g.ι x.1 (I x.2.2) else none)=g.ι x.1 (I x.2.2):=fun x hx=>I4 (by grind)
 refine{ rep:=⟨?_,hw.rep.mem,fun i cs hi=>?_,fun i j cs ds hi hj=>hw.rep.inj i j cs ds (get i cs hi).1 (get j ds hj).1,fun k sz xs hx=>?_,?_,fun x hx y hy hne u u' hu hu' b hb=>?_,fun x hx u hu b hb i cs hi=>?_,fun k hk j=>?_,hw.rep.gl,hw.rep.gw⟩,M:=hw.M,size:=hw.size,keep:=hw.keep,os:=hw.os,tape:=hw.tape,output:=hw.output,nE:=hE,βE:=fun o ho=>hw.βE o ho,κE:=fun o ho=>hw.κE o ho,objs:=fun i cs hi=>hw.objs i cs (get i cs hi).1,owns:=fun x hx u hu b hb=>?_,drawn:=hw.drawn }
 ·grind
 ·obtain⟨us,rest,e,h1,h2,h3,h4⟩:=hw.rep.obj i cs (get i cs hi).1
  exact⟨us,rest,e,h1,Gs cs us (N7 hc hi) h2,h3,h4⟩
 ·obtain⟨h0,u,hu,h1,h2,h3⟩:=hw.rep.own k sz xs (CT.subset hx)
  grind
 ·exact(CT.map _).nodup hw.rep.tags
 ·exact hw.rep.sep x (CT.subset hx) y (CT.subset hy) hne u u' ((hι x hx).symm.trans hu) ((hι y hy).symm.trans hu') b hb
 ·exact hw.rep.ownObj x (CT.subset hx) u ((hι x hx).symm.trans hu) b hb i cs (get i cs hi).1
 ·grind
 ·exact hw.owns x (CT.subset hx) u ((hι x hx).symm.trans hu) b hb
abbrev CN(m:Nat)(E0 E:c9):Prop:=E0=E/\E.g.n<=m
theorem NA(m:Nat):Ou (CN m):=⟨fun h _ _ _ hw=>by grind⟩
section
variable {P : x7} {R : List D -> St -> Prop} {k : List KI} {env : List D} {σ : St}
theorem AnE{C:c9->c9->Prop}{m:Nat}(hCm:∀E0 E,C E0 E->E.g.n<=m){σ':St}{h:Nat}(hH:σ'.H=σ.H.take h)(hh:h<=I σ.H)(hm:m<=h)(he:D.okNs h (σ'.own.map (·.1)) env=J)(hc:cp h (σ'.own.map (·.1)) σ'.H=J)(CT:σ'.own.Sublist σ.own)(hr:A5 C P R k env σ'):A5 C P R k env σ:=fun E0 E _ a w B hC hf hB=>
 hr E0 E _ a w B hC ⟨XE hf.wi hH hh (Jn (hCm _ _ hC) hm) hc CT,Gs _ _ he hf.env,hf.defers⟩ hB
end
noncomputable def FR{β:Type}(l:List D)(i:Nat)(k:D->β):β:=
 List.rec (motive:=fun _=>Nat->(D->β)->β) (fun _ k=>k .undef) (fun a _ ih i k=>Nat.rec (motive:=fun _=>β) (k a) (fun j _=>ih j k) i) l i k
theorem DI{β:Type}:∀(l:List D) (i:Nat) (k:D->β),FR l i k=k (l.getD i .undef)
 |[],_,_=>rfl
 |a::l,0,k=>rfl
 |a::l,i+1,k=>by
  have h:FR (a::l) (i+1) k=FR l i k:=rfl
  rw[h,DI l];simp
noncomputable def wg{β:Type}(env:List D)(x:x8)(K:D->β):β:=match x with
 |.tmp t=>FR env t K
 |x=>K (m8 env x)
theorem Ap4{β:Type}(env:List D)(x:x8)(K:D->β):wg env x K=K (m8 env x):=by
 cases x<;>simp[wg,DI,m8]
noncomputable def WU{β:Type}(env:List D)(l:List x8)(K:List D->β):β:=
 List.rec (motive:=fun _=>(List D->β)->β) (fun K=>K []) (fun x _ ih K=>wg env x fun d=>ih fun ds=>K (d::ds)) l K
theorem NW{β:Type}(env:List D):∀(l:List x8) (K:List D->β),WU env l K=K (l.map (m8 env))
 |[],_=>rfl
 |x::l,K=>by
  have h:WU env (x::l) K=wg env x fun d=>WU env l fun ds=>K (d::ds):=rfl
  rw[h,Ap4,NW env l];rfl
theorem getD_some{env:List D}{t:Nat}{d:D}(h:env.getD t .undef=d)(hd:d≠ .undef):env[t]?=G d:=by
 grind
theorem DSL.refl:∀l:List D,DSL l l
 |[]=>.nil
 |d::l=>.cons (.same d) (DSL.refl l)
theorem DSL.set{l:List D}{t:Nat}{d e:D}(h:l[t]?=G d)(hs:DS d e):DSL l (l.set t e):=by
 induction l generalizing t with
 |nil=>grind
 |cons a l ih=>
  cases t with
  |zero=>simp at h;subst h;exact .cons hs (DSL.refl l)
  |succ t=>exact .cons (.same a) (ih (by grind))
theorem Oa{env:List D}{σ:St}:Cv env σ env σ:=by grind[Cv]
theorem OY{L:Nat->Option (List D)}:∀{ds ds':List D} {s n:Nat} {d:D} {x:V},Fz L ds ds'->ds[s]?=G d->GJ L n d x->Fz L ds (ds'.set s (.v x))
 |_,_,s,n,d,x,.nil,h,hl=>by grind
 |_,_,0,n,d,x,.keep hs,h,hl=>by simp at h;subst h;exact .view hl hs
 |_,_,0,n,d,x,.view _ hs,h,hl=>by simp at h;subst h;exact .view hl hs
 |_,_,s+1,n,d,x,.keep hs,h,hl=>by simp only[JA];exact .keep (OY hs (by grind) hl)
 |_,_,s+1,n,d,x,.view h' hs,h,hl=>by simp only[JA];exact .view h' (OY hs (by grind) hl)
theorem Fz.refl{L:Nat->Option (List D)}:∀l:List D,Fz L l l
 |[]=>.nil
 |_::l=>.keep (Fz.refl l)
theorem R5:∀{cs:List D} {xs:List V},DM cs=G xs->∀{j:Nat} {y:V},xs[j]?=G y->∃c,cs[j]?=G c/\c.toV=G y
 |[],xs,h,j,y,hy=>by simp[DM] at h;subst h;simp at hy
 |c::cs,xs,h,j,y,hy=>by
  cases c<;>simp only[DM] at h<;>first|(split at h<;>first|(rename_i ys h1;simp at h;subst h;cases j with|zero=>(simp at hy;subst hy;exact⟨_,rfl,rfl⟩)|succ j=>(obtain⟨c,h2,h3⟩:=R5 h1 (j:=j) (by simpa using hy);exact⟨c,by simpa using h2,h3⟩))|simp at h)|simp at h
theorem Ah8{H:List (Option (List D))}{q:Nat}{cs:List D}{xs:List V}(hq:H[q]?=G (G cs))(hx:DM cs=G xs)(ha:xs.all (fun x=> !x.isAgg)=J):GJ (EV [q] H) 1 (.ptr q 0) (.ref (.agg xs)):=by
 refine .inr (.inl ⟨q,0,cs,.agg xs,rfl,rfl,by grind[EV],fun j y hy=>?_⟩)
 have hm:=HQ (show xs[j]?=G y from hy)
 obtain⟨c,h1,h2⟩:=R5 hx (show xs[j]?=G y from hy)
 exact⟨by grind,c,by grind,c,.same,h2⟩
theorem Ah6{H:List (Option (List D))}{q:Nat}{c:D}{x:V}(hq:H[q]?=G (G [c]))(hx:c.toV=G x)(ha:x.isAgg=O):GJ (EV [q] H) 1 (.ptr q 0) (.ref x):=by
 refine .inr (.inl ⟨q,0,[c],x,rfl,rfl,by grind[EV],fun j y hy=>?_⟩)
 have hc:x.cellsV=[x]:=by cases x<;>simp_all [V.cellsV,V.isAgg]
 rw[hc] at hy
 cases j with
 |zero=>simp at hy;subst hy;exact⟨ha,c,rfl,c,.same,hx⟩
 |succ j=>grind
noncomputable def TZ(q:Nat)(x:V)(ss:List Nat)(env:List D)(K:List D->Prop):Prop:=
 List.rec (motive:=fun _=>List D->Prop) (fun env=>K env) (fun s _ ih env=>FR env s fun d=>match d with
  |.ptr q' 0=>cond (Nat.beq q' q) (CZ env s (.v (.ref x)) ih) False
  |_=>False) ss env
theorem Qh{L:Nat->Option (List D)}{q:Nat}{x:V}(hl:GJ L 1 (.ptr q 0) (.ref x)){K:List D->Prop}{env0:List D}:∀{ss:List Nat} {env:List D},Fz L env0 env->(∀t:Nat,env[t]?=env0[t]?∨env[t]?=G (bt (.ref x)))->TZ q x ss env K->∃env',K env'/\Fz L env0 env'
 |[],env,hz,_,h=>⟨env,h,hz⟩
 |s::ss,env,hz,hi,h=>by
  have e:TZ q x (s::ss) env K=FR env s fun d=>match d with
   |.ptr q' 0=>cond (Nat.beq q' q) (CZ env s (.v (.ref x)) fun env=>TZ q x ss env K) False
   |_=>False:=rfl
  rw[e,DI] at h
  split at h
  ·rename_i q' hd
   obtain⟨h1,h2⟩:=Av h
   have:=I7 h1;subst this
   rw[BH] at h2
   have hs:=getD_some hd (by simp)
   have hs0:env0[s]?=G (.ptr q' 0):=by
    rcases hi s with h3|h3
    ·rw[←h3];exact hs
    ·rw[hs] at h3;simp at h3
   refine Qh hl (OY hz hs0 hl) (fun t=>?_) h2
   rw[List.getElem?_set]
   split
   ·rename_i e;subst e
    rw[I4 (HN.1 hs).1];exact .inr rfl
   ·exact hi t
  ·exact h.elim
noncomputable def de(r i:Nat)(s:Sc)(env:List D)(σ:St)(K:Sc->List D->St->Prop):Prop:=
 Sc.rec (motive:=fun _=>List D->St->Prop)
  (fun env σ=>K .z env σ)
  (fun _ ih env σ=>∃a,ih a env σ)
  (fun s t _ _ env σ=>K (.b s t) env σ)
  (fun h s ih env σ=>match h with
   |.q r' i'=>cond (Nat.beq r r'&&Nat.beq i i') (ih env σ) (K (.h (.q r' i') s) env σ)
   |.un t=>FR env t fun d=>match d with
    |.acc _ xs=>CZ env t (.v (.list xs)) fun env=>ih env σ
    |.rv x _=>CZ env t (.v x) fun env=>ih env σ
    |_=>False
   |.ga t=>FR env t fun d=>match d with
    |.gro q n _=>CZ env t (.arr q 0 n) fun env=>ih env σ
    |_=>False
   |.fa q ss=>match σ.H[q]? with
    |some (some cs)=>(match DM cs with
     |some xs=>cond (xs.all fun x=> !x.isAgg) (TZ q (.agg xs) ss env fun env=>CZ σ.H q none fun H=>ih env ⟨H,σ.own⟩) False
     |none=>False)
    |_=>False
   |.f1 q ss=>match σ.H[q]? with
    |some (some [c])=>(match c.toV with
     |some x=>cond (!x.isAgg) (TZ q x ss env fun env=>CZ σ.H q none fun H=>ih env ⟨H,σ.own⟩) False
     |none=>False)
    |_=>False
   |.cl q j k sz=>match σ.H[q]? with
    |some (some cs)=>(match cs[j]? with
     |some (.v .nils)=>cond (EX σ.own k&&Nat.blt 0 sz) (CZ cs j (.acc k []) fun cs=>CZ σ.H q (G cs) fun H=>ih env ⟨H,(k,sz,[])::σ.own⟩) False
     |_=>False)
    |_=>False
   |.nw t k sz=>FR env t fun d=>match d with
    |.v .nils=>cond (EX σ.own k&&Nat.blt 0 sz) (CZ env t (.acc k []) fun env=>ih env ⟨σ.H,(k,sz,[])::σ.own⟩) False
    |_=>False
   |.cs σ'=>(B3 σ.H fun H=>B3 σ.own fun own=>∀e:List D,Cv e ⟨H,own⟩ e σ')/\ih env σ'
   |.ct t d σ'=>FR env t fun d0=>match d0 with
    |.undef=>False
    |d0=>(∀e:List D,e[t]?=G d0->Cv e σ (e.set t d) σ')/\CZ env t d fun env=>ih env σ'
   |h=>K (.h h s) env σ) s env σ
theorem ArW{env:List D}{σ:St}{t:Nat}{x:V}{u:yz}(ht:env[t]?=G (.rv x u)):Cv env σ (env.set t (.v x)) σ:=fun E g a w hf=>by
 obtain⟨v,hv,hr⟩:=B7 hf.env ht
 simp only[Ah] at hr
 refine⟨g,hf.wi,?_,hf.defers⟩
 have:=CB hf.env t (d:=.v x) (u:=v) (by grind[Ah])
 grind[D4]
theorem ApC{env:List D}{σ:St}{t k sz:Nat}(ht:env[t]?=G (.v .nils))(hk:∀x∈σ.own,x.1≠k)(hsz:0<sz):Cv env σ (env.set t (.acc k [])) ⟨σ.H,(k,sz,[])::σ.own⟩:=fun E g a w hf=>by
 obtain⟨hw1,hle1⟩:=hf.wi.addOwn (k:=k) (sz:=sz) (xs:=[]) (u:=.slice none 0 0) hk ⟨hsz,by simp⟩ (E2 _) (.inl ⟨none,rfl⟩) (fun b hb=>by grind[Co])
 obtain⟨u,hu,hr⟩:=B7 hf.env ht
 simp only[Ah,Dm] at hr
 subst hr
 refine⟨_,hw1,?_,hf.defers⟩
 have:=CB (Ag.mono hle1 _ _ hf.env) t (d:=.acc k []) (u:=.slice none 0 0) (by grind[Ah,E2])
 grind[D4]
theorem Ait{env:List D}{σ:St}{q t:Nat}{xs:List V}(hq:σ.H[q]?=G (G (xs.map .v)))(ht:env[t]?=G (.arr q 0 (I xs))):Cv env σ (env.set t (.v (.list xs))) ⟨σ.H.set q none,σ.own⟩:=fun E g a w hf=>by
 have hone:∀x∈xs,x.isAgg=O:=fun x hx=>by
  obtain⟨_,_,_,_,_,h1,_⟩:=hf.wi.rep.obj q _ hq
  have:=h1 (.v x) (IQ.2 ⟨x,hx,rfl⟩)
  grind[D.one]
 have hfl:xs.flatMap V.cellsV=xs:=by
  clear hq ht hf
  induction xs with
  |nil=>rfl
  |cons x xs ih=>
   have hx:=hone x (by simp)
   have hc:x.cellsV=[x]:=by cases x<;>simp_all [V.cellsV,V.isAgg]
   grind
 have hz:Fz (EV [q] σ.H) env (env.set t (.v (.list xs))):=by
  refine OY (n:=1) (Fz.refl env) ht (.inr (.inr ⟨q,0,1,xs.map .v,xs,.inl rfl,rfl,by omega,fun y hy=>?_,by grind[EV],fun j y hy=>?_⟩))
  ·have:=hone y hy;cases y<;>simp_all [V.size,V.isAgg]
  ·rw[hfl] at hy
   exact⟨hone y (HQ hy),.v y,by grind,.v y,.same,rfl⟩
 obtain⟨g',hf'⟩:=SQ [q] hz E g a w hf
 grind[NC]
theorem RZ{r i:Nat}{K:Sc->List D->St->Prop}:∀{s:Sc} {env:List D} {σ:St},de r i s env σ K->∃s' env' σ',K s' env' σ'/\Cv env σ env' σ'/\env'.length=I env
 |.z,env,σ,h=>⟨_,_,_,h,Oa,rfl⟩
 |.e f,env,σ,h=>by
  obtain⟨a,h⟩:=(h:∃a,de r i (f a) env σ K)
  exact RZ h
 |.b s t,env,σ,h=>⟨_,_,_,h,Oa,rfl⟩
 |.h hh s,env,σ,h=>by
  have tr:∀{env1:List D} {σ1:St},Cv env σ env1 σ1->I env1=I env->de r i s env1 σ1 K->∃s' env' σ',K s' env' σ'/\Cv env σ env' σ'/\env'.length=I env:=by
   intro env1 σ1 hc hl hp
   obtain⟨s',env',σ',h1,h2,h3⟩:=RZ hp
   exact⟨s',env',σ',h1,fun E g a w hf=>by obtain⟨g1,hf1⟩:=hc E g a w hf;exact h2 E g1 a w hf1,h3.trans hl⟩
  cases hh with
  |q r' i'=>
   have h':cond (Nat.beq r r'&&Nat.beq i i') (de r i s env σ K) (K (.h (.q r' i') s) env σ):=h
   cases hb:(Nat.beq r r'&&Nat.beq i i') with
   |true=>rw[hb] at h';exact tr Oa rfl h'
   |false=>rw[hb] at h';exact⟨_,_,_,h',Oa,rfl⟩
  |un t=>
   have h':FR env t fun d=>match d with
    |.acc _ xs=>CZ env t (.v (.list xs)) fun env=>de r i s env σ K
    |.rv x _=>CZ env t (.v x) fun env=>de r i s env σ K
    |_=>False:=h
   rw[DI] at h'
   split at h'
   ·rename_i k xs hd
    rw[BH] at h'
    exact tr (AjU (DSL.set (getD_some hd (by simp)) .acc)) (by simp) h'
   ·rename_i x u hd
    rw[BH] at h'
    exact tr (ArW (getD_some hd (by simp))) (by simp) h'
   ·exact h'.elim
  |ga t=>
   have h':FR env t fun d=>match d with
    |.gro q n _=>CZ env t (.arr q 0 n) fun env=>de r i s env σ K
    |_=>False:=h
   rw[DI] at h'
   split at h'
   ·rename_i q n sz hd
    rw[BH] at h'
    exact tr (AjU (DSL.set (getD_some hd (by simp)) .gro)) (by simp) h'
   ·exact h'.elim
  |fa q ss=>
   have h':match σ.H[q]? with
    |some (some cs)=>(match DM cs with
     |some xs=>cond (xs.all fun x=> !x.isAgg) (TZ q (.agg xs) ss env fun env=>CZ σ.H q none fun H=>de r i s env ⟨H,σ.own⟩ K) False
     |none=>False)
    |_=>False:=h
   split at h'
   ·rename_i cs hq
    split at h'
    ·rename_i xs hx
     obtain⟨h1,h2⟩:=Av h'
     obtain⟨env',h3,h4⟩:=Qh (env0:=env) (Ah8 hq hx h1) (Fz.refl env) (fun t=>.inl rfl) h2
     rw[BH] at h3
     have hl:I env'=I env:=by
      have:∀{a b:List D} {L},Fz L a b->I b=I a:=by
       intro a b L hz;induction hz<;>simp_all
      exact this h4
     exact tr (by have:=SQ [q] h4;simpa[NC] using this) hl h3
    ·exact h'.elim
   ·exact h'.elim
  |f1 q ss=>
   have h':match σ.H[q]? with
    |some (some [c])=>(match c.toV with
     |some x=>cond (!x.isAgg) (TZ q x ss env fun env=>CZ σ.H q none fun H=>de r i s env ⟨H,σ.own⟩ K) False
     |none=>False)
    |_=>False:=h
   split at h'
   ·rename_i c hq
    split at h'
    ·rename_i x hx
     obtain⟨h1,h2⟩:=Av h'
     obtain⟨env',h3,h4⟩:=Qh (env0:=env) (Ah6 hq hx (by simpa using h1)) (Fz.refl env) (fun t=>.inl rfl) h2
     rw[BH] at h3
     have hl:I env'=I env:=by
      have:∀{a b:List D} {L},Fz L a b->I b=I a:=by
       intro a b L hz;induction hz<;>simp_all
      exact this h4
     exact tr (by have:=SQ [q] h4;simpa[NC] using this) hl h3
    ·exact h'.elim
   ·exact h'.elim
  |cl q j k sz=>
   have h':match σ.H[q]? with
    |some (some cs)=>(match cs[j]? with
     |some (.v .nils)=>cond (EX σ.own k&&Nat.blt 0 sz) (CZ cs j (.acc k []) fun cs=>CZ σ.H q (G cs) fun H=>de r i s env ⟨H,(k,sz,[])::σ.own⟩ K) False
     |_=>False)
    |_=>False:=h
   split at h'
   ·rename_i cs hq
    split at h'
    ·rename_i hj
     obtain⟨h1,h2⟩:=Av h'
     rw[HL] at h1
     rw[BH,BH] at h2
     exact tr (Aiu q j k sz hq hj (CU h1.1) (IC h1.2)) rfl h2
    ·exact h'.elim
   ·exact h'.elim
  |nw t k sz=>
   have h':FR env t fun d=>match d with
    |.v .nils=>cond (EX σ.own k&&Nat.blt 0 sz) (CZ env t (.acc k []) fun env=>de r i s env ⟨σ.H,(k,sz,[])::σ.own⟩ K) False
    |_=>False:=h
   rw[DI] at h'
   split at h'
   ·rename_i hd
    obtain⟨h1,h2⟩:=Av h'
    rw[HL] at h1
    rw[BH] at h2
    exact tr (ApC (getD_some hd (by simp)) (CU h1.1) (IC h1.2)) (by simp) h2
   ·exact h'.elim
  |cs σ'=>
   obtain⟨h1,h2⟩:=(h:(B3 σ.H fun H=>B3 σ.own fun own=>∀e:List D,Cv e ⟨H,own⟩ e σ')/\de r i s env σ' K)
   rw[AX,AX] at h1
   exact tr (h1 env) rfl h2
  |ct t d σ'=>
   have h':FR env t fun d0=>match d0 with
    |.undef=>False
    |d0=>(∀e:List D,e[t]?=G d0->Cv e σ (e.set t d) σ')/\CZ env t d fun env=>de r i s env σ' K:=h
   rw[DI] at h'
   split at h'
   ·exact h'.elim
   ·rename_i hne
    rw[BH] at h'
    exact tr (h'.1 env (getD_some rfl (fun e=>hne e))) (by simp) h'.2
  |_=>exact⟨_,_,_,h,Oa,rfl⟩
noncomputable def qc(env:List D)(t:Option Nat)(b:Bool)(K:List D->Prop):Prop:=match t with
 |some t=>CZ env t (.v (.bool b)) K
 |none=>K env
noncomputable def AfA(s:Sc)(b:Bool)(t:Option Nat)(env:List D)(K:Bool->Sc->List D->Prop):Prop:=match s with
 |.b s1 s2=>(b=J->qc env t true fun env=>K true s1 env)/\(b=O->qc env t false fun env=>K false s2 env)
 |.h .t s=>b=J/\qc env t true fun env=>K true s env
 |.h .f s=>b=O/\qc env t false fun env=>K false s env
 |.h .k s=>K b s env
 |s=>K b s env
theorem Agt{env:List D}{t:Nat}{b:Bool}(h:env[t]?=G (.v (.bool b))):env.set t (.v (.bool b))=env:=D4 h
theorem VJ{s:Sc}{b:Bool}{t:Option Nat}{env:List D}{K:Bool->Sc->List D->Prop}(h:AfA s b t env K)(ht:∀t',t=G t'->env[t']?=G (.v (.bool b))):∃s',K b s' env:=by
 have up:∀{b':Bool} {K':List D->Prop},b=b'->qc env t b' K'->K' env:=by
  intro b' K' e hu
  subst e
  cases t<;>grind[qc,BH,Agt]
 unfold AfA at h
 split at h
 ·cases b<;>grind
 ·grind
 all_goals grind
noncomputable def AnA(ops:Array yy)(i j:Nat):Bool:=(ops.toList.take i).any fun o=>match o.guard with
 |some (j',_)=>Nat.beq j' j
 |none=>false
noncomputable def HF(ops:Array yy)(i:Nat)(o:yy)(s:Sc)(env:List D)(K:Bool->Sc->List D->Prop):Prop:=match o.guard with
 |none=>K true s env
 |some (j,want)=>match (ops[j]?).bind (·.dst) with
  |some t=>FR env t fun d=>match d with
   |.v (.bool b)=>Bool.rec (AfA s b (G t) env fun b s env=>K (b==want) s env) (K (b==want) s env) (AnA ops i j)
   |.tup _=>K false s env
   |_=>False
  |none=>False
theorem MH{ops:Array yy}{i:Nat}{o:yy}{s:Sc}{env:List D}{K:Bool->Sc->List D->Prop}(h:HF ops i o s env K):∃b s',K b s' env/\Ci env ops o=G b:=by
 unfold HF at h
 unfold Ci
 split at h
 ·grind
 ·rename_i j want hg
  split at h
  ·rename_i t hj
   rw[DI] at h
   split at h
   ·rename_i b hd
    have ht:=getD_some hd (by simp)
    cases hs:AnA ops i j with
    |true=>rw[hs] at h;grind
    |false=>
     rw[hs] at h
     grind[VJ]
   all_goals grind
  grind
noncomputable def XJ(env:List D)(sl:List (Nat×Option D))(K:List (Nat×D)->Prop):Prop:=
 List.rec (motive:=fun _=>(List (Nat×D)->Prop)->Prop) (fun K=>K []) (fun p _ ih K=>FR env p.1 fun d0=>match p.2 with
  |none=>ih fun L=>K ((p.1,d0)::L)
  |some d=>d0=d/\ih fun L=>K ((p.1,d)::L)) sl K
theorem Mr{env:List D}:∀{sl:List (Nat×Option D)} {K:List (Nat×D)->Prop},XJ env sl K->∃L,K L/\∀p∈L,env.getD p.1 .undef=p.2
 |[],K,h=>⟨[],h,by simp⟩
 |(t,o)::sl,K,h=>by
  have h':FR env t fun d0=>match (generalizing:=false) o with
   |none=>XJ env sl fun L=>K ((t,d0)::L)
   |some d=>d0=d/\XJ env sl fun L=>K ((t,d)::L):=h
  rw[DI] at h'
  cases o with
  |none=>
   obtain⟨L,h1,h2⟩:=Mr h'
   refine⟨_,h1,fun p hp=>?_⟩
   rcases IN.1 hp with rfl|hp
   ·rfl
   ·exact h2 p hp
  |some d=>
   obtain⟨L,h1,h2⟩:=Mr h'.2
   refine⟨_,h1,fun p hp=>?_⟩
   rcases IN.1 hp with rfl|hp
   ·exact h'.1
   ·exact h2 p hp
theorem DA:∀(L:List (Nat×D)) (e:List D),I (L.foldl (fun e p=>e.set p.1 p.2) e)=I e
 |[],e=>rfl
 |p::L,e=>by rw[J3,DA L];simp
theorem AcF{env:List D}:∀{L:List (Nat×D)} {e:List D},(∀p∈L,env.getD p.1 .undef=p.2)->I e=I env->(∀(i:Nat) (d:D),e[i]?=G d->d=.undef∨env[i]?=G d)->∀(i:Nat) (d:D),(L.foldl (fun e p=>e.set p.1 p.2) e)[i]?=G d->d=.undef∨env[i]?=G d
 |[],e,_,_,h,i,d,hd=>h i d hd
 |p::L,e,hL,hl,h,i,d,hd=>by
  refine AcF (L:=L) (e:=e.set p.1 p.2) (fun q hq=>hL q (List.mem_cons_of_mem _ hq)) (by simp[hl]) (fun i d hd=>?_) i d hd
  rw[List.getElem?_set] at hd
  split at hd
  ·rename_i e1;subst e1
   split at hd
   ·rename_i hlt
    simp at hd;subst hd
    refine .inr ?_
    have:=hL p (List.mem_cons_self)
    rw[HS] at this
    rw[HK (by omega)] at this⊢
    simpa using this
   ·simp at hd
  ·exact h i d hd
theorem OS{env:List D}{nt:Nat}{L:List (Nat×D)}(hn:I env=nt)(h2:∀p∈L,env.getD p.1 .undef=p.2):I (cz nt L)=I env/\∀(i:Nat) (d:D),(cz nt L)[i]?=G d->d=.undef∨env[i]?=G d:=
 by grind[cz,DA,AcF]
noncomputable def ZK(P:x7)(im:List Nat)(r:Nat)(ops:Array yy)(Z:List yy->List (Nat×D)->St->Prop)(L:List yy)(i:Nat)(s:Sc)(env:List D)(σ:St)(K:Sc->List D->St->Prop):Prop:=
 List.rec (motive:=fun _=>Nat->Sc->List D->St->Prop) (fun i s env σ=>de r i s env σ K)
  (fun o L ih i s env σ=>de r i s env σ fun s env σ=>match s with
   |.h (.s sl) _=>XJ env sl fun sl=>Z (o::L) sl σ
   |s=>HF ops i o s env fun b s env=>
    Bool.rec (DP env o.dst (.tup []) fun env=>ih (Nat.succ i) s env σ)
     (WU env o.op.operands.toList fun ds=>jg P im o ds σ s fun s d σ _=>DP env o.dst d fun env=>ih (Nat.succ i) s env σ) b) L i s env σ
def BS(C:c9->c9->Prop)(P:x7)(R:List D->St->Prop)(k:List KI)(ops:Array yy)(L:List yy)(env:List D)(σ:St):Prop:=
 ∀(E0 E:c9) (g:Gh) (a:Act) (w:x5) (B:Exit->Act->x5->Prop),C E0 E->FI E g σ env a w->
  (∀g' env' σ' a' w',FI E0 g' σ' env' a' w'->R env' σ'->B .ret a' w'/\B .normal a' w')->wpList P ops (KQ P B k) L a w
section
variable {C : c9 -> c9 -> Prop} {P : x7} {R : List D -> St -> Prop} {k : List KI}
theorem BS.cv{ops:Array yy}{L:List yy}{env env':List D}{σ σ':St}(h:Cv env σ env' σ')(hk:BS C P R k ops L env' σ'):BS C P R k ops L env σ:=fun E0 E g a w B hC hf hB=>by
 obtain⟨g',hf'⟩:=h E g a w hf
 exact hk E0 E g' a w B hC hf' hB
theorem BS.forget{ops:Array yy}{L:List yy}{env env':List D}{σ:St}(h:I env'=I env/\∀(i:Nat) (d:D),env'[i]?=G d->d=.undef∨env[i]?=G d)(hk:BS C P R k ops L env' σ):BS C P R k ops L env σ:=fun E0 E g a w B hC hf hB=>
 hk E0 E g a w B hC ⟨hf.wi,FM hf.env h.1 h.2,hf.defers⟩ hB
theorem BS.op{ops:Array yy}{L:List yy}{o:yy}{env:List D}{σ σ':St}{d:D}(hg:Ci env ops o=G true)(h:Ak P o (o.op.operands.toList.map (m8 env)) σ d σ')(hk:BS C P R k ops L (BD env o.dst d) σ'):BS C P R k ops (o::L) env σ:=fun E0 E g a w B hC hf hB=>by
 unfold wpList
 rw[I4 (CP hf.env hg)]
 refine .inl (h E g a w _ _ hf.wi (RR hf.wi.rep.gl hf.env _) fun g' w' u hw' hg' hd=>?_)
 exact hk E0 E g' _ _ B hC (hf.put hw' hg' hd o.dst) hB
theorem BS.skip{ops:Array yy}{L:List yy}{o:yy}{env:List D}{σ:St}(hg:Ci env ops o=G false)(hk:BS C P R k ops L (BD env o.dst (.tup [])) σ):BS C P R k ops (o::L) env σ:=fun E0 E g a w B hC hf hB=>by
 unfold wpList
 rw[Iz (by rw[CP hf.env hg];simp)]
 exact hk E0 E g _ _ B hC (hf.put hf.wi g.le_refl (OI g) o.dst) hB
theorem PV{im:List Nat}{r:Nat}{ops:Array yy}{Z:List yy->List (Nat×D)->St->Prop}{K:Sc->List D->St->Prop}{n:Nat}(hZ:∀L sl σ,Z L sl σ->BS C P R k ops L (cz n sl) σ)(hK:∀s env σ,I env=n->K s env σ->A5 C P R k env σ):∀{L:List yy} {i:Nat} {s:Sc} {env:List D} {σ:St},I env=n->ZK P im r ops Z L i s env σ K->BS C P R k ops L env σ
 |[],i,s,env,σ,hl,h=>by
  obtain⟨s1,env1,σ1,h1,h2,h3⟩:=RZ (show de r i s env σ K from h)
  exact BS.cv h2 fun E0 E g a w B hC hf hB=>by
   unfold wpList;exact hK _ _ _ (h3.trans hl) h1 E0 E g a w B hC hf hB
 |o::L,i,s,env,σ,hl,h=>by
  have h':de r i s env σ fun s env σ=>match s with
   |.h (.s sl) _=>XJ env sl fun sl=>Z (o::L) sl σ
   |s=>HF ops i o s env fun b s env=>
    Bool.rec (DP env o.dst (.tup []) fun env=>ZK P im r ops Z L (Nat.succ i) s env σ K)
     (WU env o.op.operands.toList fun ds=>jg P im o ds σ s fun s d σ _=>DP env o.dst d fun env=>ZK P im r ops Z L (Nat.succ i) s env σ K) b:=h
  obtain⟨s1,env1,σ1,h1,h2,h3⟩:=RZ h'
  refine BS.cv h2 ?_
  have main:(HF ops i o s1 env1 fun b s env=>
    Bool.rec (DP env o.dst (.tup []) fun env=>ZK P im r ops Z L (Nat.succ i) s env σ1 K)
     (WU env o.op.operands.toList fun ds=>jg P im o ds σ1 s fun s d σ _=>DP env o.dst d fun env=>ZK P im r ops Z L (Nat.succ i) s env σ K) b)->BS C P R k ops (o::L) env1 σ1:=by
   intro h1
   obtain⟨b,s2,h4,h5⟩:=MH h1
   cases b with
   |false=>
    have h6:DP env1 o.dst (.tup []) fun env=>ZK P im r ops Z L (Nat.succ i) s2 env σ1 K:=h4
    rw[DR] at h6
    refine BS.skip h5 (PV hZ hK ?_ h6)
    cases o.dst<;>simp[BD,h3,hl]
   |true=>
    have h6:WU env1 o.op.operands.toList fun ds=>jg P im o ds σ1 s2 fun s d σ _=>DP env1 o.dst d fun env=>ZK P im r ops Z L (Nat.succ i) s env σ K:=h4
    rw[NW] at h6
    obtain⟨s3,d,σ3,kd,h7,h8⟩:=CQ h6
    rw[DR] at h7
    refine BS.op h5 h8.op (PV hZ hK ?_ h7)
    cases o.dst<;>simp[BD,h3,hl]
  grind[Mr,BS.forget,OS]
end
inductive DK where
 |q
 |l (j q off n:Nat)
 |e
def DK.eff:DK->Bool
 |.e=>true
 |_=>false
noncomputable def Ap6(rec:List DK)(j:Nat):Option Nat:=
 List.rec (motive:=fun _=>Nat->Nat->Option Nat) (fun _ _=>none) (fun d _ ih i j=>Bool.rec (ih (Nat.succ i) j) (Nat.rec (motive:=fun _=>Option Nat) (G i) (fun j _=>ih (Nat.succ i) j) j) d.eff) rec 0 j
noncomputable def Alz(ops:Array yy)(rec:List DK)(i j:Nat):Option Nat:=
 List.rec (motive:=fun _=>Nat->Option Nat) (fun _=>none) (fun _ _ ih j=>match Ap6 rec j with
  |none=>none
  |some e=>cond (((F8 [] ops.toList).getD e 0).testBit i) (G j) (ih (Nat.succ j))) rec j
noncomputable def ArT(lim:Nat->Nat->Option Nat)(i:Nat):DK->Ef
 |.q=>(false,none)
 |.l j _ _ _=>(false,lim i j)
 |.e=>(true,none)
noncomputable def QI(lim:Nat->Nat->Option Nat):Nat->List DK->List Ef
 |_,[]=>[]
 |i,d::ds=>ArT lim i d::QI lim (i+1) ds
noncomputable def Uk(q off n j:Nat)(c0:Option (List D))(lim:Option Nat)(sts:List St)(c:Nat):Prop:=
 List.rec (motive:=fun _=>Nat->Prop) (fun _=>True) (fun τ _ ih c=>Bool.rec
  (match lim with
   |some b=>Bool.rec (ih (Nat.succ c)) (Cl τ q off n=c0/\ih (Nat.succ c)) (Nat.ble c b)
   |none=>Cl τ q off n=c0/\ih (Nat.succ c)) (ih (Nat.succ c)) (Nat.beq c j)) sts c
theorem Wa{q off n j:Nat}{c0:Option (List D)}{lim:Option Nat}:∀{sts:List St} {c:Nat},Uk q off n j c0 lim sts c->∀x τ,sts[x]?=G τ->c+x≠j->(∀b,lim=G b->c+x<=b)->Cl τ q off n=c0
 |[],c,_,x,τ,hx,_,_=>by simp at hx
 |τ0::sts,c,h,x,τ,hx,hj,hb=>by
  have h':Bool.rec (match (generalizing:=false) lim with
   |some b=>Bool.rec (Uk q off n j c0 lim sts (Nat.succ c)) (Cl τ0 q off n=c0/\Uk q off n j c0 lim sts (Nat.succ c)) (Nat.ble c b)
   |none=>Cl τ0 q off n=c0/\Uk q off n j c0 lim sts (Nat.succ c)) (Uk q off n j c0 lim sts (Nat.succ c)) (Nat.beq c j):=h
  have rest:Uk q off n j c0 lim sts (Nat.succ c):=by
   cases h1:Nat.beq c j with
   |true=>rw[h1] at h';exact h'
   |false=>
    rw[h1] at h'
    simp only at h'
    cases lim with
    |none=>exact h'.2
    |some b=>
     simp only at h'
     cases h2:Nat.ble c b with
     |true=>rw[h2] at h';exact h'.2
     |false=>rw[h2] at h';exact h'
  cases x with
  |succ x=>exact Wa rest x τ (by simpa using hx) (by simp only[Nat.succ_eq_add_one];omega) (fun b e=>by have:=hb b e;simp only[Nat.succ_eq_add_one];omega)
  |zero=>
   simp at hx;subst hx
   have h1:Nat.beq c j=O:=by
    cases h1:Nat.beq c j with
    |false=>rfl
    |true=>exact absurd (I7 h1) (by simpa using hj)
   rw[h1] at h'
   simp only at h'
   cases lim with
   |none=>exact h'.1
   |some b=>
    have:Nat.ble c b=J:=Nat.ble_eq_true_of_le (by simpa using hb b rfl)
    simp only[this] at h'
    exact h'.1
noncomputable def Mc(lim:Nat->Nat->Option Nat)(sts:List St)(rec:List DK)(i:Nat):Prop:=
 List.rec (motive:=fun _=>Nat->Prop) (fun _=>True) (fun d _ ih i=>match d with
  |.l j q off n=>(match sts[j]? with
   |some τ=>Uk q off n j (Cl τ q off n) (lim i j) sts 0/\ih (Nat.succ i)
   |none=>False)
  |_=>ih (Nat.succ i)) rec i
def N9:List DK->Bool
 |[]=>true
 |.l .. ::_=>false
 |_::rec=>N9 rec
theorem LA{lim:Nat->Nat->Option Nat}{sts:List St}:∀{rec:List DK} {i:Nat},N9 rec=J->Mc lim sts rec i
 |[],_,_=>trivial
 |.q::rec,i,h=>LA (rec:=rec) (i:=i+1) h
 |.e::rec,i,h=>LA (rec:=rec) (i:=i+1) h
 |.l .. ::_,_,h=>by grind[N9]
noncomputable def q7(s:Sc)(K:Sc->Prop):Prop:=
 Sc.rec (motive:=fun _=>Prop) (K .z) (fun _ ih=>∃a,ih a) (fun s t _ _=>K (.b s t)) (fun h s _=>K (.h h s)) s
theorem AdF{K:Sc->Prop}:∀{s:Sc},q7 s K->∃s',K s'
 |.z,h=>⟨_,h⟩
 |.e f,h=>by obtain⟨a,h⟩:=(h:∃a,q7 (f a) K);exact AdF h
 |.b s t,h=>⟨_,h⟩
 |.h i s,h=>⟨_,h⟩
abbrev KD:=List DK->List St->Sc->List D->Prop
noncomputable def j2(P:x7)(im:List Nat)(ops:Array yy)(L:List yy)(rec:List DK)(sts:List St)(j:Nat)(s:Sc)(env:List D)(σ:St)(K:KD):Prop:=
 List.rec (motive:=fun _=>List DK->List St->Nat->Sc->List D->St->Prop) (fun rec sts _ s env _=>K rec sts s env)
  (fun o _ ih rec sts j s env σ=>q7 s fun s=>HF ops (I rec) o s env fun b s env=>
   Bool.rec (DP env o.dst (.tup []) fun env=>AS rec .q fun rec=>ih rec sts j s env σ)
    (WU env o.op.operands.toList fun ds=>jg P im o ds σ s fun s d σ' kd=>DP env o.dst d fun env=>match kd with
     |.pure=>AS rec .q fun rec=>ih rec sts j s env σ
     |.load q off n=>AS rec (.l j q off n) fun rec=>ih rec sts j s env σ
     |.eff=>AS rec .e fun rec=>AS sts σ' fun sts=>ih rec sts (Nat.succ j) s env σ') b) L rec sts j s env σ
noncomputable def Anq(P:x7)(im:List Nat)(ops:Array yy)(s:Sc)(env:List D)(σ:St)(K:Sc->List D->St->Prop):Prop:=
 cond (Nat.blt ops.size 1000000) (j2 P im ops ops.toList [] [σ] 0 s env σ fun rec sts s env=>
  cond (Mf ops (QI (Alz ops rec) 0 rec)) (match sts.getLast? with
   |some σ=>Bool.rec (Mc (Alz ops rec) sts rec 0/\K s env σ) (K s env σ) (N9 rec)
   |none=>False) False) False
theorem GI{lim:Nat->Nat->Option Nat}{sts:List St}{d:DK}{rec:List DK}{i:Nat}(h:Mc lim sts (d::rec) i):Mc lim sts rec (i+1):=by
 grind[Mc]
theorem Dh{P:x7}{o:yy}{env:List D}{σ σ':St}{d:D}(h:Ak P o (o.op.operands.toList.map (m8 env)) σ d σ'):Ak P o (Ff env o) σ d σ':=by
 intro E g a w K Q hw hds hK
 refine h E g a w K Q hw ?_ hK
 unfold Ff at hds
 generalize o.op.operands.toList=l at hds⊢
 induction l with
 |nil=>rfl
 |cons x l ih=>
  simp only[I9,Ag] at hds⊢
  obtain⟨u,us,e,h1,h2⟩:=hds
  simp only[HX] at e
  obtain⟨rfl,rfl⟩:=e
  refine⟨_,_,rfl,?_,ih h2⟩
  cases x with
  |const u=>exact W7
  |_=>exact h1
theorem R2{P:x7}{im:List Nat}{ops:Array yy}{n:Nat}{K:KD}(hops:ops.size<1000000):∀{L:List yy} {rec:List DK} {sts:List St} {j:Nat} {s:Sc} {env:List D} {σ:St},I env=n->I sts=j+1->sts[j]?=G σ->j2 P im ops L rec sts j s env σ K->
  ∃rec' sts' s' env' σ',K (rec++rec') (sts++sts') s' env'/\env'.length=n/\rec'.length=I L/\(sts++sts')[j+I sts']?=G σ'/\
   ∀lim:Nat->Nat->Option Nat,Mc lim (sts++sts') rec' (I rec)->∃vals,Hh P ops (fun _=>sts++sts') 1000000 L env j vals (QI lim (I rec) rec') env' (j+I sts')
 |[],rec,sts,j,s,env,σ,hn,hl,hs,h=>by
  refine⟨[],[],s,env,σ,?_,hn,rfl,by grind,fun lim _=>⟨[],.nil⟩⟩
  have h':K rec sts s env:=h
  grind
 |o::L,rec,sts,j,s,env,σ,hn,hl,hs,h=>by
  have h':q7 s fun s=>HF ops (I rec) o s env fun b s env=>
   Bool.rec (DP env o.dst (.tup []) fun env=>AS rec .q fun rec=>j2 P im ops L rec sts j s env σ K)
    (WU env o.op.operands.toList fun ds=>jg P im o ds σ s fun s d σ' kd=>DP env o.dst d fun env=>match kd with
     |.pure=>AS rec .q fun rec=>j2 P im ops L rec sts j s env σ K
     |.load q off n=>AS rec (.l j q off n) fun rec=>j2 P im ops L rec sts j s env σ K
     |.eff=>AS rec .e fun rec=>AS sts σ' fun sts=>j2 P im ops L rec sts (Nat.succ j) s env σ' K) b:=h
  have hne:ops.size- (I L+1)≠1000000:=by omega
  have hput:∀(d:D),I (BD env o.dst d)=n:=fun d=>by cases o.dst<;>simp[BD,hn]
  obtain⟨s0,h'⟩:=AdF h'
  obtain⟨b,s1,h1,h2⟩:=MH h'
  cases b with
  |false=>
   have h3:DP env o.dst (.tup []) fun env=>AS rec .q fun rec=>j2 P im ops L rec sts j s1 env σ K:=h1
   rw[DR,AQ] at h3
   obtain⟨rec',sts',s',env',σ',k1,k2,k3,k4,k5⟩:=R2 hops (hput _) hl hs h3
   refine⟨.q::rec',sts',s',env',σ',by grind,k2,by grind,k4,fun lim hlo=>?_⟩
   obtain⟨vals,hv⟩:=k5 lim (by have:=GI hlo;grind)
   refine⟨_,.skip hne h2 (by simpa[QI] using hv)⟩
  |true=>
   have h3:WU env o.op.operands.toList fun ds=>jg P im o ds σ s1 fun s d σ' kd=>DP env o.dst d fun env=>match kd with
     |.pure=>AS rec .q fun rec=>j2 P im ops L rec sts j s env σ K
     |.load q off n=>AS rec (.l j q off n) fun rec=>j2 P im ops L rec sts j s env σ K
     |.eff=>AS rec .e fun rec=>AS sts σ' fun sts=>j2 P im ops L rec sts (Nat.succ j) s env σ' K:=h1
   rw[NW] at h3
   obtain⟨s2,d,σ2,kd,h4,h5⟩:=CQ h3
   rw[DR] at h4
   have hidx:ops.size- (I L+1)≠1000000:=hne
   cases kd with
   |pure=>
    have h6:AS rec .q fun rec=>j2 P im ops L rec sts j s2 (BD env o.dst d) σ K:=h4
    rw[AQ] at h6
    obtain⟨rec',sts',s',env',σ',k1,k2,k3,k4,k5⟩:=R2 hops (hput _) hl hs h6
    refine⟨.q::rec',sts',s',env',σ',by grind,k2,by grind,k4,fun lim hlo=>?_⟩
    obtain⟨vals,hv⟩:=k5 lim (by have:=GI hlo;grind)
    exact⟨_,.quiet hne h2 (fun _ τ _=>Dh (h5.2 τ)) (by simpa[QI] using hv)⟩
   |load q off m=>
    have h6:AS rec (.l j q off m) fun rec=>j2 P im ops L rec sts j s2 (BD env o.dst d) σ K:=h4
    rw[AQ] at h6
    obtain⟨rec',sts',s',env',σ',k1,k2,k3,k4,k5⟩:=R2 hops (hput _) hl hs h6
    refine⟨.l j q off m::rec',sts',s',env',σ',by grind,k2,by grind,k4,fun lim hlo=>?_⟩
    obtain⟨vals,hv⟩:=k5 lim (by have:=GI hlo;grind)
    have hv':Hh P ops (fun _=>sts++sts') 1000000 L (BD env o.dst d) j vals (QI lim (I rec+1) rec') env' (j+I sts'):=by grind
    have hjs:(sts++sts')[j]?=G σ:=by grind
    have hsame:∀x τ,(sts++sts')[x]?=G τ->(∀b,lim (I rec) j=G b->x<=b)->Ak P o (Ff env o) τ d τ:=by
     intro x τ hx hb
     refine Dh (h5.2.2 τ ?_)
     grind[Mc,Wa]
    cases hlim:lim (I rec) j with
    |none=>
     refine⟨d::vals,?_⟩
     simp only[QI,ArT,hlim]
     refine .quiet hne h2 (fun _ τ hτ=>?_) hv'
     grind[List.getElem?_of_mem]
    |some b=>
     refine⟨d::vals,?_⟩
     simp only[QI,ArT,hlim]
     exact .quietW b hne h2 (fun _ c τ hc hτ=>hsame c τ hτ (fun b' hb=>by grind)) hv'
   |eff=>
    have h6:AS rec .e fun rec=>AS sts σ2 fun sts=>j2 P im ops L rec sts (Nat.succ j) s2 (BD env o.dst d) σ2 K:=h4
    rw[AQ,AQ] at h6
    obtain⟨rec',sts',s',env',σ',k1,k2,k3,k4,k5⟩:=R2 hops (hput _) (by grind) (by grind) h6
    refine⟨.e::rec',σ2::sts',s',env',σ',by grind,k2,by grind,?_,fun lim hlo=>?_⟩
    ·have e:j+I (σ2::sts')=Nat.succ j+I sts':=by grind
     simp_all
    ·obtain⟨vals,hv⟩:=k5 lim (by have:=GI hlo;grind)
     have hv':Hh P ops (fun _=>sts++σ2::sts') 1000000 L (BD env o.dst d) (j+1) vals (QI lim (I rec+1) rec') env' (j+I (σ2::sts')):=by
      grind
     refine⟨_,.eff hne h2 (fun _ τ hτ _=>⟨σ2,?_,?_⟩) hv'⟩
     ·grind
     ·rw[I5 (by omega),hs] at hτ
      simp at hτ;subst hτ
      exact Dh h5
theorem Af7{C:c9->c9->Prop}{P:x7}{R:List D->St->Prop}{k:List KI}(hm:P.follows .mixedOrders=J){im:List Nat}{id:Nat}{ops:Array yy}{s:Sc}{env:List D}{σ:St}{n:Nat}{K:Sc->List D->St->Prop}(hn:I env=n)
  (hK:∀s env σ,I env=n->K s env σ->A5 C P R k env σ) (h:Anq P im ops s env σ K):A5 C P R (.code (.region id ops true)::k) env σ:=by
 obtain⟨h1,h2⟩:=Av h
 have hops:ops.size<1000000:=IC h1
 obtain⟨rec,sts,s',env',σ',k1,k2,k3,k4,k5⟩:=R2 hops hn (by simp) (by simp) h2
 obtain⟨h3,h5⟩:=Av k1
 simp only[List.nil_append] at h3 h5
 simp only[IT] at k4
 split at h5
 ·rename_i τ hτ
  have h6:Mc (Alz ops rec) ([σ]++sts) rec 0/\K s' env' τ:=by
   cases hb:N9 rec with
   |true=>rw[hb] at h5;grind[LA]
   |false=>simp_all
  grind[KH]
 grind
structure Ld where
 q:Nat
 off:Nat
 n:Nat
 c:Option (List D)
noncomputable def Rc(q off n:Nat)(c0:Option (List D))(sts:List St):Prop:=List.rec (motive:=fun _=>Prop) True (fun τ _ ih=>Cl τ q off n=c0/\ih) sts
theorem PH{q off n:Nat}{c0:Option (List D)}:∀{sts:List St},Rc q off n c0 sts->∀τ∈sts,Cl τ q off n=c0
 |[],_,τ,h=>absurd h (by simp)
 |σ::sts,h,τ,hτ=>by
  have h':Cl σ q off n=c0/\Rc q off n c0 sts:=h
  rcases IN.1 hτ with rfl|hτ
  ·exact h'.1
  ·exact PH h'.2 τ hτ
noncomputable def xd(sts:List St)(l:List Ld):Prop:=List.rec (motive:=fun _=>Prop) True (fun x _ ih=>Rc x.q x.off x.n x.c sts/\ih) l
theorem US{sts:List St}:∀{l:List Ld},xd sts l->∀x∈l,∀τ∈sts,Cl τ x.q x.off x.n=x.c
 |[],_,x,h=>absurd h (by simp)
 |y::l,h,x,hx=>by
  have h':Rc y.q y.off y.n y.c sts/\xd sts l:=h
  rcases IN.1 hx with rfl|hx
  ·exact PH h'.1
  ·exact US h'.2 x hx
def XC(cs:List D)(τ:St):St:=⟨τ.H++[G cs],τ.own⟩
def nk(ad τ:St):St:=⟨τ.H++ad.H,ad.own++τ.own⟩
noncomputable def AiW(f:St->Prop)(l:List St):Prop:=List.rec (motive:=fun _=>Prop) True (fun τ _ p=>f τ/\p) l
theorem Xx{f:St->Prop}:∀{l:List St},AiW f l->∀τ∈l,f τ
 |[],_,τ,h=>by simp at h
 |x::l,h,τ,hτ=>by
  have h:f x/\AiW f l:=h
  rcases IN.1 hτ with rfl|hτ
  ·exact h.1
  ·exact Xx h.2 τ hτ
abbrev KD2:=List St->List St->List Ld->List Ef->Sc->List D->Prop
noncomputable def ld(P:x7)(im:List Nat)(ops:Array yy)(fr:Nat)(ad:St)(K:KD2)(L:List yy):Nat->Bool->(St->St->Prop)->List St->List St->List Ld->List Ef->Sc->List D->St->St->Prop:=
 List.rec (motive:=fun _=>Nat->Bool->(St->St->Prop)->List St->List St->List Ld->List Ef->Sc->List D->St->St->Prop) (fun _ _ _ LF LT lds ef s env _ _=>K LF LT lds ef s env)
  (fun o _ ih i af pd LF LT lds ef s env σF σT=>q7 s fun s=>HF ops i o s env fun b s env=>
   Bool.rec
    (Bool.rec (DP env o.dst (.tup []) fun env=>AS ef (false,none) fun ef=>ih (Nat.succ i) af pd LF LT lds ef s env σF σT) False (Nat.beq i fr))
    (Bool.rec
     (WU env o.op.operands.toList fun ds=>jg P im o ds (Bool.rec σF σT af) s fun s1 d σ1 kd=>match kd with
      |.pure=>DP env o.dst d fun env=>AS ef (false,none) fun ef=>ih (Nat.succ i) af pd LF LT lds ef s1 env σF σT
      |.load q off n=>DP env o.dst d fun env=>AS ef (false,none) fun ef=>AS lds ⟨q,off,n,Cl (Bool.rec σF σT af) q off n⟩ fun lds=>ih (Nat.succ i) af pd LF LT lds ef s1 env σF σT
      |.eff=>Bool.rec
       (jg P im o ds σT s fun _ d2 σ2 kd2=>match kd2 with
        |.eff=>d2=d/\DP env o.dst d fun env=>AS ef (true,none) fun ef=>AS LF σ1 fun LF=>AS LT σ2 fun LT=>ih (Nat.succ i) af pd LF LT lds ef s1 env σ1 σ2
        |_=>False)
       (cond (Yz ops i fr) (DP env o.dst d fun env=>AS ef (true,none) fun ef=>AS LT σ1 fun LT=>ih (Nat.succ i) af pd LF LT lds ef s1 env σF σ1)
        (cond (Nat.beq (I LF) (I LT)) (jg P im o ds σF s fun _ d2 σ2 kd2=>match kd2 with
         |.eff=>d2=d/\pd σ2 σ1/\DP env o.dst d fun env=>AS ef (true,none) fun ef=>AS LF σ2 fun LF=>AS LT σ1 fun LT=>ih (Nat.succ i) af pd LF LT lds ef s1 env σ2 σ1
         |_=>False) False)) af)
     (match (generalizing:=false) o.op,af with
      |.alloc e,false=>(match Oy P e with
       |some xs=>cond (LF.all fun τ=>Nat.beq (I τ.H) (I σF.H)) (LT=LF.map (XC (xs.map .v))/\DP env o.dst (.ptr (I σF.H) 0) fun env=>AS ef (false,none) fun ef=>ih (Nat.succ i) true (fun τ τ1=>τ1=XC (xs.map .v) τ/\τ.H.length=I σF.H) LF LT lds ef s env σF σT) False
       |none=>False)
      |_,false=>(match s with
       |.h (.o d _) s=>WU env o.op.operands.toList fun ds=>LT=LF.map (nk ad)/\AiW (fun τ=>Ak P o ds τ d (nk ad τ)) LF/\DP env o.dst d fun env=>AS ef (false,none) fun ef=>ih (Nat.succ i) true (fun τ τ1=>τ1=nk ad τ/\Ak P o ds τ d (nk ad τ)) LF LT lds ef s env σF σT
       |_=>False)
      |_,_=>False) (Nat.beq i fr)) b) L
theorem Fl{P:x7}{im:List Nat}{ops:Array yy}{fr n:Nat}{ad:St}{K:KD2}:∀{L:List yy} {i:Nat} {af:Bool} {pd:St->St->Prop} {LF LT:List St} {lds:List Ld} {ef:List Ef} {s:Sc} {env:List D} {σF σT:St} {j:Nat},I env=n->i+I L=ops.size->I LT=j+1->LT[j]?=G σT->
  (af=O->I LF=j+1)->(I LF=j+1->LF[j]?=G σF)->I LF<=j+1->ld P im ops fr ad K L i af pd LF LT lds ef s env σF σT->
  ∃LF' LT' lds' ef' s' env' σ',K (LF++LF') (LT++LT') (lds++lds') (ef++ef') s' env'/\env'.length=n/\(LT++LT')[j+I LT']?=G σ'/\(af=J->(I LF=I LT∨LF'=[])/\∀(c:Nat) (τ:St),LF'[c]?=G τ->∃τ1,LT'[c]?=G τ1/\pd τ τ1)/\
   ((∀x∈lds',∀τ∈ (LF++LF')++(LT++LT'),Cl τ x.q x.off x.n=x.c)->∃vals,Hh P ops (Ed (LF++LF') (LT++LT')) fr L env j vals ef' env' (j+I LT'))
 |[],i,af,pd,LF,LT,lds,ef,s,env,σF,σT,j,hn,hi,hl,hs,hF,hF2,hF3,h=>by
  refine⟨[],[],[],[],s,env,σT,?_,hn,by grind,fun _=>⟨.inr rfl,fun c τ hc=>by grind⟩,fun _=>⟨[],.nil⟩⟩
  have h':K LF LT lds ef s env:=h
  grind
 |o::L,i,af,pd,LF,LT,lds,ef,s,env,σF,σT,j,hn,hi,hl,hs,hF,hF2,hF3,h=>by
  have h':q7 s fun s=>HF ops i o s env fun b s env=>
   Bool.rec
    (Bool.rec (DP env o.dst (.tup []) fun env=>AS ef (false,none) fun ef=>ld P im ops fr ad K L (Nat.succ i) af pd LF LT lds ef s env σF σT) False (Nat.beq i fr))
    (Bool.rec
     (WU env o.op.operands.toList fun ds=>jg P im o ds (Bool.rec σF σT af) s fun s1 d σ1 kd=>match kd with
      |.pure=>DP env o.dst d fun env=>AS ef (false,none) fun ef=>ld P im ops fr ad K L (Nat.succ i) af pd LF LT lds ef s1 env σF σT
      |.load q off n=>DP env o.dst d fun env=>AS ef (false,none) fun ef=>AS lds ⟨q,off,n,Cl (Bool.rec σF σT af) q off n⟩ fun lds=>ld P im ops fr ad K L (Nat.succ i) af pd LF LT lds ef s1 env σF σT
      |.eff=>Bool.rec
       (jg P im o ds σT s fun _ d2 σ2 kd2=>match kd2 with
        |.eff=>d2=d/\DP env o.dst d fun env=>AS ef (true,none) fun ef=>AS LF σ1 fun LF=>AS LT σ2 fun LT=>ld P im ops fr ad K L (Nat.succ i) af pd LF LT lds ef s1 env σ1 σ2
        |_=>False)
       (cond (Yz ops i fr) (DP env o.dst d fun env=>AS ef (true,none) fun ef=>AS LT σ1 fun LT=>ld P im ops fr ad K L (Nat.succ i) af pd LF LT lds ef s1 env σF σ1)
        (cond (Nat.beq (I LF) (I LT)) (jg P im o ds σF s fun _ d2 σ2 kd2=>match kd2 with
         |.eff=>d2=d/\pd σ2 σ1/\DP env o.dst d fun env=>AS ef (true,none) fun ef=>AS LF σ2 fun LF=>AS LT σ1 fun LT=>ld P im ops fr ad K L (Nat.succ i) af pd LF LT lds ef s1 env σ2 σ1
         |_=>False) False)) af)
     (match (generalizing:=false) o.op,af with
      |.alloc e,false=>(match Oy P e with
       |some xs=>cond (LF.all fun τ=>Nat.beq (I τ.H) (I σF.H)) (LT=LF.map (XC (xs.map .v))/\DP env o.dst (.ptr (I σF.H) 0) fun env=>AS ef (false,none) fun ef=>ld P im ops fr ad K L (Nat.succ i) true (fun τ τ1=>τ1=XC (xs.map .v) τ/\τ.H.length=I σF.H) LF LT lds ef s env σF σT) False
       |none=>False)
      |_,false=>(match s with
       |.h (.o d _) s=>WU env o.op.operands.toList fun ds=>LT=LF.map (nk ad)/\AiW (fun τ=>Ak P o ds τ d (nk ad τ)) LF/\DP env o.dst d fun env=>AS ef (false,none) fun ef=>ld P im ops fr ad K L (Nat.succ i) true (fun τ τ1=>τ1=nk ad τ/\Ak P o ds τ d (nk ad τ)) LF LT lds ef s env σF σT
       |_=>False)
      |_,_=>False) (Nat.beq i fr)) b:=h
  clear h
  have hidx:ops.size- (I L+1)=i:=by grind
  have hi':Nat.succ i+I L=ops.size:=by grind
  have hput:∀(d:D),I (BD env o.dst d)=n:=fun d=>by cases o.dst<;>simp[BD,hn]
  obtain⟨s0,h'⟩:=AdF h'
  obtain⟨b,s1,h1,h2⟩:=MH h'
  have snoc2:∀{α:Type} (a:List α) (x:α) (r:List α),a++[x]++r=a++x::r:=fun a x r=>by simp
  cases b with
  |false=>
   cases hb:Nat.beq i fr with
   |true=>simp_all
   |false=>
    have hne:ops.size- (I L+1)≠fr:=by grind[Nat.beq_refl]
    simp only[hb] at h1
    rw[DR,AQ] at h1
    obtain⟨LF',LT',lds',ef',s',env',σ',k1,k2,k3,k4,k5⟩:=Fl (hput _) hi' hl hs hF hF2 hF3 h1
    refine⟨LF',LT',lds',(false,none)::ef',s',env',σ',by grind,k2,k3,k4,fun hlo=>?_⟩
    obtain⟨vals,hv⟩:=k5 hlo
    exact⟨_,.skip hne h2 hv⟩
  |true=>
   cases hb:Nat.beq i fr with
   |true=>
    simp only[hb] at h1
    split at h1
    ·rename_i e heq _
     split at h1
     ·rename_i xs hz
      obtain⟨hall,h3,h4⟩:=Av h1
      rw[DR,AQ] at h4
      have hF1:=hF rfl
      obtain⟨LF',LT',lds',ef',s',env',σ',k1,k2,k3,k4,k5⟩:=Fl (af:=true) (hput _) hi' hl hs (fun e=>by omega) hF2 hF3 h4
      refine⟨LF',LT',lds',(false,none)::ef',s',env',σ',by grind,k2,k3,fun e=>by grind,fun hlo=>?_⟩
      obtain⟨vals,hv⟩:=k5 hlo
      have hLF:=(k4 rfl).2
      refine⟨_,.free (by simp_all) h2 (fun c τ hc=>?_) hv⟩
      have hc:(LF++LF')[c]?=G τ:=by grind[Ed]
      have hopA:∀τ:St,I τ.H=I σF.H->Ak P o (Ff env o) τ (.ptr (I σF.H) 0) (XC (xs.map .v) τ):=fun τ hlen=>by
       grind[N4,Op.operands,XC,Ff]
      rcases Nat.lt_or_ge c (I LF) with hcl|hcl
      rotate_left
      ·grind[Ed]
      grind[Ed,Nat.eq_of_beq_eq_true]
     grind
    ·split at h1
     ·rename_i d _ s2
      rw[NW] at h1
      obtain⟨h3,hop,h4⟩:=h1
      rw[DR,AQ] at h4
      have hF1:=hF rfl
      obtain⟨LF',LT',lds',ef',s',env',σ',k1,k2,k3,k4,k5⟩:=Fl (af:=true) (hput _) hi' hl hs (fun e=>by omega) hF2 hF3 h4
      refine⟨LF',LT',lds',(false,none)::ef',s',env',σ',by grind,k2,k3,fun e=>by grind,fun hlo=>?_⟩
      obtain⟨vals,hv⟩:=k5 hlo
      have hLF:=(k4 rfl).2
      refine⟨_,.free (by simp_all) h2 (fun c τ hc=>?_) hv⟩
      have hc:(LF++LF')[c]?=G τ:=by grind[Ed]
      rcases Nat.lt_or_ge c (I LF) with hcl|hcl
      rotate_left
      ·grind[Dh,Ed]
      rw[I5 hcl] at hc
      refine⟨nk ad τ,?_,Dh (Xx hop τ (HQ hc))⟩
      grind[Ed]
     grind
    grind
   |false=>
    have hne:ops.size- (I L+1)≠fr:=by grind[Nat.beq_refl]
    simp only[hb] at h1
    rw[NW] at h1
    obtain⟨s2,d,σ1,kd,h4,h5⟩:=CQ h1
    cases kd with
    |pure=>
     simp only at h4
     rw[DR,AQ] at h4
     obtain⟨LF',LT',lds',ef',s',env',σ',k1,k2,k3,k4,k5⟩:=Fl (hput _) hi' hl hs hF hF2 hF3 h4
     refine⟨LF',LT',lds',(false,none)::ef',s',env',σ',by grind,k2,k3,k4,fun hlo=>?_⟩
     obtain⟨vals,hv⟩:=k5 hlo
     exact⟨_,.quiet hne h2 (fun _ τ _=>Dh (h5.2 τ)) hv⟩
    |load q off m=>
     simp only at h4
     rw[DR,AQ,AQ] at h4
     obtain⟨LF',LT',lds',ef',s',env',σ',k1,k2,k3,k4,k5⟩:=Fl (hput _) hi' hl hs hF hF2 hF3 h4
     refine⟨LF',LT',_::lds',(false,none)::ef',s',env',σ',by simpa using k1,k2,k3,k4,fun hlo=>?_⟩
     obtain⟨vals,hv⟩:=k5 (fun x hx=>hlo x (List.mem_cons_of_mem _ hx))
     refine⟨_,.quiet hne h2 (fun b τ hτ=>Dh (h5.2.2 τ ?_)) hv⟩
     refine hlo _ (List.mem_cons_self ..) τ ?_
     cases b
     all_goals grind[Ed]
    |eff=>
     cases af with
     |true=>
      simp only at h4
      cases hnd:Yz ops i fr with
      |true=>
       rw[hnd,cond_true] at h4
       have hneed:=hnd
       rw[DR,AQ,AQ] at h4
       obtain⟨LF',LT',lds',ef',s',env',σ',k1,k2,k3,k4,k5⟩:=Fl (j:=j+1) (hput _) hi' (by grind) (by grind) (fun e=>by grind) (fun e=>by omega) (by omega) h4
       have e1:j+I (σ1::LT')=j+1+I LT':=by grind
       have hLF0:LF'=[]:=by
        grind
       rw[snoc2] at k1 k3
       refine⟨LF',σ1::LT',lds',(true,none)::ef',s',env',σ',by grind,k2,by simp_all,fun _=>⟨.inr hLF0,fun c τ hc=>by grind⟩,fun hlo=>?_⟩
       obtain⟨vals,hv⟩:=k5 (by grind)
       rw[snoc2] at hv
       rw[e1]
       refine⟨_,.eff hne h2 (fun b τ hτ hneedF=>?_) hv⟩
       cases b with
       |false=>grind
       |true=>
        have hτ:(LT++σ1::LT')[j]?=G τ:=by grind[Ed]
        rw[I5 (by omega),hs] at hτ
        simp at hτ;subst hτ
        refine⟨σ1,?_,Dh h5⟩
        simp only[Ed]
        grind
      |false=>
       rw[hnd,cond_false] at h4
       obtain⟨hlen,h4⟩:=Av h4
       have hlen:=I7 hlen
       have hF1:I LF=j+1:=by omega
       obtain⟨s3,d2,σ2,kd2,h6,h7⟩:=CQ h4
       cases kd2 with
       |pure=>grind
       |load=>grind
       |eff=>
        obtain⟨rfl,hpd,h6⟩:=h6
        rw[DR,AQ,AQ,AQ] at h6
        obtain⟨LF',LT',lds',ef',s',env',σ',k1,k2,k3,k4,k5⟩:=Fl (af:=true) (j:=j+1) (hput _) hi' (by grind) (by grind) (fun _=>by grind) (fun _=>by grind) (by grind) h6
        have e1:j+I (σ1::LT')=j+1+I LT':=by grind
        rw[snoc2] at k3
        rw[snoc2,snoc2] at k1
        refine⟨σ2::LF',σ1::LT',lds',(true,none)::ef',s',env',σ',by grind,k2,by simp_all,fun _=>⟨.inl hlen,fun c τ hc=>?k4⟩,fun hlo=>?_⟩
        case k4=>
         cases c<;>grind
        obtain⟨vals,hv⟩:=k5 (by grind)
        rw[snoc2,snoc2] at hv
        rw[e1]
        refine⟨_,.eff hne h2 (fun b τ hτ _=>?_) hv⟩
        cases b with
        |false=>
         have hτ:(LF++σ2::LF')[j]?=G τ:=by grind[Ed]
         rw[I5 (by omega),hF2 hF1] at hτ
         simp at hτ;subst hτ
         refine⟨σ2,?_,Dh h7⟩
         simp only[Ed]
         grind
        |true=>
         have hτ:(LT++σ1::LT')[j]?=G τ:=by grind[Ed]
         rw[I5 (by omega),hs] at hτ
         simp at hτ;subst hτ
         refine⟨σ1,?_,Dh h5⟩
         simp only[Ed]
         grind
     |false=>
      simp only at h4
      have hF1:=hF rfl
      obtain⟨s3,d2,σ2,kd2,h6,h7⟩:=CQ h4
      cases kd2 with
      |pure=>grind
      |load=>grind
      |eff=>
       obtain⟨rfl,h6⟩:=h6
       rw[DR,AQ,AQ,AQ] at h6
       obtain⟨LF',LT',lds',ef',s',env',σ',k1,k2,k3,k4,k5⟩:=Fl (af:=false) (j:=j+1) (hput _) hi' (by grind) (by grind) (fun _=>by grind) (fun _=>by grind) (by grind) h6
       have e1:j+I (σ2::LT')=j+1+I LT':=by grind
       rw[snoc2] at k3
       rw[snoc2,snoc2] at k1
       refine⟨σ1::LF',σ2::LT',lds',(true,none)::ef',s',env',σ',by grind,k2,by simp_all,fun e=>by grind,fun hlo=>?_⟩
       obtain⟨vals,hv⟩:=k5 (by grind)
       rw[snoc2,snoc2] at hv
       rw[e1]
       refine⟨_,.eff hne h2 (fun b τ hτ _=>?_) hv⟩
       cases b with
       |false=>
        have hτ:(LF++σ1::LF')[j]?=G τ:=by grind[Ed]
        rw[I5 (by omega),hF2 hF1] at hτ
        simp at hτ;subst hτ
        refine⟨σ1,?_,Dh h5⟩
        simp only[Ed]
        grind
       |true=>
        have hτ:(LT++σ2::LT')[j]?=G τ:=by grind[Ed]
        rw[I5 (by omega),hs] at hτ
        simp at hτ;subst hτ
        refine⟨σ2,?_,Dh h7⟩
        simp only[Ed]
        grind
noncomputable def Ajn(P:x7)(im:List Nat)(ops:Array yy)(fr:Nat)(s:Sc)(env:List D)(σ:St)(K:Sc->List D->St->Prop):Prop:=
 cond (Nat.blt fr ops.size) (match (ops[fr]?).map Oper.op with
  |some (.alloc e)=>(match Oy P e with
   |some xs=>B3 (xs.map .v) fun cs=>AS σ.H (G cs) fun H=>ld P im ops fr σ (fun LF LT lds ef s env=>cond (Mf ops ef) (match LT.getLast? with
    |some τ=>xd (LF++LT) lds/\K s env τ
    |none=>False) False) ops.toList 0 false (fun _ _=>False) [σ] [⟨H,σ.own⟩] [] [] s env σ ⟨H,σ.own⟩
   |none=>False)
  |_=>(match s with
   |.h (.cs ad) s=>B3 (σ.H++ad.H) fun H=>B3 (ad.own++σ.own) fun own=>ld P im ops fr ad (fun LF LT lds ef s env=>cond (Mf ops ef) (match LT.getLast? with
    |some τ=>xd (LF++LT) lds/\K s env τ
    |none=>False) False) ops.toList 0 false (fun _ _=>False) [σ] [⟨H,own⟩] [] [] s env σ ⟨H,own⟩
   |_=>False)) False
theorem Aa0{C:c9->c9->Prop}{P:x7}{R:List D->St->Prop}{k:List KI}(hm:P.follows .mixedOrders=J){im:List Nat}{id:Nat}{ops:Array yy}{fr:Nat}{s:Sc}{env:List D}{σ:St}{n:Nat}{K:Sc->List D->St->Prop}(hn:I env=n)
  (hK:∀s env σ,I env=n->K s env σ->A5 C P R k env σ) (h:Ajn P im ops fr s env σ K):A5 C P R (.code (.region id ops true)::k) env σ:=by
 obtain⟨h1,h2⟩:=Av h
 have hfr:fr<ops.size:=IC h1
 split at h2
 ·split at h2
  ·rename_i xs hz
   rw[AX,AQ] at h2
   obtain⟨LF',LT',lds',ef',s',env',σ',k1,k2,k3,k4,k5⟩:=Fl (j:=0) hn (by simp) (by simp) (by simp) (fun _=>by simp) (fun _=>by simp) (by simp) h2
   grind[US,KH,Ed]
  grind
 ·split at h2
  ·rename_i ad s2
   rw[AX,AX] at h2
   obtain⟨LF',LT',lds',ef',s',env',σ',k1,k2,k3,k4,k5⟩:=Fl (j:=0) hn (by simp) (by simp) (by simp) (fun _=>by simp) (fun _=>by simp) (by simp) h2
   grind[US,KH,Ed]
  grind
noncomputable def VH(P:x7)(im:List Nat)(ops:Array yy)(s:Sc)(env:List D)(σ:St)(K:Sc->List D->St->Prop):Prop:=match s with
 |.h (.dr fr) s=>Ajn P im ops fr s env σ K
 |s=>Anq P im ops s env σ K
theorem Aaz{C:c9->c9->Prop}{P:x7}{R:List D->St->Prop}{k:List KI}(hm:P.follows .mixedOrders=J){im:List Nat}{id:Nat}{ops:Array yy}{s:Sc}{env:List D}{σ:St}{n:Nat}{K:Sc->List D->St->Prop}(hn:I env=n)
  (hK:∀s env σ,I env=n->K s env σ->A5 C P R k env σ) (h:VH P im ops s env σ K):A5 C P R (.code (.region id ops true)::k) env σ:=by
 unfold VH at h
 split at h
 ·exact Aa0 hm hn hK h
 ·exact Af7 hm hn hK h
noncomputable def n9(ts:List Nat)(own:List (Nat×Nat×List V)):List (Nat×Nat×List V):=own.filter fun x=>ts.contains x.1
structure It(p:Prop):Prop where
 it:p
def Vj{α:Type}(a b:List α)(K:Prop):Prop:=match a with
 |[]=>K
 |x::a=>b=x::a/\K
theorem Hz{α:Type}{a b:List α}{K:Prop}(h:Vj a b K)(h0:a=[]->b=[]):b=a/\K:=by
 cases a with
 |nil=>exact⟨h0 rfl,h⟩
 |cons x a=>exact h
def xc(op:Bool)(b:Bool)(K:Prop):Prop:=match op with
 |true=>b=J/\K
 |false=>cond b K False
theorem UI{op b:Bool}{K:Prop}(h:xc op b K):b=J/\K:=by
 cases op
 ·exact Av h
 ·exact h
noncomputable def wv(C:c9->c9->Prop)(m:Nat)(P:x7)(R:List D->St->Prop)(nt:Nat)(k:List KI)(sl:List (Nat×Option D))(σ':Option St)(op:Bool)(env:List D)(σ:St):Prop:=
 XJ env sl fun L=>match σ' with
  |none=>It (A5 C P R k (cz nt L) σ)
  |some σ'=>cond (Nat.ble m (I σ'.H)&&Nat.ble (I σ'.H) (I σ.H)&&D.okNs (I σ'.H) (σ'.own.map (·.1)) (L.map (·.2))) (xc op (cp (I σ'.H) (σ'.own.map (·.1)) (σ.H.take (I σ'.H)))
    (Vj σ'.H (σ.H.take (I σ'.H)) (Vj σ'.own (n9 (σ'.own.map (·.1)) σ.own) (It (A5 C P R k (cz nt L) σ'))))) False
theorem W3{h:Nat}{ts:List Nat}:∀{L:List (Nat×D)} {e:List D},D.okNs h ts (L.map (·.2))=J->D.okNs h ts e=J->D.okNs h ts (L.foldl (fun e p=>e.set p.1 p.2) e)=J
 |[],e,_,he=>he
 |p::L,e,hL,he=>by
  simp only[I9,D.okNs,HL] at hL
  refine W3 (L:=L) hL.2 ?_
  have:∀(e:List D) (i:Nat),D.okNs h ts e=J->D.okNs h ts (e.set i p.2)=J:=by
   intro e
   induction e with
   |nil=>intro i h;simpa using h
   |cons a e ih=>
    intro i h
    simp only[D.okNs,HL] at h
    cases i with
    |zero=>simp only[List.set_cons_zero,D.okNs,HL];exact⟨hL.1,h.2⟩
    |succ i=>simp only[JA,D.okNs,HL];exact⟨h.1,ih i h.2⟩
  exact this e p.1 he
theorem OP{h:Nat}{ts:List Nat}:∀n:Nat,D.okNs h ts (replicate n .undef)=J
 |0=>rfl
 |n+1=>by simp only[Jk,D.okNs,D.okN,IG];exact OP n
section
variable {P : x7} {R : List D -> St -> Prop} {k : List KI}
theorem PW{C:c9->c9->Prop}{m:Nat}(hCm:∀E0 E,C E0 E->E.g.n<=m){nt:Nat}{sl:List (Nat×Option D)}{σ':Option St}{op:Bool}{env:List D}{σ:St}(hn:I env=nt)(h:wv C m P R nt k sl σ' op env σ):A5 C P R k env σ:=by
 obtain⟨L,h1,h2⟩:=Mr h
 obtain⟨hl,hg⟩:=OS hn h2
 cases σ' with
 |none=>exact JS hl hg h1.it
 |some σ'=>
  obtain⟨h3,h1⟩:=Av h1
  obtain⟨h8,h1⟩:=UI h1
  have h7:σ.H.take (I σ'.H)=σ'.H/\n9 (σ'.own.map (·.1)) σ.own=σ'.own/\It (A5 C P R k (cz nt L) σ'):=by
   obtain⟨e1,h1⟩:=Hz h1 (fun e=>by grind)
   grind[Hz,n9,List.filter_eq_nil_iff]
  obtain⟨h4,h5,h6⟩:=h7
  simp only[HL] at h3
  refine JS hl hg (AnE hCm (h:=I σ'.H) h4.symm (IC h3.1.2) (IC h3.1.1) (W3 h3.2 (OP nt)) (by grind) ?_ h6.it)
  rw[←h5];exact List.filter_sublist
noncomputable def Aky(x:x8)(s:Sc)(env:List D)(K:Bool->Sc->List D->Prop):Prop:=match x with
 |.tmp t=>FR env t fun d=>match d with
  |.v (.bool b)=>AfA s b (G t) env K
  |_=>False
 |.const (.bool b)=>K b s env
 |_=>False
theorem Af8{x:x8}{s:Sc}{env:List D}{K:Bool->Sc->List D->Prop}(h:Aky x s env K):∃b s',K b s' env/\ip env x=.v (.bool b):=by
 unfold Aky at h
 split at h
 ·grind[DI,VJ,ip]
 ·exact⟨_,_,h,rfl⟩
 grind
noncomputable def Af0(C:c9->c9->Prop)(m:Nat)(P:x7)(R:List D->St->Prop)(rk:Nat->List D->St->Prop)(nt:Nat)(im:List Nat)(T:List KI)(ih:Sc->List KI->List D->St->Prop)(ks:List KI)(s:Sc)(env:List D)(σ:St):Prop:=match ks with
  |[]=>(match s with
   |.h (.l sl σ') _=>wv C m P R nt T sl σ' false env σ
   |.h (.lo sl σ') _=>wv C m P R nt T sl (G σ') true env σ
   |.h .r _=>T=[]/\rk 0 env σ
   |.h .rn _=>T=[]/\rk 1 env σ
   |.h .ro _=>T=[]/\rk 2 env σ
   |.h .rd _=>T=[]/\rk 3 env σ
   |_=>False)
  |.blk _::ks=>ih s ks env σ
  |.lp c::ks=>(match s with
   |.h (.l sl σ') _=>wv C m P R nt (.lp c::(ks++T)) sl σ' false env σ
   |.h (.lo sl σ') _=>wv C m P R nt (.lp c::(ks++T)) sl (G σ') true env σ
   |.h .n s=>ih s (.code c:: .lp c::ks) env σ
   |_=>False)
  |.code c::ks=>(match c with
   |.seq x y=>ih s (.code x:: .code y::ks) env σ
   |.skip=>ih s ks env σ
   |.label _=>ih s ks env σ
   |.block id x=>ih s (.code x:: .blk id::ks) env σ
   |.loop x=>ih s (.lp x::ks) env σ
   |.exit id=>(match Qr id ks with
    |some ks'=>ih s ks' env σ
    |none=>False)
   |.ret=>(match s with
    |.h .r _=>rk 0 env σ
    |.h .rn _=>rk 1 env σ
    |.h .ro _=>rk 2 env σ
    |.h .rd _=>rk 3 env σ
    |_=>False)
   |.cond t x y=>Aky t s env fun b s env=>Bool.rec (ih s (.code y::ks) env σ) (ih s (.code x::ks) env σ) b
   |.region r ops d=>Bool.rec (ZK P im r ops (fun L sl σ=>It (BS C P R (ks++T) ops L (cz nt sl) σ)) ops.toList 0 s env σ fun s env σ=>ih s ks env σ) (VH P im ops s env σ fun s env σ=>ih s ks env σ) d
   |_=>False)
noncomputable def vc(C:c9->c9->Prop)(m:Nat)(P:x7)(R:List D->St->Prop)(rk:Nat->List D->St->Prop)(nt:Nat)(im:List Nat)(T:List KI)(fuel:Nat)(s:Sc)(ks:List KI)(env:List D)(σ:St):Prop:=
 Nat.rec (motive:=fun _=>Sc->List KI->List D->St->Prop) (fun _ _ _ _=>False) (fun _ ih s ks env σ=>de 1000000 0 s env σ (Af0 C m P R rk nt im T ih ks)) fuel s ks env σ
theorem Mw{T:List KI}{id:Nat}:∀{ks ks':List KI},Qr id ks=G ks'->Qr id (ks++T)=G (ks'++T)
 |[],ks',h=>by simp[Qr] at h
 |.code c::ks,ks',h=>by simp only[Qr] at h;simp only[JM,Qr];exact Mw h
 |.lp c::ks,ks',h=>by simp only[Qr] at h;simp only[JM,Qr];exact Mw h
 |.blk i::ks,ks',h=>by
  simp only[Qr] at h
  simp only[JM,Qr]
  by_cases e:i=id
  ·rw[I4 e] at h⊢;simp at h;subst h;rfl
  ·rw[Iz e] at h⊢;exact Mw h
theorem Afz{C:c9->c9->Prop}(L:Ou C){m:Nat}(hCm:∀E0 E,C E0 E->E.g.n<=m)(hm:P.follows .mixedOrders=J){rk:Nat->List D->St->Prop}{nt:Nat}{im:List Nat}{T:List KI}(hR:∀b env σ,I env=nt->rk b env σ->R env σ){ih:Sc->List KI->List D->St->Prop}
  (IH:∀{s:Sc} {ks:List KI} {env:List D} {σ:St},I env=nt->ih s ks env σ->A5 C P R (ks++T) env σ) {ks:List KI} {s:Sc} {env:List D} {σ:St} (hn:I env=nt) (h:Af0 C m P R rk nt im T ih ks s env σ):A5 C P R (ks++T) env σ:=by
 unfold Af0 at h
 split at h
 ·split at h
  ·grind[PW]
  ·grind[PW]
  ·grind[Qi]
  ·grind[Qi]
  all_goals grind[Qi]
 ·grind[Abm]
 ·grind[PW,Ajw]
 ·split at h
  ·grind[Abk]
  ·grind[Wb]
  ·grind[Abl]
  ·grind[RL]
  ·grind[gy]
  ·grind[We,Mw]
  ·grind[Wc]
  ·obtain⟨b,s',h1,h2⟩:=Af8 h
   refine Wf h2 (fun hb=>?_) (fun hb=>?_)
   ·subst hb;exact IH hn h1
   ·subst hb;exact IH hn h1
  ·rename_i r ops d
   cases d with
   |false=>
    intro E0 E g a w B hC hf hB
    show KQ P B (.code (.region r ops false)::(_++T)) .normal a w
    simp only[KQ]
    exact wp_region_list (PV (n:=nt) (Z:=fun L sl σ=>It (BS C P R (_++T) ops L (cz nt sl) σ)) (fun _ _ _ h=>h.it) (fun s env σ hl hk=>IH hl hk) hn (show ZK P im r ops _ ops.toList 0 s env σ fun s env σ=>ih s _ env σ from h) E0 E g a w B hC hf hB)
   |true=>exact Aaz hm hn (fun s env σ hl hk=>IH hl hk) (show VH P im ops s env σ fun s env σ=>ih s _ env σ from h)
  grind
theorem PR{C:c9->c9->Prop}(L:Ou C){m:Nat}(hCm:∀E0 E,C E0 E->E.g.n<=m)(hm:P.follows .mixedOrders=J){rk:Nat->List D->St->Prop}{nt:Nat}{im:List Nat}{T:List KI}(hR:∀b env σ,I env=nt->rk b env σ->R env σ):
  ∀{fuel:Nat} {s:Sc} {ks:List KI} {env:List D} {σ:St},I env=nt->vc C m P R rk nt im T fuel s ks env σ->A5 C P R (ks++T) env σ
 |0,s,ks,env,σ,_,h=>(h:False).elim
 |fuel+1,s,ks,env,σ,hn,h=>by
  have h':de 1000000 0 s env σ (Af0 C m P R rk nt im T (vc C m P R rk nt im T fuel) ks):=h
  obtain⟨s1,env1,σ1,h1,h2,h3⟩:=RZ h'
  exact LW h2 (Afz L hCm hm hR (PR L hCm hm hR) (h3.trans hn) h1)
noncomputable def mh(P:x7)(env:List D)(σ:St)(dg:Bool)(rs:List ResultVar)(K:List D->Prop):Prop:=
 List.rec (motive:=fun _=>(List D->Prop)->Prop) (fun K=>K []) (fun r _ ih K=>match r with
  |.tmp t=>cond (Nat.blt t (I env)) (FR env t fun d=>ih fun ds=>K (d::ds)) False
  |.cell a t=>FR env a fun d=>match d with
   |.ptr q off=>(match σ.H[q]?,Ec P t with
    |some (some cs),some (1,false)=>(match cs[off]? with
     |some d=>ih fun ds=>K (d::ds)
     |none=>False)
    |some (some cs),some (n,true)=>cond (Nat.ble (off+n) (I cs)) (Bool.rec (match DM ((cs.drop off).take n) with
     |some xs=>ih fun ds=>K (.v (.agg xs)::ds)
     |none=>False) (B3 ((cs.drop off).take n) fun es=>ih fun ds=>K (.dagg es::ds)) dg) False
    |_,_=>False)
   |_=>False) rs K
theorem HE{env:List D}{σ:St}{dg:Bool}:∀{rs:List ResultVar} {K:List D->Prop},mh P env σ dg rs K->∃ds,K ds/\Ts P env σ rs ds
 |[],K,h=>⟨[],h,.nil⟩
 |.tmp t::rs,K,h=>by
  have h':cond (Nat.blt t (I env)) (FR env t fun d=>mh P env σ dg rs fun ds=>K (d::ds)) False:=h
  obtain⟨h1,h2⟩:=Av h'
  rw[DI] at h2
  obtain⟨ds,h3,h4⟩:=HE h2
  refine⟨_,h3,.tmp ?_ h4⟩
  have:t<I env:=IC h1
  rw[HS,HK this];rfl
 |.cell a t::rs,K,h=>by
  have h':FR env a fun d=>match (generalizing:=false) d with
   |.ptr q off=>(match σ.H[q]?,Ec P t with
    |some (some cs),some (1,false)=>(match cs[off]? with
     |some d=>mh P env σ dg rs fun ds=>K (d::ds)
     |none=>False)
    |some (some cs),some (n,true)=>cond (Nat.ble (off+n) (I cs)) (Bool.rec (match DM ((cs.drop off).take n) with
     |some xs=>mh P env σ dg rs fun ds=>K (.v (.agg xs)::ds)
     |none=>False) (B3 ((cs.drop off).take n) fun es=>mh P env σ dg rs fun ds=>K (.dagg es::ds)) dg) False
    |_,_=>False)
   |_=>False:=h
  rw[DI] at h'
  split at h'
  ·rename_i q off hd
   have ha:=getD_some hd (by simp)
   split at h'
   ·rename_i cs hq hz
    split at h'
    ·rename_i d hc
     obtain⟨ds,h3,h4⟩:=HE h'
     exact⟨_,h3,.cell1 ha hq hz hc h4⟩
    ·exact h'.elim
   ·rename_i cs n hq hz
    obtain⟨h1,h2⟩:=Av h'
    cases dg with
    |false=>
     have h2:(match DM ((cs.drop off).take n) with
      |some xs=>mh P env σ false rs fun ds=>K (.v (.agg xs)::ds)
      |none=>False):=h2
     split at h2
     ·rename_i xs hx
      obtain⟨ds,h3,h4⟩:=HE h2
      exact⟨_,h3,.cellA ha hq hz (IC h1) (Hl hx) h4⟩
     ·exact h2.elim
    |true=>
     have h2:B3 ((cs.drop off).take n) fun es=>mh P env σ true rs fun ds=>K (.dagg es::ds):=h2
     rw[AX] at h2
     obtain⟨ds,h3,h4⟩:=HE h2
     exact⟨_,h3,.cellD ha hq hz (IC h1) h4⟩
   ·exact h'.elim
  ·exact h'.elim
def nlV:V->V
 |.nils=>.list []
 |x=>x
theorem AbB{M:c6}:∀{xs:List V} {us:List yz},repA M xs us->repA M (xs.map nlV) us
 |[],us,h=>h
 |x::xs,us,h=>by
  simp only[repA] at h
  obtain⟨u,us',rfl,ha,h1,h2⟩:=h
  simp only[I9,repA]
  refine⟨u,us',rfl,?_,?_,AbB h2⟩
  ·cases x<;>first|exact ha|rfl
  ·cases x with
   |nils=>
    have h3:repV M .nils u:=(BP (by rfl)).2 h1
    have h4:Ah (⟨M,fun _=>0,0,fun _ _=>none,fun _=>0⟩:Gh) (.v (.list [])) u:=FZ (by simpa only[Ah] using h3)
    show repC M (.list []) [u]
    exact(BP (by rfl)).1 (by simpa only[Ah] using h4)
   |_=>exact h1
noncomputable def ir(ts:List Nat)(kn:Bool):D->D
 |.acc k xs=>Bool.rec (.v (.list xs)) (.acc k xs) (ts.any (Nat.beq k))
 |.v .nils=>Bool.rec (.v (.list [])) (.v .nils) kn
 |.v (.agg xs)=>Bool.rec (.v (.agg (xs.map nlV))) (.v (.agg xs)) kn
 |d=>d
theorem Akn{ts:List Nat}{kn:Bool}{g:Gh}{d:D}{u:yz}(h:Ah g d u):Ah g (ir ts kn d) u:=by
 unfold ir
 split
 ·cases ts.any _
  ·exact Ql h
  omega
 ·cases kn
  all_goals grind[FZ]
 ·cases kn
  all_goals grind[Ah,Cx,AbB]
 omega
theorem Dz{ts:List Nat}{kn:Bool}{g:Gh}:∀{ds:List D} {us:List yz},Ag g ds us->Ag g (ds.map (ir ts kn)) us
 |[],us,h=>by simpa using h
 |d::ds,us,h=>by
  simp only[Ag,I9] at h⊢
  obtain⟨u,us',e,h1,h2⟩:=h
  exact⟨u,us',e,Akn h1,Dz h2⟩
noncomputable def wy:List D->(D->Prop)->Prop
 |[d],K=>K d
 |ds,K=>B3 ds fun ds=>K (.tup ds)
theorem Qs(ds:List D)(K:D->Prop):wy ds K=K (U8 ds):=by
 match ds with
 |[]=>rfl
 |[d]=>rfl
 |a::b::ds=>grind[wy,U8,AX]
noncomputable def li(P:x7)(rs:List ResultVar)(d:D)(σ':St)(md:Nat)(env:List D)(σ:St):Prop:=
 mh P env σ (Nat.beq md 3) rs fun ds=>B3 (ds.map (ir (σ'.own.map (·.1)) (Nat.beq md 1))) fun ds=>wy ds fun d'=>
  cond (D.okN (I σ'.H) (σ'.own.map (·.1)) d&&Nat.ble (I σ'.H) (I σ.H)) (xc (Nat.beq md 2) (cp (I σ'.H) (σ'.own.map (·.1)) (σ.H.take (I σ'.H)))
   (Vj σ'.H (σ.H.take (I σ'.H)) (Vj σ'.own (n9 (σ'.own.map (·.1)) σ.own) (d'=d)))) False
theorem PT{fn:yw}{d:D}{σ':St}{md:Nat}{env:List D}{σ:St}(h:li P fn.results.toList d σ' md env σ):A7 P fn env σ d σ':=by
 obtain⟨ds,h1,hr⟩:=HE h
 rw[AX,Qs] at h1
 obtain⟨h2,h3⟩:=Av h1
 obtain⟨h8,h3⟩:=UI h3
 simp only[HL] at h2
 generalize Nat.beq md 1=kn at h3
 have h4:U8 (ds.map (ir (σ'.own.map (·.1)) kn))=d/\σ.H.take (I σ'.H)=σ'.H/\n9 (σ'.own.map (·.1)) σ.own=σ'.own:=by
  obtain⟨e1,h3⟩:=Hz h3 (fun e=>by grind)
  grind[Hz,n9,List.filter_eq_nil_iff]
 obtain⟨rfl,hH,CT⟩:=h4
 intro E g a w hf hE
 obtain⟨us,h5,h6⟩:=hr.run hf
 have hrun:(results fn a.tmps).run P w=.ok (if h:I us=1 then us[0] else .tuple us.toArray) w:=by
  rw[JU,Array.mapM_eq_mapM_toList]
  simp_all
 have hsub:σ'.own.Sublist σ.own:=by rw[←CT];exact List.filter_sublist
 refine⟨_,_,hrun,XE hf.wi hH.symm (IC h2.2) hE (by grind) hsub,?_⟩
 refine Qm _ _ h2.1 ?_
 have h7:=Dz (ts:=σ'.own.map (·.1)) (kn:=kn) h6
 generalize ds.map (ir (σ'.own.map (·.1)) kn)=ds' at h7
 have hl:=A3 h7
 unfold U8
 split
 ·grind[AG]
 ·rename_i hne
  have:I us≠1:=by
   rw[hl]
   intro h
   match ds',h with
   |[d0],_=>grind
  grind[Ah]
theorem LU{f:yx}{fn:yw}{c:Code}{ds:List D}{σ σ':St}{d:D}(hf:P.funcs[f]?=G fn)(hb:fn.body=G c)(hn:(fn.name=="runtime.NumGoroutine")=O)
  (hH:I σ.H<=I σ'.H) (h:A5 (CN (I σ.H)) P (fun env σ1=>A7 P fn env σ1 d σ') [.code c] (ds++replicate (fn.ntmps-I ds) .undef) σ):Aa P f ds σ d σ':=by
 refine⟨⟨fn,hf,hn,by grind⟩,fun g w args hw hargs=>?_⟩
 refine calls_of_wp hf hb ?_
 have hfi:FI ⟨g,w,σ⟩ g σ (ds++replicate (fn.ntmps-I ds) .undef) { tmps:=args.toArray++Array.replicate (fn.ntmps-args.toArray.size) undef,defers:=[]} w:=by
  refine⟨WI.start hw,?_,rfl⟩
  have hl:=A3 hargs
  simp only[Array.toList_append,Array.toList_replicate,J4,hl]
  refine Au hargs ?_
  generalize fn.ntmps-I ds=m
  induction m<;>grind[Ag,Ah]
 have:=h ⟨g,w,σ⟩ ⟨g,w,σ⟩ g _ w (bodyPost P fn fun e w'=>∃u g',e=.returned u/\WI ⟨g,w,σ⟩ g' σ' w'/\Ah g' d u) ⟨rfl,Nat.le_of_eq hw.n⟩ hfi ?_
 ·simp only[KQ] at this
  omega
 ·intro g' env' σ1 a' w' hfi' hR
  obtain⟨u,g2,h1,h2,h3⟩:=hR _ _ _ _ hfi' (by rw[hw.n];exact hH)
  have:a'.defers=[]/\∃v,(results fn a'.tmps).run P w'=.ok v w'/\∃u g',Ending.returned v=.returned u/\WI ⟨g,w,σ⟩ g' σ' w'/\Ah g' d u:=
   ⟨hfi'.defers,u,h1,u,g2,rfl,h2,h3⟩
  exact⟨this,this⟩
abbrev Rn(P:x7)(fn:yw)(C:Nat)(d:D)(σ':St)(k:List KI)(env:List D)(σ:St):Prop:=A5 (CN C) P (fun env σ1=>A7 P fn env σ1 d σ') k env σ
theorem AkG(hm:P.follows .mixedOrders=J){f:yx}{ds:List D}{σ σ':St}{d:D}(fn:yw)(c:Code)(hf:P.funcs[f]?=G fn)(hb:fn.body=G c)(hn:(fn.name=="runtime.NumGoroutine")=O)(hH:Nat.ble (I σ.H) (I σ'.H)=J)(nt:Nat)(hnt:I (ds++replicate (fn.ntmps-I ds) bk)=nt)
  (im:List Nat) (s:Sc)
  (h:B3 (ds++replicate (fn.ntmps-I ds) bk) fun env=>vc (CN (I σ.H)) (I σ.H) P (fun env σ1=>A7 P fn env σ1 d σ') (li P fn.results.toList d σ') nt im [] 10000 s [.code c] env σ):Aa P f ds σ d σ':=by
 rw[AX] at h
 refine LU hf hb hn (IC hH) ?_
 exact PR (ks:=[.code c]) (T:=[]) (NA _) (fun _ _ h=>h.2) hm (fun b env σ _ h=>PT h) hnt h
theorem Aly(hm:P.follows .mixedOrders=J){C:Nat}{fn:yw}{d:D}{σ':St}(nt:Nat)(im:List Nat){ks T:List KI}{L:List (Nat×D)}{σ:St}(s:Sc)
  (h:B3 (cz nt L) fun env=>vc (CN C) C P (fun env σ1=>A7 P fn env σ1 d σ') (li P fn.results.toList d σ') nt im T 10000 (.h .n s) ks env σ):Rn P fn C d σ' (ks++T) (cz nt L) σ:=by
 rw[AX] at h
 exact PR (NA _) (fun _ _ h=>h.2) hm (fun b env σ _ h=>PT h) (by simp[cz,DA]) h
theorem Ajv(hm:P.follows .mixedOrders=J){C:c9->c9->Prop}(L:Ou C)(m:Nat)(hCm:∀E0 E,C E0 E->E.g.n<=m){fn:yw}{d:D}{σ':St}(nt:Nat)(im:List Nat){ks T:List KI}{E:List (Nat×D)}{σ:St}(s:Sc)
  (h:B3 (cz nt E) fun env=>vc C m P (fun env σ1=>A7 P fn env σ1 d σ') (li P fn.results.toList d σ') nt im T 10000 s ks env σ):A5 C P (fun env σ1=>A7 P fn env σ1 d σ') (ks++T) (cz nt E) σ:=by
 grind[AX,PR,PT,cz,DA]
theorem Qj(hm:P.follows .mixedOrders=J){C:c9->c9->Prop}(Lk:Ou C)(m:Nat)(hCm:∀E0 E,C E0 E->E.g.n<=m){fn:yw}{d:D}{σ':St}(nt:Nat)(im:List Nat)(r i:Nat){ops:Array yy}{L:List yy}{ks T:List KI}{E:List (Nat×D)}{σ:St}(s:Sc)
  (h:B3 (cz nt E) fun env=>ZK P im r ops (fun L sl σ=>It (BS C P (fun env σ1=>A7 P fn env σ1 d σ') (ks++T) ops L (cz nt sl) σ)) L i s env σ fun s env σ=>vc C m P (fun env σ1=>A7 P fn env σ1 d σ') (li P fn.results.toList d σ') nt im T 10000 s ks env σ):BS C P (fun env σ1=>A7 P fn env σ1 d σ') (ks++T) ops L (cz nt E) σ:=by
 rw[AX] at h
 exact PV (n:=nt) (fun _ _ _ h=>h.it) (fun s env σ hl hk=>PR Lk hCm hm (fun b env σ _ h=>PT h) hl hk) (by simp[cz,DA]) h
theorem fu{a b:Prop}(h:a=b)(ha:a):b:=h▸ha
end
end Go.Nv

namespace Go.Proofs.YtgigepkgakpjbaaGreat
open Go.Dv Go.Nv
open List (drop_of_length_le flatten replicate take)
abbrev Q{α:Type}(a:α):Prop:=a=a
theorem yr{p:Prop}[Decidable p](h:p:=by omega):decide p=true:=decide_eq_true h
theorem yq{p:Prop}[Decidable p](h:¬p:=by omega):decide p=false:=decide_eq_false h
noncomputable abbrev yl(f:yw):Code:=f.body.getD .skip
theorem yk{α:Type}{l:List α}{k:Nat}(h:k<l.length):∃x,l[k]?=some x:=⟨_,List.getElem?_eq_getElem h⟩
abbrev yj(p:Prop):Prop:=p/\p/\p/\True
abbrev yi(p:Prop):Prop:=p/\p/\p/\p/\True
abbrev yh(p:Prop):Prop:=p/\p/\p/\p/\p/\p/\p/\True
abbrev yg(p:Prop):Prop:=p/\p/\p/\p/\p/\p/\p/\p/\p/\True
abbrev yf(p:Prop):Prop:=p/\p/\p/\p/\p/\p/\p/\p/\p/\p/\p/\True
abbrev yp:Prop:=True/\True
abbrev yo:Prop:=True/\True/\True
theorem yn:yp:=⟨trivial,trivial⟩
theorem ym:yo:=⟨trivial,trivial,trivial⟩
abbrev F0(f:yx)(ds:List D)(d:D):Prop:=Aa PP f ds ⟨[],[]⟩ d ⟨[],[]⟩
noncomputable abbrev N0:=fun(ds:List D)(σ:St)(d:D)(σ':St)=>∀(o:yy)(c:Call)(fo:x8),o.op=Op.call c->c.callee=Callee.value fo->Ak PP o ds σ d σ'
abbrev I0(fn:yw)(C:Nat)(d:D)(s:St)(k:List KI)(e:List D)(t:St):Prop:=It (Rn PP fn C d s k e t)
abbrev kl(c:Code)(p:List Nat):KI:=.lp (sub c p)
abbrev kc(c:Code)(p:List Nat):KI:=.code (sub c p)
abbrev dn:D:=.v .nils
abbrev p8:List D:=[bt (ab (bf #[]).data.toList),di 0,di 0,bt bv,bt bv,bt bv,di 0,di 0,di 0,bt bv,bt bv,bt bv,bt bv,di 0]
abbrev jo:List D:=[di 0,bt bv,bt bv,bt bv,bt bv,di 0,di 0,bt bv,di 0,bt bv]
theorem sv{f:yx}{ds:List D}{σ σ':St}{d:D}(fn:yw)(nt:Nat)(im:List Nat)(s:Sc)(a:Prop)(ha:a)(hf:PP.funcs[f]?=G fn:=by kernel_rfl)(hb:fn.body=G (fn.body.getD .skip):=by kernel_rfl)(hn:(fn.name=="runtime.NumGoroutine")=O:=by kernel_rfl)(hH:Nat.ble (I σ.H) (I σ'.H)=J:=by kernel_rfl)(hnt:I (ds++replicate (fn.ntmps-I ds) bk)=nt:=by kernel_rfl)
  (h:a=B3 (ds++replicate (fn.ntmps-I ds) bk) fun env=>vc (CN (I σ.H)) (I σ.H) PP (fun env σ1=>A7 PP fn env σ1 d σ') (li PP fn.results.toList d σ') nt im [] 10000 s [.code (fn.body.getD .skip)] env σ:=by kernel_rfl):Aa PP f ds σ d σ':=AkG mixed fn _ hf hb hn hH nt hnt im s (fu h ha)
abbrev ye(a b:Int):Prop:=Y (a<b)=J
abbrev yd(a b:Int):Prop:=Y (a<b)=O
abbrev yc(a b:Int):Prop:=Y (a>b)=J
abbrev yb(a b:Int):Prop:=Y (a>b)=O
abbrev ya(a b:Int):Prop:=Y (a<=b)=J
abbrev y9(a b:Int):Prop:=Y (a<=b)=O
abbrev y8(a b:Int):Prop:=Y (a>=b)=J
abbrev y7(a b:Int):Prop:=Y (a>=b)=O
abbrev y6(a:Int):Prop:=0<=a
abbrev y5(a b:Int):Prop:=a<b
abbrev zy{α:Type}(l:List α)(i:Int)(x:α):Prop:=l[Z i]?=G x
def zr:Nat->Nat->List Nat->List Nat
 |0,_,l=>l
 |k+1,n,l=>if Nat.ble n 1 then l else zr k (n/2) (n%2::l)
noncomputable abbrev zu(f:yw)(n:Nat):KI:=.lp (sub (yl f) (zr 99 n []))
noncomputable abbrev zt(f:yw)(n:Nat):KI:=.code (sub (yl f) (zr 99 n []))
theorem zq{f:yx}{ds:List D}{σ σ':St}{d:D}(fn:yw)(nt:Nat)(s:Sc)(a:Prop)(ha:a)(hf:PP.funcs[f]?=G fn:=by kernel_rfl)(hb:fn.body=G (fn.body.getD .skip):=by kernel_rfl)(hn:(fn.name=="runtime.NumGoroutine")=O:=by kernel_rfl)(hH:Nat.ble (I σ.H) (I σ'.H)=J:=by kernel_rfl)(hnt:I (ds++replicate (fn.ntmps-I ds) bk)=nt:=by kernel_rfl)
  (h:a=B3 (ds++replicate (fn.ntmps-I ds) bk) fun env=>vc (CN (I σ.H)) (I σ.H) PP (fun env σ1=>A7 PP fn env σ1 d σ') (li PP fn.results.toList d σ') nt [] [] 10000 s [.code (fn.body.getD .skip)] env σ:=by kernel_rfl):Aa PP f ds σ d σ':=AkG mixed fn _ hf hb hn hH nt hnt [] s (fu h ha)
theorem iK{p:Prop}(h:p):Nv.It p:=⟨h⟩
theorem lv{C:Nat}{fn:yw}{d:D}{σ':St}{ks T:List KI}{L:List (Nat×D)}{σ:St}(nt:Nat)(im:List Nat)(s:Sc)(a:Prop)(ha:a)
  (h:a=B3 (cz nt L) fun env=>vc (CN C) C PP (fun env σ1=>A7 PP fn env σ1 d σ') (li PP fn.results.toList d σ') nt im T 10000 (.h .n s) ks env σ:=by kernel_rfl):Rn PP fn C d σ' (ks++T) (cz nt L) σ:=Aly mixed nt im s (fu h ha)
theorem zp{nt:Nat}{C:Nat}{fn:yw}{d:D}{σ':St}{ks T:List KI}{L:List (Nat×D)}{σ:St}(s:Sc)(a:Prop)(ha:a)
  (h:a=B3 (cz nt L) fun env=>vc (CN C) C PP (fun env σ1=>A7 PP fn env σ1 d σ') (li PP fn.results.toList d σ') nt [] T 10000 (.h .n s) ks env σ:=by kernel_rfl):Rn PP fn C d σ' (ks++T) (cz nt L) σ:=Aly mixed nt [] s (fu h ha)
theorem zo{nt:Nat}{C:Nat}{fn:yw}{d:D}{σ':St}{ks T:List KI}{L:List (Nat×D)}{σ:St}(im:List Nat)(s:Sc)(a:Prop)(ha:a)
  (h:a=B3 (cz nt L) fun env=>vc (CN C) C PP (fun env σ1=>A7 PP fn env σ1 d σ') (li PP fn.results.toList d σ') nt im T 10000 (.h .n s) ks env σ:=by kernel_rfl):Rn PP fn C d σ' (ks++T) (cz nt L) σ:=Aly mixed nt im s (fu h ha)
abbrev bd:St:=⟨[],[]⟩
abbrev zw(k:Nat):D:=di ((k+1:Nat):Int)
abbrev zx(k:Nat):Prop:=di (yu yt ((k:Int)+1))=di ((k+1:Nat):Int)
abbrev dfn(f:yx):D:=.v (.fn f [] [])
abbrev dl(l:List V):D:=.v (.list l)
abbrev ke(t:Nat):Nat×Option D:=(t,none)
abbrev ch(t:Nat)(d:D):Nat×Option D:=(t,G d)
theorem Ae{α:Type}{f:α->V}{a:List α}{i:Nat}{x:α}(h:a[i]?=G x):(a.map f)[((i:Nat):Int).toNat]?=G (f x):=by simp[h]
theorem An{n:Int}(h0: -9223372036854775808<=n:=by omega)(h1:n<=9223372036854775807:=by omega):yt.wrap n=n:=by grind[IntKind.wrap_i64]
theorem Ac{i:Nat}(h:i<9223372036854775807:=by omega):di (yt.wrap ((i:Int)+1))=di ((i+1:Nat):Int):=by grind[An]
inductive b9 where
 |mk (n:Int) (az:List b9)
 deriving Inhabited
def b9.n:b9->Int
 |.mk n _=>n
def b9.az:b9->List b9
 |.mk _ ks=>ks
mutual
def b9.enc:b9->V
 |.mk n ks=>.agg [vi n,.list (b9.encs ks)]
def b9.encs:List b9->List V
 |[]=>[]
 |v::vs=>v.enc::b9.encs vs
end
abbrev eV:b9->V:=b9.enc
abbrev dq(l:List b9):V:=.list (l.map eV)
abbrev Ad(v:b9):V:=.agg [vi v.n,dq v.az]
theorem encs_map:∀l:List b9,b9.encs l=l.map eV
 |[]=>rfl
 |v::l=>by simp[b9.encs,encs_map l]
theorem AE(v:b9):eV v=Ad v:=by cases v with|mk n ks=>simp only[eV,b9.enc,encs_map];rfl
abbrev dV(v:b9):D:=.v (Ad v)
abbrev co(l:List b9):D:=.v (dq l)
theorem Ap{a:List b9}{i:Nat}{x:b9}(h:a[i]?=G x):(a.map eV)[((i:Nat):Int).toNat]?=G (Ad x):=by grind[AE]
theorem C4(a:List b9)(x:b9):a.map eV++[Ad x]=(a++[x]).map eV:=by grind[AE]
mutual
def b9.size:b9->Nat
 |.mk _ ks=>1+b9.sizes ks
def b9.sizes:List b9->Nat
 |[]=>0
 |v::vs=>v.size+b9.sizes vs
end
theorem b9.size_eq(v:b9):v.size=1+b9.sizes v.az:=by cases v;rfl
theorem b9.size_pos(v:b9):1<=v.size:=by grind[b9.size_eq]
theorem b9.size_mem{v:b9}:∀{l:List b9},v∈l->v.size<=b9.sizes l
 |w::l,h=>by
  rcases IN.1 h with rfl|h
  ·simp[b9.sizes]
  ·have:=b9.size_mem h;grind[b9.sizes]
theorem b9.length_le:∀l:List b9,I l<=b9.sizes l
 |[]=>by grind
 |v::l=>by have:=b9.length_le l;have:=v.size_pos;grind[b9.sizes]
theorem Ahn(x:Int):F0 229 [di x] (db O):=by
 refine zq AsX 6 .r (db (x !=x)=db O) ?_
 simp
def AP(a b:Int):Int:=if a<b then-1 else if b<a then 1 else 0
theorem Ls(a b:Int):F0 174 [di a,di b] (di (AP a b)):=by
 refine zq ArO 20 (.c (db O)<|.c (db O)<|.k<|.k<|.b .r<|.b .r .r) (F0 229 [di a] (db O)/\F0 229 [di b] (db O)/\(ye a b->di (-1)=di (AP a b))/\(yd a b->(yc a b->di 1=di (AP a b))/\(yb a b->di 0=di (AP a b)))) ?_
 grind[Ahn,AP]
def jb:List Int->Int
 |[]=>0
 |x::l=>if x=0 then jb l else x
noncomputable def q5:=yl ti
noncomputable abbrev e9:=[1,1,0,1,0,0]
theorem Ale(l:List Int)(hl:I l<=1000000)(n:Nat):∀k:Nat,I l-k=n->
  Rn PP ti 0 (di (jb (l.drop k))) bd ([zu ti 116,.blk 0,zt ti 15]++[]) (cz 18 [(3,di 0),(6,dl (l.map vi)),(7,di (I l)),(8,di k)]) bd:=by
 induction n using Nat.strongRecOn with
 |_ n ih=>
 intro k hn
 refine zp (.b (.e fun x:Int=>.x (vi x)<|.b .r (.l [ke 3,ke 6,ke 7,ch 8 (zw k)])) .r) ((ye k (I l)->∃a,y6 k/\zy (U vi l) k (vi a)/\((a !=0)=J->di a=di (jb (W k l)))/\((a !=0)=O->zx k/\Nv.It (A5 (CN 0) PP (fun env σ1=>A7 PP ti env σ1 (di (jb (W k l))) bd) [kl q5 e9,bh 0,zt ti 15] (cz 18 [(3,di 0),(6,bt (ae (U vi l))),(7,di (I l:Int)),(8,zw k)]) bd)))/\(yd k (I l)->di 0=di (jb (W k l)))) ⟨fun h=>?_,fun h=>?_⟩
 ·have hk:k<I l:=by simpa using h
  have hx:l[k]?=G l[k]:=HK hk
  rw[HZ hk]
  generalize l[k]=x at hx⊢
  refine⟨x,by omega,Ae hx,fun hf=>?_,fun hf=>⟨Ac,⟨?_⟩⟩⟩
  ·have:x≠0:=by simpa using hf
   simp[jb,this]
  ·have:x=0:=by simpa using hf
   subst this
   exact ih (I l- (k+1)) (by omega) (k+1) rfl
 grind[drop_of_length_le,jb]
theorem Acg(l:List Int)(hl:I l<=1000000):F0 173 [dl (l.map vi)] (di (jb l)):=by
 refine zq ti 18 (.l [ke 3,ke 6,ch 7 (di (I l)),ch 8 (di (0:Nat))]) (di (I (U vi l):Int)=di (I l:Int)/\Q (di 0)/\I0 ti (I bd.H) (di (jb l)) bd [kl q5 e9,bh 0,zt ti 15] (cz 18 [(3,di 0),(6,dl (U vi l)),(7,di (I l:Int)),(8,di (↑0:Int))]) bd) ⟨by simp,rfl,⟨?_⟩⟩
 exact Ale l hl _ 0 rfl
def B4{α:Type}(c:α->α->Int):List α->List α->Int
 |[],[]=>0
 |[],_::_=> -1
 |_::_,[]=>1
 |x::a,y::b=>if c x y=0 then B4 c a b else c x y
noncomputable abbrev d7:=(bi [] [])
theorem Zk(F:yx)(fs cs:List V)(c:b9->b9->Int)(a b:List b9)(ha:I a<=9223372036854775807)(hf:∀x∈a,∀y∈b,F0 F ((fs++[Ad x,Ad y]++cs).map .v) (di (c x y)))(n:Nat):∀k:Nat,I a-k=n->k<=I b->k<=I a->
  Rn PP SG 0 (di (B4 c (a.drop k) (b.drop k))) bd ([zu SG 52,.blk 0,zt SG 7]++[]) (cz 39 [(0,co a),(1,co b),(2,.v (.fn F fs cs)),(11,co a),(12,di (I a)),(13,di k)]) bd:=by
 induction n using Nat.strongRecOn with
 |_ n ih=>
 intro k hn hkb hka
 refine zp (.b (.e fun x:b9=>.x (Ad x)<|.b .r<|.e fun y:b9=>.x (Ad y)<|.c (di (c x y))<|.b .r (.ls [ke 0,ke 1,ke 2,ke 11,ke 12,ch 13 (zw k)] bd)) (.b .r .r)) ((ye k (I a)->∃a_2,y6 k/\zy (U eV a) k (Ad a_2)/\(y8 k (I (U eV b))->di 1=di (B4 c (W k a) (W k b)))/\(y7 k (I (U eV b))->∃a_4,y6 k/\zy (U eV b) k (Ad a_4)/\Aa PP F (U bt (fs++[aa [vi a_2.n,dq a_2.az],aa [vi a_4.n,dq a_4.az]]++cs)) d7 (di (c a_2 a_4)) d7/\((c a_2 a_4 !=0)=J->di (c a_2 a_4)=di (B4 c (W k a) (W k b)))/\((c a_2 a_4 !=0)=O->zx k/\Nv.It (A5 (CN 0) PP (fun env σ1=>A7 PP SG env σ1 (di (B4 c (W k a) (W k b))) bd) [zu SG 52,bh 0,zt SG 7] (cz 39 [(0,co a),(1,co b),(2,bt (bw F fs cs)),(11,co a),(12,di (I a:Int)),(13,zw k)]) bd))))/\(yd k (I a)->(ye (I (U eV a)) (I (U eV b))->di (-1)=di (B4 c (W k a) (W k b)))/\(yd (I (U eV a)) (I (U eV b))->di 0=di (B4 c (W k a) (W k b))))) ⟨fun h=>?_,fun h=>?_⟩
 ·have hk:k<I a:=by grind
  have hx:a[k]?=G a[k]:=HK hk
  rw[HZ hk]
  generalize a[k]=x at hx⊢
  refine⟨x,by omega,Ap hx,fun h1=>?_,fun h1=>?_⟩
  ·grind[drop_of_length_le,B4]
  ·have hk2:k<I b:=by grind
   have hy:b[k]?=G b[k]:=HK hk2
   rw[HZ hk2]
   generalize b[k]=y at hy⊢
   refine⟨y,by omega,Ap hy,hf x (HQ hx) y (HQ hy),fun h2=>?_,fun h2=>⟨Ac,⟨?_⟩⟩⟩
   ·grind[B4]
   ·have:c x y=0:=by grind
    simp only[B4,this,Jz]
    grind
 ·have hk:k=I a:=by grind
  subst hk
  rw[List.drop_length]
  refine⟨fun h1=>?_,fun h1=>?_⟩
  ·grind[List.drop_eq_getElem_cons,B4]
  grind[drop_of_length_le,B4]
theorem Zj(F:yx)(fs cs:List V)(c:b9->b9->Int)(a b:List b9)(ha:I a<=9223372036854775807)(hf:∀x∈a,∀y∈b,F0 F ((fs++[Ad x,Ad y]++cs).map .v) (di (c x y))):
  F0 175 [co a,co b,.v (.fn F fs cs)] (di (B4 c a b)):=by
 refine zq SG 39 (.l [ke 0,ke 1,ke 2,ke 11,ch 12 (di (I a)),ch 13 (di (0:Nat))]) (di (I (U eV a):Int)=di (I a:Int)/\Q (di 0)/\I0 SG (I bd.H) (di (B4 c a b)) bd [zu SG 52,bh 0,zt SG 7] (cz 39 [(0,co a),(1,co b),(2,bt (bw F fs cs)),(11,co a),(12,di (I a:Int)),(13,di (↑0:Int))]) bd) ⟨by simp,rfl,⟨?_⟩⟩
 exact Zk F fs cs c a b ha hf _ 0 rfl (by omega) (by omega)
mutual
def Ay:b9->b9->Int
 |.mk n ks,.mk m ls=>if AP n m=0 then(if AP (I ks) (I ls)=0 then Ai2 ks ls else AP (I ks) (I ls)) else AP n m
def Ai2:List b9->List b9->Int
 |[],[]=>0
 |[],_::_=> -1
 |_::_,[]=>1
 |x::a,y::b=>if Ay x y=0 then Ai2 a b else Ay x y
end
theorem QR:∀a b:List b9,Ai2 a b=B4 Ay a b
 |[],[]=>rfl
 |[],_::_=>rfl
 |_::_,[]=>rfl
 |x::a,y::b=>by simp only[Ai2,B4,QR a b]
theorem or3(x y z:Int):(if x=0 then(if y=0 then z else y) else x)=jb [x,y,z]:=by
 grind[jb]
theorem QS(a b:b9):Ay a b=jb [AP a.n b.n,AP (I a.az) (I b.az),B4 Ay a.az b.az]:=by
 cases a;cases b
 rw[Ay,QR]
 exact or3 _ _ _
mutual
def b9.fit:b9->Prop
 |.mk _ l=>I l<=9223372036854775807/\b9.fits l
def b9.fits:List b9->Prop
 |[]=>True
 |v::l=>v.fit/\b9.fits l
end
theorem b9.fits_mem{v:b9}:∀{l:List b9},b9.fits l->v∈l->v.fit
 |w::l,h,hm=>by
  rcases IN.1 hm with rfl|hm
  ·exact h.1
  ·exact b9.fits_mem h.2 hm
theorem b9.fits_of:∀{l:List b9},(∀v∈l,v.fit)->b9.fits l
 |[],_=>trivial
 |v::l,h=>⟨h v (by simp),b9.fits_of fun w hw=>h w (by grind)⟩
theorem b9.fit.len{v:b9}(h:v.fit):I v.az<=9223372036854775807:=by cases v;exact h.1
theorem b9.fit.mem{v x:b9}(h:v.fit)(hx:x∈v.az):x.fit:=by cases v;exact b9.fits_mem h.2 hx
mutual
theorem b9.fit_of:∀v:b9,v.size<=1000000->v.fit
 |.mk n l,h=>by
  have h1:1+b9.sizes l<=1000000:=h
  have h2:=b9.length_le l
  exact⟨by omega,b9.fit_ofs l (by omega)⟩
theorem b9.fit_ofs:∀l:List b9,b9.sizes l<=1000000->b9.fits l
 |[],_=>trivial
 |v::l,h=>by
  have h1:v.size+b9.sizes l<=1000000:=h
  exact⟨b9.fit_of v (by omega),b9.fit_ofs l (by omega)⟩
end
noncomputable abbrev rc:=(bw 112 [] [])
noncomputable abbrev c7:=fun a₀=>(U eV a₀)
theorem Xd(N:Nat):∀a b:b9,a.size<=N->a.fit->F0 112 [dV a,dV b] (di (Ay a b)):=by
 induction N with
 |zero=>intro a b h;have:=a.size_pos;omega
 |succ N ih=>
 intro a b ha hb
 refine sv ArN 24 [2,3] (.c (di (AP a.n b.n))<|.c (di (AP (I a.az) (I b.az)))<|.c (di (B4 Ay a.az b.az))<|.c (di (Ay a b)) .r) (F0 174 [di a.n,di b.n] (di (AP a.n b.n))/\F0 174 [di (I (c7 a.az):Int),di (I (c7 b.az):Int)] (di (AP (I a.az:Int) (I b.az:Int)))/\F0 175 [co a.az,co b.az,bt rc] (di (B4 Ay a.az b.az))/\F0 173 [bt (ae [vi (AP a.n b.n),vi (AP (I a.az:Int) (I b.az:Int)),vi (B4 Ay a.az b.az)])] (di (Ay a b))/\Q (di (Ay a b))) ?_
 have hs:=a.size_eq
 have hl:=hb.len
 refine⟨Ls _ _,by grind[Ls],Zj _ _ _ Ay a.az b.az (by omega) (fun x hx y hy=>?_),?_,rfl⟩
 ·have:=b9.size_mem hx
  exact ih x y (by omega) (hb.mem hx)
 ·rw[QS];exact Acg [_,_,_] (by simp)
theorem Og(N:Nat)(a b:b9)(_:a.size<=N)(h:a.size<=1000000):F0 112 [dV a,dV b] (di (Ay a b)):=by grind[Xd,b9.fit_of]
def dv{α:Type}(p:α->Bool):List α->Nat->Int
 |[],_=> -1
 |x::l,k=>if p x then k else dv p l (k+1)
theorem Fp{α:Type}(p:α->Bool):∀(l:List α) (k:Nat),Y (dv p l k>=0)=l.any p
 |[],k=>by rfl
 |x::l,k=>by
  simp only[dv,List.any_cons]
  by_cases h:p x=J
  ·simp[h]
  ·simp[h,Fp p l]
noncomputable abbrev qr:=fun a₀=>[ke 0,ke 1,ke 7,ch 8 (zw a₀)]
noncomputable abbrev kr:=fun a₀ b₀ c₀=>(1,bt (bw a₀ b₀ c₀))
theorem AhG(F:yx)(fs cs:List V)(p:Int->Bool)(l:List (Int))(hl:I l<=1000000)(hp:∀x∈l,F0 F ((fs++[vi x]++cs).map .v) (db (p x)))(n:Nat):∀k:Nat,I l-k=n->
  Rn PP ue 0 (di (dv p (l.drop k) k)) bd ([zu ue 52,.blk 0,zt ue 7]++[]) (cz 19 [(0,dl (l.map vi)),(1,.v (.fn F fs cs)),(7,di (I l)),(8,di k)]) bd:=by
 induction n using Nat.strongRecOn with
 |_ n ih=>
 intro k hn
 refine zp (.b (.e fun x:Int=>.x (vi x)<|.c (db (p x))<|.b .r (.l (qr k))) .r) ((ye k (I l)->∃a,y6 k/\zy (U vi l) k (vi a)/\Aa PP F (U bt (fs++[vi a]++cs)) d7 (db (p a)) d7/\(p a=J->di (k:Int)=di (dv p (W k l) k))/\(p a=O->zx k/\Nv.It (A5 (CN 0) PP (fun env σ1=>A7 PP ue env σ1 (di (dv p (W k l) k)) bd) [zu ue 52,bh 0,zt ue 7] (cz 19 [(0,bt (ae (U vi l))),(kr F fs cs),(7,di (I l:Int)),(8,zw k)]) bd)))/\(yd k (I l)->di (-1)=di (dv p (W k l) k))) ⟨fun h=>?_,fun h=>?_⟩
 ·have hk:k<I l:=by simpa using h
  have hx:l[k]?=G l[k]:=HK hk
  rw[HZ hk]
  generalize l[k]=x at hx⊢
  refine⟨x,by omega,Ae hx,hp x (HQ hx),fun hf=>by simp[dv,hf],fun hf=>⟨Ac,⟨?_⟩⟩⟩
  simp only[dv,hf]
  exact ih (I l- (k+1)) (by omega) (k+1) rfl
 grind[drop_of_length_le,dv]
theorem AhF(F:yx)(fs cs:List V)(p:Int->Bool)(l:List (Int))(hl:I l<=1000000)(hp:∀x∈l,F0 F ((fs++[vi x]++cs).map .v) (db (p x))):
  F0 129 [dl (l.map vi),.v (.fn F fs cs)] (di (dv p l 0)):=by
 refine zq ue 19 (.l [ke 0,ke 1,ch 7 (di (I l)),ch 8 (di (0:Nat))]) (di (I (U vi l):Int)=di (I l:Int)/\Q (di 0)/\I0 ue (I bd.H) (di (dv p l 0)) bd [zu ue 52,bh 0,zt ue 7] (cz 19 [(0,dl (U vi l)),(kr F fs cs),(7,di (I l:Int)),(8,di (↑0:Int))]) bd) ⟨by simp,rfl,⟨?_⟩⟩
 exact AhG F fs cs p l hl hp _ 0 rfl
theorem Ej(F:yx)(fs cs:List V)(p:Int->Bool)(l:List (Int))(hl:I l<=1000000)(hp:∀x∈l,F0 F ((fs++[vi x]++cs).map .v) (db (p x))):
  F0 90 [dl (l.map vi),.v (.fn F fs cs)] (db (l.any p)):=by
 refine zq Ar8 9 (.c (di (dv p l 0)) .r) (F0 129 [bt (ae (U vi l)),bt (bw F fs cs)] (di (dv p l 0))/\db (Y (dv p l 0>=0))=db (List.any l p)) ?_
 grind[AhF,Fp]
theorem AhA(F:yx)(fs cs:List V)(p:b9->Bool)(l:List (b9))(hl:I l<=1000000)(hp:∀x∈l,F0 F ((fs++[Ad x]++cs).map .v) (db (p x)))(n:Nat):∀k:Nat,I l-k=n->
  Rn PP uc 0 (di (dv p (l.drop k) k)) bd ([zu uc 52,.blk 0,zt uc 7]++[]) (cz 19 [(0,dl (l.map eV)),(1,.v (.fn F fs cs)),(7,di (I l)),(8,di k)]) bd:=by
 induction n using Nat.strongRecOn with
 |_ n ih=>
 intro k hn
 refine zp (.b (.e fun x:b9=>.x (Ad x)<|.c (db (p x))<|.b .r (.l (qr k))) .r) ((ye k (I l)->∃a,y6 k/\zy (U eV l) k (Ad a)/\Aa PP F (U bt (fs++[Ad a]++cs)) d7 (db (p a)) d7/\(p a=J->di (k:Int)=di (dv p (W k l) k))/\(p a=O->zx k/\Nv.It (A5 (CN 0) PP (fun env σ1=>A7 PP uc env σ1 (di (dv p (W k l) k)) bd) [zu uc 52,bh 0,zt uc 7] (cz 19 [(0,bt (ae (U eV l))),(kr F fs cs),(7,di (I l:Int)),(8,zw k)]) bd)))/\(yd k (I l)->di (-1)=di (dv p (W k l) k))) ⟨fun h=>?_,fun h=>?_⟩
 ·have hk:k<I l:=by simpa using h
  have hx:l[k]?=G l[k]:=HK hk
  rw[HZ hk]
  generalize l[k]=x at hx⊢
  refine⟨x,by omega,Ap hx,hp x (HQ hx),fun hf=>by simp[dv,hf],fun hf=>⟨Ac,⟨?_⟩⟩⟩
  simp only[dv,hf]
  exact ih (I l- (k+1)) (by omega) (k+1) rfl
 grind[drop_of_length_le,dv]
theorem QC(F:yx)(fs cs:List V)(p:b9->Bool)(l:List (b9))(hl:I l<=1000000)(hp:∀x∈l,F0 F ((fs++[Ad x]++cs).map .v) (db (p x))):
  F0 74 [dl (l.map eV),.v (.fn F fs cs)] (di (dv p l 0)):=by
 refine zq uc 19 (.l [ke 0,ke 1,ch 7 (di (I l)),ch 8 (di (0:Nat))]) (di (I (U eV l):Int)=di (I l:Int)/\Q (di 0)/\I0 uc (I bd.H) (di (dv p l 0)) bd [zu uc 52,bh 0,zt uc 7] (cz 19 [(0,dl (U eV l)),(kr F fs cs),(7,di (I l:Int)),(8,di (↑0:Int))]) bd) ⟨by simp,rfl,⟨?_⟩⟩
 exact AhA F fs cs p l hl hp _ 0 rfl
theorem Lg(F:yx)(fs cs:List V)(p:b9->Bool)(l:List (b9))(hl:I l<=1000000)(hp:∀x∈l,F0 F ((fs++[Ad x]++cs).map .v) (db (p x))):
  F0 255 [dl (l.map eV),.v (.fn F fs cs)] (db (l.any p)):=by
 refine zq Ar6 9 (.c (di (dv p l 0)) .r) (F0 74 [bt (ae (U eV l)),bt (bw F fs cs)] (di (dv p l 0))/\db (Y (dv p l 0>=0))=db (List.any l p)) ?_
 grind[QC,Fp]
noncomputable def sx:=yl ui
theorem Aik(a b:List (Int))(ha:I a<=1000000)(hab:I a=I b)(n:Nat):∀k:Nat,I a-k=n->
  Rn PP ui 0 (db (Y (a.drop k=b.drop k))) bd ([kl sx [1,1,0,1,0,0],.blk 0,kc sx [1,1,1]]++[]) (cz 26 [(0,dl (a.map vi)),(1,dl (b.map vi)),(12,di (I a)),(13,di k)]) bd:=by
 induction n using Nat.strongRecOn with
 |_ n ih=>
 intro k hn
 refine lv 26 [] (.b (.e fun x:Int=>.x (vi x)<|.e fun y:Int=>.x (vi y)<|.b .r (.l [ke 0,ke 1,ke 12,ch 13 (di (k+1:Nat))])) .r) ((Y ((k:Int)<(I a:Int))=J->∃a_2,0<=(k:Int)/\(U vi a)[Z (k:Int)]?=G (vi a_2)/\∃a_3,0<=(k:Int)/\(U vi b)[Z (k:Int)]?=G (vi a_3)/\((a_2 !=a_3)=J->db O=db (Y (W k a=W k b)))/\((a_2 !=a_3)=O->di (yu yt ((k:Int)+1))=di (↑(k+1):Int)/\Nv.It (A5 (CN 0) PP (fun env σ1=>A7 PP ui env σ1 (db (Y (W k a=W k b))) bd) [kl sx e9,bh 0,kc sx [1,1,1]] (cz 26 [(0,bt (ae (U vi a))),(1,bt (ae (U vi b))),(12,di (I a:Int)),(13,di (↑(k+1):Int))]) d7)))/\(Y ((k:Int)<(I a:Int))=O->db J=db (Y (W k a=W k b)))) ⟨fun h=>?_,fun h=>?_⟩
 ·have hk:k<I a:=by simpa using h
  have hk2:k<I b:=by omega
  have hx:a[k]?=G a[k]:=HK hk
  have hy:b[k]?=G b[k]:=HK hk2
  rw[HZ hk,HZ hk2]
  generalize a[k]=x at hx⊢
  generalize b[k]=y at hy⊢
  refine⟨x,by omega,Ae hx,y,by omega,Ae hy,fun hf=>?_,fun hf=>⟨Ac,⟨?_⟩⟩⟩
  ·have:x≠y:=by simpa using hf
   simp[this]
  ·have:x=y:=by simpa using hf
   subst this
   simpa using ih (I a- (k+1)) (by omega) (k+1) rfl
 grind[drop_of_length_le]
theorem EA(a b:List (Int))(ha:I a<=1000000):F0 206 [dl (a.map vi),dl (b.map vi)] (db (Y (a=b))):=by
 refine zq ui 26 (.b .r (.l [ke 0,ke 1,ch 12 (di (I a)),ch 13 (di (0:Nat))])) ((((I (U vi a):Int) !=(I (U vi b):Int))=J->db O=db (Y (a=b)))/\(((I (U vi a):Int) !=(I (U vi b):Int))=O->di (I (U vi a):Int)=di (I a:Int)/\di 0=di (↑0:Int)/\I0 ui (I bd.H) (db (Y (a=b))) bd [kl sx e9,bh 0,zt ui 15] (cz 26 [(0,dl (U vi a)),(1,dl (U vi b)),(12,di (I a:Int)),(13,di (↑0:Int))]) bd)) ⟨fun h=>?_,fun h=>⟨by simp,rfl,⟨?_⟩⟩⟩
 ·have h:I a≠b.length:=by grind
  rw[HO fun e=>h (by rw[e])]
 ·exact Aik a b ha (by grind) _ 0 rfl
theorem Ek{α:Type}{ls:List (List α)}{k:Nat}(hk:k<I ls):(ls.take (k+1)).flatten=(ls.take k).flatten++ls[k]:=by
 grind[List.take_succ_eq_append_getElem]
theorem GO{α:Type}(ls:List (List α))(k:Nat):(ls.take k).flatten.length<=I ls.flatten:=by
 grind[List.take_append_drop]
theorem OW{α β:Type}{e:α->V}{f:β->V}{a:List α}{b:List β}{by':Nat}(h:I a+I b<=2000000)(hb:by'<=10000):Ao (I (a.map e)+I (b.map f)) by':=by
 rw[HJ,HJ]
 have:(I a+I b)*by'<=2000000*10000:=Nat.mul_le_mul h hb
 omega
abbrev cy(l:List Int):V:=.list (l.map vi)
abbrev cw(l:List Int):D:=.v (cy l)
abbrev cb(l:List Int):List D:=l.map di
theorem Qg(l:List Int):∀y∈l.map vi,y.size=1:=by simp[V.size]
theorem Al9(l:List Int):Ab (l.map vi)=cb l:=by
 unfold Ab cb
 induction l<;>grind[V.cellsV]
theorem Ce(n:Nat)(ts:List Nat):∀l:List Int,D.okNs n ts (cb l)=J
 |[]=>rfl
 |x::l=>by exact Ce n ts l
theorem Ahh(l:List Int):cp 2 [] [none,G ([]++cb l)]=J:=by simp[cp,Ce]
theorem Aes(l:List Int)(hl:I l<=1000000):F0 153 [cw l] (cw l):=by
 by_cases h:l=[]
 ·subst h
  refine VU (ds:=[]) (ds':=[]) fun a cap=>?_
  cases a with
  |none=>
   refine zq Aif 8 .r (bt (ae [])=cw []) ?_
   rfl
  |some a=>
   refine zq Aif 8 (.a 1<|.h (.q 3 2)<|.h (.un 6)<|.r) (Q nV/\Ao 0 8/\bt (ae [])=cw []) ?_
   grind
 ·refine zq Aif 8 (.a 1<|.w .r) (U vi l≠ []/\Q nV/\Ao (I nV+I (U vi l)) 8/\(∀(y:V),y∈U vi l->V.size y=1)/\Q (cw l)) ?_
  grind[V.size]
theorem Pu(l:List Int)(hl:I l<=1000000)(h:l≠ []):Aa PP 153 [cw l] bd (.arr 1 0 (I l)) ⟨[none,G (cb l)],[]⟩:=by
 refine zq Aif 8 (.h .g<|.h (.q 3 3)<|.h (.ga 7) .ro) (U vi l≠ []/\Q 0/\U vi l≠ []/\(∀(y:V),y∈U vi l->V.size y=1)/\Ao (0+I (U vi l)) 8/\cp 2 [] [none,G ([]++Ab (U vi l))]=J/\[none,G ([]++Ab (U vi l))]=[none,G (cb l)]/\bo 1 0 (0+I (U vi l))=bo 1 0 (I l)) ?_
 grind[Al9,Ahh,V.size]
theorem Agq(l:List (List UInt8)):∀y∈l.map ab,y.size=1:=by simp[V.size]
noncomputable abbrev ig:=(br 1 [])
theorem AhS(n:Nat)(hn:n<=1000000):Aa PP 193 [.v .nils,di n] bd (.acc 1 []) ⟨[],[(1,1,[])]⟩:=by
 have h1:yt.wrap (0-0)=0:=by decide
 by_cases h:n=0
 ·subst h
  refine zq As4 27 (.f<|.f<|.h (.q 6 0)<|.h (.nw 0 1 1) .r) (yd (↑0:Int) 0/\yb (yu yt ((↑0:Int)-yu yt (0-0))) 0/\Q [(1,1,nV)]/\Q ig) ?_
  grind
 ·refine zq As4 27 (.f<|.t<|.a 1 .r) (yd n 0/\yc (yu yt ((n:Int)-yu yt (0-0))) 0/\iz 0=0/\0<yu yt ((n:Int)-yu yt (0-0))/\Ao (Z (yu yt ((n:Int)-yu yt (0-0)))) 16/\iz 0=0/\Q [(1,1,nV)]/\Q ig) ?_
  grind[An]
noncomputable def ZX:=yl pn
abbrev R0(ls:List (List (List UInt8))):List V:=ls.map fun l=>.list (l.map ab)
noncomputable abbrev iy:=[1,1,1,1,0,1,0,0]
noncomputable abbrev lu:=fun a₀=>(ae (U ab a₀))
noncomputable abbrev w0:=fun a₀=>(bi [] [(1,1,U ab (flatten a₀))])
theorem Ze(ls:List (List (List UInt8)))(hl:I ls<=1000)(ht:I ls.flatten<=1000000)(n:Nat):∀k:Nat,I ls-k=n->
  Rn PP pn 0 (.acc 1 (ls.flatten.map ab)) ⟨[],[(1,1,ls.flatten.map ab)]⟩ ([kl ZX [1,1,1,1,0,1,0,0],.blk 2,kc ZX [1,1,1,1,1]]++[]) (cz 36 [(0,dl (R0 ls)),(6,.acc 1 ((ls.take k).flatten.map ab)),(25,dl (R0 ls)),(26,di (I ls)),(27,di k)]) ⟨[],[(1,1,(ls.take k).flatten.map ab)]⟩:=by
 induction n using Nat.strongRecOn with
 |_ n ih=>
 intro k hn
 refine lv 36 [] (.b (.e fun x:List (List UInt8)=>.x (.list (x.map ab))<|.w<|.ls [ke 0,ch 6 (.acc 1 ((ls.take (k+1)).flatten.map ab)),ke 25,ke 26,ch 27 (di (k+1:Nat))] ⟨[],[(1,1,(ls.take (k+1)).flatten.map ab)]⟩) .r) ((Y ((k:Int)<(I ls:Int))=J->∃a,0<=(k:Int)/\(R0 ls)[Z (k:Int)]?=G (lu a)/\Q (U ab (flatten (take k ls)))/\Ao (I (U ab (flatten (take k ls)))+I (U ab a)) 16/\(∀(y:V),y∈U ab a->V.size y=1)/\br 1 (U ab (flatten (take k ls))++U ab a)=br 1 (U ab (flatten (take (k+1) ls)))/\di (yu yt ((k:Int)+1))=di (↑(k+1):Int)/\[(1,1,U ab (flatten (take k ls))++U ab a)]=[(1,1,U ab (flatten (take (k+1) ls)))]/\Nv.It (A5 (CN 0) PP (fun env σ1=>A7 PP pn env σ1 (br 1 (U ab (flatten ls))) (w0 ls)) [kl ZX iy,bh 2,kc ZX [1,1,1,1,1]] (cz 36 [(0,bt (ae (R0 ls))),(6,br 1 (U ab (flatten (take (k+1) ls)))),(25,bt (ae (R0 ls))),(26,di (I ls:Int)),(27,di (↑(k+1):Int))]) (bi [] [(1,1,U ab (flatten (take (k+1) ls)))])))/\(Y ((k:Int)<(I ls:Int))=O->[(1,1,U ab (flatten (take k ls)))]=[(1,1,U ab (flatten ls))]/\br 1 (U ab (flatten (take k ls)))=br 1 (U ab (flatten ls)))) ⟨fun h=>?_,fun h=>?_⟩
 ·have hk:k<I ls:=by simpa using h
  have hx:ls[k]?=G ls[k]:=HK hk
  have hf:=Ek hk
  have hle:=GO ls (k+1)
  have hih:=ih (I ls- (k+1)) (by omega) (k+1) rfl
  rw[hf] at hle hih⊢
  generalize ls[k]=x at hx hle hih⊢
  simp only[HY] at hle
  refine⟨x,by omega,by simp[hx],rfl,OW (by omega) (by decide),Agq x,by simp,Ac,by simp,⟨hih⟩⟩
 grind[List.take_of_length_le]
noncomputable abbrev t8:=(bi [] [(1,1,[])])
theorem Zf(ls:List (List (List UInt8)))(hl:I ls<=1000)(ht:I ls.flatten<=1000000)(n:Nat):∀k:Nat,I ls-k=n->
  Rn PP pn 0 (.acc 1 (ls.flatten.map ab)) ⟨[],[(1,1,ls.flatten.map ab)]⟩ ([kl ZX [1,1,0,1,0,0],.blk 0,kc ZX [1,1,1]]++[]) (cz 36 [(0,dl (R0 ls)),(3,di ((ls.take k).flatten.length:Nat)),(9,dl (R0 ls)),(10,di (I ls)),(11,di k)]) bd:=by
 induction n using Nat.strongRecOn with
 |_ n ih=>
 intro k hn
 refine lv 36 [] (.b (.e fun x:List (List UInt8)=>.x (.list (x.map ab))<|.f<|.l [ke 0,ch 3 (di ((ls.take (k+1)).flatten.length:Nat)),ke 9,ke 10,ch 11 (di (k+1:Nat))]) (.h (.ckn 1 1 1 [])<|.ls [ke 0,ch 6 (.acc 1 ((ls.take 0).flatten.map ab)),ke 25,ch 26 (di (I ls)),ch 27 (di (0:Nat))] ⟨[],[(1,1,(ls.take 0).flatten.map ab)]⟩)) ((Y ((k:Int)<(I ls:Int))=J->∃a,0<=(k:Int)/\(R0 ls)[Z (k:Int)]?=G (lu a)/\Y (yu yt ((I (flatten (take k ls)):Int)+(I (U ab a):Int))<0)=O/\di (yu yt ((I (flatten (take k ls)):Int)+(I (U ab a):Int)))=di (I (flatten (take (k+1) ls)):Int)/\di (yu yt ((k:Int)+1))=di (↑(k+1):Int)/\Nv.It (A5 (CN 0) PP (fun env σ1=>A7 PP pn env σ1 (br 1 (U ab (flatten ls))) (w0 ls)) [kl ZX e9,bh 0,kc ZX [1,1,1]] (cz 36 [(0,bt (ae (R0 ls))),(3,di (I (flatten (take (k+1) ls)):Int)),(9,bt (ae (R0 ls))),(10,di (I ls:Int)),(11,di (↑(k+1):Int))]) bd))/\(Y ((k:Int)<(I ls:Int))=O->Aa PP 193 [dn,di (I (flatten (take k ls)):Int)] d7 ig t8/\Q ig/\di (I (R0 ls):Int)=di (I ls:Int)/\di 0=di (↑0:Int)/\Q [(1,1,nV)]/\I0 pn 0 (br 1 (U ab (flatten ls))) (w0 ls) [kl ZX iy,bh 2,kc ZX [1,1,1,1,1]] (cz 36 [(0,bt (ae (R0 ls))),(6,br 1 []),(25,bt (ae (R0 ls))),(26,di (I ls:Int)),(27,di (↑0:Int))]) t8)) ⟨fun h=>?_,fun h=>?_⟩
 ·have hk:k<I ls:=by grind
  have hx:ls[k]?=G ls[k]:=HK hk
  have hf:=I6 I (Ek hk)
  rw[HY] at hf
  have hle:=GO ls (k+1)
  generalize ls[k]=x at hx hf⊢
  have h2:yt.wrap ((((ls.take k).flatten.length:Nat):Int)+(I (x.map ab):Int))=(((ls.take (k+1)).flatten.length:Nat):Int):=by rw[An (by omega) (by grind),hf];simp
  refine⟨x,by omega,by simp[hx],by grind,by rw[h2],Ac,⟨?_⟩⟩
  grind
 ·have hk:I ls<=k:=by grind
  rw[IB hk]
  refine⟨AhS (I ls.flatten) ht,rfl,by simp,rfl,rfl,⟨?_⟩⟩
  exact Ze ls hl ht _ 0 rfl
theorem Aem(ls:List (List (List UInt8)))(hl:I ls<=1000)(ht:I ls.flatten<=1000000):Aa PP 134 [dl (R0 ls)] bd (.acc 1 (ls.flatten.map ab)) ⟨[],[(1,1,ls.flatten.map ab)]⟩:=by
 refine zq pn 36 (.l [ke 0,ch 3 (di ((ls.take 0).flatten.length:Nat)),ke 9,ch 10 (di (I ls)),ch 11 (di (0:Nat))]) (Q (di 0)/\di (I (R0 ls):Int)=di (I ls:Int)/\Q (di 0)/\I0 pn (I bd.H) (br 1 (U ab (flatten ls))) (w0 ls) [kl ZX e9,bh 0,zt pn 15] (cz 36 [(0,dl (R0 ls)),(3,di (I (flatten (take 0 ls)):Int)),(9,dl (R0 ls)),(10,di (I ls:Int)),(11,di (↑0:Int))]) bd) ⟨rfl,by simp,rfl,⟨?_⟩⟩
 exact Zf ls hl ht _ 0 rfl
structure Tk where
 place:Int
 low:Int
 high:Int
 deriving DecidableEq,Inhabited
abbrev d9(t:Tk):V:=.agg [vi t.place,vi t.low,vi t.high]
abbrev AH(l:List Tk):V:=.list (l.map d9)
structure cm where
 name:List UInt8
 ai:Int
 to:Int
 ak:List Int
 aj:List Int
 move:List Int
 chan:Int
 act:Int
 letter:Int
 path:List Int
 next:List Int
 aq:List Tk
 ao:List Int
 second:Int
 deriving DecidableEq,Inhabited
abbrev Aj(r:cm):V:=.agg [.str r.name,vi r.ai,vi r.to,cy r.ak,cy r.aj,cy r.move,vi r.chan,vi r.act,vi r.letter,cy r.path,cy r.next,AH r.aq,cy r.ao,vi r.second]
abbrev Hk(l:List cm):V:=.list (l.map Aj)
abbrev cc(l:List (List UInt8)):V:=.list (l.map ab)
structure cx where
 kind:Int
 aw:List (List UInt8)
 ay:List (List UInt8)
 ax:List (List UInt8)
 au:List Int
 am:Int
 age:Int
 av:List cm
 start:b9
 deriving Inhabited
abbrev Aq(m:cx):V:=.agg [vi m.kind,cc m.aw,cc m.ay,cc m.ax,cy m.au,vi m.am,vi m.age,Hk m.av,vi m.start.n,dq m.start.az]
abbrev Af(m:cx):D:=.v (Aq m)
abbrev BK(r:cm):D:=.v (Aj r)
def A4(x a b:Int):Bool:=Y (a<=x)&&Y (x<=b)
theorem Er(x a b:Int):F0 96 [di x,di a,di b] (db (A4 x a b)):=by
 refine zq ArQ 15 (.b .r .r) ((y8 x a->db (Y (x<=b))=db (A4 x a b))/\(y7 x a->db O=db (A4 x a b))) ?_
 grind[A4]
theorem CD(x:Int)(n:Nat)(hn:n<=1000000):F0 138 [di x,di n] (db (A4 x 0 (n-1))):=by
 refine zq AlI 9 (.c (db (A4 x 0 (n-1))) .r) (F0 96 [di x,di 0,di (yu yt ((n:Int)-1))] (db (A4 x 0 ((n:Int)-1)))/\Q (db (A4 x 0 ((n:Int)-1)))) ?_
 grind[An,Er]
theorem Y3(F:yx)(fs cs:List V)(p:Int->Bool)(x:Int)(hp:F0 F ((fs++[vi x]++cs).map .v) (db (p x))):F0 205 [di x,.v (.ref (.fn F fs cs))] (db (!p x)):=by
 refine zq AoW 8 (.c (db (p x)) .r) (type_of% hp/\(db !p x)=db !p x) ?_
 grind
theorem Ht(F:yx)(fs cs:List V)(p:Int->Bool)(l:List Int)(hl:I l<=1000000)(hp:∀x∈l,F0 F ((fs++[vi x]++cs).map .v) (db (p x))):F0 144 [cw l,.v (.fn F fs cs)] (db (l.all p)):=by
 refine sv Ar4 9 [3] (.c (db (l.any fun x=> !p x)) .r) (F0 90 [cw l,bt (bw 205 [] [bz (bw F fs cs)])] (db (List.any l fun x=> !p x))/\(db !List.any l fun x=> !p x)=db (List.all l p)) ?_
 refine⟨Ej _ [] _ (fun x=> !p x) l hl fun x hx=>Y3 F fs cs p x (hp x hx),?_⟩
 grind
abbrev DW(x:Int):Bool:=A4 x 0 16
theorem Tb(x:Int):F0 198 [di x] (db (DW x)):=by
 refine zq ArP 5 (.c (db (DW x)) .r) (F0 96 [di x,di 0,di 16] (db (DW x))/\Q (db (DW x))) ?_
 grind[Er]
structure cm.short(r:cm):Prop where
 ak:I r.ak<=1000000
 aj:I r.aj<=1000000
 move:I r.move<=1000000
 path:I r.path<=1000000
 next:I r.next<=1000000
 aq:I r.aq<=1000000
 ao:I r.ao<=1000000
def Cf(m:cx)(r:cm):Bool:=((I r.ak:Int)==I m.ay)&&(((I r.aj:Int)==I m.ay)&&(r.ak.all DW&&r.aj.all DW))
noncomputable abbrev df:=fun a₀=>(U ab a₀)
noncomputable abbrev Axg:=fun a₀=>F0 144 [cw a₀,bt (bw 198 [] [])] (db (List.all a₀ DW))
noncomputable abbrev dt:=fun a₀=>(U vi a₀)
theorem Xl(m:cx)(r:cm)(hr:r.short):F0 139 [Af m,BK r] (db (Cf m r)):=by
 refine sv Atf 34 [2,3] (.b (.b (.c (db (r.ak.all DW))<|.b (.c (db (r.aj.all DW)) .r) .r) .r) .r) ((((I (dt r.ak):Int)==(I (df m.ay):Int))=J->(((I (dt r.aj):Int)==(I (df m.ay):Int))=J->Axg r.ak/\(List.all r.ak DW=J->Axg r.aj/\db (List.all r.aj DW)=db (Cf m r))/\(List.all r.ak DW=O->db O=db (Cf m r)))/\(((I (dt r.aj):Int)==(I (df m.ay):Int))=O->db O=db (Cf m r)))/\(((I (dt r.ak):Int)==(I (df m.ay):Int))=O->db O=db (Cf m r))) ?_
 refine⟨fun h1=>⟨fun h2=>⟨Ht _ [] [] DW _ hr.ak fun x _=>Tb x,fun h3=>⟨Ht _ [] [] DW _ hr.aj fun x _=>Tb x,?_⟩,fun h3=>?_⟩,fun h2=>?_⟩,fun h1=>?_⟩<;>(simp only[HJ] at*;simp[Cf, *])
theorem Ac7(n:Nat)(hn:n<=1000000)(x:Int):F0 199 [di x,.v (.ref (vi n))] (db (A4 x (-1) (n-1))):=by
 refine zq Ar2 8 (.c (db (A4 x (-1) (n-1))) .r) (F0 96 [di x,di (-1),di (yu yt ((n:Int)-1))] (db (A4 x (-1) ((n:Int)-1)))/\Q (db (A4 x (-1) ((n:Int)-1)))) ?_
 grind[An,Er]
def E6(m:cx)(r:cm):Bool:=((I r.move:Int)==0)||(((I r.move:Int)==I m.ay)&&r.move.all fun x=>A4 x (-1) (I m.ay-1))
theorem Aho(m:cx)(hm:I m.ay<=1000000)(r:cm)(_:r.short):F0 140 [Af m,BK r] (db (E6 m r)):=by
 refine sv AsY 26 [2,3] (.h (.q 2 0)<|.h (.f1 0 [5])<|.b .r (.b (.c (db (r.move.all fun x=>A4 x (-1) (I m.ay-1))) .r) .r)) ((((I (dt r.move):Int)==0)=J->db J=db (E6 m r))/\(((I (dt r.move):Int)==0)=O->(((I (dt r.move):Int)==(I (df m.ay):Int))=J->F0 144 [cw r.move,bt (bw 199 [] [bz (vi (I (df m.ay):Int))])] (db (List.all r.move fun x=>A4 x (-1) ((I m.ay:Int)-1)))/\db (List.all r.move fun x=>A4 x (-1) ((I m.ay:Int)-1))=db (E6 m r))/\(((I (dt r.move):Int)==(I (df m.ay):Int))=O->db O=db (E6 m r)))) ?_
 grind[Ht,Ac7,E6]
def ED(m:cx)(r:cm):Bool:=if (r.act==0)=J then(r.chan==0)&&(r.letter==0) else A4 r.act 1 2&&(A4 r.chan 0 (I m.ay-1)&&A4 r.letter 0 (I m.ax-1))
noncomputable abbrev Au1:=fun a₀ b₀=>F0 138 [di a₀,di (I (df b₀):Int)] (db (A4 a₀ 0 ((I b₀:Int)-1)))
theorem AeP(m:cx)(hm:I m.ay<=1000000)(hl:I m.ax<=1000000)(r:cm):F0 141 [Af m,BK r] (db (ED m r)):=by
 refine sv ArR 35 [2,3] (.b (.b .r .r) (.c (db (A4 r.act 1 2))<|.b (.c (db (A4 r.chan 0 (I m.ay-1)))<|.b (.c (db (A4 r.letter 0 (I m.ax-1))) .r) .r) .r)) (((r.act==0)=J->((r.chan==0)=J->db (r.letter==0)=db (ED m r))/\((r.chan==0)=O->db O=db (ED m r)))/\((r.act==0)=O->F0 96 [di r.act,di 1,di 2] (db (A4 r.act 1 2))/\(A4 r.act 1 2=J->Au1 r.chan m.ay/\(A4 r.chan 0 ((I m.ay:Int)-1)=J->Au1 r.letter m.ax/\db (A4 r.letter 0 ((I m.ax:Int)-1))=db (ED m r))/\(A4 r.chan 0 ((I m.ay:Int)-1)=O->db O=db (ED m r)))/\(A4 r.act 1 2=O->db O=db (ED m r)))) ?_
 grind[Er,CD,ED]
theorem AdH(a:List Tk):F0 207 [.v (AH a),.v (AH [])] (db (Y (a=[]))):=by
 refine zq As6 26 (.b .r (.n<|.f .r)) ((((I (U d9 a):Int) !=(I (U d9 []):Int))=J->db O=db (Y (a=[])))/\(((I (U d9 a):Int) !=(I (U d9 []):Int))=O->yd 0 (I (U d9 a))/\db J=db (Y (a=[])))) ?_
 simp_all
def Cj(a b:cm):Bool:=(a.name==b.name)&&((a.ai==b.ai)&&((a.to==b.to)&&(Y (a.ak=b.ak)&&(Y (a.aj=b.aj)&&(Y (a.move=b.move)&&((a.chan==b.chan)&&((a.act==b.act)&&((a.letter==b.letter)&&(Y (a.path=b.path)&&(Y (a.next=b.next)&&(Y (a.aq=[])&&(Y (a.ao=b.ao)&&(a.second==b.second)))))))))))))
theorem MT(a b:cm)(ha:a.short)(hb:b.aq=[]):F0 146 [BK a,BK b] (db (Cj a b)):=by
 refine sv AoL 101 [2,3] (.b (.b (.b (.c (db (Y (a.ak=b.ak)))<|.b (.c (db (Y (a.aj=b.aj)))<|.b (.c (db (Y (a.move=b.move)))<|.b (.b (.b (.b (.c (db (Y (a.path=b.path)))<|.b (.c (db (Y (a.next=b.next)))<|.b (.c (db (Y (a.aq=[])))<|.b (.c (db (Y (a.ao=b.ao)))<|.b .r .r) .r) .r) .r) .r) .r) .r) .r) .r) .r) .r) .r) .r) (((a.name==b.name)=J->((a.ai==b.ai)=J->((a.to==b.to)=J->F0 206 [cw a.ak,cw b.ak] (db (Y (a.ak=b.ak)))/\(Y (a.ak=b.ak)=J->F0 206 [cw a.aj,cw b.aj] (db (Y (a.aj=b.aj)))/\(Y (a.aj=b.aj)=J->F0 206 [cw a.move,cw b.move] (db (Y (a.move=b.move)))/\(Y (a.move=b.move)=J->((a.chan==b.chan)=J->((a.act==b.act)=J->((a.letter==b.letter)=J->F0 206 [cw a.path,cw b.path] (db (Y (a.path=b.path)))/\(Y (a.path=b.path)=J->F0 206 [cw a.next,cw b.next] (db (Y (a.next=b.next)))/\(Y (a.next=b.next)=J->F0 207 [bt (AH a.aq),bt (AH b.aq)] (db (Y (a.aq=[])))/\(Y (a.aq=[])=J->F0 206 [cw a.ao,cw b.ao] (db (Y (a.ao=b.ao)))/\(Y (a.ao=b.ao)=J->db (a.second==b.second)=db (Cj a b))/\(Y (a.ao=b.ao)=O->db O=db (Cj a b)))/\(Y (a.aq=[])=O->db O=db (Cj a b)))/\(Y (a.next=b.next)=O->db O=db (Cj a b)))/\(Y (a.path=b.path)=O->db O=db (Cj a b)))/\((a.letter==b.letter)=O->db O=db (Cj a b)))/\((a.act==b.act)=O->db O=db (Cj a b)))/\((a.chan==b.chan)=O->db O=db (Cj a b)))/\(Y (a.move=b.move)=O->db O=db (Cj a b)))/\(Y (a.aj=b.aj)=O->db O=db (Cj a b)))/\(Y (a.ak=b.ak)=O->db O=db (Cj a b)))/\((a.to==b.to)=O->db O=db (Cj a b)))/\((a.ai==b.ai)=O->db O=db (Cj a b)))/\((a.name==b.name)=O->db O=db (Cj a b))) ?_
 repeat' first|with_reducible refine And.intro ?_ ?_|intro _
 all_goals first|exact EA _ _ ha.ak|exact EA _ _ ha.aj|exact EA _ _ ha.move|exact EA _ _ ha.path|exact EA _ _ ha.next|exact EA _ _ ha.ao|(rw[hb];exact AdH _)|simp[Cj, *]
def Si(r:cm):cm:={ name:=r.name,ai:=r.ai,to:=r.to,ak:=r.ak,aj:=r.aj,move:=r.move,chan:=0,act:=0,letter:=0,path:=[],next:=[],aq:=[],ao:=[],second:=0 }
def N5(r:cm):cm:={ name:=r.name,ai:=r.ai,to:=r.to,ak:=[],aj:=[],move:=[],chan:=r.chan,act:=r.act,letter:=r.letter,path:=[],next:=[],aq:=[],ao:=[],second:=0 }
def EO(m:cx)(r:cm):Bool:=A4 r.to 0 (I m.aw-1)&&(A4 r.ai 0 (I m.aw-1)&&(Cf m r&&(E6 m r&&Cj r (Si r))))
structure cx.short(m:cx):Prop where
 aw:I m.aw<=1000000
 ay:I m.ay<=1000000
 ax:I m.ax<=1000000
 au:I m.au<=1000000
 av:I m.av<=1000000
 rule:∀r∈m.av,r.short
theorem U5(m:cx)(hm:m.short)(hk:m.kind=1)(r:cm)(hr:r.short):F0 102 [Af m,BK r] (db (EO m r)):=by
 refine sv S8 142 [2,3] (.c (db (A4 r.to 0 (I m.aw-1)))<|.b .r<|.c (db (A4 r.ai 0 (I m.aw-1)))<|.b (.t .r)<|.k<|.t<|.c (db (Cf m r))<|.b (.c (db (E6 m r))<|.b (.c (db (Cj r (Si r))) .r) .r) .r) (F0 138 [di r.to,di (I (U ab m.aw):Int)] (db (A4 r.to 0 ((I m.aw:Int)-1)))/\((!A4 r.to 0 ((I m.aw:Int)-1))=J->db O=db (EO m r))/\((!A4 r.to 0 ((I m.aw:Int)-1))=O->F0 138 [di r.ai,di (I (U ab m.aw):Int)] (db (A4 r.ai 0 ((I m.aw:Int)-1)))/\((!A4 r.ai 0 ((I m.aw:Int)-1))=J->(m.kind !=6)=J/\db O=db (EO m r))/\((!A4 r.ai 0 ((I m.aw:Int)-1))=O->(m.kind==1)=J/\F0 139 [Af m,BK r] (db (Cf m r))/\(Cf m r=J->F0 140 [Af m,BK r] (db (E6 m r))/\(E6 m r=J->F0 146 [BK r,bt (aa [ab r.name,vi r.ai,vi r.to,cy r.ak,cy r.aj,cy r.move,vi 0,vi 0,vi 0,ae [],ae [],ae [],ae [],vi 0])] (db (Cj r (Si r)))/\db (Cj r (Si r))=db (EO m r))/\(E6 m r=O->db O=db (EO m r)))/\(Cf m r=O->db O=db (EO m r))))) ?_
 repeat' first|with_reducible refine And.intro ?_ ?_|intro _
 all_goals first|(simpa using CD _ _ hm.aw)|exact Xl m r hr|exact Aho m hm.ay r hr|exact MT r (Si r) hr rfl|simp_all [EO]
def FC(m:cx)(r:cm):Bool:=A4 r.to 0 (I m.aw-1)&&(A4 r.ai 0 (I m.aw-1)&&(ED m r&&Cj r (N5 r)))
theorem U4(m:cx)(hm:m.short)(hk:m.kind=2∨m.kind=3)(r:cm)(hr:r.short):F0 102 [Af m,BK r] (db (FC m r)):=by
 refine sv S8 142 [2,3] (.c (db (A4 r.to 0 (I m.aw-1)))<|.b .r<|.c (db (A4 r.ai 0 (I m.aw-1)))<|.b (.t .r)<|.k<|.f<|.b (.k<|.c (db (ED m r))<|.b (.c (db (Cj r (N5 r))) .r) .r) (.t<|.c (db (ED m r))<|.b (.c (db (Cj r (N5 r))) .r) .r)) (F0 138 [di r.to,di (I (U ab m.aw):Int)] (db (A4 r.to 0 ((I m.aw:Int)-1)))/\((!A4 r.to 0 ((I m.aw:Int)-1))=J->db O=db (FC m r))/\((!A4 r.to 0 ((I m.aw:Int)-1))=O->F0 138 [di r.ai,di (I (U ab m.aw):Int)] (db (A4 r.ai 0 ((I m.aw:Int)-1)))/\((!A4 r.ai 0 ((I m.aw:Int)-1))=J->(m.kind !=6)=J/\db O=db (FC m r))/\((!A4 r.ai 0 ((I m.aw:Int)-1))=O->(m.kind==1)=O/\((m.kind==2)=J->F0 141 [Af m,BK r] (db (ED m r))/\(ED m r=J->F0 146 [BK r,bt (aa [ab r.name,vi r.ai,vi r.to,ae [],ae [],ae [],vi r.chan,vi r.act,vi r.letter,ae [],ae [],ae [],ae [],vi 0])] (db (Cj r (N5 r)))/\db (Cj r (N5 r))=db (FC m r))/\(ED m r=O->db O=db (FC m r)))/\((m.kind==2)=O->(m.kind==3)=J/\F0 141 [Af m,BK r] (db (ED m r))/\(ED m r=J->F0 146 [BK r,bt (aa [ab r.name,vi r.ai,vi r.to,ae [],ae [],ae [],vi r.chan,vi r.act,vi r.letter,ae [],ae [],ae [],ae [],vi 0])] (db (Cj r (N5 r)))/\db (Cj r (N5 r))=db (FC m r))/\(ED m r=O->db O=db (FC m r)))))) ?_
 repeat' first|with_reducible refine And.intro ?_ ?_|intro _
 all_goals first|(simpa using CD _ _ hm.aw)|exact AeP m hm.ay hm.ax r|exact MT r (N5 r) hr rfl|(rcases hk with hk|hk<;>simp_all [FC])
end Go.Proofs.YtgigepkgakpjbaaGreat

namespace Go.Nv
abbrev CS(m r:Nat)(l:List (List UInt8))(E0 E:c9):Prop:=vf r (D5 l) E0 E/\E.g.n<=m
theorem Ao0(m r:Nat)(l:List (List UInt8)):Ou (CS m r l):=⟨fun h _ _ _ hw=>h.1.link _ _ _ hw⟩
section
variable {P : x7} {R : List D -> St -> Prop} {k : List KI} {env : List D} {σ : St} {ops : Array yy} {L : List yy} {o : yy}
theorem Yc{m:Nat}(t:Nat){ty:x6}(hg:Ci env ops o=G true)(ht:o.dst=G t)(hop:o.op=.makeMap ty none)
  (hk:∀r:Nat,BS (CS (I σ.H) r []) P R k ops L (env.set t (.raw (.map (G r)))) σ):BS (CN m) P R k ops (o::L) env σ:=by
 intro E0 E g a w B hC hf hB
 unfold wpList
 rw[I4 (CP hf.env hg)]
 refine .inl ?_
 have hw:=(NA m).ok hC hf.wi
 have hput:=hf.put (hf.wi.alloc (.map #[] 0)) g.le_refl (d:=.raw (.map (G w.heap.size))) (u:=.map (G w.heap.size)) (by rfl) (G t)
 have hsize:(w.alloc (.map #[] 0)).heap.size=w.heap.size+1:=by simp
 obtain⟨h1,h2⟩:=vf.of (r:=w.heap.size) (ob:=.map #[] 0) (w1:=w.alloc (.map #[] 0)) hw
  (fun b hb=>by
   grind[World.alloc])
  (heap_alloc_new w _) (by omega) rfl rfl rfl hw.size (hw.rep.new_none (HR _)) (fun i cs hi=>Nat.ne_of_lt (hw.rep.obj_lt hi)) (fun x hx u hu hb=>by have:=hw.rep.own_lt hx hu hb;omega)
 have:=hk w.heap.size E0 _ g _ _ B ⟨h1,Nat.le_of_eq hw.rep.n⟩ ⟨h2,hput.env,hput.defers⟩ hB
 unfold Oper.wp execOp
 simpa[hop,Instr.makeMap,ht,Oper.upon] using this
theorem Abv{m:Nat}(t sm sk:Nat){ty kt et:x6}{r:Nat}{s:List UInt8}{l:List (List UInt8)}{inf:TypeInfo}(hg:Ci env ops o=G true)(ht:o.dst=G t)(hop:o.op=.lookup ty (.tmp sm) (.tmp sk) false)
  (hty:P.underlying ty=G (.map kt et)) (hkt:P.underlying kt=G .string) (hi:P.info? et=G inf) (hz:inf.zero=G (.bool false)) (hm:env[sm]?=G (.raw (.map (G r)))) (hs:env[sk]?=G (.v (.str s)))
  (hk:BS (CS m r l) P R k ops L (env.set t (.v (.bool (l.contains s)))) σ):BS (CS m r l) P R k ops (o::L) env σ:=by
 intro E0 E g a w B hC hf hB
 unfold wpList
 rw[I4 (CP hf.env hg)]
 refine .inl ?_
 have e1:a.eval (.tmp sm)=.map (G r):=by have:=Gt hf.env sm;grind[WV,Ah]
 have e2:a.eval (.tmp sk)=.string ⟨s.toArray⟩:=by have:=Gt hf.env sk;grind[WV,Ah,D6]
 have hnow:=(hC.1.side.now hf.wi).1
 obtain⟨q,hq⟩:=QH s l 0 0
 have:=hk E0 E g _ _ B hC (hf.put hf.wi g.le_refl (d:=.v (.bool (l.contains s))) (u:=.bool (l.contains s)) (by simp[Ah]) (G t)) hB
 have hrun:(Instr.lookup ty (.map (G r)) (.string ⟨s.toArray⟩) false).run P w=.ok (.bool (l.contains s)) w:=by
  have hget:(getObj r).run P w=.ok (D5 l) w:=by grind[getObj,Sem.run,D5]
  have hfk:(Instr.findKey kt (.string ⟨s.toArray⟩) (Hf 0 l)).run P w=.ok (if l.contains s then G (q,.bool true) else none) w:=by simp only[Instr.findKey,Sem.run_bind,run_underlying hkt,Result.andThen_ok,hq,Sem.run_pure]
  have hck:∀b,(Instr.checkKey b 10000 kt (.string ⟨s.toArray⟩)).run P w=.ok () w:=fun b=>by
   rw[show(10000:Nat)=9999+1 from rfl];unfold Instr.checkKey;simp[run_underlying hkt]
  unfold Instr.lookup
  simp only[Sem.run_bind,run_underlying hty,Result.andThen_ok,hget,D5,Sem.run_pure,hck,hfk]
  cases hc:l.contains s with
  |true=>simp
  |false=>simp[zeroValue,typeInfo,hi,hz]
 grind[Oper.wp,execOp,Sem.run_bind,Result.andThen_ok,Sem.run_pure,Oper.upon]
theorem Abu{m:Nat}(sm sk:Nat){v:x8}{ty kt et:x6}{r:Nat}{s:List UInt8}{l:List (List UInt8)}(hg:Ci env ops o=G true)(ht:o.dst=none)(hop:o.op=.mapUpdate ty (.tmp sm) (.tmp sk) v)(hv:ip env v=.v (.bool true))
  (hty:P.underlying ty=G (.map kt et)) (hkt:P.underlying kt=G .string) (hm:env[sm]?=G (.raw (.map (G r)))) (hs:env[sk]?=G (.v (.str s))) (hnew:l.contains s=O)
  (hk:BS (CS (I σ.H) r (l++[s])) P R k ops L env σ):BS (CS m r l) P R k ops (o::L) env σ:=by
 intro E0 E g a w B hC hf hB
 unfold wpList
 rw[I4 (CP hf.env hg)]
 refine .inl ?_
 have e1:a.eval (.tmp sm)=.map (G r):=by have:=Gt hf.env sm;grind[WV,Ah]
 have e2:a.eval (.tmp sk)=.string ⟨s.toArray⟩:=by have:=Gt hf.env sk;grind[WV,Ah,D6]
 have e3:a.eval v=.bool true:=by have:=Nl hf.wi.rep.gl hf.env v;grind[Ah,EP]
 obtain⟨hnow,hM,hobj,CT⟩:=hC.1.side.now hf.wi
 obtain⟨q,hq⟩:=QH s l 0 0
 rw[hnew] at hq
 have hlt:r<w.heap.size:=(Jm.1 hnow).1
 obtain⟨h1,h2⟩:=vf.of (r:=r) (ob:=D5 (l++[s])) (w1:={ w with heap:=w.heap.setIfInBounds r (D5 (l++[s]))}) (hC.1.link _ _ _ hf.wi) (fun b hb=>by grind) (by grind) (by simp) rfl rfl rfl hC.1.new hM hobj CT
 have:=hk E0 _ g a _ B ⟨h1,Nat.le_of_eq hf.wi.rep.n⟩ ⟨h2,hf.env,hf.defers⟩ hB
 have hrun:(Instr.mapUpdate ty (.map (G r)) (.string ⟨s.toArray⟩) (.bool true)).run P w=.ok () { w with heap:=w.heap.setIfInBounds r (D5 (l++[s]))}:=by
  have hget:(getObj r).run P w=.ok (D5 l) w:=by grind[getObj,Sem.run,D5]
  have hfk:(Instr.findKey kt (.string ⟨s.toArray⟩) (Hf 0 l)).run P w=.ok none w:=by simp only[Instr.findKey,Sem.run_bind,run_underlying hkt,Result.andThen_ok,hq,Sem.run_pure];rfl
  have hck:∀b,(Instr.checkKey b 10000 kt (.string ⟨s.toArray⟩)).run P w=.ok () w:=fun b=>by
   rw[show(10000:Nat)=9999+1 from rfl];unfold Instr.checkKey;simp[run_underlying hkt]
  have hset:∀ob,(setObj r ob).run P w=.ok () { w with heap:=w.heap.setIfInBounds r ob }:=fun ob=>by grind[setObj,Sem.run,D5]
  unfold Instr.mapUpdate
  simp only[Sem.run_bind,run_underlying hty,Result.andThen_ok,hget,D5,hck,hfk]
  grind[NX]
 unfold Oper.wp execOp
 simp only[hop,e1,e2,e3,Sem.run_bind,hrun,Result.andThen_ok]
 simp only[Sem.run_pure,Oper.upon,ht]
 exact this
end
def jm(L:List yy):yy:=match L with
 |o::_=>o
 |[]=>⟨none,.makeMap 0 none,0,"", #[],none⟩
theorem WN{L:List yy}(h:L.isEmpty=O):L=jm L::L.tail:=by cases L with
 |nil=>grind
 |cons o L=>rfl
def mmQ:Op->Bool|.makeMap _ none=>true|_=>false
def p5:Op->x6|.makeMap t _=>t|.lookup t _ _ _=>t|.mapUpdate t _ _ _=>t|_=>0
def luQ(sm sk:Nat):Op->Bool|.lookup _ (.tmp a) (.tmp b) false=>a==sm&&b==sk|_=>false
def muQ(sm sk:Nat):Op->Bool|.mapUpdate _ (.tmp a) (.tmp b) (.const (.bool true))=>a==sm&&b==sk|_=>false
theorem Aou{o:Op}(h:mmQ o=J):o=.makeMap (p5 o) none:=by
 unfold mmQ at h;split at h
 ·rfl
 grind
theorem Aox{sm sk:Nat}{o:Op}(h:luQ sm sk o=J):o=.lookup (p5 o) (.tmp sm) (.tmp sk) false:=by
 unfold luQ at h;grind[p5]
theorem Aot{sm sk:Nat}{o:Op}(h:muQ sm sk o=J):o=.mapUpdate (p5 o) (.tmp sm) (.tmp sk) (.const (.bool true)):=by
 unfold muQ at h;grind[p5]
def wn(P:x7)(ty:x6):Bool:=match P.underlying ty with
 |some (.map kt et)=>(match P.underlying kt with
  |some .string=>true
  |_=>false)&&(match P.info? et with
  |some inf=>(match inf.zero with
   |some (.bool false)=>true
   |_=>false)
  |_=>false)
 |_=>false
theorem Ajt{P:x7}{ty:x6}(h:wn P ty=J):∃kt et inf,P.underlying ty=G (.map kt et)/\P.underlying kt=G .string/\P.info? et=G inf/\inf.zero=G (.bool false):=by
 grind[wn]
theorem KW(n:Nat)(E:List (Nat×D))(t:Nat)(d:D):cz n (E++[(t,d)])=(cz n E).set t d:=by grind[cz]
section
variable {P : x7} {R : List D -> St -> Prop} {k : List KI} {nt : Nat} {E : List (Nat × D)} {σ : St} {ops : Array yy} {L0 : List yy}
theorem U3{m:Nat}(t:Nat)(h0:L0.isEmpty=O)(hg:Ci (cz nt E) ops (jm L0)=G true)(ht:(jm L0).dst=G t)(hop:mmQ (jm L0).op=J)
  (hk:∀r:Nat,BS (CS (I σ.H) r []) P R k ops L0.tail (cz nt (E++[(t,.raw (.map (G r)))])) σ):BS (CN m) P R k ops L0 (cz nt E) σ:=by
 rw[WN h0]
 exact Yc t hg ht (Aou hop) fun r=>by grind[KW]
theorem Yd{m:Nat}(t sm sk:Nat){r:Nat}{s:List UInt8}{l:List (List UInt8)}(h0:L0.isEmpty=O)(hg:Ci (cz nt E) ops (jm L0)=G true)(ht:(jm L0).dst=G t)(hop:luQ sm sk (jm L0).op=J)
  (hty:wn P (p5 (jm L0).op)=J) (hm:(cz nt E)[sm]?=G (.raw (.map (G r)))) (hs:(cz nt E)[sk]?=G (.v (.str s)))
  (hk:BS (CS m r l) P R k ops L0.tail (cz nt (E++[(t,.v (.bool (l.contains s)))])) σ):BS (CS m r l) P R k ops L0 (cz nt E) σ:=by
 obtain⟨kt,et,inf,h1,h2,h3,h4⟩:=Ajt hty
 rw[WN h0]
 exact Abv t sm sk hg ht (Aox hop) h1 h2 h3 h4 hm hs (by grind[KW])
theorem Yb{m:Nat}(sm sk:Nat){r:Nat}{s:List UInt8}{l:List (List UInt8)}(h0:L0.isEmpty=O)(hg:Ci (cz nt E) ops (jm L0)=G true)(ht:(jm L0).dst=none)(hop:muQ sm sk (jm L0).op=J)
  (hty:wn P (p5 (jm L0).op)=J) (hm:(cz nt E)[sm]?=G (.raw (.map (G r)))) (hs:(cz nt E)[sk]?=G (.v (.str s))) (hnew:l.contains s=O)
  (hk:BS (CS (I σ.H) r (l++[s])) P R k ops L0.tail (cz nt E) σ):BS (CS m r l) P R k ops L0 (cz nt E) σ:=by
 obtain⟨kt,et,inf,h1,h2,h3,h4⟩:=Ajt hty
 rw[WN h0]
 exact Abu sm sk hg ht (Aot hop) rfl h1 h2 hm hs hnew hk
end
section
variable {P : x7} {fn : yw} {d : D} {σ' : St} {m r : Nat} {l : List (List UInt8)} {k : List KI} {E : List (Nat × D)} {σ : St}
theorem Ab6(hm:P.follows .mixedOrders=J)(nt:Nat)(im:List Nat)(rg i:Nat){ops:Array yy}{L:List yy}(s:Sc)
  (h:B3 (cz nt E) fun env=>ZK P im rg ops (fun L sl σ=>It (BS (CS m r l) P (fun env σ1=>A7 P fn env σ1 d σ') (k++[]) ops L (cz nt sl) σ)) L i s env σ fun s env σ=>vc (CS m r l) m P (fun env σ1=>A7 P fn env σ1 d σ') (li P fn.results.toList d σ') nt im [] 10000 s k env σ):
  BS (CS m r l) P (fun env σ1=>A7 P fn env σ1 d σ') k ops L (cz nt E) σ:=by
 have:=Qj hm (Ao0 m r l) m (fun _ _ h=>h.2) nt im rg i s h
 grind
theorem AnF(hm:P.follows .mixedOrders=J)(nt:Nat)(im:List Nat)(s:Sc)
  (h:B3 (cz nt E) fun env=>vc (CS m r l) m P (fun env σ1=>A7 P fn env σ1 d σ') (li P fn.results.toList d σ') nt im [] 10000 (.h .n s) k env σ):
  A5 (CS m r l) P (fun env σ1=>A7 P fn env σ1 d σ') k (cz nt E) σ:=by
 have:=Ajv (T:=[]) hm (Ao0 m r l) m (fun _ _ h=>h.2) nt im (.h .n s) h
 grind
end
end Go.Nv

namespace Go.Proofs.YtgigepkgakpjbaaGreat
open Go.Dv Go.Nv
open List (all_cons any_cons drop_of_length_le headD replicate take)
def T3(c:UInt8):Bool:=Y ((c.toNat:Int)>=97)&&Y ((c.toNat:Int)<=122)
def mn(c:UInt8):Bool:=Y ((c.toNat:Int)>=48)&&Y ((c.toNat:Int)<=57)
def Eh(c:UInt8):Bool:=T3 c||(mn c||((c.toNat:Int)==95))
theorem WD(c:UInt8):F0 194 [.v (vb c)] (db (T3 c)):=by
 refine zq Atc 9 (.b .r .r) ((y8 ↑(UInt8.toNat c) 97->db (Y ((↑(UInt8.toNat c):Int)<=122))=db (T3 c))/\(y7 ↑(UInt8.toNat c) 97->db O=db (T3 c))) ?_
 grind[T3]
theorem Aip(c:UInt8):F0 245 [.v (vb c)] (db (mn c)):=by
 refine zq Ate 9 (.b .r .r) ((y8 ↑(UInt8.toNat c) 48->db (Y ((↑(UInt8.toNat c):Int)<=57))=db (mn c))/\(y7 ↑(UInt8.toNat c) 48->db O=db (mn c))) ?_
 grind[mn]
theorem Acb(c:UInt8):F0 196 [.v (vb c)] (db (Eh c)):=by
 refine zq Art 13 (.c (db (T3 c))<|.b .r<|.c (db (mn c))<|.b .r .r) (F0 194 [bt (a8 IntKind.u8 (↑(UInt8.toNat c):Int))] (db (T3 c))/\(T3 c=J->db J=db (Eh c))/\(T3 c=O->F0 245 [bt (a8 IntKind.u8 (↑(UInt8.toNat c):Int))] (db (mn c))/\(mn c=J->db J=db (Eh c))/\(mn c=O->db ((↑(UInt8.toNat c):Int)==95)=db (Eh c)))) ?_
 grind[WD,Aip,Eh]
noncomputable def sg:=yl u5
def Rq(p:UInt8->Bool):List UInt8->Nat
 |[]=>0
 |c::s=>if p c then Rq p s+1 else 0
noncomputable abbrev qu:=fun a₀=>[ke 0,ke 1,ch 5 (zw a₀)]
noncomputable abbrev o6:=fun a₀=>(1,bt (bw a₀ [] []))
theorem gy(F:yx)(p:UInt8->Bool)(s:List UInt8)(hs:I s<=1000000)(hp:∀c∈s,F0 F [.v (vb c)] (db (p c)))(n:Nat):∀k:Nat,I s-k=n->k<=I s->
  Rn PP u5 0 (di ((k+Rq p (s.drop k):Nat):Int)) bd ([kl sg [1,1,0,0,0],.blk 0,kc sg [1,1,1]]++[]) (cz 20 [(0,ds s),(1,.v (.fn F [] [])),(5,di k)]) bd:=by
 induction n using Nat.strongRecOn with
 |_ n ih=>
 intro k hn hk0
 refine lv 20 [] (.b (.e fun c:UInt8=>.y c<|.c (db (p c))<|.b (.l (qu k)) .r) (.k .r)) ((Y ((k:Int)<(I s:Int))=J->∃a,0<=(k:Int)/\s[Z (k:Int)]?=G a/\Aa PP F [bt (a8 IntKind.u8 (↑(UInt8.toNat a):Int))] d7 (db (p a)) d7/\(p a=J->di (yu yt ((k:Int)+1))=di (↑(k+1):Int)/\Nv.It (A5 (CN 0) PP (fun env σ1=>A7 PP u5 env σ1 (di (↑(k+Rq p (W k s)):Int)) bd) [kl sg [1,1,0,0,0],bh 0,kc sg [1,1,1]] (cz 20 [(0,bt (ab s)),(o6 F),(5,di (↑(k+1):Int))]) bd))/\(p a=O->di (k:Int)=di (↑(k+Rq p (W k s)):Int)))/\(Y ((k:Int)<(I s:Int))=O->di (k:Int)=di (↑(k+Rq p (W k s)):Int))) ⟨fun h=>?_,fun h=>?_⟩
 ·have hk:k<I s:=by simpa using h
  have hx:s[k]?=G s[k]:=HK hk
  have hih:=ih (I s- (k+1)) (by omega) (k+1) rfl hk
  rw[HZ hk]
  generalize s[k]=c at hx⊢
  refine⟨c,by omega,by simpa using hx,by simpa using hp c (HQ hx),fun h2=>⟨Ac,⟨?_⟩⟩,fun h2=>?_⟩
  ·simp only[Rq,h2,Jz]
   rw[show k+(Rq p (s.drop (k+1))+1)=k+1+Rq p (s.drop (k+1)) by omega]
   exact hih
  ·simp[Rq,h2]
 grind[Rq]
noncomputable abbrev rq:=[ke 0,ke 1,ch 5 (di (0:Nat))]
theorem Agw(F:yx)(p:UInt8->Bool)(s:List UInt8)(hs:I s<=1000000)(hp:∀c∈s,F0 F [.v (vb c)] (db (p c))):F0 195 [ds s,.v (.fn F [] [])] (di (Rq p s)):=by
 refine sv u5 20 [] (.l rq) (Q (di 0)/\I0 u5 (I bd.H) (di (↑(Rq p s):Int)) bd [kl sg [1,1,0,0,0],bh 0,kc sg [1,1,1]] (cz 20 [(0,bt (ab s)),(o6 F),(5,di (↑0:Int))]) bd) ⟨rfl,⟨?_⟩⟩
 have:=gy F p s hs hp _ 0 rfl (by omega)
 grind
def EG(s:List UInt8):Bool:=(s !=[])&&(Y ((I s:Int)<=12)&&(T3 (s.headD 0)&&((Rq Eh s:Int)==I s)))
theorem AkI{s:List UInt8}(h:Y ((I s:Int)<=12)=J):I s<=1000000:=by
 grind
theorem Aad(s:List UInt8):F0 135 [ds s] (db (EG s)):=by
 refine zq Arm 22 (.b (.b (.y (s.headD 0)<|.c (db (T3 (s.headD 0)))<|.b (.c (di (Rq Eh s)) .r) .r) .r) .r) (((!s==(bf #[]).data.toList)=J->(ya (I s) 12->iz 0<=0/\zy s 0 (headD s 0)/\F0 194 [bt (a8 IntKind.u8 (↑(UInt8.toNat (headD s 0)):Int))] (db (T3 (headD s 0)))/\(T3 (headD s 0)=J->F0 195 [bt (ab s),bt (bw 196 [] [])] (di (↑(Rq Eh s):Int))/\db ((↑(Rq Eh s):Int)==(I s:Int))=db (EG s))/\(T3 (headD s 0)=O->db O=db (EG s)))/\(y9 (I s) 12->db O=db (EG s)))/\((!s==(bf #[]).data.toList)=O->db O=db (EG s))) ⟨fun h1=>⟨fun h2=>⟨by simp,?_,WD _,fun h3=>⟨Agw _ Eh s (AkI h2) fun c _=>Acb c,?_⟩,fun h3=>?_⟩,fun h2=>?_⟩,fun h1=>?_⟩
 ·cases s with
  |nil=>simp[] at h1
  |cons a s=>rfl
 all_goals simp_all [EG]
 omega
theorem DT{l:List (List UInt8)}{k:Nat}{s:List UInt8}(h:l[k]?=G s):(l.map ab)[Z (k:Int)]?=G (.str s):=by simp[h]
theorem AhO(l:List (List UInt8))(v:List UInt8)(hl:I l<=1000000)(n:Nat):∀k:Nat,I l-k=n->
  Rn PP uh 0 (di (dv (· ==v) (l.drop k) k)) bd ([zu uh 52,.blk 0,zt uh 7]++[]) (cz 19 [(0,dl (l.map ab)),(1,.v (ab v)),(7,di (I l)),(8,di k)]) bd:=by
 induction n using Nat.strongRecOn with
 |_ n ih=>
 intro k hn
 refine zp (.b (.e fun x:List UInt8=>.x (ab x)<|.b .r (.l (qr k))) .r) ((ye k (I l)->∃a,y6 k/\zy (U ab l) k (ab a)/\((v==a)=J->di (k:Int)=di (dv (fun x=>x==v) (W k l) k))/\((v==a)=O->zx k/\Nv.It (A5 (CN 0) PP (fun env σ1=>A7 PP uh env σ1 (di (dv (fun x=>x==v) (W k l) k)) bd) [zu uh 52,bh 0,zt uh 7] (cz 19 [(0,bt (lu l)),(1,bt (ab v)),(7,di (I l:Int)),(8,zw k)]) bd)))/\(yd k (I l)->di (-1)=di (dv (fun x=>x==v) (W k l) k))) ⟨fun h=>?_,fun h=>?_⟩
 ·have hk:k<I l:=by simpa using h
  have hx:l[k]?=G l[k]:=HK hk
  rw[HZ hk]
  generalize l[k]=x at hx⊢
  refine⟨x,by omega,DT hx,fun hf=>?_,fun hf=>⟨Ac,⟨?_⟩⟩⟩
  ·have:v=x:=by simpa using hf
   subst this;simp[dv]
  ·have h2:v≠x:=by simpa using hf
   have:(x==v)=O:=by simpa using fun e=>h2 e.symm
   simp only[dv,this]
   exact ih (I l- (k+1)) (by omega) (k+1) rfl
 grind[drop_of_length_le,dv]
theorem AhN(l:List (List UInt8))(v:List UInt8)(hl:I l<=1000000):F0 246 [dl (l.map ab),.v (ab v)] (di (dv (· ==v) l 0)):=by
 refine zq uh 19 (.l [ke 0,ke 1,ch 7 (di (I l)),ch 8 (di (0:Nat))]) (di (I (U ab l):Int)=di (I l:Int)/\Q (di 0)/\I0 uh (I bd.H) (di (dv (fun x=>x==v) l 0)) bd [zu uh 52,bh 0,zt uh 7] (cz 19 [(0,dl (U ab l)),(1,bt (ab v)),(7,di (I l:Int)),(8,di (↑0:Int))]) bd) ⟨by simp,rfl,⟨?_⟩⟩
 exact AhO l v hl _ 0 rfl
theorem Aej(l:List (List UInt8))(v:List UInt8)(hl:I l<=1000000):F0 197 [dl (l.map ab),.v (ab v)] (db (l.any (· ==v))):=by
 refine zq ArM 9 (.c (di (dv (· ==v) l 0)) .r) (F0 246 [bt (lu l),bt (ab v)] (di (dv (fun x=>x==v) l 0))/\db (Y (dv (fun x=>x==v) l 0>=0))=db (List.any l fun x=>x==v)) ?_
 grind[AhN,Fp]
def s8:List (List UInt8):=[[109,111,100,101,108],[115,116,97,116,101,115],[112,108,97,99,101,115],[108,101,116,116,101,114,115],[108,101,118,101,108,115],[97,103,101],[114,117,108,101],[110,101,101,100],[103,105,118,101],[109,111,118,101],[101,109,112,116,121],[115,101,110,100],[114,101,99,101,105,118,101],[112,97,116,104],[110,101,120,116],[116,97,107,101],[109,97,107,101],[115,116,97,114,116]]
def YA(s:List UInt8):Bool:=s8.any (· ==s)
theorem Al1(s:List UInt8):F0 136 [ds s] (db (YA s)):=by
 exact zq fKw 6 (.c (db (YA s)) .r) (_/\Q (db (YA s))) ⟨Aej s8 s (by decide),rfl⟩
noncomputable def Fj:=yl lm
def ij(used:List (List UInt8)):List (List UInt8)->Bool
 |[]=>true
 |s::l=>EG s&&(!YA s&&(!used.contains s&&ij (used++[s]) l))
def Ch(m:cx):List (List UInt8):=[m.aw,m.ay,m.ax].flatten
def FE(m:cx):List (List UInt8):=Ch m++m.av.map cm.name
def DJ(m:cx):Bool:=ij [] (FE m)
abbrev X1(l:List (List UInt8)):D:=.acc 1 (l.map ab)
abbrev mi(l:List (List UInt8)):St:=⟨[],[(1,1,l.map ab)]⟩
noncomputable abbrev rz:=fun a₀=>(3,D.raw (Value.map (G a₀)))
theorem Ac5(r:Nat)(l:List (List UInt8))(hl:I l<=1000000)(n:Nat):∀k:Nat,I l-k=n->k<=I l->
  A5 (CS 0 r (l.take k)) PP (fun env σ1=>A7 PP lm env σ1 (db (ij (l.take k) (l.drop k))) bd) [zu lm 500,.blk 2,zt lm 63] (cz 52 [(3,.raw (.map (G r))),(31,dl (l.map ab)),(32,di (I l)),(33,di k)]) bd:=by
 induction n using Nat.strongRecOn with
 |_ n ih=>
 intro k hn hk0
 refine AnF mixed 52 [1] (.b (.e fun s:List UInt8=>.x (.str s)<|.c (db (EG s))<|.b .r (.c (db (YA s))<|.b .r (.h (.q 11 10)<|.h (.s [ke 3,ke 8,ke 31,ke 32,ke 33,ke 44,ke 45,ke 46]) .z))) .r) ?_
 refine fu (by kernel_rfl:((Y ((k:Int)<(I l:Int))=J->∃a,0<=(k:Int)/\(U ab l)[Z (k:Int)]?=G (ab a)/\Aa PP 135 [bt (ab a)] d7 (db (EG a)) d7/\((!EG a)=J->db O=db (ij (take k l) (W k l)))/\((!EG a)=O->Aa PP 136 [bt (ab a)] d7 (db (YA a)) d7/\(YA a=J->db O=db (ij (take k l) (W k l)))/\(YA a=O->Nv.It (BS (CS 0 r (take k l)) PP (fun env σ1=>A7 PP lm env σ1 (db (ij (take k l) (W k l))) bd) [zt lm 64101,zt lm 32051,bh 3,zt lm 4007,kl Fj iy,bh 2,zt lm 63] (AR (sub Fj [1,1,1,1,0,1,0,0,1,1,0,0,1,0,0])) (W 10 (AR (sub Fj [1,1,1,1,0,1,0,0,1,1,0,0,1,0,0])).toList) (cz 52 [(rz r),(8,bt (ab a)),(31,bt (lu l)),(32,di (I l:Int)),(33,di (k:Int)),(44,db O),(45,D.raw (Value.map (G r))),(46,bt (ab a))]) bd))))/\(Y ((k:Int)<(I l:Int))=O->db J=db (ij (take k l) (W k l))))=_) ?_
 refine⟨fun h=>?_,fun h=>?_⟩
 ·have hk:k<I l:=by simpa using h
  have hx:l[k]?=G l[k]:=HK hk
  have hih:=ih (I l- (k+1)) (by omega) (k+1) rfl hk
  rw[List.take_succ_eq_append_getElem hk] at hih
  rw[HZ hk]
  generalize l[k]=s at hx hih⊢
  refine⟨s,by omega,by simp[hx],Aad s,fun h1=>?_,fun h1=>⟨Al1 s,fun h2=>?_,fun h2=>⟨?_⟩⟩⟩
  ·simp only[Bool.not_eq_eq_eq_not,Bool.not_true] at h1;simp[ij,h1]
  ·simp[ij,h2]
  ·have h1:EG s=J:=by simpa using h1
   refine Yd (s:=s) 47 45 46 rfl (by kernel_rfl) (by kernel_rfl) (by kernel_rfl) (by kernel_rfl) (by kernel_rfl) (by kernel_rfl) ?_
   refine Ab6 mixed 52 [1] 11 11 (.b .r (.h (.q 13 2)<|.h (.s [ke 3,ke 8,ke 31,ke 32,ke 33,ke 49,ke 50]) .z)) ?_
   refine fu (by kernel_rfl:((List.contains (take k l) s=J->db O=db (ij (take k l) (s::W (k+1) l)))/\(List.contains (take k l) s=O->Nv.It (BS (CS 0 r (take k l)) PP (fun env σ1=>A7 PP lm env σ1 (db (ij (take k l) (s::W (k+1) l))) bd) [bh 3,zt lm 4007,kl Fj iy,bh 2,zt lm 63] (AR (sub Fj [1,1,1,1,0,1,0,0,1,1,0,0,1,1])) (W 2 (AR (sub Fj [1,1,1,1,0,1,0,0,1,1,0,0,1,1])).toList) (cz 52 [(rz r),(8,bt (ab s)),(31,bt (lu l)),(32,di (I l:Int)),(33,di (k:Int)),(49,D.raw (Value.map (G r))),(50,bt (ab s))]) bd)))=_) ?_
   refine⟨fun h3=>?_,fun h3=>⟨?_⟩⟩
   ·simp only[ij,h3,Bool.not_true,IE,JI]
   ·refine Yb (s:=s) 49 50 rfl (by kernel_rfl) (by kernel_rfl) (by kernel_rfl) (by kernel_rfl) (by kernel_rfl) (by kernel_rfl) h3 ?_
    refine Ab6 mixed 52 [1] 13 3 (.ls [ke 3,ke 31,ke 32,ch 33 (zw k)] bd) ?_
    refine fu (by kernel_rfl:(di (yu yt ((k:Int)+1))=zw k/\Nv.It (A5 (CS (I bd.H) r (take k l++[s])) PP (fun env σ1=>A7 PP lm env σ1 (db (ij (take k l) (s::W (k+1) l))) bd) [kl Fj iy,bh 2,zt lm 63] (cz 52 [(rz r),(31,bt (lu l)),(32,di (I l:Int)),(33,zw k)]) bd))=_) ?_
    refine⟨Ac,⟨?_⟩⟩
    simp only[ij,h1,h2,h3,Bool.not_false,IG]
    exact hih
 grind[ij]
noncomputable abbrev fd:=[1,1,1,0,1,0,0]
theorem Ac6(r:Nat)(m:cx)(b:List (List UInt8))(_:I m.av<=1000000)(hb:I b+I m.av<=1000000)(n:Nat):∀k:Nat,I m.av-k=n->k<=I m.av->
  A5 (CS 0 r []) PP (fun env σ1=>A7 PP lm env σ1 (db (ij [] (b++m.av.map cm.name))) bd) [zu lm 244,.blk 0,zt lm 31] (cz 52 [(3,.raw (.map (G r))),(4,X1 (b++(m.av.take k).map cm.name)),(19,dl (m.av.map Aj)),(20,di (I m.av)),(21,di k)]) (mi (b++(m.av.take k).map cm.name)):=by
 induction n using Nat.strongRecOn with
 |_ n ih=>
 intro k hn hk0
 refine AnF mixed 52 [1] (.b (.e fun x:cm=>.h (.xs (Aj x))<|.w<|.ls [ke 3,ch 4 (X1 (b++(m.av.take (k+1)).map cm.name)),ke 19,ke 20,ch 21 (zw k)] (mi (b++(m.av.take (k+1)).map cm.name))) (.h (.q 8 0)<|.h (.un 4)<|.ls [ke 3,ch 31 (dl ((b++m.av.map cm.name).map ab)),ch 32 (di (I (b++m.av.map cm.name))),ch 33 (di (0:Nat))] bd)) ?_
 refine fu (by kernel_rfl:((Y ((k:Int)<(I m.av:Int))=J->∃a,14=14/\0<=(k:Int)/\(U Aj m.av)[Z (k:Int)]?=G (Aj a)/\U ab (b++U cm.name (take k m.av))=U ab (b++U cm.name (take k m.av))/\Ao (I (U ab (b++U cm.name (take k m.av)))+I (ab a.name::nV)) 16/\(∀(y:V),y∈ [ab a.name]->V.size y=1)/\br 1 (U ab (b++U cm.name (take k m.av))++[ab a.name])=X1 (b++U cm.name (take (k+1) m.av))/\di (yu yt ((k:Int)+1))=zw k/\[(1,1,U ab (b++U cm.name (take k m.av))++ab a.name::nV)]=[(1,1,U ab (b++U cm.name (take (k+1) m.av)))]/\Nv.It (A5 (CS 0 r []) PP (fun env σ1=>A7 PP lm env σ1 (db (ij [] (b++U cm.name m.av))) bd) [kl Fj fd,bh 0,zt lm 31] (cz 52 [(rz r),(4,X1 (b++U cm.name (take (k+1) m.av))),(19,bt (ae (U Aj m.av))),(20,di (I m.av:Int)),(21,zw k)]) (mi (b++U cm.name (take (k+1) m.av)))))/\(Y ((k:Int)<(I m.av:Int))=O->bt (ae (U ab (b++U cm.name (take k m.av))))=dl (U ab (b++U cm.name m.av))/\di (I (U ab (b++U cm.name (take k m.av))):Int)=di (I (b++U cm.name m.av):Int)/\di 0=di (↑0:Int)/\Nv.It (A5 (CS 0 r []) PP (fun env σ1=>A7 PP lm env σ1 (db (ij [] (b++U cm.name m.av))) bd) [kl Fj iy,bh 2,zt lm 63] (cz 52 [(rz r),(31,dl (U ab (b++U cm.name m.av))),(32,di (I (b++U cm.name m.av):Int)),(33,di (↑0:Int))]) bd)))=_) ?_
 refine⟨fun h=>?_,fun h=>?_⟩
 ·have hk:k<I m.av:=by grind
  have hx:m.av[k]?=G m.av[k]:=HK hk
  have hih:=ih (I m.av- (k+1)) (by omega) (k+1) rfl hk
  have hl:I (b++(m.av.take k).map cm.name)<=1000000:=by simp;omega
  have ht:b++(m.av.take (k+1)).map cm.name=b++(m.av.take k).map cm.name++[(m.av[k]).name]:=by rw[List.take_succ_eq_append_getElem hk,J5,Jx];rfl
  rw[ht] at hih⊢
  generalize m.av[k]=x at hx hih⊢
  generalize b++(m.av.take k).map cm.name=p at hl hih⊢
  refine⟨x,rfl,by omega,by simp[hx],rfl,?_,by simp[V.size],by simp,Ac,by simp,⟨hih⟩⟩
  exact⟨by grind[List.length_nil],by grind[List.length_nil]⟩
 ·have hk:I m.av<=k:=by grind
  rw[IB hk]
  refine⟨rfl,by simp,rfl,⟨?_⟩⟩
  exact Ac5 r _ (by grind) _ 0 rfl (by omega)
noncomputable abbrev g7:=fun a₀=>(bz (Aq a₀))
theorem KU(m:cx)(h1:I (Ch m)+I m.av<=1000000):F0 99 [Af m] (db (DJ m)):=by
 refine sv lm 52 [1] (.h (.q 1 0)<|.h (.s [ke 1]) .z) (Nv.It (BS (CN (I bd.H)) PP (fun env σ1=>A7 PP lm env σ1 (db (DJ m)) bd) [zt lm 7] (AR (sub Fj [1,0])) (W 0 (AR (sub Fj [1,0])).toList) (cz 52 [(1,bt (g7 m))]) bd)) ⟨U3 9 rfl (by rfl) (by kernel_rfl) (by rfl) fun r=>?_⟩
 refine Ab6 mixed 52 [1] 1 1 (.h (.ck 1 1 1 ((Ch m).map ab))<|.ls [ke 3,ch 4 (X1 (Ch m++(m.av.take 0).map cm.name)),ke 19,ch 20 (di (I m.av)),ch 21 (di (0:Nat))] (mi (Ch m++(m.av.take 0).map cm.name))) ?_
 refine fu (by kernel_rfl:(Aa PP 134 [bt (ae [cc m.aw,cc m.ay,cc m.ax])] d7 (br 1 (U ab (Ch m))) (bi [] [(1,1,U ab (Ch m))])/\br 1 (U ab (Ch m))=X1 (Ch m++U cm.name (take 0 m.av))/\di (I (U Aj m.av):Int)=di (I m.av:Int)/\di 0=di (↑0:Int)/\[(1,1,U ab (Ch m))]=[(1,1,U ab (Ch m++[]))]/\Nv.It (A5 (CS (I bd.H) r []) PP (fun env σ1=>A7 PP lm env σ1 (db (DJ m)) bd) [kl Fj fd,bh 0,zt lm 31] (cz 52 [(rz r),(4,X1 (Ch m++U cm.name (take 0 m.av))),(19,bt (Hk m.av)),(20,di (I m.av:Int)),(21,di (↑0:Int))]) (mi (Ch m++U cm.name (take 0 m.av)))))=_) ?_
 refine⟨Aem [m.aw,m.ay,m.ax] (by grind) (by grind[Ch]),by simp,by simp,rfl,by simp,⟨?_⟩⟩
 exact Ac6 r m (Ch m) (by omega) h1 _ 0 rfl (by omega)
inductive cr where
 |nat
 |lab (n:Int)
 |prod (l:List cr)
 |word (t:cr)
 |bag (t:cr)
 |prio (n:Int) (r:List Int)
 deriving Inhabited
mutual
def cr.enc:cr->V
 |.nat=>.agg [vi 1,vi 0,.list [],.list []]
 |.lab n=>.agg [vi 2,vi n,.list [],.list []]
 |.prod l=>.agg [vi 3,vi 0,.list [],.list (cr.encs l)]
 |.word t=>.agg [vi 4,vi 0,.list [],.list [t.enc]]
 |.bag t=>.agg [vi 5,vi 0,.list [],.list [t.enc]]
 |.prio n r=>.agg [vi 7,vi n,cy r,.list []]
def cr.encs:List cr->List V
 |[]=>[]
 |t::l=>t.enc::cr.encs l
end
theorem cr.encs_map:∀l:List cr,cr.encs l=l.map cr.enc
 |[]=>rfl
 |t::l=>by simp[cr.encs,cr.encs_map l]
abbrev lc(k n:Int)(r:List Int)(l:List V):V:=.agg [vi k,vi n,cy r,.list l]
def cr.kd:cr->Int
 |.nat=>1|.lab _=>2|.prod _=>3|.word _=>4|.bag _=>5|.prio _ _=>7
def cr.sz:cr->Int
 |.lab n=>n|.prio n _=>n|_=>0
def cr.rk:cr->List Int
 |.prio _ r=>r|_=>[]
def cr.ps:cr->List cr
 |.prod l=>l|.word t=>[t]|.bag t=>[t]|_=>[]
abbrev eT:cr->V:=cr.enc
abbrev vT(t:cr):V:=lc t.kd t.sz t.rk (t.ps.map eT)
abbrev dT(t:cr):D:=.v (vT t)
theorem YU(t:cr):eT t=vT t:=by cases t<;>simp only[eT,cr.enc,cr.encs_map]<;>rfl
theorem QD{a:List cr}{i:Nat}{x:cr}(h:a[i]?=G x):(a.map eT)[((i:Nat):Int).toNat]?=G (vT x):=by grind[YU]
theorem PS(t:cr):vT (.word t)=lc 4 0 [] [vT t]:=by rw[←YU t];rfl
theorem VF(t:cr):vT (.bag t)=lc 5 0 [] [vT t]:=by rw[←YU t];rfl
def CI(n:Int)(v:b9):Bool:=Y (v.n>=0)&&(Y (v.n<n)&&((I v.az:Int)==0))
theorem WE(n:Int)(v:b9):F0 251 [dV v,di n] (db (CI n v)):=by
 refine sv Atd 20 [2] (.b (.b .r .r) .r) ((y8 v.n 0->(ye v.n n->db ((I (c7 v.az):Int)==0)=db (CI n v))/\(yd v.n n->db O=db (CI n v)))/\(y7 v.n 0->db O=db (CI n v))) ?_
 grind[CI]
def ZO(l:List b9):Nat->Bool
 |0=>true
 |k+1=>if Ay (l.getD (k+1) default) (l.getD k default)<0 then false else ZO l k
theorem Age(l:List b9)(hs:b9.sizes l<=1000000)(k:Nat):k<I l->
  Rn PP sa 0 (db (ZO l k)) bd ([zu sa 52,.blk 0,zt sa 7]++[]) (cz 25 [(0,co l),(1,dfn 112),(5,di k)]) bd:=by
 induction k with
 |zero=>
  intro hk
  exact zp (.f .r) (yb (↑0:Int) 0/\Q (db J)) ⟨rfl,rfl⟩
 |succ k ih=>
  intro hk
  refine zp (.t<|.x (Ad (l.getD (k+1) default))<|.x (Ad (l.getD k default))<|.c (di (Ay (l.getD (k+1) default) (l.getD k default)))<|.b .r (.l [ke 0,ke 1,ch 5 (di k)])) (yc ↑(k+1) 0/\y6 ↑(k+1)/\zy (U eV l) ↑(k+1) (Ad (List.getD l (k+1) default))/\0<=yu yt ((↑(k+1):Int)-1)/\zy (U eV l) (yu yt ((↑(k+1):Int)-1)) (Ad (List.getD l k default))/\F0 112 [bt (Ad (List.getD l (k+1) default)),bt (Ad (List.getD l k default))] (di (Ay (List.getD l (k+1) default) (List.getD l k default)))/\(ye (Ay (List.getD l (k+1) default) (List.getD l k default)) 0->db O=db (ZO l (k+1)))/\(yd (Ay (List.getD l (k+1) default) (List.getD l k default)) 0->di (yu yt ((↑(k+1):Int)-1))=di (k:Int)/\I0 sa 0 (db (ZO l (k+1))) bd [zu sa 52,bh 0,zt sa 7] (cz 25 [(0,co l),(1,bt rc),(5,di (k:Int))]) d7)) ?_
  have h1:yt.wrap (((k+1:Nat):Int)-1)=k:=by rw[An (by have:=b9.length_le l;omega) (by have:=b9.length_le l;omega)];omega
  have hx:l[k+1]?=G (l.getD (k+1) default):=by rw[HS,HK hk];rfl
  have hy:l[k]?=G (l.getD k default):=by rw[HS,HK (by omega)];rfl
  have hz:(l.getD (k+1) default).size<=1000000:=by have:=b9.size_mem (HQ hx);omega
  rw[h1]
  refine⟨by simp,by omega,Ap hx,by omega,Ap hy,Og _ _ _ (HR _) hz,fun h2=>?_,fun h2=>⟨rfl,⟨?_⟩⟩⟩
  all_goals grind[ZO]
def XV(l:List b9):Bool:=ZO l (I l-1)
theorem Agb(l:List b9)(hs:b9.sizes l<=1000000):F0 253 [co l,dfn 112] (db (XV l)):=by
 cases l with
 |nil=>
  exact zq sa 25 (.n<|.f .r) (yb (yu yt ((I (U eV []):Int)-1)) 0/\Q (db J)) ⟨rfl,rfl⟩
 |cons v l=>
  refine zq sa 25 (.l [ke 0,ke 1,ch 5 (di (I l:Nat))]) (di (yu yt ((I (U eV (v::l)):Int)-1))=di (I l:Int)/\I0 sa (I bd.H) (db (XV (v::l))) bd [zu sa 52,bh 0,zt sa 7] (cz 25 [(0,co (v::l)),(1,dfn 112),(5,di (I l:Int))]) bd) ?_
  have:=b9.length_le (v::l)
  have h1:yt.wrap ((I ((v::l).map eV):Int)-1)=I l:=by
   grind[An]
  rw[h1]
  exact⟨rfl,⟨Age (v::l) hs (I l) (by simp)⟩⟩
mutual
def A1:cr->b9->Bool
 |.nat,v=>Y (v.n>=0)&&(Y (v.n<=1048576)&&((I v.az:Int)==0))
 |.lab n,v=>CI n v
 |.prod l,v=>(v.n==0)&&(((I v.az:Int)==I l)&&BU l v.az)
 |.word t,v=>(v.n==0)&&(Y ((I v.az:Int)<=12)&&v.az.all (fun k=>A1 t k))
 |.bag t,v=>((v.n==0)&&(Y ((I v.az:Int)<=12)&&v.az.all (fun k=>A1 t k)))&&XV v.az
 |.prio n _,v=>(v.n==0)&&(Y ((I v.az:Int)<=12)&&v.az.all (fun k=>CI n k))
def BU:List cr->List b9->Bool
 |t::l,v::vs=>A1 t v&&BU l vs
 |_,_=>true
end
theorem Acv(n:Int)(r:List Int)(v:b9):F0 256 [dV v,.v (.ref (vT (.prio n r)))] (db (!CI n v)):=by
 exact sv Arz 9 [2] (.c (db (CI n v)) .r) (_/\Q (db !CI n v)) ⟨WE n v,rfl⟩
theorem Y6(t:cr)(v:b9)(h:F0 210 [dT t,dV v] (db (A1 t v))):F0 281 [dV v,.v (.ref (vT t))] (db (!A1 t v)):=by
 refine sv AoX 8 [2] (.c (db (A1 t v)) .r) (type_of% h/\Q (db !A1 t v)) ?_
 grind
def Gy(t:cr)(v:b9):Bool:=(v.n==0)&&(Y ((I v.az:Int)<=12)&&v.az.all (fun k=>A1 t k))
theorem Sm(t:cr)(v:b9)(h:∀k∈v.az,F0 210 [dT t,dV k] (db (A1 t k))):F0 252 [dV v,dT t] (db (Gy t v)):=by
 refine sv Ar5 21 [2,3] (.b (.b (.c (db (v.az.any fun k=> !A1 t k)) .r) .r) .r) (((v.n==0)=J->(ya (I (c7 v.az)) 12->F0 255 [co v.az,bt (bw 281 [] [bz (vT t)])] (db (List.any v.az fun k=> !A1 t k))/\(db !List.any v.az fun k=> !A1 t k)=db (Gy t v))/\(y9 (I (c7 v.az)) 12->db O=db (Gy t v)))/\((v.n==0)=O->db O=db (Gy t v))) ?_
 grind[Lg,Y6,Gy]
theorem Alp(v:b9):F0 210 [dT .nat,dV v] (db (A1 .nat v)):=by
 refine sv mm 110 [2,3] (.k<|.b (.b .r .r) .r) ((y8 v.n 0->(ya v.n 1048576->db ((I (c7 v.az):Int)==0)=db (A1 cr.nat v))/\(y9 v.n 1048576->db O=db (A1 cr.nat v)))/\(y7 v.n 0->db O=db (A1 cr.nat v))) ?_
 grind[A1]
theorem Alq(n:Int)(v:b9):F0 210 [dT (.lab n),dV v] (db (A1 (.lab n) v)):=by
 exact sv mm 110 [2,3] (.c (db (CI n v)) .r) (_/\Q (db (CI n v))) ⟨WE n v,by rfl⟩
noncomputable abbrev il:=fun a₀ b₀=>(cr.prio a₀ b₀)
theorem Ahe(n:Int)(r:List Int)(v:b9):F0 210 [dT (.prio n r),dV v] (db (A1 (.prio n r) v)):=by
 refine sv mm 110 [2,3] (.k<|.k<|.k<|.k<|.k<|.k<|.b (.b (.c (db (v.az.any fun k=> !CI n k)) .r) .r) .r) (((v.n==0)=J->(ya (I (c7 v.az)) 12->F0 255 [co v.az,bt (bw 256 [] [bz (vT (il n r))])] (db (List.any v.az fun k=> !CI n k))/\(db !List.any v.az fun k=> !CI n k)=db (A1 (il n r) v))/\(y9 (I (c7 v.az)) 12->db O=db (A1 (il n r) v)))/\((v.n==0)=O->db O=db (A1 (il n r) v))) ?_
 grind[Lg,Acv,A1]
theorem Ahb(t:cr)(v:b9)(h:∀k∈v.az,F0 210 [dT t,dV k] (db (A1 t k))):F0 210 [dT (.word t),dV v] (db (A1 (.word t) v)):=by
 rw[dT,PS]
 exact sv mm 110 [2,3] (.x (vT t)<|.c (db (Gy t v)) .r) (iz 0<=0/\Q (G (vT t))/\_/\Q (db (Gy t v))) ⟨by decide,rfl,Sm t v h,by simp only[Gy]⟩
theorem Alr(t:cr)(v:b9)(hv:v.size<=1000000)(h:∀k∈v.az,F0 210 [dT t,dV k] (db (A1 t k))):F0 210 [dT (.bag t),dV v] (db (A1 (.bag t) v)):=by
 rw[dT,VF]
 have:=b9.size_eq v
 refine sv mm 110 [2,3] (.x (vT t)<|.c (db (Gy t v))<|.b (.c (db (XV v.az)) .r) .r) (iz 0<=0/\Q (G (vT t))/\_/\(Gy t v=J->F0 253 [co v.az,bt rc] (db (XV v.az))/\db (XV v.az)=db (A1 (cr.bag t) v))/\(Gy t v=O->db O=db (A1 (cr.bag t) v))) ⟨by decide,rfl,Sm t v h,fun h1=>⟨Agb v.az (by omega),?_⟩,fun h1=>?_⟩
 ·simp only[Gy] at h1;simp only[A1,h1,IG]
 ·simp only[Gy] at h1;simp only[A1,h1,IE]
noncomputable abbrev jh:=fun a₀=>(U eT (cr.ps (cr.prod a₀)))
noncomputable abbrev rt:=fun a₀=>(2,bt (bz (vT (cr.prod a₀))))
noncomputable abbrev Axm:=[zu mm 55252,bh 1,zt mm 6907,bh 0,zt mm 7]
theorem AbT(l:List cr)(v:b9)(hl:I v.az=I l)(hv:I v.az<=1000000)(h:∀t∈l,∀k∈v.az,F0 210 [dT t,dV k] (db (A1 t k)))(n:Nat):∀k:Nat,I l-k=n->
  Rn PP mm 0 (db (BU (l.drop k) (v.az.drop k))) bd ([zu mm 55252,.blk 1,zt mm 6907,.blk 0,zt mm 7]++[]) (cz 110 [(2,.v (.ref (vT (.prod l)))),(46,co v.az),(47,di (I v.az)),(48,di k)]) bd:=by
 induction n using Nat.strongRecOn with
 |_ n ih=>
 intro k hn
 refine zo [2,3] (.b (.e fun x:b9=>.x (Ad x)<|.e fun t:cr=>.x (vT t)<|.c (db (A1 t x))<|.b .r (.ls [ke 2,ke 46,ke 47,ch 48 (zw k)] bd)) .r) ((Y ((k:Int)<(I v.az:Int))=J->∃a,0<=(k:Int)/\zy (c7 v.az) k (Ad a)/\∃a_1,y6 k/\zy (jh l) k (vT a_1)/\Aa PP 210 [bt (vT a_1),dV a] d7 (db (A1 a_1 a)) d7/\yp/\((!A1 a_1 a)=J->db O=db (BU (W k l) (W k v.az)))/\((!A1 a_1 a)=O->zx k/\Nv.It (A5 (CN 0) PP (fun env σ1=>A7 PP mm env σ1 (db (BU (W k l) (W k v.az))) bd) Axm (cz 110 [(rt l),(46,co v.az),(47,di (I v.az:Int)),(48,zw k)]) bd)))/\(yd k (I v.az)->db J=db (BU (W k l) (W k v.az)))) ⟨fun h1=>?_,fun h1=>?_⟩
 ·have hk:k<I v.az:=by simpa using h1
  have hk2:k<I l:=by omega
  have hx:v.az[k]?=G v.az[k]:=HK hk
  have hy:l[k]?=G l[k]:=HK hk2
  rw[HZ hk,HZ hk2]
  generalize v.az[k]=x at hx⊢
  generalize l[k]=t at hy⊢
  refine⟨x,by omega,Ap hx,t,by omega,QD hy,h t (HQ hy) x (HQ hx),yn,fun h2=>?_,fun h2=>⟨Ac,⟨?_⟩⟩⟩
  ·have h2:A1 t x=O:=by simpa using h2
   simp only[BU,h2,IE]
  ·have h2:A1 t x=J:=by simpa using h2
   simp only[BU,h2,IG]
   exact ih (I l- (k+1)) (by omega) (k+1) rfl
 grind[drop_of_length_le,BU]
theorem Ahd(l:List cr)(v:b9)(hv:v.size<=1000000)(h:∀t∈l,∀k∈v.az,F0 210 [dT t,dV k] (db (A1 t k))):F0 210 [dT (.prod l),dV v] (db (A1 (.prod l) v)):=by
 have hlen:=b9.length_le v.az
 have hsz:=b9.size_eq v
 refine sv mm 110 [2,3] (.k<|.k<|.k<|.b .r (.b .r (.l [ke 2,ke 46,ch 47 (di (I v.az)),ch 48 (di (0:Nat))]))) (((v.n !=0)=J->db O=db (A1 (cr.prod l) v))/\((v.n !=0)=O->(((I (c7 v.az):Int) !=(I (jh l):Int))=J->db O=db (A1 (cr.prod l) v))/\(((I (c7 v.az):Int) !=(I (jh l):Int))=O->di (I (c7 v.az):Int)=di (I v.az:Int)/\di 0=di (↑0:Int)/\I0 mm (I bd.H) (db (A1 (cr.prod l) v)) bd Axm (cz 110 [(rt l),(46,co v.az),(47,di (I v.az:Int)),(48,di (↑0:Int))]) bd))) ⟨fun h1=>?_,fun h1=>⟨fun h2=>?_,fun h2=>⟨by grind,rfl,⟨?_⟩⟩⟩⟩
 ·grind[A1]
 ·grind[cr.ps,A1]
 ·have h1:(v.n==0)=J:=by grind
  have h2:(I v.az:Int)=I l:=by grind[cr.ps]
  have h3:((I v.az:Int)==I l)=J:=by grind
  simp only[A1,h1,h3,IG]
  exact AbT l v (by omega) (by omega) h _ 0 rfl
theorem Ahc(N:Nat):∀(t:cr),SizeOf.sizeOf t<=N->∀v:b9,v.size<=1000000->F0 210 [dT t,dV v] (db (A1 t v)):=by
 induction N with
 |zero=>intro t ht;cases t<;>simp at ht<;>omega
 |succ N ih=>
  intro t ht v hv
  have hk:∀k∈v.az,k.size<=1000000:=fun k hk=>by have:=b9.size_mem hk;grind[b9.size_eq]
  cases t with
  |nat=>exact Alp v
  |lab n=>exact Alq n v
  |prio n r=>grind[Ahe]
  |word t=>grind[Ahb]
  |bag t=>grind[Alr]
  |prod l=>exact Ahd l v hv fun t h k h'=>ih t (by have:=List.sizeOf_lt_of_mem h;grind) k (hk k h')
theorem AhC(F:yx)(fs cs:List V)(p:cr->Bool)(l:List (cr))(hl:I l<=1000000)(hp:∀x∈l,F0 F ((fs++[vT x]++cs).map .v) (db (p x)))(n:Nat):∀k:Nat,I l-k=n->
  Rn PP ud 0 (di (dv p (l.drop k) k)) bd ([zu ud 52,.blk 0,zt ud 7]++[]) (cz 19 [(0,dl (l.map eT)),(1,.v (.fn F fs cs)),(7,di (I l)),(8,di k)]) bd:=by
 induction n using Nat.strongRecOn with
 |_ n ih=>
 intro k hn
 refine zp (.b (.e fun x:cr=>.x (vT x)<|.c (db (p x))<|.b .r (.l (qr k))) .r) ((ye k (I l)->∃a,y6 k/\zy (U eT l) k (vT a)/\Aa PP F (U bt (fs++[vT a]++cs)) d7 (db (p a)) d7/\(p a=J->di (k:Int)=di (dv p (W k l) k))/\(p a=O->zx k/\Nv.It (A5 (CN 0) PP (fun env σ1=>A7 PP ud env σ1 (di (dv p (W k l) k)) bd) [zu ud 52,bh 0,zt ud 7] (cz 19 [(0,bt (ae (U eT l))),(kr F fs cs),(7,di (I l:Int)),(8,zw k)]) bd)))/\(yd k (I l)->di (-1)=di (dv p (W k l) k))) ⟨fun h=>?_,fun h=>?_⟩
 ·have hk:k<I l:=by simpa using h
  have hx:l[k]?=G l[k]:=HK hk
  rw[HZ hk]
  generalize l[k]=x at hx⊢
  refine⟨x,by omega,QD hx,hp x (HQ hx),fun hf=>by simp[dv,hf],fun hf=>⟨Ac,⟨?_⟩⟩⟩
  simp only[dv,hf]
  exact ih (I l- (k+1)) (by omega) (k+1) rfl
 grind[drop_of_length_le,dv]
theorem AhB(F:yx)(fs cs:List V)(p:cr->Bool)(l:List (cr))(hl:I l<=1000000)(hp:∀x∈l,F0 F ((fs++[vT x]++cs).map .v) (db (p x))):
  F0 299 [dl (l.map eT),.v (.fn F fs cs)] (di (dv p l 0)):=by
 refine zq ud 19 (.l [ke 0,ke 1,ch 7 (di (I l)),ch 8 (di (0:Nat))]) (di (I (U eT l):Int)=di (I l:Int)/\Q (di 0)/\I0 ud (I bd.H) (di (dv p l 0)) bd [zu ud 52,bh 0,zt ud 7] (cz 19 [(0,dl (U eT l)),(kr F fs cs),(7,di (I l:Int)),(8,di (↑0:Int))]) bd) ⟨by simp,rfl,⟨?_⟩⟩
 exact AhC F fs cs p l hl hp _ 0 rfl
theorem NE(F:yx)(fs cs:List V)(p:cr->Bool)(l:List (cr))(hl:I l<=1000000)(hp:∀x∈l,F0 F ((fs++[vT x]++cs).map .v) (db (p x))):
  F0 279 [dl (l.map eT),.v (.fn F fs cs)] (db (l.any p)):=by
 refine zq Ar7 9 (.c (di (dv p l 0)) .r) (F0 299 [bt (ae (U eT l)),bt (bw F fs cs)] (di (dv p l 0))/\db (Y (dv p l 0>=0))=db (List.any l p)) ?_
 grind[AhB,Fp]
def lj(x:Int):Bool:=Y (x<0)||Y (x>=6)
theorem Ag4(x:Int):F0 305 [di x] (db (lj x)):=by
 refine zq Arr 9 (.b .r .r) ((ye x 0->db J=db (lj x))/\(yd x 0->db (Y (x>=6))=db (lj x))) ?_
 grind[lj]
def Df(r:List Int):Bool:=Y ((I r:Int)>=1)&&(Y ((I r:Int)<=6)&& !(r.any lj))
theorem Ag3(r:List Int):F0 297 [cw r] (db (Df r)):=by
 refine zq AsW 16 (.b (.b (.c (db (r.any lj)) .r) .r) .r) ((y8 (I (U vi r)) 1->(ya (I (U vi r)) 6->F0 90 [cw r,bt (bw 305 [] [])] (db (List.any r lj))/\(db !List.any r lj)=db (Df r))/\(y9 (I (U vi r)) 6->db O=db (Df r)))/\(y7 (I (U vi r)) 1->db O=db (Df r))) ?_
 grind[Ej,Ag4,Df]
theorem AgD(r:List Int)(h:Df r=J):F0 278 [cw r,dl []] (db J):=by
 refine sv Arw 18 [2] (.c (db (Df r))<|.t<|.k<|.c (db O) .r) (F0 297 [cw r] (db (Df r))/\Df r=J/\F0 90 [bt (ae []),bt (bw 298 [] [bz (cy r)])] (db O)/\(db !false)=db J) ?_
 exact⟨Ag3 r,h,Ej _ [] [_] (fun _=>false) [] (by simp) (fun x hx=>by grind),rfl⟩
def CW:Nat->cr->Bool
 |0,_=>false
 |_+1,.nat=>true
 |_+1,.lab n=>Y (n>=1)&&Y (n<=16)
 |_+1,.prio n r=>(n==I r)&&Df r
 |d+1,.word t=>CW d t
 |d+1,.bag t=>CW d t
 |d+1,.prod l=> !((I l:Int)==0)&&(!decide ((I l:Int)>8)&&l.all (CW d))
theorem Ky(t:cr)(d:Nat)(hd:d<=100)(h:F0 249 [dT t,di d] (db J)):F0 280 [dT t,.v (.ref (vi ((d+1:Nat):Int)))] (db O):=by
 refine sv AsV 9 [2] (.c (db J) .r) (F0 249 [bt (vT t),di (yu yt ((↑(d+1):Int)-1))] (db J)/\(db !true)=db O) ?_
 grind[An]
theorem Abz(d:Nat):F0 249 [dT .nat,di ((d+1:Nat):Int)] (db J):=by
 refine sv q8 94 [2,3] (.f .r) (((↑(d+1):Int)==0)=O/\Q (db J)) ?_
 grind[cr.sz]
theorem Ab0(d:Nat)(n:Int)(h1:1<=n)(h2:n<=16):F0 249 [dT (.lab n),di ((d+1:Nat):Int)] (db J):=by
 refine sv q8 94 [2,3] (.f<|.k<|.k<|.k<|.k<|.k<|.k<|.t .r) (((↑(d+1):Int)==0)=O/\y8 (cr.sz (cr.lab n)) 1/\db (Y (cr.sz (cr.lab n)<=16))=db J) ?_
 grind[cr.sz]
theorem Yi(d:Nat)(n:Int)(r:List Int)(h1:n=I r)(h2:Df r=J):F0 249 [dT (.prio n r),di ((d+1:Nat):Int)] (db J):=by
 refine sv q8 94 [2,3] (.f<|.t<|.k<|.k<|.k<|.k<|.k<|.k<|.t<|.c (db J) .r) (((↑(d+1):Int)==0)=O/\yc (I (U vi (cr.rk (il n r)))) 0/\(cr.sz (il n r)==(I (U vi (cr.rk (il n r))):Int))=J/\F0 278 [bt (cy (cr.rk (il n r))),bt (ae [])] (db J)/\Q (db J)) ?_
 grind[Df,AgD,cr.rk,cr.sz]
noncomputable abbrev Av1:=fun a₀ (b₀:Nat)=>F0 279 [bt (ae [eT a₀]),bt (bw 280 [] [bz (vi (↑(b₀+1):Int))])] (db O)
theorem Yg(d:Nat)(t:cr)(hd:d<=100)(h:F0 249 [dT t,di d] (db J)):F0 249 [dT (.word t),di ((d+1:Nat):Int)] (db J):=by
 refine sv q8 94 [2,3] (.f<|.c (db O) .r) (((↑(d+1):Int)==0)=O/\Av1 t d/\(db !false)=db J) ?_
 have hz:(((d+1:Nat):Int)==0)=O:=IM.2 (by omega)
 exact⟨hz,NE _ [] [_] (fun _=>false) [t] (by simp) (fun x hx=>by grind[Ky]),rfl⟩
theorem Ab1(d:Nat)(t:cr)(hd:d<=100)(h:F0 249 [dT t,di d] (db J)):F0 249 [dT (.bag t),di ((d+1:Nat):Int)] (db J):=by
 refine sv q8 94 [2,3] (.f<|.c (db O) .r) (((↑(d+1):Int)==0)=O/\Av1 t d/\(db !false)=db J) ?_
 have hz:(((d+1:Nat):Int)==0)=O:=IM.2 (by omega)
 exact⟨hz,NE _ [] [_] (fun _=>false) [t] (by simp) (fun x hx=>by grind[Ky]),rfl⟩
theorem Yh(d:Nat)(l:List cr)(hd:d<=100)(h1:((I l:Int)==0)=O)(h2:Y ((I l:Int)>8)=O)(h:∀t∈l,F0 249 [dT t,di d] (db J)):F0 249 [dT (.prod l),di ((d+1:Nat):Int)] (db J):=by
 refine sv q8 94 [2,3] (.f<|.k<|.k<|.k<|.k<|.k<|.k<|.k<|.k<|.f<|.f<|.c (db O) .r) (((↑(d+1):Int)==0)=O/\((I (jh l):Int)==0)=O/\yb (I (jh l)) 8/\F0 279 [bt (ae (jh l)),bt (bw 280 [] [bz (vi (↑(d+1):Int))])] (db O)/\(db !false)=db J) ?_
 have h3:¬((I l:Int)>8):=IR h2
 have:=NE 280 [] [.ref (vi ((d+1:Nat):Int))] (fun _=>false) l (by omega) (fun x hx=>Ky x d hd (h x hx))
 grind[cr.ps]
theorem JT:∀(d:Nat) (t:cr),d<=100->CW d t=J->F0 249 [dT t,di d] (db J)
 |0,t,_,h=>by grind[CW]
 |d+1,.nat,_,h=>Abz d
 |d+1,.lab n,_,h=>by
  grind[CW,Ab0]
 |d+1,.prio n r,_,h=>by
  grind[CW,Yi]
 |d+1,.word t,hd,h=>Yg d t (by omega) (JT d t (by omega) (by grind[CW]))
 |d+1,.bag t,hd,h=>Ab1 d t (by omega) (JT d t (by omega) (by grind[CW]))
 |d+1,.prod l,hd,h=>by
  simp only[CW,HL,IZ,IU] at h
  exact Yh d l (by omega) h.1 h.2.1 fun t ht=>JT d t (by omega) (h.2.2 t ht)
theorem Ac1(t:cr)(h:CW 8 t=J):F0 208 [dT t] (di 0):=by
 exact sv Ar1 6 [1] (.c (db J) .r) (_/\Q (di 0)) ⟨JT 8 t (by omega) h,rfl⟩
noncomputable def sy:=yl uj
noncomputable abbrev jz:=fun a₀=>(b9.size a₀)
theorem Aiz(N:Nat):∀v:b9,v.size<=N->∀m:Int,0<=m->m<=1000->F0 250 [dV v,di m] (di (min (v.size:Int) (m+1))):=by
 induction N with
 |zero=>intro v hv;have:=v.size_pos;omega
 |succ N ihN=>
  intro v hv m hm0 hm1
  have hsz:=v.size_eq
  have loop (n:Nat):∀(k:Nat) (a:Int),I v.az-k=n->k+1<=a->a<=m+1->
    Rn PP uj 0 (di (min (a+(b9.sizes (v.az.drop k):Int)) (m+1))) bd ([kl sy [1,1,0,1,0,0],.blk 0,kc sy [1,1,1]]++[]) (cz 27 [(1,di m),(5,di a),(9,co v.az),(10,di (I v.az)),(11,di k)]) bd:=by
   induction n using Nat.strongRecOn with
   |_ n ih=>
   intro k a hn ha0 ha1
   refine lv 27 [2] (.b (.e fun x:b9=>.x (Ad x)<|.b .r<|.c (di (min (x.size:Int) (m-a+1)))<|.ls [ke 1,ch 5 (di (min (a+(x.size:Int)) (m+1))),ke 9,ke 10,ch 11 (di (k+1:Nat))] bd) .r) ((Y ((k:Int)<(I v.az:Int))=J->∃a_2,0<=(k:Int)/\(c7 v.az)[Z (k:Int)]?=G (Ad a_2)/\(Y (a>m)=J->di a=di (min (a+(↑(b9.sizes (W k v.az)):Int)) (m+1)))/\(Y (a>m)=O->Aa PP 250 [dV a_2,di (yu yt (m-a))] d7 (di (min (↑(jz a_2):Int) (m-a+1))) d7/\di (yu yt (a+min (↑(jz a_2):Int) (m-a+1)))=di (min (a+(↑(jz a_2):Int)) (m+1))/\di (yu yt ((k:Int)+1))=di (↑(k+1):Int)/\Nv.It (A5 (CN 0) PP (fun env σ1=>A7 PP uj env σ1 (di (min (a+(↑(b9.sizes (W k v.az)):Int)) (m+1))) bd) [kl sy e9,bh 0,kc sy [1,1,1]] (cz 27 [(1,di m),(5,di (min (a+(↑(jz a_2):Int)) (m+1))),(9,co v.az),(10,di (I v.az:Int)),(11,di (↑(k+1):Int))]) bd)))/\(Y ((k:Int)<(I v.az:Int))=O->di a=di (min (a+(↑(b9.sizes (W k v.az)):Int)) (m+1)))) ⟨fun h=>?_,fun h=>?_⟩
   ·have hk:k<I v.az:=by simpa using h
    have hx:v.az[k]?=G v.az[k]:=HK hk
    rw[HZ hk]
    generalize v.az[k]=x at hx⊢
    have hxs:=b9.size_mem (HQ hx)
    have hx1:=x.size_pos
    simp only[b9.sizes]
    refine⟨x,by omega,Ap hx,fun h1=>?_,fun h1=>⟨?_,?_,Ac,⟨?_⟩⟩⟩
    ·have h1:=HV h1
     rw[Jq];split<;>congr 1<;>omega
    ·rw[An]
     have h1:=IR h1
     exact ihN x (by omega) (m-a) (by omega) (by omega)
    ·have h1:=IR h1
     rw[An (by rw[Jq];split<;>omega) (by rw[Jq];split<;>omega)]
     simp only[Jq];congr 1;split<;>split<;>omega
    ·have h1:=IR h1
     have:=ih (I v.az- (k+1)) (by omega) (k+1) (min (a+(x.size:Int)) (m+1)) rfl (by rw[Jq];split<;>omega) (by rw[Jq];split<;>omega)
     rw[show min (min (a+(x.size:Int)) (m+1)+(b9.sizes (v.az.drop (k+1)):Int)) (m+1)=min (a+((x.size+b9.sizes (v.az.drop (k+1)):Nat):Int)) (m+1) by simp only[Jq];(repeat' split)<;>omega] at this
     exact this
   ·have hk:I v.az<=k:=by simpa using h
    rw[I3 hk]
    simp only[b9.sizes];rw[Jq];split<;>congr 1<;>omega
  refine sv uj 27 [2] (.l [ke 1,ch 5 (di 1),ke 9,ch 10 (di (I v.az)),ch 11 (di (0:Nat))]) (Q (di 1)/\di (I (c7 v.az):Int)=di (I v.az:Int)/\Q (di 0)/\I0 uj (I bd.H) (di (min (↑(jz v):Int) (m+1))) bd [kl sy e9,bh 0,kc sy [1,1,1]] (cz 27 [(1,di m),(5,di 1),(9,co v.az),(10,di (I v.az:Int)),(11,di (↑0:Int))]) bd) ⟨rfl,by rw[HJ],rfl,⟨?_⟩⟩
  have:=loop _ 0 1 rfl (by omega) (by omega)
  grind
theorem Yo(v:b9):F0 209 [dV v] (di (min (v.size:Int) 129)):=by
 exact sv AoU 6 [1] (.c (di (min (v.size:Int) 129)) .r) (_/\di (if 129<min (↑(jz v):Int) 129 then 129 else min (↑(jz v):Int) 129)=di (min (↑(jz v):Int) 129)) ⟨Aiz _ v (HR _) 128 (by decide) (by decide),by grind⟩
def Al(t:cr)(v:b9):Bool:=Y ((v.size:Int)<=128)&&A1 t v
theorem Mx(t:cr)(h:CW 8 t=J)(v:b9):F0 147 [dT t,dV v] (db (Al t v)):=by
 refine sv Ar0 18 [2,3] (.c (di 0)<|.c (di (min (v.size:Int) 129))<|.b (.c (db (A1 t v)) .r) .r) (_/\_/\(ya (min (↑(jz v):Int) 129) 128->F0 210 [bt (vT t),dV v] (db (A1 t v))/\db (A1 t v)=db (Al t v))/\(y9 (min (↑(jz v):Int) 129) 128->db O=db (Al t v))) ⟨Ac1 t h,Yo v,fun h1=>?_,fun h1=>?_⟩
 ·have h1:=HV h1
  have h2:(v.size:Int)<=128:=by rw[Jq] at h1;split at h1<;>omega
  exact⟨Ahc _ t (HR _) v (by omega),by rw[Al,HM h2,IG]⟩
 grind[Al]
structure pz where
 pl:Int
 ph:Int
 ll:Int
 lh:Int
 vl:Int
 vh:Int
 al:Int
 ah:Int
abbrev Vl(l:pz):D:=.v (.agg [vi l.pl,vi l.ph,vi l.ll,vi l.lh,vi l.vl,vi l.vh,vi l.al,vi l.ah])
abbrev qj:pz:=⟨1,6,0,0,0,0,0,0⟩
abbrev vx:pz:=⟨1,2,1,6,0,0,0,0⟩
abbrev s7:pz:=⟨1,6,0,0,0,0,0,3⟩
theorem AqZ:F0 132 [di 1] (Vl qj):=by
 refine zq th 29 .r (bt (aa [vi 1,vi 6,vi 0,vi 0,vi 0,vi 0,vi 0,vi 0])=Vl qj) ?_
 rfl
theorem AqY:F0 132 [di 2] (Vl vx):=by
 refine zq th 29 .r (bt (aa [vi 1,vi 2,vi 1,vi 6,vi 0,vi 0,vi 0,vi 0])=Vl vx) ?_
 rfl
theorem AqX:F0 132 [di 3] (Vl vx):=by
 refine zq th 29 .r (bt (aa [vi 1,vi 2,vi 1,vi 6,vi 0,vi 0,vi 0,vi 0])=Vl vx) ?_
 rfl
theorem AqW:F0 132 [di 5] (Vl s7):=by
 refine zq th 29 .r (bt (aa [vi 1,vi 6,vi 0,vi 0,vi 0,vi 0,vi 0,vi 3])=Vl s7) ?_
 rfl
def Cw(l:pz)(m:cx):Bool:=A4 (I m.aw) 1 8&&(Y ((I m.av:Int)<=12)&&(A4 (I m.ay) l.pl l.ph&&(A4 (I m.ax) l.ll l.lh&&(A4 m.am l.vl l.vh&&A4 m.age l.al l.ah))))
theorem EM(l:pz)(m:cx)(h:F0 132 [di m.kind] (Vl l)):F0 97 [Af m] (db (Cw l m)):=by
 refine sv AoK 63 [1] (.c (Vl l)<|.c (db (A4 (I m.aw) 1 8))<|.b (.b (.c (db (A4 (I m.ay) l.pl l.ph))<|.b (.c (db (A4 (I m.ax) l.ll l.lh))<|.b (.c (db (A4 m.am l.vl l.vh))<|.b (.c (db (A4 m.age l.al l.ah)) .r) .r) .r) .r) .r) .r) (type_of% h/\F0 96 [di (I (df m.aw):Int),di 1,di 8] (db (A4 (I m.aw:Int) 1 8))/\(A4 (I m.aw:Int) 1 8=J->(ya (I (U Aj m.av)) 12->iz 0<=0/\0<(↑2:Int)/\iz 0<=1/\1<(↑2:Int)/\F0 96 [di (I (df m.ay):Int),di l.pl,di l.ph] (db (A4 (I m.ay:Int) l.pl l.ph))/\(A4 (I m.ay:Int) l.pl l.ph=J->iz 0<=0/\0<(↑2:Int)/\iz 0<=1/\1<(↑2:Int)/\F0 96 [di (I (df m.ax):Int),di l.ll,di l.lh] (db (A4 (I m.ax:Int) l.ll l.lh))/\(A4 (I m.ax:Int) l.ll l.lh=J->iz 0<=0/\0<(↑2:Int)/\iz 0<=1/\1<(↑2:Int)/\F0 96 [di m.am,di l.vl,di l.vh] (db (A4 m.am l.vl l.vh))/\(A4 m.am l.vl l.vh=J->iz 0<=0/\0<(↑2:Int)/\iz 0<=1/\1<(↑2:Int)/\F0 96 [di m.age,di l.al,di l.ah] (db (A4 m.age l.al l.ah))/\db (A4 m.age l.al l.ah)=db (Cw l m))/\(A4 m.am l.vl l.vh=O->db O=db (Cw l m)))/\(A4 (I m.ax:Int) l.ll l.lh=O->db O=db (Cw l m)))/\(A4 (I m.ay:Int) l.pl l.ph=O->db O=db (Cw l m)))/\(y9 (I (U Aj m.av)) 12->db O=db (Cw l m)))/\(A4 (I m.aw:Int) 1 8=O->db O=db (Cw l m))) ?_
 grind[Er,Cw]
theorem RV(x:Int):F0 133 [di x] (db (!A4 x 0 5)):=by
 refine zq Aib 6 (.c (db (A4 x 0 5)) .r) (F0 96 [di x,di 0,di 5] (db (A4 x 0 5))/\Q (db !A4 x 0 5)) ?_
 grind[Er]
def Ck(m:cx):Bool:=if (m.kind !=3)=J then(I m.au:Int)==0 else((I m.au:Int)==I m.ax)&&m.au.all fun x=>A4 x 0 5
theorem Fx(m:cx)(hm:I m.au<=1000000):F0 98 [Af m] (db (Ck m)):=by
 refine sv AlF 23 [1] (.b .r (.b (.c (db (m.au.any fun x=> !A4 x 0 5)) .r) .r)) (((m.kind !=3)=J->db ((I (dt m.au):Int)==0)=db (Ck m))/\((m.kind !=3)=O->(((I (dt m.au):Int)==(I (df m.ax):Int))=J->F0 90 [cw m.au,bt (bw 133 [] [])] (db (List.any m.au fun x=> !A4 x 0 5))/\(db !List.any m.au fun x=> !A4 x 0 5)=db (Ck m))/\(((I (dt m.au):Int)==(I (df m.ax):Int))=O->db O=db (Ck m)))) ?_
 grind[Ej,RV,Ck]
theorem F2(n:Int):F0 211 [di n] (dT (.lab n)):=by
 refine zq AlH 5 .r (bt (aa [vi 2,vi n,ae [],ae []])=dT (cr.lab n)) ?_
 rfl
theorem Y1(t:cr):F0 213 [di 4,dT t] (dT (.word t)):=by
 refine sv AjK 9 [3] .r (bt (aa [vi 4,vi 0,ae [],ae [vT t]])=dT (cr.word t)) ?_
 grind[PS]
theorem AcD(t:cr):F0 213 [di 5,dT t] (dT (.bag t)):=by
 refine sv AjK 9 [3] .r (bt (aa [vi 5,vi 0,ae [],ae [vT t]])=dT (cr.bag t)) ?_
 grind[VF]
abbrev Rt(l:List cr):D:=.acc 1 (l.map eT)
abbrev me(l:List cr):St:=⟨[G [di 0,di 0,.v .nils,.v .nils]],[(1,4,l.map eT)]⟩
theorem CC(l:List cr)(t:cr):l.map eT++[vT t]=(l++[t]).map eT:=by grind[YU]
def Fg(m:cx):cr:=if m.kind=1 then .nat else if m.kind=2 then .word (.lab (I m.ax)) else .prio (I m.ax) m.au
def AM(m:cx):cr:=.prod (.lab (I m.aw)::replicate (I m.ay) (Fg m))
noncomputable abbrev rp:=fun a₀=>(aa [vi 3,vi 0,ae [],ae (U eT a₀)])
noncomputable abbrev Ayk:=(vi 1::vi 0::ae nV::ae nV::nV)
theorem TL(m:cx)(hm:I m.ay<=1000)(hk:m.kind=1)(n:Nat):∀(k:Nat) (xs:List cr),I m.ay-k=n->k<=I m.ay->I xs<=k+1->
  Rn PP Ha 0 (dT (.prod (xs++replicate n (.nat)))) bd ([zu Ha 7548,.blk 1,.blk 0,zt Ha 15]++[]) (cz 70 [(1,.v (.ref (Aq m))),(2,.ptr 0 0),(3,Rt xs),(14,di (I m.ay)),(15,di k)]) (me xs):=by
 induction n with
 |zero=>
  intro k xs hn hk0 hxs
  refine zo [1] (.f .r) (yd k (I m.ay)/\bt (rp xs)=dT (cr.prod (xs++replicate 0 cr.nat))) ⟨yq,?_⟩
  rw[List.replicate_zero,IX];rfl
 |succ n ih=>
  intro k xs hn hk0 hxs
  have h:=ih (k+1) (xs++[.nat]) (by omega) (by omega) (by grind)
  rw[Jx] at h
  refine zo [1] (.t<|.f<|.f<|.ls [ke 1,ke 2,ch 3 (Rt (xs++[.nat])),ke 14,ch 15 (zw k)] (me (xs++[.nat]))) (ye k (I m.ay)/\(m.kind==2)=O/\(m.kind==3)=O/\Q (U eT xs)/\Ao (I (U eT xs)+I (aa (a8 yt 1::a8 yt 0::ae nV::ae nV::nV)::nV)) 64/\br 1 (U eT xs++[aa [vi 1,vi 0,ae [],ae []]])=Rt (xs++[cr.nat])/\zx k/\Q (me (xs++[.nat])).H/\[(1,4,U eT xs++aa Ayk::nV)]=[(1,4,U eT (xs++[cr.nat]))]/\_) ⟨yr,by grind,by grind,rfl,⟨?_,?_⟩,?_,Ac,rfl,?_,iK h⟩
  ·grind
  ·grind
  ·rw[Rt, ←CC];rfl
  ·rw[←CC];rfl
noncomputable abbrev Avd:=fun a₀=>F0 211 [di (I (df a₀):Int)] (dT (cr.lab (I a₀:Int)))
noncomputable abbrev lr:=[di 0,di 0,dn,dn]
noncomputable abbrev o9:=(2,bq 0 0)
theorem TK(m:cx)(hm:I m.ay<=1000)(hk:m.kind=2)(n:Nat):∀(k:Nat) (xs:List cr),I m.ay-k=n->k<=I m.ay->I xs<=k+1->
  Rn PP Ha 0 (dT (.prod (xs++replicate n (.word (.lab (I m.ax)))))) bd ([zu Ha 7548,.blk 1,.blk 0,zt Ha 15]++[]) (cz 70 [(1,.v (.ref (Aq m))),(2,.ptr 0 0),(3,Rt xs),(14,di (I m.ay)),(15,di k)]) (me xs):=by
 induction n with
 |zero=>
  intro k xs hn hk0 hxs
  refine zo [1] (.f .r) (yd k (I m.ay)/\bt (rp xs)=dT (cr.prod (xs++replicate 0 (cr.word (cr.lab (I m.ax:Int)))))) ⟨yq,?_⟩
  rw[List.replicate_zero,IX];rfl
 |succ n ih=>
  intro k xs hn hk0 hxs
  refine zo [1] (.t<|.t<|.c (dT (.lab (I m.ax)))<|.c (dT (.word (.lab (I m.ax))))<|.ls [ke 1,ke 2,ch 3 (Rt (xs++[.word (.lab (I m.ax))])),ke 14,ch 15 (zw k)] (me (xs++[.word (.lab (I m.ax))]))) (ye k (I m.ay)/\(m.kind==2)=J/\Avd m.ax/\F0 213 [di 4,bt (vT (cr.lab (I m.ax:Int)))] (dT (cr.word (cr.lab (I m.ax:Int))))/\Q (U eT xs)/\Ao (I (U eT xs)+I (aa (vi (cr.kd (cr.word (cr.lab (I m.ax:Int))))::vi (cr.sz (cr.word (cr.lab (I m.ax:Int))))::cy (cr.rk (cr.word (cr.lab (I m.ax:Int))))::ae (U eT (cr.ps (cr.word (cr.lab (I m.ax:Int)))))::nV)::nV)) 64/\br 1 (U eT xs++[aa [vi (cr.kd (cr.word (cr.lab (I m.ax:Int)))),vi (cr.sz (cr.word (cr.lab (I m.ax:Int)))),cy (cr.rk (cr.word (cr.lab (I m.ax:Int)))),ae [eT (cr.lab (I m.ax:Int))]]])=Rt (xs++[cr.word (cr.lab (I m.ax:Int))])/\zx k/\Q [G lr]/\[(1,4,U eT xs++aa (vi (cr.kd (cr.word (cr.lab (I m.ax:Int))))::vi (cr.sz (cr.word (cr.lab (I m.ax:Int))))::cy (cr.rk (cr.word (cr.lab (I m.ax:Int))))::ae (eT (cr.lab (I m.ax:Int))::nV)::nV)::nV)]=[(1,4,U eT (xs++[cr.word (cr.lab (I m.ax:Int))]))]/\I0 Ha 0 (dT (cr.prod (xs++replicate (n+1) (cr.word (cr.lab (I m.ax:Int)))))) bd [zu Ha 7548,bh 1,bh 0,zt Ha 15] (cz 70 [(1,bt (g7 m)),o9,(3,Rt (xs++[cr.word (cr.lab (I m.ax:Int))])),(14,di (I m.ay:Int)),(15,zw k)]) (me (xs++[cr.word (cr.lab (I m.ax:Int))]))) ?_
  have h:=ih (k+1) (xs++[.word (.lab (I m.ax))]) (by omega) (by omega) (by grind)
  rw[Jx] at h
  refine⟨yr,by grind,by grind[F2],Y1 _,rfl,⟨?_,?_⟩,?_,Ac,rfl,?_,⟨h⟩⟩
  ·grind
  ·grind
  ·rw[Rt, ←CC];rfl
  ·rw[←CC];rfl
theorem TJ(m:cx)(hm:I m.ay<=1000)(hr:I m.au<=1000000)(hk:m.kind=3)(n:Nat):∀(k:Nat) (xs:List cr),I m.ay-k=n->k<=I m.ay->I xs<=k+1->
  Rn PP Ha 0 (dT (.prod (xs++replicate n (.prio (I m.ax) m.au)))) bd ([zu Ha 7548,.blk 1,.blk 0,zt Ha 15]++[]) (cz 70 [(1,.v (.ref (Aq m))),(2,.ptr 0 0),(3,Rt xs),(14,di (I m.ay)),(15,di k)]) (me xs):=by
 induction n with
 |zero=>
  intro k xs hn hk0 hxs
  refine zo [1] (.f .r) (yd k (I m.ay)/\bt (rp xs)=dT (cr.prod (xs++replicate 0 (cr.prio (I m.ax:Int) m.au)))) ⟨yq,?_⟩
  rw[List.replicate_zero,IX];rfl
 |succ n ih=>
  intro k xs hn hk0 hxs
  have h:=ih (k+1) (xs++[.prio (I m.ax) m.au]) (by omega) (by omega) (by grind)
  rw[Jx] at h
  refine zo [1] (.t<|.f<|.t<|.c (cw m.au)<|.ls [ke 1,ke 2,ch 3 (Rt (xs++[.prio (I m.ax) m.au])),ke 14,ch 15 (zw k)] (me (xs++[.prio (I m.ax) m.au]))) (ye k (I m.ay)/\(m.kind==2)=O/\(m.kind==3)=J/\_/\Q (U eT xs)/\Ao (I (U eT xs)+I (aa (a8 yt 7::a8 yt (I (df m.ax):Int)::cy m.au::ae nV::nV)::nV)) 64/\br 1 (U eT xs++[aa [vi 7,vi (I (df m.ax):Int),cy m.au,ae []]])=Rt (xs++[cr.prio (I m.ax:Int) m.au])/\zx k/\Q [G lr]/\[(1,4,U eT xs++aa (vi 7::vi (I (df m.ax):Int)::cy m.au::ae nV::nV)::nV)]=[(1,4,U eT (xs++[cr.prio (I m.ax:Int) m.au]))]/\_) ⟨yr,by grind,by grind,Aes m.au hr,rfl,⟨?_,?_⟩,?_,Ac,rfl,?_,iK h⟩
  ·grind
  ·grind
  ·rw[Rt, ←CC];rw[HJ];rfl
  ·rw[←CC];rw[HJ];rfl
theorem O8(m:cx)(hm:I m.ay<=1000)(hr:I m.au<=1000000)(hk:m.kind=1∨m.kind=2∨m.kind=3):F0 148 [Af m] (dT (AM m)):=by
 refine sv Ha 70 [1] (.c (dT (.lab (I m.aw)))<|.a 1<|.f<|.f<|.ls [ke 1,ke 2,ch 3 (Rt [.lab (I m.aw)]),ch 14 (di (I m.ay)),ch 15 (di (0:Nat))] (me [.lab (I m.aw)])) (Avd m.aw/\(m.kind==4)=O/\(m.kind==5)=O/\Q (Rt [cr.lab (I m.aw:Int)])/\di (I (df m.ay):Int)=di (I m.ay:Int)/\Q (di 0)/\Q [G lr]/\Q [(1,4,vT (cr.lab (I m.aw:Int))::nV)]/\I0 Ha (I bd.H) (dT (AM m)) bd [zu Ha 7548,bh 1,bh 0,zt Ha 15] (cz 70 [(1,bt (g7 m)),o9,(3,Rt [cr.lab (I m.aw:Int)]),(14,di (I m.ay:Int)),(15,di (↑0:Int))]) (me [cr.lab (I m.aw:Int)])) ⟨by grind[F2],by grind,by grind,rfl,by grind,rfl,rfl,rfl,⟨?_⟩⟩
 rcases hk with h|h|h
 ·have:=TL m hm h _ 0 [.lab (I m.aw)] rfl (by omega) (by simp)
  grind[AM,Fg]
 ·have:=TK m hm h _ 0 [.lab (I m.aw)] rfl (by omega) (by simp)
  grind[AM,Fg]
 ·have:=TJ m hm hr h _ 0 [.lab (I m.aw)] rfl (by omega) (by simp)
  grind[AM,Fg]
theorem AhE(F:yx)(fs cs:List V)(p:cm->Bool)(l:List (cm))(hl:I l<=1000000)(hp:∀x∈l,F0 F ((fs++[Aj x]++cs).map .v) (db (p x)))(n:Nat):∀k:Nat,I l-k=n->
  Rn PP sc 0 (di (dv p (l.drop k) k)) bd ([zu sc 52,.blk 0,zt sc 7]++[]) (cz 19 [(0,dl (l.map Aj)),(1,.v (.fn F fs cs)),(7,di (I l)),(8,di k)]) bd:=by
 induction n using Nat.strongRecOn with
 |_ n ih=>
 intro k hn
 refine zp (.b (.e fun x:cm=>.x (Aj x)<|.c (db (p x))<|.b .r (.l (qr k))) .r) ((ye k (I l)->∃a,y6 k/\zy (U Aj l) k (Aj a)/\Aa PP F (U bt (fs++[Aj a]++cs)) d7 (db (p a)) d7/\(p a=J->di (k:Int)=di (dv p (W k l) k))/\(p a=O->zx k/\Nv.It (A5 (CN 0) PP (fun env σ1=>A7 PP sc env σ1 (di (dv p (W k l) k)) bd) [zu sc 52,bh 0,zt sc 7] (cz 19 [(0,bt (ae (U Aj l))),(kr F fs cs),(7,di (I l:Int)),(8,zw k)]) bd)))/\(yd k (I l)->di (-1)=di (dv p (W k l) k))) ⟨fun h=>?_,fun h=>?_⟩
 ·have hk:k<I l:=by simpa using h
  have hx:l[k]?=G l[k]:=HK hk
  rw[HZ hk]
  generalize l[k]=x at hx⊢
  refine⟨x,by omega,Ae hx,hp x (HQ hx),fun hf=>by simp[dv,hf],fun hf=>⟨Ac,⟨?_⟩⟩⟩
  simp only[dv,hf]
  exact ih (I l- (k+1)) (by omega) (k+1) rfl
 grind[drop_of_length_le,dv]
theorem AhD(F:yx)(fs cs:List V)(p:cm->Bool)(l:List (cm))(hl:I l<=1000000)(hp:∀x∈l,F0 F ((fs++[Aj x]++cs).map .v) (db (p x))):
  F0 137 [dl (l.map Aj),.v (.fn F fs cs)] (di (dv p l 0)):=by
 refine zq sc 19 (.l [ke 0,ke 1,ch 7 (di (I l)),ch 8 (di (0:Nat))]) (di (I (U Aj l):Int)=di (I l:Int)/\Q (di 0)/\I0 sc (I bd.H) (di (dv p l 0)) bd [zu sc 52,bh 0,zt sc 7] (cz 19 [(0,dl (U Aj l)),(kr F fs cs),(7,di (I l:Int)),(8,di (↑0:Int))]) bd) ⟨by simp,rfl,⟨?_⟩⟩
 exact AhE F fs cs p l hl hp _ 0 rfl
theorem NF(F:yx)(fs cs:List V)(p:cm->Bool)(l:List (cm))(hl:I l<=1000000)(hp:∀x∈l,F0 F ((fs++[Aj x]++cs).map .v) (db (p x))):
  F0 100 [dl (l.map Aj),.v (.fn F fs cs)] (db (l.any p)):=by
 refine zq Apj 9 (.c (di (dv p l 0)) .r) (F0 137 [bt (ae (U Aj l)),bt (bw F fs cs)] (di (dv p l 0))/\db (Y (dv p l 0>=0))=db (List.any l p)) ?_
 grind[AhD,Fp]
def Sn(m:cx):pz:=if m.kind=1 then qj else vx
def FB(m:cx)(r:cm):Bool:=if m.kind=1 then EO m r else FC m r
structure cx.okN(m:cx):Prop where
 kind:m.kind=1∨m.kind=2∨m.kind=3
 sized:Cw (Sn m) m=J
 ranked:Ck m=J
 named:DJ m=J
structure cx.okS(m:cx):Prop where
 n:m.okN
 rshort:∀r∈m.av,r.short
 right:∀r∈m.av,FB m r=J
structure cx.ok(m:cx):Prop where
 kind:m.kind=1∨m.kind=2∨m.kind=3
 sized:Cw (Sn m) m=J
 ranked:Ck m=J
 named:DJ m=J
 rshort:∀r∈m.av,r.short
 right:∀r∈m.av,FB m r=J
 start:Al (AM m) m.start=J
 ssize:m.start.size<=1000000
theorem cx.ok.n{m:cx}(h:m.ok):m.okN:=⟨h.kind,h.sized,h.ranked,h.named⟩
theorem cx.ok.s{m:cx}(h:m.ok):m.okS:=⟨h.n,h.rshort,h.right⟩
instance {m:cx}:Coe m.ok m.okN:=⟨cx.ok.n⟩
instance {m:cx}:Coe m.okS m.okN:=⟨cx.okS.n⟩
instance {m:cx}:Coe m.ok m.okS:=⟨cx.ok.s⟩
theorem C6{x a b:Int}(h:A4 x a b=J):a<=x/\x<=b:=by grind[A4]
theorem cx.okN.sz{m:cx}(h:m.okN):1<=I m.aw/\m.aw.length<=8/\m.av.length<=12/\1<=I m.ay/\m.ay.length<=6/\m.ax.length<=6/\m.au.length<=6/\(m.kind≠1->1<=I m.ax):=by
 have hs:=h.sized
 simp only[Cw,HL,HU] at hs
 obtain⟨h1,h2,h3,h4,h5,h6⟩:=hs
 have h1:=C6 h1
 have h3:=C6 h3
 have h4:=C6 h4
 have hr:=h.ranked
 have hl:(Sn m).pl=1/\(Sn m).ph<=6/\(Sn m).lh<=6/\(m.kind≠1->(Sn m).ll=1):=by
  grind[Sn]
 have hrk:I m.au=0∨m.au.length=I m.ax:=by
  unfold Ck at hr
  grind
 omega
theorem cx.ok.sz{m:cx}(h:m.ok):1<=I m.aw/\m.aw.length<=8/\m.av.length<=12/\1<=I m.ay/\m.ay.length<=6/\m.ax.length<=6/\m.au.length<=6/\(m.kind≠1->1<=I m.ax):=h.n.sz
theorem cx.okS.short{m:cx}(h:m.okS):m.short:=by
 obtain⟨h1,h2,h3,h4,h5,h6,h7,h8⟩:=h.n.sz
 exact⟨by omega,by omega,by omega,by omega,by omega,h.rshort⟩
theorem cx.ok.short{m:cx}(h:m.ok):m.short:=h.s.short
theorem cx.okN.good{m:cx}(h:m.okN):CW 8 (AM m)=J:=by
 obtain⟨h1,h2,h3,h4,h5,h6,h7,h8⟩:=h.sz
 have he:CW 7 (Fg m)=J:=by
  unfold Fg
  split
  ·rfl
  ·rename_i hk
   split
   ·grind[CW]
   ·have hk3:m.kind=3:=by rcases h.kind with h|h|h<;>omega
    have hr:=h.ranked
    simp only[Ck,hk3,bne_self_eq_false,JL,if_false,HL,IJ,IU] at hr
    simp only[CW,Df,HL,IJ,HU,IZ,List.any_eq_false,Bool.not_eq_true]
    refine⟨by omega,by omega,by omega,fun x hx=>?_⟩
    have:=C6 (hr.2 x hx)
    grind[lj]
 grind[AM,CW]
theorem cx.ok.good{m:cx}(h:m.ok):CW 8 (AM m)=J:=h.n.good
theorem AkP(m:cx)(hm:m.okS)(r:cm)(hr:r∈m.av):F0 102 [Af m,BK r] (db J):=by
 have h:=hm.right r hr
 rcases hm.n.kind with hk|hk
 ·rw[FB,I4 hk] at h
  rw[←h];exact U5 m hm.short hk r (hm.rshort r hr)
 ·rw[FB,Iz (by omega)] at h
  rw[←h];exact U4 m hm.short hk r (hm.rshort r hr)
theorem Aez(m:cx)(hm:m.okS)(r:cm)(hr:r∈m.av):F0 101 [BK r,.v (.ref (Aq m))] (db O):=by
 refine sv Aig 8 [2] (.c (db J) .r) (F0 102 [Af m,BK r] (db J)/\(db !true)=db O) ?_
 grind[AkP]
theorem Akd(m:cx)(t:cr)(b:Bool)(hk:(m.kind==6)=O)(hT:F0 148 [Af m] (dT t))(hV:F0 147 [dT t,dV m.start] (db b)):F0 103 [Af m] (db b):=by
 refine sv As9 22 [1] (.f<|.c (dT t)<|.c (db b) .r) ((m.kind==6)=O/\F0 148 [Af m] (dT t)/\type_of% hV/\Q (db b)) ?_
 grind
def pq(b1 b2 b3 b4 b5 b6:Bool):Int:=if b1 then(if b2 then(if b3 then(if b4 then(if b5 then 16 else(if b6 then 0 else 17)) else 13) else 14) else 1) else 15
theorem Oh(m:cx)(b1 b2 b3 b4 b5 b6:Bool)(h1:A4 m.kind 1 6=b1)(h2:b1=J->F0 97 [Af m] (db b2))(h3:b2=J->F0 98 [Af m] (db b3))(h4:b2=J->F0 99 [Af m] (db b4))
  (h5:b2=J->F0 100 [.v (Hk m.av),.v (.fn 101 [] [.ref (Aq m)])] (db b5)) (h6:b5=O->F0 103 [Af m] (db b6)):F0 70 [Af m] (di (pq b1 b2 b3 b4 b5 b6)):=by
 have h1:=h1▸Er m.kind 1 6
 have nb:∀{b:Bool},(!b)=O->b=J:=fun h=>by grind
 have nt:∀{b:Bool},(!b)=J->b=O:=fun h=>by grind
 exact sv As7 29 [1] (.c (db b1)<|.b .r<|.c (db b2)<|.b .r<|.c (db b3)<|.b .r<|.c (db b4)<|.b .r<|.c (db b5)<|.b .r<|.c (db b6)<|.b .r .r) (_/\((!b1)=J->di 15=di (pq b1 b2 b3 b4 b5 b6))/\((!b1)=O->F0 97 [Af m] (db b2)/\((!b2)=J->di 1=di (pq b1 b2 b3 b4 b5 b6))/\((!b2)=O->F0 98 [Af m] (db b3)/\((!b3)=J->di 14=di (pq b1 b2 b3 b4 b5 b6))/\((!b3)=O->F0 99 [Af m] (db b4)/\((!b4)=J->di 13=di (pq b1 b2 b3 b4 b5 b6))/\((!b4)=O->F0 100 [bt (Hk m.av),bt (bw 101 [] [bz (Aq m)])] (db b5)/\(b5=J->di 16=di (pq b1 b2 b3 b4 b5 b6))/\(b5=O->F0 103 [Af m] (db b6)/\((!b6)=J->di 17=di (pq b1 b2 b3 b4 b5 b6))/\((!b6)=O->di 0=di (pq b1 b2 b3 b4 b5 b6)))))))) ⟨h1,fun e=>by rw[nt e];rfl,fun e1=>⟨h2 (nb e1),fun e=>by rw[nb e1,nt e];rfl,fun e2=>⟨h3 (nb e2),fun e=>by rw[nb e1,nb e2,nt e];rfl,fun e3=>⟨h4 (nb e2),fun e=>by rw[nb e1,nb e2,nb e3,nt e];rfl,fun e4=>⟨h5 (nb e2),fun e=>by rw[nb e1,nb e2,nb e3,nb e4,e];rfl,fun e5=>⟨h6 e5,fun e=>by rw[nb e1,nb e2,nb e3,nb e4,e5,nt e];rfl,fun e=>by rw[nb e1,nb e2,nb e3,nb e4,e5,nb e];rfl⟩⟩⟩⟩⟩⟩
theorem Aey(m:cx)(hm:m.okS):F0 70 [Af m] (di (if Al (AM m) m.start then 0 else 17)):=by
 obtain⟨h1,h2,h3,h4,h5,h6,h7,h8⟩:=hm.n.sz
 have:=Oh m true true true true false (Al (AM m) m.start) (by rcases hm.n.kind with h|h|h<;>rw[h]<;>rfl) (fun _=>?_) (fun _=>?_) (fun _=>?_) (fun _=>?_) (fun _=>Akd m _ _ (by rcases hm.n.kind with h|h|h<;>rw[h]<;>rfl) (O8 m (by omega) (by omega) hm.n.kind) (Mx _ hm.n.good _))
 ·exact this
 ·have:=EM (Sn m) m (by
   unfold Sn
   rcases hm.n.kind with h|h|h<;>rw[h]
   all_goals grind[AqZ,AqY,AqX])
  rwa[hm.n.sized] at this
 ·have:=Fx m (by omega)
  rwa[hm.n.ranked] at this
 ·have:=KU m (by grind[Ch])
  rwa[hm.n.named] at this
 ·have:=NF 101 [] [.ref (Aq m)] (fun _=>false) m.av (by omega) (fun r hr=>Aez m hm r hr)
  grind
theorem G3(m:cx)(hm:m.ok):F0 70 [Af m] (di 0):=by
 have:=Aey m hm
 rwa[hm.start,I4 rfl] at this
theorem Ahq(m:cx)(hm:m.ok)(v:b9):F0 105 [Af m,dV v] (db (Al (AM m) v)):=by
 obtain⟨h1,h2,h3,h4,h5,h6,h7,h8⟩:=hm.sz
 exact sv AoV 14 [2,3] (.c (di 0)<|.c (dT (AM m))<|.c (db (Al (AM m) v)) .r) (_/\_/\_/\Q (db (Al (AM m) v))) ⟨G3 m hm,O8 m (by omega) (by omega) hm.kind,Mx _ hm.good v,rfl⟩
theorem Hr(m:cx)(hm:m.ok)(v:b9)(_:v.size<=1000000):F0 105 [Af m,dV v] (db (Al (AM m) v)):=Ahq m hm v
theorem Afr(m:cx)(hm:m.ok):F0 36 [Af m] (di 0):=by
 exact sv Aq1 12 [1] (.c (di 0)<|.k<|.f .r) (_/\(m.kind==6)=O/\Q (di 0)) ⟨G3 m hm,by rcases hm.kind with h|h|h<;>rw[h]<;>rfl,rfl⟩
theorem MQ(a b:b9)(ha:a.fit):F0 76 [dV a,dV b] (db (Ay a b==0)):=by
 exact sv AoO 9 [2,3] (.c (di (Ay a b)) .r) (_/\Q (db (Ay a b==0))) ⟨Xd _ a b (HR _) ha,rfl⟩
theorem XU(a b:b9)(ha:a.size<=1000000):F0 76 [dV a,dV b] (db (Ay a b==0)):=MQ a b (b9.fit_of a ha)
theorem Y7(c:UInt8):F0 176 [.v (vb c)] (db (Eh c)):=by
 refine zq AoY 21 (.b (.b .r (.b (.b .r .r) .r)) (.k<|.b (.b .r .r) .r)) ((y8 ↑(UInt8.toNat c) 97->(ya ↑(UInt8.toNat c) 122->db J=db (Eh c))/\(y9 ↑(UInt8.toNat c) 122->(y8 ↑(UInt8.toNat c) 48->(ya ↑(UInt8.toNat c) 57->db J=db (Eh c))/\(y9 ↑(UInt8.toNat c) 57->db ((↑(UInt8.toNat c):Int)==95)=db (Eh c)))/\(y7 ↑(UInt8.toNat c) 48->db ((↑(UInt8.toNat c):Int)==95)=db (Eh c))))/\(y7 ↑(UInt8.toNat c) 97->(y8 ↑(UInt8.toNat c) 48->(ya ↑(UInt8.toNat c) 57->db J=db (Eh c))/\(y9 ↑(UInt8.toNat c) 57->db ((↑(UInt8.toNat c):Int)==95)=db (Eh c)))/\(y7 ↑(UInt8.toNat c) 48->db ((↑(UInt8.toNat c):Int)==95)=db (Eh c)))) ?_
 grind[Eh,T3,mn]
noncomputable def LQ:=yl NQ
theorem Abn(p:UInt8->Bool):∀s:List UInt8,Rq p s=I s->∀c∈s,p c=J
 |[],_,_,h=>absurd h (by simp)
 |x::s,h,c,hc=>by
  unfold Rq at h
  split at h
  ·rename_i hx
   rcases IN.1 hc with rfl|hc
   ·exact hx
   ·exact Abn p s (by grind) c hc
  grind
theorem TB(s:List UInt8)(hs:I s<=12)(hw:EG s=J)(n:Nat):∀k:Nat,I s-k=n->
  Rn PP NQ 0 (db J) bd ([kl LQ [1,0,1,0,0],.blk 0,kc LQ [1,1]]++[]) (cz 33 [(0,ds s),(3,di k)]) bd:=by
 induction n using Nat.strongRecOn with
 |_ n ih=>
 intro k hn
 simp only[EG,HL,bne_iff_ne,ne_eq,IJ] at hw
 obtain⟨w1,w2,w3,w4⟩:=hw
 have hall:=Abn Eh s (Int.ofNat_inj.1 w4)
 have h0:s[0]?=G (s.headD 0):=by cases s with
  |nil=>simp at w1
  |cons a s=>rfl
 simp only[T3,HL] at w3
 refine lv 33 [] (.b (.e fun c:UInt8=>.y c<|.c (db J)<|.l [ke 0,ch 3 (di (k+1:Nat))]) (.t<|.t<|.y (s.headD 0)<|.t<|.y (s.headD 0) .r)) ((Y ((k:Int)<(I s:Int))=J->∃a,0<=(k:Int)/\s[Z (k:Int)]?=G a/\Aa PP 176 [bt (a8 IntKind.u8 (↑(UInt8.toNat a):Int))] d7 (db J) d7/\di (yu yt ((k:Int)+1))=di (↑(k+1):Int)/\Nv.It (A5 (CN 0) PP (fun env σ1=>A7 PP NQ env σ1 (db J) bd) [kl LQ [1,0,1,0,0],bh 0,kc LQ [1,1]] (cz 33 [(0,bt (ab s)),(3,di (↑(k+1):Int))]) bd))/\(Y ((k:Int)<(I s:Int))=O->Y ((I s:Int)>=1)=J/\Y ((I s:Int)<=12)=J/\iz 0<=0/\s[Z 0]?=G (headD s 0)/\Y ((↑(UInt8.toNat (headD s 0)):Int)>=97)=J/\iz 0<=0/\s[Z 0]?=G (headD s 0)/\db (Y ((↑(UInt8.toNat (headD s 0)):Int)<=122))=db J)) ⟨fun h=>?_,fun h=>?_⟩
 ·have hk:k<I s:=by simpa using h
  have hx:s[k]?=G s[k]:=HK hk
  generalize s[k]=c at hx
  refine⟨c,by omega,by simpa using hx,hall c (HQ hx)▸Y7 c,Ac,⟨?_⟩⟩
  exact ih (I s- (k+1)) (by omega) (k+1) rfl
 grind
theorem TA(s:List UInt8)(hw:EG s=J):F0 113 [ds s] (db J):=by
 have hs:I s<=12:=by
  grind[EG]
 exact zq NQ 33 (.l [ke 0,ch 3 (di (0:Nat))]) (Q (di 0)/\_) ⟨rfl,iK (TB s hs hw _ 0 rfl)⟩
theorem AU(x a b:Int):F0 77 [di x,di a,di b] (db (A4 x a b)):=by
 refine zq AlL 15 (.b .r .r) ((y8 x a->db (Y (x<=b))=db (A4 x a b))/\(y7 x a->db O=db (A4 x a b))) ?_
 grind[A4]
theorem OQ(m:cx)(hm:m.okN):F0 78 [Af m] (db J):=by
 have h1:∀a b x,A4 x a b=J->F0 77 [di x,di a,di b] (db J):=fun a b x h=>h▸AU x a b
 have hs:=hm.sized
 simp only[Cw,HL,HU] at hs
 obtain⟨s1,s2,s3,s4,s5,s6⟩:=hs
 have hk:=hm.kind
 clear hm
 obtain⟨kind,aw,ay,ax,au,am,age,av,start⟩:=m
 dsimp only at*
 rcases hk with hk|hk|hk<;>subst hk
 ·refine sv Hb 81 [1] (.c (db J)<|.c (db J)<|.k<|.f<|.c (db J)<|.c (db J) .r) (F0 77 [di (I (U ab (cx.mk 1 aw ay ax au am age av start).aw):Int),di 1,di 8] (db J)/\F0 77 [di (I (U ab (cx.mk 1 aw ay ax au am age av start).ay):Int),di 1,di 6] (db J)/\yb (I (U Aj (cx.mk 1 aw ay ax au am age av start).av)) 12/\F0 77 [di (I (U ab (cx.mk 1 aw ay ax au am age av start).ax):Int),di 0,di 0] (db J)/\F0 77 [di (cx.mk 1 aw ay ax au am age av start).am,di 0,di 0] (db J)/\db ((cx.mk 1 aw ay ax au am age av start).age==0)=db J) ?_
  have:=C6 s6
  grind[Sn]
 ·refine sv Hb 81 [1] (.c (db J)<|.c (db J)<|.k<|.f<|.c (db J)<|.c (db J) .r) (F0 77 [di (I (U ab (cx.mk 2 aw ay ax au am age av start).aw):Int),di 1,di 8] (db J)/\F0 77 [di (I (U ab (cx.mk 2 aw ay ax au am age av start).ay):Int),di 1,di 2] (db J)/\yb (I (U Aj (cx.mk 2 aw ay ax au am age av start).av)) 12/\F0 77 [di (I (U ab (cx.mk 2 aw ay ax au am age av start).ax):Int),di 1,di 6] (db J)/\F0 77 [di (cx.mk 2 aw ay ax au am age av start).am,di 0,di 0] (db J)/\db ((cx.mk 2 aw ay ax au am age av start).age==0)=db J) ?_
  have:=C6 s6
  grind[Sn]
 ·refine sv Hb 81 [1] (.c (db J)<|.c (db J)<|.k<|.f<|.c (db J)<|.c (db J) .r) (F0 77 [di (I (U ab (cx.mk 3 aw ay ax au am age av start).aw):Int),di 1,di 8] (db J)/\F0 77 [di (I (U ab (cx.mk 3 aw ay ax au am age av start).ay):Int),di 1,di 2] (db J)/\yb (I (U Aj (cx.mk 3 aw ay ax au am age av start).av)) 12/\F0 77 [di (I (U ab (cx.mk 3 aw ay ax au am age av start).ax):Int),di 1,di 6] (db J)/\F0 77 [di (cx.mk 3 aw ay ax au am age av start).am,di 0,di 0] (db J)/\db ((cx.mk 3 aw ay ax au am age av start).age==0)=db J) ?_
  have:=C6 s6
  grind[Sn]
noncomputable def P3:=yl Me
theorem Ag1(m:cx)(hm:m.okN)(hk:m.kind≠3):F0 79 [Af m] (db J):=by
 refine sv Me 32 [1] (.t .r) ((m.kind !=3)=J/\db ((I (dt m.au):Int)==0)=db J) ?_
 have h:=hm.ranked
 grind[Ck]
theorem Ye(m:cx)(hm:m.okN)(hk:m.kind=3)(n:Nat):∀k:Nat,I m.au-k=n->
  Rn PP Me 0 (db J) bd ([zu Me 244,.blk 0,zt Me 31]++[]) (cz 32 [(1,.v (.ref (Aq m))),(3,di k)]) bd:=by
 induction n using Nat.strongRecOn with
 |_ n ih=>
 intro k hn
 have h:=hm.ranked
 simp only[Ck,hk,bne_self_eq_false,JL,if_false,HL,IU] at h
 have hz:=hm.sz
 refine zo [1] (.b (.e fun x:Int=>.x (vi x)<|.c (db J)<|.l [ke 1,ch 3 (zw k)]) .r) ((ye k (I (dt m.au))->∃a,y6 k/\zy (dt m.au) k (vi a)/\Aa PP 77 [di a,di 0,di 5] d7 (db J) d7/\zx k/\Nv.It (A5 (CN 0) PP (fun env σ1=>A7 PP Me env σ1 (db J) bd) [kl P3 fd,bh 0,zt Me 31] (cz 32 [(1,bt (g7 m)),(3,zw k)]) bd))/\(yd k (I (dt m.au))->Q (db J))) ⟨fun h1=>?_,fun h1=>rfl⟩
 have hk1:k<I m.au:=by grind
 have hx:m.au[k]?=G m.au[k]:=HK hk1
 generalize m.au[k]=x at hx
 refine⟨x,by omega,Ae hx,h.2 x (HQ hx)▸AU x 0 5,Ac,⟨?_⟩⟩
 exact ih (I m.au- (k+1)) (by omega) (k+1) rfl
theorem AkO(m:cx)(hm:m.okN)(hk:m.kind=3):F0 79 [Af m] (db J):=by
 have h:=hm.ranked
 simp only[Ck,hk,bne_self_eq_false,JL,if_false,HL] at h
 refine sv Me 32 [1] (.f<|.f<|.l [ke 1,ch 3 (di (0:Nat))]) ((m.kind !=3)=O/\((I (dt m.au):Int) !=(I (df m.ax):Int))=O/\Q (di 0)/\_) ⟨by grind,by grind,rfl,iK (Ye m hm hk _ 0 rfl)⟩
theorem OF(m:cx)(hm:m.okN):F0 79 [Af m] (db J):=by
 grind[AkO,Ag1]
noncomputable def Zy:=yl wz
theorem AcQ(l:List (List UInt8))(hl:I l<=1000)(s:List UInt8)(n:Nat):∀k:Nat,I l-k=n->
  Rn PP wz 0 (db ((l.drop k).any (· ==s))) bd ([zu wz 116,.blk 0,zt wz 15]++[]) (cz 18 [(0,ds s),(3,dl (l.map ab)),(4,di k)]) bd:=by
 induction n using Nat.strongRecOn with
 |_ n ih=>
 intro k hn
 refine zp (.b (.e fun x:List UInt8=>.x (.str x)<|.b .r (.l [ke 0,ke 3,ch 4 (zw k)])) .r) ((ye k (I (U ab l))->∃a,y6 k/\zy (U ab l) k (ab a)/\((a==s)=J->db J=db (List.any (W k l) fun x=>x==s))/\((a==s)=O->zx k/\Nv.It (A5 (CN 0) PP (fun env σ1=>A7 PP wz env σ1 (db (List.any (W k l) fun x=>x==s)) bd) [kl Zy e9,bh 0,zt wz 15] (cz 18 [(0,bt (ab s)),(3,bt (lu l)),(4,zw k)]) bd)))/\(yd k (I (U ab l))->db O=db (List.any (W k l) fun x=>x==s))) ⟨fun h=>?_,fun h=>?_⟩
 ·have hk:k<I l:=by simpa using h
  have hx:l[k]?=G l[k]:=HK hk
  rw[HZ hk]
  generalize l[k]=x at hx⊢
  refine⟨x,by omega,DT hx,fun h1=>?_,fun h1=>⟨Ac,⟨?_⟩⟩⟩
  ·rw[any_cons,h1,Bool.true_or]
  ·rw[any_cons,h1,Bool.false_or]
   exact ih (I l- (k+1)) (by omega) (k+1) rfl
 grind[drop_of_length_le]
theorem AcP(s:List UInt8):F0 114 [ds s] (db (YA s)):=by
 refine zq wz 18 (.l [ke 0,ch 3 (dl (s8.map ab)),ch 4 (di (0:Nat))]) (Q (dl (U ab s8))/\Q (di 0)/\I0 wz (I bd.H) (db (YA s)) bd [kl Zy e9,bh 0,zt wz 15] (cz 18 [(0,bt (ab s)),(3,dl (U ab s8)),(4,di (↑0:Int))]) bd) ⟨rfl,rfl,⟨?_⟩⟩
 exact AcQ s8 (by decide) s _ 0 rfl
theorem Aj5:∀(l u:List (List UInt8)),ij u l=J->(∀s∈l,EG s=J/\YA s=O/\u.contains s=O)/\l.Nodup
 |[],_,_=>⟨fun s hs=>absurd hs (by simp),List.nodup_nil⟩
 |x::l,u,h=>by
  simp only[ij,HL,IZ] at h
  obtain⟨h1,h2,h3,h4⟩:=h
  obtain⟨h5,h6⟩:=Aj5 l (u++[x]) h4
  grind
noncomputable def Cg:=yl FF
noncomputable abbrev Axc:=[zu FF 31308,bh 4,bh 3,zt FF 979,kl Cg fd,bh 2,zt FF 31]
theorem UK(l:List (List UInt8))(hl:I l<=1000000)(hd:l.Nodup)(i:Nat)(hi:i<I l)
  (hout:Rn PP FF 0 (db J) bd ([zu FF 244,.blk 2,zt FF 31]++[]) (cz 65 [(3,dl (l.map ab)),(5,zw i)]) bd) (n:Nat):∀k:Nat,i-k=n->
  Rn PP FF 0 (db J) bd ([zu FF 31308,.blk 4,.blk 3,zt FF 979,zu FF 244,.blk 2,zt FF 31]++[]) (cz 65 [(3,dl (l.map ab)),(5,di i),(6,di k)]) bd:=by
 induction n using Nat.strongRecOn with
 |_ n ih=>
 intro k hn
 refine zo [1] (.b (.e fun a:List UInt8=>.x (.str a)<|.e fun b:List UInt8=>.x (.str b)<|.f<|.l [ke 3,ke 5,ch 6 (zw k)]) (.l [ke 3,ch 5 (zw i)])) ((Y ((k:Int)<(i:Int))=J->∃a,0<=(k:Int)/\zy (U ab l) k (ab a)/\∃a_1,y6 i/\zy (U ab l) i (ab a_1)/\(a==a_1)=O/\zx k/\Nv.It (A5 (CN 0) PP (fun env σ1=>A7 PP FF env σ1 (db J) bd) Axc (cz 65 [(3,bt (lu l)),(5,di (i:Int)),(6,zw k)]) d7))/\(yd k i->zx i/\It (type_of% hout))) ⟨fun h=>?_,fun h=>⟨Ac,⟨hout⟩⟩⟩
 have hk:k<i:=by grind
 have hx:l[k]?=G l[k]:=HK (by omega)
 have hy:l[i]?=G l[i]:=HK hi
 have hxy:l[k]≠l[i]:=List.pairwise_iff_getElem.1 hd k i (by omega) hi hk
 exact⟨l[k],by omega,DT hx,l[i],by omega,DT hy,IM.2 hxy,Ac,⟨ih (i- (k+1)) (by omega) (k+1) rfl⟩⟩
theorem UL(l:List (List UInt8))(hl:I l<=1000000)(hd:l.Nodup)(hw:∀s∈l,EG s=J/\YA s=O)(n:Nat):∀i:Nat,I l-i=n->
  Rn PP FF 0 (db J) bd ([zu FF 244,.blk 2,zt FF 31]++[]) (cz 65 [(3,dl (l.map ab)),(5,di i)]) bd:=by
 induction n using Nat.strongRecOn with
 |_ n ih=>
 intro i hn
 refine zo [1] (.b (.e fun s:List UInt8=>.x (.str s)<|.c (db J)<|.x (.str s)<|.c (db O)<|.l [ke 3,ke 5,ch 6 (di (0:Nat))]) .r) ((ye i (I (U ab l))->∃a,y6 i/\zy (U ab l) i (ab a)/\Aa PP 113 [bt (ab a)] d7 (db J) d7/\y6 i/\zy (U ab l) i (ab a)/\Aa PP 114 [bt (ab a)] d7 (db O) d7/\di 0=di (↑0:Int)/\Nv.It (A5 (CN 0) PP (fun env σ1=>A7 PP FF env σ1 (db J) bd) Axc (cz 65 [(3,bt (lu l)),(5,di (i:Int)),(6,di (↑0:Int))]) bd))/\(yd i (I (U ab l))->Q (db J))) ⟨fun h=>?_,fun h=>rfl⟩
 have hk:i<I l:=by grind
 have hx:l[i]?=G l[i]:=HK hk
 have h3:=UK l hl hd i hk (ih (I l- (i+1)) (by omega) (i+1) rfl) _ 0 rfl
 generalize l[i]=s at hx
 obtain⟨w1,w2⟩:=hw s (HQ hx)
 exact⟨s,by omega,DT hx,TA s w1,by omega,DT hx,w2▸AcP s,rfl,⟨h3⟩⟩
theorem UM(m:cx)(hlen:I (FE m)<=100)(hrl:I m.av<=100)(hnm:DJ m=J)(n:Nat):∀(k:Nat) (xs:List (List UInt8)),I m.av-k=n->xs++(m.av.drop k).map cm.name=FE m->
  Rn PP FF 0 (db J) bd ([zu FF 116,.blk 0,zt FF 15]++[]) (cz 65 [(1,.v (.ref (Aq m))),(3,X1 xs),(4,di k)]) (mi xs):=by
 induction n with
 |zero=>
  intro k xs hn hx
  refine zo [1] (.f<|.h (.q 6 0)<|.h (.un 3)<|.ls [ch 3 (dl (xs.map ab)),ch 5 (di (0:Nat))] bd) (yd k (I (U Aj m.av))/\Q (dl (df xs))/\Q (di 0)/\I0 FF 0 (db J) bd [kl Cg fd,bh 2,zt FF 31] (cz 65 [(3,dl (df xs)),(5,di (↑0:Int))]) bd) ⟨by grind,rfl,rfl,⟨?_⟩⟩
  rw[I3 (by omega)] at hx
  rw[Jo,IX] at hx
  subst hx
  obtain⟨h1,h2⟩:=Aj5 _ _ hnm
  exact UL _ (by omega) h2 (fun s hs=>⟨(h1 s hs).1,(h1 s hs).2.1⟩) _ 0 rfl
 |succ n ih=>
  intro k xs hn hx
  refine zo [1] (.t<|.e fun r:cm=>.h (.xs (Aj r))<|.w<|.ls [ke 1,ch 3 (X1 (xs++[r.name])),ch 4 (zw k)] (mi (xs++[r.name]))) (ye k (I (U Aj m.av))/\∃a,14=14/\y6 k/\zy (U Aj m.av) k (Aj a)/\Q (df xs)/\Ao (I (df xs)+I (ab a.name::nV)) 16/\(∀(y:V),y∈ [ab a.name]->V.size y=1)/\br 1 (U ab xs++[ab a.name])=X1 (xs++[a.name])/\zx k/\[(1,1,U ab xs++ab a.name::nV)]=[(1,1,U ab (xs++[a.name]))]/\I0 FF 0 (db J) bd [kl Cg e9,bh 0,zt FF 15] (cz 65 [(1,bt (g7 m)),(3,X1 (xs++[a.name])),(4,zw k)]) (mi (xs++[a.name]))) ?_
  have hk:k<I m.av:=by omega
  have hr:m.av[k]?=G m.av[k]:=HK hk
  rw[HZ hk] at hx
  generalize m.av[k]=r at hr hx
  have hxl:I xs<=100:=by
   grind
  refine⟨by grind,r,rfl,by omega,Ae hr,rfl,⟨?_,?_⟩,by simp[V.size],by simp,Ac,by simp,⟨?_⟩⟩
  ·grind
  ·grind
  ·exact ih (k+1) (xs++[r.name]) (by omega) (by grind)
theorem Q7(m:cx)(hlen:I (FE m)<=100)(hrl:I m.av<=100)(hnm:DJ m=J):F0 80 [Af m] (db J):=by
 have hl2:=hlen
 simp only[FE,Ch,JC,List.flatten_nil,HY,HJ,HT] at hl2
 have hb:Ch m=m.aw++m.ay++m.ax:=by simp[Ch]
 refine sv FF 65 [1] (.a 1<|.w<|.w<|.w<|.ls [ke 1,ch 3 (X1 (Ch m)),ch 4 (di (0:Nat))] (mi (Ch m))) (Ao (I (df m.aw)) 16/\(∀(y:V),y∈U ab m.aw->V.size y=1)/\Q (df m.aw)/\Ao (I (df m.aw)+I (df m.ay)) 16/\(∀(y:V),y∈U ab m.ay->V.size y=1)/\Q (U ab m.aw++U ab m.ay)/\Ao (I (U ab m.aw++U ab m.ay)+I (df m.ax)) 16/\(∀(y:V),y∈U ab m.ax->V.size y=1)/\br 1 (U ab m.aw++U ab m.ay++U ab m.ax)=X1 (Ch m)/\Q (di 0)/\[(1,1,U ab m.aw++U ab m.ay++U ab m.ax)]=[(1,1,U ab (Ch m))]/\I0 FF (I bd.H) (db J) bd [kl Cg e9,bh 0,zt FF 15] (cz 65 [(1,bt (g7 m)),(3,X1 (Ch m)),(4,di (↑0:Int))]) (mi (Ch m))) ⟨⟨?_,?_⟩,by simp[V.size],rfl,⟨?_,?_⟩,by simp[V.size],rfl,⟨?_,?_⟩,by simp[V.size],by grind,rfl,by grind,⟨?_⟩⟩
 all_goals try (simp only[HJ,HY];omega)
 exact UM m hlen hrl hnm _ 0 (Ch m) rfl rfl
theorem OR(m:cx)(hm:m.okN):F0 80 [Af m] (db J):=by
 have hsz:=hm.sz
 exact Q7 m (by grind[FE,Ch]) (by omega) hm.named
theorem Y4(l:List Int)(hl:I l<=1000000)(n a b:Int)(hn:I l=n)(hx:∀x∈l,A4 x a b=J)(N:Nat):∀k:Nat,I l-k=N->
  Rn PP SB 0 (db J) bd ([zu SB 52,.blk 0,zt SB 7]++[]) (cz 28 [(0,cw l),(1,di n),(2,di a),(3,di b),(9,di k)]) bd:=by
 induction N using Nat.strongRecOn with
 |_ N ih=>
 intro k hk
 refine zp (.b (.e fun x:Int=>.x (vi x)<|.c (db J)<|.l [ke 0,ke 1,ke 2,ke 3,ch 9 (zw k)]) .r) ((ye k (I (U vi l))->∃a_2,y6 k/\zy (U vi l) k (vi a_2)/\Aa PP 77 [di a_2,di a,di b] d7 (db J) d7/\zx k/\Nv.It (A5 (CN 0) PP (fun env σ1=>A7 PP SB env σ1 (db J) bd) [zu SB 52,bh 0,zt SB 7] (cz 28 [(0,cw l),(1,di n),(2,di a),(3,di b),(9,zw k)]) bd))/\(yd k (I (U vi l))->db ((I (U vi l):Int)==n)=db J)) ⟨fun h=>?_,fun h=>?_⟩
 ·have hk1:k<I l:=by simpa using h
  have hy:l[k]?=G l[k]:=HK hk1
  generalize l[k]=x at hy
  exact⟨x,by omega,Ae hy,hx x (HQ hy)▸AU x a b,Ac,⟨ih (I l- (k+1)) (by omega) (k+1) rfl⟩⟩
 grind
theorem Gx(l:List Int)(hl:I l<=1000000)(n a b:Int)(hn:I l=n)(hx:∀x∈l,A4 x a b=J):F0 115 [cw l,di n,di a,di b] (db J):=by
 exact zq SB 28 (.l [ke 0,ke 1,ke 2,ke 3,ch 9 (di (0:Nat))]) (Q (di 0)/\_) ⟨rfl,iK (Y4 l hl n a b hn hx _ 0 rfl)⟩
theorem Gm{α β:Type}(f:α->β)(l:List α)(h:I l<=1000000):yt.wrap ((I (l.map f):Int)-1)=(I l:Int)-1:=by
 grind[An]
theorem wj{α β:Type}(f:α->β){l:List α}(h:l=[]):Y ((I (l.map f):Int)>0)=O:=by grind
theorem Abo(m:cx)(hm:m.okS)(r:cm)(hr:r∈m.av):F0 81 [Af m,BK r] (db J):=by
 have h1:∀a b x,A4 x a b=J->F0 77 [di x,di a,di b] (db J):=fun a b x h=>h▸AU x a b
 have hs:=hm.short
 have hsz:=hm.n.sz
 have hrs:=hm.rshort r hr
 have hR:=hm.right r hr
 have hk:=hm.n.kind
 clear hm hr
 obtain⟨kind,aw,ay,ax,au,am,age,av,start⟩:=m
 have hst:=hs.aw
 have hpl:=hs.ay
 have hlt:=hs.ax
 clear hs
 dsimp only at*
 rcases hk with hk|hk|hk<;>subst hk
 ·simp only[FB,Jz,EO,Cf,E6,Cj,Si,HL,IJ,HU,IU] at hR
  refine sv Vc 234 [2,3] (.c (db J)<|.c (db J)<|.c (db J)<|.c (db J)<|.k<|.b (.c (db J)<|.k<|.k<|.f<|.f<|.f<|.k<|.f<|.f<|.k<|.f<|.f .r) (.k<|.k<|.f<|.f<|.f<|.k<|.f<|.f<|.k<|.f<|.f .r)) (F0 77 [di r.ai,di 0,di (yu yt ((I (U ab (cx.mk 1 aw ay ax au am age av start).aw):Int)-1))] (db J)/\F0 77 [di r.to,di 0,di (yu yt ((I (U ab (cx.mk 1 aw ay ax au am age av start).aw):Int)-1))] (db J)/\F0 115 [cw r.ak,di (I (U ab (cx.mk 1 aw ay ax au am age av start).ay):Int),di 0,di 16] (db J)/\F0 115 [cw r.aj,di (I (U ab (cx.mk 1 aw ay ax au am age av start).ay):Int),di 0,di 16] (db J)/\(yc (I (dt r.move)) 0->F0 115 [cw r.move,di (I (U ab (cx.mk 1 aw ay ax au am age av start).ay):Int),di (-1),di (yu yt ((I (U ab (cx.mk 1 aw ay ax au am age av start).ay):Int)-1))] (db J)/\(r.chan !=0)=O/\(r.act !=0)=O/\(r.letter !=0)=O/\yb (I (dt r.path)) 0/\yb (I (dt r.next)) 0/\yb (I (U d9 r.aq)) 0/\yb (I (dt r.ao)) 0/\db (r.second==0)=db J)/\(yb (I (dt r.move)) 0->(r.chan !=0)=O/\(r.act !=0)=O/\(r.letter !=0)=O/\yb (I (dt r.path)) 0/\yb (I (dt r.next)) 0/\yb (I (U d9 r.aq)) 0/\yb (I (dt r.ao)) 0/\db (r.second==0)=db J)) ?_
  rw[Gm _ _ hst,Gm _ _ hpl]
  grind[Gx,wj]
 ·rw[FB,Iz (fun h=>absurd h (by show ¬(_:Int)=1;simp only;decide))] at hR
  simp only[FC,Cj,N5,HL,IJ,HU] at hR
  simp only[ED] at hR
  obtain⟨a1,a2,a3, -, -, -,c1,c2,c3, -, -, -,b4,b5,b6,b7,b8⟩:=hR
  have hA:A4 r.act 0 2=J/\A4 r.chan 0 ((I ay:Int)-1)=J/\A4 r.letter 0 ((I ax:Int)-1)=J/\(r.act=0->r.chan=0/\r.letter=0):=by
   split at a3
   ·rename_i h0
    have h0:r.act=0:=by simpa using h0
    simp only[HL,IJ] at a3
    rw[h0,a3.1,a3.2]
    refine⟨by decide,?_,?_,fun _=>⟨rfl,rfl⟩⟩<;>simp only[A4,HL,HU]<;>omega
   ·rename_i h0
    have h0:r.act≠0:=by simpa using h0
    simp only[HL] at a3
    have:=C6 a3.1
    refine⟨?_,a3.2.1,a3.2.2,fun h=>absurd h h0⟩
    simp only[A4,HL,HU];omega
  refine sv Vc 234 [2,3] (.c (db J)<|.c (db J)<|.k<|.k<|.k<|.k<|.f<|.f<|.f<|.k<|.c (db J)<|.c (db J)<|.c (db J)<|.k<|.b (.f<|.f<|.k<|.f<|.f<|.k<|.f<|.f .r) (.k<|.k<|.f<|.f<|.k<|.f<|.f .r)) (F0 77 [di r.ai,di 0,di (yu yt ((I (U ab (cx.mk 2 aw ay ax au am age av start).aw):Int)-1))] (db J)/\F0 77 [di r.to,di 0,di (yu yt ((I (U ab (cx.mk 2 aw ay ax au am age av start).aw):Int)-1))] (db J)/\yb (I (dt r.ak)) 0/\yb (I (dt r.aj)) 0/\yb (I (dt r.move)) 0/\F0 77 [di r.act,di 0,di 2] (db J)/\F0 77 [di r.chan,di 0,di (yu yt ((I (U ab (cx.mk 2 aw ay ax au am age av start).ay):Int)-1))] (db J)/\F0 77 [di r.letter,di 0,di (yu yt ((I (U ab (cx.mk 2 aw ay ax au am age av start).ax):Int)-1))] (db J)/\((r.act==0)=J->(r.chan !=0)=O/\(r.letter !=0)=O/\yb (I (dt r.path)) 0/\yb (I (dt r.next)) 0/\yb (I (U d9 r.aq)) 0/\yb (I (dt r.ao)) 0/\db (r.second==0)=db J)/\((r.act==0)=O->yb (I (dt r.path)) 0/\yb (I (dt r.next)) 0/\yb (I (U d9 r.aq)) 0/\yb (I (dt r.ao)) 0/\db (r.second==0)=db J)) ?_
  grind[Gm,wj]
 ·rw[FB,Iz (fun h=>absurd h (by show ¬(_:Int)=1;simp only;decide))] at hR
  simp only[FC,Cj,N5,HL,IJ,HU] at hR
  simp only[ED] at hR
  obtain⟨a1,a2,a3, -, -, -,c1,c2,c3, -, -, -,b4,b5,b6,b7,b8⟩:=hR
  have hA:A4 r.act 0 2=J/\A4 r.chan 0 ((I ay:Int)-1)=J/\A4 r.letter 0 ((I ax:Int)-1)=J/\(r.act=0->r.chan=0/\r.letter=0):=by
   split at a3
   ·rename_i h0
    have h0:r.act=0:=by simpa using h0
    simp only[HL,IJ] at a3
    rw[h0,a3.1,a3.2]
    refine⟨by decide,?_,?_,fun _=>⟨rfl,rfl⟩⟩<;>simp only[A4,HL,HU]<;>omega
   ·rename_i h0
    have h0:r.act≠0:=by simpa using h0
    simp only[HL] at a3
    have:=C6 a3.1
    refine⟨?_,a3.2.1,a3.2.2,fun h=>absurd h h0⟩
    simp only[A4,HL,HU];omega
  refine sv Vc 234 [2,3] (.c (db J)<|.c (db J)<|.k<|.k<|.k<|.k<|.f<|.f<|.f<|.k<|.c (db J)<|.c (db J)<|.c (db J)<|.k<|.b (.f<|.f<|.k<|.f<|.f<|.k<|.f<|.f .r) (.k<|.k<|.f<|.f<|.k<|.f<|.f .r)) (F0 77 [di r.ai,di 0,di (yu yt ((I (U ab (cx.mk 3 aw ay ax au am age av start).aw):Int)-1))] (db J)/\F0 77 [di r.to,di 0,di (yu yt ((I (U ab (cx.mk 3 aw ay ax au am age av start).aw):Int)-1))] (db J)/\yb (I (dt r.ak)) 0/\yb (I (dt r.aj)) 0/\yb (I (dt r.move)) 0/\F0 77 [di r.act,di 0,di 2] (db J)/\F0 77 [di r.chan,di 0,di (yu yt ((I (U ab (cx.mk 3 aw ay ax au am age av start).ay):Int)-1))] (db J)/\F0 77 [di r.letter,di 0,di (yu yt ((I (U ab (cx.mk 3 aw ay ax au am age av start).ax):Int)-1))] (db J)/\((r.act==0)=J->(r.chan !=0)=O/\(r.letter !=0)=O/\yb (I (dt r.path)) 0/\yb (I (dt r.next)) 0/\yb (I (U d9 r.aq)) 0/\yb (I (dt r.ao)) 0/\db (r.second==0)=db J)/\((r.act==0)=O->yb (I (dt r.path)) 0/\yb (I (dt r.next)) 0/\yb (I (U d9 r.aq)) 0/\yb (I (dt r.ao)) 0/\db (r.second==0)=db J)) ?_
  grind[Gm,wj]
theorem LM(l:List Int)(hl:I l<=1000000):F0 122 [cw l] (cw l):=by
 refine zq Apw 5 (.a 1<|.w .r) (Ao (I (U vi l)) 8/\(∀(y:V),y∈U vi l->V.size y=1)/\bt (ae (U vi l))=cw l) ?_
 grind[V.size]
theorem JX(a b:Int):F0 190 [di a,di b] (di (AP a b)):=by
 refine zq AoT 11 (.b .r<|.b .r .r) ((ye a b->di (-1)=di (AP a b))/\(yd a b->(yc a b->di 1=di (AP a b))/\(yb a b->di 0=di (AP a b)))) ?_
 grind[AP]
noncomputable def P2:=yl S6
noncomputable abbrev jk:=fun a₀=>(bz (Ad a₀))
theorem JR(N:Nat):∀v:b9,v.size<=N->∀m:Int,0<=m->m<=1000->F0 120 [dV v,di m] (di (min (v.size:Int) (m+1))):=by
 induction N with
 |zero=>intro v hv;have:=v.size_pos;omega
 |succ N ihN=>
  intro v hv m hm0 hm1
  have hsz:=v.size_eq
  have loop (n:Nat):∀(k:Nat) (a:Int),I v.az-k=n->k+1<=a->a<=m+1->
    Rn PP S6 0 (di (min (a+(b9.sizes (v.az.drop k):Int)) (m+1))) bd ([kl P2 [1,1,0,1,0,0],.blk 0,kc P2 [1,1,1]]++[]) (cz 31 [(1,di m),(2,.v (.ref (Ad v))),(5,di a),(6,di k)]) bd:=by
   induction n using Nat.strongRecOn with
   |_ n ih=>
   intro k a hn ha0 ha1
   refine lv 31 [2] (.b (.b (.e fun x:b9=>.x (Ad x)<|.c (di (min (x.size:Int) (m-a+1)))<|.l [ke 1,ke 2,ch 5 (di (min (a+(x.size:Int)) (m+1))),ch 6 (di (k+1:Nat))]) .r) .r) ((Y ((k:Int)<(I (c7 v.az):Int))=J->(Y (a<=m)=J->∃a_3,0<=(k:Int)/\(c7 v.az)[Z (k:Int)]?=G (Ad a_3)/\Aa PP 120 [dV a_3,di (yu yt (m-a))] d7 (di (min (↑(jz a_3):Int) (m-a+1))) d7/\di (yu yt (a+min (↑(jz a_3):Int) (m-a+1)))=di (min (a+(↑(jz a_3):Int)) (m+1))/\di (yu yt ((k:Int)+1))=di (↑(k+1):Int)/\Nv.It (A5 (CN 0) PP (fun env σ1=>A7 PP S6 env σ1 (di (min (a+(↑(b9.sizes (W k v.az)):Int)) (m+1))) bd) [kl P2 e9,bh 0,kc P2 [1,1,1]] (cz 31 [(1,di m),(2,bt (jk v)),(5,di (min (a+(↑(jz a_3):Int)) (m+1))),(6,di (↑(k+1):Int))]) bd))/\(Y (a<=m)=O->di a=di (min (a+(↑(b9.sizes (W k v.az)):Int)) (m+1))))/\(Y ((k:Int)<(I (c7 v.az):Int))=O->di a=di (min (a+(↑(b9.sizes (W k v.az)):Int)) (m+1)))) ⟨fun h=>⟨fun h1=>?_,fun h1=>?_⟩,fun h=>?_⟩
   ·have hk:k<I v.az:=by simpa using h
    have hx:v.az[k]?=G v.az[k]:=HK hk
    rw[HZ hk]
    generalize v.az[k]=x at hx⊢
    have hxs:=b9.size_mem (HQ hx)
    have hx1:=x.size_pos
    simp only[b9.sizes]
    have h1:=HV h1
    refine⟨x,by omega,Ap hx,?_,?_,Ac,⟨?_⟩⟩
    ·rw[An]
     exact ihN x (by omega) (m-a) (by omega) (by omega)
    ·rw[An (by rw[Jq];split<;>omega) (by rw[Jq];split<;>omega)]
     simp only[Jq];congr 1;split<;>split<;>omega
    ·have:=ih (I v.az- (k+1)) (by omega) (k+1) (min (a+(x.size:Int)) (m+1)) rfl (by rw[Jq];split<;>omega) (by rw[Jq];split<;>omega)
     rw[show min (min (a+(x.size:Int)) (m+1)+(b9.sizes (v.az.drop (k+1)):Int)) (m+1)=min (a+((x.size+b9.sizes (v.az.drop (k+1)):Nat):Int)) (m+1) by simp only[Jq];(repeat' split)<;>omega] at this
     exact this
   ·have h1:=IR h1
    rw[Jq];split<;>congr 1<;>omega
   ·have hk:I v.az<=k:=by simpa using h
    rw[I3 hk]
    simp only[b9.sizes];rw[Jq];split<;>congr 1<;>omega
  refine sv S6 31 [2] (.l [ke 1,ke 2,ch 5 (di 1),ch 6 (di (0:Nat))]) (Q (di 1)/\Q (di 0)/\I0 S6 (I bd.H) (di (min (↑(jz v):Int) (m+1))) bd [kl P2 e9,bh 0,kc P2 [1,1,1]] (cz 31 [(1,di m),(2,bt (jk v)),(5,di 1),(6,di (↑0:Int))]) bd) ⟨rfl,rfl,⟨?_⟩⟩
  have:=loop _ 0 1 rfl (by omega) (by omega)
  grind
theorem Vt{a b:Int}:AP a b=0↔a=b:=by grind[AP]
theorem Ai3(a b:b9):Ay a b=if AP a.n b.n=0 then(if AP (I a.az) (I b.az)=0 then B4 Ay a.az b.az else AP (I a.az) (I b.az)) else AP a.n b.n:=by
 cases a;cases b;simp only[Ay,QR];rfl
noncomputable def PD:=yl SH
noncomputable abbrev jq:=fun a₀=>(3,bt (bz (Ad a₀)))
noncomputable abbrev w5:=[ke 2,ke 3,ch 5 (di (0:Nat))]
theorem SX(N:Nat):∀a b:b9,a.size<=N->a.fit->F0 128 [dV a,dV b] (di (Ay a b)):=by
 induction N with
 |zero=>intro v _ hv;have:=v.size_pos;omega
 |succ N ihN=>
  intro a b ha ha1
  have hsz:=a.size_eq
  have hlen:=ha1.len
  have loop (hab:I a.az=I b.az) (n:Nat):∀k:Nat,I a.az-k=n->
    Rn PP SH 0 (di (B4 Ay (a.az.drop k) (b.az.drop k))) bd ([zu SH 244,.blk 0,zt SH 31]++[]) (cz 52 [(2,.v (.ref (Ad a))),(3,.v (.ref (Ad b))),(5,di k)]) bd:=by
   induction n using Nat.strongRecOn with
   |_ n ih=>
   intro k hn
   refine zo [2,3] (.b (.e fun x:b9=>.x (Ad x)<|.e fun y:b9=>.x (Ad y)<|.c (di (Ay x y))<|.b .r (.l [ke 2,ke 3,ch 5 (zw k)])) .r) ((Y ((k:Int)<(I (c7 a.az):Int))=J->∃a_2,0<=(k:Int)/\zy (c7 a.az) k (Ad a_2)/\∃a_3,y6 k/\zy (c7 b.az) k (Ad a_3)/\Aa PP 128 [dV a_2,dV a_3] d7 (di (Ay a_2 a_3)) d7/\((Ay a_2 a_3 !=0)=J->di (Ay a_2 a_3)=di (B4 Ay (W k a.az) (W k b.az)))/\((Ay a_2 a_3 !=0)=O->zx k/\Nv.It (A5 (CN 0) PP (fun env σ1=>A7 PP SH env σ1 (di (B4 Ay (W k a.az) (W k b.az))) bd) [kl PD fd,bh 0,zt SH 31] (cz 52 [(2,bt (jk a)),(jq b),(5,zw k)]) d7)))/\(yd k (I (c7 a.az))->di 0=di (B4 Ay (W k a.az) (W k b.az)))) ⟨fun h=>?_,fun h=>?_⟩
   ·have hk:k<I a.az:=by simpa using h
    have hk2:k<I b.az:=by omega
    have hx:a.az[k]?=G a.az[k]:=HK hk
    have hy:b.az[k]?=G b.az[k]:=HK hk2
    rw[HZ hk,HZ hk2]
    generalize a.az[k]=x at hx⊢
    generalize b.az[k]=y at hy⊢
    have hxs:=b9.size_mem (HQ hx)
    refine⟨x,by omega,Ap hx,y,by omega,Ap hy,ihN x y (by omega) (ha1.mem (HQ hx)),fun h1=>?_,fun h1=>⟨Ac,⟨?_⟩⟩⟩
    ·have h1:Ay x y≠0:=by simpa using h1
     simp only[B4,Iz h1]
    ·have h1:Ay x y=0:=by simpa using h1
     simp only[B4,I4 h1]
     exact ih (I a.az- (k+1)) (by omega) (k+1) rfl
   grind[drop_of_length_le,B4]
  refine sv SH 52 [2,3] (.b (.c (di (AP a.n b.n)) .r) (.b (.c (di (AP (I a.az) (I b.az))) .r) (.l w5))) (((a.n !=b9.n b)=J->F0 190 [di a.n,di b.n] (di (AP a.n b.n))/\di (AP a.n b.n)=di (Ay a b))/\((a.n !=b9.n b)=O->(((I (c7 a.az):Int) !=(I (c7 b.az):Int))=J->F0 190 [di (I (c7 a.az):Int),di (I (c7 b.az):Int)] (di (AP (I a.az:Int) (I b.az:Int)))/\di (AP (I a.az:Int) (I b.az:Int))=di (Ay a b))/\(((I (c7 a.az):Int) !=(I (c7 b.az):Int))=O->di 0=di (↑0:Int)/\I0 SH (I bd.H) (di (Ay a b)) bd [kl PD fd,bh 0,zt SH 31] (cz 52 [(2,bt (jk a)),(jq b),(5,di (↑0:Int))]) bd))) ?_
  rw[Ai3]
  refine⟨fun h=>⟨JX _ _,?_⟩,fun h=>⟨fun h1=>⟨?_,?_⟩,fun h1=>⟨rfl,⟨?_⟩⟩⟩⟩
  ·grind[Vt]
  ·grind[JX]
  ·grind[AP]
  ·have h:a.n=b.n:=by grind
   have h1:(I a.az:Int)=I b.az:=by grind
   rw[I4 (Vt.2 h),I4 (Vt.2 h1)]
   exact loop (Int.ofNat_inj.1 h1) _ 0 rfl
theorem Fh(N:Nat)(a b:b9)(_:a.size<=N)(h:a.size<=1000000):F0 128 [dV a,dV b] (di (Ay a b)):=by grind[SX,b9.fit_of]
theorem MU(a b:b9)(ha:a.fit):F0 87 [dV a,dV b] (db (Ay a b==0)):=by
 exact sv AoM 9 [2,3] (.c (di (Ay a b)) .r) (_/\Q (db (Ay a b==0))) ⟨SX _ a b (HR _) ha,rfl⟩
theorem OD(a b:b9)(ha:a.size<=1000000):F0 87 [dV a,dV b] (db (Ay a b==0)):=MU a b (b9.fit_of a ha)
theorem Yf(r:List Int)(hr:Df r=J)(n:Nat):∀k:Nat,I r-k=n->
  Rn PP S7 0 (db J) bd ([zu S7 52,.blk 0,zt S7 7]++[]) (cz 30 [(0,cw r),(3,di k)]) bd:=by
 induction n using Nat.strongRecOn with
 |_ n ih=>
 intro k hn
 simp only[Df,HL,IZ,List.any_eq_false] at hr
 obtain⟨h1,h2,h3⟩:=hr
 have hlen:=HV h2
 refine zp (.b (.e fun x:Int=>.x (vi x)<|.f<|.x (vi x)<|.f<|.l [ke 0,ch 3 (zw k)]) (.t .r)) ((ye k (I (U vi r))->∃a,y6 k/\zy (U vi r) k (vi a)/\yd a 0/\y6 k/\zy (U vi r) k (vi a)/\y7 a 6/\zx k/\Nv.It (A5 (CN 0) PP (fun env σ1=>A7 PP S7 env σ1 (db J) bd) [zu S7 52,bh 0,zt S7 7] (cz 30 [(0,cw r),(3,zw k)]) bd))/\(yd k (I (U vi r))->y8 (I (U vi r)) 1/\db (Y ((I (U vi r):Int)<=6))=db J)) ⟨fun h=>?_,fun h=>⟨by grind,by grind⟩⟩
 have hk:k<I r:=by grind
 have hx:r[k]?=G r[k]:=HK hk
 generalize r[k]=x at hx
 have h4:=h3 x (HQ hx)
 simp only[lj,Bool.not_eq_true,Bool.or_eq_false_iff] at h4
 exact⟨x,by omega,Ae hx,h4.1,by omega,Ae hx,h4.2,Ac,⟨ih (I r- (k+1)) (by omega) (k+1) rfl⟩⟩
theorem OG(r:List Int)(hr:Df r=J):F0 230 [cw r] (db J):=by
 exact zq S7 30 (.l [ke 0,ch 3 (di (0:Nat))]) (Q (di 0)/\_) ⟨rfl,iK (Yf r hr _ 0 rfl)⟩
abbrev p9(l:List cr)(n:Nat):St:=⟨[G [di 0,di 0,.v .nils,.v .nils],G [di 3,di 0,.v (.list []),.acc 1 (l.map eT)],G [di 2,di n,.v (.list []),.v (.list [])]],[(1,4,l.map eT)]⟩
theorem XO(m:cx)(hm:m.okN)(hk:m.kind=1)(n:Nat):∀(k:Nat) (xs:List cr),I m.ay-k=n->k<=I m.ay->I xs<=k+1->
  Rn PP qd 0 (dT (.prod (xs++replicate n (.nat)))) bd ([zu qd 15740,.blk 1,.blk 0,zt qd 31]++[]) (cz 96 [(1,.v (.ref (Aq m))),(2,.ptr 0 0),(3,.ptr 1 0),(4,.ptr 2 0),(8,di k)]) (p9 xs (I m.ax)):=by
 have hsz:=hm.sz
 induction n with
 |zero=>
  intro k xs hn hk0 hxs
  refine zo [1] (.f .r) (yd k (I (df m.ay))/\bt (rp xs)=dT (cr.prod (xs++replicate 0 cr.nat))) ⟨by grind,?_⟩
  rw[List.replicate_zero,IX];rfl
 |succ n ih=>
  intro k xs hn hk0 hxs
  have h:=ih (k+1) (xs++[.nat]) (by omega) (by omega) (by grind)
  rw[Jx] at h
  refine zo [1] (.t<|.f<|.f<|.ls [ke 1,ke 2,ke 3,ke 4,ch 8 (zw k)] (p9 (xs++[.nat]) (I m.ax))) (ye k (I (df m.ay))/\(m.kind==2)=O/\(m.kind==3)=O/\Q (U eT xs)/\Ao (I (U eT xs)+I (aa (a8 yt 1::a8 yt 0::ae nV::ae nV::nV)::nV)) 64/\zx k/\[G lr,G [di 3,di 0,bt (ae nV),br 1 (U eT xs++aa Ayk::nV)],G [di 2,di (I m.ax:Int),bt (ae nV),bt (ae nV)]]=[G lr,G [di 3,di 0,bt (ae nV),br 1 (U eT (xs++[cr.nat]))],G [di 2,di (I m.ax:Int),bt (ae nV),bt (ae nV)]]/\[(1,4,U eT xs++aa Ayk::nV)]=[(1,4,U eT (xs++[cr.nat]))]/\_) ⟨by grind,by grind,by grind,rfl,⟨?_,?_⟩,Ac,?_,?_,iK h⟩
  ·grind
  ·grind
  ·rw[←CC];rfl
  ·rw[←CC];rfl
theorem XN(m:cx)(hm:m.okN)(hk:m.kind=2)(n:Nat):∀(k:Nat) (xs:List cr),I m.ay-k=n->k<=I m.ay->I xs<=k+1->
  Rn PP qd 0 (dT (.prod (xs++replicate n (.word (.lab (I m.ax)))))) bd ([zu qd 15740,.blk 1,.blk 0,zt qd 31]++[]) (cz 96 [(1,.v (.ref (Aq m))),(2,.ptr 0 0),(3,.ptr 1 0),(4,.ptr 2 0),(8,di k)]) (p9 xs (I m.ax)):=by
 have hsz:=hm.sz
 induction n with
 |zero=>
  intro k xs hn hk0 hxs
  refine zo [1] (.f .r) (yd k (I (df m.ay))/\bt (rp xs)=dT (cr.prod (xs++replicate 0 (cr.word (cr.lab (I m.ax:Int)))))) ⟨by grind,?_⟩
  rw[List.replicate_zero,IX];rfl
 |succ n ih=>
  intro k xs hn hk0 hxs
  have h:=ih (k+1) (xs++[.word (.lab (I m.ax))]) (by omega) (by omega) (by grind)
  rw[Jx] at h
  refine zo [1] (.t<|.t<|.f<|.ls [ke 1,ke 2,ke 3,ke 4,ch 8 (zw k)] (p9 (xs++[.word (.lab (I m.ax))]) (I m.ax))) (ye k (I (df m.ay))/\(m.kind==2)=J/\(m.kind==3)=O/\Q (U eT xs)/\Ao (I (U eT xs)+I (aa (a8 yt 4::a8 yt 0::ae nV::ae (aa (a8 yt 2::a8 yt (I m.ax:Int)::ae nV::ae nV::nV)::nV)::nV)::nV)) 64/\zx k/\[G lr,G [di 3,di 0,bt (ae nV),br 1 (U eT xs++aa (vi 4::vi 0::ae nV::ae (aa (vi 2::vi (I m.ax:Int)::ae nV::ae nV::nV)::nV)::nV)::nV)],G [di 2,di (I m.ax:Int),bt (ae nV),bt (ae nV)]]=[G lr,G [di 3,di 0,bt (ae nV),br 1 (U eT (xs++[cr.word (cr.lab (I m.ax:Int))]))],G [di 2,di (I m.ax:Int),bt (ae nV),bt (ae nV)]]/\[(1,4,U eT xs++aa (vi 4::vi 0::ae nV::ae (aa (vi 2::vi (I m.ax:Int)::ae nV::ae nV::nV)::nV)::nV)::nV)]=[(1,4,U eT (xs++[cr.word (cr.lab (I m.ax:Int))]))]/\_) ⟨by grind,by grind,by grind,rfl,⟨?_,?_⟩,Ac,?_,?_,iK h⟩
  ·grind
  ·grind
  ·rw[←CC];rfl
  ·rw[←CC];rfl
theorem XM(m:cx)(hm:m.okN)(hk:m.kind=3)(n:Nat):∀(k:Nat) (xs:List cr),I m.ay-k=n->k<=I m.ay->I xs<=k+1->
  Rn PP qd 0 (dT (.prod (xs++replicate n (.prio (I m.ax) m.au)))) bd ([zu qd 15740,.blk 1,.blk 0,zt qd 31]++[]) (cz 96 [(1,.v (.ref (Aq m))),(2,.ptr 0 0),(3,.ptr 1 0),(4,.ptr 2 0),(8,di k)]) (p9 xs (I m.ax)):=by
 have hsz:=hm.sz
 induction n with
 |zero=>
  intro k xs hn hk0 hxs
  refine zo [1] (.f .r) (yd k (I (df m.ay))/\bt (rp xs)=dT (cr.prod (xs++replicate 0 (cr.prio (I m.ax:Int) m.au)))) ⟨by grind,?_⟩
  rw[List.replicate_zero,IX];rfl
 |succ n ih=>
  intro k xs hn hk0 hxs
  have h:=ih (k+1) (xs++[.prio (I m.ax) m.au]) (by omega) (by omega) (by grind)
  rw[Jx] at h
  refine zo [1] (.t<|.f<|.t<|.c (cw m.au)<|.ls [ke 1,ke 2,ke 3,ke 4,ch 8 (zw k)] (p9 (xs++[.prio (I m.ax) m.au]) (I m.ax))) (ye k (I (df m.ay))/\(m.kind==2)=O/\(m.kind==3)=J/\_/\Q (U eT xs)/\Ao (I (U eT xs)+I (aa (a8 yt 7::a8 yt (I (df m.ax):Int)::cy m.au::ae nV::nV)::nV)) 64/\zx k/\[G lr,G [di 3,di 0,bt (ae nV),br 1 (U eT xs++aa (vi 7::vi (I (df m.ax):Int)::cy m.au::ae nV::nV)::nV)],G [di 2,di (I m.ax:Int),bt (ae nV),bt (ae nV)]]=[G lr,G [di 3,di 0,bt (ae nV),br 1 (U eT (xs++[cr.prio (I m.ax:Int) m.au]))],G [di 2,di (I m.ax:Int),bt (ae nV),bt (ae nV)]]/\[(1,4,U eT xs++aa (vi 7::vi (I (df m.ax):Int)::cy m.au::ae nV::nV)::nV)]=[(1,4,U eT (xs++[cr.prio (I m.ax:Int) m.au]))]/\_) ⟨by grind,by grind,by grind,LM m.au (by omega),rfl,⟨?_,?_⟩,Ac,?_,?_,iK h⟩
  ·grind
  ·grind
  ·rw[←CC];rw[HJ];rfl
  ·rw[←CC];rw[HJ];rfl
theorem R3(m:cx)(hm:m.okN):F0 83 [Af m] (dT (AM m)):=by
 have hk:=hm.kind
 refine sv qd 96 [1] (.a 1<|.h .g<|.f<|.f<|.ls [ke 1,ke 2,ke 3,ke 4,ch 8 (di (0:Nat))] (p9 [.lab (I m.aw)] (I m.ax))) ((m.kind==4)=O/\(m.kind==5)=O/\Q (di 0)/\[G lr,G [di 3,di 0,bt (ae nV),br 1 (aa (vi 2::vi (I (df m.aw):Int)::ae nV::ae nV::nV)::nV)],G [di 2,di (I (df m.ax):Int),bt (ae nV),bt (ae nV)]]=[G lr,G [di 3,di 0,bt (ae nV),br 1 (eT (cr.lab (I m.aw:Int))::nV)],G [di 2,di (I m.ax:Int),bt (ae nV),bt (ae nV)]]/\[(1,4,aa (vi 2::vi (I (df m.aw):Int)::ae nV::ae nV::nV)::nV)]=[(1,4,eT (cr.lab (I m.aw:Int))::nV)]/\I0 qd (I bd.H) (dT (AM m)) bd [zu qd 15740,bh 1,bh 0,zt qd 31] (cz 96 [(1,bt (g7 m)),o9,(3,bq 1 0),(4,bq 2 0),(8,di (↑0:Int))]) (p9 [cr.lab (I m.aw:Int)] (I m.ax))) ⟨by grind,by grind,rfl,by rw[HJ,HJ];rfl,by rw[HJ];rfl,⟨?_⟩⟩
 rcases hk with h|h|h
 ·have:=XO m hm h _ 0 [.lab (I m.aw)] rfl (by omega) (by simp)
  grind[AM,Fg]
 ·have:=XN m hm h _ 0 [.lab (I m.aw)] rfl (by omega) (by simp)
  grind[AM,Fg]
 ·have:=XM m hm h _ 0 [.lab (I m.aw)] rfl (by omega) (by simp)
  grind[AM,Fg]
theorem Afw(d:Nat):F0 177 [dT .nat,di ((d+1:Nat):Int)] (db J):=by
 have hz:(((d+1:Nat):Int)==0)=O:=IM.2 (by omega)
 exact sv O2 132 [2] (.f .r) (_/\Q (db J)) ⟨hz,rfl⟩
theorem KB(d:Nat)(n:Int)(h1:1<=n)(h2:n<=16):F0 177 [dT (.lab n),di ((d+1:Nat):Int)] (db J):=by
 refine sv O2 132 [2] (.f<|.k<|.k<|.k<|.k<|.k<|.t<|.t .r) (((↑(d+1):Int)==0)=O/\y8 (cr.sz (cr.lab n)) 1/\ya (cr.sz (cr.lab n)) 16/\Q (db J)) ?_
 grind[cr.sz,cr.ps]
theorem Aam(d:Nat)(n:Int)(r:List Int)(h1:n=I r)(h2:Df r=J):F0 177 [dT (.prio n r),di ((d+1:Nat):Int)] (db J):=by
 refine sv O2 132 [2] (.f<|.t<|.k<|.k<|.k<|.k<|.k<|.t<|.t<|.k<|.t<|.c (db J) .r) (((↑(d+1):Int)==0)=O/\yc (I (U vi (cr.rk (il n r)))) 0/\y8 (cr.sz (il n r)) 1/\ya (cr.sz (il n r)) 6/\((I (U vi (cr.rk (il n r))):Int)==cr.sz (il n r))=J/\F0 230 [bt (cy (cr.rk (il n r)))] (db J)/\Q (db J)) ?_
 grind[Df,OG,cr.rk,cr.sz]
theorem Aaj(d:Nat)(t:cr)(hd:d<=100)(h:F0 177 [dT t,di d] (db J)):F0 177 [dT (.word t),di ((d+1:Nat):Int)] (db J):=by
 rw[dT,PS]
 refine sv O2 132 [2] (.f<|.x (vT t)<|.c (db J) .r) (((↑(d+1):Int)==0)=O/\iz 0<=0/\Q (G (vT t))/\F0 177 [bt (vT t),di (yu yt ((↑(d+1):Int)-1))] (db J)/\Q (db J)) ?_
 have hz:(((d+1:Nat):Int)==0)=O:=IM.2 (by omega)
 rw[show yt.wrap (((d+1:Nat):Int)-1)=d by rw[An];omega]
 exact⟨hz,by decide,rfl,h,rfl⟩
theorem Aan(d:Nat)(l:List cr)(hd:d<=100)(hl:I l<=8)(h:∀t∈l,F0 177 [dT t,di d] (db J))(n:Nat):∀k:Nat,I l-k=n->
  Rn PP O2 0 (db J) bd ([zu O2 1933268,.blk 1,zt O2 241659,.blk 0,zt O2 15]++[]) (cz 132 [(1,di ((d+1:Nat):Int)),(2,.v (.ref (vT (.prod l)))),(5,di k)]) bd:=by
 induction n using Nat.strongRecOn with
 |_ n ih=>
 intro k hn
 refine zo [2] (.b (.e fun t:cr=>.x (vT t)<|.c (db J)<|.l [ke 1,ke 2,ch 5 (zw k)]) .r) ((ye k (I (jh l))->∃a,y6 k/\zy (jh l) k (vT a)/\Aa PP 177 [bt (vT a),di (yu yt ((↑(d+1):Int)-1))] d7 (db J) d7/\zx k/\Nv.It (A5 (CN 0) PP (fun env σ1=>A7 PP O2 env σ1 (db J) bd) [zu O2 1933268,bh 1,zt O2 241659,bh 0,zt O2 15] (cz 132 [(1,zw d),(rt l),(5,zw k)]) bd))/\(yd k (I (jh l))->Q (db J))) ?_
 rw[show yt.wrap (((d+1:Nat):Int)-1)=d by grind[An]]
 refine⟨fun h1=>?_,fun h1=>rfl⟩
 have hk:k<I l:=by grind[cr.ps]
 have hx:l[k]?=G l[k]:=HK hk
 generalize l[k]=t at hx
 exact⟨t,by omega,QD hx,h t (HQ hx),Ac,⟨ih (I l- (k+1)) (by omega) (k+1) rfl⟩⟩
theorem MG(d:Nat)(l:List cr)(hd:d<=100)(h1:((I l:Int)==0)=O)(h2:Y ((I l:Int)>8)=O)(h:∀t∈l,F0 177 [dT t,di d] (db J)):F0 177 [dT (.prod l),di ((d+1:Nat):Int)] (db J):=by
 have hz:(((d+1:Nat):Int)==0)=O:=IM.2 (by omega)
 have h3:¬((I l:Int)>8):=IR h2
 refine sv O2 132 [2] (.f<|.k<|.k<|.k<|.k<|.k<|.k<|.k<|.k<|.k<|.k<|.f<|.f<|.l [ke 1,ke 2,ch 5 (di (0:Nat))]) (_/\yd (I (jh l)) 1/\yb (I (jh l)) 8/\Q (di 0)/\_) ⟨hz,HO ?_,by simpa[cr.ps] using h2,rfl,iK (Aan d l hd (by omega) h _ 0 rfl)⟩
 grind[cr.ps]
theorem Aal(m:cx)(hm:m.okN):F0 177 [dT (AM m),di 8] (db J):=by
 have hg:=hm.good
 simp only[AM,CW,HL,IZ,IU] at hg
 obtain⟨h1,h2,h3⟩:=hg
 refine MG 7 _ (by omega) h1 h2 fun t ht=>?_
 have hgt:=h3 t ht
 rcases IN.1 ht with rfl|ht
 ·simp only[CW,HL,HU] at hgt
  exact KB 6 _ hgt.1 hgt.2
 ·have e:=(List.mem_replicate.1 ht).2
  subst e
  unfold Fg at hgt⊢
  split
  ·exact Afw 6
  ·rename_i hk
   rw[Iz hk] at hgt
   split
   ·rename_i hk2
    rw[I4 hk2] at hgt
    simp only[CW,HL,HU] at hgt
    exact Aaj 6 _ (by omega) (KB 5 _ hgt.1 hgt.2)
   ·rename_i hk2
    rw[Iz hk2] at hgt
    simp only[CW,HL,IJ] at hgt
    exact Aam 6 _ _ hgt.1 hgt.2
theorem Zo(m:cx)(hm:m.okN):F0 119 [dT (AM m)] (di 0):=by
 refine sv AjR 6 [1] (.c (db J) .r) (F0 177 [bt (vT (AM m)),di 8] (db J)/\Q (di 0)) ?_
 grind[Aal]
noncomputable def CE:=yl Em
theorem Ahi(v:b9):F0 121 [dT .nat,dV v] (db (A1 .nat v)):=by
 refine sv Em 169 [2,3] (.k<|.b (.b .r .r) .r) ((y8 v.n 0->(ya v.n 1048576->db ((I (c7 v.az):Int)==0)=db (A1 cr.nat v))/\(y9 v.n 1048576->db O=db (A1 cr.nat v)))/\(y7 v.n 0->db O=db (A1 cr.nat v))) ?_
 grind[A1]
theorem M0(n:Int)(v:b9):F0 121 [dT (.lab n),dV v] (db (A1 (.lab n) v)):=by
 refine sv Em 169 [2,3] (.k<|.k<|.b (.b .r .r) .r) ((y8 v.n 0->(ye v.n (cr.sz (cr.lab n))->db ((I (c7 v.az):Int)==0)=db (A1 (cr.lab n) v))/\(yd v.n (cr.sz (cr.lab n))->db O=db (A1 (cr.lab n) v)))/\(y7 v.n 0->db O=db (A1 (cr.lab n) v))) ?_
 grind[cr.sz,A1,CI]
noncomputable abbrev qq:=[kl CE fd,bh 3,kc CE [1,1,1,1]]
theorem Yu(t:cr)(v:b9)(hv:I v.az<=12)(h:∀k∈v.az,F0 121 [dT t,dV k] (db (A1 t k)))(n:Nat):∀k:Nat,I v.az-k=n->
  Rn PP Em 0 (db ((v.az.drop k).all fun x=>A1 t x)) bd ([zu Em 244,.blk 3,zt Em 31]++[]) (cz 169 [(2,.v (.ref (lc 4 0 [] [vT t]))),(3,.v (.ref (Ad v))),(6,di k)]) bd:=by
 induction n using Nat.strongRecOn with
 |_ n ih=>
 intro k hn
 refine zo [2,3] (.b (.e fun x:b9=>.x (vT t)<|.x (Ad x)<|.c (db (A1 t x))<|.b .r (.l [ke 2,ke 3,ch 6 (zw k)])) .r) ((ye k (I (c7 v.az))->∃a,iz 0<=0/\G (vT t)=G (vT t)/\y6 k/\zy (c7 v.az) k (Ad a)/\Aa PP 121 [bt (vT t),dV a] d7 (db (A1 t a)) d7/\((!A1 t a)=J->db O=db (List.all (W k v.az) fun x=>A1 t x))/\((!A1 t a)=O->zx k/\Nv.It (A5 (CN 0) PP (fun env σ1=>A7 PP Em env σ1 (db (List.all (W k v.az) fun x=>A1 t x)) bd) qq (cz 169 [(2,bt (bz (lc 4 0 [] [vT t]))),(jq v),(6,zw k)]) d7)))/\(yd k (I (c7 v.az))->db J=db (List.all (W k v.az) fun x=>A1 t x))) ⟨fun h1=>?_,fun h1=>?_⟩
 ·have hk:k<I v.az:=by simpa using h1
  have hx:v.az[k]?=G v.az[k]:=HK hk
  rw[HZ hk]
  generalize v.az[k]=x at hx⊢
  refine⟨x,by decide,rfl,by omega,Ap hx,h x (HQ hx),fun h2=>?_,fun h2=>⟨Ac,⟨?_⟩⟩⟩
  ·have h2:A1 t x=O:=by simpa using h2
   rw[all_cons,h2,IE]
  ·have h2:A1 t x=J:=by simpa using h2
   rw[all_cons,h2,IG]
   exact ih (I v.az- (k+1)) (by omega) (k+1) rfl
 grind[drop_of_length_le]
theorem Acx(t:cr)(v:b9)(h:∀k∈v.az,F0 121 [dT t,dV k] (db (A1 t k))):F0 121 [dT (.word t),dV v] (db (A1 (.word t) v)):=by
 rw[dT,PS]
 refine sv Em 169 [2,3] (.k<|.k<|.k<|.k<|.b .r (.b .r (.l [ke 2,ke 3,ch 6 (di (0:Nat))]))) (((v.n !=0)=J->db O=db (A1 (cr.word t) v))/\((v.n !=0)=O->(yc (I (c7 v.az)) 12->db O=db (A1 (cr.word t) v))/\(yb (I (c7 v.az)) 12->di 0=di (↑0:Int)/\I0 Em (I bd.H) (db (A1 (cr.word t) v)) bd qq (cz 169 [(2,bt (bz (lc 4 0 [] [vT t]))),(jq v),(6,di (↑0:Int))]) bd))) ⟨fun h1=>?_,fun h1=>⟨fun h2=>?_,fun h2=>⟨rfl,⟨?_⟩⟩⟩⟩
 ·have h1:(v.n==0)=O:=by simpa using h1
  simp only[A1,h1,IE]
 ·have h2:¬((I v.az:Int)<=12):=by simpa using h2
  simp only[A1,HO h2,IE,JI]
 ·have h1:(v.n==0)=J:=by simpa using h1
  have h2:(I v.az:Int)<=12:=by simpa using h2
  simp only[A1,h1,HM h2,IG]
  exact Yu t v (by omega) h _ 0 rfl
theorem Yv(sz:Int)(r:List Int)(v:b9)(hv:I v.az<=12)(n:Nat):∀k:Nat,I v.az-k=n->
  Rn PP Em 0 (db ((v.az.drop k).all fun x=>CI sz x)) bd ([zu Em 244,.blk 3,zt Em 31]++[]) (cz 169 [(2,.v (.ref (vT (.prio sz r)))),(3,.v (.ref (Ad v))),(6,di k)]) bd:=by
 induction n using Nat.strongRecOn with
 |_ n ih=>
 intro k hn
 refine zo [2,3] (.b (.e fun x:b9=>.k<|.h (.xs (Ad x))<|.b .r (.h (.xs (Ad x))<|.b .r (.h (.xs (Ad x))<|.b .r (.l [ke 2,ke 3,ch 6 (zw k)])))) .r) ((ye k (I (c7 v.az))->∃a,2=2/\y6 k/\zy (c7 v.az) k (Ad a)/\(ye a.n 0->db O=db (List.all (W k v.az) fun x=>CI sz x))/\(yd a.n 0->2=2/\y6 k/\zy (c7 v.az) k (Ad a)/\(y8 a.n (cr.sz (il sz r))->db O=db (List.all (W k v.az) fun x=>CI sz x))/\(y7 a.n (cr.sz (il sz r))->2=2/\y6 k/\zy (c7 v.az) k (Ad a)/\(yc (I (c7 a.az)) 0->db O=db (List.all (W k v.az) fun x=>CI sz x))/\(yb (I (c7 a.az)) 0->zx k/\Nv.It (A5 (CN 0) PP (fun env σ1=>A7 PP Em env σ1 (db (List.all (W k v.az) fun x=>CI sz x)) bd) qq (cz 169 [(2,bt (bz (vT (il sz r)))),(jq v),(6,zw k)]) d7)))))/\(yd k (I (c7 v.az))->db J=db (List.all (W k v.az) fun x=>CI sz x))) ⟨fun h1=>?_,fun h1=>?_⟩
 ·have hk:k<I v.az:=by simpa using h1
  have hx:v.az[k]?=G v.az[k]:=HK hk
  rw[HZ hk]
  generalize v.az[k]=x at hx⊢
  refine⟨x,rfl,by omega,Ap hx,fun h2=>?_,fun h2=>⟨rfl,by omega,Ap hx,fun h3=>?_,fun h3=>⟨rfl,by omega,Ap hx,fun h4=>?_,fun h4=>⟨Ac,⟨?_⟩⟩⟩⟩⟩
  ·have h2:¬(x.n>=0):=by have:=HV h2;omega
   rw[all_cons,CI,HO h2,IE,IE]
  ·have h3:¬(x.n<sz):=by have:=HV h3;simp only[cr.sz] at this;omega
   rw[all_cons,CI,HO h3,IE,JI,IE]
  ·have h4:((I x.az:Int)==0)=O:=by have:=HV h4;rw[HJ] at this;exact IM.2 (by omega)
   rw[all_cons,CI,h4,JI,JI,IE]
  ·have h2:x.n>=0:=by have:=IR h2;omega
   have h3:x.n<sz:=by have:=IR h3;simp only[cr.sz] at this;omega
   have h4:((I x.az:Int)==0)=J:=by have:=IR h4;rw[HJ] at this;exact IJ.2 (by omega)
   rw[all_cons,CI,HM h2,HM h3,h4,IG,IG,IG]
   exact ih (I v.az- (k+1)) (by omega) (k+1) rfl
 grind[drop_of_length_le]
theorem Ac0(sz:Int)(r:List Int)(v:b9):F0 121 [dT (.prio sz r),dV v] (db (A1 (.prio sz r) v)):=by
 refine sv Em 169 [2,3] (.k<|.k<|.k<|.k<|.b .r (.b .r (.l [ke 2,ke 3,ch 6 (di (0:Nat))]))) (((v.n !=0)=J->db O=db (A1 (il sz r) v))/\((v.n !=0)=O->(yc (I (c7 v.az)) 12->db O=db (A1 (il sz r) v))/\(yb (I (c7 v.az)) 12->di 0=di (↑0:Int)/\I0 Em (I bd.H) (db (A1 (il sz r) v)) bd qq (cz 169 [(2,bt (bz (vT (il sz r)))),(jq v),(6,di (↑0:Int))]) bd))) ⟨fun h1=>?_,fun h1=>⟨fun h2=>?_,fun h2=>⟨rfl,⟨?_⟩⟩⟩⟩
 ·grind[A1]
 ·grind[A1]
 ·have h1:(v.n==0)=J:=by grind
  have h2:(I v.az:Int)<=12:=by grind
  simp only[A1,h1,HM h2,IG]
  exact Yv sz r v (by omega) _ 0 rfl
noncomputable abbrev Axh:=[zu Em 221140,bh 1,zt Em 27643,bh 0,zt Em 7]
theorem Yw(l:List cr)(v:b9)(hl:I v.az=I l)(hv:I v.az<=1000000)(h:∀t∈l,∀k∈v.az,F0 121 [dT t,dV k] (db (A1 t k)))(n:Nat):∀k:Nat,I l-k=n->
  Rn PP Em 0 (db (BU (l.drop k) (v.az.drop k))) bd ([zu Em 221140,.blk 1,zt Em 27643,.blk 0,zt Em 7]++[]) (cz 169 [(2,.v (.ref (vT (.prod l)))),(3,.v (.ref (Ad v))),(5,di k)]) bd:=by
 induction n using Nat.strongRecOn with
 |_ n ih=>
 intro k hn
 refine zo [2,3] (.b (.e fun t:cr=>.x (vT t)<|.e fun x:b9=>.x (Ad x)<|.c (db (A1 t x))<|.b .r (.l [ke 2,ke 3,ch 5 (zw k)])) .r) ((Y ((k:Int)<(I (c7 v.az):Int))=J->∃a,0<=(k:Int)/\zy (jh l) k (vT a)/\∃a_1,y6 k/\zy (c7 v.az) k (Ad a_1)/\Aa PP 121 [bt (vT a),dV a_1] d7 (db (A1 a a_1)) d7/\((!A1 a a_1)=J->db O=db (BU (W k l) (W k v.az)))/\((!A1 a a_1)=O->zx k/\Nv.It (A5 (CN 0) PP (fun env σ1=>A7 PP Em env σ1 (db (BU (W k l) (W k v.az))) bd) Axh (cz 169 [(rt l),(jq v),(5,zw k)]) d7)))/\(yd k (I (c7 v.az))->db J=db (BU (W k l) (W k v.az)))) ⟨fun h1=>?_,fun h1=>?_⟩
 ·have hk:k<I v.az:=by simpa using h1
  have hk2:k<I l:=by omega
  have hx:v.az[k]?=G v.az[k]:=HK hk
  have hy:l[k]?=G l[k]:=HK hk2
  rw[HZ hk,HZ hk2]
  generalize v.az[k]=x at hx⊢
  generalize l[k]=t at hy⊢
  refine⟨t,by omega,QD hy,x,by omega,Ap hx,h t (HQ hy) x (HQ hx),fun h2=>?_,fun h2=>⟨Ac,⟨?_⟩⟩⟩
  ·have h2:A1 t x=O:=by simpa using h2
   simp only[BU,h2,IE]
  ·have h2:A1 t x=J:=by simpa using h2
   simp only[BU,h2,IG]
   exact ih (I l- (k+1)) (by omega) (k+1) rfl
 grind[drop_of_length_le,BU]
theorem N8(l:List cr)(v:b9)(hv:v.size<=1000000)(h:∀t∈l,∀k∈v.az,F0 121 [dT t,dV k] (db (A1 t k))):F0 121 [dT (.prod l),dV v] (db (A1 (.prod l) v)):=by
 have hlen:=b9.length_le v.az
 have hsz:=b9.size_eq v
 refine sv Em 169 [2,3] (.k<|.k<|.k<|.k<|.b .r (.b .r (.l w5))) (((v.n !=0)=J->db O=db (A1 (cr.prod l) v))/\((v.n !=0)=O->(((I (c7 v.az):Int) !=(I (jh l):Int))=J->db O=db (A1 (cr.prod l) v))/\(((I (c7 v.az):Int) !=(I (jh l):Int))=O->di 0=di (↑0:Int)/\I0 Em (I bd.H) (db (A1 (cr.prod l) v)) bd Axh (cz 169 [(rt l),(jq v),(5,di (↑0:Int))]) bd))) ⟨fun h1=>?_,fun h1=>⟨fun h2=>?_,fun h2=>⟨rfl,⟨?_⟩⟩⟩⟩
 ·grind[A1]
 ·grind[cr.ps,A1]
 ·have h1:(v.n==0)=J:=by grind
  have h2:(I v.az:Int)=I l:=by grind[cr.ps]
  have h3:((I v.az:Int)==I l)=J:=by grind
  simp only[A1,h1,h3,IG]
  exact Yw l v (by omega) (by omega) h _ 0 rfl
theorem Ahj(m:cx)(v:b9):F0 121 [dT (Fg m),dV v] (db (A1 (Fg m) v)):=by
 grind[Fg,Ahi,Acx,M0,Ac0]
theorem Acz(m:cx)(v:b9)(hv:v.size<=1000000):F0 121 [dT (AM m),dV v] (db (A1 (AM m) v)):=
 by grind[N8,M0,Ahj,AM]
theorem Ry(m:cx)(hm:m.okN)(v:b9):F0 82 [dT (AM m),dV v] (db (Al (AM m) v)):=by
 refine sv AjF 18 [2,3] (.c (di 0)<|.c (di (min (v.size:Int) 129))<|.b (.c (db (A1 (AM m) v)) .r) .r) (_/\_/\(ya (min (↑(jz v):Int) 129) 128->F0 121 [bt (vT (AM m)),dV v] (db (A1 (AM m) v))/\db (A1 (AM m) v)=db (Al (AM m) v))/\(y9 (min (↑(jz v):Int) 129) 128->db O=db (Al (AM m) v))) ⟨Zo m hm,JR _ v (HR _) 128 (by decide) (by decide),fun h1=>?_,fun h1=>?_⟩
 all_goals grind[Acz,Al]
noncomputable def Hg:=yl He
noncomputable abbrev mr:=[1,1,1,1,1,0,1,0,0]
noncomputable abbrev mu:=[1,1,1,1,1,1]
theorem Pv(m:cx)(t:cr)(b:Bool)(hl:I m.av<=1000000)(hk:(m.kind==6)=O)(hR:∀r∈m.av,F0 81 [Af m,BK r] (db J))(hT:F0 83 [Af m] (dT t))(hV:F0 82 [dT t,dV m.start] (db b))(n:Nat):∀k:Nat,I m.av-k=n->
  Rn PP He 0 (di (if b then 0 else 17)) bd ([zu He 1012,.blk 0,zt He 127]++[]) (cz 52 [(1,.v (.ref (Aq m))),(3,di k)]) bd:=by
 induction n using Nat.strongRecOn with
 |_ n ih=>
 intro k hn
 refine zo [1] (.b (.e fun r:cm=>.x (Aj r)<|.c (db J)<|.l [ke 1,ch 3 (zw k)]) (.f<|.c (dT t)<|.c (db b)<|.b .r .r)) ((ye k (I (U Aj m.av))->∃a,y6 k/\zy (U Aj m.av) k (Aj a)/\Aa PP 81 [Af m,BK a] d7 (db J) d7/\zx k/\Nv.It (A5 (CN 0) PP (fun env σ1=>A7 PP He env σ1 (di (if b=J then 0 else 17)) bd) [kl Hg mr,bh 0,kc Hg mu] (cz 52 [(1,bt (g7 m)),(3,zw k)]) d7))/\(yd k (I (U Aj m.av))->(m.kind==6)=O/\F0 83 [Af m] (dT t)/\type_of% hV/\((!b)=J->di 17=di (if b=J then 0 else 17))/\((!b)=O->di 0=di (if b=J then 0 else 17)))) ⟨fun h=>?_,fun h=>⟨hk,hT,hV,fun e=>?_,fun e=>?_⟩⟩
 ·have hk:k<I m.av:=by simpa using h
  have hx:m.av[k]?=G m.av[k]:=HK hk
  generalize m.av[k]=r at hx
  exact⟨r,by omega,Ae hx,hR r (HQ hx),Ac,⟨ih (I m.av- (k+1)) (by omega) (k+1) rfl⟩⟩
 all_goals grind
theorem QV(m:cx)(e:Int)(h1:A4 m.kind 1 6=J)(h2:F0 78 [Af m] (db J))(h3:F0 79 [Af m] (db J))(h4:F0 80 [Af m] (db J))
  (hl:Rn PP He 0 (di e) bd ([zu He 1012,.blk 0,zt He 127]++[]) (cz 52 [(1,.v (.ref (Aq m))),(3,di (0:Nat))]) bd):F0 40 [Af m] (di e):=by
 have h1:=h1▸AU m.kind 1 6
 exact sv He 52 [1] (.c (db J)<|.c (db J)<|.c (db J)<|.c (db J)<|.l [ke 1,ch 3 (di (0:Nat))]) (_/\_/\_/\_/\Q (di 0)/\_) ⟨h1,h2,h3,h4,rfl,iK hl⟩
theorem SZ(m:cx)(hm:m.okS):F0 40 [Af m] (di (if Al (AM m) m.start then 0 else 17)):=
 QV m _ (by rcases hm.n.kind with h|h|h<;>rw[h]<;>rfl) (OQ m hm) (OF m hm) (OR m hm) (Pv m _ _ (by have:=hm.n.sz;omega) (by rcases hm.n.kind with h|h|h<;>rw[h]<;>rfl) (fun r hr=>Abo m hm r hr) (R3 m hm) (Ry m hm m.start) _ 0 rfl)
theorem Dc(m:cx)(hm:m.ok):F0 40 [Af m] (di 0):=by
 have:=SZ m hm
 rwa[hm.start,I4 rfl] at this
theorem Rz(m:cx)(hm:m.ok)(v:b9):F0 85 [Af m,dV v] (db (Al (AM m) v)):=by
 exact sv AjG 14 [2,3] (.c (di 0)<|.c (dT (AM m))<|.c (db (Al (AM m) v)) .r) (_/\_/\_/\Q (db (Al (AM m) v))) ⟨Dc m hm,R3 m hm,Ry m hm v,rfl⟩
theorem D0(m:cx)(hm:m.ok)(v:b9)(_:v.size<=1000000):F0 85 [Af m,dV v] (db (Al (AM m) v)):=Rz m hm v
abbrev j1(l:List UInt8):V:=.list (l.map vb)
abbrev cn(l:List UInt8)(a:Nat):List D:=[.v (j1 l),di a]
abbrev dz(l:List UInt8)(a:Nat):St:=⟨[G (cn l a)],[]⟩
noncomputable abbrev gp:=fun a₀ b₀=>[G (cn a₀ b₀)]
theorem A6(l:List UInt8)(hl:I l<=200)(a:Nat)(ha:a<=I l)(n:Int)(hn:1<=n)(hn2:n<=1000):
  ∃(r:Int) (a':Nat),0<=r/\r<n/\a'<=I l/\Aa PP 7 [.ptr 0 0,di n] (dz l a) (di r) (dz l a'):=by
 by_cases h:a<I l
 ·refine⟨(l[a].toNat:Int)%n,a+1,Int.emod_nonneg _ (by omega),Int.emod_lt_of_pos _ (by omega),h,?_⟩
  refine zq AoS 36 (.f<|.x (vb l[a]) .r) (yo/\y7 a (I (U vb l))/\0<=yu yt (yu yt ((a:Int)+1)-1)/\zy (U vb l) (yu yt (yu yt ((a:Int)+1)-1)) (a8 IntKind.u8 (↑(UInt8.toNat l[a]):Int))/\n≠0/\yo/\[G [bt (j1 l),di (yu yt ((a:Int)+1))]]=[G (cn l (a+1))]/\di (Int.tmod (yu yt (↑(UInt8.toNat l[a]):Int)) n)=di ((↑(UInt8.toNat l[a]):Int)%n)) ?_
  have hx:l[a]?=G l[a]:=HK h
  have hb:l[a].toNat<256:=UInt8.toNat_lt _
  generalize l[a]=c at hx hb
  rw[show yt.wrap (yt.wrap ((a:Int)+1)-1)=a by rw[An (n:=(a:Int)+1),An];omega]
  refine⟨ym,by rw[HJ];exact yq,by omega,Ae hx,by omega,ym,?_,?_⟩
  ·rw[An];rfl
  ·rw[An,Int.tmod_eq_emod_of_nonneg (by omega)]
 ·refine⟨0,a,by omega,by omega,ha,?_⟩
  exact zq AoS 36 (.t .r) (yo/\y8 a (I (U vb l))/\Q (gp l a)/\Q (di 0)) ⟨ym,by rw[HJ];exact yr,rfl,rfl⟩
abbrev Aoa(l:List UInt8)(a:Nat)(xs:List Int):St:=⟨[G (cn l a)],[(1,1,xs.map vi)]⟩
theorem AcU(l:List UInt8)(hl:I l<=200)(n:Nat)(hn:n<=100)(most:Int)(hm:0<=most)(hm2:most<=100)(N:Nat):∀(k:Nat) (a:Nat) (xs:List Int),n-k=N->k<=n->a<=I l->I xs=k->(∀x∈xs,0<=x/\x<=most)->
  ∃(ys:List Int) (a':Nat),a'<=I l/\ys.length=n/\(∀x∈ys,0<=x/\x<=most)/\
  Rn PP Ad7 1 (cw ys) (dz l a') ([zu Ad7 116,.blk 0,zt Ad7 15]++[]) (cz 22 [(0,.ptr 0 0),(1,di n),(2,di most),(7,.acc 1 (xs.map vi)),(8,di k)]) (Aoa l a xs):=by
 induction N with
 |zero=>
  intro k a xs hk hk0 ha hx hxs
  by_cases hkn:k=n
  ·refine⟨xs,a,ha,by omega,hxs,?_⟩
   exact zp (.f .r) (yd k n/\Q (gp l a)/\Q (cw xs)) ⟨yq,rfl,rfl⟩
  ·exact absurd hk0 (by omega)
 |succ N ih=>
  intro k a xs hk hk0 ha hx hxs
  obtain⟨r,a1,h1,h2,h3,h4⟩:=A6 l hl a ha (most+1) (by omega) (by omega)
  obtain⟨ys,a',h5,h6,h7,h8⟩:=ih (k+1) a1 (xs++[r]) (by omega) (by omega) h3 (by simp[hx]) (fun x hx=>by
   rcases IV.1 hx with hx|hx
   ·exact hxs x hx
   ·rw[Ia.1 hx];omega)
  refine⟨ys,a',h5,h6,h7,?_⟩
  refine zp (.t<|.c1 (cn l a1) (di r)<|.ls [ke 0,ke 1,ke 2,ch 7 (.acc 1 ((xs++[r]).map vi)),ch 8 (zw k)] (Aoa l a1 (xs++[r]))) (ye k n/\Aa PP 7 [bq 0 0,di (yu yt (most+1))] (dz l a) (di r) (dz l a1)/\Q (U vi xs)/\Ao (I (U vi xs)+I (a8 yt r::nV)) 8/\br 1 (U vi xs++[vi r])=br 1 (U vi (xs++[r]))/\zx k/\Q (gp l a1)/\[(1,1,U vi xs++vi r::nV)]=[(1,1,U vi (xs++[r]))]/\_) ⟨yr,?_,rfl,⟨?_,?_⟩,by simp,Ac,rfl,by simp,iK h8⟩
  ·rw[An];exact h4
  ·simp only[HJ,HP,HT];omega
  ·simp only[HJ,HP,HT];omega
theorem FQ(l:List UInt8)(hl:I l<=200)(a:Nat)(ha:a<=I l)(n:Nat)(hn:n<=100)(most:Int)(hm:0<=most)(hm2:most<=100):
  ∃(ys:List Int) (a':Nat),a'<=I l/\ys.length=n/\(∀x∈ys,0<=x/\x<=most)/\Aa PP 66 [.ptr 0 0,di n,di most] (dz l a) (cw ys) (dz l a'):=by
 obtain⟨ys,a',h1,h2,h3,h4⟩:=AcU l hl n hn most hm hm2 _ 0 a [] rfl (by omega) ha rfl (by simp)
 refine⟨ys,a',h1,h2,h3,?_⟩
 exact zq Ad7 22 (.h (.q 2 0)<|.h (.nw 7 1 1)<|.ls [ke 0,ke 1,ke 2,ke 7,ch 8 (di (0:Nat))] (Aoa l a [])) (Q (di 0)/\Q (Aoa l a []).H/\Q [(1,1,nV)]/\_) ⟨rfl,rfl,rfl,iK h4⟩
noncomputable def PF:=yl SI
abbrev Aob(_:Int)(xs:List b9):St:=⟨[G [di 0,.v .nils],G [di 0,.acc 1 (xs.map eV)]],[(1,2,xs.map eV)]⟩
def DQ(s:Int)(l:List Int):b9:=.mk 0 (.mk s []::l.map fun x=>.mk x [])
noncomputable abbrev jp:=fun a₀=>(vi a₀::ae nV::nV)
noncomputable abbrev Awm:=fun a₀=>(aa [vi 0,ae (U eV a₀)])
noncomputable abbrev o8:=(4,bq 0 0)
theorem Zs(l:List Int)(hl:I l<=1000)(s:Int)(n:Nat):∀(k:Nat) (xs:List b9),I l-k=n->I xs=k+1->
  Rn PP SI 0 (dV (.mk 0 (xs++(l.drop k).map fun x=>.mk x []))) bd ([zu SI 116,.blk 0,zt SI 15]++[]) (cz 28 [(1,cw l),(4,.ptr 0 0),(5,.ptr 1 0),(6,di k)]) (Aob s xs):=by
 induction n with
 |zero=>
  intro k xs hk hx
  refine zp (.f .r) (yd k (I (U vi l))/\bt (Awm xs)=dV (b9.mk 0 (xs++U (fun x=>b9.mk x []) (W k l)))) ⟨by rw[HJ];exact yq,?_⟩
  rw[I3 (by omega),Jo,IX];rfl
 |succ n ih=>
  intro k xs hk hxl
  refine zp (.t<|.e fun x:Int=>.x (vi x)<|.ls [ke 1,ke 4,ke 5,ch 6 (zw k)] (Aob s (xs++[.mk x []]))) (ye k (I (U vi l))/\∃a,y6 k/\zy (U vi l) k (vi a)/\Q (U eV xs)/\Ao (I (U eV xs)+I (aa (jp a)::nV)) 32/\yp/\zx k/\[G [di 0,dn],G [di 0,br 1 (U eV xs++aa (jp a)::nV)]]=[G [di 0,dn],G [di 0,br 1 (U eV (xs++[b9.mk a []]))]]/\[(1,2,U eV xs++aa (jp a)::nV)]=[(1,2,U eV (xs++[b9.mk a []]))]/\I0 SI 0 (dV (b9.mk 0 (xs++U (fun x=>b9.mk x []) (W k l)))) bd [kl PF e9,bh 0,zt SI 15] (cz 28 [(1,cw l),o8,(5,bq 1 0),(6,zw k)]) (Aob s (xs++[b9.mk a []]))) ?_
  have hk1:k<I l:=by omega
  have hx:l[k]?=G l[k]:=HK hk1
  rw[HZ hk1]
  generalize l[k]=x at hx⊢
  have h:=ih (k+1) (xs++[.mk x []]) (by omega) (by simp[hxl])
  rw[Jx] at h
  refine⟨by rw[HJ];exact yr,x,by omega,Ae hx,rfl,⟨?_,?_⟩,yn,Ac,?_,?_,⟨h⟩⟩
  ·simp only[HJ,HP,HT];omega
  ·simp only[HJ,HP,HT];omega
  ·rw[←C4];rfl
  ·rw[←C4];rfl
noncomputable abbrev fh:=fun a₀=>(b9.mk a₀ [])
theorem Px(l:List Int)(hl:I l<=1000)(s:Int):F0 67 [di s,cw l] (dV (DQ s l)):=by
 exact zq SI 28 (.a 1<|.h .g<|.ls [ke 1,ke 4,ke 5,ch 6 (di (0:Nat))] (Aob s [.mk s []])) (Q (di 0)/\Q [G [di 0,dn],G [di 0,br 1 (eV (fh s)::nV)]]/\Q [(1,2,eV (fh s)::nV)]/\_) ⟨rfl,rfl,rfl,iK (Zs l hl s _ 0 [.mk s []] rfl rfl)⟩
abbrev k6:List (List UInt8):=[[114],[115],[116]]
def c8(nm:List UInt8)(f t:Int)(nd gv:List Int):cm:=⟨nm,f,t,nd,gv,[],0,0,0,[],[],[],[],0⟩
abbrev cM(S Pl:List (List UInt8))(rs:List cm):List D:=[di 1,.v (cc S),.v (cc Pl),.v .nils,.v .nils,di 0,di 0,.acc 2 (rs.map Aj),di 0,.v .nils]
abbrev zM:List D:=[di 0,.v .nils,.v .nils,.v .nils,.v .nils,di 0,di 0,.v .nils,di 0,.v .nils]
abbrev qb(l:List UInt8)(a:Nat)(S Pl:List (List UInt8))(rs:List cm):St:=⟨[G (cn l a),G zM,G (cM S Pl rs)],[(2,14,rs.map Aj)]⟩
structure ZI(ns np:Nat)(k:Nat)(r:cm):Prop where
 name:k6[k]?=G r.name
 ai:0<=r.ai/\r.ai<ns
 to:0<=r.to/\r.to<ns
 ak:I r.ak=np/\∀x∈r.ak,0<=x/\x<=2
 aj:I r.aj=np/\∀x∈r.aj,0<=x/\x<=2
 rest:r=c8 r.name r.ai r.to r.ak r.aj
structure GU(m:cx):Prop where
 kind:m.kind=1
 aw:m.aw=[[97]]∨m.aw=[[97],[98]]
 ay:m.ay=[[120]]∨m.ay=[[120],[121]]
 ax:m.ax=[]
 au:m.au=[]
 am:m.am=0
 age:m.age=0
 count:I m.av<=3
 pos:1<=I m.av
 av:∀k r,m.av[k]?=G r->ZI (I m.aw) (I m.ay) k r
 start:∃ys:List Int,I ys=I m.ay/\(∀x∈ys,0<=x/\x<=3)/\m.start=DQ 0 ys
theorem Dk(rs:List cm)(r:cm):rs.map Aj++[Aj r]=(rs++[r]).map Aj:=by simp
noncomputable def Ca:=yl Hy
theorem Alw{rs:List cm}(_:I rs<=3){ns np:Nat}(h:∀k r,rs[k]?=G r->ZI ns np k r):rs.map cm.name=k6.take (I rs):=by
 apply List.ext_getElem?
 intro i
 by_cases hi:i<I rs
 ·have hx:rs[i]?=G rs[i]:=HK hi
  rw[IP,hx,List.getElem?_take_of_lt hi,(h i _ hx).name];rfl
 grind
theorem Afy(ys:List Int)(n:Nat)(h:I ys=n)(h0:∀x∈ys,0<=x/\x<=1048576):BU (replicate n .nat) (ys.map fun x=>b9.mk x [])=J:=by
 induction n generalizing ys with
 |zero=>rfl
 |succ n ih=>cases ys with
  |nil=>rfl
  |cons y ys=>
   have:=h0 y (by simp)
   simp only[Jk,I9,BU,A1,HL,HU,IJ]
   grind[b9.n,b9.az]
theorem KG(ys:List Int):b9.sizes (ys.map fun x=>b9.mk x [])=I ys:=by
 induction ys<;>grind[b9.sizes,b9.size]
theorem H7(s:Int)(ys:List Int):(DQ s ys).size=2+I ys:=by
 grind[DQ,b9.size,b9.sizes,KG]
theorem Lu(m:cx)(hk:m.kind=1)(hpl:I m.ay<=100)(s:Int)(hs:0<=s/\s<I m.aw)(ys:List Int)(hy:I ys=I m.ay)(h:∀x∈ys,0<=x/\x<=1048576):Al (AM m) (DQ s ys)=J:=by
 grind[Al,H7,AM,Fg,A1,DQ,b9.n,b9.az,BU,CI,Afy]
theorem GU.ok{m:cx}(h:GU m):m.ok:=by
 have hst:1<=I m.aw/\m.aw.length<=2:=by rcases h.aw with e|e<;>rw[e]<;>decide
 have hpl:1<=I m.ay/\m.ay.length<=2:=by rcases h.ay with e|e<;>rw[e]<;>decide
 have hb:∀{x a b:Int},a<=x->x<=b->A4 x a b=J:=fun h1 h2=>by grind[A4]
 have hget:∀r∈m.av,ZI (I m.aw) (I m.ay) (m.av.idxOf r) r:=fun r hr=>by
  have hi:=List.idxOf_lt_length_of_mem hr
  exact h.av _ r (by grind)
 have hc:=h.count
 refine⟨.inl h.kind,?_,?_,?_,?_,?_,?_,?_⟩
 ·simp only[Cw,Sn,I4 h.kind,HL,HU,h.ax,h.am,h.age]
  grind
 ·rw[Ck,I4 (by rw[h.kind];rfl),h.au];rfl
 ·have hn:=Alw h.count h.av
  rw[DJ,FE,hn,Ch,h.ax]
  have:I m.av=0∨m.av.length=1∨m.av.length=2∨m.av.length=3:=by omega
  rcases h.aw with e|e<;>rcases h.ay with e'|e'<;>rcases this with e2|e2|e2|e2<;>rw[e,e',e2]<;>decide
 ·intro r hr
  have hm:=hget r hr
  have h1:=hm.ak.1
  have h2:=hm.aj.1
  rw[hm.rest]
  exact⟨by show I r.ak<=_;omega,by show I r.aj<=_;omega,II _,II _,II _,II _,II _⟩
 ·intro r hr
  have hm:=hget r hr
  obtain⟨f1,f2⟩:=hm.ai
  obtain⟨t1,t2⟩:=hm.to
  obtain⟨n1,n2⟩:=hm.ak
  obtain⟨g1,g2⟩:=hm.aj
  have hr:=hm.rest
  rw[FB,I4 h.kind]
  grind[EO,Cf,E6,Cj,Si,c8]
 ·obtain⟨ys,y1,y2,y3⟩:=h.start
  rw[y3]
  exact Lu m h.kind (by omega) 0 ⟨by omega,by omega⟩ ys y1 fun x hx=>by grind
 ·obtain⟨ys,y1,y2,y3⟩:=h.start
  grind[H7]
abbrev lf(y:Int):b9:=.mk y []
structure mz(c:b9)(s:Int)(ys:List Int):Prop where
 eq:c=DQ s ys
 len:I c.az=I ys+1
 head:c.az[0]?=G (lf s)
 at':∀(i:Nat) (y:Int),ys[i]?=G y->c.az[i+1]?=G (lf y)
theorem isC(s:Int)(ys:List Int):mz (DQ s ys) s ys:=
 ⟨rfl,by simp[DQ,b9.az],rfl,fun i y h=>by grind[DQ,b9.az]⟩
noncomputable abbrev ut:=fun a₀=>F0 40 [Af a₀] (di 0)
theorem YE(m:cx)(hm:m.ok)(hk:m.kind=1)(i:Nat)(hi:i<I m.av):F0 243 [Af m,di i] (di 0):=by
 refine sv Aps 23 [2] (.c (di 0)<|.k<|.f<|.f<|.f .r) (ut m/\(m.kind !=1)=O/\yd i 0/\y7 i (I (U Aj m.av))/\Q (di 0)) ?_
 grind[Dc]
noncomputable def Z8:=yl v6
def Ei:List Int->List Int->Bool
 |n::ns,y::ys=> !decide (y<n)&&Ei ns ys
 |_,_=>true
def io(r:cm)(s:Int)(ys:List Int):Bool:=(s==r.ai)&&Ei r.ak ys
theorem AdM(r:cm)(c:b9)(s:Int)(ys:List Int)(hc:mz c s ys)(hl:I r.ak=I ys)(hl2:I ys<=1000)(n:Nat):∀k:Nat,I r.ak-k=n->
  Rn PP v6 0 (db (Ei (r.ak.drop k) (ys.drop k))) bd ([zu v6 116,.blk 0,zt v6 15]++[]) (cz 34 [(2,.v (.ref (Aj r))),(3,.v (.ref (Ad c))),(5,di k)]) bd:=by
 induction n using Nat.strongRecOn with
 |_ n ih=>
 intro k hn
 refine zo [2,3] (.b (.e fun y:Int=>.h (.xs (Ad (lf y)))<|.e fun x:Int=>.x (vi x)<|.b .r (.l [ke 2,ke 3,ch 5 (zw k)])) .r) ((Y ((k:Int)<(I (dt r.ak):Int))=J->∃a,2=2/\0<=yu yt (1+(k:Int))/\zy (c7 c.az) (yu yt (1+(k:Int))) (Ad (lf a))/\∃a_1,y6 k/\zy (dt r.ak) k (vi a_1)/\(ye (b9.n (lf a)) a_1->db O=db (Ei (W k r.ak) (W k ys)))/\(yd (b9.n (lf a)) a_1->zx k/\Nv.It (A5 (CN 0) PP (fun env σ1=>A7 PP v6 env σ1 (db (Ei (W k r.ak) (W k ys))) bd) [kl Z8 e9,bh 0,zt v6 15] (cz 34 [(2,bt (bz (Aj r))),(jq c),(5,zw k)]) d7)))/\(yd k (I (dt r.ak))->db J=db (Ei (W k r.ak) (W k ys)))) ⟨fun h=>?_,fun h=>?_⟩
 ·have hk:k<I r.ak:=by simpa using h
  have hk2:k<I ys:=by omega
  have hx:r.ak[k]?=G r.ak[k]:=HK hk
  have hy:ys[k]?=G ys[k]:=HK hk2
  have hcy:=hc.at' k _ hy
  rw[HZ hk,HZ hk2]
  generalize r.ak[k]=x at hx⊢
  generalize ys[k]=y at hcy⊢
  have e1:yt.wrap (1+(k:Int))=((k+1:Nat):Int):=by rw[An];omega
  rw[e1]
  refine⟨y,rfl,by omega,Ap hcy,x,by omega,Ae hx,fun h1=>?_,fun h1=>⟨Ac,⟨?_⟩⟩⟩
  ·have h1:Y (y<x)=J:=h1
   simp only[Ei,h1,Bool.not_true,IE]
  ·have h1:Y (y<x)=O:=h1
   simp only[Ei,h1,Bool.not_false,IG]
   exact ih (I r.ak- (k+1)) (by omega) (k+1) rfl
 grind[drop_of_length_le,Ei]
theorem AdL(r:cm)(c:b9)(s:Int)(ys:List Int)(hc:mz c s ys)(hl:I r.ak=I ys)(hl2:I ys<=1000):F0 244 [BK r,dV c] (db (io r s ys)):=by
 refine sv v6 34 [2,3] (.h (.xs (Ad (lf s)))<|.b .r (.l w5)) (Q 2/\iz 0<=0/\zy (c7 c.az) 0 (Ad (lf s))/\((b9.n (lf s) !=r.ai)=J->db O=db (io r s ys))/\((b9.n (lf s) !=r.ai)=O->di 0=di (↑0:Int)/\I0 v6 (I bd.H) (db (io r s ys)) bd [kl Z8 e9,bh 0,zt v6 15] (cz 34 [(2,bt (bz (Aj r))),(jq c),(5,di (↑0:Int))]) d7)) ⟨rfl,by decide,Ap (i:=0) hc.head,fun h=>?_,fun h=>⟨rfl,⟨?_⟩⟩⟩
 ·have h:(s !=r.ai)=J:=h
  grind[io]
 ·have h:(s !=r.ai)=O:=h
  have h:(s==r.ai)=J:=by grind
  simp only[io,h,IG]
  exact AdM r c s ys hc hl hl2 _ 0 rfl
noncomputable abbrev kp:=fun a₀ b₀=>F0 85 [Af a₀,dV b₀] (db J)
theorem YS(m:cx)(hm:m.ok)(hk:m.kind=1)(i:Nat)(r:cm)(hi:m.av[i]?=G r)(c:b9)(hcs:c.size<=1000000)(hv:Al (AM m) c=J)(s:Int)(ys:List Int)(hc:mz c s ys)(hl:I r.ak=I ys)(hl2:I ys<=1000):F0 188 [Af m,di i,dV c] (.tup [db (io r s ys),di 0]):=by
 refine sv Apv 26 [3,5] (.c (di 0)<|.c (db J)<|.x (Aj r)<|.c (db (io r s ys)) .r) (F0 243 [Af m,di (i:Int)] (di 0)/\kp m c/\y6 i/\zy (U Aj m.av) i (Aj r)/\F0 244 [BK r,dV c] (db (io r s ys))/\Q (bl [db (io r s ys),di 0])) ?_
 grind[D0,YE,AdL]
abbrev cR(r:cm):List D:=[.v (.str r.name),di r.ai,di r.to,cw r.ak,cw r.aj,cw r.move,di r.chan,di r.act,di r.letter,cw r.path,cw r.next,.v (AH r.aq),cw r.ao,di r.second]
def UC:List b9->List Int->List Int->b9×Int
 |xs,w::ws,g::gs=>if Y (w+g>1048576)=J then(.mk 0 [],1) else UC (xs++[lf (w+g)]) ws gs
 |xs,_,_=>(.mk 0 xs,0)
abbrev dP(p:b9×Int):D:=.tup [dV p.1,di p.2]
abbrev ox(xs:List b9)(ws gs:List Int):D:=dP (UC xs ws gs)
def ou(r:cm)(ys:List Int):List Int:=List.zipWith (fun y n=>y-n) ys r.ak
abbrev gn(r:cm)(ws:List Int):St:=⟨[G [di 0,.v .nils],G (cR r),G (cb ws)],[]⟩
abbrev ki(r:cm)(ws:List Int)(xs:List b9):St:=⟨[G [di 0,.v .nils],G (cR r),G (cb ws),G [di 0,.acc 1 (xs.map eV)]],[(1,2,xs.map eV)]⟩
noncomputable abbrev nv:=(aa [vi 0,ae []])
noncomputable abbrev kf:=(6,bq 0 0)
theorem Amx(r:cm)(ws:List Int)(hw:I ws<=1000)(hg:I r.aj=I ws)(hb:∀w∈ws, -10000000<=w/\w<=10000000)(hb2:∀w∈r.aj, -10000000<=w/\w<=10000000)(n:Nat):∀(k:Nat) (xs:List b9),I ws-k=n->I xs<=k+1->
  Rn PP NV 0 (ox xs (ws.drop k) (r.aj.drop k)) bd ([zu NV 8180,.blk 2,zt NV 1023]++[]) (cz 116 [(6,.ptr 0 0),(10,.ptr 1 0),(11,.arr 2 0 (I ws)),(14,.ptr 3 0),(15,di k)]) (ki r ws xs):=by
 induction n with
 |zero=>
  intro k xs hn hx
  refine zo [3,5] (.f .r) (yd k (I ws)/\bl [bt (Awm xs),di 0]=ox xs (W k ws) (W k r.aj)) ⟨yq,?_⟩
  rw[I3 (show I ws<=k by omega)]
  rfl
 |succ n ih=>
  intro k xs hn hx
  obtain⟨w,hw1⟩:=yk (show k<I ws by omega)
  obtain⟨g,hg1⟩:∃g,r.aj[k]?=G g:=⟨_,HK (show k<I r.aj by omega)⟩
  refine zo [3,5] (.t<|.m (di w)<|.x (vi g)<|.b .r (.m (.acc 1 (xs.map eV))<|.m (di w)<|.x (vi g)<|.lo [ke 6,ke 10,ke 11,ke 14,ch 15 (zw k)] (ki r ws (xs++[lf (w+g)])))) (ye k (I ws)/\y6 k/\y5 k (I ws)/\(cb ws)[0+Z (k:Int)*1]?=G (di w)/\y6 k/\zy (dt r.aj) k (vi g)/\yo/\(yc (yu yt (w+g)) 1048576->bl [bt nv,di 1]=ox xs (W k ws) (W k r.aj))/\(yb (yu yt (w+g)) 1048576->Q (G (br 1 (U eV xs)))/\y6 k/\y5 k (I ws)/\(cb ws)[0+Z (k:Int)*1]?=G (di w)/\y6 k/\zy (dt r.aj) k (vi g)/\Q (U eV xs)/\Ao (I (U eV xs)+I (aa (a8 yt (yu yt (w+g))::ae nV::nV)::nV)) 32/\(yj (True))/\zx k/\cp 4 [1] [G [di 0,dn],G (cR r),G (cb ws),G [di 0,br 1 (U eV xs++[aa [vi (yu yt (w+g)),ae []]])]]=J/\[G [di 0,dn],G (cR r),G (cb ws),G [di 0,br 1 (U eV xs++aa (vi (yu yt (w+g))::ae nV::nV)::nV)]]=[G [di 0,dn],G (cR r),G (cb ws),G [di 0,br 1 (U eV (xs++[lf (w+g)]))]]/\[(1,2,U eV xs++aa (vi (yu yt (w+g))::ae nV::nV)::nV)]=[(1,2,U eV (xs++[lf (w+g)]))]/\I0 NV 0 (ox xs (W k ws) (W k r.aj)) bd [zu NV 8180,bh 2,zt NV 1023] (cz 116 [kf,(10,bq 1 0),(11,bo 2 0 (I ws)),(14,bq 3 0),(15,zw k)]) (ki r ws (xs++[lf (w+g)])))) ?_
  have b1:=hb w (HQ hw1)
  have b2:=hb2 g (HQ hg1)
  have e1:yt.wrap (w+g)=w+g:=An
  have e2:(cb ws)[0+Z (k:Int)*1]?=G (di w):=by grind
  have e3:ws.drop k=w::ws.drop (k+1):=by grind[List.drop_eq_getElem_cons]
  have e4:r.aj.drop k=g::r.aj.drop (k+1):=by grind[List.drop_eq_getElem_cons]
  rw[e1,e3,e4]
  refine⟨yr,by omega,by omega,e2,by omega,Ae hg1,ym,fun h=>?_,fun h=>⟨rfl,by omega,by omega,e2,by omega,Ae hg1,rfl,⟨?_,?_⟩,⟨trivial,trivial,trivial,trivial⟩,Ac,?_,?_,?_,⟨?_⟩⟩⟩
  ·simp only[ox,UC,h,Jz];rfl
  ·grind
  ·grind
  ·simp[cp,D.okNs,D.okN,Ce]
  ·rw[←C4];rfl
  ·rw[←C4];rfl
  ·have:=ih (k+1) (xs++[lf (w+g)]) (by omega) (by grind)
   grind[UC]
def kv(r:cm)(s:Int)(ys:List Int):b9×Int:=if io r s ys=J then UC [lf r.to] (ou r ys) r.aj else(.mk 0 [],18)
theorem La(m:cx)(hm:m.ok):F0 84 [Af m] (di 0):=by
 exact sv Apa 12 [1] (.c (di 0)<|.k<|.f .r) (_/\(m.kind==6)=O/\Q (di 0)) ⟨Dc m hm,by rcases hm.kind with h|h|h<;>rw[h]<;>rfl,rfl⟩
noncomputable abbrev nu:=fun a₀=>F0 84 [Af a₀] (di 0)
noncomputable abbrev qv:=[bt (ae []),di 0]
theorem AnS(m:cx)(hm:m.ok)(hk:m.kind=1)(c:b9)(hcs:c.size<=1000000)(hv:Al (AM m) c=J):F0 123 [Af m,dV c] (.tup [dl [],di 0]):=by
 refine sv Aic 38 [2,3] (.c (di 0)<|.c (db J)<|.k<|.f<|.f<|.f .r) (nu m/\kp m c/\(m.kind==2)=O/\(m.kind==3)=O/\(m.kind==5)=O/\bl qv=bl [dl [],di 0]) ?_
 grind[D0,La]
def C7(p:b9×Int):List b9×Int:=if (p.2==18)=J then([],0) else if (p.2 !=0)=J then([],p.2) else([p.1],0)
abbrev dm(p:List b9×Int):D:=.tup [co p.1,di p.2]
theorem Aqd(m:cx)(hm:m.ok)(hk:m.kind=1)(c:b9)(hcs:c.size<=1000000)(hv:Al (AM m) c=J):F0 86 [Af m,di (-1),dV c] (dm ([],0)):=by
 refine sv v8 78 [3,5] (.c (di 0)<|.k<|.k<|.f<|.c (db J)<|.c (.tup [dl [],di 0]) .r) (nu m/\y7 (-1) (I (U Aj m.av))/\kp m c/\F0 123 [Af m,dV c] (bl [dl [],di 0])/\bl qv=dm ([],0)) ?_
 grind[D0,La,AnS]
theorem Aqe(m:cx)(hm:m.ok)(hk:m.kind=1)(i:Nat)(hi:i<I m.av)(c:b9)(hcs:c.size<=1000000)(hv:Al (AM m) c=J)(p:b9×Int)(hp:F0 126 [Af m,di i,dV c] (dP p)):
  F0 86 [Af m,di i,dV c] (dm (C7 p)):=by
 refine sv v8 78 [3,5] (.c (di 0)<|.k<|.f<|.f<|.c (db J)<|.k<|.f<|.f<|.f<|.c (dP p)<|.f<|.b .r (.b .r .r)) (nu m/\yd i (-1)/\y7 i (I (U Aj m.av))/\kp m c/\((i:Int)== -1)=O/\(m.kind==4)=O/\(m.kind==5)=O/\type_of% hp/\(m.kind !=1)=O/\((p.snd==18)=J->bl qv=dm (C7 p))/\((p.snd==18)=O->((p.snd !=0)=J->bl [bt (ae []),di p.snd]=dm (C7 p))/\((p.snd !=0)=O->bl [bt (ae [aa [vi p.fst.n,dq p.fst.az]]),di 0]=dm (C7 p)))) ?_
 grind[D0,La,C7,AE]
abbrev er:=Int×b9
abbrev eb(s:er):V:=.agg [vi s.1,vi s.2.n,dq s.2.az]
abbrev FA(l:List er):V:=.list (l.map eb)
noncomputable def CA:=yl G0
abbrev ZZ(l:List er):D:=.acc 1 (l.map eb)
abbrev FO(l:List er):St:=⟨[],[(1,3,l.map eb)]⟩
def DD(ap:Int->List b9×Int):Nat->Int->List er->List er×Int
 |0,_,acc=>if Y ((I acc:Int)>256)=J then([],1) else(acc,0)
 |n+1,i,acc=>if ((ap i).2 !=0)=J then([],(ap i).2) else DD ap n (i+1) (acc++(ap i).1.map fun v=>(i,v))
abbrev fv(p:List er×Int):D:=.tup [.v (FA p.1),di p.2]
theorem AiY(m:cx)(c:b9)(rl:Int)(hr1: -1<=rl)(hr2:rl<=1000)(l:List b9)(hl0:I l<=1000)(p:List er×Int)(fin:List er)(hf:I fin<=100000)
  (hout:Rn PP G0 0 (fv p) bd ([zu G0 500,.blk 0,zt G0 63]++[]) (cz 57 [(2,.v (.ref (Aq m))),(3,.v (.ref (Ad c))),(7,ZZ fin),(8,di (rl+1))]) (FO fin)) (n:Nat):∀(k:Nat) (xs:List er),I l-k=n->xs++(l.drop k).map (fun v=>(rl,v))=fin->
  Rn PP G0 0 (fv p) bd ([zu G0 128156,.blk 2,.blk 1,zt G0 2003,zu G0 500,.blk 0,zt G0 63]++[]) (cz 57 [(2,.v (.ref (Aq m))),(3,.v (.ref (Ad c))),(7,ZZ xs),(8,di rl),(9,co l),(11,di k)]) (FO xs):=by
 induction n with
 |zero=>
  intro k xs hn hx
  rw[I3 (by omega),Jo,IX] at hx
  subst hx
  exact zo [2,3] (.f<|.l [ke 2,ke 3,ke 7,ch 8 (di (rl+1))]) (yd k (I (U eV l))/\di (yu yt (rl+1))=di (rl+1)/\_) ⟨by grind,by grind[An],iK hout⟩
 |succ n ih=>
  intro k xs hn hx
  have hk:k<I l:=by omega
  have hv:l[k]?=G l[k]:=HK hk
  rw[HZ hk] at hx
  generalize l[k]=v at hv hx
  refine zo [2,3] (.t<|.x (Ad v)<|.w<|.ls [ke 2,ke 3,ch 7 (ZZ (xs++[(rl,v)])),ke 8,ke 9,ch 11 (zw k)] (FO (xs++[(rl,v)]))) (ye k (I (U eV l))/\y6 k/\zy (U eV l) k (Ad v)/\Q (U eb xs)/\Ao (I (U eb xs)+I (aa (a8 yt rl::vi v.n::dq v.az::nV)::nV)) 40/\(∀(y:V),y∈ [aa [vi rl,vi v.n,dq v.az]]->V.size y=3)/\br 1 (U eb xs++[aa [vi rl,vi v.n,dq v.az]])=ZZ (xs++[(rl,v)])/\zx k/\[(1,3,U eb xs++aa (vi rl::vi v.n::dq v.az::nV)::nV)]=[(1,3,U eb (xs++[(rl,v)]))]/\_) ⟨by rw[HJ];exact yr,by omega,Ap hv,rfl,⟨?_,?_⟩,by simp[V.size],?_,Ac,?_,iK (ih (k+1) (xs++[(rl,v)]) (by omega) (by rw[←hx];simp))⟩
  all_goals grind
noncomputable abbrev t7:=[1,1,1,1,0,1,0,0,1,1]
theorem PI(m:cx)(hm:I m.av<=12)(c:b9)(ap:Int->List b9×Int)(hl:∀i,(ap i).1.length<=1000)(hap:∀i:Int, -1<=i->i<I m.av->F0 86 [Af m,di i,dV c] (dm (ap i)))(n:Nat):∀(rl:Int) (xs:List er), -1<=rl->rl<=I m.av->(I m.av-rl).toNat=n->I xs<=(rl+1).toNat*1000->
  Rn PP G0 0 (fv (DD ap n rl xs)) bd ([zu G0 500,.blk 0,zt G0 63]++[]) (cz 57 [(2,.v (.ref (Aq m))),(3,.v (.ref (Ad c))),(7,ZZ xs),(8,di rl)]) (FO xs):=by
 induction n with
 |zero=>
  intro rl xs h1 h2 hn hx
  refine zo [2,3] (.f<|.b .r .r) (yd rl (I (U Aj m.av))/\(yc (I (U eb xs)) 256->bl [bt (ae []),di 1]=fv (DD ap 0 rl xs))/\(yb (I (U eb xs)) 256->bl [bt (ae (U eb xs)),di 0]=fv (DD ap 0 rl xs))) ?_
  grind[DD]
 |succ n ih=>
  intro rl xs h1 h2 hn hx
  have hp:=hap rl h1 (by omega)
  have hi:=ih (rl+1) (xs++(ap rl).1.map fun v=>(rl,v)) (by omega) (by omega) (by omega) (by have:=hl rl;simp only[HY,HJ];omega)
  have hll:=hl rl
  generalize ap rl=q at*
  refine zo [2,3] (.t<|.c (dm q)<|.b .r (.l [ke 2,ke 3,ke 7,ke 8,ke 9,ch 11 (di (0:Nat))])) (ye rl (I (U Aj m.av))/\_/\((q.snd !=0)=J->bl [bt (ae []),di q.snd]=fv (if (q.snd !=0)=J then([],q.snd) else DD ap n (rl+1) (xs++U (fun v=>(rl,v)) q.fst)))/\((q.snd !=0)=O->di 0=di (↑0:Int)/\I0 G0 0 (fv (if (q.snd !=0)=J then([],q.snd) else DD ap n (rl+1) (xs++U (fun v=>(rl,v)) q.fst))) bd [zu G0 128156,bh 2,bh 1,kc CA t7,kl CA iy,bh 0,zt G0 63] (cz 57 [(2,bt (g7 m)),(jq c),(7,br 1 (U eb xs)),(8,di rl),(9,co q.fst),(11,di (↑0:Int))]) (FO xs))) ⟨by rw[HJ];exact yr,hp,fun h=>?_,fun h=>⟨rfl,⟨?_⟩⟩⟩
  ·rw[I4 h];rfl
  ·rw[Iz (by rw[h];decide)]
   exact AiY m c rl h1 (by omega) q.1 hll _ _ (by simp only[HY,HJ];omega) hi _ 0 xs rfl (by simp)
noncomputable abbrev uu:=fun a₀ b₀=>[(2,bt (bz (Aq a₀))),(jq b₀),(7,br 1 []),(8,di (-1))]
noncomputable abbrev uy:=[ke 2,ke 3,ke 7,ch 8 (di (-1))]
theorem ZE(m:cx)(hm:m.ok)(c:b9)(hcs:c.size<=1000000)(hv:Al (AM m) c=J)(ap:Int->List b9×Int)(hl:∀i,(ap i).1.length<=1000)(hap:∀i:Int, -1<=i->i<I m.av->F0 86 [Af m,di i,dV c] (dm (ap i))):
  F0 41 [Af m,dV c] (fv (DD ap (I m.av+1) (-1) [])):=by
 have hsz:=hm.sz
 have h1:=D0 m hm c hcs
 rw[hv] at h1
 refine sv G0 57 [2,3] (.c (di 0)<|.c (db J)<|.h (.q 7 0)<|.h (.nw 7 1 3)<|.ls uy (FO [])) (_/\_/\Q (di (-1))/\Q [(1,3,nV)]/\I0 G0 (I bd.H) (fv (DD ap (I m.av+1) (-1) [])) bd [kl CA iy,bh 0,zt G0 63] (cz 57 (uu m c)) (FO [])) ⟨La m hm,h1,rfl,rfl,⟨?_⟩⟩
 exact PI m (by omega) c ap hl hap (I m.av+1) (-1) [] (by omega) (by omega) (by omega) (by simp)
theorem Ahm(s:List UInt8):Aa PP 5 [.v (j1 s)] bd (.ptr 0 0) (dz (s.take 200) 0):=by
 by_cases h:I s>200
 ·refine zq As2 11 (.t .ro) (yc (I (U vb s)) 200/\(∀(x:V),x∈U vb s->V.size x=1)/\y6 200/\(200:Int)<=(I (U vb s):Int)/\Q J/\[G [bt (ae (W 0 (take (Z ((200:Int))) (U vb s)))),di 0]]=[G (cn (take 200 s) 0)]/\Q (bq 0 0)) ?_
  have e:(s.take 200).map vb=W 0 (take (Z 200) (s.map vb)):=by rw[List.map_take];rfl
  refine⟨by rw[HJ];exact yr,by simp[V.size],by decide,by show(200:Int)<=_;rw[HJ];omega,rfl,?_,rfl⟩
  rw[cn,j1,e];rfl
 ·refine zq As2 11 (.f .ro) (yb (I (U vb s)) 200/\Q J/\[G [bt (j1 s),di 0]]=[G (cn (take 200 s) 0)]/\Q (bq 0 0)) ⟨by rw[HJ];exact yq,rfl,?_,rfl⟩
  rw[IB (by omega)];rfl
end Go.Proofs.YtgigepkgakpjbaaGreat
