/-
  A part of the proof.
-/
import Derived.Test.YthmjfmacdlhfjaaGreatZe
import Derived.Laws.StructEq
import Derived.ChangeKeysEq
import Derived.Test.YthmjfmacdlhfjaaGreatZd
namespace Go.Proofs.YthmjfmacdlhfjaaGreat
open Go.Dv Go.Nv
set_option maxRecDepth 20000
open List (all_cons all_nil ext_getElem? flatten flatten_nil length length_map length_set map range_succ replicate take zipWith)
open Go.IntKind (u64)
open Go.IntKind renaming wrap → yr, i64 → yq
open List renaming length → I, map → U, drop → W
open Option renaming some → G
open Bool renaming true → J, false → O
open Decidable renaming decide → Y
open Int renaming toNat → Z
open Go.Dv.V renaming list → ai, str → ae, agg → ab, int → aa, ref → bz, fn → bw, nils → bv, bool → bu
open Go.Dv.D renaming v → bt, acc → br, ptr → bq, arr → bo, gro → bm, tup → bl, undef → bk, dagg → bj
open Go.Dv.St renaming mk → bi
open Go.Dv.KI renaming blk → bh
open _root_.ByteArray renaming mk → bg
open Go renaming Operand → x5, Program → x4, TypeId → yz, World → yy, Value → yx, Oper → yw, FuncId → yv, Func → yu, IntKind → yt
def YD(P:x4)(t:yz):Bool:=match P.underlying t with
 |some (.int .i64)=>true
 |_=>false
theorem OI{P:x4}{t:yz}(h:YD P t=J):P.underlying t=G (.int .i64):=by
 unfold YD at h
 split at h
 ·assumption
 ·simp at h
def LA(P:x4)(t:yz):Bool:=match (P.fieldsOf t).toList with
 |[f,g,h]=>f.name !="_"&&g.name !="_"&&h.name !="_"&&f.offset==0&&g.offset==1&&h.offset==2&&P.plainKey f.type&&P.plainKey g.type&&P.plainKey h.type&&YD P f.type&&YD P g.type&&YD P h.type
 |_=>false
theorem Afi{P:x4}{t:yz}(h2:LA P t=J)(ht:P.underlying t=G (.struct (P.fieldsOf t)))(hp:P.stoodInHeld t=O)(d:Nat)(a b c:Int)(w:yy):
  (Op.equalIn (d+2) t (.agg #[.int .i64 a,.int .i64 b,.int .i64 c]) (.agg #[.int .i64 a,.int .i64 b,.int .i64 c])).run P w=.ok true w:=by
 rw[run_equalIn_struct w (d+1) t _ _ ht hp]
 unfold LA at h2
 split at h2
 ·rename_i f g h hfs
  rw[hfs]
  simp only[HR,bne_iff_ne,I4] at h2
  obtain⟨⟨⟨⟨⟨⟨⟨⟨⟨⟨⟨n1,n2⟩,n3⟩,o1⟩,o2⟩,o3⟩,p1⟩,p2⟩,p3⟩,u1⟩,u2⟩,u3⟩:=h2
  have e1:∀w,(part f.type #[.int .i64 a,.int .i64 b,.int .i64 c] f.offset).run P w=.ok (.int .i64 a) w:=fun w=>run_part_plain w p1 (by rw[o1];rfl)
  have e3:∀w,(part g.type #[.int .i64 a,.int .i64 b,.int .i64 c] g.offset).run P w=.ok (.int .i64 b) w:=fun w=>run_part_plain w p2 (by rw[o2];rfl)
  have e5:∀w,(part h.type #[.int .i64 a,.int .i64 b,.int .i64 c] h.offset).run P w=.ok (.int .i64 c) w:=fun w=>run_part_plain w p3 (by rw[o3];rfl)
  simp only[Op.eqFields,ne_eq,n1,n2,n3,not_false_eq_true,Jj,Sem.run_bind,e1,Result.andThen_ok,run_equalIn_int _ d _ .i64 .i64 _ _ (OI u1)]
  have u2':=fun w=>run_equalIn_int (P:=P) w d g.type .i64 .i64 b b (OI u2)
  have u3':=fun w=>run_equalIn_int (P:=P) w d h.type .i64 .i64 c c (OI u3)
  simp[Sem.run_ite,e3,u2',e5,u3']
 ·simp at h2
abbrev j6:yz:=80
theorem AaH:LA PP j6=J:=by kernel_rfl
theorem AjQ:PP.underlying j6=G (.struct (PP.fieldsOf j6)):=by kernel_rfl
theorem AeV:PP.stoodInHeld j6=O:=by kernel_rfl
theorem AaI:PP.eqGuardType PP.depth j6=O:=by kernel_rfl
theorem WQ:Sf PP j6 3:=by unfold Sf;kernel_rfl
theorem Ou{o:yw}{σ:St}{ty:yz}{x y:x5}(ho:o.op=.binOp .neq j6 x y ty)(a:Tk):Ay PP o [.v (ce a),.v (ce a)] σ (db O) σ:=by
 refine AA fun E g ρ w hw hds=>?_
 simp only[ho,Op.operands,A8] at hds
 obtain⟨u,v,e,h1,h2'⟩:=hds
 simp only[Iu,IP,Ie,I6] at e
 obtain⟨e1,e2⟩:=e
 simp only[Av,CF] at h1 h2'
 obtain⟨ws,h1,rfl⟩:=h1
 obtain⟨vs,h3,rfl⟩:=h2'
 have hw1:ws=[.int .i64 a.1,.int .i64 a.2,.int .i64 a.3]:=by
  simp only[repA,repC,Ie,I6] at h1
  obtain⟨u,us,rfl,_,rfl,u2,us2,rfl,_,rfl,u3,us3,rfl,_,rfl,rfl⟩:=h1;rfl
 have hw2:vs=[.int .i64 a.1,.int .i64 a.2,.int .i64 a.3]:=by
  simp only[repA,repC,Ie,I6] at h3
  obtain⟨u,us,rfl,_,rfl,u2,us2,rfl,_,rfl,u3,us3,rfl,_,rfl,rfl⟩:=h3;rfl
 subst hw1 hw2
 refine⟨.bool false,?_,by simp[Av]⟩
 have hr:=Afi AaH AjQ AeV 9998 a.1 a.2 a.3 w
 simp[execOp,ho,e1,e2,run_eqGuard_agg w .neq j6 x y _ _ AaI,run_neq_struct,hr]
theorem YV(a:Tk):F0 212 [.v (AT [a]),.v (AT [a])] (db J):=by
 exact sv sg 26 [] (.n<|.x (ce a)<|.x (ce a)<|.h (.p (.v (ce a)))<|.h (.p (db O))<|.n<|.r) (iz 0<=0/\Q (G (ce a))/\iz 0<=0/\Q (G (ce a))/\(∀(τ:St),Ay PP (Oper.mk (G 23) (Op.load 80 (Operand.tmp 22)) 80 "slices.go:25" #[Edge.mk 6 Ground.data] none) [bt (bz (ce a))] τ (bt (ce a)) τ)/\(∀(τ:St),Ay PP (Oper.mk (G 24) (Op.binOp BinOp.neq 80 (Operand.tmp 19) (Operand.tmp 23) 80) 4 "slices.go:25" #[Edge.mk 3 Ground.data,Edge.mk 7 Ground.data] none) [bt (ce a),bt (ce a)] τ (db O) τ)/\Q (db J)) ⟨by decide,rfl,by decide,rfl,fun τ=>JD rfl WQ,fun τ=>Ou rfl a,rfl⟩
theorem AcK(l:List Tk)(h:I l<=1):F0 212 [.v (AT l),.v (AT l)] (db J):=by
 match l,h with
 |[],_=>exact OM []
 |[a],_=>exact YV a
noncomputable abbrev vd:=Tryz.f206
theorem S1(l:List Int)(h:I l<=1):F0 206 [cy l] (db J):=by
 match l,h with
 |[],_=>
  refine sv vd 21 [] (.n<|.r) (Q (db J)) ?_
  rfl
 |[a],_=>
  refine sv vd 21 [] (.n<|.r) (Q (db J)) ?_
  rfl
noncomputable abbrev Am6:=Tryz.f207
theorem Uy(n:Nat)(hn:n<=1000000)(x:Int):F0 207 [di x,.v (.ref (vi n))] (db (A6 x 0 (n-1))):=by
 exact sv Am6 7 [] (.c (db (A6 x 0 (n-1))) .r) (_/\Q (db (A6 x 0 ((n:Int)-1)))) ⟨Ck x n hn,rfl⟩
noncomputable abbrev Am5:=Tryz.f209
theorem xj(m:ba)(hm:I m.ay<=1000000)(hag:0<=m.age/\m.age<=1000)(t:Tk)(h1:0<=t.place/\t.place<I m.ay)(h2:0<=t.low/\t.low<=t.high/\t.high<=m.age+1):F0 209 [.v (ce t),.v (.ref (vi (I m.ay))),.v (.ref (AE m))] (db O):=by
 refine sv Am5 30 [3] (.c (db J)<|.k<|.f<|.f<|.r) (F0 161 [di t.place,di (I m.ay:Int)] (db J)/\Y (t.low<0)=O/\Y (t.low>t.high)=O/\db (Y (t.high>yr yq (m.age+1)))=db O) ?_
 have h:=Ck t.place (I m.ay) hm
 rw[show A6 t.place 0 ((I m.ay:Int)-1)=J by simp[A6];omega] at h
 refine⟨h,yo,yo,?_⟩
 rw[A2,yo]
noncomputable abbrev td:=Tryz.f238
noncomputable abbrev xz:=Tryz.f208
theorem K1(F:yv)(cs:List V)(l:List Tk)(h:I l<=1)(hp:∀x∈l,F0 F ((([]:List V)++[ce x]++cs).map .v) (db O)):F0 208 [.v (AT l),.v (.fn F [] cs)] (db O):=by
 have hi:F0 238 [.v (AT l),.v (.fn F [] cs)] (di (-1)):=by
  match l,h with
  |[],_=>
   refine sv td 19 [] (.n<|.r) (Q (di (-1))) ?_
   rfl
  |[a],_=>
   exact sv td 19 [] (.n<|.x (ce a)<|.c (db O)<|.n<|.r) (iz 0<=0/\Q (G (ce a))/\F0 F (bt (ce a)::U bt ([]++cs)) (db O)/\Q (di (-1))) ⟨by decide,rfl,by simpa using hp a (by simp),rfl⟩
 exact sv xz 9 [] (.c (di (-1)) .r) (_/\db (Y (-1>=0))=db O) ⟨hi,rfl⟩
noncomputable abbrev vp:=Tryz.f166
theorem Ajr(m:ba)(hm:I m.ay<=1000000)(hag:0<=m.age/\m.age<=1000)(r:cq)(h1:I r.ar<=1)(h2:I r.aq<=1)(h3:∀t∈r.ar,(0<=t.place/\t.place<I m.ay)/\(0<=t.low/\t.low<=t.high/\t.high<=m.age+1))(h4:∀x∈r.aq,0<=x/\x<I m.ay):F0 166 [Ax m,AZ r] (db J):=by
 refine sv vp 37 [2,3] (.h (.q 2 0)<|.h (.f1 0 [5])<|.t<|.t<|.c (db J)<|.k<|.c (db J)<|.k<|.c (db O)<|.r) (Y ((I (U ce r.ar):Int)<=3)=J/\Y ((I (U vi r.aq):Int)<=3)=J/\_/\F0 167 [cy r.aq,bt (bw 207 [] [bz (vi (I (U ae m.ay):Int))])] (db J)/\F0 208 [bt (AT r.ar),bt (bw 209 [] [bz (vi (I (U ae m.ay):Int)),bz (AE m)])] (db O)/\Q (db J)) ⟨HS (by rw[HP];omega),HS (by rw[HP];omega),S1 _ h2,?_,?_,rfl⟩
 ·rw[HP]
  have h:=Fp 207 [] [.ref (vi (I m.ay))] (fun x=>A6 x 0 ((I m.ay:Int)-1)) r.aq (by omega) (fun x _=>Uy (I m.ay) hm x)
  rwa[show(r.aq.all fun x=>A6 x 0 ((I m.ay:Int)-1))=J from by
   rw[ID];intro x hx;have:=h4 x hx;simp[A6];omega] at h
 ·rw[HP]
  exact K1 _ _ r.ar h1 fun x hx=>xj m hm hag x (h3 x hx).1 (h3 x hx).2
theorem Abi(nm:List UInt8)(f t:Int)(tk:List Tk)(mk:List Int)(h1:I tk<=1)(h2:I mk<=1):F0 169 [AZ (d9 nm f t tk mk),AZ (d9 nm f t tk mk)] (db J):=by
 have e:∀l:List Int,I l<=1000000->F0 211 [.v (cz l),.v (cz l)] (db J):=fun l hl=>by simpa using Dr l l hl
 have n0:=e [] (by decide)
 exact sv qm 101 [2,3] (.t<|.t<|.t<|.c (db J)<|.k<|.c (db J)<|.k<|.c (db J)<|.k<|.k<|.k<|.k<|.c (db J)<|.k<|.c (db J)<|.k<|.c (db J)<|.k<|.c (db J)<|.k<|.r) (((d9 nm f t tk mk).name==(d9 nm f t tk mk).name)=J/\((d9 nm f t tk mk).aj==(d9 nm f t tk mk).aj)=J/\((d9 nm f t tk mk).to==(d9 nm f t tk mk).to)=J/\_/\_/\_/\_/\_/\_/\_/\db ((d9 nm f t tk mk).second==(d9 nm f t tk mk).second)=db J) ⟨by simp,by simp,by simp,n0,n0,n0,n0,n0,AcK tk h1,e mk (by omega),by simp⟩
theorem X1(m:ba)(hm:I m.ay<=1000000)(hst:I m.aw<=1000000)(hk:m.kind=5)(hag:0<=m.age/\m.age<=1000)(nm:List UInt8)(f t:Int)(tk:List Tk)(mk:List Int)(hf:0<=f/\f<I m.aw)(ht:0<=t/\t<I m.aw)(h1:I tk<=1)(h2:I mk<=1)(h3:∀t∈tk,(0<=t.place/\t.place<I m.ay)/\(0<=t.low/\t.low<=t.high/\t.high<=m.age+1))(h4:∀x∈mk,0<=x/\x<I m.ay):F0 109 [Ax m,AZ (d9 nm f t tk mk)] (db J):=by
 have hx:∀x:Int,0<=x->x<I m.aw->F0 161 [di x,di (I (m.aw.map ae):Int)] (db J):=fun x h0 h1=>by
  rw[HP]
  have h:=Ck x (I m.aw) hst
  rwa[show A6 x 0 ((I m.aw:Int)-1)=J by simp[A6];omega] at h
 exact sv Qx 142 [2,3] (.c (db J)<|.k<|.c (db J)<|.k<|.k<|.f<|.f<|.f<|.f<|.t<|.c (db J)<|.k<|.c (db J) .r) (_/\_/\(m.kind==1)=O/\(m.kind==2)=O/\(m.kind==3)=O/\(m.kind==4)=O/\(m.kind==5)=J/\_/\_/\Q (db J)) ⟨hx t ht.1 ht.2,hx f hf.1 hf.2,by rw[hk];rfl,by rw[hk];rfl,by rw[hk];rfl,by rw[hk];rfl,by rw[hk];rfl,Ajr m hm hag (d9 nm f t tk mk) h1 h2 h3 h4,Abi nm f t tk mk h1 h2,rfl⟩
def Cq(m:ba):bc:=.prod [.lab (I m.aw),.bag (.prod [.lab (I m.ay),.lab (m.age+2)])]
theorem L7(m:ba)(hk:m.kind=5)(hag:0<=m.age/\m.age<=1000):F0 53 [Ax m] (dT (Cq m)):=by
 exact sv F8 70 [1] (.c (dT (.lab (I m.aw)))<|.a 1<|.f<|.t<|.c (dT (.lab (I m.ay)))<|.c (dT (.lab (m.age+2)))<|.c (dT (.bag (.prod [.lab (I m.ay),.lab (m.age+2)])))<|.r) (F0 111 [di (I (U ae m.aw):Int)] (dT (bc.lab (I m.aw:Int)))/\(m.kind==4)=O/\(m.kind==5)=J/\F0 111 [di (I (U ae m.ay):Int)] (dT (bc.lab (I m.ay:Int)))/\F0 111 [di (yr yq (m.age+2))] (dT (bc.lab (m.age+2)))/\_/\Q (vT (bc.lab (I m.aw:Int))::nV)/\A9 2 64/\bt (ab [vi 3,vi 0,ai [],ai [vT (bc.lab (I m.aw:Int)),vT (bc.bag (bc.prod [bc.lab (I m.ay:Int),bc.lab (m.age+2)]))]])=dT (Cq m)) ⟨by rw[HP];exact CK _,by rw[hk];rfl,by rw[hk];rfl,by rw[HP];exact CK _,by rw[A2];exact CK _,Mb (.prod [.lab (I m.ay),.lab (m.age+2)]),rfl,⟨by decide,by decide⟩,rfl⟩
theorem wh(m:ba)(hst:1<=I m.aw/\m.aw.length<=16)(hpl:1<=I m.ay/\m.ay.length<=16)(hag:0<=m.age/\m.age<=3):B4 8 (Cq m)=J:=by
 simp only[Cq,B4,HV,HZ,all_cons,all_nil,Bool.and_true,HR,IJ,I7,Jt,Ia]
 omega
def gq(r:cq)(k:Nat):Int:=if r.move=[] then k else r.move.getD k 0
def jq(r:cq)(k:Nat)(x:Int)(ws:List Int):List Int:=if gq r k>=0 then ws.set (gq r k).toNat (ws.getD (gq r k).toNat 0+x) else ws
def fx(r:cq):Nat->List Int->List Int->List Int->List Int
 |k,y::ys,n::ns,ws=>fx r (k+1) ys ns (jq r k (y-n) ws)
 |_,_,_,ws=>ws
def me(r:cq)(ys:List Int):List Int:=fx r 0 ys r.am (replicate (I ys) 0)
theorem Yz(r:cq)(k:Nat)(ns ws:List Int):fx r k [] ns ws=ws:=by simp[fx]
theorem Yy(r:cq)(k:Nat)(x:Int)(ws:List Int):I (jq r k x ws)=I ws:=by
 unfold jq;split
 ·rw[length_set]
 ·rfl
theorem RG(r:cq):∀(ys ns:List Int) (k:Nat) (ws:List Int),I (fx r k ys ns ws)=I ws
 |[],_,_,_=>by simp[fx]
 |_::_,[],_,_=>by simp[fx]
 |y::ys,n::ns,k,ws=>by rw[fx,RG r ys ns,Yy]
def ni(r:cq)(N:Nat):Prop:=r.move=[]∨r.move.length=N/\∀t∈r.move, -1<=t/\t<N
theorem Aij{r:cq}{N k:Nat}(h:ni r N)(hk:k<N): -1<=gq r k/\gq r k<N:=by
 unfold gq
 rcases h with h|⟨h1,h2⟩
 ·rw[Io h];omega
 ·split
  ·omega
  ·rw[HY,HQ (by omega)]
   exact h2 _ (List.getElem_mem _)
def gp(r:cq)(s:Int)(ys:List Int):bd×Int:=if ic r s ys=J then ST [lf r.to] (me r ys) r.ak else(.mk 0 [],18)
structure f9(m:ba):Prop where
 ok:m.ok
 kind:m.kind=1
 start:C7 m m.start
structure rb(m:ba)(r:cq):Prop where
 aj:0<=r.aj/\r.aj<I m.aw
 to:0<=r.to/\r.to<I m.aw
 needL:I r.am=I m.ay
 giveL:I r.ak=I m.ay
 am:∀x∈r.am,0<=x/\x<=16
 ak:∀x∈r.ak,0<=x/\x<=16
 move:ni r (I m.ay)
theorem f9.rule{m:ba}(h:f9 m){r:cq}(hr:r∈m.av):rb m r:=by
 have h1:=h.ok.right r hr
 rw[Da,Io h.kind] at h1
 simp only[Ec,BY,Dc,HR,Bool.or_eq_true,ID,I4] at h1
 obtain⟨h2,h3,⟨h4,h5,h6,h7⟩,h8,_⟩:=h1
 have h2:=Ci h2
 have h3:=Ci h3
 refine⟨⟨h3.1,by omega⟩,⟨h2.1,by omega⟩,by omega,by omega,fun x hx=>Ci (h6 x hx),fun x hx=>Ci (h7 x hx),?_⟩
 rcases h8 with h8|⟨h8,h9⟩
 ·exact .inl (List.length_eq_zero_iff.1 (by omega))
 ·exact .inr ⟨by omega,fun t ht=>by have:=Ci (h9 t ht);omega⟩
theorem f9.ay{m:ba}(h:f9 m):1<=I m.ay/\m.ay.length<=6/\1<=I m.aw/\m.aw.length<=8/\m.av.length<=12:=by
 obtain⟨h1,h2,h3,h4,h5,_⟩:=h.ok.sz
 omega
theorem C7.sizeM{m:ba}(hm:f9 m){c:bd}(h:C7 m c):c.size<=8:=by
 rw[h.eq,G6,h.len]
 have:=hm.ay;omega
theorem C7.validM{m:ba}(hm:f9 m){c:bd}(h:C7 m c):Aw (AJ m) c=J:=by
 rw[h.eq]
 exact JM m hm.kind (by have:=hm.ay;omega) _ h.st _ h.len h.nm
theorem AfA(r:cq)(k:Nat)(x:Int)(ws gs:List Int)(h:I ws=I gs):jq r k x (zipWith (fun w g=>w+g) ws gs)=zipWith (fun w g=>w+g) (jq r k x ws) gs:=by
 unfold jq
 split
 ·generalize (gq r k).toNat=i
  apply ext_getElem?
  intro j
  rw[List.getElem?_set,List.length_zipWith,List.getElem?_zipWith,List.getElem?_zipWith,List.getElem?_set]
  by_cases hij:i=j
  ·subst hij
   rw[Io rfl,Io rfl,HY,HY,List.getElem?_zipWith]
   by_cases hi:i<I ws
   ·rw[Io (by omega),Io hi,HQ hi,HQ (show i<I gs by omega)]
    simp only[Jy]
    congr 1;omega
   ·rw[Ij (by omega),Ij hi]
  ·rw[Ij hij,Ij hij]
 ·rfl
theorem Y0(r:cq)(gs:List Int):∀(ys ns:List Int) (k:Nat) (ws:List Int),I ws=I gs->fx r k ys ns (zipWith (fun w g=>w+g) ws gs)=zipWith (fun w g=>w+g) (fx r k ys ns ws) gs
 |[],_,_,_,_=>by simp[fx]
 |_::_,[],_,_,_=>by simp[fx]
 |y::ys,n::ns,k,ws,h=>by
  rw[fx,fx,AfA r k _ ws gs h,Y0 r gs ys ns (k+1) _ (by rw[Yy];exact h)]
theorem Sg:∀gs:List Int,zipWith (fun w g=>w+g) (replicate (I gs) 0) gs=gs
 |[]=>rfl
 |g::gs=>by simp[IL,Sg gs]
def i5(r:cq)(ys:List Int):List Int:=zipWith (fun w g=>w+g) (me r ys) r.ak
theorem Agv(r:cq)(ys:List Int)(h:I r.ak=I ys):fx r 0 ys r.am r.ak=i5 r ys:=by
 rw[i5,me, ←Y0 r r.ak ys r.am 0 _ (by rw[List.length_replicate,h]), ←h,Sg]
theorem VN(m:ba)(hm:f9 m)(i:Nat)(hi:i<I m.av)(c:bd)(hc:C7 m c):F0 83 [Ax m,di i,dV c] (di 0):=by
 have hsz:=hc.sizeM hm
 have h1:=Qj m hm.ok c (by omega)
 rw[hc.validM hm] at h1
 exact sv AkL 32 [3,5] (.c (di 0)<|.k<|.f<|.f<|.f<|.c (db J) .r) (_/\(m.kind !=1)=O/\Y ((i:Int)<0)=O/\Y ((i:Int)>=(I (U AD m.av):Int))=O/\_/\Q (di 0)) ⟨HL m hm.ok,by rw[hm.kind];rfl,yo,by rw[HP];exact yo,h1,rfl⟩
theorem Yx(r:cq)(i N:Nat)(h:ni r N)(hi:i<N):F0 86 [AZ r,di i] (di (gq r i)):=by
 by_cases hr:r.move=[]
 ·exact sv vf 15 [2] (.t .r) (((I (U vi r.move):Int)==0)=J/\di (i:Int)=di (gq r i)) ⟨by rw[hr];rfl,by rw[gq,Io hr]⟩
 ·have hl:=(h.resolve_left hr).1
  have hti:r.move[i]?=G (gq r i):=by rw[gq,Ij hr,HY,HQ (show i<I r.move by omega)];rfl
  generalize gq r i=t at*
  exact sv vf 15 [2] (.f<|.x (vi t) .r) (((I (U vi r.move):Int)==0)=O/\0<=(i:Int)/\(U vi r.move)[Z (i:Int)]?=G (vi t)/\Q (di t)) ⟨I7.2 (by rw[HP];omega),by omega,A3 hti,rfl⟩
theorem Agq(r:cq)(ys:List Int)(hl:I r.am=I ys)(hy:I ys<=6)(by1:∀y∈ys,0<=y/\y<=1048576)(bn:∀y∈r.am,0<=y/\y<=16)(N:Nat)(hN:N=I ys)(hm:ni r N)(n:Nat):∀(k:Nat) (ws:List Int),N-k=n->k<=N->I ws=N->(∀w∈ws, -(1048576*(k:Int))<=w/\w<=1048576*(k:Int)+16)->
  Rn PP jc 0 (dP (UY [lf r.to] (fx r k (ys.drop k) (r.am.drop k) ws))) bf ([kl Us [1,1,1,1,1,0,1,0,0],.blk 0,kc Us [1,1,1,1,1,1]]++[]) (b9 90 [(6,.ptr 0 0),(9,.ptr 1 0),(10,.arr 2 0 N),(40,cx (ys.map lf)),(41,di (I ys)),(42,di k)]) (ik r ws):=by
 induction n with
 |zero=>
  intro k ws hn hkN hx hb
  refine lv 90 [3,5] (.f<|.a 1<|.h .g<|.lo [ke 6,ke 14,ch 72 (.arr 2 0 N),ch 73 (di N),ch 74 (di (0:Nat))] (m5 r ws [lf r.to])) (Y ((k:Int)<(I ys:Int))=O/\Q (bo 2 0 N)/\Q (di (N:Int))/\di 0=di (↑0:Int)/\cp 4 [1] [G [di 0,dn],G (cR r),G (cb ws),G [di 0,br 1 [ab [vi r.to,ai []]]]]=J/\[G [di 0,dn],G (cR r),G (cb ws),G [di 0,br 1 (ab (vi r.to::ai nV::nV)::nV)]]=[G [di 0,dn],G (cR r),G (cb ws),G [di 0,br 1 (eV (lf r.to)::nV)]]/\[(1,2,ab (vi r.to::ai nV::nV)::nV)]=[(1,2,eV (lf r.to)::nV)]/\I0 jc 0 (dP (UY [lf r.to] (fx r k (W k ys) (W k r.am) ws))) bf [kl Us [1,1,1,1,1,1,1,0,1,0,0],bh 2,kc Us [1,1,1,1,1,1,1,1]] (b9 90 [(6,bq 0 0),(14,bq 3 0),(72,bo 2 0 N),(73,di (N:Int)),(74,di (↑0:Int))]) (m5 r ws [lf r.to])) ?_
  rw[Im (show I ys<=k by omega),Yz]
  refine⟨yo,rfl,rfl,rfl,by simp[cp,D.okNs,D.okN,F6],rfl,rfl,⟨?_⟩⟩
  have:=Ajk r ws (by omega) _ 0 [lf r.to] rfl (by simp)
  rw[hx] at this
  exact this
 |succ n ih=>
  intro k ws hn hkN hx hb
  have hk:k<N:=by omega
  have okS:∀l:List Int,cp 3 [] [G [di 0,.v .nils],G (cR r),G (cb l)]=J:=fun l=>by simp[cp,D.okNs,D.okN,F6]
  obtain⟨y,hy1⟩:=@yi _ ys k (by omega)
  obtain⟨x,hn1⟩:∃x,r.am[k]?=G x:=⟨_,HQ (by omega)⟩
  have e3:ys.drop k=y::ys.drop (k+1):=by rw[Ih (by omega)];congr 1;rw[HQ (by omega)] at hy1;simpa using hy1
  have e4:r.am.drop k=x::r.am.drop (k+1):=by rw[Ih (by omega)];congr 1;rw[HQ (by omega)] at hn1;simpa using hn1
  have b1:=by1 _ (HW hy1)
  have b2:=bn _ (HW hn1)
  have ht:=Aij hm hk
  have hmd:=Yx r k N hm hk
  have hyv:((ys.map lf).map eV)[Z (k:Int)]?=G (Au (lf y)):=A1 (by rw[I9,hy1];rfl)
  rw[e3,e4,fx,jq]
  generalize gq r k=t at*
  by_cases h0:t>=0
  ·rw[Io h0]
   obtain⟨w,hw⟩:∃w,ws[t.toNat]?=G w:=⟨_,HQ (by omega)⟩
   rw[show ws.getD t.toNat 0=w by rw[HY,hw];rfl]
   refine lv 90 [3,5] (.t<|.h (.xs (Au (lf y)))<|.c (di t)<|.t<|.m (di w)<|.x (vi x)<|.w<|.lo [ke 6,ke 9,ke 10,ke 40,ke 41,ch 42 (di (k+1:Nat))] (ik r (ws.set t.toNat (w+(y-x))))) (Y ((k:Int)<(I ys:Int))=J/\Q 2/\0<=(k:Int)/\(U eV (U lf ys))[Z (k:Int)]?=G (Au (lf y))/\F0 86 [AZ r,di (k:Int)] (di t)/\Y (t>=0)=J/\0<=t/\t<(N:Int)/\(cb ws)[0+Z t*1]?=G (di w)/\0<=(k:Int)/\(U vi r.am)[Z (k:Int)]?=G (vi x)/\0<=t/\t<(N:Int)/\0+Z t*1<I (cb ws)/\(yh (True))/\di (yr yq ((k:Int)+1))=di (↑(k+1):Int)/\cp 3 [] [G [di 0,dn],G (cR r),G (List.set (cb ws) (0+Z t*1) (di (yr yq (w+yr yq (bd.n (lf y)-x)))))]=J/\[G [di 0,dn],G (cR r),G (List.set (cb ws) (0+Z t*1) (di (yr yq (w+yr yq (bd.n (lf y)-x)))))]=[G [di 0,dn],G (cR r),G (cb (List.set ws (Z t) (w+(y-x))))]/\I0 jc 0 (dP (UY [lf r.to] (fx r (k+1) (W (k+1) ys) (W (k+1) r.am) (List.set ws (Z t) (w+(y-x)))))) bf [kl Us [1,1,1,1,1,0,1,0,0],bh 0,kc Us [1,1,1,1,1,1]] (b9 90 [(6,bq 0 0),(9,bq 1 0),(10,bo 2 0 N),(40,bt (cc (U lf ys))),(41,di (I ys:Int)),(42,di (↑(k+1):Int))]) (ik r (List.set ws (Z t) (w+(y-x))))) ?_
   have hwb:=hb w (HW hw)
   have ew:yq.wrap (w+yq.wrap (bd.n (lf y)-x))=w+(y-x):=by
    rw[show bd.n (lf y)=y from rfl,A2 (n:=y-x),A2]
   have es:List.set (cb ws) (0+Z t*1) (di (w+(y-x)))=cb (ws.set t.toNat (w+(y-x))):=by simp[cb,List.map_set]
   have hi:=ih (k+1) (ws.set t.toNat (w+(y-x))) (by omega) (by omega) (by rw[length_set];exact hx) (fun v hv=>by
    rcases IX hv with hv|hv
    ·have:=hb v hv;omega
    ·rw[hv];omega)
   rw[ew,es]
   exact⟨yp,rfl,by omega,hyv,hmd,yp,by omega,by omega,by simp[cb,hw],by omega,A3 hn1,by omega,by omega,by simp[cb];omega,⟨trivial,trivial,trivial,trivial⟩,As,okS _,rfl,⟨hi⟩⟩
  ·rw[Ij h0]
   exact lv 90 [3,5] (.t<|.h (.xs (Au (lf y)))<|.c (di t)<|.f<|.lo [ke 6,ke 9,ke 10,ke 40,ke 41,ch 42 (di (k+1:Nat))] (ik r ws)) (Y ((k:Int)<(I ys:Int))=J/\Q 2/\0<=(k:Int)/\_/\_/\Y (t>=0)=O/\di (yr yq ((k:Int)+1))=di (↑(k+1):Int)/\cp 3 [] [G [di 0,dn],G (cR r),G (cb ws)]=J/\Q (ik r ws).H/\_) ⟨yp,rfl,by omega,hyv,hmd,yo,As,okS _,rfl,iK (ih (k+1) ws (by omega) (by omega) hx (fun w hw=>by have:=hb w hw;omega))⟩
theorem Z3(m:ba)(hm:f9 m)(i:Nat)(r:cq)(hi:m.av[i]?=G r)(c:bd)(hc:C7 m c):F0 48 [Ax m,di i,dV c] (dP (gp r (ez c) (df c))):=by
 have hr:=hm.rule (HW hi)
 have hp:=hm.ay
 have hil:=(HT.1 hi).1
 have hck:=VN m hm i hil c hc
 have hcc:=hc.isC
 have hyl:=hc.len
 have hnm:=hc.nm
 have he:=Adq r c _ _ hcc (by rw[hr.needL,hc.len]) (by omega)
 generalize ez c=s at*
 generalize df c=ys at*
 cases hb:ic r s ys with
 |false=>
  rw[hb] at he
  exact sv jc 90 [3,5] (.c (di 0)<|.x (AD r)<|.c (db O) .r) (_/\0<=(i:Int)/\(U AD m.av)[Z (i:Int)]?=G (AD r)/\_/\bl [bt (ab [vi 0,ai []]),di 18]=dP (gp r s ys)) ⟨hck,by omega,A3 hi,he,by rw[gp,hb];rfl⟩
 |true=>
  rw[hb] at he
  obtain⟨N,hN⟩:∃N,N=I ys:=⟨_,rfl⟩
  have hN0:r.ak≠ []:=by intro h;have:=hr.giveL;rw[h] at this;simp at this;omega
  have hgl:I r.ak=N:=by rw[hr.giveL];omega
  have hd:=Qo hcc
  have hlen:I c.az=I ys+1:=hcc.len
  refine sv jc 90 [3,5] (.c (di 0)<|.x (AD r)<|.c (db J)<|.h (.q 7 2)<|.h (.oc (.arr 2 0 N) (ik r r.ak))<|.lo [ke 6,ke 9,ke 10,ch 40 (cx (ys.map lf)),ch 41 (di (I ys)),ch 42 (di (0:Nat))] (ik r r.ak)) (_/\0<=(i:Int)/\(U AD m.av)[Z (i:Int)]?=G (AD r)/\_/\(∀(o:yw) (c:Call) (fo:x5),o.op=Op.call c->c.callee=Callee.value fo->Ay PP o [bt (bw 85 [] []),cy r.ak] (bi [G [di 0,dn],G [bt (ae r.name),di r.aj,di r.to,cy r.am,cy r.ak,cy r.move,di r.chan,di r.act,di r.letter,cy r.path,cy r.next,bt (AT r.ar),cy r.aq,di r.second]] []) (bo 2 0 N) (ik r r.ak))/\(∀(x:V),x∈U eV c.az->V.size x=2)/\0<=(1:Int)/\(1:Int)<=(I (U eV c.az):Int)/\bt (ai (W (Z ((1:Int))) (take (I (U eV c.az)) (U eV c.az))))=cx (U lf ys)/\di (I (W (Z ((1:Int))) (take (I (U eV c.az)) (U eV c.az))):Int)=di (I ys:Int)/\Q (di 0)/\cp 3 [] [G [di 0,dn],G (cR r),G (cb r.ak)]=J/\Q (ik r r.ak).H/\I0 jc (I bf.H) (dP (gp r s ys)) bf [kl Us [1,1,1,1,1,0,1,0,0],bh 0,kc Us [1,1,1,1,1,1]] (b9 90 [(6,bq 0 0),(9,bq 1 0),(10,bo 2 0 N),(40,cx (U lf ys)),(41,di (I ys:Int)),(42,di (↑0:Int))]) (ik r r.ak)) ⟨hck,by omega,A3 hi,he,fun o c' fo ho hc'=>?_,?_,by omega,?_,?_,?_,rfl,by simp[cp,D.okNs,D.okN,F6],rfl,⟨?_⟩⟩
  ·exact JE (σ:=⟨[G [di 0,.v .nils],G (cR r)],[]⟩) (fs:=[]) (cs:=[]) (ds:=[cy r.ak]) ho hc' rfl (Hc:=[none,G (cb r.ak)]) (j:=1) rfl (Kr _) (by rw[←hgl];exact VF r.ak (by omega) hN0)
  ·intro x hx;obtain⟨v,_,rfl⟩:=IA.1 hx;rw[AR];rfl
  ·rw[HP];omega
  ·exact Iq (fun l=>bt (.list l)) hd
  ·have:=Iq (fun l:List V=>di (I l:Int)) hd
   simpa using this
  ·have h1:=Agq r ys (by rw[hr.needL];omega) (by omega) hnm hr.am N hN (by rw[hN,hyl];exact hr.move) _ 0 r.ak rfl (by omega) hgl (fun w hw=>by have:=hr.ak w hw;omega)
   rw[J1,J1,Agv r ys (by omega),i5,XN _ _ _ (by rw[me,RG,List.length_replicate];omega)] at h1
   rw[gp,Io hb]
   exact h1
theorem Aik{r:cq}{k:Nat}{x:Int}(hx:0<=x){ws:List Int}(h:∀w∈ws,0<=w):∀w∈jq r k x ws,0<=w:=by
 intro w hw
 unfold jq at hw
 split at hw
 ·rcases IX hw with hw|hw
  ·exact h w hw
  ·rw[hw,HY]
   cases hi:ws[(gq r k).toNat]? with
   |none=>simpa using hx
   |some v=>have:=h v (HW hi);simp only[Jy];omega
 ·exact h w hw
theorem xe(r:cq):∀(ys ns:List Int) (k:Nat) (ws:List Int),Gu ns ys=J->(∀w∈ws,0<=w)->∀w∈fx r k ys ns ws,0<=w
 |[],ns,k,ws,_,h=>by rw[Yz];exact h
 |y::ys,[],k,ws,_,h=>by simpa[fx] using h
 |y::ys,n::ns,k,ws,hn,h=>by
  simp only[Gu,HR,IJ,Jt] at hn
  rw[fx]
  exact xe r ys ns (k+1) _ hn.2 (Aik (by omega) h)
theorem AdB{m:ba}{r:cq}(hr:rb m r){ys:List Int}(hy:I ys=I m.ay):I (i5 r ys)=I m.ay:=by
 have h2:=hr.giveL
 simp only[i5,me,List.length_zipWith,RG,List.length_replicate];omega
theorem Ajo{m:ba}{r:cq}(hr:rb m r){c:bd}(hc:C7 m c):
  ((gp r (ez c) (df c)).2=0/\ez c=r.aj/\(gp r (ez c) (df c)).1=EP r.to (i5 r (df c))/\C7 m (EP r.to (i5 r (df c))))∨(gp r (ez c) (df c)).2=1∨(gp r (ez c) (df c)).2=18:=by
 unfold gp
 split
 ·rename_i he
  simp only[ic,HR,I4] at he
  rcases R5 (me r (df c)) r.ak [lf r.to] with⟨h1,h2,h3⟩|h1
  ·refine .inl ⟨h1,he.1,by rw[h2];rfl,tq m _ hr.to _ (AdB hr hc.len) fun z hz=>⟨?_,h3 z hz⟩⟩
   obtain⟨i,hi⟩:=List.getElem?_of_mem hz
   rw[i5,List.getElem?_zipWith] at hi
   split at hi
   ·rename_i w g hw hg
    cases hi
    have b1:=xe r (df c) r.am 0 (replicate (I (df c)) 0) he.2 (fun w hw=>by rw[(List.mem_replicate.1 hw).2];exact Iv 0) w (HW hw)
    have b2:=(hr.ak g (HW hg)).1
    omega
   ·cases hi
  ·exact .inr (.inl (by rw[h1]))
 ·exact .inr (.inr rfl)
def ia(m:ba)(c:bd)(i:Int):List bd×Int:=if i<0 then([],0) else match m.av[i.toNat]? with
 |some r=>Cx (gp r (ez c) (df c))
 |none=>([],0)
structure Alm(m:ba)(c:bd)(s:da):Prop where
 rule:∃(i:Nat) (r:cq),s.1=i/\m.av[i]?=G r/\ez c=r.aj/\s.2=EP r.to (i5 r (df c))/\gp r (ez c) (df c)=(s.2,0)
 ok:C7 m s.2
theorem Uv{m:ba}(hm:f9 m){c:bd}(hc:C7 m c)(i:Int):((ia m c i).2=0∨(ia m c i).2=1)/\(ia m c i).1.length<=1/\∀v∈ (ia m c i).1,Alm m c (i,v):=by
 unfold ia
 split
 ·exact⟨.inl rfl,by simp,by simp⟩
 ·rename_i h0
  split
  ·rename_i r hi
   have hr:=hm.rule (HW hi)
   rcases Ajo hr hc with⟨h1,h2,h3,h4⟩|h1|h1
   ·have:Cx (gp r (ez c) (df c))=([EP r.to (i5 r (df c))],0):=by
     rw[Cx,Ij (by rw[h1];decide),Ij (by rw[h1];decide),h3]
    rw[this]
    refine⟨.inl rfl,by simp,fun v hv=>?_⟩
    rw[Ii.1 hv]
    exact⟨⟨i.toNat,r,by show i=_;omega,hi,h2,rfl,by rw[←h3, ←h1]⟩,h4⟩
   ·have:Cx (gp r (ez c) (df c))=([],1):=by rw[Cx,Ij (by rw[h1];decide),Io (by rw[h1];decide),h1]
    rw[this];exact⟨.inr rfl,by simp,by simp⟩
   ·have:Cx (gp r (ez c) (df c))=([],0):=by rw[Cx,Io (by rw[h1];decide)]
    rw[this];exact⟨.inl rfl,by simp,by simp⟩
  ·exact⟨.inl rfl,by simp,by simp⟩
theorem PB(m:ba)(hm:f9 m)(c:bd):F0 34 [Ax m,dV c] (cx []):=by
 exact sv ow 31 [2,3] (.f<|.f<|.f .r) ((m.kind==2)=O/\(m.kind==3)=O/\(m.kind==5)=O/\Q (cx [])) ⟨by rw[hm.kind];rfl,by rw[hm.kind];rfl,by rw[hm.kind];rfl,rfl⟩
theorem Ajm(m:ba)(hm:f9 m)(c:bd):F0 27 [Ax m,di (-1),dV c] (dm ([],0)):=by
 exact sv mj 56 [3,5] (.c (cx []) .r) (_/\bl [bt (cc []),di 0]=dm ([],0)) ⟨PB m hm c,rfl⟩
theorem Ajl(m:ba)(hm:f9 m)(i:Nat)(c:bd)(p:bd×Int)(hp:F0 48 [Ax m,di i,dV c] (dP p)):F0 27 [Ax m,di i,dV c] (dm (Cx p)):=by
 exact sv mj 56 [3,5] (.f<|.t<|.c (dP p)<|.c (dm (Cx p)) .r) (((i:Int)== -1)=O/\(m.kind==1)=J/\_/\_/\bl [bt (cc (Cx p).fst),di (Cx p).snd]=dm (Cx p)) ⟨I7.2 (by omega),by rw[hm.kind];rfl,hp,PA p,rfl⟩
theorem Z7(m:ba)(hm:f9 m)(c:bd)(hc:C7 m c)(i:Int)(h1: -1<=i)(h2:i<I m.av):F0 27 [Ax m,di i,dV c] (dm (ia m c i)):=by
 by_cases h0:i<0
 ·have:i= -1:=by omega
  subst this
  exact Ajm m hm c
 ·obtain⟨k,rfl⟩:∃k:Nat,i=k:=⟨i.toNat,by omega⟩
  have hr:m.av[k]?=G m.av[k]:=HQ (show k<I m.av by omega)
  rw[ia,Ij h0,show((k:Nat):Int).toNat=k by omega,hr]
  exact Ajl m hm k c _ (Z3 m hm k _ hr c hc)
def nz(nm:List UInt8)(f t:Int)(nd gv mv:List Int):cq:=⟨nm,f,t,nd,gv,mv,0,0,0,[],[],[],[],0⟩
structure ZU(ns np:Nat)(k:Nat)(r:cq):Prop where
 name:pr[k]?=G r.name
 aj:0<=r.aj/\r.aj<ns
 to:0<=r.to/\r.to<ns
 am:I r.am=np/\∀x∈r.am,0<=x/\x<=2
 ak:I r.ak=np/\∀x∈r.ak,0<=x/\x<=2
 move:ni r np
 rest:r=nz r.name r.aj r.to r.am r.ak r.move
structure wx(m:ba):Prop where
 kind:m.kind=1
 aw:m.aw=[[97]]∨m.aw=[[97],[98]]
 ay:m.ay=[[120]]∨m.ay=[[120],[121]]
 ax:m.ax=[]
 au:m.au=[]
 ao:m.ao=0
 age:m.age=0
 count:I m.av<=3
 pos:1<=I m.av
 av:∀k r,m.av[k]?=G r->ZU (I m.aw) (I m.ay) k r
 start:∃ys:List Int,I ys=I m.ay/\(∀x∈ys,0<=x/\x<=3)/\m.start=EP 0 ys
theorem ZU.short{ns np k:Nat}{r:cq}(h:ZU ns np k r)(hnp:np<=2):r.short:=by
 have h1:=h.am.1
 have h2:=h.ak.1
 have h3:I r.move<=2:=by
  rcases h.move with e|e
  ·rw[e];decide
  ·rw[e.1];exact hnp
 rw[h.rest]
 exact⟨by show I r.am<=_;omega,by show I r.ak<=_;omega,by show I r.move<=_;omega,I3 _,I3 _,I3 _,I3 _⟩
theorem Acc{rs:List cq}(h3:I rs<=3){ns np:Nat}(h:∀k r,rs[k]?=G r->ZU ns np k r):rs.map cq.name=pr.take (I rs):=by
 apply ext_getElem?
 intro i
 by_cases hi:i<I rs
 ·have hx:rs[i]?=G rs[i]:=HQ hi
  rw[I9,hx,List.getElem?_take_of_lt hi,(h i _ hx).name];rfl
 ·rw[IF (by simp;omega),IF (by simp;omega)]
theorem wx.ok{m:ba}(h:wx m):m.ok:=by
 have hst:1<=I m.aw/\m.aw.length<=2:=by rcases h.aw with e|e<;>rw[e]<;>decide
 have hpl:1<=I m.ay/\m.ay.length<=2:=by rcases h.ay with e|e<;>rw[e]<;>decide
 have hb:∀{x a b:Int},a<=x->x<=b->A6 x a b=J:=fun h1 h2=>by simp[A6,h1,h2]
 have hget:∀r∈m.av,ZU (I m.aw) (I m.ay) (m.av.idxOf r) r:=fun r hr=>by
  have hi:=List.idxOf_lt_length_of_mem hr
  exact h.av _ r (by rw[HQ hi,List.getElem_idxOf])
 have hc:=h.count
 refine⟨.inl h.kind,?_,?_,?_,?_,?_,?_,?_⟩
 ·simp only[C3,HC,Io h.kind,HR,Ia,h.ax,h.ao,h.age]
  exact⟨hb (by omega) (by omega),by omega,hb (by omega) (by omega),by decide,by decide,by decide⟩
 ·rw[BJ,Io (by rw[h.kind];rfl),h.au];rfl
 ·have hn:=Acc h.count h.av
  rw[Db,Dq,hn,BR,h.ax]
  have:I m.av=0∨m.av.length=1∨m.av.length=2∨m.av.length=3:=by omega
  rcases h.aw with e|e<;>rcases h.ay with e'|e'<;>rcases this with e2|e2|e2|e2<;>rw[e,e',e2]<;>decide
 ·intro r hr
  have hm:=hget r hr
  exact hm.short (by omega)
 ·intro r hr
  have hm:=hget r hr
  obtain⟨f1,f2⟩:=hm.aj
  obtain⟨t1,t2⟩:=hm.to
  obtain⟨n1,n2⟩:=hm.am
  obtain⟨g1,g2⟩:=hm.ak
  have hmv:r.move=[]∨r.move.length=I m.ay/\∀t∈r.move, -1<=t/\t<I m.ay:=hm.move
  have hr:=hm.rest
  generalize r.name=nm at hr
  generalize r.aj=f at*
  generalize r.to=t at*
  generalize r.am=nd at*
  generalize r.ak=gv at*
  generalize r.move=mv at*
  subst hr
  rw[Da,Io h.kind]
  simp only[Ec,BY,BU,Ow,nz,HR,ID,I4,Ia,I6,true_and,HZ]
  refine⟨hb (by omega) (by omega),hb (by omega) (by omega),⟨by omega,by omega,fun x hx=>hb (n2 x hx).1 (by have:=(n2 x hx).2;omega),fun x hx=>hb (g2 x hx).1 (by have:=(g2 x hx).2;omega)⟩,?_⟩
  have hmb:Dc m (nz nm f t nd gv mv)=J:=by
   rcases hmv with e|⟨e1,e2⟩
   ·simp[Dc,nz,e]
   ·simp only[Dc,nz,Bool.or_eq_true,HR,ID,I4]
    exact .inr ⟨by omega,fun x hx=>hb (e2 x hx).1 (by have:=(e2 x hx).2;omega)⟩
  exact hmb
 ·obtain⟨ys,y1,y2,y3⟩:=h.start
  rw[y3]
  exact JM m h.kind (by omega) 0 ⟨by omega,by omega⟩ ys y1 fun x hx=>by have:=y2 x hx;omega
 ·obtain⟨ys,y1,y2,y3⟩:=h.start
  rw[y3,G6];omega
theorem Acd{rs:List cq}(h3:I rs<=2){ns np:Nat}{ag:Int}(h:∀k r,rs[k]?=G r->ZV ns np ag k r):rs.map cq.name=uc.take (I rs):=by
 apply ext_getElem?
 intro i
 by_cases hi:i<I rs
 ·have hx:rs[i]?=G rs[i]:=HQ hi
  rw[I9,hx,List.getElem?_take_of_lt hi,(h i _ hx).name];rfl
 ·rw[IF (by simp;omega),IF (by simp;omega)]
structure KT(m:ba):Prop where
 kind:m.kind=5
 aw:m.aw=[[97]]∨m.aw=[[97],[98]]
 ay:m.ay=[[120]]∨m.ay=[[120],[121]]
 ax:m.ax=[]
 au:m.au=[]
 ao:m.ao=0
 age:0<=m.age/\m.age<=1
 count:I m.av<=2
 named:Db m=J
structure NB(m:ba):Prop where
 n:KT m
 av:∀k r,m.av[k]?=G r->ZV (I m.aw) (I m.ay) m.age k r
theorem FZ.n{m:ba}(h:FZ m):KT m:=⟨h.kind,h.aw,h.ay,h.ax,h.au,h.ao,h.age,h.count,by
 have hn:=Acd h.count h.av
 have hc:=h.count
 rw[Db,Dq,hn,BR,h.ax]
 have:I m.av=0∨m.av.length=1∨m.av.length=2:=by omega
 rcases h.aw with e|e<;>rcases h.ay with e'|e'<;>rcases this with e2|e2|e2<;>rw[e,e',e2]<;>decide+kernel⟩
theorem FZ.s{m:ba}(h:FZ m):NB m:=⟨h.n,h.av⟩
instance {m:ba}:Coe (FZ m) (KT m):=⟨FZ.n⟩
instance {m:ba}:Coe (NB m) (KT m):=⟨NB.n⟩
instance {m:ba}:Coe (FZ m) (NB m):=⟨FZ.s⟩
theorem KT.sz{m:ba}(h:KT m):(1<=I m.aw/\m.aw.length<=2)/\(1<=I m.ay/\m.ay.length<=2):=
 ⟨by rcases h.aw with e|e<;>rw[e]<;>decide,by rcases h.ay with e|e<;>rw[e]<;>decide⟩
theorem FZ.sz{m:ba}(h:FZ m):(1<=I m.aw/\m.aw.length<=2)/\(1<=I m.ay/\m.ay.length<=2):=h.n.sz
theorem NB.right{m:ba}(h:NB m)(r:cq)(hr:r∈m.av):F0 109 [Ax m,AZ r] (db J):=by
 obtain⟨hst,hpl⟩:=h.n.sz
 have hag:=h.n.age
 have hi:=List.idxOf_lt_length_of_mem hr
 have hm:=h.av _ r (by rw[HQ hi,List.getElem_idxOf])
 rw[hm.rest]
 refine X1 m (by omega) (by omega) h.n.kind (by omega) _ _ _ _ _ hm.aj hm.to ?_ ?_ ?_ ?_
 ·rcases hm.ar with e|⟨p,lo,hi,_,_,e⟩<;>rw[e]<;>simp
 ·rcases hm.aq with e|⟨p,_,e⟩<;>rw[e]<;>simp
 ·rcases hm.ar with e|⟨p,lo,hi,h1,h2,e⟩
  ·rw[e];simp
  ·rw[e];intro t ht;rw[Ii.1 ht];exact⟨h1,h2⟩
 ·rcases hm.aq with e|⟨p,h1,e⟩
  ·rw[e];simp
  ·rw[e];intro t ht;rw[Ii.1 ht];exact h1
theorem FZ.right{m:ba}(h:FZ m)(r:cq)(hr:r∈m.av):F0 109 [Ax m,AZ r] (db J):=h.s.right r hr
theorem KT.good{m:ba}(h:KT m):B4 8 (Cq m)=J:=wh m (by have:=h.sz;omega) (by have:=h.sz;omega) (by have:=h.age;omega)
theorem FZ.good{m:ba}(h:FZ m):B4 8 (Cq m)=J:=h.n.good
noncomputable abbrev vo:=Tryz.f122
def GY(m:ba)(w:List Int):List (List Int):=if (m.kind==3)=J then Gf m.au w else Ft w
theorem Pe(m:ba)(w:List Int):I (GY m w)<=12/\∀v∈GY m w,I v<=12:=by
 unfold GY
 split
 ·exact UX _ _
 ·exact UB _
theorem Adt(m:ba)(hr:I m.au<=1000)(w:List Int)(hw:I w<=1000):F0 122 [Ax m,cy w] (dl ((GY m w).map cz)):=by
 unfold GY
 by_cases hk:(m.kind==3)=J
 ·rw[Io hk]
  have g3:=Ab4 m.au w hr hw
  generalize Gf m.au w=ws at g3⊢
  exact sv vo 14 [2] (.t<|.c (dl (ws.map cz)) .r) (_/\_/\bt (ai (U cz ws))=dl (U cz ws)) ⟨hk,g3,rfl⟩
 ·rw[Ij hk]
  have g3:=Aav w hw
  generalize Ft w=ws at g3⊢
  exact sv vo 14 [2] (.f<|.c (dl (ws.map cz)) .r) ((m.kind==3)=O/\_/\bt (ai (U cz ws))=dl (U cz ws)) ⟨Ic hk,g3,rfl⟩
noncomputable abbrev Wb:=Tryz.f63
noncomputable def DX:=yj Wb
def jz(outs:List bd):St:=match outs with
 |[]=>bf
 |o::outs=>⟨[G (Ad ((o::outs).map eV))],[]⟩
def ib(outs:List bd):D:=match outs with
 |[]=>.v .nils
 |o::outs=>.gro 0 (I outs+1) 2
theorem TL{l:List bd}(h:l≠ []):ib l=.gro 0 (I l) 2:=by cases l with
 |nil=>exact absurd rfl h
 |cons=>rfl
theorem NM{l:List bd}(h:l≠ []):jz l=⟨[G (Ad (l.map eV))],[]⟩:=by cases l with
 |nil=>exact absurd rfl h
 |cons=>rfl
theorem l7{o:yw}{t:Nat}(x:bd)(τ:St)(ho:o.op=.buildSlice 29 1 #[(0,.tmp t)]):Ay PP o [dV x] τ (.v (.list [Au x])) τ:=
 E5 ho rfl rfl qa rfl (xs:=[Au x]) rfl (fun y hy=>by rw[Ii.1 hy];rfl) (by decide) (by decide) (by decide)
theorem CA(l:List bd):(Ad (l.map eV)).all D.one=J:=by
 induction l with
 |nil=>rfl
 |cons x l ih=>rw[AO,List.all_append,ih];rfl
theorem GS(l:List bd)(x:bd):Ad (l.map eV)++[bt (vi x.n),bt (cc x.az)]=Ad ((l++[x]).map eV):=by rw[DR,AO];rfl
def gd(c:bd)(k:Nat)(w:List Int):bd:=HM c k (c.az.getD 0 dt).n w
def fk(m:ba)(c:bd)(K:Nat):List bd:=(List.range K).flatMap fun k=>(GY m (BA (c.az.getD (1+k) (.mk 0 [])))).map (gd c k)
theorem OG(m:ba)(c:bd)(K:Nat):fk m c (K+1)=fk m c K++(GY m (BA (c.az.getD (1+K) (.mk 0 [])))).map (gd c K):=by simp[fk,range_succ]
theorem RH(m:ba)(c:bd)(K:Nat):I (fk m c K)<=12*K:=by
 induction K with
 |zero=>exact HX _
 |succ K ih=>
  have:=(Pe m (BA (c.az.getD (1+K) (.mk 0 [])))).1
  rw[OG,Ig,HP];omega
theorem xn{c s0 x:bd}{k:Nat}(h0:c.az[0]?=G s0)(hx:c.az[1+k]?=G x)(w:List Int):gd c k w=.mk c.n (BT c.az s0 x s0.n (1+k) w):=by
 rw[gd,QE h0 hx,show c.az.getD 0 dt=s0 by rw[HY,h0];rfl]
theorem Aco{c:bd}(hc:c.size<=128){k:Nat}(hk:1+k<I c.az){w:List Int}(hw:I w<=12):(gd c k w).size<=200:=by
 obtain⟨s0,h0⟩:∃x,c.az[0]?=G x:=⟨_,HQ (by omega)⟩
 obtain⟨x,hx⟩:∃x,c.az[1+k]?=G x:=⟨_,HQ hk⟩
 rw[xn h0 hx]
 have:=JQ h0 hx s0.n w c.n
 have:=c.size_eq
 omega
theorem Tv{m:ba}{c:bd}(hc:c.size<=128){K:Nat}(hK:K<I c.az){v:bd}(hv:v∈fk m c K):v.size<=200:=by
 obtain⟨k,hk,hv⟩:=List.mem_flatMap.1 hv
 obtain⟨w,hw,rfl⟩:=IA.1 hv
 have:=List.mem_range.1 hk
 exact Aco hc (by omega) ((Pe m _).2 w hw)
theorem Aiu(m:ba)(c s0 x:bd)(k:Nat)(hk2:k<=1000)(hc:c.size<=128)(h0:c.az[0]?=G s0)(hx:c.az[1+k]?=G x)(ws:List (List Int))(hw:I ws<=12)(hws:∀v∈ws,I v<=12)(l o1:List bd)(ho1:I o1<=900)
  (l2:Rn PP Wb 0 (dm (l,0)) bf ([kl DX [1,1,1,0,1,0,0],.blk 0,kc DX [1,1,1,1]]++[]) (b9 51 [(2,.v (.ref (AE m))),(3,.v (.ref (Au c))),(7,ib (o1++ws.map (gd c k))),(20,di (I m.ay)),(21,di (k+1:Nat))]) (jz (o1++ws.map (gd c k)))) (n:Nat):
  ∀(j:Nat) (outs:List bd),I ws-j=n->outs=o1++(ws.take j).map (gd c k)->Rn PP Wb 0 (dm (l,0)) bf ([kl DX [1,1,1,0,1,0,0,1,1,0,0,1,1,0,0],.blk 2,.blk 1,kc DX [1,1,1,0,1,0,0,1,1,1],kl DX [1,1,1,0,1,0,0],.blk 0,kc DX [1,1,1,1]]++[]) (b9 51 [(2,.v (.ref (AE m))),(3,.v (.ref (Au c))),(7,ib outs),(8,di k),(20,di (I m.ay)),(21,di k),(28,dl (ws.map cz)),(29,di (I ws)),(30,di j)]) (jz outs):=by
 induction n with
 |zero=>
  intro j outs hn houts
  rw[Iw (by omega)] at houts
  rw[←houts] at l2
  clear houts
  by_cases hne:outs=[]
  ·subst hne
   rw[show ib ([]:List bd)=bt bv from rfl,show jz []=bf from rfl] at l2⊢
   exact lv 51 [2,3] (.f<|.l [ke 2,ke 3,ke 7,ke 20,ch 21 (di (k+1:Nat))]) (Y ((j:Int)<(I ws:Int))=O/\di (yr yq ((k:Int)+1))=di (↑(k+1):Int)/\_) ⟨yo,As,iK l2⟩
  ·rw[TL hne,NM hne] at l2⊢
   exact lv 51 [2,3] (.f<|.lo [ke 2,ke 3,ke 7,ke 20,ch 21 (di (k+1:Nat))] ⟨[G (Ad (outs.map eV))],[]⟩) (Y ((j:Int)<(I ws:Int))=O/\di (yr yq ((k:Int)+1))=di (↑(k+1):Int)/\cp 1 [] [G (Ad (U eV outs))]=J/\Q [G (Ad (U eV outs))]/\_) ⟨yo,As,Ik.2 ⟨Az 1 [] _,rfl⟩,rfl,iK l2⟩
 |succ n ih=>
  intro j outs hn houts
  obtain⟨w,hw1⟩:=yi (show j<I ws by omega)
  have hwl:=hws w (HW hw1)
  have hsp:=Lz c (by omega) s0 x k h0 hx s0.n w (by omega)
  have hsz:=JQ h0 hx s0.n w c.n
  have hcs:=c.size_eq
  have hfw:=xn h0 hx w
  have hol:I outs<=912:=by rw[houts,Ig,HP,Iy];omega
  generalize bd.mk c.n (BT c.az s0 x s0.n (1+k) w)=v at hsp hsz hfw
  have hx0:(c.az.map eV)[Z 0]?=G (Au s0):=A1 (i:=0) h0
  have l2:=ih (j+1) (outs++[v]) (by omega) (by rw[houts,Jn,hw1, ←hfw];simp)
  clear houts
  rw[TL (by simp),NM (by simp)] at l2
  by_cases hne:outs=[]
  ·subst hne
   rw[show ib ([]:List bd)=bt bv from rfl,show jz []=bf from rfl]
   refine lv 51 [2,3] (.t<|.x (cz w)<|.h (.xs (Au s0))<|.c (dV v)<|.h (.p (.v (.list [Au v])))<|.h .g<|.lo [ke 2,ke 3,ch 7 (.gro 0 1 2),ke 8,ke 20,ke 21,ke 28,ke 29,ch 30 (di (j+1:Nat))] ⟨[G (Ad ([v].map eV))],[]⟩) (Y ((j:Int)<(I ws:Int))=J/\0<=(j:Int)/\(U cz ws)[Z (j:Int)]?=G (cz w)/\Q 2/\iz 0<=0/\_/\_/\(∀(τ:St),Ay PP (Oper.mk (G 44) (Op.buildSlice 29 1 #[(0,Operand.tmp 43)]) 29 "channel.go:118" #[Edge.mk 9 Ground.data] none) [dV v] τ (bt (ai [Au v])) τ)/\[Au v]≠ []/\(∀(y:V),y∈ [Au v]->V.size y=2)/\A9 1 32/\Q (bm 0 1 2)/\di (yr yq ((j:Int)+1))=di (↑(j+1):Int)/\cp 1 [] [G [di v.n,cx v.az]]=J/\[G [di v.n,cx v.az]]=[G (Ad (eV v::nV))]/\_) ⟨yp,by omega,by rw[Ji,I9,hw1];rfl,rfl,Iv _,hx0,hsp,fun τ=>l7 v τ rfl,by simp,fun y hy=>by rw[Ii.1 hy];rfl,⟨by decide,by decide⟩,rfl,As,rfl,?_,iK l2⟩
   show [G [di v.n,bt (cc v.az)]]=[G (Ad ([v].map eV))]
   rw[AO];rfl
  ·rw[TL hne,NM hne]
   refine lv 51 [2,3] (.t<|.x (cz w)<|.h (.xs (Au s0))<|.c (dV v)<|.lo [ke 2,ke 3,ch 7 (.gro 1 (I outs+1) 2),ke 8,ke 20,ke 21,ke 28,ke 29,ch 30 (di (j+1:Nat))] ⟨[none,G (Ad ((outs++[v]).map eV))],[]⟩) (Y ((j:Int)<(I ws:Int))=J/\0<=(j:Int)/\(U cz ws)[Z (j:Int)]?=G (cz w)/\Q 2/\iz 0<=0/\(U eV c.az)[Z 0]?=G (Au s0)/\F0 74 [dV c,di s0.n,di (k:Int),cy w] (dV v)/\I (Ad (U eV outs))=I outs*2/\[Au v]≠ []/\(∀(y:V),y∈ [Au v]->V.size y=2)/\A9 (I outs+I (Au v::nV)) 32/\bm 1 (I outs+I (Au v::nV)) 2=bm 1 (I outs+1) 2/\di (yr yq ((j:Int)+1))=di (↑(j+1):Int)/\cp 2 [] [none,G (Ad (U eV outs)++[di v.n,cx v.az])]=J/\[none,G (Ad (U eV outs)++[di v.n,cx v.az])]=[none,G (Ad (U eV (outs++[v])))]/\I0 Wb 0 (dm (l,0)) bf [kl DX [1,1,1,0,1,0,0,1,1,0,0,1,1,0,0],bh 2,bh 1,kc DX [1,1,1,0,1,0,0,1,1,1],kl DX [1,1,1,0,1,0,0],bh 0,kc DX [1,1,1,1]] (b9 51 [(2,bt (bz (AE m))),(3,bt (bz (Au c))),(7,bm 1 (I outs+1) 2),(8,di (k:Int)),(20,di (I m.ay:Int)),(21,di (k:Int)),(28,bt (ai (U cz ws))),(29,di (I ws:Int)),(30,di (↑(j+1):Int))]) (bi [none,G (Ad (U eV (outs++[v])))] [])) ?_
   rw[GS]
   refine⟨yp,by omega,by rw[Ji,I9,hw1];rfl,rfl,Iv _,hx0,hsp,BC _,by simp,fun y hy=>by rw[Ii.1 hy];rfl,⟨?_,?_⟩,rfl,As,?_,rfl,⟨?_⟩⟩
   ·simp only[HV,HZ];omega
   ·simp only[HV,HZ];omega
   ·simp[cp,D.okNs,D.okN,Az]
   ·rw[Ig] at l2
    refine CW (H0:=[none]) (fun E0 E h=>h.2) 1 rfl (fun cs hc=>?_) ?_ ?_ l2
    ·simp at hc;rw[hc];exact A5 _
    ·simp[b9,D.okNs,D.okN]
    ·simp[b9,D.rens,D.ren]
theorem AfJ(m:ba)(c s0:bd)(hc:c.size<=128)(hr:I m.au<=1000)(hp:I m.ay<=2)(h0:c.az[0]?=G s0)(hl:I c.az=1+I m.ay)(hw:∀(k:Nat) (x:bd),c.az[1+k]?=G x->I x.az<=12)(n:Nat):
  ∀(k:Nat) (outs:List bd),I m.ay-k=n->k<=I m.ay->outs=fk m c k->Rn PP Wb 0 (dm (sortV (fk m c (I m.ay)),0)) bf ([kl DX [1,1,1,0,1,0,0],.blk 0,kc DX [1,1,1,1]]++[]) (b9 51 [(2,.v (.ref (AE m))),(3,.v (.ref (Au c))),(7,ib outs),(20,di (I m.ay)),(21,di k)]) (jz outs):=by
 induction n with
 |zero=>
  intro k outs hn hkp houts
  rw[show I m.ay=k by omega, ←houts]
  have ho:=RH m c k
  rw[←houts] at ho
  have hs:∀v∈outs,v.size<=200:=fun v hv=>Tv (m:=m) (K:=k) hc (by omega) (by rw[←houts];exact hv)
  clear houts
  cases outs with
  |nil=>
   rw[show sortV []=[] by simp[sortV]]
   rw[show ib ([]:List bd)=bt bv from rfl,show jz []=bf from rfl]
   exact lv 51 [2,3] (.f<|.c (.tup []) .r) (Y ((k:Int)<(k:Int))=O/\_/\bl [bt (ai []),di 0]=dm ([],0)) ⟨yo,Gp,rfl⟩
  |cons o outs=>
   rw[show ib (o::outs)=bm 0 (I (o::outs)) 2 from rfl,show jz (o::outs)=⟨[G (Ad ((o::outs).map eV))],[]⟩ from rfl]
   generalize o::outs=ol at*
   have hsl:I (sortV ol)=I ol:=(AN ol).length_eq
   refine lv 51 [2,3] (.f<|.h (.q 14 0)<|.h (.ga 7)<|.h (.oc (.tup []) ⟨[G (Ad ((sortV ol).map eV))],[]⟩)<|.h (.q 15 1)<|.h (.ct 50 (cx (sortV ol)) ⟨[none],[]⟩) .r) (Y ((k:Int)<(k:Int))=O/\(∀(o:yw) (c:Call) (fo:x5),o.op=Op.call c->c.callee=Callee.value fo->Ay PP o [bt (bw 92 [] []),bo 0 0 (I ol),bt (bw 39 [] [])] (bi [G (Ad (U eV ol))] []) (bl []) (bi [G (Ad (U eV (sortV ol)))] []))/\(∀(e:List D),e[50]?=G (bo 0 0 (I ol))->∀(E:co) (g:Gh) (a:Act) (w:yy),FI E g (bi [G (Ad (U eV (sortV ol)))] []) e a w->∃g',FI E g' (bi [none] []) (List.set e 50 (cx (sortV ol))) a w)/\bl [bt (cc (sortV ol)),di 0]=dm (sortV ol,0)) ⟨yo,fun o cl fo hop hc=>?_,fun e he=>?_,rfl⟩
   ·exact C9 (H:=[Ad (ol.map eV)]) hop hc (fs:=[]) (cs:=[]) (ds:=[.arr 0 0 (I ol),dfn 39]) rfl (Fw ol (by omega) (fun v hv=>by have:=hs v hv;omega)) rfl (fun cs hm=>by rw[Ii.1 hm];exact⟨Az _ _ _,CA _⟩) rfl (Ik.2 ⟨Az _ _ _,rfl⟩) (HX _)
   ·exact TN (σ:=⟨[G (Ad ((sortV ol).map eV))],[]⟩) (q:=0) (sz:=2) (by decide) (Fx _) (by rw[HP,hsl]) rfl he
 |succ n ih=>
  intro k outs hn hkp houts
  obtain⟨x,hx⟩:∃x,c.az[1+k]?=G x:=⟨_,HQ (by omega)⟩
  have hx12:=hw k x hx
  have hct:=Ms c k x hx (by omega) (by omega)
  have w3:=Adt m hr (BA x) (by rw[HP];omega)
  obtain⟨w1,w2⟩:=Pe m (BA x)
  have ho:=RH m c k
  rw[←houts] at ho
  have hnx:=OG m c k
  rw[←houts,show c.az.getD (1+k) (.mk 0 [])=x by rw[HY,hx];rfl] at hnx
  generalize GY m (BA x)=ws at w1 w2 w3 hnx
  have l2:=Aiu m c s0 x k (by omega) hc h0 hx ws w1 w2 (sortV (fk m c (I m.ay))) outs (by omega) (by rw[←hnx];exact ih (k+1) _ (by omega) (by omega) rfl) _ 0 outs rfl (by simp)
  clear houts hnx
  generalize sortV (fk m c (I m.ay))=l at l2⊢
  cases outs with
  |nil=>
   rw[show ib ([]:List bd)=bt bv from rfl,show jz []=bf from rfl] at l2⊢
   exact lv 51 [2,3] (.t<|.c (cy (BA x))<|.c (dl (ws.map cz))<|.l [ke 2,ke 3,ke 7,ke 8,ke 20,ke 21,ke 28,ch 29 (di (I ws)),ch 30 (di (0:Nat))]) (Y ((k:Int)<(I m.ay:Int))=J/\_/\_/\di (I (U cz ws):Int)=di (I ws:Int)/\Q (di 0)/\_) ⟨yp,hct,w3,by rw[HP],rfl,iK l2⟩
  |cons o outs=>
   rw[TL (by simp),NM (by simp)] at l2⊢
   generalize o::outs=ol at*
   exact lv 51 [2,3] (.t<|.c (cy (BA x))<|.c (dl (ws.map cz))<|.l [ke 2,ke 3,ke 7,ke 8,ke 20,ke 21,ke 28,ch 29 (di (I ws)),ch 30 (di (0:Nat))]) (Y ((k:Int)<(I m.ay:Int))=J/\_/\_/\di (I (U cz ws):Int)=di (I ws:Int)/\Q (di 0)/\_) ⟨yp,hct,w3,by rw[HP],rfl,iK l2⟩
theorem OC(m:ba)(t:bc)(hm:ip m t)(hr:I m.au<=1000)(c:bd)(hv:Aw t c=J):F0 63 [Ax m,dV c] (dm (sortV (fk m c (I m.ay)),0)):=by
 have hsh:=hm.shape c hv
 have hsz:=hsh.size
 have hck:=xf m t hm c (by omega)
 rw[lx,Io hv] at hck
 obtain⟨s0,h0⟩:∃x,c.az[0]?=G x:=⟨_,HQ (by rw[hsh.len];omega)⟩
 have l2:=AfJ m c s0 hsz hr hm.few.2 h0 hsh.len hsh.word _ 0 [] rfl (by omega) rfl
 generalize sortV (fk m c (I m.ay))=l at l2⊢
 rw[show ib ([]:List bd)=bt bv from rfl,show jz []=bf from rfl] at l2
 exact sv Wb 51 [2,3] (.c (di 0)<|.k<|.l [ke 2,ke 3,ke 7,ch 20 (di (I m.ay)),ch 21 (di (0:Nat))]) (_/\di (I (U ae m.ay):Int)=di (I m.ay:Int)/\Q (di 0)/\_) ⟨hck,by rw[HP],rfl,iK l2⟩
structure pm(c:bd):Prop where
 size:c.size<=128
 len:I c.az=2
 few:∀b,c.az[1]?=G b->I b.az<=12
 toks:∀b v,c.az[1]?=G b->v∈b.az->I v.az=2
structure jo(m:ba)(t:bc):Prop where
 int:Wn m t
 chk:F0 52 [Ax m] (di 0)
 kind:m.kind=5
 few:I m.av<=12
 rule:∀r∈m.av,I r.ar<=2/\r.aq.length<=1
 shape:∀c,Aw t c=J->pm c
noncomputable abbrev kg:=Tryz.f96
noncomputable def Wg:=yj kg
theorem AaG(l:List bd)(hl:I l<=1000)(ps:List (Int×Int))(hp:I ps=I l)(hv:∀(k:Nat) (v:bd),l[k]?=G v->∃a b,v.az[0]?=G a/\v.az[1]?=G b/\ps[k]?=G (a.n,b.n))(n:Nat):∀k:Nat,I l-k=n->
  Rn PP kg 0 (.acc 1 (ps.map cw)) ⟨[],[(1,2,ps.map cw)]⟩ ([kl Wg [1,1,0,1,0,0],.blk 0,kc Wg [1,1,1]]++[]) (b9 32 [(3,.acc 1 ((ps.take k).map cw)),(10,cx l),(11,di (I l)),(12,di k)]) ⟨[],[(1,2,(ps.take k).map cw)]⟩:=by
 induction n with
 |zero=>
  intro k hn
  refine lv 32 [1] (.f .r) (Y ((k:Int)<(I l:Int))=O/\[(1,2,U cw (take k ps))]=[(1,2,U cw ps)]/\br 1 (U cw (take k ps))=br 1 (U cw ps)) ?_
  rw[Iw (by omega)]
  exact⟨yo,rfl,rfl⟩
 |succ n ih=>
  intro k hn
  obtain⟨x,hx⟩:=yi (show k<I l by omega)
  obtain⟨a,b,ha,hb,hpk⟩:=hv k x hx
  refine lv 32 [1] (.t<|.h (.xs (Au x))<|.h (.xs (Au a))<|.h (.xs (Au b))<|.ls [ch 3 (.acc 1 ((ps.take (k+1)).map cw)),ke 10,ke 11,ch 12 (di (k+1:Nat))] ⟨[],[(1,2,(ps.take (k+1)).map cw)]⟩) (Y ((k:Int)<(I l:Int))=J/\Q 2/\0<=(k:Int)/\(U eV l)[Z (k:Int)]?=G (Au x)/\Q 2/\iz 0<=0/\(U eV x.az)[Z 0]?=G (Au a)/\Q 2/\iz 0<=1/\(U eV x.az)[Z 1]?=G (Au b)/\Q (U cw (take k ps))/\A9 (I (U cw (take k ps))+I (ab (vi a.n::vi b.n::nV)::nV)) 16/\ym/\br 1 (U cw (take k ps)++[ab [vi a.n,vi b.n]])=br 1 (U cw (take (k+1) ps))/\di (yr yq ((k:Int)+1))=di (↑(k+1):Int)/\[(1,2,U cw (take k ps)++ab (vi a.n::vi b.n::nV)::nV)]=[(1,2,U cw (take (k+1) ps))]/\I0 kg 0 (br 1 (U cw ps)) (bi [] [(1,2,U cw ps)]) [kl Wg [1,1,0,1,0,0],bh 0,kc Wg [1,1,1]] (b9 32 [(3,br 1 (U cw (take (k+1) ps))),(10,cx l),(11,di (I l:Int)),(12,di (↑(k+1):Int))]) (bi [] [(1,2,U cw (take (k+1) ps))])) ?_
  have hk:=(HT.1 hx).1
  have ht:(ps.take (k+1)).map cw=(ps.take k).map cw++[ab [vi a.n,vi b.n]]:=by rw[Jn,hpk];simp
  rw[ht]
  refine⟨yp,rfl,by omega,A1 hx,rfl,Iv _,A1 (i:=0) ha,rfl,by decide,A1 (i:=1) hb,rfl,⟨?_,?_⟩,yk,rfl,As,rfl,⟨?_⟩⟩
  ·simp only[HP,Iy,HV,HZ];omega
  ·simp only[HP,Iy,HV,HZ];omega
  ·have:=ih (k+1) (by omega)
   rw[ht] at this
   exact this
theorem Sz(c b:bd)(hb:c.az[1]?=G b)(hl:I b.az<=1000)(ps:List (Int×Int))(hp:I ps=I b.az)(hv:∀(k:Nat) (v:bd),b.az[k]?=G v->∃a y,v.az[0]?=G a/\v.az[1]?=G y/\ps[k]?=G (a.n,y.n)):
  F0 96 [dV c] (AC ps):=by
 have h:Aa PP 96 [dV c] bf (.acc 1 (ps.map cw)) ⟨[],[(1,2,ps.map cw)]⟩:=by
  exact sv kg 32 [1] (.h (.q 2 0)<|.h (.nw 3 1 2)<|.h (.xs (Au b))<|.ls [ch 3 (.acc 1 []),ke 10,ch 11 (di (I b.az)),ch 12 (di (0:Nat))] ⟨[],[(1,2,[])]⟩) (Q 2/\iz 0<=1/\(U eV c.az)[Z 1]?=G (Au b)/\Q (br 1 [])/\di (I (U eV b.az):Int)=di (I b.az:Int)/\Q (di 0)/\Q [(1,2,nV)]/\_) ⟨rfl,by decide,A1 (i:=1) hb,rfl,by rw[HP],rfl,rfl,iK (AaG b.az hl ps hp hv _ 0 rfl)⟩
 exact Di h
noncomputable abbrev AlZ:=Tryz.f147
theorem NC(s:Int)(b:bd)(hb:b.size<=10000):F0 147 [di s,dl [Au b]] (dV (.mk 0 [.mk s [],b])):=by
 refine sv AlZ 13 [] (.c (cx [b])<|.c (cx [.mk s [],b]) .r) (F0 75 [bt (ai [Au b])] (cx [b])/\F0 186 [bt (ai [ai [ab [vi s,ai []]],cc [b]])] (cx [bd.mk s [],b])/\bt (ab [vi 0,ai [eV (bd.mk s []),eV b]])=dV (bd.mk 0 [bd.mk s [],b])) ?_
 have h1:=OT [b] (by simp) (fun x hx=>by rw[Ii.1 hx];exact OS _ b (HX _) (by omega))
 rw[show cx [b]=dl [Au b] from Iq (fun z=>dl [z]) (AR b)] at h1⊢
 have h2:=AcX [[.mk s []],[b]] (by simp) (by simp)
 have e:[[bd.mk s []],[b]].flatten.map eV=[bd.mk s [],b].map eV:=rfl
 rw[e] at h2
 refine⟨h1,?_,?_⟩
 ·have e2:bt (ai [ai [ab [vi s,ai []]],cc [b]])=dl (Hi [[.mk s []],[b]]):=by
   show _=bt (.list [.list [eV (.mk s [])],.list [eV b]])
   rw[AR];rfl
  rw[e2];exact h2
 ·rfl
abbrev om(ps:List (Int×Int)):St:=⟨[G (Ad (ps.map cw))],[]⟩
theorem GT(p:Int×Int)(l:List (Int×Int)):Ad ((p::l).map cw)=[di p.1,di p.2]++Ad (l.map cw):=rfl
theorem Mj:∀l:List (Int×Int),I (Ad (l.map cw))=I l*2
 |[]=>rfl
 |p::l=>by rw[GT,Ig,Mj l,HV];simp;omega
theorem YJ(l k:List (Int×Int)):Ad ((l++k).map cw)=Ad (l.map cw)++Ad (k.map cw):=by simp only[Ad,Jq,List.flatMap_append]
theorem WP(l:List bd)(hl:I l<=1000)(ps:List (Int×Int))(hp:I ps=I l)(hv:∀(k:Nat) (v:bd),l[k]?=G v->∃a b,v.az[0]?=G a/\v.az[1]?=G b/\ps[k]?=G (a.n,b.n))(n:Nat):∀k:Nat,I l- (k+1)=n->k<I l->
  Rn PP kg 0 (.arr 0 0 (I ps)) (om ps) ([kl Wg [1,1,0,1,0,0],.blk 0,kc Wg [1,1,1]]++[]) (b9 32 [(3,.gro 0 (k+1) 2),(10,cx l),(11,di (I l)),(12,di (k+1:Nat))]) (om (ps.take (k+1))):=by
 induction n with
 |zero=>
  intro k hn hk
  refine lv 32 [1] (.f<|.h (.q 7 0)<|.h (.ga 3) .ro) (Y ((↑(k+1):Int)<(I l:Int))=O/\cp 1 [] [G (Ad (U cw (take (k+1) ps)))]=J/\[G (Ad (U cw (take (k+1) ps)))]=[G (Ad (U cw ps))]/\bo 0 0 (k+1)=bo 0 0 (I ps)) ?_
  have e:k+1=I ps:=by omega
  rw[e,Iw (HX _)]
  exact⟨yo,Ik.2 ⟨Az 1 [] _,rfl⟩,rfl,rfl⟩
 |succ n ih=>
  intro k hn hk
  obtain⟨x,hx⟩:=yi (show k+1<I l by omega)
  obtain⟨a,b,ha,hb,hpk⟩:=hv (k+1) x hx
  refine lv 32 [1] (.t<|.h (.xs (Au x))<|.h (.xs (Au a))<|.h (.xs (Au b))<|.lo [ch 3 (.gro 2 (k+1+1) 2),ke 10,ke 11,ch 12 (di (k+1+1:Nat))] ⟨[none,G [di x.n,cx x.az],G (Ad ((ps.take (k+1+1)).map cw))],[]⟩) (Y ((↑(k+1):Int)<(I l:Int))=J/\Q 2/\0<=(↑(k+1):Int)/\(U eV l)[Z (↑(k+1):Int)]?=G (Au x)/\Q 2/\iz 0<=0/\(U eV x.az)[Z 0]?=G (Au a)/\Q 2/\iz 0<=1/\(U eV x.az)[Z 1]?=G (Au b)/\I (Ad (U cw (take (k+1) ps)))=(k+1)*2/\[ab [vi a.n,vi b.n]]≠ []/\(∀(y:V),y∈ [ab [vi a.n,vi b.n]]->V.size y=2)/\A9 (k+1+I (ab (vi a.n::vi b.n::nV)::nV)) 16/\ym/\bm 2 (k+1+I (ab (vi a.n::vi b.n::nV)::nV)) 2=bm 2 (k+1+1) 2/\di (yr yq ((↑(k+1):Int)+1))=di (↑(k+1+1):Int)/\cp 3 [] [none,G [di x.n,cx x.az],G (Ad (U cw (take (k+1) ps))++[di a.n,di b.n])]=J/\[none,G [di x.n,cx x.az],G (Ad (U cw (take (k+1) ps))++[di a.n,di b.n])]=[none,G [di x.n,cx x.az],G (Ad (U cw (take (k+1+1) ps)))]/\I0 kg 0 (bo 0 0 (I ps)) (om ps) [kl Wg [1,1,0,1,0,0],bh 0,kc Wg [1,1,1]] (b9 32 [(3,bm 2 (k+1+1) 2),(10,cx l),(11,di (I l:Int)),(12,di (↑(k+1+1):Int))]) (bi [none,G [di x.n,cx x.az],G (Ad (U cw (take (k+1+1) ps)))] [])) ?_
  have hk1:=(HT.1 hx).1
  have ht:(ps.take (k+1+1))=(ps.take (k+1))++[(a.n,b.n)]:=by rw[Jn (i:=k+1),hpk];rfl
  have hf:Ad ((ps.take (k+1)).map cw)++[di a.n,di b.n]=Ad ((ps.take (k+1+1)).map cw):=by rw[ht,YJ];rfl
  have hih:=ih (k+1) (by omega) hk1
  rw[hf]
  refine⟨yp,rfl,by omega,A1 hx,rfl,Iv _,A1 (i:=0) ha,rfl,by decide,A1 (i:=1) hb,by rw[Mj,Iy];omega,by simp,fun y hy=>by rw[Ii.1 hy];rfl,⟨?_,?_⟩,yk,rfl,As,?_,rfl,⟨?_⟩⟩
  ·simp only[HV,HZ];omega
  ·simp only[HV,HZ];omega
  ·simp[cp,D.okNs,D.okN,Az]
  ·refine CW (H0:=[none,G [di x.n,cx x.az]]) (fun E0 E h=>h.2) 2 rfl (fun cs hc=>?_) ?_ ?_ hih
   ·simp at hc;rw[hc];exact A5 _
   ·simp[b9,D.okNs,D.okN]
   ·simp[b9,D.rens,D.ren]
theorem Ake{o:yw}{t:Nat}(x:bd)(τ:St)(ho:o.op=.fieldAddr 31 (.tmp t) 0):Ay PP o [.v (.ref (Au x))] τ (.v (.ref (vi x.n))) τ:=Fo ho (fo:=0) (n:=1) (b:=false) (by kernel_rfl) (by decide) (fun _=>rfl) rfl
theorem AlW{o:yw}{t:Nat}(x:Int)(τ:St)(ho:o.op=.load 3 (.tmp t)):Ay PP o [.v (.ref (vi x))] τ (di x) τ:=Fm ho (by unfold Pp;kernel_rfl) rfl
theorem Alg{o:yw}{t t':Nat}(x y:Int)(τ:St)(ho:o.op=.build 126 #[(0,.tmp t),(1,.tmp t')]):Ay PP o [di x,di y] τ (.v (cw (x,y))) τ:=SV ho (z:=[vi 0,vi 0]) (ay:=[(0,1),(1,1)]) (by kernel_rfl) (xs:=[(0,vi x),(1,vi y)]) rfl rfl
theorem slP:Ce PP 125=G (126,2,16,G (.agg #[.int .i64 0,.int .i64 0])):=by kernel_rfl
theorem Am9{o:yw}{t:Nat}(p:Int×Int)(τ:St)(ho:o.op=.buildSlice 125 1 #[(0,.tmp t)]):Ay PP o [.v (cw p)] τ (.v (.list [cw p])) τ:=
 E5 ho rfl rfl slP rfl (xs:=[cw p]) rfl (fun y hy=>by rw[Ii.1 hy];rfl) (by decide) (by decide) (by decide)
theorem WO(c b:bd)(hb:c.az[1]?=G b)(hl:I b.az<=1000)(hn:b.az≠ [])(ps:List (Int×Int))(hp:I ps=I b.az)(hv:∀(k:Nat) (v:bd),b.az[k]?=G v->∃a y,v.az[0]?=G a/\v.az[1]?=G y/\ps[k]?=G (a.n,y.n)):
  Aa PP 96 [dV c] bf (.arr 0 0 (I ps)) (om ps):=by
 have hpos:=List.length_pos_iff.2 hn
 obtain⟨x,hx⟩:∃x,b.az[0]?=G x:=⟨_,HQ hpos⟩
 obtain⟨a,y,ha,hy,hpk⟩:=hv 0 x hx
 have ht:ps.take 1=[(a.n,y.n)]:=by
  cases ps with
  |nil=>simp at hpk
  |cons p l=>simp at hpk;simp[hpk]
 have hih:=WP b.az hl ps hp hv _ 0 rfl hpos
 refine sv kg 32 [1] (.h (.xs (Au b))<|.n<|.t<|.h (.xs (Au x))<|.h (.xs (Au a))<|.h (.xs (Au y))<|.h (.p (.v (.ref (vi y.n))))<|.h (.p (di y.n))<|.h (.p (.v (cw (a.n,y.n))))<|.h (.p (.v (.list [cw (a.n,y.n)])))<|.h .g<|.lo [ch 3 (.gro 1 1 2),ke 10,ch 11 (di (I b.az)),ch 12 (di (1:Nat))] ⟨[G [di x.n,cx x.az],G (Ad ((ps.take 1).map cw))],[]⟩) (Q 2/\iz 0<=1/\(U eV c.az)[Z 1]?=G (Au b)/\Y (0<(I (U eV b.az):Int))=J/\Q 2/\iz 0<=0/\(U eV b.az)[Z 0]?=G (Au x)/\Q 2/\iz 0<=0/\(U eV x.az)[Z 0]?=G (Au a)/\Q 2/\iz 0<=1/\(U eV x.az)[Z 1]?=G (Au y)/\(∀(τ:St),Ay PP (Oper.mk (G 25) (Op.fieldAddr 31 (Operand.tmp 24) 0) 0 "timed.go:30" #[Edge.mk 8 Ground.data] none) [bt (bz (Au y))] τ (bt (bz (vi y.n))) τ)/\(∀(τ:St),Ay PP (Oper.mk (G 26) (Op.load 3 (Operand.tmp 25)) 3 "timed.go:30" #[Edge.mk 9 Ground.data] none) [bt (bz (vi y.n))] τ (di y.n) τ)/\(∀(τ:St),Ay PP (Oper.mk (G 27) (Op.build 126 #[(0,Operand.tmp 21),(1,Operand.tmp 26)]) 126 "timed.go:30" #[Edge.mk 5 Ground.data,Edge.mk 10 Ground.data] none) [di a.n,di y.n] τ (bt (cw (bd.n a,bd.n y))) τ)/\(∀(τ:St),Ay PP (Oper.mk (G 28) (Op.buildSlice 125 1 #[(0,Operand.tmp 27)]) 125 "timed.go:30" #[Edge.mk 11 Ground.data] none) [bt (cw (bd.n a,bd.n y))] τ (bt (ai [cw (bd.n a,bd.n y)])) τ)/\[cw (bd.n a,bd.n y)]≠ []/\(∀(y_1:V),y_1∈ [cw (bd.n a,bd.n y)]->V.size y_1=2)/\A9 1 16/\ym/\Q (bm 1 1 2)/\di (I (U eV b.az):Int)=di (I b.az:Int)/\di (yr yq (0+1))=di (↑1:Int)/\cp 2 [] [G [di x.n,cx x.az],G [di (bd.n a,bd.n y).fst,di (bd.n a,bd.n y).snd]]=J/\[G [di x.n,cx x.az],G [di (bd.n a,bd.n y).fst,di (bd.n a,bd.n y).snd]]=[G [di x.n,cx x.az],G (Ad (U cw (take 1 ps)))]/\I0 kg (I bf.H) (bo 0 0 (I ps)) (om ps) [kl Wg [1,1,0,1,0,0],bh 0,kc Wg [1,1,1]] (b9 32 [(3,bm 1 1 2),(10,cx b.az),(11,di (I b.az:Int)),(12,di (↑1:Int))]) (bi [G [di x.n,cx x.az],G (Ad (U cw (take 1 ps)))] [])) ⟨rfl,by decide,A1 (i:=1) hb,HS (by rw[HP];omega),rfl,Iv _,A1 (i:=0) hx,rfl,Iv _,A1 (i:=0) ha,rfl,by decide,A1 (i:=1) hy,fun τ=>Ake y τ rfl,fun τ=>AlW y.n τ rfl,fun τ=>Alg a.n y.n τ rfl,fun τ=>Am9 _ τ rfl,by simp,fun z hz=>by rw[Ii.1 hz];rfl,⟨by decide,by decide⟩,yk,rfl,by rw[HP],Iq di (by decide),rfl,?_,⟨?_⟩⟩
 ·rw[ht];rfl
 ·refine CW (H0:=[G [di x.n,cx x.az]]) (fun E0 E h=>h.2) 1 rfl (fun cs hc=>?_) ?_ ?_ hih
  ·simp at hc;rw[hc];exact A5 _
  ·simp[b9,D.okNs,D.okN]
  ·simp[b9,D.rens,D.ren]
noncomputable abbrev mi:=Tryz.f98
noncomputable def l6:=yj mi
abbrev ot(xs:List bd):St:=⟨[G [di 0,.v .nils],G [di 0,.gro 2 (I xs) 2],G (Ad (xs.map eV))],[]⟩
abbrev pV(p:Int×Int):bd:=.mk 0 [.mk p.1 [],.mk p.2 []]
theorem XH(p:Int×Int):(pV p).size=3:=rfl
theorem La{l k:List bd}(h:l.Perm k):bd.sizes l=bd.sizes k:=by
 induction h with
 |nil=>rfl
 |cons x _ ih=>rw[bd.sizes,bd.sizes,ih]
 |swap x y l=>simp only[bd.sizes];omega
 |trans _ _ ih1 ih2=>rw[ih1,ih2]
theorem WX:∀l:List (Int×Int),bd.sizes (l.map pV)=3*I l
 |[]=>rfl
 |p::l=>by rw[Iu,bd.sizes,WX l,XH,HV];omega
theorem Uu(l:List (Int×Int))(hl:I l<=100):(bd.mk 0 (sortV (l.map pV))).size<=301:=by
 rw[bd.size,La (AN _),WX];omega
theorem vx(s:Int)(l:List (Int×Int))(hl:I l<=100):(bd.mk 0 [.mk s [],.mk 0 (sortV (l.map pV))]).size<=400:=by
 have:=Uu l hl
 simp only[bd.size,bd.sizes] at this⊢;omega
theorem uu(s:Int)(l:List (Int×Int))(hl:I l<=100):(bd.mk 0 [.mk s [],.mk 0 (sortV (l.map pV))]).size<=1000000:=by
 have:=vx s l hl;omega
theorem Ady{R:List D->St->Prop}{ks:List KI}{e e':List D}(n:Nat)(x:List D)(F:List V)(_:Nat)(_:(0:Nat)<=0)(_:(0:Nat)=0)(he:D.okNs 3 [] e'=J)(hee:e=D.rens (fun i=>if i<2 then i else i+2) id e')
  (h:AI (CN 0) PP R ks e' ⟨[G [di 0,.v .nils],G [di 0,.gro 2 n 2],G (Ad F)],[]⟩):AI (CN 0) PP R ks e ⟨[G [di 0,.v .nils],G [di 0,.gro 4 n 2],none,G x,G (Ad F)],[]⟩:=by
 refine Dk (σ:=⟨[G [di 0,.v .nils],G [di 0,.gro 4 n 2],none,G x,G (Ad F)],[]⟩) (e':=e') (H':=[G [di 0,.v .nils],G [di 0,.gro 2 n 2],G (Ad F)]) (m:=0) (fun _ _ h=>h.2) (fun i=>if i<2 then i else i+2) (I3 _) (fun i hi=>by omega) (fun i j _ _ h=>?_) (fun i cs hi=>?_) he hee h
 ·have h:(if i<2 then i else i+2)=(if j<2 then j else j+2):=h
  split at h<;>split at h<;>omega
 ·match i,hi with
  |0,hi=>simp at hi;subst hi;exact⟨rfl,rfl⟩
  |1,hi=>simp at hi;subst hi;exact⟨rfl,rfl⟩
  |2,hi=>
   simp at hi;subst hi
   exact⟨by rw[AS (A5 _)];rfl,Az _ _ _⟩
  |i+3,hi=>simp at hi
theorem Z5{R:List D->St->Prop}{ks:List KI}{e e':List D}(n:Nat)(x:List D)(F:List V)(_:(0:Nat)<=0)(_:(0:Nat)=0)(he:D.okNs 3 [] e'=J)(hee:e=D.rens (fun i=>if i<2 then i else i+1) id e')
  (h:AI (CN 0) PP R ks e' ⟨[G [di 0,.v .nils],G [di 0,.gro 2 n 2],G (Ad F)],[]⟩):AI (CN 0) PP R ks e ⟨[G [di 0,.v .nils],G [di 0,.gro 3 n 2],G x,G (Ad F)],[]⟩:=by
 refine Dk (σ:=⟨[G [di 0,.v .nils],G [di 0,.gro 3 n 2],G x,G (Ad F)],[]⟩) (e':=e') (H':=[G [di 0,.v .nils],G [di 0,.gro 2 n 2],G (Ad F)]) (m:=0) (fun _ _ h=>h.2) (fun i=>if i<2 then i else i+1) (I3 _) (fun i hi=>by omega) (fun i j _ _ h=>?_) (fun i cs hi=>?_) he hee h
 ·have h:(if i<2 then i else i+1)=(if j<2 then j else j+1):=h
  split at h<;>split at h<;>omega
 ·match i,hi with
  |0,hi=>simp at hi;subst hi;exact⟨rfl,rfl⟩
  |1,hi=>simp at hi;subst hi;exact⟨rfl,rfl⟩
  |2,hi=>
   simp at hi;subst hi
   exact⟨by rw[AS (A5 _)];rfl,Az _ _ _⟩
  |i+3,hi=>simp at hi
theorem Adz(m:ba)(t:bc)(hm:Wn m t)(s:Int)(l:List (Int×Int))(hl:I l<=100)(v:bd)(b:Bool)(hv:v=.mk 0 [.mk s [],.mk 0 (sortV (l.map pV))])(hb:b=Aw t v)(n:Nat):∀k:Nat,I l- (k+1)=n->k<I l->
  Rn PP mi 0 (.tup [dV v,db b]) bf ([kl l6 [1,1,0,1,0,0],.blk 0,kc l6 [1,1,1]]++[]) (b9 44 [(1,di s),(3,.v (.ref (AE m))),(6,.ptr 0 0),(8,.ptr 1 0),(13,AC l),(14,di (I l)),(15,di (k+1:Nat))]) (ot ((l.take (k+1)).map pV)):=by
 induction n with
 |zero=>
  intro k hn hk
  refine lv 44 [3] (.f<|.h (.q 7 2)<|.h (.ga 34)<|.h (.oc (.tup []) ⟨[G [di 0,.v .nils],G [di 0,.gro 2 (I l) 2],G (Ad ((sortV (l.map pV)).map eV))],[]⟩)<|.h (.q 8 0)<|.h (.cs ⟨[G [di 0,.v .nils],G [di 0,cx (sortV (l.map pV))],none],[]⟩)<|.c (dV v)<|.c (db b) .r) (Y ((↑(k+1):Int)<(I l:Int))=O/\(∀(o:yw) (c:Call) (fo:x5),o.op=Op.call c->c.callee=Callee.value fo->Ay PP o [bt (bw 92 [] []),bo 2 0 (I (U pV (take (k+1) l))),bt (bw 39 [] [])] (ot (U pV (take (k+1) l))) (bl []) (bi [G [di 0,dn],G [di 0,bm 2 (I l) 2],G (Ad (U eV (sortV (U pV l))))] []))/\(∀(e:List D) (E:co) (g:Gh) (a:Act) (w:yy),FI E g (bi [G [di 0,dn],G [di 0,bm 2 (I l) 2],G (Ad (U eV (sortV (U pV l))))] []) e a w->∃g',FI E g' (bi [G [di 0,dn],G [di 0,cx (sortV (U pV l))],none] []) e a w)/\F0 147 [di s,bt (ai [ab [vi 0,cc (sortV (U pV l))]])] (dV v)/\F0 29 [Ax m,dV v] (db b)/\ym/\bl [bt (ab [vi v.n,ai (U eV v.az)]),db b]=bl [dV v,db b]) ?_
  have e:k+1=I l:=by omega
  rw[e,Iw (HX _)]
  have hsz:∀x∈l.map pV,x.size<=1000000:=fun x hx=>by obtain⟨p,_,rfl⟩:=IA.1 hx;rw[XH];decide
  have hsl:I (sortV (l.map pV))=I l:=by rw[(AN _).length_eq,HP]
  have hbs:=Uu l hl
  refine⟨yo,fun o cl fo hop hc=>?_,fun e=>?_,?_,hb▸hm.valid v (by rw[hv];exact uu s l hl),yk,rfl⟩
  ·have:=Ov (dc:=[.arr 0 0 (I l),dfn 39]) (σ:=ot (l.map pV)) (q:=2) (fs:=[]) (cs:=[]) (ds:=[.arr 2 0 (I (l.map pV)),dfn 39]) hop hc rfl (A5 _) (A5 _) (by rw[HP];exact .arr (.pl rfl .nil)) rfl (by have:=Fw (l.map pV) (by rw[HP];omega) hsz;rwa[HP] at this)
   simpa[ot] using this
  ·exact K5 (σ:=⟨[G [di 0,.v .nils],G [di 0,.gro 2 (I l) 2],G (Ad ((sortV (l.map pV)).map eV))],[]⟩) (p:=1) (q:=2) (i:=1) (sz:=2) (cs:=[di 0,.gro 2 (I l) 2]) (xs:=(sortV (l.map pV)).map eV) (by decide) rfl rfl (by decide) (by rw[HP,hsl];rfl) (Fx _) e
  ·rw[hv];exact NC s (.mk 0 (sortV (l.map pV))) (by omega)
 |succ n ih=>
  intro k hn hk
  obtain⟨x,hx⟩:=yi (show k+1<I l by omega)
  refine lv 44 [3] (.t<|.x (cw x)<|.lo [ke 1,ke 3,ke 6,ke 8,ke 13,ke 14,ch 15 (di (k+1+1:Nat))] ⟨[G [di 0,.v .nils],G [di 0,.gro 4 (k+1+1) 2],none,G [di x.1,di x.2],G (Ad (((l.take (k+1+1)).map pV).map eV))],[]⟩) (Y ((↑(k+1):Int)<(I l:Int))=J/\0<=(↑(k+1):Int)/\(U cw l)[Z (↑(k+1):Int)]?=G (cw x)/\iz 0<=0/\0<(↑2:Int)/\iz 0<=1/\1<(↑2:Int)/\I (Ad (U eV (U pV (take (k+1) l))))=I (U pV (take (k+1) l))*2/\[ab [vi 0,ai [ab [vi x.fst,ai []],ab [vi x.snd,ai []]]]]≠ []/\(∀(y:V),y∈ [ab [vi 0,ai [ab [vi x.fst,ai []],ab [vi x.snd,ai []]]]]->V.size y=2)/\A9 (I (U pV (take (k+1) l))+I (ab (aa yq 0::ai (ab (vi x.fst::ai nV::nV)::ab (vi x.snd::ai nV::nV)::nV)::nV)::nV)) 32/\di (yr yq ((↑(k+1):Int)+1))=di (↑(k+1+1):Int)/\cp 5 [] [G [di 0,dn],G [di 0,bm 4 (I (U pV (take (k+1) l))+I (ab (aa yq 0::ai (ab (vi x.fst::ai nV::nV)::ab (vi x.snd::ai nV::nV)::nV)::nV)::nV)) 2],none,G [di x.fst,di x.snd],G (Ad (U eV (U pV (take (k+1) l)))++[di 0,bt (ai [ab [vi x.fst,ai []],ab [vi x.snd,ai []]])])]=J/\[G [di 0,dn],G [di 0,bm 4 (I (U pV (take (k+1) l))+I (ab (aa yq 0::ai (ab (vi x.fst::ai nV::nV)::ab (vi x.snd::ai nV::nV)::nV)::nV)::nV)) 2],none,G [di x.fst,di x.snd],G (Ad (U eV (U pV (take (k+1) l)))++[di 0,bt (ai (ab (vi x.fst::ai nV::nV)::ab (vi x.snd::ai nV::nV)::nV))])]=[G [di 0,dn],G [di 0,bm 4 (k+1+1) 2],none,G [di x.fst,di x.snd],G (Ad (U eV (U pV (take (k+1+1) l))))]/\I0 mi 0 (bl [dV v,db b]) bf [kl l6 [1,1,0,1,0,0],bh 0,kc l6 [1,1,1]] (b9 44 [(1,di s),(3,bt (bz (AE m))),(6,bq 0 0),(8,bq 1 0),(13,bt (BS l)),(14,di (I l:Int)),(15,di (↑(k+1+1):Int))]) (bi [G [di 0,dn],G [di 0,bm 4 (k+1+1) 2],none,G [di x.fst,di x.snd],G (Ad (U eV (U pV (take (k+1+1) l))))] [])) ?_
  have hk1:=(HT.1 hx).1
  have ht:l.take (k+1+1)=l.take (k+1)++[x]:=by rw[Jn (i:=k+1),hx];rfl
  have hpe:bt (ai [ab [vi x.1,ai []],ab [vi x.2,ai []]])=cx (pV x).az:=by
   show _=bt (.list [eV (.mk x.1 []),eV (.mk x.2 [])])
   rw[AR,AR];rfl
  have hf:Ad (((l.take (k+1)).map pV).map eV)++[di 0,bt (ai [ab [vi x.1,ai []],ab [vi x.2,ai []]])]=Ad (((l.take (k+1+1)).map pV).map eV):=by
   rw[hpe,ht,Jq,DR]
   congr 1
  have hih:=ih (k+1) (by omega) hk1
  have hll:I ((l.take (k+1)).map pV)=k+1:=by rw[HP,Iy];omega
  have hll2:I ((l.take (k+1+1)).map pV)=k+1+1:=by rw[HP,Iy];omega
  rw[hll,hf]
  refine⟨yp,by omega,A3 hx,Iv _,by decide,by decide,by decide,by rw[BC,hll],by simp,fun y hy=>by rw[Ii.1 hy];rfl,⟨?_,?_⟩,As,?_,?_,⟨?_⟩⟩
  ·simp only[HV,HZ];omega
  ·simp only[HV,HZ];omega
  ·simp[cp,D.okNs,D.okN,Az]
  ·rfl
  ·rw[ot,hll2] at hih
   exact Ady _ _ _ 0 (by decide) rfl (by simp[b9,D.okNs,D.okN]) (by simp[b9,D.rens,D.ren]) hih
def DY(s:Int)(l:List (Int×Int)):bd:=.mk 0 [.mk s [],.mk 0 (sortV (l.map pV))]
theorem M0(s:Int)(l:List (Int×Int))(hl:I l<=100):(DY s l).size<=400:=vx s l hl
theorem Pi(m:ba)(t:bc)(hm:Wn m t)(s:Int)(l:List (Int×Int))(hl:I l<=100):F0 98 [Ax m,di s,AC l] (.tup [dV (DY s l),db (Aw t (DY s l))]):=by
 obtain⟨v,hv⟩:∃v:bd,v=DY s l:=⟨_,rfl⟩
 rw[←hv]
 unfold DY at hv
 ·cases l with
  |nil=>
   have hmv:=hm.valid v (by rw[hv];exact uu s [] hl)
   have hn0:sortV ([].map pV)=[]:=(AN _).eq_nil
   refine sv mi 44 [3] (.n<|.f<|.c (.tup [])<|.c (dV v)<|.c (db (Aw t v)) .r) (Y (0<(I (U cw []):Int))=O/\_/\F0 147 [di s,bt (ai [ab [vi 0,ai []]])] (dV v)/\_/\ym/\Q (bl [dV v,db (Aw t v)])) ⟨by decide,Gp,?_,hmv,yk,rfl⟩
   rw[hv,hn0]
   exact NC s (.mk 0 []) (by decide)
  |cons x l=>
   have hpe:bt (ai [ab [vi x.1,ai []],ab [vi x.2,ai []]])=cx (pV x).az:=by
    show _=bt (.list [eV (.mk x.1 []),eV (.mk x.2 [])])
    rw[AR,AR];rfl
   have hf:[di 0,bt (ai [ab [vi x.1,ai []],ab [vi x.2,ai []]])]=Ad ([pV x].map eV):=by
    rw[hpe,AO];rfl
   have hlp:=Adz m t hm s (x::l) hl v _ hv rfl _ 0 rfl (by simp)
   refine sv mi 44 [3] (.h (.q 1 0)<|.h .rn<|.n<|.t<|.x (cw x)<|.h (.q 5 11)<|.h .g<|.lo [ke 1,ke 3,ke 6,ke 8,ke 13,ch 14 (di (I (x::l))),ch 15 (di (1:Nat))] ⟨[G [di 0,.v .nils],G [di 0,.gro 3 1 2],G [di x.1,di x.2],G (Ad ([pV x].map eV))],[]⟩) (Y (0<(I (U cw (x::l)):Int))=J/\iz 0<=0/\Q (G (cw x))/\iz 0<=0/\0<(↑2:Int)/\iz 0<=1/\1<(↑2:Int)/\[ab [vi 0,ai [ab [vi x.fst,ai []],ab [vi x.snd,ai []]]]]≠ []/\(∀(y:V),y∈ [ab [vi 0,ai [ab [vi x.fst,ai []],ab [vi x.snd,ai []]]]]->V.size y=2)/\A9 1 32/\di (I (U cw (x::l)):Int)=di (I (x::l):Int)/\di (yr yq (0+1))=di (↑1:Int)/\cp 4 [] [G [di 0,dn],G [di 0,bm 3 1 2],G [di x.fst,di x.snd],G [di 0,bt (ai [ab [vi x.fst,ai []],ab [vi x.snd,ai []]])]]=J/\Q [G [di 0,dn],G [di 0,bm 3 1 2],G [di x.fst,di x.snd],G [di 0,bt (ai (ab (vi x.fst::ai nV::nV)::ab (vi x.snd::ai nV::nV)::nV))]]/\I0 mi (I bf.H) (bl [dV v,db (Aw t v)]) bf [kl l6 [1,1,0,1,0,0],bh 0,kc l6 [1,1,1]] (b9 44 [(1,di s),(3,bt (bz (AE m))),(6,bq 0 0),(8,bq 1 0),(13,AC (x::l)),(14,di (I (x::l):Int)),(15,di (↑1:Int))]) (bi [G [di 0,dn],G [di 0,bm 3 1 2],G [di x.fst,di x.snd],G [di 0,bt (ai [ab [vi x.fst,ai []],ab [vi x.snd,ai []]])]] [])) ⟨HS (by simp only[HP,HV];omega),Iv _,rfl,Iv _,by decide,by decide,by decide,by simp,fun y hy=>by rw[Ii.1 hy];rfl,⟨by decide,by decide⟩,by rw[HP],Iq di (by decide),rfl,rfl,⟨?_⟩⟩
   rw[hf]
   exact Z5 _ _ _ (by decide) rfl (by simp[b9,D.okNs,D.okN]) (by simp[b9,D.rens,D.ren]) hlp
noncomputable abbrev Akg:=Tryz.f123
theorem WS(m:ba)(t:bc)(hm:jo m t)(c:bd)(hv:Aw t c=J):F0 123 [Ax m,dV c] (di 0):=by
 have h1:=hm.int.valid c (by have:=(hm.shape c hv).size;omega)
 rw[hv] at h1
 exact sv Akg 20 [2,3] (.c (di 0)<|.k<|.f<|.c (db J) .r) (_/\(m.kind !=5)=O/\_/\Q (di 0)) ⟨hm.chk,by rw[hm.kind];rfl,h1,rfl⟩
def GL(b:bd):List (Int×Int):=b.az.map fun v=>((v.az.getD 0 dt).n,(v.az.getD 1 dt).n)
theorem NY(b:bd):I (GL b)=I b.az:=HP _
theorem XA(b:bd)(h:∀v∈b.az,I v.az=2)(k:Nat)(v:bd)(hk:b.az[k]?=G v):∃a y,v.az[0]?=G a/\v.az[1]?=G y/\(GL b)[k]?=G (a.n,y.n):=by
 have h2:=h v (HW hk)
 refine⟨v.az[0],v.az[1],HQ (by omega),HQ (by omega),?_⟩
 rw[GL,I9,hk]
 simp[HY,h2]
def Gg(m:ba)(x:Int):Int:=if yr yq (m.age+1)<yr yq (x+1) then yr yq (m.age+1) else yr yq (x+1)
theorem YI{l:List (Int×Int)}{k:Nat}{x:Int×Int}(h:l[k]?=G x):(Ad (l.map cw))[k*2+1]?=G (di x.2):=by
 induction l generalizing k with
 |nil=>simp at h
 |cons y l ih=>
  cases k with
  |zero=>simp at h;subst h;rfl
  |succ k=>
   rw[GT,show(k+1)*2+1=(k*2+1)+2 by omega]
   exact ih (by simpa using h)
theorem Qt{l:List (Int×Int)}{k:Nat}{x:Int×Int}(h:l[k]?=G x)(y:Int):(Ad (l.map cw)).set (k*2+1) (di y)=Ad ((l.set k (x.1,y)).map cw):=by
 induction l generalizing k with
 |nil=>simp at h
 |cons z l ih=>
  cases k with
  |zero=>simp at h;subst h;rfl
  |succ k=>
   rw[GT,Jv,GT, ←ih (by simpa using h),show(k+1)*2+1=(k*2+1)+2 by omega]
   rfl
noncomputable abbrev qv:=Tryz.f64
noncomputable def w7:=yj qv
def fd(m:ba)(ps:List (Int×Int)):List (Int×Int):=ps.map fun p=>(p.1,Gg m p.2)
theorem AaJ(m:ba)(c s0:bd)(h0:c.az[0]?=G s0)(ps:List (Int×Int))(N:Nat)(hpN:I ps=N)(hN:N<=100)(v:bd)(b:Bool)(v2:F0 98 [Ax m,di s0.n,AC (fd m ps)] (.tup [dV v,db b]))(n:Nat):∀(k:Nat) (l:List (Int×Int)),N-k=n->I l=N->(∀i:Nat,l[i]?=if i<k then(fd m ps)[i]? else ps[i]?)->
  Rn PP qv 0 (.tup [dV v,di 0]) bf ([kl w7 [1,1,1,0,1,0,0],.blk 0,kc w7 [1,1,1,1]]++[]) (b9 52 [(2,.v (.ref (AE m))),(3,.v (.ref (Au c))),(4,.ptr 0 0),(7,.arr 1 0 N),(21,di N),(22,di k)]) ⟨[G [di 0,.v .nils],G (Ad (l.map cw))],[]⟩:=by
 induction n with
 |zero=>
  intro k l hn hl hi
  have e:l=fd m ps:=ext_getElem? fun i=>by
   rw[hi i]
   split
   ·rfl
   ·rw[IF (by omega),IF (by rw[fd,HP];omega)]
  rw[←e] at v2
  clear hi e
  exact lv 52 [2,3] (.h (.q 6 0)<|.h (.ct 7 (AC l) ⟨[G [di 0,.v .nils],none],[]⟩)<|.f<|.h (.dr 11)<|.h (.xs (Au s0))<|.c (.tup [dV v,db b]) .r) ((∀(e:List D),e[7]?=G (bo 1 0 N)->∀(E:co) (g:Gh) (a:Act) (w:yy),FI E g (bi [G [di 0,dn],G (Ad (U cw l))] []) e a w->∃g',FI E g' (bi [G [di 0,dn],none] []) (List.set e 7 (AC l)) a w)/\Y ((k:Int)<(N:Int))=O/\Q 2/\iz 0<=0/\(U eV c.az)[Z 0]?=G (Au s0)/\_/\Q [bi [G [di 0,dn],none,G [di 0,dn]] []]/\True/\Q (bl [dV v,di 0])) ⟨fun e he=>TN (σ:=⟨[G [di 0,.v .nils],G (Ad (l.map cw))],[]⟩) (q:=1) (sz:=2) (by decide) (PE _) (by rw[HP];omega) rfl he,yo,rfl,Iv _,A1 (i:=0) h0,v2,rfl,trivial,rfl⟩
 |succ n ih=>
  intro k l hn hl hi
  obtain⟨x,hx⟩:=yi (show k<I l by omega)
  have v2:=ih (k+1) (l.set k (x.1,Gg m x.2)) (by omega) (by rw[length_set];exact hl) (fun i=>by
   have hx':=hi k
   rw[hx,Ij (Nat.lt_irrefl k)] at hx'
   by_cases hik:i=k
   ·subst hik
    rw[List.getElem?_set_self (by omega),Io (Nat.lt_succ_self i),fd,I9, ←hx'];rfl
   ·rw[List.getElem?_set_ne (fun h=>hik h.symm),hi i]
    by_cases h1:i<k
    ·rw[Io h1,Io (by omega)]
    ·rw[Ij h1,Ij (by omega)])
  clear hi
  have e1:0+Z (k:Int)*2+Z 1*1=k*2+1:=by omega
  refine lv 52 [2,3] (.t<|.m (di x.2)<|.w<|.lo [ke 2,ke 3,ke 4,ke 7,ke 21,ch 22 (di (k+1:Nat))] ⟨[G [di 0,.v .nils],G (Ad ((l.set k (x.1,Gg m x.2)).map cw))],[]⟩) (Y ((k:Int)<(N:Int))=J/\0<=(k:Int)/\(k:Int)<(N:Int)/\iz 0<=1/\1<(↑2:Int)/\(Ad (U cw l))[0+Z (k:Int)*2+Z 1*(1,match (TypeInfo.mk (TypeDesc.int yq) "int" 1 8 false 8 8 (G (Value.int yq 0)) true #[]).desc with|TypeDesc.struct fields=>true|TypeDesc.array len elem=>true|x=>false).fst]?=G (di x.snd)/\0<=(k:Int)/\(k:Int)<(N:Int)/\iz 0<=1/\1<(↑2:Int)/\0+Z (k:Int)*2+Z 1*(1,match (TypeInfo.mk (TypeDesc.int yq) "int" 1 8 false 8 8 (G (Value.int yq 0)) true #[]).desc with|TypeDesc.struct fields=>true|TypeDesc.array len elem=>true|x=>false).fst<I (Ad (U cw l))/\yn/\di (yr yq ((k:Int)+1))=di (↑(k+1):Int)/\cp 2 [] [G [di 0,dn],G (List.set (Ad (U cw l)) (0+Z (k:Int)*2+Z 1*(1,match (TypeInfo.mk (TypeDesc.int yq) "int" 1 8 false 8 8 (G (Value.int yq 0)) true #[]).desc with|TypeDesc.struct fields=>true|TypeDesc.array len elem=>true|x=>false).fst) (di (if yr yq (m.age+1)<yr yq (x.snd+1) then yr yq (m.age+1) else yr yq (x.snd+1))))]=J/\[G [di 0,dn],G (List.set (Ad (U cw l)) (0+Z (k:Int)*2+Z 1*(1,match (TypeInfo.mk (TypeDesc.int yq) "int" 1 8 false 8 8 (G (Value.int yq 0)) true #[]).desc with|TypeDesc.struct fields=>true|TypeDesc.array len elem=>true|x=>false).fst) (di (if yr yq (m.age+1)<yr yq (x.snd+1) then yr yq (m.age+1) else yr yq (x.snd+1))))]=[G [di 0,dn],G (Ad (U cw (List.set l k (x.fst,Gg m x.snd))))]/\_) ⟨yp,by omega,by omega,by decide,by decide,?_,by omega,by omega,by decide,by decide,?_,yl,As,?_,?_,iK v2⟩
  ·show(Ad (l.map cw))[0+Z (k:Int)*2+Z 1*1]?=_
   rw[e1];exact YI hx
  ·show 0+Z (k:Int)*2+Z 1*1<_
   rw[e1,Mj];omega
  ·show cp 2 [] [G [di 0,bt bv],G ((Ad (l.map cw)).set (0+Z (k:Int)*2+Z 1*1) (di (Gg m x.2)))]=J
   rw[e1,Qt hx];simp[cp,D.okNs,D.okN,Az]
  ·show [G [di 0,bt bv],G ((Ad (l.map cw)).set (0+Z (k:Int)*2+Z 1*1) (di (Gg m x.2)))]=_
   rw[e1,Qt hx]
def lu(m:ba)(c:bd):bd:=DY (c.az.getD 0 dt).n (fd m (GL (c.az.getD 1 dt)))
theorem NL(m:ba)(t:bc)(hm:jo m t)(c:bd)(hv:Aw t c=J):(lu m c).size<=1000/\F0 64 [Ax m,dV c] (.tup [dV (lu m c),di 0]):=by
 have hsh:=hm.shape c hv
 have hck:=WS m t hm c hv
 obtain⟨s0,h0⟩:∃x,c.az[0]?=G x:=⟨_,HQ (by rw[hsh.len];omega)⟩
 obtain⟨b,hb⟩:∃x,c.az[1]?=G x:=⟨_,HQ (by rw[hsh.len];omega)⟩
 have hb12:=hsh.few b hb
 have hpl:=NY b
 have hol:I (fd m (GL b))=I b.az:=by rw[fd,HP,hpl]
 have e0:c.az.getD 0 dt=s0:=by rw[HY,h0];rfl
 have e1:c.az.getD 1 dt=b:=by rw[HY,hb];rfl
 rw[lu,e0,e1]
 have v1:=M0 s0.n (fd m (GL b)) (by omega)
 have v2:=Pi m t hm.int s0.n (fd m (GL b)) (by omega)
 refine⟨by omega,?_⟩
 generalize DY s0.n (fd m (GL b))=v at v1 v2⊢
 generalize Aw t v=x at v2
 by_cases hn:b.az=[]
 ·have ht:=Sz c b hb (by omega) [] (by rw[hn];rfl) (fun k v hk=>by rw[hn] at hk;simp at hk)
  rw[show fd m (GL b)=[] by simp[fd,GL,hn]] at v2
  exact sv qv 52 [2,3] (.c (di 0)<|.k<|.c (AC [])<|.n<|.f<|.h (.dr 11)<|.h (.xs (Au s0))<|.c (.tup [dV v,db x]) .r) (_/\_/\Y (0<(I (U cw []):Int))=O/\Q 2/\iz 0<=0/\(U eV c.az)[Z 0]?=G (Au s0)/\_/\Q [bi [G [di 0,dn],G [di 0,dn]] []]/\True/\Q (bl [dV v,di 0])) ⟨hck,ht,rfl,rfl,Iv _,A1 (i:=0) h0,v2,rfl,trivial,rfl⟩
 ·have ht:=WO c b hb (by omega) hn (GL b) hpl (XA b fun v hv=>hsh.toks b v hb hv)
  have v3:=AaJ m c s0 h0 (GL b) (I (GL b)) rfl (by omega) v x v2 _ 0 (GL b) rfl rfl (fun i=>by rw[Ij (Nat.not_lt_zero i)])
  clear v2
  generalize GL b=ps at ht v3
  exact sv qv 52 [2,3] (.c (di 0)<|.k<|.h (.oc (.arr 1 0 (I ps)) ⟨[G [di 0,.v .nils],G (Ad (ps.map cw))],[]⟩)<|.lo [ke 2,ke 3,ke 4,ke 7,ch 21 (di (I ps)),ch 22 (di (0:Nat))] ⟨[G [di 0,.v .nils],G (Ad (ps.map cw))],[]⟩) (_/\(∀(o:yw) (c_1:Call) (fo:x5),o.op=Op.call c_1->c_1.callee=Callee.value fo->Ay PP o [bt (bw 96 [] []),dV c] (bi [G [di 0,dn]] []) (bo 1 0 (I ps)) (bi [G [di 0,dn],G (Ad (U cw ps))] []))/\Q (di (I ps:Int))/\Q (di 0)/\cp 2 [] [G [di 0,dn],G (Ad (U cw ps))]=J/\Q [G [di 0,dn],G (Ad (U cw ps))]/\_) ⟨hck,fun o cl fo ho hc=>KL (σ:=⟨[G [di 0,.v .nils]],[]⟩) (fs:=[]) (cs:=[]) (ds:=[dV c]) ho hc rfl (A5 _) ht,rfl,rfl,by simp[cp,D.okNs,D.okN,Az],rfl,iK v3⟩
theorem Aab(l:List bd):I (Ad (l.map eV))=I l*2:=BC l
theorem El{l:List bd}{i:Nat}{x:bd}(h:l[i]?=G x):i*2+2<=I (Ad (l.map eV)):=by
 obtain⟨h,_⟩:=HT.1 h
 rw[BC];omega
theorem Fk{l:List bd}{i:Nat}{x:bd}(h:l[i]?=G x):((Ad (l.map eV)).drop (i*2)).take 2=[.v (vi x.n),.v (cc x.az)]:=Gx h
theorem U4:∀(l:List bd) (k:Nat),(Ad (l.map eV)).take (k*2)=Ad ((l.take k).map eV)
 |[],k=>by simp[Ad]
 |v::l,0=>rfl
 |v::l,k+1=>by
  rw[AO,List.take_succ_cons,AO, ←U4 l k,show(k+1)*2=k*2+1+1 by omega];rfl
theorem Se:∀(l:List bd) (k:Nat) (x:bd) (_:k<I l),(Ad (l.map eV)).take (k*2)++[bt (vi x.n),bt (cc x.az)]++(Ad (l.map eV)).drop (k*2+2)=Ad ((l.set k x).map eV)
 |v::l,0,x,_=>by rw[List.set_cons_zero,AO,AO];rfl
 |v::l,k+1,x,h=>by
  rw[Jv,AO,AO, ←Se l k x (by simpa using h),show(k+1)*2=k*2+1+1 by omega];rfl
theorem AdH(k:Nat):(((replicate k [vi 0,bv]).flatten.map bt).all D.one)=J:=by
 induction k with
 |zero=>rfl
 |succ k ih=>simp only[IL,Jx,Jq,List.all_append,ih];rfl
theorem qj:Ce PP 29=G (31,2,32,G (.agg #[.int .i64 0,.slice none 0 0])):=by kernel_rfl
theorem Pv(l:List V){R:List D}(h:D.pls R=J):D.pls (Ad l++R)=J:=by rw[Cw,A5,h];rfl
noncomputable abbrev YS:=Tryz.f93
noncomputable def EH:=yj YS
theorem Ajz(F:yv)(l:List bd)(q:bd->bd->Bool)(hl:I l<=1000)(hq:∀x∈l,∀y∈l,F0 F [dV x,dV y] (db (q x y)))(k0:Nat)(h0:1<=k0)(h1:k0<I l)(n:Nat):∀(k j:Nat) (A:List bd),I l-k0-j=n->1<=k->1<=j->k<k0+j->j<=I l-k0->I A=I l->(∀x∈A,x∈l)->(∀i:Nat,k0+j-1<=i->A[i]?=l[i]?)->(∀p,l[k0+j-1]?=G p->A.take k++BX q p (l.drop (k0+j))=AW q l)->
  ∃(ys:List bd) (R:List D),ys=AW q l/\D.pls R=J/\R.all D.one=J/\Rn PP YS 1 (.arr 0 0 (I ys)) ⟨[G (Ad (ys.map eV)++R)],[]⟩ ([kl EH [1,1,0,1,0,0,1,0,0,1,0,1,0,1,0,0],.blk 2,kc EH [1,1,0,1,0,0,1,0,0,1,0,1,1],.blk 1,kc EH [1,1,0,1,0,0,1,1],kl EH [1,1,0,1,0,0],.blk 0,kc EH [1,1,1]]++[]) (b9 66 [(0,.arr 0 0 (I l)),(1,dfn F),(5,di k),(6,.arr 0 (k0*2) (I l-k0)),(7,di j)]) ⟨[G (Ad (A.map eV))],[]⟩:=by
 induction n with
 |zero=>
  intro k j A hn hk hj hkj hjl hA hAl hAe hT
  refine⟨A.take k,(replicate (I l-k) [vi 0,bv]).flatten.map .v,?_,?_,?_,?_⟩
  ·obtain⟨p,hp⟩:∃p,l[k0+j-1]?=G p:=⟨_,HQ (by omega)⟩
   have:=hT p hp
   rw[Im (by omega),BX,IG] at this
   exact this
  ·exact Cg _
  ·exact AdH _
  have hkl:k<I l:=by omega
  have hsl:∀(o:yw) (x:x5) (y:x5) (τ:St),o.op=.slice 29 x (G y) none none->Ay PP o [.arr 0 0 (I l),di k] τ (.arr 0 (k*2) (I l-k)) τ:=fun o x y τ ho=>by
   have:=Ch (P:=PP) (o:=o) (σ:=τ) ho qj (q:=0) (off:=0) (len:=I l) (G (.i64,(k:Int))) none rfl rfl (l':=k) (h':=I l) (by simp[Cf];omega) hkl
   rwa[IC] at this
  have hsh:∀(o:yw) (x:x5) (y:x5) (τ:St),o.op=.slice 29 x none (G y) none->Ay PP o [.arr 0 0 (I l),di k] τ (.arr 0 0 k) τ:=fun o x y τ ho=>by
   have:=Ch (P:=PP) (o:=o) (σ:=τ) ho qj (q:=0) (off:=0) (len:=I l) none (G (.i64,(k:Int))) rfl rfl (l':=0) (h':=k) (by simp[Cf];omega) (by omega)
   rwa[Nat.zero_mul,IQ,Nat.sub_zero] at this
  have hfl:I (Ad (A.map eV))=I l*2:=by rw[Aab,hA]
  have hcl:=fun(o:yw) (x:x5) (ho:o.op=.call { callee:=.builtin .clear,args:= #[x],argTypes:= #[29]})=>DM (P:=PP) (o:=o) (σ:=⟨[G (Ad (A.map eV))],[]⟩) ho qj (zs:=[vi 0,.nils]) rfl rfl (q:=0) (off:=k*2) (len:=I l-k) rfl (by omega) (by rw[hfl];omega)
  have hd:(Ad (A.map eV)).drop (k*2+(I l-k)*2)=[]:=Im (by rw[hfl];omega)
  have htk:(Ad (A.map eV)).take (k*2)=Ad ((A.take k).map eV):=U4 A k
  rw[hd,htk,IG] at hcl
  refine lv 66 [] (.f<|.h (.q 14 2)<|.h (.o (.arr 0 (k*2) (I l-k)) ⟨[G (Ad (A.map eV))],[]⟩)<|.h (.o (.tup []) ⟨[G (Ad ((A.take k).map eV)++(replicate (I l-k) [vi 0,bv]).flatten.map .v)],[]⟩)<|.h (.q 15 2)<|.h (.o (.arr 0 0 k) ⟨[G (Ad ((A.take k).map eV)++(replicate (I l-k) [vi 0,bv]).flatten.map .v)],[]⟩) .ro) (Y ((j:Int)<(↑(I l-k0):Int))=O/\Ay PP (Oper.mk (G 61) (Op.slice 29 (Operand.tmp 59) (G (Operand.tmp 60)) none none) 29 "slices.go:410" #[Edge.mk 0 Ground.data,Edge.mk 1 Ground.data] none) [bo 0 0 (I l),di (k:Int)] (bi [G (Ad (U eV A))] []) (bo 0 (k*2) (I l-k)) (bi [G (Ad (U eV A))] [])/\Ay PP (Oper.mk none (Op.call (Call.mk (Callee.builtin Builtin.clear) #[Operand.tmp 61] #[29])) 0 "slices.go:410" #[Edge.mk 2 Ground.data] none) [bo 0 (k*2) (I l-k)] (bi [G (Ad (U eV A))] []) (bl []) (bi [G (Ad (U eV (take k A))++U bt (flatten (replicate (I l-k) [vi 0,bv])))] [])/\Ay PP (Oper.mk (G 64) (Op.slice 29 (Operand.tmp 62) none (G (Operand.tmp 63)) none) 29 "slices.go:411" #[Edge.mk 0 Ground.data,Edge.mk 1 Ground.data] none) [bo 0 0 (I l),di (k:Int)] (bi [G (Ad (U eV (take k A))++U bt (flatten (replicate (I l-k) [vi 0,bv])))] []) (bo 0 0 k) (bi [G (Ad (U eV (take k A))++U bt (flatten (replicate (I l-k) [vi 0,bv])))] [])/\cp 1 [] [G (Ad (U eV (take k A))++U bt (flatten (replicate (I l-k) [vi 0,bv])))]=J/\Q [G (Ad (U eV (take k A))++U bt (flatten (replicate (I l-k) (vi 0::bv::nV))))]/\bo 0 0 k=bo 0 0 (I (take k A))) ⟨yo,hsl _ _ _ _ rfl,hcl _ _ rfl,hsh _ _ _ _ rfl,?_,rfl,by rw[Iy,hA,Nat.min_eq_left (by omega)]⟩
  exact Ik.2 ⟨B2 (Pv _ (Cg _)),rfl⟩
 |succ n ih=>
  intro k j A hn hk hj hkj hjl hA hAl hAe hT
  obtain⟨x,hx⟩:=yi (show k0+j<I A by omega)
  obtain⟨y,hy⟩:=yi (show k0+j-1<I A by omega)
  have hc:=hq x (hAl x (HW hx)) y (hAl y (HW hy))
  have hw1:yq.wrap ((j:Int)-1)=((j-1:Nat):Int):=by rw[A2];omega
  have hT':=hT y (by rw[←hAe _ (HX _)];exact hy)
  have hx':l[k0+j]?=G x:=by rw[←hAe _ (by omega)];exact hx
  rw[dx hx',BX] at hT'
  cases hb:q x y with
  |true=>
   rw[hb] at hc
   obtain⟨ys,R,r1,r3,r5,r4⟩:=ih k (j+1) A (by omega) hk (by omega) (by omega) (by omega) hA hAl (fun i hi=>hAe i (by omega)) (fun p hp=>by
    have e:x=p:=Is (hx'.symm.trans hp)
    rw[hb,Io rfl,e] at hT';exact hT')
   refine⟨ys,R,r1,r3,r5,?_⟩
   refine lv 66 [] (.t<|.m (dV x)<|.m (dV y)<|.c (db J)<|.lo [ke 0,ke 1,ke 5,ke 6,ch 7 (di (j+1:Nat))] ⟨[G (Ad (A.map eV))],[]⟩) (Y ((j:Int)<(↑(I l-k0):Int))=J/\0<=(j:Int)/\(j:Int)<(↑(I l-k0):Int)/\k0*2+Z (j:Int)*2+2<=I (Ad (U eV A))/\take 2 (W (k0*2+Z (j:Int)*2) (Ad (U eV A)))=[di x.n,cx x.az]/\0<=yr yq ((j:Int)-1)/\yr yq ((j:Int)-1)<(↑(I l-k0):Int)/\k0*2+Z (yr yq ((j:Int)-1))*2+2<=I (Ad (U eV A))/\take 2 (W (k0*2+Z (yr yq ((j:Int)-1))*2) (Ad (U eV A)))=[di y.n,cx y.az]/\F0 F [dV x,dV y] (db J)/\ym/\di (yr yq ((j:Int)+1))=di (↑(j+1):Int)/\cp 1 [] [G (Ad (U eV A))]=J/\Q [G (Ad (U eV A))]/\I0 YS 1 (bo 0 0 (I ys)) (bi [G (Ad (U eV ys)++R)] []) [kl EH [1,1,0,1,0,0,1,0,0,1,0,1,0,1,0,0],bh 2,kc EH [1,1,0,1,0,0,1,0,0,1,0,1,1],bh 1,kc EH [1,1,0,1,0,0,1,1],kl EH [1,1,0,1,0,0],bh 0,kc EH [1,1,1]] (b9 66 [(0,bo 0 0 (I l)),(1,bt (bw F [] [])),(5,di (k:Int)),(6,bo 0 (k0*2) (I l-k0)),(7,di (↑(j+1):Int))]) (bi [G (Ad (U eV A))] [])) ?_
   rw[hw1]
   refine⟨yp,by omega,by omega,by rw[show k0*2+Z (j:Int)*2=(k0+j)*2 by omega];have:=El hx;omega,by rw[show k0*2+Z (j:Int)*2=(k0+j)*2 by omega];exact Fk hx,by omega,by omega,by rw[show k0*2+Z ((j-1:Nat):Int)*2=(k0+j-1)*2 by omega];have:=El hy;omega,by rw[show k0*2+Z ((j-1:Nat):Int)*2=(k0+j-1)*2 by omega];exact Fk hy,hc,yk,As,Ik.2 ⟨Az 1 [] _,rfl⟩,rfl,⟨r4⟩⟩
  |false=>
   rw[hb] at hc
   have hA2:∀z∈A.set k x,z∈l:=fun z hz=>by
    rcases IX hz with h|h
    ·exact hAl z h
    ·rw[h];exact hAl x (HW hx)
   obtain⟨ys,R,r1,r3,r5,r4⟩:=ih (k+1) (j+1) (A.set k x) (by omega) (by omega) (by omega) (by omega) (by omega) (by rw[length_set];exact hA) hA2 (fun i hi=>by rw[List.getElem?_set_ne (by omega)];exact hAe i (by omega)) (fun p hp=>by
    have e:x=p:=Is (hx'.symm.trans hp)
    rw[hb,Ij (by decide)] at hT'
    rw[J9 (by omega),IZ,List.singleton_append, ←e];exact hT')
   refine⟨ys,R,r1,r3,r5,?_⟩
   refine lv 66 [] (.t<|.m (dV x)<|.m (dV y)<|.c (db O)<|.m (dV x)<|.h .ww<|.lo [ke 0,ke 1,ch 5 (di (k+1:Nat)),ke 6,ch 7 (di (j+1:Nat))] ⟨[G (Ad ((A.set k x).map eV))],[]⟩) (Y ((j:Int)<(↑(I l-k0):Int))=J/\0<=(j:Int)/\(j:Int)<(↑(I l-k0):Int)/\k0*2+Z (j:Int)*2+2<=I (Ad (U eV A))/\take 2 (W (k0*2+Z (j:Int)*2) (Ad (U eV A)))=[di x.n,cx x.az]/\0<=yr yq ((j:Int)-1)/\yr yq ((j:Int)-1)<(↑(I l-k0):Int)/\k0*2+Z (yr yq ((j:Int)-1))*2+2<=I (Ad (U eV A))/\take 2 (W (k0*2+Z (yr yq ((j:Int)-1))*2) (Ad (U eV A)))=[di y.n,cx y.az]/\F0 F [dV x,dV y] (db O)/\ym/\0<=(j:Int)/\(j:Int)<(↑(I l-k0):Int)/\k0*2+Z (j:Int)*2+2<=I (Ad (U eV A))/\take 2 (W (k0*2+Z (j:Int)*2) (Ad (U eV A)))=[di x.n,cx x.az]/\0<=(k:Int)/\(k:Int)<(I l:Int)/\0+Z (k:Int)*2+2<=I (Ad (U eV A))/\di (yr yq ((k:Int)+1))=di (↑(k+1):Int)/\di (yr yq ((j:Int)+1))=di (↑(j+1):Int)/\cp 1 [] [G (take (0+Z (k:Int)*2) (Ad (U eV A))++[di x.n,cx x.az]++W (0+Z (k:Int)*2+2) (Ad (U eV A)))]=J/\[G (take (0+Z (k:Int)*2) (Ad (U eV A))++[di x.n,cx x.az]++W (0+Z (k:Int)*2+2) (Ad (U eV A)))]=[G (Ad (U eV (List.set A k x)))]/\I0 YS 1 (bo 0 0 (I ys)) (bi [G (Ad (U eV ys)++R)] []) [kl EH [1,1,0,1,0,0,1,0,0,1,0,1,0,1,0,0],bh 2,kc EH [1,1,0,1,0,0,1,0,0,1,0,1,1],bh 1,kc EH [1,1,0,1,0,0,1,1],kl EH [1,1,0,1,0,0],bh 0,kc EH [1,1,1]] (b9 66 [(0,bo 0 0 (I l)),(1,bt (bw F [] [])),(5,di (↑(k+1):Int)),(6,bo 0 (k0*2) (I l-k0)),(7,di (↑(j+1):Int))]) (bi [G (Ad (U eV (List.set A k x)))] [])) ?_
   rw[hw1]
   refine⟨yp,by omega,by omega,by rw[show k0*2+Z (j:Int)*2=(k0+j)*2 by omega];have:=El hx;omega,by rw[show k0*2+Z (j:Int)*2=(k0+j)*2 by omega];exact Fk hx,by omega,by omega,by rw[show k0*2+Z ((j-1:Nat):Int)*2=(k0+j-1)*2 by omega];have:=El hy;omega,by rw[show k0*2+Z ((j-1:Nat):Int)*2=(k0+j-1)*2 by omega];exact Fk hy,hc,yk,by omega,by omega,by rw[show k0*2+Z (j:Int)*2=(k0+j)*2 by omega];have:=El hx;omega,by rw[show k0*2+Z (j:Int)*2=(k0+j)*2 by omega];exact Fk hx,by omega,by omega,by rw[Aab];omega,As,As,?_,?_,⟨r4⟩⟩
   ·rw[show 0+Z (k:Int)*2=k*2 by omega,Se A k x (by omega)]
    exact Ik.2 ⟨Az 1 [] _,rfl⟩
   ·rw[show 0+Z (k:Int)*2=k*2 by omega,Se A k x (by omega)]
theorem Ag3(F:yv)(l:List bd)(q:bd->bd->Bool)(hl:I l<=1000)(hq:∀x∈l,∀y∈l,F0 F [dV x,dV y] (db (q x y)))(n:Nat):∀(k:Nat),I l-k=n->1<=k->k<=I l->(∀p,l[k-1]?=G p->l.take k++BX q p (l.drop k)=AW q l)->
  ∃(ys:List bd) (R:List D),ys=AW q l/\D.pls R=J/\R.all D.one=J/\Rn PP YS 1 (.arr 0 0 (I ys)) ⟨[G (Ad (ys.map eV)++R)],[]⟩ ([kl EH [1,1,0,1,0,0],.blk 0,kc EH [1,1,1]]++[]) (b9 66 [(0,.arr 0 0 (I l)),(1,dfn F),(5,di k)]) ⟨[G (Ad (l.map eV))],[]⟩:=by
 induction n with
 |zero=>
  intro k hn hk hkl hT
  refine⟨l,[],?_,rfl,rfl,?_⟩
  ·obtain⟨p,hp⟩:∃p,l[k-1]?=G p:=⟨_,HQ (by omega)⟩
   have:=hT p hp
   rw[Im (by omega),BX,IG,Iw (by omega)] at this
   exact this
  exact lv 66 [] (.f .ro) (Y ((k:Int)<(I l:Int))=O/\cp 1 [] [G (Ad (U eV l))]=J/\[G (Ad (U eV l))]=[G (Ad (U eV l)++[])]/\Q (bo 0 0 (I l))) ⟨yo,Ik.2 ⟨Az 1 [] _,rfl⟩,by rw[IG],rfl⟩
 |succ n ih=>
  intro k hn hk hkl' hT
  obtain⟨x,hx⟩:=yi (show k<I l by omega)
  obtain⟨y,hy⟩:=yi (show k-1<I l by omega)
  have hc:=hq x (HW hx) y (HW hy)
  have hkl:k<I l:=by omega
  have hw1:yq.wrap ((k:Int)-1)=((k-1:Nat):Int):=by rw[A2];omega
  have hT':=hT y hy
  rw[dx hx,BX] at hT'
  cases hb:q x y with
  |true=>
   rw[hb] at hc
   obtain⟨ys,R,r1,r3,r5,r4⟩:=Ajz F l q hl hq k hk (by omega) _ k 1 l rfl hk (by omega) (by omega) (by omega) rfl (fun x h=>h) (fun _ _=>rfl) (fun p hp=>by
    have e:x=p:=Is (hx.symm.trans hp)
    rw[hb,Io rfl,e] at hT';exact hT')
   refine⟨ys,R,r1,r3,r5,?_⟩
   refine lv 66 [] (.t<|.m (dV x)<|.m (dV y)<|.c (db J)<|.k<|.h (.q 7 2)<|.h (.o (.arr 0 (k*2) (I l-k)) ⟨[G (Ad (l.map eV))],[]⟩)<|.lo [ke 0,ke 1,ke 5,ke 6,ch 7 (di (1:Nat))] ⟨[G (Ad (l.map eV))],[]⟩) (Y ((k:Int)<(I l:Int))=J/\0<=(k:Int)/\(k:Int)<(I l:Int)/\0+Z (k:Int)*2+2<=I (Ad (U eV l))/\take 2 (W (0+Z (k:Int)*2) (Ad (U eV l)))=[di x.n,cx x.az]/\0<=yr yq ((k:Int)-1)/\yr yq ((k:Int)-1)<(I l:Int)/\0+Z (yr yq ((k:Int)-1))*2+2<=I (Ad (U eV l))/\take 2 (W (0+Z (yr yq ((k:Int)-1))*2) (Ad (U eV l)))=[di y.n,cx y.az]/\F0 F [dV x,dV y] (db J)/\ym/\Ay PP (Oper.mk (G 31) (Op.slice 29 (Operand.tmp 29) (G (Operand.tmp 30)) none none) 29 "slices.go:402" #[Edge.mk 0 Ground.data,Edge.mk 1 Ground.data] none) [bo 0 0 (I l),di (k:Int)] (bi [G (Ad (U eV l))] []) (bo 0 (k*2) (I l-k)) (bi [G (Ad (U eV l))] [])/\di 1=di (↑1:Int)/\cp 1 [] [G (Ad (U eV l))]=J/\Q [G (Ad (U eV l))]/\I0 YS 1 (bo 0 0 (I ys)) (bi [G (Ad (U eV ys)++R)] []) [kl EH [1,1,0,1,0,0,1,0,0,1,0,1,0,1,0,0],bh 2,kc EH [1,1,0,1,0,0,1,0,0,1,0,1,1],bh 1,kc EH [1,1,0,1,0,0,1,1],kl EH [1,1,0,1,0,0],bh 0,kc EH [1,1,1]] (b9 66 [(0,bo 0 0 (I l)),(1,bt (bw F [] [])),(5,di (k:Int)),(6,bo 0 (k*2) (I l-k)),(7,di (↑1:Int))]) (bi [G (Ad (U eV l))] [])) ?_
   have hsl:∀(o:yw) (x:x5) (y:x5) (τ:St),o.op=.slice 29 x (G y) none none->Ay PP o [.arr 0 0 (I l),di k] τ (.arr 0 (k*2) (I l-k)) τ:=fun o x y τ ho=>by
    have:=Ch (P:=PP) (o:=o) (σ:=τ) ho qj (q:=0) (off:=0) (len:=I l) (G (.i64,(k:Int))) none rfl rfl (l':=k) (h':=I l) (by simp[Cf];omega) hkl
    rwa[IC] at this
   rw[hw1]
   exact⟨yp,by omega,by omega,by rw[show 0+Z (k:Int)*2=(k)*2 by omega];have:=El hx;omega,by rw[show 0+Z (k:Int)*2=(k)*2 by omega];exact Fk hx,by omega,by omega,by rw[show 0+Z ((k-1:Nat):Int)*2=(k-1)*2 by omega];have:=El hy;omega,by rw[show 0+Z ((k-1:Nat):Int)*2=(k-1)*2 by omega];exact Fk hy,hc,yk,hsl _ _ _ _ rfl,rfl,Ik.2 ⟨Az 1 [] _,rfl⟩,rfl,⟨r4⟩⟩
  |false=>
   rw[hb] at hc
   obtain⟨ys,R,r1,r3,r5,r4⟩:=ih (k+1) (by omega) (by omega) (by omega) (fun p hp=>by
    have e:x=p:=Is (hx.symm.trans hp)
    rw[hb,Ij (by decide)] at hT'
    rw[Jn,hx,Option.toList_some,IZ,List.singleton_append, ←e];exact hT')
   refine⟨ys,R,r1,r3,r5,?_⟩
   refine lv 66 [] (.t<|.m (dV x)<|.m (dV y)<|.c (db O)<|.lo [ke 0,ke 1,ch 5 (di (k+1:Nat))] ⟨[G (Ad (l.map eV))],[]⟩) (Y ((k:Int)<(I l:Int))=J/\0<=(k:Int)/\(k:Int)<(I l:Int)/\0+Z (k:Int)*2+2<=I (Ad (U eV l))/\take 2 (W (0+Z (k:Int)*2) (Ad (U eV l)))=[di x.n,cx x.az]/\0<=yr yq ((k:Int)-1)/\yr yq ((k:Int)-1)<(I l:Int)/\0+Z (yr yq ((k:Int)-1))*2+2<=I (Ad (U eV l))/\take 2 (W (0+Z (yr yq ((k:Int)-1))*2) (Ad (U eV l)))=[di y.n,cx y.az]/\F0 F [dV x,dV y] (db O)/\ym/\di (yr yq ((k:Int)+1))=di (↑(k+1):Int)/\cp 1 [] [G (Ad (U eV l))]=J/\Q [G (Ad (U eV l))]/\I0 YS 1 (bo 0 0 (I ys)) (bi [G (Ad (U eV ys)++R)] []) [kl EH [1,1,0,1,0,0],bh 0,kc EH [1,1,1]] (b9 66 [(0,bo 0 0 (I l)),(1,bt (bw F [] [])),(5,di (↑(k+1):Int))]) (bi [G (Ad (U eV l))] [])) ?_
   rw[hw1]
   exact⟨yp,by omega,by omega,by rw[show 0+Z (k:Int)*2=(k)*2 by omega];have:=El hx;omega,by rw[show 0+Z (k:Int)*2=(k)*2 by omega];exact Fk hx,by omega,by omega,by rw[show 0+Z ((k-1:Nat):Int)*2=(k-1)*2 by omega];have:=El hy;omega,by rw[show 0+Z ((k-1:Nat):Int)*2=(k-1)*2 by omega];exact Fk hy,hc,yk,As,Ik.2 ⟨Az 1 [] _,rfl⟩,rfl,⟨r4⟩⟩
theorem xl(F:yv)(l:List bd)(q:bd->bd->Bool)(hl:I l<=1000)(hq:∀x∈l,∀y∈l,F0 F [dV x,dV y] (db (q x y))):
  ∃R:List D,D.pls R=J/\R.all D.one=J/\Aa PP 93 [.arr 0 0 (I l),dfn F] ⟨[G (Ad (l.map eV))],[]⟩ (.arr 0 0 (I (AW q l))) ⟨[G (Ad ((AW q l).map eV)++R)],[]⟩:=by
 by_cases h2:I l<2
 ·refine⟨[],rfl,rfl,?_⟩
  rw[JJ q h2]
  exact sv YS 66 [] (.t .ro) (Y ((I l:Int)<2)=J/\cp 1 [] [G (Ad (U eV l))]=J/\[G (Ad (U eV l))]=[G (Ad (U eV l)++[])]/\Q (bo 0 0 (I l))) ⟨yp,Ik.2 ⟨Az 1 [] _,rfl⟩,by rw[IG],rfl⟩
 ·obtain⟨ys,R,r1,r3,r5,r4⟩:=Ag3 F l q hl hq _ 1 rfl (HX _) (by omega) (fun p hp=>Mu hp)
  subst r1
  refine⟨R,r3,r5,?_⟩
  exact sv YS 66 [] (.f<|.lo [ke 0,ke 1,ch 5 (di (1:Nat))] ⟨[G (Ad (l.map eV))],[]⟩) (Y ((I l:Int)<2)=O/\Q (di 1)/\cp 1 [] [G (Ad (U eV l))]=J/\Q [G (Ad (U eV l))]/\_) ⟨yo,rfl,Ik.2 ⟨Az 1 [] _,rfl⟩,rfl,iK r4⟩
abbrev s7(x:V):D:=.v (.ref x)
abbrev DD(m:ba)(r:cq)(ms:List (Int×Int)):List D:=[s7 (AE m),s7 (AD r),s7 (BS ms),.ptr 0 0,.ptr 1 0]
abbrev CO(b:Bool)(xs:List bd):St:=⟨[G [.gro 2 (I xs) 2],G [db b],G (Ad (xs.map eV))],[]⟩
abbrev Fv(b:Bool)(xs:List bd):St:=⟨[G [.gro 3 (I xs) 2],G [db b],none,G (Ad (xs.map eV))],[]⟩
noncomputable abbrev TB:=Tryz.f97
theorem AkQ(m:ba)(t:bc)(hm:Wn m t)(r:cq)(ms l:List (Int×Int))(hl:I l<=50)(hms:I ms<=50)(b:Bool):Aa PP 97 ([AC l]++DD m r ms) ⟨[G [.v .nils],G [db b]],[]⟩ (.tup []) (CO (b&&Aw t (DY r.to (l++ms))) [DY r.to (l++ms)]):=by
 have h2:=Pi m t hm r.to (l++ms) (by simp;omega)
 generalize Aw t (DY r.to (l++ms))=ok at h2⊢
 generalize DY r.to (l++ms)=v at h2⊢
 have hco:F0 99 [bt (ai [BS l,BS ms])] (AC (l++ms)):=by
  have:=Mx [l,ms] (by simp) (by simp;omega)
  simp only[Jx,flatten_nil,IG] at this
  exact this
 have hfA:∀z:Bool,[G [bm 3 1 2],G [db z],G [di v.n,bt (cc v.az)],G [di v.n,bt (cc v.az)]]=[G [bm 3 1 2],G [db z],G [di v.n,cx v.az],G (Ad ([v].map eV))]:=fun z=>by rw[AO];rfl
 have h:Aa PP 97 ([AC l]++DD m r ms) ⟨[G [.v .nils],G [db b]],[]⟩ (.tup []) ⟨[G [.gro 3 1 2],G [db (b&&ok)],G [di v.n,cx v.az],G (Ad ([v].map eV))],[]⟩:=by
  cases b with
  |true=>
   exact sv TB 28 [] (.h (.dr 11)<|.c (AC (l++ms))<|.c (.tup [dV v,db ok])<|.m (.v .nils)<|.m (dV v)<|.h (.p (.v (.list [Au v])))<|.h .g<|.ro) (_/\_/\Q [bi [G [dn],G [db J],G [di 0,dn]] []]/\True/\Q (G (dn))/\2<=2/\Q [di v.n,cx v.az]/\(∀(τ:St),Ay PP (Oper.mk (G 22) (Op.buildSlice 29 1 #[(0,Operand.tmp 21)]) 29 "timed.go:85" #[Edge.mk 1 Ground.data] none) [dV v] τ (bt (ai [Au v])) τ)/\[Au v]≠ []/\(∀(y:V),y∈ [Au v]->V.size y=2)/\A9 1 32/\(True/\True/\(Q (G [db J])/\True)/\True)/\([]:List KI)=[]/\cp 4 [] [G [bm 3 1 2],G [db ok],G [di v.n,cx v.az],G [di v.n,cx v.az]]=J/\[G [bm 3 1 2],G [db ok],G [di v.n,cx v.az],G [di v.n,cx v.az]]=[G [bm 3 1 2],G [db (true&&ok)],G [di v.n,cx v.az],G (Ad (eV v::nV))]/\Q (bl [])) ⟨hco,h2,rfl,trivial,rfl,HX _,rfl,fun τ=>l7 v τ rfl,by simp,fun y hy=>by rw[Ii.1 hy];rfl,⟨by decide,by decide⟩,⟨trivial,trivial,⟨rfl,trivial⟩,trivial⟩,rfl,rfl,hfA _,rfl⟩
  |false=>
   exact sv TB 28 [] (.h (.dr 11)<|.c (AC (l++ms))<|.c (.tup [dV v,db ok])<|.m (.v .nils)<|.m (dV v)<|.h (.p (.v (.list [Au v])))<|.h .g<|.ro) (_/\_/\Q [bi [G [dn],G [db O],G [di 0,dn]] []]/\True/\Q (G (dn))/\2<=2/\Q [di v.n,cx v.az]/\(∀(τ:St),Ay PP (Oper.mk (G 22) (Op.buildSlice 29 1 #[(0,Operand.tmp 21)]) 29 "timed.go:85" #[Edge.mk 1 Ground.data] none) [dV v] τ (bt (ai [Au v])) τ)/\[Au v]≠ []/\(∀(y:V),y∈ [Au v]->V.size y=2)/\A9 1 32/\(True/\True/\(Q (G [db O])/\True)/\True)/\([]:List KI)=[]/\cp 4 [] [G [bm 3 1 2],G [db O],G [di v.n,cx v.az],G [di v.n,cx v.az]]=J/\[G [bm 3 1 2],G [db O],G [di v.n,cx v.az],G [di v.n,cx v.az]]=[G [bm 3 1 2],G [db (false&&ok)],G [di v.n,cx v.az],G (Ad (eV v::nV))]/\Q (bl [])) ⟨hco,h2,rfl,trivial,rfl,HX _,rfl,fun τ=>l7 v τ rfl,by simp,fun y hy=>by rw[Ii.1 hy];rfl,⟨by decide,by decide⟩,⟨trivial,trivial,⟨rfl,trivial⟩,trivial⟩,rfl,rfl,hfA _,rfl⟩
 refine Gn (σ:=⟨[G [.v .nils],G [db b]],[]⟩) (fun i=>if i<2 then i else i+1) (show 2<=3 by decide) (fun i hi=>Io hi) (fun i j _ _ h=>?_) (fun i hi=>?_) (fun i cs hi=>?_) rfl h
 ·have h:(if i<2 then i else i+1)=(if j<2 then j else j+1):=h
  split at h<;>split at h<;>omega
 ·have hi:i<3:=hi
  show(if i<2 then i else i+1)<4
  split<;>omega
 ·match i,hi with
  |0,hi=>have hi:=Is (Is (hi:G (G _)=G (G cs)));subst hi;exact⟨rfl,rfl⟩
  |1,hi=>have hi:=Is (Is (hi:G (G _)=G (G cs)));subst hi;exact⟨rfl,rfl⟩
  |2,hi=>have hi:=Is (Is (hi:G (G _)=G (G cs)));subst hi;exact⟨by rw[AS (A5 _)];rfl,Az _ _ _⟩
  |i+3,hi=>simp at hi
theorem AkP(m:ba)(t:bc)(hm:Wn m t)(r:cq)(ms l:List (Int×Int))(hl:I l<=50)(hms:I ms<=50)(xs:List bd)(hx:I xs<=100000)(b:Bool):Aa PP 97 ([AC l]++DD m r ms) (CO b xs) (.tup []) (Fv (b&&Aw t (DY r.to (l++ms))) (xs++[DY r.to (l++ms)])):=by
 have h2:=Pi m t hm r.to (l++ms) (by simp;omega)
 generalize Aw t (DY r.to (l++ms))=ok at h2⊢
 generalize DY r.to (l++ms)=v at h2⊢
 have hco:F0 99 [bt (ai [BS l,BS ms])] (AC (l++ms)):=by
  have:=Mx [l,ms] (by simp) (by simp;omega)
  simp only[Jx,flatten_nil,IG] at this
  exact this
 have hfB:∀z:Bool,[G [bm 4 (I xs+[Au v].length) 2],G [db z],none,G [di v.n,bt (cc v.az)],G (Ad (xs.map eV)++[di v.n,bt (cc v.az)])]=[G [bm 4 (I (xs++[v])) 2],G [db z],none,G [di v.n,cx v.az],G (Ad ((xs++[v]).map eV))]:=fun z=>by
  rw[GS,Ig];rfl
 have hkB:∀z:Bool,cp 5 [] [G [bm 4 (I xs+[Au v].length) 2],G [db z],none,G [di v.n,bt (cc v.az)],G (Ad (xs.map eV)++[di v.n,bt (cc v.az)])]=J:=fun z=>by
  rw[GS];simp[cp,D.okNs,D.okN,Az]
 have h:Aa PP 97 ([AC l]++DD m r ms) (CO b xs) (.tup []) ⟨[G [.gro 4 (I (xs++[v])) 2],G [db (b&&ok)],none,G [di v.n,cx v.az],G (Ad ((xs++[v]).map eV))],[]⟩:=by
  cases b with
  |true=>
   exact sv TB 28 [] (.h (.dr 11)<|.c (AC (l++ms))<|.c (.tup [dV v,db ok])<|.m (.gro 2 (I xs) 2)<|.m (dV v)<|.h (.p (.v (.list [Au v])))<|.ro) (_/\_/\Q [bi [G [bm 2 (I xs) 2],G [db J],G (Ad (U eV xs)),G [di 0,dn]] []]/\True/\Q (G (bm 2 (I xs) 2))/\2<=2/\Q [di v.n,cx v.az]/\(∀(τ:St),Ay PP (Oper.mk (G 22) (Op.buildSlice 29 1 #[(0,Operand.tmp 21)]) 29 "timed.go:85" #[Edge.mk 1 Ground.data] none) [dV v] τ (bt (ai [Au v])) τ)/\I (Ad (U eV xs))=I xs*2/\[Au v]≠ []/\(∀(y:V),y∈ [Au v]->V.size y=2)/\A9 (I xs+I (Au v::nV)) 32/\(True/\True/\(Q (G [db J])/\True)/\True)/\([]:List KI)=[]/\cp 5 [] [G [bm 4 (I xs+I (Au v::nV)) 2],G [db ok],none,G [di v.n,cx v.az],G (Ad (U eV xs)++[di v.n,cx v.az])]=J/\[G [bm 4 (I xs+I (Au v::nV)) 2],G [db ok],none,G [di v.n,cx v.az],G (Ad (U eV xs)++[di v.n,cx v.az])]=[G [bm 4 (I (xs++[v])) 2],G [db (true&&ok)],none,G [di v.n,cx v.az],G (Ad (U eV (xs++[v])))]/\Q (bl [])) ⟨hco,h2,rfl,trivial,rfl,HX _,rfl,fun τ=>l7 v τ rfl,by rw[BC],by simp,fun y hy=>by rw[Ii.1 hy];rfl,⟨by simp only[HV,HZ];omega,by simp only[HV,HZ];omega⟩,⟨trivial,trivial,⟨rfl,trivial⟩,trivial⟩,rfl,hkB _,hfB _,rfl⟩
  |false=>
   exact sv TB 28 [] (.h (.dr 11)<|.c (AC (l++ms))<|.c (.tup [dV v,db ok])<|.m (.gro 2 (I xs) 2)<|.m (dV v)<|.h (.p (.v (.list [Au v])))<|.ro) (_/\_/\Q [bi [G [bm 2 (I xs) 2],G [db O],G (Ad (U eV xs)),G [di 0,dn]] []]/\True/\Q (G (bm 2 (I xs) 2))/\2<=2/\Q [di v.n,cx v.az]/\(∀(τ:St),Ay PP (Oper.mk (G 22) (Op.buildSlice 29 1 #[(0,Operand.tmp 21)]) 29 "timed.go:85" #[Edge.mk 1 Ground.data] none) [dV v] τ (bt (ai [Au v])) τ)/\I (Ad (U eV xs))=I xs*2/\[Au v]≠ []/\(∀(y:V),y∈ [Au v]->V.size y=2)/\A9 (I xs+I (Au v::nV)) 32/\(True/\True/\(Q (G [db O])/\True)/\True)/\([]:List KI)=[]/\cp 5 [] [G [bm 4 (I xs+I (Au v::nV)) 2],G [db O],none,G [di v.n,cx v.az],G (Ad (U eV xs)++[di v.n,cx v.az])]=J/\[G [bm 4 (I xs+I (Au v::nV)) 2],G [db O],none,G [di v.n,cx v.az],G (Ad (U eV xs)++[di v.n,cx v.az])]=[G [bm 4 (I (xs++[v])) 2],G [db (false&&ok)],none,G [di v.n,cx v.az],G (Ad (U eV (xs++[v])))]/\Q (bl [])) ⟨hco,h2,rfl,trivial,rfl,HX _,rfl,fun τ=>l7 v τ rfl,by rw[BC],by simp,fun y hy=>by rw[Ii.1 hy];rfl,⟨by simp only[HV,HZ];omega,by simp only[HV,HZ];omega⟩,⟨trivial,trivial,⟨rfl,trivial⟩,trivial⟩,rfl,hkB _,hfB _,rfl⟩
 refine Gn (σ:=CO b xs) (fun i=>if i<3 then i else i+1) (show 3<=4 by decide) (fun i hi=>Io hi) (fun i j _ _ h=>?_) (fun i hi=>?_) (fun i cs hi=>?_) rfl h
 ·have h:(if i<3 then i else i+1)=(if j<3 then j else j+1):=h
  split at h<;>split at h<;>omega
 ·have hi:i<4:=hi
  show(if i<3 then i else i+1)<5
  split<;>omega
 ·match i,hi with
  |0,hi=>have hi:=Is (Is (hi:G (G _)=G (G cs)));subst hi;exact⟨rfl,rfl⟩
  |1,hi=>have hi:=Is (Is (hi:G (G _)=G (G cs)));subst hi;exact⟨rfl,rfl⟩
  |2,hi=>simp at hi
  |3,hi=>have hi:=Is (Is (hi:G (G _)=G (G cs)));subst hi;exact⟨by rw[AS (A5 _)];rfl,Az _ _ _⟩
  |i+4,hi=>simp at hi
abbrev m7:yz:=126
theorem AhM:PP.underlying m7=G (.array 2 3):=by kernel_rfl
theorem Afo:(PP.info? 3).isSome=J:=by kernel_rfl
theorem Ab1:PP.cellsOf 3=1:=by kernel_rfl
theorem SM:PP.plainKey 3=J:=by kernel_rfl
theorem AhL:PP.underlying 3=G (.int .i64):=by kernel_rfl
theorem Ab0:PP.eqGuardType PP.depth m7=O:=by kernel_rfl
theorem Abn(d:Nat)(a b x y:Int)(w:yy):
  (Op.equalIn (d+2) m7 (.agg #[.int .i64 a,.int .i64 b]) (.agg #[.int .i64 x,.int .i64 y])).run PP w=.ok (a==x&&b==y) w:=by
 obtain⟨i,hi⟩:=Option.isSome_iff_exists.1 Afo
 rw[run_equalIn_array w (d+1) _ _ AhM hi,Ab1,show List.range 2=[0,1] from rfl]
 have e1:∀(x y:Int) w,(part 3 #[.int .i64 x,.int .i64 y] (0*1)).run PP w=.ok (.int .i64 x) w:=fun x y w=>run_part_plain w SM rfl
 have e2:∀(x y:Int) w,(part 3 #[.int .i64 x,.int .i64 y] (1*1)).run PP w=.ok (.int .i64 y) w:=fun x y w=>run_part_plain w SM rfl
 have e3:=fun(a x:Int) w=>run_equalIn_int (P:=PP) w d 3 .i64 .i64 a x AhL
 simp only[Op.eqItems,Sem.run_bind,e1,e2,e3,Result.andThen_ok,Jj]
 cases h1:(a==x)<;>cases h2:(b==y)<;>simp_all
theorem Gs{o:yw}{σ:St}{ty:yz}{p q:x5}(ho:o.op=.binOp .neq m7 p q ty)(a b x y:Int):Ay PP o [.v (cw (a,b)),.v (cw (x,y))] σ (db (!(a==x&&b==y))) σ:=by
 refine AA fun E g ρ w hw hds=>?_
 simp only[ho,Op.operands,A8] at hds
 obtain⟨u,v,e,h1,h2'⟩:=hds
 simp only[Iu,IP,Ie,I6] at e
 obtain⟨e1,e2⟩:=e
 simp only[Av,CF] at h1 h2'
 obtain⟨ws,h1,rfl⟩:=h1
 obtain⟨vs,h3,rfl⟩:=h2'
 have hw1:ws=[.int .i64 a,.int .i64 b]:=by
  simp only[repA,repC,Ie,I6] at h1
  obtain⟨u,us,rfl,_,rfl,u2,us2,rfl,_,rfl,rfl⟩:=h1;rfl
 have hw2:vs=[.int .i64 x,.int .i64 y]:=by
  simp only[repA,repC,Ie,I6] at h3
  obtain⟨u,us,rfl,_,rfl,u2,us2,rfl,_,rfl,rfl⟩:=h3;rfl
 subst hw1 hw2
 refine⟨.bool (!(a==x&&b==y)),?_,by simp[Av]⟩
 have hr:=Abn 9998 a b x y w
 simp[execOp,ho,e1,e2,run_eqGuard_agg w .neq m7 p q _ _ Ab0,run_neq_struct,hr]
abbrev gm(b:Bool):St:=⟨[G [.v .nils],G [db b]],[]⟩
abbrev Cz(m:ba)(r:cq)(ms:List (Int×Int)):D:=.dfn 97 [] (DD m r ms)
noncomputable abbrev CC:=Tryz.f95
noncomputable def DF:=yj CC
theorem Alb(m:ba)(t:bc)(hm:Wn m t)(r:cq)(ms l:List (Int×Int))(hl:I l<=50)(hms:I ms<=50)(b:Bool):Aa PP 95 [AC l,.v (AT []),Cz m r ms] (gm b) (.tup []) (CO (b&&Aw t (DY r.to (l++ms))) [DY r.to (l++ms)]):=by
 have h2:=AkQ m t hm r ms l hl hms b
 generalize Aw t (DY r.to (l++ms))=ok at h2⊢
 generalize DY r.to (l++ms)=v at h2⊢
 refine sv CC 71 [] (.t<|.h (.oc (.tup []) (CO (b&&ok) [v])) .ro) (((I (U ce []):Int)==0)=J/\(∀(o:yw) (c:Call) (fo:x5),o.op=Op.call c->c.callee=Callee.value fo->Ay PP o [Cz m r ms,AC l] (gm b) (bl []) (CO (b&&ok) [v]))/\cp 3 [] [G [bm 2 1 2],G [db (b&&ok)],G (Ad [eV v])]=J/\Q [G [bm 2 1 2],G [db (b&&ok)],G (Ad (eV v::nV))]/\Q (bl [])) ⟨rfl,fun o cl fo ho hc=>?_,by rw[←show Ad ([v].map eV)=Ad [eV v] from rfl];simp[cp,D.okNs,D.okN,Az],rfl,rfl⟩
 exact C9 (H:=[[.v .nils],[db b]]) ho hc (fs:=[]) (cs:=DD m r ms) (ds:=[AC l]) rfl h2 rfl (fun cs hm=>by
  simp at hm;rcases hm with rfl|rfl<;>exact⟨rfl,rfl⟩) rfl (by simp[cp,D.okNs,D.okN,Az]) (by show 2<=3;decide)
theorem Ala(m:ba)(t:bc)(hm:Wn m t)(r:cq)(ms l:List (Int×Int))(hl:I l<=50)(hms:I ms<=50)(xs:List bd)(hx:I xs<=100000)(b:Bool):Aa PP 95 [AC l,.v (AT []),Cz m r ms] (CO b xs) (.tup []) (Fv (b&&Aw t (DY r.to (l++ms))) (xs++[DY r.to (l++ms)])):=by
 have h2:=AkP m t hm r ms l hl hms xs hx b
 generalize Aw t (DY r.to (l++ms))=ok at h2⊢
 generalize DY r.to (l++ms)=v at h2⊢
 refine sv CC 71 [] (.t<|.h (.oc (.tup []) (Fv (b&&ok) (xs++[v]))) .ro) (((I (U ce []):Int)==0)=J/\(∀(o:yw) (c:Call) (fo:x5),o.op=Op.call c->c.callee=Callee.value fo->Ay PP o [Cz m r ms,AC l] (CO b xs) (bl []) (Fv (b&&ok) (xs++[v])))/\cp 4 [] [G [bm 3 (I (xs++[v])) 2],G [db (b&&ok)],none,G (Ad (U eV (xs++[v])))]=J/\Q [G [bm 3 (I (xs++[v])) 2],G [db (b&&ok)],none,G (Ad (U eV (xs++[v])))]/\Q (bl [])) ⟨rfl,fun o cl fo ho hc=>?_,by simp[cp,D.okNs,D.okN,Az],rfl,rfl⟩
 exact C9 (H:=[[.gro 2 (I xs) 2],[db b],Ad (xs.map eV)]) ho hc (fs:=[]) (cs:=DD m r ms) (ds:=[AC l]) rfl h2 rfl (fun cs hm=>by
  simp at hm;rcases hm with rfl|rfl|rfl
  ·exact⟨rfl,rfl⟩
  ·exact⟨rfl,rfl⟩
  ·exact⟨Az _ _ _,CA _⟩) rfl (by simp[cp,D.okNs,D.okN,Az]) (by show 3<=4;decide)
abbrev kf(b:Bool):St:=⟨[G [.v .nils],G [db b],none],[]⟩
def pz(b:Bool):List bd->St
 |[]=>gm b
 |x::xs=>CO b (x::xs)
def m6(b:Bool):List bd->List bd->St
 |xs,[]=>pz b xs
 |[],y::ys=>CO b (y::ys)
 |x::xs,y::ys=>Fv b (x::xs++y::ys)
theorem P9{b:Bool}{xs:List bd}(h:xs≠ []):pz b xs=CO b xs:=by
 cases xs with
 |nil=>exact absurd rfl h
 |cons x xs=>rfl
theorem Xe{b:Bool}{xs:List bd}:m6 b xs []=pz b xs:=by cases xs<;>rfl
theorem qh{b:Bool}{ys:List bd}(h:ys≠ []):m6 b [] ys=CO b ys:=by
 cases ys with
 |nil=>exact absurd rfl h
 |cons y ys=>rfl
theorem t8{b:Bool}{xs ys:List bd}(h:xs≠ [])(h2:ys≠ []):m6 b xs ys=Fv b (xs++ys):=by
 cases xs with
 |nil=>exact absurd rfl h
 |cons x xs=>cases ys with
  |nil=>exact absurd rfl h2
  |cons y ys=>rfl
theorem BN{l:List (Int×Int)}{k:Nat}{x:Int×Int}(h:l[k]?=G x):(l.map cw)[Z (k:Int)]?=G (cw x):=by rw[Ji,I9,h];rfl
def Rm(tk:Tk)(l:List (Int×Int))(k:Nat):Bool:=match l[k]? with
 |some x=>(x.1==tk.place)&&(decide (x.2>=tk.low)&&(decide (x.2<=tk.high)&&(((k:Int)==0)||(match l[k-1]? with
  |some y=> !(y.1==x.1&&y.2==x.2)
  |none=>true))))
 |none=>false
theorem D4(tk:Tk){l:List (Int×Int)}{k:Nat}{x:Int×Int}(h:l[k]?=G x):Rm tk l k=((x.1==tk.place)&&(decide (x.2>=tk.low)&&(decide (x.2<=tk.high)&&(((k:Int)==0)||(match l[k-1]? with
  |some y=> !(y.1==x.1&&y.2==x.2)
  |none=>true))))):=by
 unfold Rm;rw[h]
theorem FY(l:List (Int×Int))(hl:I l<=50)(k:Nat)(hk:k<I l):F0 99 [bt (ai [ai (W 0 (take (Z (k:Int)) (l.map cw))),ai (W (Z ((k+1:Nat):Int)) (take (I (l.map cw)) (l.map cw)))])] (AC (l.take k++l.drop (k+1))):=by
 have h:=Mx [l.take k,l.drop (k+1)] (by simp) (by simp;omega)
 simp only[Jx,flatten_nil,IG] at h
 have e:bt (ai [ai (W 0 (take (Z (k:Int)) (l.map cw))),ai (W (Z ((k+1:Nat):Int)) (take (I (l.map cw)) (l.map cw)))])=dl (Eo [l.take k,l.drop (k+1)]):=by
  rw[Iw (HX _),J1,Ji,Ji, ←List.map_take, ←List.map_drop];rfl
 rw[e];exact h
theorem AQ{n:Nat}{qs:List Nat}:∀{dcs ds:List D},D.okNs (I qs) [] dcs=J->ds=D.rens (dv n qs) id dcs->GA n qs ds dcs
 |[],ds,_,e=>by
  have e:ds=[]:=e
  subst e;exact .nil
 |d::dcs,ds,h,e=>by
  have e:ds=d.ren (dv n qs) id::D.rens (dv n qs) id dcs:=e
  subst e
  simp only[D.okNs,HR] at h
  exact .cons (.ren h.1) (AQ h.2 rfl)
theorem FJ{tk:Tk}{ts:List Tk}{L:List V}(h:L=(tk::ts).map ce):ai (W (Z 1) (take (I L) L))=AT ts:=by
 rw[Iw (HX _),h];rfl
theorem FK{tk:Tk}{ts:List Tk}{L:List V}(h:L=(tk::ts).map ce):∀y∈L,y.size=3:=fun y hy=>by
 rw[h] at hy
 obtain⟨z,_,rfl⟩:=IA.1 hy;rfl
theorem ET{tk:Tk}{ts:List Tk}{L:List V}(h:L=(tk::ts).map ce):(1:Int)<=((I L:Nat):Int):=by
 rw[h,HP,HV];omega
theorem wr{M:Nat}(hM:M<=3){R:List D->St->Prop}{ks:List KI}{e e':List D}(x:Int×Int)(ws:List bd)(b:Bool)(he:D.okNs 4 [] e'=J)(hee:e=D.rens (fun i=>if i<3 then i else i+1) id e')
  (h:AI (CN M) PP R ks e' (Fv b ws)):AI (CN M) PP R ks e ⟨[G [.gro 4 (I ws) 2],G [db b],none,G [di x.1,di x.2],G (Ad (ws.map eV))],[]⟩:=by
 refine Dk (σ:=⟨[G [.gro 4 (I ws) 2],G [db b],none,G [di x.1,di x.2],G (Ad (ws.map eV))],[]⟩) (e':=e') (H':=(Fv b ws).H) (m:=M) (fun _ _ h=>h.2) (fun i=>if i<3 then i else i+1) (show M<=4 by omega) (fun i hi=>Io (by omega)) (fun i j _ _ h=>?_) (fun i cs hi=>?_) he hee h
 ·have h:(if i<3 then i else i+1)=(if j<3 then j else j+1):=h
  split at h<;>split at h<;>omega
 ·match i,hi with
  |0,hi=>have hi:=Is (Is (hi:G (G _)=G (G cs)));subst hi;exact⟨rfl,rfl⟩
  |1,hi=>have hi:=Is (Is (hi:G (G _)=G (G cs)));subst hi;exact⟨rfl,rfl⟩
  |2,hi=>simp at hi
  |3,hi=>have hi:=Is (Is (hi:G (G _)=G (G cs)));subst hi;exact⟨by rw[AS (A5 _)];rfl,Az _ _ _⟩
  |i+4,hi=>simp at hi
theorem wq{M:Nat}(hM:M<=3){R:List D->St->Prop}{ks:List KI}{e e':List D}(x:Int×Int)(ws:List bd)(b:Bool)(he:D.okNs 4 [] e'=J)(hee:e=D.rens (fun i=>if i<3 then i else i+2) id e')
  (h:AI (CN M) PP R ks e' (Fv b ws)):AI (CN M) PP R ks e ⟨[G [.gro 5 (I ws) 2],G [db b],none,none,G [di x.1,di x.2],G (Ad (ws.map eV))],[]⟩:=by
 refine Dk (σ:=⟨[G [.gro 5 (I ws) 2],G [db b],none,none,G [di x.1,di x.2],G (Ad (ws.map eV))],[]⟩) (e':=e') (H':=(Fv b ws).H) (m:=M) (fun _ _ h=>h.2) (fun i=>if i<3 then i else i+2) (show M<=4 by omega) (fun i hi=>Io (by omega)) (fun i j _ _ h=>?_) (fun i cs hi=>?_) he hee h
 ·have h:(if i<3 then i else i+2)=(if j<3 then j else j+2):=h
  split at h<;>split at h<;>omega
 ·match i,hi with
  |0,hi=>have hi:=Is (Is (hi:G (G _)=G (G cs)));subst hi;exact⟨rfl,rfl⟩
  |1,hi=>have hi:=Is (Is (hi:G (G _)=G (G cs)));subst hi;exact⟨rfl,rfl⟩
  |2,hi=>simp at hi
  |3,hi=>have hi:=Is (Is (hi:G (G _)=G (G cs)));subst hi;exact⟨by rw[AS (A5 _)];rfl,Az _ _ _⟩
  |i+4,hi=>simp at hi
theorem AjZ(m:ba)(r:cq)(ms l:List (Int×Int))(ts:List Tk)(x:Int×Int)(ys:List bd)(b b2:Bool){o:yw}{c:Call}{fo:x5}(ho:o.op=.call c)(hc:c.callee=.value fo)
  (h:Aa PP 95 [AC l,.v (AT ts),Cz m r ms] (gm b) (.tup []) (CO b2 ys)):
  Ay PP o [.v (.fn 95 [] []),AC l,.v (AT ts),Cz m r ms] ⟨[G [.v .nils],G [db b],none,G [di x.1,di x.2]],[]⟩ (.tup []) ⟨[G [.gro 4 (I ys) 2],G [db b2],none,G [di x.1,di x.2],G (Ad ((ys).map eV))],[]⟩:=by
 have h2:=B7 (σ:=⟨[G [.v .nils],G [db b],none,G [di x.1,di x.2]],[]⟩) ho hc (fD:=.v (.fn 95 [] [])) (fs:=[]) (cs:=[]) (ds:=[AC l,.v (AT ts),Cz m r ms]) rfl [0,1] id h
  (AQ rfl rfl) (.cons rfl (AQ rfl rfl) rfl (.cons rfl (AQ rfl rfl) rfl .nil)) (by decide) rfl (by simp) (by simp) rfl (by simp[cp,D.okNs,D.okN,Az])
 have e:Dp (dv 4 [0,1]) id (CO b2 ys).H=[G [.gro 4 (I ys) 2],G [db b2],G (Ad ((ys).map eV))]:=by
  show [G _,G _,G (D.rens _ _ _)]=_
  rw[AS (A5 _)];rfl
 have h2:Ay PP o _ _ _ ⟨CM _ _ (Dp (dv 4 [0,1]) id (CO b2 ys).H),_⟩:=h2
 rw[e] at h2
 exact h2
theorem AjY(m:ba)(r:cq)(ms l:List (Int×Int))(ts:List Tk)(x:Int×Int)(xs:List bd)(ys:List bd)(b b2:Bool){o:yw}{c:Call}{fo:x5}(ho:o.op=.call c)(hc:c.callee=.value fo)
  (h:Aa PP 95 [AC l,.v (AT ts),Cz m r ms] (CO b xs) (.tup []) (Fv b2 (xs++ys))):
  Ay PP o [.v (.fn 95 [] []),AC l,.v (AT ts),Cz m r ms] ⟨[G [.gro 2 (I xs) 2],G [db b],G (Ad (xs.map eV)),G [di x.1,di x.2]],[]⟩ (.tup []) ⟨[G [.gro 4 (I (xs++ys)) 2],G [db b2],none,G [di x.1,di x.2],G (Ad ((xs++ys).map eV))],[]⟩:=by
 have h2:=B7 (σ:=⟨[G [.gro 2 (I xs) 2],G [db b],G (Ad (xs.map eV)),G [di x.1,di x.2]],[]⟩) ho hc (fD:=.v (.fn 95 [] [])) (fs:=[]) (cs:=[]) (ds:=[AC l,.v (AT ts),Cz m r ms]) rfl [0,1,2] id h
  (AQ rfl rfl) (.cons rfl (AQ rfl rfl) rfl (.cons rfl (AQ rfl rfl) rfl (.cons rfl (AQ (Az _ _ _) (AS (A5 _)).symm) (CA _) .nil))) (by decide) rfl (by simp) (by simp) rfl (by simp[cp,D.okNs,D.okN,Az])
 have e:Dp (dv 4 [0,1,2]) id (Fv b2 (xs++ys)).H=[G [.gro 4 (I (xs++ys)) 2],G [db b2],none,G (Ad ((xs++ys).map eV))]:=by
  show [G _,G _,none,G (D.rens _ _ _)]=_
  rw[AS (A5 _)];rfl
 have h2:Ay PP o _ _ _ ⟨CM _ _ (Dp (dv 4 [0,1,2]) id (Fv b2 (xs++ys)).H),_⟩:=h2
 rw[e] at h2
 exact h2
theorem AjX(m:ba)(r:cq)(ms l:List (Int×Int))(ts:List Tk)(x:Int×Int)(xs:List bd)(ys:List bd)(b b2:Bool){o:yw}{c:Call}{fo:x5}(ho:o.op=.call c)(hc:c.callee=.value fo)
  (h:Aa PP 95 [AC l,.v (AT ts),Cz m r ms] (CO b xs) (.tup []) (Fv b2 (xs++ys))):
  Ay PP o [.v (.fn 95 [] []),AC l,.v (AT ts),Cz m r ms] ⟨[G [.gro 3 (I xs) 2],G [db b],none,G (Ad (xs.map eV)),G [di x.1,di x.2]],[]⟩ (.tup []) ⟨[G [.gro 5 (I (xs++ys)) 2],G [db b2],none,none,G [di x.1,di x.2],G (Ad ((xs++ys).map eV))],[]⟩:=by
 have h2:=B7 (σ:=⟨[G [.gro 3 (I xs) 2],G [db b],none,G (Ad (xs.map eV)),G [di x.1,di x.2]],[]⟩) ho hc (fD:=.v (.fn 95 [] [])) (fs:=[]) (cs:=[]) (ds:=[AC l,.v (AT ts),Cz m r ms]) rfl [0,1,3] id h
  (AQ rfl rfl) (.cons rfl (AQ rfl rfl) rfl (.cons rfl (AQ rfl rfl) rfl (.cons rfl (AQ (Az _ _ _) (AS (A5 _)).symm) (CA _) .nil))) (by decide) rfl (by simp) (by simp) rfl (by simp[cp,D.okNs,D.okN,Az])
 have e:Dp (dv 5 [0,1,3]) id (Fv b2 (xs++ys)).H=[G [.gro 5 (I (xs++ys)) 2],G [db b2],none,G (Ad ((xs++ys).map eV))]:=by
  show [G _,G _,none,G (D.rens _ _ _)]=_
  rw[AS (A5 _)];rfl
 have h2:Ay PP o _ _ _ ⟨CM _ _ (Dp (dv 5 [0,1,3]) id (Fv b2 (xs++ys)).H),_⟩:=h2
 rw[e] at h2
 exact h2
theorem AhZ(m:ba)(r:cq)(ms l:List (Int×Int))(ts:List Tk)(x:Int×Int)(xs:List bd)(ys:List bd)(b b2:Bool){o:yw}{c:Call}{fo:x5}(ho:o.op=.call c)(hc:c.callee=.value fo)
  (h:Aa PP 95 [AC l,.v (AT ts),Cz m r ms] (CO b xs) (.tup []) (CO b2 xs)):
  Ay PP o [.v (.fn 95 [] []),AC l,.v (AT ts),Cz m r ms] ⟨[G [.gro 2 (I xs) 2],G [db b],G (Ad (xs.map eV)),G [di x.1,di x.2]],[]⟩ (.tup []) ⟨[G [.gro 2 (I xs) 2],G [db b2],G (Ad ((xs).map eV)),G [di x.1,di x.2]],[]⟩:=by
 have h2:=B7 (σ:=⟨[G [.gro 2 (I xs) 2],G [db b],G (Ad (xs.map eV)),G [di x.1,di x.2]],[]⟩) ho hc (fD:=.v (.fn 95 [] [])) (fs:=[]) (cs:=[]) (ds:=[AC l,.v (AT ts),Cz m r ms]) rfl [0,1,2] id h
  (AQ rfl rfl) (.cons rfl (AQ rfl rfl) rfl (.cons rfl (AQ rfl rfl) rfl (.cons rfl (AQ (Az _ _ _) (AS (A5 _)).symm) (CA _) .nil))) (by decide) rfl (by simp) (by simp) rfl (by simp[cp,D.okNs,D.okN,Az])
 have e:Dp (dv 4 [0,1,2]) id (CO b2 xs).H=[G [.gro 2 (I xs) 2],G [db b2],G (Ad ((xs).map eV))]:=by
  show [G _,G _,G (D.rens _ _ _)]=_
  rw[AS (A5 _)];rfl
 have h2:Ay PP o _ _ _ ⟨CM _ _ (Dp (dv 4 [0,1,2]) id (CO b2 xs).H),_⟩:=h2
 rw[e] at h2
 exact h2
theorem AhY(m:ba)(r:cq)(ms l:List (Int×Int))(ts:List Tk)(x:Int×Int)(xs:List bd)(ys:List bd)(b b2:Bool){o:yw}{c:Call}{fo:x5}(ho:o.op=.call c)(hc:c.callee=.value fo)
  (h:Aa PP 95 [AC l,.v (AT ts),Cz m r ms] (CO b xs) (.tup []) (CO b2 xs)):
  Ay PP o [.v (.fn 95 [] []),AC l,.v (AT ts),Cz m r ms] ⟨[G [.gro 3 (I xs) 2],G [db b],none,G (Ad (xs.map eV)),G [di x.1,di x.2]],[]⟩ (.tup []) ⟨[G [.gro 3 (I xs) 2],G [db b2],none,G (Ad ((xs).map eV)),G [di x.1,di x.2]],[]⟩:=by
 have h2:=B7 (σ:=⟨[G [.gro 3 (I xs) 2],G [db b],none,G (Ad (xs.map eV)),G [di x.1,di x.2]],[]⟩) ho hc (fD:=.v (.fn 95 [] [])) (fs:=[]) (cs:=[]) (ds:=[AC l,.v (AT ts),Cz m r ms]) rfl [0,1,3] id h
  (AQ rfl rfl) (.cons rfl (AQ rfl rfl) rfl (.cons rfl (AQ rfl rfl) rfl (.cons rfl (AQ (Az _ _ _) (AS (A5 _)).symm) (CA _) .nil))) (by decide) rfl (by simp) (by simp) rfl (by simp[cp,D.okNs,D.okN,Az])
 have e:Dp (dv 5 [0,1,3]) id (CO b2 xs).H=[G [.gro 3 (I xs) 2],G [db b2],G (Ad ((xs).map eV))]:=by
  show [G _,G _,G (D.rens _ _ _)]=_
  rw[AS (A5 _)];rfl
 have h2:Ay PP o _ _ _ ⟨CM _ _ (Dp (dv 5 [0,1,3]) id (CO b2 xs).H),_⟩:=h2
 rw[e] at h2
 exact h2
theorem Aia(m:ba)(r:cq)(ms l:List (Int×Int))(ts:List Tk)(x:Int×Int)(b b2:Bool){o:yw}{c:Call}{fo:x5}(ho:o.op=.call c)(hc:c.callee=.value fo)
  (h:Aa PP 95 [AC l,.v (AT ts),Cz m r ms] (gm b) (.tup []) (gm b2)):
  Ay PP o [.v (.fn 95 [] []),AC l,.v (AT ts),Cz m r ms] ⟨[G [.v .nils],G [db b],none,G [di x.1,di x.2]],[]⟩ (.tup []) ⟨[G [.v .nils],G [db b2],none,G [di x.1,di x.2]],[]⟩:=
 B7 (σ:=⟨[G [.v .nils],G [db b],none,G [di x.1,di x.2]],[]⟩) ho hc (fD:=.v (.fn 95 [] [])) (fs:=[]) (cs:=[]) (ds:=[AC l,.v (AT ts),Cz m r ms]) rfl [0,1] id h
  (AQ rfl rfl) (.cons rfl (AQ rfl rfl) rfl (.cons rfl (AQ rfl rfl) rfl .nil)) (by decide) rfl (by simp) (by simp) rfl (by simp[cp,D.okNs,D.okN])
theorem Ajg(m:ba)(r:cq)(ms l:List (Int×Int))(hl:I l<=50)(tk:Tk)(ts:List Tk)(L:List V)(hL:L=(tk::ts).map ce)(g:D)(b:Bool)(d2:Option (List D))(k:Nat)(x:Int×Int)(hx:l[k]?=G x)(S:St)(hok:∀b,cp 3 [] [G [g],G [db b],d2]=J)
  (ihy:Rm tk l k=J->(∃b2:Bool,(∀(o:yw) (c:Call) (fo:x5),o.op=.call c->c.callee=.value fo->Ay PP o [.v (.fn 95 [] []),AC (l.take k++l.drop (k+1)),.v (AT ts),Cz m r ms] ⟨[G [g],G [db b],d2,G [di x.1,di x.2]],[]⟩ (.tup []) ⟨[G [g],G [db b2],d2,G [di x.1,di x.2]],[]⟩)/\Rn PP CC 3 (.tup []) S ([kl DF [1,1,1,0,0],.blk 0]++[]) (b9 71 [(0,AC l),(1,.v (.list L)),(2,Cz m r ms),(6,.v (.ref (ce tk))),(18,AC l),(19,di (I l)),(20,di (k+1:Nat))]) ⟨[G [g],G [db b2],d2],[]⟩)∨∃(b2:Bool) (ws:List bd),(∀(o:yw) (c:Call) (fo:x5),o.op=.call c->c.callee=.value fo->Ay PP o [.v (.fn 95 [] []),AC (l.take k++l.drop (k+1)),.v (AT ts),Cz m r ms] ⟨[G [g],G [db b],d2,G [di x.1,di x.2]],[]⟩ (.tup []) ⟨[G [.gro 4 (I ws) 2],G [db b2],none,G [di x.1,di x.2],G (Ad (ws.map eV))],[]⟩)/\Rn PP CC 3 (.tup []) S ([kl DF [1,1,1,0,0],.blk 0]++[]) (b9 71 [(0,AC l),(1,.v (.list L)),(2,Cz m r ms),(6,.v (.ref (ce tk))),(18,AC l),(19,di (I l)),(20,di (k+1:Nat))]) (Fv b2 ws))
  (ihn:Rm tk l k=O->Rn PP CC 3 (.tup []) S ([kl DF [1,1,1,0,0],.blk 0]++[]) (b9 71 [(0,AC l),(1,.v (.list L)),(2,Cz m r ms),(6,.v (.ref (ce tk))),(18,AC l),(19,di (I l)),(20,di (k+1:Nat))]) ⟨[G [g],G [db b],d2],[]⟩):
  Rn PP CC 3 (.tup []) S ([kl DF [1,1,1,0,0],.blk 0]++[]) (b9 71 [(0,AC l),(1,.v (.list L)),(2,Cz m r ms),(6,.v (.ref (ce tk))),(18,AC l),(19,di (I l)),(20,di k)]) ⟨[G [g],G [db b],d2],[]⟩:=by
 have hk:k<I l:=(HT.1 hx).1
 have hw1:yq.wrap ((k:Int)-1)=((k-1:Nat):Int)∨k=0:=by
  by_cases h:k=0
  ·exact .inr h
  ·left;rw[A2];omega
 have hw2:yq.wrap ((k:Int)+1)=((k+1:Nat):Int):=by rw[A2];omega
 have szp:∀y∈l.map cw,y.size=2:=fun y hy=>by obtain⟨z,_,rfl⟩:=IA.1 hy;rfl
 by_cases c1:(x.1==tk.place)=J
 ·by_cases c2:decide (x.2>=tk.low)=J
  ·by_cases c3:decide (x.2<=tk.high)=J
   ·by_cases c4:((k:Int)==0)=J
    ·rcases ihy (by rw[D4 tk hx];simp only[c1,c2,c3,c4];rfl) with⟨b2,v2,r3⟩|⟨b2,ws,v2,r3⟩
     ·refine lv 71 [] (.t<|.x (cw x)<|.t<|.t<|.t<|.t<|.c (AC (l.take k++l.drop (k+1)))<|.h (.oc (.tup []) ⟨[G [g],G [db b2],d2,G [di x.1,di x.2]],[]⟩)<|.lo [ke 0,ke 1,ke 2,ke 6,ke 18,ke 19,ch 20 (di (k+1:Nat))] ⟨[G [g],G [db b2],d2],[]⟩) (decide ((k:Int)<(I l:Int))=J/\0<=(k:Int)/\(U cw l)[Z (k:Int)]?=G (cw x)/\iz 0<=0/\0<(↑2:Int)/\(x.fst==tk.place)=J/\iz 0<=1/\1<(↑2:Int)/\decide (x.snd>=tk.low)=J/\iz 0<=1/\1<(↑2:Int)/\decide (x.snd<=tk.high)=J/\((k:Int)==0)=J/\(yh (True))/\(∀(x:V),x∈U cw l->V.size x=2)/\0<=(fun x=>x.snd) (yq,(k:Int))/\(fun x=>x.snd) (yq,(k:Int))<=(I (U cw l):Int)/\(∀(x:V),x∈U cw l->V.size x=2)/\0<=(fun x=>x.snd) (yq,yr yq ((k:Int)+1))/\(fun x=>x.snd) (yq,yr yq ((k:Int)+1))<=(I (U cw l):Int)/\F0 99 [bt (ai [ai (W 0 (take (Z ((fun x=>x.snd) (yq,(k:Int)))) (U cw l))),ai (W (Z ((fun x=>x.snd) (yq,yr yq ((k:Int)+1)))) (take (I (U cw l)) (U cw l)))])] (AC (take k l++W (k+1) l))/\(∀(x:V),x∈L->V.size x=3)/\0<=(1:Int)/\(1:Int)<=(I L:Int)/\(∀(o:yw) (c:Call) (fo:x5),o.op=Op.call c->c.callee=Callee.value fo->Ay PP o [bt (bw 95 [] []),AC (take k l++W (k+1) l),bt (ai (W (Z ((1:Int))) (take (I L) L))),D.dfn 97 [] (DD m r ms)] (bi [G [g],G [db b],d2,G [di x.fst,di x.snd]] []) (bl []) (bi [G [g],G [db b2],d2,G [di x.fst,di x.snd]] []))/\di (yr yq ((k:Int)+1))=di (↑(k+1):Int)/\cp 3 [] [G [g],G [db b2],d2]=J/\Q [G [g],G [db b2],d2]/\I0 CC 3 (bl []) S [kl DF [1,1,1,0,0],bh 0] (b9 71 [(0,bt (BS l)),(1,bt (ai L)),(2,D.dfn 97 [] (DD m r ms)),(6,bt (bz (ce tk))),(18,bt (BS l)),(19,di (I l:Int)),(20,di (↑(k+1):Int))]) (bi [G [g],G [db b2],d2] [])) ?_
      rw[hw2]
      exact⟨decide_eq_true (by omega),by omega,BN hx,Int.le_refl _,by decide,c1,by decide,by decide,c2,by decide,by decide,c3,c4,by repeat' first|with_reducible refine And.intro ?_ ?_|rfl|trivial,szp,(by show(0:Int)<=(k:Int);omega),(by show(k:Int)<=((I (l.map cw):Nat):Int);rw[length_map];omega),szp,(by show(0:Int)<=((k+1:Nat):Int);omega),(by show((k+1:Nat):Int)<=((I (l.map cw):Nat):Int);rw[length_map];omega),FY l hl k hk,FK hL,by decide,ET hL,fun o cl fo ho hc=>by rw[FJ hL];exact v2 o cl fo ho hc,rfl,hok b2,rfl,⟨r3⟩⟩
     ·refine lv 71 [] (.t<|.x (cw x)<|.t<|.t<|.t<|.t<|.c (AC (l.take k++l.drop (k+1)))<|.h (.oc (.tup []) ⟨[G [.gro 4 (I ws) 2],G [db b2],none,G [di x.1,di x.2],G (Ad (ws.map eV))],[]⟩)<|.lo [ke 0,ke 1,ke 2,ke 6,ke 18,ke 19,ch 20 (di (k+1:Nat))] ⟨[G [.gro 4 (I ws) 2],G [db b2],none,G [di x.1,di x.2],G (Ad (ws.map eV))],[]⟩) (decide ((k:Int)<(I l:Int))=J/\0<=(k:Int)/\(U cw l)[Z (k:Int)]?=G (cw x)/\iz 0<=0/\0<(↑2:Int)/\(x.fst==tk.place)=J/\iz 0<=1/\1<(↑2:Int)/\decide (x.snd>=tk.low)=J/\iz 0<=1/\1<(↑2:Int)/\decide (x.snd<=tk.high)=J/\((k:Int)==0)=J/\(yh (True))/\(∀(x:V),x∈U cw l->V.size x=2)/\0<=(fun x=>x.snd) (yq,(k:Int))/\(fun x=>x.snd) (yq,(k:Int))<=(I (U cw l):Int)/\(∀(x:V),x∈U cw l->V.size x=2)/\0<=(fun x=>x.snd) (yq,yr yq ((k:Int)+1))/\(fun x=>x.snd) (yq,yr yq ((k:Int)+1))<=(I (U cw l):Int)/\F0 99 [bt (ai [ai (W 0 (take (Z ((fun x=>x.snd) (yq,(k:Int)))) (U cw l))),ai (W (Z ((fun x=>x.snd) (yq,yr yq ((k:Int)+1)))) (take (I (U cw l)) (U cw l)))])] (AC (take k l++W (k+1) l))/\(∀(x:V),x∈L->V.size x=3)/\0<=(1:Int)/\(1:Int)<=(I L:Int)/\(∀(o:yw) (c:Call) (fo:x5),o.op=Op.call c->c.callee=Callee.value fo->Ay PP o [bt (bw 95 [] []),AC (take k l++W (k+1) l),bt (ai (W (Z ((1:Int))) (take (I L) L))),D.dfn 97 [] (DD m r ms)] (bi [G [g],G [db b],d2,G [di x.fst,di x.snd]] []) (bl []) (bi [G [bm 4 (I ws) 2],G [db b2],none,G [di x.fst,di x.snd],G (Ad (U eV ws))] []))/\di (yr yq ((k:Int)+1))=di (↑(k+1):Int)/\cp 5 [] [G [bm 4 (I ws) 2],G [db b2],none,G [di x.fst,di x.snd],G (Ad (U eV ws))]=J/\Q [G [bm 4 (I ws) 2],G [db b2],none,G [di x.fst,di x.snd],G (Ad (U eV ws))]/\I0 CC 3 (bl []) S [kl DF [1,1,1,0,0],bh 0] (b9 71 [(0,bt (BS l)),(1,bt (ai L)),(2,D.dfn 97 [] (DD m r ms)),(6,bt (bz (ce tk))),(18,bt (BS l)),(19,di (I l:Int)),(20,di (↑(k+1):Int))]) (bi [G [bm 4 (I ws) 2],G [db b2],none,G [di x.fst,di x.snd],G (Ad (U eV ws))] [])) ?_
      rw[hw2]
      exact⟨decide_eq_true (by omega),by omega,BN hx,Int.le_refl _,by decide,c1,by decide,by decide,c2,by decide,by decide,c3,c4,by repeat' first|with_reducible refine And.intro ?_ ?_|rfl|trivial,szp,(by show(0:Int)<=(k:Int);omega),(by show(k:Int)<=((I (l.map cw):Nat):Int);rw[length_map];omega),szp,(by show(0:Int)<=((k+1:Nat):Int);omega),(by show((k+1:Nat):Int)<=((I (l.map cw):Nat):Int);rw[length_map];omega),FY l hl k hk,FK hL,by decide,ET hL,fun o cl fo ho hc=>by rw[FJ hL];exact v2 o cl fo ho hc,rfl,by simp[cp,D.okNs,D.okN,Az],rfl,⟨wr (Nat.le_refl 3) x ws b2 rfl rfl r3⟩⟩
    ·have c4f:=Ic c4
     obtain⟨y,hy⟩:=yi (show k-1<I l by omega)
     by_cases c5:(!(y.1==x.1&&y.2==x.2))=J
     ·rcases ihy (by rw[D4 tk hx];simp only[c1,c2,c3,c4f,hy,c5];rfl) with⟨b2,v2,r3⟩|⟨b2,ws,v2,r3⟩
      ·refine lv 71 [] (.t<|.x (cw x)<|.t<|.t<|.t<|.f<|.x (cw y)<|.m (.v (cw x))<|.h (.p (db (!(y.1==x.1&&y.2==x.2))))<|.t<|.c (AC (l.take k++l.drop (k+1)))<|.h (.oc (.tup []) ⟨[G [g],G [db b2],d2,G [di x.1,di x.2]],[]⟩)<|.lo [ke 0,ke 1,ke 2,ke 6,ke 18,ke 19,ch 20 (di (k+1:Nat))] ⟨[G [g],G [db b2],d2],[]⟩) (decide ((k:Int)<(I l:Int))=J/\0<=(k:Int)/\(U cw l)[Z (k:Int)]?=G (cw x)/\iz 0<=0/\0<(↑2:Int)/\(x.fst==tk.place)=J/\iz 0<=1/\1<(↑2:Int)/\decide (x.snd>=tk.low)=J/\iz 0<=1/\1<(↑2:Int)/\decide (x.snd<=tk.high)=J/\((k:Int)==0)=O/\0<=yr yq ((k:Int)-1)/\(U cw l)[Z (yr yq ((k:Int)-1))]?=G (cw y)/\2<=2/\Q [di x.fst,di x.snd]/\(∀(τ:St),Ay PP (Oper.mk (G 54) (Op.binOp BinOp.neq 126 (Operand.tmp 52) (Operand.tmp 53) 126) 4 "timed.go:54" #[Edge.mk 27 Ground.data,Edge.mk 28 Ground.data,Edge.mk 22 Ground.guard] (G (22,false))) [bt (cw y),bt (ab [vi x.fst,vi x.snd])] τ (db !(y.fst==x.fst&&y.snd==x.snd)) τ)/\(yg (True))/\(!(y.fst==x.fst&&y.snd==x.snd))=J/\(∀(x:V),x∈U cw l->V.size x=2)/\0<=(fun x=>x.snd) (yq,(k:Int))/\(fun x=>x.snd) (yq,(k:Int))<=(I (U cw l):Int)/\(∀(x:V),x∈U cw l->V.size x=2)/\0<=(fun x=>x.snd) (yq,yr yq ((k:Int)+1))/\(fun x=>x.snd) (yq,yr yq ((k:Int)+1))<=(I (U cw l):Int)/\F0 99 [bt (ai [ai (W 0 (take (Z ((fun x=>x.snd) (yq,(k:Int)))) (U cw l))),ai (W (Z ((fun x=>x.snd) (yq,yr yq ((k:Int)+1)))) (take (I (U cw l)) (U cw l)))])] (AC (take k l++W (k+1) l))/\(∀(x:V),x∈L->V.size x=3)/\0<=(1:Int)/\(1:Int)<=(I L:Int)/\(∀(o:yw) (c:Call) (fo:x5),o.op=Op.call c->c.callee=Callee.value fo->Ay PP o [bt (bw 95 [] []),AC (take k l++W (k+1) l),bt (ai (W (Z ((1:Int))) (take (I L) L))),D.dfn 97 [] (DD m r ms)] (bi [G [g],G [db b],d2,G [di x.fst,di x.snd]] []) (bl []) (bi [G [g],G [db b2],d2,G [di x.fst,di x.snd]] []))/\di (yr yq ((k:Int)+1))=di (↑(k+1):Int)/\cp 3 [] [G [g],G [db b2],d2]=J/\Q [G [g],G [db b2],d2]/\I0 CC 3 (bl []) S [kl DF [1,1,1,0,0],bh 0] (b9 71 [(0,bt (BS l)),(1,bt (ai L)),(2,D.dfn 97 [] (DD m r ms)),(6,bt (bz (ce tk))),(18,bt (BS l)),(19,di (I l:Int)),(20,di (↑(k+1):Int))]) (bi [G [g],G [db b2],d2] [])) ?_
       have hw1:=hw1.resolve_right (fun h=>c4 (by rw[h];rfl))
       rw[hw1]
       rw[hw2]
       exact⟨decide_eq_true (by omega),by omega,BN hx,Int.le_refl _,by decide,c1,by decide,by decide,c2,by decide,by decide,c3,c4f,by omega,BN hy,Nat.le_refl _,rfl,fun τ=>Gs rfl y.1 y.2 x.1 x.2,by repeat' first|with_reducible refine And.intro ?_ ?_|rfl|trivial,c5,szp,(by show(0:Int)<=(k:Int);omega),(by show(k:Int)<=((I (l.map cw):Nat):Int);rw[length_map];omega),szp,(by show(0:Int)<=((k+1:Nat):Int);omega),(by show((k+1:Nat):Int)<=((I (l.map cw):Nat):Int);rw[length_map];omega),FY l hl k hk,FK hL,by decide,ET hL,fun o cl fo ho hc=>by rw[FJ hL];exact v2 o cl fo ho hc,rfl,hok b2,rfl,⟨r3⟩⟩
      ·refine lv 71 [] (.t<|.x (cw x)<|.t<|.t<|.t<|.f<|.x (cw y)<|.m (.v (cw x))<|.h (.p (db (!(y.1==x.1&&y.2==x.2))))<|.t<|.c (AC (l.take k++l.drop (k+1)))<|.h (.oc (.tup []) ⟨[G [.gro 4 (I ws) 2],G [db b2],none,G [di x.1,di x.2],G (Ad (ws.map eV))],[]⟩)<|.lo [ke 0,ke 1,ke 2,ke 6,ke 18,ke 19,ch 20 (di (k+1:Nat))] ⟨[G [.gro 4 (I ws) 2],G [db b2],none,G [di x.1,di x.2],G (Ad (ws.map eV))],[]⟩) (decide ((k:Int)<(I l:Int))=J/\0<=(k:Int)/\(U cw l)[Z (k:Int)]?=G (cw x)/\iz 0<=0/\0<(↑2:Int)/\(x.fst==tk.place)=J/\iz 0<=1/\1<(↑2:Int)/\decide (x.snd>=tk.low)=J/\iz 0<=1/\1<(↑2:Int)/\decide (x.snd<=tk.high)=J/\((k:Int)==0)=O/\0<=yr yq ((k:Int)-1)/\(U cw l)[Z (yr yq ((k:Int)-1))]?=G (cw y)/\2<=2/\Q [di x.fst,di x.snd]/\(∀(τ:St),Ay PP (Oper.mk (G 54) (Op.binOp BinOp.neq 126 (Operand.tmp 52) (Operand.tmp 53) 126) 4 "timed.go:54" #[Edge.mk 27 Ground.data,Edge.mk 28 Ground.data,Edge.mk 22 Ground.guard] (G (22,false))) [bt (cw y),bt (ab [vi x.fst,vi x.snd])] τ (db !(y.fst==x.fst&&y.snd==x.snd)) τ)/\(yg (True))/\(!(y.fst==x.fst&&y.snd==x.snd))=J/\(∀(x:V),x∈U cw l->V.size x=2)/\0<=(fun x=>x.snd) (yq,(k:Int))/\(fun x=>x.snd) (yq,(k:Int))<=(I (U cw l):Int)/\(∀(x:V),x∈U cw l->V.size x=2)/\0<=(fun x=>x.snd) (yq,yr yq ((k:Int)+1))/\(fun x=>x.snd) (yq,yr yq ((k:Int)+1))<=(I (U cw l):Int)/\F0 99 [bt (ai [ai (W 0 (take (Z ((fun x=>x.snd) (yq,(k:Int)))) (U cw l))),ai (W (Z ((fun x=>x.snd) (yq,yr yq ((k:Int)+1)))) (take (I (U cw l)) (U cw l)))])] (AC (take k l++W (k+1) l))/\(∀(x:V),x∈L->V.size x=3)/\0<=(1:Int)/\(1:Int)<=(I L:Int)/\(∀(o:yw) (c:Call) (fo:x5),o.op=Op.call c->c.callee=Callee.value fo->Ay PP o [bt (bw 95 [] []),AC (take k l++W (k+1) l),bt (ai (W (Z ((1:Int))) (take (I L) L))),D.dfn 97 [] (DD m r ms)] (bi [G [g],G [db b],d2,G [di x.fst,di x.snd]] []) (bl []) (bi [G [bm 4 (I ws) 2],G [db b2],none,G [di x.fst,di x.snd],G (Ad (U eV ws))] []))/\di (yr yq ((k:Int)+1))=di (↑(k+1):Int)/\cp 5 [] [G [bm 4 (I ws) 2],G [db b2],none,G [di x.fst,di x.snd],G (Ad (U eV ws))]=J/\Q [G [bm 4 (I ws) 2],G [db b2],none,G [di x.fst,di x.snd],G (Ad (U eV ws))]/\I0 CC 3 (bl []) S [kl DF [1,1,1,0,0],bh 0] (b9 71 [(0,bt (BS l)),(1,bt (ai L)),(2,D.dfn 97 [] (DD m r ms)),(6,bt (bz (ce tk))),(18,bt (BS l)),(19,di (I l:Int)),(20,di (↑(k+1):Int))]) (bi [G [bm 4 (I ws) 2],G [db b2],none,G [di x.fst,di x.snd],G (Ad (U eV ws))] [])) ?_
       have hw1:=hw1.resolve_right (fun h=>c4 (by rw[h];rfl))
       rw[hw1]
       rw[hw2]
       exact⟨decide_eq_true (by omega),by omega,BN hx,Int.le_refl _,by decide,c1,by decide,by decide,c2,by decide,by decide,c3,c4f,by omega,BN hy,Nat.le_refl _,rfl,fun τ=>Gs rfl y.1 y.2 x.1 x.2,by repeat' first|with_reducible refine And.intro ?_ ?_|rfl|trivial,c5,szp,(by show(0:Int)<=(k:Int);omega),(by show(k:Int)<=((I (l.map cw):Nat):Int);rw[length_map];omega),szp,(by show(0:Int)<=((k+1:Nat):Int);omega),(by show((k+1:Nat):Int)<=((I (l.map cw):Nat):Int);rw[length_map];omega),FY l hl k hk,FK hL,by decide,ET hL,fun o cl fo ho hc=>by rw[FJ hL];exact v2 o cl fo ho hc,rfl,by simp[cp,D.okNs,D.okN,Az],rfl,⟨wr (Nat.le_refl 3) x ws b2 rfl rfl r3⟩⟩
     ·have r3:=ihn (by rw[D4 tk hx];simp only[c1,c2,c3,c4f,hy,Ic c5];rfl)
      refine lv 71 [] (.t<|.x (cw x)<|.t<|.t<|.t<|.f<|.x (cw y)<|.m (.v (cw x))<|.h (.p (db (!(y.1==x.1&&y.2==x.2))))<|.f<|.lo [ke 0,ke 1,ke 2,ke 6,ke 18,ke 19,ch 20 (di (k+1:Nat))] ⟨[G [g],G [db b],d2],[]⟩) (decide ((k:Int)<(I l:Int))=J/\0<=(k:Int)/\(U cw l)[Z (k:Int)]?=G (cw x)/\iz 0<=0/\0<(↑2:Int)/\(x.fst==tk.place)=J/\iz 0<=1/\1<(↑2:Int)/\decide (x.snd>=tk.low)=J/\iz 0<=1/\1<(↑2:Int)/\decide (x.snd<=tk.high)=J/\((k:Int)==0)=O/\0<=yr yq ((k:Int)-1)/\(U cw l)[Z (yr yq ((k:Int)-1))]?=G (cw y)/\2<=2/\Q [di x.fst,di x.snd]/\(∀(τ:St),Ay PP (Oper.mk (G 54) (Op.binOp BinOp.neq 126 (Operand.tmp 52) (Operand.tmp 53) 126) 4 "timed.go:54" #[Edge.mk 27 Ground.data,Edge.mk 28 Ground.data,Edge.mk 22 Ground.guard] (G (22,false))) [bt (cw y),bt (ab [vi x.fst,vi x.snd])] τ (db !(y.fst==x.fst&&y.snd==x.snd)) τ)/\(yg (True))/\(!(y.fst==x.fst&&y.snd==x.snd))=O/\di (yr yq ((k:Int)+1))=di (↑(k+1):Int)/\cp 3 [] [G [g],G [db b],d2]=J/\Q [G [g],G [db b],d2]/\I0 CC 3 (bl []) S [kl DF [1,1,1,0,0],bh 0] (b9 71 [(0,bt (BS l)),(1,bt (ai L)),(2,D.dfn 97 [] (DD m r ms)),(6,bt (bz (ce tk))),(18,bt (BS l)),(19,di (I l:Int)),(20,di (↑(k+1):Int))]) (bi [G [g],G [db b],d2] [])) ?_
      have hw1:=hw1.resolve_right (fun h=>c4 (by rw[h];rfl))
      rw[hw1]
      exact⟨decide_eq_true (by omega),by omega,BN hx,Int.le_refl _,by decide,c1,by decide,by decide,c2,by decide,by decide,c3,c4f,by omega,BN hy,Nat.le_refl _,rfl,fun τ=>Gs rfl y.1 y.2 x.1 x.2,by repeat' first|with_reducible refine And.intro ?_ ?_|rfl|trivial,eq_false_of_ne_true c5,congrArg di hw2,hok b,rfl,⟨r3⟩⟩
   ·have r3:=ihn (by rw[D4 tk hx];simp only[c1,c2,Ic c3];rfl)
    exact lv 71 [] (.t<|.x (cw x)<|.t<|.t<|.f<|.lo [ke 0,ke 1,ke 2,ke 6,ke 18,ke 19,ch 20 (di (k+1:Nat))] ⟨[G [g],G [db b],d2],[]⟩) (decide ((k:Int)<(I l:Int))=J/\0<=(k:Int)/\(U cw l)[Z (k:Int)]?=G (cw x)/\iz 0<=0/\0<(↑2:Int)/\_/\iz 0<=1/\1<(↑2:Int)/\_/\iz 0<=1/\1<(↑2:Int)/\decide (x.snd<=tk.high)=O/\(yh (True))/\di (yr yq ((k:Int)+1))=di (↑(k+1):Int)/\cp 3 [] [G [g],G [db b],d2]=J/\Q [G [g],G [db b],d2]/\_) ⟨decide_eq_true (by omega),by omega,BN hx,Int.le_refl _,by decide,c1,by decide,by decide,c2,by decide,by decide,eq_false_of_ne_true c3,by repeat' first|with_reducible refine And.intro ?_ ?_|rfl|trivial,congrArg di hw2,hok b,rfl,iK r3⟩
  ·have r3:=ihn (by rw[D4 tk hx];simp only[c1,Ic c2];rfl)
   exact lv 71 [] (.t<|.x (cw x)<|.t<|.f<|.lo [ke 0,ke 1,ke 2,ke 6,ke 18,ke 19,ch 20 (di (k+1:Nat))] ⟨[G [g],G [db b],d2],[]⟩) (decide ((k:Int)<(I l:Int))=J/\0<=(k:Int)/\(U cw l)[Z (k:Int)]?=G (cw x)/\iz 0<=0/\0<(↑2:Int)/\_/\iz 0<=1/\1<(↑2:Int)/\decide (x.snd>=tk.low)=O/\ym/\di (yr yq ((k:Int)+1))=di (↑(k+1):Int)/\cp 3 [] [G [g],G [db b],d2]=J/\Q [G [g],G [db b],d2]/\_) ⟨decide_eq_true (by omega),by omega,BN hx,Int.le_refl _,by decide,c1,by decide,by decide,eq_false_of_ne_true c2,by repeat' first|with_reducible refine And.intro ?_ ?_|rfl|trivial,congrArg di hw2,hok b,rfl,iK r3⟩
 ·have r3:=ihn (by rw[D4 tk hx];simp only[Ic c1];rfl)
  exact lv 71 [] (.t<|.x (cw x)<|.f<|.lo [ke 0,ke 1,ke 2,ke 6,ke 18,ke 19,ch 20 (di (k+1:Nat))] ⟨[G [g],G [db b],d2],[]⟩) (decide ((k:Int)<(I l:Int))=J/\0<=(k:Int)/\(U cw l)[Z (k:Int)]?=G (cw x)/\iz 0<=0/\0<(↑2:Int)/\(x.fst==tk.place)=O/\yn/\di (yr yq ((k:Int)+1))=di (↑(k+1):Int)/\cp 3 [] [G [g],G [db b],d2]=J/\Q [G [g],G [db b],d2]/\_) ⟨decide_eq_true (by omega),by omega,BN hx,Int.le_refl _,by decide,eq_false_of_ne_true c1,by repeat' first|with_reducible refine And.intro ?_ ?_|rfl|trivial,congrArg di hw2,hok b,rfl,iK r3⟩
theorem Ajf(m:ba)(r:cq)(ms l:List (Int×Int))(hl:I l<=50)(tk:Tk)(ts:List Tk)(L:List V)(hL:L=(tk::ts).map ce)(g:D)(b:Bool)(d2:Option (List D))(d3:Option (List D))(k:Nat)(x:Int×Int)(hx:l[k]?=G x)(S:St)(hok:∀b,cp 4 [] [G [g],G [db b],d2,d3]=J)
  (ihy:Rm tk l k=J->(∃b2:Bool,(∀(o:yw) (c:Call) (fo:x5),o.op=.call c->c.callee=.value fo->Ay PP o [.v (.fn 95 [] []),AC (l.take k++l.drop (k+1)),.v (AT ts),Cz m r ms] ⟨[G [g],G [db b],d2,d3,G [di x.1,di x.2]],[]⟩ (.tup []) ⟨[G [g],G [db b2],d2,d3,G [di x.1,di x.2]],[]⟩)/\Rn PP CC 3 (.tup []) S ([kl DF [1,1,1,0,0],.blk 0]++[]) (b9 71 [(0,AC l),(1,.v (.list L)),(2,Cz m r ms),(6,.v (.ref (ce tk))),(18,AC l),(19,di (I l)),(20,di (k+1:Nat))]) ⟨[G [g],G [db b2],d2,d3],[]⟩)∨∃(b2:Bool) (ws:List bd),(∀(o:yw) (c:Call) (fo:x5),o.op=.call c->c.callee=.value fo->Ay PP o [.v (.fn 95 [] []),AC (l.take k++l.drop (k+1)),.v (AT ts),Cz m r ms] ⟨[G [g],G [db b],d2,d3,G [di x.1,di x.2]],[]⟩ (.tup []) ⟨[G [.gro 5 (I ws) 2],G [db b2],none,none,G [di x.1,di x.2],G (Ad (ws.map eV))],[]⟩)/\Rn PP CC 3 (.tup []) S ([kl DF [1,1,1,0,0],.blk 0]++[]) (b9 71 [(0,AC l),(1,.v (.list L)),(2,Cz m r ms),(6,.v (.ref (ce tk))),(18,AC l),(19,di (I l)),(20,di (k+1:Nat))]) (Fv b2 ws))
  (ihn:Rm tk l k=O->Rn PP CC 3 (.tup []) S ([kl DF [1,1,1,0,0],.blk 0]++[]) (b9 71 [(0,AC l),(1,.v (.list L)),(2,Cz m r ms),(6,.v (.ref (ce tk))),(18,AC l),(19,di (I l)),(20,di (k+1:Nat))]) ⟨[G [g],G [db b],d2,d3],[]⟩):
  Rn PP CC 3 (.tup []) S ([kl DF [1,1,1,0,0],.blk 0]++[]) (b9 71 [(0,AC l),(1,.v (.list L)),(2,Cz m r ms),(6,.v (.ref (ce tk))),(18,AC l),(19,di (I l)),(20,di k)]) ⟨[G [g],G [db b],d2,d3],[]⟩:=by
 have hk:k<I l:=(HT.1 hx).1
 have hw1:yq.wrap ((k:Int)-1)=((k-1:Nat):Int)∨k=0:=by
  by_cases h:k=0
  ·exact .inr h
  ·left;rw[A2];omega
 have hw2:yq.wrap ((k:Int)+1)=((k+1:Nat):Int):=by rw[A2];omega
 have szp:∀y∈l.map cw,y.size=2:=fun y hy=>by obtain⟨z,_,rfl⟩:=IA.1 hy;rfl
 by_cases c1:(x.1==tk.place)=J
 ·by_cases c2:decide (x.2>=tk.low)=J
  ·by_cases c3:decide (x.2<=tk.high)=J
   ·by_cases c4:((k:Int)==0)=J
    ·rcases ihy (by rw[D4 tk hx];simp only[c1,c2,c3,c4];rfl) with⟨b2,v2,r3⟩|⟨b2,ws,v2,r3⟩
     ·refine lv 71 [] (.t<|.x (cw x)<|.t<|.t<|.t<|.t<|.c (AC (l.take k++l.drop (k+1)))<|.h (.oc (.tup []) ⟨[G [g],G [db b2],d2,d3,G [di x.1,di x.2]],[]⟩)<|.lo [ke 0,ke 1,ke 2,ke 6,ke 18,ke 19,ch 20 (di (k+1:Nat))] ⟨[G [g],G [db b2],d2,d3],[]⟩) (decide ((k:Int)<(I l:Int))=J/\0<=(k:Int)/\(U cw l)[Z (k:Int)]?=G (cw x)/\iz 0<=0/\0<(↑2:Int)/\(x.fst==tk.place)=J/\iz 0<=1/\1<(↑2:Int)/\decide (x.snd>=tk.low)=J/\iz 0<=1/\1<(↑2:Int)/\decide (x.snd<=tk.high)=J/\((k:Int)==0)=J/\(yh (True))/\(∀(x:V),x∈U cw l->V.size x=2)/\0<=(fun x=>x.snd) (yq,(k:Int))/\(fun x=>x.snd) (yq,(k:Int))<=(I (U cw l):Int)/\(∀(x:V),x∈U cw l->V.size x=2)/\0<=(fun x=>x.snd) (yq,yr yq ((k:Int)+1))/\(fun x=>x.snd) (yq,yr yq ((k:Int)+1))<=(I (U cw l):Int)/\F0 99 [bt (ai [ai (W 0 (take (Z ((fun x=>x.snd) (yq,(k:Int)))) (U cw l))),ai (W (Z ((fun x=>x.snd) (yq,yr yq ((k:Int)+1)))) (take (I (U cw l)) (U cw l)))])] (AC (take k l++W (k+1) l))/\(∀(x:V),x∈L->V.size x=3)/\0<=(1:Int)/\(1:Int)<=(I L:Int)/\(∀(o:yw) (c:Call) (fo:x5),o.op=Op.call c->c.callee=Callee.value fo->Ay PP o [bt (bw 95 [] []),AC (take k l++W (k+1) l),bt (ai (W (Z ((1:Int))) (take (I L) L))),D.dfn 97 [] (DD m r ms)] (bi [G [g],G [db b],d2,d3,G [di x.fst,di x.snd]] []) (bl []) (bi [G [g],G [db b2],d2,d3,G [di x.fst,di x.snd]] []))/\di (yr yq ((k:Int)+1))=di (↑(k+1):Int)/\cp 4 [] [G [g],G [db b2],d2,d3]=J/\Q [G [g],G [db b2],d2,d3]/\I0 CC 3 (bl []) S [kl DF [1,1,1,0,0],bh 0] (b9 71 [(0,bt (BS l)),(1,bt (ai L)),(2,D.dfn 97 [] (DD m r ms)),(6,bt (bz (ce tk))),(18,bt (BS l)),(19,di (I l:Int)),(20,di (↑(k+1):Int))]) (bi [G [g],G [db b2],d2,d3] [])) ?_
      rw[hw2]
      exact⟨decide_eq_true (by omega),by omega,BN hx,Int.le_refl _,by decide,c1,by decide,by decide,c2,by decide,by decide,c3,c4,by repeat' first|with_reducible refine And.intro ?_ ?_|rfl|trivial,szp,(by show(0:Int)<=(k:Int);omega),(by show(k:Int)<=((I (l.map cw):Nat):Int);rw[length_map];omega),szp,(by show(0:Int)<=((k+1:Nat):Int);omega),(by show((k+1:Nat):Int)<=((I (l.map cw):Nat):Int);rw[length_map];omega),FY l hl k hk,FK hL,by decide,ET hL,fun o cl fo ho hc=>by rw[FJ hL];exact v2 o cl fo ho hc,rfl,hok b2,rfl,⟨r3⟩⟩
     ·refine lv 71 [] (.t<|.x (cw x)<|.t<|.t<|.t<|.t<|.c (AC (l.take k++l.drop (k+1)))<|.h (.oc (.tup []) ⟨[G [.gro 5 (I ws) 2],G [db b2],none,none,G [di x.1,di x.2],G (Ad (ws.map eV))],[]⟩)<|.lo [ke 0,ke 1,ke 2,ke 6,ke 18,ke 19,ch 20 (di (k+1:Nat))] ⟨[G [.gro 5 (I ws) 2],G [db b2],none,none,G [di x.1,di x.2],G (Ad (ws.map eV))],[]⟩) (decide ((k:Int)<(I l:Int))=J/\0<=(k:Int)/\(U cw l)[Z (k:Int)]?=G (cw x)/\iz 0<=0/\0<(↑2:Int)/\(x.fst==tk.place)=J/\iz 0<=1/\1<(↑2:Int)/\decide (x.snd>=tk.low)=J/\iz 0<=1/\1<(↑2:Int)/\decide (x.snd<=tk.high)=J/\((k:Int)==0)=J/\(yh (True))/\(∀(x:V),x∈U cw l->V.size x=2)/\0<=(fun x=>x.snd) (yq,(k:Int))/\(fun x=>x.snd) (yq,(k:Int))<=(I (U cw l):Int)/\(∀(x:V),x∈U cw l->V.size x=2)/\0<=(fun x=>x.snd) (yq,yr yq ((k:Int)+1))/\(fun x=>x.snd) (yq,yr yq ((k:Int)+1))<=(I (U cw l):Int)/\F0 99 [bt (ai [ai (W 0 (take (Z ((fun x=>x.snd) (yq,(k:Int)))) (U cw l))),ai (W (Z ((fun x=>x.snd) (yq,yr yq ((k:Int)+1)))) (take (I (U cw l)) (U cw l)))])] (AC (take k l++W (k+1) l))/\(∀(x:V),x∈L->V.size x=3)/\0<=(1:Int)/\(1:Int)<=(I L:Int)/\(∀(o:yw) (c:Call) (fo:x5),o.op=Op.call c->c.callee=Callee.value fo->Ay PP o [bt (bw 95 [] []),AC (take k l++W (k+1) l),bt (ai (W (Z ((1:Int))) (take (I L) L))),D.dfn 97 [] (DD m r ms)] (bi [G [g],G [db b],d2,d3,G [di x.fst,di x.snd]] []) (bl []) (bi [G [bm 5 (I ws) 2],G [db b2],none,none,G [di x.fst,di x.snd],G (Ad (U eV ws))] []))/\di (yr yq ((k:Int)+1))=di (↑(k+1):Int)/\cp 6 [] [G [bm 5 (I ws) 2],G [db b2],none,none,G [di x.fst,di x.snd],G (Ad (U eV ws))]=J/\Q [G [bm 5 (I ws) 2],G [db b2],none,none,G [di x.fst,di x.snd],G (Ad (U eV ws))]/\I0 CC 3 (bl []) S [kl DF [1,1,1,0,0],bh 0] (b9 71 [(0,bt (BS l)),(1,bt (ai L)),(2,D.dfn 97 [] (DD m r ms)),(6,bt (bz (ce tk))),(18,bt (BS l)),(19,di (I l:Int)),(20,di (↑(k+1):Int))]) (bi [G [bm 5 (I ws) 2],G [db b2],none,none,G [di x.fst,di x.snd],G (Ad (U eV ws))] [])) ?_
      rw[hw2]
      exact⟨decide_eq_true (by omega),by omega,BN hx,Int.le_refl _,by decide,c1,by decide,by decide,c2,by decide,by decide,c3,c4,by repeat' first|with_reducible refine And.intro ?_ ?_|rfl|trivial,szp,(by show(0:Int)<=(k:Int);omega),(by show(k:Int)<=((I (l.map cw):Nat):Int);rw[length_map];omega),szp,(by show(0:Int)<=((k+1:Nat):Int);omega),(by show((k+1:Nat):Int)<=((I (l.map cw):Nat):Int);rw[length_map];omega),FY l hl k hk,FK hL,by decide,ET hL,fun o cl fo ho hc=>by rw[FJ hL];exact v2 o cl fo ho hc,rfl,by simp[cp,D.okNs,D.okN,Az],rfl,⟨wq (Nat.le_refl 3) x ws b2 rfl rfl r3⟩⟩
    ·have c4f:=Ic c4
     obtain⟨y,hy⟩:=yi (show k-1<I l by omega)
     by_cases c5:(!(y.1==x.1&&y.2==x.2))=J
     ·rcases ihy (by rw[D4 tk hx];simp only[c1,c2,c3,c4f,hy,c5];rfl) with⟨b2,v2,r3⟩|⟨b2,ws,v2,r3⟩
      ·refine lv 71 [] (.t<|.x (cw x)<|.t<|.t<|.t<|.f<|.x (cw y)<|.m (.v (cw x))<|.h (.p (db (!(y.1==x.1&&y.2==x.2))))<|.t<|.c (AC (l.take k++l.drop (k+1)))<|.h (.oc (.tup []) ⟨[G [g],G [db b2],d2,d3,G [di x.1,di x.2]],[]⟩)<|.lo [ke 0,ke 1,ke 2,ke 6,ke 18,ke 19,ch 20 (di (k+1:Nat))] ⟨[G [g],G [db b2],d2,d3],[]⟩) (decide ((k:Int)<(I l:Int))=J/\0<=(k:Int)/\(U cw l)[Z (k:Int)]?=G (cw x)/\iz 0<=0/\0<(↑2:Int)/\(x.fst==tk.place)=J/\iz 0<=1/\1<(↑2:Int)/\decide (x.snd>=tk.low)=J/\iz 0<=1/\1<(↑2:Int)/\decide (x.snd<=tk.high)=J/\((k:Int)==0)=O/\0<=yr yq ((k:Int)-1)/\(U cw l)[Z (yr yq ((k:Int)-1))]?=G (cw y)/\2<=2/\Q [di x.fst,di x.snd]/\(∀(τ:St),Ay PP (Oper.mk (G 54) (Op.binOp BinOp.neq 126 (Operand.tmp 52) (Operand.tmp 53) 126) 4 "timed.go:54" #[Edge.mk 27 Ground.data,Edge.mk 28 Ground.data,Edge.mk 22 Ground.guard] (G (22,false))) [bt (cw y),bt (ab [vi x.fst,vi x.snd])] τ (db !(y.fst==x.fst&&y.snd==x.snd)) τ)/\(yg (True))/\(!(y.fst==x.fst&&y.snd==x.snd))=J/\(∀(x:V),x∈U cw l->V.size x=2)/\0<=(fun x=>x.snd) (yq,(k:Int))/\(fun x=>x.snd) (yq,(k:Int))<=(I (U cw l):Int)/\(∀(x:V),x∈U cw l->V.size x=2)/\0<=(fun x=>x.snd) (yq,yr yq ((k:Int)+1))/\(fun x=>x.snd) (yq,yr yq ((k:Int)+1))<=(I (U cw l):Int)/\F0 99 [bt (ai [ai (W 0 (take (Z ((fun x=>x.snd) (yq,(k:Int)))) (U cw l))),ai (W (Z ((fun x=>x.snd) (yq,yr yq ((k:Int)+1)))) (take (I (U cw l)) (U cw l)))])] (AC (take k l++W (k+1) l))/\(∀(x:V),x∈L->V.size x=3)/\0<=(1:Int)/\(1:Int)<=(I L:Int)/\(∀(o:yw) (c:Call) (fo:x5),o.op=Op.call c->c.callee=Callee.value fo->Ay PP o [bt (bw 95 [] []),AC (take k l++W (k+1) l),bt (ai (W (Z ((1:Int))) (take (I L) L))),D.dfn 97 [] (DD m r ms)] (bi [G [g],G [db b],d2,d3,G [di x.fst,di x.snd]] []) (bl []) (bi [G [g],G [db b2],d2,d3,G [di x.fst,di x.snd]] []))/\di (yr yq ((k:Int)+1))=di (↑(k+1):Int)/\cp 4 [] [G [g],G [db b2],d2,d3]=J/\Q [G [g],G [db b2],d2,d3]/\I0 CC 3 (bl []) S [kl DF [1,1,1,0,0],bh 0] (b9 71 [(0,bt (BS l)),(1,bt (ai L)),(2,D.dfn 97 [] (DD m r ms)),(6,bt (bz (ce tk))),(18,bt (BS l)),(19,di (I l:Int)),(20,di (↑(k+1):Int))]) (bi [G [g],G [db b2],d2,d3] [])) ?_
       have hw1:=hw1.resolve_right (fun h=>c4 (by rw[h];rfl))
       rw[hw1]
       rw[hw2]
       exact⟨decide_eq_true (by omega),by omega,BN hx,Int.le_refl _,by decide,c1,by decide,by decide,c2,by decide,by decide,c3,c4f,by omega,BN hy,Nat.le_refl _,rfl,fun τ=>Gs rfl y.1 y.2 x.1 x.2,by repeat' first|with_reducible refine And.intro ?_ ?_|rfl|trivial,c5,szp,(by show(0:Int)<=(k:Int);omega),(by show(k:Int)<=((I (l.map cw):Nat):Int);rw[length_map];omega),szp,(by show(0:Int)<=((k+1:Nat):Int);omega),(by show((k+1:Nat):Int)<=((I (l.map cw):Nat):Int);rw[length_map];omega),FY l hl k hk,FK hL,by decide,ET hL,fun o cl fo ho hc=>by rw[FJ hL];exact v2 o cl fo ho hc,rfl,hok b2,rfl,⟨r3⟩⟩
      ·refine lv 71 [] (.t<|.x (cw x)<|.t<|.t<|.t<|.f<|.x (cw y)<|.m (.v (cw x))<|.h (.p (db (!(y.1==x.1&&y.2==x.2))))<|.t<|.c (AC (l.take k++l.drop (k+1)))<|.h (.oc (.tup []) ⟨[G [.gro 5 (I ws) 2],G [db b2],none,none,G [di x.1,di x.2],G (Ad (ws.map eV))],[]⟩)<|.lo [ke 0,ke 1,ke 2,ke 6,ke 18,ke 19,ch 20 (di (k+1:Nat))] ⟨[G [.gro 5 (I ws) 2],G [db b2],none,none,G [di x.1,di x.2],G (Ad (ws.map eV))],[]⟩) (decide ((k:Int)<(I l:Int))=J/\0<=(k:Int)/\(U cw l)[Z (k:Int)]?=G (cw x)/\iz 0<=0/\0<(↑2:Int)/\(x.fst==tk.place)=J/\iz 0<=1/\1<(↑2:Int)/\decide (x.snd>=tk.low)=J/\iz 0<=1/\1<(↑2:Int)/\decide (x.snd<=tk.high)=J/\((k:Int)==0)=O/\0<=yr yq ((k:Int)-1)/\(U cw l)[Z (yr yq ((k:Int)-1))]?=G (cw y)/\2<=2/\Q [di x.fst,di x.snd]/\(∀(τ:St),Ay PP (Oper.mk (G 54) (Op.binOp BinOp.neq 126 (Operand.tmp 52) (Operand.tmp 53) 126) 4 "timed.go:54" #[Edge.mk 27 Ground.data,Edge.mk 28 Ground.data,Edge.mk 22 Ground.guard] (G (22,false))) [bt (cw y),bt (ab [vi x.fst,vi x.snd])] τ (db !(y.fst==x.fst&&y.snd==x.snd)) τ)/\(yg (True))/\(!(y.fst==x.fst&&y.snd==x.snd))=J/\(∀(x:V),x∈U cw l->V.size x=2)/\0<=(fun x=>x.snd) (yq,(k:Int))/\(fun x=>x.snd) (yq,(k:Int))<=(I (U cw l):Int)/\(∀(x:V),x∈U cw l->V.size x=2)/\0<=(fun x=>x.snd) (yq,yr yq ((k:Int)+1))/\(fun x=>x.snd) (yq,yr yq ((k:Int)+1))<=(I (U cw l):Int)/\F0 99 [bt (ai [ai (W 0 (take (Z ((fun x=>x.snd) (yq,(k:Int)))) (U cw l))),ai (W (Z ((fun x=>x.snd) (yq,yr yq ((k:Int)+1)))) (take (I (U cw l)) (U cw l)))])] (AC (take k l++W (k+1) l))/\(∀(x:V),x∈L->V.size x=3)/\0<=(1:Int)/\(1:Int)<=(I L:Int)/\(∀(o:yw) (c:Call) (fo:x5),o.op=Op.call c->c.callee=Callee.value fo->Ay PP o [bt (bw 95 [] []),AC (take k l++W (k+1) l),bt (ai (W (Z ((1:Int))) (take (I L) L))),D.dfn 97 [] (DD m r ms)] (bi [G [g],G [db b],d2,d3,G [di x.fst,di x.snd]] []) (bl []) (bi [G [bm 5 (I ws) 2],G [db b2],none,none,G [di x.fst,di x.snd],G (Ad (U eV ws))] []))/\di (yr yq ((k:Int)+1))=di (↑(k+1):Int)/\cp 6 [] [G [bm 5 (I ws) 2],G [db b2],none,none,G [di x.fst,di x.snd],G (Ad (U eV ws))]=J/\Q [G [bm 5 (I ws) 2],G [db b2],none,none,G [di x.fst,di x.snd],G (Ad (U eV ws))]/\I0 CC 3 (bl []) S [kl DF [1,1,1,0,0],bh 0] (b9 71 [(0,bt (BS l)),(1,bt (ai L)),(2,D.dfn 97 [] (DD m r ms)),(6,bt (bz (ce tk))),(18,bt (BS l)),(19,di (I l:Int)),(20,di (↑(k+1):Int))]) (bi [G [bm 5 (I ws) 2],G [db b2],none,none,G [di x.fst,di x.snd],G (Ad (U eV ws))] [])) ?_
       have hw1:=hw1.resolve_right (fun h=>c4 (by rw[h];rfl))
       rw[hw1]
       rw[hw2]
       exact⟨decide_eq_true (by omega),by omega,BN hx,Int.le_refl _,by decide,c1,by decide,by decide,c2,by decide,by decide,c3,c4f,by omega,BN hy,Nat.le_refl _,rfl,fun τ=>Gs rfl y.1 y.2 x.1 x.2,by repeat' first|with_reducible refine And.intro ?_ ?_|rfl|trivial,c5,szp,(by show(0:Int)<=(k:Int);omega),(by show(k:Int)<=((I (l.map cw):Nat):Int);rw[length_map];omega),szp,(by show(0:Int)<=((k+1:Nat):Int);omega),(by show((k+1:Nat):Int)<=((I (l.map cw):Nat):Int);rw[length_map];omega),FY l hl k hk,FK hL,by decide,ET hL,fun o cl fo ho hc=>by rw[FJ hL];exact v2 o cl fo ho hc,rfl,by simp[cp,D.okNs,D.okN,Az],rfl,⟨wq (Nat.le_refl 3) x ws b2 rfl rfl r3⟩⟩
     ·have r3:=ihn (by rw[D4 tk hx];simp only[c1,c2,c3,c4f,hy,Ic c5];rfl)
      refine lv 71 [] (.t<|.x (cw x)<|.t<|.t<|.t<|.f<|.x (cw y)<|.m (.v (cw x))<|.h (.p (db (!(y.1==x.1&&y.2==x.2))))<|.f<|.lo [ke 0,ke 1,ke 2,ke 6,ke 18,ke 19,ch 20 (di (k+1:Nat))] ⟨[G [g],G [db b],d2,d3],[]⟩) (decide ((k:Int)<(I l:Int))=J/\0<=(k:Int)/\(U cw l)[Z (k:Int)]?=G (cw x)/\iz 0<=0/\0<(↑2:Int)/\(x.fst==tk.place)=J/\iz 0<=1/\1<(↑2:Int)/\decide (x.snd>=tk.low)=J/\iz 0<=1/\1<(↑2:Int)/\decide (x.snd<=tk.high)=J/\((k:Int)==0)=O/\0<=yr yq ((k:Int)-1)/\(U cw l)[Z (yr yq ((k:Int)-1))]?=G (cw y)/\2<=2/\Q [di x.fst,di x.snd]/\(∀(τ:St),Ay PP (Oper.mk (G 54) (Op.binOp BinOp.neq 126 (Operand.tmp 52) (Operand.tmp 53) 126) 4 "timed.go:54" #[Edge.mk 27 Ground.data,Edge.mk 28 Ground.data,Edge.mk 22 Ground.guard] (G (22,false))) [bt (cw y),bt (ab [vi x.fst,vi x.snd])] τ (db !(y.fst==x.fst&&y.snd==x.snd)) τ)/\(yg (True))/\(!(y.fst==x.fst&&y.snd==x.snd))=O/\di (yr yq ((k:Int)+1))=di (↑(k+1):Int)/\cp 4 [] [G [g],G [db b],d2,d3]=J/\Q [G [g],G [db b],d2,d3]/\I0 CC 3 (bl []) S [kl DF [1,1,1,0,0],bh 0] (b9 71 [(0,bt (BS l)),(1,bt (ai L)),(2,D.dfn 97 [] (DD m r ms)),(6,bt (bz (ce tk))),(18,bt (BS l)),(19,di (I l:Int)),(20,di (↑(k+1):Int))]) (bi [G [g],G [db b],d2,d3] [])) ?_
      have hw1:=hw1.resolve_right (fun h=>c4 (by rw[h];rfl))
      rw[hw1]
      exact⟨decide_eq_true (by omega),by omega,BN hx,Int.le_refl _,by decide,c1,by decide,by decide,c2,by decide,by decide,c3,c4f,by omega,BN hy,Nat.le_refl _,rfl,fun τ=>Gs rfl y.1 y.2 x.1 x.2,by repeat' first|with_reducible refine And.intro ?_ ?_|rfl|trivial,eq_false_of_ne_true c5,congrArg di hw2,hok b,rfl,⟨r3⟩⟩
   ·have r3:=ihn (by rw[D4 tk hx];simp only[c1,c2,Ic c3];rfl)
    exact lv 71 [] (.t<|.x (cw x)<|.t<|.t<|.f<|.lo [ke 0,ke 1,ke 2,ke 6,ke 18,ke 19,ch 20 (di (k+1:Nat))] ⟨[G [g],G [db b],d2,d3],[]⟩) (decide ((k:Int)<(I l:Int))=J/\0<=(k:Int)/\(U cw l)[Z (k:Int)]?=G (cw x)/\iz 0<=0/\0<(↑2:Int)/\_/\iz 0<=1/\1<(↑2:Int)/\_/\iz 0<=1/\1<(↑2:Int)/\decide (x.snd<=tk.high)=O/\(yh (True))/\di (yr yq ((k:Int)+1))=di (↑(k+1):Int)/\cp 4 [] [G [g],G [db b],d2,d3]=J/\Q [G [g],G [db b],d2,d3]/\_) ⟨decide_eq_true (by omega),by omega,BN hx,Int.le_refl _,by decide,c1,by decide,by decide,c2,by decide,by decide,eq_false_of_ne_true c3,by repeat' first|with_reducible refine And.intro ?_ ?_|rfl|trivial,congrArg di hw2,hok b,rfl,iK r3⟩
  ·have r3:=ihn (by rw[D4 tk hx];simp only[c1,Ic c2];rfl)
   exact lv 71 [] (.t<|.x (cw x)<|.t<|.f<|.lo [ke 0,ke 1,ke 2,ke 6,ke 18,ke 19,ch 20 (di (k+1:Nat))] ⟨[G [g],G [db b],d2,d3],[]⟩) (decide ((k:Int)<(I l:Int))=J/\0<=(k:Int)/\(U cw l)[Z (k:Int)]?=G (cw x)/\iz 0<=0/\0<(↑2:Int)/\_/\iz 0<=1/\1<(↑2:Int)/\decide (x.snd>=tk.low)=O/\ym/\di (yr yq ((k:Int)+1))=di (↑(k+1):Int)/\cp 4 [] [G [g],G [db b],d2,d3]=J/\Q [G [g],G [db b],d2,d3]/\_) ⟨decide_eq_true (by omega),by omega,BN hx,Int.le_refl _,by decide,c1,by decide,by decide,eq_false_of_ne_true c2,by repeat' first|with_reducible refine And.intro ?_ ?_|rfl|trivial,congrArg di hw2,hok b,rfl,iK r3⟩
 ·have r3:=ihn (by rw[D4 tk hx];simp only[Ic c1];rfl)
  exact lv 71 [] (.t<|.x (cw x)<|.f<|.lo [ke 0,ke 1,ke 2,ke 6,ke 18,ke 19,ch 20 (di (k+1:Nat))] ⟨[G [g],G [db b],d2,d3],[]⟩) (decide ((k:Int)<(I l:Int))=J/\0<=(k:Int)/\(U cw l)[Z (k:Int)]?=G (cw x)/\iz 0<=0/\0<(↑2:Int)/\(x.fst==tk.place)=O/\yn/\di (yr yq ((k:Int)+1))=di (↑(k+1):Int)/\cp 4 [] [G [g],G [db b],d2,d3]=J/\Q [G [g],G [db b],d2,d3]/\_) ⟨decide_eq_true (by omega),by omega,BN hx,Int.le_refl _,by decide,eq_false_of_ne_true c1,by repeat' first|with_reducible refine And.intro ?_ ?_|rfl|trivial,congrArg di hw2,hok b,rfl,iK r3⟩
def Wf(tk:Tk)(l:List (Int×Int))(K:Nat):List (List (Int×Int)):=((List.range K).filter (Rm tk l)).map fun k=>l.take k++l.drop (k+1)
theorem Adm{tk:Tk}{l:List (Int×Int)}{k:Nat}(h:Rm tk l k=J):Wf tk l (k+1)=Wf tk l k++[l.take k++l.drop (k+1)]:=by simp[Wf,range_succ,h]
theorem Agm{tk:Tk}{l:List (Int×Int)}{k:Nat}(h:Rm tk l k=O):Wf tk l (k+1)=Wf tk l k:=by simp[Wf,range_succ,h]
theorem Adn(tk:Tk)(l:List (Int×Int))(k:Nat):I (Wf tk l k)<=k:=by
 have:=List.length_filter_le (Rm tk l) (List.range k)
 rw[List.length_range] at this
 rw[Wf,HP];exact this
theorem Zw{tk:Tk}{l:List (Int×Int)}{k:Nat}{x:List (Int×Int)}(h:x∈Wf tk l k):I x<=I l:=by
 obtain⟨i,_,rfl⟩:=IA.1 h
 rw[Ig,Iy,IY];omega
def TU:List Tk->List (Int×Int)->List (List (Int×Int))
 |[],l=>[l]
 |tk::ts,l=>(Wf tk l (I l)).flatMap (TU ts)
def TW(tk:Tk)(ts:List Tk)(l:List (Int×Int))(k:Nat):List (List (Int×Int)):=(Wf tk l k).flatMap (TU ts)
theorem Pa{tk:Tk}{ts:List Tk}{l:List (Int×Int)}{k:Nat}(h:Rm tk l k=J):TW tk ts l (k+1)=TW tk ts l k++TU ts (l.take k++l.drop (k+1)):=by simp[TW,Adm h]
theorem Zv{tk:Tk}{ts:List Tk}{l:List (Int×Int)}{k:Nat}(h:Rm tk l k=O):TW tk ts l (k+1)=TW tk ts l k:=by rw[TW,Agm h];rfl
theorem TV(tk:Tk)(ts:List Tk)(l:List (Int×Int))(k:Nat):∀n:Nat,I (TW tk ts l k)<=I (TW tk ts l (k+n))
 |0=>HX _
 |n+1=>by
  have:=TV tk ts l k n
  rw[←Nat.add_assoc]
  cases h:Rm tk l (k+n) with
  |true=>rw[Pa h,Ig];omega
  |false=>rw[Zv h];exact this
theorem AjV{f:yu}{d:D}{σ':St}{k:List KI}{e:List D}{σ:St}(h:Rn PP f 3 d σ' k e σ):Rn PP f 2 d σ' k e σ:=fun E0 E g a w B hC=>h E0 E g a w B ⟨hC.1,by have:=hC.2;omega⟩
abbrev pv(r:cq)(ms:List (Int×Int))(L:List (List (Int×Int))):List bd:=L.map fun x=>DY r.to (x++ms)
def iv(b:Bool)(g:D)(d2:Option (List D))(xs:List bd):List bd->St
 |[]=>⟨[G [g],G [db b],d2],[]⟩
 |z::zs=>Fv b (xs++z::zs)
theorem MU{b:Bool}{g:D}{d2:Option (List D)}{xs zs:List bd}(h:zs≠ []):iv b g d2 xs zs=Fv b (xs++zs):=by
 cases zs with
 |nil=>exact absurd rfl h
 |cons x xs=>rfl
inductive nk:List bd->D->Option (List D)->Prop where
 |no:nk [] (.v .nils) none
 |so (x:bd) (xs:List bd):nk (x::xs) (.gro 2 (I (x::xs)) 2) (G (Ad ((x::xs).map eV)))
theorem nk.ok{xs:List bd}{g:D}{d2:Option (List D)}(h:nk xs g d2)(b:Bool):cp 3 [] [G [g],G [db b],d2]=J:=by
 cases h with
 |no=>rfl
 |so x xs=>simp[cp,D.okNs,D.okN,Az]
abbrev vw(m:ba)(t:bc)(r:cq)(ms:List (Int×Int))(ts:List Tk):Prop:=∀(l:List (Int×Int)),I l<=50->∀(b:Bool) (xs ys:List bd) (b':Bool),ys=pv r ms (TU ts l)->I xs+I ys<=100000->b'=(b&&ys.all (Aw t))->Aa PP 95 [AC l,.v (AT ts),Cz m r ms] (pz b xs) (.tup []) (m6 b' xs ys)
theorem Adl(m:ba)(t:bc)(r:cq)(ms l:List (Int×Int))(hl:I l<=50)(tk:Tk)(ts:List Tk)(hC:vw m t r ms ts)(L:List V)(hL:L=(tk::ts).map ce)(xs:List bd)(g:D)(d2:Option (List D))(hG:nk xs g d2)(b0:Bool)(Y:List bd)(B:Bool)(hY:Y=pv r ms (TW tk ts l (I l)))(hz:I xs+I Y<=100000)(hB:B=(b0&&Y.all (Aw t)))(n:Nat):∀(k:Nat) (zs:List bd) (b:Bool),I l-k=n->k<=I l->zs=pv r ms (TW tk ts l k)->b=(b0&&zs.all (Aw t))->
  Rn PP CC 3 (.tup []) (iv B g d2 xs Y) ([kl DF [1,1,1,0,0],.blk 0]++[]) (b9 71 [(0,AC l),(1,.v (.list L)),(2,Cz m r ms),(6,.v (.ref (ce tk))),(18,AC l),(19,di (I l)),(20,di k)]) (iv b g d2 xs zs):=by
 induction n with
 |zero=>
  intro k zs b hn hk hzs hb
  have e:Y=zs:=by rw[hY,hzs,show k=I l by omega]
  rw[hB,e, ←hb]
  have hok:=hG.ok b
  clear hzs hb hY hB hG
  by_cases hx:zs=[]
  ·subst hx
   show Rn PP CC 3 (.tup []) ⟨[G [g],G [db b],d2],[]⟩ _ _ ⟨[G [g],G [db b],d2],[]⟩
   exact lv 71 [] (.f .ro) (decide ((k:Int)<(I l:Int))=O/\([]:List KI)=[]/\_/\Q [G [g],G [db b],d2]/\Q (bl [])) ⟨yo,rfl,hok,rfl,rfl⟩
  ·rw[MU hx]
   generalize xs++zs=ws
   exact lv 71 [] (.f .ro) (decide ((k:Int)<(I l:Int))=O/\([]:List KI)=[]/\cp 4 [] [G [bm 3 (I ws) 2],G [db b],none,G (Ad (U eV ws))]=J/\Q [G [bm 3 (I ws) 2],G [db b],none,G (Ad (U eV ws))]/\Q (bl [])) ⟨yo,rfl,by simp[cp,D.okNs,D.okN,Az],rfl,rfl⟩
 |succ n ih=>
  intro k zs b hn hkl hzs hb
  obtain⟨x,hx⟩:=yi (show k<I l by omega)
  have hzl:I zs=I (TW tk ts l k):=by rw[hzs,HP]
  have hYl:I Y=I (TW tk ts l (I l)):=by rw[hY,HP]
  have hmon:I (TW tk ts l (k+1))<=I (TW tk ts l (I l)):=by
   have:=TV tk ts l (k+1) (I l- (k+1))
   rwa[show k+1+(I l- (k+1))=I l by omega] at this
  have hn':Rm tk l k=O->Rn PP CC 3 (.tup []) (iv B g d2 xs Y) ([kl DF [1,1,1,0,0],.blk 0]++[]) (b9 71 [(0,AC l),(1,.v (.list L)),(2,Cz m r ms),(6,.v (.ref (ce tk))),(18,AC l),(19,di (I l)),(20,di (k+1:Nat))]) (iv b g d2 xs zs):=fun h=>ih (k+1) zs b (by omega) (by omega) (by rw[Zv h];exact hzs) hb
  have hy':Rm tk l k=J->∃ys:List bd,ys=pv r ms (TU ts (l.take k++l.drop (k+1)))/\xs.length+(I zs+I ys)<=100000/\Rn PP CC 3 (.tup []) (iv B g d2 xs Y) ([kl DF [1,1,1,0,0],.blk 0]++[]) (b9 71 [(0,AC l),(1,.v (.list L)),(2,Cz m r ms),(6,.v (.ref (ce tk))),(18,AC l),(19,di (I l)),(20,di (k+1:Nat))]) (iv (b&&ys.all (Aw t)) g d2 xs (zs++ys)):=fun h=>by
   refine⟨_,rfl,?_,ih (k+1) _ _ (by omega) (by omega) (by rw[Pa h,hzs];exact Jq.symm) (by rw[hb,List.all_append,Bool.and_assoc])⟩
   rw[Pa h,Ig] at hmon
   rw[HP];omega
  clear ih hmon
  have hrl:I (l.take k++l.drop (k+1))<=50:=by simp;omega
  by_cases hzn:zs=[]
  ·subst hzn
   refine Ajg m r ms l hl tk ts L hL g b d2 k x hx (iv B g d2 xs Y) (fun b=>hG.ok b) (fun h=>?_) hn'
   obtain⟨ys,h1,h2,h3⟩:=hy' h
   have hc:=hC _ hrl b xs ys _ h1 (by simpa using h2) rfl
   generalize (b&&ys.all (Aw t))=b2 at h3 hc
   clear h1 hn' hy' hb hzs
   by_cases hyn:ys=[]
   ·subst hyn
    refine .inl ⟨b2,fun o c fo ho hc'=>?_,h3⟩
    cases hG with
    |no=>exact Aia m r ms _ ts x b b2 ho hc' hc
    |so v vs=>exact AhZ m r ms _ ts x (v::vs) [] b b2 ho hc' hc
   ·rw[List.nil_append,MU hyn] at h3
    refine .inr ⟨b2,xs++ys,fun o c fo ho hc'=>?_,h3⟩
    cases hG with
    |no=>
     rw[qh hyn] at hc
     exact AjZ m r ms _ ts x ys b b2 ho hc' hc
    |so v vs=>
     rw[t8 (by simp) hyn] at hc
     exact AjY m r ms _ ts x (v::vs) ys b b2 ho hc' hc
  ·rw[MU hzn] at hn'⊢
   refine Ajf m r ms l hl tk ts L hL (.gro 3 (I (xs++zs)) 2) b none (G (Ad ((xs++zs).map eV))) k x hx (iv B g d2 xs Y) (fun b=>by simp[cp,D.okNs,D.okN,Az]) (fun h=>?_) hn'
   obtain⟨ys,h1,h2,h3⟩:=hy' h
   have hc:=hC _ hrl b (xs++zs) ys _ h1 (by rw[Ig];omega) rfl
   generalize (b&&ys.all (Aw t))=b2 at h3 hc
   have hne:xs++zs≠ []:=by simp[hzn]
   rw[MU (b:=b2) (zs:=zs++ys) (by simp[hzn]), ←IZ] at h3
   clear h1 hn' hy' hb hzs
   by_cases hyn:ys=[]
   ·subst hyn
    rw[Xe,P9 hne,P9 hne] at hc
    rw[IG (xs++zs)] at h3
    exact .inl ⟨b2,fun o c fo ho hc'=>AhY m r ms _ ts x (xs++zs) [] b b2 ho hc' hc,h3⟩
   ·rw[t8 hne hyn,P9 hne] at hc
    exact .inr ⟨b2,xs++zs++ys,fun o c fo ho hc'=>AjX m r ms _ ts x (xs++zs) ys b b2 ho hc' hc,h3⟩
theorem Zu(m:ba)(t:bc)(hm:Wn m t)(r:cq)(ms:List (Int×Int))(hms:I ms<=50):∀ts:List Tk,vw m t r ms ts
 |[]=>fun l hl b xs ys b' hY hz hB=>by
  subst hY hB
  show Aa PP _ _ _ _ (m6 (b&&([DY r.to (l++ms)]).all (Aw t)) xs [DY r.to (l++ms)])
  rw[all_cons,all_nil,Bool.and_true]
  cases xs with
  |nil=>exact Alb m t hm r ms l hl hms b
  |cons x xs=>exact Ala m t hm r ms l hl hms (x::xs) (by omega) b
 |tk::ts=>fun l hl b xs ys b' hY hz hB=>by
  obtain⟨L,hL⟩:∃L,L=(tk::ts).map ce:=⟨_,rfl⟩
  have hL0:L[0]?=G (ce tk):=by rw[hL];rfl
  have hLl:((I L:Int)==0)=O:=I7.2 (by have:=ET hL;omega)
  rw[show AT (tk::ts)=.list L by rw[hL]]
  have hlp:=fun g d2 hG=>Adl m t r ms l hl tk ts (Zu m t hm r ms hms ts) L hL xs g d2 hG b ys b' hY hz hB _ 0 [] b rfl (I3 _) rfl (by simp)
  clear hY hB
  cases xs with
  |nil=>
   have hlp:=AjV (hlp _ _ .no)
   have hlp:Rn PP CC 2 (.tup []) (iv b' (.v .nils) none [] ys) _ _ (kf b):=hlp
   show Aa PP _ _ (gm b) _ _
   by_cases hy:ys=[]
   ·subst hy
    have hlp:Rn PP CC 2 (.tup []) (kf b') _ _ (kf b):=hlp
    have h:Aa PP 95 [AC l,.v (.list L),Cz m r ms] (gm b) (.tup []) (kf b'):=by
     exact sv CC 71 [] (.f<|.x (ce tk)<|.h (.q 3 0)<|.h (.fa 2 [6])<|.lo [ke 0,ke 1,ke 2,ke 6,ch 18 (AC l),ch 19 (di (I l)),ch 20 (di (0:Nat))] (kf b)) (_/\iz 0<=0/\_/\Q (AC l)/\di (I (U cw l):Int)=di (I l:Int)/\Q (di 0)/\cp 3 [] [G [dn],G [db b],none]=J/\Q (kf b).H/\_) ⟨hLl,Iv _,hL0,rfl,by rw[HP],rfl,rfl,rfl,iK hlp⟩
    refine Gn (σ:=gm b) id (show 2<=2 by decide) (fun i hi=>rfl) (fun i j _ _ h=>h) (fun i hi=>by have hi:i<2:=hi;show i<3;omega) (fun i cs hi=>?_) rfl h
    match i,hi with
    |0,hi=>have hi:=Is (Is (hi:G (G _)=G (G cs)));subst hi;exact⟨rfl,rfl⟩
    |1,hi=>have hi:=Is (Is (hi:G (G _)=G (G cs)));subst hi;exact⟨rfl,rfl⟩
    |i+2,hi=>simp at hi
   ·rw[MU hy,List.nil_append] at hlp
    rw[qh hy]
    have h:Aa PP 95 [AC l,.v (.list L),Cz m r ms] (gm b) (.tup []) (Fv b' ys):=by
     exact sv CC 71 [] (.f<|.x (ce tk)<|.h (.q 3 0)<|.h (.fa 2 [6])<|.lo [ke 0,ke 1,ke 2,ke 6,ch 18 (AC l),ch 19 (di (I l)),ch 20 (di (0:Nat))] (kf b)) (_/\iz 0<=0/\_/\Q (AC l)/\di (I (U cw l):Int)=di (I l:Int)/\Q (di 0)/\cp 3 [] [G [dn],G [db b],none]=J/\Q (kf b).H/\_) ⟨hLl,Iv _,hL0,rfl,by rw[HP],rfl,rfl,rfl,iK hlp⟩
    refine Gn (σ:=gm b) (fun i=>if i<2 then i else i+1) (show 2<=3 by decide) (fun i hi=>Io hi) (fun i j _ _ h=>?_) (fun i hi=>?_) (fun i cs hi=>?_) rfl h
    ·have h:(if i<2 then i else i+1)=(if j<2 then j else j+1):=h
     split at h<;>split at h<;>omega
    ·have hi:i<3:=hi
     show(if i<2 then i else i+1)<4
     split<;>omega
    ·match i,hi with
     |0,hi=>have hi:=Is (Is (hi:G (G _)=G (G cs)));subst hi;exact⟨rfl,rfl⟩
     |1,hi=>have hi:=Is (Is (hi:G (G _)=G (G cs)));subst hi;exact⟨rfl,rfl⟩
     |2,hi=>have hi:=Is (Is (hi:G (G _)=G (G cs)));subst hi;exact⟨by rw[AS (A5 _)];rfl,Az _ _ _⟩
     |i+3,hi=>simp at hi
  |cons x xs=>
   have hlp:=hlp _ _ (.so x xs)
   have hlp:Rn PP CC 3 (.tup []) (iv b' (.gro 2 (I (x::xs)) 2) (G (Ad ((x::xs).map eV))) (x::xs) ys) _ _ (CO b (x::xs)):=hlp
   have hne:x::xs≠ []:=by simp
   rw[P9 hne]
   by_cases hy:ys=[]
   ·subst hy
    rw[Xe,P9 hne]
    have hlp:Rn PP CC 3 (.tup []) (CO b' (x::xs)) _ _ (CO b (x::xs)):=hlp
    generalize x::xs=zs at hlp⊢
    exact sv CC 71 [] (.f<|.x (ce tk)<|.h (.q 3 0)<|.h (.fa 3 [6])<|.lo [ke 0,ke 1,ke 2,ke 6,ch 18 (AC l),ch 19 (di (I l)),ch 20 (di (0:Nat))] (CO b zs)) (_/\iz 0<=0/\_/\Q (AC l)/\di (I (U cw l):Int)=di (I l:Int)/\Q (di 0)/\cp 3 [] [G [bm 2 (I zs) 2],G [db b],G (Ad (U eV zs))]=J/\Q (CO b zs).H/\_) ⟨hLl,Iv _,hL0,rfl,by rw[HP],rfl,by simp[cp,D.okNs,D.okN,Az],rfl,iK hlp⟩
   ·rw[MU hy] at hlp
    rw[t8 hne hy]
    generalize x::xs=zs at hlp⊢
    exact sv CC 71 [] (.f<|.x (ce tk)<|.h (.q 3 0)<|.h (.fa 3 [6])<|.lo [ke 0,ke 1,ke 2,ke 6,ch 18 (AC l),ch 19 (di (I l)),ch 20 (di (0:Nat))] (CO b zs)) (_/\iz 0<=0/\_/\Q (AC l)/\di (I (U cw l):Int)=di (I l:Int)/\Q (di 0)/\cp 3 [] [G [bm 2 (I zs) 2],G [db b],G (Ad (U eV zs))]=J/\Q (CO b zs).H/\_) ⟨hLl,Iv _,hL0,rfl,by rw[HP],rfl,by simp[cp,D.okNs,D.okN,Az],rfl,iK hlp⟩
noncomputable abbrev HG:=Tryz.f50
noncomputable def QH:=yj HG
def kz(a b:bd):Bool:=AB a b==0
def Rc(l:List bd):List bd:=AW kz (sortV l)
theorem Sn(l:List bd):I (Rc l)<=I l:=by
 have:=Mv kz (sortV l)
 rwa[(AN l).length_eq] at this
theorem Hq{l:List bd}{v:bd}(h:v∈Rc l):v∈l:=(AN l).mem_iff.1 (RU h)
theorem RV:∀(ts:List Tk) (l:List (Int×Int)) {x:List (Int×Int)},x∈TU ts l->I x<=I l
 |[],l,x,h=>by rw[TU,Ii] at h;rw[h];exact HX _
 |tk::ts,l,x,h=>by
  rw[TU] at h
  obtain⟨y,hy,h⟩:=List.mem_flatMap.1 h
  exact IN (RV ts y h) (Zw hy)
theorem TS:∀{ts:List Tk},I ts<=2->∀{l:List (Int×Int)},I l<=20->I (TU ts l)<=20^I ts
 |[],_,l,hl=>by show 1<=1;decide
 |tk::ts,h,l,hl=>by
  have ih:∀L:List (List (Int×Int)),(∀x∈L,I x<=20)->I (L.flatMap (TU ts))<=I L*20^I ts:=by
   intro L
   induction L with
   |nil=>intro _;simp
   |cons x L ih=>
    intro hx
    have h1:=TS (ts:=ts) (by simp at h;omega) (hx x (by simp))
    have h2:=ih fun y hy=>hx y (by simp[hy])
    rw[List.flatMap_cons,Ig,HV,Nat.succ_mul];omega
  have h1:=ih (Wf tk l (I l)) fun x hx=>IN (Zw hx) hl
  have h2:=Adn tk l (I l)
  rw[TU,HV,Nat.pow_succ,Nat.mul_comm]
  exact IN h1 (Nat.mul_le_mul_right _ (by omega))
theorem TT{ts:List Tk}(ht:I ts<=2){l:List (Int×Int)}(hl:I l<=20):I (TU ts l)<=400:=
 IN (TS ht hl) (Nat.pow_le_pow_right (by decide) ht)
def jv(t:bc)(ys:List bd):List bd×Int:=if ys.all (Aw t)=J then(Rc ys,0) else([],1)
theorem AaK(m:ba)(t:bc)(hm:jo m t)(i:Nat)(r:cq)(hi:m.av[i]?=G r)(c:bd)(hs:c.size<=1000)(hv:Aw t c=O):F0 50 [Ax m,di i,dV c] (.tup [cx [],di 17]):=by
 have hil:=(HT.1 hi).1
 have hval:=hm.int.valid c (by omega)
 rw[hv] at hval
 exact sv HG 77 [3,5] (.c (di 0)<|.k<|.f<|.f<|.f<|.c (db O) .r) (_/\(m.kind !=5)=O/\Y ((i:Int)<0)=O/\Y ((i:Int)>=(I (U AD m.av):Int))=O/\_/\Q (bl [cx [],di 17])) ⟨hm.chk,by rw[hm.kind];rfl,yo,HU (by rw[HP];omega),hval,rfl⟩
theorem WV(m:ba)(t:bc)(hm:jo m t)(i:Nat)(r:cq)(hi:m.av[i]?=G r)(c:bd)(hs:c.size<=1000)(hv:Aw t c=J)(s0:bd)(h0:c.az[0]?=G s0)(hf:s0.n≠r.aj):F0 50 [Ax m,di i,dV c] (.tup [cx [],di 0]):=by
 have hil:=(HT.1 hi).1
 have hval:=hm.int.valid c (by omega)
 rw[hv] at hval
 exact sv HG 77 [3,5] (.c (di 0)<|.k<|.f<|.f<|.f<|.c (db J)<|.x (AD r)<|.h (.xs (Au s0))<|.t .r) (_/\(m.kind !=5)=O/\Y ((i:Int)<0)=O/\Y ((i:Int)>=(I (U AD m.av):Int))=O/\_/\0<=(i:Int)/\(U AD m.av)[Z (i:Int)]?=G (AD r)/\Q 2/\iz 0<=0/\(U eV c.az)[Z 0]?=G (Au s0)/\yn/\(s0.n !=r.aj)=J/\Q (bl [cx [],di 0])) ⟨hm.chk,by rw[hm.kind];rfl,yo,HU (by rw[HP];omega),hval,by omega,A3 hi,rfl,Iv _,A1 (i:=0) h0,yl,bne_iff_ne.2 hf,rfl⟩
abbrev rC(r:cq):List D:=[.v (.str r.name),di r.aj,di r.to,cy r.am,cy r.ak,cy r.move,di r.chan,di r.act,di r.letter,cy r.path,cy r.next,.v (AT r.ar),cy r.aq,di r.second]
abbrev ee(l:List Int):List (Int×Int):=l.map fun p=>(p,0)
abbrev ld(ms:List Int):List (Nat×Nat×List V):=[(1,2,(ee ms).map cw)]
abbrev o7(r:cq)(l:List Int):St:=⟨[G (rC r),G [.acc 1 ((ee l).map cw)]],ld l⟩
abbrev UI(b:Bool)(xs:List bd)(n:Nat)(ms:List Int):St:=⟨[none,none,G [.gro 4 n 2],G [db b],G (Ad (xs.map eV))],ld ms⟩
abbrev ou(n:Nat)(zs:List bd)(R:List D)(ms:List Int):St:=⟨[none,none,G [.gro 4 n 2],G [db J],G (Ad (zs.map eV)++R)],ld ms⟩
abbrev vz(n:Nat)(ms:List Int):St:=⟨[none,none,G [.gro 4 n 2],G [db J],none],ld ms⟩
abbrev j9(b:Bool)(ms:List Int):St:=⟨[none,none,G [.v .nils],G [db b]],ld ms⟩
abbrev QQ(m:ba)(r:cq):D:=.dfn 97 [] [.v (.ref (AE m)),.v (.ref (AD r)),.v (.ref (BS (ee r.aq))),.ptr 2 0,.ptr 3 0]
theorem Aaa(F:yv):F0 93 [dl [],dfn F] (dl []):=by
 exact sv YS 66 [] (.t .r) (Y ((I nV:Int)<2)=J/\bt (ai [])=dl []) ⟨by decide,rfl⟩
noncomputable abbrev Akh:=Tryz.f100
theorem WW(x y:bd)(hx:x.size<=1000):F0 100 [dV x,dV y] (db (AB x y==0)):=by
 exact sv Akh 9 [2,3] (.c (di (AB x y)) .r) (_/\Q (db (AB x y==0))) ⟨JK _ x y (HX _) (by omega),rfl⟩
theorem xa(m:ba)(r:cq)(ps:List (Int×Int)){b b':Bool}{o:yw}{c:Call}{fo:x5}(ho:o.op=.call c)(hc:c.callee=.value fo)
  (h:Aa PP 95 [AC ps,.v (AT r.ar),Cz m r (ee r.aq)] (gm b) (.tup []) (gm b')):
  Ay PP o [.v (.fn 95 [] []),AC ps,.v (AT r.ar),QQ m r] (j9 b r.aq) (.tup []) (j9 b' r.aq):=
 B7 (σ:=j9 b r.aq) ho hc (fD:=.v (.fn 95 [] [])) (fs:=[]) (cs:=[]) (ds:=[AC ps,.v (AT r.ar),QQ m r]) rfl [2,3] id h
  (AQ rfl rfl) (.cons rfl (AQ rfl rfl) rfl (.cons rfl (AQ rfl rfl) rfl .nil)) (by decide) rfl (by simp) (by simp) rfl rfl
theorem xb(m:ba)(r:cq)(ps:List (Int×Int)){b b':Bool}{ys:List bd}{o:yw}{c:Call}{fo:x5}(ho:o.op=.call c)(hc:c.callee=.value fo)
  (h:Aa PP 95 [AC ps,.v (AT r.ar),Cz m r (ee r.aq)] (gm b) (.tup []) (CO b' ys)):
  Ay PP o [.v (.fn 95 [] []),AC ps,.v (AT r.ar),QQ m r] (j9 b r.aq) (.tup []) (UI b' ys (I ys) r.aq):=by
 have h2:=B7 (σ:=j9 b r.aq) ho hc (fD:=.v (.fn 95 [] [])) (fs:=[]) (cs:=[]) (ds:=[AC ps,.v (AT r.ar),QQ m r]) rfl [2,3] id h
  (AQ rfl rfl) (.cons rfl (AQ rfl rfl) rfl (.cons rfl (AQ rfl rfl) rfl .nil)) (by decide) rfl (by simp) (by simp) rfl (by simp[cp,D.okNs,D.okN,Az])
 have e:Dp (dv 4 [2,3]) id (CO b' ys).H=[G [.gro 4 (I ys) 2],G [db b'],G (Ad (ys.map eV))]:=by
  show [G _,G _,G (D.rens _ _ (Ad (ys.map eV)))]=_
  rw[AS (A5 _)];rfl
 have h2:Ay PP o _ _ _ ⟨CM _ _ (Dp (dv 4 [2,3]) id (CO b' ys).H),_⟩:=h2
 rw[e] at h2
 exact h2
theorem AhT(ys:List bd)(hl:I ys<=1000)(hs:∀v∈ys,v.size<=1000000)(ms:List Int){o:yw}{c:Call}{fo:x5}(ho:o.op=.call c)(hc:c.callee=.value fo):
  Ay PP o [.v (.fn 92 [] []),.arr 4 0 (I ys),dfn 39] (UI true ys (I ys) ms) (.tup []) (UI true (sortV ys) (I ys) ms):=by
 have h2:=B7 (σ:=UI true ys (I ys) ms) ho hc (fD:=.v (.fn 92 [] [])) (fs:=[]) (cs:=[]) (ds:=[.arr 4 0 (I ys),dfn 39]) rfl [4] id (Fw ys (by omega) hs)
  (AQ rfl rfl) (.cons rfl (AQ (Az _ _ _) (AS (A5 _)).symm) (CA _) .nil) (by decide) rfl (by simp) (by simp) rfl (by simp[cp,D.okNs,D.okN,Az])
 have e:Dp (dv 5 [4]) id [G (Ad ((sortV ys).map eV))]=[G (Ad ((sortV ys).map eV))]:=by
  show [G (D.rens _ _ _)]=_
  rw[AS (A5 _)]
 have h2:Ay PP o _ _ _ ⟨CM _ _ (Dp (dv 5 [4]) id [G (Ad ((sortV ys).map eV))]),_⟩:=h2
 rw[e] at h2
 exact h2
theorem AhX(xs zs:List bd)(n:Nat)(R:List D)(ms:List Int)(hR:D.pls R=J)(hn:I xs=n){F:yv}{o:yw}{c:Call}{fo:x5}(ho:o.op=.call c)(hc:c.callee=.value fo)
  (h:Aa PP 93 [.arr 0 0 (I xs),dfn F] ⟨[G (Ad (xs.map eV))],[]⟩ (.arr 0 0 (I zs)) ⟨[G (Ad (zs.map eV)++R)],[]⟩):
  Ay PP o [.v (.fn 93 [] []),.arr 4 0 n,dfn F] (UI true xs n ms) (.arr 4 0 (I zs)) (ou n zs R ms):=by
 subst hn
 have h2:=B7 (σ:=UI true xs (I xs) ms) ho hc (fD:=.v (.fn 93 [] [])) (fs:=[]) (cs:=[]) (ds:=[.arr 4 0 (I xs),dfn F]) rfl [4] id h
  (AQ rfl rfl) (.cons rfl (AQ (Az _ _ _) (AS (A5 _)).symm) (CA _) .nil) (by decide) rfl (by simp) (by simp) rfl (Ik.2 ⟨B2 (Pv _ hR),rfl⟩)
 have e:Dp (dv 5 [4]) id [G (Ad (zs.map eV)++R)]=[G (Ad (zs.map eV)++R)]:=by
  show [G (D.rens _ _ _)]=_
  rw[AS (Pv _ hR)]
 have h2:Ay PP o _ _ _ ⟨CM _ _ (Dp (dv 5 [4]) id [G (Ad (zs.map eV)++R)]),_⟩:=h2
 rw[e] at h2
 exact h2
theorem WU(m:ba)(t:bc)(hm:jo m t)(r:cq)(hmk:r.aq.length<=50)(htl:r.ar.length<=2)(c:bd)(ps:List (Int×Int))(hps:ps.length<=20)(htk:F0 96 [dV c] (AC ps))(ys:List bd)(hY:ys=(TU r.ar ps).map fun x=>DY r.to (x++ee r.aq))(p:List bd×Int)(hp:p=jv t ys):
  ∀(n k:Nat),r.aq.length-k=n->Rn PP HG 0 (.tup [cx p.1,di p.2]) bf ([kl QH [1,1,1,1,1,1,0,1,0,0],.blk 1,kc QH [1,1,1,1,1,1,1]]++[]) (b9 77 [(3,.v (.ref (AE m))),(5,.v (.ref (Au c))),(9,.ptr 0 0),(10,.ptr 1 0),(53,cy r.aq),(54,di r.aq.length),(55,di k)]) (o7 r (r.aq.take k)):=by
 suffices hz:∀(k:Nat),r.aq.length-k=0->Rn PP HG 0 (.tup [cx p.1,di p.2]) bf ([kl QH [1,1,1,1,1,1,0,1,0,0],.blk 1,kc QH [1,1,1,1,1,1,1]]++[]) (b9 77 [(3,.v (.ref (AE m))),(5,.v (.ref (Au c))),(9,.ptr 0 0),(10,.ptr 1 0),(53,cy r.aq),(54,di r.aq.length),(55,di k)]) (o7 r r.aq) by
  intro n
  induction n with
  |zero=>
   intro k hn
   have:=hz k hn
   rw[Iw (by omega)];exact this
  |succ n ih=>
   intro k hn
   obtain⟨x,hx⟩:∃x,r.aq[k]?=some x:=⟨_,HQ (show k<r.aq.length by omega)⟩
   have hr:=ih (k+1) (by omega)
   have e:(ee (r.aq.take k)).map cw++[ab [vi x,vi 0]]=(ee (r.aq.take (k+1))).map cw:=by
    rw[Jn,hx];simp
   refine lv 77 [3,5] (.t<|.x (vi x)<|.lo [ke 3,ke 5,ke 9,ke 10,ke 53,ke 54,ch 55 (di (k+1:Nat))] (o7 r (r.aq.take (k+1)))) (decide ((k:Int)<(r.aq.length:Int))=true/\0<=(k:Int)/\(map vi r.aq)[Int.toNat (k:Int)]?=some (vi x)/\Q (map cw (ee (take k r.aq)))/\A9 (length (map cw (ee (take k r.aq)))+length (ab (vi x::aa yq 0::nV)::nV)) 16/\di (yr yq ((k:Int)+1))=di (↑(k+1):Int)/\cp 2 [1] [some (rC r),some [br 1 (map cw (ee (take k r.aq))++[ab [vi x,vi 0]])]]=true/\[some (rC r),some [br 1 (map cw (ee (take k r.aq))++ab (vi x::vi 0::nV)::nV)]]=[some (rC r),some [br 1 (map cw (ee (take (k+1) r.aq)))]]/\[(1,2,map cw (ee (take k r.aq))++ab (vi x::vi 0::nV)::nV)]=[(1,2,map cw (ee (take (k+1) r.aq)))]/\I0 HG 0 (bl [cx p.fst,di p.snd]) bf [kl QH [1,1,1,1,1,1,0,1,0,0],bh 1,kc QH [1,1,1,1,1,1,1]] (b9 77 [(3,bt (bz (AE m))),(5,bt (bz (Au c))),(9,bq 0 0),(10,bq 1 0),(53,cy r.aq),(54,di (r.aq.length:Int)),(55,di (↑(k+1):Int))]) (o7 r (take (k+1) r.aq))) ?_
   rw[e]
   exact⟨yp,by omega,by rw[Ji,I9,hx];rfl,rfl,⟨by simp only[HP,Iy,HV,HZ];omega,by simp only[HP,Iy,HV,HZ];omega⟩,As,rfl,rfl,rfl,⟨hr⟩⟩
 have h1:ys.length<=400:=by rw[hY,HP];exact TT htl hps
 have h2:∀v∈ys,v.size<=1000:=fun v hv=>by
  rw[hY] at hv
  obtain⟨x,hx,rfl⟩:=IA.1 hv
  have:=RV _ _ hx
  have:=M0 r.to (x++ee r.aq) (by rw[Ig,HP];omega)
  omega
 have h3:=Zu m t hm.int r (ee r.aq) (by rw[HP];exact hmk) r.ar ps (by omega) true [] ys (ys.all (Aw t)) hY (by simp;omega) (by simp)
 unfold jv at hp
 clear hY
 intro k hn
 cases hb:ys.all (Aw t) with
 |false=>
  rw[hb] at h3 hp
  rw[Ij (by decide)] at hp
  subst hp
  clear hb
  show Rn PP HG 0 (.tup [cx [],di 1]) bf _ _ _
  by_cases hy:ys=[]
  ·subst hy
   refine lv 77 [3,5] (.f<|.h (.q 20 0)<|.h (.fa 0 [9])<|.h (.f1 1 [10])<|.c (AC ps)<|.h (.p (.v (.ref (AT r.ar))))<|.h (.p (.v (AT r.ar)))<|.h (.p (QQ m r))<|.h (.oc (.tup []) (j9 false r.aq))<|.k<|.r) (decide ((k:Int)<(r.aq.length:Int))=false/\F0 96 [dV c] (AC ps)/\(∀(τ:St),Ay PP (Oper.mk (some 67) (Op.fieldAddr 52 (Operand.tmp 9) 11) 0 "timed.go:83" #[] none) [bt (bz (AD r))] τ (bt (bz (AT r.ar))) τ)/\(∀(τ:St),Ay PP (Oper.mk (some 68) (Op.load 50 (Operand.tmp 67)) 50 "timed.go:83" #[Edge.mk 2 Ground.data] none) [bt (bz (AT r.ar))] τ (bt (AT r.ar)) τ)/\(∀(τ:St),Ay PP (Oper.mk (some 69) (Op.makeFunc (Fn.func 97) #[] #[Operand.tmp 3,Operand.tmp 9,Operand.tmp 10,Operand.tmp 13,Operand.tmp 14]) 131 "timed.go:83" #[] none) [bt (bz (AE m)),bt (bz (AD r)),bt (bz (ai (map cw (ee r.aq)))),bq 2 0,bq 3 0] τ (QQ m r) τ)/\(∀(o:yw) (c:Call) (fo:x5),o.op=Op.call c->c.callee=Callee.value fo->Ay PP o [bt (bw 95 [] []),AC ps,bt (AT r.ar),QQ m r] (bi [none,none,some [dn],some [db true]] [(1,2,map cw (ee r.aq))]) (bl []) (j9 false r.aq))/\bl [bt (ai []),di 1]=bl [cx [],di 1]) ?_
   exact⟨yo,htk,fun τ=>Fo rfl (fo:=11) (n:=1) (b:=false) (by kernel_rfl) (by decide) (fun _=>rfl) rfl,fun τ=>Fm rfl (by unfold Pp;kernel_rfl) rfl,fun τ=>EZ rfl rfl,fun o cl fo ho hc=>xa m r ps ho hc h3,rfl⟩
  ·rw[qh hy] at h3
   refine lv 77 [3,5] (.f<|.h (.q 20 0)<|.h (.fa 0 [9])<|.h (.f1 1 [10])<|.c (AC ps)<|.h (.p (.v (.ref (AT r.ar))))<|.h (.p (.v (AT r.ar)))<|.h (.p (QQ m r))<|.h (.oc (.tup []) (UI false ys ys.length r.aq))<|.k<|.r) (decide ((k:Int)<(r.aq.length:Int))=false/\F0 96 [dV c] (AC ps)/\(∀(τ:St),Ay PP (Oper.mk (some 67) (Op.fieldAddr 52 (Operand.tmp 9) 11) 0 "timed.go:83" #[] none) [bt (bz (AD r))] τ (bt (bz (AT r.ar))) τ)/\(∀(τ:St),Ay PP (Oper.mk (some 68) (Op.load 50 (Operand.tmp 67)) 50 "timed.go:83" #[Edge.mk 2 Ground.data] none) [bt (bz (AT r.ar))] τ (bt (AT r.ar)) τ)/\(∀(τ:St),Ay PP (Oper.mk (some 69) (Op.makeFunc (Fn.func 97) #[] #[Operand.tmp 3,Operand.tmp 9,Operand.tmp 10,Operand.tmp 13,Operand.tmp 14]) 131 "timed.go:83" #[] none) [bt (bz (AE m)),bt (bz (AD r)),bt (bz (ai (map cw (ee r.aq)))),bq 2 0,bq 3 0] τ (QQ m r) τ)/\(∀(o:yw) (c:Call) (fo:x5),o.op=Op.call c->c.callee=Callee.value fo->Ay PP o [bt (bw 95 [] []),AC ps,bt (AT r.ar),QQ m r] (bi [none,none,some [dn],some [db true]] [(1,2,map cw (ee r.aq))]) (bl []) (UI false ys ys.length r.aq))/\bl [bt (ai []),di 1]=bl [cx [],di 1]) ?_
   exact⟨yo,htk,fun τ=>Fo rfl (fo:=11) (n:=1) (b:=false) (by kernel_rfl) (by decide) (fun _=>rfl) rfl,fun τ=>Fm rfl (by unfold Pp;kernel_rfl) rfl,fun τ=>EZ rfl rfl,fun o cl fo ho hc=>xb m r ps ho hc h3,rfl⟩
 |true=>
  rw[hb] at h3 hp
  rw[Io rfl] at hp
  subst hp
  clear hb
  by_cases hy:ys=[]
  ·subst hy
   rw[show Rc []=[] by simp[Rc,sortV,AW]]
   show Rn PP HG 0 (.tup [cx [],di 0]) bf _ _ _
   refine lv 77 [3,5] (.f<|.h (.q 20 0)<|.h (.fa 0 [9])<|.h (.f1 1 [10])<|.c (AC ps)<|.h (.p (.v (.ref (AT r.ar))))<|.h (.p (.v (AT r.ar)))<|.h (.p (QQ m r))<|.h (.oc (.tup []) (j9 true r.aq))<|.k<|.c (.tup [])<|.c (dl []) .r) (decide ((k:Int)<(r.aq.length:Int))=false/\F0 96 [dV c] (AC ps)/\(∀(τ:St),Ay PP (Oper.mk (some 67) (Op.fieldAddr 52 (Operand.tmp 9) 11) 0 "timed.go:83" #[] none) [bt (bz (AD r))] τ (bt (bz (AT r.ar))) τ)/\(∀(τ:St),Ay PP (Oper.mk (some 68) (Op.load 50 (Operand.tmp 67)) 50 "timed.go:83" #[Edge.mk 2 Ground.data] none) [bt (bz (AT r.ar))] τ (bt (AT r.ar)) τ)/\(∀(τ:St),Ay PP (Oper.mk (some 69) (Op.makeFunc (Fn.func 97) #[] #[Operand.tmp 3,Operand.tmp 9,Operand.tmp 10,Operand.tmp 13,Operand.tmp 14]) 131 "timed.go:83" #[] none) [bt (bz (AE m)),bt (bz (AD r)),bt (bz (ai (map cw (ee r.aq)))),bq 2 0,bq 3 0] τ (QQ m r) τ)/\(∀(o:yw) (c:Call) (fo:x5),o.op=Op.call c->c.callee=Callee.value fo->Ay PP o [bt (bw 95 [] []),AC ps,bt (AT r.ar),QQ m r] (bi [none,none,some [dn],some [db true]] [(1,2,map cw (ee r.aq))]) (bl []) (j9 true r.aq))/\F0 92 [bt (ai []),bt (bw 39 [] [])] (bl [])/\F0 93 [bt (ai []),bt (bw 100 [] [])] (dl [])/\bl [bt (ai []),di 0]=bl [cx [],di 0]) ?_
   exact⟨yo,htk,fun τ=>Fo rfl (fo:=11) (n:=1) (b:=false) (by kernel_rfl) (by decide) (fun _=>rfl) rfl,fun τ=>Fm rfl (by unfold Pp;kernel_rfl) rfl,fun τ=>EZ rfl rfl,fun o cl fo ho hc=>xa m r ps ho hc h3,Gp,Aaa _,rfl⟩
  ·rw[qh hy] at h3
   obtain⟨R,c3,_,c4⟩:=xl 100 (sortV ys) kz (by rw[(AN ys).length_eq];omega) (fun x hx y hy=>WW x y (h2 x ((AN ys).mem_iff.1 hx)))
   rw[show AW kz (sortV ys)=Rc ys from rfl] at c4
   generalize Rc ys=zs at c4⊢
   show Rn PP HG 0 (.tup [cx zs,di 0]) bf _ _ _
   refine lv 77 [3,5] (.f<|.h (.q 20 0)<|.h (.fa 0 [9])<|.h (.f1 1 [10])<|.c (AC ps)<|.h (.p (.v (.ref (AT r.ar))))<|.h (.p (.v (AT r.ar)))<|.h (.p (QQ m r))<|.h (.oc (.tup []) (UI true ys ys.length r.aq))<|.k<|.h (.q 24 1)<|.h (.ga 73)<|.h (.oc (.tup []) (UI true (sortV ys) ys.length r.aq))<|.h (.q 25 1)<|.h (.ga 75)<|.h (.oc (.arr 4 0 zs.length) (ou ys.length zs R r.aq))<|.h (.q 25 2)<|.h (.ct 76 (cx zs) (vz ys.length r.aq)) .r) (decide ((k:Int)<(r.aq.length:Int))=false/\F0 96 [dV c] (AC ps)/\(∀(τ:St),Ay PP (Oper.mk (some 67) (Op.fieldAddr 52 (Operand.tmp 9) 11) 0 "timed.go:83" #[] none) [bt (bz (AD r))] τ (bt (bz (AT r.ar))) τ)/\(∀(τ:St),Ay PP (Oper.mk (some 68) (Op.load 50 (Operand.tmp 67)) 50 "timed.go:83" #[Edge.mk 2 Ground.data] none) [bt (bz (AT r.ar))] τ (bt (AT r.ar)) τ)/\(∀(τ:St),Ay PP (Oper.mk (some 69) (Op.makeFunc (Fn.func 97) #[] #[Operand.tmp 3,Operand.tmp 9,Operand.tmp 10,Operand.tmp 13,Operand.tmp 14]) 131 "timed.go:83" #[] none) [bt (bz (AE m)),bt (bz (AD r)),bt (bz (ai (map cw (ee r.aq)))),bq 2 0,bq 3 0] τ (QQ m r) τ)/\(∀(o:yw) (c:Call) (fo:x5),o.op=Op.call c->c.callee=Callee.value fo->Ay PP o [bt (bw 95 [] []),AC ps,bt (AT r.ar),QQ m r] (bi [none,none,some [dn],some [db true]] [(1,2,map cw (ee r.aq))]) (bl []) (UI true ys ys.length r.aq))/\(∀(o:yw) (c:Call) (fo:x5),o.op=Op.call c->c.callee=Callee.value fo->Ay PP o [bt (bw 92 [] []),bo 4 0 ys.length,bt (bw 39 [] [])] (bi [none,none,some [bm 4 ys.length 2],some [db true],some (Ad (map eV ys))] (ld r.aq)) (bl []) (UI true (sortV ys) ys.length r.aq))/\(∀(o:yw) (c:Call) (fo:x5),o.op=Op.call c->c.callee=Callee.value fo->Ay PP o [bt (bw 93 [] []),bo 4 0 ys.length,bt (bw 100 [] [])] (UI true (sortV ys) ys.length r.aq) (bo 4 0 zs.length) (ou ys.length zs R r.aq))/\(∀(e:List D),e[76]?=some (bo 4 0 zs.length)->∀(E:co) (g:Gh) (a:Act) (w:yy),FI E g (ou ys.length zs R r.aq) e a w->∃g',FI E g' (vz ys.length r.aq) (List.set e 76 (cx zs)) a w)/\bl [cx zs,di 0]=bl [cx zs,di 0]) ?_
   exact⟨yo,htk,fun τ=>Fo rfl (fo:=11) (n:=1) (b:=false) (by kernel_rfl) (by decide) (fun _=>rfl) rfl,fun τ=>Fm rfl (by unfold Pp;kernel_rfl) rfl,fun τ=>EZ rfl rfl,fun o cl fo ho hc=>xb m r ps ho hc h3,fun o cl fo ho hc=>AhT ys (by omega) (fun v hv=>by have:=h2 v hv;omega) r.aq ho hc,fun o cl fo ho hc=>AhX (sortV ys) zs ys.length R r.aq c3 (AN ys).length_eq ho hc c4,fun e he=>K4 (σ:=ou ys.length zs R r.aq) (q:=4) (sz:=2) (by decide) (Fx _) (by rw[HP]) rfl he,rfl⟩
def j8(r:cq)(c:bd):List bd:=(TU r.ar (GL (c.az.getD 1 dt))).map fun x=>DY r.to (x++ee r.aq)
def Rl(t:bc)(r:cq)(c:bd):List bd×Int:=if Aw t c=J then(if (c.az.getD 0 dt).n=r.aj then jv t (j8 r c) else([],0)) else([],17)
theorem WM{r:cq}{c:bd}(hc:pm c)(hr:I r.ar<=2/\r.aq.length<=1):I (j8 r c)<=400/\∀v∈j8 r c,v.size<=1000:=by
 obtain⟨b,hb⟩:∃x,c.az[1]?=G x:=⟨_,HQ (by rw[hc.len];omega)⟩
 have hb12:=hc.few b hb
 have e1:c.az.getD 1 dt=b:=by rw[HY,hb];rfl
 have hpl:=NY b
 rw[j8,e1]
 refine⟨by rw[HP];exact TT hr.1 (by omega),fun v hv=>?_⟩
 obtain⟨x,hx,rfl⟩:=IA.1 hv
 have:=RV _ _ hx
 have:=M0 r.to (x++ee r.aq) (by rw[Ig,HP];omega)
 omega
theorem WN{t:bc}{r:cq}{c:bd}(hc:Aw t c=J->pm c)(hr:I r.ar<=2/\r.aq.length<=1):(Rl t r c).1.length<=400/\∀v∈ (Rl t r c).1,v.size<=1000:=by
 unfold Rl jv
 split
 ·rename_i hv
  obtain⟨h1,h2⟩:=WM (hc hv) hr
  have:=Sn (j8 r c)
  split
  ·split
   ·exact⟨by show(Rc (j8 r c)).length<=400;omega,fun v hv=>h2 v (Hq hv)⟩
   ·exact⟨by simp,by simp⟩
  ·exact⟨by simp,by simp⟩
 ·exact⟨by simp,by simp⟩
theorem WT(m:ba)(t:bc)(hm:jo m t)(i:Nat)(r:cq)(hi:m.av[i]?=G r)(c:bd)(hs:c.size<=1000):F0 50 [Ax m,di i,dV c] (.tup [cx (Rl t r c).1,di (Rl t r c).2]):=by
 have hir:=(HT.1 hi).1
 have hfew:=hm.few
 unfold Rl
 cases hv:Aw t c with
 |false=>rw[Ij (by decide)];exact AaK m t hm i r hi c hs hv
 |true=>
  rw[Io rfl]
  have hsh:=hm.shape c hv
  obtain⟨s0,h0⟩:∃x,c.az[0]?=G x:=⟨_,HQ (by rw[hsh.len];omega)⟩
  obtain⟨b,hb⟩:∃x,c.az[1]?=G x:=⟨_,HQ (by rw[hsh.len];omega)⟩
  have e0:c.az.getD 0 dt=s0:=by rw[HY,h0];rfl
  have e1:c.az.getD 1 dt=b:=by rw[HY,hb];rfl
  rw[e0]
  by_cases hf:s0.n=r.aj
  ·rw[Io hf]
   have hb12:=hsh.few b hb
   have hru:=hm.rule r (HW hi)
   have hpl:=NY b
   have ht:=Sz c b hb (by omega) (GL b) hpl (XA b fun v hv=>hsh.toks b v hb hv)
   have p3:=WU m t hm r (by omega) hru.1 c (GL b) (by omega) ht (j8 r c) (by rw[j8,e1]) _ rfl
   generalize jv t (j8 r c)=p at p3⊢
   have hil:=hir
   have hval:=hm.int.valid c (by omega)
   rw[hv] at hval
   exact sv HG 77 [3,5] (.c (di 0)<|.k<|.f<|.f<|.f<|.c (db J)<|.x (AD r)<|.h (.xs (Au s0))<|.f<|.h (.q 14 0)<|.h (.cl 1 0 1 2)<|.lo [ke 3,ke 5,ke 9,ke 10,ch 53 (cy r.aq),ch 54 (di (I r.aq)),ch 55 (di (0:Nat))] (o7 r [])) (_/\(m.kind !=5)=O/\Y ((i:Int)<0)=O/\Y ((i:Int)>=(I (U AD m.av):Int))=O/\_/\0<=(i:Int)/\(U AD m.av)[Z (i:Int)]?=G (AD r)/\Q 2/\iz 0<=0/\(U eV c.az)[Z 0]?=G (Au s0)/\yn/\(s0.n !=r.aj)=O/\Q (cy r.aq)/\di (I (U vi r.aq):Int)=di (I r.aq:Int)/\Q (di 0)/\cp 2 [1] [G [bt (ae r.name),di r.aj,di r.to,cy r.am,cy r.ak,cy r.move,di r.chan,di r.act,di r.letter,cy r.path,cy r.next,bt (AT r.ar),cy r.aq,di r.second],G [br 1 []]]=J/\Q [G (rC r),G [br 1 nV]]/\Q [(1,2,nV)]/\_) ⟨hm.chk,by rw[hm.kind];rfl,yo,HU (by rw[HP];omega),hval,by omega,A3 hi,rfl,Iv _,A1 (i:=0) h0,yl,by rw[hf];exact bne_self_eq_false _,rfl,by rw[HP],rfl,rfl,rfl,rfl,iK (p3 _ 0 rfl)⟩
  ·rw[Ij hf]
   exact WV m t hm i r hi c hs hv s0 h0 hf
end Go.Proofs.YthmjfmacdlhfjaaGreat
