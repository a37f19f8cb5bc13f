/-
  A part of the proof.
-/
import Derived.Test.YtpmahmngmgnnbaaGreatDoorZe
import Derived.Test.YtpmahmngmgnnbaaGreatDoorZd
import Derived.Laws.IdiomStrings
import Derived.Laws.IdiomCopy
namespace Go.Proofs.YtpmahmngmgnnbaaGreatDoor
open Go.Dv Go.Nv
set_option maxRecDepth 20000
open List (getElem?_drop length map nil_append take)
open Go.IntKind (wrap)
theorem Fv{s a:List UInt8}{p:Nat}{c:UInt8}{r:List UInt8}(h:s.drop p=a++c::r):s[p+a.length]?=some c:=by
 have:=HL (·[a.length]?) h
 simpa using this
theorem GN{s a r:List UInt8}{p:Nat}(h:s.drop p=a++r):s.drop (p+a.length)=r:=by
 rw[←List.drop_drop,h,List.drop_left]
theorem drop_cons{s r:List UInt8}{p:Nat}{c:UInt8}(h:s.drop p=c::r):s.drop (p+1)=r:=by
 have:=GN (a:=[c]) h
 exact this
theorem Co(os:List Val)(v:Val):os.map eV++[Ag v]=(os++[v]).map eV:=by rw[←Cb];simp
theorem Nn(n:Int)(l:List Val):dV (.mk n l)=.v (.agg [vi n,.list (l.map eV)]):=rfl
abbrev Abd(s:List UInt8)(x:Val):Prop:=∀(p n:Nat) (post:List UInt8),s.drop p=Ay x++post->(∀y r,post=y::r->y.toNat<48/\y≠40)->n+x.size<=128->Aa PP 91 [.ptr 0 0] (rd s p n false) (dV x) (rd s (p+(Ay x).length) (n+x.size) false)
abbrev stK(s:List UInt8)(at_ n:Nat)(v0:Int)(ks:List Val):St:=⟨[some (cRd s at_ n false),some [di 0,.v .nils],some [di v0,.acc 1 (ks.map eV)]],[(1,2,ks.map eV)]⟩
theorem Ns(s:List UInt8)(hs:s.length<=1000000)(v0:Int)(all:List Val)(hall:all.length<=128)(IH:∀x∈all,Abd s x)(post:List UInt8):∀(rs:List Val) (x:Val) (done:List Val) (p n:Nat),done++x::rs=all->s.drop p=Ay x++(A3 false rs++41::post)->n+Val.sizes (x::rs)<=128->
  Rn PP D0 1 (dV (.mk v0 all)) (rd s (p+((Ay x).length+(A3 false rs).length)+1) (n+Val.sizes (x::rs)) false) ([.lp (sub Ce [1,1,1,1,1,1,1,1,1,0,1,0,0]),.blk 2,.code (sub Ce [1,1,1,1,1,1,1,1,1,1])]++[]) (mkE 125 [(0,.ptr 0 0),(2,.ptr 1 0),(6,.ptr 2 0),(7,db true)]) (stK s p n v0 done)
 |[],x,done,p,n,ha,hd,hn=>by
  obtain⟨q,hq⟩:∃q,q=p+(Ay x).length:=⟨_,rfl⟩
  obtain⟨n2,hn2⟩:∃n2,n2=n+x.size:=⟨_,rfl⟩
  have hx:=IH x (by rw[←ha];simp) p n (41::post) (by simpa[A3] using hd) (fun y r e=>by cases e;decide) (by simp only[Val.sizes] at hn;omega)
  rw[←hq, ←hn2] at hx
  have hc:s[q]?=some 41:=by rw[hq];exact Fv (r:=post) (by simpa[A3] using hd)
  have e1:p+((Ay x).length+(A3 false []).length)+1=q+1:=by simp only[A3,H7];omega
  have e2:n+Val.sizes [x]=n2:=by simp only[Val.sizes];omega
  rw[e1,e2]
  refine lv 125 [] (.k<|.k<|.m (.acc 1 (done.map eV))<|.c1 (cRd s q n2 false) (dV x)<|.c1 (cRd s q n2 false) (db false)<|.n<|.c1 (cRd s (q+1) n2 false) (db true) .r) (Q (some (D.acc 1 (map eV done)))/\Aa PP 91 [D.ptr 0 0] (St.mk [some (cRd s p n false)] []) (dV x) (St.mk [some (cRd s q n2 false)] [])/\Q (map eV done)/\Ax (length (map eV done)+length (Ag x::nV)) 32/\((Q (some [D.acc 1 (map eV done)])/\True)/\True)/\Aa PP 122 [D.ptr 0 0,D.v (V.int IntKind.u8 32)] (St.mk [some (cRd s q n2 false)] []) (db false) (St.mk [some (cRd s q n2 false)] [])/\Aa PP 122 [D.ptr 0 0,D.v (V.int IntKind.u8 41)] (St.mk [some (cRd s q n2 false)] []) (db true) (St.mk [some (cRd s (q+1) n2 false)] [])/\[some [D.v (V.str s),di (↑(q+1):Int),di (n2:Int),db !true]]=[some (cRd s (q+1) n2 false)]/\D.v (V.agg [vi v0,V.list (map eV done++[Ag x])])=dV (Val.mk v0 all)) ?_
  rw[T4,Aae]
  refine⟨rfl,hx,rfl,⟨?_,?_⟩,⟨⟨rfl,trivial⟩,trivial⟩,Ky s hs q n2 false 32 41 hc (by decide),N4 s hs q n2 false 41 hc,rfl,?_⟩
  ·rw[←ha] at hall;simp only[Hw,HC,H3,H7] at hall⊢;omega
  ·rw[←ha] at hall;simp only[Hw,HC,H3,H7] at hall⊢;omega
  ·rw[Co,ha];exact(Nn v0 all).symm
 |y::rs,x,done,p,n,ha,hd,hn=>by
  obtain⟨q,hq⟩:∃q,q=p+(Ay x).length:=⟨_,rfl⟩
  obtain⟨n2,hn2⟩:∃n2,n2=n+x.size:=⟨_,rfl⟩
  have hd2:s.drop p=Ay x++32::(Ay y++(A3 false rs++41::post)):=by simpa[A3] using hd
  have hx:=IH x (by rw[←ha];simp) p n _ hd2 (fun y r e=>by cases e;decide) (by simp only[Val.sizes] at hn;omega)
  rw[←hq, ←hn2] at hx
  have hc:s[q]?=some 32:=by rw[hq];exact Fv hd2
  have ih:=Ns s hs v0 all hall IH post rs y (done++[x]) (q+1) n2 (by rw[←ha];simp) (by rw[hq];exact drop_cons (GN hd2)) (by simp only[Val.sizes] at hn⊢;omega)
  have e1:p+((Ay x).length+(A3 false (y::rs)).length)+1=q+1+((Ay y).length+(A3 false rs).length)+1:=by simp only[A3,H3,HC];simp;omega
  have e2:n+Val.sizes (x::y::rs)=n2+Val.sizes (y::rs):=by simp only[Val.sizes];omega
  rw[e1,e2]
  refine lv 125 [] (.k<|.k<|.m (.acc 1 (done.map eV))<|.c1 (cRd s q n2 false) (dV x)<|.c1 (cRd s (q+1) n2 false) (db true)<|.ls [ke 0,ke 2,ke 6,ch 7 (db true)] (stK s (q+1) n2 v0 (done++[x]))) (Q (some (D.acc 1 (map eV done)))/\Aa PP 91 [D.ptr 0 0] (St.mk [some (cRd s p n false)] []) (dV x) (St.mk [some (cRd s q n2 false)] [])/\Q (map eV done)/\Ax (length (map eV done)+length (Ag x::nV)) 32/\((Q (some [D.acc 1 (map eV done)])/\True)/\True)/\Aa PP 122 [D.ptr 0 0,D.v (V.int IntKind.u8 32)] (St.mk [some (cRd s q n2 false)] []) (db true) (St.mk [some (cRd s (q+1) n2 false)] [])/\Q (db true)/\[some (cRd s (q+1) n2 false),some [di 0,dn],some [di v0,D.acc 1 (map eV done++Ag x::nV)]]=[some (cRd s (q+1) n2 false),some [di 0,dn],some [di v0,D.acc 1 (map eV (done++[x]))]]/\[(1,2,map eV done++Ag x::nV)]=[(1,2,map eV (done++[x]))]/\I0 D0 1 (dV (Val.mk v0 all)) (rd s (q+1+(length (Ay y)+length (A3 false rs))+1) (n2+Val.sizes (y::rs)) false) [kl Ce [1,1,1,1,1,1,1,1,1,0,1,0,0],KI.blk 2,kc Ce [1,1,1,1,1,1,1,1,1,1]] (mkE 125 [(0,D.ptr 0 0),(2,D.ptr 1 0),(6,D.ptr 2 0),(7,db true)]) (stK s (q+1) n2 v0 (done++[x]))) ?_
  rw[T4]
  refine⟨rfl,hx,rfl,⟨?_,?_⟩,⟨⟨rfl,trivial⟩,trivial⟩,N4 s hs q n2 false 32 hc,rfl,?_,?_,⟨ih⟩⟩
  ·rw[←ha] at hall;simp only[Hw,HC,H3,H7] at hall⊢;omega
  ·rw[←ha] at hall;simp only[Hw,HC,H3,H7] at hall⊢;omega
  ·rw[Co]
  ·rw[Co]
theorem T8(s:List UInt8)(hs:s.length<=1000000)(i p n:Nat)(hi:i<9223372036854775808)(x:Val)(rs:List Val)(post:List UInt8)(hd:s.drop p=Lib.decDigits i++40::(Ay x++(A3 false rs++41::post)))(hn:n+1+Val.sizes (x::rs)<=128)(hp:p<=s.length)(IH:∀y∈x::rs,Abd s y):
  Rn PP D0 1 (dV (.mk i (x::rs))) (rd s (p+(Lib.decDigits i).length+1+((Ay x).length+(A3 false rs).length)+1) (n+1+Val.sizes (x::rs)) false) ([.lp (sub Ce [1,1,1,0,0,0]),.blk 0,.code (sub Ce [1,1,1,1])]++[]) (mkE 125 [(0,.ptr 0 0),(2,.ptr 1 0),(3,di p)]) (D9 s (p+(Lib.decDigits i).length) n):=by
 obtain⟨q,hq⟩:∃q,q=p+(Lib.decDigits i).length:=⟨_,rfl⟩
 have hc:s[q]?=some 40:=by rw[hq];exact Fv hd
 have hsl:(s.drop p).take (q-p)=Lib.decDigits i:=by rw[hq,hd];simp
 have hlt:=(H0.1 hc).1
 have hk:=Ns s hs i (x::rs) (by have:=Val.length_le (x::rs);omega) IH post rs x [] (q+1) (n+1) rfl (by rw[hq];exact drop_cons (GN hd)) hn
 rw[←hq]
 refine lv 125 [] (.t<|.y b40<|.f<|.k<|.c (.tup [di i,.raw .nilIface])<|.h (.q 7 1)<|.h (.o (db false) (St.mk [some (cRd s q (n+1) false),some [di 0,.v .nils]] []))<|.k<|.f<|.h .rn<|.h (.q 11 0)<|.h (.cl 2 1 1 2)<|.c1 (cRd s (q+1) (n+1) false) (db true)<|.k<|.ls [ke 0,ke 2,ch 6 (.ptr 2 0),ch 7 (db true)] (stK s (q+1) (n+1) i [])) (decide ((q:Int)<(s.length:Int))=true/\0<=(q:Int)/\s[Int.toNat (q:Int)]?=some b40/\decide ((↑(UInt8.toNat b40):Int)>=48)=false/\(True/\True/\True/\True/\True)/\0<=(fun x=>x.snd) (IntKind.i64,(p:Int))/\(fun x=>x.snd) (IntKind.i64,(p:Int))<=(fun x=>x.snd) (IntKind.i64,(q:Int))/\(fun x=>x.snd) (IntKind.i64,(q:Int))<=(s.length:Int)/\F0 123 [D.v (V.str (List.drop (Int.toNat ((fun x=>x.snd) (IntKind.i64,(p:Int)))) (take (Int.toNat ((fun x=>x.snd) (IntKind.i64,(q:Int)))) s)))] (D.tup [di (i:Int),D.raw Value.nilIface])/\(True/\True/\True)/\Ap PP (Oper.mk (some 77) (Op.binOp BinOp.neq 100 (Operand.tmp 76) (Operand.const Value.nilIface) 100) 4 "order.go:306" #[Edge.mk 0 Ground.data] none) [D.raw Value.nilIface,D.undef] (St.mk [some [D.v (V.str s),di (q:Int),di (wrap IntKind.i64 ((n:Int)+1)),db false],some [di 0,dn]] []) (db false) (St.mk [some (cRd s q (n+1) false),some [di 0,dn]] [])/\decide ((↑(n+1):Int)>128)=false/\Aa PP 122 [D.ptr 0 0,D.v (V.int IntKind.u8 40)] (St.mk [some (cRd s q (n+1) false)] []) (db true) (St.mk [some (cRd s (q+1) (n+1) false)] [])/\Q (D.ptr 2 0)/\Q (db true)/\Q [some (cRd s (q+1) (n+1) false),some [di 0,dn],some [di (i:Int),D.acc 1 nV]]/\Q [(1,2,nV)]/\I0 D0 1 (dV (Val.mk (i:Int) (x::rs))) (rd s (q+1+(length (Ay x)+length (A3 false rs))+1) (n+1+Val.sizes (x::rs)) false) [kl Ce [1,1,1,1,1,1,1,1,1,0,1,0,0],KI.blk 2,kc Ce [1,1,1,1,1,1,1,1,1,1]] (mkE 125 [(0,D.ptr 0 0),(2,D.ptr 1 0),(6,D.ptr 2 0),(7,db true)]) (stK s (q+1) (n+1) (i:Int) [])) ?_
 rw[Y7,Ae (by omega),List.drop_take,show((q:Nat):Int).toNat=q from rfl,show((p:Nat):Int).toNat=p from rfl]
 rw[hsl]
 exact⟨Hz (by omega),by omega,hc,by decide,⟨trivial,trivial,trivial,trivial,trivial⟩,by show(0:Int)<=p;omega,by show(p:Int)<=q;omega,by show(q:Int)<=_;omega,J5 i hi,⟨trivial,trivial,trivial⟩,Et rfl (by kernel_rfl),H1 (by omega),N4 s (by omega) q (n+1) false 40 hc,rfl,rfl,rfl,rfl,⟨hk⟩⟩
theorem T6(s:List UInt8)(hs:s.length<=1000000)(N:Nat):∀v:Val,v.size<=N->smB v=true->Abd s v:=by
 induction N with
 |zero=>intro v h;have:=v.size_pos;omega
 |succ N ih=>
  intro v hN hv p n post hd hpost hn
  cases v with
  |mk n0 ks=>
  simp only[smB,Hy,H8] at hv
  obtain⟨i,rfl⟩:∃i:Nat,n0=i:=⟨n0.toNat,by omega⟩
  have hi:i<9223372036854775808:=by omega
  have hdg:∀c∈Lib.decDigits i,48<=c.toNat/\c.toNat<=57:=SF i
  obtain⟨c0,dr,hdd⟩:∃c0 dr,Lib.decDigits i=c0::dr:=by
   have:=KR i
   cases h:Lib.decDigits i with
   |nil=>rw[h] at this;simp at this
   |cons a b=>exact⟨a,b,rfl⟩
  have hd':∃tl,s.drop p=Lib.decDigits i++tl:=by
   refine⟨A3 true ks++(if ks.isEmpty then[] else[41])++post,?_⟩
   rw[hd];simp[Ay]
  obtain⟨tl,hd2⟩:=hd'
  have hc0:s[p]?=some c0:=by have:=Fv (a:=[]) (r:=dr++tl) (c:=c0) (p:=p) (by rw[hd2,hdd];rfl);simpa using this
  have hlt:=(H0.1 hc0).1
  have h45:c0≠45:=by
   intro e;subst e
   have:=(hdg 45 (by rw[hdd];simp)).1
   simp at this
  refine sv D0 125 [] (.c1 (cRd s p n false) (db false)<|.ls [ke 0,ke 2,ch 3 (di p)] (D9 s p n)) (Aa PP 122 [D.ptr 0 0,D.v (V.int IntKind.u8 45)] (St.mk [some (cRd s p n false)] []) (db false) (St.mk [some (cRd s p n false)] [])/\Q (di (p:Int))/\Q [some (cRd s p n false),some [di 0,dn]]/\I0 D0 (length (rd s p n false).H) (dV (Val.mk (i:Int) ks)) (rd s (p+length (Ay (Val.mk (i:Int) ks))) (n+Val.size (Val.mk (i:Int) ks)) false) [kl Ce [1,1,1,0,0,0],KI.blk 0,kc Ce [1,1,1,1]] (mkE 125 [(0,D.ptr 0 0),(2,D.ptr 1 0),(3,di (p:Int))]) (D9 s p n)) ?_
  rw[Abg]
  have hrn:=JA s hs p n (.mk (i:Int) ks) (p+(Ay (.mk (i:Int) ks)).length) (n+(Val.mk (i:Int) ks).size) tl (Lib.decDigits i) p hdg hd2 (by
   have hp:p+(Lib.decDigits i).length<=s.length:=by
    have:=HL length hd2
    simp only[I3,HC] at this;omega
   have hsl:(s.drop p).take (Lib.decDigits i).length=Lib.decDigits i:=by rw[hd2];simp
   cases ks with
   |nil=>
    have e1:Ay (.mk (i:Int) [])=Lib.decDigits i:=by simp[Ay,A3]
    have e2:(Val.mk (i:Int) []).size=1:=by simp[Val.size,Val.sizes]
    rw[e1,e2]
    refine T9 s hs p i n hi (by rw[e2] at hn;omega) hp hsl fun y hy=>?_
    rw[e1] at hd
    have hd3:=GN hd
    cases post with
    |nil=>
     have:=HL (·[0]?) hd3
     simp only[getElem?_drop,Iv,List.getElem?_nil] at this
     rw[this] at hy;cases hy
    |cons z r=>
     have:=Fv hd
     rw[hy] at this;cases this
     exact hpost _ _ rfl
   |cons x rs=>
    have e1:Ay (.mk (i:Int) (x::rs))=Lib.decDigits i++(40::(Ay x++(A3 false rs++[41]))):=by simp[Ay,A3]
    have e2:(Val.mk (i:Int) (x::rs)).size=Val.sizes (x::rs)+1:=by simp[Val.size];omega
    have e3:p+(Ay (.mk (i:Int) (x::rs))).length=p+(Lib.decDigits i).length+1+((Ay x).length+(A3 false rs).length)+1:=by rw[e1];simp only[HC,H3,H7];omega
    have e4:n+(Val.mk (i:Int) (x::rs)).size=n+1+Val.sizes (x::rs):=by omega
    have hN2:Val.sizes (x::rs)<=N:=by omega
    rw[e3,e4]
    refine T8 s hs i p n hi x rs post (by rw[hd,e1];simp) (by omega) (by omega) fun y hy=>?_
    exact ih y (by have:=Val.size_mem hy;omega) (TY hv.2.2 y hy))
  exact⟨Ky s hs p n false 45 c0 hc0 h45,rfl,rfl,⟨hrn⟩⟩
noncomputable abbrev P2:Func:= Tryz.f58
theorem Fi(v:Val)(hv:smB v=true)(hn:v.size<=128):Aa PP 58 [ds (Ay v)] σ0 (.tup [dV v,di 0]) σ0:=by
 have hl:=F6 v hv
 have hr:=T6 (Ay v) (by omega) 128 v hn hv 0 0 [] (by simp) (fun y r e=>by cases e) (by omega)
 have ht:=JK v hv hn
 rw[Ih,Ih] at hr
 generalize Ay v=s at*
 refine sv P2 45 [] (.f<|.c1 (cRd s s.length v.size false) (dV v)<|.k<|.f<|.c (.tup [ds s,di 0])<|.k<|.f<|.r) (decide ((s.length:Int)>4096)=false/\Aa PP 91 [D.ptr 0 0] (St.mk [some [D.v (V.str s),di 0,di 0,db false]] []) (dV v) (St.mk [some (cRd s s.length (Val.size v) false)] [])/\((s.length:Int) !=(s.length:Int))=false/\F0 25 [dV v] (D.tup [D.v (V.str s),di 0])/\(!s==s)=false/\D.tup [D.v (V.agg [vi v.n,V.list (map eV v.kids)]),di 0]=D.tup [dV v,di 0]) ?_
 exact⟨H1 (by omega),hr,by simp,ht,by simp,rfl⟩
abbrev AD:List UInt8:=[99,111,118,101,114]
abbrev A0:List UInt8:=[112,108,97,99,101]
abbrev B6:List UInt8:=[114,101,97,99,104]
abbrev AP:List UInt8:=[98,111,117,110,100,101,100]
abbrev CP:List UInt8:=[100,101,97,100]
abbrev CO:List UInt8:=[104,111,109,101]
noncomputable abbrev Vm:Func:= Tryz.f9
theorem Rw(m:Mod)(q:Qst)(h:Aa PP 11 [Ad m,dQ q] σ0 (di 48) σ0):Aa PP 9 [Ad m,dQ q] σ0 (.tup [ds [],di 48]) σ0:=by
 refine sv Vm 52 [2,3] (.c (di 48)<|.k .r) (F0 11 [Ad m,D.v (vQ q)] (di 48)/\D.tup [D.v (V.str (ByteArray.mk #[]).data.toList),di 48]=D.tup [D.v (V.str []),di 48]) ?_
 exact⟨h,rfl⟩
theorem LA(m:Mod)(p:Nat)(v:Val)(nm:List UInt8)(hp:m.places[p]?=some nm)(hl:nm.length<=1000)(h:Aa PP 11 [Ad m,dQ ⟨4,p,v⟩] σ0 (di 0) σ0):Aa PP 9 [Ad m,dQ ⟨4,p,v⟩] σ0 (.tup [ds (A0++[32]++nm),di 0]) σ0:=by
 refine sv Vm 52 [2,3] (.c (di 0)<|.k<|.x (.str nm) .r) (F0 11 [Ad m,D.v (vQ (Qst.mk 4 (p:Int) v))] (di 0)/\0<=(Qst.mk 4 (p:Int) v).kind/\(Qst.mk 4 (p:Int) v).kind<(↑7:Int)/\6<=9223372036854775807/\0<=(Qst.mk 4 (p:Int) v).place/\(map V.str m.places)[Int.toNat (Qst.mk 4 (p:Int) v).place]?=some (V.str nm)/\length ([112,108,97,99,101]++(ByteArray.mk #[32]).data.toList)+length nm<=9223372036854775807/\(True/\True)/\D.tup [D.v (V.str ([112,108,97,99,101]++(ByteArray.mk #[32]).data.toList++nm)),di 0]=D.tup [D.v (V.str (A0++[32]++nm)),di 0]) ?_
 exact⟨h,by show(0:Int)<=4;decide,by show(4:Int)<7;decide,by decide,by show(0:Int)<=p;omega,BA hp,by show 6+nm.length<=_;omega,⟨trivial,trivial⟩,rfl⟩
theorem Rv(m:Mod)(p:Int)(v:Val)(hv:smB v=true)(hs:v.size<=128)(h:Aa PP 11 [Ad m,dQ ⟨1,p,v⟩] σ0 (di 0) σ0):Aa PP 9 [Ad m,dQ ⟨1,p,v⟩] σ0 (.tup [ds (AD++[32]++Ay v),di 0]) σ0:=by
 refine sv Vm 52 [2,3] (.c (di 0)<|.k<|.c (.tup [ds (Ay v),di 0])<|.k .r) (F0 11 [Ad m,D.v (vQ (Qst.mk 1 p v))] (di 0)/\0<=(Qst.mk 1 p v).kind/\(Qst.mk 1 p v).kind<(↑7:Int)/\F0 25 [D.v (V.agg [vi (Val.n (Qst.mk 1 p v).target),vVs (Val.kids (Qst.mk 1 p v).target)])] (D.tup [D.v (V.str (Ay v)),di 0])/\6<=9223372036854775807/\length ([99,111,118,101,114]++(ByteArray.mk #[32]).data.toList)+length (Ay v)<=9223372036854775807/\D.tup [D.v (V.str ([99,111,118,101,114]++(ByteArray.mk #[32]).data.toList++Ay v)),di 0]=D.tup [D.v (V.str (AD++[32]++Ay v)),di 0]) ?_
 have hl:=F6 v hv
 exact⟨h,by show(0:Int)<=1;decide,by show(1:Int)<7;decide,JK v hv hs,by decide,by show 6+(Ay v).length<=_;omega,rfl⟩
theorem MK(m:Mod)(p:Int)(v:Val)(h:Aa PP 11 [Ad m,dQ ⟨3,p,v⟩] σ0 (di 0) σ0):Aa PP 9 [Ad m,dQ ⟨3,p,v⟩] σ0 (.tup [ds AP,di 0]) σ0:=by
 refine sv Vm 52 [2,3] (.c (di 0)<|.k .r) (F0 11 [Ad m,D.v (vQ (Qst.mk 3 p v))] (di 0)/\0<=(Qst.mk 3 p v).kind/\(Qst.mk 3 p v).kind<(↑7:Int)/\D.tup [D.v (V.str [98,111,117,110,100,101,100]),di 0]=D.tup [D.v (V.str AP),di 0]) ?_
 exact⟨h,by show(0:Int)<=3;decide,by show(3:Int)<7;decide,rfl⟩
theorem Uv(m:Mod)(p:Int)(v:Val)(h:Aa PP 11 [Ad m,dQ ⟨5,p,v⟩] σ0 (di 0) σ0):Aa PP 9 [Ad m,dQ ⟨5,p,v⟩] σ0 (.tup [ds CP,di 0]) σ0:=by
 refine sv Vm 52 [2,3] (.c (di 0)<|.k .r) (F0 11 [Ad m,D.v (vQ (Qst.mk 5 p v))] (di 0)/\0<=(Qst.mk 5 p v).kind/\(Qst.mk 5 p v).kind<(↑7:Int)/\D.tup [D.v (V.str [100,101,97,100]),di 0]=D.tup [D.v (V.str CP),di 0]) ?_
 exact⟨h,by show(0:Int)<=5;decide,by show(5:Int)<7;decide,rfl⟩
theorem Uu(m:Mod)(p:Int)(v:Val)(h:Aa PP 11 [Ad m,dQ ⟨6,p,v⟩] σ0 (di 0) σ0):Aa PP 9 [Ad m,dQ ⟨6,p,v⟩] σ0 (.tup [ds CO,di 0]) σ0:=by
 refine sv Vm 52 [2,3] (.c (di 0)<|.k .r) (F0 11 [Ad m,D.v (vQ (Qst.mk 6 p v))] (di 0)/\0<=(Qst.mk 6 p v).kind/\(Qst.mk 6 p v).kind<(↑7:Int)/\D.tup [D.v (V.str [104,111,109,101]),di 0]=D.tup [D.v (V.str CO),di 0]) ?_
 exact⟨h,by show(0:Int)<=6;decide,by show(6:Int)<7;decide,rfl⟩
def m0:Mod:=⟨1,[[97],[98]],[[120]],[],[],0,0,[],.mk 0 [.mk 0 [],.mk 0 []]⟩
theorem Aaw:m0.ok where
 kind:=.inl rfl
 sized:=by decide
 ranked:=by decide
 named:=by decide+kernel
 rshort:=fun r h=>by simp[m0] at h
 right:=fun r h=>by simp[m0] at h
 start:=by decide+kernel
 ssize:=by decide+kernel
def EM:Val:=.mk 0 [.mk 1 [],.mk 7 []]
def Hj:List UInt8:=[48,40,49,32,55,41]
theorem QJ:Ay EM=Hj:=by
 have h:∀i:Nat,i<10->Lib.decDigits i=[UInt8.ofNat (48+i)]:=fun i hi=>by rw[Lib.decDigits_one hi]
 simp only[EM,Ay,A3,show Int.toNat 0=0 from rfl,show Int.toNat 1=1 from rfl,show Int.toNat 7=7 from rfl,h 0 (by decide),h 1 (by decide),h 7 (by decide)]
 rfl
theorem Ym:Cx m0 (AL m0):=Aaw.int
theorem PC:Aa PP 11 [Ad m0,dQ ⟨1,0,EM⟩] σ0 (di 0) σ0:=by
 have h:=FC m0 (AL m0) Ym ⟨1,0,EM⟩ _ (FY m0 (AL m0) 0 EM (Ym.valid _ (by decide+kernel)))
 rwa[show Af m0 (AL m0) ⟨1,0,EM⟩=true from by decide+kernel] at h
theorem PB:Aa PP 11 [Ad m0,dQ ⟨4,0,zeroV⟩] σ0 (di 0) σ0:=by
 have h:=FC m0 (AL m0) Ym ⟨4,0,zeroV⟩ _ (FX m0 (AL m0) Ym 0 zeroV (Val.fit_of _ (by decide+kernel)))
 rwa[show Af m0 (AL m0) ⟨4,0,zeroV⟩=true from by decide+kernel] at h
theorem w01:wrap IntKind.i64 (0+1)=1:=by decide
theorem w12:wrap IntKind.i64 (1+1)=2:=by decide
theorem w23:wrap IntKind.i64 (2+1)=3:=by decide
theorem w34:wrap IntKind.i64 (3+1)=4:=by decide
noncomputable abbrev Cn:Func:= Tryz.f34
theorem Rt:Aa PP 34 [Ad m0,ds (AD++[32]++Hj)] σ0 (.tup [dQ ⟨1,0,EM⟩,db true]) σ0:=by
 refine sv Cn 79 [2] (.c (.tup [ds AD,ds Hj,db true])<|.n<|.n<|.c (.tup [dV EM,di 0])<|.n<|.x (.str [120])<|.n<|.c (.tup [ds (AD++[32]++Hj),di 0])<|.r) (F0 57 [D.v (V.str (AD++[32]++Hj)),D.v (V.str (ByteArray.mk #[32]).data.toList)] (D.tup [D.v (V.str AD),D.v (V.str Hj),db true])/\iz 0<=0/\0<(↑7:Int)/\0<=wrap IntKind.i64 (0+1)/\wrap IntKind.i64 (0+1)<(↑7:Int)/\F0 58 [D.v (V.str Hj)] (D.tup [dV EM,di 0])/\iz 0<=0/\Q (some (V.str [120]))/\F0 9 [Ad m0,D.v (V.agg [vi (wrap IntKind.i64 (0+1)),vi 0,vi EM.n,vVs EM.kids])] (D.tup [D.v (V.str (AD++[32]++Hj)),di 0])/\D.tup [D.v (V.agg [vi (wrap IntKind.i64 (0+1)),vi 0,vi EM.n,V.list [eV (Val.mk 1 []),eV (Val.mk 7 [])]]),db (AD++[32]++Hj==AD++[32]++Hj)]=D.tup [dQ (Qst.mk 1 0 EM),db true]) ?_
 have hc:=GQ (AD++[32]++Hj) (by decide)
 rw[show Cd (AD++[32]++Hj)=(AD,Hj,true) from by decide+kernel] at hc
 have hp:=Fi EM (by decide+kernel) (by decide+kernel)
 have ht:=Rv m0 0 EM (by decide+kernel) (by decide+kernel) PC
 rw[QJ] at hp ht
 rw[w01]
 exact⟨hc,by decide,by decide,by decide,by decide,hp,by decide,rfl,ht,rfl⟩
theorem Rs:Aa PP 34 [Ad m0,ds (A0++[32]++[120])] σ0 (.tup [dQ ⟨4,0,zeroV⟩,db true]) σ0:=by
 refine sv Cn 79 [2] (.c (.tup [ds A0,ds [120],db true])<|.n<|.n<|.n<|.n<|.n<|.n<|.x (.str [120])<|.n<|.c (.tup [ds (A0++[32]++[120]),di 0])<|.r) (F0 57 [D.v (V.str (A0++[32]++[120])),D.v (V.str (ByteArray.mk #[32]).data.toList)] (D.tup [D.v (V.str A0),D.v (V.str [120]),db true])/\iz 0<=0/\0<(↑7:Int)/\0<=wrap IntKind.i64 (0+1)/\wrap IntKind.i64 (0+1)<(↑7:Int)/\0<=wrap IntKind.i64 (wrap IntKind.i64 (0+1)+1)/\wrap IntKind.i64 (wrap IntKind.i64 (0+1)+1)<(↑7:Int)/\0<=wrap IntKind.i64 (wrap IntKind.i64 (wrap IntKind.i64 (0+1)+1)+1)/\wrap IntKind.i64 (wrap IntKind.i64 (wrap IntKind.i64 (0+1)+1)+1)<(↑7:Int)/\0<=wrap IntKind.i64 (wrap IntKind.i64 (wrap IntKind.i64 (wrap IntKind.i64 (0+1)+1)+1)+1)/\wrap IntKind.i64 (wrap IntKind.i64 (wrap IntKind.i64 (wrap IntKind.i64 (0+1)+1)+1)+1)<(↑7:Int)/\iz 0<=0/\Q (some (V.str [120]))/\F0 9 [Ad m0,D.v (V.agg [vi (wrap IntKind.i64 (wrap IntKind.i64 (wrap IntKind.i64 (wrap IntKind.i64 (0+1)+1)+1)+1)),vi 0,vi 0,V.list []])] (D.tup [D.v (V.str (A0++[32]++[120])),di 0])/\D.tup [D.v (V.agg [vi (wrap IntKind.i64 (wrap IntKind.i64 (wrap IntKind.i64 (wrap IntKind.i64 (0+1)+1)+1)+1)),vi 0,vi 0,V.list []]),db (A0++[32]++[120]==A0++[32]++[120])]=D.tup [dQ (Qst.mk 4 0 zeroV),db true]) ?_
 have hc:=GQ (A0++[32]++[120]) (by decide)
 rw[show Cd (A0++[32]++[120])=(A0,[120],true) from by decide+kernel] at hc
 have ht:=LA m0 0 zeroV [120] rfl (by decide) PB
 rw[w01,w12,w23,w34]
 exact⟨hc,by decide,by decide,by decide,by decide,by decide,by decide,by decide,by decide,by decide,by decide,by decide,rfl,ht,rfl⟩
noncomputable abbrev Vn:Func:= Tryz.f16
theorem MM(m:Mod)(t:Typ)(hm:Cx m t)(q:Qst)(s:List UInt8)(hs:s.length<=4096)(h:Aa PP 34 [Ad m,ds s] σ0 (.tup [dQ q,db true]) σ0):Aa PP 16 [Ad m,ds s] σ0 (.tup [dQ q,di 0]) σ0:=by
 refine sv Vn 29 [2] (.c (di 0)<|.k<|.f<|.c (.tup [dQ q,db true])<|.k .r) (F0 27 [Ad m] (di 0)/\decide ((s.length:Int)>4096)=false/\F0 34 [Ad m,D.v (V.str s)] (D.tup [dQ q,db true])/\D.tup [D.v (V.agg [vi q.kind,vi q.place,vi q.target.n,V.list (map eV q.target.kids)]),di 0]=D.tup [dQ q,di 0]) ?_
 exact⟨hm.walks,H1 (by omega),h,rfl⟩
noncomputable abbrev Aa1:Func:= Tryz.f4
theorem Lv:Aa PP 4 [] σ0 (db true) σ0:=by
 refine sv Aa1 57 [] (.c (.tup [dQ ⟨1,0,EM⟩,di 0])<|.c (.tup [dQ ⟨4,0,zeroV⟩,di 0])<|.x (Ag (.mk 1 []))<|.x (Ag (.mk 7 []))<|.r) (F0 16 [D.v (V.agg [vi 1,V.list [V.str (ByteArray.mk #[97]).data.toList,V.str (ByteArray.mk #[98]).data.toList],V.list [V.str (ByteArray.mk #[120]).data.toList],V.list [],V.list [],vi 0,vi 0,V.list [],vi 0,V.list [V.agg [vi 0,V.list []],V.agg [vi 0,V.list []]]]),D.v (V.str (ByteArray.mk #[99,111,118,101,114,32,48,40,49,32,55,41]).data.toList)] (D.tup [dQ (Qst.mk 1 0 EM),di 0])/\F0 16 [D.v (V.agg [vi 1,V.list [V.str (ByteArray.mk #[97]).data.toList,V.str (ByteArray.mk #[98]).data.toList],V.list [V.str (ByteArray.mk #[120]).data.toList],V.list [],V.list [],vi 0,vi 0,V.list [],vi 0,V.list [V.agg [vi 0,V.list []],V.agg [vi 0,V.list []]]]),D.v (V.str (ByteArray.mk #[112,108,97,99,101,32,120]).data.toList)] (D.tup [dQ (Qst.mk 4 0 zeroV),di 0])/\iz 0<=0/\some (eV (Val.mk 1 []))=some (Ag (Val.mk 1 []))/\iz 0<=1/\some (eV (Val.mk 7 []))=some (Ag (Val.mk 7 []))/\db ((Qst.mk 4 0 zeroV).kind==4)=db true) ?_
 exact⟨MM m0 _ Ym ⟨1,0,EM⟩ _ (by decide) Rt,MM m0 _ Ym ⟨4,0,zeroV⟩ _ (by decide) Rs,by decide,rfl,by decide,rfl,rfl⟩
theorem YY(s:List UInt8){o:Oper}{c:Call}{fo:Operand}(ho:o.op=.call c)(hc:c.callee=.value fo):Ap PP o [.v (.fn 5 [] []),.v (vBs s)] σ0 (.ptr 0 0) (dz (s.take 200) 0):=by
 have:=NT (σ:=σ0) ho hc (fD:=.v (.fn 5 [] [])) rfl (ds:=[.v (vBs s)]) [] id (UK s) (.cons (.ren (dc:=.v (vBs s)) rfl) .nil) .nil (by simp) rfl (by simp) (by simp) rfl (by rfl)
 simp[Yi,EL,FW,D.ren,D.rens,rho] at this
 exact this
theorem Mod.ok.any{m:Mod}(h:m.ok):∃t,Cx m t/\Ak t m.start=true/\1<=m.places.length/\m.rules.length<=12:=by
 obtain⟨h1,h2,h3,h4,h5,h6,h7,h8⟩:=h.sz
 exact⟨_,h.int,h.start,h4,h3⟩
theorem DR.int{m:Mod}(h:DR m):∃t,Cx m t/\Ak t m.start=true/\1<=m.places.length/\m.rules.length<=12:=by
 cases h with
 |cM h=>exact h.ok.any
 |l2 h=>exact(h.ok (.inl rfl)).any
 |l3 h=>exact(h.ok (.inr rfl)).any
 |tm h=>exact⟨_,h.int,h.start_ok,h.sz.2.1,by have:=h.count;omega⟩
 |c h=>exact h.ok.any
abbrev DU(m:Mod):List D:=[di m.kind,.v (vSs m.states),.v (vSs m.places),.v (vSs m.letters),.v (vIs m.ranks),di m.levels,di m.age,.v (EV m.rules),di m.start.n,dVs m.start.kids]
inductive Y2 (m:Mod) (c:Val):Prop where
 |ctr (hk:m.kind=1) (s:Int) (ys:List Int) (hs:0<=s/\s<m.states.length) (hy:ys.length=m.places.length) (h:∀y∈ys,0<=y/\y<=3) (hc:c=El s ys)
 |chan (hk:m.kind=2∨m.kind=3) (s:Int) (ys:List Val) (hs:0<=s/\s<m.states.length) (hy:ys.length=m.places.length) (h:∀y∈ys,DN m.letters.length y) (hc:c=.mk 0 (.mk s []::ys))
 |bag (hk:m.kind=5) (s:Int) (ts:List Val) (hs:0<=s/\s<m.states.length) (h:VF m.places.length m.age 2 ts) (hc:c=.mk 0 [.mk s [],.mk 0 ts])
theorem SX(m:Mod)(hk:m.kind=1)(hst:1<=m.states.length/\m.states.length<=3)(hp:1<=m.places.length/\m.places.length<=2)(l:List UInt8)(hl:l.length<=200)(a:Nat)(ha:a<=l.length):
  ∃(c:Val) (a':Nat),Y2 m c/\a'<=l.length/\Aa PP 24 [.ptr 0 0,Ad m] (dz l a) (dV c) (dz l a'):=by
 obtain⟨s,a1,s1,s2,s3,s4⟩:=Al l hl a ha m.states.length (by omega) (by omega)
 obtain⟨ys,a2,y1,y2,y3,y4⟩:=Ea l hl a1 s3 m.places.length (by omega) 3 (by decide) (by decide)
 obtain⟨c,hc⟩:∃c,c=El s ys:=⟨_,rfl⟩
 refine⟨c,a2,.ctr hk s ys ⟨s1,s2⟩ y2 y3 hc,y1,?_⟩
 refine sv Vo 47 [3] (.t<|.c1 (cDz l a1) (di s)<|.c1 (cDz l a2) (dIs ys)<|.c (dV c) .r) ((m.kind==1)=true/\Aa PP 18 [D.ptr 0 0,di (length (map V.str m.states):Int)] (dz l a) (di s) (dz l a1)/\Aa PP 36 [D.ptr 0 0,di (length (map V.str m.places):Int),di 3] (dz l a1) (dIs ys) (dz l a2)/\F0 37 [di s,dIs ys] (dV c)/\Q [some (cDz l a2)]/\D.v (V.agg [vi c.n,V.list (map eV c.kids)])=dV c) ?_
 refine⟨by rw[hk];rfl,by rw[Hw];exact s4,by rw[Hw];exact y4,hc▸Gj ys (by omega) s,rfl,rfl⟩
theorem Ta{o:Oper}(ho:o.op=.build 25 #[(0,.tmp 27)])(s:Int)(τ:St):Ap PP o [di s] τ (.v (Ag (.mk s []))) τ:=
 NV ho (z:=[vi 0,.list []]) (places:=[(0,1),(1,1)]) (by kernel_rfl) (xs:=[(0,vi s)]) rfl rfl
theorem SW(m:Mod)(hk:m.kind=2∨m.kind=3)(hst:1<=m.states.length/\m.states.length<=3)(hp:1<=m.places.length/\m.places.length<=2)(hle:1<=m.letters.length/\m.letters.length<=2)(l:List UInt8)(hl:l.length<=200)(a:Nat)(ha:a<=l.length):
  ∃(c:Val) (a':Nat),Y2 m c/\a'<=l.length/\Aa PP 24 [.ptr 0 0,Ad m] (dz l a) (dV c) (dz l a'):=by
 obtain⟨s,a1,s1,s2,s3,s4⟩:=Al l hl a ha m.states.length (by omega) (by omega)
 obtain⟨ys,a2,y1,y2,y3,y4⟩:=VJ l hl a1 s3 m.places.length (by omega) m.letters.length (by omega) (by omega)
 obtain⟨c,hc⟩:∃c:Val,c=.mk 0 (.mk s []::ys):=⟨_,rfl⟩
 refine⟨c,a2,.chan hk s ys ⟨s1,s2⟩ y2 y3 hc,y1,?_⟩
 have hpk:Aa PP 18 [D.ptr 0 0,di (↑(length (map V.str m.states)):Int)] (St.mk [some (cDz l a)] []) (di s) (St.mk [some (cDz l a1)] []):=by rw[Hw];exact s4
 have hwd:Aa PP 38 [D.ptr 0 0,di (↑(length (map V.str m.places)):Int),di (↑(length (map V.str m.letters)):Int),di 2] (St.mk [some (cDz l a1)] []) (dVs ys) (St.mk [some (cDz l a2)] []):=by rw[Hw,Hw];exact y4
 have hsl:∀(o:Oper) (H:List (Option (List D))),o.op=.buildSlice 23 1 #[(0,.tmp 28)]->Ap PP o [.v (Ag (.mk s []))] ⟨H,[]⟩ (.acc 1 [Ag (.mk s [])]) ⟨H,[(1,2,[Ag (.mk s [])])]⟩:=fun o H ho=>Fj (σ:=⟨H,[]⟩) ho (by rfl) rfl slV rfl (ds:=[.v (Ag (.mk s []))]) (xs:=[Ag (.mk s [])]) rfl (fun z hz=>by rw[HE.1 hz];rfl) (by decide) (by decide) (by decide) 1 (by simp)
 rcases hk with hk|hk
 ·refine sv Vo 47 [3] (.f<|.t<|.k<|.h (.dr 6)<|.h (.cs ⟨[],[(1,2,[Ag (.mk s [])])]⟩)<|.c1 (cDz l a1) (di s)<|.h (.p (.v (Ag (.mk s []))))<|.h (.o (.acc 1 [Ag (.mk s [])]) σ0)<|.c1 (cDz l a2) (dVs ys)<|.w .r) ((m.kind==1)=false/\(m.kind==2)=true/\Aa PP 18 [D.ptr 0 0,di (length (map V.str m.states):Int)] (dz l a) (di s) (dz l a1)/\Aa PP 18 [D.ptr 0 0,di (length (map V.str m.states):Int)] (dz l a) (di s) (dz l a1)/\Q (di s)/\(∀(τ:St),Ap PP (Oper.mk (some 28) (Op.build 25 #[(0,Operand.tmp 27)]) 25 "play.go:165" #[Edge.mk 4 Ground.data] none) [di s] τ (D.v (Ag (Val.mk s []))) τ)/\Q [St.mk [some (cDz l a),some [di 0,dn]] [(1,2,Ag (Val.mk s [])::nV)],St.mk [some (cDz l a1),some [di 0,dn]] [(1,2,Ag (Val.mk s [])::nV)]]/\(Ap PP (Oper.mk (some 29) (Op.buildSlice 23 1 #[(0,Operand.tmp 28)]) 23 "play.go:165" #[Edge.mk 5 Ground.data] none) [D.v (Ag (Val.mk s []))] (St.mk [some (cDz l a),some [di 0,dn]] []) (D.acc 1 [Ag (Val.mk s [])]) (St.mk [some (cDz l a),some [di 0,dn]] [(1,2,[Ag (Val.mk s [])])])/\Ap PP (Oper.mk (some 29) (Op.buildSlice 23 1 #[(0,Operand.tmp 28)]) 23 "play.go:165" #[Edge.mk 5 Ground.data] none) [D.v (Ag (Val.mk s []))] (St.mk [some (cDz l a1),some [di 0,dn]] []) (D.acc 1 [Ag (Val.mk s [])]) (St.mk [some (cDz l a1),some [di 0,dn]] [(1,2,[Ag (Val.mk s [])])])/\True)/\Aa PP 38 [D.ptr 0 0,di (length (map V.str m.places):Int),di (length (map V.str m.letters):Int),di 2] (dz l a1) (dVs ys) (dz l a2)/\Aa PP 38 [D.ptr 0 0,di (length (map V.str m.places):Int),di (length (map V.str m.letters):Int),di 2] (dz l a1) (dVs ys) (dz l a2)/\Q (dVs ys)/\(Q (St.mk [some (cDz l a2),some [di 0,dn]] [(1,2,[Ag (Val.mk s [])])])/\Ap PP (Oper.mk (some 29) (Op.buildSlice 23 1 #[(0,Operand.tmp 28)]) 23 "play.go:165" #[Edge.mk 5 Ground.data] none) [D.v (Ag (Val.mk s []))] (St.mk [some (cDz l a2),some [di 0,dn]] []) (D.acc 1 [Ag (Val.mk s [])]) (St.mk [some (cDz l a2),some [di 0,dn]] [(1,2,[Ag (Val.mk s [])])]))/\Q (Ag (Val.mk s [])::nV)/\Ax (length (Ag (Val.mk s [])::nV)+length (map eV ys)) 32/\(∀(y:V),y∈map eV ys->V.size y=2)/\True/\Q [some (cDz l a2)]/\D.v (V.agg [vi 0,V.list (Ag (Val.mk s [])::[]++(map eV ys))])=dV c) ?_
  refine⟨by rw[hk];rfl,by rw[hk];rfl,hpk,hpk,rfl,fun τ=>Ta rfl s τ,rfl,⟨hsl _ _ rfl,hsl _ _ rfl,trivial⟩,hwd,hwd,rfl,⟨rfl,hsl _ _ rfl⟩,rfl,?_,fun y hy=>?_,trivial,rfl,?_⟩
  ·simp only[H3,H7,Hw,y2];exact⟨by omega,by omega⟩
  ·obtain⟨z,_,rfl⟩:=Ie.1 hy
   cases z;rfl
  ·subst hc
   rw[←Cb];rfl
 ·refine sv Vo 47 [3] (.f<|.f<|.t<|.h (.dr 6)<|.h (.cs ⟨[],[(1,2,[Ag (.mk s [])])]⟩)<|.c1 (cDz l a1) (di s)<|.h (.p (.v (Ag (.mk s []))))<|.h (.o (.acc 1 [Ag (.mk s [])]) σ0)<|.c1 (cDz l a2) (dVs ys)<|.w .r) ((m.kind==1)=false/\(m.kind==2)=false/\(m.kind==3)=true/\Aa PP 18 [D.ptr 0 0,di (length (map V.str m.states):Int)] (dz l a) (di s) (dz l a1)/\Aa PP 18 [D.ptr 0 0,di (length (map V.str m.states):Int)] (dz l a) (di s) (dz l a1)/\Q (di s)/\(∀(τ:St),Ap PP (Oper.mk (some 28) (Op.build 25 #[(0,Operand.tmp 27)]) 25 "play.go:165" #[Edge.mk 4 Ground.data] none) [di s] τ (D.v (Ag (Val.mk s []))) τ)/\Q [St.mk [some (cDz l a),some [di 0,dn]] [(1,2,Ag (Val.mk s [])::nV)],St.mk [some (cDz l a1),some [di 0,dn]] [(1,2,Ag (Val.mk s [])::nV)]]/\(Ap PP (Oper.mk (some 29) (Op.buildSlice 23 1 #[(0,Operand.tmp 28)]) 23 "play.go:165" #[Edge.mk 5 Ground.data] none) [D.v (Ag (Val.mk s []))] (St.mk [some (cDz l a),some [di 0,dn]] []) (D.acc 1 [Ag (Val.mk s [])]) (St.mk [some (cDz l a),some [di 0,dn]] [(1,2,[Ag (Val.mk s [])])])/\Ap PP (Oper.mk (some 29) (Op.buildSlice 23 1 #[(0,Operand.tmp 28)]) 23 "play.go:165" #[Edge.mk 5 Ground.data] none) [D.v (Ag (Val.mk s []))] (St.mk [some (cDz l a1),some [di 0,dn]] []) (D.acc 1 [Ag (Val.mk s [])]) (St.mk [some (cDz l a1),some [di 0,dn]] [(1,2,[Ag (Val.mk s [])])])/\True)/\Aa PP 38 [D.ptr 0 0,di (length (map V.str m.places):Int),di (length (map V.str m.letters):Int),di 2] (dz l a1) (dVs ys) (dz l a2)/\Aa PP 38 [D.ptr 0 0,di (length (map V.str m.places):Int),di (length (map V.str m.letters):Int),di 2] (dz l a1) (dVs ys) (dz l a2)/\Q (dVs ys)/\(Q (St.mk [some (cDz l a2),some [di 0,dn]] [(1,2,[Ag (Val.mk s [])])])/\Ap PP (Oper.mk (some 29) (Op.buildSlice 23 1 #[(0,Operand.tmp 28)]) 23 "play.go:165" #[Edge.mk 5 Ground.data] none) [D.v (Ag (Val.mk s []))] (St.mk [some (cDz l a2),some [di 0,dn]] []) (D.acc 1 [Ag (Val.mk s [])]) (St.mk [some (cDz l a2),some [di 0,dn]] [(1,2,[Ag (Val.mk s [])])]))/\Q (Ag (Val.mk s [])::nV)/\Ax (length (Ag (Val.mk s [])::nV)+length (map eV ys)) 32/\(∀(y:V),y∈map eV ys->V.size y=2)/\True/\Q [some (cDz l a2)]/\D.v (V.agg [vi 0,V.list (Ag (Val.mk s [])::[]++(map eV ys))])=dV c) ?_
  refine⟨by rw[hk];rfl,by rw[hk];rfl,by rw[hk];rfl,hpk,hpk,rfl,fun τ=>Ta rfl s τ,rfl,⟨hsl _ _ rfl,hsl _ _ rfl,trivial⟩,hwd,hwd,rfl,⟨rfl,hsl _ _ rfl⟩,rfl,?_,fun y hy=>?_,trivial,rfl,?_⟩
  ·simp only[H3,H7,Hw,y2];exact⟨by omega,by omega⟩
  ·obtain⟨z,_,rfl⟩:=Ie.1 hy
   cases z;rfl
  ·subst hc
   rw[←Cb];rfl
theorem XY(m:Mod)(hk:m.kind=5)(hst:1<=m.states.length/\m.states.length<=3)(hp:1<=m.places.length/\m.places.length<=2)(hag:0<=m.age/\m.age<=3)(l:List UInt8)(hl:l.length<=200)(a:Nat)(ha:a<=l.length):
  ∃(c:Val) (a':Nat),Y2 m c/\a'<=l.length/\Aa PP 24 [.ptr 0 0,Ad m] (dz l a) (dV c) (dz l a'):=by
 obtain⟨s,ts,a1,h1,h2,h3,h4⟩:=ZP l hl m hst hp hag a ha
 obtain⟨c,hc⟩:∃c:Val,c=.mk 0 [.mk s [],.mk 0 ts]:=⟨_,rfl⟩
 rw[←hc] at h4
 refine⟨c,a1,.bag hk s ts h1 h2 hc,h3,?_⟩
 refine sv Vo 47 [3] (.f<|.f<|.f<|.t<|.c1 (cDz l a1) (dV c) .r) ((m.kind==1)=false/\(m.kind==2)=false/\(m.kind==3)=false/\(m.kind==5)=true/\Aa PP 39 [D.ptr 0 0,Ad m,di 2] (dz l a) (dV c) (dz l a1)/\Q [some (cDz l a1)]/\D.v (V.agg [vi c.n,V.list (map eV c.kids)])=dV c) ?_
 exact⟨by rw[hk];rfl,by rw[hk];rfl,by rw[hk];rfl,by rw[hk];rfl,h4,rfl,rfl⟩
theorem DR.cfg_ex{m:Mod}(h:DR m)(l:List UInt8)(hl:l.length<=200)(a:Nat)(ha:a<=l.length):
  ∃(c:Val) (a':Nat),Y2 m c/\a'<=l.length/\Aa PP 24 [.ptr 0 0,Ad m] (dz l a) (dV c) (dz l a'):=by
 have hP:m.places=[[120]]∨m.places=[[120],[121]]:=by
  cases h with
  |cM h=>exact h.places
  |l2 h=>exact h.places
  |l3 h=>exact h.places
  |tm h=>exact h.places
  |c h=>exact h.places
 have hpl:1<=m.places.length/\m.places.length<=2:=by rcases hP with e|e<;>rw[e]<;>decide
 have two:∀S:List (List UInt8),(S=[[97]]∨S=[[97],[98]])->1<=S.length/\S.length<=3:=fun S e=>by rcases e with e|e<;>rw[e]<;>decide
 cases h with
 |cM h=>exact SX m h.kind (two _ h.states) hpl l hl a ha
 |c h=>exact SX m h.kind (two _ h.states) hpl l hl a ha
 |tm h=>exact XY m h.kind (two _ h.states) hpl (by have:=h.age;omega) l hl a ha
 |l2 h=>exact SW m (.inl h.kind) (by obtain⟨n,h1,h2,e⟩:=h.states;rw[e,HS];simp only[H3,H7];omega) hpl (by rcases h.letters with e|e<;>rw[e]<;>decide) l hl a ha
 |l3 h=>exact SW m (.inr h.kind) (by obtain⟨n,h1,h2,e⟩:=h.states;rw[e,HS];simp only[H3,H7];omega) hpl (by rcases h.letters with e|e<;>rw[e]<;>decide) l hl a ha
structure SmV(v:Val):Prop where
 small:smB v=true
 size:v.size<=128
theorem Kz:∀ys:List Int,(∀y∈ys,0<=y/\y<100)->Dc (ys.map fun x=>Val.mk x [])=true
 |[],_=>rfl
 |y::ys,h=>by
  have:=h y (by simp)
  simp only[HO,Dc,smB,Hy,H8]
  exact⟨⟨this.1,by omega,trivial⟩,Kz ys fun z hz=>h z (by simp[hz])⟩
theorem MD:∀{l:List Val},(∀v∈l,smB v=true)->Dc l=true
 |[],_=>rfl
 |v::l,h=>by simp only[Dc,Hy];exact⟨h v (by simp),MD fun w hw=>h w (by simp[hw])⟩
theorem Y2.sm{m:Mod}{c:Val}(h:Y2 m c)(hst:m.states.length<=3)(hp:m.places.length<=2)(hl:m.letters.length<=2)(hag:m.age<=3):SmV c:=by
 cases h with
 |ctr hk s ys hs hy h hc=>
  subst hc
  refine⟨?_,by rw[Ez];omega⟩
  simp only[El,smB,Dc,Hy,H8]
  exact⟨by decide,by decide,⟨hs.1,by omega,trivial⟩,Kz ys fun y hy=>by have:=h y hy;omega⟩
 |chan hk s ys hs hy h hc=>
  subst hc
  have hz:=Gn _ ys h
  refine⟨?_,by simp only[Val.size,Val.sizes];omega⟩
  simp only[smB,Dc,Hy,H8]
  refine⟨by decide,by decide,⟨hs.1,by omega,trivial⟩,MD fun v hv=>?_⟩
  obtain⟨ks,h1,h2,rfl⟩:=h v hv
  simp only[smB,Hy,H8]
  exact⟨by decide,by decide,Kz ks fun y hy=>by have:=h2 y hy;omega⟩
 |bag hk s ts hs h hc=>
  subst hc
  have hz:=MC ts h.tok
  have hn:=h.len
  refine⟨?_,by simp only[Val.size,Val.sizes];omega⟩
  simp only[smB,Dc,Hy,H8]
  refine⟨by decide,by decide,⟨hs.1,by omega,trivial⟩,⟨by decide,by decide,MD fun v hv=>?_⟩,trivial⟩
  obtain⟨p,g,h1,h2,rfl⟩:=h.tok v hv
  simp only[smB,Dc,Hy,H8]
  exact⟨by decide,by decide,⟨h1.1,by omega,trivial⟩,⟨h2.1,by omega,trivial⟩,trivial⟩
noncomputable abbrev PT:Func:= Tryz.f8
abbrev cQs(q:Qst):List D:=[di q.kind,di q.place,di q.target.n,dVs q.target.kids]
theorem W8(m:Mod)(hm:DR m)(l:List UInt8)(hl:l.length<=200)(a:Nat)(ha:a<=l.length):
  ∃(q:Qst) (a':Nat),SmV q.target/\a'<=l.length/\Aa PP 8 [.ptr 0 0,Ad m] (dz l a) (dQ q) (dz l a'):=by
 obtain⟨hst,hP,hle,hag⟩:=hm.small
 have hpl:1<=m.places.length/\m.places.length<=2:=by rcases hP with e|e<;>rw[e]<;>decide
 have sz0:SmV (.mk 0 []):=⟨rfl,by decide⟩
 have svx:∀x:Int,0<=x->x<2->SmV (.mk x []):=fun x h0 h1=>⟨by simp only[smB,Dc,Hy,H8];exact⟨h0,by omega,trivial⟩,by show 1<=128;decide⟩
 obtain⟨r,a1,r1,r2,r3,r4⟩:=Al l hl a ha 6 (by decide) (by decide)
 have wr:wrap IntKind.i64 (1+r)=1+r:=Ai (by omega) (by omega)
 rcases(show r<=1∨r=3∨(r=2∨4<=r) by omega) with hr|rfl|hr
 ·obtain⟨c,a2,hc,h2,hcf⟩:=hm.cfg_ex l hl a1 r3
  obtain⟨x,b1,x1,x2,x3,x4⟩:=Al l hl a2 h2 9 (by decide) (by decide)
  rcases(show x=0∨x=1∨x=2∨3<=x by omega) with rfl|rfl|rfl|hx
  ·obtain⟨y,b2,y1,y2,y3,y4⟩:=Al l hl b1 x3 4 (by decide) (by decide)
   have wy:wrap IntKind.i64 (y-1)=y-1:=Ai (by omega) (by omega)
   refine⟨⟨1+r,y-1,c⟩,b2,hc.sm (by omega) hpl.2 hle hag,y3,?_⟩
   refine sv PT 46 [3] (.c1 (cDz l a1) (di r)<|.t<|.c1 (cDz l a2) (dV c)<|.f<|.c1 (cDz l b1) (di 0)<|.c1 (cDz l b2) (di y)<|.r) (Aa PP 18 [D.ptr 0 0,di 6] (dz l a) (di r) (dz l a1)/\decide (wrap IntKind.i64 (1+r)<=2)=true/\Aa PP 24 [D.ptr 0 0,Ad m] (dz l a1) (dV c) (dz l a2)/\(wrap IntKind.i64 (1+r)==4)=false/\Aa PP 18 [D.ptr 0 0,di 9] (dz l a2) (di 0) (dz l b1)/\Aa PP 18 [D.ptr 0 0,di 4] (dz l b1) (di y) (dz l b2)/\Q [some (cDz l b2)]/\D.v (V.agg [vi (wrap IntKind.i64 (1+r)),vi (wrap IntKind.i64 (y-1)),vi c.n,V.list (map eV c.kids)])=dQ (Qst.mk (1+r) (y-1) c)) ?_
   rw[wr,wy]
   repeat' first|with_reducible refine And.intro ?_ ?_
   all_goals first|exact r4|exact x4|exact y4|exact hcf|  exact Hz (by omega)|exact H1 (by omega)|exact Ia.2 (by omega)|rfl|trivial
  ·obtain⟨y,b2,y1,y2,y3,y4⟩:=Al l hl b1 x3 2 (by decide) (by decide)
   refine⟨⟨1+r,0,.mk y []⟩,b2,svx y y1 y2,y3,?_⟩
   refine sv PT 46 [3] (.c1 (cDz l a1) (di r)<|.t<|.c1 (cDz l a2) (dV c)<|.f<|.c1 (cDz l b1) (di 1)<|.c1 (cDz l b2) (di y)<|.r) (Aa PP 18 [D.ptr 0 0,di 6] (dz l a) (di r) (dz l a1)/\decide (wrap IntKind.i64 (1+r)<=2)=true/\Aa PP 24 [D.ptr 0 0,Ad m] (dz l a1) (dV c) (dz l a2)/\(wrap IntKind.i64 (1+r)==4)=false/\Aa PP 18 [D.ptr 0 0,di 9] (dz l a2) (di 1) (dz l b1)/\Aa PP 18 [D.ptr 0 0,di 2] (dz l b1) (di y) (dz l b2)/\Q [some (cDz l b2)]/\D.v (V.agg [vi (wrap IntKind.i64 (1+r)),vi 0,vi y,V.list []])=dQ (Qst.mk (1+r) 0 (Val.mk y []))) ?_
   rw[wr]
   repeat' first|with_reducible refine And.intro ?_ ?_
   all_goals first|exact r4|exact x4|exact y4|exact hcf|  exact Hz (by omega)|exact H1 (by omega)|exact Ia.2 (by omega)|rfl|trivial
  ·obtain⟨y,b2,y1,y2,y3,y4⟩:=Al l hl b1 x3 9 (by decide) (by decide)
   refine⟨⟨y,0,c⟩,b2,hc.sm (by omega) hpl.2 hle hag,y3,?_⟩
   refine sv PT 46 [3] (.c1 (cDz l a1) (di r)<|.t<|.c1 (cDz l a2) (dV c)<|.f<|.c1 (cDz l b1) (di 2)<|.c1 (cDz l b2) (di y)<|.r) (Aa PP 18 [D.ptr 0 0,di 6] (dz l a) (di r) (dz l a1)/\decide (wrap IntKind.i64 (1+r)<=2)=true/\Aa PP 24 [D.ptr 0 0,Ad m] (dz l a1) (dV c) (dz l a2)/\(wrap IntKind.i64 (1+r)==4)=false/\Aa PP 18 [D.ptr 0 0,di 9] (dz l a2) (di 2) (dz l b1)/\Aa PP 18 [D.ptr 0 0,di 9] (dz l b1) (di y) (dz l b2)/\Q [some (cDz l b2)]/\D.v (V.agg [vi y,vi 0,vi c.n,V.list (map eV c.kids)])=dQ (Qst.mk y 0 c)) ?_
   rw[wr]
   repeat' first|with_reducible refine And.intro ?_ ?_
   all_goals first|exact r4|exact x4|exact y4|exact hcf|  exact Hz (by omega)|exact H1 (by omega)|exact Ia.2 (by omega)|rfl|trivial
  ·refine⟨⟨1+r,0,c⟩,b1,hc.sm (by omega) hpl.2 hle hag,x3,?_⟩
   refine sv PT 46 [3] (.c1 (cDz l a1) (di r)<|.t<|.c1 (cDz l a2) (dV c)<|.f<|.c1 (cDz l b1) (di x)<|.f<|.f<|.f<|.r) (Aa PP 18 [D.ptr 0 0,di 6] (dz l a) (di r) (dz l a1)/\decide (wrap IntKind.i64 (1+r)<=2)=true/\Aa PP 24 [D.ptr 0 0,Ad m] (dz l a1) (dV c) (dz l a2)/\(wrap IntKind.i64 (1+r)==4)=false/\Aa PP 18 [D.ptr 0 0,di 9] (dz l a2) (di x) (dz l b1)/\(x==0)=false/\(x==1)=false/\(x==2)=false/\Q [some (cDz l b1)]/\D.v (V.agg [vi (wrap IntKind.i64 (1+r)),vi 0,vi c.n,V.list (map eV c.kids)])=dQ (Qst.mk (1+r) 0 c)) ?_
   rw[wr]
   repeat' first|with_reducible refine And.intro ?_ ?_
   all_goals first|exact r4|exact x4|exact y4|exact hcf|  exact Hz (by omega)|exact H1 (by omega)|exact Ia.2 (by omega)|rfl|trivial
 ·obtain⟨p,a2,p1,p2,p3,p4⟩:=Al l hl a1 r3 m.places.length (by omega) (by omega)
  have p4:Aa PP 18 [.ptr 0 0,di ((m.places.map V.str).length:Int)] (dz l a1) (di p) (dz l a2):=by rw[Hw];exact p4
  obtain⟨x,b1,x1,x2,x3,x4⟩:=Al l hl a2 p3 9 (by decide) (by decide)
  rcases(show x=0∨x=1∨x=2∨3<=x by omega) with rfl|rfl|rfl|hx
  ·obtain⟨y,b2,y1,y2,y3,y4⟩:=Al l hl b1 x3 4 (by decide) (by decide)
   have wy:wrap IntKind.i64 (y-1)=y-1:=Ai (by omega) (by omega)
   refine⟨⟨4,y-1,.mk 0 []⟩,b2,sz0,y3,?_⟩
   refine sv PT 46 [3] (.c1 (cDz l a1) (di 3)<|.k<|.k<|.c1 (cDz l a2) (di p)<|.c1 (cDz l b1) (di 0)<|.c1 (cDz l b2) (di y)<|.r) (Aa PP 18 [D.ptr 0 0,di 6] (dz l a) (di 3) (dz l a1)/\Aa PP 18 [D.ptr 0 0,di (length (map V.str m.places):Int)] (dz l a1) (di p) (dz l a2)/\Aa PP 18 [D.ptr 0 0,di 9] (dz l a2) (di 0) (dz l b1)/\Aa PP 18 [D.ptr 0 0,di 4] (dz l b1) (di y) (dz l b2)/\Q [some (cDz l b2)]/\D.v (V.agg [vi (wrap IntKind.i64 (1+3)),vi (wrap IntKind.i64 (y-1)),vi 0,V.list []])=dQ (Qst.mk 4 (y-1) (Val.mk 0 []))) ?_
   rw[wy]
   repeat' first|with_reducible refine And.intro ?_ ?_
   all_goals first|exact r4|exact x4|exact y4|exact p4|  exact Hz (by omega)|exact H1 (by omega)|exact Ia.2 (by omega)|rfl|trivial
  ·obtain⟨y,b2,y1,y2,y3,y4⟩:=Al l hl b1 x3 2 (by decide) (by decide)
   refine⟨⟨4,p,.mk y []⟩,b2,svx y y1 y2,y3,?_⟩
   refine sv PT 46 [3] (.c1 (cDz l a1) (di 3)<|.k<|.k<|.c1 (cDz l a2) (di p)<|.c1 (cDz l b1) (di 1)<|.c1 (cDz l b2) (di y)<|.r) (Aa PP 18 [D.ptr 0 0,di 6] (dz l a) (di 3) (dz l a1)/\Aa PP 18 [D.ptr 0 0,di (length (map V.str m.places):Int)] (dz l a1) (di p) (dz l a2)/\Aa PP 18 [D.ptr 0 0,di 9] (dz l a2) (di 1) (dz l b1)/\Aa PP 18 [D.ptr 0 0,di 2] (dz l b1) (di y) (dz l b2)/\Q [some (cDz l b2)]/\D.v (V.agg [vi (wrap IntKind.i64 (1+3)),vi p,vi y,V.list []])=dQ (Qst.mk 4 p (Val.mk y []))) ?_
   repeat' first|with_reducible refine And.intro ?_ ?_
   all_goals first|exact r4|exact x4|exact y4|exact p4|  exact Hz (by omega)|exact H1 (by omega)|exact Ia.2 (by omega)|rfl|trivial
  ·obtain⟨y,b2,y1,y2,y3,y4⟩:=Al l hl b1 x3 9 (by decide) (by decide)
   refine⟨⟨y,p,.mk 0 []⟩,b2,sz0,y3,?_⟩
   refine sv PT 46 [3] (.c1 (cDz l a1) (di 3)<|.k<|.k<|.c1 (cDz l a2) (di p)<|.c1 (cDz l b1) (di 2)<|.c1 (cDz l b2) (di y)<|.r) (Aa PP 18 [D.ptr 0 0,di 6] (dz l a) (di 3) (dz l a1)/\Aa PP 18 [D.ptr 0 0,di (length (map V.str m.places):Int)] (dz l a1) (di p) (dz l a2)/\Aa PP 18 [D.ptr 0 0,di 9] (dz l a2) (di 2) (dz l b1)/\Aa PP 18 [D.ptr 0 0,di 9] (dz l b1) (di y) (dz l b2)/\Q [some (cDz l b2)]/\D.v (V.agg [vi y,vi p,vi 0,V.list []])=dQ (Qst.mk y p (Val.mk 0 []))) ?_
   repeat' first|with_reducible refine And.intro ?_ ?_
   all_goals first|exact r4|exact x4|exact y4|exact p4|  exact Hz (by omega)|exact H1 (by omega)|exact Ia.2 (by omega)|rfl|trivial
  ·refine⟨⟨4,p,.mk 0 []⟩,b1,sz0,x3,?_⟩
   refine sv PT 46 [3] (.c1 (cDz l a1) (di 3)<|.k<|.k<|.c1 (cDz l a2) (di p)<|.c1 (cDz l b1) (di x)<|.f<|.f<|.f<|.r) (Aa PP 18 [D.ptr 0 0,di 6] (dz l a) (di 3) (dz l a1)/\Aa PP 18 [D.ptr 0 0,di (length (map V.str m.places):Int)] (dz l a1) (di p) (dz l a2)/\Aa PP 18 [D.ptr 0 0,di 9] (dz l a2) (di x) (dz l b1)/\(x==0)=false/\(x==1)=false/\(x==2)=false/\Q [some (cDz l b1)]/\D.v (V.agg [vi (wrap IntKind.i64 (1+3)),vi p,vi 0,V.list []])=dQ (Qst.mk 4 p (Val.mk 0 []))) ?_
   repeat' first|with_reducible refine And.intro ?_ ?_
   all_goals first|exact r4|exact x4|exact y4|exact p4|  exact Hz (by omega)|exact H1 (by omega)|exact Ia.2 (by omega)|rfl|trivial
 ·obtain⟨x,b1,x1,x2,x3,x4⟩:=Al l hl a1 r3 9 (by decide) (by decide)
  rcases(show x=0∨x=1∨x=2∨3<=x by omega) with rfl|rfl|rfl|hx
  ·obtain⟨y,b2,y1,y2,y3,y4⟩:=Al l hl b1 x3 4 (by decide) (by decide)
   have wy:wrap IntKind.i64 (y-1)=y-1:=Ai (by omega) (by omega)
   refine⟨⟨1+r,y-1,.mk 0 []⟩,b2,sz0,y3,?_⟩
   refine sv PT 46 [3] (.c1 (cDz l a1) (di r)<|.f<|.f<|.c1 (cDz l b1) (di 0)<|.c1 (cDz l b2) (di y)<|.r) (Aa PP 18 [D.ptr 0 0,di 6] (dz l a) (di r) (dz l a1)/\decide (wrap IntKind.i64 (1+r)<=2)=false/\(wrap IntKind.i64 (1+r)==4)=false/\Aa PP 18 [D.ptr 0 0,di 9] (dz l a1) (di 0) (dz l b1)/\Aa PP 18 [D.ptr 0 0,di 4] (dz l b1) (di y) (dz l b2)/\Q [some (cDz l b2)]/\D.v (V.agg [vi (wrap IntKind.i64 (1+r)),vi (wrap IntKind.i64 (y-1)),vi 0,V.list []])=dQ (Qst.mk (1+r) (y-1) (Val.mk 0 []))) ?_
   rw[wr,wy]
   repeat' first|with_reducible refine And.intro ?_ ?_
   all_goals first|exact r4|exact x4|exact y4|  exact Hz (by omega)|exact H1 (by omega)|exact Ia.2 (by omega)|rfl|trivial
  ·obtain⟨y,b2,y1,y2,y3,y4⟩:=Al l hl b1 x3 2 (by decide) (by decide)
   refine⟨⟨1+r,0,.mk y []⟩,b2,svx y y1 y2,y3,?_⟩
   refine sv PT 46 [3] (.c1 (cDz l a1) (di r)<|.f<|.f<|.c1 (cDz l b1) (di 1)<|.c1 (cDz l b2) (di y)<|.r) (Aa PP 18 [D.ptr 0 0,di 6] (dz l a) (di r) (dz l a1)/\decide (wrap IntKind.i64 (1+r)<=2)=false/\(wrap IntKind.i64 (1+r)==4)=false/\Aa PP 18 [D.ptr 0 0,di 9] (dz l a1) (di 1) (dz l b1)/\Aa PP 18 [D.ptr 0 0,di 2] (dz l b1) (di y) (dz l b2)/\Q [some (cDz l b2)]/\D.v (V.agg [vi (wrap IntKind.i64 (1+r)),vi 0,vi y,V.list []])=dQ (Qst.mk (1+r) 0 (Val.mk y []))) ?_
   rw[wr]
   repeat' first|with_reducible refine And.intro ?_ ?_
   all_goals first|exact r4|exact x4|exact y4|  exact Hz (by omega)|exact H1 (by omega)|exact Ia.2 (by omega)|rfl|trivial
  ·obtain⟨y,b2,y1,y2,y3,y4⟩:=Al l hl b1 x3 9 (by decide) (by decide)
   refine⟨⟨y,0,.mk 0 []⟩,b2,sz0,y3,?_⟩
   refine sv PT 46 [3] (.c1 (cDz l a1) (di r)<|.f<|.f<|.c1 (cDz l b1) (di 2)<|.c1 (cDz l b2) (di y)<|.r) (Aa PP 18 [D.ptr 0 0,di 6] (dz l a) (di r) (dz l a1)/\decide (wrap IntKind.i64 (1+r)<=2)=false/\(wrap IntKind.i64 (1+r)==4)=false/\Aa PP 18 [D.ptr 0 0,di 9] (dz l a1) (di 2) (dz l b1)/\Aa PP 18 [D.ptr 0 0,di 9] (dz l b1) (di y) (dz l b2)/\Q [some (cDz l b2)]/\D.v (V.agg [vi y,vi 0,vi 0,V.list []])=dQ (Qst.mk y 0 (Val.mk 0 []))) ?_
   rw[wr]
   repeat' first|with_reducible refine And.intro ?_ ?_
   all_goals first|exact r4|exact x4|exact y4|  exact Hz (by omega)|exact H1 (by omega)|exact Ia.2 (by omega)|rfl|trivial
  ·refine⟨⟨1+r,0,.mk 0 []⟩,b1,sz0,x3,?_⟩
   refine sv PT 46 [3] (.c1 (cDz l a1) (di r)<|.f<|.f<|.c1 (cDz l b1) (di x)<|.f<|.f<|.f<|.r) (Aa PP 18 [D.ptr 0 0,di 6] (dz l a) (di r) (dz l a1)/\decide (wrap IntKind.i64 (1+r)<=2)=false/\(wrap IntKind.i64 (1+r)==4)=false/\Aa PP 18 [D.ptr 0 0,di 9] (dz l a1) (di x) (dz l b1)/\(x==0)=false/\(x==1)=false/\(x==2)=false/\Q [some (cDz l b1)]/\D.v (V.agg [vi (wrap IntKind.i64 (1+r)),vi 0,vi 0,V.list []])=dQ (Qst.mk (1+r) 0 (Val.mk 0 []))) ?_
   rw[wr]
   repeat' first|with_reducible refine And.intro ?_ ?_
   all_goals first|exact r4|exact x4|exact y4|  exact Hz (by omega)|exact H1 (by omega)|exact Ia.2 (by omega)|rfl|trivial
def Tn(m:Mod)(q:Qst):List UInt8:=if q.kind=1 then AD++[32]++Ay q.target else if q.kind=2 then B6++[32]++Ay q.target else if q.kind=3 then AP else if q.kind=4 then A0++[32]++m.places.getD q.place.toNat [] else if q.kind=5 then CP else CO
theorem O4{m:Mod}{t:Typ}{q:Qst}(h:Af m t q=true):q.kind=1∨q.kind=2∨q.kind=3∨q.kind=4∨q.kind=5∨q.kind=6:=by
 unfold Af at h
 split at h
 ·simp at h
 ·omega
def sameQ(p q:Qst):Bool:=(p.kind==q.kind)&&((p.place==q.place)&&(Aq p.target q.target==0))
noncomputable abbrev Ab4:Func:= Tryz.f13
def Nd(a:List UInt8):Prop:=∀y r,a=y::r->y.toNat<48/\y≠40
theorem Mj:∀(x y a b:List UInt8),(∀c∈x,48<=c.toNat)->(∀c∈y,48<=c.toNat)->(∀c r,a=c::r->c.toNat<48)->(∀c r,b=c::r->c.toNat<48)->x++a=y++b->x=y/\a=b
 |[],[],a,b,_,_,_,_,h=>⟨rfl,h⟩
 |[],c::y,a,b,_,hy,ha,_,h=>by have h1:=ha c (y++b) h;have h2:=hy c (by simp);omega
 |c::x,[],a,b,hx,_,_,hb,h=>by have h1:=hb c (x++a) h.symm;have h2:=hx c (by simp);omega
 |c::x,d::y,a,b,hx,hy,ha,hb,h=>by
  rw[IW,IW] at h
  injection h with h1 h2
  obtain⟨h3,h4⟩:=Mj x y a b (fun z hz=>hx z (by simp[hz])) (fun z hz=>hy z (by simp[hz])) ha hb h2
  exact⟨by rw[h1,h3],h4⟩
theorem KS(i j:Int)(hi:0<=i/\i<9223372036854775808)(hj:0<=j/\j<9223372036854775808)(a b:List UInt8)(ha:∀c r,a=c::r->c.toNat<48)(hb:∀c r,b=c::r->c.toNat<48)(h:Lib.decDigits i.toNat++a=Lib.decDigits j.toNat++b):i=j/\a=b:=by
 obtain⟨h1,h2⟩:=Mj _ _ a b (fun c hc=>(SF i.toNat c hc).1) (fun c hc=>(SF j.toNat c hc).1) ha hb h
 have h3:i.toNat=j.toNat:=dec_inj' h1
 exact⟨by omega,h2⟩
theorem Vf{x:UInt8}{r:List UInt8}(h:x.toNat<48):∀c s,x::r=c::s->c.toNat<48:=fun c s e=>by injection e with e1 _;rw[←e1];exact h
theorem Zg{x:UInt8}{r:List UInt8}(h:x.toNat<48/\x≠40):Nd (x::r):=fun c s e=>by injection e with e1 _;rw[←e1];exact h
mutual
theorem N5:∀(v w:Val),smB v=true->smB w=true->∀a b:List UInt8,Nd a->Nd b->Ay v++a=Ay w++b->v=w/\a=b
 |.mk n l,.mk k m,hv,hw,a,b,ha,hb,h=>by
  simp only[smB,Hy,H8] at hv hw
  have hl:=fun h=>Lo l m hv.2.2 hw.2.2 true a b ha hb h
  cases l with
  |nil=>
   cases m with
   |nil=>
    simp only[Ay,A3,List.isEmpty_nil,I6,Il,nil_append] at h
    obtain⟨h1,h2⟩:=KS n k ⟨hv.1,hv.2.1⟩ ⟨hw.1,hw.2.1⟩ a b (fun c r e=>(ha c r e).1) (fun c r e=>(hb c r e).1) h
    exact⟨by rw[h1],h2⟩
   |cons y m=>
    simp only[Ay,A3,List.isEmpty_nil,List.isEmpty_cons,I6,if_false,IV,Il,nil_append,I4,IW] at h
    obtain⟨h1,h2⟩:=KS n k ⟨hv.1,hv.2.1⟩ ⟨hw.1,hw.2.1⟩ _ _ (fun c r e=>(ha c r e).1) (Vf (by decide)) h
    exact absurd rfl (ha _ _ h2).2
  |cons x l=>
   cases m with
   |nil=>
    simp only[Ay,A3,List.isEmpty_nil,List.isEmpty_cons,I6,if_false,IV,Il,nil_append,I4,IW] at h
    obtain⟨h1,h2⟩:=KS n k ⟨hv.1,hv.2.1⟩ ⟨hw.1,hw.2.1⟩ _ _ (Vf (by decide)) (fun c r e=>(hb c r e).1) h
    exact absurd rfl (hb _ _ h2.symm).2
   |cons y m=>
    have h0:=h
    simp only[Ay,List.isEmpty_cons,if_false,IV,I4] at h
    obtain⟨h1,h2⟩:=KS n k ⟨hv.1,hv.2.1⟩ ⟨hw.1,hw.2.1⟩ _ _ (by simp only[A3,I6,IW];exact Vf (by decide)) (by simp only[A3,I6,IW];exact Vf (by decide)) h
    obtain⟨h3,h4⟩:=hl (by simpa only[IW,nil_append] using h2)
    exact⟨by rw[h1,h3],h4⟩
theorem Lo:∀(l m:List Val),Dc l=true->Dc m=true->∀(f:Bool) (a b:List UInt8),Nd a->Nd b->A3 f l++41::a=A3 f m++41::b->l=m/\a=b
 |[],[],_,_,f,a,b,_,_,h=>by simp only[A3,nil_append] at h;injection h with _ h;exact⟨rfl,h⟩
 |[],y::m,_,_,f,a,b,_,_,h=>by simp only[A3,nil_append,IW] at h;injection h with h _;cases f<;>exact absurd h (by decide)
 |x::l,[],_,_,f,a,b,_,_,h=>by simp only[A3,nil_append,IW] at h;injection h with h _;cases f<;>exact absurd h (by decide)
 |x::l,y::m,hv,hw,f,a,b,ha,hb,h=>by
  simp only[Dc,Hy] at hv hw
  simp only[A3,IW,I4] at h
  injection h with _ h
  have nd:∀(l:List Val) (a:List UInt8),Nd (A3 false l++41::a):=fun l a=>by
   cases l with
   |nil=>exact Zg (by decide)
   |cons x l=>simp only[A3,IW];exact Zg (by decide)
  obtain⟨h1,h2⟩:=N5 x y hv.1 hw.1 _ _ (nd l a) (nd m b) h
  obtain⟨h3,h4⟩:=Lo l m hv.2 hw.2 false a b ha hb h2
  exact⟨by rw[h1,h3],h4⟩
end
theorem Lp{v w:Val}(hv:smB v=true)(hw:smB w=true)(h:Ay v=Ay w):v=w:=(N5 v w hv hw [] [] (fun _ _ e=>by simp at e) (fun _ _ e=>by simp at e) (by rw[h])).1
inductive QK (m:Mod):Qst->Prop where
 |cover (v:Val):QK m ⟨1,0,v⟩
 |reach (v:Val):QK m ⟨2,0,v⟩
 |bounded:QK m ⟨3,0,zeroV⟩
 |place (n:Nat) (h:n<m.places.length):QK m ⟨4,n,zeroV⟩
 |dead:QK m ⟨5,0,zeroV⟩
 |home:QK m ⟨6,0,zeroV⟩
theorem D7{m:Mod}{t:Typ}{q:Qst}(h:Af m t q=true):QK m q:=by
 have hk:=O4 h
 obtain⟨k,p,v⟩:=q
 simp only at hk
 have hz:∀{b:Bool},(b&&((Aq v zeroV==0)&&(p==0)))=true->v=zeroV/\p=0:=fun{b} h=>by
  simp only[Hy,HX] at h
  exact⟨FJ.1 h.2.1,h.2.2⟩
 rcases hk with rfl|rfl|rfl|rfl|rfl|rfl
 ·have h:(Ak t v&&(p==0))=true:=h
  simp only[Hy,HX] at h
  rw[h.2];exact .cover v
 ·have h:(Ak t v&&(p==0))=true:=h
  simp only[Hy,HX] at h
  rw[h.2];exact .reach v
 ·obtain⟨rfl,rfl⟩:=hz h;exact .bounded
 ·have h:(B1 m&&((Aq v zeroV==0)&&(decide (0<=p)&&decide (p<m.places.length))))=true:=h
  simp only[Hy,HX,H8] at h
  rw[FJ.1 h.2.1]
  obtain⟨n,rfl⟩:∃n:Nat,p=n:=⟨p.toNat,by omega⟩
  exact .place n (by omega)
 ·obtain⟨rfl,rfl⟩:=hz (b:=true) (by rw[HV];exact h);exact .dead
 ·obtain⟨rfl,rfl⟩:=hz (b:=true) (by rw[HV];exact h);exact .home
theorem QH{m:Mod}(hP:m.places=[[120]]∨m.places=[[120],[121]]){p q:Qst}(hp:QK m p)(hq:QK m q)(sp:smB p.target=true)(sq:smB q.target=true):(Tn m p=Tn m q)↔p=q:=by
 refine⟨fun h=>?_,fun h=>by rw[h]⟩
 have c1:∀v,Tn m ⟨1,0,v⟩=99::([111,118,101,114,32]++Ay v):=fun v=>rfl
 have c2:∀v,Tn m ⟨2,0,v⟩=114::([101,97,99,104,32]++Ay v):=fun v=>rfl
 have c3:Tn m ⟨3,0,zeroV⟩=98::[111,117,110,100,101,100]:=rfl
 have c4:∀n:Nat,Tn m ⟨4,n,zeroV⟩=112::([108,97,99,101,32]++m.places.getD n []):=fun n=>rfl
 have c5:Tn m ⟨5,0,zeroV⟩=100::[101,97,100]:=rfl
 have c6:Tn m ⟨6,0,zeroV⟩=104::[111,109,101]:=rfl
 have nh:∀{x y:UInt8} {a b:List UInt8},x≠y->x::a=y::b->p=q:=fun hn e=>by injection e with e _;exact absurd e hn
 cases hp with
 |cover v=>
  cases hq with
  |cover w=>rw[c1,c1] at h;injection h with _ h;exact HL (Qst.mk 1 0) (Lp sp sq (List.append_cancel_left h))
  |reach w=>rw[c1,c2] at h;exact nh (by decide) h
  |bounded=>rw[c1,c3] at h;exact nh (by decide) h
  |place n hn=>rw[c1,c4] at h;exact nh (by decide) h
  |dead=>rw[c1,c5] at h;exact nh (by decide) h
  |home=>rw[c1,c6] at h;exact nh (by decide) h
 |reach v=>
  cases hq with
  |cover w=>rw[c2,c1] at h;exact nh (by decide) h
  |reach w=>rw[c2,c2] at h;injection h with _ h;exact HL (Qst.mk 2 0) (Lp sp sq (List.append_cancel_left h))
  |bounded=>rw[c2,c3] at h;exact nh (by decide) h
  |place n hn=>rw[c2,c4] at h;exact nh (by decide) h
  |dead=>rw[c2,c5] at h;exact nh (by decide) h
  |home=>rw[c2,c6] at h;exact nh (by decide) h
 |bounded=>
  cases hq with
  |cover w=>rw[c3,c1] at h;exact nh (by decide) h
  |reach w=>rw[c3,c2] at h;exact nh (by decide) h
  |bounded=>rfl
  |place n hn=>rw[c3,c4] at h;exact nh (by decide) h
  |dead=>rw[c3,c5] at h;exact nh (by decide) h
  |home=>rw[c3,c6] at h;exact nh (by decide) h
 |place k hk=>
  cases hq with
  |cover w=>rw[c4,c1] at h;exact nh (by decide) h
  |reach w=>rw[c4,c2] at h;exact nh (by decide) h
  |bounded=>rw[c4,c3] at h;exact nh (by decide) h
  |place n hn=>
   rw[c4,c4] at h;injection h with _ h
   have h:=List.append_cancel_left h
   have:k=n:=by
    rcases hP with e|e<;>rw[e] at h hk hn<;>simp only[H3,H7] at hk hn
    ·omega
    ·match k,n,hk,hn,h with
     |0,0,_,_,_=>rfl
     |1,1,_,_,_=>rfl
     |0,1,_,_,h=>exact absurd h (by decide)
     |1,0,_,_,h=>exact absurd h (by decide)
     |_+2,_,h,_,_=>omega
     |_,_+2,_,h,_=>omega
   rw[this]
  |dead=>rw[c4,c5] at h;exact nh (by decide) h
  |home=>rw[c4,c6] at h;exact nh (by decide) h
 |dead=>
  cases hq with
  |cover w=>rw[c5,c1] at h;exact nh (by decide) h
  |reach w=>rw[c5,c2] at h;exact nh (by decide) h
  |bounded=>rw[c5,c3] at h;exact nh (by decide) h
  |place n hn=>rw[c5,c4] at h;exact nh (by decide) h
  |dead=>rfl
  |home=>rw[c5,c6] at h;exact nh (by decide) h
 |home=>
  cases hq with
  |cover w=>rw[c6,c1] at h;exact nh (by decide) h
  |reach w=>rw[c6,c2] at h;exact nh (by decide) h
  |bounded=>rw[c6,c3] at h;exact nh (by decide) h
  |place n hn=>rw[c6,c4] at h;exact nh (by decide) h
  |dead=>rw[c6,c5] at h;exact nh (by decide) h
  |home=>rfl
theorem Ud{p q:Qst}:sameQ p q=true↔p=q:=by
 obtain⟨k,i,v⟩:=p
 obtain⟨k',i',v'⟩:=q
 simp only[sameQ,Hy,HX,FJ]
 constructor
 ·rintro ⟨rfl,rfl,rfl⟩;rfl
 ·intro h;injection h with h1 h2 h3;exact⟨h1,h2,h3⟩
structure FP(m:Mod)(t:Typ):Prop where
 int:Cx m t
 vany:∀v:Val,Aa PP 47 [Ad m,dV v] σ0 (db (Ak t v)) σ0
 chk15:Aa PP 29 [Ad m] σ0 (di 0) σ0
 val15:∀v:Val,Aa PP 30 [Ad m,dV v] σ0 (db (Ak t v)) σ0
 good:AS 8 t=true
 kind:(m.kind==6)=false
 count:m.rules.length<=12
theorem DR.ref{m:Mod}(h:DR m):∃t,FP m t:=by
 have ok:m.ok->∃t,FP m t:=fun h=>⟨_,h.int,Oc m h,JY m h,Qx m h,h.good,by rcases h.kind with e|e|e<;>rw[e]<;>rfl,h.sz.2.2.1⟩
 cases h with
 |cM h=>exact ok h.ok
 |l2 h=>exact ok (h.ok (.inl rfl))
 |l3 h=>exact ok (h.ok (.inr rfl))
 |tm h=>exact⟨_,h.int,LN m h,W4 m h,O5 m h,h.good,by rw[h.kind];rfl,by have:=h.count;omega⟩
 |c h=>exact ok h.ok
theorem Wo{n:Int}{v:Val}(hn:n<=16)(h:Ca n v=true):smB v=true:=by
 obtain⟨k,l⟩:=v
 simp only[Ca,Val.n,Val.kids,Hy,H8,HX] at h
 have h1:=H9 h.1
 have h2:=H9 h.2.1
 have hl:l=[]:=IE (by omega)
 subst hl
 simp only[smB,Dc,Hy,H8]
 exact⟨by omega,by omega,trivial⟩
theorem NA:∀{l:List Val},(∀v∈l,smB v=true)->Dc l=true
 |[],_=>rfl
 |v::l,h=>by simp only[Dc,Hy];exact⟨h v (by simp),NA fun w hw=>h w (by simp[hw])⟩
theorem Ks{n:Int}{l:List Val}(hn:n=0)(h:∀v∈l,smB v=true):smB (.mk n l)=true:=by
 subst hn
 simp only[smB,Hy,H8]
 exact⟨by decide,by decide,NA h⟩
theorem RW{d:Nat}(ih:∀t v,AS d t=true->Ao t v=true->smB v=true):∀(l:List Typ) (vs:List Val),vs.length=l.length->l.all (AS d)=true->BV l vs=true->∀v∈vs,smB v=true
 |[],[],_,_,_,v,hv=>by simp at hv
 |t::l,x::vs,hl,hg,ho,v,hv=>by
  simp only[List.all_cons,Hy] at hg
  simp only[BV,Hy] at ho
  rcases Ib.1 hv with rfl|hv
  ·exact ih t _ hg.1 ho.1
  ·exact RW ih l vs (by simpa using hl) hg.2 ho.2 v hv
 |[],_::_,hl,_,_,_,_=>by simp at hl
 |_::_,[],hl,_,_,_,_=>by simp at hl
theorem Zc:∀(d:Nat) (t:Typ) (v:Val),AS d t=true->Ao t v=true->smB v=true:=by
 intro d
 induction d with
 |zero=>intro t v h;simp[AS] at h
 |succ d ih=>
  intro t v hg ho
  cases t with
  |nat=>
   obtain⟨k,l⟩:=v
   simp only[Ao,Val.n,Val.kids,Hy,H8,HX] at ho
   have h1:=H9 ho.1
   have h2:=H9 ho.2.1
   have hl:l=[]:=IE (by omega)
   subst hl
   simp only[smB,Dc,Hy,H8]
   exact⟨by omega,by omega,trivial⟩
  |lab n=>
   simp only[AS,Hy,H8] at hg
   exact Wo hg.2 ho
  |prod l=>
   obtain⟨k,vs⟩:=v
   simp only[AS,Hy] at hg
   simp only[Ao,Val.n,Val.kids,Hy,HX] at ho
   exact Ks ho.1 (RW ih l vs (by omega) hg.2.2 ho.2.2)
  |word t=>
   obtain⟨k,vs⟩:=v
   simp only[Ao,Val.n,Val.kids,Hy,HX,Ii] at ho
   exact Ks ho.1 fun v hv=>ih t v (by simpa only[AS] using hg) (ho.2.2 v hv)
  |bag t=>
   obtain⟨k,vs⟩:=v
   simp only[Ao,Val.n,Val.kids,Hy,HX,Ii] at ho
   exact Ks ho.1.1 fun v hv=>ih t v (by simpa only[AS] using hg) (ho.1.2.2 v hv)
  |prio n r=>
   obtain⟨k,vs⟩:=v
   simp only[AS,CH,Hy,HX,H8] at hg
   simp only[Ao,Val.n,Val.kids,Hy,HX,Ii] at ho
   exact Ks ho.1 fun v hv=>Wo (by omega) (ho.2.2 v hv)
theorem FP.sm{m:Mod}{t:Typ}(h:FP m t){q:Qst}(hv:Af m t q=true):SmV q.target:=by
 have hk:=D7 hv
 have of:∀v,Ak t v=true->SmV v:=fun v e=>by
  simp only[Ak,Hy,H8] at e
  exact⟨Zc 8 t v h.good e.2,by omega⟩
 cases hk with
 |cover v=>exact of v (by simpa[Af] using hv)
 |reach v=>exact of v (by simpa[Af] using hv)
 |bounded=>exact⟨rfl,by decide⟩
 |place n hn=>exact⟨rfl,by show 1<=128;decide⟩
 |dead=>exact⟨rfl,by decide⟩
 |home=>exact⟨rfl,by decide⟩
noncomputable abbrev P0:Func:= Tryz.f31
noncomputable def PH:Code:=P0.body.getD .skip
def plR(m:Mod):Int:=if B1 m=true then 0 else 15
theorem R4(m:Mod)(hk:m.kind=1)(hr:m.rules.length<=12)(n:Nat):∀k:Nat,m.rules.length-k=n->(∀r∈m.rules.take k,r.move=[])->
  Rn PP P0 0 (di (plR m)) σ0 ([.lp (sub PH [1,1,1,0,1,0,0]),.blk 0,.code (sub PH [1,1,1,1])]++[]) (mkE 28 [(1,.v (.ref (Az m))),(4,di k)]) σ0:=by
 induction n with
 |zero=>
  intro k hn h
  rw[HQ (by omega)] at h
  rw[plR,HJ (by rw[B1,hk];simpa using h)]
  refine lv 28 [1] (.f .r) (decide ((k:Int)<(length (map Ah m.rules):Int))=false/\Q (di 0)) ?_
  exact⟨H1 (by rw[Hw];omega),rfl⟩
 |succ n ih=>
  intro k hn h
  obtain⟨r,hx⟩:∃r,m.rules[k]?=some r:=⟨_,Hx (by omega)⟩
  by_cases hm:r.move=[]
  ·have hih:=ih (k+1) (by omega) (fun x hx2=>by
    rw[List.take_add_one,hx,Option.toList_some,Ij,HE] at hx2
    rcases hx2 with hx2|rfl
    ·exact h x hx2
    ·exact hm)
   generalize plR m=e at*
   refine lv 28 [1] (.t<|.x (Ah r)<|.f<|.l [ke 1,ch 4 (di (k+1:Nat))]) (decide ((k:Int)<(length (map Ah m.rules):Int))=true/\0<=(k:Int)/\(map Ah m.rules)[Int.toNat (k:Int)]?=some (Ah r)/\decide ((length (map vi r.move):Int)>0)=false/\di (wrap IntKind.i64 ((k:Int)+1))=di (↑(k+1):Int)/\I0 P0 0 (di e) σ0 [kl PH [1,1,1,0,1,0,0],KI.blk 0,kc PH [1,1,1,1]] (mkE 28 [(1,D.v (V.ref (Az m))),(4,di (↑(k+1):Int))]) σ0) ?_
   exact⟨Hz (by rw[Hw];omega),by omega,AW hx,by rw[hm];rfl,Ae (by omega),⟨hih⟩⟩
  ·rw[plR,HF (fun h2=>hm (by
    rw[B1,Hy,Ii] at h2
    simpa using h2.2 r (H4 hx)))]
   refine lv 28 [1] (.t<|.x (Ah r)<|.t .r) (decide ((k:Int)<(length (map Ah m.rules):Int))=true/\0<=(k:Int)/\(map Ah m.rules)[Int.toNat (k:Int)]?=some (Ah r)/\decide ((length (map vi r.move):Int)>0)=true/\Q (di 15)) ?_
   have hml:=List.length_pos_iff.2 hm
   exact⟨Hz (by rw[Hw];omega),by omega,AW hx,Hz (by rw[Hw];omega),rfl⟩
theorem R3{m:Mod}{t:Typ}(h:FP m t):Aa PP 31 [Ad m] σ0 (di (plR m)) σ0:=by
 have hc:=h.chk15
 by_cases hk:m.kind=1
 ·have:=R4 m hk h.count _ 0 rfl (by simp)
  generalize plR m=e at*
  refine sv P0 28 [1] (.c (di 0)<|.k<|.f<|.l [ke 1,ch 4 (di (0:Nat))]) (F0 29 [Ad m] (di 0)/\(m.kind !=1)=false/\di 0=di (↑0:Int)/\I0 P0 σ0.H.length (di e) σ0 [kl PH [1,1,1,0,1,0,0],KI.blk 0,kc PH [1,1,1,1]] (mkE 28 [(1,D.v (V.ref (Az m))),(4,di (↑0:Int))]) σ0) ?_
  exact⟨hc,by rw[hk];rfl,rfl,⟨this⟩⟩
 ·rw[plR,HF (fun h2=>by rw[B1,Hy] at h2;exact hk (by simpa using h2.1))]
  refine sv P0 28 [1] (.c (di 0)<|.k<|.t .r) (F0 29 [Ad m] (di 0)/\(m.kind !=1)=true/\Q (di 15)) ?_
  exact⟨hc,bne_iff_ne.2 hk,rfl⟩
theorem XE(n:Int)(h: -10<n/\n<10):Lib.itoa n=(if n<0 then[45] else[])++[UInt8.ofNat (48+n.natAbs)]:=by
 unfold Lib.itoa
 split
 ·rw[Lib.decDigits_one (by omega)];rfl
 ·rw[Lib.decDigits_one (by omega),show n.toNat=n.natAbs by omega];rfl
theorem XF(n:Int)(h:n.tdiv 10≠0):Lib.itoa n=Lib.itoa (n.tdiv 10)++[UInt8.ofNat (48+(n.tmod 10).natAbs)]:=by
 have e:∀u:Nat,¬u<10->Lib.decDigits u=Lib.decDigits (u/10)++[UInt8.ofNat (48+u%10)]:=fun u hu=>by conv=>lhs;rw[Lib.decDigits];rw[dif_neg hu]
 have h1:(n.tdiv 10).natAbs=n.natAbs/10:=Int.natAbs_tdiv n 10
 have h2:(n.tmod 10).natAbs=n.natAbs%10:=Int.natAbs_tmod n 10
 have h3:¬n.natAbs<10:=by omega
 unfold Lib.itoa
 rw[h2]
 by_cases hn:n<0
 ·have hd:n.tdiv 10<=0:=by have:=Int.tdiv_nonneg (a:= -n) (b:=10) (by omega) (by decide);rw[Int.neg_tdiv] at this;omega
  rw[HJ hn,HJ (by omega),e _ h3,h1];rfl
 ·have hd:0<=n.tdiv 10:=Int.tdiv_nonneg (by omega) (by decide)
  rw[HF hn,HF (by omega),show n.toNat=n.natAbs by omega,e _ h3,show(n.tdiv 10).toNat=n.natAbs/10 by omega]
def u64(n:Int):Int:=n%18446744073709551616
def i64(n:Int):Int:=IntKind.i64.wrap n
def dgR:Nat->Int->List UInt8->Int×Nat
 |0,a,_=>(a,0)
 |_+1,a,[]=>(a,0)
 |f+1,a,c::l=>if 48<=c.toNat/\c.toNat<=57 then((dgR f (u64 (u64 (a*10)+(c.toNat-48))) l).1,(dgR f (u64 (u64 (a*10)+(c.toNat-48))) l).2+1) else(a,0)
theorem Ok:∀(f:Nat) (a:Int) (l:List UInt8),(dgR f a l).2<=l.length
 |0,_,_=>HW _
 |_+1,_,[]=>HW _
 |f+1,a,c::l=>by
  unfold dgR
  split
  ·have:=Ok f (u64 (u64 (a*10)+(c.toNat-48))) l
   simp only[H3];omega
  ·exact HW _
theorem SH:∀(l:List UInt8) (f a:Nat) (r:List UInt8),(∀c∈l,48<=c.toNat/\c.toNat<=57)->l.length<=f->dgV a l<18446744073709551616->(∀y s,r=y::s->y.toNat<48)->dgR f a (l++r)=(((dgV a l:Nat):Int),l.length)
 |[],f,a,r,_,_,_,hr=>by
  match f,r,hr with
  |0,_,_=>rfl
  |_+1,[],_=>rfl
  |f+1,y::s,hr=>
   have:=hr y s rfl
   show dgR (f+1) a (y::s)=_
   unfold dgR
   rw[HF (by omega)];rfl
 |c::l,0,a,r,_,hl,_,_=>by simp at hl
 |c::l,f+1,a,r,h,hl,hv,hr=>by
  have hc:=h c (by simp)
  have h1:=SG l (a*10+(c.toNat-48))
  have h2:dgV a (c::l)=dgV (a*10+(c.toNat-48)) l:=rfl
  rw[h2] at hv⊢
  have ih:=SH l f (a*10+(c.toNat-48)) r (fun x hx=>h x (by simp[hx])) (by simpa using hl) hv hr
  have e:u64 (u64 ((a:Int)*10)+((c.toNat:Int)-48))=((a*10+(c.toNat-48):Nat):Int):=by unfold u64;omega
  show dgR (f+1) a (c::(l++r))=_
  unfold dgR
  rw[HJ hc,e,ih];rfl
def sgR(s:List UInt8):Nat:=if s[0]?=some 45 then 1 else 0
def nmR(k:Nat)(n:Int):Int:=if k=1 then i64 (u64 (-n)) else i64 n
def kdR(rd:List UInt8->Option (Val×Nat))(s:List UInt8):Nat->Nat->List Val->Option (List Val×Nat)
 |0,_,_=>none
 |f+1,at_,l=>if s[at_]?=some 41 then some (l,at_+1) else
  match rd (s.drop (at_+1)) with
  |none=>none
  |some (x,k)=>if s[at_+(1+k)]?=some 32∨s[at_+(1+k)]?=some 41 then kdR rd s f (at_+(1+k)) (l++[x]) else none
def rdR:Nat->List UInt8->Option (Val×Nat)
 |d,s=>if (dgR 20 0 (s.drop (sgR s))).2=0 then none
  else if s[sgR s+(dgR 20 0 (s.drop (sgR s))).2]?=some 40 then
   match d with
   |0=>none
   |d+1=>match kdR (rdR d) s (s.length+1) (sgR s+(dgR 20 0 (s.drop (sgR s))).2) [] with
    |none=>none
    |some (l,k)=>some (.mk (nmR (sgR s) (dgR 20 0 (s.drop (sgR s))).1) l,k)
  else some (.mk (nmR (sgR s) (dgR 20 0 (s.drop (sgR s))).1) [],sgR s+(dgR 20 0 (s.drop (sgR s))).2)
theorem Wj(k:Nat)(n:Int): -9223372036854775808<=nmR k n/\nmR k n<=9223372036854775807:=by
 unfold nmR i64;split<;>rw[IntKind.wrap_i64]<;>omega
theorem Un{l:List Val}{x:Val}(h:CT l=true)(hx:rgB x=true):CT (l++[x])=true:=by
 induction l with
 |nil=>simp[CT,hx]
 |cons y l ih=>simp only[CT,Hy,IW] at h⊢;exact⟨h.1,ih h.2⟩
theorem QS(l:List Val)(x:Val):Val.sizes (l++[x])=Val.sizes l+x.size:=by
 induction l with
 |nil=>simp[Val.sizes]
 |cons y l ih=>simp only[IW,Val.sizes,ih];omega
theorem LV{s:List UInt8}{i:Nat}{c:UInt8}(h:s[i]?=some c):i<s.length:=(H0.1 h).1
theorem Wp{rd:List UInt8->Option (Val×Nat)}(s:List UInt8)(hrd:∀t v k,rd t=some (v,k)->1<=k/\k<=t.length/\v.size<=k/\rgB v=true):∀(f at_:Nat) (l m:List Val) (k:Nat),kdR rd s f at_ l=some (m,k)->at_<s.length->CT l=true->Val.sizes l<=at_->k<=s.length/\1+Val.sizes m<=k/\CT m=true
 |0,_,_,_,_,h,_,_,_=>by simp[kdR] at h
 |f+1,at_,l,m,k,h,h1,h2,h3=>by
  unfold kdR at h
  split at h
  ·simp only[HU,Prod.mk.injEq] at h
   obtain⟨rfl,rfl⟩:=h
   exact⟨by omega,by omega,h2⟩
  ·split at h
   ·cases h
   ·rename_i x j hx
    obtain⟨j1,j2,j3,j4⟩:=hrd _ _ _ hx
    split at h
    ·rename_i hc
     have hlt:at_+(1+j)<s.length:=by rcases hc with hc|hc<;>exact LV hc
     exact Wp s hrd f _ _ m k h hlt (Un h2 j4) (by rw[QS];omega)
    ·cases h
theorem Wg:∀(d:Nat) (s:List UInt8) (v:Val) (k:Nat),rdR d s=some (v,k)->1<=k/\k<=s.length/\v.size<=k/\rgB v=true:=by
 intro d
 induction d with
 |zero=>
  intro s v k h
  unfold rdR at h
  have hr:=Wj (sgR s) (dgR 20 0 (s.drop (sgR s))).1
  have hle:=Ok 20 0 (s.drop (sgR s))
  rw[I3] at hle
  split at h
  ·cases h
  ·split at h
   ·cases h
   ·simp only[HU,Prod.mk.injEq] at h
    obtain⟨rfl,rfl⟩:=h
    have:sgR s+(dgR 20 0 (s.drop (sgR s))).2<=s.length:=by omega
    refine⟨by omega,this,by simp only[Val.size,Val.sizes];omega,by simp only[rgB,CT,Hy,H8];exact⟨hr.1,hr.2,trivial⟩⟩
 |succ d ih=>
  intro s v k h
  unfold rdR at h
  have hr:=Wj (sgR s) (dgR 20 0 (s.drop (sgR s))).1
  have hle:=Ok 20 0 (s.drop (sgR s))
  rw[I3] at hle
  split at h
  ·cases h
  ·split at h
   ·rename_i hc
    simp only at h
    split at h
    ·cases h
    ·rename_i l j hk
     simp only[HU,Prod.mk.injEq] at h
     obtain⟨rfl,rfl⟩:=h
     obtain⟨a1,a2,a3⟩:=Wp s ih _ _ _ _ _ hk (LV hc) rfl (by simp[Val.sizes])
     refine⟨by omega,a1,by simp only[Val.size];omega,by simp only[rgB,Hy,H8];exact⟨hr.1,hr.2,a3⟩⟩
   ·simp only[HU,Prod.mk.injEq] at h
    obtain⟨rfl,rfl⟩:=h
    have:sgR s+(dgR 20 0 (s.drop (sgR s))).2<=s.length:=by omega
    refine⟨by omega,this,by simp only[Val.size,Val.sizes];omega,by simp only[rgB,CT,Hy,H8];exact⟨hr.1,hr.2,trivial⟩⟩
theorem Sx(d:Nat)(ih:∀(v:Val) (r:List UInt8),smB v=true->v.size<=d->(∀y s,r=y::s->y.toNat<48/\y≠40)->rdR d (Ay v++r)=some (v,(Ay v).length))(s post:List UInt8):∀(l done:List Val) (f at_:Nat) (b:Bool),Dc l=true->Val.sizes l<=d->s.drop at_=A3 b l++41::post->(b=true->l≠ [])->l.length<f->kdR (rdR d) s f at_ done=some (done++l,at_+(A3 b l).length+1)
 |[],done,f+1,at_,b,_,_,h,_,_=>by
  have h0:s[at_]?=some 41:=by have:=HL (·[0]?) h;simpa[A3] using this
  unfold kdR
  rw[HJ h0];simp[A3]
 |x::l,done,f+1,at_,b,hs,hz,h,_,hf=>by
  simp only[Dc,Hy] at hs
  simp only[Val.sizes] at hz
  simp only[A3,IW,I4] at h
  have h0:s[at_]?=some (if b then 40 else 32):=by have:=HL (·[0]?) h;simpa using this
  have h1:s.drop (at_+1)=Ay x++(A3 false l++41::post):=by rw[←List.drop_drop,h];rfl
  have hnx:∀y r,A3 false l++41::post=y::r->y.toNat<48/\y≠40:=fun y r e=>by
   cases l with
   |nil=>simp only[A3,nil_append] at e;injection e with e _;subst e;decide
   |cons z l=>simp only[A3,IW] at e;injection e with e _;subst e;decide
  have hr:=ih x _ hs.1 (by omega) hnx
  have h2:s.drop (at_+(1+(Ay x).length))=A3 false l++41::post:=by rw[←Nat.add_assoc, ←List.drop_drop,h1,List.drop_left]
  have h3:s[at_+(1+(Ay x).length)]?=some 32∨s[at_+(1+(Ay x).length)]?=some 41:=by
   have:=HL (·[0]?) h2
   rw[getElem?_drop,Iv] at this
   rw[this]
   cases l with
   |nil=>right;simp[A3]
   |cons z l=>left;simp[A3]
  have:=Sx d ih s post l (done++[x]) f (at_+(1+(Ay x).length)) false hs.2 (by omega) h2 (by simp) (by simpa using hf)
  unfold kdR
  rw[HF (by rw[h0];cases b<;>decide),h1,hr]
  simp only
  rw[HJ h3,this]
  simp only[A3,H3,HC,I4,IW,nil_append,HU,Prod.mk.injEq,true_and];omega
 |[],_,0,_,_,_,_,_,_,hf=>by simp at hf
 |_::_,_,0,_,_,_,_,_,_,hf=>by simp at hf
theorem N6:∀(l:List Val) (b:Bool),l.length<=(A3 b l).length
 |[],_=>HW _
 |v::l,b=>by have:=N6 l false;simp only[A3,H3,HC];omega
theorem Xk:∀(d:Nat) (v:Val) (r:List UInt8),smB v=true->v.size<=d->(∀y s,r=y::s->y.toNat<48/\y≠40)->rdR d (Ay v++r)=some (v,(Ay v).length):=by
 intro d
 induction d with
 |zero=>intro v r _ h;have:=v.size_pos;omega
 |succ d ih=>
  intro v r hs hz hr
  cases v with
  |mk n0 l=>
  simp only[smB,Hy,H8] at hs
  obtain⟨i,rfl⟩:∃i:Nat,n0=i:=⟨n0.toNat,by omega⟩
  have hi:i<9223372036854775808:=by omega
  have hd:=Nm i
  have hp:=KR i
  have hv:=KP i
  have hln:(Lib.decDigits i).length<=20:=by rw[Lib.decDigits_length];exact Lib.nDigits_le20 i (by omega)
  obtain⟨s,hse⟩:∃s,s=Ay (.mk i l)++r:=⟨_,rfl⟩
  have hs0:s=Lib.decDigits i++(A3 true l++((if l.isEmpty then[] else[41])++r)):=by rw[hse];simp[Ay]
  have hsg:sgR s=0:=by
   unfold sgR
   rw[HF]
   rw[hs0]
   generalize Lib.decDigits i=q at*
   cases q with
   |nil=>simp at hp
   |cons c q=>
    have:=hd c (by simp)
    intro e
    simp only[IW,List.getElem?_cons_zero,HU] at e
    subst e;simp at this
  have hdg:dgR 20 0 (s.drop 0)=((i:Int),(Lib.decDigits i).length):=by
   rw[IP,hs0]
   have:=SH (Lib.decDigits i) 20 0 (A3 true l++((if l.isEmpty then[] else[41])++r)) hd hln (by rw[hv];omega) (fun y t e=>by
    cases l with
    |nil=>simp only[A3,List.isEmpty_nil,I6,nil_append] at e;exact(hr y t e).1
    |cons x l=>simp only[A3,IW] at e;injection e with e _;subst e;decide)
   rw[hv] at this
   exact this
  have hnm:nmR 0 (i:Int)=i:=by unfold nmR i64;rw[HF (by decide),IntKind.wrap_i64];omega
  rw[←hse]
  unfold rdR
  rw[hsg,hdg]
  simp only
  rw[HF (by omega),Ih,hnm]
  have hdr:s.drop (Lib.decDigits i).length=A3 true l++((if l.isEmpty then[] else[41])++r):=by rw[hs0,List.drop_left]
  have h0:=HL (·[0]?) hdr
  simp only[getElem?_drop,Iv] at h0
  cases l with
  |nil=>
   rw[HF]
   ·simp[Ay,A3]
   ·rw[h0]
    simp only[A3,List.isEmpty_nil,I6,nil_append]
    cases r with
    |nil=>simp
    |cons y t=>intro e;simp only[List.getElem?_cons_zero,HU] at e;exact(hr y t rfl).2 e
  |cons x l=>
   rw[HJ (by rw[h0];simp[A3])]
   simp only[List.isEmpty_cons,IV,if_false,IW,nil_append] at hdr
   have hz2:1+Val.sizes (x::l)<=d+1:=hz
   have hln2:=N6 (x::l) true
   have hsl:s.length=(Lib.decDigits i).length+((A3 true (x::l)).length+(1+r.length)):=by rw[hs0];simp;omega
   rw[Sx d ih s r (x::l) [] (s.length+1) (Lib.decDigits i).length true hs.2.2 (by omega) hdr (by simp) (by omega)]
   simp only[Ay,I5,nil_append,List.isEmpty_cons,IV,if_false,HC,H3,H7,HU,Prod.mk.injEq,true_and];omega
end Go.Proofs.YtpmahmngmgnnbaaGreatDoor

namespace Go.Proofs.YtpmahmngmgnnbaaGreatDoor
open Go.Dv Go.Nv Go.RowKit
set_option maxRecDepth 100000
open Go.IntKind (wrap)
def I64(n:Int):Prop:= -9223372036854775808<=n/\n<=9223372036854775807
def atD(s:List UInt8):Int×D:=match Lib.atoiAll s with
 |.ok n=>(n,.raw .nilIface)
 |.range=>(Lib.atoiSat s,.err)
 |_=>(0,.err)
theorem Ye(s:List UInt8):I64 (atD s).1:=by
 unfold atD
 split
 ·rename_i n h;have:=Lib.atoiAll_bounds h;exact⟨by omega,by omega⟩
 ·have:=Lib.atoiSat_bounds s;exact⟨by omega,by omega⟩
 ·exact⟨by decide,by decide⟩
theorem VC(s:List UInt8)(hs:s.length<=1000000):Aa PP 123 [ds s] σ0 (.tup [di (atD s).1,(atD s).2]) σ0:=by
 refine FU ⟨_, Tryz.func123,by kernel_rfl,by kernel_rfl⟩ fun g w args hw ha=>?_
 obtain⟨u0,rfl,h0⟩:=Av.1 ha
 simp only[Ac,AI] at h0
 subst h0
 have hsz:ByteArray.size ⟨s.toArray⟩=s.length:=by simp[ByteArray.size]
 obtain⟨⟨t1,p1,g1⟩,t2,p2,g2⟩:=hw.gl.more
 have g1:=hw.mem _ _ _ g1
 have g2:=hw.mem _ _ _ g2
 unfold atD
 cases h:Lib.atoiAll s with
 |ok n=>
  refine(Any.strconv_Atoi_ok Tryz.lays172 ⟨s.toArray⟩ (by rw[hsz];omega) n h w).mono ?_
  rintro e w' ⟨rfl,hw'⟩
  refine⟨_,rfl,?_,?_⟩
  ·simp only[Ac]
   exact⟨_,rfl,Am.2 ⟨_,_,rfl,by simp only[Ac,As],by simp only[Ac]⟩⟩
  ·rcases hw' with rfl|⟨t,rfl⟩
   ·exact Below.refl _ _
   ·exact Lib.bytesWorld_below _ _ _
 |range=>
  refine(Any.strconv_Atoi_range Tryz.lays172 ⟨s.toArray⟩ (by rw[hsz];omega) h _ w g2 (.inr ⟨_,_,rfl⟩)).mono ?_
  rintro e w' ⟨N,rfl,_,_,hb⟩
  refine⟨_,rfl,?_,hb⟩
  simp only[Ac]
  exact⟨_,rfl,Am.2 ⟨_,_,rfl,by simp only[Ac,As],by simp only[Ac];exact⟨_,_,rfl⟩⟩⟩
 |_=>
  refine(Any.strconv_Atoi_syntax Tryz.lays172 ⟨s.toArray⟩ (by rw[hsz];omega) h _ w g1 (.inr ⟨_,_,rfl⟩)).mono ?_
  rintro e w' ⟨N,rfl,_,_,hb⟩
  refine⟨_,rfl,?_,hb⟩
  simp only[Ac]
  exact⟨_,rfl,Am.2 ⟨_,_,rfl,by simp only[Ac,As],by simp only[Ac];exact⟨_,_,rfl⟩⟩⟩
theorem U3{P:Program}{o:Oper}{σ:St}{t ty:TypeId}{x:Operand}(ho:o.op=.binOp .neq t x (.const .nilIface) ty)(hi:P.underlying t=some (.interface (P.methodsAt t))):Ap P o [.err,.undef] σ (db true) σ:=by
 intro E g a w K Q hw hds hK
 simp only[ho,Op.operands] at hds
 obtain⟨u,v,e,h1,_⟩:=Am.1 hds
 simp only[HO,Iu,HB,HZ] at e
 obtain⟨e1,e2⟩:=e
 simp only[Ac] at h1
 obtain⟨t',p',rfl⟩:=h1
 have e3:a.eval (.const .nilIface)=.nilIface:=rfl
 unfold Oper.wp
 have:(execOp a.eval o).run P w=.ok (.value (.bool true)) w:=by
  simp[execOp,ho,e1,e3,eqGuard,binOp,run_equal_held_nil w t t' p' hi]
 rw[this]
 exact hK g w _ hw g.le_refl (by simp[Ac])
end Go.Proofs.YtpmahmngmgnnbaaGreatDoor

namespace Go.Proofs.YtpmahmngmgnnbaaGreatDoor
open Go.Dv Go.Nv
set_option maxRecDepth 20000
open List (drop_take length map take)
open Go.IntKind (wrap)
theorem Hl(s:List UInt8)(hs:s.length<=1000000)(p n:Nat)(b:Bool)(c:UInt8)(hp:p<=s.length):∃(t:Bool) (q:Nat),p<=q/\q<=s.length/\(t=true->q=p+1)/\Aa PP 122 [.ptr 0 0,.v (vb c)] (rd s p n b) (db t) (rd s q n b):=by
 by_cases hl:p<s.length
 ·have hx:s[p]?=some s[p]:=Hx hl
  by_cases hc:s[p]=c
  ·rw[hc] at hx
   exact⟨true,p+1,by omega,by omega,fun _=>rfl,N4 s hs p n b c hx⟩
  ·exact⟨false,p,by omega,by omega,fun h=>by simp at h,Ky s hs p n b c _ hx hc⟩
 ·exact⟨false,p,by omega,by omega,fun h=>by simp at h,VQ s hs p n b c (by omega)⟩
theorem Yd(a:List UInt8)(ha:a.length<=1000000):∃(n:Int) (e:D),I64 n/\((e=.raw .nilIface/\a≠ [])∨e=.err)/\Aa PP 123 [ds a] σ0 (.tup [di n,e]) σ0:=by
 refine⟨_,_,Ye a,?_,VC a ha⟩
 unfold atD
 split
 ·rename_i n h
  refine .inl ⟨rfl,fun e=>?_⟩
  subst e;simp[Lib.atoiAll] at h
 ·exact .inr rfl
 ·exact .inr rfl
theorem BB{P:Program}(hm:P.follows .mixedOrders=true){C:Nat}{fn:Func}{d:D}{σ':St}(nt:Nat)(im:List Nat){ks T:List KI}{L:List (Nat×D)}{σ:St}(s:Sc)
  (h:AH (mkE nt L) fun env=>vc (CN C) C P (fun env σ1=>A2 P fn env σ1 d σ') (Q4 P fn.results.toList d σ') nt im T 10000 s ks env σ):Rn P fn C d σ' (ks++T) (mkE nt L) σ:=VU hm (MV _) _ (fun _ _ h=>h.2) nt im s h
def Abc(s:List UInt8)(p n:Nat):Prop:=∃(v:Val) (q n':Nat) (b:Bool),(p<=q/\q<=s.length)/\(b=false->p<q/\n'=n+v.size/\n'<=128/\rgB v=true)/\n'<=129/\Aa PP 91 [.ptr 0 0] (rd s p n false) (dV v) (rd s q n' b)
theorem Vw(s:List UInt8)(hs:s.length<=1000000)(p n:Nat):∀(k a:Nat),s.length-a<=k->a<=s.length->∃q,a<=q/\q<=s.length/\∀(d:D) (σ':St),
  Rn PP D0 1 d σ' ([.code (sub Ce [1,1,1,1])]++[]) (mkE 125 [(0,.ptr 0 0),(2,.ptr 1 0),(3,di p)]) (D9 s q n)->
  Rn PP D0 1 d σ' ([.lp (sub Ce [1,1,1,0,0,0]),.blk 0]++[.code (sub Ce [1,1,1,1])]) (mkE 125 [(0,.ptr 0 0),(2,.ptr 1 0),(3,di p)]) (D9 s a n):=by
 intro k
 induction k with
 |zero=>
  intro a hk ha
  refine⟨a,H5 _,ha,fun d σ' h=>?_⟩
  refine lv 125 [] (.f<|.k<|.k<|.ls [ke 0,ke 2,ke 3] (D9 s a n)) (decide ((a:Int)<(s.length:Int))=false/\(True/\True/\True)/\Q [some (cRd s a n false),some [di 0,dn]]/\I0 D0 1 d σ' [kc Ce [1,1,1,1]] (mkE 125 [(0,D.ptr 0 0),(2,D.ptr 1 0),(3,di (p:Int))]) (D9 s a n)) ?_
  exact⟨H1 (by omega),⟨trivial,trivial,trivial⟩,rfl,⟨h⟩⟩
 |succ k ih=>
  intro a hk ha
  by_cases hl:a<s.length
  ·have hx:s[a]?=some s[a]:=Hx hl
   generalize s[a]=c at hx
   by_cases h1:c.toNat<48
   ·refine⟨a,H5 _,ha,fun d σ' h=>?_⟩
    refine lv 125 [] (.t<|.y c<|.f<|.k<|.ls [ke 0,ke 2,ke 3] (D9 s a n)) (decide ((a:Int)<(s.length:Int))=true/\0<=(a:Int)/\s[Int.toNat (a:Int)]?=some c/\decide ((↑(UInt8.toNat c):Int)>=48)=false/\(True/\True/\True/\True/\True)/\Q [some (cRd s a n false),some [di 0,dn]]/\I0 D0 1 d σ' [kc Ce [1,1,1,1]] (mkE 125 [(0,D.ptr 0 0),(2,D.ptr 1 0),(3,di (p:Int))]) (D9 s a n)) ?_
    exact⟨Hz (by omega),by omega,hx,H1 (by omega),⟨trivial,trivial,trivial,trivial,trivial⟩,rfl,⟨h⟩⟩
   ·by_cases h2:57<c.toNat
    ·refine⟨a,H5 _,ha,fun d σ' h=>?_⟩
     refine lv 125 [] (.t<|.y c<|.t<|.y c<|.f<|.ls [ke 0,ke 2,ke 3] (D9 s a n)) (decide ((a:Int)<(s.length:Int))=true/\0<=(a:Int)/\s[Int.toNat (a:Int)]?=some c/\decide ((↑(UInt8.toNat c):Int)>=48)=true/\0<=(a:Int)/\s[Int.toNat (a:Int)]?=some c/\(True/\True/\True/\True/\True/\True/\True)/\decide ((↑(UInt8.toNat c):Int)<=57)=false/\Q [some (cRd s a n false),some [di 0,dn]]/\I0 D0 1 d σ' [kc Ce [1,1,1,1]] (mkE 125 [(0,D.ptr 0 0),(2,D.ptr 1 0),(3,di (p:Int))]) (D9 s a n)) ?_
     exact⟨Hz (by omega),by omega,hx,Hz (by omega),by omega,hx,⟨trivial,trivial,trivial,trivial,trivial,trivial,trivial⟩,H1 (by omega),rfl,⟨h⟩⟩
    ·obtain⟨q,q1,q2,q3⟩:=ih (a+1) (by omega) (by omega)
     refine⟨q,by omega,q2,fun d σ' h=>?_⟩
     have hrn:=q3 d σ' h
     refine lv 125 [] (.t<|.y c<|.t<|.y c<|.t<|.ls [ke 0,ke 2,ke 3] (D9 s (a+1) n)) (decide ((a:Int)<(s.length:Int))=true/\0<=(a:Int)/\s[Int.toNat (a:Int)]?=some c/\decide ((↑(UInt8.toNat c):Int)>=48)=true/\0<=(a:Int)/\s[Int.toNat (a:Int)]?=some c/\(True/\True/\True/\True/\True/\True/\True)/\decide ((↑(UInt8.toNat c):Int)<=57)=true/\[some [D.v (V.str s),di (wrap IntKind.i64 ((a:Int)+1)),di (n:Int),db false],some [di 0,dn]]=[some (cRd s (a+1) n false),some [di 0,dn]]/\I0 D0 1 d σ' [kl Ce [1,1,1,0,0,0],KI.blk 0,kc Ce [1,1,1,1]] (mkE 125 [(0,D.ptr 0 0),(2,D.ptr 1 0),(3,di (p:Int))]) (D9 s (a+1) n)) ?_
     rw[Ae (by omega)]
     exact⟨Hz (by omega),by omega,hx,Hz (by omega),by omega,hx,⟨trivial,trivial,trivial,trivial,trivial,trivial,trivial⟩,Hz (by omega),rfl,⟨hrn⟩⟩
  ·refine⟨a,H5 _,ha,fun d σ' h=>?_⟩
   refine lv 125 [] (.f<|.k<|.k<|.ls [ke 0,ke 2,ke 3] (D9 s a n)) (decide ((a:Int)<(s.length:Int))=false/\(True/\True/\True)/\Q [some (cRd s a n false),some [di 0,dn]]/\I0 D0 1 d σ' [kc Ce [1,1,1,1]] (mkE 125 [(0,D.ptr 0 0),(2,D.ptr 1 0),(3,di (p:Int))]) (D9 s a n)) ?_
   exact⟨H1 (by omega),⟨trivial,trivial,trivial⟩,rfl,⟨h⟩⟩
theorem Ly{x:Val}:∀{l:List Val},CT l=true->rgB x=true->CT (l++[x])=true
 |[],_,h=>by simp[CT,h]
 |y::l,h,hx=>by
  simp only[CT,Hy,IW] at h⊢
  exact⟨h.1,Ly h.2 hx⟩
theorem JC:∀(l:List Val) (x:Val),Val.sizes (l++[x])=Val.sizes l+x.size
 |[],x=>by simp[Val.sizes]
 |y::l,x=>by simp only[IW,Val.sizes,JC l x];omega
theorem UT(s:List UInt8)(hs:s.length<=1000000)(v0:Int)(K:Nat)(IH:∀p n,s.length-p<K->p<=s.length->n<=128->Abc s p n):∀(k p n:Nat) (ks:List Val),s.length-p<=k->s.length-p<K->p<=s.length->n<=128->ks.length<=n->CT ks=true->
  ∃(all:List Val) (q n':Nat) (b:Bool),(p<=q/\q<=s.length)/\(b=false->n'+Val.sizes ks=n+Val.sizes all/\n'<=128/\CT all=true)/\n'<=129/\
   Rn PP D0 1 (dV (.mk v0 all)) (rd s q n' b) ([.lp (sub Ce [1,1,1,1,1,1,1,1,1,0,1,0,0]),.blk 2,.code (sub Ce [1,1,1,1,1,1,1,1,1,1])]++[]) (mkE 125 [(0,.ptr 0 0),(2,.ptr 1 0),(6,.ptr 2 0),(7,db true)]) (stK s p n v0 ks):=by
 intro k
 induction k with
 |zero=>
  intro p n ks hk hK hp hn hl hr
  obtain⟨x,q,n2,b,⟨x1,x2⟩,x3,x4,hx⟩:=IH p n hK hp hn
  cases b with
  |false=>have:=x3 rfl;omega
  |true=>
   obtain⟨t,q',t1,t2,_,t4⟩:=Hl s hs q n2 true 32 x2
   refine⟨ks++[x],q',n2,true,⟨by omega,t2⟩,fun h=>by simp at h,x4,?_⟩
   cases t with
   |true=>
    refine lv 125 [] (.k<|.k<|.m (.acc 1 (ks.map eV))<|.c1 (cRd s q n2 true) (dV x)<|.c1 (cRd s q' n2 true) (db true)<|.n<|.r) (Q (some (D.acc 1 (map eV ks)))/\Aa PP 91 [D.ptr 0 0] (St.mk [some (cRd s p n false)] []) (dV x) (St.mk [some (cRd s q n2 true)] [])/\Q (map eV ks)/\Ax (length (map eV ks)+length (Ag x::nV)) 32/\((Q (some [D.acc 1 (map eV ks)])/\True)/\True)/\Aa PP 122 [D.ptr 0 0,D.v (V.int IntKind.u8 32)] (St.mk [some (cRd s q n2 true)] []) (db true) (St.mk [some (cRd s q' n2 true)] [])/\[some [D.v (V.str s),di (q':Int),di (n2:Int),db true]]=[some (cRd s q' n2 true)]/\D.v (V.agg [vi v0,V.list (map eV ks++[Ag x])])=dV (Val.mk v0 (ks++[x]))) ?_
    rw[T4]
    refine⟨rfl,hx,rfl,⟨?_,?_⟩,⟨⟨rfl,trivial⟩,trivial⟩,t4,rfl,?_⟩
    ·simp only[Hw,H3,H7];omega
    ·simp only[Hw,H3,H7];omega
    ·rw[Co];exact(Nn v0 _).symm
   |false=>
    refine lv 125 [] (.k<|.k<|.m (.acc 1 (ks.map eV))<|.c1 (cRd s q n2 true) (dV x)<|.c1 (cRd s q' n2 true) (db false)<|.n<|.r) (Q (some (D.acc 1 (map eV ks)))/\Aa PP 91 [D.ptr 0 0] (St.mk [some (cRd s p n false)] []) (dV x) (St.mk [some (cRd s q n2 true)] [])/\Q (map eV ks)/\Ax (length (map eV ks)+length (Ag x::nV)) 32/\((Q (some [D.acc 1 (map eV ks)])/\True)/\True)/\Aa PP 122 [D.ptr 0 0,D.v (V.int IntKind.u8 32)] (St.mk [some (cRd s q n2 true)] []) (db false) (St.mk [some (cRd s q' n2 true)] [])/\[some [D.v (V.str s),di (q':Int),di (n2:Int),db true]]=[some (cRd s q' n2 true)]/\D.v (V.agg [vi v0,V.list (map eV ks++[Ag x])])=dV (Val.mk v0 (ks++[x]))) ?_
    rw[T4]
    refine⟨rfl,hx,rfl,⟨?_,?_⟩,⟨⟨rfl,trivial⟩,trivial⟩,t4,rfl,?_⟩
    ·simp only[Hw,H3,H7];omega
    ·simp only[Hw,H3,H7];omega
    ·rw[Co];exact(Nn v0 _).symm
 |succ k ih=>
  intro p n ks hk hK hp hn hl hr
  obtain⟨x,q,n2,b,⟨x1,x2⟩,x3,x4,hx⟩:=IH p n hK hp hn
  cases b with
  |true=>
   obtain⟨t,q',t1,t2,_,t4⟩:=Hl s hs q n2 true 32 x2
   refine⟨ks++[x],q',n2,true,⟨by omega,t2⟩,fun h=>by simp at h,x4,?_⟩
   cases t with
   |true=>
    refine lv 125 [] (.k<|.k<|.m (.acc 1 (ks.map eV))<|.c1 (cRd s q n2 true) (dV x)<|.c1 (cRd s q' n2 true) (db true)<|.n<|.r) (Q (some (D.acc 1 (map eV ks)))/\Aa PP 91 [D.ptr 0 0] (St.mk [some (cRd s p n false)] []) (dV x) (St.mk [some (cRd s q n2 true)] [])/\Q (map eV ks)/\Ax (length (map eV ks)+length (Ag x::nV)) 32/\((Q (some [D.acc 1 (map eV ks)])/\True)/\True)/\Aa PP 122 [D.ptr 0 0,D.v (V.int IntKind.u8 32)] (St.mk [some (cRd s q n2 true)] []) (db true) (St.mk [some (cRd s q' n2 true)] [])/\[some [D.v (V.str s),di (q':Int),di (n2:Int),db true]]=[some (cRd s q' n2 true)]/\D.v (V.agg [vi v0,V.list (map eV ks++[Ag x])])=dV (Val.mk v0 (ks++[x]))) ?_
    rw[T4]
    refine⟨rfl,hx,rfl,⟨?_,?_⟩,⟨⟨rfl,trivial⟩,trivial⟩,t4,rfl,?_⟩
    ·simp only[Hw,H3,H7];omega
    ·simp only[Hw,H3,H7];omega
    ·rw[Co];exact(Nn v0 _).symm
   |false=>
    refine lv 125 [] (.k<|.k<|.m (.acc 1 (ks.map eV))<|.c1 (cRd s q n2 true) (dV x)<|.c1 (cRd s q' n2 true) (db false)<|.n<|.r) (Q (some (D.acc 1 (map eV ks)))/\Aa PP 91 [D.ptr 0 0] (St.mk [some (cRd s p n false)] []) (dV x) (St.mk [some (cRd s q n2 true)] [])/\Q (map eV ks)/\Ax (length (map eV ks)+length (Ag x::nV)) 32/\((Q (some [D.acc 1 (map eV ks)])/\True)/\True)/\Aa PP 122 [D.ptr 0 0,D.v (V.int IntKind.u8 32)] (St.mk [some (cRd s q n2 true)] []) (db false) (St.mk [some (cRd s q' n2 true)] [])/\[some [D.v (V.str s),di (q':Int),di (n2:Int),db true]]=[some (cRd s q' n2 true)]/\D.v (V.agg [vi v0,V.list (map eV ks++[Ag x])])=dV (Val.mk v0 (ks++[x]))) ?_
    rw[T4]
    refine⟨rfl,hx,rfl,⟨?_,?_⟩,⟨⟨rfl,trivial⟩,trivial⟩,t4,rfl,?_⟩
    ·simp only[Hw,H3,H7];omega
    ·simp only[Hw,H3,H7];omega
    ·rw[Co];exact(Nn v0 _).symm
  |false=>
   obtain⟨x5,x6,x7,x8⟩:=x3 rfl
   have hrs:CT (ks++[x])=true:=Ly hr x8
   have hsz:Val.sizes (ks++[x])=Val.sizes ks+x.size:=JC ks x
   have hx1:=x.size_pos
   obtain⟨t,q',t1,t2,t3,t4⟩:=Hl s hs q n2 false 32 x2
   cases t with
   |true=>
    obtain rfl:=t3 rfl
    obtain⟨all,q3,n3,b3,⟨y1,y2⟩,y3,y4,hrn⟩:=ih (q+1) n2 (ks++[x]) (by omega) (by omega) t2 x7 (by rw[HC,List.length_singleton];omega) hrs
    refine⟨all,q3,n3,b3,⟨by omega,y2⟩,fun h=>?_,y4,?_⟩
    ·obtain⟨z1,z2,z3⟩:=y3 h
     exact⟨by omega,z2,z3⟩
    ·refine lv 125 [] (.k<|.k<|.m (.acc 1 (ks.map eV))<|.c1 (cRd s q n2 false) (dV x)<|.c1 (cRd s (q+1) n2 false) (db true)<|.ls [ke 0,ke 2,ke 6,ch 7 (db true)] (stK s (q+1) n2 v0 (ks++[x]))) (Q (some (D.acc 1 (map eV ks)))/\Aa PP 91 [D.ptr 0 0] (St.mk [some (cRd s p n false)] []) (dV x) (St.mk [some (cRd s q n2 false)] [])/\Q (map eV ks)/\Ax (length (map eV ks)+length (Ag x::nV)) 32/\((Q (some [D.acc 1 (map eV ks)])/\True)/\True)/\Aa PP 122 [D.ptr 0 0,D.v (V.int IntKind.u8 32)] (St.mk [some (cRd s q n2 false)] []) (db true) (St.mk [some (cRd s (q+1) n2 false)] [])/\Q (db true)/\[some (cRd s (q+1) n2 false),some [di 0,dn],some [di v0,D.acc 1 (map eV ks++Ag x::nV)]]=[some (cRd s (q+1) n2 false),some [di 0,dn],some [di v0,D.acc 1 (map eV (ks++[x]))]]/\[(1,2,map eV ks++Ag x::nV)]=[(1,2,map eV (ks++[x]))]/\I0 D0 1 (dV (Val.mk v0 all)) (rd s q3 n3 b3) [kl Ce [1,1,1,1,1,1,1,1,1,0,1,0,0],KI.blk 2,kc Ce [1,1,1,1,1,1,1,1,1,1]] (mkE 125 [(0,D.ptr 0 0),(2,D.ptr 1 0),(6,D.ptr 2 0),(7,db true)]) (stK s (q+1) n2 v0 (ks++[x]))) ?_
     rw[T4]
     refine⟨rfl,hx,rfl,⟨?_,?_⟩,⟨⟨rfl,trivial⟩,trivial⟩,t4,rfl,?_,?_,⟨hrn⟩⟩
     ·simp only[Hw,H3,H7];omega
     ·simp only[Hw,H3,H7];omega
     ·rw[Co]
     ·rw[Co]
   |false=>
    obtain⟨t',q2,u1,u2,u3,u4⟩:=Hl s hs q' n2 false 41 t2
    cases t' with
    |true=>
     refine⟨ks++[x],q2,n2,false,⟨by omega,u2⟩,fun _=>⟨by omega,x7,hrs⟩,x4,?_⟩
     refine lv 125 [] (.k<|.k<|.m (.acc 1 (ks.map eV))<|.c1 (cRd s q n2 false) (dV x)<|.c1 (cRd s q' n2 false) (db false)<|.n<|.c1 (cRd s q2 n2 false) (db true) .r) (Q (some (D.acc 1 (map eV ks)))/\Aa PP 91 [D.ptr 0 0] (St.mk [some (cRd s p n false)] []) (dV x) (St.mk [some (cRd s q n2 false)] [])/\Q (map eV ks)/\Ax (length (map eV ks)+length (Ag x::nV)) 32/\((Q (some [D.acc 1 (map eV ks)])/\True)/\True)/\Aa PP 122 [D.ptr 0 0,D.v (V.int IntKind.u8 32)] (St.mk [some (cRd s q n2 false)] []) (db false) (St.mk [some (cRd s q' n2 false)] [])/\Aa PP 122 [D.ptr 0 0,D.v (V.int IntKind.u8 41)] (St.mk [some (cRd s q' n2 false)] []) (db true) (St.mk [some (cRd s q2 n2 false)] [])/\[some [D.v (V.str s),di (q2:Int),di (n2:Int),db !true]]=[some (cRd s q2 n2 false)]/\D.v (V.agg [vi v0,V.list (map eV ks++[Ag x])])=dV (Val.mk v0 (ks++[x]))) ?_
     rw[T4,Aae]
     refine⟨rfl,hx,rfl,⟨?_,?_⟩,⟨⟨rfl,trivial⟩,trivial⟩,t4,u4,rfl,?_⟩
     ·simp only[Hw,H3,H7];omega
     ·simp only[Hw,H3,H7];omega
     ·rw[Co];exact(Nn v0 _).symm
    |false=>
     refine⟨ks++[x],q2,n2,true,⟨by omega,u2⟩,fun h=>by simp at h,x4,?_⟩
     refine lv 125 [] (.k<|.k<|.m (.acc 1 (ks.map eV))<|.c1 (cRd s q n2 false) (dV x)<|.c1 (cRd s q' n2 false) (db false)<|.n<|.c1 (cRd s q2 n2 false) (db false) .r) (Q (some (D.acc 1 (map eV ks)))/\Aa PP 91 [D.ptr 0 0] (St.mk [some (cRd s p n false)] []) (dV x) (St.mk [some (cRd s q n2 false)] [])/\Q (map eV ks)/\Ax (length (map eV ks)+length (Ag x::nV)) 32/\((Q (some [D.acc 1 (map eV ks)])/\True)/\True)/\Aa PP 122 [D.ptr 0 0,D.v (V.int IntKind.u8 32)] (St.mk [some (cRd s q n2 false)] []) (db false) (St.mk [some (cRd s q' n2 false)] [])/\Aa PP 122 [D.ptr 0 0,D.v (V.int IntKind.u8 41)] (St.mk [some (cRd s q' n2 false)] []) (db false) (St.mk [some (cRd s q2 n2 false)] [])/\[some [D.v (V.str s),di (q2:Int),di (n2:Int),db !false]]=[some (cRd s q2 n2 true)]/\D.v (V.agg [vi v0,V.list (map eV ks++[Ag x])])=dV (Val.mk v0 (ks++[x]))) ?_
     rw[T4,Aae]
     refine⟨rfl,hx,rfl,⟨?_,?_⟩,⟨⟨rfl,trivial⟩,trivial⟩,t4,u4,rfl,?_⟩
     ·simp only[Hw,H3,H7];omega
     ·simp only[Hw,H3,H7];omega
     ·rw[Co];exact(Nn v0 _).symm
theorem T7(s:List UInt8)(hs:s.length<=1000000)(K:Nat)(IH:∀p n,s.length-p<K->p<=s.length->n<=128->Abc s p n)(p q n:Nat)(h1:p<=q)(h2:q<=s.length)(hK:s.length-p<=K)(hn:n<=128):
  ∃(v:Val) (q' n':Nat) (b:Bool),(p<=q'/\q'<=s.length)/\(b=false->p<q'/\n'=n+v.size/\n'<=128/\rgB v=true)/\n'<=129/\
   Rn PP D0 1 (dV v) (rd s q' n' b) ([.code (sub Ce [1,1,1,1])]++[]) (mkE 125 [(0,.ptr 0 0),(2,.ptr 1 0),(3,di p)]) (D9 s q n):=by
 obtain⟨i,e,hi,he,ha⟩:=Yd ((s.drop p).take (q-p)) (by rw[HS,I3];omega)
 rcases he with⟨rfl,hne⟩|rfl
 ·have hpq:p<q:=by
   rcases Nat.lt_or_ge p q with h|h
   ·exact h
   ·exact absurd (by rw[show q-p=0 by omega];rfl) hne
  by_cases hn8:n+1<=128
  ·obtain⟨t,q2,t1,t2,t3,t4⟩:=Hl s hs q (n+1) false 40 h2
   cases t with
   |false=>
    refine⟨.mk i [],q2,n+1,false,⟨by omega,t2⟩,fun _=>⟨by omega,rfl,hn8,by simp only[rgB,CT,Hy,H8];exact⟨hi.1,hi.2,trivial⟩⟩,by omega,?_⟩
    refine BB mixed 125 [] (.c (.tup [di i,.raw .nilIface])<|.h (.q 7 1)<|.h (.o (db false) (St.mk [some (cRd s q (n+1) false),some [di 0,.v .nils]] []))<|.k<|.f<|.c1 (cRd s q2 (n+1) false) (db false)<|.k .r) ?_
    refine via (by kernel_rfl:(0<=(fun x=>x.snd) (IntKind.i64,(p:Int))/\(fun x=>x.snd) (IntKind.i64,(p:Int))<=(fun x=>x.snd) (IntKind.i64,(q:Int))/\(fun x=>x.snd) (IntKind.i64,(q:Int))<=(s.length:Int)/\F0 123 [D.v (V.str (List.drop (Int.toNat ((fun x=>x.snd) (IntKind.i64,(p:Int)))) (take (Int.toNat ((fun x=>x.snd) (IntKind.i64,(q:Int)))) s)))] (D.tup [di i,D.raw Value.nilIface])/\(True/\True/\True)/\Ap PP (Oper.mk (some 77) (Op.binOp BinOp.neq 100 (Operand.tmp 76) (Operand.const Value.nilIface) 100) 4 "order.go:306" #[Edge.mk 0 Ground.data] none) [D.raw Value.nilIface,D.undef] (St.mk [some [D.v (V.str s),di (q:Int),di (wrap IntKind.i64 ((n:Int)+1)),db false],some [di 0,dn]] []) (db false) (St.mk [some (cRd s q (n+1) false),some [di 0,dn]] [])/\decide ((↑(n+1):Int)>128)=false/\Aa PP 122 [D.ptr 0 0,D.v (V.int IntKind.u8 40)] (St.mk [some (cRd s q (n+1) false)] []) (db false) (St.mk [some (cRd s q2 (n+1) false)] [])/\Q [some (cRd s q2 (n+1) false)]/\D.v (V.agg [vi i,V.list []])=dV (Val.mk i []))=_) ?_
    rw[Y7,Ae (by omega),drop_take,show((q:Nat):Int).toNat=q from rfl,show((p:Nat):Int).toNat=p from rfl]
    exact⟨by show(0:Int)<=p;omega,by show(p:Int)<=q;omega,by show(q:Int)<=_;omega,ha,⟨trivial,trivial,trivial⟩,Et rfl (by kernel_rfl),H1 (by omega),t4,rfl,rfl⟩
   |true=>
    obtain rfl:=t3 rfl
    obtain⟨all,q3,n3,b3,⟨y1,y2⟩,y3,y4,hrn⟩:=UT s hs i K IH _ (q+1) (n+1) [] (H5 _) (by omega) t2 hn8 (by simp) rfl
    refine⟨.mk i all,q3,n3,b3,⟨by omega,y2⟩,fun h=>?_,y4,?_⟩
    ·obtain⟨z1,z2,z3⟩:=y3 h
     simp only[Val.sizes] at z1
     exact⟨by omega,by simp only[Val.size];omega,z2,by simp only[rgB,Hy,H8];exact⟨hi.1,hi.2,z3⟩⟩
    ·refine BB mixed 125 [] (.c (.tup [di i,.raw .nilIface])<|.h (.q 7 1)<|.h (.o (db false) (St.mk [some (cRd s q (n+1) false),some [di 0,.v .nils]] []))<|.k<|.f<|.h .rn<|.h (.q 11 0)<|.h (.cl 2 1 1 2)<|.c1 (cRd s (q+1) (n+1) false) (db true)<|.k<|.ls [ke 0,ke 2,ch 6 (.ptr 2 0),ch 7 (db true)] (stK s (q+1) (n+1) i [])) ?_
     refine via (by kernel_rfl:(0<=(fun x=>x.snd) (IntKind.i64,(p:Int))/\(fun x=>x.snd) (IntKind.i64,(p:Int))<=(fun x=>x.snd) (IntKind.i64,(q:Int))/\(fun x=>x.snd) (IntKind.i64,(q:Int))<=(s.length:Int)/\F0 123 [D.v (V.str (List.drop (Int.toNat ((fun x=>x.snd) (IntKind.i64,(p:Int)))) (take (Int.toNat ((fun x=>x.snd) (IntKind.i64,(q:Int)))) s)))] (D.tup [di i,D.raw Value.nilIface])/\(True/\True/\True)/\Ap PP (Oper.mk (some 77) (Op.binOp BinOp.neq 100 (Operand.tmp 76) (Operand.const Value.nilIface) 100) 4 "order.go:306" #[Edge.mk 0 Ground.data] none) [D.raw Value.nilIface,D.undef] (St.mk [some [D.v (V.str s),di (q:Int),di (wrap IntKind.i64 ((n:Int)+1)),db false],some [di 0,dn]] []) (db false) (St.mk [some (cRd s q (n+1) false),some [di 0,dn]] [])/\decide ((↑(n+1):Int)>128)=false/\Aa PP 122 [D.ptr 0 0,D.v (V.int IntKind.u8 40)] (St.mk [some (cRd s q (n+1) false)] []) (db true) (St.mk [some (cRd s (q+1) (n+1) false)] [])/\Q (D.ptr 2 0)/\Q (db true)/\Q [some (cRd s (q+1) (n+1) false),some [di 0,dn],some [di i,D.acc 1 nV]]/\Q [(1,2,nV)]/\I0 D0 1 (dV (Val.mk i all)) (rd s q3 n3 b3) [kl Ce [1,1,1,1,1,1,1,1,1,0,1,0,0],KI.blk 2,kc Ce [1,1,1,1,1,1,1,1,1,1]] (mkE 125 [(0,D.ptr 0 0),(2,D.ptr 1 0),(6,D.ptr 2 0),(7,db true)]) (stK s (q+1) (n+1) i []))=_) ?_
     rw[Y7,Ae (by omega),drop_take,show((q:Nat):Int).toNat=q from rfl,show((p:Nat):Int).toNat=p from rfl]
     exact⟨by show(0:Int)<=p;omega,by show(p:Int)<=q;omega,by show(q:Int)<=_;omega,ha,⟨trivial,trivial,trivial⟩,Et rfl (by kernel_rfl),H1 (by omega),t4,rfl,rfl,rfl,rfl,⟨hrn⟩⟩
  ·refine⟨.mk 0 [],q,n+1,true,⟨by omega,h2⟩,fun h=>by simp at h,by omega,?_⟩
   refine BB mixed 125 [] (.c (.tup [di i,.raw .nilIface])<|.h (.q 7 1)<|.h (.o (db false) (St.mk [some (cRd s q (n+1) false),some [di 0,.v .nils]] []))<|.k<|.t<|.r) ?_
   refine via (by kernel_rfl:(0<=(fun x=>x.snd) (IntKind.i64,(p:Int))/\(fun x=>x.snd) (IntKind.i64,(p:Int))<=(fun x=>x.snd) (IntKind.i64,(q:Int))/\(fun x=>x.snd) (IntKind.i64,(q:Int))<=(s.length:Int)/\F0 123 [D.v (V.str (List.drop (Int.toNat ((fun x=>x.snd) (IntKind.i64,(p:Int)))) (take (Int.toNat ((fun x=>x.snd) (IntKind.i64,(q:Int)))) s)))] (D.tup [di i,D.raw Value.nilIface])/\(True/\True/\True)/\Ap PP (Oper.mk (some 77) (Op.binOp BinOp.neq 100 (Operand.tmp 76) (Operand.const Value.nilIface) 100) 4 "order.go:306" #[Edge.mk 0 Ground.data] none) [D.raw Value.nilIface,D.undef] (St.mk [some [D.v (V.str s),di (q:Int),di (wrap IntKind.i64 ((n:Int)+1)),db false],some [di 0,dn]] []) (db false) (St.mk [some (cRd s q (n+1) false),some [di 0,dn]] [])/\decide ((↑(n+1):Int)>128)=true/\[some [D.v (V.str s),di (q:Int),di (↑(n+1):Int),db true]]=[some (cRd s q (n+1) true)]/\D.v (V.agg [vi 0,V.list []])=dV (Val.mk 0 []))=_) ?_
   rw[Ae (by omega),drop_take,show((q:Nat):Int).toNat=q from rfl,show((p:Nat):Int).toNat=p from rfl]
   exact⟨by show(0:Int)<=p;omega,by show(p:Int)<=q;omega,by show(q:Int)<=_;omega,ha,⟨trivial,trivial,trivial⟩,Et rfl (by kernel_rfl),Hz (by omega),rfl,rfl⟩
 ·refine⟨.mk 0 [],q,n+1,true,⟨by omega,h2⟩,fun h=>by simp at h,by omega,?_⟩
  refine BB mixed 125 [] (.c (.tup [di i,.err])<|.h (.q 7 1)<|.h (.o (db true) (St.mk [some (cRd s q (n+1) false),some [di 0,.v .nils]] []))<|.k<|.k<|.r) ?_
  refine via (by kernel_rfl:(0<=(fun x=>x.snd) (IntKind.i64,(p:Int))/\(fun x=>x.snd) (IntKind.i64,(p:Int))<=(fun x=>x.snd) (IntKind.i64,(q:Int))/\(fun x=>x.snd) (IntKind.i64,(q:Int))<=(s.length:Int)/\F0 123 [D.v (V.str (List.drop (Int.toNat ((fun x=>x.snd) (IntKind.i64,(p:Int)))) (take (Int.toNat ((fun x=>x.snd) (IntKind.i64,(q:Int)))) s)))] (D.tup [di i,D.err])/\(True/\True/\True)/\Ap PP (Oper.mk (some 77) (Op.binOp BinOp.neq 100 (Operand.tmp 76) (Operand.const Value.nilIface) 100) 4 "order.go:306" #[Edge.mk 0 Ground.data] none) [D.err,D.undef] (St.mk [some [D.v (V.str s),di (q:Int),di (wrap IntKind.i64 ((n:Int)+1)),db false],some [di 0,dn]] []) (db true) (St.mk [some (cRd s q (n+1) false),some [di 0,dn]] [])/\[some [D.v (V.str s),di (q:Int),di (↑(n+1):Int),db true]]=[some (cRd s q (n+1) true)]/\D.v (V.agg [vi 0,V.list []])=dV (Val.mk 0 []))=_) ?_
  rw[Ae (by omega),drop_take,show((q:Nat):Int).toNat=q from rfl,show((p:Nat):Int).toNat=p from rfl]
  exact⟨by show(0:Int)<=p;omega,by show(p:Int)<=q;omega,by show(q:Int)<=_;omega,ha,⟨trivial,trivial,trivial⟩,U3 rfl (by kernel_rfl),rfl,rfl⟩
theorem WK(s:List UInt8)(hs:s.length<=1000000):∀(K p n:Nat),s.length-p<K->p<=s.length->n<=128->Abc s p n:=by
 intro K
 induction K with
 |zero=>intro p n h;omega
 |succ K ih=>
  intro p n hK hp hn
  obtain⟨t,q0,t1,t2,_,t4⟩:=Hl s hs p n false 45 hp
  obtain⟨q,d1,d2,d3⟩:=Vw s hs p n _ q0 (H5 _) t2
  obtain⟨v,q',n',b,v1,v2,v3,hrn⟩:=T7 s hs K ih p q n (by omega) d2 (by omega) hn
  refine⟨v,q',n',b,v1,v2,v3,?_⟩
  have hrn:=d3 _ _ hrn
  refine sv D0 125 [] (.c1 (cRd s q0 n false) (db t)<|.ls [ke 0,ke 2,ch 3 (di p)] (D9 s q0 n)) (Aa PP 122 [D.ptr 0 0,D.v (V.int IntKind.u8 45)] (St.mk [some (cRd s p n false)] []) (db t) (St.mk [some (cRd s q0 n false)] [])/\Q (di (p:Int))/\Q [some (cRd s q0 n false),some [di 0,dn]]/\I0 D0 (length (rd s p n false).H) (dV v) (rd s q' n' b) [kl Ce [1,1,1,0,0,0],KI.blk 0,kc Ce [1,1,1,1]] (mkE 125 [(0,D.ptr 0 0),(2,D.ptr 1 0),(3,di (p:Int))]) (D9 s q0 n)) ?_
  rw[Abg]
  exact⟨t4,rfl,rfl,⟨hrn⟩⟩
structure RdV(v:Val):Prop where
 rg:rgB v=true
 size:v.size<=128
theorem Du:RdV (.mk 0 []):=⟨rfl,by decide⟩
theorem OU(s:List UInt8)(hs:s.length<=1000000):∃(v:Val) (e:Int),RdV v/\Aa PP 58 [ds s] σ0 (.tup [dV v,di e]) σ0:=by
 by_cases hl:s.length<=4096
 ·obtain⟨v,q,n,b,⟨q1,q2⟩,h1,h2,h3⟩:=WK s hs (s.length+1) 0 0 (by omega) (by omega) (by omega)
  cases b with
  |true=>
   refine⟨.mk 0 [],12,Du,?_⟩
   refine sv P2 45 [] (.f<|.c1 (cRd s q n true) (dV v)<|.k<|.k<|.r) (decide ((s.length:Int)>4096)=false/\Aa PP 91 [D.ptr 0 0] (St.mk [some [D.v (V.str s),di 0,di 0,db false]] []) (dV v) (St.mk [some (cRd s q n true)] [])/\D.tup [D.v (V.agg [vi 0,V.list []]),di 12]=D.tup [dV (Val.mk 0 []),di 12]) ?_
   exact⟨H1 (by omega),h3,rfl⟩
  |false=>
   obtain⟨h4,h5,h6,h7⟩:=h1 rfl
   have hv:RdV v:=⟨h7,by omega⟩
   by_cases hq:q=s.length
   ·have ht:=DY v h7 (by omega)
    by_cases he:Au v=s
    ·refine⟨v,0,hv,?_⟩
     rw[he] at ht
     refine sv P2 45 [] (.f<|.c1 (cRd s q n false) (dV v)<|.k<|.f<|.c (.tup [ds s,di 0])<|.k<|.f<|.r) (decide ((s.length:Int)>4096)=false/\Aa PP 91 [D.ptr 0 0] (St.mk [some [D.v (V.str s),di 0,di 0,db false]] []) (dV v) (St.mk [some (cRd s q n false)] [])/\((q:Int) !=(s.length:Int))=false/\F0 25 [dV v] (D.tup [D.v (V.str s),di 0])/\(!s==s)=false/\D.tup [D.v (V.agg [vi v.n,V.list (map eV v.kids)]),di 0]=D.tup [dV v,di 0]) ?_
     exact⟨H1 (by omega),h3,by simp[hq],ht,by simp,rfl⟩
    ·refine⟨.mk 0 [],12,Du,?_⟩
     generalize Au v=u at ht he
     refine sv P2 45 [] (.f<|.c1 (cRd s q n false) (dV v)<|.k<|.f<|.c (.tup [ds u,di 0])<|.k<|.t<|.r) (decide ((s.length:Int)>4096)=false/\Aa PP 91 [D.ptr 0 0] (St.mk [some [D.v (V.str s),di 0,di 0,db false]] []) (dV v) (St.mk [some (cRd s q n false)] [])/\((q:Int) !=(s.length:Int))=false/\F0 25 [dV v] (D.tup [D.v (V.str u),di 0])/\(!u==s)=true/\D.tup [D.v (V.agg [vi 0,V.list []]),di 12]=D.tup [dV (Val.mk 0 []),di 12]) ?_
     exact⟨H1 (by omega),h3,by simp[hq],ht,by simpa using he,rfl⟩
   ·refine⟨.mk 0 [],12,Du,?_⟩
    refine sv P2 45 [] (.f<|.c1 (cRd s q n false) (dV v)<|.k<|.t<|.r) (decide ((s.length:Int)>4096)=false/\Aa PP 91 [D.ptr 0 0] (St.mk [some [D.v (V.str s),di 0,di 0,db false]] []) (dV v) (St.mk [some (cRd s q n false)] [])/\((q:Int) !=(s.length:Int))=true/\D.tup [D.v (V.agg [vi 0,V.list []]),di 12]=D.tup [dV (Val.mk 0 []),di 12]) ?_
    exact⟨H1 (by omega),h3,by simp;omega,rfl⟩
 ·refine⟨.mk 0 [],1,Du,?_⟩
  refine sv P2 45 [] (.t<|.r) (decide ((s.length:Int)>4096)=true/\D.tup [D.v (V.agg [vi 0,V.list []]),di 1]=D.tup [dV (Val.mk 0 []),di 1]) ?_
  exact⟨Hz (by omega),rfl⟩
theorem OR(m:Mod)(p:Int)(v:Val)(hv:RdV v)(h:Aa PP 11 [Ad m,dQ ⟨1,p,v⟩] σ0 (di 0) σ0):Aa PP 9 [Ad m,dQ ⟨1,p,v⟩] σ0 (.tup [ds (AD++[32]++Au v),di 0]) σ0:=by
 refine sv Vm 52 [2,3] (.c (di 0)<|.k<|.c (.tup [ds (Au v),di 0])<|.k .r) (F0 11 [Ad m,D.v (vQ (Qst.mk 1 p v))] (di 0)/\0<=(Qst.mk 1 p v).kind/\(Qst.mk 1 p v).kind<(↑7:Int)/\F0 25 [D.v (V.agg [vi (Val.n (Qst.mk 1 p v).target),vVs (Val.kids (Qst.mk 1 p v).target)])] (D.tup [D.v (V.str (Au v)),di 0])/\6<=9223372036854775807/\length ([99,111,118,101,114]++(ByteArray.mk #[32]).data.toList)+length (Au v)<=9223372036854775807/\D.tup [D.v (V.str ([99,111,118,101,114]++(ByteArray.mk #[32]).data.toList++Au v)),di 0]=D.tup [D.v (V.str (AD++[32]++Au v)),di 0]) ?_
 have hl:=Cp v hv.rg
 have hz:=hv.size
 exact⟨h,by show(0:Int)<=1;decide,by show(1:Int)<7;decide,DY v hv.rg hv.size,by decide,by show 6+(Au v).length<=_;omega,rfl⟩
theorem OQ(m:Mod)(p:Int)(v:Val)(hv:RdV v)(h:Aa PP 11 [Ad m,dQ ⟨2,p,v⟩] σ0 (di 0) σ0):Aa PP 9 [Ad m,dQ ⟨2,p,v⟩] σ0 (.tup [ds (B6++[32]++Au v),di 0]) σ0:=by
 refine sv Vm 52 [2,3] (.c (di 0)<|.k<|.c (.tup [ds (Au v),di 0])<|.k .r) (F0 11 [Ad m,D.v (vQ (Qst.mk 2 p v))] (di 0)/\0<=(Qst.mk 2 p v).kind/\(Qst.mk 2 p v).kind<(↑7:Int)/\F0 25 [D.v (V.agg [vi (Val.n (Qst.mk 2 p v).target),vVs (Val.kids (Qst.mk 2 p v).target)])] (D.tup [D.v (V.str (Au v)),di 0])/\6<=9223372036854775807/\length ([114,101,97,99,104]++(ByteArray.mk #[32]).data.toList)+length (Au v)<=9223372036854775807/\D.tup [D.v (V.str ([114,101,97,99,104]++(ByteArray.mk #[32]).data.toList++Au v)),di 0]=D.tup [D.v (V.str (B6++[32]++Au v)),di 0]) ?_
 have hl:=Cp v hv.rg
 have hz:=hv.size
 exact⟨h,by show(0:Int)<=2;decide,by show(2:Int)<7;decide,DY v hv.rg hv.size,by decide,by show 6+(Au v).length<=_;omega,rfl⟩
def txI(m:Mod)(q:Qst):List UInt8:=if q.kind=1 then AD++[32]++Au q.target else if q.kind=2 then B6++[32]++Au q.target else if q.kind=3 then AP else if q.kind=4 then A0++[32]++m.places.getD q.place.toNat [] else if q.kind=5 then CP else CO
theorem M4{m:Mod}{t:Typ}{q:Qst}(h:Af m t q=true):q.kind=1∨q.kind=2∨q.kind=3∨q.kind=4∨q.kind=5∨q.kind=6:=by
 unfold Af at h
 split at h
 ·simp at h
 ·omega
theorem Ru(m:Mod)(t:Typ)(hm:Cx m t)(q:Qst)(hz:q.target.size<=1000000):Aa PP 28 [Ad m,dQ q] σ0 (db (Af m t q)) σ0:=by
 obtain⟨k,p,v⟩:=q
 rcases(show k=1∨k=2∨k=3∨k=4∨k=5∨k=6∨(k<1∨k>=7) by omega) with rfl|rfl|rfl|rfl|rfl|rfl|hk
 ·exact FY m t p v (hm.valid v hz)
 ·exact JI m t p v (hm.valid v hz)
 ·exact G2 m t hm p v (Val.fit_of v hz)
 ·exact FX m t hm p v (Val.fit_of v hz)
 ·exact L9 m t p v (Val.fit_of v hz)
 ·exact L8 m t p v (Val.fit_of v hz)
 ·have h:=NQ m p v k hk
  rwa[show false=Af m t ⟨k,p,v⟩ by simp only[Af];rw[HJ hk]] at h
theorem Ou(m:Mod)(t:Typ)(hm:Cx m t)(q:Qst)(hv:RdV q.target):Aa PP 11 [Ad m,dQ q] σ0 (di (if Af m t q then 0 else 48)) σ0:=
 FC m t hm q _ (Ru m t hm q (by have:=hv.size;omega))
theorem WW(m:Mod)(t:Typ)(hm:Cx m t)(q:Qst)(hv:RdV q.target)(h:Af m t q=false):Aa PP 9 [Ad m,dQ q] σ0 (.tup [ds [],di 48]) σ0:=by
 have hc:=Ou m t hm q hv
 rw[h] at hc
 exact Rw m q hc
theorem VO(m:Mod)(t:Typ)(hm:Cx m t)(hP:m.places=[[120]]∨m.places=[[120],[121]])(q:Qst)(hv:RdV q.target)(h:Af m t q=true):Aa PP 9 [Ad m,dQ q] σ0 (.tup [ds (txI m q),di 0]) σ0:=by
 have hc:=Ou m t hm q hv
 rw[h] at hc
 have hk:=M4 h
 obtain⟨k,p,v⟩:=q
 simp only at hk
 rcases hk with rfl|rfl|rfl|rfl|rfl|rfl
 ·exact OR m p v hv hc
 ·exact OQ m p v hv hc
 ·exact MK m p v hc
 ·simp only[Af] at h
  rw[HF (by decide),HF (by decide),HF (by decide),HJ trivial] at h
  simp only[Hy,H8] at h
  obtain⟨n,rfl⟩:∃n:Nat,p=n:=⟨p.toNat,by omega⟩
  have hn:n<m.places.length:=by omega
  have hx:m.places[n]?=some m.places[n]:=Hx hn
  have hlen:m.places[n].length<=1000:=by
   have h1:∀x∈m.places,x.length<=1000:=by
    rcases hP with e|e<;>rw[e]<;>decide
   exact h1 _ (List.getElem_mem hn)
  have h4:=LA m n v _ hx hlen hc
  have e4:txI m ⟨4,n,v⟩=A0++[32]++m.places[n]:=by
   simp only[txI]
   rw[HF (by decide),HF (by decide),HF (by decide),HJ trivial,H6,show((n:Nat):Int).toNat=n from rfl,hx];rfl
  rw[e4];exact h4
 ·exact Uv m p v hc
 ·exact Uu m p v hc
def txA(m:Mod)(t:Typ)(q:Qst):List UInt8×Int:=if Af m t q then(txI m q,0) else([],48)
theorem B7(m:Mod)(t:Typ)(hm:Cx m t)(hP:m.places=[[120]]∨m.places=[[120],[121]])(q:Qst)(hv:RdV q.target):Aa PP 9 [Ad m,dQ q] σ0 (.tup [ds (txA m t q).1,di (txA m t q).2]) σ0:=by
 unfold txA
 cases h:Af m t q with
 |true=>exact VO m t hm hP q hv h
 |false=>exact WW m t hm q hv h
theorem w45:wrap IntKind.i64 (4+1)=5:=by decide
theorem w56:wrap IntKind.i64 (5+1)=6:=by decide
theorem w67:wrap IntKind.i64 (6+1)=7:=by decide
def rdA(m:Mod)(t:Typ)(q:Qst)(s:List UInt8):Bool:=Af m t q&&(txI m q==s)
theorem Wf(m:Mod)(t:Typ)(hm:Cx m t)(hP:m.places=[[120]])(s rest:List UInt8)(f:Bool)(v:Val)(e:Int)(hv:RdV v)(hc:Aa PP 57 [ds s,ds [32]] σ0 (.tup [ds AD,ds rest,db f]) σ0)(hp:Aa PP 58 [ds rest] σ0 (.tup [dV v,di e]) σ0):
  Aa PP 34 [Ad m,ds s] σ0 (.tup [dQ ⟨1,0,v⟩,db (rdA m t ⟨1,0,v⟩ s)]) σ0:=by
 have ht:=B7 m t hm (.inl hP) ⟨1,0,v⟩ hv
 unfold txA at ht
 unfold rdA
 generalize txI m ⟨1,0,v⟩=u at ht⊢
 generalize Af m t ⟨1,0,v⟩=b at ht⊢
 clear hm
 obtain⟨mk,ms,mp,ml,mr,mv,ma,mru,mst⟩:=m
 simp only at hP
 subst hP
 cases b with
 |true=>
  refine sv Cn 79 [2] (.c (.tup [ds AD,ds rest,db f])<|.n<|.n<|.c (.tup [dV v,di e])<|.n<|.x (.str [120])<|.n<|.c (.tup [ds u,di 0])<|.r) (F0 57 [D.v (V.str s),D.v (V.str (ByteArray.mk #[32]).data.toList)] (D.tup [D.v (V.str AD),D.v (V.str rest),db f])/\iz 0<=0/\0<(↑7:Int)/\0<=wrap IntKind.i64 (0+1)/\wrap IntKind.i64 (0+1)<(↑7:Int)/\F0 58 [D.v (V.str rest)] (D.tup [dV v,di e])/\iz 0<=0/\some (V.str [120])=some (V.str [120])/\F0 9 [D.v (Az (Mod.mk mk ms [[120]] ml mr mv ma mru mst)),D.v (V.agg [vi (wrap IntKind.i64 (0+1)),vi 0,vi v.n,vVs v.kids])] (D.tup [D.v (V.str u),di 0])/\D.tup [D.v (V.agg [vi (wrap IntKind.i64 (0+1)),vi 0,vi v.n,V.list (map eV v.kids)]),db (u==s)]=D.tup [dQ (Qst.mk 1 0 v),db (true&&u==s)]) ?_
  simp only[w01]
  repeat' first|with_reducible refine And.intro ?_ ?_
  all_goals first|exact hc|exact ht|exact hp|rfl|decide
 |false=>
  refine sv Cn 79 [2] (.c (.tup [ds AD,ds rest,db f])<|.n<|.n<|.c (.tup [dV v,di e])<|.n<|.x (.str [120])<|.n<|.c (.tup [ds [],di 48])<|.r) (F0 57 [D.v (V.str s),D.v (V.str (ByteArray.mk #[32]).data.toList)] (D.tup [D.v (V.str AD),D.v (V.str rest),db f])/\iz 0<=0/\0<(↑7:Int)/\0<=wrap IntKind.i64 (0+1)/\wrap IntKind.i64 (0+1)<(↑7:Int)/\F0 58 [D.v (V.str rest)] (D.tup [dV v,di e])/\iz 0<=0/\some (V.str [120])=some (V.str [120])/\F0 9 [D.v (Az (Mod.mk mk ms [[120]] ml mr mv ma mru mst)),D.v (V.agg [vi (wrap IntKind.i64 (0+1)),vi 0,vi v.n,vVs v.kids])] (D.tup [D.v (V.str []),di 48])/\D.tup [D.v (V.agg [vi (wrap IntKind.i64 (0+1)),vi 0,vi v.n,V.list (map eV v.kids)]),db false]=D.tup [dQ (Qst.mk 1 0 v),db (false&&u==s)]) ?_
  simp only[w01]
  repeat' first|with_reducible refine And.intro ?_ ?_
  all_goals first|exact hc|exact ht|exact hp|rfl|decide
theorem We(m:Mod)(t:Typ)(hm:Cx m t)(hP:m.places=[[120],[121]])(s rest:List UInt8)(f:Bool)(v:Val)(e:Int)(hv:RdV v)(hc:Aa PP 57 [ds s,ds [32]] σ0 (.tup [ds AD,ds rest,db f]) σ0)(hp:Aa PP 58 [ds rest] σ0 (.tup [dV v,di e]) σ0):
  Aa PP 34 [Ad m,ds s] σ0 (.tup [dQ ⟨1,0,v⟩,db (rdA m t ⟨1,0,v⟩ s)]) σ0:=by
 have ht:=B7 m t hm (.inr hP) ⟨1,0,v⟩ hv
 unfold txA at ht
 unfold rdA
 generalize txI m ⟨1,0,v⟩=u at ht⊢
 generalize Af m t ⟨1,0,v⟩=b at ht⊢
 clear hm
 obtain⟨mk,ms,mp,ml,mr,mv,ma,mru,mst⟩:=m
 simp only at hP
 subst hP
 cases b with
 |true=>
  refine sv Cn 79 [2] (.c (.tup [ds AD,ds rest,db f])<|.n<|.n<|.c (.tup [dV v,di e])<|.n<|.x (.str [120])<|.n<|.x (.str [121])<|.n<|.c (.tup [ds u,di 0])<|.r) (F0 57 [D.v (V.str s),D.v (V.str (ByteArray.mk #[32]).data.toList)] (D.tup [D.v (V.str AD),D.v (V.str rest),db f])/\iz 0<=0/\0<(↑7:Int)/\0<=wrap IntKind.i64 (0+1)/\wrap IntKind.i64 (0+1)<(↑7:Int)/\F0 58 [D.v (V.str rest)] (D.tup [dV v,di e])/\iz 0<=0/\some (V.str [120])=some (V.str [120])/\0<=wrap IntKind.i64 (0+1)/\some (V.str [121])=some (V.str [121])/\F0 9 [D.v (Az (Mod.mk mk ms [[120],[121]] ml mr mv ma mru mst)),D.v (V.agg [vi (wrap IntKind.i64 (0+1)),vi 0,vi v.n,vVs v.kids])] (D.tup [D.v (V.str u),di 0])/\D.tup [D.v (V.agg [vi (wrap IntKind.i64 (0+1)),vi 0,vi v.n,V.list (map eV v.kids)]),db (u==s)]=D.tup [dQ (Qst.mk 1 0 v),db (true&&u==s)]) ?_
  simp only[w01]
  repeat' first|with_reducible refine And.intro ?_ ?_
  all_goals first|exact hc|exact ht|exact hp|rfl|decide
 |false=>
  refine sv Cn 79 [2] (.c (.tup [ds AD,ds rest,db f])<|.n<|.n<|.c (.tup [dV v,di e])<|.n<|.x (.str [120])<|.n<|.x (.str [121])<|.n<|.c (.tup [ds [],di 48])<|.r) (F0 57 [D.v (V.str s),D.v (V.str (ByteArray.mk #[32]).data.toList)] (D.tup [D.v (V.str AD),D.v (V.str rest),db f])/\iz 0<=0/\0<(↑7:Int)/\0<=wrap IntKind.i64 (0+1)/\wrap IntKind.i64 (0+1)<(↑7:Int)/\F0 58 [D.v (V.str rest)] (D.tup [dV v,di e])/\iz 0<=0/\some (V.str [120])=some (V.str [120])/\0<=wrap IntKind.i64 (0+1)/\some (V.str [121])=some (V.str [121])/\F0 9 [D.v (Az (Mod.mk mk ms [[120],[121]] ml mr mv ma mru mst)),D.v (V.agg [vi (wrap IntKind.i64 (0+1)),vi 0,vi v.n,vVs v.kids])] (D.tup [D.v (V.str []),di 48])/\D.tup [D.v (V.agg [vi (wrap IntKind.i64 (0+1)),vi 0,vi v.n,V.list (map eV v.kids)]),db false]=D.tup [dQ (Qst.mk 1 0 v),db (false&&u==s)]) ?_
  simp only[w01]
  repeat' first|with_reducible refine And.intro ?_ ?_
  all_goals first|exact hc|exact ht|exact hp|rfl|decide
theorem Wd(m:Mod)(t:Typ)(hm:Cx m t)(hP:m.places=[[120]])(s rest:List UInt8)(f:Bool)(v:Val)(e:Int)(hv:RdV v)(hc:Aa PP 57 [ds s,ds [32]] σ0 (.tup [ds B6,ds rest,db f]) σ0)(hp:Aa PP 58 [ds rest] σ0 (.tup [dV v,di e]) σ0):
  Aa PP 34 [Ad m,ds s] σ0 (.tup [dQ ⟨2,0,v⟩,db (rdA m t ⟨2,0,v⟩ s)]) σ0:=by
 have ht:=B7 m t hm (.inl hP) ⟨2,0,v⟩ hv
 unfold txA at ht
 unfold rdA
 generalize txI m ⟨2,0,v⟩=u at ht⊢
 generalize Af m t ⟨2,0,v⟩=b at ht⊢
 clear hm
 obtain⟨mk,ms,mp,ml,mr,mv,ma,mru,mst⟩:=m
 simp only at hP
 subst hP
 cases b with
 |true=>
  refine sv Cn 79 [2] (.c (.tup [ds B6,ds rest,db f])<|.n<|.n<|.n<|.c (.tup [dV v,di e])<|.n<|.x (.str [120])<|.n<|.c (.tup [ds u,di 0])<|.r) (F0 57 [D.v (V.str s),D.v (V.str (ByteArray.mk #[32]).data.toList)] (D.tup [D.v (V.str B6),D.v (V.str rest),db f])/\iz 0<=0/\0<(↑7:Int)/\0<=wrap IntKind.i64 (0+1)/\wrap IntKind.i64 (0+1)<(↑7:Int)/\0<=wrap IntKind.i64 (wrap IntKind.i64 (0+1)+1)/\wrap IntKind.i64 (wrap IntKind.i64 (0+1)+1)<(↑7:Int)/\F0 58 [D.v (V.str rest)] (D.tup [dV v,di e])/\iz 0<=0/\some (V.str [120])=some (V.str [120])/\F0 9 [D.v (Az (Mod.mk mk ms [[120]] ml mr mv ma mru mst)),D.v (V.agg [vi (wrap IntKind.i64 (wrap IntKind.i64 (0+1)+1)),vi 0,vi v.n,vVs v.kids])] (D.tup [D.v (V.str u),di 0])/\D.tup [D.v (V.agg [vi (wrap IntKind.i64 (wrap IntKind.i64 (0+1)+1)),vi 0,vi v.n,V.list (map eV v.kids)]),db (u==s)]=D.tup [dQ (Qst.mk 2 0 v),db (true&&u==s)]) ?_
  simp only[w01,w12]
  repeat' first|with_reducible refine And.intro ?_ ?_
  all_goals first|exact hc|exact ht|exact hp|rfl|decide
 |false=>
  refine sv Cn 79 [2] (.c (.tup [ds B6,ds rest,db f])<|.n<|.n<|.n<|.c (.tup [dV v,di e])<|.n<|.x (.str [120])<|.n<|.c (.tup [ds [],di 48])<|.r) (F0 57 [D.v (V.str s),D.v (V.str (ByteArray.mk #[32]).data.toList)] (D.tup [D.v (V.str B6),D.v (V.str rest),db f])/\iz 0<=0/\0<(↑7:Int)/\0<=wrap IntKind.i64 (0+1)/\wrap IntKind.i64 (0+1)<(↑7:Int)/\0<=wrap IntKind.i64 (wrap IntKind.i64 (0+1)+1)/\wrap IntKind.i64 (wrap IntKind.i64 (0+1)+1)<(↑7:Int)/\F0 58 [D.v (V.str rest)] (D.tup [dV v,di e])/\iz 0<=0/\some (V.str [120])=some (V.str [120])/\F0 9 [D.v (Az (Mod.mk mk ms [[120]] ml mr mv ma mru mst)),D.v (V.agg [vi (wrap IntKind.i64 (wrap IntKind.i64 (0+1)+1)),vi 0,vi v.n,vVs v.kids])] (D.tup [D.v (V.str []),di 48])/\D.tup [D.v (V.agg [vi (wrap IntKind.i64 (wrap IntKind.i64 (0+1)+1)),vi 0,vi v.n,V.list (map eV v.kids)]),db false]=D.tup [dQ (Qst.mk 2 0 v),db (false&&u==s)]) ?_
  simp only[w01,w12]
  repeat' first|with_reducible refine And.intro ?_ ?_
  all_goals first|exact hc|exact ht|exact hp|rfl|decide
theorem Wc(m:Mod)(t:Typ)(hm:Cx m t)(hP:m.places=[[120],[121]])(s rest:List UInt8)(f:Bool)(v:Val)(e:Int)(hv:RdV v)(hc:Aa PP 57 [ds s,ds [32]] σ0 (.tup [ds B6,ds rest,db f]) σ0)(hp:Aa PP 58 [ds rest] σ0 (.tup [dV v,di e]) σ0):
  Aa PP 34 [Ad m,ds s] σ0 (.tup [dQ ⟨2,0,v⟩,db (rdA m t ⟨2,0,v⟩ s)]) σ0:=by
 have ht:=B7 m t hm (.inr hP) ⟨2,0,v⟩ hv
 unfold txA at ht
 unfold rdA
 generalize txI m ⟨2,0,v⟩=u at ht⊢
 generalize Af m t ⟨2,0,v⟩=b at ht⊢
 clear hm
 obtain⟨mk,ms,mp,ml,mr,mv,ma,mru,mst⟩:=m
 simp only at hP
 subst hP
 cases b with
 |true=>
  refine sv Cn 79 [2] (.c (.tup [ds B6,ds rest,db f])<|.n<|.n<|.n<|.c (.tup [dV v,di e])<|.n<|.x (.str [120])<|.n<|.x (.str [121])<|.n<|.c (.tup [ds u,di 0])<|.r) (F0 57 [D.v (V.str s),D.v (V.str (ByteArray.mk #[32]).data.toList)] (D.tup [D.v (V.str B6),D.v (V.str rest),db f])/\iz 0<=0/\0<(↑7:Int)/\0<=wrap IntKind.i64 (0+1)/\wrap IntKind.i64 (0+1)<(↑7:Int)/\0<=wrap IntKind.i64 (wrap IntKind.i64 (0+1)+1)/\wrap IntKind.i64 (wrap IntKind.i64 (0+1)+1)<(↑7:Int)/\F0 58 [D.v (V.str rest)] (D.tup [dV v,di e])/\iz 0<=0/\some (V.str [120])=some (V.str [120])/\0<=wrap IntKind.i64 (0+1)/\some (V.str [121])=some (V.str [121])/\F0 9 [D.v (Az (Mod.mk mk ms [[120],[121]] ml mr mv ma mru mst)),D.v (V.agg [vi (wrap IntKind.i64 (wrap IntKind.i64 (0+1)+1)),vi 0,vi v.n,vVs v.kids])] (D.tup [D.v (V.str u),di 0])/\D.tup [D.v (V.agg [vi (wrap IntKind.i64 (wrap IntKind.i64 (0+1)+1)),vi 0,vi v.n,V.list (map eV v.kids)]),db (u==s)]=D.tup [dQ (Qst.mk 2 0 v),db (true&&u==s)]) ?_
  simp only[w01,w12]
  repeat' first|with_reducible refine And.intro ?_ ?_
  all_goals first|exact hc|exact ht|exact hp|rfl|decide
 |false=>
  refine sv Cn 79 [2] (.c (.tup [ds B6,ds rest,db f])<|.n<|.n<|.n<|.c (.tup [dV v,di e])<|.n<|.x (.str [120])<|.n<|.x (.str [121])<|.n<|.c (.tup [ds [],di 48])<|.r) (F0 57 [D.v (V.str s),D.v (V.str (ByteArray.mk #[32]).data.toList)] (D.tup [D.v (V.str B6),D.v (V.str rest),db f])/\iz 0<=0/\0<(↑7:Int)/\0<=wrap IntKind.i64 (0+1)/\wrap IntKind.i64 (0+1)<(↑7:Int)/\0<=wrap IntKind.i64 (wrap IntKind.i64 (0+1)+1)/\wrap IntKind.i64 (wrap IntKind.i64 (0+1)+1)<(↑7:Int)/\F0 58 [D.v (V.str rest)] (D.tup [dV v,di e])/\iz 0<=0/\some (V.str [120])=some (V.str [120])/\0<=wrap IntKind.i64 (0+1)/\some (V.str [121])=some (V.str [121])/\F0 9 [D.v (Az (Mod.mk mk ms [[120],[121]] ml mr mv ma mru mst)),D.v (V.agg [vi (wrap IntKind.i64 (wrap IntKind.i64 (0+1)+1)),vi 0,vi v.n,vVs v.kids])] (D.tup [D.v (V.str []),di 48])/\D.tup [D.v (V.agg [vi (wrap IntKind.i64 (wrap IntKind.i64 (0+1)+1)),vi 0,vi v.n,V.list (map eV v.kids)]),db false]=D.tup [dQ (Qst.mk 2 0 v),db (false&&u==s)]) ?_
  simp only[w01,w12]
  repeat' first|with_reducible refine And.intro ?_ ?_
  all_goals first|exact hc|exact ht|exact hp|rfl|decide
theorem Wb(m:Mod)(t:Typ)(hm:Cx m t)(hP:m.places=[[120]])(s rest:List UInt8)(f:Bool)(hc:Aa PP 57 [ds s,ds [32]] σ0 (.tup [ds AP,ds rest,db f]) σ0):
  Aa PP 34 [Ad m,ds s] σ0 (.tup [dQ ⟨3,0,zeroV⟩,db (rdA m t ⟨3,0,zeroV⟩ s)]) σ0:=by
 have ht:=B7 m t hm (.inl hP) ⟨3,0,zeroV⟩ Du
 unfold txA at ht
 unfold rdA
 generalize txI m ⟨3,0,zeroV⟩=u at ht⊢
 generalize Af m t ⟨3,0,zeroV⟩=b at ht⊢
 clear hm
 obtain⟨mk,ms,mp,ml,mr,mv,ma,mru,mst⟩:=m
 simp only at hP
 subst hP
 cases b with
 |true=>
  refine sv Cn 79 [2] (.c (.tup [ds AP,ds rest,db f])<|.n<|.n<|.n<|.n<|.n<|.x (.str [120])<|.n<|.c (.tup [ds u,di 0])<|.r) (F0 57 [D.v (V.str s),D.v (V.str (ByteArray.mk #[32]).data.toList)] (D.tup [D.v (V.str AP),D.v (V.str rest),db f])/\iz 0<=0/\0<(↑7:Int)/\0<=wrap IntKind.i64 (0+1)/\wrap IntKind.i64 (0+1)<(↑7:Int)/\0<=wrap IntKind.i64 (wrap IntKind.i64 (0+1)+1)/\wrap IntKind.i64 (wrap IntKind.i64 (0+1)+1)<(↑7:Int)/\0<=wrap IntKind.i64 (wrap IntKind.i64 (wrap IntKind.i64 (0+1)+1)+1)/\wrap IntKind.i64 (wrap IntKind.i64 (wrap IntKind.i64 (0+1)+1)+1)<(↑7:Int)/\iz 0<=0/\some (V.str [120])=some (V.str [120])/\F0 9 [D.v (Az (Mod.mk mk ms [[120]] ml mr mv ma mru mst)),D.v (V.agg [vi (wrap IntKind.i64 (wrap IntKind.i64 (wrap IntKind.i64 (0+1)+1)+1)),vi 0,vi 0,V.list []])] (D.tup [D.v (V.str u),di 0])/\D.tup [D.v (V.agg [vi (wrap IntKind.i64 (wrap IntKind.i64 (wrap IntKind.i64 (0+1)+1)+1)),vi 0,vi 0,V.list []]),db (u==s)]=D.tup [dQ (Qst.mk 3 0 zeroV),db (true&&u==s)]) ?_
  simp only[w01,w12,w23]
  repeat' first|with_reducible refine And.intro ?_ ?_
  all_goals first|exact hc|exact ht|rfl|decide
 |false=>
  refine sv Cn 79 [2] (.c (.tup [ds AP,ds rest,db f])<|.n<|.n<|.n<|.n<|.n<|.x (.str [120])<|.n<|.c (.tup [ds [],di 48])<|.r) (F0 57 [D.v (V.str s),D.v (V.str (ByteArray.mk #[32]).data.toList)] (D.tup [D.v (V.str AP),D.v (V.str rest),db f])/\iz 0<=0/\0<(↑7:Int)/\0<=wrap IntKind.i64 (0+1)/\wrap IntKind.i64 (0+1)<(↑7:Int)/\0<=wrap IntKind.i64 (wrap IntKind.i64 (0+1)+1)/\wrap IntKind.i64 (wrap IntKind.i64 (0+1)+1)<(↑7:Int)/\0<=wrap IntKind.i64 (wrap IntKind.i64 (wrap IntKind.i64 (0+1)+1)+1)/\wrap IntKind.i64 (wrap IntKind.i64 (wrap IntKind.i64 (0+1)+1)+1)<(↑7:Int)/\iz 0<=0/\some (V.str [120])=some (V.str [120])/\F0 9 [D.v (Az (Mod.mk mk ms [[120]] ml mr mv ma mru mst)),D.v (V.agg [vi (wrap IntKind.i64 (wrap IntKind.i64 (wrap IntKind.i64 (0+1)+1)+1)),vi 0,vi 0,V.list []])] (D.tup [D.v (V.str []),di 48])/\D.tup [D.v (V.agg [vi (wrap IntKind.i64 (wrap IntKind.i64 (wrap IntKind.i64 (0+1)+1)+1)),vi 0,vi 0,V.list []]),db false]=D.tup [dQ (Qst.mk 3 0 zeroV),db (false&&u==s)]) ?_
  simp only[w01,w12,w23]
  repeat' first|with_reducible refine And.intro ?_ ?_
  all_goals first|exact hc|exact ht|rfl|decide
theorem Wa(m:Mod)(t:Typ)(hm:Cx m t)(hP:m.places=[[120],[121]])(s rest:List UInt8)(f:Bool)(hc:Aa PP 57 [ds s,ds [32]] σ0 (.tup [ds AP,ds rest,db f]) σ0):
  Aa PP 34 [Ad m,ds s] σ0 (.tup [dQ ⟨3,0,zeroV⟩,db (rdA m t ⟨3,0,zeroV⟩ s)]) σ0:=by
 have ht:=B7 m t hm (.inr hP) ⟨3,0,zeroV⟩ Du
 unfold txA at ht
 unfold rdA
 generalize txI m ⟨3,0,zeroV⟩=u at ht⊢
 generalize Af m t ⟨3,0,zeroV⟩=b at ht⊢
 clear hm
 obtain⟨mk,ms,mp,ml,mr,mv,ma,mru,mst⟩:=m
 simp only at hP
 subst hP
 cases b with
 |true=>
  refine sv Cn 79 [2] (.c (.tup [ds AP,ds rest,db f])<|.n<|.n<|.n<|.n<|.n<|.x (.str [120])<|.n<|.x (.str [121])<|.n<|.c (.tup [ds u,di 0])<|.r) (F0 57 [D.v (V.str s),D.v (V.str (ByteArray.mk #[32]).data.toList)] (D.tup [D.v (V.str AP),D.v (V.str rest),db f])/\iz 0<=0/\0<(↑7:Int)/\0<=wrap IntKind.i64 (0+1)/\wrap IntKind.i64 (0+1)<(↑7:Int)/\0<=wrap IntKind.i64 (wrap IntKind.i64 (0+1)+1)/\wrap IntKind.i64 (wrap IntKind.i64 (0+1)+1)<(↑7:Int)/\0<=wrap IntKind.i64 (wrap IntKind.i64 (wrap IntKind.i64 (0+1)+1)+1)/\wrap IntKind.i64 (wrap IntKind.i64 (wrap IntKind.i64 (0+1)+1)+1)<(↑7:Int)/\iz 0<=0/\some (V.str [120])=some (V.str [120])/\0<=wrap IntKind.i64 (0+1)/\some (V.str [121])=some (V.str [121])/\F0 9 [D.v (Az (Mod.mk mk ms [[120],[121]] ml mr mv ma mru mst)),D.v (V.agg [vi (wrap IntKind.i64 (wrap IntKind.i64 (wrap IntKind.i64 (0+1)+1)+1)),vi 0,vi 0,V.list []])] (D.tup [D.v (V.str u),di 0])/\D.tup [D.v (V.agg [vi (wrap IntKind.i64 (wrap IntKind.i64 (wrap IntKind.i64 (0+1)+1)+1)),vi 0,vi 0,V.list []]),db (u==s)]=D.tup [dQ (Qst.mk 3 0 zeroV),db (true&&u==s)]) ?_
  simp only[w01,w12,w23]
  repeat' first|with_reducible refine And.intro ?_ ?_
  all_goals first|exact hc|exact ht|rfl|decide
 |false=>
  refine sv Cn 79 [2] (.c (.tup [ds AP,ds rest,db f])<|.n<|.n<|.n<|.n<|.n<|.x (.str [120])<|.n<|.x (.str [121])<|.n<|.c (.tup [ds [],di 48])<|.r) (F0 57 [D.v (V.str s),D.v (V.str (ByteArray.mk #[32]).data.toList)] (D.tup [D.v (V.str AP),D.v (V.str rest),db f])/\iz 0<=0/\0<(↑7:Int)/\0<=wrap IntKind.i64 (0+1)/\wrap IntKind.i64 (0+1)<(↑7:Int)/\0<=wrap IntKind.i64 (wrap IntKind.i64 (0+1)+1)/\wrap IntKind.i64 (wrap IntKind.i64 (0+1)+1)<(↑7:Int)/\0<=wrap IntKind.i64 (wrap IntKind.i64 (wrap IntKind.i64 (0+1)+1)+1)/\wrap IntKind.i64 (wrap IntKind.i64 (wrap IntKind.i64 (0+1)+1)+1)<(↑7:Int)/\iz 0<=0/\some (V.str [120])=some (V.str [120])/\0<=wrap IntKind.i64 (0+1)/\some (V.str [121])=some (V.str [121])/\F0 9 [D.v (Az (Mod.mk mk ms [[120],[121]] ml mr mv ma mru mst)),D.v (V.agg [vi (wrap IntKind.i64 (wrap IntKind.i64 (wrap IntKind.i64 (0+1)+1)+1)),vi 0,vi 0,V.list []])] (D.tup [D.v (V.str []),di 48])/\D.tup [D.v (V.agg [vi (wrap IntKind.i64 (wrap IntKind.i64 (wrap IntKind.i64 (0+1)+1)+1)),vi 0,vi 0,V.list []]),db false]=D.tup [dQ (Qst.mk 3 0 zeroV),db (false&&u==s)]) ?_
  simp only[w01,w12,w23]
  repeat' first|with_reducible refine And.intro ?_ ?_
  all_goals first|exact hc|exact ht|rfl|decide
theorem VZ(m:Mod)(t:Typ)(hm:Cx m t)(hP:m.places=[[120]])(s rest:List UInt8)(f:Bool)(hc:Aa PP 57 [ds s,ds [32]] σ0 (.tup [ds CP,ds rest,db f]) σ0):
  Aa PP 34 [Ad m,ds s] σ0 (.tup [dQ ⟨5,0,zeroV⟩,db (rdA m t ⟨5,0,zeroV⟩ s)]) σ0:=by
 have ht:=B7 m t hm (.inl hP) ⟨5,0,zeroV⟩ Du
 unfold txA at ht
 unfold rdA
 generalize txI m ⟨5,0,zeroV⟩=u at ht⊢
 generalize Af m t ⟨5,0,zeroV⟩=b at ht⊢
 clear hm
 obtain⟨mk,ms,mp,ml,mr,mv,ma,mru,mst⟩:=m
 simp only at hP
 subst hP
 cases b with
 |true=>
  refine sv Cn 79 [2] (.c (.tup [ds CP,ds rest,db f])<|.n<|.n<|.n<|.n<|.n<|.n<|.n<|.x (.str [120])<|.n<|.c (.tup [ds u,di 0])<|.r) (F0 57 [D.v (V.str s),D.v (V.str (ByteArray.mk #[32]).data.toList)] (D.tup [D.v (V.str CP),D.v (V.str rest),db f])/\iz 0<=0/\0<(↑7:Int)/\0<=wrap IntKind.i64 (0+1)/\wrap IntKind.i64 (0+1)<(↑7:Int)/\0<=wrap IntKind.i64 (wrap IntKind.i64 (0+1)+1)/\wrap IntKind.i64 (wrap IntKind.i64 (0+1)+1)<(↑7:Int)/\0<=wrap IntKind.i64 (wrap IntKind.i64 (wrap IntKind.i64 (0+1)+1)+1)/\wrap IntKind.i64 (wrap IntKind.i64 (wrap IntKind.i64 (0+1)+1)+1)<(↑7:Int)/\0<=wrap IntKind.i64 (wrap IntKind.i64 (wrap IntKind.i64 (wrap IntKind.i64 (0+1)+1)+1)+1)/\wrap IntKind.i64 (wrap IntKind.i64 (wrap IntKind.i64 (wrap IntKind.i64 (0+1)+1)+1)+1)<(↑7:Int)/\0<=wrap IntKind.i64 (wrap IntKind.i64 (wrap IntKind.i64 (wrap IntKind.i64 (wrap IntKind.i64 (0+1)+1)+1)+1)+1)/\wrap IntKind.i64 (wrap IntKind.i64 (wrap IntKind.i64 (wrap IntKind.i64 (wrap IntKind.i64 (0+1)+1)+1)+1)+1)<(↑7:Int)/\iz 0<=0/\some (V.str [120])=some (V.str [120])/\F0 9 [D.v (Az (Mod.mk mk ms [[120]] ml mr mv ma mru mst)),D.v (V.agg [vi (wrap IntKind.i64 (wrap IntKind.i64 (wrap IntKind.i64 (wrap IntKind.i64 (wrap IntKind.i64 (0+1)+1)+1)+1)+1)),vi 0,vi 0,V.list []])] (D.tup [D.v (V.str u),di 0])/\D.tup [D.v (V.agg [vi (wrap IntKind.i64 (wrap IntKind.i64 (wrap IntKind.i64 (wrap IntKind.i64 (wrap IntKind.i64 (0+1)+1)+1)+1)+1)),vi 0,vi 0,V.list []]),db (u==s)]=D.tup [dQ (Qst.mk 5 0 zeroV),db (true&&u==s)]) ?_
  simp only[w01,w12,w23,w34,w45]
  repeat' first|with_reducible refine And.intro ?_ ?_
  all_goals first|exact hc|exact ht|rfl|decide
 |false=>
  refine sv Cn 79 [2] (.c (.tup [ds CP,ds rest,db f])<|.n<|.n<|.n<|.n<|.n<|.n<|.n<|.x (.str [120])<|.n<|.c (.tup [ds [],di 48])<|.r) (F0 57 [D.v (V.str s),D.v (V.str (ByteArray.mk #[32]).data.toList)] (D.tup [D.v (V.str CP),D.v (V.str rest),db f])/\iz 0<=0/\0<(↑7:Int)/\0<=wrap IntKind.i64 (0+1)/\wrap IntKind.i64 (0+1)<(↑7:Int)/\0<=wrap IntKind.i64 (wrap IntKind.i64 (0+1)+1)/\wrap IntKind.i64 (wrap IntKind.i64 (0+1)+1)<(↑7:Int)/\0<=wrap IntKind.i64 (wrap IntKind.i64 (wrap IntKind.i64 (0+1)+1)+1)/\wrap IntKind.i64 (wrap IntKind.i64 (wrap IntKind.i64 (0+1)+1)+1)<(↑7:Int)/\0<=wrap IntKind.i64 (wrap IntKind.i64 (wrap IntKind.i64 (wrap IntKind.i64 (0+1)+1)+1)+1)/\wrap IntKind.i64 (wrap IntKind.i64 (wrap IntKind.i64 (wrap IntKind.i64 (0+1)+1)+1)+1)<(↑7:Int)/\0<=wrap IntKind.i64 (wrap IntKind.i64 (wrap IntKind.i64 (wrap IntKind.i64 (wrap IntKind.i64 (0+1)+1)+1)+1)+1)/\wrap IntKind.i64 (wrap IntKind.i64 (wrap IntKind.i64 (wrap IntKind.i64 (wrap IntKind.i64 (0+1)+1)+1)+1)+1)<(↑7:Int)/\iz 0<=0/\some (V.str [120])=some (V.str [120])/\F0 9 [D.v (Az (Mod.mk mk ms [[120]] ml mr mv ma mru mst)),D.v (V.agg [vi (wrap IntKind.i64 (wrap IntKind.i64 (wrap IntKind.i64 (wrap IntKind.i64 (wrap IntKind.i64 (0+1)+1)+1)+1)+1)),vi 0,vi 0,V.list []])] (D.tup [D.v (V.str []),di 48])/\D.tup [D.v (V.agg [vi (wrap IntKind.i64 (wrap IntKind.i64 (wrap IntKind.i64 (wrap IntKind.i64 (wrap IntKind.i64 (0+1)+1)+1)+1)+1)),vi 0,vi 0,V.list []]),db false]=D.tup [dQ (Qst.mk 5 0 zeroV),db (false&&u==s)]) ?_
  simp only[w01,w12,w23,w34,w45]
  repeat' first|with_reducible refine And.intro ?_ ?_
  all_goals first|exact hc|exact ht|rfl|decide
theorem VY(m:Mod)(t:Typ)(hm:Cx m t)(hP:m.places=[[120],[121]])(s rest:List UInt8)(f:Bool)(hc:Aa PP 57 [ds s,ds [32]] σ0 (.tup [ds CP,ds rest,db f]) σ0):
  Aa PP 34 [Ad m,ds s] σ0 (.tup [dQ ⟨5,0,zeroV⟩,db (rdA m t ⟨5,0,zeroV⟩ s)]) σ0:=by
 have ht:=B7 m t hm (.inr hP) ⟨5,0,zeroV⟩ Du
 unfold txA at ht
 unfold rdA
 generalize txI m ⟨5,0,zeroV⟩=u at ht⊢
 generalize Af m t ⟨5,0,zeroV⟩=b at ht⊢
 clear hm
 obtain⟨mk,ms,mp,ml,mr,mv,ma,mru,mst⟩:=m
 simp only at hP
 subst hP
 cases b with
 |true=>
  refine sv Cn 79 [2] (.c (.tup [ds CP,ds rest,db f])<|.n<|.n<|.n<|.n<|.n<|.n<|.n<|.x (.str [120])<|.n<|.x (.str [121])<|.n<|.c (.tup [ds u,di 0])<|.r) (F0 57 [D.v (V.str s),D.v (V.str (ByteArray.mk #[32]).data.toList)] (D.tup [D.v (V.str CP),D.v (V.str rest),db f])/\iz 0<=0/\0<(↑7:Int)/\0<=wrap IntKind.i64 (0+1)/\wrap IntKind.i64 (0+1)<(↑7:Int)/\0<=wrap IntKind.i64 (wrap IntKind.i64 (0+1)+1)/\wrap IntKind.i64 (wrap IntKind.i64 (0+1)+1)<(↑7:Int)/\0<=wrap IntKind.i64 (wrap IntKind.i64 (wrap IntKind.i64 (0+1)+1)+1)/\wrap IntKind.i64 (wrap IntKind.i64 (wrap IntKind.i64 (0+1)+1)+1)<(↑7:Int)/\0<=wrap IntKind.i64 (wrap IntKind.i64 (wrap IntKind.i64 (wrap IntKind.i64 (0+1)+1)+1)+1)/\wrap IntKind.i64 (wrap IntKind.i64 (wrap IntKind.i64 (wrap IntKind.i64 (0+1)+1)+1)+1)<(↑7:Int)/\0<=wrap IntKind.i64 (wrap IntKind.i64 (wrap IntKind.i64 (wrap IntKind.i64 (wrap IntKind.i64 (0+1)+1)+1)+1)+1)/\wrap IntKind.i64 (wrap IntKind.i64 (wrap IntKind.i64 (wrap IntKind.i64 (wrap IntKind.i64 (0+1)+1)+1)+1)+1)<(↑7:Int)/\iz 0<=0/\some (V.str [120])=some (V.str [120])/\0<=wrap IntKind.i64 (0+1)/\some (V.str [121])=some (V.str [121])/\F0 9 [D.v (Az (Mod.mk mk ms [[120],[121]] ml mr mv ma mru mst)),D.v (V.agg [vi (wrap IntKind.i64 (wrap IntKind.i64 (wrap IntKind.i64 (wrap IntKind.i64 (wrap IntKind.i64 (0+1)+1)+1)+1)+1)),vi 0,vi 0,V.list []])] (D.tup [D.v (V.str u),di 0])/\D.tup [D.v (V.agg [vi (wrap IntKind.i64 (wrap IntKind.i64 (wrap IntKind.i64 (wrap IntKind.i64 (wrap IntKind.i64 (0+1)+1)+1)+1)+1)),vi 0,vi 0,V.list []]),db (u==s)]=D.tup [dQ (Qst.mk 5 0 zeroV),db (true&&u==s)]) ?_
  simp only[w01,w12,w23,w34,w45]
  repeat' first|with_reducible refine And.intro ?_ ?_
  all_goals first|exact hc|exact ht|rfl|decide
 |false=>
  refine sv Cn 79 [2] (.c (.tup [ds CP,ds rest,db f])<|.n<|.n<|.n<|.n<|.n<|.n<|.n<|.x (.str [120])<|.n<|.x (.str [121])<|.n<|.c (.tup [ds [],di 48])<|.r) (F0 57 [D.v (V.str s),D.v (V.str (ByteArray.mk #[32]).data.toList)] (D.tup [D.v (V.str CP),D.v (V.str rest),db f])/\iz 0<=0/\0<(↑7:Int)/\0<=wrap IntKind.i64 (0+1)/\wrap IntKind.i64 (0+1)<(↑7:Int)/\0<=wrap IntKind.i64 (wrap IntKind.i64 (0+1)+1)/\wrap IntKind.i64 (wrap IntKind.i64 (0+1)+1)<(↑7:Int)/\0<=wrap IntKind.i64 (wrap IntKind.i64 (wrap IntKind.i64 (0+1)+1)+1)/\wrap IntKind.i64 (wrap IntKind.i64 (wrap IntKind.i64 (0+1)+1)+1)<(↑7:Int)/\0<=wrap IntKind.i64 (wrap IntKind.i64 (wrap IntKind.i64 (wrap IntKind.i64 (0+1)+1)+1)+1)/\wrap IntKind.i64 (wrap IntKind.i64 (wrap IntKind.i64 (wrap IntKind.i64 (0+1)+1)+1)+1)<(↑7:Int)/\0<=wrap IntKind.i64 (wrap IntKind.i64 (wrap IntKind.i64 (wrap IntKind.i64 (wrap IntKind.i64 (0+1)+1)+1)+1)+1)/\wrap IntKind.i64 (wrap IntKind.i64 (wrap IntKind.i64 (wrap IntKind.i64 (wrap IntKind.i64 (0+1)+1)+1)+1)+1)<(↑7:Int)/\iz 0<=0/\some (V.str [120])=some (V.str [120])/\0<=wrap IntKind.i64 (0+1)/\some (V.str [121])=some (V.str [121])/\F0 9 [D.v (Az (Mod.mk mk ms [[120],[121]] ml mr mv ma mru mst)),D.v (V.agg [vi (wrap IntKind.i64 (wrap IntKind.i64 (wrap IntKind.i64 (wrap IntKind.i64 (wrap IntKind.i64 (0+1)+1)+1)+1)+1)),vi 0,vi 0,V.list []])] (D.tup [D.v (V.str []),di 48])/\D.tup [D.v (V.agg [vi (wrap IntKind.i64 (wrap IntKind.i64 (wrap IntKind.i64 (wrap IntKind.i64 (wrap IntKind.i64 (0+1)+1)+1)+1)+1)),vi 0,vi 0,V.list []]),db false]=D.tup [dQ (Qst.mk 5 0 zeroV),db (false&&u==s)]) ?_
  simp only[w01,w12,w23,w34,w45]
  repeat' first|with_reducible refine And.intro ?_ ?_
  all_goals first|exact hc|exact ht|rfl|decide
theorem VX(m:Mod)(t:Typ)(hm:Cx m t)(hP:m.places=[[120]])(s rest:List UInt8)(f:Bool)(hc:Aa PP 57 [ds s,ds [32]] σ0 (.tup [ds CO,ds rest,db f]) σ0):
  Aa PP 34 [Ad m,ds s] σ0 (.tup [dQ ⟨6,0,zeroV⟩,db (rdA m t ⟨6,0,zeroV⟩ s)]) σ0:=by
 have ht:=B7 m t hm (.inl hP) ⟨6,0,zeroV⟩ Du
 unfold txA at ht
 unfold rdA
 generalize txI m ⟨6,0,zeroV⟩=u at ht⊢
 generalize Af m t ⟨6,0,zeroV⟩=b at ht⊢
 clear hm
 obtain⟨mk,ms,mp,ml,mr,mv,ma,mru,mst⟩:=m
 simp only at hP
 subst hP
 cases b with
 |true=>
  refine sv Cn 79 [2] (.c (.tup [ds CO,ds rest,db f])<|.n<|.n<|.n<|.n<|.n<|.n<|.n<|.n<|.x (.str [120])<|.n<|.c (.tup [ds u,di 0])<|.r) (F0 57 [D.v (V.str s),D.v (V.str (ByteArray.mk #[32]).data.toList)] (D.tup [D.v (V.str CO),D.v (V.str rest),db f])/\iz 0<=0/\0<(↑7:Int)/\0<=wrap IntKind.i64 (0+1)/\wrap IntKind.i64 (0+1)<(↑7:Int)/\0<=wrap IntKind.i64 (wrap IntKind.i64 (0+1)+1)/\wrap IntKind.i64 (wrap IntKind.i64 (0+1)+1)<(↑7:Int)/\0<=wrap IntKind.i64 (wrap IntKind.i64 (wrap IntKind.i64 (0+1)+1)+1)/\wrap IntKind.i64 (wrap IntKind.i64 (wrap IntKind.i64 (0+1)+1)+1)<(↑7:Int)/\0<=wrap IntKind.i64 (wrap IntKind.i64 (wrap IntKind.i64 (wrap IntKind.i64 (0+1)+1)+1)+1)/\wrap IntKind.i64 (wrap IntKind.i64 (wrap IntKind.i64 (wrap IntKind.i64 (0+1)+1)+1)+1)<(↑7:Int)/\0<=wrap IntKind.i64 (wrap IntKind.i64 (wrap IntKind.i64 (wrap IntKind.i64 (wrap IntKind.i64 (0+1)+1)+1)+1)+1)/\wrap IntKind.i64 (wrap IntKind.i64 (wrap IntKind.i64 (wrap IntKind.i64 (wrap IntKind.i64 (0+1)+1)+1)+1)+1)<(↑7:Int)/\0<=wrap IntKind.i64 (wrap IntKind.i64 (wrap IntKind.i64 (wrap IntKind.i64 (wrap IntKind.i64 (wrap IntKind.i64 (0+1)+1)+1)+1)+1)+1)/\wrap IntKind.i64 (wrap IntKind.i64 (wrap IntKind.i64 (wrap IntKind.i64 (wrap IntKind.i64 (wrap IntKind.i64 (0+1)+1)+1)+1)+1)+1)<(↑7:Int)/\iz 0<=0/\some (V.str [120])=some (V.str [120])/\F0 9 [D.v (Az (Mod.mk mk ms [[120]] ml mr mv ma mru mst)),D.v (V.agg [vi (wrap IntKind.i64 (wrap IntKind.i64 (wrap IntKind.i64 (wrap IntKind.i64 (wrap IntKind.i64 (wrap IntKind.i64 (0+1)+1)+1)+1)+1)+1)),vi 0,vi 0,V.list []])] (D.tup [D.v (V.str u),di 0])/\D.tup [D.v (V.agg [vi (wrap IntKind.i64 (wrap IntKind.i64 (wrap IntKind.i64 (wrap IntKind.i64 (wrap IntKind.i64 (wrap IntKind.i64 (0+1)+1)+1)+1)+1)+1)),vi 0,vi 0,V.list []]),db (u==s)]=D.tup [dQ (Qst.mk 6 0 zeroV),db (true&&u==s)]) ?_
  simp only[w01,w12,w23,w34,w45,w56]
  repeat' first|with_reducible refine And.intro ?_ ?_
  all_goals first|exact hc|exact ht|rfl|decide
 |false=>
  refine sv Cn 79 [2] (.c (.tup [ds CO,ds rest,db f])<|.n<|.n<|.n<|.n<|.n<|.n<|.n<|.n<|.x (.str [120])<|.n<|.c (.tup [ds [],di 48])<|.r) (F0 57 [D.v (V.str s),D.v (V.str (ByteArray.mk #[32]).data.toList)] (D.tup [D.v (V.str CO),D.v (V.str rest),db f])/\iz 0<=0/\0<(↑7:Int)/\0<=wrap IntKind.i64 (0+1)/\wrap IntKind.i64 (0+1)<(↑7:Int)/\0<=wrap IntKind.i64 (wrap IntKind.i64 (0+1)+1)/\wrap IntKind.i64 (wrap IntKind.i64 (0+1)+1)<(↑7:Int)/\0<=wrap IntKind.i64 (wrap IntKind.i64 (wrap IntKind.i64 (0+1)+1)+1)/\wrap IntKind.i64 (wrap IntKind.i64 (wrap IntKind.i64 (0+1)+1)+1)<(↑7:Int)/\0<=wrap IntKind.i64 (wrap IntKind.i64 (wrap IntKind.i64 (wrap IntKind.i64 (0+1)+1)+1)+1)/\wrap IntKind.i64 (wrap IntKind.i64 (wrap IntKind.i64 (wrap IntKind.i64 (0+1)+1)+1)+1)<(↑7:Int)/\0<=wrap IntKind.i64 (wrap IntKind.i64 (wrap IntKind.i64 (wrap IntKind.i64 (wrap IntKind.i64 (0+1)+1)+1)+1)+1)/\wrap IntKind.i64 (wrap IntKind.i64 (wrap IntKind.i64 (wrap IntKind.i64 (wrap IntKind.i64 (0+1)+1)+1)+1)+1)<(↑7:Int)/\0<=wrap IntKind.i64 (wrap IntKind.i64 (wrap IntKind.i64 (wrap IntKind.i64 (wrap IntKind.i64 (wrap IntKind.i64 (0+1)+1)+1)+1)+1)+1)/\wrap IntKind.i64 (wrap IntKind.i64 (wrap IntKind.i64 (wrap IntKind.i64 (wrap IntKind.i64 (wrap IntKind.i64 (0+1)+1)+1)+1)+1)+1)<(↑7:Int)/\iz 0<=0/\some (V.str [120])=some (V.str [120])/\F0 9 [D.v (Az (Mod.mk mk ms [[120]] ml mr mv ma mru mst)),D.v (V.agg [vi (wrap IntKind.i64 (wrap IntKind.i64 (wrap IntKind.i64 (wrap IntKind.i64 (wrap IntKind.i64 (wrap IntKind.i64 (0+1)+1)+1)+1)+1)+1)),vi 0,vi 0,V.list []])] (D.tup [D.v (V.str []),di 48])/\D.tup [D.v (V.agg [vi (wrap IntKind.i64 (wrap IntKind.i64 (wrap IntKind.i64 (wrap IntKind.i64 (wrap IntKind.i64 (wrap IntKind.i64 (0+1)+1)+1)+1)+1)+1)),vi 0,vi 0,V.list []]),db false]=D.tup [dQ (Qst.mk 6 0 zeroV),db (false&&u==s)]) ?_
  simp only[w01,w12,w23,w34,w45,w56]
  repeat' first|with_reducible refine And.intro ?_ ?_
  all_goals first|exact hc|exact ht|rfl|decide
theorem VW(m:Mod)(t:Typ)(hm:Cx m t)(hP:m.places=[[120],[121]])(s rest:List UInt8)(f:Bool)(hc:Aa PP 57 [ds s,ds [32]] σ0 (.tup [ds CO,ds rest,db f]) σ0):
  Aa PP 34 [Ad m,ds s] σ0 (.tup [dQ ⟨6,0,zeroV⟩,db (rdA m t ⟨6,0,zeroV⟩ s)]) σ0:=by
 have ht:=B7 m t hm (.inr hP) ⟨6,0,zeroV⟩ Du
 unfold txA at ht
 unfold rdA
 generalize txI m ⟨6,0,zeroV⟩=u at ht⊢
 generalize Af m t ⟨6,0,zeroV⟩=b at ht⊢
 clear hm
 obtain⟨mk,ms,mp,ml,mr,mv,ma,mru,mst⟩:=m
 simp only at hP
 subst hP
 cases b with
 |true=>
  refine sv Cn 79 [2] (.c (.tup [ds CO,ds rest,db f])<|.n<|.n<|.n<|.n<|.n<|.n<|.n<|.n<|.x (.str [120])<|.n<|.x (.str [121])<|.n<|.c (.tup [ds u,di 0])<|.r) (F0 57 [D.v (V.str s),D.v (V.str (ByteArray.mk #[32]).data.toList)] (D.tup [D.v (V.str CO),D.v (V.str rest),db f])/\iz 0<=0/\0<(↑7:Int)/\0<=wrap IntKind.i64 (0+1)/\wrap IntKind.i64 (0+1)<(↑7:Int)/\0<=wrap IntKind.i64 (wrap IntKind.i64 (0+1)+1)/\wrap IntKind.i64 (wrap IntKind.i64 (0+1)+1)<(↑7:Int)/\0<=wrap IntKind.i64 (wrap IntKind.i64 (wrap IntKind.i64 (0+1)+1)+1)/\wrap IntKind.i64 (wrap IntKind.i64 (wrap IntKind.i64 (0+1)+1)+1)<(↑7:Int)/\0<=wrap IntKind.i64 (wrap IntKind.i64 (wrap IntKind.i64 (wrap IntKind.i64 (0+1)+1)+1)+1)/\wrap IntKind.i64 (wrap IntKind.i64 (wrap IntKind.i64 (wrap IntKind.i64 (0+1)+1)+1)+1)<(↑7:Int)/\0<=wrap IntKind.i64 (wrap IntKind.i64 (wrap IntKind.i64 (wrap IntKind.i64 (wrap IntKind.i64 (0+1)+1)+1)+1)+1)/\wrap IntKind.i64 (wrap IntKind.i64 (wrap IntKind.i64 (wrap IntKind.i64 (wrap IntKind.i64 (0+1)+1)+1)+1)+1)<(↑7:Int)/\0<=wrap IntKind.i64 (wrap IntKind.i64 (wrap IntKind.i64 (wrap IntKind.i64 (wrap IntKind.i64 (wrap IntKind.i64 (0+1)+1)+1)+1)+1)+1)/\wrap IntKind.i64 (wrap IntKind.i64 (wrap IntKind.i64 (wrap IntKind.i64 (wrap IntKind.i64 (wrap IntKind.i64 (0+1)+1)+1)+1)+1)+1)<(↑7:Int)/\iz 0<=0/\some (V.str [120])=some (V.str [120])/\0<=wrap IntKind.i64 (0+1)/\some (V.str [121])=some (V.str [121])/\F0 9 [D.v (Az (Mod.mk mk ms [[120],[121]] ml mr mv ma mru mst)),D.v (V.agg [vi (wrap IntKind.i64 (wrap IntKind.i64 (wrap IntKind.i64 (wrap IntKind.i64 (wrap IntKind.i64 (wrap IntKind.i64 (0+1)+1)+1)+1)+1)+1)),vi 0,vi 0,V.list []])] (D.tup [D.v (V.str u),di 0])/\D.tup [D.v (V.agg [vi (wrap IntKind.i64 (wrap IntKind.i64 (wrap IntKind.i64 (wrap IntKind.i64 (wrap IntKind.i64 (wrap IntKind.i64 (0+1)+1)+1)+1)+1)+1)),vi 0,vi 0,V.list []]),db (u==s)]=D.tup [dQ (Qst.mk 6 0 zeroV),db (true&&u==s)]) ?_
  simp only[w01,w12,w23,w34,w45,w56]
  repeat' first|with_reducible refine And.intro ?_ ?_
  all_goals first|exact hc|exact ht|rfl|decide
 |false=>
  refine sv Cn 79 [2] (.c (.tup [ds CO,ds rest,db f])<|.n<|.n<|.n<|.n<|.n<|.n<|.n<|.n<|.x (.str [120])<|.n<|.x (.str [121])<|.n<|.c (.tup [ds [],di 48])<|.r) (F0 57 [D.v (V.str s),D.v (V.str (ByteArray.mk #[32]).data.toList)] (D.tup [D.v (V.str CO),D.v (V.str rest),db f])/\iz 0<=0/\0<(↑7:Int)/\0<=wrap IntKind.i64 (0+1)/\wrap IntKind.i64 (0+1)<(↑7:Int)/\0<=wrap IntKind.i64 (wrap IntKind.i64 (0+1)+1)/\wrap IntKind.i64 (wrap IntKind.i64 (0+1)+1)<(↑7:Int)/\0<=wrap IntKind.i64 (wrap IntKind.i64 (wrap IntKind.i64 (0+1)+1)+1)/\wrap IntKind.i64 (wrap IntKind.i64 (wrap IntKind.i64 (0+1)+1)+1)<(↑7:Int)/\0<=wrap IntKind.i64 (wrap IntKind.i64 (wrap IntKind.i64 (wrap IntKind.i64 (0+1)+1)+1)+1)/\wrap IntKind.i64 (wrap IntKind.i64 (wrap IntKind.i64 (wrap IntKind.i64 (0+1)+1)+1)+1)<(↑7:Int)/\0<=wrap IntKind.i64 (wrap IntKind.i64 (wrap IntKind.i64 (wrap IntKind.i64 (wrap IntKind.i64 (0+1)+1)+1)+1)+1)/\wrap IntKind.i64 (wrap IntKind.i64 (wrap IntKind.i64 (wrap IntKind.i64 (wrap IntKind.i64 (0+1)+1)+1)+1)+1)<(↑7:Int)/\0<=wrap IntKind.i64 (wrap IntKind.i64 (wrap IntKind.i64 (wrap IntKind.i64 (wrap IntKind.i64 (wrap IntKind.i64 (0+1)+1)+1)+1)+1)+1)/\wrap IntKind.i64 (wrap IntKind.i64 (wrap IntKind.i64 (wrap IntKind.i64 (wrap IntKind.i64 (wrap IntKind.i64 (0+1)+1)+1)+1)+1)+1)<(↑7:Int)/\iz 0<=0/\some (V.str [120])=some (V.str [120])/\0<=wrap IntKind.i64 (0+1)/\some (V.str [121])=some (V.str [121])/\F0 9 [D.v (Az (Mod.mk mk ms [[120],[121]] ml mr mv ma mru mst)),D.v (V.agg [vi (wrap IntKind.i64 (wrap IntKind.i64 (wrap IntKind.i64 (wrap IntKind.i64 (wrap IntKind.i64 (wrap IntKind.i64 (0+1)+1)+1)+1)+1)+1)),vi 0,vi 0,V.list []])] (D.tup [D.v (V.str []),di 48])/\D.tup [D.v (V.agg [vi (wrap IntKind.i64 (wrap IntKind.i64 (wrap IntKind.i64 (wrap IntKind.i64 (wrap IntKind.i64 (wrap IntKind.i64 (0+1)+1)+1)+1)+1)+1)),vi 0,vi 0,V.list []]),db false]=D.tup [dQ (Qst.mk 6 0 zeroV),db (false&&u==s)]) ?_
  simp only[w01,w12,w23,w34,w45,w56]
  repeat' first|with_reducible refine And.intro ?_ ?_
  all_goals first|exact hc|exact ht|rfl|decide
theorem NN(m:Mod)(t:Typ)(hm:Cx m t)(hP:m.places=[[120]])(s:List UInt8)(f:Bool)(hc:Aa PP 57 [ds s,ds [32]] σ0 (.tup [ds A0,ds [120],db f]) σ0):
  Aa PP 34 [Ad m,ds s] σ0 (.tup [dQ ⟨4,0,zeroV⟩,db (rdA m t ⟨4,0,zeroV⟩ s)]) σ0:=by
 have ht:=B7 m t hm (.inl hP) ⟨4,0,zeroV⟩ Du
 unfold txA at ht
 unfold rdA
 generalize txI m ⟨4,0,zeroV⟩=u at ht⊢
 generalize Af m t ⟨4,0,zeroV⟩=b at ht⊢
 clear hm
 obtain⟨mk,ms,mp,ml,mr,mv,ma,mru,mst⟩:=m
 simp only at hP
 subst hP
 cases b with
 |true=>
  refine sv Cn 79 [2] (.c (.tup [ds A0,ds [120],db f])<|.n<|.n<|.n<|.n<|.n<|.n<|.x (.str [120])<|.n<|.c (.tup [ds u,di 0])<|.r) (F0 57 [D.v (V.str s),D.v (V.str (ByteArray.mk #[32]).data.toList)] (D.tup [D.v (V.str A0),D.v (V.str [120]),db f])/\iz 0<=0/\0<(↑7:Int)/\0<=wrap IntKind.i64 (0+1)/\wrap IntKind.i64 (0+1)<(↑7:Int)/\0<=wrap IntKind.i64 (wrap IntKind.i64 (0+1)+1)/\wrap IntKind.i64 (wrap IntKind.i64 (0+1)+1)<(↑7:Int)/\0<=wrap IntKind.i64 (wrap IntKind.i64 (wrap IntKind.i64 (0+1)+1)+1)/\wrap IntKind.i64 (wrap IntKind.i64 (wrap IntKind.i64 (0+1)+1)+1)<(↑7:Int)/\0<=wrap IntKind.i64 (wrap IntKind.i64 (wrap IntKind.i64 (wrap IntKind.i64 (0+1)+1)+1)+1)/\wrap IntKind.i64 (wrap IntKind.i64 (wrap IntKind.i64 (wrap IntKind.i64 (0+1)+1)+1)+1)<(↑7:Int)/\iz 0<=0/\some (V.str [120])=some (V.str [120])/\F0 9 [D.v (Az (Mod.mk mk ms [[120]] ml mr mv ma mru mst)),D.v (V.agg [vi (wrap IntKind.i64 (wrap IntKind.i64 (wrap IntKind.i64 (wrap IntKind.i64 (0+1)+1)+1)+1)),vi 0,vi 0,V.list []])] (D.tup [D.v (V.str u),di 0])/\D.tup [D.v (V.agg [vi (wrap IntKind.i64 (wrap IntKind.i64 (wrap IntKind.i64 (wrap IntKind.i64 (0+1)+1)+1)+1)),vi 0,vi 0,V.list []]),db (u==s)]=D.tup [dQ (Qst.mk 4 0 zeroV),db (true&&u==s)]) ?_
  simp only[w01,w12,w23,w34]
  repeat' first|with_reducible refine And.intro ?_ ?_
  all_goals first|exact hc|exact ht|rfl|decide
 |false=>
  refine sv Cn 79 [2] (.c (.tup [ds A0,ds [120],db f])<|.n<|.n<|.n<|.n<|.n<|.n<|.x (.str [120])<|.n<|.c (.tup [ds [],di 48])<|.r) (F0 57 [D.v (V.str s),D.v (V.str (ByteArray.mk #[32]).data.toList)] (D.tup [D.v (V.str A0),D.v (V.str [120]),db f])/\iz 0<=0/\0<(↑7:Int)/\0<=wrap IntKind.i64 (0+1)/\wrap IntKind.i64 (0+1)<(↑7:Int)/\0<=wrap IntKind.i64 (wrap IntKind.i64 (0+1)+1)/\wrap IntKind.i64 (wrap IntKind.i64 (0+1)+1)<(↑7:Int)/\0<=wrap IntKind.i64 (wrap IntKind.i64 (wrap IntKind.i64 (0+1)+1)+1)/\wrap IntKind.i64 (wrap IntKind.i64 (wrap IntKind.i64 (0+1)+1)+1)<(↑7:Int)/\0<=wrap IntKind.i64 (wrap IntKind.i64 (wrap IntKind.i64 (wrap IntKind.i64 (0+1)+1)+1)+1)/\wrap IntKind.i64 (wrap IntKind.i64 (wrap IntKind.i64 (wrap IntKind.i64 (0+1)+1)+1)+1)<(↑7:Int)/\iz 0<=0/\some (V.str [120])=some (V.str [120])/\F0 9 [D.v (Az (Mod.mk mk ms [[120]] ml mr mv ma mru mst)),D.v (V.agg [vi (wrap IntKind.i64 (wrap IntKind.i64 (wrap IntKind.i64 (wrap IntKind.i64 (0+1)+1)+1)+1)),vi 0,vi 0,V.list []])] (D.tup [D.v (V.str []),di 48])/\D.tup [D.v (V.agg [vi (wrap IntKind.i64 (wrap IntKind.i64 (wrap IntKind.i64 (wrap IntKind.i64 (0+1)+1)+1)+1)),vi 0,vi 0,V.list []]),db false]=D.tup [dQ (Qst.mk 4 0 zeroV),db (false&&u==s)]) ?_
  simp only[w01,w12,w23,w34]
  repeat' first|with_reducible refine And.intro ?_ ?_
  all_goals first|exact hc|exact ht|rfl|decide
theorem Us(m:Mod)(t:Typ)(hm:Cx m t)(hP:m.places=[[120]])(s rest:List UInt8)(f:Bool)(hc:Aa PP 57 [ds s,ds [32]] σ0 (.tup [ds A0,ds rest,db f]) σ0)(h0:([120]==rest)=false):
  Aa PP 34 [Ad m,ds s] σ0 (.tup [dQ ⟨4,0,zeroV⟩,db (rdA m t ⟨4,0,zeroV⟩ s)]) σ0:=by
 have ht:=B7 m t hm (.inl hP) ⟨4,0,zeroV⟩ Du
 unfold txA at ht
 unfold rdA
 generalize txI m ⟨4,0,zeroV⟩=u at ht⊢
 generalize Af m t ⟨4,0,zeroV⟩=b at ht⊢
 clear hm
 obtain⟨mk,ms,mp,ml,mr,mv,ma,mru,mst⟩:=m
 simp only at hP
 subst hP
 cases b with
 |true=>
  refine sv Cn 79 [2] (.c (.tup [ds A0,ds rest,db f])<|.n<|.n<|.n<|.n<|.n<|.n<|.x (.str [120])<|.k<|.f<|.n<|.c (.tup [ds u,di 0])<|.r) (F0 57 [D.v (V.str s),D.v (V.str (ByteArray.mk #[32]).data.toList)] (D.tup [D.v (V.str A0),D.v (V.str rest),db f])/\iz 0<=0/\0<(↑7:Int)/\0<=wrap IntKind.i64 (0+1)/\wrap IntKind.i64 (0+1)<(↑7:Int)/\0<=wrap IntKind.i64 (wrap IntKind.i64 (0+1)+1)/\wrap IntKind.i64 (wrap IntKind.i64 (0+1)+1)<(↑7:Int)/\0<=wrap IntKind.i64 (wrap IntKind.i64 (wrap IntKind.i64 (0+1)+1)+1)/\wrap IntKind.i64 (wrap IntKind.i64 (wrap IntKind.i64 (0+1)+1)+1)<(↑7:Int)/\0<=wrap IntKind.i64 (wrap IntKind.i64 (wrap IntKind.i64 (wrap IntKind.i64 (0+1)+1)+1)+1)/\wrap IntKind.i64 (wrap IntKind.i64 (wrap IntKind.i64 (wrap IntKind.i64 (0+1)+1)+1)+1)<(↑7:Int)/\iz 0<=0/\some (V.str [120])=some (V.str [120])/\([120]==rest)=false/\F0 9 [D.v (Az (Mod.mk mk ms [[120]] ml mr mv ma mru mst)),D.v (V.agg [vi (wrap IntKind.i64 (wrap IntKind.i64 (wrap IntKind.i64 (wrap IntKind.i64 (0+1)+1)+1)+1)),vi 0,vi 0,V.list []])] (D.tup [D.v (V.str u),di 0])/\D.tup [D.v (V.agg [vi (wrap IntKind.i64 (wrap IntKind.i64 (wrap IntKind.i64 (wrap IntKind.i64 (0+1)+1)+1)+1)),vi 0,vi 0,V.list []]),db (u==s)]=D.tup [dQ (Qst.mk 4 0 zeroV),db (true&&u==s)]) ?_
  simp only[w01,w12,w23,w34]
  repeat' first|with_reducible refine And.intro ?_ ?_
  all_goals first|exact hc|exact ht|exact h0|rfl|decide
 |false=>
  refine sv Cn 79 [2] (.c (.tup [ds A0,ds rest,db f])<|.n<|.n<|.n<|.n<|.n<|.n<|.x (.str [120])<|.k<|.f<|.n<|.c (.tup [ds [],di 48])<|.r) (F0 57 [D.v (V.str s),D.v (V.str (ByteArray.mk #[32]).data.toList)] (D.tup [D.v (V.str A0),D.v (V.str rest),db f])/\iz 0<=0/\0<(↑7:Int)/\0<=wrap IntKind.i64 (0+1)/\wrap IntKind.i64 (0+1)<(↑7:Int)/\0<=wrap IntKind.i64 (wrap IntKind.i64 (0+1)+1)/\wrap IntKind.i64 (wrap IntKind.i64 (0+1)+1)<(↑7:Int)/\0<=wrap IntKind.i64 (wrap IntKind.i64 (wrap IntKind.i64 (0+1)+1)+1)/\wrap IntKind.i64 (wrap IntKind.i64 (wrap IntKind.i64 (0+1)+1)+1)<(↑7:Int)/\0<=wrap IntKind.i64 (wrap IntKind.i64 (wrap IntKind.i64 (wrap IntKind.i64 (0+1)+1)+1)+1)/\wrap IntKind.i64 (wrap IntKind.i64 (wrap IntKind.i64 (wrap IntKind.i64 (0+1)+1)+1)+1)<(↑7:Int)/\iz 0<=0/\some (V.str [120])=some (V.str [120])/\([120]==rest)=false/\F0 9 [D.v (Az (Mod.mk mk ms [[120]] ml mr mv ma mru mst)),D.v (V.agg [vi (wrap IntKind.i64 (wrap IntKind.i64 (wrap IntKind.i64 (wrap IntKind.i64 (0+1)+1)+1)+1)),vi 0,vi 0,V.list []])] (D.tup [D.v (V.str []),di 48])/\D.tup [D.v (V.agg [vi (wrap IntKind.i64 (wrap IntKind.i64 (wrap IntKind.i64 (wrap IntKind.i64 (0+1)+1)+1)+1)),vi 0,vi 0,V.list []]),db false]=D.tup [dQ (Qst.mk 4 0 zeroV),db (false&&u==s)]) ?_
  simp only[w01,w12,w23,w34]
  repeat' first|with_reducible refine And.intro ?_ ?_
  all_goals first|exact hc|exact ht|exact h0|rfl|decide
theorem NM(m:Mod)(t:Typ)(hm:Cx m t)(hP:m.places=[[120],[121]])(s:List UInt8)(f:Bool)(hc:Aa PP 57 [ds s,ds [32]] σ0 (.tup [ds A0,ds [120],db f]) σ0):
  Aa PP 34 [Ad m,ds s] σ0 (.tup [dQ ⟨4,0,zeroV⟩,db (rdA m t ⟨4,0,zeroV⟩ s)]) σ0:=by
 have ht:=B7 m t hm (.inr hP) ⟨4,0,zeroV⟩ Du
 unfold txA at ht
 unfold rdA
 generalize txI m ⟨4,0,zeroV⟩=u at ht⊢
 generalize Af m t ⟨4,0,zeroV⟩=b at ht⊢
 clear hm
 obtain⟨mk,ms,mp,ml,mr,mv,ma,mru,mst⟩:=m
 simp only at hP
 subst hP
 cases b with
 |true=>
  refine sv Cn 79 [2] (.c (.tup [ds A0,ds [120],db f])<|.n<|.n<|.n<|.n<|.n<|.n<|.x (.str [120])<|.n<|.x (.str [121])<|.n<|.c (.tup [ds u,di 0])<|.r) (F0 57 [D.v (V.str s),D.v (V.str (ByteArray.mk #[32]).data.toList)] (D.tup [D.v (V.str A0),D.v (V.str [120]),db f])/\iz 0<=0/\0<(↑7:Int)/\0<=wrap IntKind.i64 (0+1)/\wrap IntKind.i64 (0+1)<(↑7:Int)/\0<=wrap IntKind.i64 (wrap IntKind.i64 (0+1)+1)/\wrap IntKind.i64 (wrap IntKind.i64 (0+1)+1)<(↑7:Int)/\0<=wrap IntKind.i64 (wrap IntKind.i64 (wrap IntKind.i64 (0+1)+1)+1)/\wrap IntKind.i64 (wrap IntKind.i64 (wrap IntKind.i64 (0+1)+1)+1)<(↑7:Int)/\0<=wrap IntKind.i64 (wrap IntKind.i64 (wrap IntKind.i64 (wrap IntKind.i64 (0+1)+1)+1)+1)/\wrap IntKind.i64 (wrap IntKind.i64 (wrap IntKind.i64 (wrap IntKind.i64 (0+1)+1)+1)+1)<(↑7:Int)/\iz 0<=0/\some (V.str [120])=some (V.str [120])/\0<=wrap IntKind.i64 (0+1)/\some (V.str [121])=some (V.str [121])/\F0 9 [D.v (Az (Mod.mk mk ms [[120],[121]] ml mr mv ma mru mst)),D.v (V.agg [vi (wrap IntKind.i64 (wrap IntKind.i64 (wrap IntKind.i64 (wrap IntKind.i64 (0+1)+1)+1)+1)),vi 0,vi 0,V.list []])] (D.tup [D.v (V.str u),di 0])/\D.tup [D.v (V.agg [vi (wrap IntKind.i64 (wrap IntKind.i64 (wrap IntKind.i64 (wrap IntKind.i64 (0+1)+1)+1)+1)),vi 0,vi 0,V.list []]),db (u==s)]=D.tup [dQ (Qst.mk 4 0 zeroV),db (true&&u==s)]) ?_
  simp only[w01,w12,w23,w34]
  repeat' first|with_reducible refine And.intro ?_ ?_
  all_goals first|exact hc|exact ht|rfl|decide
 |false=>
  refine sv Cn 79 [2] (.c (.tup [ds A0,ds [120],db f])<|.n<|.n<|.n<|.n<|.n<|.n<|.x (.str [120])<|.n<|.x (.str [121])<|.n<|.c (.tup [ds [],di 48])<|.r) (F0 57 [D.v (V.str s),D.v (V.str (ByteArray.mk #[32]).data.toList)] (D.tup [D.v (V.str A0),D.v (V.str [120]),db f])/\iz 0<=0/\0<(↑7:Int)/\0<=wrap IntKind.i64 (0+1)/\wrap IntKind.i64 (0+1)<(↑7:Int)/\0<=wrap IntKind.i64 (wrap IntKind.i64 (0+1)+1)/\wrap IntKind.i64 (wrap IntKind.i64 (0+1)+1)<(↑7:Int)/\0<=wrap IntKind.i64 (wrap IntKind.i64 (wrap IntKind.i64 (0+1)+1)+1)/\wrap IntKind.i64 (wrap IntKind.i64 (wrap IntKind.i64 (0+1)+1)+1)<(↑7:Int)/\0<=wrap IntKind.i64 (wrap IntKind.i64 (wrap IntKind.i64 (wrap IntKind.i64 (0+1)+1)+1)+1)/\wrap IntKind.i64 (wrap IntKind.i64 (wrap IntKind.i64 (wrap IntKind.i64 (0+1)+1)+1)+1)<(↑7:Int)/\iz 0<=0/\some (V.str [120])=some (V.str [120])/\0<=wrap IntKind.i64 (0+1)/\some (V.str [121])=some (V.str [121])/\F0 9 [D.v (Az (Mod.mk mk ms [[120],[121]] ml mr mv ma mru mst)),D.v (V.agg [vi (wrap IntKind.i64 (wrap IntKind.i64 (wrap IntKind.i64 (wrap IntKind.i64 (0+1)+1)+1)+1)),vi 0,vi 0,V.list []])] (D.tup [D.v (V.str []),di 48])/\D.tup [D.v (V.agg [vi (wrap IntKind.i64 (wrap IntKind.i64 (wrap IntKind.i64 (wrap IntKind.i64 (0+1)+1)+1)+1)),vi 0,vi 0,V.list []]),db false]=D.tup [dQ (Qst.mk 4 0 zeroV),db (false&&u==s)]) ?_
  simp only[w01,w12,w23,w34]
  repeat' first|with_reducible refine And.intro ?_ ?_
  all_goals first|exact hc|exact ht|rfl|decide
theorem NL(m:Mod)(t:Typ)(hm:Cx m t)(hP:m.places=[[120],[121]])(s:List UInt8)(f:Bool)(hc:Aa PP 57 [ds s,ds [32]] σ0 (.tup [ds A0,ds [121],db f]) σ0):
  Aa PP 34 [Ad m,ds s] σ0 (.tup [dQ ⟨4,1,zeroV⟩,db (rdA m t ⟨4,1,zeroV⟩ s)]) σ0:=by
 have ht:=B7 m t hm (.inr hP) ⟨4,1,zeroV⟩ Du
 unfold txA at ht
 unfold rdA
 generalize txI m ⟨4,1,zeroV⟩=u at ht⊢
 generalize Af m t ⟨4,1,zeroV⟩=b at ht⊢
 clear hm
 obtain⟨mk,ms,mp,ml,mr,mv,ma,mru,mst⟩:=m
 simp only at hP
 subst hP
 cases b with
 |true=>
  refine sv Cn 79 [2] (.c (.tup [ds A0,ds [121],db f])<|.n<|.n<|.n<|.n<|.n<|.n<|.x (.str [120])<|.n<|.x (.str [121])<|.n<|.c (.tup [ds u,di 0])<|.r) (F0 57 [D.v (V.str s),D.v (V.str (ByteArray.mk #[32]).data.toList)] (D.tup [D.v (V.str A0),D.v (V.str [121]),db f])/\iz 0<=0/\0<(↑7:Int)/\0<=wrap IntKind.i64 (0+1)/\wrap IntKind.i64 (0+1)<(↑7:Int)/\0<=wrap IntKind.i64 (wrap IntKind.i64 (0+1)+1)/\wrap IntKind.i64 (wrap IntKind.i64 (0+1)+1)<(↑7:Int)/\0<=wrap IntKind.i64 (wrap IntKind.i64 (wrap IntKind.i64 (0+1)+1)+1)/\wrap IntKind.i64 (wrap IntKind.i64 (wrap IntKind.i64 (0+1)+1)+1)<(↑7:Int)/\0<=wrap IntKind.i64 (wrap IntKind.i64 (wrap IntKind.i64 (wrap IntKind.i64 (0+1)+1)+1)+1)/\wrap IntKind.i64 (wrap IntKind.i64 (wrap IntKind.i64 (wrap IntKind.i64 (0+1)+1)+1)+1)<(↑7:Int)/\iz 0<=0/\some (V.str [120])=some (V.str [120])/\0<=wrap IntKind.i64 (0+1)/\some (V.str [121])=some (V.str [121])/\F0 9 [D.v (Az (Mod.mk mk ms [[120],[121]] ml mr mv ma mru mst)),D.v (V.agg [vi (wrap IntKind.i64 (wrap IntKind.i64 (wrap IntKind.i64 (wrap IntKind.i64 (0+1)+1)+1)+1)),vi (wrap IntKind.i64 (0+1)),vi 0,V.list []])] (D.tup [D.v (V.str u),di 0])/\D.tup [D.v (V.agg [vi (wrap IntKind.i64 (wrap IntKind.i64 (wrap IntKind.i64 (wrap IntKind.i64 (0+1)+1)+1)+1)),vi (wrap IntKind.i64 (0+1)),vi 0,V.list []]),db (u==s)]=D.tup [dQ (Qst.mk 4 1 zeroV),db (true&&u==s)]) ?_
  simp only[w01,w12,w23,w34]
  repeat' first|with_reducible refine And.intro ?_ ?_
  all_goals first|exact hc|exact ht|rfl|decide
 |false=>
  refine sv Cn 79 [2] (.c (.tup [ds A0,ds [121],db f])<|.n<|.n<|.n<|.n<|.n<|.n<|.x (.str [120])<|.n<|.x (.str [121])<|.n<|.c (.tup [ds [],di 48])<|.r) (F0 57 [D.v (V.str s),D.v (V.str (ByteArray.mk #[32]).data.toList)] (D.tup [D.v (V.str A0),D.v (V.str [121]),db f])/\iz 0<=0/\0<(↑7:Int)/\0<=wrap IntKind.i64 (0+1)/\wrap IntKind.i64 (0+1)<(↑7:Int)/\0<=wrap IntKind.i64 (wrap IntKind.i64 (0+1)+1)/\wrap IntKind.i64 (wrap IntKind.i64 (0+1)+1)<(↑7:Int)/\0<=wrap IntKind.i64 (wrap IntKind.i64 (wrap IntKind.i64 (0+1)+1)+1)/\wrap IntKind.i64 (wrap IntKind.i64 (wrap IntKind.i64 (0+1)+1)+1)<(↑7:Int)/\0<=wrap IntKind.i64 (wrap IntKind.i64 (wrap IntKind.i64 (wrap IntKind.i64 (0+1)+1)+1)+1)/\wrap IntKind.i64 (wrap IntKind.i64 (wrap IntKind.i64 (wrap IntKind.i64 (0+1)+1)+1)+1)<(↑7:Int)/\iz 0<=0/\some (V.str [120])=some (V.str [120])/\0<=wrap IntKind.i64 (0+1)/\some (V.str [121])=some (V.str [121])/\F0 9 [D.v (Az (Mod.mk mk ms [[120],[121]] ml mr mv ma mru mst)),D.v (V.agg [vi (wrap IntKind.i64 (wrap IntKind.i64 (wrap IntKind.i64 (wrap IntKind.i64 (0+1)+1)+1)+1)),vi (wrap IntKind.i64 (0+1)),vi 0,V.list []])] (D.tup [D.v (V.str []),di 48])/\D.tup [D.v (V.agg [vi (wrap IntKind.i64 (wrap IntKind.i64 (wrap IntKind.i64 (wrap IntKind.i64 (0+1)+1)+1)+1)),vi (wrap IntKind.i64 (0+1)),vi 0,V.list []]),db false]=D.tup [dQ (Qst.mk 4 1 zeroV),db (false&&u==s)]) ?_
  simp only[w01,w12,w23,w34]
  repeat' first|with_reducible refine And.intro ?_ ?_
  all_goals first|exact hc|exact ht|rfl|decide
theorem Ur(m:Mod)(t:Typ)(hm:Cx m t)(hP:m.places=[[120],[121]])(s rest:List UInt8)(f:Bool)(hc:Aa PP 57 [ds s,ds [32]] σ0 (.tup [ds A0,ds rest,db f]) σ0)(h0:([120]==rest)=false)(h1:([121]==rest)=false):
  Aa PP 34 [Ad m,ds s] σ0 (.tup [dQ ⟨4,0,zeroV⟩,db (rdA m t ⟨4,0,zeroV⟩ s)]) σ0:=by
 have ht:=B7 m t hm (.inr hP) ⟨4,0,zeroV⟩ Du
 unfold txA at ht
 unfold rdA
 generalize txI m ⟨4,0,zeroV⟩=u at ht⊢
 generalize Af m t ⟨4,0,zeroV⟩=b at ht⊢
 clear hm
 obtain⟨mk,ms,mp,ml,mr,mv,ma,mru,mst⟩:=m
 simp only at hP
 subst hP
 cases b with
 |true=>
  refine sv Cn 79 [2] (.c (.tup [ds A0,ds rest,db f])<|.n<|.n<|.n<|.n<|.n<|.n<|.x (.str [120])<|.k<|.f<|.n<|.x (.str [121])<|.k<|.f<|.n<|.c (.tup [ds u,di 0])<|.r) (F0 57 [D.v (V.str s),D.v (V.str (ByteArray.mk #[32]).data.toList)] (D.tup [D.v (V.str A0),D.v (V.str rest),db f])/\iz 0<=0/\0<(↑7:Int)/\0<=wrap IntKind.i64 (0+1)/\wrap IntKind.i64 (0+1)<(↑7:Int)/\0<=wrap IntKind.i64 (wrap IntKind.i64 (0+1)+1)/\wrap IntKind.i64 (wrap IntKind.i64 (0+1)+1)<(↑7:Int)/\0<=wrap IntKind.i64 (wrap IntKind.i64 (wrap IntKind.i64 (0+1)+1)+1)/\wrap IntKind.i64 (wrap IntKind.i64 (wrap IntKind.i64 (0+1)+1)+1)<(↑7:Int)/\0<=wrap IntKind.i64 (wrap IntKind.i64 (wrap IntKind.i64 (wrap IntKind.i64 (0+1)+1)+1)+1)/\wrap IntKind.i64 (wrap IntKind.i64 (wrap IntKind.i64 (wrap IntKind.i64 (0+1)+1)+1)+1)<(↑7:Int)/\iz 0<=0/\some (V.str [120])=some (V.str [120])/\([120]==rest)=false/\0<=wrap IntKind.i64 (0+1)/\some (V.str [121])=some (V.str [121])/\([121]==rest)=false/\F0 9 [D.v (Az (Mod.mk mk ms [[120],[121]] ml mr mv ma mru mst)),D.v (V.agg [vi (wrap IntKind.i64 (wrap IntKind.i64 (wrap IntKind.i64 (wrap IntKind.i64 (0+1)+1)+1)+1)),vi 0,vi 0,V.list []])] (D.tup [D.v (V.str u),di 0])/\D.tup [D.v (V.agg [vi (wrap IntKind.i64 (wrap IntKind.i64 (wrap IntKind.i64 (wrap IntKind.i64 (0+1)+1)+1)+1)),vi 0,vi 0,V.list []]),db (u==s)]=D.tup [dQ (Qst.mk 4 0 zeroV),db (true&&u==s)]) ?_
  simp only[w01,w12,w23,w34]
  repeat' first|with_reducible refine And.intro ?_ ?_
  all_goals first|exact hc|exact ht|exact h0|exact h1|rfl|decide
 |false=>
  refine sv Cn 79 [2] (.c (.tup [ds A0,ds rest,db f])<|.n<|.n<|.n<|.n<|.n<|.n<|.x (.str [120])<|.k<|.f<|.n<|.x (.str [121])<|.k<|.f<|.n<|.c (.tup [ds [],di 48])<|.r) (F0 57 [D.v (V.str s),D.v (V.str (ByteArray.mk #[32]).data.toList)] (D.tup [D.v (V.str A0),D.v (V.str rest),db f])/\iz 0<=0/\0<(↑7:Int)/\0<=wrap IntKind.i64 (0+1)/\wrap IntKind.i64 (0+1)<(↑7:Int)/\0<=wrap IntKind.i64 (wrap IntKind.i64 (0+1)+1)/\wrap IntKind.i64 (wrap IntKind.i64 (0+1)+1)<(↑7:Int)/\0<=wrap IntKind.i64 (wrap IntKind.i64 (wrap IntKind.i64 (0+1)+1)+1)/\wrap IntKind.i64 (wrap IntKind.i64 (wrap IntKind.i64 (0+1)+1)+1)<(↑7:Int)/\0<=wrap IntKind.i64 (wrap IntKind.i64 (wrap IntKind.i64 (wrap IntKind.i64 (0+1)+1)+1)+1)/\wrap IntKind.i64 (wrap IntKind.i64 (wrap IntKind.i64 (wrap IntKind.i64 (0+1)+1)+1)+1)<(↑7:Int)/\iz 0<=0/\some (V.str [120])=some (V.str [120])/\([120]==rest)=false/\0<=wrap IntKind.i64 (0+1)/\some (V.str [121])=some (V.str [121])/\([121]==rest)=false/\F0 9 [D.v (Az (Mod.mk mk ms [[120],[121]] ml mr mv ma mru mst)),D.v (V.agg [vi (wrap IntKind.i64 (wrap IntKind.i64 (wrap IntKind.i64 (wrap IntKind.i64 (0+1)+1)+1)+1)),vi 0,vi 0,V.list []])] (D.tup [D.v (V.str []),di 48])/\D.tup [D.v (V.agg [vi (wrap IntKind.i64 (wrap IntKind.i64 (wrap IntKind.i64 (wrap IntKind.i64 (0+1)+1)+1)+1)),vi 0,vi 0,V.list []]),db false]=D.tup [dQ (Qst.mk 4 0 zeroV),db (false&&u==s)]) ?_
  simp only[w01,w12,w23,w34]
  repeat' first|with_reducible refine And.intro ?_ ?_
  all_goals first|exact hc|exact ht|exact h0|exact h1|rfl|decide
theorem Uq(m:Mod)(s w rest:List UInt8)(f:Bool)(hc:Aa PP 57 [ds s,ds [32]] σ0 (.tup [ds w,ds rest,db f]) σ0)(h0:(!([]==w))=true)(h1:(!(AD==w))=true)(h2:(!(B6==w))=true)(h3:(!(AP==w))=true)(h4:(!(A0==w))=true)(h5:(!(CP==w))=true)(h6:(!(CO==w))=true):
  Aa PP 34 [Ad m,ds s] σ0 (.tup [dQ ⟨0,0,zeroV⟩,db false]) σ0:=by
 refine sv Cn 79 [2] (.c (.tup [ds w,ds rest,db f])<|.n<|.k<|.t<|.n<|.k<|.t<|.n<|.k<|.t<|.n<|.k<|.t<|.n<|.k<|.t<|.n<|.k<|.t<|.n<|.k<|.t<|.n<|.r) (F0 57 [D.v (V.str s),D.v (V.str (ByteArray.mk #[32]).data.toList)] (D.tup [D.v (V.str w),D.v (V.str rest),db f])/\iz 0<=0/\0<(↑7:Int)/\(![]==w)=true/\0<=wrap IntKind.i64 (0+1)/\wrap IntKind.i64 (0+1)<(↑7:Int)/\(![99,111,118,101,114]==w)=true/\0<=wrap IntKind.i64 (wrap IntKind.i64 (0+1)+1)/\wrap IntKind.i64 (wrap IntKind.i64 (0+1)+1)<(↑7:Int)/\(![114,101,97,99,104]==w)=true/\0<=wrap IntKind.i64 (wrap IntKind.i64 (wrap IntKind.i64 (0+1)+1)+1)/\wrap IntKind.i64 (wrap IntKind.i64 (wrap IntKind.i64 (0+1)+1)+1)<(↑7:Int)/\(![98,111,117,110,100,101,100]==w)=true/\0<=wrap IntKind.i64 (wrap IntKind.i64 (wrap IntKind.i64 (wrap IntKind.i64 (0+1)+1)+1)+1)/\wrap IntKind.i64 (wrap IntKind.i64 (wrap IntKind.i64 (wrap IntKind.i64 (0+1)+1)+1)+1)<(↑7:Int)/\(![112,108,97,99,101]==w)=true/\0<=wrap IntKind.i64 (wrap IntKind.i64 (wrap IntKind.i64 (wrap IntKind.i64 (wrap IntKind.i64 (0+1)+1)+1)+1)+1)/\wrap IntKind.i64 (wrap IntKind.i64 (wrap IntKind.i64 (wrap IntKind.i64 (wrap IntKind.i64 (0+1)+1)+1)+1)+1)<(↑7:Int)/\(![100,101,97,100]==w)=true/\0<=wrap IntKind.i64 (wrap IntKind.i64 (wrap IntKind.i64 (wrap IntKind.i64 (wrap IntKind.i64 (wrap IntKind.i64 (0+1)+1)+1)+1)+1)+1)/\wrap IntKind.i64 (wrap IntKind.i64 (wrap IntKind.i64 (wrap IntKind.i64 (wrap IntKind.i64 (wrap IntKind.i64 (0+1)+1)+1)+1)+1)+1)<(↑7:Int)/\(![104,111,109,101]==w)=true/\D.tup [D.v (V.agg [vi 0,vi 0,vi 0,V.list []]),db false]=D.tup [dQ (Qst.mk 0 0 zeroV),db false]) ?_
 simp only[w01,w12,w23,w34,w45,w56,w67]
 repeat' first|with_reducible refine And.intro ?_ ?_
 all_goals first|exact hc|exact h0|exact h1|exact h2|exact h3|exact h4|exact h5|exact h6|rfl|decide
theorem Xi(m:Mod)(s rest:List UInt8)(f:Bool)(hc:Aa PP 57 [ds s,ds [32]] σ0 (.tup [ds [],ds rest,db f]) σ0):
  Aa PP 34 [Ad m,ds s] σ0 (.tup [dQ ⟨0,0,zeroV⟩,db false]) σ0:=by
 refine sv Cn 79 [2] (.c (.tup [ds [],ds rest,db f])<|.n<|.n<|.n<|.n<|.n<|.n<|.n<|.n<|.r) (F0 57 [D.v (V.str s),D.v (V.str (ByteArray.mk #[32]).data.toList)] (D.tup [D.v (V.str []),D.v (V.str rest),db f])/\iz 0<=0/\0<(↑7:Int)/\0<=wrap IntKind.i64 (0+1)/\wrap IntKind.i64 (0+1)<(↑7:Int)/\0<=wrap IntKind.i64 (wrap IntKind.i64 (0+1)+1)/\wrap IntKind.i64 (wrap IntKind.i64 (0+1)+1)<(↑7:Int)/\0<=wrap IntKind.i64 (wrap IntKind.i64 (wrap IntKind.i64 (0+1)+1)+1)/\wrap IntKind.i64 (wrap IntKind.i64 (wrap IntKind.i64 (0+1)+1)+1)<(↑7:Int)/\0<=wrap IntKind.i64 (wrap IntKind.i64 (wrap IntKind.i64 (wrap IntKind.i64 (0+1)+1)+1)+1)/\wrap IntKind.i64 (wrap IntKind.i64 (wrap IntKind.i64 (wrap IntKind.i64 (0+1)+1)+1)+1)<(↑7:Int)/\0<=wrap IntKind.i64 (wrap IntKind.i64 (wrap IntKind.i64 (wrap IntKind.i64 (wrap IntKind.i64 (0+1)+1)+1)+1)+1)/\wrap IntKind.i64 (wrap IntKind.i64 (wrap IntKind.i64 (wrap IntKind.i64 (wrap IntKind.i64 (0+1)+1)+1)+1)+1)<(↑7:Int)/\0<=wrap IntKind.i64 (wrap IntKind.i64 (wrap IntKind.i64 (wrap IntKind.i64 (wrap IntKind.i64 (wrap IntKind.i64 (0+1)+1)+1)+1)+1)+1)/\wrap IntKind.i64 (wrap IntKind.i64 (wrap IntKind.i64 (wrap IntKind.i64 (wrap IntKind.i64 (wrap IntKind.i64 (0+1)+1)+1)+1)+1)+1)<(↑7:Int)/\D.tup [D.v (V.agg [vi 0,vi 0,vi 0,V.list []]),db false]=D.tup [dQ (Qst.mk 0 0 zeroV),db false]) ?_
 simp only[w01,w12,w23,w34,w45,w56,w67]
 repeat' first|with_reducible refine And.intro ?_ ?_
 all_goals first|exact hc|rfl|decide
theorem DE{m:Mod}{t:Typ}{q:Qst}{s:List UInt8}(h:rdA m t q s=true):Af m t q=true/\txI m q=s:=by
 simpa only[rdA,Hy,HX] using h
theorem XU(s:List UInt8):(Cd s).2.1.length<=s.length:=by
 unfold Cd;split
 ·simp only[I3];omega
 ·simp
theorem DF{a b:List UInt8}(h:¬b=a):(!(a==b))=true:=by
 simp only[Io,Ia];exact fun e=>h e.symm
theorem Up(m:Mod)(t:Typ)(hm:Cx m t)(hP:m.places=[[120]]∨m.places=[[120],[121]])(s:List UInt8)(hs:s.length<=1000000):∃(q:Qst) (b:Bool),RdV q.target/\(b=true->Af m t q=true/\txI m q=s)/\Aa PP 34 [Ad m,ds s] σ0 (.tup [dQ q,db b]) σ0:=by
 have hc:=GQ s hs
 have hl:=XU s
 generalize Cd s=c at hc hl
 obtain⟨w,rest,f⟩:=c
 simp only at hc hl
 obtain⟨v,e,hv,hp⟩:=OU rest (by omega)
 by_cases h0:w=[]
 ·subst h0;exact⟨⟨0,0,zeroV⟩,false,Du,fun h=>by simp at h,Xi m s rest f hc⟩
 by_cases h1:w=AD
 ·subst h1
  refine⟨⟨1,0,v⟩,_,hv,DE (t:=t),?_⟩
  rcases hP with h|h
  ·exact Wf m t hm h s rest f v e hv hc hp
  ·exact We m t hm h s rest f v e hv hc hp
 by_cases h2:w=B6
 ·subst h2
  refine⟨⟨2,0,v⟩,_,hv,DE (t:=t),?_⟩
  rcases hP with h|h
  ·exact Wd m t hm h s rest f v e hv hc hp
  ·exact Wc m t hm h s rest f v e hv hc hp
 by_cases h3:w=AP
 ·subst h3
  refine⟨⟨3,0,zeroV⟩,_,Du,DE (t:=t),?_⟩
  rcases hP with h|h
  ·exact Wb m t hm h s rest f hc
  ·exact Wa m t hm h s rest f hc
 by_cases h4:w=A0
 ·subst h4
  by_cases r0:rest=[120]
  ·subst r0
   refine⟨⟨4,0,zeroV⟩,_,Du,DE (t:=t),?_⟩
   rcases hP with h|h
   ·exact NN m t hm h s f hc
   ·exact NM m t hm h s f hc
  ·have k0:([120]==rest)=false:=Ia.2 fun e=>r0 e.symm
   rcases hP with h|h
   ·exact⟨⟨4,0,zeroV⟩,_,Du,DE (t:=t),Us m t hm h s rest f hc k0⟩
   ·by_cases r1:rest=[121]
    ·subst r1
     exact⟨⟨4,1,zeroV⟩,_,Du,DE (t:=t),NL m t hm h s f hc⟩
    ·exact⟨⟨4,0,zeroV⟩,_,Du,DE (t:=t),Ur m t hm h s rest f hc k0 (Ia.2 fun e=>r1 e.symm)⟩
 by_cases h5:w=CP
 ·subst h5
  refine⟨⟨5,0,zeroV⟩,_,Du,DE (t:=t),?_⟩
  rcases hP with h|h
  ·exact VZ m t hm h s rest f hc
  ·exact VY m t hm h s rest f hc
 by_cases h6:w=CO
 ·subst h6
  refine⟨⟨6,0,zeroV⟩,_,Du,DE (t:=t),?_⟩
  rcases hP with h|h
  ·exact VX m t hm h s rest f hc
  ·exact VW m t hm h s rest f hc
 exact⟨⟨0,0,zeroV⟩,false,Du,fun h=>by simp at h,Uq m s w rest f hc (DF h0) (DF h1) (DF h2) (DF h3) (DF h4) (DF h5) (DF h6)⟩
theorem SmV.rd{v:Val}(h:SmV v):RdV v:=⟨TZ v h.small,h.size⟩
theorem NO{m:Mod}{t:Typ}{q:Qst}(h:Af m t q=true):rdA m t q (txI m q)=true:=by
 simp only[rdA,h,beq_self_eq_true,Bool.and_self]
theorem Rr(m:Mod)(t:Typ)(hm:Cx m t)(hP:m.places=[[120]]∨m.places=[[120],[121]])(q:Qst)(hv:SmV q.target)(h:Af m t q=true)(hl:(txI m q).length<=4096):Aa PP 34 [Ad m,ds (txI m q)] σ0 (.tup [dQ q,db true]) σ0:=by
 have hc:=GQ (txI m q) (by omega)
 have hs:=NO h
 have ht:∀v,txI m ⟨1,0,v⟩=AD++[32]++Au v:=fun v=>rfl
 have ht2:∀v,txI m ⟨2,0,v⟩=B6++[32]++Au v:=fun v=>rfl
 have ht4:∀n:Nat,txI m ⟨4,n,zeroV⟩=A0++[32]++m.places.getD n []:=fun n=>rfl
 have hk:=D7 h
 cases hk with
 |cover v=>
  have hp:=Fi v hv.small hv.size
  rw[show Cd (txI m ⟨1,0,v⟩)=(AD,Ay v,true) by rw[ht,CE v hv.small];rfl] at hc
  rw[←hs]
  rcases hP with e|e
  ·exact Wf m t hm e _ _ true v 0 hv.rd hc hp
  ·exact We m t hm e _ _ true v 0 hv.rd hc hp
 |reach v=>
  have hp:=Fi v hv.small hv.size
  rw[show Cd (txI m ⟨2,0,v⟩)=(B6,Ay v,true) by rw[ht2,CE v hv.small];rfl] at hc
  rw[←hs]
  rcases hP with e|e
  ·exact Wd m t hm e _ _ true v 0 hv.rd hc hp
  ·exact Wc m t hm e _ _ true v 0 hv.rd hc hp
 |bounded=>
  rw[show Cd (txI m ⟨3,0,zeroV⟩)=(AP,[],false) by rfl] at hc
  rw[←hs]
  rcases hP with e|e
  ·exact Wb m t hm e _ _ false hc
  ·exact Wa m t hm e _ _ false hc
 |dead=>
  rw[show Cd (txI m ⟨5,0,zeroV⟩)=(CP,[],false) by rfl] at hc
  rw[←hs]
  rcases hP with e|e
  ·exact VZ m t hm e _ _ false hc
  ·exact VY m t hm e _ _ false hc
 |home=>
  rw[show Cd (txI m ⟨6,0,zeroV⟩)=(CO,[],false) by rfl] at hc
  rw[←hs]
  rcases hP with e|e
  ·exact VX m t hm e _ _ false hc
  ·exact VW m t hm e _ _ false hc
 |place n hn=>
  rw[←hs]
  rcases hP with e|e
  ·obtain rfl:n=0:=by rw[e] at hn;simp at hn;omega
   rw[show Cd (txI m ⟨4,(0:Nat),zeroV⟩)=(A0,[120],true) by rw[ht4,e];rfl] at hc
   exact NN m t hm e _ true hc
  ·rcases(show n=0∨n=1 by rw[e] at hn;simp at hn;omega) with rfl|rfl
   ·rw[show Cd (txI m ⟨4,(0:Nat),zeroV⟩)=(A0,[120],true) by rw[ht4,e];rfl] at hc
    exact NM m t hm e _ true hc
   ·rw[show Cd (txI m ⟨4,(1:Nat),zeroV⟩)=(A0,[121],true) by rw[ht4,e];rfl] at hc
    exact NL m t hm e _ true hc
theorem OT(m:Mod)(t:Typ)(hm:Cx m t)(hP:m.places=[[120]]∨m.places=[[120],[121]])(q:Qst)(hv:SmV q.target)(h:Af m t q=true)(hl:(txI m q).length<=4096):Aa PP 16 [Ad m,ds (txI m q)] σ0 (.tup [dQ q,di 0]) σ0:=
 MM m t hm q _ hl (Rr m t hm hP q hv h hl)
theorem AaS(v:Val):(Aq v zeroV==0)=((v.n==0)&&(((v.kids.map eV).length:Int)==0)):=by
 rw[Bool.eq_iff_iff,Hy,HX,HX,HX,FJ,Hw]
 obtain⟨n,l⟩:=v
 constructor
 ·intro h;injection h with h1 h2;subst h1 h2;exact⟨rfl,rfl⟩
 ·rintro ⟨h1,h2⟩
  have h1:n=0:=h1
  have h3:l=[]:=IE (by have:(l.length:Int)=0:=h2;omega)
  rw[h1,h3]
theorem YU(m:Mod):(plR m==0)=B1 m:=by
 unfold plR;cases B1 m<;>rfl
noncomputable abbrev Vq:Func:= Tryz.f12
theorem chk41{m:Mod}{t:Typ}(hR:FP m t)(q:Qst):Aa PP 12 [Ad m,dQ q] σ0 (di (if Af m t q then 0 else 48)) σ0:=by
 obtain⟨k,p,v⟩:=q
 have hc:=hR.chk15
 have hk:=hR.kind
 have hv:=hR.val15 v
 have hp:=R3 hR
 have hz:=AaS v
 have hq:=YU m
 clear hR
 rcases(show k=1∨k=2∨k=3∨k=4∨k=5∨k=6∨(k<1∨k>=7) by omega) with rfl|rfl|rfl|rfl|rfl|rfl|h
 ·have e:Af m t ⟨1,p,v⟩=(Ak t v&&(p==0)):=rfl
  refine sv Vq 86 [2,3] (.c (di 0)<|.k<|.f<|.b (.c (db (Ak t v))<|.b (.b .r .r) .r) (.c (db (Ak t v))<|.b (.b .r .r) .r)) (F0 29 [Ad m] (di 0)/\(m.kind==6)=false/\((Val.n (Qst.mk 1 p v).target==0)=true->F0 30 [Ad m,D.v (V.agg [vi (Val.n (Qst.mk 1 p v).target),vVs (Val.kids (Qst.mk 1 p v).target)])] (db (Ak t v))/\(Ak t v=true->((!(Qst.mk 1 p v).place==0)=true->di 48=di (if Af m t (Qst.mk 1 p v)=true then 0 else 48))/\((!(Qst.mk 1 p v).place==0)=false->di 0=di (if Af m t (Qst.mk 1 p v)=true then 0 else 48)))/\(Ak t v=false->di 48=di (if Af m t (Qst.mk 1 p v)=true then 0 else 48)))/\((Val.n (Qst.mk 1 p v).target==0)=false->F0 30 [Ad m,D.v (V.agg [vi (Val.n (Qst.mk 1 p v).target),vVs (Val.kids (Qst.mk 1 p v).target)])] (db (Ak t v))/\(Ak t v=true->((!(Qst.mk 1 p v).place==0)=true->di 48=di (if Af m t (Qst.mk 1 p v)=true then 0 else 48))/\((!(Qst.mk 1 p v).place==0)=false->di 0=di (if Af m t (Qst.mk 1 p v)=true then 0 else 48)))/\(Ak t v=false->di 48=di (if Af m t (Qst.mk 1 p v)=true then 0 else 48)))) ?_
  refine⟨hc,hk,fun _=>⟨hv,fun h2=>⟨fun h3=>?_,fun h3=>?_⟩,fun h2=>?_⟩,fun _=>⟨hv,fun h2=>⟨fun h3=>?_,fun h3=>?_⟩,fun h2=>?_⟩⟩
  all_goals (clear hc hv hp hk hz;rw[e];simp_all)
 ·have e:Af m t ⟨2,p,v⟩=(Ak t v&&(p==0)):=rfl
  refine sv Vq 86 [2,3] (.c (di 0)<|.k<|.f<|.b (.c (db (Ak t v))<|.b (.b .r .r) .r) (.c (db (Ak t v))<|.b (.b .r .r) .r)) (F0 29 [Ad m] (di 0)/\(m.kind==6)=false/\((Val.n (Qst.mk 2 p v).target==0)=true->F0 30 [Ad m,D.v (V.agg [vi (Val.n (Qst.mk 2 p v).target),vVs (Val.kids (Qst.mk 2 p v).target)])] (db (Ak t v))/\(Ak t v=true->((!(Qst.mk 2 p v).place==0)=true->di 48=di (if Af m t (Qst.mk 2 p v)=true then 0 else 48))/\((!(Qst.mk 2 p v).place==0)=false->di 0=di (if Af m t (Qst.mk 2 p v)=true then 0 else 48)))/\(Ak t v=false->di 48=di (if Af m t (Qst.mk 2 p v)=true then 0 else 48)))/\((Val.n (Qst.mk 2 p v).target==0)=false->F0 30 [Ad m,D.v (V.agg [vi (Val.n (Qst.mk 2 p v).target),vVs (Val.kids (Qst.mk 2 p v).target)])] (db (Ak t v))/\(Ak t v=true->((!(Qst.mk 2 p v).place==0)=true->di 48=di (if Af m t (Qst.mk 2 p v)=true then 0 else 48))/\((!(Qst.mk 2 p v).place==0)=false->di 0=di (if Af m t (Qst.mk 2 p v)=true then 0 else 48)))/\(Ak t v=false->di 48=di (if Af m t (Qst.mk 2 p v)=true then 0 else 48)))) ?_
  refine⟨hc,hk,fun _=>⟨hv,fun h2=>⟨fun h3=>?_,fun h3=>?_⟩,fun h2=>?_⟩,fun _=>⟨hv,fun h2=>⟨fun h3=>?_,fun h3=>?_⟩,fun h2=>?_⟩⟩
  all_goals (clear hc hv hp hk hz;rw[e];simp_all)
 ·have e:Af m t ⟨3,p,v⟩=(B1 m&&((Aq v zeroV==0)&&(p==0))):=rfl
  rw[hz] at e
  refine sv Vq 86 [2,3] (.c (di 0)<|.k<|.f<|.b (.c (di (plR m))<|.b (.b (.b .r .r) .r) .r) (.c (di (plR m))<|.b .r .r)) (F0 29 [Ad m] (di 0)/\(m.kind==6)=false/\((Val.n (Qst.mk 3 p v).target==0)=true->F0 31 [Ad m] (di (plR m))/\((plR m==0)=true->(((length (map eV (Val.kids (Qst.mk 3 p v).target)):Int)==0)=true->((!(Qst.mk 3 p v).place==0)=true->di 48=di (if Af m t (Qst.mk 3 p v)=true then 0 else 48))/\((!(Qst.mk 3 p v).place==0)=false->di 0=di (if Af m t (Qst.mk 3 p v)=true then 0 else 48)))/\(((length (map eV (Val.kids (Qst.mk 3 p v).target)):Int)==0)=false->di 48=di (if Af m t (Qst.mk 3 p v)=true then 0 else 48)))/\((plR m==0)=false->di 48=di (if Af m t (Qst.mk 3 p v)=true then 0 else 48)))/\((Val.n (Qst.mk 3 p v).target==0)=false->F0 31 [Ad m] (di (plR m))/\((plR m==0)=true->di 48=di (if Af m t (Qst.mk 3 p v)=true then 0 else 48))/\((plR m==0)=false->di 48=di (if Af m t (Qst.mk 3 p v)=true then 0 else 48)))) ?_
  rw[hq]
  refine⟨hc,hk,fun h1=>⟨hp,fun h2=>⟨fun h3=>⟨fun h4=>?_,fun h4=>?_⟩,fun h3=>?_⟩,fun h2=>?_⟩,fun h1=>⟨hp,fun h2=>?_,fun h2=>?_⟩⟩
  all_goals (clear hc hv hp hk hz;rw[e];simp_all)
 ·have e:Af m t ⟨4,p,v⟩=(B1 m&&((Aq v zeroV==0)&&(decide (0<=p)&&decide (p<m.places.length)))):=rfl
  rw[hz] at e
  refine sv Vq 86 [2,3] (.c (di 0)<|.k<|.f<|.b (.c (di (plR m))<|.b (.b (.b (.b .r .r) .r) .r) .r) (.c (di (plR m))<|.b .r .r)) (F0 29 [Ad m] (di 0)/\(m.kind==6)=false/\((Val.n (Qst.mk 4 p v).target==0)=true->F0 31 [Ad m] (di (plR m))/\((plR m==0)=true->(((length (map eV (Val.kids (Qst.mk 4 p v).target)):Int)==0)=true->(decide ((Qst.mk 4 p v).place>=0)=true->((!decide ((Qst.mk 4 p v).place<(length (map V.str m.places):Int)))=true->di 48=di (if Af m t (Qst.mk 4 p v)=true then 0 else 48))/\((!decide ((Qst.mk 4 p v).place<(length (map V.str m.places):Int)))=false->di 0=di (if Af m t (Qst.mk 4 p v)=true then 0 else 48)))/\(decide ((Qst.mk 4 p v).place>=0)=false->di 48=di (if Af m t (Qst.mk 4 p v)=true then 0 else 48)))/\(((length (map eV (Val.kids (Qst.mk 4 p v).target)):Int)==0)=false->di 48=di (if Af m t (Qst.mk 4 p v)=true then 0 else 48)))/\((plR m==0)=false->di 48=di (if Af m t (Qst.mk 4 p v)=true then 0 else 48)))/\((Val.n (Qst.mk 4 p v).target==0)=false->F0 31 [Ad m] (di (plR m))/\((plR m==0)=true->di 48=di (if Af m t (Qst.mk 4 p v)=true then 0 else 48))/\((plR m==0)=false->di 48=di (if Af m t (Qst.mk 4 p v)=true then 0 else 48)))) ?_
  rw[hq,Hw (f:=V.str)]
  refine⟨hc,hk,fun h1=>⟨hp,fun h2=>⟨fun h3=>⟨fun h4=>⟨fun h5=>?_,fun h5=>?_⟩,fun h4=>?_⟩,fun h3=>?_⟩,fun h2=>?_⟩,fun h1=>⟨hp,fun h2=>?_,fun h2=>?_⟩⟩
  all_goals (clear hc hv hp hk hz;rw[e];simp_all<;>omega)
 ·have e:Af m t ⟨5,p,v⟩=((Aq v zeroV==0)&&(p==0)):=rfl
  rw[hz] at e
  refine sv Vq 86 [2,3] (.c (di 0)<|.k<|.f<|.b (.k<|.k<|.k<|.k<|.k<|.k<|.b (.b .r .r) .r) .r) (F0 29 [Ad m] (di 0)/\(m.kind==6)=false/\((Val.n (Qst.mk 5 p v).target==0)=true->(((length (map eV (Val.kids (Qst.mk 5 p v).target)):Int)==0)=true->((!(Qst.mk 5 p v).place==0)=true->di 48=di (if Af m t (Qst.mk 5 p v)=true then 0 else 48))/\((!(Qst.mk 5 p v).place==0)=false->di 0=di (if Af m t (Qst.mk 5 p v)=true then 0 else 48)))/\(((length (map eV (Val.kids (Qst.mk 5 p v).target)):Int)==0)=false->di 48=di (if Af m t (Qst.mk 5 p v)=true then 0 else 48)))/\((Val.n (Qst.mk 5 p v).target==0)=false->di 48=di (if Af m t (Qst.mk 5 p v)=true then 0 else 48))) ?_
  refine⟨hc,hk,fun h1=>⟨fun h3=>⟨fun h4=>?_,fun h4=>?_⟩,fun h3=>?_⟩,fun h1=>?_⟩
  all_goals (clear hc hv hp hk hz;rw[e];simp_all)
 ·have e:Af m t ⟨6,p,v⟩=((Aq v zeroV==0)&&(p==0)):=rfl
  rw[hz] at e
  refine sv Vq 86 [2,3] (.c (di 0)<|.k<|.f<|.b (.k<|.k<|.k<|.k<|.k<|.k<|.b (.b .r .r) .r) .r) (F0 29 [Ad m] (di 0)/\(m.kind==6)=false/\((Val.n (Qst.mk 6 p v).target==0)=true->(((length (map eV (Val.kids (Qst.mk 6 p v).target)):Int)==0)=true->((!(Qst.mk 6 p v).place==0)=true->di 48=di (if Af m t (Qst.mk 6 p v)=true then 0 else 48))/\((!(Qst.mk 6 p v).place==0)=false->di 0=di (if Af m t (Qst.mk 6 p v)=true then 0 else 48)))/\(((length (map eV (Val.kids (Qst.mk 6 p v).target)):Int)==0)=false->di 48=di (if Af m t (Qst.mk 6 p v)=true then 0 else 48)))/\((Val.n (Qst.mk 6 p v).target==0)=false->di 48=di (if Af m t (Qst.mk 6 p v)=true then 0 else 48))) ?_
  refine⟨hc,hk,fun h1=>⟨fun h3=>⟨fun h4=>?_,fun h4=>?_⟩,fun h3=>?_⟩,fun h1=>?_⟩
  all_goals (clear hc hv hp hk hz;rw[e];simp_all)
 ·have e:Af m t ⟨k,p,v⟩=false:=HJ h
  have n:∀i:Int,1<=i->i<=6->(k==i)=false:=fun i h1 h2=>Ia.2 (by omega)
  refine sv Vq 86 [2,3] (.c (di 0)<|.k<|.f<|.b (.f<|.f<|.f<|.f<|.f<|.f .r) (.f<|.f<|.f<|.f<|.f<|.f .r)) (F0 29 [Ad m] (di 0)/\(m.kind==6)=false/\((Val.n (Qst.mk k p v).target==0)=true->((Qst.mk k p v).kind==1)=false/\((Qst.mk k p v).kind==2)=false/\((Qst.mk k p v).kind==3)=false/\((Qst.mk k p v).kind==4)=false/\((Qst.mk k p v).kind==5)=false/\((Qst.mk k p v).kind==6)=false/\di 48=di (if Af m t (Qst.mk k p v)=true then 0 else 48))/\((Val.n (Qst.mk k p v).target==0)=false->((Qst.mk k p v).kind==1)=false/\((Qst.mk k p v).kind==2)=false/\((Qst.mk k p v).kind==3)=false/\((Qst.mk k p v).kind==4)=false/\((Qst.mk k p v).kind==5)=false/\((Qst.mk k p v).kind==6)=false/\di 48=di (if Af m t (Qst.mk k p v)=true then 0 else 48))) ?_
  rw[e]
  exact⟨hc,hk,fun _=>⟨n 1 (by decide) (by decide),n 2 (by decide) (by decide),n 3 (by decide) (by decide),n 4 (by decide) (by decide),n 5 (by decide) (by decide),n 6 (by decide) (by decide),rfl⟩,fun _=>⟨n 1 (by decide) (by decide),n 2 (by decide) (by decide),n 3 (by decide) (by decide),n 4 (by decide) (by decide),n 5 (by decide) (by decide),n 6 (by decide) (by decide),rfl⟩⟩
end Go.Proofs.YtpmahmngmgnnbaaGreatDoor

namespace Go.Dv
open Go.IntKind (wrap)
section
variable {C : Ent -> Ent -> Prop} {P : Program} {R : List D -> St -> Prop} {k : List KI} {env : List D} {σ : St}
end
end Go.Dv

namespace Go.Nv
open Go.Dv
open Go.IntKind (wrap)
abbrev CB(m0 m r:Nat)(cs:Array Value)(e:TypeId)(E0 E:Ent):Prop:=Mw r (.cells cs e (cs.size,cs.size+1)) E0 E/\E.g.n<=m/\E0.g.n<=m0
theorem Sp(m0 m r:Nat)(cs:Array Value)(e:TypeId):FS (CB m0 m r cs e):=⟨fun h _ _ _ hw=>h.1.link _ _ _ hw⟩
def Eg(s:List UInt8)(cs:Array Value):Prop:=∀j (hj:j<s.length),cs[j]?=some (.int .u8 (s[j].toNat:Int))
section
variable {P : Program} {R : List D -> St -> Prop} {k : List KI} {env : List D} {σ : St} {ops : Array Oper} {L : List Oper} {o : Oper}
theorem OC{m:Nat}(t sm:Nat){src dst e:TypeId}{s:List UInt8}(hg:BP env ops o=some true)(ht:o.dst=some t)(hop:o.op=.convert src dst (.tmp sm))(hs:P.underlying src=some .string)(hd:P.underlying dst=some (.slice e))(he:P.underlying e=some (.int .u8))(hm:env[sm]?=some (.v (.str s)))
  (hk:∀(r cap:Nat) (cs:Array Value),Eg s cs->AK (CB m σ.H.length r cs e) P R k ops L (env.set t (.raw (.slice (some ⟨r,0,none⟩) s.length cap))) σ):AK (CN m) P R k ops (o::L) env σ:=by
 intro E0 E g a w B hC hf hB
 unfold wpList
 rw[HJ (BH hf.env hg)]
 refine .inl ?_
 have e1:a.eval (.tmp sm)=.string ⟨s.toArray⟩:=by have:=Cl hf.env sm;rw[Fu hm] at this;simpa only[Ac,AI] using this
 have hw:=(MV m).ok hC hf.wi
 have hsz:ByteArray.size ⟨s.toArray⟩=s.length:=by simp[ByteArray.size]
 obtain⟨cs,hcs⟩:∃cs,cs=bytesRow ⟨s.toArray⟩ (grownCap w s.length 0 e):=⟨_,rfl⟩
 have hat:Eg s cs:=fun j hj=>by
  rw[hcs]
  have:=bytesRow_at ⟨s.toArray⟩ (grownCap w s.length 0 e) j (by simpa using hj)
  simpa using this
 have hrun:=run_bytes_of_string (P:=P) w src dst e ⟨s.toArray⟩ hs hd he
 rw[hsz, ←hcs] at hrun
 have hput:=hf.put ((hf.wi.drew).alloc (.cells cs e (cs.size,cs.size+1))) g.le_refl (d:=.raw (.slice (some ⟨w.heap.size,0,none⟩) s.length (grownCap w s.length 0 e))) (u:=.slice (some ⟨w.heap.size,0,none⟩) s.length (grownCap w s.length 0 e)) (by simp only[Ac]) (some t)
 obtain⟨h1,h2⟩:=Mw.of (r:=w.heap.size) (ob:=.cells cs e (cs.size,cs.size+1)) (w1:=w.drew.alloc (.cells cs e (cs.size,cs.size+1))) hw
  (fun b hb=>by
   by_cases hlt:b<w.heap.size
   ·exact heap_alloc_old w.drew _ (h:=hlt)
   ·have hz:(w.drew.alloc (.cells cs e (cs.size,cs.size+1))).heap.size=w.heap.size+1:=by simp
    rw[Array.getElem?_eq_none (by omega),Array.getElem?_eq_none (by omega)])
  (heap_alloc_new w.drew _) (by simp) rfl rfl rfl hw.size (hw.rep.new_none (H5 _)) (fun i cs hi=>Nat.ne_of_lt (hw.rep.obj_lt hi)) (fun x hx u hu hb=>by have:=hw.rep.own_lt hx hu hb;omega)
 have:=hk w.heap.size _ cs hat E0 _ g _ _ B ⟨h1,Nat.le_of_eq hw.rep.n,by rw[hC.1];exact hC.2⟩ ⟨h2,hput.env,hput.defers⟩ hB
 unfold Oper.wp execOp
 simp only[hop,e1,Sem.run_bind,hrun,Result.andThen_ok]
 simp only[Sem.run_pure,Oper.upon,ht]
 exact this
theorem Hu{x:Operand}{t:TypeId}(ho:o.op=.call { callee:=.builtin .len,args:= #[x],argTypes:= #[t]}){e:TypeId}(ht:P.underlying t=some (.slice e)){a:Option Addr}{n cap:Nat}:Ap P o [.raw (.slice a n cap)] σ (.v (.int .i64 n)) σ:=by
 refine Ar fun E g ρ w hw hds=>?_
 simp only[ho,Op.operands,Call.operands,Av] at hds
 obtain⟨u,e,h1⟩:=hds
 simp at e
 simp only[Ac] at h1
 subst h1
 exact⟨_,by simp[execOp,ho,e,resolve,invoke,builtin,Builtin.len_,run_underlying ht,goInt];rfl,by simp[Ac]⟩
theorem RN{t:TypeId}{x ix:Operand}(ho:o.op=.indexAddr t x ix){e:TypeId}{by':Nat}{z:Option Value}(hs:BW P t=some (e,1,by',z)){r n cap:Nat}{k:IntKind}{i:Int}(h0:0<=i)(h1:i<n):
  Ap P o [.raw (.slice (some ⟨r,0,none⟩) n cap),.v (.int k i)] σ (.raw (.pointer (some ⟨r,i.toNat,none⟩))) σ:=by
 refine Ar fun E g ρ w hw hds=>?_
 simp only[ho,Op.operands,Am] at hds
 obtain⟨u,v,eq,h1',h2⟩:=hds
 simp only[HO,Iu,HB,HZ] at eq
 obtain⟨e1,e2⟩:=eq
 simp only[Ac,As] at h1' h2
 subst h2 h1'
 obtain⟨inf,hu,hinf,hsize,_,_⟩:=A8 hs
 refine⟨.pointer (some ⟨r,i.toNat,none⟩),?_,by simp[Ac]⟩
 simp[execOp,ho,e1,e2,Instr.indexAt,asIntOf,run_underlying hu,h0,h1,sizeOf,typeInfo,hinf,hsize,Addr.add_lit]
theorem OE{m0 m:Nat}(sp sv:Nat){t e:TypeId}{r i:Nat}{cs:Array Value}{c:UInt8}(hg:BP env ops o=some true)(ht:o.dst=none)(hop:o.op=.store t (.tmp sp) (.tmp sv))(hty:Cz P t=some (1,false))(hp:env[sp]?=some (.raw (.pointer (some ⟨r,i,none⟩))))(hv:env[sv]?=some (.v (.int .u8 (c.toNat:Int))))(hi:i<cs.size)
  (hk:AK (CB m0 σ.H.length r (cs.setIfInBounds i (.int .u8 (c.toNat:Int))) e) P R k ops L env σ):AK (CB m0 m r cs e) P R k ops (o::L) env σ:=by
 intro E0 E g a w B hC hf hB
 unfold wpList
 rw[HJ (BH hf.env hg)]
 refine .inl ?_
 have e1:a.eval (.tmp sp)=.pointer (some ⟨r,i,none⟩):=by have:=Cl hf.env sp;rw[Fu hp] at this;simpa only[Ac] using this
 have e2:a.eval (.tmp sv)=.int .u8 (c.toNat:Int):=by have:=Cl hf.env sv;rw[Fu hv] at this;simpa only[Ac,As] using this
 obtain⟨hnow,hM,hobj,hown⟩:=hC.1.side.now hf.wi
 have hw:=(Sp m0 m r cs e).ok hC hf.wi
 have hcell:w.cell? ⟨r,i,none⟩=some cs[i]:=by simp[World.cell?,hnow,hi]
 have hfz:w.frozen? ⟨r,i,none⟩=false:=by simp[World.frozen?,hnow];omega
 have hst:=run_storeCells_cells (P:=P) r i [.int .u8 (c.toNat:Int)] 0 w (fun j hj=>by simp at hj;subst hj;simp[hcell]) (fun j hj=>by simp at hj;subst hj;simpa using hfz) (fun v hv=>by simp at hv;subst hv;rfl)
 simp only[World.setCells,Iv] at hst
 have hnew:(w.setCell ⟨r,i,none⟩ (.int .u8 (c.toNat:Int))).heap[r]?=some (.cells (cs.setIfInBounds i (.int .u8 (c.toNat:Int))) e ((cs.setIfInBounds i (.int .u8 (c.toNat:Int))).size,(cs.setIfInBounds i (.int .u8 (c.toNat:Int))).size+1)):=by
  simp[World.setCell,Array.getElem?_modify,hnow]
 have hoth:∀b,b≠r->(w.setCell ⟨r,i,none⟩ (.int .u8 (c.toNat:Int))).heap[b]?=w.heap[b]?:=fun b hb=>by
  simp[World.setCell,Array.getElem?_modify,Ne.symm hb]
 obtain⟨h1,h2⟩:=Mw.of (r:=r) (ob:=.cells (cs.setIfInBounds i (.int .u8 (c.toNat:Int))) e ((cs.setIfInBounds i (.int .u8 (c.toNat:Int))).size,(cs.setIfInBounds i (.int .u8 (c.toNat:Int))).size+1)) (w1:=w.setCell ⟨r,i,none⟩ (.int .u8 (c.toNat:Int))) hw hoth hnew (by simp[World.setCell]) rfl rfl rfl hC.1.new hM hobj hown
 have:=hk E0 _ g a _ B ⟨h1,Nat.le_of_eq hw.rep.n,hC.2.2⟩ ⟨h2,hf.env,hf.defers⟩ hB
 have hst:(storeCells ⟨r,i,none⟩ (Value.int .u8 (c.toNat:Int)).cells.toList 0).run P w=.ok () (w.setCell ⟨r,i,none⟩ (.int .u8 (c.toNat:Int))):=hst
 have hsz:(Value.int .u8 (c.toNat:Int)).cells.size=1:=rfl
 unfold Oper.wp execOp
 simp only[hop,e1,e2,Instr.storeAt,Instr.sureAddr,Sem.run_bind,Sem.run_pure,Result.andThen_ok,storeVar,run_sizeOf' hty,hsz,ne_eq,not_true_eq_false,if_false,hst]
 simp only[Oper.upon,ht]
 exact this
theorem OF{m0 m:Nat}(t sm:Nat){src dst e0 e:TypeId}{r cap:Nat}{cs:Array Value}{s:List UInt8}(hg:BP env ops o=some true)(ht:o.dst=some t)(hop:o.op=.convert src dst (.tmp sm))(hs:P.underlying src=some (.slice e0))(he:P.underlying e0=some (.int .u8))(hd:P.underlying dst=some .string)(hm:env[sm]?=some (.raw (.slice (some ⟨r,0,none⟩) s.length cap)))(hat:Eg s cs)
  (hk:AK (CB m0 m r cs e) P R k ops L (env.set t (.v (.str s))) σ):AK (CB m0 m r cs e) P R k ops (o::L) env σ:=by
 intro E0 E g a w B hC hf hB
 unfold wpList
 rw[HJ (BH hf.env hg)]
 refine .inl ?_
 have e1:a.eval (.tmp sm)=.slice (some ⟨r,0,none⟩) s.length cap:=by have:=Cl hf.env sm;rw[Fu hm] at this;simpa only[Ac] using this
 have hnow:=(hC.1.side.now hf.wi).1
 have hrun:=run_convert_bytes_back (P:=P) w src dst e0 ⟨r,0,none⟩ cap s hs he hd (fun j hj=>by
  rw[Addr.add_lit]
  simp[World.cell?,hnow]
  exact hat j hj)
 have:=hk E0 E g _ _ B hC (hf.put hf.wi g.le_refl (d:=.v (.str s)) (u:=.string ⟨s.toArray⟩) (by simp only[Ac,AI]) (some t)) hB
 unfold Oper.wp execOp
 simp only[hop,e1,Sem.run_bind,hrun,Result.andThen_ok]
 simp only[Sem.run_pure,Oper.upon,ht]
 exact this
theorem Uj{m0 m r:Nat}{cs:Array Value}{e:TypeId}(h:AK (CN m0) P R k ops L env σ):AK (CB m0 m r cs e) P R k ops L env σ:=fun E0 _ g a w B hC hf hB=>
 h E0 E0 g a w B ⟨rfl,hC.2.2⟩ (hf.link (Sp m0 m r cs e) hC) hB
end
end Go.Nv
