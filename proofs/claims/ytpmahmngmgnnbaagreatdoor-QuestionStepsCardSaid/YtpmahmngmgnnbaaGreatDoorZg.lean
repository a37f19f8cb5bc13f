/-
  A part of the proof.
-/
import Derived.Test.YtpmahmngmgnnbaaGreatDoorZf
import Derived.Test.YtpmahmngmgnnbaaGreatDoorZe
import Derived.Test.YtpmahmngmgnnbaaGreatDoorZd
import Derived.Lib.ItoaNum
import Derived.Test.YtpmahmngmgnnbaaGreatDoorRows
import Derived.Below
import Derived.Lib.SmallJoins
import Derived.MakeChecks
import Derived.FnData
import Derived.OpenShut
namespace Go.Proofs.YtpmahmngmgnnbaaGreatDoor
open Go.Dv Go.Nv
set_option maxRecDepth 20000
open List (length map take)
open Go.IntKind (wrap)
theorem JN{P:Program}{o:Oper}{σ:St}{src dst e0:TypeId}{x:Operand}(ho:o.op=.convert src dst x)(hs:P.underlying src=some (.slice e0))(he:P.underlying e0=some (.int .u8))(hd:P.underlying dst=some .string)(c:UInt8):Ap P o [.v (.list [.int .u8 (c.toNat:Int)])] σ (ds [c]) σ:=by
 refine Ar fun E g ρ w hw hds=>?_
 simp only[ho,Op.operands,Av] at hds
 obtain⟨u,e,h1⟩:=hds
 simp at e
 simp only[Ac,AJ] at h1
 obtain⟨a,cap,rfl,_,h|⟨b,off,sz,us,rfl,hsz,hin,hE⟩⟩:=h1
 ·simp at h
 ·simp only[repE] at hE
  obtain⟨v1,v2,rfl,h2,h3,rfl⟩:=hE
  simp only[repC] at h3
  subst h3
  have hc:=hw.rep.mem _ _ _ (hin 0 _ rfl)
  have hrun:=run_convert_bytes_back (P:=P) w src dst e0 ⟨b,off,none⟩ cap [c] hs he hd (fun j hj=>by
   have:j=0:=by simpa using hj
   subst this
   rw[Addr.add_lit]
   exact hc)
  have hrun:(convert src dst (.slice (some ⟨b,off,none⟩) 1 cap)).run P w=.ok (.string ⟨#[c]⟩) w:=hrun
  exact⟨.string ⟨[c].toArray⟩,by simp only[execOp,ho,e,H3,H7,Ih];rw[Sem.run_bind,hrun];rfl,by simp only[Ac,AI]⟩
noncomputable abbrev AbB:Func:= Tryz.f65
theorem AaR(N:Nat):∀n:Int,n.natAbs<=N-> -9223372036854775808<=n->n<=9223372036854775807->Aa PP 65 [di n] σ0 (ds (Lib.itoa n)) σ0:=by
 induction N using Nat.strongRecOn with
 |_ N ih=>
 intro n hN h0 h1
 have hd:(n.tmod 10).natAbs<10:=by rw[Int.natAbs_tmod];exact Nat.mod_lt _ (by decide)
 have hq:(n.tdiv 10).natAbs=n.natAbs/10:=Int.natAbs_tdiv n 10
 have h8:∀x:Int,0<=x->x<256->IntKind.u8.wrap x=x:=fun x h1 h2=>by rw[IntKind.wrap_u8];omega
 have e1:decide (n.tmod 10<0)=true->wrap IntKind.u8 (wrap IntKind.i64 (48+wrap IntKind.i64 (0-n.tmod 10)))=((UInt8.ofNat (48+(n.tmod 10).natAbs)).toNat:Int):=fun h=>by
  have h:=H9 h
  rw[d48 hd,Ai (n:=0-n.tmod 10) (by omega) (by omega),Ai (by omega) (by omega),h8 _ (by omega) (by omega)];omega
 have e2:decide (n.tmod 10<0)=false->wrap IntKind.u8 (wrap IntKind.i64 (48+n.tmod 10))=((UInt8.ofNat (48+(n.tmod 10).natAbs)).toNat:Int):=fun h=>by
  have h:=Ig h
  rw[d48 hd,Ai (by omega) (by omega),h8 _ (by omega) (by omega)];omega
 have e3:wrap IntKind.i64 (n.tdiv 10)=n.tdiv 10:=Ai (by omega) (by omega)
 have hlen:(Lib.itoa (n.tdiv 10)).length<=1000000:=by have:=Lib.itoa_length_le (n.tdiv 10) (by omega) (by omega);omega
 have tail:iz 10≠0/\((n.tdiv 10 !=0)=true->iz 10≠0/\Aa PP 65 [di (n.tdiv 10)] σ0 (ds (Lib.itoa (n.tdiv 10))) σ0/\(Lib.itoa (n.tdiv 10)).length+[UInt8.ofNat (48+(n.tmod 10).natAbs)].length<=9223372036854775807/\ds (Lib.itoa (n.tdiv 10)++[UInt8.ofNat (48+(n.tmod 10).natAbs)])=ds (Lib.itoa n))/\((n.tdiv 10 !=0)=false->(decide (n<0)=true->2<=9223372036854775807/\ds ((ByteArray.mk #[45]).data.toList++[UInt8.ofNat (48+(n.tmod 10).natAbs)])=ds (Lib.itoa n))/\(decide (n<0)=false->ds [UInt8.ofNat (48+(n.tmod 10).natAbs)]=ds (Lib.itoa n))):=by
  refine⟨by decide,fun h=>⟨by decide,?_,by simp only[H3,H7];omega,?_⟩,fun h=>?_⟩
  ·have h:n.tdiv 10≠0:=by simpa using h
   exact ih (n.natAbs/10) (by omega) _ (by omega) (by omega) (by omega)
  ·have h:n.tdiv 10≠0:=by simpa using h
   rw[XF n h]
  ·have h:n.tdiv 10=0:=by simpa using h
   have hs:n.natAbs<10:=by rw[h] at hq;simp only[Int.natAbs_zero] at hq;omega
   have hm:(n.tmod 10).natAbs=n.natAbs:=by rw[Int.natAbs_tmod];exact Nat.mod_eq_of_lt hs
   rw[XE n (by omega),hm]
   refine⟨fun h=>⟨by decide,?_⟩,fun h=>?_⟩
   ·rw[HJ (H9 h)];first|done|rfl
   ·rw[HF (Ig h)];first|done|rfl
 refine sv AbB 29 [] (.b (.h (.q 4 4)<|.h (.o (ds [UInt8.ofNat (48+(n.tmod 10).natAbs)]) σ0)<|.b (.c (ds (Lib.itoa (n.tdiv 10))) .r) (.b .r .r)) (.h (.q 4 4)<|.h (.o (ds [UInt8.ofNat (48+(n.tmod 10).natAbs)]) σ0)<|.b (.c (ds (Lib.itoa (n.tdiv 10))) .r) (.b .r .r))) (iz 10≠0/\(decide (Int.tmod n 10<0)=true->Ap PP (Oper.mk (some 15) (Op.convert 22 9 (Operand.tmp 14)) 9 "ref.go:298" #[Edge.mk 3 Ground.data] none) [D.v (V.list [V.int IntKind.u8 (wrap IntKind.u8 (wrap IntKind.i64 (48+wrap IntKind.i64 (0-Int.tmod n 10))))])] σ0 (D.v (V.str [UInt8.ofNat (48+Int.natAbs (Int.tmod n 10))])) σ0/\iz 10≠0/\((wrap IntKind.i64 (Int.tdiv n 10) !=0)=true->iz 10≠0/\F0 65 [di (wrap IntKind.i64 (Int.tdiv n 10))] (D.v (V.str (Lib.itoa (Int.tdiv n 10))))/\length (Lib.itoa (Int.tdiv n 10))+length [UInt8.ofNat (48+Int.natAbs (Int.tmod n 10))]<=9223372036854775807/\D.v (V.str (Lib.itoa (Int.tdiv n 10)++[UInt8.ofNat (48+Int.natAbs (Int.tmod n 10))]))=D.v (V.str (Lib.itoa n)))/\((wrap IntKind.i64 (Int.tdiv n 10) !=0)=false->(decide (n<0)=true->2<=9223372036854775807/\D.v (V.str ((ByteArray.mk #[45]).data.toList++[UInt8.ofNat (48+Int.natAbs (Int.tmod n 10))]))=D.v (V.str (Lib.itoa n)))/\(decide (n<0)=false->D.v (V.str [UInt8.ofNat (48+Int.natAbs (Int.tmod n 10))])=D.v (V.str (Lib.itoa n)))))/\(decide (Int.tmod n 10<0)=false->Ap PP (Oper.mk (some 15) (Op.convert 22 9 (Operand.tmp 14)) 9 "ref.go:298" #[Edge.mk 3 Ground.data] none) [D.v (V.list [V.int IntKind.u8 (wrap IntKind.u8 (wrap IntKind.i64 (48+Int.tmod n 10)))])] σ0 (D.v (V.str [UInt8.ofNat (48+Int.natAbs (Int.tmod n 10))])) σ0/\iz 10≠0/\((wrap IntKind.i64 (Int.tdiv n 10) !=0)=true->iz 10≠0/\F0 65 [di (wrap IntKind.i64 (Int.tdiv n 10))] (D.v (V.str (Lib.itoa (Int.tdiv n 10))))/\length (Lib.itoa (Int.tdiv n 10))+length [UInt8.ofNat (48+Int.natAbs (Int.tmod n 10))]<=9223372036854775807/\D.v (V.str (Lib.itoa (Int.tdiv n 10)++[UInt8.ofNat (48+Int.natAbs (Int.tmod n 10))]))=D.v (V.str (Lib.itoa n)))/\((wrap IntKind.i64 (Int.tdiv n 10) !=0)=false->(decide (n<0)=true->2<=9223372036854775807/\D.v (V.str ((ByteArray.mk #[45]).data.toList++[UInt8.ofNat (48+Int.natAbs (Int.tmod n 10))]))=D.v (V.str (Lib.itoa n)))/\(decide (n<0)=false->D.v (V.str [UInt8.ofNat (48+Int.natAbs (Int.tmod n 10))])=D.v (V.str (Lib.itoa n)))))) ?_
 rw[e3]
 exact⟨by decide,fun h=>⟨by rw[e1 h];exact JN rfl (e0:=5) (by kernel_rfl) (by kernel_rfl) (by kernel_rfl) _,tail⟩,fun h=>⟨by rw[e2 h];exact JN rfl (e0:=5) (by kernel_rfl) (by kernel_rfl) (by kernel_rfl) _,tail⟩⟩
theorem NC:∀(l:List Val) (k:Nat),Val.sizes (l.take k)<=Val.sizes l
 |[],k=>by simp[Val.sizes]
 |_::_,0=>by simp[Val.sizes]
 |v::l,k+1=>by
  have:=NC l k
  simp only[List.take_succ_cons,Val.sizes];omega
noncomputable abbrev Yo:Func:= Tryz.f44
noncomputable def W5:Code:=Yo.body.getD .skip
theorem TL(N:Nat):∀v:Val,v.size<=N->N<=1000->rgB v=true->Aa PP 44 [dV v] σ0 (ds (Au v)) σ0:=by
 induction N with
 |zero=>intro v h;have:=v.size_pos;omega
 |succ N ih=>
  intro v hv hN hr
  obtain⟨n0,l⟩:=v
  have hrg:=hr
  simp only[rgB,Hy,H8] at hr
  have hd:=AaR _ n0 (H5 _) hr.1 hr.2.1
  have hln:=Lib.itoa_length_le n0 hr.1 hr.2.1
  have hsz:1+Val.sizes l<=N+1:=hv
  have hll:=Val.length_le l
  have hL:∀k,(Lib.itoa n0++AR true (l.take k)).length<=100000:=fun k=>by
   have h1:=EX l hr.2.2 true k
   have h2:=NC l k
   rw[HC];omega
  have hx25:∀x∈l,(Au x).length<=100000:=fun x hx=>by
   have h1:=Cp x (K2 hr.2.2 x hx)
   have h2:=Val.size_mem hx
   omega
  have loop (n:Nat):∀k:Nat,l.length-k=n->k<=l.length->∀s:List UInt8,s=Lib.itoa n0++AR true (l.take k)->
    Rn PP Yo 0 (ds (Au (.mk n0 l))) σ0 ([.lp (sub W5 [1,1,0,1,0,0]),.blk 0,.code (sub W5 [1,1,1])]++[]) (mkE 36 [(1,.v (.ref (Ag (.mk n0 l)))),(3,ds s),(4,di k)]) σ0:=by
   induction n with
   |zero=>
    intro k hn hk s hs
    have hs2:s.length<=100000:=hs▸hL k
    have hk:k=l.length:=by omega
    subst hk
    rw[List.take_length] at hs
    refine lv 36 [1] (.f<|.b .r .r) (decide ((l.length:Int)<(length (map eV (Val.kids (Val.mk n0 l))):Int))=false/\(decide ((length (map eV (Val.kids (Val.mk n0 l))):Int)>0)=true->length s+length (ByteArray.mk #[41]).data.toList<=9223372036854775807/\D.v (V.str (s++(ByteArray.mk #[41]).data.toList))=D.v (V.str (Au (Val.mk n0 l))))/\(decide ((length (map eV (Val.kids (Val.mk n0 l))):Int)>0)=false->D.v (V.str s)=D.v (V.str (Au (Val.mk n0 l))))) ?_
    refine⟨H1 (by rw[Hw];exact Int.lt_irrefl _),fun h=>⟨?_,?_⟩,fun h=>?_⟩
    ·show s.length+1<=_;omega
    ·have h:(l.length:Int)>0:=by have:=H9 h;rwa[Hw] at this
     have he:l.isEmpty=false:=by cases l with|nil=>simp at h|cons _ _=>rfl
     rw[hs,Au,he]
     show ds (Lib.itoa n0++AR true l++[41])=_
     rw[I4];rfl
    ·have h:¬(l.length:Int)>0:=by have:=Ig h;rwa[Hw] at this
     have he:l=[]:=IE (by omega)
     rw[hs,he];simp[Au,AR]
   |succ n ihn=>
    intro k hn hk s hs
    obtain⟨x,hx⟩:∃x,l[k]?=some x:=⟨_,Hx (by omega)⟩
    have hnx:=ihn (k+1) (by omega) (by omega) _ rfl
    have hs2:s.length<=100000:=hs▸hL k
    have hxm:=H4 hx
    have hx2:=hx25 x hxm
    have ht:=ih x (by have:=Val.size_mem hxm;omega) (by omega) (K2 hr.2.2 x hxm)
    have hlt:decide ((k:Int)<((l.map eV).length:Int))=true:=Hz (by rw[Hw];omega)
    have etk:l.take (k+1)=l.take k++[x]:=by rw[List.take_add_one,hx];rfl
    have e2:∀c:UInt8,c=(if k=0 then 40 else 32)->s++[c]++Au x=Lib.itoa n0++AR true (l.take (k+1)):=fun c hc=>by
     have he:(l.take k).isEmpty=decide (k=0):=by
      by_cases h0:k=0
      ·subst h0;simp
      ·rw[H1 h0,List.isEmpty_eq_false_iff]
       intro e
       have:=HL length e
       rw[HS,H7] at this;omega
     rw[etk,EY,he,hs,hc,HV]
     by_cases h0:k=0<;>simp[h0]
    generalize Lib.itoa n0++AR true (l.take (k+1))=s' at hnx e2⊢
    refine lv 36 [1] (.t<|.b (.x (Ag x)<|.c (ds (Au x))<|.ls [ke 1,ch 3 (ds s'),ch 4 (di (k+1:Nat))] σ0) (.x (Ag x)<|.c (ds (Au x))<|.ls [ke 1,ch 3 (ds s'),ch 4 (di (k+1:Nat))] σ0)) (decide ((k:Int)<(length (map eV (Val.kids (Val.mk n0 l))):Int))=true/\(((k:Int)==0)=true->length s+length (ByteArray.mk #[40]).data.toList<=9223372036854775807/\0<=(k:Int)/\(map eV (Val.kids (Val.mk n0 l)))[Int.toNat (k:Int)]?=some (Ag x)/\F0 44 [dV x] (D.v (V.str (Au x)))/\length (s++(ByteArray.mk #[40]).data.toList)+length (Au x)<=9223372036854775807/\D.v (V.str (s++(ByteArray.mk #[40]).data.toList++Au x))=D.v (V.str s')/\di (wrap IntKind.i64 ((k:Int)+1))=di (↑(k+1):Int)/\I0 Yo 0 (ds (Au (Val.mk n0 l))) σ0 [kl W5 [1,1,0,1,0,0],KI.blk 0,kc W5 [1,1,1]] (mkE 36 [(1,D.v (V.ref (Ag (Val.mk n0 l)))),(3,D.v (V.str s')),(4,di (↑(k+1):Int))]) σ0)/\(((k:Int)==0)=false->length s+length (ByteArray.mk #[32]).data.toList<=9223372036854775807/\0<=(k:Int)/\(map eV (Val.kids (Val.mk n0 l)))[Int.toNat (k:Int)]?=some (Ag x)/\F0 44 [dV x] (D.v (V.str (Au x)))/\length (s++(ByteArray.mk #[32]).data.toList)+length (Au x)<=9223372036854775807/\D.v (V.str (s++(ByteArray.mk #[32]).data.toList++Au x))=D.v (V.str s')/\di (wrap IntKind.i64 ((k:Int)+1))=di (↑(k+1):Int)/\I0 Yo 0 (ds (Au (Val.mk n0 l))) σ0 [kl W5 [1,1,0,1,0,0],KI.blk 0,kc W5 [1,1,1]] (mkE 36 [(1,D.v (V.ref (Ag (Val.mk n0 l)))),(3,D.v (V.str s')),(4,di (↑(k+1):Int))]) σ0)) ?_
    refine⟨hlt,fun h=>⟨?_,by omega,AB hx,ht,?_,?_,Ae (by omega),⟨hnx⟩⟩,fun h=>⟨?_,by omega,AB hx,ht,?_,?_,Ae (by omega),⟨hnx⟩⟩⟩
    ·show s.length+1<=_;omega
    ·rw[HC];show s.length+1+_<=_;omega
    ·have h:k=0:=by have:=eq_of_beq h;omega
     exact HL ds (e2 40 (by rw[HJ h]))
    ·show s.length+1<=_;omega
    ·rw[HC];show s.length+1+_<=_;omega
    ·have h:¬k=0:=by have:=ne_of_beq_false h;omega
     exact HL ds (e2 32 (by rw[HF h]))
  refine sv Yo 36 [1] (.c (ds (Lib.itoa n0))<|.l [ke 1,ch 3 (ds (Lib.itoa n0)),ch 4 (di (0:Nat))]) (F0 65 [di (Val.n (Val.mk n0 l))] (D.v (V.str (Lib.itoa n0)))/\Q (D.v (V.str (Lib.itoa n0)))/\di 0=di (↑0:Int)/\I0 Yo σ0.H.length (ds (Au (Val.mk n0 l))) σ0 [kl W5 [1,1,0,1,0,0],KI.blk 0,kc W5 [1,1,1]] (mkE 36 [(1,D.v (V.ref (Ag (Val.mk n0 l)))),(3,D.v (V.str (Lib.itoa n0))),(4,di (↑0:Int))]) σ0) ?_
  exact⟨hd,rfl,rfl,⟨loop _ 0 rfl (HW _) _ (by simp[AR])⟩⟩
noncomputable abbrev Zq:Func:= Tryz.f26
theorem Lm(v:Val)(hr:rgB v=true):Aa PP 26 [dV v] σ0 (.tup [ds (if v.size<=128 then Au v else[]),di (if v.size<=128 then 0 else 1)]) σ0:=by
 have h:=FV _ v (H5 _) 128 (by decide) (by decide)
 by_cases hz:v.size<=128
 ·rw[HJ hz,HJ hz]
  have ht:=TL 128 v hz (by decide) hr
  refine sv Zq 9 [1] (.c (di (min (v.size:Int) 129))<|.f<|.c (ds (Au v)) .r) (F0 43 [dV v,di 128] (di (min (↑(Val.size v):Int) 129))/\decide (min (↑(Val.size v):Int) 129>128)=false/\F0 44 [dV v] (D.v (V.str (Au v)))/\Q (D.tup [D.v (V.str (Au v)),di 0])) ?_
  exact⟨h,H1 (by omega),ht,rfl⟩
 ·rw[HF hz,HF hz]
  refine sv Zq 9 [1] (.c (di (min (v.size:Int) 129))<|.t .r) (F0 43 [dV v,di 128] (di (min (↑(Val.size v):Int) 129))/\decide (min (↑(Val.size v):Int) 129>128)=true/\D.tup [D.v (V.str (ByteArray.mk #[]).data.toList),di 1]=D.tup [D.v (V.str []),di 1]) ?_
  exact⟨h,Hz (by omega),rfl⟩
noncomputable abbrev DT:Func:= Tryz.f59
noncomputable def CK:Code:=DT.body.getD .skip
def b41:UInt8:=41
def rV:Option (Val×Nat)->Val
 |none=>zeroV
 |some (v,_)=>v
def rK:Option (Val×Nat)->Int
 |none=> -1
 |some (_,k)=>k
abbrev Dn(o:Option (Val×Nat)):D:=.tup [dV (rV o),di (rK o)]
theorem N3(n:Int):IntKind.u64.wrap n=u64 n:=by simp[u64,wrap,IntKind.bits,IntKind.signed]
abbrev vu(n:Int):D:=.v (.int .u64 n)
abbrev zRd:St:=⟨[some [di 0,.v .nils]],[]⟩
theorem Nl(s:List UInt8)(hs:s.length<=1000000)(d:Int)(b:Bool)(fr:Nat)(r:D)(at_:Nat)(n:Int)(h1:at_<=s.length)(h3:fr<=at_)(hst:∀c,s[at_]?=some c->48<=c.toNat->c.toNat<=57->fr+20<=at_)
  (h:Rn PP DT 0 r σ0 ([.code (sub CK [1,1,1,1,1,1])]++[]) (mkE 142 [(0,ds s),(1,di d),(4,.ptr 0 0),(6,di at_),(7,db b),(8,vu n),(9,di fr)]) zRd):
  Rn PP DT 0 r σ0 ([.lp (sub CK [1,1,1,1,1,0,0,0]),.blk 0]++[.code (sub CK [1,1,1,1,1,1])]) (mkE 142 [(0,ds s),(1,di d),(4,.ptr 0 0),(6,di at_),(7,db b),(8,vu n),(9,di fr)]) zRd:=by
 by_cases hl:at_<s.length
 ·have hx:s[at_]?=some s[at_]:=Hx hl
  generalize s[at_]=c at hx
  by_cases h48:48<=c.toNat
  ·by_cases h57:c.toNat<=57
   ·have:=hst c hx h48 h57
    refine lv 142 [] (.t<|.y c<|.t<|.y c<|.t<|.f<|.ls [ke 0,ke 1,ke 4,ke 6,ke 7,ke 8,ke 9] zRd) (decide ((at_:Int)<(s.length:Int))=true/\0<=(at_:Int)/\s[Int.toNat (at_:Int)]?=some c/\decide ((↑(UInt8.toNat c):Int)>=48)=true/\0<=(at_:Int)/\s[Int.toNat (at_:Int)]?=some c/\decide ((↑(UInt8.toNat c):Int)<=57)=true/\decide (wrap IntKind.i64 ((at_:Int)- (fr:Int))<20)=false/\Q [some [di 0,dn]]/\I0 DT 0 r σ0 [kc CK [1,1,1,1,1,1]] (mkE 142 [(0,D.v (V.str s)),(1,di d),(4,D.ptr 0 0),(6,di (at_:Int)),(7,db b),(8,D.v (V.int IntKind.u64 n)),(9,di (fr:Int))]) zRd) ?_
    exact⟨Hz (by omega),by omega,hx,Hz (by omega),by omega,hx,Hz (by omega),H1 (by rw[Ai (by omega) (by omega)];omega),rfl,⟨h⟩⟩
   ·refine lv 142 [] (.t<|.y c<|.t<|.y c<|.f<|.k<|.ls [ke 0,ke 1,ke 4,ke 6,ke 7,ke 8,ke 9] zRd) (decide ((at_:Int)<(s.length:Int))=true/\0<=(at_:Int)/\s[Int.toNat (at_:Int)]?=some c/\decide ((↑(UInt8.toNat c):Int)>=48)=true/\0<=(at_:Int)/\s[Int.toNat (at_:Int)]?=some c/\decide ((↑(UInt8.toNat c):Int)<=57)=false/\Q [some [di 0,dn]]/\I0 DT 0 r σ0 [kc CK [1,1,1,1,1,1]] (mkE 142 [(0,D.v (V.str s)),(1,di d),(4,D.ptr 0 0),(6,di (at_:Int)),(7,db b),(8,D.v (V.int IntKind.u64 n)),(9,di (fr:Int))]) zRd) ?_
    exact⟨Hz (by omega),by omega,hx,Hz (by omega),by omega,hx,H1 (by omega),rfl,⟨h⟩⟩
  ·refine lv 142 [] (.t<|.y c<|.f<|.k<|.k<|.ls [ke 0,ke 1,ke 4,ke 6,ke 7,ke 8,ke 9] zRd) (decide ((at_:Int)<(s.length:Int))=true/\0<=(at_:Int)/\s[Int.toNat (at_:Int)]?=some c/\decide ((↑(UInt8.toNat c):Int)>=48)=false/\Q [some [di 0,dn]]/\I0 DT 0 r σ0 [kc CK [1,1,1,1,1,1]] (mkE 142 [(0,D.v (V.str s)),(1,di d),(4,D.ptr 0 0),(6,di (at_:Int)),(7,db b),(8,D.v (V.int IntKind.u64 n)),(9,di (fr:Int))]) zRd) ?_
   exact⟨Hz (by omega),by omega,hx,H1 (by omega),rfl,⟨h⟩⟩
 ·refine lv 142 [] (.f<|.k<|.k<|.k<|.ls [ke 0,ke 1,ke 4,ke 6,ke 7,ke 8,ke 9] zRd) (decide ((at_:Int)<(s.length:Int))=false/\Q [some [di 0,dn]]/\I0 DT 0 r σ0 [kc CK [1,1,1,1,1,1]] (mkE 142 [(0,D.v (V.str s)),(1,di d),(4,D.ptr 0 0),(6,di (at_:Int)),(7,db b),(8,D.v (V.int IntKind.u64 n)),(9,di (fr:Int))]) zRd) ?_
  exact⟨H1 (by omega),rfl,⟨h⟩⟩
theorem XR(s:List UInt8)(hs:s.length<=1000000)(d:Int)(b:Bool)(fr:Nat)(r:D):∀(f at_:Nat) (n:Int),at_<=s.length->at_+f=fr+20->fr<=at_->
  Rn PP DT 0 r σ0 ([.code (sub CK [1,1,1,1,1,1])]++[]) (mkE 142 [(0,ds s),(1,di d),(4,.ptr 0 0),(6,di (at_+(dgR f n (s.drop at_)).2:Nat)),(7,db b),(8,vu (dgR f n (s.drop at_)).1),(9,di fr)]) zRd->
  Rn PP DT 0 r σ0 ([.lp (sub CK [1,1,1,1,1,0,0,0]),.blk 0]++[.code (sub CK [1,1,1,1,1,1])]) (mkE 142 [(0,ds s),(1,di d),(4,.ptr 0 0),(6,di at_),(7,db b),(8,vu n),(9,di fr)]) zRd:=by
 intro f
 induction f with
 |zero=>exact fun at_ n h1 h2 h3 h=>Nl s hs d b fr r at_ n h1 h3 (fun _ _ _ _=>by omega) h
 |succ f ih=>
  intro at_ n h1 h2 h3 h
  by_cases hl:at_<s.length
  ·have hx:s[at_]?=some s[at_]:=Hx hl
   have hdr:=HD hl
   generalize s[at_]=c at hx hdr
   rw[hdr] at h
   unfold dgR at h
   by_cases h48:48<=c.toNat/\c.toNat<=57
   ·have hn:wrap IntKind.u64 (wrap IntKind.u64 (n*10)+wrap IntKind.u64 (wrap IntKind.u8 ((c.toNat:Int)-48)))=u64 (u64 (n*10)+((c.toNat:Int)-48)):=by
     rw[IntKind.wrap_u8,N3,N3,N3];unfold u64;omega
    rw[HJ h48] at h
    have hih:=ih (at_+1) (u64 (u64 (n*10)+((c.toNat:Int)-48))) (by omega) (by omega) (by omega) (by
     rwa[show at_+1+(dgR f (u64 (u64 (n*10)+((c.toNat:Int)-48))) (s.drop (at_+1))).2=at_+((dgR f (u64 (u64 (n*10)+((c.toNat:Int)-48))) (s.drop (at_+1))).2+1) by omega])
    generalize u64 (u64 (n*10)+((c.toNat:Int)-48))=n' at hn hih
    refine lv 142 [] (.t<|.y c<|.t<|.y c<|.t<|.t<|.y c<|.ls [ke 0,ke 1,ke 4,ch 6 (di (at_+1:Nat)),ke 7,ch 8 (vu n'),ke 9] zRd) (decide ((at_:Int)<(s.length:Int))=true/\0<=(at_:Int)/\s[Int.toNat (at_:Int)]?=some c/\decide ((↑(UInt8.toNat c):Int)>=48)=true/\0<=(at_:Int)/\s[Int.toNat (at_:Int)]?=some c/\decide ((↑(UInt8.toNat c):Int)<=57)=true/\decide (wrap IntKind.i64 ((at_:Int)- (fr:Int))<20)=true/\0<=(at_:Int)/\s[Int.toNat (at_:Int)]?=some c/\di (wrap IntKind.i64 ((at_:Int)+1))=di (↑(at_+1):Int)/\D.v (V.int IntKind.u64 (wrap IntKind.u64 (wrap IntKind.u64 (n*10)+wrap IntKind.u64 (wrap IntKind.u8 ((↑(UInt8.toNat c):Int)-48)))))=vu n'/\Q [some [di 0,dn]]/\I0 DT 0 r σ0 [kl CK [1,1,1,1,1,0,0,0],KI.blk 0,kc CK [1,1,1,1,1,1]] (mkE 142 [(0,D.v (V.str s)),(1,di d),(4,D.ptr 0 0),(6,di (↑(at_+1):Int)),(7,db b),(8,vu n'),(9,di (fr:Int))]) zRd) ?_
    exact⟨Hz (by omega),by omega,hx,Hz (by omega),by omega,hx,Hz (by omega),Hz (by rw[Ai (by omega) (by omega)];omega),by omega,hx,Ae (by omega),by rw[hn],rfl,⟨hih⟩⟩
   ·rw[HF h48] at h
    exact Nl s hs d b fr r at_ n h1 h3 (fun c' hc h4 h5=>by rw[hx] at hc;cases hc;exact absurd ⟨h4,h5⟩ h48) h
  ·rw[HI (by omega)] at h
   exact Nl s hs d b fr r at_ n h1 h3 (fun c hc=>absurd (LV hc) hl) h
abbrev stR(v0:Int)(ks:List Val):St:=⟨[some [di 0,.v .nils],some [di v0,.acc 1 (ks.map eV)]],[(1,2,ks.map eV)]⟩
def PR(v0:Int):Option (List Val×Nat)->Option (Val×Nat)
 |none=>none
 |some (l,k)=>some (.mk v0 l,k)
theorem Sw(s:List UInt8)(hs:s.length<=1000000)(d:Nat)(hd:d<=1000)(v0:Int)(b:Bool)(n:D)(fr:D)(IH:∀t:List UInt8,t.length<=1000000->Aa PP 59 [ds t,di d] σ0 (Dn (rdR d t)) σ0):∀(f at_:Nat) (l:List Val),at_<s.length->s.length-at_<f->l.length<=at_->
  Rn PP DT 0 (Dn (PR v0 (kdR (rdR d) s f at_ l))) σ0 ([.lp (sub CK [1,1,1,1,1,1,1,1,1,1,1,0,0,0]),.blk 2,.code (sub CK [1,1,1,1,1,1,1,1,1,1,1,1])]++[]) (mkE 142 [(0,ds s),(1,di (d+1:Nat)),(4,.ptr 0 0),(6,di at_),(10,.ptr 1 0)]) (stR v0 l):=by
 intro f
 induction f with
 |zero=>intro at_ l h1 h2;omega
 |succ f ih=>
  intro at_ l h1 h2 h3
  obtain⟨c,hx⟩:∃c,s[at_]?=some c:=⟨_,Hx h1⟩
  have hlt:decide ((at_:Int)<(s.length:Int))=true:=Hz (by omega)
  have hw1:wrap IntKind.i64 ((at_:Int)+1)=(at_:Int)+1:=Ai (by omega) (by omega)
  have hwd:wrap IntKind.i64 (((d+1:Nat):Int)-1)=(d:Int):=by rw[Ai (by omega) (by omega)];omega
  have hr:=IH (s.drop (at_+1)) (by rw[I3];omega)
  obtain⟨R,hR⟩:∃R,R=kdR (rdR d) s (f+1) at_ l:=⟨_,rfl⟩
  rw[←hR]
  unfold kdR at hR
  by_cases hc:c=41
  ·subst hc
   rw[HJ hx] at hR
   subst hR
   refine lv 142 [] (.t<|.y b41<|.k<|.r) (decide ((at_:Int)<(s.length:Int))=true/\0<=(at_:Int)/\s[Int.toNat (at_:Int)]?=some b41/\D.tup [D.v (V.agg [vi v0,V.list (map eV l)]),di (wrap IntKind.i64 ((at_:Int)+1))]=Dn (PR v0 (some (l,at_+1)))) ?_
   rw[hw1]
   exact⟨hlt,by omega,hx,rfl⟩
  ·rw[HF (by rw[hx];intro e;exact hc (HN e))] at hR
   have hc2:((c.toNat:Int) !=41)=true:=bne_iff_ne.2 fun e=>hc (UInt8.toNat_inj.1 (by show c.toNat=41;omega))
   have hr':Aa PP 59 [D.v (V.str (List.drop (Int.toNat (wrap IntKind.i64 ((at_:Int)+1))) (take (length s) s))),di (wrap IntKind.i64 (((d+1:Nat):Int)-1))] σ0 (Dn (rdR d (s.drop (at_+1)))) σ0:=by
    rw[hw1,hwd,List.take_length];exact hr
   cases hq:rdR d (s.drop (at_+1)) with
   |none=>
    rw[hq] at hR hr'
    simp only at hR
    subst hR
    refine lv 142 [] (.t<|.y c<|.t<|.c (.tup [dV zeroV,di (-1)])<|.r) (decide ((at_:Int)<(s.length:Int))=true/\0<=(at_:Int)/\s[Int.toNat (at_:Int)]?=some c/\((↑(UInt8.toNat c):Int) !=41)=true/\0<=(fun x=>x.snd) (IntKind.i64,wrap IntKind.i64 ((at_:Int)+1))/\(fun x=>x.snd) (IntKind.i64,wrap IntKind.i64 ((at_:Int)+1))<=(s.length:Int)/\F0 59 [D.v (V.str (List.drop (Int.toNat ((fun x=>x.snd) (IntKind.i64,wrap IntKind.i64 ((at_:Int)+1)))) (take s.length s))),di (wrap IntKind.i64 ((↑(d+1):Int)-1))] (D.tup [dV zeroV,di (-1)])/\D.tup [D.v (V.agg [vi 0,V.list []]),di (-1)]=Dn (PR v0 none)) ?_
    exact⟨hlt,by omega,hx,hc2,by show(0:Int)<=wrap IntKind.i64 ((at_:Int)+1);omega,by show wrap IntKind.i64 ((at_:Int)+1)<=_;omega,hr',rfl⟩
   |some xk=>
    obtain⟨x,k⟩:=xk
    rw[hq] at hR hr'
    simp only at hR
    obtain⟨k1,k2,k3,k4⟩:=Wg _ _ _ _ hq
    rw[I3] at k2
    have hw2:wrap IntKind.i64 (wrap IntKind.i64 ((at_:Int)+1)+(k:Int))=(at_:Int)+1+k:=by rw[hw1,Ai (by omega) (by omega)]
    have hw3:wrap IntKind.i64 ((at_:Int)+wrap IntKind.i64 (1+(k:Int)))=((at_+(1+k):Nat):Int):=by rw[Ai (n:=1+(k:Int)) (by omega) (by omega),Ai (by omega) (by omega)];omega
    have hk0:decide ((k:Int)<0)=false:=H1 (by omega)
    have hap:l.map eV++[Ag x]=(l++[x]).map eV:=DM l x
    have hlen:Ax (length (map eV l)+length [Ag x]) 32:=by
     constructor<;>(simp only[Hw,H3,H7];omega)
    have hp1:(0:Int)<=wrap IntKind.i64 ((at_:Int)+1):=by omega
    have hp2:wrap IntKind.i64 ((at_:Int)+1)<=(s.length:Int):=by omega
    have hp3:(0:Int)<=((at_+(1+k):Nat):Int):=by omega
    by_cases hl:at_+(1+k)<s.length
    ·obtain⟨e,he⟩:∃e,s[at_+(1+k)]?=some e:=⟨_,Hx hl⟩
     have hge:decide (wrap IntKind.i64 (wrap IntKind.i64 ((at_:Int)+1)+(k:Int))>=(s.length:Int))=false:=H1 (by omega)
     have hih:=ih (at_+(1+k)) (l++[x]) hl (by omega) (by simp only[HC,H3,H7];omega)
     have b32:e≠32->((e.toNat:Int) !=32)=true:=fun h=>bne_iff_ne.2 fun h2=>h (UInt8.toNat_inj.1 (by show e.toNat=32;omega))
     have b41':e≠41->((e.toNat:Int) !=41)=true:=fun h=>bne_iff_ne.2 fun h2=>h (UInt8.toNat_inj.1 (by show e.toNat=41;omega))
     by_cases h32:e=32
     ·rw[HJ (.inl (by rw[he,h32]))] at hR
      rw[←hR] at hih
      refine lv 142 [] (.t<|.y c<|.t<|.c (.tup [dV x,di k])<|.f<|.f<|.m (.acc 1 (l.map eV))<|.y e<|.f<|.k<|.ls [ke 0,ke 1,ke 4,ch 6 (di (at_+(1+k):Nat)),ke 10] (stR v0 (l++[x]))) (decide ((at_:Int)<(s.length:Int))=true/\0<=(at_:Int)/\s[Int.toNat (at_:Int)]?=some c/\((↑(UInt8.toNat c):Int) !=41)=true/\0<=(fun x=>x.snd) (IntKind.i64,wrap IntKind.i64 ((at_:Int)+1))/\(fun x=>x.snd) (IntKind.i64,wrap IntKind.i64 ((at_:Int)+1))<=(s.length:Int)/\F0 59 [D.v (V.str (List.drop (Int.toNat ((fun x=>x.snd) (IntKind.i64,wrap IntKind.i64 ((at_:Int)+1)))) (take s.length s))),di (wrap IntKind.i64 ((↑(d+1):Int)-1))] (D.tup [dV x,di (k:Int)])/\decide ((k:Int)<0)=false/\decide (wrap IntKind.i64 (wrap IntKind.i64 ((at_:Int)+1)+(k:Int))>=(s.length:Int))=false/\Q (some (D.acc 1 (map eV l)))/\Q (map eV l)/\Ax (length (map eV l)+length (V.agg (vi x.n::vVs x.kids::nV)::nV)) 32/\0<=wrap IntKind.i64 ((at_:Int)+wrap IntKind.i64 (1+(k:Int)))/\s[Int.toNat (wrap IntKind.i64 ((at_:Int)+wrap IntKind.i64 (1+(k:Int))))]?=some e/\((↑(UInt8.toNat e):Int) !=32)=false/\di (wrap IntKind.i64 ((at_:Int)+wrap IntKind.i64 (1+(k:Int))))=di (↑(at_+(1+k)):Int)/\[some [di 0,dn],some [di v0,D.acc 1 (map eV l++V.agg (vi x.n::vVs x.kids::nV)::nV)]]=[some [di 0,dn],some [di v0,D.acc 1 (map eV (l++[x]))]]/\[(1,2,map eV l++V.agg (vi x.n::vVs x.kids::nV)::nV)]=[(1,2,map eV (l++[x]))]/\I0 DT 0 (Dn (PR v0 R)) σ0 [kl CK [1,1,1,1,1,1,1,1,1,1,1,0,0,0],KI.blk 2,kc CK [1,1,1,1,1,1,1,1,1,1,1,1]] (mkE 142 [(0,D.v (V.str s)),(1,di (↑(d+1):Int)),(4,D.ptr 0 0),(6,di (↑(at_+(1+k)):Int)),(10,D.ptr 1 0)]) (stR v0 (l++[x]))) ?_
      rw[hw3]
      exact⟨hlt,by omega,hx,hc2,hp1,hp2,hr',hk0,hge,rfl,rfl,hlen,hp3,he,by rw[h32];rfl,rfl,by rw[←hap],by rw[←hap],⟨hih⟩⟩
     ·by_cases h41:e=41
      ·rw[HJ (.inr (by rw[he,h41]))] at hR
       rw[←hR] at hih
       refine lv 142 [] (.t<|.y c<|.t<|.c (.tup [dV x,di k])<|.f<|.f<|.m (.acc 1 (l.map eV))<|.y e<|.t<|.y e<|.f<|.ls [ke 0,ke 1,ke 4,ch 6 (di (at_+(1+k):Nat)),ke 10] (stR v0 (l++[x]))) (decide ((at_:Int)<(s.length:Int))=true/\0<=(at_:Int)/\s[Int.toNat (at_:Int)]?=some c/\((↑(UInt8.toNat c):Int) !=41)=true/\0<=(fun x=>x.snd) (IntKind.i64,wrap IntKind.i64 ((at_:Int)+1))/\(fun x=>x.snd) (IntKind.i64,wrap IntKind.i64 ((at_:Int)+1))<=(s.length:Int)/\F0 59 [D.v (V.str (List.drop (Int.toNat ((fun x=>x.snd) (IntKind.i64,wrap IntKind.i64 ((at_:Int)+1)))) (take s.length s))),di (wrap IntKind.i64 ((↑(d+1):Int)-1))] (D.tup [dV x,di (k:Int)])/\decide ((k:Int)<0)=false/\decide (wrap IntKind.i64 (wrap IntKind.i64 ((at_:Int)+1)+(k:Int))>=(s.length:Int))=false/\Q (some (D.acc 1 (map eV l)))/\Q (map eV l)/\Ax (length (map eV l)+length (V.agg (vi x.n::vVs x.kids::nV)::nV)) 32/\0<=wrap IntKind.i64 ((at_:Int)+wrap IntKind.i64 (1+(k:Int)))/\s[Int.toNat (wrap IntKind.i64 ((at_:Int)+wrap IntKind.i64 (1+(k:Int))))]?=some e/\((↑(UInt8.toNat e):Int) !=32)=true/\0<=wrap IntKind.i64 ((at_:Int)+wrap IntKind.i64 (1+(k:Int)))/\s[Int.toNat (wrap IntKind.i64 ((at_:Int)+wrap IntKind.i64 (1+(k:Int))))]?=some e/\((↑(UInt8.toNat e):Int) !=41)=false/\di (wrap IntKind.i64 ((at_:Int)+wrap IntKind.i64 (1+(k:Int))))=di (↑(at_+(1+k)):Int)/\[some [di 0,dn],some [di v0,D.acc 1 (map eV l++V.agg (vi x.n::vVs x.kids::nV)::nV)]]=[some [di 0,dn],some [di v0,D.acc 1 (map eV (l++[x]))]]/\[(1,2,map eV l++V.agg (vi x.n::vVs x.kids::nV)::nV)]=[(1,2,map eV (l++[x]))]/\I0 DT 0 (Dn (PR v0 R)) σ0 [kl CK [1,1,1,1,1,1,1,1,1,1,1,0,0,0],KI.blk 2,kc CK [1,1,1,1,1,1,1,1,1,1,1,1]] (mkE 142 [(0,D.v (V.str s)),(1,di (↑(d+1):Int)),(4,D.ptr 0 0),(6,di (↑(at_+(1+k)):Int)),(10,D.ptr 1 0)]) (stR v0 (l++[x]))) ?_
       rw[hw3]
       exact⟨hlt,by omega,hx,hc2,hp1,hp2,hr',hk0,hge,rfl,rfl,hlen,hp3,he,b32 h32,hp3,he,by rw[h41];rfl,rfl,by rw[←hap],by rw[←hap],⟨hih⟩⟩
      ·rw[HF (fun h=>h.elim (fun h=>h32 (HN (he.symm.trans h))) (fun h=>h41 (HN (he.symm.trans h))))] at hR
       subst hR
       refine lv 142 [] (.t<|.y c<|.t<|.c (.tup [dV x,di k])<|.f<|.f<|.m (.acc 1 (l.map eV))<|.y e<|.t<|.y e<|.t<|.r) (decide ((at_:Int)<(s.length:Int))=true/\0<=(at_:Int)/\s[Int.toNat (at_:Int)]?=some c/\((↑(UInt8.toNat c):Int) !=41)=true/\0<=(fun x=>x.snd) (IntKind.i64,wrap IntKind.i64 ((at_:Int)+1))/\(fun x=>x.snd) (IntKind.i64,wrap IntKind.i64 ((at_:Int)+1))<=(s.length:Int)/\F0 59 [D.v (V.str (List.drop (Int.toNat ((fun x=>x.snd) (IntKind.i64,wrap IntKind.i64 ((at_:Int)+1)))) (take s.length s))),di (wrap IntKind.i64 ((↑(d+1):Int)-1))] (D.tup [dV x,di (k:Int)])/\decide ((k:Int)<0)=false/\decide (wrap IntKind.i64 (wrap IntKind.i64 ((at_:Int)+1)+(k:Int))>=(s.length:Int))=false/\Q (some (D.acc 1 (map eV l)))/\Q (map eV l)/\Ax (length (map eV l)+length (V.agg (vi x.n::vVs x.kids::nV)::nV)) 32/\0<=wrap IntKind.i64 ((at_:Int)+wrap IntKind.i64 (1+(k:Int)))/\s[Int.toNat (wrap IntKind.i64 ((at_:Int)+wrap IntKind.i64 (1+(k:Int))))]?=some e/\((↑(UInt8.toNat e):Int) !=32)=true/\0<=wrap IntKind.i64 ((at_:Int)+wrap IntKind.i64 (1+(k:Int)))/\s[Int.toNat (wrap IntKind.i64 ((at_:Int)+wrap IntKind.i64 (1+(k:Int))))]?=some e/\((↑(UInt8.toNat e):Int) !=41)=true/\D.tup [D.v (V.agg [vi 0,V.list []]),di (-1)]=Dn (PR v0 none)) ?_
       rw[hw3]
       exact⟨hlt,by omega,hx,hc2,hp1,hp2,hr',hk0,hge,rfl,rfl,hlen,hp3,he,b32 h32,hp3,he,b41' h41,rfl⟩
    ·have hn:s[at_+(1+k)]?=none:=Ik (by omega)
     rw[HF (by rw[hn];simp)] at hR
     subst hR
     refine lv 142 [] (.t<|.y c<|.t<|.c (.tup [dV x,di k])<|.f<|.t<|.r) (decide ((at_:Int)<(s.length:Int))=true/\0<=(at_:Int)/\s[Int.toNat (at_:Int)]?=some c/\((↑(UInt8.toNat c):Int) !=41)=true/\0<=(fun x=>x.snd) (IntKind.i64,wrap IntKind.i64 ((at_:Int)+1))/\(fun x=>x.snd) (IntKind.i64,wrap IntKind.i64 ((at_:Int)+1))<=(s.length:Int)/\F0 59 [D.v (V.str (List.drop (Int.toNat ((fun x=>x.snd) (IntKind.i64,wrap IntKind.i64 ((at_:Int)+1)))) (take s.length s))),di (wrap IntKind.i64 ((↑(d+1):Int)-1))] (D.tup [dV x,di (k:Int)])/\decide ((k:Int)<0)=false/\decide (wrap IntKind.i64 (wrap IntKind.i64 ((at_:Int)+1)+(k:Int))>=(s.length:Int))=true/\D.tup [D.v (V.agg [vi 0,V.list []]),di (-1)]=Dn (PR v0 none)) ?_
     exact⟨hlt,by omega,hx,hc2,hp1,hp2,hr',hk0,Hz (by omega),rfl⟩
def dpR(d:Nat)(v0:Int)(s:List UInt8)(at_:Nat):Option (Val×Nat):=match d with
 |0=>none
 |d+1=>PR v0 (kdR (rdR d) s (s.length+1) at_ [])
theorem Xj(s:List UInt8)(hs:s.length<=1000000)(d:Nat)(hd:d<=1000)(fr at_:Nat)(n:Int)(b:Bool)(h1:fr<=at_)(h2:at_<=s.length)(hb:b=decide (fr=1))(hf:fr<=1)(r:Option (Val×Nat))
  (hr0:at_=fr->r=none) (hr1:at_≠fr->s[at_]?≠some 40->r=some (.mk (nmR fr n) [],at_)) (hr2:at_≠fr->s[at_]?=some 40->r=dpR d (nmR fr n) s at_)
  (IH:∀d',d=d'+1->∀t:List UInt8,t.length<=1000000->Aa PP 59 [ds t,di d'] σ0 (Dn (rdR d' t)) σ0):
  Rn PP DT 0 (Dn r) σ0 ([.code (sub CK [1,1,1,1,1,1])]++[]) (mkE 142 [(0,ds s),(1,di d),(4,.ptr 0 0),(6,di at_),(7,db b),(8,vu n),(9,di fr)]) zRd:=by
 by_cases he:at_=fr
 ·have hr:=hr0 he
  subst hr
  refine BB mixed 142 [] (.t<|.r) ?_
  refine via (by kernel_rfl:(((at_:Int)==(fr:Int))=true/\D.tup [D.v (V.agg [vi 0,V.list []]),di (-1)]=Dn none)=_) ?_
  exact⟨HX.2 (by rw[he]),rfl⟩
 rcases(show fr=0∨fr=1 by omega) with rfl|rfl
 ·obtain rfl:b=false:=hb
  have hv:wrap IntKind.i64 n=nmR 0 n:=rfl
  have hne:((at_:Int)==((0:Nat):Int))=false:=Ia.2 (by omega)
  by_cases hl:at_<s.length
  ·obtain⟨c,hc⟩:∃c,s[at_]?=some c:=⟨_,Hx hl⟩
   have hln:((at_:Int)==(s.length:Int))=false:=Ia.2 (by omega)
   by_cases h40:c=40
   ·subst h40
    have hr:=hr2 he hc
    cases d with
    |zero=>
     have hr:r=none:=hr
     subst hr
     refine BB mixed 142 [] (.f<|.k<|.f<|.y b40<|.k<|.t<|.r) ?_
     refine via (by kernel_rfl:(((at_:Int)==(↑0:Int))=false/\((at_:Int)==(s.length:Int))=false/\0<=(at_:Int)/\s[Int.toNat (at_:Int)]?=some b40/\((↑0:Int)==0)=true/\D.tup [D.v (V.agg [vi 0,V.list []]),di (-1)]=Dn none)=_) ?_
     exact⟨hne,hln,by omega,hc,rfl,rfl⟩
    |succ d=>
     have hr:r=PR (nmR 0 n) (kdR (rdR d) s (s.length+1) at_ []):=hr
     subst hr
     have hk:=Sw s hs d (by omega) (nmR 0 n) false (vu n) (di 0) (IH d rfl) (s.length+1) at_ [] hl (by omega) (HW _)
     refine BB mixed 142 [] (.f<|.h .rn<|.k<|.f<|.y b40<|.k<|.h (.q 16 0)<|.h (.cl 1 1 1 2)<|.f<|.ls [ke 0,ke 1,ke 4,ke 6,ke 10] (stR (nmR 0 n) [])) ?_
     refine via (by kernel_rfl:(((at_:Int)==(↑0:Int))=false/\((at_:Int)==(s.length:Int))=false/\0<=(at_:Int)/\s[Int.toNat (at_:Int)]?=some b40/\((↑(d+1):Int)==0)=false/\[some [di 0,dn],some [di (wrap IntKind.i64 n),D.acc 1 nV]]=[some [di 0,dn],some [di (nmR 0 n),D.acc 1 nV]]/\Q [(1,2,nV)]/\I0 DT 0 (Dn (PR (nmR 0 n) (kdR (rdR d) s (length s+1) at_ []))) σ0 [kl CK [1,1,1,1,1,1,1,1,1,1,1,0,0,0],KI.blk 2,kc CK [1,1,1,1,1,1,1,1,1,1,1,1]] (mkE 142 [(0,D.v (V.str s)),(1,di (↑(d+1):Int)),(4,D.ptr 0 0),(6,di (at_:Int)),(10,D.ptr 1 0)]) (stR (nmR 0 n) []))=_) ?_
     rw[hv]
     exact⟨hne,hln,by omega,hc,Ia.2 (by omega),rfl,rfl,⟨hk⟩⟩
   ·have hr:=hr1 he (by rw[hc];exact fun e=>h40 (HN e))
    subst hr
    have hc2:((c.toNat:Int) !=40)=true:=bne_iff_ne.2 fun e=>h40 (UInt8.toNat_inj.1 (by show c.toNat=40;omega))
    refine BB mixed 142 [] (.f<|.k<|.f<|.y c<|.t<|.r) ?_
    refine via (by kernel_rfl:(((at_:Int)==(↑0:Int))=false/\((at_:Int)==(s.length:Int))=false/\0<=(at_:Int)/\s[Int.toNat (at_:Int)]?=some c/\((↑(UInt8.toNat c):Int) !=40)=true/\D.tup [D.v (V.agg [vi (wrap IntKind.i64 n),V.list []]),di (at_:Int)]=Dn (some (Val.mk (nmR 0 n) [],at_)))=_) ?_
    rw[hv]
    exact⟨hne,hln,by omega,hc,hc2,rfl⟩
  ·have hr:=hr1 he (by rw[Ik (by omega)];simp)
   subst hr
   refine BB mixed 142 [] (.f<|.k<|.t<|.r) ?_
   refine via (by kernel_rfl:(((at_:Int)==(↑0:Int))=false/\((at_:Int)==(s.length:Int))=true/\D.tup [D.v (V.agg [vi (wrap IntKind.i64 n),V.list []]),di (at_:Int)]=Dn (some (Val.mk (nmR 0 n) [],at_)))=_) ?_
   rw[hv]
   exact⟨hne,HX.2 (by omega),rfl⟩
 ·obtain rfl:b=true:=hb
  have hv:wrap IntKind.i64 (wrap IntKind.u64 (0-n))=nmR 1 n:=by rw[N3,Int.zero_sub];rfl
  have hne:((at_:Int)==((1:Nat):Int))=false:=Ia.2 (by omega)
  by_cases hl:at_<s.length
  ·obtain⟨c,hc⟩:∃c,s[at_]?=some c:=⟨_,Hx hl⟩
   have hln:((at_:Int)==(s.length:Int))=false:=Ia.2 (by omega)
   by_cases h40:c=40
   ·subst h40
    have hr:=hr2 he hc
    cases d with
    |zero=>
     have hr:r=none:=hr
     subst hr
     refine BB mixed 142 [] (.f<|.k<|.f<|.y b40<|.k<|.t<|.r) ?_
     refine via (by kernel_rfl:(((at_:Int)==(↑1:Int))=false/\((at_:Int)==(s.length:Int))=false/\0<=(at_:Int)/\s[Int.toNat (at_:Int)]?=some b40/\((↑0:Int)==0)=true/\D.tup [D.v (V.agg [vi 0,V.list []]),di (-1)]=Dn none)=_) ?_
     exact⟨hne,hln,by omega,hc,rfl,rfl⟩
    |succ d=>
     have hr:r=PR (nmR 1 n) (kdR (rdR d) s (s.length+1) at_ []):=hr
     subst hr
     have hk:=Sw s hs d (by omega) (nmR 1 n) true (vu n) (di 0) (IH d rfl) (s.length+1) at_ [] hl (by omega) (HW _)
     refine BB mixed 142 [] (.f<|.h .rn<|.k<|.f<|.y b40<|.k<|.h (.q 16 0)<|.h (.cl 1 1 1 2)<|.f<|.ls [ke 0,ke 1,ke 4,ke 6,ke 10] (stR (nmR 1 n) [])) ?_
     refine via (by kernel_rfl:(((at_:Int)==(↑1:Int))=false/\((at_:Int)==(s.length:Int))=false/\0<=(at_:Int)/\s[Int.toNat (at_:Int)]?=some b40/\((↑(d+1):Int)==0)=false/\[some [di 0,dn],some [di (wrap IntKind.i64 (wrap IntKind.u64 (0-n))),D.acc 1 nV]]=[some [di 0,dn],some [di (nmR 1 n),D.acc 1 nV]]/\Q [(1,2,nV)]/\I0 DT 0 (Dn (PR (nmR 1 n) (kdR (rdR d) s (length s+1) at_ []))) σ0 [kl CK [1,1,1,1,1,1,1,1,1,1,1,0,0,0],KI.blk 2,kc CK [1,1,1,1,1,1,1,1,1,1,1,1]] (mkE 142 [(0,D.v (V.str s)),(1,di (↑(d+1):Int)),(4,D.ptr 0 0),(6,di (at_:Int)),(10,D.ptr 1 0)]) (stR (nmR 1 n) []))=_) ?_
     rw[hv]
     exact⟨hne,hln,by omega,hc,Ia.2 (by omega),rfl,rfl,⟨hk⟩⟩
   ·have hr:=hr1 he (by rw[hc];exact fun e=>h40 (HN e))
    subst hr
    have hc2:((c.toNat:Int) !=40)=true:=bne_iff_ne.2 fun e=>h40 (UInt8.toNat_inj.1 (by show c.toNat=40;omega))
    refine BB mixed 142 [] (.f<|.k<|.f<|.y c<|.t<|.r) ?_
    refine via (by kernel_rfl:(((at_:Int)==(↑1:Int))=false/\((at_:Int)==(s.length:Int))=false/\0<=(at_:Int)/\s[Int.toNat (at_:Int)]?=some c/\((↑(UInt8.toNat c):Int) !=40)=true/\D.tup [D.v (V.agg [vi (wrap IntKind.i64 (wrap IntKind.u64 (0-n))),V.list []]),di (at_:Int)]=Dn (some (Val.mk (nmR 1 n) [],at_)))=_) ?_
    rw[hv]
    exact⟨hne,hln,by omega,hc,hc2,rfl⟩
  ·have hr:=hr1 he (by rw[Ik (by omega)];simp)
   subst hr
   refine BB mixed 142 [] (.f<|.k<|.t<|.r) ?_
   refine via (by kernel_rfl:(((at_:Int)==(↑1:Int))=false/\((at_:Int)==(s.length:Int))=true/\D.tup [D.v (V.agg [vi (wrap IntKind.i64 (wrap IntKind.u64 (0-n))),V.list []]),di (at_:Int)]=Dn (some (Val.mk (nmR 1 n) [],at_)))=_) ?_
   rw[hv]
   exact⟨hne,HX.2 (by omega),rfl⟩
def b45:UInt8:=45
theorem YG(s:List UInt8):sgR s<=1/\sgR s<=s.length:=by
 unfold sgR
 split
 ·rename_i h;have:=LV h;omega
 ·omega
theorem Abx:∀(d:Nat),d<=1000->∀s:List UInt8,s.length<=1000000->Aa PP 59 [ds s,di d] σ0 (Dn (rdR d s)) σ0:=by
 intro d
 induction d using Nat.strongRecOn with
 |_ d ih=>
 intro hd s hs
 have hsg:=YG s
 have hdl:=Ok 20 0 (s.drop (sgR s))
 rw[I3] at hdl
 have hr0:sgR s+(dgR 20 0 (s.drop (sgR s))).2=sgR s->rdR d s=none:=fun h=>by unfold rdR;rw[HJ (by omega)]
 have hr1:sgR s+(dgR 20 0 (s.drop (sgR s))).2≠sgR s->s[sgR s+(dgR 20 0 (s.drop (sgR s))).2]?≠some 40->rdR d s=some (.mk (nmR (sgR s) (dgR 20 0 (s.drop (sgR s))).1) [],sgR s+(dgR 20 0 (s.drop (sgR s))).2):=fun h h2=>by unfold rdR;rw[HF (by omega),HF h2]
 have hr2:sgR s+(dgR 20 0 (s.drop (sgR s))).2≠sgR s->s[sgR s+(dgR 20 0 (s.drop (sgR s))).2]?=some 40->rdR d s=dpR d (nmR (sgR s) (dgR 20 0 (s.drop (sgR s))).1) s (sgR s+(dgR 20 0 (s.drop (sgR s))).2):=fun h h2=>by
  unfold rdR;rw[HF (by omega),HJ h2]
  cases d with
  |zero=>rfl
  |succ d=>
   unfold dpR
   simp only
   cases kdR (rdR d) s (s.length+1) (sgR s+(dgR 20 0 (s.drop (sgR s))).2) []<;>rfl
 have htl:=Xj s hs d hd (sgR s) (sgR s+(dgR 20 0 (s.drop (sgR s))).2) (dgR 20 0 (s.drop (sgR s))).1 (decide (sgR s=1)) (by omega) (by omega) rfl hsg.1 (rdR d s) hr0 hr1 hr2 (fun d' e t ht=>ih d' (by omega) (by omega) t ht)
 have hlp:=XR s hs d (decide (sgR s=1)) (sgR s) (Dn (rdR d s)) 20 (sgR s) 0 hsg.2 rfl (H5 _) htl
 clear htl hr0 hr1 hr2 hdl
 generalize rdR d s=R at*
 by_cases hn:s[0]?=some 45
 ·have e:sgR s=1:=HJ hn
  have hl:=LV hn
  rw[e] at hlp
  refine sv DT 142 [] (.t<|.y b45<|.k<|.l [ke 0,ke 1,ke 4,ch 6 (di (1:Nat)),ch 7 (db true),ch 8 (vu 0),ch 9 (di (1:Nat))]) (decide (0<(s.length:Int))=true/\iz 0<=0/\s[Int.toNat 0]?=some b45/\di (wrap IntKind.i64 (0+1))=di (↑1:Int)/\db ((↑(UInt8.toNat b45):Int)==45)=db true/\D.v (V.int IntKind.u64 0)=vu 0/\di (wrap IntKind.i64 (0+1))=di (↑1:Int)/\I0 DT σ0.H.length (Dn R) σ0 [kl CK [1,1,1,1,1,0,0,0],KI.blk 0,kc CK [1,1,1,1,1,1]] (mkE 142 [(0,D.v (V.str s)),(1,di (d:Int)),(4,D.ptr 0 0),(6,di (↑1:Int)),(7,db true),(8,vu 0),(9,di (↑1:Int))]) (St.mk [some [di 0,dn]] [])) ?_
  exact⟨Hz (by omega),by decide,hn,rfl,rfl,rfl,rfl,⟨hlp⟩⟩
 ·have e:sgR s=0:=HF hn
  rw[e] at hlp
  by_cases h0:0<s.length
  ·obtain⟨c,hc⟩:∃c,s[0]?=some c:=⟨_,Hx h0⟩
   have hc2:((c.toNat:Int)==45)=false:=Ia.2 fun e=>hn (by rw[hc,UInt8.toNat_inj.1 (show c.toNat=(45:UInt8).toNat by show c.toNat=45;omega)])
   refine sv DT 142 [] (.t<|.y c<|.f<|.l [ke 0,ke 1,ke 4,ch 6 (di (0:Nat)),ch 7 (db false),ch 8 (vu 0),ch 9 (di (0:Nat))]) (decide (0<(s.length:Int))=true/\iz 0<=0/\s[Int.toNat 0]?=some c/\((↑(UInt8.toNat c):Int)==45)=false/\di 0=di (↑0:Int)/\db ((↑(UInt8.toNat c):Int)==45)=db false/\D.v (V.int IntKind.u64 0)=vu 0/\di 0=di (↑0:Int)/\I0 DT σ0.H.length (Dn R) σ0 [kl CK [1,1,1,1,1,0,0,0],KI.blk 0,kc CK [1,1,1,1,1,1]] (mkE 142 [(0,D.v (V.str s)),(1,di (d:Int)),(4,D.ptr 0 0),(6,di (↑0:Int)),(7,db false),(8,vu 0),(9,di (↑0:Int))]) (St.mk [some [di 0,dn]] [])) ?_
   rw[hc2]
   exact⟨Hz (by omega),by decide,hc,rfl,rfl,rfl,rfl,rfl,⟨hlp⟩⟩
  ·refine sv DT 142 [] (.f<|.k<|.l [ke 0,ke 1,ke 4,ch 6 (di (0:Nat)),ch 7 (db false),ch 8 (vu 0),ch 9 (di (0:Nat))]) (decide (0<(s.length:Int))=false/\di 0=di (↑0:Int)/\Q (db false)/\D.v (V.int IntKind.u64 0)=vu 0/\di 0=di (↑0:Int)/\I0 DT σ0.H.length (Dn R) σ0 [kl CK [1,1,1,1,1,0,0,0],KI.blk 0,kc CK [1,1,1,1,1,1]] (mkE 142 [(0,D.v (V.str s)),(1,di (d:Int)),(4,D.ptr 0 0),(6,di (↑0:Int)),(7,db false),(8,vu 0),(9,di (↑0:Int))]) (St.mk [some [di 0,dn]] [])) ?_
   exact⟨H1 (by omega),rfl,rfl,rfl,rfl,⟨hlp⟩⟩
noncomputable abbrev P1:Func:= Tryz.f35
theorem Aao(s:List UInt8)(hs:s.length<=1000000):∃(v:Val) (e:Int),rgB v=true/\v.size<=128/\(e=0->Au v=s)/\(∀w,smB w=true->w.size<=128->Ay w=s->e=0/\v=w)/\Aa PP 35 [ds s] σ0 (.tup [dV v,di e]) σ0:=by
 by_cases hl:s.length<=4096
 ·have h:=Abx 128 (by decide) s hs
  have ht:∀w,smB w=true->w.size<=128->Ay w=s->rdR 128 s=some (w,s.length):=fun w h1 h2 h3=>by
   have:=Xk 128 w [] h1 h2 (fun y t e=>by simp at e)
   rwa[Il,h3] at this
  have hlt:decide ((s.length:Int)>4096)=false:=H1 (by omega)
  cases hr:rdR 128 s with
  |none=>
   rw[hr] at h
   refine⟨zeroV,12,rfl,by decide,fun e=>absurd e (by decide),fun w h1 h2 h3=>(by rw[ht w h1 h2 h3] at hr;cases hr),?_⟩
   refine sv P1 36 [] (.f<|.c (.tup [dV zeroV,di (-1)])<|.t .r) (decide ((s.length:Int)>4096)=false/\F0 59 [D.v (V.str s),di 128] (D.tup [dV zeroV,di (-1)])/\(-1 !=(s.length:Int))=true/\D.tup [D.v (V.agg [vi 0,V.list []]),di 12]=D.tup [dV zeroV,di 12]) ?_
   exact⟨hlt,h,bne_iff_ne.2 (by omega),rfl⟩
  |some vk=>
   obtain⟨v,k⟩:=vk
   rw[hr] at h
   obtain⟨k1,k2,k3,k4⟩:=Wg _ _ _ _ hr
   by_cases hk:k=s.length
   ·have htx:=Lm v k4
    by_cases hz:v.size<=128
    ·rw[HJ hz,HJ hz] at htx
     by_cases he:Au v=s
     ·refine⟨v,0,k4,hz,fun _=>he,fun w h1 h2 h3=>(by rw[ht w h1 h2 h3] at hr;cases hr;exact⟨rfl,rfl⟩),?_⟩
      rw[he] at htx
      refine sv P1 36 [] (.f<|.c (.tup [dV v,di k])<|.f<|.c (.tup [ds s,di 0])<|.k<|.f .r) (decide ((s.length:Int)>4096)=false/\F0 59 [D.v (V.str s),di 128] (D.tup [dV v,di (k:Int)])/\((k:Int) !=(s.length:Int))=false/\F0 26 [dV v] (D.tup [D.v (V.str s),di 0])/\(!s==s)=false/\D.tup [D.v (V.agg [vi v.n,V.list (map eV v.kids)]),di 0]=D.tup [dV v,di 0]) ?_
      exact⟨hlt,h,by rw[hk];exact bne_self_eq_false _,htx,by simp,rfl⟩
     ·refine⟨zeroV,12,rfl,by decide,fun e=>absurd e (by decide),fun w h1 h2 h3=>(by rw[ht w h1 h2 h3] at hr;cases hr;exact absurd (by rw[CE _ h1];exact h3) he),?_⟩
      generalize Au v=u at htx he
      refine sv P1 36 [] (.f<|.c (.tup [dV v,di k])<|.f<|.c (.tup [ds u,di 0])<|.k<|.t .r) (decide ((s.length:Int)>4096)=false/\F0 59 [D.v (V.str s),di 128] (D.tup [dV v,di (k:Int)])/\((k:Int) !=(s.length:Int))=false/\F0 26 [dV v] (D.tup [D.v (V.str u),di 0])/\(!u==s)=true/\D.tup [D.v (V.agg [vi 0,V.list []]),di 12]=D.tup [dV zeroV,di 12]) ?_
      exact⟨hlt,h,by rw[hk];exact bne_self_eq_false _,htx,by simpa using he,rfl⟩
    ·rw[HF hz,HF hz] at htx
     refine⟨zeroV,12,rfl,by decide,fun e=>absurd e (by decide),fun w h1 h2 h3=>(by rw[ht w h1 h2 h3] at hr;cases hr;exact absurd h2 hz),?_⟩
     refine sv P1 36 [] (.f<|.c (.tup [dV v,di k])<|.f<|.c (.tup [ds [],di 1]) .r) (decide ((s.length:Int)>4096)=false/\F0 59 [D.v (V.str s),di 128] (D.tup [dV v,di (k:Int)])/\((k:Int) !=(s.length:Int))=false/\F0 26 [dV v] (D.tup [D.v (V.str []),di 1])/\D.tup [D.v (V.agg [vi 0,V.list []]),di 12]=D.tup [dV zeroV,di 12]) ?_
     exact⟨hlt,h,by rw[hk];exact bne_self_eq_false _,htx,rfl⟩
   ·refine⟨zeroV,12,rfl,by decide,fun e=>absurd e (by decide),fun w h1 h2 h3=>(by rw[ht w h1 h2 h3] at hr;cases hr;exact absurd rfl hk),?_⟩
    refine sv P1 36 [] (.f<|.c (.tup [dV v,di k])<|.t .r) (decide ((s.length:Int)>4096)=false/\F0 59 [D.v (V.str s),di 128] (D.tup [dV v,di (k:Int)])/\((k:Int) !=(s.length:Int))=true/\D.tup [D.v (V.agg [vi 0,V.list []]),di 12]=D.tup [dV zeroV,di 12]) ?_
    exact⟨hlt,h,bne_iff_ne.2 (by omega),rfl⟩
 ·refine⟨zeroV,1,rfl,by decide,fun e=>absurd e (by decide),fun w h1 h2 h3=>absurd (show s.length<=4096 by have:=F6 w h1;rw[h3] at this;omega) hl,?_⟩
  refine sv P1 36 [] (.t .r) (decide ((s.length:Int)>4096)=true/\D.tup [D.v (V.agg [vi 0,V.list []]),di 1]=D.tup [dV zeroV,di 1]) ?_
  exact⟨Hz (by omega),rfl⟩
theorem Ut{m:Mod}{t:Typ}(hR:FP m t)(q:Qst)(hz:q.target.fit):Aa PP 28 [Ad m,dQ q] σ0 (db (Af m t q)) σ0:=by
 obtain⟨k,p,v⟩:=q
 rcases(show k=1∨k=2∨k=3∨k=4∨k=5∨k=6∨(k<1∨k>=7) by omega) with rfl|rfl|rfl|rfl|rfl|rfl|hk
 ·exact FY m t p v (hR.vany v)
 ·exact JI m t p v (hR.vany v)
 ·exact G2 m t hR.int p v hz
 ·exact FX m t hR.int p v hz
 ·exact L9 m t p v hz
 ·exact L8 m t p v hz
 ·have h:=NQ m p v k hk
  rwa[show false=Af m t ⟨k,p,v⟩ by simp only[Af];rw[HJ hk]] at h
theorem ST{m:Mod}{t:Typ}(hR:FP m t)(q:Qst)(hz:q.target.fit):Aa PP 11 [Ad m,dQ q] σ0 (di (if Af m t q then 0 else 48)) σ0:=
 FC m t hR.int q _ (Ut hR q hz)
theorem WU{m:Mod}{t:Typ}(hR:FP m t)(hP:m.places=[[120]]∨m.places=[[120],[121]])(q:Qst)(hz:q.target.fit):Aa PP 9 [Ad m,dQ q] σ0 (.tup [ds (txA m t q).1,di (txA m t q).2]) σ0:=by
 unfold txA
 cases h:Af m t q with
 |true=>exact VO m t hR.int hP q (hR.sm h).rd h
 |false=>
  have hc:=ST hR q hz
  rw[h] at hc
  exact Rw m q hc
noncomputable abbrev Wv:Func:= Tryz.f10
theorem t41{m:Mod}{t:Typ}(hR:FP m t)(hP:m.places=[[120]]∨m.places=[[120],[121]])(q:Qst):Aa PP 10 [Ad m,dQ q] σ0 (.tup [ds (txA m t q).1,di (txA m t q).2]) σ0:=by
 have hc:=chk41 hR q
 unfold txA
 cases h:Af m t q with
 |false=>
  rw[h] at hc
  refine sv Wv 44 [2,3] (.c (di 48)<|.r) (F0 12 [Ad m,D.v (vQ q)] (di 48)/\D.tup [D.v (V.str (ByteArray.mk #[]).data.toList),di 48]=D.tup [D.v (V.str (if false=true then(txI m q,0) else([],48)).fst),di (if false=true then(txI m q,0) else([],48)).snd]) ?_
  exact⟨hc,rfl⟩
 |true=>
  rw[h] at hc
  have hs:=hR.sm h
  have hz:=hs.size
  have htx:=Lm q.target hs.rd.rg
  rw[HJ hz,HJ hz] at htx
  have hln:=Cp q.target hs.rd.rg
  have hk:=D7 h
  cases hk with
  |cover v=>
   have hln:(Au v).length+2<=25*v.size:=hln
   have hz:v.size<=128:=hz
   rw[show txI m ⟨1,0,v⟩=AD++[32]++Au v from rfl]
   refine sv Wv 44 [2,3] (.c (di 0)<|.c (.tup [ds (Au v),di 0])<|.r) (F0 12 [Ad m,D.v (vQ (Qst.mk 1 0 v))] (di 0)/\F0 26 [D.v (V.agg [vi (Val.n (Qst.mk 1 0 v).target),vVs (Val.kids (Qst.mk 1 0 v).target)])] (D.tup [D.v (V.str (Au v)),di 0])/\length (ByteArray.mk #[99,111,118,101,114,32]).data.toList+length (Au v)<=9223372036854775807/\D.tup [D.v (V.str ((ByteArray.mk #[99,111,118,101,114,32]).data.toList++Au v)),di 0]=D.tup [D.v (V.str (if true=true then(AD++[32]++Au v,0) else([],48)).fst),di (if true=true then(AD++[32]++Au v,0) else([],48)).snd]) ?_
   exact⟨hc,htx,by show 6+_<=_;omega,rfl⟩
  |reach v=>
   have hln:(Au v).length+2<=25*v.size:=hln
   have hz:v.size<=128:=hz
   rw[show txI m ⟨2,0,v⟩=B6++[32]++Au v from rfl]
   refine sv Wv 44 [2,3] (.c (di 0)<|.c (.tup [ds (Au v),di 0])<|.r) (F0 12 [Ad m,D.v (vQ (Qst.mk 2 0 v))] (di 0)/\F0 26 [D.v (V.agg [vi (Val.n (Qst.mk 2 0 v).target),vVs (Val.kids (Qst.mk 2 0 v).target)])] (D.tup [D.v (V.str (Au v)),di 0])/\length (ByteArray.mk #[114,101,97,99,104,32]).data.toList+length (Au v)<=9223372036854775807/\D.tup [D.v (V.str ((ByteArray.mk #[114,101,97,99,104,32]).data.toList++Au v)),di 0]=D.tup [D.v (V.str (if true=true then(B6++[32]++Au v,0) else([],48)).fst),di (if true=true then(B6++[32]++Au v,0) else([],48)).snd]) ?_
   exact⟨hc,htx,by show 6+_<=_;omega,rfl⟩
  |bounded=>
   refine sv Wv 44 [2,3] (.c (di 0)<|.c (.tup [ds (Au zeroV),di 0])<|.r) (F0 12 [Ad m,D.v (vQ (Qst.mk 3 0 zeroV))] (di 0)/\F0 26 [D.v (V.agg [vi (Val.n (Qst.mk 3 0 zeroV).target),vVs (Val.kids (Qst.mk 3 0 zeroV).target)])] (D.tup [D.v (V.str (Au zeroV)),di 0])/\D.tup [D.v (V.str (ByteArray.mk #[98,111,117,110,100,101,100]).data.toList),di 0]=D.tup [D.v (V.str (if true=true then(txI m (Qst.mk 3 0 zeroV),0) else([],48)).fst),di (if true=true then(txI m (Qst.mk 3 0 zeroV),0) else([],48)).snd]) ?_
   exact⟨hc,htx,rfl⟩
  |place n hn=>
   obtain⟨nm,hnm⟩:∃nm,m.places[n]?=some nm:=⟨_,Hx hn⟩
   have e4:txI m ⟨4,n,zeroV⟩=A0++[32]++nm:=by
    simp only[txI]
    rw[HF (by decide),HF (by decide),HF (by decide),HJ trivial,H6,show((n:Nat):Int).toNat=n from rfl,hnm];rfl
   have hnl:nm.length<=1000:=by
    have h1:∀x∈m.places,x.length<=1000:=by
     rcases hP with e|e<;>rw[e]<;>decide
    exact h1 _ (H4 hnm)
   rw[e4]
   refine sv Wv 44 [2,3] (.c (di 0)<|.c (.tup [ds (Au zeroV),di 0])<|.x (.str nm) .r) (F0 12 [Ad m,D.v (vQ (Qst.mk 4 (n:Int) zeroV))] (di 0)/\F0 26 [D.v (V.agg [vi (Val.n (Qst.mk 4 (n:Int) zeroV).target),vVs (Val.kids (Qst.mk 4 (n:Int) zeroV).target)])] (D.tup [D.v (V.str (Au zeroV)),di 0])/\0<=(Qst.mk 4 (n:Int) zeroV).place/\(map V.str m.places)[Int.toNat (Qst.mk 4 (n:Int) zeroV).place]?=some (V.str nm)/\length (ByteArray.mk #[112,108,97,99,101,32]).data.toList+length nm<=9223372036854775807/\D.tup [D.v (V.str ((ByteArray.mk #[112,108,97,99,101,32]).data.toList++nm)),di 0]=D.tup [D.v (V.str (if true=true then(A0++[32]++nm,0) else([],48)).fst),di (if true=true then(A0++[32]++nm,0) else([],48)).snd]) ?_
   exact⟨hc,htx,by show(0:Int)<=n;omega,BA hnm,by show 6+_<=_;omega,rfl⟩
  |dead=>
   refine sv Wv 44 [2,3] (.c (di 0)<|.c (.tup [ds (Au zeroV),di 0])<|.r) (F0 12 [Ad m,D.v (vQ (Qst.mk 5 0 zeroV))] (di 0)/\F0 26 [D.v (V.agg [vi (Val.n (Qst.mk 5 0 zeroV).target),vVs (Val.kids (Qst.mk 5 0 zeroV).target)])] (D.tup [D.v (V.str (Au zeroV)),di 0])/\D.tup [D.v (V.str (ByteArray.mk #[100,101,97,100]).data.toList),di 0]=D.tup [D.v (V.str (if true=true then(txI m (Qst.mk 5 0 zeroV),0) else([],48)).fst),di (if true=true then(txI m (Qst.mk 5 0 zeroV),0) else([],48)).snd]) ?_
   exact⟨hc,htx,rfl⟩
  |home=>
   refine sv Wv 44 [2,3] (.c (di 0)<|.c (.tup [ds (Au zeroV),di 0])<|.r) (F0 12 [Ad m,D.v (vQ (Qst.mk 6 0 zeroV))] (di 0)/\F0 26 [D.v (V.agg [vi (Val.n (Qst.mk 6 0 zeroV).target),vVs (Val.kids (Qst.mk 6 0 zeroV).target)])] (D.tup [D.v (V.str (Au zeroV)),di 0])/\D.tup [D.v (V.str (ByteArray.mk #[104,111,109,101]).data.toList),di 0]=D.tup [D.v (V.str (if true=true then(txI m (Qst.mk 6 0 zeroV),0) else([],48)).fst),di (if true=true then(txI m (Qst.mk 6 0 zeroV),0) else([],48)).snd]) ?_
   exact⟨hc,htx,rfl⟩
noncomputable abbrev Ab1:Func:= Tryz.f14
theorem s41(p q:Qst)(hp:p.target.fit):Aa PP 14 [dQ p,dQ q] σ0 (db (sameQ p q)) σ0:=by
 have h:=Lw p.target q.target hp
 refine sv Ab1 24 [2,3] (.b (.b (.c (db (Aq p.target q.target==0)) .r) .r) .r) (((p.kind==q.kind)=true->((p.place==q.place)=true->F0 33 [dV p.target,dV q.target] (db (Aq p.target q.target==0))/\db (Aq p.target q.target==0)=db (sameQ p q))/\((p.place==q.place)=false->db false=db (sameQ p q)))/\((p.kind==q.kind)=false->db false=db (sameQ p q))) ?_
 refine⟨fun h1=>⟨fun h2=>⟨h,?_⟩,fun h2=>?_⟩,fun h1=>?_⟩
 all_goals simp only[sameQ,h1, *,HV,HT,Bool.and_true,IR]
theorem Xl(p q:Qst)(hp:p.target.fit):Aa PP 13 [dQ p,dQ q] σ0 (db (sameQ p q)) σ0:=by
 have h:=Lr p.target q.target hp
 refine sv Ab4 24 [2,3] (.b (.b (.c (db (Aq p.target q.target==0)) .r) .r) .r) (((p.kind==q.kind)=true->((p.place==q.place)=true->F0 32 [dV p.target,dV q.target] (db (Aq p.target q.target==0))/\db (Aq p.target q.target==0)=db (sameQ p q))/\((p.place==q.place)=false->db false=db (sameQ p q)))/\((p.kind==q.kind)=false->db false=db (sameQ p q))) ?_
 refine⟨fun h1=>⟨fun h2=>⟨h,?_⟩,fun h2=>?_⟩,fun h1=>?_⟩
 all_goals simp only[sameQ,h1, *,HV,HT,Bool.and_true,IR]
noncomputable abbrev EP:Func:= Tryz.f17
noncomputable def DJ:Code:=EP.body.getD .skip
abbrev ET:Qst:=⟨0,0,zeroV⟩
def Cc(m:Mod)(t:Typ)(s:List UInt8):List Qst->Qst×Int
 |[]=>(ET,12)
 |q::l=>if rdA m t q s then(q,0) else Cc m t s l
abbrev stP(L:List Qst):St:=⟨[some [di 0,di 0,di 0,.v .nils]],[(1,4,L.map vQ)]⟩
abbrev Hd(L:List Qst):D:=.acc 1 (L.map vQ)
def plF:Nat->Nat->List Qst
 |_,0=>[]
 |k,n+1=>⟨4,k,zeroV⟩::plF (k+1) n
theorem R8(m:Mod)(hm:m.places.length<=1000)(s:List UInt8)(r:Qst)(e:Int)(n:Nat):∀(k:Nat) (L:List Qst),m.places.length-k=n->k<=m.places.length->L.length<=k+3->
  (∀L',L'=L++plF k n->Rn PP EP 0 (.tup [dQ r,di e]) σ0 ([.code (sub DJ [1,1,1,1,1,1])]++[]) (mkE 89 [(1,ds s),(2,.v (.ref (Az m))),(4,.ptr 0 0),(7,Hd L')]) (stP L'))->
  Rn PP EP 0 (.tup [dQ r,di e]) σ0 ([.lp (sub DJ [1,1,1,1,1,0,1,0,0]),.blk 0]++[.code (sub DJ [1,1,1,1,1,1])]) (mkE 89 [(1,ds s),(2,.v (.ref (Az m))),(4,.ptr 0 0),(7,Hd L),(8,di k)]) (stP L):=by
 induction n with
 |zero=>
  intro k L hn hk hl h
  have h:=h L (by simp[plF])
  refine lv 89 [2] (.f<|.ls [ke 1,ke 2,ke 4,ke 7] (stP L)) (decide ((k:Int)<(length (map V.str m.places):Int))=false/\Q [some [di 0,di 0,di 0,dn]]/\Q [(1,4,map vQ L)]/\I0 EP 0 (D.tup [dQ r,di e]) σ0 [kc DJ [1,1,1,1,1,1]] (mkE 89 [(1,D.v (V.str s)),(2,D.v (V.ref (Az m))),(4,D.ptr 0 0),(7,D.acc 1 (map vQ L))]) (stP L)) ?_
  exact⟨H1 (by rw[Hw];omega),rfl,rfl,⟨h⟩⟩
 |succ n ih=>
  intro k L hn hk hl h
  obtain⟨L2,hL2⟩:∃L2,L2=L++[⟨4,(k:Nat),zeroV⟩]:=⟨_,rfl⟩
  have e2:L.map vQ++[vQ ⟨4,(k:Nat),zeroV⟩]=L2.map vQ:=by rw[hL2,IC];rfl
  have hih:=ih (k+1) L2 (by omega) (by omega) (by rw[hL2];simp only[HC,H3,H7];omega) (fun L' e=>h L' (by rw[e,hL2,plF];simp))
  refine lv 89 [2] (.t<|.ls [ke 1,ke 2,ke 4,ch 7 (Hd L2),ch 8 (di (k+1:Nat))] (stP L2)) (decide ((k:Int)<(length (map V.str m.places):Int))=true/\Q (map vQ L)/\Ax (length (map vQ L)+length (V.agg (V.int IntKind.i64 4::V.int IntKind.i64 (k:Int)::V.int IntKind.i64 0::V.list nV::nV)::nV)) 48/\D.acc 1 (map vQ L++[V.agg [vi 4,vi (k:Int),vi 0,V.list []]])=Hd L2/\di (wrap IntKind.i64 ((k:Int)+1))=di (↑(k+1):Int)/\Q [some [di 0,di 0,di 0,dn]]/\[(1,4,map vQ L++V.agg (vi 4::vi (k:Int)::vi 0::V.list nV::nV)::nV)]=[(1,4,map vQ L2)]/\I0 EP 0 (D.tup [dQ r,di e]) σ0 [kl DJ [1,1,1,1,1,0,1,0,0],KI.blk 0,kc DJ [1,1,1,1,1,1]] (mkE 89 [(1,D.v (V.str s)),(2,D.v (V.ref (Az m))),(4,D.ptr 0 0),(7,Hd L2),(8,di (↑(k+1):Int))]) (stP L2)) ?_
  exact⟨Hz (by rw[Hw];omega),rfl,by constructor<;>(simp only[Hw,H3,H7];omega),HL (D.acc 1) e2,Ae (by omega),rfl,HL (fun x=>[(1,4,x)]) e2,⟨hih⟩⟩
theorem R7{m:Mod}{t:Typ}(hR:FP m t)(hP:m.places=[[120]]∨m.places=[[120],[121]])(s:List UInt8)(L:List Qst)(hL:L.length<=1000)(n:Nat):∀k:Nat,L.length-k=n->
  Rn PP EP 0 (.tup [dQ (Cc m t s (L.drop k)).1,di (Cc m t s (L.drop k)).2]) σ0 ([.lp (sub DJ [1,1,1,1,1,1,1,0,1,0,0]),.blk 2,.code (sub DJ [1,1,1,1,1,1,1,1])]++[]) (mkE 89 [(1,ds s),(2,.v (.ref (Az m))),(4,.ptr 0 0),(7,Hd L),(11,di k)]) (stP L):=by
 induction n with
 |zero=>
  intro k hn
  rw[HI (by omega)]
  refine lv 89 [2] (.f<|.r) (decide ((k:Int)<(length (map vQ L):Int))=false/\D.tup [D.v (V.agg [vi 0,vi 0,vi 0,V.list []]),di 12]=D.tup [dQ (Cc m t s []).fst,di (Cc m t s []).snd]) ?_
  exact⟨H1 (by rw[Hw];omega),rfl⟩
 |succ n ih=>
  intro k hn
  obtain⟨q,hq⟩:∃q,L[k]?=some q:=⟨_,Hx (by omega)⟩
  have hih:=ih (k+1) (by omega)
  have ht:=t41 hR hP q
  have hlt:decide ((k:Int)<((L.map vQ).length:Int))=true:=Hz (by rw[Hw];omega)
  have hx:(L.map vQ)[Int.toNat (k:Int)]?=some (vQ q):=by simp[hq]
  obtain⟨hkl,hqe⟩:=H0.1 hq
  rw[HD hkl,hqe,Cc]
  unfold txA at ht
  unfold rdA
  generalize txI m q=u at ht⊢
  cases hv:Af m t q with
  |false=>
   rw[hv] at ht
   rw[HF (by simp)]
   generalize Cc m t s (L.drop (k+1))=R at hih⊢
   refine lv 89 [2] (.t<|.x (vQ q)<|.c (.tup [ds [],di 48])<|.k<|.l [ke 1,ke 2,ke 4,ke 7,ch 11 (di (k+1:Nat))]) (decide ((k:Int)<(length (map vQ L):Int))=true/\0<=(k:Int)/\(map vQ L)[Int.toNat (k:Int)]?=some (vQ q)/\F0 10 [Ad m,D.v (vQ q)] (D.tup [D.v (V.str []),di 48])/\di (wrap IntKind.i64 ((k:Int)+1))=di (↑(k+1):Int)/\I0 EP 0 (D.tup [dQ R.fst,di R.snd]) σ0 [kl DJ [1,1,1,1,1,1,1,0,1,0,0],KI.blk 2,kc DJ [1,1,1,1,1,1,1,1]] (mkE 89 [(1,D.v (V.str s)),(2,D.v (V.ref (Az m))),(4,D.ptr 0 0),(7,D.acc 1 (map vQ L)),(11,di (↑(k+1):Int))]) (St.mk [some [di 0,di 0,di 0,dn]] [(1,4,map vQ L)])) ?_
   exact⟨hlt,by omega,hx,ht,Ae (by omega),⟨hih⟩⟩
  |true=>
   rw[hv] at ht
   by_cases hs:u=s
   ·subst hs
    rw[HJ (by simp)]
    refine lv 89 [2] (.t<|.x (vQ q)<|.c (.tup [ds u,di 0])<|.k<|.t<|.x (vQ q)<|.r) (decide ((k:Int)<(length (map vQ L):Int))=true/\0<=(k:Int)/\(map vQ L)[Int.toNat (k:Int)]?=some (vQ q)/\F0 10 [Ad m,D.v (vQ q)] (D.tup [D.v (V.str u),di 0])/\(u==u)=true/\0<=(k:Int)/\(map vQ L)[Int.toNat (k:Int)]?=some (vQ q)/\D.tup [D.v (V.agg [vi q.kind,vi q.place,vi q.target.n,V.list (map eV q.target.kids)]),di 0]=D.tup [dQ (q,0).fst,di (q,0).snd]) ?_
    exact⟨hlt,by omega,hx,ht,by simp,by omega,hx,rfl⟩
   ·rw[HF (by simpa using hs)]
    generalize Cc m t s (L.drop (k+1))=R at hih⊢
    refine lv 89 [2] (.t<|.x (vQ q)<|.c (.tup [ds u,di 0])<|.k<|.f<|.l [ke 1,ke 2,ke 4,ke 7,ch 11 (di (k+1:Nat))]) (decide ((k:Int)<(length (map vQ L):Int))=true/\0<=(k:Int)/\(map vQ L)[Int.toNat (k:Int)]?=some (vQ q)/\F0 10 [Ad m,D.v (vQ q)] (D.tup [D.v (V.str u),di 0])/\(u==s)=false/\di (wrap IntKind.i64 ((k:Int)+1))=di (↑(k+1):Int)/\I0 EP 0 (D.tup [dQ R.fst,di R.snd]) σ0 [kl DJ [1,1,1,1,1,1,1,0,1,0,0],KI.blk 2,kc DJ [1,1,1,1,1,1,1,1]] (mkE 89 [(1,D.v (V.str s)),(2,D.v (V.ref (Az m))),(4,D.ptr 0 0),(7,D.acc 1 (map vQ L)),(11,di (↑(k+1):Int))]) (St.mk [some [di 0,di 0,di 0,dn]] [(1,4,map vQ L)])) ?_
    exact⟨hlt,by omega,hx,ht,by simpa using hs,Ae (by omega),⟨hih⟩⟩
abbrev DL:List Qst:=[⟨3,0,zeroV⟩,⟨5,0,zeroV⟩,⟨6,0,zeroV⟩]
def tgR(o:Option Val):List Qst:=match o with
 |none=>[]
 |some v=>[⟨1,0,v⟩,⟨2,0,v⟩]
theorem MN:∀n k,(plF k n).length=n
 |0,_=>rfl
 |n+1,k=>by rw[plF,H3,MN n]
theorem U1{m:Mod}{t:Typ}(hR:FP m t)(hP:m.places=[[120]]∨m.places=[[120],[121]])(s:List UInt8)(hs:s.length<=4096):∃o:Option Val,(∀w,smB w=true->w.size<=128->6<s.length->Ay w=s.drop 6->o=some w)/\
  Aa PP 17 [Ad m,ds s] σ0 (.tup [dQ (Cc m t s (DL++plF 0 m.places.length++tgR o)).1,di (Cc m t s (DL++plF 0 m.places.length++tgR o)).2]) σ0:=by
 have hm:m.places.length<=2:=by rcases hP with e|e<;>rw[e]<;>decide
 have hc:=hR.chk15
 have hk:=hR.kind
 obtain⟨v,e,v1,v2,v3,v4,hp⟩:=Aao (s.drop 6) (by rw[I3];omega)
 have main (o:Option Val) (hrest:∀L',L'=DL++plF 0 m.places.length->Rn PP EP 0 (.tup [dQ (Cc m t s (DL++plF 0 m.places.length++tgR o)).1,di (Cc m t s (DL++plF 0 m.places.length++tgR o)).2]) σ0 ([.code (sub DJ [1,1,1,1,1,1])]++[]) (mkE 89 [(1,ds s),(2,.v (.ref (Az m))),(4,.ptr 0 0),(7,Hd L')]) (stP L')):
   Aa PP 17 [Ad m,ds s] σ0 (.tup [dQ (Cc m t s (DL++plF 0 m.places.length++tgR o)).1,di (Cc m t s (DL++plF 0 m.places.length++tgR o)).2]) σ0:=by
  generalize Cc m t s (DL++plF 0 m.places.length++tgR o)=R at hrest⊢
  obtain⟨B,hB⟩:∃B,B=DL:=⟨_,rfl⟩
  rw[←hB] at hrest
  have h1:=R8 m (by omega) s R.1 R.2 m.places.length 0 B (by omega) (HW _) (by rw[hB];decide) hrest
  have hB2:[vQ ⟨3,0,zeroV⟩,vQ ⟨5,0,zeroV⟩,vQ ⟨6,0,zeroV⟩]=B.map vQ:=by rw[hB];rfl
  clear hrest hp v1 v2 v3 v4 hB
  refine sv EP 89 [2] (.c (di 0)<|.k<|.f<|.f<|.a 1<|.ls [ke 1,ke 2,ke 4,ch 7 (Hd B),ch 8 (di (0:Nat))] (stP B)) (F0 29 [Ad m] (di 0)/\(m.kind==6)=false/\decide ((s.length:Int)>4096)=false/\D.acc 1 [V.agg [vi 3,vi 0,vi 0,V.list []],V.agg [vi 5,vi 0,vi 0,V.list []],V.agg [vi 6,vi 0,vi 0,V.list []]]=Hd B/\di 0=di (↑0:Int)/\Q [some [di 0,di 0,di 0,dn]]/\[(1,4,V.agg (vi 3::vi 0::vi 0::V.list nV::nV)::V.agg (vi 5::vi 0::vi 0::V.list nV::nV)::V.agg (vi 6::vi 0::vi 0::V.list nV::nV)::nV)]=[(1,4,map vQ B)]/\I0 EP σ0.H.length (D.tup [dQ R.fst,di R.snd]) σ0 [kl DJ [1,1,1,1,1,0,1,0,0],KI.blk 0,kc DJ [1,1,1,1,1,1]] (mkE 89 [(1,D.v (V.str s)),(2,D.v (V.ref (Az m))),(4,D.ptr 0 0),(7,Hd B),(8,di (↑0:Int))]) (stP B)) ?_
  exact⟨hc,hk,H1 (by omega),HL (D.acc 1) hB2,rfl,rfl,HL (fun x=>[(1,4,x)]) hB2,⟨h1⟩⟩
 have loop2:∀(o:Option Val) (L2:List Qst),L2=DL++plF 0 m.places.length++tgR o->Rn PP EP 0 (.tup [dQ (Cc m t s (DL++plF 0 m.places.length++tgR o)).1,di (Cc m t s (DL++plF 0 m.places.length++tgR o)).2]) σ0 ([.lp (sub DJ [1,1,1,1,1,1,1,0,1,0,0]),.blk 2,.code (sub DJ [1,1,1,1,1,1,1,1])]++[]) (mkE 89 [(1,ds s),(2,.v (.ref (Az m))),(4,.ptr 0 0),(7,Hd L2),(11,di (0:Nat))]) (stP L2):=fun o L2 e=>by
  have:=R7 hR hP s L2 (by rw[e];simp only[HC,MN,H3,H7];cases o<;>simp[tgR]<;>omega) _ 0 rfl
  rw[IP] at this
  rw[←e];exact this
 by_cases h6:6<s.length
 ·by_cases he:e=0
  ·subst he
   refine⟨some v,fun w h1 h2 _ h3=>by rw[(v4 w h1 h2 h3).2],main _ fun L' e=>?_⟩
   have h2:=loop2 (some v) (L'++tgR (some v)) (by rw[e])
   generalize Cc m t s (DL++plF 0 m.places.length++tgR (some v))=R at h2⊢
   obtain⟨L2,hL2⟩:∃L2,L2=L'++tgR (some v):=⟨_,rfl⟩
   have e2:L'.map vQ++[vQ ⟨1,0,v⟩,vQ ⟨2,0,v⟩]=L2.map vQ:=by rw[hL2,IC];rfl
   have hl:L'.length<=10:=by rw[e];simp only[HC,MN,H3,H7];omega
   rw[←hL2] at h2
   clear loop2 main e hL2
   refine BB mixed 89 [] (.t<|.c (.tup [dV v,di 0])<|.ls [ke 1,ke 2,ke 4,ch 7 (Hd L2),ch 11 (di (0:Nat))] (stP L2)) ?_
   refine via (by kernel_rfl:(decide ((s.length:Int)>6)=true/\0<=(6:Int)/\(6:Int)<=(s.length:Int)/\F0 35 [D.v (V.str (List.drop (Int.toNat ((6:Int))) (take s.length s)))] (D.tup [dV v,di 0])/\Q (map vQ L')/\Ax (length (map vQ L')+length (V.agg (V.int IntKind.i64 1::V.int IntKind.i64 0::vi v.n::vVs v.kids::nV)::V.agg (V.int IntKind.i64 2::V.int IntKind.i64 0::vi v.n::vVs v.kids::nV)::nV)) 48/\D.acc 1 (map vQ L'++[V.agg [vi 1,vi 0,vi v.n,vVs v.kids],V.agg [vi 2,vi 0,vi v.n,vVs v.kids]])=Hd L2/\di 0=di (↑0:Int)/\Q [some [di 0,di 0,di 0,dn]]/\[(1,4,map vQ L'++V.agg (vi 1::vi 0::vi v.n::vVs v.kids::nV)::V.agg (vi 2::vi 0::vi v.n::vVs v.kids::nV)::nV)]=[(1,4,map vQ L2)]/\I0 EP 0 (D.tup [dQ R.fst,di R.snd]) σ0 [kl DJ [1,1,1,1,1,1,1,0,1,0,0],KI.blk 2,kc DJ [1,1,1,1,1,1,1,1]] (mkE 89 [(1,D.v (V.str s)),(2,D.v (V.ref (Az m))),(4,D.ptr 0 0),(7,Hd L2),(11,di (↑0:Int))]) (stP L2))=_) ?_
   exact⟨Hz (by omega),by decide,by omega,by rw[List.take_length];exact hp,rfl,by constructor<;>(simp only[Hw,H3,H7];omega),HL (D.acc 1) e2,rfl,rfl,HL (fun x=>[(1,4,x)]) e2,⟨h2⟩⟩
  ·refine⟨none,fun w h1 h2 _ h3=>absurd (v4 w h1 h2 h3).1 he,main _ fun L' e'=>?_⟩
   have h2:=loop2 none L' (by rw[e'];simp[tgR])
   generalize Cc m t s (DL++plF 0 m.places.length++tgR none)=R at h2⊢
   clear loop2 main e'
   refine BB mixed 89 [] (.t<|.c (.tup [dV v,di e])<|.f<|.ls [ke 1,ke 2,ke 4,ke 7,ch 11 (di (0:Nat))] (stP L')) ?_
   refine via (by kernel_rfl:(decide ((s.length:Int)>6)=true/\0<=(6:Int)/\(6:Int)<=(s.length:Int)/\F0 35 [D.v (V.str (List.drop (Int.toNat ((6:Int))) (take s.length s)))] (D.tup [dV v,di e])/\(e==0)=false/\di 0=di (↑0:Int)/\Q [some [di 0,di 0,di 0,dn]]/\Q [(1,4,map vQ L')]/\I0 EP 0 (D.tup [dQ R.fst,di R.snd]) σ0 [kl DJ [1,1,1,1,1,1,1,0,1,0,0],KI.blk 2,kc DJ [1,1,1,1,1,1,1,1]] (mkE 89 [(1,D.v (V.str s)),(2,D.v (V.ref (Az m))),(4,D.ptr 0 0),(7,D.acc 1 (map vQ L')),(11,di (↑0:Int))]) (stP L'))=_) ?_
   exact⟨Hz (by omega),by decide,by omega,by rw[List.take_length];exact hp,Ia.2 he,rfl,rfl,rfl,⟨h2⟩⟩
 ·refine⟨none,fun w _ _ h=>absurd h h6,main _ fun L' e'=>?_⟩
  have h2:=loop2 none L' (by rw[e'];simp[tgR])
  generalize Cc m t s (DL++plF 0 m.places.length++tgR none)=R at h2⊢
  clear loop2 main e'
  refine BB mixed 89 [] (.f<|.ls [ke 1,ke 2,ke 4,ke 7,ch 11 (di (0:Nat))] (stP L')) ?_
  refine via (by kernel_rfl:(decide ((s.length:Int)>6)=false/\di 0=di (↑0:Int)/\Q [some [di 0,di 0,di 0,dn]]/\Q [(1,4,map vQ L')]/\I0 EP 0 (D.tup [dQ R.fst,di R.snd]) σ0 [kl DJ [1,1,1,1,1,1,1,0,1,0,0],KI.blk 2,kc DJ [1,1,1,1,1,1,1,1]] (mkE 89 [(1,D.v (V.str s)),(2,D.v (V.ref (Az m))),(4,D.ptr 0 0),(7,D.acc 1 (map vQ L')),(11,di (↑0:Int))]) (stP L'))=_) ?_
  exact⟨H1 (by omega),rfl,rfl,rfl,⟨h2⟩⟩
theorem So:∀(n k i:Nat),k<=i->i<k+n->(⟨4,(i:Nat),zeroV⟩:Qst)∈plF k n
 |0,k,i,h1,h2=>by omega
 |n+1,k,i,h1,h2=>by
  rw[plF]
  by_cases e:i=k
  ·rw[e];exact List.mem_cons_self
  ·exact List.mem_cons_of_mem _ (So n (k+1) i (by omega) (by omega))
theorem JT{m:Mod}{t:Typ}{s:List UInt8}:∀{L:List Qst},(∀q∈L,rdA m t q s=false)->Cc m t s L=(ET,12)
 |[],_=>rfl
 |q::L,h=>by rw[Cc,h q (by simp)];exact JT fun x hx=>h x (by simp[hx])
theorem LY{m:Mod}{t:Typ}{s:List UInt8}{q:Qst}(hq:rdA m t q s=true):∀{L:List Qst},q∈L->(∀p,rdA m t p s=true->p=q)->Cc m t s L=(q,0)
 |p::L,hm,hu=>by
  rw[Cc]
  cases h:rdA m t p s with
  |true=>rw[hu p h];rfl
  |false=>
   rcases Ib.1 hm with rfl|hm
   ·rw[hq] at h;cases h
   ·exact LY hq hm hu
theorem VP{m:Mod}{t:Typ}(hR:FP m t){q:Qst}(hv:Af m t q=true):txI m q=Tn m q:=by
 simp only[txI,Tn,CE q.target (hR.sm hv).small]
theorem SD(w v:List UInt8)(h:w.length=6):(w++v).drop 6=v:=by rw[←h,List.drop_left]
theorem OS{m:Mod}{t:Typ}(hR:FP m t)(hP:m.places=[[120]]∨m.places=[[120],[121]])(s:List UInt8)(hs:s.length<=1000000):∃(q:Qst) (e:Int),q.target.fit/\
  Aa PP 16 [Ad m,ds s] σ0 (.tup [dQ q,di e]) σ0/\Aa PP 17 [Ad m,ds s] σ0 (.tup [dQ q,di e]) σ0:=by
 have hz:zeroV.fit:=⟨HW _,trivial⟩
 by_cases hl:s.length<=4096
 ·obtain⟨o,ho,h41⟩:=U1 hR hP s hl
  by_cases hex:∃q,Af m t q=true/\txI m q=s
  ·obtain⟨q,hv,ht⟩:=hex
   have hsm:=hR.sm hv
   have hp:=OT m t hR.int hP q hsm hv (by rw[ht];exact hl)
   rw[ht] at hp
   refine⟨q,0,Val.fit_of _ (by have:=hsm.size;omega),hp,?_⟩
   rw[LY (q:=q) (by rw[←ht];exact NO hv) ?_ ?_] at h41
   ·exact h41
   ·have hk:=D7 hv
    have ho':∀(w6:List UInt8) (v:Val),w6.length=6->SmV v->w6++Au v=s->o=some v:=fun w6 v h6 h1 h2=>by
     have h3:=F6 v h1.small
     refine ho v h1.small h1.size ?_ ?_
     ·have:0<(Ay v).length:=by
       obtain⟨n,l⟩:=v
       have:=KR n.toNat
       rw[Ay,HC];omega
      rw[←h2,HC,CE v h1.small];omega
     ·rw[←h2,SD _ _ h6,CE v h1.small]
    cases hk with
    |cover v=>rw[ho' (AD++[32]) v rfl hsm ht];simp[tgR]
    |reach v=>rw[ho' (B6++[32]) v rfl hsm ht];simp[tgR]
    |bounded=>simp
    |place n hn=>exact List.mem_append_left _ (List.mem_append_right _ (So _ 0 n (HW _) (by omega)))
    |dead=>simp
    |home=>simp
   ·intro p hp
    obtain⟨p1,p2⟩:=DE hp
    refine(QH hP (D7 p1) (D7 hv) (hR.sm p1).small hsm.small).1 ?_
    rw[←VP hR p1, ←VP hR hv,p2,ht]
  ·have hno:∀q,rdA m t q s=false:=fun q=>by
    cases h:rdA m t q s with
    |false=>rfl
    |true=>exact absurd ⟨q,DE h⟩ hex
   rw[JT fun q _=>hno q] at h41
   refine⟨ET,12,hz,?_,h41⟩
   obtain⟨q,b,q1,q2,q3⟩:=Up m t hR.int hP s hs
   cases b with
   |true=>exact absurd ⟨q,q2 rfl⟩ hex
   |false=>
    have hw:=hR.int.walks
    refine sv Vn 29 [2] (.c (di 0)<|.k<|.f<|.c (.tup [dQ q,db false])<|.k .r) (F0 27 [Ad m] (di 0)/\decide ((s.length:Int)>4096)=false/\F0 34 [Ad m,D.v (V.str s)] (D.tup [dQ q,db false])/\D.tup [D.v (V.agg [vi 0,vi 0,vi 0,V.list []]),di 12]=D.tup [dQ ET,di 12]) ?_
    exact⟨hw,H1 (by omega),q3,rfl⟩
 ·refine⟨ET,1,hz,?_,?_⟩
  ·have hw:=hR.int.walks
   refine sv Vn 29 [2] (.c (di 0)<|.k<|.t<|.r) (F0 27 [Ad m] (di 0)/\decide ((s.length:Int)>4096)=true/\D.tup [D.v (V.agg [vi 0,vi 0,vi 0,V.list []]),di 1]=D.tup [dQ ET,di 1]) ?_
   exact⟨hw,Hz (by omega),rfl⟩
  ·have hc:=hR.chk15
   have hk:=hR.kind
   refine sv EP 89 [2] (.c (di 0)<|.k<|.f<|.t<|.r) (F0 29 [Ad m] (di 0)/\(m.kind==6)=false/\decide ((s.length:Int)>4096)=true/\D.tup [D.v (V.agg [vi 0,vi 0,vi 0,V.list []]),di 1]=D.tup [dQ ET,di 1]) ?_
   exact⟨hc,hk,Hz (by omega),rfl⟩
structure DQ(x:Mod)(e:Int):Prop where
 ne:(e !=0)=true
 walks:Aa PP 27 [Ad x] σ0 (di e) σ0
 ref:Aa PP 29 [Ad x] σ0 (di e) σ0∨(Aa PP 29 [Ad x] σ0 (di 0) σ0/\(x.kind==6)=true/\e=15)
theorem DQ.of{x:Mod}{e:Int}(hne:(e !=0)=true)(hc:Aa PP 45 [Ad x] σ0 (di e) σ0)(hr:Aa PP 29 [Ad x] σ0 (di e) σ0):DQ x e:=by
 refine⟨hne,?_,.inl hr⟩
 refine sv Aab 12 [1] (.c (di e)<|.t .r) (F0 45 [Ad x] (di e)/\(e !=0)=true/\Q (di e)) ?_
 exact⟨hc,hne,rfl⟩
theorem AbO(x:Mod)(h:x.kind=9):DQ x 15:=by
 have hb:An x.kind 1 6=false:=by rw[h];rfl
 have h15:=hb▸A6 x.kind 1 6
 refine .of rfl (GT x false false true true true true hb (fun e=>by cases e) (fun e=>by cases e) (fun e=>by cases e) (fun e=>by cases e) (fun e=>by cases e)) ?_
 refine sv Ek 52 [1] (.c (db false)<|.r) (F0 48 [di x.kind,di 1,di 6] (db false)/\Q (di 15)) ?_
 exact⟨h15,rfl⟩
theorem X8(x:Mod)(hk:x.kind=1∨x.kind=2∨x.kind=3∨x.kind=5)(hs:x.states=[]):Aa PP 49 [Ad x] σ0 (db false) σ0:=by
 have h0:Aa PP 48 [di 0,di 1,di 8] σ0 (db false) σ0:=A6 0 1 8
 obtain⟨kind,states,places,letters,ranks,levels,age,rules,start⟩:=x
 dsimp only at*
 subst hs
 rcases hk with rfl|rfl|rfl|rfl
 ·refine sv Ej 81 [1] (.c (db false) .r) (F0 48 [di (length (map V.str (Mod.mk 1 [] places letters ranks levels age rules start).states):Int),di 1,di 8] (db false)/\Q (db false)) ?_
  exact⟨h0,rfl⟩
 ·refine sv Ej 81 [1] (.c (db false) .r) (F0 48 [di (length (map V.str (Mod.mk 2 [] places letters ranks levels age rules start).states):Int),di 1,di 8] (db false)/\Q (db false)) ?_
  exact⟨h0,rfl⟩
 ·refine sv Ej 81 [1] (.c (db false) .r) (F0 48 [di (length (map V.str (Mod.mk 3 [] places letters ranks levels age rules start).states):Int),di 1,di 8] (db false)/\Q (db false)) ?_
  exact⟨h0,rfl⟩
 ·refine sv Ej 81 [1] (.c (db false) .r) (F0 48 [di (length (map V.str (Mod.mk 5 [] places letters ranks levels age rules start).states):Int),di 1,di 8] (db false)/\Q (db false)) ?_
  exact⟨h0,rfl⟩
theorem bad1(x:Mod)(l:WD)(hof:Aa PP 95 [di x.kind] σ0 (Gg l) σ0)(hk:x.kind=1∨x.kind=2∨x.kind=3∨x.kind=5)(hs:x.states=[]):DQ x 1:=by
 have hb:An x.kind 1 6=true:=by rcases hk with h|h|h|h<;>rw[h]<;>rfl
 have h15:=hb▸A6 x.kind 1 6
 have hz:=CQ l x hof
 rw[show B3 l x=false by rw[B3,hs];rfl] at hz
 have hn:=X8 x hk hs
 refine .of rfl (GT x true false true true true true hb (fun _=>hz) (fun e=>by cases e) (fun e=>by cases e) (fun e=>by cases e) (fun e=>by cases e)) ?_
 refine sv Ek 52 [1] (.c (db true)<|.c (db false)<|.r) (F0 48 [di x.kind,di 1,di 6] (db true)/\F0 49 [Ad x] (db false)/\Q (di 1)) ?_
 exact⟨h15,hn,rfl⟩
theorem XH(F:FuncId)(cs:List V)(r:Rul)(l:List Rul)(hp:Aa PP F (([Ah r]++cs).map .v) σ0 (db true) σ0):Aa PP 70 [dl ((r::l).map Ah),.v (.fn F [] cs)] σ0 (db true) σ0:=by
 obtain⟨L,hL⟩:∃L,L=(r::l).map Ah:=⟨_,rfl⟩
 have h0:L[Int.toNat 0]?=some (Ah r):=by rw[hL];rfl
 have h1:decide ((0:Int)<(L.length:Int))=true:=by rw[hL];exact Hz (by simp only[HO,H3];omega)
 rw[←hL]
 clear hL
 have h:Aa PP 101 [dl L,.v (.fn F [] cs)] σ0 (di 0) σ0:=by
  refine sv Yq 19 [] (.n<|.t<|.x (Ah r)<|.c (db true)<|.r) (decide (0<(L.length:Int))=true/\iz 0<=0/\L[Int.toNat 0]?=some (Ah r)/\F0 F (BN r::map D.v ([]++cs)) (db true)/\Q (di 0)) ?_
  exact⟨h1,by decide,h0,hp,rfl⟩
 refine sv Z9 9 [] (.c (di 0) .r) (F0 101 [D.v (V.list L),D.v (V.fn F [] cs)] (di 0)/\db (decide (0>=0))=db true) ?_
 exact⟨h,rfl⟩
theorem YP(x:Mod)(r:Rul)(hst:x.states.length<=8):Aa PP 71 [BN { r with to:=9 },.v (.ref (Az x))] σ0 (db true) σ0:=by
 have h1:=B4 9 x.states.length (by omega)
 rw[show An 9 0 (x.states.length-1)=false by simp only[An,Bool.and_eq_false_iff,IF];omega] at h1
 have h2:Aa PP 72 [Ad x,BN { r with to:=9 }] σ0 (db false) σ0:=by
  refine sv Mc 142 [2,3] (.c (db false)<|.r) (F0 102 [di (Rul.mk r.name r.frm 9 r.need r.give r.move r.chan r.act r.letter r.path r.next r.takes r.makes r.second).to,di (length (map V.str x.states):Int)] (db false)/\Q (db false)) ?_
  exact⟨by rw[Hw];exact h1,rfl⟩
 refine sv Vp 8 [2] (.c (db false) .r) (F0 72 [Ad x,D.v (Ah (Rul.mk r.name r.frm 9 r.need r.give r.move r.chan r.act r.letter r.path r.next r.takes r.makes r.second))] (db false)/\(db !false)=db true) ?_
 exact⟨h2,rfl⟩
theorem YM(x:Mod)(r:Rul)(hk:(x.kind==6)=false)(hst:x.states.length<=8):Aa PP 52 [Ad x,BN { r with to:=9 }] σ0 (db false) σ0:=by
 have hw:IntKind.i64.wrap (((x.states.map V.str).length:Int)-1)=(x.states.length:Int)-1:=Cg _ _ (by omega)
 have h1:=A6 r.frm 0 (x.states.length-1)
 have h2:=A6 9 0 (x.states.length-1)
 rw[show An 9 0 (x.states.length-1)=false by simp only[An,Bool.and_eq_false_iff,IF];omega] at h2
 cases hb:An r.frm 0 (x.states.length-1) with
 |true=>
  rw[hb] at h1
  refine sv Nk 234 [2,3] (.f<|.c (db true)<|.c (db false)<|.r) ((x.kind==6)=false/\F0 48 [di (Rul.mk r.name r.frm 9 r.need r.give r.move r.chan r.act r.letter r.path r.next r.takes r.makes r.second).frm,di 0,di (wrap IntKind.i64 ((length (map V.str x.states):Int)-1))] (db true)/\F0 48 [di (Rul.mk r.name r.frm 9 r.need r.give r.move r.chan r.act r.letter r.path r.next r.takes r.makes r.second).to,di 0,di (wrap IntKind.i64 ((length (map V.str x.states):Int)-1))] (db false)/\Q (db false)) ?_
  rw[hw]
  exact⟨hk,h1,h2,rfl⟩
 |false=>
  rw[hb] at h1
  refine sv Nk 234 [2,3] (.f<|.c (db false)<|.r) ((x.kind==6)=false/\F0 48 [di (Rul.mk r.name r.frm 9 r.need r.give r.move r.chan r.act r.letter r.path r.next r.takes r.makes r.second).frm,di 0,di (wrap IntKind.i64 ((length (map V.str x.states):Int)-1))] (db false)/\Q (db false)) ?_
  rw[hw]
  exact⟨hk,h1,rfl⟩
theorem XX(x:Mod)(r:Rul)(l:List Rul)(hx:x.rules={ r with to:=9 }::l)(hk:(x.kind==6)=false)(hst:x.states.length<=8):
  Rn PP Ek 0 (di 16) σ0 ([.lp (sub Em [1,1,1,1,1,0,1,0,0]),.blk 0,.code (sub Em [1,1,1,1,1,1])]++[]) (mkE 52 [(1,.v (.ref (Az x))),(3,di (0:Nat))]) σ0:=by
 have h:=YM x r hk hst
 have h0:(x.rules.map Ah)[Int.toNat 0]?=some (Ah { r with to:=9 }):=by rw[hx];rfl
 have h1:decide ((0:Int)<((x.rules.map Ah).length:Int))=true:=by rw[hx];exact Hz (by simp only[HO,H3];omega)
 obtain⟨q,hq⟩:∃q:Rul,q={ r with to:=9 }:=⟨_,rfl⟩
 rw[←hq] at h h0
 clear hq hx
 refine lv 52 [1] (.t<|.x (Ah q)<|.c (db false)<|.r) (decide ((↑0:Int)<(length (map Ah x.rules):Int))=true/\0<=(↑0:Int)/\(map Ah x.rules)[Int.toNat (↑0:Int)]?=some (Ah q)/\F0 52 [Ad x,BN q] (db false)/\Q (di 16)) ?_
 exact⟨h1,by decide,h0,h,rfl⟩
theorem bad3(x:Mod)(r:Rul)(l:List Rul)(hx:x.rules={ r with to:=9 }::l)(hk6:(x.kind==6)=false)(hst:x.states.length<=8)(hb:An x.kind 1 6=true)(hz:Aa PP 67 [Ad x] σ0 (db true) σ0)(hr:Aa PP 68 [Ad x] σ0 (db true) σ0)(hn:Aa PP 69 [Ad x] σ0 (db true) σ0)
  (h2:Aa PP 49 [Ad x] σ0 (db true) σ0) (h3:Aa PP 50 [Ad x] σ0 (db true) σ0) (h4:Aa PP 51 [Ad x] σ0 (db true) σ0):DQ x 16:=by
 have hc:=XH 71 [.ref (Az x)] { r with to:=9 } l (YP x r hst)
 rw[←hx] at hc
 exact .of rfl (GT x true true true true true true hb (fun _=>hz) (fun _=>hr) (fun _=>hn) (fun _=>hc) (fun e=>by cases e)) (KU x 16 hb h2 h3 h4 (XX x r l hx hk6 hst))
theorem Mt(t:Typ)(ht:∃l,t=.prod l):Ak t (.mk 1 [])=false:=by
 obtain⟨l,rfl⟩:=ht
 simp[Ak,Ao,Val.n]
theorem KB{m:Mod}(h:m.ok):DQ { m with start:=.mk 1 []} 17:=by
 have hS:Mod.okS { m with start:=.mk 1 []}:=⟨⟨h.kind,h.sized,h.ranked,h.named⟩,h.rshort,h.right⟩
 have h1:=SU _ hS
 have h2:=Mo _ hS
 rw[show Ak (AL { m with start:=.mk 1 []}) (.mk 1 [])=false from Mt _ ⟨_,rfl⟩] at h1 h2
 exact .of rfl h1 h2
theorem WY{m:Mod}(h:BM m):DQ { m with start:=.mk 1 []} 17:=by
 have hS:DO { m with start:=.mk 1 []}:=⟨⟨h.kind,h.states,h.places,h.letters,h.ranks,h.levels,h.age,h.count,h.n.named⟩,h.rules⟩
 have h1:=Ov _ hS
 have h2:=Ka _ hS
 rw[show Ak (BG { m with start:=.mk 1 []}) (.mk 1 [])=false from Mt _ ⟨_,rfl⟩] at h1 h2
 exact .of rfl h1 h2
theorem Sf{m:Mod}{r:Rul}{l:List Rul}(hr:m.rules=r::l)(h:Cu m=true):Cu { m with rules:={ r with to:=9 }::l }=true:=by
 rw[Cu,Dp,hr] at h
 exact h
theorem UG{x:Mod}(hN:x.okN){r:Rul}{l:List Rul}(hx:x.rules={ r with to:=9 }::l):DQ x 16:=by
 obtain⟨h1,h2,h3,h4,h5,h6,h7,h8⟩:=hN.sz
 have hz:=CQ (Fo x) _ (by
  unfold Fo
  rcases hN.kind with h|h|h<;>rw[h]
  ·exact Aau
  ·exact Aat
  ·exact Aas)
 rw[hN.sized] at hz
 have hrk:=De x (by omega)
 rw[hN.ranked] at hrk
 have hnm:=Fm x (by simp only[Bz,IK,List.flatten_nil,HC,H7];omega)
 rw[hN.named] at hnm
 exact bad3 _ r l hx (by rcases hN.kind with h|h|h<;>rw[h]<;>rfl) h2 (by rcases hN.kind with h|h|h<;>rw[h]<;>rfl) hz hrk hnm (JP _ hN) (JF _ hN) (JQ _ hN)
theorem TN{x:Mod}(hN:C8 x){r:Rul}{l:List Rul}(hx:x.rules={ r with to:=9 }::l):DQ x 16:=by
 obtain⟨hst,hpl⟩:=hN.sz
 have hag:=hN.age
 have hc:=hN.count
 have hb:∀{x a b:Int},a<=x->x<=b->An x a b=true:=fun h1 h2=>by simp[An,h1,h2]
 have hz:=CQ Yk x (by rw[hN.kind];exact Aar)
 rw[show B3 Yk x=true by
  simp only[B3,Hy,H8]
  rw[hN.letters,hN.levels]
  exact⟨hb (by omega) (by omega),by omega,hb (by omega) (by omega),by decide,by decide,hb (by omega) (by omega)⟩] at hz
 have hrk:=De x (by rw[hN.ranks];decide)
 rw[show AN x=true by rw[AN,HJ (by rw[hN.kind];rfl),hN.ranks];rfl] at hrk
 have hnm:=Fm x (by simp only[Bz,IK,List.flatten_nil,HC,H7];rw[hN.letters];simp only[H7];omega)
 rw[hN.named] at hnm
 exact bad3 _ r l hx (by rw[hN.kind];rfl) (by omega) (by rw[hN.kind];rfl) hz hrk hnm (Wi _ hN) (VV _ hN) (Wm _ hN)
theorem KA{m:Mod}(h:m.ok){r:Rul}{l:List Rul}(hr:m.rules=r::l):DQ { m with rules:={ r with to:=9 }::l } 16:=
 UG ⟨h.kind,by have:=h.sized;rw[B3,hr] at this;exact this,h.ranked,Sf hr h.named⟩ rfl
theorem WX{m:Mod}(h:BM m){r:Rul}{l:List Rul}(hr:m.rules=r::l):DQ { m with rules:={ r with to:=9 }::l } 16:=
 TN ⟨h.kind,h.states,h.places,h.letters,h.ranks,h.levels,h.age,by have:=h.count;rw[hr] at this;exact this,Sf hr h.n.named⟩ rfl
theorem DR.kind4{m:Mod}(h:DR m):m.kind=1∨m.kind=2∨m.kind=3∨m.kind=5:=by
 cases h with
 |cM h=>exact .inl h.kind
 |c h=>exact .inl h.kind
 |l2 h=>exact .inr (.inl h.kind)
 |l3 h=>exact .inr (.inr (.inl h.kind))
 |tm h=>exact .inr (.inr (.inr h.kind))
theorem DR.pos{m:Mod}(h:DR m):1<=m.rules.length:=by
 cases h with
 |cM h=>exact h.pos
 |c h=>exact h.pos
 |l2 h=>exact h.pos
 |l3 h=>exact h.pos
 |tm h=>exact h.pos
theorem DR.bad1{m:Mod}(h:DR m):DQ { m with states:=[]} 1:=by
 obtain⟨l,hl⟩:∃l,Aa PP 95 [di m.kind] σ0 (Gg l) σ0:=by
  rcases h.kind4 with e|e|e|e<;>rw[e]
  ·exact⟨_,Aau⟩
  ·exact⟨_,Aat⟩
  ·exact⟨_,Aas⟩
  ·exact⟨_,Aar⟩
 exact YtpmahmngmgnnbaaGreatDoor.bad1 { m with states:=[]} l hl h.kind4 rfl
theorem DR.bad2{m:Mod}(h:DR m):DQ { m with start:=.mk 1 []} 17:=by
 cases h with
 |cM h=>exact KB h.ok
 |c h=>exact KB h.ok
 |l2 h=>exact KB (h.ok (.inl rfl))
 |l3 h=>exact KB (h.ok (.inr rfl))
 |tm h=>exact WY h
theorem DR.bad3{m:Mod}(h:DR m){r:Rul}{l:List Rul}(hr:m.rules=r::l):DQ { m with rules:={ r with to:=9 }::l } 16:=by
 cases h with
 |cM h=>exact KA h.ok hr
 |c h=>exact KA h.ok hr
 |l2 h=>exact KA (h.ok (.inl rfl)) hr
 |l3 h=>exact KA (h.ok (.inr rfl)) hr
 |tm h=>exact WX h hr
noncomputable abbrev Aaz:Func:= Tryz.f82
theorem Ze:Aa PP 49 [Ad mB] σ0 (db true) σ0:=by
 have h1:Aa PP 48 [di 1,di 1,di 8] σ0 (db true) σ0:=A6 1 1 8
 have h2:Aa PP 48 [di 1,di 1,di 6] σ0 (db true) σ0:=A6 1 1 6
 have h3:Aa PP 48 [di 0,di 0,di 0] σ0 (db true) σ0:=A6 0 0 0
 refine sv Ej 81 [1] (.c (db true)<|.c (db true)<|.c (db true)<|.c (db true) .r) (F0 48 [di (length (map V.str mB.states):Int),di 1,di 8] (db true)/\F0 48 [di (length (map V.str mB.places):Int),di 1,di 6] (db true)/\F0 48 [di (length (map V.str mB.letters):Int),di 0,di 0] (db true)/\F0 48 [di mB.levels,di 0,di 0] (db true)/\db (mB.age==0)=db true) ?_
 exact⟨h1,h2,h3,h3,rfl⟩
theorem Aal:Aa PP 52 [Ad mB,BN rB] σ0 (db true) σ0:=by
 have h1:Aa PP 48 [di (-1),di (-1),di 0] σ0 (db true) σ0:=A6 (-1) (-1) 0
 have h2:Aa PP 48 [di 0,di 0,di 0] σ0 (db true) σ0:=A6 0 0 0
 have h3:=C5 [0] (by decide) 1 0 16 rfl (by decide)
 have h4:=C5 [1] (by decide) 1 0 16 rfl (by decide)
 have h5:=C5 [0] (by decide) 1 0 0 rfl (by decide)
 have h6:Aa PP 82 [dIs [0]] σ0 (db true) σ0:=by
  refine sv Aaz 7 [] (.c (db true) .r) (F0 79 [D.v (vIs [0]),di (length (map vi [0]):Int),di 0,di 0] (db true)/\Q (db true)) ?_
  exact⟨h5,rfl⟩
 refine sv Nk 234 [2,3] (.c (db true)<|.c (db true)<|.c (db true)<|.c (db true)<|.c (db true) .r) (F0 48 [di rB.frm,di (-1),di (wrap IntKind.i64 ((length (map V.str mB.states):Int)-1))] (db true)/\F0 48 [di rB.to,di 0,di (wrap IntKind.i64 ((length (map V.str mB.states):Int)-1))] (db true)/\F0 79 [dIs rB.need,di (length (map V.str mB.places):Int),di 0,di 16] (db true)/\F0 79 [dIs rB.give,di (length (map V.str mB.places):Int),di 0,di 16] (db true)/\F0 82 [dIs rB.need] (db true)/\Q (db true)) ?_
 exact⟨h1,h2,h3,h4,h6,rfl⟩
theorem ZN:Aa PP 29 [Ad mB] σ0 (di 0) σ0:=by
 have h1:Aa PP 48 [di 6,di 1,di 6] σ0 (db true) σ0:=A6 6 1 6
 have h3:Aa PP 50 [Ad mB] σ0 (db true) σ0:=by
  refine sv Ft 32 [1] .r (db ((length (map vi mB.ranks):Int)==0)=db true) ?_
  rfl
 have h4:=KE mB (by decide) (by decide) (by decide+kernel)
 refine sv Ek 52 [1] (.c (db true)<|.c (db true)<|.c (db true)<|.c (db true)<|.n<|.x (Ah rB)<|.c (db true)<|.n<|.r) (F0 48 [di mB.kind,di 1,di 6] (db true)/\F0 49 [Ad mB] (db true)/\F0 50 [Ad mB] (db true)/\F0 51 [Ad mB] (db true)/\iz 0<=0/\Q (some (Ah rB))/\F0 52 [Ad mB,BN rB] (db true)/\Q (di 0)) ?_
 exact⟨h1,Ze,h3,h4,by decide,rfl,Aal,rfl⟩
theorem AbN:DQ mB 15:=⟨rfl,Abu,.inr ⟨ZN,rfl,rfl⟩⟩
theorem ND{d d':D}(h:∀g u,Ac g d u->Ac g d' u)(h1:d'.one=true):∀(cs:List D) (i:Nat),cs[i]?=some d->Abq cs (cs.set i d')
 |[],i,hi=>by simp at hi
 |c::cs,0,hi=>by
  simp at hi;subst hi
  refine⟨fun g us hr=>?_,fun ho x hx=>?_⟩
  ·simp only[List.set_cons_zero,Ab] at hr⊢
   obtain⟨u,us',e,h2,h3⟩:=hr
   exact⟨u,us',e,h g u h2,h3⟩
  ·rcases Ib.1 hx with e|hx
   ·rw[e];exact h1
   ·exact ho x (List.mem_cons_of_mem _ hx)
 |c::cs,i+1,hi=>by
  have ih:=ND h h1 cs i (by simpa using hi)
  refine⟨fun g us hr=>?_,fun ho x hx=>?_⟩
  ·simp only[List.set_cons_succ,Ab] at hr⊢
   obtain⟨u,us',e,h2,h3⟩:=hr
   exact⟨u,us',e,h2,ih.1 g us' h3⟩
  ·rcases Ib.1 hx with e|hx
   ·rw[e];exact ho c List.mem_cons_self
   ·exact ih.2 (fun y hy=>ho y (List.mem_cons_of_mem _ hy)) x hx
theorem XT{H:List (Option (List D))}{own:List (Nat×Nat×List V)}{p q i sz n:Nat}{cs cq:List D}{xs:List V}(hsz:0<sz)(hp:H[p]?=some (some cs))(hq:H[q]?=some (some cq))(hcq:cq=B5 xs)(hpq:p≠q)(hi:cs[i]?=some (.gro q n sz))(hn:n=xs.length)(hx:∀x∈xs,x.size=sz)(e:List D):
  Cv e ⟨H,own⟩ e ⟨(H.set q none).set p (some (cs.set i (.v (.list xs)))),own⟩:=fun E g a w hf=>by
 obtain⟨g1,h1⟩:=ZJ (env:=e) (σ:=⟨H,own⟩) hp (ND (fun _ _=>QT) rfl cs i hi) E g a w hf
 have hpl:=(H0.1 hp).1
 have hil:=(H0.1 hi).1
 subst hn hcq
 obtain⟨g2,h2⟩:=J1 (σ:=⟨H.set p (some (cs.set i (.arr q 0 xs.length))),own⟩) (p:=p) (q:=q) (i:=i) (sz:=sz) hsz (List.getElem?_set_self hpl) (by rw[List.getElem?_set_ne hpq];exact hq) hpq (List.getElem?_set_self hil) hx e E g1 a w h1
 refine⟨g2,?_⟩
 have e1:((H.set p (some (cs.set i (.arr q 0 xs.length)))).set q none).set p (some ((cs.set i (.arr q 0 xs.length)).set i (.v (.list xs))))=(H.set q none).set p (some (cs.set i (.v (.list xs)))):=by
  rw[List.set_set,List.set_comm _ _ hpq,List.set_set]
 rw[←e1];exact h2
noncomputable abbrev Yn:Func:= Tryz.f23
noncomputable def AaY:Code:=Yn.body.getD .skip
theorem DR.count12{m:Mod}(h:DR m):m.rules.length<=12:=(h.ref).elim fun _ h=>h.count
theorem Ty(l:List UInt8)(hl:l.length<=200)(a:Nat)(ha:a<=l.length):∃(x:Mod) (e:Int) (a':Nat),DQ x e/\a'<=l.length/\Aa PP 23 [.ptr 0 0] (dz l a) (Ad x) (dz l a'):=by
 obtain⟨m,a1,hm,h1,h2⟩:=WA l hl a ha
 obtain⟨k,a2,p1,p2,p3,p4⟩:=Al l hl a1 h1 4 (by decide) (by decide)
 rcases(show k=0∨k=1∨k=2∨k=3 by omega) with rfl|rfl|rfl|rfl
 ·refine⟨{ m with kind:=9 },15,a2,AbO _ rfl,p3,?_⟩
  refine sv Yn 28 [] (.c1 (cDz l a1) (Ad m)<|.c1 (cDz l a2) (di 0)<|.r) (Aa PP 6 [D.ptr 0 0] (dz l a) (Ad m) (dz l a1)/\Aa PP 18 [D.ptr 0 0,di 4] (dz l a1) (di 0) (dz l a2)/\Q [some (cDz l a2)]/\D.v (V.agg [vi 9,V.list (map V.str m.states),V.list (map V.str m.places),V.list (map V.str m.letters),V.list (map vi m.ranks),vi m.levels,vi m.age,V.list (map Ah m.rules),vi m.start.n,V.list (map eV m.start.kids)])=Ad (Mod.mk 9 m.states m.places m.letters m.ranks m.levels m.age m.rules m.start)) ?_
  exact⟨h2,p4,rfl,rfl⟩
 ·refine⟨{ m with states:=[]},1,a2,hm.bad1,p3,?_⟩
  refine sv Yn 28 [] (.c1 (cDz l a1) (Ad m)<|.c1 (cDz l a2) (di 1)<|.r) (Aa PP 6 [D.ptr 0 0] (dz l a) (Ad m) (dz l a1)/\Aa PP 18 [D.ptr 0 0,di 4] (dz l a1) (di 1) (dz l a2)/\Q [some (cDz l a2)]/\D.v (V.agg [vi m.kind,V.list [],V.list (map V.str m.places),V.list (map V.str m.letters),V.list (map vi m.ranks),vi m.levels,vi m.age,V.list (map Ah m.rules),vi m.start.n,V.list (map eV m.start.kids)])=Ad (Mod.mk m.kind [] m.places m.letters m.ranks m.levels m.age m.rules m.start)) ?_
  exact⟨h2,p4,rfl,rfl⟩
 ·refine⟨{ m with start:=.mk 1 []},17,a2,hm.bad2,p3,?_⟩
  refine sv Yn 28 [] (.c1 (cDz l a1) (Ad m)<|.c1 (cDz l a2) (di 2)<|.r) (Aa PP 6 [D.ptr 0 0] (dz l a) (Ad m) (dz l a1)/\Aa PP 18 [D.ptr 0 0,di 4] (dz l a1) (di 2) (dz l a2)/\Q [some (cDz l a2)]/\D.v (V.agg [vi m.kind,V.list (map V.str m.states),V.list (map V.str m.places),V.list (map V.str m.letters),V.list (map vi m.ranks),vi m.levels,vi m.age,V.list (map Ah m.rules),vi 1,V.list []])=Ad (Mod.mk m.kind m.states m.places m.letters m.ranks m.levels m.age m.rules (Val.mk 1 []))) ?_
  exact⟨h2,p4,rfl,rfl⟩
 ·obtain⟨r,rs,hr⟩:∃r rs,m.rules=r::rs:=by
   have:=hm.pos
   cases h:m.rules with
   |nil=>rw[h] at this;simp at this
   |cons r rs=>exact⟨r,rs,rfl⟩
  refine⟨{ m with rules:={ r with to:=9 }::rs },16,a2,hm.bad3 hr,p3,?_⟩
  have hne:m.rules.map Ah≠ []:=by rw[hr];simp
  have hs:∀y∈m.rules.map Ah,y.size=14:=fun y hy=>by obtain⟨z,_,rfl⟩:=Ie.1 hy;rfl
  have hln:m.rules.length<=12:=by have:=hm.count12;omega
  have hL:Ax (0+(m.rules.map Ah).length) 232:=by constructor<;>(simp only[Hw];omega)
  have hf:([]++B5 (m.rules.map Ah)).set (Nat.add (0+Int.toNat 0*14) 2) (di 9)=B5 (({ r with to:=9 }::rs).map Ah):=by rw[hr];rfl
  have hpos:2<([]++B5 (m.rules.map Ah)).length:=by rw[hr];show 2<(B5 (Ah r::rs.map Ah)).length;simp only[B5,HO,List.flatMap_cons,HC,Hw];show 2<14+_;omega
  have hp0:(0:Int)<((0+(m.rules.map Ah).length:Nat):Int):=by rw[hr,Hw,H3];omega
  have hlen2:0+(m.rules.map Ah).length=(({ r with to:=9 }::rs).map Ah).length:=by rw[hr];simp
  obtain⟨rs',hrs'⟩:∃rs':List Rul,rs'={ r with to:=9 }::rs:=⟨_,rfl⟩
  rw[←hrs'] at hf hlen2⊢
  clear hrs' hr
  refine sv Yn 28 [] (.c1 (cDz l a1) (Ad m)<|.c1 (cDz l a2) (di 3)<|.h .g<|.h (.q 4 1)<|.m (.gro 4 (0+(m.rules.map Ah).length) 14)<|.h (.q 4 2)<|.h (.ga 14)<|.w<|.h (.q 11 0)<|.h (.s [ke 2,ke 3]) .z) (Aa PP 6 [D.ptr 0 0] (dz l a) (Ad m) (dz l a1)/\Aa PP 18 [D.ptr 0 0,di 4] (dz l a1) (di 3) (dz l a2)/\Q 0/\map Ah m.rules≠ []/\(∀(y:V),y∈map Ah m.rules->V.size y=14)/\Ax (0+length (map Ah m.rules)) 232/\Q (some (D.gro 4 (0+length (map Ah m.rules)) 14))/\iz 0<=0/\0<(↑(0+length (map Ah m.rules)):Int)/\2<length ([]++B5 (map Ah m.rules))/\Nv.It (AK (CN (length (dz l a).H)) PP (fun env σ1=>A2 PP Yn env σ1 (Ad (Mod.mk m.kind m.states m.places m.letters m.ranks m.levels m.age rs' m.start)) (dz l a2)) [kc AaY [1,1,1,1]] (BF (sub AaY [1,1,1,0])) (List.drop 0 (BF (sub AaY [1,1,1,0])).toList) (mkE 28 [(2,D.ptr 1 0),(3,D.ptr 2 0)]) (St.mk [some (cDz l a2),some zMl,some [di m.kind,D.v (vSs m.states),D.v (vSs m.places),D.v (vSs m.letters),dIs m.ranks,di m.levels,di m.age,D.gro 4 (0+length (map Ah m.rules)) 14,di m.start.n,dVs m.start.kids],none,some (List.set ([]++B5 (map Ah m.rules)) (Nat.add (0+Int.toNat 0*14) 2) (di 9))] []))) ?_
  refine⟨h2,p4,rfl,hne,hs,hL,rfl,by decide,hp0,hpos,⟨?_⟩⟩
  rw[hf]
  refine AK.cv (XT (H:=[some (cDz l a2),some zM,some [di m.kind,.v (vSs m.states),.v (vSs m.places),.v (vSs m.letters),.v (vIs m.ranks),di m.levels,di m.age,.gro 4 (0+(m.rules.map Ah).length) 14,di m.start.n,dVs m.start.kids],none,some (B5 (rs'.map Ah))]) (own:=[]) (p:=2) (q:=4) (i:=7) (sz:=14) (xs:=rs'.map Ah) (by decide) rfl rfl rfl (by decide) rfl hlen2 (fun y hy=>by obtain⟨z,_,rfl⟩:=Ie.1 hy;rfl) _) ?_
  refine YR mixed 28 [] 11 0 (.r) ?_
  refine via (by kernel_rfl:(Q [some (cDz l a2)]/\D.v (V.agg [vi m.kind,V.list (map V.str m.states),V.list (map V.str m.places),V.list (map V.str m.letters),V.list (map vi m.ranks),vi m.levels,vi m.age,V.list (map Ah rs'),vi m.start.n,V.list (map eV m.start.kids)])=Ad (Mod.mk m.kind m.states m.places m.letters m.ranks m.levels m.age rs' m.start))=_) ?_
  exact⟨rfl,rfl⟩
noncomputable abbrev Ab7:Func:= Tryz.f7
theorem Sk(m:Mod)(l:List UInt8)(hl:l.length<=200)(a:Nat)(ha:a<=l.length):∃(x:Mod) (e:Int) (a':Nat),DQ x e/\a'<=l.length/\Aa PP 7 [.ptr 0 0,Ad m] (dz l a) (.v (.list ([m,mB,x].map Az))) (dz l a'):=by
 obtain⟨x,e,a',h1,h2,h3⟩:=Ty l hl a ha
 refine⟨x,e,a',h1,h2,?_⟩
 have hB:=V8
 refine sv Ab7 10 [3] (.c (Ad mB)<|.c1 (cDz l a') (Ad x)<|.r) (F0 22 [] (Ad mB)/\Aa PP 23 [D.ptr 0 0] (dz l a) (Ad x) (dz l a')/\Q [some (cDz l a')]/\Q (D.v (V.list [Az m,Az mB,Az x]))) ?_
 exact⟨hB,h3,rfl,rfl⟩
noncomputable abbrev fMo:Func:= Tryz.f15
theorem Zi(x n:Int)(hn:0<n/\n<=1000000):∃j:Int,0<=j/\j<n/\Aa PP 15 [di x,di n] σ0 (di j) σ0:=by
 have h1:=Int.tmod_lt_of_pos x hn.1
 have h2: -n<Int.tmod x n:=by have h3:=Int.tmod_lt_of_pos (-x) hn.1;rw[Int.neg_tmod] at h3;omega
 by_cases h:Int.tmod x n<0
 ·refine⟨Int.tmod x n+n,by omega,by omega,?_⟩
  refine sv fMo 15 [] (.t .r) (n≠0/\decide (Int.tmod x n<0)=true/\di (wrap IntKind.i64 (Int.tmod x n+n))=di (Int.tmod x n+n)) ?_
  exact⟨by omega,Hz h,by rw[Ai (by omega) (by omega)]⟩
 ·refine⟨Int.tmod x n,by omega,by omega,?_⟩
  refine sv fMo 15 [] (.f .r) (n≠0/\decide (Int.tmod x n<0)=false/\Q (di (Int.tmod x n))) ?_
  exact⟨by omega,H1 h,rfl⟩
noncomputable abbrev opB(c:Code)(i:Nat):Oper:=((BF c)[i]?).getD ⟨none,.alloc 0,0,"", #[],none⟩
theorem Rb{C:Ent->Ent->Prop}{P:Program}{R:List D->St->Prop}{k:List KI}{ops:Array Oper}{L L':List Oper}{env env':List D}{σ:St}(h:AK C P R k ops L' env' σ)(e1:L=L')(e2:env=env'):AK C P R k ops L env σ:=by rw[e1,e2];exact h
theorem Abw:BW PP 22=some (5,1,1,some (.int .u8 0)):=by kernel_rfl
theorem SY{u:List UInt8}{cs:Array Value}(h:Eg u cs)(j:Nat)(y:UInt8)(hj:j<cs.size):Eg (u.set j y) (cs.setIfInBounds j (.int .u8 (y.toNat:Int))):=fun i hi=>by
 rw[List.length_set] at hi
 rw[Array.getElem?_setIfInBounds]
 by_cases e:j=i
 ·subst e
  simp[hj]
 ·rw[HF e,h i hi]
  simp[List.getElem_set,e]
theorem Ox{u:List UInt8}{cs:Array Value}(h:Eg u cs){j:Nat}(hj:j<u.length):j<cs.size:=by
 have:=h j hj
 exact(Ir.1 this).1
theorem WV(m:Mod)(t:Typ)(hP:m.places=[[120]]∨m.places=[[120],[121]])(q:Qst)(hv:RdV q.target)(h:Af m t q=true):0<(txI m q).length/\(txI m q).length<=4096:=by
 have h1:=Cp q.target hv.rg
 have h2:=hv.size
 have hk:=D7 h
 cases hk with
 |cover v=>simp only[txI,I6,HC,H3,H7] at*;omega
 |reach v=>
  have:txI m ⟨2,0,v⟩=B6++[32]++Au v:=rfl
  rw[this]
  simp only[HC,H3,H7] at*;omega
 |bounded=>
  have:txI m ⟨3,0,zeroV⟩=AP:=rfl
  rw[this];decide
 |dead=>
  have:txI m ⟨5,0,zeroV⟩=CP:=rfl
  rw[this];decide
 |home=>
  have:txI m ⟨6,0,zeroV⟩=CO:=rfl
  rw[this];decide
 |place n hn=>
  have:txI m ⟨4,n,zeroV⟩=A0++[32]++m.places.getD n []:=rfl
  rw[this]
  have hl:(m.places.getD n []).length<=1:=by
   rcases hP with e|e<;>rw[e] at hn⊢
   ·obtain rfl:n=0:=by simp at hn;omega
    decide
   ·rcases(show n=0∨n=1 by simp at hn;omega) with rfl|rfl<;>decide
  simp only[HC,H3,H7];omega
structure XOK(x:Mod)(T:Qst->List UInt8×Int)(C:Qst->Int):Prop where
 txt:∀q:Qst,q.target.fit->Aa PP 9 [Ad x,dQ q] σ0 (.tup [ds (T q).1,di (T q).2]) σ0
 txtR:∀q:Qst,q.target.fit->Aa PP 10 [Ad x,dQ q] σ0 (.tup [ds (T q).1,di (T q).2]) σ0
 chk:∀q:Qst,q.target.fit->Aa PP 11 [Ad x,dQ q] σ0 (di (C q)) σ0
 chkR:∀q:Qst,q.target.fit->Aa PP 12 [Ad x,dQ q] σ0 (di (C q)) σ0
 len:∀q:Qst,q.target.fit->(T q).1.length<=5000
 par:∀s:List UInt8,s.length<=1000000->∃(q:Qst) (e:Int),q.target.fit/\
  Aa PP 16 [Ad x,ds s] σ0 (.tup [dQ q,di e]) σ0/\Aa PP 17 [Ad x,ds s] σ0 (.tup [dQ q,di e]) σ0
theorem FP.xok{m:Mod}{t:Typ}(hR:FP m t)(hP:m.places=[[120]]∨m.places=[[120],[121]]):XOK m (txA m t) (fun q=>if Af m t q then 0 else 48) where
 txt:=fun q hq=>WU hR hP q hq
 txtR:=fun q _=>t41 hR hP q
 chk:=fun q hq=>ST hR q hq
 chkR:=fun q _=>chk41 hR q
 len:=fun q _=>by
  unfold txA
  cases h:Af m t q with
  |false=>exact HW _
  |true=>have:=WV m t hP q (hR.sm h).rd h;show(txI m q).length<=5000;omega
 par:=fun s hs=>OS hR hP s hs
theorem DQ.chk41{x:Mod}{e:Int}(h:DQ x e)(q:Qst):Aa PP 12 [Ad x,dQ q] σ0 (di e) σ0:=by
 have hne:=h.ne
 rcases h.ref with hr|⟨hr,hk,rfl⟩
 ·refine sv Vq 86 [2,3] (.c (di e)<|.t .r) (F0 29 [Ad x] (di e)/\(e !=0)=true/\Q (di e)) ?_
  exact⟨hr,hne,rfl⟩
 ·refine sv Vq 86 [2,3] (.c (di 0)<|.k<|.t .r) (F0 29 [Ad x] (di 0)/\(x.kind==6)=true/\Q (di 15)) ?_
  exact⟨hr,hk,rfl⟩
theorem DQ.chk{x:Mod}{e:Int}(h:DQ x e)(q:Qst):Aa PP 11 [Ad x,dQ q] σ0 (di e) σ0:=by
 have hne:=h.ne
 have hw:=h.walks
 refine sv XK 15 [2,3] (.c (di e)<|.t .r) (F0 27 [Ad x] (di e)/\(e !=0)=true/\Q (di e)) ?_
 exact⟨hw,hne,rfl⟩
theorem DQ.xok{x:Mod}{e:Int}(h:DQ x e):XOK x (fun _=>([],e)) (fun _=>e):=by
 have hne:=h.ne
 have hw:=h.walks
 refine⟨fun q _=>?_,fun q _=>?_,fun q _=>h.chk q,fun q _=>h.chk41 q,fun _ _=>HW _,fun s _=>⟨ET,e,⟨HW _,trivial⟩,?_,?_⟩⟩
 ·have hc:=h.chk q
  show Aa PP 9 [Ad x,dQ q] σ0 (.tup [ds [],di e]) σ0
  refine sv Vm 52 [2,3] (.c (di e)<|.t .r) (F0 11 [Ad x,D.v (vQ q)] (di e)/\(e !=0)=true/\D.tup [D.v (V.str (ByteArray.mk #[]).data.toList),di e]=D.tup [D.v (V.str []),di e]) ?_
  exact⟨hc,hne,rfl⟩
 ·have hc:=h.chk41 q
  show Aa PP 10 [Ad x,dQ q] σ0 (.tup [ds [],di e]) σ0
  refine sv Wv 44 [2,3] (.c (di e)<|.t .r) (F0 12 [Ad x,D.v (vQ q)] (di e)/\(e !=0)=true/\D.tup [D.v (V.str (ByteArray.mk #[]).data.toList),di e]=D.tup [D.v (V.str []),di e]) ?_
  exact⟨hc,hne,rfl⟩
 ·refine sv Vn 29 [2] (.c (di e)<|.t .r) (F0 27 [Ad x] (di e)/\(e !=0)=true/\D.tup [D.v (V.agg [vi 0,vi 0,vi 0,V.list []]),di e]=D.tup [dQ ET,di e]) ?_
  exact⟨hw,hne,rfl⟩
 ·rcases h.ref with hr|⟨hr,hk,rfl⟩
  ·refine sv EP 89 [2] (.c (di e)<|.t .r) (F0 29 [Ad x] (di e)/\(e !=0)=true/\D.tup [D.v (V.agg [vi 0,vi 0,vi 0,V.list []]),di e]=D.tup [dQ ET,di e]) ?_
   exact⟨hr,hne,rfl⟩
  ·refine sv EP 89 [2] (.c (di 0)<|.k<|.t .r) (F0 29 [Ad x] (di 0)/\(x.kind==6)=true/\D.tup [D.v (V.agg [vi 0,vi 0,vi 0,V.list []]),di 15]=D.tup [dQ ET,di 15]) ?_
   exact⟨hr,hk,rfl⟩
noncomputable abbrev CD:Func:= Tryz.f3
noncomputable def AF:Code:=CD.body.getD .skip
abbrev AaO(raw:Qst)(d:List UInt8)(z:Int)(y:UInt8)(ML:List V)(i:Nat):List (Nat×D):=[(2,ds d),(3,di z),(4,.v (vb y)),(6,.v (.ref (vQ raw))),(11,.ptr 0 0),(12,.ptr 1 0),(39,.v (.list ML)),(40,di ML.length),(41,di i)]
abbrev W0(raw:Qst)(d:List UInt8)(z:Int)(y:UInt8)(ML QL:List V)(i j:Nat):List (Nat×D):=[(2,ds d),(3,di z),(4,.v (vb y)),(6,.v (.ref (vQ raw))),(11,.ptr 0 0),(12,.ptr 1 0),(14,.ptr 2 0),(39,.v (.list ML)),(40,di ML.length),(41,di i),(52,.v (.list QL)),(53,di QL.length),(54,di j)]
abbrev AbI(raw:Qst)(d:List UInt8)(z:Int)(y:UInt8)(ML QL SL:List V)(i j k:Nat):List (Nat×D):=[(2,ds d),(3,di z),(4,.v (vb y)),(6,.v (.ref (vQ raw))),(11,.ptr 0 0),(12,.ptr 1 0),(14,.ptr 2 0),(39,.v (.list ML)),(40,di ML.length),(41,di i),(52,.v (.list QL)),(53,di QL.length),(54,di j),(116,.v (.list SL)),(117,di SL.length),(118,di k)]
abbrev sM(l:List UInt8)(a:Nat)(m:Mod):St:=⟨[some (cDz l a),some (DU m)],[]⟩
abbrev sX(l:List UInt8)(a:Nat)(m x:Mod):St:=⟨[some (cDz l a),some (DU m),some (DU x)],[]⟩
abbrev sQ(l:List UInt8)(a:Nat)(m x:Mod)(q:Qst):St:=⟨[some (cDz l a),some (DU m),some (DU x),some (cQs q)],[]⟩
theorem Xm(l:List UInt8)(a:Nat)(m x:Mod)(q raw:Qst)(d:List UInt8)(z:Int)(y:UInt8)(ML QL:List V)(i j:Nat)(TT:List KI){A:Qst->List UInt8×Int}{B:Qst->Int}(hx:XOK x A B)(SL:List V)(hn:SL.length<=1000)(hSL:∀v∈SL,∃s:List UInt8,s.length<=1000000/\v=.str s)
  (h:Rn PP CD 0 (db true) σ0 TT (mkE 146 (W0 raw d z y ML QL i j)) (sQ l a m x q)) (N:Nat):∀k:Nat,SL.length-k=N->
  Rn PP CD 0 (db true) σ0 ([.lp (sub AF [1,1,1,1,1,0,1,0,0,1,1,0,0,1,1,0,0,1,1,0,0,1,1,1,1,1,1,1,0,0]),.blk 4]++TT) (mkE 146 (AbI raw d z y ML QL SL i j k)) (sQ l a m x q):=by
 induction N with
 |zero=>
  intro k hk
  refine lv 146 [6] (.f<|.ls [ke 2,ke 3,ke 4,ke 6,ke 11,ke 12,ke 14,ke 39,ke 40,ke 41,ke 52,ke 53,ke 54] (sQ l a m x q)) (decide ((k:Int)<(SL.length:Int))=false/\Q [some (cDz l a),some (DU m),some (DU x),some (cQs q)]/\I0 CD 0 (db true) σ0 TT (mkE 146 [(2,D.v (V.str d)),(3,di z),(4,D.v (V.int IntKind.u8 (↑(UInt8.toNat y):Int))),(6,D.v (V.ref (vQ raw))),(11,D.ptr 0 0),(12,D.ptr 1 0),(14,D.ptr 2 0),(39,D.v (V.list ML)),(40,di (ML.length:Int)),(41,di (i:Int)),(52,D.v (V.list QL)),(53,di (QL.length:Int)),(54,di (j:Int))]) (sQ l a m x q)) ?_
  exact⟨H1 (by omega),rfl,⟨h⟩⟩
 |succ N ih=>
  intro k hk
  obtain⟨v,hv⟩:∃v,SL[k]?=some v:=⟨_,Hx (by omega)⟩
  obtain⟨s,hs,rfl⟩:=hSL v (H4 hv)
  have hih:=ih (k+1) (by omega)
  obtain⟨p,e,hp,h1,h2⟩:=hx.par s hs
  have hsm:=s41 p p hp
  rw[Ud.2 rfl] at hsm
  refine lv 146 [6] (.t<|.x (.str s)<|.c (.tup [dQ p,di e])<|.c (.tup [dQ p,di e])<|.f<|.c (db true)<|.k<|.ls [ke 2,ke 3,ke 4,ke 6,ke 11,ke 12,ke 14,ke 39,ke 40,ke 41,ke 52,ke 53,ke 54,ke 116,ke 117,ch 118 (di (k+1:Nat))] (sQ l a m x q)) (decide ((k:Int)<(SL.length:Int))=true/\0<=(k:Int)/\SL[Int.toNat (k:Int)]?=some (V.str s)/\F0 16 [Ad x,D.v (V.str s)] (D.tup [dQ p,di e])/\F0 17 [Ad x,D.v (V.str s)] (D.tup [dQ p,di e])/\(e !=e)=false/\F0 14 [D.v (V.agg [vi p.kind,vi p.place,vi p.target.n,vVs p.target.kids]),D.v (V.agg [vi p.kind,vi p.place,vi p.target.n,vVs p.target.kids])] (db true)/\di (wrap IntKind.i64 ((k:Int)+1))=di (↑(k+1):Int)/\Q [some (cDz l a),some (DU m),some (DU x),some (cQs q)]/\I0 CD 0 (db true) σ0 (kl AF [1,1,1,1,1,0,1,0,0,1,1,0,0,1,1,0,0,1,1,0,0,1,1,1,1,1,1,1,0,0]::KI.blk 4::[]++TT) (mkE 146 [(2,D.v (V.str d)),(3,di z),(4,D.v (V.int IntKind.u8 (↑(UInt8.toNat y):Int))),(6,D.v (V.ref (vQ raw))),(11,D.ptr 0 0),(12,D.ptr 1 0),(14,D.ptr 2 0),(39,D.v (V.list ML)),(40,di (ML.length:Int)),(41,di (i:Int)),(52,D.v (V.list QL)),(53,di (QL.length:Int)),(54,di (j:Int)),(116,D.v (V.list SL)),(117,di (SL.length:Int)),(118,di (↑(k+1):Int))]) (sQ l a m x q)) ?_
  exact⟨Hz (by omega),by omega,hv,h1,h2,bne_self_eq_false _,hsm,Ae (by omega),rfl,⟨hih⟩⟩
abbrev Abv(u s d:List UInt8):List V:=[.str u,.str s,.str d,.str (u++[32]),.str (32::u),.str [104,111,109,101],.str [112,108,97,99,101,32,120],.str [98,111,117,110,100,101,100],.str [112,108,97,99,101,32,122,122],.str [99,111,118,101,114,32,48,40,48,32,48,41],.str [114,101,97,99,104,32,48,40,48,32,48,40,49,41,41],.str [100,101,97,100]]
abbrev AaP(raw:Qst)(d:List UInt8)(z:Int)(y:UInt8)(ML QL:List V)(i j:Nat)(u:List UInt8)(o:List (Nat×D)):List (Nat×D):=[(2,ds d),(3,di z),(4,.v (vb y)),(6,.v (.ref (vQ raw))),(11,.ptr 0 0),(12,.ptr 1 0),(14,.ptr 2 0),(19,ds u),(39,.v (.list ML)),(40,di ML.length),(41,di i),(52,.v (.list QL)),(53,di QL.length),(54,di j)]++o
noncomputable abbrev kLp:List KI:=[.lp (sub AF [1,1,1,1,1,0,1,0,0,1,1,0,0,1,1,0,0]),.blk 2]
noncomputable abbrev kQ(TT:List KI):List KI:=.blk 3:: .code (sub AF [1,1,1,1,1,0,1,0,0,1,1,0,0,1,1,0,0,1,1,1]):: .lp (sub AF [1,1,1,1,1,0,1,0,0,1,1,0,0,1,1,0,0]):: .blk 2::TT
section
variable (l : List UInt8) (a : Nat) (m x : Mod) (q raw : Qst) (d : List UInt8) (z : Int) (y : UInt8) (ML QL : List V) (i j : Nat) (TT : List KI) {A : Qst -> List UInt8 × Int} {B : Qst -> Int}
theorem Aan(hx:XOK x A B)(hd:d.length<=100)(hj:j<1000)(r cap:Nat)(u s:List UInt8)(hu:u.length<=5000)(hs:s.length=u.length)
  (h:Rn PP CD 0 (db true) σ0 (kLp++TT) (mkE 146 (W0 raw d z y ML QL i (j+1))) (sX l a m x)):
  AK (CN 0) PP (fun env σ1=>A2 PP CD env σ1 (db true) σ0) (.code (sub AF [1,1,1,1,1,0,1,0,0,1,1,0,0,1,1,0,0,1,1,0,0,1,1,1,1,1,1,1])::kQ TT) (BF (sub AF [1,1,1,1,1,0,1,0,0,1,1,0,0,1,1,0,0,1,1,0,0,1,1,1,1,1,1,0])) (List.drop 3 (BF (sub AF [1,1,1,1,1,0,1,0,0,1,1,0,0,1,1,0,0,1,1,0,0,1,1,1,1,1,1,0])).toList) (mkE 146 (AaP raw d z y ML QL i j u [(108,ds u),(109,.raw (.slice (some ⟨r,0,none⟩) s.length cap)),(110,ds s)])) (sQ l a m x q):=by
 have hnx:Rn PP CD 0 (db true) σ0 (kQ TT) (mkE 146 (W0 raw d z y ML QL i j)) (sQ l a m x q):=by
  refine BB (ks:=[.blk 3,.code (sub AF [1,1,1,1,1,0,1,0,0,1,1,0,0,1,1,0,0,1,1,1])]) (T:=kLp++TT) mixed 146 [6] (.ls [ke 2,ke 3,ke 4,ke 6,ke 11,ke 12,ke 14,ke 39,ke 40,ke 41,ke 52,ke 53,ch 54 (di (j+1:Nat))] (sX l a m x)) ?_
  refine @via (di (wrap IntKind.i64 ((j:Int)+1))=di (↑(j+1):Int)/\Q [some (cDz l a),some (DU m),some (DU x)]/\I0 CD 0 (db true) σ0 (kl AF [1,1,1,1,1,0,1,0,0,1,1,0,0,1,1,0,0]::KI.blk 2::[]++TT) (mkE 146 [(2,D.v (V.str d)),(3,di z),(4,D.v (V.int IntKind.u8 (↑(UInt8.toNat y):Int))),(6,D.v (V.ref (vQ raw))),(11,D.ptr 0 0),(12,D.ptr 1 0),(14,D.ptr 2 0),(39,D.v (V.list ML)),(40,di (ML.length:Int)),(41,di (i:Int)),(52,D.v (V.list QL)),(53,di (QL.length:Int)),(54,di (↑(j+1):Int))]) (sX l a m x)) _ ?hv ?_
  case hv=>kernel_rfl
  exact⟨Ae (by omega),rfl,⟨h⟩⟩
 obtain⟨SL,hSL⟩:∃SL,SL=Abv u s d:=⟨_,rfl⟩
 have hl4:=Xm l a m x q raw d z y ML QL i j (kQ TT) hx SL (by rw[hSL];show 12<=1000;decide) (fun v hv=>by
  rw[hSL] at hv
  simp only[Ib,IM,or_false] at hv
  rcases hv with rfl|rfl|rfl|rfl|rfl|rfl|rfl|rfl|rfl|rfl|rfl|rfl
  all_goals refine⟨_,?_,rfl⟩
  all_goals ((try simp only[HC,H3,H7]);omega)) hnx _ 0 rfl
 clear hnx h hx
 refine F7 (ks:=[.code (sub AF [1,1,1,1,1,0,1,0,0,1,1,0,0,1,1,0,0,1,1,0,0,1,1,1,1,1,1,1])]) (T:=kQ TT) mixed (MV 0) 0 (fun _ _ h=>h.2) 146 [6] 20 3 (.ls [ke 2,ke 3,ke 4,ke 6,ke 11,ke 12,ke 14,ke 39,ke 40,ke 41,ke 52,ke 53,ke 54,ch 116 (.v (.list SL)),ch 117 (di SL.length),ch 118 (di (0:Nat))] (sQ l a m x q)) ?_
 refine @via (length u+length (ByteArray.mk #[32]).data.toList<=9223372036854775807/\length (ByteArray.mk #[32]).data.toList+length u<=9223372036854775807/\D.v (V.list [V.str u,V.str s,V.str d,V.str (u++(ByteArray.mk #[32]).data.toList),V.str ((ByteArray.mk #[32]).data.toList++u),V.str (ByteArray.mk #[104,111,109,101]).data.toList,V.str (ByteArray.mk #[112,108,97,99,101,32,120]).data.toList,V.str (ByteArray.mk #[98,111,117,110,100,101,100]).data.toList,V.str (ByteArray.mk #[112,108,97,99,101,32,122,122]).data.toList,V.str (ByteArray.mk #[99,111,118,101,114,32,48,40,48,32,48,41]).data.toList,V.str (ByteArray.mk #[114,101,97,99,104,32,48,40,48,32,48,40,49,41,41]).data.toList,V.str (ByteArray.mk #[100,101,97,100]).data.toList])=D.v (V.list SL)/\di (length (V.str u::V.str s::V.str d::V.str (u++(ByteArray.mk #[32]).data.toList)::V.str ((ByteArray.mk #[32]).data.toList++u)::V.str (ByteArray.mk #[104,111,109,101]).data.toList::V.str (ByteArray.mk #[112,108,97,99,101,32,120]).data.toList::V.str (ByteArray.mk #[98,111,117,110,100,101,100]).data.toList::V.str (ByteArray.mk #[112,108,97,99,101,32,122,122]).data.toList::V.str (ByteArray.mk #[99,111,118,101,114,32,48,40,48,32,48,41]).data.toList::V.str (ByteArray.mk #[114,101,97,99,104,32,48,40,48,32,48,40,49,41,41]).data.toList::V.str (ByteArray.mk #[100,101,97,100]).data.toList::nV):Int)=di (SL.length:Int)/\di 0=di (↑0:Int)/\Q [some (cDz l a),some (DU m),some (DU x),some (cQs q)]/\I0 CD 0 (db true) σ0 (kl AF [1,1,1,1,1,0,1,0,0,1,1,0,0,1,1,0,0,1,1,0,0,1,1,1,1,1,1,1,0,0]::KI.blk 4::KI.blk 3::kc AF [1,1,1,1,1,0,1,0,0,1,1,0,0,1,1,0,0,1,1,1]::kl AF [1,1,1,1,1,0,1,0,0,1,1,0,0,1,1,0,0]::KI.blk 2::TT) (mkE 146 [(2,D.v (V.str d)),(3,di z),(4,D.v (V.int IntKind.u8 (↑(UInt8.toNat y):Int))),(6,D.v (V.ref (vQ raw))),(11,D.ptr 0 0),(12,D.ptr 1 0),(14,D.ptr 2 0),(39,D.v (V.list ML)),(40,di (ML.length:Int)),(41,di (i:Int)),(52,D.v (V.list QL)),(53,di (QL.length:Int)),(54,di (j:Int)),(116,D.v (V.list SL)),(117,di (SL.length:Int)),(118,di (↑0:Int))]) (sQ l a m x q)) _ ?hv ?_
 case hv=>kernel_rfl
 exact⟨by show u.length+1<=_;omega,by show 1+u.length<=_;omega,by rw[hSL];rfl,by rw[hSL];rfl,rfl,rfl,⟨hl4⟩⟩
theorem YT(hx:XOK x A B)(hd:d.length<=100)(hj:j<1000)(u s:List UInt8)(hu:u.length<=5000)(hs:s.length=u.length)(r cap:Nat)(cs:Array Value)(hat:Eg s cs)
  (h:Rn PP CD 0 (db true) σ0 (kLp++TT) (mkE 146 (W0 raw d z y ML QL i (j+1))) (sX l a m x)):
  AK (CB 0 4 r cs 5) PP (fun env σ1=>A2 PP CD env σ1 (db true) σ0) (.code (sub AF [1,1,1,1,1,0,1,0,0,1,1,0,0,1,1,0,0,1,1,0,0,1,1,1,1,1,1,1])::kQ TT) (BF (sub AF [1,1,1,1,1,0,1,0,0,1,1,0,0,1,1,0,0,1,1,0,0,1,1,1,1,1,1,0])) (List.drop 2 (BF (sub AF [1,1,1,1,1,0,1,0,0,1,1,0,0,1,1,0,0,1,1,0,0,1,1,1,1,1,1,0])).toList) (mkE 146 (AaP raw d z y ML QL i j u [(108,ds u),(109,.raw (.slice (some ⟨r,0,none⟩) s.length cap))])) (sQ l a m x q):=by
 have hend:=Aan l a m x q raw d z y ML QL i j TT hx hd hj r cap u s hu hs h
 clear h hx
 refine Rb (L':=opB (sub AF [1,1,1,1,1,0,1,0,0,1,1,0,0,1,1,0,0,1,1,0,0,1,1,1,1,1,1,0]) 2::List.drop 3 (BF (sub AF [1,1,1,1,1,0,1,0,0,1,1,0,0,1,1,0,0,1,1,0,0,1,1,1,1,1,1,0])).toList) ?_ (by kernel_rfl) rfl
 exact OF 110 109 (by kernel_rfl) (by kernel_rfl) (src:=22) (dst:=9) (by kernel_rfl) (e0:=5) (by kernel_rfl) (by kernel_rfl) (by kernel_rfl) (cap:=cap) (by kernel_rfl) hat (Uj (Rb hend rfl (by kernel_rfl)))
theorem Aam(hx:XOK x A B)(hd:d.length<=100)(hj:j<1000)(u:List UInt8)(hu:u.length<=5000)(r cap:Nat)(cs:Array Value)(hat:Eg u cs)
  (h:Rn PP CD 0 (db true) σ0 (kLp++TT) (mkE 146 (W0 raw d z y ML QL i (j+1))) (sX l a m x)):
  AK (CB 0 4 r cs 5) PP (fun env σ1=>A2 PP CD env σ1 (db true) σ0) (.code (sub AF [1,1,1,1,1,0,1,0,0,1,1,0,0,1,1,0,0,1,1,0,0,1,1,1,1,1])::kQ TT) (BF (sub AF [1,1,1,1,1,0,1,0,0,1,1,0,0,1,1,0,0,1,1,0,0,1,1,1,1,0])) (List.drop 2 (BF (sub AF [1,1,1,1,1,0,1,0,0,1,1,0,0,1,1,0,0,1,1,0,0,1,1,1,1,0])).toList) (mkE 146 (AaP raw d z y ML QL i j u [(96,ds u),(97,.raw (.slice (some ⟨r,0,none⟩) u.length cap))])) (sQ l a m x q):=by
 by_cases hp:0<u.length
 ·obtain⟨jj,j0,j1,hmod⟩:=Zi z u.length (by omega)
  obtain⟨jn,rfl⟩:∃n:Nat,jj=n:=⟨jj.toNat,by omega⟩
  refine F7 (ks:=[.code (sub AF [1,1,1,1,1,0,1,0,0,1,1,0,0,1,1,0,0,1,1,0,0,1,1,1,1,1])]) (T:=kQ TT) mixed (Sp 0 4 r cs _) 4 (fun _ _ h=>h.2.1) 146 [6] 17 2 (.h (.q 18 1)<|.h (.o (di u.length) (sQ l a m x q))<|.t<|.h (.q 19 3)<|.h (.o (di u.length) (sQ l a m x q))<|.c (di jn)<|.h (.q 19 6)<|.h (.o (.raw (.pointer (some ⟨r,jn,none⟩))) (sQ l a m x q))<|.h (.q 19 7)<|.h (.s [ke 2,ke 3,ke 4,ke 6,ke 11,ke 12,ke 14,ke 19,ke 21,ke 39,ke 40,ke 41,ke 52,ke 53,ke 54,ke 106,ke 107]) .z) ?_
  refine @via (Ap PP (Oper.mk (some 99) (Op.call (Call.mk (Callee.builtin Builtin.len) #[Operand.tmp 98] #[22])) 3 "law.go:57" #[Edge.mk 0 Ground.data] none) [D.raw (Value.slice (some (Addr.mk r 0 none)) u.length cap)] (sQ l a m x q) (di (u.length:Int)) (sQ l a m x q)/\decide ((u.length:Int)>0)=true/\Ap PP (Oper.mk (some 104) (Op.call (Call.mk (Callee.builtin Builtin.len) #[Operand.tmp 103] #[22])) 3 "law.go:58" #[Edge.mk 2 Ground.data] none) [D.raw (Value.slice (some (Addr.mk r 0 none)) u.length cap)] (sQ l a m x q) (di (u.length:Int)) (sQ l a m x q)/\F0 15 [di z,di (u.length:Int)] (di (jn:Int))/\Ap PP (Oper.mk (some 107) (Op.indexAddr 22 (Operand.tmp 101) (Operand.tmp 105)) 0 "law.go:58" #[Edge.mk 0 Ground.data,Edge.mk 4 Ground.data,Edge.mk 0 Ground.phase,Edge.mk 1 Ground.phase,Edge.mk 2 Ground.phase,Edge.mk 3 Ground.phase,Edge.mk 4 Ground.phase,Edge.mk 5 Ground.phase] none) [D.raw (Value.slice (some (Addr.mk r 0 none)) u.length cap),di (jn:Int)] (sQ l a m x q) (D.raw (Value.pointer (some (Addr.mk r jn none)))) (sQ l a m x q)/\Nv.It (AK (CB 0 4 r cs 5) PP (fun env σ1=>A2 PP CD env σ1 (db true) σ0) (kc AF [1,1,1,1,1,0,1,0,0,1,1,0,0,1,1,0,0,1,1,0,0,1,1,1,1,1,1]::KI.blk 3::kc AF [1,1,1,1,1,0,1,0,0,1,1,0,0,1,1,0,0,1,1,1]::kl AF [1,1,1,1,1,0,1,0,0,1,1,0,0,1,1,0,0]::KI.blk 2::TT) (BF (sub AF [1,1,1,1,1,0,1,0,0,1,1,0,0,1,1,0,0,1,1,0,0,1,1,1,1,1,0,1,0])) (List.drop 7 (BF (sub AF [1,1,1,1,1,0,1,0,0,1,1,0,0,1,1,0,0,1,1,0,0,1,1,1,1,1,0,1,0])).toList) (mkE 146 [(2,D.v (V.str d)),(3,di z),(4,D.v (V.int IntKind.u8 (↑(UInt8.toNat y):Int))),(6,D.v (V.ref (vQ raw))),(11,D.ptr 0 0),(12,D.ptr 1 0),(14,D.ptr 2 0),(19,D.v (V.str u)),(21,D.raw (Value.slice (some (Addr.mk r 0 none)) u.length cap)),(39,D.v (V.list ML)),(40,di (ML.length:Int)),(41,di (i:Int)),(52,D.v (V.list QL)),(53,di (QL.length:Int)),(54,di (j:Int)),(106,D.v (V.int IntKind.u8 (↑(UInt8.toNat y):Int))),(107,D.raw (Value.pointer (some (Addr.mk r jn none))))]) (sQ l a m x q))) _ ?hv ?_
  case hv=>kernel_rfl
  refine⟨Hu rfl (e:=5) (by kernel_rfl),Hz (by omega),Hu rfl (e:=5) (by kernel_rfl),hmod,RN rfl Abw j0 j1,⟨?_⟩⟩
  have hjn:jn<u.length:=by omega
  refine Rb (L':=opB (sub AF [1,1,1,1,1,0,1,0,0,1,1,0,0,1,1,0,0,1,1,0,0,1,1,1,1,1,0,1,0]) 7::List.drop 8 (BF (sub AF [1,1,1,1,1,0,1,0,0,1,1,0,0,1,1,0,0,1,1,0,0,1,1,1,1,1,0,1,0])).toList) ?_ (by kernel_rfl) rfl
  refine OE 107 106 (by kernel_rfl) (by kernel_rfl) (t:=5) (by kernel_rfl) (by kernel_rfl) (i:=jn) (r:=r) (c:=y) (by kernel_rfl) (by kernel_rfl) (Ox hat hjn) ?_
  have hat':=SY hat jn y (Ox hat hjn)
  generalize cs.setIfInBounds jn (.int .u8 (y.toNat:Int))=cs' at hat'⊢
  have hl':(u.set jn y).length=u.length:=List.length_set
  generalize u.set jn y=s' at hat' hl'
  have hend:=YT l a m x q raw d z y ML QL i j TT hx hd hj u s' hu hl' r cap cs' hat' h
  rw[hl'] at hend
  clear h hx
  refine F7 (ks:=[.code (sub AF [1,1,1,1,1,0,1,0,0,1,1,0,0,1,1,0,0,1,1,0,0,1,1,1,1,1,1])]) (T:=kQ TT) (E:=[(2,ds d),(3,di z),(4,.v (vb y)),(6,.v (.ref (vQ raw))),(11,.ptr 0 0),(12,.ptr 1 0),(14,.ptr 2 0),(19,ds u),(21,.raw (.slice (some ⟨r,0,none⟩) u.length cap)),(39,.v (.list ML)),(40,di ML.length),(41,di i),(52,.v (.list QL)),(53,di QL.length),(54,di j),(106,.v (vb y)),(107,.raw (.pointer (some ⟨r,jn,none⟩)))]) mixed (Sp 0 4 r cs' _) 4 (fun _ _ h=>h.2.1) 146 [6] 19 8 (.h (.q 20 2)<|.h (.s [ke 2,ke 3,ke 4,ke 6,ke 11,ke 12,ke 14,ke 19,ke 39,ke 40,ke 41,ke 52,ke 53,ke 54,ke 108,ke 109]) .z) ?_
  refine @via (Nv.It (AK (CB 0 4 r cs' 5) PP (fun env σ1=>A2 PP CD env σ1 (db true) σ0) (kc AF [1,1,1,1,1,0,1,0,0,1,1,0,0,1,1,0,0,1,1,0,0,1,1,1,1,1,1,1]::KI.blk 3::kc AF [1,1,1,1,1,0,1,0,0,1,1,0,0,1,1,0,0,1,1,1]::kl AF [1,1,1,1,1,0,1,0,0,1,1,0,0,1,1,0,0]::KI.blk 2::TT) (BF (sub AF [1,1,1,1,1,0,1,0,0,1,1,0,0,1,1,0,0,1,1,0,0,1,1,1,1,1,1,0])) (List.drop 2 (BF (sub AF [1,1,1,1,1,0,1,0,0,1,1,0,0,1,1,0,0,1,1,0,0,1,1,1,1,1,1,0])).toList) (mkE 146 [(2,D.v (V.str d)),(3,di z),(4,D.v (V.int IntKind.u8 (↑(UInt8.toNat y):Int))),(6,D.v (V.ref (vQ raw))),(11,D.ptr 0 0),(12,D.ptr 1 0),(14,D.ptr 2 0),(19,D.v (V.str u)),(39,D.v (V.list ML)),(40,di (ML.length:Int)),(41,di (i:Int)),(52,D.v (V.list QL)),(53,di (QL.length:Int)),(54,di (j:Int)),(108,D.v (V.str u)),(109,D.raw (Value.slice (some (Addr.mk r 0 none)) u.length cap))]) (sQ l a m x q))) _ ?hv ?_
  case hv=>kernel_rfl
  exact⟨hend⟩
 ·refine F7 (ks:=[.code (sub AF [1,1,1,1,1,0,1,0,0,1,1,0,0,1,1,0,0,1,1,0,0,1,1,1,1,1])]) (T:=kQ TT) mixed (Sp 0 4 r cs _) 4 (fun _ _ h=>h.2.1) 146 [6] 17 2 (.h (.q 18 1)<|.h (.o (di u.length) (sQ l a m x q))<|.f<|.h (.q 20 2)<|.h (.s [ke 2,ke 3,ke 4,ke 6,ke 11,ke 12,ke 14,ke 19,ke 39,ke 40,ke 41,ke 52,ke 53,ke 54,ke 108,ke 109]) .z) ?_
  refine @via (Ap PP (Oper.mk (some 99) (Op.call (Call.mk (Callee.builtin Builtin.len) #[Operand.tmp 98] #[22])) 3 "law.go:57" #[Edge.mk 0 Ground.data] none) [D.raw (Value.slice (some (Addr.mk r 0 none)) u.length cap)] (sQ l a m x q) (di (u.length:Int)) (sQ l a m x q)/\decide ((u.length:Int)>0)=false/\Nv.It (AK (CB 0 4 r cs 5) PP (fun env σ1=>A2 PP CD env σ1 (db true) σ0) (kc AF [1,1,1,1,1,0,1,0,0,1,1,0,0,1,1,0,0,1,1,0,0,1,1,1,1,1,1,1]::KI.blk 3::kc AF [1,1,1,1,1,0,1,0,0,1,1,0,0,1,1,0,0,1,1,1]::kl AF [1,1,1,1,1,0,1,0,0,1,1,0,0,1,1,0,0]::KI.blk 2::TT) (BF (sub AF [1,1,1,1,1,0,1,0,0,1,1,0,0,1,1,0,0,1,1,0,0,1,1,1,1,1,1,0])) (List.drop 2 (BF (sub AF [1,1,1,1,1,0,1,0,0,1,1,0,0,1,1,0,0,1,1,0,0,1,1,1,1,1,1,0])).toList) (mkE 146 [(2,D.v (V.str d)),(3,di z),(4,D.v (V.int IntKind.u8 (↑(UInt8.toNat y):Int))),(6,D.v (V.ref (vQ raw))),(11,D.ptr 0 0),(12,D.ptr 1 0),(14,D.ptr 2 0),(19,D.v (V.str u)),(39,D.v (V.list ML)),(40,di (ML.length:Int)),(41,di (i:Int)),(52,D.v (V.list QL)),(53,di (QL.length:Int)),(54,di (j:Int)),(108,D.v (V.str u)),(109,D.raw (Value.slice (some (Addr.mk r 0 none)) u.length cap))]) (sQ l a m x q))) _ ?hv ?_
  case hv=>kernel_rfl
  exact⟨Hu rfl (e:=5) (by kernel_rfl),H1 (by omega),⟨YT l a m x q raw d z y ML QL i j TT hx hd hj u u hu rfl r cap cs hat h⟩⟩
end
theorem Xo(l:List UInt8)(a:Nat)(m x:Mod)(q raw:Qst)(hq:q.target.fit)(d:List UInt8)(hd:d.length<=100)(z:Int)(y:UInt8)(ML QL:List V)(i j:Nat)(hj:j<1000)(TT:List KI){A:Qst->List UInt8×Int}{B:Qst->Int}(hx:XOK x A B)(hv:QL[j]?=some (vQ q))
  (h:Rn PP CD 0 (db true) σ0 ([.lp (sub AF [1,1,1,1,1,0,1,0,0,1,1,0,0,1,1,0,0]),.blk 2]++TT) (mkE 146 (W0 raw d z y ML QL i (j+1))) (sX l a m x)):
  Rn PP CD 0 (db true) σ0 ([.lp (sub AF [1,1,1,1,1,0,1,0,0,1,1,0,0,1,1,0,0]),.blk 2]++TT) (mkE 146 (W0 raw d z y ML QL i j)) (sX l a m x):=by
 have t1:=hx.txt q hq
 have t2:=hx.txtR q hq
 have c1:=hx.chk q hq
 have c2:=hx.chkR q hq
 have hu:=hx.len q hq
 have s1:=Xl q raw hq
 have s2:=s41 q raw hq
 have hlt:decide ((j:Int)<(QL.length:Int))=true:=Hz (by have:=(H0.1 hv).1;omega)
 generalize A q=ue at t1 t2 hu
 generalize B q=c at c1 c2
 obtain⟨u,e⟩:=ue
 simp only at t1 t2 hu
 refine lv 146 [6] (.t<|.x (vQ q)<|.c (.tup [ds u,di e])<|.c (.tup [ds u,di e])<|.c (di c)<|.c (di c)<|.f<|.f<|.f<|.c (db (sameQ q raw))<|.c (db (sameQ q raw))<|.f<|.h (.q 17 1)<|.h (.s [ke 2,ke 3,ke 4,ke 6,ke 11,ke 12,ke 14,ke 19,ke 39,ke 40,ke 41,ke 52,ke 53,ke 54,ke 96]) .z) (decide ((j:Int)<(QL.length:Int))=true/\0<=(j:Int)/\QL[Int.toNat (j:Int)]?=some (vQ q)/\F0 9 [Ad x,D.v (V.agg [vi q.kind,vi q.place,vi q.target.n,vVs q.target.kids])] (D.tup [D.v (V.str u),di e])/\F0 10 [Ad x,D.v (V.agg [vi q.kind,vi q.place,vi q.target.n,vVs q.target.kids])] (D.tup [D.v (V.str u),di e])/\F0 11 [Ad x,D.v (V.agg [vi q.kind,vi q.place,vi q.target.n,vVs q.target.kids])] (di c)/\F0 12 [Ad x,D.v (V.agg [vi q.kind,vi q.place,vi q.target.n,vVs q.target.kids])] (di c)/\(c !=c)=false/\(e !=e)=false/\(!u==u)=false/\F0 13 [D.v (V.agg [vi q.kind,vi q.place,vi q.target.n,vVs q.target.kids]),D.v (vQ raw)] (db (sameQ q raw))/\F0 14 [D.v (V.agg [vi q.kind,vi q.place,vi q.target.n,vVs q.target.kids]),D.v (vQ raw)] (db (sameQ q raw))/\(True/\True/\True/\True/\True/\True/\True)/\(sameQ q raw !=sameQ q raw)=false/\Nv.It (AK (CN 0) PP (fun env σ1=>A2 PP CD env σ1 (db true) σ0) (kc AF [1,1,1,1,1,0,1,0,0,1,1,0,0,1,1,0,0,1,1,0,0,1,1,1,1,1]::KI.blk 3::kc AF [1,1,1,1,1,0,1,0,0,1,1,0,0,1,1,0,0,1,1,1]::kl AF [1,1,1,1,1,0,1,0,0,1,1,0,0,1,1,0,0]::KI.blk 2::[]++TT) (BF (sub AF [1,1,1,1,1,0,1,0,0,1,1,0,0,1,1,0,0,1,1,0,0,1,1,1,1,0])) (List.drop 1 (BF (sub AF [1,1,1,1,1,0,1,0,0,1,1,0,0,1,1,0,0,1,1,0,0,1,1,1,1,0])).toList) (mkE 146 [(2,D.v (V.str d)),(3,di z),(4,D.v (V.int IntKind.u8 (↑(UInt8.toNat y):Int))),(6,D.v (V.ref (vQ raw))),(11,D.ptr 0 0),(12,D.ptr 1 0),(14,D.ptr 2 0),(19,D.v (V.str u)),(39,D.v (V.list ML)),(40,di (ML.length:Int)),(41,di (i:Int)),(52,D.v (V.list QL)),(53,di (QL.length:Int)),(54,di (j:Int)),(96,D.v (V.str u))]) (St.mk [some (cDz l a),some (DU m),some (DU x),some [di q.kind,di q.place,di q.target.n,dVs q.target.kids]] []))) ?_
 refine⟨hlt,by omega,hv,t1,t2,c1,c2,bne_self_eq_false _,bne_self_eq_false _,by simp,s1,s2,⟨trivial,trivial,trivial,trivial,trivial,trivial,trivial⟩,bne_self_eq_false _,⟨?_⟩⟩
 have hmid:=fun r cap cs hat=>Aam l a m x q raw d z y ML QL i j TT hx hd hj u hu r cap cs hat h
 clear h hx t1 t2 c1 c2 s1 s2
 refine Rb (L':=opB (sub AF [1,1,1,1,1,0,1,0,0,1,1,0,0,1,1,0,0,1,1,0,0,1,1,1,1,0]) 1::List.drop 2 (BF (sub AF [1,1,1,1,1,0,1,0,0,1,1,0,0,1,1,0,0,1,1,0,0,1,1,1,1,0])).toList) ?_ (by kernel_rfl) rfl
 exact OC 97 96 (by kernel_rfl) (by kernel_rfl) (src:=9) (dst:=22) (by kernel_rfl) (e:=5) (by kernel_rfl) (by kernel_rfl) (by kernel_rfl) (s:=u) (by kernel_rfl) fun r cap cs hat=>Rb (hmid r cap cs hat) rfl (by kernel_rfl)
theorem Xn(l:List UInt8)(a:Nat)(m x:Mod)(raw:Qst)(d:List UInt8)(hd:d.length<=100)(z:Int)(y:UInt8)(ML:List V)(i:Nat)(TT:List KI){A:Qst->List UInt8×Int}{B:Qst->Int}(hx:XOK x A B)(Qs:List Qst)(hQ:∀q∈Qs,q.target.fit)(hn:Qs.length<=900)(QL:List V)(hQL:QL=Qs.map vQ)
  (h:Rn PP CD 0 (db true) σ0 TT (mkE 146 (AaO raw d z y ML i)) (sX l a m x)) (N:Nat):∀j:Nat,Qs.length-j=N->
  Rn PP CD 0 (db true) σ0 ([.lp (sub AF [1,1,1,1,1,0,1,0,0,1,1,0,0,1,1,0,0]),.blk 2]++TT) (mkE 146 (W0 raw d z y ML QL i j)) (sX l a m x):=by
 have hlen:QL.length=Qs.length:=by rw[hQL,Hw]
 induction N with
 |zero=>
  intro j hj
  refine lv 146 [6] (.f<|.ls [ke 2,ke 3,ke 4,ke 6,ke 11,ke 12,ke 39,ke 40,ke 41] (sX l a m x)) (decide ((j:Int)<(QL.length:Int))=false/\Q [some (cDz l a),some (DU m),some (DU x)]/\I0 CD 0 (db true) σ0 TT (mkE 146 [(2,D.v (V.str d)),(3,di z),(4,D.v (V.int IntKind.u8 (↑(UInt8.toNat y):Int))),(6,D.v (V.ref (vQ raw))),(11,D.ptr 0 0),(12,D.ptr 1 0),(39,D.v (V.list ML)),(40,di (ML.length:Int)),(41,di (i:Int))]) (sX l a m x)) ?_
  exact⟨H1 (by omega),rfl,⟨h⟩⟩
 |succ N ih=>
  intro j hj
  obtain⟨q,hq⟩:∃q,Qs[j]?=some q:=⟨_,Hx (by omega)⟩
  exact Xo l a m x q raw (hQ q (H4 hq)) d hd z y ML QL i j (by omega) TT hx (by rw[hQL];simp[hq]) (ih (j+1) (by omega))
end Go.Proofs.YtpmahmngmgnnbaaGreatDoor

namespace Go.Proofs.YtpmahmngmgnnbaaGreatDoor
open Go.Dv Go.Nv Go.RowKit Go.ChangeShapes Go.WideShapes Go.Joins
open Go.IntKind (wrap)
def IsRow(k:IntKind)(w:World)(a:Option Addr)(len cap:Nat)(zs:List Int):Prop:=
 (a=none/\len=0/\cap=0/\zs=[])∨
 ∃x,a=some x/\len<=cap/\cap<=maxLen/\zs.length=cap/\(∀i,i<zs.length->w.cell? (x.add i)=some (.int k (zs.getD i 0)))/\∀n∈zs,(Lit.int k n).wf=true
def memOf(w:World):Mem:=fun b o=>w.cell? ⟨b,o,none⟩
def g0(w:World):Gh:={ M:=memOf w,β:=fun _=>0,n:=0,ι:=fun _ _=>none,κ:=fun _=>0 }
theorem wrep0(w:World)(hG:GlobOK (memOf w))(hW:GW w):WRep (g0 w) ⟨[],[]⟩ w where
 n:=rfl
 mem:=fun b o v h=>h
 obj:=fun i cs hi=>by simp at hi
 inj:=fun i j cs ds hi=>by simp at hi
 own:=fun k sz xs hx=>by simp at hx
 tags:=by simp
 sep:=fun x hx=>by simp at hx
 ownObj:=fun x hx=>by simp at hx
 fresh:=fun _ _ _=>rfl
 gl:=hG
 gw:=hW
theorem L1(M:Mem)(k:IntKind):∀xs:List Int,repE M 1 (xs.map (V.int k)) (xs.map (Value.int k))
 |[]=>by simp[repE]
 |x::xs=>by simp only[HO,repE];exact⟨[.int k x],xs.map (Value.int k),rfl,rfl,by simp[repC],L1 M k xs⟩
theorem isRow_rep{k:IntKind}{w:World}{a:Option Addr}{len cap:Nat}{zs:List Int}(h:IsRow k w a len cap zs):repV (memOf w) (.list ((zs.take len).map (V.int k))) (.slice a len cap):=by
 rw[AJ]
 rcases h with⟨rfl,rfl,rfl,rfl⟩|⟨x,rfl,hl,_,hz,hc,_⟩
 ·exact⟨none,0,rfl,H5 _,.inl rfl⟩
 ·have hlen:((zs.take len).map (V.int k)).length=len:=by simp;omega
  refine⟨some x,cap,by rw[hlen],by rw[hlen];exact hl,?_⟩
  rcases Nat.eq_zero_or_pos len with h0|hpos
  ·exact .inl (IE (by rw[hlen];exact h0))
  ·right
   have hspot:x.spot=none:=by
    have h0:=hc 0 (by omega)
    cases hs:x.spot with
    |none=>rfl
    |some s=>
     have:x.add 0=x:=by simp[Addr.add]
     rw[this] at h0
     unfold World.cell? at h0
     split at h0
     ·rw[hs] at h0;simp at h0
     ·simp at h0
   obtain⟨b,off,spot⟩:=x
   simp only at hspot
   subst hspot
   refine⟨b,off,1,(zs.take len).map (Value.int k),rfl,by omega,fun j v hj=>?_,L1 _ k _⟩
   simp only[Ic] at hj
   cases hz2:(zs.take len)[j]? with
   |none=>simp[hz2] at hj
   |some z=>
    simp[hz2] at hj
    have hjl:j<len:=by have:=(H0.1 hz2).1;simp at this;omega
    have hzj:zs[j]?=some z:=by rw[IJ] at hz2;simpa[hjl] using hz2
    have:=hc j (by omega)
    rw[Addr.add_lit] at this
    simp only[memOf]
    rw[this, ←hj]
    simp[H6,hzj]
theorem below_of{w w':World}{g':Gh}{σ':St}(h:WI ⟨g0 w,w,⟨[],[]⟩⟩ g' σ' w'):Below w.heap.size w w':=by
 exact⟨h.os,h.tape,h.output,h.size,fun b hb=>(h.keep b hb Fl).1⟩
theorem byte_ok{n:Int}(h:(Lit.int .u8 n).wf=true):0<=n/\n<256:=by
 simp only[Lit.wf,Hy,H8,show IntKind.u8.min=0 from by decide,show IntKind.u8.max=255 from by decide] at h
 omega
theorem bytes_ok{w:World}{a:Option Addr}{len cap:Nat}{zs:List Int}(h:IsRow .u8 w a len cap zs):∀x∈zs.take len,0<=x/\x<256:=by
 intro x hx
 rcases h with⟨_,_,_,rfl⟩|⟨_,_,_,_,_,_,hw⟩
 ·simp at hx
 ·exact byte_ok (hw x (List.mem_of_mem_take hx))
theorem GX:∀l:List Int,(∀x∈l,0<=x/\x<256)->∃s:List UInt8,l.map (V.int .u8)=s.map vb
 |[],_=>⟨[],rfl⟩
 |x::l,h=>by
  obtain⟨s,hs⟩:=GX l fun y hy=>h y (by simp[hy])
  have hx:=h x (by simp)
  refine⟨UInt8.ofNat x.toNat::s,?_⟩
  rw[HO,HO,hs]
  have:((UInt8.ofNat x.toNat).toNat:Int)=x:=by
   have h1:(UInt8.ofNat x.toNat).toNat=x.toNat%256:=by simp
   rw[h1];omega
  rw[show V.int .u8 x=vb (UInt8.ofNat x.toNat) from by rw[vb,this]]
theorem law_bytesG{f:FuncId}(hspec:∀s:List UInt8,Aa PP f [.v (vBs s)] ⟨[],[]⟩ (.v (.bool true)) ⟨[],[]⟩){a:Option Addr}{len cap:Nat}{zs:List Int}{w:World}(h:IsRow .u8 w a len cap zs)(hG:GlobOK (memOf w)/\GW w):
  Calls PP f #[.slice a len cap] w fun e w'=>e=.returned (.bool true)/\Below w.heap.size w w':=by
 obtain⟨s,hs⟩:=GX _ (bytes_ok h)
 have hr0:=isRow_rep h
 rw[hs] at hr0
 refine Calls.mono ((hspec s).2 (g0 w) w [.slice a len cap] (wrep0 w hG.1 hG.2) (Av.2 ⟨_,rfl,by simp only[Ac];exact hr0⟩)) ?_
 rintro e w' ⟨u,g',rfl,hw,hr⟩
 simp only[Ac,Cq] at hr
 subst hr
 exact⟨rfl,below_of hw⟩
theorem law_bytesG4{f:FuncId}(hspec:∀(s d:List UInt8) (x:Int) (y:UInt8),Aa PP f [.v (vBs s),ds d,di x,.v (vb y)] ⟨[],[]⟩ (.v (.bool true)) ⟨[],[]⟩){a:Option Addr}{len cap:Nat}{zs:List Int}{w:World}(h:IsRow .u8 w a len cap zs)(a1:ByteArray)(a2 a3:Int)(w3:(Lit.int .u8 a3).wf=true)(hG:GlobOK (memOf w)/\GW w):
  Calls PP f #[.slice a len cap,.string a1,.int .i64 a2,.int .u8 a3] w fun e w'=>e=.returned (.bool true)/\Below w.heap.size w w':=by
 obtain⟨s,hs⟩:=GX _ (bytes_ok h)
 have hr0:=isRow_rep h
 rw[hs] at hr0
 have hy:=byte_ok w3
 obtain⟨y,rfl⟩:∃y:UInt8,a3=(y.toNat:Int):=⟨UInt8.ofNat a3.toNat,by
  have h1:(UInt8.ofNat a3.toNat).toNat=a3.toNat%256:=by simp
  rw[h1];omega⟩
 refine Calls.mono ((hspec s a1.data.toList a2 y).2 (g0 w) w [.slice a len cap,.string a1,.int .i64 a2,.int .u8 (y.toNat:Int)] (wrep0 w hG.1 hG.2) ?_) ?_
 ·simp only[Ab]
  refine⟨_,_,rfl,by simp only[Ac];exact hr0,_,_,rfl,by simp only[Ac,AI],_,_,rfl,by simp only[Ac,As],_,_,rfl,by simp only[Ac,As],rfl⟩
 ·rintro e w' ⟨u,g',rfl,hw,hr⟩
  simp only[Ac,Cq] at hr
  subst hr
  exact⟨rfl,below_of hw⟩
set_option maxRecDepth 20000
section
variable {w : World} {enc : TypeId × Value -> Unit} {spare : Nat -> Bool} {held : Bool}
theorem C7{fuel:Nat}{cs:List Value}{x:DataW Unit×List MemPlace}{s:List UInt8}{b1 b2 b3:Bool}(hx:x.1=.agg [.lit (.string s),.lit (.bool b1),.lit (.bool b2),.lit (.bool b3)])
  (h:DataW.trod enc PP w 0 spare held fuel 57 cs=some x):cs=[.string ⟨s.toArray⟩,.bool b1,.bool b2,.bool b3]:=by
 obtain⟨y0,y1,y2,y3,n,rfl,hl,h0,h1,h2,h3⟩:=trod_struct4 Tryz.underlying57 h
 obtain⟨s',e0,f0,_⟩:=DataW.trod_string Tryz.underlying9 h0
 obtain⟨c1,e1,f1⟩:=DataW.trod_bool Tryz.underlying4 h1
 obtain⟨c2,e2,f2⟩:=DataW.trod_bool Tryz.underlying4 h2
 obtain⟨c3,e3,f3⟩:=DataW.trod_bool Tryz.underlying4 h3
 have hl:cs.length=4:=hl.trans (by kernel_rfl)
 simp only[f0,f1,f2,f3,DataW.agg.injEq,HB,DataW.lit.injEq,Lit.string.injEq,Lit.bool.injEq,HZ] at hx
 obtain⟨g0,rfl,rfl,rfl⟩:=hx
 rw[show PP.cellsOf 9=1 by kernel_rfl] at e0
 rw[show PP.cellsOf 4=1 by kernel_rfl] at e1 e2 e3
 match cs,hl with
 |[a,b,c,d],_=>
  simp at e0 e1 e2 e3
  subst e0 e1 e2 e3
  rw[←g0]
theorem MY{fuel:Nat}{cs:List Value}{p:List MemPlace}(h:DataW.trod enc PP w 0 spare held fuel 58 cs=some (Rows.laid_coverability_question_forms,p))(M:Mem):repC M QA cs:=by
 obtain⟨xs,m,rfl,hx,hl,hn,hi⟩:=DataW.trod_array Tryz.underlying58 h
 have hl:cs.length=28:=hl.trans (by kernel_rfl)
 rw[show PP.cellsOf 57=4 by kernel_rfl] at hi
 match xs,hn with
 |[x0,x1,x2,x3,x4,x5,x6],_=>
  simp only[Rows.laid_coverability_question_forms,Prod.mk.injEq,DataW.agg.injEq,HO,Iu,HB,HZ] at hx
  obtain⟨⟨h0,h1,h2,h3,h4,h5,h6⟩,_⟩:=hx
  have k0:=C7 h0.symm (hi 0 (by decide))
  have k1:=C7 h1.symm (hi 1 (by decide))
  have k2:=C7 h2.symm (hi 2 (by decide))
  have k3:=C7 h3.symm (hi 3 (by decide))
  have k4:=C7 h4.symm (hi 4 (by decide))
  have k5:=C7 h5.symm (hi 5 (by decide))
  have k6:=C7 h6.symm (hi 6 (by decide))
  match cs,hl with
  |[a0,a1,a2,a3,a4,a5,a6,a7,a8,a9,a10,a11,a12,a13,a14,a15,a16,a17,a18,a19,a20,a21,a22,a23,a24,a25,a26,a27],_=>
   simp at k0 k1 k2 k3 k4 k5 k6
   simp only[QA,Li,repC,repA,IW,List.nil_append]
   refine⟨_,_,rfl,rfl,by rw[k0.1],_,_,rfl,rfl,by rw[k0.2.1],_,_,rfl,rfl,by rw[k0.2.2.1],_,_,rfl,rfl,by rw[k0.2.2.2],?_⟩
   refine⟨_,_,rfl,rfl,by rw[k1.1],_,_,rfl,rfl,by rw[k1.2.1],_,_,rfl,rfl,by rw[k1.2.2.1],_,_,rfl,rfl,by rw[k1.2.2.2],?_⟩
   refine⟨_,_,rfl,rfl,by rw[k2.1],_,_,rfl,rfl,by rw[k2.2.1],_,_,rfl,rfl,by rw[k2.2.2.1],_,_,rfl,rfl,by rw[k2.2.2.2],?_⟩
   refine⟨_,_,rfl,rfl,by rw[k3.1],_,_,rfl,rfl,by rw[k3.2.1],_,_,rfl,rfl,by rw[k3.2.2.1],_,_,rfl,rfl,by rw[k3.2.2.2],?_⟩
   refine⟨_,_,rfl,rfl,by rw[k4.1],_,_,rfl,rfl,by rw[k4.2.1],_,_,rfl,rfl,by rw[k4.2.2.1],_,_,rfl,rfl,by rw[k4.2.2.2],?_⟩
   refine⟨_,_,rfl,rfl,by rw[k5.1],_,_,rfl,rfl,by rw[k5.2.1],_,_,rfl,rfl,by rw[k5.2.2.1],_,_,rfl,rfl,by rw[k5.2.2.2],?_⟩
   refine⟨_,_,rfl,rfl,by rw[k6.1],_,_,rfl,rfl,by rw[k6.2.1],_,_,rfl,rfl,by rw[k6.2.2.1],_,_,rfl,rfl,by rw[k6.2.2.2],?_⟩
   rfl
theorem R2{fuel:Nat}{cs:List Value}{p:List MemPlace}(h:DataW.trod enc PP w 0 spare held fuel 180 cs=some (Rows.laid_internal_strconv_uint64pow10,p))(M:Mem):repC M WL cs/\cs.length=20:=by
 obtain⟨xs,m,rfl,hx,hl,hn,hi⟩:=DataW.trod_array Tryz.underlying180 h
 have hl:cs.length=20:=hl.trans (by kernel_rfl)
 rw[show PP.cellsOf 120=1 by kernel_rfl] at hi
 refine⟨?_,hl⟩
 have one:∀(i:Nat) (x:DataW Unit×List MemPlace) (n:Int),xs[i]?=some x->x.1=.lit (.int .u64 n)->cs[i]?=some (.int .u64 n):=fun i x n hxi hxn=>by
  have hlt:i<20:=by have:=(H0.1 hxi).1;omega
  have h1:=hi i hlt
  rw[hxi] at h1
  obtain⟨k,e1,e2,_⟩:=DataW.trod_int Tryz.underlying120 h1
  rw[e2] at hxn
  simp only[DataW.lit.injEq,Lit.int.injEq,true_and] at hxn
  subst hxn
  have:=HL (·[0]?) e1
  simpa[IJ,List.getElem?_drop] using this
 match xs,hn with
 |[x0,x1,x2,x3,x4,x5,x6,x7,x8,x9,x10,x11,x12,x13,x14,x15,x16,x17,x18,x19],_=>
  simp only[Rows.laid_internal_strconv_uint64pow10,Prod.mk.injEq,DataW.agg.injEq,HO,Iu,HB,HZ] at hx
  obtain⟨⟨h0,h1,h2,h3,h4,h5,h6,h7,h8,h9,h10,h11,h12,h13,h14,h15,h16,h17,h18,h19⟩,_⟩:=hx
  have k0:=one 0 _ _ rfl h0.symm
  have k1:=one 1 _ _ rfl h1.symm
  have k2:=one 2 _ _ rfl h2.symm
  have k3:=one 3 _ _ rfl h3.symm
  have k4:=one 4 _ _ rfl h4.symm
  have k5:=one 5 _ _ rfl h5.symm
  have k6:=one 6 _ _ rfl h6.symm
  have k7:=one 7 _ _ rfl h7.symm
  have k8:=one 8 _ _ rfl h8.symm
  have k9:=one 9 _ _ rfl h9.symm
  have k10:=one 10 _ _ rfl h10.symm
  have k11:=one 11 _ _ rfl h11.symm
  have k12:=one 12 _ _ rfl h12.symm
  have k13:=one 13 _ _ rfl h13.symm
  have k14:=one 14 _ _ rfl h14.symm
  have k15:=one 15 _ _ rfl h15.symm
  have k16:=one 16 _ _ rfl h16.symm
  have k17:=one 17 _ _ rfl h17.symm
  have k18:=one 18 _ _ rfl h18.symm
  have k19:=one 19 _ _ rfl h19.symm
  clear one hi h
  match cs,hl with
  |[a0,a1,a2,a3,a4,a5,a6,a7,a8,a9,a10,a11,a12,a13,a14,a15,a16,a17,a18,a19],_=>
   simp at k0 k1 k2 k3 k4 k5 k6 k7 k8 k9 k10 k11 k12 k13 k14 k15 k16 k17 k18 k19
   subst k0 k1 k2 k3 k4 k5 k6 k7 k8 k9 k10 k11 k12 k13 k14 k15 k16 k17 k18 k19
   simp only[WL,repC,repA]
   exact⟨_,_,rfl,rfl,rfl,_,_,rfl,rfl,rfl,_,_,rfl,rfl,rfl,_,_,rfl,rfl,rfl,_,_,rfl,rfl,rfl,_,_,rfl,rfl,rfl,_,_,rfl,rfl,rfl,_,_,rfl,rfl,rfl,_,_,rfl,rfl,rfl,_,_,rfl,rfl,rfl,_,_,rfl,rfl,rfl,_,_,rfl,rfl,rfl,_,_,rfl,rfl,rfl,_,_,rfl,rfl,rfl,_,_,rfl,rfl,rfl,_,_,rfl,rfl,rfl,_,_,rfl,rfl,rfl,_,_,rfl,rfl,rfl,_,_,rfl,rfl,rfl,_,_,rfl,rfl,rfl,rfl⟩
theorem Jx{fuel:Nat}{t:TypeId}{cs:List Value}{x:DataW Unit×List MemPlace}{nm:String}{y:DataW Unit}(ht:PP.underlying t=some (.interface (PP.methodsAt t)))(h:DataW.trod enc PP w 0 spare held fuel t cs=some x)(hx:x.1=.iface nm y):∃u v,cs=[.iface u v]:=by
 by_cases hc:∃u v,cs=[.iface u v]
 ·exact hc
 ·exfalso
  cases fuel with
  |zero=>simp[DataW.trod] at h
  |succ n=>
   unfold DataW.trod at h
   rw[ht] at h
   split at h<;>first|(cases h;cases hx;done)|exact hc ⟨_,_,rfl⟩|(cases h;done)|(simp_all;done)
end
abbrev laid6:List (String×DataW Unit):=[("math/bits.deBruijn32tab",Rows.laid_math_bits_deBruijn32tab),("math/bits.deBruijn64tab",Rows.laid_math_bits_deBruijn64tab),("internal/strconv.uint64pow10",Rows.laid_internal_strconv_uint64pow10),("strconv.ErrRange",Rows.laid_strconv_ErrRange),("strconv.ErrSyntax",Rows.laid_strconv_ErrSyntax),("coverability/question.forms",Rows.laid_coverability_question_forms)]
theorem forms_ok{w:World}(h:laidMetH PP laid6 w):GlobOK (memOf w)/\GW w:=by
 rw[MakeChecks.laidMetH_plain _ _ _ (by kernel_rfl)] at h
 obtain⟨ps,⟨_,_,_,_,_,_,_,_,_,_,⟨_,_,_,_,_,_,_,_,_,_,⟨g3,t3,cs3,f3,p3,q3,hg3,ht3,hv3,hd3,⟨g4,t4,cs4,f4,p4,q4,hg4,ht4,hv4,hd4,⟨g5,t5,cs5,f5,p5,q5,hg5,ht5,hv5,hd5,⟨g,t,cs,f,p,q,hg,ht,hv,hd,_⟩,_⟩,_⟩,_⟩,_⟩,_⟩,_,_⟩:=h
 obtain rfl: 0 =g:=HN ((show PP.globalNamed "coverability/question.forms"=some 0 by kernel_rfl).symm.trans hg)
 obtain rfl:58=t:=HN ((show(PP.globals[0]?).map (·.type)=some 58 by kernel_rfl).symm.trans ht)
 obtain rfl: 2 =g3:=HN ((show PP.globalNamed "internal/strconv.uint64pow10"=some 2 by kernel_rfl).symm.trans hg3)
 obtain rfl:180=t3:=HN ((show(PP.globals[2]?).map (·.type)=some 180 by kernel_rfl).symm.trans ht3)
 obtain rfl: 4 =g4:=HN ((show PP.globalNamed "strconv.ErrRange"=some 4 by kernel_rfl).symm.trans hg4)
 obtain rfl:100=t4:=HN ((show(PP.globals[4]?).map (·.type)=some 100 by kernel_rfl).symm.trans ht4)
 obtain rfl: 3 =g5:=HN ((show PP.globalNamed "strconv.ErrSyntax"=some 3 by kernel_rfl).symm.trans hg5)
 obtain rfl:100=t5:=HN ((show(PP.globals[3]?).map (·.type)=some 100 by kernel_rfl).symm.trans ht5)
 obtain⟨hpow,hpl⟩:=R2 hd3 (memOf w)
 obtain⟨u4,v4,e4⟩:=Jx (by kernel_rfl) hd4 rfl
 obtain⟨u5,v5,e5⟩:=Jx (by kernel_rfl) hd5 rfl
 have at_:∀{n:String} {g:Nat} {cs:Array Value},PP.globalNamed n=some g->w.var? PP n=some cs->inM (memOf w) g 0 cs.toList:=fun hg hv j v hj=>by
  simp only[memOf]
  rw[Ih,World.var?_cell hg hv]
  simpa using hj
 refine⟨⟨fun x hx=>?_,⟨?_,?_⟩⟩,fun x hx=>?_⟩
 ·simp only[Y1,Ib,IM,or_false] at hx
  rcases hx with rfl|rfl
  ·exact⟨cs.toList,at_ hg hv,MY hd _⟩
  ·exact⟨cs3.toList,at_ hg3 hv3,hpow⟩
 ·exact⟨u5,v5,by have:=at_ hg5 hv5 0 (.iface u5 v5) (by rw[e5];rfl);simpa using this⟩
 ·exact⟨u4,v4,by have:=at_ hg4 hv4 0 (.iface u4 v4) (by rw[e4];rfl);simpa using this⟩
 ·obtain rfl:x=(2,20):=by simpa[E1] using hx
  have h3:=hv3
  unfold World.var? at h3
  rw[hg3] at h3
  simp only[Option.bind_some] at h3
  split at h3
  ·rename_i c e fr hh
   simp at h3;subst h3
   exact⟨_,_,_,hh,by simpa using hpl⟩
  ·simp at h3
end Go.Proofs.YtpmahmngmgnnbaaGreatDoor
