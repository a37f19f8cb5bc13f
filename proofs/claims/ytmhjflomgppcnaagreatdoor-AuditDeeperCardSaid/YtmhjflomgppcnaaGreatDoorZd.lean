/-
  A part of the proof.
-/
import Derived.Test.YtmhjflomgppcnaaGreatDoorZc
namespace Go.Proofs.YtmhjflomgppcnaaGreatDoor
open Go.Dv Go.Nv
set_option maxRecDepth 20000
open List (all_cons flatten_nil headD length map mem_replicate replicate take)
open Go.IntKind (wrap i64 u64)
structure Tk where
 place:Int
 low:Int
 high:Int
 deriving DecidableEq,Inhabited
abbrev vTk(t:Tk):V:=.agg [vi t.place,vi t.low,vi t.high]
abbrev AD(l:List Tk):V:=.list (l.map vTk)
structure Rul where
 name:List UInt8
 frm:Int
 to:Int
 need:List Int
 give:List Int
 move:List Int
 chan:Int
 act:Int
 letter:Int
 path:List Int
 next:List Int
 takes:List Tk
 makes:List Int
 second:Int
 deriving DecidableEq,Inhabited
abbrev Ak(r:Rul):V:=.agg [.str r.name,vi r.frm,vi r.to,vIs r.need,vIs r.give,vIs r.move,vi r.chan,vi r.act,vi r.letter,vIs r.path,vIs r.next,AD r.takes,vIs r.makes,vi r.second]
abbrev CJ(l:List Rul):V:=.list (l.map Ak)
abbrev vSs(l:List (List UInt8)):V:=.list (l.map V.str)
structure Mod where
 kind:Int
 states:List (List UInt8)
 places:List (List UInt8)
 letters:List (List UInt8)
 ranks:List Int
 levels:Int
 age:Int
 rules:List Rul
 start:Val
 deriving Inhabited
abbrev A8(m:Mod):V:=.agg [vi m.kind,vSs m.states,vSs m.places,vSs m.letters,vIs m.ranks,vi m.levels,vi m.age,CJ m.rules,vi m.start.n,vVs m.start.kids]
abbrev Ag(m:Mod):D:=.v (A8 m)
abbrev Cl(r:Rul):D:=.v (Ak r)
def Av(x a b:Int):Bool:=decide (a<=x)&&decide (x<=b)
noncomputable abbrev AiI:Func:= Tryz.f83
theorem CI(x a b:Int):Aa PP 83 [di x,di a,di b] σ0 (db (Av x a b)) σ0:=by
 refine sv AiI 15 [] (.b .r .r) ((decide (x>=a)=true->db (decide (x<=b))=db (Av x a b))/\(decide (x>=a)=false->db false=db (Av x a b))) ?_
 refine⟨fun h=>?_,fun h=>?_⟩
 ·have h:a<=x:=by simpa using h
  simp[Av,h]
 ·have h:¬a<=x:=by simpa using h
  simp[Av,h]
noncomputable abbrev AdR:Func:= Tryz.f131
theorem CC(x:Int)(n:Nat)(hn:n<=1000000):Aa PP 131 [di x,di n] σ0 (db (Av x 0 (n-1))) σ0:=by
 refine sv AdR 9 [] (.c (db (Av x 0 (n-1))) .r) (F0 83 [di x,di 0,di (wrap i64 ((n:Int)-1))] (db (Av x 0 ((n:Int)-1)))/\Q (db (Av x 0 ((n:Int)-1)))) ?_
 refine⟨?_,rfl⟩
 rw[Al (by omega) (by omega)]
 exact CI x 0 (n-1)
noncomputable abbrev Ai4:Func:= Tryz.f137
noncomputable abbrev Ag4:Func:= Tryz.f183
theorem Tl(F:FuncId)(fs cs:List V)(p:Int->Bool)(x:Int)(hp:Aa PP F ((fs++[vi x]++cs).map .v) σ0 (db (p x)) σ0):Aa PP 183 [di x,.v (.ref (.fn F fs cs))] σ0 (db (!p x)) σ0:=by
 refine sv Ag4 8 [] (.c (db (p x)) .r) (F0 F (map D.v (fs++[vi x]++cs)) (db (p x))/\(db !p x)=db !p x) ?_
 exact⟨hp,rfl⟩
theorem Jq(F:FuncId)(fs cs:List V)(p:Int->Bool)(l:List Int)(hl:l.length<=1000000)(hp:∀x∈l,Aa PP F ((fs++[vi x]++cs).map .v) σ0 (db (p x)) σ0):Aa PP 137 [dIs l,.v (.fn F fs cs)] σ0 (db (l.all p)) σ0:=by
 refine sv Ai4 9 [3] (.c (db (l.any fun x=> !p x)) .r) (F0 125 [dIs l,D.v (Azl 183 [] [Azo (Azl F fs cs)])] (db (List.any l fun x=> !p x))/\(db !List.any l fun x=> !p x)=db (List.all l p)) ?_
 refine⟨Dk _ [] _ (fun x=> !p x) l hl fun x hx=>Tl F fs cs p x (hp x hx),?_⟩
 congr 2
 induction l with
 |nil=>rfl
 |cons x l ih=>
  have h:=ih (by simp at hl;omega) (fun x hx=>hp x (by simp[hx]))
  simp only[List.any_cons,all_cons,Bool.not_or,Bool.not_not,h]
noncomputable abbrev Akb:Func:= Tryz.f132
noncomputable abbrev AiG:Func:= Tryz.f176
abbrev CY(x:Int):Bool:=Av x 0 16
theorem Pg(x:Int):Aa PP 176 [di x] σ0 (db (CY x)) σ0:=by
 refine sv AiG 5 [] (.c (db (CY x)) .r) (F0 83 [di x,di 0,di 16] (db (CY x))/\Q (db (CY x))) ?_
 exact⟨CI x 0 16,rfl⟩
structure Rul.short(r:Rul):Prop where
 need:r.need.length<=1000000
 give:r.give.length<=1000000
 move:r.move.length<=1000000
 path:r.path.length<=1000000
 next:r.next.length<=1000000
 takes:r.takes.length<=1000000
 makes:r.makes.length<=1000000
def BJ(m:Mod)(r:Rul):Bool:=((r.need.length:Int)==m.places.length)&&(((r.give.length:Int)==m.places.length)&&(r.need.all CY&&r.give.all CY))
noncomputable abbrev Anw:=fun a₀=>(map vi a₀)
noncomputable abbrev Aqc:=fun a₀=>F0 137 [dIs a₀,D.v (Azl 176 [] [])] (db (List.all a₀ CY))
theorem Ab9(m:Mod)(r:Rul)(hr:r.short):Aa PP 132 [Ag m,Cl r] σ0 (db (BJ m r)) σ0:=by
 refine sv Akb 34 [2,3] (.b (.b (.c (db (r.need.all CY))<|.b (.c (db (r.give.all CY)) .r) .r) .r) .r) ((((length (Anw r.need):Int)==(length (Aks m.places):Int))=true->(((length (Anw r.give):Int)==(length (Aks m.places):Int))=true->Aqc r.need/\(List.all r.need CY=true->Aqc r.give/\db (List.all r.give CY)=db (BJ m r))/\(List.all r.need CY=false->db false=db (BJ m r)))/\(((length (Anw r.give):Int)==(length (Aks m.places):Int))=false->db false=db (BJ m r)))/\(((length (Anw r.need):Int)==(length (Aks m.places):Int))=false->db false=db (BJ m r))) ?_
 refine⟨fun h1=>⟨fun h2=>⟨Jq _ [] [] CY _ hr.need fun x _=>Pg x,fun h3=>⟨Jq _ [] [] CY _ hr.give fun x _=>Pg x,?_⟩,fun h3=>?_⟩,fun h2=>?_⟩,fun h1=>?_⟩<;>(simp only[H3] at*;simp[BJ, *])
noncomputable abbrev AjR:Func:= Tryz.f133
noncomputable abbrev Ai2:Func:= Tryz.f177
theorem W9(n:Nat)(hn:n<=1000000)(x:Int):Aa PP 177 [di x,.v (.ref (vi n))] σ0 (db (Av x (-1) (n-1))) σ0:=by
 refine sv Ai2 8 [] (.c (db (Av x (-1) (n-1))) .r) (F0 83 [di x,di (-1),di (wrap i64 ((n:Int)-1))] (db (Av x (-1) ((n:Int)-1)))/\Q (db (Av x (-1) ((n:Int)-1)))) ?_
 refine⟨?_,rfl⟩
 rw[Al (by omega) (by omega)]
 exact CI x (-1) (n-1)
def CB(m:Mod)(r:Rul):Bool:=((r.move.length:Int)==0)||(((r.move.length:Int)==m.places.length)&&r.move.all fun x=>Av x (-1) (m.places.length-1))
theorem Aaw(m:Mod)(hm:m.places.length<=1000000)(r:Rul)(hr:r.short):Aa PP 133 [Ag m,Cl r] σ0 (db (CB m r)) σ0:=by
 refine sv AjR 26 [2,3] (.h (.q 2 0)<|.h (.f1 0 [5])<|.b .r (.b (.c (db (r.move.all fun x=>Av x (-1) (m.places.length-1))) .r) .r)) ((((length (Anw r.move):Int)==0)=true->db true=db (CB m r))/\(((length (Anw r.move):Int)==0)=false->(((length (Anw r.move):Int)==(length (Aks m.places):Int))=true->F0 137 [dIs r.move,D.v (Azl 177 [] [Azo (vi (length (Aks m.places):Int))])] (db (List.all r.move fun x=>Av x (-1) ((m.places.length:Int)-1)))/\db (List.all r.move fun x=>Av x (-1) ((m.places.length:Int)-1))=db (CB m r))/\(((length (Anw r.move):Int)==(length (Aks m.places):Int))=false->db false=db (CB m r)))) ?_
 refine⟨fun h1=>?_,fun h1=>⟨fun h2=>⟨Jq _ [] [_] _ _ hr.move fun x _=>by simpa using W9 m.places.length hm x,?_⟩,fun h2=>?_⟩⟩<;>(simp only[H3] at*;simp[CB, *])
noncomputable abbrev AiJ:Func:= Tryz.f134
def D4(m:Mod)(r:Rul):Bool:=if (r.act==0)=true then(r.chan==0)&&(r.letter==0) else Av r.act 1 2&&(Av r.chan 0 (m.places.length-1)&&Av r.letter 0 (m.letters.length-1))
noncomputable abbrev Alk:=fun a₀ b₀ (c₀:Nat)=>F0 131 [di a₀,di (length (Aks b₀):Int)] (db (Av a₀ 0 ((c₀:Int)-1)))
theorem Yi(m:Mod)(hm:m.places.length<=1000000)(hl:m.letters.length<=1000000)(r:Rul):Aa PP 134 [Ag m,Cl r] σ0 (db (D4 m r)) σ0:=by
 refine sv AiJ 35 [2,3] (.b (.b .r .r) (.c (db (Av r.act 1 2))<|.b (.c (db (Av r.chan 0 (m.places.length-1)))<|.b (.c (db (Av r.letter 0 (m.letters.length-1))) .r) .r) .r)) (((r.act==0)=true->((r.chan==0)=true->db (r.letter==0)=db (D4 m r))/\((r.chan==0)=false->db false=db (D4 m r)))/\((r.act==0)=false->F0 83 [di r.act,di 1,di 2] (db (Av r.act 1 2))/\(Av r.act 1 2=true->F0 131 [di r.chan,di (length (map Azg m.places):Int)] (db (Av r.chan 0 ((m.places.length:Int)-1)))/\(Av r.chan 0 ((m.places.length:Int)-1)=true->F0 131 [di r.letter,di (length (map Azg m.letters):Int)] (db (Av r.letter 0 ((m.letters.length:Int)-1)))/\db (Av r.letter 0 ((m.letters.length:Int)-1))=db (D4 m r))/\(Av r.chan 0 ((m.places.length:Int)-1)=false->db false=db (D4 m r)))/\(Av r.act 1 2=false->db false=db (D4 m r)))) ?_
 refine⟨fun h1=>⟨fun h2=>?_,fun h2=>?_⟩,fun h1=>⟨CI _ 1 2,fun h2=>⟨by simpa using CC r.chan m.places.length hm,fun h3=>⟨by simpa using CC r.letter m.letters.length hl,?_⟩,fun h3=>?_⟩,fun h2=>?_⟩⟩<;>(try simp only[H3] at*)<;>simp[D4, *]
noncomputable abbrev Ajt:Func:= Tryz.f185
theorem Xm(a:List Tk):Aa PP 185 [.v (AD a),.v (AD [])] σ0 (db (decide (a=[]))) σ0:=by
 refine sv Ajt 26 [] (.b .r (.n<|.f .r)) ((((length (map vTk a):Int) !=(length (map vTk []):Int))=true->db false=db (decide (a=[])))/\(((length (map vTk a):Int) !=(length (map vTk []):Int))=false->decide (0<(length (map vTk a):Int))=false/\db true=db (decide (a=[])))) ?_
 refine⟨fun h=>?_,fun h=>?_⟩
 ·have:a≠ []:=by rintro rfl;simp at h
  simp[this]
 ·have:a=[]:=by simpa using h
  subst this
  simp
def BN(a b:Rul):Bool:=(a.name==b.name)&&((a.frm==b.frm)&&((a.to==b.to)&&(decide (a.need=b.need)&&(decide (a.give=b.give)&&(decide (a.move=b.move)&&((a.chan==b.chan)&&((a.act==b.act)&&((a.letter==b.letter)&&(decide (a.path=b.path)&&(decide (a.next=b.next)&&(decide (a.takes=[])&&(decide (a.makes=b.makes)&&(a.second==b.second)))))))))))))
noncomputable abbrev Agq:Func:= Tryz.f139
theorem Of(a b:Rul)(ha:a.short)(hb:b.takes=[]):Aa PP 139 [Cl a,Cl b] σ0 (db (BN a b)) σ0:=by
 refine sv Agq 101 [2,3] (.b (.b (.b (.c (db (decide (a.need=b.need)))<|.b (.c (db (decide (a.give=b.give)))<|.b (.c (db (decide (a.move=b.move)))<|.b (.b (.b (.b (.c (db (decide (a.path=b.path)))<|.b (.c (db (decide (a.next=b.next)))<|.b (.c (db (decide (a.takes=[])))<|.b (.c (db (decide (a.makes=b.makes)))<|.b .r .r) .r) .r) .r) .r) .r) .r) .r) .r) .r) .r) .r) .r) (((a.name==b.name)=true->((a.frm==b.frm)=true->((a.to==b.to)=true->F0 184 [dIs a.need,dIs b.need] (db (decide (a.need=b.need)))/\(decide (a.need=b.need)=true->F0 184 [dIs a.give,dIs b.give] (db (decide (a.give=b.give)))/\(decide (a.give=b.give)=true->F0 184 [dIs a.move,dIs b.move] (db (decide (a.move=b.move)))/\(decide (a.move=b.move)=true->((a.chan==b.chan)=true->((a.act==b.act)=true->((a.letter==b.letter)=true->F0 184 [dIs a.path,dIs b.path] (db (decide (a.path=b.path)))/\(decide (a.path=b.path)=true->F0 184 [dIs a.next,dIs b.next] (db (decide (a.next=b.next)))/\(decide (a.next=b.next)=true->F0 185 [D.v (AD a.takes),D.v (AD b.takes)] (db (decide (a.takes=[])))/\(decide (a.takes=[])=true->F0 184 [dIs a.makes,dIs b.makes] (db (decide (a.makes=b.makes)))/\(decide (a.makes=b.makes)=true->db (a.second==b.second)=db (BN a b))/\(decide (a.makes=b.makes)=false->db false=db (BN a b)))/\(decide (a.takes=[])=false->db false=db (BN a b)))/\(decide (a.next=b.next)=false->db false=db (BN a b)))/\(decide (a.path=b.path)=false->db false=db (BN a b)))/\((a.letter==b.letter)=false->db false=db (BN a b)))/\((a.act==b.act)=false->db false=db (BN a b)))/\((a.chan==b.chan)=false->db false=db (BN a b)))/\(decide (a.move=b.move)=false->db false=db (BN a b)))/\(decide (a.give=b.give)=false->db false=db (BN a b)))/\(decide (a.need=b.need)=false->db false=db (BN a b)))/\((a.to==b.to)=false->db false=db (BN a b)))/\((a.frm==b.frm)=false->db false=db (BN a b)))/\((a.name==b.name)=false->db false=db (BN a b))) ?_
 repeat' first|with_reducible refine And.intro ?_ ?_|intro _
 all_goals first|exact D2 _ _ ha.need|exact D2 _ _ ha.give|exact D2 _ _ ha.move|exact D2 _ _ ha.path|exact D2 _ _ ha.next|exact D2 _ _ ha.makes|(rw[hb];exact Xm _)|simp[BN, *]
def MU(r:Rul):Rul:={ name:=r.name,frm:=r.frm,to:=r.to,need:=r.need,give:=r.give,move:=r.move,chan:=0,act:=0,letter:=0,path:=[],next:=[],takes:=[],makes:=[],second:=0 }
def GS(r:Rul):Rul:={ name:=r.name,frm:=r.frm,to:=r.to,need:=[],give:=[],move:=[],chan:=r.chan,act:=r.act,letter:=r.letter,path:=[],next:=[],takes:=[],makes:=[],second:=0 }
noncomputable abbrev WY:Func:= Tryz.f89
def Du(m:Mod)(r:Rul):Bool:=Av r.to 0 (m.states.length-1)&&(Av r.frm 0 (m.states.length-1)&&(BJ m r&&(CB m r&&BN r (MU r))))
structure Mod.short(m:Mod):Prop where
 states:m.states.length<=1000000
 places:m.places.length<=1000000
 letters:m.letters.length<=1000000
 ranks:m.ranks.length<=1000000
 rules:m.rules.length<=1000000
 rule:∀r∈m.rules,r.short
theorem PM(m:Mod)(hm:m.short)(hk:m.kind=1)(r:Rul)(hr:r.short):Aa PP 89 [Ag m,Cl r] σ0 (db (Du m r)) σ0:=by
 refine sv WY 142 [2,3] (.c (db (Av r.to 0 (m.states.length-1)))<|.b .r<|.c (db (Av r.frm 0 (m.states.length-1)))<|.b (.t .r)<|.k<|.t<|.c (db (BJ m r))<|.b (.c (db (CB m r))<|.b (.c (db (BN r (MU r))) .r) .r) .r) (F0 131 [di r.to,di (length (map Azg m.states):Int)] (db (Av r.to 0 ((m.states.length:Int)-1)))/\((!Av r.to 0 ((m.states.length:Int)-1))=true->db false=db (Du m r))/\((!Av r.to 0 ((m.states.length:Int)-1))=false->F0 131 [di r.frm,di (length (map Azg m.states):Int)] (db (Av r.frm 0 ((m.states.length:Int)-1)))/\((!Av r.frm 0 ((m.states.length:Int)-1))=true->(m.kind !=6)=true/\db false=db (Du m r))/\((!Av r.frm 0 ((m.states.length:Int)-1))=false->(m.kind==1)=true/\F0 132 [Ag m,Cl r] (db (BJ m r))/\(BJ m r=true->F0 133 [Ag m,Cl r] (db (CB m r))/\(CB m r=true->F0 139 [Cl r,D.v (Azh [Azg r.name,vi r.frm,vi r.to,vIs r.need,vIs r.give,vIs r.move,vi 0,vi 0,vi 0,Azf [],Azf [],Azf [],Azf [],vi 0])] (db (BN r (MU r)))/\db (BN r (MU r))=db (Du m r))/\(CB m r=false->db false=db (Du m r)))/\(BJ m r=false->db false=db (Du m r))))) ?_
 repeat' first|with_reducible refine And.intro ?_ ?_|intro _
 all_goals first|(simpa using CC _ _ hm.states)|exact Ab9 m r hr|exact Aaw m hm.places r hr|exact Of r (MU r) hr rfl|simp_all [Du]
def Eu(m:Mod)(r:Rul):Bool:=Av r.to 0 (m.states.length-1)&&(Av r.frm 0 (m.states.length-1)&&(D4 m r&&BN r (GS r)))
theorem PL(m:Mod)(hm:m.short)(hk:m.kind=2∨m.kind=3)(r:Rul)(hr:r.short):Aa PP 89 [Ag m,Cl r] σ0 (db (Eu m r)) σ0:=by
 refine sv WY 142 [2,3] (.c (db (Av r.to 0 (m.states.length-1)))<|.b .r<|.c (db (Av r.frm 0 (m.states.length-1)))<|.b (.t .r)<|.k<|.f<|.b (.k<|.c (db (D4 m r))<|.b (.c (db (BN r (GS r))) .r) .r) (.t<|.c (db (D4 m r))<|.b (.c (db (BN r (GS r))) .r) .r)) (F0 131 [di r.to,di (length (map Azg m.states):Int)] (db (Av r.to 0 ((m.states.length:Int)-1)))/\((!Av r.to 0 ((m.states.length:Int)-1))=true->db false=db (Eu m r))/\((!Av r.to 0 ((m.states.length:Int)-1))=false->F0 131 [di r.frm,di (length (map Azg m.states):Int)] (db (Av r.frm 0 ((m.states.length:Int)-1)))/\((!Av r.frm 0 ((m.states.length:Int)-1))=true->(m.kind !=6)=true/\db false=db (Eu m r))/\((!Av r.frm 0 ((m.states.length:Int)-1))=false->(m.kind==1)=false/\((m.kind==2)=true->F0 134 [Ag m,Cl r] (db (D4 m r))/\(D4 m r=true->F0 139 [Cl r,D.v (Azh [Azg r.name,vi r.frm,vi r.to,Azf [],Azf [],Azf [],vi r.chan,vi r.act,vi r.letter,Azf [],Azf [],Azf [],Azf [],vi 0])] (db (BN r (GS r)))/\db (BN r (GS r))=db (Eu m r))/\(D4 m r=false->db false=db (Eu m r)))/\((m.kind==2)=false->(m.kind==3)=true/\F0 134 [Ag m,Cl r] (db (D4 m r))/\(D4 m r=true->F0 139 [Cl r,D.v (Azh [Azg r.name,vi r.frm,vi r.to,Azf [],Azf [],Azf [],vi r.chan,vi r.act,vi r.letter,Azf [],Azf [],Azf [],Azf [],vi 0])] (db (BN r (GS r)))/\db (BN r (GS r))=db (Eu m r))/\(D4 m r=false->db false=db (Eu m r)))))) ?_
 repeat' first|with_reducible refine And.intro ?_ ?_|intro _
 all_goals first|(simpa using CC _ _ hm.states)|exact Yi m hm.places hm.letters r|exact Of r (GS r) hr rfl|(rcases hk with hk|hk<;>simp_all [Eu])
noncomputable abbrev AjV:Func:= Tryz.f172
noncomputable abbrev AjZ:Func:= Tryz.f210
noncomputable abbrev Air:Func:= Tryz.f174
def Pv(c:UInt8):Bool:=decide ((c.toNat:Int)>=97)&&decide ((c.toNat:Int)<=122)
def Yy(c:UInt8):Bool:=decide ((c.toNat:Int)>=48)&&decide ((c.toNat:Int)<=57)
def Di(c:UInt8):Bool:=Pv c||(Yy c||((c.toNat:Int)==95))
theorem RB(c:UInt8):Aa PP 172 [.v (vb c)] σ0 (db (Pv c)) σ0:=by
 refine sv AjV 9 [] (.b .r .r) ((decide ((↑(UInt8.toNat c):Int)>=97)=true->db (decide ((↑(UInt8.toNat c):Int)<=122))=db (Pv c))/\(decide ((↑(UInt8.toNat c):Int)>=97)=false->db false=db (Pv c))) ?_
 refine⟨fun h=>?_,fun h=>?_⟩<;>simp[Pv, *]
theorem Abn(c:UInt8):Aa PP 210 [.v (vb c)] σ0 (db (Yy c)) σ0:=by
 refine sv AjZ 9 [] (.b .r .r) ((decide ((↑(UInt8.toNat c):Int)>=48)=true->db (decide ((↑(UInt8.toNat c):Int)<=57))=db (Yy c))/\(decide ((↑(UInt8.toNat c):Int)>=48)=false->db false=db (Yy c))) ?_
 refine⟨fun h=>?_,fun h=>?_⟩<;>simp[Yy, *]
theorem VY(c:UInt8):Aa PP 174 [.v (vb c)] σ0 (db (Di c)) σ0:=by
 refine sv Air 13 [] (.c (db (Pv c))<|.b .r<|.c (db (Yy c))<|.b .r .r) (F0 172 [D.v (V.int IntKind.u8 (↑(UInt8.toNat c):Int))] (db (Pv c))/\(Pv c=true->db true=db (Di c))/\(Pv c=false->F0 210 [D.v (V.int IntKind.u8 (↑(UInt8.toNat c):Int))] (db (Yy c))/\(Yy c=true->db true=db (Di c))/\(Yy c=false->db ((↑(UInt8.toNat c):Int)==95)=db (Di c)))) ?_
 refine⟨RB c,fun h=>?_,fun h=>⟨Abn c,fun h2=>?_,fun h2=>?_⟩⟩<;>simp[Di, *]
noncomputable abbrev Agv:Func:= Tryz.f173
noncomputable def AeN:Code:=Agv.body.getD .skip
def G6(p:UInt8->Bool):List UInt8->Nat
 |[]=>0
 |c::s=>if p c then G6 p s+1 else 0
noncomputable abbrev Ao7:=fun a₀=>(1,D.v (Azl a₀ [] []))
theorem run_loop(F:FuncId)(p:UInt8->Bool)(s:List UInt8)(hs:s.length<=1000000)(hp:∀c∈s,Aa PP F [.v (vb c)] σ0 (db (p c)) σ0)(n:Nat):∀k:Nat,s.length-k=n->k<=s.length->
  Rn PP Agv 0 (di ((k+G6 p (s.drop k):Nat):Int)) σ0 ([.lp (sub AeN [1,1,0,0,0]),.blk 0,.code (sub AeN [1,1,1])]++[]) (mkE 20 [(0,ds s),(1,.v (.fn F [] [])),(5,di k)]) σ0:=by
 induction n using Nat.strongRecOn with
 |_ n ih=>
 intro k hn hk0
 refine lv 20 [] (.b (.e fun c:UInt8=>.y c<|.c (db (p c))<|.b (.l [ke 0,ke 1,ch 5 (di (k+1:Nat))]) .r) (.k .r)) ((decide ((k:Int)<(s.length:Int))=true->∃a,0<=(k:Int)/\s[Int.toNat (k:Int)]?=some a/\Aa PP F [D.v (V.int IntKind.u8 (↑(UInt8.toNat a):Int))] Akz (db (p a)) Akz/\(p a=true->di (wrap i64 ((k:Int)+1))=di (↑(k+1):Int)/\Nv.It (A1 (CN 0) PP (fun env σ1=>Aw PP Agv env σ1 (di (↑(k+G6 p (List.drop k s)):Int)) σ0) [kl AeN [1,1,0,0,0],Aza 0,kc AeN [1,1,1]] (mkE 20 [(0,D.v (Azg s)),(Ao7 F),(5,di (↑(k+1):Int))]) σ0))/\(p a=false->di (k:Int)=di (↑(k+G6 p (List.drop k s)):Int)))/\(decide ((k:Int)<(s.length:Int))=false->di (k:Int)=di (↑(k+G6 p (List.drop k s)):Int))) ?_
 refine⟨fun h=>?_,fun h=>?_⟩
 ·have hk:k<s.length:=by simpa using h
  have hx:s[k]?=some s[k]:=H4 hk
  have hih:=ih (s.length- (k+1)) (by omega) (k+1) rfl hk
  rw[HJ hk]
  generalize s[k]=c at hx⊢
  refine⟨c,by omega,by simpa using hx,by simpa using hp c (HA hx),fun h2=>⟨Ad (by omega),⟨?_⟩⟩,fun h2=>?_⟩
  ·simp only[G6,h2,IC]
   rw[show k+(G6 p (s.drop (k+1))+1)=k+1+G6 p (s.drop (k+1)) by omega]
   exact hih
  ·simp[G6,h2]
 ·have hk:s.length<=k:=by simpa using h
  rw[HO hk];simp[G6]
theorem Z4(F:FuncId)(p:UInt8->Bool)(s:List UInt8)(hs:s.length<=1000000)(hp:∀c∈s,Aa PP F [.v (vb c)] σ0 (db (p c)) σ0):Aa PP 173 [ds s,.v (.fn F [] [])] σ0 (di (G6 p s)) σ0:=by
 refine sv Agv 20 [] (.l [ke 0,ke 1,ch 5 (di (0:Nat))]) (di 0=di (↑0:Int)/\I0 Agv σ0.H.length (di (↑(G6 p s):Int)) σ0 [kl AeN [1,1,0,0,0],Aza 0,kc AeN [1,1,1]] (mkE 20 [(0,D.v (Azg s)),(Ao7 F),(5,di (↑0:Int))]) σ0) ?_
 refine⟨rfl,⟨?_⟩⟩
 have:=run_loop F p s hs hp _ 0 rfl (by omega)
 simpa using this
noncomputable abbrev Aij:Func:= Tryz.f128
def DA(s:List UInt8):Bool:=(s !=[])&&(decide ((s.length:Int)<=12)&&(Pv (s.headD 0)&&((G6 Di s:Int)==s.length)))
theorem Adn{s:List UInt8}(h:decide ((s.length:Int)<=12)=true):s.length<=1000000:=by
 have h:=HF h
 omega
theorem Up(s:List UInt8):Aa PP 128 [ds s] σ0 (db (DA s)) σ0:=by
 refine sv Aij 22 [] (.b (.b (.y (s.headD 0)<|.c (db (Pv (s.headD 0)))<|.b (.c (di (G6 Di s)) .r) .r) .r) .r) (((!s==(Aze #[]).data.toList)=true->(decide ((s.length:Int)<=12)=true->iz 0<=0/\s[Int.toNat 0]?=some (headD s 0)/\F0 172 [D.v (V.int IntKind.u8 (↑(UInt8.toNat (headD s 0)):Int))] (db (Pv (headD s 0)))/\(Pv (headD s 0)=true->F0 173 [D.v (Azg s),D.v (Azl 174 [] [])] (di (↑(G6 Di s):Int))/\db ((↑(G6 Di s):Int)==(s.length:Int))=db (DA s))/\(Pv (headD s 0)=false->db false=db (DA s)))/\(decide ((s.length:Int)<=12)=false->db false=db (DA s)))/\((!s==(Aze #[]).data.toList)=false->db false=db (DA s))) ?_
 refine⟨fun h1=>⟨fun h2=>⟨by simp,?_,RB _,fun h3=>⟨Z4 _ Di s (Adn h2) fun c _=>VY c,?_⟩,fun h3=>?_⟩,fun h2=>?_⟩,fun h1=>?_⟩
 ·cases s with
  |nil=>simp[AhI] at h1
  |cons a s=>rfl
 all_goals simp_all [DA]
 all_goals omega
theorem Cm{l:List (List UInt8)}{k:Nat}{s:List UInt8}(h:l[k]?=some s):(l.map V.str)[Int.toNat (k:Int)]?=some (.str s):=by simp[h]
noncomputable abbrev AgC:Func:= Tryz.f211
noncomputable def AeV:Code:=AgC.body.getD .skip
theorem AaM(l:List (List UInt8))(v:List UInt8)(hl:l.length<=1000000)(n:Nat):∀k:Nat,l.length-k=n->
  Rn PP AgC 0 (di (ixM (· ==v) (l.drop k) k)) σ0 ([.lp (sub AeV [1,0,1,0,0]),.blk 0,.code (sub AeV [1,1])]++[]) (mkE 19 [(0,dl (l.map V.str)),(1,.v (V.str v)),(7,di l.length),(8,di k)]) σ0:=by
 induction n using Nat.strongRecOn with
 |_ n ih=>
 intro k hn
 refine lv 19 [] (.b (.e fun x:List UInt8=>.x (Azg x)<|.b .r (.l (Ap8 k))) .r) ((decide ((k:Int)<(l.length:Int))=true->∃a,0<=(k:Int)/\(Aks l)[Int.toNat (k:Int)]?=some (Azg a)/\((v==a)=true->di (k:Int)=di (ixM (fun x=>x==v) (List.drop k l) k))/\((v==a)=false->di (wrap i64 ((k:Int)+1))=di (↑(k+1):Int)/\Nv.It (A1 (CN 0) PP (fun env σ1=>Aw PP AgC env σ1 (di (ixM (fun x=>x==v) (List.drop k l) k)) σ0) [kl AeV [1,0,1,0,0],Aza 0,kc AeV [1,1]] (mkE 19 [(0,D.v (Aq1 l)),(1,D.v (Azg v)),(Apx l.length),(8,di (↑(k+1):Int))]) σ0)))/\(decide ((k:Int)<(l.length:Int))=false->di (-1)=di (ixM (fun x=>x==v) (List.drop k l) k))) ?_
 refine⟨fun h=>?_,fun h=>?_⟩
 ·have hk:k<l.length:=by simpa using h
  have hx:l[k]?=some l[k]:=H4 hk
  rw[HJ hk]
  generalize l[k]=x at hx⊢
  refine⟨x,by omega,Cm hx,fun hf=>?_,fun hf=>⟨Ad (by omega),⟨?_⟩⟩⟩
  ·have:v=x:=by simpa using hf
   subst this;simp[ixM]
  ·have h2:v≠x:=by simpa using hf
   have:(x==v)=false:=by simpa using fun e=>h2 e.symm
   simp only[ixM,this]
   exact ih (l.length- (k+1)) (by omega) (k+1) rfl
 ·have hk:l.length<=k:=by simpa using h
  rw[HO hk];rfl
theorem AaL(l:List (List UInt8))(v:List UInt8)(hl:l.length<=1000000):Aa PP 211 [dl (l.map V.str),.v (V.str v)] σ0 (di (ixM (· ==v) l 0)) σ0:=by
 refine sv AgC 19 [] (.l (Ao5 l.length)) (di (length (Aks l):Int)=di (l.length:Int)/\di 0=di (↑0:Int)/\I0 AgC σ0.H.length (di (ixM (fun x=>x==v) l 0)) σ0 [kl AeV [1,0,1,0,0],Aza 0,kc AeV [1,1]] (mkE 19 [(0,dl (Aks l)),(1,D.v (Azg v)),(Apx l.length),(8,di (↑0:Int))]) σ0) ?_
 refine⟨by simp,rfl,⟨?_⟩⟩
 exact AaM l v hl _ 0 rfl
noncomputable abbrev AiD:Func:= Tryz.f175
theorem X3(l:List (List UInt8))(v:List UInt8)(hl:l.length<=1000000):Aa PP 175 [dl (l.map V.str),.v (V.str v)] σ0 (db (l.any (· ==v))) σ0:=by
 refine sv AiD 9 [] (.c (di (ixM (· ==v) l 0)) .r) (F0 211 [D.v (Aq1 l),D.v (Azg v)] (di (ixM (fun x=>x==v) l 0))/\db (decide (ixM (fun x=>x==v) l 0>=0))=db (List.any l fun x=>x==v)) ?_
 exact⟨AaL l v hl,by rw[←J6]⟩
def AeE:List (List UInt8):=[[109,111,100,101,108],[115,116,97,116,101,115],[112,108,97,99,101,115],[108,101,116,116,101,114,115],[108,101,118,101,108,115],[97,103,101],[114,117,108,101],[110,101,101,100],[103,105,118,101],[109,111,118,101],[101,109,112,116,121],[115,101,110,100],[114,101,99,101,105,118,101],[112,97,116,104],[110,101,120,116],[116,97,107,101],[109,97,107,101],[115,116,97,114,116]]
def Tq(s:List UInt8):Bool:=AeE.any (· ==s)
noncomputable abbrev fKw:Func:= Tryz.f129
noncomputable abbrev Akt:=(Azf [Azg (Aze #[109,111,100,101,108]).data.toList,Azg (Aze #[115,116,97,116,101,115]).data.toList,Azg (Aze #[112,108,97,99,101,115]).data.toList,Azg (Aze #[108,101,116,116,101,114,115]).data.toList,Azg (Aze #[108,101,118,101,108,115]).data.toList,Azg (Aze #[97,103,101]).data.toList,Azg (Aze #[114,117,108,101]).data.toList,Azg (Aze #[110,101,101,100]).data.toList,Azg (Aze #[103,105,118,101]).data.toList,Azg (Aze #[109,111,118,101]).data.toList,Azg (Aze #[101,109,112,116,121]).data.toList,Azg (Aze #[115,101,110,100]).data.toList,Azg (Aze #[114,101,99,101,105,118,101]).data.toList,Azg (Aze #[112,97,116,104]).data.toList,Azg (Aze #[110,101,120,116]).data.toList,Azg (Aze #[116,97,107,101]).data.toList,Azg (Aze #[109,97,107,101]).data.toList,Azg (Aze #[115,116,97,114,116]).data.toList])
theorem AdJ(s:List UInt8):Aa PP 129 [ds s] σ0 (db (Tq s)) σ0:=by
 refine sv fKw 6 [] (.c (db (Tq s)) .r) (F0 175 [D.v Akt,D.v (Azg s)] (db (Tq s))/\Q (db (Tq s))) ?_
 exact⟨X3 AeE s (by decide),rfl⟩
noncomputable abbrev Xa:Func:= Tryz.f86
noncomputable def DU:Code:=Xa.body.getD .skip
def nmB(used:List (List UInt8)):List (List UInt8)->Bool
 |[]=>true
 |s::l=>DA s&&(!Tq s&&(!used.contains s&&nmB (used++[s]) l))
def BL(m:Mod):List (List UInt8):=[m.states,m.places,m.letters].flatten
def DO(m:Mod):List (List UInt8):=BL m++m.rules.map Rul.name
def D0(m:Mod):Bool:=nmB [] (DO m)
abbrev So(l:List (List UInt8)):D:=.acc 1 (l.map V.str)
abbrev Yq(l:List (List UInt8)):St:=⟨[],[(1,1,l.map V.str)]⟩
noncomputable abbrev Aqa:=fun a₀=>(3,D.raw (Value.map (some a₀)))
theorem W7(r:Nat)(l:List (List UInt8))(hl:l.length<=1000000)(n:Nat):∀k:Nat,l.length-k=n->k<=l.length->
  A1 (CS 0 r (l.take k)) PP (fun env σ1=>Aw PP Xa env σ1 (db (nmB (l.take k) (l.drop k))) σ0) [.lp (sub DU [1,1,1,1,0,1,0,0]),.blk 2,.code (sub DU [1,1,1,1,1])] (mkE 52 [(3,.raw (.map (some r))),(31,dl (l.map V.str)),(32,di l.length),(33,di k)]) σ0:=by
 induction n using Nat.strongRecOn with
 |_ n ih=>
 intro k hn hk0
 refine Af9 mixed 52 [1] (.b (.e fun s:List UInt8=>.x (.str s)<|.c (db (DA s))<|.b .r (.c (db (Tq s))<|.b .r (.h (.q 11 10)<|.h (.s [ke 3,ke 8,ke 31,ke 32,ke 33,ke 44,ke 45,ke 46]) .z))) .r) ?_
 refine via (by kernel_rfl:((decide ((k:Int)<(l.length:Int))=true->∃a,0<=(k:Int)/\(Aks l)[Int.toNat (k:Int)]?=some (Azg a)/\Aa PP 128 [D.v (Azg a)] Akz (db (DA a)) Akz/\((!DA a)=true->db false=db (nmB (take k l) (List.drop k l)))/\((!DA a)=false->Aa PP 129 [D.v (Azg a)] Akz (db (Tq a)) Akz/\(Tq a=true->db false=db (nmB (take k l) (List.drop k l)))/\(Tq a=false->Nv.It (AT (CS 0 r (take k l)) PP (fun env σ1=>Aw PP Xa env σ1 (db (nmB (take k l) (List.drop k l))) σ0) [kc DU [1,1,1,1,0,1,0,0,1,1,0,0,1,0,1],kc DU [1,1,1,1,0,1,0,0,1,1,0,0,1,1],Aza 3,kc DU [1,1,1,1,0,1,0,0,1,1,1],kl DU Aod,Aza 2,kc DU [1,1,1,1,1]] (A0 (sub DU [1,1,1,1,0,1,0,0,1,1,0,0,1,0,0])) (List.drop 10 (A0 (sub DU [1,1,1,1,0,1,0,0,1,1,0,0,1,0,0])).toList) (mkE 52 [(Aqa r),(8,D.v (Azg a)),(31,D.v (Aq1 l)),(32,di (l.length:Int)),(33,di (k:Int)),(44,db false),(45,D.raw (Value.map (some r))),(46,D.v (Azg a))]) σ0))))/\(decide ((k:Int)<(l.length:Int))=false->db true=db (nmB (take k l) (List.drop k l))))=_) ?_
 refine⟨fun h=>?_,fun h=>?_⟩
 ·have hk:k<l.length:=by simpa using h
  have hx:l[k]?=some l[k]:=H4 hk
  have hih:=ih (l.length- (k+1)) (by omega) (k+1) rfl hk
  rw[List.take_succ_eq_append_getElem hk] at hih
  rw[HJ hk]
  generalize l[k]=s at hx hih⊢
  refine⟨s,by omega,by simp[hx],Up s,fun h1=>?_,fun h1=>⟨AdJ s,fun h2=>?_,fun h2=>⟨?_⟩⟩⟩
  ·simp only[Iv,Bool.not_eq_eq_eq_not,Bool.not_true] at h1;simp[nmB,h1]
  ·simp[nmB,h2]
  ·have h1:DA s=true:=by simpa using h1
   refine SH (s:=s) 47 45 46 rfl (by kernel_rfl) (by kernel_rfl) (by kernel_rfl) (by kernel_rfl) (by kernel_rfl) (by kernel_rfl) ?_
   refine V9 mixed 52 [1] 11 11 (.b .r (.h (.q 13 2)<|.h (.s [ke 3,ke 8,ke 31,ke 32,ke 33,ke 49,ke 50]) .z)) ?_
   refine via (by kernel_rfl:((List.contains (take k l) s=true->db false=db (nmB (take k l) (s::List.drop (k+1) l)))/\(List.contains (take k l) s=false->Nv.It (AT (CS 0 r (take k l)) PP (fun env σ1=>Aw PP Xa env σ1 (db (nmB (take k l) (s::List.drop (k+1) l))) σ0) [Aza 3,kc DU [1,1,1,1,0,1,0,0,1,1,1],kl DU Aod,Aza 2,kc DU [1,1,1,1,1]] (A0 (sub DU [1,1,1,1,0,1,0,0,1,1,0,0,1,1])) (List.drop 2 (A0 (sub DU [1,1,1,1,0,1,0,0,1,1,0,0,1,1])).toList) (mkE 52 [(Aqa r),(8,D.v (Azg s)),(31,D.v (Aq1 l)),(32,di (l.length:Int)),(33,di (k:Int)),(49,D.raw (Value.map (some r))),(50,D.v (Azg s))]) σ0)))=_) ?_
   refine⟨fun h3=>?_,fun h3=>⟨?_⟩⟩
   ·simp only[nmB,h3,Bool.not_true,HZ,IY]
   ·refine SF (s:=s) 49 50 rfl (by kernel_rfl) (by kernel_rfl) (by kernel_rfl) (by kernel_rfl) (by kernel_rfl) (by kernel_rfl) h3 ?_
    refine V9 mixed 52 [1] 13 3 (.ls [ke 3,ke 31,ke 32,ch 33 (di (k+1:Nat))] σ0) ?_
    refine via (by kernel_rfl:(di (wrap i64 ((k:Int)+1))=di (↑(k+1):Int)/\Nv.It (A1 (CS σ0.H.length r (take k l++[s])) PP (fun env σ1=>Aw PP Xa env σ1 (db (nmB (take k l) (s::List.drop (k+1) l))) σ0) [kl DU Aod,Aza 2,kc DU [1,1,1,1,1]] (mkE 52 [(Aqa r),(31,D.v (Aq1 l)),(32,di (l.length:Int)),(33,di (↑(k+1):Int))]) σ0))=_) ?_
    refine⟨Ad (by omega),⟨?_⟩⟩
    simp only[nmB,h1,h2,h3,Bool.not_false,Ib]
    exact hih
 ·have hk:l.length<=k:=by simpa using h
  rw[HO hk];rfl
noncomputable abbrev Ak2:=[1,1,1,0,1,0,0]
noncomputable abbrev Aps:=fun a₀=>(map Ak a₀)
theorem W8(r:Nat)(m:Mod)(b:List (List UInt8))(hm:m.rules.length<=1000000)(hb:b.length+m.rules.length<=1000000)(n:Nat):∀k:Nat,m.rules.length-k=n->k<=m.rules.length->
  A1 (CS 0 r []) PP (fun env σ1=>Aw PP Xa env σ1 (db (nmB [] (b++m.rules.map Rul.name))) σ0) [.lp (sub DU [1,1,1,0,1,0,0]),.blk 0,.code (sub DU [1,1,1,1])] (mkE 52 [(3,.raw (.map (some r))),(4,So (b++(m.rules.take k).map Rul.name)),(19,dl (m.rules.map Ak)),(20,di m.rules.length),(21,di k)]) (Yq (b++(m.rules.take k).map Rul.name)):=by
 induction n using Nat.strongRecOn with
 |_ n ih=>
 intro k hn hk0
 refine Af9 mixed 52 [1] (.b (.e fun x:Rul=>.h (.xs (Ak x))<|.w<|.ls [ke 3,ch 4 (So (b++(m.rules.take (k+1)).map Rul.name)),ke 19,ke 20,ch 21 (di (k+1:Nat))] (Yq (b++(m.rules.take (k+1)).map Rul.name))) (.h (.q 8 0)<|.h (.un 4)<|.ls [ke 3,ch 31 (dl ((b++m.rules.map Rul.name).map V.str)),ch 32 (di (b++m.rules.map Rul.name).length),ch 33 (di (0:Nat))] σ0)) ?_
 refine via (by kernel_rfl:((decide ((k:Int)<(m.rules.length:Int))=true->∃a,14=14/\0<=(k:Int)/\(Aps m.rules)[Int.toNat (k:Int)]?=some (Ak a)/\map Azg (b++map Rul.name (take k m.rules))=map Azg (b++map Rul.name (take k m.rules))/\Ar (length (map Azg (b++map Rul.name (take k m.rules)))+length (Azg a.name::nV)) 16/\(∀(y:V),y∈ [Azg a.name]->V.size y=1)/\Azc 1 (map Azg (b++map Rul.name (take k m.rules))++[Azg a.name])=So (b++map Rul.name (take (k+1) m.rules))/\di (wrap i64 ((k:Int)+1))=di (↑(k+1):Int)/\[(1,1,map Azg (b++map Rul.name (take k m.rules))++Azg a.name::nV)]=[(1,1,map Azg (b++map Rul.name (take (k+1) m.rules)))]/\Nv.It (A1 (CS 0 r []) PP (fun env σ1=>Aw PP Xa env σ1 (db (nmB [] (b++map Rul.name m.rules))) σ0) [kl DU Ak2,Aza 0,kc DU [1,1,1,1]] (mkE 52 [(Aqa r),(4,So (b++map Rul.name (take (k+1) m.rules))),(19,D.v (Azf (Aps m.rules))),(20,di (m.rules.length:Int)),(21,di (↑(k+1):Int))]) (Yq (b++map Rul.name (take (k+1) m.rules)))))/\(decide ((k:Int)<(m.rules.length:Int))=false->D.v (Azf (map Azg (b++map Rul.name (take k m.rules))))=dl (map Azg (b++map Rul.name m.rules))/\di (length (map Azg (b++map Rul.name (take k m.rules))):Int)=di (length (b++map Rul.name m.rules):Int)/\di 0=di (↑0:Int)/\Nv.It (A1 (CS 0 r []) PP (fun env σ1=>Aw PP Xa env σ1 (db (nmB [] (b++map Rul.name m.rules))) σ0) [kl DU Aod,Aza 2,kc DU [1,1,1,1,1]] (mkE 52 [(Aqa r),(31,dl (map Azg (b++map Rul.name m.rules))),(32,di (length (b++map Rul.name m.rules):Int)),(33,di (↑0:Int))]) σ0)))=_) ?_
 refine⟨fun h=>?_,fun h=>?_⟩
 ·have hk:k<m.rules.length:=by simpa using h
  have hx:m.rules[k]?=some m.rules[k]:=H4 hk
  have hih:=ih (m.rules.length- (k+1)) (by omega) (k+1) rfl hk
  have hl:(b++(m.rules.take k).map Rul.name).length<=1000000:=by simp;omega
  have ht:b++(m.rules.take (k+1)).map Rul.name=b++(m.rules.take k).map Rul.name++[(m.rules[k]).name]:=by rw[List.take_succ_eq_append_getElem hk,IJ,IA];rfl
  rw[ht] at hih⊢
  generalize m.rules[k]=x at hx hih⊢
  generalize b++(m.rules.take k).map Rul.name=p at hl hih⊢
  refine⟨x,rfl,by omega,by simp[hx],rfl,?_,by simp[V.size],by simp,Ad (by omega),by simp,⟨hih⟩⟩
  exact⟨by simp only[H3,H9,HD];omega,by simp only[H3,H9,HD];omega⟩
 ·have hk:m.rules.length<=k:=by simpa using h
  rw[HW hk]
  refine⟨rfl,by simp,rfl,⟨?_⟩⟩
  exact W7 r _ (by simpa using hb) _ 0 rfl (by omega)
noncomputable abbrev Amc:=fun a₀=>(Azo (A8 a₀))
noncomputable abbrev Aot:=fun a₀=>(1,D.v (Amc a₀))
theorem R2(m:Mod)(h1:(BL m).length+m.rules.length<=1000000):Aa PP 86 [Ag m] σ0 (db (D0 m)) σ0:=by
 refine sv Xa 52 [1] (.h (.q 1 0)<|.h (.s [ke 1]) .z) (Nv.It (AT (CN σ0.H.length) PP (fun env σ1=>Aw PP Xa env σ1 (db (D0 m)) σ0) [kc DU [1,1]] (A0 (sub DU [1,0])) (List.drop 0 (A0 (sub DU [1,0])).toList) (mkE 52 [(Aot m)]) σ0)) ?_
 refine⟨PK 9 rfl (by kernel_rfl) (by kernel_rfl) (by kernel_rfl) fun r=>?_⟩
 refine V9 mixed 52 [1] 1 1 (.h (.ck 1 1 1 ((BL m).map V.str))<|.ls [ke 3,ch 4 (So (BL m++(m.rules.take 0).map Rul.name)),ke 19,ch 20 (di m.rules.length),ch 21 (di (0:Nat))] (Yq (BL m++(m.rules.take 0).map Rul.name))) ?_
 refine via (by kernel_rfl:(Aa PP 127 [D.v (Azf [vSs m.states,vSs m.places,vSs m.letters])] Akz (Azc 1 (map Azg (BL m))) (Azd [] [(1,1,map Azg (BL m))])/\Azc 1 (map Azg (BL m))=So (BL m++map Rul.name (take 0 m.rules))/\di (length (Aps m.rules):Int)=di (m.rules.length:Int)/\di 0=di (↑0:Int)/\[(1,1,map Azg (BL m))]=[(1,1,map Azg (BL m++[]))]/\Nv.It (A1 (CS σ0.H.length r []) PP (fun env σ1=>Aw PP Xa env σ1 (db (D0 m)) σ0) [kl DU Ak2,Aza 0,kc DU [1,1,1,1]] (mkE 52 [(Aqa r),(4,So (BL m++map Rul.name (take 0 m.rules))),(19,D.v (CJ m.rules)),(20,di (m.rules.length:Int)),(21,di (↑0:Int))]) (Yq (BL m++map Rul.name (take 0 m.rules)))))=_) ?_
 refine⟨X6 [m.states,m.places,m.letters] (by simp only[H9,HD];omega) (by show(BL m).length<=_;omega),by simp,by simp,rfl,by simp,⟨?_⟩⟩
 exact W8 r m (BL m) (by omega) h1 _ 0 rfl (by omega)
inductive Typ where
 |nat
 |lab (n:Int)
 |prod (l:List Typ)
 |word (t:Typ)
 |bag (t:Typ)
 |prio (n:Int) (r:List Int)
 deriving Inhabited
mutual
def Typ.enc:Typ->V
 |.nat=>.agg [vi 1,vi 0,.list [],.list []]
 |.lab n=>.agg [vi 2,vi n,.list [],.list []]
 |.prod l=>.agg [vi 3,vi 0,.list [],.list (Typ.encs l)]
 |.word t=>.agg [vi 4,vi 0,.list [],.list [t.enc]]
 |.bag t=>.agg [vi 5,vi 0,.list [],.list [t.enc]]
 |.prio n r=>.agg [vi 7,vi n,vIs r,.list []]
def Typ.encs:List Typ->List V
 |[]=>[]
 |t::l=>t.enc::Typ.encs l
end
theorem Typ.encs_map:∀l:List Typ,Typ.encs l=l.map Typ.enc
 |[]=>rfl
 |t::l=>by simp[Typ.encs,Typ.encs_map l]
abbrev vTy(k n:Int)(r:List Int)(l:List V):V:=.agg [vi k,vi n,vIs r,.list l]
def Typ.kd:Typ->Int
 |.nat=>1|.lab _=>2|.prod _=>3|.word _=>4|.bag _=>5|.prio _ _=>7
def Typ.sz:Typ->Int
 |.lab n=>n|.prio n _=>n|_=>0
def Typ.rk:Typ->List Int
 |.prio _ r=>r|_=>[]
def Typ.ps:Typ->List Typ
 |.prod l=>l|.word t=>[t]|.bag t=>[t]|_=>[]
abbrev eT:Typ->V:=Typ.enc
abbrev vT(t:Typ):V:=vTy t.kd t.sz t.rk (t.ps.map eT)
abbrev dT(t:Typ):D:=.v (vT t)
theorem Abl(t:Typ):eT t=vT t:=by cases t<;>simp only[eT,Typ.enc,Typ.encs_map]<;>rfl
theorem J7{a:List Typ}{i:Nat}{x:Typ}(h:a[i]?=some x):(a.map eT)[((i:Nat):Int).toNat]?=some (vT x):=by rw[←Abl];exact Aq h
theorem KG(t:Typ):vT (.word t)=vTy 4 0 [] [vT t]:=by rw[←Abl t];rfl
theorem NU(t:Typ):vT (.bag t)=vTy 5 0 [] [vT t]:=by rw[←Abl t];rfl
noncomputable abbrev AjW:Func:= Tryz.f216
def Cd(n:Int)(v:Val):Bool:=decide (v.n>=0)&&(decide (v.n<n)&&((v.kids.length:Int)==0))
theorem RC(n:Int)(v:Val):Aa PP 216 [dV v,di n] σ0 (db (Cd n v)) σ0:=by
 refine sv AjW 20 [2] (.b (.b .r .r) .r) ((decide (v.n>=0)=true->(decide (v.n<n)=true->db ((length (Alj v.kids):Int)==0)=db (Cd n v))/\(decide (v.n<n)=false->db false=db (Cd n v)))/\(decide (v.n>=0)=false->db false=db (Cd n v))) ?_
 refine⟨fun h1=>⟨fun h2=>?_,fun h2=>?_⟩,fun h1=>?_⟩<;>(try simp only[H3] at*)<;>simp_all [Cd]<;>(intros;omega)
noncomputable abbrev AeG:Func:= Tryz.f218
noncomputable def AeL:Code:=AeG.body.getD .skip
def TY(l:List Val):Nat->Bool
 |0=>true
 |k+1=>if Au (l.getD (k+1) default) (l.getD k default)<0 then false else TY l k
theorem Zi(l:List Val)(hs:Val.sizes l<=1000000)(k:Nat):k<l.length->
  Rn PP AeG 0 (db (TY l k)) σ0 ([.lp (sub AeL [1,0,1,0,0]),.blk 0,.code (sub AeL [1,1])]++[]) (mkE 25 [(0,dVs l),(1,dfn 25),(5,di k)]) σ0:=by
 induction k with
 |zero=>
  intro hk
  refine lv 25 [] (.f .r) (decide ((↑0:Int)>0)=false/\db true=db (TY l 0)) ?_
  exact⟨rfl,rfl⟩
 |succ k ih=>
  intro hk
  refine lv 25 [] (.t<|.x (Af (l.getD (k+1) default))<|.x (Af (l.getD k default))<|.c (di (Au (l.getD (k+1) default) (l.getD k default)))<|.b .r (.l [ke 0,ke 1,ch 5 (di k)])) (decide ((↑(k+1):Int)>0)=true/\0<=(↑(k+1):Int)/\(map eV l)[Int.toNat (↑(k+1):Int)]?=some (Af (List.getD l (k+1) default))/\0<=wrap i64 ((↑(k+1):Int)-1)/\(map eV l)[Int.toNat (wrap i64 ((↑(k+1):Int)-1))]?=some (Af (List.getD l k default))/\F0 25 [D.v (Af (List.getD l (k+1) default)),D.v (Af (List.getD l k default))] (di (Au (List.getD l (k+1) default) (List.getD l k default)))/\(decide (Au (List.getD l (k+1) default) (List.getD l k default)<0)=true->db false=db (TY l (k+1)))/\(decide (Au (List.getD l (k+1) default) (List.getD l k default)<0)=false->di (wrap i64 ((↑(k+1):Int)-1))=di (k:Int)/\I0 AeG 0 (db (TY l (k+1))) σ0 [kl AeL [1,0,1,0,0],Aza 0,kc AeL [1,1]] (mkE 25 [(0,dVs l),(1,D.v Alv),(5,di (k:Int))]) Akz)) ?_
  have h1:i64.wrap (((k+1:Nat):Int)-1)=k:=by rw[Al (by have:=Val.length_le l;omega) (by have:=Val.length_le l;omega)];omega
  have hx:l[k+1]?=some (l.getD (k+1) default):=by rw[HC,H4 hk];rfl
  have hy:l[k]?=some (l.getD k default):=by rw[HC,H4 (by omega)];rfl
  have hz:(l.getD (k+1) default).size<=1000000:=by have:=Val.size_mem (HA hx);omega
  rw[h1]
  refine⟨by simp,by omega,As hx,by omega,As hy,Ju _ _ _ (HB _) hz,fun h2=>?_,fun h2=>⟨rfl,⟨?_⟩⟩⟩
  ·simp only[TY,HP (HF h2)]
  ·simp only[TY,HL (Im h2)]
   exact ih (by omega)
def SC(l:List Val):Bool:=TY l (l.length-1)
theorem Zh(l:List Val)(hs:Val.sizes l<=1000000):Aa PP 218 [dVs l,dfn 25] σ0 (db (SC l)) σ0:=by
 cases l with
 |nil=>
  refine sv AeG 25 [] (.n<|.f .r) (decide (wrap i64 ((length (map eV []):Int)-1)>0)=false/\db true=db (SC [])) ?_
  exact⟨rfl,rfl⟩
 |cons v l=>
  refine sv AeG 25 [] (.l [ke 0,ke 1,ch 5 (di (l.length:Nat))]) (di (wrap i64 ((length (map eV (v::l)):Int)-1))=di (l.length:Int)/\I0 AeG σ0.H.length (db (SC (v::l))) σ0 [kl AeL [1,0,1,0,0],Aza 0,kc AeL [1,1]] (mkE 25 [(0,dVs (v::l)),(1,dfn 25),(5,di (l.length:Int))]) σ0) ?_
  have:=Val.length_le (v::l)
  have h1:i64.wrap ((((v::l).map eV).length:Int)-1)=l.length:=by
   rw[H3,H9] at*
   rw[Al (by omega) (by omega)];omega
  rw[h1]
  exact⟨rfl,⟨Zi (v::l) hs l.length (by simp)⟩⟩
mutual
def Am:Typ->Val->Bool
 |.nat,v=>decide (v.n>=0)&&(decide (v.n<=1048576)&&((v.kids.length:Int)==0))
 |.lab n,v=>Cd n v
 |.prod l,v=>(v.n==0)&&(((v.kids.length:Int)==l.length)&&AW l v.kids)
 |.word t,v=>(v.n==0)&&(decide ((v.kids.length:Int)<=12)&&v.kids.all (fun k=>Am t k))
 |.bag t,v=>((v.n==0)&&(decide ((v.kids.length:Int)<=12)&&v.kids.all (fun k=>Am t k)))&&SC v.kids
 |.prio n _,v=>(v.n==0)&&(decide ((v.kids.length:Int)<=12)&&v.kids.all (fun k=>Cd n k))
def AW:List Typ->List Val->Bool
 |t::l,v::vs=>Am t v&&AW l vs
 |_,_=>true
end
noncomputable abbrev Yu:Func:= Tryz.f188
noncomputable def AbF:Code:=Yu.body.getD .skip
noncomputable abbrev Ai5:Func:= Tryz.f217
noncomputable abbrev Ag5:Func:= Tryz.f250
noncomputable abbrev Aiz:Func:= Tryz.f220
theorem NF{α:Type}(l:List α)(p:α->Bool):(!l.any fun k=> !p k)=l.all p:=by
 induction l with
 |nil=>rfl
 |cons x l ih=>simp only[List.any_cons,all_cons,Bool.not_or,Bool.not_not,ih]
noncomputable abbrev Aqq:=fun a₀ b₀=>(Typ.prio a₀ b₀)
theorem W0(n:Int)(r:List Int)(v:Val):Aa PP 220 [dV v,.v (.ref (vT (.prio n r)))] σ0 (db (!Cd n v)) σ0:=by
 refine sv Aiz 9 [2] (.c (db (Cd n v)) .r) (F0 216 [dV v,di (Typ.sz (Aqq n r))] (db (Cd n v))/\(db !Cd n v)=db !Cd n v) ?_
 exact⟨RC n v,rfl⟩
theorem Tn(t:Typ)(v:Val)(h:Aa PP 188 [dT t,dV v] σ0 (db (Am t v)) σ0):Aa PP 250 [dV v,.v (.ref (vT t))] σ0 (db (!Am t v)) σ0:=by
 refine sv Ag5 8 [2] (.c (db (Am t v)) .r) (F0 188 [D.v (vT t),dV v] (db (Am t v))/\(db !Am t v)=db !Am t v) ?_
 exact⟨h,rfl⟩
def E3(t:Typ)(v:Val):Bool:=(v.n==0)&&(decide ((v.kids.length:Int)<=12)&&v.kids.all (fun k=>Am t k))
theorem Agi{v:Val}(h:decide (((v.kids.map eV).length:Int)<=12)=true):v.kids.length<=1000000:=by
 have h:=HF h
 rw[H3] at h
 omega
theorem OE(t:Typ)(v:Val)(h:∀k∈v.kids,Aa PP 188 [dT t,dV k] σ0 (db (Am t k)) σ0):Aa PP 217 [dV v,dT t] σ0 (db (E3 t v)) σ0:=by
 refine sv Ai5 21 [2,3] (.b (.b (.c (db (v.kids.any fun k=> !Am t k)) .r) .r) .r) (((v.n==0)=true->(decide ((length (Alj v.kids):Int)<=12)=true->F0 33 [dVs v.kids,D.v (Azl 250 [] [Azo (vT t)])] (db (List.any v.kids fun k=> !Am t k))/\(db !List.any v.kids fun k=> !Am t k)=db (E3 t v))/\(decide ((length (Alj v.kids):Int)<=12)=false->db false=db (E3 t v)))/\((v.n==0)=false->db false=db (E3 t v))) ?_
 refine⟨fun h1=>⟨fun h2=>⟨EM _ [] [_] _ v.kids (Agi h2) fun k hk=>Tn t k (h k hk),?_⟩,fun h2=>?_⟩,fun h1=>?_⟩
 ·rw[NF];simp_all [E3]
 all_goals (simp_all [E3]<;>(intros;omega))
theorem Ad9(v:Val):Aa PP 188 [dT .nat,dV v] σ0 (db (Am .nat v)) σ0:=by
 refine sv Yu 110 [2,3] (.k<|.b (.b .r .r) .r) ((decide (v.n>=0)=true->(decide (v.n<=1048576)=true->db ((length (Alj v.kids):Int)==0)=db (Am Typ.nat v))/\(decide (v.n<=1048576)=false->db false=db (Am Typ.nat v)))/\(decide (v.n>=0)=false->db false=db (Am Typ.nat v))) ?_
 refine⟨fun h1=>⟨fun h2=>?_,fun h2=>?_⟩,fun h1=>?_⟩<;>simp_all [Am]<;>(intros;omega)
theorem AdA(n:Int)(v:Val):Aa PP 188 [dT (.lab n),dV v] σ0 (db (Am (.lab n) v)) σ0:=by
 refine sv Yu 110 [2,3] (.c (db (Cd n v)) .r) (F0 216 [dV v,di (Typ.sz (Typ.lab n))] (db (Cd n v))/\db (Cd n v)=db (Am (Typ.lab n) v)) ?_
 exact⟨RC n v,by simp only[Am]⟩
theorem Aao(n:Int)(r:List Int)(v:Val):Aa PP 188 [dT (.prio n r),dV v] σ0 (db (Am (.prio n r) v)) σ0:=by
 refine sv Yu 110 [2,3] (.k<|.k<|.k<|.k<|.k<|.k<|.b (.b (.c (db (v.kids.any fun k=> !Cd n k)) .r) .r) .r) (((v.n==0)=true->(decide ((length (Alj v.kids):Int)<=12)=true->F0 33 [dVs v.kids,D.v (Azl 220 [] [Azo (vT (Aqq n r))])] (db (List.any v.kids fun k=> !Cd n k))/\(db !List.any v.kids fun k=> !Cd n k)=db (Am (Aqq n r) v))/\(decide ((length (Alj v.kids):Int)<=12)=false->db false=db (Am (Aqq n r) v)))/\((v.n==0)=false->db false=db (Am (Aqq n r) v))) ?_
 refine⟨fun h1=>⟨fun h2=>⟨EM _ [] [_] _ v.kids (Agi h2) fun k hk=>W0 n r k,?_⟩,fun h2=>?_⟩,fun h1=>?_⟩
 ·rw[NF];simp_all [Am]
 all_goals (simp_all [Am]<;>(intros;omega))
theorem Aal(t:Typ)(v:Val)(h:∀k∈v.kids,Aa PP 188 [dT t,dV k] σ0 (db (Am t k)) σ0):Aa PP 188 [dT (.word t),dV v] σ0 (db (Am (.word t) v)) σ0:=by
 rw[dT,KG]
 refine sv Yu 110 [2,3] (.x (vT t)<|.c (db (E3 t v)) .r) (iz 0<=0/\Q (some (vT t))/\F0 217 [dV v,D.v (vT t)] (db (E3 t v))/\db (E3 t v)=db (Am (Typ.word t) v)) ?_
 exact⟨by decide,rfl,OE t v h,by simp only[Am,E3]⟩
theorem AdB(t:Typ)(v:Val)(hv:v.size<=1000000)(h:∀k∈v.kids,Aa PP 188 [dT t,dV k] σ0 (db (Am t k)) σ0):Aa PP 188 [dT (.bag t),dV v] σ0 (db (Am (.bag t) v)) σ0:=by
 rw[dT,NU]
 refine sv Yu 110 [2,3] (.x (vT t)<|.c (db (E3 t v))<|.b (.c (db (SC v.kids)) .r) .r) (iz 0<=0/\Q (some (vT t))/\F0 217 [dV v,D.v (vT t)] (db (E3 t v))/\(E3 t v=true->F0 218 [dVs v.kids,D.v Alv] (db (SC v.kids))/\db (SC v.kids)=db (Am (Typ.bag t) v))/\(E3 t v=false->db false=db (Am (Typ.bag t) v))) ?_
 have:=Val.size_eq v
 refine⟨by decide,rfl,OE t v h,fun h1=>⟨Zh v.kids (by omega),?_⟩,fun h1=>?_⟩
 ·simp only[E3] at h1;simp only[Am,h1,Ib]
 ·simp only[E3] at h1;simp only[Am,h1,HZ]
noncomputable abbrev Al6:=fun a₀=>(map eT (Typ.ps (Typ.prod a₀)))
noncomputable abbrev Apa:=fun a₀=>(2,D.v (Azo (vT (Typ.prod a₀))))
noncomputable abbrev Ap0:=fun a₀ b₀ c₀=>(AW (List.drop a₀ b₀) (List.drop a₀ c₀))
noncomputable abbrev Aqs:=[kl AbF [1,0,1,0,1,1,1,1,1,0,1,0,1,0,0],Aza 1,kc AbF [1,0,1,0,1,1,1,1,1,0,1,1],Aza 0,kc AbF [1,1]]
theorem VO(l:List Typ)(v:Val)(hl:v.kids.length=l.length)(hv:v.kids.length<=1000000)(h:∀t∈l,∀k∈v.kids,Aa PP 188 [dT t,dV k] σ0 (db (Am t k)) σ0)(n:Nat):∀k:Nat,l.length-k=n->
  Rn PP Yu 0 (db (AW (l.drop k) (v.kids.drop k))) σ0 ([.lp (sub AbF [1,0,1,0,1,1,1,1,1,0,1,0,1,0,0]),.blk 1,.code (sub AbF [1,0,1,0,1,1,1,1,1,0,1,1]),.blk 0,.code (sub AbF [1,1])]++[]) (mkE 110 [(2,.v (.ref (vT (.prod l)))),(46,dVs v.kids),(47,di v.kids.length),(48,di k)]) σ0:=by
 induction n using Nat.strongRecOn with
 |_ n ih=>
 intro k hn
 refine lv 110 [2,3] (.b (.e fun x:Val=>.x (Af x)<|.e fun t:Typ=>.x (vT t)<|.c (db (Am t x))<|.b .r (.ls [ke 2,ke 46,ke 47,ch 48 (di (k+1:Nat))] σ0)) .r) ((decide ((k:Int)<(v.kids.length:Int))=true->∃a,0<=(k:Int)/\(map eV v.kids)[Int.toNat (k:Int)]?=some (Af a)/\∃a_1,0<=(k:Int)/\(map eT (Typ.ps (Typ.prod l)))[Int.toNat (k:Int)]?=some (vT a_1)/\Aa PP 188 [D.v (vT a_1),dV a] (Azd [] []) (db (Am a_1 a)) (Azd [] [])/\(True/\True)/\((!Am a_1 a)=true->db false=db (AW (List.drop k l) (List.drop k v.kids)))/\((!Am a_1 a)=false->di (wrap i64 ((k:Int)+1))=di (↑(k+1):Int)/\Nv.It (A1 (CN 0) PP (fun env σ1=>Aw PP Yu env σ1 (db (AW (List.drop k l) (List.drop k v.kids))) σ0) [kl AbF [1,0,1,0,1,1,1,1,1,0,1,0,1,0,0],Aza 1,kc AbF [1,0,1,0,1,1,1,1,1,0,1,1],Aza 0,kc AbF [1,1]] (mkE 110 [(2,D.v (Azo (vT (Typ.prod l)))),(46,dVs v.kids),(47,di (v.kids.length:Int)),(48,di (↑(k+1):Int))]) σ0)))/\(decide ((k:Int)<(v.kids.length:Int))=false->db true=db (AW (List.drop k l) (List.drop k v.kids)))) ?_
 refine⟨fun h1=>?_,fun h1=>?_⟩
 ·have hk:k<v.kids.length:=by simpa using h1
  have hk2:k<l.length:=by omega
  have hx:v.kids[k]?=some v.kids[k]:=H4 hk
  have hy:l[k]?=some l[k]:=H4 hk2
  rw[HJ hk,HJ hk2]
  generalize v.kids[k]=x at hx⊢
  generalize l[k]=t at hy⊢
  refine⟨x,by omega,As hx,t,by omega,J7 hy,h t (HA hy) x (HA hx),⟨trivial,trivial⟩,fun h2=>?_,fun h2=>⟨Ad (by omega),⟨?_⟩⟩⟩
  ·have h2:Am t x=false:=by simpa using h2
   simp only[AW,h2,HZ]
  ·have h2:Am t x=true:=by simpa using h2
   simp only[AW,h2,Ib]
   exact ih (l.length- (k+1)) (by omega) (k+1) rfl
 ·have hk:v.kids.length<=k:=by simpa using h1
  rw[HO hk,HO (by omega)];simp only[AW]
theorem Aan(l:List Typ)(v:Val)(hv:v.size<=1000000)(h:∀t∈l,∀k∈v.kids,Aa PP 188 [dT t,dV k] σ0 (db (Am t k)) σ0):Aa PP 188 [dT (.prod l),dV v] σ0 (db (Am (.prod l) v)) σ0:=by
 refine sv Yu 110 [2,3] (.k<|.k<|.k<|.b .r (.b .r (.l [ke 2,ke 46,ch 47 (di v.kids.length),ch 48 (di (0:Nat))]))) (((v.n !=0)=true->db false=db (Am (Typ.prod l) v))/\((v.n !=0)=false->(((length (Alj v.kids):Int) !=(length (Al6 l):Int))=true->db false=db (Am (Typ.prod l) v))/\(((length (Alj v.kids):Int) !=(length (Al6 l):Int))=false->di (length (Alj v.kids):Int)=di (v.kids.length:Int)/\di 0=di (↑0:Int)/\I0 Yu σ0.H.length (db (Am (Typ.prod l) v)) σ0 Aqs (mkE 110 [(Apa l),(46,dVs v.kids),(47,di (v.kids.length:Int)),(48,di (↑0:Int))]) σ0))) ?_
 have hlen:=Val.length_le v.kids
 have hsz:=Val.size_eq v
 refine⟨fun h1=>?_,fun h1=>⟨fun h2=>?_,fun h2=>⟨by rw[H3],rfl,⟨?_⟩⟩⟩⟩
 ·have h1:(v.n==0)=false:=by simpa using h1
  simp only[Am,h1,HZ]
 ·have h2:((v.kids.length:Int)==l.length)=false:=by simpa[Typ.ps] using h2
  simp only[Am,h2,HZ,IY]
 ·have h1:(v.n==0)=true:=by simpa using h1
  have h2:(v.kids.length:Int)=l.length:=by simpa[Typ.ps] using h2
  have h3:((v.kids.length:Int)==l.length)=true:=by simpa using h2
  simp only[Am,h1,h3,Ib]
  exact VO l v (by omega) (by omega) h _ 0 rfl
theorem Aam(N:Nat):∀(t:Typ),SizeOf.sizeOf t<=N->∀v:Val,v.size<=1000000->Aa PP 188 [dT t,dV v] σ0 (db (Am t v)) σ0:=by
 induction N with
 |zero=>intro t ht;cases t<;>simp at ht<;>omega
 |succ N ih=>
  intro t ht v hv
  have hk:∀k∈v.kids,k.size<=1000000:=fun k hk=>by have:=Val.size_mem hk;have:=Val.size_eq v;omega
  cases t with
  |nat=>exact Ad9 v
  |lab n=>exact AdA n v
  |prio n r=>exact Aao n r v
  |word t=>exact Aal t v fun k h=>ih t (by simp at ht;omega) k (hk k h)
  |bag t=>exact AdB t v hv fun k h=>ih t (by simp at ht;omega) k (hk k h)
  |prod l=>exact Aan l v hv fun t h k h'=>ih t (by have:=List.sizeOf_lt_of_mem h;simp at ht;omega) k (hk k h')
noncomputable abbrev Ag9:Func:= Tryz.f267
noncomputable def AeS:Code:=Ag9.body.getD .skip
theorem AaE(F:FuncId)(fs cs:List V)(p:Typ->Bool)(l:List (Typ))(hl:l.length<=1000000)(hp:∀x∈l,Aa PP F ((fs++[vT x]++cs).map .v) σ0 (db (p x)) σ0)(n:Nat):∀k:Nat,l.length-k=n->
  Rn PP Ag9 0 (di (ixM p (l.drop k) k)) σ0 ([.lp (sub AeS [1,0,1,0,0]),.blk 0,.code (sub AeS [1,1])]++[]) (mkE 19 [(0,dl (l.map eT)),(1,.v (.fn F fs cs)),(7,di l.length),(8,di k)]) σ0:=by
 induction n using Nat.strongRecOn with
 |_ n ih=>
 intro k hn
 refine lv 19 [] (.b (.e fun x:Typ=>.x (vT x)<|.c (db (p x))<|.b .r (.l (Ap8 k))) .r) ((decide ((k:Int)<(l.length:Int))=true->∃a,0<=(k:Int)/\(map eT l)[Int.toNat (k:Int)]?=some (vT a)/\Aa PP F (map D.v (fs++[vT a]++cs)) Akz (db (p a)) Akz/\(p a=true->di (k:Int)=di (ixM p (List.drop k l) k))/\(p a=false->di (wrap i64 ((k:Int)+1))=di (↑(k+1):Int)/\Nv.It (A1 (CN 0) PP (fun env σ1=>Aw PP Ag9 env σ1 (di (ixM p (List.drop k l) k)) σ0) [kl AeS [1,0,1,0,0],Aza 0,kc AeS [1,1]] (mkE 19 [(0,D.v (Azf (map eT l))),(1,D.v (Azl F fs cs)),(Apx l.length),(8,di (↑(k+1):Int))]) σ0)))/\(decide ((k:Int)<(l.length:Int))=false->di (-1)=di (ixM p (List.drop k l) k))) ?_
 refine⟨fun h=>?_,fun h=>?_⟩
 ·have hk:k<l.length:=by simpa using h
  have hx:l[k]?=some l[k]:=H4 hk
  rw[HJ hk]
  generalize l[k]=x at hx⊢
  refine⟨x,by omega,J7 hx,hp x (HA hx),fun hf=>by simp[ixM,hf],fun hf=>⟨Ad (by omega),⟨?_⟩⟩⟩
  simp only[ixM,hf]
  exact ih (l.length- (k+1)) (by omega) (k+1) rfl
 ·have hk:l.length<=k:=by simpa using h
  rw[HO hk];rfl
theorem AaD(F:FuncId)(fs cs:List V)(p:Typ->Bool)(l:List (Typ))(hl:l.length<=1000000)(hp:∀x∈l,Aa PP F ((fs++[vT x]++cs).map .v) σ0 (db (p x)) σ0):
  Aa PP 267 [dl (l.map eT),.v (.fn F fs cs)] σ0 (di (ixM p l 0)) σ0:=by
 refine sv Ag9 19 [] (.l (Ao5 l.length)) (di (length (map eT l):Int)=di (l.length:Int)/\di 0=di (↑0:Int)/\I0 Ag9 σ0.H.length (di (ixM p l 0)) σ0 [kl AeS [1,0,1,0,0],Aza 0,kc AeS [1,1]] (mkE 19 [(0,dl (map eT l)),(1,D.v (Azl F fs cs)),(Apx l.length),(8,di (↑0:Int))]) σ0) ?_
 refine⟨by simp,rfl,⟨?_⟩⟩
 exact AaE F fs cs p l hl hp _ 0 rfl
noncomputable abbrev Ai8:Func:= Tryz.f248
theorem Lr(F:FuncId)(fs cs:List V)(p:Typ->Bool)(l:List (Typ))(hl:l.length<=1000000)(hp:∀x∈l,Aa PP F ((fs++[vT x]++cs).map .v) σ0 (db (p x)) σ0):
  Aa PP 248 [dl (l.map eT),.v (.fn F fs cs)] σ0 (db (l.any p)) σ0:=by
 refine sv Ai8 9 [] (.c (di (ixM p l 0)) .r) (F0 267 [D.v (Azf (map eT l)),D.v (Azl F fs cs)] (di (ixM p l 0))/\db (decide (ixM p l 0>=0))=db (List.any l p)) ?_
 exact⟨AaD F fs cs p l hl hp,by rw[←J6]⟩
noncomputable abbrev AjL:Func:= Tryz.f265
noncomputable abbrev Aiq:Func:= Tryz.f274
noncomputable abbrev Aiu:Func:= Tryz.f247
def V3(x:Int):Bool:=decide (x<0)||decide (x>=6)
theorem ZB(x:Int):Aa PP 274 [di x] σ0 (db (V3 x)) σ0:=by
 refine sv Aiq 9 [] (.b .r .r) ((decide (x<0)=true->db true=db (V3 x))/\(decide (x<0)=false->db (decide (x>=6))=db (V3 x))) ?_
 refine⟨fun h=>?_,fun h=>?_⟩<;>simp[V3, *]
def DE(r:List Int):Bool:=decide ((r.length:Int)>=1)&&(decide ((r.length:Int)<=6)&& !(r.any V3))
theorem ZA(r:List Int):Aa PP 265 [dIs r] σ0 (db (DE r)) σ0:=by
 refine sv AjL 16 [] (.b (.b (.c (db (r.any V3)) .r) .r) .r) ((decide ((length (map vi r):Int)>=1)=true->(decide ((length (map vi r):Int)<=6)=true->F0 125 [dIs r,D.v (Azl 274 [] [])] (db (List.any r V3))/\(db !List.any r V3)=db (DE r))/\(decide ((length (map vi r):Int)<=6)=false->db false=db (DE r)))/\(decide ((length (map vi r):Int)>=1)=false->db false=db (DE r))) ?_
 refine⟨fun h1=>⟨fun h2=>⟨Dk _ [] [] V3 r (by have h2:=HF h2;rw[H3] at h2;omega) fun x _=>ZB x,?_⟩,fun h2=>?_⟩,fun h1=>?_⟩<;>(try simp only[H3] at*)<;>simp only[DE,h1,Ib,HZ]<;>simp only[h2,Ib,HZ]
theorem ZI(r:List Int)(h:DE r=true):Aa PP 247 [dIs r,dl []] σ0 (db true) σ0:=by
 refine sv Aiu 18 [2] (.c (db (DE r))<|.t<|.k<|.c (db false) .r) (F0 265 [dIs r] (db (DE r))/\DE r=true/\F0 125 [D.v (Azf []),D.v (Azl 266 [] [Azo (vIs r)])] (db false)/\(db !false)=db true) ?_
 exact⟨ZA r,h,Dk _ [] [_] (fun _=>false) [] (by simp) (fun x hx=>by simp at hx),rfl⟩
noncomputable abbrev fRt:Func:= Tryz.f214
noncomputable abbrev AjJ:Func:= Tryz.f249
def C0:Nat->Typ->Bool
 |0,_=>false
 |d+1,.nat=>true
 |d+1,.lab n=>decide (n>=1)&&decide (n<=16)
 |d+1,.prio n r=>(n==r.length)&&DE r
 |d+1,.word t=>C0 d t
 |d+1,.bag t=>C0 d t
 |d+1,.prod l=> !((l.length:Int)==0)&&(!decide ((l.length:Int)>8)&&l.all (C0 d))
theorem GJ(t:Typ)(d:Nat)(hd:d<=100)(h:Aa PP 214 [dT t,di d] σ0 (db true) σ0):Aa PP 249 [dT t,.v (.ref (vi ((d+1:Nat):Int)))] σ0 (db false) σ0:=by
 refine sv AjJ 9 [2] (.c (db true) .r) (F0 214 [D.v (vT t),di (wrap i64 ((↑(d+1):Int)-1))] (db true)/\(db !true)=db false) ?_
 refine⟨?_,rfl⟩
 rw[show i64.wrap (((d+1:Nat):Int)-1)=d by rw[Al (by omega) (by omega)];omega]
 exact h
theorem V4(d:Nat):Aa PP 214 [dT .nat,di ((d+1:Nat):Int)] σ0 (db true) σ0:=by
 refine sv fRt 94 [2,3] (.f .r) (((↑(d+1):Int)==0)=false/\db (Typ.sz Typ.nat==0)=db true) ?_
 have hz:(((d+1:Nat):Int)==0)=false:=Ii.2 (by omega)
 exact⟨hz,rfl⟩
theorem V5(d:Nat)(n:Int)(h1:1<=n)(h2:n<=16):Aa PP 214 [dT (.lab n),di ((d+1:Nat):Int)] σ0 (db true) σ0:=by
 refine sv fRt 94 [2,3] (.f<|.k<|.k<|.k<|.k<|.k<|.k<|.t .r) (((↑(d+1):Int)==0)=false/\decide (Typ.sz (Typ.lab n)>=1)=true/\db (decide (Typ.sz (Typ.lab n)<=16))=db true) ?_
 have hz:(((d+1:Nat):Int)==0)=false:=Ii.2 (by omega)
 exact⟨hz,H6 h1,HR db (H6 h2)⟩
theorem SO(d:Nat)(n:Int)(r:List Int)(h1:n=r.length)(h2:DE r=true):Aa PP 214 [dT (.prio n r),di ((d+1:Nat):Int)] σ0 (db true) σ0:=by
 refine sv fRt 94 [2,3] (.f<|.t<|.k<|.k<|.k<|.k<|.k<|.k<|.t<|.c (db true) .r) (((↑(d+1):Int)==0)=false/\decide ((length (map vi (Typ.rk (Aqq n r))):Int)>0)=true/\(Typ.sz (Aqq n r)==(length (map vi (Typ.rk (Aqq n r))):Int))=true/\F0 247 [D.v (vIs (Typ.rk (Aqq n r))),D.v (Azf [])] (db true)/\Q (db true)) ?_
 have hz:(((d+1:Nat):Int)==0)=false:=Ii.2 (by omega)
 have h3:=h2
 simp only[DE,H5,HE] at h3
 refine⟨hz,H6 ?_,?_,ZI r h2,rfl⟩
 ·simp only[Typ.rk,H3];omega
 ·simp only[Typ.sz,Typ.rk,H3,h1,beq_self_eq_true]
noncomputable abbrev An5:=fun a₀ (b₀:Nat)=>F0 248 [D.v (Azf [eT a₀]),D.v (Azl 249 [] [Azo (vi (↑(b₀+1):Int))])] (db false)
theorem SM(d:Nat)(t:Typ)(hd:d<=100)(h:Aa PP 214 [dT t,di d] σ0 (db true) σ0):Aa PP 214 [dT (.word t),di ((d+1:Nat):Int)] σ0 (db true) σ0:=by
 refine sv fRt 94 [2,3] (.f<|.c (db false) .r) (((↑(d+1):Int)==0)=false/\An5 t d/\(db !false)=db true) ?_
 have hz:(((d+1:Nat):Int)==0)=false:=Ii.2 (by omega)
 exact⟨hz,Lr _ [] [_] (fun _=>false) [t] (by simp) (fun x hx=>by rw[HK.1 hx];exact GJ t d hd h),rfl⟩
theorem V6(d:Nat)(t:Typ)(hd:d<=100)(h:Aa PP 214 [dT t,di d] σ0 (db true) σ0):Aa PP 214 [dT (.bag t),di ((d+1:Nat):Int)] σ0 (db true) σ0:=by
 refine sv fRt 94 [2,3] (.f<|.c (db false) .r) (((↑(d+1):Int)==0)=false/\An5 t d/\(db !false)=db true) ?_
 have hz:(((d+1:Nat):Int)==0)=false:=Ii.2 (by omega)
 exact⟨hz,Lr _ [] [_] (fun _=>false) [t] (by simp) (fun x hx=>by rw[HK.1 hx];exact GJ t d hd h),rfl⟩
theorem SN(d:Nat)(l:List Typ)(hd:d<=100)(h1:((l.length:Int)==0)=false)(h2:decide ((l.length:Int)>8)=false)(h:∀t∈l,Aa PP 214 [dT t,di d] σ0 (db true) σ0):Aa PP 214 [dT (.prod l),di ((d+1:Nat):Int)] σ0 (db true) σ0:=by
 refine sv fRt 94 [2,3] (.f<|.k<|.k<|.k<|.k<|.k<|.k<|.k<|.k<|.f<|.f<|.c (db false) .r) (((↑(d+1):Int)==0)=false/\((length (Al6 l):Int)==0)=false/\decide ((length (Al6 l):Int)>8)=false/\F0 248 [D.v (Azf (Al6 l)),D.v (Azl 249 [] [Azo (vi (↑(d+1):Int))])] (db false)/\(db !false)=db true) ?_
 have hz:(((d+1:Nat):Int)==0)=false:=Ii.2 (by omega)
 refine⟨hz,by simpa[Typ.ps] using h1,by simpa[Typ.ps] using h2,?_,rfl⟩
 have h3:¬((l.length:Int)>8):=Im h2
 have:=Lr 249 [] [.ref (vi ((d+1:Nat):Int))] (fun _=>false) l (by omega) (fun x hx=>GJ x d hd (h x hx))
 rw[show l.any (fun _=>false)=false by induction l<;>simp_all] at this
 exact this
theorem FY:∀(d:Nat) (t:Typ),d<=100->C0 d t=true->Aa PP 214 [dT t,di d] σ0 (db true) σ0
 |0,t,_,h=>by simp[C0] at h
 |d+1,.nat,_,h=>V4 d
 |d+1,.lab n,_,h=>by
  simp only[C0,H5,HE] at h
  exact V5 d n h.1 h.2
 |d+1,.prio n r,_,h=>by
  simp only[C0,H5,Ie] at h
  exact SO d n r h.1 h.2
 |d+1,.word t,hd,h=>SM d t (by omega) (FY d t (by omega) (by simpa only[C0] using h))
 |d+1,.bag t,hd,h=>V6 d t (by omega) (FY d t (by omega) (by simpa only[C0] using h))
 |d+1,.prod l,hd,h=>by
  simp only[C0,H5,Iv,Ip] at h
  exact SN d l (by omega) h.1 h.2.1 fun t ht=>FY d t (by omega) (h.2.2 t ht)
noncomputable abbrev Ai1:Func:= Tryz.f186
theorem W6(t:Typ)(h:C0 8 t=true):Aa PP 186 [dT t] σ0 (di 0) σ0:=by
 refine sv Ai1 6 [1] (.c (db true) .r) (F0 214 [D.v (vT t),di 8] (db true)/\Q (di 0)) ?_
 exact⟨FY 8 t (by omega) h,rfl⟩
noncomputable abbrev AgK:Func:= Tryz.f215
noncomputable def AeY:Code:=AgK.body.getD .skip
noncomputable abbrev Aqk:=fun a₀=>(Val.size a₀)
theorem Abw(N:Nat):∀v:Val,v.size<=N->v.size<=1000000->∀m:Int,0<=m->m<=1000->Aa PP 215 [dV v,di m] σ0 (di (min (v.size:Int) (m+1))) σ0:=by
 induction N with
 |zero=>intro v hv;have:=v.size_pos;omega
 |succ N ihN=>
  intro v hv hv1 m hm0 hm1
  have hsz:=v.size_eq
  have hlen:=Val.length_le v.kids
  have loop (n:Nat):∀(k:Nat) (a:Int),v.kids.length-k=n->1<=a->a<=m+1->
    Rn PP AgK 0 (di (min (a+(Val.sizes (v.kids.drop k):Int)) (m+1))) σ0 ([.lp (sub AeY [1,1,0,1,0,0]),.blk 0,.code (sub AeY [1,1,1])]++[]) (mkE 27 [(1,di m),(5,di a),(9,dVs v.kids),(10,di v.kids.length),(11,di k)]) σ0:=by
   induction n using Nat.strongRecOn with
   |_ n ih=>
   intro k a hn ha0 ha1
   refine lv 27 [2] (.b (.e fun x:Val=>.x (Af x)<|.b .r<|.c (di (min (x.size:Int) (m-a+1)))<|.ls [ke 1,ch 5 (di (min (a+(x.size:Int)) (m+1))),ke 9,ke 10,ch 11 (di (k+1:Nat))] σ0) .r) ((decide ((k:Int)<(v.kids.length:Int))=true->∃a_2,0<=(k:Int)/\(Alj v.kids)[Int.toNat (k:Int)]?=some (Af a_2)/\(decide (a>m)=true->di a=di (min (a+(↑(Val.sizes (List.drop k v.kids)):Int)) (m+1)))/\(decide (a>m)=false->Aa PP 215 [dV a_2,di (wrap i64 (m-a))] Akz (di (min (↑(Aqk a_2):Int) (m-a+1))) Akz/\di (wrap i64 (a+min (↑(Aqk a_2):Int) (m-a+1)))=di (min (a+(↑(Aqk a_2):Int)) (m+1))/\di (wrap i64 ((k:Int)+1))=di (↑(k+1):Int)/\Nv.It (A1 (CN 0) PP (fun env σ1=>Aw PP AgK env σ1 (di (min (a+(↑(Val.sizes (List.drop k v.kids)):Int)) (m+1))) σ0) [kl AeY Akw,Aza 0,kc AeY [1,1,1]] (mkE 27 [(1,di m),(5,di (min (a+(↑(Aqk a_2):Int)) (m+1))),(9,dVs v.kids),(Apc v.kids.length),(11,di (↑(k+1):Int))]) σ0)))/\(decide ((k:Int)<(v.kids.length:Int))=false->di a=di (min (a+(↑(Val.sizes (List.drop k v.kids)):Int)) (m+1)))) ?_
   refine⟨fun h=>?_,fun h=>?_⟩
   ·have hk:k<v.kids.length:=by simpa using h
    have hx:v.kids[k]?=some v.kids[k]:=H4 hk
    rw[HJ hk]
    generalize v.kids[k]=x at hx⊢
    have hxs:=Val.size_mem (HA hx)
    have hx1:=x.size_pos
    simp only[Val.sizes]
    refine⟨x,by omega,As hx,fun h1=>?_,fun h1=>⟨?_,?_,Ad (by omega),⟨?_⟩⟩⟩
    ·have h1:=HF h1
     rw[I3];split<;>congr 1<;>omega
    ·rw[Al (by omega) (by omega)]
     have h1:=Im h1
     exact ihN x (by omega) (by omega) (m-a) (by omega) (by omega)
    ·have h1:=Im h1
     rw[Al (by rw[I3];split<;>omega) (by rw[I3];split<;>omega)]
     simp only[I3];congr 1;split<;>split<;>omega
    ·have h1:=Im h1
     have:=ih (v.kids.length- (k+1)) (by omega) (k+1) (min (a+(x.size:Int)) (m+1)) rfl (by rw[I3];split<;>omega) (by rw[I3];split<;>omega)
     rw[show min (min (a+(x.size:Int)) (m+1)+(Val.sizes (v.kids.drop (k+1)):Int)) (m+1)=min (a+((x.size+Val.sizes (v.kids.drop (k+1)):Nat):Int)) (m+1) by simp only[I3];(repeat' split)<;>omega] at this
     exact this
   ·have hk:v.kids.length<=k:=by simpa using h
    rw[HO hk]
    simp only[Val.sizes];rw[I3];split<;>congr 1<;>omega
  refine sv AgK 27 [2] (.l [ke 1,ch 5 (di 1),ke 9,ch 10 (di v.kids.length),ch 11 (di (0:Nat))]) (Q (di 1)/\di (length (Alj v.kids):Int)=di (v.kids.length:Int)/\di 0=di (↑0:Int)/\I0 AgK σ0.H.length (di (min (↑(Aqk v):Int) (m+1))) σ0 [kl AeY Akw,Aza 0,kc AeY [1,1,1]] (mkE 27 [(1,di m),(5,di 1),(9,dVs v.kids),(Apc v.kids.length),(11,di (↑0:Int))]) σ0) ?_
  refine⟨rfl,by rw[H3],rfl,⟨?_⟩⟩
  have:=loop _ 0 1 rfl (by omega) (by omega)
  rw[IW,show(1:Int)+(Val.sizes v.kids:Int)=v.size by omega] at this
  exact this
noncomputable abbrev Ag0:Func:= Tryz.f187
theorem SV(v:Val)(hv:v.size<=1000000):Aa PP 187 [dV v] σ0 (di (min (v.size:Int) 129)) σ0:=by
 refine sv Ag0 6 [1] (.c (di (min (v.size:Int) 129)) .r) (F0 215 [dV v,di 128] (di (min (↑(Aqk v):Int) 129))/\di (if 129<min (↑(Aqk v):Int) 129 then 129 else min (↑(Aqk v):Int) 129)=di (min (↑(Aqk v):Int) 129)) ?_
 exact⟨Abw _ v (HB _) hv 128 (by decide) (by decide),by rw[HL (by rw[I3];split<;>omega)]⟩
noncomputable abbrev Ai0:Func:= Tryz.f140
def Aj(t:Typ)(v:Val):Bool:=decide ((v.size:Int)<=128)&&Am t v
theorem EH(t:Typ)(h:C0 8 t=true)(v:Val)(hv:v.size<=1000000):Aa PP 140 [dT t,dV v] σ0 (db (Aj t v)) σ0:=by
 refine sv Ai0 18 [2,3] (.c (di 0)<|.c (di (min (v.size:Int) 129))<|.b (.c (db (Am t v)) .r) .r) (F0 186 [D.v (vT t)] (di 0)/\F0 187 [dV v] (di (min (↑(Val.size v):Int) 129))/\(decide (min (↑(Val.size v):Int) 129<=128)=true->F0 188 [D.v (vT t),dV v] (db (Am t v))/\db (Am t v)=db (Aj t v))/\(decide (min (↑(Val.size v):Int) 129<=128)=false->db false=db (Aj t v))) ?_
 refine⟨W6 t h,SV v hv,fun h1=>⟨Aam _ t (HB _) v hv,?_⟩,fun h1=>?_⟩
 ·have h1:=HF h1
  rw[Aj,H6 (show(v.size:Int)<=128 by rw[I3] at h1;split at h1<;>omega),Ib]
 ·have h1:=Im h1
  rw[Aj,H8 (show ¬(v.size:Int)<=128 by rw[I3] at h1;split at h1<;>omega),HZ]
noncomputable abbrev fOf:Func:= Tryz.f124
structure Ae1 where
 pl:Int
 ph:Int
 ll:Int
 lh:Int
 vl:Int
 vh:Int
 al:Int
 ah:Int
abbrev Xu(l:Ae1):D:=.v (.agg [vi l.pl,vi l.ph,vi l.ll,vi l.lh,vi l.vl,vi l.vh,vi l.al,vi l.ah])
abbrev Aig:Ae1:=⟨1,6,0,0,0,0,0,0⟩
abbrev Agh:Ae1:=⟨1,2,1,6,0,0,0,0⟩
abbrev AhD:Ae1:=⟨1,6,0,0,0,0,0,3⟩
theorem AjB:Aa PP 124 [di 1] σ0 (Xu Aig) σ0:=by
 refine sv fOf 29 [] .r (D.v (Azh [vi 1,vi 6,vi 0,vi 0,vi 0,vi 0,vi 0,vi 0])=Xu Aig) ?_
 rfl
theorem AjA:Aa PP 124 [di 2] σ0 (Xu Agh) σ0:=by
 refine sv fOf 29 [] .r (D.v (Azh [vi 1,vi 2,vi 1,vi 6,vi 0,vi 0,vi 0,vi 0])=Xu Agh) ?_
 rfl
theorem Aj9:Aa PP 124 [di 3] σ0 (Xu Agh) σ0:=by
 refine sv fOf 29 [] .r (D.v (Azh [vi 1,vi 2,vi 1,vi 6,vi 0,vi 0,vi 0,vi 0])=Xu Agh) ?_
 rfl
theorem Aj8:Aa PP 124 [di 5] σ0 (Xu AhD) σ0:=by
 refine sv fOf 29 [] .r (D.v (Azh [vi 1,vi 6,vi 0,vi 0,vi 0,vi 0,vi 0,vi 3])=Xu AhD) ?_
 rfl
noncomputable abbrev Ago:Func:= Tryz.f84
def C3(l:Ae1)(m:Mod):Bool:=Av m.states.length 1 8&&(decide ((m.rules.length:Int)<=12)&&(Av m.places.length l.pl l.ph&&(Av m.letters.length l.ll l.lh&&(Av m.levels l.vl l.vh&&Av m.age l.al l.ah))))
theorem LQ(l:Ae1)(m:Mod)(h:Aa PP 124 [di m.kind] σ0 (Xu l) σ0):Aa PP 84 [Ag m] σ0 (db (C3 l m)) σ0:=by
 refine sv Ago 63 [1] (.c (Xu l)<|.c (db (Av m.states.length 1 8))<|.b (.b (.c (db (Av m.places.length l.pl l.ph))<|.b (.c (db (Av m.letters.length l.ll l.lh))<|.b (.c (db (Av m.levels l.vl l.vh))<|.b (.c (db (Av m.age l.al l.ah)) .r) .r) .r) .r) .r) .r) (F0 124 [di m.kind] (Xu l)/\F0 83 [di (length (Aks m.states):Int),di 1,di 8] (db (Av (m.states.length:Int) 1 8))/\(Av (m.states.length:Int) 1 8=true->(decide ((length (Aps m.rules):Int)<=12)=true->iz 0<=0/\0<(↑2:Int)/\iz 0<=1/\1<(↑2:Int)/\F0 83 [di (length (Aks m.places):Int),di l.pl,di l.ph] (db (Av (m.places.length:Int) l.pl l.ph))/\(Av (m.places.length:Int) l.pl l.ph=true->iz 0<=0/\0<(↑2:Int)/\iz 0<=1/\1<(↑2:Int)/\F0 83 [di (length (Aks m.letters):Int),di l.ll,di l.lh] (db (Av (m.letters.length:Int) l.ll l.lh))/\(Av (m.letters.length:Int) l.ll l.lh=true->iz 0<=0/\0<(↑2:Int)/\iz 0<=1/\1<(↑2:Int)/\F0 83 [di m.levels,di l.vl,di l.vh] (db (Av m.levels l.vl l.vh))/\(Av m.levels l.vl l.vh=true->iz 0<=0/\0<(↑2:Int)/\iz 0<=1/\1<(↑2:Int)/\F0 83 [di m.age,di l.al,di l.ah] (db (Av m.age l.al l.ah))/\db (Av m.age l.al l.ah)=db (C3 l m))/\(Av m.levels l.vl l.vh=false->db false=db (C3 l m)))/\(Av (m.letters.length:Int) l.ll l.lh=false->db false=db (C3 l m)))/\(Av (m.places.length:Int) l.pl l.ph=false->db false=db (C3 l m)))/\(decide ((length (Aps m.rules):Int)<=12)=false->db false=db (C3 l m)))/\(Av (m.states.length:Int) 1 8=false->db false=db (C3 l m))) ?_
 repeat' first|with_reducible refine And.intro ?_ ?_|intro _
 all_goals first|exact h|exact CI _ _ _|(simp only[H3];exact CI _ _ _)|decide|(simp_all [C3];done)|(simp_all [C3]<;>(intro h1<;>exfalso;omega))
noncomputable abbrev AdP:Func:= Tryz.f85
noncomputable abbrev AaW:Func:= Tryz.f126
theorem Ot(x:Int):Aa PP 126 [di x] σ0 (db (!Av x 0 5)) σ0:=by
 refine sv AaW 6 [] (.c (db (Av x 0 5)) .r) (F0 83 [di x,di 0,di 5] (db (Av x 0 5))/\(db !Av x 0 5)=db !Av x 0 5) ?_
 exact⟨CI x 0 5,rfl⟩
def BO(m:Mod):Bool:=if (m.kind !=3)=true then(m.ranks.length:Int)==0 else((m.ranks.length:Int)==m.letters.length)&&m.ranks.all fun x=>Av x 0 5
theorem La(m:Mod)(hm:m.ranks.length<=1000000):Aa PP 85 [Ag m] σ0 (db (BO m)) σ0:=by
 refine sv AdP 23 [1] (.b .r (.b (.c (db (m.ranks.any fun x=> !Av x 0 5)) .r) .r)) (((m.kind !=3)=true->db ((length (Anw m.ranks):Int)==0)=db (BO m))/\((m.kind !=3)=false->(((length (Anw m.ranks):Int)==(length (Aks m.letters):Int))=true->F0 125 [dIs m.ranks,D.v (Azl 126 [] [])] (db (List.any m.ranks fun x=> !Av x 0 5))/\(db !List.any m.ranks fun x=> !Av x 0 5)=db (BO m))/\(((length (Anw m.ranks):Int)==(length (Aks m.letters):Int))=false->db false=db (BO m)))) ?_
 refine⟨fun h1=>?_,fun h1=>⟨fun h2=>⟨Dk _ [] [] _ m.ranks hm fun x _=>Ot x,?_⟩,fun h2=>?_⟩⟩
 ·simp only[BO,h1,IC,H3]
 ·rw[NF];simp only[H3] at h2;simp[BO,h1,h2]
 ·simp only[H3] at h2;simp[BO,h1,h2]
noncomputable abbrev AdQ:Func:= Tryz.f189
theorem Ei(n:Int):Aa PP 189 [di n] σ0 (dT (.lab n)) σ0:=by
 refine sv AdQ 5 [] .r (D.v (Azh [vi 2,vi n,Azf [],Azf []])=dT (Typ.lab n)) ?_
 rfl
noncomputable abbrev Ac8:Func:= Tryz.f191
theorem Tj(t:Typ):Aa PP 191 [di 4,dT t] σ0 (dT (.word t)) σ0:=by
 refine sv Ac8 9 [3] .r (D.v (Azh [vi 4,vi 0,Azf [],Azf [vT t]])=dT (Typ.word t)) ?_
 rw[dT,KG];rfl
theorem WE(t:Typ):Aa PP 191 [di 5,dT t] σ0 (dT (.bag t)) σ0:=by
 refine sv Ac8 9 [3] .r (D.v (Azh [vi 5,vi 0,Azf [],Azf [vT t]])=dT (Typ.bag t)) ?_
 rw[dT,NU];rfl
noncomputable abbrev Fv:Func:= Tryz.f141
noncomputable def D3:Code:=Fv.body.getD .skip
abbrev GC(l:List Typ):D:=.acc 1 (l.map eT)
abbrev Wb(l:List Typ):St:=⟨[some [di 0,di 0,.v .nils,.v .nils]],[(1,4,l.map eT)]⟩
theorem Cf(l:List Typ)(t:Typ):l.map eT++[vT t]=(l++[t]).map eT:=by rw[←Abl];simp
def BH(m:Mod):Typ:=if m.kind=1 then .nat else if m.kind=2 then .word (.lab m.letters.length) else .prio m.letters.length m.ranks
def AI(m:Mod):Typ:=.prod (.lab m.states.length::replicate m.places.length (BH m))
noncomputable abbrev Ank:=fun a₀=>(Azh [vi 3,vi 0,Azf [],Azf (map eT a₀)])
noncomputable abbrev Ann:=[kl D3 [1,1,0,1,0,1,1,1,1,1,0,0],Aza 1,Aza 0,kc D3 [1,1,1]]
noncomputable abbrev An1:=(2,Azb 0 0)
noncomputable abbrev Aoc:=[di 0,di 0,dn,dn]
theorem PB(m:Mod)(hm:m.places.length<=1000)(hk:m.kind=1)(n:Nat):∀(k:Nat) (xs:List Typ),m.places.length-k=n->k<=m.places.length->xs.length<=k+1->
  Rn PP Fv 0 (dT (.prod (xs++replicate n (.nat)))) σ0 ([.lp (sub D3 [1,1,0,1,0,1,1,1,1,1,0,0]),.blk 1,.blk 0,.code (sub D3 [1,1,1])]++[]) (mkE 70 [(1,.v (.ref (A8 m))),(2,.ptr 0 0),(3,GC xs),(14,di m.places.length),(15,di k)]) (Wb xs):=by
 induction n with
 |zero=>
  intro k xs hn hk0 hxs
  refine lv 70 [1] (.f .r) (decide ((k:Int)<(m.places.length:Int))=false/\D.v (Ank xs)=dT (Typ.prod (xs++replicate 0 Typ.nat))) ?_
  refine⟨H8 (by omega),?_⟩
  rw[List.replicate_zero,Is];rfl
 |succ n ih=>
  intro k xs hn hk0 hxs
  refine lv 70 [1] (.t<|.f<|.f<|.ls [ke 1,ke 2,ch 3 (GC (xs++[.nat])),ke 14,ch 15 (di (k+1:Nat))] (Wb (xs++[.nat]))) (decide ((k:Int)<(m.places.length:Int))=true/\(m.kind==2)=false/\(m.kind==3)=false/\Q (map eT xs)/\Ar (length (map eT xs)+length (Azh (V.int i64 1::V.int i64 0::Azf nV::Azf nV::nV)::nV)) 64/\Azc 1 (map eT xs++[Azh [vi 1,vi 0,Azf [],Azf []]])=GC (xs++[Typ.nat])/\di (wrap i64 ((k:Int)+1))=di (↑(k+1):Int)/\Q [some Aoc]/\[(1,4,map eT xs++Azh (vi 1::vi 0::Azf nV::Azf nV::nV)::nV)]=[(1,4,map eT (xs++[Typ.nat]))]/\I0 Fv 0 (dT (Typ.prod (xs++replicate (n+1) Typ.nat))) σ0 Ann (mkE 70 [(Aot m),An1,(3,GC (xs++[Typ.nat])),(14,di (m.places.length:Int)),(15,di (↑(k+1):Int))]) (Wb (xs++[Typ.nat]))) ?_
  have h:=ih (k+1) (xs++[.nat]) (by omega) (by omega) (by simp only[HI,H9,HD];omega)
  rw[IA] at h
  refine⟨H6 (by omega),by rw[hk];rfl,by rw[hk];rfl,rfl,⟨?_,?_⟩,?_,Ad (by omega),rfl,?_,⟨h⟩⟩
  ·simp only[H3,H9,HD];omega
  ·simp only[H3,H9,HD];omega
  ·rw[GC, ←Cf];rfl
  ·rw[←Cf];rfl
noncomputable abbrev Al0:=fun (a₀:Nat)=>(Typ.lab (a₀:Int))
noncomputable abbrev Anq:=fun a₀ b₀=>F0 189 [di (length (Aks a₀):Int)] (dT (Al0 b₀))
noncomputable abbrev Aoh:=fun a₀=>(Typ.word (Al0 a₀))
theorem PA(m:Mod)(hm:m.places.length<=1000)(hk:m.kind=2)(n:Nat):∀(k:Nat) (xs:List Typ),m.places.length-k=n->k<=m.places.length->xs.length<=k+1->
  Rn PP Fv 0 (dT (.prod (xs++replicate n (.word (.lab m.letters.length))))) σ0 ([.lp (sub D3 [1,1,0,1,0,1,1,1,1,1,0,0]),.blk 1,.blk 0,.code (sub D3 [1,1,1])]++[]) (mkE 70 [(1,.v (.ref (A8 m))),(2,.ptr 0 0),(3,GC xs),(14,di m.places.length),(15,di k)]) (Wb xs):=by
 induction n with
 |zero=>
  intro k xs hn hk0 hxs
  refine lv 70 [1] (.f .r) (decide ((k:Int)<(m.places.length:Int))=false/\D.v (Azh [vi 3,vi 0,Azf [],Azf (map eT xs)])=dT (Typ.prod (xs++replicate 0 (Typ.word (Typ.lab (m.letters.length:Int)))))) ?_
  refine⟨H8 (by omega),?_⟩
  rw[List.replicate_zero,Is];rfl
 |succ n ih=>
  intro k xs hn hk0 hxs
  refine lv 70 [1] (.t<|.t<|.c (dT (.lab m.letters.length))<|.c (dT (.word (.lab m.letters.length)))<|.ls [ke 1,ke 2,ch 3 (GC (xs++[.word (.lab m.letters.length)])),ke 14,ch 15 (di (k+1:Nat))] (Wb (xs++[.word (.lab m.letters.length)]))) (decide ((k:Int)<(m.places.length:Int))=true/\(m.kind==2)=true/\F0 189 [di (length (map Azg m.letters):Int)] (dT (Typ.lab (m.letters.length:Int)))/\F0 191 [di 4,D.v (vT (Typ.lab (m.letters.length:Int)))] (dT (Typ.word (Typ.lab (m.letters.length:Int))))/\Q (map eT xs)/\Ar (length (map eT xs)+length (Azh (vi (Typ.kd (Typ.word (Typ.lab (m.letters.length:Int))))::vi (Typ.sz (Typ.word (Typ.lab (m.letters.length:Int))))::vIs (Typ.rk (Typ.word (Typ.lab (m.letters.length:Int))))::Azf (map eT (Typ.ps (Typ.word (Typ.lab (m.letters.length:Int)))))::nV)::nV)) 64/\Azc 1 (map eT xs++[Azh [vi (Typ.kd (Typ.word (Typ.lab (m.letters.length:Int)))),vi (Typ.sz (Typ.word (Typ.lab (m.letters.length:Int)))),vIs (Typ.rk (Typ.word (Typ.lab (m.letters.length:Int)))),Azf [eT (Typ.lab (m.letters.length:Int))]]])=GC (xs++[Typ.word (Typ.lab (m.letters.length:Int))])/\di (wrap i64 ((k:Int)+1))=di (↑(k+1):Int)/\Q [some [di 0,di 0,dn,dn]]/\[(1,4,map eT xs++Azh (vi (Typ.kd (Typ.word (Typ.lab (m.letters.length:Int))))::vi (Typ.sz (Typ.word (Typ.lab (m.letters.length:Int))))::vIs (Typ.rk (Typ.word (Typ.lab (m.letters.length:Int))))::Azf (eT (Typ.lab (m.letters.length:Int))::nV)::nV)::nV)]=[(1,4,map eT (xs++[Typ.word (Typ.lab (m.letters.length:Int))]))]/\I0 Fv 0 (dT (Typ.prod (xs++replicate (n+1) (Typ.word (Typ.lab (m.letters.length:Int)))))) σ0 [kl D3 [1,1,0,1,0,1,1,1,1,1,0,0],Aza 1,Aza 0,kc D3 [1,1,1]] (mkE 70 [(1,D.v (Azo (A8 m))),(2,Azb 0 0),(3,GC (xs++[Typ.word (Typ.lab (m.letters.length:Int))])),(14,di (m.places.length:Int)),(15,di (↑(k+1):Int))]) (Wb (xs++[Typ.word (Typ.lab (m.letters.length:Int))]))) ?_
  have h:=ih (k+1) (xs++[.word (.lab m.letters.length)]) (by omega) (by omega) (by simp only[HI,H9,HD];omega)
  rw[IA] at h
  refine⟨H6 (by omega),by rw[hk];rfl,by rw[H3];exact Ei _,Tj _,rfl,⟨?_,?_⟩,?_,Ad (by omega),rfl,?_,⟨h⟩⟩
  ·simp only[H3,H9,HD];omega
  ·simp only[H3,H9,HD];omega
  ·rw[GC, ←Cf];rfl
  ·rw[←Cf];rfl
theorem P9(m:Mod)(hm:m.places.length<=1000)(hr:m.ranks.length<=1000000)(hk:m.kind=3)(n:Nat):∀(k:Nat) (xs:List Typ),m.places.length-k=n->k<=m.places.length->xs.length<=k+1->
  Rn PP Fv 0 (dT (.prod (xs++replicate n (.prio m.letters.length m.ranks)))) σ0 ([.lp (sub D3 [1,1,0,1,0,1,1,1,1,1,0,0]),.blk 1,.blk 0,.code (sub D3 [1,1,1])]++[]) (mkE 70 [(1,.v (.ref (A8 m))),(2,.ptr 0 0),(3,GC xs),(14,di m.places.length),(15,di k)]) (Wb xs):=by
 induction n with
 |zero=>
  intro k xs hn hk0 hxs
  refine lv 70 [1] (.f .r) (decide ((k:Int)<(m.places.length:Int))=false/\D.v (Ank xs)=dT (Typ.prod (xs++replicate 0 (Typ.prio (m.letters.length:Int) m.ranks)))) ?_
  refine⟨H8 (by omega),?_⟩
  rw[List.replicate_zero,Is];rfl
 |succ n ih=>
  intro k xs hn hk0 hxs
  refine lv 70 [1] (.t<|.f<|.t<|.c (dIs m.ranks)<|.ls [ke 1,ke 2,ch 3 (GC (xs++[.prio m.letters.length m.ranks])),ke 14,ch 15 (di (k+1:Nat))] (Wb (xs++[.prio m.letters.length m.ranks]))) (decide ((k:Int)<(m.places.length:Int))=true/\(m.kind==2)=false/\(m.kind==3)=true/\F0 192 [dIs m.ranks] (dIs m.ranks)/\Q (map eT xs)/\Ar (length (map eT xs)+length (Azh (V.int i64 7::V.int i64 (length (Aks m.letters):Int)::vIs m.ranks::Azf nV::nV)::nV)) 64/\Azc 1 (map eT xs++[Azh [vi 7,vi (length (Aks m.letters):Int),vIs m.ranks,Azf []]])=GC (xs++[Typ.prio (m.letters.length:Int) m.ranks])/\di (wrap i64 ((k:Int)+1))=di (↑(k+1):Int)/\Q [some Aoc]/\[(1,4,map eT xs++Azh (vi 7::vi (length (Aks m.letters):Int)::vIs m.ranks::Azf nV::nV)::nV)]=[(1,4,map eT (xs++[Typ.prio (m.letters.length:Int) m.ranks]))]/\I0 Fv 0 (dT (Typ.prod (xs++replicate (n+1) (Typ.prio (m.letters.length:Int) m.ranks)))) σ0 Ann (mkE 70 [(Aot m),An1,(3,GC (xs++[Typ.prio (m.letters.length:Int) m.ranks])),(14,di (m.places.length:Int)),(15,di (↑(k+1):Int))]) (Wb (xs++[Typ.prio (m.letters.length:Int) m.ranks]))) ?_
  have h:=ih (k+1) (xs++[.prio m.letters.length m.ranks]) (by omega) (by omega) (by simp only[HI,H9,HD];omega)
  rw[IA] at h
  refine⟨H6 (by omega),by rw[hk];rfl,by rw[hk];rfl,XC m.ranks hr,rfl,⟨?_,?_⟩,?_,Ad (by omega),rfl,?_,⟨h⟩⟩
  ·simp only[H3,H9,HD];omega
  ·simp only[H3,H9,HD];omega
  ·rw[GC, ←Cf];rw[H3];rfl
  ·rw[←Cf];rw[H3];rfl
theorem Jy(m:Mod)(hm:m.places.length<=1000)(hr:m.ranks.length<=1000000)(hk:m.kind=1∨m.kind=2∨m.kind=3):Aa PP 141 [Ag m] σ0 (dT (AI m)) σ0:=by
 refine sv Fv 70 [1] (.c (dT (.lab m.states.length))<|.a 1<|.f<|.f<|.ls [ke 1,ke 2,ch 3 (GC [.lab m.states.length]),ch 14 (di m.places.length),ch 15 (di (0:Nat))] (Wb [.lab m.states.length])) (F0 189 [di (length (map Azg m.states):Int)] (dT (Typ.lab (m.states.length:Int)))/\(m.kind==4)=false/\(m.kind==5)=false/\Azc 1 [vT (Typ.lab (m.states.length:Int))]=GC [Typ.lab (m.states.length:Int)]/\di (length (map Azg m.places):Int)=di (m.places.length:Int)/\di 0=di (↑0:Int)/\Q [some [di 0,di 0,dn,dn]]/\[(1,4,vT (Typ.lab (m.states.length:Int))::nV)]=[(1,4,eT (Typ.lab (m.states.length:Int))::nV)]/\I0 Fv σ0.H.length (dT (AI m)) σ0 [kl D3 [1,1,0,1,0,1,1,1,1,1,0,0],Aza 1,Aza 0,kc D3 [1,1,1]] (mkE 70 [(1,D.v (Azo (A8 m))),(2,Azb 0 0),(3,GC [Typ.lab (m.states.length:Int)]),(14,di (m.places.length:Int)),(15,di (↑0:Int))]) (Wb [Typ.lab (m.states.length:Int)])) ?_
 refine⟨by rw[H3];exact Ei _,by rcases hk with h|h|h<;>rw[h]<;>rfl,by rcases hk with h|h|h<;>rw[h]<;>rfl,rfl,by rw[H3],rfl,rfl,rfl,⟨?_⟩⟩
 rcases hk with h|h|h
 ·have:=PB m hm h _ 0 [.lab m.states.length] rfl (by omega) (by simp)
  rw[Nat.sub_zero] at this
  rw[AI,show BH m=.nat by simp[BH,h]]
  exact this
 ·have:=PA m hm h _ 0 [.lab m.states.length] rfl (by omega) (by simp)
  rw[Nat.sub_zero] at this
  rw[AI,show BH m=.word (.lab m.letters.length) by simp[BH,h]]
  exact this
 ·have:=P9 m hm hr h _ 0 [.lab m.states.length] rfl (by omega) (by simp)
  rw[Nat.sub_zero] at this
  rw[AI,show BH m=.prio m.letters.length m.ranks by simp[BH,h]]
  exact this
noncomputable abbrev AgA:Func:= Tryz.f130
noncomputable def AeT:Code:=AgA.body.getD .skip
theorem AaG(F:FuncId)(fs cs:List V)(p:Rul->Bool)(l:List (Rul))(hl:l.length<=1000000)(hp:∀x∈l,Aa PP F ((fs++[Ak x]++cs).map .v) σ0 (db (p x)) σ0)(n:Nat):∀k:Nat,l.length-k=n->
  Rn PP AgA 0 (di (ixM p (l.drop k) k)) σ0 ([.lp (sub AeT [1,0,1,0,0]),.blk 0,.code (sub AeT [1,1])]++[]) (mkE 19 [(0,dl (l.map Ak)),(1,.v (.fn F fs cs)),(7,di l.length),(8,di k)]) σ0:=by
 induction n using Nat.strongRecOn with
 |_ n ih=>
 intro k hn
 refine lv 19 [] (.b (.e fun x:Rul=>.x (Ak x)<|.c (db (p x))<|.b .r (.l (Ap8 k))) .r) ((decide ((k:Int)<(l.length:Int))=true->∃a,0<=(k:Int)/\(map Ak l)[Int.toNat (k:Int)]?=some (Ak a)/\Aa PP F (map D.v (fs++[Ak a]++cs)) Akz (db (p a)) Akz/\(p a=true->di (k:Int)=di (ixM p (List.drop k l) k))/\(p a=false->di (wrap i64 ((k:Int)+1))=di (↑(k+1):Int)/\Nv.It (A1 (CN 0) PP (fun env σ1=>Aw PP AgA env σ1 (di (ixM p (List.drop k l) k)) σ0) [kl AeT [1,0,1,0,0],Aza 0,kc AeT [1,1]] (mkE 19 [(0,D.v (Azf (map Ak l))),(1,D.v (Azl F fs cs)),(Apx l.length),(8,di (↑(k+1):Int))]) σ0)))/\(decide ((k:Int)<(l.length:Int))=false->di (-1)=di (ixM p (List.drop k l) k))) ?_
 refine⟨fun h=>?_,fun h=>?_⟩
 ·have hk:k<l.length:=by simpa using h
  have hx:l[k]?=some l[k]:=H4 hk
  rw[HJ hk]
  generalize l[k]=x at hx⊢
  refine⟨x,by omega,Aq hx,hp x (HA hx),fun hf=>by simp[ixM,hf],fun hf=>⟨Ad (by omega),⟨?_⟩⟩⟩
  simp only[ixM,hf]
  exact ih (l.length- (k+1)) (by omega) (k+1) rfl
 ·have hk:l.length<=k:=by simpa using h
  rw[HO hk];rfl
theorem AaF(F:FuncId)(fs cs:List V)(p:Rul->Bool)(l:List (Rul))(hl:l.length<=1000000)(hp:∀x∈l,Aa PP F ((fs++[Ak x]++cs).map .v) σ0 (db (p x)) σ0):
  Aa PP 130 [dl (l.map Ak),.v (.fn F fs cs)] σ0 (di (ixM p l 0)) σ0:=by
 refine sv AgA 19 [] (.l (Ao5 l.length)) (di (length (map Ak l):Int)=di (l.length:Int)/\di 0=di (↑0:Int)/\I0 AgA σ0.H.length (di (ixM p l 0)) σ0 [kl AeT [1,0,1,0,0],Aza 0,kc AeT [1,1]] (mkE 19 [(0,dl (map Ak l)),(1,D.v (Azl F fs cs)),(Apx l.length),(8,di (↑0:Int))]) σ0) ?_
 refine⟨by simp,rfl,⟨?_⟩⟩
 exact AaG F fs cs p l hl hp _ 0 rfl
noncomputable abbrev Ai9:Func:= Tryz.f87
theorem Ls(F:FuncId)(fs cs:List V)(p:Rul->Bool)(l:List (Rul))(hl:l.length<=1000000)(hp:∀x∈l,Aa PP F ((fs++[Ak x]++cs).map .v) σ0 (db (p x)) σ0):
  Aa PP 87 [dl (l.map Ak),.v (.fn F fs cs)] σ0 (db (l.any p)) σ0:=by
 refine sv Ai9 9 [] (.c (di (ixM p l 0)) .r) (F0 130 [D.v (Azf (map Ak l)),D.v (Azl F fs cs)] (di (ixM p l 0))/\db (decide (ixM p l 0>=0))=db (List.any l p)) ?_
 exact⟨AaF F fs cs p l hl hp,by rw[←J6]⟩
def Qe(m:Mod):Ae1:=if m.kind=1 then Aig else Agh
def Et(m:Mod)(r:Rul):Bool:=if m.kind=1 then Du m r else Eu m r
structure Mod.ok(m:Mod):Prop where
 kind:m.kind=1∨m.kind=2∨m.kind=3
 sized:C3 (Qe m) m=true
 ranked:BO m=true
 named:D0 m=true
 rshort:∀r∈m.rules,r.short
 right:∀r∈m.rules,Et m r=true
 start:Aj (AI m) m.start=true
 ssize:m.start.size<=1000000
theorem BV{x a b:Int}(h:Av x a b=true):a<=x/\x<=b:=by simpa[Av] using h
theorem Mod.ok.sz{m:Mod}(h:m.ok):1<=m.states.length/\m.states.length<=8/\m.rules.length<=12/\1<=m.places.length/\m.places.length<=6/\m.letters.length<=6/\m.ranks.length<=6/\(m.kind≠1->1<=m.letters.length):=by
 have hs:=h.sized
 simp only[C3,H5,HE] at hs
 obtain⟨h1,h2,h3,h4,h5,h6⟩:=hs
 have h1:=BV h1
 have h3:=BV h3
 have h4:=BV h4
 have hr:=h.ranked
 have hl:(Qe m).pl=1/\(Qe m).ph<=6/\(Qe m).lh<=6/\(m.kind≠1->(Qe m).ll=1):=by
  unfold Qe
  split
  ·rename_i hk
   exact⟨rfl,by decide,by decide,fun hk2=>absurd hk hk2⟩
  ·exact⟨rfl,by decide,by decide,fun _=>rfl⟩
 have hrk:m.ranks.length=0∨m.ranks.length=m.letters.length:=by
  unfold BO at hr
  split at hr
  ·exact .inl (by simpa using hr)
  ·right
   simp only[H5,Ie] at hr
   exact Int.ofNat_inj.1 hr.1
 obtain⟨a1,a2,a3,a4⟩:=hl
 refine⟨by omega,by omega,by omega,by omega,by omega,by omega,by omega,fun hk=>?_⟩
 have:=a4 hk
 omega
theorem Mod.ok.short{m:Mod}(h:m.ok):m.short:=by
 obtain⟨h1,h2,h3,h4,h5,h6,h7,h8⟩:=h.sz
 exact⟨by omega,by omega,by omega,by omega,by omega,h.rshort⟩
theorem Mod.ok.good{m:Mod}(h:m.ok):C0 8 (AI m)=true:=by
 obtain⟨h1,h2,h3,h4,h5,h6,h7,h8⟩:=h.sz
 have he:C0 7 (BH m)=true:=by
  unfold BH
  split
  ·rfl
  ·rename_i hk
   split
   ·have:=h8 hk
    simp only[C0,H5,HE];omega
   ·rename_i hk2
    have hk3:m.kind=3:=by rcases h.kind with h|h|h<;>omega
    have hr:=h.ranked
    simp only[BO,hk3,bne_self_eq_false,Jj,if_false,H5,Ie,Ip] at hr
    have:=h8 hk
    simp only[C0,DE,H5,Ie,HE,Iv,List.any_eq_false,Bool.not_eq_true]
    refine⟨by omega,by omega,by omega,fun x hx=>?_⟩
    have:=BV (hr.2 x hx)
    simp only[V3,Bool.or_eq_false_iff,IM];omega
 simp only[AI,C0,H9,List.length_replicate,all_cons,H5,Iv,Ii,IM,HE,Ip]
 refine⟨by omega,by omega,⟨by omega,by omega⟩,fun t ht=>?_⟩
 rw[(mem_replicate.1 ht).2];exact he
theorem Ads(m:Mod)(hm:m.ok)(r:Rul)(hr:r∈m.rules):Aa PP 89 [Ag m,Cl r] σ0 (db true) σ0:=by
 have h:=hm.right r hr
 rcases hm.kind with hk|hk
 ·rw[Et,HP hk] at h
  rw[←h];exact PM m hm.short hk r (hm.rshort r hr)
 ·rw[Et,HL (by omega)] at h
  rw[←h];exact PL m hm.short hk r (hm.rshort r hr)
noncomputable abbrev AgM:Func:= Tryz.f88
theorem XE(m:Mod)(hm:m.ok)(r:Rul)(hr:r∈m.rules):Aa PP 88 [Cl r,.v (.ref (A8 m))] σ0 (db false) σ0:=by
 refine sv AgM 8 [2] (.c (db true) .r) (F0 89 [Ag m,Cl r] (db true)/\(db !true)=db false) ?_
 exact⟨Ads m hm r hr,rfl⟩
noncomputable abbrev Ajw:Func:= Tryz.f90
theorem AbO(m:Mod)(hm:m.ok):Aa PP 90 [Ag m] σ0 (db true) σ0:=by
 refine sv Ajw 22 [1] (.f<|.c (dT (AI m))<|.c (db true) .r) ((m.kind==6)=false/\F0 141 [Ag m] (dT (AI m))/\F0 140 [D.v (vT (AI m)),dV m.start] (db true)/\Q (db true)) ?_
 obtain⟨h1,h2,h3,h4,h5,h6,h7,h8⟩:=hm.sz
 refine⟨by rcases hm.kind with h|h|h<;>rw[h]<;>rfl,Jy m (by omega) (by omega) hm.kind,?_,rfl⟩
 have:=EH (AI m) hm.good m.start hm.ssize
 rw[hm.start] at this
 exact this
noncomputable abbrev Aju:Func:= Tryz.f52
noncomputable abbrev Aon:=fun a₀ b₀=>F0 87 [D.v (CJ a₀),D.v (Azl 88 [] [Azo (A8 b₀)])] (db false)
theorem FH(m:Mod)(hm:m.ok):Aa PP 52 [Ag m] σ0 (di 0) σ0:=by
 refine sv Aju 29 [1] (.c (db true)<|.c (db true)<|.c (db true)<|.c (db true)<|.c (db false)<|.c (db true) .r) (F0 83 [di m.kind,di 1,di 6] (db true)/\F0 84 [Ag m] (db true)/\F0 85 [Ag m] (db true)/\F0 86 [Ag m] (db true)/\Aon m.rules m/\F0 90 [Ag m] (db true)/\Q (di 0)) ?_
 obtain⟨h1,h2,h3,h4,h5,h6,h7,h8⟩:=hm.sz
 refine⟨?_,?_,?_,?_,?_,AbO m hm,rfl⟩
 ·have:=CI m.kind 1 6
  rwa[show Av m.kind 1 6=true by rcases hm.kind with h|h|h<;>rw[h]<;>rfl] at this
 ·have:=LQ (Qe m) m (by
   unfold Qe
   rcases hm.kind with h|h|h<;>rw[h]
   ·exact AjB
   ·exact AjA
   ·exact Aj9)
  rwa[hm.sized] at this
 ·have:=La m (by omega)
  rwa[hm.ranked] at this
 ·have:=R2 m (by simp only[BL,IR,flatten_nil,HI,HD];omega)
  rwa[hm.named] at this
 ·have:=Ls 88 [] [.ref (A8 m)] (fun _=>false) m.rules (by omega) (fun r hr=>XE m hm r hr)
  rw[show m.rules.any (fun _=>false)=false by simp] at this
  exact this
noncomputable abbrev Ag3:Func:= Tryz.f118
noncomputable abbrev Ak1:=fun a₀=>F0 52 [Ag a₀] (di 0)
theorem Lq(m:Mod)(hm:m.ok)(v:Val)(hv:v.size<=1000000):Aa PP 118 [Ag m,dV v] σ0 (db (Aj (AI m) v)) σ0:=by
 refine sv Ag3 14 [2,3] (.c (di 0)<|.c (dT (AI m))<|.c (db (Aj (AI m) v)) .r) (Ak1 m/\F0 141 [Ag m] (dT (AI m))/\F0 140 [D.v (vT (AI m)),dV v] (db (Aj (AI m) v))/\Q (db (Aj (AI m) v))) ?_
 obtain⟨h1,h2,h3,h4,h5,h6,h7,h8⟩:=hm.sz
 exact⟨FH m hm,Jy m (by omega) (by omega) hm.kind,EH _ hm.good v hv,rfl⟩
noncomputable abbrev Ajk:Func:= Tryz.f22
theorem Y8(m:Mod)(hm:m.ok):Aa PP 22 [Ag m] σ0 (di 0) σ0:=by
 refine sv Ajk 12 [1] (.c (di 0)<|.k<|.f .r) (Ak1 m/\(m.kind==6)=false/\Q (di 0)) ?_
 exact⟨FH m hm,by rcases hm.kind with h|h|h<;>rw[h]<;>rfl,rfl⟩
noncomputable abbrev AjI:Func:= Tryz.f117
noncomputable abbrev Ain:Func:= Tryz.f164
def Ev(m:Mod):Bool:=(m.kind==1)&&m.rules.all fun r=> !decide ((r.move.length:Int)>0)
theorem Vo(r:Rul):Aa PP 164 [Cl r] σ0 (db (decide ((r.move.length:Int)>0))) σ0:=by
 refine sv Ain 7 [1] .r (db (decide ((length (Anw r.move):Int)>0))=db (decide ((r.move.length:Int)>0))) ?_
 rw[H3]
theorem QP(m:Mod)(hm:m.rules.length<=1000000):Aa PP 117 [Ag m] σ0 (db (Ev m)) σ0:=by
 refine sv AjI 12 [1] (.b (.c (db (m.rules.any fun r=>decide ((r.move.length:Int)>0))) .r) .r) (((m.kind==1)=true->F0 87 [D.v (CJ m.rules),D.v (Azl 164 [] [])] (db (List.any m.rules fun r=>decide ((r.move.length:Int)>0)))/\(db !List.any m.rules fun r=>decide ((r.move.length:Int)>0))=db (Ev m))/\((m.kind==1)=false->db false=db (Ev m))) ?_
 refine⟨fun h=>⟨Ls _ [] [] _ m.rules hm fun r _=>Vo r,?_⟩,fun h=>?_⟩
 ·simp only[Ev,h,Ib]
  rw[←NF];simp only[Bool.not_not]
 ·simp only[Ev,h,HZ]
noncomputable abbrev Ags:Func:= Tryz.f119
theorem LO(a b:Val)(ha:a.size<=1000000):Aa PP 119 [dV a,dV b] σ0 (db (Au a b==0)) σ0:=by
 refine sv Ags 9 [2,3] (.c (di (Au a b)) .r) (F0 25 [dV a,dV b] (di (Au a b))/\Q (db (Au a b==0))) ?_
 exact⟨Ju _ a b (HB _) ha,rfl⟩
noncomputable abbrev Ag6:Func:= Tryz.f121
theorem To(c:UInt8):Aa PP 121 [.v (vb c)] σ0 (db (Di c)) σ0:=by
 refine sv Ag6 21 [] (.b (.b .r (.b (.b .r .r) .r)) (.k<|.b (.b .r .r) .r)) ((decide ((↑(UInt8.toNat c):Int)>=97)=true->(decide ((↑(UInt8.toNat c):Int)<=122)=true->db true=db (Di c))/\(decide ((↑(UInt8.toNat c):Int)<=122)=false->(decide ((↑(UInt8.toNat c):Int)>=48)=true->(decide ((↑(UInt8.toNat c):Int)<=57)=true->db true=db (Di c))/\(decide ((↑(UInt8.toNat c):Int)<=57)=false->db ((↑(UInt8.toNat c):Int)==95)=db (Di c)))/\(decide ((↑(UInt8.toNat c):Int)>=48)=false->db ((↑(UInt8.toNat c):Int)==95)=db (Di c))))/\(decide ((↑(UInt8.toNat c):Int)>=97)=false->(decide ((↑(UInt8.toNat c):Int)>=48)=true->(decide ((↑(UInt8.toNat c):Int)<=57)=true->db true=db (Di c))/\(decide ((↑(UInt8.toNat c):Int)<=57)=false->db ((↑(UInt8.toNat c):Int)==95)=db (Di c)))/\(decide ((↑(UInt8.toNat c):Int)>=48)=false->db ((↑(UInt8.toNat c):Int)==95)=db (Di c)))) ?_
 repeat' first|with_reducible refine And.intro ?_ ?_|intro _
 all_goals simp only[Di,Pv,Yy, *]<;>simp
noncomputable abbrev Lw:Func:= Tryz.f72
noncomputable def JK:Code:=Lw.body.getD .skip
theorem Vz(p:UInt8->Bool):∀s:List UInt8,G6 p s=s.length->∀c∈s,p c=true
 |[],_,_,h=>absurd h (by simp)
 |x::s,h,c,hc=>by
  unfold G6 at h
  split at h
  ·rename_i hx
   rcases Ij.1 hc with rfl|hc
   ·exact hx
   ·exact Vz p s (by simpa using h) c hc
  ·simp at h
theorem P1(s:List UInt8)(hs:s.length<=12)(hw:DA s=true)(n:Nat):∀k:Nat,s.length-k=n->
  Rn PP Lw 0 (db true) σ0 ([.lp (sub JK [1,0,1,0,0]),.blk 0,.code (sub JK [1,1])]++[]) (mkE 33 [(0,ds s),(3,di k)]) σ0:=by
 induction n using Nat.strongRecOn with
 |_ n ih=>
 intro k hn
 refine lv 33 [] (.b (.e fun c:UInt8=>.y c<|.c (db true)<|.l [ke 0,ch 3 (di (k+1:Nat))]) (.t<|.t<|.y (s.headD 0)<|.t<|.y (s.headD 0) .r)) ((decide ((k:Int)<(s.length:Int))=true->∃a,0<=(k:Int)/\s[Int.toNat (k:Int)]?=some a/\Aa PP 121 [D.v (V.int IntKind.u8 (↑(UInt8.toNat a):Int))] Akz (db true) Akz/\di (wrap i64 ((k:Int)+1))=di (↑(k+1):Int)/\Nv.It (A1 (CN 0) PP (fun env σ1=>Aw PP Lw env σ1 (db true) σ0) [kl JK [1,0,1,0,0],Aza 0,kc JK [1,1]] (mkE 33 [(0,D.v (Azg s)),(3,di (↑(k+1):Int))]) σ0))/\(decide ((k:Int)<(s.length:Int))=false->decide ((s.length:Int)>=1)=true/\decide ((s.length:Int)<=12)=true/\iz 0<=0/\s[Int.toNat 0]?=some (headD s 0)/\decide ((↑(UInt8.toNat (headD s 0)):Int)>=97)=true/\iz 0<=0/\s[Int.toNat 0]?=some (headD s 0)/\db (decide ((↑(UInt8.toNat (headD s 0)):Int)<=122))=db true)) ?_
 simp only[DA,H5,bne_iff_ne,ne_eq,Ie] at hw
 obtain⟨w1,w2,w3,w4⟩:=hw
 have hall:=Vz Di s (Int.ofNat_inj.1 w4)
 have h0:s[0]?=some (s.headD 0):=by cases s with
  |nil=>simp at w1
  |cons a s=>rfl
 simp only[Pv,H5] at w3
 refine⟨fun h=>?_,fun h=>?_⟩
 ·have hk:k<s.length:=by simpa using h
  have hx:s[k]?=some s[k]:=H4 hk
  generalize s[k]=c at hx
  refine⟨c,by omega,by simpa using hx,hall c (HA hx)▸To c,Ad (by omega),⟨?_⟩⟩
  exact ih (s.length- (k+1)) (by omega) (k+1) rfl
 ·refine⟨H6 ?_,w2,by decide,h0,w3.1,by decide,h0,HR db w3.2⟩
  cases s with
  |nil=>simp at w1
  |cons a s=>simp only[H9];omega
theorem P0(s:List UInt8)(hw:DA s=true):Aa PP 72 [ds s] σ0 (db true) σ0:=by
 have hs:s.length<=12:=by
  simp only[DA,H5,HE] at hw
  omega
 refine sv Lw 33 [] (.l [ke 0,ch 3 (di (0:Nat))]) (di 0=di (↑0:Int)/\I0 Lw σ0.H.length (db true) σ0 [kl JK [1,0,1,0,0],Aza 0,kc JK [1,1]] (mkE 33 [(0,D.v (Azg s)),(3,di (↑0:Int))]) σ0) ?_
 exact⟨rfl,⟨P1 s hs hw _ 0 rfl⟩⟩
noncomputable abbrev AdU:Func:= Tryz.f41
theorem Ch(x a b:Int):Aa PP 41 [di x,di a,di b] σ0 (db (Av x a b)) σ0:=by
 refine sv AdU 15 [] (.b .r .r) ((decide (x>=a)=true->db (decide (x<=b))=db (Av x a b))/\(decide (x>=a)=false->db false=db (Av x a b))) ?_
 refine⟨fun h=>?_,fun h=>?_⟩
 ·have h:a<=x:=by simpa using h
  simp[Av,h]
 ·have h:¬a<=x:=by simpa using h
  simp[Av,h]
noncomputable abbrev RL:Func:= Tryz.f42
theorem Tf(m:Mod)(hm:m.ok):Aa PP 42 [Ag m] σ0 (db true) σ0:=by
 have h1:∀a b x,Av x a b=true->Aa PP 41 [di x,di a,di b] σ0 (db true) σ0:=fun a b x h=>h▸Ch x a b
 have hs:=hm.sized
 simp only[C3,H5,HE] at hs
 obtain⟨s1,s2,s3,s4,s5,s6⟩:=hs
 have hk:=hm.kind
 clear hm
 obtain⟨kind,states,places,letters,ranks,levels,age,rules,start⟩:=m
 dsimp only at*
 rcases hk with hk|hk|hk<;>subst hk
 ·refine sv RL 81 [1] (.c (db true)<|.c (db true)<|.k<|.f<|.c (db true)<|.c (db true) .r) (F0 41 [di (length (map Azg (Mod.mk 1 states places letters ranks levels age rules start).states):Int),di 1,di 8] (db true)/\F0 41 [di (length (map Azg (Mod.mk 1 states places letters ranks levels age rules start).places):Int),di 1,di 6] (db true)/\decide ((length (map Ak (Mod.mk 1 states places letters ranks levels age rules start).rules):Int)>12)=false/\F0 41 [di (length (map Azg (Mod.mk 1 states places letters ranks levels age rules start).letters):Int),di 0,di 0] (db true)/\F0 41 [di (Mod.mk 1 states places letters ranks levels age rules start).levels,di 0,di 0] (db true)/\db ((Mod.mk 1 states places letters ranks levels age rules start).age==0)=db true) ?_
  refine⟨by rw[H3];exact h1 _ _ _ s1,by rw[H3];exact h1 _ _ _ s3,by rw[H3];show decide ((rules.length:Int)>12)=false;exact H8 (by omega),by rw[H3];exact h1 _ _ _ s4,h1 _ _ _ s5,?_⟩
  have:=BV s6
  rw[show age=0 by simp only[Qe] at this;simp at this;omega];rfl
 ·refine sv RL 81 [1] (.c (db true)<|.c (db true)<|.k<|.f<|.c (db true)<|.c (db true) .r) (F0 41 [di (length (map Azg (Mod.mk 2 states places letters ranks levels age rules start).states):Int),di 1,di 8] (db true)/\F0 41 [di (length (map Azg (Mod.mk 2 states places letters ranks levels age rules start).places):Int),di 1,di 2] (db true)/\decide ((length (map Ak (Mod.mk 2 states places letters ranks levels age rules start).rules):Int)>12)=false/\F0 41 [di (length (map Azg (Mod.mk 2 states places letters ranks levels age rules start).letters):Int),di 1,di 6] (db true)/\F0 41 [di (Mod.mk 2 states places letters ranks levels age rules start).levels,di 0,di 0] (db true)/\db ((Mod.mk 2 states places letters ranks levels age rules start).age==0)=db true) ?_
  refine⟨by rw[H3];exact h1 _ _ _ s1,by rw[H3];exact h1 _ _ _ s3,by rw[H3];show decide ((rules.length:Int)>12)=false;exact H8 (by omega),by rw[H3];exact h1 _ _ _ s4,h1 _ _ _ s5,?_⟩
  have:=BV s6
  rw[show age=0 by simp only[Qe] at this;simp at this;omega];rfl
 ·refine sv RL 81 [1] (.c (db true)<|.c (db true)<|.k<|.f<|.c (db true)<|.c (db true) .r) (F0 41 [di (length (map Azg (Mod.mk 3 states places letters ranks levels age rules start).states):Int),di 1,di 8] (db true)/\F0 41 [di (length (map Azg (Mod.mk 3 states places letters ranks levels age rules start).places):Int),di 1,di 2] (db true)/\decide ((length (map Ak (Mod.mk 3 states places letters ranks levels age rules start).rules):Int)>12)=false/\F0 41 [di (length (map Azg (Mod.mk 3 states places letters ranks levels age rules start).letters):Int),di 1,di 6] (db true)/\F0 41 [di (Mod.mk 3 states places letters ranks levels age rules start).levels,di 0,di 0] (db true)/\db ((Mod.mk 3 states places letters ranks levels age rules start).age==0)=db true) ?_
  refine⟨by rw[H3];exact h1 _ _ _ s1,by rw[H3];exact h1 _ _ _ s3,by rw[H3];show decide ((rules.length:Int)>12)=false;exact H8 (by omega),by rw[H3];exact h1 _ _ _ s4,h1 _ _ _ s5,?_⟩
  have:=BV s6
  rw[show age=0 by simp only[Qe] at this;simp at this;omega];rfl
noncomputable abbrev Lx:Func:= Tryz.f43
noncomputable def Mr:Code:=Lx.body.getD .skip
theorem Z9(m:Mod)(hm:m.ok)(hk:m.kind≠3):Aa PP 43 [Ag m] σ0 (db true) σ0:=by
 refine sv Lx 32 [1] (.t .r) ((m.kind !=3)=true/\db ((length (Anw m.ranks):Int)==0)=db true) ?_
 have h:=hm.ranked
 rw[BO,HP (bne_iff_ne.2 hk)] at h
 exact⟨bne_iff_ne.2 hk,by rw[H3];exact HR db h⟩
theorem SJ(m:Mod)(hm:m.ok)(hk:m.kind=3)(n:Nat):∀k:Nat,m.ranks.length-k=n->
  Rn PP Lx 0 (db true) σ0 ([.lp (sub Mr [1,1,1,0,1,0,0]),.blk 0,.code (sub Mr [1,1,1,1])]++[]) (mkE 32 [(1,.v (.ref (A8 m))),(3,di k)]) σ0:=by
 induction n using Nat.strongRecOn with
 |_ n ih=>
 intro k hn
 refine lv 32 [1] (.b (.e fun x:Int=>.x (vi x)<|.c (db true)<|.l [ke 1,ch 3 (di (k+1:Nat))]) .r) ((decide ((k:Int)<(length (Anw m.ranks):Int))=true->∃a,0<=(k:Int)/\(Anw m.ranks)[Int.toNat (k:Int)]?=some (vi a)/\Aa PP 41 [di a,di 0,di 5] Akz (db true) Akz/\di (wrap i64 ((k:Int)+1))=di (↑(k+1):Int)/\Nv.It (A1 (CN 0) PP (fun env σ1=>Aw PP Lx env σ1 (db true) σ0) [kl Mr Ak2,Aza 0,kc Mr [1,1,1,1]] (mkE 32 [(Aot m),(3,di (↑(k+1):Int))]) σ0))/\(decide ((k:Int)<(length (Anw m.ranks):Int))=false->Q (db true))) ?_
 have h:=hm.ranked
 simp only[BO,hk,bne_self_eq_false,Jj,if_false,H5,Ip] at h
 have hz:=hm.sz
 refine⟨fun h1=>?_,fun h1=>rfl⟩
 have hk1:k<m.ranks.length:=by simpa using h1
 have hx:m.ranks[k]?=some m.ranks[k]:=H4 hk1
 generalize m.ranks[k]=x at hx
 refine⟨x,by omega,Aq hx,h.2 x (HA hx)▸Ch x 0 5,Ad (by omega),⟨?_⟩⟩
 exact ih (m.ranks.length- (k+1)) (by omega) (k+1) rfl
theorem Adr(m:Mod)(hm:m.ok)(hk:m.kind=3):Aa PP 43 [Ag m] σ0 (db true) σ0:=by
 refine sv Lx 32 [1] (.f<|.f<|.l [ke 1,ch 3 (di (0:Nat))]) ((m.kind !=3)=false/\((length (Anw m.ranks):Int) !=(length (Aks m.letters):Int))=false/\di 0=di (↑0:Int)/\I0 Lx σ0.H.length (db true) σ0 [kl Mr Ak2,Aza 0,kc Mr [1,1,1,1]] (mkE 32 [(Aot m),(3,di (↑0:Int))]) σ0) ?_
 have h:=hm.ranked
 simp only[BO,hk,bne_self_eq_false,Jj,if_false,H5] at h
 refine⟨by rw[hk];rfl,by rw[H3,H3];simpa using h.1,rfl,⟨SJ m hm hk _ 0 rfl⟩⟩
theorem SI(m:Mod)(hm:m.ok):Aa PP 43 [Ag m] σ0 (db true) σ0:=by
 by_cases hk:m.kind=3
 ·exact Adr m hm hk
 ·exact Z9 m hm hk
noncomputable abbrev Xc:Func:= Tryz.f73
noncomputable def TP:Code:=Xc.body.getD .skip
theorem WM(l:List (List UInt8))(hl:l.length<=1000)(s:List UInt8)(n:Nat):∀k:Nat,l.length-k=n->
  Rn PP Xc 0 (db ((l.drop k).any (· ==s))) σ0 ([.lp (sub TP [1,1,0,1,0,0]),.blk 0,.code (sub TP [1,1,1])]++[]) (mkE 18 [(0,ds s),(3,dl (l.map V.str)),(4,di k)]) σ0:=by
 induction n using Nat.strongRecOn with
 |_ n ih=>
 intro k hn
 refine lv 18 [] (.b (.e fun x:List UInt8=>.x (.str x)<|.b .r (.l [ke 0,ke 3,ch 4 (di (k+1:Nat))])) .r) ((decide ((k:Int)<(length (Aks l):Int))=true->∃a,0<=(k:Int)/\(Aks l)[Int.toNat (k:Int)]?=some (Azg a)/\((a==s)=true->db true=db (List.any (List.drop k l) fun x=>x==s))/\((a==s)=false->di (wrap i64 ((k:Int)+1))=di (↑(k+1):Int)/\Nv.It (A1 (CN 0) PP (fun env σ1=>Aw PP Xc env σ1 (db (List.any (List.drop k l) fun x=>x==s)) σ0) [kl TP Akw,Aza 0,kc TP [1,1,1]] (mkE 18 [(0,D.v (Azg s)),(3,D.v (Aq1 l)),(4,di (↑(k+1):Int))]) σ0)))/\(decide ((k:Int)<(length (Aks l):Int))=false->db false=db (List.any (List.drop k l) fun x=>x==s))) ?_
 refine⟨fun h=>?_,fun h=>?_⟩
 ·have hk:k<l.length:=by simpa using h
  have hx:l[k]?=some l[k]:=H4 hk
  rw[HJ hk]
  generalize l[k]=x at hx⊢
  refine⟨x,by omega,Cm hx,fun h1=>?_,fun h1=>⟨Ad (by omega),⟨?_⟩⟩⟩
  ·rw[List.any_cons,h1,Bool.true_or]
  ·rw[List.any_cons,h1,Bool.false_or]
   exact ih (l.length- (k+1)) (by omega) (k+1) rfl
 ·have hk:l.length<=k:=by simpa using h
  rw[HO hk];rfl
theorem WL(s:List UInt8):Aa PP 73 [ds s] σ0 (db (Tq s)) σ0:=by
 refine sv Xc 18 [] (.l [ke 0,ch 3 (dl (AeE.map Azg)),ch 4 (di (0:Nat))]) (D.v Akt=dl (map Azg AeE)/\di 0=di (↑0:Int)/\I0 Xc σ0.H.length (db (Tq s)) σ0 [kl TP Akw,Aza 0,kc TP [1,1,1]] (mkE 18 [(0,D.v (Azg s)),(3,dl (map Azg AeE)),(4,di (↑0:Int))]) σ0) ?_
 refine⟨rfl,rfl,⟨?_⟩⟩
 exact WM AeE (by decide) s _ 0 rfl
theorem Acw:∀(l u:List (List UInt8)),nmB u l=true->(∀s∈l,DA s=true/\Tq s=false/\u.contains s=false)/\l.Nodup
 |[],_,_=>⟨fun s hs=>absurd hs (by simp),List.nodup_nil⟩
 |x::l,u,h=>by
  simp only[nmB,H5,Iv] at h
  obtain⟨h1,h2,h3,h4⟩:=h
  obtain⟨h5,h6⟩:=Acw l (u++[x]) h4
  refine⟨fun s hs=>?_,?_⟩
  ·rcases Ij.1 hs with rfl|hs
   ·exact⟨h1,h2,h3⟩
   ·obtain⟨a,b,c⟩:=h5 s hs
    refine⟨a,b,?_⟩
    simp at c⊢
    exact c.1
  ·refine List.nodup_cons.2 ⟨fun hx=>?_,h6⟩
   have:=(h5 x hx).2.2
   simp at this
noncomputable abbrev Ex:Func:= Tryz.f44
noncomputable def BK:Code:=Ex.body.getD .skip
noncomputable abbrev Apz:=[kl BK [1,1,1,0,1,0,0,1,0,0,1,1,0,0],Aza 4,Aza 3,kc BK [1,1,1,0,1,0,0,1,1],kl BK Ak2,Aza 2,kc BK [1,1,1,1]]
theorem PY(l:List (List UInt8))(hl:l.length<=1000000)(hd:l.Nodup)(i:Nat)(hi:i<l.length)
  (hout:Rn PP Ex 0 (db true) σ0 ([.lp (sub BK [1,1,1,0,1,0,0]),.blk 2,.code (sub BK [1,1,1,1])]++[]) (mkE 65 [(3,dl (l.map V.str)),(5,di (i+1:Nat))]) σ0) (n:Nat):∀k:Nat,i-k=n->
  Rn PP Ex 0 (db true) σ0 ([.lp (sub BK [1,1,1,0,1,0,0,1,0,0,1,1,0,0]),.blk 4,.blk 3,.code (sub BK [1,1,1,0,1,0,0,1,1]),.lp (sub BK [1,1,1,0,1,0,0]),.blk 2,.code (sub BK [1,1,1,1])]++[]) (mkE 65 [(3,dl (l.map V.str)),(5,di i),(6,di k)]) σ0:=by
 induction n using Nat.strongRecOn with
 |_ n ih=>
 intro k hn
 refine lv 65 [1] (.b (.e fun a:List UInt8=>.x (.str a)<|.e fun b:List UInt8=>.x (.str b)<|.f<|.l [ke 3,ke 5,ch 6 (di (k+1:Nat))]) (.l [ke 3,ch 5 (di (i+1:Nat))])) ((decide ((k:Int)<(i:Int))=true->∃a,0<=(k:Int)/\(Aks l)[Int.toNat (k:Int)]?=some (Azg a)/\∃a_1,0<=(i:Int)/\(Aks l)[Int.toNat (i:Int)]?=some (Azg a_1)/\(a==a_1)=false/\di (wrap i64 ((k:Int)+1))=di (↑(k+1):Int)/\Nv.It (A1 (CN 0) PP (fun env σ1=>Aw PP Ex env σ1 (db true) σ0) Apz (mkE 65 [(3,D.v (Aq1 l)),(5,di (i:Int)),(6,di (↑(k+1):Int))]) Akz))/\(decide ((k:Int)<(i:Int))=false->di (wrap i64 ((i:Int)+1))=di (↑(i+1):Int)/\I0 Ex 0 (db true) σ0 [kl BK Ak2,Aza 2,kc BK [1,1,1,1]] (mkE 65 [(3,D.v (Aq1 l)),(5,di (↑(i+1):Int))]) σ0)) ?_
 refine⟨fun h=>?_,fun h=>⟨Ad (by omega),⟨hout⟩⟩⟩
 have hk:k<i:=by simpa using h
 have hx:l[k]?=some l[k]:=H4 (by omega)
 have hy:l[i]?=some l[i]:=H4 hi
 have hxy:l[k]≠l[i]:=List.pairwise_iff_getElem.1 hd k i (by omega) hi hk
 exact⟨l[k],by omega,Cm hx,l[i],by omega,Cm hy,Ii.2 hxy,Ad (by omega),⟨ih (i- (k+1)) (by omega) (k+1) rfl⟩⟩
theorem PZ(l:List (List UInt8))(hl:l.length<=1000000)(hd:l.Nodup)(hw:∀s∈l,DA s=true/\Tq s=false)(n:Nat):∀i:Nat,l.length-i=n->
  Rn PP Ex 0 (db true) σ0 ([.lp (sub BK [1,1,1,0,1,0,0]),.blk 2,.code (sub BK [1,1,1,1])]++[]) (mkE 65 [(3,dl (l.map V.str)),(5,di i)]) σ0:=by
 induction n using Nat.strongRecOn with
 |_ n ih=>
 intro i hn
 refine lv 65 [1] (.b (.e fun s:List UInt8=>.x (.str s)<|.c (db true)<|.x (.str s)<|.c (db false)<|.l [ke 3,ke 5,ch 6 (di (0:Nat))]) .r) ((decide ((i:Int)<(length (Aks l):Int))=true->∃a,0<=(i:Int)/\(Aks l)[Int.toNat (i:Int)]?=some (Azg a)/\Aa PP 72 [D.v (Azg a)] Akz (db true) Akz/\0<=(i:Int)/\(Aks l)[Int.toNat (i:Int)]?=some (Azg a)/\Aa PP 73 [D.v (Azg a)] Akz (db false) Akz/\di 0=di (↑0:Int)/\Nv.It (A1 (CN 0) PP (fun env σ1=>Aw PP Ex env σ1 (db true) σ0) Apz (mkE 65 [(3,D.v (Aq1 l)),(5,di (i:Int)),(6,di (↑0:Int))]) σ0))/\(decide ((i:Int)<(length (Aks l):Int))=false->Q (db true))) ?_
 refine⟨fun h=>?_,fun h=>rfl⟩
 have hk:i<l.length:=by simpa using h
 have hx:l[i]?=some l[i]:=H4 hk
 have h3:=PY l hl hd i hk (ih (l.length- (i+1)) (by omega) (i+1) rfl) _ 0 rfl
 generalize l[i]=s at hx
 obtain⟨w1,w2⟩:=hw s (HA hx)
 exact⟨s,by omega,Cm hx,P0 s w1,by omega,Cm hx,w2▸WL s,rfl,⟨h3⟩⟩
theorem Qa(m:Mod)(hlen:(DO m).length<=100)(hrl:m.rules.length<=100)(hnm:D0 m=true)(n:Nat):∀(k:Nat) (xs:List (List UInt8)),m.rules.length-k=n->xs++(m.rules.drop k).map Rul.name=DO m->
  Rn PP Ex 0 (db true) σ0 ([.lp (sub BK [1,1,0,1,0,0]),.blk 0,.code (sub BK [1,1,1])]++[]) (mkE 65 [(1,.v (.ref (A8 m))),(3,So xs),(4,di k)]) (Yq xs):=by
 induction n with
 |zero=>
  intro k xs hn hx
  refine lv 65 [1] (.f<|.h (.q 6 0)<|.h (.un 3)<|.ls [ch 3 (dl (xs.map Azg)),ch 5 (di (0:Nat))] σ0) (decide ((k:Int)<(length (Aps m.rules):Int))=false/\D.v (Aq1 xs)=dl (Aks xs)/\di 0=di (↑0:Int)/\I0 Ex 0 (db true) σ0 [kl BK Ak2,Aza 2,kc BK [1,1,1,1]] (mkE 65 [(3,dl (Aks xs)),(5,di (↑0:Int))]) σ0) ?_
  refine⟨by rw[H3];exact H8 (by omega),rfl,rfl,⟨?_⟩⟩
  rw[HO (by omega)] at hx
  rw[I1,Is] at hx
  subst hx
  obtain⟨h1,h2⟩:=Acw _ _ hnm
  exact PZ _ (by omega) h2 (fun s hs=>⟨(h1 s hs).1,(h1 s hs).2.1⟩) _ 0 rfl
 |succ n ih=>
  intro k xs hn hx
  refine lv 65 [1] (.t<|.e fun r:Rul=>.h (.xs (Ak r))<|.w<|.ls [ke 1,ch 3 (So (xs++[r.name])),ch 4 (di (k+1:Nat))] (Yq (xs++[r.name]))) (decide ((k:Int)<(length (Aps m.rules):Int))=true/\∃a,14=14/\0<=(k:Int)/\(Aps m.rules)[Int.toNat (k:Int)]?=some (Ak a)/\Q (Aks xs)/\Ar (length (Aks xs)+length (Azg a.name::nV)) 16/\(∀(y:V),y∈ [Azg a.name]->V.size y=1)/\Azc 1 (map Azg xs++[Azg a.name])=So (xs++[a.name])/\di (wrap i64 ((k:Int)+1))=di (↑(k+1):Int)/\[(1,1,map Azg xs++Azg a.name::nV)]=[(1,1,map Azg (xs++[a.name]))]/\I0 Ex 0 (db true) σ0 [kl BK Akw,Aza 0,kc BK [1,1,1]] (mkE 65 [(Aot m),(3,So (xs++[a.name])),(4,di (↑(k+1):Int))]) (Yq (xs++[a.name]))) ?_
  have hk:k<m.rules.length:=by omega
  have hr:m.rules[k]?=some m.rules[k]:=H4 hk
  rw[HJ hk] at hx
  generalize m.rules[k]=r at hr hx
  have hxl:xs.length<=100:=by
   have:=HR length hx
   simp only[HI] at this;omega
  refine⟨by rw[H3];exact H6 (by omega),r,rfl,by omega,Aq hr,rfl,⟨?_,?_⟩,by simp[V.size],by simp,Ad (by omega),by simp,⟨?_⟩⟩
  ·simp only[H3,H9,HD];omega
  ·simp only[H3,H9,HD];omega
  ·exact ih (k+1) (xs++[r.name]) (by omega) (by rw[←hx];simp)
theorem R3(m:Mod)(hlen:(DO m).length<=100)(hrl:m.rules.length<=100)(hnm:D0 m=true):Aa PP 44 [Ag m] σ0 (db true) σ0:=by
 have hl2:=hlen
 simp only[DO,BL,IR,flatten_nil,HI,H3,HD] at hl2
 refine sv Ex 65 [1] (.a 1<|.w<|.w<|.w<|.ls [ke 1,ch 3 (So (BL m)),ch 4 (di (0:Nat))] (Yq (BL m))) (Ar (length (Aks m.states)) 16/\(∀(y:V),y∈map Azg m.states->V.size y=1)/\Q (Aks m.states)/\Ar (length (Aks m.states)+length (Aks m.places)) 16/\(∀(y:V),y∈map Azg m.places->V.size y=1)/\Q (map Azg m.states++map Azg m.places)/\Ar (length (map Azg m.states++map Azg m.places)+length (Aks m.letters)) 16/\(∀(y:V),y∈map Azg m.letters->V.size y=1)/\Azc 1 (map Azg m.states++map Azg m.places++map Azg m.letters)=So (BL m)/\di 0=di (↑0:Int)/\[(1,1,map Azg m.states++map Azg m.places++map Azg m.letters)]=[(1,1,map Azg (BL m))]/\I0 Ex σ0.H.length (db true) σ0 [kl BK Akw,Aza 0,kc BK [1,1,1]] (mkE 65 [(Aot m),(3,So (BL m)),(4,di (↑0:Int))]) (Yq (BL m))) ?_
 have hb:BL m=m.states++m.places++m.letters:=by simp[BL]
 refine⟨⟨?_,?_⟩,by simp[V.size],rfl,⟨?_,?_⟩,by simp[V.size],rfl,⟨?_,?_⟩,by simp[V.size],by simp[hb],rfl,by simp[hb],⟨?_⟩⟩
 all_goals try (simp only[H3,HI];omega)
 exact Qa m hlen hrl hnm _ 0 (BL m) rfl rfl
theorem Th(m:Mod)(hm:m.ok):Aa PP 44 [Ag m] σ0 (db true) σ0:=by
 have hsz:=hm.sz
 exact R3 m (by simp only[DO,BL,IR,flatten_nil,HI,H3,HD];omega) (by omega) hm.named
noncomputable abbrev OU:Func:= Tryz.f74
noncomputable def Mu:Code:=OU.body.getD .skip
theorem Tm(l:List Int)(hl:l.length<=1000000)(n a b:Int)(hn:l.length=n)(hx:∀x∈l,Av x a b=true)(N:Nat):∀k:Nat,l.length-k=N->
  Rn PP OU 0 (db true) σ0 ([.lp (sub Mu [1,0,1,0,0]),.blk 0,.code (sub Mu [1,1])]++[]) (mkE 28 [(0,dIs l),(1,di n),(2,di a),(3,di b),(9,di k)]) σ0:=by
 induction N using Nat.strongRecOn with
 |_ N ih=>
 intro k hk
 refine lv 28 [] (.b (.e fun x:Int=>.x (vi x)<|.c (db true)<|.l [ke 0,ke 1,ke 2,ke 3,ch 9 (di (k+1:Nat))]) .r) ((decide ((k:Int)<(length (map vi l):Int))=true->∃a_2,0<=(k:Int)/\(map vi l)[Int.toNat (k:Int)]?=some (vi a_2)/\Aa PP 41 [di a_2,di a,di b] Akz (db true) Akz/\di (wrap i64 ((k:Int)+1))=di (↑(k+1):Int)/\Nv.It (A1 (CN 0) PP (fun env σ1=>Aw PP OU env σ1 (db true) σ0) [kl Mu [1,0,1,0,0],Aza 0,kc Mu [1,1]] (mkE 28 [(0,dIs l),(1,di n),(2,di a),(3,di b),(9,di (↑(k+1):Int))]) σ0))/\(decide ((k:Int)<(length (map vi l):Int))=false->db ((length (map vi l):Int)==n)=db true)) ?_
 refine⟨fun h=>?_,fun h=>?_⟩
 ·have hk1:k<l.length:=by simpa using h
  have hy:l[k]?=some l[k]:=H4 hk1
  generalize l[k]=x at hy
  exact⟨x,by omega,Aq hy,hx x (HA hy)▸Ch x a b,Ad (by omega),⟨ih (l.length- (k+1)) (by omega) (k+1) rfl⟩⟩
 ·rw[H3,hn,beq_self_eq_true]
theorem Gq(l:List Int)(hl:l.length<=1000000)(n a b:Int)(hn:l.length=n)(hx:∀x∈l,Av x a b=true):Aa PP 74 [dIs l,di n,di a,di b] σ0 (db true) σ0:=by
 refine sv OU 28 [] (.l [ke 0,ke 1,ke 2,ke 3,ch 9 (di (0:Nat))]) (di 0=di (↑0:Int)/\I0 OU σ0.H.length (db true) σ0 [kl Mu [1,0,1,0,0],Aza 0,kc Mu [1,1]] (mkE 28 [(0,dIs l),(1,di n),(2,di a),(3,di b),(9,di (↑0:Int))]) σ0) ?_
 exact⟨rfl,⟨Tm l hl n a b hn hx _ 0 rfl⟩⟩
noncomputable abbrev AaV:Func:= Tryz.f45
theorem CP{α β:Type}(f:α->β)(l:List α)(h:l.length<=1000000):i64.wrap (((l.map f).length:Int)-1)=(l.length:Int)-1:=by
 rw[H3,Al (by omega) (by omega)]
theorem gt0{α β:Type}(f:α->β){l:List α}(h:l=[]):decide (((l.map f).length:Int)>0)=false:=by subst h;rfl
theorem V0(m:Mod)(hm:m.ok)(r:Rul)(hr:r∈m.rules):Aa PP 45 [Ag m,Cl r] σ0 (db true) σ0:=by
 have h1:∀a b x,Av x a b=true->Aa PP 41 [di x,di a,di b] σ0 (db true) σ0:=fun a b x h=>h▸Ch x a b
 have hs:=hm.short
 have hsz:=hm.sz
 have hrs:=hm.rshort r hr
 have hR:=hm.right r hr
 have hk:=hm.kind
 clear hm hr
 obtain⟨kind,states,places,letters,ranks,levels,age,rules,start⟩:=m
 have hst:=hs.states
 have hpl:=hs.places
 have hlt:=hs.letters
 clear hs
 dsimp only at*
 rcases hk with hk|hk|hk<;>subst hk
 ·simp only[Et,IC,Du,BJ,CB,BN,MU,H5,Ie,HE,Ip] at hR
  obtain⟨a1,a2,⟨a3,a4,a5,a6⟩,a7, -, -, -, -, -, -,b1,b2,b3,b4,b5,b6,b7,b8⟩:=hR
  refine sv AaV 234 [2,3] (.c (db true)<|.c (db true)<|.c (db true)<|.c (db true)<|.k<|.b (.c (db true)<|.k<|.k<|.f<|.f<|.f<|.k<|.f<|.f<|.k<|.f<|.f .r) (.k<|.k<|.f<|.f<|.f<|.k<|.f<|.f<|.k<|.f<|.f .r)) (F0 41 [di r.frm,di 0,di (wrap i64 ((length (map Azg (Mod.mk 1 states places letters ranks levels age rules start).states):Int)-1))] (db true)/\F0 41 [di r.to,di 0,di (wrap i64 ((length (map Azg (Mod.mk 1 states places letters ranks levels age rules start).states):Int)-1))] (db true)/\F0 74 [dIs r.need,di (length (map Azg (Mod.mk 1 states places letters ranks levels age rules start).places):Int),di 0,di 16] (db true)/\F0 74 [dIs r.give,di (length (map Azg (Mod.mk 1 states places letters ranks levels age rules start).places):Int),di 0,di 16] (db true)/\(decide ((length (Anw r.move):Int)>0)=true->F0 74 [dIs r.move,di (length (map Azg (Mod.mk 1 states places letters ranks levels age rules start).places):Int),di (-1),di (wrap i64 ((length (map Azg (Mod.mk 1 states places letters ranks levels age rules start).places):Int)-1))] (db true)/\(r.chan !=0)=false/\(r.act !=0)=false/\(r.letter !=0)=false/\decide ((length (Anw r.path):Int)>0)=false/\decide ((length (Anw r.next):Int)>0)=false/\decide ((length (map vTk r.takes):Int)>0)=false/\decide ((length (Anw r.makes):Int)>0)=false/\db (r.second==0)=db true)/\(decide ((length (Anw r.move):Int)>0)=false->(r.chan !=0)=false/\(r.act !=0)=false/\(r.letter !=0)=false/\decide ((length (Anw r.path):Int)>0)=false/\decide ((length (Anw r.next):Int)>0)=false/\decide ((length (map vTk r.takes):Int)>0)=false/\decide ((length (Anw r.makes):Int)>0)=false/\db (r.second==0)=db true)) ?_
  rw[CP _ _ hst,CP _ _ hpl]
  have hmv:(r.move.map vi).length>0->Aa PP 74 [dIs r.move,di ((places.map V.str).length:Int),di (-1),di ((places.length:Int)-1)] σ0 (db true) σ0:=fun h=>by
   rw[H3] at h
   simp only[Bool.or_eq_true,Ie,H5,Ip] at a7
   rcases a7 with a7|⟨a7,a8⟩
   ·omega
   ·rw[H3];exact Gq _ hrs.move _ _ _ a7 a8
  refine⟨h1 _ _ _ a2,h1 _ _ _ a1,?_,?_,fun h=>⟨hmv (by simpa using h),?_⟩,fun h=>?_⟩
  ·rw[H3];exact Gq _ hrs.need _ _ _ a3 a5
  ·rw[H3];exact Gq _ hrs.give _ _ _ a4 a6
  ·refine⟨by rw[b1];rfl,by rw[b2];rfl,by rw[b3];rfl,gt0 _ (HF b4),gt0 _ (HF b5),gt0 _ b6,gt0 _ (HF b7),by rw[b8];rfl⟩
  ·refine⟨by rw[b1];rfl,by rw[b2];rfl,by rw[b3];rfl,gt0 _ (HF b4),gt0 _ (HF b5),gt0 _ b6,gt0 _ (HF b7),by rw[b8];rfl⟩
 ·rw[Et,HL (fun h=>absurd h (by show ¬(_:Int)=1;simp only;decide))] at hR
  simp only[Eu,BN,GS,H5,Ie,HE] at hR
  simp only[D4] at hR
  obtain⟨a1,a2,a3, -, -, -,c1,c2,c3, -, -, -,b4,b5,b6,b7,b8⟩:=hR
  have hl:=hsz.2.2.2.2.2.2.2 (by decide)
  have hA:Av r.act 0 2=true/\Av r.chan 0 ((places.length:Int)-1)=true/\Av r.letter 0 ((letters.length:Int)-1)=true/\(r.act=0->r.chan=0/\r.letter=0):=by
   split at a3
   ·rename_i h0
    have h0:r.act=0:=by simpa using h0
    simp only[H5,Ie] at a3
    rw[h0,a3.1,a3.2]
    refine⟨by decide,?_,?_,fun _=>⟨rfl,rfl⟩⟩<;>simp only[Av,H5,HE]<;>omega
   ·rename_i h0
    have h0:r.act≠0:=by simpa using h0
    simp only[H5] at a3
    have:=BV a3.1
    refine⟨?_,a3.2.1,a3.2.2,fun h=>absurd h h0⟩
    simp only[Av,H5,HE];omega
  obtain⟨d1,d2,d3,d4⟩:=hA
  refine sv AaV 234 [2,3] (.c (db true)<|.c (db true)<|.k<|.k<|.k<|.k<|.f<|.f<|.f<|.k<|.c (db true)<|.c (db true)<|.c (db true)<|.k<|.b (.f<|.f<|.k<|.f<|.f<|.k<|.f<|.f .r) (.k<|.k<|.f<|.f<|.k<|.f<|.f .r)) (F0 41 [di r.frm,di 0,di (wrap i64 ((length (map Azg (Mod.mk 2 states places letters ranks levels age rules start).states):Int)-1))] (db true)/\F0 41 [di r.to,di 0,di (wrap i64 ((length (map Azg (Mod.mk 2 states places letters ranks levels age rules start).states):Int)-1))] (db true)/\decide ((length (Anw r.need):Int)>0)=false/\decide ((length (Anw r.give):Int)>0)=false/\decide ((length (Anw r.move):Int)>0)=false/\F0 41 [di r.act,di 0,di 2] (db true)/\F0 41 [di r.chan,di 0,di (wrap i64 ((length (map Azg (Mod.mk 2 states places letters ranks levels age rules start).places):Int)-1))] (db true)/\F0 41 [di r.letter,di 0,di (wrap i64 ((length (map Azg (Mod.mk 2 states places letters ranks levels age rules start).letters):Int)-1))] (db true)/\((r.act==0)=true->(r.chan !=0)=false/\(r.letter !=0)=false/\decide ((length (Anw r.path):Int)>0)=false/\decide ((length (Anw r.next):Int)>0)=false/\decide ((length (map vTk r.takes):Int)>0)=false/\decide ((length (Anw r.makes):Int)>0)=false/\db (r.second==0)=db true)/\((r.act==0)=false->decide ((length (Anw r.path):Int)>0)=false/\decide ((length (Anw r.next):Int)>0)=false/\decide ((length (map vTk r.takes):Int)>0)=false/\decide ((length (Anw r.makes):Int)>0)=false/\db (r.second==0)=db true)) ?_
  rw[CP _ _ hst,CP _ _ hpl,CP _ _ hlt]
  refine⟨h1 _ _ _ a2,h1 _ _ _ a1,gt0 _ (HF c1),gt0 _ (HF c2),gt0 _ (HF c3),h1 _ _ _ d1,h1 _ _ _ d2,h1 _ _ _ d3,fun h=>?_,fun h=>?_⟩
  ·have:=d4 (by simpa using h)
   exact⟨by rw[this.1];rfl,by rw[this.2];rfl,gt0 _ (HF b4),gt0 _ (HF b5),gt0 _ b6,gt0 _ (HF b7),by rw[b8];rfl⟩
  ·exact⟨gt0 _ (HF b4),gt0 _ (HF b5),gt0 _ b6,gt0 _ (HF b7),by rw[b8];rfl⟩
 ·rw[Et,HL (fun h=>absurd h (by show ¬(_:Int)=1;simp only;decide))] at hR
  simp only[Eu,BN,GS,H5,Ie,HE] at hR
  simp only[D4] at hR
  obtain⟨a1,a2,a3, -, -, -,c1,c2,c3, -, -, -,b4,b5,b6,b7,b8⟩:=hR
  have hl:=hsz.2.2.2.2.2.2.2 (by decide)
  have hA:Av r.act 0 2=true/\Av r.chan 0 ((places.length:Int)-1)=true/\Av r.letter 0 ((letters.length:Int)-1)=true/\(r.act=0->r.chan=0/\r.letter=0):=by
   split at a3
   ·rename_i h0
    have h0:r.act=0:=by simpa using h0
    simp only[H5,Ie] at a3
    rw[h0,a3.1,a3.2]
    refine⟨by decide,?_,?_,fun _=>⟨rfl,rfl⟩⟩<;>simp only[Av,H5,HE]<;>omega
   ·rename_i h0
    have h0:r.act≠0:=by simpa using h0
    simp only[H5] at a3
    have:=BV a3.1
    refine⟨?_,a3.2.1,a3.2.2,fun h=>absurd h h0⟩
    simp only[Av,H5,HE];omega
  obtain⟨d1,d2,d3,d4⟩:=hA
  refine sv AaV 234 [2,3] (.c (db true)<|.c (db true)<|.k<|.k<|.k<|.k<|.f<|.f<|.f<|.k<|.c (db true)<|.c (db true)<|.c (db true)<|.k<|.b (.f<|.f<|.k<|.f<|.f<|.k<|.f<|.f .r) (.k<|.k<|.f<|.f<|.k<|.f<|.f .r)) (F0 41 [di r.frm,di 0,di (wrap i64 ((length (map Azg (Mod.mk 3 states places letters ranks levels age rules start).states):Int)-1))] (db true)/\F0 41 [di r.to,di 0,di (wrap i64 ((length (map Azg (Mod.mk 3 states places letters ranks levels age rules start).states):Int)-1))] (db true)/\decide ((length (Anw r.need):Int)>0)=false/\decide ((length (Anw r.give):Int)>0)=false/\decide ((length (Anw r.move):Int)>0)=false/\F0 41 [di r.act,di 0,di 2] (db true)/\F0 41 [di r.chan,di 0,di (wrap i64 ((length (map Azg (Mod.mk 3 states places letters ranks levels age rules start).places):Int)-1))] (db true)/\F0 41 [di r.letter,di 0,di (wrap i64 ((length (map Azg (Mod.mk 3 states places letters ranks levels age rules start).letters):Int)-1))] (db true)/\((r.act==0)=true->(r.chan !=0)=false/\(r.letter !=0)=false/\decide ((length (Anw r.path):Int)>0)=false/\decide ((length (Anw r.next):Int)>0)=false/\decide ((length (map vTk r.takes):Int)>0)=false/\decide ((length (Anw r.makes):Int)>0)=false/\db (r.second==0)=db true)/\((r.act==0)=false->decide ((length (Anw r.path):Int)>0)=false/\decide ((length (Anw r.next):Int)>0)=false/\decide ((length (map vTk r.takes):Int)>0)=false/\decide ((length (Anw r.makes):Int)>0)=false/\db (r.second==0)=db true)) ?_
  rw[CP _ _ hst,CP _ _ hpl,CP _ _ hlt]
  refine⟨h1 _ _ _ a2,h1 _ _ _ a1,gt0 _ (HF c1),gt0 _ (HF c2),gt0 _ (HF c3),h1 _ _ _ d1,h1 _ _ _ d2,h1 _ _ _ d3,fun h=>?_,fun h=>?_⟩
  ·have:=d4 (by simpa using h)
   exact⟨by rw[this.1];rfl,by rw[this.2];rfl,gt0 _ (HF b4),gt0 _ (HF b5),gt0 _ b6,gt0 _ (HF b7),by rw[b8];rfl⟩
  ·exact⟨gt0 _ (HF b4),gt0 _ (HF b5),gt0 _ b6,gt0 _ (HF b7),by rw[b8];rfl⟩
noncomputable abbrev AgJ:Func:= Tryz.f81
theorem Tz(l:List Int)(hl:l.length<=1000000):Aa PP 81 [dIs l] σ0 (dIs l) σ0:=by
 refine sv AgJ 5 [] (.a 1<|.w .r) (Ar (length (map vi l)) 8/\(∀(y:V),y∈map vi l->V.size y=1)/\D.v (Aqp l)=dIs l) ?_
 exact⟨⟨by simp;omega,by simp;omega⟩,Ec l,rfl⟩
noncomputable abbrev Agz:Func:= Tryz.f26
theorem LY(a b:Int):Aa PP 26 [di a,di b] σ0 (di (AK a b)) σ0:=by
 refine sv Agz 11 [] (.b .r<|.b .r .r) ((decide (a<b)=true->di (-1)=di (AK a b))/\(decide (a<b)=false->(decide (a>b)=true->di 1=di (AK a b))/\(decide (a>b)=false->di 0=di (AK a b)))) ?_
 refine⟨fun h=>?_,fun h=>⟨fun h1=>?_,fun h1=>?_⟩⟩<;>simp_all [AK]<;>omega
noncomputable abbrev OR:Func:= Tryz.f79
noncomputable def Mq:Code:=OR.body.getD .skip
noncomputable abbrev Apv:=fun a₀=>(Azo (Af a₀))
theorem LR(N:Nat):∀v:Val,v.size<=N->v.size<=1000000->∀m:Int,0<=m->m<=1000->Aa PP 79 [dV v,di m] σ0 (di (min (v.size:Int) (m+1))) σ0:=by
 induction N with
 |zero=>intro v hv;have:=v.size_pos;omega
 |succ N ihN=>
  intro v hv hv1 m hm0 hm1
  have hsz:=v.size_eq
  have hlen:=Val.length_le v.kids
  have loop (n:Nat):∀(k:Nat) (a:Int),v.kids.length-k=n->1<=a->a<=m+1->
    Rn PP OR 0 (di (min (a+(Val.sizes (v.kids.drop k):Int)) (m+1))) σ0 ([.lp (sub Mq [1,1,0,1,0,0]),.blk 0,.code (sub Mq [1,1,1])]++[]) (mkE 31 [(1,di m),(2,.v (.ref (Af v))),(5,di a),(6,di k)]) σ0:=by
   induction n using Nat.strongRecOn with
   |_ n ih=>
   intro k a hn ha0 ha1
   refine lv 31 [2] (.b (.b (.e fun x:Val=>.x (Af x)<|.c (di (min (x.size:Int) (m-a+1)))<|.l [ke 1,ke 2,ch 5 (di (min (a+(x.size:Int)) (m+1))),ch 6 (di (k+1:Nat))]) .r) .r) ((decide ((k:Int)<(length (Alj v.kids):Int))=true->(decide (a<=m)=true->∃a_3,0<=(k:Int)/\(Alj v.kids)[Int.toNat (k:Int)]?=some (Af a_3)/\Aa PP 79 [dV a_3,di (wrap i64 (m-a))] Akz (di (min (↑(Aqk a_3):Int) (m-a+1))) Akz/\di (wrap i64 (a+min (↑(Aqk a_3):Int) (m-a+1)))=di (min (a+(↑(Aqk a_3):Int)) (m+1))/\di (wrap i64 ((k:Int)+1))=di (↑(k+1):Int)/\Nv.It (A1 (CN 0) PP (fun env σ1=>Aw PP OR env σ1 (di (min (a+(↑(Val.sizes (List.drop k v.kids)):Int)) (m+1))) σ0) [kl Mq Akw,Aza 0,kc Mq [1,1,1]] (mkE 31 [(1,di m),(2,D.v (Apv v)),(5,di (min (a+(↑(Aqk a_3):Int)) (m+1))),(6,di (↑(k+1):Int))]) σ0))/\(decide (a<=m)=false->di a=di (min (a+(↑(Val.sizes (List.drop k v.kids)):Int)) (m+1))))/\(decide ((k:Int)<(length (Alj v.kids):Int))=false->di a=di (min (a+(↑(Val.sizes (List.drop k v.kids)):Int)) (m+1)))) ?_
   refine⟨fun h=>⟨fun h1=>?_,fun h1=>?_⟩,fun h=>?_⟩
   ·have hk:k<v.kids.length:=by simpa using h
    have hx:v.kids[k]?=some v.kids[k]:=H4 hk
    rw[HJ hk]
    generalize v.kids[k]=x at hx⊢
    have hxs:=Val.size_mem (HA hx)
    have hx1:=x.size_pos
    simp only[Val.sizes]
    have h1:=HF h1
    refine⟨x,by omega,As hx,?_,?_,Ad (by omega),⟨?_⟩⟩
    ·rw[Al (by omega) (by omega)]
     exact ihN x (by omega) (by omega) (m-a) (by omega) (by omega)
    ·rw[Al (by rw[I3];split<;>omega) (by rw[I3];split<;>omega)]
     simp only[I3];congr 1;split<;>split<;>omega
    ·have:=ih (v.kids.length- (k+1)) (by omega) (k+1) (min (a+(x.size:Int)) (m+1)) rfl (by rw[I3];split<;>omega) (by rw[I3];split<;>omega)
     rw[show min (min (a+(x.size:Int)) (m+1)+(Val.sizes (v.kids.drop (k+1)):Int)) (m+1)=min (a+((x.size+Val.sizes (v.kids.drop (k+1)):Nat):Int)) (m+1) by simp only[I3];(repeat' split)<;>omega] at this
     exact this
   ·have h1:=Im h1
    rw[I3];split<;>congr 1<;>omega
   ·have hk:v.kids.length<=k:=by simpa using h
    rw[HO hk]
    simp only[Val.sizes];rw[I3];split<;>congr 1<;>omega
  refine sv OR 31 [2] (.l [ke 1,ke 2,ch 5 (di 1),ch 6 (di (0:Nat))]) (Q (di 1)/\di 0=di (↑0:Int)/\I0 OR σ0.H.length (di (min (↑(Aqk v):Int) (m+1))) σ0 [kl Mq Akw,Aza 0,kc Mq [1,1,1]] (mkE 31 [(1,di m),(2,D.v (Apv v)),(5,di 1),(6,di (↑0:Int))]) σ0) ?_
  refine⟨rfl,rfl,⟨?_⟩⟩
  have:=loop _ 0 1 rfl (by omega) (by omega)
  rw[IW,show(1:Int)+(Val.sizes v.kids:Int)=v.size by omega] at this
  exact this
theorem L9{a b:Int}:AK a b=0↔a=b:=by unfold AK;(repeat' split)<;>omega
theorem Ab0(a b:Val):Au a b=if AK a.n b.n=0 then(if AK a.kids.length b.kids.length=0 then AZ Au a.kids b.kids else AK a.kids.length b.kids.length) else AK a.n b.n:=by
 cases a;cases b;simp only[Au,N5];rfl
noncomputable abbrev OY:Func:= Tryz.f12
noncomputable def Mx:Code:=OY.body.getD .skip
noncomputable abbrev Als:=fun a₀=>(3,D.v (Azo (Af a₀)))
theorem EW(N:Nat):∀a b:Val,a.size<=N->a.size<=1000000->Aa PP 12 [dV a,dV b] σ0 (di (Au a b)) σ0:=by
 induction N with
 |zero=>intro v _ hv;have:=v.size_pos;omega
 |succ N ihN=>
  intro a b ha ha1
  have hsz:=a.size_eq
  have hlen:=Val.length_le a.kids
  have loop (hab:a.kids.length=b.kids.length) (n:Nat):∀k:Nat,a.kids.length-k=n->
    Rn PP OY 0 (di (AZ Au (a.kids.drop k) (b.kids.drop k))) σ0 ([.lp (sub Mx [1,1,1,0,1,0,0]),.blk 0,.code (sub Mx [1,1,1,1])]++[]) (mkE 52 [(2,.v (.ref (Af a))),(3,.v (.ref (Af b))),(5,di k)]) σ0:=by
   induction n using Nat.strongRecOn with
   |_ n ih=>
   intro k hn
   refine lv 52 [2,3] (.b (.e fun x:Val=>.x (Af x)<|.e fun y:Val=>.x (Af y)<|.c (di (Au x y))<|.b .r (.l [ke 2,ke 3,ch 5 (di (k+1:Nat))])) .r) ((decide ((k:Int)<(length (Alj a.kids):Int))=true->∃a_2,0<=(k:Int)/\(Alj a.kids)[Int.toNat (k:Int)]?=some (Af a_2)/\∃a_3,0<=(k:Int)/\(Alj b.kids)[Int.toNat (k:Int)]?=some (Af a_3)/\Aa PP 12 [dV a_2,dV a_3] Akz (di (Au a_2 a_3)) Akz/\((Au a_2 a_3 !=0)=true->di (Au a_2 a_3)=di (AZ Au (List.drop k a.kids) (List.drop k b.kids)))/\((Au a_2 a_3 !=0)=false->di (wrap i64 ((k:Int)+1))=di (↑(k+1):Int)/\Nv.It (A1 (CN 0) PP (fun env σ1=>Aw PP OY env σ1 (di (AZ Au (List.drop k a.kids) (List.drop k b.kids))) σ0) [kl Mx Ak2,Aza 0,kc Mx [1,1,1,1]] (mkE 52 [(2,D.v (Apv a)),(Als b),(5,di (↑(k+1):Int))]) Akz)))/\(decide ((k:Int)<(length (Alj a.kids):Int))=false->di 0=di (AZ Au (List.drop k a.kids) (List.drop k b.kids)))) ?_
   refine⟨fun h=>?_,fun h=>?_⟩
   ·have hk:k<a.kids.length:=by simpa using h
    have hk2:k<b.kids.length:=by omega
    have hx:a.kids[k]?=some a.kids[k]:=H4 hk
    have hy:b.kids[k]?=some b.kids[k]:=H4 hk2
    rw[HJ hk,HJ hk2]
    generalize a.kids[k]=x at hx⊢
    generalize b.kids[k]=y at hy⊢
    have hxs:=Val.size_mem (HA hx)
    refine⟨x,by omega,As hx,y,by omega,As hy,ihN x y (by omega) (by omega),fun h1=>?_,fun h1=>⟨Ad (by omega),⟨?_⟩⟩⟩
    ·have h1:Au x y≠0:=by simpa using h1
     simp only[AZ,HL h1]
    ·have h1:Au x y=0:=by simpa using h1
     simp only[AZ,HP h1]
     exact ih (a.kids.length- (k+1)) (by omega) (k+1) rfl
   ·have hk:a.kids.length<=k:=by simpa using h
    rw[HO hk,HO (by omega)];rfl
  refine sv OY 52 [2,3] (.b (.c (di (AK a.n b.n)) .r) (.b (.c (di (AK a.kids.length b.kids.length)) .r) (.l [ke 2,ke 3,ch 5 (di (0:Nat))]))) (((a.n !=Val.n b)=true->F0 26 [di a.n,di b.n] (di (AK a.n b.n))/\di (AK a.n b.n)=di (Au a b))/\((a.n !=Val.n b)=false->(((length (Alj a.kids):Int) !=(length (Alj b.kids):Int))=true->F0 26 [di (length (Alj a.kids):Int),di (length (Alj b.kids):Int)] (di (AK (a.kids.length:Int) (b.kids.length:Int)))/\di (AK (a.kids.length:Int) (b.kids.length:Int))=di (Au a b))/\(((length (Alj a.kids):Int) !=(length (Alj b.kids):Int))=false->di 0=di (↑0:Int)/\I0 OY σ0.H.length (di (Au a b)) σ0 [kl Mx Ak2,Aza 0,kc Mx [1,1,1,1]] (mkE 52 [(2,D.v (Apv a)),(Als b),(5,di (↑0:Int))]) σ0))) ?_
  rw[Ab0]
  refine⟨fun h=>⟨LY _ _,?_⟩,fun h=>⟨fun h1=>⟨?_,?_⟩,fun h1=>⟨rfl,⟨?_⟩⟩⟩⟩
  ·rw[HL (fun e=>(bne_iff_ne.1 h) (L9.1 e))]
  ·rw[H3,H3];exact LY _ _
  ·have h:a.n=b.n:=by simpa using h
   have h1:(a.kids.length:Int)≠b.kids.length:=by simpa using h1
   rw[HP (L9.2 h),HL (fun e=>h1 (L9.1 e))]
  ·have h:a.n=b.n:=by simpa using h
   have h1:(a.kids.length:Int)=b.kids.length:=by simpa using h1
   rw[HP (L9.2 h),HP (L9.2 h1)]
   exact loop (Int.ofNat_inj.1 h1) _ 0 rfl
noncomputable abbrev Agr:Func:= Tryz.f17
noncomputable abbrev Amh:=fun a₀ b₀=>F0 12 [dV a₀,dV b₀] (di (Au a₀ b₀))
theorem Jz(a b:Val)(ha:a.size<=1000000):Aa PP 17 [dV a,dV b] σ0 (db (Au a b==0)) σ0:=by
 refine sv Agr 9 [2,3] (.c (di (Au a b)) .r) (Amh a b/\Q (db (Au a b==0))) ?_
 exact⟨EW _ a b (HB _) ha,rfl⟩
noncomputable abbrev OS:Func:= Tryz.f169
noncomputable def Ms:Code:=OS.body.getD .skip
theorem SL(r:List Int)(hr:DE r=true)(n:Nat):∀k:Nat,r.length-k=n->
  Rn PP OS 0 (db true) σ0 ([.lp (sub Ms [1,0,1,0,0]),.blk 0,.code (sub Ms [1,1])]++[]) (mkE 30 [(0,dIs r),(3,di k)]) σ0:=by
 induction n using Nat.strongRecOn with
 |_ n ih=>
 intro k hn
 refine lv 30 [] (.b (.e fun x:Int=>.x (vi x)<|.f<|.x (vi x)<|.f<|.l [ke 0,ch 3 (di (k+1:Nat))]) (.t .r)) ((decide ((k:Int)<(length (map vi r):Int))=true->∃a,0<=(k:Int)/\(map vi r)[Int.toNat (k:Int)]?=some (vi a)/\decide (a<0)=false/\0<=(k:Int)/\(map vi r)[Int.toNat (k:Int)]?=some (vi a)/\decide (a>=6)=false/\di (wrap i64 ((k:Int)+1))=di (↑(k+1):Int)/\Nv.It (A1 (CN 0) PP (fun env σ1=>Aw PP OS env σ1 (db true) σ0) [kl Ms [1,0,1,0,0],Aza 0,kc Ms [1,1]] (mkE 30 [(0,dIs r),(3,di (↑(k+1):Int))]) σ0))/\(decide ((k:Int)<(length (map vi r):Int))=false->decide ((length (map vi r):Int)>=1)=true/\db (decide ((length (map vi r):Int)<=6))=db true)) ?_
 simp only[DE,H5,Iv,List.any_eq_false] at hr
 obtain⟨h1,h2,h3⟩:=hr
 have hlen:=HF h2
 refine⟨fun h=>?_,fun h=>⟨by rw[H3];exact h1,by rw[H3];exact HR db h2⟩⟩
 have hk:k<r.length:=by simpa using h
 have hx:r[k]?=some r[k]:=H4 hk
 generalize r[k]=x at hx
 have h4:=h3 x (HA hx)
 simp only[V3,Bool.not_eq_true,Bool.or_eq_false_iff] at h4
 exact⟨x,by omega,Aq hx,h4.1,by omega,Aq hx,h4.2,Ad (by omega),⟨ih (r.length- (k+1)) (by omega) (k+1) rfl⟩⟩
theorem SK(r:List Int)(hr:DE r=true):Aa PP 169 [dIs r] σ0 (db true) σ0:=by
 refine sv OS 30 [] (.l [ke 0,ch 3 (di (0:Nat))]) (di 0=di (↑0:Int)/\I0 OS σ0.H.length (db true) σ0 [kl Ms [1,0,1,0,0],Aza 0,kc Ms [1,1]] (mkE 30 [(0,dIs r),(3,di (↑0:Int))]) σ0) ?_
 exact⟨rfl,⟨SL r hr _ 0 rfl⟩⟩
noncomputable abbrev Ys:Func:= Tryz.f47
noncomputable def Sb:Code:=Ys.body.getD .skip
abbrev Wa(l:List Typ)(n:Nat):St:=⟨[some [di 0,di 0,.v .nils,.v .nils],some [di 3,di 0,.v (.list []),.acc 1 (l.map eT)],some [di 2,di n,.v (.list []),.v (.list [])]],[(1,4,l.map eT)]⟩
noncomputable abbrev Amz:=fun (a₀:Nat)=>[di 2,di (a₀:Int),D.v (Azf nV),D.v (Azf nV)]
noncomputable abbrev Anh:=[kl Sb [1,1,1,0,1,0,1,1,1,1,1,0,0],Aza 1,Aza 0,kc Sb [1,1,1,1]]
noncomputable abbrev Apm:=fun a₀ (b₀:Nat)=>(mkE 96 [(Aot a₀),An1,(3,Azb 1 0),(4,Azb 2 0),(8,di (↑(b₀+1):Int))])
theorem S8(m:Mod)(hm:m.ok)(hk:m.kind=1)(n:Nat):∀(k:Nat) (xs:List Typ),m.places.length-k=n->k<=m.places.length->xs.length<=k+1->
  Rn PP Ys 0 (dT (.prod (xs++replicate n (.nat)))) σ0 ([.lp (sub Sb [1,1,1,0,1,0,1,1,1,1,1,0,0]),.blk 1,.blk 0,.code (sub Sb [1,1,1,1])]++[]) (mkE 96 [(1,.v (.ref (A8 m))),(2,.ptr 0 0),(3,.ptr 1 0),(4,.ptr 2 0),(8,di k)]) (Wa xs m.letters.length):=by
 have hsz:=hm.sz
 induction n with
 |zero=>
  intro k xs hn hk0 hxs
  refine lv 96 [1] (.f .r) (decide ((k:Int)<(length (Aks m.places):Int))=false/\D.v (Ank xs)=dT (Typ.prod (xs++replicate 0 Typ.nat))) ?_
  refine⟨by rw[H3];exact H8 (by omega),?_⟩
  rw[List.replicate_zero,Is];rfl
 |succ n ih=>
  intro k xs hn hk0 hxs
  refine lv 96 [1] (.t<|.f<|.f<|.ls [ke 1,ke 2,ke 3,ke 4,ch 8 (di (k+1:Nat))] (Wa (xs++[.nat]) m.letters.length)) (decide ((k:Int)<(length (Aks m.places):Int))=true/\(m.kind==2)=false/\(m.kind==3)=false/\Q (map eT xs)/\Ar (length (map eT xs)+length (Azh (V.int i64 1::V.int i64 0::Azf nV::Azf nV::nV)::nV)) 64/\di (wrap i64 ((k:Int)+1))=di (↑(k+1):Int)/\[some Aoc,some [di 3,di 0,D.v (Azf nV),Azc 1 (map eT xs++Azh (vi 1::vi 0::Azf nV::Azf nV::nV)::nV)],some (Amz m.letters.length)]=[some Aoc,some [di 3,di 0,D.v (Azf nV),Azc 1 (map eT (xs++[Typ.nat]))],some (Amz m.letters.length)]/\[(1,4,map eT xs++Azh (vi 1::vi 0::Azf nV::Azf nV::nV)::nV)]=[(1,4,map eT (xs++[Typ.nat]))]/\I0 Ys 0 (dT (Typ.prod (xs++replicate (n+1) Typ.nat))) σ0 Anh (Apm m k) (Wa (xs++[Typ.nat]) m.letters.length)) ?_
  have h:=ih (k+1) (xs++[.nat]) (by omega) (by omega) (by simp only[HI,H9,HD];omega)
  rw[IA] at h
  refine⟨by rw[H3];exact H6 (by omega),by rw[hk];rfl,by rw[hk];rfl,rfl,⟨?_,?_⟩,Ad (by omega),?_,?_,⟨h⟩⟩
  ·simp only[H3,H9,HD];omega
  ·simp only[H3,H9,HD];omega
  ·rw[←Cf];rfl
  ·rw[←Cf];rfl
theorem S7(m:Mod)(hm:m.ok)(hk:m.kind=2)(n:Nat):∀(k:Nat) (xs:List Typ),m.places.length-k=n->k<=m.places.length->xs.length<=k+1->
  Rn PP Ys 0 (dT (.prod (xs++replicate n (.word (.lab m.letters.length))))) σ0 ([.lp (sub Sb [1,1,1,0,1,0,1,1,1,1,1,0,0]),.blk 1,.blk 0,.code (sub Sb [1,1,1,1])]++[]) (mkE 96 [(1,.v (.ref (A8 m))),(2,.ptr 0 0),(3,.ptr 1 0),(4,.ptr 2 0),(8,di k)]) (Wa xs m.letters.length):=by
 have hsz:=hm.sz
 induction n with
 |zero=>
  intro k xs hn hk0 hxs
  refine lv 96 [1] (.f .r) (decide ((k:Int)<(length (Aks m.places):Int))=false/\D.v (Ank xs)=dT (Typ.prod (xs++replicate 0 (Aoh m.letters.length)))) ?_
  refine⟨by rw[H3];exact H8 (by omega),?_⟩
  rw[List.replicate_zero,Is];rfl
 |succ n ih=>
  intro k xs hn hk0 hxs
  refine lv 96 [1] (.t<|.t<|.f<|.ls [ke 1,ke 2,ke 3,ke 4,ch 8 (di (k+1:Nat))] (Wa (xs++[.word (.lab m.letters.length)]) m.letters.length)) (decide ((k:Int)<(length (Aks m.places):Int))=true/\(m.kind==2)=true/\(m.kind==3)=false/\Q (map eT xs)/\Ar (length (map eT xs)+length (Azh (V.int i64 4::V.int i64 0::Azf nV::Azf (Azh (V.int i64 2::V.int i64 (m.letters.length:Int)::Azf nV::Azf nV::nV)::nV)::nV)::nV)) 64/\di (wrap i64 ((k:Int)+1))=di (↑(k+1):Int)/\[some Aoc,some [di 3,di 0,D.v (Azf nV),Azc 1 (map eT xs++Azh (vi 4::vi 0::Azf nV::Azf (Azh (vi 2::vi (m.letters.length:Int)::Azf nV::Azf nV::nV)::nV)::nV)::nV)],some (Amz m.letters.length)]=[some Aoc,some [di 3,di 0,D.v (Azf nV),Azc 1 (map eT (xs++[Typ.word (Al0 m.letters.length)]))],some (Amz m.letters.length)]/\[(1,4,map eT xs++Azh (vi 4::vi 0::Azf nV::Azf (Azh (vi 2::vi (m.letters.length:Int)::Azf nV::Azf nV::nV)::nV)::nV)::nV)]=[(1,4,map eT (xs++[Typ.word (Al0 m.letters.length)]))]/\I0 Ys 0 (dT (Typ.prod (xs++replicate (n+1) (Aoh m.letters.length)))) σ0 Anh (Apm m k) (Wa (xs++[Typ.word (Al0 m.letters.length)]) m.letters.length)) ?_
  have h:=ih (k+1) (xs++[.word (.lab m.letters.length)]) (by omega) (by omega) (by simp only[HI,H9,HD];omega)
  rw[IA] at h
  refine⟨by rw[H3];exact H6 (by omega),by rw[hk];rfl,by rw[hk];rfl,rfl,⟨?_,?_⟩,Ad (by omega),?_,?_,⟨h⟩⟩
  ·simp only[H3,H9,HD];omega
  ·simp only[H3,H9,HD];omega
  ·rw[←Cf];rfl
  ·rw[←Cf];rfl
theorem S6(m:Mod)(hm:m.ok)(hk:m.kind=3)(n:Nat):∀(k:Nat) (xs:List Typ),m.places.length-k=n->k<=m.places.length->xs.length<=k+1->
  Rn PP Ys 0 (dT (.prod (xs++replicate n (.prio m.letters.length m.ranks)))) σ0 ([.lp (sub Sb [1,1,1,0,1,0,1,1,1,1,1,0,0]),.blk 1,.blk 0,.code (sub Sb [1,1,1,1])]++[]) (mkE 96 [(1,.v (.ref (A8 m))),(2,.ptr 0 0),(3,.ptr 1 0),(4,.ptr 2 0),(8,di k)]) (Wa xs m.letters.length):=by
 have hsz:=hm.sz
 induction n with
 |zero=>
  intro k xs hn hk0 hxs
  refine lv 96 [1] (.f .r) (decide ((k:Int)<(length (Aks m.places):Int))=false/\D.v (Ank xs)=dT (Typ.prod (xs++replicate 0 (Typ.prio (m.letters.length:Int) m.ranks)))) ?_
  refine⟨by rw[H3];exact H8 (by omega),?_⟩
  rw[List.replicate_zero,Is];rfl
 |succ n ih=>
  intro k xs hn hk0 hxs
  refine lv 96 [1] (.t<|.f<|.t<|.c (dIs m.ranks)<|.ls [ke 1,ke 2,ke 3,ke 4,ch 8 (di (k+1:Nat))] (Wa (xs++[.prio m.letters.length m.ranks]) m.letters.length)) (decide ((k:Int)<(length (Aks m.places):Int))=true/\(m.kind==2)=false/\(m.kind==3)=true/\F0 81 [dIs m.ranks] (dIs m.ranks)/\Q (map eT xs)/\Ar (length (map eT xs)+length (Azh (V.int i64 7::V.int i64 (length (Aks m.letters):Int)::vIs m.ranks::Azf nV::nV)::nV)) 64/\di (wrap i64 ((k:Int)+1))=di (↑(k+1):Int)/\[some Aoc,some [di 3,di 0,D.v (Azf nV),Azc 1 (map eT xs++Azh (vi 7::vi (length (Aks m.letters):Int)::vIs m.ranks::Azf nV::nV)::nV)],some (Amz m.letters.length)]=[some Aoc,some [di 3,di 0,D.v (Azf nV),Azc 1 (map eT (xs++[Typ.prio (m.letters.length:Int) m.ranks]))],some (Amz m.letters.length)]/\[(1,4,map eT xs++Azh (vi 7::vi (length (Aks m.letters):Int)::vIs m.ranks::Azf nV::nV)::nV)]=[(1,4,map eT (xs++[Typ.prio (m.letters.length:Int) m.ranks]))]/\I0 Ys 0 (dT (Typ.prod (xs++replicate (n+1) (Typ.prio (m.letters.length:Int) m.ranks)))) σ0 Anh (Apm m k) (Wa (xs++[Typ.prio (m.letters.length:Int) m.ranks]) m.letters.length)) ?_
  have h:=ih (k+1) (xs++[.prio m.letters.length m.ranks]) (by omega) (by omega) (by simp only[HI,H9,HD];omega)
  rw[IA] at h
  refine⟨by rw[H3];exact H6 (by omega),by rw[hk];rfl,by rw[hk];rfl,Tz m.ranks (by omega),rfl,⟨?_,?_⟩,Ad (by omega),?_,?_,⟨h⟩⟩
  ·simp only[H3,H9,HD];omega
  ·simp only[H3,H9,HD];omega
  ·rw[←Cf];rw[H3];rfl
  ·rw[←Cf];rw[H3];rfl
theorem UK(m:Mod)(hm:m.ok):Aa PP 47 [Ag m] σ0 (dT (AI m)) σ0:=by
 have hk:=hm.kind
 refine sv Ys 96 [1] (.a 1<|.h .g<|.f<|.f<|.ls [ke 1,ke 2,ke 3,ke 4,ch 8 (di (0:Nat))] (Wa [.lab m.states.length] m.letters.length)) ((m.kind==4)=false/\(m.kind==5)=false/\di 0=di (↑0:Int)/\[some Aoc,some [di 3,di 0,D.v (Azf nV),Azc 1 (Azh (vi 2::vi (length (Aks m.states):Int)::Azf nV::Azf nV::nV)::nV)],some [di 2,di (length (Aks m.letters):Int),D.v (Azf nV),D.v (Azf nV)]]=[some Aoc,some [di 3,di 0,D.v (Azf nV),Azc 1 (eT (Al0 m.states.length)::nV)],some (Amz m.letters.length)]/\[(1,4,Azh (vi 2::vi (length (Aks m.states):Int)::Azf nV::Azf nV::nV)::nV)]=[(1,4,eT (Al0 m.states.length)::nV)]/\I0 Ys σ0.H.length (dT (AI m)) σ0 Anh (mkE 96 [(Aot m),An1,(3,Azb 1 0),(4,Azb 2 0),(8,di (↑0:Int))]) (Wa [Typ.lab (m.states.length:Int)] m.letters.length)) ?_
 refine⟨by rcases hk with h|h|h<;>rw[h]<;>rfl,by rcases hk with h|h|h<;>rw[h]<;>rfl,rfl,by rw[H3,H3];rfl,by rw[H3];rfl,⟨?_⟩⟩
 rcases hk with h|h|h
 ·have:=S8 m hm h _ 0 [.lab m.states.length] rfl (by omega) (by simp)
  rw[Nat.sub_zero] at this
  rw[AI,show BH m=.nat by simp[BH,h]]
  exact this
 ·have:=S7 m hm h _ 0 [.lab m.states.length] rfl (by omega) (by simp)
  rw[Nat.sub_zero] at this
  rw[AI,show BH m=.word (.lab m.letters.length) by simp[BH,h]]
  exact this
 ·have:=S6 m hm h _ 0 [.lab m.states.length] rfl (by omega) (by simp)
  rw[Nat.sub_zero] at this
  rw[AI,show BH m=.prio m.letters.length m.ranks by simp[BH,h]]
  exact this
noncomputable abbrev LL:Func:= Tryz.f122
noncomputable def NB:Code:=LL.body.getD .skip
theorem YF(d:Nat):Aa PP 122 [dT .nat,di ((d+1:Nat):Int)] σ0 (db true) σ0:=by
 refine sv LL 132 [2] (.f .r) (((↑(d+1):Int)==0)=false/\db ((length (map eT (Typ.ps Typ.nat)):Int)==0)=db true) ?_
 have hz:(((d+1:Nat):Int)==0)=false:=Ii.2 (by omega)
 exact⟨hz,rfl⟩
theorem GD(d:Nat)(n:Int)(h1:1<=n)(h2:n<=16):Aa PP 122 [dT (.lab n),di ((d+1:Nat):Int)] σ0 (db true) σ0:=by
 refine sv LL 132 [2] (.f<|.k<|.k<|.k<|.k<|.k<|.t<|.t .r) (((↑(d+1):Int)==0)=false/\decide (Typ.sz (Typ.lab n)>=1)=true/\decide (Typ.sz (Typ.lab n)<=16)=true/\db ((length (map eT (Typ.ps (Typ.lab n))):Int)==0)=db true) ?_
 have hz:(((d+1:Nat):Int)==0)=false:=Ii.2 (by omega)
 exact⟨hz,H6 h1,H6 h2,rfl⟩
theorem U0(d:Nat)(n:Int)(r:List Int)(h1:n=r.length)(h2:DE r=true):Aa PP 122 [dT (.prio n r),di ((d+1:Nat):Int)] σ0 (db true) σ0:=by
 refine sv LL 132 [2] (.f<|.t<|.k<|.k<|.k<|.k<|.k<|.t<|.t<|.k<|.t<|.c (db true) .r) (((↑(d+1):Int)==0)=false/\decide ((length (map vi (Typ.rk (Aqq n r))):Int)>0)=true/\decide (Typ.sz (Aqq n r)>=1)=true/\decide (Typ.sz (Aqq n r)<=6)=true/\((length (map vi (Typ.rk (Aqq n r))):Int)==Typ.sz (Aqq n r))=true/\F0 169 [D.v (vIs (Typ.rk (Aqq n r)))] (db true)/\Q (db true)) ?_
 have hz:(((d+1:Nat):Int)==0)=false:=Ii.2 (by omega)
 have h3:=h2
 simp only[DE,H5,HE] at h3
 refine⟨hz,H6 ?_,H6 ?_,H6 ?_,?_,SK r h2,rfl⟩
 ·simp only[Typ.rk,H3];omega
 ·simp only[Typ.sz];omega
 ·simp only[Typ.sz];omega
 ·simp only[Typ.sz,Typ.rk,H3,h1,beq_self_eq_true]
theorem Ux(d:Nat)(t:Typ)(hd:d<=100)(h:Aa PP 122 [dT t,di d] σ0 (db true) σ0):Aa PP 122 [dT (.word t),di ((d+1:Nat):Int)] σ0 (db true) σ0:=by
 rw[dT,KG]
 refine sv LL 132 [2] (.f<|.x (vT t)<|.c (db true) .r) (((↑(d+1):Int)==0)=false/\iz 0<=0/\Q (some (vT t))/\F0 122 [D.v (vT t),di (wrap i64 ((↑(d+1):Int)-1))] (db true)/\Q (db true)) ?_
 have hz:(((d+1:Nat):Int)==0)=false:=Ii.2 (by omega)
 rw[show i64.wrap (((d+1:Nat):Int)-1)=d by rw[Al (by omega) (by omega)];omega]
 exact⟨hz,by decide,rfl,h,rfl⟩
noncomputable abbrev Apf:=[kl NB [1,1,0,1,0,1,1,1,1,1,1,1,1,1,0,1,0,1,0,0],Aza 1,kc NB [1,1,0,1,0,1,1,1,1,1,1,1,1,1,0,1,1],Aza 0,kc NB [1,1,1]]
theorem U1(d:Nat)(l:List Typ)(hd:d<=100)(hl:l.length<=8)(h:∀t∈l,Aa PP 122 [dT t,di d] σ0 (db true) σ0)(n:Nat):∀k:Nat,l.length-k=n->
  Rn PP LL 0 (db true) σ0 ([.lp (sub NB [1,1,0,1,0,1,1,1,1,1,1,1,1,1,0,1,0,1,0,0]),.blk 1,.code (sub NB [1,1,0,1,0,1,1,1,1,1,1,1,1,1,0,1,1]),.blk 0,.code (sub NB [1,1,1])]++[]) (mkE 132 [(1,di ((d+1:Nat):Int)),(2,.v (.ref (vT (.prod l)))),(5,di k)]) σ0:=by
 induction n using Nat.strongRecOn with
 |_ n ih=>
 intro k hn
 refine lv 132 [2] (.b (.e fun t:Typ=>.x (vT t)<|.c (db true)<|.l [ke 1,ke 2,ch 5 (di (k+1:Nat))]) .r) ((decide ((k:Int)<(length (Al6 l):Int))=true->∃a,0<=(k:Int)/\(Al6 l)[Int.toNat (k:Int)]?=some (vT a)/\Aa PP 122 [D.v (vT a),di (wrap i64 ((↑(d+1):Int)-1))] Akz (db true) Akz/\di (wrap i64 ((k:Int)+1))=di (↑(k+1):Int)/\Nv.It (A1 (CN 0) PP (fun env σ1=>Aw PP LL env σ1 (db true) σ0) Apf (mkE 132 [(1,di (↑(d+1):Int)),(Apa l),(5,di (↑(k+1):Int))]) σ0))/\(decide ((k:Int)<(length (Al6 l):Int))=false->Q (db true))) ?_
 rw[show i64.wrap (((d+1:Nat):Int)-1)=d by rw[Al (by omega) (by omega)];omega]
 refine⟨fun h1=>?_,fun h1=>rfl⟩
 have hk:k<l.length:=by simpa[Typ.ps] using h1
 have hx:l[k]?=some l[k]:=H4 hk
 generalize l[k]=t at hx
 exact⟨t,by omega,J7 hx,h t (HA hx),Ad (by omega),⟨ih (l.length- (k+1)) (by omega) (k+1) rfl⟩⟩
theorem KF(d:Nat)(l:List Typ)(hd:d<=100)(h1:((l.length:Int)==0)=false)(h2:decide ((l.length:Int)>8)=false)(h:∀t∈l,Aa PP 122 [dT t,di d] σ0 (db true) σ0):Aa PP 122 [dT (.prod l),di ((d+1:Nat):Int)] σ0 (db true) σ0:=by
 refine sv LL 132 [2] (.f<|.k<|.k<|.k<|.k<|.k<|.k<|.k<|.k<|.k<|.k<|.f<|.f<|.l [ke 1,ke 2,ch 5 (di (0:Nat))]) (((↑(d+1):Int)==0)=false/\decide ((length (Al6 l):Int)<1)=false/\decide ((length (Al6 l):Int)>8)=false/\di 0=di (↑0:Int)/\I0 LL σ0.H.length (db true) σ0 Apf (mkE 132 [(1,di (↑(d+1):Int)),(Apa l),(5,di (↑0:Int))]) σ0) ?_
 have hz:(((d+1:Nat):Int)==0)=false:=Ii.2 (by omega)
 have h3:¬((l.length:Int)>8):=Im h2
 have h4:(l.length:Int)≠0:=by simpa using h1
 refine⟨hz,H8 ?_,by simpa[Typ.ps] using h2,rfl,⟨U1 d l hd (by omega) h _ 0 rfl⟩⟩
 simp only[Typ.ps,H3];omega
theorem Uz(m:Mod)(hm:m.ok):Aa PP 122 [dT (AI m),di 8] σ0 (db true) σ0:=by
 have hg:=hm.good
 simp only[AI,C0,H5,Iv,Ip] at hg
 obtain⟨h1,h2,h3⟩:=hg
 refine KF 7 _ (by omega) h1 h2 fun t ht=>?_
 have hgt:=h3 t ht
 rcases Ij.1 ht with rfl|ht
 ·simp only[C0,H5,HE] at hgt
  exact GD 6 _ hgt.1 hgt.2
 ·have e:=(mem_replicate.1 ht).2
  subst e
  unfold BH at hgt⊢
  split
  ·exact YF 6
  ·rename_i hk
   rw[HL hk] at hgt
   split
   ·rename_i hk2
    rw[HP hk2] at hgt
    simp only[C0,H5,HE] at hgt
    exact Ux 6 _ (by omega) (GD 5 _ hgt.1 hgt.2)
   ·rename_i hk2
    rw[HL hk2] at hgt
    simp only[C0,H5,Ie] at hgt
    exact U0 6 _ _ hgt.1 hgt.2
noncomputable abbrev AcD:Func:= Tryz.f78
theorem TF(m:Mod)(hm:m.ok):Aa PP 78 [dT (AI m)] σ0 (di 0) σ0:=by
 refine sv AcD 6 [1] (.c (db true) .r) (F0 122 [D.v (vT (AI m)),di 8] (db true)/\Q (di 0)) ?_
 exact⟨Uz m hm,rfl⟩
noncomputable abbrev Dm:Func:= Tryz.f80
noncomputable def Cg:Code:=Dm.body.getD .skip
theorem Aas(v:Val):Aa PP 80 [dT .nat,dV v] σ0 (db (Am .nat v)) σ0:=by
 refine sv Dm 169 [2,3] (.k<|.b (.b .r .r) .r) ((decide (v.n>=0)=true->(decide (v.n<=1048576)=true->db ((length (Alj v.kids):Int)==0)=db (Am Typ.nat v))/\(decide (v.n<=1048576)=false->db false=db (Am Typ.nat v)))/\(decide (v.n>=0)=false->db false=db (Am Typ.nat v))) ?_
 refine⟨fun h1=>⟨fun h2=>?_,fun h2=>?_⟩,fun h1=>?_⟩<;>simp_all [Am]<;>(intros;omega)
theorem K0(n:Int)(v:Val):Aa PP 80 [dT (.lab n),dV v] σ0 (db (Am (.lab n) v)) σ0:=by
 refine sv Dm 169 [2,3] (.k<|.k<|.b (.b .r .r) .r) ((decide (v.n>=0)=true->(decide (v.n<Typ.sz (Typ.lab n))=true->db ((length (Alj v.kids):Int)==0)=db (Am (Typ.lab n) v))/\(decide (v.n<Typ.sz (Typ.lab n))=false->db false=db (Am (Typ.lab n) v)))/\(decide (v.n>=0)=false->db false=db (Am (Typ.lab n) v))) ?_
 refine⟨fun h1=>⟨fun h2=>?_,fun h2=>?_⟩,fun h1=>?_⟩<;>(try simp only[Typ.sz,H3] at*)<;>simp only[Am,Cd,h1,Ib,HZ]<;>(by_cases hh:v.n<n<;>simp_all)<;>(intros;omega)
noncomputable abbrev Ani:=[kl Cg Ak2,Aza 3,kc Cg [1,1,1,1]]
theorem Tb(t:Typ)(v:Val)(hv:v.kids.length<=12)(h:∀k∈v.kids,Aa PP 80 [dT t,dV k] σ0 (db (Am t k)) σ0)(n:Nat):∀k:Nat,v.kids.length-k=n->
  Rn PP Dm 0 (db ((v.kids.drop k).all fun x=>Am t x)) σ0 ([.lp (sub Cg [1,1,1,0,1,0,0]),.blk 3,.code (sub Cg [1,1,1,1])]++[]) (mkE 169 [(2,.v (.ref (vTy 4 0 [] [vT t]))),(3,.v (.ref (Af v))),(6,di k)]) σ0:=by
 induction n using Nat.strongRecOn with
 |_ n ih=>
 intro k hn
 refine lv 169 [2,3] (.b (.e fun x:Val=>.x (vT t)<|.x (Af x)<|.c (db (Am t x))<|.b .r (.l [ke 2,ke 3,ch 6 (di (k+1:Nat))])) .r) ((decide ((k:Int)<(length (Alj v.kids):Int))=true->∃a,iz 0<=0/\some (vT t)=some (vT t)/\0<=(k:Int)/\(Alj v.kids)[Int.toNat (k:Int)]?=some (Af a)/\Aa PP 80 [D.v (vT t),dV a] Akz (db (Am t a)) Akz/\((!Am t a)=true->db false=db (List.all (List.drop k v.kids) fun x=>Am t x))/\((!Am t a)=false->di (wrap i64 ((k:Int)+1))=di (↑(k+1):Int)/\Nv.It (A1 (CN 0) PP (fun env σ1=>Aw PP Dm env σ1 (db (List.all (List.drop k v.kids) fun x=>Am t x)) σ0) Ani (mkE 169 [(2,D.v (Azo (vTy 4 0 [] [vT t]))),(Als v),(6,di (↑(k+1):Int))]) Akz)))/\(decide ((k:Int)<(length (Alj v.kids):Int))=false->db true=db (List.all (List.drop k v.kids) fun x=>Am t x))) ?_
 refine⟨fun h1=>?_,fun h1=>?_⟩
 ·have hk:k<v.kids.length:=by simpa using h1
  have hx:v.kids[k]?=some v.kids[k]:=H4 hk
  rw[HJ hk]
  generalize v.kids[k]=x at hx⊢
  refine⟨x,by decide,rfl,by omega,As hx,h x (HA hx),fun h2=>?_,fun h2=>⟨Ad (by omega),⟨?_⟩⟩⟩
  ·have h2:Am t x=false:=by simpa using h2
   rw[all_cons,h2,HZ]
  ·have h2:Am t x=true:=by simpa using h2
   rw[all_cons,h2,Ib]
   exact ih (v.kids.length- (k+1)) (by omega) (k+1) rfl
 ·have hk:v.kids.length<=k:=by simpa using h1
  rw[HO hk];rfl
theorem W2(t:Typ)(v:Val)(h:∀k∈v.kids,Aa PP 80 [dT t,dV k] σ0 (db (Am t k)) σ0):Aa PP 80 [dT (.word t),dV v] σ0 (db (Am (.word t) v)) σ0:=by
 rw[dT,KG]
 refine sv Dm 169 [2,3] (.k<|.k<|.k<|.k<|.b .r (.b .r (.l [ke 2,ke 3,ch 6 (di (0:Nat))]))) (((v.n !=0)=true->db false=db (Am (Typ.word t) v))/\((v.n !=0)=false->(decide ((length (Alj v.kids):Int)>12)=true->db false=db (Am (Typ.word t) v))/\(decide ((length (Alj v.kids):Int)>12)=false->di 0=di (↑0:Int)/\I0 Dm σ0.H.length (db (Am (Typ.word t) v)) σ0 Ani (mkE 169 [(2,D.v (Azo (vTy 4 0 [] [vT t]))),(Als v),(6,di (↑0:Int))]) σ0))) ?_
 refine⟨fun h1=>?_,fun h1=>⟨fun h2=>?_,fun h2=>⟨rfl,⟨?_⟩⟩⟩⟩
 ·have h1:(v.n==0)=false:=by simpa using h1
  simp only[Am,h1,HZ]
 ·have h2:¬((v.kids.length:Int)<=12):=by simpa using h2
  simp only[Am,H8 h2,HZ,IY]
 ·have h1:(v.n==0)=true:=by simpa using h1
  have h2:(v.kids.length:Int)<=12:=by simpa using h2
  simp only[Am,h1,H6 h2,Ib]
  exact Tb t v (by omega) h _ 0 rfl
theorem Tc(sz:Int)(r:List Int)(v:Val)(hv:v.kids.length<=12)(n:Nat):∀k:Nat,v.kids.length-k=n->
  Rn PP Dm 0 (db ((v.kids.drop k).all fun x=>Cd sz x)) σ0 ([.lp (sub Cg [1,1,1,0,1,0,0]),.blk 3,.code (sub Cg [1,1,1,1])]++[]) (mkE 169 [(2,.v (.ref (vT (.prio sz r)))),(3,.v (.ref (Af v))),(6,di k)]) σ0:=by
 induction n using Nat.strongRecOn with
 |_ n ih=>
 intro k hn
 refine lv 169 [2,3] (.b (.e fun x:Val=>.k<|.h (.xs (Af x))<|.b .r (.h (.xs (Af x))<|.b .r (.h (.xs (Af x))<|.b .r (.l [ke 2,ke 3,ch 6 (di (k+1:Nat))])))) .r) ((decide ((k:Int)<(length (Alj v.kids):Int))=true->∃a,2=2/\0<=(k:Int)/\(Alj v.kids)[Int.toNat (k:Int)]?=some (Af a)/\(decide (a.n<0)=true->db false=db (List.all (List.drop k v.kids) fun x=>Cd sz x))/\(decide (a.n<0)=false->2=2/\0<=(k:Int)/\(Alj v.kids)[Int.toNat (k:Int)]?=some (Af a)/\(decide (a.n>=Typ.sz (Aqq sz r))=true->db false=db (List.all (List.drop k v.kids) fun x=>Cd sz x))/\(decide (a.n>=Typ.sz (Aqq sz r))=false->2=2/\0<=(k:Int)/\(Alj v.kids)[Int.toNat (k:Int)]?=some (Af a)/\(decide ((length (Alj a.kids):Int)>0)=true->db false=db (List.all (List.drop k v.kids) fun x=>Cd sz x))/\(decide ((length (Alj a.kids):Int)>0)=false->di (wrap i64 ((k:Int)+1))=di (↑(k+1):Int)/\Nv.It (A1 (CN 0) PP (fun env σ1=>Aw PP Dm env σ1 (db (List.all (List.drop k v.kids) fun x=>Cd sz x)) σ0) Ani (mkE 169 [(2,D.v (Azo (vT (Aqq sz r)))),(Als v),(6,di (↑(k+1):Int))]) Akz)))))/\(decide ((k:Int)<(length (Alj v.kids):Int))=false->db true=db (List.all (List.drop k v.kids) fun x=>Cd sz x))) ?_
 refine⟨fun h1=>?_,fun h1=>?_⟩
 ·have hk:k<v.kids.length:=by simpa using h1
  have hx:v.kids[k]?=some v.kids[k]:=H4 hk
  rw[HJ hk]
  generalize v.kids[k]=x at hx⊢
  refine⟨x,rfl,by omega,As hx,fun h2=>?_,fun h2=>⟨rfl,by omega,As hx,fun h3=>?_,fun h3=>⟨rfl,by omega,As hx,fun h4=>?_,fun h4=>⟨Ad (by omega),⟨?_⟩⟩⟩⟩⟩
  ·have h2:¬(x.n>=0):=by have:=HF h2;omega
   rw[all_cons,Cd,H8 h2,HZ,HZ]
  ·have h3:¬(x.n<sz):=by have:=HF h3;simp only[Typ.sz] at this;omega
   rw[all_cons,Cd,H8 h3,HZ,IY,HZ]
  ·have h4:((x.kids.length:Int)==0)=false:=by have:=HF h4;rw[H3] at this;exact Ii.2 (by omega)
   rw[all_cons,Cd,h4,IY,IY,HZ]
  ·have h2:x.n>=0:=by have:=Im h2;omega
   have h3:x.n<sz:=by have:=Im h3;simp only[Typ.sz] at this;omega
   have h4:((x.kids.length:Int)==0)=true:=by have:=Im h4;rw[H3] at this;exact Ie.2 (by omega)
   rw[all_cons,Cd,H6 h2,H6 h3,h4,Ib,Ib,Ib]
   exact ih (v.kids.length- (k+1)) (by omega) (k+1) rfl
 ·have hk:v.kids.length<=k:=by simpa using h1
  rw[HO hk];rfl
theorem W5(sz:Int)(r:List Int)(v:Val):Aa PP 80 [dT (.prio sz r),dV v] σ0 (db (Am (.prio sz r) v)) σ0:=by
 refine sv Dm 169 [2,3] (.k<|.k<|.k<|.k<|.b .r (.b .r (.l [ke 2,ke 3,ch 6 (di (0:Nat))]))) (((v.n !=0)=true->db false=db (Am (Aqq sz r) v))/\((v.n !=0)=false->(decide ((length (Alj v.kids):Int)>12)=true->db false=db (Am (Aqq sz r) v))/\(decide ((length (Alj v.kids):Int)>12)=false->di 0=di (↑0:Int)/\I0 Dm σ0.H.length (db (Am (Aqq sz r) v)) σ0 Ani (mkE 169 [(2,D.v (Azo (vT (Aqq sz r)))),(Als v),(6,di (↑0:Int))]) σ0))) ?_
 refine⟨fun h1=>?_,fun h1=>⟨fun h2=>?_,fun h2=>⟨rfl,⟨?_⟩⟩⟩⟩
 ·have h1:(v.n==0)=false:=by simpa using h1
  simp only[Am,h1,HZ]
 ·have h2:¬((v.kids.length:Int)<=12):=by simpa using h2
  simp only[Am,H8 h2,HZ,IY]
 ·have h1:(v.n==0)=true:=by simpa using h1
  have h2:(v.kids.length:Int)<=12:=by simpa using h2
  simp only[Am,h1,H6 h2,Ib]
  exact Tc sz r v (by omega) _ 0 rfl
noncomputable abbrev Aqf:=[kl Cg [1,0,1,0,1,1,1,1,1,1,1,0,1,0,1,0,0],Aza 1,kc Cg [1,0,1,0,1,1,1,1,1,1,1,0,1,1],Aza 0,kc Cg [1,1]]
theorem Td(l:List Typ)(v:Val)(hl:v.kids.length=l.length)(hv:v.kids.length<=1000000)(h:∀t∈l,∀k∈v.kids,Aa PP 80 [dT t,dV k] σ0 (db (Am t k)) σ0)(n:Nat):∀k:Nat,l.length-k=n->
  Rn PP Dm 0 (db (AW (l.drop k) (v.kids.drop k))) σ0 ([.lp (sub Cg [1,0,1,0,1,1,1,1,1,1,1,0,1,0,1,0,0]),.blk 1,.code (sub Cg [1,0,1,0,1,1,1,1,1,1,1,0,1,1]),.blk 0,.code (sub Cg [1,1])]++[]) (mkE 169 [(2,.v (.ref (vT (.prod l)))),(3,.v (.ref (Af v))),(5,di k)]) σ0:=by
 induction n using Nat.strongRecOn with
 |_ n ih=>
 intro k hn
 refine lv 169 [2,3] (.b (.e fun t:Typ=>.x (vT t)<|.e fun x:Val=>.x (Af x)<|.c (db (Am t x))<|.b .r (.l [ke 2,ke 3,ch 5 (di (k+1:Nat))])) .r) ((decide ((k:Int)<(length (map eV v.kids):Int))=true->∃a,0<=(k:Int)/\(map eT (Typ.ps (Typ.prod l)))[Int.toNat (k:Int)]?=some (vT a)/\∃a_1,0<=(k:Int)/\(map eV v.kids)[Int.toNat (k:Int)]?=some (Af a_1)/\Aa PP 80 [D.v (vT a),dV a_1] (Azd [] []) (db (Am a a_1)) (Azd [] [])/\((!Am a a_1)=true->db false=db (AW (List.drop k l) (List.drop k v.kids)))/\((!Am a a_1)=false->di (wrap i64 ((k:Int)+1))=di (↑(k+1):Int)/\Nv.It (A1 (CN 0) PP (fun env σ1=>Aw PP Dm env σ1 (db (AW (List.drop k l) (List.drop k v.kids))) σ0) [kl Cg [1,0,1,0,1,1,1,1,1,1,1,0,1,0,1,0,0],Aza 1,kc Cg [1,0,1,0,1,1,1,1,1,1,1,0,1,1],Aza 0,kc Cg [1,1]] (mkE 169 [(2,D.v (Azo (vT (Typ.prod l)))),(3,D.v (Azo (Af v))),(5,di (↑(k+1):Int))]) (Azd [] []))))/\(decide ((k:Int)<(length (map eV v.kids):Int))=false->db true=db (AW (List.drop k l) (List.drop k v.kids)))) ?_
 refine⟨fun h1=>?_,fun h1=>?_⟩
 ·have hk:k<v.kids.length:=by simpa using h1
  have hk2:k<l.length:=by omega
  have hx:v.kids[k]?=some v.kids[k]:=H4 hk
  have hy:l[k]?=some l[k]:=H4 hk2
  rw[HJ hk,HJ hk2]
  generalize v.kids[k]=x at hx⊢
  generalize l[k]=t at hy⊢
  refine⟨t,by omega,J7 hy,x,by omega,As hx,h t (HA hy) x (HA hx),fun h2=>?_,fun h2=>⟨Ad (by omega),⟨?_⟩⟩⟩
  ·have h2:Am t x=false:=by simpa using h2
   simp only[AW,h2,HZ]
  ·have h2:Am t x=true:=by simpa using h2
   simp only[AW,h2,Ib]
   exact ih (l.length- (k+1)) (by omega) (k+1) rfl
 ·have hk:v.kids.length<=k:=by simpa using h1
  rw[HO hk,HO (by omega)];simp only[AW]
theorem Lo(l:List Typ)(v:Val)(hv:v.size<=1000000)(h:∀t∈l,∀k∈v.kids,Aa PP 80 [dT t,dV k] σ0 (db (Am t k)) σ0):Aa PP 80 [dT (.prod l),dV v] σ0 (db (Am (.prod l) v)) σ0:=by
 refine sv Dm 169 [2,3] (.k<|.k<|.k<|.k<|.b .r (.b .r (.l [ke 2,ke 3,ch 5 (di (0:Nat))]))) (((v.n !=0)=true->db false=db (Am (Typ.prod l) v))/\((v.n !=0)=false->(((length (Alj v.kids):Int) !=(length (Al6 l):Int))=true->db false=db (Am (Typ.prod l) v))/\(((length (Alj v.kids):Int) !=(length (Al6 l):Int))=false->di 0=di (↑0:Int)/\I0 Dm σ0.H.length (db (Am (Typ.prod l) v)) σ0 Aqf (mkE 169 [(Apa l),(Als v),(5,di (↑0:Int))]) σ0))) ?_
 have hlen:=Val.length_le v.kids
 have hsz:=Val.size_eq v
 refine⟨fun h1=>?_,fun h1=>⟨fun h2=>?_,fun h2=>⟨rfl,⟨?_⟩⟩⟩⟩
 ·have h1:(v.n==0)=false:=by simpa using h1
  simp only[Am,h1,HZ]
 ·have h2:((v.kids.length:Int)==l.length)=false:=by simpa[Typ.ps] using h2
  simp only[Am,h2,HZ,IY]
 ·have h1:(v.n==0)=true:=by simpa using h1
  have h2:(v.kids.length:Int)=l.length:=by simpa[Typ.ps] using h2
  have h3:((v.kids.length:Int)==l.length)=true:=by simpa using h2
  simp only[Am,h1,h3,Ib]
  exact Td l v (by omega) (by omega) h _ 0 rfl
theorem Aat(m:Mod)(v:Val):Aa PP 80 [dT (BH m),dV v] σ0 (db (Am (BH m) v)) σ0:=by
 unfold BH
 split
 ·exact Aas v
 ·split
  ·exact W2 _ v fun k _=>K0 _ k
  ·exact W5 _ _ v
theorem W4(m:Mod)(v:Val)(hv:v.size<=1000000):Aa PP 80 [dT (AI m),dV v] σ0 (db (Am (AI m) v)) σ0:=
 Lo _ v hv fun t ht k _=>by
  rcases Ij.1 ht with rfl|ht
  ·exact K0 _ k
  ·rw[(mem_replicate.1 ht).2];exact Aat m k
noncomputable abbrev Ac3:Func:= Tryz.f46
theorem S0(m:Mod)(hm:m.ok)(v:Val)(hv:v.size<=1000000):Aa PP 46 [dT (AI m),dV v] σ0 (db (Aj (AI m) v)) σ0:=by
 refine sv Ac3 18 [2,3] (.c (di 0)<|.c (di (min (v.size:Int) 129))<|.b (.c (db (Am (AI m) v)) .r) .r) (F0 78 [D.v (vT (AI m))] (di 0)/\F0 79 [dV v,di 128] (di (min (↑(Val.size v):Int) 129))/\(decide (min (↑(Val.size v):Int) 129<=128)=true->F0 80 [D.v (vT (AI m)),dV v] (db (Am (AI m) v))/\db (Am (AI m) v)=db (Aj (AI m) v))/\(decide (min (↑(Val.size v):Int) 129<=128)=false->db false=db (Aj (AI m) v))) ?_
 refine⟨TF m hm,LR _ v (HB _) hv 128 (by decide) (by decide),fun h1=>⟨W4 m v hv,?_⟩,fun h1=>?_⟩
 ·have h1:=HF h1
  rw[Aj,H6 (show(v.size:Int)<=128 by rw[I3] at h1;split at h1<;>omega),Ib]
 ·have h1:=Im h1
  rw[Aj,H8 (show ¬(v.size:Int)<=128 by rw[I3] at h1;split at h1<;>omega),HZ]
noncomputable abbrev Gv:Func:= Tryz.f18
noncomputable def Ez:Code:=Gv.body.getD .skip
noncomputable abbrev An9:=[kl Ez [1,1,1,1,1,0,1,0,0],Aza 0,kc Ez [1,1,1,1,1,1]]
theorem TE(m:Mod)(hm:m.ok)(n:Nat):∀k:Nat,m.rules.length-k=n->
  Rn PP Gv 0 (di 0) σ0 ([.lp (sub Ez [1,1,1,1,1,0,1,0,0]),.blk 0,.code (sub Ez [1,1,1,1,1,1])]++[]) (mkE 52 [(1,.v (.ref (A8 m))),(3,di k)]) σ0:=by
 induction n using Nat.strongRecOn with
 |_ n ih=>
 intro k hn
 refine lv 52 [1] (.b (.e fun r:Rul=>.x (Ak r)<|.c (db true)<|.l [ke 1,ch 3 (di (k+1:Nat))]) (.f<|.c (dT (AI m))<|.c (db true) .r)) ((decide ((k:Int)<(length (Aps m.rules):Int))=true->∃a,0<=(k:Int)/\(Aps m.rules)[Int.toNat (k:Int)]?=some (Ak a)/\Aa PP 45 [Ag m,Cl a] Akz (db true) Akz/\di (wrap i64 ((k:Int)+1))=di (↑(k+1):Int)/\Nv.It (A1 (CN 0) PP (fun env σ1=>Aw PP Gv env σ1 (di 0) σ0) An9 (mkE 52 [(Aot m),(3,di (↑(k+1):Int))]) Akz))/\(decide ((k:Int)<(length (Aps m.rules):Int))=false->(m.kind==6)=false/\F0 47 [Ag m] (dT (AI m))/\F0 46 [D.v (vT (AI m)),dV m.start] (db true)/\Q (di 0))) ?_
 have hsz:=hm.sz
 refine⟨fun h=>?_,fun h=>⟨by rcases hm.kind with h|h|h<;>rw[h]<;>rfl,UK m hm,?_,rfl⟩⟩
 ·have hk:k<m.rules.length:=by simpa using h
  have hx:m.rules[k]?=some m.rules[k]:=H4 hk
  generalize m.rules[k]=r at hx
  exact⟨r,by omega,Aq hx,V0 m hm r (HA hx),Ad (by omega),⟨ih (m.rules.length- (k+1)) (by omega) (k+1) rfl⟩⟩
 ·have:=S0 m hm m.start hm.ssize
  rw[hm.start] at this
  exact this
theorem JI(m:Mod)(hm:m.ok):Aa PP 18 [Ag m] σ0 (di 0) σ0:=by
 refine sv Gv 52 [1] (.c (db true)<|.c (db true)<|.c (db true)<|.c (db true)<|.l [ke 1,ch 3 (di (0:Nat))]) (F0 41 [di m.kind,di 1,di 6] (db true)/\F0 42 [Ag m] (db true)/\F0 43 [Ag m] (db true)/\F0 44 [Ag m] (db true)/\di 0=di (↑0:Int)/\I0 Gv σ0.H.length (di 0) σ0 An9 (mkE 52 [(Aot m),(3,di (↑0:Int))]) σ0) ?_
 refine⟨?_,Tf m hm,SI m hm,Th m hm,rfl,⟨TE m hm _ 0 rfl⟩⟩
 have:=Ch m.kind 1 6
 rwa[show Av m.kind 1 6=true by rcases hm.kind with h|h|h<;>rw[h]<;>rfl] at this
abbrev vBs(l:List UInt8):V:=.list (l.map vb)
abbrev cDz(l:List UInt8)(a:Nat):List D:=[.v (vBs l),di a]
abbrev dz(l:List UInt8)(a:Nat):St:=⟨[some (cDz l a)],[]⟩
noncomputable abbrev Agy:Func:= Tryz.f8
noncomputable abbrev Am4:=fun a₀ b₀=>[some (cDz a₀ b₀)]
theorem Ax(l:List UInt8)(hl:l.length<=200)(a:Nat)(ha:a<=l.length)(n:Int)(hn:1<=n)(hn2:n<=1000):
  ∃(r:Int) (a':Nat),0<=r/\r<n/\a'<=l.length/\Aa PP 8 [.ptr 0 0,di n] (dz l a) (di r) (dz l a'):=by
 by_cases h:a<l.length
 ·refine⟨(l[a].toNat:Int)%n,a+1,Int.emod_nonneg _ (by omega),Int.emod_lt_of_pos _ (by omega),h,?_⟩
  refine sv Agy 36 [] (.f<|.x (vb l[a]) .r) ((True/\True/\True)/\decide ((a:Int)>=(length (map vb l):Int))=false/\0<=wrap i64 (wrap i64 ((a:Int)+1)-1)/\(map vb l)[Int.toNat (wrap i64 (wrap i64 ((a:Int)+1)-1))]?=some (V.int IntKind.u8 (↑(UInt8.toNat l[a]):Int))/\n≠0/\(True/\True/\True)/\[some [D.v (vBs l),di (wrap i64 ((a:Int)+1))]]=[some (cDz l (a+1))]/\di (Int.tmod (wrap i64 (↑(UInt8.toNat l[a]):Int)) n)=di ((↑(UInt8.toNat l[a]):Int)%n)) ?_
  have hx:l[a]?=some l[a]:=H4 h
  have hb:l[a].toNat<256:=UInt8.toNat_lt _
  generalize l[a]=c at hx hb
  rw[show i64.wrap (i64.wrap ((a:Int)+1)-1)=a by rw[Al (n:=(a:Int)+1) (by omega) (by omega),Al (by omega) (by omega)];omega]
  refine⟨⟨trivial,trivial,trivial⟩,by rw[H3];exact H8 (by omega),by omega,Aq hx,by omega,⟨trivial,trivial,trivial⟩,?_,?_⟩
  ·rw[Al (by omega) (by omega)];rfl
  ·rw[Al (by omega) (by omega),Int.tmod_eq_emod_of_nonneg (by omega)]
 ·refine⟨0,a,by omega,by omega,ha,?_⟩
  refine sv Agy 36 [] (.t .r) ((True/\True/\True)/\decide ((a:Int)>=(length (map vb l):Int))=true/\Q (Am4 l a)/\Q (di 0)) ?_
  exact⟨⟨trivial,trivial,trivial⟩,by rw[H3];exact H6 (by omega),rfl,rfl⟩
noncomputable abbrev Xd:Func:= Tryz.f48
noncomputable def TQ:Code:=Xd.body.getD .skip
abbrev AfJ(l:List UInt8)(a:Nat)(xs:List Int):St:=⟨[some (cDz l a)],[(1,1,xs.map vi)]⟩
noncomputable abbrev Ald:=(0,Azb 0 0)
theorem WO(l:List UInt8)(hl:l.length<=200)(n:Nat)(hn:n<=100)(most:Int)(hm:0<=most)(hm2:most<=100)(N:Nat):∀(k:Nat) (a:Nat) (xs:List Int),n-k=N->k<=n->a<=l.length->xs.length=k->(∀x∈xs,0<=x/\x<=most)->
  ∃(ys:List Int) (a':Nat),a'<=l.length/\ys.length=n/\(∀x∈ys,0<=x/\x<=most)/\
  Rn PP Xd 1 (dIs ys) (dz l a') ([.lp (sub TQ [1,1,0,1,0,0]),.blk 0,.code (sub TQ [1,1,1])]++[]) (mkE 22 [(0,.ptr 0 0),(1,di n),(2,di most),(7,.acc 1 (xs.map vi)),(8,di k)]) (AfJ l a xs):=by
 induction N with
 |zero=>
  intro k a xs hk hk0 ha hx hxs
  by_cases hkn:k=n
  ·refine⟨xs,a,ha,by omega,hxs,?_⟩
   refine lv 22 [] (.f .r) (decide ((k:Int)<(n:Int))=false/\Q (Am4 l a)/\D.v (Aqp xs)=dIs xs) ?_
   exact⟨H8 (by omega),rfl,rfl⟩
  ·exact absurd hk0 (by omega)
 |succ N ih=>
  intro k a xs hk hk0 ha hx hxs
  obtain⟨r,a1,h1,h2,h3,h4⟩:=Ax l hl a ha (most+1) (by omega) (by omega)
  obtain⟨ys,a',h5,h6,h7,h8⟩:=ih (k+1) a1 (xs++[r]) (by omega) (by omega) h3 (by simp[hx]) (fun x hx=>by
   rcases Iq.1 hx with hx|hx
   ·exact hxs x hx
   ·rw[HK.1 hx];omega)
  refine⟨ys,a',h5,h6,h7,?_⟩
  refine lv 22 [] (.t<|.c1 (cDz l a1) (di r)<|.ls [ke 0,ke 1,ke 2,ch 7 (.acc 1 ((xs++[r]).map vi)),ch 8 (di (k+1:Nat))] (AfJ l a1 (xs++[r]))) (decide ((k:Int)<(n:Int))=true/\Aa PP 8 [Azb 0 0,di (wrap i64 (most+1))] (dz l a) (di r) (dz l a1)/\Q (map vi xs)/\Ar (length (map vi xs)+length (V.int i64 r::nV)) 8/\Azc 1 (map vi xs++[vi r])=Azc 1 (map vi (xs++[r]))/\di (wrap i64 ((k:Int)+1))=di (↑(k+1):Int)/\Q (Am4 l a1)/\[(1,1,map vi xs++vi r::nV)]=[(1,1,map vi (xs++[r]))]/\I0 Xd 1 (dIs ys) (dz l a') [kl TQ Akw,Aza 0,kc TQ [1,1,1]] (mkE 22 [Ald,(1,di (n:Int)),(2,di most),(7,Azc 1 (map vi (xs++[r]))),(8,di (↑(k+1):Int))]) (AfJ l a1 (xs++[r]))) ?_
  refine⟨H6 (by omega),?_,rfl,⟨?_,?_⟩,by simp,Ad (by omega),rfl,by simp,⟨h8⟩⟩
  ·rw[Al (by omega) (by omega)];exact h4
  ·simp only[H3,H9,HD];omega
  ·simp only[H3,H9,HD];omega
theorem Fk(l:List UInt8)(hl:l.length<=200)(a:Nat)(ha:a<=l.length)(n:Nat)(hn:n<=100)(most:Int)(hm:0<=most)(hm2:most<=100):
  ∃(ys:List Int) (a':Nat),a'<=l.length/\ys.length=n/\(∀x∈ys,0<=x/\x<=most)/\Aa PP 48 [.ptr 0 0,di n,di most] (dz l a) (dIs ys) (dz l a'):=by
 obtain⟨ys,a',h1,h2,h3,h4⟩:=WO l hl n hn most hm hm2 _ 0 a [] rfl (by omega) ha rfl (by simp)
 refine⟨ys,a',h1,h2,h3,?_⟩
 refine sv Xd 22 [] (.h (.q 2 0)<|.h (.nw 7 1 1)<|.ls [ke 0,ke 1,ke 2,ke 7,ch 8 (di (0:Nat))] (AfJ l a [])) (di 0=di (↑0:Int)/\Q (Am4 l a)/\Q [(1,1,nV)]/\I0 Xd (length (dz l a).H) (dIs ys) (dz l a') [kl TQ Akw,Aza 0,kc TQ [1,1,1]] (mkE 22 [Ald,(1,di (n:Int)),(2,di most),(7,Azc 1 []),(8,di (↑0:Int))]) (AfJ l a [])) ?_
 exact⟨rfl,rfl,rfl,⟨h4⟩⟩
noncomputable abbrev OZ:Func:= Tryz.f49
noncomputable def My:Code:=OZ.body.getD .skip
abbrev Yr(s:Int)(xs:List Val):St:=⟨[some [di 0,.v .nils],some [di 0,.acc 1 (xs.map eV)]],[(1,2,xs.map eV)]⟩
def C5(s:Int)(l:List Int):Val:=.mk 0 (.mk s []::l.map fun x=>.mk x [])
noncomputable abbrev Amb:=fun a₀=>(vi a₀::Azf nV::nV)
theorem TJ(l:List Int)(hl:l.length<=1000)(s:Int)(n:Nat):∀(k:Nat) (xs:List Val),l.length-k=n->xs.length=k+1->
  Rn PP OZ 0 (dV (.mk 0 (xs++(l.drop k).map fun x=>.mk x []))) σ0 ([.lp (sub My [1,1,0,1,0,0]),.blk 0,.code (sub My [1,1,1])]++[]) (mkE 28 [(1,dIs l),(4,.ptr 0 0),(5,.ptr 1 0),(6,di k)]) (Yr s xs):=by
 induction n with
 |zero=>
  intro k xs hk hx
  refine lv 28 [] (.f .r) (decide ((k:Int)<(length (map vi l):Int))=false/\D.v (Azh [vi 0,Azf (map eV xs)])=dV (Val.mk 0 (xs++map (fun x=>Val.mk x []) (List.drop k l)))) ?_
  refine⟨by rw[H3];exact H8 (by omega),?_⟩
  rw[HO (by omega),I1,Is];rfl
 |succ n ih=>
  intro k xs hk hxl
  refine lv 28 [] (.t<|.e fun x:Int=>.x (vi x)<|.ls [ke 1,ke 4,ke 5,ch 6 (di (k+1:Nat))] (Yr s (xs++[.mk x []]))) (decide ((k:Int)<(length (map vi l):Int))=true/\∃a,0<=(k:Int)/\(map vi l)[Int.toNat (k:Int)]?=some (vi a)/\Q (map eV xs)/\Ar (length (map eV xs)+length (Azh (Amb a)::nV)) 32/\(True/\True)/\di (wrap i64 ((k:Int)+1))=di (↑(k+1):Int)/\[some [di 0,dn],some [di 0,Azc 1 (map eV xs++Azh (Amb a)::nV)]]=[some [di 0,dn],some [di 0,Azc 1 (map eV (xs++[Val.mk a []]))]]/\[(1,2,map eV xs++Azh (Amb a)::nV)]=[(1,2,map eV (xs++[Val.mk a []]))]/\I0 OZ 0 (dV (Val.mk 0 (xs++map (fun x=>Val.mk x []) (List.drop k l)))) σ0 [kl My Akw,Aza 0,kc My [1,1,1]] (mkE 28 [(1,dIs l),(4,Azb 0 0),(5,Azb 1 0),(6,di (↑(k+1):Int))]) (Yr s (xs++[Val.mk a []]))) ?_
  have hk1:k<l.length:=by omega
  have hx:l[k]?=some l[k]:=H4 hk1
  rw[HJ hk1]
  generalize l[k]=x at hx⊢
  have h:=ih (k+1) (xs++[.mk x []]) (by omega) (by simp[hxl])
  rw[IA] at h
  refine⟨by rw[H3];exact H6 (by omega),x,by omega,Aq hx,rfl,⟨?_,?_⟩,⟨trivial,trivial⟩,Ad (by omega),?_,?_,⟨h⟩⟩
  ·simp only[H3,H9,HD];omega
  ·simp only[H3,H9,HD];omega
  ·rw[←BB];rfl
  ·rw[←BB];rfl
noncomputable abbrev Alz:=fun a₀=>(Val.mk a₀ [])
theorem JJ(l:List Int)(hl:l.length<=1000)(s:Int):Aa PP 49 [di s,dIs l] σ0 (dV (C5 s l)) σ0:=by
 refine sv OZ 28 [] (.a 1<|.h .g<|.ls [ke 1,ke 4,ke 5,ch 6 (di (0:Nat))] (Yr s [.mk s []])) (di 0=di (↑0:Int)/\[some [di 0,dn],some [di 0,Azc 1 (Azh (Amb s)::nV)]]=[some [di 0,dn],some [di 0,Azc 1 (eV (Alz s)::nV)]]/\[(1,2,Azh (Amb s)::nV)]=[(1,2,eV (Alz s)::nV)]/\I0 OZ σ0.H.length (dV (C5 s l)) σ0 [kl My Akw,Aza 0,kc My [1,1,1]] (mkE 28 [(1,dIs l),(4,Azb 0 0),(5,Azb 1 0),(6,di (↑0:Int))]) (Yr s [Val.mk s []])) ?_
 exact⟨rfl,rfl,rfl,⟨TJ l hl s _ 0 [.mk s []] rfl rfl⟩⟩
abbrev dl3:List (List UInt8):=[[114],[115],[116]]
def mkR(nm:List UInt8)(f t:Int)(nd gv:List Int):Rul:=⟨nm,f,t,nd,gv,[],0,0,0,[],[],[],[],0⟩
abbrev cM(S Pl:List (List UInt8))(rs:List Rul):List D:=[di 1,.v (vSs S),.v (vSs Pl),.v .nils,.v .nils,di 0,di 0,.acc 2 (rs.map Ak),di 0,.v .nils]
abbrev zM:List D:=[di 0,.v .nils,.v .nils,.v .nils,.v .nils,di 0,di 0,.v .nils,di 0,.v .nils]
abbrev stC(l:List UInt8)(a:Nat)(S Pl:List (List UInt8))(rs:List Rul):St:=⟨[some (cDz l a),some zM,some (cM S Pl rs)],[(2,14,rs.map Ak)]⟩
structure Aca(ns np:Nat)(k:Nat)(r:Rul):Prop where
 name:dl3[k]?=some r.name
 frm:0<=r.frm/\r.frm<ns
 to:0<=r.to/\r.to<ns
 need:r.need.length=np/\∀x∈r.need,0<=x/\x<=2
 give:r.give.length=np/\∀x∈r.give,0<=x/\x<=2
 rest:r=mkR r.name r.frm r.to r.need r.give
structure Q2(m:Mod):Prop where
 kind:m.kind=1
 states:m.states=[[97]]∨m.states=[[97],[98]]
 places:m.places=[[120]]∨m.places=[[120],[121]]
 letters:m.letters=[]
 ranks:m.ranks=[]
 levels:m.levels=0
 age:m.age=0
 count:m.rules.length<=3
 rules:∀k r,m.rules[k]?=some r->Aca m.states.length m.places.length k r
 start:∃ys:List Int,ys.length=m.places.length/\(∀x∈ys,0<=x/\x<=3)/\m.start=C5 0 ys
theorem AL(rs:List Rul)(r:Rul):rs.map Ak++[Ak r]=(rs++[r]).map Ak:=by simp
noncomputable abbrev Xe:Func:= Tryz.f19
noncomputable def Px:Code:=Xe.body.getD .skip
noncomputable abbrev Ak3:=fun (a₀:Nat) b₀ c₀ d₀ e₀=>Aa PP 48 [Azb 0 0,di (a₀:Int),di 2] (dz b₀ c₀) (dIs d₀) (dz b₀ e₀)
noncomputable abbrev Ak7:=fun a₀ b₀ c₀ d₀=>Aa PP 8 [Azb 0 0,di 3] (dz a₀ b₀) (di c₀) (dz a₀ d₀)
noncomputable abbrev Ako:=fun a₀=>(some [D.v (vSs a₀)])
noncomputable abbrev Alb:=fun a₀ b₀ c₀ d₀ e₀=>Aa PP 8 [Azb 0 0,di (length (Aks a₀):Int)] (dz b₀ c₀) (di d₀) (dz b₀ e₀)
noncomputable abbrev Alf:=fun a₀=>(2,14,map Ak a₀)
noncomputable abbrev Aml:=fun a₀ b₀ c₀ d₀ e₀=>(Azg a₀::vi b₀::vi c₀::vIs d₀::vIs e₀::Azf nV::vi 0::vi 0::vi 0::Azf nV::Azf nV::Azf nV::Azf nV::vi 0::nV)
noncomputable abbrev Amm:=fun a₀ b₀ c₀ d₀ e₀=>[some (cDz a₀ b₀),some zM,some (cM c₀ d₀ e₀),some zRl]
noncomputable abbrev Ano:=(Aze #[114])
noncomputable abbrev Ant:=fun a₀ b₀ c₀ d₀ e₀=>(Azh [vi 1,Azf (Aks a₀),Azf (Aks b₀),Azf [],Azf [],vi 0,vi 0,Azf (map Ak c₀),vi d₀,Azf (Alj e₀)])
noncomputable abbrev An4:=[kl Px Ak2,Aza 0,kc Px [1,1,1,1]]
noncomputable abbrev An8:=(Aze #[115])
noncomputable abbrev Aoq:=fun a₀ b₀ c₀ d₀ e₀=>(Azh (Azg a₀::V.int i64 b₀::V.int i64 c₀::vIs d₀::vIs e₀::Azf nV::V.int i64 0::V.int i64 0::V.int i64 0::Azf nV::Azf nV::Azf nV::Azf nV::V.int i64 0::nV)::nV)
noncomputable abbrev Ap1:=fun a₀=>[ke 0,ke 1,ke 4,ke 5,ke 6,ch 7 (di (a₀+1:Nat))]
noncomputable abbrev Are:=(Aze #[116])
noncomputable abbrev Arf:=(5,Azb 2 0)
noncomputable abbrev Arg:=(4,Azb 1 0)
theorem Abr(l:List UInt8)(hl:l.length<=200)(S Pl:List (List UInt8))(hS:S=[[97]]∨S=[[97],[98]])(hP:Pl=[[120]]∨Pl=[[120],[121]])(n:Nat):∀(k a:Nat) (rs:List Rul),3-k=n->a<=l.length->k<=3->rs.length=k->(∀i r,rs[i]?=some r->Aca S.length Pl.length i r)->
  ∃(m:Mod) (a':Nat),Q2 m/\a'<=l.length/\Rn PP Xe 1 (Ag m) (dz l a') ([.lp (sub Px [1,1,1,0,1,0,0]),.blk 0,.code (sub Px [1,1,1,1])]++[]) (mkE 85 [(0,.ptr 0 0),(1,db false),(4,.ptr 1 0),(5,.ptr 2 0),(6,di Pl.length),(7,di k)]) (stC l a S Pl rs):=by
 induction n using Nat.strongRecOn with
 |_ n ih=>
 intro k a rs hn ha hk3 hrs hR
 have hSl:1<=S.length/\S.length<=2:=by rcases hS with rfl|rfl<;>decide
 have hPl:1<=Pl.length/\Pl.length<=2:=by rcases hP with rfl|rfl<;>decide
 obtain⟨r,a1,h1,h2,h3,h4⟩:=Ax l hl a ha 3 (by decide) (by decide)
 by_cases hk:(k:Int)<1+r
 ·obtain⟨f,a2,f1,f2,f3,f4⟩:=Ax l hl a1 h3 S.length (by omega) (by omega)
  obtain⟨t,a3,t1,t2,t3,t4⟩:=Ax l hl a2 f3 S.length (by omega) (by omega)
  obtain⟨nd,a4,n1,n2,n3,n4⟩:=Fk l hl a3 t3 Pl.length (by omega) 2 (by decide) (by decide)
  obtain⟨gv,a5,g1,g2,g3,g4⟩:=Fk l hl a4 n1 Pl.length (by omega) 2 (by decide) (by decide)
  obtain⟨nm,hnm⟩:∃nm,dl3[k]?=some nm:=⟨_,H4 (show k<dl3.length by show k<3;omega)⟩
  obtain⟨m,a',m1,m2,m3⟩:=ih (3- (k+1)) (by omega) (k+1) a5 (rs++[mkR nm f t nd gv]) rfl g1 (by omega) (by simp[hrs]) (fun i r hi=>by
   by_cases hik:i<rs.length
   ·rw[HQ hik] at hi;exact hR i r hi
   ·rw[HN (by omega)] at hi
    have:i-rs.length=0:=by
     have:=(H7.1 hi).1
     simp at this;omega
    rw[this] at hi
    simp at hi;subst hi
    have hik2:i=k:=by omega
    subst hik2
    exact⟨hnm,⟨f1,f2⟩,⟨t1,t2⟩,⟨n2,n3⟩,⟨g2,g3⟩,rfl⟩)
  refine⟨m,a',m1,m2,?_⟩
  refine lv 85 [] (.c1 (cDz l a1) (di r)<|.t<|.h (.dr 21)<|.x (.str nm)<|.c1 (cDz l a2) (di f)<|.c1 (cDz l a3) (di t)<|.c1 (cDz l a4) (dIs nd)<|.c1 (cDz l a5) (dIs gv)<|.ls [ke 0,ke 1,ke 4,ke 5,ke 6,ch 7 (di (k+1:Nat))] (stC l a5 S Pl (rs++[mkR nm f t nd gv]))) (Aa PP 8 [Azb 0 0,di 3] (dz l a) (di r) (dz l a1)/\decide ((k:Int)<wrap i64 (1+r))=true/\0<=(k:Int)/\[Azg (Aze #[114]).data.toList,Azg (Aze #[115]).data.toList,Azg (Aze #[116]).data.toList][Int.toNat (k:Int)]?=some (Azg nm)/\Aa PP 8 [Azb 0 0,di (length (map Azg S):Int)] (dz l a1) (di f) (dz l a2)/\Aa PP 8 [Azb 0 0,di (length (map Azg S):Int)] (dz l a1) (di f) (dz l a2)/\Q (di f)/\Aa PP 8 [Azb 0 0,di (length (map Azg S):Int)] (dz l a2) (di t) (dz l a3)/\Aa PP 8 [Azb 0 0,di (length (map Azg S):Int)] (dz l a2) (di t) (dz l a3)/\Q (di t)/\Aa PP 48 [Azb 0 0,di (Pl.length:Int),di 2] (dz l a3) (dIs nd) (dz l a4)/\Aa PP 48 [Azb 0 0,di (Pl.length:Int),di 2] (dz l a3) (dIs nd) (dz l a4)/\Q (dIs nd)/\Aa PP 48 [Azb 0 0,di (Pl.length:Int),di 2] (dz l a4) (dIs gv) (dz l a5)/\Aa PP 48 [Azb 0 0,di (Pl.length:Int),di 2] (dz l a4) (dIs gv) (dz l a5)/\Q (dIs gv)/\Q [Azd [some (cDz l a1),some zM,some (cM S Pl rs),some zRl] [(2,14,map Ak rs)],Azd [some (cDz l a2),some zM,some (cM S Pl rs),some zRl] [(2,14,map Ak rs)],Azd [some (cDz l a3),some zM,some (cM S Pl rs),some zRl] [(2,14,map Ak rs)],Azd [some (cDz l a4),some zM,some (cM S Pl rs),some zRl] [(2,14,map Ak rs)],Azd [some (cDz l a5),some zM,some (cM S Pl rs),some zRl] [(2,14,map Ak rs)]]/\((Q (some [D.v (vSs S)])/\Q (some [D.v (vSs S)])/\Q (some [D.v (vSs S)])/\Q (some [D.v (vSs S)])/\Q (some [D.v (vSs S)])/\Q (some [D.v (vSs S)])/\Q (some [D.v (vSs S)])/\Q (some [D.v (vSs S)])/\Q (some [D.v (vSs S)])/\Q (some [D.v (vSs S)])/\Q (some [D.v (vSs S)])/\True)/\(Q (some [D.v (vSs S)])/\Q (some [D.v (vSs S)])/\Q (some [D.v (vSs S)])/\Q (some [D.v (vSs S)])/\Q (some [D.v (vSs S)])/\Q (some [D.v (vSs S)])/\Q (some [D.v (vSs S)])/\Q (some [D.v (vSs S)])/\Q (some [D.v (vSs S)])/\Q (some [D.v (vSs S)])/\Q (some [D.v (vSs S)])/\True)/\True)/\Q (map Ak rs)/\Ar (length (map Ak rs)+length (Azh (Azg nm::V.int i64 f::V.int i64 t::vIs nd::vIs gv::Azf nV::V.int i64 0::V.int i64 0::V.int i64 0::Azf nV::Azf nV::Azf nV::Azf nV::V.int i64 0::nV)::nV)) 232/\di (wrap i64 ((k:Int)+1))=di (↑(k+1):Int)/\[some (cDz l a5),some zM,some [di 1,D.v (vSs S),D.v (vSs Pl),dn,dn,di 0,di 0,Azc 2 (map Ak rs++Azh (Azg nm::vi f::vi t::vIs nd::vIs gv::Azf nV::vi 0::vi 0::vi 0::Azf nV::Azf nV::Azf nV::Azf nV::vi 0::nV)::nV),di 0,dn]]=[some (cDz l a5),some zM,some (cM S Pl (rs++[mkR nm f t nd gv]))]/\[(2,14,map Ak rs++Azh (Azg nm::vi f::vi t::vIs nd::vIs gv::Azf nV::vi 0::vi 0::vi 0::Azf nV::Azf nV::Azf nV::Azf nV::vi 0::nV)::nV)]=[(2,14,map Ak (rs++[mkR nm f t nd gv]))]/\I0 Xe 1 (Ag m) (dz l a') [kl Px [1,1,1,0,1,0,0],Aza 0,kc Px [1,1,1,1]] (mkE 85 [(0,Azb 0 0),(1,db false),(4,Azb 1 0),(5,Azb 2 0),(6,di (Pl.length:Int)),(7,di (↑(k+1):Int))]) (stC l a5 S Pl (rs++[mkR nm f t nd gv]))) ?_
  rw[show((S.map V.str).length:Int)=(S.length:Int) by rw[H3]]
  refine⟨h4,?_,by omega,Cm hnm,f4,f4,rfl,t4,t4,rfl,n4,n4,rfl,g4,g4,rfl,rfl,by simp,rfl,⟨?_,?_⟩,Ad (by omega),?_,?_,⟨m3⟩⟩
  ·rw[Al (by omega) (by omega)];exact H6 hk
  ·simp only[H3,H9,HD];omega
  ·simp only[H3,H9,HD];omega
  ·show _=[some (cDz l a5),some zM,some [di 1,.v (vSs S),.v (vSs Pl),.v .nils,.v .nils,di 0,di 0,.acc 2 ((rs++[mkR nm f t nd gv]).map Ak),di 0,.v .nils]]
   rw[←AL];rfl
  ·rw[←AL];rfl
 ·obtain⟨ys,a2,y1,y2,y3,y4⟩:=Fk l hl a1 h3 Pl.length (by omega) 3 (by decide) (by decide)
  obtain⟨c,hc⟩:∃c,c=C5 0 ys:=⟨_,rfl⟩
  refine⟨⟨1,S,Pl,[],[],0,0,rs,c⟩,a2,⟨rfl,hS,hP,rfl,rfl,rfl,rfl,by show rs.length<=3;omega,hR,ys,y2,y3,hc⟩,y1,?_⟩
  refine lv 85 [] (.c1 (cDz l a1) (di r)<|.f<|.c1 (cDz l a2) (dIs ys)<|.c (dV c) .r) (Aa PP 8 [Azb 0 0,di 3] (dz l a) (di r) (dz l a1)/\decide ((k:Int)<wrap i64 (1+r))=false/\Aa PP 48 [Azb 0 0,di (Pl.length:Int),di 3] (dz l a1) (dIs ys) (dz l a2)/\F0 49 [di 0,dIs ys] (dV c)/\Q [some (cDz l a2)]/\D.v (Azh [vi 1,Azf (map Azg S),Azf (map Azg Pl),Azf [],Azf [],vi 0,vi 0,Azf (map Ak rs),vi c.n,Azf (map eV c.kids)])=Ag (Mod.mk 1 S Pl [] [] 0 0 rs c)) ?_
  refine⟨h4,?_,y4,hc▸JJ ys (by omega) 0,rfl,rfl⟩
  rw[Al (by omega) (by omega)];exact H8 hk
noncomputable abbrev Akp:=fun a₀ b₀ c₀ d₀=>Aa PP 8 [Azb 0 0,di 2] (dz a₀ b₀) (di c₀) (dz a₀ d₀)
noncomputable abbrev Akv:=[Azg (Aze #[120]).data.toList,Azg (Aze #[121]).data.toList]
noncomputable abbrev Ali:=fun a₀ b₀=>[some (cDz a₀ b₀),some zMl,some zMl]
noncomputable abbrev Alt:=[Azg (Aze #[97]).data.toList,Azg (Aze #[98]).data.toList]
noncomputable abbrev Ama:=(Azg (Aze #[120]).data.toList::Azg (Aze #[121]).data.toList::nV)
noncomputable abbrev An7:=(Azg (Aze #[97]).data.toList::Azg (Aze #[98]).data.toList::nV)
theorem Ahe(l:List UInt8)(hl:l.length<=200)(a:Nat)(ha:a<=l.length):
  ∃(m:Mod) (a':Nat),Q2 m/\a'<=l.length/\Aa PP 19 [.ptr 0 0,db false] (dz l a) (Ag m) (dz l a'):=by
 obtain⟨r1,a1,h1,h2,h3,h4⟩:=Ax l hl a ha 2 (by decide) (by decide)
 obtain⟨r2,a2,h5,h6,h7,h8⟩:=Ax l hl a1 h3 2 (by decide) (by decide)
 obtain⟨S,hS,hS2⟩:∃S:List (List UInt8),(S=[[97]]∨S=[[97],[98]])/\(r1=0/\S=[[97]]∨r1=1/\S=[[97],[98]]):=by
  rcases(show r1=0∨r1=1 by omega) with h|h
  ·exact⟨_,.inl rfl,.inl ⟨h,rfl⟩⟩
  ·exact⟨_,.inr rfl,.inr ⟨h,rfl⟩⟩
 obtain⟨Pl,hP,hP2⟩:∃S:List (List UInt8),(S=[[120]]∨S=[[120],[121]])/\(r2=0/\S=[[120]]∨r2=1/\S=[[120],[121]]):=by
  rcases(show r2=0∨r2=1 by omega) with h|h
  ·exact⟨_,.inl rfl,.inl ⟨h,rfl⟩⟩
  ·exact⟨_,.inr rfl,.inr ⟨h,rfl⟩⟩
 obtain⟨m,a',m1,m2,m3⟩:=Abr l hl S Pl hS hP _ 0 a2 [] rfl h7 (by omega) rfl (fun i r h=>by simp at h)
 refine⟨m,a',m1,m2,?_⟩
 refine sv Xe 85 [] (.h (.dr 11)<|.c1 (cDz l a1) (di r1)<|.c1 (cDz l a2) (di r2)<|.h .rn<|.h (.q 3 0)<|.h (.cl 2 7 2 14)<|.ls [ke 0,ke 1,ke 4,ke 5,ch 6 (di Pl.length),ch 7 (di (0:Nat))] (stC l a2 S Pl [])) (Akp l a r1 a1/\Akp l a r1 a1/\Q (di r1)/\(∀(x:V),x∈ Alt->V.size x=1)/\0<=(fun x=>x.snd) (i64,wrap i64 (1+r1))/\(fun x=>x.snd) (i64,wrap i64 (1+r1))<=(↑(length Alt):Int)/\Akp l a1 r2 a2/\Akp l a1 r2 a2/\Q (di r2)/\(∀(x:V),x∈ Akv->V.size x=1)/\0<=(fun x=>x.snd) (i64,wrap i64 (1+r2))/\(fun x=>x.snd) (i64,wrap i64 (1+r2))<=(↑(length Akv):Int)/\Q [Azd (Ali l a) [],Azd (Ali l a1) [],Azd (Ali l a2) []]/\True/\di (length (List.drop 0 (take (Int.toNat ((fun x=>x.snd) (i64,wrap i64 (1+r2)))) Ama)):Int)=di (Pl.length:Int)/\di 0=di (↑0:Int)/\[some (cDz l a2),some zMl,some [di 1,D.v (Azf (List.drop 0 (take (Int.toNat ((fun x=>x.snd) (i64,wrap i64 (1+r1)))) An7))),D.v (Azf (List.drop 0 (take (Int.toNat ((fun x=>x.snd) (i64,wrap i64 (1+r2)))) Ama))),dn,dn,di 0,di 0,Azc 2 nV,di 0,dn]]=[some (cDz l a2),some zM,some (cM S Pl [])]/\Q [(2,14,nV)]/\I0 Xe (length (dz l a).H) (Ag m) (dz l a') An4 (mkE 85 [Ald,(1,db false),Arg,Arf,(6,di (Pl.length:Int)),(7,di (↑0:Int))]) (stC l a2 S Pl [])) ?_
 refine⟨h4,h4,rfl,by simp[V.size],?_,?_,h8,h8,rfl,by simp[V.size],?_,?_,rfl,trivial,?_,rfl,?_,rfl,⟨m3⟩⟩
 ·show 0<=i64.wrap (1+r1);rw[Al (by omega) (by omega)];omega
 ·show i64.wrap (1+r1)<=2;rw[Al (by omega) (by omega)];omega
 ·show 0<=i64.wrap (1+r2);rw[Al (by omega) (by omega)];omega
 ·show i64.wrap (1+r2)<=2;rw[Al (by omega) (by omega)];omega
 ·rcases hP2 with⟨rfl,rfl⟩|⟨rfl,rfl⟩<;>rfl
 ·rcases hS2 with⟨rfl,rfl⟩|⟨rfl,rfl⟩<;>rcases hP2 with⟨rfl,rfl⟩|⟨rfl,rfl⟩<;>rfl
theorem AdE{rs:List Rul}(h3:rs.length<=3){ns np:Nat}(h:∀k r,rs[k]?=some r->Aca ns np k r):rs.map Rul.name=dl3.take rs.length:=by
 apply List.ext_getElem?
 intro i
 by_cases hi:i<rs.length
 ·have hx:rs[i]?=some rs[i]:=H4 hi
  rw[Ik,hx,List.getElem?_take_of_lt hi,(h i _ hx).name];rfl
 ·rw[Ir (by simp;omega),Ir (by simp;omega)]
theorem YH(ys:List Int)(n:Nat)(h:ys.length=n)(h0:∀x∈ys,0<=x/\x<=1048576):AW (replicate n .nat) (ys.map fun x=>Val.mk x [])=true:=by
 induction n generalizing ys with
 |zero=>cases ys with
  |nil=>rfl
  |cons y ys=>simp at h
 |succ n ih=>cases ys with
  |nil=>simp at h
  |cons y ys=>
   have:=h0 y (by simp)
   simp only[Ix,HU,AW,Am,H5,HE,Ie]
   exact⟨⟨this.1,this.2,rfl⟩,ih ys (by simpa using h) fun x hx=>h0 x (by simp[hx])⟩
theorem Hu(ys:List Int):Val.sizes (ys.map fun x=>Val.mk x [])=ys.length:=by
 induction ys with
 |nil=>rfl
 |cons y ys ih=>simp only[HU,Val.sizes,ih,H9,Val.size];omega
theorem EO(s:Int)(ys:List Int):(C5 s ys).size=2+ys.length:=by
 simp only[C5,Val.size,Val.sizes,Hu];omega
theorem FL(m:Mod)(hk:m.kind=1)(hpl:m.places.length<=100)(s:Int)(hs:0<=s/\s<m.states.length)(ys:List Int)(hy:ys.length=m.places.length)(h:∀x∈ys,0<=x/\x<=1048576):Aj (AI m) (C5 s ys)=true:=by
 rw[Aj,H6 (by rw[EO];omega),Ib,AI,show BH m=.nat by simp[BH,hk]]
 simp only[Am,C5,Val.n,Val.kids,AW,Cd,H5,HE,Ie]
 refine⟨?_,by simp[hy],⟨H6 hs.1,H6 hs.2,by rfl⟩,YH ys _ hy h⟩
 first|trivial|rfl
theorem Q2.ok{m:Mod}(h:Q2 m):m.ok:=by
 have hst:1<=m.states.length/\m.states.length<=2:=by rcases h.states with e|e<;>rw[e]<;>decide
 have hpl:1<=m.places.length/\m.places.length<=2:=by rcases h.places with e|e<;>rw[e]<;>decide
 have hb:∀{x a b:Int},a<=x->x<=b->Av x a b=true:=fun h1 h2=>by simp[Av,h1,h2]
 have hget:∀r∈m.rules,Aca m.states.length m.places.length (m.rules.idxOf r) r:=fun r hr=>by
  have hi:=List.idxOf_lt_length_of_mem hr
  exact h.rules _ r (by rw[H4 hi,List.getElem_idxOf])
 have hc:=h.count
 refine⟨.inl h.kind,?_,?_,?_,?_,?_,?_,?_⟩
 ·simp only[C3,Qe,HP h.kind,H5,HE,h.letters,h.levels,h.age]
  exact⟨hb (by omega) (by omega),by omega,hb (by omega) (by omega),by decide,by decide,by decide⟩
 ·rw[BO,HP (by rw[h.kind];rfl),h.ranks];rfl
 ·have hn:=AdE h.count h.rules
  rw[D0,DO,hn,BL,h.letters]
  have:m.rules.length=0∨m.rules.length=1∨m.rules.length=2∨m.rules.length=3:=by omega
  rcases h.states with e|e<;>rcases h.places with e'|e'<;>rcases this with e2|e2|e2|e2<;>rw[e,e',e2]<;>decide
 ·intro r hr
  have hm:=hget r hr
  have h1:=hm.need.1
  have h2:=hm.give.1
  rw[hm.rest]
  exact⟨by show r.need.length<=_;omega,by show r.give.length<=_;omega,Ic _,Ic _,Ic _,Ic _,Ic _⟩
 ·intro r hr
  have hm:=hget r hr
  obtain⟨f1,f2⟩:=hm.frm
  obtain⟨t1,t2⟩:=hm.to
  obtain⟨n1,n2⟩:=hm.need
  obtain⟨g1,g2⟩:=hm.give
  have hr:=hm.rest
  generalize r.name=nm at hr
  generalize r.frm=f at*
  generalize r.to=t at*
  generalize r.need=nd at*
  generalize r.give=gv at*
  subst hr
  rw[Et,HP h.kind]
  simp only[Du,BJ,CB,BN,MU,mkR,H5,Ip,Ie,HE,Ih,true_and,HD]
  refine⟨hb (by omega) (by omega),hb (by omega) (by omega),⟨by omega,by omega,fun x hx=>hb (n2 x hx).1 (by have:=(n2 x hx).2;omega),fun x hx=>hb (g2 x hx).1 (by have:=(g2 x hx).2;omega)⟩,?_⟩
  simp
 ·obtain⟨ys,y1,y2,y3⟩:=h.start
  rw[y3]
  exact FL m h.kind (by omega) 0 ⟨by omega,by omega⟩ ys y1 fun x hx=>by have:=y2 x hx;omega
 ·obtain⟨ys,y1,y2,y3⟩:=h.start
  rw[y3,EO];omega
end Go.Proofs.YtmhjflomgppcnaaGreatDoor
