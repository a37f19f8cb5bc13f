/-
  order.reader: reading a value whose text comes next: walked.
-/
import Derived.Test.YtopbcpgmffppjaaGreatDoorEf
import Derived.WideLaws
import Derived.Test.YtopbcpgmffppjaaGreatDoorEd
import Derived.Test.YtopbcpgmffppjaaGreatDoorEe
namespace Go.Proofs.YtopbcpgmffppjaaGreatDoor
open Go.Dv Go.Nv
set_option maxRecDepth 20000
theorem dig_ok : ∀ i : Fin 100, ∀ c ∈ Lib.decDigits i.val, 48 ≤ c.toNat ∧ c.toNat ≤ 57 := by decide +kernel
theorem dec_pos (i : Nat) : 1 ≤ (Lib.decDigits i).length := by rw [Lib.decDigits_length]; exact Lib.nDigits_pos i
theorem vb40 : V.int .u8 40 = vb 40 := by kernel_rfl
theorem vb45 : V.int .u8 45 = vb 45 := by kernel_rfl
theorem vb32 : V.int .u8 32 = vb 32 := by kernel_rfl
theorem vb41 : V.int .u8 41 = vb 41 := by kernel_rfl
def b40 : UInt8 := 40
theorem atoi_spec (i : Nat) (hi : i < 100) : FSpec PP 90 [ds (Lib.decDigits i)] σ0 (.tup [di i, .raw .nilIface]) σ0 := by
  refine spec_below ⟨_, Tryz.func90, by kernel_rfl, by kernel_rfl⟩ fun g w args hw ha => ?_
  obtain ⟨u0, rfl, h0⟩ := repDs_one.1 ha
  simp only [repD, repV_str] at h0
  subst h0
  refine (atoiC i hi w).mono ?_
  rintro e w' ⟨rfl, hb⟩
  refine ⟨_, rfl, ?_, hb⟩
  simp only [repD]
  exact ⟨_, rfl, repDs_two.2 ⟨_, _, rfl, by simp only [repD, repV_int], by simp only [repD]⟩⟩
/-- nil is held against nil, as errors -/
theorem op_neNil {P : Program} {o : Oper} {σ : St} {t ty : TypeId} {x : Operand} (ho : o.op = .binOp .neq t x (.const .nilIface) ty) (hi : P.underlying t = some (.interface (P.methodsAt t))) : OpOK P o [.raw .nilIface, .undef] σ (db false) σ := by
  intro E g a w K Q hw hds hK
  simp only [ho, Op.operands] at hds
  obtain ⟨u, v, e, h1, _⟩ := repDs_two.1 hds
  simp only [List.map_cons, List.map_nil, List.cons.injEq, and_true] at e
  obtain ⟨e1, e2⟩ := e
  simp only [repD] at h1
  subst h1
  have e3 : a.eval (.const .nilIface) = .nilIface := rfl
  unfold Oper.wp
  have : (execOp a.eval o).run P w = .ok (.value (.bool false)) w := by
    simp [execOp, ho, e1, e3, eqGuard, binOp, run_equal_nil_nil w t hi]
  rw [this]
  exact hK g w _ hw g.le_refl (by simp [repD])
noncomputable abbrev fVal : Func := Tryz.f57
noncomputable def cVal : Code := fVal.body.getD .skip
abbrev stVl (s : List UInt8) (at_ n : Nat) : St := ⟨[some (cRd s at_ n false), some [di 0, .v .nils]], []⟩
theorem val_digits (s : List UInt8) (hs : s.length ≤ 1000000) (p n : Nat) (v : Val) (q n' : Nat) (tl : List UInt8) : ∀ (dg : List UInt8) (at_ : Nat), (∀ c ∈ dg, 48 ≤ c.toNat ∧ c.toNat ≤ 57) → s.drop at_ = dg ++ tl →
    Rn PP fVal 1 (dV v) (rd s q n' false) ([.lp (sub cVal [1, 1, 1, 0, 0, 0]), .blk 0, .code (sub cVal [1, 1, 1, 1])] ++ []) (mkE 125 [(0, .ptr 0 0), (2, .ptr 1 0), (3, di p)]) (stVl s (at_ + dg.length) n) →
    Rn PP fVal 1 (dV v) (rd s q n' false) ([.lp (sub cVal [1, 1, 1, 0, 0, 0]), .blk 0, .code (sub cVal [1, 1, 1, 1])] ++ []) (mkE 125 [(0, .ptr 0 0), (2, .ptr 1 0), (3, di p)]) (stVl s at_ n)
  | [], at_, _, _, h => h
  | c :: dg, at_, hd, hdr, h => by
    have ih := val_digits s hs p n v q n' tl dg (at_ + 1) (fun x hx => hd x (by simp [hx])) (by rw [← List.drop_drop, hdr]; rfl) (by
      rw [List.length_cons] at h
      rwa [show at_ + 1 + dg.length = at_ + (dg.length + 1) by omega])
    have hc := hd c (by simp)
    have hx : s[at_]? = some c := by
      have := congrArg (·[0]?) hdr
      simpa using this
    have hlt := (List.getElem?_eq_some_iff.1 hx).1
    refine loop_vc mixed 125 [] (.t <| .y c <| .t <| .y c <| .t <| .ls [ke 0, ke 2, ke 3] (stVl s (at_ + 1) n)) ?_
    refine via (by kernel_rfl : (decide ((↑at_ : Int) < (↑(List.length s) : Int)) = true ∧ 0 ≤ (↑at_ : Int) ∧ s[Int.toNat (↑at_ : Int)]? = some c ∧ decide ((↑(UInt8.toNat c) : Int) ≥ 48) = true ∧ 0 ≤ (↑at_ : Int) ∧ s[Int.toNat (↑at_ : Int)]? = some c ∧ (True ∧ True ∧ True ∧ True ∧ True ∧ True ∧ True) ∧ decide ((↑(UInt8.toNat c) : Int) ≤ 57) = true ∧ [some [D.v (V.str s), di (IntKind.wrap IntKind.i64 ((↑at_ : Int) + 1)), di (↑n : Int), db false], some [di 0, D.v V.nils]] = [some (cRd s (at_ + 1) n false), some [di 0, D.v V.nils]] ∧ Nv.It (RunC (CN 1) PP (fun env σ1 => ResOK PP fVal env σ1 (dV v) (rd s q n' false)) [KI.lp (sub cVal [1, 1, 1, 0, 0, 0]), KI.blk 0, KI.code (sub cVal [1, 1, 1, 1])] (mkE 125 [(0, D.ptr 0 0), (2, D.ptr 1 0), (3, di (↑p : Int))]) (stVl s (at_ + 1) n))) = _) ?_
    rw [wrap_succ (by omega)]
    exact ⟨decide_eq_true (by omega), by omega, hx, decide_eq_true (by omega), by omega, hx, ⟨trivial, trivial, trivial, trivial, trivial, trivial, trivial⟩, decide_eq_true (by omega), rfl, ⟨ih⟩⟩
theorem val_leaf (s : List UInt8) (hs : s.length ≤ 1000000) (p i n : Nat) (hi : i < 100) (hn : n + 1 ≤ 128) (hp : p + (Lib.decDigits i).length ≤ s.length) (hsl : (s.drop p).take (Lib.decDigits i).length = Lib.decDigits i) (hnx : ∀ y, s[p + (Lib.decDigits i).length]? = some y → y.toNat < 48 ∧ y ≠ 40) :
    Rn PP fVal 1 (dV (.mk i [])) (rd s (p + (Lib.decDigits i).length) (n + 1) false) ([.lp (sub cVal [1, 1, 1, 0, 0, 0]), .blk 0, .code (sub cVal [1, 1, 1, 1])] ++ []) (mkE 125 [(0, .ptr 0 0), (2, .ptr 1 0), (3, di p)]) (stVl s (p + (Lib.decDigits i).length) n) := by
  obtain ⟨q, hq⟩ : ∃ q, q = p + (Lib.decDigits i).length := ⟨_, rfl⟩
  rw [← hq] at hp hnx ⊢
  have hq2 : q - p = (Lib.decDigits i).length := by omega
  by_cases hlt : q < s.length
  · have hx : s[q]? = some s[q] := List.getElem?_eq_getElem hlt
    obtain ⟨y1, y2⟩ := hnx _ hx
    generalize s[q] = y at hx y1 y2
    refine loop_vc mixed 125 [] (.t <| .y y <| .f <| .k <| .c (.tup [di i, .raw .nilIface]) <| .h (.q 7 1) <| .h (.o (db false) (St.mk [some (cRd s q (n + 1) false), some [di 0, .v .nils]] [])) <| .k <| .f <| .c1 (cRd s q (n + 1) false) (db false) <| .k .r) ?_
    refine via (by kernel_rfl : (decide ((↑q : Int) < (↑(List.length s) : Int)) = true ∧ 0 ≤ (↑q : Int) ∧ s[Int.toNat (↑q : Int)]? = some y ∧ decide ((↑(UInt8.toNat y) : Int) ≥ 48) = false ∧ (True ∧ True ∧ True ∧ True ∧ True) ∧ 0 ≤ (fun x => x.snd) (IntKind.i64, (↑p : Int)) ∧ (fun x => x.snd) (IntKind.i64, (↑p : Int)) ≤ (fun x => x.snd) (IntKind.i64, (↑q : Int)) ∧ (fun x => x.snd) (IntKind.i64, (↑q : Int)) ≤ (↑(List.length s) : Int) ∧ FSpec PP 90 [D.v (V.str (List.drop (Int.toNat ((fun x => x.snd) (IntKind.i64, (↑p : Int)))) (List.take (Int.toNat ((fun x => x.snd) (IntKind.i64, (↑q : Int)))) s)))] (St.mk [] []) (D.tup [di (↑i : Int), D.raw Value.nilIface]) (St.mk [] []) ∧ (True ∧ True ∧ True) ∧ OpOK PP (Oper.mk (some 77) (Op.binOp BinOp.neq 97 (Operand.tmp 76) (Operand.const Value.nilIface) 97) 4 "order.go:306" #[Edge.mk 0 Ground.data] none) [D.raw Value.nilIface, D.undef] (St.mk [some [D.v (V.str s), di (↑q : Int), di (IntKind.wrap IntKind.i64 ((↑n : Int) + 1)), db false], some [di 0, D.v V.nils]] []) (db false) (St.mk [some (cRd s q (n + 1) false), some [di 0, D.v V.nils]] []) ∧ decide ((↑(n + 1) : Int) > 128) = false ∧ FSpec PP 89 [D.ptr 0 0, D.v (V.int IntKind.u8 40)] (St.mk [some (cRd s q (n + 1) false)] []) (db false) (St.mk [some (cRd s q (n + 1) false)] []) ∧ [some (cRd s q (n + 1) false)] = [some (cRd s q (n + 1) false)] ∧ D.v (V.agg [vi (↑i : Int), V.list []]) = dV (Val.mk (↑i : Int) [])) = _) ?_
    rw [vb40, wrap_succ (by omega), List.drop_take, show ((q : Nat) : Int).toNat = q from rfl, show ((p : Nat) : Int).toNat = p from rfl]
    rw [hq2, hsl]
    exact ⟨decide_eq_true (by omega), by omega, hx, decide_eq_false (by omega), ⟨trivial, trivial, trivial, trivial, trivial⟩, by show (0 : Int) ≤ p; omega, by show (p : Int) ≤ q; omega, by show (q : Int) ≤ _; omega, atoi_spec i hi, ⟨trivial, trivial, trivial⟩, op_neNil rfl (by kernel_rfl), decide_eq_false (by omega), tk_miss s (by omega) q (n + 1) false 40 y hx y2, rfl, rfl⟩
  · refine loop_vc mixed 125 [] (.f <| .k <| .k <| .c (.tup [di i, .raw .nilIface]) <| .h (.q 7 1) <| .h (.o (db false) (St.mk [some (cRd s q (n + 1) false), some [di 0, .v .nils]] [])) <| .k <| .f <| .c1 (cRd s q (n + 1) false) (db false) <| .k .r) ?_
    refine via (by kernel_rfl : (decide ((↑q : Int) < (↑(List.length s) : Int)) = false ∧ (True ∧ True ∧ True) ∧ 0 ≤ (fun x => x.snd) (IntKind.i64, (↑p : Int)) ∧ (fun x => x.snd) (IntKind.i64, (↑p : Int)) ≤ (fun x => x.snd) (IntKind.i64, (↑q : Int)) ∧ (fun x => x.snd) (IntKind.i64, (↑q : Int)) ≤ (↑(List.length s) : Int) ∧ FSpec PP 90 [D.v (V.str (List.drop (Int.toNat ((fun x => x.snd) (IntKind.i64, (↑p : Int)))) (List.take (Int.toNat ((fun x => x.snd) (IntKind.i64, (↑q : Int)))) s)))] (St.mk [] []) (D.tup [di (↑i : Int), D.raw Value.nilIface]) (St.mk [] []) ∧ (True ∧ True ∧ True) ∧ OpOK PP (Oper.mk (some 77) (Op.binOp BinOp.neq 97 (Operand.tmp 76) (Operand.const Value.nilIface) 97) 4 "order.go:306" #[Edge.mk 0 Ground.data] none) [D.raw Value.nilIface, D.undef] (St.mk [some [D.v (V.str s), di (↑q : Int), di (IntKind.wrap IntKind.i64 ((↑n : Int) + 1)), db false], some [di 0, D.v V.nils]] []) (db false) (St.mk [some (cRd s q (n + 1) false), some [di 0, D.v V.nils]] []) ∧ decide ((↑(n + 1) : Int) > 128) = false ∧ FSpec PP 89 [D.ptr 0 0, D.v (V.int IntKind.u8 40)] (St.mk [some (cRd s q (n + 1) false)] []) (db false) (St.mk [some (cRd s q (n + 1) false)] []) ∧ [some (cRd s q (n + 1) false)] = [some (cRd s q (n + 1) false)] ∧ D.v (V.agg [vi (↑i : Int), V.list []]) = dV (Val.mk (↑i : Int) [])) = _) ?_
    rw [vb40, wrap_succ (by omega), List.drop_take, show ((q : Nat) : Int).toNat = q from rfl, show ((p : Nat) : Int).toNat = p from rfl]
    rw [hq2, hsl]
    exact ⟨decide_eq_false (by omega), ⟨trivial, trivial, trivial⟩, by show (0 : Int) ≤ p; omega, by show (p : Int) ≤ q; omega, by show (q : Int) ≤ _; omega, atoi_spec i hi, ⟨trivial, trivial, trivial⟩, op_neNil rfl (by kernel_rfl), decide_eq_false (by omega), tk_end s (by omega) q (n + 1) false 40 (by omega), rfl, rfl⟩
end Go.Proofs.YtopbcpgmffppjaaGreatDoor

namespace Go.Proofs.YtopbcpgmffppjaaGreatDoor
open Go.Dv Go.Nv
set_option maxRecDepth 20000
theorem drop_get {s a : List UInt8} {p : Nat} {c : UInt8} {r : List UInt8} (h : s.drop p = a ++ c :: r) : s[p + a.length]? = some c := by
  have := congrArg (·[a.length]?) h
  simpa using this
theorem drop_app {s a r : List UInt8} {p : Nat} (h : s.drop p = a ++ r) : s.drop (p + a.length) = r := by
  rw [← List.drop_drop, h, List.drop_left]
theorem drop_cons {s r : List UInt8} {p : Nat} {c : UInt8} (h : s.drop p = c :: r) : s.drop (p + 1) = r := by
  have := drop_app (a := [c]) h
  exact this
theorem eVs_snoc (os : List Val) (v : Val) : os.map eV ++ [vVal v] = (os ++ [v]).map eV := by rw [← enc_eq]; simp
theorem dV_mk (n : Int) (l : List Val) : dV (.mk n l) = .v (.agg [vi n, .list (l.map eV)]) := rfl
/-- a value is read whose text comes next -/
abbrev RdOK (s : List UInt8) (x : Val) : Prop := ∀ (p n : Nat) (post : List UInt8), s.drop p = textV x ++ post → (∀ y r, post = y :: r → y.toNat < 48 ∧ y ≠ 40) → n + x.size ≤ 128 → FSpec PP 57 [.ptr 0 0] (rd s p n false) (dV x) (rd s (p + (textV x).length) (n + x.size) false)
abbrev stK (s : List UInt8) (at_ n : Nat) (v0 : Int) (ks : List Val) : St := ⟨[some (cRd s at_ n false), some [di 0, .v .nils], some [di v0, .acc 1 (ks.map eV)]], [(1, 2, ks.map eV)]⟩
theorem val_kids (s : List UInt8) (hs : s.length ≤ 1000000) (v0 : Int) (all : List Val) (hall : all.length ≤ 128) (IH : ∀ x ∈ all, RdOK s x) (post : List UInt8) : ∀ (rs : List Val) (x : Val) (done : List Val) (p n : Nat), done ++ x :: rs = all → s.drop p = textV x ++ (textK false rs ++ 41 :: post) → n + Val.sizes (x :: rs) ≤ 128 →
    Rn PP fVal 1 (dV (.mk v0 all)) (rd s (p + ((textV x).length + (textK false rs).length) + 1) (n + Val.sizes (x :: rs)) false) ([.lp (sub cVal [1, 1, 1, 1, 1, 1, 1, 1, 1, 0, 1, 0, 0]), .blk 2, .code (sub cVal [1, 1, 1, 1, 1, 1, 1, 1, 1, 1])] ++ []) (mkE 125 [(0, .ptr 0 0), (2, .ptr 1 0), (6, .ptr 2 0), (7, db true)]) (stK s p n v0 done)
  | [], x, done, p, n, ha, hd, hn => by
    obtain ⟨q, hq⟩ : ∃ q, q = p + (textV x).length := ⟨_, rfl⟩
    obtain ⟨n2, hn2⟩ : ∃ n2, n2 = n + x.size := ⟨_, rfl⟩
    have hx := IH x (by rw [← ha]; simp) p n (41 :: post) (by simpa [textK] using hd) (fun y r e => by cases e; decide) (by simp only [Val.sizes] at hn; omega)
    rw [← hq, ← hn2] at hx
    have hc : s[q]? = some 41 := by rw [hq]; exact drop_get (r := post) (by simpa [textK] using hd)
    have e1 : p + ((textV x).length + (textK false []).length) + 1 = q + 1 := by simp only [textK, List.length_nil]; omega
    have e2 : n + Val.sizes [x] = n2 := by simp only [Val.sizes]; omega
    rw [e1, e2]
    refine loop_vc mixed 125 [] (.k <| .k <| .m (.acc 1 (done.map eV)) <| .c1 (cRd s q n2 false) (dV x) <| .c1 (cRd s q n2 false) (db false) <| .n <| .c1 (cRd s (q + 1) n2 false) (db true) .r) ?_
    refine via (by kernel_rfl : (some (D.acc 1 (List.map eV done)) = some (D.acc 1 (List.map eV done)) ∧ FSpec PP 57 [D.ptr 0 0] (St.mk [some (cRd s p n false)] []) (dV x) (St.mk [some (cRd s q n2 false)] []) ∧ List.map eV done = List.map eV done ∧ LenOK (List.length (List.map eV done) + List.length (vVal x :: nV)) 32 ∧ ((some [D.acc 1 (List.map eV done)] = some [D.acc 1 (List.map eV done)] ∧ True) ∧ True) ∧ FSpec PP 89 [D.ptr 0 0, D.v (V.int IntKind.u8 32)] (St.mk [some (cRd s q n2 false)] []) (db false) (St.mk [some (cRd s q n2 false)] []) ∧ FSpec PP 89 [D.ptr 0 0, D.v (V.int IntKind.u8 41)] (St.mk [some (cRd s q n2 false)] []) (db true) (St.mk [some (cRd s (q + 1) n2 false)] []) ∧ [some [D.v (V.str s), di (↑(q + 1) : Int), di (↑n2 : Int), db !true]] = [some (cRd s (q + 1) n2 false)] ∧ D.v (V.agg [vi v0, V.list (List.map eV done ++ [vVal x])]) = dV (Val.mk v0 all)) = _) ?_
    rw [vb32, vb41]
    refine ⟨rfl, hx, rfl, ⟨?_, ?_⟩, ⟨⟨rfl, trivial⟩, trivial⟩, tk_miss s hs q n2 false 32 41 hc (by decide), tk_hit s hs q n2 false 41 hc, rfl, ?_⟩
    · rw [← ha] at hall; simp only [List.length_map, List.length_append, List.length_cons, List.length_nil] at hall ⊢; omega
    · rw [← ha] at hall; simp only [List.length_map, List.length_append, List.length_cons, List.length_nil] at hall ⊢; omega
    · rw [eVs_snoc, ha]; exact (dV_mk v0 all).symm
  | y :: rs, x, done, p, n, ha, hd, hn => by
    obtain ⟨q, hq⟩ : ∃ q, q = p + (textV x).length := ⟨_, rfl⟩
    obtain ⟨n2, hn2⟩ : ∃ n2, n2 = n + x.size := ⟨_, rfl⟩
    have hd2 : s.drop p = textV x ++ 32 :: (textV y ++ (textK false rs ++ 41 :: post)) := by simpa [textK] using hd
    have hx := IH x (by rw [← ha]; simp) p n _ hd2 (fun y r e => by cases e; decide) (by simp only [Val.sizes] at hn; omega)
    rw [← hq, ← hn2] at hx
    have hc : s[q]? = some 32 := by rw [hq]; exact drop_get hd2
    have ih := val_kids s hs v0 all hall IH post rs y (done ++ [x]) (q + 1) n2 (by rw [← ha]; simp) (by rw [hq]; exact drop_cons (drop_app hd2)) (by simp only [Val.sizes] at hn ⊢; omega)
    have e1 : p + ((textV x).length + (textK false (y :: rs)).length) + 1 = q + 1 + ((textV y).length + (textK false rs).length) + 1 := by simp only [textK, List.length_cons, List.length_append]; simp; omega
    have e2 : n + Val.sizes (x :: y :: rs) = n2 + Val.sizes (y :: rs) := by simp only [Val.sizes]; omega
    rw [e1, e2]
    refine loop_vc mixed 125 [] (.k <| .k <| .m (.acc 1 (done.map eV)) <| .c1 (cRd s q n2 false) (dV x) <| .c1 (cRd s (q + 1) n2 false) (db true) <| .ls [ke 0, ke 2, ke 6, ch 7 (db true)] (stK s (q + 1) n2 v0 (done ++ [x]))) ?_
    refine via (by kernel_rfl : (some (D.acc 1 (List.map eV done)) = some (D.acc 1 (List.map eV done)) ∧ FSpec PP 57 [D.ptr 0 0] (St.mk [some (cRd s p n false)] []) (dV x) (St.mk [some (cRd s q n2 false)] []) ∧ List.map eV done = List.map eV done ∧ LenOK (List.length (List.map eV done) + List.length (vVal x :: nV)) 32 ∧ ((some [D.acc 1 (List.map eV done)] = some [D.acc 1 (List.map eV done)] ∧ True) ∧ True) ∧ FSpec PP 89 [D.ptr 0 0, D.v (V.int IntKind.u8 32)] (St.mk [some (cRd s q n2 false)] []) (db true) (St.mk [some (cRd s (q + 1) n2 false)] []) ∧ db true = db true ∧ [some (cRd s (q + 1) n2 false), some [di 0, D.v V.nils], some [di v0, D.acc 1 (List.map eV done ++ vVal x :: nV)]] = [some (cRd s (q + 1) n2 false), some [di 0, D.v V.nils], some [di v0, D.acc 1 (List.map eV (done ++ [x]))]] ∧ [(1, 2, List.map eV done ++ vVal x :: nV)] = [(1, 2, List.map eV (done ++ [x]))] ∧ Nv.It (RunC (CN 1) PP (fun env σ1 => ResOK PP fVal env σ1 (dV (Val.mk v0 all)) (rd s (q + 1 + (List.length (textV y) + List.length (textK false rs)) + 1) (n2 + Val.sizes (y :: rs)) false)) [KI.lp (sub cVal [1, 1, 1, 1, 1, 1, 1, 1, 1, 0, 1, 0, 0]), KI.blk 2, KI.code (sub cVal [1, 1, 1, 1, 1, 1, 1, 1, 1, 1])] (mkE 125 [(0, D.ptr 0 0), (2, D.ptr 1 0), (6, D.ptr 2 0), (7, db true)]) (stK s (q + 1) n2 v0 (done ++ [x])))) = _) ?_
    rw [vb32]
    refine ⟨rfl, hx, rfl, ⟨?_, ?_⟩, ⟨⟨rfl, trivial⟩, trivial⟩, tk_hit s hs q n2 false 32 hc, rfl, ?_, ?_, ⟨ih⟩⟩
    · rw [← ha] at hall; simp only [List.length_map, List.length_append, List.length_cons, List.length_nil] at hall ⊢; omega
    · rw [← ha] at hall; simp only [List.length_map, List.length_append, List.length_cons, List.length_nil] at hall ⊢; omega
    · rw [eVs_snoc]
    · rw [eVs_snoc]
theorem val_node (s : List UInt8) (hs : s.length ≤ 1000000) (i p n : Nat) (hi : i < 100) (x : Val) (rs : List Val) (post : List UInt8) (hd : s.drop p = Lib.decDigits i ++ 40 :: (textV x ++ (textK false rs ++ 41 :: post))) (hn : n + 1 + Val.sizes (x :: rs) ≤ 128) (hp : p ≤ s.length) (IH : ∀ y ∈ x :: rs, RdOK s y) :
    Rn PP fVal 1 (dV (.mk i (x :: rs))) (rd s (p + (Lib.decDigits i).length + 1 + ((textV x).length + (textK false rs).length) + 1) (n + 1 + Val.sizes (x :: rs)) false) ([.lp (sub cVal [1, 1, 1, 0, 0, 0]), .blk 0, .code (sub cVal [1, 1, 1, 1])] ++ []) (mkE 125 [(0, .ptr 0 0), (2, .ptr 1 0), (3, di p)]) (stVl s (p + (Lib.decDigits i).length) n) := by
  obtain ⟨q, hq⟩ : ∃ q, q = p + (Lib.decDigits i).length := ⟨_, rfl⟩
  have hc : s[q]? = some 40 := by rw [hq]; exact drop_get hd
  have hsl : (s.drop p).take (q - p) = Lib.decDigits i := by rw [hq, hd]; simp
  have hlt := (List.getElem?_eq_some_iff.1 hc).1
  have hk := val_kids s hs i (x :: rs) (by have := Val.length_le (x :: rs); omega) IH post rs x [] (q + 1) (n + 1) rfl (by rw [hq]; exact drop_cons (drop_app hd)) hn
  rw [← hq]
  refine loop_vc mixed 125 [] (.t <| .y b40 <| .f <| .k <| .c (.tup [di i, .raw .nilIface]) <| .h (.q 7 1) <| .h (.o (db false) (St.mk [some (cRd s q (n + 1) false), some [di 0, .v .nils]] [])) <| .k <| .f <| .h .rn <| .h (.q 11 0) <| .h (.cl 2 1 1 2) <| .c1 (cRd s (q + 1) (n + 1) false) (db true) <| .k <| .ls [ke 0, ke 2, ch 6 (.ptr 2 0), ch 7 (db true)] (stK s (q + 1) (n + 1) i [])) ?_
  refine via (by kernel_rfl : (decide ((↑q : Int) < (↑(List.length s) : Int)) = true ∧ 0 ≤ (↑q : Int) ∧ s[Int.toNat (↑q : Int)]? = some b40 ∧ decide ((↑(UInt8.toNat b40) : Int) ≥ 48) = false ∧ (True ∧ True ∧ True ∧ True ∧ True) ∧ 0 ≤ (fun x => x.snd) (IntKind.i64, (↑p : Int)) ∧ (fun x => x.snd) (IntKind.i64, (↑p : Int)) ≤ (fun x => x.snd) (IntKind.i64, (↑q : Int)) ∧ (fun x => x.snd) (IntKind.i64, (↑q : Int)) ≤ (↑(List.length s) : Int) ∧ FSpec PP 90 [D.v (V.str (List.drop (Int.toNat ((fun x => x.snd) (IntKind.i64, (↑p : Int)))) (List.take (Int.toNat ((fun x => x.snd) (IntKind.i64, (↑q : Int)))) s)))] (St.mk [] []) (D.tup [di (↑i : Int), D.raw Value.nilIface]) (St.mk [] []) ∧ (True ∧ True ∧ True) ∧ OpOK PP (Oper.mk (some 77) (Op.binOp BinOp.neq 97 (Operand.tmp 76) (Operand.const Value.nilIface) 97) 4 "order.go:306" #[Edge.mk 0 Ground.data] none) [D.raw Value.nilIface, D.undef] (St.mk [some [D.v (V.str s), di (↑q : Int), di (IntKind.wrap IntKind.i64 ((↑n : Int) + 1)), db false], some [di 0, D.v V.nils]] []) (db false) (St.mk [some (cRd s q (n + 1) false), some [di 0, D.v V.nils]] []) ∧ decide ((↑(n + 1) : Int) > 128) = false ∧ FSpec PP 89 [D.ptr 0 0, D.v (V.int IntKind.u8 40)] (St.mk [some (cRd s q (n + 1) false)] []) (db true) (St.mk [some (cRd s (q + 1) (n + 1) false)] []) ∧ D.ptr 2 0 = D.ptr 2 0 ∧ db true = db true ∧ [some (cRd s (q + 1) (n + 1) false), some [di 0, D.v V.nils], some [di (↑i : Int), D.acc 1 nV]] = [some (cRd s (q + 1) (n + 1) false), some [di 0, D.v V.nils], some [di (↑i : Int), D.acc 1 nV]] ∧ [(1, 2, nV)] = [(1, 2, nV)] ∧ Nv.It (RunC (CN 1) PP (fun env σ1 => ResOK PP fVal env σ1 (dV (Val.mk (↑i : Int) (x :: rs))) (rd s (q + 1 + (List.length (textV x) + List.length (textK false rs)) + 1) (n + 1 + Val.sizes (x :: rs)) false)) [KI.lp (sub cVal [1, 1, 1, 1, 1, 1, 1, 1, 1, 0, 1, 0, 0]), KI.blk 2, KI.code (sub cVal [1, 1, 1, 1, 1, 1, 1, 1, 1, 1])] (mkE 125 [(0, D.ptr 0 0), (2, D.ptr 1 0), (6, D.ptr 2 0), (7, db true)]) (stK s (q + 1) (n + 1) (↑i : Int) []))) = _) ?_
  rw [vb40, wrap_succ (by omega), List.drop_take, show ((q : Nat) : Int).toNat = q from rfl, show ((p : Nat) : Int).toNat = p from rfl]
  rw [hsl]
  exact ⟨decide_eq_true (by omega), by omega, hc, by decide, ⟨trivial, trivial, trivial, trivial, trivial⟩, by show (0 : Int) ≤ p; omega, by show (p : Int) ≤ q; omega, by show (q : Int) ≤ _; omega, atoi_spec i hi, ⟨trivial, trivial, trivial⟩, op_neNil rfl (by kernel_rfl), decide_eq_false (by omega), tk_hit s (by omega) q (n + 1) false 40 hc, rfl, rfl, rfl, rfl, ⟨hk⟩⟩
theorem val_spec (s : List UInt8) (hs : s.length ≤ 1000000) (N : Nat) : ∀ v : Val, v.size ≤ N → smB v = true → RdOK s v := by
  induction N with
  | zero => intro v h; have := v.size_pos; omega
  | succ N ih =>
    intro v hN hv p n post hd hpost hn
    cases v with
    | mk n0 ks =>
    simp only [smB, Bool.and_eq_true, decide_eq_true_eq] at hv
    obtain ⟨i, rfl⟩ : ∃ i : Nat, n0 = i := ⟨n0.toNat, by omega⟩
    have hi : i < 100 := by omega
    have hdg : ∀ c ∈ Lib.decDigits i, 48 ≤ c.toNat ∧ c.toNat ≤ 57 := dig_ok ⟨i, hi⟩
    obtain ⟨c0, dr, hdd⟩ : ∃ c0 dr, Lib.decDigits i = c0 :: dr := by
      have := dec_pos i
      cases h : Lib.decDigits i with
      | nil => rw [h] at this; simp at this
      | cons a b => exact ⟨a, b, rfl⟩
    have hd' : ∃ tl, s.drop p = Lib.decDigits i ++ tl := by
      refine ⟨textK true ks ++ (if ks.isEmpty then [] else [41]) ++ post, ?_⟩
      rw [hd]; simp [textV]
    obtain ⟨tl, hd2⟩ := hd'
    have hc0 : s[p]? = some c0 := by have := drop_get (a := []) (r := dr ++ tl) (c := c0) (p := p) (by rw [hd2, hdd]; rfl); simpa using this
    have hlt := (List.getElem?_eq_some_iff.1 hc0).1
    have h45 : c0 ≠ 45 := by
      intro e; subst e
      have := (hdg 45 (by rw [hdd]; simp)).1
      simp at this
    refine spec_vc mixed fVal cVal (by kernel_rfl) (by kernel_rfl) (by kernel_rfl) (by kernel_rfl) 125 (by kernel_rfl) [] (.c1 (cRd s p n false) (db false) <| .ls [ke 0, ke 2, ch 3 (di p)] (stVl s p n)) ?_
    refine via (by kernel_rfl : (FSpec PP 89 [D.ptr 0 0, D.v (V.int IntKind.u8 45)] (St.mk [some (cRd s p n false)] []) (db false) (St.mk [some (cRd s p n false)] []) ∧ di (↑p : Int) = di (↑p : Int) ∧ [some (cRd s p n false), some [di 0, D.v V.nils]] = [some (cRd s p n false), some [di 0, D.v V.nils]] ∧ Nv.It (RunC (CN (List.length (rd s p n false).H)) PP (fun env σ1 => ResOK PP fVal env σ1 (dV (Val.mk (↑i : Int) ks)) (rd s (p + List.length (textV (Val.mk (↑i : Int) ks))) (n + Val.size (Val.mk (↑i : Int) ks)) false)) [KI.lp (sub cVal [1, 1, 1, 0, 0, 0]), KI.blk 0, KI.code (sub cVal [1, 1, 1, 1])] (mkE 125 [(0, D.ptr 0 0), (2, D.ptr 1 0), (3, di (↑p : Int))]) (stVl s p n))) = _) ?_
    rw [vb45]
    have hrn := val_digits s hs p n (.mk (i : Int) ks) (p + (textV (.mk (i : Int) ks)).length) (n + (Val.mk (i : Int) ks).size) tl (Lib.decDigits i) p hdg hd2 (by
      have hp : p + (Lib.decDigits i).length ≤ s.length := by
        have := congrArg List.length hd2
        simp only [List.length_drop, List.length_append] at this; omega
      have hsl : (s.drop p).take (Lib.decDigits i).length = Lib.decDigits i := by rw [hd2]; simp
      cases ks with
      | nil =>
        have e1 : textV (.mk (i : Int) []) = Lib.decDigits i := by simp [textV, textK]
        have e2 : (Val.mk (i : Int) []).size = 1 := by simp [Val.size, Val.sizes]
        rw [e1, e2]
        refine val_leaf s hs p i n hi (by rw [e2] at hn; omega) hp hsl fun y hy => ?_
        rw [e1] at hd
        have hd3 := drop_app hd
        cases post with
        | nil =>
          have := congrArg (·[0]?) hd3
          simp only [List.getElem?_drop, Nat.add_zero, List.getElem?_nil] at this
          rw [this] at hy; cases hy
        | cons z r =>
          have := drop_get hd
          rw [hy] at this; cases this
          exact hpost _ _ rfl
      | cons x rs =>
        have e1 : textV (.mk (i : Int) (x :: rs)) = Lib.decDigits i ++ (40 :: (textV x ++ (textK false rs ++ [41]))) := by simp [textV, textK]
        have e2 : (Val.mk (i : Int) (x :: rs)).size = Val.sizes (x :: rs) + 1 := by simp [Val.size]; omega
        have e3 : p + (textV (.mk (i : Int) (x :: rs))).length = p + (Lib.decDigits i).length + 1 + ((textV x).length + (textK false rs).length) + 1 := by rw [e1]; simp only [List.length_append, List.length_cons, List.length_nil]; omega
        have e4 : n + (Val.mk (i : Int) (x :: rs)).size = n + 1 + Val.sizes (x :: rs) := by omega
        have hN2 : Val.sizes (x :: rs) ≤ N := by omega
        rw [e3, e4]
        refine val_node s hs i p n hi x rs post (by rw [hd, e1]; simp) (by omega) (by omega) fun y hy => ?_
        exact ih y (by have := Val.size_mem hy; omega) (smsB_mem hv.2.2 y hy))
    exact ⟨tk_miss s hs p n false 45 c0 hc0 h45, rfl, rfl, ⟨hrn⟩⟩
end Go.Proofs.YtopbcpgmffppjaaGreatDoor

namespace Go.Proofs.YtopbcpgmffppjaaGreatDoor
open Go.Dv Go.Nv
set_option maxRecDepth 20000
noncomputable abbrev fOPar : Func := Tryz.f38
noncomputable def cOPar : Code := fOPar.body.getD .skip
theorem oparse_spec (v : Val) (hv : smB v = true) (hn : v.size ≤ 128) : FSpec PP 38 [ds (textV v)] σ0 (.tup [dV v, di 0]) σ0 := by
  have hl := textV_len v hv
  have hr := val_spec (textV v) (by omega) 128 v hn hv 0 0 [] (by simp) (fun y r e => by cases e) (by omega)
  have ht := otext_spec v hv hn
  rw [Nat.zero_add, Nat.zero_add] at hr
  generalize textV v = s at *
  refine spec_vc mixed fOPar cOPar (by kernel_rfl) (by kernel_rfl) (by kernel_rfl) (by kernel_rfl) 45 (by kernel_rfl) [] (.f <| .c1 (cRd s s.length v.size false) (dV v) <| .k <| .f <| .c (.tup [ds s, di 0]) <| .k <| .f <| .r) ?_
  refine via (by kernel_rfl : (decide ((↑(List.length s) : Int) > 4096) = false ∧ FSpec PP 57 [D.ptr 0 0] (St.mk [some [D.v (V.str s), di 0, di 0, db false]] []) (dV v) (St.mk [some (cRd s (List.length s) (Val.size v) false)] []) ∧ ((↑(List.length s) : Int) != (↑(List.length s) : Int)) = false ∧ FSpec PP 25 [D.v (V.agg [vi (Val.n v), vVs (Val.kids v)])] (St.mk [] []) (D.tup [D.v (V.str s), di 0]) (St.mk [] []) ∧ (!s == s) = false ∧ D.tup [D.v (V.agg [vi (Val.n v), V.list (List.map eV (Val.kids v))]), di 0] = D.tup [dV v, di 0]) = _) ?_
  exact ⟨decide_eq_false (by omega), hr, by simp, ht, by simp, rfl⟩
end Go.Proofs.YtopbcpgmffppjaaGreatDoor

namespace Go.Proofs.YtopbcpgmffppjaaGreatDoor
open Go.Dv Go.Nv
set_option maxRecDepth 20000
structure Qst where
  kind : Int
  place : Int
  target : Val
abbrev vQ (q : Qst) : V := .agg [vi q.kind, vi q.place, vi q.target.n, vVs q.target.kids]
abbrev dQ (q : Qst) : D := .v (vQ q)
abbrev zeroV : Val := .mk 0 []
/-- a right model, of the type t -/
structure ModI (m : Mod) (t : Typ) : Prop where
  walks : FSpec PP 21 [dMod m] σ0 (di 0) σ0
  plain : FSpec PP 32 [dMod m] σ0 (db (plainB m)) σ0
  valid : ∀ v : Val, v.size ≤ 1000000 → FSpec PP 33 [dMod m, dV v] σ0 (db (validB t v)) σ0
  places : m.places.length ≤ 1000000
theorem Mod.ok.int {m : Mod} (h : m.ok) : ModI m (typM m) := by
  obtain ⟨h1, h2, h3, h4, h5, h6, h7, h8⟩ := h.sz
  exact ⟨wlk_spec m h, spl_spec m (by omega), fun v hv => mval_spec m h v hv, by omega⟩
def validQ (m : Mod) (t : Typ) (q : Qst) : Bool :=
  if q.kind < 1 ∨ q.kind ≥ 7 then false
  else if q.kind ≤ 2 then validB t q.target && (q.place == 0)
  else if q.kind = 3 then plainB m && ((cmpV q.target zeroV == 0) && (q.place == 0))
  else if q.kind = 4 then plainB m && ((cmpV q.target zeroV == 0) && (decide (0 ≤ q.place) && decide (q.place < m.places.length)))
  else (cmpV q.target zeroV == 0) && (q.place == 0)
noncomputable abbrev fQVal : Func := Tryz.f22
noncomputable def cQVal : Code := fQVal.body.getD .skip
theorem same0 (v : Val) (hv : v.size ≤ 1000000) : FSpec PP 28 [dV v, dV zeroV] σ0 (db (cmpV v zeroV == 0)) σ0 := ssame_spec v zeroV hv
theorem qval_place (m : Mod) (t : Typ) (hm : ModI m t) (p : Int) (v : Val) (hv : v.size ≤ 1000000) : FSpec PP 22 [dMod m, dQ ⟨4, p, v⟩] σ0 (db (validQ m t ⟨4, p, v⟩)) σ0 := by
  refine spec_vc mixed fQVal cQVal (by kernel_rfl) (by kernel_rfl) (by kernel_rfl) (by kernel_rfl) 65 (by kernel_rfl) [2, 3] (.c (db (plainB m)) <| .b .r <| .c (db (cmpV v zeroV == 0)) <| .b .r <| .k <| .b .r .r) ?_
  refine via (by kernel_rfl : (0 ≤ (Qst.mk 4 p v).kind ∧ (Qst.mk 4 p v).kind < (↑7 : Int) ∧ FSpec PP 32 [D.v (vMod m)] (St.mk [] []) (db (plainB m)) (St.mk [] []) ∧ ((!plainB m) = true → db false = db (validQ m t (Qst.mk 4 p v))) ∧ ((!plainB m) = false → FSpec PP 28 [D.v (V.agg [vi (Val.n (Qst.mk 4 p v).target), vVs (Val.kids (Qst.mk 4 p v).target)]), D.v (V.agg [vi 0, V.list []])] (St.mk [] []) (db (cmpV v zeroV == 0)) (St.mk [] []) ∧ ((!cmpV v zeroV == 0) = true → db false = db (validQ m t (Qst.mk 4 p v))) ∧ ((!cmpV v zeroV == 0) = false → (decide ((Qst.mk 4 p v).place ≥ 0) = true → db (decide ((Qst.mk 4 p v).place < (↑(List.length (List.map V.str m.places)) : Int))) = db (validQ m t (Qst.mk 4 p v))) ∧ (decide ((Qst.mk 4 p v).place ≥ 0) = false → db false = db (validQ m t (Qst.mk 4 p v)))))) = _) ?_
  refine ⟨by show (0 : Int) ≤ 4; decide, by show (4 : Int) < 7; decide, hm.plain, fun h => ?_, fun h => ⟨same0 v hv, fun h2 => ?_, fun h2 => ⟨fun h3 => ?_, fun h3 => ?_⟩⟩⟩
  all_goals (simp_all [validQ] <;> omega)
theorem qval_bounded (m : Mod) (t : Typ) (hm : ModI m t) (p : Int) (v : Val) (hv : v.size ≤ 1000000) : FSpec PP 22 [dMod m, dQ ⟨3, p, v⟩] σ0 (db (validQ m t ⟨3, p, v⟩)) σ0 := by
  refine spec_vc mixed fQVal cQVal (by kernel_rfl) (by kernel_rfl) (by kernel_rfl) (by kernel_rfl) 65 (by kernel_rfl) [2, 3] (.c (db (plainB m)) <| .b .r <| .c (db (cmpV v zeroV == 0)) <| .b .r .r) ?_
  refine via (by kernel_rfl : (0 ≤ (Qst.mk 3 p v).kind ∧ (Qst.mk 3 p v).kind < (↑7 : Int) ∧ FSpec PP 32 [D.v (vMod m)] (St.mk [] []) (db (plainB m)) (St.mk [] []) ∧ ((!plainB m) = true → db false = db (validQ m t (Qst.mk 3 p v))) ∧ ((!plainB m) = false → FSpec PP 28 [D.v (V.agg [vi (Val.n (Qst.mk 3 p v).target), vVs (Val.kids (Qst.mk 3 p v).target)]), D.v (V.agg [vi 0, V.list []])] (St.mk [] []) (db (cmpV v zeroV == 0)) (St.mk [] []) ∧ ((!cmpV v zeroV == 0) = true → db false = db (validQ m t (Qst.mk 3 p v))) ∧ ((!cmpV v zeroV == 0) = false → db ((Qst.mk 3 p v).place == 0) = db (validQ m t (Qst.mk 3 p v))))) = _) ?_
  refine ⟨by show (0 : Int) ≤ 3; decide, by show (3 : Int) < 7; decide, hm.plain, fun h => ?_, fun h => ⟨same0 v hv, fun h2 => ?_, fun h2 => ?_⟩⟩
  all_goals (simp_all [validQ] <;> omega)
theorem qval_cover (m : Mod) (t : Typ) (hm : ModI m t) (p : Int) (v : Val) (hv : v.size ≤ 1000000) : FSpec PP 22 [dMod m, dQ ⟨1, p, v⟩] σ0 (db (validQ m t ⟨1, p, v⟩)) σ0 := by
  refine spec_vc mixed fQVal cQVal (by kernel_rfl) (by kernel_rfl) (by kernel_rfl) (by kernel_rfl) 65 (by kernel_rfl) [2, 3] (.c (db (validB t v)) <| .b .r .r) ?_
  refine via (by kernel_rfl : (0 ≤ (Qst.mk 1 p v).kind ∧ (Qst.mk 1 p v).kind < (↑7 : Int) ∧ FSpec PP 33 [D.v (vMod m), D.v (V.agg [vi (Val.n (Qst.mk 1 p v).target), vVs (Val.kids (Qst.mk 1 p v).target)])] (St.mk [] []) (db (validB t v)) (St.mk [] []) ∧ ((!validB t v) = true → db false = db (validQ m t (Qst.mk 1 p v))) ∧ ((!validB t v) = false → db ((Qst.mk 1 p v).place == 0) = db (validQ m t (Qst.mk 1 p v)))) = _) ?_
  refine ⟨by show (0 : Int) ≤ 1; decide, by show (1 : Int) < 7; decide, hm.valid v hv, fun h => ?_, fun h => ?_⟩
  all_goals (simp_all [validQ] <;> omega)
theorem qval_reach (m : Mod) (t : Typ) (hm : ModI m t) (p : Int) (v : Val) (hv : v.size ≤ 1000000) : FSpec PP 22 [dMod m, dQ ⟨2, p, v⟩] σ0 (db (validQ m t ⟨2, p, v⟩)) σ0 := by
  refine spec_vc mixed fQVal cQVal (by kernel_rfl) (by kernel_rfl) (by kernel_rfl) (by kernel_rfl) 65 (by kernel_rfl) [2, 3] (.c (db (validB t v)) <| .b .r .r) ?_
  refine via (by kernel_rfl : (0 ≤ (Qst.mk 2 p v).kind ∧ (Qst.mk 2 p v).kind < (↑7 : Int) ∧ FSpec PP 33 [D.v (vMod m), D.v (V.agg [vi (Val.n (Qst.mk 2 p v).target), vVs (Val.kids (Qst.mk 2 p v).target)])] (St.mk [] []) (db (validB t v)) (St.mk [] []) ∧ ((!validB t v) = true → db false = db (validQ m t (Qst.mk 2 p v))) ∧ ((!validB t v) = false → db ((Qst.mk 2 p v).place == 0) = db (validQ m t (Qst.mk 2 p v)))) = _) ?_
  refine ⟨by show (0 : Int) ≤ 2; decide, by show (2 : Int) < 7; decide, hm.valid v hv, fun h => ?_, fun h => ?_⟩
  all_goals (simp_all [validQ] <;> omega)
theorem qval_dead (m : Mod) (t : Typ) (p : Int) (v : Val) (hv : v.size ≤ 1000000) : FSpec PP 22 [dMod m, dQ ⟨5, p, v⟩] σ0 (db (validQ m t ⟨5, p, v⟩)) σ0 := by
  refine spec_vc mixed fQVal cQVal (by kernel_rfl) (by kernel_rfl) (by kernel_rfl) (by kernel_rfl) 65 (by kernel_rfl) [2, 3] (.c (db (cmpV v zeroV == 0)) <| .b .r .r) ?_
  refine via (by kernel_rfl : (0 ≤ (Qst.mk 5 p v).kind ∧ (Qst.mk 5 p v).kind < (↑7 : Int) ∧ FSpec PP 28 [D.v (V.agg [vi (Val.n (Qst.mk 5 p v).target), vVs (Val.kids (Qst.mk 5 p v).target)]), D.v (V.agg [vi 0, V.list []])] (St.mk [] []) (db (cmpV v zeroV == 0)) (St.mk [] []) ∧ ((!cmpV v zeroV == 0) = true → db false = db (validQ m t (Qst.mk 5 p v))) ∧ ((!cmpV v zeroV == 0) = false → db ((Qst.mk 5 p v).place == 0) = db (validQ m t (Qst.mk 5 p v)))) = _) ?_
  refine ⟨by show (0 : Int) ≤ 5; decide, by show (5 : Int) < 7; decide, same0 v hv, fun h => ?_, fun h => ?_⟩
  all_goals (simp_all [validQ] <;> omega)
theorem qval_home (m : Mod) (t : Typ) (p : Int) (v : Val) (hv : v.size ≤ 1000000) : FSpec PP 22 [dMod m, dQ ⟨6, p, v⟩] σ0 (db (validQ m t ⟨6, p, v⟩)) σ0 := by
  refine spec_vc mixed fQVal cQVal (by kernel_rfl) (by kernel_rfl) (by kernel_rfl) (by kernel_rfl) 65 (by kernel_rfl) [2, 3] (.c (db (cmpV v zeroV == 0)) <| .b .r .r) ?_
  refine via (by kernel_rfl : (0 ≤ (Qst.mk 6 p v).kind ∧ (Qst.mk 6 p v).kind < (↑7 : Int) ∧ FSpec PP 28 [D.v (V.agg [vi (Val.n (Qst.mk 6 p v).target), vVs (Val.kids (Qst.mk 6 p v).target)]), D.v (V.agg [vi 0, V.list []])] (St.mk [] []) (db (cmpV v zeroV == 0)) (St.mk [] []) ∧ ((!cmpV v zeroV == 0) = true → db false = db (validQ m t (Qst.mk 6 p v))) ∧ ((!cmpV v zeroV == 0) = false → db ((Qst.mk 6 p v).place == 0) = db (validQ m t (Qst.mk 6 p v)))) = _) ?_
  refine ⟨by show (0 : Int) ≤ 6; decide, by show (6 : Int) < 7; decide, same0 v hv, fun h => ?_, fun h => ?_⟩
  all_goals (simp_all [validQ] <;> omega)
theorem qval_out (m : Mod) (p : Int) (v : Val) (k : Int) (hk : k < 1 ∨ k ≥ 7) : FSpec PP 22 [dMod m, dQ ⟨k, p, v⟩] σ0 (db false) σ0 := by
  by_cases h1 : decide (k < 1) = true
  · refine spec_vc mixed fQVal cQVal (by kernel_rfl) (by kernel_rfl) (by kernel_rfl) (by kernel_rfl) 65 (by kernel_rfl) [2, 3] (.t <| .k <| .r) ?_
    refine via (by kernel_rfl : (decide ((Qst.mk k p v).kind < 1) = true ∧ db false = db false) = _) ?_
    exact ⟨h1, rfl⟩
  · have h2 : decide (k ≥ 7) = true := by
      have : ¬ k < 1 := by simpa using h1
      exact decide_eq_true (by omega)
    refine spec_vc mixed fQVal cQVal (by kernel_rfl) (by kernel_rfl) (by kernel_rfl) (by kernel_rfl) 65 (by kernel_rfl) [2, 3] (.f <| .t <| .r) ?_
    refine via (by kernel_rfl : (decide ((Qst.mk k p v).kind < 1) = false ∧ decide ((Qst.mk k p v).kind ≥ 7) = true ∧ db false = db false) = _) ?_
    exact ⟨by simpa using h1, h2, rfl⟩
end Go.Proofs.YtopbcpgmffppjaaGreatDoor

namespace Go.Proofs.YtopbcpgmffppjaaGreatDoor
open Go.Dv Go.Nv
set_option maxRecDepth 20000
abbrev wCover : List UInt8 := [99, 111, 118, 101, 114]
abbrev wPlace : List UInt8 := [112, 108, 97, 99, 101]
noncomputable abbrev fQChk : Func := Tryz.f10
noncomputable def cQChk : Code := fQChk.body.getD .skip
theorem qchk_spec (m : Mod) (t : Typ) (hm : ModI m t) (q : Qst) (b : Bool) (h : FSpec PP 22 [dMod m, dQ q] σ0 (db b) σ0) : FSpec PP 10 [dMod m, dQ q] σ0 (di (if b then 0 else 48)) σ0 := by
  cases b with
  | true =>
    refine spec_vc mixed fQChk cQChk (by kernel_rfl) (by kernel_rfl) (by kernel_rfl) (by kernel_rfl) 15 (by kernel_rfl) [2, 3] (.c (di 0) <| .k <| .c (db true) <| .k .r) ?_
    refine via (by kernel_rfl : (FSpec PP 21 [D.v (vMod m)] (St.mk [] []) (di 0) (St.mk [] []) ∧ FSpec PP 22 [D.v (vMod m), D.v (vQ q)] (St.mk [] []) (db true) (St.mk [] []) ∧ di 0 = di (if true = true then 0 else 48)) = _) ?_
    exact ⟨hm.walks, h, rfl⟩
  | false =>
    refine spec_vc mixed fQChk cQChk (by kernel_rfl) (by kernel_rfl) (by kernel_rfl) (by kernel_rfl) 15 (by kernel_rfl) [2, 3] (.c (di 0) <| .k <| .c (db false) <| .k .r) ?_
    refine via (by kernel_rfl : (FSpec PP 21 [D.v (vMod m)] (St.mk [] []) (di 0) (St.mk [] []) ∧ FSpec PP 22 [D.v (vMod m), D.v (vQ q)] (St.mk [] []) (db false) (St.mk [] []) ∧ di 48 = di (if false = true then 0 else 48)) = _) ?_
    exact ⟨hm.walks, h, rfl⟩
abbrev wReach : List UInt8 := [114, 101, 97, 99, 104]
abbrev wBounded : List UInt8 := [98, 111, 117, 110, 100, 101, 100]
abbrev wDead : List UInt8 := [100, 101, 97, 100]
abbrev wHome : List UInt8 := [104, 111, 109, 101]
noncomputable abbrev fQTx : Func := Tryz.f13
noncomputable def cQTx : Code := fQTx.body.getD .skip
theorem qtx_bad (m : Mod) (q : Qst) (h : FSpec PP 10 [dMod m, dQ q] σ0 (di 48) σ0) : FSpec PP 13 [dMod m, dQ q] σ0 (.tup [ds [], di 48]) σ0 := by
  refine spec_vc mixed fQTx cQTx (by kernel_rfl) (by kernel_rfl) (by kernel_rfl) (by kernel_rfl) 52 (by kernel_rfl) [2, 3] (.c (di 48) <| .k .r) ?_
  refine via (by kernel_rfl : (FSpec PP 10 [D.v (vMod m), D.v (vQ q)] (St.mk [] []) (di 48) (St.mk [] []) ∧ D.tup [D.v (V.str (ByteArray.mk #[]).data.toList), di 48] = D.tup [D.v (V.str []), di 48]) = _) ?_
  exact ⟨h, rfl⟩
theorem qtx_place (m : Mod) (p : Nat) (v : Val) (nm : List UInt8) (hp : m.places[p]? = some nm) (hl : nm.length ≤ 1000) (h : FSpec PP 10 [dMod m, dQ ⟨4, p, v⟩] σ0 (di 0) σ0) : FSpec PP 13 [dMod m, dQ ⟨4, p, v⟩] σ0 (.tup [ds (wPlace ++ [32] ++ nm), di 0]) σ0 := by
  refine spec_vc mixed fQTx cQTx (by kernel_rfl) (by kernel_rfl) (by kernel_rfl) (by kernel_rfl) 52 (by kernel_rfl) [2, 3] (.c (di 0) <| .k <| .x (.str nm) .r) ?_
  refine via (by kernel_rfl : (FSpec PP 10 [D.v (vMod m), D.v (vQ (Qst.mk 4 (↑p : Int) v))] (St.mk [] []) (di 0) (St.mk [] []) ∧ 0 ≤ (Qst.mk 4 (↑p : Int) v).kind ∧ (Qst.mk 4 (↑p : Int) v).kind < (↑7 : Int) ∧ 6 ≤ 9223372036854775807 ∧ 0 ≤ (Qst.mk 4 (↑p : Int) v).place ∧ (List.map V.str m.places)[Int.toNat (Qst.mk 4 (↑p : Int) v).place]? = some (V.str nm) ∧ List.length ([112, 108, 97, 99, 101] ++ (ByteArray.mk #[32]).data.toList) + List.length nm ≤ 9223372036854775807 ∧ (True ∧ True) ∧ D.tup [D.v (V.str ([112, 108, 97, 99, 101] ++ (ByteArray.mk #[32]).data.toList ++ nm)), di 0] = D.tup [D.v (V.str (wPlace ++ [32] ++ nm)), di 0]) = _) ?_
  exact ⟨h, by show (0 : Int) ≤ 4; decide, by show (4 : Int) < 7; decide, by decide, by show (0 : Int) ≤ p; omega, idx_str hp, by show 6 + nm.length ≤ _; omega, ⟨trivial, trivial⟩, rfl⟩
theorem qtx_cover (m : Mod) (p : Int) (v : Val) (hv : smB v = true) (hs : v.size ≤ 128) (h : FSpec PP 10 [dMod m, dQ ⟨1, p, v⟩] σ0 (di 0) σ0) : FSpec PP 13 [dMod m, dQ ⟨1, p, v⟩] σ0 (.tup [ds (wCover ++ [32] ++ textV v), di 0]) σ0 := by
  refine spec_vc mixed fQTx cQTx (by kernel_rfl) (by kernel_rfl) (by kernel_rfl) (by kernel_rfl) 52 (by kernel_rfl) [2, 3] (.c (di 0) <| .k <| .c (.tup [ds (textV v), di 0]) <| .k .r) ?_
  refine via (by kernel_rfl : (FSpec PP 10 [D.v (vMod m), D.v (vQ (Qst.mk 1 p v))] (St.mk [] []) (di 0) (St.mk [] []) ∧ 0 ≤ (Qst.mk 1 p v).kind ∧ (Qst.mk 1 p v).kind < (↑7 : Int) ∧ FSpec PP 25 [D.v (V.agg [vi (Val.n (Qst.mk 1 p v).target), vVs (Val.kids (Qst.mk 1 p v).target)])] (St.mk [] []) (D.tup [D.v (V.str (textV v)), di 0]) (St.mk [] []) ∧ 6 ≤ 9223372036854775807 ∧ List.length ([99, 111, 118, 101, 114] ++ (ByteArray.mk #[32]).data.toList) + List.length (textV v) ≤ 9223372036854775807 ∧ D.tup [D.v (V.str ([99, 111, 118, 101, 114] ++ (ByteArray.mk #[32]).data.toList ++ textV v)), di 0] = D.tup [D.v (V.str (wCover ++ [32] ++ textV v)), di 0]) = _) ?_
  have hl := textV_len v hv
  exact ⟨h, by show (0 : Int) ≤ 1; decide, by show (1 : Int) < 7; decide, otext_spec v hv hs, by decide, by show 6 + (textV v).length ≤ _; omega, rfl⟩
theorem qtx_bounded (m : Mod) (p : Int) (v : Val) (h : FSpec PP 10 [dMod m, dQ ⟨3, p, v⟩] σ0 (di 0) σ0) : FSpec PP 13 [dMod m, dQ ⟨3, p, v⟩] σ0 (.tup [ds wBounded, di 0]) σ0 := by
  refine spec_vc mixed fQTx cQTx (by kernel_rfl) (by kernel_rfl) (by kernel_rfl) (by kernel_rfl) 52 (by kernel_rfl) [2, 3] (.c (di 0) <| .k .r) ?_
  refine via (by kernel_rfl : (FSpec PP 10 [D.v (vMod m), D.v (vQ (Qst.mk 3 p v))] (St.mk [] []) (di 0) (St.mk [] []) ∧ 0 ≤ (Qst.mk 3 p v).kind ∧ (Qst.mk 3 p v).kind < (↑7 : Int) ∧ D.tup [D.v (V.str [98, 111, 117, 110, 100, 101, 100]), di 0] = D.tup [D.v (V.str wBounded), di 0]) = _) ?_
  exact ⟨h, by show (0 : Int) ≤ 3; decide, by show (3 : Int) < 7; decide, rfl⟩
theorem qtx_dead (m : Mod) (p : Int) (v : Val) (h : FSpec PP 10 [dMod m, dQ ⟨5, p, v⟩] σ0 (di 0) σ0) : FSpec PP 13 [dMod m, dQ ⟨5, p, v⟩] σ0 (.tup [ds wDead, di 0]) σ0 := by
  refine spec_vc mixed fQTx cQTx (by kernel_rfl) (by kernel_rfl) (by kernel_rfl) (by kernel_rfl) 52 (by kernel_rfl) [2, 3] (.c (di 0) <| .k .r) ?_
  refine via (by kernel_rfl : (FSpec PP 10 [D.v (vMod m), D.v (vQ (Qst.mk 5 p v))] (St.mk [] []) (di 0) (St.mk [] []) ∧ 0 ≤ (Qst.mk 5 p v).kind ∧ (Qst.mk 5 p v).kind < (↑7 : Int) ∧ D.tup [D.v (V.str [100, 101, 97, 100]), di 0] = D.tup [D.v (V.str wDead), di 0]) = _) ?_
  exact ⟨h, by show (0 : Int) ≤ 5; decide, by show (5 : Int) < 7; decide, rfl⟩
theorem qtx_home (m : Mod) (p : Int) (v : Val) (h : FSpec PP 10 [dMod m, dQ ⟨6, p, v⟩] σ0 (di 0) σ0) : FSpec PP 13 [dMod m, dQ ⟨6, p, v⟩] σ0 (.tup [ds wHome, di 0]) σ0 := by
  refine spec_vc mixed fQTx cQTx (by kernel_rfl) (by kernel_rfl) (by kernel_rfl) (by kernel_rfl) 52 (by kernel_rfl) [2, 3] (.c (di 0) <| .k .r) ?_
  refine via (by kernel_rfl : (FSpec PP 10 [D.v (vMod m), D.v (vQ (Qst.mk 6 p v))] (St.mk [] []) (di 0) (St.mk [] []) ∧ 0 ≤ (Qst.mk 6 p v).kind ∧ (Qst.mk 6 p v).kind < (↑7 : Int) ∧ D.tup [D.v (V.str [104, 111, 109, 101]), di 0] = D.tup [D.v (V.str wHome), di 0]) = _) ?_
  exact ⟨h, by show (0 : Int) ≤ 6; decide, by show (6 : Int) < 7; decide, rfl⟩
end Go.Proofs.YtopbcpgmffppjaaGreatDoor

namespace Go.Proofs.YtopbcpgmffppjaaGreatDoor
open Go.Dv Go.Nv
set_option maxRecDepth 20000
/-- the sanity check's model -/
def m0 : Mod := ⟨1, [[97], [98]], [[120]], [], [], 0, 0, [], .mk 0 [.mk 0 [], .mk 0 []]⟩
theorem m0_made : MadeC m0 where
  kind := rfl
  states := .inr rfl
  places := .inl rfl
  letters := rfl
  ranks := rfl
  levels := rfl
  age := rfl
  count := by decide
  rules := fun k r h => by simp [m0] at h
  start := ⟨[0], rfl, by simp, rfl⟩
def tgt0 : Val := .mk 0 [.mk 1 [], .mk 7 []]
def txt0 : List UInt8 := [48, 40, 49, 32, 55, 41]
theorem tgt0_text : textV tgt0 = txt0 := by
  have h : ∀ i : Nat, i < 10 → Lib.decDigits i = [UInt8.ofNat (48 + i)] := fun i hi => by rw [Lib.decDigits_one hi]
  simp only [tgt0, textV, textK, show Int.toNat 0 = 0 from rfl, show Int.toNat 1 = 1 from rfl, show Int.toNat 7 = 7 from rfl, h 0 (by decide), h 1 (by decide), h 7 (by decide)]
  rfl
theorem int0 : ModI m0 (typM m0) := m0_made.ok.int
theorem chk_cover0 : FSpec PP 10 [dMod m0, dQ ⟨1, 0, tgt0⟩] σ0 (di 0) σ0 := by
  have h := qchk_spec m0 (typM m0) int0 ⟨1, 0, tgt0⟩ _ (qval_cover m0 (typM m0) int0 0 tgt0 (by decide +kernel))
  rwa [show validQ m0 (typM m0) ⟨1, 0, tgt0⟩ = true from by decide +kernel] at h
theorem chk_place0 : FSpec PP 10 [dMod m0, dQ ⟨4, 0, zeroV⟩] σ0 (di 0) σ0 := by
  have h := qchk_spec m0 (typM m0) int0 ⟨4, 0, zeroV⟩ _ (qval_place m0 (typM m0) int0 0 zeroV (by decide +kernel))
  rwa [show validQ m0 (typM m0) ⟨4, 0, zeroV⟩ = true from by decide +kernel] at h
theorem w01 : IntKind.wrap IntKind.i64 (0 + 1) = 1 := by decide
theorem w12 : IntKind.wrap IntKind.i64 (1 + 1) = 2 := by decide
theorem w23 : IntKind.wrap IntKind.i64 (2 + 1) = 3 := by decide
theorem w34 : IntKind.wrap IntKind.i64 (3 + 1) = 4 := by decide
noncomputable abbrev fRdq : Func := Tryz.f27
noncomputable def cRdq : Code := fRdq.body.getD .skip
theorem rdq_cover : FSpec PP 27 [dMod m0, ds (wCover ++ [32] ++ txt0)] σ0 (.tup [dQ ⟨1, 0, tgt0⟩, db true]) σ0 := by
  refine spec_vc mixed fRdq cRdq (by kernel_rfl) (by kernel_rfl) (by kernel_rfl) (by kernel_rfl) 79 (by kernel_rfl) [2] (.c (.tup [ds wCover, ds txt0, db true]) <| .n <| .n <| .c (.tup [dV tgt0, di 0]) <| .n <| .x (.str [120]) <| .n <| .c (.tup [ds (wCover ++ [32] ++ txt0), di 0]) <| .r) ?_
  refine via (by kernel_rfl : (FSpec PP 37 [D.v (V.str (wCover ++ [32] ++ txt0)), D.v (V.str (ByteArray.mk #[32]).data.toList)] (St.mk [] []) (D.tup [D.v (V.str wCover), D.v (V.str txt0), db true]) (St.mk [] []) ∧ iz 0 ≤ 0 ∧ 0 < (↑7 : Int) ∧ 0 ≤ IntKind.wrap IntKind.i64 (0 + 1) ∧ IntKind.wrap IntKind.i64 (0 + 1) < (↑7 : Int) ∧ FSpec PP 38 [D.v (V.str txt0)] (St.mk [] []) (D.tup [dV tgt0, di 0]) (St.mk [] []) ∧ iz 0 ≤ 0 ∧ some (V.str [120]) = some (V.str [120]) ∧ FSpec PP 13 [D.v (vMod m0), D.v (V.agg [vi (IntKind.wrap IntKind.i64 (0 + 1)), vi 0, vi (Val.n tgt0), vVs (Val.kids tgt0)])] (St.mk [] []) (D.tup [D.v (V.str (wCover ++ [32] ++ txt0)), di 0]) (St.mk [] []) ∧ D.tup [D.v (V.agg [vi (IntKind.wrap IntKind.i64 (0 + 1)), vi 0, vi (Val.n tgt0), V.list [eV (Val.mk 1 []), eV (Val.mk 7 [])]]), db (wCover ++ [32] ++ txt0 == wCover ++ [32] ++ txt0)] = D.tup [dQ (Qst.mk 1 0 tgt0), db true]) = _) ?_
  have hc := cut_spec (wCover ++ [32] ++ txt0) (by decide)
  rw [show cutM (wCover ++ [32] ++ txt0) = (wCover, txt0, true) from by decide +kernel] at hc
  have hp := oparse_spec tgt0 (by decide +kernel) (by decide +kernel)
  have ht := qtx_cover m0 0 tgt0 (by decide +kernel) (by decide +kernel) chk_cover0
  rw [tgt0_text] at hp ht
  rw [w01]
  exact ⟨hc, by decide, by decide, by decide, by decide, hp, by decide, rfl, ht, rfl⟩
theorem rdq_place : FSpec PP 27 [dMod m0, ds (wPlace ++ [32] ++ [120])] σ0 (.tup [dQ ⟨4, 0, zeroV⟩, db true]) σ0 := by
  refine spec_vc mixed fRdq cRdq (by kernel_rfl) (by kernel_rfl) (by kernel_rfl) (by kernel_rfl) 79 (by kernel_rfl) [2] (.c (.tup [ds wPlace, ds [120], db true]) <| .n <| .n <| .n <| .n <| .n <| .n <| .x (.str [120]) <| .n <| .c (.tup [ds (wPlace ++ [32] ++ [120]), di 0]) <| .r) ?_
  refine via (by kernel_rfl : (FSpec PP 37 [D.v (V.str (wPlace ++ [32] ++ [120])), D.v (V.str (ByteArray.mk #[32]).data.toList)] (St.mk [] []) (D.tup [D.v (V.str wPlace), D.v (V.str [120]), db true]) (St.mk [] []) ∧ iz 0 ≤ 0 ∧ 0 < (↑7 : Int) ∧ 0 ≤ IntKind.wrap IntKind.i64 (0 + 1) ∧ IntKind.wrap IntKind.i64 (0 + 1) < (↑7 : Int) ∧ 0 ≤ IntKind.wrap IntKind.i64 (IntKind.wrap IntKind.i64 (0 + 1) + 1) ∧ IntKind.wrap IntKind.i64 (IntKind.wrap IntKind.i64 (0 + 1) + 1) < (↑7 : Int) ∧ 0 ≤ IntKind.wrap IntKind.i64 (IntKind.wrap IntKind.i64 (IntKind.wrap IntKind.i64 (0 + 1) + 1) + 1) ∧ IntKind.wrap IntKind.i64 (IntKind.wrap IntKind.i64 (IntKind.wrap IntKind.i64 (0 + 1) + 1) + 1) < (↑7 : Int) ∧ 0 ≤ IntKind.wrap IntKind.i64 (IntKind.wrap IntKind.i64 (IntKind.wrap IntKind.i64 (IntKind.wrap IntKind.i64 (0 + 1) + 1) + 1) + 1) ∧ IntKind.wrap IntKind.i64 (IntKind.wrap IntKind.i64 (IntKind.wrap IntKind.i64 (IntKind.wrap IntKind.i64 (0 + 1) + 1) + 1) + 1) < (↑7 : Int) ∧ iz 0 ≤ 0 ∧ some (V.str [120]) = some (V.str [120]) ∧ FSpec PP 13 [D.v (vMod m0), D.v (V.agg [vi (IntKind.wrap IntKind.i64 (IntKind.wrap IntKind.i64 (IntKind.wrap IntKind.i64 (IntKind.wrap IntKind.i64 (0 + 1) + 1) + 1) + 1)), vi 0, vi 0, V.list []])] (St.mk [] []) (D.tup [D.v (V.str (wPlace ++ [32] ++ [120])), di 0]) (St.mk [] []) ∧ D.tup [D.v (V.agg [vi (IntKind.wrap IntKind.i64 (IntKind.wrap IntKind.i64 (IntKind.wrap IntKind.i64 (IntKind.wrap IntKind.i64 (0 + 1) + 1) + 1) + 1)), vi 0, vi 0, V.list []]), db (wPlace ++ [32] ++ [120] == wPlace ++ [32] ++ [120])] = D.tup [dQ (Qst.mk 4 0 zeroV), db true]) = _) ?_
  have hc := cut_spec (wPlace ++ [32] ++ [120]) (by decide)
  rw [show cutM (wPlace ++ [32] ++ [120]) = (wPlace, [120], true) from by decide +kernel] at hc
  have ht := qtx_place m0 0 zeroV [120] rfl (by decide) chk_place0
  rw [w01, w12, w23, w34]
  exact ⟨hc, by decide, by decide, by decide, by decide, by decide, by decide, by decide, by decide, by decide, by decide, by decide, rfl, ht, rfl⟩
noncomputable abbrev fQPar : Func := Tryz.f15
noncomputable def cQPar : Code := fQPar.body.getD .skip
theorem qpar_ok (m : Mod) (t : Typ) (hm : ModI m t) (q : Qst) (s : List UInt8) (hs : s.length ≤ 4096) (h : FSpec PP 27 [dMod m, ds s] σ0 (.tup [dQ q, db true]) σ0) : FSpec PP 15 [dMod m, ds s] σ0 (.tup [dQ q, di 0]) σ0 := by
  refine spec_vc mixed fQPar cQPar (by kernel_rfl) (by kernel_rfl) (by kernel_rfl) (by kernel_rfl) 29 (by kernel_rfl) [2] (.c (di 0) <| .k <| .f <| .c (.tup [dQ q, db true]) <| .k .r) ?_
  refine via (by kernel_rfl : (FSpec PP 21 [D.v (vMod m)] (St.mk [] []) (di 0) (St.mk [] []) ∧ decide ((↑(List.length s) : Int) > 4096) = false ∧ FSpec PP 27 [D.v (vMod m), D.v (V.str s)] (St.mk [] []) (D.tup [dQ q, db true]) (St.mk [] []) ∧ D.tup [D.v (V.agg [vi q.kind, vi q.place, vi (Val.n q.target), V.list (List.map eV (Val.kids q.target))]), di 0] = D.tup [dQ q, di 0]) = _) ?_
  exact ⟨hm.walks, decide_eq_false (by omega), h, rfl⟩
noncomputable abbrev fSane : Func := Tryz.f7
noncomputable def cSane : Code := fSane.body.getD .skip
theorem sane_spec : FSpec PP 7 [] σ0 (db true) σ0 := by
  refine spec_vc mixed fSane cSane (by kernel_rfl) (by kernel_rfl) (by kernel_rfl) (by kernel_rfl) 57 (by kernel_rfl) [] (.c (.tup [dQ ⟨1, 0, tgt0⟩, di 0]) <| .c (.tup [dQ ⟨4, 0, zeroV⟩, di 0]) <| .x (vVal (.mk 1 [])) <| .x (vVal (.mk 7 [])) <| .r) ?_
  refine via (by kernel_rfl : (FSpec PP 15 [D.v (V.agg [vi 1, V.list [V.str (ByteArray.mk #[97]).data.toList, V.str (ByteArray.mk #[98]).data.toList], V.list [V.str (ByteArray.mk #[120]).data.toList], V.list [], V.list [], vi 0, vi 0, V.list [], vi 0, V.list [V.agg [vi 0, V.list []], V.agg [vi 0, V.list []]]]), D.v (V.str (ByteArray.mk #[99, 111, 118, 101, 114, 32, 48, 40, 49, 32, 55, 41]).data.toList)] (St.mk [] []) (D.tup [dQ (Qst.mk 1 0 tgt0), di 0]) (St.mk [] []) ∧ FSpec PP 15 [D.v (V.agg [vi 1, V.list [V.str (ByteArray.mk #[97]).data.toList, V.str (ByteArray.mk #[98]).data.toList], V.list [V.str (ByteArray.mk #[120]).data.toList], V.list [], V.list [], vi 0, vi 0, V.list [], vi 0, V.list [V.agg [vi 0, V.list []], V.agg [vi 0, V.list []]]]), D.v (V.str (ByteArray.mk #[112, 108, 97, 99, 101, 32, 120]).data.toList)] (St.mk [] []) (D.tup [dQ (Qst.mk 4 0 zeroV), di 0]) (St.mk [] []) ∧ iz 0 ≤ 0 ∧ some (eV (Val.mk 1 [])) = some (vVal (Val.mk 1 [])) ∧ iz 0 ≤ 1 ∧ some (eV (Val.mk 7 [])) = some (vVal (Val.mk 7 [])) ∧ db ((Qst.mk 4 0 zeroV).kind == 4) = db true) = _) ?_
  exact ⟨qpar_ok m0 _ int0 ⟨1, 0, tgt0⟩ _ (by decide) rdq_cover, qpar_ok m0 _ int0 ⟨4, 0, zeroV⟩ _ (by decide) rdq_place, by decide, rfl, by decide, rfl, rfl⟩
end Go.Proofs.YtopbcpgmffppjaaGreatDoor

namespace Go.Proofs.YtopbcpgmffppjaaGreatDoor
open Go.Dv Go.Nv
set_option maxRecDepth 20000
theorem op_new (s : List UInt8) {o : Oper} {c : Call} {fo : Operand} (ho : o.op = .call c) (hc : c.callee = .value fo) : OpOK PP o [.v (.fn 8 [] []), .v (vBs s)] σ0 (.ptr 0 0) (dz (s.take 200) 0) := by
  have := op_callG (σ := σ0) ho hc (fD := .v (.fn 8 [] [])) rfl (ds := [.v (vBs s)]) [] id (new_spec s) (.cons (.ren (dc := .v (vBs s)) rfl) .nil) .nil (by simp) rfl (by simp) (by simp) rfl (by rfl)
  simp [renH, backH, renOwn, D.ren, D.rens, rho] at this
  exact this
end Go.Proofs.YtopbcpgmffppjaaGreatDoor
