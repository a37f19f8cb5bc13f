/-
  The library's functions on texts: the kit's contracts, laid at this program.
-/
import Derived.Test.YtopbcpgmffppjaaGreatDoorEe
import Derived.Shelf.Strings.BuilderK
import Derived.Shelf.Strings.Cut
import Derived.Shelf.Strconv.Itoa3
import Derived.WalkKit
import Derived.BigCall
import Derived.Test.YtopbcpgmffppjaaGreatDoorEb
import Derived.Shelf.Strconv.AtoiAll
namespace Go.Proofs
open Go.Shelf Go.RowKit
def Tryz.lays166_ren : Go.Shelf.Ren := ⟨fun | 166 => 53 | 240 => 86 | 276 => 116 | n => n, fun | 0 => 0 | 3 => 3 | 4 => 4 | 9 => 9 | 20 => 20 | 37 => 22 | 5 => 5 | 70 => 75 | 72 => 77 | 75 => 97 | 80 => 79 | 164 => 145 | n => n, fun | n => n⟩
theorem Tryz.lays166 : Go.Proofs.Lays.n166 Tryz.prog Tryz.lays166_ren := {
  mixed := by kernel_rfl
  f166 := Tryz.func53.trans (congrArg some (by kernel_rfl))
  f240 := Tryz.func86.trans (congrArg some (by kernel_rfl))
  f276 := Tryz.func116.trans (congrArg some (by kernel_rfl))
  t0 := Tryz.underlying0
  a0 := Tryz.isAgg0
  z0 := Tryz.sizeOf0
  v0 := Tryz.zeroValue0
  t3 := Tryz.underlying3
  a3 := Tryz.isAgg3
  z3 := Tryz.sizeOf3
  v3 := Tryz.zeroValue3
  t4 := Tryz.underlying4
  a4 := Tryz.isAgg4
  z4 := Tryz.sizeOf4
  v4 := Tryz.zeroValue4
  t9 := Tryz.underlying9
  a9 := Tryz.isAgg9
  z9 := Tryz.sizeOf9
  v9 := Tryz.zeroValue9
  t20 := Tryz.underlying20
  a20 := Tryz.isAgg20
  z20 := Tryz.sizeOf20
  v20 := Tryz.zeroValue20
  t37 := Tryz.underlying22
  a37 := Tryz.isAgg22
  z37 := Tryz.sizeOf22
  v37 := Tryz.zeroValue22
  t70 := Tryz.underlying75
  a70 := Tryz.isAgg75
  z70 := Tryz.sizeOf75
  v70 := Tryz.zeroValue75
  t72 := Tryz.underlying77
  a72 := Tryz.isAgg77
  z72 := Tryz.sizeOf77
  v72 := Tryz.zeroValue77
  t75 := Tryz.underlying97
  a75 := Tryz.isAgg97
  z75 := Tryz.sizeOf97
  v75 := Tryz.zeroValue97
  t164 := Tryz.underlying145
  a164 := Tryz.isAgg145
  z164 := Tryz.sizeOf145
  v164 := Tryz.zeroValue145 }
def Tryz.lays167_ren : Go.Shelf.Ren := ⟨fun | 167 => 55 | 240 => 86 | 276 => 116 | n => n, fun | 0 => 0 | 4 => 4 | 5 => 5 | 9 => 9 | 20 => 20 | 37 => 22 | 70 => 75 | 72 => 77 | 75 => 97 | 80 => 79 | 164 => 145 | n => n, fun | n => n⟩
theorem Tryz.lays167 : Go.Proofs.Lays.n167 Tryz.prog Tryz.lays167_ren := {
  mixed := by kernel_rfl
  f167 := Tryz.func55.trans (congrArg some (by kernel_rfl))
  f240 := Tryz.func86.trans (congrArg some (by kernel_rfl))
  f276 := Tryz.func116.trans (congrArg some (by kernel_rfl))
  t0 := Tryz.underlying0
  a0 := Tryz.isAgg0
  z0 := Tryz.sizeOf0
  v0 := Tryz.zeroValue0
  t4 := Tryz.underlying4
  a4 := Tryz.isAgg4
  z4 := Tryz.sizeOf4
  v4 := Tryz.zeroValue4
  t5 := Tryz.underlying5
  a5 := Tryz.isAgg5
  z5 := Tryz.sizeOf5
  v5 := Tryz.zeroValue5
  t9 := Tryz.underlying9
  a9 := Tryz.isAgg9
  z9 := Tryz.sizeOf9
  v9 := Tryz.zeroValue9
  t20 := Tryz.underlying20
  a20 := Tryz.isAgg20
  z20 := Tryz.sizeOf20
  v20 := Tryz.zeroValue20
  t37 := Tryz.underlying22
  a37 := Tryz.isAgg22
  z37 := Tryz.sizeOf22
  v37 := Tryz.zeroValue22
  t70 := Tryz.underlying75
  a70 := Tryz.isAgg75
  z70 := Tryz.sizeOf75
  v70 := Tryz.zeroValue75
  t72 := Tryz.underlying77
  a72 := Tryz.isAgg77
  z72 := Tryz.sizeOf77
  v72 := Tryz.zeroValue77
  t75 := Tryz.underlying97
  a75 := Tryz.isAgg97
  z75 := Tryz.sizeOf97
  v75 := Tryz.zeroValue97
  t164 := Tryz.underlying145
  a164 := Tryz.isAgg145
  z164 := Tryz.sizeOf145
  v164 := Tryz.zeroValue145 }
def Tryz.lays169_ren : Go.Shelf.Ren := ⟨fun | 169 => 36 | n => n, fun | 0 => 0 | 3 => 3 | 9 => 9 | 37 => 22 | 5 => 5 | 70 => 75 | 72 => 77 | 127 => 102 | n => n, fun | n => n⟩
theorem Tryz.lays169 : Go.Proofs.Lays.n169 Tryz.prog Tryz.lays169_ren := {
  mixed := by kernel_rfl
  f169 := Tryz.func36.trans (congrArg some (by kernel_rfl))
  t0 := Tryz.underlying0
  a0 := Tryz.isAgg0
  z0 := Tryz.sizeOf0
  v0 := Tryz.zeroValue0
  t3 := Tryz.underlying3
  a3 := Tryz.isAgg3
  z3 := Tryz.sizeOf3
  v3 := Tryz.zeroValue3
  t9 := Tryz.underlying9
  a9 := Tryz.isAgg9
  z9 := Tryz.sizeOf9
  v9 := Tryz.zeroValue9
  t37 := Tryz.underlying22
  a37 := Tryz.isAgg22
  z37 := Tryz.sizeOf22
  v37 := Tryz.zeroValue22
  t70 := Tryz.underlying75
  a70 := Tryz.isAgg75
  z70 := Tryz.sizeOf75
  v70 := Tryz.zeroValue75
  t72 := Tryz.underlying77
  a72 := Tryz.isAgg77
  z72 := Tryz.sizeOf77
  v72 := Tryz.zeroValue77
  t127 := Tryz.underlying102
  a127 := Tryz.isAgg102
  z127 := Tryz.sizeOf102
  v127 := Tryz.zeroValue102 }
def Tryz.lays171_ren : Go.Shelf.Ren := ⟨fun | 129 => 149 | 171 => 54 | 243 => 87 | 246 => 117 | 283 => 134 | 284 => 135 | 285 => 136 | 286 => 137 | 317 => 148 | 318 => 150 | 319 => 151 | 320 => 152 | 337 => 157 | 338 => 158 | n => n, fun | 0 => 0 | 2 => 2 | 3 => 3 | 4 => 4 | 5 => 5 | 9 => 9 | 20 => 20 | 37 => 22 | 46 => 149 | 51 => 162 | 53 => 157 | 171 => 156 | 173 => 160 | 212 => 173 | 213 => 174 | 232 => 187 | 233 => 188 | n => n, fun | 17 => 2 | 18 => 5 | 19 => 6 | n => n⟩
theorem Tryz.lays171 : Go.Proofs.Lays.n171 Tryz.prog Tryz.lays171_ren := {
  mixed := by kernel_rfl
  f129 := Tryz.func149.trans (congrArg some (by kernel_rfl))
  f171 := Tryz.func54.trans (congrArg some (by kernel_rfl))
  f243 := Tryz.func87.trans (congrArg some (by kernel_rfl))
  f246 := Tryz.func117.trans (congrArg some (by kernel_rfl))
  f283 := Tryz.func134.trans (congrArg some (by kernel_rfl))
  f284 := Tryz.func135.trans (congrArg some (by kernel_rfl))
  f285 := Tryz.func136.trans (congrArg some (by kernel_rfl))
  f286 := Tryz.func137.trans (congrArg some (by kernel_rfl))
  f317 := Tryz.func148.trans (congrArg some (by kernel_rfl))
  f318 := Tryz.func150.trans (congrArg some (by kernel_rfl))
  f319 := Tryz.func151.trans (congrArg some (by kernel_rfl))
  f320 := Tryz.func152.trans (congrArg some (by kernel_rfl))
  f337 := Tryz.func157.trans (congrArg some (by kernel_rfl))
  f338 := Tryz.func158.trans (congrArg some (by kernel_rfl))
  t0 := Tryz.underlying0
  a0 := Tryz.isAgg0
  z0 := Tryz.sizeOf0
  v0 := Tryz.zeroValue0
  t2 := Tryz.underlying2
  a2 := Tryz.isAgg2
  z2 := Tryz.sizeOf2
  v2 := Tryz.zeroValue2
  t3 := Tryz.underlying3
  a3 := Tryz.isAgg3
  z3 := Tryz.sizeOf3
  v3 := Tryz.zeroValue3
  t4 := Tryz.underlying4
  a4 := Tryz.isAgg4
  z4 := Tryz.sizeOf4
  v4 := Tryz.zeroValue4
  t5 := Tryz.underlying5
  a5 := Tryz.isAgg5
  z5 := Tryz.sizeOf5
  v5 := Tryz.zeroValue5
  t9 := Tryz.underlying9
  a9 := Tryz.isAgg9
  z9 := Tryz.sizeOf9
  v9 := Tryz.zeroValue9
  t20 := Tryz.underlying20
  a20 := Tryz.isAgg20
  z20 := Tryz.sizeOf20
  v20 := Tryz.zeroValue20
  t37 := Tryz.underlying22
  a37 := Tryz.isAgg22
  z37 := Tryz.sizeOf22
  v37 := Tryz.zeroValue22
  t46 := Tryz.underlying149
  a46 := Tryz.isAgg149
  z46 := Tryz.sizeOf149
  v46 := Tryz.zeroValue149
  t51 := Tryz.underlying162
  a51 := Tryz.isAgg162
  z51 := Tryz.sizeOf162
  v51 := Tryz.zeroValue162
  t53 := Tryz.underlying157
  a53 := Tryz.isAgg157
  z53 := Tryz.sizeOf157
  v53 := Tryz.zeroValue157
  t171 := Tryz.underlying156
  a171 := Tryz.isAgg156
  z171 := Tryz.sizeOf156
  v171 := Tryz.zeroValue156
  t173 := Tryz.underlying160
  a173 := Tryz.isAgg160
  z173 := Tryz.sizeOf160
  v173 := Tryz.zeroValue160
  t212 := Tryz.underlying173
  a212 := Tryz.isAgg173
  z212 := Tryz.sizeOf173
  v212 := Tryz.zeroValue173
  t213 := Tryz.underlying174
  a213 := Tryz.isAgg174
  z213 := Tryz.sizeOf174
  t232 := Tryz.underlying187
  a232 := Tryz.isAgg187
  z232 := Tryz.sizeOf187
  v232 := Tryz.zeroValue187
  t233 := Tryz.underlying188
  a233 := Tryz.isAgg188
  z233 := Tryz.sizeOf188
  v233 := Tryz.zeroValue188
  g17 := by kernel_rfl
  g18 := by kernel_rfl
  g19 := by kernel_rfl }
theorem Tryz.bx166 : Builder.Extra Tryz.prog Tryz.lays166_ren := { sizeBuilder := by kernel_rfl, liesBuilder := by kernel_rfl, t5 := Tryz.underlying5, a5 := Tryz.isAgg5, z5 := Tryz.sizeOf5, v5 := Tryz.zeroValue5, infoByte := by kernel_rfl, cellsByte := by kernel_rfl, sizeByte := by kernel_rfl, neB5 := by decide }
theorem Tryz.bx167 : Builder.Extra Tryz.prog Tryz.lays167_ren := { sizeBuilder := by kernel_rfl, liesBuilder := by kernel_rfl, t5 := Tryz.underlying5, a5 := Tryz.isAgg5, z5 := Tryz.sizeOf5, v5 := Tryz.zeroValue5, infoByte := by kernel_rfl, cellsByte := by kernel_rfl, sizeByte := by kernel_rfl, neB5 := by decide }
theorem Tryz.bx169 : Builder.Extra Tryz.prog Tryz.lays169_ren := { sizeBuilder := by kernel_rfl, liesBuilder := by kernel_rfl, t5 := Tryz.underlying5, a5 := Tryz.isAgg5, z5 := Tryz.sizeOf5, v5 := Tryz.zeroValue5, infoByte := by kernel_rfl, cellsByte := by kernel_rfl, sizeByte := by kernel_rfl, neB5 := by decide }
section
variable (B b : Nat) (l : List UInt8) (w : World)
abbrev IsB : Prop := Lib.IsBuilderF 77 5 B b (Lib.byteCells l) w
theorem wstr (s : List UInt8) (h : IsB B b l w) (hlen : l.length + s.length ≤ 140737488355328) (hBw : B ≤ w.heap.size) :
    Calls Tryz.prog 53 #[.pointer (some ⟨b, 0, none⟩), .string ⟨s.toArray⟩] w fun e w' => e = .returned (.tuple #[.int .i64 s.length, .nilIface]) ∧ IsB B b (l ++ s) w' ∧ Below B w w' ∧ Lib.OthersKept 5 (some b) w w' := by
  have hs : ByteArray.size ⟨s.toArray⟩ = s.length := by simp [ByteArray.size]
  refine (Any.Builder_WriteString_k Tryz.lays166 Tryz.bx166 B b (Lib.byteCells l) ⟨s.toArray⟩ w h (by rw [Lib.byteCells_length, hs]; exact hlen) hBw).mono ?_
  rintro e w' ⟨rfl, h1, h2, h3⟩
  refine ⟨by rw [hs], .inr ?_, h2, h3⟩
  rw [Lib.byteCells_append]
  exact h1
theorem wbyte (c : UInt8) (h : IsB B b l w) (hlen : l.length + 1 ≤ 140737488355328) (hBw : B ≤ w.heap.size) :
    Calls Tryz.prog 55 #[.pointer (some ⟨b, 0, none⟩), .int .u8 c.toNat] w fun e w' => e = .returned .nilIface ∧ IsB B b (l ++ [c]) w' ∧ Below B w w' ∧ Lib.OthersKept 5 (some b) w w' := by
  refine (Any.Builder_WriteByte_k Tryz.lays167 Tryz.bx167 B b (Lib.byteCells l) c.toNat w h (by rw [Lib.byteCells_length]; exact hlen) hBw).mono ?_
  rintro e w' ⟨rfl, h1, h2, h3⟩
  refine ⟨rfl, .inr ?_, h2, h3⟩
  rw [Lib.byteCells_append]
  exact h1
theorem bstr (h : IsB B b l w) (hBw : B ≤ w.heap.size) :
    Calls Tryz.prog 36 #[.pointer (some ⟨b, 0, none⟩)] w fun e w' => e = .returned (.string ⟨l.toArray⟩) ∧ Below B w w' := by
  refine (Any.Builder_String_any_k Tryz.lays169 Tryz.bx169 B b l w h hBw).mono ?_
  rintro e w' ⟨rfl, _, h2, _⟩
  exact ⟨rfl, h2⟩
end
theorem itoaC (i : Nat) (hi : i < 100) (w : World) : Calls Tryz.prog 54 #[.int .i64 i] w fun e w' => e = .returned (.string ⟨(Lib.decDigits i).toArray⟩) ∧ w' = w :=
  Any.strconv_Itoa_small Tryz.lays171 i hi w
end Go.Proofs

namespace Go.Proofs.YtopbcpgmffppjaaGreatDoor
open Go.Dv Go.Nv Go.RowKit
set_option maxRecDepth 100000
mutual
/-- the text of a value of small numbers -/
def textV : Val → List UInt8
  | .mk n l => Lib.decDigits n.toNat ++ (textK true l ++ (if l.isEmpty then [] else [41]))
def textK : Bool → List Val → List UInt8
  | _, [] => []
  | f, v :: l => (if f then 40 else 32) :: (textV v ++ textK false l)
end
mutual
/-- are all numbers small? -/
def smB : Val → Bool
  | .mk n l => decide (0 ≤ n) && (decide (n < 100) && smsB l)
def smsB : List Val → Bool
  | [] => true
  | v :: l => smB v && smsB l
end
/-- what is known of memory lies below B -/
structure KnB (M : Mem) (B : Nat) (w : World) : Prop where
  lt : ∀ b o v, M b o = some v → b < B
  at_ : ∀ b o v, M b o = some v → w.cell? ⟨b, o, none⟩ = some v
theorem KnB.on {M : Mem} {B : Nat} {w w' : World} (h : KnB M B w) (hb : Below B w w') : KnB M B w' := ⟨h.lt, fun b o v hm => (hb.cell (h.lt b o v hm)).trans (h.at_ b o v hm)⟩
theorem isB_lt {B b : Nat} {l : List UInt8} {w : World} (h : IsB B b l w) : B ≤ b ∧ b < w.heap.size := by
  have : ∀ p, Lib.BuilderAtF 77 5 B b p (Lib.byteCells l) w → B ≤ b ∧ b < w.heap.size := fun p h => by
    obtain ⟨h1, v, h2, _⟩ := h
    exact ⟨h1, (Array.getElem?_eq_some_iff.1 h2).1⟩
  rcases h with h | h <;> exact this _ h
theorem isB_alloc {B b : Nat} {l : List UInt8} {w : World} (h : IsB B b l w) (o : Obj) : IsB B b l (w.alloc o) := by
  have : ∀ p, Lib.BuilderAtF 77 5 B b p (Lib.byteCells l) w → Lib.BuilderAtF 77 5 B b p (Lib.byteCells l) (w.alloc o) := fun p h => by
    obtain ⟨h1, v, h2, h3, h4⟩ := h
    refine ⟨h1, v, (Go.Lib.alloc_old w o b (Array.getElem?_eq_some_iff.1 h2).1).trans h2, ⟨h3.1, ?_⟩, h4⟩
    rcases h3.2 with h | ⟨g, cap, cur, fz, rfl, a1, a2, a3⟩
    · exact .inl h
    · exact .inr ⟨g, cap, cur, fz, rfl, a1, (Go.Lib.alloc_old w o g (Array.getElem?_eq_some_iff.1 a2).1).trans a2, a3⟩
  rcases h with h | h
  · exact .inl (this _ h)
  · exact .inr (this _ h)
theorem textK_snoc (f : Bool) (v : Val) : ∀ l : List Val, textK f (l ++ [v]) = textK f l ++ (if f && l.isEmpty then 40 else 32) :: textV v
  | [] => by cases f <;> simp [textK]
  | x :: l => by
    have h := textK_snoc false v l
    simp only [List.cons_append, textK, h, List.isEmpty_cons, Bool.and_false, Bool.false_and, List.append_assoc, Bool.false_eq_true, if_false]
theorem smsB_mem {l : List Val} (h : smsB l = true) : ∀ v ∈ l, smB v = true := by
  induction l with
  | nil => simp
  | cons x l ih =>
    simp only [smsB, Bool.and_eq_true] at h
    intro v hv
    rcases List.mem_cons.1 hv with rfl | hv
    · exact h.1
    · exact ih h.2 v hv
theorem dec_len {i : Nat} (hi : i < 100) : (Lib.decDigits i).length ≤ 2 := by
  by_cases hi2 : i < 10
  · rw [Lib.decDigits_one hi2]; simp
  · rw [Lib.decDigits_two hi2 hi]; simp
mutual
theorem textV_len : ∀ v : Val, smB v = true → (textV v).length + 2 ≤ 5 * v.size
  | .mk n l, h => by
    simp only [smB, Bool.and_eq_true, decide_eq_true_eq] at h
    have h1 := textK_len l h.2.2 true
    have h2 := dec_len (i := n.toNat) (by omega)
    simp only [textV, List.length_append, Val.size]
    split <;> simp <;> omega
theorem textK_len : ∀ l : List Val, smsB l = true → ∀ f, (textK f l).length ≤ 5 * Val.sizes l
  | [], _, f => by simp [textK]
  | v :: l, h, f => by
    simp only [smsB, Bool.and_eq_true] at h
    have h1 := textV_len v h.1
    have h2 := textK_len l h.2 false
    simp only [textK, List.length_cons, List.length_append, Val.sizes]; omega
end
theorem textK_take : ∀ l : List Val, smsB l = true → ∀ f k, (textK f (l.take k)).length ≤ 5 * Val.sizes (l.take k)
  | [], _, f, k => by simp [textK]
  | v :: l, h, f, 0 => by simp [textK]
  | v :: l, h, f, k + 1 => by
    simp only [smsB, Bool.and_eq_true] at h
    have h1 := textV_len v h.1
    have h2 := textK_take l h.2 false k
    simp only [List.take_succ_cons, textK, List.length_cons, List.length_append, Val.sizes]; omega
theorem sizes_get : ∀ (l : List Val) (k : Nat) (h : k < l.length), Val.sizes (l.take k) + l[k].size ≤ Val.sizes l
  | v :: l, 0, h => by simp [Val.sizes]
  | v :: l, k + 1, h => by
    have := sizes_get l k (by simpa using h)
    simp only [List.take_succ_cons, Val.sizes, List.getElem_cons_succ]; omega
theorem eVsz (v : Val) : (eV v).size = 2 := by rw [enc_eq]; rfl
theorem write_c (M : Mem) (N : Nat) : ∀ v : Val, v.size ≤ N → smB v = true → ∀ (l : List UInt8) (B b : Nat) (w : World) (n : Int) (a : Option Addr) (len cap : Nat), IsB B b l w → B ≤ w.heap.size → KnB M B w →
    repC M (eV v) [.int .i64 n, .slice a len cap] → l.length + 30 * v.size ≤ 1000000 →
    Calls Tryz.prog 35 #[.pointer (some ⟨b, 0, none⟩), .agg #[.int .i64 n, .slice a len cap]] w fun e w' => e = .returned (.tuple #[]) ∧ IsB B b (l ++ textV v) w' ∧ Below B w w' ∧ Lib.OthersKept 5 (some b) w w' := by
  induction N with
  | zero => intro v hv; have := v.size_pos; omega
  | succ N ih =>
    intro v hv hs l B b w n a len cap hB hBw hK hr hlen
    cases v with
    | mk n0 ks =>
    rw [enc_eq] at hr
    simp only [repC, repA, Val.n, Val.kids] at hr
    obtain ⟨_, _, e1, _, e2, _, _, e3, _, ⟨a', cap', e4, hcap, hsl⟩, e5⟩ := hr
    cases e1
    cases e3
    obtain rfl : n = n0 := by simpa using e2
    rw [List.length_map] at e4 hcap
    obtain ⟨rfl, rfl, rfl⟩ : a = a' ∧ len = ks.length ∧ cap = cap' := by simpa using e4
    have hsk : smsB ks = true ∧ 0 ≤ n ∧ n < 100 := by simp only [smB, Bool.and_eq_true, decide_eq_true_eq] at hs; exact ⟨hs.2.2, hs.1, hs.2.1⟩
    obtain ⟨hks, hn0, hn1⟩ := hsk
    obtain ⟨i, rfl, hi100⟩ : ∃ i : Nat, n = (i : Int) ∧ i < 100 := ⟨n.toNat, by omega, by omega⟩
    clear hs e2 e4 hn0 hn1
    have hdl : (Lib.decDigits i).length ≤ 2 := by
      by_cases hi2 : i < 10
      · rw [Lib.decDigits_one hi2]; simp
      · rw [Lib.decDigits_two hi2 hi100]; simp
    have hbl := isB_lt hB
    have hsz : Hid ((Val.mk (i : Int) ks).size = Val.sizes ks + 1) := by show _ = _; simp only [Val.size]; omega
    have hkm : ks.length ≤ 1000000 := by have := hsz.out; have := Val.length_le ks; omega
    have hsl := Lib.hid hsl
    have hv := Lib.hid hv
    clear hcap
    go_enter Tryz.func35, Tryz.ntmps35
    go_wp2_with (go_at_call 54; refine (itoaC i hi100 _).mono ?_; rintro e w1 ⟨rfl, rfl⟩; refine Hid.out ?_)
    refine Lib.hid ?_
    go_wp2_with (go_at_call 53; refine (wstr B b l _ (Lib.decDigits i) (isB_alloc hB _) (by omega) (by simp; omega)).mono ?_; rintro e w2 ⟨rfl, hB2, hb2, ho2⟩; refine Hid.out ?_)
    refine Lib.hid ?_
    have hk2 := ho2 w.heap.size _ (heap_alloc_new w _) (by simp; omega) (by simp)
    have c1 : w2.cell? ⟨w.heap.size, 1, none⟩ = some (.slice a ks.length cap) := by rw [Lib.cell_of_heap hk2]; rfl
    go_wp2
    go_loopw [14] (fun v wr => ∃ k : Nat, k ≤ ks.length ∧ v = .int .i64 k ∧ IsB B b (l ++ Lib.decDigits i ++ textK true (ks.take k)) wr ∧ Below B w2 wr ∧ Lib.OthersKept 5 (some b) w2 wr) (fun v _ => ks.length - (intOf v).toNat)
    case atStart => exact ⟨0, Nat.zero_le _, rfl, by simpa [textK] using hB2, Below.refl _ _, Lib.OthersKept.refl _ _ _⟩
    case round =>
      obtain ⟨k, hkl, rfl, hBr, hbr, hor⟩ := hrel
      by_cases hk : k < ks.length
      · rcases hsl.out with h | ⟨bk, off, sz, us, rfl, _, hin, hre⟩
        · have h0 : ks = [] := by simpa using h
          rw [h0] at hk; simp at hk
        have hx : (ks.map eV)[k]? = some (eV ks[k]) := by simp [hk]
        obtain ⟨u1, hr1, hl1, hg1⟩ := repE_get hre hx
        have h2 := repC_length hr1
        rw [eVsz] at h2
        obtain rfl : sz = 2 := by omega
        obtain ⟨n1, a1, len1, cap1, rfl⟩ : ∃ n1 a1 len1 cap1, u1 = [Value.int .i64 n1, .slice a1 len1 cap1] := by
          have hr2 := hr1
          rw [enc_eq] at hr2
          simp only [repC, repA] at hr2
          obtain ⟨_, _, e1, _, e2, _, _, e3, _, ⟨a', cap', e4, _⟩, e5⟩ := hr2
          simp only [List.cons.injEq, and_true] at e2 e4
          exact ⟨_, _, _, _, by rw [e1, e3, e5, e2, e4]⟩
        have g0 := hin _ _ (hg1 0 _ rfl)
        have g1 := hin _ _ (hg1 1 _ rfl)
        have hKr := ((hK.on ((Below.refl B w).alloc hBw _)).on hb2).on hbr
        have ca : wr.cell? ⟨bk, off + k * 2, none⟩ = some (.int .i64 n1) := hKr.at_ _ _ _ g0
        have cb : wr.cell? ⟨bk, off + k * 2 + 1, none⟩ = some (.slice a1 len1 cap1) := hKr.at_ _ _ _ g1
        clear hKr g0 g1
        clear hl1 hg1 h2 hx hre hin
        have hlk : Hid ((l ++ Lib.decDigits i ++ textK true (ks.take k)).length ≤ l.length + 2 + 5 * Val.sizes (ks.take k) ∧ Val.sizes (ks.take k) + ks[k].size ≤ Val.sizes ks) := by
          have h1 := textK_take ks hks true k
          have h2 := sizes_get ks k hk
          exact ⟨by simp only [List.length_append]; omega, h2⟩
        have hwr : B ≤ wr.heap.size ∧ b < wr.heap.size := ⟨by have := hbr.size; have := hb2.size; simp at *; omega, (isB_lt hBr).2⟩
        go_wp2_with (go_at_call 55; refine (wbyte B b _ _ _ (isB_alloc hBr _) (by have := hlk.out; have := hsz.out; omega) (by simp; omega)).mono ?_; rintro e w3 ⟨rfl, hB3, hb3, ho3⟩; refine Hid.out ?_)
        refine Lib.hid ?_
        have hk3 := ho3 wr.heap.size _ (heap_alloc_new wr _) (by simp; omega) (by simp)
        have d0 : w3.cell? ⟨wr.heap.size, 0, none⟩ = some (.int .i64 n1) := by rw [Lib.cell_of_heap hk3]; rfl
        have d1 : w3.cell? ⟨wr.heap.size, 1, none⟩ = some (.slice a1 len1 cap1) := by rw [Lib.cell_of_heap hk3]; rfl
        have hB3 := Lib.hid hB3
        have hKr3 := Lib.hid (((((hK.on ((Below.refl B w).alloc hBw _)).on hb2).on hbr).on ((Below.refl B wr).alloc hwr.1 _)).on hb3)
        have hmem : Hid (ks[k].size ≤ Val.sizes ks ∧ smB ks[k] = true ∧ ks[k].size ≤ N) := by
          have h1 := Val.size_mem (List.getElem_mem hk)
          have h2 := hsz.out
          exact ⟨h1, smsB_mem hks _ (List.getElem_mem hk), by have := hv.out; omega⟩
        clear hk3
        go_wp2_with (go_at_call 35; refine (ih ks[k] hmem.out.2.2 hmem.out.2.1 _ B b w3 n1 a1 len1 cap1 hB3.out (by have := hb3.size; simp at this; omega) hKr3.out hr1 (by have := hlk.out; have := hsz.out; have := hmem.out; simp only [List.length_append, List.length_cons, List.length_nil] at *; omega)).mono ?_; rintro e w4 ⟨rfl, hB4, hb4, ho4⟩; refine Hid.out ?_)
        refine Lib.hid ?_
        go_wp2
        go_roundw
        case rel =>
          refine ⟨k + 1, by omega, by go_num, ?_, ((hbr.trans ((Below.refl B wr).alloc hwr.1 _)).trans hb3).trans hb4, ((hor.trans ((Lib.OthersKept.refl _ _ wr).alloc _)).trans ho3).trans ho4⟩
          rw [List.take_succ_eq_append_getElem hk, textK_snoc]
          have hch : ∀ (j : Nat) (h : ((min (k : Int) 1)).toNat < ({ data := #[40, 32] } : ByteArray).size), ({ data := #[40, 32] } : ByteArray)[((min (k : Int) 1)).toNat]'h = (if (true && (ks.take k).isEmpty) = true then 40 else 32) := fun _ h => by
            rcases Nat.eq_zero_or_pos k with rfl | hp
            · simp; rfl
            · have h1 : (min (k : Int) 1).toNat = 1 := by omega
              have h2 : (ks.take k).isEmpty = false := by
                cases ks with
                | nil => simp at hk
                | cons x r => cases k with
                  | zero => omega
                  | succ k => rfl
              simp only [h1, h2]; rfl
          rw [hch 0] at hB4
          simpa only [List.append_assoc, List.singleton_append, List.cons_append, List.nil_append] using hB4
        case measure => simp [intOf]; omega
      · have hk : k = ks.length := by omega
        subst hk
        rw [List.take_length] at hBr
        have hk5 := hor w.heap.size _ hk2 (by simp; omega) (by simp)
        have e1 : wr.cell? ⟨w.heap.size, 1, none⟩ = some (.slice a ks.length cap) := by rw [Lib.cell_of_heap hk5]; rfl
        have hbw : B ≤ wr.heap.size := by have := hbr.size; have := hb2.size; simp at *; omega
        have htx : Hid (textV (.mk (i : Int) ks) = Lib.decDigits i ++ (textK true ks ++ (if ks.isEmpty then [] else [41]))) := rfl
        have hfin : Hid (Below B w wr ∧ Lib.OthersKept 5 (some b) w wr) := ⟨(((Below.refl B w).alloc hBw _).trans hb2).trans hbr, (((Lib.OthersKept.refl _ _ w).alloc _).trans ho2).trans hor⟩
        have hlk : Hid ((l ++ Lib.decDigits i ++ textK true ks).length + 1 ≤ 140737488355328) := by
          have h1 := textK_len ks hks true
          have h2 := hsz.out
          show _ ≤ _
          simp only [List.length_append]; omega
        clear hk5
        by_cases he : 0 < ks.length
        · go_wp2_with (go_at_call 55; refine (wbyte B b _ _ 41 hBr hlk.out hbw).mono ?_; rintro e w3 ⟨rfl, hB3, hb3, ho3⟩; refine Hid.out ?_)
          refine Lib.hid ?_
          go_wp2
          go_end0
          have h1 : ks.isEmpty = false := by cases ks <;> simp at he ⊢
          refine ⟨rfl, ?_, hfin.out.1.trans hb3, hfin.out.2.trans ho3⟩
          rw [htx.out, h1]
          simpa only [List.append_assoc, Bool.false_eq_true, if_false] using hB3
        · go_wp2
          go_end0
          have h1 : ks.isEmpty = true := by cases ks <;> simp at he ⊢
          refine ⟨rfl, ?_, hfin.out.1, hfin.out.2⟩
          rw [htx.out, h1]
          simpa only [List.append_assoc, if_true, List.append_nil] using hBr
/-- what is known of memory, as data's part of it: the world's -/
theorem wi_below {g : Gh} {w w' : World} (h : WRep g ⟨[], []⟩ w) (hb : Below w.heap.size w w') : WI ⟨g, w, ⟨[], []⟩⟩ g ⟨[], []⟩ w' where
  rep := { n := h.n, mem := fun b o v hm => (hb.cell (p := ⟨b, o, none⟩) (h.mem_lt hm)).trans (h.mem b o v hm), obj := fun i cs hi => by simp at hi, inj := fun i j cs ds hi => by simp at hi, own := fun k sz xs hx => by simp at hx, tags := by simp, sep := fun x hx => by simp at hx, ownObj := fun x hx => by simp at hx, fresh := h.fresh, gl := h.gl, gw := h.gw.keep fun b hlt => hb.block b hlt }
  M := Mem.le_refl _
  size := hb.size
  keep := fun b hlt _ => ⟨hb.block b hlt, fun _ => rfl⟩
  os := hb.os
  tape := hb.tape
  output := hb.output
  nE := Nat.le_refl _
  βE := fun _ _ => rfl
  κE := fun _ _ => rfl
  objs := fun i cs hi => by simp at hi
  owns := fun x hx => by simp at hx
  drawn := fun h => h.elim
/-- a contract out of a kit's one -/
theorem spec_below {f : FuncId} {ds : List D} {d : D} (hc : Callable PP f) (h : ∀ (g : Gh) (w : World) (args : List Value), WRep g ⟨[], []⟩ w → repDs g ds args → Calls PP f args.toArray w fun e w' => ∃ u, e = .returned u ∧ repD g d u ∧ Below w.heap.size w w') : FSpec PP f ds σ0 d σ0 := by
  refine ⟨hc, fun g w args hw ha => (h g w args hw ha).mono ?_⟩
  rintro e w' ⟨u, rfl, h1, h2⟩
  exact ⟨u, g, rfl, wi_below hw h2, h1⟩
theorem below_wi {g : Gh} {w w' : World} {g' : Gh} {σ' : St} (h : WI ⟨g, w, ⟨[], []⟩⟩ g' σ' w') : Below w.heap.size w w' := ⟨h.os, h.tape, h.output, h.size, fun b hb => (h.keep b hb not_priv).1⟩
theorem otext_spec (v : Val) (hv : smB v = true) (hs : v.size ≤ 128) : FSpec PP 25 [dV v] σ0 (.tup [ds (textV v), di 0]) σ0 := by
  refine spec_below ⟨_, Tryz.func25, by kernel_rfl, by kernel_rfl⟩ fun g w args hw ha => ?_
  obtain ⟨u0, rfl, h0⟩ := repDs_one.1 ha
  have hr : repC g.M (eV v) u0.cells.toList := by
    rw [enc_eq]; simp only [repD] at h0; exact repV_cells h0
  obtain ⟨n1, a1, len1, cap1, rfl⟩ : ∃ n1 a1 len1 cap1, u0 = .agg #[Value.int .i64 n1, .slice a1 len1 cap1] := by
    simp only [repD, repV_agg] at h0
    obtain ⟨ws, h1, rfl⟩ := h0
    simp only [repC, repA] at h1
    obtain ⟨_, _, rfl, _, e2, _, _, rfl, _, ⟨a', cap', e4, _⟩, rfl⟩ := h1
    simp only [List.cons.injEq, and_true] at e2 e4
    exact ⟨_, _, _, _, by rw [e2, e4]⟩
  have hr : repC g.M (eV v) [.int .i64 n1, .slice a1 len1 cap1] := hr
  have hK : KnB g.M w.heap.size w := ⟨fun b o x h => hw.mem_lt h, hw.mem⟩
  have hsz : ∀ w1 : World, WRep g ⟨[], []⟩ w1 → Calls PP 34 #[.agg #[Value.int .i64 n1, .slice a1 len1 cap1]] w1 fun e w' => e = .returned (.int .i64 v.size) ∧ Below w1.heap.size w1 w' := fun w1 hw1 => by
    refine ((osize_spec v (by omega)).2 g w1 [.agg #[Value.int .i64 n1, .slice a1 len1 cap1]] hw1 ha).mono ?_
    rintro e w' ⟨u, g', rfl, h1, h2⟩
    rw [show min (v.size : Int) 129 = v.size by omega] at h2
    simp only [repD, repV_int] at h2
    exact ⟨by rw [h2], below_wi h1⟩
  have hw1 := Lib.hid (wi_below hw ((Below.refl _ w).alloc (Nat.le_refl _) (.cells #[.int .i64 n1, .slice a1 len1 cap1] 31))).rep
  have hL : (textV v).length ≤ 640 := by have := textV_len v hv; omega
  clear h0 ha hw
  go_enter Tryz.func25, Tryz.ntmps25
  go_wp2_with (go_at_call 34; refine (hsz _ hw1.out).mono ?_; rintro e w1 ⟨rfl, hb1⟩; refine Hid.out ?_)
  refine Lib.hid ?_
  have hbox := hb1.block w.heap.size (by simp)
  rw [heap_alloc_new] at hbox
  have hlt : w.heap.size < w1.heap.size := by have := hb1.size; simp at this; omega
  have hb1 := Lib.hid hb1
  have c0 : ∀ o, (w1.alloc o).cell? ⟨w.heap.size, 0, none⟩ = some (.int .i64 n1) := fun o => by rw [Lib.cell_of_heap ((Go.Lib.alloc_old w1 o _ hlt).trans hbox)]; rfl
  have c1 : ∀ o, (w1.alloc o).cell? ⟨w.heap.size, 1, none⟩ = some (.slice a1 len1 cap1) := fun o => by rw [Lib.cell_of_heap ((Go.Lib.alloc_old w1 o _ hlt).trans hbox)]; rfl
  have hfr : Hid (IsB w1.heap.size w1.heap.size [] (w1.alloc (.cells #[.pointer none, .slice none 0 0] 77))) := Lib.IsBuilderF.of (Lib.fresh_isBuilder 77 5 w1)
  have hb2 : ∀ o, Below w.heap.size w (w1.alloc o) := fun o => (((Below.refl _ w).alloc (Nat.le_refl _) _).trans (hb1.out.mono (by simp))).alloc (by omega) o
  have hb3 : ∀ o, Below w1.heap.size w1 (w1.alloc o) := fun o => (Below.refl _ w1).alloc (Nat.le_refl _) o
  have hKw : Hid (∀ o, KnB g.M w1.heap.size (w1.alloc o)) := fun o => ⟨fun b x y h => Nat.lt_trans (hK.lt b x y h) hlt, fun b x y h => ((hb2 o).cell (p := ⟨b, x, none⟩) (hK.lt b x y h)).trans (hK.at_ b x y h)⟩
  have hb2 := Lib.hid hb2
  clear hbox hb3 hw1 hsz
  have hs := Lib.hid hs
  go_wp2_with (go_at_call 35; refine (write_c g.M 128 v hs.out hv [] w1.heap.size w1.heap.size _ n1 a1 len1 cap1 hfr.out (by simp) (hKw.out _) hr (by have := hs.out; simp; omega)).mono ?_; rintro e w2 ⟨rfl, hB2, hb4, _⟩; refine Hid.out ?_)
  refine Lib.hid ?_
  go_wp2_with (go_at_call 36; refine (bstr w1.heap.size w1.heap.size _ w2 hB2 (by have := hb4.size; simp at this; omega)).mono ?_; rintro e w3 ⟨rfl, hb5⟩; refine Hid.out ?_)
  refine Lib.hid ?_
  go_wp2
  go_ret2
  refine ⟨_, rfl, ?_, ((hb2.out _).trans (hb4.mono (Nat.le_of_lt hlt))).trans (hb5.mono (Nat.le_of_lt hlt))⟩
  simp only [repD, List.nil_append]
  exact ⟨_, rfl, repDs_two.2 ⟨_, _, rfl, by simp only [repD, repV_str]; rfl, by simp only [repD, repV_int]; rfl⟩⟩
end Go.Proofs.YtopbcpgmffppjaaGreatDoor

namespace Go.Proofs.YtopbcpgmffppjaaGreatDoor
open Go.Dv Go.Nv
set_option maxRecDepth 20000
/-- a call of a function that the model answers itself -/
theorem op_extern {P : Program} {o : Oper} {σ : St} {c : Call} {fo : Operand} (ho : o.op = .call c) (hc : c.callee = .value fo) {f : FuncId} {fn : Func} {e : Array Value → Sem Value} (hf : P.funcs[f]? = some fn) (hname : (fn.name == "runtime.NumGoroutine") = false)
    (hb : fn.body.isNone = true) (hn : Extern.findNext fn = none) (he : Extern.find fn = some e) {ds : List D} {d : D} (hrun : ∀ g us w, repDs g ds us → ∃ u, (e us.toArray).run P w = .ok u w ∧ repD g d u) : OpOK P o (.v (.fn f [] []) :: ds) σ d σ := by
  intro E g a w K Q hw hds hK
  obtain ⟨us, vs, ws, h1, hargs, h2, h3, h4⟩ := call_parts ho hc hds
  simp only [List.map_nil, repDs] at h2 h3
  subst h2 h3
  obtain ⟨u, hu, hd⟩ := hrun g ws w h4
  have hargs' : c.args.map a.eval = ws.toArray := by apply Array.ext'; simpa using hargs
  have hcall := run_callFunc_extern (P := P) hf hname hb hn he (#[] ++ ws.toArray ++ #[]) w
  have e2 : (#[] ++ ws.toArray ++ #[] : Array Value) = ws.toArray := by simp
  unfold Oper.wp execOp
  simp only [ho, resolve, hc, h1, hargs', Deferred.ofValue, Sem.run_bind, Sem.run_pure, Result.andThen_ok, invoke]
  rw [hcall, e2, hu]
  exact hK g w u hw g.le_refl hd
noncomputable abbrev fIxBy : Func := Tryz.f118
noncomputable def cIxBy : Code := fIxBy.body.getD .skip
theorem ixby_spec (s : List UInt8) : FSpec PP 118 [ds s, .v (.int .u8 32)] σ0 (di (Lib.indexByte s 32)) σ0 := by
  refine spec_vc mixed fIxBy cIxBy (by kernel_rfl) (by kernel_rfl) (by kernel_rfl) (by kernel_rfl) 8 (by kernel_rfl) [] (.h (.oc (di (Lib.indexByte s 32)) σ0) .r) ?_
  refine via (by kernel_rfl : ((∀ (o : Oper) (c : Call) (fo : Operand), o.op = Op.call c → c.callee = Callee.value fo → OpOK PP o [D.v (V.fn 138 [] []), D.v (V.str s), D.v (V.int IntKind.u8 32)] σ0 (di (Lib.indexByte s 32)) σ0) ∧ di (Lib.indexByte s 32) = di (Lib.indexByte s 32)) = _) ?_
  refine ⟨fun o c fo ho hc => ?_, rfl⟩
  refine op_extern ho hc Tryz.func138 (by kernel_rfl) (by kernel_rfl) (by kernel_rfl) (e := Extern.BytealgIndexByte.indexByte) (by kernel_rfl) fun g us w h => ?_
  obtain ⟨u, v, rfl, h1, h2⟩ := repDs_two.1 h
  simp only [repD, repV_str, repV_int] at h1 h2
  subst h1 h2
  refine ⟨.int .i64 (Lib.indexByte s 32), ?_, by simp only [repD, repV_int]⟩
  exact Lib.run_indexByteString ⟨s.toArray⟩ 32 w
def b32 : UInt8 := 32
noncomputable abbrev fIx : Func := Tryz.f88
noncomputable def cIx : Code := fIx.body.getD .skip
theorem ix_spec (s : List UInt8) : FSpec PP 88 [ds s, ds [32]] σ0 (di (Lib.indexByte s 32)) σ0 := by
  refine spec_vc mixed fIx cIx (by kernel_rfl) (by kernel_rfl) (by kernel_rfl) (by kernel_rfl) 143 (by kernel_rfl) [] (.f <| .b .r (.t <| .y b32 <| .c (di (Lib.indexByte s 32)) .r)) ?_
  refine via (by kernel_rfl : (((↑(List.length [32]) : Int) == 0) = false ∧ (([32] == s) = true → di 0 = di (Lib.indexByte s 32)) ∧ (([32] == s) = false → ((↑(List.length [32]) : Int) == 1) = true ∧ iz 0 ≤ 0 ∧ [32][Int.toNat 0]? = some b32 ∧ FSpec PP 118 [D.v (V.str s), D.v (V.int IntKind.u8 (↑(UInt8.toNat b32) : Int))] (St.mk [] []) (di (Lib.indexByte s 32)) (St.mk [] []) ∧ di (Lib.indexByte s 32) = di (Lib.indexByte s 32))) = _) ?_
  have e1 : Lib.indexByte [32] 32 = 0 := by simp [Lib.indexByte]
  have e2 : V.int IntKind.u8 ((b32.toNat : Nat) : Int) = V.int .u8 32 := by kernel_rfl
  refine ⟨by decide, fun h => ?_, fun _ => ⟨by decide, by decide, rfl, ?_, rfl⟩⟩
  · have h : [32] = s := by simpa using h
    rw [← h, e1]
  · rw [e2]; exact ixby_spec s
noncomputable abbrev fSCut : Func := Tryz.f56
noncomputable def cSCut : Code := fSCut.body.getD .skip
noncomputable abbrev fCut : Func := Tryz.f37
noncomputable def cCut : Code := fCut.body.getD .skip
def cutM (s : List UInt8) : List UInt8 × List UInt8 × Bool := if 0 ≤ Lib.indexByte s 32 then (s.take (Lib.indexByte s 32).toNat, s.drop ((Lib.indexByte s 32).toNat + 1), true) else (s, [], false)
theorem ixb_le (s : List UInt8) (c : UInt8) : -1 ≤ Lib.indexByte s c ∧ (Lib.indexByte s c < s.length ∨ Lib.indexByte s c = -1) := by
  induction s with
  | nil => exact ⟨Int.le_refl _, .inr rfl⟩
  | cons b s ih =>
    simp only [Lib.indexByte]
    split
    · exact ⟨by omega, .inl (by simp only [List.length_cons]; omega)⟩
    · split
      · exact ⟨Int.le_refl _, .inr rfl⟩
      · rename_i h1 h2
        have h3 : Lib.indexByte s c ≠ -1 := by simpa using h2
        rcases ih with ⟨h4, h5 | h5⟩
        · exact ⟨by omega, .inl (by simp only [List.length_cons]; omega)⟩
        · exact absurd h5 h3
theorem scut_spec (s : List UInt8) (hs : s.length ≤ 1000000) : FSpec PP 56 [ds s, ds [32]] σ0 (.tup [ds (cutM s).1, ds (cutM s).2.1, db (cutM s).2.2]) σ0 := by
  obtain ⟨h1, h2⟩ := ixb_le s 32
  have hi := ix_spec s
  generalize hx : Lib.indexByte s 32 = x at h1 h2 hi
  refine spec_vc mixed fSCut cSCut (by kernel_rfl) (by kernel_rfl) (by kernel_rfl) (by kernel_rfl) 23 (by kernel_rfl) [] (.c (di x) <| .b .r .r) ?_
  refine via (by kernel_rfl : (FSpec PP 88 [D.v (V.str s), D.v (V.str [32])] (St.mk [] []) (di x) (St.mk [] []) ∧ (decide (x ≥ 0) = true → 0 ≤ (fun x => x.snd) (IntKind.i64, x) ∧ (fun x => x.snd) (IntKind.i64, x) ≤ (↑(List.length s) : Int) ∧ 0 ≤ (fun x => x.snd) (IntKind.i64, IntKind.wrap IntKind.i64 (x + (↑(List.length [32]) : Int))) ∧ (fun x => x.snd) (IntKind.i64, IntKind.wrap IntKind.i64 (x + (↑(List.length [32]) : Int))) ≤ (↑(List.length s) : Int) ∧ D.tup [D.v (V.str (List.drop 0 (List.take (Int.toNat ((fun x => x.snd) (IntKind.i64, x))) s))), D.v (V.str (List.drop (Int.toNat ((fun x => x.snd) (IntKind.i64, IntKind.wrap IntKind.i64 (x + (↑(List.length [32]) : Int))))) (List.take (List.length s) s))), db true] = D.tup [D.v (V.str (cutM s).fst), D.v (V.str (cutM s).snd.fst), db (cutM s).snd.snd]) ∧ (decide (x ≥ 0) = false → D.tup [D.v (V.str s), D.v (V.str (ByteArray.mk #[]).data.toList), db false] = D.tup [D.v (V.str (cutM s).fst), D.v (V.str (cutM s).snd.fst), db (cutM s).snd.snd])) = _) ?_
  refine ⟨hi, fun h => ?_, fun h => ?_⟩
  · have h : 0 ≤ x := of_decide_eq_true h
    have h3 : x < s.length := by rcases h2 with h2 | h2 <;> omega
    rw [show ((([32] : List Nat).length : Nat) : Int) = 1 from rfl, wrap_id (n := x + 1) (by omega) (by omega)]
    refine ⟨h, by show x ≤ _; omega, by show 0 ≤ x + 1; omega, by show x + 1 ≤ _; omega, ?_⟩
    rw [cutM, hx, if_pos h, List.take_of_length_le (Nat.le_refl _), List.drop_zero]
    show D.tup [_, D.v (V.str (List.drop (x + 1).toNat s)), _] = _
    rw [show (x + 1).toNat = x.toNat + 1 by omega]
  · have h : ¬ x ≥ 0 := of_decide_eq_false h
    rw [cutM, hx, if_neg (by omega)]
theorem cut_spec (s : List UInt8) (hs : s.length ≤ 1000000) : FSpec PP 37 [ds s, ds [32]] σ0 (.tup [ds (cutM s).1, ds (cutM s).2.1, db (cutM s).2.2]) σ0 := by
  refine spec_vc mixed fCut cCut (by kernel_rfl) (by kernel_rfl) (by kernel_rfl) (by kernel_rfl) 13 (by kernel_rfl) [] (.c (.tup [ds (cutM s).1, ds (cutM s).2.1, db (cutM s).2.2]) .r) ?_
  refine via (by kernel_rfl : (FSpec PP 56 [D.v (V.str s), D.v (V.str [32])] (St.mk [] []) (D.tup [D.v (V.str (cutM s).fst), D.v (V.str (cutM s).snd.fst), db (cutM s).snd.snd]) (St.mk [] []) ∧ D.tup [D.v (V.str (cutM s).fst), D.v (V.str (cutM s).snd.fst), db (cutM s).snd.snd] = D.tup [D.v (V.str (cutM s).fst), D.v (V.str (cutM s).snd.fst), db (cutM s).snd.snd]) = _) ?_
  exact ⟨scut_spec s hs, rfl⟩
end Go.Proofs.YtopbcpgmffppjaaGreatDoor

namespace Go.Proofs.YtopbcpgmffppjaaGreatDoor
open Go.Dv Go.Nv
set_option maxRecDepth 20000
abbrev cRd (s : List UInt8) (at_ n : Nat) (bad : Bool) : List D := [ds s, di at_, di n, db bad]
abbrev rd (s : List UInt8) (at_ n : Nat) (bad : Bool) : St := ⟨[some (cRd s at_ n bad)], []⟩
noncomputable abbrev fTk : Func := Tryz.f89
noncomputable def cTk : Code := fTk.body.getD .skip
theorem tk_hit (s : List UInt8) (hs : s.length ≤ 1000000) (at_ n : Nat) (bad : Bool) (c : UInt8) (h : s[at_]? = some c) : FSpec PP 89 [.ptr 0 0, .v (vb c)] (rd s at_ n bad) (db true) (rd s (at_ + 1) n bad) := by
  refine spec_vc mixed fTk cTk (by kernel_rfl) (by kernel_rfl) (by kernel_rfl) (by kernel_rfl) 38 (by kernel_rfl) [] (.t <| .y c <| .t .r) ?_
  refine via (by kernel_rfl : (decide ((↑at_ : Int) < (↑(List.length s) : Int)) = true ∧ 0 ≤ (↑at_ : Int) ∧ s[Int.toNat (↑at_ : Int)]? = some c ∧ (True ∧ True ∧ True ∧ True ∧ True) ∧ ((↑(UInt8.toNat c) : Int) == (↑(UInt8.toNat c) : Int)) = true ∧ [some [D.v (V.str s), di (IntKind.wrap IntKind.i64 ((↑at_ : Int) + 1)), di (↑n : Int), db bad]] = [some (cRd s (at_ + 1) n bad)] ∧ db ((↑(UInt8.toNat c) : Int) == (↑(UInt8.toNat c) : Int)) = db true) = _) ?_
  have hlt := (List.getElem?_eq_some_iff.1 h).1
  refine ⟨decide_eq_true (by omega), by omega, by simpa using h, ⟨trivial, trivial, trivial, trivial, trivial⟩, by simp, ?_, by simp⟩
  rw [wrap_succ (by omega)]
theorem tk_miss (s : List UInt8) (hs : s.length ≤ 1000000) (at_ n : Nat) (bad : Bool) (c x : UInt8) (h : s[at_]? = some x) (hx : x ≠ c) : FSpec PP 89 [.ptr 0 0, .v (vb c)] (rd s at_ n bad) (db false) (rd s at_ n bad) := by
  refine spec_vc mixed fTk cTk (by kernel_rfl) (by kernel_rfl) (by kernel_rfl) (by kernel_rfl) 38 (by kernel_rfl) [] (.t <| .y x <| .f .r) ?_
  refine via (by kernel_rfl : (decide ((↑at_ : Int) < (↑(List.length s) : Int)) = true ∧ 0 ≤ (↑at_ : Int) ∧ s[Int.toNat (↑at_ : Int)]? = some x ∧ (True ∧ True ∧ True ∧ True ∧ True) ∧ ((↑(UInt8.toNat x) : Int) == (↑(UInt8.toNat c) : Int)) = false ∧ [some (cRd s at_ n bad)] = [some (cRd s at_ n bad)] ∧ db ((↑(UInt8.toNat x) : Int) == (↑(UInt8.toNat c) : Int)) = db false) = _) ?_
  have hlt := (List.getElem?_eq_some_iff.1 h).1
  have hne : (((x.toNat : Nat) : Int) == ((c.toNat : Nat) : Int)) = false := by
    rw [beq_eq_false_iff_ne]
    intro e
    exact hx (UInt8.toNat_inj.1 (by omega))
  exact ⟨decide_eq_true (by omega), by omega, by simpa using h, ⟨trivial, trivial, trivial, trivial, trivial⟩, hne, rfl, by rw [hne]⟩
theorem tk_end (s : List UInt8) (hs : s.length ≤ 1000000) (at_ n : Nat) (bad : Bool) (c : UInt8) (h : s.length ≤ at_) : FSpec PP 89 [.ptr 0 0, .v (vb c)] (rd s at_ n bad) (db false) (rd s at_ n bad) := by
  refine spec_vc mixed fTk cTk (by kernel_rfl) (by kernel_rfl) (by kernel_rfl) (by kernel_rfl) 38 (by kernel_rfl) [] (.f <| .k .r) ?_
  refine via (by kernel_rfl : (decide ((↑at_ : Int) < (↑(List.length s) : Int)) = false ∧ (True ∧ True ∧ True) ∧ [some (cRd s at_ n bad)] = [some (cRd s at_ n bad)] ∧ db false = db false) = _) ?_
  exact ⟨decide_eq_false (by omega), ⟨trivial, trivial, trivial⟩, rfl, rfl⟩
end Go.Proofs.YtopbcpgmffppjaaGreatDoor

namespace Go.Proofs
open Go.Shelf Go.RowKit
def Tryz.lays172_ren : Go.Shelf.Ren := ⟨fun | 129 => 149 | 171 => 54 | 172 => 90 | 205 => 155 | 243 => 87 | 244 => 122 | 245 => 123 | 246 => 117 | 247 => 140 | 279 => 141 | 280 => 142 | 281 => 143 | 282 => 144 | 283 => 134 | 284 => 135 | 285 => 136 | 286 => 137 | 287 => 153 | 316 => 154 | 317 => 148 | 318 => 150 | 319 => 151 | 320 => 152 | 321 => 159 | 322 => 160 | 337 => 157 | 338 => 158 | n => n, fun | 0 => 0 | 2 => 2 | 3 => 3 | 4 => 4 | 5 => 5 | 9 => 9 | 20 => 20 | 21 => 21 | 37 => 22 | 46 => 149 | 51 => 162 | 53 => 157 | 75 => 97 | 80 => 79 | 76 => 98 | 85 => 166 | 127 => 102 | 143 => 184 | 145 => 186 | 167 => 165 | 168 => 168 | 210 => 180 | 171 => 156 | 173 => 160 | 175 => 176 | 212 => 173 | 213 => 174 | 232 => 187 | 233 => 188 | n => n, fun | 15 => 3 | 16 => 4 | 17 => 2 | 18 => 5 | 19 => 6 | n => n⟩
theorem Tryz.lays172 : Go.Proofs.LaysC.n172 Tryz.prog Tryz.lays172_ren := {
  mixed := by kernel_rfl
  f129 := Tryz.func149.trans (congrArg some (by kernel_rfl))
  f171 := Tryz.func54.trans (congrArg some (by kernel_rfl))
  f172 := Tryz.func90.trans (congrArg some (by kernel_rfl))
  f205 := Tryz.func155.trans (congrArg some (by kernel_rfl))
  f243 := Tryz.func87.trans (congrArg some (by kernel_rfl))
  f244 := Tryz.func122.trans (congrArg some (by kernel_rfl))
  f245 := Tryz.func123.trans (congrArg some (by kernel_rfl))
  f246 := Tryz.func117.trans (congrArg some (by kernel_rfl))
  f247 := Tryz.func140.trans (congrArg some (by kernel_rfl))
  f279 := Tryz.func141.trans (congrArg some (by kernel_rfl))
  f280 := Tryz.func142.trans (congrArg some (by kernel_rfl))
  f281 := Tryz.func143.trans (congrArg some (by kernel_rfl))
  f282 := Tryz.func144.trans (congrArg some (by kernel_rfl))
  f283 := Tryz.func134.trans (congrArg some (by kernel_rfl))
  f284 := Tryz.func135.trans (congrArg some (by kernel_rfl))
  f285 := Tryz.func136.trans (congrArg some (by kernel_rfl))
  f286 := Tryz.func137.trans (congrArg some (by kernel_rfl))
  f287 := Tryz.func153.trans (congrArg some (by kernel_rfl))
  f316 := Tryz.func154.trans (congrArg some (by kernel_rfl))
  f317 := Tryz.func148.trans (congrArg some (by kernel_rfl))
  f318 := Tryz.func150.trans (congrArg some (by kernel_rfl))
  f319 := Tryz.func151.trans (congrArg some (by kernel_rfl))
  f320 := Tryz.func152.trans (congrArg some (by kernel_rfl))
  f321 := Tryz.func159.trans (congrArg some (by kernel_rfl))
  f322 := Tryz.func160.trans (congrArg some (by kernel_rfl))
  f337 := Tryz.func157.trans (congrArg some (by kernel_rfl))
  f338 := Tryz.func158.trans (congrArg some (by kernel_rfl))
  t0 := Tryz.underlying0
  a0 := Tryz.isAgg0
  z0 := Tryz.sizeOf0
  v0 := Tryz.zeroValue0
  t2 := Tryz.underlying2
  a2 := Tryz.isAgg2
  z2 := Tryz.sizeOf2
  v2 := Tryz.zeroValue2
  t3 := Tryz.underlying3
  a3 := Tryz.isAgg3
  z3 := Tryz.sizeOf3
  v3 := Tryz.zeroValue3
  t4 := Tryz.underlying4
  a4 := Tryz.isAgg4
  z4 := Tryz.sizeOf4
  v4 := Tryz.zeroValue4
  t5 := Tryz.underlying5
  a5 := Tryz.isAgg5
  z5 := Tryz.sizeOf5
  v5 := Tryz.zeroValue5
  t9 := Tryz.underlying9
  a9 := Tryz.isAgg9
  z9 := Tryz.sizeOf9
  v9 := Tryz.zeroValue9
  t20 := Tryz.underlying20
  a20 := Tryz.isAgg20
  z20 := Tryz.sizeOf20
  v20 := Tryz.zeroValue20
  t21 := Tryz.underlying21
  a21 := Tryz.isAgg21
  z21 := Tryz.sizeOf21
  v21 := Tryz.zeroValue21
  t37 := Tryz.underlying22
  a37 := Tryz.isAgg22
  z37 := Tryz.sizeOf22
  v37 := Tryz.zeroValue22
  t46 := Tryz.underlying149
  a46 := Tryz.isAgg149
  z46 := Tryz.sizeOf149
  v46 := Tryz.zeroValue149
  t51 := Tryz.underlying162
  a51 := Tryz.isAgg162
  z51 := Tryz.sizeOf162
  v51 := Tryz.zeroValue162
  t53 := Tryz.underlying157
  a53 := Tryz.isAgg157
  z53 := Tryz.sizeOf157
  v53 := Tryz.zeroValue157
  t75 := Tryz.underlying97
  a75 := Tryz.isAgg97
  z75 := Tryz.sizeOf97
  v75 := Tryz.zeroValue97
  t76 := Tryz.underlying98
  a76 := Tryz.isAgg98
  z76 := Tryz.sizeOf98
  v76 := Tryz.zeroValue98
  t85 := Tryz.underlying166
  a85 := Tryz.isAgg166
  z85 := Tryz.sizeOf166
  v85 := Tryz.zeroValue166
  t127 := Tryz.underlying102
  a127 := Tryz.isAgg102
  z127 := Tryz.sizeOf102
  v127 := Tryz.zeroValue102
  t143 := Tryz.underlying184
  a143 := Tryz.isAgg184
  z143 := Tryz.sizeOf184
  v143 := Tryz.zeroValue184
  t145 := Tryz.underlying186
  a145 := Tryz.isAgg186
  z145 := Tryz.sizeOf186
  v145 := Tryz.zeroValue186
  t167 := Tryz.underlying165
  a167 := Tryz.isAgg165
  z167 := Tryz.sizeOf165
  v167 := Tryz.zeroValue165
  t168 := Tryz.underlying168
  a168 := Tryz.isAgg168
  z168 := Tryz.sizeOf168
  v168 := Tryz.zeroValue168
  t171 := Tryz.underlying156
  a171 := Tryz.isAgg156
  z171 := Tryz.sizeOf156
  v171 := Tryz.zeroValue156
  t173 := Tryz.underlying160
  a173 := Tryz.isAgg160
  z173 := Tryz.sizeOf160
  v173 := Tryz.zeroValue160
  t175 := Tryz.underlying176
  a175 := Tryz.isAgg176
  z175 := Tryz.sizeOf176
  v175 := Tryz.zeroValue176
  t210 := Tryz.underlying180
  a210 := Tryz.isAgg180
  z210 := Tryz.sizeOf180
  v210 := Tryz.zeroValue180
  t212 := Tryz.underlying173
  a212 := Tryz.isAgg173
  z212 := Tryz.sizeOf173
  v212 := Tryz.zeroValue173
  t213 := Tryz.underlying174
  a213 := Tryz.isAgg174
  z213 := Tryz.sizeOf174
  t232 := Tryz.underlying187
  a232 := Tryz.isAgg187
  z232 := Tryz.sizeOf187
  v232 := Tryz.zeroValue187
  t233 := Tryz.underlying188
  a233 := Tryz.isAgg188
  z233 := Tryz.sizeOf188
  v233 := Tryz.zeroValue188
  g15 := by kernel_rfl
  g16 := by kernel_rfl
  g17 := by kernel_rfl
  g18 := by kernel_rfl
  g19 := by kernel_rfl
  t80 := Tryz.underlying79
  a80 := Tryz.isAgg79
  z80 := Tryz.sizeOf79
  v80 := Tryz.zeroValue79
  i0 := by kernel_rfl
  i2 := by kernel_rfl
  i3 := by kernel_rfl
  i4 := by kernel_rfl
  i5 := by kernel_rfl
  i9 := by kernel_rfl
  i20 := by kernel_rfl
  i21 := by kernel_rfl
  i37 := by kernel_rfl
  i46 := by kernel_rfl
  i51 := by kernel_rfl
  i53 := by kernel_rfl
  i75 := by kernel_rfl
  i76 := by kernel_rfl
  i80 := by kernel_rfl
  i85 := by kernel_rfl
  i127 := by kernel_rfl
  i143 := by kernel_rfl
  i145 := by kernel_rfl
  i167 := by kernel_rfl
  i168 := by kernel_rfl
  i171 := by kernel_rfl
  i173 := by kernel_rfl
  i175 := by kernel_rfl
  i210 := by kernel_rfl
  i212 := by kernel_rfl
  i232 := by kernel_rfl
  i233 := by kernel_rfl
  m15 := by kernel_rfl
  m16 := by kernel_rfl
  m17 := by kernel_rfl
  m18 := by kernel_rfl
  m19 := by kernel_rfl
  c0 := by kernel_rfl
  c2 := by kernel_rfl
  c3 := by kernel_rfl
  c4 := by kernel_rfl
  c5 := by kernel_rfl
  c9 := by kernel_rfl
  c20 := by kernel_rfl
  c21 := by kernel_rfl
  c37 := by kernel_rfl
  c46 := by kernel_rfl
  c51 := by kernel_rfl
  c53 := by kernel_rfl
  c75 := by kernel_rfl
  c76 := by kernel_rfl
  c80 := by kernel_rfl
  c85 := by kernel_rfl
  c127 := by kernel_rfl
  c143 := by kernel_rfl
  c145 := by kernel_rfl
  c167 := by kernel_rfl
  c168 := by kernel_rfl
  c171 := by kernel_rfl
  c173 := by kernel_rfl
  c175 := by kernel_rfl
  c210 := by kernel_rfl
  c212 := by kernel_rfl
  c213 := by kernel_rfl
  c232 := by kernel_rfl
  c233 := by kernel_rfl }
theorem atoi_small : ∀ i : Fin 100, Lib.atoiAll (Lib.decDigits i.val) = .ok (i.val : Int) := by decide +kernel
theorem atoiC (i : Nat) (hi : i < 100) (w : World) : Calls Tryz.prog 90 #[.string ⟨(Lib.decDigits i).toArray⟩] w fun e w' => e = .returned (.tuple #[.int .i64 i, .nilIface]) ∧ Below w.heap.size w w' := by
  have h := atoi_small ⟨i, hi⟩
  refine (Any.strconv_Atoi_ok Tryz.lays172 ⟨(Lib.decDigits i).toArray⟩ ?_ i h w).mono ?_
  · have h1 := Lib.decDigits_length i
    have h2 : ByteArray.size ⟨(Lib.decDigits i).toArray⟩ = (Lib.decDigits i).length := by simp [ByteArray.size]
    rw [h2]
    by_cases hi2 : i < 10
    · rw [Lib.decDigits_one hi2]; simp
    · rw [Lib.decDigits_two hi2 hi]; simp
  · rintro e w' ⟨rfl, rfl | ⟨t, rfl⟩⟩
    · exact ⟨rfl, Below.refl _ _⟩
    · refine ⟨rfl, ?_⟩
      exact Lib.bytesWorld_below _ _ _
end Go.Proofs
