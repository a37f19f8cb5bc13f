/-
  From a function's contract to the row's walk, where a package-level variable is known: slices of bytes that came in; what the row's condition says of the variable question.forms.
-/
import Derived.Test.YtopbcpgmffppjaaGreatDoorEe
import Derived.Lib.ItoaNum
import Derived.Test.YtopbcpgmffppjaaGreatDoorRows
import Derived.Below
import Derived.Lib.SmallJoins
import Derived.MakeChecks
import Derived.FnData
import Derived.OpenShut
namespace Go.Proofs.YtopbcpgmffppjaaGreatDoor
open Go.Dv Go.Nv Go.RowKit Go.ChangeShapes Go.WideShapes Go.Joins

/-- what is known of a slice of integers that came in -/
def IsRow (k : IntKind) (w : World) (a : Option Addr) (len cap : Nat) (zs : List Int) : Prop :=
  (a = none ∧ len = 0 ∧ cap = 0 ∧ zs = []) ∨
  ∃ x, a = some x ∧ len ≤ cap ∧ cap ≤ maxLen ∧ zs.length = cap ∧ (∀ i, i < zs.length → w.cell? (x.add i) = some (.int k (zs.getD i 0))) ∧ ∀ n ∈ zs, (Lit.int k n).wf = true

/-- all that can be read -/
def memOf (w : World) : Mem := fun b o => w.cell? ⟨b, o, none⟩
def g0 (w : World) : Gh := { M := memOf w, β := fun _ => 0, n := 0, ι := fun _ _ => none, κ := fun _ => 0 }

theorem wrep0 (w : World) (hG : GlobOK (memOf w)) (hW : GW w) : WRep (g0 w) ⟨[], []⟩ w where
  n := rfl
  mem := fun b o v h => h
  obj := fun i cs hi => by simp at hi
  inj := fun i j cs ds hi => by simp at hi
  own := fun k sz xs hx => by simp at hx
  tags := by simp
  sep := fun x hx => by simp at hx
  ownObj := fun x hx => by simp at hx
  fresh := fun _ _ _ => rfl
  gl := hG
  gw := hW

theorem repE_ints (M : Mem) (k : IntKind) : ∀ xs : List Int, repE M 1 (xs.map (V.int k)) (xs.map (Value.int k))
  | [] => by simp [repE]
  | x :: xs => by simp only [List.map_cons, repE]; exact ⟨[.int k x], xs.map (Value.int k), rfl, rfl, by simp [repC], repE_ints M k xs⟩

theorem isRow_rep {k : IntKind} {w : World} {a : Option Addr} {len cap : Nat} {zs : List Int} (h : IsRow k w a len cap zs) : repV (memOf w) (.list ((zs.take len).map (V.int k))) (.slice a len cap) := by
  rw [repV_list]
  rcases h with ⟨rfl, rfl, rfl, rfl⟩ | ⟨x, rfl, hl, _, hz, hc, _⟩
  · exact ⟨none, 0, rfl, Nat.le_refl _, .inl rfl⟩
  · have hlen : ((zs.take len).map (V.int k)).length = len := by simp; omega
    refine ⟨some x, cap, by rw [hlen], by rw [hlen]; exact hl, ?_⟩
    rcases Nat.eq_zero_or_pos len with h0 | hpos
    · exact .inl (List.eq_nil_of_length_eq_zero (by rw [hlen]; exact h0))
    · right
      have hspot : x.spot = none := by
        have h0 := hc 0 (by omega)
        cases hs : x.spot with
        | none => rfl
        | some s =>
          have : x.add 0 = x := by simp [Addr.add]
          rw [this] at h0
          unfold World.cell? at h0
          split at h0
          · rw [hs] at h0; simp at h0
          · simp at h0
      obtain ⟨b, off, spot⟩ := x
      simp only at hspot
      subst hspot
      refine ⟨b, off, 1, (zs.take len).map (Value.int k), rfl, by omega, fun j v hj => ?_, repE_ints _ k _⟩
      simp only [List.getElem?_map] at hj
      cases hz2 : (zs.take len)[j]? with
      | none => simp [hz2] at hj
      | some z =>
        simp [hz2] at hj
        have hjl : j < len := by have := (List.getElem?_eq_some_iff.1 hz2).1; simp at this; omega
        have hzj : zs[j]? = some z := by rw [List.getElem?_take] at hz2; simpa [hjl] using hz2
        have := hc j (by omega)
        rw [Addr.add_lit] at this
        simp only [memOf]
        rw [this, ← hj]
        simp [List.getD_eq_getElem?_getD, hzj]

theorem below_of {w w' : World} {g' : Gh} {σ' : St} (h : WI ⟨g0 w, w, ⟨[], []⟩⟩ g' σ' w') : Below w.heap.size w w' := by
  exact ⟨h.os, h.tape, h.output, h.size, fun b hb => (h.keep b hb not_priv).1⟩

theorem byte_ok {n : Int} (h : (Lit.int .u8 n).wf = true) : 0 ≤ n ∧ n < 256 := by
  simp only [Lit.wf, Bool.and_eq_true, decide_eq_true_eq, show IntKind.u8.min = 0 from by decide, show IntKind.u8.max = 255 from by decide] at h
  omega
theorem bytes_ok {w : World} {a : Option Addr} {len cap : Nat} {zs : List Int} (h : IsRow .u8 w a len cap zs) : ∀ x ∈ zs.take len, 0 ≤ x ∧ x < 256 := by
  intro x hx
  rcases h with ⟨_, _, _, rfl⟩ | ⟨_, _, _, _, _, _, hw⟩
  · simp at hx
  · exact byte_ok (hw x (List.mem_of_mem_take hx))
theorem bytes_of : ∀ l : List Int, (∀ x ∈ l, 0 ≤ x ∧ x < 256) → ∃ s : List UInt8, l.map (V.int .u8) = s.map vb
  | [], _ => ⟨[], rfl⟩
  | x :: l, h => by
    obtain ⟨s, hs⟩ := bytes_of l fun y hy => h y (by simp [hy])
    have hx := h x (by simp)
    refine ⟨UInt8.ofNat x.toNat :: s, ?_⟩
    rw [List.map_cons, List.map_cons, hs]
    have : ((UInt8.ofNat x.toNat).toNat : Int) = x := by
      have h1 : (UInt8.ofNat x.toNat).toNat = x.toNat % 256 := by simp
      rw [h1]; omega
    rw [show V.int .u8 x = vb (UInt8.ofNat x.toNat) from by rw [vb, this]]
/-- a law of bytes -/
theorem law_bytesG {f : FuncId} (hspec : ∀ s : List UInt8, FSpec PP f [.v (vBs s)] ⟨[], []⟩ (.v (.bool true)) ⟨[], []⟩) {a : Option Addr} {len cap : Nat} {zs : List Int} {w : World} (h : IsRow .u8 w a len cap zs) (hG : GlobOK (memOf w) ∧ GW w) :
    Calls PP f #[.slice a len cap] w fun e w' => e = .returned (.bool true) ∧ Below w.heap.size w w' := by
  obtain ⟨s, hs⟩ := bytes_of _ (bytes_ok h)
  have hr0 := isRow_rep h
  rw [hs] at hr0
  refine Calls.mono ((hspec s).2 (g0 w) w [.slice a len cap] (wrep0 w hG.1 hG.2) (repDs_one.2 ⟨_, rfl, by simp only [repD]; exact hr0⟩)) ?_
  rintro e w' ⟨u, g', rfl, hw, hr⟩
  simp only [repD, repV_bool] at hr
  subst hr
  exact ⟨rfl, below_of hw⟩
/-- a law of bytes, a string, an int and a byte -/
theorem law_bytesG4 {f : FuncId} (hspec : ∀ (s d : List UInt8) (x : Int) (y : UInt8), FSpec PP f [.v (vBs s), ds d, di x, .v (vb y)] ⟨[], []⟩ (.v (.bool true)) ⟨[], []⟩) {a : Option Addr} {len cap : Nat} {zs : List Int} {w : World} (h : IsRow .u8 w a len cap zs) (a1 : ByteArray) (a2 a3 : Int) (w3 : (Lit.int .u8 a3).wf = true) (hG : GlobOK (memOf w) ∧ GW w) :
    Calls PP f #[.slice a len cap, .string a1, .int .i64 a2, .int .u8 a3] w fun e w' => e = .returned (.bool true) ∧ Below w.heap.size w w' := by
  obtain ⟨s, hs⟩ := bytes_of _ (bytes_ok h)
  have hr0 := isRow_rep h
  rw [hs] at hr0
  have hy := byte_ok w3
  obtain ⟨y, rfl⟩ : ∃ y : UInt8, a3 = (y.toNat : Int) := ⟨UInt8.ofNat a3.toNat, by
    have h1 : (UInt8.ofNat a3.toNat).toNat = a3.toNat % 256 := by simp
    rw [h1]; omega⟩
  refine Calls.mono ((hspec s a1.data.toList a2 y).2 (g0 w) w [.slice a len cap, .string a1, .int .i64 a2, .int .u8 (y.toNat : Int)] (wrep0 w hG.1 hG.2) ?_) ?_
  · simp only [repDs]
    refine ⟨_, _, rfl, by simp only [repD]; exact hr0, _, _, rfl, by simp only [repD, repV_str], _, _, rfl, by simp only [repD, repV_int], _, _, rfl, by simp only [repD, repV_int], rfl⟩
  · rintro e w' ⟨u, g', rfl, hw, hr⟩
    simp only [repD, repV_bool] at hr
    subst hr
    exact ⟨rfl, below_of hw⟩
set_option maxRecDepth 20000
/- WHAT THE ROW SAYS OF question.forms -/
section
variable {w : World} {enc : TypeId × Value → Unit} {spare : Nat → Bool} {held : Bool}
theorem form_cells {fuel : Nat} {cs : List Value} {x : DataW Unit × List MemPlace} {s : List UInt8} {b1 b2 b3 : Bool} (hx : x.1 = .agg [.lit (.string s), .lit (.bool b1), .lit (.bool b2), .lit (.bool b3)])
    (h : DataW.trod enc PP w 0 spare held fuel 61 cs = some x) : cs = [.string ⟨s.toArray⟩, .bool b1, .bool b2, .bool b3] := by
  obtain ⟨y0, y1, y2, y3, n, rfl, hl, h0, h1, h2, h3⟩ := trod_struct4 Tryz.underlying61 h
  obtain ⟨s', e0, f0, _⟩ := DataW.trod_string Tryz.underlying9 h0
  obtain ⟨c1, e1, f1⟩ := DataW.trod_bool Tryz.underlying4 h1
  obtain ⟨c2, e2, f2⟩ := DataW.trod_bool Tryz.underlying4 h2
  obtain ⟨c3, e3, f3⟩ := DataW.trod_bool Tryz.underlying4 h3
  have hl : cs.length = 4 := hl.trans (by kernel_rfl)
  simp only [f0, f1, f2, f3, DataW.agg.injEq, List.cons.injEq, DataW.lit.injEq, Lit.string.injEq, Lit.bool.injEq, and_true] at hx
  obtain ⟨g0, rfl, rfl, rfl⟩ := hx
  rw [show PP.cellsOf 9 = 1 by kernel_rfl] at e0
  rw [show PP.cellsOf 4 = 1 by kernel_rfl] at e1 e2 e3
  match cs, hl with
  | [a, b, c, d], _ =>
    simp at e0 e1 e2 e3
    subst e0 e1 e2 e3
    rw [← g0]
theorem forms_cells {fuel : Nat} {cs : List Value} {p : List MemPlace} (h : DataW.trod enc PP w 0 spare held fuel 62 cs = some (Rows.laid_coverability_question_forms, p)) (M : Mem) : repC M vForms cs := by
  obtain ⟨xs, m, rfl, hx, hl, hn, hi⟩ := DataW.trod_array Tryz.underlying62 h
  have hl : cs.length = 28 := hl.trans (by kernel_rfl)
  rw [show PP.cellsOf 61 = 4 by kernel_rfl] at hi
  match xs, hn with
  | [x0, x1, x2, x3, x4, x5, x6], _ =>
    simp only [Rows.laid_coverability_question_forms, Prod.mk.injEq, DataW.agg.injEq, List.map_cons, List.map_nil, List.cons.injEq, and_true] at hx
    obtain ⟨⟨h0, h1, h2, h3, h4, h5, h6⟩, _⟩ := hx
    have k0 := form_cells h0.symm (hi 0 (by decide))
    have k1 := form_cells h1.symm (hi 1 (by decide))
    have k2 := form_cells h2.symm (hi 2 (by decide))
    have k3 := form_cells h3.symm (hi 3 (by decide))
    have k4 := form_cells h4.symm (hi 4 (by decide))
    have k5 := form_cells h5.symm (hi 5 (by decide))
    have k6 := form_cells h6.symm (hi 6 (by decide))
    match cs, hl with
    | [a0, a1, a2, a3, a4, a5, a6, a7, a8, a9, a10, a11, a12, a13, a14, a15, a16, a17, a18, a19, a20, a21, a22, a23, a24, a25, a26, a27], _ =>
      simp at k0 k1 k2 k3 k4 k5 k6
      simp only [vForms, vForm, repC, repA, List.cons_append, List.nil_append]
      refine ⟨_, _, rfl, rfl, by rw [k0.1], _, _, rfl, rfl, by rw [k0.2.1], _, _, rfl, rfl, by rw [k0.2.2.1], _, _, rfl, rfl, by rw [k0.2.2.2], ?_⟩
      refine ⟨_, _, rfl, rfl, by rw [k1.1], _, _, rfl, rfl, by rw [k1.2.1], _, _, rfl, rfl, by rw [k1.2.2.1], _, _, rfl, rfl, by rw [k1.2.2.2], ?_⟩
      refine ⟨_, _, rfl, rfl, by rw [k2.1], _, _, rfl, rfl, by rw [k2.2.1], _, _, rfl, rfl, by rw [k2.2.2.1], _, _, rfl, rfl, by rw [k2.2.2.2], ?_⟩
      refine ⟨_, _, rfl, rfl, by rw [k3.1], _, _, rfl, rfl, by rw [k3.2.1], _, _, rfl, rfl, by rw [k3.2.2.1], _, _, rfl, rfl, by rw [k3.2.2.2], ?_⟩
      refine ⟨_, _, rfl, rfl, by rw [k4.1], _, _, rfl, rfl, by rw [k4.2.1], _, _, rfl, rfl, by rw [k4.2.2.1], _, _, rfl, rfl, by rw [k4.2.2.2], ?_⟩
      refine ⟨_, _, rfl, rfl, by rw [k5.1], _, _, rfl, rfl, by rw [k5.2.1], _, _, rfl, rfl, by rw [k5.2.2.1], _, _, rfl, rfl, by rw [k5.2.2.2], ?_⟩
      refine ⟨_, _, rfl, rfl, by rw [k6.1], _, _, rfl, rfl, by rw [k6.2.1], _, _, rfl, rfl, by rw [k6.2.2.1], _, _, rfl, rfl, by rw [k6.2.2.2], ?_⟩
      rfl
/-- the table of the powers of ten -/
theorem pow_cells {fuel : Nat} {cs : List Value} {p : List MemPlace} (h : DataW.trod enc PP w 0 spare held fuel 173 cs = some (Rows.laid_internal_strconv_uint64pow10, p)) (M : Mem) : repC M vPow cs ∧ cs.length = 20 := by
  obtain ⟨xs, m, rfl, hx, hl, hn, hi⟩ := DataW.trod_array Tryz.underlying173 h
  have hl : cs.length = 20 := hl.trans (by kernel_rfl)
  rw [show PP.cellsOf 157 = 1 by kernel_rfl] at hi
  refine ⟨?_, hl⟩
  have one : ∀ (i : Nat) (x : DataW Unit × List MemPlace) (n : Int), xs[i]? = some x → x.1 = .lit (.int .u64 n) → cs[i]? = some (.int .u64 n) := fun i x n hxi hxn => by
    have hlt : i < 20 := by have := (List.getElem?_eq_some_iff.1 hxi).1; omega
    have h1 := hi i hlt
    rw [hxi] at h1
    obtain ⟨k, e1, e2, _⟩ := DataW.trod_int Tryz.underlying157 h1
    rw [e2] at hxn
    simp only [DataW.lit.injEq, Lit.int.injEq, true_and] at hxn
    subst hxn
    have := congrArg (·[0]?) e1
    simpa [List.getElem?_take, List.getElem?_drop] using this
  match xs, hn with
  | [x0, x1, x2, x3, x4, x5, x6, x7, x8, x9, x10, x11, x12, x13, x14, x15, x16, x17, x18, x19], _ =>
    simp only [Rows.laid_internal_strconv_uint64pow10, Prod.mk.injEq, DataW.agg.injEq, List.map_cons, List.map_nil, List.cons.injEq, and_true] at hx
    obtain ⟨⟨h0, h1, h2, h3, h4, h5, h6, h7, h8, h9, h10, h11, h12, h13, h14, h15, h16, h17, h18, h19⟩, _⟩ := hx
    have k0 := one 0 _ _ rfl h0.symm
    have k1 := one 1 _ _ rfl h1.symm
    have k2 := one 2 _ _ rfl h2.symm
    have k3 := one 3 _ _ rfl h3.symm
    have k4 := one 4 _ _ rfl h4.symm
    have k5 := one 5 _ _ rfl h5.symm
    have k6 := one 6 _ _ rfl h6.symm
    have k7 := one 7 _ _ rfl h7.symm
    have k8 := one 8 _ _ rfl h8.symm
    have k9 := one 9 _ _ rfl h9.symm
    have k10 := one 10 _ _ rfl h10.symm
    have k11 := one 11 _ _ rfl h11.symm
    have k12 := one 12 _ _ rfl h12.symm
    have k13 := one 13 _ _ rfl h13.symm
    have k14 := one 14 _ _ rfl h14.symm
    have k15 := one 15 _ _ rfl h15.symm
    have k16 := one 16 _ _ rfl h16.symm
    have k17 := one 17 _ _ rfl h17.symm
    have k18 := one 18 _ _ rfl h18.symm
    have k19 := one 19 _ _ rfl h19.symm
    clear one hi h
    match cs, hl with
    | [a0, a1, a2, a3, a4, a5, a6, a7, a8, a9, a10, a11, a12, a13, a14, a15, a16, a17, a18, a19], _ =>
      simp at k0 k1 k2 k3 k4 k5 k6 k7 k8 k9 k10 k11 k12 k13 k14 k15 k16 k17 k18 k19
      subst k0 k1 k2 k3 k4 k5 k6 k7 k8 k9 k10 k11 k12 k13 k14 k15 k16 k17 k18 k19
      simp only [vPow, repC, repA]
      exact ⟨_, _, rfl, rfl, rfl, _, _, rfl, rfl, rfl, _, _, rfl, rfl, rfl, _, _, rfl, rfl, rfl, _, _, rfl, rfl, rfl, _, _, rfl, rfl, rfl, _, _, rfl, rfl, rfl, _, _, rfl, rfl, rfl, _, _, rfl, rfl, rfl, _, _, rfl, rfl, rfl, _, _, rfl, rfl, rfl, _, _, rfl, rfl, rfl, _, _, rfl, rfl, rfl, _, _, rfl, rfl, rfl, _, _, rfl, rfl, rfl, _, _, rfl, rfl, rfl, _, _, rfl, rfl, rfl, _, _, rfl, rfl, rfl, _, _, rfl, rfl, rfl, _, _, rfl, rfl, rfl, rfl⟩
/-- an interface value that holds something -/
theorem iface_cells {fuel : Nat} {t : TypeId} {cs : List Value} {x : DataW Unit × List MemPlace} {nm : String} {y : DataW Unit} (ht : PP.underlying t = some (.interface (PP.methodsAt t))) (h : DataW.trod enc PP w 0 spare held fuel t cs = some x) (hx : x.1 = .iface nm y) : ∃ u v, cs = [.iface u v] := by
  by_cases hc : ∃ u v, cs = [.iface u v]
  · exact hc
  · exfalso
    cases fuel with
    | zero => simp [DataW.trod] at h
    | succ n =>
      unfold DataW.trod at h
      rw [ht] at h
      split at h <;> first | (cases h; cases hx; done) | exact hc ⟨_, _, rfl⟩ | (cases h; done) | (simp_all; done)
end
abbrev laid6 : List (String × DataW Unit) := [("math/bits.deBruijn32tab", Rows.laid_math_bits_deBruijn32tab), ("math/bits.deBruijn64tab", Rows.laid_math_bits_deBruijn64tab), ("internal/strconv.uint64pow10", Rows.laid_internal_strconv_uint64pow10), ("strconv.ErrRange", Rows.laid_strconv_ErrRange), ("strconv.ErrSyntax", Rows.laid_strconv_ErrSyntax), ("coverability/question.forms", Rows.laid_coverability_question_forms)]
theorem forms_ok {w : World} (h : laidMetH PP laid6 w) : GlobOK (memOf w) ∧ GW w := by
  rw [MakeChecks.laidMetH_plain _ _ _ (by kernel_rfl)] at h
  obtain ⟨ps, ⟨_, _, _, _, _, _, _, _, _, _, ⟨_, _, _, _, _, _, _, _, _, _, ⟨g3, t3, cs3, f3, p3, q3, hg3, ht3, hv3, hd3, ⟨g4, t4, cs4, f4, p4, q4, hg4, ht4, hv4, hd4, ⟨g5, t5, cs5, f5, p5, q5, hg5, ht5, hv5, hd5, ⟨g, t, cs, f, p, q, hg, ht, hv, hd, _⟩, _⟩, _⟩, _⟩, _⟩, _⟩, _, _⟩ := h
  obtain rfl : 0 = g := Option.some.inj ((show PP.globalNamed "coverability/question.forms" = some 0 by kernel_rfl).symm.trans hg)
  obtain rfl : 62 = t := Option.some.inj ((show (PP.globals[0]?).map (·.type) = some 62 by kernel_rfl).symm.trans ht)
  obtain rfl : 2 = g3 := Option.some.inj ((show PP.globalNamed "internal/strconv.uint64pow10" = some 2 by kernel_rfl).symm.trans hg3)
  obtain rfl : 173 = t3 := Option.some.inj ((show (PP.globals[2]?).map (·.type) = some 173 by kernel_rfl).symm.trans ht3)
  obtain rfl : 4 = g4 := Option.some.inj ((show PP.globalNamed "strconv.ErrRange" = some 4 by kernel_rfl).symm.trans hg4)
  obtain rfl : 97 = t4 := Option.some.inj ((show (PP.globals[4]?).map (·.type) = some 97 by kernel_rfl).symm.trans ht4)
  obtain rfl : 3 = g5 := Option.some.inj ((show PP.globalNamed "strconv.ErrSyntax" = some 3 by kernel_rfl).symm.trans hg5)
  obtain rfl : 97 = t5 := Option.some.inj ((show (PP.globals[3]?).map (·.type) = some 97 by kernel_rfl).symm.trans ht5)
  obtain ⟨hpow, hpl⟩ := pow_cells hd3 (memOf w)
  obtain ⟨u4, v4, e4⟩ := iface_cells (by kernel_rfl) hd4 rfl
  obtain ⟨u5, v5, e5⟩ := iface_cells (by kernel_rfl) hd5 rfl
  have at_ : ∀ {n : String} {g : Nat} {cs : Array Value}, PP.globalNamed n = some g → w.var? PP n = some cs → inM (memOf w) g 0 cs.toList := fun hg hv j v hj => by
    simp only [memOf]
    rw [Nat.zero_add, World.var?_cell hg hv]
    simpa using hj
  refine ⟨⟨fun x hx => ?_, ⟨?_, ?_⟩⟩, fun x hx => ?_⟩
  · simp only [GLOB, List.mem_cons, List.not_mem_nil, or_false] at hx
    rcases hx with rfl | rfl
    · exact ⟨cs.toList, at_ hg hv, forms_cells hd _⟩
    · exact ⟨cs3.toList, at_ hg3 hv3, hpow⟩
  · exact ⟨u5, v5, by have := at_ hg5 hv5 0 (.iface u5 v5) (by rw [e5]; rfl); simpa using this⟩
  · exact ⟨u4, v4, by have := at_ hg4 hv4 0 (.iface u4 v4) (by rw [e4]; rfl); simpa using this⟩
  · obtain rfl : x = (2, 20) := by simpa [GSIZE] using hx
    have h3 := hv3
    unfold World.var? at h3
    rw [hg3] at h3
    simp only [Option.bind_some] at h3
    split at h3
    · rename_i c e fr hh
      simp at h3; subst h3
      exact ⟨_, _, _, hh, by simpa using hpl⟩
    · simp at h3
end Go.Proofs.YtopbcpgmffppjaaGreatDoor
