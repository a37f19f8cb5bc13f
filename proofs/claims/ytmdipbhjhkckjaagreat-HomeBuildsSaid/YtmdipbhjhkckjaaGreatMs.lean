/-
 The law HomeBuilds: the maker joined to the rest.
-/
import Derived.Test.YtmdipbhjhkckjaaGreatMw
namespace Go.Proofs.YtmdipbhjhkckjaaGreat
open Go.Dv
theorem stR_name (r : Rl) : (stR r).name = r.name := by unfold stR; split <;> rfl
theorem stR_ok {ns np : Nat} {r : Rl} (h : RlOK ns np r) : RlOK ns np (stR r) := by
 unfold stR
 split
 ·exact ⟨h.f0, h.f1, h.t0, h.t1, h.gl, h.nl, h.g, h.n⟩
 ·exact h
theorem stR_steady (r : Rl) : (stR r).give.sum ≤ (stR r).need.sum := by
 unfold stR
 split
 ·rename_i h; simp only; omega
 ·rename_i h; omega
theorem sum_le : ∀ {l : List Int} {b : Int}, (∀ x ∈ l, x ≤ b) → l.sum ≤ b * l.length
 | [], b, _ => by simp
 | a :: l, b, h => by
  have h1 := h a (by simp)
  have h2 := sum_le (l := l) (b := b) (fun x hx => h x (by simp [hx]))
  simp only [List.sum_cons, List.length_cons]
  have : b * ((l.length + 1 : Nat) : Int) = b * l.length + b := by rw [Int.natCast_add]; simp [Int.mul_add]
  omega
theorem md_fin {ns np : Nat} (h1 : 1 ≤ ns) (h2 : ns ≤ 2) (h3 : 1 ≤ np) (h4 : np ≤ 2) {rs : List Rl} (hk0 : 1 ≤ rs.length) (hk1 : rs.length ≤ 3) (hnm : rs.map Rl.name = nmR.take rs.length) (hro : ∀ r ∈ rs, RlOK ns np r) {st : List Int} (hl : st.length = np) (hst : ∀ x ∈ st, 0 ≤ x ∧ x ≤ 3) :
  MdS ⟨ns, np, rs.map stR, 0 :: st⟩ ∧ CfS ns np (0 :: st) := by
 refine ⟨⟨⟨h1, h2, h3, h4, by simpa using hk0, by simpa using hk1, ?_, fun r hr => ?_, ⟨st, rfl, hl, hst⟩⟩, fun r hr => ?_⟩, ⟨⟨by simp [hl], fun x hx => ?_, fun x hx => ?_⟩, ?_⟩⟩
 ·rw [List.map_map, List.length_map, ← hnm]
  exact List.map_congr_left fun r _ => stR_name r
 ·obtain ⟨q, hq, rfl⟩ := List.mem_map.1 hr
  exact stR_ok (hro q hq)
 ·obtain ⟨q, hq, rfl⟩ := List.mem_map.1 hr
  exact stR_steady q
 ·simp at hx; subst hx; omega
 ·have := hst x (by simpa using hx); omega
 ·have := sum_le (l := st) (b := 3) (fun x hx => (hst x hx).2)
  simp only [List.tail_cons]; omega
theorem rule_ex (s : List Int) (hb : BytesOK s) (hs : s.length ≤ 200) (k : Nat) (hk : k ≤ 200) {ns np : Nat} (h1 : 1 ≤ ns) (h4 : np ≤ 2) (nm : List UInt8) : ∃ (f t : Int) (n g : List Int) (p1 p2 p3 p4 : Nat), p4 ≤ 200 ∧ RlOK ns np ⟨nm, f, t, n, g⟩ ∧
  FSpec PP pickF [.ptr 0 0, di ↑ns] (dice s k) (di f) (dice s p1) ∧ FSpec PP pickF [.ptr 0 0, di ↑ns] (dice s p1) (di t) (dice s p2) ∧
  FSpec PP intsF [.ptr 0 0, di ↑np, di 2] (dice s p2) (dl n) (dice s p3) ∧ FSpec PP intsF [.ptr 0 0, di ↑np, di 2] (dice s p3) (dl g) (dice s p4) := by
 obtain ⟨f, p1, f0, f1, q1, hF⟩ := pick_ex s hb hs k hk ns (by omega)
 obtain ⟨t, p2, t0, t1, q2, hT⟩ := pick_ex s hb hs p1 q1 ns (by omega)
 obtain ⟨n, p3, nl, hn, q3, hN⟩ := ints_ex s hb hs np (by omega) 2 (by omega) (by omega) p2 q2
 obtain ⟨g, p4, gl, hg, q4, hG⟩ := ints_ex s hb hs np (by omega) 2 (by omega) (by omega) p3 q3
 exact ⟨f, t, n, g, p1, p2, p3, p4, q4, ⟨f0, f1, t0, t1, nl, gl, hn, hg⟩, hF, hT, hN, hG⟩
theorem steady_ex (s : List Int) (hb : BytesOK s) (hs : s.length ≤ 200) : ∃ (m : Md) (k : Nat), MdS m ∧ CfS m.ns m.np m.start ∧ k ≤ 200 ∧ FSpec PP 10 [.ptr 0 0] (dice s 0) (.v (vMd m)) (dice s k) := by
 obtain ⟨a, k1, a0, a1, ka, hA⟩ := pick_ex s hb hs 0 (by omega) 2 (by omega)
 obtain ⟨ns, hns⟩ : ∃ ns : Nat, 1 + a = (ns : Int) := ⟨(1 + a).toNat, by omega⟩
 obtain ⟨b, p00, b0, b1, kb, hB⟩ := pick_ex s hb hs k1 ka 2 (by omega)
 obtain ⟨np, hnp⟩ : ∃ np : Nat, 1 + b = (np : Int) := ⟨(1 + b).toNat, by omega⟩
 obtain ⟨c0, p01, c00, c01, kc0, hC0⟩ := pick_ex s hb hs p00 kb 3 (by omega)
 obtain ⟨f0, t0, n0, g0, p02, p03, p04, p10, q10, ro0, hF0, hT0, hN0, hG0⟩ := rule_ex s hb hs p01 kc0 (ns := ns) (np := np) (by omega) (by omega) [114]
 obtain ⟨c1, p11, c10, c11, kc1, hC1⟩ := pick_ex s hb hs p10 q10 3 (by omega)
 by_cases h1 : 1 < 1 + c1
 ·obtain ⟨f1, t1, n1, g1, p12, p13, p14, p20, q20, ro1, hF1, hT1, hN1, hG1⟩ := rule_ex s hb hs p11 kc1 (ns := ns) (np := np) (by omega) (by omega) [115]
  obtain ⟨c2, p21, c20, c21, kc2, hC2⟩ := pick_ex s hb hs p20 q20 3 (by omega)
  by_cases h2 : 2 < 1 + c2
  ·obtain ⟨f2, t2, n2, g2, p22, p23, p24, p30, q30, ro2, hF2, hT2, hN2, hG2⟩ := rule_ex s hb hs p21 kc2 (ns := ns) (np := np) (by omega) (by omega) [116]
   obtain ⟨c3, p31, c30, c31, kc3, hC3⟩ := pick_ex s hb hs p30 q30 3 (by omega)
   obtain ⟨st, p32, stl, hst, k32, hS⟩ := ints_ex s hb hs np (by omega) 3 (by omega) (by omega) p31 kc3
   have hro : ∀ r ∈ [(⟨[114], f0, t0, n0, g0⟩ : Rl), ⟨[115], f1, t1, n1, g1⟩, ⟨[116], f2, t2, n2, g2⟩], RlOK ns np r := by
    intro r hr
    simp only [List.mem_cons, List.not_mem_nil, or_false] at hr
    rcases hr with rfl | rfl | rfl
    ·exact ro0
    ·exact ro1
    ·exact ro2
   obtain ⟨hm, hc⟩ := md_fin (ns := ns) (np := np) (by omega) (by omega) (by omega) (by omega) (by simp) (by simp) rfl hro stl hst
   have hcn := counter3 s 0 k1 p00 p01 p02 p03 p04 p10 p11 p12 p13 p14 p20 p21 p22 p23 p24 p30 p31 p32 ns np a b c3 c0 f0 t0 c1 f1 t1 c2 f2 t2 n0 g0 n1 g1 n2 g2 st hA hns (by omega) (by omega) hB hnp (by omega) (by omega) hC0 (by omega) hF0 hT0 hN0 hG0 hC1 (by omega) hF1 hT1 hN1 hG1 hC2 (by omega) hF2 hT2 hN2 hG2 hC3 (by omega) hS stl
   exact ⟨_, p32, hm, hc, k32, steady3 s 0 p32 ns np (0 :: st) (by omega) _ _ _ hro hcn⟩
  ·obtain ⟨st, p22, stl, hst, k22, hS⟩ := ints_ex s hb hs np (by omega) 3 (by omega) (by omega) p21 kc2
   have hro : ∀ r ∈ [(⟨[114], f0, t0, n0, g0⟩ : Rl), ⟨[115], f1, t1, n1, g1⟩], RlOK ns np r := by
    intro r hr
    simp only [List.mem_cons, List.not_mem_nil, or_false] at hr
    rcases hr with rfl | rfl
    ·exact ro0
    ·exact ro1
   obtain ⟨hm, hc⟩ := md_fin (ns := ns) (np := np) (by omega) (by omega) (by omega) (by omega) (by simp) (by simp) rfl hro stl hst
   have hcn := counter2 s 0 k1 p00 p01 p02 p03 p04 p10 p11 p12 p13 p14 p20 p21 p22 ns np a b c2 c0 f0 t0 c1 f1 t1 n0 g0 n1 g1 st hA hns (by omega) (by omega) hB hnp (by omega) (by omega) hC0 (by omega) hF0 hT0 hN0 hG0 hC1 (by omega) hF1 hT1 hN1 hG1 hC2 (by omega) hS stl
   exact ⟨_, p22, hm, hc, k22, steady2 s 0 p22 ns np (0 :: st) (by omega) _ _ hro hcn⟩
 ·obtain ⟨st, p12, stl, hst, k12, hS⟩ := ints_ex s hb hs np (by omega) 3 (by omega) (by omega) p11 kc1
  have hro : ∀ r ∈ [(⟨[114], f0, t0, n0, g0⟩ : Rl)], RlOK ns np r := by
   intro r hr
   simp only [List.mem_cons, List.not_mem_nil, or_false] at hr
   subst hr; exact ro0
  obtain ⟨hm, hc⟩ := md_fin (ns := ns) (np := np) (by omega) (by omega) (by omega) (by omega) (by simp) (by simp) rfl hro stl hst
  have hcn := counter1 s 0 k1 p00 p01 p02 p03 p04 p10 p11 p12 ns np a b c1 c0 f0 t0 n0 g0 st hA hns (by omega) (by omega) hB hnp (by omega) (by omega) hC0 (by omega) hF0 hT0 hN0 hG0 hC1 (by omega) hS stl
  exact ⟨_, p12, hm, hc, k12, steady1 s 0 p12 ns np (0 :: st) (by omega) _ hro hcn⟩
theorem hb_spec (s : List Int) (hbs : BytesOK s) : FSpec PP 3 [dus s] σ0 (db true) σ0 := by
 obtain ⟨m, k, hm, hst, hk, hsd⟩ := steady_ex (s.take 200) (bytes_take hbs 200) (by simp; omega)
 exact hb_core s hbs m hm hst k hk hsd
end Go.Proofs.YtmdipbhjhkckjaaGreat
