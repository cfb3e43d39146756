/- A row, kept, or why it is not, is as the document says. No conditions: every input. Printed by gen_tkeeps14.py. -/
import Derived.Test.YtochabikpaoalaaGreatTens4
import Derived.Test.YtochabikpaoalaaGreatRef14s
import Derived.Test.YtochabikpaoalaaGreatRef14o
namespace Go.Proofs.YtochabikpaoalaaGreat
open Go.RowKit
attribute [local go_sem ↓] Go.wp_at_zero Go.wp_at_succ
set_option maxRecDepth 100000 in
set_option maxHeartbeats 4000000 in
theorem TensKeeps_many (k z m o : Int) (v : Value) (l : List Int) (w : World) (h : IsI w v l) (hi : ∀ x ∈ l, I64 x) (hn : ¬ l.length ≤ 24) :
    Calls Tryz.prog 4 #[.agg #[.int .i64 k, .int .i64 z, .int .i64 m, .int .i64 o], v] w fun e w' => e = .returned (.bool true) ∧ Below w.heap.size w w' := by
  obtain ⟨A, C, rfl, hc1, hc2⟩ := id h.form
  have hL := fun w => alive14_any w
  have d1 : decide ((24 : Int) < (l.length : Int)) = true := decide_eq_true (by omega)
  have d2 : decide (24 < l.length) = true := decide_eq_true (by omega)
  have d3 : 24 < l.length := by omega
  obtain ⟨W0, hW, hR, hB⟩ := box1 w 23 #[.int .i64 k, .int .i64 z, .int .i64 m, .int .i64 o]
  obtain ⟨g, hg⟩ : ∃ g, g = w.heap.size := ⟨_, rfl⟩
  have hW' := Lib.hid (And.intro hW hg)
  rw [← hg] at hR
  have hgw : w.heap.size ≤ g := by omega
  clear hW hg
  have hKp := hR
  replace h := h.below hB
  obtain ⟨c1_hKp_0, c1_hKp_1, c1_hKp_2, c1_hKp_3⟩ := hKp.quad
  go_enter Tryz.func4, Tryz.ntmps4
  go_wp2_with fail
  rw [← hW'.out.1, ← hW'.out.2]
  refine (hL _).mono ?_
  rintro e w1 ⟨rfl, b1⟩
  replace h := h.below b1
  replace hKp := hKp.below b1 hKp.lt
  replace hB := hB.trans (b1.mono hB.size)
  clear c1_hKp_0 c1_hKp_1 c1_hKp_2 c1_hKp_3
  obtain ⟨c2_hKp_0, c2_hKp_1, c2_hKp_2, c2_hKp_3⟩ := hKp.quad
  go_wp2
  go_ret
  exact ⟨rfl, hB⟩
set_option maxRecDepth 100000 in
set_option maxHeartbeats 4000000 in
theorem TensKeeps_few (k z m o : Int) (v : Value) (l : List Int) (w : World) (h : IsI w v l) (hi : ∀ x ∈ l, I64 x) (hn : l.length ≤ 24) :
    Calls Tryz.prog 4 #[.agg #[.int .i64 k, .int .i64 z, .int .i64 m, .int .i64 o], v] w fun e w' => e = .returned (.bool true) ∧ Below w.heap.size w w' := by
  obtain ⟨A, C, rfl, hc1, hc2⟩ := id h.form
  have hL := fun w => alive14_any w
  have d1 : decide ((24 : Int) < (l.length : Int)) = false := decide_eq_false (by omega)
  have d2 : decide (24 < l.length) = false := decide_eq_false (by omega)
  have d3 : ¬ 24 < l.length := by omega
  have hO1 := fun w h => tof_any k z m o (.slice A l.length C) l w h hi
  have hO2 := fun w h => rof14_any k z m o (.slice A l.length C) l w h hi
  generalize ofE k z m o l = e1 at *
  generalize ofS k z m o l = S at *
  obtain ⟨p0, p1, p2, p3, p4, B⟩ := S
  clear hi hn
  obtain ⟨W0, hW, hR, hB⟩ := box1 w 23 #[.int .i64 k, .int .i64 z, .int .i64 m, .int .i64 o]
  obtain ⟨g, hg⟩ : ∃ g, g = w.heap.size := ⟨_, rfl⟩
  have hW' := Lib.hid (And.intro hW hg)
  rw [← hg] at hR
  have hgw : w.heap.size ≤ g := by omega
  clear hW hg
  have hKp := hR
  replace h := h.below hB
  obtain ⟨c1_hKp_0, c1_hKp_1, c1_hKp_2, c1_hKp_3⟩ := hKp.quad
  go_enter Tryz.func4, Tryz.ntmps4
  go_wp2_with fail
  rw [← hW'.out.1, ← hW'.out.2]
  refine (hO1 _ h).mono ?_
  rintro e w1 ⟨y1, rfl, ⟨x1, rfl, hb1⟩, b1⟩
  replace h := h.below b1
  replace hKp := hKp.below b1 hKp.lt
  replace hB := hB.trans (b1.mono hB.size)
  clear c1_hKp_0 c1_hKp_1 c1_hKp_2 c1_hKp_3
  obtain ⟨c2_hKp_0, c2_hKp_1, c2_hKp_2, c2_hKp_3⟩ := hKp.quad
  obtain ⟨A1_, C1_, rfl, _, _⟩ := id hb1.len
  obtain ⟨V1, eV, hS1, bV1⟩ := box1 w1 26 #[.int .i64 p0, .int .i64 p1, .int .i64 p2, .int .i64 p3, .int .i64 p4, .slice A1_ B.length C1_]
  obtain ⟨X1, eX⟩ : ∃ X, X = w1.heap.size := ⟨_, rfl⟩
  rw [← eX] at hS1
  have EV1 := Lib.hid (And.intro eV eX)
  clear eV eX
  go_upto_region 4 with fail
  rw [← EV1.out.1, ← EV1.out.2]
  replace h := h.below bV1
  replace hKp := hKp.below bV1 hKp.lt
  replace hb1 := hb1.below bV1
  replace hB := hB.trans (bV1.mono hB.size)
  clear c2_hKp_0 c2_hKp_1 c2_hKp_2 c2_hKp_3
  obtain ⟨c3_hKp_0, c3_hKp_1, c3_hKp_2, c3_hKp_3⟩ := hKp.quad
  clear c3_hKp_0 c3_hKp_1 c3_hKp_2 c3_hKp_3
  obtain ⟨c4_hKp_0, c4_hKp_1, c4_hKp_2, c4_hKp_3⟩ := hKp.quad
  obtain ⟨c4_hS1_0, c4_hS1_1, c4_hS1_2, c4_hS1_3, c4_hS1_4, c4_hS1_5⟩ := hS1.cells6
  go_wp2_with fail
  refine (hO2 _ h).mono ?_
  rintro e w2 ⟨y2, rfl, ⟨x2, rfl, hb2⟩, b2⟩
  replace h := h.below b2
  replace hKp := hKp.below b2 hKp.lt
  replace hb1 := hb1.below b2
  replace hS1 := hS1.below b2 hS1.lt
  replace hB := hB.trans (b2.mono hB.size)
  clear c4_hKp_0 c4_hKp_1 c4_hKp_2 c4_hKp_3 c4_hS1_0 c4_hS1_1 c4_hS1_2 c4_hS1_3 c4_hS1_4 c4_hS1_5
  obtain ⟨c5_hKp_0, c5_hKp_1, c5_hKp_2, c5_hKp_3⟩ := hKp.quad
  obtain ⟨c5_hS1_0, c5_hS1_1, c5_hS1_2, c5_hS1_3, c5_hS1_4, c5_hS1_5⟩ := hS1.cells6
  obtain ⟨A2_, C2_, rfl, _, _⟩ := id hb2.len
  obtain ⟨V2, eV, hS2, bV2⟩ := box1 w2 26 #[.int .i64 p0, .int .i64 p1, .int .i64 p2, .int .i64 p3, .int .i64 p4, .slice A2_ B.length C2_]
  obtain ⟨X2, eX⟩ : ∃ X, X = w2.heap.size := ⟨_, rfl⟩
  rw [← eX] at hS2
  have EV2 := Lib.hid (And.intro eV eX)
  clear eV eX
  go_upto_region 5 with fail
  rw [← EV2.out.1, ← EV2.out.2]
  replace h := h.below bV2
  replace hKp := hKp.below bV2 hKp.lt
  replace hb1 := hb1.below bV2
  replace hS1 := hS1.below bV2 hS1.lt
  replace hb2 := hb2.below bV2
  replace hB := hB.trans (bV2.mono hB.size)
  clear c5_hKp_0 c5_hKp_1 c5_hKp_2 c5_hKp_3 c5_hS1_0 c5_hS1_1 c5_hS1_2 c5_hS1_3 c5_hS1_4 c5_hS1_5
  obtain ⟨c6_hKp_0, c6_hKp_1, c6_hKp_2, c6_hKp_3⟩ := hKp.quad
  obtain ⟨c6_hS1_0, c6_hS1_1, c6_hS1_2, c6_hS1_3, c6_hS1_4, c6_hS1_5⟩ := hS1.cells6
  clear c6_hKp_0 c6_hKp_1 c6_hKp_2 c6_hKp_3 c6_hS1_0 c6_hS1_1 c6_hS1_2 c6_hS1_3 c6_hS1_4 c6_hS1_5
  obtain ⟨c7_hKp_0, c7_hKp_1, c7_hKp_2, c7_hKp_3⟩ := hKp.quad
  obtain ⟨c7_hS1_0, c7_hS1_1, c7_hS1_2, c7_hS1_3, c7_hS1_4, c7_hS1_5⟩ := hS1.cells6
  obtain ⟨c7_hS2_0, c7_hS2_1, c7_hS2_2, c7_hS2_3, c7_hS2_4, c7_hS2_5⟩ := hS2.cells6
  go_wp2_with fail
  refine (hL _).mono ?_
  rintro e w3 ⟨rfl, b3⟩
  replace h := h.below b3
  replace hKp := hKp.below b3 hKp.lt
  replace hb1 := hb1.below b3
  replace hS1 := hS1.below b3 hS1.lt
  replace hb2 := hb2.below b3
  replace hS2 := hS2.below b3 hS2.lt
  replace hB := hB.trans (b3.mono hB.size)
  clear c7_hKp_0 c7_hKp_1 c7_hKp_2 c7_hKp_3 c7_hS1_0 c7_hS1_1 c7_hS1_2 c7_hS1_3 c7_hS1_4 c7_hS1_5 c7_hS2_0 c7_hS2_1 c7_hS2_2 c7_hS2_3 c7_hS2_4 c7_hS2_5
  obtain ⟨c8_hKp_0, c8_hKp_1, c8_hKp_2, c8_hKp_3⟩ := hKp.quad
  obtain ⟨c8_hS1_0, c8_hS1_1, c8_hS1_2, c8_hS1_3, c8_hS1_4, c8_hS1_5⟩ := hS1.cells6
  obtain ⟨c8_hS2_0, c8_hS2_1, c8_hS2_2, c8_hS2_3, c8_hS2_4, c8_hS2_5⟩ := hS2.cells6
  go_wp2_with fail
  refine (rsame14_any _ _ (p0, p1, p2, p3, p4, B) (p0, p1, p2, p3, p4, B) _ ⟨_, rfl, hb1⟩ ⟨_, rfl, hb2⟩).mono ?_
  rintro e w4 ⟨rfl, b4⟩
  replace h := h.below b4
  replace hKp := hKp.below b4 hKp.lt
  replace hb1 := hb1.below b4
  replace hS1 := hS1.below b4 hS1.lt
  replace hb2 := hb2.below b4
  replace hS2 := hS2.below b4 hS2.lt
  replace hB := hB.trans (b4.mono hB.size)
  clear c8_hKp_0 c8_hKp_1 c8_hKp_2 c8_hKp_3 c8_hS1_0 c8_hS1_1 c8_hS1_2 c8_hS1_3 c8_hS1_4 c8_hS1_5 c8_hS2_0 c8_hS2_1 c8_hS2_2 c8_hS2_3 c8_hS2_4 c8_hS2_5
  obtain ⟨c9_hKp_0, c9_hKp_1, c9_hKp_2, c9_hKp_3⟩ := hKp.quad
  obtain ⟨c9_hS1_0, c9_hS1_1, c9_hS1_2, c9_hS1_3, c9_hS1_4, c9_hS1_5⟩ := hS1.cells6
  obtain ⟨c9_hS2_0, c9_hS2_1, c9_hS2_2, c9_hS2_3, c9_hS2_4, c9_hS2_5⟩ := hS2.cells6
  rw [eqS_refl]
  go_wp2
  go_ret
  exact ⟨by simp, hB⟩
theorem TensKeeps_all (k z m o : Int) (v : Value) (l : List Int) (w : World) (h : IsI w v l) (hi : ∀ x ∈ l, I64 x) :
    Calls Tryz.prog 4 #[.agg #[.int .i64 k, .int .i64 z, .int .i64 m, .int .i64 o], v] w fun e w' => e = .returned (.bool true) ∧ Below w.heap.size w w' := by
  by_cases hn : l.length ≤ 24
  · exact TensKeeps_few k z m o v l w h hi hn
  · exact TensKeeps_many k z m o v l w h hi hn
end Go.Proofs.YtochabikpaoalaaGreat
