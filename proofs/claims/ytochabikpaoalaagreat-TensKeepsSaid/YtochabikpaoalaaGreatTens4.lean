/- Layer 14: the live question. Printed by gen_tens4.py. -/
import Derived.Test.YtochabikpaoalaaGreatTens2
import Derived.Test.YtochabikpaoalaaGreatTens3b
import Derived.Test.YtochabikpaoalaaGreatTensOf2
namespace Go.Proofs.YtochabikpaoalaaGreat
open Go.RowKit
attribute [local go_sem ↓] Go.wp_at_zero Go.wp_at_succ
theorem alive14_vals : ofE 2 2 0 0 [255, -255, 0, 0, 3] = 0 ∧ eqS (ofS 2 2 0 0 [255, -255, 0, 0, 3]) (2, 2, 0, 0, 5, [(2, 255, [255, 0], []), (2, 0, [127, 127], []), (2, 3, [255], [])]) = true ∧ rightS (2, 2, 0, 0, 5, [(2, 255, [255, 0], []), (2, 0, [127, 127], []), (2, 3, [255], [])]) = true ∧ loadS [(2, 255, [255, 0], []), (2, 0, [127, 127], []), (2, 3, [255], [])] = [255, -255, 0, 0, 3] ∧ costS [(2, 255, [255, 0], []), (2, 0, [127, 127], []), (2, 3, [255], [])] = 29 := by decide +kernel
theorem alive14_one : ofE 0 0 0 0 [] = 1 ∧ mayB 2 2 0 0 = true := by decide +kernel
theorem lit5 (w : World) : ∃ W, W = w.alloc (.cells #[.int .i64 255, .int .i64 (-255), .int .i64 0, .int .i64 0, .int .i64 3] 2) ∧ IsI W (.slice (some ⟨w.heap.size, 0, none⟩) 5 5) [255, -255, 0, 0, 3] ∧ Below w.heap.size w W := litI w [255, -255, 0, 0, 3] (by simp)
set_option maxRecDepth 100000 in
set_option maxHeartbeats 1000000 in
theorem alive14_any (w : World) : Calls Tryz.prog 7 #[] w fun e w' => e = .returned (.bool true) ∧ Below w.heap.size w w' := by
  obtain ⟨e1, e2, e3, e4, e5⟩ := alive14_vals
  obtain ⟨e6, e7⟩ := alive14_one
  have e2 := eqS_iff.1 e2
  have hO1 := fun v w h => tof_any 2 2 0 0 v [255, -255, 0, 0, 3] w h (by simp [I64])
  have hO2 := fun v w h => tof_any 0 0 0 0 v [] w h (by simp)
  have hf : FewB [(2, 255, [255, 0], []), (2, 0, [127, 127], []), (2, 3, [255], [])] := ⟨by simp, by simp [bkLen]⟩
  have hlong : LongB [(2, 255, [255, 0], []), (2, 0, [127, 127], []), (2, 3, [255], [])] := by simp [LongB]
  have hld : ∀ b ∈ ([(2, 255, [255, 0], []), (2, 0, [127, 127], []), (2, 3, [255], [])] : List Bk), LoadB b := by simp [LoadB]
  have hLd := fun v w h => tload_any v (2, 2, 0, 0, 5, [(2, 255, [255, 0], []), (2, 0, [127, 127], []), (2, 3, [255], [])]) w h hf hld
  have hRt := fun v w h => tright_any v (2, 2, 0, 0, 5, [(2, 255, [255, 0], []), (2, 0, [127, 127], []), (2, 3, [255], [])]) w h hlong
  have hC := fun v w h => tcost_any v (2, 2, 0, 0, 5, [(2, 255, [255, 0], []), (2, 0, [127, 127], []), (2, 3, [255], [])]) w h hf
  have hSm := fun u v w h h' => tsame_any u v (2, 2, 0, 0, 5, [(2, 255, [255, 0], []), (2, 0, [127, 127], []), (2, 3, [255], [])]) (2, 2, 0, 0, 5, [(2, 255, [255, 0], []), (2, 0, [127, 127], []), (2, 3, [255], [])]) w h h'
  have hM := fun w => tmay_any 2 2 0 0 w
  have e8 : ofS 0 0 0 0 [] = (0, 0, 0, 0, 0, []) := if_neg (by rw [e6]; decide)
  rw [e1, e2] at hO1
  rw [e6, e8] at hO2
  rw [e7] at hM
  rw [e3] at hRt
  simp only at hLd hC
  rw [e4] at hLd
  rw [e5] at hC
  rw [eqS_refl] at hSm
  generalize hBL : ([(2, 255, [255, 0], []), (2, 0, [127, 127], []), (2, 3, [255], [])] : List Bk) = BL at *
  have hlen : ((BL.length : Int) == 3) = true := by rw [← hBL]; rfl
  have hlen2 : decide ((BL.length : Int) = 3) = true := by rw [← hBL]; rfl
  clear e1 e2 e3 e4 e5 e6 e7 e8 hf hlong hld hBL
  obtain ⟨W0, hW, hR, hB⟩ := box1 w 23 #[.int .i64 2, .int .i64 2, .int .i64 0, .int .i64 0]
  obtain ⟨g, hg⟩ : ∃ g, g = w.heap.size := ⟨_, rfl⟩
  have hW' := Lib.hid (And.intro hW hg)
  rw [← hg] at hR
  have hgw : w.heap.size ≤ g := by omega
  clear hW hg
  have hKp := hR
  obtain ⟨c1_hKp_0, c1_hKp_1, c1_hKp_2, c1_hKp_3⟩ := hKp.quad
  go_enter Tryz.func7, Tryz.ntmps7
  go_upto_region 2 with fail
  rw [← hW'.out.1, ← hW'.out.2]
  obtain ⟨V1, eV, hl1, bV1⟩ := lit5 W0 
  obtain ⟨X1, eX⟩ : ∃ X, X = W0.heap.size := ⟨_, rfl⟩
  rw [← eX] at hl1
  have EV1 := Lib.hid (And.intro eV eX)
  clear eV eX
  replace hKp := hKp.below bV1 hKp.lt
  replace hB := hB.trans (bV1.mono hB.size)
  obtain ⟨c2_hKp_0, c2_hKp_1, c2_hKp_2, c2_hKp_3⟩ := hKp.quad
  go_wp2_with fail
  rw [← EV1.out.1, ← EV1.out.2]
  refine (hO1 _ _ hl1).mono ?_
  rintro e w1 ⟨v1, rfl, ⟨x1, rfl, hb1⟩, b1⟩
  replace hKp := hKp.below b1 hKp.lt
  replace hl1 := hl1.below b1
  replace hB := hB.trans (b1.mono hB.size)
  clear c1_hKp_0 c1_hKp_1 c1_hKp_2 c1_hKp_3 c2_hKp_0 c2_hKp_1 c2_hKp_2 c2_hKp_3
  obtain ⟨c3_hKp_0, c3_hKp_1, c3_hKp_2, c3_hKp_3⟩ := hKp.quad
  obtain ⟨A1, C1, rfl, _, _⟩ := id hb1.len
  obtain ⟨V2, eV, hS1, bV2⟩ := box1 w1 26 #[.int .i64 2, .int .i64 2, .int .i64 0, .int .i64 0, .int .i64 5, .slice A1 BL.length C1]
  obtain ⟨X2, eX⟩ : ∃ X, X = w1.heap.size := ⟨_, rfl⟩
  rw [← eX] at hS1
  have EV2 := Lib.hid (And.intro eV eX)
  clear eV eX
  go_upto_region 3 with fail
  rw [← EV2.out.1, ← EV2.out.2]
  replace hKp := hKp.below bV2 hKp.lt
  replace hl1 := hl1.below bV2
  replace hb1 := hb1.below bV2
  replace hB := hB.trans (bV2.mono hB.size)
  clear c3_hKp_0 c3_hKp_1 c3_hKp_2 c3_hKp_3
  obtain ⟨c4_hKp_0, c4_hKp_1, c4_hKp_2, c4_hKp_3⟩ := hKp.quad
  clear c4_hKp_0 c4_hKp_1 c4_hKp_2 c4_hKp_3
  obtain ⟨c5_hKp_0, c5_hKp_1, c5_hKp_2, c5_hKp_3⟩ := hKp.quad
  obtain ⟨c5_hS1_0, c5_hS1_1, c5_hS1_2, c5_hS1_3, c5_hS1_4, c5_hS1_5⟩ := hS1.cells6
  go_wp2_with fail
  refine (hLd _ _ ⟨_, rfl, hb1⟩).mono ?_
  rintro e w2 ⟨v2, rfl, hl2, b2⟩
  replace hKp := hKp.below b2 hKp.lt
  replace hl1 := hl1.below b2
  replace hb1 := hb1.below b2
  replace hS1 := hS1.below b2 hS1.lt
  replace hB := hB.trans (b2.mono hB.size)
  clear c5_hKp_0 c5_hKp_1 c5_hKp_2 c5_hKp_3 c5_hS1_0 c5_hS1_1 c5_hS1_2 c5_hS1_3 c5_hS1_4 c5_hS1_5
  obtain ⟨c6_hKp_0, c6_hKp_1, c6_hKp_2, c6_hKp_3⟩ := hKp.quad
  obtain ⟨c6_hS1_0, c6_hS1_1, c6_hS1_2, c6_hS1_3, c6_hS1_4, c6_hS1_5⟩ := hS1.cells6
  obtain ⟨A2, C2, rfl, _, _⟩ := id hl2.form
  have hnil := IsI.nil w2
  go_wp2_with fail
  refine (hO2 _ _ hnil).mono ?_
  rintro e w3 ⟨v3, rfl, ⟨x3, rfl, hb3⟩, b3⟩
  replace hKp := hKp.below b3 hKp.lt
  replace hl1 := hl1.below b3
  replace hb1 := hb1.below b3
  replace hS1 := hS1.below b3 hS1.lt
  replace hl2 := hl2.below b3
  replace hB := hB.trans (b3.mono hB.size)
  clear c6_hKp_0 c6_hKp_1 c6_hKp_2 c6_hKp_3 c6_hS1_0 c6_hS1_1 c6_hS1_2 c6_hS1_3 c6_hS1_4 c6_hS1_5
  obtain ⟨c7_hKp_0, c7_hKp_1, c7_hKp_2, c7_hKp_3⟩ := hKp.quad
  obtain ⟨c7_hS1_0, c7_hS1_1, c7_hS1_2, c7_hS1_3, c7_hS1_4, c7_hS1_5⟩ := hS1.cells6
  obtain ⟨A3, C3, rfl, _, _⟩ := id hb3.len
  obtain ⟨V3, eV, hS3, bV3⟩ := box1 w3 26 #[.int .i64 0, .int .i64 0, .int .i64 0, .int .i64 0, .int .i64 0, .slice A3 0 C3]
  obtain ⟨X3, eX⟩ : ∃ X, X = w3.heap.size := ⟨_, rfl⟩
  rw [← eX] at hS3
  have EV3 := Lib.hid (And.intro eV eX)
  clear eV eX
  go_upto_region 5 with fail
  rw [← EV3.out.1, ← EV3.out.2]
  replace hKp := hKp.below bV3 hKp.lt
  replace hl1 := hl1.below bV3
  replace hb1 := hb1.below bV3
  replace hS1 := hS1.below bV3 hS1.lt
  replace hl2 := hl2.below bV3
  replace hb3 := hb3.below bV3
  replace hB := hB.trans (bV3.mono hB.size)
  clear c7_hKp_0 c7_hKp_1 c7_hKp_2 c7_hKp_3 c7_hS1_0 c7_hS1_1 c7_hS1_2 c7_hS1_3 c7_hS1_4 c7_hS1_5
  obtain ⟨c8_hKp_0, c8_hKp_1, c8_hKp_2, c8_hKp_3⟩ := hKp.quad
  obtain ⟨c8_hS1_0, c8_hS1_1, c8_hS1_2, c8_hS1_3, c8_hS1_4, c8_hS1_5⟩ := hS1.cells6
  clear c8_hKp_0 c8_hKp_1 c8_hKp_2 c8_hKp_3 c8_hS1_0 c8_hS1_1 c8_hS1_2 c8_hS1_3 c8_hS1_4 c8_hS1_5
  obtain ⟨c9_hKp_0, c9_hKp_1, c9_hKp_2, c9_hKp_3⟩ := hKp.quad
  obtain ⟨c9_hS1_0, c9_hS1_1, c9_hS1_2, c9_hS1_3, c9_hS1_4, c9_hS1_5⟩ := hS1.cells6
  obtain ⟨c9_hS3_0, c9_hS3_1, c9_hS3_2, c9_hS3_3, c9_hS3_4, c9_hS3_5⟩ := hS3.cells6
  clear hnil
  go_wp2_with fail
  refine (hM _).mono ?_
  rintro e w4 ⟨rfl, b4⟩
  replace hKp := hKp.below b4 hKp.lt
  replace hl1 := hl1.below b4
  replace hb1 := hb1.below b4
  replace hS1 := hS1.below b4 hS1.lt
  replace hl2 := hl2.below b4
  replace hB := hB.trans (b4.mono hB.size)
  clear c9_hKp_0 c9_hKp_1 c9_hKp_2 c9_hKp_3 c9_hS1_0 c9_hS1_1 c9_hS1_2 c9_hS1_3 c9_hS1_4 c9_hS1_5 c9_hS3_0 c9_hS3_1 c9_hS3_2 c9_hS3_3 c9_hS3_4 c9_hS3_5
  obtain ⟨c10_hKp_0, c10_hKp_1, c10_hKp_2, c10_hKp_3⟩ := hKp.quad
  obtain ⟨c10_hS1_0, c10_hS1_1, c10_hS1_2, c10_hS1_3, c10_hS1_4, c10_hS1_5⟩ := hS1.cells6
  go_wp2_with fail
  refine (hRt _ _ ⟨_, rfl, hb1⟩).mono ?_
  rintro e w5 ⟨rfl, b5⟩
  replace hKp := hKp.below b5 hKp.lt
  replace hl1 := hl1.below b5
  replace hb1 := hb1.below b5
  replace hS1 := hS1.below b5 hS1.lt
  replace hl2 := hl2.below b5
  replace hB := hB.trans (b5.mono hB.size)
  clear c10_hKp_0 c10_hKp_1 c10_hKp_2 c10_hKp_3 c10_hS1_0 c10_hS1_1 c10_hS1_2 c10_hS1_3 c10_hS1_4 c10_hS1_5
  obtain ⟨c11_hKp_0, c11_hKp_1, c11_hKp_2, c11_hKp_3⟩ := hKp.quad
  obtain ⟨c11_hS1_0, c11_hS1_1, c11_hS1_2, c11_hS1_3, c11_hS1_4, c11_hS1_5⟩ := hS1.cells6
  obtain ⟨ad2, rfl, cx⟩ := hl2.at_ (k := 1) (by decide)
  have e9 : iat [255, -255, 0, 0, 3] 1 = -255 := rfl
  rw [e9] at cx
  have cx2 : w5.cell? ⟨ad2.block, ad2.off + 1, none⟩ = some (.int .i64 (-255)) := cx
  go_wp2_with fail
  refine (hC _ _ ⟨_, rfl, hb1⟩).mono ?_
  rintro e w6 ⟨rfl, b6⟩
  replace hKp := hKp.below b6 hKp.lt
  replace hl1 := hl1.below b6
  replace hb1 := hb1.below b6
  replace hS1 := hS1.below b6 hS1.lt
  replace hl2 := hl2.below b6
  replace hB := hB.trans (b6.mono hB.size)
  clear c11_hKp_0 c11_hKp_1 c11_hKp_2 c11_hKp_3 c11_hS1_0 c11_hS1_1 c11_hS1_2 c11_hS1_3 c11_hS1_4 c11_hS1_5
  obtain ⟨c12_hKp_0, c12_hKp_1, c12_hKp_2, c12_hKp_3⟩ := hKp.quad
  obtain ⟨c12_hS1_0, c12_hS1_1, c12_hS1_2, c12_hS1_3, c12_hS1_4, c12_hS1_5⟩ := hS1.cells6
  go_wp2_with fail
  refine (hSm _ _ _ ⟨_, rfl, hb1⟩ ⟨_, rfl, hb1⟩).mono ?_
  rintro e w7 ⟨rfl, b7⟩
  replace hKp := hKp.below b7 hKp.lt
  replace hl1 := hl1.below b7
  replace hb1 := hb1.below b7
  replace hS1 := hS1.below b7 hS1.lt
  replace hl2 := hl2.below b7
  replace hB := hB.trans (b7.mono hB.size)
  clear c12_hKp_0 c12_hKp_1 c12_hKp_2 c12_hKp_3 c12_hS1_0 c12_hS1_1 c12_hS1_2 c12_hS1_3 c12_hS1_4 c12_hS1_5
  obtain ⟨c13_hKp_0, c13_hKp_1, c13_hKp_2, c13_hKp_3⟩ := hKp.quad
  obtain ⟨c13_hS1_0, c13_hS1_1, c13_hS1_2, c13_hS1_3, c13_hS1_4, c13_hS1_5⟩ := hS1.cells6
  go_wp2
  go_ret
  exact ⟨rfl, hB⟩
set_option maxHeartbeats 1000000 in
theorem rmay14_any (k z m o : Int) (w : World) : Calls Tryz.prog 10 #[.agg #[.int .i64 k, .int .i64 z, .int .i64 m, .int .i64 o]] w fun e w' => e = .returned (.bool (mayB k z m o)) ∧ Below w.heap.size w w' := by
  have HB := Lib.hid ((Below.refl w.heap.size w).alloc (Nat.le_refl _) (.cells #[.int .i64 k, .int .i64 z, .int .i64 m, .int .i64 o] 23))
  have hd : mayB k z m o = (decide (0 ≤ k) && (decide (k ≤ 3) && (decide (1 ≤ z) && (decide (z ≤ 4096) && (decide (0 ≤ m) && decide (0 ≤ o)))))) := by
    rw [Bool.eq_iff_iff]; simp [mayB]
  rw [hd]
  clear hd
  by_cases h1 : 0 ≤ k <;> by_cases h2 : k ≤ 3 <;> by_cases h3 : 1 ≤ z <;> by_cases h4 : z ≤ 4096 <;> by_cases h5 : 0 ≤ m
  all_goals try (exfalso; omega)
  all_goals
    first
      | rw [decide_eq_true h1]
      | rw [decide_eq_false h1]
    first
      | rw [decide_eq_true h2]
      | rw [decide_eq_false h2]
    first
      | rw [decide_eq_true h3]
      | rw [decide_eq_false h3]
    first
      | rw [decide_eq_true h4]
      | rw [decide_eq_false h4]
    first
      | rw [decide_eq_true h5]
      | rw [decide_eq_false h5]
    go_enter Tryz.func10, Tryz.ntmps10
    go_wp2
    go_ret
    exact ⟨rfl, HB.out⟩
end Go.Proofs.YtochabikpaoalaaGreat
