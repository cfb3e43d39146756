/- Blocks of codes: right, load. Printed by gen_blk2.py. -/
import Derived.Test.YtochabikpaoalaaGreatBlock1
import Derived.Test.YtochabikpaoalaaGreatLaw09
import Derived.Test.YtochabikpaoalaaGreatFixA
import Derived.Test.YtochabikpaoalaaGreatIArr
namespace Go.Proofs.YtochabikpaoalaaGreat
open Go.RowKit
attribute [local go_sem ↓] Go.wp_at_zero Go.wp_at_succ

set_option maxRecDepth 100000 in
set_option maxHeartbeats 4000000 in
theorem cright_kind (v : Value) (k s : Int) (cs : List Nat) (wd : List Int) (w : World) (h : IsBk w v k s cs wd) (hk : ¬ (0 ≤ k ∧ k ≤ 3)) :
    Calls Tryz.prog 163 #[v] w fun e w' => e = .returned (.bool false) ∧ Below w.heap.size w w' := by
  obtain ⟨a, b, rfl, ha, hb⟩ := h
  obtain ⟨Aa, Ca, rfl, _, _⟩ := id ha.form
  obtain ⟨Ab, Cb, rfl, _, _⟩ := id hb.form
  have hB0 := fun w => book_any k w
  rw [show bke k = 1 from if_neg hk] at hB0
  generalize bkz k = l at *
  clear hk
  obtain ⟨W0, hW, hR, hB⟩ := box1 w 73 #[.int .i64 k, .int .i64 s, .slice Aa cs.length Ca, .slice Ab wd.length Cb]
  obtain ⟨g, hg⟩ : ∃ g, g = w.heap.size := ⟨_, rfl⟩
  have hW' := Lib.hid (And.intro hW hg)
  rw [← hg] at hR
  have hgw : w.heap.size ≤ g := by omega
  clear hW hg
  skip
  replace ha := ha.below hB
  obtain ⟨c1_hR_0, c1_hR_1, c1_hR_2, c1_hR_3⟩ := hR.quad
  go_enter Tryz.func163, Tryz.ntmps163
  go_wp2_with fail
  rw [← hW'.out.1, ← hW'.out.2]
  refine (hB0 _).mono ?_
  rintro e w1 ⟨v1, rfl, h1, b1⟩
  replace ha := ha.below b1
  replace hR := hR.below b1 hR.lt
  replace hB := hB.trans (b1.mono hB.size)
  clear c1_hR_0 c1_hR_1 c1_hR_2 c1_hR_3
  obtain ⟨c2_hR_0, c2_hR_1, c2_hR_2, c2_hR_3⟩ := hR.quad
  obtain ⟨A1, C1, rfl, _, _⟩ := h1.form
  clear h1
  go_wp2
  go_ret
  exact ⟨rfl, hB⟩
set_option maxRecDepth 100000 in
set_option maxHeartbeats 4000000 in
theorem cright_wide (v : Value) (k s : Int) (cs : List Nat) (wd : List Int) (w : World) (h : IsBk w v k s cs wd) (hk : 0 ≤ k ∧ k ≤ 3) (hw : wd ≠ []) :
    Calls Tryz.prog 163 #[v] w fun e w' => e = .returned (.bool false) ∧ Below w.heap.size w w' := by
  obtain ⟨a, b, rfl, ha, hb⟩ := h
  obtain ⟨Aa, Ca, rfl, _, _⟩ := id ha.form
  obtain ⟨Ab, Cb, rfl, _, _⟩ := id hb.form
  have hB0 := fun w => book_any k w
  rw [show bke k = 0 from if_pos hk] at hB0
  generalize bkz k = l at *
  have hw1 : decide ((0 : Int) < (wd.length : Int)) = true := decide_eq_true (by have := List.length_pos_iff.2 hw; omega)
  have hw2 : 0 < wd.length := List.length_pos_iff.2 hw
  have hw3 : decide (0 < wd.length) = true := decide_eq_true hw2
  clear hk hw
  obtain ⟨W0, hW, hR, hB⟩ := box1 w 73 #[.int .i64 k, .int .i64 s, .slice Aa cs.length Ca, .slice Ab wd.length Cb]
  obtain ⟨g, hg⟩ : ∃ g, g = w.heap.size := ⟨_, rfl⟩
  have hW' := Lib.hid (And.intro hW hg)
  rw [← hg] at hR
  have hgw : w.heap.size ≤ g := by omega
  clear hW hg
  skip
  replace ha := ha.below hB
  obtain ⟨c1_hR_0, c1_hR_1, c1_hR_2, c1_hR_3⟩ := hR.quad
  go_enter Tryz.func163, Tryz.ntmps163
  go_wp2_with fail
  rw [← hW'.out.1, ← hW'.out.2]
  refine (hB0 _).mono ?_
  rintro e w1 ⟨v1, rfl, h1, b1⟩
  replace ha := ha.below b1
  replace hR := hR.below b1 hR.lt
  replace hB := hB.trans (b1.mono hB.size)
  clear c1_hR_0 c1_hR_1 c1_hR_2 c1_hR_3
  obtain ⟨c2_hR_0, c2_hR_1, c2_hR_2, c2_hR_3⟩ := hR.quad
  obtain ⟨A1, C1, rfl, _, _⟩ := h1.form
  clear h1
  go_wp2
  go_ret
  exact ⟨rfl, hB⟩
set_option maxRecDepth 100000 in
set_option maxHeartbeats 4000000 in
theorem cright_neg (v : Value) (k s : Int) (cs : List Nat) (wd : List Int) (w : World) (h : IsBk w v k s cs wd) (hk : 0 ≤ k ∧ k ≤ 3) (hw : wd = []) (hs : s < 0) :
    Calls Tryz.prog 163 #[v] w fun e w' => e = .returned (.bool false) ∧ Below w.heap.size w w' := by
  obtain ⟨a, b, rfl, ha, hb⟩ := h
  obtain ⟨Aa, Ca, rfl, _, _⟩ := id ha.form
  obtain ⟨Ab, Cb, rfl, _, _⟩ := id hb.form
  have hB0 := fun w => book_any k w
  rw [show bke k = 0 from if_pos hk] at hB0
  generalize bkz k = l at *
  rw [show wd.length = 0 from by rw [hw]; rfl] at *
  clear hk hw hb
  obtain ⟨W0, hW, hR, hB⟩ := box1 w 73 #[.int .i64 k, .int .i64 s, .slice Aa cs.length Ca, .slice Ab 0 Cb]
  obtain ⟨g, hg⟩ : ∃ g, g = w.heap.size := ⟨_, rfl⟩
  have hW' := Lib.hid (And.intro hW hg)
  rw [← hg] at hR
  have hgw : w.heap.size ≤ g := by omega
  clear hW hg
  skip
  replace ha := ha.below hB
  obtain ⟨c1_hR_0, c1_hR_1, c1_hR_2, c1_hR_3⟩ := hR.quad
  go_enter Tryz.func163, Tryz.ntmps163
  go_wp2_with fail
  rw [← hW'.out.1, ← hW'.out.2]
  refine (hB0 _).mono ?_
  rintro e w1 ⟨v1, rfl, h1, b1⟩
  replace ha := ha.below b1
  replace hR := hR.below b1 hR.lt
  replace hB := hB.trans (b1.mono hB.size)
  clear c1_hR_0 c1_hR_1 c1_hR_2 c1_hR_3
  obtain ⟨c2_hR_0, c2_hR_1, c2_hR_2, c2_hR_3⟩ := hR.quad
  obtain ⟨A1, C1, rfl, _, _⟩ := h1.form
  clear h1
  go_wp2
  go_ret
  exact ⟨rfl, hB⟩
set_option maxRecDepth 100000 in
set_option maxHeartbeats 4000000 in
theorem cright_zero (v : Value) (k s : Int) (cs : List Nat) (wd : List Int) (w : World) (h : IsBk w v k s cs wd) (hk : 0 ≤ k ∧ k ≤ 3) (hw : wd = []) (hs : s = 0) :
    Calls Tryz.prog 163 #[v] w fun e w' => e = .returned (.bool (cs.all (fun c => decide (c = codeOf k 0 1)))) ∧ Below w.heap.size w w' := by
  obtain ⟨a, b, rfl, ha, hb⟩ := h
  obtain ⟨Aa, Ca, rfl, _, _⟩ := id ha.form
  obtain ⟨Ab, Cb, rfl, _, _⟩ := id hb.form
  have hB0 := fun w => book_any k w
  rw [show bke k = 0 from if_pos hk] at hB0
  generalize bkz k = l at *
  rw [show wd.length = 0 from by rw [hw]; rfl] at *
  have hN0 := fun w => near_any k 0 1 w (by unfold I64; omega) (by unfold I64; omega)
  have hN1 := fun w => near_any k 1 1 w (by unfold I64; omega) (by unfold I64; omega)
  have hN2 := fun w => near_any k (-1) 1 w (by unfold I64; omega) (by unfold I64; omega)
  have ce := codeE_cases k (-1) 1
  generalize codeOf k 0 1 = c0 at *
  generalize codeOf k 1 1 = c1 at *
  generalize codeOf k (-1) 1 = c2 at *
  generalize codeE k 0 1 = e0 at *
  generalize codeE k 1 1 = e1 at *
  generalize codeE k (-1) 1 = e2 at *
  subst hs
  clear hk hw hb ce
  obtain ⟨W0, hW, hR, hB⟩ := box1 w 73 #[.int .i64 k, .int .i64 0, .slice Aa cs.length Ca, .slice Ab 0 Cb]
  obtain ⟨g, hg⟩ : ∃ g, g = w.heap.size := ⟨_, rfl⟩
  have hW' := Lib.hid (And.intro hW hg)
  rw [← hg] at hR
  have hgw : w.heap.size ≤ g := by omega
  clear hW hg
  skip
  replace ha := ha.below hB
  obtain ⟨c1_hR_0, c1_hR_1, c1_hR_2, c1_hR_3⟩ := hR.quad
  go_enter Tryz.func163, Tryz.ntmps163
  go_wp2_with fail
  rw [← hW'.out.1, ← hW'.out.2]
  refine (hB0 _).mono ?_
  rintro e w1 ⟨v1, rfl, h1, b1⟩
  replace ha := ha.below b1
  replace hR := hR.below b1 hR.lt
  replace hB := hB.trans (b1.mono hB.size)
  clear c1_hR_0 c1_hR_1 c1_hR_2 c1_hR_3
  obtain ⟨c2_hR_0, c2_hR_1, c2_hR_2, c2_hR_3⟩ := hR.quad
  obtain ⟨A1, C1, rfl, _, _⟩ := h1.form
  clear h1
  go_wp2_with fail
  refine (hN0 _).mono ?_
  rintro e w2 ⟨rfl, b2⟩
  replace ha := ha.below b2
  replace hR := hR.below b2 hR.lt
  replace hB := hB.trans (b2.mono hB.size)
  clear c2_hR_0 c2_hR_1 c2_hR_2 c2_hR_3
  obtain ⟨c3_hR_0, c3_hR_1, c3_hR_2, c3_hR_3⟩ := hR.quad
  obtain ⟨V1, eV, h5, bV1⟩ := box1 w2 5 #[.int .u8 (c0 : Nat)]
  obtain ⟨X1, eX⟩ : ∃ X, X = w2.heap.size := ⟨_, rfl⟩
  rw [← eX] at h5
  have EV1 := Lib.hid (And.intro eV eX)
  clear eV eX
  go_upto_region 5 with fail
  rw [← EV1.out.1, ← EV1.out.2]
  replace ha := ha.below bV1
  replace hR := hR.below bV1 hR.lt
  replace hB := hB.trans (bV1.mono hB.size)
  clear c3_hR_0 c3_hR_1 c3_hR_2 c3_hR_3
  obtain ⟨c4_hR_0, c4_hR_1, c4_hR_2, c4_hR_3⟩ := hR.quad
  clear c4_hR_0 c4_hR_1 c4_hR_2 c4_hR_3
  obtain ⟨c5_hR_0, c5_hR_1, c5_hR_2, c5_hR_3⟩ := hR.quad
  have c5_h5_0 := h5.cells1
  go_wp2_with fail
  refine (hN1 _).mono ?_
  rintro e w3 ⟨rfl, b3⟩
  replace ha := ha.below b3
  replace hR := hR.below b3 hR.lt
  replace h5 := h5.below b3 h5.lt
  replace hB := hB.trans (b3.mono hB.size)
  clear c5_hR_0 c5_hR_1 c5_hR_2 c5_hR_3 c5_h5_0
  obtain ⟨c6_hR_0, c6_hR_1, c6_hR_2, c6_hR_3⟩ := hR.quad
  have c6_h5_0 := h5.cells1
  go_wp2_with fail
  refine (hN2 _).mono ?_
  rintro e w4 ⟨rfl, b4⟩
  replace ha := ha.below b4
  replace hR := hR.below b4 hR.lt
  replace h5 := h5.below b4 h5.lt
  replace hB := hB.trans (b4.mono hB.size)
  clear c6_hR_0 c6_hR_1 c6_hR_2 c6_hR_3 c6_h5_0
  obtain ⟨c7_hR_0, c7_hR_1, c7_hR_2, c7_hR_3⟩ := hR.quad
  have c7_h5_0 := h5.cells1
  have hA := fun w h hC => containsOther_any (.slice Aa cs.length Ca) cs X1 c0 w h hC
  go_wp2_with fail
  refine (hA _ ha h5).mono ?_
  rintro e w5 ⟨rfl, rfl⟩
  have HX := Lib.hid (show (!cs.any (fun n => !decide (n = c0))) = cs.all (fun c => decide (c = c0)) by rw [List.not_any_eq_all_not]; simp)
  generalize cs.any (fun n => !decide (n = c0)) = r at *
  go_wp2
  go_ret
  exact ⟨ret_bool HX.out, hB⟩
set_option maxRecDepth 100000 in
set_option maxHeartbeats 4000000 in
theorem cright_pos (v : Value) (k s : Int) (cs : List Nat) (wd : List Int) (w : World) (h : IsBk w v k s cs wd) (hk : 0 ≤ k ∧ k ≤ 3) (hw : wd = []) (hs : 0 < s) :
    Calls Tryz.prog 163 #[v] w fun e w' => e = .returned (.bool (cs.contains (codeOf k 1 1) || (decide (codeE k (-1) 1 = 0) && cs.contains (codeOf k (-1) 1)))) ∧ Below w.heap.size w w' := by
  obtain ⟨a, b, rfl, ha, hb⟩ := h
  obtain ⟨Aa, Ca, rfl, _, _⟩ := id ha.form
  obtain ⟨Ab, Cb, rfl, _, _⟩ := id hb.form
  have hB0 := fun w => book_any k w
  rw [show bke k = 0 from if_pos hk] at hB0
  generalize bkz k = l at *
  rw [show wd.length = 0 from by rw [hw]; rfl] at *
  have hN0 := fun w => near_any k 0 1 w (by unfold I64; omega) (by unfold I64; omega)
  have hN1 := fun w => near_any k 1 1 w (by unfold I64; omega) (by unfold I64; omega)
  have hN2 := fun w => near_any k (-1) 1 w (by unfold I64; omega) (by unfold I64; omega)
  have ce := codeE_cases k (-1) 1
  generalize codeOf k 0 1 = c0 at *
  generalize codeOf k 1 1 = c1 at *
  generalize codeOf k (-1) 1 = c2 at *
  generalize codeE k 0 1 = e0 at *
  generalize codeE k 1 1 = e1 at *
  generalize codeE k (-1) 1 = e2 at *
  have hC1 := fun w h => contains_u8 (.slice Aa cs.length Ca) cs c1 w h
  have hC2 := fun w h => contains_u8 (.slice Aa cs.length Ca) cs c2 w h
  rw [List.contains_eq_mem, List.contains_eq_mem]
  generalize decide (c1 ∈ cs) = r1 at *
  generalize decide (c2 ∈ cs) = r2 at *
  have hs1 : (s == 0) = false := by rw [beq_eq_false_iff_ne]; omega
  have hs2 : decide (s = 0) = false := decide_eq_false (by omega)
  have hs3 : decide (s < 0) = false := decide_eq_false (by omega)
  clear hk hw hb hs
  obtain ⟨W0, hW, hR, hB⟩ := box1 w 73 #[.int .i64 k, .int .i64 s, .slice Aa cs.length Ca, .slice Ab 0 Cb]
  obtain ⟨g, hg⟩ : ∃ g, g = w.heap.size := ⟨_, rfl⟩
  have hW' := Lib.hid (And.intro hW hg)
  rw [← hg] at hR
  have hgw : w.heap.size ≤ g := by omega
  clear hW hg
  skip
  replace ha := ha.below hB
  obtain ⟨c1_hR_0, c1_hR_1, c1_hR_2, c1_hR_3⟩ := hR.quad
  go_enter Tryz.func163, Tryz.ntmps163
  go_wp2_with fail
  rw [← hW'.out.1, ← hW'.out.2]
  refine (hB0 _).mono ?_
  rintro e w1 ⟨v1, rfl, h1, b1⟩
  replace ha := ha.below b1
  replace hR := hR.below b1 hR.lt
  replace hB := hB.trans (b1.mono hB.size)
  clear c1_hR_0 c1_hR_1 c1_hR_2 c1_hR_3
  obtain ⟨c2_hR_0, c2_hR_1, c2_hR_2, c2_hR_3⟩ := hR.quad
  obtain ⟨A1, C1, rfl, _, _⟩ := h1.form
  clear h1
  go_wp2_with fail
  refine (hN0 _).mono ?_
  rintro e w2 ⟨rfl, b2⟩
  replace ha := ha.below b2
  replace hR := hR.below b2 hR.lt
  replace hB := hB.trans (b2.mono hB.size)
  clear c2_hR_0 c2_hR_1 c2_hR_2 c2_hR_3
  obtain ⟨c3_hR_0, c3_hR_1, c3_hR_2, c3_hR_3⟩ := hR.quad
  obtain ⟨V1, eV, h5, bV1⟩ := box1 w2 5 #[.int .u8 (c0 : Nat)]
  obtain ⟨X1, eX⟩ : ∃ X, X = w2.heap.size := ⟨_, rfl⟩
  rw [← eX] at h5
  have EV1 := Lib.hid (And.intro eV eX)
  clear eV eX
  go_upto_region 5 with fail
  rw [← EV1.out.1, ← EV1.out.2]
  replace ha := ha.below bV1
  replace hR := hR.below bV1 hR.lt
  replace hB := hB.trans (bV1.mono hB.size)
  clear c3_hR_0 c3_hR_1 c3_hR_2 c3_hR_3
  obtain ⟨c4_hR_0, c4_hR_1, c4_hR_2, c4_hR_3⟩ := hR.quad
  clear c4_hR_0 c4_hR_1 c4_hR_2 c4_hR_3
  obtain ⟨c5_hR_0, c5_hR_1, c5_hR_2, c5_hR_3⟩ := hR.quad
  have c5_h5_0 := h5.cells1
  go_wp2_with fail
  refine (hN1 _).mono ?_
  rintro e w3 ⟨rfl, b3⟩
  replace ha := ha.below b3
  replace hR := hR.below b3 hR.lt
  replace h5 := h5.below b3 h5.lt
  replace hB := hB.trans (b3.mono hB.size)
  clear c5_hR_0 c5_hR_1 c5_hR_2 c5_hR_3 c5_h5_0
  obtain ⟨c6_hR_0, c6_hR_1, c6_hR_2, c6_hR_3⟩ := hR.quad
  have c6_h5_0 := h5.cells1
  go_wp2_with fail
  refine (hN2 _).mono ?_
  rintro e w4 ⟨rfl, b4⟩
  replace ha := ha.below b4
  replace hR := hR.below b4 hR.lt
  replace h5 := h5.below b4 h5.lt
  replace hB := hB.trans (b4.mono hB.size)
  clear c6_hR_0 c6_hR_1 c6_hR_2 c6_hR_3 c6_h5_0
  obtain ⟨c7_hR_0, c7_hR_1, c7_hR_2, c7_hR_3⟩ := hR.quad
  have c7_h5_0 := h5.cells1
  go_wp2_with fail
  refine (hC1 _ ha).mono ?_
  rintro e w5 ⟨rfl, rfl⟩
  cases hr1 : r1
  · rcases ce with rfl | rfl
    · skip
      go_wp2_with fail
      refine (hC2 _ ha).mono ?_
      rintro e w6 ⟨rfl, rfl⟩
      go_wp2
      go_ret
      exact ⟨by simp [hr1], hB⟩
    · go_wp2
      go_ret
      exact ⟨by simp [hr1], hB⟩
  · go_wp2
    go_ret
    exact ⟨by simp [hr1], hB⟩
/-- is a block of codes right? -/
theorem cright_any (v : Value) (k s : Int) (cs : List Nat) (wd : List Int) (w : World) (h : IsBk w v k s cs wd) :
    Calls Tryz.prog 163 #[v] w fun e w' => e = .returned (.bool (decide (0 ≤ k ∧ k ≤ 3) && (decide (wd = []) && (decide (0 ≤ s) && (if s = 0 then cs.all (fun c => decide (c = codeOf k 0 1)) else cs.contains (codeOf k 1 1) || (decide (codeE k (-1) 1 = 0) && cs.contains (codeOf k (-1) 1))))))) ∧ Below w.heap.size w w' := by
  by_cases hk : 0 ≤ k ∧ k ≤ 3
  · rw [decide_eq_true hk, Bool.true_and]
    by_cases hw : wd = []
    · rw [decide_eq_true hw, Bool.true_and]
      rcases Int.lt_trichotomy s 0 with hs | hs | hs
      · rw [decide_eq_false (show ¬ 0 ≤ s by omega), Bool.false_and]
        exact cright_neg v k s cs wd w h hk hw hs
      · rw [decide_eq_true (show 0 ≤ s by omega), Bool.true_and, if_pos hs]
        exact cright_zero v k s cs wd w h hk hw hs
      · rw [decide_eq_true (show 0 ≤ s by omega), Bool.true_and, if_neg (by omega)]
        exact cright_pos v k s cs wd w h hk hw hs
    · rw [decide_eq_false hw, Bool.false_and]
      exact cright_wide v k s cs wd w h hk hw
  · rw [decide_eq_false hk, Bool.false_and]
    exact cright_kind v k s cs wd w h hk
theorem newI (w : World) (l : List Int) : ∃ V, V = w.alloc (.cells (is l).toArray 2) ∧ IArr V w.heap.size l ∧ Below w.heap.size w V := ⟨_, rfl, IArr.new w l, (Below.refl _ w).alloc (Nat.le_refl _) _⟩
theorem scale_load {n : Nat} (hn : n < 4) (s : Int) (c : Nat) : scaleZ s (iat (bk n) c) (den (n : Nat)) = loadZ n s c := by
  unfold scaleZ loadZ
  rw [← nearZ_sided _ _ _ (den_nat hn).1]
  congr 1
  unfold sided
  rcases Int.lt_or_le s 0 with h | h <;> rcases Int.lt_or_le (iat (bk n) c) 0 with h' | h'
  · rw [decide_eq_true h, decide_eq_true h']
    have e1 : ((s.natAbs : Nat) : Int) = -s := by omega
    have e2 : (((iat (bk n) c).natAbs : Nat) : Int) = -iat (bk n) c := by omega
    simp [e1, e2, Int.neg_mul, Int.mul_neg]
  · rw [decide_eq_true h, decide_eq_false (by omega : ¬ iat (bk n) c < 0)]
    have e1 : ((s.natAbs : Nat) : Int) = -s := by omega
    have e2 : (((iat (bk n) c).natAbs : Nat) : Int) = iat (bk n) c := by omega
    simp [e1, e2, Int.neg_mul, Int.mul_neg]
  · rw [decide_eq_false (by omega : ¬ s < 0), decide_eq_true h']
    have e1 : ((s.natAbs : Nat) : Int) = s := by omega
    have e2 : (((iat (bk n) c).natAbs : Nat) : Int) = -iat (bk n) c := by omega
    simp [e1, e2, Int.neg_mul, Int.mul_neg]
  · rw [decide_eq_false (by omega : ¬ s < 0), decide_eq_false (by omega : ¬ iat (bk n) c < 0)]
    have e1 : ((s.natAbs : Nat) : Int) = s := by omega
    have e2 : (((iat (bk n) c).natAbs : Nat) : Int) = iat (bk n) c := by omega
    simp [e1, e2, Int.neg_mul, Int.mul_neg]
/-- the first j numbers are loaded -/
def upTo (n : Nat) (s : Int) (cs : List Nat) (j : Nat) : List Int := loadC n s (cs.take j) ++ List.replicate (cs.length - j) 0
theorem upTo_len (n : Nat) (s : Int) (cs : List Nat) (j : Nat) (hj : j ≤ cs.length) : (upTo n s cs j).length = cs.length := by unfold upTo loadC; simp; omega
theorem upTo_set (n : Nat) (s : Int) (cs : List Nat) (j : Nat) (hj : j < cs.length) : (upTo n s cs j).set j (loadZ n s (yat cs j)) = upTo n s cs (j + 1) := by
  unfold upTo
  have hl : (loadC n s (cs.take j)).length = j := by unfold loadC; simp; omega
  rw [List.set_append_right _ _ (by omega), hl, Nat.sub_self, yat_snoc_take cs j hj, show cs.length - j = (cs.length - (j + 1)) + 1 by omega, List.replicate_succ, List.set_cons_zero]
  unfold loadC
  simp
theorem upTo_all (n : Nat) (s : Int) (cs : List Nat) : upTo n s cs cs.length = loadC n s cs := by unfold upTo; simp
theorem upTo_none (n : Nat) (s : Int) (cs : List Nat) : upTo n s cs 0 = List.replicate cs.length 0 := by unfold upTo loadC; simp
set_option maxRecDepth 100000 in
set_option maxHeartbeats 8000000 in
/-- what is loaded of codes -/
theorem cload_any (v : Value) (n : Nat) (s : Int) (cs : List Nat) (wd : List Int) (w : World) (hn : n < 4) (hs0 : 0 ≤ s) (hs1 : s ≤ 9223372036854775807) (hcl : cs.length ≤ 1000000) (h : IsBk w v n s cs wd) :
    Calls Tryz.prog 162 #[v] w fun e w' => ∃ v', e = .returned v' ∧ IsI w' v' (loadC n s cs) ∧ Below w.heap.size w w' := by
  obtain ⟨a, b, rfl, ha, hb⟩ := h
  obtain ⟨Aa, Ca, rfl, _, _⟩ := id ha.form
  have HBy := Lib.hid ha.by_
  have hB0 := fun w => book_any n w
  rw [show bke n = 0 from if_pos (by omega), bkz_nat n hn] at hB0
  have hD := fun w => den_any n w
  have hlen := bk_len n hn
  have hden := dens n hn
  have hSc : ∀ c, c < 256 → ∀ w, Calls Tryz.prog 164 #[.int .i64 s, .int .i64 (iat (bk n) c), .int .i64 (den (n : Nat))] w fun e w' => e = .returned (.tuple #[.int .i64 (loadZ n s c), .int .i64 (fitE (loadZ n s c))]) ∧ Below w.heap.size w w' := by
    intro c hc w
    obtain ⟨l1, l2, _⟩ := loadZ_le hn hs0 hc
    have hi := bk_in hn c
    have := fscale_any s (iat (bk n) c) (den (n : Nat)) (by omega) (by omega) (by omega) hs1 (by omega) (by omega) w
    rw [scale_load hn, (fit_in (z := loadZ n s c) (by omega)).1] at this
    exact this
  have hmk := run_make_i64 34 Tryz.underlying34 cs.length cs.length rfl (by omega)
  generalize den (n : Nat) = D at *
  clear hden hs0 hs1
  obtain ⟨W0, hW, hR, hB⟩ := box1 w 73 #[.int .i64 n, .int .i64 s, .slice Aa cs.length Ca, b]
  obtain ⟨g, hg⟩ : ∃ g, g = w.heap.size := ⟨_, rfl⟩
  have hW' := Lib.hid (And.intro hW hg)
  rw [← hg] at hR
  have hgw : w.heap.size ≤ g := by omega
  clear hW hg
  skip
  replace ha := ha.below hB
  replace hb := hb.below hB
  obtain ⟨c1_hR_0, c1_hR_1, c1_hR_2, c1_hR_3⟩ := hR.quad
  go_enter Tryz.func162, Tryz.ntmps162
  go_wp2_with fail
  rw [← hW'.out.1, ← hW'.out.2]
  refine (hB0 _).mono ?_
  rintro e w1 ⟨v1, rfl, hL, b1⟩
  replace ha := ha.below b1
  replace hb := hb.below b1
  replace hR := hR.below b1 hR.lt
  replace hB := hB.trans (b1.mono hB.size)
  clear c1_hR_0 c1_hR_1 c1_hR_2 c1_hR_3
  obtain ⟨c2_hR_0, c2_hR_1, c2_hR_2, c2_hR_3⟩ := hR.quad
  obtain ⟨A1, C1, rfl, _, _⟩ := id hL.form
  rw [hlen] at hL ⊢
  obtain ⟨V1, eV, hO, bX⟩ := newI w1 (List.replicate cs.length 0)
  obtain ⟨X, eX⟩ : ∃ X, X = w1.heap.size := ⟨_, rfl⟩
  rw [← eX] at hO
  have hgX : g < X := by rw [eX]; exact hR.lt
  have hXs : w1.heap.size ≤ X := by omega
  have EV1 := Lib.hid (And.intro eV eX)
  clear eV eX
  go_upto_region 3 with fail
  rw [← EV1.out.1, ← EV1.out.2]
  rw [← upTo_none n s cs] at hO
  have hRV := hR.below bX hR.lt
  clear c2_hR_0 c2_hR_1 c2_hR_2 c2_hR_3
  obtain ⟨c3_hR_0, c3_hR_1, c3_hR_2, c3_hR_3⟩ := hRV.quad
  go_wp2
  go_loopw [21] (fun i wr => ∃ j : Nat, i = .int .i64 j ∧ j ≤ cs.length ∧ IArr wr X (upTo n s cs j) ∧ Below w1.heap.size w1 wr) (fun i _ => cs.length - (intOf i).toNat)
  case atStart => exact ⟨0, rfl, by omega, hO, bX⟩
  case round =>
    clear hO bX hRV c3_hR_0 c3_hR_1 c3_hR_2 c3_hR_3
    obtain ⟨j, rfl, hj, hO, bX⟩ := hrel
    by_cases hlt : j < cs.length
    · obtain ⟨adc, rfl, hc⟩ := (ha.below bX).at_ hlt
      have hc2 := HBy.out.at_ j
      obtain ⟨adl, rfl, hc3⟩ := hL.at_ (k := yat cs j) (by rw [hlen]; exact hc2)
      have HS := Lib.hid (upTo_set n s cs j hlt)
      have HSc := hSc _ hc2
      have hol := upTo_len n s cs j hj
      have hcw := hO.cell (i := j) (by rw [hol]; exact hlt)
      have hzw := hO.frozen j
      have i0 : (0 : Int) ≤ (j : Int) := by omega
      have i1 : (j : Int) < (cs.length : Int) := by omega
      have i2 : (0 : Int) ≤ (yat cs j : Int) := by omega
      have i3 : (yat cs j : Int) < 256 := by omega
      have hH : ∀ w', Below w1.heap.size w1 w' → w'.cell? ⟨g, 0, none⟩ = some (.int .i64 n) ∧ w'.cell? ⟨g, 1, none⟩ = some (.int .i64 s) ∧ w'.cell? (adl.add (yat cs j)) = some (.int .i64 (iat (bk n) (yat cs j))) := fun w' h => ⟨(hR.below h hR.lt).cell 0, (hR.below h hR.lt).cell 1, cellB h hc3⟩
      have hH2 : ∀ w', Below wr.heap.size wr w' → w'.cell? ⟨X, j, none⟩ = some (.int .i64 (iat (upTo n s cs j) j)) ∧ w'.frozen? ⟨X, j, none⟩ = false ∧ IArr w' X (upTo n s cs j) := fun w' h => ⟨(hO.below h hO.lt).cell (by rw [hol]; exact hlt), (hO.below h hO.lt).frozen j, hO.below h hO.lt⟩
      clear hcw hzw hol
      have b0 := (Below.refl wr.heap.size wr).drew
      generalize iat (bk n) (yat cs j) = L at *
      generalize loadZ n s (yat cs j) = z at *
      generalize fitE z = ez at *
      generalize yat cs j = c at *
      go_wp2
      go_region_held3 (fun w' => w'.cell? ⟨g, 0, none⟩ = some (.int .i64 n) ∧ w'.cell? ⟨g, 1, none⟩ = some (.int .i64 s) ∧ w'.cell? (adl.add c) = some (.int .i64 L))
        (first | exact hH _ bX.drew | exact hH _ (by assumption) | exact hH _ ((by assumption : Below w1.heap.size w1 _).setCell (p := ⟨X, j, none⟩) hXs _))
        (first
          | (go_at_call 62; refine (hD _).mono ?_; rintro x w8 ⟨rfl, rfl⟩)
          | (go_at_call 164; refine (HSc _).mono ?_; rintro x w9 ⟨rfl, b9⟩; have b10 := b0.trans (b9.mono b0.size); obtain ⟨q1, q2, q3⟩ := hH2 _ b10; have bY := bX.trans (b10.mono bX.size)))
      go_wp2
      have q4 := q3.set j z
      rw [HS.out] at q4
      exact ⟨⟨j + 1, by go_num, by omega, q4, bY.setCell (p := ⟨X, j, none⟩) hXs _⟩, by simp [intOf]; omega⟩
    · obtain rfl : j = cs.length := by omega
      rw [upTo_all] at hO
      go_wp2
      go_ret
      exact ⟨_, rfl, by have := hO.isI (by unfold loadC; simp; omega); rwa [show (loadC n s cs).length = cs.length by unfold loadC; simp] at this, hB.trans (bX.mono hB.size)⟩
end Go.Proofs.YtochabikpaoalaaGreat
