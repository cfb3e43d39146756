/- ZedRing: sums and products hang on no order, nor on brackets; a product of a sum is the sum of the products. No conditions: every input. -/
import Derived.Test.YtooonjcpdbbniaaDoorJoin04
namespace Go.Proofs.YtooonjcpdbbniaaDoor
open Go.RowKit Go.Lib Go.Shelf
attribute [local go_sem ↓] Go.wp_at_zero Go.wp_at_succ
set_option maxRecDepth 100000 in
set_option maxHeartbeats 8000000 in
theorem ZedRing_un1 (sg1 sg2 sg3 : Bool) (B1 B2 B3 : Option Addr) (D1 D2 D3 : Nat) (l1 l2 l3 : List Nat) (w : World) (h1 : IsL w (.slice B1 l1.length D1) l1) (h2 : IsL w (.slice B2 l2.length D2) l2) (h3 : IsL w (.slice B3 l3.length D3) l3) (ht : TabOk w) (f1 : (decide (l1.length ≤ 6) && rightZ sg1 l1) = false) :
    Calls Tryd.prog 3 #[.agg #[.bool sg1, .slice B1 l1.length D1], .agg #[.bool sg2, .slice B2 l2.length D2], .agg #[.bool sg3, .slice B3 l3.length D3]] w fun e w' => e = .returned (.bool true) ∧ Below w.heap.size w w' := by
  have hE := fun w ht => alive04_any w ht
  have hF1 := fun w h => rzfew_any sg1 (.slice B1 l1.length D1) l1 6 w h
  have hF2 := fun w h => rzfew_any sg2 (.slice B2 l2.length D2) l2 6 w h
  have hF3 := fun w h => rzfew_any sg3 (.slice B3 l3.length D3) l3 6 w h
  rw [f1] at hF1
  obtain ⟨W0, hW, hT, hR, hB⟩ := box3 w 25 25 25 #[.bool sg1, .slice B1 l1.length D1] #[.bool sg2, .slice B2 l2.length D2] #[.bool sg3, .slice B3 l3.length D3]
  obtain ⟨g, hg⟩ : ∃ g, g = w.heap.size := ⟨_, rfl⟩
  have hW' := Lib.hid (And.intro hW hg)
  rw [← hg] at hT hR
  have hgw : w.heap.size ≤ g := by omega
  clear hW hg
  obtain ⟨hX, hY⟩ := hT
  have hZ := hR
  replace h1 := h1.below hB
  replace h2 := h2.below hB
  replace h3 := h3.below hB
  obtain ⟨c1_hX_0, c1_hX_1⟩ := hX.cells2
  obtain ⟨c1_hY_0, c1_hY_1⟩ := hY.cells2
  obtain ⟨c1_hZ_0, c1_hZ_1⟩ := hZ.cells2
  go_enter Tryd.func3, Tryd.ntmps3
  go_wp2_with fail
  rw [← hW'.out.1, ← hW'.out.2]
  refine (hF1 _ h1).mono ?_
  rintro e w1 ⟨rfl, b1⟩
  replace h1 := h1.below b1
  replace h2 := h2.below b1
  replace h3 := h3.below b1
  replace hX := hX.below b1 hX.lt
  replace hY := hY.below b1 hY.lt
  replace hZ := hZ.below b1 hZ.lt
  replace hB := hB.trans (b1.mono hB.size)
  clear c1_hX_0 c1_hX_1 c1_hY_0 c1_hY_1 c1_hZ_0 c1_hZ_1
  obtain ⟨c2_hX_0, c2_hX_1⟩ := hX.cells2
  obtain ⟨c2_hY_0, c2_hY_1⟩ := hY.cells2
  obtain ⟨c2_hZ_0, c2_hZ_1⟩ := hZ.cells2
  go_wp2_with fail
  refine (hE _ (ht.below hB)).mono ?_
  rintro e w2 ⟨rfl, b2⟩
  replace h1 := h1.below b2
  replace h2 := h2.below b2
  replace h3 := h3.below b2
  replace hX := hX.below b2 hX.lt
  replace hY := hY.below b2 hY.lt
  replace hZ := hZ.below b2 hZ.lt
  replace hB := hB.trans (b2.mono hB.size)
  clear c2_hX_0 c2_hX_1 c2_hY_0 c2_hY_1 c2_hZ_0 c2_hZ_1
  obtain ⟨c3_hX_0, c3_hX_1⟩ := hX.cells2
  obtain ⟨c3_hY_0, c3_hY_1⟩ := hY.cells2
  obtain ⟨c3_hZ_0, c3_hZ_1⟩ := hZ.cells2
  go_wp2_with fail
  go_ret
  exact ⟨rfl, hB⟩
set_option maxRecDepth 100000 in
set_option maxHeartbeats 8000000 in
theorem ZedRing_un2 (sg1 sg2 sg3 : Bool) (B1 B2 B3 : Option Addr) (D1 D2 D3 : Nat) (l1 l2 l3 : List Nat) (w : World) (h1 : IsL w (.slice B1 l1.length D1) l1) (h2 : IsL w (.slice B2 l2.length D2) l2) (h3 : IsL w (.slice B3 l3.length D3) l3) (ht : TabOk w) (f1 : (decide (l1.length ≤ 6) && rightZ sg1 l1) = true) (f2 : (decide (l2.length ≤ 6) && rightZ sg2 l2) = false) :
    Calls Tryd.prog 3 #[.agg #[.bool sg1, .slice B1 l1.length D1], .agg #[.bool sg2, .slice B2 l2.length D2], .agg #[.bool sg3, .slice B3 l3.length D3]] w fun e w' => e = .returned (.bool true) ∧ Below w.heap.size w w' := by
  have hE := fun w ht => alive04_any w ht
  have hF1 := fun w h => rzfew_any sg1 (.slice B1 l1.length D1) l1 6 w h
  have hF2 := fun w h => rzfew_any sg2 (.slice B2 l2.length D2) l2 6 w h
  have hF3 := fun w h => rzfew_any sg3 (.slice B3 l3.length D3) l3 6 w h
  rw [f1] at hF1
  rw [f2] at hF2
  obtain ⟨W0, hW, hT, hR, hB⟩ := box3 w 25 25 25 #[.bool sg1, .slice B1 l1.length D1] #[.bool sg2, .slice B2 l2.length D2] #[.bool sg3, .slice B3 l3.length D3]
  obtain ⟨g, hg⟩ : ∃ g, g = w.heap.size := ⟨_, rfl⟩
  have hW' := Lib.hid (And.intro hW hg)
  rw [← hg] at hT hR
  have hgw : w.heap.size ≤ g := by omega
  clear hW hg
  obtain ⟨hX, hY⟩ := hT
  have hZ := hR
  replace h1 := h1.below hB
  replace h2 := h2.below hB
  replace h3 := h3.below hB
  obtain ⟨c1_hX_0, c1_hX_1⟩ := hX.cells2
  obtain ⟨c1_hY_0, c1_hY_1⟩ := hY.cells2
  obtain ⟨c1_hZ_0, c1_hZ_1⟩ := hZ.cells2
  go_enter Tryd.func3, Tryd.ntmps3
  go_wp2_with fail
  rw [← hW'.out.1, ← hW'.out.2]
  refine (hF1 _ h1).mono ?_
  rintro e w1 ⟨rfl, b1⟩
  replace h1 := h1.below b1
  replace h2 := h2.below b1
  replace h3 := h3.below b1
  replace hX := hX.below b1 hX.lt
  replace hY := hY.below b1 hY.lt
  replace hZ := hZ.below b1 hZ.lt
  replace hB := hB.trans (b1.mono hB.size)
  clear c1_hX_0 c1_hX_1 c1_hY_0 c1_hY_1 c1_hZ_0 c1_hZ_1
  obtain ⟨c2_hX_0, c2_hX_1⟩ := hX.cells2
  obtain ⟨c2_hY_0, c2_hY_1⟩ := hY.cells2
  obtain ⟨c2_hZ_0, c2_hZ_1⟩ := hZ.cells2
  go_wp2_with fail
  refine (hF2 _ h2).mono ?_
  rintro e w2 ⟨rfl, b2⟩
  replace h1 := h1.below b2
  replace h2 := h2.below b2
  replace h3 := h3.below b2
  replace hX := hX.below b2 hX.lt
  replace hY := hY.below b2 hY.lt
  replace hZ := hZ.below b2 hZ.lt
  replace hB := hB.trans (b2.mono hB.size)
  clear c2_hX_0 c2_hX_1 c2_hY_0 c2_hY_1 c2_hZ_0 c2_hZ_1
  obtain ⟨c3_hX_0, c3_hX_1⟩ := hX.cells2
  obtain ⟨c3_hY_0, c3_hY_1⟩ := hY.cells2
  obtain ⟨c3_hZ_0, c3_hZ_1⟩ := hZ.cells2
  go_wp2_with fail
  refine (hE _ (ht.below hB)).mono ?_
  rintro e w3 ⟨rfl, b3⟩
  replace h1 := h1.below b3
  replace h2 := h2.below b3
  replace h3 := h3.below b3
  replace hX := hX.below b3 hX.lt
  replace hY := hY.below b3 hY.lt
  replace hZ := hZ.below b3 hZ.lt
  replace hB := hB.trans (b3.mono hB.size)
  clear c3_hX_0 c3_hX_1 c3_hY_0 c3_hY_1 c3_hZ_0 c3_hZ_1
  obtain ⟨c4_hX_0, c4_hX_1⟩ := hX.cells2
  obtain ⟨c4_hY_0, c4_hY_1⟩ := hY.cells2
  obtain ⟨c4_hZ_0, c4_hZ_1⟩ := hZ.cells2
  go_wp2_with fail
  go_ret
  exact ⟨rfl, hB⟩
set_option maxRecDepth 100000 in
set_option maxHeartbeats 8000000 in
theorem ZedRing_un3 (sg1 sg2 sg3 : Bool) (B1 B2 B3 : Option Addr) (D1 D2 D3 : Nat) (l1 l2 l3 : List Nat) (w : World) (h1 : IsL w (.slice B1 l1.length D1) l1) (h2 : IsL w (.slice B2 l2.length D2) l2) (h3 : IsL w (.slice B3 l3.length D3) l3) (ht : TabOk w) (f1 : (decide (l1.length ≤ 6) && rightZ sg1 l1) = true) (f2 : (decide (l2.length ≤ 6) && rightZ sg2 l2) = true) (f3 : (decide (l3.length ≤ 6) && rightZ sg3 l3) = false) :
    Calls Tryd.prog 3 #[.agg #[.bool sg1, .slice B1 l1.length D1], .agg #[.bool sg2, .slice B2 l2.length D2], .agg #[.bool sg3, .slice B3 l3.length D3]] w fun e w' => e = .returned (.bool true) ∧ Below w.heap.size w w' := by
  have hE := fun w ht => alive04_any w ht
  have hF1 := fun w h => rzfew_any sg1 (.slice B1 l1.length D1) l1 6 w h
  have hF2 := fun w h => rzfew_any sg2 (.slice B2 l2.length D2) l2 6 w h
  have hF3 := fun w h => rzfew_any sg3 (.slice B3 l3.length D3) l3 6 w h
  rw [f1] at hF1
  rw [f2] at hF2
  rw [f3] at hF3
  obtain ⟨W0, hW, hT, hR, hB⟩ := box3 w 25 25 25 #[.bool sg1, .slice B1 l1.length D1] #[.bool sg2, .slice B2 l2.length D2] #[.bool sg3, .slice B3 l3.length D3]
  obtain ⟨g, hg⟩ : ∃ g, g = w.heap.size := ⟨_, rfl⟩
  have hW' := Lib.hid (And.intro hW hg)
  rw [← hg] at hT hR
  have hgw : w.heap.size ≤ g := by omega
  clear hW hg
  obtain ⟨hX, hY⟩ := hT
  have hZ := hR
  replace h1 := h1.below hB
  replace h2 := h2.below hB
  replace h3 := h3.below hB
  obtain ⟨c1_hX_0, c1_hX_1⟩ := hX.cells2
  obtain ⟨c1_hY_0, c1_hY_1⟩ := hY.cells2
  obtain ⟨c1_hZ_0, c1_hZ_1⟩ := hZ.cells2
  go_enter Tryd.func3, Tryd.ntmps3
  go_wp2_with fail
  rw [← hW'.out.1, ← hW'.out.2]
  refine (hF1 _ h1).mono ?_
  rintro e w1 ⟨rfl, b1⟩
  replace h1 := h1.below b1
  replace h2 := h2.below b1
  replace h3 := h3.below b1
  replace hX := hX.below b1 hX.lt
  replace hY := hY.below b1 hY.lt
  replace hZ := hZ.below b1 hZ.lt
  replace hB := hB.trans (b1.mono hB.size)
  clear c1_hX_0 c1_hX_1 c1_hY_0 c1_hY_1 c1_hZ_0 c1_hZ_1
  obtain ⟨c2_hX_0, c2_hX_1⟩ := hX.cells2
  obtain ⟨c2_hY_0, c2_hY_1⟩ := hY.cells2
  obtain ⟨c2_hZ_0, c2_hZ_1⟩ := hZ.cells2
  go_wp2_with fail
  refine (hF2 _ h2).mono ?_
  rintro e w2 ⟨rfl, b2⟩
  replace h1 := h1.below b2
  replace h2 := h2.below b2
  replace h3 := h3.below b2
  replace hX := hX.below b2 hX.lt
  replace hY := hY.below b2 hY.lt
  replace hZ := hZ.below b2 hZ.lt
  replace hB := hB.trans (b2.mono hB.size)
  clear c2_hX_0 c2_hX_1 c2_hY_0 c2_hY_1 c2_hZ_0 c2_hZ_1
  obtain ⟨c3_hX_0, c3_hX_1⟩ := hX.cells2
  obtain ⟨c3_hY_0, c3_hY_1⟩ := hY.cells2
  obtain ⟨c3_hZ_0, c3_hZ_1⟩ := hZ.cells2
  go_wp2_with fail
  refine (hF3 _ h3).mono ?_
  rintro e w3 ⟨rfl, b3⟩
  replace h1 := h1.below b3
  replace h2 := h2.below b3
  replace h3 := h3.below b3
  replace hX := hX.below b3 hX.lt
  replace hY := hY.below b3 hY.lt
  replace hZ := hZ.below b3 hZ.lt
  replace hB := hB.trans (b3.mono hB.size)
  clear c3_hX_0 c3_hX_1 c3_hY_0 c3_hY_1 c3_hZ_0 c3_hZ_1
  obtain ⟨c4_hX_0, c4_hX_1⟩ := hX.cells2
  obtain ⟨c4_hY_0, c4_hY_1⟩ := hY.cells2
  obtain ⟨c4_hZ_0, c4_hZ_1⟩ := hZ.cells2
  go_wp2_with fail
  refine (hE _ (ht.below hB)).mono ?_
  rintro e w4 ⟨rfl, b4⟩
  replace h1 := h1.below b4
  replace h2 := h2.below b4
  replace h3 := h3.below b4
  replace hX := hX.below b4 hX.lt
  replace hY := hY.below b4 hY.lt
  replace hZ := hZ.below b4 hZ.lt
  replace hB := hB.trans (b4.mono hB.size)
  clear c4_hX_0 c4_hX_1 c4_hY_0 c4_hY_1 c4_hZ_0 c4_hZ_1
  obtain ⟨c5_hX_0, c5_hX_1⟩ := hX.cells2
  obtain ⟨c5_hY_0, c5_hY_1⟩ := hY.cells2
  obtain ⟨c5_hZ_0, c5_hZ_1⟩ := hZ.cells2
  go_wp2_with fail
  go_ret
  exact ⟨rfl, hB⟩
set_option maxRecDepth 100000 in
set_option maxHeartbeats 8000000 in
theorem ZedRing_main (sg1 sg2 sg3 : Bool) (B1 B2 B3 : Option Addr) (D1 D2 D3 : Nat) (l1 l2 l3 : List Nat) (w : World) (h1 : IsL w (.slice B1 l1.length D1) l1) (h2 : IsL w (.slice B2 l2.length D2) l2) (h3 : IsL w (.slice B3 l3.length D3) l3) (ht : TabOk w) (f1 : (decide (l1.length ≤ 6) && rightZ sg1 l1) = true) (f2 : (decide (l2.length ≤ 6) && rightZ sg2 l2) = true) (f3 : (decide (l3.length ≤ 6) && rightZ sg3 l3) = true) :
    Calls Tryd.prog 3 #[.agg #[.bool sg1, .slice B1 l1.length D1], .agg #[.bool sg2, .slice B2 l2.length D2], .agg #[.bool sg3, .slice B3 l3.length D3]] w fun e w' => e = .returned (.bool true) ∧ Below w.heap.size w w' := by
  have hE := fun w ht => alive04_any w ht
  have hF1 := fun w h => rzfew_any sg1 (.slice B1 l1.length D1) l1 6 w h
  have hF2 := fun w h => rzfew_any sg2 (.slice B2 l2.length D2) l2 6 w h
  have hF3 := fun w h => rzfew_any sg3 (.slice B3 l3.length D3) l3 6 w h
  rw [f1] at hF1
  rw [f2] at hF2
  rw [f3] at hF3
  rw [Bool.and_eq_true, decide_eq_true_eq] at f1
  obtain ⟨z1, s1⟩ := isZ_right h1 f1.2
  obtain ⟨x, hx1⟩ : ∃ q, q = sided sg1 (num l1) := ⟨_, rfl⟩
  rw [← hx1] at z1 s1
  have t1 : Sz x.natAbs 6 := by unfold Sz; omega
  clear hx1 s1
  rw [Bool.and_eq_true, decide_eq_true_eq] at f2
  obtain ⟨z2, s2⟩ := isZ_right h2 f2.2
  obtain ⟨y, hx2⟩ : ∃ q, q = sided sg2 (num l2) := ⟨_, rfl⟩
  rw [← hx2] at z2 s2
  have t2 : Sz y.natAbs 6 := by unfold Sz; omega
  clear hx2 s2
  rw [Bool.and_eq_true, decide_eq_true_eq] at f3
  obtain ⟨z3, s3⟩ := isZ_right h3 f3.2
  obtain ⟨z, hx3⟩ : ∃ q, q = sided sg3 (num l3) := ⟨_, rfl⟩
  rw [← hx3] at z3 s3
  have t3 : Sz z.natAbs 6 := by unfold Sz; omega
  clear hx3 s3
  have hAdd := fun a b va vb w h h' sa sb => pzadd_any va vb a b w h h' sa sb
  have hMul := fun a b va vb w h h' sa sb => pzmul_any va vb a b w h h' sa sb
  have hNeg := fun a v w h => pzneg_any v a w h
  have hSame := fun a b va vb w h h' (e : a = b) => (rzsame_any va vb a b w h h').mono (R' := fun e' w' => e' = .returned (.bool true) ∧ Below w.heap.size w w') (fun _ _ hh => ⟨by rw [hh.1, same_of e], hh.2⟩)
  obtain ⟨pa, hpa⟩ : ∃ p, decide (x + y < 0) = p := ⟨_, rfl⟩
  obtain ⟨pm, hpm⟩ : ∃ p, decide (x * y < 0) = p := ⟨_, rfl⟩
  have hAB := fun va vb w h h' => as_form hpa (pzadd_any va vb x y w h h' (szi_le t1 (by decide)) (szi_le t2 (by decide)))
  have hBA := fun va vb w h h' => as_form hpm (pzmul_any va vb x y w h h' (szi_le t1 (by decide)) (szi_le t2 (by decide)))
  clear hpa hpm
  obtain ⟨W0, hW, hT, hR, hB⟩ := box3 w 25 25 25 #[.bool sg1, .slice B1 l1.length D1] #[.bool sg2, .slice B2 l2.length D2] #[.bool sg3, .slice B3 l3.length D3]
  obtain ⟨g, hg⟩ : ∃ g, g = w.heap.size := ⟨_, rfl⟩
  have hW' := Lib.hid (And.intro hW hg)
  rw [← hg] at hT hR
  have hgw : w.heap.size ≤ g := by omega
  clear hW hg
  obtain ⟨hX, hY⟩ := hT
  have hZ := hR
  replace h1 := h1.below hB
  replace h2 := h2.below hB
  replace h3 := h3.below hB
  obtain ⟨c1_hX_0, c1_hX_1⟩ := hX.cells2
  obtain ⟨c1_hY_0, c1_hY_1⟩ := hY.cells2
  obtain ⟨c1_hZ_0, c1_hZ_1⟩ := hZ.cells2
  go_enter Tryd.func3, Tryd.ntmps3
  go_wp2_with fail
  rw [← hW'.out.1, ← hW'.out.2]
  refine (hF1 _ h1).mono ?_
  rintro e w1 ⟨rfl, b1⟩
  replace h1 := h1.below b1
  replace h2 := h2.below b1
  replace h3 := h3.below b1
  replace hX := hX.below b1 hX.lt
  replace hY := hY.below b1 hY.lt
  replace hZ := hZ.below b1 hZ.lt
  replace hB := hB.trans (b1.mono hB.size)
  clear c1_hX_0 c1_hX_1 c1_hY_0 c1_hY_1 c1_hZ_0 c1_hZ_1
  obtain ⟨c2_hX_0, c2_hX_1⟩ := hX.cells2
  obtain ⟨c2_hY_0, c2_hY_1⟩ := hY.cells2
  obtain ⟨c2_hZ_0, c2_hZ_1⟩ := hZ.cells2
  go_wp2_with fail
  refine (hF2 _ h2).mono ?_
  rintro e w2 ⟨rfl, b2⟩
  replace h1 := h1.below b2
  replace h2 := h2.below b2
  replace h3 := h3.below b2
  replace hX := hX.below b2 hX.lt
  replace hY := hY.below b2 hY.lt
  replace hZ := hZ.below b2 hZ.lt
  replace hB := hB.trans (b2.mono hB.size)
  clear c2_hX_0 c2_hX_1 c2_hY_0 c2_hY_1 c2_hZ_0 c2_hZ_1
  obtain ⟨c3_hX_0, c3_hX_1⟩ := hX.cells2
  obtain ⟨c3_hY_0, c3_hY_1⟩ := hY.cells2
  obtain ⟨c3_hZ_0, c3_hZ_1⟩ := hZ.cells2
  go_wp2_with fail
  refine (hF3 _ h3).mono ?_
  rintro e w3 ⟨rfl, b3⟩
  replace h1 := h1.below b3
  replace h2 := h2.below b3
  replace h3 := h3.below b3
  replace hX := hX.below b3 hX.lt
  replace hY := hY.below b3 hY.lt
  replace hZ := hZ.below b3 hZ.lt
  replace hB := hB.trans (b3.mono hB.size)
  clear c3_hX_0 c3_hX_1 c3_hY_0 c3_hY_1 c3_hZ_0 c3_hZ_1
  obtain ⟨c4_hX_0, c4_hX_1⟩ := hX.cells2
  obtain ⟨c4_hY_0, c4_hY_1⟩ := hY.cells2
  obtain ⟨c4_hZ_0, c4_hZ_1⟩ := hZ.cells2
  go_upto_region 3 with fail
  clear c4_hX_0 c4_hX_1 c4_hY_0 c4_hY_1 c4_hZ_0 c4_hZ_1
  replace hB := hB.drew
  replace hX := hX.drew
  replace hY := hY.drew
  replace hZ := hZ.drew
  clear h1 h2 h3 f1 f2 f3 hF1 hF2 hF3
  refine wp_region_join (fun n1 n2 A1 L1 C1 A2 L2 C2 => ⟨#[.agg #[.bool sg1, .slice B1 l1.length D1], .agg #[.bool sg2, .slice B2 l2.length D2], .agg #[.bool sg3, .slice B3 l3.length D3], .pointer (some ⟨g, 0, none⟩), .pointer (some ⟨g + 1, 0, none⟩), .pointer (some ⟨g + 1 + 1, 0, none⟩), .bool false, .pointer (some ⟨n1, 0, none⟩), .pointer (some ⟨n2, 0, none⟩), undef, undef, .agg #[.bool sg1, .slice B1 l1.length D1], .bool true, .bool false, .bool false, .agg #[.bool sg2, .slice B2 l2.length D2], .bool true, .bool false, .bool false, .bool false, .agg #[.bool sg3, .slice B3 l3.length D3], .bool true, .bool false, .bool false, undef, .agg #[.bool sg1, .slice B1 l1.length D1], .agg #[.bool sg2, .slice B2 l2.length D2], .agg #[.bool pa, .slice A1 L1 C1], .agg #[.bool sg1, .slice B1 l1.length D1], .agg #[.bool sg2, .slice B2 l2.length D2], .agg #[.bool pm, .slice A2 L2 C2], undef, undef, undef, undef, undef, undef, undef, undef, undef, undef, undef, undef, undef, undef, undef, undef, undef, undef, undef, undef, undef, undef, undef, undef, undef, undef, undef, undef, undef, undef, undef, undef, undef, undef, undef, undef, undef, undef, undef, undef, undef, undef, undef, undef, undef, undef, undef, undef, undef, undef, undef, undef, undef, undef, undef, undef, undef, undef, undef, undef, undef, undef, undef, undef, undef, undef, undef, undef, undef, undef, undef, undef, undef, undef, undef, undef, undef, undef, undef], []⟩) (fun w' n1 n2 A1 L1 C1 A2 L2 C2 => Blk w' n1 25 #[.bool pa, .slice A1 L1 C1] ∧ Blk w' n2 25 #[.bool pm, .slice A2 L2 C2] ∧ IsZ w' (.agg #[.bool pa, .slice A1 L1 C1]) (x + y) ∧ IsZ w' (.agg #[.bool pm, .slice A2 L2 C2]) (x * y) ∧ Below w.heap.size w w' ∧ n1 ≠ n2 ∧ g + 1 + 1 < n1 ∧ g + 1 + 1 < n2 ∧ Blk w' (g) 25 #[.bool sg1, .slice B1 l1.length D1] ∧ Blk w' (g + 1) 25 #[.bool sg2, .slice B2 l2.length D2] ∧ Blk w' (g + 1 + 1) 25 #[.bool sg3, .slice B3 l3.length D3]) ?trone ?trtwo
  case trone =>
    refine wp_region_held_drew (S := fun w' => w'.cell? ⟨g, 0, none⟩ = some (.bool sg1) ∧ w'.cell? ⟨g, 1, none⟩ = some (.slice B1 l1.length D1) ∧ w'.cell? ⟨g + 1, 0, none⟩ = some (.bool sg2) ∧ w'.cell? ⟨g + 1, 1, none⟩ = some (.slice B2 l2.length D2)) (by kernel_rfl) ?_ (fun hHeld => ?_)
    · exact ⟨hX.cell 0, hX.cell 1, hY.cell 0, hY.cell 1⟩
    obtain ⟨wd, hwd⟩ : ∃ q, q = (w3.drew) := ⟨_, rfl⟩
    rw [← hwd] at hB hX hY hZ hHeld ⊢
    clear hwd
    refine wpAnyH_take (i := 0) (v := ?trv0) rfl (by kernel_rfl) (by kernel_rfl) (by kernel_rfl) (fun _ _ _ h => h) (Or.inl ⟨by kernel_rfl, ?trhy0⟩) (by assumption) ?trrest0
    case trhy0 => (intro w hSw; (try dsimp only at hSw); go_simp; try (with_reducible rfl))
    try simp only [Act.put, lay1, lay2, lay3, lay4, lay5, lay6]
    refine wpAnyH_take (i := 1) (v := ?trv1) rfl (by kernel_rfl) (by kernel_rfl) (by kernel_rfl) (fun _ _ _ h => h) (Or.inl ⟨by kernel_rfl, ?trhy1⟩) (by assumption) ?trrest1
    case trhy1 => (intro w hSw; (try dsimp only at hSw); go_simp; try (with_reducible rfl))
    try simp only [Act.put, lay1, lay2, lay3, lay4, lay5, lay6]
    refine wpAnyH_take (i := 3) (v := ?trv3) rfl (by kernel_rfl) (by kernel_rfl) (by kernel_rfl) (fun _ _ _ h => h) (Or.inl ⟨by kernel_rfl, ?trhy3⟩) (by assumption) ?trrest3
    case trhy3 => (intro w hSw; (try dsimp only at hSw); go_simp; try (with_reducible rfl))
    try simp only [Act.put, lay1, lay2, lay3, lay4, lay5, lay6]
    refine wpAnyH_take (i := 4) (v := ?trv4) rfl (by kernel_rfl) (by kernel_rfl) (by kernel_rfl) (fun _ _ _ h => h) (Or.inl ⟨by kernel_rfl, ?trhy4⟩) (by assumption) ?trrest4
    case trhy4 => (intro w hSw; (try dsimp only at hSw); go_simp; try (with_reducible rfl))
    try simp only [Act.put, lay1, lay2, lay3, lay4, lay5, lay6]
    refine wpAnyH_ready (rs := [2, 6, 7]) (by kernel_rfl) (by simp) ?_
    refine AllReadyH.cons rfl (fun K hK => ?_) (AllReadyH.cons rfl (fun K hK => ?_) (AllReadyH.cons rfl (fun K hK => ?_) AllReadyH.nil))
    · go_simp
      refine (hAB _ _ _ (z1.below hB) (z2.below hB)).mono ?_
      rintro e u1 ⟨A1, L1, C1, rfl, r1, b1⟩
      replace hB := hB.trans (b1.mono hB.size)
      replace hX := hX.below b1 hX.lt
      replace hY := hY.below b1 hY.lt
      replace hZ := hZ.below b1 hZ.lt
      go_wp2_with fail
      refine hK.out _ _ ?_ (fun hHeld => ?_)
      · exact ⟨hX.cell 0, hX.cell 1, hY.cell 0, hY.cell 1⟩
      clear hK K
      try simp only [Act.put, lay1, lay2, lay3, lay4, lay5, lay6]
      refine wpAnyH_ready (rs := [5, 6, 7]) (by kernel_rfl) (by simp) ?_
      refine AllReadyH.cons rfl (fun K hK => ?_) (AllReadyH.cons rfl (fun K hK => ?_) (AllReadyH.cons rfl (fun K hK => ?_) AllReadyH.nil))
      · go_simp
        refine (hBA _ _ _ (z1.below hB) (z2.below hB)).mono ?_
        rintro e u2 ⟨A2, L2, C2, rfl, r2, b2⟩
        replace hB := hB.trans (b2.mono hB.size)
        replace r1 := r1.below b2
        replace hX := hX.below b2 hX.lt
        replace hY := hY.below b2 hY.lt
        replace hZ := hZ.below b2 hZ.lt
        go_wp2_with fail
        refine hK.out _ _ ?_ (fun hHeld => ?_)
        · exact ⟨hX.cell 0, hX.cell 1, hY.cell 0, hY.cell 1⟩
        clear hK K
        try simp only [Act.put, lay1, lay2, lay3, lay4, lay5, lay6]
        refine wpAnyH_ready (rs := [6, 7]) (by kernel_rfl) (by simp) ?_
        refine AllReadyH.cons rfl (fun K hK => ?_) (AllReadyH.cons rfl (fun K hK => ?_) AllReadyH.nil)
        · obtain ⟨u3, eu, g1, b3⟩ := box1 u2 25 #[.bool false, .slice none 0 0]
          obtain ⟨n1, en⟩ : ∃ X, X = u2.heap.size := ⟨_, rfl⟩
          rw [← en] at g1
          have o1 : g + 1 + 1 < n1 := by rw [en]; exact hZ.lt
          have q1 : w.heap.size ≤ n1 := by rw [en]; exact hB.size
          have EU := Lib.hid (And.intro eu en)
          clear eu en
          go_simp
          rw [← EU.out.1, ← EU.out.2]
          replace hB := hB.trans (b3.mono hB.size)
          replace r1 := r1.below b3
          replace r2 := r2.below b3
          replace hX := hX.below b3 hX.lt
          replace hY := hY.below b3 hY.lt
          replace hZ := hZ.below b3 hZ.lt
          refine hK.out _ _ ?_ (fun hHeld => ?_)
          · exact ⟨hX.cell 0, hX.cell 1, hY.cell 0, hY.cell 1⟩
          clear hK K
          try simp only [Act.put, lay1, lay2, lay3, lay4, lay5, lay6]
          refine wpAnyH_ready (rs := [7]) (by kernel_rfl) (by simp) ?_
          refine AllReadyH.cons rfl (fun K hK => ?_) AllReadyH.nil
          · obtain ⟨u4, eu, g2, b4⟩ := box1 u3 25 #[.bool false, .slice none 0 0]
            obtain ⟨n2, en⟩ : ∃ X, X = u3.heap.size := ⟨_, rfl⟩
            rw [← en] at g2
            have o2 : g + 1 + 1 < n2 := by rw [en]; exact hZ.lt
            have q2 : w.heap.size ≤ n2 := by rw [en]; exact hB.size
            have dd : n1 ≠ n2 := by have := g1.lt; omega
            have EU := Lib.hid (And.intro eu en)
            clear eu en
            go_simp
            rw [← EU.out.1, ← EU.out.2]
            replace hB := hB.trans (b4.mono hB.size)
            replace r1 := r1.below b4
            replace r2 := r2.below b4
            replace hX := hX.below b4 hX.lt
            replace hY := hY.below b4 hY.lt
            replace hZ := hZ.below b4 hZ.lt
            replace g1 := g1.below b4 g1.lt
            refine hK.out _ _ ?_ (fun hHeld => ?_)
            · exact ⟨hX.cell 0, hX.cell 1, hY.cell 0, hY.cell 1⟩
            clear hK K
            try simp only [Act.put, lay1, lay2, lay3, lay4, lay5, lay6]
            obtain ⟨u5, eu, g1', kz, kb, kB⟩ := put_zed g1 (.bool pa) (.slice A1 L1 C1) (by simp [noU])
            refine wpAnyH_ready (rs := [8]) (by kernel_rfl) (by simp) ?_
            refine AllReadyH.cons rfl (fun K hK => ?_) AllReadyH.nil
            have x0 := g1.cell 0
            have x1 := g1.cell 1
            have x2 := g1.frozen
            go_simp
            rw [← eu]
            replace hX := kb _ _ _ hX (by omega)
            replace hY := kb _ _ _ hY (by omega)
            replace hZ := kb _ _ _ hZ (by omega)
            replace g2 := kb _ _ _ g2 (by omega)
            replace r1 := kz _ _ r1
            replace r2 := kz _ _ r2
            replace hB := kB _ _ q1 hB
            replace g1 := g1'
            clear g1' kz kb kB eu x0 x1 x2
            refine hK.out _ _ ?_ (fun hHeld => ?_)
            · exact ⟨hX.cell 0, hX.cell 1, hY.cell 0, hY.cell 1⟩
            clear hK K
            try simp only [Act.put, lay1, lay2, lay3, lay4, lay5, lay6]
            obtain ⟨u6, eu, g2', kz, kb, kB⟩ := put_zed g2 (.bool pm) (.slice A2 L2 C2) (by simp [noU])
            refine wpAnyH_ready (rs := [9]) (by kernel_rfl) (by simp) ?_
            refine AllReadyH.cons rfl (fun K hK => ?_) AllReadyH.nil
            have x0 := g2.cell 0
            have x1 := g2.cell 1
            have x2 := g2.frozen
            go_simp
            rw [← eu]
            replace hX := kb _ _ _ hX (by omega)
            replace hY := kb _ _ _ hY (by omega)
            replace hZ := kb _ _ _ hZ (by omega)
            replace g1 := kb _ _ _ g1 (by omega)
            replace r1 := kz _ _ r1
            replace r2 := kz _ _ r2
            replace hB := kB _ _ q2 hB
            replace g2 := g2'
            clear g2' kz kb kB eu x0 x1 x2
            refine hK.out _ _ ?_ (fun hHeld => ?_)
            · exact ⟨hX.cell 0, hX.cell 1, hY.cell 0, hY.cell 1⟩
            clear hK K
            try simp only [Act.put, lay1, lay2, lay3, lay4, lay5, lay6]
            refine wpAnyH_done (by kernel_rfl) ?_ _
            dsimp only [OnlyN]
            exact ⟨n1, n2, A1, L1, C1, A2, L2, C2, rfl, g1, g2, r1, r2, hB, dd, o1, o2, hX, hY, hZ⟩
        · obtain ⟨u7, eu, g2, b7⟩ := box1 u2 25 #[.bool false, .slice none 0 0]
          obtain ⟨n2, en⟩ : ∃ X, X = u2.heap.size := ⟨_, rfl⟩
          rw [← en] at g2
          have o2 : g + 1 + 1 < n2 := by rw [en]; exact hZ.lt
          have q2 : w.heap.size ≤ n2 := by rw [en]; exact hB.size
          have EU := Lib.hid (And.intro eu en)
          clear eu en
          go_simp
          rw [← EU.out.1, ← EU.out.2]
          replace hB := hB.trans (b7.mono hB.size)
          replace r1 := r1.below b7
          replace r2 := r2.below b7
          replace hX := hX.below b7 hX.lt
          replace hY := hY.below b7 hY.lt
          replace hZ := hZ.below b7 hZ.lt
          refine hK.out _ _ ?_ (fun hHeld => ?_)
          · exact ⟨hX.cell 0, hX.cell 1, hY.cell 0, hY.cell 1⟩
          clear hK K
          try simp only [Act.put, lay1, lay2, lay3, lay4, lay5, lay6]
          refine wpAnyH_ready (rs := [6]) (by kernel_rfl) (by simp) ?_
          refine AllReadyH.cons rfl (fun K hK => ?_) AllReadyH.nil
          · obtain ⟨u8, eu, g1, b8⟩ := box1 u7 25 #[.bool false, .slice none 0 0]
            obtain ⟨n1, en⟩ : ∃ X, X = u7.heap.size := ⟨_, rfl⟩
            rw [← en] at g1
            have o1 : g + 1 + 1 < n1 := by rw [en]; exact hZ.lt
            have q1 : w.heap.size ≤ n1 := by rw [en]; exact hB.size
            have dd : n1 ≠ n2 := by have := g2.lt; omega
            have EU := Lib.hid (And.intro eu en)
            clear eu en
            go_simp
            rw [← EU.out.1, ← EU.out.2]
            replace hB := hB.trans (b8.mono hB.size)
            replace r1 := r1.below b8
            replace r2 := r2.below b8
            replace hX := hX.below b8 hX.lt
            replace hY := hY.below b8 hY.lt
            replace hZ := hZ.below b8 hZ.lt
            replace g2 := g2.below b8 g2.lt
            refine hK.out _ _ ?_ (fun hHeld => ?_)
            · exact ⟨hX.cell 0, hX.cell 1, hY.cell 0, hY.cell 1⟩
            clear hK K
            try simp only [Act.put, lay1, lay2, lay3, lay4, lay5, lay6]
            obtain ⟨u9, eu, g1', kz, kb, kB⟩ := put_zed g1 (.bool pa) (.slice A1 L1 C1) (by simp [noU])
            refine wpAnyH_ready (rs := [8]) (by kernel_rfl) (by simp) ?_
            refine AllReadyH.cons rfl (fun K hK => ?_) AllReadyH.nil
            have x0 := g1.cell 0
            have x1 := g1.cell 1
            have x2 := g1.frozen
            go_simp
            rw [← eu]
            replace hX := kb _ _ _ hX (by omega)
            replace hY := kb _ _ _ hY (by omega)
            replace hZ := kb _ _ _ hZ (by omega)
            replace g2 := kb _ _ _ g2 (by omega)
            replace r1 := kz _ _ r1
            replace r2 := kz _ _ r2
            replace hB := kB _ _ q1 hB
            replace g1 := g1'
            clear g1' kz kb kB eu x0 x1 x2
            refine hK.out _ _ ?_ (fun hHeld => ?_)
            · exact ⟨hX.cell 0, hX.cell 1, hY.cell 0, hY.cell 1⟩
            clear hK K
            try simp only [Act.put, lay1, lay2, lay3, lay4, lay5, lay6]
            obtain ⟨u10, eu, g2', kz, kb, kB⟩ := put_zed g2 (.bool pm) (.slice A2 L2 C2) (by simp [noU])
            refine wpAnyH_ready (rs := [9]) (by kernel_rfl) (by simp) ?_
            refine AllReadyH.cons rfl (fun K hK => ?_) AllReadyH.nil
            have x0 := g2.cell 0
            have x1 := g2.cell 1
            have x2 := g2.frozen
            go_simp
            rw [← eu]
            replace hX := kb _ _ _ hX (by omega)
            replace hY := kb _ _ _ hY (by omega)
            replace hZ := kb _ _ _ hZ (by omega)
            replace g1 := kb _ _ _ g1 (by omega)
            replace r1 := kz _ _ r1
            replace r2 := kz _ _ r2
            replace hB := kB _ _ q2 hB
            replace g2 := g2'
            clear g2' kz kb kB eu x0 x1 x2
            refine hK.out _ _ ?_ (fun hHeld => ?_)
            · exact ⟨hX.cell 0, hX.cell 1, hY.cell 0, hY.cell 1⟩
            clear hK K
            try simp only [Act.put, lay1, lay2, lay3, lay4, lay5, lay6]
            refine wpAnyH_done (by kernel_rfl) ?_ _
            dsimp only [OnlyN]
            exact ⟨n1, n2, A1, L1, C1, A2, L2, C2, rfl, g1, g2, r1, r2, hB, dd, o1, o2, hX, hY, hZ⟩
      · obtain ⟨u11, eu, g1, b11⟩ := box1 u1 25 #[.bool false, .slice none 0 0]
        obtain ⟨n1, en⟩ : ∃ X, X = u1.heap.size := ⟨_, rfl⟩
        rw [← en] at g1
        have o1 : g + 1 + 1 < n1 := by rw [en]; exact hZ.lt
        have q1 : w.heap.size ≤ n1 := by rw [en]; exact hB.size
        have EU := Lib.hid (And.intro eu en)
        clear eu en
        go_simp
        rw [← EU.out.1, ← EU.out.2]
        replace hB := hB.trans (b11.mono hB.size)
        replace r1 := r1.below b11
        replace hX := hX.below b11 hX.lt
        replace hY := hY.below b11 hY.lt
        replace hZ := hZ.below b11 hZ.lt
        refine hK.out _ _ ?_ (fun hHeld => ?_)
        · exact ⟨hX.cell 0, hX.cell 1, hY.cell 0, hY.cell 1⟩
        clear hK K
        try simp only [Act.put, lay1, lay2, lay3, lay4, lay5, lay6]
        refine wpAnyH_ready (rs := [5, 7]) (by kernel_rfl) (by simp) ?_
        refine AllReadyH.cons rfl (fun K hK => ?_) (AllReadyH.cons rfl (fun K hK => ?_) AllReadyH.nil)
        · go_simp
          refine (hBA _ _ _ (z1.below hB) (z2.below hB)).mono ?_
          rintro e u12 ⟨A2, L2, C2, rfl, r2, b12⟩
          replace hB := hB.trans (b12.mono hB.size)
          replace r1 := r1.below b12
          replace hX := hX.below b12 hX.lt
          replace hY := hY.below b12 hY.lt
          replace hZ := hZ.below b12 hZ.lt
          replace g1 := g1.below b12 g1.lt
          go_wp2_with fail
          refine hK.out _ _ ?_ (fun hHeld => ?_)
          · exact ⟨hX.cell 0, hX.cell 1, hY.cell 0, hY.cell 1⟩
          clear hK K
          try simp only [Act.put, lay1, lay2, lay3, lay4, lay5, lay6]
          refine wpAnyH_ready (rs := [7]) (by kernel_rfl) (by simp) ?_
          refine AllReadyH.cons rfl (fun K hK => ?_) AllReadyH.nil
          · obtain ⟨u13, eu, g2, b13⟩ := box1 u12 25 #[.bool false, .slice none 0 0]
            obtain ⟨n2, en⟩ : ∃ X, X = u12.heap.size := ⟨_, rfl⟩
            rw [← en] at g2
            have o2 : g + 1 + 1 < n2 := by rw [en]; exact hZ.lt
            have q2 : w.heap.size ≤ n2 := by rw [en]; exact hB.size
            have dd : n1 ≠ n2 := by have := g1.lt; omega
            have EU := Lib.hid (And.intro eu en)
            clear eu en
            go_simp
            rw [← EU.out.1, ← EU.out.2]
            replace hB := hB.trans (b13.mono hB.size)
            replace r1 := r1.below b13
            replace r2 := r2.below b13
            replace hX := hX.below b13 hX.lt
            replace hY := hY.below b13 hY.lt
            replace hZ := hZ.below b13 hZ.lt
            replace g1 := g1.below b13 g1.lt
            refine hK.out _ _ ?_ (fun hHeld => ?_)
            · exact ⟨hX.cell 0, hX.cell 1, hY.cell 0, hY.cell 1⟩
            clear hK K
            try simp only [Act.put, lay1, lay2, lay3, lay4, lay5, lay6]
            obtain ⟨u14, eu, g1', kz, kb, kB⟩ := put_zed g1 (.bool pa) (.slice A1 L1 C1) (by simp [noU])
            refine wpAnyH_ready (rs := [8]) (by kernel_rfl) (by simp) ?_
            refine AllReadyH.cons rfl (fun K hK => ?_) AllReadyH.nil
            have x0 := g1.cell 0
            have x1 := g1.cell 1
            have x2 := g1.frozen
            go_simp
            rw [← eu]
            replace hX := kb _ _ _ hX (by omega)
            replace hY := kb _ _ _ hY (by omega)
            replace hZ := kb _ _ _ hZ (by omega)
            replace g2 := kb _ _ _ g2 (by omega)
            replace r1 := kz _ _ r1
            replace r2 := kz _ _ r2
            replace hB := kB _ _ q1 hB
            replace g1 := g1'
            clear g1' kz kb kB eu x0 x1 x2
            refine hK.out _ _ ?_ (fun hHeld => ?_)
            · exact ⟨hX.cell 0, hX.cell 1, hY.cell 0, hY.cell 1⟩
            clear hK K
            try simp only [Act.put, lay1, lay2, lay3, lay4, lay5, lay6]
            obtain ⟨u15, eu, g2', kz, kb, kB⟩ := put_zed g2 (.bool pm) (.slice A2 L2 C2) (by simp [noU])
            refine wpAnyH_ready (rs := [9]) (by kernel_rfl) (by simp) ?_
            refine AllReadyH.cons rfl (fun K hK => ?_) AllReadyH.nil
            have x0 := g2.cell 0
            have x1 := g2.cell 1
            have x2 := g2.frozen
            go_simp
            rw [← eu]
            replace hX := kb _ _ _ hX (by omega)
            replace hY := kb _ _ _ hY (by omega)
            replace hZ := kb _ _ _ hZ (by omega)
            replace g1 := kb _ _ _ g1 (by omega)
            replace r1 := kz _ _ r1
            replace r2 := kz _ _ r2
            replace hB := kB _ _ q2 hB
            replace g2 := g2'
            clear g2' kz kb kB eu x0 x1 x2
            refine hK.out _ _ ?_ (fun hHeld => ?_)
            · exact ⟨hX.cell 0, hX.cell 1, hY.cell 0, hY.cell 1⟩
            clear hK K
            try simp only [Act.put, lay1, lay2, lay3, lay4, lay5, lay6]
            refine wpAnyH_done (by kernel_rfl) ?_ _
            dsimp only [OnlyN]
            exact ⟨n1, n2, A1, L1, C1, A2, L2, C2, rfl, g1, g2, r1, r2, hB, dd, o1, o2, hX, hY, hZ⟩
        · obtain ⟨u16, eu, g2, b16⟩ := box1 u11 25 #[.bool false, .slice none 0 0]
          obtain ⟨n2, en⟩ : ∃ X, X = u11.heap.size := ⟨_, rfl⟩
          rw [← en] at g2
          have o2 : g + 1 + 1 < n2 := by rw [en]; exact hZ.lt
          have q2 : w.heap.size ≤ n2 := by rw [en]; exact hB.size
          have dd : n1 ≠ n2 := by have := g1.lt; omega
          have EU := Lib.hid (And.intro eu en)
          clear eu en
          go_simp
          rw [← EU.out.1, ← EU.out.2]
          replace hB := hB.trans (b16.mono hB.size)
          replace r1 := r1.below b16
          replace hX := hX.below b16 hX.lt
          replace hY := hY.below b16 hY.lt
          replace hZ := hZ.below b16 hZ.lt
          replace g1 := g1.below b16 g1.lt
          refine hK.out _ _ ?_ (fun hHeld => ?_)
          · exact ⟨hX.cell 0, hX.cell 1, hY.cell 0, hY.cell 1⟩
          clear hK K
          try simp only [Act.put, lay1, lay2, lay3, lay4, lay5, lay6]
          refine wpAnyH_ready (rs := [5]) (by kernel_rfl) (by simp) ?_
          refine AllReadyH.cons rfl (fun K hK => ?_) AllReadyH.nil
          · go_simp
            refine (hBA _ _ _ (z1.below hB) (z2.below hB)).mono ?_
            rintro e u17 ⟨A2, L2, C2, rfl, r2, b17⟩
            replace hB := hB.trans (b17.mono hB.size)
            replace r1 := r1.below b17
            replace hX := hX.below b17 hX.lt
            replace hY := hY.below b17 hY.lt
            replace hZ := hZ.below b17 hZ.lt
            replace g1 := g1.below b17 g1.lt
            replace g2 := g2.below b17 g2.lt
            go_wp2_with fail
            refine hK.out _ _ ?_ (fun hHeld => ?_)
            · exact ⟨hX.cell 0, hX.cell 1, hY.cell 0, hY.cell 1⟩
            clear hK K
            try simp only [Act.put, lay1, lay2, lay3, lay4, lay5, lay6]
            obtain ⟨u18, eu, g1', kz, kb, kB⟩ := put_zed g1 (.bool pa) (.slice A1 L1 C1) (by simp [noU])
            refine wpAnyH_ready (rs := [8]) (by kernel_rfl) (by simp) ?_
            refine AllReadyH.cons rfl (fun K hK => ?_) AllReadyH.nil
            have x0 := g1.cell 0
            have x1 := g1.cell 1
            have x2 := g1.frozen
            go_simp
            rw [← eu]
            replace hX := kb _ _ _ hX (by omega)
            replace hY := kb _ _ _ hY (by omega)
            replace hZ := kb _ _ _ hZ (by omega)
            replace g2 := kb _ _ _ g2 (by omega)
            replace r1 := kz _ _ r1
            replace r2 := kz _ _ r2
            replace hB := kB _ _ q1 hB
            replace g1 := g1'
            clear g1' kz kb kB eu x0 x1 x2
            refine hK.out _ _ ?_ (fun hHeld => ?_)
            · exact ⟨hX.cell 0, hX.cell 1, hY.cell 0, hY.cell 1⟩
            clear hK K
            try simp only [Act.put, lay1, lay2, lay3, lay4, lay5, lay6]
            obtain ⟨u19, eu, g2', kz, kb, kB⟩ := put_zed g2 (.bool pm) (.slice A2 L2 C2) (by simp [noU])
            refine wpAnyH_ready (rs := [9]) (by kernel_rfl) (by simp) ?_
            refine AllReadyH.cons rfl (fun K hK => ?_) AllReadyH.nil
            have x0 := g2.cell 0
            have x1 := g2.cell 1
            have x2 := g2.frozen
            go_simp
            rw [← eu]
            replace hX := kb _ _ _ hX (by omega)
            replace hY := kb _ _ _ hY (by omega)
            replace hZ := kb _ _ _ hZ (by omega)
            replace g1 := kb _ _ _ g1 (by omega)
            replace r1 := kz _ _ r1
            replace r2 := kz _ _ r2
            replace hB := kB _ _ q2 hB
            replace g2 := g2'
            clear g2' kz kb kB eu x0 x1 x2
            refine hK.out _ _ ?_ (fun hHeld => ?_)
            · exact ⟨hX.cell 0, hX.cell 1, hY.cell 0, hY.cell 1⟩
            clear hK K
            try simp only [Act.put, lay1, lay2, lay3, lay4, lay5, lay6]
            refine wpAnyH_done (by kernel_rfl) ?_ _
            dsimp only [OnlyN]
            exact ⟨n1, n2, A1, L1, C1, A2, L2, C2, rfl, g1, g2, r1, r2, hB, dd, o1, o2, hX, hY, hZ⟩
      · obtain ⟨u20, eu, g2, b20⟩ := box1 u1 25 #[.bool false, .slice none 0 0]
        obtain ⟨n2, en⟩ : ∃ X, X = u1.heap.size := ⟨_, rfl⟩
        rw [← en] at g2
        have o2 : g + 1 + 1 < n2 := by rw [en]; exact hZ.lt
        have q2 : w.heap.size ≤ n2 := by rw [en]; exact hB.size
        have EU := Lib.hid (And.intro eu en)
        clear eu en
        go_simp
        rw [← EU.out.1, ← EU.out.2]
        replace hB := hB.trans (b20.mono hB.size)
        replace r1 := r1.below b20
        replace hX := hX.below b20 hX.lt
        replace hY := hY.below b20 hY.lt
        replace hZ := hZ.below b20 hZ.lt
        refine hK.out _ _ ?_ (fun hHeld => ?_)
        · exact ⟨hX.cell 0, hX.cell 1, hY.cell 0, hY.cell 1⟩
        clear hK K
        try simp only [Act.put, lay1, lay2, lay3, lay4, lay5, lay6]
        refine wpAnyH_ready (rs := [5, 6]) (by kernel_rfl) (by simp) ?_
        refine AllReadyH.cons rfl (fun K hK => ?_) (AllReadyH.cons rfl (fun K hK => ?_) AllReadyH.nil)
        · go_simp
          refine (hBA _ _ _ (z1.below hB) (z2.below hB)).mono ?_
          rintro e u21 ⟨A2, L2, C2, rfl, r2, b21⟩
          replace hB := hB.trans (b21.mono hB.size)
          replace r1 := r1.below b21
          replace hX := hX.below b21 hX.lt
          replace hY := hY.below b21 hY.lt
          replace hZ := hZ.below b21 hZ.lt
          replace g2 := g2.below b21 g2.lt
          go_wp2_with fail
          refine hK.out _ _ ?_ (fun hHeld => ?_)
          · exact ⟨hX.cell 0, hX.cell 1, hY.cell 0, hY.cell 1⟩
          clear hK K
          try simp only [Act.put, lay1, lay2, lay3, lay4, lay5, lay6]
          refine wpAnyH_ready (rs := [6]) (by kernel_rfl) (by simp) ?_
          refine AllReadyH.cons rfl (fun K hK => ?_) AllReadyH.nil
          · obtain ⟨u22, eu, g1, b22⟩ := box1 u21 25 #[.bool false, .slice none 0 0]
            obtain ⟨n1, en⟩ : ∃ X, X = u21.heap.size := ⟨_, rfl⟩
            rw [← en] at g1
            have o1 : g + 1 + 1 < n1 := by rw [en]; exact hZ.lt
            have q1 : w.heap.size ≤ n1 := by rw [en]; exact hB.size
            have dd : n1 ≠ n2 := by have := g2.lt; omega
            have EU := Lib.hid (And.intro eu en)
            clear eu en
            go_simp
            rw [← EU.out.1, ← EU.out.2]
            replace hB := hB.trans (b22.mono hB.size)
            replace r1 := r1.below b22
            replace r2 := r2.below b22
            replace hX := hX.below b22 hX.lt
            replace hY := hY.below b22 hY.lt
            replace hZ := hZ.below b22 hZ.lt
            replace g2 := g2.below b22 g2.lt
            refine hK.out _ _ ?_ (fun hHeld => ?_)
            · exact ⟨hX.cell 0, hX.cell 1, hY.cell 0, hY.cell 1⟩
            clear hK K
            try simp only [Act.put, lay1, lay2, lay3, lay4, lay5, lay6]
            obtain ⟨u23, eu, g1', kz, kb, kB⟩ := put_zed g1 (.bool pa) (.slice A1 L1 C1) (by simp [noU])
            refine wpAnyH_ready (rs := [8]) (by kernel_rfl) (by simp) ?_
            refine AllReadyH.cons rfl (fun K hK => ?_) AllReadyH.nil
            have x0 := g1.cell 0
            have x1 := g1.cell 1
            have x2 := g1.frozen
            go_simp
            rw [← eu]
            replace hX := kb _ _ _ hX (by omega)
            replace hY := kb _ _ _ hY (by omega)
            replace hZ := kb _ _ _ hZ (by omega)
            replace g2 := kb _ _ _ g2 (by omega)
            replace r1 := kz _ _ r1
            replace r2 := kz _ _ r2
            replace hB := kB _ _ q1 hB
            replace g1 := g1'
            clear g1' kz kb kB eu x0 x1 x2
            refine hK.out _ _ ?_ (fun hHeld => ?_)
            · exact ⟨hX.cell 0, hX.cell 1, hY.cell 0, hY.cell 1⟩
            clear hK K
            try simp only [Act.put, lay1, lay2, lay3, lay4, lay5, lay6]
            obtain ⟨u24, eu, g2', kz, kb, kB⟩ := put_zed g2 (.bool pm) (.slice A2 L2 C2) (by simp [noU])
            refine wpAnyH_ready (rs := [9]) (by kernel_rfl) (by simp) ?_
            refine AllReadyH.cons rfl (fun K hK => ?_) AllReadyH.nil
            have x0 := g2.cell 0
            have x1 := g2.cell 1
            have x2 := g2.frozen
            go_simp
            rw [← eu]
            replace hX := kb _ _ _ hX (by omega)
            replace hY := kb _ _ _ hY (by omega)
            replace hZ := kb _ _ _ hZ (by omega)
            replace g1 := kb _ _ _ g1 (by omega)
            replace r1 := kz _ _ r1
            replace r2 := kz _ _ r2
            replace hB := kB _ _ q2 hB
            replace g2 := g2'
            clear g2' kz kb kB eu x0 x1 x2
            refine hK.out _ _ ?_ (fun hHeld => ?_)
            · exact ⟨hX.cell 0, hX.cell 1, hY.cell 0, hY.cell 1⟩
            clear hK K
            try simp only [Act.put, lay1, lay2, lay3, lay4, lay5, lay6]
            refine wpAnyH_done (by kernel_rfl) ?_ _
            dsimp only [OnlyN]
            exact ⟨n1, n2, A1, L1, C1, A2, L2, C2, rfl, g1, g2, r1, r2, hB, dd, o1, o2, hX, hY, hZ⟩
        · obtain ⟨u25, eu, g1, b25⟩ := box1 u20 25 #[.bool false, .slice none 0 0]
          obtain ⟨n1, en⟩ : ∃ X, X = u20.heap.size := ⟨_, rfl⟩
          rw [← en] at g1
          have o1 : g + 1 + 1 < n1 := by rw [en]; exact hZ.lt
          have q1 : w.heap.size ≤ n1 := by rw [en]; exact hB.size
          have dd : n1 ≠ n2 := by have := g2.lt; omega
          have EU := Lib.hid (And.intro eu en)
          clear eu en
          go_simp
          rw [← EU.out.1, ← EU.out.2]
          replace hB := hB.trans (b25.mono hB.size)
          replace r1 := r1.below b25
          replace hX := hX.below b25 hX.lt
          replace hY := hY.below b25 hY.lt
          replace hZ := hZ.below b25 hZ.lt
          replace g2 := g2.below b25 g2.lt
          refine hK.out _ _ ?_ (fun hHeld => ?_)
          · exact ⟨hX.cell 0, hX.cell 1, hY.cell 0, hY.cell 1⟩
          clear hK K
          try simp only [Act.put, lay1, lay2, lay3, lay4, lay5, lay6]
          refine wpAnyH_ready (rs := [5]) (by kernel_rfl) (by simp) ?_
          refine AllReadyH.cons rfl (fun K hK => ?_) AllReadyH.nil
          · go_simp
            refine (hBA _ _ _ (z1.below hB) (z2.below hB)).mono ?_
            rintro e u26 ⟨A2, L2, C2, rfl, r2, b26⟩
            replace hB := hB.trans (b26.mono hB.size)
            replace r1 := r1.below b26
            replace hX := hX.below b26 hX.lt
            replace hY := hY.below b26 hY.lt
            replace hZ := hZ.below b26 hZ.lt
            replace g1 := g1.below b26 g1.lt
            replace g2 := g2.below b26 g2.lt
            go_wp2_with fail
            refine hK.out _ _ ?_ (fun hHeld => ?_)
            · exact ⟨hX.cell 0, hX.cell 1, hY.cell 0, hY.cell 1⟩
            clear hK K
            try simp only [Act.put, lay1, lay2, lay3, lay4, lay5, lay6]
            obtain ⟨u27, eu, g1', kz, kb, kB⟩ := put_zed g1 (.bool pa) (.slice A1 L1 C1) (by simp [noU])
            refine wpAnyH_ready (rs := [8]) (by kernel_rfl) (by simp) ?_
            refine AllReadyH.cons rfl (fun K hK => ?_) AllReadyH.nil
            have x0 := g1.cell 0
            have x1 := g1.cell 1
            have x2 := g1.frozen
            go_simp
            rw [← eu]
            replace hX := kb _ _ _ hX (by omega)
            replace hY := kb _ _ _ hY (by omega)
            replace hZ := kb _ _ _ hZ (by omega)
            replace g2 := kb _ _ _ g2 (by omega)
            replace r1 := kz _ _ r1
            replace r2 := kz _ _ r2
            replace hB := kB _ _ q1 hB
            replace g1 := g1'
            clear g1' kz kb kB eu x0 x1 x2
            refine hK.out _ _ ?_ (fun hHeld => ?_)
            · exact ⟨hX.cell 0, hX.cell 1, hY.cell 0, hY.cell 1⟩
            clear hK K
            try simp only [Act.put, lay1, lay2, lay3, lay4, lay5, lay6]
            obtain ⟨u28, eu, g2', kz, kb, kB⟩ := put_zed g2 (.bool pm) (.slice A2 L2 C2) (by simp [noU])
            refine wpAnyH_ready (rs := [9]) (by kernel_rfl) (by simp) ?_
            refine AllReadyH.cons rfl (fun K hK => ?_) AllReadyH.nil
            have x0 := g2.cell 0
            have x1 := g2.cell 1
            have x2 := g2.frozen
            go_simp
            rw [← eu]
            replace hX := kb _ _ _ hX (by omega)
            replace hY := kb _ _ _ hY (by omega)
            replace hZ := kb _ _ _ hZ (by omega)
            replace g1 := kb _ _ _ g1 (by omega)
            replace r1 := kz _ _ r1
            replace r2 := kz _ _ r2
            replace hB := kB _ _ q2 hB
            replace g2 := g2'
            clear g2' kz kb kB eu x0 x1 x2
            refine hK.out _ _ ?_ (fun hHeld => ?_)
            · exact ⟨hX.cell 0, hX.cell 1, hY.cell 0, hY.cell 1⟩
            clear hK K
            try simp only [Act.put, lay1, lay2, lay3, lay4, lay5, lay6]
            refine wpAnyH_done (by kernel_rfl) ?_ _
            dsimp only [OnlyN]
            exact ⟨n1, n2, A1, L1, C1, A2, L2, C2, rfl, g1, g2, r1, r2, hB, dd, o1, o2, hX, hY, hZ⟩
    · obtain ⟨u29, eu, g1, b29⟩ := box1 wd 25 #[.bool false, .slice none 0 0]
      obtain ⟨n1, en⟩ : ∃ X, X = wd.heap.size := ⟨_, rfl⟩
      rw [← en] at g1
      have o1 : g + 1 + 1 < n1 := by rw [en]; exact hZ.lt
      have q1 : w.heap.size ≤ n1 := by rw [en]; exact hB.size
      have EU := Lib.hid (And.intro eu en)
      clear eu en
      go_simp
      rw [← EU.out.1, ← EU.out.2]
      replace hB := hB.trans (b29.mono hB.size)
      replace hX := hX.below b29 hX.lt
      replace hY := hY.below b29 hY.lt
      replace hZ := hZ.below b29 hZ.lt
      refine hK.out _ _ ?_ (fun hHeld => ?_)
      · exact ⟨hX.cell 0, hX.cell 1, hY.cell 0, hY.cell 1⟩
      clear hK K
      try simp only [Act.put, lay1, lay2, lay3, lay4, lay5, lay6]
      refine wpAnyH_ready (rs := [2, 7]) (by kernel_rfl) (by simp) ?_
      refine AllReadyH.cons rfl (fun K hK => ?_) (AllReadyH.cons rfl (fun K hK => ?_) AllReadyH.nil)
      · go_simp
        refine (hAB _ _ _ (z1.below hB) (z2.below hB)).mono ?_
        rintro e u30 ⟨A1, L1, C1, rfl, r1, b30⟩
        replace hB := hB.trans (b30.mono hB.size)
        replace hX := hX.below b30 hX.lt
        replace hY := hY.below b30 hY.lt
        replace hZ := hZ.below b30 hZ.lt
        replace g1 := g1.below b30 g1.lt
        go_wp2_with fail
        refine hK.out _ _ ?_ (fun hHeld => ?_)
        · exact ⟨hX.cell 0, hX.cell 1, hY.cell 0, hY.cell 1⟩
        clear hK K
        try simp only [Act.put, lay1, lay2, lay3, lay4, lay5, lay6]
        refine wpAnyH_ready (rs := [5, 7]) (by kernel_rfl) (by simp) ?_
        refine AllReadyH.cons rfl (fun K hK => ?_) (AllReadyH.cons rfl (fun K hK => ?_) AllReadyH.nil)
        · go_simp
          refine (hBA _ _ _ (z1.below hB) (z2.below hB)).mono ?_
          rintro e u31 ⟨A2, L2, C2, rfl, r2, b31⟩
          replace hB := hB.trans (b31.mono hB.size)
          replace r1 := r1.below b31
          replace hX := hX.below b31 hX.lt
          replace hY := hY.below b31 hY.lt
          replace hZ := hZ.below b31 hZ.lt
          replace g1 := g1.below b31 g1.lt
          go_wp2_with fail
          refine hK.out _ _ ?_ (fun hHeld => ?_)
          · exact ⟨hX.cell 0, hX.cell 1, hY.cell 0, hY.cell 1⟩
          clear hK K
          try simp only [Act.put, lay1, lay2, lay3, lay4, lay5, lay6]
          refine wpAnyH_ready (rs := [7]) (by kernel_rfl) (by simp) ?_
          refine AllReadyH.cons rfl (fun K hK => ?_) AllReadyH.nil
          · obtain ⟨u32, eu, g2, b32⟩ := box1 u31 25 #[.bool false, .slice none 0 0]
            obtain ⟨n2, en⟩ : ∃ X, X = u31.heap.size := ⟨_, rfl⟩
            rw [← en] at g2
            have o2 : g + 1 + 1 < n2 := by rw [en]; exact hZ.lt
            have q2 : w.heap.size ≤ n2 := by rw [en]; exact hB.size
            have dd : n1 ≠ n2 := by have := g1.lt; omega
            have EU := Lib.hid (And.intro eu en)
            clear eu en
            go_simp
            rw [← EU.out.1, ← EU.out.2]
            replace hB := hB.trans (b32.mono hB.size)
            replace r1 := r1.below b32
            replace r2 := r2.below b32
            replace hX := hX.below b32 hX.lt
            replace hY := hY.below b32 hY.lt
            replace hZ := hZ.below b32 hZ.lt
            replace g1 := g1.below b32 g1.lt
            refine hK.out _ _ ?_ (fun hHeld => ?_)
            · exact ⟨hX.cell 0, hX.cell 1, hY.cell 0, hY.cell 1⟩
            clear hK K
            try simp only [Act.put, lay1, lay2, lay3, lay4, lay5, lay6]
            obtain ⟨u33, eu, g1', kz, kb, kB⟩ := put_zed g1 (.bool pa) (.slice A1 L1 C1) (by simp [noU])
            refine wpAnyH_ready (rs := [8]) (by kernel_rfl) (by simp) ?_
            refine AllReadyH.cons rfl (fun K hK => ?_) AllReadyH.nil
            have x0 := g1.cell 0
            have x1 := g1.cell 1
            have x2 := g1.frozen
            go_simp
            rw [← eu]
            replace hX := kb _ _ _ hX (by omega)
            replace hY := kb _ _ _ hY (by omega)
            replace hZ := kb _ _ _ hZ (by omega)
            replace g2 := kb _ _ _ g2 (by omega)
            replace r1 := kz _ _ r1
            replace r2 := kz _ _ r2
            replace hB := kB _ _ q1 hB
            replace g1 := g1'
            clear g1' kz kb kB eu x0 x1 x2
            refine hK.out _ _ ?_ (fun hHeld => ?_)
            · exact ⟨hX.cell 0, hX.cell 1, hY.cell 0, hY.cell 1⟩
            clear hK K
            try simp only [Act.put, lay1, lay2, lay3, lay4, lay5, lay6]
            obtain ⟨u34, eu, g2', kz, kb, kB⟩ := put_zed g2 (.bool pm) (.slice A2 L2 C2) (by simp [noU])
            refine wpAnyH_ready (rs := [9]) (by kernel_rfl) (by simp) ?_
            refine AllReadyH.cons rfl (fun K hK => ?_) AllReadyH.nil
            have x0 := g2.cell 0
            have x1 := g2.cell 1
            have x2 := g2.frozen
            go_simp
            rw [← eu]
            replace hX := kb _ _ _ hX (by omega)
            replace hY := kb _ _ _ hY (by omega)
            replace hZ := kb _ _ _ hZ (by omega)
            replace g1 := kb _ _ _ g1 (by omega)
            replace r1 := kz _ _ r1
            replace r2 := kz _ _ r2
            replace hB := kB _ _ q2 hB
            replace g2 := g2'
            clear g2' kz kb kB eu x0 x1 x2
            refine hK.out _ _ ?_ (fun hHeld => ?_)
            · exact ⟨hX.cell 0, hX.cell 1, hY.cell 0, hY.cell 1⟩
            clear hK K
            try simp only [Act.put, lay1, lay2, lay3, lay4, lay5, lay6]
            refine wpAnyH_done (by kernel_rfl) ?_ _
            dsimp only [OnlyN]
            exact ⟨n1, n2, A1, L1, C1, A2, L2, C2, rfl, g1, g2, r1, r2, hB, dd, o1, o2, hX, hY, hZ⟩
        · obtain ⟨u35, eu, g2, b35⟩ := box1 u30 25 #[.bool false, .slice none 0 0]
          obtain ⟨n2, en⟩ : ∃ X, X = u30.heap.size := ⟨_, rfl⟩
          rw [← en] at g2
          have o2 : g + 1 + 1 < n2 := by rw [en]; exact hZ.lt
          have q2 : w.heap.size ≤ n2 := by rw [en]; exact hB.size
          have dd : n1 ≠ n2 := by have := g1.lt; omega
          have EU := Lib.hid (And.intro eu en)
          clear eu en
          go_simp
          rw [← EU.out.1, ← EU.out.2]
          replace hB := hB.trans (b35.mono hB.size)
          replace r1 := r1.below b35
          replace hX := hX.below b35 hX.lt
          replace hY := hY.below b35 hY.lt
          replace hZ := hZ.below b35 hZ.lt
          replace g1 := g1.below b35 g1.lt
          refine hK.out _ _ ?_ (fun hHeld => ?_)
          · exact ⟨hX.cell 0, hX.cell 1, hY.cell 0, hY.cell 1⟩
          clear hK K
          try simp only [Act.put, lay1, lay2, lay3, lay4, lay5, lay6]
          refine wpAnyH_ready (rs := [5]) (by kernel_rfl) (by simp) ?_
          refine AllReadyH.cons rfl (fun K hK => ?_) AllReadyH.nil
          · go_simp
            refine (hBA _ _ _ (z1.below hB) (z2.below hB)).mono ?_
            rintro e u36 ⟨A2, L2, C2, rfl, r2, b36⟩
            replace hB := hB.trans (b36.mono hB.size)
            replace r1 := r1.below b36
            replace hX := hX.below b36 hX.lt
            replace hY := hY.below b36 hY.lt
            replace hZ := hZ.below b36 hZ.lt
            replace g1 := g1.below b36 g1.lt
            replace g2 := g2.below b36 g2.lt
            go_wp2_with fail
            refine hK.out _ _ ?_ (fun hHeld => ?_)
            · exact ⟨hX.cell 0, hX.cell 1, hY.cell 0, hY.cell 1⟩
            clear hK K
            try simp only [Act.put, lay1, lay2, lay3, lay4, lay5, lay6]
            obtain ⟨u37, eu, g1', kz, kb, kB⟩ := put_zed g1 (.bool pa) (.slice A1 L1 C1) (by simp [noU])
            refine wpAnyH_ready (rs := [8]) (by kernel_rfl) (by simp) ?_
            refine AllReadyH.cons rfl (fun K hK => ?_) AllReadyH.nil
            have x0 := g1.cell 0
            have x1 := g1.cell 1
            have x2 := g1.frozen
            go_simp
            rw [← eu]
            replace hX := kb _ _ _ hX (by omega)
            replace hY := kb _ _ _ hY (by omega)
            replace hZ := kb _ _ _ hZ (by omega)
            replace g2 := kb _ _ _ g2 (by omega)
            replace r1 := kz _ _ r1
            replace r2 := kz _ _ r2
            replace hB := kB _ _ q1 hB
            replace g1 := g1'
            clear g1' kz kb kB eu x0 x1 x2
            refine hK.out _ _ ?_ (fun hHeld => ?_)
            · exact ⟨hX.cell 0, hX.cell 1, hY.cell 0, hY.cell 1⟩
            clear hK K
            try simp only [Act.put, lay1, lay2, lay3, lay4, lay5, lay6]
            obtain ⟨u38, eu, g2', kz, kb, kB⟩ := put_zed g2 (.bool pm) (.slice A2 L2 C2) (by simp [noU])
            refine wpAnyH_ready (rs := [9]) (by kernel_rfl) (by simp) ?_
            refine AllReadyH.cons rfl (fun K hK => ?_) AllReadyH.nil
            have x0 := g2.cell 0
            have x1 := g2.cell 1
            have x2 := g2.frozen
            go_simp
            rw [← eu]
            replace hX := kb _ _ _ hX (by omega)
            replace hY := kb _ _ _ hY (by omega)
            replace hZ := kb _ _ _ hZ (by omega)
            replace g1 := kb _ _ _ g1 (by omega)
            replace r1 := kz _ _ r1
            replace r2 := kz _ _ r2
            replace hB := kB _ _ q2 hB
            replace g2 := g2'
            clear g2' kz kb kB eu x0 x1 x2
            refine hK.out _ _ ?_ (fun hHeld => ?_)
            · exact ⟨hX.cell 0, hX.cell 1, hY.cell 0, hY.cell 1⟩
            clear hK K
            try simp only [Act.put, lay1, lay2, lay3, lay4, lay5, lay6]
            refine wpAnyH_done (by kernel_rfl) ?_ _
            dsimp only [OnlyN]
            exact ⟨n1, n2, A1, L1, C1, A2, L2, C2, rfl, g1, g2, r1, r2, hB, dd, o1, o2, hX, hY, hZ⟩
      · obtain ⟨u39, eu, g2, b39⟩ := box1 u29 25 #[.bool false, .slice none 0 0]
        obtain ⟨n2, en⟩ : ∃ X, X = u29.heap.size := ⟨_, rfl⟩
        rw [← en] at g2
        have o2 : g + 1 + 1 < n2 := by rw [en]; exact hZ.lt
        have q2 : w.heap.size ≤ n2 := by rw [en]; exact hB.size
        have dd : n1 ≠ n2 := by have := g1.lt; omega
        have EU := Lib.hid (And.intro eu en)
        clear eu en
        go_simp
        rw [← EU.out.1, ← EU.out.2]
        replace hB := hB.trans (b39.mono hB.size)
        replace hX := hX.below b39 hX.lt
        replace hY := hY.below b39 hY.lt
        replace hZ := hZ.below b39 hZ.lt
        replace g1 := g1.below b39 g1.lt
        refine hK.out _ _ ?_ (fun hHeld => ?_)
        · exact ⟨hX.cell 0, hX.cell 1, hY.cell 0, hY.cell 1⟩
        clear hK K
        try simp only [Act.put, lay1, lay2, lay3, lay4, lay5, lay6]
        refine wpAnyH_ready (rs := [2]) (by kernel_rfl) (by simp) ?_
        refine AllReadyH.cons rfl (fun K hK => ?_) AllReadyH.nil
        · go_simp
          refine (hAB _ _ _ (z1.below hB) (z2.below hB)).mono ?_
          rintro e u40 ⟨A1, L1, C1, rfl, r1, b40⟩
          replace hB := hB.trans (b40.mono hB.size)
          replace hX := hX.below b40 hX.lt
          replace hY := hY.below b40 hY.lt
          replace hZ := hZ.below b40 hZ.lt
          replace g1 := g1.below b40 g1.lt
          replace g2 := g2.below b40 g2.lt
          go_wp2_with fail
          refine hK.out _ _ ?_ (fun hHeld => ?_)
          · exact ⟨hX.cell 0, hX.cell 1, hY.cell 0, hY.cell 1⟩
          clear hK K
          try simp only [Act.put, lay1, lay2, lay3, lay4, lay5, lay6]
          refine wpAnyH_ready (rs := [5]) (by kernel_rfl) (by simp) ?_
          refine AllReadyH.cons rfl (fun K hK => ?_) AllReadyH.nil
          · go_simp
            refine (hBA _ _ _ (z1.below hB) (z2.below hB)).mono ?_
            rintro e u41 ⟨A2, L2, C2, rfl, r2, b41⟩
            replace hB := hB.trans (b41.mono hB.size)
            replace r1 := r1.below b41
            replace hX := hX.below b41 hX.lt
            replace hY := hY.below b41 hY.lt
            replace hZ := hZ.below b41 hZ.lt
            replace g1 := g1.below b41 g1.lt
            replace g2 := g2.below b41 g2.lt
            go_wp2_with fail
            refine hK.out _ _ ?_ (fun hHeld => ?_)
            · exact ⟨hX.cell 0, hX.cell 1, hY.cell 0, hY.cell 1⟩
            clear hK K
            try simp only [Act.put, lay1, lay2, lay3, lay4, lay5, lay6]
            obtain ⟨u42, eu, g1', kz, kb, kB⟩ := put_zed g1 (.bool pa) (.slice A1 L1 C1) (by simp [noU])
            refine wpAnyH_ready (rs := [8]) (by kernel_rfl) (by simp) ?_
            refine AllReadyH.cons rfl (fun K hK => ?_) AllReadyH.nil
            have x0 := g1.cell 0
            have x1 := g1.cell 1
            have x2 := g1.frozen
            go_simp
            rw [← eu]
            replace hX := kb _ _ _ hX (by omega)
            replace hY := kb _ _ _ hY (by omega)
            replace hZ := kb _ _ _ hZ (by omega)
            replace g2 := kb _ _ _ g2 (by omega)
            replace r1 := kz _ _ r1
            replace r2 := kz _ _ r2
            replace hB := kB _ _ q1 hB
            replace g1 := g1'
            clear g1' kz kb kB eu x0 x1 x2
            refine hK.out _ _ ?_ (fun hHeld => ?_)
            · exact ⟨hX.cell 0, hX.cell 1, hY.cell 0, hY.cell 1⟩
            clear hK K
            try simp only [Act.put, lay1, lay2, lay3, lay4, lay5, lay6]
            obtain ⟨u43, eu, g2', kz, kb, kB⟩ := put_zed g2 (.bool pm) (.slice A2 L2 C2) (by simp [noU])
            refine wpAnyH_ready (rs := [9]) (by kernel_rfl) (by simp) ?_
            refine AllReadyH.cons rfl (fun K hK => ?_) AllReadyH.nil
            have x0 := g2.cell 0
            have x1 := g2.cell 1
            have x2 := g2.frozen
            go_simp
            rw [← eu]
            replace hX := kb _ _ _ hX (by omega)
            replace hY := kb _ _ _ hY (by omega)
            replace hZ := kb _ _ _ hZ (by omega)
            replace g1 := kb _ _ _ g1 (by omega)
            replace r1 := kz _ _ r1
            replace r2 := kz _ _ r2
            replace hB := kB _ _ q2 hB
            replace g2 := g2'
            clear g2' kz kb kB eu x0 x1 x2
            refine hK.out _ _ ?_ (fun hHeld => ?_)
            · exact ⟨hX.cell 0, hX.cell 1, hY.cell 0, hY.cell 1⟩
            clear hK K
            try simp only [Act.put, lay1, lay2, lay3, lay4, lay5, lay6]
            refine wpAnyH_done (by kernel_rfl) ?_ _
            dsimp only [OnlyN]
            exact ⟨n1, n2, A1, L1, C1, A2, L2, C2, rfl, g1, g2, r1, r2, hB, dd, o1, o2, hX, hY, hZ⟩
    · obtain ⟨u44, eu, g2, b44⟩ := box1 wd 25 #[.bool false, .slice none 0 0]
      obtain ⟨n2, en⟩ : ∃ X, X = wd.heap.size := ⟨_, rfl⟩
      rw [← en] at g2
      have o2 : g + 1 + 1 < n2 := by rw [en]; exact hZ.lt
      have q2 : w.heap.size ≤ n2 := by rw [en]; exact hB.size
      have EU := Lib.hid (And.intro eu en)
      clear eu en
      go_simp
      rw [← EU.out.1, ← EU.out.2]
      replace hB := hB.trans (b44.mono hB.size)
      replace hX := hX.below b44 hX.lt
      replace hY := hY.below b44 hY.lt
      replace hZ := hZ.below b44 hZ.lt
      refine hK.out _ _ ?_ (fun hHeld => ?_)
      · exact ⟨hX.cell 0, hX.cell 1, hY.cell 0, hY.cell 1⟩
      clear hK K
      try simp only [Act.put, lay1, lay2, lay3, lay4, lay5, lay6]
      refine wpAnyH_ready (rs := [2, 6]) (by kernel_rfl) (by simp) ?_
      refine AllReadyH.cons rfl (fun K hK => ?_) (AllReadyH.cons rfl (fun K hK => ?_) AllReadyH.nil)
      · go_simp
        refine (hAB _ _ _ (z1.below hB) (z2.below hB)).mono ?_
        rintro e u45 ⟨A1, L1, C1, rfl, r1, b45⟩
        replace hB := hB.trans (b45.mono hB.size)
        replace hX := hX.below b45 hX.lt
        replace hY := hY.below b45 hY.lt
        replace hZ := hZ.below b45 hZ.lt
        replace g2 := g2.below b45 g2.lt
        go_wp2_with fail
        refine hK.out _ _ ?_ (fun hHeld => ?_)
        · exact ⟨hX.cell 0, hX.cell 1, hY.cell 0, hY.cell 1⟩
        clear hK K
        try simp only [Act.put, lay1, lay2, lay3, lay4, lay5, lay6]
        refine wpAnyH_ready (rs := [5, 6]) (by kernel_rfl) (by simp) ?_
        refine AllReadyH.cons rfl (fun K hK => ?_) (AllReadyH.cons rfl (fun K hK => ?_) AllReadyH.nil)
        · go_simp
          refine (hBA _ _ _ (z1.below hB) (z2.below hB)).mono ?_
          rintro e u46 ⟨A2, L2, C2, rfl, r2, b46⟩
          replace hB := hB.trans (b46.mono hB.size)
          replace r1 := r1.below b46
          replace hX := hX.below b46 hX.lt
          replace hY := hY.below b46 hY.lt
          replace hZ := hZ.below b46 hZ.lt
          replace g2 := g2.below b46 g2.lt
          go_wp2_with fail
          refine hK.out _ _ ?_ (fun hHeld => ?_)
          · exact ⟨hX.cell 0, hX.cell 1, hY.cell 0, hY.cell 1⟩
          clear hK K
          try simp only [Act.put, lay1, lay2, lay3, lay4, lay5, lay6]
          refine wpAnyH_ready (rs := [6]) (by kernel_rfl) (by simp) ?_
          refine AllReadyH.cons rfl (fun K hK => ?_) AllReadyH.nil
          · obtain ⟨u47, eu, g1, b47⟩ := box1 u46 25 #[.bool false, .slice none 0 0]
            obtain ⟨n1, en⟩ : ∃ X, X = u46.heap.size := ⟨_, rfl⟩
            rw [← en] at g1
            have o1 : g + 1 + 1 < n1 := by rw [en]; exact hZ.lt
            have q1 : w.heap.size ≤ n1 := by rw [en]; exact hB.size
            have dd : n1 ≠ n2 := by have := g2.lt; omega
            have EU := Lib.hid (And.intro eu en)
            clear eu en
            go_simp
            rw [← EU.out.1, ← EU.out.2]
            replace hB := hB.trans (b47.mono hB.size)
            replace r1 := r1.below b47
            replace r2 := r2.below b47
            replace hX := hX.below b47 hX.lt
            replace hY := hY.below b47 hY.lt
            replace hZ := hZ.below b47 hZ.lt
            replace g2 := g2.below b47 g2.lt
            refine hK.out _ _ ?_ (fun hHeld => ?_)
            · exact ⟨hX.cell 0, hX.cell 1, hY.cell 0, hY.cell 1⟩
            clear hK K
            try simp only [Act.put, lay1, lay2, lay3, lay4, lay5, lay6]
            obtain ⟨u48, eu, g1', kz, kb, kB⟩ := put_zed g1 (.bool pa) (.slice A1 L1 C1) (by simp [noU])
            refine wpAnyH_ready (rs := [8]) (by kernel_rfl) (by simp) ?_
            refine AllReadyH.cons rfl (fun K hK => ?_) AllReadyH.nil
            have x0 := g1.cell 0
            have x1 := g1.cell 1
            have x2 := g1.frozen
            go_simp
            rw [← eu]
            replace hX := kb _ _ _ hX (by omega)
            replace hY := kb _ _ _ hY (by omega)
            replace hZ := kb _ _ _ hZ (by omega)
            replace g2 := kb _ _ _ g2 (by omega)
            replace r1 := kz _ _ r1
            replace r2 := kz _ _ r2
            replace hB := kB _ _ q1 hB
            replace g1 := g1'
            clear g1' kz kb kB eu x0 x1 x2
            refine hK.out _ _ ?_ (fun hHeld => ?_)
            · exact ⟨hX.cell 0, hX.cell 1, hY.cell 0, hY.cell 1⟩
            clear hK K
            try simp only [Act.put, lay1, lay2, lay3, lay4, lay5, lay6]
            obtain ⟨u49, eu, g2', kz, kb, kB⟩ := put_zed g2 (.bool pm) (.slice A2 L2 C2) (by simp [noU])
            refine wpAnyH_ready (rs := [9]) (by kernel_rfl) (by simp) ?_
            refine AllReadyH.cons rfl (fun K hK => ?_) AllReadyH.nil
            have x0 := g2.cell 0
            have x1 := g2.cell 1
            have x2 := g2.frozen
            go_simp
            rw [← eu]
            replace hX := kb _ _ _ hX (by omega)
            replace hY := kb _ _ _ hY (by omega)
            replace hZ := kb _ _ _ hZ (by omega)
            replace g1 := kb _ _ _ g1 (by omega)
            replace r1 := kz _ _ r1
            replace r2 := kz _ _ r2
            replace hB := kB _ _ q2 hB
            replace g2 := g2'
            clear g2' kz kb kB eu x0 x1 x2
            refine hK.out _ _ ?_ (fun hHeld => ?_)
            · exact ⟨hX.cell 0, hX.cell 1, hY.cell 0, hY.cell 1⟩
            clear hK K
            try simp only [Act.put, lay1, lay2, lay3, lay4, lay5, lay6]
            refine wpAnyH_done (by kernel_rfl) ?_ _
            dsimp only [OnlyN]
            exact ⟨n1, n2, A1, L1, C1, A2, L2, C2, rfl, g1, g2, r1, r2, hB, dd, o1, o2, hX, hY, hZ⟩
        · obtain ⟨u50, eu, g1, b50⟩ := box1 u45 25 #[.bool false, .slice none 0 0]
          obtain ⟨n1, en⟩ : ∃ X, X = u45.heap.size := ⟨_, rfl⟩
          rw [← en] at g1
          have o1 : g + 1 + 1 < n1 := by rw [en]; exact hZ.lt
          have q1 : w.heap.size ≤ n1 := by rw [en]; exact hB.size
          have dd : n1 ≠ n2 := by have := g2.lt; omega
          have EU := Lib.hid (And.intro eu en)
          clear eu en
          go_simp
          rw [← EU.out.1, ← EU.out.2]
          replace hB := hB.trans (b50.mono hB.size)
          replace r1 := r1.below b50
          replace hX := hX.below b50 hX.lt
          replace hY := hY.below b50 hY.lt
          replace hZ := hZ.below b50 hZ.lt
          replace g2 := g2.below b50 g2.lt
          refine hK.out _ _ ?_ (fun hHeld => ?_)
          · exact ⟨hX.cell 0, hX.cell 1, hY.cell 0, hY.cell 1⟩
          clear hK K
          try simp only [Act.put, lay1, lay2, lay3, lay4, lay5, lay6]
          refine wpAnyH_ready (rs := [5]) (by kernel_rfl) (by simp) ?_
          refine AllReadyH.cons rfl (fun K hK => ?_) AllReadyH.nil
          · go_simp
            refine (hBA _ _ _ (z1.below hB) (z2.below hB)).mono ?_
            rintro e u51 ⟨A2, L2, C2, rfl, r2, b51⟩
            replace hB := hB.trans (b51.mono hB.size)
            replace r1 := r1.below b51
            replace hX := hX.below b51 hX.lt
            replace hY := hY.below b51 hY.lt
            replace hZ := hZ.below b51 hZ.lt
            replace g1 := g1.below b51 g1.lt
            replace g2 := g2.below b51 g2.lt
            go_wp2_with fail
            refine hK.out _ _ ?_ (fun hHeld => ?_)
            · exact ⟨hX.cell 0, hX.cell 1, hY.cell 0, hY.cell 1⟩
            clear hK K
            try simp only [Act.put, lay1, lay2, lay3, lay4, lay5, lay6]
            obtain ⟨u52, eu, g1', kz, kb, kB⟩ := put_zed g1 (.bool pa) (.slice A1 L1 C1) (by simp [noU])
            refine wpAnyH_ready (rs := [8]) (by kernel_rfl) (by simp) ?_
            refine AllReadyH.cons rfl (fun K hK => ?_) AllReadyH.nil
            have x0 := g1.cell 0
            have x1 := g1.cell 1
            have x2 := g1.frozen
            go_simp
            rw [← eu]
            replace hX := kb _ _ _ hX (by omega)
            replace hY := kb _ _ _ hY (by omega)
            replace hZ := kb _ _ _ hZ (by omega)
            replace g2 := kb _ _ _ g2 (by omega)
            replace r1 := kz _ _ r1
            replace r2 := kz _ _ r2
            replace hB := kB _ _ q1 hB
            replace g1 := g1'
            clear g1' kz kb kB eu x0 x1 x2
            refine hK.out _ _ ?_ (fun hHeld => ?_)
            · exact ⟨hX.cell 0, hX.cell 1, hY.cell 0, hY.cell 1⟩
            clear hK K
            try simp only [Act.put, lay1, lay2, lay3, lay4, lay5, lay6]
            obtain ⟨u53, eu, g2', kz, kb, kB⟩ := put_zed g2 (.bool pm) (.slice A2 L2 C2) (by simp [noU])
            refine wpAnyH_ready (rs := [9]) (by kernel_rfl) (by simp) ?_
            refine AllReadyH.cons rfl (fun K hK => ?_) AllReadyH.nil
            have x0 := g2.cell 0
            have x1 := g2.cell 1
            have x2 := g2.frozen
            go_simp
            rw [← eu]
            replace hX := kb _ _ _ hX (by omega)
            replace hY := kb _ _ _ hY (by omega)
            replace hZ := kb _ _ _ hZ (by omega)
            replace g1 := kb _ _ _ g1 (by omega)
            replace r1 := kz _ _ r1
            replace r2 := kz _ _ r2
            replace hB := kB _ _ q2 hB
            replace g2 := g2'
            clear g2' kz kb kB eu x0 x1 x2
            refine hK.out _ _ ?_ (fun hHeld => ?_)
            · exact ⟨hX.cell 0, hX.cell 1, hY.cell 0, hY.cell 1⟩
            clear hK K
            try simp only [Act.put, lay1, lay2, lay3, lay4, lay5, lay6]
            refine wpAnyH_done (by kernel_rfl) ?_ _
            dsimp only [OnlyN]
            exact ⟨n1, n2, A1, L1, C1, A2, L2, C2, rfl, g1, g2, r1, r2, hB, dd, o1, o2, hX, hY, hZ⟩
      · obtain ⟨u54, eu, g1, b54⟩ := box1 u44 25 #[.bool false, .slice none 0 0]
        obtain ⟨n1, en⟩ : ∃ X, X = u44.heap.size := ⟨_, rfl⟩
        rw [← en] at g1
        have o1 : g + 1 + 1 < n1 := by rw [en]; exact hZ.lt
        have q1 : w.heap.size ≤ n1 := by rw [en]; exact hB.size
        have dd : n1 ≠ n2 := by have := g2.lt; omega
        have EU := Lib.hid (And.intro eu en)
        clear eu en
        go_simp
        rw [← EU.out.1, ← EU.out.2]
        replace hB := hB.trans (b54.mono hB.size)
        replace hX := hX.below b54 hX.lt
        replace hY := hY.below b54 hY.lt
        replace hZ := hZ.below b54 hZ.lt
        replace g2 := g2.below b54 g2.lt
        refine hK.out _ _ ?_ (fun hHeld => ?_)
        · exact ⟨hX.cell 0, hX.cell 1, hY.cell 0, hY.cell 1⟩
        clear hK K
        try simp only [Act.put, lay1, lay2, lay3, lay4, lay5, lay6]
        refine wpAnyH_ready (rs := [2]) (by kernel_rfl) (by simp) ?_
        refine AllReadyH.cons rfl (fun K hK => ?_) AllReadyH.nil
        · go_simp
          refine (hAB _ _ _ (z1.below hB) (z2.below hB)).mono ?_
          rintro e u55 ⟨A1, L1, C1, rfl, r1, b55⟩
          replace hB := hB.trans (b55.mono hB.size)
          replace hX := hX.below b55 hX.lt
          replace hY := hY.below b55 hY.lt
          replace hZ := hZ.below b55 hZ.lt
          replace g1 := g1.below b55 g1.lt
          replace g2 := g2.below b55 g2.lt
          go_wp2_with fail
          refine hK.out _ _ ?_ (fun hHeld => ?_)
          · exact ⟨hX.cell 0, hX.cell 1, hY.cell 0, hY.cell 1⟩
          clear hK K
          try simp only [Act.put, lay1, lay2, lay3, lay4, lay5, lay6]
          refine wpAnyH_ready (rs := [5]) (by kernel_rfl) (by simp) ?_
          refine AllReadyH.cons rfl (fun K hK => ?_) AllReadyH.nil
          · go_simp
            refine (hBA _ _ _ (z1.below hB) (z2.below hB)).mono ?_
            rintro e u56 ⟨A2, L2, C2, rfl, r2, b56⟩
            replace hB := hB.trans (b56.mono hB.size)
            replace r1 := r1.below b56
            replace hX := hX.below b56 hX.lt
            replace hY := hY.below b56 hY.lt
            replace hZ := hZ.below b56 hZ.lt
            replace g1 := g1.below b56 g1.lt
            replace g2 := g2.below b56 g2.lt
            go_wp2_with fail
            refine hK.out _ _ ?_ (fun hHeld => ?_)
            · exact ⟨hX.cell 0, hX.cell 1, hY.cell 0, hY.cell 1⟩
            clear hK K
            try simp only [Act.put, lay1, lay2, lay3, lay4, lay5, lay6]
            obtain ⟨u57, eu, g1', kz, kb, kB⟩ := put_zed g1 (.bool pa) (.slice A1 L1 C1) (by simp [noU])
            refine wpAnyH_ready (rs := [8]) (by kernel_rfl) (by simp) ?_
            refine AllReadyH.cons rfl (fun K hK => ?_) AllReadyH.nil
            have x0 := g1.cell 0
            have x1 := g1.cell 1
            have x2 := g1.frozen
            go_simp
            rw [← eu]
            replace hX := kb _ _ _ hX (by omega)
            replace hY := kb _ _ _ hY (by omega)
            replace hZ := kb _ _ _ hZ (by omega)
            replace g2 := kb _ _ _ g2 (by omega)
            replace r1 := kz _ _ r1
            replace r2 := kz _ _ r2
            replace hB := kB _ _ q1 hB
            replace g1 := g1'
            clear g1' kz kb kB eu x0 x1 x2
            refine hK.out _ _ ?_ (fun hHeld => ?_)
            · exact ⟨hX.cell 0, hX.cell 1, hY.cell 0, hY.cell 1⟩
            clear hK K
            try simp only [Act.put, lay1, lay2, lay3, lay4, lay5, lay6]
            obtain ⟨u58, eu, g2', kz, kb, kB⟩ := put_zed g2 (.bool pm) (.slice A2 L2 C2) (by simp [noU])
            refine wpAnyH_ready (rs := [9]) (by kernel_rfl) (by simp) ?_
            refine AllReadyH.cons rfl (fun K hK => ?_) AllReadyH.nil
            have x0 := g2.cell 0
            have x1 := g2.cell 1
            have x2 := g2.frozen
            go_simp
            rw [← eu]
            replace hX := kb _ _ _ hX (by omega)
            replace hY := kb _ _ _ hY (by omega)
            replace hZ := kb _ _ _ hZ (by omega)
            replace g1 := kb _ _ _ g1 (by omega)
            replace r1 := kz _ _ r1
            replace r2 := kz _ _ r2
            replace hB := kB _ _ q2 hB
            replace g2 := g2'
            clear g2' kz kb kB eu x0 x1 x2
            refine hK.out _ _ ?_ (fun hHeld => ?_)
            · exact ⟨hX.cell 0, hX.cell 1, hY.cell 0, hY.cell 1⟩
            clear hK K
            try simp only [Act.put, lay1, lay2, lay3, lay4, lay5, lay6]
            refine wpAnyH_done (by kernel_rfl) ?_ _
            dsimp only [OnlyN]
            exact ⟨n1, n2, A1, L1, C1, A2, L2, C2, rfl, g1, g2, r1, r2, hB, dd, o1, o2, hX, hY, hZ⟩
  case trtwo =>
    rintro wj n1 n2 A1 L1 C1 A2 L2 C2 ⟨g1, g2, r1, r2, hB, dd, o1, o2, hX, hY, hZ⟩
    go_upto_region 4 with fail
    replace hB := hB.drew
    replace r1 := r1.below (bdrew _)
    replace r2 := r2.below (bdrew _)
    replace hX := hX.drew
    replace hY := hY.drew
    replace hZ := hZ.drew
    replace g1 := g1.drew
    replace g2 := g2.drew
    refine wp_region_noPanic ?_
    refine wp_region_held_drew (S := fun w' => w'.cell? ⟨g, 0, none⟩ = some (.bool sg1) ∧ w'.cell? ⟨g, 1, none⟩ = some (.slice B1 l1.length D1) ∧ w'.cell? ⟨g + 1, 0, none⟩ = some (.bool sg2) ∧ w'.cell? ⟨g + 1, 1, none⟩ = some (.slice B2 l2.length D2) ∧ w'.cell? ⟨g + 1 + 1, 0, none⟩ = some (.bool sg3) ∧ w'.cell? ⟨g + 1 + 1, 1, none⟩ = some (.slice B3 l3.length D3) ∧ w'.cell? ⟨n1, 0, none⟩ = some (.bool pa) ∧ w'.cell? ⟨n1, 1, none⟩ = some (.slice A1 L1 C1) ∧ w'.cell? ⟨n2, 0, none⟩ = some (.bool pm) ∧ w'.cell? ⟨n2, 1, none⟩ = some (.slice A2 L2 C2)) (by kernel_rfl) ?_ (fun hHeld => ?_)
    · exact ⟨hX.cell 0, hX.cell 1, hY.cell 0, hY.cell 1, hZ.cell 0, hZ.cell 1, g1.cell 0, g1.cell 1, g2.cell 0, g2.cell 1⟩
    refine wpAnyH_take (i := 0) (v := ?rav0) rfl (by kernel_rfl) (by kernel_rfl) (by kernel_rfl) (fun _ _ _ h => h) (Or.inl ⟨by kernel_rfl, ?rahy0⟩) (by assumption) ?rarest0
    case rahy0 => (intro w hSw; (try dsimp only at hSw); go_simp; try (with_reducible rfl))
    try simp only [Act.put, lay1, lay2, lay3, lay4, lay5, lay6]
    refine wpAnyH_ready (rs := [1]) (by kernel_rfl) (by simp) ?_
    refine AllReadyH.cons rfl (fun K hK => ?_) AllReadyH.nil
    go_simp
    refine (rzright_good _ _ _ r1).mono ?_
    rintro e w101 ⟨rfl, b101⟩
    replace hB := hB.trans (b101.mono hB.size)
    replace r1 := r1.below b101
    replace r2 := r2.below b101
    replace hX := hX.below b101 hX.lt
    replace hY := hY.below b101 hY.lt
    replace hZ := hZ.below b101 hZ.lt
    replace g1 := g1.below b101 g1.lt
    replace g2 := g2.below b101 g2.lt
    go_wp2_with fail
    refine hK.out _ _ ?_ (fun hHeld => ?_)
    · exact ⟨hX.cell 0, hX.cell 1, hY.cell 0, hY.cell 1, hZ.cell 0, hZ.cell 1, g1.cell 0, g1.cell 1, g2.cell 0, g2.cell 1⟩
    clear hK K
    try simp only [Act.put, lay1, lay2, lay3, lay4, lay5, lay6]
    refine wpAnyH_take (i := 2) (v := ?rav2) rfl (by kernel_rfl) (by kernel_rfl) (by kernel_rfl) (fun _ _ _ h => h) (Or.inl ⟨by kernel_rfl, ?rahy2⟩) (by assumption) ?rarest2
    case rahy2 => (intro w hSw; (try dsimp only at hSw); go_simp; try (with_reducible rfl))
    try simp only [Act.put, lay1, lay2, lay3, lay4, lay5, lay6]
    refine wpAnyH_take (i := 3) (v := ?rav3) rfl (by kernel_rfl) (by kernel_rfl) (by kernel_rfl) (fun _ _ _ h => h) (Or.inl ⟨by kernel_rfl, ?rahy3⟩) (by assumption) ?rarest3
    case rahy3 => (intro w hSw; (try dsimp only at hSw); go_simp; try (with_reducible rfl))
    try simp only [Act.put, lay1, lay2, lay3, lay4, lay5, lay6]
    refine wpAnyH_take (i := 4) (v := ?rav4) rfl (by kernel_rfl) (by kernel_rfl) (by kernel_rfl) (fun _ _ _ h => h) (Or.inl ⟨by kernel_rfl, ?rahy4⟩) (by assumption) ?rarest4
    case rahy4 => (intro w hSw; (try dsimp only at hSw); go_simp; try (with_reducible rfl))
    try simp only [Act.put, lay1, lay2, lay3, lay4, lay5, lay6]
    refine wpAnyH_ready (rs := [5]) (by kernel_rfl) (by simp) ?_
    refine AllReadyH.cons rfl (fun K hK => ?_) AllReadyH.nil
    go_simp
    refine (rzright_good _ _ _ r2).mono ?_
    rintro e w102 ⟨rfl, b102⟩
    replace hB := hB.trans (b102.mono hB.size)
    replace r1 := r1.below b102
    replace r2 := r2.below b102
    replace hX := hX.below b102 hX.lt
    replace hY := hY.below b102 hY.lt
    replace hZ := hZ.below b102 hZ.lt
    replace g1 := g1.below b102 g1.lt
    replace g2 := g2.below b102 g2.lt
    go_wp2_with fail
    refine hK.out _ _ ?_ (fun hHeld => ?_)
    · exact ⟨hX.cell 0, hX.cell 1, hY.cell 0, hY.cell 1, hZ.cell 0, hZ.cell 1, g1.cell 0, g1.cell 1, g2.cell 0, g2.cell 1⟩
    clear hK K
    try simp only [Act.put, lay1, lay2, lay3, lay4, lay5, lay6]
    refine wpAnyH_take (i := 6) (v := ?rav6) rfl (by kernel_rfl) (by kernel_rfl) (by kernel_rfl) (fun _ _ _ h => h) (Or.inl ⟨by kernel_rfl, ?rahy6⟩) (by assumption) ?rarest6
    case rahy6 => (intro w hSw; (try dsimp only at hSw); go_simp; try (with_reducible rfl))
    try simp only [Act.put, lay1, lay2, lay3, lay4, lay5, lay6]
    refine wpAnyH_take (i := 7) (v := ?rav7) rfl (by kernel_rfl) (by kernel_rfl) (by kernel_rfl) (fun _ _ _ h => h) (Or.inl ⟨by kernel_rfl, ?rahy7⟩) (by assumption) ?rarest7
    case rahy7 => (intro w hSw; (try dsimp only at hSw); go_simp; try (with_reducible rfl))
    try simp only [Act.put, lay1, lay2, lay3, lay4, lay5, lay6]
    refine wpAnyH_take (i := 8) (v := ?rav8) rfl (by kernel_rfl) (by kernel_rfl) (by kernel_rfl) (fun _ _ _ h => h) (Or.inl ⟨by kernel_rfl, ?rahy8⟩) (by assumption) ?rarest8
    case rahy8 => (intro w hSw; (try dsimp only at hSw); go_simp; try (with_reducible rfl))
    try simp only [Act.put, lay1, lay2, lay3, lay4, lay5, lay6]
    refine wpAnyH_take (i := 9) (v := ?rav9) rfl (by kernel_rfl) (by kernel_rfl) (by kernel_rfl) (fun _ _ _ h => h) (Or.inl ⟨by kernel_rfl, ?rahy9⟩) (by assumption) ?rarest9
    case rahy9 => (intro w hSw; (try dsimp only at hSw); go_simp; try (with_reducible rfl))
    try simp only [Act.put, lay1, lay2, lay3, lay4, lay5, lay6]
    refine wpAnyH_take (i := 10) (v := ?rav10) rfl (by kernel_rfl) (by kernel_rfl) (by kernel_rfl) (fun _ _ _ h => h) (Or.inl ⟨by kernel_rfl, ?rahy10⟩) (by assumption) ?rarest10
    case rahy10 => (intro w hSw; (try dsimp only at hSw); go_simp; try (with_reducible rfl))
    try simp only [Act.put, lay1, lay2, lay3, lay4, lay5, lay6]
    refine wpAnyH_take (i := 11) (v := ?rav11) rfl (by kernel_rfl) (by kernel_rfl) (by kernel_rfl) (fun _ _ _ h => h) (Or.inl ⟨by kernel_rfl, ?rahy11⟩) (by assumption) ?rarest11
    case rahy11 => (intro w hSw; (try dsimp only at hSw); go_simp; try (with_reducible rfl))
    try simp only [Act.put, lay1, lay2, lay3, lay4, lay5, lay6]
    refine wpAnyH_ready (rs := [12]) (by kernel_rfl) (by simp) ?_
    refine AllReadyH.cons rfl (fun K hK => ?_) AllReadyH.nil
    go_simp
    refine (hAdd (y) (x) _ _ _ (z2.below hB) (z1.below hB) (szi_le t2 (by decide)) (szi_le t1 (by decide))).mono ?_
    rintro e w103 ⟨v103, rfl, p1, b103⟩
    replace hB := hB.trans (b103.mono hB.size)
    replace r1 := r1.below b103
    replace r2 := r2.below b103
    replace hX := hX.below b103 hX.lt
    replace hY := hY.below b103 hY.lt
    replace hZ := hZ.below b103 hZ.lt
    replace g1 := g1.below b103 g1.lt
    replace g2 := g2.below b103 g2.lt
    go_wp2_with fail
    refine hK.out _ _ ?_ (fun hHeld => ?_)
    · exact ⟨hX.cell 0, hX.cell 1, hY.cell 0, hY.cell 1, hZ.cell 0, hZ.cell 1, g1.cell 0, g1.cell 1, g2.cell 0, g2.cell 1⟩
    clear hK K
    try simp only [Act.put, lay1, lay2, lay3, lay4, lay5, lay6]
    refine wpAnyH_ready (rs := [13]) (by kernel_rfl) (by simp) ?_
    refine AllReadyH.cons rfl (fun K hK => ?_) AllReadyH.nil
    go_simp
    refine (hSame (x + y) (y + x) _ _ _ r1 p1 (Int.add_comm x y)).mono ?_
    rintro e w104 ⟨rfl, b104⟩
    replace hB := hB.trans (b104.mono hB.size)
    replace r1 := r1.below b104
    replace r2 := r2.below b104
    replace hX := hX.below b104 hX.lt
    replace hY := hY.below b104 hY.lt
    replace hZ := hZ.below b104 hZ.lt
    replace g1 := g1.below b104 g1.lt
    replace g2 := g2.below b104 g2.lt
    go_wp2_with fail
    refine hK.out _ _ ?_ (fun hHeld => ?_)
    · exact ⟨hX.cell 0, hX.cell 1, hY.cell 0, hY.cell 1, hZ.cell 0, hZ.cell 1, g1.cell 0, g1.cell 1, g2.cell 0, g2.cell 1⟩
    clear hK K
    try simp only [Act.put, lay1, lay2, lay3, lay4, lay5, lay6]
    refine wpAnyH_take (i := 14) (v := ?rav14) rfl (by kernel_rfl) (by kernel_rfl) (by kernel_rfl) (fun _ _ _ h => h) (Or.inl ⟨by kernel_rfl, ?rahy14⟩) (by assumption) ?rarest14
    case rahy14 => (intro w hSw; (try dsimp only at hSw); go_simp; try (with_reducible rfl))
    try simp only [Act.put, lay1, lay2, lay3, lay4, lay5, lay6]
    refine wpAnyH_take (i := 15) (v := ?rav15) rfl (by kernel_rfl) (by kernel_rfl) (by kernel_rfl) (fun _ _ _ h => h) (Or.inl ⟨by kernel_rfl, ?rahy15⟩) (by assumption) ?rarest15
    case rahy15 => (intro w hSw; (try dsimp only at hSw); go_simp; try (with_reducible rfl))
    try simp only [Act.put, lay1, lay2, lay3, lay4, lay5, lay6]
    refine wpAnyH_take (i := 16) (v := ?rav16) rfl (by kernel_rfl) (by kernel_rfl) (by kernel_rfl) (fun _ _ _ h => h) (Or.inl ⟨by kernel_rfl, ?rahy16⟩) (by assumption) ?rarest16
    case rahy16 => (intro w hSw; (try dsimp only at hSw); go_simp; try (with_reducible rfl))
    try simp only [Act.put, lay1, lay2, lay3, lay4, lay5, lay6]
    refine wpAnyH_take (i := 17) (v := ?rav17) rfl (by kernel_rfl) (by kernel_rfl) (by kernel_rfl) (fun _ _ _ h => h) (Or.inl ⟨by kernel_rfl, ?rahy17⟩) (by assumption) ?rarest17
    case rahy17 => (intro w hSw; (try dsimp only at hSw); go_simp; try (with_reducible rfl))
    try simp only [Act.put, lay1, lay2, lay3, lay4, lay5, lay6]
    refine wpAnyH_take (i := 18) (v := ?rav18) rfl (by kernel_rfl) (by kernel_rfl) (by kernel_rfl) (fun _ _ _ h => h) (Or.inl ⟨by kernel_rfl, ?rahy18⟩) (by assumption) ?rarest18
    case rahy18 => (intro w hSw; (try dsimp only at hSw); go_simp; try (with_reducible rfl))
    try simp only [Act.put, lay1, lay2, lay3, lay4, lay5, lay6]
    refine wpAnyH_take (i := 19) (v := ?rav19) rfl (by kernel_rfl) (by kernel_rfl) (by kernel_rfl) (fun _ _ _ h => h) (Or.inl ⟨by kernel_rfl, ?rahy19⟩) (by assumption) ?rarest19
    case rahy19 => (intro w hSw; (try dsimp only at hSw); go_simp; try (with_reducible rfl))
    try simp only [Act.put, lay1, lay2, lay3, lay4, lay5, lay6]
    refine wpAnyH_ready (rs := [20]) (by kernel_rfl) (by simp) ?_
    refine AllReadyH.cons rfl (fun K hK => ?_) AllReadyH.nil
    go_simp
    refine (hMul (y) (x) _ _ _ (z2.below hB) (z1.below hB) (szi_le t2 (by decide)) (szi_le t1 (by decide))).mono ?_
    rintro e w105 ⟨v105, rfl, p2, b105⟩
    replace hB := hB.trans (b105.mono hB.size)
    replace r1 := r1.below b105
    replace r2 := r2.below b105
    replace hX := hX.below b105 hX.lt
    replace hY := hY.below b105 hY.lt
    replace hZ := hZ.below b105 hZ.lt
    replace g1 := g1.below b105 g1.lt
    replace g2 := g2.below b105 g2.lt
    go_wp2_with fail
    refine hK.out _ _ ?_ (fun hHeld => ?_)
    · exact ⟨hX.cell 0, hX.cell 1, hY.cell 0, hY.cell 1, hZ.cell 0, hZ.cell 1, g1.cell 0, g1.cell 1, g2.cell 0, g2.cell 1⟩
    clear hK K
    try simp only [Act.put, lay1, lay2, lay3, lay4, lay5, lay6]
    refine wpAnyH_ready (rs := [21]) (by kernel_rfl) (by simp) ?_
    refine AllReadyH.cons rfl (fun K hK => ?_) AllReadyH.nil
    go_simp
    refine (hSame (x * y) (y * x) _ _ _ r2 p2 (Int.mul_comm x y)).mono ?_
    rintro e w106 ⟨rfl, b106⟩
    replace hB := hB.trans (b106.mono hB.size)
    replace r1 := r1.below b106
    replace r2 := r2.below b106
    replace hX := hX.below b106 hX.lt
    replace hY := hY.below b106 hY.lt
    replace hZ := hZ.below b106 hZ.lt
    replace g1 := g1.below b106 g1.lt
    replace g2 := g2.below b106 g2.lt
    go_wp2_with fail
    refine hK.out _ _ ?_ (fun hHeld => ?_)
    · exact ⟨hX.cell 0, hX.cell 1, hY.cell 0, hY.cell 1, hZ.cell 0, hZ.cell 1, g1.cell 0, g1.cell 1, g2.cell 0, g2.cell 1⟩
    clear hK K
    try simp only [Act.put, lay1, lay2, lay3, lay4, lay5, lay6]
    try dsimp only
    try simp only [Act.put, lay1, lay2, lay3, lay4, lay5, lay6]
    refine wpAnyH_take (i := 22) (v := ?rav22) rfl (by kernel_rfl) (by kernel_rfl) (by kernel_rfl) (fun _ _ _ h => h) (Or.inl ⟨by kernel_rfl, ?rahy22⟩) (by assumption) ?rarest22
    case rahy22 => (intro w hSw; (try dsimp only at hSw); go_simp; try (with_reducible rfl))
    try simp only [Act.put, lay1, lay2, lay3, lay4, lay5, lay6]
    try dsimp only
    try simp only [Act.put, lay1, lay2, lay3, lay4, lay5, lay6]
    refine wpAnyH_take (i := 23) (v := ?rav23) rfl (by kernel_rfl) (by kernel_rfl) (by kernel_rfl) (fun _ _ _ h => h) (Or.inl ⟨by kernel_rfl, ?rahy23⟩) (by assumption) ?rarest23
    case rahy23 => (intro w hSw; (try dsimp only at hSw); go_simp; try (with_reducible rfl))
    try simp only [Act.put, lay1, lay2, lay3, lay4, lay5, lay6]
    try dsimp only
    try simp only [Act.put, lay1, lay2, lay3, lay4, lay5, lay6]
    refine wpAnyH_done (by kernel_rfl) ?_ _
    refine NoPanic.normal ?_
    go_upto_region 6 with fail
    replace hB := hB.drew
    replace r1 := r1.below (bdrew _)
    replace r2 := r2.below (bdrew _)
    replace hX := hX.drew
    replace hY := hY.drew
    replace hZ := hZ.drew
    replace g1 := g1.drew
    replace g2 := g2.drew
    refine wp_region_noPanic ?_
    refine wp_region_held_drew (S := fun w' => w'.cell? ⟨g, 0, none⟩ = some (.bool sg1) ∧ w'.cell? ⟨g, 1, none⟩ = some (.slice B1 l1.length D1) ∧ w'.cell? ⟨g + 1, 0, none⟩ = some (.bool sg2) ∧ w'.cell? ⟨g + 1, 1, none⟩ = some (.slice B2 l2.length D2) ∧ w'.cell? ⟨g + 1 + 1, 0, none⟩ = some (.bool sg3) ∧ w'.cell? ⟨g + 1 + 1, 1, none⟩ = some (.slice B3 l3.length D3) ∧ w'.cell? ⟨n1, 0, none⟩ = some (.bool pa) ∧ w'.cell? ⟨n1, 1, none⟩ = some (.slice A1 L1 C1) ∧ w'.cell? ⟨n2, 0, none⟩ = some (.bool pm) ∧ w'.cell? ⟨n2, 1, none⟩ = some (.slice A2 L2 C2)) (by kernel_rfl) ?_ (fun hHeld => ?_)
    · exact ⟨hX.cell 0, hX.cell 1, hY.cell 0, hY.cell 1, hZ.cell 0, hZ.cell 1, g1.cell 0, g1.cell 1, g2.cell 0, g2.cell 1⟩
    refine wpAnyH_take (i := 0) (v := ?rbv0) rfl (by kernel_rfl) (by kernel_rfl) (by kernel_rfl) (fun _ _ _ h => h) (Or.inl ⟨by kernel_rfl, ?rbhy0⟩) (by assumption) ?rbrest0
    case rbhy0 => (intro w hSw; (try dsimp only at hSw); go_simp; try (with_reducible rfl))
    try simp only [Act.put, lay1, lay2, lay3, lay4, lay5, lay6]
    refine wpAnyH_take (i := 1) (v := ?rbv1) rfl (by kernel_rfl) (by kernel_rfl) (by kernel_rfl) (fun _ _ _ h => h) (Or.inl ⟨by kernel_rfl, ?rbhy1⟩) (by assumption) ?rbrest1
    case rbhy1 => (intro w hSw; (try dsimp only at hSw); go_simp; try (with_reducible rfl))
    try simp only [Act.put, lay1, lay2, lay3, lay4, lay5, lay6]
    refine wpAnyH_take (i := 3) (v := ?rbv3) rfl (by kernel_rfl) (by kernel_rfl) (by kernel_rfl) (fun _ _ _ h => h) (Or.inl ⟨by kernel_rfl, ?rbhy3⟩) (by assumption) ?rbrest3
    case rbhy3 => (intro w hSw; (try dsimp only at hSw); go_simp; try (with_reducible rfl))
    try simp only [Act.put, lay1, lay2, lay3, lay4, lay5, lay6]
    refine wpAnyH_take (i := 4) (v := ?rbv4) rfl (by kernel_rfl) (by kernel_rfl) (by kernel_rfl) (fun _ _ _ h => h) (Or.inl ⟨by kernel_rfl, ?rbhy4⟩) (by assumption) ?rbrest4
    case rbhy4 => (intro w hSw; (try dsimp only at hSw); go_simp; try (with_reducible rfl))
    try simp only [Act.put, lay1, lay2, lay3, lay4, lay5, lay6]
    refine wpAnyH_take (i := 5) (v := ?rbv5) rfl (by kernel_rfl) (by kernel_rfl) (by kernel_rfl) (fun _ _ _ h => h) (Or.inl ⟨by kernel_rfl, ?rbhy5⟩) (by assumption) ?rbrest5
    case rbhy5 => (intro w hSw; (try dsimp only at hSw); go_simp; try (with_reducible rfl))
    try simp only [Act.put, lay1, lay2, lay3, lay4, lay5, lay6]
    refine wpAnyH_ready (rs := [2]) (by kernel_rfl) (by simp) ?_
    refine AllReadyH.cons rfl (fun K hK => ?_) AllReadyH.nil
    go_simp
    refine (hAdd (x + y) (z) _ _ _ r1 (z3.below hB) (szi_le (szi_add t1 t2) (by decide)) (szi_le t3 (by decide))).mono ?_
    rintro e w107 ⟨v107, rfl, p3, b107⟩
    replace hB := hB.trans (b107.mono hB.size)
    replace r1 := r1.below b107
    replace r2 := r2.below b107
    replace hX := hX.below b107 hX.lt
    replace hY := hY.below b107 hY.lt
    replace hZ := hZ.below b107 hZ.lt
    replace g1 := g1.below b107 g1.lt
    replace g2 := g2.below b107 g2.lt
    go_wp2_with fail
    refine hK.out _ _ ?_ (fun hHeld => ?_)
    · exact ⟨hX.cell 0, hX.cell 1, hY.cell 0, hY.cell 1, hZ.cell 0, hZ.cell 1, g1.cell 0, g1.cell 1, g2.cell 0, g2.cell 1⟩
    clear hK K
    try simp only [Act.put, lay1, lay2, lay3, lay4, lay5, lay6]
    refine wpAnyH_ready (rs := [6]) (by kernel_rfl) (by simp) ?_
    refine AllReadyH.cons rfl (fun K hK => ?_) AllReadyH.nil
    go_simp
    refine (hAdd (y) (z) _ _ _ (z2.below hB) (z3.below hB) (szi_le t2 (by decide)) (szi_le t3 (by decide))).mono ?_
    rintro e w108 ⟨v108, rfl, p4, b108⟩
    replace hB := hB.trans (b108.mono hB.size)
    replace r1 := r1.below b108
    replace r2 := r2.below b108
    replace p3 := p3.below b108
    replace hX := hX.below b108 hX.lt
    replace hY := hY.below b108 hY.lt
    replace hZ := hZ.below b108 hZ.lt
    replace g1 := g1.below b108 g1.lt
    replace g2 := g2.below b108 g2.lt
    go_wp2_with fail
    refine hK.out _ _ ?_ (fun hHeld => ?_)
    · exact ⟨hX.cell 0, hX.cell 1, hY.cell 0, hY.cell 1, hZ.cell 0, hZ.cell 1, g1.cell 0, g1.cell 1, g2.cell 0, g2.cell 1⟩
    clear hK K
    try simp only [Act.put, lay1, lay2, lay3, lay4, lay5, lay6]
    refine wpAnyH_ready (rs := [7]) (by kernel_rfl) (by simp) ?_
    refine AllReadyH.cons rfl (fun K hK => ?_) AllReadyH.nil
    go_simp
    refine (hAdd (x) (y + z) _ _ _ (z1.below hB) p4 (szi_le t1 (by decide)) (szi_le (szi_add t2 t3) (by decide))).mono ?_
    rintro e w109 ⟨v109, rfl, p5, b109⟩
    replace hB := hB.trans (b109.mono hB.size)
    replace r1 := r1.below b109
    replace r2 := r2.below b109
    replace p3 := p3.below b109
    replace hX := hX.below b109 hX.lt
    replace hY := hY.below b109 hY.lt
    replace hZ := hZ.below b109 hZ.lt
    replace g1 := g1.below b109 g1.lt
    replace g2 := g2.below b109 g2.lt
    go_wp2_with fail
    refine hK.out _ _ ?_ (fun hHeld => ?_)
    · exact ⟨hX.cell 0, hX.cell 1, hY.cell 0, hY.cell 1, hZ.cell 0, hZ.cell 1, g1.cell 0, g1.cell 1, g2.cell 0, g2.cell 1⟩
    clear hK K
    try simp only [Act.put, lay1, lay2, lay3, lay4, lay5, lay6]
    try dsimp only
    try simp only [Act.put, lay1, lay2, lay3, lay4, lay5, lay6]
    refine wpAnyH_ready (rs := [8]) (by kernel_rfl) (by simp) ?_
    refine AllReadyH.cons rfl (fun K hK => ?_) AllReadyH.nil
    go_simp
    refine (hSame (x + y + z) (x + (y + z)) _ _ _ p3 p5 (Int.add_assoc x y z)).mono ?_
    rintro e w110 ⟨rfl, b110⟩
    replace hB := hB.trans (b110.mono hB.size)
    replace r1 := r1.below b110
    replace r2 := r2.below b110
    replace hX := hX.below b110 hX.lt
    replace hY := hY.below b110 hY.lt
    replace hZ := hZ.below b110 hZ.lt
    replace g1 := g1.below b110 g1.lt
    replace g2 := g2.below b110 g2.lt
    go_wp2_with fail
    refine hK.out _ _ ?_ (fun hHeld => ?_)
    · exact ⟨hX.cell 0, hX.cell 1, hY.cell 0, hY.cell 1, hZ.cell 0, hZ.cell 1, g1.cell 0, g1.cell 1, g2.cell 0, g2.cell 1⟩
    clear hK K
    try simp only [Act.put, lay1, lay2, lay3, lay4, lay5, lay6]
    try dsimp only
    try simp only [Act.put, lay1, lay2, lay3, lay4, lay5, lay6]
    refine wpAnyH_take (i := 9) (v := ?rbv9) rfl (by kernel_rfl) (by kernel_rfl) (by kernel_rfl) (fun _ _ _ h => h) (Or.inl ⟨by kernel_rfl, ?rbhy9⟩) (by assumption) ?rbrest9
    case rbhy9 => (intro w hSw; (try dsimp only at hSw); go_simp; try (with_reducible rfl))
    try simp only [Act.put, lay1, lay2, lay3, lay4, lay5, lay6]
    try dsimp only
    try simp only [Act.put, lay1, lay2, lay3, lay4, lay5, lay6]
    refine wpAnyH_done (by kernel_rfl) ?_ _
    refine NoPanic.normal ?_
    go_upto_region 7 with fail
    replace hB := hB.drew
    replace r1 := r1.below (bdrew _)
    replace r2 := r2.below (bdrew _)
    replace hX := hX.drew
    replace hY := hY.drew
    replace hZ := hZ.drew
    replace g1 := g1.drew
    replace g2 := g2.drew
    refine wp_region_noPanic ?_
    refine wp_region_held_drew (S := fun w' => w'.cell? ⟨g, 0, none⟩ = some (.bool sg1) ∧ w'.cell? ⟨g, 1, none⟩ = some (.slice B1 l1.length D1) ∧ w'.cell? ⟨g + 1, 0, none⟩ = some (.bool sg2) ∧ w'.cell? ⟨g + 1, 1, none⟩ = some (.slice B2 l2.length D2) ∧ w'.cell? ⟨g + 1 + 1, 0, none⟩ = some (.bool sg3) ∧ w'.cell? ⟨g + 1 + 1, 1, none⟩ = some (.slice B3 l3.length D3) ∧ w'.cell? ⟨n1, 0, none⟩ = some (.bool pa) ∧ w'.cell? ⟨n1, 1, none⟩ = some (.slice A1 L1 C1) ∧ w'.cell? ⟨n2, 0, none⟩ = some (.bool pm) ∧ w'.cell? ⟨n2, 1, none⟩ = some (.slice A2 L2 C2)) (by kernel_rfl) ?_ (fun hHeld => ?_)
    · exact ⟨hX.cell 0, hX.cell 1, hY.cell 0, hY.cell 1, hZ.cell 0, hZ.cell 1, g1.cell 0, g1.cell 1, g2.cell 0, g2.cell 1⟩
    refine wpAnyH_take (i := 0) (v := ?rcv0) rfl (by kernel_rfl) (by kernel_rfl) (by kernel_rfl) (fun _ _ _ h => h) (Or.inl ⟨by kernel_rfl, ?rchy0⟩) (by assumption) ?rcrest0
    case rchy0 => (intro w hSw; (try dsimp only at hSw); go_simp; try (with_reducible rfl))
    try simp only [Act.put, lay1, lay2, lay3, lay4, lay5, lay6]
    refine wpAnyH_take (i := 1) (v := ?rcv1) rfl (by kernel_rfl) (by kernel_rfl) (by kernel_rfl) (fun _ _ _ h => h) (Or.inl ⟨by kernel_rfl, ?rchy1⟩) (by assumption) ?rcrest1
    case rchy1 => (intro w hSw; (try dsimp only at hSw); go_simp; try (with_reducible rfl))
    try simp only [Act.put, lay1, lay2, lay3, lay4, lay5, lay6]
    refine wpAnyH_take (i := 3) (v := ?rcv3) rfl (by kernel_rfl) (by kernel_rfl) (by kernel_rfl) (fun _ _ _ h => h) (Or.inl ⟨by kernel_rfl, ?rchy3⟩) (by assumption) ?rcrest3
    case rchy3 => (intro w hSw; (try dsimp only at hSw); go_simp; try (with_reducible rfl))
    try simp only [Act.put, lay1, lay2, lay3, lay4, lay5, lay6]
    refine wpAnyH_take (i := 4) (v := ?rcv4) rfl (by kernel_rfl) (by kernel_rfl) (by kernel_rfl) (fun _ _ _ h => h) (Or.inl ⟨by kernel_rfl, ?rchy4⟩) (by assumption) ?rcrest4
    case rchy4 => (intro w hSw; (try dsimp only at hSw); go_simp; try (with_reducible rfl))
    try simp only [Act.put, lay1, lay2, lay3, lay4, lay5, lay6]
    refine wpAnyH_take (i := 5) (v := ?rcv5) rfl (by kernel_rfl) (by kernel_rfl) (by kernel_rfl) (fun _ _ _ h => h) (Or.inl ⟨by kernel_rfl, ?rchy5⟩) (by assumption) ?rcrest5
    case rchy5 => (intro w hSw; (try dsimp only at hSw); go_simp; try (with_reducible rfl))
    try simp only [Act.put, lay1, lay2, lay3, lay4, lay5, lay6]
    refine wpAnyH_ready (rs := [2]) (by kernel_rfl) (by simp) ?_
    refine AllReadyH.cons rfl (fun K hK => ?_) AllReadyH.nil
    go_simp
    refine (hMul (x * y) (z) _ _ _ r2 (z3.below hB) (szi_le (szi_mul t1 t2) (by decide)) (szi_le t3 (by decide))).mono ?_
    rintro e w111 ⟨v111, rfl, p6, b111⟩
    replace hB := hB.trans (b111.mono hB.size)
    replace r1 := r1.below b111
    replace r2 := r2.below b111
    replace hX := hX.below b111 hX.lt
    replace hY := hY.below b111 hY.lt
    replace hZ := hZ.below b111 hZ.lt
    replace g1 := g1.below b111 g1.lt
    replace g2 := g2.below b111 g2.lt
    go_wp2_with fail
    refine hK.out _ _ ?_ (fun hHeld => ?_)
    · exact ⟨hX.cell 0, hX.cell 1, hY.cell 0, hY.cell 1, hZ.cell 0, hZ.cell 1, g1.cell 0, g1.cell 1, g2.cell 0, g2.cell 1⟩
    clear hK K
    try simp only [Act.put, lay1, lay2, lay3, lay4, lay5, lay6]
    refine wpAnyH_ready (rs := [6]) (by kernel_rfl) (by simp) ?_
    refine AllReadyH.cons rfl (fun K hK => ?_) AllReadyH.nil
    go_simp
    refine (hMul (y) (z) _ _ _ (z2.below hB) (z3.below hB) (szi_le t2 (by decide)) (szi_le t3 (by decide))).mono ?_
    rintro e w112 ⟨v112, rfl, p7, b112⟩
    replace hB := hB.trans (b112.mono hB.size)
    replace r1 := r1.below b112
    replace r2 := r2.below b112
    replace p6 := p6.below b112
    replace hX := hX.below b112 hX.lt
    replace hY := hY.below b112 hY.lt
    replace hZ := hZ.below b112 hZ.lt
    replace g1 := g1.below b112 g1.lt
    replace g2 := g2.below b112 g2.lt
    go_wp2_with fail
    refine hK.out _ _ ?_ (fun hHeld => ?_)
    · exact ⟨hX.cell 0, hX.cell 1, hY.cell 0, hY.cell 1, hZ.cell 0, hZ.cell 1, g1.cell 0, g1.cell 1, g2.cell 0, g2.cell 1⟩
    clear hK K
    try simp only [Act.put, lay1, lay2, lay3, lay4, lay5, lay6]
    refine wpAnyH_ready (rs := [7]) (by kernel_rfl) (by simp) ?_
    refine AllReadyH.cons rfl (fun K hK => ?_) AllReadyH.nil
    go_simp
    refine (hMul (x) (y * z) _ _ _ (z1.below hB) p7 (szi_le t1 (by decide)) (szi_le (szi_mul t2 t3) (by decide))).mono ?_
    rintro e w113 ⟨v113, rfl, p8, b113⟩
    replace hB := hB.trans (b113.mono hB.size)
    replace r1 := r1.below b113
    replace r2 := r2.below b113
    replace p6 := p6.below b113
    replace hX := hX.below b113 hX.lt
    replace hY := hY.below b113 hY.lt
    replace hZ := hZ.below b113 hZ.lt
    replace g1 := g1.below b113 g1.lt
    replace g2 := g2.below b113 g2.lt
    go_wp2_with fail
    refine hK.out _ _ ?_ (fun hHeld => ?_)
    · exact ⟨hX.cell 0, hX.cell 1, hY.cell 0, hY.cell 1, hZ.cell 0, hZ.cell 1, g1.cell 0, g1.cell 1, g2.cell 0, g2.cell 1⟩
    clear hK K
    try simp only [Act.put, lay1, lay2, lay3, lay4, lay5, lay6]
    refine wpAnyH_ready (rs := [8]) (by kernel_rfl) (by simp) ?_
    refine AllReadyH.cons rfl (fun K hK => ?_) AllReadyH.nil
    go_simp
    refine (hSame (x * y * z) (x * (y * z)) _ _ _ p6 p8 (Int.mul_assoc x y z)).mono ?_
    rintro e w114 ⟨rfl, b114⟩
    replace hB := hB.trans (b114.mono hB.size)
    replace r1 := r1.below b114
    replace r2 := r2.below b114
    replace hX := hX.below b114 hX.lt
    replace hY := hY.below b114 hY.lt
    replace hZ := hZ.below b114 hZ.lt
    replace g1 := g1.below b114 g1.lt
    replace g2 := g2.below b114 g2.lt
    go_wp2_with fail
    refine hK.out _ _ ?_ (fun hHeld => ?_)
    · exact ⟨hX.cell 0, hX.cell 1, hY.cell 0, hY.cell 1, hZ.cell 0, hZ.cell 1, g1.cell 0, g1.cell 1, g2.cell 0, g2.cell 1⟩
    clear hK K
    try simp only [Act.put, lay1, lay2, lay3, lay4, lay5, lay6]
    refine wpAnyH_take (i := 9) (v := ?rcv9) rfl (by kernel_rfl) (by kernel_rfl) (by kernel_rfl) (fun _ _ _ h => h) (Or.inl ⟨by kernel_rfl, ?rchy9⟩) (by assumption) ?rcrest9
    case rchy9 => (intro w hSw; (try dsimp only at hSw); go_simp; try (with_reducible rfl))
    try simp only [Act.put, lay1, lay2, lay3, lay4, lay5, lay6]
    refine wpAnyH_take (i := 10) (v := ?rcv10) rfl (by kernel_rfl) (by kernel_rfl) (by kernel_rfl) (fun _ _ _ h => h) (Or.inl ⟨by kernel_rfl, ?rchy10⟩) (by assumption) ?rcrest10
    case rchy10 => (intro w hSw; (try dsimp only at hSw); go_simp; try (with_reducible rfl))
    try simp only [Act.put, lay1, lay2, lay3, lay4, lay5, lay6]
    refine wpAnyH_take (i := 11) (v := ?rcv11) rfl (by kernel_rfl) (by kernel_rfl) (by kernel_rfl) (fun _ _ _ h => h) (Or.inl ⟨by kernel_rfl, ?rchy11⟩) (by assumption) ?rcrest11
    case rchy11 => (intro w hSw; (try dsimp only at hSw); go_simp; try (with_reducible rfl))
    try simp only [Act.put, lay1, lay2, lay3, lay4, lay5, lay6]
    refine wpAnyH_take (i := 13) (v := ?rcv13) rfl (by kernel_rfl) (by kernel_rfl) (by kernel_rfl) (fun _ _ _ h => h) (Or.inl ⟨by kernel_rfl, ?rchy13⟩) (by assumption) ?rcrest13
    case rchy13 => (intro w hSw; (try dsimp only at hSw); go_simp; try (with_reducible rfl))
    try simp only [Act.put, lay1, lay2, lay3, lay4, lay5, lay6]
    refine wpAnyH_take (i := 14) (v := ?rcv14) rfl (by kernel_rfl) (by kernel_rfl) (by kernel_rfl) (fun _ _ _ h => h) (Or.inl ⟨by kernel_rfl, ?rchy14⟩) (by assumption) ?rcrest14
    case rchy14 => (intro w hSw; (try dsimp only at hSw); go_simp; try (with_reducible rfl))
    try simp only [Act.put, lay1, lay2, lay3, lay4, lay5, lay6]
    refine wpAnyH_take (i := 16) (v := ?rcv16) rfl (by kernel_rfl) (by kernel_rfl) (by kernel_rfl) (fun _ _ _ h => h) (Or.inl ⟨by kernel_rfl, ?rchy16⟩) (by assumption) ?rcrest16
    case rchy16 => (intro w hSw; (try dsimp only at hSw); go_simp; try (with_reducible rfl))
    try simp only [Act.put, lay1, lay2, lay3, lay4, lay5, lay6]
    refine wpAnyH_take (i := 17) (v := ?rcv17) rfl (by kernel_rfl) (by kernel_rfl) (by kernel_rfl) (fun _ _ _ h => h) (Or.inl ⟨by kernel_rfl, ?rchy17⟩) (by assumption) ?rcrest17
    case rchy17 => (intro w hSw; (try dsimp only at hSw); go_simp; try (with_reducible rfl))
    try simp only [Act.put, lay1, lay2, lay3, lay4, lay5, lay6]
    refine wpAnyH_ready (rs := [12]) (by kernel_rfl) (by simp) ?_
    refine AllReadyH.cons rfl (fun K hK => ?_) AllReadyH.nil
    go_simp
    refine (hMul (x + y) (z) _ _ _ r1 (z3.below hB) (szi_le (szi_add t1 t2) (by decide)) (szi_le t3 (by decide))).mono ?_
    rintro e w115 ⟨v115, rfl, p9, b115⟩
    replace hB := hB.trans (b115.mono hB.size)
    replace r1 := r1.below b115
    replace r2 := r2.below b115
    replace hX := hX.below b115 hX.lt
    replace hY := hY.below b115 hY.lt
    replace hZ := hZ.below b115 hZ.lt
    replace g1 := g1.below b115 g1.lt
    replace g2 := g2.below b115 g2.lt
    go_wp2_with fail
    refine hK.out _ _ ?_ (fun hHeld => ?_)
    · exact ⟨hX.cell 0, hX.cell 1, hY.cell 0, hY.cell 1, hZ.cell 0, hZ.cell 1, g1.cell 0, g1.cell 1, g2.cell 0, g2.cell 1⟩
    clear hK K
    try simp only [Act.put, lay1, lay2, lay3, lay4, lay5, lay6]
    refine wpAnyH_ready (rs := [15]) (by kernel_rfl) (by simp) ?_
    refine AllReadyH.cons rfl (fun K hK => ?_) AllReadyH.nil
    go_simp
    refine (hMul (x) (z) _ _ _ (z1.below hB) (z3.below hB) (szi_le t1 (by decide)) (szi_le t3 (by decide))).mono ?_
    rintro e w116 ⟨v116, rfl, q1, b116⟩
    replace hB := hB.trans (b116.mono hB.size)
    replace r1 := r1.below b116
    replace r2 := r2.below b116
    replace p9 := p9.below b116
    replace hX := hX.below b116 hX.lt
    replace hY := hY.below b116 hY.lt
    replace hZ := hZ.below b116 hZ.lt
    replace g1 := g1.below b116 g1.lt
    replace g2 := g2.below b116 g2.lt
    go_wp2_with fail
    refine hK.out _ _ ?_ (fun hHeld => ?_)
    · exact ⟨hX.cell 0, hX.cell 1, hY.cell 0, hY.cell 1, hZ.cell 0, hZ.cell 1, g1.cell 0, g1.cell 1, g2.cell 0, g2.cell 1⟩
    clear hK K
    try simp only [Act.put, lay1, lay2, lay3, lay4, lay5, lay6]
    refine wpAnyH_ready (rs := [18]) (by kernel_rfl) (by simp) ?_
    refine AllReadyH.cons rfl (fun K hK => ?_) AllReadyH.nil
    go_simp
    refine (hMul (y) (z) _ _ _ (z2.below hB) (z3.below hB) (szi_le t2 (by decide)) (szi_le t3 (by decide))).mono ?_
    rintro e w117 ⟨v117, rfl, q2, b117⟩
    replace hB := hB.trans (b117.mono hB.size)
    replace r1 := r1.below b117
    replace r2 := r2.below b117
    replace p9 := p9.below b117
    replace q1 := q1.below b117
    replace hX := hX.below b117 hX.lt
    replace hY := hY.below b117 hY.lt
    replace hZ := hZ.below b117 hZ.lt
    replace g1 := g1.below b117 g1.lt
    replace g2 := g2.below b117 g2.lt
    go_wp2_with fail
    refine hK.out _ _ ?_ (fun hHeld => ?_)
    · exact ⟨hX.cell 0, hX.cell 1, hY.cell 0, hY.cell 1, hZ.cell 0, hZ.cell 1, g1.cell 0, g1.cell 1, g2.cell 0, g2.cell 1⟩
    clear hK K
    try simp only [Act.put, lay1, lay2, lay3, lay4, lay5, lay6]
    refine wpAnyH_ready (rs := [19]) (by kernel_rfl) (by simp) ?_
    refine AllReadyH.cons rfl (fun K hK => ?_) AllReadyH.nil
    go_simp
    refine (hAdd (x * z) (y * z) _ _ _ q1 q2 (szi_le (szi_mul t1 t3) (by decide)) (szi_le (szi_mul t2 t3) (by decide))).mono ?_
    rintro e w118 ⟨v118, rfl, q3, b118⟩
    replace hB := hB.trans (b118.mono hB.size)
    replace r1 := r1.below b118
    replace r2 := r2.below b118
    replace p9 := p9.below b118
    replace hX := hX.below b118 hX.lt
    replace hY := hY.below b118 hY.lt
    replace hZ := hZ.below b118 hZ.lt
    replace g1 := g1.below b118 g1.lt
    replace g2 := g2.below b118 g2.lt
    go_wp2_with fail
    refine hK.out _ _ ?_ (fun hHeld => ?_)
    · exact ⟨hX.cell 0, hX.cell 1, hY.cell 0, hY.cell 1, hZ.cell 0, hZ.cell 1, g1.cell 0, g1.cell 1, g2.cell 0, g2.cell 1⟩
    clear hK K
    try simp only [Act.put, lay1, lay2, lay3, lay4, lay5, lay6]
    refine wpAnyH_ready (rs := [20]) (by kernel_rfl) (by simp) ?_
    refine AllReadyH.cons rfl (fun K hK => ?_) AllReadyH.nil
    go_simp
    refine (hSame ((x + y) * z) (x * z + y * z) _ _ _ p9 q3 (Int.add_mul x y z)).mono ?_
    rintro e w119 ⟨rfl, b119⟩
    replace hB := hB.trans (b119.mono hB.size)
    replace r1 := r1.below b119
    replace r2 := r2.below b119
    replace hX := hX.below b119 hX.lt
    replace hY := hY.below b119 hY.lt
    replace hZ := hZ.below b119 hZ.lt
    replace g1 := g1.below b119 g1.lt
    replace g2 := g2.below b119 g2.lt
    go_wp2_with fail
    refine hK.out _ _ ?_ (fun hHeld => ?_)
    · exact ⟨hX.cell 0, hX.cell 1, hY.cell 0, hY.cell 1, hZ.cell 0, hZ.cell 1, g1.cell 0, g1.cell 1, g2.cell 0, g2.cell 1⟩
    clear hK K
    try simp only [Act.put, lay1, lay2, lay3, lay4, lay5, lay6]
    try dsimp only
    try simp only [Act.put, lay1, lay2, lay3, lay4, lay5, lay6]
    refine wpAnyH_take (i := 21) (v := ?rcv21) rfl (by kernel_rfl) (by kernel_rfl) (by kernel_rfl) (fun _ _ _ h => h) (Or.inl ⟨by kernel_rfl, ?rchy21⟩) (by assumption) ?rcrest21
    case rchy21 => (intro w hSw; (try dsimp only at hSw); go_simp; try (with_reducible rfl))
    try simp only [Act.put, lay1, lay2, lay3, lay4, lay5, lay6]
    try dsimp only
    try simp only [Act.put, lay1, lay2, lay3, lay4, lay5, lay6]
    refine wpAnyH_take (i := 22) (v := ?rcv22) rfl (by kernel_rfl) (by kernel_rfl) (by kernel_rfl) (fun _ _ _ h => h) (Or.inl ⟨by kernel_rfl, ?rchy22⟩) (by assumption) ?rcrest22
    case rchy22 => (intro w hSw; (try dsimp only at hSw); go_simp; try (with_reducible rfl))
    try simp only [Act.put, lay1, lay2, lay3, lay4, lay5, lay6]
    try dsimp only
    try simp only [Act.put, lay1, lay2, lay3, lay4, lay5, lay6]
    refine wpAnyH_done (by kernel_rfl) ?_ _
    refine NoPanic.normal ?_
    go_upto_region 8 with fail
    replace hB := hB.drew
    replace r1 := r1.below (bdrew _)
    replace r2 := r2.below (bdrew _)
    replace hX := hX.drew
    replace hY := hY.drew
    replace hZ := hZ.drew
    replace g1 := g1.drew
    replace g2 := g2.drew
    refine wp_region_noPanic ?_
    refine wp_region_held_drew (S := fun w' => w'.cell? ⟨g, 0, none⟩ = some (.bool sg1) ∧ w'.cell? ⟨g, 1, none⟩ = some (.slice B1 l1.length D1) ∧ w'.cell? ⟨g + 1, 0, none⟩ = some (.bool sg2) ∧ w'.cell? ⟨g + 1, 1, none⟩ = some (.slice B2 l2.length D2) ∧ w'.cell? ⟨g + 1 + 1, 0, none⟩ = some (.bool sg3) ∧ w'.cell? ⟨g + 1 + 1, 1, none⟩ = some (.slice B3 l3.length D3) ∧ w'.cell? ⟨n1, 0, none⟩ = some (.bool pa) ∧ w'.cell? ⟨n1, 1, none⟩ = some (.slice A1 L1 C1) ∧ w'.cell? ⟨n2, 0, none⟩ = some (.bool pm) ∧ w'.cell? ⟨n2, 1, none⟩ = some (.slice A2 L2 C2)) (by kernel_rfl) ?_ (fun hHeld => ?_)
    · exact ⟨hX.cell 0, hX.cell 1, hY.cell 0, hY.cell 1, hZ.cell 0, hZ.cell 1, g1.cell 0, g1.cell 1, g2.cell 0, g2.cell 1⟩
    refine wpAnyH_ready (rs := [0]) (by kernel_rfl) (by simp) ?_
    refine AllReadyH.cons rfl (fun K hK => ?_) AllReadyH.nil
    go_simp
    refine (hE _ (ht.below hB)).mono ?_
    rintro e w120 ⟨rfl, b120⟩
    replace hB := hB.trans (b120.mono hB.size)
    replace r1 := r1.below b120
    replace r2 := r2.below b120
    replace hX := hX.below b120 hX.lt
    replace hY := hY.below b120 hY.lt
    replace hZ := hZ.below b120 hZ.lt
    replace g1 := g1.below b120 g1.lt
    replace g2 := g2.below b120 g2.lt
    go_wp2_with fail
    refine hK.out _ _ ?_ (fun hHeld => ?_)
    · exact ⟨hX.cell 0, hX.cell 1, hY.cell 0, hY.cell 1, hZ.cell 0, hZ.cell 1, g1.cell 0, g1.cell 1, g2.cell 0, g2.cell 1⟩
    clear hK K
    try simp only [Act.put, lay1, lay2, lay3, lay4, lay5, lay6]
    refine wpAnyH_take (i := 1) (v := ?rdv1) rfl (by kernel_rfl) (by kernel_rfl) (by kernel_rfl) (fun _ _ _ h => h) (Or.inl ⟨by kernel_rfl, ?rdhy1⟩) (by assumption) ?rdrest1
    case rdhy1 => (intro w hSw; (try dsimp only at hSw); go_simp; try (with_reducible rfl))
    try simp only [Act.put, lay1, lay2, lay3, lay4, lay5, lay6]
    refine wpAnyH_take (i := 2) (v := ?rdv2) rfl (by kernel_rfl) (by kernel_rfl) (by kernel_rfl) (fun _ _ _ h => h) (Or.inl ⟨by kernel_rfl, ?rdhy2⟩) (by assumption) ?rdrest2
    case rdhy2 => (intro w hSw; (try dsimp only at hSw); go_simp; try (with_reducible rfl))
    try simp only [Act.put, lay1, lay2, lay3, lay4, lay5, lay6]
    refine wpAnyH_take (i := 3) (v := ?rdv3) rfl (by kernel_rfl) (by kernel_rfl) (by kernel_rfl) (fun _ _ _ h => h) (Or.inl ⟨by kernel_rfl, ?rdhy3⟩) (by assumption) ?rdrest3
    case rdhy3 => (intro w hSw; (try dsimp only at hSw); go_simp; try (with_reducible rfl))
    try simp only [Act.put, lay1, lay2, lay3, lay4, lay5, lay6]
    refine wpAnyH_take (i := 4) (v := ?rdv4) rfl (by kernel_rfl) (by kernel_rfl) (by kernel_rfl) (fun _ _ _ h => h) (Or.inl ⟨by kernel_rfl, ?rdhy4⟩) (by assumption) ?rdrest4
    case rdhy4 => (intro w hSw; (try dsimp only at hSw); go_simp; try (with_reducible rfl))
    try simp only [Act.put, lay1, lay2, lay3, lay4, lay5, lay6]
    refine wpAnyH_take (i := 5) (v := ?rdv5) rfl (by kernel_rfl) (by kernel_rfl) (by kernel_rfl) (fun _ _ _ h => h) (Or.inl ⟨by kernel_rfl, ?rdhy5⟩) (by assumption) ?rdrest5
    case rdhy5 => (intro w hSw; (try dsimp only at hSw); go_simp; try (with_reducible rfl))
    try simp only [Act.put, lay1, lay2, lay3, lay4, lay5, lay6]
    refine wpAnyH_take (i := 6) (v := ?rdv6) rfl (by kernel_rfl) (by kernel_rfl) (by kernel_rfl) (fun _ _ _ h => h) (Or.inl ⟨by kernel_rfl, ?rdhy6⟩) (by assumption) ?rdrest6
    case rdhy6 => (intro w hSw; (try dsimp only at hSw); go_simp; try (with_reducible rfl))
    try simp only [Act.put, lay1, lay2, lay3, lay4, lay5, lay6]
    refine wpAnyH_take (i := 7) (v := ?rdv7) rfl (by kernel_rfl) (by kernel_rfl) (by kernel_rfl) (fun _ _ _ h => h) (Or.inl ⟨by kernel_rfl, ?rdhy7⟩) (by assumption) ?rdrest7
    case rdhy7 => (intro w hSw; (try dsimp only at hSw); go_simp; try (with_reducible rfl))
    try simp only [Act.put, lay1, lay2, lay3, lay4, lay5, lay6]
    refine wpAnyH_take (i := 8) (v := ?rdv8) rfl (by kernel_rfl) (by kernel_rfl) (by kernel_rfl) (fun _ _ _ h => h) (Or.inl ⟨by kernel_rfl, ?rdhy8⟩) (by assumption) ?rdrest8
    case rdhy8 => (intro w hSw; (try dsimp only at hSw); go_simp; try (with_reducible rfl))
    try simp only [Act.put, lay1, lay2, lay3, lay4, lay5, lay6]
    refine wpAnyH_take (i := 9) (v := ?rdv9) rfl (by kernel_rfl) (by kernel_rfl) (by kernel_rfl) (fun _ _ _ h => h) (Or.inl ⟨by kernel_rfl, ?rdhy9⟩) (by assumption) ?rdrest9
    case rdhy9 => (intro w hSw; (try dsimp only at hSw); go_simp; try (with_reducible rfl))
    try simp only [Act.put, lay1, lay2, lay3, lay4, lay5, lay6]
    refine wpAnyH_take (i := 12) (v := ?rdv12) rfl (by kernel_rfl) (by kernel_rfl) (by kernel_rfl) (fun _ _ _ h => h) (Or.inl ⟨by kernel_rfl, ?rdhy12⟩) (by assumption) ?rdrest12
    case rdhy12 => (intro w hSw; (try dsimp only at hSw); go_simp; try (with_reducible rfl))
    try simp only [Act.put, lay1, lay2, lay3, lay4, lay5, lay6]
    refine wpAnyH_ready (rs := [10]) (by kernel_rfl) (by simp) ?_
    refine AllReadyH.cons rfl (fun K hK => ?_) AllReadyH.nil
    go_simp
    refine (hNeg (x) _ _ (z1.below hB)).mono ?_
    rintro e w121 ⟨v121, rfl, q4, b121⟩
    replace hB := hB.trans (b121.mono hB.size)
    replace r1 := r1.below b121
    replace r2 := r2.below b121
    replace hX := hX.below b121 hX.lt
    replace hY := hY.below b121 hY.lt
    replace hZ := hZ.below b121 hZ.lt
    replace g1 := g1.below b121 g1.lt
    replace g2 := g2.below b121 g2.lt
    go_wp2_with fail
    refine hK.out _ _ ?_ (fun hHeld => ?_)
    · exact ⟨hX.cell 0, hX.cell 1, hY.cell 0, hY.cell 1, hZ.cell 0, hZ.cell 1, g1.cell 0, g1.cell 1, g2.cell 0, g2.cell 1⟩
    clear hK K
    try simp only [Act.put, lay1, lay2, lay3, lay4, lay5, lay6]
    refine wpAnyH_ready (rs := [11]) (by kernel_rfl) (by simp) ?_
    refine AllReadyH.cons rfl (fun K hK => ?_) AllReadyH.nil
    go_simp
    refine (hAdd (x) (-x) _ _ _ (z1.below hB) q4 (szi_le t1 (by decide)) (szi_le (szi_neg t1) (by decide))).mono ?_
    rintro e w122 ⟨v122, rfl, q5, b122⟩
    replace hB := hB.trans (b122.mono hB.size)
    replace r1 := r1.below b122
    replace r2 := r2.below b122
    replace hX := hX.below b122 hX.lt
    replace hY := hY.below b122 hY.lt
    replace hZ := hZ.below b122 hZ.lt
    replace g1 := g1.below b122 g1.lt
    replace g2 := g2.below b122 g2.lt
    go_wp2_with fail
    refine hK.out _ _ ?_ (fun hHeld => ?_)
    · exact ⟨hX.cell 0, hX.cell 1, hY.cell 0, hY.cell 1, hZ.cell 0, hZ.cell 1, g1.cell 0, g1.cell 1, g2.cell 0, g2.cell 1⟩
    clear hK K
    try simp only [Act.put, lay1, lay2, lay3, lay4, lay5, lay6]
    refine wpAnyH_ready (rs := [13]) (by kernel_rfl) (by simp) ?_
    refine AllReadyH.cons rfl (fun K hK => ?_) AllReadyH.nil
    go_simp
    refine (hSame (x + -x) (0) _ _ _ q5 ⟨_, rfl, IsN.zero _⟩ (Int.add_right_neg x)).mono ?_
    rintro e w123 ⟨rfl, b123⟩
    replace hB := hB.trans (b123.mono hB.size)
    replace r1 := r1.below b123
    replace r2 := r2.below b123
    replace hX := hX.below b123 hX.lt
    replace hY := hY.below b123 hY.lt
    replace hZ := hZ.below b123 hZ.lt
    replace g1 := g1.below b123 g1.lt
    replace g2 := g2.below b123 g2.lt
    go_wp2_with fail
    refine hK.out _ _ ?_ (fun hHeld => ?_)
    · exact ⟨hX.cell 0, hX.cell 1, hY.cell 0, hY.cell 1, hZ.cell 0, hZ.cell 1, g1.cell 0, g1.cell 1, g2.cell 0, g2.cell 1⟩
    clear hK K
    try simp only [Act.put, lay1, lay2, lay3, lay4, lay5, lay6]
    refine wpAnyH_take (i := 14) (v := ?rdv14) rfl (by kernel_rfl) (by kernel_rfl) (by kernel_rfl) (fun _ _ _ h => h) (Or.inl ⟨by kernel_rfl, ?rdhy14⟩) (by assumption) ?rdrest14
    case rdhy14 => (intro w hSw; (try dsimp only at hSw); go_simp; try (with_reducible rfl))
    try simp only [Act.put, lay1, lay2, lay3, lay4, lay5, lay6]
    refine wpAnyH_take (i := 15) (v := ?rdv15) rfl (by kernel_rfl) (by kernel_rfl) (by kernel_rfl) (fun _ _ _ h => h) (Or.inl ⟨by kernel_rfl, ?rdhy15⟩) (by assumption) ?rdrest15
    case rdhy15 => (intro w hSw; (try dsimp only at hSw); go_simp; try (with_reducible rfl))
    try simp only [Act.put, lay1, lay2, lay3, lay4, lay5, lay6]
    refine wpAnyH_take (i := 16) (v := ?rdv16) rfl (by kernel_rfl) (by kernel_rfl) (by kernel_rfl) (fun _ _ _ h => h) (Or.inl ⟨by kernel_rfl, ?rdhy16⟩) (by assumption) ?rdrest16
    case rdhy16 => (intro w hSw; (try dsimp only at hSw); go_simp; try (with_reducible rfl))
    try simp only [Act.put, lay1, lay2, lay3, lay4, lay5, lay6]
    refine wpAnyH_take (i := 18) (v := ?rdv18) rfl (by kernel_rfl) (by kernel_rfl) (by kernel_rfl) (fun _ _ _ h => h) (Or.inl ⟨by kernel_rfl, ?rdhy18⟩) (by assumption) ?rdrest18
    case rdhy18 => (intro w hSw; (try dsimp only at hSw); go_simp; try (with_reducible rfl))
    try simp only [Act.put, lay1, lay2, lay3, lay4, lay5, lay6]
    refine wpAnyH_take (i := 20) (v := ?rdv20) rfl (by kernel_rfl) (by kernel_rfl) (by kernel_rfl) (fun _ _ _ h => h) (Or.inl ⟨by kernel_rfl, ?rdhy20⟩) (by assumption) ?rdrest20
    case rdhy20 => (intro w hSw; (try dsimp only at hSw); go_simp; try (with_reducible rfl))
    try simp only [Act.put, lay1, lay2, lay3, lay4, lay5, lay6]
    refine wpAnyH_ready (rs := [17]) (by kernel_rfl) (by simp) ?_
    refine AllReadyH.cons rfl (fun K hK => ?_) AllReadyH.nil
    go_simp
    refine (hNeg (x) _ _ (z1.below hB)).mono ?_
    rintro e w124 ⟨v124, rfl, q6, b124⟩
    replace hB := hB.trans (b124.mono hB.size)
    replace r1 := r1.below b124
    replace r2 := r2.below b124
    replace hX := hX.below b124 hX.lt
    replace hY := hY.below b124 hY.lt
    replace hZ := hZ.below b124 hZ.lt
    replace g1 := g1.below b124 g1.lt
    replace g2 := g2.below b124 g2.lt
    go_wp2_with fail
    refine hK.out _ _ ?_ (fun hHeld => ?_)
    · exact ⟨hX.cell 0, hX.cell 1, hY.cell 0, hY.cell 1, hZ.cell 0, hZ.cell 1, g1.cell 0, g1.cell 1, g2.cell 0, g2.cell 1⟩
    clear hK K
    try simp only [Act.put, lay1, lay2, lay3, lay4, lay5, lay6]
    refine wpAnyH_ready (rs := [19]) (by kernel_rfl) (by simp) ?_
    refine AllReadyH.cons rfl (fun K hK => ?_) AllReadyH.nil
    go_simp
    refine (hMul (-x) (y) _ _ _ q6 (z2.below hB) (szi_le (szi_neg t1) (by decide)) (szi_le t2 (by decide))).mono ?_
    rintro e w125 ⟨v125, rfl, q7, b125⟩
    replace hB := hB.trans (b125.mono hB.size)
    replace r1 := r1.below b125
    replace r2 := r2.below b125
    replace hX := hX.below b125 hX.lt
    replace hY := hY.below b125 hY.lt
    replace hZ := hZ.below b125 hZ.lt
    replace g1 := g1.below b125 g1.lt
    replace g2 := g2.below b125 g2.lt
    go_wp2_with fail
    refine hK.out _ _ ?_ (fun hHeld => ?_)
    · exact ⟨hX.cell 0, hX.cell 1, hY.cell 0, hY.cell 1, hZ.cell 0, hZ.cell 1, g1.cell 0, g1.cell 1, g2.cell 0, g2.cell 1⟩
    clear hK K
    try simp only [Act.put, lay1, lay2, lay3, lay4, lay5, lay6]
    refine wpAnyH_ready (rs := [21]) (by kernel_rfl) (by simp) ?_
    refine AllReadyH.cons rfl (fun K hK => ?_) AllReadyH.nil
    go_simp
    refine (hNeg (x * y) _ _ r2).mono ?_
    rintro e w126 ⟨v126, rfl, q8, b126⟩
    replace hB := hB.trans (b126.mono hB.size)
    replace r1 := r1.below b126
    replace r2 := r2.below b126
    replace q7 := q7.below b126
    replace hX := hX.below b126 hX.lt
    replace hY := hY.below b126 hY.lt
    replace hZ := hZ.below b126 hZ.lt
    replace g1 := g1.below b126 g1.lt
    replace g2 := g2.below b126 g2.lt
    go_wp2_with fail
    refine hK.out _ _ ?_ (fun hHeld => ?_)
    · exact ⟨hX.cell 0, hX.cell 1, hY.cell 0, hY.cell 1, hZ.cell 0, hZ.cell 1, g1.cell 0, g1.cell 1, g2.cell 0, g2.cell 1⟩
    clear hK K
    try simp only [Act.put, lay1, lay2, lay3, lay4, lay5, lay6]
    refine wpAnyH_ready (rs := [22]) (by kernel_rfl) (by simp) ?_
    refine AllReadyH.cons rfl (fun K hK => ?_) AllReadyH.nil
    go_simp
    refine (hSame (-x * y) (-(x * y)) _ _ _ q7 q8 (Int.neg_mul x y)).mono ?_
    rintro e w127 ⟨rfl, b127⟩
    replace hB := hB.trans (b127.mono hB.size)
    replace r1 := r1.below b127
    replace r2 := r2.below b127
    replace hX := hX.below b127 hX.lt
    replace hY := hY.below b127 hY.lt
    replace hZ := hZ.below b127 hZ.lt
    replace g1 := g1.below b127 g1.lt
    replace g2 := g2.below b127 g2.lt
    go_wp2_with fail
    refine hK.out _ _ ?_ (fun hHeld => ?_)
    · exact ⟨hX.cell 0, hX.cell 1, hY.cell 0, hY.cell 1, hZ.cell 0, hZ.cell 1, g1.cell 0, g1.cell 1, g2.cell 0, g2.cell 1⟩
    clear hK K
    try simp only [Act.put, lay1, lay2, lay3, lay4, lay5, lay6]
    try dsimp only
    try simp only [Act.put, lay1, lay2, lay3, lay4, lay5, lay6]
    refine wpAnyH_take (i := 23) (v := ?rdv23) rfl (by kernel_rfl) (by kernel_rfl) (by kernel_rfl) (fun _ _ _ h => h) (Or.inl ⟨by kernel_rfl, ?rdhy23⟩) (by assumption) ?rdrest23
    case rdhy23 => (intro w hSw; (try dsimp only at hSw); go_simp; try (with_reducible rfl))
    try simp only [Act.put, lay1, lay2, lay3, lay4, lay5, lay6]
    try dsimp only
    try simp only [Act.put, lay1, lay2, lay3, lay4, lay5, lay6]
    refine wpAnyH_take (i := 24) (v := ?rdv24) rfl (by kernel_rfl) (by kernel_rfl) (by kernel_rfl) (fun _ _ _ h => h) (Or.inl ⟨by kernel_rfl, ?rdhy24⟩) (by assumption) ?rdrest24
    case rdhy24 => (intro w hSw; (try dsimp only at hSw); go_simp; try (with_reducible rfl))
    try simp only [Act.put, lay1, lay2, lay3, lay4, lay5, lay6]
    try dsimp only
    try simp only [Act.put, lay1, lay2, lay3, lay4, lay5, lay6]
    refine wpAnyH_done (by kernel_rfl) ?_ _
    refine NoPanic.normal ?_
    go_wp2
    go_ret
    exact ⟨rfl, hB⟩
theorem ZedRing_all (sg1 sg2 sg3 : Bool) (v1 v2 v3 : Value) (l1 l2 l3 : List Nat) (w : World) (h1 : IsL w v1 l1) (h2 : IsL w v2 l2) (h3 : IsL w v3 l3) (ht : TabOk w) :
    Calls Tryd.prog 3 #[.agg #[.bool sg1, v1], .agg #[.bool sg2, v2], .agg #[.bool sg3, v3]] w fun e w' => e = .returned (.bool true) ∧ Below w.heap.size w w' := by
  obtain ⟨B1, D1, rfl, _⟩ := id h1
  obtain ⟨B2, D2, rfl, _⟩ := id h2
  obtain ⟨B3, D3, rfl, _⟩ := id h3
  cases f1 : (decide (l1.length ≤ 6) && rightZ sg1 l1)
  · exact ZedRing_un1 sg1 sg2 sg3 B1 B2 B3 D1 D2 D3 l1 l2 l3 w h1 h2 h3 ht f1
  cases f2 : (decide (l2.length ≤ 6) && rightZ sg2 l2)
  · exact ZedRing_un2 sg1 sg2 sg3 B1 B2 B3 D1 D2 D3 l1 l2 l3 w h1 h2 h3 ht f1 f2
  cases f3 : (decide (l3.length ≤ 6) && rightZ sg3 l3)
  · exact ZedRing_un3 sg1 sg2 sg3 B1 B2 B3 D1 D2 D3 l1 l2 l3 w h1 h2 h3 ht f1 f2 f3
  exact ZedRing_main sg1 sg2 sg3 B1 B2 B3 D1 D2 D3 l1 l2 l3 w h1 h2 h3 ht f1 f2 f3
end Go.Proofs.YtooonjcpdbbniaaDoor
