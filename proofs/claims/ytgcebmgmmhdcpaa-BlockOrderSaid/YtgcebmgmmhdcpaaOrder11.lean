/- ORDER: of two numbers of one block that is packed the greater one has no lesser code, and is loaded as no less. No conditions: every input. Printed by gen_ord11.py. -/
import Derived.Test.YtgcebmgmmhdcpaaBlock5
import Derived.Deep.RegionHeld3
import Derived.Deep.DrawnRows
namespace Go.Proofs.Ytgcebmgmmhdcpaa
open Go.ChangeShapes Go.WideShapes Go.ChangeAt Go.RowKit
attribute [local go_sem ↓] Go.wp_at_zero Go.wp_at_succ
set_option maxHeartbeats 4000000 in
theorem BlockOrder_few (k : Int) (v : Value) (l : List Int) (a0 a1 : Int) (w : World) (h : IsI w v l) (hb : 20 < l.length) :
    Calls Try.prog 3 #[.int .i64 k, v, .agg #[.int .i64 a0, .int .i64 a1]] w fun e w' => e = .returned (.bool true) ∧ Below w.heap.size w w' := by
  obtain ⟨Aa, Ca, rfl, _, _⟩ := id h.form
  have hL := fun w => alive11_any w
  obtain ⟨W0, hW, hR, hB⟩ := box1 w 23 #[.int .i64 a0, .int .i64 a1]
  obtain ⟨g, hg⟩ : ∃ g, g = w.heap.size := ⟨_, rfl⟩
  have hW' := Lib.hid (And.intro hW hg)
  rw [← hg] at hR
  have hgw : w.heap.size ≤ g := by omega
  clear hW hg
  have hA := hR
  obtain ⟨c1_hA_0, c1_hA_1⟩ := hA.cells2
  go_enter Try.func3, Try.ntmps3
  go_wp2_with fail
  rw [← hW'.out.1, ← hW'.out.2]
  refine (hL _).mono ?_
  rintro e w1 ⟨rfl, b1⟩
  replace hA := hA.below b1 hA.lt
  replace hB := hB.trans (b1.mono hB.size)
  clear c1_hA_0 c1_hA_1
  obtain ⟨c2_hA_0, c2_hA_1⟩ := hA.cells2
  go_wp2
  go_ret
  exact ⟨rfl, hB⟩
set_option maxHeartbeats 4000000 in
theorem BlockOrder_a (k : Int) (v : Value) (l : List Int) (a0 a1 : Int) (w : World) (h : IsI w v l) (hl : ¬ 20 < l.length) (hb : a0 < 0) :
    Calls Try.prog 3 #[.int .i64 k, v, .agg #[.int .i64 a0, .int .i64 a1]] w fun e w' => e = .returned (.bool true) ∧ Below w.heap.size w w' := by
  obtain ⟨Aa, Ca, rfl, _, _⟩ := id h.form
  have hL := fun w => alive11_any w
  obtain ⟨W0, hW, hR, hB⟩ := box1 w 23 #[.int .i64 a0, .int .i64 a1]
  obtain ⟨g, hg⟩ : ∃ g, g = w.heap.size := ⟨_, rfl⟩
  have hW' := Lib.hid (And.intro hW hg)
  rw [← hg] at hR
  have hgw : w.heap.size ≤ g := by omega
  clear hW hg
  have hA := hR
  obtain ⟨c1_hA_0, c1_hA_1⟩ := hA.cells2
  go_enter Try.func3, Try.ntmps3
  go_wp2_with fail
  rw [← hW'.out.1, ← hW'.out.2]
  refine (hL _).mono ?_
  rintro e w1 ⟨rfl, b1⟩
  replace hA := hA.below b1 hA.lt
  replace hB := hB.trans (b1.mono hB.size)
  clear c1_hA_0 c1_hA_1
  obtain ⟨c2_hA_0, c2_hA_1⟩ := hA.cells2
  go_wp2
  go_ret
  exact ⟨rfl, hB⟩
set_option maxHeartbeats 4000000 in
theorem BlockOrder_b (k : Int) (v : Value) (l : List Int) (a0 a1 : Int) (w : World) (h : IsI w v l) (hl : ¬ 20 < l.length) (h0 : ¬ a0 < 0) (hb : (l.length : Int) ≤ a0) :
    Calls Try.prog 3 #[.int .i64 k, v, .agg #[.int .i64 a0, .int .i64 a1]] w fun e w' => e = .returned (.bool true) ∧ Below w.heap.size w w' := by
  obtain ⟨Aa, Ca, rfl, _, _⟩ := id h.form
  have hL := fun w => alive11_any w
  obtain ⟨W0, hW, hR, hB⟩ := box1 w 23 #[.int .i64 a0, .int .i64 a1]
  obtain ⟨g, hg⟩ : ∃ g, g = w.heap.size := ⟨_, rfl⟩
  have hW' := Lib.hid (And.intro hW hg)
  rw [← hg] at hR
  have hgw : w.heap.size ≤ g := by omega
  clear hW hg
  have hA := hR
  obtain ⟨c1_hA_0, c1_hA_1⟩ := hA.cells2
  go_enter Try.func3, Try.ntmps3
  go_wp2_with fail
  rw [← hW'.out.1, ← hW'.out.2]
  refine (hL _).mono ?_
  rintro e w1 ⟨rfl, b1⟩
  replace hA := hA.below b1 hA.lt
  replace hB := hB.trans (b1.mono hB.size)
  clear c1_hA_0 c1_hA_1
  obtain ⟨c2_hA_0, c2_hA_1⟩ := hA.cells2
  go_wp2
  go_ret
  exact ⟨rfl, hB⟩
set_option maxHeartbeats 4000000 in
theorem BlockOrder_c (k : Int) (v : Value) (l : List Int) (a0 a1 : Int) (w : World) (h : IsI w v l) (hl : ¬ 20 < l.length) (h0 : ¬ a0 < 0) (h1 : ¬ (l.length : Int) ≤ a0) (hb : a1 < 0) :
    Calls Try.prog 3 #[.int .i64 k, v, .agg #[.int .i64 a0, .int .i64 a1]] w fun e w' => e = .returned (.bool true) ∧ Below w.heap.size w w' := by
  obtain ⟨Aa, Ca, rfl, _, _⟩ := id h.form
  have hL := fun w => alive11_any w
  obtain ⟨W0, hW, hR, hB⟩ := box1 w 23 #[.int .i64 a0, .int .i64 a1]
  obtain ⟨g, hg⟩ : ∃ g, g = w.heap.size := ⟨_, rfl⟩
  have hW' := Lib.hid (And.intro hW hg)
  rw [← hg] at hR
  have hgw : w.heap.size ≤ g := by omega
  clear hW hg
  have hA := hR
  obtain ⟨c1_hA_0, c1_hA_1⟩ := hA.cells2
  go_enter Try.func3, Try.ntmps3
  go_wp2_with fail
  rw [← hW'.out.1, ← hW'.out.2]
  refine (hL _).mono ?_
  rintro e w1 ⟨rfl, b1⟩
  replace hA := hA.below b1 hA.lt
  replace hB := hB.trans (b1.mono hB.size)
  clear c1_hA_0 c1_hA_1
  obtain ⟨c2_hA_0, c2_hA_1⟩ := hA.cells2
  go_wp2
  go_ret
  exact ⟨rfl, hB⟩
set_option maxHeartbeats 4000000 in
theorem BlockOrder_d (k : Int) (v : Value) (l : List Int) (a0 a1 : Int) (w : World) (h : IsI w v l) (hl : ¬ 20 < l.length) (h0 : ¬ a0 < 0) (h1 : ¬ (l.length : Int) ≤ a0) (h2 : ¬ a1 < 0) (hb : (l.length : Int) ≤ a1) :
    Calls Try.prog 3 #[.int .i64 k, v, .agg #[.int .i64 a0, .int .i64 a1]] w fun e w' => e = .returned (.bool true) ∧ Below w.heap.size w w' := by
  obtain ⟨Aa, Ca, rfl, _, _⟩ := id h.form
  have hL := fun w => alive11_any w
  obtain ⟨W0, hW, hR, hB⟩ := box1 w 23 #[.int .i64 a0, .int .i64 a1]
  obtain ⟨g, hg⟩ : ∃ g, g = w.heap.size := ⟨_, rfl⟩
  have hW' := Lib.hid (And.intro hW hg)
  rw [← hg] at hR
  have hgw : w.heap.size ≤ g := by omega
  clear hW hg
  have hA := hR
  obtain ⟨c1_hA_0, c1_hA_1⟩ := hA.cells2
  go_enter Try.func3, Try.ntmps3
  go_wp2_with fail
  rw [← hW'.out.1, ← hW'.out.2]
  refine (hL _).mono ?_
  rintro e w1 ⟨rfl, b1⟩
  replace hA := hA.below b1 hA.lt
  replace hB := hB.trans (b1.mono hB.size)
  clear c1_hA_0 c1_hA_1
  obtain ⟨c2_hA_0, c2_hA_1⟩ := hA.cells2
  go_wp2
  go_ret
  exact ⟨rfl, hB⟩
set_option maxRecDepth 100000 in
set_option maxHeartbeats 4000000 in
theorem BlockOrder_no (k : Int) (v : Value) (l : List Int) (i j : Nat) (w : World) (h : IsI w v l) (hl : l.length ≤ 20) (hi : i < l.length) (hj : j < l.length) (iL : ∀ x ∈ l, I64 x) (hP : ∀ w, IsI w v l → Calls Try.prog 6 #[.int .i64 k, v] w fun e w' => ∃ b, e = .returned (.tuple #[b, .int .i64 1]) ∧ IsBk w' b 0 0 [] [] ∧ Below w.heap.size w w') :
    Calls Try.prog 3 #[.int .i64 k, v, .agg #[.int .i64 i, .int .i64 j]] w fun e w' => e = .returned (.bool true) ∧ Below w.heap.size w w' := by
  obtain ⟨Aa, Ca, rfl, _, _⟩ := id h.form
  have hL := fun w => alive11_any w
  have hl' : ¬ 20 < l.length := by omega
  have i0 : (0 : Int) ≤ (i : Int) := by omega
  have j0 : (0 : Int) ≤ (j : Int) := by omega
  have i1 : (i : Int) < (l.length : Int) := by omega
  have j1 : (j : Int) < (l.length : Int) := by omega
  have i2 : ¬ (l.length : Int) ≤ (i : Int) := by omega
  have j2 : ¬ (l.length : Int) ≤ (j : Int) := by omega
  have i3 : ¬ (i : Int) < 0 := by omega
  have j3 : ¬ (j : Int) < 0 := by omega
  obtain ⟨W0, hW, hR, hB⟩ := box1 w 23 #[.int .i64 i, .int .i64 j]
  obtain ⟨g, hg⟩ : ∃ g, g = w.heap.size := ⟨_, rfl⟩
  have hW' := Lib.hid (And.intro hW hg)
  rw [← hg] at hR
  have hgw : w.heap.size ≤ g := by omega
  clear hW hg
  have hA := hR
  replace h := h.below hB
  obtain ⟨c1_hA_0, c1_hA_1⟩ := hA.cells2
  go_enter Try.func3, Try.ntmps3
  go_wp2_with fail
  rw [← hW'.out.1, ← hW'.out.2]
  refine (hP _ h).mono ?_
  rintro e w1 ⟨b1, rfl, ⟨bc, bw, rfl, hy1, hw1⟩, b1⟩
  replace h := h.below b1
  replace hA := hA.below b1 hA.lt
  replace hB := hB.trans (b1.mono hB.size)
  clear c1_hA_0 c1_hA_1
  obtain ⟨c2_hA_0, c2_hA_1⟩ := hA.cells2
  obtain ⟨Ac, Cc, rfl, _, _⟩ := hy1.form
  obtain ⟨Aw, Cw, rfl, _, _⟩ := hw1.form
  clear hy1 hw1
  obtain ⟨V1, eV, hb, bV1⟩ := box1 w1 27 #[.int .i64 0, .int .i64 0, .slice Ac 0 Cc, .slice Aw 0 Cw]
  obtain ⟨X1, eX⟩ : ∃ X, X = w1.heap.size := ⟨_, rfl⟩
  rw [← eX] at hb
  have EV1 := Lib.hid (And.intro eV eX)
  clear eV eX
  go_upto_region 4 with fail
  rw [← EV1.out.1, ← EV1.out.2]
  replace h := h.below bV1
  replace hA := hA.below bV1 hA.lt
  replace hB := hB.trans (bV1.mono hB.size)
  clear c2_hA_0 c2_hA_1
  obtain ⟨c3_hA_0, c3_hA_1⟩ := hA.cells2
  clear c3_hA_0 c3_hA_1
  obtain ⟨c4_hA_0, c4_hA_1⟩ := hA.cells2
  obtain ⟨c4_hb_0, c4_hb_1, c4_hb_2, c4_hb_3⟩ := hb.quad
  go_region
  replace hB := hB.drew
  go_wp2_with fail
  refine (hL _).mono ?_
  rintro e w2 ⟨rfl, b2⟩
  replace hB := hB.trans (b2.mono hB.size)
  clear c4_hA_0 c4_hA_1 c4_hb_0 c4_hb_1 c4_hb_2 c4_hb_3
  go_wp2
  go_ret
  exact ⟨rfl, hB⟩
set_option maxRecDepth 100000 in
set_option maxHeartbeats 8000000 in
theorem BlockOrder_wide (v : Value) (l : List Int) (i j : Nat) (w : World) (h : IsI w v l) (hl : l.length ≤ 20) (hi : i < l.length) (hj : j < l.length) (iL : ∀ x ∈ l, I64 x) (ho : l.any (oddB true) = false) :
    Calls Try.prog 3 #[.int .i64 4, v, .agg #[.int .i64 i, .int .i64 j]] w fun e w' => e = .returned (.bool true) ∧ Below w.heap.size w w' := by
  obtain ⟨Aa, Ca, rfl, _, _⟩ := id h.form
  have hL := fun w => alive11_any w
  have hl' : ¬ 20 < l.length := by omega
  have i0 : (0 : Int) ≤ (i : Int) := by omega
  have j0 : (0 : Int) ≤ (j : Int) := by omega
  have i1 : (i : Int) < (l.length : Int) := by omega
  have j1 : (j : Int) < (l.length : Int) := by omega
  have i2 : ¬ (l.length : Int) ≤ (i : Int) := by omega
  have j2 : ¬ (l.length : Int) ≤ (j : Int) := by omega
  have i3 : ¬ (i : Int) < 0 := by omega
  have j3 : ¬ (j : Int) < 0 := by omega
  have hP := fun w h => pack_wide 4 (.slice Aa l.length Ca) l w h rfl (by omega) ho
  have hLd := fun v w h => load_wide v 4 0 [] l w h rfl (by omega)
  have hord : iat l i ≤ iat l j → iat l i ≤ iat l j := id
  have HL9i := hi
  have HL9j := hj
  obtain ⟨W0, hW, hR, hB⟩ := box1 w 23 #[.int .i64 i, .int .i64 j]
  obtain ⟨g, hg⟩ : ∃ g, g = w.heap.size := ⟨_, rfl⟩
  have hW' := Lib.hid (And.intro hW hg)
  rw [← hg] at hR
  have hgw : w.heap.size ≤ g := by omega
  clear hW hg
  have hA := hR
  replace h := h.below hB
  obtain ⟨c1_hA_0, c1_hA_1⟩ := hA.cells2
  go_enter Try.func3, Try.ntmps3
  go_wp2_with fail
  rw [← hW'.out.1, ← hW'.out.2]
  refine (hP _ h).mono ?_
  rintro e w1 ⟨b1, rfl, ⟨bc, bw, rfl, hy, hw⟩, b1⟩
  replace h := h.below b1
  replace hA := hA.below b1 hA.lt
  replace hB := hB.trans (b1.mono hB.size)
  clear c1_hA_0 c1_hA_1
  obtain ⟨c2_hA_0, c2_hA_1⟩ := hA.cells2
  obtain ⟨Ac, Cc, rfl, _, _⟩ := id hy.form
  obtain ⟨Aw, Cw, rfl, _, _⟩ := id hw.form
  obtain ⟨V1, eV, hb, bV1⟩ := box1 w1 27 #[.int .i64 4, .int .i64 0, .slice Ac 0 Cc, .slice Aw l.length Cw]
  obtain ⟨X1, eX⟩ : ∃ X, X = w1.heap.size := ⟨_, rfl⟩
  rw [← eX] at hb
  have EV1 := Lib.hid (And.intro eV eX)
  clear eV eX
  go_upto_region 4 with fail
  rw [← EV1.out.1, ← EV1.out.2]
  replace h := h.below bV1
  replace hA := hA.below bV1 hA.lt
  replace hy := hy.below bV1
  replace hw := hw.below bV1
  replace hB := hB.trans (bV1.mono hB.size)
  clear c2_hA_0 c2_hA_1
  obtain ⟨c3_hA_0, c3_hA_1⟩ := hA.cells2
  clear c3_hA_0 c3_hA_1
  obtain ⟨c4_hA_0, c4_hA_1⟩ := hA.cells2
  obtain ⟨c4_hb_0, c4_hb_1, c4_hb_2, c4_hb_3⟩ := hb.quad
  obtain ⟨ad, rfl, ci⟩ := h.at_ hi
  obtain ⟨_, e5, cj⟩ := h.at_ hj
  cases e5
  have hle := hord
  generalize Hi0 : iat l i = x at *
  generalize Hj0 : iat l j = y at *
  have Hi := Lib.hid Hi0
  have Hj := Lib.hid Hj0
  clear Hi0 Hj0
  rcases Int.lt_or_le y x with hgt | hle2
  · have hgt1 : decide (y < x) = true := decide_eq_true hgt
    clear hle
    go_region
    replace hB := hB.drew
    go_wp2_with fail
    refine (hL _).mono ?_
    rintro e w2 ⟨rfl, b2⟩
    replace hB := hB.trans (b2.mono hB.size)
    clear c4_hA_0 c4_hA_1 c4_hb_0 c4_hb_1 c4_hb_2 c4_hb_3
    go_wp2
    go_ret
    exact ⟨rfl, hB⟩
  · have hgt1 : decide (y < x) = false := decide_eq_false (by omega)
    have hgt2 : ¬ y < x := by omega
    go_region
    obtain ⟨wd, hwd⟩ : ∃ wd, wd = V1.drew := ⟨_, rfl⟩
    have bd : Below V1.heap.size V1 wd := by rw [hwd]; exact bdrew _
    have HWD := Lib.hid hwd
    clear hwd
    replace h := h.below bd
    replace hA := hA.below bd hA.lt
    replace hy := hy.below bd
    replace hw := hw.below bd
    replace hb := hb.below bd hb.lt
    replace hB := hB.trans (bd.mono hB.size)
    obtain ⟨c5_hA_0, c5_hA_1⟩ := hA.cells2
    obtain ⟨c5_hb_0, c5_hb_1, c5_hb_2, c5_hb_3⟩ := hb.quad
    go_wp2_with fail
    rw [← HWD.out]
    refine (hLd _ _ ⟨_, _, rfl, hy, hw⟩).mono ?_
    rintro e w2 ⟨v9, rfl, h9, b2⟩
    replace h := h.below b2
    replace hA := hA.below b2 hA.lt
    replace hy := hy.below b2
    replace hw := hw.below b2
    replace hb := hb.below b2 hb.lt
    replace hB := hB.trans (b2.mono hB.size)
    clear c4_hA_0 c4_hA_1 c4_hb_0 c4_hb_1 c4_hb_2 c4_hb_3 c5_hA_0 c5_hA_1 c5_hb_0 c5_hb_1 c5_hb_2 c5_hb_3
    obtain ⟨c6_hA_0, c6_hA_1⟩ := hA.cells2
    obtain ⟨c6_hb_0, c6_hb_1, c6_hb_2, c6_hb_3⟩ := hb.quad
    obtain ⟨A9, C9, rfl, _, _⟩ := id h9.form
    obtain ⟨ad9, rfl, di⟩ := h9.at_ (k := i) HL9i
    obtain ⟨_, e5, dj⟩ := h9.at_ (k := j) HL9j
    cases e5
    rw [Hi.out] at di
    rw [Hj.out] at dj
    have hle3 : decide (x ≤ y) = true := decide_eq_true hle2
    obtain ⟨q0, q1⟩ := hA.cells2
    obtain ⟨r0, r1, r2, r3⟩ := hb.quad
    go_upto_region 9 with fail
    refine wp_region_noPanic ?_
    refine wp_region_held_drew (S := fun w' => w'.cell? ⟨g, 0, none⟩ = some (.int .i64 i) ∧ w'.cell? ⟨g, 1, none⟩ = some (.int .i64 j) ∧ w'.cell? (ad9.add i) = some (.int .i64 x) ∧ w'.cell? (ad9.add j) = some (.int .i64 y)) (by kernel_rfl) ?_ (fun hHeld => ?_)
    · exact ⟨cellB (by first | assumption | exact bdrew _ | exact Below.refl _ _ | exact balloc (bdrew _) _ | exact balloc (by assumption) _ | exact balloc (Below.refl _ _) _ | exact bset (bset (by assumption) (by first | assumption | exact Nat.le_refl _) _) (by first | assumption | exact Nat.le_refl _) _) q0, cellB (by first | assumption | exact bdrew _ | exact Below.refl _ _ | exact balloc (bdrew _) _ | exact balloc (by assumption) _ | exact balloc (Below.refl _ _) _ | exact bset (bset (by assumption) (by first | assumption | exact Nat.le_refl _) _) (by first | assumption | exact Nat.le_refl _) _) q1, cellB (by first | assumption | exact bdrew _ | exact Below.refl _ _ | exact balloc (bdrew _) _ | exact balloc (by assumption) _ | exact balloc (Below.refl _ _) _ | exact bset (bset (by assumption) (by first | assumption | exact Nat.le_refl _) _) (by first | assumption | exact Nat.le_refl _) _) di, cellB (by first | assumption | exact bdrew _ | exact Below.refl _ _ | exact balloc (bdrew _) _ | exact balloc (by assumption) _ | exact balloc (Below.refl _ _) _ | exact bset (bset (by assumption) (by first | assumption | exact Nat.le_refl _) _) (by first | assumption | exact Nat.le_refl _) _) dj⟩
    refine wpAnyH_ready (rs := [0]) (by kernel_rfl) (by simp) ?_
    refine AllReadyH.cons rfl (fun K hK => ?_) AllReadyH.nil
    go_simp
    refine (hL _).mono ?_
    rintro e w8 ⟨rfl, b8⟩
    have B8 := bstep (a := w2) (by first | assumption | exact bdrew _ | exact Below.refl _ _ | exact balloc (bdrew _) _ | exact balloc (by assumption) _ | exact balloc (Below.refl _ _) _ | exact bset (bset (by assumption) (by first | assumption | exact Nat.le_refl _) _) (by first | assumption | exact Nat.le_refl _) _) b8
    go_wp2_with fail
    refine hK.out _ _ ?_ (fun hHeld => ?_)
    · exact ⟨cellB (by first | assumption | exact bdrew _ | exact Below.refl _ _ | exact balloc (bdrew _) _ | exact balloc (by assumption) _ | exact balloc (Below.refl _ _) _ | exact bset (bset (by assumption) (by first | assumption | exact Nat.le_refl _) _) (by first | assumption | exact Nat.le_refl _) _) q0, cellB (by first | assumption | exact bdrew _ | exact Below.refl _ _ | exact balloc (bdrew _) _ | exact balloc (by assumption) _ | exact balloc (Below.refl _ _) _ | exact bset (bset (by assumption) (by first | assumption | exact Nat.le_refl _) _) (by first | assumption | exact Nat.le_refl _) _) q1, cellB (by first | assumption | exact bdrew _ | exact Below.refl _ _ | exact balloc (bdrew _) _ | exact balloc (by assumption) _ | exact balloc (Below.refl _ _) _ | exact bset (bset (by assumption) (by first | assumption | exact Nat.le_refl _) _) (by first | assumption | exact Nat.le_refl _) _) di, cellB (by first | assumption | exact bdrew _ | exact Below.refl _ _ | exact balloc (bdrew _) _ | exact balloc (by assumption) _ | exact balloc (Below.refl _ _) _ | exact bset (bset (by assumption) (by first | assumption | exact Nat.le_refl _) _) (by first | assumption | exact Nat.le_refl _) _) dj⟩
    clear hK K
    try simp only [Act.put]
    refine wpAnyH_take (i := 1) (v := ?wv1) rfl (by kernel_rfl) (by kernel_rfl) (by kernel_rfl) (fun _ _ _ h => h) (Or.inl ⟨by kernel_rfl, ?why1⟩) (by assumption) ?wrest1
    case why1 => (intro w hSw; (try dsimp only at hSw); go_simp; try (with_reducible rfl))
    try simp only [Act.put]
    refine wpAnyH_take (i := 2) (v := ?wv2) rfl (by kernel_rfl) (by kernel_rfl) (by kernel_rfl) (fun _ _ _ h => h) (Or.inl ⟨by kernel_rfl, ?why2⟩) (by assumption) ?wrest2
    case why2 => (intro w hSw; (try dsimp only at hSw); go_simp; try (with_reducible rfl))
    try simp only [Act.put]
    refine wpAnyH_take (i := 3) (v := ?wv3) rfl (by kernel_rfl) (by kernel_rfl) (by kernel_rfl) (fun _ _ _ h => h) (Or.inl ⟨by kernel_rfl, ?why3⟩) (by assumption) ?wrest3
    case why3 => (intro w hSw; (try dsimp only at hSw); go_simp; try (with_reducible rfl))
    try simp only [Act.put]
    refine wpAnyH_take (i := 4) (v := ?wv4) rfl (by kernel_rfl) (by kernel_rfl) (by kernel_rfl) (fun _ _ _ h => h) (Or.inl ⟨by kernel_rfl, ?why4⟩) (by assumption) ?wrest4
    case why4 => (intro w hSw; (try dsimp only at hSw); go_simp; try (with_reducible rfl))
    try simp only [Act.put]
    refine wpAnyH_take (i := 5) (v := ?wv5) rfl (by kernel_rfl) (by kernel_rfl) (by kernel_rfl) (fun _ _ _ h => h) (Or.inl ⟨by kernel_rfl, ?why5⟩) (by assumption) ?wrest5
    case why5 => (intro w hSw; (try dsimp only at hSw); go_simp; try (with_reducible rfl))
    try simp only [Act.put]
    refine wpAnyH_take (i := 6) (v := ?wv6) rfl (by kernel_rfl) (by kernel_rfl) (by kernel_rfl) (fun _ _ _ h => h) (Or.inl ⟨by kernel_rfl, ?why6⟩) (by assumption) ?wrest6
    case why6 => (intro w hSw; (try dsimp only at hSw); go_simp; try (with_reducible rfl))
    try simp only [Act.put]
    refine wpAnyH_take (i := 7) (v := ?wv7) rfl (by kernel_rfl) (by kernel_rfl) (by kernel_rfl) (fun _ _ _ h => h) (Or.inl ⟨by kernel_rfl, ?why7⟩) (by assumption) ?wrest7
    case why7 => (intro w hSw; (try dsimp only at hSw); go_simp; try (with_reducible rfl))
    try simp only [Act.put]
    refine wpAnyH_take (i := 8) (v := ?wv8) rfl (by kernel_rfl) (by kernel_rfl) (by kernel_rfl) (fun _ _ _ h => h) (Or.inl ⟨by kernel_rfl, ?why8⟩) (by assumption) ?wrest8
    case why8 => (intro w hSw; (try dsimp only at hSw); go_simp; try (with_reducible rfl))
    try simp only [Act.put]
    refine wpAnyH_take (i := 9) (v := ?wv9) rfl (by kernel_rfl) (by kernel_rfl) (by kernel_rfl) (fun _ _ _ h => h) (Or.inl ⟨by kernel_rfl, ?why9⟩) (by assumption) ?wrest9
    case why9 => (intro w hSw; (try dsimp only at hSw); go_simp; try (with_reducible rfl))
    try simp only [Act.put]
    refine wpAnyH_take (i := 10) (v := ?wv10) rfl (by kernel_rfl) (by kernel_rfl) (by kernel_rfl) (fun _ _ _ h => h) (Or.inl ⟨by kernel_rfl, ?why10⟩) (by assumption) ?wrest10
    case why10 => (intro w hSw; (try dsimp only at hSw); go_simp; try (with_reducible rfl))
    try simp only [Act.put]
    refine wpAnyH_take (i := 11) (v := ?wv11) rfl (by kernel_rfl) (by kernel_rfl) (by kernel_rfl) (fun _ _ _ h => h) (Or.inl ⟨by kernel_rfl, ?why11⟩) (by assumption) ?wrest11
    case why11 => (intro w hSw; (try dsimp only at hSw); go_simp; try (with_reducible rfl))
    try simp only [Act.put]
    refine wpAnyH_take (i := 12) (v := ?wv12) rfl (by kernel_rfl) (by kernel_rfl) (by kernel_rfl) (fun _ _ _ h => h) (Or.inl ⟨by kernel_rfl, ?why12⟩) (by assumption) ?wrest12
    case why12 => (intro w hSw; (try dsimp only at hSw); go_simp; try (with_reducible rfl))
    try simp only [Act.put]
    refine wpAnyH_take (i := 13) (v := ?wv13) rfl (by kernel_rfl) (by kernel_rfl) (by kernel_rfl) (fun _ _ _ h => h) (Or.inl ⟨by kernel_rfl, ?why13⟩) (by assumption) ?wrest13
    case why13 => (intro w hSw; (try dsimp only at hSw); go_simp; try (with_reducible rfl))
    try simp only [Act.put]
    refine wpAnyH_take (i := 14) (v := ?wv14) rfl (by kernel_rfl) (by kernel_rfl) (by kernel_rfl) (fun _ _ _ h => h) (Or.inl ⟨by kernel_rfl, ?why14⟩) (by assumption) ?wrest14
    case why14 => (intro w hSw; (try dsimp only at hSw); go_simp; try (with_reducible rfl))
    try simp only [Act.put]
    refine wpAnyH_take (i := 15) (v := ?wv15) rfl (by kernel_rfl) (by kernel_rfl) (by kernel_rfl) (fun _ _ _ h => h) (Or.inl ⟨by kernel_rfl, ?why15⟩) (by assumption) ?wrest15
    case why15 => (intro w hSw; (try dsimp only at hSw); go_simp; try (with_reducible rfl))
    try simp only [Act.put]
    refine wpAnyH_take (i := 16) (v := ?wv16) rfl (by kernel_rfl) (by kernel_rfl) (by kernel_rfl) (fun _ _ _ h => h) (Or.inl ⟨by kernel_rfl, ?why16⟩) (by assumption) ?wrest16
    case why16 => (intro w hSw; (try dsimp only at hSw); go_simp; try (with_reducible rfl))
    try simp only [Act.put]
    refine wpAnyH_take (i := 17) (v := ?wv17) rfl (by kernel_rfl) (by kernel_rfl) (by kernel_rfl) (fun _ _ _ h => h) (Or.inl ⟨by kernel_rfl, ?why17⟩) (by assumption) ?wrest17
    case why17 => (intro w hSw; (try dsimp only at hSw); go_simp; try (with_reducible rfl))
    try simp only [Act.put]
    refine wpAnyH_take (i := 18) (v := undef) rfl (by kernel_rfl) (by kernel_rfl) (by kernel_rfl) (fun _ _ _ h => h) (Or.inr ⟨by kernel_rfl, rfl⟩) (by assumption) ?_
    try simp only [Act.put]
    refine wpAnyH_take (i := 19) (v := undef) rfl (by kernel_rfl) (by kernel_rfl) (by kernel_rfl) (fun _ _ _ h => h) (Or.inr ⟨by kernel_rfl, rfl⟩) (by assumption) ?_
    try simp only [Act.put]
    refine wpAnyH_take (i := 20) (v := undef) rfl (by kernel_rfl) (by kernel_rfl) (by kernel_rfl) (fun _ _ _ h => h) (Or.inr ⟨by kernel_rfl, rfl⟩) (by assumption) ?_
    try simp only [Act.put]
    refine wpAnyH_take (i := 21) (v := undef) rfl (by kernel_rfl) (by kernel_rfl) (by kernel_rfl) (fun _ _ _ h => h) (Or.inr ⟨by kernel_rfl, rfl⟩) (by assumption) ?_
    try simp only [Act.put]
    refine wpAnyH_take (i := 22) (v := undef) rfl (by kernel_rfl) (by kernel_rfl) (by kernel_rfl) (fun _ _ _ h => h) (Or.inr ⟨by kernel_rfl, rfl⟩) (by assumption) ?_
    try simp only [Act.put]
    refine wpAnyH_take (i := 23) (v := undef) rfl (by kernel_rfl) (by kernel_rfl) (by kernel_rfl) (fun _ _ _ h => h) (Or.inr ⟨by kernel_rfl, rfl⟩) (by assumption) ?_
    try simp only [Act.put]
    refine wpAnyH_take (i := 24) (v := undef) rfl (by kernel_rfl) (by kernel_rfl) (by kernel_rfl) (fun _ _ _ h => h) (Or.inr ⟨by kernel_rfl, rfl⟩) (by assumption) ?_
    try simp only [Act.put]
    refine wpAnyH_take (i := 25) (v := undef) rfl (by kernel_rfl) (by kernel_rfl) (by kernel_rfl) (fun _ _ _ h => h) (Or.inr ⟨by kernel_rfl, rfl⟩) (by assumption) ?_
    try simp only [Act.put]
    refine wpAnyH_take (i := 26) (v := undef) rfl (by kernel_rfl) (by kernel_rfl) (by kernel_rfl) (fun _ _ _ h => h) (Or.inr ⟨by kernel_rfl, rfl⟩) (by assumption) ?_
    try simp only [Act.put]
    refine wpAnyH_take (i := 27) (v := undef) rfl (by kernel_rfl) (by kernel_rfl) (by kernel_rfl) (fun _ _ _ h => h) (Or.inr ⟨by kernel_rfl, rfl⟩) (by assumption) ?_
    try simp only [Act.put]
    refine wpAnyH_take (i := 28) (v := undef) rfl (by kernel_rfl) (by kernel_rfl) (by kernel_rfl) (fun _ _ _ h => h) (Or.inr ⟨by kernel_rfl, rfl⟩) (by assumption) ?_
    try simp only [Act.put]
    refine wpAnyH_take (i := 29) (v := undef) rfl (by kernel_rfl) (by kernel_rfl) (by kernel_rfl) (fun _ _ _ h => h) (Or.inr ⟨by kernel_rfl, rfl⟩) (by assumption) ?_
    try simp only [Act.put]
    refine wpAnyH_take (i := 30) (v := undef) rfl (by kernel_rfl) (by kernel_rfl) (by kernel_rfl) (fun _ _ _ h => h) (Or.inr ⟨by kernel_rfl, rfl⟩) (by assumption) ?_
    try simp only [Act.put]
    refine wpAnyH_take (i := 31) (v := undef) rfl (by kernel_rfl) (by kernel_rfl) (by kernel_rfl) (fun _ _ _ h => h) (Or.inr ⟨by kernel_rfl, rfl⟩) (by assumption) ?_
    try simp only [Act.put]
    refine wpAnyH_take (i := 32) (v := undef) rfl (by kernel_rfl) (by kernel_rfl) (by kernel_rfl) (fun _ _ _ h => h) (Or.inr ⟨by kernel_rfl, rfl⟩) (by assumption) ?_
    try simp only [Act.put]
    refine wpAnyH_take (i := 33) (v := undef) rfl (by kernel_rfl) (by kernel_rfl) (by kernel_rfl) (fun _ _ _ h => h) (Or.inr ⟨by kernel_rfl, rfl⟩) (by assumption) ?_
    try simp only [Act.put]
    refine wpAnyH_take (i := 34) (v := undef) rfl (by kernel_rfl) (by kernel_rfl) (by kernel_rfl) (fun _ _ _ h => h) (Or.inr ⟨by kernel_rfl, rfl⟩) (by assumption) ?_
    try simp only [Act.put]
    refine wpAnyH_take (i := 35) (v := undef) rfl (by kernel_rfl) (by kernel_rfl) (by kernel_rfl) (fun _ _ _ h => h) (Or.inr ⟨by kernel_rfl, rfl⟩) (by assumption) ?_
    try simp only [Act.put]
    refine wpAnyH_take (i := 36) (v := undef) rfl (by kernel_rfl) (by kernel_rfl) (by kernel_rfl) (fun _ _ _ h => h) (Or.inr ⟨by kernel_rfl, rfl⟩) (by assumption) ?_
    try simp only [Act.put]
    refine wpAnyH_take (i := 37) (v := undef) rfl (by kernel_rfl) (by kernel_rfl) (by kernel_rfl) (fun _ _ _ h => h) (Or.inr ⟨by kernel_rfl, rfl⟩) (by assumption) ?_
    try simp only [Act.put]
    refine wpAnyH_take (i := 38) (v := undef) rfl (by kernel_rfl) (by kernel_rfl) (by kernel_rfl) (fun _ _ _ h => h) (Or.inr ⟨by kernel_rfl, rfl⟩) (by assumption) ?_
    try simp only [Act.put]
    refine wpAnyH_take (i := 39) (v := ?wv39) rfl (by kernel_rfl) (by kernel_rfl) (by kernel_rfl) (fun _ _ _ h => h) (Or.inl ⟨by kernel_rfl, ?why39⟩) (by assumption) ?wrest39
    case why39 => (intro w hSw; (try dsimp only at hSw); go_simp; try (with_reducible rfl))
    try simp only [Act.put]
    try dsimp only
    try simp only [Act.put]
    refine wpAnyH_take (i := 40) (v := ?wv40) rfl (by kernel_rfl) (by kernel_rfl) (by kernel_rfl) (fun _ _ _ h => h) (Or.inl ⟨by kernel_rfl, ?why40⟩) (by assumption) ?wrest40
    case why40 => (intro w hSw; (try dsimp only at hSw); go_simp; try (with_reducible rfl))
    try simp only [Act.put]
    try dsimp only
    try simp only [Act.put]
    refine wpAnyH_take (i := 41) (v := ?wv41) rfl (by kernel_rfl) (by kernel_rfl) (by kernel_rfl) (fun _ _ _ h => h) (Or.inl ⟨by kernel_rfl, ?why41⟩) (by assumption) ?wrest41
    case why41 => (intro w hSw; (try dsimp only at hSw); go_simp; try (with_reducible rfl))
    try simp only [Act.put]
    try dsimp only
    try simp only [Act.put]
    refine wpAnyH_done (by kernel_rfl) ?_ _
    refine NoPanic.normal ?_
    go_wp2
    go_ret
    rename_i a1_ d1_ e1_ a2_ d2_ e2_
    obtain rfl : 6 = d1_ := Option.some.inj e1_
    obtain rfl : 107 = d2_ := Option.some.inj e2_
    exact ⟨by first | rfl | (simp; done) | (simp [*]; done), hB.trans (B8.mono hB.size)⟩
set_option maxRecDepth 100000 in
set_option maxHeartbeats 8000000 in
theorem BlockOrder_coded (n : Nat) (hn : n < 4) (v : Value) (l : List Int) (i j : Nat) (w : World) (h : IsI w v l) (hl : l.length ≤ 20) (hi : i < l.length) (hj : j < l.length) (iL : ∀ x ∈ l, I64 x) (ho : l.any (oddB (sgn (n : Nat))) = false) :
    Calls Try.prog 3 #[.int .i64 n, v, .agg #[.int .i64 i, .int .i64 j]] w fun e w' => e = .returned (.bool true) ∧ Below w.heap.size w w' := by
  obtain ⟨Aa, Ca, rfl, _, _⟩ := id h.form
  have hL := fun w => alive11_any w
  have hl' : ¬ 20 < l.length := by omega
  have i0 : (0 : Int) ≤ (i : Int) := by omega
  have j0 : (0 : Int) ≤ (j : Int) := by omega
  have i1 : (i : Int) < (l.length : Int) := by omega
  have j1 : (j : Int) < (l.length : Int) := by omega
  have i2 : ¬ (l.length : Int) ≤ (i : Int) := by omega
  have j2 : ¬ (l.length : Int) ≤ (j : Int) := by omega
  have i3 : ¬ (i : Int) < 0 := by omega
  have j3 : ¬ (j : Int) < 0 := by omega
  have hP := fun w h => pack_coded n (.slice Aa l.length Ca) l w h n hn rfl (by omega) iL ho
  have hmin : ∀ x ∈ l, x ≠ -9223372036854775808 := fun x hx e => by
    have : l.any (oddB (sgn (n : Nat))) = true := List.any_eq_true.2 ⟨x, hx, by unfold oddB; simp [e]⟩
    rw [ho] at this; cases this
  have hLd := fun v w h => load_coded v n (great l) (packC n l) [] w h hn (great_nonneg l) (great_in iL hmin) (by rw [packC_len]; omega)
  have hord : iat l i ≤ iat l j → yat (packC n l) i ≤ yat (packC n l) j ∧ iat (loadC n (great l) (packC n l)) i ≤ iat (loadC n (great l) (packC n l)) j := fun hle => by
    have := order_loaded hn ho (iat_mem hi) (iat_mem hj) hle
    have e : ∀ t, t < l.length → yat (packC n l) t = codeOf n (iat l t) (max (great l) 1) ∧ iat (loadC n (great l) (packC n l)) t = loadZ n (great l) (codeOf n (iat l t) (max (great l) 1)) := fun t ht => by
      unfold packC loadC yat iat; simp [ht]
    rw [(e i hi).1, (e i hi).2, (e j hj).1, (e j hj).2]
    exact this
  have lK : (packC n l).length = l.length := packC_len _ _
  have lM : (loadC n (great l) (packC n l)).length = l.length := by unfold loadC; rw [List.length_map, packC_len]
  generalize loadC n (great l) (packC n l) = M at *
  generalize packC n l = K at *
  generalize great l = s at *
  have HL9i : i < M.length := by omega
  have HL9j : j < M.length := by omega
  have HY9i : i < K.length := by omega
  have HY9j : j < K.length := by omega
  have LK := Lib.hid lK
  have LM := Lib.hid lM
  have hk4 : ((n : Int) == 4) = false := by rw [beq_eq_false_iff_ne]; omega
  have hk5 : decide ((n : Int) = 4) = false := decide_eq_false (by omega)
  clear lK lM hmin ho iL
  obtain ⟨W0, hW, hR, hB⟩ := box1 w 23 #[.int .i64 i, .int .i64 j]
  obtain ⟨g, hg⟩ : ∃ g, g = w.heap.size := ⟨_, rfl⟩
  have hW' := Lib.hid (And.intro hW hg)
  rw [← hg] at hR
  have hgw : w.heap.size ≤ g := by omega
  clear hW hg
  have hA := hR
  replace h := h.below hB
  obtain ⟨c1_hA_0, c1_hA_1⟩ := hA.cells2
  go_enter Try.func3, Try.ntmps3
  go_wp2_with fail
  rw [← hW'.out.1, ← hW'.out.2]
  refine (hP _ h).mono ?_
  rintro e w1 ⟨b1, rfl, ⟨bc, bw, rfl, hy, hw⟩, b1⟩
  replace h := h.below b1
  replace hA := hA.below b1 hA.lt
  replace hB := hB.trans (b1.mono hB.size)
  clear c1_hA_0 c1_hA_1
  obtain ⟨c2_hA_0, c2_hA_1⟩ := hA.cells2
  obtain ⟨Ac, Cc, rfl, _, _⟩ := id hy.form
  obtain ⟨Aw, Cw, rfl, _, _⟩ := id hw.form
  rw [LK.out] at hy ⊢
  obtain ⟨V1, eV, hb, bV1⟩ := box1 w1 27 #[.int .i64 n, .int .i64 s, .slice Ac l.length Cc, .slice Aw 0 Cw]
  obtain ⟨X1, eX⟩ : ∃ X, X = w1.heap.size := ⟨_, rfl⟩
  rw [← eX] at hb
  have EV1 := Lib.hid (And.intro eV eX)
  clear eV eX
  go_upto_region 4 with fail
  rw [← EV1.out.1, ← EV1.out.2]
  replace h := h.below bV1
  replace hA := hA.below bV1 hA.lt
  replace hy := hy.below bV1
  replace hw := hw.below bV1
  replace hB := hB.trans (bV1.mono hB.size)
  clear c2_hA_0 c2_hA_1
  obtain ⟨c3_hA_0, c3_hA_1⟩ := hA.cells2
  clear c3_hA_0 c3_hA_1
  obtain ⟨c4_hA_0, c4_hA_1⟩ := hA.cells2
  obtain ⟨c4_hb_0, c4_hb_1, c4_hb_2, c4_hb_3⟩ := hb.quad
  obtain ⟨ad, rfl, ci⟩ := h.at_ hi
  obtain ⟨_, e5, cj⟩ := h.at_ hj
  cases e5
  have hle := hord
  generalize Hi0 : iat l i = x at *
  generalize Hj0 : iat l j = y at *
  have Hi := Lib.hid Hi0
  have Hj := Lib.hid Hj0
  clear Hi0 Hj0
  rcases Int.lt_or_le y x with hgt | hle2
  · have hgt1 : decide (y < x) = true := decide_eq_true hgt
    clear hle
    go_region
    replace hB := hB.drew
    go_wp2_with fail
    refine (hL _).mono ?_
    rintro e w2 ⟨rfl, b2⟩
    replace hB := hB.trans (b2.mono hB.size)
    clear c4_hA_0 c4_hA_1 c4_hb_0 c4_hb_1 c4_hb_2 c4_hb_3
    go_wp2
    go_ret
    exact ⟨rfl, hB⟩
  · have hgt1 : decide (y < x) = false := decide_eq_false (by omega)
    have hgt2 : ¬ y < x := by omega
    go_region
    obtain ⟨wd, hwd⟩ : ∃ wd, wd = V1.drew := ⟨_, rfl⟩
    have bd : Below V1.heap.size V1 wd := by rw [hwd]; exact bdrew _
    have HWD := Lib.hid hwd
    clear hwd
    replace h := h.below bd
    replace hA := hA.below bd hA.lt
    replace hy := hy.below bd
    replace hw := hw.below bd
    replace hb := hb.below bd hb.lt
    replace hB := hB.trans (bd.mono hB.size)
    obtain ⟨c5_hA_0, c5_hA_1⟩ := hA.cells2
    obtain ⟨c5_hb_0, c5_hb_1, c5_hb_2, c5_hb_3⟩ := hb.quad
    go_wp2_with fail
    rw [← HWD.out]
    refine (hLd _ _ ⟨_, _, rfl, hy, hw⟩).mono ?_
    rintro e w2 ⟨v9, rfl, h9, b2⟩
    replace h := h.below b2
    replace hA := hA.below b2 hA.lt
    replace hy := hy.below b2
    replace hw := hw.below b2
    replace hb := hb.below b2 hb.lt
    replace hB := hB.trans (b2.mono hB.size)
    clear c4_hA_0 c4_hA_1 c4_hb_0 c4_hb_1 c4_hb_2 c4_hb_3 c5_hA_0 c5_hA_1 c5_hb_0 c5_hb_1 c5_hb_2 c5_hb_3
    obtain ⟨c6_hA_0, c6_hA_1⟩ := hA.cells2
    obtain ⟨c6_hb_0, c6_hb_1, c6_hb_2, c6_hb_3⟩ := hb.quad
    obtain ⟨A9, C9, rfl, _, _⟩ := id h9.form
    rw [LM.out] at h9 ⊢
    obtain ⟨ad9, rfl, di⟩ := h9.at_ (k := i) HL9i
    obtain ⟨_, e5, dj⟩ := h9.at_ (k := j) HL9j
    cases e5
    obtain ⟨adc, rfl, ei⟩ := hy.at_ (k := i) HY9i
    obtain ⟨_, e5, ej⟩ := hy.at_ (k := j) HY9j
    cases e5
    obtain ⟨oc, om⟩ := hle hle2
    generalize iat M i = x9 at *
    generalize iat M j = y9 at *
    generalize yat K i = cx at *
    generalize yat K j = cy at *
    have o1 : decide (x9 ≤ y9) = true := decide_eq_true om
    have o2 : decide ((cx : Int) ≤ (cy : Int)) = true := decide_eq_true (by omega)
    obtain ⟨q0, q1⟩ := hA.cells2
    obtain ⟨r0, r1, r2, r3⟩ := hb.quad
    go_upto_region 9 with fail
    refine wp_region_noPanic ?_
    refine wp_region_held_drew (S := fun w' => w'.cell? ⟨g, 0, none⟩ = some (.int .i64 i) ∧ w'.cell? ⟨g, 1, none⟩ = some (.int .i64 j) ∧ w'.cell? (ad9.add i) = some (.int .i64 x9) ∧ w'.cell? (ad9.add j) = some (.int .i64 y9) ∧ w'.cell? ⟨X1, 2, none⟩ = some (.slice (some adc) l.length Cc) ∧ w'.cell? (adc.add i) = some (.int .u8 (cx : Nat)) ∧ w'.cell? (adc.add j) = some (.int .u8 (cy : Nat))) (by kernel_rfl) ?_ (fun hHeld => ?_)
    · exact ⟨cellB (by first | assumption | exact bdrew _ | exact Below.refl _ _ | exact balloc (bdrew _) _ | exact balloc (by assumption) _ | exact balloc (Below.refl _ _) _ | exact bset (bset (by assumption) (by first | assumption | exact Nat.le_refl _) _) (by first | assumption | exact Nat.le_refl _) _) q0, cellB (by first | assumption | exact bdrew _ | exact Below.refl _ _ | exact balloc (bdrew _) _ | exact balloc (by assumption) _ | exact balloc (Below.refl _ _) _ | exact bset (bset (by assumption) (by first | assumption | exact Nat.le_refl _) _) (by first | assumption | exact Nat.le_refl _) _) q1, cellB (by first | assumption | exact bdrew _ | exact Below.refl _ _ | exact balloc (bdrew _) _ | exact balloc (by assumption) _ | exact balloc (Below.refl _ _) _ | exact bset (bset (by assumption) (by first | assumption | exact Nat.le_refl _) _) (by first | assumption | exact Nat.le_refl _) _) di, cellB (by first | assumption | exact bdrew _ | exact Below.refl _ _ | exact balloc (bdrew _) _ | exact balloc (by assumption) _ | exact balloc (Below.refl _ _) _ | exact bset (bset (by assumption) (by first | assumption | exact Nat.le_refl _) _) (by first | assumption | exact Nat.le_refl _) _) dj, cellB (by first | assumption | exact bdrew _ | exact Below.refl _ _ | exact balloc (bdrew _) _ | exact balloc (by assumption) _ | exact balloc (Below.refl _ _) _ | exact bset (bset (by assumption) (by first | assumption | exact Nat.le_refl _) _) (by first | assumption | exact Nat.le_refl _) _) r2, cellB (by first | assumption | exact bdrew _ | exact Below.refl _ _ | exact balloc (bdrew _) _ | exact balloc (by assumption) _ | exact balloc (Below.refl _ _) _ | exact bset (bset (by assumption) (by first | assumption | exact Nat.le_refl _) _) (by first | assumption | exact Nat.le_refl _) _) ei, cellB (by first | assumption | exact bdrew _ | exact Below.refl _ _ | exact balloc (bdrew _) _ | exact balloc (by assumption) _ | exact balloc (Below.refl _ _) _ | exact bset (bset (by assumption) (by first | assumption | exact Nat.le_refl _) _) (by first | assumption | exact Nat.le_refl _) _) ej⟩
    refine wpAnyH_ready (rs := [0]) (by kernel_rfl) (by simp) ?_
    refine AllReadyH.cons rfl (fun K hK => ?_) AllReadyH.nil
    go_simp
    refine (hL _).mono ?_
    rintro e w8 ⟨rfl, b8⟩
    have B8 := bstep (a := w2) (by first | assumption | exact bdrew _ | exact Below.refl _ _ | exact balloc (bdrew _) _ | exact balloc (by assumption) _ | exact balloc (Below.refl _ _) _ | exact bset (bset (by assumption) (by first | assumption | exact Nat.le_refl _) _) (by first | assumption | exact Nat.le_refl _) _) b8
    go_wp2_with fail
    refine hK.out _ _ ?_ (fun hHeld => ?_)
    · exact ⟨cellB (by first | assumption | exact bdrew _ | exact Below.refl _ _ | exact balloc (bdrew _) _ | exact balloc (by assumption) _ | exact balloc (Below.refl _ _) _ | exact bset (bset (by assumption) (by first | assumption | exact Nat.le_refl _) _) (by first | assumption | exact Nat.le_refl _) _) q0, cellB (by first | assumption | exact bdrew _ | exact Below.refl _ _ | exact balloc (bdrew _) _ | exact balloc (by assumption) _ | exact balloc (Below.refl _ _) _ | exact bset (bset (by assumption) (by first | assumption | exact Nat.le_refl _) _) (by first | assumption | exact Nat.le_refl _) _) q1, cellB (by first | assumption | exact bdrew _ | exact Below.refl _ _ | exact balloc (bdrew _) _ | exact balloc (by assumption) _ | exact balloc (Below.refl _ _) _ | exact bset (bset (by assumption) (by first | assumption | exact Nat.le_refl _) _) (by first | assumption | exact Nat.le_refl _) _) di, cellB (by first | assumption | exact bdrew _ | exact Below.refl _ _ | exact balloc (bdrew _) _ | exact balloc (by assumption) _ | exact balloc (Below.refl _ _) _ | exact bset (bset (by assumption) (by first | assumption | exact Nat.le_refl _) _) (by first | assumption | exact Nat.le_refl _) _) dj, cellB (by first | assumption | exact bdrew _ | exact Below.refl _ _ | exact balloc (bdrew _) _ | exact balloc (by assumption) _ | exact balloc (Below.refl _ _) _ | exact bset (bset (by assumption) (by first | assumption | exact Nat.le_refl _) _) (by first | assumption | exact Nat.le_refl _) _) r2, cellB (by first | assumption | exact bdrew _ | exact Below.refl _ _ | exact balloc (bdrew _) _ | exact balloc (by assumption) _ | exact balloc (Below.refl _ _) _ | exact bset (bset (by assumption) (by first | assumption | exact Nat.le_refl _) _) (by first | assumption | exact Nat.le_refl _) _) ei, cellB (by first | assumption | exact bdrew _ | exact Below.refl _ _ | exact balloc (bdrew _) _ | exact balloc (by assumption) _ | exact balloc (Below.refl _ _) _ | exact bset (bset (by assumption) (by first | assumption | exact Nat.le_refl _) _) (by first | assumption | exact Nat.le_refl _) _) ej⟩
    clear hK K
    try simp only [Act.put]
    refine wpAnyH_take (i := 1) (v := ?cv1) rfl (by kernel_rfl) (by kernel_rfl) (by kernel_rfl) (fun _ _ _ h => h) (Or.inl ⟨by kernel_rfl, ?chy1⟩) (by assumption) ?crest1
    case chy1 => (intro w hSw; (try dsimp only at hSw); go_simp; try (with_reducible rfl))
    try simp only [Act.put]
    refine wpAnyH_take (i := 2) (v := ?cv2) rfl (by kernel_rfl) (by kernel_rfl) (by kernel_rfl) (fun _ _ _ h => h) (Or.inl ⟨by kernel_rfl, ?chy2⟩) (by assumption) ?crest2
    case chy2 => (intro w hSw; (try dsimp only at hSw); go_simp; try (with_reducible rfl))
    try simp only [Act.put]
    refine wpAnyH_take (i := 3) (v := ?cv3) rfl (by kernel_rfl) (by kernel_rfl) (by kernel_rfl) (fun _ _ _ h => h) (Or.inl ⟨by kernel_rfl, ?chy3⟩) (by assumption) ?crest3
    case chy3 => (intro w hSw; (try dsimp only at hSw); go_simp; try (with_reducible rfl))
    try simp only [Act.put]
    refine wpAnyH_take (i := 4) (v := ?cv4) rfl (by kernel_rfl) (by kernel_rfl) (by kernel_rfl) (fun _ _ _ h => h) (Or.inl ⟨by kernel_rfl, ?chy4⟩) (by assumption) ?crest4
    case chy4 => (intro w hSw; (try dsimp only at hSw); go_simp; try (with_reducible rfl))
    try simp only [Act.put]
    refine wpAnyH_take (i := 5) (v := ?cv5) rfl (by kernel_rfl) (by kernel_rfl) (by kernel_rfl) (fun _ _ _ h => h) (Or.inl ⟨by kernel_rfl, ?chy5⟩) (by assumption) ?crest5
    case chy5 => (intro w hSw; (try dsimp only at hSw); go_simp; try (with_reducible rfl))
    try simp only [Act.put]
    refine wpAnyH_take (i := 6) (v := ?cv6) rfl (by kernel_rfl) (by kernel_rfl) (by kernel_rfl) (fun _ _ _ h => h) (Or.inl ⟨by kernel_rfl, ?chy6⟩) (by assumption) ?crest6
    case chy6 => (intro w hSw; (try dsimp only at hSw); go_simp; try (with_reducible rfl))
    try simp only [Act.put]
    refine wpAnyH_take (i := 7) (v := ?cv7) rfl (by kernel_rfl) (by kernel_rfl) (by kernel_rfl) (fun _ _ _ h => h) (Or.inl ⟨by kernel_rfl, ?chy7⟩) (by assumption) ?crest7
    case chy7 => (intro w hSw; (try dsimp only at hSw); go_simp; try (with_reducible rfl))
    try simp only [Act.put]
    refine wpAnyH_take (i := 8) (v := ?cv8) rfl (by kernel_rfl) (by kernel_rfl) (by kernel_rfl) (fun _ _ _ h => h) (Or.inl ⟨by kernel_rfl, ?chy8⟩) (by assumption) ?crest8
    case chy8 => (intro w hSw; (try dsimp only at hSw); go_simp; try (with_reducible rfl))
    try simp only [Act.put]
    refine wpAnyH_take (i := 9) (v := ?cv9) rfl (by kernel_rfl) (by kernel_rfl) (by kernel_rfl) (fun _ _ _ h => h) (Or.inl ⟨by kernel_rfl, ?chy9⟩) (by assumption) ?crest9
    case chy9 => (intro w hSw; (try dsimp only at hSw); go_simp; try (with_reducible rfl))
    try simp only [Act.put]
    refine wpAnyH_take (i := 10) (v := ?cv10) rfl (by kernel_rfl) (by kernel_rfl) (by kernel_rfl) (fun _ _ _ h => h) (Or.inl ⟨by kernel_rfl, ?chy10⟩) (by assumption) ?crest10
    case chy10 => (intro w hSw; (try dsimp only at hSw); go_simp; try (with_reducible rfl))
    try simp only [Act.put]
    refine wpAnyH_take (i := 11) (v := ?cv11) rfl (by kernel_rfl) (by kernel_rfl) (by kernel_rfl) (fun _ _ _ h => h) (Or.inl ⟨by kernel_rfl, ?chy11⟩) (by assumption) ?crest11
    case chy11 => (intro w hSw; (try dsimp only at hSw); go_simp; try (with_reducible rfl))
    try simp only [Act.put]
    refine wpAnyH_take (i := 12) (v := ?cv12) rfl (by kernel_rfl) (by kernel_rfl) (by kernel_rfl) (fun _ _ _ h => h) (Or.inl ⟨by kernel_rfl, ?chy12⟩) (by assumption) ?crest12
    case chy12 => (intro w hSw; (try dsimp only at hSw); go_simp; try (with_reducible rfl))
    try simp only [Act.put]
    refine wpAnyH_take (i := 13) (v := ?cv13) rfl (by kernel_rfl) (by kernel_rfl) (by kernel_rfl) (fun _ _ _ h => h) (Or.inl ⟨by kernel_rfl, ?chy13⟩) (by assumption) ?crest13
    case chy13 => (intro w hSw; (try dsimp only at hSw); go_simp; try (with_reducible rfl))
    try simp only [Act.put]
    refine wpAnyH_take (i := 14) (v := ?cv14) rfl (by kernel_rfl) (by kernel_rfl) (by kernel_rfl) (fun _ _ _ h => h) (Or.inl ⟨by kernel_rfl, ?chy14⟩) (by assumption) ?crest14
    case chy14 => (intro w hSw; (try dsimp only at hSw); go_simp; try (with_reducible rfl))
    try simp only [Act.put]
    refine wpAnyH_take (i := 15) (v := ?cv15) rfl (by kernel_rfl) (by kernel_rfl) (by kernel_rfl) (fun _ _ _ h => h) (Or.inl ⟨by kernel_rfl, ?chy15⟩) (by assumption) ?crest15
    case chy15 => (intro w hSw; (try dsimp only at hSw); go_simp; try (with_reducible rfl))
    try simp only [Act.put]
    refine wpAnyH_take (i := 16) (v := ?cv16) rfl (by kernel_rfl) (by kernel_rfl) (by kernel_rfl) (fun _ _ _ h => h) (Or.inl ⟨by kernel_rfl, ?chy16⟩) (by assumption) ?crest16
    case chy16 => (intro w hSw; (try dsimp only at hSw); go_simp; try (with_reducible rfl))
    try simp only [Act.put]
    refine wpAnyH_take (i := 17) (v := ?cv17) rfl (by kernel_rfl) (by kernel_rfl) (by kernel_rfl) (fun _ _ _ h => h) (Or.inl ⟨by kernel_rfl, ?chy17⟩) (by assumption) ?crest17
    case chy17 => (intro w hSw; (try dsimp only at hSw); go_simp; try (with_reducible rfl))
    try simp only [Act.put]
    refine wpAnyH_take (i := 18) (v := ?cv18) rfl (by kernel_rfl) (by kernel_rfl) (by kernel_rfl) (fun _ _ _ h => h) (Or.inl ⟨by kernel_rfl, ?chy18⟩) (by assumption) ?crest18
    case chy18 => (intro w hSw; (try dsimp only at hSw); go_simp; try (with_reducible rfl))
    try simp only [Act.put]
    refine wpAnyH_take (i := 19) (v := ?cv19) rfl (by kernel_rfl) (by kernel_rfl) (by kernel_rfl) (fun _ _ _ h => h) (Or.inl ⟨by kernel_rfl, ?chy19⟩) (by assumption) ?crest19
    case chy19 => (intro w hSw; (try dsimp only at hSw); go_simp; try (with_reducible rfl))
    try simp only [Act.put]
    refine wpAnyH_take (i := 20) (v := ?cv20) rfl (by kernel_rfl) (by kernel_rfl) (by kernel_rfl) (fun _ _ _ h => h) (Or.inl ⟨by kernel_rfl, ?chy20⟩) (by assumption) ?crest20
    case chy20 => (intro w hSw; (try dsimp only at hSw); go_simp; try (with_reducible rfl))
    try simp only [Act.put]
    refine wpAnyH_take (i := 21) (v := ?cv21) rfl (by kernel_rfl) (by kernel_rfl) (by kernel_rfl) (fun _ _ _ h => h) (Or.inl ⟨by kernel_rfl, ?chy21⟩) (by assumption) ?crest21
    case chy21 => (intro w hSw; (try dsimp only at hSw); go_simp; try (with_reducible rfl))
    try simp only [Act.put]
    refine wpAnyH_take (i := 22) (v := ?cv22) rfl (by kernel_rfl) (by kernel_rfl) (by kernel_rfl) (fun _ _ _ h => h) (Or.inl ⟨by kernel_rfl, ?chy22⟩) (by assumption) ?crest22
    case chy22 => (intro w hSw; (try dsimp only at hSw); go_simp; try (with_reducible rfl))
    try simp only [Act.put]
    refine wpAnyH_take (i := 23) (v := ?cv23) rfl (by kernel_rfl) (by kernel_rfl) (by kernel_rfl) (fun _ _ _ h => h) (Or.inl ⟨by kernel_rfl, ?chy23⟩) (by assumption) ?crest23
    case chy23 => (intro w hSw; (try dsimp only at hSw); go_simp; try (with_reducible rfl))
    try simp only [Act.put]
    refine wpAnyH_take (i := 24) (v := ?cv24) rfl (by kernel_rfl) (by kernel_rfl) (by kernel_rfl) (fun _ _ _ h => h) (Or.inl ⟨by kernel_rfl, ?chy24⟩) (by assumption) ?crest24
    case chy24 => (intro w hSw; (try dsimp only at hSw); go_simp; try (with_reducible rfl))
    try simp only [Act.put]
    refine wpAnyH_take (i := 25) (v := ?cv25) rfl (by kernel_rfl) (by kernel_rfl) (by kernel_rfl) (fun _ _ _ h => h) (Or.inl ⟨by kernel_rfl, ?chy25⟩) (by assumption) ?crest25
    case chy25 => (intro w hSw; (try dsimp only at hSw); go_simp; try (with_reducible rfl))
    try simp only [Act.put]
    refine wpAnyH_take (i := 26) (v := ?cv26) rfl (by kernel_rfl) (by kernel_rfl) (by kernel_rfl) (fun _ _ _ h => h) (Or.inl ⟨by kernel_rfl, ?chy26⟩) (by assumption) ?crest26
    case chy26 => (intro w hSw; (try dsimp only at hSw); go_simp; try (with_reducible rfl))
    try simp only [Act.put]
    refine wpAnyH_take (i := 27) (v := ?cv27) rfl (by kernel_rfl) (by kernel_rfl) (by kernel_rfl) (fun _ _ _ h => h) (Or.inl ⟨by kernel_rfl, ?chy27⟩) (by assumption) ?crest27
    case chy27 => (intro w hSw; (try dsimp only at hSw); go_simp; try (with_reducible rfl))
    try simp only [Act.put]
    refine wpAnyH_take (i := 28) (v := ?cv28) rfl (by kernel_rfl) (by kernel_rfl) (by kernel_rfl) (fun _ _ _ h => h) (Or.inl ⟨by kernel_rfl, ?chy28⟩) (by assumption) ?crest28
    case chy28 => (intro w hSw; (try dsimp only at hSw); go_simp; try (with_reducible rfl))
    try simp only [Act.put]
    refine wpAnyH_take (i := 29) (v := ?cv29) rfl (by kernel_rfl) (by kernel_rfl) (by kernel_rfl) (fun _ _ _ h => h) (Or.inl ⟨by kernel_rfl, ?chy29⟩) (by assumption) ?crest29
    case chy29 => (intro w hSw; (try dsimp only at hSw); go_simp; try (with_reducible rfl))
    try simp only [Act.put]
    refine wpAnyH_take (i := 30) (v := ?cv30) rfl (by kernel_rfl) (by kernel_rfl) (by kernel_rfl) (fun _ _ _ h => h) (Or.inl ⟨by kernel_rfl, ?chy30⟩) (by assumption) ?crest30
    case chy30 => (intro w hSw; (try dsimp only at hSw); go_simp; try (with_reducible rfl))
    try simp only [Act.put]
    refine wpAnyH_take (i := 31) (v := ?cv31) rfl (by kernel_rfl) (by kernel_rfl) (by kernel_rfl) (fun _ _ _ h => h) (Or.inl ⟨by kernel_rfl, ?chy31⟩) (by assumption) ?crest31
    case chy31 => (intro w hSw; (try dsimp only at hSw); go_simp; try (with_reducible rfl))
    try simp only [Act.put]
    refine wpAnyH_take (i := 32) (v := ?cv32) rfl (by kernel_rfl) (by kernel_rfl) (by kernel_rfl) (fun _ _ _ h => h) (Or.inl ⟨by kernel_rfl, ?chy32⟩) (by assumption) ?crest32
    case chy32 => (intro w hSw; (try dsimp only at hSw); go_simp; try (with_reducible rfl))
    try simp only [Act.put]
    refine wpAnyH_take (i := 33) (v := ?cv33) rfl (by kernel_rfl) (by kernel_rfl) (by kernel_rfl) (fun _ _ _ h => h) (Or.inl ⟨by kernel_rfl, ?chy33⟩) (by assumption) ?crest33
    case chy33 => (intro w hSw; (try dsimp only at hSw); go_simp; try (with_reducible rfl))
    try simp only [Act.put]
    refine wpAnyH_take (i := 34) (v := ?cv34) rfl (by kernel_rfl) (by kernel_rfl) (by kernel_rfl) (fun _ _ _ h => h) (Or.inl ⟨by kernel_rfl, ?chy34⟩) (by assumption) ?crest34
    case chy34 => (intro w hSw; (try dsimp only at hSw); go_simp; try (with_reducible rfl))
    try simp only [Act.put]
    refine wpAnyH_take (i := 35) (v := ?cv35) rfl (by kernel_rfl) (by kernel_rfl) (by kernel_rfl) (fun _ _ _ h => h) (Or.inl ⟨by kernel_rfl, ?chy35⟩) (by assumption) ?crest35
    case chy35 => (intro w hSw; (try dsimp only at hSw); go_simp; try (with_reducible rfl))
    try simp only [Act.put]
    refine wpAnyH_take (i := 36) (v := ?cv36) rfl (by kernel_rfl) (by kernel_rfl) (by kernel_rfl) (fun _ _ _ h => h) (Or.inl ⟨by kernel_rfl, ?chy36⟩) (by assumption) ?crest36
    case chy36 => (intro w hSw; (try dsimp only at hSw); go_simp; try (with_reducible rfl))
    try simp only [Act.put]
    refine wpAnyH_take (i := 37) (v := ?cv37) rfl (by kernel_rfl) (by kernel_rfl) (by kernel_rfl) (fun _ _ _ h => h) (Or.inl ⟨by kernel_rfl, ?chy37⟩) (by assumption) ?crest37
    case chy37 => (intro w hSw; (try dsimp only at hSw); go_simp; try (with_reducible rfl))
    try simp only [Act.put]
    refine wpAnyH_take (i := 38) (v := ?cv38) rfl (by kernel_rfl) (by kernel_rfl) (by kernel_rfl) (fun _ _ _ h => h) (Or.inl ⟨by kernel_rfl, ?chy38⟩) (by assumption) ?crest38
    case chy38 => (intro w hSw; (try dsimp only at hSw); go_simp; try (with_reducible rfl))
    try simp only [Act.put]
    refine wpAnyH_take (i := 39) (v := ?cv39) rfl (by kernel_rfl) (by kernel_rfl) (by kernel_rfl) (fun _ _ _ h => h) (Or.inl ⟨by kernel_rfl, ?chy39⟩) (by assumption) ?crest39
    case chy39 => (intro w hSw; (try dsimp only at hSw); go_simp; try (with_reducible rfl))
    try simp only [Act.put]
    try dsimp only
    try simp only [Act.put]
    refine wpAnyH_take (i := 40) (v := ?cv40) rfl (by kernel_rfl) (by kernel_rfl) (by kernel_rfl) (fun _ _ _ h => h) (Or.inl ⟨by kernel_rfl, ?chy40⟩) (by assumption) ?crest40
    case chy40 => (intro w hSw; (try dsimp only at hSw); go_simp; try (with_reducible rfl))
    try simp only [Act.put]
    try dsimp only
    try simp only [Act.put]
    refine wpAnyH_take (i := 41) (v := ?cv41) rfl (by kernel_rfl) (by kernel_rfl) (by kernel_rfl) (fun _ _ _ h => h) (Or.inl ⟨by kernel_rfl, ?chy41⟩) (by assumption) ?crest41
    case chy41 => (intro w hSw; (try dsimp only at hSw); go_simp; try (with_reducible rfl))
    try simp only [Act.put]
    try dsimp only
    try simp only [Act.put]
    refine wpAnyH_done (by kernel_rfl) ?_ _
    refine NoPanic.normal ?_
    go_wp2
    go_ret
    rename_i a1_ d1_ e1_ a2_ d2_ e2_
    obtain rfl : 6 = d1_ := Option.some.inj e1_
    obtain rfl : 107 = d2_ := Option.some.inj e2_
    exact ⟨by first | rfl | (simp; done) | (simp [*]; done), hB.trans (B8.mono hB.size)⟩
set_option maxRecDepth 100000 in
theorem BlockOrder_all (k : Int) (v : Value) (l : List Int) (a0 a1 : Int) (w : World) (h : IsI w v l) (iL : ∀ x ∈ l, I64 x) :
    Calls Try.prog 3 #[.int .i64 k, v, .agg #[.int .i64 a0, .int .i64 a1]] w fun e w' => e = .returned (.bool true) ∧ Below w.heap.size w w' := by
  by_cases hl : 20 < l.length
  · exact BlockOrder_few k v l a0 a1 w h hl
  by_cases h0 : a0 < 0
  · exact BlockOrder_a k v l a0 a1 w h hl h0
  by_cases h1 : (l.length : Int) ≤ a0
  · exact BlockOrder_b k v l a0 a1 w h hl h0 h1
  by_cases h2 : a1 < 0
  · exact BlockOrder_c k v l a0 a1 w h hl h0 h1 h2
  by_cases h3 : (l.length : Int) ≤ a1
  · exact BlockOrder_d k v l a0 a1 w h hl h0 h1 h2 h3
  obtain ⟨i, rfl⟩ := Int.eq_ofNat_of_zero_le (show 0 ≤ a0 by omega)
  obtain ⟨j, rfl⟩ := Int.eq_ofNat_of_zero_le (show 0 ≤ a1 by omega)
  by_cases hk : 0 ≤ k ∧ k ≤ 3
  · obtain ⟨n, rfl, hn⟩ := kind_nat hk
    cases ho : l.any (oddB (sgn (n : Nat)))
    · exact BlockOrder_coded n hn v l i j w h (by omega) (by omega) (by omega) iL ho
    · exact BlockOrder_no n v l i j w h (by omega) (by omega) (by omega) iL (fun w h => pack_odd n v l w h hk ho)
  · by_cases hk4 : k = 4
    · subst hk4
      cases ho : l.any (oddB true)
      · exact BlockOrder_wide v l i j w h (by omega) (by omega) (by omega) iL ho
      · exact BlockOrder_no 4 v l i j w h (by omega) (by omega) (by omega) iL (fun w h => pack_oddw 4 v l w h rfl ho)
    · exact BlockOrder_no k v l i j w h (by omega) (by omega) (by omega) iL (fun w h => pack_kind k v l w h (by omega))
end Go.Proofs.Ytgcebmgmmhdcpaa
