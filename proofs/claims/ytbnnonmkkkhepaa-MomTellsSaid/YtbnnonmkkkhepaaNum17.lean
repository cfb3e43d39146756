/- The document's layer 17: numbers that are reckoned, and whether all ahead was there. Printed by gen_num17.py. -/
import Derived.Test.YtbnnonmkkkhepaaR08
import Derived.Test.YtbnnonmkkkhepaaMom3
namespace Go.Proofs.Ytbnnonmkkkhepaa
open Go.RowKit
attribute [local go_sem ↓] Go.wp_at_zero Go.wp_at_succ

/-- a number that is reckoned, as a value -/
abbrev num17 (n : Int) (b : Bool) : Value := .agg #[.int .i64 n, .bool b]
set_option maxHeartbeats 1000000 in
theorem of17_any (n : Int) (w : World) : Calls Try.prog 40 #[.int .i64 n] w fun e w' => e = .returned (num17 n true) ∧ Below w.heap.size w w' := by
  have HB := Lib.hid ((Below.refl _ w).alloc (Nat.le_refl _) (.cells #[.int .i64 n, .bool true] 59))
  go_enter Try.func40, Try.ntmps40
  go_wp2
  exact bodyPost_ret (v := num17 n true) (by simp [results, Try.results40, go_sem]) rfl ⟨rfl, HB.out⟩
set_option maxHeartbeats 2000000 in
theorem add17_any (a b : Int) (ba bb : Bool) (w : World) (ha : In64 a) (hb : In64 b) :
    Calls Try.prog 41 #[num17 a ba, num17 b bb] w fun e w' => e = .returned (num17 (fitV (a + b)) (ba && (bb && decide (fitE (a + b) = 0)))) ∧ Below w.heap.size w w' := by
  have hA := fun w => r08add_any a b w ha hb
  generalize fitV (a + b) = n at *
  generalize fitE (a + b) = x at *
  clear ha hb
  obtain ⟨r, hr⟩ : ∃ r, r = (ba && (bb && decide (x = 0))) := ⟨_, rfl⟩
  rw [← hr]
  by_cases hx : x = 0
  · subst hx
    rw [decide_eq_true rfl] at hr
    cases ba <;> cases bb
    · obtain rfl : r = false := hr
      obtain ⟨W0, hW, hT, hR, hB⟩ := box3 w 59 59 59 #[.int .i64 a, .bool false] #[.int .i64 b, .bool false] #[.int .i64 0, .bool false]
      obtain ⟨g, hg⟩ : ∃ g, g = w.heap.size := ⟨_, rfl⟩
      have hW' := Lib.hid (And.intro hW hg)
      rw [← hg] at hT hR
      have hgw : w.heap.size ≤ g := by omega
      clear hW hg
      obtain ⟨hX, hY⟩ := hT
      obtain ⟨c1_hX_0, c1_hX_1⟩ := hX.cells2
      obtain ⟨c1_hY_0, c1_hY_1⟩ := hY.cells2
      obtain ⟨c1_hR_0, c1_hR_1⟩ := hR.cells2
      go_enter Try.func41, Try.ntmps41
      go_wp2_with fail
      rw [← hW'.out.1, ← hW'.out.2]
      refine (hA _).mono ?_
      rintro e w1 ⟨rfl, b1⟩
      replace hX := hX.below b1 hX.lt
      replace hY := hY.below b1 hY.lt
      replace hR := hR.below b1 hR.lt
      replace hB := hB.trans (b1.mono hB.size)
      clear c1_hX_0 c1_hX_1 c1_hY_0 c1_hY_1 c1_hR_0 c1_hR_1
      obtain ⟨c2_hX_0, c2_hX_1⟩ := hX.cells2
      obtain ⟨c2_hY_0, c2_hY_1⟩ := hY.cells2
      obtain ⟨c2_hR_0, c2_hR_1⟩ := hR.cells2
      obtain ⟨p1, p2, p3⟩ := put2 hR (.int .i64 n) (.bool false) (by simp [noU]) hB (by omega)
      have q0 := hR.cell 0
      have z0 := hR.frozen 0
      have q1 := hR.cell 1
      have z1 := hR.frozen 1
      have P := Lib.hid (And.intro p3 p1.cells2)
      clear p1 p2 p3
      go_wp2_with fail
      obtain ⟨P2, P3, P4⟩ := P.out
      exact bodyPost_ret (v := .agg #[.int .i64 n, .bool false]) (by simp [results, Try.results41, go_sem, P3, P4, q0, q1]) rfl ⟨rfl, P2⟩
    · obtain rfl : r = false := hr
      obtain ⟨W0, hW, hT, hR, hB⟩ := box3 w 59 59 59 #[.int .i64 a, .bool false] #[.int .i64 b, .bool true] #[.int .i64 0, .bool false]
      obtain ⟨g, hg⟩ : ∃ g, g = w.heap.size := ⟨_, rfl⟩
      have hW' := Lib.hid (And.intro hW hg)
      rw [← hg] at hT hR
      have hgw : w.heap.size ≤ g := by omega
      clear hW hg
      obtain ⟨hX, hY⟩ := hT
      obtain ⟨c1_hX_0, c1_hX_1⟩ := hX.cells2
      obtain ⟨c1_hY_0, c1_hY_1⟩ := hY.cells2
      obtain ⟨c1_hR_0, c1_hR_1⟩ := hR.cells2
      go_enter Try.func41, Try.ntmps41
      go_wp2_with fail
      rw [← hW'.out.1, ← hW'.out.2]
      refine (hA _).mono ?_
      rintro e w1 ⟨rfl, b1⟩
      replace hX := hX.below b1 hX.lt
      replace hY := hY.below b1 hY.lt
      replace hR := hR.below b1 hR.lt
      replace hB := hB.trans (b1.mono hB.size)
      clear c1_hX_0 c1_hX_1 c1_hY_0 c1_hY_1 c1_hR_0 c1_hR_1
      obtain ⟨c2_hX_0, c2_hX_1⟩ := hX.cells2
      obtain ⟨c2_hY_0, c2_hY_1⟩ := hY.cells2
      obtain ⟨c2_hR_0, c2_hR_1⟩ := hR.cells2
      obtain ⟨p1, p2, p3⟩ := put2 hR (.int .i64 n) (.bool false) (by simp [noU]) hB (by omega)
      have q0 := hR.cell 0
      have z0 := hR.frozen 0
      have q1 := hR.cell 1
      have z1 := hR.frozen 1
      have P := Lib.hid (And.intro p3 p1.cells2)
      clear p1 p2 p3
      go_wp2_with fail
      obtain ⟨P2, P3, P4⟩ := P.out
      exact bodyPost_ret (v := .agg #[.int .i64 n, .bool false]) (by simp [results, Try.results41, go_sem, P3, P4, q0, q1]) rfl ⟨rfl, P2⟩
    · obtain rfl : r = false := hr
      obtain ⟨W0, hW, hT, hR, hB⟩ := box3 w 59 59 59 #[.int .i64 a, .bool true] #[.int .i64 b, .bool false] #[.int .i64 0, .bool false]
      obtain ⟨g, hg⟩ : ∃ g, g = w.heap.size := ⟨_, rfl⟩
      have hW' := Lib.hid (And.intro hW hg)
      rw [← hg] at hT hR
      have hgw : w.heap.size ≤ g := by omega
      clear hW hg
      obtain ⟨hX, hY⟩ := hT
      obtain ⟨c1_hX_0, c1_hX_1⟩ := hX.cells2
      obtain ⟨c1_hY_0, c1_hY_1⟩ := hY.cells2
      obtain ⟨c1_hR_0, c1_hR_1⟩ := hR.cells2
      go_enter Try.func41, Try.ntmps41
      go_wp2_with fail
      rw [← hW'.out.1, ← hW'.out.2]
      refine (hA _).mono ?_
      rintro e w1 ⟨rfl, b1⟩
      replace hX := hX.below b1 hX.lt
      replace hY := hY.below b1 hY.lt
      replace hR := hR.below b1 hR.lt
      replace hB := hB.trans (b1.mono hB.size)
      clear c1_hX_0 c1_hX_1 c1_hY_0 c1_hY_1 c1_hR_0 c1_hR_1
      obtain ⟨c2_hX_0, c2_hX_1⟩ := hX.cells2
      obtain ⟨c2_hY_0, c2_hY_1⟩ := hY.cells2
      obtain ⟨c2_hR_0, c2_hR_1⟩ := hR.cells2
      obtain ⟨p1, p2, p3⟩ := put2 hR (.int .i64 n) (.bool false) (by simp [noU]) hB (by omega)
      have q0 := hR.cell 0
      have z0 := hR.frozen 0
      have q1 := hR.cell 1
      have z1 := hR.frozen 1
      have P := Lib.hid (And.intro p3 p1.cells2)
      clear p1 p2 p3
      go_wp2_with fail
      obtain ⟨P2, P3, P4⟩ := P.out
      exact bodyPost_ret (v := .agg #[.int .i64 n, .bool false]) (by simp [results, Try.results41, go_sem, P3, P4, q0, q1]) rfl ⟨rfl, P2⟩
    · obtain rfl : r = true := hr
      obtain ⟨W0, hW, hT, hR, hB⟩ := box3 w 59 59 59 #[.int .i64 a, .bool true] #[.int .i64 b, .bool true] #[.int .i64 0, .bool false]
      obtain ⟨g, hg⟩ : ∃ g, g = w.heap.size := ⟨_, rfl⟩
      have hW' := Lib.hid (And.intro hW hg)
      rw [← hg] at hT hR
      have hgw : w.heap.size ≤ g := by omega
      clear hW hg
      obtain ⟨hX, hY⟩ := hT
      obtain ⟨c1_hX_0, c1_hX_1⟩ := hX.cells2
      obtain ⟨c1_hY_0, c1_hY_1⟩ := hY.cells2
      obtain ⟨c1_hR_0, c1_hR_1⟩ := hR.cells2
      go_enter Try.func41, Try.ntmps41
      go_wp2_with fail
      rw [← hW'.out.1, ← hW'.out.2]
      refine (hA _).mono ?_
      rintro e w1 ⟨rfl, b1⟩
      replace hX := hX.below b1 hX.lt
      replace hY := hY.below b1 hY.lt
      replace hR := hR.below b1 hR.lt
      replace hB := hB.trans (b1.mono hB.size)
      clear c1_hX_0 c1_hX_1 c1_hY_0 c1_hY_1 c1_hR_0 c1_hR_1
      obtain ⟨c2_hX_0, c2_hX_1⟩ := hX.cells2
      obtain ⟨c2_hY_0, c2_hY_1⟩ := hY.cells2
      obtain ⟨c2_hR_0, c2_hR_1⟩ := hR.cells2
      obtain ⟨p1, p2, p3⟩ := put2 hR (.int .i64 n) (.bool true) (by simp [noU]) hB (by omega)
      have q0 := hR.cell 0
      have z0 := hR.frozen 0
      have q1 := hR.cell 1
      have z1 := hR.frozen 1
      have P := Lib.hid (And.intro p3 p1.cells2)
      clear p1 p2 p3
      go_wp2_with fail
      obtain ⟨P2, P3, P4⟩ := P.out
      exact bodyPost_ret (v := .agg #[.int .i64 n, .bool true]) (by simp [results, Try.results41, go_sem, P3, P4, q0, q1]) rfl ⟨rfl, P2⟩
  · rw [decide_eq_false hx] at hr
    have hd : (x == 0) = false := by simpa using hx
    have hXX := Lib.hid hx
    clear hx
    cases ba <;> cases bb
    · obtain rfl : r = false := hr
      obtain ⟨W0, hW, hT, hR, hB⟩ := box3 w 59 59 59 #[.int .i64 a, .bool false] #[.int .i64 b, .bool false] #[.int .i64 0, .bool false]
      obtain ⟨g, hg⟩ : ∃ g, g = w.heap.size := ⟨_, rfl⟩
      have hW' := Lib.hid (And.intro hW hg)
      rw [← hg] at hT hR
      have hgw : w.heap.size ≤ g := by omega
      clear hW hg
      obtain ⟨hX, hY⟩ := hT
      obtain ⟨c1_hX_0, c1_hX_1⟩ := hX.cells2
      obtain ⟨c1_hY_0, c1_hY_1⟩ := hY.cells2
      obtain ⟨c1_hR_0, c1_hR_1⟩ := hR.cells2
      go_enter Try.func41, Try.ntmps41
      go_wp2_with fail
      rw [← hW'.out.1, ← hW'.out.2]
      refine (hA _).mono ?_
      rintro e w1 ⟨rfl, b1⟩
      replace hX := hX.below b1 hX.lt
      replace hY := hY.below b1 hY.lt
      replace hR := hR.below b1 hR.lt
      replace hB := hB.trans (b1.mono hB.size)
      clear c1_hX_0 c1_hX_1 c1_hY_0 c1_hY_1 c1_hR_0 c1_hR_1
      obtain ⟨c2_hX_0, c2_hX_1⟩ := hX.cells2
      obtain ⟨c2_hY_0, c2_hY_1⟩ := hY.cells2
      obtain ⟨c2_hR_0, c2_hR_1⟩ := hR.cells2
      obtain ⟨p1, p2, p3⟩ := put2 hR (.int .i64 n) (.bool false) (by simp [noU]) hB (by omega)
      have q0 := hR.cell 0
      have z0 := hR.frozen 0
      have q1 := hR.cell 1
      have z1 := hR.frozen 1
      have P := Lib.hid (And.intro p3 p1.cells2)
      clear p1 p2 p3
      go_wp2_with fail
      obtain ⟨P2, P3, P4⟩ := P.out
      exact bodyPost_ret (v := .agg #[.int .i64 n, .bool false]) (by simp [results, Try.results41, go_sem, P3, P4, q0, q1]) rfl ⟨rfl, P2⟩
    · obtain rfl : r = false := hr
      obtain ⟨W0, hW, hT, hR, hB⟩ := box3 w 59 59 59 #[.int .i64 a, .bool false] #[.int .i64 b, .bool true] #[.int .i64 0, .bool false]
      obtain ⟨g, hg⟩ : ∃ g, g = w.heap.size := ⟨_, rfl⟩
      have hW' := Lib.hid (And.intro hW hg)
      rw [← hg] at hT hR
      have hgw : w.heap.size ≤ g := by omega
      clear hW hg
      obtain ⟨hX, hY⟩ := hT
      obtain ⟨c1_hX_0, c1_hX_1⟩ := hX.cells2
      obtain ⟨c1_hY_0, c1_hY_1⟩ := hY.cells2
      obtain ⟨c1_hR_0, c1_hR_1⟩ := hR.cells2
      go_enter Try.func41, Try.ntmps41
      go_wp2_with fail
      rw [← hW'.out.1, ← hW'.out.2]
      refine (hA _).mono ?_
      rintro e w1 ⟨rfl, b1⟩
      replace hX := hX.below b1 hX.lt
      replace hY := hY.below b1 hY.lt
      replace hR := hR.below b1 hR.lt
      replace hB := hB.trans (b1.mono hB.size)
      clear c1_hX_0 c1_hX_1 c1_hY_0 c1_hY_1 c1_hR_0 c1_hR_1
      obtain ⟨c2_hX_0, c2_hX_1⟩ := hX.cells2
      obtain ⟨c2_hY_0, c2_hY_1⟩ := hY.cells2
      obtain ⟨c2_hR_0, c2_hR_1⟩ := hR.cells2
      obtain ⟨p1, p2, p3⟩ := put2 hR (.int .i64 n) (.bool false) (by simp [noU]) hB (by omega)
      have q0 := hR.cell 0
      have z0 := hR.frozen 0
      have q1 := hR.cell 1
      have z1 := hR.frozen 1
      have P := Lib.hid (And.intro p3 p1.cells2)
      clear p1 p2 p3
      go_wp2_with fail
      obtain ⟨P2, P3, P4⟩ := P.out
      exact bodyPost_ret (v := .agg #[.int .i64 n, .bool false]) (by simp [results, Try.results41, go_sem, P3, P4, q0, q1]) rfl ⟨rfl, P2⟩
    · obtain rfl : r = false := hr
      obtain ⟨W0, hW, hT, hR, hB⟩ := box3 w 59 59 59 #[.int .i64 a, .bool true] #[.int .i64 b, .bool false] #[.int .i64 0, .bool false]
      obtain ⟨g, hg⟩ : ∃ g, g = w.heap.size := ⟨_, rfl⟩
      have hW' := Lib.hid (And.intro hW hg)
      rw [← hg] at hT hR
      have hgw : w.heap.size ≤ g := by omega
      clear hW hg
      obtain ⟨hX, hY⟩ := hT
      obtain ⟨c1_hX_0, c1_hX_1⟩ := hX.cells2
      obtain ⟨c1_hY_0, c1_hY_1⟩ := hY.cells2
      obtain ⟨c1_hR_0, c1_hR_1⟩ := hR.cells2
      go_enter Try.func41, Try.ntmps41
      go_wp2_with fail
      rw [← hW'.out.1, ← hW'.out.2]
      refine (hA _).mono ?_
      rintro e w1 ⟨rfl, b1⟩
      replace hX := hX.below b1 hX.lt
      replace hY := hY.below b1 hY.lt
      replace hR := hR.below b1 hR.lt
      replace hB := hB.trans (b1.mono hB.size)
      clear c1_hX_0 c1_hX_1 c1_hY_0 c1_hY_1 c1_hR_0 c1_hR_1
      obtain ⟨c2_hX_0, c2_hX_1⟩ := hX.cells2
      obtain ⟨c2_hY_0, c2_hY_1⟩ := hY.cells2
      obtain ⟨c2_hR_0, c2_hR_1⟩ := hR.cells2
      obtain ⟨p1, p2, p3⟩ := put2 hR (.int .i64 n) (.bool false) (by simp [noU]) hB (by omega)
      have q0 := hR.cell 0
      have z0 := hR.frozen 0
      have q1 := hR.cell 1
      have z1 := hR.frozen 1
      have P := Lib.hid (And.intro p3 p1.cells2)
      clear p1 p2 p3
      go_wp2_with fail
      obtain ⟨P2, P3, P4⟩ := P.out
      exact bodyPost_ret (v := .agg #[.int .i64 n, .bool false]) (by simp [results, Try.results41, go_sem, P3, P4, q0, q1]) rfl ⟨rfl, P2⟩
    · obtain rfl : r = false := hr
      obtain ⟨W0, hW, hT, hR, hB⟩ := box3 w 59 59 59 #[.int .i64 a, .bool true] #[.int .i64 b, .bool true] #[.int .i64 0, .bool false]
      obtain ⟨g, hg⟩ : ∃ g, g = w.heap.size := ⟨_, rfl⟩
      have hW' := Lib.hid (And.intro hW hg)
      rw [← hg] at hT hR
      have hgw : w.heap.size ≤ g := by omega
      clear hW hg
      obtain ⟨hX, hY⟩ := hT
      obtain ⟨c1_hX_0, c1_hX_1⟩ := hX.cells2
      obtain ⟨c1_hY_0, c1_hY_1⟩ := hY.cells2
      obtain ⟨c1_hR_0, c1_hR_1⟩ := hR.cells2
      go_enter Try.func41, Try.ntmps41
      go_wp2_with fail
      rw [← hW'.out.1, ← hW'.out.2]
      refine (hA _).mono ?_
      rintro e w1 ⟨rfl, b1⟩
      replace hX := hX.below b1 hX.lt
      replace hY := hY.below b1 hY.lt
      replace hR := hR.below b1 hR.lt
      replace hB := hB.trans (b1.mono hB.size)
      clear c1_hX_0 c1_hX_1 c1_hY_0 c1_hY_1 c1_hR_0 c1_hR_1
      obtain ⟨c2_hX_0, c2_hX_1⟩ := hX.cells2
      obtain ⟨c2_hY_0, c2_hY_1⟩ := hY.cells2
      obtain ⟨c2_hR_0, c2_hR_1⟩ := hR.cells2
      obtain ⟨p1, p2, p3⟩ := put2 hR (.int .i64 n) (.bool false) (by simp [noU]) hB (by omega)
      have q0 := hR.cell 0
      have z0 := hR.frozen 0
      have q1 := hR.cell 1
      have z1 := hR.frozen 1
      have P := Lib.hid (And.intro p3 p1.cells2)
      clear p1 p2 p3
      go_wp2_with fail
      obtain ⟨P2, P3, P4⟩ := P.out
      exact bodyPost_ret (v := .agg #[.int .i64 n, .bool false]) (by simp [results, Try.results41, go_sem, P3, P4, q0, q1]) rfl ⟨rfl, P2⟩
set_option maxHeartbeats 2000000 in
theorem sub17_any (a b : Int) (ba bb : Bool) (w : World) (ha : In64 a) (hb : In64 b) :
    Calls Try.prog 43 #[num17 a ba, num17 b bb] w fun e w' => e = .returned (num17 (fitV (a - b)) (ba && (bb && decide (fitE (a - b) = 0)))) ∧ Below w.heap.size w w' := by
  have hA := fun w => r08sub_any a b w ha hb
  generalize fitV (a - b) = n at *
  generalize fitE (a - b) = x at *
  clear ha hb
  obtain ⟨r, hr⟩ : ∃ r, r = (ba && (bb && decide (x = 0))) := ⟨_, rfl⟩
  rw [← hr]
  by_cases hx : x = 0
  · subst hx
    rw [decide_eq_true rfl] at hr
    cases ba <;> cases bb
    · obtain rfl : r = false := hr
      obtain ⟨W0, hW, hT, hR, hB⟩ := box3 w 59 59 59 #[.int .i64 a, .bool false] #[.int .i64 b, .bool false] #[.int .i64 0, .bool false]
      obtain ⟨g, hg⟩ : ∃ g, g = w.heap.size := ⟨_, rfl⟩
      have hW' := Lib.hid (And.intro hW hg)
      rw [← hg] at hT hR
      have hgw : w.heap.size ≤ g := by omega
      clear hW hg
      obtain ⟨hX, hY⟩ := hT
      obtain ⟨c1_hX_0, c1_hX_1⟩ := hX.cells2
      obtain ⟨c1_hY_0, c1_hY_1⟩ := hY.cells2
      obtain ⟨c1_hR_0, c1_hR_1⟩ := hR.cells2
      go_enter Try.func43, Try.ntmps43
      go_wp2_with fail
      rw [← hW'.out.1, ← hW'.out.2]
      refine (hA _).mono ?_
      rintro e w1 ⟨rfl, b1⟩
      replace hX := hX.below b1 hX.lt
      replace hY := hY.below b1 hY.lt
      replace hR := hR.below b1 hR.lt
      replace hB := hB.trans (b1.mono hB.size)
      clear c1_hX_0 c1_hX_1 c1_hY_0 c1_hY_1 c1_hR_0 c1_hR_1
      obtain ⟨c2_hX_0, c2_hX_1⟩ := hX.cells2
      obtain ⟨c2_hY_0, c2_hY_1⟩ := hY.cells2
      obtain ⟨c2_hR_0, c2_hR_1⟩ := hR.cells2
      obtain ⟨p1, p2, p3⟩ := put2 hR (.int .i64 n) (.bool false) (by simp [noU]) hB (by omega)
      have q0 := hR.cell 0
      have z0 := hR.frozen 0
      have q1 := hR.cell 1
      have z1 := hR.frozen 1
      have P := Lib.hid (And.intro p3 p1.cells2)
      clear p1 p2 p3
      go_wp2_with fail
      obtain ⟨P2, P3, P4⟩ := P.out
      exact bodyPost_ret (v := .agg #[.int .i64 n, .bool false]) (by simp [results, Try.results43, go_sem, P3, P4, q0, q1]) rfl ⟨rfl, P2⟩
    · obtain rfl : r = false := hr
      obtain ⟨W0, hW, hT, hR, hB⟩ := box3 w 59 59 59 #[.int .i64 a, .bool false] #[.int .i64 b, .bool true] #[.int .i64 0, .bool false]
      obtain ⟨g, hg⟩ : ∃ g, g = w.heap.size := ⟨_, rfl⟩
      have hW' := Lib.hid (And.intro hW hg)
      rw [← hg] at hT hR
      have hgw : w.heap.size ≤ g := by omega
      clear hW hg
      obtain ⟨hX, hY⟩ := hT
      obtain ⟨c1_hX_0, c1_hX_1⟩ := hX.cells2
      obtain ⟨c1_hY_0, c1_hY_1⟩ := hY.cells2
      obtain ⟨c1_hR_0, c1_hR_1⟩ := hR.cells2
      go_enter Try.func43, Try.ntmps43
      go_wp2_with fail
      rw [← hW'.out.1, ← hW'.out.2]
      refine (hA _).mono ?_
      rintro e w1 ⟨rfl, b1⟩
      replace hX := hX.below b1 hX.lt
      replace hY := hY.below b1 hY.lt
      replace hR := hR.below b1 hR.lt
      replace hB := hB.trans (b1.mono hB.size)
      clear c1_hX_0 c1_hX_1 c1_hY_0 c1_hY_1 c1_hR_0 c1_hR_1
      obtain ⟨c2_hX_0, c2_hX_1⟩ := hX.cells2
      obtain ⟨c2_hY_0, c2_hY_1⟩ := hY.cells2
      obtain ⟨c2_hR_0, c2_hR_1⟩ := hR.cells2
      obtain ⟨p1, p2, p3⟩ := put2 hR (.int .i64 n) (.bool false) (by simp [noU]) hB (by omega)
      have q0 := hR.cell 0
      have z0 := hR.frozen 0
      have q1 := hR.cell 1
      have z1 := hR.frozen 1
      have P := Lib.hid (And.intro p3 p1.cells2)
      clear p1 p2 p3
      go_wp2_with fail
      obtain ⟨P2, P3, P4⟩ := P.out
      exact bodyPost_ret (v := .agg #[.int .i64 n, .bool false]) (by simp [results, Try.results43, go_sem, P3, P4, q0, q1]) rfl ⟨rfl, P2⟩
    · obtain rfl : r = false := hr
      obtain ⟨W0, hW, hT, hR, hB⟩ := box3 w 59 59 59 #[.int .i64 a, .bool true] #[.int .i64 b, .bool false] #[.int .i64 0, .bool false]
      obtain ⟨g, hg⟩ : ∃ g, g = w.heap.size := ⟨_, rfl⟩
      have hW' := Lib.hid (And.intro hW hg)
      rw [← hg] at hT hR
      have hgw : w.heap.size ≤ g := by omega
      clear hW hg
      obtain ⟨hX, hY⟩ := hT
      obtain ⟨c1_hX_0, c1_hX_1⟩ := hX.cells2
      obtain ⟨c1_hY_0, c1_hY_1⟩ := hY.cells2
      obtain ⟨c1_hR_0, c1_hR_1⟩ := hR.cells2
      go_enter Try.func43, Try.ntmps43
      go_wp2_with fail
      rw [← hW'.out.1, ← hW'.out.2]
      refine (hA _).mono ?_
      rintro e w1 ⟨rfl, b1⟩
      replace hX := hX.below b1 hX.lt
      replace hY := hY.below b1 hY.lt
      replace hR := hR.below b1 hR.lt
      replace hB := hB.trans (b1.mono hB.size)
      clear c1_hX_0 c1_hX_1 c1_hY_0 c1_hY_1 c1_hR_0 c1_hR_1
      obtain ⟨c2_hX_0, c2_hX_1⟩ := hX.cells2
      obtain ⟨c2_hY_0, c2_hY_1⟩ := hY.cells2
      obtain ⟨c2_hR_0, c2_hR_1⟩ := hR.cells2
      obtain ⟨p1, p2, p3⟩ := put2 hR (.int .i64 n) (.bool false) (by simp [noU]) hB (by omega)
      have q0 := hR.cell 0
      have z0 := hR.frozen 0
      have q1 := hR.cell 1
      have z1 := hR.frozen 1
      have P := Lib.hid (And.intro p3 p1.cells2)
      clear p1 p2 p3
      go_wp2_with fail
      obtain ⟨P2, P3, P4⟩ := P.out
      exact bodyPost_ret (v := .agg #[.int .i64 n, .bool false]) (by simp [results, Try.results43, go_sem, P3, P4, q0, q1]) rfl ⟨rfl, P2⟩
    · obtain rfl : r = true := hr
      obtain ⟨W0, hW, hT, hR, hB⟩ := box3 w 59 59 59 #[.int .i64 a, .bool true] #[.int .i64 b, .bool true] #[.int .i64 0, .bool false]
      obtain ⟨g, hg⟩ : ∃ g, g = w.heap.size := ⟨_, rfl⟩
      have hW' := Lib.hid (And.intro hW hg)
      rw [← hg] at hT hR
      have hgw : w.heap.size ≤ g := by omega
      clear hW hg
      obtain ⟨hX, hY⟩ := hT
      obtain ⟨c1_hX_0, c1_hX_1⟩ := hX.cells2
      obtain ⟨c1_hY_0, c1_hY_1⟩ := hY.cells2
      obtain ⟨c1_hR_0, c1_hR_1⟩ := hR.cells2
      go_enter Try.func43, Try.ntmps43
      go_wp2_with fail
      rw [← hW'.out.1, ← hW'.out.2]
      refine (hA _).mono ?_
      rintro e w1 ⟨rfl, b1⟩
      replace hX := hX.below b1 hX.lt
      replace hY := hY.below b1 hY.lt
      replace hR := hR.below b1 hR.lt
      replace hB := hB.trans (b1.mono hB.size)
      clear c1_hX_0 c1_hX_1 c1_hY_0 c1_hY_1 c1_hR_0 c1_hR_1
      obtain ⟨c2_hX_0, c2_hX_1⟩ := hX.cells2
      obtain ⟨c2_hY_0, c2_hY_1⟩ := hY.cells2
      obtain ⟨c2_hR_0, c2_hR_1⟩ := hR.cells2
      obtain ⟨p1, p2, p3⟩ := put2 hR (.int .i64 n) (.bool true) (by simp [noU]) hB (by omega)
      have q0 := hR.cell 0
      have z0 := hR.frozen 0
      have q1 := hR.cell 1
      have z1 := hR.frozen 1
      have P := Lib.hid (And.intro p3 p1.cells2)
      clear p1 p2 p3
      go_wp2_with fail
      obtain ⟨P2, P3, P4⟩ := P.out
      exact bodyPost_ret (v := .agg #[.int .i64 n, .bool true]) (by simp [results, Try.results43, go_sem, P3, P4, q0, q1]) rfl ⟨rfl, P2⟩
  · rw [decide_eq_false hx] at hr
    have hd : (x == 0) = false := by simpa using hx
    have hXX := Lib.hid hx
    clear hx
    cases ba <;> cases bb
    · obtain rfl : r = false := hr
      obtain ⟨W0, hW, hT, hR, hB⟩ := box3 w 59 59 59 #[.int .i64 a, .bool false] #[.int .i64 b, .bool false] #[.int .i64 0, .bool false]
      obtain ⟨g, hg⟩ : ∃ g, g = w.heap.size := ⟨_, rfl⟩
      have hW' := Lib.hid (And.intro hW hg)
      rw [← hg] at hT hR
      have hgw : w.heap.size ≤ g := by omega
      clear hW hg
      obtain ⟨hX, hY⟩ := hT
      obtain ⟨c1_hX_0, c1_hX_1⟩ := hX.cells2
      obtain ⟨c1_hY_0, c1_hY_1⟩ := hY.cells2
      obtain ⟨c1_hR_0, c1_hR_1⟩ := hR.cells2
      go_enter Try.func43, Try.ntmps43
      go_wp2_with fail
      rw [← hW'.out.1, ← hW'.out.2]
      refine (hA _).mono ?_
      rintro e w1 ⟨rfl, b1⟩
      replace hX := hX.below b1 hX.lt
      replace hY := hY.below b1 hY.lt
      replace hR := hR.below b1 hR.lt
      replace hB := hB.trans (b1.mono hB.size)
      clear c1_hX_0 c1_hX_1 c1_hY_0 c1_hY_1 c1_hR_0 c1_hR_1
      obtain ⟨c2_hX_0, c2_hX_1⟩ := hX.cells2
      obtain ⟨c2_hY_0, c2_hY_1⟩ := hY.cells2
      obtain ⟨c2_hR_0, c2_hR_1⟩ := hR.cells2
      obtain ⟨p1, p2, p3⟩ := put2 hR (.int .i64 n) (.bool false) (by simp [noU]) hB (by omega)
      have q0 := hR.cell 0
      have z0 := hR.frozen 0
      have q1 := hR.cell 1
      have z1 := hR.frozen 1
      have P := Lib.hid (And.intro p3 p1.cells2)
      clear p1 p2 p3
      go_wp2_with fail
      obtain ⟨P2, P3, P4⟩ := P.out
      exact bodyPost_ret (v := .agg #[.int .i64 n, .bool false]) (by simp [results, Try.results43, go_sem, P3, P4, q0, q1]) rfl ⟨rfl, P2⟩
    · obtain rfl : r = false := hr
      obtain ⟨W0, hW, hT, hR, hB⟩ := box3 w 59 59 59 #[.int .i64 a, .bool false] #[.int .i64 b, .bool true] #[.int .i64 0, .bool false]
      obtain ⟨g, hg⟩ : ∃ g, g = w.heap.size := ⟨_, rfl⟩
      have hW' := Lib.hid (And.intro hW hg)
      rw [← hg] at hT hR
      have hgw : w.heap.size ≤ g := by omega
      clear hW hg
      obtain ⟨hX, hY⟩ := hT
      obtain ⟨c1_hX_0, c1_hX_1⟩ := hX.cells2
      obtain ⟨c1_hY_0, c1_hY_1⟩ := hY.cells2
      obtain ⟨c1_hR_0, c1_hR_1⟩ := hR.cells2
      go_enter Try.func43, Try.ntmps43
      go_wp2_with fail
      rw [← hW'.out.1, ← hW'.out.2]
      refine (hA _).mono ?_
      rintro e w1 ⟨rfl, b1⟩
      replace hX := hX.below b1 hX.lt
      replace hY := hY.below b1 hY.lt
      replace hR := hR.below b1 hR.lt
      replace hB := hB.trans (b1.mono hB.size)
      clear c1_hX_0 c1_hX_1 c1_hY_0 c1_hY_1 c1_hR_0 c1_hR_1
      obtain ⟨c2_hX_0, c2_hX_1⟩ := hX.cells2
      obtain ⟨c2_hY_0, c2_hY_1⟩ := hY.cells2
      obtain ⟨c2_hR_0, c2_hR_1⟩ := hR.cells2
      obtain ⟨p1, p2, p3⟩ := put2 hR (.int .i64 n) (.bool false) (by simp [noU]) hB (by omega)
      have q0 := hR.cell 0
      have z0 := hR.frozen 0
      have q1 := hR.cell 1
      have z1 := hR.frozen 1
      have P := Lib.hid (And.intro p3 p1.cells2)
      clear p1 p2 p3
      go_wp2_with fail
      obtain ⟨P2, P3, P4⟩ := P.out
      exact bodyPost_ret (v := .agg #[.int .i64 n, .bool false]) (by simp [results, Try.results43, go_sem, P3, P4, q0, q1]) rfl ⟨rfl, P2⟩
    · obtain rfl : r = false := hr
      obtain ⟨W0, hW, hT, hR, hB⟩ := box3 w 59 59 59 #[.int .i64 a, .bool true] #[.int .i64 b, .bool false] #[.int .i64 0, .bool false]
      obtain ⟨g, hg⟩ : ∃ g, g = w.heap.size := ⟨_, rfl⟩
      have hW' := Lib.hid (And.intro hW hg)
      rw [← hg] at hT hR
      have hgw : w.heap.size ≤ g := by omega
      clear hW hg
      obtain ⟨hX, hY⟩ := hT
      obtain ⟨c1_hX_0, c1_hX_1⟩ := hX.cells2
      obtain ⟨c1_hY_0, c1_hY_1⟩ := hY.cells2
      obtain ⟨c1_hR_0, c1_hR_1⟩ := hR.cells2
      go_enter Try.func43, Try.ntmps43
      go_wp2_with fail
      rw [← hW'.out.1, ← hW'.out.2]
      refine (hA _).mono ?_
      rintro e w1 ⟨rfl, b1⟩
      replace hX := hX.below b1 hX.lt
      replace hY := hY.below b1 hY.lt
      replace hR := hR.below b1 hR.lt
      replace hB := hB.trans (b1.mono hB.size)
      clear c1_hX_0 c1_hX_1 c1_hY_0 c1_hY_1 c1_hR_0 c1_hR_1
      obtain ⟨c2_hX_0, c2_hX_1⟩ := hX.cells2
      obtain ⟨c2_hY_0, c2_hY_1⟩ := hY.cells2
      obtain ⟨c2_hR_0, c2_hR_1⟩ := hR.cells2
      obtain ⟨p1, p2, p3⟩ := put2 hR (.int .i64 n) (.bool false) (by simp [noU]) hB (by omega)
      have q0 := hR.cell 0
      have z0 := hR.frozen 0
      have q1 := hR.cell 1
      have z1 := hR.frozen 1
      have P := Lib.hid (And.intro p3 p1.cells2)
      clear p1 p2 p3
      go_wp2_with fail
      obtain ⟨P2, P3, P4⟩ := P.out
      exact bodyPost_ret (v := .agg #[.int .i64 n, .bool false]) (by simp [results, Try.results43, go_sem, P3, P4, q0, q1]) rfl ⟨rfl, P2⟩
    · obtain rfl : r = false := hr
      obtain ⟨W0, hW, hT, hR, hB⟩ := box3 w 59 59 59 #[.int .i64 a, .bool true] #[.int .i64 b, .bool true] #[.int .i64 0, .bool false]
      obtain ⟨g, hg⟩ : ∃ g, g = w.heap.size := ⟨_, rfl⟩
      have hW' := Lib.hid (And.intro hW hg)
      rw [← hg] at hT hR
      have hgw : w.heap.size ≤ g := by omega
      clear hW hg
      obtain ⟨hX, hY⟩ := hT
      obtain ⟨c1_hX_0, c1_hX_1⟩ := hX.cells2
      obtain ⟨c1_hY_0, c1_hY_1⟩ := hY.cells2
      obtain ⟨c1_hR_0, c1_hR_1⟩ := hR.cells2
      go_enter Try.func43, Try.ntmps43
      go_wp2_with fail
      rw [← hW'.out.1, ← hW'.out.2]
      refine (hA _).mono ?_
      rintro e w1 ⟨rfl, b1⟩
      replace hX := hX.below b1 hX.lt
      replace hY := hY.below b1 hY.lt
      replace hR := hR.below b1 hR.lt
      replace hB := hB.trans (b1.mono hB.size)
      clear c1_hX_0 c1_hX_1 c1_hY_0 c1_hY_1 c1_hR_0 c1_hR_1
      obtain ⟨c2_hX_0, c2_hX_1⟩ := hX.cells2
      obtain ⟨c2_hY_0, c2_hY_1⟩ := hY.cells2
      obtain ⟨c2_hR_0, c2_hR_1⟩ := hR.cells2
      obtain ⟨p1, p2, p3⟩ := put2 hR (.int .i64 n) (.bool false) (by simp [noU]) hB (by omega)
      have q0 := hR.cell 0
      have z0 := hR.frozen 0
      have q1 := hR.cell 1
      have z1 := hR.frozen 1
      have P := Lib.hid (And.intro p3 p1.cells2)
      clear p1 p2 p3
      go_wp2_with fail
      obtain ⟨P2, P3, P4⟩ := P.out
      exact bodyPost_ret (v := .agg #[.int .i64 n, .bool false]) (by simp [results, Try.results43, go_sem, P3, P4, q0, q1]) rfl ⟨rfl, P2⟩
set_option maxHeartbeats 2000000 in
theorem mul17_any (a b : Int) (ba bb : Bool) (k : Nat) (hk : k ≤ 40) (w : World) (ha : In64 a) (hb : In64 b) :
    Calls Try.prog 42 #[num17 a ba, num17 b bb, .int .i64 k] w fun e w' => e = .returned (num17 (fitV (mulZ a b k)) (ba && (bb && decide (fitE (mulZ a b k) = 0)))) ∧ Below w.heap.size w w' := by
  have hA := fun w => r08mul_any a b k w hk ha hb
  generalize fitV (mulZ a b k) = n at *
  generalize fitE (mulZ a b k) = x at *
  clear ha hb hk
  obtain ⟨r, hr⟩ : ∃ r, r = (ba && (bb && decide (x = 0))) := ⟨_, rfl⟩
  rw [← hr]
  by_cases hx : x = 0
  · subst hx
    rw [decide_eq_true rfl] at hr
    cases ba <;> cases bb
    · obtain rfl : r = false := hr
      obtain ⟨W0, hW, hT, hR, hB⟩ := box3 w 59 59 59 #[.int .i64 a, .bool false] #[.int .i64 b, .bool false] #[.int .i64 0, .bool false]
      obtain ⟨g, hg⟩ : ∃ g, g = w.heap.size := ⟨_, rfl⟩
      have hW' := Lib.hid (And.intro hW hg)
      rw [← hg] at hT hR
      have hgw : w.heap.size ≤ g := by omega
      clear hW hg
      obtain ⟨hX, hY⟩ := hT
      obtain ⟨c1_hX_0, c1_hX_1⟩ := hX.cells2
      obtain ⟨c1_hY_0, c1_hY_1⟩ := hY.cells2
      obtain ⟨c1_hR_0, c1_hR_1⟩ := hR.cells2
      go_enter Try.func42, Try.ntmps42
      go_wp2_with fail
      rw [← hW'.out.1, ← hW'.out.2]
      refine (hA _).mono ?_
      rintro e w1 ⟨rfl, b1⟩
      replace hX := hX.below b1 hX.lt
      replace hY := hY.below b1 hY.lt
      replace hR := hR.below b1 hR.lt
      replace hB := hB.trans (b1.mono hB.size)
      clear c1_hX_0 c1_hX_1 c1_hY_0 c1_hY_1 c1_hR_0 c1_hR_1
      obtain ⟨c2_hX_0, c2_hX_1⟩ := hX.cells2
      obtain ⟨c2_hY_0, c2_hY_1⟩ := hY.cells2
      obtain ⟨c2_hR_0, c2_hR_1⟩ := hR.cells2
      obtain ⟨p1, p2, p3⟩ := put2 hR (.int .i64 n) (.bool false) (by simp [noU]) hB (by omega)
      have q0 := hR.cell 0
      have z0 := hR.frozen 0
      have q1 := hR.cell 1
      have z1 := hR.frozen 1
      have P := Lib.hid (And.intro p3 p1.cells2)
      clear p1 p2 p3
      go_wp2_with fail
      obtain ⟨P2, P3, P4⟩ := P.out
      exact bodyPost_ret (v := .agg #[.int .i64 n, .bool false]) (by simp [results, Try.results42, go_sem, P3, P4, q0, q1]) rfl ⟨rfl, P2⟩
    · obtain rfl : r = false := hr
      obtain ⟨W0, hW, hT, hR, hB⟩ := box3 w 59 59 59 #[.int .i64 a, .bool false] #[.int .i64 b, .bool true] #[.int .i64 0, .bool false]
      obtain ⟨g, hg⟩ : ∃ g, g = w.heap.size := ⟨_, rfl⟩
      have hW' := Lib.hid (And.intro hW hg)
      rw [← hg] at hT hR
      have hgw : w.heap.size ≤ g := by omega
      clear hW hg
      obtain ⟨hX, hY⟩ := hT
      obtain ⟨c1_hX_0, c1_hX_1⟩ := hX.cells2
      obtain ⟨c1_hY_0, c1_hY_1⟩ := hY.cells2
      obtain ⟨c1_hR_0, c1_hR_1⟩ := hR.cells2
      go_enter Try.func42, Try.ntmps42
      go_wp2_with fail
      rw [← hW'.out.1, ← hW'.out.2]
      refine (hA _).mono ?_
      rintro e w1 ⟨rfl, b1⟩
      replace hX := hX.below b1 hX.lt
      replace hY := hY.below b1 hY.lt
      replace hR := hR.below b1 hR.lt
      replace hB := hB.trans (b1.mono hB.size)
      clear c1_hX_0 c1_hX_1 c1_hY_0 c1_hY_1 c1_hR_0 c1_hR_1
      obtain ⟨c2_hX_0, c2_hX_1⟩ := hX.cells2
      obtain ⟨c2_hY_0, c2_hY_1⟩ := hY.cells2
      obtain ⟨c2_hR_0, c2_hR_1⟩ := hR.cells2
      obtain ⟨p1, p2, p3⟩ := put2 hR (.int .i64 n) (.bool false) (by simp [noU]) hB (by omega)
      have q0 := hR.cell 0
      have z0 := hR.frozen 0
      have q1 := hR.cell 1
      have z1 := hR.frozen 1
      have P := Lib.hid (And.intro p3 p1.cells2)
      clear p1 p2 p3
      go_wp2_with fail
      obtain ⟨P2, P3, P4⟩ := P.out
      exact bodyPost_ret (v := .agg #[.int .i64 n, .bool false]) (by simp [results, Try.results42, go_sem, P3, P4, q0, q1]) rfl ⟨rfl, P2⟩
    · obtain rfl : r = false := hr
      obtain ⟨W0, hW, hT, hR, hB⟩ := box3 w 59 59 59 #[.int .i64 a, .bool true] #[.int .i64 b, .bool false] #[.int .i64 0, .bool false]
      obtain ⟨g, hg⟩ : ∃ g, g = w.heap.size := ⟨_, rfl⟩
      have hW' := Lib.hid (And.intro hW hg)
      rw [← hg] at hT hR
      have hgw : w.heap.size ≤ g := by omega
      clear hW hg
      obtain ⟨hX, hY⟩ := hT
      obtain ⟨c1_hX_0, c1_hX_1⟩ := hX.cells2
      obtain ⟨c1_hY_0, c1_hY_1⟩ := hY.cells2
      obtain ⟨c1_hR_0, c1_hR_1⟩ := hR.cells2
      go_enter Try.func42, Try.ntmps42
      go_wp2_with fail
      rw [← hW'.out.1, ← hW'.out.2]
      refine (hA _).mono ?_
      rintro e w1 ⟨rfl, b1⟩
      replace hX := hX.below b1 hX.lt
      replace hY := hY.below b1 hY.lt
      replace hR := hR.below b1 hR.lt
      replace hB := hB.trans (b1.mono hB.size)
      clear c1_hX_0 c1_hX_1 c1_hY_0 c1_hY_1 c1_hR_0 c1_hR_1
      obtain ⟨c2_hX_0, c2_hX_1⟩ := hX.cells2
      obtain ⟨c2_hY_0, c2_hY_1⟩ := hY.cells2
      obtain ⟨c2_hR_0, c2_hR_1⟩ := hR.cells2
      obtain ⟨p1, p2, p3⟩ := put2 hR (.int .i64 n) (.bool false) (by simp [noU]) hB (by omega)
      have q0 := hR.cell 0
      have z0 := hR.frozen 0
      have q1 := hR.cell 1
      have z1 := hR.frozen 1
      have P := Lib.hid (And.intro p3 p1.cells2)
      clear p1 p2 p3
      go_wp2_with fail
      obtain ⟨P2, P3, P4⟩ := P.out
      exact bodyPost_ret (v := .agg #[.int .i64 n, .bool false]) (by simp [results, Try.results42, go_sem, P3, P4, q0, q1]) rfl ⟨rfl, P2⟩
    · obtain rfl : r = true := hr
      obtain ⟨W0, hW, hT, hR, hB⟩ := box3 w 59 59 59 #[.int .i64 a, .bool true] #[.int .i64 b, .bool true] #[.int .i64 0, .bool false]
      obtain ⟨g, hg⟩ : ∃ g, g = w.heap.size := ⟨_, rfl⟩
      have hW' := Lib.hid (And.intro hW hg)
      rw [← hg] at hT hR
      have hgw : w.heap.size ≤ g := by omega
      clear hW hg
      obtain ⟨hX, hY⟩ := hT
      obtain ⟨c1_hX_0, c1_hX_1⟩ := hX.cells2
      obtain ⟨c1_hY_0, c1_hY_1⟩ := hY.cells2
      obtain ⟨c1_hR_0, c1_hR_1⟩ := hR.cells2
      go_enter Try.func42, Try.ntmps42
      go_wp2_with fail
      rw [← hW'.out.1, ← hW'.out.2]
      refine (hA _).mono ?_
      rintro e w1 ⟨rfl, b1⟩
      replace hX := hX.below b1 hX.lt
      replace hY := hY.below b1 hY.lt
      replace hR := hR.below b1 hR.lt
      replace hB := hB.trans (b1.mono hB.size)
      clear c1_hX_0 c1_hX_1 c1_hY_0 c1_hY_1 c1_hR_0 c1_hR_1
      obtain ⟨c2_hX_0, c2_hX_1⟩ := hX.cells2
      obtain ⟨c2_hY_0, c2_hY_1⟩ := hY.cells2
      obtain ⟨c2_hR_0, c2_hR_1⟩ := hR.cells2
      obtain ⟨p1, p2, p3⟩ := put2 hR (.int .i64 n) (.bool true) (by simp [noU]) hB (by omega)
      have q0 := hR.cell 0
      have z0 := hR.frozen 0
      have q1 := hR.cell 1
      have z1 := hR.frozen 1
      have P := Lib.hid (And.intro p3 p1.cells2)
      clear p1 p2 p3
      go_wp2_with fail
      obtain ⟨P2, P3, P4⟩ := P.out
      exact bodyPost_ret (v := .agg #[.int .i64 n, .bool true]) (by simp [results, Try.results42, go_sem, P3, P4, q0, q1]) rfl ⟨rfl, P2⟩
  · rw [decide_eq_false hx] at hr
    have hd : (x == 0) = false := by simpa using hx
    have hXX := Lib.hid hx
    clear hx
    cases ba <;> cases bb
    · obtain rfl : r = false := hr
      obtain ⟨W0, hW, hT, hR, hB⟩ := box3 w 59 59 59 #[.int .i64 a, .bool false] #[.int .i64 b, .bool false] #[.int .i64 0, .bool false]
      obtain ⟨g, hg⟩ : ∃ g, g = w.heap.size := ⟨_, rfl⟩
      have hW' := Lib.hid (And.intro hW hg)
      rw [← hg] at hT hR
      have hgw : w.heap.size ≤ g := by omega
      clear hW hg
      obtain ⟨hX, hY⟩ := hT
      obtain ⟨c1_hX_0, c1_hX_1⟩ := hX.cells2
      obtain ⟨c1_hY_0, c1_hY_1⟩ := hY.cells2
      obtain ⟨c1_hR_0, c1_hR_1⟩ := hR.cells2
      go_enter Try.func42, Try.ntmps42
      go_wp2_with fail
      rw [← hW'.out.1, ← hW'.out.2]
      refine (hA _).mono ?_
      rintro e w1 ⟨rfl, b1⟩
      replace hX := hX.below b1 hX.lt
      replace hY := hY.below b1 hY.lt
      replace hR := hR.below b1 hR.lt
      replace hB := hB.trans (b1.mono hB.size)
      clear c1_hX_0 c1_hX_1 c1_hY_0 c1_hY_1 c1_hR_0 c1_hR_1
      obtain ⟨c2_hX_0, c2_hX_1⟩ := hX.cells2
      obtain ⟨c2_hY_0, c2_hY_1⟩ := hY.cells2
      obtain ⟨c2_hR_0, c2_hR_1⟩ := hR.cells2
      obtain ⟨p1, p2, p3⟩ := put2 hR (.int .i64 n) (.bool false) (by simp [noU]) hB (by omega)
      have q0 := hR.cell 0
      have z0 := hR.frozen 0
      have q1 := hR.cell 1
      have z1 := hR.frozen 1
      have P := Lib.hid (And.intro p3 p1.cells2)
      clear p1 p2 p3
      go_wp2_with fail
      obtain ⟨P2, P3, P4⟩ := P.out
      exact bodyPost_ret (v := .agg #[.int .i64 n, .bool false]) (by simp [results, Try.results42, go_sem, P3, P4, q0, q1]) rfl ⟨rfl, P2⟩
    · obtain rfl : r = false := hr
      obtain ⟨W0, hW, hT, hR, hB⟩ := box3 w 59 59 59 #[.int .i64 a, .bool false] #[.int .i64 b, .bool true] #[.int .i64 0, .bool false]
      obtain ⟨g, hg⟩ : ∃ g, g = w.heap.size := ⟨_, rfl⟩
      have hW' := Lib.hid (And.intro hW hg)
      rw [← hg] at hT hR
      have hgw : w.heap.size ≤ g := by omega
      clear hW hg
      obtain ⟨hX, hY⟩ := hT
      obtain ⟨c1_hX_0, c1_hX_1⟩ := hX.cells2
      obtain ⟨c1_hY_0, c1_hY_1⟩ := hY.cells2
      obtain ⟨c1_hR_0, c1_hR_1⟩ := hR.cells2
      go_enter Try.func42, Try.ntmps42
      go_wp2_with fail
      rw [← hW'.out.1, ← hW'.out.2]
      refine (hA _).mono ?_
      rintro e w1 ⟨rfl, b1⟩
      replace hX := hX.below b1 hX.lt
      replace hY := hY.below b1 hY.lt
      replace hR := hR.below b1 hR.lt
      replace hB := hB.trans (b1.mono hB.size)
      clear c1_hX_0 c1_hX_1 c1_hY_0 c1_hY_1 c1_hR_0 c1_hR_1
      obtain ⟨c2_hX_0, c2_hX_1⟩ := hX.cells2
      obtain ⟨c2_hY_0, c2_hY_1⟩ := hY.cells2
      obtain ⟨c2_hR_0, c2_hR_1⟩ := hR.cells2
      obtain ⟨p1, p2, p3⟩ := put2 hR (.int .i64 n) (.bool false) (by simp [noU]) hB (by omega)
      have q0 := hR.cell 0
      have z0 := hR.frozen 0
      have q1 := hR.cell 1
      have z1 := hR.frozen 1
      have P := Lib.hid (And.intro p3 p1.cells2)
      clear p1 p2 p3
      go_wp2_with fail
      obtain ⟨P2, P3, P4⟩ := P.out
      exact bodyPost_ret (v := .agg #[.int .i64 n, .bool false]) (by simp [results, Try.results42, go_sem, P3, P4, q0, q1]) rfl ⟨rfl, P2⟩
    · obtain rfl : r = false := hr
      obtain ⟨W0, hW, hT, hR, hB⟩ := box3 w 59 59 59 #[.int .i64 a, .bool true] #[.int .i64 b, .bool false] #[.int .i64 0, .bool false]
      obtain ⟨g, hg⟩ : ∃ g, g = w.heap.size := ⟨_, rfl⟩
      have hW' := Lib.hid (And.intro hW hg)
      rw [← hg] at hT hR
      have hgw : w.heap.size ≤ g := by omega
      clear hW hg
      obtain ⟨hX, hY⟩ := hT
      obtain ⟨c1_hX_0, c1_hX_1⟩ := hX.cells2
      obtain ⟨c1_hY_0, c1_hY_1⟩ := hY.cells2
      obtain ⟨c1_hR_0, c1_hR_1⟩ := hR.cells2
      go_enter Try.func42, Try.ntmps42
      go_wp2_with fail
      rw [← hW'.out.1, ← hW'.out.2]
      refine (hA _).mono ?_
      rintro e w1 ⟨rfl, b1⟩
      replace hX := hX.below b1 hX.lt
      replace hY := hY.below b1 hY.lt
      replace hR := hR.below b1 hR.lt
      replace hB := hB.trans (b1.mono hB.size)
      clear c1_hX_0 c1_hX_1 c1_hY_0 c1_hY_1 c1_hR_0 c1_hR_1
      obtain ⟨c2_hX_0, c2_hX_1⟩ := hX.cells2
      obtain ⟨c2_hY_0, c2_hY_1⟩ := hY.cells2
      obtain ⟨c2_hR_0, c2_hR_1⟩ := hR.cells2
      obtain ⟨p1, p2, p3⟩ := put2 hR (.int .i64 n) (.bool false) (by simp [noU]) hB (by omega)
      have q0 := hR.cell 0
      have z0 := hR.frozen 0
      have q1 := hR.cell 1
      have z1 := hR.frozen 1
      have P := Lib.hid (And.intro p3 p1.cells2)
      clear p1 p2 p3
      go_wp2_with fail
      obtain ⟨P2, P3, P4⟩ := P.out
      exact bodyPost_ret (v := .agg #[.int .i64 n, .bool false]) (by simp [results, Try.results42, go_sem, P3, P4, q0, q1]) rfl ⟨rfl, P2⟩
    · obtain rfl : r = false := hr
      obtain ⟨W0, hW, hT, hR, hB⟩ := box3 w 59 59 59 #[.int .i64 a, .bool true] #[.int .i64 b, .bool true] #[.int .i64 0, .bool false]
      obtain ⟨g, hg⟩ : ∃ g, g = w.heap.size := ⟨_, rfl⟩
      have hW' := Lib.hid (And.intro hW hg)
      rw [← hg] at hT hR
      have hgw : w.heap.size ≤ g := by omega
      clear hW hg
      obtain ⟨hX, hY⟩ := hT
      obtain ⟨c1_hX_0, c1_hX_1⟩ := hX.cells2
      obtain ⟨c1_hY_0, c1_hY_1⟩ := hY.cells2
      obtain ⟨c1_hR_0, c1_hR_1⟩ := hR.cells2
      go_enter Try.func42, Try.ntmps42
      go_wp2_with fail
      rw [← hW'.out.1, ← hW'.out.2]
      refine (hA _).mono ?_
      rintro e w1 ⟨rfl, b1⟩
      replace hX := hX.below b1 hX.lt
      replace hY := hY.below b1 hY.lt
      replace hR := hR.below b1 hR.lt
      replace hB := hB.trans (b1.mono hB.size)
      clear c1_hX_0 c1_hX_1 c1_hY_0 c1_hY_1 c1_hR_0 c1_hR_1
      obtain ⟨c2_hX_0, c2_hX_1⟩ := hX.cells2
      obtain ⟨c2_hY_0, c2_hY_1⟩ := hY.cells2
      obtain ⟨c2_hR_0, c2_hR_1⟩ := hR.cells2
      obtain ⟨p1, p2, p3⟩ := put2 hR (.int .i64 n) (.bool false) (by simp [noU]) hB (by omega)
      have q0 := hR.cell 0
      have z0 := hR.frozen 0
      have q1 := hR.cell 1
      have z1 := hR.frozen 1
      have P := Lib.hid (And.intro p3 p1.cells2)
      clear p1 p2 p3
      go_wp2_with fail
      obtain ⟨P2, P3, P4⟩ := P.out
      exact bodyPost_ret (v := .agg #[.int .i64 n, .bool false]) (by simp [results, Try.results42, go_sem, P3, P4, q0, q1]) rfl ⟨rfl, P2⟩
end Go.Proofs.Ytbnnonmkkkhepaa
