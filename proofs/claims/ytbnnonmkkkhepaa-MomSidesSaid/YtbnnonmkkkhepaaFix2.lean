/- Package fix: sums, differences, products. -/
import Derived.Test.YtbnnonmkkkhepaaFix
namespace Go.Proofs.Ytbnnonmkkkhepaa
open Go.RowKit

set_option maxHeartbeats 1000000 in
theorem fadd_any (a b : Int) (ha0 : -9223372036854775808 ≤ a) (ha1 : a ≤ 9223372036854775807) (hb0 : -9223372036854775808 ≤ b) (hb1 : b ≤ 9223372036854775807) (w : World) :
    Calls Try.prog 61 #[.int .i64 a, .int .i64 b] w fun e w' => e = .returned (.tuple #[.int .i64 (fitV (a + b)), .int .i64 (fitE (a + b))]) ∧ w = w' := by
  obtain ⟨s, hs⟩ : ∃ s, s = IntKind.i64.wrap (a + b) := ⟨_, rfl⟩
  have hsv : s = (a + b + 9223372036854775808) % 18446744073709551616 - 9223372036854775808 := by rw [hs, IntKind.wrap_i64]
  have hws := hs.symm
  clear hs
  by_cases hok : -9223372036854775808 ≤ a + b ∧ a + b ≤ 9223372036854775807
  · obtain ⟨e1, e2⟩ := fit_in hok
    rw [e1, e2]
    have hse : a + b = s := by omega
    rw [hse]
    have hsg : (decide (a < 0) = true ∧ decide (b < 0) = true ∧ decide (s < 0) = true) ∨ (decide (a < 0) = false ∧ decide (b < 0) = false ∧ decide (s < 0) = false) ∨ (decide (a < 0) = true ∧ decide (b < 0) = false) ∨ (decide (a < 0) = false ∧ decide (b < 0) = true) := by
      simp only [decide_eq_true_eq, decide_eq_false_iff_not]; omega
    clear hse e1 e2 hok hsv ha0 ha1 hb0 hb1
    rcases hsg with ⟨h1, h2, h3⟩ | ⟨h1, h2, h3⟩ | ⟨h1, h2⟩ | ⟨h1, h2⟩
    all_goals
      go_enter Try.func61, Try.ntmps61
      go_wp2
      go_ret2
      exact ⟨rfl, rfl⟩
  · obtain ⟨e1, e2⟩ := fit_out hok
    rw [e1, e2]
    have hsg : (decide (a < 0) = true ∧ decide (b < 0) = true ∧ decide (s < 0) = false) ∨ (decide (a < 0) = false ∧ decide (b < 0) = false ∧ decide (s < 0) = true) := by
      simp only [decide_eq_true_eq, decide_eq_false_iff_not]; omega
    clear e1 e2 hok hsv ha0 ha1 hb0 hb1
    rcases hsg with ⟨h1, h2, h3⟩ | ⟨h1, h2, h3⟩
    all_goals
      go_enter Try.func61, Try.ntmps61
      go_wp2
      go_ret2
      exact ⟨rfl, rfl⟩

set_option maxHeartbeats 1000000 in
theorem fsub_any (a b : Int) (ha0 : -9223372036854775808 ≤ a) (ha1 : a ≤ 9223372036854775807) (hb0 : -9223372036854775808 ≤ b) (hb1 : b ≤ 9223372036854775807) (w : World) :
    Calls Try.prog 63 #[.int .i64 a, .int .i64 b] w fun e w' => e = .returned (.tuple #[.int .i64 (fitV (a - b)), .int .i64 (fitE (a - b))]) ∧ w = w' := by
  obtain ⟨s, hs⟩ : ∃ s, s = IntKind.i64.wrap (a - b) := ⟨_, rfl⟩
  have hsv : s = (a - b + 9223372036854775808) % 18446744073709551616 - 9223372036854775808 := by rw [hs, IntKind.wrap_i64]
  have hws := hs.symm
  clear hs
  by_cases hok : -9223372036854775808 ≤ a - b ∧ a - b ≤ 9223372036854775807
  · obtain ⟨e1, e2⟩ := fit_in hok
    rw [e1, e2]
    have hse : a - b = s := by omega
    rw [hse]
    have hsg : (decide (a < 0) = true ∧ decide (b < 0) = false ∧ decide (s < 0) = true) ∨ (decide (a < 0) = false ∧ decide (b < 0) = true ∧ decide (s < 0) = false) ∨ (decide (a < 0) = true ∧ decide (b < 0) = true) ∨ (decide (a < 0) = false ∧ decide (b < 0) = false) := by
      simp only [decide_eq_true_eq, decide_eq_false_iff_not]; omega
    clear hse e1 e2 hok hsv ha0 ha1 hb0 hb1
    rcases hsg with ⟨h1, h2, h3⟩ | ⟨h1, h2, h3⟩ | ⟨h1, h2⟩ | ⟨h1, h2⟩
    all_goals
      go_enter Try.func63, Try.ntmps63
      go_wp2
      go_ret2
      exact ⟨rfl, rfl⟩
  · obtain ⟨e1, e2⟩ := fit_out hok
    rw [e1, e2]
    have hsg : (decide (a < 0) = true ∧ decide (b < 0) = false ∧ decide (s < 0) = false) ∨ (decide (a < 0) = false ∧ decide (b < 0) = true ∧ decide (s < 0) = true) := by
      simp only [decide_eq_true_eq, decide_eq_false_iff_not]; omega
    clear e1 e2 hok hsv ha0 ha1 hb0 hb1
    rcases hsg with ⟨h1, h2, h3⟩ | ⟨h1, h2, h3⟩
    all_goals
      go_enter Try.func63, Try.ntmps63
      go_wp2
      go_ret2
      exact ⟨rfl, rfl⟩

set_option maxHeartbeats 400000 in
theorem isfrac_any (f : Int) (w : World) : Calls Try.prog 77 #[.int .i64 f] w fun e w' => e = .returned (.bool (decide (0 ≤ f ∧ f ≤ 40))) ∧ w = w' := by
  by_cases h0 : 0 ≤ f
  · by_cases h1 : f ≤ 40
    · rw [decide_eq_true ⟨h0, h1⟩]
      go_enter Try.func77, Try.ntmps77
      go_wp2
      go_ret
      exact ⟨rfl, rfl⟩
    · rw [decide_eq_false (fun h => h1 h.2)]
      go_enter Try.func77, Try.ntmps77
      go_wp2
      go_ret
      exact ⟨rfl, rfl⟩
  · rw [decide_eq_false (fun h => h0 h.1)]
    go_enter Try.func77, Try.ntmps77
    go_wp2
    go_ret
    exact ⟨rfl, rfl⟩
theorem pow_le40 (f : Nat) (h : f ≤ 40) : 1 ≤ 2 ^ f ∧ 2 ^ f ≤ 1099511627776 := ⟨Nat.pow_pos (by omega), Nat.pow_le_pow_right (by omega) h⟩
set_option maxHeartbeats 1000000 in
theorem fmul_any (a b : Int) (f : Nat) (hf : f ≤ 40) (ha0 : -9223372036854775808 ≤ a) (ha1 : a ≤ 9223372036854775807) (hb0 : -9223372036854775808 ≤ b) (hb1 : b ≤ 9223372036854775807) (w : World) :
    Calls Try.prog 62 #[.int .i64 a, .int .i64 b, .int .i64 f] w fun e w' => e = .returned (.tuple #[.int .i64 (fitV (mulZ a b f)), .int .i64 (fitE (mulZ a b f))]) ∧ Below w.heap.size w w' := by
  have hF := fun w => isfrac_any f w
  rw [decide_eq_true (by omega)] at hF
  obtain ⟨p1, p2⟩ := pow_le40 f hf
  have hSa := fun w => size_any a ha0 ha1 w
  have hSb := fun w => size_any b hb0 hb1 w
  have hxa : a.natAbs < W64 := by unfold W64; omega
  have hxb : b.natAbs < W64 := by unfold W64; omega
  have hM := fun w => mul64_any a.natAbs b.natAbs hxa hxb w
  have hsum : a.natAbs * b.natAbs / W64 * W64 + a.natAbs * b.natAbs % W64 = a.natAbs * b.natAbs := by rw [Nat.mul_comm]; exact Nat.div_add_mod _ _
  have h0 : a.natAbs * b.natAbs / W64 < W64 := by
    rw [Nat.div_lt_iff_lt_mul W64_pos]
    exact Nat.mul_lt_mul'' hxa hxb
  have hB := by_any (decide (a < 0) != decide (b < 0)) (a.natAbs * b.natAbs / W64) (a.natAbs * b.natAbs % W64) (2 ^ f) h0 (Nat.mod_lt _ W64_pos) (by unfold W64; omega) (by omega)
  rw [hsum] at hB
  have hz : sided (decide (a < 0) != decide (b < 0)) (rne (a.natAbs * b.natAbs) (2 ^ f)) = mulZ a b f := rfl
  rw [hz] at hB
  clear hz hsum h0 hxa hxb
  generalize mulZ a b f = z at *
  generalize a.natAbs * b.natAbs / W64 = hi at *
  generalize a.natAbs * b.natAbs % W64 = lo at *
  generalize a.natAbs = x at *
  generalize b.natAbs = y at *
  have hsh : IntKind.u64.wrap (1 * 2 ^ f) = ((2 ^ f : Nat) : Int) := by
    rw [IntKind.wrap_u64, Int.one_mul, show (2 : Int) ^ f = ((2 ^ f : Nat) : Int) from by simp]; omega
  have hsh2 : IntKind.u64.wrap (2 ^ f) = ((2 ^ f : Nat) : Int) := by
    rw [IntKind.wrap_u64, show (2 : Int) ^ f = ((2 ^ f : Nat) : Int) from by simp]; omega
  generalize 2 ^ f = d at *
  clear p1 p2 ha0 ha1 hb0 hb1
  have hs4 : (decide (a < 0) = true ∧ decide (b < 0) = true) ∨ (decide (a < 0) = true ∧ decide (b < 0) = false) ∨ (decide (a < 0) = false ∧ decide (b < 0) = true) ∨ (decide (a < 0) = false ∧ decide (b < 0) = false) := by
    simp only [decide_eq_true_eq, decide_eq_false_iff_not]; omega
  rcases hs4 with ⟨h1, h2⟩ | ⟨h1, h2⟩ | ⟨h1, h2⟩ | ⟨h1, h2⟩
  all_goals
    have hB : ∀ w, Calls Try.prog 80 #[.bool (decide (a < 0) != decide (b < 0)), .agg #[.int .u64 hi, .int .u64 lo], .int .u64 d] w fun e w' => e = .returned (.tuple #[.int .i64 (fitV z), .int .i64 (fitE z)]) ∧ Below w.heap.size w w' := hB
    rw [h1, h2] at hB
    go_enter Try.func62, Try.ntmps62
    go_wp2_with fail
    refine (hF _).mono ?_
    rintro e w' ⟨rfl, rfl⟩
    go_wp2_with fail
    refine (hSa _).mono ?_
    rintro e w' ⟨rfl, rfl⟩
    go_wp2_with fail
    refine (hSb _).mono ?_
    rintro e w' ⟨rfl, rfl⟩
    go_wp2_with fail
    refine (hM _).mono ?_
    rintro e w' ⟨rfl, rfl⟩
    go_wp2_with fail
    refine (hB _).mono ?_
    rintro e w' ⟨rfl, hb⟩
    go_wp2
    go_ret2
    exact ⟨rfl, hb⟩
end Go.Proofs.Ytbnnonmkkkhepaa
