/- Package fix: a number times another one by a third one. -/
import Derived.Test.YtgcebmgmmhdcpaaFix
namespace Go.Proofs.Ytgcebmgmmhdcpaa
open Go.RowKit
/-- a number times another one by a third one, before it is fitted -/
def scaleZ (a n d : Int) : Int := sided (decide (a < 0) != decide (n < 0)) (rne (a.natAbs * n.natAbs) d.toNat)
set_option maxHeartbeats 1000000 in
theorem fscale_any (a b d : Int) (hd : 1 ≤ d) (hd1 : d ≤ 9223372036854775807) (ha0 : -9223372036854775808 ≤ a) (ha1 : a ≤ 9223372036854775807) (hb0 : -9223372036854775808 ≤ b) (hb1 : b ≤ 9223372036854775807) (w : World) :
    Calls Try.prog 86 #[.int .i64 a, .int .i64 b, .int .i64 d] w fun e w' => e = .returned (.tuple #[.int .i64 (fitV (scaleZ a b d)), .int .i64 (fitE (scaleZ a b d))]) ∧ Below w.heap.size w w' := by
  have hSa := fun w => size_any a ha0 ha1 w
  have hSb := fun w => size_any b hb0 hb1 w
  have hxa : a.natAbs < W64 := by unfold W64; omega
  have hxb : b.natAbs < W64 := by unfold W64; omega
  have hM := fun w => mul64_any a.natAbs b.natAbs hxa hxb w
  have hsum : a.natAbs * b.natAbs / W64 * W64 + a.natAbs * b.natAbs % W64 = a.natAbs * b.natAbs := by rw [Nat.mul_comm]; exact Nat.div_add_mod _ _
  have h0 : a.natAbs * b.natAbs / W64 < W64 := by
    rw [Nat.div_lt_iff_lt_mul W64_pos]
    exact Nat.mul_lt_mul'' hxa hxb
  have hB := by_any (decide (a < 0) != decide (b < 0)) (a.natAbs * b.natAbs / W64) (a.natAbs * b.natAbs % W64) d.toNat h0 (Nat.mod_lt _ W64_pos) (by unfold W64; omega) (by omega)
  rw [hsum] at hB
  have hz : sided (decide (a < 0) != decide (b < 0)) (rne (a.natAbs * b.natAbs) d.toNat) = scaleZ a b d := rfl
  rw [hz] at hB
  clear hz hsum h0 hxa hxb
  generalize scaleZ a b d = z at *
  generalize a.natAbs * b.natAbs / W64 = hi at *
  generalize a.natAbs * b.natAbs % W64 = lo at *
  generalize a.natAbs = x at *
  generalize b.natAbs = y at *
  obtain ⟨k, rfl⟩ := Int.eq_ofNat_of_zero_le (show 0 ≤ d by omega)
  rw [Int.toNat_natCast] at hB
  have hsh : IntKind.u64.wrap (k : Int) = (k : Int) := by rw [IntKind.wrap_u64]; omega
  have hd0 : decide ((k : Int) < 1) = false := decide_eq_false (by omega)
  clear ha0 ha1 hb0 hb1 hd hd1
  have hs4 : (decide (a < 0) = true ∧ decide (b < 0) = true) ∨ (decide (a < 0) = true ∧ decide (b < 0) = false) ∨ (decide (a < 0) = false ∧ decide (b < 0) = true) ∨ (decide (a < 0) = false ∧ decide (b < 0) = false) := by
    simp only [decide_eq_true_eq, decide_eq_false_iff_not]; omega
  rcases hs4 with ⟨h1, h2⟩ | ⟨h1, h2⟩ | ⟨h1, h2⟩ | ⟨h1, h2⟩
  all_goals
    have hB : ∀ w, Calls Try.prog 91 #[.bool (decide (a < 0) != decide (b < 0)), .agg #[.int .u64 hi, .int .u64 lo], .int .u64 k] w fun e w' => e = .returned (.tuple #[.int .i64 (fitV z), .int .i64 (fitE z)]) ∧ Below w.heap.size w w' := hB
    rw [h1, h2] at hB
    go_enter Try.func86, Try.ntmps86
    go_wp2_with fail
    refine (hSa _).mono ?_
    rintro e w' ⟨rfl, rfl⟩
    go_wp2_with fail
    refine (hSb _).mono ?_
    rintro e w' ⟨rfl, rfl⟩
    go_wp2_with fail
    refine (hM _).mono ?_
    rintro e w' ⟨rfl, rfl⟩
    go_wp2_with fail
    refine (hB _).mono ?_
    rintro e w' ⟨rfl, b1⟩
    go_wp2
    go_ret2
    exact ⟨rfl, b1⟩
end Go.Proofs.Ytgcebmgmmhdcpaa
