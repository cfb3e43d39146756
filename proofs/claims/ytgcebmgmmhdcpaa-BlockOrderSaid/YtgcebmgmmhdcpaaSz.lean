/- Sizes of numbers, by limbs; small functions of the reference at numbers. -/
import Derived.Test.YtgcebmgmmhdcpaaRef4
import Derived.Test.YtgcebmgmmhdcpaaBits2
namespace Go.Proofs.Ytgcebmgmmhdcpaa
open Go.RowKit
/-- a number of at most k limbs -/
def Sz (n k : Nat) : Prop := (limbs n).length ≤ k
theorem Sz.fin {n k : Nat} (h : Sz n k) (hk : k ≤ 1000000) : (limbs n).length ≤ 1000000 := Nat.le_trans h hk
theorem Sz.add {a b k m : Nat} (ha : Sz a k) (hb : Sz b m) : Sz (a + b) (k + m + 1) := by
  unfold Sz at *; have := limbs_len_add a b; omega
theorem Sz.mul {a b k m : Nat} (ha : Sz a k) (hb : Sz b m) : Sz (a * b) (k + m) := by
  unfold Sz at *; have := limbs_len_mul a b; omega
theorem Sz.sub {a b k : Nat} (ha : Sz a k) : Sz (a - b) k := Nat.le_trans (limbs_len_mono (Nat.sub_le a b)) ha
theorem Sz.le {a b k : Nat} (ha : Sz a k) (h : b ≤ a) : Sz b k := Nat.le_trans (limbs_len_mono h) ha
theorem Sz.more {a k m : Nat} (ha : Sz a k) (h : k ≤ m) : Sz a m := Nat.le_trans ha h
theorem Sz.zero : Sz 0 0 := by unfold Sz; rw [limbs_zero]; simp
theorem Sz.one : Sz 1 1 := by unfold Sz; rw [limbs_single (by omega) (by unfold W64; omega)]; simp
theorem Sz.pow {n k : Nat} (h : n < W64 ^ k) : Sz n k := limbs_len_le h
theorem Sz.two_pow (n : Nat) : Sz (2 ^ n) (n / 64 + 1) := by
  apply Sz.pow; rw [W64_pow]; exact Nat.pow_lt_pow_right (by omega) (by omega)
theorem Sz.bl {n k : Nat} (h : Sz n k) : bl n ≤ 64 * k := by
  rw [bl_le_iff, ← W64_pow]; exact lt_of_limbs_len h
theorem Sz.u64 {n : Nat} (h : n < W64) : Sz n 1 := Sz.pow (by rwa [Nat.pow_one])

theorem IsN.open_ {w : World} {v : Value} {n : Nat} (h : IsN w v n) : ∃ A m c, v = .slice A m c ∧ m = (limbs n).length := by obtain ⟨A, c, e, _⟩ := h; exact ⟨A, _, c, e, rfl⟩
end Go.Proofs.Ytgcebmgmmhdcpaa
