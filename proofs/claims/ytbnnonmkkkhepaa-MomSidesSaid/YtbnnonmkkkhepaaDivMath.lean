/- Plain facts on dividing two limbs by one, figure by figure of 32 bits. No program in sight. -/
import Derived.Test.YtbnnonmkkkhepaaMath
namespace Go.Proofs.Ytbnnonmkkkhepaa

theorem W32_ex : ∃ n : Nat, n = 4294967296 := ⟨_, rfl⟩
/-- 2 to the power of 32, under a name that nothing unfolds -/
noncomputable def W32 : Nat := Classical.choose W32_ex
theorem W32_eq : W32 = 4294967296 := Classical.choose_spec W32_ex

theorem q_ok {u v1 v0 n q r y : Nat} (hy : y = v1 * W32 + v0) (hq : q * v1 + r = u) (hc : q * v0 ≤ W32 * r + n) : q * y ≤ u * W32 + n := by
  subst hy; subst hq; simp only [W32_eq] at *; grind
theorem q_big {u v1 v0 n q r y : Nat} (hy : y = v1 * W32 + v0) (hq : q * v1 + r = u) (hc : W32 * r + n < q * v0) : u * W32 + n < q * y := by
  subst hy; subst hq; simp only [W32_eq] at *; grind
theorem q_huge {u n q y : Nat} (hu : u < y) (hn : n < W32) (hc : W32 ≤ q) : u * W32 + n < q * y := by
  have h1 : W32 * y ≤ q * y := Nat.mul_le_mul_right _ hc
  have h2 : (u + 1) * W32 ≤ y * W32 := Nat.mul_le_mul_right _ hu
  simp only [W32_eq] at *; omega
theorem q_break {v0 n q r : Nat} (hr : W32 ≤ r) (hq : q ≤ W32) (hv : v0 < W32) : q * v0 ≤ W32 * r + n := by
  have h1 : q * v0 ≤ W32 * v0 := Nat.mul_le_mul_right _ hq
  have h2 : W32 * W32 ≤ W32 * r := Nat.mul_le_mul_left _ hr
  simp only [W32_eq] at *; omega
/-- the first guess is no less, and at most one more than a figure -/
theorem q_first {u v1 v0 n y : Nat} (hy : y = v1 * W32 + v0) (h1 : 2147483648 ≤ v1) (hv : v0 < W32) (hu : u < y) (hn : n < W32) :
    u / v1 ≤ W32 + 1 ∧ u / v1 * v1 + u % v1 = u ∧ u * W32 + n < (u / v1 + 1) * y := by
  have hp : 0 < v1 := by omega
  have hd := Nat.div_add_mod u v1
  have hm := Nat.mod_lt u hp
  have hc : u / v1 * v1 + u % v1 = u := by rw [Nat.mul_comm]; exact hd
  refine ⟨?_, hc, ?_⟩
  · have : u / v1 < W32 + 2 := by
      rw [Nat.div_lt_iff_lt_mul hp]
      simp only [W32_eq] at *; omega
    omega
  · have h2 : u + 1 ≤ (u / v1 + 1) * v1 := by rw [Nat.add_mul]; omega
    have h3 : (u + 1) * W32 ≤ (u / v1 + 1) * v1 * W32 := Nat.mul_le_mul_right _ h2
    have h4 : (u / v1 + 1) * y = (u / v1 + 1) * v1 * W32 + (u / v1 + 1) * v0 := by rw [hy, Nat.mul_add, Nat.mul_assoc]
    rw [h4]
    rw [Nat.add_mul, Nat.one_mul] at h3
    omega
theorem q_down {q v1 r u : Nat} (h : q * v1 + r = u) (hq : 0 < q) : (q - 1) * v1 + (r + v1) = u := by
  obtain ⟨p, rfl⟩ : ∃ p, q = p + 1 := ⟨q - 1, by omega⟩
  rw [Nat.add_mul, Nat.one_mul] at h
  simp only [Nat.add_sub_cancel]
  omega
/-- the figure that was found -/
theorem q_is {a q y : Nat} (h1 : q * y ≤ a) (h2 : a < (q + 1) * y) : q = a / y := by
  have hy : 0 < y := by
    rcases Nat.eq_zero_or_pos y with h | h
    · subst h; omega
    · exact h
  exact (Nat.div_eq_of_lt_le h1 h2).symm
theorem q_lt {u n y : Nat} (hu : u < y) (hn : n < W32) : (u * W32 + n) / y < W32 := by
  have hy : 0 < y := by omega
  rw [Nat.div_lt_iff_lt_mul hy]
  have h2 : (u + 1) * W32 ≤ y * W32 := Nat.mul_le_mul_right _ hu
  rw [Nat.mul_comm W32 y]
  simp only [W32_eq] at *; omega
/-- what is left, reckoned round 2 to the power of 64 -/
theorem rem_wrap {a q y : Nat} (hq : q = a / y) (hy : 0 < y) (hy2 : y ≤ W64) : ((a % W64 + W64 - (q * y) % W64) % W64) = a % y := by
  have h := Nat.div_add_mod a y
  rw [← hq, Nat.mul_comm] at h
  have hm := Nat.mod_lt a hy
  unfold W64 at *
  omega
end Go.Proofs.Ytbnnonmkkkhepaa
