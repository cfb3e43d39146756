/- The nearest code of a share, plainly. No program in sight. -/
import Derived.Test.YtgcebmgmmhdcpaaCodeP
namespace Go.Proofs.Ytgcebmgmmhdcpaa
/-- how far a code's number is from a share, times both denominators -/
def dist (n : Nat) (num d : Int) (o : Nat) : Nat := (num * den (n : Nat) - iat (bk n) o * d).natAbs
theorem gaps1 : ∀ k < 4, (List.range 255).all (fun j => decide (iat (bk k) (j + 1) - iat (bk k) j ≤ gz (k : Nat))) = true := by decide +kernel
theorem low1 : ∀ k < 4, (if sgn (k : Nat) then decide (2 * (iat (bk k) 0 + den (k : Nat)) ≤ gz (k : Nat)) else decide (2 * iat (bk k) 0 ≤ gz (k : Nat))) = true := by decide +kernel
theorem gz_bound : ∀ k < 4, 0 ≤ gz (k : Nat) ∧ gz (k : Nat) ≤ 2560000000 := by decide +kernel
theorem gaps_at {k : Nat} (hk : k < 4) {j : Nat} (hj : j < 255) : iat (bk k) (j + 1) - iat (bk k) j ≤ gz (k : Nat) := by
  have := List.all_eq_true.1 (gaps1 k hk) j (by simpa using hj)
  simpa using this
theorem code_spec {n : Nat} (hn : n < 4) {num d : Int} (hs : share n num d = true) :
    (∀ i, i < codeOf n num d → (iat (bk n) i + iat (bk n) (i + 1)) * d < 2 * (num * den (n : Nat))) ∧ (∀ i, codeOf n num d ≤ i → i < 255 → 2 * (num * den (n : Nat)) ≤ (iat (bk n) i + iat (bk n) (i + 1)) * d) := by
  obtain ⟨_, hd, _⟩ := (share_iff _ _ _).1 hs
  rw [codeOf_of hs, Int.toNat_natCast]
  obtain ⟨h1, h2, h3⟩ := lowest_ok (pAt n num d) 255
  have e : num * (2 * den (n : Nat)) = 2 * (num * den (n : Nat)) := by rw [Int.mul_left_comm]
  refine ⟨fun i hi => by have := pAt_false.1 (h2 i hi); rwa [e] at this, fun i h h' => ?_⟩
  have := pAt_true.1 (pAt_mono hn hd h h' (h3 (by omega)))
  rwa [e] at this
theorem near_dist {n : Nat} (hn : n < 4) {num d : Int} (hs : share n num d = true) {o : Nat} (ho : o < 256) :
    (o < codeOf n num d → dist n num d (codeOf n num d) < dist n num d o) ∧ (codeOf n num d ≤ o → dist n num d (codeOf n num d) ≤ dist n num d o) := by
  obtain ⟨lo, hi⟩ := code_spec hn hs
  obtain ⟨_, hd, _⟩ := (share_iff _ _ _).1 hs
  have hc := codeOf_le n num d
  generalize codeOf n num d = c at *
  unfold dist
  generalize num * den (n : Nat) = X at *
  constructor
  · intro h
    have a := lo (c - 1) (by omega)
    rw [Nat.sub_add_cancel (by omega), Int.add_mul] at a
    have m1 := Int.mul_le_mul_of_nonneg_right (bk_mono hn (i := o) (j := c - 1) (by omega) (by omega)) (show 0 ≤ d by omega)
    have m2 := bk_lt hn (j := c - 1) (by omega)
    rw [Nat.sub_add_cancel (by omega)] at m2
    have m3 := Int.mul_lt_mul_of_pos_right m2 (show 0 < d by omega)
    omega
  · intro h
    rcases Nat.eq_or_lt_of_le h with rfl | h
    · exact Nat.le_refl _
    · have a := hi c (Nat.le_refl _) (by omega)
      rw [Int.add_mul] at a
      have m1 := Int.mul_le_mul_of_nonneg_right (bk_mono hn (i := c + 1) (j := o) (by omega) (by omega)) (show 0 ≤ d by omega)
      have m3 := Int.mul_lt_mul_of_pos_right (bk_lt hn (j := c) (by omega)) (show 0 < d by omega)
      omega
theorem near_gap {n : Nat} (hn : n < 4) {num d : Int} (hs : share n num d = true) : (2 * dist n num d (codeOf n num d) : Nat) ≤ gz (n : Nat) * d := by
  obtain ⟨lo, hi⟩ := code_spec hn hs
  obtain ⟨_, hd, hnd, hdn, hsg⟩ := (share_iff _ _ _).1 hs
  have hc := codeOf_le n num d
  generalize codeOf n num d = c at *
  obtain ⟨d0, d1⟩ := dens_pos hn
  have g0 := (gz_bound n hn).1
  have u1 := Int.mul_le_mul_of_nonneg_right hnd (show (0 : Int) ≤ den (n : Nat) by omega)
  have gd := Int.mul_nonneg g0 (show 0 ≤ d by omega)
  have hlow := low1 n hn
  have hsd := (bk_side hn (j := 0) (by omega)).2.2
  unfold dist
  have l1 : num * den (n : Nat) - iat (bk n) c * d ≤ 0 ∨ 2 * (num * den (n : Nat) - iat (bk n) c * d) ≤ gz (n : Nat) * d := by
    rcases Nat.lt_or_ge c 255 with h | h
    · have a := hi c (Nat.le_refl _) h
      have b := Int.mul_le_mul_of_nonneg_right (gaps_at hn h) (show 0 ≤ d by omega)
      rw [Int.sub_mul] at b
      rw [Int.add_mul] at a
      right; omega
    · obtain rfl : c = 255 := by omega
      left; rw [lasts n hn, Int.mul_comm (den (n : Nat)) d]; omega
  have l2 : iat (bk n) c * d - num * den (n : Nat) ≤ 0 ∨ 2 * (iat (bk n) c * d - num * den (n : Nat)) ≤ gz (n : Nat) * d := by
    rcases Nat.eq_zero_or_pos c with rfl | h
    · right
      rcases hsg with hz | hz
      · have hp := Int.mul_nonneg hz (show (0 : Int) ≤ den (n : Nat) by omega)
        have b : 2 * iat (bk n) 0 ≤ gz (n : Nat) := by
          cases h : sgn (n : Nat)
          · rw [h] at hlow; simpa using hlow
          · rw [h] at hlow
            have : 2 * (iat (bk n) 0 + den (n : Nat)) ≤ gz (n : Nat) := by simpa using hlow
            omega
        have := Int.mul_le_mul_of_nonneg_right b (show 0 ≤ d by omega)
        rw [Int.mul_assoc] at this
        omega
      · rw [hz] at hlow
        have b : 2 * (iat (bk n) 0 + den (n : Nat)) ≤ gz (n : Nat) := by simpa using hlow
        have e := Int.mul_le_mul_of_nonneg_right hdn (show (0 : Int) ≤ den (n : Nat) by omega)
        rw [Int.neg_mul] at e
        have := Int.mul_le_mul_of_nonneg_right b (show 0 ≤ d by omega)
        rw [Int.mul_assoc, Int.add_mul, Int.mul_comm (den (n : Nat)) d] at this
        omega
    · have a := lo (c - 1) (by omega)
      have b := Int.mul_le_mul_of_nonneg_right (gaps_at hn (j := c - 1) (by omega)) (show 0 ≤ d by omega)
      rw [Nat.sub_add_cancel (by omega), Int.sub_mul] at b
      rw [Nat.sub_add_cancel (by omega), Int.add_mul] at a
      right; omega
  omega
end Go.Proofs.Ytgcebmgmmhdcpaa
