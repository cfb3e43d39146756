/- Codes of shares: order, back, scaled, plainly. No program in sight. -/
import Derived.Test.YtgcebmgmmhdcpaaCodeM
namespace Go.Proofs.Ytgcebmgmmhdcpaa
theorem share_iff (k num d : Int) : share k num d = true ↔ (0 ≤ k ∧ k ≤ 3) ∧ 1 ≤ d ∧ num ≤ d ∧ -d ≤ num ∧ (0 ≤ num ∨ sgn k = true) := by
  unfold share; simp only [Bool.and_eq_true, decide_eq_true_eq, Bool.or_eq_true]
theorem codeE_zero {k num d : Int} (h : codeE k num d = 0) : share k num d = true := by
  unfold codeE at h
  cases e : share k num d
  · rw [e] at h; simp at h
  · rfl
theorem codeE_cases (k num d : Int) : codeE k num d = 0 ∨ codeE k num d = 1 := by unfold codeE; split <;> simp
theorem codeE_of {k num d : Int} (h : share k num d = true) : codeE k num d = 0 := if_pos h
theorem codeOf_of {k num d : Int} (h : share k num d = true) : codeOf k num d = lowest (pAt k.toNat num d) 255 := if_pos h
theorem dens_pos {n : Nat} (hn : n < 4) : 255 ≤ den (n : Nat) ∧ den (n : Nat) ≤ 2560000000 := by rcases dens n hn with e | e <;> omega
theorem pAt_false {n : Nat} {num d : Int} {i : Nat} : pAt n num d i = false ↔ (iat (bk n) i + iat (bk n) (i + 1)) * d < num * (2 * den (n : Nat)) := by
  unfold pAt; rw [decide_eq_false_iff_not]; omega
theorem pAt_true {n : Nat} {num d : Int} {i : Nat} : pAt n num d i = true ↔ num * (2 * den (n : Nat)) ≤ (iat (bk n) i + iat (bk n) (i + 1)) * d := by
  unfold pAt; rw [decide_eq_true_iff]
theorem kind_nat {k : Int} (h : 0 ≤ k ∧ k ≤ 3) : ∃ n : Nat, k = n ∧ n < 4 := ⟨k.toNat, by omega, by omega⟩
/-- ORDER -/
theorem order_runs {k a b d : Int} (h1 : codeE k a d = 0) (h2 : codeE k b d = 0) (hab : a ≤ b) : codeOf k a d ≤ codeOf k b d ∧ codeE k d d = 0 ∧ codeOf k d d = 255 := by
  have s1 := codeE_zero h1
  have s2 := codeE_zero h2
  obtain ⟨hk, hd, _⟩ := (share_iff k a d).1 s1
  have s3 : share k d d = true := (share_iff k d d).2 ⟨hk, hd, by omega, by omega, by omega⟩
  obtain ⟨n, rfl, hn⟩ := kind_nat hk
  refine ⟨?_, codeE_of s3, ?_⟩
  · rw [codeOf_of s1, codeOf_of s2, Int.toNat_natCast]
    obtain ⟨k1, k2, k3⟩ := lowest_ok (pAt n a d) 255
    obtain ⟨m1, m2, m3⟩ := lowest_ok (pAt n b d) 255
    rcases Nat.lt_or_ge (lowest (pAt n b d) 255) (lowest (pAt n a d) 255) with h | h
    · have x := pAt_true.1 (m3 (by omega))
      have y := pAt_false.1 (k2 _ h)
      have z := Int.mul_le_mul_of_nonneg_right hab (show (0 : Int) ≤ 2 * den (n : Nat) by have := dens_pos hn; omega)
      omega
    · exact h
  · rw [codeOf_of s3, Int.toNat_natCast]
    refine lowest_eq (Nat.le_refl _) (fun i hi => pAt_false.2 ?_) (fun h => by omega)
    have a1 := bk_lt hn hi
    have a2 := (bk_side hn (j := i + 1) (by omega)).2.1
    have hs : iat (bk n) i + iat (bk n) (i + 1) ≤ 2 * den (n : Nat) - 1 := by omega
    have := Int.mul_le_mul_of_nonneg_right hs (show 0 ≤ d by omega)
    rw [Int.sub_mul, Int.one_mul, Int.mul_comm (2 * den (n : Nat)) d] at this
    omega
theorem mul_le_iff {a b c : Int} (h : 1 ≤ c) : a * c ≤ b * c ↔ a ≤ b := Int.mul_le_mul_right (by omega)
/-- BACK -/
theorem back_runs {n c : Nat} (hn : n < 4) (hc : c < 256) {K : Int} (hK : 1 ≤ K) : codeE n (iat (bk n) c * K) (den (n : Nat) * K) = 0 ∧ codeOf n (iat (bk n) c * K) (den (n : Nat) * K) = c := by
  obtain ⟨d0, d1⟩ := dens_pos hn
  obtain ⟨e1, e2, e3⟩ := bk_side hn hc
  have hDK : 1 ≤ den (n : Nat) * K := by have := Int.mul_le_mul (show (1 : Int) ≤ den (n : Nat) by omega) hK (by omega) (by omega); omega
  have s : share n (iat (bk n) c * K) (den (n : Nat) * K) = true := by
    refine (share_iff _ _ _).2 ⟨by omega, hDK, (mul_le_iff hK).2 e2, ?_, ?_⟩
    · rw [← Int.neg_mul]; exact (mul_le_iff hK).2 e1
    · rcases e3 with e3 | e3
      · exact .inr e3
      · exact .inl (Int.mul_nonneg e3 (by omega))
  refine ⟨codeE_of s, ?_⟩
  rw [codeOf_of s, Int.toNat_natCast]
  have key : ∀ x : Int, x * (den (n : Nat) * K) < iat (bk n) c * K * (2 * den (n : Nat)) ↔ x < 2 * iat (bk n) c := by
    intro x
    have e : iat (bk n) c * K * (2 * den (n : Nat)) = 2 * iat (bk n) c * (den (n : Nat) * K) := by
      rw [Int.mul_assoc, Int.mul_left_comm K 2, ← Int.mul_assoc (iat (bk n) c) 2, Int.mul_comm (iat (bk n) c) 2, Int.mul_comm K (den (n : Nat))]
    rw [e]
    have := mul_le_iff (a := 2 * iat (bk n) c) (b := x) hDK
    omega
  refine lowest_eq (by omega) (fun i hi => pAt_false.2 ((key _).2 ?_)) (fun h => pAt_true.2 ?_)
  · have a1 := bk_lt hn (j := i) (by omega)
    have a2 := bk_mono hn (i := i + 1) (j := c) (by omega) (by omega)
    omega
  · have a1 := bk_lt hn (j := c) h
    have := key (iat (bk n) c + iat (bk n) (c + 1))
    omega
/-- SCALED -/
theorem scaled_runs (k num d : Int) {K : Int} (hK : 1 ≤ K) : codeE k (num * K) (d * K) = codeE k num d ∧ codeOf k (num * K) (d * K) = codeOf k num d := by
  have hd : 1 ≤ d * K ↔ 1 ≤ d := by
    constructor
    · intro h
      rcases Int.lt_or_le d 1 with h' | h'
      · have := Int.mul_le_mul_of_nonneg_right (show d ≤ 0 by omega) (show 0 ≤ K by omega)
        rw [Int.zero_mul] at this; omega
      · exact h'
    · intro h
      have := Int.mul_le_mul h hK (by omega) (by omega)
      omega
  have h0 : 0 ≤ num * K ↔ 0 ≤ num := by have := mul_le_iff (a := 0) (b := num) hK; rwa [Int.zero_mul] at this
  have hs : share k (num * K) (d * K) = share k num d := by
    rw [Bool.eq_iff_iff, share_iff, share_iff, hd, mul_le_iff hK, h0, ← Int.neg_mul, mul_le_iff hK]
  have hp : pAt k.toNat (num * K) (d * K) = pAt k.toNat num d := by
    funext i
    unfold pAt
    rw [show num * K * (2 * den (k.toNat : Nat)) = num * (2 * den (k.toNat : Nat)) * K from by rw [Int.mul_assoc, Int.mul_comm K, ← Int.mul_assoc], show (iat (bk k.toNat) i + iat (bk k.toNat) (i + 1)) * (d * K) = (iat (bk k.toNat) i + iat (bk k.toNat) (i + 1)) * d * K from (Int.mul_assoc _ _ _).symm]
    exact decide_eq_decide.2 (mul_le_iff hK)
  unfold codeE codeOf
  rw [hs, hp]
  exact ⟨rfl, rfl⟩
end Go.Proofs.Ytgcebmgmmhdcpaa
