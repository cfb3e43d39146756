/- Plain facts on binary figures of sums and products; Bits at a name. -/
import Derived.Test.YtegfgjapmnokjaaNatAid
namespace Go.Proofs.Ytegfgjapmnokjaa
open Go.RowKit
theorem bl_limbs (n : Nat) : bl n ≤ 64 * (limbs n).length := by
  rw [bl_le_iff, ← W64_pow]; exact lt_of_limbs_len (Nat.le_refl _)
theorem bl_add_lo (a b : Nat) : max (bl a) (bl b) ≤ bl (a + b) := by
  have h1 := bl_mono (Nat.le_add_right a b)
  have h2 := bl_mono (Nat.le_add_left b a)
  omega
theorem bl_add_hi (a b : Nat) : bl (a + b) ≤ max (bl a) (bl b) + 1 := by
  rw [bl_le_iff, Nat.pow_succ]
  have h1 := bl_le_iff.1 (Nat.le_max_left (bl a) (bl b))
  have h2 := bl_le_iff.1 (Nat.le_max_right (bl a) (bl b))
  omega
theorem bl_mul {a b : Nat} (ha : a ≠ 0) (hb : b ≠ 0) : bl (a * b) = bl a + bl b ∨ bl (a * b) + 1 = bl a + bl b := by
  have a1 := bl_le ha
  have b1 := bl_le hb
  have a2 := lt_bl a
  have b2 := lt_bl b
  have a0 : bl a ≠ 0 := fun e => ha (bl_eq_zero.1 e)
  have b0 : bl b ≠ 0 := fun e => hb (bl_eq_zero.1 e)
  have up : bl (a * b) ≤ bl a + bl b := by
    rw [bl_le_iff, Nat.pow_add]
    exact Nat.mul_lt_mul_of_lt_of_le a2 (Nat.le_of_lt b2) (Nat.pow_pos (by omega))
  have lo : 2 ^ (bl a - 1 + (bl b - 1)) ≤ a * b := by
    rw [Nat.pow_add]; exact Nat.mul_le_mul a1 b1
  rcases Nat.lt_or_ge (bl (a * b)) (bl a + bl b - 1) with h | h
  · have := bl_le_iff.1 (show bl (a * b) ≤ bl a - 1 + (bl b - 1) by omega)
    omega
  · omega
theorem one_of_bl {t : Nat} (h : 1 ≤ bl t) : 1 ≤ t := by
  rcases Nat.eq_zero_or_pos t with e | e
  · rw [e, bl_zero] at h; omega
  · exact e
theorem one_bl {x : Nat} (h : 1 ≤ x) : 1 ≤ bl x := by
  rcases Nat.eq_zero_or_pos (bl x) with e | e
  · have := bl_eq_zero.1 e; omega
  · exact e
theorem bits_to (v : Value) (n N : Nat) (w : World) (h : IsN w v n) (hl : (limbs n).length ≤ 1000000) (hN : bl n = N) :
    Calls Try.prog 21 #[v] w fun e w' => e = .returned (.int .i64 (N : Int)) ∧ w = w' := by
  subst hN; exact bits_any v n w h hl
/-- 'given' at two numbers that are -/
theorem given2 (va vb : Value) (na nb : Nat) (w : World) (h_a : IsN w va na) (h_b : IsN w vb nb) (sa : Sz na 20) (sb : Sz nb 20) (hwv : ∃ A m c A' m' c', va = .slice A m c ∧ vb = .slice A' m' c') :
    Calls Try.prog 16 #[.slice (some ⟨w.heap.size, 0, none⟩) 2 2] (w.alloc (.cells #[va, vb] 23)) fun e w' => e = .returned (.bool true) ∧ Below w.heap.size w w' := by
  obtain ⟨Aa, ma, ca, Ab, mb, cb, rfl, rfl⟩ := hwv
  have B : Below w.heap.size w (w.alloc (.cells #[.slice Aa ma ca, .slice Ab mb cb] 23)) := (Below.refl _ w).alloc (Nat.le_refl _) _
  have := given_any (some ⟨w.heap.size, 0, none⟩) 2 [(.slice Aa ma ca, limbs na), (.slice Ab mb cb, limbs nb)] (w.alloc (.cells #[.slice Aa ma ca, .slice Ab mb cb] 23)) (by simpa using Reads.fresh w 23 [.slice Aa ma ca, .slice Ab mb cb] 2 rfl) (by
      intro p hp
      simp only [List.mem_cons, List.not_mem_nil, or_false] at hp
      rcases hp with rfl | rfl
      · exact IsL.below h_a B
      · exact IsL.below h_b B) (by simp)
  refine this.mono ?_
  rintro e w' ⟨rfl, rfl⟩
  exact ⟨ret_bool (by simp [h_a.good sa, h_b.good sb]), B⟩
end Go.Proofs.Ytegfgjapmnokjaa
