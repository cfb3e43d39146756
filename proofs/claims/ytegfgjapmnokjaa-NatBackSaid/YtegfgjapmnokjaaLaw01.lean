/- The live question of layer 1, and which numbers are given. -/
import Derived.Test.YtegfgjapmnokjaaAdd
import Derived.Test.YtegfgjapmnokjaaMul
import Derived.Test.YtegfgjapmnokjaaBits2
import Derived.Test.YtegfgjapmnokjaaRef1
import Derived.Test.YtegfgjapmnokjaaCmp
namespace Go.Proofs.Ytegfgjapmnokjaa
open Go.RowKit

theorem limbs_W64 : limbs W64 = [0, 1] := limbs_num [0, 1] (Bd.cons W64_pos (Bd.cons (by unfold W64; omega) Bd.nil)) (.inr (by decide))
theorem limbs_max : limbs 18446744073709551615 = [18446744073709551615] := limbs_single (by omega) (by unfold W64; omega)

set_option maxHeartbeats 1000000 in
theorem alive01_any (w : World) : Calls Try.prog 10 #[] w fun e w' => e = .returned (.bool true) ∧ Below w.heap.size w w' := by
  have h0 : IsN (w.alloc (.cells #[.int .u64 18446744073709551615] 24)) (.slice (some ⟨w.heap.size, 0, none⟩) 1 1) 18446744073709551615 := by
    have := IsL.fresh w 24 [18446744073709551615] (Bd.cons (by unfold W64; omega) Bd.nil) (by simp)
    unfold IsN; rw [limbs_max]; exact this
  have b0 : Below w.heap.size w (w.alloc (.cells #[.int .u64 18446744073709551615] 24)) := (Below.refl _ w).alloc (Nat.le_refl _) _
  go_enter Try.func10, Try.ntmps10
  go_wp2_with fail
  refine (of_any 1 (by unfold W64; omega) _).mono ?_
  rintro e w1 ⟨v1, rfl, h1, b1⟩
  have h0 := h0.below b1
  have b1 := b0.trans (b1.mono b0.size)
  go_wp2_with fail
  refine (add_any _ v1 18446744073709551615 1 w1 h0 h1 (by rw [limbs_max]; simp) (by rw [limbs_single (by omega) (by unfold W64; omega)]; simp)).mono ?_
  rintro e w2 ⟨v2, rfl, h2, b2⟩
  rw [show 18446744073709551615 + 1 = W64 from rfl] at h2
  have b2 := b1.trans (b2.mono b1.size)
  clear b0 b1 h0 h1
  go_wp2_with fail
  refine (of_any 7 (by unfold W64; omega) _).mono ?_
  rintro e w3 ⟨v3, rfl, h3, b3⟩
  have h2 := h2.below b3
  have b3 := b2.trans (b3.mono b2.size)
  have e7 : limbs 7 = [7] := limbs_single (by omega) (by unfold W64; omega)
  go_wp2_with fail
  refine (show Calls Try.prog 17 #[v3] w3 (fun e w' => e = .returned (.tuple #[.int .u64 7, .bool true]) ∧ w3 = w') from small_any v3 [7] w3 (by have h := h3; unfold IsN at h; rwa [e7] at h)).mono ?_
  rintro e w' ⟨rfl, rfl⟩
  have E7 := Lib.hid e7
  clear e7 b2
  have hL : IsL w3 v2 [0, 1] := by have h := h2; unfold IsN at h; rwa [limbs_W64] at h
  have hL0 := hL
  obtain ⟨A, c, rfl, hc, hc', _, hr⟩ := hL
  obtain ⟨ad, rfl, _, hx0⟩ := us_cell0 hr (by simp)
  obtain ⟨_, e, _, hx1⟩ := us_cell hr (k := 1) (by simp)
  obtain rfl := Option.some.inj e
  rw [Addr.add, if_neg (by omega)] at hx1
  rw [show lat [0, 1] 0 = 0 from rfl] at hx0
  rw [show lat [0, 1] 1 = 1 from rfl] at hx1
  go_wp2_with fail
  refine (show Calls Try.prog 11 #[.slice (some ad) 2 c] w3 (fun e w' => e = .returned (.bool true) ∧ w3 = w') from right_any _ [0, 1] w3 hL0).mono ?_
  rintro e w' ⟨rfl, rfl⟩
  go_wp2_with fail
  refine (of_any 7 (by unfold W64; omega) _).mono ?_
  rintro e w4 ⟨v4, rfl, h4, b4⟩
  have h2 := h2.below b4
  have b4 := b3.trans (b4.mono b3.size)
  go_wp2_with fail
  refine (show Calls Try.prog 19 #[.slice (some ad) 2 c, v4] w4 (fun e w' => e = .returned (.int .i64 1) ∧ Below w4.heap.size w4 w') from cmp_any _ _ W64 7 w4 h2 h4).mono ?_
  rintro e w5 ⟨rfl, b5⟩
  have h2 := h2.below b5
  have b5 := b4.trans (b5.mono b4.size)
  go_wp2_with fail
  refine (show Calls Try.prog 21 #[.slice (some ad) 2 c] w5 (fun e w' => e = .returned (.int .i64 65) ∧ w5 = w') from by
    have h := bits_any _ W64 w5 h2 (by rw [limbs_W64]; simp)
    rwa [show bl W64 = 65 from bl_unique (b := 64) (by unfold W64; omega) (by unfold W64; omega)] at h).mono ?_
  rintro e w' ⟨rfl, rfl⟩
  go_wp2_with fail
  refine (mul_any _ _ W64 W64 w5 h2 h2 (by rw [limbs_W64]; simp) (by rw [limbs_W64]; simp)).mono ?_
  rintro e w6 ⟨v6, rfl, h6, b6⟩
  have e6 : limbs (W64 * W64) = [0, 0, 1] := limbs_num [0, 0, 1] (Bd.cons W64_pos (Bd.cons W64_pos (Bd.cons (by unfold W64; omega) Bd.nil))) (.inr (by decide))
  unfold IsN at h6
  rw [e6] at h6
  obtain ⟨A6, c6, rfl, _⟩ := h6
  clear e6
  go_wp2
  go_ret
  exact ⟨rfl, b5.trans (b6.mono b5.size)⟩
end Go.Proofs.Ytegfgjapmnokjaa
