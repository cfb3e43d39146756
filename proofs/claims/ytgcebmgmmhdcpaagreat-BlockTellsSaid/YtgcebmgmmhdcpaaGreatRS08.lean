/- The document's Scale: a number times another one by a third one. Printed by gen_div05.py. -/
import Derived.Test.YtgcebmgmmhdcpaaGreatRat6
import Derived.Test.YtgcebmgmmhdcpaaGreatR08
namespace Go.Proofs.YtgcebmgmmhdcpaaGreat
open Go.RowKit
attribute [local go_sem ↓] Go.wp_at_zero Go.wp_at_succ

theorem nearZ_ints (x n d : Int) (hd : 1 ≤ d) : nearQ (divQ ((x : Rat) * (n : Rat)) (d : Rat)) 0 = nearZ (x * n) d.toNat := by
  have e1 : (x : Rat) * (n : Rat) = ((x * n : Int) : Rat) := by rw [Rat.intCast_mul]
  rw [e1]
  unfold divQ
  rw [Rat.num_intCast, Rat.den_intCast, Rat.num_intCast, Rat.den_intCast, decide_eq_false (show ¬ d < 0 by omega)]
  rw [nearQ_mk _ _ _ (by omega)]
  rw [show sided false 1 = 1 from rfl, Int.mul_one, Nat.one_mul, Int.pow_zero, Int.mul_one, show d.natAbs = d.toNat by omega]
set_option maxHeartbeats 4000000 in
theorem r08scale_any (x n d : Int) (w : World) (hx : In64 x) (hn : In64 n) (hd : 1 ≤ d) (hd1 : d ≤ 9223372036854775807) :
    Calls Tryz.prog 34 #[.int .i64 x, .int .i64 n, .int .i64 d] w fun e w' => e = .returned (.tuple #[.int .i64 (fitV (nearZ (x * n) d.toNat)), .int .i64 (fitE (nearZ (x * n) d.toNat))]) ∧ Below w.heap.size w w' := by
  have hO1 := fun w => rqof_any x hx.1 hx.2 w
  have hO2 := fun w => rqof_any n hn.1 hn.2 w
  have hO3 := fun w => rqof_any d (by omega) hd1 w
  have s1 : BQ (x : Rat) 1 := BQ.int (by have := hx.1; have := hx.2; unfold W64; omega)
  have s2 : BQ (n : Rat) 1 := BQ.int (by have := hn.1; have := hn.2; unfold W64; omega)
  have s3 : BQ (d : Rat) 1 := BQ.int (by unfold W64; omega)
  have s4 := s1.mul s2
  have hM := fun u v w h1 h2 => rqmul_any u v (x : Rat) (n : Rat) w h1 h2 (s1.more (by omega)) (s2.more (by omega))
  have hD := fun u v w h1 h2 => rqdiv_any u v ((x : Rat) * (n : Rat)) (d : Rat) w h1 h2 (s4.more (by omega)) (s3.more (by omega)) (by rw [Rat.num_intCast]; omega)
  have s5 : BQ (divQ ((x : Rat) * (n : Rat)) (d : Rat)) 20 := by
    unfold divQ
    refine BQ.mk ((s4.1.imul (m := 1) ?_).more (by omega)) ((s4.2.mul s3.1).more (by omega)) (by omega)
    rw [Rat.num_intCast, decide_eq_false (show ¬ d < 0 by omega)]
    exact s3.2
  have hN := fun u w h => r08near_any u (divQ ((x : Rat) * (n : Rat)) (d : Rat)) 0 w h (by omega) (s5.more (by omega))
  rw [nearZ_ints x n d hd] at hN
  generalize nearZ (x * n) d.toNat = z at *
  generalize divQ ((x : Rat) * (n : Rat)) (d : Rat) = q at *
  generalize (x : Rat) * (n : Rat) = p at *
  generalize (x : Rat) = xq at *
  generalize (n : Rat) = nq at *
  generalize (d : Rat) = dq at *
  have hd2 : decide (d < 1) = false := decide_eq_false (by omega)
  clear s1 s2 s3 s4 s5 hx hn
  have hB := Below.refl w.heap.size w
  go_enter Tryz.func34, Tryz.ntmps34
  go_wp2_with fail
  refine (hO1 _).mono ?_
  rintro e w1 ⟨v1, rfl, h1, b1⟩
  replace hB := hB.trans (b1.mono hB.size)
  go_wp2_with fail
  refine (hO2 _).mono ?_
  rintro e w2 ⟨v2, rfl, h2, b2⟩
  replace h1 := h1.below b2
  replace hB := hB.trans (b2.mono hB.size)
  go_wp2_with fail
  refine (hM _ _ _ h1 h2).mono ?_
  rintro e w3 ⟨v3, rfl, h3, b3⟩
  replace h1 := h1.below b3
  replace h2 := h2.below b3
  replace hB := hB.trans (b3.mono hB.size)
  go_wp2_with fail
  refine (hO3 _).mono ?_
  rintro e w4 ⟨v4, rfl, h4, b4⟩
  replace h1 := h1.below b4
  replace h2 := h2.below b4
  replace h3 := h3.below b4
  replace hB := hB.trans (b4.mono hB.size)
  go_wp2_with fail
  refine (hD _ _ _ h3 h4).mono ?_
  rintro e w5 ⟨v5, rfl, h5, b5⟩
  replace h1 := h1.below b5
  replace h2 := h2.below b5
  replace h3 := h3.below b5
  replace h4 := h4.below b5
  replace hB := hB.trans (b5.mono hB.size)
  obtain ⟨n5, d5, rfl, e5, f5⟩ := (id h5 : IsQ _ _ _)
  obtain ⟨A5, L5, C5, rfl⟩ := e5.frm
  obtain ⟨D5, M5, E5, rfl⟩ := f5.frm
  clear e5 f5
  obtain ⟨V1, eV, bX, bV1⟩ := box1 w5 74 #[.bool (decide (q.num < 0)), .slice A5 L5 C5, .slice D5 M5 E5]
  obtain ⟨X1, eX⟩ : ∃ X, X = w5.heap.size := ⟨_, rfl⟩
  rw [← eX] at bX
  have EV1 := Lib.hid (And.intro eV eX)
  clear eV eX
  go_upto_region 4 with fail
  rw [← EV1.out.1, ← EV1.out.2]
  replace h5 := h5.below bV1
  replace hB := hB.trans (bV1.mono hB.size)
  obtain ⟨c7_bX_0, c7_bX_1, c7_bX_2⟩ := bX.cells3
  go_wp2_with fail
  refine (hN _ _ h5).mono ?_
  rintro e w6 ⟨rfl, b6⟩
  replace h5 := h5.below b6
  replace bX := bX.below b6 bX.lt
  replace hB := hB.trans (b6.mono hB.size)
  clear c7_bX_0 c7_bX_1 c7_bX_2
  obtain ⟨c8_bX_0, c8_bX_1, c8_bX_2⟩ := bX.cells3
  go_wp2
  go_ret2
  exact ⟨rfl, hB⟩
end Go.Proofs.YtgcebmgmmhdcpaaGreat
