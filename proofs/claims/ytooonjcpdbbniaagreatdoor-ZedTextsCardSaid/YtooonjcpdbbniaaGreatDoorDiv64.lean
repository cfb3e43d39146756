/- math/bits.Div64. -/
import Derived.Test.YtooonjcpdbbniaaGreatDoorMath
import Derived.Test.YtooonjcpdbbniaaGreatDoorRef2
import Derived.Test.YtooonjcpdbbniaaGreatDoorBase
import Derived.Laws.Shifts
import Derived.Laws.BitsAllLaws
import Derived.Laws.BitsLemmas
import Derived.Outline
import Derived.Deep.CutBlock
import Derived.Deep.DeepCutAuto
namespace Go.Proofs.YtooonjcpdbbniaaGreatDoor
open Go.RowKit

theorem lz64_any (x : Nat) (hx : x < W64) (w : World) :
    Calls Tryz.prog 70 #[.int .u64 x] w fun e w' => e = .returned (.int .i64 (64 - (bl x : Int))) ∧ w = w' := by
  have hb := bl_le_iff.2 (show x < 2 ^ 64 from hx)
  have hl := len64_any x hx w
  go_enter Tryz.func70, Tryz.ntmps70
  go_wp2_with fail
  refine hl.mono ?_
  rintro e w' ⟨rfl, rfl⟩
  go_wp2
  go_ret
  exact ⟨rfl, rfl⟩
set_option maxHeartbeats 1000000 in
theorem div64_nought (lo y : Nat) (hl : lo < W64) (hy : y < W64) (h : 0 < y) (w : World) :
    Calls Tryz.prog 96 #[.int .u64 (0 : Nat), .int .u64 lo, .int .u64 y] w fun e w' => e = .returned (.tuple #[.int .u64 ((lo / y : Nat) : Int), .int .u64 ((lo % y : Nat) : Int)]) ∧ ∃ n, w' = w.drewN n := by
  unfold W64 at *
  have h0 : ((y : Int) == 0) = false := by simp; omega
  have h1 : ¬ ((y : Int) ≤ 0) := by omega
  have hq : (lo : Int).tdiv (y : Int) = ((lo / y : Nat) : Int) := by rw [Int.tdiv_eq_ediv_of_nonneg (by omega)]; simp
  have hr : (lo : Int).tmod (y : Int) = ((lo % y : Nat) : Int) := by rw [Int.tmod_eq_emod_of_nonneg (by omega)]; simp
  have hqb : lo / y ≤ lo := Nat.div_le_self _ _
  have hrb : lo % y ≤ lo := Nat.mod_le _ _
  generalize lo / y = q at *
  generalize lo % y = r at *
  have hwq : IntKind.u64.wrap (q : Int) = (q : Int) := by rw [IntKind.wrap_u64]; omega
  have hwr : IntKind.u64.wrap (r : Int) = (r : Int) := by rw [IntKind.wrap_u64]; omega
  go_enter Tryz.func96, Tryz.ntmps96
  go_wp2
  go_quiet (fail)
  all_goals go_wp2
  go_ret2
  exact ⟨rfl, _, rfl⟩
theorem ret_u64 {a b : Nat} (h : a = b) : Value.int .u64 (a : Int) = Value.int .u64 (b : Int) := by rw [h]
theorem pow_split (s : Nat) (h : s ≤ 64) : 2 ^ s * 2 ^ (64 - s) = W64 := by rw [← Nat.pow_add, show s + (64 - s) = 64 from by omega]; rfl
/-- the divisor and the dividend, moved up till the divisor's highest figure is one -/
theorem moved_up (hi lo y s : Nat) (hl : lo < W64) (h : hi < y) (hs : s ≤ 64) (hY : y * 2 ^ s < W64) :
    hi * 2 ^ s < W64 ∧ lo / 2 ^ (64 - s) < 2 ^ s ∧ hi * 2 ^ s + lo / 2 ^ (64 - s) < y * 2 ^ s ∧ (hi * 2 ^ s + lo / 2 ^ (64 - s)) * W64 + lo * 2 ^ s % W64 = (hi * W64 + lo) * 2 ^ s := by
  have hp := pow_split s hs
  have h1 : (hi + 1) * 2 ^ s ≤ y * 2 ^ s := Nat.mul_le_mul_right _ h
  have hpp : 0 < 2 ^ (64 - s) := Nat.pow_pos (by omega)
  have h2 : lo / 2 ^ (64 - s) < 2 ^ s := by
    rw [Nat.div_lt_iff_lt_mul hpp, hp]; exact hl
  have h3 : lo * 2 ^ s % W64 = (lo % 2 ^ (64 - s)) * 2 ^ s := by
    rw [← hp, Nat.mul_comm (2 ^ s) (2 ^ (64 - s)), Nat.mul_mod_mul_right]
  have h4 := Nat.div_add_mod lo (2 ^ (64 - s))
  rw [Nat.add_mul] at h1
  refine ⟨by omega, h2, by omega, ?_⟩
  rw [h3]
  generalize lo / 2 ^ (64 - s) = a at *
  generalize lo % 2 ^ (64 - s) = b at *
  rw [← h4, ← hp]
  generalize 2 ^ s = c at *
  generalize 2 ^ (64 - s) = d at *
  grind
theorem or_add (a b s : Nat) (h : b < 2 ^ s) : a * 2 ^ s ||| b = a * 2 ^ s + b := by
  rw [Nat.mul_comm, Nat.two_pow_add_eq_or_of_lt h]
theorem and_low (a : Nat) : a &&& 4294967295 = a % W32 := by rw [W32_eq]; exact Nat.and_two_pow_sub_one_eq_mod a 32
theorem bl_norm (y : Nat) (h0 : 0 < y) (hy : y < W64) : 1 ≤ bl y ∧ bl y ≤ 64 ∧ y * 2 ^ (64 - bl y) < W64 ∧ W64 ≤ 2 * (y * 2 ^ (64 - bl y)) := by
  have h1 := bl_le_iff.2 (show y < 2 ^ 64 from hy)
  have h2 : 1 ≤ bl y := by rw [bl_pos (by omega)]; omega
  have h3 : y < 2 ^ bl y := bl_le_iff.1 (Nat.le_refl _)
  have h4 : ¬ (y < 2 ^ (bl y - 1)) := fun h => by have := bl_le_iff.2 h; omega
  have hp : 2 ^ bl y * 2 ^ (64 - bl y) = W64 := pow_split _ h1
  have hpp : 0 < 2 ^ (64 - bl y) := Nat.pow_pos (by omega)
  have hd : 2 ^ bl y = 2 * 2 ^ (bl y - 1) := by rw [← Nat.pow_succ']; congr 1; omega
  refine ⟨h2, h1, by rw [← hp]; exact Nat.mul_lt_mul_of_pos_right h3 hpp, ?_⟩
  rw [← hp, hd, Nat.mul_assoc]
  exact Nat.mul_le_mul_left _ (Nat.mul_le_mul_right _ (by omega))
theorem u64_shl (a s : Nat) (h : a * 2 ^ s < W64) : IntKind.u64.wrap ((a : Int) * 2 ^ s) = ((a * 2 ^ s : Nat) : Int) := by
  rw [IntKind.wrap_u64, show (a : Int) * 2 ^ s = ((a * 2 ^ s : Nat) : Int) from by simp]; unfold W64 at h; omega
theorem u64_shl_mod (a s : Nat) : IntKind.u64.wrap ((a : Int) * 2 ^ s) = ((a * 2 ^ s % W64 : Nat) : Int) := by
  rw [IntKind.wrap_u64, show (a : Int) * 2 ^ s = ((a * 2 ^ s : Nat) : Int) from by simp]; unfold W64; omega
theorem int_div_pow (a s : Nat) : (a : Int) / 2 ^ s = ((a / 2 ^ s : Nat) : Int) := by simp
theorem u64_mul_mod (a b : Nat) : IntKind.u64.wrap ((a : Int) * (b : Int)) = ((a * b % W64 : Nat) : Int) := by
  rw [IntKind.wrap_u64, ← Int.natCast_mul]; unfold W64; omega
theorem u64_add_mod (a b : Nat) : IntKind.u64.wrap ((a : Int) + (b : Int)) = (((a + b) % W64 : Nat) : Int) := by
  rw [IntKind.wrap_u64]; unfold W64; omega
theorem u64_sub_mod (a b : Nat) (h : b ≤ W64) : IntKind.u64.wrap ((a : Int) - (b : Int)) = (((a + W64 - b) % W64 : Nat) : Int) := by
  rw [IntKind.wrap_u64]; unfold W64 at *; omega

theorem first_walk (u v1 : Nat) (hu : u < W64) (h : u / v1 ≤ W32 + 1) : (u : Int).tdiv (v1 : Int) = ((u / v1 : Nat) : Int) ∧ IntKind.u64.wrap ((u / v1 : Nat) : Int) = ((u / v1 : Nat) : Int) ∧ IntKind.u64.wrap (((u / v1 : Nat) : Int) * (v1 : Int)) = ((u / v1 * v1 : Nat) : Int) ∧ IntKind.u64.wrap ((u : Int) - ((u / v1 * v1 : Nat) : Int)) = ((u % v1 : Nat) : Int) := by
  have hqv : u / v1 * v1 ≤ u := Nat.div_mul_le_self _ _
  have hd := Nat.div_add_mod u v1
  rw [Nat.mul_comm] at hd
  refine ⟨by rw [Int.tdiv_eq_ediv_of_nonneg (by omega)]; simp, ?_, ?_, ?_⟩
  · generalize u / v1 = q at *
    rw [IntKind.wrap_u64]; simp only [W32_eq] at h; omega
  · rw [u64_mul_mod, Nat.mod_eq_of_lt (by omega)]
  · generalize u / v1 * v1 = q at *
    generalize u % v1 = r at *
    rw [IntKind.wrap_u64]; unfold W64 at hu; omega
theorem W64_sq : W64 = W32 * W32 := by simp only [W32_eq, W64]
theorem two_figs (u n1 n0 Y : Nat) (hY : 0 < Y) : (u * (W32 * W32) + (n1 * W32 + n0)) / Y = (u * W32 + n1) / Y * W32 + ((u * W32 + n1) % Y * W32 + n0) / Y ∧ (u * (W32 * W32) + (n1 * W32 + n0)) % Y = ((u * W32 + n1) % Y * W32 + n0) % Y := by
  have h := Nat.div_add_mod (u * W32 + n1) Y
  have e : u * (W32 * W32) + (n1 * W32 + n0) = (u * W32 + n1) * W32 + n0 := by grind
  generalize (u * W32 + n1) / Y = q at *
  generalize (u * W32 + n1) % Y = r at *
  have e2 : (u * W32 + n1) * W32 + n0 = (r * W32 + n0) + (q * W32) * Y := by rw [← h]; grind
  rw [e, e2, Nat.add_mul_div_right _ _ hY, Nat.add_mul_mod_self_right]
  exact ⟨by omega, rfl⟩
theorem mid_walk (u n q Y r : Nat) (h : ((u * W32 + n) % W64 + W64 - (q * Y) % W64) % W64 = r) :
    IntKind.u64.wrap ((u : Int) * 4294967296) = ((u * W32 % W64 : Nat) : Int) ∧ IntKind.u64.wrap (((u * W32 % W64 : Nat) : Int) + (n : Int)) = (((u * W32 + n) % W64 : Nat) : Int) ∧
    IntKind.u64.wrap ((q : Int) * (Y : Int)) = ((q * Y % W64 : Nat) : Int) ∧ IntKind.u64.wrap ((((u * W32 + n) % W64 : Nat) : Int) - ((q * Y % W64 : Nat) : Int)) = (r : Int) ∧ True := by
  refine ⟨?_, ?_, u64_mul_mod q Y, ?_, trivial⟩
  · rw [IntKind.wrap_u64]; unfold W64; simp only [W32_eq]; omega
  · rw [u64_add_mod, Nat.mod_add_mod]
  · rw [u64_sub_mod _ _ (Nat.le_of_lt (Nat.mod_lt (q * Y) W64_pos)), h]
set_option maxRecDepth 100000 in
set_option maxHeartbeats 8000000 in
theorem div64_some (hi lo y : Nat) (hl : lo < W64) (hy : y < W64) (h : hi < y) (h0 : 0 < hi) (w : World) :
    Calls Tryz.prog 96 #[.int .u64 hi, .int .u64 lo, .int .u64 y] w fun e w' => e = .returned (.tuple #[.int .u64 (((hi * W64 + lo) / y : Nat) : Int), .int .u64 (((hi * W64 + lo) % y : Nat) : Int)]) ∧ w = w' := by
  obtain ⟨z1, z2, z3, z4⟩ := bl_norm y (by omega) hy
  have hz := lz64_any y hy w
  obtain ⟨s, hs⟩ : ∃ s : Nat, s = 64 - bl y := ⟨_, rfl⟩
  have e1 : (64 - (bl y : Int)) = (s : Int) := by omega
  rw [e1] at hz
  rw [← hs] at z3 z4
  have hs64 : s < 64 := by omega
  clear hs e1 z1 z2
  obtain ⟨m1, m2, m3, m4⟩ := moved_up hi lo y s hl h (by omega) z3
  have hwY := u64_shl y s z3
  have hwH := u64_shl hi s m1
  have hwL := u64_shl_mod lo s
  have hwD := int_div_pow lo (64 - s)
  have hLm : lo * 2 ^ s % W64 < W64 := Nat.mod_lt _ W64_pos
  have hor : (hi * 2 ^ s) ||| (lo / 2 ^ (64 - s)) = hi * 2 ^ s + lo / 2 ^ (64 - s) := or_add _ _ _ m2
  have hwOr := u64_or_nat (hi * 2 ^ s) (lo / 2 ^ (64 - s)) (by unfold W64 at m1; omega) (by unfold W64 at hl; have := Nat.div_le_self lo (2 ^ (64 - s)); omega)
  rw [hor] at hwOr
  -- what comes out, at last
  have hans1 : (hi * W64 + lo) / y = ((hi * W64 + lo) * 2 ^ s) / (y * 2 ^ s) := (Nat.mul_div_mul_right _ _ (Nat.pow_pos (by omega))).symm
  have hans2 : (hi * W64 + lo) % y = ((hi * W64 + lo) * 2 ^ s) % (y * 2 ^ s) / 2 ^ s := by
    rw [Nat.mul_mod_mul_right, Nat.mul_div_cancel _ (Nat.pow_pos (by omega))]
  rw [← m4] at hans1 hans2
  have e64 : ∀ x l, x * W64 + l = x * (W32 * W32) + l := by intro x l; rw [W64_sq]
  rw [e64 (hi * 2 ^ s + lo / 2 ^ (64 - s))] at hans1 hans2
  clear e64
  have hans := Lib.hid (And.intro hans1 hans2)
  clear hans1 hans2 m4 hor m2
  generalize hYe : y * 2 ^ s = Y at *
  generalize hHe : hi * 2 ^ s = H at *
  generalize hLe : lo * 2 ^ s % W64 = L at *
  generalize hDe : lo / 2 ^ (64 - s) = D at *
  generalize hue : H + D = u at *
  clear hYe hHe hLe hDe hue m1
  have hsm := Lib.hid (fun x : Nat => int_div_pow x s)
  -- the figures
  have hYs : Y = Y / W32 * W32 + Y % W32 := by simp only [W32_eq]; omega
  have hwv1 : (Y : Int) / 4294967296 = ((Y / W32 : Nat) : Int) := by simp only [W32_eq]; omega
  have hwv0 : bits .and .u64 (Y : Int) 4294967295 = ((Y % W32 : Nat) : Int) := by rw [← and_low]; exact u64_and_nat Y 4294967295 (by unfold W64 at z3; omega) (by omega)
  have hLs : L = L / W32 * W32 + L % W32 := by simp only [W32_eq]; omega
  have hwn1 : (L : Int) / 4294967296 = ((L / W32 : Nat) : Int) := by simp only [W32_eq]; omega
  have hwn0 : bits .and .u64 (L : Int) 4294967295 = ((L % W32 : Nat) : Int) := by rw [← and_low]; exact u64_and_nat L 4294967295 (by unfold W64 at hLm; omega) (by omega)
  have hv0 : Y % W32 < W32 := Nat.mod_lt _ (by simp only [W32_eq]; omega)
  have hn0 : L % W32 < W32 := Nat.mod_lt _ (by simp only [W32_eq]; omega)
  have hv1 : 2147483648 ≤ Y / W32 ∧ Y / W32 < W32 := by unfold W64 at *; simp only [W32_eq] at *; omega
  have hn1 : L / W32 < W32 := by unfold W64 at *; simp only [W32_eq] at *; omega
  generalize Y / W32 = v1 at *
  generalize Y % W32 = v0 at *
  generalize L / W32 = n1 at *
  generalize L % W32 = n0 at *
  obtain ⟨hv1a, hv1b⟩ := hv1
  have hY := Lib.hid hYs
  have hL := Lib.hid hLs
  clear hYs hLs
  have hz1 : (v1 : Int) ≠ 0 := by omega
  have hz2 : ¬ (v1 = 0) := by omega
  have hz3 : ((v1 : Int) == 0) = false := by simp; omega
  have hY64 : Y < 18446744073709551616 := z3
  -- the first guesses
  have hf1 := q_first hY.out hv1a hv0 m3 hn1
  have hrl1 : u % v1 < W32 := Nat.lt_trans (Nat.mod_lt _ (by omega)) hv1b
  have hu64 : u < W64 := Nat.lt_trans m3 z3
  obtain ⟨hwq1, hwqw1, hwm1, hwr1⟩ := first_walk u v1 hu64 hf1.1
  generalize u / v1 = qa at *
  generalize u % v1 = ra at *
  generalize qa * v1 = qav at hwm1 hwr1
  have Hf1 := Lib.hid hf1
  clear hf1
  have hu := m3
  go_enter Tryz.func96, Tryz.ntmps96
  have hy0 : ((y : Int) == 0) = false := by simp; omega
  have hy1 : ¬ ((y : Int) ≤ hi) := by omega
  have hh0 : ((hi : Int) == 0) = false := by simp; omega
  have hh1 : decide (hi = 0) = false := by simp; omega
  have hh2 : ¬ (hi = 0) := by omega
  go_upto_block 0 with (refine hz.mono ?_; rintro e w' ⟨rfl, rfl⟩)
  go_cut [15] (fun s wx => s = .int .u64 (((u * W32 + n1) / Y : Nat) : Int) ∧ wx = w)
  case first =>
    go_wp2_with fail
    go_loopw [15, 16] (fun a b wr => ∃ q r : Nat, q ≤ W32 + 1 ∧ Hid (q * v1 + r = u) ∧ u * W32 + n1 < (q + 1) * Y ∧ r < W32 ∧ a = .int .u64 q ∧ b = .int .u64 r ∧ wr = w) (fun a _ _ => (intOf a).toNat)
    case atStart => exact ⟨_, _, Hf1.out.1, Lib.hid Hf1.out.2.1, Hf1.out.2.2, hrl1, rfl, rfl, rfl⟩
    case round =>
      obtain ⟨q, r, hq1, hqr, hbig, hrW, rfl, rfl, rfl⟩ := hrel
      have hm1 : IntKind.u64.wrap ((4294967296 : Int) * (r : Int)) = ((W32 * r : Nat) : Int) := by rw [IntKind.wrap_u64]; simp only [W32_eq] at *; omega
      have hm2 : IntKind.u64.wrap (((W32 * r : Nat) : Int) + (n1 : Int)) = ((W32 * r + n1 : Nat) : Int) := by rw [IntKind.wrap_u64]; simp only [W32_eq] at *; omega
      by_cases hA : W32 ≤ q
      · have hA' : decide ((4294967296 : Int) ≤ (q : Int)) = true := by simp only [W32_eq] at hA; exact decide_eq_true (by omega)
        have hbig : u * W32 + n1 < q * Y := q_huge hu hn1 hA
        have HA := Lib.hid hA
        clear hm1 hm2 hA

        have hp : 0 < q := by
          rcases Nat.eq_zero_or_pos q with h | h
          · subst h; simp at hbig
          · exact h
        have hdn := Lib.hid (q_down hqr.out hp)
        have hwd : IntKind.u64.wrap ((q : Int) - 1) = ((q - 1 : Nat) : Int) := by rw [IntKind.wrap_u64]; simp only [W32_eq] at *; omega
        have hwr : IntKind.u64.wrap ((r : Int) + (v1 : Int)) = ((r + v1 : Nat) : Int) := by rw [IntKind.wrap_u64]; simp only [W32_eq] at *; omega
        obtain ⟨q', hq'⟩ : ∃ q', q' = q - 1 := ⟨_, rfl⟩
        obtain ⟨r', hr'⟩ : ∃ r', r' = r + v1 := ⟨_, rfl⟩
        rw [← hq'] at hwd hdn
        rw [← hr'] at hwr hdn
        have hb2 : Hid (u * W32 + n1 < (q' + 1) * Y) := by rw [hq', Nat.sub_add_cancel hp]; exact hbig
        have hq1' : q' ≤ W32 := by omega
        have Hq' := Lib.hid hq'
        have Hr' := Lib.hid hr'
        clear hq' hr' hbig
        have hbm : q' < q := by rw [Hq'.out]; omega
        have HqW := Lib.hid hq1
        clear hq1
        by_cases hC : W32 ≤ r'
        · have hC' : decide ((4294967296 : Int) ≤ (r' : Int)) = true := by simp only [W32_eq] at hC; exact decide_eq_true (by omega)
          have HC := Lib.hid hC
          have Hq1 := Lib.hid hq1'
          have Hv0 := Lib.hid hv0
          clear hC hq1' hv0 hrW hbm
          go_wp2
          go_meet
          case rel => exact ⟨ret_u64 (q_is (q_ok hY.out hdn.out (q_break HC.out Hq1.out Hv0.out)) hb2.out), by trivial⟩
        · have hC' : decide ((4294967296 : Int) ≤ (r' : Int)) = false := by simp only [W32_eq] at hC; exact decide_eq_false (by omega)
          have HC := Lib.hid hC
          have Hq1 := Lib.hid hq1'
          have Hrw := Lib.hid hrW
          clear hC hq1' hrW
          go_wp2
          refine ⟨⟨q', r', by have := Hq1.out; omega, hdn, hb2.out, by have := HC.out; omega, rfl, rfl, by trivial⟩, by simp [intOf]; omega⟩
      · have hA' : decide ((4294967296 : Int) ≤ (q : Int)) = false := by simp only [W32_eq] at hA; exact decide_eq_false (by omega)
        have hqv : q * v0 < W64 := by
          have h1 : q * v0 ≤ W32 * v0 := Nat.mul_le_mul_right _ (by omega)
          unfold W64 at *; simp only [W32_eq] at *; omega
        have hm0 : IntKind.u64.wrap ((q : Int) * (v0 : Int)) = ((q * v0 : Nat) : Int) := by rw [IntKind.wrap_u64]; unfold W64 at *; rw [← Int.natCast_mul]; omega
        obtain ⟨x1, hx1⟩ : ∃ x, x = q * v0 := ⟨_, rfl⟩
        obtain ⟨x2, hx2⟩ : ∃ x, x = W32 * r + n1 := ⟨_, rfl⟩
        obtain ⟨x3, hx3⟩ : ∃ x, x = W32 * r := ⟨_, rfl⟩
        rw [← hx1] at hm0
        rw [← hx3] at hm1
        rw [← hx2, ← hx3] at hm2
        by_cases hB : x2 < x1
        · have hbig : u * W32 + n1 < q * Y := q_big hY.out hqr.out (by rw [← hx1, ← hx2]; exact hB)
          have Hx1 := Lib.hid hx1
          have Hx2 := Lib.hid hx2
          have Hx3 := Lib.hid hx3
          have hB' : decide (x2 < x1) = true := decide_eq_true hB
          have hB3 : decide ((x2 : Int) < (x1 : Int)) = true := decide_eq_true (by omega)
          clear hx1 hx2 hx3 hqv hB hA

          have hp : 0 < q := by
            rcases Nat.eq_zero_or_pos q with h | h
            · subst h; simp at hbig
            · exact h
          have hdn := Lib.hid (q_down hqr.out hp)
          have hwd : IntKind.u64.wrap ((q : Int) - 1) = ((q - 1 : Nat) : Int) := by rw [IntKind.wrap_u64]; simp only [W32_eq] at *; omega
          have hwr : IntKind.u64.wrap ((r : Int) + (v1 : Int)) = ((r + v1 : Nat) : Int) := by rw [IntKind.wrap_u64]; simp only [W32_eq] at *; omega
          obtain ⟨q', hq'⟩ : ∃ q', q' = q - 1 := ⟨_, rfl⟩
          obtain ⟨r', hr'⟩ : ∃ r', r' = r + v1 := ⟨_, rfl⟩
          rw [← hq'] at hwd hdn
          rw [← hr'] at hwr hdn
          have hb2 : Hid (u * W32 + n1 < (q' + 1) * Y) := by rw [hq', Nat.sub_add_cancel hp]; exact hbig
          have hq1' : q' ≤ W32 := by omega
          have Hq' := Lib.hid hq'
          have Hr' := Lib.hid hr'
          clear hq' hr' hbig
          have hbm : q' < q := by rw [Hq'.out]; omega
          have HqW := Lib.hid hq1
          clear hq1
          by_cases hC : W32 ≤ r'
          · have hC' : decide ((4294967296 : Int) ≤ (r' : Int)) = true := by simp only [W32_eq] at hC; exact decide_eq_true (by omega)
            have HC := Lib.hid hC
            have Hq1 := Lib.hid hq1'
            have Hv0 := Lib.hid hv0
            clear hC hq1' hv0 hrW hbm
            go_wp2
            go_meet
            case rel => exact ⟨ret_u64 (q_is (q_ok hY.out hdn.out (q_break HC.out Hq1.out Hv0.out)) hb2.out), by trivial⟩
          · have hC' : decide ((4294967296 : Int) ≤ (r' : Int)) = false := by simp only [W32_eq] at hC; exact decide_eq_false (by omega)
            have HC := Lib.hid hC
            have Hq1 := Lib.hid hq1'
            have Hrw := Lib.hid hrW
            clear hC hq1' hrW
            go_wp2
            refine ⟨⟨q', r', by have := Hq1.out; omega, hdn, hb2.out, by have := HC.out; omega, rfl, rfl, by trivial⟩, by simp [intOf]; omega⟩
        · have hfin : Hid (q = (u * W32 + n1) / Y) := Lib.hid (q_is (q_ok hY.out hqr.out (by rw [← hx1, ← hx2]; omega)) hbig)
          have Hx1 := Lib.hid hx1
          have Hx2 := Lib.hid hx2
          have Hx3 := Lib.hid hx3
          have hB' : decide (x2 < x1) = false := decide_eq_false hB
          have hB3 : decide ((x2 : Int) < (x1 : Int)) = false := decide_eq_false (by omega)
          clear hx1 hx2 hx3 hqv hbig hB hA hrW hq1
          go_wp2
          go_meet
          case rel => exact ⟨ret_u64 hfin.out, by trivial⟩
  obtain ⟨rfl, rfl⟩ := hcut
  have hq1l := q_lt (n := n1) hu hn1
  have hrm1 := rem_wrap (a := u * W32 + n1) (y := Y) rfl (by omega) (Nat.le_of_lt z3)
  have hfig := Lib.hid (two_figs u n1 n0 Y (by omega))
  have hu2 : (u * W32 + n1) % Y < Y := Nat.mod_lt _ (by omega)
  obtain ⟨hm3, hm4, hm5, hm6, hm7⟩ := mid_walk u n1 ((u * W32 + n1) / Y) Y ((u * W32 + n1) % Y) hrm1
  clear hrm1
  generalize (u * W32 + n1) / Y = q1 at *
  generalize (u * W32 + n1) % Y = u2 at *
  generalize u * W32 % W64 = a1 at hm3 hm4
  generalize (u * W32 + n1) % W64 = a2 at hm4 hm6
  generalize q1 * Y % W64 = a3 at hm5 hm6
  have hf2 := q_first hY.out hv1a hv0 hu2 hn0
  have hrl2 : u2 % v1 < W32 := Nat.lt_trans (Nat.mod_lt _ (by omega)) hv1b
  have hu264 : u2 < W64 := Nat.lt_trans hu2 z3
  obtain ⟨hwq2, hwqw2, hwm2, hwr2⟩ := first_walk u2 v1 hu264 hf2.1
  generalize u2 / v1 = qb at *
  generalize u2 % v1 = rb at *
  generalize qb * v1 = qbv at hwm2 hwr2
  have Hf2 := Lib.hid hf2
  clear hf2
  go_upto_block 2 with fail
  go_cut [18] (fun s wx => s = .int .u64 (((u2 * W32 + n0) / Y : Nat) : Int) ∧ wx = wc)
  case first =>
    go_wp2_with fail
    go_loopw [18, 16] (fun a b wr => ∃ q r : Nat, q ≤ W32 + 1 ∧ Hid (q * v1 + r = u2) ∧ u2 * W32 + n0 < (q + 1) * Y ∧ r < W32 ∧ a = .int .u64 q ∧ b = .int .u64 r ∧ wr = wc) (fun a _ _ => (intOf a).toNat)
    case atStart => exact ⟨_, _, Hf2.out.1, Lib.hid Hf2.out.2.1, Hf2.out.2.2, hrl2, rfl, rfl, rfl⟩
    case round =>
      obtain ⟨q, r, hq1, hqr, hbig, hrW, rfl, rfl, rfl⟩ := hrel
      have hm1 : IntKind.u64.wrap ((4294967296 : Int) * (r : Int)) = ((W32 * r : Nat) : Int) := by rw [IntKind.wrap_u64]; simp only [W32_eq] at *; omega
      have hm2 : IntKind.u64.wrap (((W32 * r : Nat) : Int) + (n0 : Int)) = ((W32 * r + n0 : Nat) : Int) := by rw [IntKind.wrap_u64]; simp only [W32_eq] at *; omega
      by_cases hA : W32 ≤ q
      · have hA' : decide ((4294967296 : Int) ≤ (q : Int)) = true := by simp only [W32_eq] at hA; exact decide_eq_true (by omega)
        have hbig : u2 * W32 + n0 < q * Y := q_huge hu2 hn0 hA
        have HA := Lib.hid hA
        clear hm1 hm2 hA

        have hp : 0 < q := by
          rcases Nat.eq_zero_or_pos q with h | h
          · subst h; simp at hbig
          · exact h
        have hdn := Lib.hid (q_down hqr.out hp)
        have hwd : IntKind.u64.wrap ((q : Int) - 1) = ((q - 1 : Nat) : Int) := by rw [IntKind.wrap_u64]; simp only [W32_eq] at *; omega
        have hwr : IntKind.u64.wrap ((r : Int) + (v1 : Int)) = ((r + v1 : Nat) : Int) := by rw [IntKind.wrap_u64]; simp only [W32_eq] at *; omega
        obtain ⟨q', hq'⟩ : ∃ q', q' = q - 1 := ⟨_, rfl⟩
        obtain ⟨r', hr'⟩ : ∃ r', r' = r + v1 := ⟨_, rfl⟩
        rw [← hq'] at hwd hdn
        rw [← hr'] at hwr hdn
        have hb2 : Hid (u2 * W32 + n0 < (q' + 1) * Y) := by rw [hq', Nat.sub_add_cancel hp]; exact hbig
        have hq1' : q' ≤ W32 := by omega
        have Hq' := Lib.hid hq'
        have Hr' := Lib.hid hr'
        clear hq' hr' hbig
        have hbm : q' < q := by rw [Hq'.out]; omega
        have HqW := Lib.hid hq1
        clear hq1
        by_cases hC : W32 ≤ r'
        · have hC' : decide ((4294967296 : Int) ≤ (r' : Int)) = true := by simp only [W32_eq] at hC; exact decide_eq_true (by omega)
          have HC := Lib.hid hC
          have Hq1 := Lib.hid hq1'
          have Hv0 := Lib.hid hv0
          clear hC hq1' hv0 hrW hbm
          go_wp2
          go_meet
          case rel => exact ⟨ret_u64 (q_is (q_ok hY.out hdn.out (q_break HC.out Hq1.out Hv0.out)) hb2.out), by trivial⟩
        · have hC' : decide ((4294967296 : Int) ≤ (r' : Int)) = false := by simp only [W32_eq] at hC; exact decide_eq_false (by omega)
          have HC := Lib.hid hC
          have Hq1 := Lib.hid hq1'
          have Hrw := Lib.hid hrW
          clear hC hq1' hrW
          go_wp2
          refine ⟨⟨q', r', by have := Hq1.out; omega, hdn, hb2.out, by have := HC.out; omega, rfl, rfl, by trivial⟩, by simp [intOf]; omega⟩
      · have hA' : decide ((4294967296 : Int) ≤ (q : Int)) = false := by simp only [W32_eq] at hA; exact decide_eq_false (by omega)
        have hqv : q * v0 < W64 := by
          have h1 : q * v0 ≤ W32 * v0 := Nat.mul_le_mul_right _ (by omega)
          unfold W64 at *; simp only [W32_eq] at *; omega
        have hm0 : IntKind.u64.wrap ((q : Int) * (v0 : Int)) = ((q * v0 : Nat) : Int) := by rw [IntKind.wrap_u64]; unfold W64 at *; rw [← Int.natCast_mul]; omega
        obtain ⟨x1, hx1⟩ : ∃ x, x = q * v0 := ⟨_, rfl⟩
        obtain ⟨x2, hx2⟩ : ∃ x, x = W32 * r + n0 := ⟨_, rfl⟩
        obtain ⟨x3, hx3⟩ : ∃ x, x = W32 * r := ⟨_, rfl⟩
        rw [← hx1] at hm0
        rw [← hx3] at hm1
        rw [← hx2, ← hx3] at hm2
        by_cases hB : x2 < x1
        · have hbig : u2 * W32 + n0 < q * Y := q_big hY.out hqr.out (by rw [← hx1, ← hx2]; exact hB)
          have Hx1 := Lib.hid hx1
          have Hx2 := Lib.hid hx2
          have Hx3 := Lib.hid hx3
          have hB' : decide (x2 < x1) = true := decide_eq_true hB
          have hB3 : decide ((x2 : Int) < (x1 : Int)) = true := decide_eq_true (by omega)
          clear hx1 hx2 hx3 hqv hB hA

          have hp : 0 < q := by
            rcases Nat.eq_zero_or_pos q with h | h
            · subst h; simp at hbig
            · exact h
          have hdn := Lib.hid (q_down hqr.out hp)
          have hwd : IntKind.u64.wrap ((q : Int) - 1) = ((q - 1 : Nat) : Int) := by rw [IntKind.wrap_u64]; simp only [W32_eq] at *; omega
          have hwr : IntKind.u64.wrap ((r : Int) + (v1 : Int)) = ((r + v1 : Nat) : Int) := by rw [IntKind.wrap_u64]; simp only [W32_eq] at *; omega
          obtain ⟨q', hq'⟩ : ∃ q', q' = q - 1 := ⟨_, rfl⟩
          obtain ⟨r', hr'⟩ : ∃ r', r' = r + v1 := ⟨_, rfl⟩
          rw [← hq'] at hwd hdn
          rw [← hr'] at hwr hdn
          have hb2 : Hid (u2 * W32 + n0 < (q' + 1) * Y) := by rw [hq', Nat.sub_add_cancel hp]; exact hbig
          have hq1' : q' ≤ W32 := by omega
          have Hq' := Lib.hid hq'
          have Hr' := Lib.hid hr'
          clear hq' hr' hbig
          have hbm : q' < q := by rw [Hq'.out]; omega
          have HqW := Lib.hid hq1
          clear hq1
          by_cases hC : W32 ≤ r'
          · have hC' : decide ((4294967296 : Int) ≤ (r' : Int)) = true := by simp only [W32_eq] at hC; exact decide_eq_true (by omega)
            have HC := Lib.hid hC
            have Hq1 := Lib.hid hq1'
            have Hv0 := Lib.hid hv0
            clear hC hq1' hv0 hrW hbm
            go_wp2
            go_meet
            case rel => exact ⟨ret_u64 (q_is (q_ok hY.out hdn.out (q_break HC.out Hq1.out Hv0.out)) hb2.out), by trivial⟩
          · have hC' : decide ((4294967296 : Int) ≤ (r' : Int)) = false := by simp only [W32_eq] at hC; exact decide_eq_false (by omega)
            have HC := Lib.hid hC
            have Hq1 := Lib.hid hq1'
            have Hrw := Lib.hid hrW
            clear hC hq1' hrW
            go_wp2
            refine ⟨⟨q', r', by have := Hq1.out; omega, hdn, hb2.out, by have := HC.out; omega, rfl, rfl, by trivial⟩, by simp [intOf]; omega⟩
        · have hfin : Hid (q = (u2 * W32 + n0) / Y) := Lib.hid (q_is (q_ok hY.out hqr.out (by rw [← hx1, ← hx2]; omega)) hbig)
          have Hx1 := Lib.hid hx1
          have Hx2 := Lib.hid hx2
          have Hx3 := Lib.hid hx3
          have hB' : decide (x2 < x1) = false := decide_eq_false hB
          have hB3 : decide ((x2 : Int) < (x1 : Int)) = false := decide_eq_false (by omega)
          clear hx1 hx2 hx3 hqv hbig hB hA hrW hq1
          go_wp2
          go_meet
          case rel => exact ⟨ret_u64 hfin.out, by trivial⟩
  obtain ⟨rfl, rfl⟩ := hcut
  have hq0l := q_lt (n := n0) hu2 hn0
  have hrm2 := rem_wrap (a := u2 * W32 + n0) (y := Y) rfl (by omega) (Nat.le_of_lt z3)
  have hr2 : (u2 * W32 + n0) % Y < Y := Nat.mod_lt _ (by omega)
  obtain ⟨hk3, hk4, hk5, hk6, hk7⟩ := mid_walk u2 n0 ((u2 * W32 + n0) / Y) Y ((u2 * W32 + n0) % Y) hrm2
  clear hrm2
  generalize (u2 * W32 + n0) / Y = q0 at *
  generalize (u2 * W32 + n0) % Y = r2 at *
  generalize u2 * W32 % W64 = a4 at hk3 hk4
  generalize (u2 * W32 + n0) % W64 = a5 at hk4 hk6
  generalize q0 * Y % W64 = a6 at hk5 hk6
  have hk8 : IntKind.u64.wrap ((q1 : Int) * 4294967296) = ((q1 * W32 : Nat) : Int) := by rw [IntKind.wrap_u64]; simp only [W32_eq] at *; omega
  have hk9 : IntKind.u64.wrap (((q1 * W32 : Nat) : Int) + (q0 : Int)) = ((q1 * W32 + q0 : Nat) : Int) := by rw [IntKind.wrap_u64]; simp only [W32_eq] at *; omega
  have hk10 := hsm.out r2
  obtain ⟨x1, hx1⟩ : ∃ x, x = q1 * W32 + q0 := ⟨_, rfl⟩
  obtain ⟨x2, hx2⟩ : ∃ x, x = q1 * W32 := ⟨_, rfl⟩
  obtain ⟨x3, hx3⟩ : ∃ x, x = r2 / 2 ^ s := ⟨_, rfl⟩
  rw [← hx2] at hk8
  rw [← hx1, ← hx2] at hk9
  rw [← hx3] at hk10
  have Hx1 := Lib.hid hx1
  have Hx2 := Lib.hid hx2
  have Hx3 := Lib.hid hx3
  clear hx1 hx2 hx3
  go_wp2
  go_ret2
  obtain ⟨ha1, ha2⟩ := hans.out
  obtain ⟨hg1, hg2⟩ := hfig.out
  rw [ha1, ha2, hL.out, hg1, hg2, Hx1.out, Hx3.out]
  exact ⟨rfl, rfl⟩
theorem div64_any (hi lo y : Nat) (hl : lo < W64) (hy : y < W64) (h : hi < y) (w : World) :
    Calls Tryz.prog 96 #[.int .u64 hi, .int .u64 lo, .int .u64 y] w fun e w' => e = .returned (.tuple #[.int .u64 (((hi * W64 + lo) / y : Nat) : Int), .int .u64 (((hi * W64 + lo) % y : Nat) : Int)]) ∧ ∃ n, w' = w.drewN n := by
  rcases Nat.eq_zero_or_pos hi with h0 | h0
  · subst h0
    simpa using div64_nought lo y hl hy h w
  · exact (div64_some hi lo y hl hy h h0 w).mono fun _ _ ⟨h1, h2⟩ => ⟨h1, 0, h2.symm⟩
end Go.Proofs.YtooonjcpdbbniaaGreatDoor
