/- A part of the proof of: The live question of layer 20. Printed by gen_alive20.py. -/
import Derived.Laws.Shifts
import Derived.Laws.BitsAllLaws
import Derived.Laws.BitsLemmas
import Derived.Outline
import Derived.Deep.CutBlock
import Derived.Deep.DeepCutAuto
import Derived.Deep.DeepMust
import Derived.WalkMore
import Derived.Deep.AppendLies
import Derived.RangeFuncWrites
import Derived.Lib.SliceRun
import Derived.RangeFuncNested
import Derived.RangeFuncBound
import Derived.RangeFuncCalls
import Derived.RangeFuncLeaves
import Derived.Shelf.Abstract
import Derived.Shelf.RegionOpen
import Derived.OwnWalkIn
import Derived.TacticsInMore
import Derived.LoopNIn
import Derived.LoopIn
import Derived.BigQuiet
import Derived.RangeFuncBox
import Derived.RangeFuncFrom
import Derived.Below
import Derived.StillTail
import Derived.StillTactics
import Derived.StillTailTactics
import Derived.OrdersIn
import Derived.TacticsIn
import Derived.CallsIn
import Derived.Laws.EntriesVeiled
import Derived.Test.YtdnjdglekifhpaaGreatTxb
namespace Go.Proofs.YtdnjdglekifhpaaGreat
open Go.RowKit
theorem lz64_any (x : Nat) (hx : x < W64) (w : World) :
    Calls Tryz.prog 197 #[.int .u64 x] w fun e w' => e = .returned (.int .i64 (64 - (bl x : Int))) ∧ w = w' := by
  have hb := bl_le_iff.2 (show x < 2 ^ 64 from hx)
  have hl := len64_any x hx w
  go_enter Tryz.func197, Tryz.ntmps197
  go_wp2_with fail
  refine hl.mono ?_
  rintro e w' ⟨rfl, rfl⟩
  go_wp2
  go_ret
  exact ⟨rfl, rfl⟩
set_option maxHeartbeats 1000000 in
theorem div64_nought (lo y : Nat) (hl : lo < W64) (hy : y < W64) (h : 0 < y) (w : World) :
    Calls Tryz.prog 215 #[.int .u64 (0 : Nat), .int .u64 lo, .int .u64 y] w fun e w' => e = .returned (.tuple #[.int .u64 ((lo / y : Nat) : Int), .int .u64 ((lo % y : Nat) : Int)]) ∧ ∃ n, w' = w.drewN n := by
  unfold W64 at *
  have h0 : ((y : Int) == 0) = false := by simp; omega
  have h1 : ¬ ((y : Int) ≤ 0) := by omega
  have hq : (lo : Int).tdiv (y : Int) = ((lo / y : Nat) : Int) := by rw [Int.tdiv_eq_ediv_of_nonneg (by omega)]; simp
  have hr : (lo : Int).tmod (y : Int) = ((lo % y : Nat) : Int) := by rw [Int.tmod_eq_emod_of_nonneg (by omega)]; simp
  have hqb : lo / y ≤ lo := Nat.div_le_self _ _
  have hrb : lo % y ≤ lo := Nat.mod_le _ _
  generalize lo / y = q at *
  generalize lo % y = r at *
  have hwq : IntKind.u64.wrap (q : Int) = (q : Int) := by rw [IntKind.wrap_u64]; omega
  have hwr : IntKind.u64.wrap (r : Int) = (r : Int) := by rw [IntKind.wrap_u64]; omega
  go_enter Tryz.func215, Tryz.ntmps215
  go_wp2
  go_quiet (fail)
  all_goals go_wp2
  go_ret2
  exact ⟨rfl, _, rfl⟩
theorem ret_u64 {a b : Nat} (h : a = b) : Value.int .u64 (a : Int) = Value.int .u64 (b : Int) := by rw [h]
theorem pow_split (s : Nat) (h : s ≤ 64) : 2 ^ s * 2 ^ (64 - s) = W64 := by rw [← Nat.pow_add, show s + (64 - s) = 64 from by omega]; rfl
theorem moved_up (hi lo y s : Nat) (hl : lo < W64) (h : hi < y) (hs : s ≤ 64) (hY : y * 2 ^ s < W64) :
    hi * 2 ^ s < W64 ∧ lo / 2 ^ (64 - s) < 2 ^ s ∧ hi * 2 ^ s + lo / 2 ^ (64 - s) < y * 2 ^ s ∧ (hi * 2 ^ s + lo / 2 ^ (64 - s)) * W64 + lo * 2 ^ s % W64 = (hi * W64 + lo) * 2 ^ s := by
  have hp := pow_split s hs
  have h1 : (hi + 1) * 2 ^ s ≤ y * 2 ^ s := Nat.mul_le_mul_right _ h
  have hpp : 0 < 2 ^ (64 - s) := Nat.pow_pos (by omega)
  have h2 : lo / 2 ^ (64 - s) < 2 ^ s := by
    rw [Nat.div_lt_iff_lt_mul hpp, hp]; exact hl
  have h3 : lo * 2 ^ s % W64 = (lo % 2 ^ (64 - s)) * 2 ^ s := by
    rw [← hp, Nat.mul_comm (2 ^ s) (2 ^ (64 - s)), Nat.mul_mod_mul_right]
  have h4 := Nat.div_add_mod lo (2 ^ (64 - s))
  rw [Nat.add_mul] at h1
  refine ⟨by omega, h2, by omega, ?_⟩
  rw [h3]
  generalize lo / 2 ^ (64 - s) = a at *
  generalize lo % 2 ^ (64 - s) = b at *
  rw [← h4, ← hp]
  generalize 2 ^ s = c at *
  generalize 2 ^ (64 - s) = d at *
  grind
theorem or_add (a b s : Nat) (h : b < 2 ^ s) : a * 2 ^ s ||| b = a * 2 ^ s + b := by
  rw [Nat.mul_comm, Nat.two_pow_add_eq_or_of_lt h]
theorem and_low (a : Nat) : a &&& 4294967295 = a % W32 := by rw [W32_eq]; exact Nat.and_two_pow_sub_one_eq_mod a 32
theorem bl_norm (y : Nat) (h0 : 0 < y) (hy : y < W64) : 1 ≤ bl y ∧ bl y ≤ 64 ∧ y * 2 ^ (64 - bl y) < W64 ∧ W64 ≤ 2 * (y * 2 ^ (64 - bl y)) := by
  have h1 := bl_le_iff.2 (show y < 2 ^ 64 from hy)
  have h2 : 1 ≤ bl y := by rw [bl_pos (by omega)]; omega
  have h3 : y < 2 ^ bl y := bl_le_iff.1 (Nat.le_refl _)
  have h4 : ¬ (y < 2 ^ (bl y - 1)) := fun h => by have := bl_le_iff.2 h; omega
  have hp : 2 ^ bl y * 2 ^ (64 - bl y) = W64 := pow_split _ h1
  have hpp : 0 < 2 ^ (64 - bl y) := Nat.pow_pos (by omega)
  have hd : 2 ^ bl y = 2 * 2 ^ (bl y - 1) := by rw [← Nat.pow_succ']; congr 1; omega
  refine ⟨h2, h1, by rw [← hp]; exact Nat.mul_lt_mul_of_pos_right h3 hpp, ?_⟩
  rw [← hp, hd, Nat.mul_assoc]
  exact Nat.mul_le_mul_left _ (Nat.mul_le_mul_right _ (by omega))
theorem u64_shl (a s : Nat) (h : a * 2 ^ s < W64) : IntKind.u64.wrap ((a : Int) * 2 ^ s) = ((a * 2 ^ s : Nat) : Int) := by
  rw [IntKind.wrap_u64, show (a : Int) * 2 ^ s = ((a * 2 ^ s : Nat) : Int) from by simp]; unfold W64 at h; omega
theorem u64_shl_mod (a s : Nat) : IntKind.u64.wrap ((a : Int) * 2 ^ s) = ((a * 2 ^ s % W64 : Nat) : Int) := by
  rw [IntKind.wrap_u64, show (a : Int) * 2 ^ s = ((a * 2 ^ s : Nat) : Int) from by simp]; unfold W64; omega
theorem int_div_pow (a s : Nat) : (a : Int) / 2 ^ s = ((a / 2 ^ s : Nat) : Int) := by simp
theorem u64_mul_mod (a b : Nat) : IntKind.u64.wrap ((a : Int) * (b : Int)) = ((a * b % W64 : Nat) : Int) := by
  rw [IntKind.wrap_u64, ← Int.natCast_mul]; unfold W64; omega
theorem u64_add_mod (a b : Nat) : IntKind.u64.wrap ((a : Int) + (b : Int)) = (((a + b) % W64 : Nat) : Int) := by
  rw [IntKind.wrap_u64]; unfold W64; omega
theorem u64_sub_mod (a b : Nat) (h : b ≤ W64) : IntKind.u64.wrap ((a : Int) - (b : Int)) = (((a + W64 - b) % W64 : Nat) : Int) := by
  rw [IntKind.wrap_u64]; unfold W64 at *; omega
theorem first_walk (u v1 : Nat) (hu : u < W64) (h : u / v1 ≤ W32 + 1) : (u : Int).tdiv (v1 : Int) = ((u / v1 : Nat) : Int) ∧ IntKind.u64.wrap ((u / v1 : Nat) : Int) = ((u / v1 : Nat) : Int) ∧ IntKind.u64.wrap (((u / v1 : Nat) : Int) * (v1 : Int)) = ((u / v1 * v1 : Nat) : Int) ∧ IntKind.u64.wrap ((u : Int) - ((u / v1 * v1 : Nat) : Int)) = ((u % v1 : Nat) : Int) := by
  have hqv : u / v1 * v1 ≤ u := Nat.div_mul_le_self _ _
  have hd := Nat.div_add_mod u v1
  rw [Nat.mul_comm] at hd
  refine ⟨by rw [Int.tdiv_eq_ediv_of_nonneg (by omega)]; simp, ?_, ?_, ?_⟩
  · generalize u / v1 = q at *
    rw [IntKind.wrap_u64]; simp only [W32_eq] at h; omega
  · rw [u64_mul_mod, Nat.mod_eq_of_lt (by omega)]
  · generalize u / v1 * v1 = q at *
    generalize u % v1 = r at *
    rw [IntKind.wrap_u64]; unfold W64 at hu; omega
theorem W64_sq : W64 = W32 * W32 := by simp only [W32_eq, W64]
theorem two_figs (u n1 n0 Y : Nat) (hY : 0 < Y) : (u * (W32 * W32) + (n1 * W32 + n0)) / Y = (u * W32 + n1) / Y * W32 + ((u * W32 + n1) % Y * W32 + n0) / Y ∧ (u * (W32 * W32) + (n1 * W32 + n0)) % Y = ((u * W32 + n1) % Y * W32 + n0) % Y := by
  have h := Nat.div_add_mod (u * W32 + n1) Y
  have e : u * (W32 * W32) + (n1 * W32 + n0) = (u * W32 + n1) * W32 + n0 := by grind
  generalize (u * W32 + n1) / Y = q at *
  generalize (u * W32 + n1) % Y = r at *
  have e2 : (u * W32 + n1) * W32 + n0 = (r * W32 + n0) + (q * W32) * Y := by rw [← h]; grind
  rw [e, e2, Nat.add_mul_div_right _ _ hY, Nat.add_mul_mod_self_right]
  exact ⟨by omega, rfl⟩
theorem mid_walk (u n q Y r : Nat) (h : ((u * W32 + n) % W64 + W64 - (q * Y) % W64) % W64 = r) :
    IntKind.u64.wrap ((u : Int) * 4294967296) = ((u * W32 % W64 : Nat) : Int) ∧ IntKind.u64.wrap (((u * W32 % W64 : Nat) : Int) + (n : Int)) = (((u * W32 + n) % W64 : Nat) : Int) ∧
    IntKind.u64.wrap ((q : Int) * (Y : Int)) = ((q * Y % W64 : Nat) : Int) ∧ IntKind.u64.wrap ((((u * W32 + n) % W64 : Nat) : Int) - ((q * Y % W64 : Nat) : Int)) = (r : Int) ∧ True := by
  refine ⟨?_, ?_, u64_mul_mod q Y, ?_, trivial⟩
  · rw [IntKind.wrap_u64]; unfold W64; simp only [W32_eq]; omega
  · rw [u64_add_mod, Nat.mod_add_mod]
  · rw [u64_sub_mod _ _ (Nat.le_of_lt (Nat.mod_lt (q * Y) W64_pos)), h]
set_option maxRecDepth 100000 in
set_option maxHeartbeats 8000000 in
theorem div64_some (hi lo y : Nat) (hl : lo < W64) (hy : y < W64) (h : hi < y) (h0 : 0 < hi) (w : World) :
    Calls Tryz.prog 215 #[.int .u64 hi, .int .u64 lo, .int .u64 y] w fun e w' => e = .returned (.tuple #[.int .u64 (((hi * W64 + lo) / y : Nat) : Int), .int .u64 (((hi * W64 + lo) % y : Nat) : Int)]) ∧ w = w' := by
  obtain ⟨z1, z2, z3, z4⟩ := bl_norm y (by omega) hy
  have hz := lz64_any y hy w
  obtain ⟨s, hs⟩ : ∃ s : Nat, s = 64 - bl y := ⟨_, rfl⟩
  have e1 : (64 - (bl y : Int)) = (s : Int) := by omega
  rw [e1] at hz
  rw [← hs] at z3 z4
  have hs64 : s < 64 := by omega
  clear hs e1 z1 z2
  obtain ⟨m1, m2, m3, m4⟩ := moved_up hi lo y s hl h (by omega) z3
  have hwY := u64_shl y s z3
  have hwH := u64_shl hi s m1
  have hwL := u64_shl_mod lo s
  have hwD := int_div_pow lo (64 - s)
  have hLm : lo * 2 ^ s % W64 < W64 := Nat.mod_lt _ W64_pos
  have hor : (hi * 2 ^ s) ||| (lo / 2 ^ (64 - s)) = hi * 2 ^ s + lo / 2 ^ (64 - s) := or_add _ _ _ m2
  have hwOr := u64_or_nat (hi * 2 ^ s) (lo / 2 ^ (64 - s)) (by unfold W64 at m1; omega) (by unfold W64 at hl; have := Nat.div_le_self lo (2 ^ (64 - s)); omega)
  rw [hor] at hwOr
  have hans1 : (hi * W64 + lo) / y = ((hi * W64 + lo) * 2 ^ s) / (y * 2 ^ s) := (Nat.mul_div_mul_right _ _ (Nat.pow_pos (by omega))).symm
  have hans2 : (hi * W64 + lo) % y = ((hi * W64 + lo) * 2 ^ s) % (y * 2 ^ s) / 2 ^ s := by
    rw [Nat.mul_mod_mul_right, Nat.mul_div_cancel _ (Nat.pow_pos (by omega))]
  rw [← m4] at hans1 hans2
  have e64 : ∀ x l, x * W64 + l = x * (W32 * W32) + l := by intro x l; rw [W64_sq]
  rw [e64 (hi * 2 ^ s + lo / 2 ^ (64 - s))] at hans1 hans2
  clear e64
  have hans := Lib.hid (And.intro hans1 hans2)
  clear hans1 hans2 m4 hor m2
  generalize hYe : y * 2 ^ s = Y at *
  generalize hHe : hi * 2 ^ s = H at *
  generalize hLe : lo * 2 ^ s % W64 = L at *
  generalize hDe : lo / 2 ^ (64 - s) = D at *
  generalize hue : H + D = u at *
  clear hYe hHe hLe hDe hue m1
  have hsm := Lib.hid (fun x : Nat => int_div_pow x s)
  have hYs : Y = Y / W32 * W32 + Y % W32 := by simp only [W32_eq]; omega
  have hwv1 : (Y : Int) / 4294967296 = ((Y / W32 : Nat) : Int) := by simp only [W32_eq]; omega
  have hwv0 : bits .and .u64 (Y : Int) 4294967295 = ((Y % W32 : Nat) : Int) := by rw [← and_low]; exact u64_and_nat Y 4294967295 (by unfold W64 at z3; omega) (by omega)
  have hLs : L = L / W32 * W32 + L % W32 := by simp only [W32_eq]; omega
  have hwn1 : (L : Int) / 4294967296 = ((L / W32 : Nat) : Int) := by simp only [W32_eq]; omega
  have hwn0 : bits .and .u64 (L : Int) 4294967295 = ((L % W32 : Nat) : Int) := by rw [← and_low]; exact u64_and_nat L 4294967295 (by unfold W64 at hLm; omega) (by omega)
  have hv0 : Y % W32 < W32 := Nat.mod_lt _ (by simp only [W32_eq]; omega)
  have hn0 : L % W32 < W32 := Nat.mod_lt _ (by simp only [W32_eq]; omega)
  have hv1 : 2147483648 ≤ Y / W32 ∧ Y / W32 < W32 := by unfold W64 at *; simp only [W32_eq] at *; omega
  have hn1 : L / W32 < W32 := by unfold W64 at *; simp only [W32_eq] at *; omega
  generalize Y / W32 = v1 at *
  generalize Y % W32 = v0 at *
  generalize L / W32 = n1 at *
  generalize L % W32 = n0 at *
  obtain ⟨hv1a, hv1b⟩ := hv1
  have hY := Lib.hid hYs
  have hL := Lib.hid hLs
  clear hYs hLs
  have hz1 : (v1 : Int) ≠ 0 := by omega
  have hz2 : ¬ (v1 = 0) := by omega
  have hz3 : ((v1 : Int) == 0) = false := by simp; omega
  have hY64 : Y < 18446744073709551616 := z3
  have hf1 := q_first hY.out hv1a hv0 m3 hn1
  have hrl1 : u % v1 < W32 := Nat.lt_trans (Nat.mod_lt _ (by omega)) hv1b
  have hu64 : u < W64 := Nat.lt_trans m3 z3
  obtain ⟨hwq1, hwqw1, hwm1, hwr1⟩ := first_walk u v1 hu64 hf1.1
  generalize u / v1 = qa at *
  generalize u % v1 = ra at *
  generalize qa * v1 = qav at hwm1 hwr1
  have Hf1 := Lib.hid hf1
  clear hf1
  have hu := m3
  go_enter Tryz.func215, Tryz.ntmps215
  have hy0 : ((y : Int) == 0) = false := by simp; omega
  have hy1 : ¬ ((y : Int) ≤ hi) := by omega
  have hh0 : ((hi : Int) == 0) = false := by simp; omega
  have hh1 : decide (hi = 0) = false := by simp; omega
  have hh2 : ¬ (hi = 0) := by omega
  go_upto_block 0 with (refine hz.mono ?_; rintro e w' ⟨rfl, rfl⟩)
  go_cut [15] (fun s wx => s = .int .u64 (((u * W32 + n1) / Y : Nat) : Int) ∧ wx = w)
  case first =>
    go_wp2_with fail
    go_loopw [15, 16] (fun a b wr => ∃ q r : Nat, q ≤ W32 + 1 ∧ Hid (q * v1 + r = u) ∧ u * W32 + n1 < (q + 1) * Y ∧ r < W32 ∧ a = .int .u64 q ∧ b = .int .u64 r ∧ wr = w) (fun a _ _ => (intOf a).toNat)
    case atStart => exact ⟨_, _, Hf1.out.1, Lib.hid Hf1.out.2.1, Hf1.out.2.2, hrl1, rfl, rfl, rfl⟩
    case round =>
      obtain ⟨q, r, hq1, hqr, hbig, hrW, rfl, rfl, rfl⟩ := hrel
      have hm1 : IntKind.u64.wrap ((4294967296 : Int) * (r : Int)) = ((W32 * r : Nat) : Int) := by rw [IntKind.wrap_u64]; simp only [W32_eq] at *; omega
      have hm2 : IntKind.u64.wrap (((W32 * r : Nat) : Int) + (n1 : Int)) = ((W32 * r + n1 : Nat) : Int) := by rw [IntKind.wrap_u64]; simp only [W32_eq] at *; omega
      by_cases hA : W32 ≤ q
      · have hA' : decide ((4294967296 : Int) ≤ (q : Int)) = true := by simp only [W32_eq] at hA; exact decide_eq_true (by omega)
        have hbig : u * W32 + n1 < q * Y := q_huge hu hn1 hA
        have HA := Lib.hid hA
        clear hm1 hm2 hA

        have hp : 0 < q := by
          rcases Nat.eq_zero_or_pos q with h | h
          · subst h; simp at hbig
          · exact h
        have hdn := Lib.hid (q_down hqr.out hp)
        have hwd : IntKind.u64.wrap ((q : Int) - 1) = ((q - 1 : Nat) : Int) := by rw [IntKind.wrap_u64]; simp only [W32_eq] at *; omega
        have hwr : IntKind.u64.wrap ((r : Int) + (v1 : Int)) = ((r + v1 : Nat) : Int) := by rw [IntKind.wrap_u64]; simp only [W32_eq] at *; omega
        obtain ⟨q', hq'⟩ : ∃ q', q' = q - 1 := ⟨_, rfl⟩
        obtain ⟨r', hr'⟩ : ∃ r', r' = r + v1 := ⟨_, rfl⟩
        rw [← hq'] at hwd hdn
        rw [← hr'] at hwr hdn
        have hb2 : Hid (u * W32 + n1 < (q' + 1) * Y) := by rw [hq', Nat.sub_add_cancel hp]; exact hbig
        have hq1' : q' ≤ W32 := by omega
        have Hq' := Lib.hid hq'
        have Hr' := Lib.hid hr'
        clear hq' hr' hbig
        have hbm : q' < q := by rw [Hq'.out]; omega
        have HqW := Lib.hid hq1
        clear hq1
        by_cases hC : W32 ≤ r'
        · have hC' : decide ((4294967296 : Int) ≤ (r' : Int)) = true := by simp only [W32_eq] at hC; exact decide_eq_true (by omega)
          have HC := Lib.hid hC
          have Hq1 := Lib.hid hq1'
          have Hv0 := Lib.hid hv0
          clear hC hq1' hv0 hrW hbm
          go_wp2
          go_meet
          case rel => exact ⟨ret_u64 (q_is (q_ok hY.out hdn.out (q_break HC.out Hq1.out Hv0.out)) hb2.out), by trivial⟩
        · have hC' : decide ((4294967296 : Int) ≤ (r' : Int)) = false := by simp only [W32_eq] at hC; exact decide_eq_false (by omega)
          have HC := Lib.hid hC
          have Hq1 := Lib.hid hq1'
          have Hrw := Lib.hid hrW
          clear hC hq1' hrW
          go_wp2
          refine ⟨⟨q', r', by have := Hq1.out; omega, hdn, hb2.out, by have := HC.out; omega, rfl, rfl, by trivial⟩, by simp [intOf]; omega⟩
      · have hA' : decide ((4294967296 : Int) ≤ (q : Int)) = false := by simp only [W32_eq] at hA; exact decide_eq_false (by omega)
        have hqv : q * v0 < W64 := by
          have h1 : q * v0 ≤ W32 * v0 := Nat.mul_le_mul_right _ (by omega)
          unfold W64 at *; simp only [W32_eq] at *; omega
        have hm0 : IntKind.u64.wrap ((q : Int) * (v0 : Int)) = ((q * v0 : Nat) : Int) := by rw [IntKind.wrap_u64]; unfold W64 at *; rw [← Int.natCast_mul]; omega
        obtain ⟨x1, hx1⟩ : ∃ x, x = q * v0 := ⟨_, rfl⟩
        obtain ⟨x2, hx2⟩ : ∃ x, x = W32 * r + n1 := ⟨_, rfl⟩
        obtain ⟨x3, hx3⟩ : ∃ x, x = W32 * r := ⟨_, rfl⟩
        rw [← hx1] at hm0
        rw [← hx3] at hm1
        rw [← hx2, ← hx3] at hm2
        by_cases hB : x2 < x1
        · have hbig : u * W32 + n1 < q * Y := q_big hY.out hqr.out (by rw [← hx1, ← hx2]; exact hB)
          have Hx1 := Lib.hid hx1
          have Hx2 := Lib.hid hx2
          have Hx3 := Lib.hid hx3
          have hB' : decide (x2 < x1) = true := decide_eq_true hB
          have hB3 : decide ((x2 : Int) < (x1 : Int)) = true := decide_eq_true (by omega)
          clear hx1 hx2 hx3 hqv hB hA

          have hp : 0 < q := by
            rcases Nat.eq_zero_or_pos q with h | h
            · subst h; simp at hbig
            · exact h
          have hdn := Lib.hid (q_down hqr.out hp)
          have hwd : IntKind.u64.wrap ((q : Int) - 1) = ((q - 1 : Nat) : Int) := by rw [IntKind.wrap_u64]; simp only [W32_eq] at *; omega
          have hwr : IntKind.u64.wrap ((r : Int) + (v1 : Int)) = ((r + v1 : Nat) : Int) := by rw [IntKind.wrap_u64]; simp only [W32_eq] at *; omega
          obtain ⟨q', hq'⟩ : ∃ q', q' = q - 1 := ⟨_, rfl⟩
          obtain ⟨r', hr'⟩ : ∃ r', r' = r + v1 := ⟨_, rfl⟩
          rw [← hq'] at hwd hdn
          rw [← hr'] at hwr hdn
          have hb2 : Hid (u * W32 + n1 < (q' + 1) * Y) := by rw [hq', Nat.sub_add_cancel hp]; exact hbig
          have hq1' : q' ≤ W32 := by omega
          have Hq' := Lib.hid hq'
          have Hr' := Lib.hid hr'
          clear hq' hr' hbig
          have hbm : q' < q := by rw [Hq'.out]; omega
          have HqW := Lib.hid hq1
          clear hq1
          by_cases hC : W32 ≤ r'
          · have hC' : decide ((4294967296 : Int) ≤ (r' : Int)) = true := by simp only [W32_eq] at hC; exact decide_eq_true (by omega)
            have HC := Lib.hid hC
            have Hq1 := Lib.hid hq1'
            have Hv0 := Lib.hid hv0
            clear hC hq1' hv0 hrW hbm
            go_wp2
            go_meet
            case rel => exact ⟨ret_u64 (q_is (q_ok hY.out hdn.out (q_break HC.out Hq1.out Hv0.out)) hb2.out), by trivial⟩
          · have hC' : decide ((4294967296 : Int) ≤ (r' : Int)) = false := by simp only [W32_eq] at hC; exact decide_eq_false (by omega)
            have HC := Lib.hid hC
            have Hq1 := Lib.hid hq1'
            have Hrw := Lib.hid hrW
            clear hC hq1' hrW
            go_wp2
            refine ⟨⟨q', r', by have := Hq1.out; omega, hdn, hb2.out, by have := HC.out; omega, rfl, rfl, by trivial⟩, by simp [intOf]; omega⟩
        · have hfin : Hid (q = (u * W32 + n1) / Y) := Lib.hid (q_is (q_ok hY.out hqr.out (by rw [← hx1, ← hx2]; omega)) hbig)
          have Hx1 := Lib.hid hx1
          have Hx2 := Lib.hid hx2
          have Hx3 := Lib.hid hx3
          have hB' : decide (x2 < x1) = false := decide_eq_false hB
          have hB3 : decide ((x2 : Int) < (x1 : Int)) = false := decide_eq_false (by omega)
          clear hx1 hx2 hx3 hqv hbig hB hA hrW hq1
          go_wp2
          go_meet
          case rel => exact ⟨ret_u64 hfin.out, by trivial⟩
  obtain ⟨rfl, rfl⟩ := hcut
  have hq1l := q_lt (n := n1) hu hn1
  have hrm1 := rem_wrap (a := u * W32 + n1) (y := Y) rfl (by omega) (Nat.le_of_lt z3)
  have hfig := Lib.hid (two_figs u n1 n0 Y (by omega))
  have hu2 : (u * W32 + n1) % Y < Y := Nat.mod_lt _ (by omega)
  obtain ⟨hm3, hm4, hm5, hm6, hm7⟩ := mid_walk u n1 ((u * W32 + n1) / Y) Y ((u * W32 + n1) % Y) hrm1
  clear hrm1
  generalize (u * W32 + n1) / Y = q1 at *
  generalize (u * W32 + n1) % Y = u2 at *
  generalize u * W32 % W64 = a1 at hm3 hm4
  generalize (u * W32 + n1) % W64 = a2 at hm4 hm6
  generalize q1 * Y % W64 = a3 at hm5 hm6
  have hf2 := q_first hY.out hv1a hv0 hu2 hn0
  have hrl2 : u2 % v1 < W32 := Nat.lt_trans (Nat.mod_lt _ (by omega)) hv1b
  have hu264 : u2 < W64 := Nat.lt_trans hu2 z3
  obtain ⟨hwq2, hwqw2, hwm2, hwr2⟩ := first_walk u2 v1 hu264 hf2.1
  generalize u2 / v1 = qb at *
  generalize u2 % v1 = rb at *
  generalize qb * v1 = qbv at hwm2 hwr2
  have Hf2 := Lib.hid hf2
  clear hf2
  go_upto_block 2 with fail
  go_cut [18] (fun s wx => s = .int .u64 (((u2 * W32 + n0) / Y : Nat) : Int) ∧ wx = wc)
  case first =>
    go_wp2_with fail
    go_loopw [18, 16] (fun a b wr => ∃ q r : Nat, q ≤ W32 + 1 ∧ Hid (q * v1 + r = u2) ∧ u2 * W32 + n0 < (q + 1) * Y ∧ r < W32 ∧ a = .int .u64 q ∧ b = .int .u64 r ∧ wr = wc) (fun a _ _ => (intOf a).toNat)
    case atStart => exact ⟨_, _, Hf2.out.1, Lib.hid Hf2.out.2.1, Hf2.out.2.2, hrl2, rfl, rfl, rfl⟩
    case round =>
      obtain ⟨q, r, hq1, hqr, hbig, hrW, rfl, rfl, rfl⟩ := hrel
      have hm1 : IntKind.u64.wrap ((4294967296 : Int) * (r : Int)) = ((W32 * r : Nat) : Int) := by rw [IntKind.wrap_u64]; simp only [W32_eq] at *; omega
      have hm2 : IntKind.u64.wrap (((W32 * r : Nat) : Int) + (n0 : Int)) = ((W32 * r + n0 : Nat) : Int) := by rw [IntKind.wrap_u64]; simp only [W32_eq] at *; omega
      by_cases hA : W32 ≤ q
      · have hA' : decide ((4294967296 : Int) ≤ (q : Int)) = true := by simp only [W32_eq] at hA; exact decide_eq_true (by omega)
        have hbig : u2 * W32 + n0 < q * Y := q_huge hu2 hn0 hA
        have HA := Lib.hid hA
        clear hm1 hm2 hA

        have hp : 0 < q := by
          rcases Nat.eq_zero_or_pos q with h | h
          · subst h; simp at hbig
          · exact h
        have hdn := Lib.hid (q_down hqr.out hp)
        have hwd : IntKind.u64.wrap ((q : Int) - 1) = ((q - 1 : Nat) : Int) := by rw [IntKind.wrap_u64]; simp only [W32_eq] at *; omega
        have hwr : IntKind.u64.wrap ((r : Int) + (v1 : Int)) = ((r + v1 : Nat) : Int) := by rw [IntKind.wrap_u64]; simp only [W32_eq] at *; omega
        obtain ⟨q', hq'⟩ : ∃ q', q' = q - 1 := ⟨_, rfl⟩
        obtain ⟨r', hr'⟩ : ∃ r', r' = r + v1 := ⟨_, rfl⟩
        rw [← hq'] at hwd hdn
        rw [← hr'] at hwr hdn
        have hb2 : Hid (u2 * W32 + n0 < (q' + 1) * Y) := by rw [hq', Nat.sub_add_cancel hp]; exact hbig
        have hq1' : q' ≤ W32 := by omega
        have Hq' := Lib.hid hq'
        have Hr' := Lib.hid hr'
        clear hq' hr' hbig
        have hbm : q' < q := by rw [Hq'.out]; omega
        have HqW := Lib.hid hq1
        clear hq1
        by_cases hC : W32 ≤ r'
        · have hC' : decide ((4294967296 : Int) ≤ (r' : Int)) = true := by simp only [W32_eq] at hC; exact decide_eq_true (by omega)
          have HC := Lib.hid hC
          have Hq1 := Lib.hid hq1'
          have Hv0 := Lib.hid hv0
          clear hC hq1' hv0 hrW hbm
          go_wp2
          go_meet
          case rel => exact ⟨ret_u64 (q_is (q_ok hY.out hdn.out (q_break HC.out Hq1.out Hv0.out)) hb2.out), by trivial⟩
        · have hC' : decide ((4294967296 : Int) ≤ (r' : Int)) = false := by simp only [W32_eq] at hC; exact decide_eq_false (by omega)
          have HC := Lib.hid hC
          have Hq1 := Lib.hid hq1'
          have Hrw := Lib.hid hrW
          clear hC hq1' hrW
          go_wp2
          refine ⟨⟨q', r', by have := Hq1.out; omega, hdn, hb2.out, by have := HC.out; omega, rfl, rfl, by trivial⟩, by simp [intOf]; omega⟩
      · have hA' : decide ((4294967296 : Int) ≤ (q : Int)) = false := by simp only [W32_eq] at hA; exact decide_eq_false (by omega)
        have hqv : q * v0 < W64 := by
          have h1 : q * v0 ≤ W32 * v0 := Nat.mul_le_mul_right _ (by omega)
          unfold W64 at *; simp only [W32_eq] at *; omega
        have hm0 : IntKind.u64.wrap ((q : Int) * (v0 : Int)) = ((q * v0 : Nat) : Int) := by rw [IntKind.wrap_u64]; unfold W64 at *; rw [← Int.natCast_mul]; omega
        obtain ⟨x1, hx1⟩ : ∃ x, x = q * v0 := ⟨_, rfl⟩
        obtain ⟨x2, hx2⟩ : ∃ x, x = W32 * r + n0 := ⟨_, rfl⟩
        obtain ⟨x3, hx3⟩ : ∃ x, x = W32 * r := ⟨_, rfl⟩
        rw [← hx1] at hm0
        rw [← hx3] at hm1
        rw [← hx2, ← hx3] at hm2
        by_cases hB : x2 < x1
        · have hbig : u2 * W32 + n0 < q * Y := q_big hY.out hqr.out (by rw [← hx1, ← hx2]; exact hB)
          have Hx1 := Lib.hid hx1
          have Hx2 := Lib.hid hx2
          have Hx3 := Lib.hid hx3
          have hB' : decide (x2 < x1) = true := decide_eq_true hB
          have hB3 : decide ((x2 : Int) < (x1 : Int)) = true := decide_eq_true (by omega)
          clear hx1 hx2 hx3 hqv hB hA

          have hp : 0 < q := by
            rcases Nat.eq_zero_or_pos q with h | h
            · subst h; simp at hbig
            · exact h
          have hdn := Lib.hid (q_down hqr.out hp)
          have hwd : IntKind.u64.wrap ((q : Int) - 1) = ((q - 1 : Nat) : Int) := by rw [IntKind.wrap_u64]; simp only [W32_eq] at *; omega
          have hwr : IntKind.u64.wrap ((r : Int) + (v1 : Int)) = ((r + v1 : Nat) : Int) := by rw [IntKind.wrap_u64]; simp only [W32_eq] at *; omega
          obtain ⟨q', hq'⟩ : ∃ q', q' = q - 1 := ⟨_, rfl⟩
          obtain ⟨r', hr'⟩ : ∃ r', r' = r + v1 := ⟨_, rfl⟩
          rw [← hq'] at hwd hdn
          rw [← hr'] at hwr hdn
          have hb2 : Hid (u2 * W32 + n0 < (q' + 1) * Y) := by rw [hq', Nat.sub_add_cancel hp]; exact hbig
          have hq1' : q' ≤ W32 := by omega
          have Hq' := Lib.hid hq'
          have Hr' := Lib.hid hr'
          clear hq' hr' hbig
          have hbm : q' < q := by rw [Hq'.out]; omega
          have HqW := Lib.hid hq1
          clear hq1
          by_cases hC : W32 ≤ r'
          · have hC' : decide ((4294967296 : Int) ≤ (r' : Int)) = true := by simp only [W32_eq] at hC; exact decide_eq_true (by omega)
            have HC := Lib.hid hC
            have Hq1 := Lib.hid hq1'
            have Hv0 := Lib.hid hv0
            clear hC hq1' hv0 hrW hbm
            go_wp2
            go_meet
            case rel => exact ⟨ret_u64 (q_is (q_ok hY.out hdn.out (q_break HC.out Hq1.out Hv0.out)) hb2.out), by trivial⟩
          · have hC' : decide ((4294967296 : Int) ≤ (r' : Int)) = false := by simp only [W32_eq] at hC; exact decide_eq_false (by omega)
            have HC := Lib.hid hC
            have Hq1 := Lib.hid hq1'
            have Hrw := Lib.hid hrW
            clear hC hq1' hrW
            go_wp2
            refine ⟨⟨q', r', by have := Hq1.out; omega, hdn, hb2.out, by have := HC.out; omega, rfl, rfl, by trivial⟩, by simp [intOf]; omega⟩
        · have hfin : Hid (q = (u2 * W32 + n0) / Y) := Lib.hid (q_is (q_ok hY.out hqr.out (by rw [← hx1, ← hx2]; omega)) hbig)
          have Hx1 := Lib.hid hx1
          have Hx2 := Lib.hid hx2
          have Hx3 := Lib.hid hx3
          have hB' : decide (x2 < x1) = false := decide_eq_false hB
          have hB3 : decide ((x2 : Int) < (x1 : Int)) = false := decide_eq_false (by omega)
          clear hx1 hx2 hx3 hqv hbig hB hA hrW hq1
          go_wp2
          go_meet
          case rel => exact ⟨ret_u64 hfin.out, by trivial⟩
  obtain ⟨rfl, rfl⟩ := hcut
  have hq0l := q_lt (n := n0) hu2 hn0
  have hrm2 := rem_wrap (a := u2 * W32 + n0) (y := Y) rfl (by omega) (Nat.le_of_lt z3)
  have hr2 : (u2 * W32 + n0) % Y < Y := Nat.mod_lt _ (by omega)
  obtain ⟨hk3, hk4, hk5, hk6, hk7⟩ := mid_walk u2 n0 ((u2 * W32 + n0) / Y) Y ((u2 * W32 + n0) % Y) hrm2
  clear hrm2
  generalize (u2 * W32 + n0) / Y = q0 at *
  generalize (u2 * W32 + n0) % Y = r2 at *
  generalize u2 * W32 % W64 = a4 at hk3 hk4
  generalize (u2 * W32 + n0) % W64 = a5 at hk4 hk6
  generalize q0 * Y % W64 = a6 at hk5 hk6
  have hk8 : IntKind.u64.wrap ((q1 : Int) * 4294967296) = ((q1 * W32 : Nat) : Int) := by rw [IntKind.wrap_u64]; simp only [W32_eq] at *; omega
  have hk9 : IntKind.u64.wrap (((q1 * W32 : Nat) : Int) + (q0 : Int)) = ((q1 * W32 + q0 : Nat) : Int) := by rw [IntKind.wrap_u64]; simp only [W32_eq] at *; omega
  have hk10 := hsm.out r2
  obtain ⟨x1, hx1⟩ : ∃ x, x = q1 * W32 + q0 := ⟨_, rfl⟩
  obtain ⟨x2, hx2⟩ : ∃ x, x = q1 * W32 := ⟨_, rfl⟩
  obtain ⟨x3, hx3⟩ : ∃ x, x = r2 / 2 ^ s := ⟨_, rfl⟩
  rw [← hx2] at hk8
  rw [← hx1, ← hx2] at hk9
  rw [← hx3] at hk10
  have Hx1 := Lib.hid hx1
  have Hx2 := Lib.hid hx2
  have Hx3 := Lib.hid hx3
  clear hx1 hx2 hx3
  go_wp2
  go_ret2
  obtain ⟨ha1, ha2⟩ := hans.out
  obtain ⟨hg1, hg2⟩ := hfig.out
  rw [ha1, ha2, hL.out, hg1, hg2, Hx1.out, Hx3.out]
  exact ⟨rfl, rfl⟩
theorem div64_any (hi lo y : Nat) (hl : lo < W64) (hy : y < W64) (h : hi < y) (w : World) :
    Calls Tryz.prog 215 #[.int .u64 hi, .int .u64 lo, .int .u64 y] w fun e w' => e = .returned (.tuple #[.int .u64 (((hi * W64 + lo) / y : Nat) : Int), .int .u64 (((hi * W64 + lo) % y : Nat) : Int)]) ∧ ∃ n, w' = w.drewN n := by
  rcases Nat.eq_zero_or_pos hi with h0 | h0
  · subst h0
    simpa using div64_nought lo y hl hy h w
  · exact (div64_some hi lo y hl hy h h0 w).mono fun _ _ ⟨h1, h2⟩ => ⟨h1, 0, h2.symm⟩
end Go.Proofs.YtdnjdglekifhpaaGreat
namespace Go.Proofs.YtdnjdglekifhpaaGreat
open Go.RowKit
def GuessAt (N u0 v1 v0 q R : Nat) : Prop := q * v1 + R = N ∧ (N * W64 + u0 < (q + 1) * (v1 * W64 + v0) ∨ q + 1 = W64)
def GuessOk (N u0 v1 v0 q : Nat) : Prop := q < W64 ∧ q * (v1 * W64 + v0) ≤ N * W64 + u0 ∧ (N * W64 + u0 < (q + 1) * (v1 * W64 + v0) ∨ q + 1 = W64)
theorem GuessAt.stop {N u0 v1 v0 q R : Nat} (h : GuessAt N u0 v1 v0 q R) (hq : q < W64) (hs : q * v0 ≤ R * W64 + u0) : GuessOk N u0 v1 v0 q := ⟨hq, guess_stop h.1 hs, h.2⟩
theorem GuessAt.more {N u0 v1 v0 q R : Nat} (h : GuessAt N u0 v1 v0 q R) (hm : R * W64 + u0 < q * v0) : 0 < q ∧ GuessAt N u0 v1 v0 (q - 1) (R + v1) := by
  have h0 : 0 < q := by
    rcases Nat.eq_zero_or_pos q with e | e
    · subst e; simp at hm
    · exact e
  obtain ⟨k, rfl⟩ : ∃ k, q = k + 1 := ⟨q - 1, by omega⟩
  refine ⟨h0, ?_, .inl ?_⟩
  · have := h.1
    rw [Nat.add_mul, Nat.one_mul] at this
    rw [Nat.add_sub_cancel]; omega
  · rw [Nat.add_sub_cancel]; exact guess_more h.1 hm
set_option maxRecDepth 100000 in
set_option maxHeartbeats 2000000 in
theorem guess_any (u2 u1 u0 v1 v0 : Nat) (h2 : u2 ≤ v1) (hu1 : u1 < W64) (hu0 : u0 < W64) (hv1 : v1 < W64) (hv0 : v0 < W64) (hp : 0 < v1) (w : World) :
    Calls Tryz.prog 200 #[.int .u64 u2, .int .u64 u1, .int .u64 u0, .int .u64 v1, .int .u64 v0] w fun e w' => ∃ q : Nat, e = .returned (.int .u64 q) ∧ GuessOk (u2 * W64 + u1) u0 v1 v0 q ∧ ∃ n, w' = w.drewN n := by
  have hW : W64 = 18446744073709551616 := rfl
  obtain ⟨N, hN⟩ : ∃ N, N = u2 * W64 + u1 := ⟨_, rfl⟩
  rw [← hN]
  have start : ∃ q r o : Nat, q < W64 ∧ r < W64 ∧ o ≤ 1 ∧ GuessAt N u0 v1 v0 q (o * W64 + r) ∧ ((u2 = v1 ∧ q = 18446744073709551615 ∧ r = (u1 + v1 + 0) % W64 ∧ o = (u1 + v1 + 0) / W64) ∨ (u2 < v1 ∧ q = N / v1 ∧ r = N % v1 ∧ o = 0)) := by
    by_cases he : u2 = v1
    · refine ⟨18446744073709551615, (u1 + v1 + 0) % W64, (u1 + v1 + 0) / W64, by omega, Nat.mod_lt _ W64_pos, by have : (u1 + v1 + 0) / W64 < 2 := by { rw [Nat.div_lt_iff_lt_mul W64_pos]; omega }; omega, ⟨?_, .inr (by omega)⟩, .inl ⟨he, rfl, rfl, rfl⟩⟩
      have e1 := Nat.div_add_mod (u1 + v1 + 0) W64
      rw [hN, he, Nat.mul_comm ((u1 + v1 + 0) / W64), e1, hW]
      omega
    · have hlt : u2 < v1 := by omega
      have e1 := Nat.div_add_mod N v1
      refine ⟨N / v1, N % v1, 0, ?_, Nat.lt_trans (Nat.mod_lt _ hp) hv1, by omega, ⟨by rw [Nat.mul_comm]; omega, .inl (guess_first hp hu0)⟩, .inr ⟨hlt, rfl, rfl, rfl⟩⟩
      rw [Nat.div_lt_iff_lt_mul hp, hN]
      have : (u2 + 1) * W64 ≤ v1 * W64 := Nat.mul_le_mul_right W64 hlt
      rw [Nat.add_mul, Nat.one_mul] at this
      rw [Nat.mul_comm W64 v1]
      omega
  obtain ⟨q, r, o, hq, hr, ho, hG, hcase⟩ := start
  have LOOP : ∀ (K : Prop), K → K := fun _ h => h
  clear LOOP
  rcases hcase with ⟨he, eq, er, eo⟩ | ⟨hlt, eq, er, eo⟩
  · have hA := fun W => run_Add64_ex u1 v1 0 r o 0 rfl (by omega) er eo W
    have hd1 : decide (((v1 : Nat) : Int) ≤ ((u2 : Nat) : Int)) = true := decide_eq_true (by omega)
    have hd1n : decide (v1 ≤ u2) = true := decide_eq_true (by omega)
    have hle : v1 ≤ u2 := by omega
    subst eq
    clear er eo hN he
    go_enter Tryz.func200, Tryz.ntmps200
    go_wp2_with fail
    go_step3
    go_wp2_with fail
    go_step3
    go_wp2_with fail
    clear hA hd1 hd1n hle
    go_loopw [11, 12, 13] (fun qv rv ov wr => ∃ q r o : Nat, qv = .int .u64 q ∧ rv = .int .u64 r ∧ ov = .int .u64 o ∧ q < W64 ∧ r < W64 ∧ o ≤ 1 ∧ GuessAt N u0 v1 v0 q (o * W64 + r) ∧ ∃ n, wr = w.drewN n) (fun qv _ _ _ => (RowKit.intOf qv).toNat)
    case atStart => exact ⟨_, r, o, rfl, rfl, rfl, hq, hr, ho, hG, 0, rfl⟩
    case round =>
      clear hG hq hr ho
      obtain ⟨q, r, o, rfl, rfl, rfl, hq, hr, ho, hG, n, rfl⟩ := hrel
      by_cases ho1 : o = 0
      · subst ho1
        rw [Nat.zero_mul, Nat.zero_add] at hG
        obtain ⟨hi, ehi⟩ : ∃ hi, hi = q * v0 / W64 := ⟨_, rfl⟩
        obtain ⟨lo, elo⟩ : ∃ lo, lo = q * v0 % W64 := ⟨_, rfl⟩
        have hM := fun W => mul64_ex q v0 hi lo hq hv0 ehi elo W
        have hx : hi * W64 + lo = q * v0 := by rw [ehi, elo, Nat.mul_comm]; exact Nat.div_add_mod _ _
        have hlo : lo < W64 := by rw [elo]; exact Nat.mod_lt _ W64_pos
        clear ehi elo
        by_cases hs : q * v0 ≤ r * W64 + u0
        · have HOK := Lib.hid (hG.stop hq hs)
          rw [← hx, hW] at hs
          rw [hW] at hlo hu0
          clear hx hG
          by_cases c1 : hi < r
          · have hd2 : decide (((hi : Nat) : Int) < ((r : Nat) : Int)) = true := decide_eq_true (by omega)
            have hd2n : decide (hi < r) = true := decide_eq_true (by omega)
            clear hs
            go_wp2_with fail
            refine (hM _).mono ?_
            rintro e w' ⟨rfl, rfl⟩
            go_wp2_with fail
            (try dsimp only [Exit.noGoto])
            go_ret
            exact ⟨q, rfl, HOK.out, n, rfl⟩
          · have hd2 : decide (((hi : Nat) : Int) < ((r : Nat) : Int)) = false := decide_eq_false (by omega)
            have hd2n : decide (hi < r) = false := decide_eq_false (by omega)
            have hd3 : (((hi : Nat) : Int) == ((r : Nat) : Int)) = true := by rw [beq_iff_eq]; omega
            have hd4 : decide (((lo : Nat) : Int) ≤ ((u0 : Nat) : Int)) = true := decide_eq_true (by omega)
            have hd4n : decide (lo ≤ u0) = true := decide_eq_true (by omega)
            have hd3n : hi = r := by omega
            clear hs
            go_wp2_with fail
            refine (hM _).mono ?_
            rintro e w' ⟨rfl, rfl⟩
            go_wp2_with fail
            (try dsimp only [Exit.noGoto])
            go_ret
            exact ⟨q, rfl, HOK.out, n, rfl⟩
        · obtain ⟨h0, hG'⟩ := hG.more (by omega)
          rw [← hx, hW] at hs
          obtain ⟨s, es⟩ : ∃ s, s = (r + v1 + 0) % W64 := ⟨_, rfl⟩
          obtain ⟨c, ec⟩ : ∃ c, c = (r + v1 + 0) / W64 := ⟨_, rfl⟩
          have hc1 : c ≤ 1 := by have : (r + v1 + 0) / W64 < 2 := by { rw [Nat.div_lt_iff_lt_mul W64_pos]; omega }
                                 omega
          have hs1 : s < W64 := by rw [es]; exact Nat.mod_lt _ W64_pos
          have hsc : c * W64 + s = r + v1 := by rw [ec, es, Nat.mul_comm]; exact Nat.div_add_mod _ _
          have hA2 := fun W => run_Add64_ex r v1 0 s c 0 rfl (by omega) es ec W
          rw [← hsc] at hG'
          have hwq : IntKind.u64.wrap (((q : Nat) : Int) - 1) = ((q - 1 : Nat) : Int) := by rw [IntKind.wrap_u64]; omega
          have HG := Lib.hid (And.intro hG' (And.intro hs1 (And.intro hc1 hq)))
          have hd2 : decide (((hi : Nat) : Int) < ((r : Nat) : Int)) = false := decide_eq_false (by omega)
          have hd2n : decide (hi < r) = false := decide_eq_false (by omega)
          have hrest : hi = r → u0 < lo := fun e => by omega
          clear hs hx es ec hsc hG hG' hs1 hc1
          by_cases hhr : hi = r
          · have hd3 : (((hi : Nat) : Int) == ((r : Nat) : Int)) = true := by rw [beq_iff_eq]; omega
            have hd4 : decide (((lo : Nat) : Int) ≤ ((u0 : Nat) : Int)) = false := decide_eq_false (by have := hrest hhr; omega)
            have hd4n : decide (lo ≤ u0) = false := decide_eq_false (by have := hrest hhr; omega)
            have hd4m : ¬ lo ≤ u0 := by have := hrest hhr; omega
            have hd3n : hi = r := hhr
            clear hrest hhr
            go_wp2_with fail
            refine (hM _).mono ?_
            rintro e w' ⟨rfl, rfl⟩
            go_wp2_with fail
            exact ⟨⟨q - 1, s, c, rfl, rfl, rfl, by have := HG.out.2.2.2; omega, HG.out.2.1, HG.out.2.2.1, HG.out.1, n, rfl⟩, by simp [RowKit.intOf]; omega⟩
          · have hd3 : (((hi : Nat) : Int) == ((r : Nat) : Int)) = false := by rw [beq_eq_false_iff_ne]; omega
            have hd3n : ¬ hi = r := hhr
            clear hrest hhr
            go_wp2_with fail
            refine (hM _).mono ?_
            rintro e w' ⟨rfl, rfl⟩
            go_wp2_with fail
            exact ⟨⟨q - 1, s, c, rfl, rfl, rfl, by have := HG.out.2.2.2; omega, HG.out.2.1, HG.out.2.2.1, HG.out.1, n, rfl⟩, by simp [RowKit.intOf]; omega⟩
      · have hd5 : (((o : Nat) : Int) == 0) = false := by rw [nat_eq0]; exact decide_eq_false ho1
        have hok := hG.stop hq (guess_over (by have : o = 1 := by omega
                                               subst this; omega) (Nat.le_of_lt hq) (Nat.le_of_lt hv0))
        have HOK := Lib.hid hok
        clear hok hG
        go_wp2_with fail
        (try dsimp only [Exit.noGoto])
        go_ret
        exact ⟨q, rfl, HOK.out, n, rfl⟩
  · have hD := fun W => div64_any u2 u1 v1 hu1 hv1 hlt W
    have hd1 : decide (((v1 : Nat) : Int) ≤ ((u2 : Nat) : Int)) = false := decide_eq_false (by omega)
    have hd1n : decide (v1 ≤ u2) = false := decide_eq_false (by omega)
    rw [← hN, ← eq, ← er] at hD
    subst eo
    clear eq er hN
    go_enter Tryz.func200, Tryz.ntmps200
    go_wp2_with fail
    go_step3
    go_wp2_with fail
    refine (hD _).mono ?_
    rintro e w1 ⟨rfl, n1, rfl⟩
    go_wp2_with fail
    go_step3
    go_wp2_with fail
    clear hD hd1 hd1n
    go_loopw [11, 12, 13] (fun qv rv ov wr => ∃ q r o : Nat, qv = .int .u64 q ∧ rv = .int .u64 r ∧ ov = .int .u64 o ∧ q < W64 ∧ r < W64 ∧ o ≤ 1 ∧ GuessAt N u0 v1 v0 q (o * W64 + r) ∧ ∃ n, wr = w.drewN n) (fun qv _ _ _ => (RowKit.intOf qv).toNat)
    case atStart => exact ⟨q, r, 0, rfl, rfl, rfl, hq, hr, ho, hG, n1, rfl⟩
    case round =>
      clear hG hq hr ho
      obtain ⟨q, r, o, rfl, rfl, rfl, hq, hr, ho, hG, n, rfl⟩ := hrel
      by_cases ho1 : o = 0
      · subst ho1
        rw [Nat.zero_mul, Nat.zero_add] at hG
        obtain ⟨hi, ehi⟩ : ∃ hi, hi = q * v0 / W64 := ⟨_, rfl⟩
        obtain ⟨lo, elo⟩ : ∃ lo, lo = q * v0 % W64 := ⟨_, rfl⟩
        have hM := fun W => mul64_ex q v0 hi lo hq hv0 ehi elo W
        have hx : hi * W64 + lo = q * v0 := by rw [ehi, elo, Nat.mul_comm]; exact Nat.div_add_mod _ _
        have hlo : lo < W64 := by rw [elo]; exact Nat.mod_lt _ W64_pos
        clear ehi elo
        by_cases hs : q * v0 ≤ r * W64 + u0
        · have HOK := Lib.hid (hG.stop hq hs)
          rw [← hx, hW] at hs
          rw [hW] at hlo hu0
          clear hx hG
          by_cases c1 : hi < r
          · have hd2 : decide (((hi : Nat) : Int) < ((r : Nat) : Int)) = true := decide_eq_true (by omega)
            have hd2n : decide (hi < r) = true := decide_eq_true (by omega)
            clear hs
            go_wp2_with fail
            refine (hM _).mono ?_
            rintro e w' ⟨rfl, rfl⟩
            go_wp2_with fail
            (try dsimp only [Exit.noGoto])
            go_ret
            exact ⟨q, rfl, HOK.out, n, rfl⟩
          · have hd2 : decide (((hi : Nat) : Int) < ((r : Nat) : Int)) = false := decide_eq_false (by omega)
            have hd2n : decide (hi < r) = false := decide_eq_false (by omega)
            have hd3 : (((hi : Nat) : Int) == ((r : Nat) : Int)) = true := by rw [beq_iff_eq]; omega
            have hd4 : decide (((lo : Nat) : Int) ≤ ((u0 : Nat) : Int)) = true := decide_eq_true (by omega)
            have hd4n : decide (lo ≤ u0) = true := decide_eq_true (by omega)
            have hd3n : hi = r := by omega
            clear hs
            go_wp2_with fail
            refine (hM _).mono ?_
            rintro e w' ⟨rfl, rfl⟩
            go_wp2_with fail
            (try dsimp only [Exit.noGoto])
            go_ret
            exact ⟨q, rfl, HOK.out, n, rfl⟩
        · obtain ⟨h0, hG'⟩ := hG.more (by omega)
          rw [← hx, hW] at hs
          obtain ⟨s, es⟩ : ∃ s, s = (r + v1 + 0) % W64 := ⟨_, rfl⟩
          obtain ⟨c, ec⟩ : ∃ c, c = (r + v1 + 0) / W64 := ⟨_, rfl⟩
          have hc1 : c ≤ 1 := by have : (r + v1 + 0) / W64 < 2 := by { rw [Nat.div_lt_iff_lt_mul W64_pos]; omega }
                                 omega
          have hs1 : s < W64 := by rw [es]; exact Nat.mod_lt _ W64_pos
          have hsc : c * W64 + s = r + v1 := by rw [ec, es, Nat.mul_comm]; exact Nat.div_add_mod _ _
          have hA2 := fun W => run_Add64_ex r v1 0 s c 0 rfl (by omega) es ec W
          rw [← hsc] at hG'
          have hwq : IntKind.u64.wrap (((q : Nat) : Int) - 1) = ((q - 1 : Nat) : Int) := by rw [IntKind.wrap_u64]; omega
          have HG := Lib.hid (And.intro hG' (And.intro hs1 (And.intro hc1 hq)))
          have hd2 : decide (((hi : Nat) : Int) < ((r : Nat) : Int)) = false := decide_eq_false (by omega)
          have hd2n : decide (hi < r) = false := decide_eq_false (by omega)
          have hrest : hi = r → u0 < lo := fun e => by omega
          clear hs hx es ec hsc hG hG' hs1 hc1
          by_cases hhr : hi = r
          · have hd3 : (((hi : Nat) : Int) == ((r : Nat) : Int)) = true := by rw [beq_iff_eq]; omega
            have hd4 : decide (((lo : Nat) : Int) ≤ ((u0 : Nat) : Int)) = false := decide_eq_false (by have := hrest hhr; omega)
            have hd4n : decide (lo ≤ u0) = false := decide_eq_false (by have := hrest hhr; omega)
            have hd4m : ¬ lo ≤ u0 := by have := hrest hhr; omega
            have hd3n : hi = r := hhr
            clear hrest hhr
            go_wp2_with fail
            refine (hM _).mono ?_
            rintro e w' ⟨rfl, rfl⟩
            go_wp2_with fail
            exact ⟨⟨q - 1, s, c, rfl, rfl, rfl, by have := HG.out.2.2.2; omega, HG.out.2.1, HG.out.2.2.1, HG.out.1, n, rfl⟩, by simp [RowKit.intOf]; omega⟩
          · have hd3 : (((hi : Nat) : Int) == ((r : Nat) : Int)) = false := by rw [beq_eq_false_iff_ne]; omega
            have hd3n : ¬ hi = r := hhr
            clear hrest hhr
            go_wp2_with fail
            refine (hM _).mono ?_
            rintro e w' ⟨rfl, rfl⟩
            go_wp2_with fail
            exact ⟨⟨q - 1, s, c, rfl, rfl, rfl, by have := HG.out.2.2.2; omega, HG.out.2.1, HG.out.2.2.1, HG.out.1, n, rfl⟩, by simp [RowKit.intOf]; omega⟩
      · have hd5 : (((o : Nat) : Int) == 0) = false := by rw [nat_eq0]; exact decide_eq_false ho1
        have hok := hG.stop hq (guess_over (by have : o = 1 := by omega
                                               subst this; omega) (Nat.le_of_lt hq) (Nat.le_of_lt hv0))
        have HOK := Lib.hid hok
        clear hok hG
        go_wp2_with fail
        (try dsimp only [Exit.noGoto])
        go_ret
        exact ⟨q, rfl, HOK.out, n, rfl⟩
end Go.Proofs.YtdnjdglekifhpaaGreat
namespace Go.Proofs.YtdnjdglekifhpaaGreat
open Go.RowKit
def RowU (w : World) (g : Nat) (l : List Nat) : Prop := ∃ sp : List Value, w.heap[g]? = some (.cells (us l ++ sp).toArray 141 (0, 0))
section
variable {w w' : World} {g : Nat} {l : List Nat}
theorem RowU.lt (h : RowU w g l) : g < w.heap.size := by obtain ⟨_, h⟩ := h; exact (Array.getElem?_eq_some_iff.1 h).1
theorem RowU.cell (h : RowU w g l) {i : Nat} (hi : i < l.length) : w.cell? ⟨g, i, none⟩ = some (.int .u64 (lat l i : Nat)) := by
  obtain ⟨sp, h⟩ := h
  rw [World.cell?]
  simp only [h]
  have : (us l ++ sp)[i]? = some (.int .u64 (lat l i : Nat)) := by
    rw [List.getElem?_append_left (by rw [us_len]; exact hi), us_at l i hi]; rfl
  simpa using this
theorem RowU.frozen (h : RowU w g l) (i : Nat) : w.frozen? ⟨g, i, none⟩ = false := by obtain ⟨sp, h⟩ := h; simp [World.frozen?, h]
theorem RowU.set (h : RowU w g l) (i x : Nat) : RowU (w.setCell ⟨g, i, none⟩ (.int .u64 (x : Int))) g (l.set i x) := by
  obtain ⟨sp, h⟩ := h
  rcases Nat.lt_or_ge i l.length with hi | hi
  · refine ⟨sp, ?_⟩
    simp only [World.setCell, Array.getElem?_modify, if_true, h, Option.map_some]
    have : (us l ++ sp).set i (.int .u64 (x : Int)) = us (l.set i x) ++ sp := by
      rw [List.set_append_left _ _ (by rw [us_len]; exact hi)]
      simp [us, List.map_set]
    simp [← this]
  · refine ⟨sp.set (i - l.length) (.int .u64 (x : Int)), ?_⟩
    simp only [World.setCell, Array.getElem?_modify, if_true, h, Option.map_some]
    have : (us l ++ sp).set i (.int .u64 (x : Int)) = us (l.set i x) ++ sp.set (i - l.length) (.int .u64 (x : Int)) := by
      rw [List.set_append_right _ _ (by rw [us_len]; exact hi), us_len, List.set_eq_of_length_le hi]
    simp [← this]
theorem RowU.of_heap (h : RowU w g l) (e : w'.heap[g]? = w.heap[g]?) : RowU w' g l := by obtain ⟨sp, h⟩ := h; exact ⟨sp, e.trans h⟩
theorem RowU.below {B : Nat} (h : RowU w g l) (hb : Below B w w') (hg : g < B) : RowU w' g l := h.of_heap (hb.block g hg)
theorem RowU.alloc (h : RowU w g l) (o : Obj) : RowU (w.alloc o) g l := h.of_heap (Below.heap_alloc w o g h.lt)
theorem RowU.drew (h : RowU w g l) : RowU w.drew g l := h
theorem RowU.drewN (h : RowU w g l) (n : Nat) : RowU (w.drewN n) g l := h
theorem RowU.far (h : RowU w g l) {C i : Nat} (hC : g ≠ C) (u : Value) : RowU (w.setCell ⟨C, i, none⟩ u) g l := h.of_heap (Below.heap_setCell w ⟨C, i, none⟩ u g hC)
theorem RowU.isCells (h : RowU w g l) : ∃ o : Obj, w.heap[g]? = some o ∧ o.isCells = true := by obtain ⟨sp, h⟩ := h; exact ⟨_, h, rfl⟩
theorem RowU.kept {row : Option Nat} (h : RowU w g l) (hg : w.grownBy w' row) (hr : ∀ r, row = some r → ∃ o : Obj, w.heap[r]? = some o ∧ o.isCells = false) : RowU w' g l :=
  h.of_heap (hg.block g h.lt (fun e => by
    obtain ⟨o, ho, hc⟩ := hr g e.symm
    obtain ⟨o', ho', hc'⟩ := h.isCells
    rw [ho'] at ho; cases ho; rw [hc'] at hc; cases hc))
theorem RowU.putObj (h : RowU w g l) {k : Nat} {o o' : Obj} (hl : w.heap[k]? = some o) (ho : o.isCells = false) : RowU (w.putObj k o') g l :=
  h.kept (grownBy_putObj' w k o') (fun r e => by cases e; exact ⟨o, hl, ho⟩)
theorem Arr.rowU (h : Arr w g l) : RowU w g l := ⟨[], by rw [List.append_nil]; exact h⟩
theorem RowU.isL (h : RowU w g l) (hb : Bd l) {c : Nat} (hc : l.length ≤ c) (hl : c ≤ 9223372036854775807) : IsL w (.slice (some ⟨g, 0, none⟩) l.length c) l :=
  ⟨_, _, rfl, hc, hl, hb, by rw [us_len]; omega, fun _ => ⟨_, rfl, h.lt, fun j u hu => by
    have e : Addr.add ⟨g, 0, none⟩ j = ⟨g, j, none⟩ := by unfold Addr.add; split <;> simp_all
    have hj : j < l.length := by
      rcases Nat.lt_or_ge j l.length with h' | h'
      · exact h'
      · rw [List.getElem?_eq_none (by rw [us_len]; exact h')] at hu; cases hu
    rw [e, h.cell hj]
    rw [us_at l j hj] at hu
    exact hu⟩⟩
theorem RowU.of_own {B : Nat} {v : Value} (h : w.ownsRow B 141 1 v l.length (us l)) (hl : 0 < l.length) : ∃ g c, v = .slice (some ⟨g, 0, none⟩) l.length c ∧ RowU w g l ∧ B ≤ g ∧ l.length ≤ c ∧ c ≤ 9223372036854775807 := by
  rcases h.2 with ⟨_, h0⟩ | ⟨g, cap, cur, rfl, h2, h3, h4, h5, h6, h7⟩
  · omega
  · refine ⟨g, cap, rfl, ⟨cur.toList.drop l.length, ?_⟩, h2, h4, by unfold maxLen at h5; omega⟩
    rw [Nat.mul_one] at h7
    rw [← h7, List.take_append_drop]
    exact h3
end
end Go.Proofs.YtdnjdglekifhpaaGreat
namespace Go.Proofs.YtdnjdglekifhpaaGreat
open Go.RowKit
def OnlyIn (g : Nat) (w w' : World) : Prop := Below g w w' ∧ (∀ j, j ≠ g → w'.heap[j]? = w.heap[j]?) ∧ w'.heap.size = w.heap.size
theorem OnlyIn.refl (g : Nat) (w : World) : OnlyIn g w w := ⟨Below.refl _ _, fun _ _ => rfl, rfl⟩
theorem OnlyIn.set {g i : Nat} {w w' : World} (h : OnlyIn g w w') (u : Value) : OnlyIn g w (w'.setCell ⟨g, i, none⟩ u) :=
  ⟨h.1.setCell (p := ⟨g, i, none⟩) (Nat.le_refl _) u, fun j hj => (Below.heap_setCell _ ⟨g, i, none⟩ _ j hj).trans (h.2.1 j hj), by simp [World.setCell]; exact h.2.2⟩
theorem OnlyIn.drew {g : Nat} {w w' : World} (h : OnlyIn g w w') : OnlyIn g w w'.drew := ⟨h.1.drew, h.2.1, h.2.2⟩
def TakenPost (g k : Nat) (L v : List Nat) (w : World) (e : Ending) (w' : World) : Prop :=
  ∃ L' : List Nat, e = .returned (.int .u64 ((num ((L.drop k).take (v.length + 1)) / num v : Nat) : Int)) ∧ RowU w' g L' ∧ OnlyIn g w w' ∧ TakenTo L v k (num ((L.drop k).take (v.length + 1)) % num v) L'
set_option maxRecDepth 100000 in
set_option maxHeartbeats 2000000 in
theorem taken_any (g k cu : Nat) (L v : List Nat) (vv : Value) (q : Nat) (w : World) (hA : RowU w g L) (hk : k + v.length + 1 ≤ L.length) (_hcu : v.length + 1 ≤ cu) (hL : L.length ≤ 10000000) (bL : Bd L) (hv : IsL w vv v) (hvb : vv.ownBlock ≠ some g) (hq : q < W64) (hV : 0 < num v) (g1 : num ((L.drop k).take (v.length + 1)) / num v ≤ q) (g2 : q ≤ num ((L.drop k).take (v.length + 1)) / num v + 1) :
    Calls Tryz.prog 199 #[.slice (some ⟨g, k, none⟩) (v.length + 1 : Nat) cu, vv, .int .u64 q] w (TakenPost g k L v w) := by
  obtain ⟨A, cv, rfl, hvc, hcv, bv, hvr⟩ := id hv
  have G1 := Lib.hid g1
  have G2 := Lib.hid g2
  have HV := Lib.hid hV
  clear g1 g2 hV
  have hW : W64 = 18446744073709551616 := rfl
  go_enter Tryz.func199, Tryz.ntmps199
  go_wp2_with fail
  go_loopw [7, 8, 20] (fun cV bV iV wr => ∃ (i c b : Nat) (L1 : List Nat), i ≤ v.length ∧ cV = .int .u64 c ∧ bV = .int .u64 b ∧ iV = .int .i64 i ∧ TakenAt L v k q i L1 c b ∧ RowU wr g L1 ∧ IsL wr (.slice A v.length cv) v ∧ OnlyIn g w wr) (fun _ _ i _ => v.length - (RowKit.intOf i).toNat)
  case atStart => exact ⟨0, 0, 0, L, Nat.zero_le _, rfl, rfl, rfl, ⟨rfl, bL, W64_pos, Nat.zero_le _, rfl, rfl, by simp [num]⟩, hA, hv, OnlyIn.refl _ _⟩
  case round =>
    obtain ⟨i, c, b, L1, hi, rfl, rfl, rfl, hT, hA1, hv1, hw1⟩ := hrel
    by_cases hiv : i < v.length
    · have HT := Lib.hid hT
      obtain ⟨t1, t2, t3, t4, t5, t6, t7⟩ := hT
      have hki : k + i < L1.length := by omega
      have hrd : Reads wr wr.heap.size 1 A v.length (us v) := by
        obtain ⟨A', c', e, _, _, _, hr⟩ := hv1
        obtain ⟨rfl, _, rfl⟩ := Value.slice.inj e
        exact hr
      obtain ⟨bd, rfl, _, hyc⟩ := us_cell hrd hiv
      have hxc := hA1.cell hki
      have hxf := hA1.frozen (k + i)
      have hx64 := t2.lat (k + i)
      have hy64 := bv.lat i
      obtain ⟨x, ex⟩ : ∃ x, x = lat L1 (k + i) := ⟨_, rfl⟩
      obtain ⟨y, ey⟩ : ∃ y, y = lat v i := ⟨_, rfl⟩
      rw [← ex] at hxc hx64
      rw [← ey] at hyc hy64
      obtain ⟨hi', ehi⟩ : ∃ h, h = q * y / W64 := ⟨_, rfl⟩
      obtain ⟨lo, elo⟩ : ∃ l, l = q * y % W64 := ⟨_, rfl⟩
      obtain ⟨s, es⟩ : ∃ s, s = (lo + c + 0) % W64 := ⟨_, rfl⟩
      obtain ⟨k1, ek⟩ : ∃ z, z = (lo + c + 0) / W64 := ⟨_, rfl⟩
      have hp : hi' * W64 + lo = q * y := by rw [ehi, elo, Nat.mul_comm]; exact Nat.div_add_mod _ _
      have hlo : lo < W64 := by rw [elo]; exact Nat.mod_lt _ W64_pos
      obtain ⟨d1, d2, d3⟩ := taken_digit hp hlo es ek hx64 t4 t3 (hi_small hq hy64 hp)
      have hM := Lib.hid (fun W => mul64_ex q y hi' lo hq hy64 ehi elo W)
      have hA2 := fun W => run_Add64_ex lo c 0 s k1 0 rfl (by omega) es ek W
      have hS := fun W => run_Sub64 x s b t4 W
      obtain ⟨x', ex'⟩ : ∃ z, z = (x + W64 - s - b) % W64 := ⟨_, rfl⟩
      obtain ⟨b', eb'⟩ : ∃ z, z = (if x < s + b then 1 else 0 : Nat) := ⟨_, rfl⟩
      have hb1 : b' ≤ 1 := by rw [eb']; split <;> omega
      obtain ⟨c1, ec1⟩ : ∃ z, z = hi' + k1 := ⟨_, rfl⟩
      have hwc : IntKind.u64.wrap (((hi' : Nat) : Int) + ((k1 : Nat) : Int)) = ((c1 : Nat) : Int) := by rw [IntKind.wrap_u64]; omega
      simp only [← ex', ← eb'] at hS
      rw [← ex', ← eb', ← ec1] at d1
      rw [← ec1] at d2
      rw [← ex'] at d3
      have j0 : (0 : Int) ≤ (i : Int) := by omega
      have j1 : (i : Int) < ((v.length : Nat) : Int) := by omega
      have j2 : (i : Int) < ((v.length : Nat) : Int) + 1 := by omega
      have HD := Lib.hid (And.intro d1 (And.intro d2 (And.intro d3 (And.intro hb1 (And.intro ex ey)))))
      clear ehi elo es ek hp hlo d1 d2 d3 ex' eb' ec1 t1 t2 t5 t6 t7 ex ey hb1
      go_wp2_with fail
      refine (hM.out _).mono ?_
      rintro e w' ⟨rfl, rfl⟩
      go_wp2_with fail
      obtain ⟨u1, u2, u3, u4, u5, u6⟩ := HD.out
      refine ⟨⟨i + 1, c1, b', L1.set (k + i) x', by omega, rfl, rfl, congrArg (Value.int .i64) (by omega), HT.out.step hiv hk u5 u6 u1 u2 u4 u3, hA1.set _ _, hv1.far (p := ⟨g, k + i, none⟩) hvb _, hw1.set _⟩, by simp [RowKit.intOf]; omega⟩
    · obtain rfl : i = v.length := by omega
      have HT := Lib.hid hT
      obtain ⟨t1, t2, t3, t4, t5, t6, t7⟩ := hT
      have hki : k + v.length < L1.length := by omega
      have hxc := hA1.cell hki
      have hxf := hA1.frozen (k + v.length)
      have hx64 := t2.lat (k + v.length)
      obtain ⟨x, ex⟩ : ∃ x, x = lat L1 (k + v.length) := ⟨_, rfl⟩
      rw [← ex] at hxc hx64
      have hS := fun W => run_Sub64 x c b t4 W
      obtain ⟨x', ex'⟩ : ∃ z, z = (x + W64 - c - b) % W64 := ⟨_, rfl⟩
      obtain ⟨b', eb'⟩ : ∃ z, z = (if x < c + b then 1 else 0 : Nat) := ⟨_, rfl⟩
      simp only [← ex', ← eb'] at hS
      have j1 : ((v.length : Nat) : Int) < ((v.length : Nat) : Int) + 1 := by omega
      have j0 : (0 : Int) ≤ ((v.length : Nat) : Int) := by omega
      have HE := Lib.hid (And.intro ex (And.intro ex' eb'))
      clear t1 t2 t3 t5 t6 t7 ex ex' eb'
      by_cases hb0 : x < c + b
      · obtain rfl : b' = 1 := by rw [HE.out.2.2, if_pos hb0]
        have HL := Lib.hid hb0
        clear hb0
        have hd : (((1 : Nat) : Int) == 0) = false := rfl
        go_wp2_with fail
        have hb1' : Bd (L1.set (k + v.length) x') := HT.out.2.1.set _ (by rw [HE.out.2.1]; exact Nat.mod_lt _ W64_pos)
        have hA2 := hA1.set (k + v.length) x'
        have hv2 := hv1.far (p := ⟨g, k + v.length, none⟩) hvb (.int .u64 (x' : Nat))
        have hw2 := OnlyIn.set (i := k + v.length) hw1 (.int .u64 (x' : Nat))
        clear hS hd hxc hxf hx64
        go_loopw [15, 74] (fun cV iV wr2 => ∃ (i2 c2 : Nat) (L2 : List Nat), i2 ≤ v.length ∧ cV = .int .u64 c2 ∧ iV = .int .i64 i2 ∧ AddAt (L1.set (k + v.length) x') v k i2 L2 c2 ∧ RowU wr2 g L2 ∧ IsL wr2 (.slice A v.length cv) v ∧ OnlyIn g w wr2) (fun _ i _ => v.length - (RowKit.intOf i).toNat)
        case atStart => exact ⟨0, 0, _, Nat.zero_le _, rfl, rfl, ⟨rfl, hb1', Nat.zero_le _, rfl, rfl, by simp [num]⟩, hA2, hv2, hw2⟩
        case round =>
          clear hA2 hv2 hw2
          obtain ⟨i2, c2, L2, hi2, rfl, rfl, hT2, hA2, hv2, hw2⟩ := hrel
          have HT2 := Lib.hid hT2
          obtain ⟨t1, t2, t3, t5, t6, t7⟩ := hT2
          have hlen2 : L2.length = L1.length := by rw [t1, List.length_set]
          by_cases hiv : i2 < v.length
          · have hki2 : k + i2 < L2.length := by omega
            have hrd : Reads wr wr.heap.size 1 A v.length (us v) := by
              obtain ⟨A', c', e, _, _, _, hr⟩ := hv2
              obtain ⟨rfl, _, rfl⟩ := Value.slice.inj e
              exact hr
            obtain ⟨bd, rfl, _, hyc⟩ := us_cell hrd hiv
            have hxc := hA2.cell hki2
            have hxf := hA2.frozen (k + i2)
            have hx64 := t2.lat (k + i2)
            have hy64 := bv.lat i2
            obtain ⟨x2, ex2⟩ : ∃ x, x = lat L2 (k + i2) := ⟨_, rfl⟩
            obtain ⟨y, ey⟩ : ∃ y, y = lat v i2 := ⟨_, rfl⟩
            rw [← ex2] at hxc hx64
            rw [← ey] at hyc hy64
            obtain ⟨s, es⟩ : ∃ s, s = (x2 + y + c2) % W64 := ⟨_, rfl⟩
            obtain ⟨k1, ek⟩ : ∃ z, z = (x2 + y + c2) / W64 := ⟨_, rfl⟩
            have hAd := fun W => run_Add64_ex x2 y c2 s k1 c2 rfl t3 es ek W
            have hst := HT2.out.step hiv (by rw [List.length_set]; omega) ex2 ey es ek bv
            have HS2 := Lib.hid hst
            have j0 : (0 : Int) ≤ (i2 : Int) := by omega
            have j1 : (i2 : Int) < ((v.length : Nat) : Int) := by omega
            have j2 : (i2 : Int) < ((v.length : Nat) : Int) + 1 := by omega
            clear es ek ex2 ey hst t1 t2 t3 t5 t6 t7 hlen2
            go_wp2_with fail
            exact ⟨⟨i2 + 1, k1, L2.set (k + i2) s, by omega, rfl, congrArg (Value.int .i64) (by omega), HS2.out, hA2.set _ _, hv2.far (p := ⟨g, k + i2, none⟩) hvb _, hw2.set _⟩, by simp [RowKit.intOf]; omega⟩
          · obtain rfl : i2 = v.length := by omega
            have hki2 : k + v.length < L2.length := by omega
            have hxc := hA2.cell hki2
            have hxf := hA2.frozen (k + v.length)
            obtain ⟨e1, e2, e3⟩ := HT.out.end1 hk HE.out.1 HE.out.2.1 HL.out HV.out bv G1.out G2.out HT2.out
            obtain ⟨x2, ex2⟩ : ∃ x, x = lat L2 (k + v.length) := ⟨_, rfl⟩
            rw [← ex2] at hxc e3
            have hwq : IntKind.u64.wrap ((q : Int) - 1) = ((q - 1 : Nat) : Int) := by rw [IntKind.wrap_u64]; omega
            obtain ⟨s, es⟩ : ∃ s, s = (x2 + c2) % W64 := ⟨_, rfl⟩
            have hws : IntKind.u64.wrap ((x2 : Int) + (c2 : Int)) = (s : Int) := by rw [es]; exact u64_add_mod x2 c2
            rw [← es] at e3
            have E := Lib.hid (And.intro e2 e3)
            have j0 : (0 : Int) ≤ ((v.length : Nat) : Int) := by omega
            have j1 : ((v.length : Nat) : Int) < ((v.length : Nat) : Int) + 1 := by omega
            clear e1 e2 e3 es ex2 t1 t2 t3 t5 t6 t7 hlen2
            go_wp2_with fail
            go_ret
            exact ⟨_, show Ending.returned (.int .u64 ((q - 1 : Nat) : Int)) = _ by rw [E.out.1], hA2.set _ _, hw2.set _, E.out.2⟩
      · obtain rfl : b' = 0 := by rw [HE.out.2.2, if_neg hb0]
        obtain ⟨f1, f2⟩ := HT.out.end0 hk HE.out.1 HE.out.2.1 hb0 HV.out G1.out G2.out
        have F := Lib.hid (And.intro f1 f2)
        clear hb0 f1 f2
        go_wp2_with fail
        go_ret
        exact ⟨_, show Ending.returned (.int .u64 (q : Int)) = _ by rw [← F.out.1], hA1.set _ _, hw1.set _, F.out.2⟩
end Go.Proofs.YtdnjdglekifhpaaGreat
namespace Go.Proofs.YtdnjdglekifhpaaGreat
open Go.RowKit
set_option maxHeartbeats 400000 in
theorem dbare_any (v : Value) (l : List Nat) (w : World) (h : IsL w v l) :
    Calls Tryz.prog 185 #[v] w fun e w' => ∃ v', e = .returned v' ∧ IsN w v' (num l) ∧ (∀ g, v'.ownBlock = some g → v.ownBlock = some g) ∧ w = w' := by
  obtain ⟨A, c, rfl, hlc, hc, hbd, hr⟩ := h
  go_enter Tryz.func185, Tryz.ntmps185
  go_wp2
  go_loop [0] (fun a => ∃ k : Nat, k ≤ l.length ∧ a = .slice A k c ∧ Hid (num (l.take k) = num l)) (fun a => match a with | .slice _ k _ => k | _ => 0)
  case atStart => exact ⟨l.length, Nat.le_refl _, rfl, by rw [List.take_length]; exact Lib.hid rfl⟩
  case round =>
    obtain ⟨k, hk, rfl, hn⟩ := hrel
    have hcell : 0 < k → ∃ ad, A = some ad ∧ w.cell? (ad.add (k - 1)) = some (.int .u64 ((lat l (k - 1) : Nat) : Int)) := fun h => by
      obtain ⟨ad, e, _, hx⟩ := us_cell hr (k := k - 1) (by omega)
      exact ⟨ad, e, hx⟩
    by_cases h0 : 0 < k
    · obtain ⟨ad, rfl, hx⟩ := hcell h0
      clear hcell
      by_cases hz : lat l (k - 1) = 0
      · rw [hz] at hx
        go_wp2
        refine ⟨⟨k - 1, by omega, rfl, ?_⟩, by dsimp only; omega⟩
        rw [Hid] at hn
        exact Lib.hid ((num_take_pred h0 hz).trans hn)
      · have hz' : (((lat l (k - 1) : Nat) : Int) == 0) = false := by simp; omega
        go_wp2
        go_ret
        refine ⟨_, rfl, ⟨some ad, c, ?_, ?_, hc, limbs_bd _, ?_⟩, fun _ e => e, rfl⟩
        all_goals rw [limbs_of_take hbd hn hk (.inr hz)]
        · simp [hk]
        · simp; omega
        · rw [List.length_take, Nat.min_eq_left hk]; exact hr.shorter hk
    · obtain rfl : k = 0 := by omega
      go_wp2
      go_ret
      have e : num l = 0 := by rw [← hn]; rfl
      refine ⟨_, rfl, ⟨A, c, ?_, ?_, hc, limbs_bd _, ?_⟩, fun _ e => by have e' : (Value.slice A 0 c).ownBlock = _ := e; cases A <;> exact e', rfl⟩
      all_goals rw [e, limbs_zero]
      · rfl
      · simp
      · exact Reads.none_
set_option maxRecDepth 100000 in
set_option maxHeartbeats 1000000 in
theorem clone_nat (v : Value) (l : List Nat) (w : World) (h : IsL w v l) (hl : l.length ≤ 17592186044416) :
    Calls Tryz.prog 195 #[v] w fun e w' => ∃ v', e = .returned v' ∧ IsL w' v' l ∧ Fresh w.heap.size v' ∧ Below w.heap.size w w' := by
  obtain ⟨i0, hi, hz0, hz1, hz2⟩ := info_parts info_u64
  have q22 : ∀ (w : World) (a : Option Addr) (n c n' c' : Nat), (binOp .eql 28 (.slice a n c) (.slice none n' c')).run Tryz.prog w = .ok (.bool a.isNone) w := fun w a n c n' c' => Lib.run_eql_slice_nil w _ _ a n c n' c' Tryz.underlying28
  obtain ⟨A, c, rfl, h1, h2, hbd, hr⟩ := h
  rcases A with _ | ad
  · have h0 : l.length = 0 := by
      rcases Nat.eq_zero_or_pos l.length with h | h
      · exact h
      · obtain ⟨ad, e, _⟩ := hr.2 h; cases e
    have hl : l = [] := List.eq_nil_of_length_eq_zero h0
    subst hl
    go_enter Tryz.func195, Tryz.ntmps195
    go_wp2
    go_ret
    exact ⟨_, rfl, IsL.nil w, fun g e => by simp [Value.ownBlock] at e, Below.refl _ _⟩
  · have hown := World.ownsRow_lit w #[] 0 (base := w.heap.size) (e := 141) (size := 1) (Nat.le_refl _) (by unfold maxLen; omega) rfl
    go_enter Tryz.func195, Tryz.ntmps195
    go_wp2_with (at_builtin; refine wpList_append_any _ rfl (.tmp 5) (.tmp 6) _ rfl w.heap.size 141 i0 _ 1 8 Tryz.underlying28 hi hz0 hz1 hz2 rfl (by omega) _ 0 [] rfl hown w.heap.size (some ad) l.length c (us l) rfl (hr.alloc (Nat.le_refl _) _) (us_one _) (by unfold maxLen; omega) (by omega) (by simp) ?_; intro v' w' hown' hgrow hat)
    go_ret
    rw [Nat.zero_add, List.nil_append] at hown'
    exact ⟨_, rfl, IsL.of_own hown' hbd, Fresh.of_own hown', ((Below.refl _ w).alloc (Nat.le_refl _) _).grown hgrow (by simp) (fun g e => by cases e; exact Nat.le_refl _)⟩
end Go.Proofs.YtdnjdglekifhpaaGreat
namespace Go.Proofs.YtdnjdglekifhpaaGreat
open Go.RowKit
set_option maxRecDepth 100000 in
set_option maxHeartbeats 2000000 in
theorem mulL_any (va vb : Value) (a b : List Nat) (w : World) (ha : IsL w va a) (hb : IsL w vb b) (hla : a.length ≤ 1000000) (hlb : b.length ≤ 1000000) :
    Calls Tryz.prog 122 #[va, vb] w fun e w' => ∃ v', e = .returned v' ∧ IsN w' v' (num a * num b) ∧ Below w.heap.size w w' := by
  obtain ⟨A, ca, rfl, hac, hca, hba, hra⟩ := ha
  obtain ⟨B, cb, rfl, hbc, hcb, hbb, hrb⟩ := hb
  have hmk := run_make_u64 28 Tryz.underlying28 (a.length + b.length) ((a.length : Int) + (b.length : Int)) (by omega) (by omega)
  have a0 := Arr.new w (zeros (a.length + b.length))
  have hB0 : Below w.heap.size w (w.alloc (.cells (us (zeros (a.length + b.length))).toArray 141)) := (Below.refl _ w).alloc (Nat.le_refl _) _
  go_enter Tryz.func122, Tryz.ntmps122
  go_wp2
  go_loopw [22] (fun i wr => ∃ (k : Nat) (l : List Nat), k ≤ a.length ∧ i = .int .i64 k ∧ Arr wr w.heap.size l ∧ Hid (l.length = a.length + b.length) ∧ Bd l ∧ Hid (num l = num (a.take k) * num b) ∧ Hid (∀ j, k + b.length ≤ j → lat l j = 0) ∧ Below w.heap.size w wr) (fun i _ => a.length - (intOf i).toNat)
  case atStart => exact ⟨0, zeros (a.length + b.length), Nat.zero_le _, rfl, a0, zeros_len _, Bd.zeros _, Lib.hid (by rw [num_zeros]; simp [num]), Lib.hid (fun j _ => lat_zeros _ _), hB0⟩
  case round =>
    obtain ⟨k, l, hk, rfl, hA, hlen, hbl, hnum, hz, hB⟩ := hrel
    by_cases hlt : k < a.length
    · obtain ⟨ad, rfl, _, hxc⟩ := us_cell (hra.below hB) hlt
      have hx64 := hba.lat k
      obtain ⟨x, hx⟩ : ∃ x, x = lat a k := ⟨_, rfl⟩
      rw [← hx] at hxc hx64
      have Hx := Lib.hid hx
      clear hx
      go_wp2
      go_loopw [8, 29] (fun cy i wi => ∃ (m c : Nat) (l' : List Nat), m ≤ b.length ∧ cy = .int .u64 c ∧ i = .int .i64 m ∧ c < W64 ∧ Arr wi w.heap.size l' ∧ Hid (l'.length = a.length + b.length) ∧ Bd l' ∧ Hid (num l' + W64 ^ (k + m) * c = num (a.take k) * num b + W64 ^ k * (x * num (b.take m))) ∧ Hid (∀ j, k + b.length ≤ j → lat l' j = 0) ∧ Below w.heap.size w wi) (fun _ i _ => b.length - (intOf i).toNat)
      case atStart => exact ⟨0, 0, l, Nat.zero_le _, rfl, rfl, W64_pos, hA, hlen, hbl, Lib.hid (by rw [hnum.out]; simp [num]), hz, hB⟩
      case round =>
        obtain ⟨m, c, l', hm, rfl, rfl, hc64, hA', hlen', hbl', hinv, hz', hB'⟩ := hrel
        by_cases hmt : m < b.length
        · obtain ⟨bd, rfl, _, hyc⟩ := us_cell (hrb.below hB') hmt
          have hy64 := hbb.lat m
          obtain ⟨y, hy⟩ : ∃ y, y = lat b m := ⟨_, rfl⟩
          rw [← hy] at hyc hy64
          have hoc := hA'.cell (i := k + m) (by rw [hlen'.out]; omega)
          have hof := hA'.frozen (k + m)
          have ho64 := hbl'.lat (k + m)
          obtain ⟨o, ho⟩ : ∃ o, o = lat l' (k + m) := ⟨_, rfl⟩
          rw [← ho] at hoc ho64
          obtain ⟨hi, ehi⟩ : ∃ hi, hi = x * y / W64 := ⟨_, rfl⟩
          obtain ⟨lo, elo⟩ : ∃ lo, lo = x * y % W64 := ⟨_, rfl⟩
          obtain ⟨s1, es1⟩ : ∃ s1, s1 = (lo + o) % W64 := ⟨_, rfl⟩
          obtain ⟨c1, ec1⟩ : ∃ c1, c1 = (lo + o) / W64 := ⟨_, rfl⟩
          obtain ⟨h1, eh1⟩ : ∃ h1, h1 = hi + c1 := ⟨_, rfl⟩
          obtain ⟨s2, es2⟩ : ∃ s2, s2 = (s1 + c) % W64 := ⟨_, rfl⟩
          obtain ⟨c2, ec2⟩ : ∃ c2, c2 = (s1 + c) / W64 := ⟨_, rfl⟩
          obtain ⟨r, er⟩ : ∃ r, r = h1 + c2 := ⟨_, rfl⟩
          obtain ⟨d1, d2, d3, d4, d5, d6⟩ := mul_digit hx64 hy64 ho64 hc64 ehi elo es1 ec1 eh1 es2 ec2 er
          have M := Lib.hid (fun W => mul64_ex x y hi lo hx64 hy64 ehi elo W)
          have r1 := fun W => run_Add64_ex lo o 0 s1 c1 0 rfl (by omega) es1 ec1 W
          have r2 := fun W => run_Add64_ex s1 c 0 s2 c2 0 rfl (by omega) es2 ec2 W
          have w1 : IntKind.u64.wrap ((hi : Int) + (c1 : Int)) = (h1 : Int) := by
            rw [IntKind.wrap_u64, eh1]; unfold W64 at d3; omega
          have w2 : IntKind.u64.wrap ((h1 : Int) + (c2 : Int)) = (r : Int) := by
            rw [IntKind.wrap_u64, er]; unfold W64 at d2; omega
          have fin := Lib.hid (mul_inner (i := k) (by rw [hlen'.out]; omega) ho hinv.out (by rw [← hy]; exact d1))
          have D := Lib.hid (And.intro d2 (And.intro d4 d1))
          clear ehi elo es1 ec1 eh1 es2 ec2 er d1 d2 d3 d4 d5 d6 hx64 hy64 ho64 hc64 ho hy
          go_wp2_with ((with_reducible refine (M.out _).mono ?_); rintro e w' ⟨rfl, rfl⟩)
          refine ⟨⟨m + 1, r, l'.set (k + m) s2, by omega, rfl, by go_num, D.out.1, hA'.set _ _, by rw [Hid, List.length_set]; exact hlen'.out, hbl'.set _ D.out.2.1, fin, ?_, hB'.setCell (p := ⟨w.heap.size, k + m, none⟩) (Nat.le_refl _) _⟩, by simp [intOf]; omega⟩
          refine Lib.hid (fun j hj => ?_)
          rw [lat_set, if_neg (by omega)]
          exact hz'.out j hj
        · obtain rfl : m = b.length := by omega
          have hi2 : k + b.length < l'.length := by rw [hlen'.out]; omega
          have hoc := hA'.cell hi2
          have hof := hA'.frozen (k + b.length)
          have fin := mul_outer (a := a) (b := b) (i := k) (c := c) hi2 (hz'.out _ (Nat.le_refl _)) (by have := hinv.out; rwa [List.take_length, Hx.out] at this)
          have Fin := Lib.hid fin
          have C := Lib.hid hc64
          clear fin hi2 hc64
          go_wp2
          refine ⟨⟨k + 1, l'.set (k + b.length) c, by omega, by go_num, hA'.set _ _, by rw [Hid, List.length_set]; exact hlen'.out, hbl'.set _ C.out, Fin, ?_, hB'.setCell (p := ⟨w.heap.size, k + b.length, none⟩) (Nat.le_refl _) _⟩, by simp [intOf]; omega⟩
          refine Lib.hid (fun j hj => ?_)
          rw [lat_set, if_neg (by omega)]
          exact hz'.out j (by omega)
    · obtain rfl : k = a.length := by omega
      have hres := hA.isL hbl (by rw [hlen.out]; omega)
      rw [hlen.out] at hres
      have N := hnum.out
      rw [List.take_length] at N
      have N' := Lib.hid N
      clear N
      go_wp2_with ((with_reducible refine (bare_any _ _ _ hres).mono ?_); rintro e w' ⟨r, rfl, hr, rfl⟩)
      go_ret
      exact ⟨_, rfl, by rw [← N'.out]; exact hr, hB⟩
theorem mul_any (va vb : Value) (a b : Nat) (w : World) (ha : IsN w va a) (hb : IsN w vb b) (hla : (limbs a).length ≤ 1000000) (hlb : (limbs b).length ≤ 1000000) :
    Calls Tryz.prog 122 #[va, vb] w fun e w' => ∃ v', e = .returned v' ∧ IsN w' v' (a * b) ∧ Below w.heap.size w w' := by
  have := mulL_any va vb _ _ w ha hb hla hlb
  rwa [num_limbs, num_limbs] at this
end Go.Proofs.YtdnjdglekifhpaaGreat
namespace Go.Proofs.YtdnjdglekifhpaaGreat
open Go.RowKit Go.Shelf
attribute [local go_sem] Oper.semAt_some
abbrev Idx (n : Nat) := { i : Nat // i < n }
def back (n k : Nat) : List Nat := (List.range k).map fun j => n - 1 - j
theorem back_succ (n k : Nat) : back n (k + 1) = back n k ++ [n - 1 - k] := by simp [back, List.range_succ]
theorem back_length (n k : Nat) : (back n k).length = k := by simp [back]
set_option maxRecDepth 100000 in
set_option maxHeartbeats 1000000 in
theorem back1_in (F : Fence) (n : Nat) (h7 : F.fn 234) (hro : F.round = none) (hn : 1 ≤ n) (lr Bs n₀ c : Nat) (A : Option Addr) (l : List Nat) (hl : l.length ≤ 9223372036854775807) (J Jx : List (Idx l.length) → World → Prop)
    (hY : ∀ pre x W, J pre W → pre.length < l.length → YieldAt F (n - 1) Tryz.prog lr #[.int .i64 (x.1 : Nat), .int .u64 (lat l x.1 : Nat)] W fun e W' =>
      (e = .returned (.bool true) ∧ J (pre ++ [x]) W' ∧ Below n₀ W W') ∨ (e = .returned (.bool false) ∧ Jx (pre ++ [x]) W'))
    (W : World) (hBs : W.cell? ⟨Bs, 0, none⟩ = some (.slice A l.length c)) (hB : Bs < n₀) (hr : Reads W n₀ 1 A l.length (us l)) (h0 : J [] W) :
    CallsIn F n Tryz.prog 234 #[.func (.yield lr) #[] #[], .pointer (some ⟨Bs, 0, none⟩)] W fun e W' => (∃ v, e = .returned v) ∧
      ((∃ ys : List (Idx l.length), ys.map (·.1) = back l.length l.length ∧ J ys W') ∨ (∃ pre : List (Idx l.length), (∃ k, k ≤ l.length ∧ pre.map (·.1) = back l.length k) ∧ Jx pre W')) := by
  refine callsIn_of_wp Tryz.func234 rfl h7 ?_ hro
  simp only [Tryz.ntmps234, List.size_toArray, List.length_cons, List.length_nil, Nat.reduceAdd, Nat.reduceSub, Array.replicate_succ, Array.replicate_zero, List.push_toArray, List.append_toArray, List.nil_append, List.cons_append]
  gi_wp2
  gi_loopw [3] (fun i wr => ∃ (k : Nat) (pre : List (Idx l.length)), k ≤ l.length ∧ i = .int .i64 ((l.length : Int) - 1 - (k : Int)) ∧ Hid (pre.map (·.1) = back l.length k) ∧ J pre wr ∧ Below n₀ W wr)
    (fun i _ => (intOf i + 1).toNat)
  case atStart => exact ⟨0, [], Nat.zero_le _, by simp, Lib.hid rfl, h0, Below.refl _ _⟩
  case round =>
    obtain ⟨k, pre, hk, rfl, hpre, hJs, hnx⟩ := hrel
    by_cases hlt : k < l.length
    · have hpl : pre.length < l.length := by have := congrArg List.length hpre.out; rw [List.length_map, back_length] at this; omega
      have hnew : ∀ h : l.length - 1 - k < l.length, (pre ++ [(⟨l.length - 1 - k, h⟩ : Idx l.length)]).map (·.1) = back l.length (k + 1) := fun h => by
        rw [List.map_append, hpre.out, back_succ]; rfl
      obtain ⟨fn, tmps, assign, body, hy, hR⟩ := hY pre ⟨l.length - 1 - k, by omega⟩ wr hJs hpl
      dsimp only at hy
      rw [show ((l.length - 1 - k : Nat) : Int) = (l.length : Int) - 1 - (k : Int) from by omega] at hy
      obtain ⟨ad, rfl, hb, hcx⟩ := us_cell (hr.below hnx) (k := l.length - 1 - k) (by omega)
      have hBs' := (hnx.cell (p := ⟨Bs, 0, none⟩) hB).trans hBs
      have hnew' := Lib.hid (hnew (by omega))
      clear hnew hpl
      gi_wp2
      refine hR.mono ?_
      rintro e W3 (⟨rfl, hJ3, hk3⟩ | ⟨rfl, hJx3⟩)
      · gi_wp2
        go_roundw
        case rel => exact ⟨k + 1, _, by omega, by go_num, hnew', hJ3, hnx.trans hk3⟩
        case measure => simp [intOf]; omega
      · gi_wp2
        refine bodyPost_ret (results_none rfl _ _ _) rfl ?_
        exact ⟨⟨_, rfl⟩, .inr ⟨_, ⟨k + 1, by omega, hnew'.out⟩, hJx3⟩⟩
    · obtain rfl : k = l.length := by omega
      gi_wp2
      go_end0
      exact ⟨⟨_, rfl⟩, .inl ⟨_, hpre.out, hJs⟩⟩
set_option maxHeartbeats 1000000 in
theorem backward_in (F : Fence) (n : Nat) (h5 : F.fn 198) (hro : F.round = none) (A : Option Addr) (m c : Nat) (w : World) :
    CallsIn F n Tryz.prog 198 #[.slice A m c] w fun e w' => e = .returned (.func (.func 234) #[] #[.pointer (some ⟨w.heap.size, 0, none⟩)]) ∧ w' = w.alloc (.cells #[.slice A m c] 28) := by
  refine callsIn_of_wp Tryz.func198 rfl h5 ?_ hro
  simp only [Tryz.ntmps198, List.size_toArray, List.length_cons, List.length_nil, Nat.reduceAdd, Nat.reduceSub, Array.replicate_succ, Array.replicate_zero, List.push_toArray, List.append_toArray, List.nil_append, List.cons_append]
  gi_wp2
  go_ret
  exact ⟨rfl, rfl⟩
theorem backward_stops (F : Fence) (n : Nat) (h7 : F.fn 234) (hro : F.round = none) (hn : 1 ≤ n) (Bs n₀ c : Nat) (A : Option Addr) (l : List Nat) (hl : l.length ≤ 9223372036854775807) (w : World) (hBs : Bs < n₀) (hn₀ : n₀ ≤ w.heap.size)
    (hc : w.cell? ⟨Bs, 0, none⟩ = some (.slice A l.length c)) (hr : Reads w n₀ 1 A l.length (us l)) :
    SeqStopsK F n Tryz.prog 234 #[.pointer (some ⟨Bs, 0, none⟩)] (fun x : Idx l.length => #[Value.int .i64 (x.1 : Nat), Value.int .u64 (lat l x.1 : Nat)]) (Below n₀) (fun ys => ys.map (·.1) = back l.length l.length)
      (fun pre => ∃ k, k ≤ l.length ∧ pre.map (·.1) = back l.length k) l.length w := fun lr J Jx W hW _ _ hY h0 =>
  back1_in F n h7 hro hn lr Bs n₀ c A l hl J Jx hY W ((hW.cell (p := ⟨Bs, 0, none⟩) (by simp; omega)).trans hc) hBs (hr.below (hW.mono hn₀)) h0
end Go.Proofs.YtdnjdglekifhpaaGreat
namespace Go.Proofs.YtdnjdglekifhpaaGreat
open Go.RowKit Go.Shelf
attribute [local go_sem] Oper.semAt_some
theorem boxed_kept {W W' : World} {row : Option Nat} {B : Nat} {t : TypeId} {v : Value} (h : Boxed W B t v) (hg : W.grownBy W' row) (hr : ∀ r, row = some r → ∃ o : Obj, W.heap[r]? = some o ∧ o.isCells = false) : Boxed W' B t v :=
  h.kept hg (fun e => by obtain ⟨o, ho, hc⟩ := hr B e.symm; rw [show W.heap[B]? = _ from h] at ho; cases ho; cases hc)
theorem compare_int_in (n : Nat) (a b : Int) (w : World) :
    CallsIn Fence.wide n Tryz.prog 231 #[.int .i64 a, .int .i64 b] w fun e w' => e = .returned (.int .i64 (cmpI a b)) ∧ w = w' := callsIn_wide.2 (compare_int a b w)
theorem compare_u64_in (n : Nat) (a b : Int) (w : World) :
    CallsIn Fence.wide n Tryz.prog 232 #[.int .u64 a, .int .u64 b] w fun e w' => e = .returned (.int .i64 (cmpI a b)) ∧ w = w' := callsIn_wide.2 (compare_u64 a b w)
theorem cmpL_eq_of {a b : List Nat} {pre : List (Idx a.length)} (hl : a.length = b.length) (hp : ∀ x ∈ pre, lat b x.1 = lat a x.1) (hd : pre.map (·.1) = back a.length a.length) : cmpL a b = 0 := by
  have : a = b := by
    apply List.ext_getElem hl
    intro i h1 h2
    have hm : i ∈ back a.length a.length := by
      simp only [back, List.mem_map, List.mem_range]
      exact ⟨a.length - 1 - i, by omega, by omega⟩
    rw [← hd, List.mem_map] at hm
    obtain ⟨x, hx, rfl⟩ := hm
    have := hp x hx
    simp [lat, h1, h2] at this
    exact this.symm
  subst this
  simp [cmpL, cmpI]
theorem cmpL_ne_of {a b : List Nat} {pre : List (Idx a.length)} {x : Idx a.length} (hba : Bd a) (hbb : Bd b) (hl : a.length = b.length) (hd : ∃ k, k ≤ a.length ∧ (pre ++ [x]).map (·.1) = back a.length k)
    (hp : ∀ y ∈ pre, lat b y.1 = lat a y.1) (hne : lat b x.1 ≠ lat a x.1) : cmpL a b = cmpI (lat a x.1) (lat b x.1) := by
  obtain ⟨k, hk, hd⟩ := hd
  have hx := x.2
  have hlen := congrArg List.length hd
  rw [List.length_map, back_length, List.length_append, List.length_singleton] at hlen
  subst hlen
  rw [List.map_append, back_succ] at hd
  obtain ⟨h1, h2⟩ := List.append_inj' hd rfl
  simp at h2
  have htop : a.drop (x.1 + 1) = b.drop (x.1 + 1) := by
    apply List.ext_getElem (by simp; omega)
    intro j h3 h4
    simp at h3 h4
    have hm : x.1 + 1 + j ∈ back a.length pre.length := by
      simp only [back, List.mem_map, List.mem_range]
      exact ⟨a.length - 1 - (x.1 + 1 + j), by omega, by omega⟩
    rw [← h1, List.mem_map] at hm
    obtain ⟨y, hy, hye⟩ := hm
    have := hp y hy
    rw [hye] at this
    have e1 : x.1 + 1 + j < a.length := by omega
    have e2 : x.1 + 1 + j < b.length := by omega
    simp [lat, e1, e2] at this
    simp [this]
  unfold cmpL
  rw [if_pos hl]
  rcases Nat.lt_or_gt_of_ne hne with h | h
  · have := num_lt_of_top hbb hba x.1 (by omega) hl.symm htop.symm h
    rw [cmpI_gt (by omega), cmpI_gt (by omega)]
  · have := num_lt_of_top hba hbb x.1 (by omega) hl htop h
    rw [cmpI_lt (by omega), cmpI_lt (by omega)]
set_option maxRecDepth 100000 in
set_option maxHeartbeats 1000000 in
theorem cmp_in (va vb : Value) (a b : List Nat) (w : World) (ha : IsL w va a) (hb : IsL w vb b) :
    CallsIn Fence.wide 9 Tryz.prog 194 #[va, vb] w fun e w' => e = .returned (.int .i64 (cmpL a b)) ∧ Below w.heap.size w w' := by
  obtain ⟨A, ca, rfl, hac, hca, hba, hra⟩ := ha
  obtain ⟨B, cb, rfl, hbc, hcb, hbb, hrb⟩ := hb
  refine callsIn_of_wp_marks Tryz.func194 rfl trivial ?_ rfl
  simp only [Tryz.ntmps194, List.size_toArray, List.length_cons, List.length_nil, Nat.reduceAdd, Nat.reduceSub, Array.replicate_succ, Array.replicate_zero, List.push_toArray, List.append_toArray, List.nil_append, List.cons_append]
  by_cases hlen : a.length = b.length
  · have z : (cmpI (a.length : Int) (b.length : Int) != 0) = false := by rw [hlen, cmpI_eq]; rfl
    have hl := Lib.hid hlen
    clear hlen
    gi_wp2_with (first | (refine ⟨trivial, ?_⟩; gi_at_call 231; refine (compare_int_in _ _ _ _).mono ?_; rintro e w' ⟨rfl, rfl⟩) | (refine ⟨trivial, ?_⟩; gi_at_call 198; refine (backward_in Fence.wide _ trivial rfl _ _ _ _).mono ?_; rintro e w' ⟨rfl, rfl⟩))
    have bB := Boxed.new w 28 (.slice B b.length cb)
    have bR := Boxed.new (w.alloc (.cells #[.slice B b.length cb] 28)) 3 (.int .i64 0)
    have bI := Boxed.new ((w.alloc (.cells #[.slice B b.length cb] 28)).alloc (.cells #[.int .i64 0] 3)) 28 (.slice A a.length ca)
    simp only [World.size_alloc] at bR bI
    have hB0 : Below w.heap.size w (((w.alloc (.cells #[.slice B b.length cb] 28)).alloc (.cells #[.int .i64 0] 3)).alloc (.cells #[.slice A a.length ca] 28)) := (((Below.refl _ w).alloc (Nat.le_refl _) _).alloc (by simp) _).alloc (by simp; omega) _
    obtain ⟨W0, hW0⟩ : ∃ W0, W0 = (((w.alloc (.cells #[.slice B b.length cb] 28)).alloc (.cells #[.int .i64 0] 3)).alloc (.cells #[.slice A a.length ca] 28)) := ⟨_, rfl⟩
    have hsz : W0.heap.size = w.heap.size + 3 := by rw [hW0]; simp
    have bB' : Boxed W0 w.heap.size 28 (.slice B b.length cb) := by rw [hW0]; exact (bB.alloc _).alloc _
    have bR' : Boxed W0 (w.heap.size + 1) 3 (.int .i64 0) := by rw [hW0]; exact bR.alloc _
    rw [← hW0] at bI hB0 ⊢
    clear bB bR hW0
    refine wpIn_rangeFunc_ownF (n := 9) rfl (by omega) (gf := 234) (lb := #[.pointer (some ⟨w.heap.size + 1 + 1, 0, none⟩)]) rfl trivial (enters_of Tryz.func234 (by kernel_rfl) rfl)
      (backward_stops Fence.wide 8 trivial rfl (by omega) (w.heap.size + 1 + 1) W0.heap.size ca A a (by omega) W0 (by omega) (Nat.le_refl _) bI.cell ((hra.below hB0).more (by omega))) belowK_t (belowK_b (Nat.le_refl _)) (Below.refl _ _) (fun _ => rfl)
      (fun pre W => ((∀ x ∈ pre, lat b x.1 = lat a x.1) ∧ Boxed W w.heap.size 28 (.slice B b.length cb) ∧ Boxed W (w.heap.size + 1) 3 (.int .i64 0)) ∧ Below w.heap.size w W)
      (fun c pre W => (c = .ret ∧ (∃ pre' x, pre = pre' ++ [x] ∧ (∀ x ∈ pre', lat b x.1 = lat a x.1) ∧ lat b x.1 ≠ lat a x.1 ∧ Boxed W (w.heap.size + 1) 3 (.int .i64 (cmpI (lat a x.1) (lat b x.1))))) ∧ Below w.heap.size w W)
      ?oI ?oX ?st ?a1 ?assign ?body ?done ?stop
    case assign =>
      intro l x W K hK
      gi_wp2
      exact hK
    case oI => exact OwnFrom.and (Own.from (fun s X Y row hs hg hr => ⟨hs.1, boxed_kept hs.2.1 hg hr, boxed_kept hs.2.2 hg hr⟩) _) (ownFrom_below (by omega) (by omega))
    case oX => exact fun c => OwnFrom.and (Own.from (fun s X Y row hs hg hr => ⟨hs.1, by obtain ⟨p, x, h1, h2, h3, h4⟩ := hs.2; exact ⟨p, x, h1, h2, h3, boxed_kept h4 hg hr⟩⟩) _) (ownFrom_below (by omega) (by omega))
    case st => exact ⟨⟨by simp, bB', bR'⟩, hB0⟩
    case body =>
      rintro l pre x W ⟨⟨hp, hBx, hRx⟩, hBel⟩ hlt
      have hc1 := hBx.cell
      have hc2 := hRx.cell
      have hf2 := hRx.frozen
      have hxl := x.2
      have hl' : x.1 < b.length := by have := hl.out; omega
      obtain ⟨ad, rfl, hbb', hcx⟩ := us_cell (hrb.below hBel) hl'
      by_cases he : lat b x.1 = lat a x.1
      · have z : (cmpI (lat a x.1 : Nat) (lat b x.1 : Nat) != 0) = false := by rw [he, cmpI_eq]; rfl
        have he' := Lib.hid he
        clear he
        gi_wp2_with (first | (refine ⟨trivial, ?_⟩; gi_at_call 232; refine (CallsIn.inRound l (compare_u64_in _ _ _ _)).mono ?_; rintro e w' ⟨rfl, rfl⟩))
        exact ⟨KeepsOthers.refl _, Below.refl _ _, ⟨fun y hy => (List.mem_append.1 hy).elim (hp y) (fun e => by simp at e; subst e; exact he'.out), hBx, hRx⟩, hBel⟩
      · have z : (cmpI (lat a x.1 : Nat) (lat b x.1 : Nat) != 0) = true := by rw [bne_iff_ne]; intro h; have := cmpI_zero.1 h; omega
        gi_wp2_with (first | (refine ⟨trivial, ?_⟩; gi_at_call 232; refine (CallsIn.inRound l (compare_u64_in _ _ _ _)).mono ?_; rintro e w' ⟨rfl, rfl⟩))
        exact ⟨KeepsOthers.setCell _ _ _, ⟨rfl, pre, x, rfl, hp, he, hRx.set _⟩, hBel.setCell (p := ⟨w.heap.size + 1, 0, none⟩) (by simp) _⟩
    case done =>
      rintro D ys W hD hD2 ⟨⟨hp, hBx, hRx⟩, hBel⟩ hK
      have hc2 := hRx.cell
      have hf2 := hRx.frozen
      gi_wp2
      have hK' := (KeepsOthers.setCell W ⟨w.heap.size + 1, 0, none⟩ (.int .i64 0)).same D _ hK rfl
      refine ⟨by simp, .inl ⟨_, _, rfl, run_takeDeferred hK', ?_⟩⟩
      have hc5 := (boxed_kept (hRx.set (.int .i64 0)) (grownBy_putObj' _ D (.deferred none)) (fun r e => by cases e; exact ⟨_, hK', rfl⟩)).cell
      refine ⟨.int .i64 0, ?_, ?_, (hBel.setCell (p := ⟨w.heap.size + 1, 0, none⟩) (by simp) _).trans (belowK_b (w := w) (Nat.le_refl _) _ D _ _ (by omega) hK' rfl rfl)⟩
      · simp [results, Tryz.f194, go_sem, hc5]
      · exact ret_int (by rw [cmpL_eq_of hl.out hp hD2])
    case stop =>
      rintro D c pre W hD hpre ⟨⟨rfl, p, x, rfl, hp, hne, hRx⟩, hBel⟩ hK
      gi_wp2
      refine ⟨by simp, .inl ⟨_, _, rfl, run_takeDeferred hK, ?_⟩⟩
      have hc5 := (boxed_kept hRx (grownBy_putObj' _ D (.deferred none)) (fun r e => by cases e; exact ⟨_, hK, rfl⟩)).cell
      refine ⟨.int .i64 (cmpI (lat a x.1) (lat b x.1)), ?_, ?_, hBel.trans (belowK_b (w := w) (Nat.le_refl _) W D _ _ (by omega) hK rfl rfl)⟩
      · simp [results, Tryz.f194, go_sem, hc5]
      · exact ret_int (by rw [cmpL_ne_of hba hbb hl.out hpre hp hne])
  · have z : (cmpI (a.length : Int) (b.length : Int) != 0) = true := by rw [bne_iff_ne]; intro h; have := cmpI_zero.1 h; omega
    have hl := Lib.hid hlen
    clear hlen
    gi_wp2_with (first | (refine ⟨trivial, ?_⟩; gi_at_call 231; refine (compare_int_in _ _ _ _).mono ?_; rintro e w' ⟨rfl, rfl⟩))
    have hc5 := (Boxed.new (w.alloc (.cells #[.slice B b.length cb] 28)) 3 (.int .i64 (cmpI a.length b.length))).cell
    rw [World.size_alloc] at hc5
    refine ⟨.int .i64 (cmpI a.length b.length), ?_, ?_, ((Below.refl _ w).alloc (Nat.le_refl _) _).alloc (by simp) _⟩
    · simp [results, Tryz.f194, go_sem, hc5]
    · exact ret_int (by rw [cmpL, if_neg hl.out])
theorem cmp_any (va vb : Value) (a b : Nat) (w : World) (ha : IsN w va a) (hb : IsN w vb b) :
    Calls Tryz.prog 194 #[va, vb] w fun e w' => e = .returned (.int .i64 (cmpI a b)) ∧ Below w.heap.size w w' := by
  rw [← cmpL_limbs]
  exact callsIn_wide.1 (cmp_in va vb _ _ w ha hb)
end Go.Proofs.YtdnjdglekifhpaaGreat
namespace Go.Proofs.YtdnjdglekifhpaaGreat
open Go.RowKit
def shrF (s : Nat) (p : List Nat × Nat) (i : Nat) : List Nat × Nat := (p.1.set i (lat p.1 i / 2 ^ s + p.2), lat p.1 i * 2 ^ (64 - s) % W64)
def shrS (s : Nat) (d is : List Nat) : List Nat × Nat := is.foldl (shrF s) (d, 0)
theorem shrS_snoc (s : Nat) (d is : List Nat) (i : Nat) : shrS s d (is ++ [i]) = shrF s (shrS s d is) i := by unfold shrS; rw [List.foldl_append]; rfl
theorem shrS_ok {s : Nat} (hs : s ≤ 64) {d : List Nat} (hd : Bd d) (is : List Nat) : (shrS s d is).1.length = d.length ∧ Bd (shrS s d is).1 ∧ ∃ z, z < 2 ^ s ∧ (shrS s d is).2 = z * 2 ^ (64 - s) := by
  refine snocI (p := fun is => (shrS s d is).1.length = d.length ∧ Bd (shrS s d is).1 ∧ ∃ z, z < 2 ^ s ∧ (shrS s d is).2 = z * 2 ^ (64 - s)) ⟨rfl, hd, 0, Nat.pow_pos (by omega), by simp [shrS]⟩ ?_ is
  rintro is i ⟨h1, h2, z, h3, h4⟩
  rw [shrS_snoc]
  generalize shrS s d is = p at *
  refine ⟨by simp [shrF, h1], ?_, lat p.1 i % 2 ^ s, Nat.mod_lt _ (Nat.pow_pos (by omega)), shr_carry hs _⟩
  refine h2.set _ ?_
  rw [h4]
  exact (shr_digit hs (h2.lat i)).2 z h3
theorem shrS_back {s : Nat} (d : List Nat) : ∀ k, k ≤ d.length → shrS s d (back d.length k) = (d.take (d.length - k) ++ shrL s (d.drop (d.length - k)), lat (d.drop (d.length - k)) 0 * 2 ^ (64 - s) % W64)
  | 0, _ => by
    unfold shrS back
    simp [shrL, lat]
  | k + 1, h => by
    rw [back_succ, shrS_snoc, shrS_back d k (by omega)]
    unfold shrF
    simp only
    have e : d.length - k = (d.length - 1 - k) + 1 := by omega
    have e2 : d.length - (k + 1) = d.length - 1 - k := by omega
    rw [e, e2]
    have hi : d.length - 1 - k < d.length := by omega
    generalize d.length - 1 - k = i at *
    rw [take_more hi]
    have hl : (d.take i).length = i := by rw [List.length_take]; omega
    have e3 : lat (d.take i ++ [lat d i] ++ shrL s (d.drop (i + 1))) i = lat d i := by
      unfold lat
      rw [List.append_assoc, List.getElem?_append_right (by omega), hl, Nat.sub_self]
      rfl
    have e4 : lat (d.drop i) 0 = lat d i := by rw [lat_drop, Nat.add_zero]
    rw [e3, e4, shrL_at s d i hi, List.append_assoc, List.set_append_right _ _ (by omega), hl, Nat.sub_self]
    rfl
theorem shrS_all {s : Nat} (d : List Nat) : (shrS s d (back d.length d.length)).1 = shrL s d := by
  rw [shrS_back d _ (Nat.le_refl _), Nat.sub_self]
  rfl
set_option maxRecDepth 100000 in
set_option maxHeartbeats 1000000 in
theorem clone_own (ad : Addr) (c : Nat) (l : List Nat) (w : World) (h : IsL w (.slice (some ad) l.length c) l) (hl : l.length ≤ 1000000) :
    Calls Tryz.prog 195 #[.slice (some ad) l.length c] w fun e w' => (∃ v', e = .returned v' ∧ w'.ownsRow w.heap.size 141 1 v' l.length (us l)) ∧ Below w.heap.size w w' := by
  obtain ⟨i0, hi, hz0, hz1, hz2⟩ := info_parts info_u64
  have q22 : ∀ (w : World) (a : Option Addr) (n c n' c' : Nat), (binOp .eql 28 (.slice a n c) (.slice none n' c')).run Tryz.prog w = .ok (.bool a.isNone) w := fun w a n c n' c' => Lib.run_eql_slice_nil w _ _ a n c n' c' Tryz.underlying28
  obtain ⟨A', c', e, h1, h2, hbd, hr⟩ := h
  obtain ⟨rfl, _, rfl⟩ := Value.slice.inj e
  clear e
  have hown := World.ownsRow_lit w #[] 0 (base := w.heap.size) (e := 141) (size := 1) (Nat.le_refl _) (by unfold maxLen; omega) rfl
  go_enter Tryz.func195, Tryz.ntmps195
  go_wp2_with (at_builtin; refine wpList_append_any _ rfl (.tmp 5) (.tmp 6) _ rfl w.heap.size 141 i0 _ 1 8 Tryz.underlying28 hi hz0 hz1 hz2 rfl (by omega) _ 0 [] rfl hown w.heap.size (some ad) l.length c (us l) rfl (hr.alloc (Nat.le_refl _) _) (us_one _) (by unfold maxLen; omega) (by omega) (by simp) ?_; intro v' w' hown' hgrow hat)
  go_ret
  rw [Nat.zero_add, List.nil_append] at hown'
  exact ⟨⟨_, rfl, hown'⟩, ((Below.refl _ w).alloc (Nat.le_refl _) _).grown hgrow (by simp) (fun g e => by cases e; exact Nat.le_refl _)⟩
end Go.Proofs.YtdnjdglekifhpaaGreat
namespace Go.Proofs.YtdnjdglekifhpaaGreat
open Go.RowKit
theorem dbare_take (A : Option Addr) (c : Nat) (l : List Nat) (w : World) (h : IsL w (.slice A l.length c) l) :
    Calls Tryz.prog 185 #[.slice A l.length c] w fun e w' => (∃ k, k ≤ l.length ∧ e = .returned (.slice A k c) ∧ limbs (num l) = l.take k) ∧ w = w' := by
  obtain ⟨A', c', e, hlc, hc, hbd, hr⟩ := h
  obtain ⟨rfl, _, rfl⟩ := Value.slice.inj e
  clear e
  go_enter Tryz.func185, Tryz.ntmps185
  go_wp2
  go_loop [0] (fun a => ∃ k : Nat, k ≤ l.length ∧ a = .slice A k c ∧ Hid (num (l.take k) = num l)) (fun a => match a with | .slice _ k _ => k | _ => 0)
  case atStart => exact ⟨l.length, Nat.le_refl _, rfl, by rw [List.take_length]; exact Lib.hid rfl⟩
  case round =>
    obtain ⟨k, hk, rfl, hn⟩ := hrel
    have hcell : 0 < k → ∃ ad, A = some ad ∧ w.cell? (ad.add (k - 1)) = some (.int .u64 ((lat l (k - 1) : Nat) : Int)) := fun h => by
      obtain ⟨ad, e, _, hx⟩ := us_cell hr (k := k - 1) (by omega)
      exact ⟨ad, e, hx⟩
    by_cases h0 : 0 < k
    · obtain ⟨ad, rfl, hx⟩ := hcell h0
      clear hcell
      by_cases hz : lat l (k - 1) = 0
      · rw [hz] at hx
        go_wp2
        refine ⟨⟨k - 1, by omega, rfl, ?_⟩, by dsimp only; omega⟩
        rw [Hid] at hn
        exact Lib.hid ((num_take_pred h0 hz).trans hn)
      · have hz' : (((lat l (k - 1) : Nat) : Int) == 0) = false := by simp; omega
        go_wp2
        go_ret
        exact ⟨⟨k, hk, rfl, limbs_of_take hbd hn hk (.inr hz)⟩, rfl⟩
    · obtain rfl : k = 0 := by omega
      go_wp2
      go_ret
      have e : num l = 0 := by rw [← hn]; rfl
      exact ⟨⟨0, Nat.zero_le _, rfl, by rw [e]; rfl⟩, rfl⟩
theorem ownsRow_shorter {w : World} {B : Nat} {e : TypeId} {A : Option Addr} {n c k : Nat} {xs : List Value} (h : w.ownsRow B e 1 (.slice A n c) n xs) (hk : k ≤ n) : w.ownsRow B e 1 (.slice A k c) k (xs.take k) := by
  obtain ⟨h0, h1⟩ := h
  rw [Nat.mul_one] at h0
  refine ⟨by rw [List.length_take]; omega, ?_⟩
  rcases h1 with ⟨h1, h2⟩ | ⟨g, cap, cur, h1, h2, h3, h4, h5, h6, h7⟩
  · obtain ⟨rfl, _, rfl⟩ := Value.slice.inj h1
    exact .inl ⟨by rw [show k = 0 by omega], by omega⟩
  · obtain ⟨rfl, _, rfl⟩ := Value.slice.inj h1
    refine .inr ⟨g, _, cur, rfl, h2, h3, by omega, h5, h6, ?_⟩
    rw [← h7, List.take_take, Nat.mul_one, Nat.mul_one, Nat.min_eq_left hk]
theorem us_take (l : List Nat) (k : Nat) : us (l.take k) = (us l).take k := by simp [us, List.map_take]
theorem dbare_own (v : Value) (B : Nat) (l : List Nat) (w : World) (h : w.ownsRow B 141 1 v l.length (us l)) (hb : Bd l) :
    Calls Tryz.prog 185 #[v] w fun e w' => (∃ v', e = .returned v' ∧ w'.ownsRow B 141 1 v' (limbs (num l)).length (us (limbs (num l)))) ∧ w = w' := by
  obtain ⟨A, c, rfl, _, _, _⟩ := own_form h
  refine (dbare_take A c l w (IsL.of_own h hb)).mono ?_
  rintro e w' ⟨⟨k, hk, rfl, hl⟩, rfl⟩
  refine ⟨⟨_, rfl, ?_⟩, rfl⟩
  have := ownsRow_shorter h hk
  rw [hl, us_take, List.length_take, Nat.min_eq_left hk]
  exact this
theorem run_make_u64c (t : TypeId) (ht : Tryz.prog.underlying t = some (.slice 141)) (n c : Nat) (k m : Int) (hk : k = n) (hm : m = c) (hnc : n ≤ c) (hn : c ≤ 10000000) (W : World) :
    ∃ v W', (Instr.makeSlice t (.int .i64 k) (.int .i64 m)).run Tryz.prog W = .ok v W' ∧ W'.ownsRow W.heap.size 141 1 v n (us (zeros n)) ∧ Below W.heap.size W W' := by
  obtain ⟨i0, hi, hz0, hz1, hz2⟩ := info_parts info_u64
  subst hk hm
  refine ⟨_, _, run_make W t 141 i0 (.int .u64 0) ht hi hz0 .i64 .i64 n c (by omega) (by omega) (by rw [hz2]; omega) (by omega), ?_, (Below.refl _ _).alloc (Nat.le_refl _) _⟩
  simp only [Int.toNat_natCast, hz1, Nat.mul_one, madeCells_us]
  refine ⟨by rw [us_len, zeros_len]; omega, .inr ⟨W.heap.size, c, (us (zeros c)).toArray, rfl, Nat.le_refl _, heap_alloc_new W _, hnc, by unfold maxLen; omega, by simp [us_len, zeros_len], ?_⟩⟩
  rw [Nat.mul_one]
  simp [us, zeros, hnc]
set_option maxRecDepth 100000 in
set_option maxHeartbeats 2000000 in
theorem dshl_own (va : Value) (a : Nat) (n : Nat) (hn : n ≤ 20000) (w : World) (ha : IsN w va a) (hla : (limbs a).length ≤ 1000000) :
    Calls Tryz.prog 130 #[va, .int .i64 n] w fun e w' => ∃ v', e = .returned (.tuple #[v', .int .i64 0]) ∧ w'.ownsRow w.heap.size 141 1 v' (limbs (a * 2 ^ n)).length (us (limbs (a * 2 ^ n))) ∧ Below w.heap.size w w' := by
  obtain ⟨A, c, rfl, hlc, hc, hbd, hr⟩ := ha
  have HALL := Lib.hid (shl_all hbd n)
  rw [num_limbs] at HALL
  obtain ⟨l, hl⟩ : ∃ l, l = limbs a := ⟨_, rfl⟩
  rw [← hl] at HALL hbd hr hla hlc ⊢
  clear hl
  obtain ⟨s, hs⟩ : ∃ s, s = n % 64 := ⟨_, rfl⟩
  obtain ⟨m, hm⟩ : ∃ m, m = n / 64 := ⟨_, rfl⟩
  have hs64 : s < 64 := by omega
  have hm3 : m ≤ 400 := by omega
  have q1 : (n : Int) % 64 = (s : Int) := by omega
  have q2 : (n : Int) / 64 = (m : Int) := by omega
  rw [← hs, ← hm] at HALL
  clear hs hm
  have hd0 : decide ((n : Int) < 0) = false := decide_eq_false (by omega)
  have hd1 : ¬ (20000 : Int) < (n : Int) := by omega
  obtain ⟨v0, W0, hmk, hown0, hB0⟩ := run_make_u64c 28 Tryz.underlying28 m (m + l.length + 1) (m : Int) ((m : Int) + (l.length : Int) + 1) rfl (by omega) (by omega) (by omega) w
  have hl1 : (l.length : Int) ≤ 1000000 := by omega
  have hm1 : (m : Int) ≤ 400 := by omega
  go_enter Tryz.func130, Tryz.ntmps130
  go_wp2_with fail
  go_loopw [6, 8, 30] (fun o cV iV wr => ∃ (i : Nat), i ≤ l.length ∧ iV = .int .i64 i ∧ cV = .int .u64 ((shlS s m (l.take i)).2 : Nat) ∧ wr.ownsRow w.heap.size 141 1 o (shlS s m (l.take i)).1.length (us (shlS s m (l.take i)).1) ∧ Below w.heap.size w wr) (fun _ _ i _ => l.length - (RowKit.intOf i).toNat)
  case atStart => exact ⟨0, Nat.zero_le _, rfl, rfl, by simpa [shlS, zeros_len] using hown0, hB0⟩
  case round =>
    obtain ⟨i, hi, rfl, rfl, hown, hB⟩ := hrel
    obtain ⟨p, hp⟩ : ∃ p, p = shlS s m (l.take i) := ⟨_, rfl⟩
    obtain ⟨k1, k2, k3, _⟩ := shlS_ok (s := s) (m := m) (by omega) (l.take i) (fun x hx => hbd x (List.mem_of_mem_take hx))
    rw [← hp] at hown k1 k2 k3 ⊢
    rw [List.length_take, Nat.min_eq_left hi] at k1
    by_cases hlt : i < l.length
    · obtain ⟨ad, rfl, _, hxc⟩ := us_cell (hr.below hB) hlt
      have hx64 := hbd.lat i
      have hsn : shlS s m (l.take (i + 1)) = shlF s p (lat l i) := by rw [take_more hlt, shlS_snoc, ← hp]
      obtain ⟨x, hx⟩ : ∃ x, x = lat l i := ⟨_, rfl⟩
      rw [← hx] at hsn hxc hx64
      unfold shlF at hsn
      obtain ⟨_, _, ⟨z, hz⟩, d4⟩ := shl_digit (s := s) (by omega) hx64
      have d5 := d4 _ k2
      have w1 := u64_shl_mod x s
      have w2 := int_div_pow x (64 - s)
      have w3 := u64_or_nat (x * 2 ^ s % W64) p.2 (by have := Nat.mod_lt (x * 2 ^ s) W64_pos; unfold W64 at *; omega) (by unfold W64 at *; omega)
      rw [show (x * 2 ^ s % W64) ||| p.2 = x * 2 ^ s % W64 + p.2 by rw [hz]; exact or_add z p.2 s k2] at w3
      obtain ⟨d, hd⟩ : ∃ d, d = x * 2 ^ s % W64 + p.2 := ⟨_, rfl⟩
      obtain ⟨c2, hc2⟩ : ∃ c2, c2 = x / 2 ^ (64 - s) := ⟨_, rfl⟩
      rw [← hd] at w3 hsn
      rw [← hc2] at w2 hsn
      obtain ⟨y, hy⟩ : ∃ y, y = x * 2 ^ s % W64 := ⟨_, rfl⟩
      rw [← hy] at w1 w3
      obtain ⟨o1, c1⟩ := p
      simp only at hown k1 k2 k3 w3 hsn
      have HSN := Lib.hid hsn
      have ho1 : o1.length ≤ 1000500 := by omega
      clear hp hsn hx hz d4 d5 hd hc2 hy k1 k3 k2
      have g1 : ((64 : Int) - (s : Int)).toNat = 64 - s := by omega
      have g2 : (0 : Int) ≤ (64 : Int) - (s : Int) := by omega
      have j1 : (i : Int) < (l.length : Int) := by omega
      have j0 : (0 : Int) ≤ (i : Int) := by omega
      go_wp2_with (at_builtin; go_must (refine wpList_app1 _ rfl _ _ 28 141 (.int .u64 0) 8 rfl Tryz.underlying28 info_u64 rfl w.heap.size (.int .u64 ((d : Nat) : Int)) rfl _ o1.length (us o1) rfl (hown.alloc _) ⟨wr.heap.size, 0, none⟩ rfl (by exact new_cell _ _ _) (by omega) (by omega) (by simp; exact Nat.le_succ_of_le hB.size) ?_; intro v' w1 hown' hgrow))
      refine ⟨⟨i + 1, by omega, congrArg (Value.int .i64) (by omega), by rw [HSN.out], ?_, (hB.alloc hB.size _).grown hgrow (by simp; exact Nat.le_succ_of_le hB.size) (fun j e => (hown.lt j e).1)⟩, by simp [RowKit.intOf]; omega⟩
      rw [HSN.out, us_snoc, List.length_append, List.length_singleton]
      exact hown'
    · obtain rfl : i = l.length := by omega
      rw [List.take_length] at hp
      rw [← hp] at HALL
      have hc64 : p.2 < W64 := Nat.lt_of_lt_of_le k2 (by rw [← two64 (s := s) (by omega)]; exact Nat.le_mul_of_pos_right _ (Nat.pow_pos (by omega)))
      obtain ⟨o1, c1⟩ := p
      simp only at hown k1 k2 k3 HALL hc64
      have ho1 : o1.length ≤ 1000500 := by omega
      have K3 := Lib.hid (k3.snoc hc64)
      clear hp k1 k2 k3 hi hc64
      go_wp2_with (at_builtin; go_must (refine wpList_app1 _ rfl _ _ 28 141 (.int .u64 0) 8 rfl Tryz.underlying28 info_u64 rfl w.heap.size (.int .u64 ((c1 : Nat) : Int)) rfl _ o1.length (us o1) rfl (hown.alloc _) ⟨wr.heap.size, 0, none⟩ rfl (by exact new_cell _ _ _) (by omega) (by omega) (by simp; exact Nat.le_succ_of_le hB.size) ?_; intro v' w1 hown' hgrow))
      have hB1 := (hB.alloc hB.size _).grown hgrow (by simp; exact Nat.le_succ_of_le hB.size) (fun j e => (hown.lt j e).1)
      rw [show us o1 ++ [Value.int .u64 (c1 : Nat)] = us (o1 ++ [c1]) from (us_snoc o1 c1).symm, show o1.length + 1 = (o1 ++ [c1]).length by simp] at hown'
      refine (dbare_own v' _ _ w1 hown' K3.out).mono ?_
      rintro e w2 ⟨⟨r, rfl, hr2⟩, rfl⟩
      rw [HALL.out] at hr2
      go_wp2
      go_ret2
      exact ⟨_, rfl, hr2, hB1⟩
theorem dshl_any (va : Value) (a : Nat) (n : Nat) (hn : n ≤ 20000) (w : World) (ha : IsN w va a) (hla : (limbs a).length ≤ 1000000) :
    Calls Tryz.prog 130 #[va, .int .i64 n] w fun e w' => ∃ v', e = .returned (.tuple #[v', .int .i64 0]) ∧ IsN w' v' (a * 2 ^ n) ∧ Below w.heap.size w w' :=
  (dshl_own va a n hn w ha hla).mono fun _ _ ⟨v', h1, h2, h3⟩ => ⟨v', h1, IsN.of_own h2, h3⟩
end Go.Proofs.YtdnjdglekifhpaaGreat
namespace Go.Proofs.YtdnjdglekifhpaaGreat
open Go.RowKit
structure KR (n₀ lo hi : Nat) (W W' : World) : Prop where
  low : Below n₀ W W'
  mid : ∀ i, lo ≤ i → i < hi → W'.heap[i]? = W.heap[i]?
theorem KR.refl (n₀ lo hi : Nat) (W : World) : KR n₀ lo hi W W := ⟨Below.refl _ _, fun _ _ _ => rfl⟩
theorem KR.trans {n₀ lo hi : Nat} {A B C : World} (h : KR n₀ lo hi A B) (k : KR n₀ lo hi B C) : KR n₀ lo hi A C := ⟨h.low.trans k.low, fun i h1 h2 => (k.mid i h1 h2).trans (h.mid i h1 h2)⟩
theorem KR.drew {n₀ lo hi : Nat} {A B : World} (h : KR n₀ lo hi A B) : KR n₀ lo hi A B.drew := ⟨h.low.drew, h.mid⟩
theorem KR.put {n₀ lo hi : Nat} {w : World} (hn : n₀ ≤ w.heap.size) (hh : hi ≤ w.heap.size) (W : World) (l : Nat) (o o' : Obj) (hl : w.heap.size ≤ l) (h : W.heap[l]? = some o) (h1 : o.isCells = false) (h2 : o.isWalk = false) : KR n₀ lo hi W (W.putObj l o') :=
  ⟨belowK_b hn W l o o' hl h h1 h2, fun i _ hi' => (grownBy_putObj' W l o').block i (by have := (Array.getElem?_eq_some_iff.1 h).1; omega) (fun e => by cases e; omega)⟩
theorem KR.cell {n₀ lo hi : Nat} {A B : World} (h : KR n₀ lo hi A B) {b o : Nat} (h1 : lo ≤ b) (h2 : b < hi) : B.cell? ⟨b, o, none⟩ = A.cell? ⟨b, o, none⟩ := World.cell?_of_block (h.mid b h1 h2)
theorem grownBy_drew (w : World) : w.grownBy w.drew none := ⟨rfl, rfl, rfl, Nat.le_refl _, fun _ _ _ => rfl⟩
theorem KR.of_below {n₀ lo hi b₁ : Nat} {A B : World} (h : Below b₁ A B) (h1 : n₀ ≤ b₁) (h2 : hi ≤ b₁) : KR n₀ lo hi A B := ⟨h.mono h1, fun i _ hi => h.block i (by omega)⟩
theorem KR.set {n₀ lo hi C : Nat} {A B : World} (h : KR n₀ lo hi A B) (h1 : n₀ ≤ C) (h2 : C < lo ∨ hi ≤ C) (x : Value) : KR n₀ lo hi A (B.setCell ⟨C, 0, none⟩ x) :=
  ⟨h.low.setCell (p := ⟨C, 0, none⟩) h1 x, fun i hl hh => (Below.heap_setCell B ⟨C, 0, none⟩ x i (by show i ≠ C; omega)).trans (h.mid i hl hh)⟩
theorem KR.setAt {n₀ lo hi C i : Nat} {A B : World} (h : KR n₀ lo hi A B) (h1 : n₀ ≤ C) (h2 : C < lo ∨ hi ≤ C) (x : Value) : KR n₀ lo hi A (B.setCell ⟨C, i, none⟩ x) :=
  ⟨h.low.setCell (p := ⟨C, i, none⟩) h1 x, fun k hl hh => (Below.heap_setCell B ⟨C, i, none⟩ x k (by show k ≠ C; omega)).trans (h.mid k hl hh)⟩
end Go.Proofs.YtdnjdglekifhpaaGreat
namespace Go.Proofs.YtdnjdglekifhpaaGreat
open Go Go.RowKit Go.Shelf
attribute [local go_sem] Oper.semAt_some
section
variable {F : Fence} {n : Nat} {P : Program}
def SeqTells {α : Type} (F : Fence) (n : Nat) (P : Program) (g : Nat) (lb : Array Value) (encs : α → Array Value) (R : List α → α → World → Prop) (Kp : World → World → Prop) (S Sp : List α → Prop) (N : Nat) (w : World) : Prop :=
  ∀ (l : Nat) (J Jx : List α → World → Prop) (W : World), Below w.heap.size w W → AbidesFrom W.heap.size J → AbidesFrom W.heap.size Jx →
    (∀ pre x W1, J pre W1 → R pre x W1 → pre.length < N → YieldAt F (n - 1) P l (encs x) W1 fun e W' =>
      (e = .returned (.bool true) ∧ J (pre ++ [x]) W' ∧ Kp W1 W') ∨ (e = .returned (.bool false) ∧ Jx (pre ++ [x]) W')) →
    J [] W →
    CallsIn F n P g (#[.func (.yield l) #[] #[]] ++ lb) W fun e W' => (∃ v, e = .returned v) ∧ ((∃ xs, S xs ∧ J xs W') ∨ (∃ pre, Sp pre ∧ Jx pre W'))
theorem wpIn_rangeFunc_tells {α : Type} {g : Operand} {ps : Array Tmp} {assign body : Code} {Q : Exit → Act → World → Prop} {a : Act} {w : World}
    (hro : F.round = none) (h1 : 1 ≤ n) {gf : Nat} {lb : Array Value} (hg : a.eval g = .func (.func gf) #[] lb) (hFg : F.fn gf) (eg : ∀ args w, (callFunc gf args).run P w = .ok (.enter gf args) w)
    {encs : α → Array Value} {R : List α → α → World → Prop} {Kp : World → World → Prop} {S Sp : List α → Prop} {N : Nat} {w0 : World} (hseq : SeqTells F (n - 1) P gf lb encs R Kp S Sp N w0)
    (hKt : ∀ {A B C : World}, Kp A B → Kp B C → Kp A C) (hKb : ∀ (W : World) (l : Nat) (o o' : Obj), w.heap.size ≤ l → W.heap[l]? = some o → o.isCells = false → o.isWalk = false → Kp W (W.putObj l o'))
    (hRb : ∀ (pre : List α) (x : α) (W : World) (l : Nat) (o o' : Obj), w.heap.size ≤ l → W.heap[l]? = some o → o.isCells = false → R pre x W → R pre x (W.putObj l o')) (hb0 : Below w0.heap.size w0 w) (hps : ∀ x, (encs x).size = ps.size)
    (I : List α → World → Prop) (Ix : Code → List α → World → Prop) (hI : OwnFrom w.heap.size I) (hIx : ∀ c, OwnFrom w.heap.size (Ix c)) (h0 : I [] w) (a₁ : α → Act)
    (hassign : ∀ (l : Nat) (x : α) (W : World) (K : Act → World → Prop), K (a₁ x) W →
      assign.wpIn (F.inRound l) (n - 1 - 1) P (Exit.then K (fun _ _ _ => False)) { tmps := (ps.zip (encs x)).foldl (fun t (p, v) => t.setIfInBounds p v) a.tmps, defers := [] } W)
    (hbody : ∀ (l : Nat) (pre : List α) (x : α) (W : World), I pre W → R pre x W → pre.length < N → body.wpIn (F.inRound l) (n - 1 - 1) P (ownPostG w.heap.size Kp I Ix (pre ++ [x]) W) (a₁ x) W)
    (hdone : ∀ (D : Nat) (xs : List α) (W : World), w.heap.size ≤ D → S xs → I xs W → W.heap[D]? = some (.deferred (some [])) → Q .normal { a with defers := { target := .collected D, args := #[] } :: a.defers } W)
    (hstop : ∀ (D : Nat) (c : Code) (pre : List α) (W : World), w.heap.size ≤ D → Sp pre → Ix c pre W → W.heap[D]? = some (.deferred (some [])) → c.wpIn F n P Q { a with defers := { target := .collected D, args := #[] } :: a.defers } W) :
    (Code.rangeFunc g ps assign body).wpIn F n P Q a w := by
  refine wpIn_rangeFunc ?_
  intro fn hfn
  rw [hro]
  obtain ⟨rc, hrc⟩ : ∃ rc : LoopState → Option Code → Loop, rc = fun st pe => { state := st, pending := pe, fn, tmps := a.tmps, params := ps, assign, body, defers := w.heap.size } := ⟨_, rfl⟩
  obtain ⟨V, hV⟩ : ∃ V, (w.alloc (.deferred (some []))).alloc (.loop (rc .ready none)) = V := ⟨_, rfl⟩
  have vL : V.heap[w.heap.size + 1]? = some (.loop (rc .ready none)) := by
    have := World.alloc_heap_new (w.alloc (.deferred (some []))) (.loop (rc .ready none))
    rw [World.size_alloc] at this; rwa [← hV]
  have vD : V.heap[w.heap.size]? = some (.deferred (some [])) := by
    rw [← hV]; exact (Below.heap_alloc _ _ _ (by simp)).trans (World.alloc_heap_new w _)
  have vI : I [] V := by rw [← hV]; exact hI.alloc _ (hI.alloc _ h0)
  have vB : Below w0.heap.size w0 V := by
    rw [← hV]; exact hb0.trans ((((Below.refl _ w).alloc (Nat.le_refl _) _).alloc (by simp) _).mono hb0.size)
  refine ⟨w.heap.size + 1, [{ target := .collected w.heap.size, args := #[] }], V, { target := .fn (.func gf) lb, args := #[.func (.yield (w.heap.size + 1)) #[] #[]] }, V, gf,
    #[.func (.yield (w.heap.size + 1)) #[] #[]] ++ lb, V, ?_, ?_, ?_, ?_, fun _ => h1, ?_⟩
  · rw [← hV, hrc]; exact run_enterLoop_outer _ _ _ _ _
  · simp only [resolve, hg]
    simp [go_sem]
  · intro f' hf'; simp [Target.leads] at hf'; subst hf'; exact hFg
  · simp [invoke, go_sem, eg]
  have hnw : ∀ {A B : World} {row : Option Nat}, (∀ r, row = some r → V.heap.size ≤ r ∧ ∃ o : Obj, A.heap[r]? = some o ∧ o.isWalk = true) → (∀ r, row = some r → w.heap.size ≤ r ∧ ∃ o : Obj, A.heap[r]? = some o ∧ o.isCells = false) :=
    fun hr r e => by obtain ⟨hB, o, ho, hw⟩ := hr r e; exact ⟨by rw [← hV] at hB; simp at hB; omega, o, ho, Obj.not_cells_of_walk hw⟩
  refine (hseq (w.heap.size + 1)
    (fun pre W => I pre W ∧ W.heap[w.heap.size + 1]? = some (.loop (rc .ready none)) ∧ W.heap[w.heap.size]? = some (.deferred (some [])))
    (fun pre W => ∃ c, Ix c pre W ∧ W.heap[w.heap.size + 1]? = some (.loop (rc .done (some c))) ∧ W.heap[w.heap.size]? = some (.deferred (some [])))
    V vB
    (fun s A B row hs hg' hr => ⟨hI s A B row hs.1 hg' (hnw (B := B) hr), (grownBy_keeps hg' (fun r e => (hr r e).2) hs.2.1 rfl).trans hs.2.1, (grownBy_keeps hg' (fun r e => (hr r e).2) hs.2.2 rfl).trans hs.2.2⟩)
    (fun s A B row hs hg' hr => by
      obtain ⟨c, hc, hl, hk⟩ := hs
      exact ⟨c, hIx c s A B row hc hg' (hnw (B := B) hr), (grownBy_keeps hg' (fun r e => (hr r e).2) hl rfl).trans hl, (grownBy_keeps hg' (fun r e => (hr r e).2) hk rfl).trans hk⟩)
    ?_ ⟨vI, vL, vD⟩).mono ?_
  · rintro pre x W ⟨hi, hl, hk⟩ hR hlen
    have hlt : w.heap.size + 1 < W.heap.size := (Array.getElem?_eq_some_iff.1 hl).1
    have hy := run_yield (P := P) (args := encs x) hl (by rw [hrc]; exact hps x)
    rw [hrc] at hy
    refine ⟨fn, _, assign, body, hy, roundIn_of_wpIn hfn (hassign _ x W _ ⟨_, run_beginRound hl (by rw [hrc]), ?_⟩)⟩
    obtain ⟨U, hU⟩ : ∃ U, W.putObj (w.heap.size + 1) (.loop { rc .ready none with state := .busy }) = U := ⟨_, rfl⟩
    have uL : U.heap[w.heap.size + 1]? = some (.loop { rc .ready none with state := .busy }) := by rw [← hU]; exact World.putObj_heap_same hlt
    have uD : U.heap[w.heap.size]? = some (.deferred (some [])) := by rw [← hU]; exact (World.putObj_heap_other (by omega)).trans hk
    have uK : Kp W U := by rw [← hU]; exact hKb _ _ _ _ (by omega) hl rfl rfl
    have uI : I pre U := by rw [← hU]; exact hI.putObj _ hi (by omega) hl rfl
    have uR : R pre x U := by rw [← hU]; exact hRb pre x _ _ _ _ (by omega) hl rfl hR
    have main := hbody (w.heap.size + 1) pre x U uI uR hlen
    rw [← hU] at main uL uD uK
    refine wpIn_mono main ?_
    have fin : ∀ (jump : Option Code) (Z : World), KeepsFrom w.heap.size (W.putObj (w.heap.size + 1) (.loop { rc .ready none with state := .busy })) Z →
        (Instr.endRound (w.heap.size + 1) jump).run P Z = .ok (.bool jump.isNone) (Z.putObj (w.heap.size + 1) (.loop (rc (if jump.isNone then .ready else .done) jump))) ∧
        Z.heap[w.heap.size + 1]? = some (.loop { rc .ready none with state := .busy }) ∧
        (Z.putObj (w.heap.size + 1) (.loop (rc (if jump.isNone then .ready else .done) jump))).heap[w.heap.size + 1]? = some (.loop (rc (if jump.isNone then .ready else .done) jump)) ∧
        (Z.putObj (w.heap.size + 1) (.loop (rc (if jump.isNone then .ready else .done) jump))).heap[w.heap.size]? = some (.deferred (some [])) := fun jump Z hz => by
      have zL := hz.same _ _ (by omega) uL rfl
      have := run_endRound (P := P) jump zL
      rw [hrc] at this ⊢
      exact ⟨this, by rw [hrc] at zL; exact zL, World.putObj_heap_same (Array.getElem?_eq_some_iff.1 zL).1, (World.putObj_heap_other (by omega)).trans (hz.same _ _ (Nat.le_refl _) uD rfl)⟩
    have leaves : ∀ (c : Code) (Z : World), KeepsFrom w.heap.size (W.putObj (w.heap.size + 1) (.loop { rc .ready none with state := .busy })) Z ∧ Ix c (pre ++ [x]) Z →
        ∃ v Z', (Instr.endRound (w.heap.size + 1) (some c)).run P Z = .ok v Z' ∧ v = .bool false ∧ ∃ c', Ix c' (pre ++ [x]) Z' ∧ Z'.heap[w.heap.size + 1]? = some (.loop (rc .done (some c'))) ∧ Z'.heap[w.heap.size]? = some (.deferred (some [])) := fun c Z ⟨hz, hi3⟩ => by
      obtain ⟨hr, h3, h4, h5⟩ := fin (some c) Z hz
      exact ⟨_, _, hr, rfl, c, (hIx _).putObj _ hi3 (by omega) h3 rfl, h4, h5⟩
    rintro e a3 Z hp
    cases e with
    | normal =>
      obtain ⟨hz, hkp, hi3⟩ := hp
      obtain ⟨hr, h3, h4, h5⟩ := fin none Z hz
      exact ⟨_, _, hr, .inl ⟨rfl, ⟨hI.putObj _ hi3 (by omega) h3 rfl, h4, h5⟩, hKt (hKt uK hkp) (hKb _ _ _ _ (by omega) h3 rfl rfl)⟩⟩
    | ret =>
      obtain ⟨v, Z', h1, h2, h3⟩ := leaves .ret Z hp
      exact ⟨v, Z', h1, .inr ⟨by rw [h2], h3⟩⟩
    | exit id =>
      obtain ⟨v, Z', h1, h2, h3⟩ := leaves (.exit id) Z hp
      exact ⟨v, Z', h1, .inr ⟨by rw [h2], h3⟩⟩
    | goto t =>
      obtain ⟨v, Z', h1, h2, h3⟩ := leaves (.goto t) Z hp
      exact ⟨v, Z', h1, .inr ⟨by rw [h2], h3⟩⟩
    | panic ch => exact hp.elim
    | outgrown => exact hp.elim
  · rintro e Z ⟨⟨v, rfl⟩, (⟨xs, hS, hi, hl, hk⟩ | ⟨pre, hSp, c, hi, hl, hk⟩)⟩
    · exact ⟨none, _, by have := run_endLoop (P := P) hl (by rw [hrc]; simp); rw [hrc] at this; exact this, hdone _ xs _ (Nat.le_refl _) hS (hI.putObj _ hi (by omega) hl rfl) ((World.putObj_heap_other (by omega)).trans hk)⟩
    · exact ⟨some c, _, by have := run_endLoop (P := P) hl (by rw [hrc]; simp); rw [hrc] at this; exact this, hstop _ c pre _ (Nat.le_refl _) hSp ((hIx c).putObj _ hi (by omega) hl rfl) ((World.putObj_heap_other (by omega)).trans hk)⟩
end
abbrev Liv (m : Nat) := { p : Nat × Nat // p.1 < m ∧ p.2 < W64 }
def LivR (g : Nat) {m : Nat} (pre : List (Liv m)) (x : Liv m) (W : World) : Prop := W.cell? ⟨g, x.1.1, none⟩ = some (.int .u64 (x.1.2 : Nat)) ∧ x.1.1 + 1 + pre.length = m ∧ pre.map (·.1.1) = back m pre.length
structure KL (n₀ lo hi g m : Nat) (W W' : World) : Prop where
  kr : KR n₀ lo hi W W'
  row : ∀ L, RowU W g L → L.length = m → Bd L → ∃ L', RowU W' g L' ∧ L'.length = m ∧ Bd L'
theorem KL.trans {n₀ lo hi g m : Nat} {A B C : World} (h : KL n₀ lo hi g m A B) (k : KL n₀ lo hi g m B C) : KL n₀ lo hi g m A C :=
  ⟨h.kr.trans k.kr, fun L hL hm hb => by obtain ⟨L', a, b, c⟩ := h.row L hL hm hb; exact k.row L' a b c⟩
theorem KL.refl (n₀ lo hi g m : Nat) (W : World) : KL n₀ lo hi g m W W := ⟨KR.refl _ _ _ _, fun L h1 h2 h3 => ⟨L, h1, h2, h3⟩⟩
theorem KL.put {n₀ lo hi g m : Nat} {w : World} (hn : n₀ ≤ w.heap.size) (hh : hi ≤ w.heap.size) (W : World) (l : Nat) (o o' : Obj) (hl : w.heap.size ≤ l) (h : W.heap[l]? = some o) (h1 : o.isCells = false) (h2 : o.isWalk = false) : KL n₀ lo hi g m W (W.putObj l o') :=
  ⟨KR.put hn hh W l o o' hl h h1 h2, fun L hL hm hb => ⟨L, hL.putObj h h1, hm, hb⟩⟩
theorem LivR.put {g m : Nat} {pre : List (Liv m)} {x : Liv m} {W : World} {l : Nat} {o o' : Obj} (hl : W.heap[l]? = some o) (ho : o.isCells = false) (h : LivR g pre x W) : LivR g pre x (W.putObj l o') := by
  obtain ⟨h, hh⟩ := h
  refine ⟨?_, hh⟩
  rw [← h]
  refine World.cell?_of_block ((grownBy_putObj' W l o').block g ?_ (fun e => ?_))
  · exact World.block_lt_of_cell? W _ h
  · cases e
    have h2 := h
    unfold World.cell? at h2
    simp only [hl] at h2
    cases o <;> first | (cases ho; done) | (simp at h2)
set_option maxRecDepth 100000 in
set_option maxHeartbeats 1000000 in
theorem live1_in (F : Fence) (n : Nat) (h7 : F.fn 234) (hro : F.round = none) (hn : 1 ≤ n) (lr Bs n₀ c g m : Nat) (hm : m ≤ 9223372036854775807) (J Jx : List (Liv m) → World → Prop)
    (hY : ∀ pre x W, J pre W → LivR g pre x W → pre.length < m → YieldAt F (n - 1) Tryz.prog lr #[.int .i64 (x.1.1 : Nat), .int .u64 (x.1.2 : Nat)] W fun e W' =>
      (e = .returned (.bool true) ∧ J (pre ++ [x]) W' ∧ KL n₀ Bs (Bs + 1) g m W W') ∨ (e = .returned (.bool false) ∧ Jx (pre ++ [x]) W'))
    (W : World) (hBs : W.cell? ⟨Bs, 0, none⟩ = some (.slice (some ⟨g, 0, none⟩) m c)) (hr : ∃ L, RowU W g L ∧ L.length = m ∧ Bd L) (h0 : J [] W) :
    CallsIn F n Tryz.prog 234 #[.func (.yield lr) #[] #[], .pointer (some ⟨Bs, 0, none⟩)] W fun e W' => (∃ v, e = .returned v) ∧
      ((∃ ys : List (Liv m), ys.map (·.1.1) = back m m ∧ J ys W') ∨ (∃ pre : List (Liv m), (∃ k, k ≤ m ∧ pre.map (·.1.1) = back m k) ∧ Jx pre W')) := by
  obtain ⟨L0, a0, l0, b0⟩ := hr
  refine callsIn_of_wp Tryz.func234 rfl h7 ?_ hro
  simp only [Tryz.ntmps234, List.size_toArray, List.length_cons, List.length_nil, Nat.reduceAdd, Nat.reduceSub, Array.replicate_succ, Array.replicate_zero, List.push_toArray, List.append_toArray, List.nil_append, List.cons_append]
  gi_wp2
  gi_loopw [3] (fun i wr => ∃ (k : Nat) (pre : List (Liv m)), k ≤ m ∧ i = .int .i64 ((m : Int) - 1 - (k : Int)) ∧ Hid (pre.map (·.1.1) = back m k) ∧ J pre wr ∧ KL n₀ Bs (Bs + 1) g m W wr)
    (fun i _ => (intOf i + 1).toNat)
  case atStart => exact ⟨0, [], Nat.zero_le _, by simp, Lib.hid rfl, h0, KL.refl _ _ _ _ _ _⟩
  case round =>
    obtain ⟨k, pre, hk, rfl, hpre, hJs, hnx⟩ := hrel
    by_cases hlt : k < m
    · have hpk : pre.length = k := by have := congrArg List.length hpre.out; rwa [List.length_map, back_length] at this
      have hpl : pre.length < m := by omega
      obtain ⟨L1, a1, l1, b1⟩ := hnx.row L0 a0 l0 b0
      have hlt' : m - 1 - k < m := by omega
      have hnew : ∀ h, (pre ++ [(⟨(m - 1 - k, lat L1 (m - 1 - k)), h⟩ : Liv m)]).map (·.1.1) = back m (k + 1) := fun h => by
        rw [List.map_append, hpre.out, back_succ]; rfl
      have hcx := a1.cell (i := m - 1 - k) (by omega)
      obtain ⟨fn, tmps, assign, body, hy, hR⟩ := hY pre ⟨(m - 1 - k, lat L1 (m - 1 - k)), hlt', b1.lat _⟩ wr hJs ⟨hcx, by show m - 1 - k + 1 + pre.length = m; omega, by rw [hpk]; exact hpre.out⟩ hpl
      dsimp only at hy
      rw [show ((m - 1 - k : Nat) : Int) = (m : Int) - 1 - (k : Int) from by omega] at hy
      have hBs' := (hnx.kr.cell (b := Bs) (o := 0) (Nat.le_refl _) (Nat.lt_succ_self _)).trans hBs
      have hnew' := Lib.hid (hnew ⟨hlt', b1.lat _⟩)
      clear hnew hpl l0 l1 hpk
      gi_wp2
      refine hR.mono ?_
      rintro e W3 (⟨rfl, hJ3, hk3⟩ | ⟨rfl, hJx3⟩)
      · gi_wp2
        go_roundw
        case rel => exact ⟨k + 1, _, by omega, by go_num, hnew', hJ3, KL.trans hnx hk3⟩
        case measure => simp [intOf]; omega
      · gi_wp2
        refine bodyPost_ret (results_none rfl _ _ _) rfl ?_
        exact ⟨⟨_, rfl⟩, .inr ⟨_, ⟨k + 1, by omega, hnew'.out⟩, hJx3⟩⟩
    · obtain rfl : k = m := by omega
      clear l0
      gi_wp2
      go_end0
      exact ⟨⟨_, rfl⟩, .inl ⟨_, hpre.out, hJs⟩⟩
theorem live_tells (F : Fence) (n : Nat) (h7 : F.fn 234) (hro : F.round = none) (hn : 1 ≤ n) (Bs n₀ c g m : Nat) (hm : m ≤ 9223372036854775807) (w : World) (hBs : Bs < w.heap.size)
    (hc : w.cell? ⟨Bs, 0, none⟩ = some (.slice (some ⟨g, 0, none⟩) m c)) (hr : ∃ L, RowU w g L ∧ L.length = m ∧ Bd L) :
    SeqTells F n Tryz.prog 234 #[.pointer (some ⟨Bs, 0, none⟩)] (fun x : Liv m => #[Value.int .i64 (x.1.1 : Nat), Value.int .u64 (x.1.2 : Nat)]) (LivR g) (KL n₀ Bs (Bs + 1) g m) (fun ys => ys.map (·.1.1) = back m m)
      (fun pre => ∃ k, k ≤ m ∧ pre.map (·.1.1) = back m k) m w := fun lr J Jx W hW _ _ hY h0 => by
  obtain ⟨L, a, b, c'⟩ := hr
  exact live1_in F n h7 hro hn lr Bs n₀ c g m hm J Jx hY W ((hW.cell (p := ⟨Bs, 0, none⟩) (by simp; omega)).trans hc) ⟨L, a.below hW a.lt, b, c'⟩ h0
end Go.Proofs.YtdnjdglekifhpaaGreat
namespace Go.Proofs.YtdnjdglekifhpaaGreat
def shortQ (b : Nat) : List Nat → List Nat
  | [] => []
  | x :: l => ((num l % b) * W64 + x) / b :: shortQ b l
theorem num_two (x : Nat) (l : List Nat) : num (x :: l) = x + W64 * num l := rfl
theorem short_split (b x n : Nat) : x + W64 * n = (n % b) * W64 + x + b * (W64 * (n / b)) := by
  have e := Nat.div_add_mod n b
  generalize n / b = q at *
  generalize n % b = r at *
  rw [← e, Nat.mul_add, Nat.mul_comm W64 r, ← Nat.mul_assoc, ← Nat.mul_assoc, Nat.mul_comm b W64]; omega
theorem short_rem (b x : Nat) (l : List Nat) : num (x :: l) % b = ((num l % b) * W64 + x) % b := by
  rw [num_two, short_split b, Nat.add_mul_mod_self_left]
theorem shortQ_num {b : Nat} (hb : 0 < b) : ∀ l : List Nat, num (shortQ b l) = num l / b
  | [] => by unfold shortQ num; simp
  | x :: l => by
    have ih := shortQ_num hb l
    show num (((num l % b) * W64 + x) / b :: shortQ b l) = num (x :: l) / b
    rw [num_two, num_two, ih, short_split b x (num l), Nat.add_mul_div_left _ _ hb]
theorem shortQ_at (b : Nat) : ∀ (l : List Nat) (i : Nat), i < l.length → shortQ b (l.drop i) = ((num (l.drop (i + 1)) % b) * W64 + lat l i) / b :: shortQ b (l.drop (i + 1))
  | [], i, h => by simp at h
  | x :: l, 0, _ => by simp [shortQ, lat]
  | x :: l, i + 1, h => by
    have := shortQ_at b l i (by simpa using h)
    simpa [lat] using this
theorem short_rem_at (b : Nat) (l : List Nat) (i : Nat) (h : i < l.length) : num (l.drop i) % b = ((num (l.drop (i + 1)) % b) * W64 + lat l i) % b := by
  have e : l.drop i = lat l i :: l.drop (i + 1) := by
    rw [List.drop_eq_getElem_cons h]; congr 1; unfold lat; rw [List.getElem?_eq_getElem h]; rfl
  rw [e, short_rem]
end Go.Proofs.YtdnjdglekifhpaaGreat
namespace Go.Proofs.YtdnjdglekifhpaaGreat
def shF (b : Nat) (a : List Nat) (s : List Nat × Nat) (i : Nat) : List Nat × Nat := (s.1.set i ((s.2 * W64 + lat a i) / b), (s.2 * W64 + lat a i) % b)
def shS (b : Nat) (a : List Nat) (is : List Nat) : List Nat × Nat := is.foldl (shF b a) (zeros a.length, 0)
theorem shS_snoc (b : Nat) (a is : List Nat) (i : Nat) : shS b a (is ++ [i]) = shF b a (shS b a is) i := by unfold shS; rw [List.foldl_append]; rfl
theorem shS_len (b : Nat) (a : List Nat) (is : List Nat) : (shS b a is).1.length = a.length := by
  unfold shS
  suffices h : ∀ s : List Nat × Nat, (is.foldl (shF b a) s).1.length = s.1.length by rw [h]; exact zeros_len _
  induction is with
  | nil => intro s; rfl
  | cons i r ih => intro s; rw [List.foldl_cons, ih]; simp [shF]
theorem shS_ok {b : Nat} (hb : 0 < b) {a : List Nat} (ha : Bd a) (is : List Nat) : (shS b a is).2 < b ∧ Bd (shS b a is).1 := by
  unfold shS
  suffices h : ∀ s : List Nat × Nat, s.2 < b → Bd s.1 → (is.foldl (shF b a) s).2 < b ∧ Bd (is.foldl (shF b a) s).1 from h _ hb (Bd.zeros _)
  induction is with
  | nil => intro s h1 h2; exact ⟨h1, h2⟩
  | cons i r ih =>
    intro s h1 h2
    rw [List.foldl_cons]
    refine ih _ (Nat.mod_lt _ hb) fun x hx => ?_
    rcases List.mem_or_eq_of_mem_set hx with h | h
    · exact h2 x h
    · rw [h]
      have hl := ha.lat i
      rw [Nat.div_lt_iff_lt_mul hb]
      have : (s.2 + 1) * W64 ≤ b * W64 := Nat.mul_le_mul_right W64 h1
      rw [Nat.add_mul, Nat.one_mul] at this
      rw [Nat.mul_comm W64 b]
      omega
theorem set_zeros (n : Nat) (x : Nat) (l : List Nat) : (zeros (n + 1) ++ l).set n x = zeros n ++ x :: l := by
  have e : zeros (n + 1) = zeros n ++ [0] := by unfold zeros; rw [List.replicate_succ']
  rw [e, List.append_assoc, List.set_append_right _ _ (by rw [zeros_len]; exact Nat.le_refl _), zeros_len, Nat.sub_self]
  rfl
theorem shS_back (b : Nat) (a : List Nat) : ∀ k, k ≤ a.length → shS b a (back a.length k) = (zeros (a.length - k) ++ shortQ b (a.drop (a.length - k)), num (a.drop (a.length - k)) % b)
  | 0, _ => by
    unfold shS back
    simp [shortQ, num]
  | k + 1, h => by
    rw [back_succ, shS_snoc, shS_back b a k (by omega)]
    unfold shF
    simp only
    have e : a.length - k = (a.length - 1 - k) + 1 := by omega
    have e2 : a.length - (k + 1) = a.length - 1 - k := by omega
    rw [e, e2]
    have h1 := shortQ_at b a (a.length - 1 - k) (by omega)
    have h2 := short_rem_at b a (a.length - 1 - k) (by omega)
    rw [set_zeros, h1, h2]
theorem shS_all {b : Nat} (hb : 0 < b) (a : List Nat) : num (shS b a (back a.length a.length)).1 = num a / b ∧ (shS b a (back a.length a.length)).2 = num a % b := by
  rw [shS_back b a _ (Nat.le_refl _), Nat.sub_self, List.drop_zero]
  have e : zeros 0 = [] := rfl
  rw [e, List.nil_append]
  exact ⟨shortQ_num hb a, rfl⟩
end Go.Proofs.YtdnjdglekifhpaaGreat
namespace Go.Proofs.YtdnjdglekifhpaaGreat
open Go.RowKit Go.Shelf
attribute [local go_sem] Oper.semAt_some
set_option maxRecDepth 100000 in
set_option maxHeartbeats 1000000 in
theorem backK1_in (F : Fence) (n : Nat) (h7 : F.fn 234) (hro : F.round = none) (hn : 1 ≤ n) (lr Bs n₀ c : Nat) (A : Option Addr) (l : List Nat) (hl : l.length ≤ 9223372036854775807) (J Jx : List (Idx l.length) → World → Prop)
    (hY : ∀ pre x W, J pre W → pre.length < l.length → YieldAt F (n - 1) Tryz.prog lr #[.int .i64 (x.1 : Nat), .int .u64 (lat l x.1 : Nat)] W fun e W' =>
      (e = .returned (.bool true) ∧ J (pre ++ [x]) W' ∧ KR n₀ Bs (Bs + 1) W W') ∨ (e = .returned (.bool false) ∧ Jx (pre ++ [x]) W'))
    (W : World) (hBs : W.cell? ⟨Bs, 0, none⟩ = some (.slice A l.length c)) (hr : Reads W n₀ 1 A l.length (us l)) (h0 : J [] W) :
    CallsIn F n Tryz.prog 234 #[.func (.yield lr) #[] #[], .pointer (some ⟨Bs, 0, none⟩)] W fun e W' => (∃ v, e = .returned v) ∧
      ((∃ ys : List (Idx l.length), ys.map (·.1) = back l.length l.length ∧ J ys W') ∨ (∃ pre : List (Idx l.length), (∃ k, k ≤ l.length ∧ pre.map (·.1) = back l.length k) ∧ Jx pre W')) := by
  refine callsIn_of_wp Tryz.func234 rfl h7 ?_ hro
  simp only [Tryz.ntmps234, List.size_toArray, List.length_cons, List.length_nil, Nat.reduceAdd, Nat.reduceSub, Array.replicate_succ, Array.replicate_zero, List.push_toArray, List.append_toArray, List.nil_append, List.cons_append]
  gi_wp2
  gi_loopw [3] (fun i wr => ∃ (k : Nat) (pre : List (Idx l.length)), k ≤ l.length ∧ i = .int .i64 ((l.length : Int) - 1 - (k : Int)) ∧ Hid (pre.map (·.1) = back l.length k) ∧ J pre wr ∧ KR n₀ Bs (Bs + 1) W wr)
    (fun i _ => (intOf i + 1).toNat)
  case atStart => exact ⟨0, [], Nat.zero_le _, by simp, Lib.hid rfl, h0, KR.refl _ _ _ _⟩
  case round =>
    obtain ⟨k, pre, hk, rfl, hpre, hJs, hnx⟩ := hrel
    by_cases hlt : k < l.length
    · have hpl : pre.length < l.length := by have := congrArg List.length hpre.out; rw [List.length_map, back_length] at this; omega
      have hnew : ∀ h : l.length - 1 - k < l.length, (pre ++ [(⟨l.length - 1 - k, h⟩ : Idx l.length)]).map (·.1) = back l.length (k + 1) := fun h => by
        rw [List.map_append, hpre.out, back_succ]; rfl
      obtain ⟨fn, tmps, assign, body, hy, hR⟩ := hY pre ⟨l.length - 1 - k, by omega⟩ wr hJs hpl
      dsimp only at hy
      rw [show ((l.length - 1 - k : Nat) : Int) = (l.length : Int) - 1 - (k : Int) from by omega] at hy
      obtain ⟨ad, rfl, hb, hcx⟩ := us_cell (hr.below hnx.low) (k := l.length - 1 - k) (by omega)
      have hBs' := (hnx.cell (b := Bs) (o := 0) (Nat.le_refl _) (Nat.lt_succ_self _)).trans hBs
      have hnew' := Lib.hid (hnew (by omega))
      clear hnew hpl
      gi_wp2
      refine hR.mono ?_
      rintro e W3 (⟨rfl, hJ3, hk3⟩ | ⟨rfl, hJx3⟩)
      · gi_wp2
        go_roundw
        case rel => exact ⟨k + 1, _, by omega, by go_num, hnew', hJ3, KR.trans hnx hk3⟩
        case measure => simp [intOf]; omega
      · gi_wp2
        refine bodyPost_ret (results_none rfl _ _ _) rfl ?_
        exact ⟨⟨_, rfl⟩, .inr ⟨_, ⟨k + 1, by omega, hnew'.out⟩, hJx3⟩⟩
    · obtain rfl : k = l.length := by omega
      gi_wp2
      go_end0
      exact ⟨⟨_, rfl⟩, .inl ⟨_, hpre.out, hJs⟩⟩
theorem backK_stops (F : Fence) (n : Nat) (h7 : F.fn 234) (hro : F.round = none) (hn : 1 ≤ n) (Bs n₀ c : Nat) (A : Option Addr) (l : List Nat) (hl : l.length ≤ 9223372036854775807) (w : World) (hBs : Bs < w.heap.size) (hn₀ : n₀ ≤ w.heap.size)
    (hc : w.cell? ⟨Bs, 0, none⟩ = some (.slice A l.length c)) (hr : Reads w n₀ 1 A l.length (us l)) :
    SeqStopsK F n Tryz.prog 234 #[.pointer (some ⟨Bs, 0, none⟩)] (fun x : Idx l.length => #[Value.int .i64 (x.1 : Nat), Value.int .u64 (lat l x.1 : Nat)]) (KR n₀ Bs (Bs + 1)) (fun ys => ys.map (·.1) = back l.length l.length)
      (fun pre => ∃ k, k ≤ l.length ∧ pre.map (·.1) = back l.length k) l.length w := fun lr J Jx W hW _ _ hY h0 =>
  backK1_in F n h7 hro hn lr Bs n₀ c A l hl J Jx hY W ((hW.cell (p := ⟨Bs, 0, none⟩) (by simp; omega)).trans hc) (hr.below (hW.mono hn₀)) h0
end Go.Proofs.YtdnjdglekifhpaaGreat
namespace Go.Proofs.YtdnjdglekifhpaaGreat
section
variable {P : Program} {ops : Array Oper} {md : Region.Mode} {w : World} {n : Nat}
theorem wpInW_of_still {o : Oper} {a : Act} {K : Act → Prop} {K' : Act → World → Prop} {Q' : Exit → Act → World → Prop} (h : ∀ a, K a → K' a w) (hh : o.still P a w K) : o.wpIn Fence.wide n P a w K' Q' := by
  unfold Oper.still at hh
  unfold Oper.wpIn
  refine ⟨fun _ _ => trivial, ?_⟩
  rw [Fence.wide_round, Oper.semAt_none]
  generalize (execOp a.eval o).run P w = r at *
  cases r with
  | ok x w' =>
    cases x <;> simp only [Oper.stillUpon] at hh <;> simp only [Oper.uponIn]
    case enter f args =>
      obtain ⟨rfl, v, hc, hn⟩ := hh
      exact ⟨fun hd => by simp [Fence.wide] at hd, callsIn_wide.2 (hc.mono fun e w'' ⟨he, hw⟩ => by subst he; subst hw; exact h _ hn)⟩
    all_goals (obtain ⟨rfl, h2⟩ := hh; exact h _ h2)
  | halt x w' => simp only [Oper.stillUpon] at hh
theorem wpOpInW_of_stOp {i : Nat} {a : Act} {K : Act → Prop} {K' : Act → World → Prop} {Q' : Exit → Act → World → Prop} (h : ∀ a, K a → K' a w) (hh : stOp P ops w i K a) : wpOpIn Fence.wide n P ops Q' i K' a w := by
  unfold stOp at hh
  unfold wpOpIn
  split
  · rename_i ho; simp only [ho] at hh; exact h _ hh
  · rename_i o ho
    simp only [ho] at hh
    split
    · rename_i hw; simp only [hw, if_true] at hh; exact wpInW_of_still h hh
    · rename_i hw; simp only [hw] at hh; exact ⟨fun _ _ => trivial, h _ hh⟩
theorem wpAnyInW_of_head {m g : Nat} {L : Array Bool → Act → Prop} {Q' : Exit → Act → World → Prop} (hL : ∀ listed a, L listed a → wpAnyIn Fence.wide n P md ops Q' g listed a w) :
    ∀ (f : Nat) (listed : Array Bool) (a : Act), wpAnyL P md ops w m L f listed a → wpAnyIn Fence.wide n P md ops Q' (f + g) listed a w
  | 0, listed, a, h => by rw [Nat.zero_add]; exact hL _ _ h
  | f + 1, listed, a, h => by
    rw [show f + 1 + g = (f + g) + 1 by omega]
    exact ⟨fun h0 => absurd h0 h.1, fun i hi => wpOpInW_of_stOp (fun a' h' => wpAnyInW_of_head hL f _ a' h') (h.2 i hi).2⟩
theorem wpAnyInW_of_seq {Q' : Exit → Act → World → Prop} : ∀ (l : List Oper) (k : Nat) (listed : Array Bool) (a : Act) (w : World), (∀ j, l[j]? = ops[k + j]?) →
    Region.seqB md ops l.length k listed = true → wpListIn Fence.wide n P ops Q' l a w → wpAnyIn Fence.wide n P md ops Q' l.length listed a w
  | [], _, _, _, _, _, hB, h => ⟨by simpa [Region.seqB] using hB, h⟩
  | o :: l, k, listed, a, w, hl, hB, h => by
    have h0 : ops[k]? = some o := by simpa using (hl 0).symm
    simp only [List.length_cons, Region.seqB, Bool.and_eq_true, decide_eq_true_eq] at hB
    refine ⟨fun h1 => (by rw [hB.1] at h1; cases h1), fun i hi => ?_⟩
    rw [hB.1] at hi
    have hik : i = k := by simpa using hi
    subst hik
    have hw : wpOpIn Fence.wide n P ops Q' i (wpListIn Fence.wide n P ops Q' l) a w := by unfold wpOpIn; simp only [h0]; exact h
    exact wpOpIn_mono (fun a' w' h' => wpAnyInW_of_seq l (i + 1) _ a' w' (fun j => by have := hl (j + 1); simpa [Nat.add_assoc, Nat.add_comm 1 j] using this) hB.2 h') hw
theorem wpInW_region_still_tail {id : Nat} {Q : Exit → Act → World → Prop} {a : Act} {w : World} {l : List Oper} (m : Nat) (hm : P.follows .mixedOrders = true) (hB : Region.lexTailB .any l.toArray m = true)
    (h : wpStill P l.toArray { w with drawn := w.drawn + 1 } (fun a' => wpListIn Fence.wide n P l.toArray Q (l.drop m) a' { w with drawn := w.drawn + 1 }) (l.take m) a) : (Code.region id l.toArray true).wpIn Fence.wide n P Q a w := by
  simp only [Region.lexTailB, Bool.and_eq_true, decide_eq_true_eq] at hB
  obtain ⟨⟨⟨⟨hsel, hn⟩, hs⟩, hc⟩, hlex⟩ := hB
  have hn' : m < l.length := by simpa using hn
  have htl : (l.take m).length = m := by simp; omega
  have hdl : (l.drop m).length = l.toArray.size - m := by simp
  have inv0 : HeadInv .any l.toArray m (Array.replicate l.toArray.size false) :=
    ⟨by simp, fun j oj _ hl => (by rw [getD_replicate_false] at hl; cases hl), fun t _ ht => getD_in (by simpa using ht) (getD_replicate_false _ _)⟩
  have H := wpAnyL_lex (md := .any) (g := l.toArray.size - m) hsel hs hc hn (l.take m) 0 _ a (fun j hj => by
    have hj' : j < m := by rw [htl] at hj; exact hj
    simp [hj']) (by simpa using htl) inv0 (by rw [htl]; exact hlex) h
  refine wpIn_region_any hm ?_
  have := wpAnyInW_of_head (n := n) (Q' := Q) (g := l.toArray.size - m) (fun listed a' hL => by
    have := wpAnyInW_of_seq (n := n) (md := .any) (Q' := Q) (l.drop m) m listed a' { w with drawn := w.drawn + 1 } (fun j => by simp [List.getElem?_drop]) (by rw [hdl]; exact hL.1) hL.2
    rwa [hdl] at this) _ _ _ H
  rw [htl, show m + (l.toArray.size - m) = l.toArray.size by omega] at this
  exact this
end
end Go.Proofs.YtdnjdglekifhpaaGreat
namespace Go.Proofs.YtdnjdglekifhpaaGreat
open Go.RowKit Go.Shelf
attribute [local go_sem] Oper.semAt_some
set_option maxHeartbeats 400000 in
theorem pat_any (A : Option Addr) (l : List Nat) (c : Nat) (i : Nat) (w : World) (B : Nat) (hr : Reads w B 1 A l.length (us l)) (_ : l.length ≤ 9223372036854775807) :
    Calls Tryz.prog 235 #[.slice A l.length c, .int .i64 i] w fun e w' => e = .returned (.int .u64 (lat l i : Nat)) ∧ w = w' := by
  by_cases h : i < l.length
  · obtain ⟨ad, rfl, hb, hc⟩ := us_cell hr h
    go_enter Tryz.func235, Tryz.ntmps235
    go_wp2
    go_ret
    exact ⟨rfl, rfl⟩
  · rw [lat_ge (by omega)]
    go_enter Tryz.func235, Tryz.ntmps235
    go_wp2
    go_ret
    exact ⟨rfl, rfl⟩
set_option maxHeartbeats 400000 in
theorem pairs_in (n : Nat) (A B : Option Addr) (la lb ca cb : Nat) (w : World) :
    CallsIn Fence.wide n Tryz.prog 202 #[.slice A la ca, .slice B lb cb] w fun e w' => e = .returned (.func (.func 236) #[] #[.pointer (some ⟨w.heap.size, 0, none⟩), .pointer (some ⟨w.heap.size + 1, 0, none⟩), .pointer (some ⟨w.heap.size + 2, 0, none⟩)]) ∧
      w' = ((w.alloc (.cells #[.slice A la ca] 28)).alloc (.cells #[.slice B lb cb] 28)).alloc (.cells #[.func (.func 235) #[] #[]] 205) := by
  refine callsIn_wide.2 ?_
  have hmf : ∀ (fn : Fn) (first cap : Array Value) (w : World), (Instr.makeFunc fn first cap).run Tryz.prog w = .ok (.func fn first cap) w := fun _ _ _ _ => rfl
  go_enter Tryz.func202, Tryz.ntmps202
  go_wp2
  go_ret
  exact ⟨rfl, rfl⟩
abbrev Pair2 := { p : Nat × Nat // p.1 < W64 ∧ p.2 < W64 }
def pairsTo (a b : List Nat) (k : Nat) : List (Nat × Nat) := (List.range k).map fun j => (lat a j, lat b j)
theorem pairsTo_succ (a b : List Nat) (k : Nat) : pairsTo a b (k + 1) = pairsTo a b k ++ [(lat a k, lat b k)] := by simp [pairsTo, List.range_succ]
theorem pairsTo_length (a b : List Nat) (k : Nat) : (pairsTo a b k).length = k := by simp [pairsTo]
set_option maxRecDepth 100000 in
set_option maxHeartbeats 1000000 in
theorem pairs1_in (lr B0 n₀ ca cb : Nat) (A B : Option Addr) (a b : List Nat) (ha : a.length ≤ 9223372036854775807) (hb : b.length ≤ 9223372036854775807) (hba : Bd a) (hbb : Bd b) (J Jx : List Pair2 → World → Prop) (hJd : ∀ pre W, J pre W → J pre W.drew)
    (hY : ∀ pre x W, J pre W → pre.length < max a.length b.length → YieldAt Fence.wide (8 - 1) Tryz.prog lr #[.int .u64 (x.1.1 : Nat), .int .u64 (x.1.2 : Nat)] W fun e W' =>
      (e = .returned (.bool true) ∧ J (pre ++ [x]) W' ∧ KR n₀ B0 (B0 + 3) W W') ∨ (e = .returned (.bool false) ∧ Jx (pre ++ [x]) W'))
    (W : World) (h1 : W.cell? ⟨B0, 0, none⟩ = some (.slice A a.length ca)) (h2 : W.cell? ⟨B0 + 1, 0, none⟩ = some (.slice B b.length cb)) (h3 : W.cell? ⟨B0 + 2, 0, none⟩ = some (.func (.func 235) #[] #[])) 
    (hra : Reads W n₀ 1 A a.length (us a)) (hrb : Reads W n₀ 1 B b.length (us b)) (h0 : J [] W) :
    CallsIn Fence.wide 8 Tryz.prog 236 #[.func (.yield lr) #[] #[], .pointer (some ⟨B0, 0, none⟩), .pointer (some ⟨B0 + 1, 0, none⟩), .pointer (some ⟨B0 + 2, 0, none⟩)] W fun e W' => (∃ v, e = .returned v) ∧
      ((∃ ys : List Pair2, ys.map (·.1) = pairsTo a b (max a.length b.length) ∧ J ys W') ∨ (∃ pre : List Pair2, (∃ k, k ≤ max a.length b.length ∧ pre.map (·.1) = pairsTo a b k) ∧ Jx pre W')) := by
  have hmx : Tryz.prog.follows .mixedOrders = true := by kernel_rfl
  refine callsIn_of_wp Tryz.func236 rfl trivial ?_ rfl
  simp only [Tryz.ntmps236, List.size_toArray, List.length_cons, List.length_nil, Nat.reduceAdd, Nat.reduceSub, Array.replicate_succ, Array.replicate_zero, List.push_toArray, List.append_toArray, List.nil_append, List.cons_append]
  obtain ⟨m, hm⟩ : ∃ m, m = max a.length b.length := ⟨_, rfl⟩
  rw [← hm] at hY ⊢
  have hmax := fun t y W => run_max_nat (P := Tryz.prog) t y W a.length b.length
  rw [← hm] at hmax
  have hma : a.length ≤ m := by omega
  have hmb : b.length ≤ m := by omega
  have hmm : m ≤ 9223372036854775807 := by omega
  clear hm
  gi_wp2
  gi_loopw [11] (fun i wr => ∃ (k : Nat) (pre : List Pair2), k ≤ m ∧ i = .int .i64 k ∧ Hid (pre.map (·.1) = pairsTo a b k) ∧ J pre wr ∧ KR n₀ B0 (B0 + 3) W wr)
    (fun i _ => m - (intOf i).toNat)
  case atStart => exact ⟨0, [], Nat.zero_le _, by simp, Lib.hid rfl, h0, KR.refl _ _ _ _⟩
  case round =>
    obtain ⟨k, pre, hk, rfl, hpre, hJs, hnx⟩ := hrel
    by_cases hlt : k < m
    · obtain ⟨fn, tmps, assign, body, hy, hR⟩ := hY pre ⟨(lat a k, lat b k), hba.lat k, hbb.lat k⟩ wr.drew (hJd _ _ hJs) (by have := congrArg List.length hpre.out; rw [List.length_map, pairsTo_length] at this; omega)
      dsimp only at hy
      have g1 := (hnx.cell (by omega) (by omega)).trans h1
      have g2 := (hnx.cell (by omega) (by omega)).trans h2
      have g3 := (hnx.cell (by omega) (by omega)).trans h3
      obtain ⟨x, hx⟩ : ∃ x : Pair2, x = ⟨(lat a k, lat b k), hba.lat k, hbb.lat k⟩ := ⟨_, rfl⟩
      rw [← hx] at hR
      have hnew : Hid ((pre ++ [x]).map (·.1) = pairsTo a b (k + 1)) := by rw [Hid, List.map_append, hpre.out, pairsTo_succ, hx]; rfl
      clear hx
      have hR := hR.mono (R' := fun e W' => ∃ q : Bool, e = .returned (.bool q) ∧ Hid ((q = true ∧ J (pre ++ [x]) W' ∧ KR n₀ B0 (B0 + 3) wr.drew W') ∨ (q = false ∧ Jx (pre ++ [x]) W'))) (by
        rintro e W' (⟨rfl, h, h'⟩ | ⟨rfl, h⟩)
        · exact ⟨true, rfl, .inl ⟨rfl, h, h'⟩⟩
        · exact ⟨false, rfl, .inr ⟨rfl, h⟩⟩)
      have c1 := (pat_any A a ca k wr.drew n₀ (hra.below hnx.low).drew ha).mono (R' := fun e w' => e = .returned (.int .u64 (lat a k : Nat)) ∧ w' = wr.drew) (fun _ _ ⟨h, h'⟩ => ⟨h, h'.symm⟩)
      have c2 := (pat_any B b cb k wr.drew n₀ (hrb.below hnx.low).drew hb).mono (R' := fun e w' => e = .returned (.int .u64 (lat b k : Nat)) ∧ w' = wr.drew) (fun _ _ ⟨h, h'⟩ => ⟨h, h'.symm⟩)
      have C1 := Lib.hid c1
      have C2 := Lib.hid c2
      clear c1 c2
      gi_wp2
      refine wpInW_region_still_tail 9 hmx (by kernel_rfl) ?_
      simp only [List.take_succ_cons, List.take_zero, List.drop_succ_cons, List.drop_zero]
      iterate 4 still_step
      still_call C1.out
      iterate 3 still_step
      still_call C2.out
      refine wpStill_nil ?_
      gi_wp2_with fail
      refine hR.mono ?_
      rintro e W3 ⟨q, rfl, hq⟩
      cases q
      · rcases hq.out with ⟨h, _⟩ | ⟨_, hJx3⟩
        · cases h
        gi_wp2
        refine bodyPost_ret (results_none rfl _ _ _) rfl ?_
        exact ⟨⟨_, rfl⟩, .inr ⟨_, ⟨k + 1, by omega, hnew.out⟩, hJx3⟩⟩
      · rcases hq.out with ⟨_, hJ3, hk3⟩ | ⟨h, _⟩
        · gi_wp2
          exact ⟨⟨k + 1, _, by omega, by go_num, hnew, hJ3, hnx.drew.trans hk3⟩, by simp [intOf]; omega⟩
        · cases h
    · obtain rfl : k = m := by omega
      gi_wp2
      go_end0
      exact ⟨⟨_, rfl⟩, .inl ⟨_, hpre.out, hJs⟩⟩
theorem pairs_stops (B0 n₀ ca cb : Nat) (A B : Option Addr) (a b : List Nat) (ha : a.length ≤ 9223372036854775807) (hb : b.length ≤ 9223372036854775807) (hba : Bd a) (hbb : Bd b) (w : World) (hB : B0 + 2 < w.heap.size) (hn₀ : n₀ ≤ w.heap.size)
    (h1 : w.cell? ⟨B0, 0, none⟩ = some (.slice A a.length ca)) (h2 : w.cell? ⟨B0 + 1, 0, none⟩ = some (.slice B b.length cb)) (h3 : w.cell? ⟨B0 + 2, 0, none⟩ = some (.func (.func 235) #[] #[]))
    (hra : Reads w n₀ 1 A a.length (us a)) (hrb : Reads w n₀ 1 B b.length (us b)) :
    SeqStopsK Fence.wide 8 Tryz.prog 236 #[.pointer (some ⟨B0, 0, none⟩), .pointer (some ⟨B0 + 1, 0, none⟩), .pointer (some ⟨B0 + 2, 0, none⟩)] (fun x : Pair2 => #[Value.int .u64 (x.1.1 : Nat), Value.int .u64 (x.1.2 : Nat)]) (KR n₀ B0 (B0 + 3))
      (fun ys => ys.map (·.1) = pairsTo a b (max a.length b.length)) (fun pre => ∃ k, k ≤ max a.length b.length ∧ pre.map (·.1) = pairsTo a b k) (max a.length b.length) w := fun lr J Jx W hW hJ _ hY h0 =>
  pairs1_in lr B0 n₀ ca cb A B a b ha hb hba hbb J Jx (fun pre W h => hJ _ W W.drew none h (grownBy_drew W) (fun r e => by cases e)) hY W
    ((hW.cell (p := ⟨B0, 0, none⟩) (by simp; omega)).trans h1) ((hW.cell (p := ⟨B0 + 1, 0, none⟩) (by simp; omega)).trans h2) ((hW.cell (p := ⟨B0 + 2, 0, none⟩) (by simp; omega)).trans h3) (hra.below (hW.mono hn₀)) (hrb.below (hW.mono hn₀)) h0
end Go.Proofs.YtdnjdglekifhpaaGreat
