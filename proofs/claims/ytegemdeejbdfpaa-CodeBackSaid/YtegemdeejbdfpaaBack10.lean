/- BACK: a code's own number, as a share of the denominator, or of some times that, has that code; numbers rise with codes. No conditions: every input. -/
import Derived.Test.YtegemdeejbdfpaaLaw10
import Derived.Test.YtegemdeejbdfpaaCodeP
import Derived.Test.YtegemdeejbdfpaaRef09
namespace Go.Proofs.Ytegemdeejbdfpaa
open Go.ChangeShapes Go.WideShapes Go.ChangeAt Go.RowKit
attribute [local go_sem ↓] Go.wp_at_zero Go.wp_at_succ
set_option maxHeartbeats 4000000 in
theorem CodeBack_kind (n : Nat) (hn : n < 4) (c m : Nat) (hc : c < 256) (hm : m < 65536) (w : World) :
    Calls Try.prog 6 #[.int .i64 n, .int .u8 c, .int .u16 m] w fun e w' => e = .returned (.bool true) ∧ Below w.heap.size w w' := by
  have hL := fun w => alive10_any w
  obtain ⟨j, hj⟩ : ∃ j, j = (if c = 0 then 255 else c - 1) := ⟨_, rfl⟩
  have hj1 : j < 256 := by rw [hj]; split <;> omega
  have h1 := fun w => num_any n c hc w
  have h2 := fun w => num_any n j hj1 w
  have hD := fun w => rden_any n w
  have hbe : bke n = 0 := if_pos (by omega)
  have hR := back_runs hn hc (K := (m : Int) + 1) (by omega)
  have hlt : c ≠ 0 → numOf n j < numOf n c := fun h0 => by
    unfold numOf
    rw [bkz_nat n hn, hj, if_neg h0]
    have := bk_lt hn (j := c - 1) (by omega)
    rwa [Nat.sub_add_cancel (by omega)] at this
  have hv : numOf n c = iat (bk n) c := by unfold numOf; rw [bkz_nat n hn]
  have hin := bk_in hn c
  rw [← hv] at hR hin
  obtain ⟨d0, d1⟩ := dens_pos hn
  have b1 : -(2560000000 * 65536) ≤ numOf n c * ((m : Int) + 1) := by
    have := Int.mul_le_mul_of_nonneg_right hin.1 (show (0 : Int) ≤ (m : Int) + 1 by omega)
    omega
  have b2 : numOf n c * ((m : Int) + 1) ≤ 2560000000 * 65536 := by
    have := Int.mul_le_mul_of_nonneg_right hin.2 (show (0 : Int) ≤ (m : Int) + 1 by omega)
    omega
  have b3 : 0 ≤ den (n : Nat) * ((m : Int) + 1) := Int.mul_nonneg (by omega) (by omega)
  have b4 : den (n : Nat) * ((m : Int) + 1) ≤ 2560000000 * 65536 := by
    have := Int.mul_le_mul_of_nonneg_right d1 (show (0 : Int) ≤ (m : Int) + 1 by omega)
    omega
  have h3 := fun w => near_any n (numOf n c * ((m : Int) + 1)) (den (n : Nat) * ((m : Int) + 1)) w (by unfold I64; omega) (by unfold I64; omega)
  rw [hR.1, hR.2] at h3
  rw [hbe] at h1 h2
  have w1 : IntKind.i64.wrap ((m : Int) + 1) = (m : Int) + 1 := by rw [IntKind.wrap_i64]; omega
  have w4 : IntKind.u8.wrap ((c : Int) - 1) = (j : Int) := by rw [IntKind.wrap_u8, hj]; split <;> omega
  have k0 : (0 : Int) ≤ (n : Int) := by omega
  have k1 : (n : Int) ≤ 3 := by omega
  clear hR hin d0 d1 hv hbe hn hj hj1
  have hcz : (c : Int) = 0 ∨ ¬ (c : Int) = 0 := by omega
  have HLT := Lib.hid hlt
  clear hlt
  generalize numOf n c = v at *
  generalize numOf n j = u at *
  generalize den (n : Nat) = D at *
  generalize hX : v * ((m : Int) + 1) = X at *
  generalize hY : D * ((m : Int) + 1) = Y at *
  have w2 : IntKind.i64.wrap (v * ((m : Int) + 1)) = X := by rw [hX, IntKind.wrap_i64]; omega
  have w3 : IntKind.i64.wrap (D * ((m : Int) + 1)) = Y := by rw [hY, IntKind.wrap_i64]; omega
  clear hX hY b1 b2 b3 b4
  have hB := Below.refl w.heap.size w
  go_enter Try.func6, Try.ntmps6
  go_wp2_with fail
  refine (h1 _).mono ?_
  rintro e w1 ⟨rfl, b1⟩
  replace hB := hB.trans (b1.mono hB.size)
  go_wp2_with fail
  refine (hD _).mono ?_
  rintro e w2 ⟨rfl, rfl⟩
  go_wp2_with fail
  refine (h3 _).mono ?_
  rintro e w3 ⟨rfl, b3⟩
  replace hB := hB.trans (b3.mono hB.size)
  go_wp2_with fail
  refine (h2 _).mono ?_
  rintro e w4 ⟨rfl, b4⟩
  replace hB := hB.trans (b4.mono hB.size)
  rcases hcz with hz | hz
  · have hc0 : c = 0 := by omega
    subst hc0
    go_wp2_with fail
    refine (hL _).mono ?_
    rintro e w5 ⟨rfl, b5⟩
    replace hB := hB.trans (b5.mono hB.size)
    go_wp2
    go_ret
    exact ⟨rfl, hB⟩
  · have hl := HLT.out (by omega)
    go_wp2_with fail
    refine (hL _).mono ?_
    rintro e w5 ⟨rfl, b5⟩
    replace hB := hB.trans (b5.mono hB.size)
    go_wp2
    go_ret
    exact ⟨rfl, hB⟩
set_option maxHeartbeats 2000000 in
theorem CodeBack_none (k : Int) (c m : Nat) (hc : c < 256) (hm : m < 65536) (w : World) (hk : ¬ (0 ≤ k ∧ k ≤ 3)) :
    Calls Try.prog 6 #[.int .i64 k, .int .u8 c, .int .u16 m] w fun e w' => e = .returned (.bool true) ∧ Below w.heap.size w w' := by
  have hL := fun w => alive10_any w
  have h1 := fun w => num_any k c hc w
  have e0 : numOf k c = 0 := by
    have : bkz k = [] := by unfold bkz; rw [if_neg (by omega), if_neg (by omega), if_neg (by omega), if_neg (by omega)]
    unfold numOf; rw [this]; rfl
  rw [e0, show bke k = 1 from if_neg hk] at h1
  clear e0
  have hB := Below.refl w.heap.size w
  rcases (show k < 0 ∨ 3 < k by omega) with h | h
  · clear hk
    go_enter Try.func6, Try.ntmps6
    go_wp2_with fail
    refine (h1 _).mono ?_
    rintro e w1 ⟨rfl, b1⟩
    replace hB := hB.trans (b1.mono hB.size)
    go_wp2_with fail
    refine (hL _).mono ?_
    rintro e w2 ⟨rfl, b2⟩
    replace hB := hB.trans (b2.mono hB.size)
    go_wp2
    go_ret
    exact ⟨rfl, hB⟩
  · have h4 : ¬ k < 0 := by omega
    clear hk
    go_enter Try.func6, Try.ntmps6
    go_wp2_with fail
    refine (h1 _).mono ?_
    rintro e w1 ⟨rfl, b1⟩
    replace hB := hB.trans (b1.mono hB.size)
    go_wp2_with fail
    refine (hL _).mono ?_
    rintro e w2 ⟨rfl, b2⟩
    replace hB := hB.trans (b2.mono hB.size)
    go_wp2
    go_ret
    exact ⟨rfl, hB⟩
set_option maxRecDepth 100000 in
theorem CodeBack_walk : LawWalk 6 Try.f6 := by
  intro W base args H enc ds p hval hA hlt _
  rw [show Try.f6.params.toList = [3, 5, 42] from rfl] at hA
  obtain ⟨vk, vc, vm, dk, dc, dm, pk, pc, pm, rfl, rfl, rfl, hk, hc, hm⟩ := trodAll_three hA
  obtain ⟨k, rfl, rfl, rfl, wk⟩ := open_int Try.underlying3 (hval 0 3 vk rfl rfl) hk
  obtain ⟨c, rfl, rfl, rfl, wc⟩ := open_int Try.underlying5 (hval 1 5 vc rfl rfl) hc
  obtain ⟨m, rfl, rfl, rfl, wm⟩ := open_int Try.underlying42 (hval 2 42 vm rfl rfl) hm
  obtain ⟨c0, c1⟩ := wf_U8 wc
  obtain ⟨m0, m1⟩ := wf_U16 wm
  obtain ⟨c, rfl⟩ := Int.eq_ofNat_of_zero_le c0
  obtain ⟨m, rfl⟩ := Int.eq_ofNat_of_zero_le m0
  by_cases h : 0 ≤ k ∧ k ≤ 3
  · obtain ⟨n, rfl⟩ := Int.eq_ofNat_of_zero_le h.1
    exact CodeBack_kind n (by omega) c m (by omega) (by omega) W
  · exact CodeBack_none k c m (by omega) (by omega) W h
set_option maxRecDepth 100000 in
/-- the given statement -/
theorem CodeBack_holds : Rows.CodeBackSaid :=
  OpenClaim.holds_of_wide 6 Try.f6 rfl rfl rfl rfl rfl rfl rfl ⟨rfl, rfl, rfl, rfl, rfl⟩ rfl rfl rfl rfl rfl (by kernel_rfl) Try.func6 (by kernel_rfl)
    (of_decide_eq_true (by kernel_rfl)) (by unfold Func.isWrapper; first | (rw [if_pos (by decide +kernel)]; kernel_rfl) | (rw [if_neg (by decide +kernel)]; exact ⟨rfl, rfl⟩))
    (fun os started H enc _ => law_lifted 6 Try.f6 Rows.codeBackSpec Rows.codeBackRow.domain rfl rfl rfl Try.func6 (by kernel_rfl) (by decide +kernel)
      (fun H ds h => by
        have h' : ds.length = 3 := h
        match ds, h' with
        | [_, _, _], _ => exact ⟨rfl, rfl, rfl⟩)
      (fun os _ H enc => ChangeSpec.witness6 (enc := enc) (C := Try.checked) false ⟨#[], #[.int .i64 0, .int .u8 0, .int .u16 0], []⟩ 8 (by kernel_rfl) (by kernel_rfl) (by kernel_rfl) (by kernel_rfl))
      CodeBack_walk os started H enc)
end Go.Proofs.Ytegemdeejbdfpaa
