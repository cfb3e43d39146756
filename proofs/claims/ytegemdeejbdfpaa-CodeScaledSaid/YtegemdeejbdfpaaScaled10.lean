/- A share has the code that it has, times whatever is above nought, above and below. No conditions: every input. -/
import Derived.Test.YtegemdeejbdfpaaLaw10
import Derived.Test.YtegemdeejbdfpaaCodeP
namespace Go.Proofs.Ytegemdeejbdfpaa
open Go.ChangeShapes Go.WideShapes Go.ChangeAt Go.RowKit
attribute [local go_sem ↓] Go.wp_at_zero Go.wp_at_succ
set_option maxHeartbeats 4000000 in
theorem CodeScaled_all (k num d : Int) (m : Nat) (hm : m < 65536) (w : World) (ha : I64 num) (hd : I64 d) :
    Calls Try.prog 7 #[.int .i64 k, .agg #[.int .i64 num, .int .i64 d], .int .u16 m] w fun e w' => e = .returned (.bool true) ∧ Below w.heap.size w w' := by
  have hL := fun w => alive10_any w
  have h1 := fun w => near_any k num d w ha hd
  have w1 : IntKind.i64.wrap ((m : Int) + 1) = (m : Int) + 1 := by rw [IntKind.wrap_i64]; omega
  by_cases q0 : 1099511627776 < d
  · clear h1 w1 ha hd
    obtain ⟨W0, hW, hR, hB⟩ := box1 w 22 #[.int .i64 num, .int .i64 d]
    obtain ⟨g, hg⟩ : ∃ g, g = w.heap.size := ⟨_, rfl⟩
    have hW' := Lib.hid (And.intro hW hg)
    rw [← hg] at hR
    have hgw : w.heap.size ≤ g := by omega
    clear hW hg
    have hA := hR
    obtain ⟨c1_hA_0, c1_hA_1⟩ := hA.cells2
    go_enter Try.func7, Try.ntmps7
    go_upto_region 1 with fail
    rw [← hW'.out.1, ← hW'.out.2]
    go_region
    replace hB := hB.drew
    go_wp2_with fail
    refine (hL _).mono ?_
    rintro e w1 ⟨rfl, b1⟩
    replace hB := hB.trans (b1.mono hB.size)
    clear c1_hA_0 c1_hA_1
    go_wp2
    go_ret
    exact ⟨rfl, hB⟩
  · skip
    by_cases q1 : num < -1099511627776
    · clear h1 w1 ha hd
      obtain ⟨W0, hW, hR, hB⟩ := box1 w 22 #[.int .i64 num, .int .i64 d]
      obtain ⟨g, hg⟩ : ∃ g, g = w.heap.size := ⟨_, rfl⟩
      have hW' := Lib.hid (And.intro hW hg)
      rw [← hg] at hR
      have hgw : w.heap.size ≤ g := by omega
      clear hW hg
      have hA := hR
      obtain ⟨c1_hA_0, c1_hA_1⟩ := hA.cells2
      go_enter Try.func7, Try.ntmps7
      go_upto_region 1 with fail
      rw [← hW'.out.1, ← hW'.out.2]
      go_region
      replace hB := hB.drew
      go_wp2_with fail
      refine (hL _).mono ?_
      rintro e w1 ⟨rfl, b1⟩
      replace hB := hB.trans (b1.mono hB.size)
      clear c1_hA_0 c1_hA_1
      go_wp2
      go_ret
      exact ⟨rfl, hB⟩
    · skip
      by_cases q2 : 1099511627776 < num
      · clear h1 w1 ha hd
        obtain ⟨W0, hW, hR, hB⟩ := box1 w 22 #[.int .i64 num, .int .i64 d]
        obtain ⟨g, hg⟩ : ∃ g, g = w.heap.size := ⟨_, rfl⟩
        have hW' := Lib.hid (And.intro hW hg)
        rw [← hg] at hR
        have hgw : w.heap.size ≤ g := by omega
        clear hW hg
        have hA := hR
        obtain ⟨c1_hA_0, c1_hA_1⟩ := hA.cells2
        go_enter Try.func7, Try.ntmps7
        go_upto_region 1 with fail
        rw [← hW'.out.1, ← hW'.out.2]
        go_region
        replace hB := hB.drew
        go_wp2_with fail
        refine (hL _).mono ?_
        rintro e w1 ⟨rfl, b1⟩
        replace hB := hB.trans (b1.mono hB.size)
        clear c1_hA_0 c1_hA_1
        go_wp2
        go_ret
        exact ⟨rfl, hB⟩
      · skip
        by_cases q3 : d < 1
        · clear h1 w1 ha hd
          obtain ⟨W0, hW, hR, hB⟩ := box1 w 22 #[.int .i64 num, .int .i64 d]
          obtain ⟨g, hg⟩ : ∃ g, g = w.heap.size := ⟨_, rfl⟩
          have hW' := Lib.hid (And.intro hW hg)
          rw [← hg] at hR
          have hgw : w.heap.size ≤ g := by omega
          clear hW hg
          have hA := hR
          obtain ⟨c1_hA_0, c1_hA_1⟩ := hA.cells2
          go_enter Try.func7, Try.ntmps7
          go_upto_region 1 with fail
          rw [← hW'.out.1, ← hW'.out.2]
          go_region
          replace hB := hB.drew
          go_wp2_with fail
          refine (hL _).mono ?_
          rintro e w1 ⟨rfl, b1⟩
          replace hB := hB.trans (b1.mono hB.size)
          clear c1_hA_0 c1_hA_1
          go_wp2
          go_ret
          exact ⟨rfl, hB⟩
        · skip
          have b1 : -(1099511627776 * 65536) ≤ num * ((m : Int) + 1) := by
            have := Int.mul_le_mul_of_nonneg_right (show -1099511627776 ≤ num by omega) (show (0 : Int) ≤ (m : Int) + 1 by omega)
            omega
          have b2 : num * ((m : Int) + 1) ≤ 1099511627776 * 65536 := by
            have := Int.mul_le_mul_of_nonneg_right (show num ≤ 1099511627776 by omega) (show (0 : Int) ≤ (m : Int) + 1 by omega)
            omega
          have b3 : 0 ≤ d * ((m : Int) + 1) := Int.mul_nonneg (by omega) (by omega)
          have b4 : d * ((m : Int) + 1) ≤ 1099511627776 * 65536 := by
            have := Int.mul_le_mul_of_nonneg_right (show d ≤ 1099511627776 by omega) (show (0 : Int) ≤ (m : Int) + 1 by omega)
            omega
          have h2 := fun w => near_any k (num * ((m : Int) + 1)) (d * ((m : Int) + 1)) w (by unfold I64; omega) (by unfold I64; omega)
          obtain ⟨r1, r2⟩ := scaled_runs k num d (K := (m : Int) + 1) (by omega)
          rw [r1, r2] at h2
          clear r1 r2 ha hd
          generalize hX : num * ((m : Int) + 1) = X at *
          generalize hY : d * ((m : Int) + 1) = Y at *
          have w2 : IntKind.i64.wrap (num * ((m : Int) + 1)) = X := by rw [hX, IntKind.wrap_i64]; omega
          have w3 : IntKind.i64.wrap (d * ((m : Int) + 1)) = Y := by rw [hY, IntKind.wrap_i64]; omega
          clear hX hY b1 b2 b3 b4
          generalize codeOf k num d = c1 at *
          generalize codeE k num d = e1 at *
          obtain ⟨W0, hW, hR, hB⟩ := box1 w 22 #[.int .i64 num, .int .i64 d]
          obtain ⟨g, hg⟩ : ∃ g, g = w.heap.size := ⟨_, rfl⟩
          have hW' := Lib.hid (And.intro hW hg)
          rw [← hg] at hR
          have hgw : w.heap.size ≤ g := by omega
          clear hW hg
          have hA := hR
          obtain ⟨c1_hA_0, c1_hA_1⟩ := hA.cells2
          go_enter Try.func7, Try.ntmps7
          go_upto_region 1 with fail
          rw [← hW'.out.1, ← hW'.out.2]
          go_region
          replace hB := hB.drew
          go_wp2_with fail
          refine (h1 _).mono ?_
          rintro e w1 ⟨rfl, b1⟩
          replace hB := hB.trans (b1.mono hB.size)
          clear c1_hA_0 c1_hA_1
          go_wp2_with fail
          refine (h2 _).mono ?_
          rintro e w2 ⟨rfl, b2⟩
          replace hB := hB.trans (b2.mono hB.size)
          go_wp2_with fail
          refine (hL _).mono ?_
          rintro e w3 ⟨rfl, b3⟩
          replace hB := hB.trans (b3.mono hB.size)
          go_wp2
          go_ret
          exact ⟨rfl, hB⟩
set_option maxRecDepth 100000 in
theorem CodeScaled_walk : LawWalk 7 Try.f7 := by
  intro W base args H enc ds p hval hA hlt _
  rw [show Try.f7.params.toList = [3, 22, 42] from rfl] at hA
  obtain ⟨vk, va, vm, dk, da, dm, pk, pa, pm, rfl, rfl, rfl, hk, ha, hm⟩ := trodAll_three hA
  obtain ⟨k, rfl, rfl, rfl, wk⟩ := open_int Try.underlying3 (hval 0 3 vk rfl rfl) hk
  obtain ⟨a, b, rfl, i1, i2⟩ := open_arr2 Try.underlying22 Try.underlying2 (by kernel_rfl) (by kernel_rfl) (hval 1 22 va rfl rfl) ha
  obtain ⟨m, rfl, rfl, rfl, wm⟩ := open_int Try.underlying42 (hval 2 42 vm rfl rfl) hm
  obtain ⟨m0, m1⟩ := wf_U16 wm
  obtain ⟨m, rfl⟩ := Int.eq_ofNat_of_zero_le m0
  exact CodeScaled_all k a b m (by omega) W i1 i2
set_option maxRecDepth 100000 in
/-- the given statement -/
theorem CodeScaled_holds : Rows.CodeScaledSaid :=
  OpenClaim.holds_of_wide 7 Try.f7 rfl rfl rfl rfl rfl rfl rfl ⟨rfl, rfl, rfl, rfl, rfl⟩ rfl rfl rfl rfl rfl (by kernel_rfl) Try.func7 (by kernel_rfl)
    (of_decide_eq_true (by kernel_rfl)) (by unfold Func.isWrapper; first | (rw [if_pos (by decide +kernel)]; kernel_rfl) | (rw [if_neg (by decide +kernel)]; exact ⟨rfl, rfl⟩))
    (fun os started H enc _ => law_lifted 7 Try.f7 Rows.codeScaledSpec Rows.codeScaledRow.domain rfl rfl rfl Try.func7 (by kernel_rfl) (by decide +kernel)
      (fun H ds h => by
        have h' : ds.length = 3 := h
        match ds, h' with
        | [_, _, _], _ => exact ⟨rfl, rfl, rfl⟩)
      (fun os _ H enc => ChangeSpec.witness6 (enc := enc) (C := Try.checked) false ⟨#[], #[.int .i64 0, .agg #[.int .i64 0, .int .i64 0], .int .u16 0], []⟩ 8 (by kernel_rfl) (by kernel_rfl) (by kernel_rfl) (by kernel_rfl))
      CodeScaled_walk os started H enc)
end Go.Proofs.Ytegemdeejbdfpaa
