/- ORDER: a share that is no greater has no greater code, of one denominator. No conditions: every input. -/
import Derived.Test.YtegemdeejbdfpaaLaw10
import Derived.Test.YtegemdeejbdfpaaCodeP
namespace Go.Proofs.Ytegemdeejbdfpaa
open Go.ChangeShapes Go.WideShapes Go.ChangeAt Go.RowKit
attribute [local go_sem ↓] Go.wp_at_zero Go.wp_at_succ
set_option maxHeartbeats 4000000 in
theorem CodeOrder_all (k a b d : Int) (w : World) (ha : I64 a) (hb : I64 b) (hd : I64 d) :
    Calls Try.prog 5 #[.int .i64 k, .agg #[.int .i64 a, .int .i64 b, .int .i64 d]] w fun e w' => e = .returned (.bool true) ∧ Below w.heap.size w w' := by
  have hL := fun w => alive10_any w
  have h1 := fun w => near_any k a d w ha hd
  have h2 := fun w => near_any k b d w hb hd
  have h3 := fun w => near_any k d d w hd hd
  have hR := @order_runs k a b d
  have z1 := codeE_cases k a d
  have z2 := codeE_cases k b d
  generalize codeE k a d = e1 at *
  generalize codeE k b d = e2 at *
  generalize codeE k d d = e3 at *
  generalize codeOf k a d = c1 at *
  generalize codeOf k b d = c2 at *
  generalize codeOf k d d = c3 at *
  have HR := Lib.hid hR
  clear hR ha hb hd
  obtain ⟨W0, hW, hR, hB⟩ := box1 w 40 #[.int .i64 a, .int .i64 b, .int .i64 d]
  obtain ⟨g, hg⟩ : ∃ g, g = w.heap.size := ⟨_, rfl⟩
  have hW' := Lib.hid (And.intro hW hg)
  rw [← hg] at hR
  have hgw : w.heap.size ≤ g := by omega
  clear hW hg
  have hA := hR
  obtain ⟨c1_hA_0, c1_hA_1, c1_hA_2⟩ := hA.cells3
  go_enter Try.func5, Try.ntmps5
  go_upto_region 1 with fail
  rw [← hW'.out.1, ← hW'.out.2]
  go_region
  replace hB := hB.drew
  go_wp2_with fail
  refine (h1 _).mono ?_
  rintro e w1 ⟨rfl, b1⟩
  replace hB := hB.trans (b1.mono hB.size)
  clear c1_hA_0 c1_hA_1 c1_hA_2
  go_wp2_with fail
  refine (h2 _).mono ?_
  rintro e w2 ⟨rfl, b2⟩
  replace hB := hB.trans (b2.mono hB.size)
  rcases z1 with rfl | rfl
  · rcases z2 with rfl | rfl
    · by_cases hab : a ≤ b
      · obtain ⟨hc, he, h255⟩ := HR.out (by first | rfl | trivial) (by first | rfl | trivial) hab
        have hnl : ¬ b < a := by omega
        subst he h255
        have hcc : (c1 : Int) ≤ (c2 : Int) := by omega
        have HC := Lib.hid hcc
        go_wp2_with fail
        refine (h3 _).mono ?_
        rintro e w3 ⟨rfl, b3⟩
        replace hB := hB.trans (b3.mono hB.size)
        go_wp2_with fail
        refine (hL _).mono ?_
        rintro e w4 ⟨rfl, b4⟩
        replace hB := hB.trans (b4.mono hB.size)
        go_wp2
        go_ret
        exact ⟨rfl, hB⟩
      · have hlt : b < a := by omega
        go_wp2_with fail
        refine (hL _).mono ?_
        rintro e w3 ⟨rfl, b3⟩
        replace hB := hB.trans (b3.mono hB.size)
        go_wp2
        go_ret
        exact ⟨rfl, hB⟩
    · go_wp2_with fail
      refine (hL _).mono ?_
      rintro e w3 ⟨rfl, b3⟩
      replace hB := hB.trans (b3.mono hB.size)
      go_wp2
      go_ret
      exact ⟨rfl, hB⟩
  · go_wp2_with fail
    refine (hL _).mono ?_
    rintro e w3 ⟨rfl, b3⟩
    replace hB := hB.trans (b3.mono hB.size)
    go_wp2
    go_ret
    exact ⟨rfl, hB⟩
set_option maxRecDepth 100000 in
theorem CodeOrder_walk : LawWalk 5 Try.f5 := by
  intro W base args H enc ds p hval hA hlt _
  rw [show Try.f5.params.toList = [3, 40] from rfl] at hA
  obtain ⟨vk, va, dk, da, pk, pa, rfl, rfl, rfl, hk, ha⟩ := trodAll_two hA
  obtain ⟨k, rfl, rfl, rfl, wk⟩ := open_int Try.underlying3 (hval 0 3 vk rfl rfl) hk
  obtain ⟨a, b, d, rfl, i1, i2, i3⟩ := open_arr3 Try.underlying40 Try.underlying2 (by kernel_rfl) (by kernel_rfl) (hval 1 40 va rfl rfl) ha
  exact CodeOrder_all k a b d W i1 i2 i3
set_option maxRecDepth 100000 in
/-- the given statement -/
theorem CodeOrder_holds : Rows.CodeOrderSaid :=
  OpenClaim.holds_of_wide 5 Try.f5 rfl rfl rfl rfl rfl rfl rfl ⟨rfl, rfl, rfl, rfl, rfl⟩ rfl rfl rfl rfl rfl (by kernel_rfl) Try.func5 (by kernel_rfl)
    (of_decide_eq_true (by kernel_rfl)) (by unfold Func.isWrapper; first | (rw [if_pos (by decide +kernel)]; kernel_rfl) | (rw [if_neg (by decide +kernel)]; exact ⟨rfl, rfl⟩))
    (fun os started H enc _ => law_lifted 5 Try.f5 Rows.codeOrderSpec Rows.codeOrderRow.domain rfl rfl rfl Try.func5 (by kernel_rfl) (by decide +kernel)
      (fun H ds h => by
        have h' : ds.length = 2 := h
        match ds, h' with
        | [_, _], _ => exact ⟨rfl, rfl, rfl⟩)
      (fun os _ H enc => ChangeSpec.witness6 (enc := enc) (C := Try.checked) false ⟨#[], #[.int .i64 0, .agg #[.int .i64 0, .int .i64 0, .int .i64 0]], []⟩ 8 (by kernel_rfl) (by kernel_rfl) (by kernel_rfl) (by kernel_rfl))
      CodeOrder_walk os started H enc)
end Go.Proofs.Ytegemdeejbdfpaa
