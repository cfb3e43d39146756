/- RISING: each kind has 256 numbers, rising. No conditions: every input. -/
import Derived.Test.YtnhmlkafjghlaaaLaw09b
import Derived.Deep.QuietTactic
import Derived.BigQuiet
import Derived.Outline
namespace Go.Proofs.Ytnhmlkafjghlaaa
open Go.ChangeShapes Go.WideShapes Go.ChangeAt Go.RowKit
theorem BookRises_walk : LawWalk 4 Try.f4 := by
  intro W base args H enc ds p hval hA hlt _
  rw [show Try.f4.params.toList = [3, 5] from rfl] at hA
  obtain ⟨vk, va, dk, da, pk, pa, rfl, rfl, rfl, hk, ha⟩ := trodAll_two hA
  obtain ⟨k, rfl, rfl, rfl, wk⟩ := open_int Try.underlying3 (hval 0 3 vk rfl rfl) hk
  obtain ⟨m, rfl, rfl, rfl, wm⟩ := open_int Try.underlying5 (hval 1 5 va rfl rfl) ha
  obtain ⟨h0, h1⟩ := wf_u8 wm
  obtain ⟨at_, rfl⟩ := Int.eq_ofNat_of_zero_le h0
  by_cases hk : 0 ≤ k ∧ k ≤ 3
  · obtain ⟨n, rfl⟩ := Int.eq_ofNat_of_zero_le hk.1
    have hn : n < 4 := by omega
    have hB := book_any n W
    rw [bkz_nat n hn, bke, if_pos (by omega)] at hB
    refine BookRises_some n (bk n) (den n) (sgn n) (n != 2) at_ (by omega) W (bk_len n hn) (at255 n hn) (noughts n hn) ?_ ?_ (rises_at n hn at_ (by omega)) hB (den_any n) (signed_any n)
    · rw [Bool.eq_iff_iff]; simp; omega
    · have := firsts n hn
      cases h : sgn (n : Nat) <;> rw [h] at this <;> simpa using this
  · exact BookRises_none k at_ W hk
set_option maxRecDepth 100000 in
/-- the given statement -/
theorem BookRises_holds : Rows.BookRisesSaid :=
  OpenClaim.holds_of_wide 4 Try.f4 rfl rfl rfl rfl rfl rfl rfl ⟨rfl, rfl, rfl, rfl, rfl⟩ rfl rfl rfl rfl rfl (by kernel_rfl) Try.func4 (by kernel_rfl)
    (of_decide_eq_true (by kernel_rfl)) (by unfold Func.isWrapper; first | (rw [if_pos (by decide +kernel)]; kernel_rfl) | (rw [if_neg (by decide +kernel)]; exact ⟨rfl, rfl⟩))
    (fun os started H enc _ => law_lifted 4 Try.f4 Rows.bookRisesSpec Rows.bookRisesRow.domain rfl rfl rfl Try.func4 (by kernel_rfl) (by decide +kernel)
      (fun H ds h => by
        have h' : ds.length = 2 := h
        match ds, h' with
        | [_, _], _ => exact ⟨rfl, rfl, rfl⟩)
      (fun os _ H enc => ChangeSpec.witness6 (enc := enc) (C := Try.checked) false ⟨#[], #[.int .i64 0, .int .u8 0], []⟩ 8 (by kernel_rfl) (by kernel_rfl) (by kernel_rfl) (by kernel_rfl))
      BookRises_walk os started H enc)
end Go.Proofs.Ytnhmlkafjghlaaa
