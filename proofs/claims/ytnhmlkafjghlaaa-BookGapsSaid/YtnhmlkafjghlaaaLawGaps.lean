/- GAPS: no two numbers that stand side by side are farther apart than the gap, some are as far. No conditions: every input. -/
import Derived.Test.YtnhmlkafjghlaaaLaw09d
import Derived.Deep.QuietTactic
import Derived.BigQuiet
import Derived.Outline
namespace Go.Proofs.Ytnhmlkafjghlaaa
open Go.ChangeShapes Go.WideShapes Go.ChangeAt Go.RowKit
theorem BookGaps_walk : LawWalk 5 Try.f5 := by
  intro W base args H enc ds p hval hA hlt _
  rw [show Try.f5.params.toList = [3] from rfl] at hA
  obtain ⟨vk, dk, rfl, rfl, hk⟩ := trodAll_one hA
  obtain ⟨k, rfl, rfl, rfl, wk⟩ := open_int Try.underlying3 (hval 0 3 vk rfl rfl) hk
  by_cases hk : 0 ≤ k ∧ k ≤ 3
  · obtain ⟨n, rfl⟩ := Int.eq_ofNat_of_zero_le hk.1
    have hn : n < 4 := by omega
    have hB := book_any n W
    rw [bkz_nat n hn, bke, if_pos (by omega)] at hB
    have ok := gaps_ok n hn
    simp only [gapsOK, Bool.and_eq_true, List.all_eq_true, decide_eq_true_eq, List.mem_range] at ok
    obtain ⟨⟨⟨o1, o2⟩, o3, o4⟩, o5, o6⟩ := ok
    have hd : 0 ≤ den (n : Nat) ∧ den (n : Nat) ≤ 2560000000 := by
      obtain rfl | rfl | rfl | rfl : n = 0 ∨ n = 1 ∨ n = 2 ∨ n = 3 := by omega
      all_goals decide
    exact BookGaps_some n (bk n) (sgn n) (den n) (gz n) W (bk_len n hn) (bk_inb n hn) o3 o4 hd.1 hd.2 o2 o1 o5 o6 hB (gap_any n) (den_any n) (signed_any n)
  · exact BookGaps_none k W hk
set_option maxRecDepth 100000 in
/-- the given statement -/
theorem BookGaps_holds : Rows.BookGapsSaid :=
  OpenClaim.holds_of_wide 5 Try.f5 rfl rfl rfl rfl rfl rfl rfl ⟨rfl, rfl, rfl, rfl, rfl⟩ rfl rfl rfl rfl rfl (by kernel_rfl) Try.func5 (by kernel_rfl)
    (of_decide_eq_true (by kernel_rfl)) (by unfold Func.isWrapper; first | (rw [if_pos (by decide +kernel)]; kernel_rfl) | (rw [if_neg (by decide +kernel)]; exact ⟨rfl, rfl⟩))
    (fun os started H enc _ => law_lifted 5 Try.f5 Rows.bookGapsSpec Rows.bookGapsRow.domain rfl rfl rfl Try.func5 (by kernel_rfl) (by decide +kernel)
      (fun H ds h => by
        have h' : ds.length = 1 := h
        match ds, h' with
        | [_], _ => exact ⟨rfl, rfl, rfl⟩)
      (fun os _ H enc => ChangeSpec.witness6 (enc := enc) (C := Try.checked) false ⟨#[], #[.int .i64 0], []⟩ 8 (by kernel_rfl) (by kernel_rfl) (by kernel_rfl) (by kernel_rfl))
      BookGaps_walk os started H enc)
end Go.Proofs.Ytnhmlkafjghlaaa
