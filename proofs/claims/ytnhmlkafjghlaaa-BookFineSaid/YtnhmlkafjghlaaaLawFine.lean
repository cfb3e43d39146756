/- FINE: of lines all gaps are alike; of trees none is more than ten times as great as the next one. No conditions: every input. -/
import Derived.Test.YtnhmlkafjghlaaaLaw09e
import Derived.Deep.QuietTactic
import Derived.BigQuiet
import Derived.Outline
namespace Go.Proofs.Ytnhmlkafjghlaaa
open Go.ChangeShapes Go.WideShapes Go.ChangeAt Go.RowKit
theorem BookFine_walk : LawWalk 7 Try.f7 := by
  intro W base args H enc ds p hval hA hlt _
  rw [show Try.f7.params.toList = [3, 5] from rfl] at hA
  obtain ⟨vk, va, dk, da, pk, pa, rfl, rfl, rfl, hk, ha⟩ := trodAll_two hA
  obtain ⟨k, rfl, rfl, rfl, wk⟩ := open_int Try.underlying3 (hval 0 3 vk rfl rfl) hk
  obtain ⟨m, rfl, rfl, rfl, wm⟩ := open_int Try.underlying5 (hval 1 5 va rfl rfl) ha
  obtain ⟨h0, h1⟩ := wf_u8 wm
  obtain ⟨at_, rfl⟩ := Int.eq_ofNat_of_zero_le h0
  by_cases hk : 0 ≤ k ∧ k ≤ 3
  · obtain ⟨n, rfl⟩ := Int.eq_ofNat_of_zero_le hk.1
    have hn : n < 4 := by omega
    have hB := book_any n W
    rw [bkz_nat n hn, bke, if_pos (by omega)] at hB
    by_cases he : at_ = 0 ∨ at_ = 255
    · exact BookFine_end n (bk n) at_ W (bk_len n hn) he hB
    · obtain ⟨j, rfl⟩ : ∃ j, at_ = j + 1 := ⟨at_ - 1, by omega⟩
      have ok := fine_ok n hn
      simp only [fineOK, List.all_eq_true, List.mem_range] at ok
      have ok := ok j (by omega)
      refine BookFine_mid n (bk n) (gz n) j (by omega) W (bk_len n hn) (bk_inb n hn) ?_ hB (gap_any n)
      by_cases h2 : n = 2 ∨ n = 3
      · rw [if_pos h2] at ok
        exact .inl ⟨by omega, by simpa using ok⟩
      · rw [if_neg h2] at ok
        simp only [Bool.and_eq_true, decide_eq_true_eq] at ok
        exact .inr ⟨by omega, ok.1.1.1.1, ok.1.1.1.2, ok.1.1.2, ok.1.2, ok.2⟩
  · exact BookFine_none k at_ W hk
set_option maxRecDepth 100000 in
/-- the given statement -/
theorem BookFine_holds : Rows.BookFineSaid :=
  OpenClaim.holds_of_wide 7 Try.f7 rfl rfl rfl rfl rfl rfl rfl ⟨rfl, rfl, rfl, rfl, rfl⟩ rfl rfl rfl rfl rfl (by kernel_rfl) Try.func7 (by kernel_rfl)
    (of_decide_eq_true (by kernel_rfl)) (by unfold Func.isWrapper; first | (rw [if_pos (by decide +kernel)]; kernel_rfl) | (rw [if_neg (by decide +kernel)]; exact ⟨rfl, rfl⟩))
    (fun os started H enc _ => law_lifted 7 Try.f7 Rows.bookFineSpec Rows.bookFineRow.domain rfl rfl rfl Try.func7 (by kernel_rfl) (by decide +kernel)
      (fun H ds h => by
        have h' : ds.length = 2 := h
        match ds, h' with
        | [_, _], _ => exact ⟨rfl, rfl, rfl⟩)
      (fun os _ H enc => ChangeSpec.witness6 (enc := enc) (C := Try.checked) false ⟨#[], #[.int .i64 0, .int .u8 0], []⟩ 8 (by kernel_rfl) (by kernel_rfl) (by kernel_rfl) (by kernel_rfl))
      BookFine_walk os started H enc)
end Go.Proofs.Ytnhmlkafjghlaaa
