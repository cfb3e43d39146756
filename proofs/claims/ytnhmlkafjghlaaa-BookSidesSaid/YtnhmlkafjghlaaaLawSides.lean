/- SIDES: of a signed kind the other way round of each number is there, too. No conditions: every input. -/
import Derived.Test.YtnhmlkafjghlaaaLaw09c
import Derived.Deep.QuietTactic
import Derived.BigQuiet
import Derived.Outline
namespace Go.Proofs.Ytnhmlkafjghlaaa
open Go.ChangeShapes Go.WideShapes Go.ChangeAt Go.RowKit
theorem BookSides_walk : LawWalk 6 Try.f6 := by
  intro W base args H enc ds p hval hA hlt _
  rw [show Try.f6.params.toList = [3, 5] from rfl] at hA
  obtain ⟨vk, va, dk, da, pk, pa, rfl, rfl, rfl, hk, ha⟩ := trodAll_two hA
  obtain ⟨k, rfl, rfl, rfl, wk⟩ := open_int Try.underlying3 (hval 0 3 vk rfl rfl) hk
  obtain ⟨m, rfl, rfl, rfl, wm⟩ := open_int Try.underlying5 (hval 1 5 va rfl rfl) ha
  obtain ⟨h0, h1⟩ := wf_u8 wm
  obtain ⟨at_, rfl⟩ := Int.eq_ofNat_of_zero_le h0
  by_cases hk : 0 ≤ k ∧ k ≤ 3
  · obtain ⟨n, rfl⟩ := Int.eq_ofNat_of_zero_le hk.1
    have hn : n < 4 := by omega
    have hB := book_any n W
    rw [bkz_nat n hn, bke, if_pos (by omega)] at hB
    have hl := bk_len n hn
    have hi := bk_inb n hn
    obtain rfl | rfl | rfl | rfl : n = 0 ∨ n = 1 ∨ n = 2 ∨ n = 3 := by omega
    · by_cases h5 : at_ = 255
      · subst h5
        exact BookSides_signed 0 (bk 0) false 255 (by omega) W hl hi (sides0 255 (by omega)) (.inl ⟨rfl, rfl, rfl⟩) hB (signed_any 0)
      · exact BookSides_signed 0 (bk 0) true at_ (by omega) W hl hi (by rw [sides0 at_ (by omega)]; simpa using h5) (.inr (.inl ⟨rfl, h5, rfl⟩)) hB (signed_any 0)
    · exact BookSides_plain 1 (bk 1) at_ W hl hB (signed_any 1)
    · exact BookSides_signed 2 (bk 2) true at_ (by omega) W hl hi (sides2 at_ (by omega)) (.inr (.inr ⟨rfl, rfl⟩)) hB (signed_any 2)
    · exact BookSides_plain 3 (bk 3) at_ W hl hB (signed_any 3)
  · exact BookSides_none k at_ W hk
set_option maxRecDepth 100000 in
/-- the given statement -/
theorem BookSides_holds : Rows.BookSidesSaid :=
  OpenClaim.holds_of_wide 6 Try.f6 rfl rfl rfl rfl rfl rfl rfl ⟨rfl, rfl, rfl, rfl, rfl⟩ rfl rfl rfl rfl rfl (by kernel_rfl) Try.func6 (by kernel_rfl)
    (of_decide_eq_true (by kernel_rfl)) (by unfold Func.isWrapper; first | (rw [if_pos (by decide +kernel)]; kernel_rfl) | (rw [if_neg (by decide +kernel)]; exact ⟨rfl, rfl⟩))
    (fun os started H enc _ => law_lifted 6 Try.f6 Rows.bookSidesSpec Rows.bookSidesRow.domain rfl rfl rfl Try.func6 (by kernel_rfl) (by decide +kernel)
      (fun H ds h => by
        have h' : ds.length = 2 := h
        match ds, h' with
        | [_, _], _ => exact ⟨rfl, rfl, rfl⟩)
      (fun os _ H enc => ChangeSpec.witness6 (enc := enc) (C := Try.checked) false ⟨#[], #[.int .i64 0, .int .u8 0], []⟩ 8 (by kernel_rfl) (by kernel_rfl) (by kernel_rfl) (by kernel_rfl))
      BookSides_walk os started H enc)
end Go.Proofs.Ytnhmlkafjghlaaa
