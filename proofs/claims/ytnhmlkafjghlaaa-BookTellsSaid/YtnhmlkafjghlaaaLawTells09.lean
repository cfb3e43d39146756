/- Each kind's numbers, denominator, gap, and whether it is signed, are as the document says. No conditions: every input. -/
import Derived.Test.YtnhmlkafjghlaaaRef09d
namespace Go.Proofs.Ytnhmlkafjghlaaa
open Go.ChangeShapes Go.WideShapes Go.ChangeAt Go.RowKit

set_option maxHeartbeats 2000000 in
theorem BookTells_all (k : Int) (w : World) : Calls Try.prog 3 #[.int .i64 k] w fun e w' => e = .returned (.bool true) ∧ Below w.heap.size w w' := by
  have hB := book_any k w
  have hR := fun w => rbook_any k w
  have hD := fun w => den_any k w
  have hD2 := fun w => rden_any k w
  have hG := fun w => gap_any k w
  have hG2 := fun w => rgap_any k w
  have hS := fun w => signed_any k w
  have hS2 := fun w => rsigned_any k w
  generalize bkz k = l at *
  generalize bke k = x at *
  generalize den k = d at *
  generalize gz k = g at *
  generalize sgn k = s at *
  go_enter Try.func3, Try.ntmps3
  go_wp2_with fail
  refine hB.mono ?_
  rintro e w1 ⟨v1, rfl, h1, b1⟩
  go_wp2_with fail
  refine (hR _).mono ?_
  rintro e w2 ⟨v2, rfl, h2, b2⟩
  have h1 := h1.below b2
  have b2 := b1.trans (b2.mono b1.size)
  clear b1
  go_wp2_with fail
  refine (alive09_any _).mono ?_
  rintro e w3 ⟨rfl, b3⟩
  have h1 := h1.below b3
  have h2 := h2.below b3
  have b3 := b2.trans (b3.mono b2.size)
  clear b2
  have hM := same_any v1 v2 l l w3 h1 h2
  rw [decide_eq_true rfl] at hM
  go_wp2_with fail
  refine hM.mono ?_
  rintro e w4 ⟨rfl, n, rfl⟩
  have b4 := below_drewN b3 n
  generalize w3.drewN n = w4 at *
  clear b3 hM h1 h2
  go_wp2_with fail
  refine (hD _).mono ?_
  rintro e w' ⟨rfl, rfl⟩
  go_wp2_with fail
  refine (hD2 _).mono ?_
  rintro e w' ⟨rfl, rfl⟩
  go_wp2_with fail
  refine (hG _).mono ?_
  rintro e w5 ⟨rfl, b5⟩
  have b5 := b4.trans (b5.mono b4.size)
  clear b4
  go_wp2_with fail
  refine (hG2 _).mono ?_
  rintro e w6 ⟨rfl, b6⟩
  have b6 := b5.trans (b6.mono b5.size)
  clear b5
  go_wp2_with fail
  refine (hS _).mono ?_
  rintro e w' ⟨rfl, rfl⟩
  go_wp2_with fail
  refine (hS2 _).mono ?_
  rintro e w' ⟨rfl, rfl⟩
  go_wp2
  go_ret
  exact ⟨ret_bool (by simp), b6⟩
theorem BookTells_walk : LawWalk 3 Try.f3 := by
  intro W base args H enc ds p hval hA hlt _
  rw [show Try.f3.params.toList = [3] from rfl] at hA
  obtain ⟨vk, dk, rfl, rfl, hk⟩ := trodAll_one hA
  obtain ⟨k, rfl, rfl, rfl, wk⟩ := open_int Try.underlying3 (hval 0 3 vk rfl rfl) hk
  exact BookTells_all k W
set_option maxRecDepth 100000 in
/-- the given statement -/
theorem BookTells_holds : Rows.BookTellsSaid :=
  OpenClaim.holds_of_wide 3 Try.f3 rfl rfl rfl rfl rfl rfl rfl ⟨rfl, rfl, rfl, rfl, rfl⟩ rfl rfl rfl rfl rfl (by kernel_rfl) Try.func3 (by kernel_rfl)
    (of_decide_eq_true (by kernel_rfl)) (by unfold Func.isWrapper; first | (rw [if_pos (by decide +kernel)]; kernel_rfl) | (rw [if_neg (by decide +kernel)]; exact ⟨rfl, rfl⟩))
    (fun os started H enc _ => law_lifted 3 Try.f3 Rows.bookTellsSpec Rows.bookTellsRow.domain rfl rfl rfl Try.func3 (by kernel_rfl) (by decide +kernel)
      (fun H ds h => by
        have h' : ds.length = 1 := h
        match ds, h' with
        | [_], _ => exact ⟨rfl, rfl, rfl⟩)
      (fun os _ H enc => ChangeSpec.witness6 (enc := enc) (C := Try.checked) false ⟨#[], #[.int .i64 0], []⟩ 8 (by kernel_rfl) (by kernel_rfl) (by kernel_rfl) (by kernel_rfl))
      BookTells_walk os started H enc)
end Go.Proofs.Ytnhmlkafjghlaaa
