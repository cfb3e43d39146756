/- Of Line and ULine, with a Scale of at least 255, what is loaded, and packed again, is the same block: it is kept without more loss. No conditions: every input. Printed by gen_twice11.py. -/
import Derived.Test.YtgcebmgmmhdcpaaTwice11
import Derived.Test.YtgcebmgmmhdcpaaLaw11
namespace Go.Proofs.Ytgcebmgmmhdcpaa
open Go.ChangeShapes Go.WideShapes Go.ChangeAt Go.RowKit
set_option maxRecDepth 100000 in
theorem BlockTwice_walk : LawWalk 4 Try.f4 := by
  intro W base args H enc ds p hval hA hlt hz
  rw [show Try.f4.params.toList = [3, 22] from rfl] at hA hz
  obtain ⟨vk, vl, dk, dl, pk, pl, rfl, rfl, rfl, hk, hl⟩ := trodAll_two hA
  obtain ⟨k, rfl, rfl, rfl, wk⟩ := open_int Try.underlying3 (hval 0 3 vk rfl rfl) hk
  have hz' : ∀ n ∈ DataW.weightsEach Try.prog [3, 22] [_, dl], n ≤ reachBytes := fun n hn => by
    have := List.all_eq_true.1 hz n hn
    simpa using this
  obtain ⟨l, iL, aL, _⟩ := open_i64w Try.underlying22 (hval 1 22 vl rfl rfl) hl (fun x hx => hlt x (by simp [hx])) (weights_at11 hz' (j := 1) rfl rfl)
  exact BlockTwice_all k vl l W iL aL
set_option maxRecDepth 100000 in
/-- the given statement -/
theorem BlockTwice_holds : Rows.BlockTwiceSaid :=
  OpenClaim.holds_of_wide 4 Try.f4 rfl rfl rfl rfl rfl rfl rfl ⟨rfl, rfl, rfl, rfl, rfl⟩ rfl rfl rfl rfl rfl (by kernel_rfl) Try.func4 (by kernel_rfl)
    (of_decide_eq_true (by kernel_rfl)) (by unfold Func.isWrapper; first | (rw [if_pos (by decide +kernel)]; kernel_rfl) | (rw [if_neg (by decide +kernel)]; exact ⟨rfl, rfl⟩))
    (fun os started H enc _ => law_lifted 4 Try.f4 Rows.blockTwiceSpec Rows.blockTwiceRow.domain rfl rfl rfl Try.func4 (by kernel_rfl) (by decide +kernel)
      (fun H ds h => by
        have h' : ds.length = 2 := h
        match ds, h' with
        | [_, _], _ => exact ⟨rfl, rfl, rfl⟩)
      (fun os _ H enc => ChangeSpec.witness6 (enc := enc) (C := Try.checked) false ⟨#[], #[.int .i64 0, .slice none 0 0], []⟩ 8 (by kernel_rfl) (by kernel_rfl) (by kernel_rfl) (by kernel_rfl))
      BlockTwice_walk os started H enc)
end Go.Proofs.Ytgcebmgmmhdcpaa
