/- RIGHT: what is packed is right, as long, and of the kind; what is loaded of a right one has no number whose size is above Scale; packed of it again by Wide it is there as it is. No conditions: every input. Printed by gen_loads11.py. -/
import Derived.Test.YtgcebmgmmhdcpaaGreatBRight11
import Derived.Test.YtgcebmgmmhdcpaaGreatLaw11
namespace Go.Proofs.YtgcebmgmmhdcpaaGreat
open Go.ChangeShapes Go.WideShapes Go.ChangeAt Go.RowKit
set_option maxRecDepth 100000 in
theorem BlockRight_walk : LawWalk 5 Tryz.f5 := by
  intro W base args H enc ds p hval hA hlt hz
  rw [show Tryz.f5.params.toList = [3, 23] from rfl] at hA hz
  obtain ⟨vk, vl, dk, dl, pk, pl, rfl, rfl, rfl, hk, hl⟩ := trodAll_two hA
  obtain ⟨k, rfl, rfl, rfl, wk⟩ := open_int Tryz.underlying3 (hval 0 3 vk rfl rfl) hk
  have hz' : ∀ n ∈ DataW.weightsEach Tryz.prog [3, 23] [_, dl], n ≤ reachBytes := fun n hn => by
    have := List.all_eq_true.1 hz n hn
    simpa using this
  obtain ⟨l, iL, aL, _⟩ := open_i64w Tryz.underlying23 (hval 1 23 vl rfl rfl) hl (fun x hx => hlt x (by simp [hx])) (weights_at11 hz' (j := 1) rfl rfl)
  exact BlockRight_all vl k l W iL aL
set_option maxRecDepth 100000 in
/-- the given statement -/
theorem BlockRight_holds : Rows.BlockRightSaid :=
  OpenClaim.holds_of_wide 5 Tryz.f5 rfl rfl rfl rfl rfl rfl rfl ⟨rfl, rfl, rfl, rfl, rfl⟩ rfl rfl rfl rfl rfl (by kernel_rfl) Tryz.func5 (by kernel_rfl)
    (of_decide_eq_true (by kernel_rfl)) (by unfold Func.isWrapper; first | (rw [if_pos (by decide +kernel)]; kernel_rfl) | (rw [if_neg (by decide +kernel)]; exact ⟨rfl, rfl⟩))
    (fun os started H enc _ => law_lifted 5 Tryz.f5 Rows.blockRightSpec Rows.blockRightRow.domain rfl rfl rfl Tryz.func5 (by kernel_rfl) (by decide +kernel)
      (fun H ds h => by
        have h' : ds.length = 2 := h
        match ds, h' with
        | [_, _], _ => exact ⟨rfl, rfl, rfl⟩)
      (fun os _ H enc => ChangeSpec.witness6 (enc := enc) (C := Tryz.checked) false ⟨#[], #[.int .i64 0, .slice none 0 0], []⟩ 8 (by kernel_rfl) (by kernel_rfl) (by kernel_rfl) (by kernel_rfl))
      BlockRight_walk os started H enc)
end Go.Proofs.YtgcebmgmmhdcpaaGreat
