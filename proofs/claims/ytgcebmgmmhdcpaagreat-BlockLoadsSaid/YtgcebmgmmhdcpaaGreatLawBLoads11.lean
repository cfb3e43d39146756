/- A right block that is loaded has as many numbers as it says, none greater than Scale, whatever its side, none below 0, if its kind is not signed. No conditions: every input. Printed by gen_loads11.py. -/
import Derived.Test.YtgcebmgmmhdcpaaGreatBLoads11
import Derived.Test.YtgcebmgmmhdcpaaGreatLaw11
namespace Go.Proofs.YtgcebmgmmhdcpaaGreat
open Go.ChangeShapes Go.WideShapes Go.ChangeAt Go.RowKit
set_option maxRecDepth 100000 in
theorem BlockLoads_walk : LawWalk 6 Tryz.f6 := by
  intro W base args H enc ds p hval hA hlt hz
  rw [show Tryz.f6.params.toList = [25] from rfl] at hA hz
  obtain ⟨va, da, rfl, rfl, ha⟩ := trodAll_one hA
  have hz' : ∀ n ∈ DataW.weightsEach Tryz.prog [25] [da], n ≤ reachBytes := fun n hn => by
    have := List.all_eq_true.1 hz n hn
    simpa using this
  obtain ⟨k, s, cs, wd, h1, _, is, _, l1, l2⟩ := open_block (hval 0 25 va rfl rfl) ha hlt (weights_at11 hz' (j := 0) rfl rfl)
  exact BlockLoads_all va k s cs wd W h1 l1 l2 is
set_option maxRecDepth 100000 in
/-- the given statement -/
theorem BlockLoads_holds : Rows.BlockLoadsSaid :=
  OpenClaim.holds_of_wide 6 Tryz.f6 rfl rfl rfl rfl rfl rfl rfl ⟨rfl, rfl, rfl, rfl, rfl⟩ rfl rfl rfl rfl rfl (by kernel_rfl) Tryz.func6 (by kernel_rfl)
    (of_decide_eq_true (by kernel_rfl)) (by unfold Func.isWrapper; first | (rw [if_pos (by decide +kernel)]; kernel_rfl) | (rw [if_neg (by decide +kernel)]; exact ⟨rfl, rfl⟩))
    (fun os started H enc _ => law_lifted 6 Tryz.f6 Rows.blockLoadsSpec Rows.blockLoadsRow.domain rfl rfl rfl Tryz.func6 (by kernel_rfl) (by decide +kernel)
      (fun H ds h => by
        have h' : ds.length = 1 := h
        match ds, h' with
        | [_], _ => exact ⟨rfl, rfl, rfl⟩)
      (fun os _ H enc => ChangeSpec.witness6 (enc := enc) (C := Tryz.checked) false ⟨#[], #[.agg #[.int .i64 0, .int .i64 0, .slice none 0 0, .slice none 0 0]], []⟩ 8 (by kernel_rfl) (by kernel_rfl) (by kernel_rfl) (by kernel_rfl))
      BlockLoads_walk os started H enc)
end Go.Proofs.YtgcebmgmmhdcpaaGreat
