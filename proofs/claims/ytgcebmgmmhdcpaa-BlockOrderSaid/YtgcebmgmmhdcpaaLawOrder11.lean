/- ORDER: of two numbers of one block that is packed the greater one has no lesser code, and is loaded as no less. No conditions: every input. Printed by gen_ord11.py. -/
import Derived.Test.YtgcebmgmmhdcpaaOrder11
import Derived.Test.YtgcebmgmmhdcpaaLaw11
namespace Go.Proofs.Ytgcebmgmmhdcpaa
open Go.ChangeShapes Go.WideShapes Go.ChangeAt Go.RowKit
set_option maxRecDepth 100000 in
theorem BlockOrder_walk : LawWalk 3 Try.f3 := by
  intro W base args H enc ds p hval hA hlt hz
  rw [show Try.f3.params.toList = [3, 22, 23] from rfl] at hA hz
  obtain ⟨vk, vl, va, dk, dl, da, pk, pl, pa, rfl, rfl, rfl, hk, hl, ha⟩ := trodAll_three hA
  obtain ⟨k, rfl, rfl, rfl, wk⟩ := open_int Try.underlying3 (hval 0 3 vk rfl rfl) hk
  have hz' : ∀ n ∈ DataW.weightsEach Try.prog [3, 22, 23] [_, dl, da], n ≤ reachBytes := fun n hn => by
    have := List.all_eq_true.1 hz n hn
    simpa using this
  obtain ⟨l, iL, aL, _⟩ := open_i64w Try.underlying22 (hval 1 22 vl rfl rfl) hl (fun x hx => hlt x (by simp [hx])) (weights_at11 hz' (j := 1) rfl rfl)
  obtain ⟨a, b, rfl, i1, i2⟩ := open_arr2 Try.underlying23 Try.underlying3 (by kernel_rfl) (by kernel_rfl) (hval 2 23 va rfl rfl) ha
  exact BlockOrder_all k vl l a b W iL aL
set_option maxRecDepth 100000 in
/-- the given statement -/
theorem BlockOrder_holds : Rows.BlockOrderSaid :=
  OpenClaim.holds_of_wide 3 Try.f3 rfl rfl rfl rfl rfl rfl rfl ⟨rfl, rfl, rfl, rfl, rfl⟩ rfl rfl rfl rfl rfl (by kernel_rfl) Try.func3 (by kernel_rfl)
    (of_decide_eq_true (by kernel_rfl)) (by unfold Func.isWrapper; first | (rw [if_pos (by decide +kernel)]; kernel_rfl) | (rw [if_neg (by decide +kernel)]; exact ⟨rfl, rfl⟩))
    (fun os started H enc _ => law_lifted 3 Try.f3 Rows.blockOrderSpec Rows.blockOrderRow.domain rfl rfl rfl Try.func3 (by kernel_rfl) (by decide +kernel)
      (fun H ds h => by
        have h' : ds.length = 3 := h
        match ds, h' with
        | [_, _, _], _ => exact ⟨rfl, rfl, rfl⟩)
      (fun os _ H enc => ChangeSpec.witness6 (enc := enc) (C := Try.checked) false ⟨#[], #[.int .i64 0, .slice none 0 0, .agg #[.int .i64 0, .int .i64 0]], []⟩ 8 (by kernel_rfl) (by kernel_rfl) (by kernel_rfl) (by kernel_rfl))
      BlockOrder_walk os started H enc)
end Go.Proofs.Ytgcebmgmmhdcpaa
