/- COST: where no block is wide the cost is at most as many as there are numbers, and 8 for each Size of them, or part; else at most 8 for each, and 8 for each block. No conditions: every input. -/
import Derived.Test.YtochabikpaoalaaCost14
import Derived.Test.YtochabikpaoalaaLaw11
import Derived.Test.YtochabikpaoalaaLawRow
namespace Go.Proofs.Ytochabikpaoalaa
open Go.ChangeShapes Go.WideShapes Go.ChangeAt Go.RowKit
set_option maxRecDepth 100000 in
theorem TensCost_walk : LawWalk 3 Try.f3 := by
  intro W base args H enc ds p hval hA hlt hz
  rw [show Try.f3.params.toList = [23, 24] from rfl] at hA hz
  obtain ⟨vk, vl, dk, dl, pk, pl, rfl, rfl, rfl, hk, hl⟩ := trodAll_two hA
  obtain ⟨k, z, m, o, rfl, _, _, _, _⟩ := open_keep (hval 0 23 vk rfl rfl) hk
  have hz' : ∀ n ∈ DataW.weightsEach Try.prog [23, 24] [dk, dl], n ≤ reachBytes := fun n hn => by
    have := List.all_eq_true.1 hz n hn
    simpa using this
  obtain ⟨l, iL, aL, _⟩ := open_i64w Try.underlying24 (hval 1 24 vl rfl rfl) hl (fun x hx => hlt x (by simp [hx])) (weights_at11 hz' (j := 1) rfl rfl)
  exact TensCost_all k z m o vl l W iL aL
set_option maxRecDepth 100000 in
/-- the given statement -/
theorem TensCost_holds : Rows.TensCostSaid :=
  OpenClaim.holds_of_wide 3 Try.f3 rfl rfl rfl rfl rfl rfl rfl ⟨rfl, rfl, rfl, rfl, rfl⟩ rfl rfl rfl rfl rfl (by kernel_rfl) Try.func3 (by kernel_rfl)
    (of_decide_eq_true (by kernel_rfl)) (by unfold Func.isWrapper; first | (rw [if_pos (by decide +kernel)]; kernel_rfl) | (rw [if_neg (by decide +kernel)]; exact ⟨rfl, rfl⟩))
    (fun os started H enc _ => law_lifted 3 Try.f3 Rows.tensCostSpec Rows.tensCostRow.domain rfl rfl rfl Try.func3 (by kernel_rfl) (by decide +kernel)
      (fun H ds h => by
        have h' : ds.length = 2 := h
        match ds, h' with
        | [_, _], _ => exact ⟨rfl, rfl, rfl⟩)
      (fun os _ H enc => ChangeSpec.witness6 (enc := enc) (C := Try.checked) false ⟨#[], #[.agg #[.int .i64 0, .int .i64 0, .int .i64 0, .int .i64 0], .slice none 0 0], []⟩ 8 (by kernel_rfl) (by kernel_rfl) (by kernel_rfl) (by kernel_rfl))
      TensCost_walk os started H enc)
end Go.Proofs.Ytochabikpaoalaa
