/- RIGHT: what is kept is right, of that Keep, and has as many numbers; those of wide blocks are as they were; none is greater than the greatest there was. No conditions: every input. -/
import Derived.Test.YtochabikpaoalaaGreatRight14
import Derived.Test.YtochabikpaoalaaGreatLaw11
import Derived.Test.YtochabikpaoalaaGreatLawRow
namespace Go.Proofs.YtochabikpaoalaaGreat
open Go.ChangeShapes Go.WideShapes Go.ChangeAt Go.RowKit
set_option maxRecDepth 100000 in
theorem TensRight_walk : LawWalk 5 Tryz.f5 := by
  intro W base args H enc ds p hval hA hlt hz
  rw [show Tryz.f5.params.toList = [23, 34] from rfl] at hA hz
  obtain ⟨vk, vl, dk, dl, pk, pl, rfl, rfl, rfl, hk, hl⟩ := trodAll_two hA
  obtain ⟨k, z, m, o, rfl, _, _, _, _⟩ := open_keep (hval 0 23 vk rfl rfl) hk
  have hz' : ∀ n ∈ DataW.weightsEach Tryz.prog [23, 34] [dk, dl], n ≤ reachBytes := fun n hn => by
    have := List.all_eq_true.1 hz n hn
    simpa using this
  obtain ⟨l, iL, aL, _⟩ := open_i64w Tryz.underlying34 (hval 1 34 vl rfl rfl) hl (fun x hx => hlt x (by simp [hx])) (weights_at11 hz' (j := 1) rfl rfl)
  exact TensRight_all k z m o vl l W iL aL
set_option maxRecDepth 100000 in
/-- the given statement -/
theorem TensRight_holds : Rows.TensRightSaid :=
  OpenClaim.holds_of_wide 5 Tryz.f5 rfl rfl rfl rfl rfl rfl rfl ⟨rfl, rfl, rfl, rfl, rfl⟩ rfl rfl rfl rfl rfl (by kernel_rfl) Tryz.func5 (by kernel_rfl)
    (of_decide_eq_true (by kernel_rfl)) (by unfold Func.isWrapper; first | (rw [if_pos (by decide +kernel)]; kernel_rfl) | (rw [if_neg (by decide +kernel)]; exact ⟨rfl, rfl⟩))
    (fun os started H enc _ => law_lifted 5 Tryz.f5 Rows.tensRightSpec Rows.tensRightRow.domain rfl rfl rfl Tryz.func5 (by kernel_rfl) (by decide +kernel)
      (fun H ds h => by
        have h' : ds.length = 2 := h
        match ds, h' with
        | [_, _], _ => exact ⟨rfl, rfl, rfl⟩)
      (fun os _ H enc => ChangeSpec.witness6 (enc := enc) (C := Tryz.checked) false ⟨#[], #[.agg #[.int .i64 0, .int .i64 0, .int .i64 0, .int .i64 0], .slice none 0 0], []⟩ 8 (by kernel_rfl) (by kernel_rfl) (by kernel_rfl) (by kernel_rfl))
      TensRight_walk os started H enc)
end Go.Proofs.YtochabikpaoalaaGreat
