/- A row, kept, or why it is not, is as the document says. No conditions: every input. -/
import Derived.Test.YtochabikpaoalaaGreatKeeps14
import Derived.Test.YtochabikpaoalaaGreatLaw11
import Derived.Test.YtochabikpaoalaaGreatLawRow
namespace Go.Proofs.YtochabikpaoalaaGreat
open Go.ChangeShapes Go.WideShapes Go.ChangeAt Go.RowKit
set_option maxRecDepth 100000 in
theorem TensKeeps_walk : LawWalk 4 Tryz.f4 := by
  intro W base args H enc ds p hval hA hlt hz
  rw [show Tryz.f4.params.toList = [23, 34] from rfl] at hA hz
  obtain ⟨vk, vl, dk, dl, pk, pl, rfl, rfl, rfl, hk, hl⟩ := trodAll_two hA
  obtain ⟨k, z, m, o, rfl, _, _, _, _⟩ := open_keep (hval 0 23 vk rfl rfl) hk
  have hz' : ∀ n ∈ DataW.weightsEach Tryz.prog [23, 34] [dk, dl], n ≤ reachBytes := fun n hn => by
    have := List.all_eq_true.1 hz n hn
    simpa using this
  obtain ⟨l, iL, aL, nL⟩ := open_i64w Tryz.underlying34 (hval 1 34 vl rfl rfl) hl (fun x hx => hlt x (by simp [hx])) (weights_at11 hz' (j := 1) rfl rfl)
  exact TensKeeps_all k z m o vl l W iL aL
set_option maxRecDepth 100000 in
/-- the given statement -/
theorem TensKeeps_holds : Rows.TensKeepsSaid :=
  OpenClaim.holds_of_wide 4 Tryz.f4 rfl rfl rfl rfl rfl rfl rfl ⟨rfl, rfl, rfl, rfl, rfl⟩ rfl rfl rfl rfl rfl (by kernel_rfl) Tryz.func4 (by kernel_rfl)
    (of_decide_eq_true (by kernel_rfl)) (by unfold Func.isWrapper; first | (rw [if_pos (by decide +kernel)]; kernel_rfl) | (rw [if_neg (by decide +kernel)]; exact ⟨rfl, rfl⟩))
    (fun os started H enc _ => law_lifted 4 Tryz.f4 Rows.tensKeepsSpec Rows.tensKeepsRow.domain rfl rfl rfl Tryz.func4 (by kernel_rfl) (by decide +kernel)
      (fun H ds h => by
        have h' : ds.length = 2 := h
        match ds, h' with
        | [_, _], _ => exact ⟨rfl, rfl, rfl⟩)
      (fun os _ H enc => ChangeSpec.witness6 (enc := enc) (C := Tryz.checked) false ⟨#[], #[.agg #[.int .i64 0, .int .i64 0, .int .i64 0, .int .i64 0], .slice none 0 0], []⟩ 8 (by kernel_rfl) (by kernel_rfl) (by kernel_rfl) (by kernel_rfl))
      TensKeeps_walk os started H enc)
end Go.Proofs.YtochabikpaoalaaGreat
