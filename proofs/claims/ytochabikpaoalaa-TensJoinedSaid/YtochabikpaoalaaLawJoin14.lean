/- Two rows, the first one of whole blocks, kept one behind the other, are the blocks of both, if none of the three is short. No conditions: every input. -/
import Derived.Test.YtochabikpaoalaaJoin14m
import Derived.Test.YtochabikpaoalaaLaw11
import Derived.Test.YtochabikpaoalaaLawRow
namespace Go.Proofs.Ytochabikpaoalaa
open Go.ChangeShapes Go.WideShapes Go.ChangeAt Go.RowKit
set_option maxRecDepth 100000 in
theorem TensJoined_walk : LawWalk 5 Try.f5 := by
  intro W base args H enc ds p hval hA hlt hz
  rw [show Try.f5.params.toList = [23, 24, 24] from rfl] at hA hz
  obtain ⟨vk, vl, va, dk, dl, da, pk, pl, pa, rfl, rfl, rfl, hk, hl, ha⟩ := trodAll_three hA
  obtain ⟨k, z, m, o, rfl, _, _, _, _⟩ := open_keep (hval 0 23 vk rfl rfl) hk
  have hz' : ∀ n ∈ DataW.weightsEach Try.prog [23, 24, 24] [dk, dl, da], n ≤ reachBytes := fun n hn => by
    have := List.all_eq_true.1 hz n hn
    simpa using this
  obtain ⟨l, iL, aL, nL⟩ := open_i64w Try.underlying24 (hval 1 24 vl rfl rfl) hl (fun x hx => hlt x (by simp [hx])) (weights_at11 hz' (j := 1) rfl rfl)
  obtain ⟨l', iL', aL', nL'⟩ := open_i64w Try.underlying24 (hval 2 24 va rfl rfl) ha (fun x hx => hlt x (by simp [hx])) (weights_at11 hz' (j := 2) rfl rfl)
  exact TensJoined_all k z m o vl va l l' W iL iL' aL aL' nL nL'
set_option maxRecDepth 100000 in
/-- the given statement -/
theorem TensJoined_holds : Rows.TensJoinedSaid :=
  OpenClaim.holds_of_wide 5 Try.f5 rfl rfl rfl rfl rfl rfl rfl ⟨rfl, rfl, rfl, rfl, rfl⟩ rfl rfl rfl rfl rfl (by kernel_rfl) Try.func5 (by kernel_rfl)
    (of_decide_eq_true (by kernel_rfl)) (by unfold Func.isWrapper; first | (rw [if_pos (by decide +kernel)]; kernel_rfl) | (rw [if_neg (by decide +kernel)]; exact ⟨rfl, rfl⟩))
    (fun os started H enc _ => law_lifted 5 Try.f5 Rows.tensJoinedSpec Rows.tensJoinedRow.domain rfl rfl rfl Try.func5 (by kernel_rfl) (by decide +kernel)
      (fun H ds h => by
        have h' : ds.length = 3 := h
        match ds, h' with
        | [_, _, _], _ => exact ⟨rfl, rfl, rfl⟩)
      (fun os _ H enc => ChangeSpec.witness6 (enc := enc) (C := Try.checked) false ⟨#[], #[.agg #[.int .i64 0, .int .i64 0, .int .i64 0, .int .i64 0], .slice none 0 0, .slice none 0 0], []⟩ 8 (by kernel_rfl) (by kernel_rfl) (by kernel_rfl) (by kernel_rfl))
      TensJoined_walk os started H enc)
end Go.Proofs.Ytochabikpaoalaa
