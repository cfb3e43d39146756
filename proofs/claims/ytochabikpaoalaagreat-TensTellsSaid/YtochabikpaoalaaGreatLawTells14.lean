/- Which Keeps and Stores are right, which are the same, what one costs, and its numbers, are as the document says. No conditions: every input. -/
import Derived.Test.YtochabikpaoalaaGreatRef14t
import Derived.Test.YtochabikpaoalaaGreatLaw11
import Derived.Test.YtochabikpaoalaaGreatLawRow
namespace Go.Proofs.YtochabikpaoalaaGreat
open Go.ChangeShapes Go.WideShapes Go.ChangeAt Go.RowKit
set_option maxRecDepth 100000 in
theorem TensTells_walk : LawWalk 3 Tryz.f3 := by
  intro W base args H enc ds p hval hA hlt hz
  rw [show Tryz.f3.params.toList = [26, 26] from rfl] at hA hz
  obtain ⟨va, vb, da, db, pa, pb, rfl, rfl, rfl, ha, hb⟩ := trodAll_two hA
  have hz' : ∀ n ∈ DataW.weightsEach Tryz.prog [26, 26] [da, db], n ≤ reachBytes := fun n hn => by
    have := List.all_eq_true.1 hz n hn
    simpa using this
  obtain ⟨s, hs, _, hin⟩ := open_store (hval 0 26 va rfl rfl) ha (fun x hx => hlt x (by simp [hx])) (weights_at11 hz' (j := 0) rfl rfl)
  obtain ⟨s', hs', _, hin'⟩ := open_store (hval 1 26 vb rfl rfl) hb (fun x hx => hlt x (by simp [hx])) (weights_at11 hz' (j := 1) rfl rfl)
  exact TensTells_all va vb s s' W hs hs' hin hin'
set_option maxRecDepth 100000 in
/-- the given statement -/
theorem TensTells_holds : Rows.TensTellsSaid :=
  OpenClaim.holds_of_wide 3 Tryz.f3 rfl rfl rfl rfl rfl rfl rfl ⟨rfl, rfl, rfl, rfl, rfl⟩ rfl rfl rfl rfl rfl (by kernel_rfl) Tryz.func3 (by kernel_rfl)
    (of_decide_eq_true (by kernel_rfl)) (by unfold Func.isWrapper; first | (rw [if_pos (by decide +kernel)]; kernel_rfl) | (rw [if_neg (by decide +kernel)]; exact ⟨rfl, rfl⟩))
    (fun os started H enc _ => law_lifted 3 Tryz.f3 Rows.tensTellsSpec Rows.tensTellsRow.domain rfl rfl rfl Tryz.func3 (by kernel_rfl) (by decide +kernel)
      (fun H ds h => by
        have h' : ds.length = 2 := h
        match ds, h' with
        | [_, _], _ => exact ⟨rfl, rfl, rfl⟩)
      (fun os _ H enc => ChangeSpec.witness6 (enc := enc) (C := Tryz.checked) false ⟨#[], #[.agg #[.int .i64 0, .int .i64 0, .int .i64 0, .int .i64 0, .int .i64 0, .slice none 0 0], .agg #[.int .i64 0, .int .i64 0, .int .i64 0, .int .i64 0, .int .i64 0, .slice none 0 0]], []⟩ 8 (by kernel_rfl) (by kernel_rfl) (by kernel_rfl) (by kernel_rfl))
      TensTells_walk os started H enc)
end Go.Proofs.YtochabikpaoalaaGreat
