/- Which Moms are right, and a step of rows, or why there is none, are as the document says. No conditions: every input. -/
import Derived.Test.YtbnnonmkkkhepaaTells17
import Derived.Test.YtbnnonmkkkhepaaLaw17
namespace Go.Proofs.Ytbnnonmkkkhepaa
open Go.ChangeShapes Go.WideShapes Go.ChangeAt Go.RowKit
theorem MomTells_walk : LawWalk 3 Try.f3 :=
  walk17 _ _ rfl fun lr mu wd fr nest v A B C D w h i1 i2 i3 i0 iA iB iC iD l1 l2 l3 l4 => MomTells_all lr mu wd fr nest v A B C D w h i1 i2 i3 i0 iA iB iD l1 l2 l3 l4
set_option maxRecDepth 100000 in
/-- the given statement -/
theorem MomTells_holds : Rows.MomTellsSaid :=
  OpenClaim.holds_of_wide 3 Try.f3 rfl rfl rfl rfl rfl rfl rfl ⟨rfl, rfl, rfl, rfl, rfl⟩ rfl rfl rfl rfl rfl (by kernel_rfl) Try.func3 (by kernel_rfl)
    (of_decide_eq_true (by kernel_rfl)) (by unfold Func.isWrapper; first | (rw [if_pos (by decide +kernel)]; kernel_rfl) | (rw [if_neg (by decide +kernel)]; exact ⟨rfl, rfl⟩))
    (fun os started H enc _ => law_lifted 3 Try.f3 Rows.momTellsSpec Rows.momTellsRow.domain rfl rfl rfl Try.func3 (by kernel_rfl) (by decide +kernel)
      (fun H ds h => by
        have h' : ds.length = 3 := h
        match ds, h' with
        | [_, _, _], _ => exact ⟨rfl, rfl, rfl⟩)
      (fun os _ H enc => ChangeSpec.witness6 (enc := enc) (C := Try.checked) false ⟨#[], #[.agg #[.int .i64 0, .int .i64 0, .int .i64 0, .bool false], .agg #[.slice none 0 0, .slice none 0 0, .slice none 0 0, .slice none 0 0], .int .i64 0], []⟩ 8 (by kernel_rfl) (by kernel_rfl) (by kernel_rfl) (by kernel_rfl))
      MomTells_walk os started H enc)
end Go.Proofs.Ytbnnonmkkkhepaa
