/- Without momentum and decay a velocity is the gradient, and a weight goes by Lr times it; with no rate weights stay; without gradients, velocities and decay all stays. No conditions: every input. -/
import Derived.Test.YtbnnonmkkkhepaaPlain17
import Derived.Test.YtbnnonmkkkhepaaLaw17
namespace Go.Proofs.Ytbnnonmkkkhepaa
open Go.ChangeShapes Go.WideShapes Go.ChangeAt Go.RowKit
theorem MomPlain_walk : LawWalk 6 Try.f6 :=
  walk17 _ _ rfl fun lr mu wd fr nest v A B C D w h i1 i2 i3 i0 iA iB iC iD l1 l2 l3 l4 => MomPlain_all lr mu wd fr nest v A B C D w h i1 i2 i3 i0 iA iB iD l1 l2 l3 l4
set_option maxRecDepth 100000 in
/-- the given statement -/
theorem MomPlain_holds : Rows.MomPlainSaid :=
  OpenClaim.holds_of_wide 6 Try.f6 rfl rfl rfl rfl rfl rfl rfl ⟨rfl, rfl, rfl, rfl, rfl⟩ rfl rfl rfl rfl rfl (by kernel_rfl) Try.func6 (by kernel_rfl)
    (of_decide_eq_true (by kernel_rfl)) (by unfold Func.isWrapper; first | (rw [if_pos (by decide +kernel)]; kernel_rfl) | (rw [if_neg (by decide +kernel)]; exact ⟨rfl, rfl⟩))
    (fun os started H enc _ => law_lifted 6 Try.f6 Rows.momPlainSpec Rows.momPlainRow.domain rfl rfl rfl Try.func6 (by kernel_rfl) (by decide +kernel)
      (fun H ds h => by
        have h' : ds.length = 3 := h
        match ds, h' with
        | [_, _, _], _ => exact ⟨rfl, rfl, rfl⟩)
      (fun os _ H enc => ChangeSpec.witness6 (enc := enc) (C := Try.checked) false ⟨#[], #[.agg #[.int .i64 0, .int .i64 0, .int .i64 0, .bool false], .agg #[.slice none 0 0, .slice none 0 0, .slice none 0 0, .slice none 0 0], .int .i64 0], []⟩ 8 (by kernel_rfl) (by kernel_rfl) (by kernel_rfl) (by kernel_rfl))
      MomPlain_walk os started H enc)
end Go.Proofs.Ytbnnonmkkkhepaa
