/- APART: places hang on nothing but themselves: of rows in two parts new rows are those of both, one behind the other; where one part is refused, both are. No conditions: every input. -/
import Derived.Test.YtbnnonmkkkhepaaApart17
import Derived.Test.YtbnnonmkkkhepaaOpen2
import Derived.Test.YtbnnonmkkkhepaaLawRow
namespace Go.Proofs.Ytbnnonmkkkhepaa
open Go.ChangeShapes Go.WideShapes Go.ChangeAt Go.RowKit
theorem MomApart_walk : LawWalk 5 Try.f5 :=
  walk17two _ _ rfl fun lr mu wd fr nest c0 c1 c2 c3 c4 c5 c6 c7 A B C D A' B' C' D' w h h' i1 i2 i3 _ s s' => by
    by_cases h1 : A.length + B.length + C.length + D.length ≤ 18
    · by_cases h2 : A'.length + B'.length + C'.length + D'.length ≤ 18
      · exact MomApart_few lr mu wd fr nest c0 c1 c2 c3 c4 c5 c6 c7 A B C D A' B' C' D' w h h' i1 i2 i3 s s' h1 h2
      · exact MomApart_many2 lr mu wd fr nest c0 c1 c2 c3 c4 c5 c6 c7 A B C D A' B' C' D' w h h' i1 i2 i3 s s' h1 h2
    · exact MomApart_many1 lr mu wd fr nest c0 c1 c2 c3 c4 c5 c6 c7 A B C D A' B' C' D' w h h' i1 i2 i3 s s' h1
set_option maxRecDepth 100000 in
/-- the given statement -/
theorem MomApart_holds : Rows.MomApartSaid :=
  OpenClaim.holds_of_wide 5 Try.f5 rfl rfl rfl rfl rfl rfl rfl ⟨rfl, rfl, rfl, rfl, rfl⟩ rfl rfl rfl rfl rfl (by kernel_rfl) Try.func5 (by kernel_rfl)
    (of_decide_eq_true (by kernel_rfl)) (by unfold Func.isWrapper; first | (rw [if_pos (by decide +kernel)]; kernel_rfl) | (rw [if_neg (by decide +kernel)]; exact ⟨rfl, rfl⟩))
    (fun os started H enc _ => law_lifted 5 Try.f5 Rows.momApartSpec Rows.momApartRow.domain rfl rfl rfl Try.func5 (by kernel_rfl) (by decide +kernel)
      (fun H ds h => by
        have h' : ds.length = 3 := h
        match ds, h' with
        | [_, _, _], _ => exact ⟨rfl, rfl, rfl⟩)
      (fun os _ H enc => ChangeSpec.witness6 (enc := enc) (C := Try.checked) false ⟨#[], #[.agg #[.int .i64 0, .int .i64 0, .int .i64 0, .bool false], .agg #[.slice none 0 0, .slice none 0 0, .slice none 0 0, .slice none 0 0, .slice none 0 0, .slice none 0 0, .slice none 0 0, .slice none 0 0], .int .i64 0], []⟩ 8 (by kernel_rfl) (by kernel_rfl) (by kernel_rfl) (by kernel_rfl))
      MomApart_walk os started H enc)
end Go.Proofs.Ytbnnonmkkkhepaa
