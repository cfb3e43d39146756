/- The card of ZedTexts: an integer has the text, and any text is the integer, or none, that the document says. No conditions: every input. -/
import Derived.Test.YtooonjcpdbbniaaGreatDoorTexts04
import Derived.Test.YtooonjcpdbbniaaGreatDoorRow04
import Derived.Test.YtooonjcpdbbniaaGreatDoorOpenZ
import Derived.Test.YtooonjcpdbbniaaGreatDoorRows
import Derived.Test.YtooonjcpdbbniaaGreatDoorTie
import Derived.Test.YtooonjcpdbbniaaGreatDoorCards
import Derived.ChangeMaps5
namespace Go.Proofs.YtooonjcpdbbniaaGreatDoor
open Go.ChangeShapes Go.WideShapes Go.ChangeAt Go.RowKit Go.Lib
set_option maxRecDepth 100000 in
theorem ZedTexts_walk : LawWalkL 4 Tryz.f4 (fun w => laidMetH Tryz.prog Rows.zedTextsRow.laid w) := by
  intro W base args H enc ds p hval hA hlt _ hX
  have ht : TabOk W := tab_of_laid hX
  rw [show Tryz.f4.params.toList = [25, 9] from rfl] at hA
  obtain ⟨va, vb, da, db, pa, pb, rfl, rfl, rfl, ha, hb⟩ := trodAll_two hA
  obtain ⟨s, rfl, rfl, rfl, _⟩ := Go.ChangeMaps.open_string Tryz.underlying9 (hval 1 9 vb rfl rfl) hb
  obtain ⟨b, nv, l, rfl, hl⟩ := open_zed (hval 0 25 va rfl rfl) ha (fun x hx => hlt x (by simp [hx]))
  have e : Value.string s = strV s.data.toList := rfl
  rw [e]
  exact ZedTexts_all b nv l _ W hl ht
set_option maxRecDepth 100000 in
/-- the row -/
theorem ZedTexts_holds : Rows.ZedTextsSaid :=
  OpenClaim.holds_of_wide 4 Tryz.f4 rfl rfl rfl rfl rfl rfl rfl ⟨rfl, rfl, rfl, rfl, rfl⟩ rfl rfl rfl rfl rfl (by kernel_rfl) Tryz.func4 (by kernel_rfl)
    (of_decide_eq_true (by kernel_rfl)) (by unfold Func.isWrapper; first | (rw [if_pos (by decide +kernel)]; kernel_rfl) | (rw [if_neg (by decide +kernel)]; exact ⟨rfl, rfl⟩))
    (fun os started H enc _ => law_lifted_laid 4 Tryz.f4 Rows.zedTextsSpec Rows.zedTextsRow.domain rfl rfl rfl (fun w => laidMetH Tryz.prog Rows.zedTextsRow.laid w) (fun _ _ hh h => h.of_heap hh) Tryz.func4 (by kernel_rfl) (by decide +kernel)
      (fun H ds h => by
        have h' : ds.length = 2 := h
        match ds, h' with
        | [_, _], _ => exact ⟨rfl, rfl, rfl⟩)
      (fun os _ H enc => ChangeSpec.witness_shaped (enc := enc) (C := Tryz.checked) (os := os) (X := fun w _ => laidMetH Tryz.prog Rows.zedTextsRow.laid w) false (World.doorLaid Tryz.prog 400 os) #[.agg #[.bool false, .slice none 0 0], .string ⟨#[]⟩] 8 rfl (World.shaped_of_RefB (by kernel_rfl) (by kernel_rfl)) (by kernel_rfl) (by kernel_rfl) (by kernel_rfl) (door_met os _))
      ZedTexts_walk os started H enc)
set_option maxRecDepth 100000 in
/-- the given statement: the tied card -/
theorem ZedTextsCard_holds : Rows.ZedTextsCardSaid :=
  Claim7.holds_tied_plain_at .later [] [.data, .data, .data, .sentinel, .sentinel] true Rows.zedTextsCard.stood.harness true
    ZedTexts_holds (fun _ h => by cases h) (by kernel_rfl) (fun _ h => by cases h) zedTexts_row_tie rfl ⟨rfl, rfl⟩ (by kernel_rfl) rfl
    (fun f fn hf hfn => by
      obtain rfl : f = 4 := Option.some.inj ((show Tryz.prog.funcNamed Rows.zedTextsRow.func = some 4 by kernel_rfl).symm.trans hf) |>.symm
      obtain rfl : fn = Tryz.f4 := (Option.some.inj (Tryz.func4.symm.trans hfn)).symm
      exact ⟨by kernel_rfl, fun j t ht => by
        rw [show Tryz.f4.params = #[25, 9] from rfl] at ht
        have hm : t ∈ [25, 9] := by simpa using Array.mem_of_getElem? ht
        have hall : ([25, 9].all fun u => !Tryz.prog.wantsStandIn u) = true := by kernel_rfl
        exact (show Tryz.prog.wantsStandIn t = false by simpa using List.all_eq_true.1 hall t hm)⟩)
    (by kernel_rfl)
end Go.Proofs.YtooonjcpdbbniaaGreatDoor
