/- The card of ZedBack: what is printed is read as it; what is read is printed as it stood; what can not go on is a byte of the text, or its end. No conditions: every input. -/
import Derived.Test.YtooonjcpdbbniaaDoorBack04
import Derived.Test.YtooonjcpdbbniaaDoorRow04
import Derived.Test.YtooonjcpdbbniaaDoorOpenZ
import Derived.Test.YtooonjcpdbbniaaDoorRows
import Derived.Test.YtooonjcpdbbniaaDoorTie
import Derived.Test.YtooonjcpdbbniaaDoorCards
import Derived.ChangeMaps5
namespace Go.Proofs.YtooonjcpdbbniaaDoor
open Go.ChangeShapes Go.WideShapes Go.ChangeAt Go.RowKit Go.Lib
set_option maxRecDepth 100000 in
theorem ZedBack_walk : LawWalkL 4 Tryd.f4 (fun w => laidMetH Tryd.prog Rows.zedBackRow.laid w) := by
  intro W base args H enc ds p hval hA hlt _ hX
  have ht : TabOk W := tab_of_laid hX
  rw [show Tryd.f4.params.toList = [25, 9] from rfl] at hA
  obtain ⟨va, vb, da, db, pa, pb, rfl, rfl, rfl, ha, hb⟩ := trodAll_two hA
  obtain ⟨s, rfl, rfl, rfl, _⟩ := Go.ChangeMaps.open_string Tryd.underlying9 (hval 1 9 vb rfl rfl) hb
  obtain ⟨b, nv, l, rfl, hl⟩ := open_zed (hval 0 25 va rfl rfl) ha (fun x hx => hlt x (by simp [hx]))
  have e : Value.string s = strV s.data.toList := rfl
  rw [e]
  exact ZedBack_all b nv l _ W hl ht
set_option maxRecDepth 100000 in
/-- the row -/
theorem ZedBack_holds : Rows.ZedBackSaid :=
  OpenClaim.holds_of_wide 4 Tryd.f4 rfl rfl rfl rfl rfl rfl rfl ⟨rfl, rfl, rfl, rfl, rfl⟩ rfl rfl rfl rfl rfl (by kernel_rfl) Tryd.func4 (by kernel_rfl)
    (of_decide_eq_true (by kernel_rfl)) (by unfold Func.isWrapper; first | (rw [if_pos (by decide +kernel)]; kernel_rfl) | (rw [if_neg (by decide +kernel)]; exact ⟨rfl, rfl⟩))
    (fun os started H enc _ => law_lifted_laid 4 Tryd.f4 Rows.zedBackSpec Rows.zedBackRow.domain rfl rfl rfl (fun w => laidMetH Tryd.prog Rows.zedBackRow.laid w) (fun _ _ hh h => h.of_heap hh) Tryd.func4 (by kernel_rfl) (by decide +kernel)
      (fun H ds h => by
        have h' : ds.length = 2 := h
        match ds, h' with
        | [_, _], _ => exact ⟨rfl, rfl, rfl⟩)
      (fun os _ H enc => ChangeSpec.witness_shaped (enc := enc) (C := Tryd.checked) (os := os) (X := fun w _ => laidMetH Tryd.prog Rows.zedBackRow.laid w) false (World.doorLaid Tryd.prog 400 os) #[.agg #[.bool false, .slice none 0 0], .string ⟨#[]⟩] 8 rfl (World.shaped_of_RefB (by kernel_rfl) (by kernel_rfl)) (by kernel_rfl) (by kernel_rfl) (by kernel_rfl) (door_met os _))
      ZedBack_walk os started H enc)
set_option maxRecDepth 100000 in
/-- the given statement: the tied card -/
theorem ZedBackCard_holds : Rows.ZedBackCardSaid :=
  Claim7.holds_tied_plain_at .later [] [.data, .data, .data, .sentinel, .sentinel] true Rows.zedBackCard.stood.harness true
    ZedBack_holds (fun _ h => by cases h) (by kernel_rfl) (fun _ h => by cases h) zedBack_row_tie rfl ⟨rfl, rfl⟩ (by kernel_rfl) rfl
    (fun f fn hf hfn => by
      obtain rfl : f = 4 := Option.some.inj ((show Tryd.prog.funcNamed Rows.zedBackRow.func = some 4 by kernel_rfl).symm.trans hf) |>.symm
      obtain rfl : fn = Tryd.f4 := (Option.some.inj (Tryd.func4.symm.trans hfn)).symm
      exact ⟨by kernel_rfl, fun j t ht => by
        rw [show Tryd.f4.params = #[25, 9] from rfl] at ht
        have hm : t ∈ [25, 9] := by simpa using Array.mem_of_getElem? ht
        have hall : ([25, 9].all fun u => !Tryd.prog.wantsStandIn u) = true := by kernel_rfl
        exact (show Tryd.prog.wantsStandIn t = false by simpa using List.all_eq_true.1 hall t hm)⟩)
    (by kernel_rfl)
end Go.Proofs.YtooonjcpdbbniaaDoor
