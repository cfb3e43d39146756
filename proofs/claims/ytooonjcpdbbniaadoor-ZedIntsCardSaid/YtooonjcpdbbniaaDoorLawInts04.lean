/- The card of ZedInts: small integers are summed and multiplied as numbers are; their texts begin with - just if they are below nought. No conditions: every input. -/
import Derived.Test.YtooonjcpdbbniaaDoorInts04
import Derived.Test.YtooonjcpdbbniaaDoorRow04
import Derived.Test.YtooonjcpdbbniaaDoorOpenZ
import Derived.Test.YtooonjcpdbbniaaDoorRows
import Derived.Test.YtooonjcpdbbniaaDoorTie
import Derived.Test.YtooonjcpdbbniaaDoorCards
import Derived.ChangeMaps5
namespace Go.Proofs.YtooonjcpdbbniaaDoor
open Go.ChangeShapes Go.WideShapes Go.ChangeAt Go.RowKit Go.Lib
set_option maxRecDepth 100000 in
theorem ZedInts_walk : LawWalkL 6 Tryd.f6 (fun w => laidMetH Tryd.prog Rows.zedIntsRow.laid w) := by
  intro W base args H enc ds p hval hA hlt _ hX
  have ht : TabOk W := tab_of_laid hX
  rw [show Tryd.f6.params.toList = [21, 21] from rfl] at hA
  obtain ⟨va, vb, da, db, pa, pb, rfl, rfl, rfl, ha, hb⟩ := trodAll_two hA
  obtain ⟨a, rfl, rfl, rfl, wa⟩ := open_int Tryd.underlying21 (hval 0 21 va rfl rfl) ha
  obtain ⟨b, rfl, rfl, rfl, wb⟩ := open_int Tryd.underlying21 (hval 1 21 vb rfl rfl) hb
  exact ZedInts_all a b (wf_i32 wa) (wf_i32 wb) W ht
set_option maxRecDepth 100000 in
/-- the row -/
theorem ZedInts_holds : Rows.ZedIntsSaid :=
  OpenClaim.holds_of_wide 6 Tryd.f6 rfl rfl rfl rfl rfl rfl rfl ⟨rfl, rfl, rfl, rfl, rfl⟩ rfl rfl rfl rfl rfl (by kernel_rfl) Tryd.func6 (by kernel_rfl)
    (of_decide_eq_true (by kernel_rfl)) (by unfold Func.isWrapper; first | (rw [if_pos (by decide +kernel)]; kernel_rfl) | (rw [if_neg (by decide +kernel)]; exact ⟨rfl, rfl⟩))
    (fun os started H enc _ => law_lifted_laid 6 Tryd.f6 Rows.zedIntsSpec Rows.zedIntsRow.domain rfl rfl rfl (fun w => laidMetH Tryd.prog Rows.zedIntsRow.laid w) (fun _ _ hh h => h.of_heap hh) Tryd.func6 (by kernel_rfl) (by decide +kernel)
      (fun H ds h => by
        have h' : ds.length = 2 := h
        match ds, h' with
        | [_, _], _ => exact ⟨rfl, rfl, rfl⟩)
      (fun os _ H enc => ChangeSpec.witness_shaped (enc := enc) (C := Tryd.checked) (os := os) (X := fun w _ => laidMetH Tryd.prog Rows.zedIntsRow.laid w) false (World.doorLaid Tryd.prog 400 os) #[.int .i32 0, .int .i32 0] 8 rfl (World.shaped_of_RefB (by kernel_rfl) (by kernel_rfl)) (by kernel_rfl) (by kernel_rfl) (by kernel_rfl) (door_met os _))
      ZedInts_walk os started H enc)
set_option maxRecDepth 100000 in
/-- the given statement: the tied card -/
theorem ZedIntsCard_holds : Rows.ZedIntsCardSaid :=
  Claim7.holds_tied_plain_at .later [] [.data, .data, .data, .sentinel, .sentinel] true Rows.zedIntsCard.stood.harness true
    ZedInts_holds (fun _ h => by cases h) (by kernel_rfl) (fun _ h => by cases h) zedInts_row_tie rfl ⟨rfl, rfl⟩ (by kernel_rfl) rfl
    (fun f fn hf hfn => by
      obtain rfl : f = 6 := Option.some.inj ((show Tryd.prog.funcNamed Rows.zedIntsRow.func = some 6 by kernel_rfl).symm.trans hf) |>.symm
      obtain rfl : fn = Tryd.f6 := (Option.some.inj (Tryd.func6.symm.trans hfn)).symm
      exact ⟨by kernel_rfl, fun j t ht => by
        rw [show Tryd.f6.params = #[21, 21] from rfl] at ht
        have hm : t ∈ [21, 21] := by simpa using Array.mem_of_getElem? ht
        have hall : ([21, 21].all fun u => !Tryd.prog.wantsStandIn u) = true := by kernel_rfl
        exact (show Tryd.prog.wantsStandIn t = false by simpa using List.all_eq_true.1 hall t hm)⟩)
    (by kernel_rfl)
end Go.Proofs.YtooonjcpdbbniaaDoor
