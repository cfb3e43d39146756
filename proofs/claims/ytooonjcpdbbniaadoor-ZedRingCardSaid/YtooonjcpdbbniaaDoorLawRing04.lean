/- The card of ZedRing: sums and products hang on no order, nor on brackets; a product of a sum is the sum of the products; all is right. No conditions: every input. -/
import Derived.Test.YtooonjcpdbbniaaDoorRing04
import Derived.Test.YtooonjcpdbbniaaDoorRow04
import Derived.Test.YtooonjcpdbbniaaDoorOpenZ
import Derived.Test.YtooonjcpdbbniaaDoorRows
import Derived.Test.YtooonjcpdbbniaaDoorTie
import Derived.Test.YtooonjcpdbbniaaDoorCards
import Derived.ChangeMaps5
namespace Go.Proofs.YtooonjcpdbbniaaDoor
open Go.ChangeShapes Go.WideShapes Go.ChangeAt Go.RowKit Go.Lib
set_option maxRecDepth 100000 in
theorem ZedRing_walk : LawWalkL 3 Tryd.f3 (fun w => laidMetH Tryd.prog Rows.zedRingRow.laid w) := by
  intro W base args H enc ds p hval hA hlt _ hX
  have ht : TabOk W := tab_of_laid hX
  rw [show Tryd.f3.params.toList = [25, 25, 25] from rfl] at hA
  obtain ⟨va, vb, vc, da, db, dc, pa, pb, pc, rfl, rfl, rfl, ha, hb, hc⟩ := trodAll_three hA
  obtain ⟨b1, v1, l1, rfl, h1⟩ := open_zed (hval 0 25 va rfl rfl) ha (fun x hx => hlt x (by simp [hx]))
  obtain ⟨b2, v2, l2, rfl, h2⟩ := open_zed (hval 1 25 vb rfl rfl) hb (fun x hx => hlt x (by simp [hx]))
  obtain ⟨b3, v3, l3, rfl, h3⟩ := open_zed (hval 2 25 vc rfl rfl) hc (fun x hx => hlt x (by simp [hx]))
  exact ZedRing_all b1 b2 b3 v1 v2 v3 l1 l2 l3 W h1 h2 h3 ht
set_option maxRecDepth 100000 in
/-- the row -/
theorem ZedRing_holds : Rows.ZedRingSaid :=
  OpenClaim.holds_of_wide 3 Tryd.f3 rfl rfl rfl rfl rfl rfl rfl ⟨rfl, rfl, rfl, rfl, rfl⟩ rfl rfl rfl rfl rfl (by kernel_rfl) Tryd.func3 (by kernel_rfl)
    (of_decide_eq_true (by kernel_rfl)) (by unfold Func.isWrapper; first | (rw [if_pos (by decide +kernel)]; kernel_rfl) | (rw [if_neg (by decide +kernel)]; exact ⟨rfl, rfl⟩))
    (fun os started H enc _ => law_lifted_laid 3 Tryd.f3 Rows.zedRingSpec Rows.zedRingRow.domain rfl rfl rfl (fun w => laidMetH Tryd.prog Rows.zedRingRow.laid w) (fun _ _ hh h => h.of_heap hh) Tryd.func3 (by kernel_rfl) (by decide +kernel)
      (fun H ds h => by
        have h' : ds.length = 3 := h
        match ds, h' with
        | [_, _, _], _ => exact ⟨rfl, rfl, rfl⟩)
      (fun os _ H enc => ChangeSpec.witness_shaped (enc := enc) (C := Tryd.checked) (os := os) (X := fun w _ => laidMetH Tryd.prog Rows.zedRingRow.laid w) false (World.doorLaid Tryd.prog 400 os) #[.agg #[.bool false, .slice none 0 0], .agg #[.bool false, .slice none 0 0], .agg #[.bool false, .slice none 0 0]] 8 rfl (World.shaped_of_RefB (by kernel_rfl) (by kernel_rfl)) (by kernel_rfl) (by kernel_rfl) (by kernel_rfl) (door_met os _))
      ZedRing_walk os started H enc)
set_option maxRecDepth 100000 in
/-- the given statement: the tied card -/
theorem ZedRingCard_holds : Rows.ZedRingCardSaid :=
  Claim7.holds_tied_plain_at .later [] [.data, .data, .data, .sentinel, .sentinel] true Rows.zedRingCard.stood.harness true
    ZedRing_holds (fun _ h => by cases h) (by kernel_rfl) (fun _ h => by cases h) zedRing_row_tie rfl ⟨rfl, rfl⟩ (by kernel_rfl) rfl
    (fun f fn hf hfn => by
      obtain rfl : f = 3 := Option.some.inj ((show Tryd.prog.funcNamed Rows.zedRingRow.func = some 3 by kernel_rfl).symm.trans hf) |>.symm
      obtain rfl : fn = Tryd.f3 := (Option.some.inj (Tryd.func3.symm.trans hfn)).symm
      exact ⟨by kernel_rfl, fun j t ht => by
        rw [show Tryd.f3.params = #[25, 25, 25] from rfl] at ht
        have hm : t ∈ [25, 25, 25] := by simpa using Array.mem_of_getElem? ht
        have hall : ([25, 25, 25].all fun u => !Tryd.prog.wantsStandIn u) = true := by kernel_rfl
        exact (show Tryd.prog.wantsStandIn t = false by simpa using List.all_eq_true.1 hall t hm)⟩)
    (by kernel_rfl)
end Go.Proofs.YtooonjcpdbbniaaDoor
