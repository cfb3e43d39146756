/- The card of ZedTells: which integers are right, small ones, which is greater, sums and products, are as the document says. No conditions: every input. -/
import Derived.Test.YtooonjcpdbbniaaGreatDoorTells04
import Derived.Test.YtooonjcpdbbniaaGreatDoorRow04
import Derived.Test.YtooonjcpdbbniaaGreatDoorOpenZ
import Derived.Test.YtooonjcpdbbniaaGreatDoorRows
import Derived.Test.YtooonjcpdbbniaaGreatDoorTie
import Derived.Test.YtooonjcpdbbniaaGreatDoorCards
import Derived.ChangeMaps5
namespace Go.Proofs.YtooonjcpdbbniaaGreatDoor
open Go.ChangeShapes Go.WideShapes Go.ChangeAt Go.RowKit Go.Lib
theorem wf_in64 {n : Int} (h : (Lit.int .i64 n).wf = true) : -9223372036854775808 ≤ n ∧ n ≤ 9223372036854775807 := by
  have h1 : IntKind.i64.min = -9223372036854775808 := rfl
  have h2 : IntKind.i64.max = 9223372036854775807 := rfl
  simp only [Lit.wf, Bool.and_eq_true, decide_eq_true_eq] at h
  omega
set_option maxRecDepth 100000 in
theorem ZedTells_walk : LawWalkL 3 Tryz.f3 (fun w => laidMetH Tryz.prog Rows.zedTellsRow.laid w) := by
  intro W base args H enc ds p hval hA hlt _ hX
  have ht : TabOk W := tab_of_laid hX
  rw [show Tryz.f3.params.toList = [25, 25, 2] from rfl] at hA
  obtain ⟨va, vb, vc, da, db, dc, pa, pb, pc, rfl, rfl, rfl, ha, hb, hc⟩ := trodAll_three hA
  obtain ⟨n, rfl, rfl, rfl, wn⟩ := open_int Tryz.underlying2 (hval 2 2 vc rfl rfl) hc
  obtain ⟨b1, v1, l1, rfl, h1⟩ := open_zed (hval 0 25 va rfl rfl) ha (fun x hx => hlt x (by simp [hx]))
  obtain ⟨b2, v2, l2, rfl, h2⟩ := open_zed (hval 1 25 vb rfl rfl) hb (fun x hx => hlt x (by simp [hx]))
  obtain ⟨n0, n1⟩ := wf_in64 wn
  exact ZedTells_all b1 b2 v1 v2 l1 l2 n W h1 h2 n0 n1 ht
set_option maxRecDepth 100000 in
/-- the row -/
theorem ZedTells_holds : Rows.ZedTellsSaid :=
  OpenClaim.holds_of_wide 3 Tryz.f3 rfl rfl rfl rfl rfl rfl rfl ⟨rfl, rfl, rfl, rfl, rfl⟩ rfl rfl rfl rfl rfl (by kernel_rfl) Tryz.func3 (by kernel_rfl)
    (of_decide_eq_true (by kernel_rfl)) (by unfold Func.isWrapper; first | (rw [if_pos (by decide +kernel)]; kernel_rfl) | (rw [if_neg (by decide +kernel)]; exact ⟨rfl, rfl⟩))
    (fun os started H enc _ => law_lifted_laid 3 Tryz.f3 Rows.zedTellsSpec Rows.zedTellsRow.domain rfl rfl rfl (fun w => laidMetH Tryz.prog Rows.zedTellsRow.laid w) (fun _ _ hh h => h.of_heap hh) Tryz.func3 (by kernel_rfl) (by decide +kernel)
      (fun H ds h => by
        have h' : ds.length = 3 := h
        match ds, h' with
        | [_, _, _], _ => exact ⟨rfl, rfl, rfl⟩)
      (fun os _ H enc => ChangeSpec.witness_shaped (enc := enc) (C := Tryz.checked) (os := os) (X := fun w _ => laidMetH Tryz.prog Rows.zedTellsRow.laid w) false (World.doorLaid Tryz.prog 400 os) #[.agg #[.bool false, .slice none 0 0], .agg #[.bool false, .slice none 0 0], .int .i64 0] 8 rfl (World.shaped_of_RefB (by kernel_rfl) (by kernel_rfl)) (by kernel_rfl) (by kernel_rfl) (by kernel_rfl) (door_met os _))
      ZedTells_walk os started H enc)
set_option maxRecDepth 100000 in
/-- the given statement: the tied card -/
theorem ZedTellsCard_holds : Rows.ZedTellsCardSaid :=
  Claim7.holds_tied_plain_at .later [] [.data, .data, .data, .sentinel, .sentinel] true Rows.zedTellsCard.stood.harness true
    ZedTells_holds (fun _ h => by cases h) (by kernel_rfl) (fun _ h => by cases h) zedTells_row_tie rfl ⟨rfl, rfl⟩ (by kernel_rfl) rfl
    (fun f fn hf hfn => by
      obtain rfl : f = 3 := Option.some.inj ((show Tryz.prog.funcNamed Rows.zedTellsRow.func = some 3 by kernel_rfl).symm.trans hf) |>.symm
      obtain rfl : fn = Tryz.f3 := (Option.some.inj (Tryz.func3.symm.trans hfn)).symm
      exact ⟨by kernel_rfl, fun j t ht => by
        rw [show Tryz.f3.params = #[25, 25, 2] from rfl] at ht
        have hm : t ∈ [25, 25, 2] := by simpa using Array.mem_of_getElem? ht
        have hall : ([25, 25, 2].all fun u => !Tryz.prog.wantsStandIn u) = true := by kernel_rfl
        exact (show Tryz.prog.wantsStandIn t = false by simpa using List.all_eq_true.1 hall t hm)⟩)
    (by kernel_rfl)
end Go.Proofs.YtooonjcpdbbniaaGreatDoor
