/- What the rows of layer 4 want of the variables that start-up code lays: the table of tens, and a first world that has them. -/
import Derived.Test.YtooonjcpdbbniaaGreatDoorFmt04
import Derived.Test.YtooonjcpdbbniaaGreatDoorLawLaid
import Derived.Lib.LaidTab
import Derived.Stop.LaidErr
import Derived.Stop.Joined
import Derived.LaidMore
import Derived.OpenShut
namespace Go.Proofs.YtooonjcpdbbniaaGreatDoor
open Go.ChangeShapes Go.WideShapes Go.ChangeAt Go.RowKit Go.Lib
set_option maxRecDepth 100000 in
theorem tab_name : Rows.zedTellsRow.laid[2]? = some (Rows.zedTellsRow.named.getD 2 default, tabData .u64 pow10Tab) := by kernel_rfl
theorem tab_global : ∃ g t, Tryz.prog.globalNamed (Rows.zedTellsRow.named.getD 2 default) = some g ∧ (Tryz.prog.globals[g]?).map (·.type) = some t ∧ Tryz.prog.underlying t = some (.array 20 44) ∧ Tryz.prog.cellsOf t = 20 := ⟨4, 130, by kernel_rfl, by kernel_rfl, Tryz.underlying130, by kernel_rfl⟩
set_option maxRecDepth 100000 in
/-- what the condition gives -/
theorem tab_of_laid {W : World} (h : laidMetH Tryz.prog Rows.zedTellsRow.laid W) : TabOk W := by
  rw [MakeChecks.laidMetH_plain _ _ _ (by kernel_rfl)] at h
  have hl : ∃ a b c d, Rows.zedTellsRow.laid = [a, b, (Rows.zedTellsRow.named.getD 2 default, tabData .u64 pow10Tab), c, d] := by
    have h2 := tab_name
    have h1 : Rows.zedTellsRow.laid.length = 5 := by kernel_rfl
    revert h1 h2
    generalize Rows.zedTellsRow.laid = L
    intro h2 h1
    match L, h1 with
    | [a, b, c, d, e], _ =>
      simp at h2
      subst h2
      exact ⟨a, b, d, e, rfl⟩
  obtain ⟨a, b, c, d, e⟩ := hl
  rw [e] at h
  obtain ⟨g, t, k1, k2, k3, k4⟩ := tab_global
  exact tabIs_of_head k1 k2 k3 Tryz.underlying44 (by kernel_rfl) k4 h.tail.tail
set_option maxRecDepth 100000 in
/-- the first world has them -/
theorem door_met (os : Os) (args : Array Value) : laidMetH Tryz.prog Rows.zedTellsRow.laid ((World.doorLaid Tryz.prog 400 os).forCall (fun _ _ => 0) ⟨#[], args, []⟩).memory :=
  laidMetH_of_parts3 (fuel := 8) (laidMet_of_run' 8 (by kernel_rfl) (by kernel_rfl)) (by kernel_rfl) (by kernel_rfl)
end Go.Proofs.YtooonjcpdbbniaaGreatDoor
