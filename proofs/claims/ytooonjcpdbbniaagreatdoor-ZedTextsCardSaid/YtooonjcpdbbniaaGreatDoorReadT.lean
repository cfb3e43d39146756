/- zed.Read, of whatever text. -/
import Derived.Test.YtooonjcpdbbniaaGreatDoorReadZ
namespace Go.Proofs.YtooonjcpdbbniaaGreatDoor
open Go.RowKit Go.Lib Go.Shelf
attribute [local go_sem] Oper.semAt_some
theorem pref45 (l : List UInt8) : Lib.hasPrefix l [45] = decide (l.head? = some 45) := by
  cases l with
  | nil => rfl
  | cons x r =>
    by_cases h : x = 45
    · subst h; simp [Lib.hasPrefix, List.isPrefixOf]
    · have h2 : ¬ 45 = x := fun e => h e.symm
      simp [Lib.hasPrefix, List.isPrefixOf, h, h2]
set_option maxRecDepth 100000 in
set_option maxHeartbeats 2000000 in
theorem zread_long (l : List UInt8) (hl : 400 < l.length) (w : World) :
    Calls Tryz.prog 22 #[strV l] w fun e w' => ∃ zv, e = .returned (.tuple #[zv, .int .i64 0, .int .i64 6]) ∧ IsZ w' zv 0 ∧ Below w.heap.size w w' := by
  have hl1 : decide ((400 : Int) < (l.length : Int)) = true := decide_eq_true (by omega)
  have hsz : (⟨l.toArray⟩ : ByteArray).size = l.length := by simp [ByteArray.size]
  refine (callsIn_wide (n := 9)).1 ?_
  refine callsIn_of_wp_marks Tryz.func22 rfl trivial ?_ rfl
  simp only [Tryz.ntmps22, List.size_toArray, List.length_cons, List.length_nil, Nat.reduceAdd, Nat.reduceSub, Array.replicate_succ, Array.replicate_zero, List.push_toArray, List.append_toArray, List.nil_append, List.cons_append]
  gi_wp2_with fail
  have hZ3 := Blk.new w 25 #[.bool false, .slice none 0 0]
  have q0 := hZ3.cell 0
  have q1 := hZ3.cell 1
  have hB3 := (Below.refl _ w).alloc (Nat.le_refl _) (.cells #[.bool false, .slice none 0 0] 25)
  refine ⟨.tuple #[.agg #[.bool false, .slice none 0 0], .int .i64 0, .int .i64 6], ?_, ⟨_, rfl, ⟨_, rfl, IsN.zero _⟩, hB3⟩⟩
  simp at q0 q1
  simp [results, Tryz.f22, go_sem, q0, q1]
theorem zread_any (l : List UInt8) (w : World) :
    Calls Tryz.prog 22 #[strV l] w fun e w' => ∃ zv, e = .returned (.tuple #[zv, .int .i64 (readT l).2.1, .int .i64 (readT l).2.2]) ∧ IsZ w' zv (readT l).1 ∧ Below w.heap.size w w' := by
  unfold readT
  by_cases hl : 400 < l.length
  · rw [if_pos hl]; exact zread_long l hl w
  · rw [if_neg hl]
    by_cases h45 : l.head? = some 45
    · rw [if_pos h45]
      exact callsIn_wide.1 (zread_neg l l.tail (by omega) (by rw [pref45, decide_eq_true h45]) (by simp) (by cases l with | nil => cases h45 | cons x r => simp) w)
    · rw [if_neg h45]
      exact callsIn_wide.1 (zread_pos l l (by omega) (by rw [pref45, decide_eq_false h45]) (by simp) (by omega) w)
end Go.Proofs.YtooonjcpdbbniaaGreatDoor
