/- tens.Of: where it is refused; its contract for every row. Printed by gen_tensof2.py. -/
import Derived.Test.YtochabikpaoalaaGreatTensOf
namespace Go.Proofs.YtochabikpaoalaaGreat
open Go.RowKit Go.Shelf
attribute [local go_sem] Oper.semAt_some
set_option maxRecDepth 100000 in
set_option maxHeartbeats 4000000 in
theorem of_wrong (k z m o : Int) (v : Value) (l : List Int) (w : World) (h : IsI w v l) (hmay : mayB k z m o = false) :
    CallsIn Fence.wide 9 Tryz.prog 19 #[.agg #[.int .i64 k, .int .i64 z, .int .i64 m, .int .i64 o], v] w fun e w' => ∃ x, e = .returned (.tuple #[.agg #[.int .i64 0, .int .i64 0, .int .i64 0, .int .i64 0, .int .i64 0, x], .int .i64 1]) ∧ OwnBs w' w.heap.size w.heap.size x [] ∧ Below w.heap.size w w' := by
  obtain ⟨A, c, rfl, _, _⟩ := id h.form
  have hM := fun n w => (callsIn_wide (n := n)).2 (tmay_any k z m o w)
  rw [hmay] at hM
  obtain ⟨W0, hW, hK, hL, hS, hE, hB⟩ := box4 w 23 34 26 36 #[.int .i64 k, .int .i64 z, .int .i64 m, .int .i64 o] #[.slice A l.length c] #[.int .i64 0, .int .i64 0, .int .i64 0, .int .i64 0, .int .i64 0, .slice none 0 0] #[.int .i64 0]
  have hW' := Lib.hid hW
  clear hW
  have k0 := hK.cell 0
  have k1 := hK.cell 1
  have k2 := hK.cell 2
  have k3 := hK.cell 3
  refine callsIn_of_wp_marks Tryz.func19 rfl trivial ?_ rfl
  simp only [Tryz.ntmps19, List.size_toArray, List.length_cons, List.length_nil, Nat.reduceAdd, Nat.reduceSub, Array.replicate_succ, Array.replicate_zero, List.push_toArray, List.append_toArray, List.nil_append, List.cons_append]
  gi_wp2_with fail
  refine ⟨trivial, ?_⟩
  rw [← hW'.out]
  refine (hM _ _).mono ?_
  rintro e w1 ⟨rfl, b1⟩
  have hS1 := hS.below b1 hS.lt
  have hE1 := hE.below b1 hE.lt
  have hL1 := hL.below b1 hL.lt
  have l0 := hL1.cell 0
  have s0 := hS1.cell 0
  have f0 := hS1.frozen 0
  have s1 := hS1.cell 1
  have f1 := hS1.frozen 1
  have s2 := hS1.cell 2
  have f2 := hS1.frozen 2
  have s3 := hS1.cell 3
  have f3 := hS1.frozen 3
  have s4 := hS1.cell 4
  have f4 := hS1.frozen 4
  have s5 := hS1.cell 5
  have f5 := hS1.frozen 5
  have t0 := hE1.cell 0
  have t1 := hE1.frozen 0
  gi_wp2
  have hS8 := ((((((hS1.set_ 0 (.int .i64 0)).set_ 1 (.int .i64 0)).set_ 2 (.int .i64 0)).set_ 3 (.int .i64 0)).set_ 4 (.int .i64 0)).set_ 5 (.slice none 0 0)).far (p := ⟨w.heap.size + 1 + 1 + 1, 0, none⟩) (show w.heap.size + 1 + 1 ≠ w.heap.size + 1 + 1 + 1 by omega) (.int .i64 1)
  have far := fun (w9 : World) (i : Nat) (u : Value) (h9 : Blk w9 (w.heap.size + 1 + 1 + 1) 36 #[.int .i64 0]) => h9.far (p := ⟨w.heap.size + 1 + 1, i, none⟩) (show w.heap.size + 1 + 1 + 1 ≠ w.heap.size + 1 + 1 by omega) u
  have hE8 := (far _ 5 (.slice none 0 0) (far _ 4 (.int .i64 0) (far _ 3 (.int .i64 0) (far _ 2 (.int .i64 0) (far _ 1 (.int .i64 0) (far _ 0 (.int .i64 0) hE1)))))).set_ 0 (.int .i64 1)
  have hB1 := hB.trans (b1.mono hB.size)
  have q0 := hS8.cell 0
  have q1 := hS8.cell 1
  have q2 := hS8.cell 2
  have q3 := hS8.cell 3
  have q4 := hS8.cell 4
  have q5 := hS8.cell 5
  have q6 := hE8.cell 0
  refine ⟨.tuple #[.agg #[.int .i64 0, .int .i64 0, .int .i64 0, .int .i64 0, .int .i64 0, .slice none 0 0], .int .i64 1], ?_, ⟨_, rfl, OwnBs.nil _ _ _, ?_⟩⟩
  · simp at q0 q1 q2 q3 q4 q5 q6
    simp [results, Tryz.f19, go_sem, q0, q1, q2, q3, q4, q5, q6]
  · exact bset (bset (bset (bset (bset (bset (bset hB1 (by omega) _) (by omega) _) (by omega) _) (by omega) _) (by omega) _) (by omega) _) (by omega) _
set_option maxRecDepth 100000 in
set_option maxHeartbeats 4000000 in
theorem of_large (k z m o : Int) (v : Value) (l : List Int) (w : World) (h : IsI w v l) (hmay : mayB k z m o = true) (hl : ¬ l.length ≤ 4096) :
    CallsIn Fence.wide 9 Tryz.prog 19 #[.agg #[.int .i64 k, .int .i64 z, .int .i64 m, .int .i64 o], v] w fun e w' => ∃ x, e = .returned (.tuple #[.agg #[.int .i64 0, .int .i64 0, .int .i64 0, .int .i64 0, .int .i64 0, x], .int .i64 6]) ∧ OwnBs w' w.heap.size w.heap.size x [] ∧ Below w.heap.size w w' := by
  obtain ⟨A, c, rfl, _, _⟩ := id h.form
  have hM := fun n w => (callsIn_wide (n := n)).2 (tmay_any k z m o w)
  rw [hmay] at hM
  have hl1 : decide ((4096 : Int) < (l.length : Int)) = true := decide_eq_true (by omega)
  have hl2 : decide (4096 < l.length) = true := decide_eq_true (by omega)
  have hl3 : (4096 : Int) < (l.length : Int) := by omega
  obtain ⟨W0, hW, hK, hL, hS, hE, hB⟩ := box4 w 23 34 26 36 #[.int .i64 k, .int .i64 z, .int .i64 m, .int .i64 o] #[.slice A l.length c] #[.int .i64 0, .int .i64 0, .int .i64 0, .int .i64 0, .int .i64 0, .slice none 0 0] #[.int .i64 0]
  have hW' := Lib.hid hW
  clear hW
  have k0 := hK.cell 0
  have k1 := hK.cell 1
  have k2 := hK.cell 2
  have k3 := hK.cell 3
  refine callsIn_of_wp_marks Tryz.func19 rfl trivial ?_ rfl
  simp only [Tryz.ntmps19, List.size_toArray, List.length_cons, List.length_nil, Nat.reduceAdd, Nat.reduceSub, Array.replicate_succ, Array.replicate_zero, List.push_toArray, List.append_toArray, List.nil_append, List.cons_append]
  gi_wp2_with fail
  refine ⟨trivial, ?_⟩
  rw [← hW'.out]
  refine (hM _ _).mono ?_
  rintro e w1 ⟨rfl, b1⟩
  have hS1 := hS.below b1 hS.lt
  have hE1 := hE.below b1 hE.lt
  have hL1 := hL.below b1 hL.lt
  have l0 := hL1.cell 0
  have s0 := hS1.cell 0
  have f0 := hS1.frozen 0
  have s1 := hS1.cell 1
  have f1 := hS1.frozen 1
  have s2 := hS1.cell 2
  have f2 := hS1.frozen 2
  have s3 := hS1.cell 3
  have f3 := hS1.frozen 3
  have s4 := hS1.cell 4
  have f4 := hS1.frozen 4
  have s5 := hS1.cell 5
  have f5 := hS1.frozen 5
  have t0 := hE1.cell 0
  have t1 := hE1.frozen 0
  gi_wp2
  have hS8 := ((((((hS1.set_ 0 (.int .i64 0)).set_ 1 (.int .i64 0)).set_ 2 (.int .i64 0)).set_ 3 (.int .i64 0)).set_ 4 (.int .i64 0)).set_ 5 (.slice none 0 0)).far (p := ⟨w.heap.size + 1 + 1 + 1, 0, none⟩) (show w.heap.size + 1 + 1 ≠ w.heap.size + 1 + 1 + 1 by omega) (.int .i64 6)
  have far := fun (w9 : World) (i : Nat) (u : Value) (h9 : Blk w9 (w.heap.size + 1 + 1 + 1) 36 #[.int .i64 0]) => h9.far (p := ⟨w.heap.size + 1 + 1, i, none⟩) (show w.heap.size + 1 + 1 + 1 ≠ w.heap.size + 1 + 1 by omega) u
  have hE8 := (far _ 5 (.slice none 0 0) (far _ 4 (.int .i64 0) (far _ 3 (.int .i64 0) (far _ 2 (.int .i64 0) (far _ 1 (.int .i64 0) (far _ 0 (.int .i64 0) hE1)))))).set_ 0 (.int .i64 6)
  have hB1 := hB.trans (b1.mono hB.size)
  have q0 := hS8.cell 0
  have q1 := hS8.cell 1
  have q2 := hS8.cell 2
  have q3 := hS8.cell 3
  have q4 := hS8.cell 4
  have q5 := hS8.cell 5
  have q6 := hE8.cell 0
  refine ⟨.tuple #[.agg #[.int .i64 0, .int .i64 0, .int .i64 0, .int .i64 0, .int .i64 0, .slice none 0 0], .int .i64 6], ?_, ⟨_, rfl, OwnBs.nil _ _ _, ?_⟩⟩
  · simp at q0 q1 q2 q3 q4 q5 q6
    simp [results, Tryz.f19, go_sem, q0, q1, q2, q3, q4, q5, q6]
  · exact bset (bset (bset (bset (bset (bset (bset hB1 (by omega) _) (by omega) _) (by omega) _) (by omega) _) (by omega) _) (by omega) _) (by omega) _
theorem tof_own (k z m o : Int) (v : Value) (l : List Int) (w : World) (h : IsI w v l) (hi : ∀ x ∈ l, I64 x) :
    Calls Tryz.prog 19 #[.agg #[.int .i64 k, .int .i64 z, .int .i64 m, .int .i64 o], v] w fun e w' => ∃ x, e = .returned (.tuple #[.agg #[.int .i64 (ofS k z m o l).1, .int .i64 (ofS k z m o l).2.1, .int .i64 (ofS k z m o l).2.2.1, .int .i64 (ofS k z m o l).2.2.2.1, .int .i64 (ofS k z m o l).2.2.2.2.1, x], .int .i64 (ofE k z m o l)]) ∧ OwnBs w' w.heap.size w.heap.size x (ofS k z m o l).2.2.2.2.2 ∧ Below w.heap.size w w' := by
  by_cases hmay : mayB k z m o = true
  · by_cases hl : l.length ≤ 4096
    · obtain ⟨Z, rfl, z1, z2⟩ := size_of hmay
      obtain ⟨A, c, rfl, _, _⟩ := id h.form
      exact callsIn_wide.1 (of_main k m o Z A c l w h hmay z1 z2 hl hi)
    · have e : ofE k z m o l = 6 := by unfold ofE; rw [if_pos hmay, if_neg hl]
      have e2 : ofS k z m o l = (0, 0, 0, 0, 0, []) := if_neg (by rw [e]; decide)
      rw [e, e2]
      exact callsIn_wide.1 (of_large k z m o v l w h hmay hl)
  · have e : ofE k z m o l = 1 := by unfold ofE; rw [if_neg hmay]
    have e2 : ofS k z m o l = (0, 0, 0, 0, 0, []) := if_neg (by rw [e]; decide)
    rw [e, e2]
    exact callsIn_wide.1 (of_wrong k z m o v l w h (by simpa using hmay))
theorem tof_any (k z m o : Int) (v : Value) (l : List Int) (w : World) (h : IsI w v l) (hi : ∀ x ∈ l, I64 x) :
    Calls Tryz.prog 19 #[.agg #[.int .i64 k, .int .i64 z, .int .i64 m, .int .i64 o], v] w fun e w' => ∃ s, e = .returned (.tuple #[s, .int .i64 (ofE k z m o l)]) ∧ IsSt w' s (ofS k z m o l) ∧ Below w.heap.size w w' :=
  (tof_own k z m o v l w h hi).mono fun _ _ ⟨_, e, hx, hB⟩ => ⟨_, e, ⟨_, rfl, hx.is⟩, hB⟩
end Go.Proofs.YtochabikpaoalaaGreat
