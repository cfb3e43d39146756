/- The document's integers: right ones, few limbs, the same. Printed by gen_rzed04.py. -/
import Derived.Test.YtooonjcpdbbniaaGreatDoorPZed2
import Derived.Test.YtooonjcpdbbniaaGreatDoorRef2
namespace Go.Proofs.YtooonjcpdbbniaaGreatDoor
open Go.RowKit
attribute [local go_sem ↓] Go.wp_at_zero Go.wp_at_succ

set_option maxHeartbeats 1000000 in
theorem rzright_any (b : Bool) (nv : Value) (l : List Nat) (w : World) (h : IsL w nv l) :
    Calls Tryz.prog 7 #[.agg #[.bool b, nv]] w fun e w' => e = .returned (.bool (rightZ b l)) ∧ Below w.heap.size w w' := by
  unfold rightZ
  have hS := fun w hn => rright_any nv l w hn
  obtain ⟨W0, hW, hR, hB⟩ := box1 w 25 #[.bool b, nv]
  obtain ⟨g, hg⟩ : ∃ g, g = w.heap.size := ⟨_, rfl⟩
  have hW' := Lib.hid (And.intro hW hg)
  rw [← hg] at hR
  clear hW hg
  have hn := h.below hB
  have HB := Lib.hid hB
  obtain ⟨A, c, rfl, _⟩ := id h
  obtain ⟨q0, q1⟩ := hR.cells2
  generalize decide (l = [] ∨ lat l (l.length - 1) ≠ 0) = r at *
  obtain ⟨d, hd⟩ : ∃ d, d = decide (l.length = 0) := ⟨_, rfl⟩
  rw [← hd]
  have hl0 : decide ((0 : Int) < (l.length : Int)) = !d := by
    rw [hd]
    rcases Nat.eq_zero_or_pos l.length with h9 | h9
    · rw [decide_eq_false (by omega), decide_eq_true h9]; rfl
    · rw [decide_eq_true (by omega), decide_eq_false (by omega)]; rfl
  have hl1 : decide (0 < l.length) = !d := by
    rw [hd]
    rcases Nat.eq_zero_or_pos l.length with h9 | h9
    · rw [decide_eq_false (by omega), decide_eq_true h9]; rfl
    · rw [decide_eq_true h9, decide_eq_false (by omega)]; rfl
  clear h hd
  cases r <;> cases b <;> cases d
  all_goals
    go_enter Tryz.func7, Tryz.ntmps7
    go_wp2_with fail
    rw [← hW'.out.1, ← hW'.out.2]
    refine (hS _ hn).mono ?_
    rintro e w1 ⟨rfl, rfl⟩
    go_wp2
    go_ret
    exact ⟨rfl, HB.out⟩
/-- two integers are the same just if their sides and sizes are -/
theorem same_sided (a b : Int) : decide (a = b) = (decide (a < 0) == decide (b < 0) && decide (a.natAbs = b.natAbs)) := by
  rw [Bool.eq_iff_iff]
  simp only [decide_eq_true_eq, Bool.and_eq_true, beq_iff_eq, decide_eq_decide]
  omega
set_option maxHeartbeats 2000000 in
theorem rzsame_any (va vb : Value) (a b : Int) (w : World) (ha : IsZ w va a) (hb : IsZ w vb b) :
    Calls Tryz.prog 8 #[va, vb] w fun e w' => e = .returned (.bool (decide (a = b))) ∧ Below w.heap.size w w' := by
  rw [same_sided]
  obtain ⟨na, rfl, ha⟩ := ha
  obtain ⟨nb, rfl, hb⟩ := hb
  have hC := fun w ha hb => rsame_any na nb a.natAbs b.natAbs w ha hb
  generalize decide (a.natAbs = b.natAbs) = d at *
  generalize decide (a < 0) = s1 at *
  generalize decide (b < 0) = s2 at *
  rcases s1 with _ | _
  · rcases s2 with _ | _
    · obtain ⟨W0, hW, hT, hB⟩ := box2 w 25 25 #[.bool false, na] #[.bool false, nb]
      obtain ⟨g, hg⟩ : ∃ g, g = w.heap.size := ⟨_, rfl⟩
      have hW' := Lib.hid (And.intro hW hg)
      rw [← hg] at hT
      have hgw : w.heap.size ≤ g := by omega
      clear hW hg
      obtain ⟨hX, hY⟩ := hT
      replace ha := ha.below hB
      replace hb := hb.below hB
      obtain ⟨c1_hX_0, c1_hX_1⟩ := hX.cells2
      obtain ⟨c1_hY_0, c1_hY_1⟩ := hY.cells2
      go_enter Tryz.func8, Tryz.ntmps8
      go_wp2_with fail
      rw [← hW'.out.1, ← hW'.out.2]
      refine (hC _ ha hb).mono ?_
      rintro e w1 ⟨rfl, n1, hn1⟩
      have b1 : Below W0.heap.size W0 w1 := by rw [hn1]; exact below_drewN (Below.refl _ _) n1
      clear hn1
      replace ha := ha.below b1
      replace hb := hb.below b1
      replace hX := hX.below b1 hX.lt
      replace hY := hY.below b1 hY.lt
      replace hB := hB.trans (b1.mono hB.size)
      clear c1_hX_0 c1_hX_1 c1_hY_0 c1_hY_1
      obtain ⟨c2_hX_0, c2_hX_1⟩ := hX.cells2
      obtain ⟨c2_hY_0, c2_hY_1⟩ := hY.cells2
      go_wp2
      go_ret
      exact ⟨rfl, hB⟩
    · obtain ⟨W0, hW, hT, hB⟩ := box2 w 25 25 #[.bool false, na] #[.bool true, nb]
      obtain ⟨g, hg⟩ : ∃ g, g = w.heap.size := ⟨_, rfl⟩
      have hW' := Lib.hid (And.intro hW hg)
      rw [← hg] at hT
      have hgw : w.heap.size ≤ g := by omega
      clear hW hg
      obtain ⟨hX, hY⟩ := hT
      replace ha := ha.below hB
      replace hb := hb.below hB
      obtain ⟨c1_hX_0, c1_hX_1⟩ := hX.cells2
      obtain ⟨c1_hY_0, c1_hY_1⟩ := hY.cells2
      go_enter Tryz.func8, Tryz.ntmps8
      go_wp2
      go_ret
      exact ⟨rfl, by have := hB; rw [hW'.out.1] at this; exact this⟩
  · rcases s2 with _ | _
    · obtain ⟨W0, hW, hT, hB⟩ := box2 w 25 25 #[.bool true, na] #[.bool false, nb]
      obtain ⟨g, hg⟩ : ∃ g, g = w.heap.size := ⟨_, rfl⟩
      have hW' := Lib.hid (And.intro hW hg)
      rw [← hg] at hT
      have hgw : w.heap.size ≤ g := by omega
      clear hW hg
      obtain ⟨hX, hY⟩ := hT
      replace ha := ha.below hB
      replace hb := hb.below hB
      obtain ⟨c1_hX_0, c1_hX_1⟩ := hX.cells2
      obtain ⟨c1_hY_0, c1_hY_1⟩ := hY.cells2
      go_enter Tryz.func8, Tryz.ntmps8
      go_wp2
      go_ret
      exact ⟨rfl, by have := hB; rw [hW'.out.1] at this; exact this⟩
    · obtain ⟨W0, hW, hT, hB⟩ := box2 w 25 25 #[.bool true, na] #[.bool true, nb]
      obtain ⟨g, hg⟩ : ∃ g, g = w.heap.size := ⟨_, rfl⟩
      have hW' := Lib.hid (And.intro hW hg)
      rw [← hg] at hT
      have hgw : w.heap.size ≤ g := by omega
      clear hW hg
      obtain ⟨hX, hY⟩ := hT
      replace ha := ha.below hB
      replace hb := hb.below hB
      obtain ⟨c1_hX_0, c1_hX_1⟩ := hX.cells2
      obtain ⟨c1_hY_0, c1_hY_1⟩ := hY.cells2
      go_enter Tryz.func8, Tryz.ntmps8
      go_wp2_with fail
      rw [← hW'.out.1, ← hW'.out.2]
      refine (hC _ ha hb).mono ?_
      rintro e w1 ⟨rfl, n1, hn1⟩
      have b1 : Below W0.heap.size W0 w1 := by rw [hn1]; exact below_drewN (Below.refl _ _) n1
      clear hn1
      replace ha := ha.below b1
      replace hb := hb.below b1
      replace hX := hX.below b1 hX.lt
      replace hY := hY.below b1 hY.lt
      replace hB := hB.trans (b1.mono hB.size)
      clear c1_hX_0 c1_hX_1 c1_hY_0 c1_hY_1
      obtain ⟨c2_hX_0, c2_hX_1⟩ := hX.cells2
      obtain ⟨c2_hY_0, c2_hY_1⟩ := hY.cells2
      go_wp2
      go_ret
      exact ⟨rfl, hB⟩
set_option maxHeartbeats 1000000 in
theorem rzfew_any (b : Bool) (nv : Value) (l : List Nat) (m : Nat) (w : World) (h : IsL w nv l) :
    Calls Tryz.prog 21 #[.agg #[.bool b, nv], .int .i64 m] w fun e w' => e = .returned (.bool (decide (l.length ≤ m) && rightZ b l)) ∧ Below w.heap.size w w' := by
  obtain ⟨A, c, rfl, hl1, hl2, _⟩ := id h
  have hQ := fun w h => rzright_any b (.slice A l.length c) l w h
  generalize rightZ b l = r at *
  obtain ⟨W0, hW, hR, hB⟩ := box1 w 25 #[.bool b, .slice A l.length c]
  obtain ⟨g, hg⟩ : ∃ g, g = w.heap.size := ⟨_, rfl⟩
  have hW' := Lib.hid (And.intro hW hg)
  rw [← hg] at hR
  clear hW hg
  have hn := h.below hB
  have HB := Lib.hid hB
  obtain ⟨q0, q1⟩ := hR.cells2
  by_cases hf : l.length ≤ m
  · have d1 : decide ((l.length : Int) ≤ (m : Int)) = true := decide_eq_true (by omega)
    have d2 : decide (l.length ≤ m) = true := decide_eq_true hf
    rw [d2]
    go_enter Tryz.func21, Tryz.ntmps21
    go_wp2_with fail
    rw [← hW'.out.1, ← hW'.out.2]
    refine (hQ _ hn).mono ?_
    rintro e w1 ⟨rfl, b1⟩
    go_wp2
    go_ret
    exact ⟨rfl, HB.out.trans (b1.mono HB.out.size)⟩
  · have d1 : decide ((l.length : Int) ≤ (m : Int)) = false := decide_eq_false (by omega)
    have d2 : decide (l.length ≤ m) = false := decide_eq_false hf
    rw [d2]
    go_enter Tryz.func21, Tryz.ntmps21
    go_wp2
    go_ret
    exact ⟨rfl, by have := HB.out; rw [hW'.out.1] at this; exact this⟩
end Go.Proofs.YtooonjcpdbbniaaGreatDoor
