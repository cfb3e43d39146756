/- Words for integers of any size: a side and limbs. The document's smallest functions on them. -/
import Derived.Test.YtbnnonmkkkhepaaSz
import Derived.Test.YtbnnonmkkkhepaaBlk
import Derived.Test.YtbnnonmkkkhepaaMath
import Derived.Deep.RegionHeld3
import Derived.Deep.DrawnRows
namespace Go.Proofs.Ytbnnonmkkkhepaa
open Go.RowKit
attribute [local go_sem ↓] Go.wp_at_zero Go.wp_at_succ

/-- the value is this integer -/
def IsZ (w : World) (v : Value) (z : Int) : Prop := ∃ nv, v = .agg #[.bool (decide (z < 0)), nv] ∧ IsN w nv z.natAbs
theorem IsZ.below {w w' : World} {v : Value} {z : Int} (h : IsZ w v z) (hb : Below w.heap.size w w') : IsZ w' v z := by
  obtain ⟨nv, e, h⟩ := h; exact ⟨nv, e, h.below hb⟩
theorem sided_neg (b : Bool) (n : Nat) : decide (sided b n < 0) = (b && decide (n ≠ 0)) := by
  unfold sided; cases b
  · simp
  · simp only [if_true, Bool.true_and]; rw [Bool.eq_iff_iff]; simp; omega
theorem sided_abs (b : Bool) (n : Nat) : (sided b n).natAbs = n := by unfold sided; cases b <;> simp
theorem IsZ.sided {w : World} {nv : Value} {b : Bool} {n : Nat} (h : IsN w nv n) : IsZ w (.agg #[.bool (b && decide (n ≠ 0)), nv]) (sided b n) :=
  ⟨nv, by rw [sided_neg], by rw [sided_abs]; exact h⟩
theorem sided_of (z : Int) : sided (decide (z < 0)) z.natAbs = z := by
  unfold sided; by_cases h : z < 0 <;> simp [h] <;> omega

set_option maxHeartbeats 1000000 in
theorem rmade_any (b : Bool) (nv : Value) (n : Nat) (w : World) (h : IsN w nv n) :
    Calls Try.prog 47 #[.bool b, nv] w fun e w' => ∃ v', e = .returned v' ∧ IsZ w' v' (sided b n) ∧ Below w.heap.size w w' := by
  have hr := fun (w' : World) (h : IsN w' nv n) => IsZ.sided (b := b) h
  have h' := h
  obtain ⟨A, c, rfl, _⟩ := h
  have hn : decide (n ≠ 0) = decide (0 < (limbs n).length) := by
    rw [Bool.eq_iff_iff]; simp only [decide_eq_true_eq]
    constructor
    · intro h0; exact List.length_pos_iff.2 (fun e => h0 (limbs_nil.1 e))
    · intro h0 e; rw [e, limbs_zero] at h0; simp at h0
  rw [hn] at hr
  have R := Lib.hid hr
  have HI := Lib.hid h'
  clear hr hn h'
  generalize (limbs n).length = m at *
  have B0 := fun b => (Below.refl w.heap.size w).alloc (Nat.le_refl _) (.cells #[.bool b, .slice A m c] 38)
  have HB := Lib.hid B0
  clear B0
  cases b
  · go_enter Try.func47, Try.ntmps47
    go_wp2
    exact bodyPost_ret (v := .agg #[.bool false, .slice A m c]) (by simp [results, Try.results47, go_sem]) rfl ⟨_, rfl, R.out _ (HI.out.below (HB.out _)), HB.out _⟩
  · by_cases hm : 0 < m
    · have R1 := fun w' h => (show IsZ w' (.agg #[.bool true, .slice A m c]) (sided true n) by have := R.out w' h; rwa [decide_eq_true hm] at this)
      have R2 := Lib.hid R1
      clear R1
      go_enter Try.func47, Try.ntmps47
      go_wp2
      exact bodyPost_ret (v := .agg #[.bool true, .slice A m c]) (by simp [results, Try.results47, go_sem]) rfl ⟨_, rfl, R2.out _ (HI.out.below (HB.out _)), HB.out _⟩
    · have R1 := fun w' h => (show IsZ w' (.agg #[.bool false, .slice A m c]) (sided true n) by have := R.out w' h; rwa [decide_eq_false hm] at this)
      have R2 := Lib.hid R1
      obtain rfl : m = 0 := by omega
      clear R1
      go_enter Try.func47, Try.ntmps47
      go_wp2
      exact bodyPost_ret (v := .agg #[.bool false, .slice A 0 c]) (by simp [results, Try.results47, go_sem]) rfl ⟨_, rfl, R2.out _ (HI.out.below (HB.out _)), HB.out _⟩
end Go.Proofs.Ytbnnonmkkkhepaa
