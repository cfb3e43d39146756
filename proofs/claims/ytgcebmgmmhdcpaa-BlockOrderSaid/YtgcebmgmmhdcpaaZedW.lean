/- Words for integers of any size: a side and limbs. The document's smallest functions on them. -/
import Derived.Test.YtgcebmgmmhdcpaaSz
import Derived.Test.YtgcebmgmmhdcpaaBlk
import Derived.Test.YtgcebmgmmhdcpaaMath
import Derived.Deep.RegionHeld3
import Derived.Deep.DrawnRows
namespace Go.Proofs.Ytgcebmgmmhdcpaa
open Go.RowKit
attribute [local go_sem ↓] Go.wp_at_zero Go.wp_at_succ

/-- the value is this integer -/
def IsZ (w : World) (v : Value) (z : Int) : Prop := ∃ nv, v = .agg #[.bool (decide (z < 0)), nv] ∧ IsN w nv z.natAbs
theorem IsZ.below {w w' : World} {v : Value} {z : Int} (h : IsZ w v z) (hb : Below w.heap.size w w') : IsZ w' v z := by
  obtain ⟨nv, e, h⟩ := h; exact ⟨nv, e, h.below hb⟩
theorem sided_neg (b : Bool) (n : Nat) : decide (sided b n < 0) = (b && decide (n ≠ 0)) := by
  unfold sided; cases b
  · simp
  · simp only [if_true, Bool.true_and]; rw [Bool.eq_iff_iff]; simp; omega
theorem sided_abs (b : Bool) (n : Nat) : (sided b n).natAbs = n := by unfold sided; cases b <;> simp
theorem IsZ.sided {w : World} {nv : Value} {b : Bool} {n : Nat} (h : IsN w nv n) : IsZ w (.agg #[.bool (b && decide (n ≠ 0)), nv]) (sided b n) :=
  ⟨nv, by rw [sided_neg], by rw [sided_abs]; exact h⟩
theorem sided_of (z : Int) : sided (decide (z < 0)) z.natAbs = z := by
  unfold sided; by_cases h : z < 0 <;> simp [h] <;> omega

end Go.Proofs.Ytgcebmgmmhdcpaa
