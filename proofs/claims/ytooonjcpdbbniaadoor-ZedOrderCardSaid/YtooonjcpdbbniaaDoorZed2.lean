/- The document's integers: small ones, which is greater, sums. Printed by gen_zed2.py. -/
import Derived.Test.YtooonjcpdbbniaaDoorZedW
import Derived.Test.YtooonjcpdbbniaaDoorDivM
namespace Go.Proofs.YtooonjcpdbbniaaDoor
open Go.RowKit
attribute [local go_sem ↓] Go.wp_at_zero Go.wp_at_succ

/-- of two integers, by sides and sizes -/
theorem cmp_sided (a b : Int) : cmpI a b = if decide (a < 0) = decide (b < 0) then (if decide (a < 0) = true then -cmpI a.natAbs b.natAbs else cmpI a.natAbs b.natAbs) else if decide (a < 0) = true then -1 else 1 := by
  unfold cmpI
  by_cases ha : a < 0 <;> by_cases hb : b < 0 <;> simp only [ha, hb, decide_true, decide_false, if_true, if_false, Bool.false_eq_true, Bool.true_eq_false] <;> (repeat' split) <;> omega
theorem limb1 {n : Nat} (h : n < W64) : (limbs n).length ≤ 1 ∧ lat (limbs n) 0 = n := by
  refine ⟨limbs_len_le (by rwa [Nat.pow_one]), ?_⟩
  rw [lat_limbs, Nat.pow_zero, Nat.div_one, Nat.mod_eq_of_lt h]
end Go.Proofs.YtooonjcpdbbniaaDoor
namespace Go.Proofs.YtooonjcpdbbniaaDoor
open Go.RowKit
attribute [local go_sem ↓] Go.wp_at_zero Go.wp_at_succ

theorem sided_add_same (s : Bool) (x y : Nat) : sided s x + sided s y = sided s (x + y) := by cases s <;> simp [sided] <;> omega
theorem sided_add_ge (s t : Bool) (x y : Nat) (h : s ≠ t) (hle : y ≤ x) : sided s x + sided t y = sided s (x - y) := by cases s <;> cases t <;> simp [sided] at * <;> omega
theorem sided_add_lt (s t : Bool) (x y : Nat) (h : s ≠ t) (hlt : x < y) : sided s x + sided t y = sided t (y - x) := by cases s <;> cases t <;> simp [sided] at * <;> omega
end Go.Proofs.YtooonjcpdbbniaaDoor
