/- The document's integers: the other way round, products, small ones. -/
import Derived.Test.YtgcebmgmmhdcpaaBox
namespace Go.Proofs.Ytgcebmgmmhdcpaa
open Go.RowKit
attribute [local go_sem ↓] Go.wp_at_zero Go.wp_at_succ

theorem sided_mul (s1 s2 : Bool) (x y : Nat) : sided s1 x * sided s2 y = sided (s1 != s2) (x * y) := by
  cases s1 <;> cases s2 <;> simp [sided, Int.neg_mul, Int.mul_neg]
theorem mul_sided (a b : Int) : sided (decide (a < 0) != decide (b < 0)) (a.natAbs * b.natAbs) = a * b := by
  rw [← sided_mul, sided_of, sided_of]
end Go.Proofs.Ytgcebmgmmhdcpaa
