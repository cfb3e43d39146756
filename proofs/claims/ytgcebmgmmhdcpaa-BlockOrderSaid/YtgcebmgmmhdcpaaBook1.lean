/- book.Book: the numbers of each kind; small functions of layer 9. -/
import Derived.Test.YtgcebmgmmhdcpaaDecade
import Derived.Test.YtgcebmgmmhdcpaaSort
import Derived.RangeFuncBox
import Derived.RangeFuncWrites
import Derived.Maps.AppendAt
import Derived.Deep.DeepMust
namespace Go.Proofs.Ytgcebmgmmhdcpaa
open Go.RowKit Go.Shelf
attribute [local go_sem] Oper.semAt_some

def sgn (k : Int) : Bool := k == 0 || k == 2
def den (k : Int) : Int := if k = 0 ∨ k = 1 then 2560000000 else if k = 2 ∨ k = 3 then 255 else 0
theorem kind_cases (k : Int) : k = 0 ∨ k = 1 ∨ k = 2 ∨ k = 3 ∨ ((k == 0) = false ∧ (k == 1) = false ∧ (k == 2) = false ∧ (k == 3) = false) := by
  simp only [beq_eq_false_iff_ne]; omega
set_option maxHeartbeats 400000 in
theorem signed_any (k : Int) (w : World) : Calls Try.prog 13 #[.int .i64 k] w fun e w' => e = .returned (.bool (sgn k)) ∧ w = w' := by
  rcases kind_cases k with rfl | rfl | rfl | rfl | ⟨h0, h1, h2, h3⟩
  all_goals
    go_enter Try.func13, Try.ntmps13
    go_wp2
    go_ret
  all_goals first | exact ⟨rfl, rfl⟩ | exact ⟨ret_bool (by simp [sgn, h0, h2]), rfl⟩
set_option maxHeartbeats 400000 in
theorem den_any (k : Int) (w : World) : Calls Try.prog 27 #[.int .i64 k] w fun e w' => e = .returned (.int .i64 (den k)) ∧ w = w' := by
  rcases kind_cases k with rfl | rfl | rfl | rfl | ⟨h0, h1, h2, h3⟩
  all_goals
    go_enter Try.func27, Try.ntmps27
    go_wp2
    go_ret
  all_goals first | exact ⟨rfl, rfl⟩ | exact ⟨ret_int (by simp at h0 h1 h2 h3; simp [den, h0, h1, h2, h3]), rfl⟩
set_option maxHeartbeats 400000 in
theorem decade_any (b : Bool) (w : World) : Calls Try.prog 22 #[.bool b] w fun e w' => e = .returned (.func (.func 31) #[] #[.pointer (some ⟨w.heap.size, 0, none⟩)]) ∧ w' = w.alloc (.cells #[.bool b] 4) := by
  have hmf : ∀ (fn : Fn) (first cap : Array Value) (w : World), (Instr.makeFunc fn first cap).run Try.prog w = .ok (.func fn first cap) w := fun _ _ _ _ => rfl
  go_enter Try.func22, Try.ntmps22
  go_wp2
  go_ret
  exact ⟨rfl, rfl⟩
end Go.Proofs.Ytgcebmgmmhdcpaa
