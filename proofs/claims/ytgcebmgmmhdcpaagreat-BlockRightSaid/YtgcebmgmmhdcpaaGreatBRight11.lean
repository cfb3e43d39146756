/- RIGHT: what is packed is right, as long, and of the kind; what is loaded of a right one has no number whose size is above Scale; packed of it again by Wide it is there as it is. No conditions: every input. Printed by gen_loads11.py. -/
import Derived.Test.YtgcebmgmmhdcpaaGreatBRight11a
import Derived.Test.YtgcebmgmmhdcpaaGreatBRight11b
import Derived.Test.YtgcebmgmmhdcpaaGreatBRight11c
import Derived.Test.YtgcebmgmmhdcpaaGreatBRight11d
namespace Go.Proofs.YtgcebmgmmhdcpaaGreat
open Go.ChangeShapes Go.WideShapes Go.ChangeAt Go.RowKit
attribute [local go_sem ↓] Go.wp_at_zero Go.wp_at_succ
theorem BlockRight_all (v : Value) (k : Int) (l : List Int) (w : World) (h : IsI w v l) (iL : ∀ x ∈ l, I64 x) :
    Calls Tryz.prog 5 #[.int .i64 k, v] w fun e w' => e = .returned (.bool true) ∧ Below w.heap.size w w' := by
  by_cases hl : 20 < l.length
  · exact BlockRight_few v k l w h hl
  by_cases hk : 0 ≤ k ∧ k ≤ 3
  · obtain ⟨n, rfl, hn⟩ := kind_nat hk
    cases ho : l.any (oddB (sgn (n : Nat)))
    · cases hsg : sgn (n : Nat)
      · exact BlockRight_plain v n hn l w h hl iL ho hsg
      · exact BlockRight_signed v n hn l w h hl iL ho hsg
    · exact BlockRight_no v n l w h hl (fun w h => pack_odd n v l w h hk ho)
  · by_cases hk4 : k = 4
    · subst hk4
      cases ho : l.any (oddB true)
      · exact BlockRight_wide v l w h hl iL ho
      · exact BlockRight_no v 4 l w h hl (fun w h => pack_oddw 4 v l w h rfl ho)
    · exact BlockRight_no v k l w h hl (fun w h => pack_kind k v l w h (by omega))
end Go.Proofs.YtgcebmgmmhdcpaaGreat
