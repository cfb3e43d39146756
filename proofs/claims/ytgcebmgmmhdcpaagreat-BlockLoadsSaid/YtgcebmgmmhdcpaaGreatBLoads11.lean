/- A right block that is loaded has as many numbers as it says, none greater than Scale, whatever its side, none below 0, if its kind is not signed. No conditions: every input. Printed by gen_loads11.py. -/
import Derived.Test.YtgcebmgmmhdcpaaGreatBLoads11a
import Derived.Test.YtgcebmgmmhdcpaaGreatBLoads11b
namespace Go.Proofs.YtgcebmgmmhdcpaaGreat
open Go.ChangeShapes Go.WideShapes Go.ChangeAt Go.RowKit
attribute [local go_sem ↓] Go.wp_at_zero Go.wp_at_succ
theorem BlockLoads_all (v : Value) (k : Int) (s : Int) (cs : List Nat) (wd : List Int) (w : World) (hu : IsBk w v k s cs wd) (l1 : cs.length ≤ 140737488351232) (l2 : wd.length ≤ 17592186044416) (is : I64 s) :
    Calls Tryz.prog 6 #[v] w fun e w' => e = .returned (.bool true) ∧ Below w.heap.size w w' := by
  by_cases h : (cs.length : Int) + wd.length ≤ 20
  · cases hr : blkR k s cs wd
    · exact BlockLoads_b v k s cs wd w hu l1 l2 h hr
    · rcases blkR_cases hr with rfl | ⟨n, hn, rfl, hs, rfl⟩
      · have hc := blkR_wide hr
        exact BlockLoads_wide v s cs wd w hu l1 l2 h hr wd (by rw [hc]; simp) (fun v w h => load_wide v 4 s cs wd w h rfl l2)
      · have hy : ∀ c ∈ cs, c < 256 := by obtain ⟨_, _, _, hy, _⟩ := hu; exact hy.by_
        exact BlockLoads_coded v n hn s cs [] w hu l1 l2 h hr (loadC n s cs) (by unfold loadC; simp) (fun v w h => load_coded v n s cs [] w h hn hs is.2 (by simp at *; omega)) is hs (fun x hx => load_mem hn hs hy hx)
  · exact BlockLoads_a v k s cs wd w hu l1 l2 h
end Go.Proofs.YtgcebmgmmhdcpaaGreat
