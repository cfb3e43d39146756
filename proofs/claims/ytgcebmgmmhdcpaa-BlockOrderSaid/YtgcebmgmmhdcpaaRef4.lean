/- Walks of the reference's Sub and Mul. -/
import Derived.Test.YtgcebmgmmhdcpaaRef2
import Derived.Test.YtgcebmgmmhdcpaaSmall
namespace Go.Proofs.Ytgcebmgmmhdcpaa
open Go.RowKit

theorem new_cell (w : World) (t : TypeId) (u : Value) : (w.alloc (.cells #[u] t)).cell? ⟨w.heap.size, 0, none⟩ = some u := by rw [World.cell?_alloc_at _ _ _ _ rfl]; rfl
theorem own_drewN {w : World} {base : Nat} {e : TypeId} {size : Nat} {v : Value} {n : Nat} {xs : List Value} (h : w.ownsRow base e size v n xs) (k : Nat) : (w.drewN k).ownsRow base e size v n xs := h
theorem IsL.drewN {w : World} {v : Value} {l : List Nat} (h : IsL w v l) (n : Nat) : IsL (w.drewN n) v l := h.below (below_drewN (Below.refl _ _) n)
end Go.Proofs.Ytgcebmgmmhdcpaa
