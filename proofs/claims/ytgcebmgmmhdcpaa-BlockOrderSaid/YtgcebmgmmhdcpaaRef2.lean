/- Walks of the reference's sums, differences and products, by figures of 32 bits. -/
import Derived.Test.YtgcebmgmmhdcpaaRef1
import Derived.Test.YtgcebmgmmhdcpaaArr
import Derived.Test.YtgcebmgmmhdcpaaMath
import Derived.Deep.RegionLaw
import Derived.Maps.AppendAt
import Derived.Deep.DeepMust
namespace Go.Proofs.Ytgcebmgmmhdcpaa
open Go.RowKit

theorem run_max_nat {P : Program} (t : Array TypeId) (y : TypeId) (W : World) (a b : Nat) : (Builtin.max_ t y #[.int .i64 a, .int .i64 b]).run P W = .ok (.int .i64 ((max a b : Nat) : Int)) W := by
  rcases Nat.le_total a b with h | h
  · rw [Nat.max_eq_right h]
    by_cases e : a = b
    · subst e; simp [Builtin.max_, Builtin.max2]
    · have : (a : Int) < b := by omega
      simp [Builtin.max_, Builtin.max2, this]
  · rw [Nat.max_eq_left h]
    have : ¬ (a : Int) < b := by omega
    simp [Builtin.max_, Builtin.max2, this]

theorem hide64 (n : Nat) (h : n < W64) : ((n : Nat) : Int) ≤ 18446744073709551615 := by unfold W64 at h; omega
theorem hmod (n : Nat) : ((n : Nat) : Int) % 4294967296 = ((n % H32 : Nat) : Int) := by unfold H32; omega
theorem hdiv (n : Nat) : ((n : Nat) : Int) / 4294967296 = ((n / H32 : Nat) : Int) := by unfold H32; omega

theorem us_append (a b : List Nat) : us (a ++ b) = us a ++ us b := by simp [us]
end Go.Proofs.Ytgcebmgmmhdcpaa
namespace Go.Proofs.Ytgcebmgmmhdcpaa
open Go.RowKit

/-- a slice that reads as figures of 32 bits -/
def IsH (w : World) (v : Value) (l : List Nat) : Prop := IsL w v l ∧ Bh l
theorem IsL.bd {w : World} {v : Value} {l : List Nat} (h : IsL w v l) : Bd l := by obtain ⟨_, _, _, _, _, h, _⟩ := h; exact h
theorem hbound {l : List Nat} (h : Bh l) (i : Nat) : ((lat l i : Nat) : Int) ≤ 4294967295 := by have := h.lat i; unfold H32 at this; omega

end Go.Proofs.Ytgcebmgmmhdcpaa
