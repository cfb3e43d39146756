/- The live question of layer 9. -/
import Derived.Test.YtgcebmgmmhdcpaaBook5
import Derived.Test.YtgcebmgmmhdcpaaLawRow
namespace Go.Proofs.Ytgcebmgmmhdcpaa
open Go.RowKit

/-- a slice of integers that is not empty: where it lies, and its cells -/
theorem IsI.open_ {w : World} {v : Value} {l : List Int} (h : IsI w v l) (hl : 0 < l.length) : ∃ (ad : Addr) (c : Nat), v = .slice (some ad) l.length c ∧ l.length ≤ c ∧ c ≤ 9223372036854775807 ∧ ad.block < w.heap.size ∧ w.cell? ad = some (.int .i64 (iat l 0)) ∧ ∀ j, j < l.length → w.cell? (ad.add j) = some (.int .i64 (iat l j)) := by
  obtain ⟨A, c, rfl, hc1, hc2, hR⟩ := h
  obtain ⟨ad, rfl, hb, h0⟩ := is_cell hR hl
  refine ⟨ad, c, rfl, hc1, hc2, hb, by simpa [Addr.add] using h0, fun j hj => ?_⟩
  obtain ⟨ad', e, _, h⟩ := is_cell hR hj
  cases e; exact h
theorem bkz_nat (k : Nat) (hk : k < 4) : bkz (k : Nat) = bk k := by
  obtain rfl | rfl | rfl | rfl : k = 0 ∨ k = 1 ∨ k = 2 ∨ k = 3 := by omega
  all_goals rfl
theorem gz_3 : gz 3 = 1 := by decide +kernel
theorem at255 : ∀ k < 4, iat (bk k) 255 = den (k : Nat) := by decide +kernel
end Go.Proofs.Ytgcebmgmmhdcpaa
