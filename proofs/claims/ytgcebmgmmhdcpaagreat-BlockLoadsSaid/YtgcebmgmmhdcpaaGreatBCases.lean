/- Right blocks, by cases. No program in sight. -/
import Derived.Test.YtgcebmgmmhdcpaaGreatBlockM
namespace Go.Proofs.YtgcebmgmmhdcpaaGreat
theorem blkR_cases {k s : Int} {cs : List Nat} {wd : List Int} (h : blkR k s cs wd = true) : (k = 4) ∨ (∃ n : Nat, n < 4 ∧ k = n ∧ 0 ≤ s ∧ wd = []) := by
  unfold blkR at h
  by_cases hk : k = 4
  · exact .inl hk
  · rw [if_neg hk] at h
    simp only [Bool.and_eq_true, decide_eq_true_eq] at h
    obtain ⟨_, h1, h2, h3, _⟩ := h
    obtain ⟨n, rfl, hn⟩ := kind_nat h1
    exact .inr ⟨n, hn, rfl, h3, h2⟩
theorem blkR_wide {s : Int} {cs : List Nat} {wd : List Int} (h : blkR 4 s cs wd = true) : cs = [] := by
  unfold blkR at h
  rw [if_pos rfl] at h
  simp only [Bool.and_eq_true, decide_eq_true_eq] at h
  exact h.2.2.1
end Go.Proofs.YtgcebmgmmhdcpaaGreat
