/- Codebooks, plainly: the numbers of each kind. No program in sight. -/
namespace Go.Proofs.Ytgcebmgmmhdcpaa
/-- a tree's numbers of decade r, of n a side -/
def decs (n : Nat) (ten : Int) : List Int := (List.range n).map fun (j : Nat) => (2 * (n : Int) + 9 * (2 * (j : Int) + 1)) * (128 / (n : Int)) * ten
/-- a tree's numbers above nought but the last one, decade by decade -/
def dec (n0 : Nat) : Nat → List Int
  | 0 => []
  | r + 1 => dec n0 r ++ decs (n0 * 2 ^ r) (10 ^ r)
/-- numbers with their other sides -/
def both : List Int → List Int
  | [] => []
  | x :: r => x :: -x :: both r
theorem both_snoc (l : List Int) (x : Int) : both (l ++ [x]) = both l ++ [x, -x] := by
  induction l with
  | nil => rfl
  | cons y r ih => simp [both, ih]
/-- the numbers of a kind, as the program lays them -/
def laid : Nat → List Int
  | 0 => [0, 2560000000] ++ both (dec 1 7)
  | 1 => [0, 2560000000] ++ dec 2 7
  | 2 => (List.range 256).map fun (c : Nat) => 2 * (c : Int) - 255
  | _ => (List.range 256).map fun (c : Nat) => (c : Int)
/-- the numbers of a kind, rising -/
def bk : Nat → List Int
  | 0 => (dec 1 7).reverse.map (fun x => -x) ++ [0] ++ dec 1 7 ++ [2560000000]
  | 1 => [0] ++ dec 2 7 ++ [2560000000]
  | 2 => (List.range 256).map fun (c : Nat) => 2 * (c : Int) - 255
  | _ => (List.range 256).map fun (c : Nat) => (c : Int)
def rising : List Int → Bool
  | x :: y :: r => decide (x < y) && rising (y :: r)
  | _ => true
theorem bk_rising : ∀ k < 4, rising (bk k) = true := by decide +kernel
theorem bk_len : ∀ k < 4, (bk k).length = 256 := by decide +kernel
theorem laid_perm : ∀ k < 4, (laid k).isPerm (bk k) = true := by decide +kernel
theorem rising_pairwise {l : List Int} (h : rising l = true) : l.Pairwise (· < ·) := by
  induction l with
  | nil => exact List.Pairwise.nil
  | cons x r ih =>
    cases r with
    | nil => simp
    | cons y s =>
      simp only [rising, Bool.and_eq_true, decide_eq_true_eq] at h
      have h2 := ih h.2
      refine List.Pairwise.cons ?_ h2
      intro z hz
      rcases List.mem_cons.1 hz with rfl | hz
      · exact h.1
      · have := (List.pairwise_cons.1 h2).1 z hz; omega
theorem sort_laid (k : Nat) (hk : k < 4) : (laid k).mergeSort (fun x y => decide (x ≤ y)) = bk k := by
  have hp : (laid k).Perm (bk k) := List.isPerm_iff.1 (laid_perm k hk)
  have h1 : ((laid k).mergeSort (fun x y => decide (x ≤ y))).Pairwise (fun x y => decide (x ≤ y) = true) :=
    List.pairwise_mergeSort (fun a b c hab hbc => by simp at *; omega) (fun a b => by simp; omega) _
  have h2 : (bk k).Pairwise (fun x y => decide (x ≤ y) = true) := (rising_pairwise (bk_rising k hk)).imp (fun h => by simp; omega)
  refine List.Perm.eq_of_pairwise (le := fun x y => decide (x ≤ y) = true) ?_ h1 h2 ((List.mergeSort_perm _ _).trans hp)
  intro a b _ _ hab hba
  simp at hab hba
  omega
end Go.Proofs.Ytgcebmgmmhdcpaa
