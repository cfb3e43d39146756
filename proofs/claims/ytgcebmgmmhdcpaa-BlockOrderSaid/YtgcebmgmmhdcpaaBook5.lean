/- book.Book and book.Gap, every kind. -/
import Derived.Test.YtgcebmgmmhdcpaaBook4
namespace Go.Proofs.Ytgcebmgmmhdcpaa
open Go.RowKit Go.Shelf
attribute [local go_sem] Oper.semAt_some

def bkz (k : Int) : List Int := if k = 0 then bk 0 else if k = 1 then bk 1 else if k = 2 then bk 2 else if k = 3 then bk 3 else []
def bke (k : Int) : Int := if 0 ≤ k ∧ k ≤ 3 then 0 else 1
theorem book_any (k : Int) (w : World) :
    Calls Try.prog 12 #[.int .i64 k] w fun e w' => ∃ v, e = .returned (.tuple #[v, .int .i64 (bke k)]) ∧ IsI w' v (bkz k) ∧ Below w.heap.size w w' := by
  rcases kind_cases k with rfl | rfl | rfl | rfl | ⟨h0, h1, h2, h3⟩
  · exact book_0 w
  · exact book_1 w
  · exact book_2 w
  · exact book_3 w
  · refine (book_none k w h0 h1 h2 h3).mono ?_
    rintro e w' ⟨rfl, hb⟩
    simp only [beq_eq_false_iff_ne] at h0 h1 h2 h3
    refine ⟨_, by rw [bke, if_neg (by omega)], ?_, hb⟩
    rw [bkz, if_neg h0, if_neg h1, if_neg h2, if_neg h3]
    exact IsI.nil _
def inb (l : List Int) : Bool := l.all fun x => decide (-2560000000 ≤ x ∧ x ≤ 2560000000)
theorem bk_inb : ∀ k < 4, inb (bk k) = true := by decide +kernel
theorem bkz_in (k : Int) (h : 0 ≤ k ∧ k ≤ 3) : (bkz k).length = 256 ∧ inb (bkz k) = true := by
  obtain rfl | rfl | rfl | rfl : k = 0 ∨ k = 1 ∨ k = 2 ∨ k = 3 := by omega
  · exact ⟨bk_len 0 (by omega), bk_inb 0 (by omega)⟩
  · exact ⟨bk_len 1 (by omega), bk_inb 1 (by omega)⟩
  · exact ⟨bk_len 2 (by omega), bk_inb 2 (by omega)⟩
  · exact ⟨bk_len 3 (by omega), bk_inb 3 (by omega)⟩
theorem inb_at {l : List Int} (h : inb l = true) (j : Nat) : -2560000000 ≤ iat l j ∧ iat l j ≤ 2560000000 := by
  by_cases hj : j < l.length
  · have := List.all_eq_true.1 h _ (iat_mem hj)
    simpa using this
  · unfold iat; rw [List.getElem?_eq_none (by omega)]; simp
def gapTo (l : List Int) : Nat → Int
  | 0 => 0
  | j + 1 => max (gapTo l j) (iat l (j + 1) - iat l j)
theorem gapTo_in {l : List Int} (h : inb l = true) (j : Nat) : 0 ≤ gapTo l j ∧ gapTo l j ≤ 5120000000 := by
  induction j with
  | zero => simp [gapTo]
  | succ j ih => have := inb_at h j; have := inb_at h (j + 1); simp only [gapTo]; omega
def gz (k : Int) : Int := gapTo (bkz k) ((bkz k).length - 1)
theorem run_max_int {P : Program} (t : Array TypeId) (y : TypeId) (W : World) (a b : Int) : (Builtin.max_ t y #[.int .i64 a, .int .i64 b]).run P W = .ok (.int .i64 (max a b)) W := by
  by_cases h : a < b
  · rw [Int.max_eq_right (by omega)]; simp [Builtin.max_, Builtin.max2, h]
  · rw [Int.max_eq_left (by omega)]; simp [Builtin.max_, Builtin.max2, h]

end Go.Proofs.Ytgcebmgmmhdcpaa
