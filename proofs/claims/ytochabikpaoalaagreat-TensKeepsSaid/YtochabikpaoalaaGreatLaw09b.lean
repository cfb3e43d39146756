/- The laws of layer 9 without the document's answer: RISING and SIDES. -/
import Derived.Test.YtochabikpaoalaaGreatLaw09
import Derived.Test.YtochabikpaoalaaGreatBase
import Derived.Test.YtochabikpaoalaaGreatLawRow
import Derived.Deep.QuietTactic
import Derived.BigQuiet
import Derived.Outline
namespace Go.Proofs.YtochabikpaoalaaGreat
open Go.ChangeShapes Go.WideShapes Go.ChangeAt Go.RowKit

/-- is it among the first of them? -/
def anyTo (l : List Int) (x : Int) (j : Nat) : Bool := (List.range j).any fun i => iat l i == x
theorem anyTo_zero (l : List Int) (x : Int) : anyTo l x 0 = false := rfl
theorem anyTo_succ (l : List Int) (x : Int) (j : Nat) : anyTo l x (j + 1) = (anyTo l x j || iat l j == x) := by simp [anyTo, List.range_succ]
def rises (k : Nat) : Bool := (List.range 256).all fun j => j == 0 || decide (iat (bk k) (j - 1) < iat (bk k) j)
theorem rises_ok : ∀ k < 4, rises k = true := by decide +kernel
theorem noughts : ∀ k < 4, anyTo (bk k) 0 256 = (k != 2) := by decide +kernel
theorem firsts : ∀ k < 4, (if sgn (k : Nat) then decide (iat (bk k) 0 < 0) else iat (bk k) 0 == 0) = true := by decide +kernel
theorem rises_at (k : Nat) (hk : k < 4) (j : Nat) (hj : j < 256) (h0 : 0 < j) : iat (bk k) (j - 1) < iat (bk k) j := by
  have := List.all_eq_true.1 (rises_ok k hk) j (by simpa using hj)
  simp at this; omega
theorem wf_u8 {n : Int} (h : (Lit.int .u8 n).wf = true) : 0 ≤ n ∧ n < 256 := by
  have h1 : IntKind.u8.min = 0 := rfl
  have h2 : IntKind.u8.max = 255 := rfl
  simp only [Lit.wf, Bool.and_eq_true, decide_eq_true_eq] at h
  omega
theorem gap_none (k : Int) (h : ¬ (0 ≤ k ∧ k ≤ 3)) : gz k = 0 ∧ den k = 0 ∧ bkz k = [] ∧ bke k = 1 := by
  have hb : bkz k = [] := by rw [bkz, if_neg (by omega), if_neg (by omega), if_neg (by omega), if_neg (by omega)]
  refine ⟨by rw [gz, hb]; rfl, by rw [den, if_neg (by omega), if_neg (by omega)], hb, by rw [bke, if_neg h]⟩

end Go.Proofs.YtochabikpaoalaaGreat
