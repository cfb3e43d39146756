/- The runes of a text of figures: no program in sight. -/
import Derived.Test.YtooonjcpdbbniaaGreatDoorTextR
import Derived.Laws.RangeAny
namespace Go.Proofs.YtooonjcpdbbniaaGreatDoor
open Go.Lib
/-- a figure is its own rune, one byte wide -/
theorem rune_fig (s : ByteArray) (i : Nat) (h : i < s.size) (hf : figB (s[i]'h) = true) : Utf8.decode s i = ((s[i]'h).toNat, 1) := by
  unfold figB at hf
  rw [Bool.and_eq_true, decide_eq_true_eq, decide_eq_true_eq] at hf
  exact decode_ascii s i h (by omega)
/-- whatever is no figure is no figure's rune -/
theorem rune_not (s : ByteArray) (i : Nat) (h : i < s.size) (hf : figB (s[i]'h) = false) : ¬ (48 ≤ (Utf8.decode s i).1 ∧ (Utf8.decode s i).1 ≤ 57) := by
  rcases Nat.lt_or_ge (s[i]'h).toNat 128 with h' | h'
  · rw [decode_ascii s i h h']
    unfold figB at hf
    rintro ⟨h1, h2⟩
    simp only at h1 h2
    rw [decide_eq_true h1, decide_eq_true h2] at hf
    cases hf
  · have := (decode_high s i h h').1
    omega
end Go.Proofs.YtooonjcpdbbniaaGreatDoor
