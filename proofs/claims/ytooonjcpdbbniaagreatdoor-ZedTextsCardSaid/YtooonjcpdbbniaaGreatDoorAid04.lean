/- What the laws of layer 4 share: right integers, and how long texts are. -/
import Derived.Test.YtooonjcpdbbniaaGreatDoorAlive04
namespace Go.Proofs.YtooonjcpdbbniaaGreatDoor
open Go.RowKit Go.Lib Go.Shelf
theorem rzright_good (v : Value) (z : Int) (w : World) (h : IsZ w v z) :
    Calls Tryz.prog 7 #[v] w fun e w' => e = .returned (.bool true) ∧ Below w.heap.size w w' := by
  obtain ⟨nv, rfl, hn⟩ := h
  refine (rzright_any _ nv _ w hn).mono ?_
  rintro e w' ⟨rfl, hb⟩
  exact ⟨by rw [rightZ_of], hb⟩
/-- a right integer is one -/
theorem isZ_right {w : World} {b : Bool} {nv : Value} {l : List Nat} (h : IsL w nv l) (hr : rightZ b l = true) : IsZ w (.agg #[.bool b, nv]) (sided b (num l)) ∧ (limbs (sided b (num l)).natAbs).length = l.length := by
  unfold rightZ at hr
  rw [Bool.and_eq_true, decide_eq_true_eq] at hr
  have hl : limbs (num l) = l := limbs_num l h.bd hr.1
  have hn : (sided b (num l)).natAbs = num l := by unfold sided; split <;> omega
  have hd : decide (sided b (num l) < 0) = b := by
    rw [sided_neg]
    cases b
    · rfl
    · have h0 : l.length ≠ 0 := by have := hr.2; simpa using this
      have : num l ≠ 0 := fun e => h0 (by rw [← hl, e, limbs_zero]; rfl)
      simp [this]
  refine ⟨⟨nv, by rw [hd], ?_⟩, by rw [hn, hl]⟩
  rw [hn]; unfold IsN; rw [hl]; exact h
theorem big10 : W64 ^ 10 ≤ 10 ^ 193 := by decide +kernel
theorem dec_200 {n : Nat} (h : (limbs n).length ≤ 10) : (decDigits n).length ≤ 193 := dec_len 193 n (by decide) (Nat.lt_of_lt_of_le (lt_of_limbs_len h) big10)
theorem itoa_len (z : Int) : (itoa z).length ≤ (decDigits z.natAbs).length + 1 := by
  unfold itoa; split
  · simp
  · have : z.toNat = z.natAbs := by omega
    rw [this]; omega
theorem dec_le_itoa (z : Int) : (decDigits z.natAbs).length ≤ (itoa z).length := by
  unfold itoa; split
  · simp
  · have : z.toNat = z.natAbs := by omega
    rw [this]; omega
theorem limbs_dec {n k : Nat} (h : (decDigits n).length ≤ k) : (limbs n).length ≤ k := by
  refine limbs_len_le ?_
  have h1 := valT_lt _ (dec_figs n)
  rw [val_dec] at h1
  have h2 : 10 ^ (decDigits n).length ≤ W64 ^ k := Nat.le_trans (Nat.pow_le_pow_right (by decide) h) (Nat.pow_le_pow_left (by decide) k)
  omega
end Go.Proofs.YtooonjcpdbbniaaGreatDoor
