/- Codes of shares, plainly. No program in sight but for the words of the codebooks. -/
import Derived.Test.YtgcebmgmmhdcpaaBook5
namespace Go.Proofs.Ytgcebmgmmhdcpaa
/-- 64 bits hold it -/
def I64 (a : Int) : Prop := -9223372036854775808 ≤ a ∧ a ≤ 9223372036854775807
/-- the first place below n of which p holds, else n -/
def lowest (p : Nat → Bool) : Nat → Nat
  | 0 => 0
  | n + 1 => if lowest p n < n then lowest p n else if p n then n else n + 1
theorem lowest_ok (p : Nat → Bool) : ∀ n, lowest p n ≤ n ∧ (∀ i, i < lowest p n → p i = false) ∧ (lowest p n < n → p (lowest p n) = true)
  | 0 => ⟨Nat.le_refl _, fun i hi => by simp [lowest] at hi, fun h => by simp [lowest] at h⟩
  | n + 1 => by
    obtain ⟨h1, h2, h3⟩ := lowest_ok p n
    unfold lowest
    by_cases h : lowest p n < n
    · rw [if_pos h]; exact ⟨by omega, h2, fun _ => h3 h⟩
    · rw [if_neg h]
      have e : lowest p n = n := by omega
      rw [e] at h2
      cases hp : p n
      · rw [if_neg (by simp)]
        refine ⟨Nat.le_refl _, fun i hi => ?_, fun h => by omega⟩
        rcases Nat.lt_or_ge i n with h' | h'
        · exact h2 i h'
        · obtain rfl : i = n := by omega
          exact hp
      · rw [if_pos rfl]; exact ⟨by omega, h2, fun _ => hp⟩
theorem lowest_eq {p : Nat → Bool} {n c : Nat} (hc : c ≤ n) (h1 : ∀ i, i < c → p i = false) (h2 : c < n → p c = true) : lowest p n = c := by
  obtain ⟨k1, k2, k3⟩ := lowest_ok p n
  rcases Nat.lt_trichotomy (lowest p n) c with h | h | h
  · have a := h1 _ h
    have b := k3 (by omega)
    rw [a] at b; cases b
  · exact h
  · have a := k2 _ h
    have b := h2 (by omega)
    rw [a] at b; cases b
theorem rise1 : ∀ k < 4, (List.range 255).all (fun j => decide (iat (bk k) j < iat (bk k) (j + 1))) = true := by decide +kernel
theorem sides1 : ∀ k < 4, (List.range 256).all (fun j => decide (-den (k : Nat) ≤ iat (bk k) j) && (decide (iat (bk k) j ≤ den (k : Nat)) && (sgn (k : Nat) || decide (0 ≤ iat (bk k) j)))) = true := by decide +kernel
theorem lasts : ∀ k < 4, iat (bk k) 255 = den (k : Nat) := by decide +kernel
theorem dens : ∀ k < 4, den (k : Nat) = 2560000000 ∨ den (k : Nat) = 255 := by decide +kernel
theorem bk_lt {k : Nat} (hk : k < 4) {j : Nat} (hj : j < 255) : iat (bk k) j < iat (bk k) (j + 1) := by
  have := List.all_eq_true.1 (rise1 k hk) j (by simpa using hj)
  simpa using this
theorem bk_mono {k : Nat} (hk : k < 4) {i : Nat} : ∀ {j : Nat}, i ≤ j → j ≤ 255 → iat (bk k) i ≤ iat (bk k) j
  | 0, h, _ => by obtain rfl : i = 0 := by omega
                  exact Int.le_refl _
  | j + 1, h, h' => by
    rcases Nat.lt_or_ge i (j + 1) with hlt | hge
    · have a := bk_mono hk (i := i) (j := j) (by omega) (by omega)
      have b := bk_lt hk (j := j) (by omega)
      omega
    · obtain rfl : i = j + 1 := by omega
      exact Int.le_refl _
theorem bk_side {k : Nat} (hk : k < 4) {j : Nat} (hj : j < 256) : -den (k : Nat) ≤ iat (bk k) j ∧ iat (bk k) j ≤ den (k : Nat) ∧ (sgn (k : Nat) = true ∨ 0 ≤ iat (bk k) j) := by
  have := List.all_eq_true.1 (sides1 k hk) j (by simpa using hj)
  simpa using this
theorem iat_out {l : List Int} {j : Nat} (h : l.length ≤ j) : iat l j = 0 := by unfold iat; rw [List.getElem?_eq_none h]; rfl
theorem bk_in {k : Nat} (hk : k < 4) (j : Nat) : -2560000000 ≤ iat (bk k) j ∧ iat (bk k) j ≤ 2560000000 := by
  rcases Nat.lt_or_ge j 256 with h | h
  · obtain ⟨h1, h2, _⟩ := bk_side hk h
    rcases dens k hk with e | e <;> rw [e] at h1 h2 <;> omega
  · rw [iat_out (by rw [bk_len k hk]; exact h)]; omega
/-- is a share no more than the middle behind place i? -/
def pAt (n : Nat) (num d : Int) (i : Nat) : Bool := decide (num * (2 * den (n : Nat)) ≤ (iat (bk n) i + iat (bk n) (i + 1)) * d)
def share (k num d : Int) : Bool := decide (0 ≤ k ∧ k ≤ 3) && (decide (1 ≤ d) && (decide (num ≤ d) && (decide (-d ≤ num) && (decide (0 ≤ num) || sgn k))))
def codeOf (k num d : Int) : Nat := if share k num d then lowest (pAt k.toNat num d) 255 else 0
def codeE (k num d : Int) : Int := if share k num d then 0 else 1
theorem codeOf_le (k num d : Int) : codeOf k num d ≤ 255 := by unfold codeOf; split; exact (lowest_ok _ _).1; omega
theorem pAt_mono {n : Nat} (hn : n < 4) {num d : Int} (hd : 1 ≤ d) {i j : Nat} (h : i ≤ j) (hj : j < 255) (hp : pAt n num d i = true) : pAt n num d j = true := by
  unfold pAt at *
  have h1 := bk_mono hn (i := i) (j := j) h (by omega)
  have h2 := bk_mono hn (i := i + 1) (j := j + 1) (by omega) (by omega)
  have := Int.mul_le_mul_of_nonneg_right (show iat (bk n) i + iat (bk n) (i + 1) ≤ iat (bk n) j + iat (bk n) (j + 1) by omega) (show 0 ≤ d by omega)
  simp only [decide_eq_true_eq] at *
  omega
theorem cmpI_le (x y : Int) : decide (cmpI x y ≤ 0) = decide (x ≤ y) := by
  unfold cmpI
  by_cases h : x < y
  · rw [if_pos h]; simp; omega
  · rw [if_neg h]
    by_cases h2 : y < x
    · rw [Bool.eq_iff_iff]; simp; (try split) <;> omega
    · rw [Bool.eq_iff_iff]; simp; (try split) <;> omega
end Go.Proofs.Ytgcebmgmmhdcpaa
