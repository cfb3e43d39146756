/- Rationals, plainly: sizes of parts, the nearest mantissa. No program in sight. -/
import Derived.Test.YtgcebmgmmhdcpaaSz
import Derived.Test.YtgcebmgmmhdcpaaZed1
namespace Go.Proofs.Ytgcebmgmmhdcpaa

def cmpQ (a b : Rat) : Int := cmpI (a.num * b.den) (b.num * a.den)
def absQ (a : Rat) : Rat := if a.num < 0 then -a else a
theorem absQ_num (a : Rat) : (absQ a).num = a.num.natAbs := by
  unfold absQ; split
  · rw [Rat.neg_num]; omega
  · omega
theorem absQ_den (a : Rat) : (absQ a).den = a.den := by
  unfold absQ; split
  · rw [Rat.neg_den]
  · rfl
theorem mk_num (p : Int) (q : Nat) (hq : q ≠ 0) : (mkRat p q).num.natAbs = p.natAbs / Nat.gcd p.natAbs q ∧ (mkRat p q).den = q / Nat.gcd p.natAbs q ∧ decide ((mkRat p q).num < 0) = decide (p < 0) := by
  rw [Rat.num_mkRat, Rat.den_mkRat, if_neg hq, if_neg hq, Nat.gcd_comm]
  have hd := Nat.gcd_dvd_left p.natAbs q
  have hpos : 0 < Nat.gcd p.natAbs q := Nat.gcd_pos_of_pos_right _ (Nat.pos_of_ne_zero hq)
  generalize Nat.gcd p.natAbs q = g at *
  have hdi : (g : Int) ∣ p := Int.dvd_natAbs.1 (Int.natCast_dvd_natCast.2 hd)
  refine ⟨?_, rfl, ?_⟩
  · rw [Int.natAbs_ediv_of_dvd hdi]; simp
  · rw [Bool.eq_iff_iff]; simp only [decide_eq_true_eq]
    obtain ⟨c, rfl⟩ := hdi
    rw [Int.mul_ediv_cancel_left _ (by omega)]
    constructor
    · intro h; exact Int.mul_neg_of_pos_of_neg (by omega) h
    · intro h
      rcases Int.lt_or_le c 0 with h1 | h1
      · exact h1
      · have := Int.mul_nonneg (show (0 : Int) ≤ g by omega) h1; omega
/-- parts of at most so many limbs -/
def BQ (r : Rat) (k : Nat) : Prop := Sz r.num.natAbs k ∧ Sz r.den k
theorem BQ.mk {p : Int} {q k : Nat} (hp : Sz p.natAbs k) (hq : Sz q k) (h1 : 1 ≤ k) : BQ (mkRat p q) k := by
  by_cases h : q = 0
  · subst h; rw [Rat.mkRat_zero]; exact ⟨Sz.more Sz.zero (by omega), Sz.more Sz.one h1⟩
  · obtain ⟨h1, h2, _⟩ := mk_num p q h
    exact ⟨by rw [h1]; exact hp.le (Nat.div_le_self _ _), by rw [h2]; exact hq.le (Nat.div_le_self _ _)⟩
theorem Sz.imul {a b : Int} {k m : Nat} (ha : Sz a.natAbs k) (hb : Sz b.natAbs m) : Sz (a * b).natAbs (k + m) := by rw [Int.natAbs_mul]; exact ha.mul hb
theorem Sz.iadd {a b : Int} {k m : Nat} (ha : Sz a.natAbs k) (hb : Sz b.natAbs m) : Sz (a + b).natAbs (k + m + 1) := (ha.add hb).le (Int.natAbs_add_le a b)
theorem BQ.add {a b : Rat} {k m : Nat} (ha : BQ a k) (hb : BQ b m) : BQ (a + b) (2 * (k + m) + 1) := by
  rw [Rat.add_def']
  exact BQ.mk (((ha.1.imul (b := (b.den : Int)) (by simpa using hb.2)).iadd (hb.1.imul (b := (a.den : Int)) (by simpa using ha.2))).more (by omega)) ((ha.2.mul hb.2).more (by omega)) (by omega)
theorem BQ.mul {a b : Rat} {k m : Nat} (ha : BQ a k) (hb : BQ b m) : BQ (a * b) (k + m + 1) := by
  rw [Rat.mul_def']
  exact BQ.mk ((ha.1.imul hb.1).more (by omega)) ((ha.2.mul hb.2).more (by omega)) (by omega)
theorem BQ.neg {a : Rat} {k : Nat} (ha : BQ a k) : BQ (-a) k := by
  unfold BQ at *; rw [Rat.neg_num, Rat.neg_den]; simpa using ha
theorem BQ.abs {a : Rat} {k : Nat} (ha : BQ a k) : BQ (absQ a) k := by
  unfold BQ at *; rw [absQ_num, absQ_den]; simpa using ha
theorem BQ.more {a : Rat} {k m : Nat} (ha : BQ a k) (h : k ≤ m) : BQ a m := ⟨ha.1.more h, ha.2.more h⟩
theorem BQ.int {n : Int} (h : n.natAbs < W64) : BQ (n : Rat) 1 := ⟨Sz.u64 (by simpa using h), by simpa using Sz.one⟩

/-- a quotient, to the nearest, of two as near the even one -/
def nearZ (A : Int) (D : Nat) : Int := if (D : Int) < 2 * (A % D) ∨ (2 * (A % D) = D ∧ A / D % 2 = 1) then A / D + 1 else A / D
theorem nearZ_scale (A : Int) (D c : Nat) (hc : 0 < c) : nearZ (A * c) (D * c) = nearZ A D := by
  unfold nearZ
  have e1 : A * (c : Int) / ((D * c : Nat) : Int) = A / D := by rw [Int.natCast_mul]; exact Int.mul_ediv_mul_of_pos_left A D (by omega)
  have e2 : A * (c : Int) % ((D * c : Nat) : Int) = A % D * c := by rw [Int.natCast_mul, Int.mul_comm A, Int.mul_comm (D : Int), Int.mul_emod_mul_of_pos _ _ (by omega), Int.mul_comm]
  rw [e1, e2]
  generalize A % (D : Int) = r
  generalize A / (D : Int) = q
  have i1 : ((D * c : Nat) : Int) < 2 * (r * c) ↔ (D : Int) < 2 * r := by
    rw [Int.natCast_mul, show 2 * (r * (c : Int)) = (2 * r) * c from by rw [Int.mul_assoc]]
    exact Int.mul_lt_mul_right (by omega)
  have i2 : 2 * (r * (c : Int)) = ((D * c : Nat) : Int) ↔ 2 * r = D := by
    rw [Int.natCast_mul, show 2 * (r * (c : Int)) = (2 * r) * c from by rw [Int.mul_assoc]]
    constructor
    · intro h; exact Int.eq_of_mul_eq_mul_right (by omega) h
    · intro h; rw [h]
  simp only [i1, i2]
theorem nearZ_same {A A' : Int} {D D' : Nat} (h : A * D' = A' * D) (hD : 0 < D) (hD' : 0 < D') : nearZ A D = nearZ A' D' := by
  rw [← nearZ_scale A D D' hD', ← nearZ_scale A' D' D hD, h, Nat.mul_comm D D']
theorem nearZ_nat (n D : Nat) : nearZ n D = (rne n D : Nat) := by
  unfold nearZ rne
  have e1 : (n : Int) / (D : Int) = ((n / D : Nat) : Int) := by simp
  have e2 : (n : Int) % (D : Int) = ((n % D : Nat) : Int) := by simp
  rw [e1, e2]
  by_cases h : D < 2 * (n % D) ∨ (2 * (n % D) = D ∧ n / D % 2 = 1)
  · rw [if_pos h, if_pos (by omega)]; omega
  · rw [if_neg h, if_neg (by omega)]
theorem nearZ_neg (n D : Nat) (hD : 0 < D) : nearZ (-(n : Int)) D = -(rne n D : Nat) := by
  unfold nearZ rne
  have hr := Nat.mod_lt n hD
  have hn := Nat.div_add_mod n D
  generalize n / D = q at *
  generalize n % D = r at *
  by_cases h0 : r = 0
  · subst h0
    have e0 : -(n : Int) = (D : Int) * (-(q : Int)) := by rw [← hn]; simp [Int.mul_neg]
    have e1 : -(n : Int) / (D : Int) = -(q : Int) := by rw [e0, Int.mul_ediv_cancel_left _ (by omega)]
    have e2 : -(n : Int) % (D : Int) = 0 := by rw [e0, Int.mul_emod_right]
    rw [e1, e2, if_neg (by omega), if_neg (by omega)]
  · have e0 : -(n : Int) = ((D - r : Nat) : Int) + (D : Int) * (-(q : Int) - 1) := by
      rw [← hn, Int.mul_sub, Int.mul_neg]; push_cast [Nat.le_of_lt hr]; rw [Int.mul_one]; omega
    have e1 : -(n : Int) / (D : Int) = -(q : Int) - 1 := by
      rw [e0, Int.add_mul_ediv_left _ _ (by omega), Int.ediv_eq_zero_of_lt (by omega) (by omega), Int.zero_add]
    have e2 : -(n : Int) % (D : Int) = ((D - r : Nat) : Int) := by
      rw [e0, Int.add_mul_emod_self_left, Int.emod_eq_of_lt (by omega) (by omega)]
    rw [e1, e2]
    by_cases h : D < 2 * r ∨ (2 * r = D ∧ q % 2 = 1)
    · rw [if_pos h, if_neg (by omega)]; omega
    · rw [if_neg h, if_pos (by omega)]; omega
theorem nearZ_sided (s : Bool) (n D : Nat) (hD : 0 < D) : nearZ (sided s n) D = sided s (rne n D) := by
  cases s
  · exact nearZ_nat n D
  · exact nearZ_neg n D hD
/-- the nearest mantissa of a rational -/
def nearQ (r : Rat) (k : Nat) : Int := nearZ (r.num * 2 ^ k) r.den
theorem nearQ_mk (p : Int) (q k : Nat) (hq : 0 < q) : nearQ (mkRat p q) k = nearZ (p * 2 ^ k) q := by
  unfold nearQ
  apply nearZ_same _ (Rat.den_pos _) hq
  have h : (mkRat p q).num * q = p * (mkRat p q).den := by
    have := (Rat.mkRat_eq_iff (n₁ := (mkRat p q).num) (n₂ := p) (Rat.den_nz (mkRat p q)) (by omega : q ≠ 0)).1 (by rw [Rat.mkRat_self])
    exact this
  calc (mkRat p q).num * 2 ^ k * q = (mkRat p q).num * q * 2 ^ k := by rw [Int.mul_right_comm]
    _ = p * 2 ^ k * (mkRat p q).den := by rw [h, Int.mul_right_comm]
theorem near_mul (a b : Int) (f : Nat) : nearQ (mkRat a (2 ^ f) * mkRat b (2 ^ f)) f = mulZ a b f := by
  rw [Rat.mkRat_mul_mkRat, nearQ_mk _ _ _ (Nat.mul_pos (Nat.pow_pos (by omega)) (Nat.pow_pos (by omega)))]
  have e := nearZ_scale (a * b) (2 ^ f) (2 ^ f) (Nat.pow_pos (by omega))
  rw [show a * b * 2 ^ f = a * b * ((2 ^ f : Nat) : Int) from by simp, e]
  rw [← mul_sided a b, nearZ_sided _ _ _ (Nat.pow_pos (by omega))]; rfl
theorem near_int (n : Int) : nearQ (n : Rat) 0 = n := by
  unfold nearQ nearZ; simp
end Go.Proofs.Ytgcebmgmmhdcpaa
