/- Sizes of numbers, by limbs; small functions of the reference at numbers. -/
import Derived.Test.YtbnnonmkkkhepaaRef4
import Derived.Test.YtbnnonmkkkhepaaBits2
namespace Go.Proofs.Ytbnnonmkkkhepaa
open Go.RowKit
/-- a number of at most k limbs -/
def Sz (n k : Nat) : Prop := (limbs n).length ≤ k
theorem Sz.fin {n k : Nat} (h : Sz n k) (hk : k ≤ 1000000) : (limbs n).length ≤ 1000000 := Nat.le_trans h hk
theorem Sz.add {a b k m : Nat} (ha : Sz a k) (hb : Sz b m) : Sz (a + b) (k + m + 1) := by
  unfold Sz at *; have := limbs_len_add a b; omega
theorem Sz.mul {a b k m : Nat} (ha : Sz a k) (hb : Sz b m) : Sz (a * b) (k + m) := by
  unfold Sz at *; have := limbs_len_mul a b; omega
theorem Sz.sub {a b k : Nat} (ha : Sz a k) : Sz (a - b) k := Nat.le_trans (limbs_len_mono (Nat.sub_le a b)) ha
theorem Sz.le {a b k : Nat} (ha : Sz a k) (h : b ≤ a) : Sz b k := Nat.le_trans (limbs_len_mono h) ha
theorem Sz.more {a k m : Nat} (ha : Sz a k) (h : k ≤ m) : Sz a m := Nat.le_trans ha h
theorem Sz.zero : Sz 0 0 := by unfold Sz; rw [limbs_zero]; simp
theorem Sz.one : Sz 1 1 := by unfold Sz; rw [limbs_single (by omega) (by unfold W64; omega)]; simp
theorem Sz.pow {n k : Nat} (h : n < W64 ^ k) : Sz n k := limbs_len_le h
theorem Sz.two_pow (n : Nat) : Sz (2 ^ n) (n / 64 + 1) := by
  apply Sz.pow; rw [W64_pow]; exact Nat.pow_lt_pow_right (by omega) (by omega)
theorem Sz.bl {n k : Nat} (h : Sz n k) : bl n ≤ 64 * k := by
  rw [bl_le_iff, ← W64_pow]; exact lt_of_limbs_len h
theorem Sz.u64 {n : Nat} (h : n < W64) : Sz n 1 := Sz.pow (by rwa [Nat.pow_one])

theorem IsN.open_ {w : World} {v : Value} {n : Nat} (h : IsN w v n) : ∃ A m c, v = .slice A m c ∧ m = (limbs n).length := by obtain ⟨A, c, e, _⟩ := h; exact ⟨A, _, c, e, rfl⟩
theorem rcmp_n (va vb : Value) (a b : Nat) (w : World) (ha : IsN w va a) (hb : IsN w vb b) :
    Calls Try.prog 49 #[va, vb] w fun e w' => e = .returned (.int .i64 (cmpI a b)) ∧ ∃ n, w' = w.drewN n := by
  have := rcmp_any va vb _ _ w ha hb
  rwa [cmpL_limbs] at this
set_option maxHeartbeats 400000 in
theorem rof_f (n : Nat) (hn : n < W64) (w : World) :
    Calls Try.prog 68 #[.int .u64 n] w fun e w' => ∃ v', e = .returned v' ∧ IsN w' v' n ∧ Below w.heap.size w w' ∧ Fresh w.heap.size v' := by
  go_enter Try.func68, Try.ntmps68
  go_wp2_with fail
  refine (rbare_f _ [n] _ (IsL.fresh w _ [n] (Bd.cons hn Bd.nil) (by simp)) (by simp)).mono ?_
  rintro e w' ⟨v', rfl, hv, hb, hf⟩
  go_wp2
  go_ret
  have b0 : Below w.heap.size w (w.alloc (.cells #[.int .u64 (n : Int)] 84)) := (Below.refl _ _).alloc (Nat.le_refl _) _
  exact ⟨_, rfl, by rwa [num_single] at hv, b0.trans (hb.mono b0.size), hf.more b0.size⟩
theorem rof_any (n : Nat) (hn : n < W64) (w : World) :
    Calls Try.prog 68 #[.int .u64 n] w fun e w' => ∃ v', e = .returned v' ∧ IsN w' v' n ∧ Below w.heap.size w w' :=
  (rof_f n hn w).mono fun _ _ ⟨v', h1, h2, h3, _⟩ => ⟨v', h1, h2, h3⟩
end Go.Proofs.Ytbnnonmkkkhepaa
