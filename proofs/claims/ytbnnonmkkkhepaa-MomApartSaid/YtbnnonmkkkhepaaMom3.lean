/- Package mom: which Moms are right; the step of rows. -/
import Derived.Test.YtbnnonmkkkhepaaMom2
import Derived.Test.YtbnnonmkkkhepaaApp
namespace Go.Proofs.Ytbnnonmkkkhepaa
open Go.RowKit
attribute [local go_sem ↓] Go.wp_at_zero Go.wp_at_succ

def rightM (lr mu wd f : Int) : Bool := decide (0 ≤ f ∧ f ≤ 40 ∧ 0 ≤ lr ∧ 0 ≤ mu ∧ mu < 2 ^ f.toNat ∧ 0 ≤ wd ∧ wd ≤ 2 ^ f.toNat)
set_option maxHeartbeats 2000000 in
theorem right_any (lr mu wd f : Int) (nest : Bool) (w : World) :
    Calls Try.prog 12 #[.agg #[.int .i64 lr, .int .i64 mu, .int .i64 wd, .bool nest], .int .i64 f] w fun x w' => x = .returned (.bool (rightM lr mu wd f)) ∧ Below w.heap.size w w' := by
  have HB := Lib.hid ((Below.refl _ w).alloc (Nat.le_refl _) (.cells #[.int .i64 lr, .int .i64 mu, .int .i64 wd, .bool nest] 23))
  by_cases h0 : 0 ≤ f
  · by_cases h1 : f ≤ 40
    · obtain ⟨n, rfl⟩ := Int.eq_ofNat_of_zero_le h0
      have hn : n ≤ 40 := by omega
      obtain ⟨p1, p2⟩ := pow_le40 n hn
      have hsh : IntKind.i64.wrap (1 * 2 ^ n) = ((2 ^ n : Nat) : Int) := by
        rw [IntKind.wrap_i64, Int.one_mul, show (2 : Int) ^ n = ((2 ^ n : Nat) : Int) from by simp]; omega
      have hsh2 : IntKind.i64.wrap (2 ^ n) = ((2 ^ n : Nat) : Int) := by
        rw [IntKind.wrap_i64, show (2 : Int) ^ n = ((2 ^ n : Nat) : Int) from by simp]; omega
      have hR : rightM lr mu wd n = (decide (0 ≤ lr) && (decide (0 ≤ mu) && (decide (mu < ((2 ^ n : Nat) : Int)) && (decide (0 ≤ wd) && decide (wd ≤ ((2 ^ n : Nat) : Int)))))) := by
        unfold rightM
        rw [show (2 : Int) ^ (n : Int).toNat = ((2 ^ n : Nat) : Int) from by simp]
        generalize ((2 ^ n : Nat) : Int) = one
        rw [Bool.eq_iff_iff]; simp only [decide_eq_true_eq, Bool.and_eq_true]; omega
      rw [hR]
      clear hR
      generalize 2 ^ n = one at *
      clear p1 p2 h0 h1
      cases b1 : decide (0 ≤ lr) <;> cases b2 : decide (0 ≤ mu) <;> cases b3 : decide (mu < (one : Int)) <;> cases b4 : decide (0 ≤ wd) <;> cases b5 : decide (wd ≤ (one : Int))
      all_goals
        go_enter Try.func12, Try.ntmps12
        go_wp2
        go_ret
        exact ⟨rfl, HB.out⟩
    · rw [show rightM lr mu wd f = false from decide_eq_false (fun h => h1 h.2.1)]
      go_enter Try.func12, Try.ntmps12
      go_wp2
      go_ret
      exact ⟨rfl, HB.out⟩
  · rw [show rightM lr mu wd f = false from decide_eq_false (fun h => h0 h.1)]
    go_enter Try.func12, Try.ntmps12
    go_wp2
    go_ret
    exact ⟨rfl, HB.out⟩
end Go.Proofs.Ytbnnonmkkkhepaa
