/- The document's answers of layer 9: small functions. -/
import Derived.Test.YtegemdeejbdfpaaBook5
import Derived.Deep.RegionWith
namespace Go.Proofs.Ytegemdeejbdfpaa
open Go.RowKit Go.Shelf

set_option maxHeartbeats 400000 in
theorem rsigned_any (k : Int) (w : World) : Calls Try.prog 32 #[.int .i64 k] w fun e w' => e = .returned (.bool (sgn k)) ∧ w = w' := by
  rcases kind_cases k with rfl | rfl | rfl | rfl | ⟨h0, h1, h2, h3⟩
  all_goals
    go_enter Try.func32, Try.ntmps32
    go_wp2
    go_ret
  all_goals first | exact ⟨rfl, rfl⟩ | exact ⟨ret_bool (by simp [sgn, h0, h2]), rfl⟩
set_option maxHeartbeats 400000 in
theorem rden_any (k : Int) (w : World) : Calls Try.prog 20 #[.int .i64 k] w fun e w' => e = .returned (.int .i64 (den k)) ∧ w = w' := by
  rcases kind_cases k with rfl | rfl | rfl | rfl | ⟨h0, h1, h2, h3⟩
  all_goals
    go_enter Try.func20, Try.ntmps20
    go_wp2
    go_ret
  all_goals first | exact ⟨rfl, rfl⟩ | exact ⟨ret_int (by simp at h0 h1 h2 h3; simp [den, h0, h1, h2, h3]), rfl⟩
set_option maxHeartbeats 400000 in
theorem power_any (n k : Nat) (h1 : 1 ≤ n) (hn : n ≤ 10) (hk : k ≤ 10) (hb : n ^ k ≤ 4611686018427387904) (w : World) : Calls Try.prog 77 #[.int .i64 n, .int .i64 k] w fun e w' => e = .returned (.int .i64 ((n ^ k : Nat) : Int)) ∧ w = w' := by
  have hle : ∀ i, i ≤ k → n ^ i ≤ n ^ k := fun i hi => Nat.pow_le_pow_right h1 hi
  obtain ⟨pw, hpw⟩ : ∃ pw : Nat → Nat, ∀ i, n ^ i = pw i := ⟨fun i => n ^ i, fun _ => rfl⟩
  have hs : ∀ i, pw (i + 1) = pw i * n := fun i => by rw [← hpw, ← hpw, Nat.pow_succ]
  have h0 : pw 0 = 1 := by rw [← hpw]; rfl
  simp only [hpw] at hle hb ⊢
  go_enter Try.func77, Try.ntmps77
  go_wp2
  go_loopw [6, 5] (fun i o wr => ∃ (j p : Nat), j ≤ k ∧ i = .int .i64 j ∧ o = .int .i64 (p : Nat) ∧ Hid (p = pw j) ∧ wr = w) (fun i _ _ => k - (intOf i).toNat)
  case atStart => exact ⟨0, 1, by omega, rfl, rfl, Lib.hid h0.symm, rfl⟩
  case round =>
    obtain ⟨j, p, hj, rfl, rfl, hp, rfl⟩ := hrel
    by_cases hlt : j < k
    · have hq := hle (j + 1) hlt
      have hE : Hid (p * n = pw (j + 1)) := by rw [Hid, hs, hp.out]
      rw [← hE.out] at hq
      have hc : ((p * n : Nat) : Int) = (p : Int) * n := by simp
      obtain ⟨q, hqe⟩ : ∃ q : Nat, p * n = q := ⟨_, rfl⟩
      rw [hqe] at hq hc hE
      have hc' := hc.symm
      clear hc
      go_wp2
      refine ⟨⟨j + 1, q, by omega, by go_num, ?_, Lib.hid hE.out, trivial⟩, by simp [intOf]; omega⟩
      rfl
    · obtain rfl : j = k := by omega
      go_wp2
      go_ret
      exact ⟨by rw [hp.out]; rfl, rfl⟩
theorem ten_le (i : Nat) (hi : i ≤ 6) : 10 ^ i ≤ 1000000 := Nat.pow_le_pow_right (by omega) hi
theorem two_le (i : Nat) (hi : i ≤ 7) : 2 ^ i ≤ 128 := Nat.pow_le_pow_right (by omega) hi
set_option maxHeartbeats 1000000 in
theorem part_any (n i j : Nat) (h1 : 1 ≤ n) (hn : n ≤ 128) (hi : i ≤ 6) (hj : j < n) (w : World) : Calls Try.prog 61 #[.int .i64 n, .int .i64 i, .int .i64 j] w fun e w' => e = .returned (.int .i64 ((2 * (n : Int) + 9 * (2 * (j : Int) + 1)) * (128 / (n : Int)) * ((10 ^ i : Nat) : Int))) ∧ w' = w.drew := by
  have ht := ten_le i hi
  have hp := power_any 10 i (by omega) (by omega) (by omega) (by omega)
  generalize 10 ^ i = t at ht hp
  have hz : ((n : Int) == 0) = false := by simp; omega
  have hq1 : 128 / n ≤ 128 := Nat.div_le_self _ _
  have hq2 : (128 : Int) / (n : Int) = ((128 / n : Nat) : Int) := by simp
  have hq3 : (128 : Int).tdiv (n : Int) = ((128 / n : Nat) : Int) := by rw [Int.tdiv_eq_ediv_of_nonneg (by omega)]; exact hq2
  rw [hq2]
  generalize 128 / n = q at hq1 hq2 hq3
  have hs1 : (2 * n + 9 * (2 * j + 1)) * q ≤ 2560 * 128 := Nat.mul_le_mul (by omega) hq1
  have hs2 : (2 * n + 9 * (2 * j + 1)) * q * t ≤ 2560 * 128 * 1000000 := Nat.mul_le_mul hs1 ht
  obtain ⟨a, ha⟩ : ∃ a : Nat, a = 2 * n + 9 * (2 * j + 1) := ⟨_, rfl⟩
  have ha' : 2 * (n : Int) + 9 * (2 * (j : Int) + 1) = (a : Int) := by omega
  rw [← ha] at hs1 hs2
  have m1 : (a : Int) * (q : Int) = ((a * q : Nat) : Int) := by simp
  rw [ha', m1]
  generalize a * q = b at *
  have m2 : (b : Int) * (t : Int) = ((b * t : Nat) : Int) := by simp
  rw [m2]
  generalize b * t = c at *
  clear hq2
  go_enter Try.func61, Try.ntmps61
  have hwr : ∀ x : Int, -9223372036854775808 ≤ x → x ≤ 9223372036854775807 → IntKind.i64.wrap x = x := fun x h h' => by rw [IntKind.wrap_i64]; omega
  have w1 := hwr (2 * (n : Int)) (by omega) (by omega)
  have w2 := hwr (2 * (j : Int)) (by omega) (by omega)
  have w3 := hwr (2 * (j : Int) + 1) (by omega) (by omega)
  have w4 := hwr (9 * (2 * (j : Int) + 1)) (by omega) (by omega)
  have w5 : IntKind.i64.wrap (2 * (n : Int) + 9 * (2 * (j : Int) + 1)) = (a : Int) := by rw [ha']; exact hwr _ (by omega) (by omega)
  have w6 : IntKind.i64.wrap (q : Int) = (q : Int) := hwr _ (by omega) (by omega)
  have w7 : IntKind.i64.wrap ((2 * (n : Int) + 9 * (2 * (j : Int) + 1)) * (q : Int)) = (b : Int) := by rw [ha', m1]; exact hwr _ (by omega) (by omega)
  have w8 : IntKind.i64.wrap ((b : Int) * (t : Int)) = (c : Int) := by rw [m2]; exact hwr _ (by omega) (by omega)
  clear m1 m2 hwr ha'
  go_wp2_with fail
  go_region_with (go_at_call 77; refine (hp _).mono ?_; rintro e w' ⟨rfl, rfl⟩)
  all_goals
    go_wp2
    go_ret
    exact ⟨rfl, rfl⟩
set_option maxHeartbeats 400000 in
theorem many_any (s : Bool) (i : Nat) (hi : i ≤ 6) (w : World) : Calls Try.prog 60 #[.bool s, .int .i64 i] w fun e w' => e = .returned (.int .i64 ((if s then 2 ^ i else 2 ^ (i + 1) : Nat) : Int)) ∧ w = w' := by
  have hp := power_any 2 i (by omega) (by omega) (by omega) (by have := two_le i (by omega); omega) w
  have hp1 := power_any 2 (i + 1) (by omega) (by omega) (by omega) (by have := two_le (i + 1) (by omega); omega) w
  have hc : ((i + 1 : Nat) : Int) = (i : Int) + 1 := by simp
  rw [hc] at hp1
  generalize 2 ^ i = a at hp
  generalize 2 ^ (i + 1) = b at hp1
  cases s
  · go_enter Try.func60, Try.ntmps60
    go_wp2_with fail
    refine hp1.mono ?_
    rintro e w' ⟨rfl, rfl⟩
    go_wp2
    go_ret
    exact ⟨rfl, rfl⟩
  · go_enter Try.func60, Try.ntmps60
    go_wp2_with fail
    refine hp.mono ?_
    rintro e w' ⟨rfl, rfl⟩
    go_wp2
    go_ret
    exact ⟨rfl, rfl⟩
end Go.Proofs.Ytegemdeejbdfpaa
