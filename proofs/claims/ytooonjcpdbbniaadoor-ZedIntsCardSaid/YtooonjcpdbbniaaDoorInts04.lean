/- ZedInts: small integers are summed and multiplied as numbers are; their texts begin with - just if they are below nought. No conditions: every input. -/
import Derived.Test.YtooonjcpdbbniaaDoorAlive04
namespace Go.Proofs.YtooonjcpdbbniaaDoor
open Go.RowKit Go.Lib Go.Shelf
attribute [local go_sem ↓] Go.wp_at_zero Go.wp_at_succ
theorem pzof_as (n : Int) (b : Bool) (hb : decide (n < 0) = b) (h0 : -9223372036854775808 ≤ n) (h1 : n ≤ 9223372036854775807) (w : World) :
    Calls Tryd.prog 17 #[.int .i64 n] w fun e w' => ∃ A L C, e = .returned (.agg #[.bool b, .slice A L C]) ∧ IsZ w' (.agg #[.bool b, .slice A L C]) n ∧ Below w.heap.size w w' := by
  refine (pzof_any n h0 h1 w).mono ?_
  rintro e w' ⟨v, rfl, h1, h2⟩
  obtain ⟨A, L, C, rfl, _⟩ := h1.frm
  subst hb
  exact ⟨A, L, C, rfl, h1, h2⟩
theorem mul_lim {a b : Int} (ha : -2147483648 ≤ a ∧ a ≤ 2147483647) (hb : -2147483648 ≤ b ∧ b ≤ 2147483647) : -4611686018427387904 ≤ a * b ∧ a * b ≤ 4611686018427387904 := by
  have h : (a * b).natAbs ≤ 2147483648 * 2147483648 := by
    rw [Int.natAbs_mul]
    exact Nat.mul_le_mul (by omega) (by omega)
  omega
theorem fit_in4 {z : Int} (h : -9223372036854775808 ≤ z ∧ z ≤ 9223372036854775807) : fitV z = z ∧ fitB z = true := by
  unfold fitV fitB
  rw [if_pos h]; exact ⟨rfl, decide_eq_true h⟩
theorem itoa_head (a : Int) : ∃ c r, itoa a = c :: r ∧ ((((c : UInt8).toNat : Nat) : Int) == 45) = decide (a < 0) := by
  unfold itoa
  by_cases h : a < 0
  · rw [if_pos h, decide_eq_true h]; exact ⟨45, _, rfl, rfl⟩
  · rw [if_neg h, decide_eq_false h]
    cases hd : decDigits a.toNat with
    | nil => exact absurd hd (dec_ne _)
    | cons c r =>
      refine ⟨c, r, rfl, ?_⟩
      have hf := dec_figs a.toNat c (by rw [hd]; simp)
      unfold figB at hf
      rw [Bool.and_eq_true, decide_eq_true_eq, decide_eq_true_eq] at hf
      rw [beq_eq_false_iff_ne]; omega
theorem dec_10 {n : Nat} (h : n ≤ 2147483648) : (decDigits n).length ≤ 10 := dec_len 10 n (by decide) (by omega)
theorem itoa_11 {a : Int} (h : a.natAbs ≤ 2147483648) : (itoa a).length ≤ 11 := by
  unfold itoa; split
  · have := dec_10 h; simp; omega
  · have : (decDigits a.toNat).length ≤ 10 := dec_10 (by omega)
    omega
theorem cmp_lt (a b : Int) : decide (cmpI a b < 0) = decide (a < b) := by unfold cmpI; (repeat' split) <;> simp <;> omega
set_option maxRecDepth 100000 in
set_option maxHeartbeats 4000000 in
theorem ZedInts_all (a b : Int) (ha : -2147483648 ≤ a ∧ a ≤ 2147483647) (hb : -2147483648 ≤ b ∧ b ≤ 2147483647) (w : World) (ht : TabOk w) :
    Calls Tryd.prog 6 #[.int .i32 a, .int .i32 b] w fun e w' => e = .returned (.bool true) ∧ Below w.heap.size w w' := by
  have hm := mul_lim ha hb
  have hW64 : W64 = 18446744073709551616 := rfl
  obtain ⟨ng, hng⟩ : ∃ ng, decide (a < 0) = ng := ⟨_, rfl⟩
  obtain ⟨nb, hnb⟩ : ∃ nb, decide (b < 0) = nb := ⟨_, rfl⟩
  obtain ⟨ls, hls⟩ : ∃ ls, decide (a < b) = ls := ⟨_, rfl⟩
  obtain ⟨c0, r0, hL, hc0⟩ := itoa_head a
  have hLl := itoa_11 (a := a) (by omega)
  have hOa := fun w => pzof_as a ng hng (by omega) (by omega) w
  have hOb := fun w => pzof_as b nb hnb (by omega) (by omega) w
  have hA := fun va vb w h1 h2 => pzadd_any va vb a b w h1 h2 (sz_small (by omega)) (sz_small (by omega))
  have hM := fun va vb w h1 h2 => pzmul_any va vb a b w h1 h2 (sz_small (by omega)) (sz_small (by omega))
  have hI1 := fun v w h => pzint_any v (a + b) w h
  have hI2 := fun v w h => pzint_any v (a * b) w h
  have hP := fun v w h ht => pzprint_any v a w h (sz_small (n := a.natAbs) (by omega) |>.fin (by decide)) (Nat.le_trans (dec_10 (by omega)) (by decide)) ht
  have hR := fun w => zread_as (itoa a) a 0 0 ng hng (read_text a (by omega)) w
  have hC := fun va vb w h1 h2 => pzcmp_any va vb a b w h1 h2
  have hS := fun va vb w h1 h2 => rzsame_any va vb a a w h1 h2
  have hE := fun w ht => alive04_any w ht
  have hcl := cmp_lt a b
  have wa : IntKind.i64.wrap a = a := by rw [IntKind.wrap_i64]; omega
  have wb : IntKind.i64.wrap b = b := by rw [IntKind.wrap_i64]; omega
  obtain ⟨z1, hz1⟩ : ∃ z, z = a + b := ⟨_, rfl⟩
  obtain ⟨z2, hz2⟩ : ∃ z, z = a * b := ⟨_, rfl⟩
  have w1 : wrap64 (a + b) = z1 := by rw [hz1]; unfold wrap64; omega
  have w2 : wrap64 (a * b) = z2 := by rw [hz2]; generalize a * b = y at *; unfold wrap64; omega
  rw [(fit_in4 (z := a + b) (by omega)).1, (fit_in4 (z := a + b) (by omega)).2] at hI1
  rw [(fit_in4 (z := a * b) (by omega)).1, (fit_in4 (z := a * b) (by omega)).2] at hI2
  rw [show decide (a = a) = true from decide_eq_true rfl] at hS
  rw [hls] at hcl
  rw [hng] at hc0
  generalize cmpI a b = cm at *
  simp only [← hz1, ← hz2] at hI1 hI2 hA hM
  clear hz1 hz2
  have hlen : ((itoa a).length : Int) ≠ 0 := by rw [hL]; simp; omega
  have hsz : (⟨(itoa a).toArray⟩ : ByteArray).size = (itoa a).length := by simp [ByteArray.size]
  have hget : ∀ hk, (⟨(itoa a).toArray⟩ : ByteArray)[0]'hk = c0 := by rw [hL]; intro hk; rfl
  have hlz : (((itoa a).length : Int) == 0) = false := by rw [beq_eq_false_iff_ne]; exact hlen
  have hl0 : (0 : Int) < ((itoa a).length : Int) := by omega
  have hl1 : 0 < (itoa a).length := by omega
  have hB := Below.refl w.heap.size w
  clear hnb hm hLl hlen ha hb hL hW64
  generalize itoa a = L at *
  go_enter Tryd.func6, Tryd.ntmps6
  go_wp2_with fail
  refine (hOa _).mono ?_
  rintro e w1 ⟨A1, L1, C1, rfl, h1, b1⟩
  replace ht := ht.below b1
  replace hB := hB.trans (b1.mono hB.size)
  go_wp2_with fail
  refine (hOb _).mono ?_
  rintro e w2 ⟨A2, L2, C2, rfl, h2, b2⟩
  replace ht := ht.below b2
  replace h1 := h1.below b2
  replace hB := hB.trans (b2.mono hB.size)
  obtain ⟨V1, eV, hTT, bV1⟩ := box2 w2 25 25 #[.bool ng, .slice A1 L1 C1] #[.bool nb, .slice A2 L2 C2]
  obtain ⟨X1, eX⟩ : ∃ X, X = w2.heap.size := ⟨_, rfl⟩
  rw [← eX] at hTT
  obtain ⟨hX, hY⟩ := hTT
  have EV1 := Lib.hid (And.intro eV eX)
  clear eV eX
  go_upto_region 2 with fail
  rw [← EV1.out.1, ← EV1.out.2]
  replace ht := ht.below bV1
  replace h1 := h1.below bV1
  replace h2 := h2.below bV1
  replace hB := hB.trans (bV1.mono hB.size)
  obtain ⟨c4_hX_0, c4_hX_1⟩ := hX.cells2
  obtain ⟨c4_hY_0, c4_hY_1⟩ := hY.cells2
  go_wp2_with fail
  refine (hA _ _ _ h1 h2).mono ?_
  rintro e w3 ⟨v3, rfl, h3, b3⟩
  replace ht := ht.below b3
  replace h1 := h1.below b3
  replace h2 := h2.below b3
  replace hX := hX.below b3 hX.lt
  replace hY := hY.below b3 hY.lt
  replace hB := hB.trans (b3.mono hB.size)
  clear c4_hX_0 c4_hX_1 c4_hY_0 c4_hY_1
  obtain ⟨c5_hX_0, c5_hX_1⟩ := hX.cells2
  obtain ⟨c5_hY_0, c5_hY_1⟩ := hY.cells2
  go_wp2_with fail
  refine (hI1 _ _ h3).mono ?_
  rintro e w4 ⟨rfl, b4⟩
  replace ht := ht.below b4
  replace h1 := h1.below b4
  replace h2 := h2.below b4
  replace hX := hX.below b4 hX.lt
  replace hY := hY.below b4 hY.lt
  replace hB := hB.trans (b4.mono hB.size)
  clear c5_hX_0 c5_hX_1 c5_hY_0 c5_hY_1
  obtain ⟨c6_hX_0, c6_hX_1⟩ := hX.cells2
  obtain ⟨c6_hY_0, c6_hY_1⟩ := hY.cells2
  go_wp2_with fail
  refine (hM _ _ _ h1 h2).mono ?_
  rintro e w5 ⟨v5, rfl, h5, b5⟩
  replace ht := ht.below b5
  replace h1 := h1.below b5
  replace h2 := h2.below b5
  replace hX := hX.below b5 hX.lt
  replace hY := hY.below b5 hY.lt
  replace hB := hB.trans (b5.mono hB.size)
  clear c6_hX_0 c6_hX_1 c6_hY_0 c6_hY_1
  obtain ⟨c7_hX_0, c7_hX_1⟩ := hX.cells2
  obtain ⟨c7_hY_0, c7_hY_1⟩ := hY.cells2
  go_wp2_with fail
  refine (hI2 _ _ h5).mono ?_
  rintro e w6 ⟨rfl, b6⟩
  replace ht := ht.below b6
  replace h1 := h1.below b6
  replace h2 := h2.below b6
  replace hX := hX.below b6 hX.lt
  replace hY := hY.below b6 hY.lt
  replace hB := hB.trans (b6.mono hB.size)
  clear c7_hX_0 c7_hX_1 c7_hY_0 c7_hY_1
  obtain ⟨c8_hX_0, c8_hX_1⟩ := hX.cells2
  obtain ⟨c8_hY_0, c8_hY_1⟩ := hY.cells2
  go_wp2_with fail
  refine (hP _ _ h1 ht).mono ?_
  rintro e w7 ⟨rfl, b7⟩
  replace ht := ht.below b7
  replace h1 := h1.below b7
  replace h2 := h2.below b7
  replace hX := hX.below b7 hX.lt
  replace hY := hY.below b7 hY.lt
  replace hB := hB.trans (b7.mono hB.size)
  clear c8_hX_0 c8_hX_1 c8_hY_0 c8_hY_1
  obtain ⟨c9_hX_0, c9_hX_1⟩ := hX.cells2
  obtain ⟨c9_hY_0, c9_hY_1⟩ := hY.cells2
  go_wp2_with fail
  refine (hR _).mono ?_
  rintro e w8 ⟨A8, L8, C8, rfl, h8, b8⟩
  replace ht := ht.below b8
  replace h1 := h1.below b8
  replace h2 := h2.below b8
  replace hX := hX.below b8 hX.lt
  replace hY := hY.below b8 hY.lt
  replace hB := hB.trans (b8.mono hB.size)
  clear c9_hX_0 c9_hX_1 c9_hY_0 c9_hY_1
  obtain ⟨c10_hX_0, c10_hX_1⟩ := hX.cells2
  obtain ⟨c10_hY_0, c10_hY_1⟩ := hY.cells2
  obtain ⟨V2, eV, hR8, bV2⟩ := box1 w8 25 #[.bool ng, .slice A8 L8 C8]
  obtain ⟨X2, eX⟩ : ∃ X, X = w8.heap.size := ⟨_, rfl⟩
  rw [← eX] at hR8
  have EV2 := Lib.hid (And.intro eV eX)
  clear eV eX
  go_upto_region 8 with fail
  rw [← EV2.out.1, ← EV2.out.2]
  replace ht := ht.below bV2
  replace h1 := h1.below bV2
  replace h2 := h2.below bV2
  replace hX := hX.below bV2 hX.lt
  replace hY := hY.below bV2 hY.lt
  replace h8 := h8.below bV2
  replace hB := hB.trans (bV2.mono hB.size)
  clear c10_hX_0 c10_hX_1 c10_hY_0 c10_hY_1
  obtain ⟨c11_hX_0, c11_hX_1⟩ := hX.cells2
  obtain ⟨c11_hY_0, c11_hY_1⟩ := hY.cells2
  clear c11_hX_0 c11_hX_1 c11_hY_0 c11_hY_1
  obtain ⟨c12_hX_0, c12_hX_1⟩ := hX.cells2
  obtain ⟨c12_hY_0, c12_hY_1⟩ := hY.cells2
  obtain ⟨c12_hR8_0, c12_hR8_1⟩ := hR8.cells2
  go_wp2_with fail
  refine (hC _ _ _ h1 h2).mono ?_
  rintro e w9 ⟨rfl, b9⟩
  replace ht := ht.below b9
  replace h1 := h1.below b9
  replace h2 := h2.below b9
  replace hX := hX.below b9 hX.lt
  replace hY := hY.below b9 hY.lt
  replace h8 := h8.below b9
  replace hR8 := hR8.below b9 hR8.lt
  replace hB := hB.trans (b9.mono hB.size)
  clear c12_hX_0 c12_hX_1 c12_hY_0 c12_hY_1 c12_hR8_0 c12_hR8_1
  obtain ⟨c13_hX_0, c13_hX_1⟩ := hX.cells2
  obtain ⟨c13_hY_0, c13_hY_1⟩ := hY.cells2
  obtain ⟨c13_hR8_0, c13_hR8_1⟩ := hR8.cells2
  go_wp2_with fail
  refine (hE _ ht).mono ?_
  rintro e w10 ⟨rfl, b10⟩
  replace ht := ht.below b10
  replace h1 := h1.below b10
  replace h2 := h2.below b10
  replace hX := hX.below b10 hX.lt
  replace hY := hY.below b10 hY.lt
  replace h8 := h8.below b10
  replace hR8 := hR8.below b10 hR8.lt
  replace hB := hB.trans (b10.mono hB.size)
  clear c13_hX_0 c13_hX_1 c13_hY_0 c13_hY_1 c13_hR8_0 c13_hR8_1
  obtain ⟨c14_hX_0, c14_hX_1⟩ := hX.cells2
  obtain ⟨c14_hY_0, c14_hY_1⟩ := hY.cells2
  obtain ⟨c14_hR8_0, c14_hR8_1⟩ := hR8.cells2
  go_wp2_with fail
  refine (hS _ _ _ h8 h1).mono ?_
  rintro e w11 ⟨rfl, b11⟩
  replace ht := ht.below b11
  replace h1 := h1.below b11
  replace h2 := h2.below b11
  replace hX := hX.below b11 hX.lt
  replace hY := hY.below b11 hY.lt
  replace h8 := h8.below b11
  replace hR8 := hR8.below b11 hR8.lt
  replace hB := hB.trans (b11.mono hB.size)
  clear c14_hX_0 c14_hX_1 c14_hY_0 c14_hY_1 c14_hR8_0 c14_hR8_1
  obtain ⟨c15_hX_0, c15_hX_1⟩ := hX.cells2
  obtain ⟨c15_hY_0, c15_hY_1⟩ := hY.cells2
  obtain ⟨c15_hR8_0, c15_hR8_1⟩ := hR8.cells2
  go_wp2_with fail
  go_ret
  exact ⟨rfl, hB⟩
theorem wf_i32 {n : Int} (h : (Lit.int .i32 n).wf = true) : -2147483648 ≤ n ∧ n ≤ 2147483647 := by
  have h1 : IntKind.i32.min = -2147483648 := rfl
  have h2 : IntKind.i32.max = 2147483647 := rfl
  simp only [Lit.wf, Bool.and_eq_true, decide_eq_true_eq] at h
  omega
end Go.Proofs.YtooonjcpdbbniaaDoor
