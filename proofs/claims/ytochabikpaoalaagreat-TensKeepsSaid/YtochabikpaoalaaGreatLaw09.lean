/- The live question of layer 9. -/
import Derived.Test.YtochabikpaoalaaGreatBook5
import Derived.Test.YtochabikpaoalaaGreatLawRow
import Derived.Test.YtochabikpaoalaaGreatNear10
import Derived.OpenShut
namespace Go.Proofs.YtochabikpaoalaaGreat
open Go.RowKit

/-- a slice of integers that is not empty: where it lies, and its cells -/
theorem IsI.open_ {w : World} {v : Value} {l : List Int} (h : IsI w v l) (hl : 0 < l.length) : ∃ (ad : Addr) (c : Nat), v = .slice (some ad) l.length c ∧ l.length ≤ c ∧ c ≤ 9223372036854775807 ∧ ad.block < w.heap.size ∧ w.cell? ad = some (.int .i64 (iat l 0)) ∧ ∀ j, j < l.length → w.cell? (ad.add j) = some (.int .i64 (iat l j)) := by
  obtain ⟨A, c, rfl, hc1, hc2, hR⟩ := h
  obtain ⟨ad, rfl, hb, h0⟩ := is_cell hR hl
  refine ⟨ad, c, rfl, hc1, hc2, hb, by simpa [Addr.add] using h0, fun j hj => ?_⟩
  obtain ⟨ad', e, _, h⟩ := is_cell hR hj
  cases e; exact h
theorem bkz_nat (k : Nat) (hk : k < 4) : bkz (k : Nat) = bk k := by
  obtain rfl | rfl | rfl | rfl : k = 0 ∨ k = 1 ∨ k = 2 ∨ k = 3 := by omega
  all_goals rfl
theorem gz_3 : gz 3 = 1 := by decide +kernel
theorem at255 : ∀ k < 4, iat (bk k) 255 = den (k : Nat) := by decide +kernel
end Go.Proofs.YtochabikpaoalaaGreat
namespace Go.Proofs.YtochabikpaoalaaGreat
open Go.RowKit
attribute [local go_sem ↓] Go.wp_at_zero Go.wp_at_succ

set_option maxHeartbeats 4000000 in
theorem near_none (k num d : Int) (w : World) (hk : ¬ (0 ≤ k ∧ k ≤ 3)) :
    Calls Tryz.prog 50 #[.int .i64 k, .int .i64 num, .int .i64 d] w fun e w' => e = .returned (.tuple #[.int .u8 0, .int .i64 1]) ∧ Below w.heap.size w w' := by
  have hB0 := fun w => book_any k w
  rw [show bke k = 1 from if_neg hk] at hB0
  generalize bkz k = l at *
  clear hk
  have hB := Below.refl w.heap.size w
  go_enter Tryz.func50, Tryz.ntmps50
  go_wp2_with fail
  refine (hB0 _).mono ?_
  rintro e w1 ⟨v1, rfl, h1, b1⟩
  obtain ⟨A1, C1, rfl, _, _⟩ := h1.form
  have HB := Lib.hid (b1.alloc b1.size (.cells #[.slice A1 l.length C1] 34))
  clear b1 hB h1
  go_wp2
  go_ret2
  exact ⟨rfl, HB.out⟩
set_option maxHeartbeats 4000000 in
theorem near_den (n : Nat) (hn : n < 4) (num d : Int) (w : World) (h : d < 1) :
    Calls Tryz.prog 50 #[.int .i64 n, .int .i64 num, .int .i64 d] w fun e w' => e = .returned (.tuple #[.int .u8 0, .int .i64 1]) ∧ Below w.heap.size w w' := by
  have hB0 := fun w => book_any n w
  rw [show bke n = 0 from if_pos (by omega), bkz_nat n hn] at hB0
  have hS := fun w => signed_any n w
  generalize bk n = l at *
  clear hn
  go_enter Tryz.func50, Tryz.ntmps50
  go_wp2_with fail
  refine (hB0 _).mono ?_
  rintro e w1 ⟨v1, rfl, h1, b1⟩
  obtain ⟨A1, C1, rfl, _, _⟩ := h1.form
  have HB := Lib.hid (b1.alloc b1.size (.cells #[.slice A1 l.length C1] 34))
  clear b1 h1
  go_wp2
  go_ret2
  exact ⟨rfl, HB.out⟩
set_option maxHeartbeats 4000000 in
theorem near_over (n : Nat) (hn : n < 4) (num d : Int) (w : World) (h0 : ¬ d < 1) (h : d < num) :
    Calls Tryz.prog 50 #[.int .i64 n, .int .i64 num, .int .i64 d] w fun e w' => e = .returned (.tuple #[.int .u8 0, .int .i64 1]) ∧ Below w.heap.size w w' := by
  have hB0 := fun w => book_any n w
  rw [show bke n = 0 from if_pos (by omega), bkz_nat n hn] at hB0
  have hS := fun w => signed_any n w
  generalize bk n = l at *
  clear hn
  go_enter Tryz.func50, Tryz.ntmps50
  go_wp2_with fail
  refine (hB0 _).mono ?_
  rintro e w1 ⟨v1, rfl, h1, b1⟩
  obtain ⟨A1, C1, rfl, _, _⟩ := h1.form
  have HB := Lib.hid (b1.alloc b1.size (.cells #[.slice A1 l.length C1] 34))
  clear b1 h1
  go_wp2
  go_ret2
  exact ⟨rfl, HB.out⟩
set_option maxHeartbeats 4000000 in
theorem near_under (n : Nat) (hn : n < 4) (num d : Int) (w : World) (h0 : ¬ d < 1) (h1 : ¬ d < num) (h2 : d ≤ 9223372036854775807) (h : num < -d) :
    Calls Tryz.prog 50 #[.int .i64 n, .int .i64 num, .int .i64 d] w fun e w' => e = .returned (.tuple #[.int .u8 0, .int .i64 1]) ∧ Below w.heap.size w w' := by
  have hB0 := fun w => book_any n w
  rw [show bke n = 0 from if_pos (by omega), bkz_nat n hn] at hB0
  have hS := fun w => signed_any n w
  have hw : IntKind.i64.wrap (-d) = -d := by rw [IntKind.wrap_i64]; omega
  generalize bk n = l at *
  clear hn
  go_enter Tryz.func50, Tryz.ntmps50
  go_wp2_with fail
  refine (hB0 _).mono ?_
  rintro e w1 ⟨v1, rfl, h1, b1⟩
  obtain ⟨A1, C1, rfl, _, _⟩ := h1.form
  have HB := Lib.hid (b1.alloc b1.size (.cells #[.slice A1 l.length C1] 34))
  clear b1 h1
  go_wp2
  go_ret2
  exact ⟨rfl, HB.out⟩
set_option maxHeartbeats 4000000 in
theorem near_side (n : Nat) (hn : n < 4) (num d : Int) (w : World) (h0 : ¬ d < 1) (h1 : ¬ d < num) (h2 : d ≤ 9223372036854775807) (h3 : ¬ num < -d) (h : num < 0) (hs : sgn (n : Nat) = false) :
    Calls Tryz.prog 50 #[.int .i64 n, .int .i64 num, .int .i64 d] w fun e w' => e = .returned (.tuple #[.int .u8 0, .int .i64 1]) ∧ Below w.heap.size w w' := by
  have hB0 := fun w => book_any n w
  rw [show bke n = 0 from if_pos (by omega), bkz_nat n hn] at hB0
  have hS := fun w => signed_any n w
  have hw : IntKind.i64.wrap (-d) = -d := by rw [IntKind.wrap_i64]; omega
  rw [hs] at hS
  generalize bk n = l at *
  clear hn
  go_enter Tryz.func50, Tryz.ntmps50
  go_wp2_with fail
  refine (hB0 _).mono ?_
  rintro e w1 ⟨v1, rfl, h1, b1⟩
  obtain ⟨A1, C1, rfl, _, _⟩ := h1.form
  have HB := Lib.hid (b1.alloc b1.size (.cells #[.slice A1 l.length C1] 34))
  clear b1 h1
  go_wp2_with fail
  refine (hS _).mono ?_
  rintro e w2 ⟨rfl, rfl⟩
  go_wp2
  go_ret2
  exact ⟨rfl, HB.out⟩
set_option maxRecDepth 100000 in
set_option maxHeartbeats 8000000 in
theorem near_pos (n : Nat) (hn : n < 4) (num d : Int) (w : World) (h0 : ¬ d < 1) (h1 : ¬ d < num) (h2 : d ≤ 9223372036854775807) (h3 : ¬ num < -d) (h4 : ¬ num < 0) :
    Calls Tryz.prog 50 #[.int .i64 n, .int .i64 num, .int .i64 d] w fun e w' => e = .returned (.tuple #[.int .u8 (lowest (pAt n num d) 255 : Nat), .int .i64 0]) ∧ Below w.heap.size w w' := by
  have hB0 := fun w => book_any n w
  rw [show bke n = 0 from if_pos (by omega), bkz_nat n hn] at hB0
  have hS := fun w => signed_any n w
  have hDn := fun w => den_any n w
  have hlen := bk_len n hn
  have hden := dens n hn
  have hin := bk_in hn
  have hO1 := fun w => pzof_any num (by omega) (by omega) w
  have hO3 := fun w => pzof_any d (by omega) (by omega) w
  have hMo := fun i j (a : i ≤ j) (b : j < 255) => pAt_mono hn (num := num) (show 1 ≤ d by omega) a b
  have hw : IntKind.i64.wrap (-d) = -d := by rw [IntKind.wrap_i64]; omega
  obtain ⟨D, hD⟩ : ∃ D, D = den (n : Nat) := ⟨_, rfl⟩
  rw [← hD] at hDn hden
  have hO2 := fun w => pzof_any (2 * D) (by omega) (by omega) w
  have hw2 : IntKind.i64.wrap (2 * D) = 2 * D := by rw [IntKind.wrap_i64]; omega
  have s1 : Sz num.natAbs 400000 := (Sz.u64 (by unfold W64; omega)).more (by omega)
  have s2 : Sz (2 * D).natAbs 400000 := (Sz.u64 (by unfold W64; omega)).more (by omega)
  have hM := fun u v w a b => pzmul_any u v num (2 * D) w a b s1 s2
  have hd0 : -9223372036854775808 ≤ d := by omega
  have hP : ∀ i, decide (cmpI (num * (2 * D)) ((iat (bk n) i + iat (bk n) (i + 1)) * d) ≤ 0) = pAt n num d i := fun i => by rw [cmpI_le, hD]; rfl
  have HP := Lib.hid (And.intro hP (And.intro hMo (And.intro hlen (And.intro hin (And.intro hd0 h2)))))
  clear hP hMo hin s1 s2 hden hD hd0
  generalize bk n = l at *
  generalize pAt n num d = p at *
  clear hn 
  have hB := Below.refl w.heap.size w
  generalize hx : num * (2 * D) = x at *
  clear hx
  go_enter Tryz.func50, Tryz.ntmps50
  go_wp2_with fail
  refine (hB0 _).mono ?_
  rintro e w1 ⟨v1, rfl, hL, b1⟩
  replace hB := hB.trans (b1.mono hB.size)
  obtain ⟨A1, C1, rfl, _, _⟩ := hL.form
  rw [hlen] at hL ⊢
  obtain ⟨V1, eV, h8, bV1⟩ := box1 w1 34 #[.slice A1 256 C1]
  obtain ⟨X1, eX⟩ : ∃ X, X = w1.heap.size := ⟨_, rfl⟩
  rw [← eX] at h8
  have EV1 := Lib.hid (And.intro eV eX)
  clear eV eX
  go_upto_region 2 with fail
  rw [← EV1.out.1, ← EV1.out.2]
  replace hL := hL.below bV1
  replace hB := hB.trans (bV1.mono hB.size)
  have c3_h8_0 := h8.cells1
  go_wp2_with fail
  refine (hO1 _).mono ?_
  rintro e w2 ⟨v2, rfl, hz1, b2⟩
  replace hL := hL.below b2
  replace h8 := h8.below b2 h8.lt
  replace hB := hB.trans (b2.mono hB.size)
  clear c3_h8_0
  have c4_h8_0 := h8.cells1
  go_wp2_with fail
  refine (hDn _).mono ?_
  rintro e w3 ⟨rfl, rfl⟩
  go_wp2_with fail
  refine (hO2 _).mono ?_
  rintro e w4 ⟨v3, rfl, hz2, b4⟩
  replace hL := hL.below b4
  replace h8 := h8.below b4 h8.lt
  replace hz1 := hz1.below b4
  replace hB := hB.trans (b4.mono hB.size)
  clear c4_h8_0
  have c5_h8_0 := h8.cells1
  go_wp2_with fail
  refine (hM _ _ _ hz1 hz2).mono ?_
  rintro e w5 ⟨v4, rfl, hz3, b5⟩
  replace hL := hL.below b5
  replace h8 := h8.below b5 h8.lt
  replace hz1 := hz1.below b5
  replace hz2 := hz2.below b5
  replace hB := hB.trans (b5.mono hB.size)
  clear c5_h8_0
  have c6_h8_0 := h8.cells1
  obtain ⟨nx, rfl, hX⟩ := (id hz3 : IsZ _ _ _)
  obtain ⟨Ax, Lx, Cx, rfl⟩ := hX.frm
  obtain ⟨V2, eV, h10, bV2⟩ := box1 w5 78 #[.bool (decide (x < 0)), .slice Ax Lx Cx]
  obtain ⟨X2, eX⟩ : ∃ X, X = w5.heap.size := ⟨_, rfl⟩
  rw [← eX] at h10
  have EV2 := Lib.hid (And.intro eV eX)
  clear eV eX
  go_upto_region 5 with fail
  rw [← EV2.out.1, ← EV2.out.2]
  replace hL := hL.below bV2
  replace h8 := h8.below bV2 h8.lt
  replace hz3 := hz3.below bV2
  replace hX := hX.below bV2
  replace hB := hB.trans (bV2.mono hB.size)
  clear c6_h8_0
  have c7_h8_0 := h8.cells1
  clear c7_h8_0
  have c8_h8_0 := h8.cells1
  obtain ⟨c8_h10_0, c8_h10_1⟩ := h10.cells2
  go_wp2_with fail
  refine (hO3 _).mono ?_
  rintro e w6 ⟨v5, rfl, hz4, b6⟩
  replace hL := hL.below b6
  replace h8 := h8.below b6 h8.lt
  replace hz3 := hz3.below b6
  replace hX := hX.below b6
  replace h10 := h10.below b6 h10.lt
  replace hB := hB.trans (b6.mono hB.size)
  clear c8_h8_0 c8_h10_0 c8_h10_1
  have c9_h8_0 := h8.cells1
  obtain ⟨c9_h10_0, c9_h10_1⟩ := h10.cells2
  obtain ⟨nd, rfl, hDD⟩ := (id hz4 : IsZ _ _ _)
  obtain ⟨Ad, Ld, Cd, rfl⟩ := hDD.frm
  obtain ⟨V3, eV, h11, bV3⟩ := box1 w6 78 #[.bool (decide (d < 0)), .slice Ad Ld Cd]
  obtain ⟨X3, eX⟩ : ∃ X, X = w6.heap.size := ⟨_, rfl⟩
  rw [← eX] at h11
  have EV3 := Lib.hid (And.intro eV eX)
  clear eV eX
  go_upto_region 6 with fail
  rw [← EV3.out.1, ← EV3.out.2]
  replace hL := hL.below bV3
  replace h8 := h8.below bV3 h8.lt
  replace hX := hX.below bV3
  replace h10 := h10.below bV3 h10.lt
  replace hDD := hDD.below bV3
  replace hB := hB.trans (bV3.mono hB.size)
  clear c9_h8_0 c9_h10_0 c9_h10_1
  have c10_h8_0 := h8.cells1
  obtain ⟨c10_h10_0, c10_h10_1⟩ := h10.cells2
  clear c10_h8_0 c10_h10_0 c10_h10_1
  have c11_h8_0 := h8.cells1
  obtain ⟨c11_h10_0, c11_h10_1⟩ := h10.cells2
  obtain ⟨c11_h11_0, c11_h11_1⟩ := h11.cells2
  have hSr := search_any 255 (by omega) p ⟨X1, 0, none⟩ ⟨X3, 0, none⟩ ⟨X2, 0, none⟩ V3 HP.out.2.1 (fun i w' hi hb => by
    have := near1_any l HP.out.2.2.1 HP.out.2.2.2.1 d x HP.out.2.2.2.2.1 HP.out.2.2.2.2.2 X1 X2 X3 A1 C1 Ad Ax Ld Lx Cd Cx i hi w' ⟨Nat.lt_of_lt_of_le h8.lt hb.size, Nat.lt_of_lt_of_le h10.lt hb.size, Nat.lt_of_lt_of_le h11.lt hb.size⟩ (h8.below hb h8.lt) (hL.below hb) (h11.below hb h11.lt) (hDD.below hb) (h10.below hb h10.lt) (hX.below hb)
    rw [HP.out.1 i] at this
    exact this)
  go_wp2_with fail
  refine hSr.mono ?_
  rintro e w6 ⟨c, hc, rfl, hlo, hhi, b6⟩
  have HC := Lib.hid (lowest_eq hc hlo (fun h => hhi c (Nat.le_refl _) h))
  have hu : IntKind.u8.wrap (c : Int) = c := by rw [IntKind.wrap_u8]; omega
  replace hB := hB.trans (b6.mono hB.size)
  clear hlo hhi hSr
  go_wp2
  go_ret2
  exact ⟨by rw [HC.out]; rfl, hB⟩
set_option maxRecDepth 100000 in
set_option maxHeartbeats 8000000 in
theorem near_neg (n : Nat) (hn : n < 4) (num d : Int) (w : World) (h0 : ¬ d < 1) (h1 : ¬ d < num) (h2 : d ≤ 9223372036854775807) (h3 : ¬ num < -d) (h4 : num < 0) (hs : sgn (n : Nat) = true) :
    Calls Tryz.prog 50 #[.int .i64 n, .int .i64 num, .int .i64 d] w fun e w' => e = .returned (.tuple #[.int .u8 (lowest (pAt n num d) 255 : Nat), .int .i64 0]) ∧ Below w.heap.size w w' := by
  have hB0 := fun w => book_any n w
  rw [show bke n = 0 from if_pos (by omega), bkz_nat n hn] at hB0
  have hS := fun w => signed_any n w
  have hDn := fun w => den_any n w
  have hlen := bk_len n hn
  have hden := dens n hn
  have hin := bk_in hn
  have hO1 := fun w => pzof_any num (by omega) (by omega) w
  have hO3 := fun w => pzof_any d (by omega) (by omega) w
  have hMo := fun i j (a : i ≤ j) (b : j < 255) => pAt_mono hn (num := num) (show 1 ≤ d by omega) a b
  have hw : IntKind.i64.wrap (-d) = -d := by rw [IntKind.wrap_i64]; omega
  obtain ⟨D, hD⟩ : ∃ D, D = den (n : Nat) := ⟨_, rfl⟩
  rw [← hD] at hDn hden
  have hO2 := fun w => pzof_any (2 * D) (by omega) (by omega) w
  have hw2 : IntKind.i64.wrap (2 * D) = 2 * D := by rw [IntKind.wrap_i64]; omega
  have s1 : Sz num.natAbs 400000 := (Sz.u64 (by unfold W64; omega)).more (by omega)
  have s2 : Sz (2 * D).natAbs 400000 := (Sz.u64 (by unfold W64; omega)).more (by omega)
  have hM := fun u v w a b => pzmul_any u v num (2 * D) w a b s1 s2
  have hd0 : -9223372036854775808 ≤ d := by omega
  have hP : ∀ i, decide (cmpI (num * (2 * D)) ((iat (bk n) i + iat (bk n) (i + 1)) * d) ≤ 0) = pAt n num d i := fun i => by rw [cmpI_le, hD]; rfl
  have HP := Lib.hid (And.intro hP (And.intro hMo (And.intro hlen (And.intro hin (And.intro hd0 h2)))))
  clear hP hMo hin s1 s2 hden hD hd0
  generalize bk n = l at *
  generalize pAt n num d = p at *
  clear hn
  have hB := Below.refl w.heap.size w
  rw [hs] at hS
  generalize hx : num * (2 * D) = x at *
  clear hx
  go_enter Tryz.func50, Tryz.ntmps50
  go_wp2_with fail
  refine (hB0 _).mono ?_
  rintro e w1 ⟨v1, rfl, hL, b1⟩
  replace hB := hB.trans (b1.mono hB.size)
  obtain ⟨A1, C1, rfl, _, _⟩ := hL.form
  rw [hlen] at hL ⊢
  obtain ⟨V1, eV, h8, bV1⟩ := box1 w1 34 #[.slice A1 256 C1]
  obtain ⟨X1, eX⟩ : ∃ X, X = w1.heap.size := ⟨_, rfl⟩
  rw [← eX] at h8
  have EV1 := Lib.hid (And.intro eV eX)
  clear eV eX
  go_upto_region 2 with fail
  rw [← EV1.out.1, ← EV1.out.2]
  replace hL := hL.below bV1
  replace hB := hB.trans (bV1.mono hB.size)
  have c3_h8_0 := h8.cells1
  go_wp2_with fail
  refine (hS _).mono ?_
  rintro e w2 ⟨rfl, rfl⟩
  go_wp2_with fail
  refine (hO1 _).mono ?_
  rintro e w3 ⟨v2, rfl, hz1, b3⟩
  replace hL := hL.below b3
  replace h8 := h8.below b3 h8.lt
  replace hB := hB.trans (b3.mono hB.size)
  clear c3_h8_0
  have c4_h8_0 := h8.cells1
  go_wp2_with fail
  refine (hDn _).mono ?_
  rintro e w4 ⟨rfl, rfl⟩
  go_wp2_with fail
  refine (hO2 _).mono ?_
  rintro e w5 ⟨v3, rfl, hz2, b5⟩
  replace hL := hL.below b5
  replace h8 := h8.below b5 h8.lt
  replace hz1 := hz1.below b5
  replace hB := hB.trans (b5.mono hB.size)
  clear c4_h8_0
  have c5_h8_0 := h8.cells1
  go_wp2_with fail
  refine (hM _ _ _ hz1 hz2).mono ?_
  rintro e w6 ⟨v4, rfl, hz3, b6⟩
  replace hL := hL.below b6
  replace h8 := h8.below b6 h8.lt
  replace hz1 := hz1.below b6
  replace hz2 := hz2.below b6
  replace hB := hB.trans (b6.mono hB.size)
  clear c5_h8_0
  have c6_h8_0 := h8.cells1
  obtain ⟨nx, rfl, hX⟩ := (id hz3 : IsZ _ _ _)
  obtain ⟨Ax, Lx, Cx, rfl⟩ := hX.frm
  obtain ⟨V2, eV, h10, bV2⟩ := box1 w6 78 #[.bool (decide (x < 0)), .slice Ax Lx Cx]
  obtain ⟨X2, eX⟩ : ∃ X, X = w6.heap.size := ⟨_, rfl⟩
  rw [← eX] at h10
  have EV2 := Lib.hid (And.intro eV eX)
  clear eV eX
  go_upto_region 5 with fail
  rw [← EV2.out.1, ← EV2.out.2]
  replace hL := hL.below bV2
  replace h8 := h8.below bV2 h8.lt
  replace hz3 := hz3.below bV2
  replace hX := hX.below bV2
  replace hB := hB.trans (bV2.mono hB.size)
  clear c6_h8_0
  have c7_h8_0 := h8.cells1
  clear c7_h8_0
  have c8_h8_0 := h8.cells1
  obtain ⟨c8_h10_0, c8_h10_1⟩ := h10.cells2
  go_wp2_with fail
  refine (hO3 _).mono ?_
  rintro e w7 ⟨v5, rfl, hz4, b7⟩
  replace hL := hL.below b7
  replace h8 := h8.below b7 h8.lt
  replace hz3 := hz3.below b7
  replace hX := hX.below b7
  replace h10 := h10.below b7 h10.lt
  replace hB := hB.trans (b7.mono hB.size)
  clear c8_h8_0 c8_h10_0 c8_h10_1
  have c9_h8_0 := h8.cells1
  obtain ⟨c9_h10_0, c9_h10_1⟩ := h10.cells2
  obtain ⟨nd, rfl, hDD⟩ := (id hz4 : IsZ _ _ _)
  obtain ⟨Ad, Ld, Cd, rfl⟩ := hDD.frm
  obtain ⟨V3, eV, h11, bV3⟩ := box1 w7 78 #[.bool (decide (d < 0)), .slice Ad Ld Cd]
  obtain ⟨X3, eX⟩ : ∃ X, X = w7.heap.size := ⟨_, rfl⟩
  rw [← eX] at h11
  have EV3 := Lib.hid (And.intro eV eX)
  clear eV eX
  go_upto_region 6 with fail
  rw [← EV3.out.1, ← EV3.out.2]
  replace hL := hL.below bV3
  replace h8 := h8.below bV3 h8.lt
  replace hX := hX.below bV3
  replace h10 := h10.below bV3 h10.lt
  replace hDD := hDD.below bV3
  replace hB := hB.trans (bV3.mono hB.size)
  clear c9_h8_0 c9_h10_0 c9_h10_1
  have c10_h8_0 := h8.cells1
  obtain ⟨c10_h10_0, c10_h10_1⟩ := h10.cells2
  clear c10_h8_0 c10_h10_0 c10_h10_1
  have c11_h8_0 := h8.cells1
  obtain ⟨c11_h10_0, c11_h10_1⟩ := h10.cells2
  obtain ⟨c11_h11_0, c11_h11_1⟩ := h11.cells2
  have hSr := search_any 255 (by omega) p ⟨X1, 0, none⟩ ⟨X3, 0, none⟩ ⟨X2, 0, none⟩ V3 HP.out.2.1 (fun i w' hi hb => by
    have := near1_any l HP.out.2.2.1 HP.out.2.2.2.1 d x HP.out.2.2.2.2.1 HP.out.2.2.2.2.2 X1 X2 X3 A1 C1 Ad Ax Ld Lx Cd Cx i hi w' ⟨Nat.lt_of_lt_of_le h8.lt hb.size, Nat.lt_of_lt_of_le h10.lt hb.size, Nat.lt_of_lt_of_le h11.lt hb.size⟩ (h8.below hb h8.lt) (hL.below hb) (h11.below hb h11.lt) (hDD.below hb) (h10.below hb h10.lt) (hX.below hb)
    rw [HP.out.1 i] at this
    exact this)
  go_wp2_with fail
  refine hSr.mono ?_
  rintro e w6 ⟨c, hc, rfl, hlo, hhi, b6⟩
  have HC := Lib.hid (lowest_eq hc hlo (fun h => hhi c (Nat.le_refl _) h))
  have hu : IntKind.u8.wrap (c : Int) = c := by rw [IntKind.wrap_u8]; omega
  replace hB := hB.trans (b6.mono hB.size)
  clear hlo hhi hSr
  go_wp2
  go_ret2
  exact ⟨by rw [HC.out]; rfl, hB⟩
theorem near_any (k num d : Int) (w : World) (h0 : I64 num) (h1 : I64 d) :
    Calls Tryz.prog 50 #[.int .i64 k, .int .i64 num, .int .i64 d] w fun e w' => e = .returned (.tuple #[.int .u8 (codeOf k num d : Nat), .int .i64 (codeE k num d)]) ∧ Below w.heap.size w w' := by
  have hb : ∀ b : Bool, share k num d = b → share k num d = b := fun _ h => h
  by_cases hk : 0 ≤ k ∧ k ≤ 3
  · obtain ⟨n, rfl⟩ := Int.eq_ofNat_of_zero_le hk.1
    have hn : n < 4 := by omega
    have hsh : share n num d = (decide (1 ≤ d) && (decide (num ≤ d) && (decide (-d ≤ num) && (decide (0 ≤ num) || sgn n)))) := by unfold share; rw [decide_eq_true hk, Bool.true_and]
    by_cases a : d < 1
    · have e : share n num d = false := by rw [hsh, decide_eq_false (by omega)]; rfl
      unfold codeOf codeE; rw [e]; exact near_den n hn num d w a
    · by_cases b : d < num
      · have e : share n num d = false := by rw [hsh, decide_eq_false (p := num ≤ d) (by omega), Bool.false_and, Bool.and_false]
        unfold codeOf codeE; rw [e]; exact near_over n hn num d w a b
      · by_cases c : num < -d
        · have e : share n num d = false := by rw [hsh, decide_eq_false (p := -d ≤ num) (by omega), Bool.false_and, Bool.and_false, Bool.and_false]
          unfold codeOf codeE; rw [e]; exact near_under n hn num d w a b h1.2 c
        · by_cases f : num < 0
          · cases s : sgn n
            · have e : share n num d = false := by rw [hsh, s, decide_eq_false (p := 0 ≤ num) (by omega), Bool.or_false, Bool.and_false, Bool.and_false, Bool.and_false]
              unfold codeOf codeE; rw [e]; exact near_side n hn num d w a b h1.2 c f s
            · have e : share n num d = true := by rw [hsh, s, Bool.or_true, decide_eq_true (by omega), decide_eq_true (by omega), decide_eq_true (by omega)]; rfl
              unfold codeOf codeE; rw [e, if_pos rfl, if_pos rfl, Int.toNat_natCast]; exact near_neg n hn num d w a b h1.2 c f s
          · have e : share n num d = true := by rw [hsh, decide_eq_true (p := 0 ≤ num) (by omega), Bool.true_or, decide_eq_true (by omega), decide_eq_true (by omega), decide_eq_true (by omega)]; rfl
            unfold codeOf codeE; rw [e, if_pos rfl, if_pos rfl, Int.toNat_natCast]; exact near_pos n hn num d w a b h1.2 c f
  · have e : share k num d = false := by unfold share; rw [decide_eq_false hk, Bool.false_and]
    unfold codeOf codeE; rw [e]; exact near_none k num d w hk
/-- the number of a code, 0 of none -/
def numOf (k : Int) (c : Nat) : Int := iat (bkz k) c
end Go.Proofs.YtochabikpaoalaaGreat
namespace Go.Proofs.YtochabikpaoalaaGreat
open Go.ChangeShapes Go.WideShapes Go.ChangeAt Go.RowKit
theorem wf_I64 {n : Int} (h : (Lit.int .i64 n).wf = true) : I64 n := by
  have h1 : IntKind.i64.min = -9223372036854775808 := rfl
  have h2 : IntKind.i64.max = 9223372036854775807 := rfl
  simp only [Lit.wf, Bool.and_eq_true, decide_eq_true_eq] at h
  unfold I64
  omega
theorem wf_U8 {n : Int} (h : (Lit.int .u8 n).wf = true) : 0 ≤ n ∧ n < 256 := by
  have h1 : IntKind.u8.min = 0 := rfl
  have h2 : IntKind.u8.max = 255 := rfl
  simp only [Lit.wf, Bool.and_eq_true, decide_eq_true_eq] at h
  omega
theorem wf_U16 {n : Int} (h : (Lit.int .u16 n).wf = true) : 0 ≤ n ∧ n < 65536 := by
  have h1 : IntKind.u16.min = 0 := rfl
  have h2 : IntKind.u16.max = 65535 := rfl
  simp only [Lit.wf, Bool.and_eq_true, decide_eq_true_eq] at h
  omega
section
variable {H : Type} {enc : TypeId × Value → H} {P : Program} {w : World} {base : Nat} {sp : Nat → Bool} {held : Bool} {r : Reach}
theorem okWide_array {t e : TypeId} {n b0 : Nat} {v : Value} (ht : P.underlying t = some (.array n e)) (h : Value.okWide P w r b0 t v) : ∃ cs, v = .agg cs ∧ cs.size = P.cellsOf t := by
  simp only [Value.okWide, ht] at h
  obtain ⟨cs, h1, h2, _⟩ := h
  exact ⟨cs, h1, h2⟩
/-- an array of two integers, of three, opened -/
theorem open_arr2 {t e : TypeId} {b0 : Nat} {v : Value} {d : DataW H} {p : List MemPlace} (ht : P.underlying t = some (.array 2 e)) (he : P.underlying e = some (.int .i64)) (hc : P.cellsOf e = 1) (hC : P.cellsOf t = 2)
    (hv : Value.okWide P w r b0 t v) (h : DataW.Trod enc P w base sp held t v d p) : ∃ a b : Int, v = .agg #[.int .i64 a, .int .i64 b] ∧ I64 a ∧ I64 b := by
  obtain ⟨cs, rfl, hsz⟩ := okWide_array ht hv
  obtain ⟨l⟩ := cs
  rw [hC] at hsz
  match l, hsz with
  | [x, y], _ =>
    obtain ⟨fuel, hf⟩ := h
    obtain ⟨xs, m, _, _, _, _, h1⟩ := DataW.trod_array ht hf
    have a := h1 0 (by omega)
    have b := h1 1 (by omega)
    rw [hc] at a b
    have hx : ∀ i, i < 2 → ∃ u, xs[i]? = some u := fun i hi => by
      have : xs.length = 2 := by assumption
      exact ⟨_, List.getElem?_eq_getElem (by omega)⟩
    obtain ⟨u, hu⟩ := hx 0 (by omega)
    obtain ⟨u', hu'⟩ := hx 1 (by omega)
    rw [hu] at a
    rw [hu'] at b
    obtain ⟨n, e1, _, w1⟩ := DataW.trod_int he a
    obtain ⟨n', e2, _, w2⟩ := DataW.trod_int he b
    simp [Value.cells] at e1 e2
    subst e1 e2
    exact ⟨n, n', rfl, wf_I64 w1, wf_I64 w2⟩
theorem open_arr3 {t e : TypeId} {b0 : Nat} {v : Value} {d : DataW H} {p : List MemPlace} (ht : P.underlying t = some (.array 3 e)) (he : P.underlying e = some (.int .i64)) (hc : P.cellsOf e = 1) (hC : P.cellsOf t = 3)
    (hv : Value.okWide P w r b0 t v) (h : DataW.Trod enc P w base sp held t v d p) : ∃ a b c : Int, v = .agg #[.int .i64 a, .int .i64 b, .int .i64 c] ∧ I64 a ∧ I64 b ∧ I64 c := by
  obtain ⟨cs, rfl, hsz⟩ := okWide_array ht hv
  obtain ⟨l⟩ := cs
  rw [hC] at hsz
  match l, hsz with
  | [x, y, z], _ =>
    obtain ⟨fuel, hf⟩ := h
    obtain ⟨xs, m, _, _, _, _, h1⟩ := DataW.trod_array ht hf
    have a := h1 0 (by omega)
    have b := h1 1 (by omega)
    have c := h1 2 (by omega)
    rw [hc] at a b c
    have hx : ∀ i, i < 3 → ∃ u, xs[i]? = some u := fun i hi => by
      have : xs.length = 3 := by assumption
      exact ⟨_, List.getElem?_eq_getElem (by omega)⟩
    obtain ⟨u, hu⟩ := hx 0 (by omega)
    obtain ⟨u', hu'⟩ := hx 1 (by omega)
    obtain ⟨u'', hu''⟩ := hx 2 (by omega)
    rw [hu] at a
    rw [hu'] at b
    rw [hu''] at c
    obtain ⟨n, e1, _, w1⟩ := DataW.trod_int he a
    obtain ⟨n', e2, _, w2⟩ := DataW.trod_int he b
    obtain ⟨n'', e3, _, w3⟩ := DataW.trod_int he c
    simp [Value.cells] at e1 e2 e3
    subst e1 e2 e3
    exact ⟨n, n', n'', rfl, wf_I64 w1, wf_I64 w2, wf_I64 w3⟩
end
theorem alive10_vals : codeOf 3 1 2 = 127 ∧ codeE 3 1 2 = 0 ∧ codeE 3 (-1) 2 = 1 ∧ codeOf 3 (-1) 2 = 0 ∧ numOf 0 255 = 2560000000 ∧ bke 0 = 0 := by decide +kernel
end Go.Proofs.YtochabikpaoalaaGreat
