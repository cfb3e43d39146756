/- Of Line and ULine, with a Scale of at least 255, what is loaded, and packed again, is the same block: it is kept without more loss. No conditions: every input. Printed by gen_twice11.py. -/
import Derived.Test.YtgcebmgmmhdcpaaRef11
namespace Go.Proofs.Ytgcebmgmmhdcpaa
open Go.ChangeShapes Go.WideShapes Go.ChangeAt Go.RowKit
attribute [local go_sem ↓] Go.wp_at_zero Go.wp_at_succ
set_option maxHeartbeats 4000000 in
theorem BlockTwice_few (k : Int) (v : Value) (l : List Int) (w : World) (h : IsI w v l) (hb : 20 < l.length) :
    Calls Try.prog 4 #[.int .i64 k, v] w fun e w' => e = .returned (.bool true) ∧ Below w.heap.size w w' := by
  obtain ⟨Aa, Ca, rfl, _, _⟩ := id h.form
  have hL := fun w => alive11_any w
  have hB := Below.refl w.heap.size w
  go_enter Try.func4, Try.ntmps4
  go_wp2_with fail
  refine (hL _).mono ?_
  rintro e w1 ⟨rfl, b1⟩
  replace hB := hB.trans (b1.mono hB.size)
  go_wp2
  go_ret
  exact ⟨rfl, hB⟩
set_option maxHeartbeats 4000000 in
theorem BlockTwice_kind (k : Int) (v : Value) (l : List Int) (w : World) (h : IsI w v l) (hl : ¬ 20 < l.length) (hk : ¬ (k = 2 ∨ k = 3)) :
    Calls Try.prog 4 #[.int .i64 k, v] w fun e w' => e = .returned (.bool true) ∧ Below w.heap.size w w' := by
  obtain ⟨Aa, Ca, rfl, _, _⟩ := id h.form
  have hL := fun w => alive11_any w
  have hk1 : (k != 2) = true := by rw [bne_iff_ne]; omega
  have hk2 : (k != 3) = true := by rw [bne_iff_ne]; omega
  have hk3 : decide (k = 2) = false := decide_eq_false (by omega)
  have hk4 : decide (k = 3) = false := decide_eq_false (by omega)
  have hB := Below.refl w.heap.size w
  go_enter Try.func4, Try.ntmps4
  go_wp2_with fail
  refine (hL _).mono ?_
  rintro e w1 ⟨rfl, b1⟩
  replace hB := hB.trans (b1.mono hB.size)
  go_wp2
  go_ret
  exact ⟨rfl, hB⟩
set_option maxRecDepth 100000 in
set_option maxHeartbeats 8000000 in
theorem BlockTwice_no2 (v : Value) (l : List Int) (w : World) (h : IsI w v l) (hl : ¬ 20 < l.length) (iL : ∀ x ∈ l, I64 x) (ho : l.any (oddB (sgn ((2 : Nat) : Int))) = true) :
    Calls Try.prog 4 #[.int .i64 2, v] w fun e w' => e = .returned (.bool true) ∧ Below w.heap.size w w' := by
  obtain ⟨Aa, Ca, rfl, _, _⟩ := id h.form
  have hL := fun w => alive11_any w
  have hP := fun w h => pack_odd 2 (.slice Aa l.length Ca) l w h (by omega) ho
  have hB := Below.refl w.heap.size w
  go_enter Try.func4, Try.ntmps4
  go_wp2_with fail
  refine (hP _ h).mono ?_
  rintro e w1 ⟨b1, rfl, ⟨bc, bw, rfl, hy1, hw1⟩, b1⟩
  replace h := h.below b1
  replace hB := hB.trans (b1.mono hB.size)
  obtain ⟨Ac, Cc, rfl, _, _⟩ := hy1.form
  obtain ⟨Aw, Cw, rfl, _, _⟩ := hw1.form
  clear hy1 hw1
  obtain ⟨V1, eV, hb, bV1⟩ := box1 w1 27 #[.int .i64 0, .int .i64 0, .slice Ac 0 Cc, .slice Aw 0 Cw]
  obtain ⟨X1, eX⟩ : ∃ X, X = w1.heap.size := ⟨_, rfl⟩
  rw [← eX] at hb
  have EV1 := Lib.hid (And.intro eV eX)
  clear eV eX
  go_upto_region 4 with fail
  rw [← EV1.out.1, ← EV1.out.2]
  replace hB := hB.trans (bV1.mono hB.size)
  obtain ⟨c3_hb_0, c3_hb_1, c3_hb_2, c3_hb_3⟩ := hb.quad
  go_wp2_with fail
  refine (hL _).mono ?_
  rintro e w2 ⟨rfl, b2⟩
  replace hb := hb.below b2 hb.lt
  replace hB := hB.trans (b2.mono hB.size)
  clear c3_hb_0 c3_hb_1 c3_hb_2 c3_hb_3
  obtain ⟨c4_hb_0, c4_hb_1, c4_hb_2, c4_hb_3⟩ := hb.quad
  go_wp2
  go_ret
  exact ⟨rfl, hB⟩
set_option maxRecDepth 100000 in
set_option maxHeartbeats 8000000 in
theorem BlockTwice_no3 (v : Value) (l : List Int) (w : World) (h : IsI w v l) (hl : ¬ 20 < l.length) (iL : ∀ x ∈ l, I64 x) (ho : l.any (oddB (sgn ((3 : Nat) : Int))) = true) :
    Calls Try.prog 4 #[.int .i64 3, v] w fun e w' => e = .returned (.bool true) ∧ Below w.heap.size w w' := by
  obtain ⟨Aa, Ca, rfl, _, _⟩ := id h.form
  have hL := fun w => alive11_any w
  have hP := fun w h => pack_odd 3 (.slice Aa l.length Ca) l w h (by omega) ho
  have hB := Below.refl w.heap.size w
  go_enter Try.func4, Try.ntmps4
  go_wp2_with fail
  refine (hP _ h).mono ?_
  rintro e w1 ⟨b1, rfl, ⟨bc, bw, rfl, hy1, hw1⟩, b1⟩
  replace h := h.below b1
  replace hB := hB.trans (b1.mono hB.size)
  obtain ⟨Ac, Cc, rfl, _, _⟩ := hy1.form
  obtain ⟨Aw, Cw, rfl, _, _⟩ := hw1.form
  clear hy1 hw1
  obtain ⟨V1, eV, hb, bV1⟩ := box1 w1 27 #[.int .i64 0, .int .i64 0, .slice Ac 0 Cc, .slice Aw 0 Cw]
  obtain ⟨X1, eX⟩ : ∃ X, X = w1.heap.size := ⟨_, rfl⟩
  rw [← eX] at hb
  have EV1 := Lib.hid (And.intro eV eX)
  clear eV eX
  go_upto_region 4 with fail
  rw [← EV1.out.1, ← EV1.out.2]
  replace hB := hB.trans (bV1.mono hB.size)
  obtain ⟨c3_hb_0, c3_hb_1, c3_hb_2, c3_hb_3⟩ := hb.quad
  go_wp2_with fail
  refine (hL _).mono ?_
  rintro e w2 ⟨rfl, b2⟩
  replace hb := hb.below b2 hb.lt
  replace hB := hB.trans (b2.mono hB.size)
  clear c3_hb_0 c3_hb_1 c3_hb_2 c3_hb_3
  obtain ⟨c4_hb_0, c4_hb_1, c4_hb_2, c4_hb_3⟩ := hb.quad
  go_wp2
  go_ret
  exact ⟨rfl, hB⟩
set_option maxRecDepth 100000 in
set_option maxHeartbeats 8000000 in
theorem BlockTwice_small2 (v : Value) (l : List Int) (w : World) (h : IsI w v l) (hl : ¬ 20 < l.length) (iL : ∀ x ∈ l, I64 x) (ho : l.any (oddB (sgn ((2 : Nat) : Int))) = false) (hs : great l < 255) :
    Calls Try.prog 4 #[.int .i64 2, v] w fun e w' => e = .returned (.bool true) ∧ Below w.heap.size w w' := by
  obtain ⟨Aa, Ca, rfl, _, _⟩ := id h.form
  have hL := fun w => alive11_any w
  have hP := fun w h => pack_coded 2 (.slice Aa l.length Ca) l w h 2 (by omega) rfl (by omega) iL ho
  rw [show ((2 : Nat) : Int) = 2 from rfl] at hP
  generalize packC 2 l = K at *
  generalize great l = s at *
  have hs1 : decide (s < 255) = true := decide_eq_true hs
  have hB := Below.refl w.heap.size w
  go_enter Try.func4, Try.ntmps4
  go_wp2_with fail
  refine (hP _ h).mono ?_
  rintro e w1 ⟨b1, rfl, ⟨bc, bw, rfl, hy, hw⟩, b1⟩
  replace h := h.below b1
  replace hB := hB.trans (b1.mono hB.size)
  obtain ⟨Ac, Cc, rfl, _, _⟩ := id hy.form
  obtain ⟨Aw, Cw, rfl, _, _⟩ := id hw.form
  obtain ⟨V1, eV, hb, bV1⟩ := box1 w1 27 #[.int .i64 2, .int .i64 s, .slice Ac K.length Cc, .slice Aw 0 Cw]
  obtain ⟨X1, eX⟩ : ∃ X, X = w1.heap.size := ⟨_, rfl⟩
  rw [← eX] at hb
  have EV1 := Lib.hid (And.intro eV eX)
  clear eV eX
  go_upto_region 4 with fail
  rw [← EV1.out.1, ← EV1.out.2]
  replace hy := hy.below bV1
  replace hw := hw.below bV1
  replace hB := hB.trans (bV1.mono hB.size)
  obtain ⟨c3_hb_0, c3_hb_1, c3_hb_2, c3_hb_3⟩ := hb.quad
  go_wp2_with fail
  refine (hL _).mono ?_
  rintro e w2 ⟨rfl, b2⟩
  replace hb := hb.below b2 hb.lt
  replace hB := hB.trans (b2.mono hB.size)
  clear c3_hb_0 c3_hb_1 c3_hb_2 c3_hb_3
  obtain ⟨c4_hb_0, c4_hb_1, c4_hb_2, c4_hb_3⟩ := hb.quad
  go_wp2
  go_ret
  exact ⟨rfl, hB⟩
set_option maxRecDepth 100000 in
set_option maxHeartbeats 8000000 in
theorem BlockTwice_small3 (v : Value) (l : List Int) (w : World) (h : IsI w v l) (hl : ¬ 20 < l.length) (iL : ∀ x ∈ l, I64 x) (ho : l.any (oddB (sgn ((3 : Nat) : Int))) = false) (hs : great l < 255) :
    Calls Try.prog 4 #[.int .i64 3, v] w fun e w' => e = .returned (.bool true) ∧ Below w.heap.size w w' := by
  obtain ⟨Aa, Ca, rfl, _, _⟩ := id h.form
  have hL := fun w => alive11_any w
  have hP := fun w h => pack_coded 3 (.slice Aa l.length Ca) l w h 3 (by omega) rfl (by omega) iL ho
  rw [show ((3 : Nat) : Int) = 3 from rfl] at hP
  generalize packC 3 l = K at *
  generalize great l = s at *
  have hs1 : decide (s < 255) = true := decide_eq_true hs
  have hB := Below.refl w.heap.size w
  go_enter Try.func4, Try.ntmps4
  go_wp2_with fail
  refine (hP _ h).mono ?_
  rintro e w1 ⟨b1, rfl, ⟨bc, bw, rfl, hy, hw⟩, b1⟩
  replace h := h.below b1
  replace hB := hB.trans (b1.mono hB.size)
  obtain ⟨Ac, Cc, rfl, _, _⟩ := id hy.form
  obtain ⟨Aw, Cw, rfl, _, _⟩ := id hw.form
  obtain ⟨V1, eV, hb, bV1⟩ := box1 w1 27 #[.int .i64 3, .int .i64 s, .slice Ac K.length Cc, .slice Aw 0 Cw]
  obtain ⟨X1, eX⟩ : ∃ X, X = w1.heap.size := ⟨_, rfl⟩
  rw [← eX] at hb
  have EV1 := Lib.hid (And.intro eV eX)
  clear eV eX
  go_upto_region 4 with fail
  rw [← EV1.out.1, ← EV1.out.2]
  replace hy := hy.below bV1
  replace hw := hw.below bV1
  replace hB := hB.trans (bV1.mono hB.size)
  obtain ⟨c3_hb_0, c3_hb_1, c3_hb_2, c3_hb_3⟩ := hb.quad
  go_wp2_with fail
  refine (hL _).mono ?_
  rintro e w2 ⟨rfl, b2⟩
  replace hb := hb.below b2 hb.lt
  replace hB := hB.trans (b2.mono hB.size)
  clear c3_hb_0 c3_hb_1 c3_hb_2 c3_hb_3
  obtain ⟨c4_hb_0, c4_hb_1, c4_hb_2, c4_hb_3⟩ := hb.quad
  go_wp2
  go_ret
  exact ⟨rfl, hB⟩
set_option maxRecDepth 100000 in
set_option maxHeartbeats 8000000 in
theorem BlockTwice_ok2 (v : Value) (l : List Int) (w : World) (h : IsI w v l) (hl : ¬ 20 < l.length) (iL : ∀ x ∈ l, I64 x) (ho : l.any (oddB (sgn ((2 : Nat) : Int))) = false) (hs : ¬ great l < 255) :
    Calls Try.prog 4 #[.int .i64 2, v] w fun e w' => e = .returned (.bool true) ∧ Below w.heap.size w w' := by
  obtain ⟨Aa, Ca, rfl, _, _⟩ := id h.form
  have hL := fun w => alive11_any w
  have hP := fun w h => pack_coded 2 (.slice Aa l.length Ca) l w h 2 (by omega) rfl (by omega) iL ho
  rw [show ((2 : Nat) : Int) = 2 from rfl] at hP
  have hmin : ∀ x ∈ l, x ≠ -9223372036854775808 := fun x hx e => by
    have : l.any (oddB (sgn ((2 : Nat) : Int))) = true := List.any_eq_true.2 ⟨x, hx, by unfold oddB; simp [e]⟩
    rw [ho] at this; cases this
  have hg1 := great_in iL hmin
  have hLd := fun v w h => load_coded v 2 (great l) (packC 2 l) [] w h (by omega) (by omega) hg1 (by rw [packC_len]; omega)
  obtain ⟨t1, t2⟩ := twice_runs (n := 2) (by omega) ho (by omega)
  have hno := (not_odd (n := 2) (by omega) (show 0 ≤ great l by omega) hg1 (packC_lt (k := ((2 : Nat) : Int)) (l := l))).1
  have hin : ∀ x ∈ loadC 2 (great l) (packC ((2 : Nat) : Int) l), I64 x := fun x hx => by
    have := load_mem (n := 2) (by omega) (show 0 ≤ great l by omega) packC_lt hx
    unfold I64; omega
  have hlm : (loadC 2 (great l) (packC ((2 : Nat) : Int) l)).length ≤ 4096 := by unfold loadC; rw [List.length_map, packC_len]; omega
  have hP2 := fun v w h => pack_coded 2 v (loadC 2 (great l) (packC ((2 : Nat) : Int) l)) w h 2 (by omega) rfl hlm hin hno
  rw [t1, t2] at hP2
  rw [show ((2 : Nat) : Int) = 2 from rfl] at hP2 hLd
  clear t1 t2 hno hin hlm hmin iL ho
  generalize loadC 2 (great l) (packC 2 l) = M at *
  generalize packC 2 l = K at *
  generalize great l = s at *
  have hS1 := fun u v w h h' => rbsame_any u v 2 s K [] 2 s K [] w h h'
  have hS2 := fun u v w h h' => bsame_any u v 2 s K [] 2 s K [] w h h'
  have hs1 : decide (s < 255) = false := decide_eq_false hs
  have hB := Below.refl w.heap.size w
  go_enter Try.func4, Try.ntmps4
  go_wp2_with fail
  refine (hP _ h).mono ?_
  rintro e w1 ⟨b1, rfl, ⟨bc, bw, rfl, hy, hw⟩, b1⟩
  replace h := h.below b1
  replace hB := hB.trans (b1.mono hB.size)
  obtain ⟨Ac, Cc, rfl, _, _⟩ := id hy.form
  obtain ⟨Aw, Cw, rfl, _, _⟩ := id hw.form
  obtain ⟨V1, eV, hb, bV1⟩ := box1 w1 27 #[.int .i64 2, .int .i64 s, .slice Ac K.length Cc, .slice Aw 0 Cw]
  obtain ⟨X1, eX⟩ : ∃ X, X = w1.heap.size := ⟨_, rfl⟩
  rw [← eX] at hb
  have EV1 := Lib.hid (And.intro eV eX)
  clear eV eX
  go_upto_region 4 with fail
  rw [← EV1.out.1, ← EV1.out.2]
  replace hy := hy.below bV1
  replace hw := hw.below bV1
  replace hB := hB.trans (bV1.mono hB.size)
  obtain ⟨c3_hb_0, c3_hb_1, c3_hb_2, c3_hb_3⟩ := hb.quad
  go_wp2_with fail
  refine (hLd _ _ ⟨_, _, rfl, hy, hw⟩).mono ?_
  rintro e w2 ⟨v9, rfl, h9, b2⟩
  replace hy := hy.below b2
  replace hw := hw.below b2
  replace hb := hb.below b2 hb.lt
  replace hB := hB.trans (b2.mono hB.size)
  clear c3_hb_0 c3_hb_1 c3_hb_2 c3_hb_3
  obtain ⟨c4_hb_0, c4_hb_1, c4_hb_2, c4_hb_3⟩ := hb.quad
  go_wp2_with fail
  refine (hP2 _ _ h9).mono ?_
  rintro e w3 ⟨b2, rfl, ⟨bc2, bw2, rfl, hy2, hw2⟩, b3⟩
  replace hy := hy.below b3
  replace hw := hw.below b3
  replace hb := hb.below b3 hb.lt
  replace h9 := h9.below b3
  replace hB := hB.trans (b3.mono hB.size)
  clear c4_hb_0 c4_hb_1 c4_hb_2 c4_hb_3
  obtain ⟨c5_hb_0, c5_hb_1, c5_hb_2, c5_hb_3⟩ := hb.quad
  obtain ⟨Ac2, Cc2, rfl, _, _⟩ := id hy2.form
  obtain ⟨Aw2, Cw2, rfl, _, _⟩ := id hw2.form
  obtain ⟨V2, eV, hb2, bV2⟩ := box1 w3 27 #[.int .i64 2, .int .i64 s, .slice Ac2 K.length Cc2, .slice Aw2 0 Cw2]
  obtain ⟨X2, eX⟩ : ∃ X, X = w3.heap.size := ⟨_, rfl⟩
  rw [← eX] at hb2
  have EV2 := Lib.hid (And.intro eV eX)
  clear eV eX
  go_upto_region 6 with fail
  rw [← EV2.out.1, ← EV2.out.2]
  replace hy := hy.below bV2
  replace hw := hw.below bV2
  replace hb := hb.below bV2 hb.lt
  replace hy2 := hy2.below bV2
  replace hw2 := hw2.below bV2
  replace hB := hB.trans (bV2.mono hB.size)
  clear c5_hb_0 c5_hb_1 c5_hb_2 c5_hb_3
  obtain ⟨c6_hb_0, c6_hb_1, c6_hb_2, c6_hb_3⟩ := hb.quad
  clear c6_hb_0 c6_hb_1 c6_hb_2 c6_hb_3
  obtain ⟨c7_hb_0, c7_hb_1, c7_hb_2, c7_hb_3⟩ := hb.quad
  obtain ⟨c7_hb2_0, c7_hb2_1, c7_hb2_2, c7_hb2_3⟩ := hb2.quad
  go_wp2_with fail
  refine (hL _).mono ?_
  rintro e w4 ⟨rfl, b4⟩
  replace hy := hy.below b4
  replace hw := hw.below b4
  replace hb := hb.below b4 hb.lt
  replace hy2 := hy2.below b4
  replace hw2 := hw2.below b4
  replace hb2 := hb2.below b4 hb2.lt
  replace hB := hB.trans (b4.mono hB.size)
  clear c7_hb_0 c7_hb_1 c7_hb_2 c7_hb_3 c7_hb2_0 c7_hb2_1 c7_hb2_2 c7_hb2_3
  obtain ⟨c8_hb_0, c8_hb_1, c8_hb_2, c8_hb_3⟩ := hb.quad
  obtain ⟨c8_hb2_0, c8_hb2_1, c8_hb2_2, c8_hb2_3⟩ := hb2.quad
  go_wp2_with fail
  refine (hS1 _ _ _ ⟨_, _, rfl, hy, hw⟩ ⟨_, _, rfl, hy2, hw2⟩).mono ?_
  rintro e w5 ⟨rfl, b5⟩
  replace hy := hy.below b5
  replace hw := hw.below b5
  replace hb := hb.below b5 hb.lt
  replace hy2 := hy2.below b5
  replace hw2 := hw2.below b5
  replace hb2 := hb2.below b5 hb2.lt
  replace hB := hB.trans (b5.mono hB.size)
  clear c8_hb_0 c8_hb_1 c8_hb_2 c8_hb_3 c8_hb2_0 c8_hb2_1 c8_hb2_2 c8_hb2_3
  obtain ⟨c9_hb_0, c9_hb_1, c9_hb_2, c9_hb_3⟩ := hb.quad
  obtain ⟨c9_hb2_0, c9_hb2_1, c9_hb2_2, c9_hb2_3⟩ := hb2.quad
  go_wp2_with fail
  refine (hS2 _ _ _ ⟨_, _, rfl, hy2, hw2⟩ ⟨_, _, rfl, hy, hw⟩).mono ?_
  rintro e w6 ⟨rfl, b6⟩
  replace hy := hy.below b6
  replace hw := hw.below b6
  replace hb := hb.below b6 hb.lt
  replace hy2 := hy2.below b6
  replace hw2 := hw2.below b6
  replace hb2 := hb2.below b6 hb2.lt
  replace hB := hB.trans (b6.mono hB.size)
  clear c9_hb_0 c9_hb_1 c9_hb_2 c9_hb_3 c9_hb2_0 c9_hb2_1 c9_hb2_2 c9_hb2_3
  obtain ⟨c10_hb_0, c10_hb_1, c10_hb_2, c10_hb_3⟩ := hb.quad
  obtain ⟨c10_hb2_0, c10_hb2_1, c10_hb2_2, c10_hb2_3⟩ := hb2.quad
  go_wp2
  go_ret
  exact ⟨by simp, hB⟩
set_option maxRecDepth 100000 in
set_option maxHeartbeats 8000000 in
theorem BlockTwice_ok3 (v : Value) (l : List Int) (w : World) (h : IsI w v l) (hl : ¬ 20 < l.length) (iL : ∀ x ∈ l, I64 x) (ho : l.any (oddB (sgn ((3 : Nat) : Int))) = false) (hs : ¬ great l < 255) :
    Calls Try.prog 4 #[.int .i64 3, v] w fun e w' => e = .returned (.bool true) ∧ Below w.heap.size w w' := by
  obtain ⟨Aa, Ca, rfl, _, _⟩ := id h.form
  have hL := fun w => alive11_any w
  have hP := fun w h => pack_coded 3 (.slice Aa l.length Ca) l w h 3 (by omega) rfl (by omega) iL ho
  rw [show ((3 : Nat) : Int) = 3 from rfl] at hP
  have hmin : ∀ x ∈ l, x ≠ -9223372036854775808 := fun x hx e => by
    have : l.any (oddB (sgn ((3 : Nat) : Int))) = true := List.any_eq_true.2 ⟨x, hx, by unfold oddB; simp [e]⟩
    rw [ho] at this; cases this
  have hg1 := great_in iL hmin
  have hLd := fun v w h => load_coded v 3 (great l) (packC 3 l) [] w h (by omega) (by omega) hg1 (by rw [packC_len]; omega)
  obtain ⟨t1, t2⟩ := twice_runs (n := 3) (by omega) ho (by omega)
  have hno := (not_odd (n := 3) (by omega) (show 0 ≤ great l by omega) hg1 (packC_lt (k := ((3 : Nat) : Int)) (l := l))).1
  have hin : ∀ x ∈ loadC 3 (great l) (packC ((3 : Nat) : Int) l), I64 x := fun x hx => by
    have := load_mem (n := 3) (by omega) (show 0 ≤ great l by omega) packC_lt hx
    unfold I64; omega
  have hlm : (loadC 3 (great l) (packC ((3 : Nat) : Int) l)).length ≤ 4096 := by unfold loadC; rw [List.length_map, packC_len]; omega
  have hP2 := fun v w h => pack_coded 3 v (loadC 3 (great l) (packC ((3 : Nat) : Int) l)) w h 3 (by omega) rfl hlm hin hno
  rw [t1, t2] at hP2
  rw [show ((3 : Nat) : Int) = 3 from rfl] at hP2 hLd
  clear t1 t2 hno hin hlm hmin iL ho
  generalize loadC 3 (great l) (packC 3 l) = M at *
  generalize packC 3 l = K at *
  generalize great l = s at *
  have hS1 := fun u v w h h' => rbsame_any u v 3 s K [] 3 s K [] w h h'
  have hS2 := fun u v w h h' => bsame_any u v 3 s K [] 3 s K [] w h h'
  have hs1 : decide (s < 255) = false := decide_eq_false hs
  have hB := Below.refl w.heap.size w
  go_enter Try.func4, Try.ntmps4
  go_wp2_with fail
  refine (hP _ h).mono ?_
  rintro e w1 ⟨b1, rfl, ⟨bc, bw, rfl, hy, hw⟩, b1⟩
  replace h := h.below b1
  replace hB := hB.trans (b1.mono hB.size)
  obtain ⟨Ac, Cc, rfl, _, _⟩ := id hy.form
  obtain ⟨Aw, Cw, rfl, _, _⟩ := id hw.form
  obtain ⟨V1, eV, hb, bV1⟩ := box1 w1 27 #[.int .i64 3, .int .i64 s, .slice Ac K.length Cc, .slice Aw 0 Cw]
  obtain ⟨X1, eX⟩ : ∃ X, X = w1.heap.size := ⟨_, rfl⟩
  rw [← eX] at hb
  have EV1 := Lib.hid (And.intro eV eX)
  clear eV eX
  go_upto_region 4 with fail
  rw [← EV1.out.1, ← EV1.out.2]
  replace hy := hy.below bV1
  replace hw := hw.below bV1
  replace hB := hB.trans (bV1.mono hB.size)
  obtain ⟨c3_hb_0, c3_hb_1, c3_hb_2, c3_hb_3⟩ := hb.quad
  go_wp2_with fail
  refine (hLd _ _ ⟨_, _, rfl, hy, hw⟩).mono ?_
  rintro e w2 ⟨v9, rfl, h9, b2⟩
  replace hy := hy.below b2
  replace hw := hw.below b2
  replace hb := hb.below b2 hb.lt
  replace hB := hB.trans (b2.mono hB.size)
  clear c3_hb_0 c3_hb_1 c3_hb_2 c3_hb_3
  obtain ⟨c4_hb_0, c4_hb_1, c4_hb_2, c4_hb_3⟩ := hb.quad
  go_wp2_with fail
  refine (hP2 _ _ h9).mono ?_
  rintro e w3 ⟨b2, rfl, ⟨bc2, bw2, rfl, hy2, hw2⟩, b3⟩
  replace hy := hy.below b3
  replace hw := hw.below b3
  replace hb := hb.below b3 hb.lt
  replace h9 := h9.below b3
  replace hB := hB.trans (b3.mono hB.size)
  clear c4_hb_0 c4_hb_1 c4_hb_2 c4_hb_3
  obtain ⟨c5_hb_0, c5_hb_1, c5_hb_2, c5_hb_3⟩ := hb.quad
  obtain ⟨Ac2, Cc2, rfl, _, _⟩ := id hy2.form
  obtain ⟨Aw2, Cw2, rfl, _, _⟩ := id hw2.form
  obtain ⟨V2, eV, hb2, bV2⟩ := box1 w3 27 #[.int .i64 3, .int .i64 s, .slice Ac2 K.length Cc2, .slice Aw2 0 Cw2]
  obtain ⟨X2, eX⟩ : ∃ X, X = w3.heap.size := ⟨_, rfl⟩
  rw [← eX] at hb2
  have EV2 := Lib.hid (And.intro eV eX)
  clear eV eX
  go_upto_region 6 with fail
  rw [← EV2.out.1, ← EV2.out.2]
  replace hy := hy.below bV2
  replace hw := hw.below bV2
  replace hb := hb.below bV2 hb.lt
  replace hy2 := hy2.below bV2
  replace hw2 := hw2.below bV2
  replace hB := hB.trans (bV2.mono hB.size)
  clear c5_hb_0 c5_hb_1 c5_hb_2 c5_hb_3
  obtain ⟨c6_hb_0, c6_hb_1, c6_hb_2, c6_hb_3⟩ := hb.quad
  clear c6_hb_0 c6_hb_1 c6_hb_2 c6_hb_3
  obtain ⟨c7_hb_0, c7_hb_1, c7_hb_2, c7_hb_3⟩ := hb.quad
  obtain ⟨c7_hb2_0, c7_hb2_1, c7_hb2_2, c7_hb2_3⟩ := hb2.quad
  go_wp2_with fail
  refine (hL _).mono ?_
  rintro e w4 ⟨rfl, b4⟩
  replace hy := hy.below b4
  replace hw := hw.below b4
  replace hb := hb.below b4 hb.lt
  replace hy2 := hy2.below b4
  replace hw2 := hw2.below b4
  replace hb2 := hb2.below b4 hb2.lt
  replace hB := hB.trans (b4.mono hB.size)
  clear c7_hb_0 c7_hb_1 c7_hb_2 c7_hb_3 c7_hb2_0 c7_hb2_1 c7_hb2_2 c7_hb2_3
  obtain ⟨c8_hb_0, c8_hb_1, c8_hb_2, c8_hb_3⟩ := hb.quad
  obtain ⟨c8_hb2_0, c8_hb2_1, c8_hb2_2, c8_hb2_3⟩ := hb2.quad
  go_wp2_with fail
  refine (hS1 _ _ _ ⟨_, _, rfl, hy, hw⟩ ⟨_, _, rfl, hy2, hw2⟩).mono ?_
  rintro e w5 ⟨rfl, b5⟩
  replace hy := hy.below b5
  replace hw := hw.below b5
  replace hb := hb.below b5 hb.lt
  replace hy2 := hy2.below b5
  replace hw2 := hw2.below b5
  replace hb2 := hb2.below b5 hb2.lt
  replace hB := hB.trans (b5.mono hB.size)
  clear c8_hb_0 c8_hb_1 c8_hb_2 c8_hb_3 c8_hb2_0 c8_hb2_1 c8_hb2_2 c8_hb2_3
  obtain ⟨c9_hb_0, c9_hb_1, c9_hb_2, c9_hb_3⟩ := hb.quad
  obtain ⟨c9_hb2_0, c9_hb2_1, c9_hb2_2, c9_hb2_3⟩ := hb2.quad
  go_wp2_with fail
  refine (hS2 _ _ _ ⟨_, _, rfl, hy2, hw2⟩ ⟨_, _, rfl, hy, hw⟩).mono ?_
  rintro e w6 ⟨rfl, b6⟩
  replace hy := hy.below b6
  replace hw := hw.below b6
  replace hb := hb.below b6 hb.lt
  replace hy2 := hy2.below b6
  replace hw2 := hw2.below b6
  replace hb2 := hb2.below b6 hb2.lt
  replace hB := hB.trans (b6.mono hB.size)
  clear c9_hb_0 c9_hb_1 c9_hb_2 c9_hb_3 c9_hb2_0 c9_hb2_1 c9_hb2_2 c9_hb2_3
  obtain ⟨c10_hb_0, c10_hb_1, c10_hb_2, c10_hb_3⟩ := hb.quad
  obtain ⟨c10_hb2_0, c10_hb2_1, c10_hb2_2, c10_hb2_3⟩ := hb2.quad
  go_wp2
  go_ret
  exact ⟨by simp, hB⟩
theorem BlockTwice_all (k : Int) (v : Value) (l : List Int) (w : World) (h : IsI w v l) (iL : ∀ x ∈ l, I64 x) :
    Calls Try.prog 4 #[.int .i64 k, v] w fun e w' => e = .returned (.bool true) ∧ Below w.heap.size w w' := by
  by_cases hl : 20 < l.length
  · exact BlockTwice_few k v l w h hl
  by_cases hk : k = 2 ∨ k = 3
  · rcases hk with rfl | rfl
    · cases ho : l.any (oddB (sgn ((2 : Nat) : Int)))
      · by_cases hs : great l < 255
        · exact BlockTwice_small2 v l w h hl iL ho hs
        · exact BlockTwice_ok2 v l w h hl iL ho hs
      · exact BlockTwice_no2 v l w h hl iL ho
    · cases ho : l.any (oddB (sgn ((3 : Nat) : Int)))
      · by_cases hs : great l < 255
        · exact BlockTwice_small3 v l w h hl iL ho hs
        · exact BlockTwice_ok3 v l w h hl iL ho hs
      · exact BlockTwice_no3 v l w h hl iL ho
  · exact BlockTwice_kind k v l w h hl hk
end Go.Proofs.Ytgcebmgmmhdcpaa
