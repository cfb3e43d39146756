/- RIGHT: what is kept is right, of that Keep, and has as many numbers; those of wide blocks are as they were; none is greater than the greatest there was. No conditions: every input. Printed by gen_tright14.py. -/
import Derived.Test.YtochabikpaoalaaGreatCost14
import Derived.Test.YtochabikpaoalaaGreatRef14s
import Derived.Test.YtochabikpaoalaaGreatRef14q
import Derived.Deep.RegionHeld3
import Derived.Deep.DrawnRows
namespace Go.Proofs.YtochabikpaoalaaGreat
open Go.RowKit
attribute [local go_sem ↓] Go.wp_at_zero Go.wp_at_succ
theorem bkin_of {k z m o : Int} {l : List Int} (hi : ∀ x ∈ l, I64 x) (h : ofE k z m o l = 0) : ∀ b ∈ bksTo k z m o l (partN z.toNat l.length), BkIn b := by
  obtain ⟨h1, h2, h3⟩ := ofE_zero h
  obtain ⟨Z, rfl, z1, z2⟩ := size_of h1
  intro b hb
  unfold bksTo at hb
  obtain ⟨i, hi', rfl⟩ := List.mem_map.1 hb
  have ho := odd_part h3 (List.mem_range.1 hi')
  rw [Int.toNat_natCast] at *
  have hpl := partZ_len Z l i
  have hpi : ∀ x ∈ partZ Z l i, I64 x := fun x hx => hi x (partZ_mem hx)
  have hgr := great_in hpi (oddP_min ho)
  have hg0 := great_nonneg (partZ Z l i)
  obtain ⟨k0, k3, _⟩ := mayB_iff.1 h1
  rcases kindOf_or (k := k) (m := m) (o := o) l.length (partZ Z l i) with ⟨e, _⟩ | ⟨e, _⟩
  · rw [e]
    have hb : bkOf 4 (partZ Z l i) = (4, 0, [], partZ Z l i) := if_pos rfl
    rw [hb]
    exact ⟨by simp [I64], by simp [I64], hpi, by simp, by simp only; omega⟩
  · rw [e]
    have hb : bkOf k (partZ Z l i) = (k, great (partZ Z l i), packC k (partZ Z l i), []) := if_neg (by omega)
    rw [hb]
    exact ⟨by show I64 k; unfold I64; omega, by show I64 (great (partZ Z l i)); unfold I64; omega, by simp, by show (packC k (partZ Z l i)).length ≤ _; rw [packC_len]; omega, by simp⟩
set_option maxRecDepth 100000 in
set_option maxHeartbeats 4000000 in
theorem TensRight_many (k z m o : Int) (v : Value) (l : List Int) (w : World) (h : IsI w v l) (hi : ∀ x ∈ l, I64 x) (hn : ¬ l.length ≤ 24) :
    Calls Tryz.prog 5 #[.agg #[.int .i64 k, .int .i64 z, .int .i64 m, .int .i64 o], v] w fun e w' => e = .returned (.bool true) ∧ Below w.heap.size w w' := by
  obtain ⟨A, C, rfl, _, _⟩ := id h.form
  have hL := fun w => alive14_any w
  have n1 : decide ((24 : Int) < (l.length : Int)) = true := decide_eq_true (by omega)
  have n2 : decide (24 < l.length) = true := decide_eq_true (by omega)
  have n3 : (24 : Int) < (l.length : Int) := by omega
  obtain ⟨W0, hW, hR, hB⟩ := box1 w 23 #[.int .i64 k, .int .i64 z, .int .i64 m, .int .i64 o]
  obtain ⟨g, hg⟩ : ∃ g, g = w.heap.size := ⟨_, rfl⟩
  have hW' := Lib.hid (And.intro hW hg)
  rw [← hg] at hR
  have hgw : w.heap.size ≤ g := by omega
  clear hW hg
  have hKp := hR
  replace h := h.below hB
  obtain ⟨c1_hKp_0, c1_hKp_1, c1_hKp_2, c1_hKp_3⟩ := hKp.quad
  go_enter Tryz.func5, Tryz.ntmps5
  go_wp2_with fail
  rw [← hW'.out.1, ← hW'.out.2]
  refine (hL _).mono ?_
  rintro e w1 ⟨rfl, b1⟩
  replace h := h.below b1
  replace hKp := hKp.below b1 hKp.lt
  replace hB := hB.trans (b1.mono hB.size)
  clear c1_hKp_0 c1_hKp_1 c1_hKp_2 c1_hKp_3
  obtain ⟨c2_hKp_0, c2_hKp_1, c2_hKp_2, c2_hKp_3⟩ := hKp.quad
  go_wp2
  go_ret
  exact ⟨rfl, hB⟩
set_option maxRecDepth 100000 in
set_option maxHeartbeats 4000000 in
theorem TensRight_err (k z m o : Int) (v : Value) (l : List Int) (w : World) (h : IsI w v l) (hi : ∀ x ∈ l, I64 x) (hn : l.length ≤ 24) (he : ofE k z m o l = 1) :
    Calls Tryz.prog 5 #[.agg #[.int .i64 k, .int .i64 z, .int .i64 m, .int .i64 o], v] w fun e w' => e = .returned (.bool true) ∧ Below w.heap.size w w' := by
  obtain ⟨A, C, rfl, _, _⟩ := id h.form
  have hL := fun w => alive14_any w
  have n1 : decide ((24 : Int) < (l.length : Int)) = false := decide_eq_false (by omega)
  have n2 : decide (24 < l.length) = false := decide_eq_false (by omega)
  have hO := fun w h => tof_any k z m o (.slice A l.length C) l w h hi
  have e2 : ofS k z m o l = (0, 0, 0, 0, 0, []) := if_neg (by rw [he]; decide)
  have hSm := fun u v w h h' => rsame14_any u v (0, 0, 0, 0, 0, []) (0, 0, 0, 0, 0, []) w h h'
  rw [eqS_refl] at hSm
  rw [he, e2] at hO
  clear he e2
  obtain ⟨W0, hW, hR, hB⟩ := box1 w 23 #[.int .i64 k, .int .i64 z, .int .i64 m, .int .i64 o]
  obtain ⟨g, hg⟩ : ∃ g, g = w.heap.size := ⟨_, rfl⟩
  have hW' := Lib.hid (And.intro hW hg)
  rw [← hg] at hR
  have hgw : w.heap.size ≤ g := by omega
  clear hW hg
  have hKp := hR
  replace h := h.below hB
  obtain ⟨c1_hKp_0, c1_hKp_1, c1_hKp_2, c1_hKp_3⟩ := hKp.quad
  go_enter Tryz.func5, Tryz.ntmps5
  go_wp2_with fail
  rw [← hW'.out.1, ← hW'.out.2]
  refine (hO _ h).mono ?_
  rintro e w1 ⟨s, rfl, ⟨x, rfl, hbs⟩, b1⟩
  replace h := h.below b1
  replace hKp := hKp.below b1 hKp.lt
  replace hB := hB.trans (b1.mono hB.size)
  clear c1_hKp_0 c1_hKp_1 c1_hKp_2 c1_hKp_3
  obtain ⟨c2_hKp_0, c2_hKp_1, c2_hKp_2, c2_hKp_3⟩ := hKp.quad
  simp only at hbs
  obtain ⟨A1, C1, rfl, _, _⟩ := id hbs.len
  obtain ⟨V1, eV, hS, bV1⟩ := box1 w1 26 #[.int .i64 0, .int .i64 0, .int .i64 0, .int .i64 0, .int .i64 0, .slice A1 0 C1]
  obtain ⟨X1, eX⟩ : ∃ X, X = w1.heap.size := ⟨_, rfl⟩
  rw [← eX] at hS
  have EV1 := Lib.hid (And.intro eV eX)
  clear eV eX
  go_upto_region 4 with fail
  rw [← EV1.out.1, ← EV1.out.2]
  replace h := h.below bV1
  replace hKp := hKp.below bV1 hKp.lt
  replace hbs := hbs.below bV1
  replace hB := hB.trans (bV1.mono hB.size)
  clear c2_hKp_0 c2_hKp_1 c2_hKp_2 c2_hKp_3
  obtain ⟨c3_hKp_0, c3_hKp_1, c3_hKp_2, c3_hKp_3⟩ := hKp.quad
  clear c3_hKp_0 c3_hKp_1 c3_hKp_2 c3_hKp_3
  obtain ⟨c4_hKp_0, c4_hKp_1, c4_hKp_2, c4_hKp_3⟩ := hKp.quad
  obtain ⟨c4_hS_0, c4_hS_1, c4_hS_2, c4_hS_3, c4_hS_4, c4_hS_5⟩ := hS.cells6
  go_wp2_with fail
  refine (hL _).mono ?_
  rintro e w2 ⟨rfl, b2⟩
  replace h := h.below b2
  replace hKp := hKp.below b2 hKp.lt
  replace hbs := hbs.below b2
  replace hS := hS.below b2 hS.lt
  replace hB := hB.trans (b2.mono hB.size)
  clear c4_hKp_0 c4_hKp_1 c4_hKp_2 c4_hKp_3 c4_hS_0 c4_hS_1 c4_hS_2 c4_hS_3 c4_hS_4 c4_hS_5
  obtain ⟨c5_hKp_0, c5_hKp_1, c5_hKp_2, c5_hKp_3⟩ := hKp.quad
  obtain ⟨c5_hS_0, c5_hS_1, c5_hS_2, c5_hS_3, c5_hS_4, c5_hS_5⟩ := hS.cells6
  go_wp2_with fail
  refine (hSm _ _ _ ⟨_, rfl, hbs⟩ ⟨_, rfl, IsBs.nil _⟩).mono ?_
  rintro e w3 ⟨rfl, b3⟩
  replace h := h.below b3
  replace hKp := hKp.below b3 hKp.lt
  replace hbs := hbs.below b3
  replace hS := hS.below b3 hS.lt
  replace hB := hB.trans (b3.mono hB.size)
  clear c5_hKp_0 c5_hKp_1 c5_hKp_2 c5_hKp_3 c5_hS_0 c5_hS_1 c5_hS_2 c5_hS_3 c5_hS_4 c5_hS_5
  obtain ⟨c6_hKp_0, c6_hKp_1, c6_hKp_2, c6_hKp_3⟩ := hKp.quad
  obtain ⟨c6_hS_0, c6_hS_1, c6_hS_2, c6_hS_3, c6_hS_4, c6_hS_5⟩ := hS.cells6
  go_wp2
  go_ret
  exact ⟨rfl, hB⟩
set_option maxRecDepth 100000 in
set_option maxHeartbeats 8000000 in
theorem TensRight_ok (k z m o : Int) (v : Value) (l : List Int) (w : World) (h : IsI w v l) (hi : ∀ x ∈ l, I64 x) (hn : l.length ≤ 24) (he : ofE k z m o l = 0) :
    Calls Tryz.prog 5 #[.agg #[.int .i64 k, .int .i64 z, .int .i64 m, .int .i64 o], v] w fun e w' => e = .returned (.bool true) ∧ Below w.heap.size w w' := by
  obtain ⟨A, C, rfl, _, _⟩ := id h.form
  have hL := fun w => alive14_any w
  have n1 : decide ((24 : Int) < (l.length : Int)) = false := decide_eq_false (by omega)
  have n2 : decide (24 < l.length) = false := decide_eq_false (by omega)
  have hO := fun w h => tof_any k z m o (.slice A l.length C) l w h hi
  obtain ⟨h1, h2, h3⟩ := ofE_zero he
  obtain ⟨Z, rfl, z1, z2⟩ := size_of h1
  have hofs : ofS k Z m o l = (k, (Z : Int), m, o, (l.length : Int), bksTo k Z m o l (partN (Z : Int).toNat l.length)) := if_pos he
  have hrt := of_right hi he
  have hll := load_len hi he
  have hgl := load_great_of hi he
  obtain ⟨f1, f2, f3⟩ := few_of hi he
  have f4 := bkin_of hi he
  have hmin := of_min he
  have HWD : Hid (∀ i, i < l.length → ((bksTo k Z m o l (partN (Z : Int).toNat l.length))[i / Z]?.getD (0, 0, [], [])).1 = 4 → iat (loadS (bksTo k Z m o l (partN (Z : Int).toNat l.length))) i = iat l i) := Lib.hid (fun i hl hw => by
    have := loadS_wide hi he hl (by rw [Int.toNat_natCast] at *; exact hw)
    exact this.2)
  rw [hofs] at hrt hll hgl
  simp only at hll hgl
  rw [he, hofs] at hO
  have hLd := fun v w h => tload_any v (k, (Z : Int), m, o, (l.length : Int), bksTo k Z m o l (partN (Z : Int).toNat l.length)) w h f1 f3
  have hR1 := fun v w h => rright14_any v (k, (Z : Int), m, o, (l.length : Int), bksTo k Z m o l (partN (Z : Int).toNat l.length)) w h f4
  have hR2 := fun v w h => tright_any v (k, (Z : Int), m, o, (l.length : Int), bksTo k Z m o l (partN (Z : Int).toNat l.length)) w h f2
  rw [hrt] at hR1 hR2
  simp only at hLd
  have hgin := great_in hi hmin
  have hG2 := fun v w h => rgreat_any v l w h (fun x hx => ⟨hi x hx, hmin x hx⟩)
  have hG1 := fun v w h => rgreat_any v (loadS (bksTo k Z m o l (partN (Z : Int).toNat l.length))) w h (fun x hx => by
    have := great_mem hx
    unfold I64; omega)
  have HLN : Hid ((bksTo k Z m o l (partN (Z : Int).toNat l.length)).length = partN Z l.length) := Lib.hid (by rw [bksTo_len, Int.toNat_natCast])
  have c3 : decide (great l < great (loadS (bksTo k Z m o l (partN (Z : Int).toNat l.length)))) = false := decide_eq_false (by omega)
  generalize loadS (bksTo k (Z : Int) m o l (partN (Z : Int).toNat l.length)) = ML at *
  generalize bksTo k (Z : Int) m o l (partN (Z : Int).toNat l.length) = bs at *
  generalize great ML = gm at *
  generalize great l = gl at *
  have HML := Lib.hid hll
  have c1 : ((ML.length : Int) != (l.length : Int)) = false := by rw [hll]; simp
  have c2 : decide ((ML.length : Int) = (l.length : Int)) = true := by rw [hll]; simp
  have hz3 : (Z : Int) ≠ 0 := by omega
  have hz0 : ((Z : Int) == 0) = false := by rw [beq_eq_false_iff_ne]; omega
  have hz4 : ¬ Z = 0 := by omega
  clear he h1 h2 h3 hofs f1 f2 f3 f4 hmin hrt hll hgl hgin
  obtain ⟨W0, hW, hR, hB⟩ := box1 w 23 #[.int .i64 k, .int .i64 Z, .int .i64 m, .int .i64 o]
  obtain ⟨g, hg⟩ : ∃ g, g = w.heap.size := ⟨_, rfl⟩
  have hW' := Lib.hid (And.intro hW hg)
  rw [← hg] at hR
  have hgw : w.heap.size ≤ g := by omega
  clear hW hg
  have hKp := hR
  replace h := h.below hB
  obtain ⟨c1_hKp_0, c1_hKp_1, c1_hKp_2, c1_hKp_3⟩ := hKp.quad
  go_enter Tryz.func5, Tryz.ntmps5
  go_wp2_with fail
  rw [← hW'.out.1, ← hW'.out.2]
  refine (hO _ h).mono ?_
  rintro e w1 ⟨s, rfl, ⟨x, rfl, hbs⟩, b1⟩
  replace h := h.below b1
  replace hKp := hKp.below b1 hKp.lt
  replace hB := hB.trans (b1.mono hB.size)
  clear c1_hKp_0 c1_hKp_1 c1_hKp_2 c1_hKp_3
  obtain ⟨c2_hKp_0, c2_hKp_1, c2_hKp_2, c2_hKp_3⟩ := hKp.quad
  simp only at hbs
  obtain ⟨A1, C1, rfl, _, _⟩ := id hbs.len
  obtain ⟨V1, eV, hS, bV1⟩ := box1 w1 26 #[.int .i64 k, .int .i64 Z, .int .i64 m, .int .i64 o, .int .i64 l.length, .slice A1 bs.length C1]
  obtain ⟨X1, eX⟩ : ∃ X, X = w1.heap.size := ⟨_, rfl⟩
  rw [← eX] at hS
  have EV1 := Lib.hid (And.intro eV eX)
  clear eV eX
  go_upto_region 4 with fail
  rw [← EV1.out.1, ← EV1.out.2]
  replace h := h.below bV1
  replace hKp := hKp.below bV1 hKp.lt
  replace hbs := hbs.below bV1
  replace hB := hB.trans (bV1.mono hB.size)
  clear c2_hKp_0 c2_hKp_1 c2_hKp_2 c2_hKp_3
  obtain ⟨c3_hKp_0, c3_hKp_1, c3_hKp_2, c3_hKp_3⟩ := hKp.quad
  clear c3_hKp_0 c3_hKp_1 c3_hKp_2 c3_hKp_3
  obtain ⟨c4_hKp_0, c4_hKp_1, c4_hKp_2, c4_hKp_3⟩ := hKp.quad
  obtain ⟨c4_hS_0, c4_hS_1, c4_hS_2, c4_hS_3, c4_hS_4, c4_hS_5⟩ := hS.cells6
  go_wp2_with fail
  refine (hLd _ _ ⟨_, rfl, hbs⟩).mono ?_
  rintro e w2 ⟨v2, rfl, hml, b2⟩
  replace h := h.below b2
  replace hKp := hKp.below b2 hKp.lt
  replace hbs := hbs.below b2
  replace hS := hS.below b2 hS.lt
  replace hB := hB.trans (b2.mono hB.size)
  clear c4_hKp_0 c4_hKp_1 c4_hKp_2 c4_hKp_3 c4_hS_0 c4_hS_1 c4_hS_2 c4_hS_3 c4_hS_4 c4_hS_5
  obtain ⟨c5_hKp_0, c5_hKp_1, c5_hKp_2, c5_hKp_3⟩ := hKp.quad
  obtain ⟨c5_hS_0, c5_hS_1, c5_hS_2, c5_hS_3, c5_hS_4, c5_hS_5⟩ := hS.cells6
  obtain ⟨A2, C2, rfl, _, _⟩ := id hml.form
  go_wp2_with fail
  refine (hR1 _ _ ⟨_, rfl, hbs⟩).mono ?_
  rintro e w3 ⟨rfl, b3⟩
  replace h := h.below b3
  replace hKp := hKp.below b3 hKp.lt
  replace hbs := hbs.below b3
  replace hS := hS.below b3 hS.lt
  replace hml := hml.below b3
  replace hB := hB.trans (b3.mono hB.size)
  clear c5_hKp_0 c5_hKp_1 c5_hKp_2 c5_hKp_3 c5_hS_0 c5_hS_1 c5_hS_2 c5_hS_3 c5_hS_4 c5_hS_5
  obtain ⟨c6_hKp_0, c6_hKp_1, c6_hKp_2, c6_hKp_3⟩ := hKp.quad
  obtain ⟨c6_hS_0, c6_hS_1, c6_hS_2, c6_hS_3, c6_hS_4, c6_hS_5⟩ := hS.cells6
  go_wp2_with fail
  refine (hR2 _ _ ⟨_, rfl, hbs⟩).mono ?_
  rintro e w4 ⟨rfl, b4⟩
  replace h := h.below b4
  replace hKp := hKp.below b4 hKp.lt
  replace hbs := hbs.below b4
  replace hS := hS.below b4 hS.lt
  replace hml := hml.below b4
  replace hB := hB.trans (b4.mono hB.size)
  clear c6_hKp_0 c6_hKp_1 c6_hKp_2 c6_hKp_3 c6_hS_0 c6_hS_1 c6_hS_2 c6_hS_3 c6_hS_4 c6_hS_5
  obtain ⟨c7_hKp_0, c7_hKp_1, c7_hKp_2, c7_hKp_3⟩ := hKp.quad
  obtain ⟨c7_hS_0, c7_hS_1, c7_hS_2, c7_hS_3, c7_hS_4, c7_hS_5⟩ := hS.cells6
  go_wp2_with fail
  refine (hG1 _ _ hml).mono ?_
  rintro e w5 ⟨rfl, n5, hn5⟩
  have b5 : Below w4.heap.size w4 w5 := by rw [hn5]; exact below_drewN (Below.refl _ _) n5
  clear hn5
  replace h := h.below b5
  replace hKp := hKp.below b5 hKp.lt
  replace hbs := hbs.below b5
  replace hS := hS.below b5 hS.lt
  replace hml := hml.below b5
  replace hB := hB.trans (b5.mono hB.size)
  clear c7_hKp_0 c7_hKp_1 c7_hKp_2 c7_hKp_3 c7_hS_0 c7_hS_1 c7_hS_2 c7_hS_3 c7_hS_4 c7_hS_5
  obtain ⟨c8_hKp_0, c8_hKp_1, c8_hKp_2, c8_hKp_3⟩ := hKp.quad
  obtain ⟨c8_hS_0, c8_hS_1, c8_hS_2, c8_hS_3, c8_hS_4, c8_hS_5⟩ := hS.cells6
  go_wp2_with fail
  refine (hG2 _ _ h).mono ?_
  rintro e w6 ⟨rfl, n6, hn6⟩
  have b6 : Below w5.heap.size w5 w6 := by rw [hn6]; exact below_drewN (Below.refl _ _) n6
  clear hn6
  replace h := h.below b6
  replace hKp := hKp.below b6 hKp.lt
  replace hbs := hbs.below b6
  replace hS := hS.below b6 hS.lt
  replace hml := hml.below b6
  replace hB := hB.trans (b6.mono hB.size)
  clear c8_hKp_0 c8_hKp_1 c8_hKp_2 c8_hKp_3 c8_hS_0 c8_hS_1 c8_hS_2 c8_hS_3 c8_hS_4 c8_hS_5
  obtain ⟨c9_hKp_0, c9_hKp_1, c9_hKp_2, c9_hKp_3⟩ := hKp.quad
  obtain ⟨c9_hS_0, c9_hS_1, c9_hS_2, c9_hS_3, c9_hS_4, c9_hS_5⟩ := hS.cells6
  go_wp2
  clear c9_hKp_0 c9_hKp_1 c9_hKp_2 c9_hKp_3 c9_hS_0 c9_hS_1 c9_hS_2 c9_hS_3 c9_hS_4 c9_hS_5
  go_loopw [8] (fun i wr => ∃ j : Nat, i = .int .i64 j ∧ j ≤ l.length ∧ Below w6.heap.size w6 wr) (fun i _ => l.length - (intOf i).toNat)
  case atStart => exact ⟨0, rfl, by omega, Below.refl _ _⟩
  case round =>
    obtain ⟨j, rfl, hj, bl⟩ := hrel
    replace h := h.below bl
    replace hKp := hKp.below bl hKp.lt
    replace hbs := hbs.below bl
    replace hS := hS.below bl hS.lt
    replace hml := hml.below bl
    replace hB := hB.trans (bl.mono hB.size)
    obtain ⟨c10_hKp_0, c10_hKp_1, c10_hKp_2, c10_hKp_3⟩ := hKp.quad
    obtain ⟨c10_hS_0, c10_hS_1, c10_hS_2, c10_hS_3, c10_hS_4, c10_hS_5⟩ := hS.cells6
    by_cases hlt : j < l.length
    · obtain ⟨q, hq⟩ : ∃ q : Nat, q = j / Z := ⟨_, rfl⟩
      have hqN : q < bs.length := by rw [HLN.out, hq]; exact (partN_lt z1).2 (by have := Nat.div_mul_le_self j Z; omega)
      have hWD := HWD.out j hlt
      rw [← hq] at hWD
      obtain ⟨ad, d1, k1, sc, cs, wd, a1, a2, e1, _, hat, x0, x1, x2, x3, hy, hi1⟩ := hbs.at_ hqN
      obtain ⟨rfl, _, rfl⟩ := Value.slice.inj e1
      obtain ⟨adl, rfl, cl⟩ := h.at_ hlt
      obtain ⟨adm, rfl, cm⟩ := hml.at_ (k := j) (by rw [HML.out]; exact hlt)
      rw [hat] at hWD
      simp only [Option.getD_some] at hWD
      have i0 : (0 : Int) ≤ (j : Int) := by omega
      have i1 : (j : Int) < (l.length : Int) := by omega
      have i2 : (j : Int) < (ML.length : Int) := by rw [HML.out]; omega
      have i3 : (0 : Int) ≤ (q : Int) := by omega
      have i4 : (q : Int) < (bs.length : Int) := by omega
      have hqj : q ≤ 24 := by rw [hq]; have := Nat.div_le_self j Z; omega
      have hw3 : IntKind.i64.wrap ((j : Int).tdiv (Z : Int)) = (q : Int) := by
        have e : (j : Int).tdiv (Z : Int) = (q : Int) := by rw [Int.tdiv_eq_ediv_of_nonneg (by omega), hq, Int.natCast_ediv]
        rw [e, IntKind.wrap_i64]; omega
      have hw4 : IntKind.i64.wrap ((j : Int) / (Z : Int)) = (q : Int) := by
        have e : (j : Int) / (Z : Int) = (q : Int) := by rw [hq, Int.natCast_ediv]
        rw [e, IntKind.wrap_i64]; omega
      clear hq hat hy hi1 x1 x2 x3 hqj
      generalize iat l j = yl at *
      generalize iat ML j = ym at *
      go_upto_region 12 with fail
      by_cases hk : k1 = 4
      · have h1 : (k1 == 4) = true := by rw [hk]; rfl
        have h2 : decide (k1 = 4) = true := decide_eq_true hk
        have hyy : ym = yl := hWD hk
        have h3 : (ym != yl) = false := by rw [hyy]; simp
        have h4 : decide (ym = yl) = true := decide_eq_true hyy
        clear hk hyy hWD
        refine wp_region_noPanic ?_
        refine wp_region_held_drew (S := fun w' => w'.cell? ⟨g, 1, none⟩ = some (.int .i64 Z) ∧ w'.cell? ⟨X1, 5, none⟩ = some (.slice (some ad) bs.length C1) ∧ w'.cell? (ad.add (q * 4)) = some (.int .i64 k1) ∧ w'.cell? (adm.add j) = some (.int .i64 ym) ∧ w'.cell? (adl.add j) = some (.int .i64 yl)) (by kernel_rfl) ?_ (fun hHeld => ?_)
        · exact ⟨(hKp.below (by first | assumption | exact bdrew _) hKp.lt).cell 1, (hS.below (by first | assumption | exact bdrew _) hS.lt).cell 5, cellBT (by first | assumption | exact bdrew _) x0, cellBT (by first | assumption | exact bdrew _) cm, cellBT (by first | assumption | exact bdrew _) cl⟩
        refine wpAnyH_take (i := 0) (v := ?b1_v0) rfl (by kernel_rfl) (by kernel_rfl) (by kernel_rfl) (fun _ _ _ h => h) (Or.inl ⟨by kernel_rfl, ?b1_hy0⟩) (by assumption) ?b1_rest0
        case b1_hy0 => (intro w hSw; (try dsimp only at hSw); go_simp; try (with_reducible rfl))
        try simp only [Act.put, List.getElem_toArray, List.getElem_cons_succ, List.getElem_cons_zero, List.setIfInBounds_toArray, List.set_cons_zero, List.set_cons_succ]
        refine wpAnyH_take (i := 1) (v := ?b1_v1) rfl (by kernel_rfl) (by kernel_rfl) (by kernel_rfl) (fun _ _ _ h => h) (Or.inl ⟨by kernel_rfl, ?b1_hy1⟩) (by assumption) ?b1_rest1
        case b1_hy1 => (intro w hSw; (try dsimp only at hSw); go_simp; try (with_reducible rfl))
        try simp only [Act.put, List.getElem_toArray, List.getElem_cons_succ, List.getElem_cons_zero, List.setIfInBounds_toArray, List.set_cons_zero, List.set_cons_succ]
        refine wpAnyH_take (i := 2) (v := ?b1_v2) rfl (by kernel_rfl) (by kernel_rfl) (by kernel_rfl) (fun _ _ _ h => h) (Or.inl ⟨by kernel_rfl, ?b1_hy2⟩) (by assumption) ?b1_rest2
        case b1_hy2 => (intro w hSw; (try dsimp only at hSw); go_simp; try (with_reducible rfl))
        try simp only [Act.put, List.getElem_toArray, List.getElem_cons_succ, List.getElem_cons_zero, List.setIfInBounds_toArray, List.set_cons_zero, List.set_cons_succ]
        refine wpAnyH_take (i := 3) (v := ?b1_v3) rfl (by kernel_rfl) (by kernel_rfl) (by kernel_rfl) (fun _ _ _ h => h) (Or.inl ⟨by kernel_rfl, ?b1_hy3⟩) (by assumption) ?b1_rest3
        case b1_hy3 => (intro w hSw; (try dsimp only at hSw); go_simp; try (with_reducible rfl))
        try simp only [Act.put, List.getElem_toArray, List.getElem_cons_succ, List.getElem_cons_zero, List.setIfInBounds_toArray, List.set_cons_zero, List.set_cons_succ]
        refine wpAnyH_take (i := 4) (v := ?b1_v4) rfl (by kernel_rfl) (by kernel_rfl) (by kernel_rfl) (fun _ _ _ h => h) (Or.inl ⟨by kernel_rfl, ?b1_hy4⟩) (by assumption) ?b1_rest4
        case b1_hy4 => (intro w hSw; (try dsimp only at hSw); go_simp; try (with_reducible rfl))
        try simp only [Act.put, List.getElem_toArray, List.getElem_cons_succ, List.getElem_cons_zero, List.setIfInBounds_toArray, List.set_cons_zero, List.set_cons_succ]
        refine wpAnyH_take (i := 5) (v := ?b1_v5) rfl (by kernel_rfl) (by kernel_rfl) (by kernel_rfl) (fun _ _ _ h => h) (Or.inl ⟨by kernel_rfl, ?b1_hy5⟩) (by assumption) ?b1_rest5
        case b1_hy5 => (intro w hSw; (try dsimp only at hSw); go_simp; try (with_reducible rfl))
        try simp only [Act.put, List.getElem_toArray, List.getElem_cons_succ, List.getElem_cons_zero, List.setIfInBounds_toArray, List.set_cons_zero, List.set_cons_succ]
        refine wpAnyH_take (i := 6) (v := ?b1_v6) rfl (by kernel_rfl) (by kernel_rfl) (by kernel_rfl) (fun _ _ _ h => h) (Or.inl ⟨by kernel_rfl, ?b1_hy6⟩) (by assumption) ?b1_rest6
        case b1_hy6 => (intro w hSw; (try dsimp only at hSw); go_simp; try (with_reducible rfl))
        try simp only [Act.put, List.getElem_toArray, List.getElem_cons_succ, List.getElem_cons_zero, List.setIfInBounds_toArray, List.set_cons_zero, List.set_cons_succ]
        refine wpAnyH_take (i := 7) (v := ?b1_v7) rfl (by kernel_rfl) (by kernel_rfl) (by kernel_rfl) (fun _ _ _ h => h) (Or.inl ⟨by kernel_rfl, ?b1_hy7⟩) (by assumption) ?b1_rest7
        case b1_hy7 => (intro w hSw; (try dsimp only at hSw); go_simp; try (with_reducible rfl))
        try simp only [Act.put, List.getElem_toArray, List.getElem_cons_succ, List.getElem_cons_zero, List.setIfInBounds_toArray, List.set_cons_zero, List.set_cons_succ]
        refine wpAnyH_take (i := 8) (v := ?b1_v8) rfl (by kernel_rfl) (by kernel_rfl) (by kernel_rfl) (fun _ _ _ h => h) (Or.inl ⟨by kernel_rfl, ?b1_hy8⟩) (by assumption) ?b1_rest8
        case b1_hy8 => (intro w hSw; (try dsimp only at hSw); go_simp; try (with_reducible rfl))
        try simp only [Act.put, List.getElem_toArray, List.getElem_cons_succ, List.getElem_cons_zero, List.setIfInBounds_toArray, List.set_cons_zero, List.set_cons_succ]
        refine wpAnyH_take (i := 9) (v := ?b1_v9) rfl (by kernel_rfl) (by kernel_rfl) (by kernel_rfl) (fun _ _ _ h => h) (Or.inl ⟨by kernel_rfl, ?b1_hy9⟩) (by assumption) ?b1_rest9
        case b1_hy9 => (intro w hSw; (try dsimp only at hSw); go_simp; try (with_reducible rfl))
        try simp only [Act.put, List.getElem_toArray, List.getElem_cons_succ, List.getElem_cons_zero, List.setIfInBounds_toArray, List.set_cons_zero, List.set_cons_succ]
        refine wpAnyH_take (i := 10) (v := ?b1_v10) rfl (by kernel_rfl) (by kernel_rfl) (by kernel_rfl) (fun _ _ _ h => h) (Or.inl ⟨by kernel_rfl, ?b1_hy10⟩) (by assumption) ?b1_rest10
        case b1_hy10 => (intro w hSw; (try dsimp only at hSw); go_simp; try (with_reducible rfl))
        try simp only [Act.put, List.getElem_toArray, List.getElem_cons_succ, List.getElem_cons_zero, List.setIfInBounds_toArray, List.set_cons_zero, List.set_cons_succ]
        refine wpAnyH_take (i := 11) (v := ?b1_v11) rfl (by kernel_rfl) (by kernel_rfl) (by kernel_rfl) (fun _ _ _ h => h) (Or.inl ⟨by kernel_rfl, ?b1_hy11⟩) (by assumption) ?b1_rest11
        case b1_hy11 => (intro w hSw; (try dsimp only at hSw); go_simp; try (with_reducible rfl))
        try simp only [Act.put, List.getElem_toArray, List.getElem_cons_succ, List.getElem_cons_zero, List.setIfInBounds_toArray, List.set_cons_zero, List.set_cons_succ]
        refine wpAnyH_take (i := 12) (v := ?b1_v12) rfl (by kernel_rfl) (by kernel_rfl) (by kernel_rfl) (fun _ _ _ h => h) (Or.inl ⟨by kernel_rfl, ?b1_hy12⟩) (by assumption) ?b1_rest12
        case b1_hy12 => (intro w hSw; (try dsimp only at hSw); go_simp; try (with_reducible rfl))
        try simp only [Act.put, List.getElem_toArray, List.getElem_cons_succ, List.getElem_cons_zero, List.setIfInBounds_toArray, List.set_cons_zero, List.set_cons_succ]
        refine wpAnyH_take (i := 13) (v := ?b1_v13) rfl (by kernel_rfl) (by kernel_rfl) (by kernel_rfl) (fun _ _ _ h => h) (Or.inl ⟨by kernel_rfl, ?b1_hy13⟩) (by assumption) ?b1_rest13
        case b1_hy13 => (intro w hSw; (try dsimp only at hSw); go_simp; try (with_reducible rfl))
        try simp only [Act.put, List.getElem_toArray, List.getElem_cons_succ, List.getElem_cons_zero, List.setIfInBounds_toArray, List.set_cons_zero, List.set_cons_succ]
        refine wpAnyH_take (i := 14) (v := ?b1_v14) rfl (by kernel_rfl) (by kernel_rfl) (by kernel_rfl) (fun _ _ _ h => h) (Or.inl ⟨by kernel_rfl, ?b1_hy14⟩) (by assumption) ?b1_rest14
        case b1_hy14 => (intro w hSw; (try dsimp only at hSw); go_simp; try (with_reducible rfl))
        try simp only [Act.put, List.getElem_toArray, List.getElem_cons_succ, List.getElem_cons_zero, List.setIfInBounds_toArray, List.set_cons_zero, List.set_cons_succ]
        refine wpAnyH_take (i := 15) (v := ?b1_v15) rfl (by kernel_rfl) (by kernel_rfl) (by kernel_rfl) (fun _ _ _ h => h) (Or.inl ⟨by kernel_rfl, ?b1_hy15⟩) (by assumption) ?b1_rest15
        case b1_hy15 => (intro w hSw; (try dsimp only at hSw); go_simp; try (with_reducible rfl))
        try simp only [Act.put, List.getElem_toArray, List.getElem_cons_succ, List.getElem_cons_zero, List.setIfInBounds_toArray, List.set_cons_zero, List.set_cons_succ]
        refine wpAnyH_take (i := 16) (v := ?b1_v16) rfl (by kernel_rfl) (by kernel_rfl) (by kernel_rfl) (fun _ _ _ h => h) (Or.inl ⟨by kernel_rfl, ?b1_hy16⟩) (by assumption) ?b1_rest16
        case b1_hy16 => (intro w hSw; (try dsimp only at hSw); go_simp; try (with_reducible rfl))
        try simp only [Act.put, List.getElem_toArray, List.getElem_cons_succ, List.getElem_cons_zero, List.setIfInBounds_toArray, List.set_cons_zero, List.set_cons_succ]
        refine wpAnyH_take (i := 17) (v := ?b1_v17) rfl (by kernel_rfl) (by kernel_rfl) (by kernel_rfl) (fun _ _ _ h => h) (Or.inl ⟨by kernel_rfl, ?b1_hy17⟩) (by assumption) ?b1_rest17
        case b1_hy17 => (intro w hSw; (try dsimp only at hSw); go_simp; try (with_reducible rfl))
        try simp only [Act.put, List.getElem_toArray, List.getElem_cons_succ, List.getElem_cons_zero, List.setIfInBounds_toArray, List.set_cons_zero, List.set_cons_succ]
        refine wpAnyH_take (i := 18) (v := ?b1_v18) rfl (by kernel_rfl) (by kernel_rfl) (by kernel_rfl) (fun _ _ _ h => h) (Or.inl ⟨by kernel_rfl, ?b1_hy18⟩) (by assumption) ?b1_rest18
        case b1_hy18 => (intro w hSw; (try dsimp only at hSw); go_simp; try (with_reducible rfl))
        try simp only [Act.put, List.getElem_toArray, List.getElem_cons_succ, List.getElem_cons_zero, List.setIfInBounds_toArray, List.set_cons_zero, List.set_cons_succ]
        try dsimp only
        try simp only [Act.put, List.getElem_toArray, List.getElem_cons_succ, List.getElem_cons_zero, List.setIfInBounds_toArray, List.set_cons_zero, List.set_cons_succ]
        refine wpAnyH_take (i := 19) (v := ?b1_v19) rfl (by kernel_rfl) (by kernel_rfl) (by kernel_rfl) (fun _ _ _ h => h) (Or.inl ⟨by kernel_rfl, ?b1_hy19⟩) (by assumption) ?b1_rest19
        case b1_hy19 => (intro w hSw; (try dsimp only at hSw); go_simp; try (with_reducible rfl))
        try simp only [Act.put, List.getElem_toArray, List.getElem_cons_succ, List.getElem_cons_zero, List.setIfInBounds_toArray, List.set_cons_zero, List.set_cons_succ]
        try dsimp only
        try simp only [Act.put, List.getElem_toArray, List.getElem_cons_succ, List.getElem_cons_zero, List.setIfInBounds_toArray, List.set_cons_zero, List.set_cons_succ]
        refine wpAnyH_take (i := 20) (v := ?b1_v20) rfl (by kernel_rfl) (by kernel_rfl) (by kernel_rfl) (fun _ _ _ h => h) (Or.inl ⟨by kernel_rfl, ?b1_hy20⟩) (by assumption) ?b1_rest20
        case b1_hy20 => (intro w hSw; (try dsimp only at hSw); go_simp; try (with_reducible rfl))
        try simp only [Act.put, List.getElem_toArray, List.getElem_cons_succ, List.getElem_cons_zero, List.setIfInBounds_toArray, List.set_cons_zero, List.set_cons_succ]
        try dsimp only
        try simp only [Act.put, List.getElem_toArray, List.getElem_cons_succ, List.getElem_cons_zero, List.setIfInBounds_toArray, List.set_cons_zero, List.set_cons_succ]
        refine wpAnyH_done (by kernel_rfl) ?_ _
        refine NoPanic.normal ?_
        go_wp2
        exact ⟨⟨j + 1, by go_num, by omega, bl.drew⟩, by simp [intOf]; omega⟩
      · have h1 : (k1 == 4) = false := by rw [beq_eq_false_iff_ne]; exact hk
        have h2 : decide (k1 = 4) = false := decide_eq_false hk
        clear hk hWD
        refine wp_region_noPanic ?_
        refine wp_region_held_drew (S := fun w' => w'.cell? ⟨g, 1, none⟩ = some (.int .i64 Z) ∧ w'.cell? ⟨X1, 5, none⟩ = some (.slice (some ad) bs.length C1) ∧ w'.cell? (ad.add (q * 4)) = some (.int .i64 k1) ∧ w'.cell? (adm.add j) = some (.int .i64 ym) ∧ w'.cell? (adl.add j) = some (.int .i64 yl)) (by kernel_rfl) ?_ (fun hHeld => ?_)
        · exact ⟨(hKp.below (by first | assumption | exact bdrew _) hKp.lt).cell 1, (hS.below (by first | assumption | exact bdrew _) hS.lt).cell 5, cellBT (by first | assumption | exact bdrew _) x0, cellBT (by first | assumption | exact bdrew _) cm, cellBT (by first | assumption | exact bdrew _) cl⟩
        refine wpAnyH_take (i := 0) (v := ?b2_v0) rfl (by kernel_rfl) (by kernel_rfl) (by kernel_rfl) (fun _ _ _ h => h) (Or.inl ⟨by kernel_rfl, ?b2_hy0⟩) (by assumption) ?b2_rest0
        case b2_hy0 => (intro w hSw; (try dsimp only at hSw); go_simp; try (with_reducible rfl))
        try simp only [Act.put, List.getElem_toArray, List.getElem_cons_succ, List.getElem_cons_zero, List.setIfInBounds_toArray, List.set_cons_zero, List.set_cons_succ]
        refine wpAnyH_take (i := 1) (v := ?b2_v1) rfl (by kernel_rfl) (by kernel_rfl) (by kernel_rfl) (fun _ _ _ h => h) (Or.inl ⟨by kernel_rfl, ?b2_hy1⟩) (by assumption) ?b2_rest1
        case b2_hy1 => (intro w hSw; (try dsimp only at hSw); go_simp; try (with_reducible rfl))
        try simp only [Act.put, List.getElem_toArray, List.getElem_cons_succ, List.getElem_cons_zero, List.setIfInBounds_toArray, List.set_cons_zero, List.set_cons_succ]
        refine wpAnyH_take (i := 2) (v := ?b2_v2) rfl (by kernel_rfl) (by kernel_rfl) (by kernel_rfl) (fun _ _ _ h => h) (Or.inl ⟨by kernel_rfl, ?b2_hy2⟩) (by assumption) ?b2_rest2
        case b2_hy2 => (intro w hSw; (try dsimp only at hSw); go_simp; try (with_reducible rfl))
        try simp only [Act.put, List.getElem_toArray, List.getElem_cons_succ, List.getElem_cons_zero, List.setIfInBounds_toArray, List.set_cons_zero, List.set_cons_succ]
        refine wpAnyH_take (i := 3) (v := ?b2_v3) rfl (by kernel_rfl) (by kernel_rfl) (by kernel_rfl) (fun _ _ _ h => h) (Or.inl ⟨by kernel_rfl, ?b2_hy3⟩) (by assumption) ?b2_rest3
        case b2_hy3 => (intro w hSw; (try dsimp only at hSw); go_simp; try (with_reducible rfl))
        try simp only [Act.put, List.getElem_toArray, List.getElem_cons_succ, List.getElem_cons_zero, List.setIfInBounds_toArray, List.set_cons_zero, List.set_cons_succ]
        refine wpAnyH_take (i := 4) (v := ?b2_v4) rfl (by kernel_rfl) (by kernel_rfl) (by kernel_rfl) (fun _ _ _ h => h) (Or.inl ⟨by kernel_rfl, ?b2_hy4⟩) (by assumption) ?b2_rest4
        case b2_hy4 => (intro w hSw; (try dsimp only at hSw); go_simp; try (with_reducible rfl))
        try simp only [Act.put, List.getElem_toArray, List.getElem_cons_succ, List.getElem_cons_zero, List.setIfInBounds_toArray, List.set_cons_zero, List.set_cons_succ]
        refine wpAnyH_take (i := 5) (v := ?b2_v5) rfl (by kernel_rfl) (by kernel_rfl) (by kernel_rfl) (fun _ _ _ h => h) (Or.inl ⟨by kernel_rfl, ?b2_hy5⟩) (by assumption) ?b2_rest5
        case b2_hy5 => (intro w hSw; (try dsimp only at hSw); go_simp; try (with_reducible rfl))
        try simp only [Act.put, List.getElem_toArray, List.getElem_cons_succ, List.getElem_cons_zero, List.setIfInBounds_toArray, List.set_cons_zero, List.set_cons_succ]
        refine wpAnyH_take (i := 6) (v := ?b2_v6) rfl (by kernel_rfl) (by kernel_rfl) (by kernel_rfl) (fun _ _ _ h => h) (Or.inl ⟨by kernel_rfl, ?b2_hy6⟩) (by assumption) ?b2_rest6
        case b2_hy6 => (intro w hSw; (try dsimp only at hSw); go_simp; try (with_reducible rfl))
        try simp only [Act.put, List.getElem_toArray, List.getElem_cons_succ, List.getElem_cons_zero, List.setIfInBounds_toArray, List.set_cons_zero, List.set_cons_succ]
        refine wpAnyH_take (i := 7) (v := ?b2_v7) rfl (by kernel_rfl) (by kernel_rfl) (by kernel_rfl) (fun _ _ _ h => h) (Or.inl ⟨by kernel_rfl, ?b2_hy7⟩) (by assumption) ?b2_rest7
        case b2_hy7 => (intro w hSw; (try dsimp only at hSw); go_simp; try (with_reducible rfl))
        try simp only [Act.put, List.getElem_toArray, List.getElem_cons_succ, List.getElem_cons_zero, List.setIfInBounds_toArray, List.set_cons_zero, List.set_cons_succ]
        refine wpAnyH_take (i := 8) (v := ?b2_v8) rfl (by kernel_rfl) (by kernel_rfl) (by kernel_rfl) (fun _ _ _ h => h) (Or.inl ⟨by kernel_rfl, ?b2_hy8⟩) (by assumption) ?b2_rest8
        case b2_hy8 => (intro w hSw; (try dsimp only at hSw); go_simp; try (with_reducible rfl))
        try simp only [Act.put, List.getElem_toArray, List.getElem_cons_succ, List.getElem_cons_zero, List.setIfInBounds_toArray, List.set_cons_zero, List.set_cons_succ]
        refine wpAnyH_take (i := 9) (v := ?b2_v9) rfl (by kernel_rfl) (by kernel_rfl) (by kernel_rfl) (fun _ _ _ h => h) (Or.inl ⟨by kernel_rfl, ?b2_hy9⟩) (by assumption) ?b2_rest9
        case b2_hy9 => (intro w hSw; (try dsimp only at hSw); go_simp; try (with_reducible rfl))
        try simp only [Act.put, List.getElem_toArray, List.getElem_cons_succ, List.getElem_cons_zero, List.setIfInBounds_toArray, List.set_cons_zero, List.set_cons_succ]
        refine wpAnyH_take (i := 10) (v := ?b2_v10) rfl (by kernel_rfl) (by kernel_rfl) (by kernel_rfl) (fun _ _ _ h => h) (Or.inl ⟨by kernel_rfl, ?b2_hy10⟩) (by assumption) ?b2_rest10
        case b2_hy10 => (intro w hSw; (try dsimp only at hSw); go_simp; try (with_reducible rfl))
        try simp only [Act.put, List.getElem_toArray, List.getElem_cons_succ, List.getElem_cons_zero, List.setIfInBounds_toArray, List.set_cons_zero, List.set_cons_succ]
        refine wpAnyH_take (i := 11) (v := undef) rfl (by kernel_rfl) (by kernel_rfl) (by kernel_rfl) (fun _ _ _ h => h) (Or.inr ⟨by kernel_rfl, rfl⟩) (by assumption) ?_
        try simp only [Act.put, List.getElem_toArray, List.getElem_cons_succ, List.getElem_cons_zero, List.setIfInBounds_toArray, List.set_cons_zero, List.set_cons_succ]
        refine wpAnyH_take (i := 12) (v := undef) rfl (by kernel_rfl) (by kernel_rfl) (by kernel_rfl) (fun _ _ _ h => h) (Or.inr ⟨by kernel_rfl, rfl⟩) (by assumption) ?_
        try simp only [Act.put, List.getElem_toArray, List.getElem_cons_succ, List.getElem_cons_zero, List.setIfInBounds_toArray, List.set_cons_zero, List.set_cons_succ]
        refine wpAnyH_take (i := 13) (v := undef) rfl (by kernel_rfl) (by kernel_rfl) (by kernel_rfl) (fun _ _ _ h => h) (Or.inr ⟨by kernel_rfl, rfl⟩) (by assumption) ?_
        try simp only [Act.put, List.getElem_toArray, List.getElem_cons_succ, List.getElem_cons_zero, List.setIfInBounds_toArray, List.set_cons_zero, List.set_cons_succ]
        refine wpAnyH_take (i := 14) (v := undef) rfl (by kernel_rfl) (by kernel_rfl) (by kernel_rfl) (fun _ _ _ h => h) (Or.inr ⟨by kernel_rfl, rfl⟩) (by assumption) ?_
        try simp only [Act.put, List.getElem_toArray, List.getElem_cons_succ, List.getElem_cons_zero, List.setIfInBounds_toArray, List.set_cons_zero, List.set_cons_succ]
        refine wpAnyH_take (i := 15) (v := undef) rfl (by kernel_rfl) (by kernel_rfl) (by kernel_rfl) (fun _ _ _ h => h) (Or.inr ⟨by kernel_rfl, rfl⟩) (by assumption) ?_
        try simp only [Act.put, List.getElem_toArray, List.getElem_cons_succ, List.getElem_cons_zero, List.setIfInBounds_toArray, List.set_cons_zero, List.set_cons_succ]
        refine wpAnyH_take (i := 16) (v := undef) rfl (by kernel_rfl) (by kernel_rfl) (by kernel_rfl) (fun _ _ _ h => h) (Or.inr ⟨by kernel_rfl, rfl⟩) (by assumption) ?_
        try simp only [Act.put, List.getElem_toArray, List.getElem_cons_succ, List.getElem_cons_zero, List.setIfInBounds_toArray, List.set_cons_zero, List.set_cons_succ]
        refine wpAnyH_take (i := 17) (v := undef) rfl (by kernel_rfl) (by kernel_rfl) (by kernel_rfl) (fun _ _ _ h => h) (Or.inr ⟨by kernel_rfl, rfl⟩) (by assumption) ?_
        try simp only [Act.put, List.getElem_toArray, List.getElem_cons_succ, List.getElem_cons_zero, List.setIfInBounds_toArray, List.set_cons_zero, List.set_cons_succ]
        refine wpAnyH_take (i := 18) (v := undef) rfl (by kernel_rfl) (by kernel_rfl) (by kernel_rfl) (fun _ _ _ h => h) (Or.inr ⟨by kernel_rfl, rfl⟩) (by assumption) ?_
        try simp only [Act.put, List.getElem_toArray, List.getElem_cons_succ, List.getElem_cons_zero, List.setIfInBounds_toArray, List.set_cons_zero, List.set_cons_succ]
        try dsimp only
        try simp only [Act.put, List.getElem_toArray, List.getElem_cons_succ, List.getElem_cons_zero, List.setIfInBounds_toArray, List.set_cons_zero, List.set_cons_succ]
        refine wpAnyH_take (i := 19) (v := undef) rfl (by kernel_rfl) (by kernel_rfl) (by kernel_rfl) (fun _ _ _ h => h) (Or.inr ⟨by kernel_rfl, rfl⟩) (by assumption) ?_
        try simp only [Act.put, List.getElem_toArray, List.getElem_cons_succ, List.getElem_cons_zero, List.setIfInBounds_toArray, List.set_cons_zero, List.set_cons_succ]
        try dsimp only
        try simp only [Act.put, List.getElem_toArray, List.getElem_cons_succ, List.getElem_cons_zero, List.setIfInBounds_toArray, List.set_cons_zero, List.set_cons_succ]
        refine wpAnyH_take (i := 20) (v := ?b2_v20) rfl (by kernel_rfl) (by kernel_rfl) (by kernel_rfl) (fun _ _ _ h => h) (Or.inl ⟨by kernel_rfl, ?b2_hy20⟩) (by assumption) ?b2_rest20
        case b2_hy20 => (intro w hSw; (try dsimp only at hSw); go_simp; try (with_reducible rfl))
        try simp only [Act.put, List.getElem_toArray, List.getElem_cons_succ, List.getElem_cons_zero, List.setIfInBounds_toArray, List.set_cons_zero, List.set_cons_succ]
        try dsimp only
        try simp only [Act.put, List.getElem_toArray, List.getElem_cons_succ, List.getElem_cons_zero, List.setIfInBounds_toArray, List.set_cons_zero, List.set_cons_succ]
        refine wpAnyH_done (by kernel_rfl) ?_ _
        refine NoPanic.normal ?_
        go_wp2
        exact ⟨⟨j + 1, by go_num, by omega, bl.drew⟩, by simp [intOf]; omega⟩
    · obtain rfl : j = l.length := by omega
      clear c10_hKp_0 c10_hKp_1 c10_hKp_2 c10_hKp_3 c10_hS_0 c10_hS_1 c10_hS_2 c10_hS_3 c10_hS_4 c10_hS_5
      obtain ⟨c11_hKp_0, c11_hKp_1, c11_hKp_2, c11_hKp_3⟩ := hKp.quad
      obtain ⟨c11_hS_0, c11_hS_1, c11_hS_2, c11_hS_3, c11_hS_4, c11_hS_5⟩ := hS.cells6
      go_wp2_with fail
      refine (hL _).mono ?_
      rintro e w7 ⟨rfl, b7⟩
      replace h := h.below b7
      replace hKp := hKp.below b7 hKp.lt
      replace hbs := hbs.below b7
      replace hS := hS.below b7 hS.lt
      replace hml := hml.below b7
      replace hB := hB.trans (b7.mono hB.size)
      clear c11_hKp_0 c11_hKp_1 c11_hKp_2 c11_hKp_3 c11_hS_0 c11_hS_1 c11_hS_2 c11_hS_3 c11_hS_4 c11_hS_5
      obtain ⟨c12_hKp_0, c12_hKp_1, c12_hKp_2, c12_hKp_3⟩ := hKp.quad
      obtain ⟨c12_hS_0, c12_hS_1, c12_hS_2, c12_hS_3, c12_hS_4, c12_hS_5⟩ := hS.cells6
      go_wp2
      go_ret
      exact ⟨rfl, hB⟩
theorem TensRight_all (k z m o : Int) (v : Value) (l : List Int) (w : World) (h : IsI w v l) (hi : ∀ x ∈ l, I64 x) :
    Calls Tryz.prog 5 #[.agg #[.int .i64 k, .int .i64 z, .int .i64 m, .int .i64 o], v] w fun e w' => e = .returned (.bool true) ∧ Below w.heap.size w w' := by
  by_cases hn : l.length ≤ 24
  · rcases ofE_cases (k := k) (z := z) (m := m) (o := o) (l := l) (by omega) with he | he
    · exact TensRight_ok k z m o v l w h hi hn he
    · exact TensRight_err k z m o v l w h hi hn he
  · exact TensRight_many k z m o v l w h hi hn
end Go.Proofs.YtochabikpaoalaaGreat
