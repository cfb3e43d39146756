/- COST: where no block is wide the cost is at most as many as there are numbers, and 8 for each Size of them, or part; else at most 8 for each, and 8 for each block. No conditions: every input. Printed by gen_tcost14.py. -/
import Derived.Test.YtochabikpaoalaaTens4
namespace Go.Proofs.Ytochabikpaoalaa
open Go.RowKit
attribute [local go_sem ↓] Go.wp_at_zero Go.wp_at_succ
theorem anyWide_take {bs : List Bk} {j : Nat} {b : Bk} (h : bs[j]? = some b) : anyWide (bs.take (j + 1)) = (anyWide (bs.take j) || decide (b.1 = 4)) := by
  rw [take_bk h]; unfold anyWide; rw [List.any_append]; simp
/-- whatever is kept of few numbers is few blocks -/
theorem few_of {k z m o : Int} {l : List Int} (hi : ∀ x ∈ l, I64 x) (h : ofE k z m o l = 0) : FewB (bksTo k z m o l (partN z.toNat l.length)) ∧ LongB (bksTo k z m o l (partN z.toNat l.length)) ∧ (∀ b ∈ bksTo k z m o l (partN z.toNat l.length), LoadB b) := by
  obtain ⟨h1, h2, h3⟩ := ofE_zero h
  obtain ⟨Z, rfl, z1, z2⟩ := size_of h1
  have hN := partN_le (n := l.length) z1
  have hm := of_min h
  have key : ∀ b ∈ bksTo k (Z : Int) m o l (partN (Z : Int).toNat l.length), bkLen b ≤ 4096 ∧ LoadB b := by
    intro b hb
    unfold bksTo at hb
    obtain ⟨i, hi', rfl⟩ := List.mem_map.1 hb
    have hlt := List.mem_range.1 hi'
    have ho := odd_part h3 hlt
    rw [Int.toNat_natCast] at *
    have hpl := partZ_len Z l i
    have hpi : ∀ x ∈ partZ Z l i, I64 x := fun x hx => hi x (partZ_mem hx)
    obtain ⟨g1, g2, g3, g4, g5⟩ := bk_good h1 (n := l.length) (p := partZ Z l i) hpi (by omega) ho
    refine ⟨by rw [g2, hpl]; omega, ?_⟩
    have hgr := great_in hpi (oddP_min ho)
    have hg0 := great_nonneg (partZ Z l i)
    obtain ⟨k0, k3, _⟩ := mayB_iff.1 h1
    rcases kindOf_or (k := k) (m := m) (o := o) l.length (partZ Z l i) with ⟨e, _⟩ | ⟨e, _⟩
    · rw [e]; exact .inl rfl
    · rw [e]
      have hb : bkOf k (partZ Z l i) = (k, great (partZ Z l i), packC k (partZ Z l i), []) := if_neg (by omega)
      rw [hb]
      exact .inr ⟨k0, k3, hg0, hgr⟩
  refine ⟨⟨?_, fun b hb => by have := (key b hb).1; omega⟩, fun b hb => ?_, fun b hb => (key b hb).2⟩
  · rw [bksTo_len, Int.toNat_natCast]; omega
  · have := (key b hb).1
    unfold bkLen at this
    omega
set_option maxRecDepth 100000 in
set_option maxHeartbeats 4000000 in
theorem TensCost_many (k z m o : Int) (v : Value) (l : List Int) (w : World) (h : IsI w v l) (hi : ∀ x ∈ l, I64 x) (hn : ¬ l.length ≤ 24) :
    Calls Try.prog 3 #[.agg #[.int .i64 k, .int .i64 z, .int .i64 m, .int .i64 o], v] w fun e w' => e = .returned (.bool true) ∧ Below w.heap.size w w' := by
  obtain ⟨A, C, rfl, _, _⟩ := id h.form
  have hL := fun w => alive14_any w
  have n1 : decide ((24 : Int) < (l.length : Int)) = true := decide_eq_true (by omega)
  have n2 : decide (24 < l.length) = true := decide_eq_true (by omega)
  have n3 : (24 : Int) < (l.length : Int) := by omega
  obtain ⟨W0, hW, hR, hB⟩ := box1 w 23 #[.int .i64 k, .int .i64 z, .int .i64 m, .int .i64 o]
  obtain ⟨g, hg⟩ : ∃ g, g = w.heap.size := ⟨_, rfl⟩
  have hW' := Lib.hid (And.intro hW hg)
  rw [← hg] at hR
  have hgw : w.heap.size ≤ g := by omega
  clear hW hg
  have hKp := hR
  replace h := h.below hB
  obtain ⟨c1_hKp_0, c1_hKp_1, c1_hKp_2, c1_hKp_3⟩ := hKp.quad
  go_enter Try.func3, Try.ntmps3
  go_wp2_with fail
  rw [← hW'.out.1, ← hW'.out.2]
  refine (hL _).mono ?_
  rintro e w1 ⟨rfl, b1⟩
  replace h := h.below b1
  replace hKp := hKp.below b1 hKp.lt
  replace hB := hB.trans (b1.mono hB.size)
  clear c1_hKp_0 c1_hKp_1 c1_hKp_2 c1_hKp_3
  obtain ⟨c2_hKp_0, c2_hKp_1, c2_hKp_2, c2_hKp_3⟩ := hKp.quad
  go_wp2
  go_ret
  exact ⟨rfl, hB⟩
set_option maxRecDepth 100000 in
set_option maxHeartbeats 4000000 in
theorem TensCost_err (k z m o : Int) (v : Value) (l : List Int) (w : World) (h : IsI w v l) (hi : ∀ x ∈ l, I64 x) (hn : l.length ≤ 24) (he : ofE k z m o l = 1) :
    Calls Try.prog 3 #[.agg #[.int .i64 k, .int .i64 z, .int .i64 m, .int .i64 o], v] w fun e w' => e = .returned (.bool true) ∧ Below w.heap.size w w' := by
  obtain ⟨A, C, rfl, _, _⟩ := id h.form
  have hL := fun w => alive14_any w
  have n1 : decide ((24 : Int) < (l.length : Int)) = false := decide_eq_false (by omega)
  have n2 : decide (24 < l.length) = false := decide_eq_false (by omega)
  have hO := fun w h => tof_any k z m o (.slice A l.length C) l w h hi
  have e2 : ofS k z m o l = (0, 0, 0, 0, 0, []) := if_neg (by rw [he]; decide)
  rw [he, e2] at hO
  clear he e2
  obtain ⟨W0, hW, hR, hB⟩ := box1 w 23 #[.int .i64 k, .int .i64 z, .int .i64 m, .int .i64 o]
  obtain ⟨g, hg⟩ : ∃ g, g = w.heap.size := ⟨_, rfl⟩
  have hW' := Lib.hid (And.intro hW hg)
  rw [← hg] at hR
  have hgw : w.heap.size ≤ g := by omega
  clear hW hg
  have hKp := hR
  replace h := h.below hB
  obtain ⟨c1_hKp_0, c1_hKp_1, c1_hKp_2, c1_hKp_3⟩ := hKp.quad
  go_enter Try.func3, Try.ntmps3
  go_wp2_with fail
  rw [← hW'.out.1, ← hW'.out.2]
  refine (hO _ h).mono ?_
  rintro e w1 ⟨s, rfl, ⟨x, rfl, hbs⟩, b1⟩
  replace h := h.below b1
  replace hKp := hKp.below b1 hKp.lt
  replace hB := hB.trans (b1.mono hB.size)
  clear c1_hKp_0 c1_hKp_1 c1_hKp_2 c1_hKp_3
  obtain ⟨c2_hKp_0, c2_hKp_1, c2_hKp_2, c2_hKp_3⟩ := hKp.quad
  obtain ⟨A1, C1, rfl, _, _⟩ := id hbs.len
  obtain ⟨V1, eV, hS, bV1⟩ := box1 w1 28 #[.int .i64 0, .int .i64 0, .int .i64 0, .int .i64 0, .int .i64 0, .slice A1 0 C1]
  obtain ⟨X1, eX⟩ : ∃ X, X = w1.heap.size := ⟨_, rfl⟩
  rw [← eX] at hS
  have EV1 := Lib.hid (And.intro eV eX)
  clear eV eX
  go_upto_region 4 with fail
  rw [← EV1.out.1, ← EV1.out.2]
  replace h := h.below bV1
  replace hKp := hKp.below bV1 hKp.lt
  replace hbs := hbs.below bV1
  replace hB := hB.trans (bV1.mono hB.size)
  clear c2_hKp_0 c2_hKp_1 c2_hKp_2 c2_hKp_3
  obtain ⟨c3_hKp_0, c3_hKp_1, c3_hKp_2, c3_hKp_3⟩ := hKp.quad
  clear c3_hKp_0 c3_hKp_1 c3_hKp_2 c3_hKp_3
  obtain ⟨c4_hKp_0, c4_hKp_1, c4_hKp_2, c4_hKp_3⟩ := hKp.quad
  obtain ⟨c4_hS_0, c4_hS_1, c4_hS_2, c4_hS_3, c4_hS_4, c4_hS_5⟩ := hS.cells6
  go_wp2_with fail
  refine (hL _).mono ?_
  rintro e w2 ⟨rfl, b2⟩
  replace h := h.below b2
  replace hKp := hKp.below b2 hKp.lt
  replace hbs := hbs.below b2
  replace hS := hS.below b2 hS.lt
  replace hB := hB.trans (b2.mono hB.size)
  clear c4_hKp_0 c4_hKp_1 c4_hKp_2 c4_hKp_3 c4_hS_0 c4_hS_1 c4_hS_2 c4_hS_3 c4_hS_4 c4_hS_5
  obtain ⟨c5_hKp_0, c5_hKp_1, c5_hKp_2, c5_hKp_3⟩ := hKp.quad
  obtain ⟨c5_hS_0, c5_hS_1, c5_hS_2, c5_hS_3, c5_hS_4, c5_hS_5⟩ := hS.cells6
  go_wp2
  go_ret
  exact ⟨rfl, hB⟩
set_option maxRecDepth 100000 in
set_option maxHeartbeats 4000000 in
theorem TensCost_ok (k z m o : Int) (v : Value) (l : List Int) (w : World) (h : IsI w v l) (hi : ∀ x ∈ l, I64 x) (hn : l.length ≤ 24) (he : ofE k z m o l = 0) :
    Calls Try.prog 3 #[.agg #[.int .i64 k, .int .i64 z, .int .i64 m, .int .i64 o], v] w fun e w' => e = .returned (.bool true) ∧ Below w.heap.size w w' := by
  obtain ⟨A, C, rfl, _, _⟩ := id h.form
  have hL := fun w => alive14_any w
  have n1 : decide ((24 : Int) < (l.length : Int)) = false := decide_eq_false (by omega)
  have n2 : decide (24 < l.length) = false := decide_eq_false (by omega)
  have hO := fun w h => tof_any k z m o (.slice A l.length C) l w h hi
  obtain ⟨h1, h2, h3⟩ := ofE_zero he
  obtain ⟨Z, rfl, z1, z2⟩ := size_of h1
  have hofs : ofS k Z m o l = (k, (Z : Int), m, o, (l.length : Int), bksTo k Z m o l (partN (Z : Int).toNat l.length)) := if_pos he
  rw [he, hofs] at hO
  have HP := Lib.hid (cost_of he)
  obtain ⟨f1, _, _⟩ := few_of hi he
  have hC := fun v w h => tcost_any v (k, (Z : Int), m, o, (l.length : Int), bksTo k Z m o l (partN (Z : Int).toNat l.length)) w h f1
  simp only at hC
  have hlen := bksTo_len k Z m o l (partN (Z : Int).toNat l.length)
  obtain ⟨q, hq⟩ : ∃ q : Int, q = ((partN (Z : Int).toNat l.length : Nat) : Int) := ⟨_, rfl⟩
  rw [← hq] at HP
  have HQ : Hid (((bksTo k Z m o l (partN (Z : Int).toNat l.length)).length : Int) = q) := Lib.hid (by rw [hlen, hq])
  have hNle := partN_le (z := Z) (n := l.length) z1
  have hq2 : ((l.length : Int) + Z - 1) / Z = q := by rw [hq, Int.toNat_natCast, partN_int z1]
  have hql : 0 ≤ q ∧ q ≤ 24 := by rw [hq, Int.toNat_natCast]; omega
  have hbl : (bksTo k Z m o l (partN (Z : Int).toNat l.length)).length ≤ 24 := by rw [hlen, Int.toNat_natCast]; omega
  generalize bksTo k (Z : Int) m o l (partN (Z : Int).toNat l.length) = bs at *
  obtain ⟨s1, hs1⟩ : ∃ s1 : Int, s1 = (l.length : Int) + (Z : Int) := ⟨_, rfl⟩
  obtain ⟨s2, hs2⟩ : ∃ s2 : Int, s2 = s1 - 1 := ⟨_, rfl⟩
  have hw1 : IntKind.i64.wrap ((l.length : Int) + (Z : Int)) = s1 := by rw [IntKind.wrap_i64, hs1]; omega
  have hw2 : IntKind.i64.wrap (s1 - 1) = s2 := by rw [IntKind.wrap_i64, hs2, hs1]; omega
  have hw3 : s2 / (Z : Int) = q := by rw [hs2, hs1]; exact hq2
  have hw5 : wrap64 (s2.tdiv (Z : Int)) = q := by
    have e : s2.tdiv (Z : Int) = q := by rw [Int.tdiv_eq_ediv_of_nonneg (by omega)]; exact hw3
    rw [e]
    first | (rw [wrap64_of (by omega) (by omega)]) | (unfold wrap64; omega) | (simp [wrap64]; omega)
  have hz3 : (Z : Int) ≠ 0 := by omega
  have hz5 : (0 : Int) < (Z : Int) := by omega
  have hz6 : (Z : Int) ≤ 4096 := by omega
  have hl0 : (l.length : Int) ≤ 24 := by omega
  have HW1 := Lib.hid hs1
  have HW2 := Lib.hid hs2
  have HW3 := Lib.hid hw3
  clear hs1 hs2 hq hlen hNle hq2 he h1 h2 h3 hofs f1
  obtain ⟨W0, hW, hR, hB⟩ := box1 w 23 #[.int .i64 k, .int .i64 Z, .int .i64 m, .int .i64 o]
  obtain ⟨g, hg⟩ : ∃ g, g = w.heap.size := ⟨_, rfl⟩
  have hW' := Lib.hid (And.intro hW hg)
  rw [← hg] at hR
  have hgw : w.heap.size ≤ g := by omega
  clear hW hg
  have hKp := hR
  replace h := h.below hB
  obtain ⟨c1_hKp_0, c1_hKp_1, c1_hKp_2, c1_hKp_3⟩ := hKp.quad
  go_enter Try.func3, Try.ntmps3
  go_wp2_with fail
  rw [← hW'.out.1, ← hW'.out.2]
  refine (hO _ h).mono ?_
  rintro e w1 ⟨s, rfl, ⟨x, rfl, hbs⟩, b1⟩
  replace h := h.below b1
  replace hKp := hKp.below b1 hKp.lt
  replace hB := hB.trans (b1.mono hB.size)
  clear c1_hKp_0 c1_hKp_1 c1_hKp_2 c1_hKp_3
  obtain ⟨c2_hKp_0, c2_hKp_1, c2_hKp_2, c2_hKp_3⟩ := hKp.quad
  simp only at hbs
  obtain ⟨A1, C1, rfl, _, _⟩ := id hbs.len
  obtain ⟨V1, eV, hS, bV1⟩ := box1 w1 28 #[.int .i64 k, .int .i64 Z, .int .i64 m, .int .i64 o, .int .i64 l.length, .slice A1 bs.length C1]
  obtain ⟨X1, eX⟩ : ∃ X, X = w1.heap.size := ⟨_, rfl⟩
  rw [← eX] at hS
  have EV1 := Lib.hid (And.intro eV eX)
  clear eV eX
  go_upto_region 4 with fail
  rw [← EV1.out.1, ← EV1.out.2]
  replace h := h.below bV1
  replace hKp := hKp.below bV1 hKp.lt
  replace hbs := hbs.below bV1
  replace hB := hB.trans (bV1.mono hB.size)
  clear c2_hKp_0 c2_hKp_1 c2_hKp_2 c2_hKp_3
  obtain ⟨c3_hKp_0, c3_hKp_1, c3_hKp_2, c3_hKp_3⟩ := hKp.quad
  clear c3_hKp_0 c3_hKp_1 c3_hKp_2 c3_hKp_3
  obtain ⟨c4_hKp_0, c4_hKp_1, c4_hKp_2, c4_hKp_3⟩ := hKp.quad
  obtain ⟨c4_hS_0, c4_hS_1, c4_hS_2, c4_hS_3, c4_hS_4, c4_hS_5⟩ := hS.cells6
  have s5 := hS.cell 5
  go_wp2
  clear s5
  go_loopw [8, 7] (fun i t wr => ∃ j : Nat, i = .int .i64 j ∧ j ≤ bs.length ∧ t = .bool (anyWide (bs.take j)) ∧ Below V1.heap.size V1 wr) (fun i _ _ => bs.length - (intOf i).toNat)
  case atStart => exact ⟨0, rfl, by omega, rfl, Below.refl _ _⟩
  case round =>
    obtain ⟨j, rfl, hj, rfl, bl⟩ := hrel
    clear c4_hKp_0 c4_hKp_1 c4_hKp_2 c4_hKp_3 c4_hS_0 c4_hS_1 c4_hS_2 c4_hS_3 c4_hS_4 c4_hS_5
    replace h := h.below bl
    replace hKp := hKp.below bl hKp.lt
    replace hbs := hbs.below bl
    replace hS := hS.below bl hS.lt
    replace hB := hB.trans (bl.mono hB.size)
    obtain ⟨c5_hKp_0, c5_hKp_1, c5_hKp_2, c5_hKp_3⟩ := hKp.quad
    obtain ⟨c5_hS_0, c5_hS_1, c5_hS_2, c5_hS_3, c5_hS_4, c5_hS_5⟩ := hS.cells6
    have s5 := hS.cell 5
    by_cases hlt : j < bs.length
    · obtain ⟨ad, d1, k1, sc, cs, wd, a1, a2, e1, _, hat, x0, x1, x2, x3, hy, hi1⟩ := hbs.at_ hlt
      obtain ⟨rfl, _, rfl⟩ := Value.slice.inj e1
      have HS := Lib.hid (anyWide_take hat)
      have i0 : (0 : Int) ≤ (j : Int) := by omega
      have i1 : (j : Int) < (bs.length : Int) := by omega
      have hj2 : j ≤ 24 := by omega
      clear hat hy hi1 x1 x2 x3
      generalize anyWide (bs.take j) = t0 at *
      rcases t0 with _ | _
      · by_cases hk : k1 = 4
        · have h1 : (k1 == 4) = true := by rw [hk]; rfl
          have h2 : decide (k1 = 4) = true := decide_eq_true hk
          have HR := Lib.hid (show anyWide (bs.take (j + 1)) = true by rw [HS.out, h2]; rfl)
          clear hk
          go_wp2
          exact ⟨⟨j + 1, by go_num, by omega, by rw [HR.out], bl⟩, by simp [intOf]; omega⟩
        · have h1 : (k1 == 4) = false := by rw [beq_eq_false_iff_ne]; exact hk
          have h2 : decide (k1 = 4) = false := decide_eq_false hk
          have HR := Lib.hid (show anyWide (bs.take (j + 1)) = false by rw [HS.out, h2]; rfl)
          clear hk
          go_wp2
          exact ⟨⟨j + 1, by go_num, by omega, by rw [HR.out], bl⟩, by simp [intOf]; omega⟩
      · have HR := Lib.hid (show anyWide (bs.take (j + 1)) = true by rw [HS.out]; rfl)
        go_wp2
        exact ⟨⟨j + 1, by go_num, by omega, by rw [HR.out], bl⟩, by simp [intOf]; omega⟩
    · obtain rfl : j = bs.length := by omega
      rw [List.take_length]
      generalize anyWide bs = aw at *
      clear c5_hKp_0 c5_hKp_1 c5_hKp_2 c5_hKp_3 c5_hS_0 c5_hS_1 c5_hS_2 c5_hS_3 c5_hS_4 c5_hS_5
      obtain ⟨c6_hKp_0, c6_hKp_1, c6_hKp_2, c6_hKp_3⟩ := hKp.quad
      obtain ⟨c6_hS_0, c6_hS_1, c6_hS_2, c6_hS_3, c6_hS_4, c6_hS_5⟩ := hS.cells6
      go_wp2_with fail
      refine (hC _ _ ⟨_, rfl, hbs⟩).mono ?_
      rintro e w2 ⟨rfl, b2⟩
      replace h := h.below b2
      replace hKp := hKp.below b2 hKp.lt
      replace hbs := hbs.below b2
      replace hS := hS.below b2 hS.lt
      replace hB := hB.trans (b2.mono hB.size)
      clear c6_hKp_0 c6_hKp_1 c6_hKp_2 c6_hKp_3 c6_hS_0 c6_hS_1 c6_hS_2 c6_hS_3 c6_hS_4 c6_hS_5
      obtain ⟨c7_hKp_0, c7_hKp_1, c7_hKp_2, c7_hKp_3⟩ := hKp.quad
      obtain ⟨c7_hS_0, c7_hS_1, c7_hS_2, c7_hS_3, c7_hS_4, c7_hS_5⟩ := hS.cells6
      generalize costS bs = cc at *
      go_wp2_with fail
      refine (hL _).mono ?_
      rintro e w3 ⟨rfl, b3⟩
      replace h := h.below b3
      replace hKp := hKp.below b3 hKp.lt
      replace hbs := hbs.below b3
      replace hS := hS.below b3 hS.lt
      replace hB := hB.trans (b3.mono hB.size)
      clear c7_hKp_0 c7_hKp_1 c7_hKp_2 c7_hKp_3 c7_hS_0 c7_hS_1 c7_hS_2 c7_hS_3 c7_hS_4 c7_hS_5
      obtain ⟨c8_hKp_0, c8_hKp_1, c8_hKp_2, c8_hKp_3⟩ := hKp.quad
      obtain ⟨c8_hS_0, c8_hS_1, c8_hS_2, c8_hS_3, c8_hS_4, c8_hS_5⟩ := hS.cells6
      obtain ⟨p1, p2, p3⟩ := HP.out
      have c1 : ((bs.length : Int) == q) = true := by rw [HQ.out]; simp
      have c1' : decide ((bs.length : Int) = q) = true := by rw [HQ.out]; simp
      have c3 : decide (cc ≤ 8 * (l.length : Int) + 8 * q) = true := decide_eq_true p1
      rcases aw with _ | _
      · have hcc := p2 rfl
        have c2 : (cc == (l.length : Int) + 8 * q) = true := by rw [hcc]; simp
        have c2' : decide (cc = (l.length : Int) + 8 * q) = true := by rw [hcc]; simp
        clear p1 p2 p3 hcc
        go_wp2
        go_ret
        exact ⟨rfl, hB⟩
      · have hor := p3 rfl
        clear p1 p2 p3
        by_cases hlm : (l.length : Int) < m
        · have c4 : decide ((l.length : Int) < m) = true := decide_eq_true hlm
          clear hor
          go_wp2
          go_ret
          exact ⟨rfl, hB⟩
        · have c4 : decide ((l.length : Int) < m) = false := decide_eq_false hlm
          have c5 : decide (0 < o) = true := decide_eq_true (hor.resolve_left hlm)
          clear hor hlm
          go_wp2
          go_ret
          exact ⟨rfl, hB⟩
theorem TensCost_all (k z m o : Int) (v : Value) (l : List Int) (w : World) (h : IsI w v l) (hi : ∀ x ∈ l, I64 x) :
    Calls Try.prog 3 #[.agg #[.int .i64 k, .int .i64 z, .int .i64 m, .int .i64 o], v] w fun e w' => e = .returned (.bool true) ∧ Below w.heap.size w w' := by
  by_cases hn : l.length ≤ 24
  · rcases ofE_cases (k := k) (z := z) (m := m) (o := o) (l := l) (by omega) with he | he
    · exact TensCost_ok k z m o v l w h hi hn he
    · exact TensCost_err k z m o v l w h hi hn he
  · exact TensCost_many k z m o v l w h hi hn
end Go.Proofs.Ytochabikpaoalaa
