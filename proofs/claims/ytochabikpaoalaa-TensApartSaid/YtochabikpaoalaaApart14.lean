/- APART: a block hangs on its own numbers, and on how many there are, alone: with others elsewhere it is the same. No conditions: every input. Printed by gen_tapart14.py. -/
import Derived.Test.YtochabikpaoalaaCost14
import Derived.Test.YtochabikpaoalaaRef11
import Derived.Deep.RegionHeld3
import Derived.Deep.DrawnRows
namespace Go.Proofs.Ytochabikpaoalaa
open Go.RowKit
attribute [local go_sem ↓] Go.wp_at_zero Go.wp_at_succ
theorem and31 (a : Int) : ∃ n : Nat, bits .and .i64 a 31 = (n : Int) ∧ n ≤ 31 := by
  have h : ((BitVec.ofInt 64 a) &&& (BitVec.ofInt 64 31)).toNat ≤ 31 := by rw [BitVec.toNat_and]; exact Nat.le_trans Nat.and_le_right (by decide)
  have e : bits .and .i64 a 31 = IntKind.i64.wrap ((((BitVec.ofInt 64 a) &&& (BitVec.ofInt 64 31)).toNat : Nat) : Int) := rfl
  refine ⟨((BitVec.ofInt 64 a) &&& (BitVec.ofInt 64 31)).toNat, ?_, h⟩
  rw [e, IntKind.wrap_i64]
  omega
/-- a row of one's own, with its block in sight -/
theorem own1_at {w : World} {base n : Nat} {v : Value} {l : List Int} (h : w.ownsRow base 2 1 v n (is l)) (hn : 0 < n) :
    ∃ (g cap : Nat) (cur : Array Value), v = .slice (some ⟨g, 0, none⟩) n cap ∧ base ≤ g ∧ Blk w g 2 cur ∧ n ≤ cap ∧ cap ≤ 9223372036854775807 ∧ cur.size = cap ∧ cur.toList.take n = is l := by
  rcases h.2 with ⟨_, rfl⟩ | ⟨g, cap, cur, rfl, hg, hh, h1, h2, h3, h4⟩
  · omega
  · exact ⟨g, cap, cur, rfl, hg, hh, h1, h2, by omega, by simpa using h4⟩
theorem IsI.of_blk {w : World} {g n cap : Nat} {cur : Array Value} {l : List Int} (hb : Blk w g 2 cur) (hn : n ≤ cap) (hc : cap ≤ 9223372036854775807) (ht : cur.toList.take n = is l) (hl : l.length = n) : IsI w (.slice (some ⟨g, 0, none⟩) n cap) l := by
  subst hl
  refine ⟨_, _, rfl, hn, hc, by rw [is_len, Nat.mul_one], fun h0 => ⟨_, rfl, hb.lt, fun j u hu => ?_⟩⟩
  have hj : j < l.length := by
    rcases Nat.lt_or_ge j l.length with h' | h'
    · exact h'
    · rw [List.getElem?_eq_none (by rw [is_len]; exact h')] at hu; cases hu
  have e : (⟨g, 0, none⟩ : Addr).add j = ⟨g, j, none⟩ := by
    unfold Addr.add
    by_cases h : j = 0
    · subst h; rfl
    · rw [if_neg h, Nat.zero_add]
  rw [e, hb.cell j, ← hu, ← ht, List.getElem?_take, if_pos hj]
  simp
theorem take_set_is {cur : Array Value} {l : List Int} {n i : Nat} (ht : cur.toList.take n = is l) (x : Int) : (cur.setIfInBounds i (.int .i64 x)).toList.take n = is (l.set i x) := by
  rw [Array.toList_setIfInBounds, List.take_set, ht]
  unfold is; rw [List.map_set]
theorem iset_in {l : List Int} (h : ∀ x ∈ l, I64 x) (i : Nat) {b : Int} (hb : I64 b) : ∀ x ∈ l.set i b, I64 x := fun x hx => (List.mem_or_eq_of_mem_set hx).elim (h x) (fun e => e ▸ hb)
theorem lit0 (w : World) : ∃ W, W = w.alloc (.cells #[] 2) ∧ W.ownsRow w.heap.size 2 1 (.slice (some ⟨w.heap.size, 0, none⟩) 0 0) 0 (is []) ∧ Below w.heap.size w W :=
  ⟨_, rfl, World.ownsRow_lit w #[] 0 (base := w.heap.size) (e := 2) (size := 1) (Nat.le_refl _) (by unfold maxLen; omega) rfl, (Below.refl _ w).alloc (Nat.le_refl _) _⟩
set_option maxRecDepth 100000 in
set_option maxHeartbeats 4000000 in
theorem TensApart_many (k z m o a b : Int) (v : Value) (l : List Int) (w : World) (h : IsI w v l) (hi : ∀ x ∈ l, I64 x) (hb : I64 b) (n : Nat) (hat : bits .and .i64 a 31 = (n : Int)) (hn : ¬ l.length ≤ 24) :
    Calls Try.prog 4 #[.agg #[.int .i64 k, .int .i64 z, .int .i64 m, .int .i64 o], v, .agg #[.int .i64 a, .int .i64 b]] w fun e w' => e = .returned (.bool true) ∧ Below w.heap.size w w' := by
  obtain ⟨A, C, rfl, hc1, hc2⟩ := id h.form
  have hL := fun w => alive14_any w
  have n1 : decide ((24 : Int) < (l.length : Int)) = true := decide_eq_true (by omega)
  have n2 : decide (24 < l.length) = true := decide_eq_true (by omega)
  have n3 : (24 : Int) < (l.length : Int) := by omega
  obtain ⟨W0, hW, hT, hB⟩ := box2 w 23 37 #[.int .i64 k, .int .i64 z, .int .i64 m, .int .i64 o] #[.int .i64 a, .int .i64 b]
  obtain ⟨g, hg⟩ : ∃ g, g = w.heap.size := ⟨_, rfl⟩
  have hW' := Lib.hid (And.intro hW hg)
  rw [← hg] at hT
  have hgw : w.heap.size ≤ g := by omega
  clear hW hg
  obtain ⟨hKp, hAr⟩ := hT
  replace h := h.below hB
  obtain ⟨c1_hKp_0, c1_hKp_1, c1_hKp_2, c1_hKp_3⟩ := hKp.quad
  obtain ⟨c1_hAr_0, c1_hAr_1⟩ := hAr.cells2
  go_enter Try.func4, Try.ntmps4
  go_wp2_with fail
  rw [← hW'.out.1, ← hW'.out.2]
  refine (hL _).mono ?_
  rintro e w1 ⟨rfl, b1⟩
  replace h := h.below b1
  replace hKp := hKp.below b1 hKp.lt
  replace hAr := hAr.below b1 hAr.lt
  replace hB := hB.trans (b1.mono hB.size)
  clear c1_hKp_0 c1_hKp_1 c1_hKp_2 c1_hKp_3 c1_hAr_0 c1_hAr_1
  obtain ⟨c2_hKp_0, c2_hKp_1, c2_hKp_2, c2_hKp_3⟩ := hKp.quad
  obtain ⟨c2_hAr_0, c2_hAr_1⟩ := hAr.cells2
  go_wp2
  go_ret
  exact ⟨rfl, hB⟩
set_option maxRecDepth 100000 in
set_option maxHeartbeats 4000000 in
theorem TensApart_far (k z m o a b : Int) (v : Value) (l : List Int) (w : World) (h : IsI w v l) (hi : ∀ x ∈ l, I64 x) (hb : I64 b) (n : Nat) (hat : bits .and .i64 a 31 = (n : Int)) (hn : l.length ≤ 24) (hfar : ¬ n < l.length) :
    Calls Try.prog 4 #[.agg #[.int .i64 k, .int .i64 z, .int .i64 m, .int .i64 o], v, .agg #[.int .i64 a, .int .i64 b]] w fun e w' => e = .returned (.bool true) ∧ Below w.heap.size w w' := by
  obtain ⟨A, C, rfl, hc1, hc2⟩ := id h.form
  have hL := fun w => alive14_any w
  have n1 : decide ((24 : Int) < (l.length : Int)) = false := decide_eq_false (by omega)
  have n2 : decide (24 < l.length) = false := decide_eq_false (by omega)
  have n3 : decide ((l.length : Int) ≤ (n : Int)) = true := decide_eq_true (by omega)
  have n4 : decide (l.length ≤ n) = true := decide_eq_true (by omega)
  obtain ⟨W0, hW, hT, hB⟩ := box2 w 23 37 #[.int .i64 k, .int .i64 z, .int .i64 m, .int .i64 o] #[.int .i64 a, .int .i64 b]
  obtain ⟨g, hg⟩ : ∃ g, g = w.heap.size := ⟨_, rfl⟩
  have hW' := Lib.hid (And.intro hW hg)
  rw [← hg] at hT
  have hgw : w.heap.size ≤ g := by omega
  clear hW hg
  obtain ⟨hKp, hAr⟩ := hT
  replace h := h.below hB
  obtain ⟨c1_hKp_0, c1_hKp_1, c1_hKp_2, c1_hKp_3⟩ := hKp.quad
  obtain ⟨c1_hAr_0, c1_hAr_1⟩ := hAr.cells2
  go_enter Try.func4, Try.ntmps4
  go_wp2_with fail
  rw [← hW'.out.1, ← hW'.out.2]
  refine (hL _).mono ?_
  rintro e w1 ⟨rfl, b1⟩
  replace h := h.below b1
  replace hKp := hKp.below b1 hKp.lt
  replace hAr := hAr.below b1 hAr.lt
  replace hB := hB.trans (b1.mono hB.size)
  clear c1_hKp_0 c1_hKp_1 c1_hKp_2 c1_hKp_3 c1_hAr_0 c1_hAr_1
  obtain ⟨c2_hKp_0, c2_hKp_1, c2_hKp_2, c2_hKp_3⟩ := hKp.quad
  obtain ⟨c2_hAr_0, c2_hAr_1⟩ := hAr.cells2
  go_wp2
  go_ret
  exact ⟨rfl, hB⟩
set_option maxRecDepth 100000 in
set_option maxHeartbeats 8000000 in
theorem TensApart_11 (k z m o a b : Int) (v : Value) (l : List Int) (w : World) (h : IsI w v l) (hi : ∀ x ∈ l, I64 x) (hb : I64 b) (n : Nat) (hat : bits .and .i64 a 31 = (n : Int)) (hn : l.length ≤ 24) (hfar : n < l.length) (he1 : ofE k z m o l = 0) (he2 : ofE k z m o (l.set n b) = 0) :
    Calls Try.prog 4 #[.agg #[.int .i64 k, .int .i64 z, .int .i64 m, .int .i64 o], v, .agg #[.int .i64 a, .int .i64 b]] w fun e w' => e = .returned (.bool true) ∧ Below w.heap.size w w' := by
  obtain ⟨A, C, rfl, hc1, hc2⟩ := id h.form
  have hL := fun w => alive14_any w
  have n1 : decide ((24 : Int) < (l.length : Int)) = false := decide_eq_false (by omega)
  have n2 : decide (24 < l.length) = false := decide_eq_false (by omega)
  have n3 : decide ((l.length : Int) ≤ (n : Int)) = false := decide_eq_false (by omega)
  have n4 : decide (l.length ≤ n) = false := decide_eq_false (by omega)
  have j0 : (0 : Int) ≤ (n : Int) := by omega
  have j1 : (n : Int) < (l.length : Int) := by omega
  obtain ⟨i0, hi0, hy0_, hy1_, hy2_⟩ := info_parts info_i64
  have hm := iset_in hi n hb
  have hml : (l.set n b).length = l.length := List.length_set ..
  obtain ⟨Z, rfl, z1, z2⟩ := size_of (ofE_zero he1).1
  have hO1 := fun w h => tof_any k Z m o (.slice A l.length C) l w h hi
  have hO2 := fun v w h => tof_any k Z m o v (l.set n b) w h hm
  have f1 : ofS k Z m o l = (k, (Z : Int), m, o, (((l).length : Nat) : Int), bksTo k Z m o l (partN (Z : Int).toNat (l).length)) := if_pos he1
  have f2 : ofS k Z m o (l.set n b) = (k, (Z : Int), m, o, ((((l.set n b)).length : Nat) : Int), bksTo k Z m o (l.set n b) (partN (Z : Int).toNat ((l.set n b)).length)) := if_pos he2
  rw [he1, f1] at hO1
  rw [he2, f2] at hO2
  rw [hml] at hO2
  have hz3 : (Z : Int) ≠ 0 := by omega
  have hz0 : ((Z : Int) == 0) = false := by rw [beq_eq_false_iff_ne]; omega
  have hz4 : ¬ Z = 0 := by omega
  obtain ⟨q, hq⟩ : ∃ q : Nat, q = n / Z := ⟨_, rfl⟩
  have hqb : q ≤ 31 := by rw [hq]; have := Nat.div_le_self n Z; omega
  have hw3 : IntKind.i64.wrap ((n : Int).tdiv (Z : Int)) = (q : Int) := by
    have e : (n : Int).tdiv (Z : Int) = (q : Int) := by rw [Int.tdiv_eq_ediv_of_nonneg (by omega), hq, Int.natCast_ediv]
    rw [e, IntKind.wrap_i64]; omega
  have hw4 : IntKind.i64.wrap ((n : Int) / (Z : Int)) = (q : Int) := by
    have e : (n : Int) / (Z : Int) = (q : Int) := by rw [hq, Int.natCast_ediv]
    rw [e, IntKind.wrap_i64]; omega
  have hl1 := bksTo_len k Z m o l (partN (Z : Int).toNat l.length)
  have hl2 := bksTo_len k Z m o (l.set n b) (partN (Z : Int).toNat l.length)
  have HLEN : Hid ((bksTo k Z m o l (partN (Z : Int).toNat l.length)).length = (bksTo k Z m o (l.set n b) (partN (Z : Int).toNat l.length)).length) := Lib.hid (by rw [hl1, hl2])
  have hNle := partN_le (z := Z) (n := l.length) z1
  have hbl : (bksTo k Z m o l (partN (Z : Int).toNat l.length)).length ≤ 24 := by rw [hl1, Int.toNat_natCast]; omega
  have HEQ : Hid (∀ j, j < (bksTo k Z m o l (partN (Z : Int).toNat l.length)).length → j ≠ q → (bksTo k Z m o l (partN (Z : Int).toNat l.length))[j]? = (bksTo k Z m o (l.set n b) (partN (Z : Int).toNat l.length))[j]?) := Lib.hid (fun j hj hjq => by
    rw [hl1] at hj
    unfold bksTo
    rw [List.getElem?_map, List.getElem?_map, List.getElem?_range hj]
    simp only [Option.map_some]
    have := apart_of (k := k) (z := (Z : Int)) (m := m) (o := o) (l := l) (l' := l.set n b) hml (j := n) (fun i hne => List.getElem?_set_ne (Ne.symm hne)) (i := j) (ofE_zero he1).1 (by rw [Int.toNat_natCast, ← hq]; exact hjq)
    rw [this])
  have hle2 : ((bksTo k Z m o l (partN (Z : Int).toNat l.length)).length : Int) = ((bksTo k Z m o (l.set n b) (partN (Z : Int).toNat l.length)).length : Int) := by rw [hl1, hl2]
  have hne9 : (((bksTo k Z m o l (partN (Z : Int).toNat l.length)).length : Int) != ((bksTo k Z m o (l.set n b) (partN (Z : Int).toNat l.length)).length : Int)) = false := by rw [hle2]; simp
  have hne8 : decide (((bksTo k Z m o l (partN (Z : Int).toNat l.length)).length : Int) = ((bksTo k Z m o (l.set n b) (partN (Z : Int).toNat l.length)).length : Int)) = true := decide_eq_true hle2
  generalize bksTo k (Z : Int) m o l (partN (Z : Int).toNat l.length) = bs at *
  generalize bksTo k (Z : Int) m o (l.set n b) (partN (Z : Int).toNat l.length) = bs' at *
  clear hl1 hl2 hq hNle hle2
  clear he1 he2 f1 f2
  have hw0 := h
  obtain ⟨W0, hW, hT, hB⟩ := box2 w 23 37 #[.int .i64 k, .int .i64 Z, .int .i64 m, .int .i64 o] #[.int .i64 a, .int .i64 b]
  obtain ⟨g, hg⟩ : ∃ g, g = w.heap.size := ⟨_, rfl⟩
  have hW' := Lib.hid (And.intro hW hg)
  rw [← hg] at hT
  have hgw : w.heap.size ≤ g := by omega
  clear hW hg
  obtain ⟨hKp, hAr⟩ := hT
  replace h := h.below hB
  obtain ⟨c1_hKp_0, c1_hKp_1, c1_hKp_2, c1_hKp_3⟩ := hKp.quad
  obtain ⟨c1_hAr_0, c1_hAr_1⟩ := hAr.cells2
  go_enter Try.func4, Try.ntmps4
  have hBc := hB
  have hKc := hKp
  go_upto_region 4 with fail
  rw [← hW'.out.1, ← hW'.out.2]
  have own0 := World.ownsRow_lit W0 #[] 0 (base := W0.heap.size) (e := 2) (size := 1) (Nat.le_refl _) (by unfold maxLen; omega) rfl
  obtain ⟨A8, C8, e8, _, _, hR8⟩ := id h
  obtain ⟨rfl, _, rfl⟩ := Value.slice.inj e8
  have hAr2 := hAr.alloc (.cells #[] 2)
  go_upto_region 5 with (at_builtin; go_must (refine wpList_append_any _ rfl (.tmp 27) (.tmp 28) _ rfl W0.heap.size 2 i0 _ 1 8 Try.underlying24 hi0 hy0_ hy1_ hy2_ rfl (by omega) _ 0 [] rfl own0 W0.heap.size A l.length C (is l) rfl (hR8.alloc (Nat.le_refl _) _) (is_one _) (by unfold maxLen; omega) (by omega) (by simp) ?_; intro v' wm hown' hgrow hat9))
  rw [Nat.zero_add, List.nil_append] at hown'
  have bm : Below W0.heap.size W0 wm := ((Below.refl _ W0).alloc (Nat.le_refl _) _).grown hgrow (by simp) (fun g e => by cases e; exact Nat.le_refl _)
  clear hgrow hat9 own0 hR8 hAr2
  obtain ⟨gm, cm, cur_, rfl, hgm, hbm, hcm1, hcm2, hcm3, hcm4⟩ := own1_at hown' (by omega)
  clear hown' 
  replace h := h.below bm
  replace hKp := hKp.below bm hKp.lt
  replace hAr := hAr.below bm hAr.lt
  replace hB := hB.trans (bm.mono hB.size)
  clear c1_hKp_0 c1_hKp_1 c1_hKp_2 c1_hKp_3 c1_hAr_0 c1_hAr_1
  obtain ⟨c2_hKp_0, c2_hKp_1, c2_hKp_2, c2_hKp_3⟩ := hKp.quad
  obtain ⟨c2_hAr_0, c2_hAr_1⟩ := hAr.cells2
  have m0 := hbm.frozen n
  have m1 : wm.cell? ⟨gm, n, none⟩ = some cur_[n] := by rw [hbm.cell n]; exact Array.getElem?_eq_getElem (by omega)
  go_upto_region 6 with fail
  obtain ⟨w5, e5⟩ : ∃ w5, w5 = wm.setCell ⟨gm, n, none⟩ (.int .i64 b) := ⟨_, rfl⟩
  have hbm5 := hbm.set_ n (.int .i64 b)
  have hmv : IsI w5 (.slice (some ⟨gm, 0, none⟩) l.length cm) (l.set n b) := by rw [e5]; exact IsI.of_blk hbm5 hcm1 hcm2 (take_set_is hcm4 b) hml
  have hgl : w.heap.size ≤ gm := Nat.le_trans hBc.size hgm
  have hgk : g ≠ gm := by have := hKc.lt; omega
  have hB5 : Below w.heap.size w w5 := by rw [e5]; exact hB.setCell (p := ⟨gm, n, none⟩) hgl _
  have hKp5 : Blk w5 g 23 #[.int .i64 k, .int .i64 Z, .int .i64 m, .int .i64 o] := by rw [e5]; exact hKp.far (p := ⟨gm, n, none⟩) hgk _
  have h5 : IsI w5 (.slice A l.length C) l := hw0.below hB5
  have E5 := Lib.hid e5
  rw [← e5]
  clear e5 hbm5 hbm m0 m1 hcm1 hcm2 hcm3 hcm4 h hKp hAr hB hgl hgk
  replace h := h5
  replace hKp := hKp5
  replace hB := hB5
  clear h5 hKp5 hB5
  obtain ⟨c3_hKp_0, c3_hKp_1, c3_hKp_2, c3_hKp_3⟩ := hKp.quad
  go_wp2_with fail
  refine (hO1 _ h).mono ?_
  rintro e w1 ⟨s1, rfl, ⟨y1, rfl, hb1⟩, b1⟩
  replace h := h.below b1
  replace hKp := hKp.below b1 hKp.lt
  replace hmv := hmv.below b1
  replace hB := hB.trans (b1.mono hB.size)
  clear c3_hKp_0 c3_hKp_1 c3_hKp_2 c3_hKp_3
  obtain ⟨c4_hKp_0, c4_hKp_1, c4_hKp_2, c4_hKp_3⟩ := hKp.quad
  simp only at hb1
  obtain ⟨A1, C1, rfl, _, _⟩ := id hb1.len
  obtain ⟨V1, eV, hS1, bV1⟩ := box1 w1 28 #[.int .i64 k, .int .i64 Z, .int .i64 m, .int .i64 o, .int .i64 l.length, .slice A1 bs.length C1]
  obtain ⟨X1, eX⟩ : ∃ X, X = w1.heap.size := ⟨_, rfl⟩
  rw [← eX] at hS1
  have EV1 := Lib.hid (And.intro eV eX)
  clear eV eX
  go_upto_region 7 with fail
  rw [← EV1.out.1, ← EV1.out.2]
  replace h := h.below bV1
  replace hKp := hKp.below bV1 hKp.lt
  replace hmv := hmv.below bV1
  replace hb1 := hb1.below bV1
  replace hB := hB.trans (bV1.mono hB.size)
  clear c4_hKp_0 c4_hKp_1 c4_hKp_2 c4_hKp_3
  obtain ⟨c5_hKp_0, c5_hKp_1, c5_hKp_2, c5_hKp_3⟩ := hKp.quad
  clear c5_hKp_0 c5_hKp_1 c5_hKp_2 c5_hKp_3
  obtain ⟨c6_hKp_0, c6_hKp_1, c6_hKp_2, c6_hKp_3⟩ := hKp.quad
  obtain ⟨c6_hS1_0, c6_hS1_1, c6_hS1_2, c6_hS1_3, c6_hS1_4, c6_hS1_5⟩ := hS1.cells6
  go_wp2_with fail
  refine (hO2 _ _ hmv).mono ?_
  rintro e w2 ⟨s2, rfl, ⟨y2, rfl, hb2⟩, b2⟩
  replace h := h.below b2
  replace hKp := hKp.below b2 hKp.lt
  replace hmv := hmv.below b2
  replace hb1 := hb1.below b2
  replace hS1 := hS1.below b2 hS1.lt
  replace hB := hB.trans (b2.mono hB.size)
  clear c6_hKp_0 c6_hKp_1 c6_hKp_2 c6_hKp_3 c6_hS1_0 c6_hS1_1 c6_hS1_2 c6_hS1_3 c6_hS1_4 c6_hS1_5
  obtain ⟨c7_hKp_0, c7_hKp_1, c7_hKp_2, c7_hKp_3⟩ := hKp.quad
  obtain ⟨c7_hS1_0, c7_hS1_1, c7_hS1_2, c7_hS1_3, c7_hS1_4, c7_hS1_5⟩ := hS1.cells6
  simp only at hb2
  obtain ⟨A2, C2, rfl, _, _⟩ := id hb2.len
  obtain ⟨V2, eV, hS2, bV2⟩ := box1 w2 28 #[.int .i64 k, .int .i64 Z, .int .i64 m, .int .i64 o, .int .i64 l.length, .slice A2 bs'.length C2]
  obtain ⟨X2, eX⟩ : ∃ X, X = w2.heap.size := ⟨_, rfl⟩
  rw [← eX] at hS2
  have EV2 := Lib.hid (And.intro eV eX)
  clear eV eX
  go_upto_region 8 with fail
  rw [← EV2.out.1, ← EV2.out.2]
  replace h := h.below bV2
  replace hKp := hKp.below bV2 hKp.lt
  replace hmv := hmv.below bV2
  replace hb1 := hb1.below bV2
  replace hS1 := hS1.below bV2 hS1.lt
  replace hb2 := hb2.below bV2
  replace hB := hB.trans (bV2.mono hB.size)
  clear c7_hKp_0 c7_hKp_1 c7_hKp_2 c7_hKp_3 c7_hS1_0 c7_hS1_1 c7_hS1_2 c7_hS1_3 c7_hS1_4 c7_hS1_5
  obtain ⟨c8_hKp_0, c8_hKp_1, c8_hKp_2, c8_hKp_3⟩ := hKp.quad
  obtain ⟨c8_hS1_0, c8_hS1_1, c8_hS1_2, c8_hS1_3, c8_hS1_4, c8_hS1_5⟩ := hS1.cells6
  clear c8_hKp_0 c8_hKp_1 c8_hKp_2 c8_hKp_3 c8_hS1_0 c8_hS1_1 c8_hS1_2 c8_hS1_3 c8_hS1_4 c8_hS1_5
  obtain ⟨c9_hKp_0, c9_hKp_1, c9_hKp_2, c9_hKp_3⟩ := hKp.quad
  obtain ⟨c9_hS1_0, c9_hS1_1, c9_hS1_2, c9_hS1_3, c9_hS1_4, c9_hS1_5⟩ := hS1.cells6
  obtain ⟨c9_hS2_0, c9_hS2_1, c9_hS2_2, c9_hS2_3, c9_hS2_4, c9_hS2_5⟩ := hS2.cells6
  have s15 := hS1.cell 5
  have s25 := hS2.cell 5
  go_wp2
  clear s15 s25 c9_hKp_0 c9_hKp_1 c9_hKp_2 c9_hKp_3 c9_hS1_0 c9_hS1_1 c9_hS1_2 c9_hS1_3 c9_hS1_4 c9_hS1_5 c9_hS2_0 c9_hS2_1 c9_hS2_2 c9_hS2_3 c9_hS2_4 c9_hS2_5
  go_loopw [13] (fun i wr => ∃ j : Nat, i = .int .i64 j ∧ j ≤ bs.length ∧ Below V2.heap.size V2 wr) (fun i _ => bs.length - (intOf i).toNat)
  case atStart => exact ⟨0, rfl, by omega, Below.refl _ _⟩
  case round =>
    obtain ⟨j, rfl, hj, bl⟩ := hrel
    replace h := h.below bl
    replace hKp := hKp.below bl hKp.lt
    replace hmv := hmv.below bl
    replace hb1 := hb1.below bl
    replace hS1 := hS1.below bl hS1.lt
    replace hb2 := hb2.below bl
    replace hS2 := hS2.below bl hS2.lt
    replace hB := hB.trans (bl.mono hB.size)
    obtain ⟨c10_hKp_0, c10_hKp_1, c10_hKp_2, c10_hKp_3⟩ := hKp.quad
    obtain ⟨c10_hS1_0, c10_hS1_1, c10_hS1_2, c10_hS1_3, c10_hS1_4, c10_hS1_5⟩ := hS1.cells6
    obtain ⟨c10_hS2_0, c10_hS2_1, c10_hS2_2, c10_hS2_3, c10_hS2_4, c10_hS2_5⟩ := hS2.cells6
    have s15 := hS1.cell 5
    have s25 := hS2.cell 5
    by_cases hlt : j < bs.length
    · have hlt' : j < bs'.length := by have := HLEN.out; omega
      obtain ⟨ad, d1, k1, sc1, cs1, wd1, a1, b1_, e1, _, hat1, x0, x1, x2, x3, hy1, hi1⟩ := hb1.at_ hlt
      obtain ⟨ad', d2, k2, sc2, cs2, wd2, a2, b2_, e2, _, hat2, y0, y1, y2, y3, hy2, hi2⟩ := hb2.at_ hlt'
      obtain ⟨rfl, _, rfl⟩ := Value.slice.inj e1
      obtain ⟨rfl, _, rfl⟩ := Value.slice.inj e2
      obtain ⟨P1, Q1, rfl, _, _⟩ := id hy1.form
      obtain ⟨P2, Q2, rfl, _, _⟩ := id hi1.form
      obtain ⟨P3, Q3, rfl, _, _⟩ := id hy2.form
      obtain ⟨P4, Q4, rfl, _, _⟩ := id hi2.form
      have i0_ : (0 : Int) ≤ (j : Int) := by omega
      have i1_ : (j : Int) < (bs.length : Int) := by omega
      have i2_ : (j : Int) < (bs'.length : Int) := by omega
      have hB1 : IsBk wr (.agg #[.int .i64 k1, .int .i64 sc1, .slice P1 cs1.length Q1, .slice P2 wd1.length Q2]) k1 sc1 cs1 wd1 := ⟨_, _, rfl, hy1, hi1⟩
      have hB2 : IsBk wr (.agg #[.int .i64 k2, .int .i64 sc2, .slice P3 cs2.length Q3, .slice P4 wd2.length Q4]) k2 sc2 cs2 wd2 := ⟨_, _, rfl, hy2, hi2⟩
      have hSm := rbsame_any _ _ k1 sc1 cs1 wd1 k2 sc2 cs2 wd2 _ (hB1.below (bdrew wr)) (hB2.below (bdrew wr))
      have HAT := Lib.hid (And.intro hat1 hat2)
      clear hat1 hat2 hB1 hB2
      go_upto_region 13 with fail
      by_cases hjq : j = q
      · have h1 : ((j : Int) != (q : Int)) = false := by rw [hjq]; simp
        have h2 : decide ((j : Int) = (q : Int)) = true := decide_eq_true (by rw [hjq])
        clear hSm hjq
        refine wp_region_noPanic ?_
        refine wp_region_held_drew (S := fun w' => w'.cell? ⟨g, 1, none⟩ = some (.int .i64 Z) ∧ w'.cell? ⟨X1, 5, none⟩ = some (.slice (some ad) bs.length C1) ∧ w'.cell? ⟨X2, 5, none⟩ = some (.slice (some ad') bs'.length C2) ∧ w'.cell? (ad.add (j * 4)) = some (.int .i64 k1) ∧ w'.cell? ⟨(ad.add (j * 4)).block, (ad.add (j * 4)).off + 1, none⟩ = some (.int .i64 sc1) ∧ w'.cell? ⟨(ad.add (j * 4)).block, (ad.add (j * 4)).off + 2, none⟩ = some (.slice P1 cs1.length Q1) ∧ w'.cell? ⟨(ad.add (j * 4)).block, (ad.add (j * 4)).off + 3, none⟩ = some (.slice P2 wd1.length Q2) ∧ w'.cell? (ad'.add (j * 4)) = some (.int .i64 k2) ∧ w'.cell? ⟨(ad'.add (j * 4)).block, (ad'.add (j * 4)).off + 1, none⟩ = some (.int .i64 sc2) ∧ w'.cell? ⟨(ad'.add (j * 4)).block, (ad'.add (j * 4)).off + 2, none⟩ = some (.slice P3 cs2.length Q3) ∧ w'.cell? ⟨(ad'.add (j * 4)).block, (ad'.add (j * 4)).off + 3, none⟩ = some (.slice P4 wd2.length Q4)) (by kernel_rfl) ?_ (fun hHeld => ?_)
        · exact ⟨(hKp.below (by first | assumption | exact bdrew _) hKp.lt).cell 1, (hS1.below (by first | assumption | exact bdrew _) hS1.lt).cell 5, (hS2.below (by first | assumption | exact bdrew _) hS2.lt).cell 5, cellBT (by first | assumption | exact bdrew _) x0, cellBT (by first | assumption | exact bdrew _) x1, cellBT (by first | assumption | exact bdrew _) x2, cellBT (by first | assumption | exact bdrew _) x3, cellBT (by first | assumption | exact bdrew _) y0, cellBT (by first | assumption | exact bdrew _) y1, cellBT (by first | assumption | exact bdrew _) y2, cellBT (by first | assumption | exact bdrew _) y3⟩
        refine wpAnyH_take (i := 0) (v := ?b1_v0) rfl (by kernel_rfl) (by kernel_rfl) (by kernel_rfl) (fun _ _ _ h => h) (Or.inl ⟨by kernel_rfl, ?b1_hy0⟩) (by assumption) ?b1_rest0
        case b1_hy0 => (intro w hSw; (try dsimp only at hSw); go_simp; try (with_reducible rfl))
        try simp only [Act.put, List.getElem_toArray, List.getElem_cons_succ, List.getElem_cons_zero, List.setIfInBounds_toArray, List.set_cons_zero, List.set_cons_succ]
        refine wpAnyH_take (i := 1) (v := ?b1_v1) rfl (by kernel_rfl) (by kernel_rfl) (by kernel_rfl) (fun _ _ _ h => h) (Or.inl ⟨by kernel_rfl, ?b1_hy1⟩) (by assumption) ?b1_rest1
        case b1_hy1 => (intro w hSw; (try dsimp only at hSw); go_simp; try (with_reducible rfl))
        try simp only [Act.put, List.getElem_toArray, List.getElem_cons_succ, List.getElem_cons_zero, List.setIfInBounds_toArray, List.set_cons_zero, List.set_cons_succ]
        refine wpAnyH_take (i := 2) (v := ?b1_v2) rfl (by kernel_rfl) (by kernel_rfl) (by kernel_rfl) (fun _ _ _ h => h) (Or.inl ⟨by kernel_rfl, ?b1_hy2⟩) (by assumption) ?b1_rest2
        case b1_hy2 => (intro w hSw; (try dsimp only at hSw); go_simp; try (with_reducible rfl))
        try simp only [Act.put, List.getElem_toArray, List.getElem_cons_succ, List.getElem_cons_zero, List.setIfInBounds_toArray, List.set_cons_zero, List.set_cons_succ]
        refine wpAnyH_take (i := 3) (v := ?b1_v3) rfl (by kernel_rfl) (by kernel_rfl) (by kernel_rfl) (fun _ _ _ h => h) (Or.inl ⟨by kernel_rfl, ?b1_hy3⟩) (by assumption) ?b1_rest3
        case b1_hy3 => (intro w hSw; (try dsimp only at hSw); go_simp; try (with_reducible rfl))
        try simp only [Act.put, List.getElem_toArray, List.getElem_cons_succ, List.getElem_cons_zero, List.setIfInBounds_toArray, List.set_cons_zero, List.set_cons_succ]
        refine wpAnyH_take (i := 4) (v := ?b1_v4) rfl (by kernel_rfl) (by kernel_rfl) (by kernel_rfl) (fun _ _ _ h => h) (Or.inl ⟨by kernel_rfl, ?b1_hy4⟩) (by assumption) ?b1_rest4
        case b1_hy4 => (intro w hSw; (try dsimp only at hSw); go_simp; try (with_reducible rfl))
        try simp only [Act.put, List.getElem_toArray, List.getElem_cons_succ, List.getElem_cons_zero, List.setIfInBounds_toArray, List.set_cons_zero, List.set_cons_succ]
        refine wpAnyH_take (i := 5) (v := ?b1_v5) rfl (by kernel_rfl) (by kernel_rfl) (by kernel_rfl) (fun _ _ _ h => h) (Or.inl ⟨by kernel_rfl, ?b1_hy5⟩) (by assumption) ?b1_rest5
        case b1_hy5 => (intro w hSw; (try dsimp only at hSw); go_simp; try (with_reducible rfl))
        try simp only [Act.put, List.getElem_toArray, List.getElem_cons_succ, List.getElem_cons_zero, List.setIfInBounds_toArray, List.set_cons_zero, List.set_cons_succ]
        refine wpAnyH_take (i := 6) (v := ?b1_v6) rfl (by kernel_rfl) (by kernel_rfl) (by kernel_rfl) (fun _ _ _ h => h) (Or.inl ⟨by kernel_rfl, ?b1_hy6⟩) (by assumption) ?b1_rest6
        case b1_hy6 => (intro w hSw; (try dsimp only at hSw); go_simp; try (with_reducible rfl))
        try simp only [Act.put, List.getElem_toArray, List.getElem_cons_succ, List.getElem_cons_zero, List.setIfInBounds_toArray, List.set_cons_zero, List.set_cons_succ]
        refine wpAnyH_take (i := 7) (v := undef) rfl (by kernel_rfl) (by kernel_rfl) (by kernel_rfl) (fun _ _ _ h => h) (Or.inr ⟨by kernel_rfl, rfl⟩) (by assumption) ?_
        try simp only [Act.put, List.getElem_toArray, List.getElem_cons_succ, List.getElem_cons_zero, List.setIfInBounds_toArray, List.set_cons_zero, List.set_cons_succ]
        refine wpAnyH_take (i := 8) (v := undef) rfl (by kernel_rfl) (by kernel_rfl) (by kernel_rfl) (fun _ _ _ h => h) (Or.inr ⟨by kernel_rfl, rfl⟩) (by assumption) ?_
        try simp only [Act.put, List.getElem_toArray, List.getElem_cons_succ, List.getElem_cons_zero, List.setIfInBounds_toArray, List.set_cons_zero, List.set_cons_succ]
        refine wpAnyH_take (i := 9) (v := undef) rfl (by kernel_rfl) (by kernel_rfl) (by kernel_rfl) (fun _ _ _ h => h) (Or.inr ⟨by kernel_rfl, rfl⟩) (by assumption) ?_
        try simp only [Act.put, List.getElem_toArray, List.getElem_cons_succ, List.getElem_cons_zero, List.setIfInBounds_toArray, List.set_cons_zero, List.set_cons_succ]
        refine wpAnyH_take (i := 10) (v := undef) rfl (by kernel_rfl) (by kernel_rfl) (by kernel_rfl) (fun _ _ _ h => h) (Or.inr ⟨by kernel_rfl, rfl⟩) (by assumption) ?_
        try simp only [Act.put, List.getElem_toArray, List.getElem_cons_succ, List.getElem_cons_zero, List.setIfInBounds_toArray, List.set_cons_zero, List.set_cons_succ]
        refine wpAnyH_take (i := 11) (v := undef) rfl (by kernel_rfl) (by kernel_rfl) (by kernel_rfl) (fun _ _ _ h => h) (Or.inr ⟨by kernel_rfl, rfl⟩) (by assumption) ?_
        try simp only [Act.put, List.getElem_toArray, List.getElem_cons_succ, List.getElem_cons_zero, List.setIfInBounds_toArray, List.set_cons_zero, List.set_cons_succ]
        refine wpAnyH_take (i := 12) (v := undef) rfl (by kernel_rfl) (by kernel_rfl) (by kernel_rfl) (fun _ _ _ h => h) (Or.inr ⟨by kernel_rfl, rfl⟩) (by assumption) ?_
        try simp only [Act.put, List.getElem_toArray, List.getElem_cons_succ, List.getElem_cons_zero, List.setIfInBounds_toArray, List.set_cons_zero, List.set_cons_succ]
        refine wpAnyH_take (i := 13) (v := undef) rfl (by kernel_rfl) (by kernel_rfl) (by kernel_rfl) (fun _ _ _ h => h) (Or.inr ⟨by kernel_rfl, rfl⟩) (by assumption) ?_
        try simp only [Act.put, List.getElem_toArray, List.getElem_cons_succ, List.getElem_cons_zero, List.setIfInBounds_toArray, List.set_cons_zero, List.set_cons_succ]
        refine wpAnyH_take (i := 14) (v := undef) rfl (by kernel_rfl) (by kernel_rfl) (by kernel_rfl) (fun _ _ _ h => h) (Or.inr ⟨by kernel_rfl, rfl⟩) (by assumption) ?_
        try simp only [Act.put, List.getElem_toArray, List.getElem_cons_succ, List.getElem_cons_zero, List.setIfInBounds_toArray, List.set_cons_zero, List.set_cons_succ]
        refine wpAnyH_take (i := 15) (v := undef) rfl (by kernel_rfl) (by kernel_rfl) (by kernel_rfl) (fun _ _ _ h => h) (Or.inr ⟨by kernel_rfl, rfl⟩) (by assumption) ?_
        try simp only [Act.put, List.getElem_toArray, List.getElem_cons_succ, List.getElem_cons_zero, List.setIfInBounds_toArray, List.set_cons_zero, List.set_cons_succ]
        refine wpAnyH_take (i := 16) (v := undef) rfl (by kernel_rfl) (by kernel_rfl) (by kernel_rfl) (fun _ _ _ h => h) (Or.inr ⟨by kernel_rfl, rfl⟩) (by assumption) ?_
        try simp only [Act.put, List.getElem_toArray, List.getElem_cons_succ, List.getElem_cons_zero, List.setIfInBounds_toArray, List.set_cons_zero, List.set_cons_succ]
        refine wpAnyH_take (i := 17) (v := undef) rfl (by kernel_rfl) (by kernel_rfl) (by kernel_rfl) (fun _ _ _ h => h) (Or.inr ⟨by kernel_rfl, rfl⟩) (by assumption) ?_
        try simp only [Act.put, List.getElem_toArray, List.getElem_cons_succ, List.getElem_cons_zero, List.setIfInBounds_toArray, List.set_cons_zero, List.set_cons_succ]
        try dsimp only
        try simp only [Act.put, List.getElem_toArray, List.getElem_cons_succ, List.getElem_cons_zero, List.setIfInBounds_toArray, List.set_cons_zero, List.set_cons_succ]
        refine wpAnyH_take (i := 18) (v := undef) rfl (by kernel_rfl) (by kernel_rfl) (by kernel_rfl) (fun _ _ _ h => h) (Or.inr ⟨by kernel_rfl, rfl⟩) (by assumption) ?_
        try simp only [Act.put, List.getElem_toArray, List.getElem_cons_succ, List.getElem_cons_zero, List.setIfInBounds_toArray, List.set_cons_zero, List.set_cons_succ]
        try dsimp only
        try simp only [Act.put, List.getElem_toArray, List.getElem_cons_succ, List.getElem_cons_zero, List.setIfInBounds_toArray, List.set_cons_zero, List.set_cons_succ]
        refine wpAnyH_take (i := 19) (v := ?b1_v19) rfl (by kernel_rfl) (by kernel_rfl) (by kernel_rfl) (fun _ _ _ h => h) (Or.inl ⟨by kernel_rfl, ?b1_hy19⟩) (by assumption) ?b1_rest19
        case b1_hy19 => (intro w hSw; (try dsimp only at hSw); go_simp; try (with_reducible rfl))
        try simp only [Act.put, List.getElem_toArray, List.getElem_cons_succ, List.getElem_cons_zero, List.setIfInBounds_toArray, List.set_cons_zero, List.set_cons_succ]
        try dsimp only
        try simp only [Act.put, List.getElem_toArray, List.getElem_cons_succ, List.getElem_cons_zero, List.setIfInBounds_toArray, List.set_cons_zero, List.set_cons_succ]
        refine wpAnyH_done (by kernel_rfl) ?_ _
        refine NoPanic.normal ?_
        go_wp2
        exact ⟨⟨j + 1, by go_num, by omega, bl.drew⟩, by simp [intOf]; omega⟩
      · have h1 : ((j : Int) != (q : Int)) = true := by rw [bne_iff_ne]; omega
        have h2 : decide ((j : Int) = (q : Int)) = false := decide_eq_false (by omega)
        have hsame : ((k1, sc1, cs1, wd1) : Bk) = (k2, sc2, cs2, wd2) := by
          have e := HEQ.out j (by omega) hjq
          rw [HAT.out.1, HAT.out.2] at e
          exact Option.some.inj e
        rw [bk_eq, decide_eq_true hsame] at hSm
        clear hsame hjq
        refine wp_region_noPanic ?_
        refine wp_region_held_drew (S := fun w' => w'.cell? ⟨g, 1, none⟩ = some (.int .i64 Z) ∧ w'.cell? ⟨X1, 5, none⟩ = some (.slice (some ad) bs.length C1) ∧ w'.cell? ⟨X2, 5, none⟩ = some (.slice (some ad') bs'.length C2) ∧ w'.cell? (ad.add (j * 4)) = some (.int .i64 k1) ∧ w'.cell? ⟨(ad.add (j * 4)).block, (ad.add (j * 4)).off + 1, none⟩ = some (.int .i64 sc1) ∧ w'.cell? ⟨(ad.add (j * 4)).block, (ad.add (j * 4)).off + 2, none⟩ = some (.slice P1 cs1.length Q1) ∧ w'.cell? ⟨(ad.add (j * 4)).block, (ad.add (j * 4)).off + 3, none⟩ = some (.slice P2 wd1.length Q2) ∧ w'.cell? (ad'.add (j * 4)) = some (.int .i64 k2) ∧ w'.cell? ⟨(ad'.add (j * 4)).block, (ad'.add (j * 4)).off + 1, none⟩ = some (.int .i64 sc2) ∧ w'.cell? ⟨(ad'.add (j * 4)).block, (ad'.add (j * 4)).off + 2, none⟩ = some (.slice P3 cs2.length Q3) ∧ w'.cell? ⟨(ad'.add (j * 4)).block, (ad'.add (j * 4)).off + 3, none⟩ = some (.slice P4 wd2.length Q4)) (by kernel_rfl) ?_ (fun hHeld => ?_)
        · exact ⟨(hKp.below (by first | assumption | exact bdrew _) hKp.lt).cell 1, (hS1.below (by first | assumption | exact bdrew _) hS1.lt).cell 5, (hS2.below (by first | assumption | exact bdrew _) hS2.lt).cell 5, cellBT (by first | assumption | exact bdrew _) x0, cellBT (by first | assumption | exact bdrew _) x1, cellBT (by first | assumption | exact bdrew _) x2, cellBT (by first | assumption | exact bdrew _) x3, cellBT (by first | assumption | exact bdrew _) y0, cellBT (by first | assumption | exact bdrew _) y1, cellBT (by first | assumption | exact bdrew _) y2, cellBT (by first | assumption | exact bdrew _) y3⟩
        refine wpAnyH_take (i := 0) (v := ?b2_v0) rfl (by kernel_rfl) (by kernel_rfl) (by kernel_rfl) (fun _ _ _ h => h) (Or.inl ⟨by kernel_rfl, ?b2_hy0⟩) (by assumption) ?b2_rest0
        case b2_hy0 => (intro w hSw; (try dsimp only at hSw); go_simp; try (with_reducible rfl))
        try simp only [Act.put, List.getElem_toArray, List.getElem_cons_succ, List.getElem_cons_zero, List.setIfInBounds_toArray, List.set_cons_zero, List.set_cons_succ]
        refine wpAnyH_take (i := 1) (v := ?b2_v1) rfl (by kernel_rfl) (by kernel_rfl) (by kernel_rfl) (fun _ _ _ h => h) (Or.inl ⟨by kernel_rfl, ?b2_hy1⟩) (by assumption) ?b2_rest1
        case b2_hy1 => (intro w hSw; (try dsimp only at hSw); go_simp; try (with_reducible rfl))
        try simp only [Act.put, List.getElem_toArray, List.getElem_cons_succ, List.getElem_cons_zero, List.setIfInBounds_toArray, List.set_cons_zero, List.set_cons_succ]
        refine wpAnyH_take (i := 2) (v := ?b2_v2) rfl (by kernel_rfl) (by kernel_rfl) (by kernel_rfl) (fun _ _ _ h => h) (Or.inl ⟨by kernel_rfl, ?b2_hy2⟩) (by assumption) ?b2_rest2
        case b2_hy2 => (intro w hSw; (try dsimp only at hSw); go_simp; try (with_reducible rfl))
        try simp only [Act.put, List.getElem_toArray, List.getElem_cons_succ, List.getElem_cons_zero, List.setIfInBounds_toArray, List.set_cons_zero, List.set_cons_succ]
        refine wpAnyH_take (i := 3) (v := ?b2_v3) rfl (by kernel_rfl) (by kernel_rfl) (by kernel_rfl) (fun _ _ _ h => h) (Or.inl ⟨by kernel_rfl, ?b2_hy3⟩) (by assumption) ?b2_rest3
        case b2_hy3 => (intro w hSw; (try dsimp only at hSw); go_simp; try (with_reducible rfl))
        try simp only [Act.put, List.getElem_toArray, List.getElem_cons_succ, List.getElem_cons_zero, List.setIfInBounds_toArray, List.set_cons_zero, List.set_cons_succ]
        refine wpAnyH_take (i := 4) (v := ?b2_v4) rfl (by kernel_rfl) (by kernel_rfl) (by kernel_rfl) (fun _ _ _ h => h) (Or.inl ⟨by kernel_rfl, ?b2_hy4⟩) (by assumption) ?b2_rest4
        case b2_hy4 => (intro w hSw; (try dsimp only at hSw); go_simp; try (with_reducible rfl))
        try simp only [Act.put, List.getElem_toArray, List.getElem_cons_succ, List.getElem_cons_zero, List.setIfInBounds_toArray, List.set_cons_zero, List.set_cons_succ]
        refine wpAnyH_take (i := 5) (v := ?b2_v5) rfl (by kernel_rfl) (by kernel_rfl) (by kernel_rfl) (fun _ _ _ h => h) (Or.inl ⟨by kernel_rfl, ?b2_hy5⟩) (by assumption) ?b2_rest5
        case b2_hy5 => (intro w hSw; (try dsimp only at hSw); go_simp; try (with_reducible rfl))
        try simp only [Act.put, List.getElem_toArray, List.getElem_cons_succ, List.getElem_cons_zero, List.setIfInBounds_toArray, List.set_cons_zero, List.set_cons_succ]
        refine wpAnyH_take (i := 6) (v := ?b2_v6) rfl (by kernel_rfl) (by kernel_rfl) (by kernel_rfl) (fun _ _ _ h => h) (Or.inl ⟨by kernel_rfl, ?b2_hy6⟩) (by assumption) ?b2_rest6
        case b2_hy6 => (intro w hSw; (try dsimp only at hSw); go_simp; try (with_reducible rfl))
        try simp only [Act.put, List.getElem_toArray, List.getElem_cons_succ, List.getElem_cons_zero, List.setIfInBounds_toArray, List.set_cons_zero, List.set_cons_succ]
        refine wpAnyH_take (i := 7) (v := ?b2_v7) rfl (by kernel_rfl) (by kernel_rfl) (by kernel_rfl) (fun _ _ _ h => h) (Or.inl ⟨by kernel_rfl, ?b2_hy7⟩) (by assumption) ?b2_rest7
        case b2_hy7 => (intro w hSw; (try dsimp only at hSw); go_simp; try (with_reducible rfl))
        try simp only [Act.put, List.getElem_toArray, List.getElem_cons_succ, List.getElem_cons_zero, List.setIfInBounds_toArray, List.set_cons_zero, List.set_cons_succ]
        refine wpAnyH_take (i := 8) (v := ?b2_v8) rfl (by kernel_rfl) (by kernel_rfl) (by kernel_rfl) (fun _ _ _ h => h) (Or.inl ⟨by kernel_rfl, ?b2_hy8⟩) (by assumption) ?b2_rest8
        case b2_hy8 => (intro w hSw; (try dsimp only at hSw); go_simp; try (with_reducible rfl))
        try simp only [Act.put, List.getElem_toArray, List.getElem_cons_succ, List.getElem_cons_zero, List.setIfInBounds_toArray, List.set_cons_zero, List.set_cons_succ]
        refine wpAnyH_take (i := 9) (v := ?b2_v9) rfl (by kernel_rfl) (by kernel_rfl) (by kernel_rfl) (fun _ _ _ h => h) (Or.inl ⟨by kernel_rfl, ?b2_hy9⟩) (by assumption) ?b2_rest9
        case b2_hy9 => (intro w hSw; (try dsimp only at hSw); go_simp; try (with_reducible rfl))
        try simp only [Act.put, List.getElem_toArray, List.getElem_cons_succ, List.getElem_cons_zero, List.setIfInBounds_toArray, List.set_cons_zero, List.set_cons_succ]
        refine wpAnyH_take (i := 10) (v := ?b2_v10) rfl (by kernel_rfl) (by kernel_rfl) (by kernel_rfl) (fun _ _ _ h => h) (Or.inl ⟨by kernel_rfl, ?b2_hy10⟩) (by assumption) ?b2_rest10
        case b2_hy10 => (intro w hSw; (try dsimp only at hSw); go_simp; try (with_reducible rfl))
        try simp only [Act.put, List.getElem_toArray, List.getElem_cons_succ, List.getElem_cons_zero, List.setIfInBounds_toArray, List.set_cons_zero, List.set_cons_succ]
        refine wpAnyH_take (i := 11) (v := ?b2_v11) rfl (by kernel_rfl) (by kernel_rfl) (by kernel_rfl) (fun _ _ _ h => h) (Or.inl ⟨by kernel_rfl, ?b2_hy11⟩) (by assumption) ?b2_rest11
        case b2_hy11 => (intro w hSw; (try dsimp only at hSw); go_simp; try (with_reducible rfl))
        try simp only [Act.put, List.getElem_toArray, List.getElem_cons_succ, List.getElem_cons_zero, List.setIfInBounds_toArray, List.set_cons_zero, List.set_cons_succ]
        refine wpAnyH_take (i := 12) (v := ?b2_v12) rfl (by kernel_rfl) (by kernel_rfl) (by kernel_rfl) (fun _ _ _ h => h) (Or.inl ⟨by kernel_rfl, ?b2_hy12⟩) (by assumption) ?b2_rest12
        case b2_hy12 => (intro w hSw; (try dsimp only at hSw); go_simp; try (with_reducible rfl))
        try simp only [Act.put, List.getElem_toArray, List.getElem_cons_succ, List.getElem_cons_zero, List.setIfInBounds_toArray, List.set_cons_zero, List.set_cons_succ]
        refine wpAnyH_take (i := 13) (v := ?b2_v13) rfl (by kernel_rfl) (by kernel_rfl) (by kernel_rfl) (fun _ _ _ h => h) (Or.inl ⟨by kernel_rfl, ?b2_hy13⟩) (by assumption) ?b2_rest13
        case b2_hy13 => (intro w hSw; (try dsimp only at hSw); go_simp; try (with_reducible rfl))
        try simp only [Act.put, List.getElem_toArray, List.getElem_cons_succ, List.getElem_cons_zero, List.setIfInBounds_toArray, List.set_cons_zero, List.set_cons_succ]
        refine wpAnyH_take (i := 14) (v := ?b2_v14) rfl (by kernel_rfl) (by kernel_rfl) (by kernel_rfl) (fun _ _ _ h => h) (Or.inl ⟨by kernel_rfl, ?b2_hy14⟩) (by assumption) ?b2_rest14
        case b2_hy14 => (intro w hSw; (try dsimp only at hSw); go_simp; try (with_reducible rfl))
        try simp only [Act.put, List.getElem_toArray, List.getElem_cons_succ, List.getElem_cons_zero, List.setIfInBounds_toArray, List.set_cons_zero, List.set_cons_succ]
        refine wpAnyH_take (i := 15) (v := ?b2_v15) rfl (by kernel_rfl) (by kernel_rfl) (by kernel_rfl) (fun _ _ _ h => h) (Or.inl ⟨by kernel_rfl, ?b2_hy15⟩) (by assumption) ?b2_rest15
        case b2_hy15 => (intro w hSw; (try dsimp only at hSw); go_simp; try (with_reducible rfl))
        try simp only [Act.put, List.getElem_toArray, List.getElem_cons_succ, List.getElem_cons_zero, List.setIfInBounds_toArray, List.set_cons_zero, List.set_cons_succ]
        refine wpAnyH_take (i := 16) (v := ?b2_v16) rfl (by kernel_rfl) (by kernel_rfl) (by kernel_rfl) (fun _ _ _ h => h) (Or.inl ⟨by kernel_rfl, ?b2_hy16⟩) (by assumption) ?b2_rest16
        case b2_hy16 => (intro w hSw; (try dsimp only at hSw); go_simp; try (with_reducible rfl))
        try simp only [Act.put, List.getElem_toArray, List.getElem_cons_succ, List.getElem_cons_zero, List.setIfInBounds_toArray, List.set_cons_zero, List.set_cons_succ]
        refine wpAnyH_ready (rs := [17]) (by kernel_rfl) (by simp) ?_
        refine AllReadyH.cons rfl (fun K hK => ?_) AllReadyH.nil
        go_simp
        refine hSm.mono ?_
        rintro e u1 ⟨rfl, d1_⟩
        have d1_ := bstep (bdrew wr) d1_
        go_wp2_with fail
        refine hK.out _ _ ?_ (fun hHeld => ?_)
        · exact ⟨(hKp.below (by first | assumption | exact bdrew _) hKp.lt).cell 1, (hS1.below (by first | assumption | exact bdrew _) hS1.lt).cell 5, (hS2.below (by first | assumption | exact bdrew _) hS2.lt).cell 5, cellBT (by first | assumption | exact bdrew _) x0, cellBT (by first | assumption | exact bdrew _) x1, cellBT (by first | assumption | exact bdrew _) x2, cellBT (by first | assumption | exact bdrew _) x3, cellBT (by first | assumption | exact bdrew _) y0, cellBT (by first | assumption | exact bdrew _) y1, cellBT (by first | assumption | exact bdrew _) y2, cellBT (by first | assumption | exact bdrew _) y3⟩
        clear hK K
        try simp only [Act.put, List.getElem_toArray, List.getElem_cons_succ, List.getElem_cons_zero, List.setIfInBounds_toArray, List.set_cons_zero, List.set_cons_succ]
        try dsimp only
        try simp only [Act.put, List.getElem_toArray, List.getElem_cons_succ, List.getElem_cons_zero, List.setIfInBounds_toArray, List.set_cons_zero, List.set_cons_succ]
        refine wpAnyH_take (i := 18) (v := ?b2_v18) rfl (by kernel_rfl) (by kernel_rfl) (by kernel_rfl) (fun _ _ _ h => h) (Or.inl ⟨by kernel_rfl, ?b2_hy18⟩) (by assumption) ?b2_rest18
        case b2_hy18 => (intro w hSw; (try dsimp only at hSw); go_simp; try (with_reducible rfl))
        try simp only [Act.put, List.getElem_toArray, List.getElem_cons_succ, List.getElem_cons_zero, List.setIfInBounds_toArray, List.set_cons_zero, List.set_cons_succ]
        try dsimp only
        try simp only [Act.put, List.getElem_toArray, List.getElem_cons_succ, List.getElem_cons_zero, List.setIfInBounds_toArray, List.set_cons_zero, List.set_cons_succ]
        refine wpAnyH_take (i := 19) (v := ?b2_v19) rfl (by kernel_rfl) (by kernel_rfl) (by kernel_rfl) (fun _ _ _ h => h) (Or.inl ⟨by kernel_rfl, ?b2_hy19⟩) (by assumption) ?b2_rest19
        case b2_hy19 => (intro w hSw; (try dsimp only at hSw); go_simp; try (with_reducible rfl))
        try simp only [Act.put, List.getElem_toArray, List.getElem_cons_succ, List.getElem_cons_zero, List.setIfInBounds_toArray, List.set_cons_zero, List.set_cons_succ]
        try dsimp only
        try simp only [Act.put, List.getElem_toArray, List.getElem_cons_succ, List.getElem_cons_zero, List.setIfInBounds_toArray, List.set_cons_zero, List.set_cons_succ]
        refine wpAnyH_done (by kernel_rfl) ?_ _
        refine NoPanic.normal ?_
        go_wp2
        exact ⟨⟨j + 1, by go_num, by omega, bl.trans (d1_.mono bl.size)⟩, by simp [intOf]; omega⟩
    · obtain rfl : j = bs.length := by omega
      clear c10_hKp_0 c10_hKp_1 c10_hKp_2 c10_hKp_3 c10_hS1_0 c10_hS1_1 c10_hS1_2 c10_hS1_3 c10_hS1_4 c10_hS1_5 c10_hS2_0 c10_hS2_1 c10_hS2_2 c10_hS2_3 c10_hS2_4 c10_hS2_5
      obtain ⟨c11_hKp_0, c11_hKp_1, c11_hKp_2, c11_hKp_3⟩ := hKp.quad
      obtain ⟨c11_hS1_0, c11_hS1_1, c11_hS1_2, c11_hS1_3, c11_hS1_4, c11_hS1_5⟩ := hS1.cells6
      obtain ⟨c11_hS2_0, c11_hS2_1, c11_hS2_2, c11_hS2_3, c11_hS2_4, c11_hS2_5⟩ := hS2.cells6
      go_wp2_with fail
      refine (hL _).mono ?_
      rintro e w3 ⟨rfl, b3⟩
      replace h := h.below b3
      replace hKp := hKp.below b3 hKp.lt
      replace hmv := hmv.below b3
      replace hb1 := hb1.below b3
      replace hS1 := hS1.below b3 hS1.lt
      replace hb2 := hb2.below b3
      replace hS2 := hS2.below b3 hS2.lt
      replace hB := hB.trans (b3.mono hB.size)
      clear c11_hKp_0 c11_hKp_1 c11_hKp_2 c11_hKp_3 c11_hS1_0 c11_hS1_1 c11_hS1_2 c11_hS1_3 c11_hS1_4 c11_hS1_5 c11_hS2_0 c11_hS2_1 c11_hS2_2 c11_hS2_3 c11_hS2_4 c11_hS2_5
      obtain ⟨c12_hKp_0, c12_hKp_1, c12_hKp_2, c12_hKp_3⟩ := hKp.quad
      obtain ⟨c12_hS1_0, c12_hS1_1, c12_hS1_2, c12_hS1_3, c12_hS1_4, c12_hS1_5⟩ := hS1.cells6
      obtain ⟨c12_hS2_0, c12_hS2_1, c12_hS2_2, c12_hS2_3, c12_hS2_4, c12_hS2_5⟩ := hS2.cells6
      go_wp2
      go_ret
      exact ⟨rfl, hB⟩
set_option maxRecDepth 100000 in
set_option maxHeartbeats 8000000 in
theorem TensApart_10 (k z m o a b : Int) (v : Value) (l : List Int) (w : World) (h : IsI w v l) (hi : ∀ x ∈ l, I64 x) (hb : I64 b) (n : Nat) (hat : bits .and .i64 a 31 = (n : Int)) (hn : l.length ≤ 24) (hfar : n < l.length) (he1 : ofE k z m o l = 0) (he2 : ofE k z m o (l.set n b) = 1) :
    Calls Try.prog 4 #[.agg #[.int .i64 k, .int .i64 z, .int .i64 m, .int .i64 o], v, .agg #[.int .i64 a, .int .i64 b]] w fun e w' => e = .returned (.bool true) ∧ Below w.heap.size w w' := by
  obtain ⟨A, C, rfl, hc1, hc2⟩ := id h.form
  have hL := fun w => alive14_any w
  have n1 : decide ((24 : Int) < (l.length : Int)) = false := decide_eq_false (by omega)
  have n2 : decide (24 < l.length) = false := decide_eq_false (by omega)
  have n3 : decide ((l.length : Int) ≤ (n : Int)) = false := decide_eq_false (by omega)
  have n4 : decide (l.length ≤ n) = false := decide_eq_false (by omega)
  have j0 : (0 : Int) ≤ (n : Int) := by omega
  have j1 : (n : Int) < (l.length : Int) := by omega
  obtain ⟨i0, hi0, hy0_, hy1_, hy2_⟩ := info_parts info_i64
  have hm := iset_in hi n hb
  have hml : (l.set n b).length = l.length := List.length_set ..
  obtain ⟨Z, rfl, z1, z2⟩ := size_of (ofE_zero he1).1
  have hO1 := fun w h => tof_any k Z m o (.slice A l.length C) l w h hi
  have hO2 := fun v w h => tof_any k Z m o v (l.set n b) w h hm
  have f1 : ofS k Z m o l = (k, (Z : Int), m, o, (((l).length : Nat) : Int), bksTo k Z m o l (partN (Z : Int).toNat (l).length)) := if_pos he1
  have f2 : ofS k Z m o (l.set n b) = (0, 0, 0, 0, 0, []) := if_neg (by rw [he2]; decide)
  rw [he1, f1] at hO1
  rw [he2, f2] at hO2
  generalize bksTo k (Z : Int) m o l (partN (Z : Int).toNat l.length) = bs at *
  clear he1 he2 f1 f2
  have hw0 := h
  obtain ⟨W0, hW, hT, hB⟩ := box2 w 23 37 #[.int .i64 k, .int .i64 Z, .int .i64 m, .int .i64 o] #[.int .i64 a, .int .i64 b]
  obtain ⟨g, hg⟩ : ∃ g, g = w.heap.size := ⟨_, rfl⟩
  have hW' := Lib.hid (And.intro hW hg)
  rw [← hg] at hT
  have hgw : w.heap.size ≤ g := by omega
  clear hW hg
  obtain ⟨hKp, hAr⟩ := hT
  replace h := h.below hB
  obtain ⟨c1_hKp_0, c1_hKp_1, c1_hKp_2, c1_hKp_3⟩ := hKp.quad
  obtain ⟨c1_hAr_0, c1_hAr_1⟩ := hAr.cells2
  go_enter Try.func4, Try.ntmps4
  have hBc := hB
  have hKc := hKp
  go_upto_region 4 with fail
  rw [← hW'.out.1, ← hW'.out.2]
  have own0 := World.ownsRow_lit W0 #[] 0 (base := W0.heap.size) (e := 2) (size := 1) (Nat.le_refl _) (by unfold maxLen; omega) rfl
  obtain ⟨A8, C8, e8, _, _, hR8⟩ := id h
  obtain ⟨rfl, _, rfl⟩ := Value.slice.inj e8
  have hAr2 := hAr.alloc (.cells #[] 2)
  go_upto_region 5 with (at_builtin; go_must (refine wpList_append_any _ rfl (.tmp 27) (.tmp 28) _ rfl W0.heap.size 2 i0 _ 1 8 Try.underlying24 hi0 hy0_ hy1_ hy2_ rfl (by omega) _ 0 [] rfl own0 W0.heap.size A l.length C (is l) rfl (hR8.alloc (Nat.le_refl _) _) (is_one _) (by unfold maxLen; omega) (by omega) (by simp) ?_; intro v' wm hown' hgrow hat9))
  rw [Nat.zero_add, List.nil_append] at hown'
  have bm : Below W0.heap.size W0 wm := ((Below.refl _ W0).alloc (Nat.le_refl _) _).grown hgrow (by simp) (fun g e => by cases e; exact Nat.le_refl _)
  clear hgrow hat9 own0 hR8 hAr2
  obtain ⟨gm, cm, cur_, rfl, hgm, hbm, hcm1, hcm2, hcm3, hcm4⟩ := own1_at hown' (by omega)
  clear hown' 
  replace h := h.below bm
  replace hKp := hKp.below bm hKp.lt
  replace hAr := hAr.below bm hAr.lt
  replace hB := hB.trans (bm.mono hB.size)
  clear c1_hKp_0 c1_hKp_1 c1_hKp_2 c1_hKp_3 c1_hAr_0 c1_hAr_1
  obtain ⟨c2_hKp_0, c2_hKp_1, c2_hKp_2, c2_hKp_3⟩ := hKp.quad
  obtain ⟨c2_hAr_0, c2_hAr_1⟩ := hAr.cells2
  have m0 := hbm.frozen n
  have m1 : wm.cell? ⟨gm, n, none⟩ = some cur_[n] := by rw [hbm.cell n]; exact Array.getElem?_eq_getElem (by omega)
  go_upto_region 6 with fail
  obtain ⟨w5, e5⟩ : ∃ w5, w5 = wm.setCell ⟨gm, n, none⟩ (.int .i64 b) := ⟨_, rfl⟩
  have hbm5 := hbm.set_ n (.int .i64 b)
  have hmv : IsI w5 (.slice (some ⟨gm, 0, none⟩) l.length cm) (l.set n b) := by rw [e5]; exact IsI.of_blk hbm5 hcm1 hcm2 (take_set_is hcm4 b) hml
  have hgl : w.heap.size ≤ gm := Nat.le_trans hBc.size hgm
  have hgk : g ≠ gm := by have := hKc.lt; omega
  have hB5 : Below w.heap.size w w5 := by rw [e5]; exact hB.setCell (p := ⟨gm, n, none⟩) hgl _
  have hKp5 : Blk w5 g 23 #[.int .i64 k, .int .i64 Z, .int .i64 m, .int .i64 o] := by rw [e5]; exact hKp.far (p := ⟨gm, n, none⟩) hgk _
  have h5 : IsI w5 (.slice A l.length C) l := hw0.below hB5
  have E5 := Lib.hid e5
  rw [← e5]
  clear e5 hbm5 hbm m0 m1 hcm1 hcm2 hcm3 hcm4 h hKp hAr hB hgl hgk
  replace h := h5
  replace hKp := hKp5
  replace hB := hB5
  clear h5 hKp5 hB5
  obtain ⟨c3_hKp_0, c3_hKp_1, c3_hKp_2, c3_hKp_3⟩ := hKp.quad
  go_wp2_with fail
  refine (hO1 _ h).mono ?_
  rintro e w1 ⟨s1, rfl, ⟨y1, rfl, hb1⟩, b1⟩
  replace h := h.below b1
  replace hKp := hKp.below b1 hKp.lt
  replace hmv := hmv.below b1
  replace hB := hB.trans (b1.mono hB.size)
  clear c3_hKp_0 c3_hKp_1 c3_hKp_2 c3_hKp_3
  obtain ⟨c4_hKp_0, c4_hKp_1, c4_hKp_2, c4_hKp_3⟩ := hKp.quad
  simp only at hb1
  obtain ⟨A1, C1, rfl, _, _⟩ := id hb1.len
  obtain ⟨V1, eV, hS1, bV1⟩ := box1 w1 28 #[.int .i64 k, .int .i64 Z, .int .i64 m, .int .i64 o, .int .i64 l.length, .slice A1 bs.length C1]
  obtain ⟨X1, eX⟩ : ∃ X, X = w1.heap.size := ⟨_, rfl⟩
  rw [← eX] at hS1
  have EV1 := Lib.hid (And.intro eV eX)
  clear eV eX
  go_upto_region 7 with fail
  rw [← EV1.out.1, ← EV1.out.2]
  replace h := h.below bV1
  replace hKp := hKp.below bV1 hKp.lt
  replace hmv := hmv.below bV1
  replace hb1 := hb1.below bV1
  replace hB := hB.trans (bV1.mono hB.size)
  clear c4_hKp_0 c4_hKp_1 c4_hKp_2 c4_hKp_3
  obtain ⟨c5_hKp_0, c5_hKp_1, c5_hKp_2, c5_hKp_3⟩ := hKp.quad
  clear c5_hKp_0 c5_hKp_1 c5_hKp_2 c5_hKp_3
  obtain ⟨c6_hKp_0, c6_hKp_1, c6_hKp_2, c6_hKp_3⟩ := hKp.quad
  obtain ⟨c6_hS1_0, c6_hS1_1, c6_hS1_2, c6_hS1_3, c6_hS1_4, c6_hS1_5⟩ := hS1.cells6
  go_wp2_with fail
  refine (hO2 _ _ hmv).mono ?_
  rintro e w2 ⟨s2, rfl, ⟨y2, rfl, hb2⟩, b2⟩
  replace h := h.below b2
  replace hKp := hKp.below b2 hKp.lt
  replace hmv := hmv.below b2
  replace hb1 := hb1.below b2
  replace hS1 := hS1.below b2 hS1.lt
  replace hB := hB.trans (b2.mono hB.size)
  clear c6_hKp_0 c6_hKp_1 c6_hKp_2 c6_hKp_3 c6_hS1_0 c6_hS1_1 c6_hS1_2 c6_hS1_3 c6_hS1_4 c6_hS1_5
  obtain ⟨c7_hKp_0, c7_hKp_1, c7_hKp_2, c7_hKp_3⟩ := hKp.quad
  obtain ⟨c7_hS1_0, c7_hS1_1, c7_hS1_2, c7_hS1_3, c7_hS1_4, c7_hS1_5⟩ := hS1.cells6
  simp only at hb2
  obtain ⟨A2, C2, rfl, _, _⟩ := id hb2.len
  obtain ⟨V2, eV, hS2, bV2⟩ := box1 w2 28 #[.int .i64 0, .int .i64 0, .int .i64 0, .int .i64 0, .int .i64 0, .slice A2 0 C2]
  obtain ⟨X2, eX⟩ : ∃ X, X = w2.heap.size := ⟨_, rfl⟩
  rw [← eX] at hS2
  have EV2 := Lib.hid (And.intro eV eX)
  clear eV eX
  go_upto_region 8 with fail
  rw [← EV2.out.1, ← EV2.out.2]
  replace h := h.below bV2
  replace hKp := hKp.below bV2 hKp.lt
  replace hmv := hmv.below bV2
  replace hb1 := hb1.below bV2
  replace hS1 := hS1.below bV2 hS1.lt
  replace hb2 := hb2.below bV2
  replace hB := hB.trans (bV2.mono hB.size)
  clear c7_hKp_0 c7_hKp_1 c7_hKp_2 c7_hKp_3 c7_hS1_0 c7_hS1_1 c7_hS1_2 c7_hS1_3 c7_hS1_4 c7_hS1_5
  obtain ⟨c8_hKp_0, c8_hKp_1, c8_hKp_2, c8_hKp_3⟩ := hKp.quad
  obtain ⟨c8_hS1_0, c8_hS1_1, c8_hS1_2, c8_hS1_3, c8_hS1_4, c8_hS1_5⟩ := hS1.cells6
  clear c8_hKp_0 c8_hKp_1 c8_hKp_2 c8_hKp_3 c8_hS1_0 c8_hS1_1 c8_hS1_2 c8_hS1_3 c8_hS1_4 c8_hS1_5
  obtain ⟨c9_hKp_0, c9_hKp_1, c9_hKp_2, c9_hKp_3⟩ := hKp.quad
  obtain ⟨c9_hS1_0, c9_hS1_1, c9_hS1_2, c9_hS1_3, c9_hS1_4, c9_hS1_5⟩ := hS1.cells6
  obtain ⟨c9_hS2_0, c9_hS2_1, c9_hS2_2, c9_hS2_3, c9_hS2_4, c9_hS2_5⟩ := hS2.cells6
  go_wp2_with fail
  refine (hL _).mono ?_
  rintro e w3 ⟨rfl, b3⟩
  replace h := h.below b3
  replace hKp := hKp.below b3 hKp.lt
  replace hmv := hmv.below b3
  replace hb1 := hb1.below b3
  replace hS1 := hS1.below b3 hS1.lt
  replace hb2 := hb2.below b3
  replace hS2 := hS2.below b3 hS2.lt
  replace hB := hB.trans (b3.mono hB.size)
  clear c9_hKp_0 c9_hKp_1 c9_hKp_2 c9_hKp_3 c9_hS1_0 c9_hS1_1 c9_hS1_2 c9_hS1_3 c9_hS1_4 c9_hS1_5 c9_hS2_0 c9_hS2_1 c9_hS2_2 c9_hS2_3 c9_hS2_4 c9_hS2_5
  obtain ⟨c10_hKp_0, c10_hKp_1, c10_hKp_2, c10_hKp_3⟩ := hKp.quad
  obtain ⟨c10_hS1_0, c10_hS1_1, c10_hS1_2, c10_hS1_3, c10_hS1_4, c10_hS1_5⟩ := hS1.cells6
  obtain ⟨c10_hS2_0, c10_hS2_1, c10_hS2_2, c10_hS2_3, c10_hS2_4, c10_hS2_5⟩ := hS2.cells6
  go_wp2
  go_ret
  exact ⟨rfl, hB⟩
set_option maxRecDepth 100000 in
set_option maxHeartbeats 8000000 in
theorem TensApart_01 (k z m o a b : Int) (v : Value) (l : List Int) (w : World) (h : IsI w v l) (hi : ∀ x ∈ l, I64 x) (hb : I64 b) (n : Nat) (hat : bits .and .i64 a 31 = (n : Int)) (hn : l.length ≤ 24) (hfar : n < l.length) (he1 : ofE k z m o l = 1) (he2 : ofE k z m o (l.set n b) = 0) :
    Calls Try.prog 4 #[.agg #[.int .i64 k, .int .i64 z, .int .i64 m, .int .i64 o], v, .agg #[.int .i64 a, .int .i64 b]] w fun e w' => e = .returned (.bool true) ∧ Below w.heap.size w w' := by
  obtain ⟨A, C, rfl, hc1, hc2⟩ := id h.form
  have hL := fun w => alive14_any w
  have n1 : decide ((24 : Int) < (l.length : Int)) = false := decide_eq_false (by omega)
  have n2 : decide (24 < l.length) = false := decide_eq_false (by omega)
  have n3 : decide ((l.length : Int) ≤ (n : Int)) = false := decide_eq_false (by omega)
  have n4 : decide (l.length ≤ n) = false := decide_eq_false (by omega)
  have j0 : (0 : Int) ≤ (n : Int) := by omega
  have j1 : (n : Int) < (l.length : Int) := by omega
  obtain ⟨i0, hi0, hy0_, hy1_, hy2_⟩ := info_parts info_i64
  have hm := iset_in hi n hb
  have hml : (l.set n b).length = l.length := List.length_set ..
  obtain ⟨Z, rfl, z1, z2⟩ := size_of (ofE_zero he2).1
  have hO1 := fun w h => tof_any k Z m o (.slice A l.length C) l w h hi
  have hO2 := fun v w h => tof_any k Z m o v (l.set n b) w h hm
  have f1 : ofS k Z m o l = (0, 0, 0, 0, 0, []) := if_neg (by rw [he1]; decide)
  have f2 : ofS k Z m o (l.set n b) = (k, (Z : Int), m, o, ((((l.set n b)).length : Nat) : Int), bksTo k Z m o (l.set n b) (partN (Z : Int).toNat ((l.set n b)).length)) := if_pos he2
  rw [he1, f1] at hO1
  rw [he2, f2] at hO2
  rw [hml] at hO2
  generalize bksTo k (Z : Int) m o (l.set n b) (partN (Z : Int).toNat l.length) = bs' at *
  clear he1 he2 f1 f2
  have hw0 := h
  obtain ⟨W0, hW, hT, hB⟩ := box2 w 23 37 #[.int .i64 k, .int .i64 Z, .int .i64 m, .int .i64 o] #[.int .i64 a, .int .i64 b]
  obtain ⟨g, hg⟩ : ∃ g, g = w.heap.size := ⟨_, rfl⟩
  have hW' := Lib.hid (And.intro hW hg)
  rw [← hg] at hT
  have hgw : w.heap.size ≤ g := by omega
  clear hW hg
  obtain ⟨hKp, hAr⟩ := hT
  replace h := h.below hB
  obtain ⟨c1_hKp_0, c1_hKp_1, c1_hKp_2, c1_hKp_3⟩ := hKp.quad
  obtain ⟨c1_hAr_0, c1_hAr_1⟩ := hAr.cells2
  go_enter Try.func4, Try.ntmps4
  have hBc := hB
  have hKc := hKp
  go_upto_region 4 with fail
  rw [← hW'.out.1, ← hW'.out.2]
  have own0 := World.ownsRow_lit W0 #[] 0 (base := W0.heap.size) (e := 2) (size := 1) (Nat.le_refl _) (by unfold maxLen; omega) rfl
  obtain ⟨A8, C8, e8, _, _, hR8⟩ := id h
  obtain ⟨rfl, _, rfl⟩ := Value.slice.inj e8
  have hAr2 := hAr.alloc (.cells #[] 2)
  go_upto_region 5 with (at_builtin; go_must (refine wpList_append_any _ rfl (.tmp 27) (.tmp 28) _ rfl W0.heap.size 2 i0 _ 1 8 Try.underlying24 hi0 hy0_ hy1_ hy2_ rfl (by omega) _ 0 [] rfl own0 W0.heap.size A l.length C (is l) rfl (hR8.alloc (Nat.le_refl _) _) (is_one _) (by unfold maxLen; omega) (by omega) (by simp) ?_; intro v' wm hown' hgrow hat9))
  rw [Nat.zero_add, List.nil_append] at hown'
  have bm : Below W0.heap.size W0 wm := ((Below.refl _ W0).alloc (Nat.le_refl _) _).grown hgrow (by simp) (fun g e => by cases e; exact Nat.le_refl _)
  clear hgrow hat9 own0 hR8 hAr2
  obtain ⟨gm, cm, cur_, rfl, hgm, hbm, hcm1, hcm2, hcm3, hcm4⟩ := own1_at hown' (by omega)
  clear hown' 
  replace h := h.below bm
  replace hKp := hKp.below bm hKp.lt
  replace hAr := hAr.below bm hAr.lt
  replace hB := hB.trans (bm.mono hB.size)
  clear c1_hKp_0 c1_hKp_1 c1_hKp_2 c1_hKp_3 c1_hAr_0 c1_hAr_1
  obtain ⟨c2_hKp_0, c2_hKp_1, c2_hKp_2, c2_hKp_3⟩ := hKp.quad
  obtain ⟨c2_hAr_0, c2_hAr_1⟩ := hAr.cells2
  have m0 := hbm.frozen n
  have m1 : wm.cell? ⟨gm, n, none⟩ = some cur_[n] := by rw [hbm.cell n]; exact Array.getElem?_eq_getElem (by omega)
  go_upto_region 6 with fail
  obtain ⟨w5, e5⟩ : ∃ w5, w5 = wm.setCell ⟨gm, n, none⟩ (.int .i64 b) := ⟨_, rfl⟩
  have hbm5 := hbm.set_ n (.int .i64 b)
  have hmv : IsI w5 (.slice (some ⟨gm, 0, none⟩) l.length cm) (l.set n b) := by rw [e5]; exact IsI.of_blk hbm5 hcm1 hcm2 (take_set_is hcm4 b) hml
  have hgl : w.heap.size ≤ gm := Nat.le_trans hBc.size hgm
  have hgk : g ≠ gm := by have := hKc.lt; omega
  have hB5 : Below w.heap.size w w5 := by rw [e5]; exact hB.setCell (p := ⟨gm, n, none⟩) hgl _
  have hKp5 : Blk w5 g 23 #[.int .i64 k, .int .i64 Z, .int .i64 m, .int .i64 o] := by rw [e5]; exact hKp.far (p := ⟨gm, n, none⟩) hgk _
  have h5 : IsI w5 (.slice A l.length C) l := hw0.below hB5
  have E5 := Lib.hid e5
  rw [← e5]
  clear e5 hbm5 hbm m0 m1 hcm1 hcm2 hcm3 hcm4 h hKp hAr hB hgl hgk
  replace h := h5
  replace hKp := hKp5
  replace hB := hB5
  clear h5 hKp5 hB5
  obtain ⟨c3_hKp_0, c3_hKp_1, c3_hKp_2, c3_hKp_3⟩ := hKp.quad
  go_wp2_with fail
  refine (hO1 _ h).mono ?_
  rintro e w1 ⟨s1, rfl, ⟨y1, rfl, hb1⟩, b1⟩
  replace h := h.below b1
  replace hKp := hKp.below b1 hKp.lt
  replace hmv := hmv.below b1
  replace hB := hB.trans (b1.mono hB.size)
  clear c3_hKp_0 c3_hKp_1 c3_hKp_2 c3_hKp_3
  obtain ⟨c4_hKp_0, c4_hKp_1, c4_hKp_2, c4_hKp_3⟩ := hKp.quad
  simp only at hb1
  obtain ⟨A1, C1, rfl, _, _⟩ := id hb1.len
  obtain ⟨V1, eV, hS1, bV1⟩ := box1 w1 28 #[.int .i64 0, .int .i64 0, .int .i64 0, .int .i64 0, .int .i64 0, .slice A1 0 C1]
  obtain ⟨X1, eX⟩ : ∃ X, X = w1.heap.size := ⟨_, rfl⟩
  rw [← eX] at hS1
  have EV1 := Lib.hid (And.intro eV eX)
  clear eV eX
  go_upto_region 7 with fail
  rw [← EV1.out.1, ← EV1.out.2]
  replace h := h.below bV1
  replace hKp := hKp.below bV1 hKp.lt
  replace hmv := hmv.below bV1
  replace hb1 := hb1.below bV1
  replace hB := hB.trans (bV1.mono hB.size)
  clear c4_hKp_0 c4_hKp_1 c4_hKp_2 c4_hKp_3
  obtain ⟨c5_hKp_0, c5_hKp_1, c5_hKp_2, c5_hKp_3⟩ := hKp.quad
  clear c5_hKp_0 c5_hKp_1 c5_hKp_2 c5_hKp_3
  obtain ⟨c6_hKp_0, c6_hKp_1, c6_hKp_2, c6_hKp_3⟩ := hKp.quad
  obtain ⟨c6_hS1_0, c6_hS1_1, c6_hS1_2, c6_hS1_3, c6_hS1_4, c6_hS1_5⟩ := hS1.cells6
  go_wp2_with fail
  refine (hO2 _ _ hmv).mono ?_
  rintro e w2 ⟨s2, rfl, ⟨y2, rfl, hb2⟩, b2⟩
  replace h := h.below b2
  replace hKp := hKp.below b2 hKp.lt
  replace hmv := hmv.below b2
  replace hb1 := hb1.below b2
  replace hS1 := hS1.below b2 hS1.lt
  replace hB := hB.trans (b2.mono hB.size)
  clear c6_hKp_0 c6_hKp_1 c6_hKp_2 c6_hKp_3 c6_hS1_0 c6_hS1_1 c6_hS1_2 c6_hS1_3 c6_hS1_4 c6_hS1_5
  obtain ⟨c7_hKp_0, c7_hKp_1, c7_hKp_2, c7_hKp_3⟩ := hKp.quad
  obtain ⟨c7_hS1_0, c7_hS1_1, c7_hS1_2, c7_hS1_3, c7_hS1_4, c7_hS1_5⟩ := hS1.cells6
  simp only at hb2
  obtain ⟨A2, C2, rfl, _, _⟩ := id hb2.len
  obtain ⟨V2, eV, hS2, bV2⟩ := box1 w2 28 #[.int .i64 k, .int .i64 Z, .int .i64 m, .int .i64 o, .int .i64 l.length, .slice A2 bs'.length C2]
  obtain ⟨X2, eX⟩ : ∃ X, X = w2.heap.size := ⟨_, rfl⟩
  rw [← eX] at hS2
  have EV2 := Lib.hid (And.intro eV eX)
  clear eV eX
  go_upto_region 8 with fail
  rw [← EV2.out.1, ← EV2.out.2]
  replace h := h.below bV2
  replace hKp := hKp.below bV2 hKp.lt
  replace hmv := hmv.below bV2
  replace hb1 := hb1.below bV2
  replace hS1 := hS1.below bV2 hS1.lt
  replace hb2 := hb2.below bV2
  replace hB := hB.trans (bV2.mono hB.size)
  clear c7_hKp_0 c7_hKp_1 c7_hKp_2 c7_hKp_3 c7_hS1_0 c7_hS1_1 c7_hS1_2 c7_hS1_3 c7_hS1_4 c7_hS1_5
  obtain ⟨c8_hKp_0, c8_hKp_1, c8_hKp_2, c8_hKp_3⟩ := hKp.quad
  obtain ⟨c8_hS1_0, c8_hS1_1, c8_hS1_2, c8_hS1_3, c8_hS1_4, c8_hS1_5⟩ := hS1.cells6
  clear c8_hKp_0 c8_hKp_1 c8_hKp_2 c8_hKp_3 c8_hS1_0 c8_hS1_1 c8_hS1_2 c8_hS1_3 c8_hS1_4 c8_hS1_5
  obtain ⟨c9_hKp_0, c9_hKp_1, c9_hKp_2, c9_hKp_3⟩ := hKp.quad
  obtain ⟨c9_hS1_0, c9_hS1_1, c9_hS1_2, c9_hS1_3, c9_hS1_4, c9_hS1_5⟩ := hS1.cells6
  obtain ⟨c9_hS2_0, c9_hS2_1, c9_hS2_2, c9_hS2_3, c9_hS2_4, c9_hS2_5⟩ := hS2.cells6
  go_wp2_with fail
  refine (hL _).mono ?_
  rintro e w3 ⟨rfl, b3⟩
  replace h := h.below b3
  replace hKp := hKp.below b3 hKp.lt
  replace hmv := hmv.below b3
  replace hb1 := hb1.below b3
  replace hS1 := hS1.below b3 hS1.lt
  replace hb2 := hb2.below b3
  replace hS2 := hS2.below b3 hS2.lt
  replace hB := hB.trans (b3.mono hB.size)
  clear c9_hKp_0 c9_hKp_1 c9_hKp_2 c9_hKp_3 c9_hS1_0 c9_hS1_1 c9_hS1_2 c9_hS1_3 c9_hS1_4 c9_hS1_5 c9_hS2_0 c9_hS2_1 c9_hS2_2 c9_hS2_3 c9_hS2_4 c9_hS2_5
  obtain ⟨c10_hKp_0, c10_hKp_1, c10_hKp_2, c10_hKp_3⟩ := hKp.quad
  obtain ⟨c10_hS1_0, c10_hS1_1, c10_hS1_2, c10_hS1_3, c10_hS1_4, c10_hS1_5⟩ := hS1.cells6
  obtain ⟨c10_hS2_0, c10_hS2_1, c10_hS2_2, c10_hS2_3, c10_hS2_4, c10_hS2_5⟩ := hS2.cells6
  go_wp2
  go_ret
  exact ⟨rfl, hB⟩
set_option maxRecDepth 100000 in
set_option maxHeartbeats 8000000 in
theorem TensApart_00 (k z m o a b : Int) (v : Value) (l : List Int) (w : World) (h : IsI w v l) (hi : ∀ x ∈ l, I64 x) (hb : I64 b) (n : Nat) (hat : bits .and .i64 a 31 = (n : Int)) (hn : l.length ≤ 24) (hfar : n < l.length) (he1 : ofE k z m o l = 1) (he2 : ofE k z m o (l.set n b) = 1) :
    Calls Try.prog 4 #[.agg #[.int .i64 k, .int .i64 z, .int .i64 m, .int .i64 o], v, .agg #[.int .i64 a, .int .i64 b]] w fun e w' => e = .returned (.bool true) ∧ Below w.heap.size w w' := by
  obtain ⟨A, C, rfl, hc1, hc2⟩ := id h.form
  have hL := fun w => alive14_any w
  have n1 : decide ((24 : Int) < (l.length : Int)) = false := decide_eq_false (by omega)
  have n2 : decide (24 < l.length) = false := decide_eq_false (by omega)
  have n3 : decide ((l.length : Int) ≤ (n : Int)) = false := decide_eq_false (by omega)
  have n4 : decide (l.length ≤ n) = false := decide_eq_false (by omega)
  have j0 : (0 : Int) ≤ (n : Int) := by omega
  have j1 : (n : Int) < (l.length : Int) := by omega
  obtain ⟨i0, hi0, hy0_, hy1_, hy2_⟩ := info_parts info_i64
  have hm := iset_in hi n hb
  have hml : (l.set n b).length = l.length := List.length_set ..
  obtain ⟨Z, rfl⟩ : ∃ Z : Int, Z = z := ⟨_, rfl⟩
  have hO1 := fun w h => tof_any k Z m o (.slice A l.length C) l w h hi
  have hO2 := fun v w h => tof_any k Z m o v (l.set n b) w h hm
  have f1 : ofS k Z m o l = (0, 0, 0, 0, 0, []) := if_neg (by rw [he1]; decide)
  have f2 : ofS k Z m o (l.set n b) = (0, 0, 0, 0, 0, []) := if_neg (by rw [he2]; decide)
  rw [he1, f1] at hO1
  rw [he2, f2] at hO2
  clear he1 he2 f1 f2
  have hw0 := h
  obtain ⟨W0, hW, hT, hB⟩ := box2 w 23 37 #[.int .i64 k, .int .i64 Z, .int .i64 m, .int .i64 o] #[.int .i64 a, .int .i64 b]
  obtain ⟨g, hg⟩ : ∃ g, g = w.heap.size := ⟨_, rfl⟩
  have hW' := Lib.hid (And.intro hW hg)
  rw [← hg] at hT
  have hgw : w.heap.size ≤ g := by omega
  clear hW hg
  obtain ⟨hKp, hAr⟩ := hT
  replace h := h.below hB
  obtain ⟨c1_hKp_0, c1_hKp_1, c1_hKp_2, c1_hKp_3⟩ := hKp.quad
  obtain ⟨c1_hAr_0, c1_hAr_1⟩ := hAr.cells2
  go_enter Try.func4, Try.ntmps4
  have hBc := hB
  have hKc := hKp
  go_upto_region 4 with fail
  rw [← hW'.out.1, ← hW'.out.2]
  have own0 := World.ownsRow_lit W0 #[] 0 (base := W0.heap.size) (e := 2) (size := 1) (Nat.le_refl _) (by unfold maxLen; omega) rfl
  obtain ⟨A8, C8, e8, _, _, hR8⟩ := id h
  obtain ⟨rfl, _, rfl⟩ := Value.slice.inj e8
  have hAr2 := hAr.alloc (.cells #[] 2)
  go_upto_region 5 with (at_builtin; go_must (refine wpList_append_any _ rfl (.tmp 27) (.tmp 28) _ rfl W0.heap.size 2 i0 _ 1 8 Try.underlying24 hi0 hy0_ hy1_ hy2_ rfl (by omega) _ 0 [] rfl own0 W0.heap.size A l.length C (is l) rfl (hR8.alloc (Nat.le_refl _) _) (is_one _) (by unfold maxLen; omega) (by omega) (by simp) ?_; intro v' wm hown' hgrow hat9))
  rw [Nat.zero_add, List.nil_append] at hown'
  have bm : Below W0.heap.size W0 wm := ((Below.refl _ W0).alloc (Nat.le_refl _) _).grown hgrow (by simp) (fun g e => by cases e; exact Nat.le_refl _)
  clear hgrow hat9 own0 hR8 hAr2
  obtain ⟨gm, cm, cur_, rfl, hgm, hbm, hcm1, hcm2, hcm3, hcm4⟩ := own1_at hown' (by omega)
  clear hown' 
  replace h := h.below bm
  replace hKp := hKp.below bm hKp.lt
  replace hAr := hAr.below bm hAr.lt
  replace hB := hB.trans (bm.mono hB.size)
  clear c1_hKp_0 c1_hKp_1 c1_hKp_2 c1_hKp_3 c1_hAr_0 c1_hAr_1
  obtain ⟨c2_hKp_0, c2_hKp_1, c2_hKp_2, c2_hKp_3⟩ := hKp.quad
  obtain ⟨c2_hAr_0, c2_hAr_1⟩ := hAr.cells2
  have m0 := hbm.frozen n
  have m1 : wm.cell? ⟨gm, n, none⟩ = some cur_[n] := by rw [hbm.cell n]; exact Array.getElem?_eq_getElem (by omega)
  go_upto_region 6 with fail
  obtain ⟨w5, e5⟩ : ∃ w5, w5 = wm.setCell ⟨gm, n, none⟩ (.int .i64 b) := ⟨_, rfl⟩
  have hbm5 := hbm.set_ n (.int .i64 b)
  have hmv : IsI w5 (.slice (some ⟨gm, 0, none⟩) l.length cm) (l.set n b) := by rw [e5]; exact IsI.of_blk hbm5 hcm1 hcm2 (take_set_is hcm4 b) hml
  have hgl : w.heap.size ≤ gm := Nat.le_trans hBc.size hgm
  have hgk : g ≠ gm := by have := hKc.lt; omega
  have hB5 : Below w.heap.size w w5 := by rw [e5]; exact hB.setCell (p := ⟨gm, n, none⟩) hgl _
  have hKp5 : Blk w5 g 23 #[.int .i64 k, .int .i64 Z, .int .i64 m, .int .i64 o] := by rw [e5]; exact hKp.far (p := ⟨gm, n, none⟩) hgk _
  have h5 : IsI w5 (.slice A l.length C) l := hw0.below hB5
  have E5 := Lib.hid e5
  rw [← e5]
  clear e5 hbm5 hbm m0 m1 hcm1 hcm2 hcm3 hcm4 h hKp hAr hB hgl hgk
  replace h := h5
  replace hKp := hKp5
  replace hB := hB5
  clear h5 hKp5 hB5
  obtain ⟨c3_hKp_0, c3_hKp_1, c3_hKp_2, c3_hKp_3⟩ := hKp.quad
  go_wp2_with fail
  refine (hO1 _ h).mono ?_
  rintro e w1 ⟨s1, rfl, ⟨y1, rfl, hb1⟩, b1⟩
  replace h := h.below b1
  replace hKp := hKp.below b1 hKp.lt
  replace hmv := hmv.below b1
  replace hB := hB.trans (b1.mono hB.size)
  clear c3_hKp_0 c3_hKp_1 c3_hKp_2 c3_hKp_3
  obtain ⟨c4_hKp_0, c4_hKp_1, c4_hKp_2, c4_hKp_3⟩ := hKp.quad
  simp only at hb1
  obtain ⟨A1, C1, rfl, _, _⟩ := id hb1.len
  obtain ⟨V1, eV, hS1, bV1⟩ := box1 w1 28 #[.int .i64 0, .int .i64 0, .int .i64 0, .int .i64 0, .int .i64 0, .slice A1 0 C1]
  obtain ⟨X1, eX⟩ : ∃ X, X = w1.heap.size := ⟨_, rfl⟩
  rw [← eX] at hS1
  have EV1 := Lib.hid (And.intro eV eX)
  clear eV eX
  go_upto_region 7 with fail
  rw [← EV1.out.1, ← EV1.out.2]
  replace h := h.below bV1
  replace hKp := hKp.below bV1 hKp.lt
  replace hmv := hmv.below bV1
  replace hb1 := hb1.below bV1
  replace hB := hB.trans (bV1.mono hB.size)
  clear c4_hKp_0 c4_hKp_1 c4_hKp_2 c4_hKp_3
  obtain ⟨c5_hKp_0, c5_hKp_1, c5_hKp_2, c5_hKp_3⟩ := hKp.quad
  clear c5_hKp_0 c5_hKp_1 c5_hKp_2 c5_hKp_3
  obtain ⟨c6_hKp_0, c6_hKp_1, c6_hKp_2, c6_hKp_3⟩ := hKp.quad
  obtain ⟨c6_hS1_0, c6_hS1_1, c6_hS1_2, c6_hS1_3, c6_hS1_4, c6_hS1_5⟩ := hS1.cells6
  go_wp2_with fail
  refine (hO2 _ _ hmv).mono ?_
  rintro e w2 ⟨s2, rfl, ⟨y2, rfl, hb2⟩, b2⟩
  replace h := h.below b2
  replace hKp := hKp.below b2 hKp.lt
  replace hmv := hmv.below b2
  replace hb1 := hb1.below b2
  replace hS1 := hS1.below b2 hS1.lt
  replace hB := hB.trans (b2.mono hB.size)
  clear c6_hKp_0 c6_hKp_1 c6_hKp_2 c6_hKp_3 c6_hS1_0 c6_hS1_1 c6_hS1_2 c6_hS1_3 c6_hS1_4 c6_hS1_5
  obtain ⟨c7_hKp_0, c7_hKp_1, c7_hKp_2, c7_hKp_3⟩ := hKp.quad
  obtain ⟨c7_hS1_0, c7_hS1_1, c7_hS1_2, c7_hS1_3, c7_hS1_4, c7_hS1_5⟩ := hS1.cells6
  simp only at hb2
  obtain ⟨A2, C2, rfl, _, _⟩ := id hb2.len
  obtain ⟨V2, eV, hS2, bV2⟩ := box1 w2 28 #[.int .i64 0, .int .i64 0, .int .i64 0, .int .i64 0, .int .i64 0, .slice A2 0 C2]
  obtain ⟨X2, eX⟩ : ∃ X, X = w2.heap.size := ⟨_, rfl⟩
  rw [← eX] at hS2
  have EV2 := Lib.hid (And.intro eV eX)
  clear eV eX
  go_upto_region 8 with fail
  rw [← EV2.out.1, ← EV2.out.2]
  replace h := h.below bV2
  replace hKp := hKp.below bV2 hKp.lt
  replace hmv := hmv.below bV2
  replace hb1 := hb1.below bV2
  replace hS1 := hS1.below bV2 hS1.lt
  replace hb2 := hb2.below bV2
  replace hB := hB.trans (bV2.mono hB.size)
  clear c7_hKp_0 c7_hKp_1 c7_hKp_2 c7_hKp_3 c7_hS1_0 c7_hS1_1 c7_hS1_2 c7_hS1_3 c7_hS1_4 c7_hS1_5
  obtain ⟨c8_hKp_0, c8_hKp_1, c8_hKp_2, c8_hKp_3⟩ := hKp.quad
  obtain ⟨c8_hS1_0, c8_hS1_1, c8_hS1_2, c8_hS1_3, c8_hS1_4, c8_hS1_5⟩ := hS1.cells6
  clear c8_hKp_0 c8_hKp_1 c8_hKp_2 c8_hKp_3 c8_hS1_0 c8_hS1_1 c8_hS1_2 c8_hS1_3 c8_hS1_4 c8_hS1_5
  obtain ⟨c9_hKp_0, c9_hKp_1, c9_hKp_2, c9_hKp_3⟩ := hKp.quad
  obtain ⟨c9_hS1_0, c9_hS1_1, c9_hS1_2, c9_hS1_3, c9_hS1_4, c9_hS1_5⟩ := hS1.cells6
  obtain ⟨c9_hS2_0, c9_hS2_1, c9_hS2_2, c9_hS2_3, c9_hS2_4, c9_hS2_5⟩ := hS2.cells6
  go_wp2_with fail
  refine (hL _).mono ?_
  rintro e w3 ⟨rfl, b3⟩
  replace h := h.below b3
  replace hKp := hKp.below b3 hKp.lt
  replace hmv := hmv.below b3
  replace hb1 := hb1.below b3
  replace hS1 := hS1.below b3 hS1.lt
  replace hb2 := hb2.below b3
  replace hS2 := hS2.below b3 hS2.lt
  replace hB := hB.trans (b3.mono hB.size)
  clear c9_hKp_0 c9_hKp_1 c9_hKp_2 c9_hKp_3 c9_hS1_0 c9_hS1_1 c9_hS1_2 c9_hS1_3 c9_hS1_4 c9_hS1_5 c9_hS2_0 c9_hS2_1 c9_hS2_2 c9_hS2_3 c9_hS2_4 c9_hS2_5
  obtain ⟨c10_hKp_0, c10_hKp_1, c10_hKp_2, c10_hKp_3⟩ := hKp.quad
  obtain ⟨c10_hS1_0, c10_hS1_1, c10_hS1_2, c10_hS1_3, c10_hS1_4, c10_hS1_5⟩ := hS1.cells6
  obtain ⟨c10_hS2_0, c10_hS2_1, c10_hS2_2, c10_hS2_3, c10_hS2_4, c10_hS2_5⟩ := hS2.cells6
  go_wp2
  go_ret
  exact ⟨rfl, hB⟩
theorem TensApart_all (k z m o a b : Int) (v : Value) (l : List Int) (w : World) (h : IsI w v l) (hi : ∀ x ∈ l, I64 x) (hb : I64 b) :
    Calls Try.prog 4 #[.agg #[.int .i64 k, .int .i64 z, .int .i64 m, .int .i64 o], v, .agg #[.int .i64 a, .int .i64 b]] w fun e w' => e = .returned (.bool true) ∧ Below w.heap.size w w' := by
  obtain ⟨n, hat, hn31⟩ := and31 a
  by_cases hn : l.length ≤ 24
  · by_cases hfar : n < l.length
    · rcases ofE_cases (k := k) (z := z) (m := m) (o := o) (l := l) (by omega) with e1 | e1
      · rcases ofE_cases (k := k) (z := z) (m := m) (o := o) (l := l.set n b) (by rw [List.length_set]; omega) with e2 | e2
        · exact TensApart_11 k z m o a b v l w h hi hb n hat hn hfar e1 e2
        · exact TensApart_10 k z m o a b v l w h hi hb n hat hn hfar e1 e2
      · rcases ofE_cases (k := k) (z := z) (m := m) (o := o) (l := l.set n b) (by rw [List.length_set]; omega) with e2 | e2
        · exact TensApart_01 k z m o a b v l w h hi hb n hat hn hfar e1 e2
        · exact TensApart_00 k z m o a b v l w h hi hb n hat hn hfar e1 e2
    · exact TensApart_far k z m o a b v l w h hi hb n hat hn hfar
  · exact TensApart_many k z m o a b v l w h hi hb n hat hn
end Go.Proofs.Ytochabikpaoalaa
