/- The reference of layer 14: Of. Printed by gen_ref14o.py. -/
import Derived.Test.YtochabikpaoalaaGreatRef11p
import Derived.Test.YtochabikpaoalaaGreatRef14r
import Derived.Test.YtochabikpaoalaaGreatTensL
import Derived.Deep.RegionHeld3
import Derived.Deep.DeepMust
namespace Go.Proofs.YtochabikpaoalaaGreat
open Go.RowKit
attribute [local go_sem ↓] Go.wp_at_zero Go.wp_at_succ


theorem run_min2_int {P : Program} (t : Array TypeId) (y : TypeId) (W : World) (a b : Int) : (Builtin.min_ t y #[.int .i64 a, .int .i64 b]).run P W = .ok (.int .i64 (min a b)) W := by
  by_cases h : b < a
  · rw [Int.min_eq_right (by omega)]; simp [Builtin.min_, Builtin.min2, h]
  · rw [Int.min_eq_left (by omega)]; simp [Builtin.min_, Builtin.min2, h]
theorem IsI.part2 {w : World} {A : Option Addr} {c z i : Nat} {l : List Int} (h : IsI w (.slice A l.length c) l) (hi : i * z < l.length) : IsI w (.slice (A.map fun ad => ad.add (i * z)) (min z (l.length - i * z)) (c - i * z)) (partZ z l i) := by
  obtain ⟨A', c', e, h1, h2, hr⟩ := h
  obtain ⟨rfl, _, rfl⟩ := Value.slice.inj e
  obtain ⟨ad, rfl, hb, hc⟩ := hr.2 (by omega)
  have hl := partZ_len z l i
  refine ⟨some (ad.add (i * z)), c - i * z, by rw [hl]; rfl, by rw [hl]; omega, by omega, by rw [is_len, Nat.mul_one], fun h0 => ⟨_, rfl, by rw [block_of_add]; exact hb, fun j u hu => ?_⟩⟩
  have hj : j < (partZ z l i).length := by
    rcases Nat.lt_or_ge j (partZ z l i).length with h' | h'
    · exact h'
    · rw [List.getElem?_eq_none (by rw [is_len]; exact h')] at hu; cases hu
  rw [is_at _ j hj] at hu
  obtain rfl := Option.some.inj hu
  rw [add_of_add]
  have hjz : j < z := by rw [hl] at hj; omega
  have hil : i * z + j < l.length := by rw [hl] at hj; omega
  have := hc (i * z + j) _ (is_at l (i * z + j) hil)
  rw [this]
  have e2 : iat (partZ z l i) j = iat l (i * z + j) := by unfold iat; rw [partZ_at z l i j hjz]
  rw [e2]
theorem put6 {w w0 : World} {R B0 : Nat} {t : TypeId} {x0 x1 x2 x3 x4 x5 : Value} (hz : Blk w R t #[x0, x1, x2, x3, x4, x5]) (a b c d e f : Value) (hB : Below B0 w0 w) (hR : B0 ≤ R) :
    Blk ((((((w.setCell ⟨R, 0, none⟩ a).setCell ⟨R, 1, none⟩ b).setCell ⟨R, 2, none⟩ c).setCell ⟨R, 3, none⟩ d).setCell ⟨R, 4, none⟩ e).setCell ⟨R, 5, none⟩ f) R t #[a, b, c, d, e, f] ∧
    (∀ b_ fl_ v_ bs_, OwnBs w b_ fl_ v_ bs_ → R < b_ → R < fl_ → OwnBs ((((((w.setCell ⟨R, 0, none⟩ a).setCell ⟨R, 1, none⟩ b).setCell ⟨R, 2, none⟩ c).setCell ⟨R, 3, none⟩ d).setCell ⟨R, 4, none⟩ e).setCell ⟨R, 5, none⟩ f) b_ fl_ v_ bs_) ∧
    Below B0 w0 ((((((w.setCell ⟨R, 0, none⟩ a).setCell ⟨R, 1, none⟩ b).setCell ⟨R, 2, none⟩ c).setCell ⟨R, 3, none⟩ d).setCell ⟨R, 4, none⟩ e).setCell ⟨R, 5, none⟩ f) := by
  refine ⟨?_, fun b_ fl_ v_ bs_ h h1 h2 => (((((h.set h1 h2 _).set h1 h2 _).set h1 h2 _).set h1 h2 _).set h1 h2 _).set h1 h2 _, bset (bset (bset (bset (bset (bset hB hR _) hR _) hR _) hR _) hR _) hR _⟩
  have := (((((hz.set_ 0 a).set_ 1 b).set_ 2 c).set_ 3 d).set_ 4 e).set_ 5 f
  simpa using this
theorem rzeroSt (w : World) : IsSt w (.agg #[.int .i64 0, .int .i64 0, .int .i64 0, .int .i64 0, .int .i64 0, .slice none 0 0]) (0, 0, 0, 0, 0, []) := ⟨_, rfl, IsBs.nil w⟩
/-- a least number makes a part odd, whatever its kind -/
theorem oddP_least {kk : Int} {p : List Int} (h : (-9223372036854775808 : Int) ∈ p) : oddP kk p = true := List.any_eq_true.2 ⟨_, h, by unfold oddB; simp⟩
theorem of_bad {k m o : Int} {Z : Nat} {l : List Int} (hmay : mayB k Z m o = true) (hl : l.length ≤ 4096) (h : oddTo k Z m o l (partN Z l.length) = true) : ofE k Z m o l = 1 ∧ ofS k Z m o l = (0, 0, 0, 0, 0, []) := by
  have he : ofE k Z m o l = 1 := by unfold ofE; rw [if_pos hmay, if_pos hl, Int.toNat_natCast, h]; rfl
  exact ⟨he, if_neg (by rw [he]; decide)⟩
theorem of_good {k m o : Int} {Z : Nat} {l : List Int} (hmay : mayB k Z m o = true) (hl : l.length ≤ 4096) (h : oddTo k Z m o l (partN Z l.length) = false) : ofE k Z m o l = 0 ∧ ofS k Z m o l = (k, (Z : Int), m, o, (l.length : Int), bksTo k Z m o l (partN Z l.length)) := by
  have he : ofE k Z m o l = 0 := by unfold ofE; rw [if_pos hmay, if_pos hl, Int.toNat_natCast, h]; rfl
  exact ⟨he, by unfold ofS; rw [if_pos he, Int.toNat_natCast]⟩
theorem oddTo_all {k m o : Int} {Z : Nat} {l : List Int} {j N : Nat} (h : oddTo k Z m o l (j + 1) = true) (hj : j < N) : oddTo k Z m o l N = true := oddTo_mono h hj
set_option maxRecDepth 100000 in
set_option maxHeartbeats 8000000 in
theorem rof_may (k z m o : Int) (A : Option Addr) (c : Nat) (l : List Int) (w : World) (h : IsI w (.slice A l.length c) l) (hm : mayB k z m o = false) :
    Calls Tryz.prog 20 #[.agg #[.int .i64 k, .int .i64 z, .int .i64 m, .int .i64 o], .slice A l.length c] w fun e w' => ∃ s, e = .returned (.tuple #[s, .int .i64 (1)]) ∧ IsSt w' s (0, 0, 0, 0, 0, []) ∧ Below w.heap.size w w' := by
  have hM := fun w => rmay14_any k z m o w
  rw [hm] at hM
  obtain ⟨W0, hW, hT, hB⟩ := box2 w 23 26 #[.int .i64 k, .int .i64 z, .int .i64 m, .int .i64 o] #[.int .i64 0, .int .i64 0, .int .i64 0, .int .i64 0, .int .i64 0, .slice none 0 0]
  obtain ⟨g, hg⟩ : ∃ g, g = w.heap.size := ⟨_, rfl⟩
  have hW' := Lib.hid (And.intro hW hg)
  rw [← hg] at hT
  have hgw : w.heap.size ≤ g := by omega
  clear hW hg
  obtain ⟨hKp, hR⟩ := hT
  replace h := h.below hB
  obtain ⟨c1_hKp_0, c1_hKp_1, c1_hKp_2, c1_hKp_3⟩ := hKp.quad
  obtain ⟨c1_hR_0, c1_hR_1, c1_hR_2, c1_hR_3, c1_hR_4, c1_hR_5⟩ := hR.cells6
  go_enter Tryz.func20, Tryz.ntmps20
  go_wp2_with fail
  rw [← hW'.out.1, ← hW'.out.2]
  refine (hM _).mono ?_
  rintro e w1 ⟨rfl, b1⟩
  replace h := h.below b1
  replace hKp := hKp.below b1 hKp.lt
  replace hR := hR.below b1 hR.lt
  replace hB := hB.trans (b1.mono hB.size)
  clear c1_hKp_0 c1_hKp_1 c1_hKp_2 c1_hKp_3 c1_hR_0 c1_hR_1 c1_hR_2 c1_hR_3 c1_hR_4 c1_hR_5
  obtain ⟨c2_hKp_0, c2_hKp_1, c2_hKp_2, c2_hKp_3⟩ := hKp.quad
  obtain ⟨c2_hR_0, c2_hR_1, c2_hR_2, c2_hR_3, c2_hR_4, c2_hR_5⟩ := hR.cells6
  obtain ⟨p1, p2, p3⟩ := put6 hR (.int .i64 0) (.int .i64 0) (.int .i64 0) (.int .i64 0) (.int .i64 0) (.slice none 0 0) hB (by omega)
  have q0 := hR.cell 0
  have z0 := hR.frozen 0
  have q1 := hR.cell 1
  have z1 := hR.frozen 1
  have q2 := hR.cell 2
  have z2 := hR.frozen 2
  have q3 := hR.cell 3
  have z3 := hR.frozen 3
  have q4 := hR.cell 4
  have z4 := hR.frozen 4
  have q5 := hR.cell 5
  have z5 := hR.frozen 5
  have P := Lib.hid (And.intro trivial (And.intro p3 p1.cells6))
  clear p1 p2 p3 
  go_wp2_with fail
  obtain ⟨P1, P2, P3, P4, P5, P6, P7, P8⟩ := P.out
  exact bodyPost_ret (v := .tuple #[.agg #[.int .i64 0, .int .i64 0, .int .i64 0, .int .i64 0, .int .i64 0, .slice none 0 0], .int .i64 1]) (by simp [results, Tryz.results20, go_sem, P3, P4, P5, P6, P7, P8, q0, q1, q2, q3, q4, q5]) rfl ⟨_, rfl, rzeroSt _, P2⟩
set_option maxRecDepth 100000 in
set_option maxHeartbeats 8000000 in
theorem rof_large (k z m o : Int) (A : Option Addr) (c : Nat) (l : List Int) (w : World) (h : IsI w (.slice A l.length c) l) (hm : mayB k z m o = true) (hl : ¬ l.length ≤ 4096) :
    Calls Tryz.prog 20 #[.agg #[.int .i64 k, .int .i64 z, .int .i64 m, .int .i64 o], .slice A l.length c] w fun e w' => ∃ s, e = .returned (.tuple #[s, .int .i64 (6)]) ∧ IsSt w' s (0, 0, 0, 0, 0, []) ∧ Below w.heap.size w w' := by
  have hM := fun w => rmay14_any k z m o w
  rw [hm] at hM
  have hl1 : decide ((4096 : Int) < (l.length : Int)) = true := decide_eq_true (by omega)
  have hl2 : decide (4096 < l.length) = true := decide_eq_true (by omega)
  have hl3 : 4096 < l.length := by omega
  obtain ⟨W0, hW, hT, hB⟩ := box2 w 23 26 #[.int .i64 k, .int .i64 z, .int .i64 m, .int .i64 o] #[.int .i64 0, .int .i64 0, .int .i64 0, .int .i64 0, .int .i64 0, .slice none 0 0]
  obtain ⟨g, hg⟩ : ∃ g, g = w.heap.size := ⟨_, rfl⟩
  have hW' := Lib.hid (And.intro hW hg)
  rw [← hg] at hT
  have hgw : w.heap.size ≤ g := by omega
  clear hW hg
  obtain ⟨hKp, hR⟩ := hT
  replace h := h.below hB
  obtain ⟨c1_hKp_0, c1_hKp_1, c1_hKp_2, c1_hKp_3⟩ := hKp.quad
  obtain ⟨c1_hR_0, c1_hR_1, c1_hR_2, c1_hR_3, c1_hR_4, c1_hR_5⟩ := hR.cells6
  go_enter Tryz.func20, Tryz.ntmps20
  go_wp2_with fail
  rw [← hW'.out.1, ← hW'.out.2]
  refine (hM _).mono ?_
  rintro e w1 ⟨rfl, b1⟩
  replace h := h.below b1
  replace hKp := hKp.below b1 hKp.lt
  replace hR := hR.below b1 hR.lt
  replace hB := hB.trans (b1.mono hB.size)
  clear c1_hKp_0 c1_hKp_1 c1_hKp_2 c1_hKp_3 c1_hR_0 c1_hR_1 c1_hR_2 c1_hR_3 c1_hR_4 c1_hR_5
  obtain ⟨c2_hKp_0, c2_hKp_1, c2_hKp_2, c2_hKp_3⟩ := hKp.quad
  obtain ⟨c2_hR_0, c2_hR_1, c2_hR_2, c2_hR_3, c2_hR_4, c2_hR_5⟩ := hR.cells6
  obtain ⟨p1, p2, p3⟩ := put6 hR (.int .i64 0) (.int .i64 0) (.int .i64 0) (.int .i64 0) (.int .i64 0) (.slice none 0 0) hB (by omega)
  have q0 := hR.cell 0
  have z0 := hR.frozen 0
  have q1 := hR.cell 1
  have z1 := hR.frozen 1
  have q2 := hR.cell 2
  have z2 := hR.frozen 2
  have q3 := hR.cell 3
  have z3 := hR.frozen 3
  have q4 := hR.cell 4
  have z4 := hR.frozen 4
  have q5 := hR.cell 5
  have z5 := hR.frozen 5
  have P := Lib.hid (And.intro trivial (And.intro p3 p1.cells6))
  clear p1 p2 p3 
  go_wp2_with fail
  obtain ⟨P1, P2, P3, P4, P5, P6, P7, P8⟩ := P.out
  exact bodyPost_ret (v := .tuple #[.agg #[.int .i64 0, .int .i64 0, .int .i64 0, .int .i64 0, .int .i64 0, .slice none 0 0], .int .i64 6]) (by simp [results, Tryz.results20, go_sem, P3, P4, P5, P6, P7, P8, q0, q1, q2, q3, q4, q5]) rfl ⟨_, rfl, rzeroSt _, P2⟩
set_option maxRecDepth 100000 in
set_option maxHeartbeats 8000000 in
theorem rof_main (k m o : Int) (Z : Nat) (A : Option Addr) (c : Nat) (l : List Int) (w : World) (h : IsI w (.slice A l.length c) l) (hmay : mayB k Z m o = true) (z1 : 1 ≤ Z) (z2 : Z ≤ 4096) (hl : l.length ≤ 4096) (hi : ∀ x ∈ l, I64 x) :
    Calls Tryz.prog 20 #[.agg #[.int .i64 k, .int .i64 Z, .int .i64 m, .int .i64 o], .slice A l.length c] w fun e w' => ∃ s, e = .returned (.tuple #[s, .int .i64 (ofE k Z m o l)]) ∧ IsSt w' s (ofS k Z m o l) ∧ Below w.heap.size w w' := by
  have hM := fun w => rmay14_any k Z m o w
  rw [hmay] at hM
  have hM2 := @run_min2_int Tryz.prog
  have hi := Lib.hid hi
  obtain ⟨N, hN⟩ : ∃ N, N = partN Z l.length := ⟨_, rfl⟩
  have hiff : Hid (∀ i, i < N ↔ i * Z < l.length) := Lib.hid fun i => by rw [hN]; exact partN_lt z1
  have hall : Hid (l.length ≤ N * Z) := Lib.hid (by rw [hN]; exact partN_all z1)
  have hN4 : N ≤ 4096 := by rw [hN]; exact Nat.le_trans (partN_le z1) hl
  have HN := Lib.hid hN
  clear hN
  obtain ⟨_, hlc, hlc2⟩ : ∃ _ : Unit, l.length ≤ c ∧ c ≤ 9223372036854775807 := by
    obtain ⟨A', c', e, h1, h2, _⟩ := id h
    obtain ⟨_, _, rfl⟩ := Value.slice.inj e
    exact ⟨(), h1, h2⟩
  have hl1 : decide ((4096 : Int) < (l.length : Int)) = false := decide_eq_false (by omega)
  have hl2 : decide (4096 < l.length) = false := decide_eq_false (by omega)
  have hl3 : ¬ 4096 < l.length := by omega
  obtain ⟨i0_, hi0_, hz0_, hz1_, hz2_⟩ := info_parts info_blk
  have HKD : Hid (0 ≤ k ∧ k ≤ 3) := Lib.hid (by have := mayB_iff.1 hmay; omega)
  obtain ⟨W0, hW, hT, hB⟩ := box2 w 23 26 #[.int .i64 k, .int .i64 Z, .int .i64 m, .int .i64 o] #[.int .i64 0, .int .i64 0, .int .i64 0, .int .i64 0, .int .i64 0, .slice none 0 0]
  obtain ⟨g, hg⟩ : ∃ g, g = w.heap.size := ⟨_, rfl⟩
  have hW' := Lib.hid (And.intro hW hg)
  rw [← hg] at hT
  have hgw : w.heap.size ≤ g := by omega
  clear hW hg
  obtain ⟨hKp, hR⟩ := hT
  replace h := h.below hB
  obtain ⟨c1_hKp_0, c1_hKp_1, c1_hKp_2, c1_hKp_3⟩ := hKp.quad
  obtain ⟨c1_hR_0, c1_hR_1, c1_hR_2, c1_hR_3, c1_hR_4, c1_hR_5⟩ := hR.cells6
  go_enter Tryz.func20, Tryz.ntmps20
  go_wp2_with fail
  rw [← hW'.out.1, ← hW'.out.2]
  refine (hM _).mono ?_
  rintro e w1 ⟨rfl, b1⟩
  replace h := h.below b1
  replace hKp := hKp.below b1 hKp.lt
  replace hR := hR.below b1 hR.lt
  replace hB := hB.trans (b1.mono hB.size)
  clear c1_hKp_0 c1_hKp_1 c1_hKp_2 c1_hKp_3 c1_hR_0 c1_hR_1 c1_hR_2 c1_hR_3 c1_hR_4 c1_hR_5
  obtain ⟨c2_hKp_0, c2_hKp_1, c2_hKp_2, c2_hKp_3⟩ := hKp.quad
  obtain ⟨c2_hR_0, c2_hR_1, c2_hR_2, c2_hR_3, c2_hR_4, c2_hR_5⟩ := hR.cells6
  have hw1 := hB.size
  have hK9 := hKp
  have hR9 := hR
  have h9 := h
  have hB9 := hB
  obtain ⟨V1, eV, hX, bV1⟩ := box1 w1 26 #[.int .i64 k, .int .i64 Z, .int .i64 m, .int .i64 o, .int .i64 l.length, .slice none 0 0]
  obtain ⟨X1, eX⟩ : ∃ X, X = w1.heap.size := ⟨_, rfl⟩
  rw [← eX] at hX
  have EV1 := Lib.hid (And.intro eV eX)
  clear eV eX
  go_upto_region 6 with fail
  rw [← EV1.out.1, ← EV1.out.2]
  replace h := h.below bV1
  replace hKp := hKp.below bV1 hKp.lt
  replace hR := hR.below bV1 hR.lt
  replace hB := hB.trans (bV1.mono hB.size)
  clear c2_hKp_0 c2_hKp_1 c2_hKp_2 c2_hKp_3 c2_hR_0 c2_hR_1 c2_hR_2 c2_hR_3 c2_hR_4 c2_hR_5
  obtain ⟨c3_hKp_0, c3_hKp_1, c3_hKp_2, c3_hKp_3⟩ := hKp.quad
  obtain ⟨c3_hR_0, c3_hR_1, c3_hR_2, c3_hR_3, c3_hR_4, c3_hR_5⟩ := hR.cells6
  clear c3_hKp_0 c3_hKp_1 c3_hKp_2 c3_hKp_3 c3_hR_0 c3_hR_1 c3_hR_2 c3_hR_3 c3_hR_4 c3_hR_5
  obtain ⟨c4_hKp_0, c4_hKp_1, c4_hKp_2, c4_hKp_3⟩ := hKp.quad
  obtain ⟨c4_hR_0, c4_hR_1, c4_hR_2, c4_hR_3, c4_hR_4, c4_hR_5⟩ := hR.cells6
  obtain ⟨c4_hX_0, c4_hX_1, c4_hX_2, c4_hX_3, c4_hX_4, c4_hX_5⟩ := hX.cells6
  have hXw : w.heap.size ≤ X1 := by rw [EV1.out.2]; exact hw1
  have hXs : w1.heap.size ≤ X1 := by rw [EV1.out.2]; exact Nat.le_refl _
  have hX1 := hX.lt
  have hg0 := hK9.lt
  have hg1 := hR9.lt
  have hg0V : g < V1.heap.size := hKp.lt
  have hg1V : g + 1 < V1.heap.size := hR.lt
  have hgX0 : g < X1 := Nat.lt_of_lt_of_le hg0 hXs
  have hwV : w1.heap.size ≤ V1.heap.size := bV1.size
  have h0 := Lib.hid h9
  have hK0 := Lib.hid hK9
  have hR0 := Lib.hid hR9
  have hB0 := Lib.hid hB9
  clear h hKp hR hB hK9 hR9 h9 hB9 hw1 c4_hKp_0 c4_hKp_1 c4_hKp_2 c4_hKp_3 c4_hR_0 c4_hR_1 c4_hR_2 c4_hR_3 c4_hR_4 c4_hR_5 c4_hX_0 c4_hX_1 c4_hX_2 c4_hX_3 c4_hX_4 c4_hX_5
  go_wp2
  go_loopw [7] (fun i wr => ∃ (j q : Nat) (v : Value), i = .int .i64 q ∧ Hid (q = j * Z) ∧ q ≤ 8192 ∧ j ≤ N ∧ Blk wr X1 26 #[.int .i64 k, .int .i64 Z, .int .i64 m, .int .i64 o, .int .i64 l.length, v] ∧ OwnBs wr V1.heap.size V1.heap.size v (bksTo k Z m o l j) ∧ Hid (oddTo k Z m o l j = false) ∧ V1.heap.size ≤ wr.heap.size ∧ Below w1.heap.size w1 wr) (fun i _ => 8192 - (intOf i).toNat)
  case atStart => exact ⟨0, 0, _, rfl, Lib.hid (by omega), by omega, Nat.zero_le _, hX, OwnBs.nil _ _ _, Lib.hid rfl, Nat.le_refl _, bV1⟩
  case round =>
    clear hX
    obtain ⟨j, q, v, rfl, hq, hq2, hjN, hX, hown, hodd, hVs, bl⟩ := hrel
    have h := h0.out.below bl
    have hKp := hK0.out.below bl hg0
    have hR := hR0.out.below bl hg1
    have hB := hB0.out.trans (bl.mono hB0.out.size)
    obtain ⟨k0, k1, k2, k3⟩ := hKp.quad
    by_cases hlt : q < l.length
    · have hjn : j < N := (hiff.out j).2 (by rw [← hq.out]; exact hlt)
      obtain ⟨p, hp⟩ : ∃ p, p = partZ Z l j := ⟨_, rfl⟩
      have hpv := h.part2 (z := Z) (i := j) (by rw [← hq.out]; exact hlt)
      obtain ⟨ad, rfl, _⟩ := h.at_ (show 0 < l.length by omega)
      obtain ⟨mm, hmm⟩ : ∃ mm, mm = min Z (l.length - q) := ⟨_, rfl⟩
      rw [← hp, ← hq.out, ← hmm] at hpv
      simp only [Option.map_some] at hpv
      have hpl : p.length = mm := by rw [hp, partZ_len, ← hq.out, hmm]
      have hpi : ∀ x ∈ p, I64 x := fun x hx => hi.out x (partZ_mem (by rw [← hp]; exact hx))
      subst hpl
      have hmin : min ((q : Int) + (Z : Int)) (l.length : Int) = (q : Int) + (p.length : Int) := by omega
      have j0 : (0 : Int) ≤ (q : Int) := by omega
      have j3 : (q : Int) < (l.length : Int) := by omega
      have j1 : (q : Int) ≤ (l.length : Int) := by omega
      have j4 : (q : Int) + (p.length : Int) ≤ (c : Int) := by omega
      have j5 : (0 : Int) < (p.length : Int) := by omega
      have j6 : (q : Int) ≤ (q : Int) + (p.length : Int) := by omega
      have j7 : (0 : Int) ≤ (q : Int) + (p.length : Int) := by omega
      have j8 : q < c := by omega
      have j9 : ¬ c = q := by omega
      have j10 : p.length ≤ 4096 := by omega
      have j11 : 0 < p.length := by omega
      have HP := Lib.hid hp
      have HIP := Lib.hid hpi
      have HB1 : Hid (oddP (kindOf k m o l.length p) p = true → ofE k Z m o l = 1 ∧ ofS k Z m o l = (0, 0, 0, 0, 0, [])) := Lib.hid (fun h_ => of_bad hmay hl (by rw [← HN.out]; exact oddTo_all (by rw [oddTo_succ, Int.toNat_natCast, ← HP.out, h_, Bool.or_true]) hjn))
      have HG1 : Hid (oddP (kindOf k m o l.length p) p = false → oddTo k Z m o l (j + 1) = false) := Lib.hid (fun h_ => by rw [oddTo_succ, Int.toNat_natCast, ← HP.out, hodd.out, h_]; rfl)
      have HBK : Hid (bksTo k Z m o l (j + 1) = bksTo k Z m o l j ++ [bkOf (kindOf k m o l.length p) p]) := Lib.hid (by rw [bksTo_succ, Int.toNat_natCast, ← HP.out])
      clear hp hmm hpi hodd
      go_upto_region 11 with fail
      rw [Nat.add_sub_cancel_left]
      generalize ad.add q = pa at *
      generalize c - q = pc at *
      clear h
      go_wp2
      go_loop [10] (fun i => ∃ a : Nat, a ≤ p.length ∧ i = .int .i64 a ∧ Hid (-9223372036854775808 ∉ p.take a)) (fun i => p.length - (intOf i).toNat)
      case atStart => exact ⟨0, by omega, rfl, Lib.hid (by simp)⟩
      case round =>
        obtain ⟨a, ha, rfl, hno⟩ := hrel
        by_cases hla : a < p.length
        · obtain ⟨ad2, e2, hc⟩ := hpv.at_ hla
          obtain rfl := Option.some.inj e2
          have i0 : (0 : Int) ≤ (a : Int) := by omega
          have i1 : (a : Int) < (p.length : Int) := by omega
          have HS := Lib.hid (iat_snoc_take p a hla)
          have HM := Lib.hid (iat_mem hla)
          generalize iat p a = x at *
          by_cases hx : x = -9223372036854775808
          · have hx1 : (x == -9223372036854775808) = true := by simpa using hx
            have hx2 : decide (x = -9223372036854775808) = true := by simpa using hx
            have HE := Lib.hid (HB1.out (oddP_least (by rw [← hx]; exact HM.out)))
            clear hx
            obtain ⟨p1, p2, p3⟩ := put6 hR (.int .i64 0) (.int .i64 0) (.int .i64 0) (.int .i64 0) (.int .i64 0) (.slice none 0 0) hB (by omega)
            have q0 := hR.cell 0
            have z0 := hR.frozen 0
            have q1 := hR.cell 1
            have z1 := hR.frozen 1
            have q2 := hR.cell 2
            have z2 := hR.frozen 2
            have q3 := hR.cell 3
            have z3 := hR.frozen 3
            have q4 := hR.cell 4
            have z4 := hR.frozen 4
            have q5 := hR.cell 5
            have z5 := hR.frozen 5
            have P := Lib.hid (And.intro trivial (And.intro p3 p1.cells6))
            clear p1 p2 p3 
            go_wp2_with fail
            obtain ⟨P1, P2, P3, P4, P5, P6, P7, P8⟩ := P.out
            exact bodyPost_ret (v := .tuple #[.agg #[.int .i64 0, .int .i64 0, .int .i64 0, .int .i64 0, .int .i64 0, .slice none 0 0], .int .i64 1]) (by simp [results, Tryz.results20, go_sem, P3, P4, P5, P6, P7, P8, q0, q1, q2, q3, q4, q5]) rfl ⟨_, (by rw [HE.out.1]), (by rw [HE.out.2]; exact rzeroSt _), P2⟩
          · have hx1 : (x == -9223372036854775808) = false := by simpa using hx
            have hx2 : decide (x = -9223372036854775808) = false := by simpa using hx
            have HS2 := Lib.hid (take_not hno.out HS.out (fun h => hx h.symm))
            clear hx
            go_wp2
            go_round
            case rel => exact ⟨a + 1, by omega, by go_num, HS2⟩
            case measure => simp [intOf]; omega
        · obtain rfl : a = p.length := by omega
          have hnl : ∀ x ∈ p, x ≠ -9223372036854775808 := fun x hx e => hno.out (by rw [List.take_length, ← e]; exact hx)
          have hgw := greatW_eq HIP.out hnl
          have hG := fun w h => rgreat_any (.slice (some pa) p.length pc) p w h (fun x hx => ⟨HIP.out x hx, hnl x hx⟩)
          have hks := kindOf_or (k := k) (m := m) (o := o) l.length p
          obtain ⟨kk, hkk, hk4⟩ : ∃ kk, kk = kindOf k m o l.length p ∧ 0 ≤ kk ∧ kk ≤ 4 := ⟨_, rfl, by rcases hks with ⟨e, _⟩ | ⟨e, _⟩ <;> rw [e] <;> have := HKD.out <;> omega⟩
          rw [← hkk] at hks HB1 HG1 HBK
          rw [hgw] at hks
          have hSt := fun w => rwide14_any k Z m o l.length (great p) w
          have HKS := Lib.hid hks
          clear hgw hkk hks hnl hno
          generalize staysB m o (l.length : Int) (great p) = sb at *
          generalize great p = gw at *
          go_upto_region 16 with fail
          refine wp_region_noPanic ?_
          refine wp_region_held_drew (S := fun w' => w'.cell? ⟨g, 0, none⟩ = some (.int .i64 k) ∧ w'.cell? ⟨g, 1, none⟩ = some (.int .i64 Z) ∧ w'.cell? ⟨g, 2, none⟩ = some (.int .i64 m) ∧ w'.cell? ⟨g, 3, none⟩ = some (.int .i64 o)) (by kernel_rfl) ?_ (fun hHeld => ?_)
          · exact ⟨(hKp.below (by first | assumption | exact bdrew _) hKp.lt).cell 0, (hKp.below (by first | assumption | exact bdrew _) hKp.lt).cell 1, (hKp.below (by first | assumption | exact bdrew _) hKp.lt).cell 2, (hKp.below (by first | assumption | exact bdrew _) hKp.lt).cell 3⟩
          refine wpAnyH_take (i := 0) (v := ?a1_v0) rfl (by kernel_rfl) (by kernel_rfl) (by kernel_rfl) (fun _ _ _ h => h) (Or.inl ⟨by kernel_rfl, ?a1_hy0⟩) (by assumption) ?a1_rest0
          case a1_hy0 => (intro w hSw; (try dsimp only at hSw); go_simp; try (with_reducible rfl))
          try simp only [Act.put, lay1, lay2, lay3, lay4, lay5, lay6]
          refine wpAnyH_take (i := 1) (v := ?a1_v1) rfl (by kernel_rfl) (by kernel_rfl) (by kernel_rfl) (fun _ _ _ h => h) (Or.inl ⟨by kernel_rfl, ?a1_hy1⟩) (by assumption) ?a1_rest1
          case a1_hy1 => (intro w hSw; (try dsimp only at hSw); go_simp; try (with_reducible rfl))
          try simp only [Act.put, lay1, lay2, lay3, lay4, lay5, lay6]
          refine wpAnyH_take (i := 2) (v := ?a1_v2) rfl (by kernel_rfl) (by kernel_rfl) (by kernel_rfl) (fun _ _ _ h => h) (Or.inl ⟨by kernel_rfl, ?a1_hy2⟩) (by assumption) ?a1_rest2
          case a1_hy2 => (intro w hSw; (try dsimp only at hSw); go_simp; try (with_reducible rfl))
          try simp only [Act.put, lay1, lay2, lay3, lay4, lay5, lay6]
          refine wpAnyH_take (i := 3) (v := ?a1_v3) rfl (by kernel_rfl) (by kernel_rfl) (by kernel_rfl) (fun _ _ _ h => h) (Or.inl ⟨by kernel_rfl, ?a1_hy3⟩) (by assumption) ?a1_rest3
          case a1_hy3 => (intro w hSw; (try dsimp only at hSw); go_simp; try (with_reducible rfl))
          try simp only [Act.put, lay1, lay2, lay3, lay4, lay5, lay6]
          try dsimp only
          try simp only [Act.put, lay1, lay2, lay3, lay4, lay5, lay6]
          refine wpAnyH_ready (rs := [4]) (by kernel_rfl) (by simp) ?_
          refine AllReadyH.cons rfl (fun K hK => ?_) AllReadyH.nil
          go_simp
          refine (hG _ (hpv.below (bdrew _))).mono ?_
          rintro e u3 ⟨rfl, n3, hn3⟩
          have d3_ : Below wr.heap.size wr u3 := by rw [hn3]; exact below_drewN (bdrew _) n3
          clear hn3
          go_wp2_with fail
          refine hK.out _ _ ?_ (fun hHeld => ?_)
          · exact ⟨(hKp.below (by first | assumption | exact bdrew _) hKp.lt).cell 0, (hKp.below (by first | assumption | exact bdrew _) hKp.lt).cell 1, (hKp.below (by first | assumption | exact bdrew _) hKp.lt).cell 2, (hKp.below (by first | assumption | exact bdrew _) hKp.lt).cell 3⟩
          clear hK K
          try simp only [Act.put, lay1, lay2, lay3, lay4, lay5, lay6]
          try dsimp only
          try simp only [Act.put, lay1, lay2, lay3, lay4, lay5, lay6]
          refine wpAnyH_ready (rs := [5]) (by kernel_rfl) (by simp) ?_
          refine AllReadyH.cons rfl (fun K hK => ?_) AllReadyH.nil
          go_simp
          refine (hSt _).mono ?_
          rintro e u4 ⟨rfl, d4_⟩
          have d4_ := bstep d3_ d4_
          go_wp2_with fail
          refine hK.out _ _ ?_ (fun hHeld => ?_)
          · exact ⟨(hKp.below (by first | assumption | exact bdrew _) hKp.lt).cell 0, (hKp.below (by first | assumption | exact bdrew _) hKp.lt).cell 1, (hKp.below (by first | assumption | exact bdrew _) hKp.lt).cell 2, (hKp.below (by first | assumption | exact bdrew _) hKp.lt).cell 3⟩
          clear hK K
          try simp only [Act.put, lay1, lay2, lay3, lay4, lay5, lay6]
          try dsimp only
          try simp only [Act.put, lay1, lay2, lay3, lay4, lay5, lay6]
          refine wpAnyH_done (by kernel_rfl) ?_ _
          refine NoPanic.normal ?_
          replace hKp := hKp.below d4_ hKp.lt
          replace hR := hR.below d4_ hR.lt
          replace hX := hX.below d4_ hX.lt
          replace hown := hown.below d4_
          replace hB := hB.trans (d4_.mono hB.size)
          replace hpv := hpv.below d4_
          replace bl := bl.trans (d4_.mono bl.size)
          replace hVs := Nat.le_trans hVs d4_.size
          clear k0 k1 k2 k3
          have k1 := hKp.cell 1
          rcases HKS.out with ⟨e4, rfl⟩ | ⟨e4, rfl⟩
          · have hP1 := fun w h (ho : oddP kk p = true) => rpack_bad kk (.slice (some pa) p.length pc) p w h HIP.out (by omega) hk4 ho
            have hP0 := fun w h (ho : oddP kk p = false) => rpack_good kk (.slice (some pa) p.length pc) p w h HIP.out hk4 (by omega) ho
            rw [e4] at hP1 hP0 hk4 HB1 HG1 HBK
            clear HKS e4 hk4
            cases ho : oddP 4 p
            · have hP := fun w h => hP0 w h ho
              have HOD := Lib.hid (HG1.out ho)
              clear hP0 hP1 ho HB1 HG1
              obtain ⟨⟨bk, bs, bc, bw⟩, hbb⟩ : ∃ b : Bk, b = bkOf 4 p := ⟨_, rfl⟩
              rw [← hbb] at hP HBK
              clear hbb
              go_wp2_with fail
              refine (hP _ hpv).mono ?_
              rintro e w3 ⟨b, rfl, ⟨a1, a2, rfl, ha1, ha2⟩, b3, hfr⟩
              obtain ⟨A1, C1, rfl, _, _⟩ := id ha1.form
              obtain ⟨A2, C2, rfl, _, _⟩ := id ha2.form
              obtain ⟨_, _, _, _, hfe, hf1, hf2⟩ := hfr
              obtain ⟨rfl, rfl, rfl, rfl⟩ : _ ∧ _ ∧ _ ∧ _ := by simpa using hfe
              clear hfe hP
              have hwb := hVs
              have hvb : ∀ g, v.ownBlock = some g → g < u4.heap.size := fun g e => by
                obtain ⟨es, _, _, _, hr⟩ := hown
                exact (hr.lt g e).2
              obtain ⟨V4, eV4, hY, bV4⟩ := box1 w3 43 #[.int .i64 bk, .int .i64 bs, .slice A1 bc.length C1, .slice A2 bw.length C2]
              obtain ⟨X4, eX4⟩ : ∃ X, X = w3.heap.size := ⟨_, rfl⟩
              rw [← eX4] at hY
              have EV4 := Lib.hid (And.intro eV4 eX4)
              clear eV4 eX4
              go_upto_region 21 with fail
              rw [← EV4.out.1, ← EV4.out.2]
              have bb4 := bstep b3 bV4
              replace hKp := hKp.below bb4 hKp.lt
              replace hR := hR.below bb4 hR.lt
              replace hX := hX.below bb4 hX.lt
              replace hB := hB.trans (bb4.mono hB.size)
              replace bl := bl.trans (bb4.mono bl.size)
              replace hVs := Nat.le_trans hVs bb4.size
              have hrow4 := hown.below bb4
              have ha1' := ha1.below bV4
              have ha2' := ha2.below bV4
              clear k1 hown
              obtain ⟨y0, y1, y2, y3⟩ := hY.quad
              have c5 := hX.cell 5
              have f5 := hX.frozen 5
              obtain ⟨es, hes, hok, haw, hrow⟩ := hrow4
              have hlen : es.length ≤ 8192 := by rw [← List.length_map (f := fun e : Eb => e.1), hes, bksTo_len]; omega
              have hone := flatB_one [((bk, bs, bc, bw), (.slice A1 bc.length C1 : Value), (.slice A2 bw.length C2 : Value))] (w := w3) (fun e he => by
                obtain rfl := List.mem_singleton.1 he
                exact ⟨ha1, ha2⟩)
              have hlc4 := lit4_cells V4 43 (.int .i64 bk) (.int .i64 bs) (.slice A1 bc.length C1) (.slice A2 bw.length C2)
              have hrd : Reads (V4.alloc (.cells #[.int .i64 bk, .int .i64 bs, .slice A1 bc.length C1, .slice A2 bw.length C2] 43)) (V4.heap.size + 1) 4 (some ⟨V4.heap.size, 0, none⟩) 1 (flatB [((bk, bs, bc, bw), (.slice A1 bc.length C1 : Value), (.slice A2 bw.length C2 : Value))]) := ⟨rfl, fun _ => ⟨_, rfl, Nat.lt_succ_self _, hlc4⟩⟩
              have hX5 := hX.alloc (.cells #[.int .i64 bk, .int .i64 bs, .slice A1 bc.length C1, .slice A2 bw.length C2] 43)
              go_upto_region 8 with (at_builtin; go_must (refine wpList_append_any _ rfl (.tmp 74) (.tmp 76) _ rfl V1.heap.size 43 i0_ _ 4 64 Tryz.underlying24 hi0_ hz0_ hz1_ hz2_ rfl (by omega) _ _ (flatB es) rfl (hrow.alloc _) (V4.heap.size + 1) _ 1 1 _ rfl hrd hone (by unfold maxLen; omega) (by omega) (by rw [World.size_alloc]; exact Nat.le_succ_of_le hVs) ?_; intro v' w6 hown' hgrow hat; obtain ⟨A7, C7, rfl, _, _⟩ := own4_form hown'; have hX6 := hX5.grown hgrow (fun e => own4_typed (hrow.alloc _) hX5 (by decide) e.symm); have c6 := hX6.cell 5; have f6 := hX6.frozen 5))
              obtain ⟨hbl, hko⟩ := below_grown4 hrow hVs hgrow
              have hpush := OwnBs.push (fl := V1.heap.size) (ns := [((bk, bs, bc, bw), (.slice A1 bc.length C1 : Value), (.slice A2 bw.length C2 : Value))]) (hok.below (balloc (Below.refl _ _) (.cells #[.int .i64 bk, .int .i64 bs, .slice A1 bc.length C1, .slice A2 bw.length C2] 43))) haw
                (fun e he => by obtain rfl := List.mem_singleton.1 he; exact ⟨ha1'.below (balloc (Below.refl _ _) _), ha2'.below (balloc (Below.refl _ _) _)⟩)
                (fun e he => by
                  obtain rfl := List.mem_singleton.1 he
                  exact ⟨fun g eg => ⟨.inr (hf1.ne (hvb g eg)), .inr (hf2.ne (hvb g eg))⟩, hf1.more hwb, hf2.more hwb⟩) rfl hown' hgrow hat
              rw [hes] at hpush
              have hOB := hpush.set (i := 5) hX1 hX1 (.slice A7 (es.length + 1) C7)
              have hX7 := hX6.set_ 5 (.slice A7 (es.length + 1) C7)
              have hK7 := (hKp.below hbl hg0V).far (p := ⟨X1, 5, none⟩) (Nat.ne_of_lt hgX0) (.slice A7 (es.length + 1) C7)
              have hV7 : V1.heap.size ≤ (w6.setCell ⟨X1, 5, none⟩ (.slice A7 (es.length + 1) C7)).heap.size := by simp [World.setCell]; exact Nat.le_trans hVs hbl.size
              have bl7 := (bl.trans (hbl.mono hwV)).setCell (p := ⟨X1, 5, none⟩) hXs (.slice A7 (es.length + 1) C7)
              have k1 := hK7.cell 1
              clear hrd hlc4 hone hrow haw hok ha1 ha2 ha1' ha2' y0 y1 y2 y3 c5 f5 c6 f6 hown'
              go_wp2
              exact ⟨⟨j + 1, q + Z, _, by go_num, Lib.hid (by rw [hq.out, Nat.succ_mul]), by omega, hjn, by simpa using hX7, by rw [HBK.out]; exact hOB, HOD, hV7, bl7⟩, by simp [intOf]; omega⟩
            · have hP := fun w h => hP1 w h ho
              have HE := Lib.hid (HB1.out ho)
              clear hP0 hP1 ho HB1 HG1
              go_wp2_with fail
              refine (hP _ hpv).mono ?_
              rintro e w3 ⟨b, rfl, ⟨a1, a2, rfl, ha1, ha2⟩, b3⟩
              obtain ⟨A1, C1, rfl, _, _⟩ := id ha1.form
              obtain ⟨A2, C2, rfl, _, _⟩ := id ha2.form
              obtain ⟨V4, eV4, hY, bV4⟩ := box1 w3 43 #[.int .i64 0, .int .i64 0, .slice A1 0 C1, .slice A2 0 C2]
              obtain ⟨X4, eX4⟩ : ∃ X, X = w3.heap.size := ⟨_, rfl⟩
              rw [← eX4] at hY
              have EV4 := Lib.hid (And.intro eV4 eX4)
              clear eV4 eX4
              go_upto_region 19 with fail
              rw [← EV4.out.1, ← EV4.out.2]
              have bb4 := bstep b3 bV4
              replace hR := hR.below bb4 hR.lt
              replace hB := hB.trans (bb4.mono hB.size)
              clear k1 hKp hX hown
              obtain ⟨p1, p2, p3⟩ := put6 hR (.int .i64 0) (.int .i64 0) (.int .i64 0) (.int .i64 0) (.int .i64 0) (.slice none 0 0) hB (by omega)
              have q0 := hR.cell 0
              have z0 := hR.frozen 0
              have q1 := hR.cell 1
              have z1 := hR.frozen 1
              have q2 := hR.cell 2
              have z2 := hR.frozen 2
              have q3 := hR.cell 3
              have z3 := hR.frozen 3
              have q4 := hR.cell 4
              have z4 := hR.frozen 4
              have q5 := hR.cell 5
              have z5 := hR.frozen 5
              have P := Lib.hid (And.intro trivial (And.intro p3 p1.cells6))
              clear p1 p2 p3 
              go_wp2_with fail
              obtain ⟨P1, P2, P3, P4, P5, P6, P7, P8⟩ := P.out
              exact bodyPost_ret (v := .tuple #[.agg #[.int .i64 0, .int .i64 0, .int .i64 0, .int .i64 0, .int .i64 0, .slice none 0 0], .int .i64 1]) (by simp [results, Tryz.results20, go_sem, P3, P4, P5, P6, P7, P8, q0, q1, q2, q3, q4, q5]) rfl ⟨_, (by rw [HE.out.1]), (by rw [HE.out.2]; exact rzeroSt _), P2⟩
          · have hP1 := fun w h (ho : oddP kk p = true) => rpack_bad kk (.slice (some pa) p.length pc) p w h HIP.out (by omega) hk4 ho
            have hP0 := fun w h (ho : oddP kk p = false) => rpack_good kk (.slice (some pa) p.length pc) p w h HIP.out hk4 (by omega) ho
            rw [e4] at hP1 hP0 hk4 HB1 HG1 HBK
            clear HKS e4 hk4
            cases ho : oddP k p
            · have hP := fun w h => hP0 w h ho
              have HOD := Lib.hid (HG1.out ho)
              clear hP0 hP1 ho HB1 HG1
              obtain ⟨⟨bk, bs, bc, bw⟩, hbb⟩ : ∃ b : Bk, b = bkOf k p := ⟨_, rfl⟩
              rw [← hbb] at hP HBK
              clear hbb
              go_wp2_with fail
              refine (hP _ hpv).mono ?_
              rintro e w3 ⟨b, rfl, ⟨a1, a2, rfl, ha1, ha2⟩, b3, hfr⟩
              obtain ⟨A1, C1, rfl, _, _⟩ := id ha1.form
              obtain ⟨A2, C2, rfl, _, _⟩ := id ha2.form
              obtain ⟨_, _, _, _, hfe, hf1, hf2⟩ := hfr
              obtain ⟨rfl, rfl, rfl, rfl⟩ : _ ∧ _ ∧ _ ∧ _ := by simpa using hfe
              clear hfe hP
              have hwb := hVs
              have hvb : ∀ g, v.ownBlock = some g → g < u4.heap.size := fun g e => by
                obtain ⟨es, _, _, _, hr⟩ := hown
                exact (hr.lt g e).2
              obtain ⟨V4, eV4, hY, bV4⟩ := box1 w3 43 #[.int .i64 bk, .int .i64 bs, .slice A1 bc.length C1, .slice A2 bw.length C2]
              obtain ⟨X4, eX4⟩ : ∃ X, X = w3.heap.size := ⟨_, rfl⟩
              rw [← eX4] at hY
              have EV4 := Lib.hid (And.intro eV4 eX4)
              clear eV4 eX4
              go_upto_region 21 with fail
              rw [← EV4.out.1, ← EV4.out.2]
              have bb4 := bstep b3 bV4
              replace hKp := hKp.below bb4 hKp.lt
              replace hR := hR.below bb4 hR.lt
              replace hX := hX.below bb4 hX.lt
              replace hB := hB.trans (bb4.mono hB.size)
              replace bl := bl.trans (bb4.mono bl.size)
              replace hVs := Nat.le_trans hVs bb4.size
              have hrow4 := hown.below bb4
              have ha1' := ha1.below bV4
              have ha2' := ha2.below bV4
              clear k1 hown
              obtain ⟨y0, y1, y2, y3⟩ := hY.quad
              have c5 := hX.cell 5
              have f5 := hX.frozen 5
              obtain ⟨es, hes, hok, haw, hrow⟩ := hrow4
              have hlen : es.length ≤ 8192 := by rw [← List.length_map (f := fun e : Eb => e.1), hes, bksTo_len]; omega
              have hone := flatB_one [((bk, bs, bc, bw), (.slice A1 bc.length C1 : Value), (.slice A2 bw.length C2 : Value))] (w := w3) (fun e he => by
                obtain rfl := List.mem_singleton.1 he
                exact ⟨ha1, ha2⟩)
              have hlc4 := lit4_cells V4 43 (.int .i64 bk) (.int .i64 bs) (.slice A1 bc.length C1) (.slice A2 bw.length C2)
              have hrd : Reads (V4.alloc (.cells #[.int .i64 bk, .int .i64 bs, .slice A1 bc.length C1, .slice A2 bw.length C2] 43)) (V4.heap.size + 1) 4 (some ⟨V4.heap.size, 0, none⟩) 1 (flatB [((bk, bs, bc, bw), (.slice A1 bc.length C1 : Value), (.slice A2 bw.length C2 : Value))]) := ⟨rfl, fun _ => ⟨_, rfl, Nat.lt_succ_self _, hlc4⟩⟩
              have hX5 := hX.alloc (.cells #[.int .i64 bk, .int .i64 bs, .slice A1 bc.length C1, .slice A2 bw.length C2] 43)
              go_upto_region 8 with (at_builtin; go_must (refine wpList_append_any _ rfl (.tmp 74) (.tmp 76) _ rfl V1.heap.size 43 i0_ _ 4 64 Tryz.underlying24 hi0_ hz0_ hz1_ hz2_ rfl (by omega) _ _ (flatB es) rfl (hrow.alloc _) (V4.heap.size + 1) _ 1 1 _ rfl hrd hone (by unfold maxLen; omega) (by omega) (by rw [World.size_alloc]; exact Nat.le_succ_of_le hVs) ?_; intro v' w6 hown' hgrow hat; obtain ⟨A7, C7, rfl, _, _⟩ := own4_form hown'; have hX6 := hX5.grown hgrow (fun e => own4_typed (hrow.alloc _) hX5 (by decide) e.symm); have c6 := hX6.cell 5; have f6 := hX6.frozen 5))
              obtain ⟨hbl, hko⟩ := below_grown4 hrow hVs hgrow
              have hpush := OwnBs.push (fl := V1.heap.size) (ns := [((bk, bs, bc, bw), (.slice A1 bc.length C1 : Value), (.slice A2 bw.length C2 : Value))]) (hok.below (balloc (Below.refl _ _) (.cells #[.int .i64 bk, .int .i64 bs, .slice A1 bc.length C1, .slice A2 bw.length C2] 43))) haw
                (fun e he => by obtain rfl := List.mem_singleton.1 he; exact ⟨ha1'.below (balloc (Below.refl _ _) _), ha2'.below (balloc (Below.refl _ _) _)⟩)
                (fun e he => by
                  obtain rfl := List.mem_singleton.1 he
                  exact ⟨fun g eg => ⟨.inr (hf1.ne (hvb g eg)), .inr (hf2.ne (hvb g eg))⟩, hf1.more hwb, hf2.more hwb⟩) rfl hown' hgrow hat
              rw [hes] at hpush
              have hOB := hpush.set (i := 5) hX1 hX1 (.slice A7 (es.length + 1) C7)
              have hX7 := hX6.set_ 5 (.slice A7 (es.length + 1) C7)
              have hK7 := (hKp.below hbl hg0V).far (p := ⟨X1, 5, none⟩) (Nat.ne_of_lt hgX0) (.slice A7 (es.length + 1) C7)
              have hV7 : V1.heap.size ≤ (w6.setCell ⟨X1, 5, none⟩ (.slice A7 (es.length + 1) C7)).heap.size := by simp [World.setCell]; exact Nat.le_trans hVs hbl.size
              have bl7 := (bl.trans (hbl.mono hwV)).setCell (p := ⟨X1, 5, none⟩) hXs (.slice A7 (es.length + 1) C7)
              have k1 := hK7.cell 1
              clear hrd hlc4 hone hrow haw hok ha1 ha2 ha1' ha2' y0 y1 y2 y3 c5 f5 c6 f6 hown'
              go_wp2
              exact ⟨⟨j + 1, q + Z, _, by go_num, Lib.hid (by rw [hq.out, Nat.succ_mul]), by omega, hjn, by simpa using hX7, by rw [HBK.out]; exact hOB, HOD, hV7, bl7⟩, by simp [intOf]; omega⟩
            · have hP := fun w h => hP1 w h ho
              have HE := Lib.hid (HB1.out ho)
              clear hP0 hP1 ho HB1 HG1
              go_wp2_with fail
              refine (hP _ hpv).mono ?_
              rintro e w3 ⟨b, rfl, ⟨a1, a2, rfl, ha1, ha2⟩, b3⟩
              obtain ⟨A1, C1, rfl, _, _⟩ := id ha1.form
              obtain ⟨A2, C2, rfl, _, _⟩ := id ha2.form
              obtain ⟨V4, eV4, hY, bV4⟩ := box1 w3 43 #[.int .i64 0, .int .i64 0, .slice A1 0 C1, .slice A2 0 C2]
              obtain ⟨X4, eX4⟩ : ∃ X, X = w3.heap.size := ⟨_, rfl⟩
              rw [← eX4] at hY
              have EV4 := Lib.hid (And.intro eV4 eX4)
              clear eV4 eX4
              go_upto_region 19 with fail
              rw [← EV4.out.1, ← EV4.out.2]
              have bb4 := bstep b3 bV4
              replace hR := hR.below bb4 hR.lt
              replace hB := hB.trans (bb4.mono hB.size)
              clear k1 hKp hX hown
              obtain ⟨p1, p2, p3⟩ := put6 hR (.int .i64 0) (.int .i64 0) (.int .i64 0) (.int .i64 0) (.int .i64 0) (.slice none 0 0) hB (by omega)
              have q0 := hR.cell 0
              have z0 := hR.frozen 0
              have q1 := hR.cell 1
              have z1 := hR.frozen 1
              have q2 := hR.cell 2
              have z2 := hR.frozen 2
              have q3 := hR.cell 3
              have z3 := hR.frozen 3
              have q4 := hR.cell 4
              have z4 := hR.frozen 4
              have q5 := hR.cell 5
              have z5 := hR.frozen 5
              have P := Lib.hid (And.intro trivial (And.intro p3 p1.cells6))
              clear p1 p2 p3 
              go_wp2_with fail
              obtain ⟨P1, P2, P3, P4, P5, P6, P7, P8⟩ := P.out
              exact bodyPost_ret (v := .tuple #[.agg #[.int .i64 0, .int .i64 0, .int .i64 0, .int .i64 0, .int .i64 0, .slice none 0 0], .int .i64 1]) (by simp [results, Tryz.results20, go_sem, P3, P4, P5, P6, P7, P8, q0, q1, q2, q3, q4, q5]) rfl ⟨_, (by rw [HE.out.1]), (by rw [HE.out.2]; exact rzeroSt _), P2⟩
    · obtain rfl : j = N := by
        rcases Nat.lt_or_ge j N with h_ | h_
        · have := (hiff.out j).1 h_; rw [← hq.out] at this; exact absurd this hlt
        · omega
      have HE := Lib.hid (of_good hmay hl (by rw [← HN.out]; exact hodd.out))
      have HN2 := Lib.hid (congrArg (bksTo k Z m o l) HN.out)
      obtain ⟨A9, C9, rfl, _, _⟩ := id hown.is.len
      rw [bksTo_len] at hX hown
      obtain ⟨x0, x1, x2, x3, x4, x5⟩ := hX.cells6
      obtain ⟨p1, p2, p3⟩ := put6 hR (.int .i64 k) (.int .i64 Z) (.int .i64 m) (.int .i64 o) (.int .i64 l.length) (.slice A9 j C9) hB (by omega)
      have q0 := hR.cell 0
      have z0 := hR.frozen 0
      have q1 := hR.cell 1
      have z1 := hR.frozen 1
      have q2 := hR.cell 2
      have z2 := hR.frozen 2
      have q3 := hR.cell 3
      have z3 := hR.frozen 3
      have q4 := hR.cell 4
      have z4 := hR.frozen 4
      have q5 := hR.cell 5
      have z5 := hR.frozen 5
      have P := Lib.hid (And.intro (p2 _ _ _ _ hown hg1V hg1V) (And.intro p3 p1.cells6))
      clear p1 p2 p3 
      go_wp2_with fail
      obtain ⟨P1, P2, P3, P4, P5, P6, P7, P8⟩ := P.out
      exact bodyPost_ret (v := .tuple #[.agg #[.int .i64 k, .int .i64 Z, .int .i64 m, .int .i64 o, .int .i64 l.length, .slice A9 j C9], .int .i64 0]) (by simp [results, Tryz.results20, go_sem, P3, P4, P5, P6, P7, P8, q0, q1, q2, q3, q4, q5]) rfl ⟨_, (by rw [HE.out.1]), (by rw [HE.out.2, ← HN2.out]; exact ⟨_, rfl, P1.is⟩), P2⟩
/-- a row, kept by the reference, or why it is not -/
theorem rof14_any (k z m o : Int) (v : Value) (l : List Int) (w : World) (h : IsI w v l) (hi : ∀ x ∈ l, I64 x) :
    Calls Tryz.prog 20 #[.agg #[.int .i64 k, .int .i64 z, .int .i64 m, .int .i64 o], v] w fun e w' => ∃ s, e = .returned (.tuple #[s, .int .i64 (ofE k z m o l)]) ∧ IsSt w' s (ofS k z m o l) ∧ Below w.heap.size w w' := by
  obtain ⟨A, c, rfl, _, _⟩ := id h.form
  by_cases hmay : mayB k z m o = true
  · by_cases hl : l.length ≤ 4096
    · obtain ⟨Z, rfl, z1, z2⟩ := size_of hmay
      exact rof_main k m o Z A c l w h hmay z1 z2 hl hi
    · have e : ofE k z m o l = 6 := by unfold ofE; rw [if_pos hmay, if_neg hl]
      have e2 : ofS k z m o l = (0, 0, 0, 0, 0, []) := if_neg (by rw [e]; decide)
      rw [e, e2]
      exact rof_large k z m o A c l w h hmay hl
  · have e : ofE k z m o l = 1 := by unfold ofE; rw [if_neg hmay]
    have e2 : ofS k z m o l = (0, 0, 0, 0, 0, []) := if_neg (by rw [e]; decide)
    rw [e, e2]
    exact rof_may k z m o A c l w h (by simpa using hmay)
end Go.Proofs.YtochabikpaoalaaGreat
