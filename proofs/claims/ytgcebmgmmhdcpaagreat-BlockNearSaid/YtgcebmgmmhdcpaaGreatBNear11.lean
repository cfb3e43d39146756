/- NEAR: what is loaded is as many numbers as were packed, each at most Scale times half the gap, by the denominator, and half a step away; wide ones are as they were. No conditions: every input. Printed by gen_bnear11.py. -/
import Derived.Test.YtgcebmgmmhdcpaaGreatRef11
import Derived.Test.YtgcebmgmmhdcpaaGreatRef10
import Derived.Deep.RegionHeld3
import Derived.Deep.DrawnRows
import Derived.Deep.DeepCutAuto
namespace Go.Proofs.YtgcebmgmmhdcpaaGreat
open Go.ChangeShapes Go.WideShapes Go.ChangeAt Go.RowKit
attribute [local go_sem ↓] Go.wp_at_zero Go.wp_at_succ
set_option maxHeartbeats 4000000 in
theorem times_any (a b : Int) (w : World) (ha : I64 a) (hb : I64 b) :
    Calls Tryz.prog 22 #[.int .i64 a, .int .i64 b] w fun e w' => ∃ v', e = .returned v' ∧ IsZ w' v' (a * b) ∧ Below w.heap.size w w' := by
  have hO1 := fun w => rzof_any a ha.1 ha.2 w
  have hO2 := fun w => rzof_any b hb.1 hb.2 w
  have s1 : Sz a.natAbs 1 := Sz.u64 (by have := ha.1; have := ha.2; unfold W64; omega)
  have s2 : Sz b.natAbs 1 := Sz.u64 (by have := hb.1; have := hb.2; unfold W64; omega)
  have hM := fun u v w h1 h2 => rzmul_any u v a b w h1 h2 (s1.more (by omega)) (s2.more (by omega))
  generalize a * b = p at *
  clear s1 s2 ha hb
  obtain ⟨W0, hW, hR, hB⟩ := box1 w 41 #[.bool false, .slice none 0 0]
  obtain ⟨g, hg⟩ : ∃ g, g = w.heap.size := ⟨_, rfl⟩
  have hW' := Lib.hid (And.intro hW hg)
  rw [← hg] at hR
  have hgw : w.heap.size ≤ g := by omega
  clear hW hg
  skip
  obtain ⟨c1_hR_0, c1_hR_1⟩ := hR.cells2
  go_enter Tryz.func22, Tryz.ntmps22
  go_wp2_with fail
  rw [← hW'.out.1, ← hW'.out.2]
  refine (hO1 _).mono ?_
  rintro e w1 ⟨v1, rfl, h1, b1⟩
  replace hR := hR.below b1 hR.lt
  replace hB := hB.trans (b1.mono hB.size)
  clear c1_hR_0 c1_hR_1
  obtain ⟨c2_hR_0, c2_hR_1⟩ := hR.cells2
  go_wp2_with fail
  refine (hO2 _).mono ?_
  rintro e w2 ⟨v2, rfl, h2, b2⟩
  replace hR := hR.below b2 hR.lt
  replace h1 := h1.below b2
  replace hB := hB.trans (b2.mono hB.size)
  clear c2_hR_0 c2_hR_1
  obtain ⟨c3_hR_0, c3_hR_1⟩ := hR.cells2
  go_wp2_with fail
  refine (hM _ _ _ h1 h2).mono ?_
  rintro e w3 ⟨v3, rfl, ⟨n3, rfl, h3⟩, b3⟩
  replace hR := hR.below b3 hR.lt
  replace h1 := h1.below b3
  replace h2 := h2.below b3
  replace hB := hB.trans (b3.mono hB.size)
  clear c3_hR_0 c3_hR_1
  obtain ⟨c4_hR_0, c4_hR_1⟩ := hR.cells2
  obtain ⟨A3, L3, C3, rfl⟩ := h3.frm
  obtain ⟨p1, p2, p3⟩ := put2 hR (.bool (decide (p < 0))) (.slice A3 L3 C3) (by simp [noU]) hB (by omega)
  have q0 := hR.cell 0
  have z0 := hR.frozen 0
  have q1 := hR.cell 1
  have z1 := hR.frozen 1
  have P := Lib.hid (And.intro (⟨_, rfl, p2 _ _ h3⟩ : IsZ _ (.agg #[.bool (decide (p < 0)), .slice A3 L3 C3]) _) (And.intro p3 p1.cells2))
  clear p1 p2 p3 
  go_wp2_with fail
  obtain ⟨P1, P2, P3, P4⟩ := P.out
  exact bodyPost_ret (v := .agg #[.bool (decide (p < 0)), .slice A3 L3 C3]) (by simp [results, Tryz.results22, go_sem, P3, P4, q0, q1]) rfl ⟨_, rfl, P1, P2⟩
set_option maxHeartbeats 4000000 in
theorem BlockNear_few (v : Value) (k : Int) (l : List Int) (w : World) (h : IsI w v l) (hb : 20 < l.length) :
    Calls Tryz.prog 4 #[.int .i64 k, v] w fun e w' => e = .returned (.bool true) ∧ Below w.heap.size w w' := by
  obtain ⟨Aa, Ca, rfl, _, _⟩ := id h.form
  have hL := fun w => alive11_any w
  have hB := Below.refl w.heap.size w
  go_enter Tryz.func4, Tryz.ntmps4
  go_wp2_with fail
  refine (hL _).mono ?_
  rintro e w1 ⟨rfl, b1⟩
  replace hB := hB.trans (b1.mono hB.size)
  go_wp2
  go_ret
  exact ⟨rfl, hB⟩
set_option maxRecDepth 100000 in
set_option maxHeartbeats 4000000 in
theorem BlockNear_no (v : Value) (k : Int) (l : List Int) (w : World) (h : IsI w v l) (hl : ¬ 20 < l.length) (hP : ∀ w, IsI w v l → Calls Tryz.prog 18 #[.int .i64 k, v] w fun e w' => ∃ b, e = .returned (.tuple #[b, .int .i64 1]) ∧ IsBk w' b 0 0 [] [] ∧ Below w.heap.size w w') :
    Calls Tryz.prog 4 #[.int .i64 k, v] w fun e w' => e = .returned (.bool true) ∧ Below w.heap.size w w' := by
  obtain ⟨Aa, Ca, rfl, _, _⟩ := id h.form
  have hL := fun w => alive11_any w
  have hS := fun u v w h h' => rbsame_any u v 0 0 [] [] 0 0 [] [] w h h'
  have hB := Below.refl w.heap.size w
  go_enter Tryz.func4, Tryz.ntmps4
  go_wp2_with fail
  refine (hP _ h).mono ?_
  rintro e w1 ⟨b1, rfl, ⟨bc, bw, rfl, hy1, hw1⟩, b1⟩
  replace h := h.below b1
  replace hB := hB.trans (b1.mono hB.size)
  obtain ⟨Ac, Cc, rfl, _, _⟩ := id hy1.form
  obtain ⟨Aw, Cw, rfl, _, _⟩ := id hw1.form
  obtain ⟨V1, eV, hb, bV1⟩ := box1 w1 25 #[.int .i64 0, .int .i64 0, .slice Ac 0 Cc, .slice Aw 0 Cw]
  obtain ⟨X1, eX⟩ : ∃ X, X = w1.heap.size := ⟨_, rfl⟩
  rw [← eX] at hb
  have EV1 := Lib.hid (And.intro eV eX)
  clear eV eX
  go_upto_region 4 with fail
  rw [← EV1.out.1, ← EV1.out.2]
  replace hy1 := hy1.below bV1
  replace hw1 := hw1.below bV1
  replace hB := hB.trans (bV1.mono hB.size)
  obtain ⟨c3_hb_0, c3_hb_1, c3_hb_2, c3_hb_3⟩ := hb.quad
  go_wp2_with fail
  refine (hL _).mono ?_
  rintro e w2 ⟨rfl, b2⟩
  replace hy1 := hy1.below b2
  replace hw1 := hw1.below b2
  replace hb := hb.below b2 hb.lt
  replace hB := hB.trans (b2.mono hB.size)
  clear c3_hb_0 c3_hb_1 c3_hb_2 c3_hb_3
  obtain ⟨c4_hb_0, c4_hb_1, c4_hb_2, c4_hb_3⟩ := hb.quad
  go_wp2_with fail
  refine (hS _ _ _ ⟨_, _, rfl, hy1, hw1⟩ (IsBk.nil _)).mono ?_
  rintro e w3 ⟨rfl, b3⟩
  replace hy1 := hy1.below b3
  replace hw1 := hw1.below b3
  replace hb := hb.below b3 hb.lt
  replace hB := hB.trans (b3.mono hB.size)
  clear c4_hb_0 c4_hb_1 c4_hb_2 c4_hb_3
  obtain ⟨c5_hb_0, c5_hb_1, c5_hb_2, c5_hb_3⟩ := hb.quad
  go_wp2
  go_ret
  exact ⟨by simp, hB⟩
set_option maxRecDepth 100000 in
set_option maxHeartbeats 4000000 in
theorem BlockNear_wide (v : Value) (l : List Int) (w : World) (h : IsI w v l) (hl : ¬ 20 < l.length) (ho : l.any (oddB true) = false) :
    Calls Tryz.prog 4 #[.int .i64 4, v] w fun e w' => e = .returned (.bool true) ∧ Below w.heap.size w w' := by
  obtain ⟨Aa, Ca, rfl, _, _⟩ := id h.form
  have hL := fun w => alive11_any w
  have hP := fun w h => pack_wide 4 (.slice Aa l.length Ca) l w h rfl (by omega) ho
  have hLd := fun v w h => load_wide v 4 0 [] l w h rfl (by omega)
  have hSm := fun u v w h h' => same_any u v l l w h h'
  rw [decide_eq_true (rfl : l = l)] at hSm
  have hB := Below.refl w.heap.size w
  go_enter Tryz.func4, Tryz.ntmps4
  go_wp2_with fail
  refine (hP _ h).mono ?_
  rintro e w1 ⟨b1, rfl, ⟨bc, bw, rfl, hy, hw⟩, b1⟩
  replace h := h.below b1
  replace hB := hB.trans (b1.mono hB.size)
  obtain ⟨Ac, Cc, rfl, _, _⟩ := id hy.form
  obtain ⟨Aw, Cw, rfl, _, _⟩ := id hw.form
  obtain ⟨V1, eV, hb, bV1⟩ := box1 w1 25 #[.int .i64 4, .int .i64 0, .slice Ac 0 Cc, .slice Aw l.length Cw]
  obtain ⟨X1, eX⟩ : ∃ X, X = w1.heap.size := ⟨_, rfl⟩
  rw [← eX] at hb
  have EV1 := Lib.hid (And.intro eV eX)
  clear eV eX
  go_upto_region 4 with fail
  rw [← EV1.out.1, ← EV1.out.2]
  replace h := h.below bV1
  replace hy := hy.below bV1
  replace hw := hw.below bV1
  replace hB := hB.trans (bV1.mono hB.size)
  obtain ⟨c3_hb_0, c3_hb_1, c3_hb_2, c3_hb_3⟩ := hb.quad
  go_wp2_with fail
  refine (hLd _ _ ⟨_, _, rfl, hy, hw⟩).mono ?_
  rintro e w2 ⟨v9, rfl, h9, b2⟩
  replace h := h.below b2
  replace hy := hy.below b2
  replace hw := hw.below b2
  replace hb := hb.below b2 hb.lt
  replace hB := hB.trans (b2.mono hB.size)
  clear c3_hb_0 c3_hb_1 c3_hb_2 c3_hb_3
  obtain ⟨c4_hb_0, c4_hb_1, c4_hb_2, c4_hb_3⟩ := hb.quad
  obtain ⟨A9, C9, rfl, _, _⟩ := id h9.form
  go_wp2_with fail
  refine (hL _).mono ?_
  rintro e w3 ⟨rfl, b3⟩
  replace h := h.below b3
  replace hy := hy.below b3
  replace hw := hw.below b3
  replace hb := hb.below b3 hb.lt
  replace h9 := h9.below b3
  replace hB := hB.trans (b3.mono hB.size)
  clear c4_hb_0 c4_hb_1 c4_hb_2 c4_hb_3
  obtain ⟨c5_hb_0, c5_hb_1, c5_hb_2, c5_hb_3⟩ := hb.quad
  go_wp2_with fail
  refine (hSm _ _ _ h h9).mono ?_
  rintro e w4 ⟨rfl, n4, hn4⟩
  have b4 : Below w3.heap.size w3 w4 := by rw [hn4]; exact below_drewN (Below.refl _ _) n4
  clear hn4
  replace h := h.below b4
  replace hy := hy.below b4
  replace hw := hw.below b4
  replace hb := hb.below b4 hb.lt
  replace h9 := h9.below b4
  replace hB := hB.trans (b4.mono hB.size)
  clear c5_hb_0 c5_hb_1 c5_hb_2 c5_hb_3
  obtain ⟨c6_hb_0, c6_hb_1, c6_hb_2, c6_hb_3⟩ := hb.quad
  go_wp2
  go_ret
  exact ⟨by simp, hB⟩
set_option maxRecDepth 100000 in
set_option maxHeartbeats 16000000 in
theorem BlockNear_coded (v : Value) (n : Nat) (hn : n < 4) (l : List Int) (w : World) (h : IsI w v l) (hl : ¬ 20 < l.length) (iL : ∀ x ∈ l, I64 x) (ho : l.any (oddB (sgn (n : Nat))) = false) :
    Calls Tryz.prog 4 #[.int .i64 n, v] w fun e w' => e = .returned (.bool true) ∧ Below w.heap.size w w' := by
  obtain ⟨Aa, Ca, rfl, _, _⟩ := id h.form
  have hL := fun w => alive11_any w
  have hP := fun w h => pack_coded n (.slice Aa l.length Ca) l w h n hn rfl (by omega) iL ho
  have hmin : ∀ x ∈ l, x ≠ -9223372036854775808 := fun x hx e => by
    have : l.any (oddB (sgn (n : Nat))) = true := List.any_eq_true.2 ⟨x, hx, by unfold oddB; simp [e]⟩
    rw [ho] at this; cases this
  have hg0 := great_nonneg l
  have hg1 := great_in iL hmin
  have hlk : (packC n l).length = l.length := packC_len _ _
  have hlm : (loadC n (great l) (packC n l)).length = l.length := by unfold loadC; rw [List.length_map, hlk]
  have hLd := fun v w h => load_coded v n (great l) (packC n l) [] w h hn hg0 hg1 (by rw [hlk]; omega)
  have hG := fun w h => rgreat_any (.slice Aa l.length Ca) l w h (fun x hx => ⟨iL x hx, hmin x hx⟩)
  obtain ⟨gz0, gz1⟩ := gz_bound n hn
  have hden := dens n hn
  have hFar : ∀ j, j < l.length → ((((iat l j - iat (loadC n (great l) (packC n l)) j).natAbs : Nat) : Int)) * (2 * den (n : Nat)) ≤ great l * gz (n : Nat) + den (n : Nat) := fun j hj => by
    have e : iat (loadC n (great l) (packC n l)) j = loadZ n (great l) (codeOf n (iat l j) (max (great l) 1)) := by unfold packC loadC iat; simp [hj]
    rw [e]
    exact near_loaded hn ho (iat_mem hj)
  have hIn : (∀ j, j < l.length → I64 (iat l j)) ∧ (∀ j, j < l.length → I64 (iat (loadC n (great l) (packC n l)) j)) := ⟨fun j hj => iL _ (iat_mem hj), fun j hj => by
    have := load_mem hn hg0 (packC_lt (k := (n : Int)) (l := l)) (iat_mem (show j < (loadC n (great l) (packC n l)).length by rw [hlm]; exact hj))
    unfold I64; omega⟩
  have hDn := fun w => rden_any n w
  have hGp := fun w => rgap_any n w
  have hTm := fun w => times_any (great l) (gz (n : Nat)) w (by unfold I64; omega) (by unfold I64; omega)
  have sg : Sz (great l * gz (n : Nat)).natAbs 2 := by rw [Int.natAbs_mul]; exact (Sz.u64 (by unfold W64; omega)).mul (Sz.u64 (by unfold W64; omega))
  generalize hD : den (n : Nat) = D at *
  have hD2 : D = 2560000000 ∨ D = 255 := hden
  have hOd := fun w => rzof_any D (by omega) (by omega) w
  have sd : Sz D.natAbs 1 := Sz.u64 (by unfold W64; omega)
  have hAd := fun u v w h1 h2 => rzadd_any u v (great l * gz (n : Nat)) D w h1 h2 (sg.more (by omega)) (sd.more (by omega))
  have hw2 : IntKind.i64.wrap (2 * D) = 2 * D := by rw [IntKind.wrap_i64]; omega
  have hO2 := fun w => rzof_any (2 * D) (by omega) (by omega) w
  have sD : Sz (2 * D).natAbs 400000 := (Sz.u64 (by unfold W64; omega)).more (by omega)
  generalize great l * gz (n : Nat) + D = bd at *
  generalize great l * gz (n : Nat) = pg at *
  generalize gz (n : Nat) = gg at *
  generalize loadC n (great l) (packC n l) = M at *
  generalize packC n l = K at *
  generalize great l = s at *
  have LK := Lib.hid hlk
  have LM := Lib.hid hlm
  have HFar := Lib.hid hFar
  have HI := Lib.hid hIn
  have hk4 : ((n : Int) == 4) = false := by rw [beq_eq_false_iff_ne]; omega
  have hk5 : decide ((n : Int) = 4) = false := decide_eq_false (by omega)
  clear hFar hIn hlk hlm hmin hg0 hg1 gz0 gz1 hden hD hD2 sg sd ho iL
  have hB := Below.refl w.heap.size w
  go_enter Tryz.func4, Tryz.ntmps4
  go_wp2_with fail
  refine (hP _ h).mono ?_
  rintro e w1 ⟨b1, rfl, ⟨bc, bw, rfl, hy, hw⟩, b1⟩
  replace h := h.below b1
  replace hB := hB.trans (b1.mono hB.size)
  obtain ⟨Ac, Cc, rfl, _, _⟩ := id hy.form
  obtain ⟨Aw, Cw, rfl, _, _⟩ := id hw.form
  rw [LK.out] at hy ⊢
  obtain ⟨V1, eV, hb, bV1⟩ := box1 w1 25 #[.int .i64 n, .int .i64 s, .slice Ac l.length Cc, .slice Aw 0 Cw]
  obtain ⟨X1, eX⟩ : ∃ X, X = w1.heap.size := ⟨_, rfl⟩
  rw [← eX] at hb
  have EV1 := Lib.hid (And.intro eV eX)
  clear eV eX
  go_upto_region 4 with fail
  rw [← EV1.out.1, ← EV1.out.2]
  replace h := h.below bV1
  replace hy := hy.below bV1
  replace hw := hw.below bV1
  replace hB := hB.trans (bV1.mono hB.size)
  obtain ⟨c3_hb_0, c3_hb_1, c3_hb_2, c3_hb_3⟩ := hb.quad
  go_wp2_with fail
  refine (hLd _ _ ⟨_, _, rfl, hy, hw⟩).mono ?_
  rintro e w2 ⟨v9, rfl, h9, b2⟩
  replace h := h.below b2
  replace hy := hy.below b2
  replace hw := hw.below b2
  replace hb := hb.below b2 hb.lt
  replace hB := hB.trans (b2.mono hB.size)
  clear c3_hb_0 c3_hb_1 c3_hb_2 c3_hb_3
  obtain ⟨c4_hb_0, c4_hb_1, c4_hb_2, c4_hb_3⟩ := hb.quad
  obtain ⟨A9, C9, rfl, _, _⟩ := id h9.form
  rw [LM.out] at h9 ⊢
  obtain ⟨x0, x1, x2, x3⟩ := hb.quad
  go_upto_region 9 with fail
  refine wp_region_noPanic ?_
  refine wp_region_held_drew (S := fun w' => w'.cell? ⟨X1, 1, none⟩ = some (.int .i64 s)) (by kernel_rfl) ?_ (fun hHeld => ?_)
  · exact cellB (by first | assumption | exact bdrew _ | exact Below.refl _ _ | exact balloc (bdrew _) _ | exact balloc (by assumption) _ | exact balloc (Below.refl _ _) _ | exact bset (bset (by assumption) (by first | assumption | exact Nat.le_refl _) _) (by first | assumption | exact Nat.le_refl _) _) x1
  refine wpAnyH_take (i := 0) (v := ?rv0) rfl (by kernel_rfl) (by kernel_rfl) (by kernel_rfl) (fun _ _ _ h => h) (Or.inl ⟨by kernel_rfl, ?rhy0⟩) (by assumption) ?rrest0
  case rhy0 => (intro w hSw; (try dsimp only at hSw); go_simp; try (with_reducible rfl))
  try simp only [Act.put]
  refine wpAnyH_take (i := 1) (v := ?rv1) rfl (by kernel_rfl) (by kernel_rfl) (by kernel_rfl) (fun _ _ _ h => h) (Or.inl ⟨by kernel_rfl, ?rhy1⟩) (by assumption) ?rrest1
  case rhy1 => (intro w hSw; (try dsimp only at hSw); go_simp; try (with_reducible rfl))
  try simp only [Act.put]
  refine wpAnyH_take (i := 2) (v := ?rv2) rfl (by kernel_rfl) (by kernel_rfl) (by kernel_rfl) (fun _ _ _ h => h) (Or.inl ⟨by kernel_rfl, ?rhy2⟩) (by assumption) ?rrest2
  case rhy2 => (intro w hSw; (try dsimp only at hSw); go_simp; try (with_reducible rfl))
  try simp only [Act.put]
  refine wpAnyH_take (i := 3) (v := ?rv3) rfl (by kernel_rfl) (by kernel_rfl) (by kernel_rfl) (fun _ _ _ h => h) (Or.inl ⟨by kernel_rfl, ?rhy3⟩) (by assumption) ?rrest3
  case rhy3 => (intro w hSw; (try dsimp only at hSw); go_simp; try (with_reducible rfl))
  try simp only [Act.put]
  refine wpAnyH_take (i := 4) (v := ?rv4) rfl (by kernel_rfl) (by kernel_rfl) (by kernel_rfl) (fun _ _ _ h => h) (Or.inl ⟨by kernel_rfl, ?rhy4⟩) (by assumption) ?rrest4
  case rhy4 => (intro w hSw; (try dsimp only at hSw); go_simp; try (with_reducible rfl))
  try simp only [Act.put]
  refine wpAnyH_take (i := 5) (v := ?rv5) rfl (by kernel_rfl) (by kernel_rfl) (by kernel_rfl) (fun _ _ _ h => h) (Or.inl ⟨by kernel_rfl, ?rhy5⟩) (by assumption) ?rrest5
  case rhy5 => (intro w hSw; (try dsimp only at hSw); go_simp; try (with_reducible rfl))
  try simp only [Act.put]
  refine wpAnyH_take (i := 6) (v := ?rv6) rfl (by kernel_rfl) (by kernel_rfl) (by kernel_rfl) (fun _ _ _ h => h) (Or.inl ⟨by kernel_rfl, ?rhy6⟩) (by assumption) ?rrest6
  case rhy6 => (intro w hSw; (try dsimp only at hSw); go_simp; try (with_reducible rfl))
  try simp only [Act.put]
  refine wpAnyH_take (i := 7) (v := ?rv7) rfl (by kernel_rfl) (by kernel_rfl) (by kernel_rfl) (fun _ _ _ h => h) (Or.inl ⟨by kernel_rfl, ?rhy7⟩) (by assumption) ?rrest7
  case rhy7 => (intro w hSw; (try dsimp only at hSw); go_simp; try (with_reducible rfl))
  try simp only [Act.put]
  refine wpAnyH_take (i := 8) (v := ?rv8) rfl (by kernel_rfl) (by kernel_rfl) (by kernel_rfl) (fun _ _ _ h => h) (Or.inl ⟨by kernel_rfl, ?rhy8⟩) (by assumption) ?rrest8
  case rhy8 => (intro w hSw; (try dsimp only at hSw); go_simp; try (with_reducible rfl))
  try simp only [Act.put]
  refine wpAnyH_ready (rs := [9]) (by kernel_rfl) (by simp) ?_
  refine AllReadyH.cons rfl (fun K hK => ?_) AllReadyH.nil
  go_simp
  refine (hG _ ?_).mono ?_
  · exact h.below (by first | assumption | exact bdrew _ | exact Below.refl _ _ | exact balloc (bdrew _) _ | exact balloc (by assumption) _ | exact balloc (Below.refl _ _) _ | exact bset (bset (by assumption) (by first | assumption | exact Nat.le_refl _) _) (by first | assumption | exact Nat.le_refl _) _)
  rintro e w41 ⟨rfl, n41, hn41⟩
  have b41 := Below.refl w2.heap.size w2
  have B41 : Below w2.heap.size w2 w41 := by rw [hn41]; exact below_drewN (by first | assumption | exact bdrew _ | exact Below.refl _ _ | exact balloc (bdrew _) _ | exact balloc (by assumption) _ | exact balloc (Below.refl _ _) _ | exact bset (bset (by assumption) (by first | assumption | exact Nat.le_refl _) _) (by first | assumption | exact Nat.le_refl _) _) n41
  clear hn41 b41
  go_wp2_with fail
  refine hK.out _ _ ?_ (fun hHeld => ?_)
  · exact cellB (by first | assumption | exact bdrew _ | exact Below.refl _ _ | exact balloc (bdrew _) _ | exact balloc (by assumption) _ | exact balloc (Below.refl _ _) _ | exact bset (bset (by assumption) (by first | assumption | exact Nat.le_refl _) _) (by first | assumption | exact Nat.le_refl _) _) x1
  clear hK K
  try simp only [Act.put]
  try dsimp only
  try simp only [Act.put]
  refine wpAnyH_take (i := 10) (v := ?rv10) rfl (by kernel_rfl) (by kernel_rfl) (by kernel_rfl) (fun _ _ _ h => h) (Or.inl ⟨by kernel_rfl, ?rhy10⟩) (by assumption) ?rrest10
  case rhy10 => (intro w hSw; (try dsimp only at hSw); go_simp; try (with_reducible rfl))
  try simp only [Act.put]
  try dsimp only
  try simp only [Act.put]
  refine wpAnyH_take (i := 11) (v := ?rv11) rfl (by kernel_rfl) (by kernel_rfl) (by kernel_rfl) (fun _ _ _ h => h) (Or.inl ⟨by kernel_rfl, ?rhy11⟩) (by assumption) ?rrest11
  case rhy11 => (intro w hSw; (try dsimp only at hSw); go_simp; try (with_reducible rfl))
  try simp only [Act.put]
  try dsimp only
  try simp only [Act.put]
  refine wpAnyH_done (by kernel_rfl) ?_ _
  refine NoPanic.normal ?_
  replace h := h.below B41
  replace hb := hb.below B41 hb.lt
  replace h9 := h9.below B41
  replace hB := hB.trans (B41.mono hB.size)
  clear c4_hb_0 c4_hb_1 c4_hb_2 c4_hb_3
  obtain ⟨c5_hb_0, c5_hb_1, c5_hb_2, c5_hb_3⟩ := hb.quad
  clear x0 x1 x2 x3
  clear c5_hb_0 c5_hb_1 c5_hb_2 c5_hb_3
  obtain ⟨c6_hb_0, c6_hb_1, c6_hb_2, c6_hb_3⟩ := hb.quad
  go_wp2_with fail
  refine (hDn _).mono ?_
  rintro e w3 ⟨rfl, rfl⟩
  obtain ⟨x0, x1, x2, x3⟩ := hb.quad
  go_upto_region 12 with fail
  go_cut [9] (fun s wx => ∃ Z A1 L1 C1, s = .pointer (some ⟨Z, 0, none⟩) ∧ Blk wx Z 41 #[.bool (decide (bd < 0)), .slice A1 L1 C1] ∧ IsN wx (.slice A1 L1 C1) bd.natAbs ∧ Below w41.heap.size w41 wx)
  case first =>
    go_region_held3 (fun w' => w'.cell? ⟨X1, 1, none⟩ = some (.int .i64 s))
      (first | exact cellB (by first | assumption | exact bdrew _ | exact Below.refl _ _ | exact balloc (bdrew _) _ | exact balloc (by assumption) _ | exact balloc (Below.refl _ _) _ | exact bset (bset (by assumption) (by first | assumption | exact Nat.le_refl _) _) (by first | assumption | exact Nat.le_refl _) _) x1)
      (first
        | (go_at_call 23; (with_reducible refine (hGp _).mono ?_); rintro e w1_ ⟨rfl, b1_⟩; (first | ((first | have hXX := newX b1_ w41 (by first | assumption | exact bdrew _) | have hXX := newX (undrew b1_) w41 (by first | exact Below.refl _ _ | assumption)); obtain ⟨hZ, sZ⟩ := hXX; try simp only [World.size_drew] at hZ sZ) | (have hZ := hZ.below b1_ hZ.lt) | skip); have B1_ := bstep (a := w41) (by first | assumption | exact bdrew _ | exact Below.refl _ _ | exact balloc (bdrew _) _ | exact balloc (by assumption) _ | exact balloc (Below.refl _ _) _ | exact bset (bset (by assumption) (by first | assumption | exact Nat.le_refl _) _) (by first | assumption | exact Nat.le_refl _) _) b1_)
        | (go_at_call 22; (with_reducible refine (hTm _).mono ?_); rintro e w2_ ⟨v2_, rfl, h2_, b2_⟩; (first | ((first | have hXX := newX b2_ w41 (by first | assumption | exact bdrew _) | have hXX := newX (undrew b2_) w41 (by first | exact Below.refl _ _ | assumption)); obtain ⟨hZ, sZ⟩ := hXX; try simp only [World.size_drew] at hZ sZ) | (have hZ := hZ.below b2_ hZ.lt) | skip); have B2_ := bstep (a := w41) (by first | assumption | exact bdrew _ | exact Below.refl _ _ | exact balloc (bdrew _) _ | exact balloc (by assumption) _ | exact balloc (Below.refl _ _) _ | exact bset (bset (by assumption) (by first | assumption | exact Nat.le_refl _) _) (by first | assumption | exact Nat.le_refl _) _) b2_)
        | (go_at_call 24; (with_reducible refine (hOd _).mono ?_); rintro e w3_ ⟨v3_, rfl, h3_, b3_⟩; (first | ((first | have hXX := newX b3_ w41 (by first | assumption | exact bdrew _) | have hXX := newX (undrew b3_) w41 (by first | exact Below.refl _ _ | assumption)); obtain ⟨hZ, sZ⟩ := hXX; try simp only [World.size_drew] at hZ sZ) | (have hZ := hZ.below b3_ hZ.lt) | skip); have B3_ := bstep (a := w41) (by first | assumption | exact bdrew _ | exact Below.refl _ _ | exact balloc (bdrew _) _ | exact balloc (by assumption) _ | exact balloc (Below.refl _ _) _ | exact bset (bset (by assumption) (by first | assumption | exact Nat.le_refl _) _) (by first | assumption | exact Nat.le_refl _) _) b3_; have h2_ := h2_.below (bstep (a := w2_) (by first | exact Below.refl _ _ | exact balloc (Below.refl _ _) _ | exact bdrew _ | exact (balloc (Below.refl _ _) _).drew) b3_))
        | (go_at_call 21; (with_reducible refine (hAd _ _ _ ?_ ?_).mono ?_); exact h2_.below (by first | exact Below.refl _ _ | exact balloc (Below.refl _ _) _ | exact bdrew _ | exact (balloc (Below.refl _ _) _).drew); exact h3_.below (by first | exact Below.refl _ _ | exact balloc (Below.refl _ _) _ | exact bdrew _ | exact (balloc (Below.refl _ _) _).drew); rintro e w4_ ⟨v4_, rfl, ⟨n4_, rfl, hl_⟩, b4_⟩; (first | ((first | have hXX := newX b4_ w41 (by first | assumption | exact bdrew _) | have hXX := newX (undrew b4_) w41 (by first | exact Below.refl _ _ | assumption)); obtain ⟨hZ, sZ⟩ := hXX; try simp only [World.size_drew] at hZ sZ) | (have hZ := hZ.below b4_ hZ.lt) | skip); have B4_ := bstep (a := w41) (by first | assumption | exact bdrew _ | exact Below.refl _ _ | exact balloc (bdrew _) _ | exact balloc (by assumption) _ | exact balloc (Below.refl _ _) _ | exact bset (bset (by assumption) (by first | assumption | exact Nat.le_refl _) _) (by first | assumption | exact Nat.le_refl _) _) b4_; obtain ⟨A4, L4, C4, rfl⟩ := hl_.frm; (try (obtain ⟨z0, z1⟩ := hZ.cells2; have y0 := hZ.frozen 0; have y1 := hZ.frozen 1))))
    all_goals (go_wp2_with fail; go_meet)
    all_goals
      first
        | exact ⟨_, _, _, _, rfl, Blk.new _ _ _, hl_.below (balloc (Below.refl _ _) _), balloc B4_ _⟩
        | (obtain ⟨p1, p2, p3⟩ := put2 hZ (.bool (decide (bd < 0))) (.slice A4 L4 C4) (by simp [noU]) B4_ (by first | assumption | exact Nat.le_refl _)
           exact ⟨_, _, _, _, rfl, p1, p2 _ _ hl_, p3⟩)
  obtain ⟨Z1, P1, P2, P3, rfl, hZ1, hN1, bz⟩ := hcut
  clear x0 x1 x2 x3
  replace h := h.below bz
  replace hb := hb.below bz hb.lt
  replace h9 := h9.below bz
  replace hB := hB.trans (bz.mono hB.size)
  clear c6_hb_0 c6_hb_1 c6_hb_2 c6_hb_3
  obtain ⟨c7_hb_0, c7_hb_1, c7_hb_2, c7_hb_3⟩ := hb.quad
  clear hGp hTm hOd hAd hb
  clear c7_hb_0 c7_hb_1 c7_hb_2 c7_hb_3
  obtain ⟨c8_hZ1_0, c8_hZ1_1⟩ := hZ1.cells2
  go_wp2
  go_loopw [10] (fun i wr => ∃ j : Nat, i = .int .i64 j ∧ j ≤ l.length ∧ Below wc.heap.size wc wr) (fun i _ => l.length - (intOf i).toNat)
  case atStart => exact ⟨0, rfl, by omega, Below.refl _ _⟩
  case round =>
    obtain ⟨j, rfl, hj, bl⟩ := hrel
    replace h := h.below bl
    replace h9 := h9.below bl
    replace hZ1 := hZ1.below bl hZ1.lt
    replace hN1 := hN1.below bl
    replace hB := hB.trans (bl.mono hB.size)
    clear c8_hZ1_0 c8_hZ1_1
    obtain ⟨c9_hZ1_0, c9_hZ1_1⟩ := hZ1.cells2
    by_cases hlt : j < l.length
    · obtain ⟨adl, rfl, cl⟩ := h.at_ hlt
      obtain ⟨adm, rfl, cm⟩ := h9.at_ (k := j) (by rw [LM.out]; exact hlt)
      have i0 : (0 : Int) ≤ (j : Int) := by omega
      have i1 : (j : Int) < (l.length : Int) := by omega
      have hfar := HFar.out j hlt
      have jx := HI.out.1 j hlt
      have jy := HI.out.2 j hlt
      generalize iat l j = x at *
      generalize iat M j = y at *
      have s1 : Sz x.natAbs 1 := Sz.u64 (by have := jx.1; have := jx.2; unfold W64; omega)
      have s2 : Sz y.natAbs 1 := Sz.u64 (by have := jy.1; have := jy.2; unfold W64; omega)
      have s3 : Sz (x - y).natAbs 1 := Sz.u64 (by have := jx.1; have := jx.2; have := jy.1; have := jy.2; unfold W64; omega)
      have hOx := fun w => rzof_any x jx.1 jx.2 w
      have hOy := fun w => rzof_any y jy.1 jy.2 w
      have hSb := fun u v w h1 h2 => rzsub_any u v x y w h1 h2 (s1.more (by omega)) (s2.more (by omega))
      have hMl := fun u v w h1 h2 => rzmul_any u v (((x - y).natAbs : Nat) : Int) (2 * D) w h1 h2 (by rw [Int.natAbs_natCast]; exact s3.more (by omega)) sD
      generalize x - y = df at *
      have hCm := fun u v w h1 h2 => rzcmp_any u v (((df.natAbs : Nat) : Int) * (2 * D)) bd w h1 h2
      have hcz : cmpI (((df.natAbs : Nat) : Int) * (2 * D)) bd = -1 ∨ cmpI (((df.natAbs : Nat) : Int) * (2 * D)) bd = 0 := by unfold cmpI; (repeat' split) <;> first | omega | simp
      generalize ((df.natAbs : Nat) : Int) * (2 * D) = fr at *
      generalize cmpI fr bd = cz at *
      clear s1 s2 s3 jx jy hfar
      go_upto_region 16 with fail
      go_cut [11] (fun s wx => ∃ Z A1 L1 C1, s = .pointer (some ⟨Z, 0, none⟩) ∧ Blk wx Z 41 #[.bool (decide (df < 0)), .slice A1 L1 C1] ∧ IsN wx (.slice A1 L1 C1) df.natAbs ∧ Below wr.heap.size wr wx)
      case first =>
        go_region_held3 (fun w' => w'.cell? (adl.add j) = some (.int .i64 x) ∧ w'.cell? (adm.add j) = some (.int .i64 y))
          (first | exact ⟨cellB (by first | assumption | exact bdrew _ | exact Below.refl _ _ | exact balloc (bdrew _) _ | exact balloc (by assumption) _ | exact balloc (Below.refl _ _) _ | exact bset (bset (by assumption) (by first | assumption | exact Nat.le_refl _) _) (by first | assumption | exact Nat.le_refl _) _) cl, cellB (by first | assumption | exact bdrew _ | exact Below.refl _ _ | exact balloc (bdrew _) _ | exact balloc (by assumption) _ | exact balloc (Below.refl _ _) _ | exact bset (bset (by assumption) (by first | assumption | exact Nat.le_refl _) _) (by first | assumption | exact Nat.le_refl _) _) cm⟩)
          (first
            | (go_at_call 24; (with_reducible refine (hOx _).mono ?_); rintro e w1_ ⟨v1_, rfl, h1_, b1_⟩; (first | ((first | have hXX := newX b1_ wr (by first | assumption | exact bdrew _) | have hXX := newX (undrew b1_) wr (by first | exact Below.refl _ _ | assumption)); obtain ⟨hZ, sZ⟩ := hXX; try simp only [World.size_drew] at hZ sZ) | (have hZ := hZ.below b1_ hZ.lt) | skip); have B1_ := bstep (a := wr) (by first | assumption | exact bdrew _ | exact Below.refl _ _ | exact balloc (bdrew _) _ | exact balloc (by assumption) _ | exact balloc (Below.refl _ _) _ | exact bset (bset (by assumption) (by first | assumption | exact Nat.le_refl _) _) (by first | assumption | exact Nat.le_refl _) _) b1_)
            | (go_at_call 24; (with_reducible refine (hOy _).mono ?_); rintro e w2_ ⟨v2_, rfl, h2_, b2_⟩; (first | ((first | have hXX := newX b2_ wr (by first | assumption | exact bdrew _) | have hXX := newX (undrew b2_) wr (by first | exact Below.refl _ _ | assumption)); obtain ⟨hZ, sZ⟩ := hXX; try simp only [World.size_drew] at hZ sZ) | (have hZ := hZ.below b2_ hZ.lt) | skip); have B2_ := bstep (a := wr) (by first | assumption | exact bdrew _ | exact Below.refl _ _ | exact balloc (bdrew _) _ | exact balloc (by assumption) _ | exact balloc (Below.refl _ _) _ | exact bset (bset (by assumption) (by first | assumption | exact Nat.le_refl _) _) (by first | assumption | exact Nat.le_refl _) _) b2_; have h1_ := h1_.below (bstep (a := w1_) (by first | exact Below.refl _ _ | exact balloc (Below.refl _ _) _ | exact bdrew _ | exact (balloc (Below.refl _ _) _).drew) b2_))
            | (go_at_call 25; (with_reducible refine (hSb _ _ _ ?_ ?_).mono ?_); exact h1_.below (by first | exact Below.refl _ _ | exact balloc (Below.refl _ _) _ | exact bdrew _ | exact (balloc (Below.refl _ _) _).drew); exact h2_.below (by first | exact Below.refl _ _ | exact balloc (Below.refl _ _) _ | exact bdrew _ | exact (balloc (Below.refl _ _) _).drew); rintro e w3_ ⟨v3_, rfl, ⟨n3_, rfl, hl_⟩, b3_⟩; (first | ((first | have hXX := newX b3_ wr (by first | assumption | exact bdrew _) | have hXX := newX (undrew b3_) wr (by first | exact Below.refl _ _ | assumption)); obtain ⟨hZ, sZ⟩ := hXX; try simp only [World.size_drew] at hZ sZ) | (have hZ := hZ.below b3_ hZ.lt) | skip); have B3_ := bstep (a := wr) (by first | assumption | exact bdrew _ | exact Below.refl _ _ | exact balloc (bdrew _) _ | exact balloc (by assumption) _ | exact balloc (Below.refl _ _) _ | exact bset (bset (by assumption) (by first | assumption | exact Nat.le_refl _) _) (by first | assumption | exact Nat.le_refl _) _) b3_; obtain ⟨A4, L4, C4, rfl⟩ := hl_.frm; (try (obtain ⟨z0, z1⟩ := hZ.cells2; have y0 := hZ.frozen 0; have y1 := hZ.frozen 1))))
        all_goals (go_wp2_with fail; go_meet)
        all_goals
          first
            | exact ⟨_, _, _, _, rfl, Blk.new _ _ _, hl_.below (balloc (Below.refl _ _) _), balloc B3_ _⟩
            | (obtain ⟨p1, p2, p3⟩ := put2 hZ (.bool (decide (df < 0))) (.slice A4 L4 C4) (by simp [noU]) B3_ (by first | assumption | exact Nat.le_refl _)
               exact ⟨_, _, _, _, rfl, p1, p2 _ _ hl_, p3⟩)
      obtain ⟨Z2, Q1, Q2, Q3, rfl, hZ2, hN2, bz⟩ := hcut
      clear cl cm hOx hOy hSb
      have bl2 := bl.trans (bz.mono bl.size)
      clear bl
      replace h := h.below bz
      replace h9 := h9.below bz
      replace hZ1 := hZ1.below bz hZ1.lt
      replace hN1 := hN1.below bz
      replace hB := hB.trans (bz.mono hB.size)
      clear c9_hZ1_0 c9_hZ1_1
      obtain ⟨c10_hZ1_0, c10_hZ1_1⟩ := hZ1.cells2
      obtain ⟨ky0, ky1⟩ := hZ2.cells2
      obtain ⟨wq, hwq⟩ : ∃ wq, wq = 0 := ⟨0, rfl⟩
      clear wq hwq
      have HZ2 : ∀ w0, IsN w0 (.slice Q1 Q2 Q3) df.natAbs → IsZ w0 (.agg #[.bool false, .slice Q1 Q2 Q3]) (((df.natAbs : Nat) : Int)) := fun w0 h => ⟨_, by rw [decide_eq_false (by omega)], by simpa using h⟩
      go_upto_region 17 with fail
      go_cut [12] (fun s wx => ∃ Z A1 L1 C1, s = .pointer (some ⟨Z, 0, none⟩) ∧ Blk wx Z 41 #[.bool (decide (fr < 0)), .slice A1 L1 C1] ∧ IsN wx (.slice A1 L1 C1) fr.natAbs ∧ Below wc.heap.size wc wx)
      case first =>
        go_region_held3 (fun w' => w'.cell? ⟨Z2, 1, none⟩ = some (.slice Q1 Q2 Q3))
          (first | exact cellB (by first | assumption | exact bdrew _ | exact Below.refl _ _ | exact balloc (bdrew _) _ | exact balloc (by assumption) _ | exact balloc (Below.refl _ _) _ | exact bset (bset (by assumption) (by first | assumption | exact Nat.le_refl _) _) (by first | assumption | exact Nat.le_refl _) _) ky1)
          (first
            | (go_at_call 24; (with_reducible refine (hO2 _).mono ?_); rintro e w1_ ⟨v1_, rfl, h1_, b1_⟩; (first | ((first | have hXX := newX b1_ wc (by first | assumption | exact bdrew _) | have hXX := newX (undrew b1_) wc (by first | exact Below.refl _ _ | assumption)); obtain ⟨hZ, sZ⟩ := hXX; try simp only [World.size_drew] at hZ sZ) | (have hZ := hZ.below b1_ hZ.lt) | skip); have B1_ := bstep (a := wc) (by first | assumption | exact bdrew _ | exact Below.refl _ _ | exact balloc (bdrew _) _ | exact balloc (by assumption) _ | exact balloc (Below.refl _ _) _ | exact bset (bset (by assumption) (by first | assumption | exact Nat.le_refl _) _) (by first | assumption | exact Nat.le_refl _) _) b1_)
            | (go_at_call 26; (with_reducible refine (hMl _ _ _ ?_ ?_).mono ?_); exact HZ2 _ (hN2.below (by first | assumption | exact bdrew _ | exact Below.refl _ _ | exact balloc (bdrew _) _ | exact balloc (by assumption) _ | exact balloc (Below.refl _ _) _ | exact bset (bset (by assumption) (by first | assumption | exact Nat.le_refl _) _) (by first | assumption | exact Nat.le_refl _) _)); exact h1_.below (by first | exact Below.refl _ _ | exact balloc (Below.refl _ _) _ | exact bdrew _ | exact (balloc (Below.refl _ _) _).drew); rintro e w2_ ⟨v2_, rfl, ⟨n2_, rfl, hl_⟩, b2_⟩; (first | ((first | have hXX := newX b2_ wc (by first | assumption | exact bdrew _) | have hXX := newX (undrew b2_) wc (by first | exact Below.refl _ _ | assumption)); obtain ⟨hZ, sZ⟩ := hXX; try simp only [World.size_drew] at hZ sZ) | (have hZ := hZ.below b2_ hZ.lt) | skip); have B2_ := bstep (a := wc) (by first | assumption | exact bdrew _ | exact Below.refl _ _ | exact balloc (bdrew _) _ | exact balloc (by assumption) _ | exact balloc (Below.refl _ _) _ | exact bset (bset (by assumption) (by first | assumption | exact Nat.le_refl _) _) (by first | assumption | exact Nat.le_refl _) _) b2_; obtain ⟨A4, L4, C4, rfl⟩ := hl_.frm; (try (obtain ⟨z0, z1⟩ := hZ.cells2; have y0 := hZ.frozen 0; have y1 := hZ.frozen 1))))
        all_goals (go_wp2_with fail; go_meet)
        all_goals
          first
            | exact ⟨_, _, _, _, rfl, Blk.new _ _ _, hl_.below (balloc (Below.refl _ _) _), balloc B2_ _⟩
            | (obtain ⟨p1, p2, p3⟩ := put2 hZ (.bool (decide (fr < 0))) (.slice A4 L4 C4) (by simp [noU]) B2_ (by first | assumption | exact Nat.le_refl _)
               exact ⟨_, _, _, _, rfl, p1, p2 _ _ hl_, p3⟩)
      obtain ⟨Z3, U1, U2, U3, rfl, hZ3, hN3, bz⟩ := hcut
      clear ky0 ky1 hMl HZ2
      have bl3 := bl2.trans (bz.mono bl2.size)
      clear bl2
      replace h := h.below bz
      replace h9 := h9.below bz
      replace hZ1 := hZ1.below bz hZ1.lt
      replace hN1 := hN1.below bz
      replace hB := hB.trans (bz.mono hB.size)
      clear c10_hZ1_0 c10_hZ1_1
      obtain ⟨c11_hZ1_0, c11_hZ1_1⟩ := hZ1.cells2
      clear c11_hZ1_0 c11_hZ1_1
      obtain ⟨c12_hZ1_0, c12_hZ1_1⟩ := hZ1.cells2
      obtain ⟨c12_hZ3_0, c12_hZ3_1⟩ := hZ3.cells2
      rcases hcz with rfl | rfl
      all_goals
        go_wp2_with fail
        refine (hCm _ _ _ ⟨_, rfl, hN3⟩ ⟨_, rfl, hN1⟩).mono ?_
        rintro e w8 ⟨rfl, b8⟩
        go_wp2
        go_roundw
        case rel => exact ⟨j + 1, by go_num, by omega, bl3.trans (b8.mono bl3.size)⟩
        case measure => simp [intOf]; omega
    · obtain rfl : j = l.length := by omega
      go_wp2_with fail
      refine (hL _).mono ?_
      rintro e w4 ⟨rfl, b4⟩
      replace h := h.below b4
      replace h9 := h9.below b4
      replace hZ1 := hZ1.below b4 hZ1.lt
      replace hN1 := hN1.below b4
      replace hB := hB.trans (b4.mono hB.size)
      clear c9_hZ1_0 c9_hZ1_1
      obtain ⟨c10_hZ1_0, c10_hZ1_1⟩ := hZ1.cells2
      go_wp2
      go_ret
      exact ⟨rfl, hB⟩
theorem BlockNear_all (v : Value) (k : Int) (l : List Int) (w : World) (h : IsI w v l) (iL : ∀ x ∈ l, I64 x) :
    Calls Tryz.prog 4 #[.int .i64 k, v] w fun e w' => e = .returned (.bool true) ∧ Below w.heap.size w w' := by
  by_cases hl : 20 < l.length
  · exact BlockNear_few v k l w h hl
  by_cases hk : 0 ≤ k ∧ k ≤ 3
  · obtain ⟨n, rfl, hn⟩ := kind_nat hk
    cases ho : l.any (oddB (sgn (n : Nat)))
    · exact BlockNear_coded v n hn l w h hl iL ho
    · exact BlockNear_no v n l w h hl (fun w h => pack_odd n v l w h hk ho)
  · by_cases hk4 : k = 4
    · subst hk4
      cases ho : l.any (oddB true)
      · exact BlockNear_wide v l w h hl ho
      · exact BlockNear_no v 4 l w h hl (fun w h => pack_oddw 4 v l w h rfl ho)
    · exact BlockNear_no v k l w h hl (fun w h => pack_kind k v l w h (by omega))
end Go.Proofs.YtgcebmgmmhdcpaaGreat
