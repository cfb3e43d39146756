/- ratchetlaw04.alive: the live question of layer 4. -/
import Derived.Test.YtooonjcpdbbniaaGreatDoorReadT
import Derived.Test.YtooonjcpdbbniaaGreatDoorPZed2
import Derived.Test.YtooonjcpdbbniaaGreatDoorRZed04
import Derived.Deep.RegionHeld3
namespace Go.Proofs.YtooonjcpdbbniaaGreatDoor
open Go.RowKit Go.Lib Go.Shelf
attribute [local go_sem ↓] Go.wp_at_zero Go.wp_at_succ
theorem IsZ.frm {w : World} {v : Value} {z : Int} (h : IsZ w v z) : ∃ A L C, v = .agg #[.bool (decide (z < 0)), .slice A L C] ∧ IsN w (.slice A L C) z.natAbs := by
  obtain ⟨nv, rfl, hn⟩ := h
  obtain ⟨A, L, C, rfl⟩ := hn.frm
  exact ⟨A, L, C, rfl, hn⟩
theorem alive04_vals : readT [45, 49, 50] = (-12, 0, 0) ∧ readT [45, 48, 53] = (0, 1, 3) ∧ itoa 144 = [49, 52, 52] ∧ fitV (-5) = -5 ∧ fitB (-5) = true ∧ cmpI (-12) 12 = -1 := by decide +kernel
theorem zread_as (l : List UInt8) (z a e0 : Int) (b : Bool) (hb : decide (z < 0) = b) (h : readT l = (z, a, e0)) (w : World) :
    Calls Tryz.prog 22 #[strV l] w fun e w' => ∃ A L C, e = .returned (.tuple #[.agg #[.bool b, .slice A L C], .int .i64 a, .int .i64 e0]) ∧ IsZ w' (.agg #[.bool b, .slice A L C]) z ∧ Below w.heap.size w w' := by
  refine (zread_any l w).mono ?_
  rintro e w' ⟨zv, rfl, h1, h2⟩
  rw [h] at h1 ⊢
  obtain ⟨A, L, C, rfl, _⟩ := h1.frm
  subst hb
  exact ⟨A, L, C, rfl, h1, h2⟩
theorem rightZ_of (z : Int) : rightZ (decide (z < 0)) (limbs z.natAbs) = true := by
  unfold rightZ
  rw [Bool.and_eq_true, Bool.not_eq_true', Bool.and_eq_false_iff]
  refine ⟨decide_eq_true (limbs_rt _), ?_⟩
  by_cases h : z < 0
  · right; exact decide_eq_false fun e => by have := limbs_nil.1 (List.eq_nil_of_length_eq_zero e); omega
  · left; exact decide_eq_false h
theorem dec144 : (decDigits ((-12) * (-12) : Int).natAbs).length ≤ 100000000 := by decide +kernel
theorem pzright_good (v : Value) (z : Int) (w : World) (h : IsZ w v z) :
    Calls Tryz.prog 6 #[v] w fun e w' => e = .returned (.bool true) ∧ Below w.heap.size w w' := by
  obtain ⟨nv, rfl, hn⟩ := h
  refine (pzright_any _ nv _ w hn).mono ?_
  rintro e w' ⟨rfl, hb⟩
  exact ⟨by rw [rightZ_of], hb⟩
theorem sz_small {n : Nat} (h : n < W64) : Sz n 400000 := Nat.le_trans (limbs_len_le (k := 1) (by rw [Nat.pow_one]; exact h)) (by decide)
set_option maxRecDepth 100000 in
set_option maxHeartbeats 2000000 in
theorem alive04_any (w : World) (ht : TabOk w) : Calls Tryz.prog 5 #[] w fun e w' => e = .returned (.bool true) ∧ Below w.heap.size w w' := by
  obtain ⟨e1, e2, e3, e4, e5, e6⟩ := alive04_vals
  have hR1 := fun w => zread_as [45, 49, 50] (-12) 0 0 true rfl e1 w
  have hR2 := fun w => zread_as [45, 48, 53] 0 1 3 false rfl e2 w
  have hO := fun w => pzof_any 7 (by decide) (by decide) w
  have hA := fun va vb w ha hb => pzadd_any va vb (-12) 7 w ha hb (sz_small (by decide)) (sz_small (by decide))
  have hI := fun v w h => pzint_any v (-12 + 7) w h
  have hM := fun va vb w ha hb => pzmul_any va vb (-12) (-12) w ha hb (sz_small (by decide)) (sz_small (by decide))
  have hP := fun v w h ht => pzprint_any v ((-12) * (-12)) w h (Nat.le_trans (limbs_len_le (k := 1) (by decide)) (by decide)) (dec144) ht
  have hC := fun va vb w ha hb => pzcmp_any va vb (-12) (-(-12)) w ha hb
  rw [show (-12 : Int) + 7 = -5 from rfl, e4, e5] at hI
  rw [show (-12 : Int) * (-12) = 144 from rfl, e3] at hP
  rw [show (-(-12) : Int) = 12 from rfl, e6] at hC
  have hB := Below.refl w.heap.size w
  clear e1 e2 e3 e4 e5 e6
  go_enter Tryz.func5, Tryz.ntmps5
  go_wp2_with fail
  refine (hR1 _).mono ?_
  rintro e w1 ⟨A1, L1, C1, rfl, h1, b1⟩
  replace ht := ht.below b1
  replace hB := hB.trans (b1.mono hB.size)
  obtain ⟨V1, eV, hX, bV1⟩ := box1 w1 25 #[.bool true, .slice A1 L1 C1]
  obtain ⟨X1, eX⟩ : ∃ X, X = w1.heap.size := ⟨_, rfl⟩
  rw [← eX] at hX
  have EV1 := Lib.hid (And.intro eV eX)
  clear eV eX
  replace ht := ht.below bV1
  replace h1 := h1.below bV1
  replace hB := hB.trans (bV1.mono hB.size)
  obtain ⟨c3_hX_0, c3_hX_1⟩ := hX.cells2
  go_wp2_with fail
  rw [← EV1.out.1, ← EV1.out.2]
  refine (hR2 _).mono ?_
  rintro e w2 ⟨A2, L2, C2, rfl, _, b2⟩
  replace ht := ht.below b2
  replace h1 := h1.below b2
  replace hX := hX.below b2 hX.lt
  replace hB := hB.trans (b2.mono hB.size)
  clear c3_hX_0 c3_hX_1
  obtain ⟨c4_hX_0, c4_hX_1⟩ := hX.cells2
  obtain ⟨V2, eV, hY, bV2⟩ := box1 w2 25 #[.bool false, .slice A2 L2 C2]
  obtain ⟨X2, eX⟩ : ∃ X, X = w2.heap.size := ⟨_, rfl⟩
  rw [← eX] at hY
  have EV2 := Lib.hid (And.intro eV eX)
  clear eV eX
  go_upto_region 3 with fail
  rw [← EV2.out.1, ← EV2.out.2]
  replace ht := ht.below bV2
  replace h1 := h1.below bV2
  replace hX := hX.below bV2 hX.lt
  replace hB := hB.trans (bV2.mono hB.size)
  clear c4_hX_0 c4_hX_1
  obtain ⟨c5_hX_0, c5_hX_1⟩ := hX.cells2
  clear c5_hX_0 c5_hX_1
  obtain ⟨c6_hX_0, c6_hX_1⟩ := hX.cells2
  obtain ⟨c6_hY_0, c6_hY_1⟩ := hY.cells2
  clear c6_hX_0 c6_hX_1 c6_hY_0 c6_hY_1
  replace hB := hB.drew
  replace h1 := h1.below (bdrew V2)
  replace ht := ht.below (bdrew V2)
  replace hX := hX.drew
  replace hY := hY.drew
  refine wp_region_noPanic ?_
  refine wp_region_held_drew (S := fun w' => w'.cell? ⟨X1, 0, none⟩ = some (.bool true) ∧ w'.cell? ⟨X1, 1, none⟩ = some (.slice A1 L1 C1)) (by kernel_rfl) ?_ (fun hHeld => ?_)
  · exact hX.cells2
  refine wpAnyH_take (i := 0) (v := ?rv0) rfl (by kernel_rfl) (by kernel_rfl) (by kernel_rfl) (fun _ _ _ h => h) (Or.inl ⟨by kernel_rfl, ?rhy0⟩) (by assumption) ?rrest0
  case rhy0 => (intro w hSw; (try dsimp only at hSw); go_simp; try (with_reducible rfl))
  try simp only [Act.put, lay1, lay2, lay3, lay4, lay5, lay6]
  refine wpAnyH_ready (rs := [1]) (by kernel_rfl) (by simp) ?_
  refine AllReadyH.cons rfl (fun K hK => ?_) AllReadyH.nil
  go_simp
  refine (hO _).mono ?_
  rintro e w3 ⟨v3, rfl, h3, b3⟩
  replace hB := hB.trans (b3.mono hB.size)
  replace h1 := h1.below b3
  replace ht := ht.below b3
  replace hX := hX.below b3 hX.lt
  replace hY := hY.below b3 hY.lt
  go_wp2_with fail
  refine hK.out _ _ ?_ (fun hHeld => ?_)
  · exact hX.cells2
  clear hK K
  try simp only [Act.put, lay1, lay2, lay3, lay4, lay5, lay6]
  refine wpAnyH_ready (rs := [2]) (by kernel_rfl) (by simp) ?_
  refine AllReadyH.cons rfl (fun K hK => ?_) AllReadyH.nil
  go_simp
  refine (hA _ _ _ h1 h3).mono ?_
  rintro e w4 ⟨v4, rfl, h4, b4⟩
  replace hB := hB.trans (b4.mono hB.size)
  replace h1 := h1.below b4
  replace ht := ht.below b4
  replace hX := hX.below b4 hX.lt
  replace hY := hY.below b4 hY.lt
  go_wp2_with fail
  refine hK.out _ _ ?_ (fun hHeld => ?_)
  · exact hX.cells2
  clear hK K
  try simp only [Act.put, lay1, lay2, lay3, lay4, lay5, lay6]
  refine wpAnyH_ready (rs := [3]) (by kernel_rfl) (by simp) ?_
  refine AllReadyH.cons rfl (fun K hK => ?_) AllReadyH.nil
  go_simp
  refine (hI _ _ h4).mono ?_
  rintro e w5 ⟨rfl, b5⟩
  replace hB := hB.trans (b5.mono hB.size)
  replace h1 := h1.below b5
  replace ht := ht.below b5
  replace hX := hX.below b5 hX.lt
  replace hY := hY.below b5 hY.lt
  go_wp2_with fail
  refine hK.out _ _ ?_ (fun hHeld => ?_)
  · exact hX.cells2
  clear hK K
  try simp only [Act.put, lay1, lay2, lay3, lay4, lay5, lay6]
  refine wpAnyH_take (i := 4) (v := ?rv4) rfl (by kernel_rfl) (by kernel_rfl) (by kernel_rfl) (fun _ _ _ h => h) (Or.inl ⟨by kernel_rfl, ?rhy4⟩) (by assumption) ?rrest4
  case rhy4 => (intro w hSw; (try dsimp only at hSw); go_simp; try (with_reducible rfl))
  try simp only [Act.put, lay1, lay2, lay3, lay4, lay5, lay6]
  refine wpAnyH_take (i := 5) (v := ?rv5) rfl (by kernel_rfl) (by kernel_rfl) (by kernel_rfl) (fun _ _ _ h => h) (Or.inl ⟨by kernel_rfl, ?rhy5⟩) (by assumption) ?rrest5
  case rhy5 => (intro w hSw; (try dsimp only at hSw); go_simp; try (with_reducible rfl))
  try simp only [Act.put, lay1, lay2, lay3, lay4, lay5, lay6]
  refine wpAnyH_take (i := 6) (v := ?rv6) rfl (by kernel_rfl) (by kernel_rfl) (by kernel_rfl) (fun _ _ _ h => h) (Or.inl ⟨by kernel_rfl, ?rhy6⟩) (by assumption) ?rrest6
  case rhy6 => (intro w hSw; (try dsimp only at hSw); go_simp; try (with_reducible rfl))
  try simp only [Act.put, lay1, lay2, lay3, lay4, lay5, lay6]
  try dsimp only
  try simp only [Act.put, lay1, lay2, lay3, lay4, lay5, lay6]
  refine wpAnyH_take (i := 7) (v := ?rv7) rfl (by kernel_rfl) (by kernel_rfl) (by kernel_rfl) (fun _ _ _ h => h) (Or.inl ⟨by kernel_rfl, ?rhy7⟩) (by assumption) ?rrest7
  case rhy7 => (intro w hSw; (try dsimp only at hSw); go_simp; try (with_reducible rfl))
  try simp only [Act.put, lay1, lay2, lay3, lay4, lay5, lay6]
  try dsimp only
  try simp only [Act.put, lay1, lay2, lay3, lay4, lay5, lay6]
  refine wpAnyH_take (i := 8) (v := ?rv8) rfl (by kernel_rfl) (by kernel_rfl) (by kernel_rfl) (fun _ _ _ h => h) (Or.inl ⟨by kernel_rfl, ?rhy8⟩) (by assumption) ?rrest8
  case rhy8 => (intro w hSw; (try dsimp only at hSw); go_simp; try (with_reducible rfl))
  try simp only [Act.put, lay1, lay2, lay3, lay4, lay5, lay6]
  try dsimp only
  try simp only [Act.put, lay1, lay2, lay3, lay4, lay5, lay6]
  refine wpAnyH_done (by kernel_rfl) ?_ _
  refine NoPanic.normal ?_
  go_upto_region 4 with fail
  replace hB := hB.drew
  replace h1 := h1.below (bdrew _)
  replace ht := ht.below (bdrew _)
  replace hX := hX.drew
  replace hY := hY.drew
  refine wp_region_noPanic ?_
  refine wp_region_held_drew (S := fun w' => w'.cell? ⟨X1, 0, none⟩ = some (.bool true) ∧ w'.cell? ⟨X1, 1, none⟩ = some (.slice A1 L1 C1)) (by kernel_rfl) ?_ (fun hHeld => ?_)
  · exact hX.cells2
  refine wpAnyH_take (i := 0) (v := ?qv0) rfl (by kernel_rfl) (by kernel_rfl) (by kernel_rfl) (fun _ _ _ h => h) (Or.inl ⟨by kernel_rfl, ?qhy0⟩) (by assumption) ?qrest0
  case qhy0 => (intro w hSw; (try dsimp only at hSw); go_simp; try (with_reducible rfl))
  try simp only [Act.put, lay1, lay2, lay3, lay4, lay5, lay6]
  refine wpAnyH_take (i := 1) (v := ?qv1) rfl (by kernel_rfl) (by kernel_rfl) (by kernel_rfl) (fun _ _ _ h => h) (Or.inl ⟨by kernel_rfl, ?qhy1⟩) (by assumption) ?qrest1
  case qhy1 => (intro w hSw; (try dsimp only at hSw); go_simp; try (with_reducible rfl))
  try simp only [Act.put, lay1, lay2, lay3, lay4, lay5, lay6]
  refine wpAnyH_take (i := 2) (v := ?qv2) rfl (by kernel_rfl) (by kernel_rfl) (by kernel_rfl) (fun _ _ _ h => h) (Or.inl ⟨by kernel_rfl, ?qhy2⟩) (by assumption) ?qrest2
  case qhy2 => (intro w hSw; (try dsimp only at hSw); go_simp; try (with_reducible rfl))
  try simp only [Act.put, lay1, lay2, lay3, lay4, lay5, lay6]
  refine wpAnyH_take (i := 3) (v := ?qv3) rfl (by kernel_rfl) (by kernel_rfl) (by kernel_rfl) (fun _ _ _ h => h) (Or.inl ⟨by kernel_rfl, ?qhy3⟩) (by assumption) ?qrest3
  case qhy3 => (intro w hSw; (try dsimp only at hSw); go_simp; try (with_reducible rfl))
  try simp only [Act.put, lay1, lay2, lay3, lay4, lay5, lay6]
  refine wpAnyH_take (i := 4) (v := ?qv4) rfl (by kernel_rfl) (by kernel_rfl) (by kernel_rfl) (fun _ _ _ h => h) (Or.inl ⟨by kernel_rfl, ?qhy4⟩) (by assumption) ?qrest4
  case qhy4 => (intro w hSw; (try dsimp only at hSw); go_simp; try (with_reducible rfl))
  try simp only [Act.put, lay1, lay2, lay3, lay4, lay5, lay6]
  refine wpAnyH_take (i := 5) (v := ?qv5) rfl (by kernel_rfl) (by kernel_rfl) (by kernel_rfl) (fun _ _ _ h => h) (Or.inl ⟨by kernel_rfl, ?qhy5⟩) (by assumption) ?qrest5
  case qhy5 => (intro w hSw; (try dsimp only at hSw); go_simp; try (with_reducible rfl))
  try simp only [Act.put, lay1, lay2, lay3, lay4, lay5, lay6]
  refine wpAnyH_take (i := 6) (v := ?qv6) rfl (by kernel_rfl) (by kernel_rfl) (by kernel_rfl) (fun _ _ _ h => h) (Or.inl ⟨by kernel_rfl, ?qhy6⟩) (by assumption) ?qrest6
  case qhy6 => (intro w hSw; (try dsimp only at hSw); go_simp; try (with_reducible rfl))
  try simp only [Act.put, lay1, lay2, lay3, lay4, lay5, lay6]
  refine wpAnyH_take (i := 7) (v := ?qv7) rfl (by kernel_rfl) (by kernel_rfl) (by kernel_rfl) (fun _ _ _ h => h) (Or.inl ⟨by kernel_rfl, ?qhy7⟩) (by assumption) ?qrest7
  case qhy7 => (intro w hSw; (try dsimp only at hSw); go_simp; try (with_reducible rfl))
  try simp only [Act.put, lay1, lay2, lay3, lay4, lay5, lay6]
  refine wpAnyH_take (i := 8) (v := ?qv8) rfl (by kernel_rfl) (by kernel_rfl) (by kernel_rfl) (fun _ _ _ h => h) (Or.inl ⟨by kernel_rfl, ?qhy8⟩) (by assumption) ?qrest8
  case qhy8 => (intro w hSw; (try dsimp only at hSw); go_simp; try (with_reducible rfl))
  try simp only [Act.put, lay1, lay2, lay3, lay4, lay5, lay6]
  refine wpAnyH_take (i := 9) (v := ?qv9) rfl (by kernel_rfl) (by kernel_rfl) (by kernel_rfl) (fun _ _ _ h => h) (Or.inl ⟨by kernel_rfl, ?qhy9⟩) (by assumption) ?qrest9
  case qhy9 => (intro w hSw; (try dsimp only at hSw); go_simp; try (with_reducible rfl))
  try simp only [Act.put, lay1, lay2, lay3, lay4, lay5, lay6]
  refine wpAnyH_take (i := 10) (v := ?qv10) rfl (by kernel_rfl) (by kernel_rfl) (by kernel_rfl) (fun _ _ _ h => h) (Or.inl ⟨by kernel_rfl, ?qhy10⟩) (by assumption) ?qrest10
  case qhy10 => (intro w hSw; (try dsimp only at hSw); go_simp; try (with_reducible rfl))
  try simp only [Act.put, lay1, lay2, lay3, lay4, lay5, lay6]
  refine wpAnyH_take (i := 11) (v := ?qv11) rfl (by kernel_rfl) (by kernel_rfl) (by kernel_rfl) (fun _ _ _ h => h) (Or.inl ⟨by kernel_rfl, ?qhy11⟩) (by assumption) ?qrest11
  case qhy11 => (intro w hSw; (try dsimp only at hSw); go_simp; try (with_reducible rfl))
  try simp only [Act.put, lay1, lay2, lay3, lay4, lay5, lay6]
  refine wpAnyH_take (i := 12) (v := ?qv12) rfl (by kernel_rfl) (by kernel_rfl) (by kernel_rfl) (fun _ _ _ h => h) (Or.inl ⟨by kernel_rfl, ?qhy12⟩) (by assumption) ?qrest12
  case qhy12 => (intro w hSw; (try dsimp only at hSw); go_simp; try (with_reducible rfl))
  try simp only [Act.put, lay1, lay2, lay3, lay4, lay5, lay6]
  refine wpAnyH_take (i := 13) (v := ?qv13) rfl (by kernel_rfl) (by kernel_rfl) (by kernel_rfl) (fun _ _ _ h => h) (Or.inl ⟨by kernel_rfl, ?qhy13⟩) (by assumption) ?qrest13
  case qhy13 => (intro w hSw; (try dsimp only at hSw); go_simp; try (with_reducible rfl))
  try simp only [Act.put, lay1, lay2, lay3, lay4, lay5, lay6]
  refine wpAnyH_take (i := 14) (v := ?qv14) rfl (by kernel_rfl) (by kernel_rfl) (by kernel_rfl) (fun _ _ _ h => h) (Or.inl ⟨by kernel_rfl, ?qhy14⟩) (by assumption) ?qrest14
  case qhy14 => (intro w hSw; (try dsimp only at hSw); go_simp; try (with_reducible rfl))
  try simp only [Act.put, lay1, lay2, lay3, lay4, lay5, lay6]
  refine wpAnyH_take (i := 15) (v := ?qv15) rfl (by kernel_rfl) (by kernel_rfl) (by kernel_rfl) (fun _ _ _ h => h) (Or.inl ⟨by kernel_rfl, ?qhy15⟩) (by assumption) ?qrest15
  case qhy15 => (intro w hSw; (try dsimp only at hSw); go_simp; try (with_reducible rfl))
  try simp only [Act.put, lay1, lay2, lay3, lay4, lay5, lay6]
  refine wpAnyH_take (i := 16) (v := ?qv16) rfl (by kernel_rfl) (by kernel_rfl) (by kernel_rfl) (fun _ _ _ h => h) (Or.inl ⟨by kernel_rfl, ?qhy16⟩) (by assumption) ?qrest16
  case qhy16 => (intro w hSw; (try dsimp only at hSw); go_simp; try (with_reducible rfl))
  try simp only [Act.put, lay1, lay2, lay3, lay4, lay5, lay6]
  refine wpAnyH_take (i := 17) (v := ?qv17) rfl (by kernel_rfl) (by kernel_rfl) (by kernel_rfl) (fun _ _ _ h => h) (Or.inl ⟨by kernel_rfl, ?qhy17⟩) (by assumption) ?qrest17
  case qhy17 => (intro w hSw; (try dsimp only at hSw); go_simp; try (with_reducible rfl))
  try simp only [Act.put, lay1, lay2, lay3, lay4, lay5, lay6]
  refine wpAnyH_take (i := 18) (v := ?qv18) rfl (by kernel_rfl) (by kernel_rfl) (by kernel_rfl) (fun _ _ _ h => h) (Or.inl ⟨by kernel_rfl, ?qhy18⟩) (by assumption) ?qrest18
  case qhy18 => (intro w hSw; (try dsimp only at hSw); go_simp; try (with_reducible rfl))
  try simp only [Act.put, lay1, lay2, lay3, lay4, lay5, lay6]
  refine wpAnyH_take (i := 19) (v := ?qv19) rfl (by kernel_rfl) (by kernel_rfl) (by kernel_rfl) (fun _ _ _ h => h) (Or.inl ⟨by kernel_rfl, ?qhy19⟩) (by assumption) ?qrest19
  case qhy19 => (intro w hSw; (try dsimp only at hSw); go_simp; try (with_reducible rfl))
  try simp only [Act.put, lay1, lay2, lay3, lay4, lay5, lay6]
  refine wpAnyH_take (i := 20) (v := ?qv20) rfl (by kernel_rfl) (by kernel_rfl) (by kernel_rfl) (fun _ _ _ h => h) (Or.inl ⟨by kernel_rfl, ?qhy20⟩) (by assumption) ?qrest20
  case qhy20 => (intro w hSw; (try dsimp only at hSw); go_simp; try (with_reducible rfl))
  try simp only [Act.put, lay1, lay2, lay3, lay4, lay5, lay6]
  refine wpAnyH_take (i := 21) (v := ?qv21) rfl (by kernel_rfl) (by kernel_rfl) (by kernel_rfl) (fun _ _ _ h => h) (Or.inl ⟨by kernel_rfl, ?qhy21⟩) (by assumption) ?qrest21
  case qhy21 => (intro w hSw; (try dsimp only at hSw); go_simp; try (with_reducible rfl))
  try simp only [Act.put, lay1, lay2, lay3, lay4, lay5, lay6]
  refine wpAnyH_take (i := 22) (v := ?qv22) rfl (by kernel_rfl) (by kernel_rfl) (by kernel_rfl) (fun _ _ _ h => h) (Or.inl ⟨by kernel_rfl, ?qhy22⟩) (by assumption) ?qrest22
  case qhy22 => (intro w hSw; (try dsimp only at hSw); go_simp; try (with_reducible rfl))
  try simp only [Act.put, lay1, lay2, lay3, lay4, lay5, lay6]
  refine wpAnyH_take (i := 23) (v := ?qv23) rfl (by kernel_rfl) (by kernel_rfl) (by kernel_rfl) (fun _ _ _ h => h) (Or.inl ⟨by kernel_rfl, ?qhy23⟩) (by assumption) ?qrest23
  case qhy23 => (intro w hSw; (try dsimp only at hSw); go_simp; try (with_reducible rfl))
  try simp only [Act.put, lay1, lay2, lay3, lay4, lay5, lay6]
  refine wpAnyH_ready (rs := [24]) (by kernel_rfl) (by simp) ?_
  refine AllReadyH.cons rfl (fun K hK => ?_) AllReadyH.nil
  go_simp
  refine (hM _ _ _ h1 h1).mono ?_
  rintro e w6 ⟨v6, rfl, h6, b6⟩
  replace hB := hB.trans (b6.mono hB.size)
  replace h1 := h1.below b6
  replace ht := ht.below b6
  replace hX := hX.below b6 hX.lt
  replace hY := hY.below b6 hY.lt
  go_wp2_with fail
  refine hK.out _ _ ?_ (fun hHeld => ?_)
  · exact hX.cells2
  clear hK K
  try simp only [Act.put, lay1, lay2, lay3, lay4, lay5, lay6]
  refine wpAnyH_ready (rs := [25]) (by kernel_rfl) (by simp) ?_
  refine AllReadyH.cons rfl (fun K hK => ?_) AllReadyH.nil
  go_simp
  refine (hP _ _ h6 ht).mono ?_
  rintro e w7 ⟨rfl, b7⟩
  replace hB := hB.trans (b7.mono hB.size)
  replace h1 := h1.below b7
  replace ht := ht.below b7
  replace hX := hX.below b7 hX.lt
  replace hY := hY.below b7 hY.lt
  go_wp2_with fail
  refine hK.out _ _ ?_ (fun hHeld => ?_)
  · exact hX.cells2
  clear hK K
  try simp only [Act.put, lay1, lay2, lay3, lay4, lay5, lay6]
  refine wpAnyH_take (i := 26) (v := ?qv26) rfl (by kernel_rfl) (by kernel_rfl) (by kernel_rfl) (fun _ _ _ h => h) (Or.inl ⟨by kernel_rfl, ?qhy26⟩) (by assumption) ?qrest26
  case qhy26 => (intro w hSw; (try dsimp only at hSw); go_simp; try (with_reducible rfl))
  try simp only [Act.put, lay1, lay2, lay3, lay4, lay5, lay6]
  refine wpAnyH_take (i := 27) (v := ?qv27) rfl (by kernel_rfl) (by kernel_rfl) (by kernel_rfl) (fun _ _ _ h => h) (Or.inl ⟨by kernel_rfl, ?qhy27⟩) (by assumption) ?qrest27
  case qhy27 => (intro w hSw; (try dsimp only at hSw); go_simp; try (with_reducible rfl))
  try simp only [Act.put, lay1, lay2, lay3, lay4, lay5, lay6]
  refine wpAnyH_take (i := 28) (v := ?qv28) rfl (by kernel_rfl) (by kernel_rfl) (by kernel_rfl) (fun _ _ _ h => h) (Or.inl ⟨by kernel_rfl, ?qhy28⟩) (by assumption) ?qrest28
  case qhy28 => (intro w hSw; (try dsimp only at hSw); go_simp; try (with_reducible rfl))
  try simp only [Act.put, lay1, lay2, lay3, lay4, lay5, lay6]
  refine wpAnyH_take (i := 29) (v := ?qv29) rfl (by kernel_rfl) (by kernel_rfl) (by kernel_rfl) (fun _ _ _ h => h) (Or.inl ⟨by kernel_rfl, ?qhy29⟩) (by assumption) ?qrest29
  case qhy29 => (intro w hSw; (try dsimp only at hSw); go_simp; try (with_reducible rfl))
  try simp only [Act.put, lay1, lay2, lay3, lay4, lay5, lay6]
  refine wpAnyH_ready (rs := [30]) (by kernel_rfl) (by simp) ?_
  refine AllReadyH.cons rfl (fun K hK => ?_) AllReadyH.nil
  go_simp
  refine (pzright_good _ _ _ h1).mono ?_
  rintro e w8 ⟨rfl, b8⟩
  replace hB := hB.trans (b8.mono hB.size)
  replace h1 := h1.below b8
  replace ht := ht.below b8
  replace hX := hX.below b8 hX.lt
  replace hY := hY.below b8 hY.lt
  go_wp2_with fail
  refine hK.out _ _ ?_ (fun hHeld => ?_)
  · exact hX.cells2
  clear hK K
  try simp only [Act.put, lay1, lay2, lay3, lay4, lay5, lay6]
  refine wpAnyH_take (i := 31) (v := ?qv31) rfl (by kernel_rfl) (by kernel_rfl) (by kernel_rfl) (fun _ _ _ h => h) (Or.inl ⟨by kernel_rfl, ?qhy31⟩) (by assumption) ?qrest31
  case qhy31 => (intro w hSw; (try dsimp only at hSw); go_simp; try (with_reducible rfl))
  try simp only [Act.put, lay1, lay2, lay3, lay4, lay5, lay6]
  refine wpAnyH_take (i := 32) (v := ?qv32) rfl (by kernel_rfl) (by kernel_rfl) (by kernel_rfl) (fun _ _ _ h => h) (Or.inl ⟨by kernel_rfl, ?qhy32⟩) (by assumption) ?qrest32
  case qhy32 => (intro w hSw; (try dsimp only at hSw); go_simp; try (with_reducible rfl))
  try simp only [Act.put, lay1, lay2, lay3, lay4, lay5, lay6]
  refine wpAnyH_take (i := 33) (v := ?qv33) rfl (by kernel_rfl) (by kernel_rfl) (by kernel_rfl) (fun _ _ _ h => h) (Or.inl ⟨by kernel_rfl, ?qhy33⟩) (by assumption) ?qrest33
  case qhy33 => (intro w hSw; (try dsimp only at hSw); go_simp; try (with_reducible rfl))
  try simp only [Act.put, lay1, lay2, lay3, lay4, lay5, lay6]
  refine wpAnyH_take (i := 34) (v := ?qv34) rfl (by kernel_rfl) (by kernel_rfl) (by kernel_rfl) (fun _ _ _ h => h) (Or.inl ⟨by kernel_rfl, ?qhy34⟩) (by assumption) ?qrest34
  case qhy34 => (intro w hSw; (try dsimp only at hSw); go_simp; try (with_reducible rfl))
  try simp only [Act.put, lay1, lay2, lay3, lay4, lay5, lay6]
  refine wpAnyH_ready (rs := [35]) (by kernel_rfl) (by simp) ?_
  refine AllReadyH.cons rfl (fun K hK => ?_) AllReadyH.nil
  go_simp
  refine (pzneg_any _ _ _ h1).mono ?_
  rintro e w9 ⟨v9, rfl, h9, b9⟩
  replace hB := hB.trans (b9.mono hB.size)
  replace h1 := h1.below b9
  replace ht := ht.below b9
  replace hX := hX.below b9 hX.lt
  replace hY := hY.below b9 hY.lt
  go_wp2_with fail
  refine hK.out _ _ ?_ (fun hHeld => ?_)
  · exact hX.cells2
  clear hK K
  try simp only [Act.put, lay1, lay2, lay3, lay4, lay5, lay6]
  refine wpAnyH_ready (rs := [36]) (by kernel_rfl) (by simp) ?_
  refine AllReadyH.cons rfl (fun K hK => ?_) AllReadyH.nil
  go_simp
  refine (hC _ _ _ h1 h9).mono ?_
  rintro e w10 ⟨rfl, b10⟩
  replace hB := hB.trans (b10.mono hB.size)
  replace h1 := h1.below b10
  replace ht := ht.below b10
  replace hX := hX.below b10 hX.lt
  replace hY := hY.below b10 hY.lt
  go_wp2_with fail
  refine hK.out _ _ ?_ (fun hHeld => ?_)
  · exact hX.cells2
  clear hK K
  try simp only [Act.put, lay1, lay2, lay3, lay4, lay5, lay6]
  refine wpAnyH_take (i := 37) (v := ?qv37) rfl (by kernel_rfl) (by kernel_rfl) (by kernel_rfl) (fun _ _ _ h => h) (Or.inl ⟨by kernel_rfl, ?qhy37⟩) (by assumption) ?qrest37
  case qhy37 => (intro w hSw; (try dsimp only at hSw); go_simp; try (with_reducible rfl))
  try simp only [Act.put, lay1, lay2, lay3, lay4, lay5, lay6]
  try dsimp only
  try simp only [Act.put, lay1, lay2, lay3, lay4, lay5, lay6]
  refine wpAnyH_take (i := 38) (v := ?qv38) rfl (by kernel_rfl) (by kernel_rfl) (by kernel_rfl) (fun _ _ _ h => h) (Or.inl ⟨by kernel_rfl, ?qhy38⟩) (by assumption) ?qrest38
  case qhy38 => (intro w hSw; (try dsimp only at hSw); go_simp; try (with_reducible rfl))
  try simp only [Act.put, lay1, lay2, lay3, lay4, lay5, lay6]
  try dsimp only
  try simp only [Act.put, lay1, lay2, lay3, lay4, lay5, lay6]
  refine wpAnyH_take (i := 39) (v := ?qv39) rfl (by kernel_rfl) (by kernel_rfl) (by kernel_rfl) (fun _ _ _ h => h) (Or.inl ⟨by kernel_rfl, ?qhy39⟩) (by assumption) ?qrest39
  case qhy39 => (intro w hSw; (try dsimp only at hSw); go_simp; try (with_reducible rfl))
  try simp only [Act.put, lay1, lay2, lay3, lay4, lay5, lay6]
  try dsimp only
  try simp only [Act.put, lay1, lay2, lay3, lay4, lay5, lay6]
  refine wpAnyH_done (by kernel_rfl) ?_ _
  refine NoPanic.normal ?_
  go_wp2
  go_ret
  exact ⟨rfl, hB⟩
end Go.Proofs.YtooonjcpdbbniaaGreatDoor
