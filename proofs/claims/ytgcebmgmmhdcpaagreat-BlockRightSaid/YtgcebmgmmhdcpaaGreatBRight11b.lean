/- RIGHT: what is packed is right, as long, and of the kind; what is loaded of a right one has no number whose size is above Scale; packed of it again by Wide it is there as it is. No conditions: every input. Printed by gen_loads11.py. -/
import Derived.Test.YtgcebmgmmhdcpaaGreatRef11b
import Derived.Deep.RegionHeld3
import Derived.Deep.DrawnRows
namespace Go.Proofs.YtgcebmgmmhdcpaaGreat
open Go.ChangeShapes Go.WideShapes Go.ChangeAt Go.RowKit
attribute [local go_sem ↓] Go.wp_at_zero Go.wp_at_succ
set_option maxRecDepth 100000 in
set_option maxHeartbeats 16000000 in
theorem BlockRight_wide (v : Value) (l : List Int) (w : World) (h : IsI w v l) (hl : ¬ 20 < l.length) (iL : ∀ x ∈ l, I64 x) (ho : l.any (oddB true) = false) :
    Calls Tryz.prog 5 #[.int .i64 4, v] w fun e w' => e = .returned (.bool true) ∧ Below w.heap.size w w' := by
  obtain ⟨Aa, Ca, rfl, _, _⟩ := id h.form
  have hL := fun w => alive11_any w
  have hP := fun w h => pack_wide 4 (.slice Aa l.length Ca) l w h rfl (by omega) ho
  have hR1 := fun v w h => rbright_any v 4 0 [] l w h (by simp) (by omega)
  have hR2 := fun v w h => bright_any v 4 0 [] l w h (by simp) (by omega)
  rw [wide_right (by omega) ho] at hR1 hR2
  have hN := fun v w h => blen_any v 4 0 [] l w h (by simp) (by omega)
  rw [show (([] : List Nat).length : Int) + (l.length : Int) = (l.length : Int) by simp] at hN
  have hLd := fun v w h => load_wide v 4 0 [] l w h rfl (by omega)
  have hBs := fun u v w h h' => bsame_any u v 4 0 [] l 4 0 [] l w h h'
  obtain ⟨M, hM⟩ : ∃ M, M = l := ⟨_, rfl⟩
  have hno : M.any (oddB true) = false := by rw [hM]; exact ho
  have hlm : M.length ≤ 20 := by rw [hM]; omega
  have hP2 := fun v w h => pack_wide 4 v M w h rfl (by omega) hno
  have hLd2 := fun v w h => load_wide v 4 0 [] M w h rfl (by omega)
  have hSm := fun u v w h h' => same_any u v M M w h h'
  rw [decide_eq_true (rfl : M = M)] at hSm
  rw [hM] at *
  clear hno hlm hM ho iL
  have hB := Below.refl w.heap.size w
  go_enter Tryz.func5, Tryz.ntmps5
  go_wp2_with fail
  refine (hP _ h).mono ?_
  rintro e w1 ⟨b1, rfl, ⟨bc, bw, rfl, hy, hw⟩, b1⟩
  replace h := h.below b1
  replace hB := hB.trans (b1.mono hB.size)
  obtain ⟨Ac, Cc, rfl, _, _⟩ := id hy.form
  obtain ⟨Aw, Cw, rfl, _, _⟩ := id hw.form
  obtain ⟨V1, eV, hb, bV1⟩ := box1 w1 25 #[.int .i64 4, .int .i64 0, .slice Ac 0 Cc, .slice Aw l.length Cw]
  obtain ⟨X1, eX⟩ : ∃ X, X = w1.heap.size := ⟨_, rfl⟩
  rw [← eX] at hb
  have EV1 := Lib.hid (And.intro eV eX)
  clear eV eX
  go_upto_region 4 with fail
  rw [← EV1.out.1, ← EV1.out.2]
  replace hy := hy.below bV1
  replace hw := hw.below bV1
  replace hB := hB.trans (bV1.mono hB.size)
  obtain ⟨c3_hb_0, c3_hb_1, c3_hb_2, c3_hb_3⟩ := hb.quad
  go_wp2_with fail
  refine (hR1 _ _ ⟨_, _, rfl, hy, hw⟩).mono ?_
  rintro e w2 ⟨rfl, b2⟩
  replace hy := hy.below b2
  replace hw := hw.below b2
  replace hb := hb.below b2 hb.lt
  replace hB := hB.trans (b2.mono hB.size)
  clear c3_hb_0 c3_hb_1 c3_hb_2 c3_hb_3
  obtain ⟨c4_hb_0, c4_hb_1, c4_hb_2, c4_hb_3⟩ := hb.quad
  go_wp2_with fail
  refine (hR2 _ _ ⟨_, _, rfl, hy, hw⟩).mono ?_
  rintro e w3 ⟨rfl, b3⟩
  replace hy := hy.below b3
  replace hw := hw.below b3
  replace hb := hb.below b3 hb.lt
  replace hB := hB.trans (b3.mono hB.size)
  clear c4_hb_0 c4_hb_1 c4_hb_2 c4_hb_3
  obtain ⟨c5_hb_0, c5_hb_1, c5_hb_2, c5_hb_3⟩ := hb.quad
  go_wp2_with fail
  refine (hN _ _ ⟨_, _, rfl, hy, hw⟩).mono ?_
  rintro e w4 ⟨rfl, b4⟩
  replace hy := hy.below b4
  replace hw := hw.below b4
  replace hb := hb.below b4 hb.lt
  replace hB := hB.trans (b4.mono hB.size)
  clear c5_hb_0 c5_hb_1 c5_hb_2 c5_hb_3
  obtain ⟨c6_hb_0, c6_hb_1, c6_hb_2, c6_hb_3⟩ := hb.quad
  go_wp2_with fail
  refine (hLd _ _ ⟨_, _, rfl, hy, hw⟩).mono ?_
  rintro e w5 ⟨v9, rfl, h9, b5⟩
  replace hy := hy.below b5
  replace hw := hw.below b5
  replace hb := hb.below b5 hb.lt
  replace hB := hB.trans (b5.mono hB.size)
  clear c6_hb_0 c6_hb_1 c6_hb_2 c6_hb_3
  obtain ⟨c7_hb_0, c7_hb_1, c7_hb_2, c7_hb_3⟩ := hb.quad
  obtain ⟨A9, C9, rfl, _, _⟩ := id h9.form
  obtain ⟨x0, x1, x2, x3⟩ := hb.quad
  go_upto_region 9 with fail
  refine wp_region_noPanic ?_
  refine wp_region_held_drew (S := fun w' => w'.cell? ⟨X1, 1, none⟩ = some (.int .i64 0)) (by kernel_rfl) ?_ (fun hHeld => ?_)
  · exact cellB (by first | assumption | exact bdrew _ | exact Below.refl _ _ | exact balloc (bdrew _) _ | exact balloc (by assumption) _ | exact balloc (Below.refl _ _) _ | exact bset (bset (by assumption) (by first | assumption | exact Nat.le_refl _) _) (by first | assumption | exact Nat.le_refl _) _) x1
  refine wpAnyH_take (i := 0) (v := ?rv0) rfl (by kernel_rfl) (by kernel_rfl) (by kernel_rfl) (fun _ _ _ h => h) (Or.inl ⟨by kernel_rfl, ?rhy0⟩) (by assumption) ?rrest0
  case rhy0 => (intro w hSw; (try dsimp only at hSw); go_simp; try (with_reducible rfl))
  try simp only [Act.put, List.getElem_toArray, List.getElem_cons_succ, List.getElem_cons_zero, List.setIfInBounds_toArray, List.set_cons_zero, List.set_cons_succ]
  refine wpAnyH_take (i := 1) (v := ?rv1) rfl (by kernel_rfl) (by kernel_rfl) (by kernel_rfl) (fun _ _ _ h => h) (Or.inl ⟨by kernel_rfl, ?rhy1⟩) (by assumption) ?rrest1
  case rhy1 => (intro w hSw; (try dsimp only at hSw); go_simp; try (with_reducible rfl))
  try simp only [Act.put, List.getElem_toArray, List.getElem_cons_succ, List.getElem_cons_zero, List.setIfInBounds_toArray, List.set_cons_zero, List.set_cons_succ]
  refine wpAnyH_take (i := 2) (v := ?rv2) rfl (by kernel_rfl) (by kernel_rfl) (by kernel_rfl) (fun _ _ _ h => h) (Or.inl ⟨by kernel_rfl, ?rhy2⟩) (by assumption) ?rrest2
  case rhy2 => (intro w hSw; (try dsimp only at hSw); go_simp; try (with_reducible rfl))
  try simp only [Act.put, List.getElem_toArray, List.getElem_cons_succ, List.getElem_cons_zero, List.setIfInBounds_toArray, List.set_cons_zero, List.set_cons_succ]
  refine wpAnyH_take (i := 3) (v := undef) rfl (by kernel_rfl) (by kernel_rfl) (by kernel_rfl) (fun _ _ _ h => h) (Or.inr ⟨by kernel_rfl, rfl⟩) (by assumption) ?_
  try simp only [Act.put, List.getElem_toArray, List.getElem_cons_succ, List.getElem_cons_zero, List.setIfInBounds_toArray, List.set_cons_zero, List.set_cons_succ]
  refine wpAnyH_take (i := 4) (v := undef) rfl (by kernel_rfl) (by kernel_rfl) (by kernel_rfl) (fun _ _ _ h => h) (Or.inr ⟨by kernel_rfl, rfl⟩) (by assumption) ?_
  try simp only [Act.put, List.getElem_toArray, List.getElem_cons_succ, List.getElem_cons_zero, List.setIfInBounds_toArray, List.set_cons_zero, List.set_cons_succ]
  refine wpAnyH_take (i := 5) (v := undef) rfl (by kernel_rfl) (by kernel_rfl) (by kernel_rfl) (fun _ _ _ h => h) (Or.inr ⟨by kernel_rfl, rfl⟩) (by assumption) ?_
  try simp only [Act.put, List.getElem_toArray, List.getElem_cons_succ, List.getElem_cons_zero, List.setIfInBounds_toArray, List.set_cons_zero, List.set_cons_succ]
  refine wpAnyH_take (i := 6) (v := undef) rfl (by kernel_rfl) (by kernel_rfl) (by kernel_rfl) (fun _ _ _ h => h) (Or.inr ⟨by kernel_rfl, rfl⟩) (by assumption) ?_
  try simp only [Act.put, List.getElem_toArray, List.getElem_cons_succ, List.getElem_cons_zero, List.setIfInBounds_toArray, List.set_cons_zero, List.set_cons_succ]
  refine wpAnyH_take (i := 7) (v := undef) rfl (by kernel_rfl) (by kernel_rfl) (by kernel_rfl) (fun _ _ _ h => h) (Or.inr ⟨by kernel_rfl, rfl⟩) (by assumption) ?_
  try simp only [Act.put, List.getElem_toArray, List.getElem_cons_succ, List.getElem_cons_zero, List.setIfInBounds_toArray, List.set_cons_zero, List.set_cons_succ]
  refine wpAnyH_take (i := 8) (v := ?rv8) rfl (by kernel_rfl) (by kernel_rfl) (by kernel_rfl) (fun _ _ _ h => h) (Or.inl ⟨by kernel_rfl, ?rhy8⟩) (by assumption) ?rrest8
  case rhy8 => (intro w hSw; (try dsimp only at hSw); go_simp; try (with_reducible rfl))
  try simp only [Act.put, List.getElem_toArray, List.getElem_cons_succ, List.getElem_cons_zero, List.setIfInBounds_toArray, List.set_cons_zero, List.set_cons_succ]
  refine wpAnyH_take (i := 9) (v := ?rv9) rfl (by kernel_rfl) (by kernel_rfl) (by kernel_rfl) (fun _ _ _ h => h) (Or.inl ⟨by kernel_rfl, ?rhy9⟩) (by assumption) ?rrest9
  case rhy9 => (intro w hSw; (try dsimp only at hSw); go_simp; try (with_reducible rfl))
  try simp only [Act.put, List.getElem_toArray, List.getElem_cons_succ, List.getElem_cons_zero, List.setIfInBounds_toArray, List.set_cons_zero, List.set_cons_succ]
  refine wpAnyH_take (i := 10) (v := ?rv10) rfl (by kernel_rfl) (by kernel_rfl) (by kernel_rfl) (fun _ _ _ h => h) (Or.inl ⟨by kernel_rfl, ?rhy10⟩) (by assumption) ?rrest10
  case rhy10 => (intro w hSw; (try dsimp only at hSw); go_simp; try (with_reducible rfl))
  try simp only [Act.put, List.getElem_toArray, List.getElem_cons_succ, List.getElem_cons_zero, List.setIfInBounds_toArray, List.set_cons_zero, List.set_cons_succ]
  refine wpAnyH_take (i := 11) (v := ?rv11) rfl (by kernel_rfl) (by kernel_rfl) (by kernel_rfl) (fun _ _ _ h => h) (Or.inl ⟨by kernel_rfl, ?rhy11⟩) (by assumption) ?rrest11
  case rhy11 => (intro w hSw; (try dsimp only at hSw); go_simp; try (with_reducible rfl))
  try simp only [Act.put, List.getElem_toArray, List.getElem_cons_succ, List.getElem_cons_zero, List.setIfInBounds_toArray, List.set_cons_zero, List.set_cons_succ]
  refine wpAnyH_take (i := 12) (v := ?rv12) rfl (by kernel_rfl) (by kernel_rfl) (by kernel_rfl) (fun _ _ _ h => h) (Or.inl ⟨by kernel_rfl, ?rhy12⟩) (by assumption) ?rrest12
  case rhy12 => (intro w hSw; (try dsimp only at hSw); go_simp; try (with_reducible rfl))
  try simp only [Act.put, List.getElem_toArray, List.getElem_cons_succ, List.getElem_cons_zero, List.setIfInBounds_toArray, List.set_cons_zero, List.set_cons_succ]
  refine wpAnyH_take (i := 13) (v := undef) rfl (by kernel_rfl) (by kernel_rfl) (by kernel_rfl) (fun _ _ _ h => h) (Or.inr ⟨by kernel_rfl, rfl⟩) (by assumption) ?_
  try simp only [Act.put, List.getElem_toArray, List.getElem_cons_succ, List.getElem_cons_zero, List.setIfInBounds_toArray, List.set_cons_zero, List.set_cons_succ]
  refine wpAnyH_take (i := 14) (v := undef) rfl (by kernel_rfl) (by kernel_rfl) (by kernel_rfl) (fun _ _ _ h => h) (Or.inr ⟨by kernel_rfl, rfl⟩) (by assumption) ?_
  try simp only [Act.put, List.getElem_toArray, List.getElem_cons_succ, List.getElem_cons_zero, List.setIfInBounds_toArray, List.set_cons_zero, List.set_cons_succ]
  refine wpAnyH_take (i := 15) (v := undef) rfl (by kernel_rfl) (by kernel_rfl) (by kernel_rfl) (fun _ _ _ h => h) (Or.inr ⟨by kernel_rfl, rfl⟩) (by assumption) ?_
  try simp only [Act.put, List.getElem_toArray, List.getElem_cons_succ, List.getElem_cons_zero, List.setIfInBounds_toArray, List.set_cons_zero, List.set_cons_succ]
  refine wpAnyH_take (i := 16) (v := ?rv16) rfl (by kernel_rfl) (by kernel_rfl) (by kernel_rfl) (fun _ _ _ h => h) (Or.inl ⟨by kernel_rfl, ?rhy16⟩) (by assumption) ?rrest16
  case rhy16 => (intro w hSw; (try dsimp only at hSw); go_simp; try (with_reducible rfl))
  try simp only [Act.put, List.getElem_toArray, List.getElem_cons_succ, List.getElem_cons_zero, List.setIfInBounds_toArray, List.set_cons_zero, List.set_cons_succ]
  refine wpAnyH_take (i := 17) (v := ?rv17) rfl (by kernel_rfl) (by kernel_rfl) (by kernel_rfl) (fun _ _ _ h => h) (Or.inl ⟨by kernel_rfl, ?rhy17⟩) (by assumption) ?rrest17
  case rhy17 => (intro w hSw; (try dsimp only at hSw); go_simp; try (with_reducible rfl))
  try simp only [Act.put, List.getElem_toArray, List.getElem_cons_succ, List.getElem_cons_zero, List.setIfInBounds_toArray, List.set_cons_zero, List.set_cons_succ]
  refine wpAnyH_take (i := 18) (v := undef) rfl (by kernel_rfl) (by kernel_rfl) (by kernel_rfl) (fun _ _ _ h => h) (Or.inr ⟨by kernel_rfl, rfl⟩) (by assumption) ?_
  try simp only [Act.put, List.getElem_toArray, List.getElem_cons_succ, List.getElem_cons_zero, List.setIfInBounds_toArray, List.set_cons_zero, List.set_cons_succ]
  refine wpAnyH_take (i := 19) (v := undef) rfl (by kernel_rfl) (by kernel_rfl) (by kernel_rfl) (fun _ _ _ h => h) (Or.inr ⟨by kernel_rfl, rfl⟩) (by assumption) ?_
  try simp only [Act.put, List.getElem_toArray, List.getElem_cons_succ, List.getElem_cons_zero, List.setIfInBounds_toArray, List.set_cons_zero, List.set_cons_succ]
  refine wpAnyH_take (i := 20) (v := undef) rfl (by kernel_rfl) (by kernel_rfl) (by kernel_rfl) (fun _ _ _ h => h) (Or.inr ⟨by kernel_rfl, rfl⟩) (by assumption) ?_
  try simp only [Act.put, List.getElem_toArray, List.getElem_cons_succ, List.getElem_cons_zero, List.setIfInBounds_toArray, List.set_cons_zero, List.set_cons_succ]
  refine wpAnyH_take (i := 21) (v := undef) rfl (by kernel_rfl) (by kernel_rfl) (by kernel_rfl) (fun _ _ _ h => h) (Or.inr ⟨by kernel_rfl, rfl⟩) (by assumption) ?_
  try simp only [Act.put, List.getElem_toArray, List.getElem_cons_succ, List.getElem_cons_zero, List.setIfInBounds_toArray, List.set_cons_zero, List.set_cons_succ]
  refine wpAnyH_take (i := 22) (v := undef) rfl (by kernel_rfl) (by kernel_rfl) (by kernel_rfl) (fun _ _ _ h => h) (Or.inr ⟨by kernel_rfl, rfl⟩) (by assumption) ?_
  try simp only [Act.put, List.getElem_toArray, List.getElem_cons_succ, List.getElem_cons_zero, List.setIfInBounds_toArray, List.set_cons_zero, List.set_cons_succ]
  try dsimp only
  try simp only [Act.put, List.getElem_toArray, List.getElem_cons_succ, List.getElem_cons_zero, List.setIfInBounds_toArray, List.set_cons_zero, List.set_cons_succ]
  refine wpAnyH_take (i := 23) (v := ?rv23) rfl (by kernel_rfl) (by kernel_rfl) (by kernel_rfl) (fun _ _ _ h => h) (Or.inl ⟨by kernel_rfl, ?rhy23⟩) (by assumption) ?rrest23
  case rhy23 => (intro w hSw; (try dsimp only at hSw); go_simp; try (with_reducible rfl))
  try simp only [Act.put, List.getElem_toArray, List.getElem_cons_succ, List.getElem_cons_zero, List.setIfInBounds_toArray, List.set_cons_zero, List.set_cons_succ]
  try dsimp only
  try simp only [Act.put, List.getElem_toArray, List.getElem_cons_succ, List.getElem_cons_zero, List.setIfInBounds_toArray, List.set_cons_zero, List.set_cons_succ]
  refine wpAnyH_take (i := 24) (v := ?rv24) rfl (by kernel_rfl) (by kernel_rfl) (by kernel_rfl) (fun _ _ _ h => h) (Or.inl ⟨by kernel_rfl, ?rhy24⟩) (by assumption) ?rrest24
  case rhy24 => (intro w hSw; (try dsimp only at hSw); go_simp; try (with_reducible rfl))
  try simp only [Act.put, List.getElem_toArray, List.getElem_cons_succ, List.getElem_cons_zero, List.setIfInBounds_toArray, List.set_cons_zero, List.set_cons_succ]
  try dsimp only
  try simp only [Act.put, List.getElem_toArray, List.getElem_cons_succ, List.getElem_cons_zero, List.setIfInBounds_toArray, List.set_cons_zero, List.set_cons_succ]
  refine wpAnyH_done (by kernel_rfl) ?_ _
  refine NoPanic.normal ?_
  obtain ⟨wd9, hwd⟩ : ∃ wd, wd = w5.drew := ⟨_, rfl⟩
  have bd : Below w5.heap.size w5 wd9 := by rw [hwd]; exact bdrew _
  have HWD := Lib.hid hwd
  clear hwd
  replace hy := hy.below bd
  replace hw := hw.below bd
  replace hb := hb.below bd hb.lt
  replace h9 := h9.below bd
  replace hB := hB.trans (bd.mono hB.size)
  obtain ⟨c8_hb_0, c8_hb_1, c8_hb_2, c8_hb_3⟩ := hb.quad
  clear x0 x1 x2 x3
  clear c7_hb_0 c7_hb_1 c7_hb_2 c7_hb_3 c8_hb_0 c8_hb_1 c8_hb_2 c8_hb_3
  obtain ⟨c9_hb_0, c9_hb_1, c9_hb_2, c9_hb_3⟩ := hb.quad
  go_wp2_with fail
  rw [← HWD.out]
  refine (hP2 _ _ h9).mono ?_
  rintro e w6 ⟨b2, rfl, ⟨bc2, bw2, rfl, hy2, hw2⟩, b6⟩
  replace hy := hy.below b6
  replace hw := hw.below b6
  replace hb := hb.below b6 hb.lt
  replace h9 := h9.below b6
  replace hB := hB.trans (b6.mono hB.size)
  clear c9_hb_0 c9_hb_1 c9_hb_2 c9_hb_3
  obtain ⟨c10_hb_0, c10_hb_1, c10_hb_2, c10_hb_3⟩ := hb.quad
  obtain ⟨Ac2, Cc2, rfl, _, _⟩ := id hy2.form
  obtain ⟨Aw2, Cw2, rfl, _, _⟩ := id hw2.form
  obtain ⟨V2, eV, hb2, bV2⟩ := box1 w6 25 #[.int .i64 4, .int .i64 0, .slice Ac2 0 Cc2, .slice Aw2 l.length Cw2]
  obtain ⟨X2, eX⟩ : ∃ X, X = w6.heap.size := ⟨_, rfl⟩
  rw [← eX] at hb2
  have EV2 := Lib.hid (And.intro eV eX)
  clear eV eX
  go_upto_region 12 with fail
  rw [← EV2.out.1, ← EV2.out.2]
  replace hy := hy.below bV2
  replace hw := hw.below bV2
  replace hb := hb.below bV2 hb.lt
  replace h9 := h9.below bV2
  replace hy2 := hy2.below bV2
  replace hw2 := hw2.below bV2
  replace hB := hB.trans (bV2.mono hB.size)
  clear c10_hb_0 c10_hb_1 c10_hb_2 c10_hb_3
  obtain ⟨c11_hb_0, c11_hb_1, c11_hb_2, c11_hb_3⟩ := hb.quad
  clear c11_hb_0 c11_hb_1 c11_hb_2 c11_hb_3
  obtain ⟨c12_hb_0, c12_hb_1, c12_hb_2, c12_hb_3⟩ := hb.quad
  obtain ⟨c12_hb2_0, c12_hb2_1, c12_hb2_2, c12_hb2_3⟩ := hb2.quad
  go_wp2_with fail
  refine (hL _).mono ?_
  rintro e w7 ⟨rfl, b7⟩
  replace hy := hy.below b7
  replace hw := hw.below b7
  replace hb := hb.below b7 hb.lt
  replace h9 := h9.below b7
  replace hy2 := hy2.below b7
  replace hw2 := hw2.below b7
  replace hb2 := hb2.below b7 hb2.lt
  replace hB := hB.trans (b7.mono hB.size)
  clear c12_hb_0 c12_hb_1 c12_hb_2 c12_hb_3 c12_hb2_0 c12_hb2_1 c12_hb2_2 c12_hb2_3
  obtain ⟨c13_hb_0, c13_hb_1, c13_hb_2, c13_hb_3⟩ := hb.quad
  obtain ⟨c13_hb2_0, c13_hb2_1, c13_hb2_2, c13_hb2_3⟩ := hb2.quad
  go_wp2_with fail
  refine (hLd2 _ _ ⟨_, _, rfl, hy2, hw2⟩).mono ?_
  rintro e w8 ⟨v10, rfl, h10, b8⟩
  replace hy := hy.below b8
  replace hw := hw.below b8
  replace hb := hb.below b8 hb.lt
  replace h9 := h9.below b8
  replace hy2 := hy2.below b8
  replace hw2 := hw2.below b8
  replace hb2 := hb2.below b8 hb2.lt
  replace hB := hB.trans (b8.mono hB.size)
  clear c13_hb_0 c13_hb_1 c13_hb_2 c13_hb_3 c13_hb2_0 c13_hb2_1 c13_hb2_2 c13_hb2_3
  obtain ⟨c14_hb_0, c14_hb_1, c14_hb_2, c14_hb_3⟩ := hb.quad
  obtain ⟨c14_hb2_0, c14_hb2_1, c14_hb2_2, c14_hb2_3⟩ := hb2.quad
  obtain ⟨A10, C10, rfl, _, _⟩ := id h10.form
  go_wp2_with fail
  refine (hSm _ _ _ h10 h9).mono ?_
  rintro e w9 ⟨rfl, n9, hn9⟩
  have b9 : Below w8.heap.size w8 w9 := by rw [hn9]; exact below_drewN (Below.refl _ _) n9
  clear hn9
  replace hy := hy.below b9
  replace hw := hw.below b9
  replace hb := hb.below b9 hb.lt
  replace h9 := h9.below b9
  replace hy2 := hy2.below b9
  replace hw2 := hw2.below b9
  replace hb2 := hb2.below b9 hb2.lt
  replace h10 := h10.below b9
  replace hB := hB.trans (b9.mono hB.size)
  clear c14_hb_0 c14_hb_1 c14_hb_2 c14_hb_3 c14_hb2_0 c14_hb2_1 c14_hb2_2 c14_hb2_3
  obtain ⟨c15_hb_0, c15_hb_1, c15_hb_2, c15_hb_3⟩ := hb.quad
  obtain ⟨c15_hb2_0, c15_hb2_1, c15_hb2_2, c15_hb2_3⟩ := hb2.quad
  go_wp2_with fail
  refine (hBs _ _ _ ⟨_, _, rfl, hy, hw⟩ ⟨_, _, rfl, hy, hw⟩).mono ?_
  rintro e w10 ⟨rfl, b10⟩
  replace hy := hy.below b10
  replace hw := hw.below b10
  replace hb := hb.below b10 hb.lt
  replace h9 := h9.below b10
  replace hy2 := hy2.below b10
  replace hw2 := hw2.below b10
  replace hb2 := hb2.below b10 hb2.lt
  replace h10 := h10.below b10
  replace hB := hB.trans (b10.mono hB.size)
  clear c15_hb_0 c15_hb_1 c15_hb_2 c15_hb_3 c15_hb2_0 c15_hb2_1 c15_hb2_2 c15_hb2_3
  obtain ⟨c16_hb_0, c16_hb_1, c16_hb_2, c16_hb_3⟩ := hb.quad
  obtain ⟨c16_hb2_0, c16_hb2_1, c16_hb2_2, c16_hb2_3⟩ := hb2.quad
  go_wp2
  go_ret
  exact ⟨by simp, hB⟩
end Go.Proofs.YtgcebmgmmhdcpaaGreat
