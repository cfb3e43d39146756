/- A right block that is loaded has as many numbers as it says, none greater than Scale, whatever its side, none below 0, if its kind is not signed. No conditions: every input. Printed by gen_loads11.py. -/
import Derived.Test.YtgcebmgmmhdcpaaGreatRef11b
import Derived.Test.YtgcebmgmmhdcpaaGreatBCases
import Derived.Deep.RegionHeld3
import Derived.Deep.DrawnRows
namespace Go.Proofs.YtgcebmgmmhdcpaaGreat
open Go.ChangeShapes Go.WideShapes Go.ChangeAt Go.RowKit
attribute [local go_sem ↓] Go.wp_at_zero Go.wp_at_succ
set_option maxRecDepth 100000 in
set_option maxHeartbeats 4000000 in
theorem BlockLoads_a (v : Value) (k : Int) (s : Int) (cs : List Nat) (wd : List Int) (w : World) (hu : IsBk w v k s cs wd) (l1 : cs.length ≤ 140737488351232) (l2 : wd.length ≤ 17592186044416) (h : ¬ (cs.length : Int) + wd.length ≤ 20) :
    Calls Tryz.prog 6 #[v] w fun e w' => e = .returned (.bool true) ∧ Below w.heap.size w w' := by
  obtain ⟨a, b, rfl, ha, hb⟩ := hu
  obtain ⟨Aa, Ca, rfl, _, _⟩ := id ha.form
  obtain ⟨Ab, Cb, rfl, _, _⟩ := id hb.form
  have hL := fun w => alive11_any w
  have hF := fun v w h => rbfew_any v k s cs wd w h (by omega) l2 20
  have hRt := fun v w h => rbright_any v k s cs wd w h (by omega) l2
  have f1 : decide ((cs.length : Int) + wd.length ≤ 20) = false := decide_eq_false h
  rw [f1] at hF
  obtain ⟨W0, hW, hR, hB⟩ := box1 w 25 #[.int .i64 k, .int .i64 s, .slice Aa cs.length Ca, .slice Ab wd.length Cb]
  obtain ⟨g, hg⟩ : ∃ g, g = w.heap.size := ⟨_, rfl⟩
  have hW' := Lib.hid (And.intro hW hg)
  rw [← hg] at hR
  have hgw : w.heap.size ≤ g := by omega
  clear hW hg
  have hX := hR
  replace ha := ha.below hB
  replace hb := hb.below hB
  obtain ⟨c1_hX_0, c1_hX_1, c1_hX_2, c1_hX_3⟩ := hX.quad
  go_enter Tryz.func6, Tryz.ntmps6
  go_wp2_with fail
  rw [← hW'.out.1, ← hW'.out.2]
  refine (hF _ _ ⟨_, _, rfl, ha, hb⟩).mono ?_
  rintro e w1 ⟨rfl, b1⟩
  replace ha := ha.below b1
  replace hb := hb.below b1
  replace hX := hX.below b1 hX.lt
  replace hB := hB.trans (b1.mono hB.size)
  clear c1_hX_0 c1_hX_1 c1_hX_2 c1_hX_3
  obtain ⟨c2_hX_0, c2_hX_1, c2_hX_2, c2_hX_3⟩ := hX.quad
  go_wp2_with fail
  refine (hL _).mono ?_
  rintro e w2 ⟨rfl, b2⟩
  replace ha := ha.below b2
  replace hb := hb.below b2
  replace hX := hX.below b2 hX.lt
  replace hB := hB.trans (b2.mono hB.size)
  clear c2_hX_0 c2_hX_1 c2_hX_2 c2_hX_3
  obtain ⟨c3_hX_0, c3_hX_1, c3_hX_2, c3_hX_3⟩ := hX.quad
  go_wp2
  go_ret
  exact ⟨rfl, hB⟩
set_option maxRecDepth 100000 in
set_option maxHeartbeats 4000000 in
theorem BlockLoads_b (v : Value) (k : Int) (s : Int) (cs : List Nat) (wd : List Int) (w : World) (hu : IsBk w v k s cs wd) (l1 : cs.length ≤ 140737488351232) (l2 : wd.length ≤ 17592186044416) (h : (cs.length : Int) + wd.length ≤ 20) (hr : blkR k s cs wd = false) :
    Calls Tryz.prog 6 #[v] w fun e w' => e = .returned (.bool true) ∧ Below w.heap.size w w' := by
  obtain ⟨a, b, rfl, ha, hb⟩ := hu
  obtain ⟨Aa, Ca, rfl, _, _⟩ := id ha.form
  obtain ⟨Ab, Cb, rfl, _, _⟩ := id hb.form
  have hL := fun w => alive11_any w
  have hF := fun v w h => rbfew_any v k s cs wd w h (by omega) l2 20
  have hRt := fun v w h => rbright_any v k s cs wd w h (by omega) l2
  have f1 : decide ((cs.length : Int) + wd.length ≤ 20) = true := decide_eq_true h
  rw [f1] at hF
  rw [hr] at hRt
  obtain ⟨W0, hW, hR, hB⟩ := box1 w 25 #[.int .i64 k, .int .i64 s, .slice Aa cs.length Ca, .slice Ab wd.length Cb]
  obtain ⟨g, hg⟩ : ∃ g, g = w.heap.size := ⟨_, rfl⟩
  have hW' := Lib.hid (And.intro hW hg)
  rw [← hg] at hR
  have hgw : w.heap.size ≤ g := by omega
  clear hW hg
  have hX := hR
  replace ha := ha.below hB
  replace hb := hb.below hB
  obtain ⟨c1_hX_0, c1_hX_1, c1_hX_2, c1_hX_3⟩ := hX.quad
  go_enter Tryz.func6, Tryz.ntmps6
  go_wp2_with fail
  rw [← hW'.out.1, ← hW'.out.2]
  refine (hF _ _ ⟨_, _, rfl, ha, hb⟩).mono ?_
  rintro e w1 ⟨rfl, b1⟩
  replace ha := ha.below b1
  replace hb := hb.below b1
  replace hX := hX.below b1 hX.lt
  replace hB := hB.trans (b1.mono hB.size)
  clear c1_hX_0 c1_hX_1 c1_hX_2 c1_hX_3
  obtain ⟨c2_hX_0, c2_hX_1, c2_hX_2, c2_hX_3⟩ := hX.quad
  go_wp2_with fail
  refine (hRt _ _ ⟨_, _, rfl, ha, hb⟩).mono ?_
  rintro e w2 ⟨rfl, b2⟩
  replace ha := ha.below b2
  replace hb := hb.below b2
  replace hX := hX.below b2 hX.lt
  replace hB := hB.trans (b2.mono hB.size)
  clear c2_hX_0 c2_hX_1 c2_hX_2 c2_hX_3
  obtain ⟨c3_hX_0, c3_hX_1, c3_hX_2, c3_hX_3⟩ := hX.quad
  go_wp2_with fail
  refine (hL _).mono ?_
  rintro e w3 ⟨rfl, b3⟩
  replace ha := ha.below b3
  replace hb := hb.below b3
  replace hX := hX.below b3 hX.lt
  replace hB := hB.trans (b3.mono hB.size)
  clear c3_hX_0 c3_hX_1 c3_hX_2 c3_hX_3
  obtain ⟨c4_hX_0, c4_hX_1, c4_hX_2, c4_hX_3⟩ := hX.quad
  go_wp2
  go_ret
  exact ⟨rfl, hB⟩
set_option maxRecDepth 100000 in
set_option maxHeartbeats 16000000 in
theorem BlockLoads_wide (v : Value) (s : Int) (cs : List Nat) (wd : List Int) (w : World) (hu : IsBk w v 4 s cs wd) (l1 : cs.length ≤ 140737488351232) (l2 : wd.length ≤ 17592186044416) (h : (cs.length : Int) + wd.length ≤ 20) (hr : blkR 4 s cs wd = true) (M : List Int) (hlm : (M.length : Int) = (cs.length : Int) + wd.length) (hLd : ∀ v w, IsBk w v 4 s cs wd → Calls Tryz.prog 16 #[v] w fun e w' => ∃ v', e = .returned v' ∧ IsI w' v' M ∧ Below w.heap.size w w') :
    Calls Tryz.prog 6 #[v] w fun e w' => e = .returned (.bool true) ∧ Below w.heap.size w w' := by
  obtain ⟨a, b, rfl, ha, hb⟩ := hu
  obtain ⟨Aa, Ca, rfl, _, _⟩ := id ha.form
  obtain ⟨Ab, Cb, rfl, _, _⟩ := id hb.form
  have hL := fun w => alive11_any w
  have hF := fun v w h => rbfew_any v 4 s cs wd w h (by omega) l2 20
  have hRt := fun v w h => rbright_any v 4 s cs wd w h (by omega) l2
  have f1 : decide ((cs.length : Int) + wd.length ≤ 20) = true := decide_eq_true h
  rw [f1] at hF
  rw [hr] at hRt
  have hN := fun v w h => blen_any v 4 s cs wd w h (by omega) l2
  have HLen := Lib.hid (show (cs.length : Int) + (wd.length : Int) = (M.length : Int) from hlm.symm)
  clear f1 hr h hlm l1 l2
  obtain ⟨W0, hW, hR, hB⟩ := box1 w 25 #[.int .i64 4, .int .i64 s, .slice Aa cs.length Ca, .slice Ab wd.length Cb]
  obtain ⟨g, hg⟩ : ∃ g, g = w.heap.size := ⟨_, rfl⟩
  have hW' := Lib.hid (And.intro hW hg)
  rw [← hg] at hR
  have hgw : w.heap.size ≤ g := by omega
  clear hW hg
  have hX := hR
  replace ha := ha.below hB
  replace hb := hb.below hB
  obtain ⟨c1_hX_0, c1_hX_1, c1_hX_2, c1_hX_3⟩ := hX.quad
  go_enter Tryz.func6, Tryz.ntmps6
  go_wp2_with fail
  rw [← hW'.out.1, ← hW'.out.2]
  refine (hF _ _ ⟨_, _, rfl, ha, hb⟩).mono ?_
  rintro e w1 ⟨rfl, b1⟩
  replace ha := ha.below b1
  replace hb := hb.below b1
  replace hX := hX.below b1 hX.lt
  replace hB := hB.trans (b1.mono hB.size)
  clear c1_hX_0 c1_hX_1 c1_hX_2 c1_hX_3
  obtain ⟨c2_hX_0, c2_hX_1, c2_hX_2, c2_hX_3⟩ := hX.quad
  go_wp2_with fail
  refine (hRt _ _ ⟨_, _, rfl, ha, hb⟩).mono ?_
  rintro e w2 ⟨rfl, b2⟩
  replace ha := ha.below b2
  replace hb := hb.below b2
  replace hX := hX.below b2 hX.lt
  replace hB := hB.trans (b2.mono hB.size)
  clear c2_hX_0 c2_hX_1 c2_hX_2 c2_hX_3
  obtain ⟨c3_hX_0, c3_hX_1, c3_hX_2, c3_hX_3⟩ := hX.quad
  go_wp2_with fail
  refine (hLd _ _ ⟨_, _, rfl, ha, hb⟩).mono ?_
  rintro e w3 ⟨v9, rfl, h9, b3⟩
  replace ha := ha.below b3
  replace hb := hb.below b3
  replace hX := hX.below b3 hX.lt
  replace hB := hB.trans (b3.mono hB.size)
  clear c3_hX_0 c3_hX_1 c3_hX_2 c3_hX_3
  obtain ⟨c4_hX_0, c4_hX_1, c4_hX_2, c4_hX_3⟩ := hX.quad
  obtain ⟨A9, C9, rfl, _, _⟩ := id h9.form
  go_wp2_with fail
  refine (hN _ _ ⟨_, _, rfl, ha, hb⟩).mono ?_
  rintro e w4 ⟨rfl, b4⟩
  replace ha := ha.below b4
  replace hb := hb.below b4
  replace hX := hX.below b4 hX.lt
  replace h9 := h9.below b4
  replace hB := hB.trans (b4.mono hB.size)
  clear c4_hX_0 c4_hX_1 c4_hX_2 c4_hX_3
  obtain ⟨c5_hX_0, c5_hX_1, c5_hX_2, c5_hX_3⟩ := hX.quad
  rw [HLen.out]
  go_wp2
  go_loopw [4] (fun i wr => ∃ j : Nat, i = .int .i64 j ∧ j ≤ M.length ∧ Below w4.heap.size w4 wr) (fun i _ => M.length - (intOf i).toNat)
  case atStart => exact ⟨0, rfl, by omega, Below.refl _ _⟩
  case round =>
    obtain ⟨j, rfl, hj, bl⟩ := hrel
    have hX := hX.below bl hX.lt
    have h9 := h9.below bl
    obtain ⟨x0, x1, x2, x3⟩ := hX.quad
    by_cases hlt : j < M.length
    · obtain ⟨ad, rfl, cx⟩ := h9.at_ hlt
      have i0 : (0 : Int) ≤ (j : Int) := by omega
      have i1 : (j : Int) < (M.length : Int) := by omega
      generalize iat M j = x at *
      go_upto_region 9 with fail
      refine wp_region_noPanic ?_
      refine wp_region_held_drew (S := fun w' => w'.cell? ⟨g, 0, none⟩ = some (.int .i64 4) ∧ w'.cell? ⟨g, 1, none⟩ = some (.int .i64 s) ∧ w'.cell? (ad.add j) = some (.int .i64 x)) (by kernel_rfl) ?_ (fun hHeld => ?_)
      · exact ⟨cellB (by first | assumption | exact bdrew _ | exact Below.refl _ _ | exact balloc (bdrew _) _ | exact balloc (by assumption) _ | exact balloc (Below.refl _ _) _ | exact bset (bset (by assumption) (by first | assumption | exact Nat.le_refl _) _) (by first | assumption | exact Nat.le_refl _) _) x0, cellB (by first | assumption | exact bdrew _ | exact Below.refl _ _ | exact balloc (bdrew _) _ | exact balloc (by assumption) _ | exact balloc (Below.refl _ _) _ | exact bset (bset (by assumption) (by first | assumption | exact Nat.le_refl _) _) (by first | assumption | exact Nat.le_refl _) _) x1, cellB (by first | assumption | exact bdrew _ | exact Below.refl _ _ | exact balloc (bdrew _) _ | exact balloc (by assumption) _ | exact balloc (Below.refl _ _) _ | exact bset (bset (by assumption) (by first | assumption | exact Nat.le_refl _) _) (by first | assumption | exact Nat.le_refl _) _) cx⟩
      refine wpAnyH_take (i := 0) (v := ?pv0) rfl (by kernel_rfl) (by kernel_rfl) (by kernel_rfl) (fun _ _ _ h => h) (Or.inl ⟨by kernel_rfl, ?phy0⟩) (by assumption) ?prest0
      case phy0 => (intro w hSw; (try dsimp only at hSw); go_simp; try (with_reducible rfl))
      try simp only [Act.put, List.getElem_toArray, List.getElem_cons_succ, List.getElem_cons_zero, List.setIfInBounds_toArray, List.set_cons_zero, List.set_cons_succ]
      refine wpAnyH_take (i := 1) (v := ?pv1) rfl (by kernel_rfl) (by kernel_rfl) (by kernel_rfl) (fun _ _ _ h => h) (Or.inl ⟨by kernel_rfl, ?phy1⟩) (by assumption) ?prest1
      case phy1 => (intro w hSw; (try dsimp only at hSw); go_simp; try (with_reducible rfl))
      try simp only [Act.put, List.getElem_toArray, List.getElem_cons_succ, List.getElem_cons_zero, List.setIfInBounds_toArray, List.set_cons_zero, List.set_cons_succ]
      refine wpAnyH_take (i := 2) (v := ?pv2) rfl (by kernel_rfl) (by kernel_rfl) (by kernel_rfl) (fun _ _ _ h => h) (Or.inl ⟨by kernel_rfl, ?phy2⟩) (by assumption) ?prest2
      case phy2 => (intro w hSw; (try dsimp only at hSw); go_simp; try (with_reducible rfl))
      try simp only [Act.put, List.getElem_toArray, List.getElem_cons_succ, List.getElem_cons_zero, List.setIfInBounds_toArray, List.set_cons_zero, List.set_cons_succ]
      refine wpAnyH_take (i := 3) (v := ?pv3) rfl (by kernel_rfl) (by kernel_rfl) (by kernel_rfl) (fun _ _ _ h => h) (Or.inl ⟨by kernel_rfl, ?phy3⟩) (by assumption) ?prest3
      case phy3 => (intro w hSw; (try dsimp only at hSw); go_simp; try (with_reducible rfl))
      try simp only [Act.put, List.getElem_toArray, List.getElem_cons_succ, List.getElem_cons_zero, List.setIfInBounds_toArray, List.set_cons_zero, List.set_cons_succ]
      refine wpAnyH_take (i := 4) (v := undef) rfl (by kernel_rfl) (by kernel_rfl) (by kernel_rfl) (fun _ _ _ h => h) (Or.inr ⟨by kernel_rfl, rfl⟩) (by assumption) ?_
      try simp only [Act.put, List.getElem_toArray, List.getElem_cons_succ, List.getElem_cons_zero, List.setIfInBounds_toArray, List.set_cons_zero, List.set_cons_succ]
      refine wpAnyH_take (i := 5) (v := undef) rfl (by kernel_rfl) (by kernel_rfl) (by kernel_rfl) (fun _ _ _ h => h) (Or.inr ⟨by kernel_rfl, rfl⟩) (by assumption) ?_
      try simp only [Act.put, List.getElem_toArray, List.getElem_cons_succ, List.getElem_cons_zero, List.setIfInBounds_toArray, List.set_cons_zero, List.set_cons_succ]
      refine wpAnyH_take (i := 6) (v := undef) rfl (by kernel_rfl) (by kernel_rfl) (by kernel_rfl) (fun _ _ _ h => h) (Or.inr ⟨by kernel_rfl, rfl⟩) (by assumption) ?_
      try simp only [Act.put, List.getElem_toArray, List.getElem_cons_succ, List.getElem_cons_zero, List.setIfInBounds_toArray, List.set_cons_zero, List.set_cons_succ]
      refine wpAnyH_take (i := 7) (v := undef) rfl (by kernel_rfl) (by kernel_rfl) (by kernel_rfl) (fun _ _ _ h => h) (Or.inr ⟨by kernel_rfl, rfl⟩) (by assumption) ?_
      try simp only [Act.put, List.getElem_toArray, List.getElem_cons_succ, List.getElem_cons_zero, List.setIfInBounds_toArray, List.set_cons_zero, List.set_cons_succ]
      refine wpAnyH_take (i := 8) (v := undef) rfl (by kernel_rfl) (by kernel_rfl) (by kernel_rfl) (fun _ _ _ h => h) (Or.inr ⟨by kernel_rfl, rfl⟩) (by assumption) ?_
      try simp only [Act.put, List.getElem_toArray, List.getElem_cons_succ, List.getElem_cons_zero, List.setIfInBounds_toArray, List.set_cons_zero, List.set_cons_succ]
      refine wpAnyH_take (i := 9) (v := undef) rfl (by kernel_rfl) (by kernel_rfl) (by kernel_rfl) (fun _ _ _ h => h) (Or.inr ⟨by kernel_rfl, rfl⟩) (by assumption) ?_
      try simp only [Act.put, List.getElem_toArray, List.getElem_cons_succ, List.getElem_cons_zero, List.setIfInBounds_toArray, List.set_cons_zero, List.set_cons_succ]
      refine wpAnyH_take (i := 10) (v := undef) rfl (by kernel_rfl) (by kernel_rfl) (by kernel_rfl) (fun _ _ _ h => h) (Or.inr ⟨by kernel_rfl, rfl⟩) (by assumption) ?_
      try simp only [Act.put, List.getElem_toArray, List.getElem_cons_succ, List.getElem_cons_zero, List.setIfInBounds_toArray, List.set_cons_zero, List.set_cons_succ]
      refine wpAnyH_take (i := 11) (v := undef) rfl (by kernel_rfl) (by kernel_rfl) (by kernel_rfl) (fun _ _ _ h => h) (Or.inr ⟨by kernel_rfl, rfl⟩) (by assumption) ?_
      try simp only [Act.put, List.getElem_toArray, List.getElem_cons_succ, List.getElem_cons_zero, List.setIfInBounds_toArray, List.set_cons_zero, List.set_cons_succ]
      refine wpAnyH_take (i := 12) (v := undef) rfl (by kernel_rfl) (by kernel_rfl) (by kernel_rfl) (fun _ _ _ h => h) (Or.inr ⟨by kernel_rfl, rfl⟩) (by assumption) ?_
      try simp only [Act.put, List.getElem_toArray, List.getElem_cons_succ, List.getElem_cons_zero, List.setIfInBounds_toArray, List.set_cons_zero, List.set_cons_succ]
      refine wpAnyH_take (i := 13) (v := undef) rfl (by kernel_rfl) (by kernel_rfl) (by kernel_rfl) (fun _ _ _ h => h) (Or.inr ⟨by kernel_rfl, rfl⟩) (by assumption) ?_
      try simp only [Act.put, List.getElem_toArray, List.getElem_cons_succ, List.getElem_cons_zero, List.setIfInBounds_toArray, List.set_cons_zero, List.set_cons_succ]
      refine wpAnyH_take (i := 14) (v := undef) rfl (by kernel_rfl) (by kernel_rfl) (by kernel_rfl) (fun _ _ _ h => h) (Or.inr ⟨by kernel_rfl, rfl⟩) (by assumption) ?_
      try simp only [Act.put, List.getElem_toArray, List.getElem_cons_succ, List.getElem_cons_zero, List.setIfInBounds_toArray, List.set_cons_zero, List.set_cons_succ]
      refine wpAnyH_take (i := 15) (v := undef) rfl (by kernel_rfl) (by kernel_rfl) (by kernel_rfl) (fun _ _ _ h => h) (Or.inr ⟨by kernel_rfl, rfl⟩) (by assumption) ?_
      try simp only [Act.put, List.getElem_toArray, List.getElem_cons_succ, List.getElem_cons_zero, List.setIfInBounds_toArray, List.set_cons_zero, List.set_cons_succ]
      refine wpAnyH_take (i := 16) (v := undef) rfl (by kernel_rfl) (by kernel_rfl) (by kernel_rfl) (fun _ _ _ h => h) (Or.inr ⟨by kernel_rfl, rfl⟩) (by assumption) ?_
      try simp only [Act.put, List.getElem_toArray, List.getElem_cons_succ, List.getElem_cons_zero, List.setIfInBounds_toArray, List.set_cons_zero, List.set_cons_succ]
      refine wpAnyH_take (i := 17) (v := undef) rfl (by kernel_rfl) (by kernel_rfl) (by kernel_rfl) (fun _ _ _ h => h) (Or.inr ⟨by kernel_rfl, rfl⟩) (by assumption) ?_
      try simp only [Act.put, List.getElem_toArray, List.getElem_cons_succ, List.getElem_cons_zero, List.setIfInBounds_toArray, List.set_cons_zero, List.set_cons_succ]
      refine wpAnyH_take (i := 18) (v := undef) rfl (by kernel_rfl) (by kernel_rfl) (by kernel_rfl) (fun _ _ _ h => h) (Or.inr ⟨by kernel_rfl, rfl⟩) (by assumption) ?_
      try simp only [Act.put, List.getElem_toArray, List.getElem_cons_succ, List.getElem_cons_zero, List.setIfInBounds_toArray, List.set_cons_zero, List.set_cons_succ]
      refine wpAnyH_take (i := 19) (v := undef) rfl (by kernel_rfl) (by kernel_rfl) (by kernel_rfl) (fun _ _ _ h => h) (Or.inr ⟨by kernel_rfl, rfl⟩) (by assumption) ?_
      try simp only [Act.put, List.getElem_toArray, List.getElem_cons_succ, List.getElem_cons_zero, List.setIfInBounds_toArray, List.set_cons_zero, List.set_cons_succ]
      refine wpAnyH_take (i := 20) (v := undef) rfl (by kernel_rfl) (by kernel_rfl) (by kernel_rfl) (fun _ _ _ h => h) (Or.inr ⟨by kernel_rfl, rfl⟩) (by assumption) ?_
      try simp only [Act.put, List.getElem_toArray, List.getElem_cons_succ, List.getElem_cons_zero, List.setIfInBounds_toArray, List.set_cons_zero, List.set_cons_succ]
      refine wpAnyH_take (i := 21) (v := undef) rfl (by kernel_rfl) (by kernel_rfl) (by kernel_rfl) (fun _ _ _ h => h) (Or.inr ⟨by kernel_rfl, rfl⟩) (by assumption) ?_
      try simp only [Act.put, List.getElem_toArray, List.getElem_cons_succ, List.getElem_cons_zero, List.setIfInBounds_toArray, List.set_cons_zero, List.set_cons_succ]
      refine wpAnyH_take (i := 22) (v := undef) rfl (by kernel_rfl) (by kernel_rfl) (by kernel_rfl) (fun _ _ _ h => h) (Or.inr ⟨by kernel_rfl, rfl⟩) (by assumption) ?_
      try simp only [Act.put, List.getElem_toArray, List.getElem_cons_succ, List.getElem_cons_zero, List.setIfInBounds_toArray, List.set_cons_zero, List.set_cons_succ]
      refine wpAnyH_take (i := 23) (v := undef) rfl (by kernel_rfl) (by kernel_rfl) (by kernel_rfl) (fun _ _ _ h => h) (Or.inr ⟨by kernel_rfl, rfl⟩) (by assumption) ?_
      try simp only [Act.put, List.getElem_toArray, List.getElem_cons_succ, List.getElem_cons_zero, List.setIfInBounds_toArray, List.set_cons_zero, List.set_cons_succ]
      refine wpAnyH_take (i := 24) (v := undef) rfl (by kernel_rfl) (by kernel_rfl) (by kernel_rfl) (fun _ _ _ h => h) (Or.inr ⟨by kernel_rfl, rfl⟩) (by assumption) ?_
      try simp only [Act.put, List.getElem_toArray, List.getElem_cons_succ, List.getElem_cons_zero, List.setIfInBounds_toArray, List.set_cons_zero, List.set_cons_succ]
      refine wpAnyH_take (i := 25) (v := undef) rfl (by kernel_rfl) (by kernel_rfl) (by kernel_rfl) (fun _ _ _ h => h) (Or.inr ⟨by kernel_rfl, rfl⟩) (by assumption) ?_
      try simp only [Act.put, List.getElem_toArray, List.getElem_cons_succ, List.getElem_cons_zero, List.setIfInBounds_toArray, List.set_cons_zero, List.set_cons_succ]
      refine wpAnyH_take (i := 26) (v := undef) rfl (by kernel_rfl) (by kernel_rfl) (by kernel_rfl) (fun _ _ _ h => h) (Or.inr ⟨by kernel_rfl, rfl⟩) (by assumption) ?_
      try simp only [Act.put, List.getElem_toArray, List.getElem_cons_succ, List.getElem_cons_zero, List.setIfInBounds_toArray, List.set_cons_zero, List.set_cons_succ]
      refine wpAnyH_take (i := 27) (v := undef) rfl (by kernel_rfl) (by kernel_rfl) (by kernel_rfl) (fun _ _ _ h => h) (Or.inr ⟨by kernel_rfl, rfl⟩) (by assumption) ?_
      try simp only [Act.put, List.getElem_toArray, List.getElem_cons_succ, List.getElem_cons_zero, List.setIfInBounds_toArray, List.set_cons_zero, List.set_cons_succ]
      refine wpAnyH_take (i := 28) (v := undef) rfl (by kernel_rfl) (by kernel_rfl) (by kernel_rfl) (fun _ _ _ h => h) (Or.inr ⟨by kernel_rfl, rfl⟩) (by assumption) ?_
      try simp only [Act.put, List.getElem_toArray, List.getElem_cons_succ, List.getElem_cons_zero, List.setIfInBounds_toArray, List.set_cons_zero, List.set_cons_succ]
      refine wpAnyH_take (i := 29) (v := undef) rfl (by kernel_rfl) (by kernel_rfl) (by kernel_rfl) (fun _ _ _ h => h) (Or.inr ⟨by kernel_rfl, rfl⟩) (by assumption) ?_
      try simp only [Act.put, List.getElem_toArray, List.getElem_cons_succ, List.getElem_cons_zero, List.setIfInBounds_toArray, List.set_cons_zero, List.set_cons_succ]
      refine wpAnyH_take (i := 30) (v := undef) rfl (by kernel_rfl) (by kernel_rfl) (by kernel_rfl) (fun _ _ _ h => h) (Or.inr ⟨by kernel_rfl, rfl⟩) (by assumption) ?_
      try simp only [Act.put, List.getElem_toArray, List.getElem_cons_succ, List.getElem_cons_zero, List.setIfInBounds_toArray, List.set_cons_zero, List.set_cons_succ]
      refine wpAnyH_take (i := 31) (v := undef) rfl (by kernel_rfl) (by kernel_rfl) (by kernel_rfl) (fun _ _ _ h => h) (Or.inr ⟨by kernel_rfl, rfl⟩) (by assumption) ?_
      try simp only [Act.put, List.getElem_toArray, List.getElem_cons_succ, List.getElem_cons_zero, List.setIfInBounds_toArray, List.set_cons_zero, List.set_cons_succ]
      refine wpAnyH_take (i := 32) (v := undef) rfl (by kernel_rfl) (by kernel_rfl) (by kernel_rfl) (fun _ _ _ h => h) (Or.inr ⟨by kernel_rfl, rfl⟩) (by assumption) ?_
      try simp only [Act.put, List.getElem_toArray, List.getElem_cons_succ, List.getElem_cons_zero, List.setIfInBounds_toArray, List.set_cons_zero, List.set_cons_succ]
      try dsimp only
      try simp only [Act.put, List.getElem_toArray, List.getElem_cons_succ, List.getElem_cons_zero, List.setIfInBounds_toArray, List.set_cons_zero, List.set_cons_succ]
      refine wpAnyH_take (i := 33) (v := undef) rfl (by kernel_rfl) (by kernel_rfl) (by kernel_rfl) (fun _ _ _ h => h) (Or.inr ⟨by kernel_rfl, rfl⟩) (by assumption) ?_
      try simp only [Act.put, List.getElem_toArray, List.getElem_cons_succ, List.getElem_cons_zero, List.setIfInBounds_toArray, List.set_cons_zero, List.set_cons_succ]
      try dsimp only
      try simp only [Act.put, List.getElem_toArray, List.getElem_cons_succ, List.getElem_cons_zero, List.setIfInBounds_toArray, List.set_cons_zero, List.set_cons_succ]
      refine wpAnyH_take (i := 34) (v := ?pv34) rfl (by kernel_rfl) (by kernel_rfl) (by kernel_rfl) (fun _ _ _ h => h) (Or.inl ⟨by kernel_rfl, ?phy34⟩) (by assumption) ?prest34
      case phy34 => (intro w hSw; (try dsimp only at hSw); go_simp; try (with_reducible rfl))
      try simp only [Act.put, List.getElem_toArray, List.getElem_cons_succ, List.getElem_cons_zero, List.setIfInBounds_toArray, List.set_cons_zero, List.set_cons_succ]
      try dsimp only
      try simp only [Act.put, List.getElem_toArray, List.getElem_cons_succ, List.getElem_cons_zero, List.setIfInBounds_toArray, List.set_cons_zero, List.set_cons_succ]
      refine wpAnyH_done (by kernel_rfl) ?_ _
      refine NoPanic.normal ?_
      go_wp2
      go_roundw
      case rel => exact ⟨j + 1, by go_num, by omega, bl.drew⟩
      case measure => simp [intOf]; omega
    · obtain rfl : j = M.length := by omega
      have hB := hB.trans (bl.mono hB.size)
      go_wp2_with fail
      refine (hL _).mono ?_
      rintro e w7 ⟨rfl, b7⟩
      go_wp2
      go_ret
      exact ⟨rfl, hB.trans (b7.mono hB.size)⟩
end Go.Proofs.YtgcebmgmmhdcpaaGreat
