/- The reference of layer 14: wide, Right up to the loop. Printed by gen_ref14r.py. -/
import Derived.Test.YtochabikpaoalaaGreatTens4
import Derived.Test.YtochabikpaoalaaGreatRef11
import Derived.Test.YtochabikpaoalaaGreatRef11b
import Derived.Deep.RegionHeld3
import Derived.Deep.DrawnRows
namespace Go.Proofs.YtochabikpaoalaaGreat
open Go.RowKit
attribute [local go_sem ↓] Go.wp_at_zero Go.wp_at_succ
set_option maxHeartbeats 1000000 in
theorem rwide14_any (k z m o n g : Int) (w : World) : Calls Tryz.prog 24 #[.agg #[.int .i64 k, .int .i64 z, .int .i64 m, .int .i64 o], .int .i64 n, .int .i64 g] w fun e w' => e = .returned (.bool (staysB m o n g)) ∧ Below w.heap.size w w' := by
  have HB := Lib.hid ((Below.refl w.heap.size w).alloc (Nat.le_refl _) (.cells #[.int .i64 k, .int .i64 z, .int .i64 m, .int .i64 o] 23))
  unfold staysB
  by_cases h1 : n < m <;> by_cases h2 : 0 < o
  all_goals
    first
      | rw [decide_eq_true h1]
      | rw [decide_eq_false h1]
    first
      | rw [decide_eq_true h2]
      | rw [decide_eq_false h2]
    go_enter Tryz.func24, Tryz.ntmps24
    go_wp2
    go_ret
    exact ⟨rfl, HB.out⟩
set_option maxRecDepth 100000 in
set_option maxHeartbeats 8000000 in
theorem rright14_may (v : Value) (k z m o n : Int) (bs : List Bk) (w : World) (h : IsSt w v (k, z, m, o, n, bs)) (hm : mayB k z m o = false) :
    Calls Tryz.prog 8 #[v] w fun e w' => e = .returned (.bool false) ∧ Below w.heap.size w w' := by
  obtain ⟨x, rfl, hx⟩ := h
  simp only at hx ⊢
  obtain ⟨A, c, rfl, hc1, hc2⟩ := hx.len
  have hM := fun w => rmay14_any k z m o w
  rw [hm] at hM
  obtain ⟨W0, hW, hR, hB⟩ := box1 w 26 #[.int .i64 k, .int .i64 z, .int .i64 m, .int .i64 o, .int .i64 n, .slice A bs.length c]
  obtain ⟨g, hg⟩ : ∃ g, g = w.heap.size := ⟨_, rfl⟩
  have hW' := Lib.hid (And.intro hW hg)
  rw [← hg] at hR
  have hgw : w.heap.size ≤ g := by omega
  clear hW hg
  have hX := hR
  replace hx := hx.below hB
  obtain ⟨c1_hX_0, c1_hX_1, c1_hX_2, c1_hX_3, c1_hX_4, c1_hX_5⟩ := hX.cells6
  go_enter Tryz.func8, Tryz.ntmps8
  go_upto_region 1 with fail
  rw [← hW'.out.1, ← hW'.out.2]
  refine wp_region_noPanic ?_
  refine wp_region_held_drew (S := fun w' => w'.cell? ⟨g, 0, none⟩ = some (.int .i64 k) ∧ w'.cell? ⟨g, 1, none⟩ = some (.int .i64 z) ∧ w'.cell? ⟨g, 2, none⟩ = some (.int .i64 m) ∧ w'.cell? ⟨g, 3, none⟩ = some (.int .i64 o) ∧ w'.cell? ⟨g, 4, none⟩ = some (.int .i64 n) ∧ w'.cell? ⟨g, 5, none⟩ = some (.slice A bs.length c)) (by kernel_rfl) ?_ (fun hHeld => ?_)
  · exact ⟨(hX.below (by first | assumption | exact bdrew _ | exact Below.refl _ _) hX.lt).cell 0, (hX.below (by first | assumption | exact bdrew _ | exact Below.refl _ _) hX.lt).cell 1, (hX.below (by first | assumption | exact bdrew _ | exact Below.refl _ _) hX.lt).cell 2, (hX.below (by first | assumption | exact bdrew _ | exact Below.refl _ _) hX.lt).cell 3, (hX.below (by first | assumption | exact bdrew _ | exact Below.refl _ _) hX.lt).cell 4, (hX.below (by first | assumption | exact bdrew _ | exact Below.refl _ _) hX.lt).cell 5⟩
  refine wpAnyH_take (i := 0) (v := ?b1_v0) rfl (by kernel_rfl) (by kernel_rfl) (by kernel_rfl) (fun _ _ _ h => h) (Or.inl ⟨by kernel_rfl, ?b1_hy0⟩) (by assumption) ?b1_rest0
  case b1_hy0 => (intro w hSw; (try dsimp only at hSw); go_simp; try (with_reducible rfl))
  try simp only [Act.put, lay1, lay2, lay3, lay4, lay5, lay6]
  refine wpAnyH_take (i := 1) (v := ?b1_v1) rfl (by kernel_rfl) (by kernel_rfl) (by kernel_rfl) (fun _ _ _ h => h) (Or.inl ⟨by kernel_rfl, ?b1_hy1⟩) (by assumption) ?b1_rest1
  case b1_hy1 => (intro w hSw; (try dsimp only at hSw); go_simp; try (with_reducible rfl))
  try simp only [Act.put, lay1, lay2, lay3, lay4, lay5, lay6]
  refine wpAnyH_ready (rs := [2]) (by kernel_rfl) (by simp) ?_
  refine AllReadyH.cons rfl (fun K hK => ?_) AllReadyH.nil
  go_simp
  refine (hM _).mono ?_
  rintro e w1 ⟨rfl, b1⟩
  have b1 := bstep (bdrew W0) b1
  go_wp2_with fail
  refine hK.out _ _ ?_ (fun hHeld => ?_)
  · exact ⟨(hX.below (by first | assumption | exact bdrew _ | exact Below.refl _ _) hX.lt).cell 0, (hX.below (by first | assumption | exact bdrew _ | exact Below.refl _ _) hX.lt).cell 1, (hX.below (by first | assumption | exact bdrew _ | exact Below.refl _ _) hX.lt).cell 2, (hX.below (by first | assumption | exact bdrew _ | exact Below.refl _ _) hX.lt).cell 3, (hX.below (by first | assumption | exact bdrew _ | exact Below.refl _ _) hX.lt).cell 4, (hX.below (by first | assumption | exact bdrew _ | exact Below.refl _ _) hX.lt).cell 5⟩
  clear hK K
  try simp only [Act.put, lay1, lay2, lay3, lay4, lay5, lay6]
  refine wpAnyH_take (i := 3) (v := ?b1_v3) rfl (by kernel_rfl) (by kernel_rfl) (by kernel_rfl) (fun _ _ _ h => h) (Or.inl ⟨by kernel_rfl, ?b1_hy3⟩) (by assumption) ?b1_rest3
  case b1_hy3 => (intro w hSw; (try dsimp only at hSw); go_simp; try (with_reducible rfl))
  try simp only [Act.put, lay1, lay2, lay3, lay4, lay5, lay6]
  refine wpAnyH_take (i := 4) (v := ?b1_v4) rfl (by kernel_rfl) (by kernel_rfl) (by kernel_rfl) (fun _ _ _ h => h) (Or.inl ⟨by kernel_rfl, ?b1_hy4⟩) (by assumption) ?b1_rest4
  case b1_hy4 => (intro w hSw; (try dsimp only at hSw); go_simp; try (with_reducible rfl))
  try simp only [Act.put, lay1, lay2, lay3, lay4, lay5, lay6]
  refine wpAnyH_take (i := 5) (v := undef) rfl (by kernel_rfl) (by kernel_rfl) (by kernel_rfl) (fun _ _ _ h => h) (Or.inr ⟨by kernel_rfl, rfl⟩) (by assumption) ?_
  try simp only [Act.put, lay1, lay2, lay3, lay4, lay5, lay6]
  refine wpAnyH_take (i := 6) (v := undef) rfl (by kernel_rfl) (by kernel_rfl) (by kernel_rfl) (fun _ _ _ h => h) (Or.inr ⟨by kernel_rfl, rfl⟩) (by assumption) ?_
  try simp only [Act.put, lay1, lay2, lay3, lay4, lay5, lay6]
  refine wpAnyH_take (i := 7) (v := undef) rfl (by kernel_rfl) (by kernel_rfl) (by kernel_rfl) (fun _ _ _ h => h) (Or.inr ⟨by kernel_rfl, rfl⟩) (by assumption) ?_
  try simp only [Act.put, lay1, lay2, lay3, lay4, lay5, lay6]
  refine wpAnyH_take (i := 8) (v := ?b1_v8) rfl (by kernel_rfl) (by kernel_rfl) (by kernel_rfl) (fun _ _ _ h => h) (Or.inl ⟨by kernel_rfl, ?b1_hy8⟩) (by assumption) ?b1_rest8
  case b1_hy8 => (intro w hSw; (try dsimp only at hSw); go_simp; try (with_reducible rfl))
  try simp only [Act.put, lay1, lay2, lay3, lay4, lay5, lay6]
  refine wpAnyH_take (i := 9) (v := ?b1_v9) rfl (by kernel_rfl) (by kernel_rfl) (by kernel_rfl) (fun _ _ _ h => h) (Or.inl ⟨by kernel_rfl, ?b1_hy9⟩) (by assumption) ?b1_rest9
  case b1_hy9 => (intro w hSw; (try dsimp only at hSw); go_simp; try (with_reducible rfl))
  try simp only [Act.put, lay1, lay2, lay3, lay4, lay5, lay6]
  refine wpAnyH_take (i := 10) (v := undef) rfl (by kernel_rfl) (by kernel_rfl) (by kernel_rfl) (fun _ _ _ h => h) (Or.inr ⟨by kernel_rfl, rfl⟩) (by assumption) ?_
  try simp only [Act.put, lay1, lay2, lay3, lay4, lay5, lay6]
  refine wpAnyH_take (i := 11) (v := undef) rfl (by kernel_rfl) (by kernel_rfl) (by kernel_rfl) (fun _ _ _ h => h) (Or.inr ⟨by kernel_rfl, rfl⟩) (by assumption) ?_
  try simp only [Act.put, lay1, lay2, lay3, lay4, lay5, lay6]
  refine wpAnyH_take (i := 12) (v := undef) rfl (by kernel_rfl) (by kernel_rfl) (by kernel_rfl) (fun _ _ _ h => h) (Or.inr ⟨by kernel_rfl, rfl⟩) (by assumption) ?_
  try simp only [Act.put, lay1, lay2, lay3, lay4, lay5, lay6]
  refine wpAnyH_take (i := 13) (v := ?b1_v13) rfl (by kernel_rfl) (by kernel_rfl) (by kernel_rfl) (fun _ _ _ h => h) (Or.inl ⟨by kernel_rfl, ?b1_hy13⟩) (by assumption) ?b1_rest13
  case b1_hy13 => (intro w hSw; (try dsimp only at hSw); go_simp; try (with_reducible rfl))
  try simp only [Act.put, lay1, lay2, lay3, lay4, lay5, lay6]
  refine wpAnyH_take (i := 14) (v := ?b1_v14) rfl (by kernel_rfl) (by kernel_rfl) (by kernel_rfl) (fun _ _ _ h => h) (Or.inl ⟨by kernel_rfl, ?b1_hy14⟩) (by assumption) ?b1_rest14
  case b1_hy14 => (intro w hSw; (try dsimp only at hSw); go_simp; try (with_reducible rfl))
  try simp only [Act.put, lay1, lay2, lay3, lay4, lay5, lay6]
  refine wpAnyH_take (i := 15) (v := undef) rfl (by kernel_rfl) (by kernel_rfl) (by kernel_rfl) (fun _ _ _ h => h) (Or.inr ⟨by kernel_rfl, rfl⟩) (by assumption) ?_
  try simp only [Act.put, lay1, lay2, lay3, lay4, lay5, lay6]
  refine wpAnyH_take (i := 16) (v := undef) rfl (by kernel_rfl) (by kernel_rfl) (by kernel_rfl) (fun _ _ _ h => h) (Or.inr ⟨by kernel_rfl, rfl⟩) (by assumption) ?_
  try simp only [Act.put, lay1, lay2, lay3, lay4, lay5, lay6]
  refine wpAnyH_take (i := 17) (v := undef) rfl (by kernel_rfl) (by kernel_rfl) (by kernel_rfl) (fun _ _ _ h => h) (Or.inr ⟨by kernel_rfl, rfl⟩) (by assumption) ?_
  try simp only [Act.put, lay1, lay2, lay3, lay4, lay5, lay6]
  refine wpAnyH_take (i := 18) (v := undef) rfl (by kernel_rfl) (by kernel_rfl) (by kernel_rfl) (fun _ _ _ h => h) (Or.inr ⟨by kernel_rfl, rfl⟩) (by assumption) ?_
  try simp only [Act.put, lay1, lay2, lay3, lay4, lay5, lay6]
  refine wpAnyH_take (i := 19) (v := undef) rfl (by kernel_rfl) (by kernel_rfl) (by kernel_rfl) (fun _ _ _ h => h) (Or.inr ⟨by kernel_rfl, rfl⟩) (by assumption) ?_
  try simp only [Act.put, lay1, lay2, lay3, lay4, lay5, lay6]
  refine wpAnyH_take (i := 20) (v := undef) rfl (by kernel_rfl) (by kernel_rfl) (by kernel_rfl) (fun _ _ _ h => h) (Or.inr ⟨by kernel_rfl, rfl⟩) (by assumption) ?_
  try simp only [Act.put, lay1, lay2, lay3, lay4, lay5, lay6]
  refine wpAnyH_take (i := 21) (v := undef) rfl (by kernel_rfl) (by kernel_rfl) (by kernel_rfl) (fun _ _ _ h => h) (Or.inr ⟨by kernel_rfl, rfl⟩) (by assumption) ?_
  try simp only [Act.put, lay1, lay2, lay3, lay4, lay5, lay6]
  refine wpAnyH_take (i := 22) (v := undef) rfl (by kernel_rfl) (by kernel_rfl) (by kernel_rfl) (fun _ _ _ h => h) (Or.inr ⟨by kernel_rfl, rfl⟩) (by assumption) ?_
  try simp only [Act.put, lay1, lay2, lay3, lay4, lay5, lay6]
  refine wpAnyH_take (i := 23) (v := undef) rfl (by kernel_rfl) (by kernel_rfl) (by kernel_rfl) (fun _ _ _ h => h) (Or.inr ⟨by kernel_rfl, rfl⟩) (by assumption) ?_
  try simp only [Act.put, lay1, lay2, lay3, lay4, lay5, lay6]
  refine wpAnyH_take (i := 24) (v := undef) rfl (by kernel_rfl) (by kernel_rfl) (by kernel_rfl) (fun _ _ _ h => h) (Or.inr ⟨by kernel_rfl, rfl⟩) (by assumption) ?_
  try simp only [Act.put, lay1, lay2, lay3, lay4, lay5, lay6]
  refine wpAnyH_take (i := 25) (v := undef) rfl (by kernel_rfl) (by kernel_rfl) (by kernel_rfl) (fun _ _ _ h => h) (Or.inr ⟨by kernel_rfl, rfl⟩) (by assumption) ?_
  try simp only [Act.put, lay1, lay2, lay3, lay4, lay5, lay6]
  refine wpAnyH_take (i := 26) (v := undef) rfl (by kernel_rfl) (by kernel_rfl) (by kernel_rfl) (fun _ _ _ h => h) (Or.inr ⟨by kernel_rfl, rfl⟩) (by assumption) ?_
  try simp only [Act.put, lay1, lay2, lay3, lay4, lay5, lay6]
  refine wpAnyH_take (i := 27) (v := undef) rfl (by kernel_rfl) (by kernel_rfl) (by kernel_rfl) (fun _ _ _ h => h) (Or.inr ⟨by kernel_rfl, rfl⟩) (by assumption) ?_
  try simp only [Act.put, lay1, lay2, lay3, lay4, lay5, lay6]
  refine wpAnyH_take (i := 28) (v := undef) rfl (by kernel_rfl) (by kernel_rfl) (by kernel_rfl) (fun _ _ _ h => h) (Or.inr ⟨by kernel_rfl, rfl⟩) (by assumption) ?_
  try simp only [Act.put, lay1, lay2, lay3, lay4, lay5, lay6]
  try dsimp only
  try simp only [Act.put, lay1, lay2, lay3, lay4, lay5, lay6]
  refine wpAnyH_take (i := 29) (v := undef) rfl (by kernel_rfl) (by kernel_rfl) (by kernel_rfl) (fun _ _ _ h => h) (Or.inr ⟨by kernel_rfl, rfl⟩) (by assumption) ?_
  try simp only [Act.put, lay1, lay2, lay3, lay4, lay5, lay6]
  try dsimp only
  try simp only [Act.put, lay1, lay2, lay3, lay4, lay5, lay6]
  refine wpAnyH_take (i := 30) (v := ?b1_v30) rfl (by kernel_rfl) (by kernel_rfl) (by kernel_rfl) (fun _ _ _ h => h) (Or.inl ⟨by kernel_rfl, ?b1_hy30⟩) (by assumption) ?b1_rest30
  case b1_hy30 => (intro w hSw; (try dsimp only at hSw); go_simp; try (with_reducible rfl))
  try simp only [Act.put, lay1, lay2, lay3, lay4, lay5, lay6]
  try dsimp only
  try simp only [Act.put, lay1, lay2, lay3, lay4, lay5, lay6]
  refine wpAnyH_done (by kernel_rfl) ?_ _
  refine NoPanic.normal ?_
  replace hx := hx.below b1
  replace hX := hX.below b1 hX.lt
  replace hB := hB.trans (b1.mono hB.size)
  clear c1_hX_0 c1_hX_1 c1_hX_2 c1_hX_3 c1_hX_4 c1_hX_5
  obtain ⟨c2_hX_0, c2_hX_1, c2_hX_2, c2_hX_3, c2_hX_4, c2_hX_5⟩ := hX.cells6
  go_wp2
  go_ret
  exact ⟨rfl, hB⟩
set_option maxRecDepth 100000 in
set_option maxHeartbeats 8000000 in
theorem rright14_neg (v : Value) (k z m o n : Int) (bs : List Bk) (w : World) (h : IsSt w v (k, z, m, o, n, bs)) (hm : mayB k z m o = true) (hn : n < 0) :
    Calls Tryz.prog 8 #[v] w fun e w' => e = .returned (.bool false) ∧ Below w.heap.size w w' := by
  obtain ⟨x, rfl, hx⟩ := h
  simp only at hx ⊢
  obtain ⟨A, c, rfl, hc1, hc2⟩ := hx.len
  have hM := fun w => rmay14_any k z m o w
  rw [hm] at hM
  have n1 : decide (n < 0) = true := decide_eq_true hn
  obtain ⟨W0, hW, hR, hB⟩ := box1 w 26 #[.int .i64 k, .int .i64 z, .int .i64 m, .int .i64 o, .int .i64 n, .slice A bs.length c]
  obtain ⟨g, hg⟩ : ∃ g, g = w.heap.size := ⟨_, rfl⟩
  have hW' := Lib.hid (And.intro hW hg)
  rw [← hg] at hR
  have hgw : w.heap.size ≤ g := by omega
  clear hW hg
  have hX := hR
  replace hx := hx.below hB
  obtain ⟨c1_hX_0, c1_hX_1, c1_hX_2, c1_hX_3, c1_hX_4, c1_hX_5⟩ := hX.cells6
  go_enter Tryz.func8, Tryz.ntmps8
  go_upto_region 1 with fail
  rw [← hW'.out.1, ← hW'.out.2]
  refine wp_region_noPanic ?_
  refine wp_region_held_drew (S := fun w' => w'.cell? ⟨g, 0, none⟩ = some (.int .i64 k) ∧ w'.cell? ⟨g, 1, none⟩ = some (.int .i64 z) ∧ w'.cell? ⟨g, 2, none⟩ = some (.int .i64 m) ∧ w'.cell? ⟨g, 3, none⟩ = some (.int .i64 o) ∧ w'.cell? ⟨g, 4, none⟩ = some (.int .i64 n) ∧ w'.cell? ⟨g, 5, none⟩ = some (.slice A bs.length c)) (by kernel_rfl) ?_ (fun hHeld => ?_)
  · exact ⟨(hX.below (by first | assumption | exact bdrew _ | exact Below.refl _ _) hX.lt).cell 0, (hX.below (by first | assumption | exact bdrew _ | exact Below.refl _ _) hX.lt).cell 1, (hX.below (by first | assumption | exact bdrew _ | exact Below.refl _ _) hX.lt).cell 2, (hX.below (by first | assumption | exact bdrew _ | exact Below.refl _ _) hX.lt).cell 3, (hX.below (by first | assumption | exact bdrew _ | exact Below.refl _ _) hX.lt).cell 4, (hX.below (by first | assumption | exact bdrew _ | exact Below.refl _ _) hX.lt).cell 5⟩
  refine wpAnyH_take (i := 0) (v := ?b2_v0) rfl (by kernel_rfl) (by kernel_rfl) (by kernel_rfl) (fun _ _ _ h => h) (Or.inl ⟨by kernel_rfl, ?b2_hy0⟩) (by assumption) ?b2_rest0
  case b2_hy0 => (intro w hSw; (try dsimp only at hSw); go_simp; try (with_reducible rfl))
  try simp only [Act.put, lay1, lay2, lay3, lay4, lay5, lay6]
  refine wpAnyH_take (i := 1) (v := ?b2_v1) rfl (by kernel_rfl) (by kernel_rfl) (by kernel_rfl) (fun _ _ _ h => h) (Or.inl ⟨by kernel_rfl, ?b2_hy1⟩) (by assumption) ?b2_rest1
  case b2_hy1 => (intro w hSw; (try dsimp only at hSw); go_simp; try (with_reducible rfl))
  try simp only [Act.put, lay1, lay2, lay3, lay4, lay5, lay6]
  refine wpAnyH_ready (rs := [2]) (by kernel_rfl) (by simp) ?_
  refine AllReadyH.cons rfl (fun K hK => ?_) AllReadyH.nil
  go_simp
  refine (hM _).mono ?_
  rintro e w1 ⟨rfl, b1⟩
  have b1 := bstep (bdrew W0) b1
  go_wp2_with fail
  refine hK.out _ _ ?_ (fun hHeld => ?_)
  · exact ⟨(hX.below (by first | assumption | exact bdrew _ | exact Below.refl _ _) hX.lt).cell 0, (hX.below (by first | assumption | exact bdrew _ | exact Below.refl _ _) hX.lt).cell 1, (hX.below (by first | assumption | exact bdrew _ | exact Below.refl _ _) hX.lt).cell 2, (hX.below (by first | assumption | exact bdrew _ | exact Below.refl _ _) hX.lt).cell 3, (hX.below (by first | assumption | exact bdrew _ | exact Below.refl _ _) hX.lt).cell 4, (hX.below (by first | assumption | exact bdrew _ | exact Below.refl _ _) hX.lt).cell 5⟩
  clear hK K
  try simp only [Act.put, lay1, lay2, lay3, lay4, lay5, lay6]
  refine wpAnyH_take (i := 3) (v := ?b2_v3) rfl (by kernel_rfl) (by kernel_rfl) (by kernel_rfl) (fun _ _ _ h => h) (Or.inl ⟨by kernel_rfl, ?b2_hy3⟩) (by assumption) ?b2_rest3
  case b2_hy3 => (intro w hSw; (try dsimp only at hSw); go_simp; try (with_reducible rfl))
  try simp only [Act.put, lay1, lay2, lay3, lay4, lay5, lay6]
  refine wpAnyH_take (i := 4) (v := ?b2_v4) rfl (by kernel_rfl) (by kernel_rfl) (by kernel_rfl) (fun _ _ _ h => h) (Or.inl ⟨by kernel_rfl, ?b2_hy4⟩) (by assumption) ?b2_rest4
  case b2_hy4 => (intro w hSw; (try dsimp only at hSw); go_simp; try (with_reducible rfl))
  try simp only [Act.put, lay1, lay2, lay3, lay4, lay5, lay6]
  refine wpAnyH_take (i := 5) (v := ?b2_v5) rfl (by kernel_rfl) (by kernel_rfl) (by kernel_rfl) (fun _ _ _ h => h) (Or.inl ⟨by kernel_rfl, ?b2_hy5⟩) (by assumption) ?b2_rest5
  case b2_hy5 => (intro w hSw; (try dsimp only at hSw); go_simp; try (with_reducible rfl))
  try simp only [Act.put, lay1, lay2, lay3, lay4, lay5, lay6]
  refine wpAnyH_take (i := 6) (v := ?b2_v6) rfl (by kernel_rfl) (by kernel_rfl) (by kernel_rfl) (fun _ _ _ h => h) (Or.inl ⟨by kernel_rfl, ?b2_hy6⟩) (by assumption) ?b2_rest6
  case b2_hy6 => (intro w hSw; (try dsimp only at hSw); go_simp; try (with_reducible rfl))
  try simp only [Act.put, lay1, lay2, lay3, lay4, lay5, lay6]
  refine wpAnyH_take (i := 7) (v := ?b2_v7) rfl (by kernel_rfl) (by kernel_rfl) (by kernel_rfl) (fun _ _ _ h => h) (Or.inl ⟨by kernel_rfl, ?b2_hy7⟩) (by assumption) ?b2_rest7
  case b2_hy7 => (intro w hSw; (try dsimp only at hSw); go_simp; try (with_reducible rfl))
  try simp only [Act.put, lay1, lay2, lay3, lay4, lay5, lay6]
  refine wpAnyH_take (i := 8) (v := ?b2_v8) rfl (by kernel_rfl) (by kernel_rfl) (by kernel_rfl) (fun _ _ _ h => h) (Or.inl ⟨by kernel_rfl, ?b2_hy8⟩) (by assumption) ?b2_rest8
  case b2_hy8 => (intro w hSw; (try dsimp only at hSw); go_simp; try (with_reducible rfl))
  try simp only [Act.put, lay1, lay2, lay3, lay4, lay5, lay6]
  refine wpAnyH_take (i := 9) (v := ?b2_v9) rfl (by kernel_rfl) (by kernel_rfl) (by kernel_rfl) (fun _ _ _ h => h) (Or.inl ⟨by kernel_rfl, ?b2_hy9⟩) (by assumption) ?b2_rest9
  case b2_hy9 => (intro w hSw; (try dsimp only at hSw); go_simp; try (with_reducible rfl))
  try simp only [Act.put, lay1, lay2, lay3, lay4, lay5, lay6]
  refine wpAnyH_take (i := 10) (v := undef) rfl (by kernel_rfl) (by kernel_rfl) (by kernel_rfl) (fun _ _ _ h => h) (Or.inr ⟨by kernel_rfl, rfl⟩) (by assumption) ?_
  try simp only [Act.put, lay1, lay2, lay3, lay4, lay5, lay6]
  refine wpAnyH_take (i := 11) (v := undef) rfl (by kernel_rfl) (by kernel_rfl) (by kernel_rfl) (fun _ _ _ h => h) (Or.inr ⟨by kernel_rfl, rfl⟩) (by assumption) ?_
  try simp only [Act.put, lay1, lay2, lay3, lay4, lay5, lay6]
  refine wpAnyH_take (i := 12) (v := undef) rfl (by kernel_rfl) (by kernel_rfl) (by kernel_rfl) (fun _ _ _ h => h) (Or.inr ⟨by kernel_rfl, rfl⟩) (by assumption) ?_
  try simp only [Act.put, lay1, lay2, lay3, lay4, lay5, lay6]
  refine wpAnyH_take (i := 13) (v := ?b2_v13) rfl (by kernel_rfl) (by kernel_rfl) (by kernel_rfl) (fun _ _ _ h => h) (Or.inl ⟨by kernel_rfl, ?b2_hy13⟩) (by assumption) ?b2_rest13
  case b2_hy13 => (intro w hSw; (try dsimp only at hSw); go_simp; try (with_reducible rfl))
  try simp only [Act.put, lay1, lay2, lay3, lay4, lay5, lay6]
  refine wpAnyH_take (i := 14) (v := ?b2_v14) rfl (by kernel_rfl) (by kernel_rfl) (by kernel_rfl) (fun _ _ _ h => h) (Or.inl ⟨by kernel_rfl, ?b2_hy14⟩) (by assumption) ?b2_rest14
  case b2_hy14 => (intro w hSw; (try dsimp only at hSw); go_simp; try (with_reducible rfl))
  try simp only [Act.put, lay1, lay2, lay3, lay4, lay5, lay6]
  refine wpAnyH_take (i := 15) (v := undef) rfl (by kernel_rfl) (by kernel_rfl) (by kernel_rfl) (fun _ _ _ h => h) (Or.inr ⟨by kernel_rfl, rfl⟩) (by assumption) ?_
  try simp only [Act.put, lay1, lay2, lay3, lay4, lay5, lay6]
  refine wpAnyH_take (i := 16) (v := undef) rfl (by kernel_rfl) (by kernel_rfl) (by kernel_rfl) (fun _ _ _ h => h) (Or.inr ⟨by kernel_rfl, rfl⟩) (by assumption) ?_
  try simp only [Act.put, lay1, lay2, lay3, lay4, lay5, lay6]
  refine wpAnyH_take (i := 17) (v := undef) rfl (by kernel_rfl) (by kernel_rfl) (by kernel_rfl) (fun _ _ _ h => h) (Or.inr ⟨by kernel_rfl, rfl⟩) (by assumption) ?_
  try simp only [Act.put, lay1, lay2, lay3, lay4, lay5, lay6]
  refine wpAnyH_take (i := 18) (v := undef) rfl (by kernel_rfl) (by kernel_rfl) (by kernel_rfl) (fun _ _ _ h => h) (Or.inr ⟨by kernel_rfl, rfl⟩) (by assumption) ?_
  try simp only [Act.put, lay1, lay2, lay3, lay4, lay5, lay6]
  refine wpAnyH_take (i := 19) (v := undef) rfl (by kernel_rfl) (by kernel_rfl) (by kernel_rfl) (fun _ _ _ h => h) (Or.inr ⟨by kernel_rfl, rfl⟩) (by assumption) ?_
  try simp only [Act.put, lay1, lay2, lay3, lay4, lay5, lay6]
  refine wpAnyH_take (i := 20) (v := undef) rfl (by kernel_rfl) (by kernel_rfl) (by kernel_rfl) (fun _ _ _ h => h) (Or.inr ⟨by kernel_rfl, rfl⟩) (by assumption) ?_
  try simp only [Act.put, lay1, lay2, lay3, lay4, lay5, lay6]
  refine wpAnyH_take (i := 21) (v := undef) rfl (by kernel_rfl) (by kernel_rfl) (by kernel_rfl) (fun _ _ _ h => h) (Or.inr ⟨by kernel_rfl, rfl⟩) (by assumption) ?_
  try simp only [Act.put, lay1, lay2, lay3, lay4, lay5, lay6]
  refine wpAnyH_take (i := 22) (v := undef) rfl (by kernel_rfl) (by kernel_rfl) (by kernel_rfl) (fun _ _ _ h => h) (Or.inr ⟨by kernel_rfl, rfl⟩) (by assumption) ?_
  try simp only [Act.put, lay1, lay2, lay3, lay4, lay5, lay6]
  refine wpAnyH_take (i := 23) (v := undef) rfl (by kernel_rfl) (by kernel_rfl) (by kernel_rfl) (fun _ _ _ h => h) (Or.inr ⟨by kernel_rfl, rfl⟩) (by assumption) ?_
  try simp only [Act.put, lay1, lay2, lay3, lay4, lay5, lay6]
  refine wpAnyH_take (i := 24) (v := undef) rfl (by kernel_rfl) (by kernel_rfl) (by kernel_rfl) (fun _ _ _ h => h) (Or.inr ⟨by kernel_rfl, rfl⟩) (by assumption) ?_
  try simp only [Act.put, lay1, lay2, lay3, lay4, lay5, lay6]
  refine wpAnyH_take (i := 25) (v := undef) rfl (by kernel_rfl) (by kernel_rfl) (by kernel_rfl) (fun _ _ _ h => h) (Or.inr ⟨by kernel_rfl, rfl⟩) (by assumption) ?_
  try simp only [Act.put, lay1, lay2, lay3, lay4, lay5, lay6]
  refine wpAnyH_take (i := 26) (v := undef) rfl (by kernel_rfl) (by kernel_rfl) (by kernel_rfl) (fun _ _ _ h => h) (Or.inr ⟨by kernel_rfl, rfl⟩) (by assumption) ?_
  try simp only [Act.put, lay1, lay2, lay3, lay4, lay5, lay6]
  refine wpAnyH_take (i := 27) (v := undef) rfl (by kernel_rfl) (by kernel_rfl) (by kernel_rfl) (fun _ _ _ h => h) (Or.inr ⟨by kernel_rfl, rfl⟩) (by assumption) ?_
  try simp only [Act.put, lay1, lay2, lay3, lay4, lay5, lay6]
  refine wpAnyH_take (i := 28) (v := undef) rfl (by kernel_rfl) (by kernel_rfl) (by kernel_rfl) (fun _ _ _ h => h) (Or.inr ⟨by kernel_rfl, rfl⟩) (by assumption) ?_
  try simp only [Act.put, lay1, lay2, lay3, lay4, lay5, lay6]
  try dsimp only
  try simp only [Act.put, lay1, lay2, lay3, lay4, lay5, lay6]
  refine wpAnyH_take (i := 29) (v := undef) rfl (by kernel_rfl) (by kernel_rfl) (by kernel_rfl) (fun _ _ _ h => h) (Or.inr ⟨by kernel_rfl, rfl⟩) (by assumption) ?_
  try simp only [Act.put, lay1, lay2, lay3, lay4, lay5, lay6]
  try dsimp only
  try simp only [Act.put, lay1, lay2, lay3, lay4, lay5, lay6]
  refine wpAnyH_take (i := 30) (v := ?b2_v30) rfl (by kernel_rfl) (by kernel_rfl) (by kernel_rfl) (fun _ _ _ h => h) (Or.inl ⟨by kernel_rfl, ?b2_hy30⟩) (by assumption) ?b2_rest30
  case b2_hy30 => (intro w hSw; (try dsimp only at hSw); go_simp; try (with_reducible rfl))
  try simp only [Act.put, lay1, lay2, lay3, lay4, lay5, lay6]
  try dsimp only
  try simp only [Act.put, lay1, lay2, lay3, lay4, lay5, lay6]
  refine wpAnyH_done (by kernel_rfl) ?_ _
  refine NoPanic.normal ?_
  replace hx := hx.below b1
  replace hX := hX.below b1 hX.lt
  replace hB := hB.trans (b1.mono hB.size)
  clear c1_hX_0 c1_hX_1 c1_hX_2 c1_hX_3 c1_hX_4 c1_hX_5
  obtain ⟨c2_hX_0, c2_hX_1, c2_hX_2, c2_hX_3, c2_hX_4, c2_hX_5⟩ := hX.cells6
  go_wp2
  go_ret
  exact ⟨rfl, hB⟩
set_option maxRecDepth 100000 in
set_option maxHeartbeats 8000000 in
theorem rright14_big (v : Value) (k z m o n : Int) (bs : List Bk) (w : World) (h : IsSt w v (k, z, m, o, n, bs)) (hm : mayB k z m o = true) (hn : 0 ≤ n) (hn2 : 4096 < n) :
    Calls Tryz.prog 8 #[v] w fun e w' => e = .returned (.bool false) ∧ Below w.heap.size w w' := by
  obtain ⟨x, rfl, hx⟩ := h
  simp only at hx ⊢
  obtain ⟨A, c, rfl, hc1, hc2⟩ := hx.len
  have hM := fun w => rmay14_any k z m o w
  rw [hm] at hM
  have n1 : decide (n < 0) = false := decide_eq_false (by omega)
  have n2 : decide (4096 < n) = true := decide_eq_true hn2
  obtain ⟨W0, hW, hR, hB⟩ := box1 w 26 #[.int .i64 k, .int .i64 z, .int .i64 m, .int .i64 o, .int .i64 n, .slice A bs.length c]
  obtain ⟨g, hg⟩ : ∃ g, g = w.heap.size := ⟨_, rfl⟩
  have hW' := Lib.hid (And.intro hW hg)
  rw [← hg] at hR
  have hgw : w.heap.size ≤ g := by omega
  clear hW hg
  have hX := hR
  replace hx := hx.below hB
  obtain ⟨c1_hX_0, c1_hX_1, c1_hX_2, c1_hX_3, c1_hX_4, c1_hX_5⟩ := hX.cells6
  go_enter Tryz.func8, Tryz.ntmps8
  go_upto_region 1 with fail
  rw [← hW'.out.1, ← hW'.out.2]
  refine wp_region_noPanic ?_
  refine wp_region_held_drew (S := fun w' => w'.cell? ⟨g, 0, none⟩ = some (.int .i64 k) ∧ w'.cell? ⟨g, 1, none⟩ = some (.int .i64 z) ∧ w'.cell? ⟨g, 2, none⟩ = some (.int .i64 m) ∧ w'.cell? ⟨g, 3, none⟩ = some (.int .i64 o) ∧ w'.cell? ⟨g, 4, none⟩ = some (.int .i64 n) ∧ w'.cell? ⟨g, 5, none⟩ = some (.slice A bs.length c)) (by kernel_rfl) ?_ (fun hHeld => ?_)
  · exact ⟨(hX.below (by first | assumption | exact bdrew _ | exact Below.refl _ _) hX.lt).cell 0, (hX.below (by first | assumption | exact bdrew _ | exact Below.refl _ _) hX.lt).cell 1, (hX.below (by first | assumption | exact bdrew _ | exact Below.refl _ _) hX.lt).cell 2, (hX.below (by first | assumption | exact bdrew _ | exact Below.refl _ _) hX.lt).cell 3, (hX.below (by first | assumption | exact bdrew _ | exact Below.refl _ _) hX.lt).cell 4, (hX.below (by first | assumption | exact bdrew _ | exact Below.refl _ _) hX.lt).cell 5⟩
  refine wpAnyH_take (i := 0) (v := ?b3_v0) rfl (by kernel_rfl) (by kernel_rfl) (by kernel_rfl) (fun _ _ _ h => h) (Or.inl ⟨by kernel_rfl, ?b3_hy0⟩) (by assumption) ?b3_rest0
  case b3_hy0 => (intro w hSw; (try dsimp only at hSw); go_simp; try (with_reducible rfl))
  try simp only [Act.put, lay1, lay2, lay3, lay4, lay5, lay6]
  refine wpAnyH_take (i := 1) (v := ?b3_v1) rfl (by kernel_rfl) (by kernel_rfl) (by kernel_rfl) (fun _ _ _ h => h) (Or.inl ⟨by kernel_rfl, ?b3_hy1⟩) (by assumption) ?b3_rest1
  case b3_hy1 => (intro w hSw; (try dsimp only at hSw); go_simp; try (with_reducible rfl))
  try simp only [Act.put, lay1, lay2, lay3, lay4, lay5, lay6]
  refine wpAnyH_ready (rs := [2]) (by kernel_rfl) (by simp) ?_
  refine AllReadyH.cons rfl (fun K hK => ?_) AllReadyH.nil
  go_simp
  refine (hM _).mono ?_
  rintro e w1 ⟨rfl, b1⟩
  have b1 := bstep (bdrew W0) b1
  go_wp2_with fail
  refine hK.out _ _ ?_ (fun hHeld => ?_)
  · exact ⟨(hX.below (by first | assumption | exact bdrew _ | exact Below.refl _ _) hX.lt).cell 0, (hX.below (by first | assumption | exact bdrew _ | exact Below.refl _ _) hX.lt).cell 1, (hX.below (by first | assumption | exact bdrew _ | exact Below.refl _ _) hX.lt).cell 2, (hX.below (by first | assumption | exact bdrew _ | exact Below.refl _ _) hX.lt).cell 3, (hX.below (by first | assumption | exact bdrew _ | exact Below.refl _ _) hX.lt).cell 4, (hX.below (by first | assumption | exact bdrew _ | exact Below.refl _ _) hX.lt).cell 5⟩
  clear hK K
  try simp only [Act.put, lay1, lay2, lay3, lay4, lay5, lay6]
  refine wpAnyH_take (i := 3) (v := ?b3_v3) rfl (by kernel_rfl) (by kernel_rfl) (by kernel_rfl) (fun _ _ _ h => h) (Or.inl ⟨by kernel_rfl, ?b3_hy3⟩) (by assumption) ?b3_rest3
  case b3_hy3 => (intro w hSw; (try dsimp only at hSw); go_simp; try (with_reducible rfl))
  try simp only [Act.put, lay1, lay2, lay3, lay4, lay5, lay6]
  refine wpAnyH_take (i := 4) (v := ?b3_v4) rfl (by kernel_rfl) (by kernel_rfl) (by kernel_rfl) (fun _ _ _ h => h) (Or.inl ⟨by kernel_rfl, ?b3_hy4⟩) (by assumption) ?b3_rest4
  case b3_hy4 => (intro w hSw; (try dsimp only at hSw); go_simp; try (with_reducible rfl))
  try simp only [Act.put, lay1, lay2, lay3, lay4, lay5, lay6]
  refine wpAnyH_take (i := 5) (v := ?b3_v5) rfl (by kernel_rfl) (by kernel_rfl) (by kernel_rfl) (fun _ _ _ h => h) (Or.inl ⟨by kernel_rfl, ?b3_hy5⟩) (by assumption) ?b3_rest5
  case b3_hy5 => (intro w hSw; (try dsimp only at hSw); go_simp; try (with_reducible rfl))
  try simp only [Act.put, lay1, lay2, lay3, lay4, lay5, lay6]
  refine wpAnyH_take (i := 6) (v := ?b3_v6) rfl (by kernel_rfl) (by kernel_rfl) (by kernel_rfl) (fun _ _ _ h => h) (Or.inl ⟨by kernel_rfl, ?b3_hy6⟩) (by assumption) ?b3_rest6
  case b3_hy6 => (intro w hSw; (try dsimp only at hSw); go_simp; try (with_reducible rfl))
  try simp only [Act.put, lay1, lay2, lay3, lay4, lay5, lay6]
  refine wpAnyH_take (i := 7) (v := ?b3_v7) rfl (by kernel_rfl) (by kernel_rfl) (by kernel_rfl) (fun _ _ _ h => h) (Or.inl ⟨by kernel_rfl, ?b3_hy7⟩) (by assumption) ?b3_rest7
  case b3_hy7 => (intro w hSw; (try dsimp only at hSw); go_simp; try (with_reducible rfl))
  try simp only [Act.put, lay1, lay2, lay3, lay4, lay5, lay6]
  refine wpAnyH_take (i := 8) (v := ?b3_v8) rfl (by kernel_rfl) (by kernel_rfl) (by kernel_rfl) (fun _ _ _ h => h) (Or.inl ⟨by kernel_rfl, ?b3_hy8⟩) (by assumption) ?b3_rest8
  case b3_hy8 => (intro w hSw; (try dsimp only at hSw); go_simp; try (with_reducible rfl))
  try simp only [Act.put, lay1, lay2, lay3, lay4, lay5, lay6]
  refine wpAnyH_take (i := 9) (v := ?b3_v9) rfl (by kernel_rfl) (by kernel_rfl) (by kernel_rfl) (fun _ _ _ h => h) (Or.inl ⟨by kernel_rfl, ?b3_hy9⟩) (by assumption) ?b3_rest9
  case b3_hy9 => (intro w hSw; (try dsimp only at hSw); go_simp; try (with_reducible rfl))
  try simp only [Act.put, lay1, lay2, lay3, lay4, lay5, lay6]
  refine wpAnyH_take (i := 10) (v := ?b3_v10) rfl (by kernel_rfl) (by kernel_rfl) (by kernel_rfl) (fun _ _ _ h => h) (Or.inl ⟨by kernel_rfl, ?b3_hy10⟩) (by assumption) ?b3_rest10
  case b3_hy10 => (intro w hSw; (try dsimp only at hSw); go_simp; try (with_reducible rfl))
  try simp only [Act.put, lay1, lay2, lay3, lay4, lay5, lay6]
  refine wpAnyH_take (i := 11) (v := ?b3_v11) rfl (by kernel_rfl) (by kernel_rfl) (by kernel_rfl) (fun _ _ _ h => h) (Or.inl ⟨by kernel_rfl, ?b3_hy11⟩) (by assumption) ?b3_rest11
  case b3_hy11 => (intro w hSw; (try dsimp only at hSw); go_simp; try (with_reducible rfl))
  try simp only [Act.put, lay1, lay2, lay3, lay4, lay5, lay6]
  refine wpAnyH_take (i := 12) (v := ?b3_v12) rfl (by kernel_rfl) (by kernel_rfl) (by kernel_rfl) (fun _ _ _ h => h) (Or.inl ⟨by kernel_rfl, ?b3_hy12⟩) (by assumption) ?b3_rest12
  case b3_hy12 => (intro w hSw; (try dsimp only at hSw); go_simp; try (with_reducible rfl))
  try simp only [Act.put, lay1, lay2, lay3, lay4, lay5, lay6]
  refine wpAnyH_take (i := 13) (v := ?b3_v13) rfl (by kernel_rfl) (by kernel_rfl) (by kernel_rfl) (fun _ _ _ h => h) (Or.inl ⟨by kernel_rfl, ?b3_hy13⟩) (by assumption) ?b3_rest13
  case b3_hy13 => (intro w hSw; (try dsimp only at hSw); go_simp; try (with_reducible rfl))
  try simp only [Act.put, lay1, lay2, lay3, lay4, lay5, lay6]
  refine wpAnyH_take (i := 14) (v := ?b3_v14) rfl (by kernel_rfl) (by kernel_rfl) (by kernel_rfl) (fun _ _ _ h => h) (Or.inl ⟨by kernel_rfl, ?b3_hy14⟩) (by assumption) ?b3_rest14
  case b3_hy14 => (intro w hSw; (try dsimp only at hSw); go_simp; try (with_reducible rfl))
  try simp only [Act.put, lay1, lay2, lay3, lay4, lay5, lay6]
  refine wpAnyH_take (i := 15) (v := undef) rfl (by kernel_rfl) (by kernel_rfl) (by kernel_rfl) (fun _ _ _ h => h) (Or.inr ⟨by kernel_rfl, rfl⟩) (by assumption) ?_
  try simp only [Act.put, lay1, lay2, lay3, lay4, lay5, lay6]
  refine wpAnyH_take (i := 16) (v := undef) rfl (by kernel_rfl) (by kernel_rfl) (by kernel_rfl) (fun _ _ _ h => h) (Or.inr ⟨by kernel_rfl, rfl⟩) (by assumption) ?_
  try simp only [Act.put, lay1, lay2, lay3, lay4, lay5, lay6]
  refine wpAnyH_take (i := 17) (v := undef) rfl (by kernel_rfl) (by kernel_rfl) (by kernel_rfl) (fun _ _ _ h => h) (Or.inr ⟨by kernel_rfl, rfl⟩) (by assumption) ?_
  try simp only [Act.put, lay1, lay2, lay3, lay4, lay5, lay6]
  refine wpAnyH_take (i := 18) (v := undef) rfl (by kernel_rfl) (by kernel_rfl) (by kernel_rfl) (fun _ _ _ h => h) (Or.inr ⟨by kernel_rfl, rfl⟩) (by assumption) ?_
  try simp only [Act.put, lay1, lay2, lay3, lay4, lay5, lay6]
  refine wpAnyH_take (i := 19) (v := undef) rfl (by kernel_rfl) (by kernel_rfl) (by kernel_rfl) (fun _ _ _ h => h) (Or.inr ⟨by kernel_rfl, rfl⟩) (by assumption) ?_
  try simp only [Act.put, lay1, lay2, lay3, lay4, lay5, lay6]
  refine wpAnyH_take (i := 20) (v := undef) rfl (by kernel_rfl) (by kernel_rfl) (by kernel_rfl) (fun _ _ _ h => h) (Or.inr ⟨by kernel_rfl, rfl⟩) (by assumption) ?_
  try simp only [Act.put, lay1, lay2, lay3, lay4, lay5, lay6]
  refine wpAnyH_take (i := 21) (v := undef) rfl (by kernel_rfl) (by kernel_rfl) (by kernel_rfl) (fun _ _ _ h => h) (Or.inr ⟨by kernel_rfl, rfl⟩) (by assumption) ?_
  try simp only [Act.put, lay1, lay2, lay3, lay4, lay5, lay6]
  refine wpAnyH_take (i := 22) (v := undef) rfl (by kernel_rfl) (by kernel_rfl) (by kernel_rfl) (fun _ _ _ h => h) (Or.inr ⟨by kernel_rfl, rfl⟩) (by assumption) ?_
  try simp only [Act.put, lay1, lay2, lay3, lay4, lay5, lay6]
  refine wpAnyH_take (i := 23) (v := undef) rfl (by kernel_rfl) (by kernel_rfl) (by kernel_rfl) (fun _ _ _ h => h) (Or.inr ⟨by kernel_rfl, rfl⟩) (by assumption) ?_
  try simp only [Act.put, lay1, lay2, lay3, lay4, lay5, lay6]
  refine wpAnyH_take (i := 24) (v := undef) rfl (by kernel_rfl) (by kernel_rfl) (by kernel_rfl) (fun _ _ _ h => h) (Or.inr ⟨by kernel_rfl, rfl⟩) (by assumption) ?_
  try simp only [Act.put, lay1, lay2, lay3, lay4, lay5, lay6]
  refine wpAnyH_take (i := 25) (v := undef) rfl (by kernel_rfl) (by kernel_rfl) (by kernel_rfl) (fun _ _ _ h => h) (Or.inr ⟨by kernel_rfl, rfl⟩) (by assumption) ?_
  try simp only [Act.put, lay1, lay2, lay3, lay4, lay5, lay6]
  refine wpAnyH_take (i := 26) (v := undef) rfl (by kernel_rfl) (by kernel_rfl) (by kernel_rfl) (fun _ _ _ h => h) (Or.inr ⟨by kernel_rfl, rfl⟩) (by assumption) ?_
  try simp only [Act.put, lay1, lay2, lay3, lay4, lay5, lay6]
  refine wpAnyH_take (i := 27) (v := undef) rfl (by kernel_rfl) (by kernel_rfl) (by kernel_rfl) (fun _ _ _ h => h) (Or.inr ⟨by kernel_rfl, rfl⟩) (by assumption) ?_
  try simp only [Act.put, lay1, lay2, lay3, lay4, lay5, lay6]
  refine wpAnyH_take (i := 28) (v := undef) rfl (by kernel_rfl) (by kernel_rfl) (by kernel_rfl) (fun _ _ _ h => h) (Or.inr ⟨by kernel_rfl, rfl⟩) (by assumption) ?_
  try simp only [Act.put, lay1, lay2, lay3, lay4, lay5, lay6]
  try dsimp only
  try simp only [Act.put, lay1, lay2, lay3, lay4, lay5, lay6]
  refine wpAnyH_take (i := 29) (v := undef) rfl (by kernel_rfl) (by kernel_rfl) (by kernel_rfl) (fun _ _ _ h => h) (Or.inr ⟨by kernel_rfl, rfl⟩) (by assumption) ?_
  try simp only [Act.put, lay1, lay2, lay3, lay4, lay5, lay6]
  try dsimp only
  try simp only [Act.put, lay1, lay2, lay3, lay4, lay5, lay6]
  refine wpAnyH_take (i := 30) (v := ?b3_v30) rfl (by kernel_rfl) (by kernel_rfl) (by kernel_rfl) (fun _ _ _ h => h) (Or.inl ⟨by kernel_rfl, ?b3_hy30⟩) (by assumption) ?b3_rest30
  case b3_hy30 => (intro w hSw; (try dsimp only at hSw); go_simp; try (with_reducible rfl))
  try simp only [Act.put, lay1, lay2, lay3, lay4, lay5, lay6]
  try dsimp only
  try simp only [Act.put, lay1, lay2, lay3, lay4, lay5, lay6]
  refine wpAnyH_done (by kernel_rfl) ?_ _
  refine NoPanic.normal ?_
  replace hx := hx.below b1
  replace hX := hX.below b1 hX.lt
  replace hB := hB.trans (b1.mono hB.size)
  clear c1_hX_0 c1_hX_1 c1_hX_2 c1_hX_3 c1_hX_4 c1_hX_5
  obtain ⟨c2_hX_0, c2_hX_1, c2_hX_2, c2_hX_3, c2_hX_4, c2_hX_5⟩ := hX.cells6
  go_wp2
  go_ret
  exact ⟨rfl, hB⟩
set_option maxRecDepth 100000 in
set_option maxHeartbeats 8000000 in
theorem rright14_len (v : Value) (k z m o n : Int) (bs : List Bk) (w : World) (h : IsSt w v (k, z, m, o, n, bs)) (hm : mayB k z m o = true) (hn : 0 ≤ n) (hn2 : n ≤ 4096) (hb : (bs.length : Int) ≠ (partN z.toNat n.toNat : Nat)) :
    Calls Tryz.prog 8 #[v] w fun e w' => e = .returned (.bool false) ∧ Below w.heap.size w w' := by
  obtain ⟨x, rfl, hx⟩ := h
  simp only at hx ⊢
  obtain ⟨A, c, rfl, hc1, hc2⟩ := hx.len
  have hM := fun w => rmay14_any k z m o w
  rw [hm] at hM
  have n1 : decide (n < 0) = false := decide_eq_false (by omega)
  have n2 : decide (4096 < n) = false := decide_eq_false (by omega)
  obtain ⟨Z, rfl, z1, z2⟩ := size_of hm
  obtain ⟨N, rfl⟩ := Int.eq_ofNat_of_zero_le hn
  have hN : N ≤ 4096 := by omega
  obtain ⟨s1, hs1⟩ : ∃ s1 : Int, s1 = (N : Int) + (Z : Int) := ⟨_, rfl⟩
  obtain ⟨s2, hs2⟩ : ∃ s2 : Int, s2 = s1 - 1 := ⟨_, rfl⟩
  obtain ⟨q, hq⟩ : ∃ q : Int, q = ((partN Z N : Nat) : Int) := ⟨_, rfl⟩
  have hw1 : IntKind.i64.wrap ((N : Int) + (Z : Int)) = s1 := by rw [IntKind.wrap_i64, hs1]; omega
  have hw2 : IntKind.i64.wrap (s1 - 1) = s2 := by rw [IntKind.wrap_i64, hs2, hs1]; omega
  have hq0 : s2.tdiv (Z : Int) = q := by
    rw [hq, hs2, hs1, partN_int z1, Int.tdiv_eq_ediv_of_nonneg (by omega)]
  have hqb : 0 ≤ q ∧ q ≤ 4096 := by rw [hq]; have := partN_le (n := N) z1; omega
  have hw3 : IntKind.i64.wrap (s2.tdiv (Z : Int)) = q := by rw [hq0, IntKind.wrap_i64]; omega
  have hz0 : ((Z : Int) == 0) = false := by rw [beq_eq_false_iff_ne]; omega
  have hz3 : (Z : Int) ≠ 0 := by omega
  have hz4 : ¬ Z = 0 := by omega
  rw [Int.toNat_natCast, Int.toNat_natCast, ← hq] at hb
  have hbe : ((bs.length : Int) != q) = true := by rw [bne_iff_ne]; exact hb
  have hbe2 : decide ((bs.length : Int) = q) = false := decide_eq_false hb
  clear hq
  clear hs1 hs2 hq0 hqb
  obtain ⟨W0, hW, hR, hB⟩ := box1 w 26 #[.int .i64 k, .int .i64 Z, .int .i64 m, .int .i64 o, .int .i64 N, .slice A bs.length c]
  obtain ⟨g, hg⟩ : ∃ g, g = w.heap.size := ⟨_, rfl⟩
  have hW' := Lib.hid (And.intro hW hg)
  rw [← hg] at hR
  have hgw : w.heap.size ≤ g := by omega
  clear hW hg
  have hX := hR
  replace hx := hx.below hB
  obtain ⟨c1_hX_0, c1_hX_1, c1_hX_2, c1_hX_3, c1_hX_4, c1_hX_5⟩ := hX.cells6
  go_enter Tryz.func8, Tryz.ntmps8
  go_upto_region 1 with fail
  rw [← hW'.out.1, ← hW'.out.2]
  refine wp_region_noPanic ?_
  refine wp_region_held_drew (S := fun w' => w'.cell? ⟨g, 0, none⟩ = some (.int .i64 k) ∧ w'.cell? ⟨g, 1, none⟩ = some (.int .i64 Z) ∧ w'.cell? ⟨g, 2, none⟩ = some (.int .i64 m) ∧ w'.cell? ⟨g, 3, none⟩ = some (.int .i64 o) ∧ w'.cell? ⟨g, 4, none⟩ = some (.int .i64 N) ∧ w'.cell? ⟨g, 5, none⟩ = some (.slice A bs.length c)) (by kernel_rfl) ?_ (fun hHeld => ?_)
  · exact ⟨(hX.below (by first | assumption | exact bdrew _ | exact Below.refl _ _) hX.lt).cell 0, (hX.below (by first | assumption | exact bdrew _ | exact Below.refl _ _) hX.lt).cell 1, (hX.below (by first | assumption | exact bdrew _ | exact Below.refl _ _) hX.lt).cell 2, (hX.below (by first | assumption | exact bdrew _ | exact Below.refl _ _) hX.lt).cell 3, (hX.below (by first | assumption | exact bdrew _ | exact Below.refl _ _) hX.lt).cell 4, (hX.below (by first | assumption | exact bdrew _ | exact Below.refl _ _) hX.lt).cell 5⟩
  refine wpAnyH_take (i := 0) (v := ?b4_v0) rfl (by kernel_rfl) (by kernel_rfl) (by kernel_rfl) (fun _ _ _ h => h) (Or.inl ⟨by kernel_rfl, ?b4_hy0⟩) (by assumption) ?b4_rest0
  case b4_hy0 => (intro w hSw; (try dsimp only at hSw); go_simp; try (with_reducible rfl))
  try simp only [Act.put, lay1, lay2, lay3, lay4, lay5, lay6]
  refine wpAnyH_take (i := 1) (v := ?b4_v1) rfl (by kernel_rfl) (by kernel_rfl) (by kernel_rfl) (fun _ _ _ h => h) (Or.inl ⟨by kernel_rfl, ?b4_hy1⟩) (by assumption) ?b4_rest1
  case b4_hy1 => (intro w hSw; (try dsimp only at hSw); go_simp; try (with_reducible rfl))
  try simp only [Act.put, lay1, lay2, lay3, lay4, lay5, lay6]
  refine wpAnyH_ready (rs := [2]) (by kernel_rfl) (by simp) ?_
  refine AllReadyH.cons rfl (fun K hK => ?_) AllReadyH.nil
  go_simp
  refine (hM _).mono ?_
  rintro e w1 ⟨rfl, b1⟩
  have b1 := bstep (bdrew W0) b1
  go_wp2_with fail
  refine hK.out _ _ ?_ (fun hHeld => ?_)
  · exact ⟨(hX.below (by first | assumption | exact bdrew _ | exact Below.refl _ _) hX.lt).cell 0, (hX.below (by first | assumption | exact bdrew _ | exact Below.refl _ _) hX.lt).cell 1, (hX.below (by first | assumption | exact bdrew _ | exact Below.refl _ _) hX.lt).cell 2, (hX.below (by first | assumption | exact bdrew _ | exact Below.refl _ _) hX.lt).cell 3, (hX.below (by first | assumption | exact bdrew _ | exact Below.refl _ _) hX.lt).cell 4, (hX.below (by first | assumption | exact bdrew _ | exact Below.refl _ _) hX.lt).cell 5⟩
  clear hK K
  try simp only [Act.put, lay1, lay2, lay3, lay4, lay5, lay6]
  refine wpAnyH_take (i := 3) (v := ?b4_v3) rfl (by kernel_rfl) (by kernel_rfl) (by kernel_rfl) (fun _ _ _ h => h) (Or.inl ⟨by kernel_rfl, ?b4_hy3⟩) (by assumption) ?b4_rest3
  case b4_hy3 => (intro w hSw; (try dsimp only at hSw); go_simp; try (with_reducible rfl))
  try simp only [Act.put, lay1, lay2, lay3, lay4, lay5, lay6]
  refine wpAnyH_take (i := 4) (v := ?b4_v4) rfl (by kernel_rfl) (by kernel_rfl) (by kernel_rfl) (fun _ _ _ h => h) (Or.inl ⟨by kernel_rfl, ?b4_hy4⟩) (by assumption) ?b4_rest4
  case b4_hy4 => (intro w hSw; (try dsimp only at hSw); go_simp; try (with_reducible rfl))
  try simp only [Act.put, lay1, lay2, lay3, lay4, lay5, lay6]
  refine wpAnyH_take (i := 5) (v := ?b4_v5) rfl (by kernel_rfl) (by kernel_rfl) (by kernel_rfl) (fun _ _ _ h => h) (Or.inl ⟨by kernel_rfl, ?b4_hy5⟩) (by assumption) ?b4_rest5
  case b4_hy5 => (intro w hSw; (try dsimp only at hSw); go_simp; try (with_reducible rfl))
  try simp only [Act.put, lay1, lay2, lay3, lay4, lay5, lay6]
  refine wpAnyH_take (i := 6) (v := ?b4_v6) rfl (by kernel_rfl) (by kernel_rfl) (by kernel_rfl) (fun _ _ _ h => h) (Or.inl ⟨by kernel_rfl, ?b4_hy6⟩) (by assumption) ?b4_rest6
  case b4_hy6 => (intro w hSw; (try dsimp only at hSw); go_simp; try (with_reducible rfl))
  try simp only [Act.put, lay1, lay2, lay3, lay4, lay5, lay6]
  refine wpAnyH_take (i := 7) (v := ?b4_v7) rfl (by kernel_rfl) (by kernel_rfl) (by kernel_rfl) (fun _ _ _ h => h) (Or.inl ⟨by kernel_rfl, ?b4_hy7⟩) (by assumption) ?b4_rest7
  case b4_hy7 => (intro w hSw; (try dsimp only at hSw); go_simp; try (with_reducible rfl))
  try simp only [Act.put, lay1, lay2, lay3, lay4, lay5, lay6]
  refine wpAnyH_take (i := 8) (v := ?b4_v8) rfl (by kernel_rfl) (by kernel_rfl) (by kernel_rfl) (fun _ _ _ h => h) (Or.inl ⟨by kernel_rfl, ?b4_hy8⟩) (by assumption) ?b4_rest8
  case b4_hy8 => (intro w hSw; (try dsimp only at hSw); go_simp; try (with_reducible rfl))
  try simp only [Act.put, lay1, lay2, lay3, lay4, lay5, lay6]
  refine wpAnyH_take (i := 9) (v := ?b4_v9) rfl (by kernel_rfl) (by kernel_rfl) (by kernel_rfl) (fun _ _ _ h => h) (Or.inl ⟨by kernel_rfl, ?b4_hy9⟩) (by assumption) ?b4_rest9
  case b4_hy9 => (intro w hSw; (try dsimp only at hSw); go_simp; try (with_reducible rfl))
  try simp only [Act.put, lay1, lay2, lay3, lay4, lay5, lay6]
  refine wpAnyH_take (i := 10) (v := ?b4_v10) rfl (by kernel_rfl) (by kernel_rfl) (by kernel_rfl) (fun _ _ _ h => h) (Or.inl ⟨by kernel_rfl, ?b4_hy10⟩) (by assumption) ?b4_rest10
  case b4_hy10 => (intro w hSw; (try dsimp only at hSw); go_simp; try (with_reducible rfl))
  try simp only [Act.put, lay1, lay2, lay3, lay4, lay5, lay6]
  refine wpAnyH_take (i := 11) (v := ?b4_v11) rfl (by kernel_rfl) (by kernel_rfl) (by kernel_rfl) (fun _ _ _ h => h) (Or.inl ⟨by kernel_rfl, ?b4_hy11⟩) (by assumption) ?b4_rest11
  case b4_hy11 => (intro w hSw; (try dsimp only at hSw); go_simp; try (with_reducible rfl))
  try simp only [Act.put, lay1, lay2, lay3, lay4, lay5, lay6]
  refine wpAnyH_take (i := 12) (v := ?b4_v12) rfl (by kernel_rfl) (by kernel_rfl) (by kernel_rfl) (fun _ _ _ h => h) (Or.inl ⟨by kernel_rfl, ?b4_hy12⟩) (by assumption) ?b4_rest12
  case b4_hy12 => (intro w hSw; (try dsimp only at hSw); go_simp; try (with_reducible rfl))
  try simp only [Act.put, lay1, lay2, lay3, lay4, lay5, lay6]
  refine wpAnyH_take (i := 13) (v := ?b4_v13) rfl (by kernel_rfl) (by kernel_rfl) (by kernel_rfl) (fun _ _ _ h => h) (Or.inl ⟨by kernel_rfl, ?b4_hy13⟩) (by assumption) ?b4_rest13
  case b4_hy13 => (intro w hSw; (try dsimp only at hSw); go_simp; try (with_reducible rfl))
  try simp only [Act.put, lay1, lay2, lay3, lay4, lay5, lay6]
  refine wpAnyH_take (i := 14) (v := ?b4_v14) rfl (by kernel_rfl) (by kernel_rfl) (by kernel_rfl) (fun _ _ _ h => h) (Or.inl ⟨by kernel_rfl, ?b4_hy14⟩) (by assumption) ?b4_rest14
  case b4_hy14 => (intro w hSw; (try dsimp only at hSw); go_simp; try (with_reducible rfl))
  try simp only [Act.put, lay1, lay2, lay3, lay4, lay5, lay6]
  refine wpAnyH_take (i := 15) (v := ?b4_v15) rfl (by kernel_rfl) (by kernel_rfl) (by kernel_rfl) (fun _ _ _ h => h) (Or.inl ⟨by kernel_rfl, ?b4_hy15⟩) (by assumption) ?b4_rest15
  case b4_hy15 => (intro w hSw; (try dsimp only at hSw); go_simp; try (with_reducible rfl))
  try simp only [Act.put, lay1, lay2, lay3, lay4, lay5, lay6]
  refine wpAnyH_take (i := 16) (v := ?b4_v16) rfl (by kernel_rfl) (by kernel_rfl) (by kernel_rfl) (fun _ _ _ h => h) (Or.inl ⟨by kernel_rfl, ?b4_hy16⟩) (by assumption) ?b4_rest16
  case b4_hy16 => (intro w hSw; (try dsimp only at hSw); go_simp; try (with_reducible rfl))
  try simp only [Act.put, lay1, lay2, lay3, lay4, lay5, lay6]
  refine wpAnyH_take (i := 17) (v := ?b4_v17) rfl (by kernel_rfl) (by kernel_rfl) (by kernel_rfl) (fun _ _ _ h => h) (Or.inl ⟨by kernel_rfl, ?b4_hy17⟩) (by assumption) ?b4_rest17
  case b4_hy17 => (intro w hSw; (try dsimp only at hSw); go_simp; try (with_reducible rfl))
  try simp only [Act.put, lay1, lay2, lay3, lay4, lay5, lay6]
  refine wpAnyH_take (i := 18) (v := ?b4_v18) rfl (by kernel_rfl) (by kernel_rfl) (by kernel_rfl) (fun _ _ _ h => h) (Or.inl ⟨by kernel_rfl, ?b4_hy18⟩) (by assumption) ?b4_rest18
  case b4_hy18 => (intro w hSw; (try dsimp only at hSw); go_simp; try (with_reducible rfl))
  try simp only [Act.put, lay1, lay2, lay3, lay4, lay5, lay6]
  refine wpAnyH_take (i := 19) (v := ?b4_v19) rfl (by kernel_rfl) (by kernel_rfl) (by kernel_rfl) (fun _ _ _ h => h) (Or.inl ⟨by kernel_rfl, ?b4_hy19⟩) (by assumption) ?b4_rest19
  case b4_hy19 => (intro w hSw; (try dsimp only at hSw); go_simp; try (with_reducible rfl))
  try simp only [Act.put, lay1, lay2, lay3, lay4, lay5, lay6]
  refine wpAnyH_take (i := 20) (v := ?b4_v20) rfl (by kernel_rfl) (by kernel_rfl) (by kernel_rfl) (fun _ _ _ h => h) (Or.inl ⟨by kernel_rfl, ?b4_hy20⟩) (by assumption) ?b4_rest20
  case b4_hy20 => (intro w hSw; (try dsimp only at hSw); go_simp; try (with_reducible rfl))
  try simp only [Act.put, lay1, lay2, lay3, lay4, lay5, lay6]
  refine wpAnyH_take (i := 21) (v := ?b4_v21) rfl (by kernel_rfl) (by kernel_rfl) (by kernel_rfl) (fun _ _ _ h => h) (Or.inl ⟨by kernel_rfl, ?b4_hy21⟩) (by assumption) ?b4_rest21
  case b4_hy21 => (intro w hSw; (try dsimp only at hSw); go_simp; try (with_reducible rfl))
  try simp only [Act.put, lay1, lay2, lay3, lay4, lay5, lay6]
  refine wpAnyH_take (i := 22) (v := ?b4_v22) rfl (by kernel_rfl) (by kernel_rfl) (by kernel_rfl) (fun _ _ _ h => h) (Or.inl ⟨by kernel_rfl, ?b4_hy22⟩) (by assumption) ?b4_rest22
  case b4_hy22 => (intro w hSw; (try dsimp only at hSw); go_simp; try (with_reducible rfl))
  try simp only [Act.put, lay1, lay2, lay3, lay4, lay5, lay6]
  refine wpAnyH_take (i := 23) (v := ?b4_v23) rfl (by kernel_rfl) (by kernel_rfl) (by kernel_rfl) (fun _ _ _ h => h) (Or.inl ⟨by kernel_rfl, ?b4_hy23⟩) (by assumption) ?b4_rest23
  case b4_hy23 => (intro w hSw; (try dsimp only at hSw); go_simp; try (with_reducible rfl))
  try simp only [Act.put, lay1, lay2, lay3, lay4, lay5, lay6]
  refine wpAnyH_take (i := 24) (v := ?b4_v24) rfl (by kernel_rfl) (by kernel_rfl) (by kernel_rfl) (fun _ _ _ h => h) (Or.inl ⟨by kernel_rfl, ?b4_hy24⟩) (by assumption) ?b4_rest24
  case b4_hy24 => (intro w hSw; (try dsimp only at hSw); go_simp; try (with_reducible rfl))
  try simp only [Act.put, lay1, lay2, lay3, lay4, lay5, lay6]
  refine wpAnyH_take (i := 25) (v := ?b4_v25) rfl (by kernel_rfl) (by kernel_rfl) (by kernel_rfl) (fun _ _ _ h => h) (Or.inl ⟨by kernel_rfl, ?b4_hy25⟩) (by assumption) ?b4_rest25
  case b4_hy25 => (intro w hSw; (try dsimp only at hSw); go_simp; try (with_reducible rfl))
  try simp only [Act.put, lay1, lay2, lay3, lay4, lay5, lay6]
  refine wpAnyH_take (i := 26) (v := ?b4_v26) rfl (by kernel_rfl) (by kernel_rfl) (by kernel_rfl) (fun _ _ _ h => h) (Or.inl ⟨by kernel_rfl, ?b4_hy26⟩) (by assumption) ?b4_rest26
  case b4_hy26 => (intro w hSw; (try dsimp only at hSw); go_simp; try (with_reducible rfl))
  try simp only [Act.put, lay1, lay2, lay3, lay4, lay5, lay6]
  refine wpAnyH_take (i := 27) (v := ?b4_v27) rfl (by kernel_rfl) (by kernel_rfl) (by kernel_rfl) (fun _ _ _ h => h) (Or.inl ⟨by kernel_rfl, ?b4_hy27⟩) (by assumption) ?b4_rest27
  case b4_hy27 => (intro w hSw; (try dsimp only at hSw); go_simp; try (with_reducible rfl))
  try simp only [Act.put, lay1, lay2, lay3, lay4, lay5, lay6]
  refine wpAnyH_take (i := 28) (v := ?b4_v28) rfl (by kernel_rfl) (by kernel_rfl) (by kernel_rfl) (fun _ _ _ h => h) (Or.inl ⟨by kernel_rfl, ?b4_hy28⟩) (by assumption) ?b4_rest28
  case b4_hy28 => (intro w hSw; (try dsimp only at hSw); go_simp; try (with_reducible rfl))
  try simp only [Act.put, lay1, lay2, lay3, lay4, lay5, lay6]
  try dsimp only
  try simp only [Act.put, lay1, lay2, lay3, lay4, lay5, lay6]
  refine wpAnyH_take (i := 29) (v := ?b4_v29) rfl (by kernel_rfl) (by kernel_rfl) (by kernel_rfl) (fun _ _ _ h => h) (Or.inl ⟨by kernel_rfl, ?b4_hy29⟩) (by assumption) ?b4_rest29
  case b4_hy29 => (intro w hSw; (try dsimp only at hSw); go_simp; try (with_reducible rfl))
  try simp only [Act.put, lay1, lay2, lay3, lay4, lay5, lay6]
  try dsimp only
  try simp only [Act.put, lay1, lay2, lay3, lay4, lay5, lay6]
  refine wpAnyH_take (i := 30) (v := ?b4_v30) rfl (by kernel_rfl) (by kernel_rfl) (by kernel_rfl) (fun _ _ _ h => h) (Or.inl ⟨by kernel_rfl, ?b4_hy30⟩) (by assumption) ?b4_rest30
  case b4_hy30 => (intro w hSw; (try dsimp only at hSw); go_simp; try (with_reducible rfl))
  try simp only [Act.put, lay1, lay2, lay3, lay4, lay5, lay6]
  try dsimp only
  try simp only [Act.put, lay1, lay2, lay3, lay4, lay5, lay6]
  refine wpAnyH_done (by kernel_rfl) ?_ _
  refine NoPanic.normal ?_
  replace hx := hx.below b1
  replace hX := hX.below b1 hX.lt
  replace hB := hB.trans (b1.mono hB.size)
  clear c1_hX_0 c1_hX_1 c1_hX_2 c1_hX_3 c1_hX_4 c1_hX_5
  obtain ⟨c2_hX_0, c2_hX_1, c2_hX_2, c2_hX_3, c2_hX_4, c2_hX_5⟩ := hX.cells6
  go_wp2
  go_ret
  exact ⟨rfl, hB⟩
end Go.Proofs.YtochabikpaoalaaGreat
