/- ZedTells: which integers are right, small ones, which is greater, sums and products, are as the document says. No conditions: every input. -/
import Derived.Test.YtooonjcpdbbniaaGreatDoorAid04
import Derived.Test.YtooonjcpdbbniaaGreatDoorZed2
import Derived.Deep.RegionHeld3
namespace Go.Proofs.YtooonjcpdbbniaaGreatDoor
open Go.RowKit Go.Lib Go.Shelf
attribute [local go_sem ↓] Go.wp_at_zero Go.wp_at_succ
set_option maxRecDepth 100000 in
set_option maxHeartbeats 4000000 in
theorem ZedTells_long1 (sg1 sg2 : Bool) (A1 A2 : Option Addr) (C1 C2 : Nat) (l1 l2 : List Nat) (n : Int) (w : World) (h1 : IsL w (.slice A1 l1.length C1) l1) (h2 : IsL w (.slice A2 l2.length C2) l2) (hn0 : -9223372036854775808 ≤ n) (hn1 : n ≤ 9223372036854775807) (ht : TabOk w) (hl : 10 < l1.length) :
    Calls Tryz.prog 3 #[.agg #[.bool sg1, .slice A1 l1.length C1], .agg #[.bool sg2, .slice A2 l2.length C2], .int .i64 n] w fun e w' => e = .returned (.bool true) ∧ Below w.heap.size w w' := by
  have hE := fun w ht => alive04_any w ht
  have hl1 : decide ((10 : Int) < (l1.length : Int)) = true := decide_eq_true (by omega)
  obtain ⟨W0, hW, hT, hB⟩ := box2 w 25 25 #[.bool sg1, .slice A1 l1.length C1] #[.bool sg2, .slice A2 l2.length C2]
  obtain ⟨g, hg⟩ : ∃ g, g = w.heap.size := ⟨_, rfl⟩
  have hW' := Lib.hid (And.intro hW hg)
  rw [← hg] at hT
  have hgw : w.heap.size ≤ g := by omega
  clear hW hg
  obtain ⟨hX, hY⟩ := hT
  replace ht := ht.below hB
  obtain ⟨c1_hX_0, c1_hX_1⟩ := hX.cells2
  obtain ⟨c1_hY_0, c1_hY_1⟩ := hY.cells2
  go_enter Tryz.func3, Tryz.ntmps3
  go_wp2_with fail
  rw [← hW'.out.1, ← hW'.out.2]
  refine (hE _ ht).mono ?_
  rintro e w1 ⟨rfl, b1⟩
  replace ht := ht.below b1
  replace hX := hX.below b1 hX.lt
  replace hY := hY.below b1 hY.lt
  replace hB := hB.trans (b1.mono hB.size)
  clear c1_hX_0 c1_hX_1 c1_hY_0 c1_hY_1
  obtain ⟨c2_hX_0, c2_hX_1⟩ := hX.cells2
  obtain ⟨c2_hY_0, c2_hY_1⟩ := hY.cells2
  go_wp2_with fail
  go_ret
  exact ⟨rfl, hB⟩
set_option maxRecDepth 100000 in
set_option maxHeartbeats 4000000 in
theorem ZedTells_long2 (sg1 sg2 : Bool) (A1 A2 : Option Addr) (C1 C2 : Nat) (l1 l2 : List Nat) (n : Int) (w : World) (h1 : IsL w (.slice A1 l1.length C1) l1) (h2 : IsL w (.slice A2 l2.length C2) l2) (hn0 : -9223372036854775808 ≤ n) (hn1 : n ≤ 9223372036854775807) (ht : TabOk w) (hs : l1.length ≤ 10) (hl : 10 < l2.length) :
    Calls Tryz.prog 3 #[.agg #[.bool sg1, .slice A1 l1.length C1], .agg #[.bool sg2, .slice A2 l2.length C2], .int .i64 n] w fun e w' => e = .returned (.bool true) ∧ Below w.heap.size w w' := by
  have hE := fun w ht => alive04_any w ht
  have hl1 : decide ((10 : Int) < (l1.length : Int)) = false := decide_eq_false (by omega)
  have hl2 : decide ((10 : Int) < (l2.length : Int)) = true := decide_eq_true (by omega)
  obtain ⟨W0, hW, hT, hB⟩ := box2 w 25 25 #[.bool sg1, .slice A1 l1.length C1] #[.bool sg2, .slice A2 l2.length C2]
  obtain ⟨g, hg⟩ : ∃ g, g = w.heap.size := ⟨_, rfl⟩
  have hW' := Lib.hid (And.intro hW hg)
  rw [← hg] at hT
  have hgw : w.heap.size ≤ g := by omega
  clear hW hg
  obtain ⟨hX, hY⟩ := hT
  replace ht := ht.below hB
  obtain ⟨c1_hX_0, c1_hX_1⟩ := hX.cells2
  obtain ⟨c1_hY_0, c1_hY_1⟩ := hY.cells2
  go_enter Tryz.func3, Tryz.ntmps3
  go_wp2_with fail
  rw [← hW'.out.1, ← hW'.out.2]
  refine (hE _ ht).mono ?_
  rintro e w1 ⟨rfl, b1⟩
  replace ht := ht.below b1
  replace hX := hX.below b1 hX.lt
  replace hY := hY.below b1 hY.lt
  replace hB := hB.trans (b1.mono hB.size)
  clear c1_hX_0 c1_hX_1 c1_hY_0 c1_hY_1
  obtain ⟨c2_hX_0, c2_hX_1⟩ := hX.cells2
  obtain ⟨c2_hY_0, c2_hY_1⟩ := hY.cells2
  go_wp2_with fail
  go_ret
  exact ⟨rfl, hB⟩
set_option maxRecDepth 100000 in
set_option maxHeartbeats 4000000 in
theorem ZedTells_bad1 (sg1 sg2 : Bool) (A1 A2 : Option Addr) (C1 C2 : Nat) (l1 l2 : List Nat) (n : Int) (w : World) (h1 : IsL w (.slice A1 l1.length C1) l1) (h2 : IsL w (.slice A2 l2.length C2) l2) (hn0 : -9223372036854775808 ≤ n) (hn1 : n ≤ 9223372036854775807) (ht : TabOk w) (hs1 : l1.length ≤ 10) (hs2 : l2.length ≤ 10) (hr1 : rightZ sg1 l1 = false) :
    Calls Tryz.prog 3 #[.agg #[.bool sg1, .slice A1 l1.length C1], .agg #[.bool sg2, .slice A2 l2.length C2], .int .i64 n] w fun e w' => e = .returned (.bool true) ∧ Below w.heap.size w w' := by
  have hE := fun w ht => alive04_any w ht
  have hl1 : decide ((10 : Int) < (l1.length : Int)) = false := decide_eq_false (by omega)
  have hl2 : decide ((10 : Int) < (l2.length : Int)) = false := decide_eq_false (by omega)
  have hG := fun w h => pzright_any sg1 (.slice A1 l1.length C1) l1 w h
  have hG' := fun w h => rzright_any sg1 (.slice A1 l1.length C1) l1 w h
  have hG2 := fun w h => rzright_any sg2 (.slice A2 l2.length C2) l2 w h
  have hO := fun w => pzof_any n hn0 hn1 w
  have hO' := fun w => rzof_any n hn0 hn1 w
  have hS := fun va vb w h h' => rzsame_any va vb n n w h h'
  rw [show decide (n = n) = true from decide_eq_true rfl] at hS
  rw [hr1] at hG hG'
  obtain ⟨W0, hW, hT, hB⟩ := box2 w 25 25 #[.bool sg1, .slice A1 l1.length C1] #[.bool sg2, .slice A2 l2.length C2]
  obtain ⟨g, hg⟩ : ∃ g, g = w.heap.size := ⟨_, rfl⟩
  have hW' := Lib.hid (And.intro hW hg)
  rw [← hg] at hT
  have hgw : w.heap.size ≤ g := by omega
  clear hW hg
  obtain ⟨hX, hY⟩ := hT
  replace h1 := h1.below hB
  replace h2 := h2.below hB
  replace ht := ht.below hB
  obtain ⟨c1_hX_0, c1_hX_1⟩ := hX.cells2
  obtain ⟨c1_hY_0, c1_hY_1⟩ := hY.cells2
  go_enter Tryz.func3, Tryz.ntmps3
  go_upto_region 3 with fail
  rw [← hW'.out.1, ← hW'.out.2]
  clear c1_hX_0 c1_hX_1 c1_hY_0 c1_hY_1
  replace hB := hB.drew
  replace h1 := h1.below (bdrew _)
  replace h2 := h2.below (bdrew _)
  replace ht := ht.below (bdrew _)
  replace hX := hX.drew
  replace hY := hY.drew
  refine wp_region_noPanic ?_
  refine wp_region_held_drew (S := fun w' => w'.cell? ⟨g, 0, none⟩ = some (.bool sg1) ∧ w'.cell? ⟨g, 1, none⟩ = some (.slice A1 l1.length C1)) (by kernel_rfl) ?_ (fun hHeld => ?_)
  · exact hX.cells2
  refine wpAnyH_take (i := 0) (v := ?g1v0) rfl (by kernel_rfl) (by kernel_rfl) (by kernel_rfl) (fun _ _ _ h => h) (Or.inl ⟨by kernel_rfl, ?g1hy0⟩) (by assumption) ?g1rest0
  case g1hy0 => (intro w hSw; (try dsimp only at hSw); go_simp; try (with_reducible rfl))
  try simp only [Act.put, lay1, lay2, lay3, lay4, lay5, lay6]
  refine wpAnyH_take (i := 2) (v := ?g1v2) rfl (by kernel_rfl) (by kernel_rfl) (by kernel_rfl) (fun _ _ _ h => h) (Or.inl ⟨by kernel_rfl, ?g1hy2⟩) (by assumption) ?g1rest2
  case g1hy2 => (intro w hSw; (try dsimp only at hSw); go_simp; try (with_reducible rfl))
  try simp only [Act.put, lay1, lay2, lay3, lay4, lay5, lay6]
  refine wpAnyH_ready (rs := [1]) (by kernel_rfl) (by simp) ?_
  refine AllReadyH.cons rfl (fun K hK => ?_) AllReadyH.nil
  go_simp
  refine (hG _ h1).mono ?_
  rintro e w21 ⟨rfl, b21⟩
  replace hB := hB.trans (b21.mono hB.size)
  replace h1 := h1.below b21
  replace h2 := h2.below b21
  replace ht := ht.below b21
  replace hX := hX.below b21 hX.lt
  replace hY := hY.below b21 hY.lt
  go_wp2_with fail
  refine hK.out _ _ ?_ (fun hHeld => ?_)
  · exact hX.cells2
  clear hK K
  try simp only [Act.put, lay1, lay2, lay3, lay4, lay5, lay6]
  refine wpAnyH_ready (rs := [3]) (by kernel_rfl) (by simp) ?_
  refine AllReadyH.cons rfl (fun K hK => ?_) AllReadyH.nil
  go_simp
  refine (hG' _ h1).mono ?_
  rintro e w22 ⟨rfl, b22⟩
  replace hB := hB.trans (b22.mono hB.size)
  replace h1 := h1.below b22
  replace h2 := h2.below b22
  replace ht := ht.below b22
  replace hX := hX.below b22 hX.lt
  replace hY := hY.below b22 hY.lt
  go_wp2_with fail
  refine hK.out _ _ ?_ (fun hHeld => ?_)
  · exact hX.cells2
  clear hK K
  try simp only [Act.put, lay1, lay2, lay3, lay4, lay5, lay6]
  refine wpAnyH_take (i := 4) (v := ?g1v4) rfl (by kernel_rfl) (by kernel_rfl) (by kernel_rfl) (fun _ _ _ h => h) (Or.inl ⟨by kernel_rfl, ?g1hy4⟩) (by assumption) ?g1rest4
  case g1hy4 => (intro w hSw; (try dsimp only at hSw); go_simp; try (with_reducible rfl))
  try simp only [Act.put, lay1, lay2, lay3, lay4, lay5, lay6]
  refine wpAnyH_take (i := 5) (v := ?g1v5) rfl (by kernel_rfl) (by kernel_rfl) (by kernel_rfl) (fun _ _ _ h => h) (Or.inl ⟨by kernel_rfl, ?g1hy5⟩) (by assumption) ?g1rest5
  case g1hy5 => (intro w hSw; (try dsimp only at hSw); go_simp; try (with_reducible rfl))
  try simp only [Act.put, lay1, lay2, lay3, lay4, lay5, lay6]
  refine wpAnyH_take (i := 6) (v := ?g1v6) rfl (by kernel_rfl) (by kernel_rfl) (by kernel_rfl) (fun _ _ _ h => h) (Or.inl ⟨by kernel_rfl, ?g1hy6⟩) (by assumption) ?g1rest6
  case g1hy6 => (intro w hSw; (try dsimp only at hSw); go_simp; try (with_reducible rfl))
  try simp only [Act.put, lay1, lay2, lay3, lay4, lay5, lay6]
  refine wpAnyH_take (i := 8) (v := ?g1v8) rfl (by kernel_rfl) (by kernel_rfl) (by kernel_rfl) (fun _ _ _ h => h) (Or.inl ⟨by kernel_rfl, ?g1hy8⟩) (by assumption) ?g1rest8
  case g1hy8 => (intro w hSw; (try dsimp only at hSw); go_simp; try (with_reducible rfl))
  try simp only [Act.put, lay1, lay2, lay3, lay4, lay5, lay6]
  refine wpAnyH_ready (rs := [7]) (by kernel_rfl) (by simp) ?_
  refine AllReadyH.cons rfl (fun K hK => ?_) AllReadyH.nil
  go_simp
  refine (hO _).mono ?_
  rintro e w23 ⟨v23, rfl, o1, b23⟩
  replace hB := hB.trans (b23.mono hB.size)
  replace h1 := h1.below b23
  replace h2 := h2.below b23
  replace ht := ht.below b23
  replace hX := hX.below b23 hX.lt
  replace hY := hY.below b23 hY.lt
  go_wp2_with fail
  refine hK.out _ _ ?_ (fun hHeld => ?_)
  · exact hX.cells2
  clear hK K
  try simp only [Act.put, lay1, lay2, lay3, lay4, lay5, lay6]
  refine wpAnyH_ready (rs := [9]) (by kernel_rfl) (by simp) ?_
  refine AllReadyH.cons rfl (fun K hK => ?_) AllReadyH.nil
  go_simp
  refine (hO' _).mono ?_
  rintro e w24 ⟨v24, rfl, o2, b24⟩
  replace hB := hB.trans (b24.mono hB.size)
  replace h1 := h1.below b24
  replace h2 := h2.below b24
  replace ht := ht.below b24
  replace o1 := o1.below b24
  replace hX := hX.below b24 hX.lt
  replace hY := hY.below b24 hY.lt
  go_wp2_with fail
  refine hK.out _ _ ?_ (fun hHeld => ?_)
  · exact hX.cells2
  clear hK K
  try simp only [Act.put, lay1, lay2, lay3, lay4, lay5, lay6]
  refine wpAnyH_ready (rs := [10]) (by kernel_rfl) (by simp) ?_
  refine AllReadyH.cons rfl (fun K hK => ?_) AllReadyH.nil
  go_simp
  refine (hS _ _ _ o1 o2).mono ?_
  rintro e w25 ⟨rfl, b25⟩
  replace hB := hB.trans (b25.mono hB.size)
  replace h1 := h1.below b25
  replace h2 := h2.below b25
  replace ht := ht.below b25
  replace hX := hX.below b25 hX.lt
  replace hY := hY.below b25 hY.lt
  go_wp2_with fail
  refine hK.out _ _ ?_ (fun hHeld => ?_)
  · exact hX.cells2
  clear hK K
  try simp only [Act.put, lay1, lay2, lay3, lay4, lay5, lay6]
  try dsimp only
  try simp only [Act.put, lay1, lay2, lay3, lay4, lay5, lay6]
  refine wpAnyH_take (i := 11) (v := ?g1v11) rfl (by kernel_rfl) (by kernel_rfl) (by kernel_rfl) (fun _ _ _ h => h) (Or.inl ⟨by kernel_rfl, ?g1hy11⟩) (by assumption) ?g1rest11
  case g1hy11 => (intro w hSw; (try dsimp only at hSw); go_simp; try (with_reducible rfl))
  try simp only [Act.put, lay1, lay2, lay3, lay4, lay5, lay6]
  try dsimp only
  try simp only [Act.put, lay1, lay2, lay3, lay4, lay5, lay6]
  refine wpAnyH_take (i := 12) (v := ?g1v12) rfl (by kernel_rfl) (by kernel_rfl) (by kernel_rfl) (fun _ _ _ h => h) (Or.inl ⟨by kernel_rfl, ?g1hy12⟩) (by assumption) ?g1rest12
  case g1hy12 => (intro w hSw; (try dsimp only at hSw); go_simp; try (with_reducible rfl))
  try simp only [Act.put, lay1, lay2, lay3, lay4, lay5, lay6]
  try dsimp only
  try simp only [Act.put, lay1, lay2, lay3, lay4, lay5, lay6]
  refine wpAnyH_done (by kernel_rfl) ?_ _
  refine NoPanic.normal ?_
  obtain ⟨c2_hX_0, c2_hX_1⟩ := hX.cells2
  obtain ⟨c2_hY_0, c2_hY_1⟩ := hY.cells2
  go_wp2_with fail
  refine (hG' _ h1).mono ?_
  rintro e w1 ⟨rfl, b1⟩
  replace h1 := h1.below b1
  replace h2 := h2.below b1
  replace ht := ht.below b1
  replace hX := hX.below b1 hX.lt
  replace hY := hY.below b1 hY.lt
  replace hB := hB.trans (b1.mono hB.size)
  clear c2_hX_0 c2_hX_1 c2_hY_0 c2_hY_1
  obtain ⟨c3_hX_0, c3_hX_1⟩ := hX.cells2
  obtain ⟨c3_hY_0, c3_hY_1⟩ := hY.cells2
  go_wp2_with fail
  refine (hE _ ht).mono ?_
  rintro e w2 ⟨rfl, b2⟩
  replace h1 := h1.below b2
  replace h2 := h2.below b2
  replace ht := ht.below b2
  replace hX := hX.below b2 hX.lt
  replace hY := hY.below b2 hY.lt
  replace hB := hB.trans (b2.mono hB.size)
  clear c3_hX_0 c3_hX_1 c3_hY_0 c3_hY_1
  obtain ⟨c4_hX_0, c4_hX_1⟩ := hX.cells2
  obtain ⟨c4_hY_0, c4_hY_1⟩ := hY.cells2
  go_wp2_with fail
  go_ret
  exact ⟨rfl, hB⟩
set_option maxRecDepth 100000 in
set_option maxHeartbeats 4000000 in
theorem ZedTells_bad2 (sg1 sg2 : Bool) (A1 A2 : Option Addr) (C1 C2 : Nat) (l1 l2 : List Nat) (n : Int) (w : World) (h1 : IsL w (.slice A1 l1.length C1) l1) (h2 : IsL w (.slice A2 l2.length C2) l2) (hn0 : -9223372036854775808 ≤ n) (hn1 : n ≤ 9223372036854775807) (ht : TabOk w) (hs1 : l1.length ≤ 10) (hs2 : l2.length ≤ 10) (hr1 : rightZ sg1 l1 = true) (hr2 : rightZ sg2 l2 = false) :
    Calls Tryz.prog 3 #[.agg #[.bool sg1, .slice A1 l1.length C1], .agg #[.bool sg2, .slice A2 l2.length C2], .int .i64 n] w fun e w' => e = .returned (.bool true) ∧ Below w.heap.size w w' := by
  have hE := fun w ht => alive04_any w ht
  have hl1 : decide ((10 : Int) < (l1.length : Int)) = false := decide_eq_false (by omega)
  have hl2 : decide ((10 : Int) < (l2.length : Int)) = false := decide_eq_false (by omega)
  have hG := fun w h => pzright_any sg1 (.slice A1 l1.length C1) l1 w h
  have hG' := fun w h => rzright_any sg1 (.slice A1 l1.length C1) l1 w h
  have hG2 := fun w h => rzright_any sg2 (.slice A2 l2.length C2) l2 w h
  have hO := fun w => pzof_any n hn0 hn1 w
  have hO' := fun w => rzof_any n hn0 hn1 w
  have hS := fun va vb w h h' => rzsame_any va vb n n w h h'
  rw [show decide (n = n) = true from decide_eq_true rfl] at hS
  rw [hr1] at hG hG'
  rw [hr2] at hG2
  obtain ⟨W0, hW, hT, hB⟩ := box2 w 25 25 #[.bool sg1, .slice A1 l1.length C1] #[.bool sg2, .slice A2 l2.length C2]
  obtain ⟨g, hg⟩ : ∃ g, g = w.heap.size := ⟨_, rfl⟩
  have hW' := Lib.hid (And.intro hW hg)
  rw [← hg] at hT
  have hgw : w.heap.size ≤ g := by omega
  clear hW hg
  obtain ⟨hX, hY⟩ := hT
  replace h1 := h1.below hB
  replace h2 := h2.below hB
  replace ht := ht.below hB
  obtain ⟨c1_hX_0, c1_hX_1⟩ := hX.cells2
  obtain ⟨c1_hY_0, c1_hY_1⟩ := hY.cells2
  go_enter Tryz.func3, Tryz.ntmps3
  go_upto_region 3 with fail
  rw [← hW'.out.1, ← hW'.out.2]
  clear c1_hX_0 c1_hX_1 c1_hY_0 c1_hY_1
  replace hB := hB.drew
  replace h1 := h1.below (bdrew _)
  replace h2 := h2.below (bdrew _)
  replace ht := ht.below (bdrew _)
  replace hX := hX.drew
  replace hY := hY.drew
  refine wp_region_noPanic ?_
  refine wp_region_held_drew (S := fun w' => w'.cell? ⟨g, 0, none⟩ = some (.bool sg1) ∧ w'.cell? ⟨g, 1, none⟩ = some (.slice A1 l1.length C1)) (by kernel_rfl) ?_ (fun hHeld => ?_)
  · exact hX.cells2
  refine wpAnyH_take (i := 0) (v := ?g2v0) rfl (by kernel_rfl) (by kernel_rfl) (by kernel_rfl) (fun _ _ _ h => h) (Or.inl ⟨by kernel_rfl, ?g2hy0⟩) (by assumption) ?g2rest0
  case g2hy0 => (intro w hSw; (try dsimp only at hSw); go_simp; try (with_reducible rfl))
  try simp only [Act.put, lay1, lay2, lay3, lay4, lay5, lay6]
  refine wpAnyH_take (i := 2) (v := ?g2v2) rfl (by kernel_rfl) (by kernel_rfl) (by kernel_rfl) (fun _ _ _ h => h) (Or.inl ⟨by kernel_rfl, ?g2hy2⟩) (by assumption) ?g2rest2
  case g2hy2 => (intro w hSw; (try dsimp only at hSw); go_simp; try (with_reducible rfl))
  try simp only [Act.put, lay1, lay2, lay3, lay4, lay5, lay6]
  refine wpAnyH_ready (rs := [1]) (by kernel_rfl) (by simp) ?_
  refine AllReadyH.cons rfl (fun K hK => ?_) AllReadyH.nil
  go_simp
  refine (hG _ h1).mono ?_
  rintro e w21 ⟨rfl, b21⟩
  replace hB := hB.trans (b21.mono hB.size)
  replace h1 := h1.below b21
  replace h2 := h2.below b21
  replace ht := ht.below b21
  replace hX := hX.below b21 hX.lt
  replace hY := hY.below b21 hY.lt
  go_wp2_with fail
  refine hK.out _ _ ?_ (fun hHeld => ?_)
  · exact hX.cells2
  clear hK K
  try simp only [Act.put, lay1, lay2, lay3, lay4, lay5, lay6]
  refine wpAnyH_ready (rs := [3]) (by kernel_rfl) (by simp) ?_
  refine AllReadyH.cons rfl (fun K hK => ?_) AllReadyH.nil
  go_simp
  refine (hG' _ h1).mono ?_
  rintro e w22 ⟨rfl, b22⟩
  replace hB := hB.trans (b22.mono hB.size)
  replace h1 := h1.below b22
  replace h2 := h2.below b22
  replace ht := ht.below b22
  replace hX := hX.below b22 hX.lt
  replace hY := hY.below b22 hY.lt
  go_wp2_with fail
  refine hK.out _ _ ?_ (fun hHeld => ?_)
  · exact hX.cells2
  clear hK K
  try simp only [Act.put, lay1, lay2, lay3, lay4, lay5, lay6]
  refine wpAnyH_take (i := 4) (v := ?g2v4) rfl (by kernel_rfl) (by kernel_rfl) (by kernel_rfl) (fun _ _ _ h => h) (Or.inl ⟨by kernel_rfl, ?g2hy4⟩) (by assumption) ?g2rest4
  case g2hy4 => (intro w hSw; (try dsimp only at hSw); go_simp; try (with_reducible rfl))
  try simp only [Act.put, lay1, lay2, lay3, lay4, lay5, lay6]
  refine wpAnyH_take (i := 5) (v := ?g2v5) rfl (by kernel_rfl) (by kernel_rfl) (by kernel_rfl) (fun _ _ _ h => h) (Or.inl ⟨by kernel_rfl, ?g2hy5⟩) (by assumption) ?g2rest5
  case g2hy5 => (intro w hSw; (try dsimp only at hSw); go_simp; try (with_reducible rfl))
  try simp only [Act.put, lay1, lay2, lay3, lay4, lay5, lay6]
  refine wpAnyH_take (i := 6) (v := ?g2v6) rfl (by kernel_rfl) (by kernel_rfl) (by kernel_rfl) (fun _ _ _ h => h) (Or.inl ⟨by kernel_rfl, ?g2hy6⟩) (by assumption) ?g2rest6
  case g2hy6 => (intro w hSw; (try dsimp only at hSw); go_simp; try (with_reducible rfl))
  try simp only [Act.put, lay1, lay2, lay3, lay4, lay5, lay6]
  refine wpAnyH_take (i := 8) (v := ?g2v8) rfl (by kernel_rfl) (by kernel_rfl) (by kernel_rfl) (fun _ _ _ h => h) (Or.inl ⟨by kernel_rfl, ?g2hy8⟩) (by assumption) ?g2rest8
  case g2hy8 => (intro w hSw; (try dsimp only at hSw); go_simp; try (with_reducible rfl))
  try simp only [Act.put, lay1, lay2, lay3, lay4, lay5, lay6]
  refine wpAnyH_ready (rs := [7]) (by kernel_rfl) (by simp) ?_
  refine AllReadyH.cons rfl (fun K hK => ?_) AllReadyH.nil
  go_simp
  refine (hO _).mono ?_
  rintro e w23 ⟨v23, rfl, o1, b23⟩
  replace hB := hB.trans (b23.mono hB.size)
  replace h1 := h1.below b23
  replace h2 := h2.below b23
  replace ht := ht.below b23
  replace hX := hX.below b23 hX.lt
  replace hY := hY.below b23 hY.lt
  go_wp2_with fail
  refine hK.out _ _ ?_ (fun hHeld => ?_)
  · exact hX.cells2
  clear hK K
  try simp only [Act.put, lay1, lay2, lay3, lay4, lay5, lay6]
  refine wpAnyH_ready (rs := [9]) (by kernel_rfl) (by simp) ?_
  refine AllReadyH.cons rfl (fun K hK => ?_) AllReadyH.nil
  go_simp
  refine (hO' _).mono ?_
  rintro e w24 ⟨v24, rfl, o2, b24⟩
  replace hB := hB.trans (b24.mono hB.size)
  replace h1 := h1.below b24
  replace h2 := h2.below b24
  replace ht := ht.below b24
  replace o1 := o1.below b24
  replace hX := hX.below b24 hX.lt
  replace hY := hY.below b24 hY.lt
  go_wp2_with fail
  refine hK.out _ _ ?_ (fun hHeld => ?_)
  · exact hX.cells2
  clear hK K
  try simp only [Act.put, lay1, lay2, lay3, lay4, lay5, lay6]
  refine wpAnyH_ready (rs := [10]) (by kernel_rfl) (by simp) ?_
  refine AllReadyH.cons rfl (fun K hK => ?_) AllReadyH.nil
  go_simp
  refine (hS _ _ _ o1 o2).mono ?_
  rintro e w25 ⟨rfl, b25⟩
  replace hB := hB.trans (b25.mono hB.size)
  replace h1 := h1.below b25
  replace h2 := h2.below b25
  replace ht := ht.below b25
  replace hX := hX.below b25 hX.lt
  replace hY := hY.below b25 hY.lt
  go_wp2_with fail
  refine hK.out _ _ ?_ (fun hHeld => ?_)
  · exact hX.cells2
  clear hK K
  try simp only [Act.put, lay1, lay2, lay3, lay4, lay5, lay6]
  try dsimp only
  try simp only [Act.put, lay1, lay2, lay3, lay4, lay5, lay6]
  refine wpAnyH_take (i := 11) (v := ?g2v11) rfl (by kernel_rfl) (by kernel_rfl) (by kernel_rfl) (fun _ _ _ h => h) (Or.inl ⟨by kernel_rfl, ?g2hy11⟩) (by assumption) ?g2rest11
  case g2hy11 => (intro w hSw; (try dsimp only at hSw); go_simp; try (with_reducible rfl))
  try simp only [Act.put, lay1, lay2, lay3, lay4, lay5, lay6]
  try dsimp only
  try simp only [Act.put, lay1, lay2, lay3, lay4, lay5, lay6]
  refine wpAnyH_take (i := 12) (v := ?g2v12) rfl (by kernel_rfl) (by kernel_rfl) (by kernel_rfl) (fun _ _ _ h => h) (Or.inl ⟨by kernel_rfl, ?g2hy12⟩) (by assumption) ?g2rest12
  case g2hy12 => (intro w hSw; (try dsimp only at hSw); go_simp; try (with_reducible rfl))
  try simp only [Act.put, lay1, lay2, lay3, lay4, lay5, lay6]
  try dsimp only
  try simp only [Act.put, lay1, lay2, lay3, lay4, lay5, lay6]
  refine wpAnyH_done (by kernel_rfl) ?_ _
  refine NoPanic.normal ?_
  obtain ⟨c2_hX_0, c2_hX_1⟩ := hX.cells2
  obtain ⟨c2_hY_0, c2_hY_1⟩ := hY.cells2
  go_wp2_with fail
  refine (hG' _ h1).mono ?_
  rintro e w1 ⟨rfl, b1⟩
  replace h1 := h1.below b1
  replace h2 := h2.below b1
  replace ht := ht.below b1
  replace hX := hX.below b1 hX.lt
  replace hY := hY.below b1 hY.lt
  replace hB := hB.trans (b1.mono hB.size)
  clear c2_hX_0 c2_hX_1 c2_hY_0 c2_hY_1
  obtain ⟨c3_hX_0, c3_hX_1⟩ := hX.cells2
  obtain ⟨c3_hY_0, c3_hY_1⟩ := hY.cells2
  go_wp2_with fail
  refine (hG2 _ h2).mono ?_
  rintro e w2 ⟨rfl, b2⟩
  replace h1 := h1.below b2
  replace h2 := h2.below b2
  replace ht := ht.below b2
  replace hX := hX.below b2 hX.lt
  replace hY := hY.below b2 hY.lt
  replace hB := hB.trans (b2.mono hB.size)
  clear c3_hX_0 c3_hX_1 c3_hY_0 c3_hY_1
  obtain ⟨c4_hX_0, c4_hX_1⟩ := hX.cells2
  obtain ⟨c4_hY_0, c4_hY_1⟩ := hY.cells2
  go_wp2_with fail
  refine (hE _ ht).mono ?_
  rintro e w3 ⟨rfl, b3⟩
  replace h1 := h1.below b3
  replace h2 := h2.below b3
  replace ht := ht.below b3
  replace hX := hX.below b3 hX.lt
  replace hY := hY.below b3 hY.lt
  replace hB := hB.trans (b3.mono hB.size)
  clear c4_hX_0 c4_hX_1 c4_hY_0 c4_hY_1
  obtain ⟨c5_hX_0, c5_hX_1⟩ := hX.cells2
  obtain ⟨c5_hY_0, c5_hY_1⟩ := hY.cells2
  go_wp2_with fail
  go_ret
  exact ⟨rfl, hB⟩
set_option maxRecDepth 100000 in
set_option maxHeartbeats 4000000 in
theorem ZedTells_main (sg1 sg2 : Bool) (A1 A2 : Option Addr) (C1 C2 : Nat) (l1 l2 : List Nat) (n : Int) (w : World) (h1 : IsL w (.slice A1 l1.length C1) l1) (h2 : IsL w (.slice A2 l2.length C2) l2) (hn0 : -9223372036854775808 ≤ n) (hn1 : n ≤ 9223372036854775807) (ht : TabOk w) (hs1 : l1.length ≤ 10) (hs2 : l2.length ≤ 10) (hr1 : rightZ sg1 l1 = true) (hr2 : rightZ sg2 l2 = true) :
    Calls Tryz.prog 3 #[.agg #[.bool sg1, .slice A1 l1.length C1], .agg #[.bool sg2, .slice A2 l2.length C2], .int .i64 n] w fun e w' => e = .returned (.bool true) ∧ Below w.heap.size w w' := by
  have hE := fun w ht => alive04_any w ht
  have hl1 : decide ((10 : Int) < (l1.length : Int)) = false := decide_eq_false (by omega)
  have hl2 : decide ((10 : Int) < (l2.length : Int)) = false := decide_eq_false (by omega)
  have hG := fun w h => pzright_any sg1 (.slice A1 l1.length C1) l1 w h
  have hG' := fun w h => rzright_any sg1 (.slice A1 l1.length C1) l1 w h
  have hG2 := fun w h => rzright_any sg2 (.slice A2 l2.length C2) l2 w h
  have hO := fun w => pzof_any n hn0 hn1 w
  have hO' := fun w => rzof_any n hn0 hn1 w
  have hS := fun va vb w h h' => rzsame_any va vb n n w h h'
  rw [show decide (n = n) = true from decide_eq_true rfl] at hS
  rw [hr1] at hG hG'
  rw [hr2] at hG2
  obtain ⟨z1, hl1'⟩ := isZ_right h1 hr1
  obtain ⟨z2, hl2'⟩ := isZ_right h2 hr2
  obtain ⟨x, hx⟩ : ∃ x, x = sided sg1 (num l1) := ⟨_, rfl⟩
  obtain ⟨y, hy⟩ : ∃ y, y = sided sg2 (num l2) := ⟨_, rfl⟩
  rw [← hx] at z1 hl1'
  rw [← hy] at z2 hl2'
  have sx : Sz x.natAbs 400000 := by unfold Sz; omega
  have sy : Sz y.natAbs 400000 := by unfold Sz; omega
  have hI := fun v w h => pzint_any v x w h
  have hI' := fun v w h => rzint_any v x w h
  have hA := fun va vb w h h' => pzadd_any va vb x y w h h' sx sy
  have hA' := fun va vb w h h' => rzadd_any va vb x y w h h' sx sy
  have hM := fun va vb w h h' => pzmul_any va vb x y w h h' sx sy
  have hM' := fun va vb w h h' => rzmul_any va vb x y w h h' sx sy
  have hN := fun v w h => pzneg_any v x w h
  have hN' := fun v w h => rzneg_any v x w h
  have hC := fun va vb w h h' => pzcmp_any va vb x y w h h'
  have hC' := fun va vb w h h' => rzcmp_any va vb x y w h h'
  have hSA := fun va vb w h h' => rzsame_any va vb (x + y) (x + y) w h h'
  have hSM := fun va vb w h h' => rzsame_any va vb (x * y) (x * y) w h h'
  have hSN := fun va vb w h h' => rzsame_any va vb (-x) (-x) w h h'
  rw [show decide (x + y = x + y) = true from decide_eq_true rfl] at hSA
  rw [show decide (x * y = x * y) = true from decide_eq_true rfl] at hSM
  rw [show decide (-x = -x) = true from decide_eq_true rfl] at hSN
  generalize fitV x = fv at *
  generalize fitB x = fb at *
  generalize cmpI x y = cm at *
  clear hx hy hl1' hl2' sx sy
  obtain ⟨W0, hW, hT, hB⟩ := box2 w 25 25 #[.bool sg1, .slice A1 l1.length C1] #[.bool sg2, .slice A2 l2.length C2]
  obtain ⟨g, hg⟩ : ∃ g, g = w.heap.size := ⟨_, rfl⟩
  have hW' := Lib.hid (And.intro hW hg)
  rw [← hg] at hT
  have hgw : w.heap.size ≤ g := by omega
  clear hW hg
  obtain ⟨hX, hY⟩ := hT
  replace h1 := h1.below hB
  replace h2 := h2.below hB
  replace ht := ht.below hB
  replace z1 := z1.below hB
  replace z2 := z2.below hB
  obtain ⟨c1_hX_0, c1_hX_1⟩ := hX.cells2
  obtain ⟨c1_hY_0, c1_hY_1⟩ := hY.cells2
  go_enter Tryz.func3, Tryz.ntmps3
  go_upto_region 3 with fail
  rw [← hW'.out.1, ← hW'.out.2]
  clear c1_hX_0 c1_hX_1 c1_hY_0 c1_hY_1
  replace hB := hB.drew
  replace h1 := h1.below (bdrew _)
  replace h2 := h2.below (bdrew _)
  replace ht := ht.below (bdrew _)
  replace z1 := z1.below (bdrew _)
  replace z2 := z2.below (bdrew _)
  replace hX := hX.drew
  replace hY := hY.drew
  refine wp_region_noPanic ?_
  refine wp_region_held_drew (S := fun w' => w'.cell? ⟨g, 0, none⟩ = some (.bool sg1) ∧ w'.cell? ⟨g, 1, none⟩ = some (.slice A1 l1.length C1)) (by kernel_rfl) ?_ (fun hHeld => ?_)
  · exact hX.cells2
  refine wpAnyH_take (i := 0) (v := ?g3v0) rfl (by kernel_rfl) (by kernel_rfl) (by kernel_rfl) (fun _ _ _ h => h) (Or.inl ⟨by kernel_rfl, ?g3hy0⟩) (by assumption) ?g3rest0
  case g3hy0 => (intro w hSw; (try dsimp only at hSw); go_simp; try (with_reducible rfl))
  try simp only [Act.put, lay1, lay2, lay3, lay4, lay5, lay6]
  refine wpAnyH_take (i := 2) (v := ?g3v2) rfl (by kernel_rfl) (by kernel_rfl) (by kernel_rfl) (fun _ _ _ h => h) (Or.inl ⟨by kernel_rfl, ?g3hy2⟩) (by assumption) ?g3rest2
  case g3hy2 => (intro w hSw; (try dsimp only at hSw); go_simp; try (with_reducible rfl))
  try simp only [Act.put, lay1, lay2, lay3, lay4, lay5, lay6]
  refine wpAnyH_ready (rs := [1]) (by kernel_rfl) (by simp) ?_
  refine AllReadyH.cons rfl (fun K hK => ?_) AllReadyH.nil
  go_simp
  refine (hG _ h1).mono ?_
  rintro e w21 ⟨rfl, b21⟩
  replace hB := hB.trans (b21.mono hB.size)
  replace h1 := h1.below b21
  replace h2 := h2.below b21
  replace ht := ht.below b21
  replace z1 := z1.below b21
  replace z2 := z2.below b21
  replace hX := hX.below b21 hX.lt
  replace hY := hY.below b21 hY.lt
  go_wp2_with fail
  refine hK.out _ _ ?_ (fun hHeld => ?_)
  · exact hX.cells2
  clear hK K
  try simp only [Act.put, lay1, lay2, lay3, lay4, lay5, lay6]
  refine wpAnyH_ready (rs := [3]) (by kernel_rfl) (by simp) ?_
  refine AllReadyH.cons rfl (fun K hK => ?_) AllReadyH.nil
  go_simp
  refine (hG' _ h1).mono ?_
  rintro e w22 ⟨rfl, b22⟩
  replace hB := hB.trans (b22.mono hB.size)
  replace h1 := h1.below b22
  replace h2 := h2.below b22
  replace ht := ht.below b22
  replace z1 := z1.below b22
  replace z2 := z2.below b22
  replace hX := hX.below b22 hX.lt
  replace hY := hY.below b22 hY.lt
  go_wp2_with fail
  refine hK.out _ _ ?_ (fun hHeld => ?_)
  · exact hX.cells2
  clear hK K
  try simp only [Act.put, lay1, lay2, lay3, lay4, lay5, lay6]
  refine wpAnyH_take (i := 4) (v := ?g3v4) rfl (by kernel_rfl) (by kernel_rfl) (by kernel_rfl) (fun _ _ _ h => h) (Or.inl ⟨by kernel_rfl, ?g3hy4⟩) (by assumption) ?g3rest4
  case g3hy4 => (intro w hSw; (try dsimp only at hSw); go_simp; try (with_reducible rfl))
  try simp only [Act.put, lay1, lay2, lay3, lay4, lay5, lay6]
  refine wpAnyH_take (i := 5) (v := ?g3v5) rfl (by kernel_rfl) (by kernel_rfl) (by kernel_rfl) (fun _ _ _ h => h) (Or.inl ⟨by kernel_rfl, ?g3hy5⟩) (by assumption) ?g3rest5
  case g3hy5 => (intro w hSw; (try dsimp only at hSw); go_simp; try (with_reducible rfl))
  try simp only [Act.put, lay1, lay2, lay3, lay4, lay5, lay6]
  refine wpAnyH_take (i := 6) (v := ?g3v6) rfl (by kernel_rfl) (by kernel_rfl) (by kernel_rfl) (fun _ _ _ h => h) (Or.inl ⟨by kernel_rfl, ?g3hy6⟩) (by assumption) ?g3rest6
  case g3hy6 => (intro w hSw; (try dsimp only at hSw); go_simp; try (with_reducible rfl))
  try simp only [Act.put, lay1, lay2, lay3, lay4, lay5, lay6]
  refine wpAnyH_take (i := 8) (v := ?g3v8) rfl (by kernel_rfl) (by kernel_rfl) (by kernel_rfl) (fun _ _ _ h => h) (Or.inl ⟨by kernel_rfl, ?g3hy8⟩) (by assumption) ?g3rest8
  case g3hy8 => (intro w hSw; (try dsimp only at hSw); go_simp; try (with_reducible rfl))
  try simp only [Act.put, lay1, lay2, lay3, lay4, lay5, lay6]
  refine wpAnyH_ready (rs := [7]) (by kernel_rfl) (by simp) ?_
  refine AllReadyH.cons rfl (fun K hK => ?_) AllReadyH.nil
  go_simp
  refine (hO _).mono ?_
  rintro e w23 ⟨v23, rfl, o1, b23⟩
  replace hB := hB.trans (b23.mono hB.size)
  replace h1 := h1.below b23
  replace h2 := h2.below b23
  replace ht := ht.below b23
  replace z1 := z1.below b23
  replace z2 := z2.below b23
  replace hX := hX.below b23 hX.lt
  replace hY := hY.below b23 hY.lt
  go_wp2_with fail
  refine hK.out _ _ ?_ (fun hHeld => ?_)
  · exact hX.cells2
  clear hK K
  try simp only [Act.put, lay1, lay2, lay3, lay4, lay5, lay6]
  refine wpAnyH_ready (rs := [9]) (by kernel_rfl) (by simp) ?_
  refine AllReadyH.cons rfl (fun K hK => ?_) AllReadyH.nil
  go_simp
  refine (hO' _).mono ?_
  rintro e w24 ⟨v24, rfl, o2, b24⟩
  replace hB := hB.trans (b24.mono hB.size)
  replace h1 := h1.below b24
  replace h2 := h2.below b24
  replace ht := ht.below b24
  replace z1 := z1.below b24
  replace z2 := z2.below b24
  replace o1 := o1.below b24
  replace hX := hX.below b24 hX.lt
  replace hY := hY.below b24 hY.lt
  go_wp2_with fail
  refine hK.out _ _ ?_ (fun hHeld => ?_)
  · exact hX.cells2
  clear hK K
  try simp only [Act.put, lay1, lay2, lay3, lay4, lay5, lay6]
  refine wpAnyH_ready (rs := [10]) (by kernel_rfl) (by simp) ?_
  refine AllReadyH.cons rfl (fun K hK => ?_) AllReadyH.nil
  go_simp
  refine (hS _ _ _ o1 o2).mono ?_
  rintro e w25 ⟨rfl, b25⟩
  replace hB := hB.trans (b25.mono hB.size)
  replace h1 := h1.below b25
  replace h2 := h2.below b25
  replace ht := ht.below b25
  replace z1 := z1.below b25
  replace z2 := z2.below b25
  replace hX := hX.below b25 hX.lt
  replace hY := hY.below b25 hY.lt
  go_wp2_with fail
  refine hK.out _ _ ?_ (fun hHeld => ?_)
  · exact hX.cells2
  clear hK K
  try simp only [Act.put, lay1, lay2, lay3, lay4, lay5, lay6]
  try dsimp only
  try simp only [Act.put, lay1, lay2, lay3, lay4, lay5, lay6]
  refine wpAnyH_take (i := 11) (v := ?g3v11) rfl (by kernel_rfl) (by kernel_rfl) (by kernel_rfl) (fun _ _ _ h => h) (Or.inl ⟨by kernel_rfl, ?g3hy11⟩) (by assumption) ?g3rest11
  case g3hy11 => (intro w hSw; (try dsimp only at hSw); go_simp; try (with_reducible rfl))
  try simp only [Act.put, lay1, lay2, lay3, lay4, lay5, lay6]
  try dsimp only
  try simp only [Act.put, lay1, lay2, lay3, lay4, lay5, lay6]
  refine wpAnyH_take (i := 12) (v := ?g3v12) rfl (by kernel_rfl) (by kernel_rfl) (by kernel_rfl) (fun _ _ _ h => h) (Or.inl ⟨by kernel_rfl, ?g3hy12⟩) (by assumption) ?g3rest12
  case g3hy12 => (intro w hSw; (try dsimp only at hSw); go_simp; try (with_reducible rfl))
  try simp only [Act.put, lay1, lay2, lay3, lay4, lay5, lay6]
  try dsimp only
  try simp only [Act.put, lay1, lay2, lay3, lay4, lay5, lay6]
  refine wpAnyH_done (by kernel_rfl) ?_ _
  refine NoPanic.normal ?_
  obtain ⟨c2_hX_0, c2_hX_1⟩ := hX.cells2
  obtain ⟨c2_hY_0, c2_hY_1⟩ := hY.cells2
  go_wp2_with fail
  refine (hG' _ h1).mono ?_
  rintro e w1 ⟨rfl, b1⟩
  replace h1 := h1.below b1
  replace h2 := h2.below b1
  replace ht := ht.below b1
  replace z1 := z1.below b1
  replace z2 := z2.below b1
  replace hX := hX.below b1 hX.lt
  replace hY := hY.below b1 hY.lt
  replace hB := hB.trans (b1.mono hB.size)
  clear c2_hX_0 c2_hX_1 c2_hY_0 c2_hY_1
  obtain ⟨c3_hX_0, c3_hX_1⟩ := hX.cells2
  obtain ⟨c3_hY_0, c3_hY_1⟩ := hY.cells2
  go_wp2_with fail
  refine (hG2 _ h2).mono ?_
  rintro e w2 ⟨rfl, b2⟩
  replace h1 := h1.below b2
  replace h2 := h2.below b2
  replace ht := ht.below b2
  replace z1 := z1.below b2
  replace z2 := z2.below b2
  replace hX := hX.below b2 hX.lt
  replace hY := hY.below b2 hY.lt
  replace hB := hB.trans (b2.mono hB.size)
  clear c3_hX_0 c3_hX_1 c3_hY_0 c3_hY_1
  obtain ⟨c4_hX_0, c4_hX_1⟩ := hX.cells2
  obtain ⟨c4_hY_0, c4_hY_1⟩ := hY.cells2
  go_wp2_with fail
  refine (hI _ _ z1).mono ?_
  rintro e w3 ⟨rfl, b3⟩
  replace h1 := h1.below b3
  replace h2 := h2.below b3
  replace ht := ht.below b3
  replace z1 := z1.below b3
  replace z2 := z2.below b3
  replace hX := hX.below b3 hX.lt
  replace hY := hY.below b3 hY.lt
  replace hB := hB.trans (b3.mono hB.size)
  clear c4_hX_0 c4_hX_1 c4_hY_0 c4_hY_1
  obtain ⟨c5_hX_0, c5_hX_1⟩ := hX.cells2
  obtain ⟨c5_hY_0, c5_hY_1⟩ := hY.cells2
  go_wp2_with fail
  refine (hI' _ _ z1).mono ?_
  rintro e w4 ⟨rfl, b4⟩
  replace h1 := h1.below b4
  replace h2 := h2.below b4
  replace ht := ht.below b4
  replace z1 := z1.below b4
  replace z2 := z2.below b4
  replace hX := hX.below b4 hX.lt
  replace hY := hY.below b4 hY.lt
  replace hB := hB.trans (b4.mono hB.size)
  clear c5_hX_0 c5_hX_1 c5_hY_0 c5_hY_1
  obtain ⟨c6_hX_0, c6_hX_1⟩ := hX.cells2
  obtain ⟨c6_hY_0, c6_hY_1⟩ := hY.cells2
  go_upto_region 9 with fail
  clear c6_hX_0 c6_hX_1 c6_hY_0 c6_hY_1
  replace hB := hB.drew
  replace ht := ht.below (bdrew _)
  replace z1 := z1.below (bdrew _)
  replace z2 := z2.below (bdrew _)
  replace hX := hX.drew
  replace hY := hY.drew
  refine wp_region_noPanic ?_
  refine wp_region_held_drew (S := fun w' => w'.cell? ⟨g, 0, none⟩ = some (.bool sg1) ∧ w'.cell? ⟨g, 1, none⟩ = some (.slice A1 l1.length C1) ∧ w'.cell? ⟨g + 1, 0, none⟩ = some (.bool sg2) ∧ w'.cell? ⟨g + 1, 1, none⟩ = some (.slice A2 l2.length C2)) (by kernel_rfl) ?_ (fun hHeld => ?_)
  · exact ⟨hX.cell 0, hX.cell 1, hY.cell 0, hY.cell 1⟩
  refine wpAnyH_take (i := 0) (v := ?g4v0) rfl (by kernel_rfl) (by kernel_rfl) (by kernel_rfl) (fun _ _ _ h => h) (Or.inl ⟨by kernel_rfl, ?g4hy0⟩) (by assumption) ?g4rest0
  case g4hy0 => (intro w hSw; (try dsimp only at hSw); go_simp; try (with_reducible rfl))
  try simp only [Act.put, lay1, lay2, lay3, lay4, lay5, lay6]
  refine wpAnyH_take (i := 1) (v := ?g4v1) rfl (by kernel_rfl) (by kernel_rfl) (by kernel_rfl) (fun _ _ _ h => h) (Or.inl ⟨by kernel_rfl, ?g4hy1⟩) (by assumption) ?g4rest1
  case g4hy1 => (intro w hSw; (try dsimp only at hSw); go_simp; try (with_reducible rfl))
  try simp only [Act.put, lay1, lay2, lay3, lay4, lay5, lay6]
  refine wpAnyH_take (i := 3) (v := ?g4v3) rfl (by kernel_rfl) (by kernel_rfl) (by kernel_rfl) (fun _ _ _ h => h) (Or.inl ⟨by kernel_rfl, ?g4hy3⟩) (by assumption) ?g4rest3
  case g4hy3 => (intro w hSw; (try dsimp only at hSw); go_simp; try (with_reducible rfl))
  try simp only [Act.put, lay1, lay2, lay3, lay4, lay5, lay6]
  refine wpAnyH_take (i := 4) (v := ?g4v4) rfl (by kernel_rfl) (by kernel_rfl) (by kernel_rfl) (fun _ _ _ h => h) (Or.inl ⟨by kernel_rfl, ?g4hy4⟩) (by assumption) ?g4rest4
  case g4hy4 => (intro w hSw; (try dsimp only at hSw); go_simp; try (with_reducible rfl))
  try simp only [Act.put, lay1, lay2, lay3, lay4, lay5, lay6]
  refine wpAnyH_ready (rs := [2]) (by kernel_rfl) (by simp) ?_
  refine AllReadyH.cons rfl (fun K hK => ?_) AllReadyH.nil
  go_simp
  refine (hA _ _ _ z1 z2).mono ?_
  rintro e w41 ⟨v41, rfl, p1, b41⟩
  replace hB := hB.trans (b41.mono hB.size)
  replace ht := ht.below b41
  replace z1 := z1.below b41
  replace z2 := z2.below b41
  replace hX := hX.below b41 hX.lt
  replace hY := hY.below b41 hY.lt
  go_wp2_with fail
  refine hK.out _ _ ?_ (fun hHeld => ?_)
  · exact ⟨hX.cell 0, hX.cell 1, hY.cell 0, hY.cell 1⟩
  clear hK K
  try simp only [Act.put, lay1, lay2, lay3, lay4, lay5, lay6]
  refine wpAnyH_ready (rs := [5]) (by kernel_rfl) (by simp) ?_
  refine AllReadyH.cons rfl (fun K hK => ?_) AllReadyH.nil
  go_simp
  refine (hA' _ _ _ z1 z2).mono ?_
  rintro e w42 ⟨v42, rfl, p2, b42⟩
  replace hB := hB.trans (b42.mono hB.size)
  replace ht := ht.below b42
  replace z1 := z1.below b42
  replace z2 := z2.below b42
  replace p1 := p1.below b42
  replace hX := hX.below b42 hX.lt
  replace hY := hY.below b42 hY.lt
  go_wp2_with fail
  refine hK.out _ _ ?_ (fun hHeld => ?_)
  · exact ⟨hX.cell 0, hX.cell 1, hY.cell 0, hY.cell 1⟩
  clear hK K
  try simp only [Act.put, lay1, lay2, lay3, lay4, lay5, lay6]
  refine wpAnyH_ready (rs := [6]) (by kernel_rfl) (by simp) ?_
  refine AllReadyH.cons rfl (fun K hK => ?_) AllReadyH.nil
  go_simp
  refine (hSA _ _ _ p1 p2).mono ?_
  rintro e w43 ⟨rfl, b43⟩
  replace hB := hB.trans (b43.mono hB.size)
  replace ht := ht.below b43
  replace z1 := z1.below b43
  replace z2 := z2.below b43
  replace hX := hX.below b43 hX.lt
  replace hY := hY.below b43 hY.lt
  go_wp2_with fail
  refine hK.out _ _ ?_ (fun hHeld => ?_)
  · exact ⟨hX.cell 0, hX.cell 1, hY.cell 0, hY.cell 1⟩
  clear hK K
  try simp only [Act.put, lay1, lay2, lay3, lay4, lay5, lay6]
  refine wpAnyH_take (i := 7) (v := ?g4v7) rfl (by kernel_rfl) (by kernel_rfl) (by kernel_rfl) (fun _ _ _ h => h) (Or.inl ⟨by kernel_rfl, ?g4hy7⟩) (by assumption) ?g4rest7
  case g4hy7 => (intro w hSw; (try dsimp only at hSw); go_simp; try (with_reducible rfl))
  try simp only [Act.put, lay1, lay2, lay3, lay4, lay5, lay6]
  refine wpAnyH_take (i := 8) (v := ?g4v8) rfl (by kernel_rfl) (by kernel_rfl) (by kernel_rfl) (fun _ _ _ h => h) (Or.inl ⟨by kernel_rfl, ?g4hy8⟩) (by assumption) ?g4rest8
  case g4hy8 => (intro w hSw; (try dsimp only at hSw); go_simp; try (with_reducible rfl))
  try simp only [Act.put, lay1, lay2, lay3, lay4, lay5, lay6]
  refine wpAnyH_take (i := 9) (v := ?g4v9) rfl (by kernel_rfl) (by kernel_rfl) (by kernel_rfl) (fun _ _ _ h => h) (Or.inl ⟨by kernel_rfl, ?g4hy9⟩) (by assumption) ?g4rest9
  case g4hy9 => (intro w hSw; (try dsimp only at hSw); go_simp; try (with_reducible rfl))
  try simp only [Act.put, lay1, lay2, lay3, lay4, lay5, lay6]
  refine wpAnyH_take (i := 11) (v := ?g4v11) rfl (by kernel_rfl) (by kernel_rfl) (by kernel_rfl) (fun _ _ _ h => h) (Or.inl ⟨by kernel_rfl, ?g4hy11⟩) (by assumption) ?g4rest11
  case g4hy11 => (intro w hSw; (try dsimp only at hSw); go_simp; try (with_reducible rfl))
  try simp only [Act.put, lay1, lay2, lay3, lay4, lay5, lay6]
  refine wpAnyH_take (i := 12) (v := ?g4v12) rfl (by kernel_rfl) (by kernel_rfl) (by kernel_rfl) (fun _ _ _ h => h) (Or.inl ⟨by kernel_rfl, ?g4hy12⟩) (by assumption) ?g4rest12
  case g4hy12 => (intro w hSw; (try dsimp only at hSw); go_simp; try (with_reducible rfl))
  try simp only [Act.put, lay1, lay2, lay3, lay4, lay5, lay6]
  refine wpAnyH_ready (rs := [10]) (by kernel_rfl) (by simp) ?_
  refine AllReadyH.cons rfl (fun K hK => ?_) AllReadyH.nil
  go_simp
  refine (hM _ _ _ z1 z2).mono ?_
  rintro e w44 ⟨v44, rfl, p3, b44⟩
  replace hB := hB.trans (b44.mono hB.size)
  replace ht := ht.below b44
  replace z1 := z1.below b44
  replace z2 := z2.below b44
  replace hX := hX.below b44 hX.lt
  replace hY := hY.below b44 hY.lt
  go_wp2_with fail
  refine hK.out _ _ ?_ (fun hHeld => ?_)
  · exact ⟨hX.cell 0, hX.cell 1, hY.cell 0, hY.cell 1⟩
  clear hK K
  try simp only [Act.put, lay1, lay2, lay3, lay4, lay5, lay6]
  refine wpAnyH_ready (rs := [13]) (by kernel_rfl) (by simp) ?_
  refine AllReadyH.cons rfl (fun K hK => ?_) AllReadyH.nil
  go_simp
  refine (hM' _ _ _ z1 z2).mono ?_
  rintro e w45 ⟨v45, rfl, p4, b45⟩
  replace hB := hB.trans (b45.mono hB.size)
  replace ht := ht.below b45
  replace z1 := z1.below b45
  replace z2 := z2.below b45
  replace p3 := p3.below b45
  replace hX := hX.below b45 hX.lt
  replace hY := hY.below b45 hY.lt
  go_wp2_with fail
  refine hK.out _ _ ?_ (fun hHeld => ?_)
  · exact ⟨hX.cell 0, hX.cell 1, hY.cell 0, hY.cell 1⟩
  clear hK K
  try simp only [Act.put, lay1, lay2, lay3, lay4, lay5, lay6]
  refine wpAnyH_ready (rs := [14]) (by kernel_rfl) (by simp) ?_
  refine AllReadyH.cons rfl (fun K hK => ?_) AllReadyH.nil
  go_simp
  refine (hSM _ _ _ p3 p4).mono ?_
  rintro e w46 ⟨rfl, b46⟩
  replace hB := hB.trans (b46.mono hB.size)
  replace ht := ht.below b46
  replace z1 := z1.below b46
  replace z2 := z2.below b46
  replace hX := hX.below b46 hX.lt
  replace hY := hY.below b46 hY.lt
  go_wp2_with fail
  refine hK.out _ _ ?_ (fun hHeld => ?_)
  · exact ⟨hX.cell 0, hX.cell 1, hY.cell 0, hY.cell 1⟩
  clear hK K
  try simp only [Act.put, lay1, lay2, lay3, lay4, lay5, lay6]
  refine wpAnyH_take (i := 15) (v := ?g4v15) rfl (by kernel_rfl) (by kernel_rfl) (by kernel_rfl) (fun _ _ _ h => h) (Or.inl ⟨by kernel_rfl, ?g4hy15⟩) (by assumption) ?g4rest15
  case g4hy15 => (intro w hSw; (try dsimp only at hSw); go_simp; try (with_reducible rfl))
  try simp only [Act.put, lay1, lay2, lay3, lay4, lay5, lay6]
  refine wpAnyH_take (i := 16) (v := ?g4v16) rfl (by kernel_rfl) (by kernel_rfl) (by kernel_rfl) (fun _ _ _ h => h) (Or.inl ⟨by kernel_rfl, ?g4hy16⟩) (by assumption) ?g4rest16
  case g4hy16 => (intro w hSw; (try dsimp only at hSw); go_simp; try (with_reducible rfl))
  try simp only [Act.put, lay1, lay2, lay3, lay4, lay5, lay6]
  refine wpAnyH_take (i := 17) (v := ?g4v17) rfl (by kernel_rfl) (by kernel_rfl) (by kernel_rfl) (fun _ _ _ h => h) (Or.inl ⟨by kernel_rfl, ?g4hy17⟩) (by assumption) ?g4rest17
  case g4hy17 => (intro w hSw; (try dsimp only at hSw); go_simp; try (with_reducible rfl))
  try simp only [Act.put, lay1, lay2, lay3, lay4, lay5, lay6]
  refine wpAnyH_take (i := 19) (v := ?g4v19) rfl (by kernel_rfl) (by kernel_rfl) (by kernel_rfl) (fun _ _ _ h => h) (Or.inl ⟨by kernel_rfl, ?g4hy19⟩) (by assumption) ?g4rest19
  case g4hy19 => (intro w hSw; (try dsimp only at hSw); go_simp; try (with_reducible rfl))
  try simp only [Act.put, lay1, lay2, lay3, lay4, lay5, lay6]
  refine wpAnyH_ready (rs := [18]) (by kernel_rfl) (by simp) ?_
  refine AllReadyH.cons rfl (fun K hK => ?_) AllReadyH.nil
  go_simp
  refine (hN _ _ z1).mono ?_
  rintro e w47 ⟨v47, rfl, p5, b47⟩
  replace hB := hB.trans (b47.mono hB.size)
  replace ht := ht.below b47
  replace z1 := z1.below b47
  replace z2 := z2.below b47
  replace hX := hX.below b47 hX.lt
  replace hY := hY.below b47 hY.lt
  go_wp2_with fail
  refine hK.out _ _ ?_ (fun hHeld => ?_)
  · exact ⟨hX.cell 0, hX.cell 1, hY.cell 0, hY.cell 1⟩
  clear hK K
  try simp only [Act.put, lay1, lay2, lay3, lay4, lay5, lay6]
  refine wpAnyH_ready (rs := [20]) (by kernel_rfl) (by simp) ?_
  refine AllReadyH.cons rfl (fun K hK => ?_) AllReadyH.nil
  go_simp
  refine (hN' _ _ z1).mono ?_
  rintro e w48 ⟨v48, rfl, p6, b48⟩
  replace hB := hB.trans (b48.mono hB.size)
  replace ht := ht.below b48
  replace z1 := z1.below b48
  replace z2 := z2.below b48
  replace p5 := p5.below b48
  replace hX := hX.below b48 hX.lt
  replace hY := hY.below b48 hY.lt
  go_wp2_with fail
  refine hK.out _ _ ?_ (fun hHeld => ?_)
  · exact ⟨hX.cell 0, hX.cell 1, hY.cell 0, hY.cell 1⟩
  clear hK K
  try simp only [Act.put, lay1, lay2, lay3, lay4, lay5, lay6]
  refine wpAnyH_ready (rs := [21]) (by kernel_rfl) (by simp) ?_
  refine AllReadyH.cons rfl (fun K hK => ?_) AllReadyH.nil
  go_simp
  refine (hSN _ _ _ p5 p6).mono ?_
  rintro e w49 ⟨rfl, b49⟩
  replace hB := hB.trans (b49.mono hB.size)
  replace ht := ht.below b49
  replace z1 := z1.below b49
  replace z2 := z2.below b49
  replace hX := hX.below b49 hX.lt
  replace hY := hY.below b49 hY.lt
  go_wp2_with fail
  refine hK.out _ _ ?_ (fun hHeld => ?_)
  · exact ⟨hX.cell 0, hX.cell 1, hY.cell 0, hY.cell 1⟩
  clear hK K
  try simp only [Act.put, lay1, lay2, lay3, lay4, lay5, lay6]
  try dsimp only
  try simp only [Act.put, lay1, lay2, lay3, lay4, lay5, lay6]
  refine wpAnyH_take (i := 22) (v := ?g4v22) rfl (by kernel_rfl) (by kernel_rfl) (by kernel_rfl) (fun _ _ _ h => h) (Or.inl ⟨by kernel_rfl, ?g4hy22⟩) (by assumption) ?g4rest22
  case g4hy22 => (intro w hSw; (try dsimp only at hSw); go_simp; try (with_reducible rfl))
  try simp only [Act.put, lay1, lay2, lay3, lay4, lay5, lay6]
  try dsimp only
  try simp only [Act.put, lay1, lay2, lay3, lay4, lay5, lay6]
  refine wpAnyH_take (i := 23) (v := ?g4v23) rfl (by kernel_rfl) (by kernel_rfl) (by kernel_rfl) (fun _ _ _ h => h) (Or.inl ⟨by kernel_rfl, ?g4hy23⟩) (by assumption) ?g4rest23
  case g4hy23 => (intro w hSw; (try dsimp only at hSw); go_simp; try (with_reducible rfl))
  try simp only [Act.put, lay1, lay2, lay3, lay4, lay5, lay6]
  try dsimp only
  try simp only [Act.put, lay1, lay2, lay3, lay4, lay5, lay6]
  refine wpAnyH_done (by kernel_rfl) ?_ _
  refine NoPanic.normal ?_
  go_upto_region 10 with fail
  skip
  replace hB := hB.drew
  replace ht := ht.below (bdrew _)
  replace z1 := z1.below (bdrew _)
  replace z2 := z2.below (bdrew _)
  replace hX := hX.drew
  replace hY := hY.drew
  refine wp_region_noPanic ?_
  refine wp_region_held_drew (S := fun w' => w'.cell? ⟨g, 0, none⟩ = some (.bool sg1) ∧ w'.cell? ⟨g, 1, none⟩ = some (.slice A1 l1.length C1) ∧ w'.cell? ⟨g + 1, 0, none⟩ = some (.bool sg2) ∧ w'.cell? ⟨g + 1, 1, none⟩ = some (.slice A2 l2.length C2)) (by kernel_rfl) ?_ (fun hHeld => ?_)
  · exact ⟨hX.cell 0, hX.cell 1, hY.cell 0, hY.cell 1⟩
  refine wpAnyH_ready (rs := [0]) (by kernel_rfl) (by simp) ?_
  refine AllReadyH.cons rfl (fun K hK => ?_) AllReadyH.nil
  go_simp
  refine (hE _ ht).mono ?_
  rintro e w50 ⟨rfl, b50⟩
  replace hB := hB.trans (b50.mono hB.size)
  replace ht := ht.below b50
  replace z1 := z1.below b50
  replace z2 := z2.below b50
  replace hX := hX.below b50 hX.lt
  replace hY := hY.below b50 hY.lt
  go_wp2_with fail
  refine hK.out _ _ ?_ (fun hHeld => ?_)
  · exact ⟨hX.cell 0, hX.cell 1, hY.cell 0, hY.cell 1⟩
  clear hK K
  try simp only [Act.put, lay1, lay2, lay3, lay4, lay5, lay6]
  refine wpAnyH_take (i := 1) (v := ?g5v1) rfl (by kernel_rfl) (by kernel_rfl) (by kernel_rfl) (fun _ _ _ h => h) (Or.inl ⟨by kernel_rfl, ?g5hy1⟩) (by assumption) ?g5rest1
  case g5hy1 => (intro w hSw; (try dsimp only at hSw); go_simp; try (with_reducible rfl))
  try simp only [Act.put, lay1, lay2, lay3, lay4, lay5, lay6]
  refine wpAnyH_take (i := 2) (v := ?g5v2) rfl (by kernel_rfl) (by kernel_rfl) (by kernel_rfl) (fun _ _ _ h => h) (Or.inl ⟨by kernel_rfl, ?g5hy2⟩) (by assumption) ?g5rest2
  case g5hy2 => (intro w hSw; (try dsimp only at hSw); go_simp; try (with_reducible rfl))
  try simp only [Act.put, lay1, lay2, lay3, lay4, lay5, lay6]
  refine wpAnyH_take (i := 3) (v := ?g5v3) rfl (by kernel_rfl) (by kernel_rfl) (by kernel_rfl) (fun _ _ _ h => h) (Or.inl ⟨by kernel_rfl, ?g5hy3⟩) (by assumption) ?g5rest3
  case g5hy3 => (intro w hSw; (try dsimp only at hSw); go_simp; try (with_reducible rfl))
  try simp only [Act.put, lay1, lay2, lay3, lay4, lay5, lay6]
  refine wpAnyH_take (i := 4) (v := ?g5v4) rfl (by kernel_rfl) (by kernel_rfl) (by kernel_rfl) (fun _ _ _ h => h) (Or.inl ⟨by kernel_rfl, ?g5hy4⟩) (by assumption) ?g5rest4
  case g5hy4 => (intro w hSw; (try dsimp only at hSw); go_simp; try (with_reducible rfl))
  try simp only [Act.put, lay1, lay2, lay3, lay4, lay5, lay6]
  refine wpAnyH_take (i := 5) (v := ?g5v5) rfl (by kernel_rfl) (by kernel_rfl) (by kernel_rfl) (fun _ _ _ h => h) (Or.inl ⟨by kernel_rfl, ?g5hy5⟩) (by assumption) ?g5rest5
  case g5hy5 => (intro w hSw; (try dsimp only at hSw); go_simp; try (with_reducible rfl))
  try simp only [Act.put, lay1, lay2, lay3, lay4, lay5, lay6]
  refine wpAnyH_take (i := 6) (v := ?g5v6) rfl (by kernel_rfl) (by kernel_rfl) (by kernel_rfl) (fun _ _ _ h => h) (Or.inl ⟨by kernel_rfl, ?g5hy6⟩) (by assumption) ?g5rest6
  case g5hy6 => (intro w hSw; (try dsimp only at hSw); go_simp; try (with_reducible rfl))
  try simp only [Act.put, lay1, lay2, lay3, lay4, lay5, lay6]
  refine wpAnyH_take (i := 7) (v := ?g5v7) rfl (by kernel_rfl) (by kernel_rfl) (by kernel_rfl) (fun _ _ _ h => h) (Or.inl ⟨by kernel_rfl, ?g5hy7⟩) (by assumption) ?g5rest7
  case g5hy7 => (intro w hSw; (try dsimp only at hSw); go_simp; try (with_reducible rfl))
  try simp only [Act.put, lay1, lay2, lay3, lay4, lay5, lay6]
  refine wpAnyH_take (i := 8) (v := ?g5v8) rfl (by kernel_rfl) (by kernel_rfl) (by kernel_rfl) (fun _ _ _ h => h) (Or.inl ⟨by kernel_rfl, ?g5hy8⟩) (by assumption) ?g5rest8
  case g5hy8 => (intro w hSw; (try dsimp only at hSw); go_simp; try (with_reducible rfl))
  try simp only [Act.put, lay1, lay2, lay3, lay4, lay5, lay6]
  refine wpAnyH_take (i := 9) (v := ?g5v9) rfl (by kernel_rfl) (by kernel_rfl) (by kernel_rfl) (fun _ _ _ h => h) (Or.inl ⟨by kernel_rfl, ?g5hy9⟩) (by assumption) ?g5rest9
  case g5hy9 => (intro w hSw; (try dsimp only at hSw); go_simp; try (with_reducible rfl))
  try simp only [Act.put, lay1, lay2, lay3, lay4, lay5, lay6]
  refine wpAnyH_take (i := 10) (v := ?g5v10) rfl (by kernel_rfl) (by kernel_rfl) (by kernel_rfl) (fun _ _ _ h => h) (Or.inl ⟨by kernel_rfl, ?g5hy10⟩) (by assumption) ?g5rest10
  case g5hy10 => (intro w hSw; (try dsimp only at hSw); go_simp; try (with_reducible rfl))
  try simp only [Act.put, lay1, lay2, lay3, lay4, lay5, lay6]
  refine wpAnyH_take (i := 11) (v := ?g5v11) rfl (by kernel_rfl) (by kernel_rfl) (by kernel_rfl) (fun _ _ _ h => h) (Or.inl ⟨by kernel_rfl, ?g5hy11⟩) (by assumption) ?g5rest11
  case g5hy11 => (intro w hSw; (try dsimp only at hSw); go_simp; try (with_reducible rfl))
  try simp only [Act.put, lay1, lay2, lay3, lay4, lay5, lay6]
  refine wpAnyH_take (i := 12) (v := ?g5v12) rfl (by kernel_rfl) (by kernel_rfl) (by kernel_rfl) (fun _ _ _ h => h) (Or.inl ⟨by kernel_rfl, ?g5hy12⟩) (by assumption) ?g5rest12
  case g5hy12 => (intro w hSw; (try dsimp only at hSw); go_simp; try (with_reducible rfl))
  try simp only [Act.put, lay1, lay2, lay3, lay4, lay5, lay6]
  refine wpAnyH_take (i := 13) (v := ?g5v13) rfl (by kernel_rfl) (by kernel_rfl) (by kernel_rfl) (fun _ _ _ h => h) (Or.inl ⟨by kernel_rfl, ?g5hy13⟩) (by assumption) ?g5rest13
  case g5hy13 => (intro w hSw; (try dsimp only at hSw); go_simp; try (with_reducible rfl))
  try simp only [Act.put, lay1, lay2, lay3, lay4, lay5, lay6]
  refine wpAnyH_take (i := 15) (v := ?g5v15) rfl (by kernel_rfl) (by kernel_rfl) (by kernel_rfl) (fun _ _ _ h => h) (Or.inl ⟨by kernel_rfl, ?g5hy15⟩) (by assumption) ?g5rest15
  case g5hy15 => (intro w hSw; (try dsimp only at hSw); go_simp; try (with_reducible rfl))
  try simp only [Act.put, lay1, lay2, lay3, lay4, lay5, lay6]
  refine wpAnyH_take (i := 16) (v := ?g5v16) rfl (by kernel_rfl) (by kernel_rfl) (by kernel_rfl) (fun _ _ _ h => h) (Or.inl ⟨by kernel_rfl, ?g5hy16⟩) (by assumption) ?g5rest16
  case g5hy16 => (intro w hSw; (try dsimp only at hSw); go_simp; try (with_reducible rfl))
  try simp only [Act.put, lay1, lay2, lay3, lay4, lay5, lay6]
  refine wpAnyH_ready (rs := [14]) (by kernel_rfl) (by simp) ?_
  refine AllReadyH.cons rfl (fun K hK => ?_) AllReadyH.nil
  go_simp
  refine (hC _ _ _ z1 z2).mono ?_
  rintro e w51 ⟨rfl, b51⟩
  replace hB := hB.trans (b51.mono hB.size)
  replace ht := ht.below b51
  replace z1 := z1.below b51
  replace z2 := z2.below b51
  replace hX := hX.below b51 hX.lt
  replace hY := hY.below b51 hY.lt
  go_wp2_with fail
  refine hK.out _ _ ?_ (fun hHeld => ?_)
  · exact ⟨hX.cell 0, hX.cell 1, hY.cell 0, hY.cell 1⟩
  clear hK K
  try simp only [Act.put, lay1, lay2, lay3, lay4, lay5, lay6]
  refine wpAnyH_ready (rs := [17]) (by kernel_rfl) (by simp) ?_
  refine AllReadyH.cons rfl (fun K hK => ?_) AllReadyH.nil
  go_simp
  refine (hC' _ _ _ z1 z2).mono ?_
  rintro e w52 ⟨rfl, b52⟩
  replace hB := hB.trans (b52.mono hB.size)
  replace ht := ht.below b52
  replace z1 := z1.below b52
  replace z2 := z2.below b52
  replace hX := hX.below b52 hX.lt
  replace hY := hY.below b52 hY.lt
  go_wp2_with fail
  refine hK.out _ _ ?_ (fun hHeld => ?_)
  · exact ⟨hX.cell 0, hX.cell 1, hY.cell 0, hY.cell 1⟩
  clear hK K
  try simp only [Act.put, lay1, lay2, lay3, lay4, lay5, lay6]
  refine wpAnyH_take (i := 18) (v := ?g5v18) rfl (by kernel_rfl) (by kernel_rfl) (by kernel_rfl) (fun _ _ _ h => h) (Or.inl ⟨by kernel_rfl, ?g5hy18⟩) (by assumption) ?g5rest18
  case g5hy18 => (intro w hSw; (try dsimp only at hSw); go_simp; try (with_reducible rfl))
  try simp only [Act.put, lay1, lay2, lay3, lay4, lay5, lay6]
  refine wpAnyH_take (i := 19) (v := ?g5v19) rfl (by kernel_rfl) (by kernel_rfl) (by kernel_rfl) (fun _ _ _ h => h) (Or.inl ⟨by kernel_rfl, ?g5hy19⟩) (by assumption) ?g5rest19
  case g5hy19 => (intro w hSw; (try dsimp only at hSw); go_simp; try (with_reducible rfl))
  try simp only [Act.put, lay1, lay2, lay3, lay4, lay5, lay6]
  refine wpAnyH_take (i := 20) (v := ?g5v20) rfl (by kernel_rfl) (by kernel_rfl) (by kernel_rfl) (fun _ _ _ h => h) (Or.inl ⟨by kernel_rfl, ?g5hy20⟩) (by assumption) ?g5rest20
  case g5hy20 => (intro w hSw; (try dsimp only at hSw); go_simp; try (with_reducible rfl))
  try simp only [Act.put, lay1, lay2, lay3, lay4, lay5, lay6]
  refine wpAnyH_take (i := 21) (v := ?g5v21) rfl (by kernel_rfl) (by kernel_rfl) (by kernel_rfl) (fun _ _ _ h => h) (Or.inl ⟨by kernel_rfl, ?g5hy21⟩) (by assumption) ?g5rest21
  case g5hy21 => (intro w hSw; (try dsimp only at hSw); go_simp; try (with_reducible rfl))
  try simp only [Act.put, lay1, lay2, lay3, lay4, lay5, lay6]
  try dsimp only
  try simp only [Act.put, lay1, lay2, lay3, lay4, lay5, lay6]
  refine wpAnyH_take (i := 22) (v := ?g5v22) rfl (by kernel_rfl) (by kernel_rfl) (by kernel_rfl) (fun _ _ _ h => h) (Or.inl ⟨by kernel_rfl, ?g5hy22⟩) (by assumption) ?g5rest22
  case g5hy22 => (intro w hSw; (try dsimp only at hSw); go_simp; try (with_reducible rfl))
  try simp only [Act.put, lay1, lay2, lay3, lay4, lay5, lay6]
  try dsimp only
  try simp only [Act.put, lay1, lay2, lay3, lay4, lay5, lay6]
  refine wpAnyH_take (i := 23) (v := ?g5v23) rfl (by kernel_rfl) (by kernel_rfl) (by kernel_rfl) (fun _ _ _ h => h) (Or.inl ⟨by kernel_rfl, ?g5hy23⟩) (by assumption) ?g5rest23
  case g5hy23 => (intro w hSw; (try dsimp only at hSw); go_simp; try (with_reducible rfl))
  try simp only [Act.put, lay1, lay2, lay3, lay4, lay5, lay6]
  try dsimp only
  try simp only [Act.put, lay1, lay2, lay3, lay4, lay5, lay6]
  refine wpAnyH_done (by kernel_rfl) ?_ _
  refine NoPanic.normal ?_
  go_wp2
  go_ret
  exact ⟨rfl, hB⟩
theorem ZedTells_all (sg1 sg2 : Bool) (v1 v2 : Value) (l1 l2 : List Nat) (n : Int) (w : World) (h1 : IsL w v1 l1) (h2 : IsL w v2 l2) (hn0 : -9223372036854775808 ≤ n) (hn1 : n ≤ 9223372036854775807) (ht : TabOk w) :
    Calls Tryz.prog 3 #[.agg #[.bool sg1, v1], .agg #[.bool sg2, v2], .int .i64 n] w fun e w' => e = .returned (.bool true) ∧ Below w.heap.size w w' := by
  obtain ⟨A1, C1, rfl, _⟩ := id h1
  obtain ⟨A2, C2, rfl, _⟩ := id h2
  by_cases hl1 : 10 < l1.length
  · exact ZedTells_long1 sg1 sg2 A1 A2 C1 C2 l1 l2 n w h1 h2 hn0 hn1 ht hl1
  by_cases hl2 : 10 < l2.length
  · exact ZedTells_long2 sg1 sg2 A1 A2 C1 C2 l1 l2 n w h1 h2 hn0 hn1 ht (by omega) hl2
  cases hr1 : rightZ sg1 l1
  · exact ZedTells_bad1 sg1 sg2 A1 A2 C1 C2 l1 l2 n w h1 h2 hn0 hn1 ht (by omega) (by omega) hr1
  cases hr2 : rightZ sg2 l2
  · exact ZedTells_bad2 sg1 sg2 A1 A2 C1 C2 l1 l2 n w h1 h2 hn0 hn1 ht (by omega) (by omega) hr1 hr2
  exact ZedTells_main sg1 sg2 A1 A2 C1 C2 l1 l2 n w h1 h2 hn0 hn1 ht (by omega) (by omega) hr1 hr2
end Go.Proofs.YtooonjcpdbbniaaGreatDoor
