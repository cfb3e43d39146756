/- Which blocks are right, which are the same, how many numbers one has, and these, are as the document says. No conditions: every input. Printed by gen_tells11.py. -/
import Derived.Test.YtgcebmgmmhdcpaaGreatRef11b
import Derived.Test.YtgcebmgmmhdcpaaGreatRef11c
import Derived.Test.YtgcebmgmmhdcpaaGreatBCases
import Derived.Deep.RegionHeld3
import Derived.Deep.DrawnRows
namespace Go.Proofs.YtgcebmgmmhdcpaaGreat
open Go.ChangeShapes Go.WideShapes Go.ChangeAt Go.RowKit
attribute [local go_sem ↓] Go.wp_at_zero Go.wp_at_succ
set_option maxRecDepth 100000 in
set_option maxHeartbeats 4000000 in
theorem BlockTells_a (u v : Value) (k s : Int) (cs : List Nat) (wd : List Int) (k' s' : Int) (cs' : List Nat) (wd' : List Int) (w : World) (hu : IsBk w u k s cs wd) (hv : IsBk w v k' s' cs' wd') (l1 : cs.length ≤ 140737488351232) (l2 : wd.length ≤ 17592186044416) (l3 : cs'.length ≤ 140737488351232) (l4 : wd'.length ≤ 17592186044416) (h : ¬ (cs.length : Int) + wd.length ≤ 20) :
    Calls Tryz.prog 3 #[u, v] w fun e w' => e = .returned (.bool true) ∧ Below w.heap.size w w' := by
  obtain ⟨a, b, rfl, ha, hb⟩ := hu
  obtain ⟨a', b', rfl, ha', hb'⟩ := hv
  obtain ⟨Aa, Ca, rfl, _, _⟩ := id ha.form
  obtain ⟨Ab, Cb, rfl, _, _⟩ := id hb.form
  obtain ⟨Aa', Ca', rfl, _, _⟩ := id ha'.form
  obtain ⟨Ab', Cb', rfl, _, _⟩ := id hb'.form
  have hL := fun w => alive11_any w
  have hFa := fun v w h => rbfew_any v k s cs wd w h (by omega) l2 20
  have hFb := fun v w h => rbfew_any v k' s' cs' wd' w h (by omega) l4 20
  have f1 : decide ((cs.length : Int) + wd.length ≤ 20) = false := decide_eq_false h
  rw [f1] at hFa
  obtain ⟨W0, hW, hT, hB⟩ := box2 w 25 25 #[.int .i64 k, .int .i64 s, .slice Aa cs.length Ca, .slice Ab wd.length Cb] #[.int .i64 k', .int .i64 s', .slice Aa' cs'.length Ca', .slice Ab' wd'.length Cb']
  obtain ⟨g, hg⟩ : ∃ g, g = w.heap.size := ⟨_, rfl⟩
  have hW' := Lib.hid (And.intro hW hg)
  rw [← hg] at hT
  have hgw : w.heap.size ≤ g := by omega
  clear hW hg
  obtain ⟨hX, hY⟩ := hT
  replace ha := ha.below hB
  replace hb := hb.below hB
  replace ha' := ha'.below hB
  replace hb' := hb'.below hB
  obtain ⟨c1_hX_0, c1_hX_1, c1_hX_2, c1_hX_3⟩ := hX.quad
  obtain ⟨c1_hY_0, c1_hY_1, c1_hY_2, c1_hY_3⟩ := hY.quad
  go_enter Tryz.func3, Tryz.ntmps3
  go_wp2_with fail
  rw [← hW'.out.1, ← hW'.out.2]
  refine (hFa _ _ ⟨_, _, rfl, ha, hb⟩).mono ?_
  rintro e w1 ⟨rfl, b1⟩
  replace ha := ha.below b1
  replace hb := hb.below b1
  replace ha' := ha'.below b1
  replace hb' := hb'.below b1
  replace hX := hX.below b1 hX.lt
  replace hY := hY.below b1 hY.lt
  replace hB := hB.trans (b1.mono hB.size)
  clear c1_hX_0 c1_hX_1 c1_hX_2 c1_hX_3 c1_hY_0 c1_hY_1 c1_hY_2 c1_hY_3
  obtain ⟨c2_hX_0, c2_hX_1, c2_hX_2, c2_hX_3⟩ := hX.quad
  obtain ⟨c2_hY_0, c2_hY_1, c2_hY_2, c2_hY_3⟩ := hY.quad
  go_wp2_with fail
  refine (hL _).mono ?_
  rintro e w2 ⟨rfl, b2⟩
  replace ha := ha.below b2
  replace hb := hb.below b2
  replace ha' := ha'.below b2
  replace hb' := hb'.below b2
  replace hX := hX.below b2 hX.lt
  replace hY := hY.below b2 hY.lt
  replace hB := hB.trans (b2.mono hB.size)
  clear c2_hX_0 c2_hX_1 c2_hX_2 c2_hX_3 c2_hY_0 c2_hY_1 c2_hY_2 c2_hY_3
  obtain ⟨c3_hX_0, c3_hX_1, c3_hX_2, c3_hX_3⟩ := hX.quad
  obtain ⟨c3_hY_0, c3_hY_1, c3_hY_2, c3_hY_3⟩ := hY.quad
  go_wp2
  go_ret
  exact ⟨rfl, hB⟩
set_option maxRecDepth 100000 in
set_option maxHeartbeats 4000000 in
theorem BlockTells_b (u v : Value) (k s : Int) (cs : List Nat) (wd : List Int) (k' s' : Int) (cs' : List Nat) (wd' : List Int) (w : World) (hu : IsBk w u k s cs wd) (hv : IsBk w v k' s' cs' wd') (l1 : cs.length ≤ 140737488351232) (l2 : wd.length ≤ 17592186044416) (l3 : cs'.length ≤ 140737488351232) (l4 : wd'.length ≤ 17592186044416) (h : (cs.length : Int) + wd.length ≤ 20) (h' : ¬ (cs'.length : Int) + wd'.length ≤ 20) :
    Calls Tryz.prog 3 #[u, v] w fun e w' => e = .returned (.bool true) ∧ Below w.heap.size w w' := by
  obtain ⟨a, b, rfl, ha, hb⟩ := hu
  obtain ⟨a', b', rfl, ha', hb'⟩ := hv
  obtain ⟨Aa, Ca, rfl, _, _⟩ := id ha.form
  obtain ⟨Ab, Cb, rfl, _, _⟩ := id hb.form
  obtain ⟨Aa', Ca', rfl, _, _⟩ := id ha'.form
  obtain ⟨Ab', Cb', rfl, _, _⟩ := id hb'.form
  have hL := fun w => alive11_any w
  have hFa := fun v w h => rbfew_any v k s cs wd w h (by omega) l2 20
  have hFb := fun v w h => rbfew_any v k' s' cs' wd' w h (by omega) l4 20
  have f1 : decide ((cs.length : Int) + wd.length ≤ 20) = true := decide_eq_true h
  rw [f1] at hFa
  have f2 : decide ((cs'.length : Int) + wd'.length ≤ 20) = false := decide_eq_false h'
  rw [f2] at hFb
  obtain ⟨W0, hW, hT, hB⟩ := box2 w 25 25 #[.int .i64 k, .int .i64 s, .slice Aa cs.length Ca, .slice Ab wd.length Cb] #[.int .i64 k', .int .i64 s', .slice Aa' cs'.length Ca', .slice Ab' wd'.length Cb']
  obtain ⟨g, hg⟩ : ∃ g, g = w.heap.size := ⟨_, rfl⟩
  have hW' := Lib.hid (And.intro hW hg)
  rw [← hg] at hT
  have hgw : w.heap.size ≤ g := by omega
  clear hW hg
  obtain ⟨hX, hY⟩ := hT
  replace ha := ha.below hB
  replace hb := hb.below hB
  replace ha' := ha'.below hB
  replace hb' := hb'.below hB
  obtain ⟨c1_hX_0, c1_hX_1, c1_hX_2, c1_hX_3⟩ := hX.quad
  obtain ⟨c1_hY_0, c1_hY_1, c1_hY_2, c1_hY_3⟩ := hY.quad
  go_enter Tryz.func3, Tryz.ntmps3
  go_wp2_with fail
  rw [← hW'.out.1, ← hW'.out.2]
  refine (hFa _ _ ⟨_, _, rfl, ha, hb⟩).mono ?_
  rintro e w1 ⟨rfl, b1⟩
  replace ha := ha.below b1
  replace hb := hb.below b1
  replace ha' := ha'.below b1
  replace hb' := hb'.below b1
  replace hX := hX.below b1 hX.lt
  replace hY := hY.below b1 hY.lt
  replace hB := hB.trans (b1.mono hB.size)
  clear c1_hX_0 c1_hX_1 c1_hX_2 c1_hX_3 c1_hY_0 c1_hY_1 c1_hY_2 c1_hY_3
  obtain ⟨c2_hX_0, c2_hX_1, c2_hX_2, c2_hX_3⟩ := hX.quad
  obtain ⟨c2_hY_0, c2_hY_1, c2_hY_2, c2_hY_3⟩ := hY.quad
  go_wp2_with fail
  refine (hFb _ _ ⟨_, _, rfl, ha', hb'⟩).mono ?_
  rintro e w2 ⟨rfl, b2⟩
  replace ha := ha.below b2
  replace hb := hb.below b2
  replace ha' := ha'.below b2
  replace hb' := hb'.below b2
  replace hX := hX.below b2 hX.lt
  replace hY := hY.below b2 hY.lt
  replace hB := hB.trans (b2.mono hB.size)
  clear c2_hX_0 c2_hX_1 c2_hX_2 c2_hX_3 c2_hY_0 c2_hY_1 c2_hY_2 c2_hY_3
  obtain ⟨c3_hX_0, c3_hX_1, c3_hX_2, c3_hX_3⟩ := hX.quad
  obtain ⟨c3_hY_0, c3_hY_1, c3_hY_2, c3_hY_3⟩ := hY.quad
  go_wp2_with fail
  refine (hL _).mono ?_
  rintro e w3 ⟨rfl, b3⟩
  replace ha := ha.below b3
  replace hb := hb.below b3
  replace ha' := ha'.below b3
  replace hb' := hb'.below b3
  replace hX := hX.below b3 hX.lt
  replace hY := hY.below b3 hY.lt
  replace hB := hB.trans (b3.mono hB.size)
  clear c3_hX_0 c3_hX_1 c3_hX_2 c3_hX_3 c3_hY_0 c3_hY_1 c3_hY_2 c3_hY_3
  obtain ⟨c4_hX_0, c4_hX_1, c4_hX_2, c4_hX_3⟩ := hX.quad
  obtain ⟨c4_hY_0, c4_hY_1, c4_hY_2, c4_hY_3⟩ := hY.quad
  go_wp2
  go_ret
  exact ⟨rfl, hB⟩
set_option maxRecDepth 100000 in
set_option maxHeartbeats 16000000 in
theorem BlockTells_no (u v : Value) (k s : Int) (cs : List Nat) (wd : List Int) (k' s' : Int) (cs' : List Nat) (wd' : List Int) (w : World) (hu : IsBk w u k s cs wd) (hv : IsBk w v k' s' cs' wd') (l1 : cs.length ≤ 140737488351232) (l2 : wd.length ≤ 17592186044416) (l3 : cs'.length ≤ 140737488351232) (l4 : wd'.length ≤ 17592186044416) (h : (cs.length : Int) + wd.length ≤ 20) (h' : (cs'.length : Int) + wd'.length ≤ 20) (hr : blkR k s cs wd = false) :
    Calls Tryz.prog 3 #[u, v] w fun e w' => e = .returned (.bool true) ∧ Below w.heap.size w w' := by
  obtain ⟨a, b, rfl, ha, hb⟩ := hu
  obtain ⟨a', b', rfl, ha', hb'⟩ := hv
  obtain ⟨Aa, Ca, rfl, _, _⟩ := id ha.form
  obtain ⟨Ab, Cb, rfl, _, _⟩ := id hb.form
  obtain ⟨Aa', Ca', rfl, _, _⟩ := id ha'.form
  obtain ⟨Ab', Cb', rfl, _, _⟩ := id hb'.form
  have hL := fun w => alive11_any w
  have hFa := fun v w h => rbfew_any v k s cs wd w h (by omega) l2 20
  have hFb := fun v w h => rbfew_any v k' s' cs' wd' w h (by omega) l4 20
  have f1 : decide ((cs.length : Int) + wd.length ≤ 20) = true := decide_eq_true h
  rw [f1] at hFa
  have f2 : decide ((cs'.length : Int) + wd'.length ≤ 20) = true := decide_eq_true h'
  rw [f2] at hFb
  have hR1 := fun v w h => rbright_any v k s cs wd w h (by omega) l2
  have hR2 := fun v w h => bright_any v k s cs wd w h (by omega) l2
  have hS1 := fun u v w h h' => bsame_any u v k s cs wd k' s' cs' wd' w h h'
  have hS2 := fun u v w h h' => rbsame_any u v k s cs wd k' s' cs' wd' w h h'
  have hN1 := fun v w h => blen_any v k s cs wd w h (by omega) l2
  have hN2 := fun v w h => rblen_any v k s cs wd w h (by omega) l2
  generalize (decide (k = k') && (decide (s = s') && (decide (cs = cs') && decide (wd = wd')))) = sm at *
  generalize hln : (cs.length : Int) + (wd.length : Int) = ln at *
  clear hln
  rw [hr] at hR1 hR2
  clear f1 f2 hr l1 l2 l3 l4
  obtain ⟨W0, hW, hT, hB⟩ := box2 w 25 25 #[.int .i64 k, .int .i64 s, .slice Aa cs.length Ca, .slice Ab wd.length Cb] #[.int .i64 k', .int .i64 s', .slice Aa' cs'.length Ca', .slice Ab' wd'.length Cb']
  obtain ⟨g, hg⟩ : ∃ g, g = w.heap.size := ⟨_, rfl⟩
  have hW' := Lib.hid (And.intro hW hg)
  rw [← hg] at hT
  have hgw : w.heap.size ≤ g := by omega
  clear hW hg
  obtain ⟨hX, hY⟩ := hT
  replace ha := ha.below hB
  replace hb := hb.below hB
  replace ha' := ha'.below hB
  replace hb' := hb'.below hB
  obtain ⟨c1_hX_0, c1_hX_1, c1_hX_2, c1_hX_3⟩ := hX.quad
  obtain ⟨c1_hY_0, c1_hY_1, c1_hY_2, c1_hY_3⟩ := hY.quad
  go_enter Tryz.func3, Tryz.ntmps3
  go_wp2_with fail
  rw [← hW'.out.1, ← hW'.out.2]
  refine (hFa _ _ ⟨_, _, rfl, ha, hb⟩).mono ?_
  rintro e w1 ⟨rfl, b1⟩
  replace ha := ha.below b1
  replace hb := hb.below b1
  replace ha' := ha'.below b1
  replace hb' := hb'.below b1
  replace hX := hX.below b1 hX.lt
  replace hY := hY.below b1 hY.lt
  replace hB := hB.trans (b1.mono hB.size)
  clear c1_hX_0 c1_hX_1 c1_hX_2 c1_hX_3 c1_hY_0 c1_hY_1 c1_hY_2 c1_hY_3
  obtain ⟨c2_hX_0, c2_hX_1, c2_hX_2, c2_hX_3⟩ := hX.quad
  obtain ⟨c2_hY_0, c2_hY_1, c2_hY_2, c2_hY_3⟩ := hY.quad
  go_wp2_with fail
  refine (hFb _ _ ⟨_, _, rfl, ha', hb'⟩).mono ?_
  rintro e w2 ⟨rfl, b2⟩
  replace ha := ha.below b2
  replace hb := hb.below b2
  replace ha' := ha'.below b2
  replace hb' := hb'.below b2
  replace hX := hX.below b2 hX.lt
  replace hY := hY.below b2 hY.lt
  replace hB := hB.trans (b2.mono hB.size)
  clear c2_hX_0 c2_hX_1 c2_hX_2 c2_hX_3 c2_hY_0 c2_hY_1 c2_hY_2 c2_hY_3
  obtain ⟨c3_hX_0, c3_hX_1, c3_hX_2, c3_hX_3⟩ := hX.quad
  obtain ⟨c3_hY_0, c3_hY_1, c3_hY_2, c3_hY_3⟩ := hY.quad
  go_wp2_with fail
  refine (hR1 _ _ ⟨_, _, rfl, ha, hb⟩).mono ?_
  rintro e w3 ⟨rfl, b3⟩
  replace ha := ha.below b3
  replace hb := hb.below b3
  replace ha' := ha'.below b3
  replace hb' := hb'.below b3
  replace hX := hX.below b3 hX.lt
  replace hY := hY.below b3 hY.lt
  replace hB := hB.trans (b3.mono hB.size)
  clear c3_hX_0 c3_hX_1 c3_hX_2 c3_hX_3 c3_hY_0 c3_hY_1 c3_hY_2 c3_hY_3
  obtain ⟨c4_hX_0, c4_hX_1, c4_hX_2, c4_hX_3⟩ := hX.quad
  obtain ⟨c4_hY_0, c4_hY_1, c4_hY_2, c4_hY_3⟩ := hY.quad
  obtain ⟨x0, x1, x2, x3⟩ := hX.quad
  obtain ⟨y0, y1, y2, y3⟩ := hY.quad
  have hcur := Below.refl w3.heap.size w3
  go_upto_region 4 with fail
  refine wp_region_noPanic ?_
  refine wp_region_held_drew (S := fun w' => w'.cell? ⟨g, 0, none⟩ = some (.int .i64 k) ∧ w'.cell? ⟨g, 1, none⟩ = some (.int .i64 s) ∧ w'.cell? ⟨g, 2, none⟩ = some (.slice Aa cs.length Ca) ∧ w'.cell? ⟨g, 3, none⟩ = some (.slice Ab wd.length Cb) ∧ w'.cell? ⟨g + 1, 0, none⟩ = some (.int .i64 k') ∧ w'.cell? ⟨g + 1, 1, none⟩ = some (.int .i64 s') ∧ w'.cell? ⟨g + 1, 2, none⟩ = some (.slice Aa' cs'.length Ca') ∧ w'.cell? ⟨g + 1, 3, none⟩ = some (.slice Ab' wd'.length Cb')) (by kernel_rfl) ?_ (fun hHeld => ?_)
  · exact ⟨cellB (by first | assumption | exact bdrew _ | exact Below.refl _ _ | exact balloc (bdrew _) _ | exact balloc (by assumption) _ | exact balloc (Below.refl _ _) _ | exact bset (bset (by assumption) (by first | assumption | exact Nat.le_refl _) _) (by first | assumption | exact Nat.le_refl _) _) x0, cellB (by first | assumption | exact bdrew _ | exact Below.refl _ _ | exact balloc (bdrew _) _ | exact balloc (by assumption) _ | exact balloc (Below.refl _ _) _ | exact bset (bset (by assumption) (by first | assumption | exact Nat.le_refl _) _) (by first | assumption | exact Nat.le_refl _) _) x1, cellB (by first | assumption | exact bdrew _ | exact Below.refl _ _ | exact balloc (bdrew _) _ | exact balloc (by assumption) _ | exact balloc (Below.refl _ _) _ | exact bset (bset (by assumption) (by first | assumption | exact Nat.le_refl _) _) (by first | assumption | exact Nat.le_refl _) _) x2, cellB (by first | assumption | exact bdrew _ | exact Below.refl _ _ | exact balloc (bdrew _) _ | exact balloc (by assumption) _ | exact balloc (Below.refl _ _) _ | exact bset (bset (by assumption) (by first | assumption | exact Nat.le_refl _) _) (by first | assumption | exact Nat.le_refl _) _) x3, cellB (by first | assumption | exact bdrew _ | exact Below.refl _ _ | exact balloc (bdrew _) _ | exact balloc (by assumption) _ | exact balloc (Below.refl _ _) _ | exact bset (bset (by assumption) (by first | assumption | exact Nat.le_refl _) _) (by first | assumption | exact Nat.le_refl _) _) y0, cellB (by first | assumption | exact bdrew _ | exact Below.refl _ _ | exact balloc (bdrew _) _ | exact balloc (by assumption) _ | exact balloc (Below.refl _ _) _ | exact bset (bset (by assumption) (by first | assumption | exact Nat.le_refl _) _) (by first | assumption | exact Nat.le_refl _) _) y1, cellB (by first | assumption | exact bdrew _ | exact Below.refl _ _ | exact balloc (bdrew _) _ | exact balloc (by assumption) _ | exact balloc (Below.refl _ _) _ | exact bset (bset (by assumption) (by first | assumption | exact Nat.le_refl _) _) (by first | assumption | exact Nat.le_refl _) _) y2, cellB (by first | assumption | exact bdrew _ | exact Below.refl _ _ | exact balloc (bdrew _) _ | exact balloc (by assumption) _ | exact balloc (Below.refl _ _) _ | exact bset (bset (by assumption) (by first | assumption | exact Nat.le_refl _) _) (by first | assumption | exact Nat.le_refl _) _) y3⟩
  refine wpAnyH_take (i := 0) (v := ?mv0) rfl (by kernel_rfl) (by kernel_rfl) (by kernel_rfl) (fun _ _ _ h => h) (Or.inl ⟨by kernel_rfl, ?mhy0⟩) (by assumption) ?mrest0
  case mhy0 => (intro w hSw; (try dsimp only at hSw); go_simp; try (with_reducible rfl))
  try simp only [Act.put]
  refine wpAnyH_take (i := 2) (v := ?mv2) rfl (by kernel_rfl) (by kernel_rfl) (by kernel_rfl) (fun _ _ _ h => h) (Or.inl ⟨by kernel_rfl, ?mhy2⟩) (by assumption) ?mrest2
  case mhy2 => (intro w hSw; (try dsimp only at hSw); go_simp; try (with_reducible rfl))
  try simp only [Act.put]
  refine wpAnyH_ready (rs := [1]) (by kernel_rfl) (by simp) ?_
  refine AllReadyH.cons rfl (fun K hK => ?_) AllReadyH.nil
  go_simp
  refine (hR2 _ _ ?_).mono ?_
  · exact ⟨_, _, rfl, ha.below (by first | assumption | exact bdrew _ | exact Below.refl _ _ | exact balloc (bdrew _) _ | exact balloc (by assumption) _ | exact balloc (Below.refl _ _) _ | exact bset (bset (by assumption) (by first | assumption | exact Nat.le_refl _) _) (by first | assumption | exact Nat.le_refl _) _), hb.below (by first | assumption | exact bdrew _ | exact Below.refl _ _ | exact balloc (bdrew _) _ | exact balloc (by assumption) _ | exact balloc (Below.refl _ _) _ | exact bset (bset (by assumption) (by first | assumption | exact Nat.le_refl _) _) (by first | assumption | exact Nat.le_refl _) _)⟩
  rintro e w21 ⟨rfl, b21⟩
  have B21 := bstep (a := w3) (by first | assumption | exact bdrew _ | exact Below.refl _ _ | exact balloc (bdrew _) _ | exact balloc (by assumption) _ | exact balloc (Below.refl _ _) _ | exact bset (bset (by assumption) (by first | assumption | exact Nat.le_refl _) _) (by first | assumption | exact Nat.le_refl _) _) b21
  go_wp2_with fail
  refine hK.out _ _ ?_ (fun hHeld => ?_)
  · exact ⟨cellB (by first | assumption | exact bdrew _ | exact Below.refl _ _ | exact balloc (bdrew _) _ | exact balloc (by assumption) _ | exact balloc (Below.refl _ _) _ | exact bset (bset (by assumption) (by first | assumption | exact Nat.le_refl _) _) (by first | assumption | exact Nat.le_refl _) _) x0, cellB (by first | assumption | exact bdrew _ | exact Below.refl _ _ | exact balloc (bdrew _) _ | exact balloc (by assumption) _ | exact balloc (Below.refl _ _) _ | exact bset (bset (by assumption) (by first | assumption | exact Nat.le_refl _) _) (by first | assumption | exact Nat.le_refl _) _) x1, cellB (by first | assumption | exact bdrew _ | exact Below.refl _ _ | exact balloc (bdrew _) _ | exact balloc (by assumption) _ | exact balloc (Below.refl _ _) _ | exact bset (bset (by assumption) (by first | assumption | exact Nat.le_refl _) _) (by first | assumption | exact Nat.le_refl _) _) x2, cellB (by first | assumption | exact bdrew _ | exact Below.refl _ _ | exact balloc (bdrew _) _ | exact balloc (by assumption) _ | exact balloc (Below.refl _ _) _ | exact bset (bset (by assumption) (by first | assumption | exact Nat.le_refl _) _) (by first | assumption | exact Nat.le_refl _) _) x3, cellB (by first | assumption | exact bdrew _ | exact Below.refl _ _ | exact balloc (bdrew _) _ | exact balloc (by assumption) _ | exact balloc (Below.refl _ _) _ | exact bset (bset (by assumption) (by first | assumption | exact Nat.le_refl _) _) (by first | assumption | exact Nat.le_refl _) _) y0, cellB (by first | assumption | exact bdrew _ | exact Below.refl _ _ | exact balloc (bdrew _) _ | exact balloc (by assumption) _ | exact balloc (Below.refl _ _) _ | exact bset (bset (by assumption) (by first | assumption | exact Nat.le_refl _) _) (by first | assumption | exact Nat.le_refl _) _) y1, cellB (by first | assumption | exact bdrew _ | exact Below.refl _ _ | exact balloc (bdrew _) _ | exact balloc (by assumption) _ | exact balloc (Below.refl _ _) _ | exact bset (bset (by assumption) (by first | assumption | exact Nat.le_refl _) _) (by first | assumption | exact Nat.le_refl _) _) y2, cellB (by first | assumption | exact bdrew _ | exact Below.refl _ _ | exact balloc (bdrew _) _ | exact balloc (by assumption) _ | exact balloc (Below.refl _ _) _ | exact bset (bset (by assumption) (by first | assumption | exact Nat.le_refl _) _) (by first | assumption | exact Nat.le_refl _) _) y3⟩
  clear hK K
  try simp only [Act.put]
  refine wpAnyH_take (i := 3) (v := ?mv3) rfl (by kernel_rfl) (by kernel_rfl) (by kernel_rfl) (fun _ _ _ h => h) (Or.inl ⟨by kernel_rfl, ?mhy3⟩) (by assumption) ?mrest3
  case mhy3 => (intro w hSw; (try dsimp only at hSw); go_simp; try (with_reducible rfl))
  try simp only [Act.put]
  refine wpAnyH_take (i := 4) (v := ?mv4) rfl (by kernel_rfl) (by kernel_rfl) (by kernel_rfl) (fun _ _ _ h => h) (Or.inl ⟨by kernel_rfl, ?mhy4⟩) (by assumption) ?mrest4
  case mhy4 => (intro w hSw; (try dsimp only at hSw); go_simp; try (with_reducible rfl))
  try simp only [Act.put]
  refine wpAnyH_take (i := 5) (v := ?mv5) rfl (by kernel_rfl) (by kernel_rfl) (by kernel_rfl) (fun _ _ _ h => h) (Or.inl ⟨by kernel_rfl, ?mhy5⟩) (by assumption) ?mrest5
  case mhy5 => (intro w hSw; (try dsimp only at hSw); go_simp; try (with_reducible rfl))
  try simp only [Act.put]
  refine wpAnyH_take (i := 6) (v := ?mv6) rfl (by kernel_rfl) (by kernel_rfl) (by kernel_rfl) (fun _ _ _ h => h) (Or.inl ⟨by kernel_rfl, ?mhy6⟩) (by assumption) ?mrest6
  case mhy6 => (intro w hSw; (try dsimp only at hSw); go_simp; try (with_reducible rfl))
  try simp only [Act.put]
  refine wpAnyH_take (i := 8) (v := ?mv8) rfl (by kernel_rfl) (by kernel_rfl) (by kernel_rfl) (fun _ _ _ h => h) (Or.inl ⟨by kernel_rfl, ?mhy8⟩) (by assumption) ?mrest8
  case mhy8 => (intro w hSw; (try dsimp only at hSw); go_simp; try (with_reducible rfl))
  try simp only [Act.put]
  refine wpAnyH_take (i := 9) (v := ?mv9) rfl (by kernel_rfl) (by kernel_rfl) (by kernel_rfl) (fun _ _ _ h => h) (Or.inl ⟨by kernel_rfl, ?mhy9⟩) (by assumption) ?mrest9
  case mhy9 => (intro w hSw; (try dsimp only at hSw); go_simp; try (with_reducible rfl))
  try simp only [Act.put]
  refine wpAnyH_ready (rs := [7]) (by kernel_rfl) (by simp) ?_
  refine AllReadyH.cons rfl (fun K hK => ?_) AllReadyH.nil
  go_simp
  refine (hS1 _ _ _ ?_ ?_).mono ?_
  · exact ⟨_, _, rfl, ha.below (by first | assumption | exact bdrew _ | exact Below.refl _ _ | exact balloc (bdrew _) _ | exact balloc (by assumption) _ | exact balloc (Below.refl _ _) _ | exact bset (bset (by assumption) (by first | assumption | exact Nat.le_refl _) _) (by first | assumption | exact Nat.le_refl _) _), hb.below (by first | assumption | exact bdrew _ | exact Below.refl _ _ | exact balloc (bdrew _) _ | exact balloc (by assumption) _ | exact balloc (Below.refl _ _) _ | exact bset (bset (by assumption) (by first | assumption | exact Nat.le_refl _) _) (by first | assumption | exact Nat.le_refl _) _)⟩
  · exact ⟨_, _, rfl, ha'.below (by first | assumption | exact bdrew _ | exact Below.refl _ _ | exact balloc (bdrew _) _ | exact balloc (by assumption) _ | exact balloc (Below.refl _ _) _ | exact bset (bset (by assumption) (by first | assumption | exact Nat.le_refl _) _) (by first | assumption | exact Nat.le_refl _) _), hb'.below (by first | assumption | exact bdrew _ | exact Below.refl _ _ | exact balloc (bdrew _) _ | exact balloc (by assumption) _ | exact balloc (Below.refl _ _) _ | exact bset (bset (by assumption) (by first | assumption | exact Nat.le_refl _) _) (by first | assumption | exact Nat.le_refl _) _)⟩
  rintro e w22 ⟨rfl, b22⟩
  have B22 := bstep (a := w3) (by first | assumption | exact bdrew _ | exact Below.refl _ _ | exact balloc (bdrew _) _ | exact balloc (by assumption) _ | exact balloc (Below.refl _ _) _ | exact bset (bset (by assumption) (by first | assumption | exact Nat.le_refl _) _) (by first | assumption | exact Nat.le_refl _) _) b22
  go_wp2_with fail
  refine hK.out _ _ ?_ (fun hHeld => ?_)
  · exact ⟨cellB (by first | assumption | exact bdrew _ | exact Below.refl _ _ | exact balloc (bdrew _) _ | exact balloc (by assumption) _ | exact balloc (Below.refl _ _) _ | exact bset (bset (by assumption) (by first | assumption | exact Nat.le_refl _) _) (by first | assumption | exact Nat.le_refl _) _) x0, cellB (by first | assumption | exact bdrew _ | exact Below.refl _ _ | exact balloc (bdrew _) _ | exact balloc (by assumption) _ | exact balloc (Below.refl _ _) _ | exact bset (bset (by assumption) (by first | assumption | exact Nat.le_refl _) _) (by first | assumption | exact Nat.le_refl _) _) x1, cellB (by first | assumption | exact bdrew _ | exact Below.refl _ _ | exact balloc (bdrew _) _ | exact balloc (by assumption) _ | exact balloc (Below.refl _ _) _ | exact bset (bset (by assumption) (by first | assumption | exact Nat.le_refl _) _) (by first | assumption | exact Nat.le_refl _) _) x2, cellB (by first | assumption | exact bdrew _ | exact Below.refl _ _ | exact balloc (bdrew _) _ | exact balloc (by assumption) _ | exact balloc (Below.refl _ _) _ | exact bset (bset (by assumption) (by first | assumption | exact Nat.le_refl _) _) (by first | assumption | exact Nat.le_refl _) _) x3, cellB (by first | assumption | exact bdrew _ | exact Below.refl _ _ | exact balloc (bdrew _) _ | exact balloc (by assumption) _ | exact balloc (Below.refl _ _) _ | exact bset (bset (by assumption) (by first | assumption | exact Nat.le_refl _) _) (by first | assumption | exact Nat.le_refl _) _) y0, cellB (by first | assumption | exact bdrew _ | exact Below.refl _ _ | exact balloc (bdrew _) _ | exact balloc (by assumption) _ | exact balloc (Below.refl _ _) _ | exact bset (bset (by assumption) (by first | assumption | exact Nat.le_refl _) _) (by first | assumption | exact Nat.le_refl _) _) y1, cellB (by first | assumption | exact bdrew _ | exact Below.refl _ _ | exact balloc (bdrew _) _ | exact balloc (by assumption) _ | exact balloc (Below.refl _ _) _ | exact bset (bset (by assumption) (by first | assumption | exact Nat.le_refl _) _) (by first | assumption | exact Nat.le_refl _) _) y2, cellB (by first | assumption | exact bdrew _ | exact Below.refl _ _ | exact balloc (bdrew _) _ | exact balloc (by assumption) _ | exact balloc (Below.refl _ _) _ | exact bset (bset (by assumption) (by first | assumption | exact Nat.le_refl _) _) (by first | assumption | exact Nat.le_refl _) _) y3⟩
  clear hK K
  try simp only [Act.put]
  refine wpAnyH_ready (rs := [10]) (by kernel_rfl) (by simp) ?_
  refine AllReadyH.cons rfl (fun K hK => ?_) AllReadyH.nil
  go_simp
  refine (hS2 _ _ _ ?_ ?_).mono ?_
  · exact ⟨_, _, rfl, ha.below (by first | assumption | exact bdrew _ | exact Below.refl _ _ | exact balloc (bdrew _) _ | exact balloc (by assumption) _ | exact balloc (Below.refl _ _) _ | exact bset (bset (by assumption) (by first | assumption | exact Nat.le_refl _) _) (by first | assumption | exact Nat.le_refl _) _), hb.below (by first | assumption | exact bdrew _ | exact Below.refl _ _ | exact balloc (bdrew _) _ | exact balloc (by assumption) _ | exact balloc (Below.refl _ _) _ | exact bset (bset (by assumption) (by first | assumption | exact Nat.le_refl _) _) (by first | assumption | exact Nat.le_refl _) _)⟩
  · exact ⟨_, _, rfl, ha'.below (by first | assumption | exact bdrew _ | exact Below.refl _ _ | exact balloc (bdrew _) _ | exact balloc (by assumption) _ | exact balloc (Below.refl _ _) _ | exact bset (bset (by assumption) (by first | assumption | exact Nat.le_refl _) _) (by first | assumption | exact Nat.le_refl _) _), hb'.below (by first | assumption | exact bdrew _ | exact Below.refl _ _ | exact balloc (bdrew _) _ | exact balloc (by assumption) _ | exact balloc (Below.refl _ _) _ | exact bset (bset (by assumption) (by first | assumption | exact Nat.le_refl _) _) (by first | assumption | exact Nat.le_refl _) _)⟩
  rintro e w23 ⟨rfl, b23⟩
  have B23 := bstep (a := w3) (by first | assumption | exact bdrew _ | exact Below.refl _ _ | exact balloc (bdrew _) _ | exact balloc (by assumption) _ | exact balloc (Below.refl _ _) _ | exact bset (bset (by assumption) (by first | assumption | exact Nat.le_refl _) _) (by first | assumption | exact Nat.le_refl _) _) b23
  go_wp2_with fail
  refine hK.out _ _ ?_ (fun hHeld => ?_)
  · exact ⟨cellB (by first | assumption | exact bdrew _ | exact Below.refl _ _ | exact balloc (bdrew _) _ | exact balloc (by assumption) _ | exact balloc (Below.refl _ _) _ | exact bset (bset (by assumption) (by first | assumption | exact Nat.le_refl _) _) (by first | assumption | exact Nat.le_refl _) _) x0, cellB (by first | assumption | exact bdrew _ | exact Below.refl _ _ | exact balloc (bdrew _) _ | exact balloc (by assumption) _ | exact balloc (Below.refl _ _) _ | exact bset (bset (by assumption) (by first | assumption | exact Nat.le_refl _) _) (by first | assumption | exact Nat.le_refl _) _) x1, cellB (by first | assumption | exact bdrew _ | exact Below.refl _ _ | exact balloc (bdrew _) _ | exact balloc (by assumption) _ | exact balloc (Below.refl _ _) _ | exact bset (bset (by assumption) (by first | assumption | exact Nat.le_refl _) _) (by first | assumption | exact Nat.le_refl _) _) x2, cellB (by first | assumption | exact bdrew _ | exact Below.refl _ _ | exact balloc (bdrew _) _ | exact balloc (by assumption) _ | exact balloc (Below.refl _ _) _ | exact bset (bset (by assumption) (by first | assumption | exact Nat.le_refl _) _) (by first | assumption | exact Nat.le_refl _) _) x3, cellB (by first | assumption | exact bdrew _ | exact Below.refl _ _ | exact balloc (bdrew _) _ | exact balloc (by assumption) _ | exact balloc (Below.refl _ _) _ | exact bset (bset (by assumption) (by first | assumption | exact Nat.le_refl _) _) (by first | assumption | exact Nat.le_refl _) _) y0, cellB (by first | assumption | exact bdrew _ | exact Below.refl _ _ | exact balloc (bdrew _) _ | exact balloc (by assumption) _ | exact balloc (Below.refl _ _) _ | exact bset (bset (by assumption) (by first | assumption | exact Nat.le_refl _) _) (by first | assumption | exact Nat.le_refl _) _) y1, cellB (by first | assumption | exact bdrew _ | exact Below.refl _ _ | exact balloc (bdrew _) _ | exact balloc (by assumption) _ | exact balloc (Below.refl _ _) _ | exact bset (bset (by assumption) (by first | assumption | exact Nat.le_refl _) _) (by first | assumption | exact Nat.le_refl _) _) y2, cellB (by first | assumption | exact bdrew _ | exact Below.refl _ _ | exact balloc (bdrew _) _ | exact balloc (by assumption) _ | exact balloc (Below.refl _ _) _ | exact bset (bset (by assumption) (by first | assumption | exact Nat.le_refl _) _) (by first | assumption | exact Nat.le_refl _) _) y3⟩
  clear hK K
  try simp only [Act.put]
  refine wpAnyH_take (i := 11) (v := ?mv11) rfl (by kernel_rfl) (by kernel_rfl) (by kernel_rfl) (fun _ _ _ h => h) (Or.inl ⟨by kernel_rfl, ?mhy11⟩) (by assumption) ?mrest11
  case mhy11 => (intro w hSw; (try dsimp only at hSw); go_simp; try (with_reducible rfl))
  try simp only [Act.put]
  refine wpAnyH_take (i := 12) (v := ?mv12) rfl (by kernel_rfl) (by kernel_rfl) (by kernel_rfl) (fun _ _ _ h => h) (Or.inl ⟨by kernel_rfl, ?mhy12⟩) (by assumption) ?mrest12
  case mhy12 => (intro w hSw; (try dsimp only at hSw); go_simp; try (with_reducible rfl))
  try simp only [Act.put]
  refine wpAnyH_take (i := 13) (v := ?mv13) rfl (by kernel_rfl) (by kernel_rfl) (by kernel_rfl) (fun _ _ _ h => h) (Or.inl ⟨by kernel_rfl, ?mhy13⟩) (by assumption) ?mrest13
  case mhy13 => (intro w hSw; (try dsimp only at hSw); go_simp; try (with_reducible rfl))
  try simp only [Act.put]
  refine wpAnyH_take (i := 14) (v := ?mv14) rfl (by kernel_rfl) (by kernel_rfl) (by kernel_rfl) (fun _ _ _ h => h) (Or.inl ⟨by kernel_rfl, ?mhy14⟩) (by assumption) ?mrest14
  case mhy14 => (intro w hSw; (try dsimp only at hSw); go_simp; try (with_reducible rfl))
  try simp only [Act.put]
  refine wpAnyH_take (i := 16) (v := ?mv16) rfl (by kernel_rfl) (by kernel_rfl) (by kernel_rfl) (fun _ _ _ h => h) (Or.inl ⟨by kernel_rfl, ?mhy16⟩) (by assumption) ?mrest16
  case mhy16 => (intro w hSw; (try dsimp only at hSw); go_simp; try (with_reducible rfl))
  try simp only [Act.put]
  refine wpAnyH_ready (rs := [15]) (by kernel_rfl) (by simp) ?_
  refine AllReadyH.cons rfl (fun K hK => ?_) AllReadyH.nil
  go_simp
  refine (hN1 _ _ ?_).mono ?_
  · exact ⟨_, _, rfl, ha.below (by first | assumption | exact bdrew _ | exact Below.refl _ _ | exact balloc (bdrew _) _ | exact balloc (by assumption) _ | exact balloc (Below.refl _ _) _ | exact bset (bset (by assumption) (by first | assumption | exact Nat.le_refl _) _) (by first | assumption | exact Nat.le_refl _) _), hb.below (by first | assumption | exact bdrew _ | exact Below.refl _ _ | exact balloc (bdrew _) _ | exact balloc (by assumption) _ | exact balloc (Below.refl _ _) _ | exact bset (bset (by assumption) (by first | assumption | exact Nat.le_refl _) _) (by first | assumption | exact Nat.le_refl _) _)⟩
  rintro e w24 ⟨rfl, b24⟩
  have B24 := bstep (a := w3) (by first | assumption | exact bdrew _ | exact Below.refl _ _ | exact balloc (bdrew _) _ | exact balloc (by assumption) _ | exact balloc (Below.refl _ _) _ | exact bset (bset (by assumption) (by first | assumption | exact Nat.le_refl _) _) (by first | assumption | exact Nat.le_refl _) _) b24
  go_wp2_with fail
  refine hK.out _ _ ?_ (fun hHeld => ?_)
  · exact ⟨cellB (by first | assumption | exact bdrew _ | exact Below.refl _ _ | exact balloc (bdrew _) _ | exact balloc (by assumption) _ | exact balloc (Below.refl _ _) _ | exact bset (bset (by assumption) (by first | assumption | exact Nat.le_refl _) _) (by first | assumption | exact Nat.le_refl _) _) x0, cellB (by first | assumption | exact bdrew _ | exact Below.refl _ _ | exact balloc (bdrew _) _ | exact balloc (by assumption) _ | exact balloc (Below.refl _ _) _ | exact bset (bset (by assumption) (by first | assumption | exact Nat.le_refl _) _) (by first | assumption | exact Nat.le_refl _) _) x1, cellB (by first | assumption | exact bdrew _ | exact Below.refl _ _ | exact balloc (bdrew _) _ | exact balloc (by assumption) _ | exact balloc (Below.refl _ _) _ | exact bset (bset (by assumption) (by first | assumption | exact Nat.le_refl _) _) (by first | assumption | exact Nat.le_refl _) _) x2, cellB (by first | assumption | exact bdrew _ | exact Below.refl _ _ | exact balloc (bdrew _) _ | exact balloc (by assumption) _ | exact balloc (Below.refl _ _) _ | exact bset (bset (by assumption) (by first | assumption | exact Nat.le_refl _) _) (by first | assumption | exact Nat.le_refl _) _) x3, cellB (by first | assumption | exact bdrew _ | exact Below.refl _ _ | exact balloc (bdrew _) _ | exact balloc (by assumption) _ | exact balloc (Below.refl _ _) _ | exact bset (bset (by assumption) (by first | assumption | exact Nat.le_refl _) _) (by first | assumption | exact Nat.le_refl _) _) y0, cellB (by first | assumption | exact bdrew _ | exact Below.refl _ _ | exact balloc (bdrew _) _ | exact balloc (by assumption) _ | exact balloc (Below.refl _ _) _ | exact bset (bset (by assumption) (by first | assumption | exact Nat.le_refl _) _) (by first | assumption | exact Nat.le_refl _) _) y1, cellB (by first | assumption | exact bdrew _ | exact Below.refl _ _ | exact balloc (bdrew _) _ | exact balloc (by assumption) _ | exact balloc (Below.refl _ _) _ | exact bset (bset (by assumption) (by first | assumption | exact Nat.le_refl _) _) (by first | assumption | exact Nat.le_refl _) _) y2, cellB (by first | assumption | exact bdrew _ | exact Below.refl _ _ | exact balloc (bdrew _) _ | exact balloc (by assumption) _ | exact balloc (Below.refl _ _) _ | exact bset (bset (by assumption) (by first | assumption | exact Nat.le_refl _) _) (by first | assumption | exact Nat.le_refl _) _) y3⟩
  clear hK K
  try simp only [Act.put]
  refine wpAnyH_ready (rs := [17]) (by kernel_rfl) (by simp) ?_
  refine AllReadyH.cons rfl (fun K hK => ?_) AllReadyH.nil
  go_simp
  refine (hN2 _ _ ?_).mono ?_
  · exact ⟨_, _, rfl, ha.below (by first | assumption | exact bdrew _ | exact Below.refl _ _ | exact balloc (bdrew _) _ | exact balloc (by assumption) _ | exact balloc (Below.refl _ _) _ | exact bset (bset (by assumption) (by first | assumption | exact Nat.le_refl _) _) (by first | assumption | exact Nat.le_refl _) _), hb.below (by first | assumption | exact bdrew _ | exact Below.refl _ _ | exact balloc (bdrew _) _ | exact balloc (by assumption) _ | exact balloc (Below.refl _ _) _ | exact bset (bset (by assumption) (by first | assumption | exact Nat.le_refl _) _) (by first | assumption | exact Nat.le_refl _) _)⟩
  rintro e w25 ⟨rfl, b25⟩
  have B25 := bstep (a := w3) (by first | assumption | exact bdrew _ | exact Below.refl _ _ | exact balloc (bdrew _) _ | exact balloc (by assumption) _ | exact balloc (Below.refl _ _) _ | exact bset (bset (by assumption) (by first | assumption | exact Nat.le_refl _) _) (by first | assumption | exact Nat.le_refl _) _) b25
  go_wp2_with fail
  refine hK.out _ _ ?_ (fun hHeld => ?_)
  · exact ⟨cellB (by first | assumption | exact bdrew _ | exact Below.refl _ _ | exact balloc (bdrew _) _ | exact balloc (by assumption) _ | exact balloc (Below.refl _ _) _ | exact bset (bset (by assumption) (by first | assumption | exact Nat.le_refl _) _) (by first | assumption | exact Nat.le_refl _) _) x0, cellB (by first | assumption | exact bdrew _ | exact Below.refl _ _ | exact balloc (bdrew _) _ | exact balloc (by assumption) _ | exact balloc (Below.refl _ _) _ | exact bset (bset (by assumption) (by first | assumption | exact Nat.le_refl _) _) (by first | assumption | exact Nat.le_refl _) _) x1, cellB (by first | assumption | exact bdrew _ | exact Below.refl _ _ | exact balloc (bdrew _) _ | exact balloc (by assumption) _ | exact balloc (Below.refl _ _) _ | exact bset (bset (by assumption) (by first | assumption | exact Nat.le_refl _) _) (by first | assumption | exact Nat.le_refl _) _) x2, cellB (by first | assumption | exact bdrew _ | exact Below.refl _ _ | exact balloc (bdrew _) _ | exact balloc (by assumption) _ | exact balloc (Below.refl _ _) _ | exact bset (bset (by assumption) (by first | assumption | exact Nat.le_refl _) _) (by first | assumption | exact Nat.le_refl _) _) x3, cellB (by first | assumption | exact bdrew _ | exact Below.refl _ _ | exact balloc (bdrew _) _ | exact balloc (by assumption) _ | exact balloc (Below.refl _ _) _ | exact bset (bset (by assumption) (by first | assumption | exact Nat.le_refl _) _) (by first | assumption | exact Nat.le_refl _) _) y0, cellB (by first | assumption | exact bdrew _ | exact Below.refl _ _ | exact balloc (bdrew _) _ | exact balloc (by assumption) _ | exact balloc (Below.refl _ _) _ | exact bset (bset (by assumption) (by first | assumption | exact Nat.le_refl _) _) (by first | assumption | exact Nat.le_refl _) _) y1, cellB (by first | assumption | exact bdrew _ | exact Below.refl _ _ | exact balloc (bdrew _) _ | exact balloc (by assumption) _ | exact balloc (Below.refl _ _) _ | exact bset (bset (by assumption) (by first | assumption | exact Nat.le_refl _) _) (by first | assumption | exact Nat.le_refl _) _) y2, cellB (by first | assumption | exact bdrew _ | exact Below.refl _ _ | exact balloc (bdrew _) _ | exact balloc (by assumption) _ | exact balloc (Below.refl _ _) _ | exact bset (bset (by assumption) (by first | assumption | exact Nat.le_refl _) _) (by first | assumption | exact Nat.le_refl _) _) y3⟩
  clear hK K
  try simp only [Act.put]
  try dsimp only
  try simp only [Act.put]
  refine wpAnyH_take (i := 18) (v := ?mv18) rfl (by kernel_rfl) (by kernel_rfl) (by kernel_rfl) (fun _ _ _ h => h) (Or.inl ⟨by kernel_rfl, ?mhy18⟩) (by assumption) ?mrest18
  case mhy18 => (intro w hSw; (try dsimp only at hSw); go_simp; try (with_reducible rfl))
  try simp only [Act.put]
  try dsimp only
  try simp only [Act.put]
  refine wpAnyH_take (i := 19) (v := ?mv19) rfl (by kernel_rfl) (by kernel_rfl) (by kernel_rfl) (fun _ _ _ h => h) (Or.inl ⟨by kernel_rfl, ?mhy19⟩) (by assumption) ?mrest19
  case mhy19 => (intro w hSw; (try dsimp only at hSw); go_simp; try (with_reducible rfl))
  try simp only [Act.put]
  try dsimp only
  try simp only [Act.put]
  refine wpAnyH_done (by kernel_rfl) ?_ _
  refine NoPanic.normal ?_
  replace ha := ha.below B25
  replace hb := hb.below B25
  replace ha' := ha'.below B25
  replace hb' := hb'.below B25
  replace hX := hX.below B25 hX.lt
  replace hY := hY.below B25 hY.lt
  replace hB := hB.trans (B25.mono hB.size)
  clear c4_hX_0 c4_hX_1 c4_hX_2 c4_hX_3 c4_hY_0 c4_hY_1 c4_hY_2 c4_hY_3
  obtain ⟨c5_hX_0, c5_hX_1, c5_hX_2, c5_hX_3⟩ := hX.quad
  obtain ⟨c5_hY_0, c5_hY_1, c5_hY_2, c5_hY_3⟩ := hY.quad
  clear x0 x1 x2 x3 y0 y1 y2 y3
  obtain ⟨x0, x1, x2, x3⟩ := hX.quad
  obtain ⟨y0, y1, y2, y3⟩ := hY.quad
  go_upto_region 6 with fail
  refine wp_region_noPanic ?_
  refine wp_region_held_drew (S := fun w' => w'.cell? ⟨g, 0, none⟩ = some (.int .i64 k) ∧ w'.cell? ⟨g, 1, none⟩ = some (.int .i64 s) ∧ w'.cell? ⟨g, 2, none⟩ = some (.slice Aa cs.length Ca) ∧ w'.cell? ⟨g, 3, none⟩ = some (.slice Ab wd.length Cb) ∧ w'.cell? ⟨g + 1, 0, none⟩ = some (.int .i64 k') ∧ w'.cell? ⟨g + 1, 1, none⟩ = some (.int .i64 s') ∧ w'.cell? ⟨g + 1, 2, none⟩ = some (.slice Aa' cs'.length Ca') ∧ w'.cell? ⟨g + 1, 3, none⟩ = some (.slice Ab' wd'.length Cb')) (by kernel_rfl) ?_ (fun hHeld => ?_)
  · exact ⟨cellB (by first | assumption | exact bdrew _ | exact Below.refl _ _ | exact balloc (bdrew _) _ | exact balloc (by assumption) _ | exact balloc (Below.refl _ _) _ | exact bset (bset (by assumption) (by first | assumption | exact Nat.le_refl _) _) (by first | assumption | exact Nat.le_refl _) _) x0, cellB (by first | assumption | exact bdrew _ | exact Below.refl _ _ | exact balloc (bdrew _) _ | exact balloc (by assumption) _ | exact balloc (Below.refl _ _) _ | exact bset (bset (by assumption) (by first | assumption | exact Nat.le_refl _) _) (by first | assumption | exact Nat.le_refl _) _) x1, cellB (by first | assumption | exact bdrew _ | exact Below.refl _ _ | exact balloc (bdrew _) _ | exact balloc (by assumption) _ | exact balloc (Below.refl _ _) _ | exact bset (bset (by assumption) (by first | assumption | exact Nat.le_refl _) _) (by first | assumption | exact Nat.le_refl _) _) x2, cellB (by first | assumption | exact bdrew _ | exact Below.refl _ _ | exact balloc (bdrew _) _ | exact balloc (by assumption) _ | exact balloc (Below.refl _ _) _ | exact bset (bset (by assumption) (by first | assumption | exact Nat.le_refl _) _) (by first | assumption | exact Nat.le_refl _) _) x3, cellB (by first | assumption | exact bdrew _ | exact Below.refl _ _ | exact balloc (bdrew _) _ | exact balloc (by assumption) _ | exact balloc (Below.refl _ _) _ | exact bset (bset (by assumption) (by first | assumption | exact Nat.le_refl _) _) (by first | assumption | exact Nat.le_refl _) _) y0, cellB (by first | assumption | exact bdrew _ | exact Below.refl _ _ | exact balloc (bdrew _) _ | exact balloc (by assumption) _ | exact balloc (Below.refl _ _) _ | exact bset (bset (by assumption) (by first | assumption | exact Nat.le_refl _) _) (by first | assumption | exact Nat.le_refl _) _) y1, cellB (by first | assumption | exact bdrew _ | exact Below.refl _ _ | exact balloc (bdrew _) _ | exact balloc (by assumption) _ | exact balloc (Below.refl _ _) _ | exact bset (bset (by assumption) (by first | assumption | exact Nat.le_refl _) _) (by first | assumption | exact Nat.le_refl _) _) y2, cellB (by first | assumption | exact bdrew _ | exact Below.refl _ _ | exact balloc (bdrew _) _ | exact balloc (by assumption) _ | exact balloc (Below.refl _ _) _ | exact bset (bset (by assumption) (by first | assumption | exact Nat.le_refl _) _) (by first | assumption | exact Nat.le_refl _) _) y3⟩
  refine wpAnyH_ready (rs := [0]) (by kernel_rfl) (by simp) ?_
  refine AllReadyH.cons rfl (fun K hK => ?_) AllReadyH.nil
  go_simp
  refine (hL  _ ).mono ?_

  rintro e w31 ⟨rfl, b31⟩
  have B31 := bstep (a := w25) (by first | assumption | exact bdrew _ | exact Below.refl _ _ | exact balloc (bdrew _) _ | exact balloc (by assumption) _ | exact balloc (Below.refl _ _) _ | exact bset (bset (by assumption) (by first | assumption | exact Nat.le_refl _) _) (by first | assumption | exact Nat.le_refl _) _) b31
  go_wp2_with fail
  refine hK.out _ _ ?_ (fun hHeld => ?_)
  · exact ⟨cellB (by first | assumption | exact bdrew _ | exact Below.refl _ _ | exact balloc (bdrew _) _ | exact balloc (by assumption) _ | exact balloc (Below.refl _ _) _ | exact bset (bset (by assumption) (by first | assumption | exact Nat.le_refl _) _) (by first | assumption | exact Nat.le_refl _) _) x0, cellB (by first | assumption | exact bdrew _ | exact Below.refl _ _ | exact balloc (bdrew _) _ | exact balloc (by assumption) _ | exact balloc (Below.refl _ _) _ | exact bset (bset (by assumption) (by first | assumption | exact Nat.le_refl _) _) (by first | assumption | exact Nat.le_refl _) _) x1, cellB (by first | assumption | exact bdrew _ | exact Below.refl _ _ | exact balloc (bdrew _) _ | exact balloc (by assumption) _ | exact balloc (Below.refl _ _) _ | exact bset (bset (by assumption) (by first | assumption | exact Nat.le_refl _) _) (by first | assumption | exact Nat.le_refl _) _) x2, cellB (by first | assumption | exact bdrew _ | exact Below.refl _ _ | exact balloc (bdrew _) _ | exact balloc (by assumption) _ | exact balloc (Below.refl _ _) _ | exact bset (bset (by assumption) (by first | assumption | exact Nat.le_refl _) _) (by first | assumption | exact Nat.le_refl _) _) x3, cellB (by first | assumption | exact bdrew _ | exact Below.refl _ _ | exact balloc (bdrew _) _ | exact balloc (by assumption) _ | exact balloc (Below.refl _ _) _ | exact bset (bset (by assumption) (by first | assumption | exact Nat.le_refl _) _) (by first | assumption | exact Nat.le_refl _) _) y0, cellB (by first | assumption | exact bdrew _ | exact Below.refl _ _ | exact balloc (bdrew _) _ | exact balloc (by assumption) _ | exact balloc (Below.refl _ _) _ | exact bset (bset (by assumption) (by first | assumption | exact Nat.le_refl _) _) (by first | assumption | exact Nat.le_refl _) _) y1, cellB (by first | assumption | exact bdrew _ | exact Below.refl _ _ | exact balloc (bdrew _) _ | exact balloc (by assumption) _ | exact balloc (Below.refl _ _) _ | exact bset (bset (by assumption) (by first | assumption | exact Nat.le_refl _) _) (by first | assumption | exact Nat.le_refl _) _) y2, cellB (by first | assumption | exact bdrew _ | exact Below.refl _ _ | exact balloc (bdrew _) _ | exact balloc (by assumption) _ | exact balloc (Below.refl _ _) _ | exact bset (bset (by assumption) (by first | assumption | exact Nat.le_refl _) _) (by first | assumption | exact Nat.le_refl _) _) y3⟩
  clear hK K
  try simp only [Act.put]
  refine wpAnyH_take (i := 1) (v := ?nv1) rfl (by kernel_rfl) (by kernel_rfl) (by kernel_rfl) (fun _ _ _ h => h) (Or.inl ⟨by kernel_rfl, ?nhy1⟩) (by assumption) ?nrest1
  case nhy1 => (intro w hSw; (try dsimp only at hSw); go_simp; try (with_reducible rfl))
  try simp only [Act.put]
  refine wpAnyH_take (i := 2) (v := ?nv2) rfl (by kernel_rfl) (by kernel_rfl) (by kernel_rfl) (fun _ _ _ h => h) (Or.inl ⟨by kernel_rfl, ?nhy2⟩) (by assumption) ?nrest2
  case nhy2 => (intro w hSw; (try dsimp only at hSw); go_simp; try (with_reducible rfl))
  try simp only [Act.put]
  refine wpAnyH_take (i := 3) (v := ?nv3) rfl (by kernel_rfl) (by kernel_rfl) (by kernel_rfl) (fun _ _ _ h => h) (Or.inl ⟨by kernel_rfl, ?nhy3⟩) (by assumption) ?nrest3
  case nhy3 => (intro w hSw; (try dsimp only at hSw); go_simp; try (with_reducible rfl))
  try simp only [Act.put]
  refine wpAnyH_take (i := 4) (v := ?nv4) rfl (by kernel_rfl) (by kernel_rfl) (by kernel_rfl) (fun _ _ _ h => h) (Or.inl ⟨by kernel_rfl, ?nhy4⟩) (by assumption) ?nrest4
  case nhy4 => (intro w hSw; (try dsimp only at hSw); go_simp; try (with_reducible rfl))
  try simp only [Act.put]
  refine wpAnyH_take (i := 5) (v := undef) rfl (by kernel_rfl) (by kernel_rfl) (by kernel_rfl) (fun _ _ _ h => h) (Or.inr ⟨by kernel_rfl, rfl⟩) (by assumption) ?_
  try simp only [Act.put]
  refine wpAnyH_take (i := 6) (v := undef) rfl (by kernel_rfl) (by kernel_rfl) (by kernel_rfl) (fun _ _ _ h => h) (Or.inr ⟨by kernel_rfl, rfl⟩) (by assumption) ?_
  try simp only [Act.put]
  refine wpAnyH_take (i := 7) (v := undef) rfl (by kernel_rfl) (by kernel_rfl) (by kernel_rfl) (fun _ _ _ h => h) (Or.inr ⟨by kernel_rfl, rfl⟩) (by assumption) ?_
  try simp only [Act.put]
  refine wpAnyH_take (i := 8) (v := undef) rfl (by kernel_rfl) (by kernel_rfl) (by kernel_rfl) (fun _ _ _ h => h) (Or.inr ⟨by kernel_rfl, rfl⟩) (by assumption) ?_
  try simp only [Act.put]
  refine wpAnyH_take (i := 9) (v := undef) rfl (by kernel_rfl) (by kernel_rfl) (by kernel_rfl) (fun _ _ _ h => h) (Or.inr ⟨by kernel_rfl, rfl⟩) (by assumption) ?_
  try simp only [Act.put]
  refine wpAnyH_take (i := 10) (v := ?nv10) rfl (by kernel_rfl) (by kernel_rfl) (by kernel_rfl) (fun _ _ _ h => h) (Or.inl ⟨by kernel_rfl, ?nhy10⟩) (by assumption) ?nrest10
  case nhy10 => (intro w hSw; (try dsimp only at hSw); go_simp; try (with_reducible rfl))
  try simp only [Act.put]
  try dsimp only
  try simp only [Act.put]
  refine wpAnyH_take (i := 11) (v := ?nv11) rfl (by kernel_rfl) (by kernel_rfl) (by kernel_rfl) (fun _ _ _ h => h) (Or.inl ⟨by kernel_rfl, ?nhy11⟩) (by assumption) ?nrest11
  case nhy11 => (intro w hSw; (try dsimp only at hSw); go_simp; try (with_reducible rfl))
  try simp only [Act.put]
  try dsimp only
  try simp only [Act.put]
  refine wpAnyH_take (i := 12) (v := ?nv12) rfl (by kernel_rfl) (by kernel_rfl) (by kernel_rfl) (fun _ _ _ h => h) (Or.inl ⟨by kernel_rfl, ?nhy12⟩) (by assumption) ?nrest12
  case nhy12 => (intro w hSw; (try dsimp only at hSw); go_simp; try (with_reducible rfl))
  try simp only [Act.put]
  try dsimp only
  try simp only [Act.put]
  refine wpAnyH_done (by kernel_rfl) ?_ _
  refine NoPanic.normal ?_
  go_wp2
  go_ret
  rename_i a1_ d1_ e1_ a2_ d2_ e2_
  obtain rfl : 4 = d1_ := Option.some.inj e1_
  obtain rfl : 48 = d2_ := Option.some.inj e2_
  exact ⟨by first | rfl | (simp; done) | (simp [*]; done), hB.trans (B31.mono hB.size)⟩
set_option maxRecDepth 100000 in
set_option maxHeartbeats 16000000 in
theorem BlockTells_yes (u v : Value) (k s : Int) (cs : List Nat) (wd : List Int) (k' s' : Int) (cs' : List Nat) (wd' : List Int) (w : World) (hu : IsBk w u k s cs wd) (hv : IsBk w v k' s' cs' wd') (l1 : cs.length ≤ 140737488351232) (l2 : wd.length ≤ 17592186044416) (l3 : cs'.length ≤ 140737488351232) (l4 : wd'.length ≤ 17592186044416) (h : (cs.length : Int) + wd.length ≤ 20) (h' : (cs'.length : Int) + wd'.length ≤ 20) (hr : blkR k s cs wd = true) (M : List Int) (hLd : ∀ v w, IsBk w v k s cs wd → Calls Tryz.prog 16 #[v] w fun e w' => ∃ v', e = .returned v' ∧ IsI w' v' M ∧ Below w.heap.size w w') (hRd : ∀ v w, IsBk w v k s cs wd → Calls Tryz.prog 17 #[v] w fun e w' => ∃ v', e = .returned v' ∧ IsI w' v' M ∧ Below w.heap.size w w') :
    Calls Tryz.prog 3 #[u, v] w fun e w' => e = .returned (.bool true) ∧ Below w.heap.size w w' := by
  obtain ⟨a, b, rfl, ha, hb⟩ := hu
  obtain ⟨a', b', rfl, ha', hb'⟩ := hv
  obtain ⟨Aa, Ca, rfl, _, _⟩ := id ha.form
  obtain ⟨Ab, Cb, rfl, _, _⟩ := id hb.form
  obtain ⟨Aa', Ca', rfl, _, _⟩ := id ha'.form
  obtain ⟨Ab', Cb', rfl, _, _⟩ := id hb'.form
  have hL := fun w => alive11_any w
  have hFa := fun v w h => rbfew_any v k s cs wd w h (by omega) l2 20
  have hFb := fun v w h => rbfew_any v k' s' cs' wd' w h (by omega) l4 20
  have f1 : decide ((cs.length : Int) + wd.length ≤ 20) = true := decide_eq_true h
  rw [f1] at hFa
  have f2 : decide ((cs'.length : Int) + wd'.length ≤ 20) = true := decide_eq_true h'
  rw [f2] at hFb
  have hR1 := fun v w h => rbright_any v k s cs wd w h (by omega) l2
  have hR2 := fun v w h => bright_any v k s cs wd w h (by omega) l2
  have hS1 := fun u v w h h' => bsame_any u v k s cs wd k' s' cs' wd' w h h'
  have hS2 := fun u v w h h' => rbsame_any u v k s cs wd k' s' cs' wd' w h h'
  have hN1 := fun v w h => blen_any v k s cs wd w h (by omega) l2
  have hN2 := fun v w h => rblen_any v k s cs wd w h (by omega) l2
  generalize (decide (k = k') && (decide (s = s') && (decide (cs = cs') && decide (wd = wd')))) = sm at *
  generalize hln : (cs.length : Int) + (wd.length : Int) = ln at *
  clear hln
  rw [hr] at hR1 hR2
  clear f1 f2 hr l1 l2 l3 l4
  obtain ⟨W0, hW, hT, hB⟩ := box2 w 25 25 #[.int .i64 k, .int .i64 s, .slice Aa cs.length Ca, .slice Ab wd.length Cb] #[.int .i64 k', .int .i64 s', .slice Aa' cs'.length Ca', .slice Ab' wd'.length Cb']
  obtain ⟨g, hg⟩ : ∃ g, g = w.heap.size := ⟨_, rfl⟩
  have hW' := Lib.hid (And.intro hW hg)
  rw [← hg] at hT
  have hgw : w.heap.size ≤ g := by omega
  clear hW hg
  obtain ⟨hX, hY⟩ := hT
  replace ha := ha.below hB
  replace hb := hb.below hB
  replace ha' := ha'.below hB
  replace hb' := hb'.below hB
  obtain ⟨c1_hX_0, c1_hX_1, c1_hX_2, c1_hX_3⟩ := hX.quad
  obtain ⟨c1_hY_0, c1_hY_1, c1_hY_2, c1_hY_3⟩ := hY.quad
  go_enter Tryz.func3, Tryz.ntmps3
  go_wp2_with fail
  rw [← hW'.out.1, ← hW'.out.2]
  refine (hFa _ _ ⟨_, _, rfl, ha, hb⟩).mono ?_
  rintro e w1 ⟨rfl, b1⟩
  replace ha := ha.below b1
  replace hb := hb.below b1
  replace ha' := ha'.below b1
  replace hb' := hb'.below b1
  replace hX := hX.below b1 hX.lt
  replace hY := hY.below b1 hY.lt
  replace hB := hB.trans (b1.mono hB.size)
  clear c1_hX_0 c1_hX_1 c1_hX_2 c1_hX_3 c1_hY_0 c1_hY_1 c1_hY_2 c1_hY_3
  obtain ⟨c2_hX_0, c2_hX_1, c2_hX_2, c2_hX_3⟩ := hX.quad
  obtain ⟨c2_hY_0, c2_hY_1, c2_hY_2, c2_hY_3⟩ := hY.quad
  go_wp2_with fail
  refine (hFb _ _ ⟨_, _, rfl, ha', hb'⟩).mono ?_
  rintro e w2 ⟨rfl, b2⟩
  replace ha := ha.below b2
  replace hb := hb.below b2
  replace ha' := ha'.below b2
  replace hb' := hb'.below b2
  replace hX := hX.below b2 hX.lt
  replace hY := hY.below b2 hY.lt
  replace hB := hB.trans (b2.mono hB.size)
  clear c2_hX_0 c2_hX_1 c2_hX_2 c2_hX_3 c2_hY_0 c2_hY_1 c2_hY_2 c2_hY_3
  obtain ⟨c3_hX_0, c3_hX_1, c3_hX_2, c3_hX_3⟩ := hX.quad
  obtain ⟨c3_hY_0, c3_hY_1, c3_hY_2, c3_hY_3⟩ := hY.quad
  go_wp2_with fail
  refine (hR1 _ _ ⟨_, _, rfl, ha, hb⟩).mono ?_
  rintro e w3 ⟨rfl, b3⟩
  replace ha := ha.below b3
  replace hb := hb.below b3
  replace ha' := ha'.below b3
  replace hb' := hb'.below b3
  replace hX := hX.below b3 hX.lt
  replace hY := hY.below b3 hY.lt
  replace hB := hB.trans (b3.mono hB.size)
  clear c3_hX_0 c3_hX_1 c3_hX_2 c3_hX_3 c3_hY_0 c3_hY_1 c3_hY_2 c3_hY_3
  obtain ⟨c4_hX_0, c4_hX_1, c4_hX_2, c4_hX_3⟩ := hX.quad
  obtain ⟨c4_hY_0, c4_hY_1, c4_hY_2, c4_hY_3⟩ := hY.quad
  obtain ⟨x0, x1, x2, x3⟩ := hX.quad
  obtain ⟨y0, y1, y2, y3⟩ := hY.quad
  have hcur := Below.refl w3.heap.size w3
  go_upto_region 4 with fail
  refine wp_region_noPanic ?_
  refine wp_region_held_drew (S := fun w' => w'.cell? ⟨g, 0, none⟩ = some (.int .i64 k) ∧ w'.cell? ⟨g, 1, none⟩ = some (.int .i64 s) ∧ w'.cell? ⟨g, 2, none⟩ = some (.slice Aa cs.length Ca) ∧ w'.cell? ⟨g, 3, none⟩ = some (.slice Ab wd.length Cb) ∧ w'.cell? ⟨g + 1, 0, none⟩ = some (.int .i64 k') ∧ w'.cell? ⟨g + 1, 1, none⟩ = some (.int .i64 s') ∧ w'.cell? ⟨g + 1, 2, none⟩ = some (.slice Aa' cs'.length Ca') ∧ w'.cell? ⟨g + 1, 3, none⟩ = some (.slice Ab' wd'.length Cb')) (by kernel_rfl) ?_ (fun hHeld => ?_)
  · exact ⟨cellB (by first | assumption | exact bdrew _ | exact Below.refl _ _ | exact balloc (bdrew _) _ | exact balloc (by assumption) _ | exact balloc (Below.refl _ _) _ | exact bset (bset (by assumption) (by first | assumption | exact Nat.le_refl _) _) (by first | assumption | exact Nat.le_refl _) _) x0, cellB (by first | assumption | exact bdrew _ | exact Below.refl _ _ | exact balloc (bdrew _) _ | exact balloc (by assumption) _ | exact balloc (Below.refl _ _) _ | exact bset (bset (by assumption) (by first | assumption | exact Nat.le_refl _) _) (by first | assumption | exact Nat.le_refl _) _) x1, cellB (by first | assumption | exact bdrew _ | exact Below.refl _ _ | exact balloc (bdrew _) _ | exact balloc (by assumption) _ | exact balloc (Below.refl _ _) _ | exact bset (bset (by assumption) (by first | assumption | exact Nat.le_refl _) _) (by first | assumption | exact Nat.le_refl _) _) x2, cellB (by first | assumption | exact bdrew _ | exact Below.refl _ _ | exact balloc (bdrew _) _ | exact balloc (by assumption) _ | exact balloc (Below.refl _ _) _ | exact bset (bset (by assumption) (by first | assumption | exact Nat.le_refl _) _) (by first | assumption | exact Nat.le_refl _) _) x3, cellB (by first | assumption | exact bdrew _ | exact Below.refl _ _ | exact balloc (bdrew _) _ | exact balloc (by assumption) _ | exact balloc (Below.refl _ _) _ | exact bset (bset (by assumption) (by first | assumption | exact Nat.le_refl _) _) (by first | assumption | exact Nat.le_refl _) _) y0, cellB (by first | assumption | exact bdrew _ | exact Below.refl _ _ | exact balloc (bdrew _) _ | exact balloc (by assumption) _ | exact balloc (Below.refl _ _) _ | exact bset (bset (by assumption) (by first | assumption | exact Nat.le_refl _) _) (by first | assumption | exact Nat.le_refl _) _) y1, cellB (by first | assumption | exact bdrew _ | exact Below.refl _ _ | exact balloc (bdrew _) _ | exact balloc (by assumption) _ | exact balloc (Below.refl _ _) _ | exact bset (bset (by assumption) (by first | assumption | exact Nat.le_refl _) _) (by first | assumption | exact Nat.le_refl _) _) y2, cellB (by first | assumption | exact bdrew _ | exact Below.refl _ _ | exact balloc (bdrew _) _ | exact balloc (by assumption) _ | exact balloc (Below.refl _ _) _ | exact bset (bset (by assumption) (by first | assumption | exact Nat.le_refl _) _) (by first | assumption | exact Nat.le_refl _) _) y3⟩
  refine wpAnyH_take (i := 0) (v := ?mv0) rfl (by kernel_rfl) (by kernel_rfl) (by kernel_rfl) (fun _ _ _ h => h) (Or.inl ⟨by kernel_rfl, ?mhy0⟩) (by assumption) ?mrest0
  case mhy0 => (intro w hSw; (try dsimp only at hSw); go_simp; try (with_reducible rfl))
  try simp only [Act.put]
  refine wpAnyH_take (i := 2) (v := ?mv2) rfl (by kernel_rfl) (by kernel_rfl) (by kernel_rfl) (fun _ _ _ h => h) (Or.inl ⟨by kernel_rfl, ?mhy2⟩) (by assumption) ?mrest2
  case mhy2 => (intro w hSw; (try dsimp only at hSw); go_simp; try (with_reducible rfl))
  try simp only [Act.put]
  refine wpAnyH_ready (rs := [1]) (by kernel_rfl) (by simp) ?_
  refine AllReadyH.cons rfl (fun K hK => ?_) AllReadyH.nil
  go_simp
  refine (hR2 _ _ ?_).mono ?_
  · exact ⟨_, _, rfl, ha.below (by first | assumption | exact bdrew _ | exact Below.refl _ _ | exact balloc (bdrew _) _ | exact balloc (by assumption) _ | exact balloc (Below.refl _ _) _ | exact bset (bset (by assumption) (by first | assumption | exact Nat.le_refl _) _) (by first | assumption | exact Nat.le_refl _) _), hb.below (by first | assumption | exact bdrew _ | exact Below.refl _ _ | exact balloc (bdrew _) _ | exact balloc (by assumption) _ | exact balloc (Below.refl _ _) _ | exact bset (bset (by assumption) (by first | assumption | exact Nat.le_refl _) _) (by first | assumption | exact Nat.le_refl _) _)⟩
  rintro e w21 ⟨rfl, b21⟩
  have B21 := bstep (a := w3) (by first | assumption | exact bdrew _ | exact Below.refl _ _ | exact balloc (bdrew _) _ | exact balloc (by assumption) _ | exact balloc (Below.refl _ _) _ | exact bset (bset (by assumption) (by first | assumption | exact Nat.le_refl _) _) (by first | assumption | exact Nat.le_refl _) _) b21
  go_wp2_with fail
  refine hK.out _ _ ?_ (fun hHeld => ?_)
  · exact ⟨cellB (by first | assumption | exact bdrew _ | exact Below.refl _ _ | exact balloc (bdrew _) _ | exact balloc (by assumption) _ | exact balloc (Below.refl _ _) _ | exact bset (bset (by assumption) (by first | assumption | exact Nat.le_refl _) _) (by first | assumption | exact Nat.le_refl _) _) x0, cellB (by first | assumption | exact bdrew _ | exact Below.refl _ _ | exact balloc (bdrew _) _ | exact balloc (by assumption) _ | exact balloc (Below.refl _ _) _ | exact bset (bset (by assumption) (by first | assumption | exact Nat.le_refl _) _) (by first | assumption | exact Nat.le_refl _) _) x1, cellB (by first | assumption | exact bdrew _ | exact Below.refl _ _ | exact balloc (bdrew _) _ | exact balloc (by assumption) _ | exact balloc (Below.refl _ _) _ | exact bset (bset (by assumption) (by first | assumption | exact Nat.le_refl _) _) (by first | assumption | exact Nat.le_refl _) _) x2, cellB (by first | assumption | exact bdrew _ | exact Below.refl _ _ | exact balloc (bdrew _) _ | exact balloc (by assumption) _ | exact balloc (Below.refl _ _) _ | exact bset (bset (by assumption) (by first | assumption | exact Nat.le_refl _) _) (by first | assumption | exact Nat.le_refl _) _) x3, cellB (by first | assumption | exact bdrew _ | exact Below.refl _ _ | exact balloc (bdrew _) _ | exact balloc (by assumption) _ | exact balloc (Below.refl _ _) _ | exact bset (bset (by assumption) (by first | assumption | exact Nat.le_refl _) _) (by first | assumption | exact Nat.le_refl _) _) y0, cellB (by first | assumption | exact bdrew _ | exact Below.refl _ _ | exact balloc (bdrew _) _ | exact balloc (by assumption) _ | exact balloc (Below.refl _ _) _ | exact bset (bset (by assumption) (by first | assumption | exact Nat.le_refl _) _) (by first | assumption | exact Nat.le_refl _) _) y1, cellB (by first | assumption | exact bdrew _ | exact Below.refl _ _ | exact balloc (bdrew _) _ | exact balloc (by assumption) _ | exact balloc (Below.refl _ _) _ | exact bset (bset (by assumption) (by first | assumption | exact Nat.le_refl _) _) (by first | assumption | exact Nat.le_refl _) _) y2, cellB (by first | assumption | exact bdrew _ | exact Below.refl _ _ | exact balloc (bdrew _) _ | exact balloc (by assumption) _ | exact balloc (Below.refl _ _) _ | exact bset (bset (by assumption) (by first | assumption | exact Nat.le_refl _) _) (by first | assumption | exact Nat.le_refl _) _) y3⟩
  clear hK K
  try simp only [Act.put]
  refine wpAnyH_take (i := 3) (v := ?mv3) rfl (by kernel_rfl) (by kernel_rfl) (by kernel_rfl) (fun _ _ _ h => h) (Or.inl ⟨by kernel_rfl, ?mhy3⟩) (by assumption) ?mrest3
  case mhy3 => (intro w hSw; (try dsimp only at hSw); go_simp; try (with_reducible rfl))
  try simp only [Act.put]
  refine wpAnyH_take (i := 4) (v := ?mv4) rfl (by kernel_rfl) (by kernel_rfl) (by kernel_rfl) (fun _ _ _ h => h) (Or.inl ⟨by kernel_rfl, ?mhy4⟩) (by assumption) ?mrest4
  case mhy4 => (intro w hSw; (try dsimp only at hSw); go_simp; try (with_reducible rfl))
  try simp only [Act.put]
  refine wpAnyH_take (i := 5) (v := ?mv5) rfl (by kernel_rfl) (by kernel_rfl) (by kernel_rfl) (fun _ _ _ h => h) (Or.inl ⟨by kernel_rfl, ?mhy5⟩) (by assumption) ?mrest5
  case mhy5 => (intro w hSw; (try dsimp only at hSw); go_simp; try (with_reducible rfl))
  try simp only [Act.put]
  refine wpAnyH_take (i := 6) (v := ?mv6) rfl (by kernel_rfl) (by kernel_rfl) (by kernel_rfl) (fun _ _ _ h => h) (Or.inl ⟨by kernel_rfl, ?mhy6⟩) (by assumption) ?mrest6
  case mhy6 => (intro w hSw; (try dsimp only at hSw); go_simp; try (with_reducible rfl))
  try simp only [Act.put]
  refine wpAnyH_take (i := 8) (v := ?mv8) rfl (by kernel_rfl) (by kernel_rfl) (by kernel_rfl) (fun _ _ _ h => h) (Or.inl ⟨by kernel_rfl, ?mhy8⟩) (by assumption) ?mrest8
  case mhy8 => (intro w hSw; (try dsimp only at hSw); go_simp; try (with_reducible rfl))
  try simp only [Act.put]
  refine wpAnyH_take (i := 9) (v := ?mv9) rfl (by kernel_rfl) (by kernel_rfl) (by kernel_rfl) (fun _ _ _ h => h) (Or.inl ⟨by kernel_rfl, ?mhy9⟩) (by assumption) ?mrest9
  case mhy9 => (intro w hSw; (try dsimp only at hSw); go_simp; try (with_reducible rfl))
  try simp only [Act.put]
  refine wpAnyH_ready (rs := [7]) (by kernel_rfl) (by simp) ?_
  refine AllReadyH.cons rfl (fun K hK => ?_) AllReadyH.nil
  go_simp
  refine (hS1 _ _ _ ?_ ?_).mono ?_
  · exact ⟨_, _, rfl, ha.below (by first | assumption | exact bdrew _ | exact Below.refl _ _ | exact balloc (bdrew _) _ | exact balloc (by assumption) _ | exact balloc (Below.refl _ _) _ | exact bset (bset (by assumption) (by first | assumption | exact Nat.le_refl _) _) (by first | assumption | exact Nat.le_refl _) _), hb.below (by first | assumption | exact bdrew _ | exact Below.refl _ _ | exact balloc (bdrew _) _ | exact balloc (by assumption) _ | exact balloc (Below.refl _ _) _ | exact bset (bset (by assumption) (by first | assumption | exact Nat.le_refl _) _) (by first | assumption | exact Nat.le_refl _) _)⟩
  · exact ⟨_, _, rfl, ha'.below (by first | assumption | exact bdrew _ | exact Below.refl _ _ | exact balloc (bdrew _) _ | exact balloc (by assumption) _ | exact balloc (Below.refl _ _) _ | exact bset (bset (by assumption) (by first | assumption | exact Nat.le_refl _) _) (by first | assumption | exact Nat.le_refl _) _), hb'.below (by first | assumption | exact bdrew _ | exact Below.refl _ _ | exact balloc (bdrew _) _ | exact balloc (by assumption) _ | exact balloc (Below.refl _ _) _ | exact bset (bset (by assumption) (by first | assumption | exact Nat.le_refl _) _) (by first | assumption | exact Nat.le_refl _) _)⟩
  rintro e w22 ⟨rfl, b22⟩
  have B22 := bstep (a := w3) (by first | assumption | exact bdrew _ | exact Below.refl _ _ | exact balloc (bdrew _) _ | exact balloc (by assumption) _ | exact balloc (Below.refl _ _) _ | exact bset (bset (by assumption) (by first | assumption | exact Nat.le_refl _) _) (by first | assumption | exact Nat.le_refl _) _) b22
  go_wp2_with fail
  refine hK.out _ _ ?_ (fun hHeld => ?_)
  · exact ⟨cellB (by first | assumption | exact bdrew _ | exact Below.refl _ _ | exact balloc (bdrew _) _ | exact balloc (by assumption) _ | exact balloc (Below.refl _ _) _ | exact bset (bset (by assumption) (by first | assumption | exact Nat.le_refl _) _) (by first | assumption | exact Nat.le_refl _) _) x0, cellB (by first | assumption | exact bdrew _ | exact Below.refl _ _ | exact balloc (bdrew _) _ | exact balloc (by assumption) _ | exact balloc (Below.refl _ _) _ | exact bset (bset (by assumption) (by first | assumption | exact Nat.le_refl _) _) (by first | assumption | exact Nat.le_refl _) _) x1, cellB (by first | assumption | exact bdrew _ | exact Below.refl _ _ | exact balloc (bdrew _) _ | exact balloc (by assumption) _ | exact balloc (Below.refl _ _) _ | exact bset (bset (by assumption) (by first | assumption | exact Nat.le_refl _) _) (by first | assumption | exact Nat.le_refl _) _) x2, cellB (by first | assumption | exact bdrew _ | exact Below.refl _ _ | exact balloc (bdrew _) _ | exact balloc (by assumption) _ | exact balloc (Below.refl _ _) _ | exact bset (bset (by assumption) (by first | assumption | exact Nat.le_refl _) _) (by first | assumption | exact Nat.le_refl _) _) x3, cellB (by first | assumption | exact bdrew _ | exact Below.refl _ _ | exact balloc (bdrew _) _ | exact balloc (by assumption) _ | exact balloc (Below.refl _ _) _ | exact bset (bset (by assumption) (by first | assumption | exact Nat.le_refl _) _) (by first | assumption | exact Nat.le_refl _) _) y0, cellB (by first | assumption | exact bdrew _ | exact Below.refl _ _ | exact balloc (bdrew _) _ | exact balloc (by assumption) _ | exact balloc (Below.refl _ _) _ | exact bset (bset (by assumption) (by first | assumption | exact Nat.le_refl _) _) (by first | assumption | exact Nat.le_refl _) _) y1, cellB (by first | assumption | exact bdrew _ | exact Below.refl _ _ | exact balloc (bdrew _) _ | exact balloc (by assumption) _ | exact balloc (Below.refl _ _) _ | exact bset (bset (by assumption) (by first | assumption | exact Nat.le_refl _) _) (by first | assumption | exact Nat.le_refl _) _) y2, cellB (by first | assumption | exact bdrew _ | exact Below.refl _ _ | exact balloc (bdrew _) _ | exact balloc (by assumption) _ | exact balloc (Below.refl _ _) _ | exact bset (bset (by assumption) (by first | assumption | exact Nat.le_refl _) _) (by first | assumption | exact Nat.le_refl _) _) y3⟩
  clear hK K
  try simp only [Act.put]
  refine wpAnyH_ready (rs := [10]) (by kernel_rfl) (by simp) ?_
  refine AllReadyH.cons rfl (fun K hK => ?_) AllReadyH.nil
  go_simp
  refine (hS2 _ _ _ ?_ ?_).mono ?_
  · exact ⟨_, _, rfl, ha.below (by first | assumption | exact bdrew _ | exact Below.refl _ _ | exact balloc (bdrew _) _ | exact balloc (by assumption) _ | exact balloc (Below.refl _ _) _ | exact bset (bset (by assumption) (by first | assumption | exact Nat.le_refl _) _) (by first | assumption | exact Nat.le_refl _) _), hb.below (by first | assumption | exact bdrew _ | exact Below.refl _ _ | exact balloc (bdrew _) _ | exact balloc (by assumption) _ | exact balloc (Below.refl _ _) _ | exact bset (bset (by assumption) (by first | assumption | exact Nat.le_refl _) _) (by first | assumption | exact Nat.le_refl _) _)⟩
  · exact ⟨_, _, rfl, ha'.below (by first | assumption | exact bdrew _ | exact Below.refl _ _ | exact balloc (bdrew _) _ | exact balloc (by assumption) _ | exact balloc (Below.refl _ _) _ | exact bset (bset (by assumption) (by first | assumption | exact Nat.le_refl _) _) (by first | assumption | exact Nat.le_refl _) _), hb'.below (by first | assumption | exact bdrew _ | exact Below.refl _ _ | exact balloc (bdrew _) _ | exact balloc (by assumption) _ | exact balloc (Below.refl _ _) _ | exact bset (bset (by assumption) (by first | assumption | exact Nat.le_refl _) _) (by first | assumption | exact Nat.le_refl _) _)⟩
  rintro e w23 ⟨rfl, b23⟩
  have B23 := bstep (a := w3) (by first | assumption | exact bdrew _ | exact Below.refl _ _ | exact balloc (bdrew _) _ | exact balloc (by assumption) _ | exact balloc (Below.refl _ _) _ | exact bset (bset (by assumption) (by first | assumption | exact Nat.le_refl _) _) (by first | assumption | exact Nat.le_refl _) _) b23
  go_wp2_with fail
  refine hK.out _ _ ?_ (fun hHeld => ?_)
  · exact ⟨cellB (by first | assumption | exact bdrew _ | exact Below.refl _ _ | exact balloc (bdrew _) _ | exact balloc (by assumption) _ | exact balloc (Below.refl _ _) _ | exact bset (bset (by assumption) (by first | assumption | exact Nat.le_refl _) _) (by first | assumption | exact Nat.le_refl _) _) x0, cellB (by first | assumption | exact bdrew _ | exact Below.refl _ _ | exact balloc (bdrew _) _ | exact balloc (by assumption) _ | exact balloc (Below.refl _ _) _ | exact bset (bset (by assumption) (by first | assumption | exact Nat.le_refl _) _) (by first | assumption | exact Nat.le_refl _) _) x1, cellB (by first | assumption | exact bdrew _ | exact Below.refl _ _ | exact balloc (bdrew _) _ | exact balloc (by assumption) _ | exact balloc (Below.refl _ _) _ | exact bset (bset (by assumption) (by first | assumption | exact Nat.le_refl _) _) (by first | assumption | exact Nat.le_refl _) _) x2, cellB (by first | assumption | exact bdrew _ | exact Below.refl _ _ | exact balloc (bdrew _) _ | exact balloc (by assumption) _ | exact balloc (Below.refl _ _) _ | exact bset (bset (by assumption) (by first | assumption | exact Nat.le_refl _) _) (by first | assumption | exact Nat.le_refl _) _) x3, cellB (by first | assumption | exact bdrew _ | exact Below.refl _ _ | exact balloc (bdrew _) _ | exact balloc (by assumption) _ | exact balloc (Below.refl _ _) _ | exact bset (bset (by assumption) (by first | assumption | exact Nat.le_refl _) _) (by first | assumption | exact Nat.le_refl _) _) y0, cellB (by first | assumption | exact bdrew _ | exact Below.refl _ _ | exact balloc (bdrew _) _ | exact balloc (by assumption) _ | exact balloc (Below.refl _ _) _ | exact bset (bset (by assumption) (by first | assumption | exact Nat.le_refl _) _) (by first | assumption | exact Nat.le_refl _) _) y1, cellB (by first | assumption | exact bdrew _ | exact Below.refl _ _ | exact balloc (bdrew _) _ | exact balloc (by assumption) _ | exact balloc (Below.refl _ _) _ | exact bset (bset (by assumption) (by first | assumption | exact Nat.le_refl _) _) (by first | assumption | exact Nat.le_refl _) _) y2, cellB (by first | assumption | exact bdrew _ | exact Below.refl _ _ | exact balloc (bdrew _) _ | exact balloc (by assumption) _ | exact balloc (Below.refl _ _) _ | exact bset (bset (by assumption) (by first | assumption | exact Nat.le_refl _) _) (by first | assumption | exact Nat.le_refl _) _) y3⟩
  clear hK K
  try simp only [Act.put]
  refine wpAnyH_take (i := 11) (v := ?mv11) rfl (by kernel_rfl) (by kernel_rfl) (by kernel_rfl) (fun _ _ _ h => h) (Or.inl ⟨by kernel_rfl, ?mhy11⟩) (by assumption) ?mrest11
  case mhy11 => (intro w hSw; (try dsimp only at hSw); go_simp; try (with_reducible rfl))
  try simp only [Act.put]
  refine wpAnyH_take (i := 12) (v := ?mv12) rfl (by kernel_rfl) (by kernel_rfl) (by kernel_rfl) (fun _ _ _ h => h) (Or.inl ⟨by kernel_rfl, ?mhy12⟩) (by assumption) ?mrest12
  case mhy12 => (intro w hSw; (try dsimp only at hSw); go_simp; try (with_reducible rfl))
  try simp only [Act.put]
  refine wpAnyH_take (i := 13) (v := ?mv13) rfl (by kernel_rfl) (by kernel_rfl) (by kernel_rfl) (fun _ _ _ h => h) (Or.inl ⟨by kernel_rfl, ?mhy13⟩) (by assumption) ?mrest13
  case mhy13 => (intro w hSw; (try dsimp only at hSw); go_simp; try (with_reducible rfl))
  try simp only [Act.put]
  refine wpAnyH_take (i := 14) (v := ?mv14) rfl (by kernel_rfl) (by kernel_rfl) (by kernel_rfl) (fun _ _ _ h => h) (Or.inl ⟨by kernel_rfl, ?mhy14⟩) (by assumption) ?mrest14
  case mhy14 => (intro w hSw; (try dsimp only at hSw); go_simp; try (with_reducible rfl))
  try simp only [Act.put]
  refine wpAnyH_take (i := 16) (v := ?mv16) rfl (by kernel_rfl) (by kernel_rfl) (by kernel_rfl) (fun _ _ _ h => h) (Or.inl ⟨by kernel_rfl, ?mhy16⟩) (by assumption) ?mrest16
  case mhy16 => (intro w hSw; (try dsimp only at hSw); go_simp; try (with_reducible rfl))
  try simp only [Act.put]
  refine wpAnyH_ready (rs := [15]) (by kernel_rfl) (by simp) ?_
  refine AllReadyH.cons rfl (fun K hK => ?_) AllReadyH.nil
  go_simp
  refine (hN1 _ _ ?_).mono ?_
  · exact ⟨_, _, rfl, ha.below (by first | assumption | exact bdrew _ | exact Below.refl _ _ | exact balloc (bdrew _) _ | exact balloc (by assumption) _ | exact balloc (Below.refl _ _) _ | exact bset (bset (by assumption) (by first | assumption | exact Nat.le_refl _) _) (by first | assumption | exact Nat.le_refl _) _), hb.below (by first | assumption | exact bdrew _ | exact Below.refl _ _ | exact balloc (bdrew _) _ | exact balloc (by assumption) _ | exact balloc (Below.refl _ _) _ | exact bset (bset (by assumption) (by first | assumption | exact Nat.le_refl _) _) (by first | assumption | exact Nat.le_refl _) _)⟩
  rintro e w24 ⟨rfl, b24⟩
  have B24 := bstep (a := w3) (by first | assumption | exact bdrew _ | exact Below.refl _ _ | exact balloc (bdrew _) _ | exact balloc (by assumption) _ | exact balloc (Below.refl _ _) _ | exact bset (bset (by assumption) (by first | assumption | exact Nat.le_refl _) _) (by first | assumption | exact Nat.le_refl _) _) b24
  go_wp2_with fail
  refine hK.out _ _ ?_ (fun hHeld => ?_)
  · exact ⟨cellB (by first | assumption | exact bdrew _ | exact Below.refl _ _ | exact balloc (bdrew _) _ | exact balloc (by assumption) _ | exact balloc (Below.refl _ _) _ | exact bset (bset (by assumption) (by first | assumption | exact Nat.le_refl _) _) (by first | assumption | exact Nat.le_refl _) _) x0, cellB (by first | assumption | exact bdrew _ | exact Below.refl _ _ | exact balloc (bdrew _) _ | exact balloc (by assumption) _ | exact balloc (Below.refl _ _) _ | exact bset (bset (by assumption) (by first | assumption | exact Nat.le_refl _) _) (by first | assumption | exact Nat.le_refl _) _) x1, cellB (by first | assumption | exact bdrew _ | exact Below.refl _ _ | exact balloc (bdrew _) _ | exact balloc (by assumption) _ | exact balloc (Below.refl _ _) _ | exact bset (bset (by assumption) (by first | assumption | exact Nat.le_refl _) _) (by first | assumption | exact Nat.le_refl _) _) x2, cellB (by first | assumption | exact bdrew _ | exact Below.refl _ _ | exact balloc (bdrew _) _ | exact balloc (by assumption) _ | exact balloc (Below.refl _ _) _ | exact bset (bset (by assumption) (by first | assumption | exact Nat.le_refl _) _) (by first | assumption | exact Nat.le_refl _) _) x3, cellB (by first | assumption | exact bdrew _ | exact Below.refl _ _ | exact balloc (bdrew _) _ | exact balloc (by assumption) _ | exact balloc (Below.refl _ _) _ | exact bset (bset (by assumption) (by first | assumption | exact Nat.le_refl _) _) (by first | assumption | exact Nat.le_refl _) _) y0, cellB (by first | assumption | exact bdrew _ | exact Below.refl _ _ | exact balloc (bdrew _) _ | exact balloc (by assumption) _ | exact balloc (Below.refl _ _) _ | exact bset (bset (by assumption) (by first | assumption | exact Nat.le_refl _) _) (by first | assumption | exact Nat.le_refl _) _) y1, cellB (by first | assumption | exact bdrew _ | exact Below.refl _ _ | exact balloc (bdrew _) _ | exact balloc (by assumption) _ | exact balloc (Below.refl _ _) _ | exact bset (bset (by assumption) (by first | assumption | exact Nat.le_refl _) _) (by first | assumption | exact Nat.le_refl _) _) y2, cellB (by first | assumption | exact bdrew _ | exact Below.refl _ _ | exact balloc (bdrew _) _ | exact balloc (by assumption) _ | exact balloc (Below.refl _ _) _ | exact bset (bset (by assumption) (by first | assumption | exact Nat.le_refl _) _) (by first | assumption | exact Nat.le_refl _) _) y3⟩
  clear hK K
  try simp only [Act.put]
  refine wpAnyH_ready (rs := [17]) (by kernel_rfl) (by simp) ?_
  refine AllReadyH.cons rfl (fun K hK => ?_) AllReadyH.nil
  go_simp
  refine (hN2 _ _ ?_).mono ?_
  · exact ⟨_, _, rfl, ha.below (by first | assumption | exact bdrew _ | exact Below.refl _ _ | exact balloc (bdrew _) _ | exact balloc (by assumption) _ | exact balloc (Below.refl _ _) _ | exact bset (bset (by assumption) (by first | assumption | exact Nat.le_refl _) _) (by first | assumption | exact Nat.le_refl _) _), hb.below (by first | assumption | exact bdrew _ | exact Below.refl _ _ | exact balloc (bdrew _) _ | exact balloc (by assumption) _ | exact balloc (Below.refl _ _) _ | exact bset (bset (by assumption) (by first | assumption | exact Nat.le_refl _) _) (by first | assumption | exact Nat.le_refl _) _)⟩
  rintro e w25 ⟨rfl, b25⟩
  have B25 := bstep (a := w3) (by first | assumption | exact bdrew _ | exact Below.refl _ _ | exact balloc (bdrew _) _ | exact balloc (by assumption) _ | exact balloc (Below.refl _ _) _ | exact bset (bset (by assumption) (by first | assumption | exact Nat.le_refl _) _) (by first | assumption | exact Nat.le_refl _) _) b25
  go_wp2_with fail
  refine hK.out _ _ ?_ (fun hHeld => ?_)
  · exact ⟨cellB (by first | assumption | exact bdrew _ | exact Below.refl _ _ | exact balloc (bdrew _) _ | exact balloc (by assumption) _ | exact balloc (Below.refl _ _) _ | exact bset (bset (by assumption) (by first | assumption | exact Nat.le_refl _) _) (by first | assumption | exact Nat.le_refl _) _) x0, cellB (by first | assumption | exact bdrew _ | exact Below.refl _ _ | exact balloc (bdrew _) _ | exact balloc (by assumption) _ | exact balloc (Below.refl _ _) _ | exact bset (bset (by assumption) (by first | assumption | exact Nat.le_refl _) _) (by first | assumption | exact Nat.le_refl _) _) x1, cellB (by first | assumption | exact bdrew _ | exact Below.refl _ _ | exact balloc (bdrew _) _ | exact balloc (by assumption) _ | exact balloc (Below.refl _ _) _ | exact bset (bset (by assumption) (by first | assumption | exact Nat.le_refl _) _) (by first | assumption | exact Nat.le_refl _) _) x2, cellB (by first | assumption | exact bdrew _ | exact Below.refl _ _ | exact balloc (bdrew _) _ | exact balloc (by assumption) _ | exact balloc (Below.refl _ _) _ | exact bset (bset (by assumption) (by first | assumption | exact Nat.le_refl _) _) (by first | assumption | exact Nat.le_refl _) _) x3, cellB (by first | assumption | exact bdrew _ | exact Below.refl _ _ | exact balloc (bdrew _) _ | exact balloc (by assumption) _ | exact balloc (Below.refl _ _) _ | exact bset (bset (by assumption) (by first | assumption | exact Nat.le_refl _) _) (by first | assumption | exact Nat.le_refl _) _) y0, cellB (by first | assumption | exact bdrew _ | exact Below.refl _ _ | exact balloc (bdrew _) _ | exact balloc (by assumption) _ | exact balloc (Below.refl _ _) _ | exact bset (bset (by assumption) (by first | assumption | exact Nat.le_refl _) _) (by first | assumption | exact Nat.le_refl _) _) y1, cellB (by first | assumption | exact bdrew _ | exact Below.refl _ _ | exact balloc (bdrew _) _ | exact balloc (by assumption) _ | exact balloc (Below.refl _ _) _ | exact bset (bset (by assumption) (by first | assumption | exact Nat.le_refl _) _) (by first | assumption | exact Nat.le_refl _) _) y2, cellB (by first | assumption | exact bdrew _ | exact Below.refl _ _ | exact balloc (bdrew _) _ | exact balloc (by assumption) _ | exact balloc (Below.refl _ _) _ | exact bset (bset (by assumption) (by first | assumption | exact Nat.le_refl _) _) (by first | assumption | exact Nat.le_refl _) _) y3⟩
  clear hK K
  try simp only [Act.put]
  try dsimp only
  try simp only [Act.put]
  refine wpAnyH_take (i := 18) (v := ?mv18) rfl (by kernel_rfl) (by kernel_rfl) (by kernel_rfl) (fun _ _ _ h => h) (Or.inl ⟨by kernel_rfl, ?mhy18⟩) (by assumption) ?mrest18
  case mhy18 => (intro w hSw; (try dsimp only at hSw); go_simp; try (with_reducible rfl))
  try simp only [Act.put]
  try dsimp only
  try simp only [Act.put]
  refine wpAnyH_take (i := 19) (v := ?mv19) rfl (by kernel_rfl) (by kernel_rfl) (by kernel_rfl) (fun _ _ _ h => h) (Or.inl ⟨by kernel_rfl, ?mhy19⟩) (by assumption) ?mrest19
  case mhy19 => (intro w hSw; (try dsimp only at hSw); go_simp; try (with_reducible rfl))
  try simp only [Act.put]
  try dsimp only
  try simp only [Act.put]
  refine wpAnyH_done (by kernel_rfl) ?_ _
  refine NoPanic.normal ?_
  replace ha := ha.below B25
  replace hb := hb.below B25
  replace ha' := ha'.below B25
  replace hb' := hb'.below B25
  replace hX := hX.below B25 hX.lt
  replace hY := hY.below B25 hY.lt
  replace hB := hB.trans (B25.mono hB.size)
  clear c4_hX_0 c4_hX_1 c4_hX_2 c4_hX_3 c4_hY_0 c4_hY_1 c4_hY_2 c4_hY_3
  obtain ⟨c5_hX_0, c5_hX_1, c5_hX_2, c5_hX_3⟩ := hX.quad
  obtain ⟨c5_hY_0, c5_hY_1, c5_hY_2, c5_hY_3⟩ := hY.quad
  clear x0 x1 x2 x3 y0 y1 y2 y3
  obtain ⟨x0, x1, x2, x3⟩ := hX.quad
  obtain ⟨y0, y1, y2, y3⟩ := hY.quad
  go_upto_region 6 with fail
  refine wp_region_noPanic ?_
  refine wp_region_held_drew (S := fun w' => w'.cell? ⟨g, 0, none⟩ = some (.int .i64 k) ∧ w'.cell? ⟨g, 1, none⟩ = some (.int .i64 s) ∧ w'.cell? ⟨g, 2, none⟩ = some (.slice Aa cs.length Ca) ∧ w'.cell? ⟨g, 3, none⟩ = some (.slice Ab wd.length Cb) ∧ w'.cell? ⟨g + 1, 0, none⟩ = some (.int .i64 k') ∧ w'.cell? ⟨g + 1, 1, none⟩ = some (.int .i64 s') ∧ w'.cell? ⟨g + 1, 2, none⟩ = some (.slice Aa' cs'.length Ca') ∧ w'.cell? ⟨g + 1, 3, none⟩ = some (.slice Ab' wd'.length Cb')) (by kernel_rfl) ?_ (fun hHeld => ?_)
  · exact ⟨cellB (by first | assumption | exact bdrew _ | exact Below.refl _ _ | exact balloc (bdrew _) _ | exact balloc (by assumption) _ | exact balloc (Below.refl _ _) _ | exact bset (bset (by assumption) (by first | assumption | exact Nat.le_refl _) _) (by first | assumption | exact Nat.le_refl _) _) x0, cellB (by first | assumption | exact bdrew _ | exact Below.refl _ _ | exact balloc (bdrew _) _ | exact balloc (by assumption) _ | exact balloc (Below.refl _ _) _ | exact bset (bset (by assumption) (by first | assumption | exact Nat.le_refl _) _) (by first | assumption | exact Nat.le_refl _) _) x1, cellB (by first | assumption | exact bdrew _ | exact Below.refl _ _ | exact balloc (bdrew _) _ | exact balloc (by assumption) _ | exact balloc (Below.refl _ _) _ | exact bset (bset (by assumption) (by first | assumption | exact Nat.le_refl _) _) (by first | assumption | exact Nat.le_refl _) _) x2, cellB (by first | assumption | exact bdrew _ | exact Below.refl _ _ | exact balloc (bdrew _) _ | exact balloc (by assumption) _ | exact balloc (Below.refl _ _) _ | exact bset (bset (by assumption) (by first | assumption | exact Nat.le_refl _) _) (by first | assumption | exact Nat.le_refl _) _) x3, cellB (by first | assumption | exact bdrew _ | exact Below.refl _ _ | exact balloc (bdrew _) _ | exact balloc (by assumption) _ | exact balloc (Below.refl _ _) _ | exact bset (bset (by assumption) (by first | assumption | exact Nat.le_refl _) _) (by first | assumption | exact Nat.le_refl _) _) y0, cellB (by first | assumption | exact bdrew _ | exact Below.refl _ _ | exact balloc (bdrew _) _ | exact balloc (by assumption) _ | exact balloc (Below.refl _ _) _ | exact bset (bset (by assumption) (by first | assumption | exact Nat.le_refl _) _) (by first | assumption | exact Nat.le_refl _) _) y1, cellB (by first | assumption | exact bdrew _ | exact Below.refl _ _ | exact balloc (bdrew _) _ | exact balloc (by assumption) _ | exact balloc (Below.refl _ _) _ | exact bset (bset (by assumption) (by first | assumption | exact Nat.le_refl _) _) (by first | assumption | exact Nat.le_refl _) _) y2, cellB (by first | assumption | exact bdrew _ | exact Below.refl _ _ | exact balloc (bdrew _) _ | exact balloc (by assumption) _ | exact balloc (Below.refl _ _) _ | exact bset (bset (by assumption) (by first | assumption | exact Nat.le_refl _) _) (by first | assumption | exact Nat.le_refl _) _) y3⟩
  refine wpAnyH_ready (rs := [0]) (by kernel_rfl) (by simp) ?_
  refine AllReadyH.cons rfl (fun K hK => ?_) AllReadyH.nil
  go_simp
  refine (hL  _ ).mono ?_

  rintro e w31 ⟨rfl, b31⟩
  have B31 := bstep (a := w25) (by first | assumption | exact bdrew _ | exact Below.refl _ _ | exact balloc (bdrew _) _ | exact balloc (by assumption) _ | exact balloc (Below.refl _ _) _ | exact bset (bset (by assumption) (by first | assumption | exact Nat.le_refl _) _) (by first | assumption | exact Nat.le_refl _) _) b31
  go_wp2_with fail
  refine hK.out _ _ ?_ (fun hHeld => ?_)
  · exact ⟨cellB (by first | assumption | exact bdrew _ | exact Below.refl _ _ | exact balloc (bdrew _) _ | exact balloc (by assumption) _ | exact balloc (Below.refl _ _) _ | exact bset (bset (by assumption) (by first | assumption | exact Nat.le_refl _) _) (by first | assumption | exact Nat.le_refl _) _) x0, cellB (by first | assumption | exact bdrew _ | exact Below.refl _ _ | exact balloc (bdrew _) _ | exact balloc (by assumption) _ | exact balloc (Below.refl _ _) _ | exact bset (bset (by assumption) (by first | assumption | exact Nat.le_refl _) _) (by first | assumption | exact Nat.le_refl _) _) x1, cellB (by first | assumption | exact bdrew _ | exact Below.refl _ _ | exact balloc (bdrew _) _ | exact balloc (by assumption) _ | exact balloc (Below.refl _ _) _ | exact bset (bset (by assumption) (by first | assumption | exact Nat.le_refl _) _) (by first | assumption | exact Nat.le_refl _) _) x2, cellB (by first | assumption | exact bdrew _ | exact Below.refl _ _ | exact balloc (bdrew _) _ | exact balloc (by assumption) _ | exact balloc (Below.refl _ _) _ | exact bset (bset (by assumption) (by first | assumption | exact Nat.le_refl _) _) (by first | assumption | exact Nat.le_refl _) _) x3, cellB (by first | assumption | exact bdrew _ | exact Below.refl _ _ | exact balloc (bdrew _) _ | exact balloc (by assumption) _ | exact balloc (Below.refl _ _) _ | exact bset (bset (by assumption) (by first | assumption | exact Nat.le_refl _) _) (by first | assumption | exact Nat.le_refl _) _) y0, cellB (by first | assumption | exact bdrew _ | exact Below.refl _ _ | exact balloc (bdrew _) _ | exact balloc (by assumption) _ | exact balloc (Below.refl _ _) _ | exact bset (bset (by assumption) (by first | assumption | exact Nat.le_refl _) _) (by first | assumption | exact Nat.le_refl _) _) y1, cellB (by first | assumption | exact bdrew _ | exact Below.refl _ _ | exact balloc (bdrew _) _ | exact balloc (by assumption) _ | exact balloc (Below.refl _ _) _ | exact bset (bset (by assumption) (by first | assumption | exact Nat.le_refl _) _) (by first | assumption | exact Nat.le_refl _) _) y2, cellB (by first | assumption | exact bdrew _ | exact Below.refl _ _ | exact balloc (bdrew _) _ | exact balloc (by assumption) _ | exact balloc (Below.refl _ _) _ | exact bset (bset (by assumption) (by first | assumption | exact Nat.le_refl _) _) (by first | assumption | exact Nat.le_refl _) _) y3⟩
  clear hK K
  try simp only [Act.put]
  refine wpAnyH_take (i := 1) (v := ?nv1) rfl (by kernel_rfl) (by kernel_rfl) (by kernel_rfl) (fun _ _ _ h => h) (Or.inl ⟨by kernel_rfl, ?nhy1⟩) (by assumption) ?nrest1
  case nhy1 => (intro w hSw; (try dsimp only at hSw); go_simp; try (with_reducible rfl))
  try simp only [Act.put]
  refine wpAnyH_take (i := 2) (v := ?nv2) rfl (by kernel_rfl) (by kernel_rfl) (by kernel_rfl) (fun _ _ _ h => h) (Or.inl ⟨by kernel_rfl, ?nhy2⟩) (by assumption) ?nrest2
  case nhy2 => (intro w hSw; (try dsimp only at hSw); go_simp; try (with_reducible rfl))
  try simp only [Act.put]
  refine wpAnyH_take (i := 3) (v := ?nv3) rfl (by kernel_rfl) (by kernel_rfl) (by kernel_rfl) (fun _ _ _ h => h) (Or.inl ⟨by kernel_rfl, ?nhy3⟩) (by assumption) ?nrest3
  case nhy3 => (intro w hSw; (try dsimp only at hSw); go_simp; try (with_reducible rfl))
  try simp only [Act.put]
  refine wpAnyH_take (i := 4) (v := ?nv4) rfl (by kernel_rfl) (by kernel_rfl) (by kernel_rfl) (fun _ _ _ h => h) (Or.inl ⟨by kernel_rfl, ?nhy4⟩) (by assumption) ?nrest4
  case nhy4 => (intro w hSw; (try dsimp only at hSw); go_simp; try (with_reducible rfl))
  try simp only [Act.put]
  refine wpAnyH_take (i := 5) (v := ?nv5) rfl (by kernel_rfl) (by kernel_rfl) (by kernel_rfl) (fun _ _ _ h => h) (Or.inl ⟨by kernel_rfl, ?nhy5⟩) (by assumption) ?nrest5
  case nhy5 => (intro w hSw; (try dsimp only at hSw); go_simp; try (with_reducible rfl))
  try simp only [Act.put]
  refine wpAnyH_take (i := 7) (v := ?nv7) rfl (by kernel_rfl) (by kernel_rfl) (by kernel_rfl) (fun _ _ _ h => h) (Or.inl ⟨by kernel_rfl, ?nhy7⟩) (by assumption) ?nrest7
  case nhy7 => (intro w hSw; (try dsimp only at hSw); go_simp; try (with_reducible rfl))
  try simp only [Act.put]
  refine wpAnyH_ready (rs := [6]) (by kernel_rfl) (by simp) ?_
  refine AllReadyH.cons rfl (fun K hK => ?_) AllReadyH.nil
  go_simp
  refine (hLd _ _ ?_).mono ?_
  · exact ⟨_, _, rfl, ha.below (by first | assumption | exact bdrew _ | exact Below.refl _ _ | exact balloc (bdrew _) _ | exact balloc (by assumption) _ | exact balloc (Below.refl _ _) _ | exact bset (bset (by assumption) (by first | assumption | exact Nat.le_refl _) _) (by first | assumption | exact Nat.le_refl _) _), hb.below (by first | assumption | exact bdrew _ | exact Below.refl _ _ | exact balloc (bdrew _) _ | exact balloc (by assumption) _ | exact balloc (Below.refl _ _) _ | exact bset (bset (by assumption) (by first | assumption | exact Nat.le_refl _) _) (by first | assumption | exact Nat.le_refl _) _)⟩
  rintro e w32 ⟨v32, rfl, h32, b32⟩
  have B32 := bstep (a := w25) (by first | assumption | exact bdrew _ | exact Below.refl _ _ | exact balloc (bdrew _) _ | exact balloc (by assumption) _ | exact balloc (Below.refl _ _) _ | exact bset (bset (by assumption) (by first | assumption | exact Nat.le_refl _) _) (by first | assumption | exact Nat.le_refl _) _) b32
  obtain ⟨A8, C8, rfl, _, _⟩ := id h32.form
  go_wp2_with fail
  refine hK.out _ _ ?_ (fun hHeld => ?_)
  · exact ⟨cellB (by first | assumption | exact bdrew _ | exact Below.refl _ _ | exact balloc (bdrew _) _ | exact balloc (by assumption) _ | exact balloc (Below.refl _ _) _ | exact bset (bset (by assumption) (by first | assumption | exact Nat.le_refl _) _) (by first | assumption | exact Nat.le_refl _) _) x0, cellB (by first | assumption | exact bdrew _ | exact Below.refl _ _ | exact balloc (bdrew _) _ | exact balloc (by assumption) _ | exact balloc (Below.refl _ _) _ | exact bset (bset (by assumption) (by first | assumption | exact Nat.le_refl _) _) (by first | assumption | exact Nat.le_refl _) _) x1, cellB (by first | assumption | exact bdrew _ | exact Below.refl _ _ | exact balloc (bdrew _) _ | exact balloc (by assumption) _ | exact balloc (Below.refl _ _) _ | exact bset (bset (by assumption) (by first | assumption | exact Nat.le_refl _) _) (by first | assumption | exact Nat.le_refl _) _) x2, cellB (by first | assumption | exact bdrew _ | exact Below.refl _ _ | exact balloc (bdrew _) _ | exact balloc (by assumption) _ | exact balloc (Below.refl _ _) _ | exact bset (bset (by assumption) (by first | assumption | exact Nat.le_refl _) _) (by first | assumption | exact Nat.le_refl _) _) x3, cellB (by first | assumption | exact bdrew _ | exact Below.refl _ _ | exact balloc (bdrew _) _ | exact balloc (by assumption) _ | exact balloc (Below.refl _ _) _ | exact bset (bset (by assumption) (by first | assumption | exact Nat.le_refl _) _) (by first | assumption | exact Nat.le_refl _) _) y0, cellB (by first | assumption | exact bdrew _ | exact Below.refl _ _ | exact balloc (bdrew _) _ | exact balloc (by assumption) _ | exact balloc (Below.refl _ _) _ | exact bset (bset (by assumption) (by first | assumption | exact Nat.le_refl _) _) (by first | assumption | exact Nat.le_refl _) _) y1, cellB (by first | assumption | exact bdrew _ | exact Below.refl _ _ | exact balloc (bdrew _) _ | exact balloc (by assumption) _ | exact balloc (Below.refl _ _) _ | exact bset (bset (by assumption) (by first | assumption | exact Nat.le_refl _) _) (by first | assumption | exact Nat.le_refl _) _) y2, cellB (by first | assumption | exact bdrew _ | exact Below.refl _ _ | exact balloc (bdrew _) _ | exact balloc (by assumption) _ | exact balloc (Below.refl _ _) _ | exact bset (bset (by assumption) (by first | assumption | exact Nat.le_refl _) _) (by first | assumption | exact Nat.le_refl _) _) y3⟩
  clear hK K
  try simp only [Act.put]
  refine wpAnyH_ready (rs := [8]) (by kernel_rfl) (by simp) ?_
  refine AllReadyH.cons rfl (fun K hK => ?_) AllReadyH.nil
  go_simp
  refine (hRd _ _ ?_).mono ?_
  · exact ⟨_, _, rfl, ha.below (by first | assumption | exact bdrew _ | exact Below.refl _ _ | exact balloc (bdrew _) _ | exact balloc (by assumption) _ | exact balloc (Below.refl _ _) _ | exact bset (bset (by assumption) (by first | assumption | exact Nat.le_refl _) _) (by first | assumption | exact Nat.le_refl _) _), hb.below (by first | assumption | exact bdrew _ | exact Below.refl _ _ | exact balloc (bdrew _) _ | exact balloc (by assumption) _ | exact balloc (Below.refl _ _) _ | exact bset (bset (by assumption) (by first | assumption | exact Nat.le_refl _) _) (by first | assumption | exact Nat.le_refl _) _)⟩
  rintro e w33 ⟨v33, rfl, h33, b33⟩
  have B33 := bstep (a := w25) (by first | assumption | exact bdrew _ | exact Below.refl _ _ | exact balloc (bdrew _) _ | exact balloc (by assumption) _ | exact balloc (Below.refl _ _) _ | exact bset (bset (by assumption) (by first | assumption | exact Nat.le_refl _) _) (by first | assumption | exact Nat.le_refl _) _) b33
  replace h32 := h32.below b33
  obtain ⟨A9, C9, rfl, _, _⟩ := id h33.form
  go_wp2_with fail
  refine hK.out _ _ ?_ (fun hHeld => ?_)
  · exact ⟨cellB (by first | assumption | exact bdrew _ | exact Below.refl _ _ | exact balloc (bdrew _) _ | exact balloc (by assumption) _ | exact balloc (Below.refl _ _) _ | exact bset (bset (by assumption) (by first | assumption | exact Nat.le_refl _) _) (by first | assumption | exact Nat.le_refl _) _) x0, cellB (by first | assumption | exact bdrew _ | exact Below.refl _ _ | exact balloc (bdrew _) _ | exact balloc (by assumption) _ | exact balloc (Below.refl _ _) _ | exact bset (bset (by assumption) (by first | assumption | exact Nat.le_refl _) _) (by first | assumption | exact Nat.le_refl _) _) x1, cellB (by first | assumption | exact bdrew _ | exact Below.refl _ _ | exact balloc (bdrew _) _ | exact balloc (by assumption) _ | exact balloc (Below.refl _ _) _ | exact bset (bset (by assumption) (by first | assumption | exact Nat.le_refl _) _) (by first | assumption | exact Nat.le_refl _) _) x2, cellB (by first | assumption | exact bdrew _ | exact Below.refl _ _ | exact balloc (bdrew _) _ | exact balloc (by assumption) _ | exact balloc (Below.refl _ _) _ | exact bset (bset (by assumption) (by first | assumption | exact Nat.le_refl _) _) (by first | assumption | exact Nat.le_refl _) _) x3, cellB (by first | assumption | exact bdrew _ | exact Below.refl _ _ | exact balloc (bdrew _) _ | exact balloc (by assumption) _ | exact balloc (Below.refl _ _) _ | exact bset (bset (by assumption) (by first | assumption | exact Nat.le_refl _) _) (by first | assumption | exact Nat.le_refl _) _) y0, cellB (by first | assumption | exact bdrew _ | exact Below.refl _ _ | exact balloc (bdrew _) _ | exact balloc (by assumption) _ | exact balloc (Below.refl _ _) _ | exact bset (bset (by assumption) (by first | assumption | exact Nat.le_refl _) _) (by first | assumption | exact Nat.le_refl _) _) y1, cellB (by first | assumption | exact bdrew _ | exact Below.refl _ _ | exact balloc (bdrew _) _ | exact balloc (by assumption) _ | exact balloc (Below.refl _ _) _ | exact bset (bset (by assumption) (by first | assumption | exact Nat.le_refl _) _) (by first | assumption | exact Nat.le_refl _) _) y2, cellB (by first | assumption | exact bdrew _ | exact Below.refl _ _ | exact balloc (bdrew _) _ | exact balloc (by assumption) _ | exact balloc (Below.refl _ _) _ | exact bset (bset (by assumption) (by first | assumption | exact Nat.le_refl _) _) (by first | assumption | exact Nat.le_refl _) _) y3⟩
  clear hK K
  try simp only [Act.put]
  refine wpAnyH_ready (rs := [9]) (by kernel_rfl) (by simp) ?_
  refine AllReadyH.cons rfl (fun K hK => ?_) AllReadyH.nil
  go_simp
  refine (same_any _ _ M M _ ?_ ?_).mono ?_
  · exact h32
  · exact h33
  rintro e w34 ⟨rfl, n34, hn34⟩
  have b34 := Below.refl w33.heap.size w33
  replace b34 : Below w33.heap.size w33 w34 := by rw [hn34]; exact below_drewN b34 n34
  clear hn34
  have B34 := bstep (a := w25) (by first | assumption | exact bdrew _ | exact Below.refl _ _ | exact balloc (bdrew _) _ | exact balloc (by assumption) _ | exact balloc (Below.refl _ _) _ | exact bset (bset (by assumption) (by first | assumption | exact Nat.le_refl _) _) (by first | assumption | exact Nat.le_refl _) _) b34
  rw [decide_eq_true (rfl : M = M)]
  go_wp2_with fail
  refine hK.out _ _ ?_ (fun hHeld => ?_)
  · exact ⟨cellB (by first | assumption | exact bdrew _ | exact Below.refl _ _ | exact balloc (bdrew _) _ | exact balloc (by assumption) _ | exact balloc (Below.refl _ _) _ | exact bset (bset (by assumption) (by first | assumption | exact Nat.le_refl _) _) (by first | assumption | exact Nat.le_refl _) _) x0, cellB (by first | assumption | exact bdrew _ | exact Below.refl _ _ | exact balloc (bdrew _) _ | exact balloc (by assumption) _ | exact balloc (Below.refl _ _) _ | exact bset (bset (by assumption) (by first | assumption | exact Nat.le_refl _) _) (by first | assumption | exact Nat.le_refl _) _) x1, cellB (by first | assumption | exact bdrew _ | exact Below.refl _ _ | exact balloc (bdrew _) _ | exact balloc (by assumption) _ | exact balloc (Below.refl _ _) _ | exact bset (bset (by assumption) (by first | assumption | exact Nat.le_refl _) _) (by first | assumption | exact Nat.le_refl _) _) x2, cellB (by first | assumption | exact bdrew _ | exact Below.refl _ _ | exact balloc (bdrew _) _ | exact balloc (by assumption) _ | exact balloc (Below.refl _ _) _ | exact bset (bset (by assumption) (by first | assumption | exact Nat.le_refl _) _) (by first | assumption | exact Nat.le_refl _) _) x3, cellB (by first | assumption | exact bdrew _ | exact Below.refl _ _ | exact balloc (bdrew _) _ | exact balloc (by assumption) _ | exact balloc (Below.refl _ _) _ | exact bset (bset (by assumption) (by first | assumption | exact Nat.le_refl _) _) (by first | assumption | exact Nat.le_refl _) _) y0, cellB (by first | assumption | exact bdrew _ | exact Below.refl _ _ | exact balloc (bdrew _) _ | exact balloc (by assumption) _ | exact balloc (Below.refl _ _) _ | exact bset (bset (by assumption) (by first | assumption | exact Nat.le_refl _) _) (by first | assumption | exact Nat.le_refl _) _) y1, cellB (by first | assumption | exact bdrew _ | exact Below.refl _ _ | exact balloc (bdrew _) _ | exact balloc (by assumption) _ | exact balloc (Below.refl _ _) _ | exact bset (bset (by assumption) (by first | assumption | exact Nat.le_refl _) _) (by first | assumption | exact Nat.le_refl _) _) y2, cellB (by first | assumption | exact bdrew _ | exact Below.refl _ _ | exact balloc (bdrew _) _ | exact balloc (by assumption) _ | exact balloc (Below.refl _ _) _ | exact bset (bset (by assumption) (by first | assumption | exact Nat.le_refl _) _) (by first | assumption | exact Nat.le_refl _) _) y3⟩
  clear hK K
  try simp only [Act.put]
  refine wpAnyH_take (i := 10) (v := ?nv10) rfl (by kernel_rfl) (by kernel_rfl) (by kernel_rfl) (fun _ _ _ h => h) (Or.inl ⟨by kernel_rfl, ?nhy10⟩) (by assumption) ?nrest10
  case nhy10 => (intro w hSw; (try dsimp only at hSw); go_simp; try (with_reducible rfl))
  try simp only [Act.put]
  try dsimp only
  try simp only [Act.put]
  refine wpAnyH_take (i := 11) (v := ?nv11) rfl (by kernel_rfl) (by kernel_rfl) (by kernel_rfl) (fun _ _ _ h => h) (Or.inl ⟨by kernel_rfl, ?nhy11⟩) (by assumption) ?nrest11
  case nhy11 => (intro w hSw; (try dsimp only at hSw); go_simp; try (with_reducible rfl))
  try simp only [Act.put]
  try dsimp only
  try simp only [Act.put]
  refine wpAnyH_take (i := 12) (v := ?nv12) rfl (by kernel_rfl) (by kernel_rfl) (by kernel_rfl) (fun _ _ _ h => h) (Or.inl ⟨by kernel_rfl, ?nhy12⟩) (by assumption) ?nrest12
  case nhy12 => (intro w hSw; (try dsimp only at hSw); go_simp; try (with_reducible rfl))
  try simp only [Act.put]
  try dsimp only
  try simp only [Act.put]
  refine wpAnyH_done (by kernel_rfl) ?_ _
  refine NoPanic.normal ?_
  go_wp2
  go_ret
  rename_i a1_ d1_ e1_ a2_ d2_ e2_
  obtain rfl : 4 = d1_ := Option.some.inj e1_
  obtain rfl : 48 = d2_ := Option.some.inj e2_
  exact ⟨by first | rfl | (simp; done) | (simp [*]; done), hB.trans (B34.mono hB.size)⟩
theorem BlockTells_all (u v : Value) (k s : Int) (cs : List Nat) (wd : List Int) (k' s' : Int) (cs' : List Nat) (wd' : List Int) (w : World) (hu : IsBk w u k s cs wd) (hv : IsBk w v k' s' cs' wd') (l1 : cs.length ≤ 140737488351232) (l2 : wd.length ≤ 17592186044416) (l3 : cs'.length ≤ 140737488351232) (l4 : wd'.length ≤ 17592186044416) (is : I64 s) :
    Calls Tryz.prog 3 #[u, v] w fun e w' => e = .returned (.bool true) ∧ Below w.heap.size w w' := by
  by_cases h : (cs.length : Int) + wd.length ≤ 20
  · by_cases h' : (cs'.length : Int) + wd'.length ≤ 20
    · cases hr : blkR k s cs wd
      · exact BlockTells_no u v k s cs wd k' s' cs' wd' w hu hv l1 l2 l3 l4 h h' hr
      · rcases blkR_cases hr with rfl | ⟨n, hn, rfl, hs, rfl⟩
        · exact BlockTells_yes u v 4 s cs wd k' s' cs' wd' w hu hv l1 l2 l3 l4 h h' hr wd (fun v w h => load_wide v 4 s cs wd w h rfl l2) (fun v w h => rload_wide v s cs wd w h (by omega))
        · exact BlockTells_yes u v n s cs [] k' s' cs' wd' w hu hv l1 l2 l3 l4 h h' hr (loadC n s cs) (fun v w h => load_coded v n s cs [] w h hn hs is.2 (by simp at *; omega)) (fun v w h => rload_coded v n s cs [] w hn hs is.2 (by simp at *; omega) h)
    · exact BlockTells_b u v k s cs wd k' s' cs' wd' w hu hv l1 l2 l3 l4 h h'
  · exact BlockTells_a u v k s cs wd k' s' cs' wd' w hu hv l1 l2 l3 l4 h
end Go.Proofs.YtgcebmgmmhdcpaaGreat
