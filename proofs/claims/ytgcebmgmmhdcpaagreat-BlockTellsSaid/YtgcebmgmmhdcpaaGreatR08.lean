/- The document's layer 8: sums, differences, products by rationals. Printed by gen_r08.py. -/
import Derived.Test.YtgcebmgmmhdcpaaGreatNear
import Derived.Test.YtgcebmgmmhdcpaaGreatIn64
import Derived.Test.YtgcebmgmmhdcpaaGreatMath
namespace Go.Proofs.YtgcebmgmmhdcpaaGreat
open Go.RowKit
attribute [local go_sem ↓] Go.wp_at_zero Go.wp_at_succ

set_option maxHeartbeats 2000000 in
theorem r08near_any (v : Value) (r : Rat) (k : Nat) (w : World) (h : IsQ w v r) (hk : k ≤ 2000) (sr : BQ r 100) :
    Calls Tryz.prog 53 #[v, .int .i64 k] w fun e w' => e = .returned (.tuple #[.int .i64 (fitV (nearQ r k)), .int .i64 (fitE (nearQ r k))]) ∧ Below w.heap.size w w' := by
  have hN := fun w h => qnear_any v r k w h hk sr
  have hI := fun u w h => rzint_any u (nearQ r k) w h
  have hv := h
  obtain ⟨pv, qv, rfl, hp, hq⟩ := h
  obtain ⟨Ap, Lp, Cp, rfl⟩ := hp.frm
  obtain ⟨Aq, Lq, Cq, rfl⟩ := hq.frm
  rw [fitE_eq]
  have hz : fitB (nearQ r k) = false → fitV (nearQ r k) = 0 := fun h => by
    unfold fitB at h; unfold fitV; rw [if_neg (by simpa using h)]
  generalize nearQ r k = z at *
  generalize fitV z = n at *
  generalize hb : fitB z = b at *
  clear hb hp hq sr
  rcases b with _ | _
  · have hz := hz rfl
    subst hz
    obtain ⟨W0, hW, hR, hB⟩ := box1 w 74 #[.bool (decide (r.num < 0)), .slice Ap Lp Cp, .slice Aq Lq Cq]
    obtain ⟨g, hg⟩ : ∃ g, g = w.heap.size := ⟨_, rfl⟩
    have hW' := Lib.hid (And.intro hW hg)
    rw [← hg] at hR
    have hgw : w.heap.size ≤ g := by omega
    clear hW hg
    have hA := hR
    replace hv := hv.below hB
    obtain ⟨c1_hA_0, c1_hA_1, c1_hA_2⟩ := hA.cells3
    go_enter Tryz.func53, Tryz.ntmps53
    go_wp2_with fail
    rw [← hW'.out.1, ← hW'.out.2]
    refine (hN _ hv).mono ?_
    rintro e w1 ⟨v1, rfl, h1, b1⟩
    replace hv := hv.below b1
    replace hA := hA.below b1 hA.lt
    replace hB := hB.trans (b1.mono hB.size)
    clear c1_hA_0 c1_hA_1 c1_hA_2
    obtain ⟨c2_hA_0, c2_hA_1, c2_hA_2⟩ := hA.cells3
    obtain ⟨n1, rfl, e1⟩ := (id h1 : IsZ _ _ _)
    obtain ⟨A1, L1, C1, rfl⟩ := e1.frm
    clear e1
    obtain ⟨V1, eV, bZ, bV1⟩ := box1 w1 41 #[.bool (decide (z < 0)), .slice A1 L1 C1]
    obtain ⟨X1, eX⟩ : ∃ X, X = w1.heap.size := ⟨_, rfl⟩
    rw [← eX] at bZ
    have EV1 := Lib.hid (And.intro eV eX)
    clear eV eX
    go_upto_region 2 with fail
    rw [← EV1.out.1, ← EV1.out.2]
    replace hv := hv.below bV1
    replace hA := hA.below bV1 hA.lt
    replace h1 := h1.below bV1
    replace hB := hB.trans (bV1.mono hB.size)
    clear c2_hA_0 c2_hA_1 c2_hA_2
    obtain ⟨c3_hA_0, c3_hA_1, c3_hA_2⟩ := hA.cells3
    clear c3_hA_0 c3_hA_1 c3_hA_2
    obtain ⟨c4_hA_0, c4_hA_1, c4_hA_2⟩ := hA.cells3
    obtain ⟨c4_bZ_0, c4_bZ_1⟩ := bZ.cells2
    go_wp2_with fail
    refine (hI _ _ h1).mono ?_
    rintro e w2 ⟨rfl, b2⟩
    replace hv := hv.below b2
    replace hA := hA.below b2 hA.lt
    replace h1 := h1.below b2
    replace bZ := bZ.below b2 bZ.lt
    replace hB := hB.trans (b2.mono hB.size)
    clear c4_hA_0 c4_hA_1 c4_hA_2 c4_bZ_0 c4_bZ_1
    obtain ⟨c5_hA_0, c5_hA_1, c5_hA_2⟩ := hA.cells3
    obtain ⟨c5_bZ_0, c5_bZ_1⟩ := bZ.cells2
    go_wp2
    go_ret2
    exact ⟨rfl, hB⟩
  · clear hz
    obtain ⟨W0, hW, hR, hB⟩ := box1 w 74 #[.bool (decide (r.num < 0)), .slice Ap Lp Cp, .slice Aq Lq Cq]
    obtain ⟨g, hg⟩ : ∃ g, g = w.heap.size := ⟨_, rfl⟩
    have hW' := Lib.hid (And.intro hW hg)
    rw [← hg] at hR
    have hgw : w.heap.size ≤ g := by omega
    clear hW hg
    have hA := hR
    replace hv := hv.below hB
    obtain ⟨c1_hA_0, c1_hA_1, c1_hA_2⟩ := hA.cells3
    go_enter Tryz.func53, Tryz.ntmps53
    go_wp2_with fail
    rw [← hW'.out.1, ← hW'.out.2]
    refine (hN _ hv).mono ?_
    rintro e w1 ⟨v1, rfl, h1, b1⟩
    replace hv := hv.below b1
    replace hA := hA.below b1 hA.lt
    replace hB := hB.trans (b1.mono hB.size)
    clear c1_hA_0 c1_hA_1 c1_hA_2
    obtain ⟨c2_hA_0, c2_hA_1, c2_hA_2⟩ := hA.cells3
    obtain ⟨n1, rfl, e1⟩ := (id h1 : IsZ _ _ _)
    obtain ⟨A1, L1, C1, rfl⟩ := e1.frm
    clear e1
    obtain ⟨V1, eV, bZ, bV1⟩ := box1 w1 41 #[.bool (decide (z < 0)), .slice A1 L1 C1]
    obtain ⟨X1, eX⟩ : ∃ X, X = w1.heap.size := ⟨_, rfl⟩
    rw [← eX] at bZ
    have EV1 := Lib.hid (And.intro eV eX)
    clear eV eX
    go_upto_region 2 with fail
    rw [← EV1.out.1, ← EV1.out.2]
    replace hv := hv.below bV1
    replace hA := hA.below bV1 hA.lt
    replace h1 := h1.below bV1
    replace hB := hB.trans (bV1.mono hB.size)
    clear c2_hA_0 c2_hA_1 c2_hA_2
    obtain ⟨c3_hA_0, c3_hA_1, c3_hA_2⟩ := hA.cells3
    clear c3_hA_0 c3_hA_1 c3_hA_2
    obtain ⟨c4_hA_0, c4_hA_1, c4_hA_2⟩ := hA.cells3
    obtain ⟨c4_bZ_0, c4_bZ_1⟩ := bZ.cells2
    go_wp2_with fail
    refine (hI _ _ h1).mono ?_
    rintro e w2 ⟨rfl, b2⟩
    replace hv := hv.below b2
    replace hA := hA.below b2 hA.lt
    replace h1 := h1.below b2
    replace bZ := bZ.below b2 bZ.lt
    replace hB := hB.trans (b2.mono hB.size)
    clear c4_hA_0 c4_hA_1 c4_hA_2 c4_bZ_0 c4_bZ_1
    obtain ⟨c5_hA_0, c5_hA_1, c5_hA_2⟩ := hA.cells3
    obtain ⟨c5_bZ_0, c5_bZ_1⟩ := bZ.cells2
    go_wp2
    go_ret2
    exact ⟨rfl, hB⟩
end Go.Proofs.YtgcebmgmmhdcpaaGreat
