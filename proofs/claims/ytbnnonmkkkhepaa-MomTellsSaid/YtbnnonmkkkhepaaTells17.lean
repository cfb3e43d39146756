/- Which Moms are right, and a step of rows, or why there is none, are as the document says. No conditions: every input. Printed by gen_tells17c.py. -/
import Derived.Test.YtbnnonmkkkhepaaTells17b
import Derived.Deep.RegionHeld3
import Derived.Deep.DrawnRows
namespace Go.Proofs.Ytbnnonmkkkhepaa
open Go.ChangeShapes Go.WideShapes Go.ChangeAt Go.RowKit
attribute [local go_sem ↓] Go.wp_at_zero Go.wp_at_succ
theorem Step17_all (lr mu wd f : Int) (nest : Bool) (v : Value) (W M V G : List Int) (w : World) (h : IsR w v W M V G) (hn : W.length ≤ 1000000)
    (hlr : In64 lr) (hmu : In64 mu) (hwd : In64 wd) (iW : AllIn W) (iM : AllIn M) (iG : AllIn G) :
    Calls Try.prog 11 #[.agg #[.int .i64 lr, .int .i64 mu, .int .i64 wd, .bool nest], .int .i64 f, v] w fun x w' =>
      ∃ r, x = .returned (.tuple #[r, .int .i64 (stErr lr mu wd nest f W M G)]) ∧ IsR w' r (stWs lr mu wd nest f W M G) (stMs lr mu wd nest f W M G) [] [] ∧ Below w.heap.size w w' := by
  obtain ⟨a, b, c, d, rfl, ha, hb, hc, hd⟩ := h
  by_cases hr : rightM lr mu wd f = true
  · by_cases hs : M.length = W.length ∧ G.length = W.length
    · obtain ⟨f0, f1⟩ := rightM_f hr
      obtain ⟨n, rfl⟩ := Int.eq_ofNat_of_zero_le f0
      refine (Step17_run lr mu wd nest n a b c d W M G w ha hb hd hlr hmu hwd iW iM iG hr hs.1 hs.2 hn).mono ?_
      rintro x w' ⟨h1, h2, hB⟩
      unfold stWs stMs stErr
      rw [if_pos hr, if_pos hs, Int.toNat_natCast]
      by_cases he : errTo lr mu wd nest n W M G W.length = 0
      · obtain ⟨r, e, k1⟩ := h2 he
        rw [if_pos he, if_pos rfl, if_pos rfl]
        exact ⟨r, e, k1, hB⟩
      · rw [if_neg he, if_neg (by decide), if_neg (by decide)]
        exact ⟨_, h1 he, IsR.nils _, hB⟩
    · refine (Step17_shape lr mu wd f nest a b c d W M G w ha hb hd hr hs).mono ?_
      rintro x w' ⟨e, hB⟩
      unfold stWs stMs stErr
      rw [if_pos hr, if_neg hs, if_neg (by decide), if_neg (by decide)]
      exact ⟨_, e, IsR.nils _, hB⟩
  · refine (Step17_wrong lr mu wd f nest a b c d W w ha (by simpa using hr)).mono ?_
    rintro x w' ⟨e, hB⟩
    unfold stWs stMs stErr
    rw [if_neg hr, if_neg (by decide), if_neg (by decide)]
    exact ⟨_, e, IsR.nils _, hB⟩
theorem frmT {w : World} {v : Value} {l : List Int} (h : IsI w v l) : ∃ A C, v = .slice A l.length C := by obtain ⟨A, C, e, _⟩ := h; exact ⟨A, C, e⟩
theorem cellT {w w' : World} {a : Addr} {v : Value} (h : Below w.heap.size w w') (hc : w.cell? a = some v) : w'.cell? a = some v := (h.cell (World.block_lt_of_cell? w _ hc)).trans hc
set_option maxRecDepth 100000 in
set_option maxHeartbeats 16000000 in
theorem MomTells_all (lr mu wd f : Int) (nest : Bool) (v : Value) (A B C D : List Int) (w : World) (h : IsR w v A B C D) (hlr : In64 lr) (hmu : In64 mu) (hwd : In64 wd) (hfr : In64 f) (iA : AllIn A) (iB : AllIn B) (iD : AllIn D)
    (k1 : A.length ≤ 17592186044416) (k2 : B.length ≤ 17592186044416) (k3 : C.length ≤ 17592186044416) (k4 : D.length ≤ 17592186044416) :
    Calls Try.prog 3 #[.agg #[.int .i64 lr, .int .i64 mu, .int .i64 wd, .bool nest], v, .int .i64 f] w fun e w' => e = .returned (.bool true) ∧ Below w.heap.size w w' := by
  have hF := fun w h => few17_any v A B C D 36 w h k1 k2 k3 k4 (by omega)
  have hL := fun w => alive17_any w
  have hv := h
  obtain ⟨a, b, c, d, rfl, ha, hb, hc, hd⟩ := h
  obtain ⟨Aa, Ca, rfl⟩ := frmT ha
  obtain ⟨Ab, Cb, rfl⟩ := frmT hb
  obtain ⟨Ac, Cc, rfl⟩ := frmT hc
  obtain ⟨Ad, Cd, rfl⟩ := frmT hd
  clear ha hb hc hd
  by_cases hfew : A.length + B.length + C.length + D.length ≤ 36
  · rw [decide_eq_true hfew] at hF
    have hS := fun v w h => Step_all lr mu wd f nest v A B C D w h (by omega) hlr hmu hwd iA iB iD
    have hT := fun v w h => Step17_all lr mu wd f nest v A B C D w h (by omega) hlr hmu hwd iA iB iD
    have hR1 := fun w => right_any lr mu wd f nest w
    have hR2 := fun w => right17_any lr mu wd f nest w
    generalize stWs lr mu wd nest f A B D = xs at *
    generalize stMs lr mu wd nest f A B D = ys at *
    generalize stErr lr mu wd nest f A B D = er at *
    generalize rightM lr mu wd f = rm at *
    have hM := fun u u' w h h' => same17_any u u' xs ys [] [] xs ys [] [] w h h'
    clear hfew k1 k2 k3 k4 hlr hmu hwd hfr iA iB iD
    obtain ⟨W0, hW, hT, hB⟩ := box2 w 23 26 #[.int .i64 lr, .int .i64 mu, .int .i64 wd, .bool nest] #[.slice Aa A.length Ca, .slice Ab B.length Cb, .slice Ac C.length Cc, .slice Ad D.length Cd]
    obtain ⟨g, hg⟩ : ∃ g, g = w.heap.size := ⟨_, rfl⟩
    have hW' := Lib.hid (And.intro hW hg)
    rw [← hg] at hT
    have hgw : w.heap.size ≤ g := by omega
    clear hW hg
    obtain ⟨hMo, hRo⟩ := hT
    replace hv := hv.below hB
    obtain ⟨c1_hMo_0, c1_hMo_1, c1_hMo_2, c1_hMo_3⟩ := hMo.cells4
    obtain ⟨c1_hRo_0, c1_hRo_1, c1_hRo_2, c1_hRo_3⟩ := hRo.cells4
    go_enter Try.func3, Try.ntmps3
    go_wp2_with fail
    rw [← hW'.out.1, ← hW'.out.2]
    refine (hF _ hv).mono ?_
    rintro e w1 ⟨rfl, b1⟩
    replace hv := hv.below b1
    replace hMo := hMo.below b1 hMo.lt
    replace hRo := hRo.below b1 hRo.lt
    replace hB := hB.trans (b1.mono hB.size)
    clear c1_hMo_0 c1_hMo_1 c1_hMo_2 c1_hMo_3 c1_hRo_0 c1_hRo_1 c1_hRo_2 c1_hRo_3
    obtain ⟨c2_hMo_0, c2_hMo_1, c2_hMo_2, c2_hMo_3⟩ := hMo.cells4
    obtain ⟨c2_hRo_0, c2_hRo_1, c2_hRo_2, c2_hRo_3⟩ := hRo.cells4
    go_wp2_with fail
    refine (hS _ _ hv).mono ?_
    rintro e w2 ⟨v2, rfl, ⟨x1, x2, x3, x4, rfl, i1, i2, i3, i4⟩, b2⟩
    replace hv := hv.below b2
    replace hMo := hMo.below b2 hMo.lt
    replace hRo := hRo.below b2 hRo.lt
    replace hB := hB.trans (b2.mono hB.size)
    clear c2_hMo_0 c2_hMo_1 c2_hMo_2 c2_hMo_3 c2_hRo_0 c2_hRo_1 c2_hRo_2 c2_hRo_3
    obtain ⟨c3_hMo_0, c3_hMo_1, c3_hMo_2, c3_hMo_3⟩ := hMo.cells4
    obtain ⟨c3_hRo_0, c3_hRo_1, c3_hRo_2, c3_hRo_3⟩ := hRo.cells4
    obtain ⟨Ax1, Cx1, rfl⟩ := frmT i1
    obtain ⟨Ax2, Cx2, rfl⟩ := frmT i2
    obtain ⟨Ax3, Cx3, rfl⟩ := frmT i3
    obtain ⟨Ax4, Cx4, rfl⟩ := frmT i4
    obtain ⟨V1, eV, hX, bV1⟩ := box1 w2 26 #[.slice Ax1 xs.length Cx1, .slice Ax2 ys.length Cx2, .slice Ax3 0 Cx3, .slice Ax4 0 Cx4]
    obtain ⟨X1, eX⟩ : ∃ X, X = w2.heap.size := ⟨_, rfl⟩
    rw [← eX] at hX
    have EV1 := Lib.hid (And.intro eV eX)
    clear eV eX
    go_upto_region 4 with fail
    rw [← EV1.out.1, ← EV1.out.2]
    replace hv := hv.below bV1
    replace hMo := hMo.below bV1 hMo.lt
    replace hRo := hRo.below bV1 hRo.lt
    replace i1 := i1.below bV1
    replace i2 := i2.below bV1
    replace i3 := i3.below bV1
    replace i4 := i4.below bV1
    replace hB := hB.trans (bV1.mono hB.size)
    clear c3_hMo_0 c3_hMo_1 c3_hMo_2 c3_hMo_3 c3_hRo_0 c3_hRo_1 c3_hRo_2 c3_hRo_3
    obtain ⟨c4_hMo_0, c4_hMo_1, c4_hMo_2, c4_hMo_3⟩ := hMo.cells4
    obtain ⟨c4_hRo_0, c4_hRo_1, c4_hRo_2, c4_hRo_3⟩ := hRo.cells4
    clear c4_hMo_0 c4_hMo_1 c4_hMo_2 c4_hMo_3 c4_hRo_0 c4_hRo_1 c4_hRo_2 c4_hRo_3
    obtain ⟨c5_hMo_0, c5_hMo_1, c5_hMo_2, c5_hMo_3⟩ := hMo.cells4
    obtain ⟨c5_hRo_0, c5_hRo_1, c5_hRo_2, c5_hRo_3⟩ := hRo.cells4
    obtain ⟨c5_hX_0, c5_hX_1, c5_hX_2, c5_hX_3⟩ := hX.cells4
    go_wp2_with fail
    refine (hT _ _ hv).mono ?_
    rintro e w3 ⟨v3, rfl, ⟨y1, y2, y3, y4, rfl, j1, j2, j3, j4⟩, b3⟩
    replace hv := hv.below b3
    replace hMo := hMo.below b3 hMo.lt
    replace hRo := hRo.below b3 hRo.lt
    replace i1 := i1.below b3
    replace i2 := i2.below b3
    replace i3 := i3.below b3
    replace i4 := i4.below b3
    replace hX := hX.below b3 hX.lt
    replace hB := hB.trans (b3.mono hB.size)
    clear c5_hMo_0 c5_hMo_1 c5_hMo_2 c5_hMo_3 c5_hRo_0 c5_hRo_1 c5_hRo_2 c5_hRo_3 c5_hX_0 c5_hX_1 c5_hX_2 c5_hX_3
    obtain ⟨c6_hMo_0, c6_hMo_1, c6_hMo_2, c6_hMo_3⟩ := hMo.cells4
    obtain ⟨c6_hRo_0, c6_hRo_1, c6_hRo_2, c6_hRo_3⟩ := hRo.cells4
    obtain ⟨c6_hX_0, c6_hX_1, c6_hX_2, c6_hX_3⟩ := hX.cells4
    obtain ⟨Ay1, Cy1, rfl⟩ := frmT j1
    obtain ⟨Ay2, Cy2, rfl⟩ := frmT j2
    obtain ⟨Ay3, Cy3, rfl⟩ := frmT j3
    obtain ⟨Ay4, Cy4, rfl⟩ := frmT j4
    obtain ⟨V2, eV, hY, bV2⟩ := box1 w3 26 #[.slice Ay1 xs.length Cy1, .slice Ay2 ys.length Cy2, .slice Ay3 0 Cy3, .slice Ay4 0 Cy4]
    obtain ⟨X2, eX⟩ : ∃ X, X = w3.heap.size := ⟨_, rfl⟩
    rw [← eX] at hY
    have EV2 := Lib.hid (And.intro eV eX)
    clear eV eX
    go_upto_region 4 with fail
    rw [← EV2.out.1, ← EV2.out.2]
    replace hv := hv.below bV2
    replace hMo := hMo.below bV2 hMo.lt
    replace hRo := hRo.below bV2 hRo.lt
    replace i1 := i1.below bV2
    replace i2 := i2.below bV2
    replace i3 := i3.below bV2
    replace i4 := i4.below bV2
    replace hX := hX.below bV2 hX.lt
    replace j1 := j1.below bV2
    replace j2 := j2.below bV2
    replace j3 := j3.below bV2
    replace j4 := j4.below bV2
    replace hB := hB.trans (bV2.mono hB.size)
    clear c6_hMo_0 c6_hMo_1 c6_hMo_2 c6_hMo_3 c6_hRo_0 c6_hRo_1 c6_hRo_2 c6_hRo_3 c6_hX_0 c6_hX_1 c6_hX_2 c6_hX_3
    obtain ⟨c7_hMo_0, c7_hMo_1, c7_hMo_2, c7_hMo_3⟩ := hMo.cells4
    obtain ⟨c7_hRo_0, c7_hRo_1, c7_hRo_2, c7_hRo_3⟩ := hRo.cells4
    obtain ⟨c7_hX_0, c7_hX_1, c7_hX_2, c7_hX_3⟩ := hX.cells4
    clear c7_hMo_0 c7_hMo_1 c7_hMo_2 c7_hMo_3 c7_hRo_0 c7_hRo_1 c7_hRo_2 c7_hRo_3 c7_hX_0 c7_hX_1 c7_hX_2 c7_hX_3
    obtain ⟨c8_hMo_0, c8_hMo_1, c8_hMo_2, c8_hMo_3⟩ := hMo.cells4
    obtain ⟨c8_hRo_0, c8_hRo_1, c8_hRo_2, c8_hRo_3⟩ := hRo.cells4
    obtain ⟨c8_hX_0, c8_hX_1, c8_hX_2, c8_hX_3⟩ := hX.cells4
    obtain ⟨c8_hY_0, c8_hY_1, c8_hY_2, c8_hY_3⟩ := hY.cells4
    obtain ⟨m0, m1, m2, m3⟩ := hMo.cells4
    obtain ⟨x0, x1, x2, x3⟩ := hX.cells4
    obtain ⟨y0, y1, y2, y3⟩ := hY.cells4
    have hcur := Below.refl V2.heap.size V2
    go_upto_region 5 with fail
    refine wp_region_noPanic ?_
    refine wp_region_held_drew (S := fun w' => w'.cell? ⟨g, 0, none⟩ = some (.int .i64 lr) ∧ w'.cell? ⟨g, 1, none⟩ = some (.int .i64 mu) ∧ w'.cell? ⟨g, 2, none⟩ = some (.int .i64 wd) ∧ w'.cell? ⟨g, 3, none⟩ = some (.bool nest) ∧ w'.cell? ⟨X1, 0, none⟩ = some (.slice Ax1 xs.length Cx1) ∧ w'.cell? ⟨X1, 1, none⟩ = some (.slice Ax2 ys.length Cx2) ∧ w'.cell? ⟨X1, 2, none⟩ = some (.slice Ax3 0 Cx3) ∧ w'.cell? ⟨X1, 3, none⟩ = some (.slice Ax4 0 Cx4) ∧ w'.cell? ⟨X2, 0, none⟩ = some (.slice Ay1 xs.length Cy1) ∧ w'.cell? ⟨X2, 1, none⟩ = some (.slice Ay2 ys.length Cy2) ∧ w'.cell? ⟨X2, 2, none⟩ = some (.slice Ay3 0 Cy3) ∧ w'.cell? ⟨X2, 3, none⟩ = some (.slice Ay4 0 Cy4)) (by kernel_rfl) ?_ (fun hHeld => ?_)
    · exact ⟨cellT (by first | assumption | exact bdrew _ | exact Below.refl _ _ | exact balloc (bdrew _) _ | exact balloc (by assumption) _ | exact balloc (Below.refl _ _) _ | exact bset (bset (by assumption) (by first | assumption | exact Nat.le_refl _) _) (by first | assumption | exact Nat.le_refl _) _) m0, cellT (by first | assumption | exact bdrew _ | exact Below.refl _ _ | exact balloc (bdrew _) _ | exact balloc (by assumption) _ | exact balloc (Below.refl _ _) _ | exact bset (bset (by assumption) (by first | assumption | exact Nat.le_refl _) _) (by first | assumption | exact Nat.le_refl _) _) m1, cellT (by first | assumption | exact bdrew _ | exact Below.refl _ _ | exact balloc (bdrew _) _ | exact balloc (by assumption) _ | exact balloc (Below.refl _ _) _ | exact bset (bset (by assumption) (by first | assumption | exact Nat.le_refl _) _) (by first | assumption | exact Nat.le_refl _) _) m2, cellT (by first | assumption | exact bdrew _ | exact Below.refl _ _ | exact balloc (bdrew _) _ | exact balloc (by assumption) _ | exact balloc (Below.refl _ _) _ | exact bset (bset (by assumption) (by first | assumption | exact Nat.le_refl _) _) (by first | assumption | exact Nat.le_refl _) _) m3, cellT (by first | assumption | exact bdrew _ | exact Below.refl _ _ | exact balloc (bdrew _) _ | exact balloc (by assumption) _ | exact balloc (Below.refl _ _) _ | exact bset (bset (by assumption) (by first | assumption | exact Nat.le_refl _) _) (by first | assumption | exact Nat.le_refl _) _) x0, cellT (by first | assumption | exact bdrew _ | exact Below.refl _ _ | exact balloc (bdrew _) _ | exact balloc (by assumption) _ | exact balloc (Below.refl _ _) _ | exact bset (bset (by assumption) (by first | assumption | exact Nat.le_refl _) _) (by first | assumption | exact Nat.le_refl _) _) x1, cellT (by first | assumption | exact bdrew _ | exact Below.refl _ _ | exact balloc (bdrew _) _ | exact balloc (by assumption) _ | exact balloc (Below.refl _ _) _ | exact bset (bset (by assumption) (by first | assumption | exact Nat.le_refl _) _) (by first | assumption | exact Nat.le_refl _) _) x2, cellT (by first | assumption | exact bdrew _ | exact Below.refl _ _ | exact balloc (bdrew _) _ | exact balloc (by assumption) _ | exact balloc (Below.refl _ _) _ | exact bset (bset (by assumption) (by first | assumption | exact Nat.le_refl _) _) (by first | assumption | exact Nat.le_refl _) _) x3, cellT (by first | assumption | exact bdrew _ | exact Below.refl _ _ | exact balloc (bdrew _) _ | exact balloc (by assumption) _ | exact balloc (Below.refl _ _) _ | exact bset (bset (by assumption) (by first | assumption | exact Nat.le_refl _) _) (by first | assumption | exact Nat.le_refl _) _) y0, cellT (by first | assumption | exact bdrew _ | exact Below.refl _ _ | exact balloc (bdrew _) _ | exact balloc (by assumption) _ | exact balloc (Below.refl _ _) _ | exact bset (bset (by assumption) (by first | assumption | exact Nat.le_refl _) _) (by first | assumption | exact Nat.le_refl _) _) y1, cellT (by first | assumption | exact bdrew _ | exact Below.refl _ _ | exact balloc (bdrew _) _ | exact balloc (by assumption) _ | exact balloc (Below.refl _ _) _ | exact bset (bset (by assumption) (by first | assumption | exact Nat.le_refl _) _) (by first | assumption | exact Nat.le_refl _) _) y2, cellT (by first | assumption | exact bdrew _ | exact Below.refl _ _ | exact balloc (bdrew _) _ | exact balloc (by assumption) _ | exact balloc (Below.refl _ _) _ | exact bset (bset (by assumption) (by first | assumption | exact Nat.le_refl _) _) (by first | assumption | exact Nat.le_refl _) _) y3⟩
    refine wpAnyH_ready (rs := [0]) (by kernel_rfl) (by simp) ?_
    refine AllReadyH.cons rfl (fun K hK => ?_) AllReadyH.nil
    go_simp
    refine (hL  _ ).mono ?_

    rintro e w21 ⟨rfl, b21⟩
    have B21 := bstep (a := V2) (by first | assumption | exact bdrew _ | exact Below.refl _ _ | exact balloc (bdrew _) _ | exact balloc (by assumption) _ | exact balloc (Below.refl _ _) _ | exact bset (bset (by assumption) (by first | assumption | exact Nat.le_refl _) _) (by first | assumption | exact Nat.le_refl _) _) b21
    go_wp2_with fail
    refine hK.out _ _ ?_ (fun hHeld => ?_)
    · exact ⟨cellT (by first | assumption | exact bdrew _ | exact Below.refl _ _ | exact balloc (bdrew _) _ | exact balloc (by assumption) _ | exact balloc (Below.refl _ _) _ | exact bset (bset (by assumption) (by first | assumption | exact Nat.le_refl _) _) (by first | assumption | exact Nat.le_refl _) _) m0, cellT (by first | assumption | exact bdrew _ | exact Below.refl _ _ | exact balloc (bdrew _) _ | exact balloc (by assumption) _ | exact balloc (Below.refl _ _) _ | exact bset (bset (by assumption) (by first | assumption | exact Nat.le_refl _) _) (by first | assumption | exact Nat.le_refl _) _) m1, cellT (by first | assumption | exact bdrew _ | exact Below.refl _ _ | exact balloc (bdrew _) _ | exact balloc (by assumption) _ | exact balloc (Below.refl _ _) _ | exact bset (bset (by assumption) (by first | assumption | exact Nat.le_refl _) _) (by first | assumption | exact Nat.le_refl _) _) m2, cellT (by first | assumption | exact bdrew _ | exact Below.refl _ _ | exact balloc (bdrew _) _ | exact balloc (by assumption) _ | exact balloc (Below.refl _ _) _ | exact bset (bset (by assumption) (by first | assumption | exact Nat.le_refl _) _) (by first | assumption | exact Nat.le_refl _) _) m3, cellT (by first | assumption | exact bdrew _ | exact Below.refl _ _ | exact balloc (bdrew _) _ | exact balloc (by assumption) _ | exact balloc (Below.refl _ _) _ | exact bset (bset (by assumption) (by first | assumption | exact Nat.le_refl _) _) (by first | assumption | exact Nat.le_refl _) _) x0, cellT (by first | assumption | exact bdrew _ | exact Below.refl _ _ | exact balloc (bdrew _) _ | exact balloc (by assumption) _ | exact balloc (Below.refl _ _) _ | exact bset (bset (by assumption) (by first | assumption | exact Nat.le_refl _) _) (by first | assumption | exact Nat.le_refl _) _) x1, cellT (by first | assumption | exact bdrew _ | exact Below.refl _ _ | exact balloc (bdrew _) _ | exact balloc (by assumption) _ | exact balloc (Below.refl _ _) _ | exact bset (bset (by assumption) (by first | assumption | exact Nat.le_refl _) _) (by first | assumption | exact Nat.le_refl _) _) x2, cellT (by first | assumption | exact bdrew _ | exact Below.refl _ _ | exact balloc (bdrew _) _ | exact balloc (by assumption) _ | exact balloc (Below.refl _ _) _ | exact bset (bset (by assumption) (by first | assumption | exact Nat.le_refl _) _) (by first | assumption | exact Nat.le_refl _) _) x3, cellT (by first | assumption | exact bdrew _ | exact Below.refl _ _ | exact balloc (bdrew _) _ | exact balloc (by assumption) _ | exact balloc (Below.refl _ _) _ | exact bset (bset (by assumption) (by first | assumption | exact Nat.le_refl _) _) (by first | assumption | exact Nat.le_refl _) _) y0, cellT (by first | assumption | exact bdrew _ | exact Below.refl _ _ | exact balloc (bdrew _) _ | exact balloc (by assumption) _ | exact balloc (Below.refl _ _) _ | exact bset (bset (by assumption) (by first | assumption | exact Nat.le_refl _) _) (by first | assumption | exact Nat.le_refl _) _) y1, cellT (by first | assumption | exact bdrew _ | exact Below.refl _ _ | exact balloc (bdrew _) _ | exact balloc (by assumption) _ | exact balloc (Below.refl _ _) _ | exact bset (bset (by assumption) (by first | assumption | exact Nat.le_refl _) _) (by first | assumption | exact Nat.le_refl _) _) y2, cellT (by first | assumption | exact bdrew _ | exact Below.refl _ _ | exact balloc (bdrew _) _ | exact balloc (by assumption) _ | exact balloc (Below.refl _ _) _ | exact bset (bset (by assumption) (by first | assumption | exact Nat.le_refl _) _) (by first | assumption | exact Nat.le_refl _) _) y3⟩
    clear hK K
    try simp only [Act.put]
    refine wpAnyH_take (i := 1) (v := ?nv1) rfl (by kernel_rfl) (by kernel_rfl) (by kernel_rfl) (fun _ _ _ h => h) (Or.inl ⟨by kernel_rfl, ?nhy1⟩) (by assumption) ?nrest1
    case nhy1 => (intro w hSw; (try dsimp only at hSw); go_simp; try (with_reducible rfl))
    try simp only [Act.put]
    refine wpAnyH_take (i := 2) (v := ?nv2) rfl (by kernel_rfl) (by kernel_rfl) (by kernel_rfl) (fun _ _ _ h => h) (Or.inl ⟨by kernel_rfl, ?nhy2⟩) (by assumption) ?nrest2
    case nhy2 => (intro w hSw; (try dsimp only at hSw); go_simp; try (with_reducible rfl))
    try simp only [Act.put]
    refine wpAnyH_take (i := 3) (v := ?nv3) rfl (by kernel_rfl) (by kernel_rfl) (by kernel_rfl) (fun _ _ _ h => h) (Or.inl ⟨by kernel_rfl, ?nhy3⟩) (by assumption) ?nrest3
    case nhy3 => (intro w hSw; (try dsimp only at hSw); go_simp; try (with_reducible rfl))
    try simp only [Act.put]
    refine wpAnyH_take (i := 5) (v := ?nv5) rfl (by kernel_rfl) (by kernel_rfl) (by kernel_rfl) (fun _ _ _ h => h) (Or.inl ⟨by kernel_rfl, ?nhy5⟩) (by assumption) ?nrest5
    case nhy5 => (intro w hSw; (try dsimp only at hSw); go_simp; try (with_reducible rfl))
    try simp only [Act.put]
    refine wpAnyH_take (i := 6) (v := ?nv6) rfl (by kernel_rfl) (by kernel_rfl) (by kernel_rfl) (fun _ _ _ h => h) (Or.inl ⟨by kernel_rfl, ?nhy6⟩) (by assumption) ?nrest6
    case nhy6 => (intro w hSw; (try dsimp only at hSw); go_simp; try (with_reducible rfl))
    try simp only [Act.put]
    refine wpAnyH_ready (rs := [4]) (by kernel_rfl) (by simp) ?_
    refine AllReadyH.cons rfl (fun K hK => ?_) AllReadyH.nil
    go_simp
    refine (hR1  _ ).mono ?_

    rintro e w22 ⟨rfl, b22⟩
    have B22 := bstep (a := V2) (by first | assumption | exact bdrew _ | exact Below.refl _ _ | exact balloc (bdrew _) _ | exact balloc (by assumption) _ | exact balloc (Below.refl _ _) _ | exact bset (bset (by assumption) (by first | assumption | exact Nat.le_refl _) _) (by first | assumption | exact Nat.le_refl _) _) b22
    go_wp2_with fail
    refine hK.out _ _ ?_ (fun hHeld => ?_)
    · exact ⟨cellT (by first | assumption | exact bdrew _ | exact Below.refl _ _ | exact balloc (bdrew _) _ | exact balloc (by assumption) _ | exact balloc (Below.refl _ _) _ | exact bset (bset (by assumption) (by first | assumption | exact Nat.le_refl _) _) (by first | assumption | exact Nat.le_refl _) _) m0, cellT (by first | assumption | exact bdrew _ | exact Below.refl _ _ | exact balloc (bdrew _) _ | exact balloc (by assumption) _ | exact balloc (Below.refl _ _) _ | exact bset (bset (by assumption) (by first | assumption | exact Nat.le_refl _) _) (by first | assumption | exact Nat.le_refl _) _) m1, cellT (by first | assumption | exact bdrew _ | exact Below.refl _ _ | exact balloc (bdrew _) _ | exact balloc (by assumption) _ | exact balloc (Below.refl _ _) _ | exact bset (bset (by assumption) (by first | assumption | exact Nat.le_refl _) _) (by first | assumption | exact Nat.le_refl _) _) m2, cellT (by first | assumption | exact bdrew _ | exact Below.refl _ _ | exact balloc (bdrew _) _ | exact balloc (by assumption) _ | exact balloc (Below.refl _ _) _ | exact bset (bset (by assumption) (by first | assumption | exact Nat.le_refl _) _) (by first | assumption | exact Nat.le_refl _) _) m3, cellT (by first | assumption | exact bdrew _ | exact Below.refl _ _ | exact balloc (bdrew _) _ | exact balloc (by assumption) _ | exact balloc (Below.refl _ _) _ | exact bset (bset (by assumption) (by first | assumption | exact Nat.le_refl _) _) (by first | assumption | exact Nat.le_refl _) _) x0, cellT (by first | assumption | exact bdrew _ | exact Below.refl _ _ | exact balloc (bdrew _) _ | exact balloc (by assumption) _ | exact balloc (Below.refl _ _) _ | exact bset (bset (by assumption) (by first | assumption | exact Nat.le_refl _) _) (by first | assumption | exact Nat.le_refl _) _) x1, cellT (by first | assumption | exact bdrew _ | exact Below.refl _ _ | exact balloc (bdrew _) _ | exact balloc (by assumption) _ | exact balloc (Below.refl _ _) _ | exact bset (bset (by assumption) (by first | assumption | exact Nat.le_refl _) _) (by first | assumption | exact Nat.le_refl _) _) x2, cellT (by first | assumption | exact bdrew _ | exact Below.refl _ _ | exact balloc (bdrew _) _ | exact balloc (by assumption) _ | exact balloc (Below.refl _ _) _ | exact bset (bset (by assumption) (by first | assumption | exact Nat.le_refl _) _) (by first | assumption | exact Nat.le_refl _) _) x3, cellT (by first | assumption | exact bdrew _ | exact Below.refl _ _ | exact balloc (bdrew _) _ | exact balloc (by assumption) _ | exact balloc (Below.refl _ _) _ | exact bset (bset (by assumption) (by first | assumption | exact Nat.le_refl _) _) (by first | assumption | exact Nat.le_refl _) _) y0, cellT (by first | assumption | exact bdrew _ | exact Below.refl _ _ | exact balloc (bdrew _) _ | exact balloc (by assumption) _ | exact balloc (Below.refl _ _) _ | exact bset (bset (by assumption) (by first | assumption | exact Nat.le_refl _) _) (by first | assumption | exact Nat.le_refl _) _) y1, cellT (by first | assumption | exact bdrew _ | exact Below.refl _ _ | exact balloc (bdrew _) _ | exact balloc (by assumption) _ | exact balloc (Below.refl _ _) _ | exact bset (bset (by assumption) (by first | assumption | exact Nat.le_refl _) _) (by first | assumption | exact Nat.le_refl _) _) y2, cellT (by first | assumption | exact bdrew _ | exact Below.refl _ _ | exact balloc (bdrew _) _ | exact balloc (by assumption) _ | exact balloc (Below.refl _ _) _ | exact bset (bset (by assumption) (by first | assumption | exact Nat.le_refl _) _) (by first | assumption | exact Nat.le_refl _) _) y3⟩
    clear hK K
    try simp only [Act.put]
    refine wpAnyH_ready (rs := [7]) (by kernel_rfl) (by simp) ?_
    refine AllReadyH.cons rfl (fun K hK => ?_) AllReadyH.nil
    go_simp
    refine (hR2  _ ).mono ?_

    rintro e w23 ⟨rfl, b23⟩
    have B23 := bstep (a := V2) (by first | assumption | exact bdrew _ | exact Below.refl _ _ | exact balloc (bdrew _) _ | exact balloc (by assumption) _ | exact balloc (Below.refl _ _) _ | exact bset (bset (by assumption) (by first | assumption | exact Nat.le_refl _) _) (by first | assumption | exact Nat.le_refl _) _) b23
    go_wp2_with fail
    refine hK.out _ _ ?_ (fun hHeld => ?_)
    · exact ⟨cellT (by first | assumption | exact bdrew _ | exact Below.refl _ _ | exact balloc (bdrew _) _ | exact balloc (by assumption) _ | exact balloc (Below.refl _ _) _ | exact bset (bset (by assumption) (by first | assumption | exact Nat.le_refl _) _) (by first | assumption | exact Nat.le_refl _) _) m0, cellT (by first | assumption | exact bdrew _ | exact Below.refl _ _ | exact balloc (bdrew _) _ | exact balloc (by assumption) _ | exact balloc (Below.refl _ _) _ | exact bset (bset (by assumption) (by first | assumption | exact Nat.le_refl _) _) (by first | assumption | exact Nat.le_refl _) _) m1, cellT (by first | assumption | exact bdrew _ | exact Below.refl _ _ | exact balloc (bdrew _) _ | exact balloc (by assumption) _ | exact balloc (Below.refl _ _) _ | exact bset (bset (by assumption) (by first | assumption | exact Nat.le_refl _) _) (by first | assumption | exact Nat.le_refl _) _) m2, cellT (by first | assumption | exact bdrew _ | exact Below.refl _ _ | exact balloc (bdrew _) _ | exact balloc (by assumption) _ | exact balloc (Below.refl _ _) _ | exact bset (bset (by assumption) (by first | assumption | exact Nat.le_refl _) _) (by first | assumption | exact Nat.le_refl _) _) m3, cellT (by first | assumption | exact bdrew _ | exact Below.refl _ _ | exact balloc (bdrew _) _ | exact balloc (by assumption) _ | exact balloc (Below.refl _ _) _ | exact bset (bset (by assumption) (by first | assumption | exact Nat.le_refl _) _) (by first | assumption | exact Nat.le_refl _) _) x0, cellT (by first | assumption | exact bdrew _ | exact Below.refl _ _ | exact balloc (bdrew _) _ | exact balloc (by assumption) _ | exact balloc (Below.refl _ _) _ | exact bset (bset (by assumption) (by first | assumption | exact Nat.le_refl _) _) (by first | assumption | exact Nat.le_refl _) _) x1, cellT (by first | assumption | exact bdrew _ | exact Below.refl _ _ | exact balloc (bdrew _) _ | exact balloc (by assumption) _ | exact balloc (Below.refl _ _) _ | exact bset (bset (by assumption) (by first | assumption | exact Nat.le_refl _) _) (by first | assumption | exact Nat.le_refl _) _) x2, cellT (by first | assumption | exact bdrew _ | exact Below.refl _ _ | exact balloc (bdrew _) _ | exact balloc (by assumption) _ | exact balloc (Below.refl _ _) _ | exact bset (bset (by assumption) (by first | assumption | exact Nat.le_refl _) _) (by first | assumption | exact Nat.le_refl _) _) x3, cellT (by first | assumption | exact bdrew _ | exact Below.refl _ _ | exact balloc (bdrew _) _ | exact balloc (by assumption) _ | exact balloc (Below.refl _ _) _ | exact bset (bset (by assumption) (by first | assumption | exact Nat.le_refl _) _) (by first | assumption | exact Nat.le_refl _) _) y0, cellT (by first | assumption | exact bdrew _ | exact Below.refl _ _ | exact balloc (bdrew _) _ | exact balloc (by assumption) _ | exact balloc (Below.refl _ _) _ | exact bset (bset (by assumption) (by first | assumption | exact Nat.le_refl _) _) (by first | assumption | exact Nat.le_refl _) _) y1, cellT (by first | assumption | exact bdrew _ | exact Below.refl _ _ | exact balloc (bdrew _) _ | exact balloc (by assumption) _ | exact balloc (Below.refl _ _) _ | exact bset (bset (by assumption) (by first | assumption | exact Nat.le_refl _) _) (by first | assumption | exact Nat.le_refl _) _) y2, cellT (by first | assumption | exact bdrew _ | exact Below.refl _ _ | exact balloc (bdrew _) _ | exact balloc (by assumption) _ | exact balloc (Below.refl _ _) _ | exact bset (bset (by assumption) (by first | assumption | exact Nat.le_refl _) _) (by first | assumption | exact Nat.le_refl _) _) y3⟩
    clear hK K
    try simp only [Act.put]
    refine wpAnyH_take (i := 8) (v := ?nv8) rfl (by kernel_rfl) (by kernel_rfl) (by kernel_rfl) (fun _ _ _ h => h) (Or.inl ⟨by kernel_rfl, ?nhy8⟩) (by assumption) ?nrest8
    case nhy8 => (intro w hSw; (try dsimp only at hSw); go_simp; try (with_reducible rfl))
    try simp only [Act.put]
    refine wpAnyH_take (i := 9) (v := ?nv9) rfl (by kernel_rfl) (by kernel_rfl) (by kernel_rfl) (fun _ _ _ h => h) (Or.inl ⟨by kernel_rfl, ?nhy9⟩) (by assumption) ?nrest9
    case nhy9 => (intro w hSw; (try dsimp only at hSw); go_simp; try (with_reducible rfl))
    try simp only [Act.put]
    refine wpAnyH_take (i := 10) (v := ?nv10) rfl (by kernel_rfl) (by kernel_rfl) (by kernel_rfl) (fun _ _ _ h => h) (Or.inl ⟨by kernel_rfl, ?nhy10⟩) (by assumption) ?nrest10
    case nhy10 => (intro w hSw; (try dsimp only at hSw); go_simp; try (with_reducible rfl))
    try simp only [Act.put]
    refine wpAnyH_take (i := 11) (v := ?nv11) rfl (by kernel_rfl) (by kernel_rfl) (by kernel_rfl) (fun _ _ _ h => h) (Or.inl ⟨by kernel_rfl, ?nhy11⟩) (by assumption) ?nrest11
    case nhy11 => (intro w hSw; (try dsimp only at hSw); go_simp; try (with_reducible rfl))
    try simp only [Act.put]
    refine wpAnyH_take (i := 12) (v := ?nv12) rfl (by kernel_rfl) (by kernel_rfl) (by kernel_rfl) (fun _ _ _ h => h) (Or.inl ⟨by kernel_rfl, ?nhy12⟩) (by assumption) ?nrest12
    case nhy12 => (intro w hSw; (try dsimp only at hSw); go_simp; try (with_reducible rfl))
    try simp only [Act.put]
    refine wpAnyH_ready (rs := [13]) (by kernel_rfl) (by simp) ?_
    refine AllReadyH.cons rfl (fun K hK => ?_) AllReadyH.nil
    go_simp
    refine (hM _ _ _ ?_ ?_).mono ?_
    · exact ⟨_, _, _, _, rfl, i1.below (by first | assumption | exact bdrew _ | exact Below.refl _ _ | exact balloc (bdrew _) _ | exact balloc (by assumption) _ | exact balloc (Below.refl _ _) _ | exact bset (bset (by assumption) (by first | assumption | exact Nat.le_refl _) _) (by first | assumption | exact Nat.le_refl _) _), i2.below (by first | assumption | exact bdrew _ | exact Below.refl _ _ | exact balloc (bdrew _) _ | exact balloc (by assumption) _ | exact balloc (Below.refl _ _) _ | exact bset (bset (by assumption) (by first | assumption | exact Nat.le_refl _) _) (by first | assumption | exact Nat.le_refl _) _), i3.below (by first | assumption | exact bdrew _ | exact Below.refl _ _ | exact balloc (bdrew _) _ | exact balloc (by assumption) _ | exact balloc (Below.refl _ _) _ | exact bset (bset (by assumption) (by first | assumption | exact Nat.le_refl _) _) (by first | assumption | exact Nat.le_refl _) _), i4.below (by first | assumption | exact bdrew _ | exact Below.refl _ _ | exact balloc (bdrew _) _ | exact balloc (by assumption) _ | exact balloc (Below.refl _ _) _ | exact bset (bset (by assumption) (by first | assumption | exact Nat.le_refl _) _) (by first | assumption | exact Nat.le_refl _) _)⟩
    · exact ⟨_, _, _, _, rfl, j1.below (by first | assumption | exact bdrew _ | exact Below.refl _ _ | exact balloc (bdrew _) _ | exact balloc (by assumption) _ | exact balloc (Below.refl _ _) _ | exact bset (bset (by assumption) (by first | assumption | exact Nat.le_refl _) _) (by first | assumption | exact Nat.le_refl _) _), j2.below (by first | assumption | exact bdrew _ | exact Below.refl _ _ | exact balloc (bdrew _) _ | exact balloc (by assumption) _ | exact balloc (Below.refl _ _) _ | exact bset (bset (by assumption) (by first | assumption | exact Nat.le_refl _) _) (by first | assumption | exact Nat.le_refl _) _), j3.below (by first | assumption | exact bdrew _ | exact Below.refl _ _ | exact balloc (bdrew _) _ | exact balloc (by assumption) _ | exact balloc (Below.refl _ _) _ | exact bset (bset (by assumption) (by first | assumption | exact Nat.le_refl _) _) (by first | assumption | exact Nat.le_refl _) _), j4.below (by first | assumption | exact bdrew _ | exact Below.refl _ _ | exact balloc (bdrew _) _ | exact balloc (by assumption) _ | exact balloc (Below.refl _ _) _ | exact bset (bset (by assumption) (by first | assumption | exact Nat.le_refl _) _) (by first | assumption | exact Nat.le_refl _) _)⟩
    rintro e w24 ⟨rfl, b24⟩
    have B24 := bstep (a := V2) (by first | assumption | exact bdrew _ | exact Below.refl _ _ | exact balloc (bdrew _) _ | exact balloc (by assumption) _ | exact balloc (Below.refl _ _) _ | exact bset (bset (by assumption) (by first | assumption | exact Nat.le_refl _) _) (by first | assumption | exact Nat.le_refl _) _) b24
    go_wp2_with fail
    refine hK.out _ _ ?_ (fun hHeld => ?_)
    · exact ⟨cellT (by first | assumption | exact bdrew _ | exact Below.refl _ _ | exact balloc (bdrew _) _ | exact balloc (by assumption) _ | exact balloc (Below.refl _ _) _ | exact bset (bset (by assumption) (by first | assumption | exact Nat.le_refl _) _) (by first | assumption | exact Nat.le_refl _) _) m0, cellT (by first | assumption | exact bdrew _ | exact Below.refl _ _ | exact balloc (bdrew _) _ | exact balloc (by assumption) _ | exact balloc (Below.refl _ _) _ | exact bset (bset (by assumption) (by first | assumption | exact Nat.le_refl _) _) (by first | assumption | exact Nat.le_refl _) _) m1, cellT (by first | assumption | exact bdrew _ | exact Below.refl _ _ | exact balloc (bdrew _) _ | exact balloc (by assumption) _ | exact balloc (Below.refl _ _) _ | exact bset (bset (by assumption) (by first | assumption | exact Nat.le_refl _) _) (by first | assumption | exact Nat.le_refl _) _) m2, cellT (by first | assumption | exact bdrew _ | exact Below.refl _ _ | exact balloc (bdrew _) _ | exact balloc (by assumption) _ | exact balloc (Below.refl _ _) _ | exact bset (bset (by assumption) (by first | assumption | exact Nat.le_refl _) _) (by first | assumption | exact Nat.le_refl _) _) m3, cellT (by first | assumption | exact bdrew _ | exact Below.refl _ _ | exact balloc (bdrew _) _ | exact balloc (by assumption) _ | exact balloc (Below.refl _ _) _ | exact bset (bset (by assumption) (by first | assumption | exact Nat.le_refl _) _) (by first | assumption | exact Nat.le_refl _) _) x0, cellT (by first | assumption | exact bdrew _ | exact Below.refl _ _ | exact balloc (bdrew _) _ | exact balloc (by assumption) _ | exact balloc (Below.refl _ _) _ | exact bset (bset (by assumption) (by first | assumption | exact Nat.le_refl _) _) (by first | assumption | exact Nat.le_refl _) _) x1, cellT (by first | assumption | exact bdrew _ | exact Below.refl _ _ | exact balloc (bdrew _) _ | exact balloc (by assumption) _ | exact balloc (Below.refl _ _) _ | exact bset (bset (by assumption) (by first | assumption | exact Nat.le_refl _) _) (by first | assumption | exact Nat.le_refl _) _) x2, cellT (by first | assumption | exact bdrew _ | exact Below.refl _ _ | exact balloc (bdrew _) _ | exact balloc (by assumption) _ | exact balloc (Below.refl _ _) _ | exact bset (bset (by assumption) (by first | assumption | exact Nat.le_refl _) _) (by first | assumption | exact Nat.le_refl _) _) x3, cellT (by first | assumption | exact bdrew _ | exact Below.refl _ _ | exact balloc (bdrew _) _ | exact balloc (by assumption) _ | exact balloc (Below.refl _ _) _ | exact bset (bset (by assumption) (by first | assumption | exact Nat.le_refl _) _) (by first | assumption | exact Nat.le_refl _) _) y0, cellT (by first | assumption | exact bdrew _ | exact Below.refl _ _ | exact balloc (bdrew _) _ | exact balloc (by assumption) _ | exact balloc (Below.refl _ _) _ | exact bset (bset (by assumption) (by first | assumption | exact Nat.le_refl _) _) (by first | assumption | exact Nat.le_refl _) _) y1, cellT (by first | assumption | exact bdrew _ | exact Below.refl _ _ | exact balloc (bdrew _) _ | exact balloc (by assumption) _ | exact balloc (Below.refl _ _) _ | exact bset (bset (by assumption) (by first | assumption | exact Nat.le_refl _) _) (by first | assumption | exact Nat.le_refl _) _) y2, cellT (by first | assumption | exact bdrew _ | exact Below.refl _ _ | exact balloc (bdrew _) _ | exact balloc (by assumption) _ | exact balloc (Below.refl _ _) _ | exact bset (bset (by assumption) (by first | assumption | exact Nat.le_refl _) _) (by first | assumption | exact Nat.le_refl _) _) y3⟩
    clear hK K
    try simp only [Act.put]
    refine wpAnyH_take (i := 14) (v := ?nv14) rfl (by kernel_rfl) (by kernel_rfl) (by kernel_rfl) (fun _ _ _ h => h) (Or.inl ⟨by kernel_rfl, ?nhy14⟩) (by assumption) ?nrest14
    case nhy14 => (intro w hSw; (try dsimp only at hSw); go_simp; try (with_reducible rfl))
    try simp only [Act.put]
    refine wpAnyH_take (i := 15) (v := ?nv15) rfl (by kernel_rfl) (by kernel_rfl) (by kernel_rfl) (fun _ _ _ h => h) (Or.inl ⟨by kernel_rfl, ?nhy15⟩) (by assumption) ?nrest15
    case nhy15 => (intro w hSw; (try dsimp only at hSw); go_simp; try (with_reducible rfl))
    try simp only [Act.put]
    refine wpAnyH_take (i := 16) (v := ?nv16) rfl (by kernel_rfl) (by kernel_rfl) (by kernel_rfl) (fun _ _ _ h => h) (Or.inl ⟨by kernel_rfl, ?nhy16⟩) (by assumption) ?nrest16
    case nhy16 => (intro w hSw; (try dsimp only at hSw); go_simp; try (with_reducible rfl))
    try simp only [Act.put]
    refine wpAnyH_take (i := 17) (v := ?nv17) rfl (by kernel_rfl) (by kernel_rfl) (by kernel_rfl) (fun _ _ _ h => h) (Or.inl ⟨by kernel_rfl, ?nhy17⟩) (by assumption) ?nrest17
    case nhy17 => (intro w hSw; (try dsimp only at hSw); go_simp; try (with_reducible rfl))
    try simp only [Act.put]
    refine wpAnyH_take (i := 18) (v := ?nv18) rfl (by kernel_rfl) (by kernel_rfl) (by kernel_rfl) (fun _ _ _ h => h) (Or.inl ⟨by kernel_rfl, ?nhy18⟩) (by assumption) ?nrest18
    case nhy18 => (intro w hSw; (try dsimp only at hSw); go_simp; try (with_reducible rfl))
    try simp only [Act.put]
    try dsimp only
    try simp only [Act.put]
    refine wpAnyH_take (i := 19) (v := ?nv19) rfl (by kernel_rfl) (by kernel_rfl) (by kernel_rfl) (fun _ _ _ h => h) (Or.inl ⟨by kernel_rfl, ?nhy19⟩) (by assumption) ?nrest19
    case nhy19 => (intro w hSw; (try dsimp only at hSw); go_simp; try (with_reducible rfl))
    try simp only [Act.put]
    try dsimp only
    try simp only [Act.put]
    refine wpAnyH_take (i := 20) (v := ?nv20) rfl (by kernel_rfl) (by kernel_rfl) (by kernel_rfl) (fun _ _ _ h => h) (Or.inl ⟨by kernel_rfl, ?nhy20⟩) (by assumption) ?nrest20
    case nhy20 => (intro w hSw; (try dsimp only at hSw); go_simp; try (with_reducible rfl))
    try simp only [Act.put]
    try dsimp only
    try simp only [Act.put]
    refine wpAnyH_done (by kernel_rfl) ?_ _
    refine NoPanic.normal ?_
    go_wp2
    go_ret
    rename_i a1_ d1_ e1_ a2_ d2_ e2_
    obtain rfl : 6 = d1_ := Option.some.inj e1_
    obtain rfl : 48 = d2_ := Option.some.inj e2_
    exact ⟨by first | rfl | (simp; done) | (simp [*]; done), hB.trans (B24.mono hB.size)⟩
  · rw [decide_eq_false hfew] at hF
    clear hfew k1 k2 k3 k4 hlr hmu hwd hfr iA iB iD
    obtain ⟨W0, hW, hT, hB⟩ := box2 w 23 26 #[.int .i64 lr, .int .i64 mu, .int .i64 wd, .bool nest] #[.slice Aa A.length Ca, .slice Ab B.length Cb, .slice Ac C.length Cc, .slice Ad D.length Cd]
    obtain ⟨g, hg⟩ : ∃ g, g = w.heap.size := ⟨_, rfl⟩
    have hW' := Lib.hid (And.intro hW hg)
    rw [← hg] at hT
    have hgw : w.heap.size ≤ g := by omega
    clear hW hg
    obtain ⟨hMo, hRo⟩ := hT
    replace hv := hv.below hB
    obtain ⟨c1_hMo_0, c1_hMo_1, c1_hMo_2, c1_hMo_3⟩ := hMo.cells4
    obtain ⟨c1_hRo_0, c1_hRo_1, c1_hRo_2, c1_hRo_3⟩ := hRo.cells4
    go_enter Try.func3, Try.ntmps3
    go_wp2_with fail
    rw [← hW'.out.1, ← hW'.out.2]
    refine (hF _ hv).mono ?_
    rintro e w1 ⟨rfl, b1⟩
    replace hv := hv.below b1
    replace hMo := hMo.below b1 hMo.lt
    replace hRo := hRo.below b1 hRo.lt
    replace hB := hB.trans (b1.mono hB.size)
    clear c1_hMo_0 c1_hMo_1 c1_hMo_2 c1_hMo_3 c1_hRo_0 c1_hRo_1 c1_hRo_2 c1_hRo_3
    obtain ⟨c2_hMo_0, c2_hMo_1, c2_hMo_2, c2_hMo_3⟩ := hMo.cells4
    obtain ⟨c2_hRo_0, c2_hRo_1, c2_hRo_2, c2_hRo_3⟩ := hRo.cells4
    go_wp2_with fail
    refine (hL _).mono ?_
    rintro e w2 ⟨rfl, b2⟩
    replace hv := hv.below b2
    replace hMo := hMo.below b2 hMo.lt
    replace hRo := hRo.below b2 hRo.lt
    replace hB := hB.trans (b2.mono hB.size)
    clear c2_hMo_0 c2_hMo_1 c2_hMo_2 c2_hMo_3 c2_hRo_0 c2_hRo_1 c2_hRo_2 c2_hRo_3
    obtain ⟨c3_hMo_0, c3_hMo_1, c3_hMo_2, c3_hMo_3⟩ := hMo.cells4
    obtain ⟨c3_hRo_0, c3_hRo_1, c3_hRo_2, c3_hRo_3⟩ := hRo.cells4
    go_wp2
    go_ret
    exact ⟨rfl, hB⟩
end Go.Proofs.Ytbnnonmkkkhepaa
