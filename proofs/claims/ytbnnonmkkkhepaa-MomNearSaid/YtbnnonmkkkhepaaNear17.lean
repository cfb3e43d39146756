/- NEAR: without decay a new velocity is at most half a step from Mu times the old one, and the gradient; a new weight at most half a step from the old one less Lr times that. No conditions: every input. Printed by gen_near17b.py. -/
import Derived.Test.YtbnnonmkkkhepaaNum17b
import Derived.Test.YtbnnonmkkkhepaaPlain17
namespace Go.Proofs.Ytbnnonmkkkhepaa
open Go.ChangeShapes Go.WideShapes Go.ChangeAt Go.RowKit
attribute [local go_sem ↓] Go.wp_at_zero Go.wp_at_succ
set_option maxRecDepth 100000 in
set_option maxHeartbeats 16000000 in
theorem MomNear_all (lr mu wd f : Int) (nest : Bool) (v : Value) (A B C D : List Int) (w : World) (h : IsR w v A B C D) (hlr : In64 lr) (hmu : In64 mu) (_hwd : In64 wd) (_hfr : In64 f) (iA : AllIn A) (iB : AllIn B) (iD : AllIn D)
    (k1 : A.length ≤ 17592186044416) (k2 : B.length ≤ 17592186044416) (k3 : C.length ≤ 17592186044416) (k4 : D.length ≤ 17592186044416) :
    Calls Try.prog 4 #[.agg #[.int .i64 lr, .int .i64 mu, .int .i64 wd, .bool nest], v, .int .i64 f] w fun e w' => e = .returned (.bool true) ∧ Below w.heap.size w w' := by
  have hF := fun w h => few17_any v A B C D 36 w h k1 k2 k3 k4 (by omega)
  have hL := fun w => alive17_any w
  have hv := h
  obtain ⟨a, b, c, d, rfl, ha, hb, hc, hd⟩ := h
  obtain ⟨Aa, Ca, rfl, _, _⟩ := ha.form
  obtain ⟨Ab, Cb, rfl, _, _⟩ := hb.form
  obtain ⟨Ac, Cc, rfl, _, _⟩ := hc.form
  obtain ⟨Ad, Cd, rfl, _, _⟩ := hd.form
  by_cases hfew : A.length + B.length + C.length + D.length ≤ 36
  · rw [decide_eq_true hfew] at hF
    have hS := fun w h => Step_all lr mu 0 f nest _ A B C D w (hv.below h) (by omega) hlr hmu In64.zero iA iB iD
    by_cases he : stErr lr mu 0 nest f A B D = 0
    · obtain ⟨hr, lm, lg, _⟩ := stErr_zero he
      obtain ⟨f0, f1⟩ := rightM_f hr
      have hN := fun i (hi : i < A.length) => near_runs iD he hi
      have s1 := stWs_size he
      have s2 := stMs_size he
      rw [he] at hS
      obtain ⟨k, rfl⟩ := Int.eq_ofNat_of_zero_le f0
      have hk : k ≤ 40 := by omega
      simp only [Int.toNat_natCast] at hN
      generalize stWs lr mu 0 nest k A B D = xs at *
      generalize stMs lr mu 0 nest k A B D = ys at *
      have HN := Lib.hid hN
      have HI := Lib.hid (And.intro hlr (And.intro hmu (And.intro iA (And.intro iB iD))))
      have HS := Lib.hid (And.intro s1 (And.intro s2 (And.intro lm lg)))
      rw [lm, lg] at hv hF hS ⊢
      rw [lm] at hb
      rw [lg] at hd
      clear hN he hr lm lg f0 f1 iA iB iD hlr hmu k1 k2 k3 k4 hfew hc
      obtain ⟨W0, hW, hT, hB⟩ := box2 w 23 26 #[.int .i64 lr, .int .i64 mu, .int .i64 0, .bool nest] #[.slice Aa A.length Ca, .slice Ab A.length Cb, .slice Ac C.length Cc, .slice Ad A.length Cd]
      obtain ⟨g, hg⟩ : ∃ g, g = w.heap.size := ⟨_, rfl⟩
      have hW' := Lib.hid (And.intro hW hg)
      rw [← hg] at hT
      have hgw : w.heap.size ≤ g := by omega
      clear hW hg
      obtain ⟨hMo, hRo⟩ := hT
      replace hv := hv.below hB
      replace ha := ha.below hB
      replace hb := hb.below hB
      replace hd := hd.below hB
      obtain ⟨c1_hMo_0, c1_hMo_1, c1_hMo_2, c1_hMo_3⟩ := hMo.cells4
      obtain ⟨c1_hRo_0, c1_hRo_1, c1_hRo_2, c1_hRo_3⟩ := hRo.cells4
      go_enter Try.func4, Try.ntmps4
      go_wp2_with fail
      rw [← hW'.out.1, ← hW'.out.2]
      refine (hF _ hv).mono ?_
      rintro e w1 ⟨rfl, b1⟩
      replace hv := hv.below b1
      replace ha := ha.below b1
      replace hb := hb.below b1
      replace hd := hd.below b1
      replace hMo := hMo.below b1 hMo.lt
      replace hRo := hRo.below b1 hRo.lt
      replace hB := hB.trans (b1.mono hB.size)
      clear c1_hMo_0 c1_hMo_1 c1_hMo_2 c1_hMo_3 c1_hRo_0 c1_hRo_1 c1_hRo_2 c1_hRo_3
      obtain ⟨c2_hMo_0, c2_hMo_1, c2_hMo_2, c2_hMo_3⟩ := hMo.cells4
      obtain ⟨c2_hRo_0, c2_hRo_1, c2_hRo_2, c2_hRo_3⟩ := hRo.cells4
      go_wp2_with fail
      refine (hS _ hB).mono ?_
      rintro e w2 ⟨v2, rfl, ⟨x1, x2, x3, x4, rfl, i1, i2, i3, i4⟩, b2⟩
      replace hv := hv.below b2
      replace ha := ha.below b2
      replace hb := hb.below b2
      replace hd := hd.below b2
      replace hMo := hMo.below b2 hMo.lt
      replace hRo := hRo.below b2 hRo.lt
      replace hB := hB.trans (b2.mono hB.size)
      clear c2_hMo_0 c2_hMo_1 c2_hMo_2 c2_hMo_3 c2_hRo_0 c2_hRo_1 c2_hRo_2 c2_hRo_3
      obtain ⟨c3_hMo_0, c3_hMo_1, c3_hMo_2, c3_hMo_3⟩ := hMo.cells4
      obtain ⟨c3_hRo_0, c3_hRo_1, c3_hRo_2, c3_hRo_3⟩ := hRo.cells4
      obtain ⟨Ax1, Cx1, rfl, _, _⟩ := i1.form
      obtain ⟨Ax2, Cx2, rfl, _, _⟩ := i2.form
      obtain ⟨Ax3, Cx3, rfl, _, _⟩ := i3.form
      obtain ⟨Ax4, Cx4, rfl, _, _⟩ := i4.form
      rw [HS.out.1] at i1 ⊢
      rw [HS.out.2.1] at i2 ⊢
      obtain ⟨V1, eV, hX7, bV1⟩ := box1 w2 26 #[.slice Ax1 A.length Cx1, .slice Ax2 A.length Cx2, .slice Ax3 0 Cx3, .slice Ax4 0 Cx4]
      obtain ⟨X1, eX⟩ : ∃ X, X = w2.heap.size := ⟨_, rfl⟩
      rw [← eX] at hX7
      have EV1 := Lib.hid (And.intro eV eX)
      clear eV eX
      go_upto_region 5 with fail
      rw [← EV1.out.1, ← EV1.out.2]
      replace hv := hv.below bV1
      replace ha := ha.below bV1
      replace hb := hb.below bV1
      replace hd := hd.below bV1
      replace hMo := hMo.below bV1 hMo.lt
      replace hRo := hRo.below bV1 hRo.lt
      replace i1 := i1.below bV1
      replace i2 := i2.below bV1
      replace i3 := i3.below bV1
      replace i4 := i4.below bV1
      replace hB := hB.trans (bV1.mono hB.size)
      clear c3_hMo_0 c3_hMo_1 c3_hMo_2 c3_hMo_3 c3_hRo_0 c3_hRo_1 c3_hRo_2 c3_hRo_3
      obtain ⟨c4_hMo_0, c4_hMo_1, c4_hMo_2, c4_hMo_3⟩ := hMo.cells4
      obtain ⟨c4_hRo_0, c4_hRo_1, c4_hRo_2, c4_hRo_3⟩ := hRo.cells4
      clear c4_hMo_0 c4_hMo_1 c4_hMo_2 c4_hMo_3 c4_hRo_0 c4_hRo_1 c4_hRo_2 c4_hRo_3
      obtain ⟨c5_hMo_0, c5_hMo_1, c5_hMo_2, c5_hMo_3⟩ := hMo.cells4
      obtain ⟨c5_hRo_0, c5_hRo_1, c5_hRo_2, c5_hRo_3⟩ := hRo.cells4
      obtain ⟨c5_hX7_0, c5_hX7_1, c5_hX7_2, c5_hX7_3⟩ := hX7.cells4
      go_wp2
      go_loopw [9] (fun i wr => ∃ j : Nat, i = .int .i64 j ∧ j ≤ A.length ∧ Below V1.heap.size V1 wr) (fun i _ => A.length - (intOf i).toNat)
      case atStart => exact ⟨0, rfl, by omega, Below.refl _ _⟩
      case round =>
        obtain ⟨j, rfl, hj, bl⟩ := hrel
        replace ha := ha.below bl
        replace hb := hb.below bl
        replace hd := hd.below bl
        replace hMo := hMo.below bl hMo.lt
        replace hRo := hRo.below bl hRo.lt
        replace i1 := i1.below bl
        replace i2 := i2.below bl
        replace hX7 := hX7.below bl hX7.lt
        replace hB := hB.trans (bl.mono hB.size)
        clear c5_hMo_0 c5_hMo_1 c5_hMo_2 c5_hMo_3 c5_hRo_0 c5_hRo_1 c5_hRo_2 c5_hRo_3 c5_hX7_0 c5_hX7_1 c5_hX7_2 c5_hX7_3
        obtain ⟨c6_hMo_0, c6_hMo_1, c6_hMo_2, c6_hMo_3⟩ := hMo.cells4
        obtain ⟨c6_hRo_0, c6_hRo_1, c6_hRo_2, c6_hRo_3⟩ := hRo.cells4
        obtain ⟨c6_hX7_0, c6_hX7_1, c6_hX7_2, c6_hX7_3⟩ := hX7.cells4
        by_cases hlt : j < A.length
        · obtain ⟨ada, rfl, ca⟩ := ha.at_ hlt
          obtain ⟨adb, rfl, cb⟩ := hb.at_ (k := j) (by have := HS.out; omega)
          obtain ⟨add, rfl, cd⟩ := hd.at_ (k := j) (by have := HS.out; omega)
          obtain ⟨adx, rfl, cx⟩ := i1.at_ (k := j) (by have := HS.out; omega)
          obtain ⟨ady, rfl, cy⟩ := i2.at_ (k := j) (by have := HS.out; omega)
          have g0 : (0 : Int) ≤ (j : Int) := by omega
          have g1 : (j : Int) < (A.length : Int) := by omega
          obtain ⟨u, iu, iy, ix, un, up, fy, fx⟩ := HN.out j hlt
          obtain ⟨hlr, hmu, iA, iB, iD⟩ := HI.out
          have jA := iA j
          have jB := iB j
          have jD := iD j
          clear iA iB iD
          generalize iat A j = va at *
          generalize iat B j = vb at *
          generalize iat D j = vd at *
          generalize iat xs j = vx at *
          generalize iat ys j = vy at *
          have sp : Sz (2 ^ k) 1 := (Sz.two_pow k).more (by omega)
          have bq : ∀ n, In64 n → BQ (mkRat n (2 ^ k)) 1 := fun n hn => BQ.mk (Sz.u64 (by have := hn.1; have := hn.2; unfold W64; omega)) sp (by omega)
          have q1 : BQ (mkRat mu (2 ^ k) * mkRat vb (2 ^ k)) 10 := ((bq _ hmu).mul (bq _ jB)).more (by omega)
          have q2 : BQ (mkRat mu (2 ^ k) * mkRat vb (2 ^ k) + mkRat vd (2 ^ k)) 100 := (q1.add (bq _ jD)).more (by omega)
          have q3 : BQ (mkRat lr (2 ^ k) * mkRat u (2 ^ k)) 10 := ((bq _ hlr).mul (bq _ iu)).more (by omega)
          have q4 : BQ (mkRat va (2 ^ k) - mkRat lr (2 ^ k) * mkRat u (2 ^ k)) 100 := by rw [Rat.sub_eq_add_neg]; exact ((bq _ jA).add q3.neg).more (by omega)
          have hW1 := fun v w h => within_any vy v (mkRat mu (2 ^ k) * mkRat vb (2 ^ k) + mkRat vd (2 ^ k)) k w hk iy h (q2.more (by omega)) fy
          have hW2 := fun v w h => within_any vx v (mkRat va (2 ^ k) - mkRat lr (2 ^ k) * mkRat u (2 ^ k)) k w hk ix h (q4.more (by omega)) fx
          have hNm := fun w => num17_any mu k w hk hmu
          have hNb := fun w => num17_any vb k w hk jB
          have hNd := fun w => num17_any vd k w hk jD
          have hNa := fun w => num17_any va k w hk jA
          have hNl := fun w => num17_any lr k w hk hlr
          have hNu := fun w => num17_any u k w hk iu
          have hM1 := fun u v w h1 h2 => rqmul_any u v (mkRat mu (2 ^ k)) (mkRat vb (2 ^ k)) w h1 h2 ((bq _ hmu).more (by omega)) ((bq _ jB).more (by omega))
          have hA1 := fun u v w h1 h2 => rqadd_any u v (mkRat mu (2 ^ k) * mkRat vb (2 ^ k)) (mkRat vd (2 ^ k)) w h1 h2 (q1.more (by omega)) ((bq _ jD).more (by omega))
          have hM2 := fun u' v w h1 h2 => rqmul_any u' v (mkRat lr (2 ^ k)) (mkRat u (2 ^ k)) w h1 h2 ((bq _ hlr).more (by omega)) ((bq _ iu).more (by omega))
          have hS2 := fun u' v w h1 h2 => rqsub_any u' v (mkRat va (2 ^ k)) (mkRat lr (2 ^ k) * mkRat u (2 ^ k)) w h1 h2 ((bq _ jA).more (by omega)) (q3.more (by omega))
          have hMm := fun w => r08mul_any mu vy k w hk hmu iy
          generalize mkRat mu (2 ^ k) * mkRat vb (2 ^ k) + mkRat vd (2 ^ k) = r1 at *
          generalize mkRat va (2 ^ k) - mkRat lr (2 ^ k) * mkRat u (2 ^ k) = r2 at *
          generalize mkRat mu (2 ^ k) * mkRat vb (2 ^ k) = r3 at *
          generalize mkRat lr (2 ^ k) * mkRat u (2 ^ k) = r4 at *
          generalize fitV (mulZ mu vy k) = more at *
          generalize fitE (mulZ mu vy k) = moreE at *
          clear sp bq q1 q2 q3 q4 fy fx iy ix iu jA jB jD hlr hmu
          have c_mu := hMo.cells4.2.1
          have c_lr := hMo.cells4.1
          have c_A := hRo.cells4.1
          have c_B := hRo.cells4.2.1
          have c_D := hRo.cells4.2.2.2
          have c_x := hX7.cells4.1
          have c_y := hX7.cells4.2.1
          have c_n := hMo.cells4.2.2.2
          go_upto_region 12 with fail
          go_cut [10] (fun s wx => ∃ Z A1 L1 C1 A2 L2 C2, s = .pointer (some ⟨Z, 0, none⟩) ∧ Blk wx Z 40 #[.bool (decide (r1.num < 0)), .slice A1 L1 C1, .slice A2 L2 C2] ∧ IsN wx (.slice A1 L1 C1) r1.num.natAbs ∧ IsN wx (.slice A2 L2 C2) r1.den ∧ Below wr.heap.size wr wx)
          case first =>
            go_region_held3 (fun w' => w'.cell? ⟨g, 1, none⟩ = some (.int .i64 mu) ∧ w'.cell? ⟨g + 1, 1, none⟩ = some (.slice (some adb) A.length Cb) ∧ w'.cell? ⟨g + 1, 3, none⟩ = some (.slice (some add) A.length Cd) ∧ w'.cell? (adb.add j) = some (.int .i64 vb) ∧ w'.cell? (add.add j) = some (.int .i64 vd))
              (first | exact ⟨cellB (by first | assumption | exact bdrew _ | exact Below.refl _ _ | exact balloc (bdrew _) _ | exact balloc (by assumption) _ | exact balloc (Below.refl _ _) _ | exact bset (bset (bset (by assumption) (by first | assumption | exact Nat.le_refl _) _) (by first | assumption | exact Nat.le_refl _) _) (by first | assumption | exact Nat.le_refl _) _) c_mu, cellB (by first | assumption | exact bdrew _ | exact Below.refl _ _ | exact balloc (bdrew _) _ | exact balloc (by assumption) _ | exact balloc (Below.refl _ _) _ | exact bset (bset (bset (by assumption) (by first | assumption | exact Nat.le_refl _) _) (by first | assumption | exact Nat.le_refl _) _) (by first | assumption | exact Nat.le_refl _) _) c_B, cellB (by first | assumption | exact bdrew _ | exact Below.refl _ _ | exact balloc (bdrew _) _ | exact balloc (by assumption) _ | exact balloc (Below.refl _ _) _ | exact bset (bset (bset (by assumption) (by first | assumption | exact Nat.le_refl _) _) (by first | assumption | exact Nat.le_refl _) _) (by first | assumption | exact Nat.le_refl _) _) c_D, cellB (by first | assumption | exact bdrew _ | exact Below.refl _ _ | exact balloc (bdrew _) _ | exact balloc (by assumption) _ | exact balloc (Below.refl _ _) _ | exact bset (bset (bset (by assumption) (by first | assumption | exact Nat.le_refl _) _) (by first | assumption | exact Nat.le_refl _) _) (by first | assumption | exact Nat.le_refl _) _) cb, cellB (by first | assumption | exact bdrew _ | exact Below.refl _ _ | exact balloc (bdrew _) _ | exact balloc (by assumption) _ | exact balloc (Below.refl _ _) _ | exact bset (bset (bset (by assumption) (by first | assumption | exact Nat.le_refl _) _) (by first | assumption | exact Nat.le_refl _) _) (by first | assumption | exact Nat.le_refl _) _) cd⟩)
              (first
                | (go_at_call 17; (with_reducible refine (hNm _).mono ?_); rintro e w1_ ⟨v1_, rfl, h1_, b1_⟩; (first | ((first | have hXX := newX b1_ wr (by first | assumption | exact bdrew _) | have hXX := newX (undrew b1_) wr (by first | exact Below.refl _ _ | assumption)); obtain ⟨hZ, sZ⟩ := hXX; try simp only [World.size_drew] at hZ sZ) | (have hZ := hZ.below b1_ hZ.lt) | skip); have B1_ := bstep (a := wr) (by first | assumption | exact bdrew _ | exact Below.refl _ _ | exact balloc (bdrew _) _ | exact balloc (by assumption) _ | exact balloc (Below.refl _ _) _ | exact bset (bset (bset (by assumption) (by first | assumption | exact Nat.le_refl _) _) (by first | assumption | exact Nat.le_refl _) _) (by first | assumption | exact Nat.le_refl _) _) b1_)
                | (go_at_call 17; (with_reducible refine (hNb _).mono ?_); rintro e w2_ ⟨v2_, rfl, h2_, b2_⟩; (first | ((first | have hXX := newX b2_ wr (by first | assumption | exact bdrew _) | have hXX := newX (undrew b2_) wr (by first | exact Below.refl _ _ | assumption)); obtain ⟨hZ, sZ⟩ := hXX; try simp only [World.size_drew] at hZ sZ) | (have hZ := hZ.below b2_ hZ.lt) | skip); have hk1_ := h1_.below (bstep (a := w1_) (by first | exact Below.refl _ _ | exact balloc (Below.refl _ _) _ | exact bdrew _ | exact (balloc (Below.refl _ _) _).drew) b2_); have B2_ := bstep (a := wr) (by first | assumption | exact bdrew _ | exact Below.refl _ _ | exact balloc (bdrew _) _ | exact balloc (by assumption) _ | exact balloc (Below.refl _ _) _ | exact bset (bset (bset (by assumption) (by first | assumption | exact Nat.le_refl _) _) (by first | assumption | exact Nat.le_refl _) _) (by first | assumption | exact Nat.le_refl _) _) b2_)
                | (go_at_call 16; (with_reducible refine (hM1 _ _ _ ?_ ?_).mono ?_); exact hk1_.below (by first | exact Below.refl _ _ | exact balloc (Below.refl _ _) _ | exact bdrew _ | exact (balloc (Below.refl _ _) _).drew); exact h2_.below (by first | exact Below.refl _ _ | exact balloc (Below.refl _ _) _ | exact bdrew _ | exact (balloc (Below.refl _ _) _).drew); rintro e w3_ ⟨v3_, rfl, h3_, b3_⟩; (first | ((first | have hXX := newX b3_ wr (by first | assumption | exact bdrew _) | have hXX := newX (undrew b3_) wr (by first | exact Below.refl _ _ | assumption)); obtain ⟨hZ, sZ⟩ := hXX; try simp only [World.size_drew] at hZ sZ) | (have hZ := hZ.below b3_ hZ.lt) | skip); have B3_ := bstep (a := wr) (by first | assumption | exact bdrew _ | exact Below.refl _ _ | exact balloc (bdrew _) _ | exact balloc (by assumption) _ | exact balloc (Below.refl _ _) _ | exact bset (bset (bset (by assumption) (by first | assumption | exact Nat.le_refl _) _) (by first | assumption | exact Nat.le_refl _) _) (by first | assumption | exact Nat.le_refl _) _) b3_)
                | (go_at_call 17; (with_reducible refine (hNd _).mono ?_); rintro e w4_ ⟨v4_, rfl, h4_, b4_⟩; (first | ((first | have hXX := newX b4_ wr (by first | assumption | exact bdrew _) | have hXX := newX (undrew b4_) wr (by first | exact Below.refl _ _ | assumption)); obtain ⟨hZ, sZ⟩ := hXX; try simp only [World.size_drew] at hZ sZ) | (have hZ := hZ.below b4_ hZ.lt) | skip); have hk3_ := h3_.below (bstep (a := w3_) (by first | exact Below.refl _ _ | exact balloc (Below.refl _ _) _ | exact bdrew _ | exact (balloc (Below.refl _ _) _).drew) b4_); have B4_ := bstep (a := wr) (by first | assumption | exact bdrew _ | exact Below.refl _ _ | exact balloc (bdrew _) _ | exact balloc (by assumption) _ | exact balloc (Below.refl _ _) _ | exact bset (bset (bset (by assumption) (by first | assumption | exact Nat.le_refl _) _) (by first | assumption | exact Nat.le_refl _) _) (by first | assumption | exact Nat.le_refl _) _) b4_)
                | (go_at_call 15; (with_reducible refine (hA1 _ _ _ ?_ ?_).mono ?_); exact hk3_.below (by first | exact Below.refl _ _ | exact balloc (Below.refl _ _) _ | exact bdrew _ | exact (balloc (Below.refl _ _) _).drew); exact h4_.below (by first | exact Below.refl _ _ | exact balloc (Below.refl _ _) _ | exact bdrew _ | exact (balloc (Below.refl _ _) _).drew); rintro e w5_ ⟨v5_, rfl, hl_, b5_⟩; (first | ((first | have hXX := newX b5_ wr (by first | assumption | exact bdrew _) | have hXX := newX (undrew b5_) wr (by first | exact Below.refl _ _ | assumption)); obtain ⟨hZ, sZ⟩ := hXX; try simp only [World.size_drew] at hZ sZ) | (have hZ := hZ.below b5_ hZ.lt) | skip); have B5_ := bstep (a := wr) (by first | assumption | exact bdrew _ | exact Below.refl _ _ | exact balloc (bdrew _) _ | exact balloc (by assumption) _ | exact balloc (Below.refl _ _) _ | exact bset (bset (bset (by assumption) (by first | assumption | exact Nat.le_refl _) _) (by first | assumption | exact Nat.le_refl _) _) (by first | assumption | exact Nat.le_refl _) _) b5_; obtain ⟨A3, L3, C3, A4, L4, C4, rfl, hpL, hqL⟩ := qcell hl_; (try (obtain ⟨z0, z1, z2⟩ := hZ.cells3; have y0 := hZ.frozen 0; have y1 := hZ.frozen 1; have y2 := hZ.frozen 2))))
            all_goals (go_wp2_with fail; go_meet)
            all_goals
              first
                | exact ⟨_, _, _, _, _, _, _, rfl, Blk.new _ _ _, hpL.below (balloc (Below.refl _ _) _), hqL.below (balloc (Below.refl _ _) _), balloc B5_ _⟩
                | (obtain ⟨p1, p2, p3⟩ := put3 hZ (.bool (decide (r1.num < 0))) (.slice A3 L3 C3) (.slice A4 L4 C4) (by simp [noU]) B5_ (by first | assumption | exact Nat.le_refl _)
                   exact ⟨_, _, _, _, _, _, _, rfl, p1, p2 _ _ hpL, p2 _ _ hqL, p3⟩)
          obtain ⟨Z1, P1, P2, P3, P4, P5, P6, rfl, hV, hVp, hVq, bz⟩ := hcut
          replace c_mu := cellB bz c_mu
          replace c_lr := cellB bz c_lr
          replace c_A := cellB bz c_A
          replace c_B := cellB bz c_B
          replace c_D := cellB bz c_D
          replace c_x := cellB bz c_x
          replace c_y := cellB bz c_y
          replace ca := cellB bz ca
          replace cb := cellB bz cb
          replace cd := cellB bz cd
          replace cx := cellB bz cx
          replace cy := cellB bz cy
          replace c_n := cellB bz c_n
          clear hNm hNb hM1 hNd hA1
          replace bl := bl.trans (bz.mono bl.size)
          clear bz
          rcases nest with _ | _
          · have hu := (up rfl).symm
            subst hu
            clear hMm un up
            go_upto_region 17 with fail
            go_cut [14] (fun s wx => ∃ Z A1 L1 C1 A2 L2 C2, s = .pointer (some ⟨Z, 0, none⟩) ∧ Blk wx Z 40 #[.bool (decide (r2.num < 0)), .slice A1 L1 C1, .slice A2 L2 C2] ∧ IsN wx (.slice A1 L1 C1) r2.num.natAbs ∧ IsN wx (.slice A2 L2 C2) r2.den ∧ Below wc.heap.size wc wx)
            case first =>
              go_region_held3 (fun w' => w'.cell? ⟨g, 0, none⟩ = some (.int .i64 lr) ∧ w'.cell? ⟨g + 1, 0, none⟩ = some (.slice (some ada) A.length Ca) ∧ w'.cell? (ada.add j) = some (.int .i64 va))
                (first | exact ⟨cellB (by first | assumption | exact bdrew _ | exact Below.refl _ _ | exact balloc (bdrew _) _ | exact balloc (by assumption) _ | exact balloc (Below.refl _ _) _ | exact bset (bset (bset (by assumption) (by first | assumption | exact Nat.le_refl _) _) (by first | assumption | exact Nat.le_refl _) _) (by first | assumption | exact Nat.le_refl _) _) c_lr, cellB (by first | assumption | exact bdrew _ | exact Below.refl _ _ | exact balloc (bdrew _) _ | exact balloc (by assumption) _ | exact balloc (Below.refl _ _) _ | exact bset (bset (bset (by assumption) (by first | assumption | exact Nat.le_refl _) _) (by first | assumption | exact Nat.le_refl _) _) (by first | assumption | exact Nat.le_refl _) _) c_A, cellB (by first | assumption | exact bdrew _ | exact Below.refl _ _ | exact balloc (bdrew _) _ | exact balloc (by assumption) _ | exact balloc (Below.refl _ _) _ | exact bset (bset (bset (by assumption) (by first | assumption | exact Nat.le_refl _) _) (by first | assumption | exact Nat.le_refl _) _) (by first | assumption | exact Nat.le_refl _) _) ca⟩)
                (first
                  | (go_at_call 17; (with_reducible refine (hNa _).mono ?_); rintro e w1_ ⟨v1_, rfl, h1_, b1_⟩; (first | ((first | have hXX := newX b1_ wc (by first | assumption | exact bdrew _) | have hXX := newX (undrew b1_) wc (by first | exact Below.refl _ _ | assumption)); obtain ⟨hZ, sZ⟩ := hXX; try simp only [World.size_drew] at hZ sZ) | (have hZ := hZ.below b1_ hZ.lt) | skip); have B1_ := bstep (a := wc) (by first | assumption | exact bdrew _ | exact Below.refl _ _ | exact balloc (bdrew _) _ | exact balloc (by assumption) _ | exact balloc (Below.refl _ _) _ | exact bset (bset (bset (by assumption) (by first | assumption | exact Nat.le_refl _) _) (by first | assumption | exact Nat.le_refl _) _) (by first | assumption | exact Nat.le_refl _) _) b1_)
                  | (go_at_call 17; (with_reducible refine (hNl _).mono ?_); rintro e w2_ ⟨v2_, rfl, h2_, b2_⟩; (first | ((first | have hXX := newX b2_ wc (by first | assumption | exact bdrew _) | have hXX := newX (undrew b2_) wc (by first | exact Below.refl _ _ | assumption)); obtain ⟨hZ, sZ⟩ := hXX; try simp only [World.size_drew] at hZ sZ) | (have hZ := hZ.below b2_ hZ.lt) | skip); have hk1_ := h1_.below (bstep (a := w1_) (by first | exact Below.refl _ _ | exact balloc (Below.refl _ _) _ | exact bdrew _ | exact (balloc (Below.refl _ _) _).drew) b2_); have B2_ := bstep (a := wc) (by first | assumption | exact bdrew _ | exact Below.refl _ _ | exact balloc (bdrew _) _ | exact balloc (by assumption) _ | exact balloc (Below.refl _ _) _ | exact bset (bset (bset (by assumption) (by first | assumption | exact Nat.le_refl _) _) (by first | assumption | exact Nat.le_refl _) _) (by first | assumption | exact Nat.le_refl _) _) b2_)
                  | (go_at_call 17; (with_reducible refine (hNu _).mono ?_); rintro e w3_ ⟨v3_, rfl, h3_, b3_⟩; (first | ((first | have hXX := newX b3_ wc (by first | assumption | exact bdrew _) | have hXX := newX (undrew b3_) wc (by first | exact Below.refl _ _ | assumption)); obtain ⟨hZ, sZ⟩ := hXX; try simp only [World.size_drew] at hZ sZ) | (have hZ := hZ.below b3_ hZ.lt) | skip); have hk1_ := hk1_.below (bstep (a := w2_) (by first | exact Below.refl _ _ | exact balloc (Below.refl _ _) _ | exact bdrew _ | exact (balloc (Below.refl _ _) _).drew) b3_); have hk2_ := h2_.below (bstep (a := w2_) (by first | exact Below.refl _ _ | exact balloc (Below.refl _ _) _ | exact bdrew _ | exact (balloc (Below.refl _ _) _).drew) b3_); have B3_ := bstep (a := wc) (by first | assumption | exact bdrew _ | exact Below.refl _ _ | exact balloc (bdrew _) _ | exact balloc (by assumption) _ | exact balloc (Below.refl _ _) _ | exact bset (bset (bset (by assumption) (by first | assumption | exact Nat.le_refl _) _) (by first | assumption | exact Nat.le_refl _) _) (by first | assumption | exact Nat.le_refl _) _) b3_)
                  | (go_at_call 16; (with_reducible refine (hM2 _ _ _ ?_ ?_).mono ?_); exact hk2_.below (by first | exact Below.refl _ _ | exact balloc (Below.refl _ _) _ | exact bdrew _ | exact (balloc (Below.refl _ _) _).drew); exact h3_.below (by first | exact Below.refl _ _ | exact balloc (Below.refl _ _) _ | exact bdrew _ | exact (balloc (Below.refl _ _) _).drew); rintro e w4_ ⟨v4_, rfl, h4_, b4_⟩; (first | ((first | have hXX := newX b4_ wc (by first | assumption | exact bdrew _) | have hXX := newX (undrew b4_) wc (by first | exact Below.refl _ _ | assumption)); obtain ⟨hZ, sZ⟩ := hXX; try simp only [World.size_drew] at hZ sZ) | (have hZ := hZ.below b4_ hZ.lt) | skip); have hk1b_ := hk1_.below (bstep (a := w3_) (by first | exact Below.refl _ _ | exact balloc (Below.refl _ _) _ | exact bdrew _ | exact (balloc (Below.refl _ _) _).drew) b4_); have B4_ := bstep (a := wc) (by first | assumption | exact bdrew _ | exact Below.refl _ _ | exact balloc (bdrew _) _ | exact balloc (by assumption) _ | exact balloc (Below.refl _ _) _ | exact bset (bset (bset (by assumption) (by first | assumption | exact Nat.le_refl _) _) (by first | assumption | exact Nat.le_refl _) _) (by first | assumption | exact Nat.le_refl _) _) b4_)
                  | (go_at_call 19; (with_reducible refine (hS2 _ _ _ ?_ ?_).mono ?_); exact hk1b_.below (by first | exact Below.refl _ _ | exact balloc (Below.refl _ _) _ | exact bdrew _ | exact (balloc (Below.refl _ _) _).drew); exact h4_.below (by first | exact Below.refl _ _ | exact balloc (Below.refl _ _) _ | exact bdrew _ | exact (balloc (Below.refl _ _) _).drew); rintro e w5_ ⟨v5_, rfl, hl_, b5_⟩; (first | ((first | have hXX := newX b5_ wc (by first | assumption | exact bdrew _) | have hXX := newX (undrew b5_) wc (by first | exact Below.refl _ _ | assumption)); obtain ⟨hZ, sZ⟩ := hXX; try simp only [World.size_drew] at hZ sZ) | (have hZ := hZ.below b5_ hZ.lt) | skip); have B5_ := bstep (a := wc) (by first | assumption | exact bdrew _ | exact Below.refl _ _ | exact balloc (bdrew _) _ | exact balloc (by assumption) _ | exact balloc (Below.refl _ _) _ | exact bset (bset (bset (by assumption) (by first | assumption | exact Nat.le_refl _) _) (by first | assumption | exact Nat.le_refl _) _) (by first | assumption | exact Nat.le_refl _) _) b5_; obtain ⟨A3, L3, C3, A4, L4, C4, rfl, hpL, hqL⟩ := qcell hl_; (try (obtain ⟨z0, z1, z2⟩ := hZ.cells3; have y0 := hZ.frozen 0; have y1 := hZ.frozen 1; have y2 := hZ.frozen 2))))
              all_goals (go_wp2_with fail; go_meet)
              all_goals
                first
                  | exact ⟨_, _, _, _, _, _, _, rfl, Blk.new _ _ _, hpL.below (balloc (Below.refl _ _) _), hqL.below (balloc (Below.refl _ _) _), balloc B5_ _⟩
                  | (obtain ⟨p1, p2, p3⟩ := put3 hZ (.bool (decide (r2.num < 0))) (.slice A3 L3 C3) (.slice A4 L4 C4) (by simp [noU]) B5_ (by first | assumption | exact Nat.le_refl _)
                     exact ⟨_, _, _, _, _, _, _, rfl, p1, p2 _ _ hpL, p2 _ _ hqL, p3⟩)
            obtain ⟨Z2, O1, O2, O3, O4, O5, O6, rfl, hU, hUp, hUq, bz⟩ := hcut
            replace c_mu := cellB bz c_mu
            replace c_lr := cellB bz c_lr
            replace c_A := cellB bz c_A
            replace c_B := cellB bz c_B
            replace c_D := cellB bz c_D
            replace c_x := cellB bz c_x
            replace c_y := cellB bz c_y
            replace ca := cellB bz ca
            replace cb := cellB bz cb
            replace cd := cellB bz cd
            replace cx := cellB bz cx
            replace cy := cellB bz cy
            replace c_n := cellB bz c_n
            replace hV := hV.below bz hV.lt
            replace hVp := hVp.below bz
            replace hVq := hVq.below bz
            replace bl := bl.trans (bz.mono bl.size)
            clear bz
            obtain ⟨cv0, cv1, cv2⟩ := hV.cells3
            obtain ⟨cu0, cu1, cu2⟩ := hU.cells3
            go_upto_region 18 with fail
            go_region_held3 (fun w' => w'.cell? ⟨X1, 0, none⟩ = some (.slice (some adx) A.length Cx1) ∧ w'.cell? ⟨X1, 1, none⟩ = some (.slice (some ady) A.length Cx2) ∧ w'.cell? (adx.add j) = some (.int .i64 vx) ∧ w'.cell? (ady.add j) = some (.int .i64 vy) ∧ w'.cell? ⟨Z1, 0, none⟩ = some (.bool (decide (r1.num < 0))) ∧ w'.cell? ⟨Z1, 1, none⟩ = some (.slice P1 P2 P3) ∧ w'.cell? ⟨Z1, 2, none⟩ = some (.slice P4 P5 P6) ∧ w'.cell? ⟨Z2, 0, none⟩ = some (.bool (decide (r2.num < 0))) ∧ w'.cell? ⟨Z2, 1, none⟩ = some (.slice O1 O2 O3) ∧ w'.cell? ⟨Z2, 2, none⟩ = some (.slice O4 O5 O6))
              (first | exact ⟨cellB (by first | assumption | exact bdrew _ | exact Below.refl _ _ | exact balloc (bdrew _) _ | exact balloc (by assumption) _ | exact balloc (Below.refl _ _) _ | exact bset (bset (bset (by assumption) (by first | assumption | exact Nat.le_refl _) _) (by first | assumption | exact Nat.le_refl _) _) (by first | assumption | exact Nat.le_refl _) _) c_x, cellB (by first | assumption | exact bdrew _ | exact Below.refl _ _ | exact balloc (bdrew _) _ | exact balloc (by assumption) _ | exact balloc (Below.refl _ _) _ | exact bset (bset (bset (by assumption) (by first | assumption | exact Nat.le_refl _) _) (by first | assumption | exact Nat.le_refl _) _) (by first | assumption | exact Nat.le_refl _) _) c_y, cellB (by first | assumption | exact bdrew _ | exact Below.refl _ _ | exact balloc (bdrew _) _ | exact balloc (by assumption) _ | exact balloc (Below.refl _ _) _ | exact bset (bset (bset (by assumption) (by first | assumption | exact Nat.le_refl _) _) (by first | assumption | exact Nat.le_refl _) _) (by first | assumption | exact Nat.le_refl _) _) cx, cellB (by first | assumption | exact bdrew _ | exact Below.refl _ _ | exact balloc (bdrew _) _ | exact balloc (by assumption) _ | exact balloc (Below.refl _ _) _ | exact bset (bset (bset (by assumption) (by first | assumption | exact Nat.le_refl _) _) (by first | assumption | exact Nat.le_refl _) _) (by first | assumption | exact Nat.le_refl _) _) cy, cellB (by first | assumption | exact bdrew _ | exact Below.refl _ _ | exact balloc (bdrew _) _ | exact balloc (by assumption) _ | exact balloc (Below.refl _ _) _ | exact bset (bset (bset (by assumption) (by first | assumption | exact Nat.le_refl _) _) (by first | assumption | exact Nat.le_refl _) _) (by first | assumption | exact Nat.le_refl _) _) cv0, cellB (by first | assumption | exact bdrew _ | exact Below.refl _ _ | exact balloc (bdrew _) _ | exact balloc (by assumption) _ | exact balloc (Below.refl _ _) _ | exact bset (bset (bset (by assumption) (by first | assumption | exact Nat.le_refl _) _) (by first | assumption | exact Nat.le_refl _) _) (by first | assumption | exact Nat.le_refl _) _) cv1, cellB (by first | assumption | exact bdrew _ | exact Below.refl _ _ | exact balloc (bdrew _) _ | exact balloc (by assumption) _ | exact balloc (Below.refl _ _) _ | exact bset (bset (bset (by assumption) (by first | assumption | exact Nat.le_refl _) _) (by first | assumption | exact Nat.le_refl _) _) (by first | assumption | exact Nat.le_refl _) _) cv2, cellB (by first | assumption | exact bdrew _ | exact Below.refl _ _ | exact balloc (bdrew _) _ | exact balloc (by assumption) _ | exact balloc (Below.refl _ _) _ | exact bset (bset (bset (by assumption) (by first | assumption | exact Nat.le_refl _) _) (by first | assumption | exact Nat.le_refl _) _) (by first | assumption | exact Nat.le_refl _) _) cu0, cellB (by first | assumption | exact bdrew _ | exact Below.refl _ _ | exact balloc (bdrew _) _ | exact balloc (by assumption) _ | exact balloc (Below.refl _ _) _ | exact bset (bset (bset (by assumption) (by first | assumption | exact Nat.le_refl _) _) (by first | assumption | exact Nat.le_refl _) _) (by first | assumption | exact Nat.le_refl _) _) cu1, cellB (by first | assumption | exact bdrew _ | exact Below.refl _ _ | exact balloc (bdrew _) _ | exact balloc (by assumption) _ | exact balloc (Below.refl _ _) _ | exact bset (bset (bset (by assumption) (by first | assumption | exact Nat.le_refl _) _) (by first | assumption | exact Nat.le_refl _) _) (by first | assumption | exact Nat.le_refl _) _) cu2⟩)
              (first
                | (go_at_call 20; (with_reducible refine (hW1 _ _ ?_).mono ?_); exact ⟨_, _, rfl, hVp.below (by first | assumption | exact bdrew _ | exact Below.refl _ _ | exact balloc (bdrew _) _ | exact balloc (by assumption) _ | exact balloc (Below.refl _ _) _ | exact bset (bset (bset (by assumption) (by first | assumption | exact Nat.le_refl _) _) (by first | assumption | exact Nat.le_refl _) _) (by first | assumption | exact Nat.le_refl _) _), hVq.below (by first | assumption | exact bdrew _ | exact Below.refl _ _ | exact balloc (bdrew _) _ | exact balloc (by assumption) _ | exact balloc (Below.refl _ _) _ | exact bset (bset (bset (by assumption) (by first | assumption | exact Nat.le_refl _) _) (by first | assumption | exact Nat.le_refl _) _) (by first | assumption | exact Nat.le_refl _) _)⟩; rintro e s1_ ⟨rfl, e1_⟩; have E1_ := bstep (a := wc) (by first | assumption | exact bdrew _ | exact Below.refl _ _ | exact balloc (bdrew _) _ | exact balloc (by assumption) _ | exact balloc (Below.refl _ _) _ | exact bset (bset (bset (by assumption) (by first | assumption | exact Nat.le_refl _) _) (by first | assumption | exact Nat.le_refl _) _) (by first | assumption | exact Nat.le_refl _) _) e1_)
                | (go_at_call 20; (with_reducible refine (hW2 _ _ ?_).mono ?_); exact ⟨_, _, rfl, hUp.below (by first | assumption | exact bdrew _ | exact Below.refl _ _ | exact balloc (bdrew _) _ | exact balloc (by assumption) _ | exact balloc (Below.refl _ _) _ | exact bset (bset (bset (by assumption) (by first | assumption | exact Nat.le_refl _) _) (by first | assumption | exact Nat.le_refl _) _) (by first | assumption | exact Nat.le_refl _) _), hUq.below (by first | assumption | exact bdrew _ | exact Below.refl _ _ | exact balloc (bdrew _) _ | exact balloc (by assumption) _ | exact balloc (Below.refl _ _) _ | exact bset (bset (bset (by assumption) (by first | assumption | exact Nat.le_refl _) _) (by first | assumption | exact Nat.le_refl _) _) (by first | assumption | exact Nat.le_refl _) _)⟩; rintro e s2_ ⟨rfl, e2_⟩; have E2_ := bstep (a := wc) (by first | assumption | exact bdrew _ | exact Below.refl _ _ | exact balloc (bdrew _) _ | exact balloc (by assumption) _ | exact balloc (Below.refl _ _) _ | exact bset (bset (bset (by assumption) (by first | assumption | exact Nat.le_refl _) _) (by first | assumption | exact Nat.le_refl _) _) (by first | assumption | exact Nat.le_refl _) _) e2_))
            all_goals
              go_wp2
              go_round
              case rel => exact ⟨j + 1, by go_num, by omega, bl.trans (E2_.mono bl.size)⟩
              case measure => simp [intOf]; omega
          · have hw := un rfl
            clear un up
            go_upto_region 15 with fail
            go_region_held3 (fun w' => w'.cell? ⟨g, 1, none⟩ = some (.int .i64 mu) ∧ w'.cell? ⟨X1, 1, none⟩ = some (.slice (some ady) A.length Cx2) ∧ w'.cell? (ady.add j) = some (.int .i64 vy))
                (first | exact ⟨cellB (by first | assumption | exact bdrew _ | exact Below.refl _ _ | exact balloc (bdrew _) _ | exact balloc (by assumption) _ | exact balloc (Below.refl _ _) _ | exact bset (bset (bset (by assumption) (by first | assumption | exact Nat.le_refl _) _) (by first | assumption | exact Nat.le_refl _) _) (by first | assumption | exact Nat.le_refl _) _) c_mu, cellB (by first | assumption | exact bdrew _ | exact Below.refl _ _ | exact balloc (bdrew _) _ | exact balloc (by assumption) _ | exact balloc (Below.refl _ _) _ | exact bset (bset (bset (by assumption) (by first | assumption | exact Nat.le_refl _) _) (by first | assumption | exact Nat.le_refl _) _) (by first | assumption | exact Nat.le_refl _) _) c_y, cellB (by first | assumption | exact bdrew _ | exact Below.refl _ _ | exact balloc (bdrew _) _ | exact balloc (by assumption) _ | exact balloc (Below.refl _ _) _ | exact bset (bset (bset (by assumption) (by first | assumption | exact Nat.le_refl _) _) (by first | assumption | exact Nat.le_refl _) _) (by first | assumption | exact Nat.le_refl _) _) cy⟩)
                (first
                  | (go_at_call 18; (with_reducible refine (hMm _).mono ?_); rintro e wm ⟨rfl, bm⟩; replace bm := undrew bm))
            replace c_mu := cellB bm c_mu
            replace c_lr := cellB bm c_lr
            replace c_A := cellB bm c_A
            replace c_B := cellB bm c_B
            replace c_D := cellB bm c_D
            replace c_x := cellB bm c_x
            replace c_y := cellB bm c_y
            replace ca := cellB bm ca
            replace cb := cellB bm cb
            replace cd := cellB bm cd
            replace cx := cellB bm cx
            replace cy := cellB bm cy
            replace c_n := cellB bm c_n
            replace hV := hV.below bm hV.lt
            replace hVp := hVp.below bm
            replace hVq := hVq.below bm
            replace bl := bl.trans (bm.mono bl.size)
            clear bm hMm
            go_upto_region 17 with fail
            go_cut [14] (fun s wx => ∃ Z A1 L1 C1 A2 L2 C2, s = .pointer (some ⟨Z, 0, none⟩) ∧ Blk wx Z 40 #[.bool (decide (r2.num < 0)), .slice A1 L1 C1, .slice A2 L2 C2] ∧ IsN wx (.slice A1 L1 C1) r2.num.natAbs ∧ IsN wx (.slice A2 L2 C2) r2.den ∧ Below wm.heap.size wm wx)
            case first =>
              go_region_held3 (fun w' => w'.cell? ⟨g, 0, none⟩ = some (.int .i64 lr) ∧ w'.cell? ⟨g + 1, 0, none⟩ = some (.slice (some ada) A.length Ca) ∧ w'.cell? (ada.add j) = some (.int .i64 va))
                (first | exact ⟨cellB (by first | assumption | exact bdrew _ | exact Below.refl _ _ | exact balloc (bdrew _) _ | exact balloc (by assumption) _ | exact balloc (Below.refl _ _) _ | exact bset (bset (bset (by assumption) (by first | assumption | exact Nat.le_refl _) _) (by first | assumption | exact Nat.le_refl _) _) (by first | assumption | exact Nat.le_refl _) _) c_lr, cellB (by first | assumption | exact bdrew _ | exact Below.refl _ _ | exact balloc (bdrew _) _ | exact balloc (by assumption) _ | exact balloc (Below.refl _ _) _ | exact bset (bset (bset (by assumption) (by first | assumption | exact Nat.le_refl _) _) (by first | assumption | exact Nat.le_refl _) _) (by first | assumption | exact Nat.le_refl _) _) c_A, cellB (by first | assumption | exact bdrew _ | exact Below.refl _ _ | exact balloc (bdrew _) _ | exact balloc (by assumption) _ | exact balloc (Below.refl _ _) _ | exact bset (bset (bset (by assumption) (by first | assumption | exact Nat.le_refl _) _) (by first | assumption | exact Nat.le_refl _) _) (by first | assumption | exact Nat.le_refl _) _) ca⟩)
                (first
                  | (go_at_call 17; (with_reducible refine (hNa _).mono ?_); rintro e w1_ ⟨v1_, rfl, h1_, b1_⟩; (first | ((first | have hXX := newX b1_ wm (by first | assumption | exact bdrew _) | have hXX := newX (undrew b1_) wm (by first | exact Below.refl _ _ | assumption)); obtain ⟨hZ, sZ⟩ := hXX; try simp only [World.size_drew] at hZ sZ) | (have hZ := hZ.below b1_ hZ.lt) | skip); have B1_ := bstep (a := wm) (by first | assumption | exact bdrew _ | exact Below.refl _ _ | exact balloc (bdrew _) _ | exact balloc (by assumption) _ | exact balloc (Below.refl _ _) _ | exact bset (bset (bset (by assumption) (by first | assumption | exact Nat.le_refl _) _) (by first | assumption | exact Nat.le_refl _) _) (by first | assumption | exact Nat.le_refl _) _) b1_)
                  | (go_at_call 17; (with_reducible refine (hNl _).mono ?_); rintro e w2_ ⟨v2_, rfl, h2_, b2_⟩; (first | ((first | have hXX := newX b2_ wm (by first | assumption | exact bdrew _) | have hXX := newX (undrew b2_) wm (by first | exact Below.refl _ _ | assumption)); obtain ⟨hZ, sZ⟩ := hXX; try simp only [World.size_drew] at hZ sZ) | (have hZ := hZ.below b2_ hZ.lt) | skip); have hk1_ := h1_.below (bstep (a := w1_) (by first | exact Below.refl _ _ | exact balloc (Below.refl _ _) _ | exact bdrew _ | exact (balloc (Below.refl _ _) _).drew) b2_); have B2_ := bstep (a := wm) (by first | assumption | exact bdrew _ | exact Below.refl _ _ | exact balloc (bdrew _) _ | exact balloc (by assumption) _ | exact balloc (Below.refl _ _) _ | exact bset (bset (bset (by assumption) (by first | assumption | exact Nat.le_refl _) _) (by first | assumption | exact Nat.le_refl _) _) (by first | assumption | exact Nat.le_refl _) _) b2_)
                  | (go_at_call 17; (with_reducible refine (hNu _).mono ?_); rintro e w3_ ⟨v3_, rfl, h3_, b3_⟩; (first | ((first | have hXX := newX b3_ wm (by first | assumption | exact bdrew _) | have hXX := newX (undrew b3_) wm (by first | exact Below.refl _ _ | assumption)); obtain ⟨hZ, sZ⟩ := hXX; try simp only [World.size_drew] at hZ sZ) | (have hZ := hZ.below b3_ hZ.lt) | skip); have hk1_ := hk1_.below (bstep (a := w2_) (by first | exact Below.refl _ _ | exact balloc (Below.refl _ _) _ | exact bdrew _ | exact (balloc (Below.refl _ _) _).drew) b3_); have hk2_ := h2_.below (bstep (a := w2_) (by first | exact Below.refl _ _ | exact balloc (Below.refl _ _) _ | exact bdrew _ | exact (balloc (Below.refl _ _) _).drew) b3_); have B3_ := bstep (a := wm) (by first | assumption | exact bdrew _ | exact Below.refl _ _ | exact balloc (bdrew _) _ | exact balloc (by assumption) _ | exact balloc (Below.refl _ _) _ | exact bset (bset (bset (by assumption) (by first | assumption | exact Nat.le_refl _) _) (by first | assumption | exact Nat.le_refl _) _) (by first | assumption | exact Nat.le_refl _) _) b3_)
                  | (go_at_call 16; (with_reducible refine (hM2 _ _ _ ?_ ?_).mono ?_); exact hk2_.below (by first | exact Below.refl _ _ | exact balloc (Below.refl _ _) _ | exact bdrew _ | exact (balloc (Below.refl _ _) _).drew); exact h3_.below (by first | exact Below.refl _ _ | exact balloc (Below.refl _ _) _ | exact bdrew _ | exact (balloc (Below.refl _ _) _).drew); rintro e w4_ ⟨v4_, rfl, h4_, b4_⟩; (first | ((first | have hXX := newX b4_ wm (by first | assumption | exact bdrew _) | have hXX := newX (undrew b4_) wm (by first | exact Below.refl _ _ | assumption)); obtain ⟨hZ, sZ⟩ := hXX; try simp only [World.size_drew] at hZ sZ) | (have hZ := hZ.below b4_ hZ.lt) | skip); have hk1b_ := hk1_.below (bstep (a := w3_) (by first | exact Below.refl _ _ | exact balloc (Below.refl _ _) _ | exact bdrew _ | exact (balloc (Below.refl _ _) _).drew) b4_); have B4_ := bstep (a := wm) (by first | assumption | exact bdrew _ | exact Below.refl _ _ | exact balloc (bdrew _) _ | exact balloc (by assumption) _ | exact balloc (Below.refl _ _) _ | exact bset (bset (bset (by assumption) (by first | assumption | exact Nat.le_refl _) _) (by first | assumption | exact Nat.le_refl _) _) (by first | assumption | exact Nat.le_refl _) _) b4_)
                  | (go_at_call 19; (with_reducible refine (hS2 _ _ _ ?_ ?_).mono ?_); exact hk1b_.below (by first | exact Below.refl _ _ | exact balloc (Below.refl _ _) _ | exact bdrew _ | exact (balloc (Below.refl _ _) _).drew); exact h4_.below (by first | exact Below.refl _ _ | exact balloc (Below.refl _ _) _ | exact bdrew _ | exact (balloc (Below.refl _ _) _).drew); rintro e w5_ ⟨v5_, rfl, hl_, b5_⟩; (first | ((first | have hXX := newX b5_ wm (by first | assumption | exact bdrew _) | have hXX := newX (undrew b5_) wm (by first | exact Below.refl _ _ | assumption)); obtain ⟨hZ, sZ⟩ := hXX; try simp only [World.size_drew] at hZ sZ) | (have hZ := hZ.below b5_ hZ.lt) | skip); have B5_ := bstep (a := wm) (by first | assumption | exact bdrew _ | exact Below.refl _ _ | exact balloc (bdrew _) _ | exact balloc (by assumption) _ | exact balloc (Below.refl _ _) _ | exact bset (bset (bset (by assumption) (by first | assumption | exact Nat.le_refl _) _) (by first | assumption | exact Nat.le_refl _) _) (by first | assumption | exact Nat.le_refl _) _) b5_; obtain ⟨A3, L3, C3, A4, L4, C4, rfl, hpL, hqL⟩ := qcell hl_; (try (obtain ⟨z0, z1, z2⟩ := hZ.cells3; have y0 := hZ.frozen 0; have y1 := hZ.frozen 1; have y2 := hZ.frozen 2))))
              all_goals (go_wp2_with fail; go_meet)
              all_goals
                first
                  | exact ⟨_, _, _, _, _, _, _, rfl, Blk.new _ _ _, hpL.below (balloc (Below.refl _ _) _), hqL.below (balloc (Below.refl _ _) _), balloc B5_ _⟩
                  | (obtain ⟨p1, p2, p3⟩ := put3 hZ (.bool (decide (r2.num < 0))) (.slice A3 L3 C3) (.slice A4 L4 C4) (by simp [noU]) B5_ (by first | assumption | exact Nat.le_refl _)
                     exact ⟨_, _, _, _, _, _, _, rfl, p1, p2 _ _ hpL, p2 _ _ hqL, p3⟩)
            obtain ⟨Z2, O1, O2, O3, O4, O5, O6, rfl, hU, hUp, hUq, bz⟩ := hcut
            replace c_mu := cellB bz c_mu
            replace c_lr := cellB bz c_lr
            replace c_A := cellB bz c_A
            replace c_B := cellB bz c_B
            replace c_D := cellB bz c_D
            replace c_x := cellB bz c_x
            replace c_y := cellB bz c_y
            replace ca := cellB bz ca
            replace cb := cellB bz cb
            replace cd := cellB bz cd
            replace cx := cellB bz cx
            replace cy := cellB bz cy
            replace c_n := cellB bz c_n
            replace hV := hV.below bz hV.lt
            replace hVp := hVp.below bz
            replace hVq := hVq.below bz
            replace bl := bl.trans (bz.mono bl.size)
            clear bz
            obtain ⟨cv0, cv1, cv2⟩ := hV.cells3
            obtain ⟨cu0, cu1, cu2⟩ := hU.cells3
            go_upto_region 18 with fail
            go_region_held3 (fun w' => w'.cell? ⟨X1, 0, none⟩ = some (.slice (some adx) A.length Cx1) ∧ w'.cell? ⟨X1, 1, none⟩ = some (.slice (some ady) A.length Cx2) ∧ w'.cell? (adx.add j) = some (.int .i64 vx) ∧ w'.cell? (ady.add j) = some (.int .i64 vy) ∧ w'.cell? ⟨Z1, 0, none⟩ = some (.bool (decide (r1.num < 0))) ∧ w'.cell? ⟨Z1, 1, none⟩ = some (.slice P1 P2 P3) ∧ w'.cell? ⟨Z1, 2, none⟩ = some (.slice P4 P5 P6) ∧ w'.cell? ⟨Z2, 0, none⟩ = some (.bool (decide (r2.num < 0))) ∧ w'.cell? ⟨Z2, 1, none⟩ = some (.slice O1 O2 O3) ∧ w'.cell? ⟨Z2, 2, none⟩ = some (.slice O4 O5 O6))
              (first | exact ⟨cellB (by first | assumption | exact bdrew _ | exact Below.refl _ _ | exact balloc (bdrew _) _ | exact balloc (by assumption) _ | exact balloc (Below.refl _ _) _ | exact bset (bset (bset (by assumption) (by first | assumption | exact Nat.le_refl _) _) (by first | assumption | exact Nat.le_refl _) _) (by first | assumption | exact Nat.le_refl _) _) c_x, cellB (by first | assumption | exact bdrew _ | exact Below.refl _ _ | exact balloc (bdrew _) _ | exact balloc (by assumption) _ | exact balloc (Below.refl _ _) _ | exact bset (bset (bset (by assumption) (by first | assumption | exact Nat.le_refl _) _) (by first | assumption | exact Nat.le_refl _) _) (by first | assumption | exact Nat.le_refl _) _) c_y, cellB (by first | assumption | exact bdrew _ | exact Below.refl _ _ | exact balloc (bdrew _) _ | exact balloc (by assumption) _ | exact balloc (Below.refl _ _) _ | exact bset (bset (bset (by assumption) (by first | assumption | exact Nat.le_refl _) _) (by first | assumption | exact Nat.le_refl _) _) (by first | assumption | exact Nat.le_refl _) _) cx, cellB (by first | assumption | exact bdrew _ | exact Below.refl _ _ | exact balloc (bdrew _) _ | exact balloc (by assumption) _ | exact balloc (Below.refl _ _) _ | exact bset (bset (bset (by assumption) (by first | assumption | exact Nat.le_refl _) _) (by first | assumption | exact Nat.le_refl _) _) (by first | assumption | exact Nat.le_refl _) _) cy, cellB (by first | assumption | exact bdrew _ | exact Below.refl _ _ | exact balloc (bdrew _) _ | exact balloc (by assumption) _ | exact balloc (Below.refl _ _) _ | exact bset (bset (bset (by assumption) (by first | assumption | exact Nat.le_refl _) _) (by first | assumption | exact Nat.le_refl _) _) (by first | assumption | exact Nat.le_refl _) _) cv0, cellB (by first | assumption | exact bdrew _ | exact Below.refl _ _ | exact balloc (bdrew _) _ | exact balloc (by assumption) _ | exact balloc (Below.refl _ _) _ | exact bset (bset (bset (by assumption) (by first | assumption | exact Nat.le_refl _) _) (by first | assumption | exact Nat.le_refl _) _) (by first | assumption | exact Nat.le_refl _) _) cv1, cellB (by first | assumption | exact bdrew _ | exact Below.refl _ _ | exact balloc (bdrew _) _ | exact balloc (by assumption) _ | exact balloc (Below.refl _ _) _ | exact bset (bset (bset (by assumption) (by first | assumption | exact Nat.le_refl _) _) (by first | assumption | exact Nat.le_refl _) _) (by first | assumption | exact Nat.le_refl _) _) cv2, cellB (by first | assumption | exact bdrew _ | exact Below.refl _ _ | exact balloc (bdrew _) _ | exact balloc (by assumption) _ | exact balloc (Below.refl _ _) _ | exact bset (bset (bset (by assumption) (by first | assumption | exact Nat.le_refl _) _) (by first | assumption | exact Nat.le_refl _) _) (by first | assumption | exact Nat.le_refl _) _) cu0, cellB (by first | assumption | exact bdrew _ | exact Below.refl _ _ | exact balloc (bdrew _) _ | exact balloc (by assumption) _ | exact balloc (Below.refl _ _) _ | exact bset (bset (bset (by assumption) (by first | assumption | exact Nat.le_refl _) _) (by first | assumption | exact Nat.le_refl _) _) (by first | assumption | exact Nat.le_refl _) _) cu1, cellB (by first | assumption | exact bdrew _ | exact Below.refl _ _ | exact balloc (bdrew _) _ | exact balloc (by assumption) _ | exact balloc (Below.refl _ _) _ | exact bset (bset (bset (by assumption) (by first | assumption | exact Nat.le_refl _) _) (by first | assumption | exact Nat.le_refl _) _) (by first | assumption | exact Nat.le_refl _) _) cu2⟩)
              (first
                | (go_at_call 20; (with_reducible refine (hW1 _ _ ?_).mono ?_); exact ⟨_, _, rfl, hVp.below (by first | assumption | exact bdrew _ | exact Below.refl _ _ | exact balloc (bdrew _) _ | exact balloc (by assumption) _ | exact balloc (Below.refl _ _) _ | exact bset (bset (bset (by assumption) (by first | assumption | exact Nat.le_refl _) _) (by first | assumption | exact Nat.le_refl _) _) (by first | assumption | exact Nat.le_refl _) _), hVq.below (by first | assumption | exact bdrew _ | exact Below.refl _ _ | exact balloc (bdrew _) _ | exact balloc (by assumption) _ | exact balloc (Below.refl _ _) _ | exact bset (bset (bset (by assumption) (by first | assumption | exact Nat.le_refl _) _) (by first | assumption | exact Nat.le_refl _) _) (by first | assumption | exact Nat.le_refl _) _)⟩; rintro e s1_ ⟨rfl, e1_⟩; have E1_ := bstep (a := wc) (by first | assumption | exact bdrew _ | exact Below.refl _ _ | exact balloc (bdrew _) _ | exact balloc (by assumption) _ | exact balloc (Below.refl _ _) _ | exact bset (bset (bset (by assumption) (by first | assumption | exact Nat.le_refl _) _) (by first | assumption | exact Nat.le_refl _) _) (by first | assumption | exact Nat.le_refl _) _) e1_)
                | (go_at_call 20; (with_reducible refine (hW2 _ _ ?_).mono ?_); exact ⟨_, _, rfl, hUp.below (by first | assumption | exact bdrew _ | exact Below.refl _ _ | exact balloc (bdrew _) _ | exact balloc (by assumption) _ | exact balloc (Below.refl _ _) _ | exact bset (bset (bset (by assumption) (by first | assumption | exact Nat.le_refl _) _) (by first | assumption | exact Nat.le_refl _) _) (by first | assumption | exact Nat.le_refl _) _), hUq.below (by first | assumption | exact bdrew _ | exact Below.refl _ _ | exact balloc (bdrew _) _ | exact balloc (by assumption) _ | exact balloc (Below.refl _ _) _ | exact bset (bset (bset (by assumption) (by first | assumption | exact Nat.le_refl _) _) (by first | assumption | exact Nat.le_refl _) _) (by first | assumption | exact Nat.le_refl _) _)⟩; rintro e s2_ ⟨rfl, e2_⟩; have E2_ := bstep (a := wc) (by first | assumption | exact bdrew _ | exact Below.refl _ _ | exact balloc (bdrew _) _ | exact balloc (by assumption) _ | exact balloc (Below.refl _ _) _ | exact bset (bset (bset (by assumption) (by first | assumption | exact Nat.le_refl _) _) (by first | assumption | exact Nat.le_refl _) _) (by first | assumption | exact Nat.le_refl _) _) e2_))
            all_goals
              go_wp2
              go_round
              case rel => exact ⟨j + 1, by go_num, by omega, bl.trans (E2_.mono bl.size)⟩
              case measure => simp [intOf]; omega
        · obtain rfl : j = A.length := by omega
          go_wp2_with fail
          refine (hL _).mono ?_
          rintro e w3 ⟨rfl, b3⟩
          replace ha := ha.below b3
          replace hb := hb.below b3
          replace hd := hd.below b3
          replace hMo := hMo.below b3 hMo.lt
          replace hRo := hRo.below b3 hRo.lt
          replace i1 := i1.below b3
          replace i2 := i2.below b3
          replace hX7 := hX7.below b3 hX7.lt
          replace hB := hB.trans (b3.mono hB.size)
          clear c6_hMo_0 c6_hMo_1 c6_hMo_2 c6_hMo_3 c6_hRo_0 c6_hRo_1 c6_hRo_2 c6_hRo_3 c6_hX7_0 c6_hX7_1 c6_hX7_2 c6_hX7_3
          obtain ⟨c7_hMo_0, c7_hMo_1, c7_hMo_2, c7_hMo_3⟩ := hMo.cells4
          obtain ⟨c7_hRo_0, c7_hRo_1, c7_hRo_2, c7_hRo_3⟩ := hRo.cells4
          obtain ⟨c7_hX7_0, c7_hX7_1, c7_hX7_2, c7_hX7_3⟩ := hX7.cells4
          go_wp2
          go_ret
          exact ⟨rfl, hB⟩
    · have hS' := fun w h => (hS w h)
      rw [stWs_err he, stMs_err he] at hS
      have hM := fun u v w h h' => (same17_any u v [] [] [] [] [] [] [] [] w h h').mono (fun e w' k => (⟨k.1.trans (by simp), k.2⟩ : e = .returned (.bool true) ∧ Below w.heap.size w w'))
      clear hS'
      generalize stErr lr mu 0 nest f A B D = e1 at *
      have he0 : (e1 == 0) = false := by simpa using he
      clear k1 k2 k3 k4 hfew ha hb hc hd iA iB iD hlr hmu
      obtain ⟨W0, hW, hT, hB⟩ := box2 w 23 26 #[.int .i64 lr, .int .i64 mu, .int .i64 0, .bool nest] #[.slice Aa A.length Ca, .slice Ab B.length Cb, .slice Ac C.length Cc, .slice Ad D.length Cd]
      obtain ⟨g, hg⟩ : ∃ g, g = w.heap.size := ⟨_, rfl⟩
      have hW' := Lib.hid (And.intro hW hg)
      rw [← hg] at hT
      have hgw : w.heap.size ≤ g := by omega
      clear hW hg
      obtain ⟨hMo, hRo⟩ := hT
      replace hv := hv.below hB
      obtain ⟨c1_hMo_0, c1_hMo_1, c1_hMo_2, c1_hMo_3⟩ := hMo.cells4
      obtain ⟨c1_hRo_0, c1_hRo_1, c1_hRo_2, c1_hRo_3⟩ := hRo.cells4
      go_enter Try.func4, Try.ntmps4
      go_wp2_with fail
      rw [← hW'.out.1, ← hW'.out.2]
      refine (hF _ hv).mono ?_
      rintro e w1 ⟨rfl, b1⟩
      replace hv := hv.below b1
      replace hMo := hMo.below b1 hMo.lt
      replace hRo := hRo.below b1 hRo.lt
      replace hB := hB.trans (b1.mono hB.size)
      clear c1_hMo_0 c1_hMo_1 c1_hMo_2 c1_hMo_3 c1_hRo_0 c1_hRo_1 c1_hRo_2 c1_hRo_3
      obtain ⟨c2_hMo_0, c2_hMo_1, c2_hMo_2, c2_hMo_3⟩ := hMo.cells4
      obtain ⟨c2_hRo_0, c2_hRo_1, c2_hRo_2, c2_hRo_3⟩ := hRo.cells4
      go_wp2_with fail
      refine (hS _ hB).mono ?_
      rintro e w2 ⟨v2, rfl, ⟨x1, x2, x3, x4, rfl, i1, i2, i3, i4⟩, b2⟩
      replace hv := hv.below b2
      replace hMo := hMo.below b2 hMo.lt
      replace hRo := hRo.below b2 hRo.lt
      replace hB := hB.trans (b2.mono hB.size)
      clear c2_hMo_0 c2_hMo_1 c2_hMo_2 c2_hMo_3 c2_hRo_0 c2_hRo_1 c2_hRo_2 c2_hRo_3
      obtain ⟨c3_hMo_0, c3_hMo_1, c3_hMo_2, c3_hMo_3⟩ := hMo.cells4
      obtain ⟨c3_hRo_0, c3_hRo_1, c3_hRo_2, c3_hRo_3⟩ := hRo.cells4
      obtain ⟨Ax1, Cx1, rfl, _, _⟩ := i1.form
      obtain ⟨Ax2, Cx2, rfl, _, _⟩ := i2.form
      obtain ⟨Ax3, Cx3, rfl, _, _⟩ := i3.form
      obtain ⟨Ax4, Cx4, rfl, _, _⟩ := i4.form
      obtain ⟨V1, eV, hX7, bV1⟩ := box1 w2 26 #[.slice Ax1 0 Cx1, .slice Ax2 0 Cx2, .slice Ax3 0 Cx3, .slice Ax4 0 Cx4]
      obtain ⟨X1, eX⟩ : ∃ X, X = w2.heap.size := ⟨_, rfl⟩
      rw [← eX] at hX7
      have EV1 := Lib.hid (And.intro eV eX)
      clear eV eX
      go_upto_region 5 with fail
      rw [← EV1.out.1, ← EV1.out.2]
      replace hv := hv.below bV1
      replace hMo := hMo.below bV1 hMo.lt
      replace hRo := hRo.below bV1 hRo.lt
      replace i1 := i1.below bV1
      replace i2 := i2.below bV1
      replace i3 := i3.below bV1
      replace i4 := i4.below bV1
      replace hB := hB.trans (bV1.mono hB.size)
      clear c3_hMo_0 c3_hMo_1 c3_hMo_2 c3_hMo_3 c3_hRo_0 c3_hRo_1 c3_hRo_2 c3_hRo_3
      obtain ⟨c4_hMo_0, c4_hMo_1, c4_hMo_2, c4_hMo_3⟩ := hMo.cells4
      obtain ⟨c4_hRo_0, c4_hRo_1, c4_hRo_2, c4_hRo_3⟩ := hRo.cells4
      clear c4_hMo_0 c4_hMo_1 c4_hMo_2 c4_hMo_3 c4_hRo_0 c4_hRo_1 c4_hRo_2 c4_hRo_3
      obtain ⟨c5_hMo_0, c5_hMo_1, c5_hMo_2, c5_hMo_3⟩ := hMo.cells4
      obtain ⟨c5_hRo_0, c5_hRo_1, c5_hRo_2, c5_hRo_3⟩ := hRo.cells4
      obtain ⟨c5_hX7_0, c5_hX7_1, c5_hX7_2, c5_hX7_3⟩ := hX7.cells4
      go_wp2_with fail
      refine (hL _).mono ?_
      rintro e w3 ⟨rfl, b3⟩
      replace hv := hv.below b3
      replace hMo := hMo.below b3 hMo.lt
      replace hRo := hRo.below b3 hRo.lt
      replace i1 := i1.below b3
      replace i2 := i2.below b3
      replace i3 := i3.below b3
      replace i4 := i4.below b3
      replace hX7 := hX7.below b3 hX7.lt
      replace hB := hB.trans (b3.mono hB.size)
      clear c5_hMo_0 c5_hMo_1 c5_hMo_2 c5_hMo_3 c5_hRo_0 c5_hRo_1 c5_hRo_2 c5_hRo_3 c5_hX7_0 c5_hX7_1 c5_hX7_2 c5_hX7_3
      obtain ⟨c6_hMo_0, c6_hMo_1, c6_hMo_2, c6_hMo_3⟩ := hMo.cells4
      obtain ⟨c6_hRo_0, c6_hRo_1, c6_hRo_2, c6_hRo_3⟩ := hRo.cells4
      obtain ⟨c6_hX7_0, c6_hX7_1, c6_hX7_2, c6_hX7_3⟩ := hX7.cells4
      go_wp2_with fail
      refine (hM _ _ _ ⟨_, _, _, _, rfl, i1, i2, i3, i4⟩ (IsR.nils _)).mono ?_
      rintro e w4 ⟨rfl, b4⟩
      replace hv := hv.below b4
      replace hMo := hMo.below b4 hMo.lt
      replace hRo := hRo.below b4 hRo.lt
      replace i1 := i1.below b4
      replace i2 := i2.below b4
      replace i3 := i3.below b4
      replace i4 := i4.below b4
      replace hX7 := hX7.below b4 hX7.lt
      replace hB := hB.trans (b4.mono hB.size)
      clear c6_hMo_0 c6_hMo_1 c6_hMo_2 c6_hMo_3 c6_hRo_0 c6_hRo_1 c6_hRo_2 c6_hRo_3 c6_hX7_0 c6_hX7_1 c6_hX7_2 c6_hX7_3
      obtain ⟨c7_hMo_0, c7_hMo_1, c7_hMo_2, c7_hMo_3⟩ := hMo.cells4
      obtain ⟨c7_hRo_0, c7_hRo_1, c7_hRo_2, c7_hRo_3⟩ := hRo.cells4
      obtain ⟨c7_hX7_0, c7_hX7_1, c7_hX7_2, c7_hX7_3⟩ := hX7.cells4
      go_wp2
      go_ret
      exact ⟨rfl, hB⟩
  · rw [decide_eq_false hfew] at hF
    clear k1 k2 k3 k4 hfew iA iB iD hlr hmu
    obtain ⟨W0, hW, hT, hB⟩ := box2 w 23 26 #[.int .i64 lr, .int .i64 mu, .int .i64 0, .bool nest] #[.slice Aa A.length Ca, .slice Ab B.length Cb, .slice Ac C.length Cc, .slice Ad D.length Cd]
    obtain ⟨g, hg⟩ : ∃ g, g = w.heap.size := ⟨_, rfl⟩
    have hW' := Lib.hid (And.intro hW hg)
    rw [← hg] at hT
    have hgw : w.heap.size ≤ g := by omega
    clear hW hg
    obtain ⟨hMo, hRo⟩ := hT
    replace hv := hv.below hB
    obtain ⟨c1_hMo_0, c1_hMo_1, c1_hMo_2, c1_hMo_3⟩ := hMo.cells4
    obtain ⟨c1_hRo_0, c1_hRo_1, c1_hRo_2, c1_hRo_3⟩ := hRo.cells4
    go_enter Try.func4, Try.ntmps4
    go_wp2_with fail
    rw [← hW'.out.1, ← hW'.out.2]
    refine (hF _ hv).mono ?_
    rintro e w1 ⟨rfl, b1⟩
    replace hv := hv.below b1
    replace hMo := hMo.below b1 hMo.lt
    replace hRo := hRo.below b1 hRo.lt
    replace hB := hB.trans (b1.mono hB.size)
    clear c1_hMo_0 c1_hMo_1 c1_hMo_2 c1_hMo_3 c1_hRo_0 c1_hRo_1 c1_hRo_2 c1_hRo_3
    obtain ⟨c2_hMo_0, c2_hMo_1, c2_hMo_2, c2_hMo_3⟩ := hMo.cells4
    obtain ⟨c2_hRo_0, c2_hRo_1, c2_hRo_2, c2_hRo_3⟩ := hRo.cells4
    go_wp2_with fail
    refine (hL _).mono ?_
    rintro e w2 ⟨rfl, b2⟩
    replace hv := hv.below b2
    replace hMo := hMo.below b2 hMo.lt
    replace hRo := hRo.below b2 hRo.lt
    replace hB := hB.trans (b2.mono hB.size)
    clear c2_hMo_0 c2_hMo_1 c2_hMo_2 c2_hMo_3 c2_hRo_0 c2_hRo_1 c2_hRo_2 c2_hRo_3
    obtain ⟨c3_hMo_0, c3_hMo_1, c3_hMo_2, c3_hMo_3⟩ := hMo.cells4
    obtain ⟨c3_hRo_0, c3_hRo_1, c3_hRo_2, c3_hRo_3⟩ := hRo.cells4
    go_wp2
    go_ret
    exact ⟨rfl, hB⟩
end Go.Proofs.Ytbnnonmkkkhepaa
