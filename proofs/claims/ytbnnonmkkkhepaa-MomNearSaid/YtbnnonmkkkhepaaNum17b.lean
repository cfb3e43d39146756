/- Near: a mantissa's number; is a mantissa at most half a step from a number. Printed by gen_near17.py. -/
import Derived.Test.YtbnnonmkkkhepaaNear17M
import Derived.Test.YtbnnonmkkkhepaaPlain17
import Derived.Test.YtbnnonmkkkhepaaR08
import Derived.Deep.RegionHeld3
import Derived.Deep.DrawnRows
import Derived.Deep.DeepCutAuto
namespace Go.Proofs.Ytbnnonmkkkhepaa
open Go.RowKit
attribute [local go_sem ↓] Go.wp_at_zero Go.wp_at_succ

theorem qcell {w : World} {v : Value} {r : Rat} (h : IsQ w v r) : ∃ A1 L1 C1 A2 L2 C2, v = .agg #[.bool (decide (r.num < 0)), .slice A1 L1 C1, .slice A2 L2 C2] ∧ IsN w (.slice A1 L1 C1) r.num.natAbs ∧ IsN w (.slice A2 L2 C2) r.den := by
  obtain ⟨p, q, rfl, hp, hq⟩ := h
  obtain ⟨A1, L1, C1, rfl⟩ := hp.frm
  obtain ⟨A2, L2, C2, rfl⟩ := hq.frm
  exact ⟨_, _, _, _, _, _, rfl, hp, hq⟩
theorem cmpQ_le {a b : Rat} (h : cmpQ a b ≤ 0) : cmpQ a b = -1 ∨ cmpQ a b = 0 := by unfold cmpQ cmpI at *; (repeat' split) <;> simp_all
set_option maxHeartbeats 2000000 in
theorem num17_any (n : Int) (k : Nat) (w : World) (hk : k ≤ 40) (hn : In64 n) :
    Calls Try.prog 17 #[.int .i64 n, .int .i64 k] w fun e w' => ∃ v', e = .returned v' ∧ IsQ w' v' (mkRat n (2 ^ k)) ∧ Below w.heap.size w w' := by
  have hR0 := fun w => rrat_any n k w hk hn
  generalize mkRat n (2 ^ k) = r at *
  clear hn hk
  obtain ⟨W0, hW, hR, hB⟩ := box1 w 40 #[.bool false, .slice none 0 0, .slice none 0 0]
  obtain ⟨g, hg⟩ : ∃ g, g = w.heap.size := ⟨_, rfl⟩
  have hW' := Lib.hid (And.intro hW hg)
  rw [← hg] at hR
  have hgw : w.heap.size ≤ g := by omega
  clear hW hg
  skip
  obtain ⟨c1_hR_0, c1_hR_1, c1_hR_2⟩ := hR.cells3
  go_enter Try.func17, Try.ntmps17
  go_wp2_with fail
  rw [← hW'.out.1, ← hW'.out.2]
  refine (hR0 _).mono ?_
  rintro e w1 ⟨v1, rfl, h1, b1⟩
  replace hR := hR.below b1 hR.lt
  replace hB := hB.trans (b1.mono hB.size)
  clear c1_hR_0 c1_hR_1 c1_hR_2
  obtain ⟨c2_hR_0, c2_hR_1, c2_hR_2⟩ := hR.cells3
  obtain ⟨A1, L1, C1, A2, L2, C2, rfl, hp, hq⟩ := qcell h1
  clear h1
  obtain ⟨V1, eV, hO, bV1⟩ := box1 w1 40 #[.bool (decide (r.num < 0)), .slice A1 L1 C1, .slice A2 L2 C2]
  obtain ⟨X1, eX⟩ : ∃ X, X = w1.heap.size := ⟨_, rfl⟩
  rw [← eX] at hO
  have EV1 := Lib.hid (And.intro eV eX)
  clear eV eX
  go_upto_region 2 with fail
  rw [← EV1.out.1, ← EV1.out.2]
  replace hR := hR.below bV1 hR.lt
  replace hp := hp.below bV1
  replace hq := hq.below bV1
  replace hB := hB.trans (bV1.mono hB.size)
  clear c2_hR_0 c2_hR_1 c2_hR_2
  obtain ⟨c3_hR_0, c3_hR_1, c3_hR_2⟩ := hR.cells3
  clear c3_hR_0 c3_hR_1 c3_hR_2
  obtain ⟨c4_hR_0, c4_hR_1, c4_hR_2⟩ := hR.cells3
  obtain ⟨c4_hO_0, c4_hO_1, c4_hO_2⟩ := hO.cells3
  obtain ⟨p1, p2, p3⟩ := put3 hR (.bool (decide (r.num < 0))) (.slice A1 L1 C1) (.slice A2 L2 C2) (by simp [noU]) hB (by omega)
  have q0 := hR.cell 0
  have z0 := hR.frozen 0
  have q1 := hR.cell 1
  have z1 := hR.frozen 1
  have q2 := hR.cell 2
  have z2 := hR.frozen 2
  have P := Lib.hid (And.intro (⟨_, _, rfl, p2 _ _ hp, p2 _ _ hq⟩ : IsQ _ (.agg #[.bool (decide (r.num < 0)), .slice A1 L1 C1, .slice A2 L2 C2]) r) (And.intro p3 p1.cells3))
  clear p1 p2 p3 
  go_wp2_with fail
  obtain ⟨P1, P2, P3, P4, P5⟩ := P.out
  exact bodyPost_ret (v := .agg #[.bool (decide (r.num < 0)), .slice A1 L1 C1, .slice A2 L2 C2]) (by simp [results, Try.results17, go_sem, P3, P4, P5, q0, q1, q2]) rfl ⟨_, rfl, P1, P2⟩
set_option maxRecDepth 100000 in
set_option maxHeartbeats 8000000 in
theorem within_any (n : Int) (v : Value) (r : Rat) (k : Nat) (w : World) (hk : k ≤ 40) (hn : In64 n) (h : IsQ w v r) (sr : BQ r 1000)
    (hle : cmpQ (absQ (mkRat n (2 ^ k) - r) + absQ (mkRat n (2 ^ k) - r)) (mkRat 1 (2 ^ k)) ≤ 0) :
    Calls Try.prog 20 #[.int .i64 n, v, .int .i64 k] w fun e w' => e = .returned (.bool true) ∧ Below w.heap.size w w' := by
  have hN := fun w => num17_any n k w hk hn
  have hN1 := fun w => num17_any 1 k w hk (by unfold In64; omega)
  have sp : Sz (2 ^ k) 1 := (Sz.two_pow k).more (by omega)
  have s1 : BQ (mkRat n (2 ^ k)) 1 := BQ.mk (Sz.u64 (by have := hn.1; have := hn.2; unfold W64; omega)) sp (by omega)
  have s0 : BQ (mkRat 1 (2 ^ k)) 1 := BQ.mk (Sz.u64 (by unfold W64; decide)) sp (by omega)
  have s2 : BQ (mkRat n (2 ^ k) - r) 2005 := by rw [Rat.sub_eq_add_neg]; exact (s1.add sr.neg).more (by omega)
  have hS := fun u v w h1 h2 => rqsub_any u v (mkRat n (2 ^ k)) r w h1 h2 (s1.more (by omega)) (sr.more (by omega))
  have hA := fun u w h => rqabs_any u (mkRat n (2 ^ k) - r) w h
  have hAd := fun u v w h1 h2 => rqadd_any u v (absQ (mkRat n (2 ^ k) - r)) (absQ (mkRat n (2 ^ k) - r)) w h1 h2 (s2.abs.more (by omega)) (s2.abs.more (by omega))
  have hC := fun u v w h1 h2 => rqcmp_any u v (absQ (mkRat n (2 ^ k) - r) + absQ (mkRat n (2 ^ k) - r)) (mkRat 1 (2 ^ k)) w h1 h2 ((s2.abs.add s2.abs).more (by omega)) (s0.more (by omega))
  have hx := cmpQ_le hle
  generalize cmpQ (absQ (mkRat n (2 ^ k) - r) + absQ (mkRat n (2 ^ k) - r)) (mkRat 1 (2 ^ k)) = x at *
  generalize mkRat n (2 ^ k) - r = t at *
  generalize hat : absQ t = a at *
  generalize a + a = aa at *
  generalize mkRat 1 (2 ^ k) = o1 at *
  generalize mkRat n (2 ^ k) = n1 at *
  have hv := h
  obtain ⟨Ax, Lx, Cx, Ay, Ly, Cy, rfl, _, _⟩ := qcell h
  clear sp s0 s1 s2 sr hle hn hk h hat
  obtain ⟨W0, hW, hR, hB⟩ := box1 w 40 #[.bool (decide (r.num < 0)), .slice Ax Lx Cx, .slice Ay Ly Cy]
  obtain ⟨g, hg⟩ : ∃ g, g = w.heap.size := ⟨_, rfl⟩
  have hW' := Lib.hid (And.intro hW hg)
  rw [← hg] at hR
  have hgw : w.heap.size ≤ g := by omega
  clear hW hg
  have hX := hR
  replace hv := hv.below hB
  obtain ⟨c1_hX_0, c1_hX_1, c1_hX_2⟩ := hX.cells3
  generalize decide (r.num < 0) = sg at *
  go_enter Try.func20, Try.ntmps20
  go_upto_region 1 with fail
  rw [← hW'.out.1, ← hW'.out.2]
  go_cut [7] (fun s wx => ∃ Z A1 L1 C1 A2 L2 C2, s = .pointer (some ⟨Z, 0, none⟩) ∧ Blk wx Z 40 #[.bool (decide (a.num < 0)), .slice A1 L1 C1, .slice A2 L2 C2] ∧ IsN wx (.slice A1 L1 C1) a.num.natAbs ∧ IsN wx (.slice A2 L2 C2) a.den ∧ Below W0.heap.size W0 wx)
  case first =>
    go_region_held3 (fun w' => w'.cell? ⟨g, 0, none⟩ = some (.bool sg) ∧ w'.cell? ⟨g, 1, none⟩ = some (.slice Ax Lx Cx) ∧ w'.cell? ⟨g, 2, none⟩ = some (.slice Ay Ly Cy))
      (first | exact (hX.below (by first | assumption | exact bdrew _ | exact Below.refl _ _ | exact balloc (bdrew _) _ | exact balloc (by assumption) _ | exact balloc (Below.refl _ _) _ | exact bset (bset (bset (by assumption) (by first | assumption | exact Nat.le_refl _) _) (by first | assumption | exact Nat.le_refl _) _) (by first | assumption | exact Nat.le_refl _) _) hX.lt).cells3)
      (first
        | (go_at_call 17; (with_reducible refine (hN _).mono ?_); rintro e w1 ⟨v1, rfl, h1, b1⟩; (first | ((first | have hXX := newX b1 W0 (by first | assumption | exact bdrew _) | have hXX := newX (undrew b1) W0 (by first | exact Below.refl _ _ | assumption)); obtain ⟨hZ, sZ⟩ := hXX; try simp only [World.size_drew] at hZ sZ) | (have hZ := hZ.below b1 hZ.lt) | skip); have B1 := bstep (a := W0) (by first | assumption | exact bdrew _ | exact Below.refl _ _ | exact balloc (bdrew _) _ | exact balloc (by assumption) _ | exact balloc (Below.refl _ _) _ | exact bset (bset (bset (by assumption) (by first | assumption | exact Nat.le_refl _) _) (by first | assumption | exact Nat.le_refl _) _) (by first | assumption | exact Nat.le_refl _) _) b1)
        | (go_at_call 19; (with_reducible refine (hS _ _ _ ?_ ?_).mono ?_); exact h1.below (by first | exact Below.refl _ _ | exact balloc (Below.refl _ _) _ | exact bdrew _ | exact (balloc (Below.refl _ _) _).drew); exact hv.below (by first | assumption | exact bdrew _ | exact Below.refl _ _ | exact balloc (bdrew _) _ | exact balloc (by assumption) _ | exact balloc (Below.refl _ _) _ | exact bset (bset (bset (by assumption) (by first | assumption | exact Nat.le_refl _) _) (by first | assumption | exact Nat.le_refl _) _) (by first | assumption | exact Nat.le_refl _) _); rintro e w2 ⟨v2, rfl, h2, b2⟩; (first | ((first | have hXX := newX b2 W0 (by first | assumption | exact bdrew _) | have hXX := newX (undrew b2) W0 (by first | exact Below.refl _ _ | assumption)); obtain ⟨hZ, sZ⟩ := hXX; try simp only [World.size_drew] at hZ sZ) | (have hZ := hZ.below b2 hZ.lt) | skip); have B2 := bstep (a := W0) (by first | assumption | exact bdrew _ | exact Below.refl _ _ | exact balloc (bdrew _) _ | exact balloc (by assumption) _ | exact balloc (Below.refl _ _) _ | exact bset (bset (bset (by assumption) (by first | assumption | exact Nat.le_refl _) _) (by first | assumption | exact Nat.le_refl _) _) (by first | assumption | exact Nat.le_refl _) _) b2)
        | (go_at_call 35; (with_reducible refine (hA _ _ ?_).mono ?_); exact h2.below (by first | exact Below.refl _ _ | exact balloc (Below.refl _ _) _ | exact bdrew _ | exact (balloc (Below.refl _ _) _).drew); rintro e w3 ⟨v3, rfl, h3, b3⟩; (first | ((first | have hXX := newX b3 W0 (by first | assumption | exact bdrew _) | have hXX := newX (undrew b3) W0 (by first | exact Below.refl _ _ | assumption)); obtain ⟨hZ, sZ⟩ := hXX; try simp only [World.size_drew] at hZ sZ) | (have hZ := hZ.below b3 hZ.lt) | skip); obtain ⟨A3, L3, C3, A4, L4, C4, rfl, hp3, hq3⟩ := qcell h3; have B3 := bstep (a := W0) (by first | assumption | exact bdrew _ | exact Below.refl _ _ | exact balloc (bdrew _) _ | exact balloc (by assumption) _ | exact balloc (Below.refl _ _) _ | exact bset (bset (bset (by assumption) (by first | assumption | exact Nat.le_refl _) _) (by first | assumption | exact Nat.le_refl _) _) (by first | assumption | exact Nat.le_refl _) _) b3; (try (obtain ⟨z0, z1, z2⟩ := hZ.cells3; have y0 := hZ.frozen 0; have y1 := hZ.frozen 1; have y2 := hZ.frozen 2))))
    all_goals (go_wp2_with fail; go_meet)
    all_goals
      first
        | exact ⟨_, _, _, _, _, _, _, rfl, Blk.new _ _ _, hp3.below (balloc (Below.refl _ _) _), hq3.below (balloc (Below.refl _ _) _), balloc B3 _⟩
        | (obtain ⟨p1, p2, p3⟩ := put3 hZ (.bool (decide (a.num < 0))) (.slice A3 L3 C3) (.slice A4 L4 C4) (by simp [noU]) B3 (by first | assumption | exact Nat.le_refl _)
           exact ⟨_, _, _, _, _, _, _, rfl, p1, p2 _ _ hp3, p2 _ _ hq3, p3⟩)
  obtain ⟨Z, A1, L1, C1, A2, L2, C2, rfl, hZ, hp, hq, bz⟩ := hcut
  replace hv := hv.below bz
  replace hX := hX.below bz hX.lt
  replace hB := hB.trans (bz.mono hB.size)
  clear c1_hX_0 c1_hX_1 c1_hX_2
  obtain ⟨c2_hX_0, c2_hX_1, c2_hX_2⟩ := hX.cells3
  clear c2_hX_0 c2_hX_1 c2_hX_2
  obtain ⟨c3_hX_0, c3_hX_1, c3_hX_2⟩ := hX.cells3
  obtain ⟨c3_hZ_0, c3_hZ_1, c3_hZ_2⟩ := hZ.cells3
  go_wp2_with fail
  refine (hAd _ _ _ ⟨_, _, rfl, hp, hq⟩ ⟨_, _, rfl, hp, hq⟩).mono ?_
  rintro e w1 ⟨v5, rfl, h5, b1⟩
  replace hv := hv.below b1
  replace hX := hX.below b1 hX.lt
  replace hZ := hZ.below b1 hZ.lt
  replace hp := hp.below b1
  replace hq := hq.below b1
  replace hB := hB.trans (b1.mono hB.size)
  clear c3_hX_0 c3_hX_1 c3_hX_2 c3_hZ_0 c3_hZ_1 c3_hZ_2
  obtain ⟨c4_hX_0, c4_hX_1, c4_hX_2⟩ := hX.cells3
  obtain ⟨c4_hZ_0, c4_hZ_1, c4_hZ_2⟩ := hZ.cells3
  go_wp2_with fail
  refine (hN1 _).mono ?_
  rintro e w2 ⟨v6, rfl, h6, b2⟩
  replace hv := hv.below b2
  replace hX := hX.below b2 hX.lt
  replace hZ := hZ.below b2 hZ.lt
  replace hp := hp.below b2
  replace hq := hq.below b2
  replace h5 := h5.below b2
  replace hB := hB.trans (b2.mono hB.size)
  clear c4_hX_0 c4_hX_1 c4_hX_2 c4_hZ_0 c4_hZ_1 c4_hZ_2
  obtain ⟨c5_hX_0, c5_hX_1, c5_hX_2⟩ := hX.cells3
  obtain ⟨c5_hZ_0, c5_hZ_1, c5_hZ_2⟩ := hZ.cells3
  go_wp2_with fail
  refine (hC _ _ _ h5 h6).mono ?_
  rintro e w3 ⟨rfl, b3⟩
  replace hv := hv.below b3
  replace hX := hX.below b3 hX.lt
  replace hZ := hZ.below b3 hZ.lt
  replace hp := hp.below b3
  replace hq := hq.below b3
  replace h5 := h5.below b3
  replace h6 := h6.below b3
  replace hB := hB.trans (b3.mono hB.size)
  clear c5_hX_0 c5_hX_1 c5_hX_2 c5_hZ_0 c5_hZ_1 c5_hZ_2
  obtain ⟨c6_hX_0, c6_hX_1, c6_hX_2⟩ := hX.cells3
  obtain ⟨c6_hZ_0, c6_hZ_1, c6_hZ_2⟩ := hZ.cells3
  rcases hx with rfl | rfl
  all_goals
    go_wp2
    go_ret
    exact ⟨rfl, hB⟩
end Go.Proofs.Ytbnnonmkkkhepaa
