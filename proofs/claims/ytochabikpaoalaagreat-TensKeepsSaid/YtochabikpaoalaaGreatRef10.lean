/- The document's layer 10: shares, distances, codes. Printed by gen_ref10.py. -/
import Derived.Test.YtochabikpaoalaaGreatZed2
import Derived.Test.YtochabikpaoalaaGreatRef09d
import Derived.Test.YtochabikpaoalaaGreatBook5
import Derived.Test.YtochabikpaoalaaGreatNear10
import Derived.Deep.RegionHeld3
import Derived.Deep.DeepCutAuto
namespace Go.Proofs.YtochabikpaoalaaGreat
open Go.RowKit
attribute [local go_sem ↓] Go.wp_at_zero Go.wp_at_succ

set_option maxHeartbeats 4000000 in
theorem rzsub_any (va vb : Value) (a b : Int) (w : World) (ha : IsZ w va a) (hb : IsZ w vb b) (sa : Sz a.natAbs 400000) (sb : Sz b.natAbs 400000) :
    Calls Tryz.prog 87 #[va, vb] w fun e w' => ∃ v', e = .returned v' ∧ IsZ w' v' (a - b) ∧ Below w.heap.size w w' := by
  have hNg := fun v w h => rzneg_any v b w h
  have hAd := fun u v w h1 h2 => rzadd_any u v a (-b) w h1 h2 sa (by rw [Int.natAbs_neg]; exact sb)
  rw [show a + -b = a - b from (Int.sub_eq_add_neg).symm] at hAd
  have hav := ha
  have hbv := hb
  obtain ⟨na, rfl, hna⟩ := ha
  obtain ⟨nb, rfl, hnb⟩ := hb
  obtain ⟨Aa, La, Ca, rfl⟩ := hna.frm
  obtain ⟨Ab, Lb, Cb, rfl⟩ := hnb.frm
  generalize a - b = c at *
  clear hna hnb sa sb
  obtain ⟨W0, hW, hT, hR, hB⟩ := box3 w 78 78 78 #[.bool (decide (a < 0)), .slice Aa La Ca] #[.bool (decide (b < 0)), .slice Ab Lb Cb] #[.bool false, .slice none 0 0]
  obtain ⟨g, hg⟩ : ∃ g, g = w.heap.size := ⟨_, rfl⟩
  have hW' := Lib.hid (And.intro hW hg)
  rw [← hg] at hT hR
  have hgw : w.heap.size ≤ g := by omega
  clear hW hg
  obtain ⟨hX, hY⟩ := hT
  replace hav := hav.below hB
  replace hbv := hbv.below hB
  obtain ⟨c1_hX_0, c1_hX_1⟩ := hX.cells2
  obtain ⟨c1_hY_0, c1_hY_1⟩ := hY.cells2
  obtain ⟨c1_hR_0, c1_hR_1⟩ := hR.cells2
  generalize decide (a < 0) = s1 at *
  generalize decide (b < 0) = s2 at *
  go_enter Tryz.func87, Tryz.ntmps87
  go_upto_region 1 with fail
  rw [← hW'.out.1, ← hW'.out.2]
  go_region_held3 (fun w' => w'.cell? ⟨g, 0, none⟩ = some (.bool s1) ∧ w'.cell? ⟨g, 1, none⟩ = some (.slice Aa La Ca) ∧ w'.cell? ⟨g + 1, 0, none⟩ = some (.bool s2) ∧ w'.cell? ⟨g + 1, 1, none⟩ = some (.slice Ab Lb Cb))
    (first | exact Two.cells22 ⟨hX.below (by first | assumption | exact bdrew _ | exact Below.refl _ _ | exact balloc (bdrew _) _ | exact balloc (by assumption) _ | exact balloc (Below.refl _ _) _ | exact bset (bset (by assumption) (by first | assumption | exact Nat.le_refl _) _) (by first | assumption | exact Nat.le_refl _) _) hX.lt, hY.below (by first | assumption | exact bdrew _ | exact Below.refl _ _ | exact balloc (bdrew _) _ | exact balloc (by assumption) _ | exact balloc (Below.refl _ _) _ | exact bset (bset (by assumption) (by first | assumption | exact Nat.le_refl _) _) (by first | assumption | exact Nat.le_refl _) _) hY.lt⟩ | exact Two.cells22 (Two.far2 ⟨hX.below (by first | assumption | exact bdrew _ | exact Below.refl _ _ | exact balloc (bdrew _) _ | exact balloc (by assumption) _ | exact balloc (Below.refl _ _) _ | exact bset (bset (by assumption) (by first | assumption | exact Nat.le_refl _) _) (by first | assumption | exact Nat.le_refl _) _) hX.lt, hY.below (by first | assumption | exact bdrew _ | exact Below.refl _ _ | exact balloc (bdrew _) _ | exact balloc (by assumption) _ | exact balloc (Below.refl _ _) _ | exact bset (bset (by assumption) (by first | assumption | exact Nat.le_refl _) _) (by first | assumption | exact Nat.le_refl _) _) hY.lt⟩ _ _))
    (first
      | (go_at_call 121; (with_reducible refine (hNg _ _ ?_).mono ?_); exact hbv.below (by first | assumption | exact bdrew _ | exact Below.refl _ _ | exact balloc (bdrew _) _ | exact balloc (by assumption) _ | exact balloc (Below.refl _ _) _ | exact bset (bset (by assumption) (by first | assumption | exact Nat.le_refl _) _) (by first | assumption | exact Nat.le_refl _) _); rintro e w1 ⟨v1, rfl, h1, b1⟩; have B1 := bstep (a := W0) (by first | assumption | exact bdrew _ | exact Below.refl _ _ | exact balloc (bdrew _) _ | exact balloc (by assumption) _ | exact balloc (Below.refl _ _) _ | exact bset (bset (by assumption) (by first | assumption | exact Nat.le_refl _) _) (by first | assumption | exact Nat.le_refl _) _) b1)
      | (go_at_call 120; (with_reducible refine (hAd _ _ _ ?_ ?_).mono ?_); exact hav.below (by first | assumption | exact bdrew _ | exact Below.refl _ _ | exact balloc (bdrew _) _ | exact balloc (by assumption) _ | exact balloc (Below.refl _ _) _ | exact bset (bset (by assumption) (by first | assumption | exact Nat.le_refl _) _) (by first | assumption | exact Nat.le_refl _) _); exact h1.below (by first | exact Below.refl _ _ | exact balloc (Below.refl _ _) _ | exact bdrew _ | exact (balloc (Below.refl _ _) _).drew); rintro e w2 ⟨v2, rfl, ⟨n2, rfl, h2⟩, b2⟩; obtain ⟨A2, L2, C2, rfl⟩ := h2.frm; have B2 := bstep (a := W0) (by first | assumption | exact bdrew _ | exact Below.refl _ _ | exact balloc (bdrew _) _ | exact balloc (by assumption) _ | exact balloc (Below.refl _ _) _ | exact bset (bset (by assumption) (by first | assumption | exact Nat.le_refl _) _) (by first | assumption | exact Nat.le_refl _) _) b2; have hR2 := hR.below B2 hR.lt; obtain ⟨q0, q1⟩ := hR2.cells2; have z0 := hR2.frozen 0; have z1 := hR2.frozen 1))
  all_goals
    have hB2 := hB.trans (B2.mono hB.size)
    obtain ⟨p1, p2, p3⟩ := put2 hR2 (.bool (decide (c < 0))) (.slice A2 L2 C2) (by simp [noU]) hB2 (by omega)
    have P := Lib.hid (And.intro (p2 _ _ h2) (And.intro p3 p1.cells2))
    clear p1 p2 p3
    go_wp2
    obtain ⟨P1, P2, P3, P4⟩ := P.out
    exact bodyPost_ret (v := .agg #[.bool (decide (c < 0)), .slice A2 L2 C2]) (by simp [results, Tryz.results87, go_sem, P3, P4]) rfl ⟨_, rfl, ⟨_, rfl, P1⟩, P2⟩
set_option maxHeartbeats 2000000 in
theorem rshare_any (n : Nat) (hn : n < 4) (num : Int) (hi : I64 num) (w : World) :
    Calls Tryz.prog 67 #[.int .i64 n, .int .i64 num] w fun e w' => ∃ v', e = .returned v' ∧ IsZ w' v' (num * den (n : Nat)) ∧ Below w.heap.size w w' := by
  obtain ⟨d0, d1⟩ := dens_pos hn
  have hO1 := fun w => rzof_any num hi.1 hi.2 w
  have hDn := fun w => rden_any n w
  have hO2 := fun w => rzof_any (den (n : Nat)) (by omega) (by omega) w
  have s1 : Sz num.natAbs 400000 := (Sz.u64 (by have := hi.1; have := hi.2; unfold W64; omega)).more (by omega)
  have s2 : Sz (den (n : Nat)).natAbs 400000 := (Sz.u64 (by unfold W64; omega)).more (by omega)
  have hM := fun u v w h1 h2 => rzmul_any u v num (den (n : Nat)) w h1 h2 s1 s2
  generalize hc : num * den (n : Nat) = c at *
  generalize den (n : Nat) = D at *
  clear hc s1 s2 d0 d1 hi hn
  obtain ⟨W0, hW, hR, hB⟩ := box1 w 78 #[.bool false, .slice none 0 0]
  obtain ⟨g, hg⟩ : ∃ g, g = w.heap.size := ⟨_, rfl⟩
  have hW' := Lib.hid (And.intro hW hg)
  rw [← hg] at hR
  have hgw : w.heap.size ≤ g := by omega
  clear hW hg
  skip
  obtain ⟨c1_hR_0, c1_hR_1⟩ := hR.cells2
  go_enter Tryz.func67, Tryz.ntmps67
  go_wp2_with fail
  rw [← hW'.out.1, ← hW'.out.2]
  refine (hO1 _).mono ?_
  rintro e w1 ⟨v1, rfl, h1, b1⟩
  replace hR := hR.below b1 hR.lt
  replace hB := hB.trans (b1.mono hB.size)
  clear c1_hR_0 c1_hR_1
  obtain ⟨c2_hR_0, c2_hR_1⟩ := hR.cells2
  go_wp2_with fail
  refine (hDn _).mono ?_
  rintro e w2 ⟨rfl, rfl⟩
  go_wp2_with fail
  refine (hO2 _).mono ?_
  rintro e w3 ⟨v2, rfl, h2, b3⟩
  replace hR := hR.below b3 hR.lt
  replace h1 := h1.below b3
  replace hB := hB.trans (b3.mono hB.size)
  clear c2_hR_0 c2_hR_1
  obtain ⟨c3_hR_0, c3_hR_1⟩ := hR.cells2
  go_wp2_with fail
  refine (hM _ _ _ h1 h2).mono ?_
  rintro e w4 ⟨v3, rfl, ⟨n3, rfl, h3⟩, b4⟩
  replace hR := hR.below b4 hR.lt
  replace h1 := h1.below b4
  replace h2 := h2.below b4
  replace hB := hB.trans (b4.mono hB.size)
  clear c3_hR_0 c3_hR_1
  obtain ⟨c4_hR_0, c4_hR_1⟩ := hR.cells2
  obtain ⟨A3, L3, C3, rfl⟩ := h3.frm
  obtain ⟨p1, p2, p3⟩ := put2 hR (.bool (decide (c < 0))) (.slice A3 L3 C3) (by simp [noU]) hB (by omega)
  have q0 := hR.cell 0
  have z0 := hR.frozen 0
  have q1 := hR.cell 1
  have z1 := hR.frozen 1
  have P := Lib.hid (And.intro (⟨_, rfl, p2 _ _ h3⟩ : IsZ _ (.agg #[.bool (decide (c < 0)), .slice A3 L3 C3]) _) (And.intro p3 p1.cells2))
  clear p1 p2 p3 
  go_wp2_with fail
  obtain ⟨P1, P2, P3, P4⟩ := P.out
  exact bodyPost_ret (v := .agg #[.bool (decide (c < 0)), .slice A3 L3 C3]) (by simp [results, Tryz.results67, go_sem, P3, P4, q0, q1]) rfl ⟨_, rfl, P1, P2⟩
set_option maxRecDepth 100000 in
set_option maxHeartbeats 8000000 in
theorem rfar_any (v : Value) (z n d : Int) (w : World) (hz : IsZ w v z) (sz : Sz z.natAbs 4) (hn : I64 n) (hd : I64 d) :
    Calls Tryz.prog 68 #[v, .int .i64 n, .int .i64 d] w fun e w' => ∃ v', e = .returned v' ∧ IsZ w' v' ((z - n * d).natAbs : Int) ∧ Below w.heap.size w w' := by
  have hO1 := fun w => rzof_any n hn.1 hn.2 w
  have hO2 := fun w => rzof_any d hd.1 hd.2 w
  have s1 : Sz n.natAbs 1 := Sz.u64 (by have := hn.1; have := hn.2; unfold W64; omega)
  have s2 : Sz d.natAbs 1 := Sz.u64 (by have := hd.1; have := hd.2; unfold W64; omega)
  have s3 : Sz (n * d).natAbs 2 := by rw [Int.natAbs_mul]; exact s1.mul s2
  have hM := fun u v w h1 h2 => rzmul_any u v n d w h1 h2 (s1.more (by omega)) (s2.more (by omega))
  have hS := fun u v w h1 h2 => rzsub_any u v z (n * d) w h1 h2 (sz.more (by omega)) (s3.more (by omega))
  have hzv := hz
  obtain ⟨nz, rfl, hnz⟩ := hz
  obtain ⟨Az, Lz, Cz, rfl⟩ := hnz.frm
  have KEY : Hid (∀ w' u, IsN w' u (z - n * d).natAbs → IsZ w' (.agg #[.bool false, u]) ((z - n * d).natAbs : Int)) := Lib.hid fun w' u h => ⟨u, by rw [decide_eq_false (by omega)], by simpa using h⟩
  generalize hm : z - n * d = m at *
  generalize n * d = p at *
  clear hm s1 s2 s3 sz hn hd hnz
  obtain ⟨W0, hW, hT, hB⟩ := box2 w 78 78 #[.bool (decide (z < 0)), .slice Az Lz Cz] #[.bool false, .slice none 0 0]
  obtain ⟨g, hg⟩ : ∃ g, g = w.heap.size := ⟨_, rfl⟩
  have hW' := Lib.hid (And.intro hW hg)
  rw [← hg] at hT
  have hgw : w.heap.size ≤ g := by omega
  clear hW hg
  obtain ⟨hX, hR⟩ := hT
  replace hzv := hzv.below hB
  obtain ⟨c1_hX_0, c1_hX_1⟩ := hX.cells2
  obtain ⟨c1_hR_0, c1_hR_1⟩ := hR.cells2
  generalize decide (z < 0) = sg at *
  go_enter Tryz.func68, Tryz.ntmps68
  go_upto_region 1 with fail
  rw [← hW'.out.1, ← hW'.out.2]
  go_cut [7] (fun s wx => ∃ Z A1 L1 C1, s = .pointer (some ⟨Z, 0, none⟩) ∧ Blk wx Z 78 #[.bool (decide (m < 0)), .slice A1 L1 C1] ∧ IsN wx (.slice A1 L1 C1) m.natAbs ∧ Below W0.heap.size W0 wx)
  case first =>
    go_region_held3 (fun w' => w'.cell? ⟨g, 0, none⟩ = some (.bool sg) ∧ w'.cell? ⟨g, 1, none⟩ = some (.slice Az Lz Cz))
      (first | exact (hX.below (by first | assumption | exact bdrew _ | exact Below.refl _ _ | exact balloc (bdrew _) _ | exact balloc (by assumption) _ | exact balloc (Below.refl _ _) _ | exact bset (bset (by assumption) (by first | assumption | exact Nat.le_refl _) _) (by first | assumption | exact Nat.le_refl _) _) hX.lt).cells2)
      (first
        | (go_at_call 75; (with_reducible refine (hO1 _).mono ?_); rintro e w1 ⟨v1, rfl, h1, b1⟩; (first | ((first | have hXX := newX b1 W0 (by first | assumption | exact bdrew _) | have hXX := newX (undrew b1) W0 (by first | exact Below.refl _ _ | assumption)); obtain ⟨hZ, sZ⟩ := hXX; try simp only [World.size_drew] at hZ sZ) | (have hZ := hZ.below b1 hZ.lt) | skip); have B1 := bstep (a := W0) (by first | assumption | exact bdrew _ | exact Below.refl _ _ | exact balloc (bdrew _) _ | exact balloc (by assumption) _ | exact balloc (Below.refl _ _) _ | exact bset (bset (by assumption) (by first | assumption | exact Nat.le_refl _) _) (by first | assumption | exact Nat.le_refl _) _) b1)
        | (go_at_call 75; (with_reducible refine (hO2 _).mono ?_); rintro e w2 ⟨v2, rfl, h2, b2⟩; (first | ((first | have hXX := newX b2 W0 (by first | assumption | exact bdrew _) | have hXX := newX (undrew b2) W0 (by first | exact Below.refl _ _ | assumption)); obtain ⟨hZ, sZ⟩ := hXX; try simp only [World.size_drew] at hZ sZ) | (have hZ := hZ.below b2 hZ.lt) | skip); have B2 := bstep (a := W0) (by first | assumption | exact bdrew _ | exact Below.refl _ _ | exact balloc (bdrew _) _ | exact balloc (by assumption) _ | exact balloc (Below.refl _ _) _ | exact bset (bset (by assumption) (by first | assumption | exact Nat.le_refl _) _) (by first | assumption | exact Nat.le_refl _) _) b2; have h1 := h1.below (bstep (a := w1) (by first | exact Below.refl _ _ | exact balloc (Below.refl _ _) _ | exact bdrew _ | exact (balloc (Below.refl _ _) _).drew) b2))
        | (go_at_call 73; (with_reducible refine (hM _ _ _ ?_ ?_).mono ?_); exact h1.below (by first | exact Below.refl _ _ | exact balloc (Below.refl _ _) _ | exact bdrew _ | exact (balloc (Below.refl _ _) _).drew); exact h2.below (by first | exact Below.refl _ _ | exact balloc (Below.refl _ _) _ | exact bdrew _ | exact (balloc (Below.refl _ _) _).drew); rintro e w3 ⟨v3, rfl, h3, b3⟩; (first | ((first | have hXX := newX b3 W0 (by first | assumption | exact bdrew _) | have hXX := newX (undrew b3) W0 (by first | exact Below.refl _ _ | assumption)); obtain ⟨hZ, sZ⟩ := hXX; try simp only [World.size_drew] at hZ sZ) | (have hZ := hZ.below b3 hZ.lt) | skip); have B3 := bstep (a := W0) (by first | assumption | exact bdrew _ | exact Below.refl _ _ | exact balloc (bdrew _) _ | exact balloc (by assumption) _ | exact balloc (Below.refl _ _) _ | exact bset (bset (by assumption) (by first | assumption | exact Nat.le_refl _) _) (by first | assumption | exact Nat.le_refl _) _) b3)
        | (go_at_call 87; (with_reducible refine (hS _ _ _ ?_ ?_).mono ?_); exact hzv.below (by first | assumption | exact bdrew _ | exact Below.refl _ _ | exact balloc (bdrew _) _ | exact balloc (by assumption) _ | exact balloc (Below.refl _ _) _ | exact bset (bset (by assumption) (by first | assumption | exact Nat.le_refl _) _) (by first | assumption | exact Nat.le_refl _) _); exact h3.below (by first | exact Below.refl _ _ | exact balloc (Below.refl _ _) _ | exact bdrew _ | exact (balloc (Below.refl _ _) _).drew); rintro e w4 ⟨v4, rfl, ⟨n4, rfl, h4⟩, b4⟩; (first | ((first | have hXX := newX b4 W0 (by first | assumption | exact bdrew _) | have hXX := newX (undrew b4) W0 (by first | exact Below.refl _ _ | assumption)); obtain ⟨hZ, sZ⟩ := hXX; try simp only [World.size_drew] at hZ sZ) | (have hZ := hZ.below b4 hZ.lt) | skip); obtain ⟨A4, L4, C4, rfl⟩ := h4.frm; have B4 := bstep (a := W0) (by first | assumption | exact bdrew _ | exact Below.refl _ _ | exact balloc (bdrew _) _ | exact balloc (by assumption) _ | exact balloc (Below.refl _ _) _ | exact bset (bset (by assumption) (by first | assumption | exact Nat.le_refl _) _) (by first | assumption | exact Nat.le_refl _) _) b4; (try (obtain ⟨z0, z1⟩ := hZ.cells2; have y0 := hZ.frozen 0; have y1 := hZ.frozen 1))))
    all_goals (go_wp2_with fail; go_meet)
    all_goals
      first
        | exact ⟨_, _, _, _, rfl, Blk.new _ _ _, h4.below (balloc (Below.refl _ _) _), balloc B4 _⟩
        | (obtain ⟨p1, p2, p3⟩ := put2 hZ (.bool (decide (m < 0))) (.slice A4 L4 C4) (by simp [noU]) B4 (by first | assumption | exact Nat.le_refl _)
           exact ⟨_, _, _, _, rfl, p1, p2 _ _ h4, p3⟩)
  obtain ⟨Z, A1, L1, C1, rfl, hZ, hN, bz⟩ := hcut
  replace hzv := hzv.below bz
  replace hX := hX.below bz hX.lt
  replace hR := hR.below bz hR.lt
  replace hB := hB.trans (bz.mono hB.size)
  clear c1_hX_0 c1_hX_1 c1_hR_0 c1_hR_1
  obtain ⟨c2_hX_0, c2_hX_1⟩ := hX.cells2
  obtain ⟨c2_hR_0, c2_hR_1⟩ := hR.cells2
  clear c2_hX_0 c2_hX_1 c2_hR_0 c2_hR_1
  obtain ⟨c3_hX_0, c3_hX_1⟩ := hX.cells2
  obtain ⟨c3_hR_0, c3_hR_1⟩ := hR.cells2
  obtain ⟨c3_hZ_0, c3_hZ_1⟩ := hZ.cells2
  obtain ⟨p1, p2, p3⟩ := put2 hR (.bool false) (.slice A1 L1 C1) (by simp [noU]) hB (by omega)
  have q0 := hR.cell 0
  have z0 := hR.frozen 0
  have q1 := hR.cell 1
  have z1 := hR.frozen 1
  have P := Lib.hid (And.intro (KEY.out _ _ (p2 _ _ hN)) (And.intro p3 p1.cells2))
  clear p1 p2 p3 
  go_wp2_with fail
  obtain ⟨P1, P2, P3, P4⟩ := P.out
  exact bodyPost_ret (v := .agg #[.bool false, .slice A1 L1 C1]) (by simp [results, Tryz.results68, go_sem, P3, P4, q0, q1]) rfl ⟨_, rfl, P1, P2⟩
set_option maxHeartbeats 4000000 in
theorem rShare_any (k num d : Int) (hd : I64 d) (w : World) :
    Calls Tryz.prog 66 #[.int .i64 k, .int .i64 num, .int .i64 d] w fun e w' => e = .returned (.bool (share k num d)) ∧ w = w' := by
  have hS := fun w => rsigned_any k w
  unfold share
  by_cases k0 : k < 0
  · rw [decide_eq_false (p := 0 ≤ k ∧ k ≤ 3) (by omega), Bool.false_and]
    go_enter Tryz.func66, Tryz.ntmps66
    go_wp2
    go_ret
    exact ⟨rfl, rfl⟩
  · by_cases k1 : 3 < k
    · rw [decide_eq_false (p := 0 ≤ k ∧ k ≤ 3) (by omega), Bool.false_and]
      go_enter Tryz.func66, Tryz.ntmps66
      go_wp2
      go_ret
      exact ⟨rfl, rfl⟩
    · rw [decide_eq_true (p := 0 ≤ k ∧ k ≤ 3) (by omega), Bool.true_and]
      by_cases a : d < 1
      · rw [decide_eq_false (p := 1 ≤ d) (by omega), Bool.false_and]
        go_enter Tryz.func66, Tryz.ntmps66
        go_wp2
        go_ret
        exact ⟨rfl, rfl⟩
      · rw [decide_eq_true (p := 1 ≤ d) (by omega), Bool.true_and]
        by_cases b : d < num
        · rw [decide_eq_false (p := num ≤ d) (by omega), Bool.false_and]
          go_enter Tryz.func66, Tryz.ntmps66
          go_wp2
          go_ret
          exact ⟨rfl, rfl⟩
        · rw [decide_eq_true (p := num ≤ d) (by omega), Bool.true_and]
          have hw : IntKind.i64.wrap (-d) = -d := by rw [IntKind.wrap_i64]; have := hd.2; omega
          by_cases c : num < -d
          · rw [decide_eq_false (p := -d ≤ num) (by omega), Bool.false_and]
            go_enter Tryz.func66, Tryz.ntmps66
            go_wp2
            go_ret
            exact ⟨rfl, rfl⟩
          · rw [decide_eq_true (p := -d ≤ num) (by omega), Bool.true_and]
            by_cases e : num < 0
            · have e0 : ¬ 0 ≤ num := by omega
              rw [decide_eq_false e0, Bool.false_or]
              generalize sgn k = s at *
              go_enter Tryz.func66, Tryz.ntmps66
              go_wp2_with fail
              refine (hS _).mono ?_
              rintro e w1 ⟨rfl, rfl⟩
              go_wp2
              go_ret
              exact ⟨rfl, rfl⟩
            · have e0 : 0 ≤ num := by omega
              rw [decide_eq_true e0, Bool.true_or]
              go_enter Tryz.func66, Tryz.ntmps66
              go_wp2
              go_ret
              exact ⟨rfl, rfl⟩
end Go.Proofs.YtochabikpaoalaaGreat
