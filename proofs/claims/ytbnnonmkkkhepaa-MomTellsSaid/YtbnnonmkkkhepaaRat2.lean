/- The document's rationals: which is greater, the other way round, sums, products. Printed by gen_rat2.py. -/
import Derived.Test.YtbnnonmkkkhepaaRat1
import Derived.Deep.DeepCutAuto
namespace Go.Proofs.Ytbnnonmkkkhepaa
open Go.RowKit
attribute [local go_sem ↓] Go.wp_at_zero Go.wp_at_succ

set_option maxHeartbeats 2000000 in
theorem rqcmp_any (va vb : Value) (a b : Rat) (w : World) (ha : IsQ w va a) (hb : IsQ w vb b) (sa : BQ a 10000) (sb : BQ b 10000) :
    Calls Try.prog 36 #[va, vb] w fun e w' => e = .returned (.int .i64 (cmpQ a b)) ∧ Below w.heap.size w w' := by
  obtain ⟨pa, qa, rfl, hpa, hqa⟩ := ha
  have hza : IsZ w (.agg #[.bool (decide (a.num < 0)), pa]) a.num := ⟨_, rfl, hpa⟩
  obtain ⟨pb, qb, rfl, hpb, hqb⟩ := hb
  have hzb : IsZ w (.agg #[.bool (decide (b.num < 0)), pb]) b.num := ⟨_, rfl, hpb⟩
  have hO1 := fun w hp hq => rqover_any (.agg #[.bool (decide (a.num < 0)), pa]) qb a.num b.den w hp hq (sa.1.more (by omega)) (sb.2.more (by omega))
  have hO2 := fun w hp hq => rqover_any (.agg #[.bool (decide (b.num < 0)), pb]) qa b.num a.den w hp hq (sb.1.more (by omega)) (sa.2.more (by omega))
  have hC := fun u v w hu hv => rzcmp_any u v (a.num * b.den) (b.num * a.den) w hu hv
  rw [show cmpQ a b = cmpI (a.num * b.den) (b.num * a.den) from rfl]
  generalize cmpI (a.num * b.den) (b.num * a.den) = c at *
  generalize a.num * (b.den : Int) = m1 at *
  generalize b.num * (a.den : Int) = m2 at *
  generalize a.num = na at *
  generalize b.num = nb at *
  clear hpa hpb sa sb
  generalize decide (na < 0) = sa at *
  generalize decide (nb < 0) = sb at *
  obtain ⟨W0, hW, hT, hB⟩ := box2 w 40 40 #[.bool sa, pa, qa] #[.bool sb, pb, qb]
  obtain ⟨g, hg⟩ : ∃ g, g = w.heap.size := ⟨_, rfl⟩
  have hW' := Lib.hid (And.intro hW hg)
  rw [← hg] at hT
  clear hW hg
  have hza := hza.below hB
  have hzb := hzb.below hB
  have hqa := hqa.below hB
  have hqb := hqb.below hB
  go_enter Try.func36, Try.ntmps36
  go_wp2
  rw [← hW'.out.1, ← hW'.out.2]
  go_region_held3 (fun w' => w'.cell? ⟨g, 0, none⟩ = some (.bool sa) ∧ w'.cell? ⟨g, 1, none⟩ = some pa ∧ w'.cell? ⟨g, 2, none⟩ = some qa ∧ w'.cell? ⟨g + 1, 0, none⟩ = some (.bool sb) ∧ w'.cell? ⟨g + 1, 1, none⟩ = some pb ∧ w'.cell? ⟨g + 1, 2, none⟩ = some qb) (exact Two.cells33 (hT.below (by first | assumption | exact balloc (by assumption) _ | exact bdrew _ | exact balloc (bdrew _) _) hT.lt))
    (first
      | (go_at_call 29; (with_reducible refine (hO1 _ ?_ ?_).mono ?_); exact hza.below (by first | assumption | exact balloc (by assumption) _ | exact bdrew _ | exact balloc (bdrew _) _); exact hqb.below (by first | assumption | exact balloc (by assumption) _ | exact bdrew _ | exact balloc (bdrew _) _); rintro x w1 ⟨v1, rfl, h1, b1⟩; have B1 := bstep (by first | assumption | exact balloc (by assumption) _ | exact bdrew _ | exact balloc (bdrew _) _) b1)
      | (go_at_call 29; (with_reducible refine (hO2 _ ?_ ?_).mono ?_); exact hzb.below (by first | assumption | exact balloc (by assumption) _ | exact bdrew _ | exact balloc (bdrew _) _); exact hqa.below (by first | assumption | exact balloc (by assumption) _ | exact bdrew _ | exact balloc (bdrew _) _); rintro x w2 ⟨v2, rfl, h2, b2⟩; have B2 := bstep (by first | assumption | exact balloc (by assumption) _ | exact bdrew _ | exact balloc (bdrew _) _) b2; have h1 := h1.below (by first | exact b2 | exact bstep (balloc (Below.refl _ _) _) b2))
      | (go_at_call 59; (with_reducible refine (hC _ _ _ ?_ ?_).mono ?_); exact h1.below (by first | exact Below.refl _ _ | exact balloc (Below.refl _ _) _); exact h2.below (by first | exact Below.refl _ _ | exact balloc (Below.refl _ _) _); rintro x w3 ⟨rfl, b3⟩; have B3 := bstep (by first | assumption | exact balloc (by assumption) _ | exact bdrew _ | exact balloc (bdrew _) _) b3))
  go_wp2
  go_ret
  exact ⟨rfl, hB.trans (B3.mono hB.size)⟩
set_option maxHeartbeats 2000000 in
theorem rqneg_any (v : Value) (a : Rat) (w : World) (ha : IsQ w v a) :
    Calls Try.prog 34 #[v] w fun e w' => ∃ v', e = .returned v' ∧ IsQ w' v' (-a) ∧ Below w.heap.size w w' := by
  obtain ⟨pa, qa, rfl, hpa, hqa⟩ := ha
  have hza : IsZ w (.agg #[.bool (decide (a.num < 0)), pa]) a.num := ⟨_, rfl, hpa⟩
  have hN := fun w hz => rzneg_any (.agg #[.bool (decide (a.num < 0)), pa]) a.num w hz
  obtain ⟨c, hc⟩ : ∃ c, c = -a.num := ⟨_, rfl⟩
  have KEY : Hid (∀ w' b x y, IsN w' x c.natAbs → IsN w' y a.den → b = decide (c < 0) → IsQ w' (.agg #[.bool b, x, y]) (-a)) := by
    rw [hc]; rintro w' b x y h1 h2 rfl; exact ⟨x, y, rfl, h1, h2⟩
  rw [← hc] at hN
  clear hc hpa
  generalize a.num = na at *
  generalize a.den = da at *
  generalize decide (na < 0) = sa at *
  obtain ⟨Aq, Lq, Cq, rfl⟩ := hqa.frm
  obtain ⟨W0, hW, hT, hB⟩ := box2 w 40 40 #[.bool sa, pa, .slice Aq Lq Cq] #[.bool false, .slice none 0 0, .slice none 0 0]
  obtain ⟨g, hg⟩ : ∃ g, g = w.heap.size := ⟨_, rfl⟩
  have hW' := Lib.hid (And.intro hW hg)
  rw [← hg] at hT
  clear hW hg
  have hza := hza.below hB
  have hqa := hqa.below hB
  go_enter Try.func34, Try.ntmps34
  go_wp2
  rw [← hW'.out.1, ← hW'.out.2]
  go_region_held3 (fun w' => w'.cell? ⟨g, 0, none⟩ = some (.bool sa) ∧ w'.cell? ⟨g, 1, none⟩ = some pa ∧ w'.cell? ⟨g, 2, none⟩ = some (.slice Aq Lq Cq)) (first | exact Blk.cells3 (hT.1.below (by first | assumption | exact balloc (by assumption) _ | exact bdrew _ | exact balloc (bdrew _) _) hT.1.lt) | exact Blk.cells3 (Blk.far3 (hT.1.below (by first | assumption | exact balloc (by assumption) _ | exact bdrew _ | exact balloc (bdrew _) _) hT.1.lt) _ _ _))
    (first
      | (go_at_call 58; (with_reducible refine (hN _ ?_).mono ?_); exact hza.below (by first | assumption | exact balloc (by assumption) _ | exact bdrew _ | exact balloc (bdrew _) _); rintro x w1 ⟨v1, rfl, ⟨n1, rfl, h1⟩, b1⟩; obtain ⟨A1, L1, C1, rfl⟩ := h1.frm; have B1 := bstep (by first | assumption | exact balloc (by assumption) _ | exact bdrew _ | exact balloc (bdrew _) _) b1; have hqa1 := hqa.below B1; have hR1 := hT.2.below B1 hT.2.lt; have q0 := hR1.cell 0; have q1 := hR1.cell 1; have q2 := hR1.cell 2; have z0 := hR1.frozen 0; have z1 := hR1.frozen 1; have z2 := hR1.frozen 2))
  obtain ⟨p1, p2, p3⟩ := put3 hR1 (.bool (decide (c < 0))) (.slice A1 L1 C1) (.slice Aq Lq Cq) (by simp [noU]) (hB.trans (B1.mono hB.size)) (by rw [hW'.out.2]; omega)
  have q0 := hR1.cell 0
  have z0 := hR1.frozen 0
  have q1 := hR1.cell 1
  have z1 := hR1.frozen 1
  have q2 := hR1.cell 2
  have z2 := hR1.frozen 2
  have P := Lib.hid (And.intro (KEY.out _ _ _ _ (p2 _ _ h1) (p2 _ _ hqa1) rfl) (And.intro p3 p1.cells3))
  clear p1 p2 p3 hN
  go_wp2
  obtain ⟨P1, P2, P3, P4, P5⟩ := P.out
  exact bodyPost_ret (v := .agg #[.bool (decide (c < 0)), .slice A1 L1 C1, .slice Aq Lq Cq]) (by simp [results, Try.results34, go_sem, P3, P4, P5, q0, q1, q2]) rfl ⟨_, rfl, P1, P2⟩
end Go.Proofs.Ytbnnonmkkkhepaa
namespace Go.Proofs.Ytbnnonmkkkhepaa
open Go.RowKit
attribute [local go_sem ↓] Go.wp_at_zero Go.wp_at_succ

set_option maxHeartbeats 8000000 in
theorem rqmul_any (va vb : Value) (a b : Rat) (w : World) (ha : IsQ w va a) (hb : IsQ w vb b) (sa : BQ a 10000) (sb : BQ b 10000) :
    Calls Try.prog 16 #[va, vb] w fun e w' => ∃ v', e = .returned v' ∧ IsQ w' v' (a * b) ∧ Below w.heap.size w w' := by
  have hda : 0 < a.den := Rat.den_pos a
  have hdb : 0 < b.den := Rat.den_pos b
  obtain ⟨pa, qa, rfl, hpa, hqa⟩ := ha
  have hza : IsZ w (.agg #[.bool (decide (a.num < 0)), pa]) a.num := ⟨_, rfl, hpa⟩
  obtain ⟨pb, qb, rfl, hpb, hqb⟩ := hb
  have hzb : IsZ w (.agg #[.bool (decide (b.num < 0)), pb]) b.num := ⟨_, rfl, hpb⟩
  have hA := fun w hu hv => rzmul_any (.agg #[.bool (decide (a.num < 0)), pa]) (.agg #[.bool (decide (b.num < 0)), pb]) a.num b.num w hu hv (sa.1.more (by omega)) (sb.1.more (by omega))
  have hM := fun w hu hv => rmul_any qa qb a.den b.den w hu hv (sa.2.fin (by omega)) (sb.2.fin (by omega))
  have hK := fun u v w hu hv => rqmake_any u v (a.num * b.num) (a.den * b.den) w hu hv ((sa.1.imul sb.1).more (by omega)) ((sa.2.mul sb.2).more (by omega)) (Nat.mul_pos hda hdb)
  rw [← Rat.mul_def'] at hK
  obtain ⟨r, hr⟩ : ∃ r, r = a * b := ⟨_, rfl⟩
  rw [← hr] at hK ⊢
  clear hr
  generalize a.num * b.num = m3 at *
  generalize a.den * b.den = d at *
  generalize a.num = na at *
  generalize b.num = nb at *
  generalize a.den = da at *
  generalize b.den = db at *
  clear hpa hpb sa sb hda hdb
  generalize decide (na < 0) = sa at *
  generalize decide (nb < 0) = sb at *
  obtain ⟨W0, hW, hT, hR, hB⟩ := box3 w 40 40 40 #[.bool sa, pa, qa] #[.bool sb, pb, qb] #[.bool false, .slice none 0 0, .slice none 0 0]
  obtain ⟨g, hg⟩ : ∃ g, g = w.heap.size := ⟨_, rfl⟩
  have hW' := Lib.hid (And.intro hW hg)
  rw [← hg] at hT hR
  clear hW hg
  have hza := hza.below hB
  have hzb := hzb.below hB
  have hqa := hqa.below hB
  have hqb := hqb.below hB
  have hgw : w.heap.size ≤ g := by rw [hW'.out.2]; omega
  go_enter Try.func16, Try.ntmps16
  go_upto_region 1 with fail
  rw [← hW'.out.1, ← hW'.out.2]
  go_cut [5] (fun s wx => ∃ (X : Nat) (A1 A2 : Option Addr) (L1 L2 C1 C2 : Nat), s = .pointer (some ⟨X, 0, none⟩) ∧ Blk wx X 40 #[.bool (decide (r.num < 0)), .slice A1 L1 C1, .slice A2 L2 C2] ∧ IsN wx (.slice A1 L1 C1) r.num.natAbs ∧ IsN wx (.slice A2 L2 C2) r.den ∧ Blk wx (g + 1 + 1) 40 #[.bool false, .slice none 0 0, .slice none 0 0] ∧ Below w.heap.size w wx)
  case first =>
    go_region_held3 (fun w' => w'.cell? ⟨g, 0, none⟩ = some (.bool sa) ∧ w'.cell? ⟨g, 1, none⟩ = some pa ∧ w'.cell? ⟨g, 2, none⟩ = some qa ∧ w'.cell? ⟨g + 1, 0, none⟩ = some (.bool sb) ∧ w'.cell? ⟨g + 1, 1, none⟩ = some pb ∧ w'.cell? ⟨g + 1, 2, none⟩ = some qb) (first | exact Two.cells33 (hT.below (by first | assumption | exact balloc (by assumption) _ | exact bdrew _ | exact balloc (bdrew _) _) hT.lt) | exact Two.cells33 (hT.below (bset (bset (bset (by assumption) (by assumption) _) (by assumption) _) (by assumption) _) hT.lt))
      (first
        | (go_at_call 31; (with_reducible refine (hA _ ?_ ?_).mono ?_); exact hza.below (by first | assumption | exact balloc (by assumption) _ | exact bdrew _ | exact balloc (bdrew _) _); exact hzb.below (by first | assumption | exact balloc (by assumption) _ | exact bdrew _ | exact balloc (bdrew _) _); rintro x w3 ⟨v3, rfl, h3, b3⟩; (first | ((first | have hXX := newX b3 W0 (by first | assumption | exact bdrew _) | have hXX := newX (undrew b3) W0 (by first | exact Below.refl _ _ | assumption)); obtain ⟨hX, sX⟩ := hXX; try simp only [World.size_drew] at hX sX) | (have hX := hX.below b3 hX.lt) | skip); have B3 := bstep (a := W0) (by first | assumption | exact balloc (by assumption) _ | exact bdrew _ | exact balloc (bdrew _) _) b3)
        | (go_at_call 30; (with_reducible refine (hM _ ?_ ?_).mono ?_); exact hqa.below (by first | assumption | exact balloc (by assumption) _ | exact bdrew _ | exact balloc (bdrew _) _); exact hqb.below (by first | assumption | exact balloc (by assumption) _ | exact bdrew _ | exact balloc (bdrew _) _); rintro x w4 ⟨v4, rfl, h4, b4⟩; (first | ((first | have hXX := newX b4 W0 (by first | assumption | exact bdrew _) | have hXX := newX (undrew b4) W0 (by first | exact Below.refl _ _ | assumption)); obtain ⟨hX, sX⟩ := hXX; try simp only [World.size_drew] at hX sX) | (have hX := hX.below b4 hX.lt) | skip); have B4 := bstep (a := W0) (by first | assumption | exact balloc (by assumption) _ | exact bdrew _ | exact balloc (bdrew _) _) b4; have h3 := h3.below (by first | exact b4 | exact bstep (balloc (Below.refl _ _) _) b4))
        | (go_at_call 27; (with_reducible refine (hK _ _ _ ?_ ?_).mono ?_); exact h3.below (by first | exact Below.refl _ _ | exact balloc (Below.refl _ _) _); exact h4.below (by first | exact Below.refl _ _ | exact balloc (Below.refl _ _) _); rintro x w5 ⟨v5, rfl, ⟨n5, d5, rfl, h5, k5⟩, b5⟩; (first | ((first | have hXX := newX b5 W0 (by first | assumption | exact bdrew _) | have hXX := newX (undrew b5) W0 (by first | exact Below.refl _ _ | assumption)); obtain ⟨hX, sX⟩ := hXX; try simp only [World.size_drew] at hX sX) | (have hX := hX.below b5 hX.lt) | skip); have B5 := bstep (a := W0) (by first | assumption | exact balloc (by assumption) _ | exact bdrew _ | exact balloc (bdrew _) _) b5; obtain ⟨A1, L1, C1, rfl⟩ := h5.frm; obtain ⟨A2, L2, C2, rfl⟩ := k5.frm; (try (have x0 := hX.cell 0; have x1 := hX.cell 1; have x2 := hX.cell 2; have y0 := hX.frozen 0; have y1 := hX.frozen 1; have y2 := hX.frozen 2))))
    all_goals (go_wp2_with fail; go_meet)
    all_goals
      have hRlt := hR.lt
      have hR := hR.below B5 hR.lt
      have hB0 := hB
      have hB := hB.trans (B5.mono hB.size)
      have hsz := hT.lt
      first
        | exact ⟨_, _, _, _, _, _, _, rfl, Blk.new _ _ _, h5.below (balloc (Below.refl _ _) _), k5.below (balloc (Below.refl _ _) _), hR.alloc _, hB.alloc hB.size _⟩
        | (obtain ⟨p1, p2, p3⟩ := put3 hX (.bool (decide (r.num < 0))) (.slice A1 L1 C1) (.slice A2 L2 C2) (by simp [noU]) hB (Nat.le_trans hB0.size (by first | assumption | exact Nat.le_refl _))
           exact ⟨_, _, _, _, _, _, _, rfl, p1, p2 _ _ h5, p2 _ _ k5, hR.farX (Nat.ne_of_lt (Nat.lt_of_lt_of_le hRlt (by first | assumption | exact Nat.le_refl _))) _ _ _, p3⟩)
  obtain ⟨X, A1, A2, L1, L2, C1, C2, rfl, hX, h1, h2, hR, hB⟩ := hcut
  obtain ⟨x0, x1, x2⟩ := hX.cells3
  obtain ⟨p1, p2, p3⟩ := put3 hR (.bool (decide (r.num < 0))) (.slice A1 L1 C1) (.slice A2 L2 C2) (by simp [noU]) hB (by omega)
  have q0 := hR.cell 0
  have z0 := hR.frozen 0
  have q1 := hR.cell 1
  have z1 := hR.frozen 1
  have q2 := hR.cell 2
  have z2 := hR.frozen 2
  have P := Lib.hid (And.intro (⟨_, _, rfl, p2 _ _ h1, p2 _ _ h2⟩ : IsQ _ (.agg #[.bool (decide (r.num < 0)), .slice A1 L1 C1, .slice A2 L2 C2]) r) (And.intro p3 p1.cells3))
  clear p1 p2 p3 
  go_wp2
  obtain ⟨P1, P2, P3, P4, P5⟩ := P.out
  exact bodyPost_ret (v := .agg #[.bool (decide (r.num < 0)), .slice A1 L1 C1, .slice A2 L2 C2]) (by simp [results, Try.results16, go_sem, P3, P4, P5, q0, q1, q2]) rfl ⟨_, rfl, P1, P2⟩
end Go.Proofs.Ytbnnonmkkkhepaa
namespace Go.Proofs.Ytbnnonmkkkhepaa
open Go.RowKit
attribute [local go_sem ↓] Go.wp_at_zero Go.wp_at_succ

set_option maxHeartbeats 8000000 in
theorem rqadd_any (va vb : Value) (a b : Rat) (w : World) (ha : IsQ w va a) (hb : IsQ w vb b) (sa : BQ a 10000) (sb : BQ b 10000) :
    Calls Try.prog 15 #[va, vb] w fun e w' => ∃ v', e = .returned v' ∧ IsQ w' v' (a + b) ∧ Below w.heap.size w w' := by
  have hda : 0 < a.den := Rat.den_pos a
  have hdb : 0 < b.den := Rat.den_pos b
  obtain ⟨pa, qa, rfl, hpa, hqa⟩ := ha
  have hza : IsZ w (.agg #[.bool (decide (a.num < 0)), pa]) a.num := ⟨_, rfl, hpa⟩
  obtain ⟨pb, qb, rfl, hpb, hqb⟩ := hb
  have hzb : IsZ w (.agg #[.bool (decide (b.num < 0)), pb]) b.num := ⟨_, rfl, hpb⟩
  have hO1 := fun w hp hq => rqover_any (.agg #[.bool (decide (a.num < 0)), pa]) qb a.num b.den w hp hq (sa.1.more (by omega)) (sb.2.more (by omega))
  have hO2 := fun w hp hq => rqover_any (.agg #[.bool (decide (b.num < 0)), pb]) qa b.num a.den w hp hq (sb.1.more (by omega)) (sa.2.more (by omega))
  have s1 : Sz (a.num * (b.den : Int)).natAbs 20000 := sa.1.imul (b := (b.den : Int)) (by simpa using sb.2)
  have s2 : Sz (b.num * (a.den : Int)).natAbs 20000 := sb.1.imul (b := (a.den : Int)) (by simpa using sa.2)
  have hA := fun u v w hu hv => rzadd_any u v (a.num * (b.den : Int)) (b.num * (a.den : Int)) w hu hv (s1.more (by omega)) (s2.more (by omega))
  have hM := fun w hu hv => rmul_any qa qb a.den b.den w hu hv (sa.2.fin (by omega)) (sb.2.fin (by omega))
  have hK := fun u v w hu hv => rqmake_any u v (a.num * (b.den : Int) + b.num * (a.den : Int)) (a.den * b.den) w hu hv ((s1.iadd s2).more (by omega)) ((sa.2.mul sb.2).more (by omega)) (Nat.mul_pos hda hdb)
  rw [← Rat.add_def'] at hK
  obtain ⟨r, hr⟩ : ∃ r, r = a + b := ⟨_, rfl⟩
  rw [← hr] at hK ⊢
  clear hr s1 s2
  generalize a.num * (b.den : Int) + b.num * (a.den : Int) = m3 at *
  generalize a.num * (b.den : Int) = m1 at *
  generalize b.num * (a.den : Int) = m2 at *
  generalize a.den * b.den = d at *
  generalize a.num = na at *
  generalize b.num = nb at *
  generalize a.den = da at *
  generalize b.den = db at *
  clear hpa hpb sa sb hda hdb
  generalize decide (na < 0) = sa at *
  generalize decide (nb < 0) = sb at *
  obtain ⟨W0, hW, hT, hR, hB⟩ := box3 w 40 40 40 #[.bool sa, pa, qa] #[.bool sb, pb, qb] #[.bool false, .slice none 0 0, .slice none 0 0]
  obtain ⟨g, hg⟩ : ∃ g, g = w.heap.size := ⟨_, rfl⟩
  have hW' := Lib.hid (And.intro hW hg)
  rw [← hg] at hT hR
  clear hW hg
  have hza := hza.below hB
  have hzb := hzb.below hB
  have hqa := hqa.below hB
  have hqb := hqb.below hB
  have hgw : w.heap.size ≤ g := by rw [hW'.out.2]; omega
  go_enter Try.func15, Try.ntmps15
  go_upto_region 1 with fail
  rw [← hW'.out.1, ← hW'.out.2]
  go_cut [5] (fun s wx => ∃ (X : Nat) (A1 A2 : Option Addr) (L1 L2 C1 C2 : Nat), s = .pointer (some ⟨X, 0, none⟩) ∧ Blk wx X 40 #[.bool (decide (r.num < 0)), .slice A1 L1 C1, .slice A2 L2 C2] ∧ IsN wx (.slice A1 L1 C1) r.num.natAbs ∧ IsN wx (.slice A2 L2 C2) r.den ∧ Blk wx (g + 1 + 1) 40 #[.bool false, .slice none 0 0, .slice none 0 0] ∧ Below w.heap.size w wx)
  case first =>
    go_region_held3 (fun w' => w'.cell? ⟨g, 0, none⟩ = some (.bool sa) ∧ w'.cell? ⟨g, 1, none⟩ = some pa ∧ w'.cell? ⟨g, 2, none⟩ = some qa ∧ w'.cell? ⟨g + 1, 0, none⟩ = some (.bool sb) ∧ w'.cell? ⟨g + 1, 1, none⟩ = some pb ∧ w'.cell? ⟨g + 1, 2, none⟩ = some qb) (first | exact Two.cells33 (hT.below (by first | assumption | exact balloc (by assumption) _ | exact bdrew _ | exact balloc (bdrew _) _) hT.lt) | exact Two.cells33 (hT.below (bset (bset (bset (by assumption) (by assumption) _) (by assumption) _) (by assumption) _) hT.lt))
      (first
        | (go_at_call 29; (with_reducible refine (hO1 _ ?_ ?_).mono ?_); exact hza.below (by first | assumption | exact balloc (by assumption) _ | exact bdrew _ | exact balloc (bdrew _) _); exact hqb.below (by first | assumption | exact balloc (by assumption) _ | exact bdrew _ | exact balloc (bdrew _) _); rintro x w1 ⟨v1, rfl, h1, b1⟩; (first | ((first | have hXX := newX b1 W0 (by first | assumption | exact bdrew _) | have hXX := newX (undrew b1) W0 (by first | exact Below.refl _ _ | assumption)); obtain ⟨hX, sX⟩ := hXX; try simp only [World.size_drew] at hX sX) | (have hX := hX.below b1 hX.lt) | skip); have B1 := bstep (a := W0) (by first | assumption | exact balloc (by assumption) _ | exact bdrew _ | exact balloc (bdrew _) _) b1)
        | (go_at_call 29; (with_reducible refine (hO2 _ ?_ ?_).mono ?_); exact hzb.below (by first | assumption | exact balloc (by assumption) _ | exact bdrew _ | exact balloc (bdrew _) _); exact hqa.below (by first | assumption | exact balloc (by assumption) _ | exact bdrew _ | exact balloc (bdrew _) _); rintro x w2 ⟨v2, rfl, h2, b2⟩; (first | ((first | have hXX := newX b2 W0 (by first | assumption | exact bdrew _) | have hXX := newX (undrew b2) W0 (by first | exact Below.refl _ _ | assumption)); obtain ⟨hX, sX⟩ := hXX; try simp only [World.size_drew] at hX sX) | (have hX := hX.below b2 hX.lt) | skip); have B2 := bstep (a := W0) (by first | assumption | exact balloc (by assumption) _ | exact bdrew _ | exact balloc (bdrew _) _) b2; have h1 := h1.below (by first | exact b2 | exact bstep (balloc (Below.refl _ _) _) b2))
        | (go_at_call 28; (with_reducible refine (hA _ _ _ ?_ ?_).mono ?_); exact h1.below (by first | exact Below.refl _ _ | exact balloc (Below.refl _ _) _); exact h2.below (by first | exact Below.refl _ _ | exact balloc (Below.refl _ _) _); rintro x w3 ⟨v3, rfl, h3, b3⟩; (first | ((first | have hXX := newX b3 W0 (by first | assumption | exact bdrew _) | have hXX := newX (undrew b3) W0 (by first | exact Below.refl _ _ | assumption)); obtain ⟨hX, sX⟩ := hXX; try simp only [World.size_drew] at hX sX) | (have hX := hX.below b3 hX.lt) | skip); have B3 := bstep (a := W0) (by first | assumption | exact balloc (by assumption) _ | exact bdrew _ | exact balloc (bdrew _) _) b3)
        | (go_at_call 30; (with_reducible refine (hM _ ?_ ?_).mono ?_); exact hqa.below (by first | assumption | exact balloc (by assumption) _ | exact bdrew _ | exact balloc (bdrew _) _); exact hqb.below (by first | assumption | exact balloc (by assumption) _ | exact bdrew _ | exact balloc (bdrew _) _); rintro x w4 ⟨v4, rfl, h4, b4⟩; (first | ((first | have hXX := newX b4 W0 (by first | assumption | exact bdrew _) | have hXX := newX (undrew b4) W0 (by first | exact Below.refl _ _ | assumption)); obtain ⟨hX, sX⟩ := hXX; try simp only [World.size_drew] at hX sX) | (have hX := hX.below b4 hX.lt) | skip); have B4 := bstep (a := W0) (by first | assumption | exact balloc (by assumption) _ | exact bdrew _ | exact balloc (bdrew _) _) b4; have h3 := h3.below (by first | exact b4 | exact bstep (balloc (Below.refl _ _) _) b4))
        | (go_at_call 27; (with_reducible refine (hK _ _ _ ?_ ?_).mono ?_); exact h3.below (by first | exact Below.refl _ _ | exact balloc (Below.refl _ _) _); exact h4.below (by first | exact Below.refl _ _ | exact balloc (Below.refl _ _) _); rintro x w5 ⟨v5, rfl, ⟨n5, d5, rfl, h5, k5⟩, b5⟩; (first | ((first | have hXX := newX b5 W0 (by first | assumption | exact bdrew _) | have hXX := newX (undrew b5) W0 (by first | exact Below.refl _ _ | assumption)); obtain ⟨hX, sX⟩ := hXX; try simp only [World.size_drew] at hX sX) | (have hX := hX.below b5 hX.lt) | skip); have B5 := bstep (a := W0) (by first | assumption | exact balloc (by assumption) _ | exact bdrew _ | exact balloc (bdrew _) _) b5; obtain ⟨A1, L1, C1, rfl⟩ := h5.frm; obtain ⟨A2, L2, C2, rfl⟩ := k5.frm; (try (have x0 := hX.cell 0; have x1 := hX.cell 1; have x2 := hX.cell 2; have y0 := hX.frozen 0; have y1 := hX.frozen 1; have y2 := hX.frozen 2))))
    all_goals (go_wp2_with fail; go_meet)
    all_goals
      have hRlt := hR.lt
      have hR := hR.below B5 hR.lt
      have hB0 := hB
      have hB := hB.trans (B5.mono hB.size)
      have hsz := hT.lt
      first
        | exact ⟨_, _, _, _, _, _, _, rfl, Blk.new _ _ _, h5.below (balloc (Below.refl _ _) _), k5.below (balloc (Below.refl _ _) _), hR.alloc _, hB.alloc hB.size _⟩
        | (obtain ⟨p1, p2, p3⟩ := put3 hX (.bool (decide (r.num < 0))) (.slice A1 L1 C1) (.slice A2 L2 C2) (by simp [noU]) hB (Nat.le_trans hB0.size (by first | assumption | exact Nat.le_refl _))
           exact ⟨_, _, _, _, _, _, _, rfl, p1, p2 _ _ h5, p2 _ _ k5, hR.farX (Nat.ne_of_lt (Nat.lt_of_lt_of_le hRlt (by first | assumption | exact Nat.le_refl _))) _ _ _, p3⟩)
  obtain ⟨X, A1, A2, L1, L2, C1, C2, rfl, hX, h1, h2, hR, hB⟩ := hcut
  obtain ⟨x0, x1, x2⟩ := hX.cells3
  obtain ⟨p1, p2, p3⟩ := put3 hR (.bool (decide (r.num < 0))) (.slice A1 L1 C1) (.slice A2 L2 C2) (by simp [noU]) hB (by omega)
  have q0 := hR.cell 0
  have z0 := hR.frozen 0
  have q1 := hR.cell 1
  have z1 := hR.frozen 1
  have q2 := hR.cell 2
  have z2 := hR.frozen 2
  have P := Lib.hid (And.intro (⟨_, _, rfl, p2 _ _ h1, p2 _ _ h2⟩ : IsQ _ (.agg #[.bool (decide (r.num < 0)), .slice A1 L1 C1, .slice A2 L2 C2]) r) (And.intro p3 p1.cells3))
  clear p1 p2 p3 
  go_wp2
  obtain ⟨P1, P2, P3, P4, P5⟩ := P.out
  exact bodyPost_ret (v := .agg #[.bool (decide (r.num < 0)), .slice A1 L1 C1, .slice A2 L2 C2]) (by simp [results, Try.results15, go_sem, P3, P4, P5, q0, q1, q2]) rfl ⟨_, rfl, P1, P2⟩
end Go.Proofs.Ytbnnonmkkkhepaa
namespace Go.Proofs.Ytbnnonmkkkhepaa
open Go.RowKit
attribute [local go_sem ↓] Go.wp_at_zero Go.wp_at_succ

set_option maxHeartbeats 8000000 in
theorem rqsub_any (va vb : Value) (a b : Rat) (w : World) (ha : IsQ w va a) (hb : IsQ w vb b) (sa : BQ a 10000) (sb : BQ b 10000) :
    Calls Try.prog 19 #[va, vb] w fun e w' => ∃ v', e = .returned v' ∧ IsQ w' v' (a - b) ∧ Below w.heap.size w w' := by
  have hN := fun w hb => rqneg_any vb b w hb
  have hA := fun u w ha hu => rqadd_any va u a (-b) w ha hu sa sb.neg
  rw [← Rat.sub_eq_add_neg] at hA
  have ha0 := ha
  have hb0 := hb
  obtain ⟨pa, qa, rfl, hpa, hqa⟩ := ha
  have hza : IsZ w (.agg #[.bool (decide (a.num < 0)), pa]) a.num := ⟨_, rfl, hpa⟩
  obtain ⟨pb, qb, rfl, hpb, hqb⟩ := hb
  have hzb : IsZ w (.agg #[.bool (decide (b.num < 0)), pb]) b.num := ⟨_, rfl, hpb⟩
  obtain ⟨r, hr⟩ : ∃ r, r = a - b := ⟨_, rfl⟩
  rw [← hr] at hA ⊢
  clear hr hza hzb hpa hpb hqa hqb sa sb
  obtain ⟨W0, hW, hT, hR, hB⟩ := box3 w 40 40 40 #[.bool (decide (a.num < 0)), pa, qa] #[.bool (decide (b.num < 0)), pb, qb] #[.bool false, .slice none 0 0, .slice none 0 0]
  obtain ⟨g, hg⟩ : ∃ g, g = w.heap.size := ⟨_, rfl⟩
  have hW' := Lib.hid (And.intro hW hg)
  rw [← hg] at hT hR
  clear hW hg
  have ha0 := ha0.below hB
  have hb0 := hb0.below hB
  go_enter Try.func19, Try.ntmps19
  go_wp2
  rw [← hW'.out.1, ← hW'.out.2]
  go_region_held3 (fun w' => w'.cell? ⟨g, 0, none⟩ = some (.bool (decide (a.num < 0))) ∧ w'.cell? ⟨g, 1, none⟩ = some pa ∧ w'.cell? ⟨g, 2, none⟩ = some qa ∧ w'.cell? ⟨g + 1, 0, none⟩ = some (.bool (decide (b.num < 0))) ∧ w'.cell? ⟨g + 1, 1, none⟩ = some pb ∧ w'.cell? ⟨g + 1, 2, none⟩ = some qb) (first | exact Two.cells33 (hT.below (by first | assumption | exact balloc (by assumption) _ | exact bdrew _ | exact balloc (bdrew _) _) hT.lt) | exact Two.cells33 (Two.far3 (hT.below (by first | assumption | exact balloc (by assumption) _ | exact bdrew _ | exact balloc (bdrew _) _) hT.lt) _ _ _))
    (first
      | (go_at_call 34; (with_reducible refine (hN _ ?_).mono ?_); exact hb0.below (by first | assumption | exact balloc (by assumption) _ | exact bdrew _ | exact balloc (bdrew _) _); rintro x w1 ⟨v1, rfl, h1, b1⟩; have B1 := bstep (a := W0) (by first | assumption | exact balloc (by assumption) _ | exact bdrew _ | exact balloc (bdrew _) _) b1)
      | (go_at_call 15; (with_reducible refine (hA _ _ ?_ ?_).mono ?_); exact ha0.below (by first | assumption | exact balloc (by assumption) _ | exact bdrew _ | exact balloc (bdrew _) _); exact h1.below (by first | exact Below.refl _ _ | exact balloc (Below.refl _ _) _); rintro x w2 ⟨v2, rfl, ⟨n2, d2, rfl, h2, k2⟩, b2⟩; obtain ⟨A1, L1, C1, rfl⟩ := h2.frm; obtain ⟨A2, L2, C2, rfl⟩ := k2.frm; have B2 := bstep (a := W0) (by first | assumption | exact balloc (by assumption) _ | exact bdrew _ | exact balloc (bdrew _) _) b2; have hR1 := hR.below B2 hR.lt; have q0 := hR1.cell 0; have q1 := hR1.cell 1; have q2 := hR1.cell 2; have z0 := hR1.frozen 0; have z1 := hR1.frozen 1; have z2 := hR1.frozen 2))
  obtain ⟨p1, p2, p3⟩ := put3 hR1 (.bool (decide (r.num < 0))) (.slice A1 L1 C1) (.slice A2 L2 C2) (by simp [noU]) (hB.trans (B2.mono hB.size)) (by rw [hW'.out.2]; omega)
  have q0 := hR1.cell 0
  have z0 := hR1.frozen 0
  have q1 := hR1.cell 1
  have z1 := hR1.frozen 1
  have q2 := hR1.cell 2
  have z2 := hR1.frozen 2
  have P := Lib.hid (And.intro (⟨_, _, rfl, p2 _ _ h2, p2 _ _ k2⟩ : IsQ _ (.agg #[.bool (decide (r.num < 0)), .slice A1 L1 C1, .slice A2 L2 C2]) r) (And.intro p3 p1.cells3))
  clear p1 p2 p3 
  go_wp2
  obtain ⟨P1, P2, P3, P4, P5⟩ := P.out
  exact bodyPost_ret (v := .agg #[.bool (decide (r.num < 0)), .slice A1 L1 C1, .slice A2 L2 C2]) (by simp [results, Try.results19, go_sem, P3, P4, P5, q0, q1, q2]) rfl ⟨_, rfl, P1, P2⟩
end Go.Proofs.Ytbnnonmkkkhepaa
