/- The rationals, the dyadics, the nearest one, and the reference of layers 8 and 11, as one text (a claim has at most 60 files). -/
import Derived.Deep.DeepMust
import Derived.Test.YtochabikpaoalaaGreatZedW
import Derived.Test.YtochabikpaoalaaGreatDivM
import Derived.Test.YtochabikpaoalaaGreatZed2
import Derived.Deep.DeepCutAuto
import Derived.RegionTactic
import Derived.Test.YtochabikpaoalaaGreatMath
import Derived.Test.YtochabikpaoalaaGreatRef11
import Derived.Test.YtochabikpaoalaaGreatRef09d
import Derived.Deep.RegionHeld3
namespace Go.Proofs.YtochabikpaoalaaGreat
end Go.Proofs.YtochabikpaoalaaGreat
namespace Go.Proofs.YtochabikpaoalaaGreat
open Go.RowKit
attribute [local go_sem ↓] Go.wp_at_zero Go.wp_at_succ

/-- the value is this rational -/
def IsQ (w : World) (v : Value) (r : Rat) : Prop := ∃ pn qn, v = .agg #[.bool (decide (r.num < 0)), pn, qn] ∧ IsN w pn r.num.natAbs ∧ IsN w qn r.den
theorem IsQ.below {w w' : World} {v : Value} {r : Rat} (h : IsQ w v r) (hb : Below w.heap.size w w') : IsQ w' v r := by
  obtain ⟨pn, qn, e, h1, h2⟩ := h; exact ⟨pn, qn, e, h1.below hb, h2.below hb⟩
theorem IsN.pos {w : World} {v : Value} {n : Nat} (h : IsN w v n) (h0 : 0 < n) : ∃ A L c, v = .slice A L c ∧ 0 < L := by
  obtain ⟨A, L, c, e, hL⟩ := h.open_
  refine ⟨A, L, c, e, ?_⟩
  rw [hL]; exact List.length_pos_iff.2 (fun e => by have := limbs_nil.1 e; omega)
set_option maxHeartbeats 2000000 in
theorem rqmake_any (vp vq : Value) (p : Int) (q : Nat) (w : World) (hp : IsZ w vp p) (hq : IsN w vq q) (sp : Sz p.natAbs 100000) (sq : Sz q 100000) (h0 : 0 < q) :
    Calls Tryz.prog 72 #[vp, vq] w fun e w' => ∃ v', e = .returned (.tuple #[v', .int .i64 0]) ∧ IsQ w' v' (mkRat p q) ∧ Below w.heap.size w w' := by
  obtain ⟨np, rfl, hp⟩ := hp
  obtain ⟨m1, m2, m3⟩ := mk_num p q (by omega)
  have hgp : 0 < Nat.gcd p.natAbs q := Nat.gcd_pos_of_pos_right _ h0
  have hG := fun w hp hq => gcd_any np vq p.natAbs q w hp hq sp sq
  have hD1 := fun v w hp hg => divmod_any np v p.natAbs (Nat.gcd p.natAbs q) w hp hg sp (sq.le (Nat.gcd_le_right _ h0)) hgp
  have hD2 := fun v w hp hg => divmod_any vq v q (Nat.gcd p.natAbs q) w hp hg sq (sq.le (Nat.gcd_le_right _ h0)) hgp
  rw [← m1] at hD1
  rw [← m2] at hD2
  rw [← m3] at *
  generalize mkRat p q = r at *
  generalize Nat.gcd p.natAbs q = d at *
  generalize p.natAbs = x at *
  obtain ⟨Aq, Lq, Cq, rfl, hLq⟩ := hq.pos h0
  have hl1 : ((Lq : Int) == 0) = false := by simp; omega
  have hl2 : decide (Lq = 0) = false := by simp; omega
  clear m1 m2 m3 hLq h0 hgp sp sq
  obtain ⟨W0, hW, hT, hB⟩ := box2 w 78 80 #[.bool (decide (r.num < 0)), np] #[.bool false, .slice none 0 0, .slice none 0 0]
  obtain ⟨g, hg⟩ : ∃ g, g = w.heap.size := ⟨_, rfl⟩
  have hW' := Lib.hid (And.intro hW hg)
  rw [← hg] at hT
  clear hW hg
  have hp := hp.below hB
  have hq := hq.below hB
  obtain ⟨q00, q01⟩ := hT.1.cells2
  go_enter Tryz.func72, Tryz.ntmps72
  go_wp2_with fail
  rw [← hW'.out.1, ← hW'.out.2]
  refine (hG _ hp hq).mono ?_
  rintro e w1 ⟨v1, rfl, h1, b1⟩
  have hT := hT.below b1 hT.lt
  have hB := hB.trans (b1.mono hB.size)
  have hp := hp.below b1
  have hq := hq.below b1
  obtain ⟨q00, q01⟩ := hT.1.cells2
  go_wp2_with fail
  refine (hD1 _ _ hp h1).mono ?_
  rintro e w2 ⟨v2, r2, rfl, h2, hr2, b2⟩
  have hT := hT.below b2 hT.lt
  have hB := hB.trans (b2.mono hB.size)
  have h1 := h1.below b2
  have hq := hq.below b2
  obtain ⟨q00, q01⟩ := hT.1.cells2
  go_wp2_with fail
  refine (hD2 _ _ hq h1).mono ?_
  rintro e w3 ⟨v3, r3, rfl, h3, hr3, b3⟩
  have hT := hT.below b3 hT.lt
  have hB := hB.trans (b3.mono hB.size)
  have h2 := h2.below b3
  obtain ⟨q00, q01⟩ := hT.1.cells2
  have hR := hT.2
  obtain ⟨A2, L2, C2, rfl⟩ := h2.frm
  obtain ⟨A3, L3, C3, rfl⟩ := h3.frm
  obtain ⟨p1, p2, p3⟩ := put3 hR (.bool (decide (r.num < 0))) (.slice A2 L2 C2) (.slice A3 L3 C3) (by simp [noU]) hB (by rw [hW'.out.2]; omega)
  have q0 := hR.cell 0
  have z0 := hR.frozen 0
  have q1 := hR.cell 1
  have z1 := hR.frozen 1
  have q2 := hR.cell 2
  have z2 := hR.frozen 2
  have P := Lib.hid (And.intro (⟨_, _, rfl, p2 _ _ h2, p2 _ _ h3⟩ : IsQ _ (.agg #[.bool (decide (r.num < 0)), .slice A2 L2 C2, .slice A3 L3 C3]) r) (And.intro p3 p1.cells3))
  clear p1 p2 p3 hG hD1 hD2
  go_wp2
  obtain ⟨P1, P2, P3, P4, P5⟩ := P.out
  exact bodyPost_ret (v := .tuple #[.agg #[.bool (decide (r.num < 0)), .slice A2 L2 C2, .slice A3 L3 C3], .int .i64 0]) (by simp [results, Tryz.results72, go_sem, P3, P4, P5]) rfl ⟨_, rfl, P1, P2⟩
set_option maxHeartbeats 2000000 in
theorem rqof_any (n : Int) (h0 : -9223372036854775808 ≤ n) (h1 : n ≤ 9223372036854775807) (w : World) :
    Calls Tryz.prog 55 #[.int .i64 n] w fun e w' => ∃ v', e = .returned v' ∧ IsQ w' v' (n : Rat) ∧ Below w.heap.size w w' := by
  have hZ := fun w => rzof_any n h0 h1 w
  have hO := fun w => rof_any 1 (by unfold W64; omega) w
  obtain ⟨c, hc⟩ : ∃ c, c = n := ⟨_, rfl⟩
  have KEY : Hid (∀ w' b a d, IsN w' a c.natAbs → IsN w' d 1 → b = decide (c < 0) → IsQ w' (.agg #[.bool b, a, d]) (n : Rat)) := by
    rw [hc]; rintro w' b a d h1 h2 rfl; exact ⟨a, d, rfl, h1, h2⟩
  have hZ := fun w => (show Calls Tryz.prog 75 #[.int .i64 n] w fun e w' => ∃ v', e = .returned v' ∧ IsZ w' v' c ∧ Below w.heap.size w w' by rw [hc]; exact hZ w)
  clear hc
  obtain ⟨W0, hW, hR, hB⟩ := box1 w 80 #[.bool false, .slice none 0 0, .slice none 0 0]
  obtain ⟨g, hg⟩ : ∃ g, g = w.heap.size := ⟨_, rfl⟩
  have hW' := Lib.hid (And.intro hW hg)
  rw [← hg] at hR
  clear hW hg
  go_enter Tryz.func55, Tryz.ntmps55
  go_wp2_with fail
  rw [← hW'.out.1, ← hW'.out.2]
  refine (hZ _).mono ?_
  rintro e w1 ⟨v1, rfl, ⟨n1, rfl, h1⟩, b1⟩
  have hR := hR.below b1 hR.lt
  have hB := hB.trans (b1.mono hB.size)
  go_wp2_with fail
  refine (hO _).mono ?_
  rintro e w2 ⟨v2, rfl, h2, b2⟩
  have hR := hR.below b2 hR.lt
  have hB := hB.trans (b2.mono hB.size)
  have h1 := h1.below b2
  obtain ⟨A2, L2, C2, rfl⟩ := h1.frm
  obtain ⟨A3, L3, C3, rfl⟩ := h2.frm
  obtain ⟨p1, p2, p3⟩ := put3 hR (.bool (decide (c < 0))) (.slice A2 L2 C2) (.slice A3 L3 C3) (by simp [noU]) hB (by rw [hW'.out.2]; omega)
  have q0 := hR.cell 0
  have z0 := hR.frozen 0
  have q1 := hR.cell 1
  have z1 := hR.frozen 1
  have q2 := hR.cell 2
  have z2 := hR.frozen 2
  have P := Lib.hid (And.intro (KEY.out _ _ _ _ (p2 _ _ h1) (p2 _ _ h2) rfl) (And.intro p3 p1.cells3))
  clear p1 p2 p3 hZ hO
  go_wp2
  obtain ⟨P1, P2, P3, P4, P5⟩ := P.out
  exact bodyPost_ret (v := .agg #[.bool (decide (c < 0)), .slice A2 L2 C2, .slice A3 L3 C3]) (by simp [results, Tryz.results55, go_sem, P3, P4, P5]) rfl ⟨_, rfl, P1, P2⟩
set_option maxHeartbeats 2000000 in
theorem rqover_any (vp vq : Value) (p : Int) (q : Nat) (w : World) (hp : IsZ w vp p) (hq : IsN w vq q) (sp : Sz p.natAbs 400000) (sq : Sz q 400000) :
    Calls Tryz.prog 130 #[vp, vq] w fun e w' => ∃ v', e = .returned v' ∧ IsZ w' v' (p * (q : Int)) ∧ Below w.heap.size w w' := by
  have hM := fun w va vb ha hb => rzmul_any va vb p (q : Int) w ha hb sp (by simpa using sq)
  have hZ : ∀ w, IsN w vq q → IsZ w (.agg #[.bool false, vq]) (q : Int) := fun w h => ⟨vq, by rw [decide_eq_false (by omega)], by simpa using h⟩
  have hp0 := hp
  obtain ⟨np, rfl, hp⟩ := hp
  obtain ⟨Aq, Lq, Cq, rfl⟩ := hq.frm
  obtain ⟨Ap, Lp, Cp, rfl⟩ := hp.frm
  obtain ⟨c, hc⟩ : ∃ c, c = p * (q : Int) := ⟨_, rfl⟩
  rw [← hc] at hM ⊢
  have HZ := Lib.hid hZ
  clear hc hZ sp sq
  generalize decide (p < 0) = b at *
  obtain ⟨W0, hW, hT, hB⟩ := box2 w 78 78 #[.bool b, .slice Ap Lp Cp] #[.bool false, .slice none 0 0]
  obtain ⟨g, hg⟩ : ∃ g, g = w.heap.size := ⟨_, rfl⟩
  have hW' := Lib.hid (And.intro hW hg)
  rw [← hg] at hT
  clear hW hg
  have hp0 := hp0.below hB
  have hq := HZ.out _ (hq.below hB)
  obtain ⟨q00, q01⟩ := hT.1.cells2
  go_enter Tryz.func130, Tryz.ntmps130
  go_wp2_with fail
  rw [← hW'.out.1, ← hW'.out.2]
  refine (hM _ _ _ hp0 hq).mono ?_
  rintro e w1 ⟨v1, rfl, ⟨n1, rfl, h1⟩, b1⟩
  obtain ⟨A2, L2, C2, rfl⟩ := h1.frm
  have hT := hT.below b1 hT.lt
  have hB := hB.trans (b1.mono hB.size)
  have hR := hT.2
  obtain ⟨p1, p2, p3⟩ := put2 hR (.bool (decide (c < 0))) (.slice A2 L2 C2) (by simp [noU]) hB (by rw [hW'.out.2]; omega)
  have q0 := hR.cell 0
  have z0 := hR.frozen 0
  have q1 := hR.cell 1
  have z1 := hR.frozen 1
  have P := Lib.hid (And.intro (⟨_, rfl, p2 _ _ h1⟩ : IsZ _ (.agg #[.bool (decide (c < 0)), .slice A2 L2 C2]) c) (And.intro p3 p1.cells2))
  clear p1 p2 p3 hM
  go_wp2
  obtain ⟨P1, P2, P3, P4⟩ := P.out
  exact bodyPost_ret (v := .agg #[.bool (decide (c < 0)), .slice A2 L2 C2]) (by simp [results, Tryz.results130, go_sem, P3, P4]) rfl ⟨_, rfl, P1, P2⟩
end Go.Proofs.YtochabikpaoalaaGreat
namespace Go.Proofs.YtochabikpaoalaaGreat
open Go.RowKit
attribute [local go_sem ↓] Go.wp_at_zero Go.wp_at_succ

set_option maxHeartbeats 2000000 in
theorem rqcmp_any (va vb : Value) (a b : Rat) (w : World) (ha : IsQ w va a) (hb : IsQ w vb b) (sa : BQ a 10000) (sb : BQ b 10000) :
    Calls Tryz.prog 100 #[va, vb] w fun e w' => e = .returned (.int .i64 (cmpQ a b)) ∧ Below w.heap.size w w' := by
  obtain ⟨pa, qa, rfl, hpa, hqa⟩ := ha
  have hza : IsZ w (.agg #[.bool (decide (a.num < 0)), pa]) a.num := ⟨_, rfl, hpa⟩
  obtain ⟨pb, qb, rfl, hpb, hqb⟩ := hb
  have hzb : IsZ w (.agg #[.bool (decide (b.num < 0)), pb]) b.num := ⟨_, rfl, hpb⟩
  have hO1 := fun w hp hq => rqover_any (.agg #[.bool (decide (a.num < 0)), pa]) qb a.num b.den w hp hq (sa.1.more (by omega)) (sb.2.more (by omega))
  have hO2 := fun w hp hq => rqover_any (.agg #[.bool (decide (b.num < 0)), pb]) qa b.num a.den w hp hq (sb.1.more (by omega)) (sa.2.more (by omega))
  have hC := fun u v w hu hv => rzcmp_any u v (a.num * b.den) (b.num * a.den) w hu hv
  rw [show cmpQ a b = cmpI (a.num * b.den) (b.num * a.den) from rfl]
  generalize cmpI (a.num * b.den) (b.num * a.den) = c at *
  generalize a.num * (b.den : Int) = m1 at *
  generalize b.num * (a.den : Int) = m2 at *
  generalize a.num = na at *
  generalize b.num = nb at *
  clear hpa hpb sa sb
  generalize decide (na < 0) = sa at *
  generalize decide (nb < 0) = sb at *
  obtain ⟨W0, hW, hT, hB⟩ := box2 w 80 80 #[.bool sa, pa, qa] #[.bool sb, pb, qb]
  obtain ⟨g, hg⟩ : ∃ g, g = w.heap.size := ⟨_, rfl⟩
  have hW' := Lib.hid (And.intro hW hg)
  rw [← hg] at hT
  clear hW hg
  have hza := hza.below hB
  have hzb := hzb.below hB
  have hqa := hqa.below hB
  have hqb := hqb.below hB
  go_enter Tryz.func100, Tryz.ntmps100
  go_wp2
  rw [← hW'.out.1, ← hW'.out.2]
  go_region_held3 (fun w' => w'.cell? ⟨g, 0, none⟩ = some (.bool sa) ∧ w'.cell? ⟨g, 1, none⟩ = some pa ∧ w'.cell? ⟨g, 2, none⟩ = some qa ∧ w'.cell? ⟨g + 1, 0, none⟩ = some (.bool sb) ∧ w'.cell? ⟨g + 1, 1, none⟩ = some pb ∧ w'.cell? ⟨g + 1, 2, none⟩ = some qb) (exact Two.cells33 (hT.below (by first | assumption | exact balloc (by assumption) _ | exact bdrew _ | exact balloc (bdrew _) _) hT.lt))
    (first
      | (go_at_call 130; (with_reducible refine (hO1 _ ?_ ?_).mono ?_); exact hza.below (by first | assumption | exact balloc (by assumption) _ | exact bdrew _ | exact balloc (bdrew _) _); exact hqb.below (by first | assumption | exact balloc (by assumption) _ | exact bdrew _ | exact balloc (bdrew _) _); rintro x w1 ⟨v1, rfl, h1, b1⟩; have B1 := bstep (by first | assumption | exact balloc (by assumption) _ | exact bdrew _ | exact balloc (bdrew _) _) b1)
      | (go_at_call 130; (with_reducible refine (hO2 _ ?_ ?_).mono ?_); exact hzb.below (by first | assumption | exact balloc (by assumption) _ | exact bdrew _ | exact balloc (bdrew _) _); exact hqa.below (by first | assumption | exact balloc (by assumption) _ | exact bdrew _ | exact balloc (bdrew _) _); rintro x w2 ⟨v2, rfl, h2, b2⟩; have B2 := bstep (by first | assumption | exact balloc (by assumption) _ | exact bdrew _ | exact balloc (bdrew _) _) b2; have h1 := h1.below (by first | exact b2 | exact bstep (balloc (Below.refl _ _) _) b2))
      | (go_at_call 69; (with_reducible refine (hC _ _ _ ?_ ?_).mono ?_); exact h1.below (by first | exact Below.refl _ _ | exact balloc (Below.refl _ _) _); exact h2.below (by first | exact Below.refl _ _ | exact balloc (Below.refl _ _) _); rintro x w3 ⟨rfl, b3⟩; have B3 := bstep (by first | assumption | exact balloc (by assumption) _ | exact bdrew _ | exact balloc (bdrew _) _) b3))
  go_wp2
  go_ret
  exact ⟨rfl, hB.trans (B3.mono hB.size)⟩
set_option maxHeartbeats 2000000 in
theorem rqneg_any (v : Value) (a : Rat) (w : World) (ha : IsQ w v a) :
    Calls Tryz.prog 128 #[v] w fun e w' => ∃ v', e = .returned v' ∧ IsQ w' v' (-a) ∧ Below w.heap.size w w' := by
  obtain ⟨pa, qa, rfl, hpa, hqa⟩ := ha
  have hza : IsZ w (.agg #[.bool (decide (a.num < 0)), pa]) a.num := ⟨_, rfl, hpa⟩
  have hN := fun w hz => rzneg_any (.agg #[.bool (decide (a.num < 0)), pa]) a.num w hz
  obtain ⟨c, hc⟩ : ∃ c, c = -a.num := ⟨_, rfl⟩
  have KEY : Hid (∀ w' b x y, IsN w' x c.natAbs → IsN w' y a.den → b = decide (c < 0) → IsQ w' (.agg #[.bool b, x, y]) (-a)) := by
    rw [hc]; rintro w' b x y h1 h2 rfl; exact ⟨x, y, rfl, h1, h2⟩
  rw [← hc] at hN
  clear hc hpa
  generalize a.num = na at *
  generalize a.den = da at *
  generalize decide (na < 0) = sa at *
  obtain ⟨Aq, Lq, Cq, rfl⟩ := hqa.frm
  obtain ⟨W0, hW, hT, hB⟩ := box2 w 80 80 #[.bool sa, pa, .slice Aq Lq Cq] #[.bool false, .slice none 0 0, .slice none 0 0]
  obtain ⟨g, hg⟩ : ∃ g, g = w.heap.size := ⟨_, rfl⟩
  have hW' := Lib.hid (And.intro hW hg)
  rw [← hg] at hT
  clear hW hg
  have hza := hza.below hB
  have hqa := hqa.below hB
  go_enter Tryz.func128, Tryz.ntmps128
  go_wp2
  rw [← hW'.out.1, ← hW'.out.2]
  go_region_held3 (fun w' => w'.cell? ⟨g, 0, none⟩ = some (.bool sa) ∧ w'.cell? ⟨g, 1, none⟩ = some pa ∧ w'.cell? ⟨g, 2, none⟩ = some (.slice Aq Lq Cq)) (first | exact Blk.cells3 (hT.1.below (by first | assumption | exact balloc (by assumption) _ | exact bdrew _ | exact balloc (bdrew _) _) hT.1.lt) | exact Blk.cells3 (Blk.far3 (hT.1.below (by first | assumption | exact balloc (by assumption) _ | exact bdrew _ | exact balloc (bdrew _) _) hT.1.lt) _ _ _))
    (first
      | (go_at_call 121; (with_reducible refine (hN _ ?_).mono ?_); exact hza.below (by first | assumption | exact balloc (by assumption) _ | exact bdrew _ | exact balloc (bdrew _) _); rintro x w1 ⟨v1, rfl, ⟨n1, rfl, h1⟩, b1⟩; obtain ⟨A1, L1, C1, rfl⟩ := h1.frm; have B1 := bstep (by first | assumption | exact balloc (by assumption) _ | exact bdrew _ | exact balloc (bdrew _) _) b1; have hqa1 := hqa.below B1; have hR1 := hT.2.below B1 hT.2.lt; have q0 := hR1.cell 0; have q1 := hR1.cell 1; have q2 := hR1.cell 2; have z0 := hR1.frozen 0; have z1 := hR1.frozen 1; have z2 := hR1.frozen 2))
  obtain ⟨p1, p2, p3⟩ := put3 hR1 (.bool (decide (c < 0))) (.slice A1 L1 C1) (.slice Aq Lq Cq) (by simp [noU]) (hB.trans (B1.mono hB.size)) (by rw [hW'.out.2]; omega)
  have q0 := hR1.cell 0
  have z0 := hR1.frozen 0
  have q1 := hR1.cell 1
  have z1 := hR1.frozen 1
  have q2 := hR1.cell 2
  have z2 := hR1.frozen 2
  have P := Lib.hid (And.intro (KEY.out _ _ _ _ (p2 _ _ h1) (p2 _ _ hqa1) rfl) (And.intro p3 p1.cells3))
  clear p1 p2 p3 hN
  go_wp2
  obtain ⟨P1, P2, P3, P4, P5⟩ := P.out
  exact bodyPost_ret (v := .agg #[.bool (decide (c < 0)), .slice A1 L1 C1, .slice Aq Lq Cq]) (by simp [results, Tryz.results128, go_sem, P3, P4, P5]) rfl ⟨_, rfl, P1, P2⟩
end Go.Proofs.YtochabikpaoalaaGreat
namespace Go.Proofs.YtochabikpaoalaaGreat
open Go.RowKit
attribute [local go_sem ↓] Go.wp_at_zero Go.wp_at_succ

set_option maxHeartbeats 8000000 in
theorem rqmul_any (va vb : Value) (a b : Rat) (w : World) (ha : IsQ w va a) (hb : IsQ w vb b) (sa : BQ a 10000) (sb : BQ b 10000) :
    Calls Tryz.prog 54 #[va, vb] w fun e w' => ∃ v', e = .returned v' ∧ IsQ w' v' (a * b) ∧ Below w.heap.size w w' := by
  have hda : 0 < a.den := Rat.den_pos a
  have hdb : 0 < b.den := Rat.den_pos b
  obtain ⟨pa, qa, rfl, hpa, hqa⟩ := ha
  have hza : IsZ w (.agg #[.bool (decide (a.num < 0)), pa]) a.num := ⟨_, rfl, hpa⟩
  obtain ⟨pb, qb, rfl, hpb, hqb⟩ := hb
  have hzb : IsZ w (.agg #[.bool (decide (b.num < 0)), pb]) b.num := ⟨_, rfl, hpb⟩
  have hA := fun w hu hv => rzmul_any (.agg #[.bool (decide (a.num < 0)), pa]) (.agg #[.bool (decide (b.num < 0)), pb]) a.num b.num w hu hv (sa.1.more (by omega)) (sb.1.more (by omega))
  have hM := fun w hu hv => rmul_any qa qb a.den b.den w hu hv (sa.2.fin (by omega)) (sb.2.fin (by omega))
  have hK := fun u v w hu hv => rqmake_any u v (a.num * b.num) (a.den * b.den) w hu hv ((sa.1.imul sb.1).more (by omega)) ((sa.2.mul sb.2).more (by omega)) (Nat.mul_pos hda hdb)
  rw [← Rat.mul_def'] at hK
  obtain ⟨r, hr⟩ : ∃ r, r = a * b := ⟨_, rfl⟩
  rw [← hr] at hK ⊢
  clear hr
  generalize a.num * b.num = m3 at *
  generalize a.den * b.den = d at *
  generalize a.num = na at *
  generalize b.num = nb at *
  generalize a.den = da at *
  generalize b.den = db at *
  clear hpa hpb sa sb hda hdb
  generalize decide (na < 0) = sa at *
  generalize decide (nb < 0) = sb at *
  obtain ⟨W0, hW, hT, hR, hB⟩ := box3 w 80 80 80 #[.bool sa, pa, qa] #[.bool sb, pb, qb] #[.bool false, .slice none 0 0, .slice none 0 0]
  obtain ⟨g, hg⟩ : ∃ g, g = w.heap.size := ⟨_, rfl⟩
  have hW' := Lib.hid (And.intro hW hg)
  rw [← hg] at hT hR
  clear hW hg
  have hza := hza.below hB
  have hzb := hzb.below hB
  have hqa := hqa.below hB
  have hqb := hqb.below hB
  have hgw : w.heap.size ≤ g := by rw [hW'.out.2]; omega
  go_enter Tryz.func54, Tryz.ntmps54
  go_upto_region 1 with fail
  rw [← hW'.out.1, ← hW'.out.2]
  go_cut [5] (fun s wx => ∃ (X : Nat) (A1 A2 : Option Addr) (L1 L2 C1 C2 : Nat), s = .pointer (some ⟨X, 0, none⟩) ∧ Blk wx X 80 #[.bool (decide (r.num < 0)), .slice A1 L1 C1, .slice A2 L2 C2] ∧ IsN wx (.slice A1 L1 C1) r.num.natAbs ∧ IsN wx (.slice A2 L2 C2) r.den ∧ Blk wx (g + 1 + 1) 80 #[.bool false, .slice none 0 0, .slice none 0 0] ∧ Below w.heap.size w wx)
  case first =>
    go_region_held3 (fun w' => w'.cell? ⟨g, 0, none⟩ = some (.bool sa) ∧ w'.cell? ⟨g, 1, none⟩ = some pa ∧ w'.cell? ⟨g, 2, none⟩ = some qa ∧ w'.cell? ⟨g + 1, 0, none⟩ = some (.bool sb) ∧ w'.cell? ⟨g + 1, 1, none⟩ = some pb ∧ w'.cell? ⟨g + 1, 2, none⟩ = some qb) (first | exact Two.cells33 (hT.below (by first | assumption | exact balloc (by assumption) _ | exact bdrew _ | exact balloc (bdrew _) _) hT.lt) | exact Two.cells33 (hT.below (bset (bset (bset (by assumption) (by assumption) _) (by assumption) _) (by assumption) _) hT.lt))
      (first
        | (go_at_call 73; (with_reducible refine (hA _ ?_ ?_).mono ?_); exact hza.below (by first | assumption | exact balloc (by assumption) _ | exact bdrew _ | exact balloc (bdrew _) _); exact hzb.below (by first | assumption | exact balloc (by assumption) _ | exact bdrew _ | exact balloc (bdrew _) _); rintro x w3 ⟨v3, rfl, h3, b3⟩; (first | ((first | have hXX := newX b3 W0 (by first | assumption | exact bdrew _) | have hXX := newX (undrew b3) W0 (by first | exact Below.refl _ _ | assumption)); obtain ⟨hX, sX⟩ := hXX; try simp only [World.size_drew] at hX sX) | (have hX := hX.below b3 hX.lt) | skip); have B3 := bstep (a := W0) (by first | assumption | exact balloc (by assumption) _ | exact bdrew _ | exact balloc (bdrew _) _) b3)
        | (go_at_call 74; (with_reducible refine (hM _ ?_ ?_).mono ?_); exact hqa.below (by first | assumption | exact balloc (by assumption) _ | exact bdrew _ | exact balloc (bdrew _) _); exact hqb.below (by first | assumption | exact balloc (by assumption) _ | exact bdrew _ | exact balloc (bdrew _) _); rintro x w4 ⟨v4, rfl, h4, b4⟩; (first | ((first | have hXX := newX b4 W0 (by first | assumption | exact bdrew _) | have hXX := newX (undrew b4) W0 (by first | exact Below.refl _ _ | assumption)); obtain ⟨hX, sX⟩ := hXX; try simp only [World.size_drew] at hX sX) | (have hX := hX.below b4 hX.lt) | skip); have B4 := bstep (a := W0) (by first | assumption | exact balloc (by assumption) _ | exact bdrew _ | exact balloc (bdrew _) _) b4; have h3 := h3.below (by first | exact b4 | exact bstep (balloc (Below.refl _ _) _) b4))
        | (go_at_call 72; (with_reducible refine (hK _ _ _ ?_ ?_).mono ?_); exact h3.below (by first | exact Below.refl _ _ | exact balloc (Below.refl _ _) _); exact h4.below (by first | exact Below.refl _ _ | exact balloc (Below.refl _ _) _); rintro x w5 ⟨v5, rfl, ⟨n5, d5, rfl, h5, k5⟩, b5⟩; (first | ((first | have hXX := newX b5 W0 (by first | assumption | exact bdrew _) | have hXX := newX (undrew b5) W0 (by first | exact Below.refl _ _ | assumption)); obtain ⟨hX, sX⟩ := hXX; try simp only [World.size_drew] at hX sX) | (have hX := hX.below b5 hX.lt) | skip); have B5 := bstep (a := W0) (by first | assumption | exact balloc (by assumption) _ | exact bdrew _ | exact balloc (bdrew _) _) b5; obtain ⟨A1, L1, C1, rfl⟩ := h5.frm; obtain ⟨A2, L2, C2, rfl⟩ := k5.frm; (try (have x0 := hX.cell 0; have x1 := hX.cell 1; have x2 := hX.cell 2; have y0 := hX.frozen 0; have y1 := hX.frozen 1; have y2 := hX.frozen 2))))
    all_goals (go_wp2_with fail; go_meet)
    all_goals
      have hRlt := hR.lt
      have hR := hR.below B5 hR.lt
      have hB0 := hB
      have hB := hB.trans (B5.mono hB.size)
      have hsz := hT.lt
      first
        | exact ⟨_, _, _, _, _, _, _, rfl, Blk.new _ _ _, h5.below (balloc (Below.refl _ _) _), k5.below (balloc (Below.refl _ _) _), hR.alloc _, hB.alloc hB.size _⟩
        | (obtain ⟨p1, p2, p3⟩ := put3 hX (.bool (decide (r.num < 0))) (.slice A1 L1 C1) (.slice A2 L2 C2) (by simp [noU]) hB (Nat.le_trans hB0.size (by first | assumption | exact Nat.le_refl _))
           exact ⟨_, _, _, _, _, _, _, rfl, p1, p2 _ _ h5, p2 _ _ k5, hR.farX (Nat.ne_of_lt (Nat.lt_of_lt_of_le hRlt (by first | assumption | exact Nat.le_refl _))) _ _ _, p3⟩)
  obtain ⟨X, A1, A2, L1, L2, C1, C2, rfl, hX, h1, h2, hR, hB⟩ := hcut
  obtain ⟨x0, x1, x2⟩ := hX.cells3
  obtain ⟨p1, p2, p3⟩ := put3 hR (.bool (decide (r.num < 0))) (.slice A1 L1 C1) (.slice A2 L2 C2) (by simp [noU]) hB (by omega)
  have q0 := hR.cell 0
  have z0 := hR.frozen 0
  have q1 := hR.cell 1
  have z1 := hR.frozen 1
  have q2 := hR.cell 2
  have z2 := hR.frozen 2
  have P := Lib.hid (And.intro (⟨_, _, rfl, p2 _ _ h1, p2 _ _ h2⟩ : IsQ _ (.agg #[.bool (decide (r.num < 0)), .slice A1 L1 C1, .slice A2 L2 C2]) r) (And.intro p3 p1.cells3))
  clear p1 p2 p3 
  go_wp2
  obtain ⟨P1, P2, P3, P4, P5⟩ := P.out
  exact bodyPost_ret (v := .agg #[.bool (decide (r.num < 0)), .slice A1 L1 C1, .slice A2 L2 C2]) (by simp [results, Tryz.results54, go_sem, P3, P4, P5]) rfl ⟨_, rfl, P1, P2⟩
end Go.Proofs.YtochabikpaoalaaGreat
namespace Go.Proofs.YtochabikpaoalaaGreat
open Go.RowKit
attribute [local go_sem ↓] Go.wp_at_zero Go.wp_at_succ

set_option maxHeartbeats 8000000 in
theorem rqadd_any (va vb : Value) (a b : Rat) (w : World) (ha : IsQ w va a) (hb : IsQ w vb b) (sa : BQ a 10000) (sb : BQ b 10000) :
    Calls Tryz.prog 129 #[va, vb] w fun e w' => ∃ v', e = .returned v' ∧ IsQ w' v' (a + b) ∧ Below w.heap.size w w' := by
  have hda : 0 < a.den := Rat.den_pos a
  have hdb : 0 < b.den := Rat.den_pos b
  obtain ⟨pa, qa, rfl, hpa, hqa⟩ := ha
  have hza : IsZ w (.agg #[.bool (decide (a.num < 0)), pa]) a.num := ⟨_, rfl, hpa⟩
  obtain ⟨pb, qb, rfl, hpb, hqb⟩ := hb
  have hzb : IsZ w (.agg #[.bool (decide (b.num < 0)), pb]) b.num := ⟨_, rfl, hpb⟩
  have hO1 := fun w hp hq => rqover_any (.agg #[.bool (decide (a.num < 0)), pa]) qb a.num b.den w hp hq (sa.1.more (by omega)) (sb.2.more (by omega))
  have hO2 := fun w hp hq => rqover_any (.agg #[.bool (decide (b.num < 0)), pb]) qa b.num a.den w hp hq (sb.1.more (by omega)) (sa.2.more (by omega))
  have s1 : Sz (a.num * (b.den : Int)).natAbs 20000 := sa.1.imul (b := (b.den : Int)) (by simpa using sb.2)
  have s2 : Sz (b.num * (a.den : Int)).natAbs 20000 := sb.1.imul (b := (a.den : Int)) (by simpa using sa.2)
  have hA := fun u v w hu hv => rzadd_any u v (a.num * (b.den : Int)) (b.num * (a.den : Int)) w hu hv (s1.more (by omega)) (s2.more (by omega))
  have hM := fun w hu hv => rmul_any qa qb a.den b.den w hu hv (sa.2.fin (by omega)) (sb.2.fin (by omega))
  have hK := fun u v w hu hv => rqmake_any u v (a.num * (b.den : Int) + b.num * (a.den : Int)) (a.den * b.den) w hu hv ((s1.iadd s2).more (by omega)) ((sa.2.mul sb.2).more (by omega)) (Nat.mul_pos hda hdb)
  rw [← Rat.add_def'] at hK
  obtain ⟨r, hr⟩ : ∃ r, r = a + b := ⟨_, rfl⟩
  rw [← hr] at hK ⊢
  clear hr s1 s2
  generalize a.num * (b.den : Int) + b.num * (a.den : Int) = m3 at *
  generalize a.num * (b.den : Int) = m1 at *
  generalize b.num * (a.den : Int) = m2 at *
  generalize a.den * b.den = d at *
  generalize a.num = na at *
  generalize b.num = nb at *
  generalize a.den = da at *
  generalize b.den = db at *
  clear hpa hpb sa sb hda hdb
  generalize decide (na < 0) = sa at *
  generalize decide (nb < 0) = sb at *
  obtain ⟨W0, hW, hT, hR, hB⟩ := box3 w 80 80 80 #[.bool sa, pa, qa] #[.bool sb, pb, qb] #[.bool false, .slice none 0 0, .slice none 0 0]
  obtain ⟨g, hg⟩ : ∃ g, g = w.heap.size := ⟨_, rfl⟩
  have hW' := Lib.hid (And.intro hW hg)
  rw [← hg] at hT hR
  clear hW hg
  have hza := hza.below hB
  have hzb := hzb.below hB
  have hqa := hqa.below hB
  have hqb := hqb.below hB
  have hgw : w.heap.size ≤ g := by rw [hW'.out.2]; omega
  go_enter Tryz.func129, Tryz.ntmps129
  go_upto_region 1 with fail
  rw [← hW'.out.1, ← hW'.out.2]
  go_cut [5] (fun s wx => ∃ (X : Nat) (A1 A2 : Option Addr) (L1 L2 C1 C2 : Nat), s = .pointer (some ⟨X, 0, none⟩) ∧ Blk wx X 80 #[.bool (decide (r.num < 0)), .slice A1 L1 C1, .slice A2 L2 C2] ∧ IsN wx (.slice A1 L1 C1) r.num.natAbs ∧ IsN wx (.slice A2 L2 C2) r.den ∧ Blk wx (g + 1 + 1) 80 #[.bool false, .slice none 0 0, .slice none 0 0] ∧ Below w.heap.size w wx)
  case first =>
    go_region_held3 (fun w' => w'.cell? ⟨g, 0, none⟩ = some (.bool sa) ∧ w'.cell? ⟨g, 1, none⟩ = some pa ∧ w'.cell? ⟨g, 2, none⟩ = some qa ∧ w'.cell? ⟨g + 1, 0, none⟩ = some (.bool sb) ∧ w'.cell? ⟨g + 1, 1, none⟩ = some pb ∧ w'.cell? ⟨g + 1, 2, none⟩ = some qb) (first | exact Two.cells33 (hT.below (by first | assumption | exact balloc (by assumption) _ | exact bdrew _ | exact balloc (bdrew _) _) hT.lt) | exact Two.cells33 (hT.below (bset (bset (bset (by assumption) (by assumption) _) (by assumption) _) (by assumption) _) hT.lt))
      (first
        | (go_at_call 130; (with_reducible refine (hO1 _ ?_ ?_).mono ?_); exact hza.below (by first | assumption | exact balloc (by assumption) _ | exact bdrew _ | exact balloc (bdrew _) _); exact hqb.below (by first | assumption | exact balloc (by assumption) _ | exact bdrew _ | exact balloc (bdrew _) _); rintro x w1 ⟨v1, rfl, h1, b1⟩; (first | ((first | have hXX := newX b1 W0 (by first | assumption | exact bdrew _) | have hXX := newX (undrew b1) W0 (by first | exact Below.refl _ _ | assumption)); obtain ⟨hX, sX⟩ := hXX; try simp only [World.size_drew] at hX sX) | (have hX := hX.below b1 hX.lt) | skip); have B1 := bstep (a := W0) (by first | assumption | exact balloc (by assumption) _ | exact bdrew _ | exact balloc (bdrew _) _) b1)
        | (go_at_call 130; (with_reducible refine (hO2 _ ?_ ?_).mono ?_); exact hzb.below (by first | assumption | exact balloc (by assumption) _ | exact bdrew _ | exact balloc (bdrew _) _); exact hqa.below (by first | assumption | exact balloc (by assumption) _ | exact bdrew _ | exact balloc (bdrew _) _); rintro x w2 ⟨v2, rfl, h2, b2⟩; (first | ((first | have hXX := newX b2 W0 (by first | assumption | exact bdrew _) | have hXX := newX (undrew b2) W0 (by first | exact Below.refl _ _ | assumption)); obtain ⟨hX, sX⟩ := hXX; try simp only [World.size_drew] at hX sX) | (have hX := hX.below b2 hX.lt) | skip); have B2 := bstep (a := W0) (by first | assumption | exact balloc (by assumption) _ | exact bdrew _ | exact balloc (bdrew _) _) b2; have h1 := h1.below (by first | exact b2 | exact bstep (balloc (Below.refl _ _) _) b2))
        | (go_at_call 120; (with_reducible refine (hA _ _ _ ?_ ?_).mono ?_); exact h1.below (by first | exact Below.refl _ _ | exact balloc (Below.refl _ _) _); exact h2.below (by first | exact Below.refl _ _ | exact balloc (Below.refl _ _) _); rintro x w3 ⟨v3, rfl, h3, b3⟩; (first | ((first | have hXX := newX b3 W0 (by first | assumption | exact bdrew _) | have hXX := newX (undrew b3) W0 (by first | exact Below.refl _ _ | assumption)); obtain ⟨hX, sX⟩ := hXX; try simp only [World.size_drew] at hX sX) | (have hX := hX.below b3 hX.lt) | skip); have B3 := bstep (a := W0) (by first | assumption | exact balloc (by assumption) _ | exact bdrew _ | exact balloc (bdrew _) _) b3)
        | (go_at_call 74; (with_reducible refine (hM _ ?_ ?_).mono ?_); exact hqa.below (by first | assumption | exact balloc (by assumption) _ | exact bdrew _ | exact balloc (bdrew _) _); exact hqb.below (by first | assumption | exact balloc (by assumption) _ | exact bdrew _ | exact balloc (bdrew _) _); rintro x w4 ⟨v4, rfl, h4, b4⟩; (first | ((first | have hXX := newX b4 W0 (by first | assumption | exact bdrew _) | have hXX := newX (undrew b4) W0 (by first | exact Below.refl _ _ | assumption)); obtain ⟨hX, sX⟩ := hXX; try simp only [World.size_drew] at hX sX) | (have hX := hX.below b4 hX.lt) | skip); have B4 := bstep (a := W0) (by first | assumption | exact balloc (by assumption) _ | exact bdrew _ | exact balloc (bdrew _) _) b4; have h3 := h3.below (by first | exact b4 | exact bstep (balloc (Below.refl _ _) _) b4))
        | (go_at_call 72; (with_reducible refine (hK _ _ _ ?_ ?_).mono ?_); exact h3.below (by first | exact Below.refl _ _ | exact balloc (Below.refl _ _) _); exact h4.below (by first | exact Below.refl _ _ | exact balloc (Below.refl _ _) _); rintro x w5 ⟨v5, rfl, ⟨n5, d5, rfl, h5, k5⟩, b5⟩; (first | ((first | have hXX := newX b5 W0 (by first | assumption | exact bdrew _) | have hXX := newX (undrew b5) W0 (by first | exact Below.refl _ _ | assumption)); obtain ⟨hX, sX⟩ := hXX; try simp only [World.size_drew] at hX sX) | (have hX := hX.below b5 hX.lt) | skip); have B5 := bstep (a := W0) (by first | assumption | exact balloc (by assumption) _ | exact bdrew _ | exact balloc (bdrew _) _) b5; obtain ⟨A1, L1, C1, rfl⟩ := h5.frm; obtain ⟨A2, L2, C2, rfl⟩ := k5.frm; (try (have x0 := hX.cell 0; have x1 := hX.cell 1; have x2 := hX.cell 2; have y0 := hX.frozen 0; have y1 := hX.frozen 1; have y2 := hX.frozen 2))))
    all_goals (go_wp2_with fail; go_meet)
    all_goals
      have hRlt := hR.lt
      have hR := hR.below B5 hR.lt
      have hB0 := hB
      have hB := hB.trans (B5.mono hB.size)
      have hsz := hT.lt
      first
        | exact ⟨_, _, _, _, _, _, _, rfl, Blk.new _ _ _, h5.below (balloc (Below.refl _ _) _), k5.below (balloc (Below.refl _ _) _), hR.alloc _, hB.alloc hB.size _⟩
        | (obtain ⟨p1, p2, p3⟩ := put3 hX (.bool (decide (r.num < 0))) (.slice A1 L1 C1) (.slice A2 L2 C2) (by simp [noU]) hB (Nat.le_trans hB0.size (by first | assumption | exact Nat.le_refl _))
           exact ⟨_, _, _, _, _, _, _, rfl, p1, p2 _ _ h5, p2 _ _ k5, hR.farX (Nat.ne_of_lt (Nat.lt_of_lt_of_le hRlt (by first | assumption | exact Nat.le_refl _))) _ _ _, p3⟩)
  obtain ⟨X, A1, A2, L1, L2, C1, C2, rfl, hX, h1, h2, hR, hB⟩ := hcut
  obtain ⟨x0, x1, x2⟩ := hX.cells3
  obtain ⟨p1, p2, p3⟩ := put3 hR (.bool (decide (r.num < 0))) (.slice A1 L1 C1) (.slice A2 L2 C2) (by simp [noU]) hB (by omega)
  have q0 := hR.cell 0
  have z0 := hR.frozen 0
  have q1 := hR.cell 1
  have z1 := hR.frozen 1
  have q2 := hR.cell 2
  have z2 := hR.frozen 2
  have P := Lib.hid (And.intro (⟨_, _, rfl, p2 _ _ h1, p2 _ _ h2⟩ : IsQ _ (.agg #[.bool (decide (r.num < 0)), .slice A1 L1 C1, .slice A2 L2 C2]) r) (And.intro p3 p1.cells3))
  clear p1 p2 p3 
  go_wp2
  obtain ⟨P1, P2, P3, P4, P5⟩ := P.out
  exact bodyPost_ret (v := .agg #[.bool (decide (r.num < 0)), .slice A1 L1 C1, .slice A2 L2 C2]) (by simp [results, Tryz.results129, go_sem, P3, P4, P5]) rfl ⟨_, rfl, P1, P2⟩
end Go.Proofs.YtochabikpaoalaaGreat
namespace Go.Proofs.YtochabikpaoalaaGreat
open Go.RowKit
attribute [local go_sem ↓] Go.wp_at_zero Go.wp_at_succ

set_option maxHeartbeats 8000000 in
theorem rqsub_any (va vb : Value) (a b : Rat) (w : World) (ha : IsQ w va a) (hb : IsQ w vb b) (sa : BQ a 10000) (sb : BQ b 10000) :
    Calls Tryz.prog 99 #[va, vb] w fun e w' => ∃ v', e = .returned v' ∧ IsQ w' v' (a - b) ∧ Below w.heap.size w w' := by
  have hN := fun w hb => rqneg_any vb b w hb
  have hA := fun u w ha hu => rqadd_any va u a (-b) w ha hu sa sb.neg
  rw [← Rat.sub_eq_add_neg] at hA
  have ha0 := ha
  have hb0 := hb
  obtain ⟨pa, qa, rfl, hpa, hqa⟩ := ha
  have hza : IsZ w (.agg #[.bool (decide (a.num < 0)), pa]) a.num := ⟨_, rfl, hpa⟩
  obtain ⟨pb, qb, rfl, hpb, hqb⟩ := hb
  have hzb : IsZ w (.agg #[.bool (decide (b.num < 0)), pb]) b.num := ⟨_, rfl, hpb⟩
  obtain ⟨r, hr⟩ : ∃ r, r = a - b := ⟨_, rfl⟩
  rw [← hr] at hA ⊢
  clear hr hza hzb hpa hpb hqa hqb sa sb
  obtain ⟨W0, hW, hT, hR, hB⟩ := box3 w 80 80 80 #[.bool (decide (a.num < 0)), pa, qa] #[.bool (decide (b.num < 0)), pb, qb] #[.bool false, .slice none 0 0, .slice none 0 0]
  obtain ⟨g, hg⟩ : ∃ g, g = w.heap.size := ⟨_, rfl⟩
  have hW' := Lib.hid (And.intro hW hg)
  rw [← hg] at hT hR
  clear hW hg
  have ha0 := ha0.below hB
  have hb0 := hb0.below hB
  go_enter Tryz.func99, Tryz.ntmps99
  go_wp2
  rw [← hW'.out.1, ← hW'.out.2]
  go_region_held3 (fun w' => w'.cell? ⟨g, 0, none⟩ = some (.bool (decide (a.num < 0))) ∧ w'.cell? ⟨g, 1, none⟩ = some pa ∧ w'.cell? ⟨g, 2, none⟩ = some qa ∧ w'.cell? ⟨g + 1, 0, none⟩ = some (.bool (decide (b.num < 0))) ∧ w'.cell? ⟨g + 1, 1, none⟩ = some pb ∧ w'.cell? ⟨g + 1, 2, none⟩ = some qb) (first | exact Two.cells33 (hT.below (by first | assumption | exact balloc (by assumption) _ | exact bdrew _ | exact balloc (bdrew _) _) hT.lt) | exact Two.cells33 (Two.far3 (hT.below (by first | assumption | exact balloc (by assumption) _ | exact bdrew _ | exact balloc (bdrew _) _) hT.lt) _ _ _))
    (first
      | (go_at_call 128; (with_reducible refine (hN _ ?_).mono ?_); exact hb0.below (by first | assumption | exact balloc (by assumption) _ | exact bdrew _ | exact balloc (bdrew _) _); rintro x w1 ⟨v1, rfl, h1, b1⟩; have B1 := bstep (a := W0) (by first | assumption | exact balloc (by assumption) _ | exact bdrew _ | exact balloc (bdrew _) _) b1)
      | (go_at_call 129; (with_reducible refine (hA _ _ ?_ ?_).mono ?_); exact ha0.below (by first | assumption | exact balloc (by assumption) _ | exact bdrew _ | exact balloc (bdrew _) _); exact h1.below (by first | exact Below.refl _ _ | exact balloc (Below.refl _ _) _); rintro x w2 ⟨v2, rfl, ⟨n2, d2, rfl, h2, k2⟩, b2⟩; obtain ⟨A1, L1, C1, rfl⟩ := h2.frm; obtain ⟨A2, L2, C2, rfl⟩ := k2.frm; have B2 := bstep (a := W0) (by first | assumption | exact balloc (by assumption) _ | exact bdrew _ | exact balloc (bdrew _) _) b2; have hR1 := hR.below B2 hR.lt; have q0 := hR1.cell 0; have q1 := hR1.cell 1; have q2 := hR1.cell 2; have z0 := hR1.frozen 0; have z1 := hR1.frozen 1; have z2 := hR1.frozen 2))
  obtain ⟨p1, p2, p3⟩ := put3 hR1 (.bool (decide (r.num < 0))) (.slice A1 L1 C1) (.slice A2 L2 C2) (by simp [noU]) (hB.trans (B2.mono hB.size)) (by rw [hW'.out.2]; omega)
  have q0 := hR1.cell 0
  have z0 := hR1.frozen 0
  have q1 := hR1.cell 1
  have z1 := hR1.frozen 1
  have q2 := hR1.cell 2
  have z2 := hR1.frozen 2
  have P := Lib.hid (And.intro (⟨_, _, rfl, p2 _ _ h2, p2 _ _ k2⟩ : IsQ _ (.agg #[.bool (decide (r.num < 0)), .slice A1 L1 C1, .slice A2 L2 C2]) r) (And.intro p3 p1.cells3))
  clear p1 p2 p3 
  go_wp2
  obtain ⟨P1, P2, P3, P4, P5⟩ := P.out
  exact bodyPost_ret (v := .agg #[.bool (decide (r.num < 0)), .slice A1 L1 C1, .slice A2 L2 C2]) (by simp [results, Tryz.results99, go_sem, P3, P4, P5]) rfl ⟨_, rfl, P1, P2⟩
end Go.Proofs.YtochabikpaoalaaGreat
namespace Go.Proofs.YtochabikpaoalaaGreat
open Go.RowKit
attribute [local go_sem ↓] Go.wp_at_zero Go.wp_at_succ

/-- a quotient, before it is reduced -/
def divQ (a b : Rat) : Rat := mkRat (a.num * sided (decide (b.num < 0)) b.den) (a.den * b.num.natAbs)
set_option maxHeartbeats 8000000 in
theorem rqdiv_any (va vb : Value) (a b : Rat) (w : World) (ha : IsQ w va a) (hb : IsQ w vb b) (sa : BQ a 10000) (sb : BQ b 10000) (h0 : b.num ≠ 0) :
    Calls Tryz.prog 53 #[va, vb] w fun e w' => ∃ v', e = .returned (.tuple #[v', .int .i64 0]) ∧ IsQ w' v' (divQ a b) ∧ Below w.heap.size w w' := by
  have hda : 0 < a.den := Rat.den_pos a
  have hdb : 0 < b.den := Rat.den_pos b
  have hnb : 0 < b.num.natAbs := by omega
  obtain ⟨pa, qa, rfl, hpa, hqa⟩ := ha
  have hza : IsZ w (.agg #[.bool (decide (a.num < 0)), pa]) a.num := ⟨_, rfl, hpa⟩
  obtain ⟨pb, qb, rfl, hpb, hqb⟩ := hb
  have hzb : IsZ w (.agg #[.bool (decide (b.num < 0)), pb]) b.num := ⟨_, rfl, hpb⟩
  obtain ⟨Ap, Lp, Cp, rfl, hLp⟩ := hpb.pos hnb
  obtain ⟨Aq, Lq, Cq, rfl⟩ := hqb.frm
  obtain ⟨c2, hc2⟩ : ∃ c2, c2 = sided (decide (b.num < 0)) b.den := ⟨_, rfl⟩
  have hc3 : decide (c2 < 0) = decide (b.num < 0) ∧ c2.natAbs = b.den := by
    rw [hc2]; unfold sided
    cases h : decide (b.num < 0)
    · simp
    · simp; omega
  have hzc : IsZ w (.agg #[.bool (decide (b.num < 0)), .slice Aq Lq Cq]) c2 := ⟨_, by rw [hc3.1], by rw [hc3.2]; exact hqb⟩
  have hA := fun w hu hv => rzmul_any (.agg #[.bool (decide (a.num < 0)), pa]) (.agg #[.bool (decide (b.num < 0)), .slice Aq Lq Cq]) a.num c2 w hu hv (sa.1.more (by omega)) (by rw [hc3.2]; exact sb.2.more (by omega))
  have hM := fun w hu hv => rmul_any qa (.slice Ap Lp Cp) a.den b.num.natAbs w hu hv (sa.2.fin (by omega)) (sb.1.fin (by omega))
  have s2 : Sz c2.natAbs 10000 := by rw [hc3.2]; exact sb.2
  have hK := fun u v w hu hv => rqmake_any u v (a.num * c2) (a.den * b.num.natAbs) w hu hv ((sa.1.imul s2).more (by omega)) ((sa.2.mul sb.1).more (by omega)) (Nat.mul_pos hda hnb)
  have hr : divQ a b = mkRat (a.num * c2) (a.den * b.num.natAbs) := by unfold divQ; rw [hc2]
  rw [← hr] at hK
  clear hr hc2 hc3 s2 hzb
  generalize divQ a b = r at *
  generalize a.num * c2 = m3 at *
  generalize a.den * b.num.natAbs = d at *
  generalize a.num = na at *
  generalize b.num = nb at *
  generalize a.den = da at *
  generalize b.den = db at *
  clear hpa hqb sa sb hda hdb h0 hnb
  generalize decide (na < 0) = sa at *
  generalize decide (nb < 0) = sb at *
  have hL1 : ((Lp : Int) == 0) = false := by rw [beq_eq_false_iff_ne]; omega
  have hL2 : decide (Lp = 0) = false := decide_eq_false (by omega)
  obtain ⟨W0, hW, hT, hR, hB⟩ := box3 w 80 80 80 #[.bool sa, pa, qa] #[.bool sb, .slice Ap Lp Cp, .slice Aq Lq Cq] #[.bool false, .slice none 0 0, .slice none 0 0]
  obtain ⟨g, hg⟩ : ∃ g, g = w.heap.size := ⟨_, rfl⟩
  have hW' := Lib.hid (And.intro hW hg)
  rw [← hg] at hT hR
  clear hW hg
  have hza := hza.below hB
  have hzc := hzc.below hB
  have hqa := hqa.below hB
  have hpb := hpb.below hB
  have hgw : w.heap.size ≤ g := by rw [hW'.out.2]; omega
  obtain ⟨k0, k1, k2, k3, k4, k5⟩ := hT.cells33
  go_enter Tryz.func53, Tryz.ntmps53
  go_upto_region 3 with fail
  rw [← hW'.out.1, ← hW'.out.2]
  clear k0 k1 k2 k3 k4 k5
  go_region_held3 (fun w' => w'.cell? ⟨g, 0, none⟩ = some (.bool sa) ∧ w'.cell? ⟨g, 1, none⟩ = some pa ∧ w'.cell? ⟨g, 2, none⟩ = some qa ∧ w'.cell? ⟨g + 1, 0, none⟩ = some (.bool sb) ∧ w'.cell? ⟨g + 1, 1, none⟩ = some (.slice Ap Lp Cp) ∧ w'.cell? ⟨g + 1, 2, none⟩ = some (.slice Aq Lq Cq)) (first | exact Two.cells33 (hT.below (by first | assumption | exact balloc (by assumption) _ | exact bdrew _ | exact balloc (bdrew _) _) hT.lt) | exact Two.cells33 (Two.far3 (hT.below (by first | assumption | exact balloc (by assumption) _ | exact bdrew _ | exact balloc (bdrew _) _) hT.lt) _ _ _))
    (first
      | (go_at_call 73; (with_reducible refine (hA _ ?_ ?_).mono ?_); exact hza.below (by first | assumption | exact balloc (by assumption) _ | exact bdrew _ | exact balloc (bdrew _) _); exact hzc.below (by first | assumption | exact balloc (by assumption) _ | exact bdrew _ | exact balloc (bdrew _) _); rintro x w3 ⟨v3, rfl, h3, b3⟩; have B3 := bstep (a := W0) (by first | assumption | exact balloc (by assumption) _ | exact bdrew _ | exact balloc (bdrew _) _) b3)
      | (go_at_call 74; (with_reducible refine (hM _ ?_ ?_).mono ?_); exact hqa.below (by first | assumption | exact balloc (by assumption) _ | exact bdrew _ | exact balloc (bdrew _) _); exact hpb.below (by first | assumption | exact balloc (by assumption) _ | exact bdrew _ | exact balloc (bdrew _) _); rintro x w4 ⟨v4, rfl, h4, b4⟩; have B4 := bstep (a := W0) (by first | assumption | exact balloc (by assumption) _ | exact bdrew _ | exact balloc (bdrew _) _) b4; have h3 := h3.below (by first | exact b4 | exact bstep (balloc (Below.refl _ _) _) b4))
      | (go_at_call 72; (with_reducible refine (hK _ _ _ ?_ ?_).mono ?_); exact h3.below (by first | exact Below.refl _ _ | exact balloc (Below.refl _ _) _); exact h4.below (by first | exact Below.refl _ _ | exact balloc (Below.refl _ _) _); rintro x w5 ⟨v5, rfl, ⟨n5, d5, rfl, h5, k5⟩, b5⟩; have B5 := bstep (a := W0) (by first | assumption | exact balloc (by assumption) _ | exact bdrew _ | exact balloc (bdrew _) _) b5; obtain ⟨A1, L1, C1, rfl⟩ := h5.frm; obtain ⟨A2, L2, C2, rfl⟩ := k5.frm; have hR1 := hR.below B5 hR.lt; have q0 := hR1.cell 0; have q1 := hR1.cell 1; have q2 := hR1.cell 2; have z0 := hR1.frozen 0; have z1 := hR1.frozen 1; have z2 := hR1.frozen 2))
  obtain ⟨p1, p2, p3⟩ := put3 hR1 (.bool (decide (r.num < 0))) (.slice A1 L1 C1) (.slice A2 L2 C2) (by simp [noU]) (hB.trans (B5.mono hB.size)) (by rw [hW'.out.2]; omega)
  have q0 := hR1.cell 0
  have z0 := hR1.frozen 0
  have q1 := hR1.cell 1
  have z1 := hR1.frozen 1
  have q2 := hR1.cell 2
  have z2 := hR1.frozen 2
  have P := Lib.hid (And.intro (⟨_, _, rfl, p2 _ _ h5, p2 _ _ k5⟩ : IsQ _ (.agg #[.bool (decide (r.num < 0)), .slice A1 L1 C1, .slice A2 L2 C2]) r) (And.intro p3 p1.cells3))
  clear p1 p2 p3 
  go_wp2
  obtain ⟨P1, P2, P3, P4, P5⟩ := P.out
  exact bodyPost_ret (v := .tuple #[.agg #[.bool (decide (r.num < 0)), .slice A1 L1 C1, .slice A2 L2 C2], .int .i64 0]) (by simp [results, Tryz.results53, go_sem, P3, P4, P5]) rfl ⟨_, rfl, P1, P2⟩
end Go.Proofs.YtochabikpaoalaaGreat
namespace Go.Proofs.YtochabikpaoalaaGreat
open Go.RowKit
attribute [local go_sem ↓] Go.wp_at_zero Go.wp_at_succ

set_option maxHeartbeats 2000000 in
theorem back_any (v : Value) (z : Int) (k : Nat) (w : World) (h : IsZ w v z) (hk : k ≤ 2000) (sz : Sz z.natAbs 10000) :
    Calls Tryz.prog 98 #[v, .int .i64 k] w fun e w' => ∃ v', e = .returned (.tuple #[v', .int .i64 0]) ∧ IsQ w' v' (mkRat z (2 ^ k)) ∧ Below w.heap.size w w' := by
  have hO := fun w => rof_any 1 (by unfold W64; omega) w
  have hS := fun v w h => shl_any v 1 k (by omega) w h (Sz.one.more (by omega))
  have hp : 0 < 2 ^ k := Nat.pow_pos (by omega)
  have sp : Sz (2 ^ k) 10000 := (Sz.two_pow k).more (by omega)
  have hM := fun u w hu h => rqmake_any v u z (2 ^ k) w h hu (sz.more (by omega)) (sp.more (by omega)) hp
  rw [Nat.one_mul] at hS
  have hz := h
  obtain ⟨nv, rfl, hn⟩ := h
  obtain ⟨An, Ln, Cn, rfl⟩ := hn.frm
  generalize mkRat z (2 ^ k) = r at *
  generalize 2 ^ k = p at *
  generalize decide (z < 0) = s at *
  clear hp sp sz hn
  obtain ⟨W0, hW, hT, hB⟩ := box2 w 78 80 #[.bool s, .slice An Ln Cn] #[.bool false, .slice none 0 0, .slice none 0 0]
  obtain ⟨g, hg⟩ : ∃ g, g = w.heap.size := ⟨_, rfl⟩
  have hW' := Lib.hid (And.intro hW hg)
  rw [← hg] at hT
  have hgw : w.heap.size ≤ g := by omega
  clear hW hg
  obtain ⟨hA, hR⟩ := hT
  replace hz := hz.below hB
  obtain ⟨c1_hA_0, c1_hA_1⟩ := hA.cells2
  obtain ⟨c1_hR_0, c1_hR_1, c1_hR_2⟩ := hR.cells3
  go_enter Tryz.func98, Tryz.ntmps98
  go_wp2_with fail
  rw [← hW'.out.1, ← hW'.out.2]
  refine (hO _).mono ?_
  rintro e w1 ⟨v1, rfl, h1, b1⟩
  replace hz := hz.below b1
  replace hA := hA.below b1 hA.lt
  replace hR := hR.below b1 hR.lt
  replace hB := hB.trans (b1.mono hB.size)
  clear c1_hA_0 c1_hA_1 c1_hR_0 c1_hR_1 c1_hR_2
  obtain ⟨c2_hA_0, c2_hA_1⟩ := hA.cells2
  obtain ⟨c2_hR_0, c2_hR_1, c2_hR_2⟩ := hR.cells3
  go_wp2_with fail
  refine (hS _ _ h1).mono ?_
  rintro e w2 ⟨v2, rfl, h2, b2⟩
  replace hz := hz.below b2
  replace hA := hA.below b2 hA.lt
  replace hR := hR.below b2 hR.lt
  replace h1 := h1.below b2
  replace hB := hB.trans (b2.mono hB.size)
  clear c2_hA_0 c2_hA_1 c2_hR_0 c2_hR_1 c2_hR_2
  obtain ⟨c3_hA_0, c3_hA_1⟩ := hA.cells2
  obtain ⟨c3_hR_0, c3_hR_1, c3_hR_2⟩ := hR.cells3
  go_wp2_with fail
  refine (hM _ _ h2 hz).mono ?_
  rintro e w3 ⟨v3, rfl, ⟨n3, d3, rfl, h3, k3⟩, b3⟩
  replace hz := hz.below b3
  replace hA := hA.below b3 hA.lt
  replace hR := hR.below b3 hR.lt
  replace h1 := h1.below b3
  replace h2 := h2.below b3
  replace hB := hB.trans (b3.mono hB.size)
  clear c3_hA_0 c3_hA_1 c3_hR_0 c3_hR_1 c3_hR_2
  obtain ⟨c4_hA_0, c4_hA_1⟩ := hA.cells2
  obtain ⟨c4_hR_0, c4_hR_1, c4_hR_2⟩ := hR.cells3
  obtain ⟨A2, L2, C2, rfl⟩ := h3.frm
  obtain ⟨A3, L3, C3, rfl⟩ := k3.frm
  obtain ⟨p1, p2, p3⟩ := put3 hR (.bool (decide (r.num < 0))) (.slice A2 L2 C2) (.slice A3 L3 C3) (by simp [noU]) hB (by omega)
  have q0 := hR.cell 0
  have z0 := hR.frozen 0
  have q1 := hR.cell 1
  have z1 := hR.frozen 1
  have q2 := hR.cell 2
  have z2 := hR.frozen 2
  have P := Lib.hid (And.intro (⟨_, _, rfl, p2 _ _ h3, p2 _ _ k3⟩ : IsQ _ (.agg #[.bool (decide (r.num < 0)), .slice A2 L2 C2, .slice A3 L3 C3]) r) (And.intro p3 p1.cells3))
  clear p1 p2 p3 hO hS hM
  go_wp2_with fail
  obtain ⟨P1, P2, P3, P4, P5⟩ := P.out
  exact bodyPost_ret (v := .tuple #[.agg #[.bool (decide (r.num < 0)), .slice A2 L2 C2, .slice A3 L3 C3], .int .i64 0]) (by simp [results, Tryz.results98, go_sem, P3, P4, P5]) rfl ⟨_, rfl, P1, P2⟩
theorem floor_neg (n D : Nat) (hD : 0 < D) : -(n : Int) / (D : Int) = -((n / D + (if 0 < n % D then 1 else 0) : Nat) : Int) := by
  have hr := Nat.mod_lt n hD
  have hn := Nat.div_add_mod n D
  generalize n / D = q at *
  generalize n % D = r at *
  by_cases h0 : r = 0
  · subst h0
    have e0 : -(n : Int) = (D : Int) * (-(q : Int)) := by rw [← hn]; simp [Int.mul_neg]
    rw [e0, Int.mul_ediv_cancel_left _ (by omega)]; simp
  · have e0 : -(n : Int) = ((D - r : Nat) : Int) + (D : Int) * (-(q : Int) - 1) := by
      rw [← hn, Int.mul_sub, Int.mul_neg]; push_cast [Nat.le_of_lt hr]; rw [Int.mul_one]; omega
    rw [e0, Int.add_mul_ediv_left _ _ (by omega), Int.ediv_eq_zero_of_lt (by omega) (by omega), Int.zero_add, if_pos (by omega)]; omega
/-- the floor of a rational times a power of two -/
def flr (a : Rat) (k : Nat) : Int := a.num * 2 ^ k / a.den
theorem flr_pos (a : Rat) (k : Nat) (h : ¬ a.num < 0) : flr a k = ((a.num.natAbs * 2 ^ k / a.den : Nat) : Int) := by
  unfold flr
  have e : a.num = (a.num.natAbs : Int) := by omega
  generalize a.num.natAbs = x at *
  rw [e]; simp
theorem flr_neg (a : Rat) (k : Nat) (h : a.num < 0) : flr a k = -((a.num.natAbs * 2 ^ k / a.den + (if 0 < a.num.natAbs * 2 ^ k % a.den then 1 else 0) : Nat) : Int) := by
  unfold flr
  have e : a.num = -(a.num.natAbs : Int) := by omega
  have hd := Rat.den_pos a
  generalize a.num.natAbs = x at *
  rw [e, ← floor_neg _ _ hd, Int.neg_mul]; simp
set_option maxHeartbeats 4000000 in
theorem floor_any (v : Value) (a : Rat) (k : Nat) (w : World) (h : IsQ w v a) (hk : k ≤ 2000) (sa : BQ a 10000) :
    Calls Tryz.prog 96 #[v, .int .i64 k] w fun e w' => ∃ v', e = .returned (.tuple #[v', .int .i64 0]) ∧ IsZ w' v' (flr a k) ∧ Below w.heap.size w w' := by
  have hd := Rat.den_pos a
  have fp := flr_pos a k
  have fn := flr_neg a k
  obtain ⟨pv, qv, rfl, hp, hq⟩ := h
  have hS := fun w h => shl_any pv a.num.natAbs k (by omega) w h (sa.1.more (by omega))
  have s2 : Sz (a.num.natAbs * 2 ^ k) 20000 := (sa.1.mul (Sz.two_pow k)).more (by omega)
  have hD := fun u w hu hq => divmod_any u qv (a.num.natAbs * 2 ^ k) a.den w hu hq (s2.more (by omega)) (sa.2.more (by omega)) hd
  have s3 : Sz (a.num.natAbs * 2 ^ k / a.den) 20000 := s2.le (Nat.div_le_self _ _)
  have hO := fun w => rof_any 1 (by unfold W64; omega) w
  have hA := fun u v w hu hv => radd_any u v (a.num.natAbs * 2 ^ k / a.den) 1 w hu hv (s3.fin (by omega)) (Sz.one.fin (by omega))
  obtain ⟨Ap, Lp, Cp, rfl⟩ := hp.frm
  obtain ⟨Aq, Lq, Cq, rfl⟩ := hq.frm
  have hrL := fun (v : Value) (w : World) (h : IsN w v (a.num.natAbs * 2 ^ k % a.den)) => h.open_
  generalize flr a k = z at *
  generalize a.num.natAbs * 2 ^ k / a.den = n at *
  generalize a.num.natAbs * 2 ^ k % a.den = r at *
  generalize a.num.natAbs * 2 ^ k = m at *
  generalize a.num.natAbs = x at *
  generalize a.den = d at *
  clear s2 s3 sa hd
  by_cases hs : a.num < 0
  · have fz := fn hs
    rw [decide_eq_true hs]
    clear fp fn hs
    obtain ⟨W0, hW, hT, hB⟩ := box2 w 80 78 #[.bool true, .slice Ap Lp Cp, .slice Aq Lq Cq] #[.bool false, .slice none 0 0]
    obtain ⟨g, hg⟩ : ∃ g, g = w.heap.size := ⟨_, rfl⟩
    have hW' := Lib.hid (And.intro hW hg)
    rw [← hg] at hT
    have hgw : w.heap.size ≤ g := by omega
    clear hW hg
    obtain ⟨hA0, hR⟩ := hT
    replace hp := hp.below hB
    replace hq := hq.below hB
    obtain ⟨c1_hA0_0, c1_hA0_1, c1_hA0_2⟩ := hA0.cells3
    obtain ⟨c1_hR_0, c1_hR_1⟩ := hR.cells2
    go_enter Tryz.func96, Tryz.ntmps96
    go_wp2_with fail
    rw [← hW'.out.1, ← hW'.out.2]
    refine (hS _ hp).mono ?_
    rintro e w1 ⟨v1, rfl, h1, b1⟩
    replace hp := hp.below b1
    replace hq := hq.below b1
    replace hA0 := hA0.below b1 hA0.lt
    replace hR := hR.below b1 hR.lt
    replace hB := hB.trans (b1.mono hB.size)
    clear c1_hA0_0 c1_hA0_1 c1_hA0_2 c1_hR_0 c1_hR_1
    obtain ⟨c2_hA0_0, c2_hA0_1, c2_hA0_2⟩ := hA0.cells3
    obtain ⟨c2_hR_0, c2_hR_1⟩ := hR.cells2
    go_wp2_with fail
    refine (hD _ _ h1 hq).mono ?_
    rintro e w2 ⟨v2, r2, rfl, h2, hr2, b2⟩
    replace hp := hp.below b2
    replace hq := hq.below b2
    replace hA0 := hA0.below b2 hA0.lt
    replace hR := hR.below b2 hR.lt
    replace h1 := h1.below b2
    replace hB := hB.trans (b2.mono hB.size)
    clear c2_hA0_0 c2_hA0_1 c2_hA0_2 c2_hR_0 c2_hR_1
    obtain ⟨c3_hA0_0, c3_hA0_1, c3_hA0_2⟩ := hA0.cells3
    obtain ⟨c3_hR_0, c3_hR_1⟩ := hR.cells2
    obtain ⟨A2, L2, C2, rfl⟩ := h2.frm
    obtain ⟨A9, L9, C9, rfl, hL9⟩ := hrL _ _ hr2
    by_cases hr0 : 0 < r
    · have hLp : 0 < L9 := by rw [hL9]; exact List.length_pos_iff.2 (fun e => by have := limbs_nil.1 e; omega)
      rw [if_pos hr0] at fz
      have FZ := Lib.hid fz
      clear hL9 hr0 fz
      go_wp2_with fail
      refine (hO _).mono ?_
      rintro e w3 ⟨v3, rfl, h3, b3⟩
      replace hp := hp.below b3
      replace hq := hq.below b3
      replace hA0 := hA0.below b3 hA0.lt
      replace hR := hR.below b3 hR.lt
      replace h1 := h1.below b3
      replace h2 := h2.below b3
      replace hr2 := hr2.below b3
      replace hB := hB.trans (b3.mono hB.size)
      clear c3_hA0_0 c3_hA0_1 c3_hA0_2 c3_hR_0 c3_hR_1
      obtain ⟨c4_hA0_0, c4_hA0_1, c4_hA0_2⟩ := hA0.cells3
      obtain ⟨c4_hR_0, c4_hR_1⟩ := hR.cells2
      go_wp2_with fail
      refine (hA _ _ _ h2 h3).mono ?_
      rintro e w4 ⟨v4, rfl, h4, b4⟩
      replace hp := hp.below b4
      replace hq := hq.below b4
      replace hA0 := hA0.below b4 hA0.lt
      replace hR := hR.below b4 hR.lt
      replace h1 := h1.below b4
      replace h2 := h2.below b4
      replace hr2 := hr2.below b4
      replace h3 := h3.below b4
      replace hB := hB.trans (b4.mono hB.size)
      clear c4_hA0_0 c4_hA0_1 c4_hA0_2 c4_hR_0 c4_hR_1
      obtain ⟨c5_hA0_0, c5_hA0_1, c5_hA0_2⟩ := hA0.cells3
      obtain ⟨c5_hR_0, c5_hR_1⟩ := hR.cells2
      obtain ⟨A4, L4, C4, rfl⟩ := h4.frm
      have hZ : ∀ w' u, IsN w' u (n + 1) → IsZ w' (.agg #[.bool false, u]) ((n + 1 : Nat) : Int) := fun w' u h => ⟨u, by rw [decide_eq_false (by omega)], by rw [Int.natAbs_natCast]; exact h⟩
      have hN := fun u w h => rzneg_any (.agg #[.bool false, u]) ((n + 1 : Nat) : Int) w (hZ w u h)
      rw [← FZ.out] at hN
      clear hZ
      go_wp2_with fail
      refine (hN _ _ h4).mono ?_
      rintro e w5 ⟨v5, rfl, ⟨n5, rfl, h5⟩, b5⟩
      replace hp := hp.below b5
      replace hq := hq.below b5
      replace hA0 := hA0.below b5 hA0.lt
      replace hR := hR.below b5 hR.lt
      replace h1 := h1.below b5
      replace h2 := h2.below b5
      replace hr2 := hr2.below b5
      replace h3 := h3.below b5
      replace h4 := h4.below b5
      replace hB := hB.trans (b5.mono hB.size)
      clear c5_hA0_0 c5_hA0_1 c5_hA0_2 c5_hR_0 c5_hR_1
      obtain ⟨c6_hA0_0, c6_hA0_1, c6_hA0_2⟩ := hA0.cells3
      obtain ⟨c6_hR_0, c6_hR_1⟩ := hR.cells2
      obtain ⟨A5, L5, C5, rfl⟩ := h5.frm
      obtain ⟨p1, p2, p3⟩ := put2 hR (.bool (decide (z < 0))) (.slice A5 L5 C5) (by simp [noU]) hB (by omega)
      have q0 := hR.cell 0
      have z0 := hR.frozen 0
      have q1 := hR.cell 1
      have z1 := hR.frozen 1
      have P := Lib.hid (And.intro (⟨_, rfl, p2 _ _ h5⟩ : IsZ _ (.agg #[.bool (decide (z < 0)), .slice A5 L5 C5]) z) (And.intro p3 p1.cells2))
      clear p1 p2 p3 hS hD hO hA hrL hN
      go_wp2_with fail
      obtain ⟨P1, P2, P3, P4⟩ := P.out
      exact bodyPost_ret (v := .tuple #[.agg #[.bool (decide (z < 0)), .slice A5 L5 C5], .int .i64 0]) (by simp [results, Tryz.results96, go_sem, P3, P4]) rfl ⟨_, rfl, P1, P2⟩
    · have hr1 : r = 0 := by omega
      have hLz : L9 = 0 := by rw [hL9, hr1, limbs_zero]; rfl
      subst hLz
      rw [if_neg hr0, Nat.add_zero] at fz
      have FZ := Lib.hid fz
      clear hL9 hr0 fz hr1
      have hZ : ∀ w' u, IsN w' u (n) → IsZ w' (.agg #[.bool false, u]) ((n : Nat) : Int) := fun w' u h => ⟨u, by rw [decide_eq_false (by omega)], by rw [Int.natAbs_natCast]; exact h⟩
      have hN := fun u w h => rzneg_any (.agg #[.bool false, u]) ((n : Nat) : Int) w (hZ w u h)
      rw [← FZ.out] at hN
      clear hZ
      go_wp2_with fail
      refine (hN _ _ h2).mono ?_
      rintro e w3 ⟨v5, rfl, ⟨n5, rfl, h5⟩, b3⟩
      replace hp := hp.below b3
      replace hq := hq.below b3
      replace hA0 := hA0.below b3 hA0.lt
      replace hR := hR.below b3 hR.lt
      replace h1 := h1.below b3
      replace h2 := h2.below b3
      replace hr2 := hr2.below b3
      replace hB := hB.trans (b3.mono hB.size)
      clear c3_hA0_0 c3_hA0_1 c3_hA0_2 c3_hR_0 c3_hR_1
      obtain ⟨c4_hA0_0, c4_hA0_1, c4_hA0_2⟩ := hA0.cells3
      obtain ⟨c4_hR_0, c4_hR_1⟩ := hR.cells2
      obtain ⟨A5, L5, C5, rfl⟩ := h5.frm
      obtain ⟨p1, p2, p3⟩ := put2 hR (.bool (decide (z < 0))) (.slice A5 L5 C5) (by simp [noU]) hB (by omega)
      have q0 := hR.cell 0
      have z0 := hR.frozen 0
      have q1 := hR.cell 1
      have z1 := hR.frozen 1
      have P := Lib.hid (And.intro (⟨_, rfl, p2 _ _ h5⟩ : IsZ _ (.agg #[.bool (decide (z < 0)), .slice A5 L5 C5]) z) (And.intro p3 p1.cells2))
      clear p1 p2 p3 hS hD hO hA hrL hN
      go_wp2_with fail
      obtain ⟨P1, P2, P3, P4⟩ := P.out
      exact bodyPost_ret (v := .tuple #[.agg #[.bool (decide (z < 0)), .slice A5 L5 C5], .int .i64 0]) (by simp [results, Tryz.results96, go_sem, P3, P4]) rfl ⟨_, rfl, P1, P2⟩
  · have fz := fp hs
    rw [decide_eq_false hs]
    clear fp fn
    have KEY : Hid (∀ w' u, IsN w' u n → IsZ w' (.agg #[.bool false, u]) z) := Lib.hid fun w' u h => ⟨u, by rw [fz, decide_eq_false (by omega)], by rw [fz]; simpa using h⟩
    clear fz hs
    obtain ⟨W0, hW, hT, hB⟩ := box2 w 80 78 #[.bool false, .slice Ap Lp Cp, .slice Aq Lq Cq] #[.bool false, .slice none 0 0]
    obtain ⟨g, hg⟩ : ∃ g, g = w.heap.size := ⟨_, rfl⟩
    have hW' := Lib.hid (And.intro hW hg)
    rw [← hg] at hT
    have hgw : w.heap.size ≤ g := by omega
    clear hW hg
    obtain ⟨hA0, hR⟩ := hT
    replace hp := hp.below hB
    replace hq := hq.below hB
    obtain ⟨c1_hA0_0, c1_hA0_1, c1_hA0_2⟩ := hA0.cells3
    obtain ⟨c1_hR_0, c1_hR_1⟩ := hR.cells2
    go_enter Tryz.func96, Tryz.ntmps96
    go_wp2_with fail
    rw [← hW'.out.1, ← hW'.out.2]
    refine (hS _ hp).mono ?_
    rintro e w1 ⟨v1, rfl, h1, b1⟩
    replace hp := hp.below b1
    replace hq := hq.below b1
    replace hA0 := hA0.below b1 hA0.lt
    replace hR := hR.below b1 hR.lt
    replace hB := hB.trans (b1.mono hB.size)
    clear c1_hA0_0 c1_hA0_1 c1_hA0_2 c1_hR_0 c1_hR_1
    obtain ⟨c2_hA0_0, c2_hA0_1, c2_hA0_2⟩ := hA0.cells3
    obtain ⟨c2_hR_0, c2_hR_1⟩ := hR.cells2
    go_wp2_with fail
    refine (hD _ _ h1 hq).mono ?_
    rintro e w2 ⟨v2, r2, rfl, h2, hr2, b2⟩
    replace hp := hp.below b2
    replace hq := hq.below b2
    replace hA0 := hA0.below b2 hA0.lt
    replace hR := hR.below b2 hR.lt
    replace h1 := h1.below b2
    replace hB := hB.trans (b2.mono hB.size)
    clear c2_hA0_0 c2_hA0_1 c2_hA0_2 c2_hR_0 c2_hR_1
    obtain ⟨c3_hA0_0, c3_hA0_1, c3_hA0_2⟩ := hA0.cells3
    obtain ⟨c3_hR_0, c3_hR_1⟩ := hR.cells2
    obtain ⟨A2, L2, C2, rfl⟩ := h2.frm
    obtain ⟨p1, p2, p3⟩ := put2 hR (.bool false) (.slice A2 L2 C2) (by simp [noU]) hB (by omega)
    have q0 := hR.cell 0
    have z0 := hR.frozen 0
    have q1 := hR.cell 1
    have z1 := hR.frozen 1
    have P := Lib.hid (And.intro (KEY.out _ _ (p2 _ _ h2)) (And.intro p3 p1.cells2))
    clear p1 p2 p3 hS hD hO hA hrL
    go_wp2_with fail
    obtain ⟨P1, P2, P3, P4⟩ := P.out
    exact bodyPost_ret (v := .tuple #[.agg #[.bool false, .slice A2 L2 C2], .int .i64 0]) (by simp [results, Tryz.results96, go_sem, P3, P4]) rfl ⟨_, rfl, P1, P2⟩
/-- the ceiling of a rational times a power of two -/
def cel (a : Rat) (k : Nat) : Int := -flr (-a) k
set_option maxHeartbeats 4000000 in
theorem ceil_any (v : Value) (a : Rat) (k : Nat) (w : World) (h : IsQ w v a) (hk : k ≤ 2000) (sa : BQ a 10000) :
    Calls Tryz.prog 97 #[v, .int .i64 k] w fun e w' => ∃ v', e = .returned (.tuple #[v', .int .i64 0]) ∧ IsZ w' v' (cel a k) ∧ Below w.heap.size w w' := by
  have hN := fun w h => rqneg_any v a w h
  have hF := fun u w h => floor_any u (-a) k w h hk sa.neg
  have hM := fun u w h => rzneg_any u (flr (-a) k) w h
  rw [show -flr (-a) k = cel a k from rfl] at hM
  have hv := h
  obtain ⟨pv, qv, rfl, hp, hq⟩ := h
  generalize cel a k = z at *
  generalize flr (-a) k = y at *
  clear hp hq sa
  obtain ⟨W0, hW, hT, hB⟩ := box2 w 80 78 #[.bool (decide (a.num < 0)), pv, qv] #[.bool false, .slice none 0 0]
  obtain ⟨g, hg⟩ : ∃ g, g = w.heap.size := ⟨_, rfl⟩
  have hW' := Lib.hid (And.intro hW hg)
  rw [← hg] at hT
  have hgw : w.heap.size ≤ g := by omega
  clear hW hg
  obtain ⟨hA, hR⟩ := hT
  replace hv := hv.below hB
  obtain ⟨c1_hA_0, c1_hA_1, c1_hA_2⟩ := hA.cells3
  obtain ⟨c1_hR_0, c1_hR_1⟩ := hR.cells2
  go_enter Tryz.func97, Tryz.ntmps97
  go_wp2_with fail
  rw [← hW'.out.1, ← hW'.out.2]
  refine (hN _ hv).mono ?_
  rintro e w1 ⟨v1, rfl, h1, b1⟩
  replace hv := hv.below b1
  replace hA := hA.below b1 hA.lt
  replace hR := hR.below b1 hR.lt
  replace hB := hB.trans (b1.mono hB.size)
  clear c1_hA_0 c1_hA_1 c1_hA_2 c1_hR_0 c1_hR_1
  obtain ⟨c2_hA_0, c2_hA_1, c2_hA_2⟩ := hA.cells3
  obtain ⟨c2_hR_0, c2_hR_1⟩ := hR.cells2
  go_wp2_with fail
  refine (hF _ _ h1).mono ?_
  rintro e w2 ⟨v2, rfl, h2, b2⟩
  replace hv := hv.below b2
  replace hA := hA.below b2 hA.lt
  replace hR := hR.below b2 hR.lt
  replace h1 := h1.below b2
  replace hB := hB.trans (b2.mono hB.size)
  clear c2_hA_0 c2_hA_1 c2_hA_2 c2_hR_0 c2_hR_1
  obtain ⟨c3_hA_0, c3_hA_1, c3_hA_2⟩ := hA.cells3
  obtain ⟨c3_hR_0, c3_hR_1⟩ := hR.cells2
  have h2z := h2
  obtain ⟨n2, rfl, h2n⟩ := h2z
  obtain ⟨A2, L2, C2, rfl⟩ := h2n.frm
  clear h2n
  obtain ⟨V1, eV, hL, bV1⟩ := box1 w2 78 #[.bool (decide (y < 0)), .slice A2 L2 C2]
  obtain ⟨X1, eX⟩ : ∃ X, X = w2.heap.size := ⟨_, rfl⟩
  rw [← eX] at hL
  have EV1 := Lib.hid (And.intro eV eX)
  clear eV eX
  replace hv := hv.below bV1
  replace hA := hA.below bV1 hA.lt
  replace hR := hR.below bV1 hR.lt
  replace h1 := h1.below bV1
  replace h2 := h2.below bV1
  replace hB := hB.trans (bV1.mono hB.size)
  obtain ⟨c4_hA_0, c4_hA_1, c4_hA_2⟩ := hA.cells3
  obtain ⟨c4_hR_0, c4_hR_1⟩ := hR.cells2
  clear c3_hA_0 c3_hA_1 c3_hA_2 c3_hR_0 c3_hR_1 c4_hA_0 c4_hA_1 c4_hA_2 c4_hR_0 c4_hR_1
  obtain ⟨c5_hA_0, c5_hA_1, c5_hA_2⟩ := hA.cells3
  obtain ⟨c5_hR_0, c5_hR_1⟩ := hR.cells2
  obtain ⟨c5_hL_0, c5_hL_1⟩ := hL.cells2
  go_wp2_with fail
  rw [← EV1.out.1, ← EV1.out.2]
  refine (hM _ _ h2).mono ?_
  rintro e w3 ⟨v3, rfl, ⟨n3, rfl, h3⟩, b3⟩
  replace hv := hv.below b3
  replace hA := hA.below b3 hA.lt
  replace hR := hR.below b3 hR.lt
  replace h1 := h1.below b3
  replace h2 := h2.below b3
  replace hL := hL.below b3 hL.lt
  replace hB := hB.trans (b3.mono hB.size)
  clear c5_hA_0 c5_hA_1 c5_hA_2 c5_hR_0 c5_hR_1 c5_hL_0 c5_hL_1
  obtain ⟨c6_hA_0, c6_hA_1, c6_hA_2⟩ := hA.cells3
  obtain ⟨c6_hR_0, c6_hR_1⟩ := hR.cells2
  obtain ⟨c6_hL_0, c6_hL_1⟩ := hL.cells2
  obtain ⟨A3, L3, C3, rfl⟩ := h3.frm
  obtain ⟨p1, p2, p3⟩ := put2 hR (.bool (decide (z < 0))) (.slice A3 L3 C3) (by simp [noU]) hB (by omega)
  have q0 := hR.cell 0
  have z0 := hR.frozen 0
  have q1 := hR.cell 1
  have z1 := hR.frozen 1
  have P := Lib.hid (And.intro (⟨_, rfl, p2 _ _ h3⟩ : IsZ _ (.agg #[.bool (decide (z < 0)), .slice A3 L3 C3]) z) (And.intro p3 p1.cells2))
  clear p1 p2 p3 hN hF hM
  go_wp2_with fail
  obtain ⟨P1, P2, P3, P4⟩ := P.out
  exact bodyPost_ret (v := .tuple #[.agg #[.bool (decide (z < 0)), .slice A3 L3 C3], .int .i64 0]) (by simp [results, Tryz.results97, go_sem, P3, P4]) rfl ⟨_, rfl, P1, P2⟩
end Go.Proofs.YtochabikpaoalaaGreat
namespace Go.Proofs.YtochabikpaoalaaGreat
open Go.RowKit
attribute [local go_sem ↓] Go.wp_at_zero Go.wp_at_succ

theorem cmpI_scale (a b c : Int) (h : 0 < c) : cmpI (a * c) (b * c) = cmpI a b := by
  unfold cmpI
  have h1 : a * c < b * c ↔ a < b := Int.mul_lt_mul_right h
  have h2 : b * c < a * c ↔ b < a := Int.mul_lt_mul_right h
  simp only [h1, h2]
theorem mk_cross (m : Int) (N : Nat) (h : 0 < N) : (mkRat m N).num * N = m * (mkRat m N).den :=
  (Rat.mkRat_eq_iff (n₁ := (mkRat m N).num) (n₂ := m) (Rat.den_nz (mkRat m N)) (by omega : N ≠ 0)).1 (by rw [Rat.mkRat_self])
theorem cmpQ_mk (m n : Int) (N : Nat) (h : 0 < N) : cmpQ (mkRat m N) (mkRat n N) = cmpI m n := by
  have e1 := mk_cross m N h
  have e2 := mk_cross n N h
  have d1 := Rat.den_pos (mkRat m N)
  have d2 := Rat.den_pos (mkRat n N)
  unfold cmpQ
  generalize mkRat m N = x at *
  generalize mkRat n N = y at *
  rw [← cmpI_scale _ _ (N : Int) (by omega), ← cmpI_scale m n ((x.den : Int) * y.den) (Int.mul_pos (by omega) (by omega))]
  congr 1
  · rw [Int.mul_right_comm, e1, Int.mul_assoc]
  · rw [Int.mul_right_comm, e2, Int.mul_assoc, Int.mul_comm (y.den : Int)]
theorem below_mk (a : Rat) (k : Nat) (l : Int) : a - mkRat l (2 ^ k) = mkRat (a.num * 2 ^ k - l * a.den) (a.den * 2 ^ k) := by
  have hd := Rat.den_nz a
  have hp : (2 ^ k : Nat) ≠ 0 := Nat.ne_of_gt (Nat.pow_pos (by omega))
  conv => lhs; rw [← Rat.mkRat_self a]
  rw [Rat.sub_eq_add_neg, Rat.neg_mkRat, Rat.mkRat_add_mkRat _ _ hd hp]
  congr 1
  rw [Int.neg_mul, ← Int.sub_eq_add_neg]; simp
theorem above_mk (a : Rat) (k : Nat) (l : Int) : mkRat l (2 ^ k) - a = mkRat (l * a.den - a.num * 2 ^ k) (a.den * 2 ^ k) := by
  have e : mkRat l (2 ^ k) - a = -(a - mkRat l (2 ^ k)) := by rw [Rat.neg_sub]
  rw [e, below_mk, Rat.neg_mkRat]
  congr 1; omega
/-- the test that takes the lower one -/
def lowB (a : Rat) (k : Nat) : Bool := decide (cmpQ (a - mkRat (flr a k) (2 ^ k)) (mkRat (cel a k) (2 ^ k) - a) < 0) || (decide (cmpQ (a - mkRat (flr a k) (2 ^ k)) (mkRat (cel a k) (2 ^ k) - a) = 0) && decide (flr a k % 2 ≠ 1))
theorem near_pick (a : Rat) (k : Nat) : nearQ a k = if lowB a k then flr a k else cel a k := by
  unfold lowB
  rw [below_mk, above_mk, cmpQ_mk _ _ _ (Nat.mul_pos (Rat.den_pos a) (Nat.pow_pos (by omega)))]
  unfold nearQ nearZ cel flr
  rw [Rat.neg_num, Rat.neg_den, show -a.num * 2 ^ k = -(a.num * 2 ^ k) from Int.neg_mul _ _]
  have hd := Rat.den_pos a
  generalize a.num * 2 ^ k = A
  generalize a.den = D at *
  have h1 := Int.emod_nonneg A (show (D : Int) ≠ 0 by omega)
  have h2 := Int.emod_lt_of_pos A (show (0 : Int) < D by omega)
  have h3 := Int.mul_ediv_add_emod A D
  generalize A % (D : Int) = r at *
  generalize A / (D : Int) = q at *
  have e1 : A - q * D = r := by rw [Int.mul_comm]; omega
  by_cases h0 : r = 0
  · have e0 : -A / (D : Int) = -q := by
      rw [show -A = (D : Int) * (-q) from by rw [Int.mul_neg]; omega, Int.mul_ediv_cancel_left _ (by omega)]
    rw [e0, e1, h0, show - -q * (D : Int) - A = 0 from by rw [Int.neg_neg, Int.mul_comm]; omega, cmpI_eq, if_neg (by omega)]
    split <;> omega
  · have e0 : -A / (D : Int) = -q - 1 := by
      rw [show -A = ((D : Int) - r) + (D : Int) * (-q - 1) from by rw [Int.mul_sub, Int.mul_neg, Int.mul_one]; omega, Int.add_mul_ediv_left _ _ (by omega), Int.ediv_eq_zero_of_lt (by omega) (by omega), Int.zero_add]
    rw [e0, e1, show -(-q - 1) * (D : Int) - A = D - r from by rw [show -(-q - 1) = q + 1 from by omega, Int.add_mul, Int.mul_comm q]; omega]
    rcases Int.lt_trichotomy r (D - r) with h | h | h
    · rw [cmpI_lt h, if_neg (by omega)]; simp
    · rw [← h, cmpI_eq]
      by_cases hq : q % 2 = 1
      · rw [if_pos (by omega)]; simp [hq]; omega
      · rw [if_neg (by omega)]; simp [hq]
    · rw [cmpI_gt h, if_pos (by omega)]; simp; omega
set_option maxHeartbeats 1000000 in
theorem qodd_any (v : Value) (z : Int) (w : World) (h : IsZ w v z) :
    Calls Tryz.prog 101 #[v] w fun e w' => e = .returned (.bool (!decide (z % 2 ≠ 1))) ∧ Below w.heap.size w w' := by
  obtain ⟨nv, rfl, hn⟩ := h
  have hz : (!decide (z % 2 ≠ 1)) = decide (z.natAbs % 2 = 1) := by rw [Bool.eq_iff_iff]; simp; omega
  rw [hz]
  generalize decide (z < 0) = s at *
  generalize z.natAbs = n at *
  clear hz
  have HB := Lib.hid ((Below.refl w.heap.size w).alloc (Nat.le_refl _) (.cells #[.bool s, nv] 78))
  have hl := lat_limbs n 0
  obtain ⟨A, c, rfl, h1, h2, h3, h4⟩ := hn
  by_cases h0 : n = 0
  · subst h0
    rw [limbs_zero]
    go_enter Tryz.func101, Tryz.ntmps101
    go_wp2
    go_ret
    exact ⟨rfl, HB.out⟩
  · have hL : 0 < (limbs n).length := List.length_pos_iff.2 (fun e => h0 (limbs_nil.1 e))
    obtain ⟨ad, rfl, hb, hc⟩ := us_cell0 h4 hL
    rw [Nat.pow_zero, Nat.div_one] at hl
    rw [hl] at hc
    have hr : decide (n % 2 = 1) = ((((n % W64 : Nat) : Int) % 2) == 1) := by rw [Bool.eq_iff_iff]; unfold W64; simp; omega
    have HR := Lib.hid hr
    clear hr hl h0
    generalize (limbs n).length = m at *
    generalize n % W64 = y at *
    rw [HR.out]
    have hcn := World.new_ne w _ hc
    have hcw : (w.alloc (.cells #[.bool s, .slice (some ad) m c] 78)).cell? ad = some (.int .u64 (y : Int)) := (World.cell?_alloc_lt w _ ad hb).trans hc
    go_enter Tryz.func101, Tryz.ntmps101
    go_wp2
    go_ret
    exact ⟨rfl, HB.out⟩
set_option maxHeartbeats 8000000 in
theorem qnear_any (v : Value) (a : Rat) (k : Nat) (w : World) (h : IsQ w v a) (hk : k ≤ 2000) (sa : BQ a 100) :
    Calls Tryz.prog 77 #[v, .int .i64 k] w fun e w' => ∃ v', e = .returned (.tuple #[v', .int .i64 0]) ∧ IsZ w' v' (nearQ a k) ∧ Below w.heap.size w w' := by
  rw [near_pick]
  have hF := fun w h => floor_any v a k w h hk (sa.more (by omega))
  have hC := fun w h => ceil_any v a k w h hk (sa.more (by omega))
  have sf : ∀ b : Rat, BQ b 100 → Sz (flr b k).natAbs 200 := fun b hb => by
    have h1 : (flr b k).natAbs ≤ b.num.natAbs * 2 ^ k := by
      unfold flr
      have := Int.natAbs_ediv_le_natAbs (b.num * 2 ^ k) (b.den : Int)
      rw [Int.natAbs_mul] at this; simpa [Int.natAbs_pow] using this
    exact ((hb.1.mul (Sz.two_pow k)).more (by omega)).le h1
  have s1 := sf a sa
  have s2 : Sz (cel a k).natAbs 200 := by unfold cel; rw [Int.natAbs_neg]; exact sf (-a) sa.neg
  have hX := fun u w h => back_any u (flr a k) k w h hk (s1.more (by omega))
  have hY := fun u w h => back_any u (cel a k) k w h hk (s2.more (by omega))
  have sp : Sz (2 ^ k) 200 := (Sz.two_pow k).more (by omega)
  have t1 : BQ (mkRat (flr a k) (2 ^ k)) 200 := BQ.mk s1 sp (by omega)
  have t2 : BQ (mkRat (cel a k) (2 ^ k)) 200 := BQ.mk s2 sp (by omega)
  have hS1 := fun u w ha h => rqsub_any v u a (mkRat (flr a k) (2 ^ k)) w ha h (sa.more (by omega)) (t1.more (by omega))
  have hS2 := fun u w ha h => rqsub_any u v (mkRat (cel a k) (2 ^ k)) a w h ha (t2.more (by omega)) (sa.more (by omega))
  have t3 : BQ (a - mkRat (flr a k) (2 ^ k)) 1000 := by rw [Rat.sub_eq_add_neg]; exact (sa.add t1.neg).more (by omega)
  have t4 : BQ (mkRat (cel a k) (2 ^ k) - a) 1000 := by rw [Rat.sub_eq_add_neg]; exact (t2.add sa.neg).more (by omega)
  have hQ := fun u v w h1 h2 => rqcmp_any u v (a - mkRat (flr a k) (2 ^ k)) (mkRat (cel a k) (2 ^ k) - a) w h1 h2 (t3.more (by omega)) (t4.more (by omega))
  have hO := fun u w h => qodd_any u (flr a k) w h
  have hL : lowB a k = (decide (cmpQ (a - mkRat (flr a k) (2 ^ k)) (mkRat (cel a k) (2 ^ k) - a) < 0) || (decide (cmpQ (a - mkRat (flr a k) (2 ^ k)) (mkRat (cel a k) (2 ^ k) - a) = 0) && decide (flr a k % 2 ≠ 1))) := rfl
  have hv := h
  obtain ⟨pv, qv, rfl, hp, hq⟩ := h
  obtain ⟨Ap, Lp, Cp, rfl⟩ := hp.frm
  obtain ⟨Aq, Lq, Cq, rfl⟩ := hq.frm
  clear sf s1 s2 sp t1 t2 t3 t4 sa hp hq
  generalize lowB a k = B at *
  generalize cmpQ (a - mkRat (flr a k) (2 ^ k)) (mkRat (cel a k) (2 ^ k) - a) = c at *
  generalize a - mkRat (flr a k) (2 ^ k) = q1 at *
  generalize mkRat (cel a k) (2 ^ k) - a = q2 at *
  generalize mkRat (flr a k) (2 ^ k) = x at *
  generalize mkRat (cel a k) (2 ^ k) = y at *
  generalize flr a k = lo at *
  generalize cel a k = hi at *
  generalize decide (lo % 2 ≠ 1) = ev at *
  have HL := Lib.hid hL
  clear hL
  have KLO : Hid (B = true → ∀ w' v, IsZ w' v lo → IsZ w' v (if B = true then lo else hi)) := Lib.hid fun hB _ _ h => by rw [if_pos hB]; exact h
  have KHI : Hid (B = false → ∀ w' v, IsZ w' v hi → IsZ w' v (if B = true then lo else hi)) := Lib.hid fun hB _ _ h => by rw [if_neg (by rw [hB]; simp)]; exact h
  generalize (if B = true then lo else hi) = R at *
  obtain ⟨W0, hW, hT, hB⟩ := box2 w 80 78 #[.bool (decide (a.num < 0)), .slice Ap Lp Cp, .slice Aq Lq Cq] #[.bool false, .slice none 0 0]
  obtain ⟨g, hg⟩ : ∃ g, g = w.heap.size := ⟨_, rfl⟩
  have hW' := Lib.hid (And.intro hW hg)
  rw [← hg] at hT
  have hgw : w.heap.size ≤ g := by omega
  clear hW hg
  obtain ⟨hA, hR⟩ := hT
  replace hv := hv.below hB
  obtain ⟨c1_hA_0, c1_hA_1, c1_hA_2⟩ := hA.cells3
  obtain ⟨c1_hR_0, c1_hR_1⟩ := hR.cells2
  go_enter Tryz.func77, Tryz.ntmps77
  go_wp2_with fail
  rw [← hW'.out.1, ← hW'.out.2]
  refine (hF _ hv).mono ?_
  rintro e w1 ⟨v1, rfl, h1, b1⟩
  replace hv := hv.below b1
  replace hA := hA.below b1 hA.lt
  replace hR := hR.below b1 hR.lt
  replace hB := hB.trans (b1.mono hB.size)
  clear c1_hA_0 c1_hA_1 c1_hA_2 c1_hR_0 c1_hR_1
  obtain ⟨c2_hA_0, c2_hA_1, c2_hA_2⟩ := hA.cells3
  obtain ⟨c2_hR_0, c2_hR_1⟩ := hR.cells2
  obtain ⟨n1, rfl, e1⟩ := (id h1 : IsZ _ _ _)
  obtain ⟨A1, L1, C1, rfl⟩ := e1.frm
  clear e1
  obtain ⟨V1, eV, bLo, bV1⟩ := box1 w1 78 #[.bool (decide (lo < 0)), .slice A1 L1 C1]
  obtain ⟨X1, eX⟩ : ∃ X, X = w1.heap.size := ⟨_, rfl⟩
  rw [← eX] at bLo
  have EV1 := Lib.hid (And.intro eV eX)
  clear eV eX
  go_upto_region 2 with fail
  rw [← EV1.out.1, ← EV1.out.2]
  replace hv := hv.below bV1
  replace hA := hA.below bV1 hA.lt
  replace hR := hR.below bV1 hR.lt
  replace h1 := h1.below bV1
  replace hB := hB.trans (bV1.mono hB.size)
  clear c2_hA_0 c2_hA_1 c2_hA_2 c2_hR_0 c2_hR_1
  obtain ⟨c3_hA_0, c3_hA_1, c3_hA_2⟩ := hA.cells3
  obtain ⟨c3_hR_0, c3_hR_1⟩ := hR.cells2
  clear c3_hA_0 c3_hA_1 c3_hA_2 c3_hR_0 c3_hR_1
  obtain ⟨c4_hA_0, c4_hA_1, c4_hA_2⟩ := hA.cells3
  obtain ⟨c4_hR_0, c4_hR_1⟩ := hR.cells2
  obtain ⟨c4_bLo_0, c4_bLo_1⟩ := bLo.cells2
  go_wp2_with fail
  refine (hC _ hv).mono ?_
  rintro e w2 ⟨v2, rfl, h2, b2⟩
  replace hv := hv.below b2
  replace hA := hA.below b2 hA.lt
  replace hR := hR.below b2 hR.lt
  replace h1 := h1.below b2
  replace bLo := bLo.below b2 bLo.lt
  replace hB := hB.trans (b2.mono hB.size)
  clear c4_hA_0 c4_hA_1 c4_hA_2 c4_hR_0 c4_hR_1 c4_bLo_0 c4_bLo_1
  obtain ⟨c5_hA_0, c5_hA_1, c5_hA_2⟩ := hA.cells3
  obtain ⟨c5_hR_0, c5_hR_1⟩ := hR.cells2
  obtain ⟨c5_bLo_0, c5_bLo_1⟩ := bLo.cells2
  obtain ⟨n2, rfl, e2⟩ := (id h2 : IsZ _ _ _)
  obtain ⟨A2, L2, C2, rfl⟩ := e2.frm
  clear e2
  obtain ⟨V2, eV, bHi, bV2⟩ := box1 w2 78 #[.bool (decide (hi < 0)), .slice A2 L2 C2]
  obtain ⟨X2, eX⟩ : ∃ X, X = w2.heap.size := ⟨_, rfl⟩
  rw [← eX] at bHi
  have EV2 := Lib.hid (And.intro eV eX)
  clear eV eX
  go_upto_region 5 with fail
  rw [← EV2.out.1, ← EV2.out.2]
  replace hv := hv.below bV2
  replace hA := hA.below bV2 hA.lt
  replace hR := hR.below bV2 hR.lt
  replace h1 := h1.below bV2
  replace bLo := bLo.below bV2 bLo.lt
  replace h2 := h2.below bV2
  replace hB := hB.trans (bV2.mono hB.size)
  clear c5_hA_0 c5_hA_1 c5_hA_2 c5_hR_0 c5_hR_1 c5_bLo_0 c5_bLo_1
  obtain ⟨c6_hA_0, c6_hA_1, c6_hA_2⟩ := hA.cells3
  obtain ⟨c6_hR_0, c6_hR_1⟩ := hR.cells2
  obtain ⟨c6_bLo_0, c6_bLo_1⟩ := bLo.cells2
  clear c6_hA_0 c6_hA_1 c6_hA_2 c6_hR_0 c6_hR_1 c6_bLo_0 c6_bLo_1
  obtain ⟨c7_hA_0, c7_hA_1, c7_hA_2⟩ := hA.cells3
  obtain ⟨c7_hR_0, c7_hR_1⟩ := hR.cells2
  obtain ⟨c7_bLo_0, c7_bLo_1⟩ := bLo.cells2
  obtain ⟨c7_bHi_0, c7_bHi_1⟩ := bHi.cells2
  go_wp2_with fail
  refine (hX _ _ h1).mono ?_
  rintro e w3 ⟨v3, rfl, h3, b3⟩
  replace hv := hv.below b3
  replace hA := hA.below b3 hA.lt
  replace hR := hR.below b3 hR.lt
  replace h1 := h1.below b3
  replace bLo := bLo.below b3 bLo.lt
  replace h2 := h2.below b3
  replace bHi := bHi.below b3 bHi.lt
  replace hB := hB.trans (b3.mono hB.size)
  clear c7_hA_0 c7_hA_1 c7_hA_2 c7_hR_0 c7_hR_1 c7_bLo_0 c7_bLo_1 c7_bHi_0 c7_bHi_1
  obtain ⟨c8_hA_0, c8_hA_1, c8_hA_2⟩ := hA.cells3
  obtain ⟨c8_hR_0, c8_hR_1⟩ := hR.cells2
  obtain ⟨c8_bLo_0, c8_bLo_1⟩ := bLo.cells2
  obtain ⟨c8_bHi_0, c8_bHi_1⟩ := bHi.cells2
  obtain ⟨n3, d3, rfl, e3, f3⟩ := (id h3 : IsQ _ _ _)
  obtain ⟨A3, L3, C3, rfl⟩ := e3.frm
  obtain ⟨D3, M3, E3, rfl⟩ := f3.frm
  clear e3 f3
  obtain ⟨V3, eV, bX, bV3⟩ := box1 w3 80 #[.bool (decide (x.num < 0)), .slice A3 L3 C3, .slice D3 M3 E3]
  obtain ⟨X3, eX⟩ : ∃ X, X = w3.heap.size := ⟨_, rfl⟩
  rw [← eX] at bX
  have EV3 := Lib.hid (And.intro eV eX)
  clear eV eX
  go_upto_region 6 with fail
  rw [← EV3.out.1, ← EV3.out.2]
  replace hv := hv.below bV3
  replace hA := hA.below bV3 hA.lt
  replace hR := hR.below bV3 hR.lt
  replace h1 := h1.below bV3
  replace bLo := bLo.below bV3 bLo.lt
  replace h2 := h2.below bV3
  replace bHi := bHi.below bV3 bHi.lt
  replace h3 := h3.below bV3
  replace hB := hB.trans (bV3.mono hB.size)
  clear c8_hA_0 c8_hA_1 c8_hA_2 c8_hR_0 c8_hR_1 c8_bLo_0 c8_bLo_1 c8_bHi_0 c8_bHi_1
  obtain ⟨c9_hA_0, c9_hA_1, c9_hA_2⟩ := hA.cells3
  obtain ⟨c9_hR_0, c9_hR_1⟩ := hR.cells2
  obtain ⟨c9_bLo_0, c9_bLo_1⟩ := bLo.cells2
  obtain ⟨c9_bHi_0, c9_bHi_1⟩ := bHi.cells2
  clear c9_hA_0 c9_hA_1 c9_hA_2 c9_hR_0 c9_hR_1 c9_bLo_0 c9_bLo_1 c9_bHi_0 c9_bHi_1
  obtain ⟨c10_hA_0, c10_hA_1, c10_hA_2⟩ := hA.cells3
  obtain ⟨c10_hR_0, c10_hR_1⟩ := hR.cells2
  obtain ⟨c10_bLo_0, c10_bLo_1⟩ := bLo.cells2
  obtain ⟨c10_bHi_0, c10_bHi_1⟩ := bHi.cells2
  obtain ⟨c10_bX_0, c10_bX_1, c10_bX_2⟩ := bX.cells3
  go_wp2_with fail
  refine (hY _ _ h2).mono ?_
  rintro e w4 ⟨v4, rfl, h4, b4⟩
  replace hv := hv.below b4
  replace hA := hA.below b4 hA.lt
  replace hR := hR.below b4 hR.lt
  replace h1 := h1.below b4
  replace bLo := bLo.below b4 bLo.lt
  replace h2 := h2.below b4
  replace bHi := bHi.below b4 bHi.lt
  replace h3 := h3.below b4
  replace bX := bX.below b4 bX.lt
  replace hB := hB.trans (b4.mono hB.size)
  clear c10_hA_0 c10_hA_1 c10_hA_2 c10_hR_0 c10_hR_1 c10_bLo_0 c10_bLo_1 c10_bHi_0 c10_bHi_1 c10_bX_0 c10_bX_1 c10_bX_2
  obtain ⟨c11_hA_0, c11_hA_1, c11_hA_2⟩ := hA.cells3
  obtain ⟨c11_hR_0, c11_hR_1⟩ := hR.cells2
  obtain ⟨c11_bLo_0, c11_bLo_1⟩ := bLo.cells2
  obtain ⟨c11_bHi_0, c11_bHi_1⟩ := bHi.cells2
  obtain ⟨c11_bX_0, c11_bX_1, c11_bX_2⟩ := bX.cells3
  obtain ⟨n4, d4, rfl, e4, f4⟩ := (id h4 : IsQ _ _ _)
  obtain ⟨A4, L4, C4, rfl⟩ := e4.frm
  obtain ⟨D4, M4, E4, rfl⟩ := f4.frm
  clear e4 f4
  obtain ⟨V4, eV, bY, bV4⟩ := box1 w4 80 #[.bool (decide (y.num < 0)), .slice A4 L4 C4, .slice D4 M4 E4]
  obtain ⟨X4, eX⟩ : ∃ X, X = w4.heap.size := ⟨_, rfl⟩
  rw [← eX] at bY
  have EV4 := Lib.hid (And.intro eV eX)
  clear eV eX
  go_upto_region 7 with fail
  rw [← EV4.out.1, ← EV4.out.2]
  replace hv := hv.below bV4
  replace hA := hA.below bV4 hA.lt
  replace hR := hR.below bV4 hR.lt
  replace h1 := h1.below bV4
  replace bLo := bLo.below bV4 bLo.lt
  replace h2 := h2.below bV4
  replace bHi := bHi.below bV4 bHi.lt
  replace h3 := h3.below bV4
  replace bX := bX.below bV4 bX.lt
  replace h4 := h4.below bV4
  replace hB := hB.trans (bV4.mono hB.size)
  clear c11_hA_0 c11_hA_1 c11_hA_2 c11_hR_0 c11_hR_1 c11_bLo_0 c11_bLo_1 c11_bHi_0 c11_bHi_1 c11_bX_0 c11_bX_1 c11_bX_2
  obtain ⟨c12_hA_0, c12_hA_1, c12_hA_2⟩ := hA.cells3
  obtain ⟨c12_hR_0, c12_hR_1⟩ := hR.cells2
  obtain ⟨c12_bLo_0, c12_bLo_1⟩ := bLo.cells2
  obtain ⟨c12_bHi_0, c12_bHi_1⟩ := bHi.cells2
  obtain ⟨c12_bX_0, c12_bX_1, c12_bX_2⟩ := bX.cells3
  clear c12_hA_0 c12_hA_1 c12_hA_2 c12_hR_0 c12_hR_1 c12_bLo_0 c12_bLo_1 c12_bHi_0 c12_bHi_1 c12_bX_0 c12_bX_1 c12_bX_2
  obtain ⟨c13_hA_0, c13_hA_1, c13_hA_2⟩ := hA.cells3
  obtain ⟨c13_hR_0, c13_hR_1⟩ := hR.cells2
  obtain ⟨c13_bLo_0, c13_bLo_1⟩ := bLo.cells2
  obtain ⟨c13_bHi_0, c13_bHi_1⟩ := bHi.cells2
  obtain ⟨c13_bX_0, c13_bX_1, c13_bX_2⟩ := bX.cells3
  obtain ⟨c13_bY_0, c13_bY_1, c13_bY_2⟩ := bY.cells3
  go_wp2_with fail
  refine (hS1 _ _ hv h3).mono ?_
  rintro e w5 ⟨v5, rfl, h5, b5⟩
  replace hv := hv.below b5
  replace hA := hA.below b5 hA.lt
  replace hR := hR.below b5 hR.lt
  replace h1 := h1.below b5
  replace bLo := bLo.below b5 bLo.lt
  replace h2 := h2.below b5
  replace bHi := bHi.below b5 bHi.lt
  replace h3 := h3.below b5
  replace bX := bX.below b5 bX.lt
  replace h4 := h4.below b5
  replace bY := bY.below b5 bY.lt
  replace hB := hB.trans (b5.mono hB.size)
  clear c13_hA_0 c13_hA_1 c13_hA_2 c13_hR_0 c13_hR_1 c13_bLo_0 c13_bLo_1 c13_bHi_0 c13_bHi_1 c13_bX_0 c13_bX_1 c13_bX_2 c13_bY_0 c13_bY_1 c13_bY_2
  obtain ⟨c14_hA_0, c14_hA_1, c14_hA_2⟩ := hA.cells3
  obtain ⟨c14_hR_0, c14_hR_1⟩ := hR.cells2
  obtain ⟨c14_bLo_0, c14_bLo_1⟩ := bLo.cells2
  obtain ⟨c14_bHi_0, c14_bHi_1⟩ := bHi.cells2
  obtain ⟨c14_bX_0, c14_bX_1, c14_bX_2⟩ := bX.cells3
  obtain ⟨c14_bY_0, c14_bY_1, c14_bY_2⟩ := bY.cells3
  obtain ⟨n5, d5, rfl, e5, f5⟩ := (id h5 : IsQ _ _ _)
  obtain ⟨A5, L5, C5, rfl⟩ := e5.frm
  obtain ⟨D5, M5, E5, rfl⟩ := f5.frm
  clear e5 f5
  obtain ⟨V5, eV, bB, bV5⟩ := box1 w5 80 #[.bool (decide (q1.num < 0)), .slice A5 L5 C5, .slice D5 M5 E5]
  obtain ⟨X5, eX⟩ : ∃ X, X = w5.heap.size := ⟨_, rfl⟩
  rw [← eX] at bB
  have EV5 := Lib.hid (And.intro eV eX)
  clear eV eX
  go_upto_region 8 with fail
  rw [← EV5.out.1, ← EV5.out.2]
  replace hv := hv.below bV5
  replace hA := hA.below bV5 hA.lt
  replace hR := hR.below bV5 hR.lt
  replace h1 := h1.below bV5
  replace bLo := bLo.below bV5 bLo.lt
  replace h2 := h2.below bV5
  replace bHi := bHi.below bV5 bHi.lt
  replace h3 := h3.below bV5
  replace bX := bX.below bV5 bX.lt
  replace h4 := h4.below bV5
  replace bY := bY.below bV5 bY.lt
  replace h5 := h5.below bV5
  replace hB := hB.trans (bV5.mono hB.size)
  clear c14_hA_0 c14_hA_1 c14_hA_2 c14_hR_0 c14_hR_1 c14_bLo_0 c14_bLo_1 c14_bHi_0 c14_bHi_1 c14_bX_0 c14_bX_1 c14_bX_2 c14_bY_0 c14_bY_1 c14_bY_2
  obtain ⟨c15_hA_0, c15_hA_1, c15_hA_2⟩ := hA.cells3
  obtain ⟨c15_hR_0, c15_hR_1⟩ := hR.cells2
  obtain ⟨c15_bLo_0, c15_bLo_1⟩ := bLo.cells2
  obtain ⟨c15_bHi_0, c15_bHi_1⟩ := bHi.cells2
  obtain ⟨c15_bX_0, c15_bX_1, c15_bX_2⟩ := bX.cells3
  obtain ⟨c15_bY_0, c15_bY_1, c15_bY_2⟩ := bY.cells3
  clear c15_hA_0 c15_hA_1 c15_hA_2 c15_hR_0 c15_hR_1 c15_bLo_0 c15_bLo_1 c15_bHi_0 c15_bHi_1 c15_bX_0 c15_bX_1 c15_bX_2 c15_bY_0 c15_bY_1 c15_bY_2
  obtain ⟨c16_hA_0, c16_hA_1, c16_hA_2⟩ := hA.cells3
  obtain ⟨c16_hR_0, c16_hR_1⟩ := hR.cells2
  obtain ⟨c16_bLo_0, c16_bLo_1⟩ := bLo.cells2
  obtain ⟨c16_bHi_0, c16_bHi_1⟩ := bHi.cells2
  obtain ⟨c16_bX_0, c16_bX_1, c16_bX_2⟩ := bX.cells3
  obtain ⟨c16_bY_0, c16_bY_1, c16_bY_2⟩ := bY.cells3
  obtain ⟨c16_bB_0, c16_bB_1, c16_bB_2⟩ := bB.cells3
  go_wp2_with fail
  refine (hS2 _ _ hv h4).mono ?_
  rintro e w6 ⟨v6, rfl, h6, b6⟩
  replace hv := hv.below b6
  replace hA := hA.below b6 hA.lt
  replace hR := hR.below b6 hR.lt
  replace h1 := h1.below b6
  replace bLo := bLo.below b6 bLo.lt
  replace h2 := h2.below b6
  replace bHi := bHi.below b6 bHi.lt
  replace h3 := h3.below b6
  replace bX := bX.below b6 bX.lt
  replace h4 := h4.below b6
  replace bY := bY.below b6 bY.lt
  replace h5 := h5.below b6
  replace bB := bB.below b6 bB.lt
  replace hB := hB.trans (b6.mono hB.size)
  clear c16_hA_0 c16_hA_1 c16_hA_2 c16_hR_0 c16_hR_1 c16_bLo_0 c16_bLo_1 c16_bHi_0 c16_bHi_1 c16_bX_0 c16_bX_1 c16_bX_2 c16_bY_0 c16_bY_1 c16_bY_2 c16_bB_0 c16_bB_1 c16_bB_2
  obtain ⟨c17_hA_0, c17_hA_1, c17_hA_2⟩ := hA.cells3
  obtain ⟨c17_hR_0, c17_hR_1⟩ := hR.cells2
  obtain ⟨c17_bLo_0, c17_bLo_1⟩ := bLo.cells2
  obtain ⟨c17_bHi_0, c17_bHi_1⟩ := bHi.cells2
  obtain ⟨c17_bX_0, c17_bX_1, c17_bX_2⟩ := bX.cells3
  obtain ⟨c17_bY_0, c17_bY_1, c17_bY_2⟩ := bY.cells3
  obtain ⟨c17_bB_0, c17_bB_1, c17_bB_2⟩ := bB.cells3
  obtain ⟨n6, d6, rfl, e6, f6⟩ := (id h6 : IsQ _ _ _)
  obtain ⟨A6, L6, C6, rfl⟩ := e6.frm
  obtain ⟨D6, M6, E6, rfl⟩ := f6.frm
  clear e6 f6
  obtain ⟨V6, eV, bC, bV6⟩ := box1 w6 80 #[.bool (decide (q2.num < 0)), .slice A6 L6 C6, .slice D6 M6 E6]
  obtain ⟨X6, eX⟩ : ∃ X, X = w6.heap.size := ⟨_, rfl⟩
  rw [← eX] at bC
  have EV6 := Lib.hid (And.intro eV eX)
  clear eV eX
  go_upto_region 9 with fail
  rw [← EV6.out.1, ← EV6.out.2]
  replace hv := hv.below bV6
  replace hA := hA.below bV6 hA.lt
  replace hR := hR.below bV6 hR.lt
  replace h1 := h1.below bV6
  replace bLo := bLo.below bV6 bLo.lt
  replace h2 := h2.below bV6
  replace bHi := bHi.below bV6 bHi.lt
  replace h3 := h3.below bV6
  replace bX := bX.below bV6 bX.lt
  replace h4 := h4.below bV6
  replace bY := bY.below bV6 bY.lt
  replace h5 := h5.below bV6
  replace bB := bB.below bV6 bB.lt
  replace h6 := h6.below bV6
  replace hB := hB.trans (bV6.mono hB.size)
  clear c17_hA_0 c17_hA_1 c17_hA_2 c17_hR_0 c17_hR_1 c17_bLo_0 c17_bLo_1 c17_bHi_0 c17_bHi_1 c17_bX_0 c17_bX_1 c17_bX_2 c17_bY_0 c17_bY_1 c17_bY_2 c17_bB_0 c17_bB_1 c17_bB_2
  obtain ⟨c18_hA_0, c18_hA_1, c18_hA_2⟩ := hA.cells3
  obtain ⟨c18_hR_0, c18_hR_1⟩ := hR.cells2
  obtain ⟨c18_bLo_0, c18_bLo_1⟩ := bLo.cells2
  obtain ⟨c18_bHi_0, c18_bHi_1⟩ := bHi.cells2
  obtain ⟨c18_bX_0, c18_bX_1, c18_bX_2⟩ := bX.cells3
  obtain ⟨c18_bY_0, c18_bY_1, c18_bY_2⟩ := bY.cells3
  obtain ⟨c18_bB_0, c18_bB_1, c18_bB_2⟩ := bB.cells3
  clear c18_hA_0 c18_hA_1 c18_hA_2 c18_hR_0 c18_hR_1 c18_bLo_0 c18_bLo_1 c18_bHi_0 c18_bHi_1 c18_bX_0 c18_bX_1 c18_bX_2 c18_bY_0 c18_bY_1 c18_bY_2 c18_bB_0 c18_bB_1 c18_bB_2
  obtain ⟨c19_hA_0, c19_hA_1, c19_hA_2⟩ := hA.cells3
  obtain ⟨c19_hR_0, c19_hR_1⟩ := hR.cells2
  obtain ⟨c19_bLo_0, c19_bLo_1⟩ := bLo.cells2
  obtain ⟨c19_bHi_0, c19_bHi_1⟩ := bHi.cells2
  obtain ⟨c19_bX_0, c19_bX_1, c19_bX_2⟩ := bX.cells3
  obtain ⟨c19_bY_0, c19_bY_1, c19_bY_2⟩ := bY.cells3
  obtain ⟨c19_bB_0, c19_bB_1, c19_bB_2⟩ := bB.cells3
  obtain ⟨c19_bC_0, c19_bC_1, c19_bC_2⟩ := bC.cells3
  go_wp2_with fail
  refine (hQ _ _ _ h5 h6).mono ?_
  rintro e w7 ⟨rfl, b7⟩
  replace hv := hv.below b7
  replace hA := hA.below b7 hA.lt
  replace hR := hR.below b7 hR.lt
  replace h1 := h1.below b7
  replace bLo := bLo.below b7 bLo.lt
  replace h2 := h2.below b7
  replace bHi := bHi.below b7 bHi.lt
  replace h3 := h3.below b7
  replace bX := bX.below b7 bX.lt
  replace h4 := h4.below b7
  replace bY := bY.below b7 bY.lt
  replace h5 := h5.below b7
  replace bB := bB.below b7 bB.lt
  replace h6 := h6.below b7
  replace bC := bC.below b7 bC.lt
  replace hB := hB.trans (b7.mono hB.size)
  clear c19_hA_0 c19_hA_1 c19_hA_2 c19_hR_0 c19_hR_1 c19_bLo_0 c19_bLo_1 c19_bHi_0 c19_bHi_1 c19_bX_0 c19_bX_1 c19_bX_2 c19_bY_0 c19_bY_1 c19_bY_2 c19_bB_0 c19_bB_1 c19_bB_2 c19_bC_0 c19_bC_1 c19_bC_2
  obtain ⟨c20_hA_0, c20_hA_1, c20_hA_2⟩ := hA.cells3
  obtain ⟨c20_hR_0, c20_hR_1⟩ := hR.cells2
  obtain ⟨c20_bLo_0, c20_bLo_1⟩ := bLo.cells2
  obtain ⟨c20_bHi_0, c20_bHi_1⟩ := bHi.cells2
  obtain ⟨c20_bX_0, c20_bX_1, c20_bX_2⟩ := bX.cells3
  obtain ⟨c20_bY_0, c20_bY_1, c20_bY_2⟩ := bY.cells3
  obtain ⟨c20_bB_0, c20_bB_1, c20_bB_2⟩ := bB.cells3
  obtain ⟨c20_bC_0, c20_bC_1, c20_bC_2⟩ := bC.cells3
  clear hF hC hX hY hS1 hS2 hQ
  rcases Int.lt_trichotomy c 0 with hc | hc | hc
  · have hBB : B = true := by rw [HL.out, decide_eq_true hc]; rfl
    have KEY := Lib.hid (KLO.out hBB)
    clear hBB
    obtain ⟨p1, p2, p3⟩ := put2 hR (.bool (decide (lo < 0))) (.slice A1 L1 C1) (by simp [noU]) hB (by omega)
    have q0 := hR.cell 0
    have z0 := hR.frozen 0
    have q1 := hR.cell 1
    have z1 := hR.frozen 1
    have P := Lib.hid (And.intro (KEY.out _ _ ⟨_, rfl, p2 _ _ (by obtain ⟨_, e, k⟩ := (id h1 : IsZ _ _ _); cases e; exact k)⟩) (And.intro p3 p1.cells2))
    clear p1 p2 p3 
    go_wp2_with fail
    obtain ⟨P1, P2, P3, P4⟩ := P.out
    exact bodyPost_ret (v := .tuple #[.agg #[.bool (decide (lo < 0)), .slice A1 L1 C1], .int .i64 0]) (by simp [results, Tryz.results77, go_sem, P3, P4]) rfl ⟨_, rfl, P1, P2⟩
  · rcases ev with _ | _
    · have hBB : B = false := by rw [HL.out, hc]; rfl
      have KEY := Lib.hid (KHI.out hBB)
      clear hBB
      subst hc
      go_wp2_with fail
      refine (hO _ _ h1).mono ?_
      rintro e w8 ⟨rfl, b8⟩
      replace hv := hv.below b8
      replace hA := hA.below b8 hA.lt
      replace hR := hR.below b8 hR.lt
      replace h1 := h1.below b8
      replace bLo := bLo.below b8 bLo.lt
      replace h2 := h2.below b8
      replace bHi := bHi.below b8 bHi.lt
      replace h3 := h3.below b8
      replace bX := bX.below b8 bX.lt
      replace h4 := h4.below b8
      replace bY := bY.below b8 bY.lt
      replace h5 := h5.below b8
      replace bB := bB.below b8 bB.lt
      replace h6 := h6.below b8
      replace bC := bC.below b8 bC.lt
      replace hB := hB.trans (b8.mono hB.size)
      clear c20_hA_0 c20_hA_1 c20_hA_2 c20_hR_0 c20_hR_1 c20_bLo_0 c20_bLo_1 c20_bHi_0 c20_bHi_1 c20_bX_0 c20_bX_1 c20_bX_2 c20_bY_0 c20_bY_1 c20_bY_2 c20_bB_0 c20_bB_1 c20_bB_2 c20_bC_0 c20_bC_1 c20_bC_2
      obtain ⟨c21_hA_0, c21_hA_1, c21_hA_2⟩ := hA.cells3
      obtain ⟨c21_hR_0, c21_hR_1⟩ := hR.cells2
      obtain ⟨c21_bLo_0, c21_bLo_1⟩ := bLo.cells2
      obtain ⟨c21_bHi_0, c21_bHi_1⟩ := bHi.cells2
      obtain ⟨c21_bX_0, c21_bX_1, c21_bX_2⟩ := bX.cells3
      obtain ⟨c21_bY_0, c21_bY_1, c21_bY_2⟩ := bY.cells3
      obtain ⟨c21_bB_0, c21_bB_1, c21_bB_2⟩ := bB.cells3
      obtain ⟨c21_bC_0, c21_bC_1, c21_bC_2⟩ := bC.cells3
      obtain ⟨p1, p2, p3⟩ := put2 hR (.bool (decide (hi < 0))) (.slice A2 L2 C2) (by simp [noU]) hB (by omega)
      have q0 := hR.cell 0
      have z0 := hR.frozen 0
      have q1 := hR.cell 1
      have z1 := hR.frozen 1
      have P := Lib.hid (And.intro (KEY.out _ _ ⟨_, rfl, p2 _ _ (by obtain ⟨_, e, k⟩ := (id h2 : IsZ _ _ _); cases e; exact k)⟩) (And.intro p3 p1.cells2))
      clear p1 p2 p3 
      go_wp2_with fail
      obtain ⟨P1, P2, P3, P4⟩ := P.out
      exact bodyPost_ret (v := .tuple #[.agg #[.bool (decide (hi < 0)), .slice A2 L2 C2], .int .i64 0]) (by simp [results, Tryz.results77, go_sem, P3, P4]) rfl ⟨_, rfl, P1, P2⟩
    · have hBB : B = true := by rw [HL.out, hc]; rfl
      have KEY := Lib.hid (KLO.out hBB)
      clear hBB
      subst hc
      go_wp2_with fail
      refine (hO _ _ h1).mono ?_
      rintro e w8 ⟨rfl, b8⟩
      replace hv := hv.below b8
      replace hA := hA.below b8 hA.lt
      replace hR := hR.below b8 hR.lt
      replace h1 := h1.below b8
      replace bLo := bLo.below b8 bLo.lt
      replace h2 := h2.below b8
      replace bHi := bHi.below b8 bHi.lt
      replace h3 := h3.below b8
      replace bX := bX.below b8 bX.lt
      replace h4 := h4.below b8
      replace bY := bY.below b8 bY.lt
      replace h5 := h5.below b8
      replace bB := bB.below b8 bB.lt
      replace h6 := h6.below b8
      replace bC := bC.below b8 bC.lt
      replace hB := hB.trans (b8.mono hB.size)
      clear c20_hA_0 c20_hA_1 c20_hA_2 c20_hR_0 c20_hR_1 c20_bLo_0 c20_bLo_1 c20_bHi_0 c20_bHi_1 c20_bX_0 c20_bX_1 c20_bX_2 c20_bY_0 c20_bY_1 c20_bY_2 c20_bB_0 c20_bB_1 c20_bB_2 c20_bC_0 c20_bC_1 c20_bC_2
      obtain ⟨c21_hA_0, c21_hA_1, c21_hA_2⟩ := hA.cells3
      obtain ⟨c21_hR_0, c21_hR_1⟩ := hR.cells2
      obtain ⟨c21_bLo_0, c21_bLo_1⟩ := bLo.cells2
      obtain ⟨c21_bHi_0, c21_bHi_1⟩ := bHi.cells2
      obtain ⟨c21_bX_0, c21_bX_1, c21_bX_2⟩ := bX.cells3
      obtain ⟨c21_bY_0, c21_bY_1, c21_bY_2⟩ := bY.cells3
      obtain ⟨c21_bB_0, c21_bB_1, c21_bB_2⟩ := bB.cells3
      obtain ⟨c21_bC_0, c21_bC_1, c21_bC_2⟩ := bC.cells3
      obtain ⟨p1, p2, p3⟩ := put2 hR (.bool (decide (lo < 0))) (.slice A1 L1 C1) (by simp [noU]) hB (by omega)
      have q0 := hR.cell 0
      have z0 := hR.frozen 0
      have q1 := hR.cell 1
      have z1 := hR.frozen 1
      have P := Lib.hid (And.intro (KEY.out _ _ ⟨_, rfl, p2 _ _ (by obtain ⟨_, e, k⟩ := (id h1 : IsZ _ _ _); cases e; exact k)⟩) (And.intro p3 p1.cells2))
      clear p1 p2 p3 
      go_wp2_with fail
      obtain ⟨P1, P2, P3, P4⟩ := P.out
      exact bodyPost_ret (v := .tuple #[.agg #[.bool (decide (lo < 0)), .slice A1 L1 C1], .int .i64 0]) (by simp [results, Tryz.results77, go_sem, P3, P4]) rfl ⟨_, rfl, P1, P2⟩
  · have hBB : B = false := by rw [HL.out, decide_eq_false (by omega), decide_eq_false (by omega)]; rfl
    have hc1 : decide (c < 0) = false := decide_eq_false (by omega)
    have hc2 : (c == 0) = false := by simp; omega
    have KEY := Lib.hid (KHI.out hBB)
    clear hBB
    obtain ⟨p1, p2, p3⟩ := put2 hR (.bool (decide (hi < 0))) (.slice A2 L2 C2) (by simp [noU]) hB (by omega)
    have q0 := hR.cell 0
    have z0 := hR.frozen 0
    have q1 := hR.cell 1
    have z1 := hR.frozen 1
    have P := Lib.hid (And.intro (KEY.out _ _ ⟨_, rfl, p2 _ _ (by obtain ⟨_, e, k⟩ := (id h2 : IsZ _ _ _); cases e; exact k)⟩) (And.intro p3 p1.cells2))
    clear p1 p2 p3 
    go_wp2_with fail
    obtain ⟨P1, P2, P3, P4⟩ := P.out
    exact bodyPost_ret (v := .tuple #[.agg #[.bool (decide (hi < 0)), .slice A2 L2 C2], .int .i64 0]) (by simp [results, Tryz.results77, go_sem, P3, P4]) rfl ⟨_, rfl, P1, P2⟩
end Go.Proofs.YtochabikpaoalaaGreat
namespace Go.Proofs.YtochabikpaoalaaGreat
/-- 64 bits hold it -/
def In64 (a : Int) : Prop := -9223372036854775808 ≤ a ∧ a ≤ 9223372036854775807
end Go.Proofs.YtochabikpaoalaaGreat
namespace Go.Proofs.YtochabikpaoalaaGreat
open Go.RowKit
attribute [local go_sem ↓] Go.wp_at_zero Go.wp_at_succ

set_option maxHeartbeats 2000000 in
theorem r08near_any (v : Value) (r : Rat) (k : Nat) (w : World) (h : IsQ w v r) (hk : k ≤ 2000) (sr : BQ r 100) :
    Calls Tryz.prog 56 #[v, .int .i64 k] w fun e w' => e = .returned (.tuple #[.int .i64 (fitV (nearQ r k)), .int .i64 (fitE (nearQ r k))]) ∧ Below w.heap.size w w' := by
  have hN := fun w h => qnear_any v r k w h hk sr
  have hI := fun u w h => rzint_any u (nearQ r k) w h
  have hv := h
  obtain ⟨pv, qv, rfl, hp, hq⟩ := h
  obtain ⟨Ap, Lp, Cp, rfl⟩ := hp.frm
  obtain ⟨Aq, Lq, Cq, rfl⟩ := hq.frm
  rw [fitE_eq]
  have hz : fitB (nearQ r k) = false → fitV (nearQ r k) = 0 := fun h => by
    unfold fitB at h; unfold fitV; rw [if_neg (by simpa using h)]
  generalize nearQ r k = z at *
  generalize fitV z = n at *
  generalize hb : fitB z = b at *
  clear hb hp hq sr
  rcases b with _ | _
  · have hz := hz rfl
    subst hz
    obtain ⟨W0, hW, hR, hB⟩ := box1 w 80 #[.bool (decide (r.num < 0)), .slice Ap Lp Cp, .slice Aq Lq Cq]
    obtain ⟨g, hg⟩ : ∃ g, g = w.heap.size := ⟨_, rfl⟩
    have hW' := Lib.hid (And.intro hW hg)
    rw [← hg] at hR
    have hgw : w.heap.size ≤ g := by omega
    clear hW hg
    have hA := hR
    replace hv := hv.below hB
    obtain ⟨c1_hA_0, c1_hA_1, c1_hA_2⟩ := hA.cells3
    go_enter Tryz.func56, Tryz.ntmps56
    go_wp2_with fail
    rw [← hW'.out.1, ← hW'.out.2]
    refine (hN _ hv).mono ?_
    rintro e w1 ⟨v1, rfl, h1, b1⟩
    replace hv := hv.below b1
    replace hA := hA.below b1 hA.lt
    replace hB := hB.trans (b1.mono hB.size)
    clear c1_hA_0 c1_hA_1 c1_hA_2
    obtain ⟨c2_hA_0, c2_hA_1, c2_hA_2⟩ := hA.cells3
    obtain ⟨n1, rfl, e1⟩ := (id h1 : IsZ _ _ _)
    obtain ⟨A1, L1, C1, rfl⟩ := e1.frm
    clear e1
    obtain ⟨V1, eV, bZ, bV1⟩ := box1 w1 78 #[.bool (decide (z < 0)), .slice A1 L1 C1]
    obtain ⟨X1, eX⟩ : ∃ X, X = w1.heap.size := ⟨_, rfl⟩
    rw [← eX] at bZ
    have EV1 := Lib.hid (And.intro eV eX)
    clear eV eX
    go_upto_region 2 with fail
    rw [← EV1.out.1, ← EV1.out.2]
    replace hv := hv.below bV1
    replace hA := hA.below bV1 hA.lt
    replace h1 := h1.below bV1
    replace hB := hB.trans (bV1.mono hB.size)
    clear c2_hA_0 c2_hA_1 c2_hA_2
    obtain ⟨c3_hA_0, c3_hA_1, c3_hA_2⟩ := hA.cells3
    clear c3_hA_0 c3_hA_1 c3_hA_2
    obtain ⟨c4_hA_0, c4_hA_1, c4_hA_2⟩ := hA.cells3
    obtain ⟨c4_bZ_0, c4_bZ_1⟩ := bZ.cells2
    go_wp2_with fail
    refine (hI _ _ h1).mono ?_
    rintro e w2 ⟨rfl, b2⟩
    replace hv := hv.below b2
    replace hA := hA.below b2 hA.lt
    replace h1 := h1.below b2
    replace bZ := bZ.below b2 bZ.lt
    replace hB := hB.trans (b2.mono hB.size)
    clear c4_hA_0 c4_hA_1 c4_hA_2 c4_bZ_0 c4_bZ_1
    obtain ⟨c5_hA_0, c5_hA_1, c5_hA_2⟩ := hA.cells3
    obtain ⟨c5_bZ_0, c5_bZ_1⟩ := bZ.cells2
    go_wp2
    go_ret2
    exact ⟨rfl, hB⟩
  · clear hz
    obtain ⟨W0, hW, hR, hB⟩ := box1 w 80 #[.bool (decide (r.num < 0)), .slice Ap Lp Cp, .slice Aq Lq Cq]
    obtain ⟨g, hg⟩ : ∃ g, g = w.heap.size := ⟨_, rfl⟩
    have hW' := Lib.hid (And.intro hW hg)
    rw [← hg] at hR
    have hgw : w.heap.size ≤ g := by omega
    clear hW hg
    have hA := hR
    replace hv := hv.below hB
    obtain ⟨c1_hA_0, c1_hA_1, c1_hA_2⟩ := hA.cells3
    go_enter Tryz.func56, Tryz.ntmps56
    go_wp2_with fail
    rw [← hW'.out.1, ← hW'.out.2]
    refine (hN _ hv).mono ?_
    rintro e w1 ⟨v1, rfl, h1, b1⟩
    replace hv := hv.below b1
    replace hA := hA.below b1 hA.lt
    replace hB := hB.trans (b1.mono hB.size)
    clear c1_hA_0 c1_hA_1 c1_hA_2
    obtain ⟨c2_hA_0, c2_hA_1, c2_hA_2⟩ := hA.cells3
    obtain ⟨n1, rfl, e1⟩ := (id h1 : IsZ _ _ _)
    obtain ⟨A1, L1, C1, rfl⟩ := e1.frm
    clear e1
    obtain ⟨V1, eV, bZ, bV1⟩ := box1 w1 78 #[.bool (decide (z < 0)), .slice A1 L1 C1]
    obtain ⟨X1, eX⟩ : ∃ X, X = w1.heap.size := ⟨_, rfl⟩
    rw [← eX] at bZ
    have EV1 := Lib.hid (And.intro eV eX)
    clear eV eX
    go_upto_region 2 with fail
    rw [← EV1.out.1, ← EV1.out.2]
    replace hv := hv.below bV1
    replace hA := hA.below bV1 hA.lt
    replace h1 := h1.below bV1
    replace hB := hB.trans (bV1.mono hB.size)
    clear c2_hA_0 c2_hA_1 c2_hA_2
    obtain ⟨c3_hA_0, c3_hA_1, c3_hA_2⟩ := hA.cells3
    clear c3_hA_0 c3_hA_1 c3_hA_2
    obtain ⟨c4_hA_0, c4_hA_1, c4_hA_2⟩ := hA.cells3
    obtain ⟨c4_bZ_0, c4_bZ_1⟩ := bZ.cells2
    go_wp2_with fail
    refine (hI _ _ h1).mono ?_
    rintro e w2 ⟨rfl, b2⟩
    replace hv := hv.below b2
    replace hA := hA.below b2 hA.lt
    replace h1 := h1.below b2
    replace bZ := bZ.below b2 bZ.lt
    replace hB := hB.trans (b2.mono hB.size)
    clear c4_hA_0 c4_hA_1 c4_hA_2 c4_bZ_0 c4_bZ_1
    obtain ⟨c5_hA_0, c5_hA_1, c5_hA_2⟩ := hA.cells3
    obtain ⟨c5_bZ_0, c5_bZ_1⟩ := bZ.cells2
    go_wp2
    go_ret2
    exact ⟨rfl, hB⟩
end Go.Proofs.YtochabikpaoalaaGreat
namespace Go.Proofs.YtochabikpaoalaaGreat
open Go.RowKit
attribute [local go_sem ↓] Go.wp_at_zero Go.wp_at_succ

theorem nearZ_ints (x n d : Int) (hd : 1 ≤ d) : nearQ (divQ ((x : Rat) * (n : Rat)) (d : Rat)) 0 = nearZ (x * n) d.toNat := by
  have e1 : (x : Rat) * (n : Rat) = ((x * n : Int) : Rat) := by rw [Rat.intCast_mul]
  rw [e1]
  unfold divQ
  rw [Rat.num_intCast, Rat.den_intCast, Rat.num_intCast, Rat.den_intCast, decide_eq_false (show ¬ d < 0 by omega)]
  rw [nearQ_mk _ _ _ (by omega)]
  rw [show sided false 1 = 1 from rfl, Int.mul_one, Nat.one_mul, Int.pow_zero, Int.mul_one, show d.natAbs = d.toNat by omega]
set_option maxHeartbeats 4000000 in
theorem r08scale_any (x n d : Int) (w : World) (hx : In64 x) (hn : In64 n) (hd : 1 ≤ d) (hd1 : d ≤ 9223372036854775807) :
    Calls Tryz.prog 42 #[.int .i64 x, .int .i64 n, .int .i64 d] w fun e w' => e = .returned (.tuple #[.int .i64 (fitV (nearZ (x * n) d.toNat)), .int .i64 (fitE (nearZ (x * n) d.toNat))]) ∧ Below w.heap.size w w' := by
  have hO1 := fun w => rqof_any x hx.1 hx.2 w
  have hO2 := fun w => rqof_any n hn.1 hn.2 w
  have hO3 := fun w => rqof_any d (by omega) hd1 w
  have s1 : BQ (x : Rat) 1 := BQ.int (by have := hx.1; have := hx.2; unfold W64; omega)
  have s2 : BQ (n : Rat) 1 := BQ.int (by have := hn.1; have := hn.2; unfold W64; omega)
  have s3 : BQ (d : Rat) 1 := BQ.int (by unfold W64; omega)
  have s4 := s1.mul s2
  have hM := fun u v w h1 h2 => rqmul_any u v (x : Rat) (n : Rat) w h1 h2 (s1.more (by omega)) (s2.more (by omega))
  have hD := fun u v w h1 h2 => rqdiv_any u v ((x : Rat) * (n : Rat)) (d : Rat) w h1 h2 (s4.more (by omega)) (s3.more (by omega)) (by rw [Rat.num_intCast]; omega)
  have s5 : BQ (divQ ((x : Rat) * (n : Rat)) (d : Rat)) 20 := by
    unfold divQ
    refine BQ.mk ((s4.1.imul (m := 1) ?_).more (by omega)) ((s4.2.mul s3.1).more (by omega)) (by omega)
    rw [Rat.num_intCast, decide_eq_false (show ¬ d < 0 by omega)]
    exact s3.2
  have hN := fun u w h => r08near_any u (divQ ((x : Rat) * (n : Rat)) (d : Rat)) 0 w h (by omega) (s5.more (by omega))
  rw [nearZ_ints x n d hd] at hN
  generalize nearZ (x * n) d.toNat = z at *
  generalize divQ ((x : Rat) * (n : Rat)) (d : Rat) = q at *
  generalize (x : Rat) * (n : Rat) = p at *
  generalize (x : Rat) = xq at *
  generalize (n : Rat) = nq at *
  generalize (d : Rat) = dq at *
  have hd2 : decide (d < 1) = false := decide_eq_false (by omega)
  clear s1 s2 s3 s4 s5 hx hn
  have hB := Below.refl w.heap.size w
  go_enter Tryz.func42, Tryz.ntmps42
  go_wp2_with fail
  refine (hO1 _).mono ?_
  rintro e w1 ⟨v1, rfl, h1, b1⟩
  replace hB := hB.trans (b1.mono hB.size)
  go_wp2_with fail
  refine (hO2 _).mono ?_
  rintro e w2 ⟨v2, rfl, h2, b2⟩
  replace h1 := h1.below b2
  replace hB := hB.trans (b2.mono hB.size)
  go_wp2_with fail
  refine (hM _ _ _ h1 h2).mono ?_
  rintro e w3 ⟨v3, rfl, h3, b3⟩
  replace h1 := h1.below b3
  replace h2 := h2.below b3
  replace hB := hB.trans (b3.mono hB.size)
  go_wp2_with fail
  refine (hO3 _).mono ?_
  rintro e w4 ⟨v4, rfl, h4, b4⟩
  replace h1 := h1.below b4
  replace h2 := h2.below b4
  replace h3 := h3.below b4
  replace hB := hB.trans (b4.mono hB.size)
  go_wp2_with fail
  refine (hD _ _ _ h3 h4).mono ?_
  rintro e w5 ⟨v5, rfl, h5, b5⟩
  replace h1 := h1.below b5
  replace h2 := h2.below b5
  replace h3 := h3.below b5
  replace h4 := h4.below b5
  replace hB := hB.trans (b5.mono hB.size)
  obtain ⟨n5, d5, rfl, e5, f5⟩ := (id h5 : IsQ _ _ _)
  obtain ⟨A5, L5, C5, rfl⟩ := e5.frm
  obtain ⟨D5, M5, E5, rfl⟩ := f5.frm
  clear e5 f5
  obtain ⟨V1, eV, bX, bV1⟩ := box1 w5 80 #[.bool (decide (q.num < 0)), .slice A5 L5 C5, .slice D5 M5 E5]
  obtain ⟨X1, eX⟩ : ∃ X, X = w5.heap.size := ⟨_, rfl⟩
  rw [← eX] at bX
  have EV1 := Lib.hid (And.intro eV eX)
  clear eV eX
  go_upto_region 4 with fail
  rw [← EV1.out.1, ← EV1.out.2]
  replace h5 := h5.below bV1
  replace hB := hB.trans (bV1.mono hB.size)
  obtain ⟨c7_bX_0, c7_bX_1, c7_bX_2⟩ := bX.cells3
  go_wp2_with fail
  refine (hN _ _ h5).mono ?_
  rintro e w6 ⟨rfl, b6⟩
  replace h5 := h5.below b6
  replace bX := bX.below b6 bX.lt
  replace hB := hB.trans (b6.mono hB.size)
  clear c7_bX_0 c7_bX_1 c7_bX_2
  obtain ⟨c8_bX_0, c8_bX_1, c8_bX_2⟩ := bX.cells3
  go_wp2
  go_ret2
  exact ⟨rfl, hB⟩
end Go.Proofs.YtochabikpaoalaaGreat
namespace Go.Proofs.YtochabikpaoalaaGreat
open Go.RowKit
attribute [local go_sem ↓] Go.wp_at_zero Go.wp_at_succ

set_option maxRecDepth 100000 in
set_option maxHeartbeats 4000000 in
theorem rload_wide (v : Value) (s : Int) (cs : List Nat) (wd : List Int) (w : World) (h : IsBk w v 4 s cs wd) (hl : wd.length ≤ 1000000) :
    Calls Tryz.prog 33 #[v] w fun e w' => ∃ v', e = .returned v' ∧ IsI w' v' wd ∧ Below w.heap.size w w' := by
  obtain ⟨i0, hi, hz0, hz1, hz2⟩ := info_parts info_i64
  obtain ⟨a, b, rfl, ha, hb⟩ := h
  obtain ⟨Aa, Ca, rfl, _, _⟩ := ha.form
  obtain ⟨Ab, Cb, rfl, _, _⟩ := id hb.form
  obtain ⟨W0, hW, hR, hB⟩ := box1 w 43 #[.int .i64 4, .int .i64 s, .slice Aa cs.length Ca, .slice Ab wd.length Cb]
  obtain ⟨g, hg⟩ : ∃ g, g = w.heap.size := ⟨_, rfl⟩
  have hW' := Lib.hid (And.intro hW hg)
  rw [← hg] at hR
  have hgw : w.heap.size ≤ g := by omega
  clear hW hg
  skip
  replace hb := hb.below hB
  obtain ⟨c1_hR_0, c1_hR_1, c1_hR_2, c1_hR_3⟩ := hR.quad
  go_enter Tryz.func33, Tryz.ntmps33
  have hown := World.ownsRow_lit W0 #[] 0 (base := W0.heap.size) (e := 2) (size := 1) (Nat.le_refl _) (by unfold maxLen; omega) rfl
  obtain ⟨A9, C9, e9, k1, k2, hr⟩ := hb
  injection e9 with e9a e9b e9c
  subst e9a e9c
  obtain ⟨d0, d1, d2, d3⟩ := (hR.alloc (.cells #[] 2)).quad
  go_upto_region 2 with fail
  rw [← hW'.out.1, ← hW'.out.2]
  go_wp2_with (at_builtin; refine wpList_append_any _ rfl (.tmp 12) (.tmp 14) _ rfl W0.heap.size 2 i0 _ 1 8 Tryz.underlying34 hi hz0 hz1 hz2 rfl (by omega) _ 0 [] rfl hown W0.heap.size Ab wd.length Cb (is wd) rfl (hr.alloc (Nat.le_refl _) _) (is_one _) (by unfold maxLen; omega) (by omega) (by simp) ?_; intro v' w' hown' hgrow hat)
  go_ret
  rw [Nat.zero_add, List.nil_append] at hown'
  exact ⟨_, rfl, IsI.of_own hown', hB.trans ((((Below.refl _ W0).alloc (Nat.le_refl _) _).grown hgrow (by simp) (fun g e => by cases e; exact Nat.le_refl _)).mono hB.size)⟩
set_option maxRecDepth 100000 in
set_option maxHeartbeats 8000000 in
theorem rload_coded (v : Value) (n : Nat) (s : Int) (cs : List Nat) (wd : List Int) (w : World) (hn : n < 4) (hs0 : 0 ≤ s) (hs1 : s ≤ 9223372036854775807) (hcl : cs.length ≤ 1000000) (h : IsBk w v n s cs wd) :
    Calls Tryz.prog 33 #[v] w fun e w' => ∃ v', e = .returned v' ∧ IsI w' v' (loadC n s cs) ∧ Below w.heap.size w w' := by
  obtain ⟨i0, hi, hz0, hz1, hz2⟩ := info_parts info_i64
  obtain ⟨a, b, rfl, ha, hb⟩ := h
  obtain ⟨Aa, Ca, rfl, _, _⟩ := id ha.form
  have HBy := Lib.hid ha.by_
  have hB0 := fun w => rbook_any n w
  rw [show bke n = 0 from if_pos (by omega), bkz_nat n hn] at hB0
  have hD := fun w => rden_any n w
  have hlen := bk_len n hn
  have hden := dens n hn
  have hSc : ∀ c, c < 256 → ∀ w, Calls Tryz.prog 42 #[.int .i64 s, .int .i64 (iat (bk n) c), .int .i64 (den (n : Nat))] w fun e w' => e = .returned (.tuple #[.int .i64 (loadZ n s c), .int .i64 (fitE (loadZ n s c))]) ∧ Below w.heap.size w w' := by
    intro c hc w
    obtain ⟨l1, l2, _⟩ := loadZ_le hn hs0 hc
    have hi := bk_in hn c
    have := r08scale_any s (iat (bk n) c) (den (n : Nat)) w (by unfold In64; omega) (by unfold In64; omega) (by omega) (by omega)
    rw [show nearZ (s * iat (bk n) c) (den (n : Nat)).toNat = loadZ n s c from rfl, (fit_in (z := loadZ n s c) (by omega)).1] at this
    exact this
  have hk4 : ((n : Int) == 4) = false := by rw [beq_eq_false_iff_ne]; omega
  have hk5 : decide ((n : Int) = 4) = false := decide_eq_false (by omega)
  generalize den (n : Nat) = D at *
  clear hden hs0 hs1 hb
  obtain ⟨W0, hW, hR, hB⟩ := box1 w 43 #[.int .i64 n, .int .i64 s, .slice Aa cs.length Ca, b]
  obtain ⟨g, hg⟩ : ∃ g, g = w.heap.size := ⟨_, rfl⟩
  have hW' := Lib.hid (And.intro hW hg)
  rw [← hg] at hR
  have hgw : w.heap.size ≤ g := by omega
  clear hW hg
  skip
  replace ha := ha.below hB
  obtain ⟨c1_hR_0, c1_hR_1, c1_hR_2, c1_hR_3⟩ := hR.quad
  go_enter Tryz.func33, Tryz.ntmps33
  go_wp2_with fail
  rw [← hW'.out.1, ← hW'.out.2]
  refine (hB0 _).mono ?_
  rintro e w1 ⟨v1, rfl, hL, b1⟩
  replace ha := ha.below b1
  replace hR := hR.below b1 hR.lt
  replace hB := hB.trans (b1.mono hB.size)
  clear c1_hR_0 c1_hR_1 c1_hR_2 c1_hR_3
  obtain ⟨c2_hR_0, c2_hR_1, c2_hR_2, c2_hR_3⟩ := hR.quad
  obtain ⟨A1, C1, rfl, _, _⟩ := id hL.form
  rw [hlen] at hL ⊢
  obtain ⟨V1, eV, hV, bV1⟩ : ∃ V, V = w1.alloc (.cells #[] 2) ∧ V.ownsRow w1.heap.size 2 1 (.slice (some ⟨w1.heap.size, 0, none⟩) 0 0) 0 (is []) ∧ Below w1.heap.size w1 V := ⟨_, rfl, World.ownsRow_lit w1 #[] 0 (Nat.le_refl _) (by unfold maxLen; omega) rfl, (Below.refl _ _).alloc (Nat.le_refl _) _⟩
  obtain ⟨X, eX⟩ : ∃ X, X = w1.heap.size := ⟨_, rfl⟩
  have EV1 := Lib.hid (And.intro eV eX)
  have hbX : w1.heap.size = X := eX.symm
  rw [hbX] at hV
  have hXs : w1.heap.size ≤ X := by omega
  clear eV
  clear hbX eX
  go_wp2
  rw [← EV1.out.1, ← EV1.out.2]
  clear c2_hR_0 c2_hR_1 c2_hR_2 c2_hR_3
  go_loopw [5, 6] (fun a i wr => ∃ j : Nat, i = .int .i64 j ∧ j ≤ cs.length ∧ wr.ownsRow X 2 1 a j (is (loadC n s (cs.take j))) ∧ Below w1.heap.size w1 wr) (fun _ i _ => cs.length - (intOf i).toNat)
  case atStart => exact ⟨0, rfl, by omega, hV, bV1⟩
  case round =>
    clear hV bV1
    obtain ⟨j, rfl, hj, hown, bX⟩ := hrel
    have hR9 := hR.below bX hR.lt
    obtain ⟨x0, x1, x2, x3⟩ := hR9.quad
    by_cases hlt : j < cs.length
    · obtain ⟨adc, rfl, hc⟩ := (ha.below bX).at_ hlt
      have hc0 := hc
      have hc2 := HBy.out.at_ j
      obtain ⟨adl, rfl, hc3⟩ := hL.at_ (k := yat cs j) (by rw [hlen]; exact hc2)
      have HS := Lib.hid (yat_snoc_take cs j hlt)
      have HSc := hSc _ hc2
      have i0 : (0 : Int) ≤ (j : Int) := by omega
      have i1 : (j : Int) < (cs.length : Int) := by omega
      have i2 : (0 : Int) ≤ (yat cs j : Int) := by omega
      have i3 : (yat cs j : Int) < 256 := by omega
      have hH : ∀ w', Below wr.heap.size wr w' → w'.cell? ⟨g, 0, none⟩ = some (.int .i64 n) ∧ w'.cell? ⟨g, 1, none⟩ = some (.int .i64 s) ∧ w'.cell? ⟨g, 2, none⟩ = some (.slice (some adc) cs.length Ca) ∧ w'.cell? (adc.add j) = some (.int .u8 (yat cs j : Nat)) ∧ w'.cell? (adl.add (yat cs j)) = some (.int .i64 (iat (bk n) (yat cs j))) := fun w' h => ⟨cellB h x0, cellB h x1, cellB h x2, cellB h hc0, cellB h (cellB bX hc3)⟩
      generalize iat (bk n) (yat cs j) = L at *
      generalize hz : loadZ n s (yat cs j) = z at *
      have HZ := Lib.hid hz
      clear hz
      generalize fitE z = ez at *
      generalize yat cs j = c at *
      have b0 := bdrew wr
      go_upto_region 8 with fail
      go_cut [7] (fun q wx => q = .int .i64 z ∧ Below wr.heap.size wr wx)
      case first =>
        go_region_held3 (fun w' => w'.cell? ⟨g, 0, none⟩ = some (.int .i64 n) ∧ w'.cell? ⟨g, 1, none⟩ = some (.int .i64 s) ∧ w'.cell? ⟨g, 2, none⟩ = some (.slice (some adc) cs.length Ca) ∧ w'.cell? (adc.add j) = some (.int .u8 (c : Nat)) ∧ w'.cell? (adl.add c) = some (.int .i64 L))
          (first | exact hH _ b0 | exact hH _ (by assumption))
          (first
            | (go_at_call 43; refine (hD _).mono ?_; rintro x w8 ⟨rfl, rfl⟩)
            | (go_at_call 42; refine (HSc _).mono ?_; rintro x w9 ⟨rfl, b9⟩; have b10 := b0.trans (b9.mono b0.size)))
        all_goals (go_wp2_with fail; go_meet)
        all_goals exact ⟨rfl, b10⟩
      obtain ⟨rfl, bz⟩ := hcut
      have own9 := own_below hown bz
      have bl9 := bX.trans (bz.mono bX.size)
      have hbs : X ≤ wc.heap.size + 1 := by have := bl9.size; have := EV1.out.2; omega
      go_wp2_with (at_builtin; go_must (refine wpList_app1 _ rfl _ _ 34 2 (.int .i64 0) 8 rfl Tryz.underlying34 info_i64 rfl X (.int .i64 z) rfl _ j _ rfl (own9.alloc _) ⟨wc.heap.size, 0, none⟩ rfl (by simp) (by omega) (by omega) (by simp; exact hbs) ?_; intro v' w2 hown' hgrow; obtain ⟨g', cap', rfl⟩ := ownsRow_succ hown'))
      have bl2 := ((bl9.alloc bl9.size (.cells #[.int .i64 z] 2)).grown hgrow (by simp; have := bl9.size; omega) (fun j e => by have := (own9.lt j e).1; have := EV1.out.2; omega))
      refine ⟨⟨j + 1, by go_num, by omega, ?_, bl2⟩, by simp [intOf]; omega⟩
      have e : is (loadC n s (cs.take (j + 1))) = is (loadC n s (cs.take j)) ++ [.int .i64 z] := by rw [HS.out]; unfold loadC; rw [List.map_append, List.map_singleton, HZ.out, is_snoc]
      rw [e]
      exact hown'
    · obtain rfl : j = cs.length := by omega
      rw [List.take_length] at hown
      have hlc : (loadC n s cs).length = cs.length := by unfold loadC; rw [List.length_map]
      rw [← hlc] at hown
      have hI := IsI.of_own hown
      obtain ⟨A5, C5, rfl, _, _⟩ := id hI.form
      go_wp2
      go_ret
      exact ⟨_, rfl, hI, hB.trans (bX.mono hB.size)⟩
end Go.Proofs.YtochabikpaoalaaGreat
