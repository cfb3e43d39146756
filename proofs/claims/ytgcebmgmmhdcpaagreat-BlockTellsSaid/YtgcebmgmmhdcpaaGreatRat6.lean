/- The document's rationals: quotients. Printed by gen_div05.py. -/
import Derived.Test.YtgcebmgmmhdcpaaGreatRat2
namespace Go.Proofs.YtgcebmgmmhdcpaaGreat
open Go.RowKit
attribute [local go_sem ↓] Go.wp_at_zero Go.wp_at_succ

/-- a quotient, before it is reduced -/
def divQ (a b : Rat) : Rat := mkRat (a.num * sided (decide (b.num < 0)) b.den) (a.den * b.num.natAbs)
set_option maxHeartbeats 8000000 in
theorem rqdiv_any (va vb : Value) (a b : Rat) (w : World) (ha : IsQ w va a) (hb : IsQ w vb b) (sa : BQ a 10000) (sb : BQ b 10000) (h0 : b.num ≠ 0) :
    Calls Tryz.prog 50 #[va, vb] w fun e w' => ∃ v', e = .returned (.tuple #[v', .int .i64 0]) ∧ IsQ w' v' (divQ a b) ∧ Below w.heap.size w w' := by
  have hda : 0 < a.den := Rat.den_pos a
  have hdb : 0 < b.den := Rat.den_pos b
  have hnb : 0 < b.num.natAbs := by omega
  obtain ⟨pa, qa, rfl, hpa, hqa⟩ := ha
  have hza : IsZ w (.agg #[.bool (decide (a.num < 0)), pa]) a.num := ⟨_, rfl, hpa⟩
  obtain ⟨pb, qb, rfl, hpb, hqb⟩ := hb
  have hzb : IsZ w (.agg #[.bool (decide (b.num < 0)), pb]) b.num := ⟨_, rfl, hpb⟩
  obtain ⟨Ap, Lp, Cp, rfl, hLp⟩ := hpb.pos hnb
  obtain ⟨Aq, Lq, Cq, rfl⟩ := hqb.frm
  obtain ⟨c2, hc2⟩ : ∃ c2, c2 = sided (decide (b.num < 0)) b.den := ⟨_, rfl⟩
  have hc3 : decide (c2 < 0) = decide (b.num < 0) ∧ c2.natAbs = b.den := by
    rw [hc2]; unfold sided
    cases h : decide (b.num < 0)
    · simp
    · simp; omega
  have hzc : IsZ w (.agg #[.bool (decide (b.num < 0)), .slice Aq Lq Cq]) c2 := ⟨_, by rw [hc3.1], by rw [hc3.2]; exact hqb⟩
  have hA := fun w hu hv => rzmul_any (.agg #[.bool (decide (a.num < 0)), pa]) (.agg #[.bool (decide (b.num < 0)), .slice Aq Lq Cq]) a.num c2 w hu hv (sa.1.more (by omega)) (by rw [hc3.2]; exact sb.2.more (by omega))
  have hM := fun w hu hv => rmul_any qa (.slice Ap Lp Cp) a.den b.num.natAbs w hu hv (sa.2.fin (by omega)) (sb.1.fin (by omega))
  have s2 : Sz c2.natAbs 10000 := by rw [hc3.2]; exact sb.2
  have hK := fun u v w hu hv => rqmake_any u v (a.num * c2) (a.den * b.num.natAbs) w hu hv ((sa.1.imul s2).more (by omega)) ((sa.2.mul sb.1).more (by omega)) (Nat.mul_pos hda hnb)
  have hr : divQ a b = mkRat (a.num * c2) (a.den * b.num.natAbs) := by unfold divQ; rw [hc2]
  rw [← hr] at hK
  clear hr hc2 hc3 s2 hzb
  generalize divQ a b = r at *
  generalize a.num * c2 = m3 at *
  generalize a.den * b.num.natAbs = d at *
  generalize a.num = na at *
  generalize b.num = nb at *
  generalize a.den = da at *
  generalize b.den = db at *
  clear hpa hqb sa sb hda hdb h0 hnb
  generalize decide (na < 0) = sa at *
  generalize decide (nb < 0) = sb at *
  have hL1 : ((Lp : Int) == 0) = false := by rw [beq_eq_false_iff_ne]; omega
  have hL2 : decide (Lp = 0) = false := decide_eq_false (by omega)
  obtain ⟨W0, hW, hT, hR, hB⟩ := box3 w 74 74 74 #[.bool sa, pa, qa] #[.bool sb, .slice Ap Lp Cp, .slice Aq Lq Cq] #[.bool false, .slice none 0 0, .slice none 0 0]
  obtain ⟨g, hg⟩ : ∃ g, g = w.heap.size := ⟨_, rfl⟩
  have hW' := Lib.hid (And.intro hW hg)
  rw [← hg] at hT hR
  clear hW hg
  have hza := hza.below hB
  have hzc := hzc.below hB
  have hqa := hqa.below hB
  have hpb := hpb.below hB
  have hgw : w.heap.size ≤ g := by rw [hW'.out.2]; omega
  obtain ⟨k0, k1, k2, k3, k4, k5⟩ := hT.cells33
  go_enter Tryz.func50, Tryz.ntmps50
  go_upto_region 3 with fail
  rw [← hW'.out.1, ← hW'.out.2]
  clear k0 k1 k2 k3 k4 k5
  go_region_held3 (fun w' => w'.cell? ⟨g, 0, none⟩ = some (.bool sa) ∧ w'.cell? ⟨g, 1, none⟩ = some pa ∧ w'.cell? ⟨g, 2, none⟩ = some qa ∧ w'.cell? ⟨g + 1, 0, none⟩ = some (.bool sb) ∧ w'.cell? ⟨g + 1, 1, none⟩ = some (.slice Ap Lp Cp) ∧ w'.cell? ⟨g + 1, 2, none⟩ = some (.slice Aq Lq Cq)) (first | exact Two.cells33 (hT.below (by first | assumption | exact balloc (by assumption) _ | exact bdrew _ | exact balloc (bdrew _) _) hT.lt) | exact Two.cells33 (Two.far3 (hT.below (by first | assumption | exact balloc (by assumption) _ | exact bdrew _ | exact balloc (bdrew _) _) hT.lt) _ _ _))
    (first
      | (go_at_call 26; (with_reducible refine (hA _ ?_ ?_).mono ?_); exact hza.below (by first | assumption | exact balloc (by assumption) _ | exact bdrew _ | exact balloc (bdrew _) _); exact hzc.below (by first | assumption | exact balloc (by assumption) _ | exact bdrew _ | exact balloc (bdrew _) _); rintro x w3 ⟨v3, rfl, h3, b3⟩; have B3 := bstep (a := W0) (by first | assumption | exact balloc (by assumption) _ | exact bdrew _ | exact balloc (bdrew _) _) b3)
      | (go_at_call 47; (with_reducible refine (hM _ ?_ ?_).mono ?_); exact hqa.below (by first | assumption | exact balloc (by assumption) _ | exact bdrew _ | exact balloc (bdrew _) _); exact hpb.below (by first | assumption | exact balloc (by assumption) _ | exact bdrew _ | exact balloc (bdrew _) _); rintro x w4 ⟨v4, rfl, h4, b4⟩; have B4 := bstep (a := W0) (by first | assumption | exact balloc (by assumption) _ | exact bdrew _ | exact balloc (bdrew _) _) b4; have h3 := h3.below (by first | exact b4 | exact bstep (balloc (Below.refl _ _) _) b4))
      | (go_at_call 72; (with_reducible refine (hK _ _ _ ?_ ?_).mono ?_); exact h3.below (by first | exact Below.refl _ _ | exact balloc (Below.refl _ _) _); exact h4.below (by first | exact Below.refl _ _ | exact balloc (Below.refl _ _) _); rintro x w5 ⟨v5, rfl, ⟨n5, d5, rfl, h5, k5⟩, b5⟩; have B5 := bstep (a := W0) (by first | assumption | exact balloc (by assumption) _ | exact bdrew _ | exact balloc (bdrew _) _) b5; obtain ⟨A1, L1, C1, rfl⟩ := h5.frm; obtain ⟨A2, L2, C2, rfl⟩ := k5.frm; have hR1 := hR.below B5 hR.lt; have q0 := hR1.cell 0; have q1 := hR1.cell 1; have q2 := hR1.cell 2; have z0 := hR1.frozen 0; have z1 := hR1.frozen 1; have z2 := hR1.frozen 2))
  obtain ⟨p1, p2, p3⟩ := put3 hR1 (.bool (decide (r.num < 0))) (.slice A1 L1 C1) (.slice A2 L2 C2) (by simp [noU]) (hB.trans (B5.mono hB.size)) (by rw [hW'.out.2]; omega)
  have q0 := hR1.cell 0
  have z0 := hR1.frozen 0
  have q1 := hR1.cell 1
  have z1 := hR1.frozen 1
  have q2 := hR1.cell 2
  have z2 := hR1.frozen 2
  have P := Lib.hid (And.intro (⟨_, _, rfl, p2 _ _ h5, p2 _ _ k5⟩ : IsQ _ (.agg #[.bool (decide (r.num < 0)), .slice A1 L1 C1, .slice A2 L2 C2]) r) (And.intro p3 p1.cells3))
  clear p1 p2 p3 
  go_wp2
  obtain ⟨P1, P2, P3, P4, P5⟩ := P.out
  exact bodyPost_ret (v := .tuple #[.agg #[.bool (decide (r.num < 0)), .slice A1 L1 C1, .slice A2 L2 C2], .int .i64 0]) (by simp [results, Tryz.results50, go_sem, P3, P4, P5, q0, q1, q2]) rfl ⟨_, rfl, P1, P2⟩
end Go.Proofs.YtgcebmgmmhdcpaaGreat
