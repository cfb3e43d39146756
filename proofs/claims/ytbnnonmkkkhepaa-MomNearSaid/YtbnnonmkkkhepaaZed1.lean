/- The document's integers: the other way round, products, small ones. -/
import Derived.Test.YtbnnonmkkkhepaaBox
namespace Go.Proofs.Ytbnnonmkkkhepaa
open Go.RowKit
attribute [local go_sem ↓] Go.wp_at_zero Go.wp_at_succ

set_option maxHeartbeats 1000000 in
theorem rzneg_any (v : Value) (z : Int) (w : World) (h : IsZ w v z) :
    Calls Try.prog 58 #[v] w fun e w' => ∃ v', e = .returned v' ∧ IsZ w' v' (-z) ∧ Below w.heap.size w w' := by
  obtain ⟨nv, rfl, hn⟩ := h
  have hM := fun w hn => rmade_any (!decide (z < 0)) nv z.natAbs w hn
  have hz : sided (!decide (z < 0)) z.natAbs = -z := by
    unfold sided; by_cases h : z < 0 <;> simp [h] <;> omega
  rw [hz] at hM
  obtain ⟨c, hc⟩ : ∃ c, c = -z := ⟨_, rfl⟩
  rw [← hc] at hM ⊢
  clear hz hc
  generalize decide (z < 0) = b at *
  generalize z.natAbs = n at *
  obtain ⟨W0, hW, hT, hB⟩ := box2 w 38 38 #[.bool b, nv] #[.bool false, .slice none 0 0]
  have hn := hn.below hB
  obtain ⟨g, hg⟩ : ∃ g, g = w.heap.size := ⟨_, rfl⟩
  have hW' := Lib.hid (And.intro hW hg)
  rw [← hg] at hT
  clear hW hg
  go_enter Try.func58, Try.ntmps58
  go_wp2_with fail
  rw [← hW'.out.1, ← hW'.out.2]
  refine (hM _ hn).mono ?_
  rintro e w1 ⟨v1, rfl, ⟨n1, rfl, h1⟩, b1⟩
  obtain ⟨A1, L1, C1, rfl⟩ := h1.frm
  have hT := hT.below b1 hT.lt
  have hB := hB.trans (b1.mono hB.size)
  have hR := hT.2
  have q0 := hR.cell 0
  have q1 := hR.cell 1
  have z0 := hR.frozen 0
  have z1 := hR.frozen 1
  obtain ⟨p1, p2, p3⟩ := put2 hR (.bool (decide (c < 0))) (.slice A1 L1 C1) (by simp [noU]) hB (by rw [hW'.out.2]; omega)
  have P := Lib.hid (And.intro (p2 _ _ h1) p3)
  clear p1 p2 p3 hR hM
  go_wp2
  exact bodyPost_ret (v := .agg #[.bool (decide (c < 0)), .slice A1 L1 C1]) (by simp [results, Try.results58, go_sem, q0, q1]) rfl ⟨_, rfl, ⟨_, rfl, P.out.1⟩, P.out.2⟩

theorem sided_mul (s1 s2 : Bool) (x y : Nat) : sided s1 x * sided s2 y = sided (s1 != s2) (x * y) := by
  cases s1 <;> cases s2 <;> simp [sided, Int.neg_mul, Int.mul_neg]
theorem mul_sided (a b : Int) : sided (decide (a < 0) != decide (b < 0)) (a.natAbs * b.natAbs) = a * b := by
  rw [← sided_mul, sided_of, sided_of]
set_option maxHeartbeats 2000000 in
theorem rzmul_any (va vb : Value) (a b : Int) (w : World) (ha : IsZ w va a) (hb : IsZ w vb b) (sa : Sz a.natAbs 400000) (sb : Sz b.natAbs 400000) :
    Calls Try.prog 31 #[va, vb] w fun e w' => ∃ v', e = .returned v' ∧ IsZ w' v' (a * b) ∧ Below w.heap.size w w' := by
  obtain ⟨na, rfl, ha⟩ := ha
  obtain ⟨nb, rfl, hb⟩ := hb
  have hMul := fun w ha hb => rmul_any na nb a.natAbs b.natAbs w ha hb (sa.fin (by omega)) (sb.fin (by omega))
  have hM := fun v w hn => rmade_any (decide (a < 0) != decide (b < 0)) v (a.natAbs * b.natAbs) w hn
  have hz := mul_sided a b
  rw [hz] at hM
  obtain ⟨c, hc⟩ : ∃ c, c = a * b := ⟨_, rfl⟩
  rw [← hc] at hM ⊢
  clear hz hc
  generalize decide (a < 0) = s1 at *
  generalize decide (b < 0) = s2 at *
  generalize a.natAbs * b.natAbs = n at *
  generalize a.natAbs = x at *
  generalize b.natAbs = y at *
  obtain ⟨W0, hW, hT, hR, hB⟩ := box3 w 38 38 38 #[.bool s1, na] #[.bool s2, nb] #[.bool false, .slice none 0 0]
  have ha := ha.below hB
  have hb := hb.below hB
  obtain ⟨g, hg⟩ : ∃ g, g = w.heap.size := ⟨_, rfl⟩
  have hW' := Lib.hid (And.intro hW hg)
  rw [← hg] at hT hR
  clear hW hg
  go_enter Try.func31, Try.ntmps31
  go_wp2
  rw [← hW'.out.1, ← hW'.out.2]
  go_region_held3 (fun w' => w'.cell? ⟨g, 0, none⟩ = some (.bool s1) ∧ w'.cell? ⟨g, 1, none⟩ = some na ∧ w'.cell? ⟨g + 1, 0, none⟩ = some (.bool s2) ∧ w'.cell? ⟨g + 1, 1, none⟩ = some nb) (first | exact Two.cells22 (by assumption) | exact Two.cells22 (Two.far2 (by assumption) _ _))
    (first
      | (go_at_call 30; refine (hMul _ ?_ ?_).mono ?_; exact ha; exact hb; rintro x w1 ⟨v1, rfl, h1, b1⟩; have b1 := undrew b1; have hT1 := hT.below b1 hT.lt; have hR1 := hR.below b1 hR.lt; have hB1 := hB.trans (b1.mono hB.size))
      | (go_at_call 47; refine (hM _ _ ?_).mono ?_; exact h1; rintro x w2 ⟨v2, rfl, ⟨n2, rfl, h2⟩, b2⟩; obtain ⟨A2, L2, C2, rfl⟩ := h2.frm; have hT2 := hT1.below b2 hT1.lt; have hR2 := hR1.below b2 hR1.lt; have hB2 := hB1.trans (b2.mono hB1.size); have q0 := hR2.cell 0; have q1 := hR2.cell 1; have z0 := hR2.frozen 0; have z1 := hR2.frozen 1))
  obtain ⟨p1, p2, p3⟩ := put2 hR2 (.bool (decide (c < 0))) (.slice A2 L2 C2) (by simp [noU]) hB2 (by rw [hW'.out.2]; omega)
  have P := Lib.hid (And.intro (p2 _ _ h2) (And.intro p3 p1.cells2))
  clear p1 p2 p3
  go_wp2
  obtain ⟨P1, P2, P3, P4⟩ := P.out
  exact bodyPost_ret (v := .agg #[.bool (decide (c < 0)), .slice A2 L2 C2]) (by simp [results, Try.results31, go_sem, P3, P4]) rfl ⟨_, rfl, ⟨_, rfl, P1⟩, P2⟩
end Go.Proofs.Ytbnnonmkkkhepaa
