/- The document's nearest mantissas, and layer 8 by rationals. Printed by gen_near.py. -/
import Derived.Test.YtbnnonmkkkhepaaDyad
import Derived.RegionTactic
import Derived.Deep.DeepCutAuto
namespace Go.Proofs.Ytbnnonmkkkhepaa
open Go.RowKit
attribute [local go_sem ↓] Go.wp_at_zero Go.wp_at_succ

theorem cmpI_scale (a b c : Int) (h : 0 < c) : cmpI (a * c) (b * c) = cmpI a b := by
  unfold cmpI
  have h1 : a * c < b * c ↔ a < b := Int.mul_lt_mul_right h
  have h2 : b * c < a * c ↔ b < a := Int.mul_lt_mul_right h
  simp only [h1, h2]
theorem mk_cross (m : Int) (N : Nat) (h : 0 < N) : (mkRat m N).num * N = m * (mkRat m N).den :=
  (Rat.mkRat_eq_iff (n₁ := (mkRat m N).num) (n₂ := m) (Rat.den_nz (mkRat m N)) (by omega : N ≠ 0)).1 (by rw [Rat.mkRat_self])
theorem cmpQ_mk (m n : Int) (N : Nat) (h : 0 < N) : cmpQ (mkRat m N) (mkRat n N) = cmpI m n := by
  have e1 := mk_cross m N h
  have e2 := mk_cross n N h
  have d1 := Rat.den_pos (mkRat m N)
  have d2 := Rat.den_pos (mkRat n N)
  unfold cmpQ
  generalize mkRat m N = x at *
  generalize mkRat n N = y at *
  rw [← cmpI_scale _ _ (N : Int) (by omega), ← cmpI_scale m n ((x.den : Int) * y.den) (Int.mul_pos (by omega) (by omega))]
  congr 1
  · rw [Int.mul_right_comm, e1, Int.mul_assoc]
  · rw [Int.mul_right_comm, e2, Int.mul_assoc, Int.mul_comm (y.den : Int)]
theorem below_mk (a : Rat) (k : Nat) (l : Int) : a - mkRat l (2 ^ k) = mkRat (a.num * 2 ^ k - l * a.den) (a.den * 2 ^ k) := by
  have hd := Rat.den_nz a
  have hp : (2 ^ k : Nat) ≠ 0 := Nat.ne_of_gt (Nat.pow_pos (by omega))
  conv => lhs; rw [← Rat.mkRat_self a]
  rw [Rat.sub_eq_add_neg, Rat.neg_mkRat, Rat.mkRat_add_mkRat _ _ hd hp]
  congr 1
  rw [Int.neg_mul, ← Int.sub_eq_add_neg]; simp
theorem above_mk (a : Rat) (k : Nat) (l : Int) : mkRat l (2 ^ k) - a = mkRat (l * a.den - a.num * 2 ^ k) (a.den * 2 ^ k) := by
  have e : mkRat l (2 ^ k) - a = -(a - mkRat l (2 ^ k)) := by rw [Rat.neg_sub]
  rw [e, below_mk, Rat.neg_mkRat]
  congr 1; omega
/-- the test that takes the lower one -/
def lowB (a : Rat) (k : Nat) : Bool := decide (cmpQ (a - mkRat (flr a k) (2 ^ k)) (mkRat (cel a k) (2 ^ k) - a) < 0) || (decide (cmpQ (a - mkRat (flr a k) (2 ^ k)) (mkRat (cel a k) (2 ^ k) - a) = 0) && decide (flr a k % 2 ≠ 1))
theorem near_pick (a : Rat) (k : Nat) : nearQ a k = if lowB a k then flr a k else cel a k := by
  unfold lowB
  rw [below_mk, above_mk, cmpQ_mk _ _ _ (Nat.mul_pos (Rat.den_pos a) (Nat.pow_pos (by omega)))]
  unfold nearQ nearZ cel flr
  rw [Rat.neg_num, Rat.neg_den, show -a.num * 2 ^ k = -(a.num * 2 ^ k) from Int.neg_mul _ _]
  have hd := Rat.den_pos a
  generalize a.num * 2 ^ k = A
  generalize a.den = D at *
  have h1 := Int.emod_nonneg A (show (D : Int) ≠ 0 by omega)
  have h2 := Int.emod_lt_of_pos A (show (0 : Int) < D by omega)
  have h3 := Int.mul_ediv_add_emod A D
  generalize A % (D : Int) = r at *
  generalize A / (D : Int) = q at *
  have e1 : A - q * D = r := by rw [Int.mul_comm]; omega
  by_cases h0 : r = 0
  · have e0 : -A / (D : Int) = -q := by
      rw [show -A = (D : Int) * (-q) from by rw [Int.mul_neg]; omega, Int.mul_ediv_cancel_left _ (by omega)]
    rw [e0, e1, h0, show - -q * (D : Int) - A = 0 from by rw [Int.neg_neg, Int.mul_comm]; omega, cmpI_eq, if_neg (by omega)]
    split <;> omega
  · have e0 : -A / (D : Int) = -q - 1 := by
      rw [show -A = ((D : Int) - r) + (D : Int) * (-q - 1) from by rw [Int.mul_sub, Int.mul_neg, Int.mul_one]; omega, Int.add_mul_ediv_left _ _ (by omega), Int.ediv_eq_zero_of_lt (by omega) (by omega), Int.zero_add]
    rw [e0, e1, show -(-q - 1) * (D : Int) - A = D - r from by rw [show -(-q - 1) = q + 1 from by omega, Int.add_mul, Int.mul_comm q]; omega]
    rcases Int.lt_trichotomy r (D - r) with h | h | h
    · rw [cmpI_lt h, if_neg (by omega)]; simp
    · rw [← h, cmpI_eq]
      by_cases hq : q % 2 = 1
      · rw [if_pos (by omega)]; simp [hq]; omega
      · rw [if_neg (by omega)]; simp [hq]
    · rw [cmpI_gt h, if_pos (by omega)]; simp; omega
set_option maxHeartbeats 1000000 in
theorem qodd_any (v : Value) (z : Int) (w : World) (h : IsZ w v z) :
    Calls Try.prog 75 #[v] w fun e w' => e = .returned (.bool (!decide (z % 2 ≠ 1))) ∧ Below w.heap.size w w' := by
  obtain ⟨nv, rfl, hn⟩ := h
  have hz : (!decide (z % 2 ≠ 1)) = decide (z.natAbs % 2 = 1) := by rw [Bool.eq_iff_iff]; simp; omega
  rw [hz]
  generalize decide (z < 0) = s at *
  generalize z.natAbs = n at *
  clear hz
  have HB := Lib.hid ((Below.refl w.heap.size w).alloc (Nat.le_refl _) (.cells #[.bool s, nv] 38))
  have hl := lat_limbs n 0
  obtain ⟨A, c, rfl, h1, h2, h3, h4⟩ := hn
  by_cases h0 : n = 0
  · subst h0
    rw [limbs_zero]
    go_enter Try.func75, Try.ntmps75
    go_wp2
    go_ret
    exact ⟨rfl, HB.out⟩
  · have hL : 0 < (limbs n).length := List.length_pos_iff.2 (fun e => h0 (limbs_nil.1 e))
    obtain ⟨ad, rfl, hb, hc⟩ := us_cell0 h4 hL
    rw [Nat.pow_zero, Nat.div_one] at hl
    rw [hl] at hc
    have hr : decide (n % 2 = 1) = ((((n % W64 : Nat) : Int) % 2) == 1) := by rw [Bool.eq_iff_iff]; unfold W64; simp; omega
    have HR := Lib.hid hr
    clear hr hl h0
    generalize (limbs n).length = m at *
    generalize n % W64 = y at *
    rw [HR.out]
    have hcn := World.new_ne w _ hc
    have hcw : (w.alloc (.cells #[.bool s, .slice (some ad) m c] 38)).cell? ad = some (.int .u64 (y : Int)) := (World.cell?_alloc_lt w _ ad hb).trans hc
    go_enter Try.func75, Try.ntmps75
    go_wp2
    go_ret
    exact ⟨rfl, HB.out⟩
set_option maxHeartbeats 8000000 in
theorem qnear_any (v : Value) (a : Rat) (k : Nat) (w : World) (h : IsQ w v a) (hk : k ≤ 2000) (sa : BQ a 100) :
    Calls Try.prog 56 #[v, .int .i64 k] w fun e w' => ∃ v', e = .returned (.tuple #[v', .int .i64 0]) ∧ IsZ w' v' (nearQ a k) ∧ Below w.heap.size w w' := by
  rw [near_pick]
  have hF := fun w h => floor_any v a k w h hk (sa.more (by omega))
  have hC := fun w h => ceil_any v a k w h hk (sa.more (by omega))
  have sf : ∀ b : Rat, BQ b 100 → Sz (flr b k).natAbs 200 := fun b hb => by
    have h1 : (flr b k).natAbs ≤ b.num.natAbs * 2 ^ k := by
      unfold flr
      have := Int.natAbs_ediv_le_natAbs (b.num * 2 ^ k) (b.den : Int)
      rw [Int.natAbs_mul] at this; simpa [Int.natAbs_pow] using this
    exact ((hb.1.mul (Sz.two_pow k)).more (by omega)).le h1
  have s1 := sf a sa
  have s2 : Sz (cel a k).natAbs 200 := by unfold cel; rw [Int.natAbs_neg]; exact sf (-a) sa.neg
  have hX := fun u w h => back_any u (flr a k) k w h hk (s1.more (by omega))
  have hY := fun u w h => back_any u (cel a k) k w h hk (s2.more (by omega))
  have sp : Sz (2 ^ k) 200 := (Sz.two_pow k).more (by omega)
  have t1 : BQ (mkRat (flr a k) (2 ^ k)) 200 := BQ.mk s1 sp (by omega)
  have t2 : BQ (mkRat (cel a k) (2 ^ k)) 200 := BQ.mk s2 sp (by omega)
  have hS1 := fun u w ha h => rqsub_any v u a (mkRat (flr a k) (2 ^ k)) w ha h (sa.more (by omega)) (t1.more (by omega))
  have hS2 := fun u w ha h => rqsub_any u v (mkRat (cel a k) (2 ^ k)) a w h ha (t2.more (by omega)) (sa.more (by omega))
  have t3 : BQ (a - mkRat (flr a k) (2 ^ k)) 1000 := by rw [Rat.sub_eq_add_neg]; exact (sa.add t1.neg).more (by omega)
  have t4 : BQ (mkRat (cel a k) (2 ^ k) - a) 1000 := by rw [Rat.sub_eq_add_neg]; exact (t2.add sa.neg).more (by omega)
  have hQ := fun u v w h1 h2 => rqcmp_any u v (a - mkRat (flr a k) (2 ^ k)) (mkRat (cel a k) (2 ^ k) - a) w h1 h2 (t3.more (by omega)) (t4.more (by omega))
  have hO := fun u w h => qodd_any u (flr a k) w h
  have hL : lowB a k = (decide (cmpQ (a - mkRat (flr a k) (2 ^ k)) (mkRat (cel a k) (2 ^ k) - a) < 0) || (decide (cmpQ (a - mkRat (flr a k) (2 ^ k)) (mkRat (cel a k) (2 ^ k) - a) = 0) && decide (flr a k % 2 ≠ 1))) := rfl
  have hv := h
  obtain ⟨pv, qv, rfl, hp, hq⟩ := h
  obtain ⟨Ap, Lp, Cp, rfl⟩ := hp.frm
  obtain ⟨Aq, Lq, Cq, rfl⟩ := hq.frm
  clear sf s1 s2 sp t1 t2 t3 t4 sa hp hq
  generalize lowB a k = B at *
  generalize cmpQ (a - mkRat (flr a k) (2 ^ k)) (mkRat (cel a k) (2 ^ k) - a) = c at *
  generalize a - mkRat (flr a k) (2 ^ k) = q1 at *
  generalize mkRat (cel a k) (2 ^ k) - a = q2 at *
  generalize mkRat (flr a k) (2 ^ k) = x at *
  generalize mkRat (cel a k) (2 ^ k) = y at *
  generalize flr a k = lo at *
  generalize cel a k = hi at *
  generalize decide (lo % 2 ≠ 1) = ev at *
  have HL := Lib.hid hL
  clear hL
  have KLO : Hid (B = true → ∀ w' v, IsZ w' v lo → IsZ w' v (if B = true then lo else hi)) := Lib.hid fun hB _ _ h => by rw [if_pos hB]; exact h
  have KHI : Hid (B = false → ∀ w' v, IsZ w' v hi → IsZ w' v (if B = true then lo else hi)) := Lib.hid fun hB _ _ h => by rw [if_neg (by rw [hB]; simp)]; exact h
  generalize (if B = true then lo else hi) = R at *
  obtain ⟨W0, hW, hT, hB⟩ := box2 w 40 38 #[.bool (decide (a.num < 0)), .slice Ap Lp Cp, .slice Aq Lq Cq] #[.bool false, .slice none 0 0]
  obtain ⟨g, hg⟩ : ∃ g, g = w.heap.size := ⟨_, rfl⟩
  have hW' := Lib.hid (And.intro hW hg)
  rw [← hg] at hT
  have hgw : w.heap.size ≤ g := by omega
  clear hW hg
  obtain ⟨hA, hR⟩ := hT
  replace hv := hv.below hB
  obtain ⟨c1_hA_0, c1_hA_1, c1_hA_2⟩ := hA.cells3
  obtain ⟨c1_hR_0, c1_hR_1⟩ := hR.cells2
  go_enter Try.func56, Try.ntmps56
  go_wp2_with fail
  rw [← hW'.out.1, ← hW'.out.2]
  refine (hF _ hv).mono ?_
  rintro e w1 ⟨v1, rfl, h1, b1⟩
  replace hv := hv.below b1
  replace hA := hA.below b1 hA.lt
  replace hR := hR.below b1 hR.lt
  replace hB := hB.trans (b1.mono hB.size)
  clear c1_hA_0 c1_hA_1 c1_hA_2 c1_hR_0 c1_hR_1
  obtain ⟨c2_hA_0, c2_hA_1, c2_hA_2⟩ := hA.cells3
  obtain ⟨c2_hR_0, c2_hR_1⟩ := hR.cells2
  obtain ⟨n1, rfl, e1⟩ := (id h1 : IsZ _ _ _)
  obtain ⟨A1, L1, C1, rfl⟩ := e1.frm
  clear e1
  obtain ⟨V1, eV, bLo, bV1⟩ := box1 w1 38 #[.bool (decide (lo < 0)), .slice A1 L1 C1]
  obtain ⟨X1, eX⟩ : ∃ X, X = w1.heap.size := ⟨_, rfl⟩
  rw [← eX] at bLo
  have EV1 := Lib.hid (And.intro eV eX)
  clear eV eX
  go_upto_region 2 with fail
  rw [← EV1.out.1, ← EV1.out.2]
  replace hv := hv.below bV1
  replace hA := hA.below bV1 hA.lt
  replace hR := hR.below bV1 hR.lt
  replace h1 := h1.below bV1
  replace hB := hB.trans (bV1.mono hB.size)
  clear c2_hA_0 c2_hA_1 c2_hA_2 c2_hR_0 c2_hR_1
  obtain ⟨c3_hA_0, c3_hA_1, c3_hA_2⟩ := hA.cells3
  obtain ⟨c3_hR_0, c3_hR_1⟩ := hR.cells2
  clear c3_hA_0 c3_hA_1 c3_hA_2 c3_hR_0 c3_hR_1
  obtain ⟨c4_hA_0, c4_hA_1, c4_hA_2⟩ := hA.cells3
  obtain ⟨c4_hR_0, c4_hR_1⟩ := hR.cells2
  obtain ⟨c4_bLo_0, c4_bLo_1⟩ := bLo.cells2
  go_wp2_with fail
  refine (hC _ hv).mono ?_
  rintro e w2 ⟨v2, rfl, h2, b2⟩
  replace hv := hv.below b2
  replace hA := hA.below b2 hA.lt
  replace hR := hR.below b2 hR.lt
  replace h1 := h1.below b2
  replace bLo := bLo.below b2 bLo.lt
  replace hB := hB.trans (b2.mono hB.size)
  clear c4_hA_0 c4_hA_1 c4_hA_2 c4_hR_0 c4_hR_1 c4_bLo_0 c4_bLo_1
  obtain ⟨c5_hA_0, c5_hA_1, c5_hA_2⟩ := hA.cells3
  obtain ⟨c5_hR_0, c5_hR_1⟩ := hR.cells2
  obtain ⟨c5_bLo_0, c5_bLo_1⟩ := bLo.cells2
  obtain ⟨n2, rfl, e2⟩ := (id h2 : IsZ _ _ _)
  obtain ⟨A2, L2, C2, rfl⟩ := e2.frm
  clear e2
  obtain ⟨V2, eV, bHi, bV2⟩ := box1 w2 38 #[.bool (decide (hi < 0)), .slice A2 L2 C2]
  obtain ⟨X2, eX⟩ : ∃ X, X = w2.heap.size := ⟨_, rfl⟩
  rw [← eX] at bHi
  have EV2 := Lib.hid (And.intro eV eX)
  clear eV eX
  go_upto_region 5 with fail
  rw [← EV2.out.1, ← EV2.out.2]
  replace hv := hv.below bV2
  replace hA := hA.below bV2 hA.lt
  replace hR := hR.below bV2 hR.lt
  replace h1 := h1.below bV2
  replace bLo := bLo.below bV2 bLo.lt
  replace h2 := h2.below bV2
  replace hB := hB.trans (bV2.mono hB.size)
  clear c5_hA_0 c5_hA_1 c5_hA_2 c5_hR_0 c5_hR_1 c5_bLo_0 c5_bLo_1
  obtain ⟨c6_hA_0, c6_hA_1, c6_hA_2⟩ := hA.cells3
  obtain ⟨c6_hR_0, c6_hR_1⟩ := hR.cells2
  obtain ⟨c6_bLo_0, c6_bLo_1⟩ := bLo.cells2
  clear c6_hA_0 c6_hA_1 c6_hA_2 c6_hR_0 c6_hR_1 c6_bLo_0 c6_bLo_1
  obtain ⟨c7_hA_0, c7_hA_1, c7_hA_2⟩ := hA.cells3
  obtain ⟨c7_hR_0, c7_hR_1⟩ := hR.cells2
  obtain ⟨c7_bLo_0, c7_bLo_1⟩ := bLo.cells2
  obtain ⟨c7_bHi_0, c7_bHi_1⟩ := bHi.cells2
  go_wp2_with fail
  refine (hX _ _ h1).mono ?_
  rintro e w3 ⟨v3, rfl, h3, b3⟩
  replace hv := hv.below b3
  replace hA := hA.below b3 hA.lt
  replace hR := hR.below b3 hR.lt
  replace h1 := h1.below b3
  replace bLo := bLo.below b3 bLo.lt
  replace h2 := h2.below b3
  replace bHi := bHi.below b3 bHi.lt
  replace hB := hB.trans (b3.mono hB.size)
  clear c7_hA_0 c7_hA_1 c7_hA_2 c7_hR_0 c7_hR_1 c7_bLo_0 c7_bLo_1 c7_bHi_0 c7_bHi_1
  obtain ⟨c8_hA_0, c8_hA_1, c8_hA_2⟩ := hA.cells3
  obtain ⟨c8_hR_0, c8_hR_1⟩ := hR.cells2
  obtain ⟨c8_bLo_0, c8_bLo_1⟩ := bLo.cells2
  obtain ⟨c8_bHi_0, c8_bHi_1⟩ := bHi.cells2
  obtain ⟨n3, d3, rfl, e3, f3⟩ := (id h3 : IsQ _ _ _)
  obtain ⟨A3, L3, C3, rfl⟩ := e3.frm
  obtain ⟨D3, M3, E3, rfl⟩ := f3.frm
  clear e3 f3
  obtain ⟨V3, eV, bX, bV3⟩ := box1 w3 40 #[.bool (decide (x.num < 0)), .slice A3 L3 C3, .slice D3 M3 E3]
  obtain ⟨X3, eX⟩ : ∃ X, X = w3.heap.size := ⟨_, rfl⟩
  rw [← eX] at bX
  have EV3 := Lib.hid (And.intro eV eX)
  clear eV eX
  go_upto_region 6 with fail
  rw [← EV3.out.1, ← EV3.out.2]
  replace hv := hv.below bV3
  replace hA := hA.below bV3 hA.lt
  replace hR := hR.below bV3 hR.lt
  replace h1 := h1.below bV3
  replace bLo := bLo.below bV3 bLo.lt
  replace h2 := h2.below bV3
  replace bHi := bHi.below bV3 bHi.lt
  replace h3 := h3.below bV3
  replace hB := hB.trans (bV3.mono hB.size)
  clear c8_hA_0 c8_hA_1 c8_hA_2 c8_hR_0 c8_hR_1 c8_bLo_0 c8_bLo_1 c8_bHi_0 c8_bHi_1
  obtain ⟨c9_hA_0, c9_hA_1, c9_hA_2⟩ := hA.cells3
  obtain ⟨c9_hR_0, c9_hR_1⟩ := hR.cells2
  obtain ⟨c9_bLo_0, c9_bLo_1⟩ := bLo.cells2
  obtain ⟨c9_bHi_0, c9_bHi_1⟩ := bHi.cells2
  clear c9_hA_0 c9_hA_1 c9_hA_2 c9_hR_0 c9_hR_1 c9_bLo_0 c9_bLo_1 c9_bHi_0 c9_bHi_1
  obtain ⟨c10_hA_0, c10_hA_1, c10_hA_2⟩ := hA.cells3
  obtain ⟨c10_hR_0, c10_hR_1⟩ := hR.cells2
  obtain ⟨c10_bLo_0, c10_bLo_1⟩ := bLo.cells2
  obtain ⟨c10_bHi_0, c10_bHi_1⟩ := bHi.cells2
  obtain ⟨c10_bX_0, c10_bX_1, c10_bX_2⟩ := bX.cells3
  go_wp2_with fail
  refine (hY _ _ h2).mono ?_
  rintro e w4 ⟨v4, rfl, h4, b4⟩
  replace hv := hv.below b4
  replace hA := hA.below b4 hA.lt
  replace hR := hR.below b4 hR.lt
  replace h1 := h1.below b4
  replace bLo := bLo.below b4 bLo.lt
  replace h2 := h2.below b4
  replace bHi := bHi.below b4 bHi.lt
  replace h3 := h3.below b4
  replace bX := bX.below b4 bX.lt
  replace hB := hB.trans (b4.mono hB.size)
  clear c10_hA_0 c10_hA_1 c10_hA_2 c10_hR_0 c10_hR_1 c10_bLo_0 c10_bLo_1 c10_bHi_0 c10_bHi_1 c10_bX_0 c10_bX_1 c10_bX_2
  obtain ⟨c11_hA_0, c11_hA_1, c11_hA_2⟩ := hA.cells3
  obtain ⟨c11_hR_0, c11_hR_1⟩ := hR.cells2
  obtain ⟨c11_bLo_0, c11_bLo_1⟩ := bLo.cells2
  obtain ⟨c11_bHi_0, c11_bHi_1⟩ := bHi.cells2
  obtain ⟨c11_bX_0, c11_bX_1, c11_bX_2⟩ := bX.cells3
  obtain ⟨n4, d4, rfl, e4, f4⟩ := (id h4 : IsQ _ _ _)
  obtain ⟨A4, L4, C4, rfl⟩ := e4.frm
  obtain ⟨D4, M4, E4, rfl⟩ := f4.frm
  clear e4 f4
  obtain ⟨V4, eV, bY, bV4⟩ := box1 w4 40 #[.bool (decide (y.num < 0)), .slice A4 L4 C4, .slice D4 M4 E4]
  obtain ⟨X4, eX⟩ : ∃ X, X = w4.heap.size := ⟨_, rfl⟩
  rw [← eX] at bY
  have EV4 := Lib.hid (And.intro eV eX)
  clear eV eX
  go_upto_region 7 with fail
  rw [← EV4.out.1, ← EV4.out.2]
  replace hv := hv.below bV4
  replace hA := hA.below bV4 hA.lt
  replace hR := hR.below bV4 hR.lt
  replace h1 := h1.below bV4
  replace bLo := bLo.below bV4 bLo.lt
  replace h2 := h2.below bV4
  replace bHi := bHi.below bV4 bHi.lt
  replace h3 := h3.below bV4
  replace bX := bX.below bV4 bX.lt
  replace h4 := h4.below bV4
  replace hB := hB.trans (bV4.mono hB.size)
  clear c11_hA_0 c11_hA_1 c11_hA_2 c11_hR_0 c11_hR_1 c11_bLo_0 c11_bLo_1 c11_bHi_0 c11_bHi_1 c11_bX_0 c11_bX_1 c11_bX_2
  obtain ⟨c12_hA_0, c12_hA_1, c12_hA_2⟩ := hA.cells3
  obtain ⟨c12_hR_0, c12_hR_1⟩ := hR.cells2
  obtain ⟨c12_bLo_0, c12_bLo_1⟩ := bLo.cells2
  obtain ⟨c12_bHi_0, c12_bHi_1⟩ := bHi.cells2
  obtain ⟨c12_bX_0, c12_bX_1, c12_bX_2⟩ := bX.cells3
  clear c12_hA_0 c12_hA_1 c12_hA_2 c12_hR_0 c12_hR_1 c12_bLo_0 c12_bLo_1 c12_bHi_0 c12_bHi_1 c12_bX_0 c12_bX_1 c12_bX_2
  obtain ⟨c13_hA_0, c13_hA_1, c13_hA_2⟩ := hA.cells3
  obtain ⟨c13_hR_0, c13_hR_1⟩ := hR.cells2
  obtain ⟨c13_bLo_0, c13_bLo_1⟩ := bLo.cells2
  obtain ⟨c13_bHi_0, c13_bHi_1⟩ := bHi.cells2
  obtain ⟨c13_bX_0, c13_bX_1, c13_bX_2⟩ := bX.cells3
  obtain ⟨c13_bY_0, c13_bY_1, c13_bY_2⟩ := bY.cells3
  go_wp2_with fail
  refine (hS1 _ _ hv h3).mono ?_
  rintro e w5 ⟨v5, rfl, h5, b5⟩
  replace hv := hv.below b5
  replace hA := hA.below b5 hA.lt
  replace hR := hR.below b5 hR.lt
  replace h1 := h1.below b5
  replace bLo := bLo.below b5 bLo.lt
  replace h2 := h2.below b5
  replace bHi := bHi.below b5 bHi.lt
  replace h3 := h3.below b5
  replace bX := bX.below b5 bX.lt
  replace h4 := h4.below b5
  replace bY := bY.below b5 bY.lt
  replace hB := hB.trans (b5.mono hB.size)
  clear c13_hA_0 c13_hA_1 c13_hA_2 c13_hR_0 c13_hR_1 c13_bLo_0 c13_bLo_1 c13_bHi_0 c13_bHi_1 c13_bX_0 c13_bX_1 c13_bX_2 c13_bY_0 c13_bY_1 c13_bY_2
  obtain ⟨c14_hA_0, c14_hA_1, c14_hA_2⟩ := hA.cells3
  obtain ⟨c14_hR_0, c14_hR_1⟩ := hR.cells2
  obtain ⟨c14_bLo_0, c14_bLo_1⟩ := bLo.cells2
  obtain ⟨c14_bHi_0, c14_bHi_1⟩ := bHi.cells2
  obtain ⟨c14_bX_0, c14_bX_1, c14_bX_2⟩ := bX.cells3
  obtain ⟨c14_bY_0, c14_bY_1, c14_bY_2⟩ := bY.cells3
  obtain ⟨n5, d5, rfl, e5, f5⟩ := (id h5 : IsQ _ _ _)
  obtain ⟨A5, L5, C5, rfl⟩ := e5.frm
  obtain ⟨D5, M5, E5, rfl⟩ := f5.frm
  clear e5 f5
  obtain ⟨V5, eV, bB, bV5⟩ := box1 w5 40 #[.bool (decide (q1.num < 0)), .slice A5 L5 C5, .slice D5 M5 E5]
  obtain ⟨X5, eX⟩ : ∃ X, X = w5.heap.size := ⟨_, rfl⟩
  rw [← eX] at bB
  have EV5 := Lib.hid (And.intro eV eX)
  clear eV eX
  go_upto_region 8 with fail
  rw [← EV5.out.1, ← EV5.out.2]
  replace hv := hv.below bV5
  replace hA := hA.below bV5 hA.lt
  replace hR := hR.below bV5 hR.lt
  replace h1 := h1.below bV5
  replace bLo := bLo.below bV5 bLo.lt
  replace h2 := h2.below bV5
  replace bHi := bHi.below bV5 bHi.lt
  replace h3 := h3.below bV5
  replace bX := bX.below bV5 bX.lt
  replace h4 := h4.below bV5
  replace bY := bY.below bV5 bY.lt
  replace h5 := h5.below bV5
  replace hB := hB.trans (bV5.mono hB.size)
  clear c14_hA_0 c14_hA_1 c14_hA_2 c14_hR_0 c14_hR_1 c14_bLo_0 c14_bLo_1 c14_bHi_0 c14_bHi_1 c14_bX_0 c14_bX_1 c14_bX_2 c14_bY_0 c14_bY_1 c14_bY_2
  obtain ⟨c15_hA_0, c15_hA_1, c15_hA_2⟩ := hA.cells3
  obtain ⟨c15_hR_0, c15_hR_1⟩ := hR.cells2
  obtain ⟨c15_bLo_0, c15_bLo_1⟩ := bLo.cells2
  obtain ⟨c15_bHi_0, c15_bHi_1⟩ := bHi.cells2
  obtain ⟨c15_bX_0, c15_bX_1, c15_bX_2⟩ := bX.cells3
  obtain ⟨c15_bY_0, c15_bY_1, c15_bY_2⟩ := bY.cells3
  clear c15_hA_0 c15_hA_1 c15_hA_2 c15_hR_0 c15_hR_1 c15_bLo_0 c15_bLo_1 c15_bHi_0 c15_bHi_1 c15_bX_0 c15_bX_1 c15_bX_2 c15_bY_0 c15_bY_1 c15_bY_2
  obtain ⟨c16_hA_0, c16_hA_1, c16_hA_2⟩ := hA.cells3
  obtain ⟨c16_hR_0, c16_hR_1⟩ := hR.cells2
  obtain ⟨c16_bLo_0, c16_bLo_1⟩ := bLo.cells2
  obtain ⟨c16_bHi_0, c16_bHi_1⟩ := bHi.cells2
  obtain ⟨c16_bX_0, c16_bX_1, c16_bX_2⟩ := bX.cells3
  obtain ⟨c16_bY_0, c16_bY_1, c16_bY_2⟩ := bY.cells3
  obtain ⟨c16_bB_0, c16_bB_1, c16_bB_2⟩ := bB.cells3
  go_wp2_with fail
  refine (hS2 _ _ hv h4).mono ?_
  rintro e w6 ⟨v6, rfl, h6, b6⟩
  replace hv := hv.below b6
  replace hA := hA.below b6 hA.lt
  replace hR := hR.below b6 hR.lt
  replace h1 := h1.below b6
  replace bLo := bLo.below b6 bLo.lt
  replace h2 := h2.below b6
  replace bHi := bHi.below b6 bHi.lt
  replace h3 := h3.below b6
  replace bX := bX.below b6 bX.lt
  replace h4 := h4.below b6
  replace bY := bY.below b6 bY.lt
  replace h5 := h5.below b6
  replace bB := bB.below b6 bB.lt
  replace hB := hB.trans (b6.mono hB.size)
  clear c16_hA_0 c16_hA_1 c16_hA_2 c16_hR_0 c16_hR_1 c16_bLo_0 c16_bLo_1 c16_bHi_0 c16_bHi_1 c16_bX_0 c16_bX_1 c16_bX_2 c16_bY_0 c16_bY_1 c16_bY_2 c16_bB_0 c16_bB_1 c16_bB_2
  obtain ⟨c17_hA_0, c17_hA_1, c17_hA_2⟩ := hA.cells3
  obtain ⟨c17_hR_0, c17_hR_1⟩ := hR.cells2
  obtain ⟨c17_bLo_0, c17_bLo_1⟩ := bLo.cells2
  obtain ⟨c17_bHi_0, c17_bHi_1⟩ := bHi.cells2
  obtain ⟨c17_bX_0, c17_bX_1, c17_bX_2⟩ := bX.cells3
  obtain ⟨c17_bY_0, c17_bY_1, c17_bY_2⟩ := bY.cells3
  obtain ⟨c17_bB_0, c17_bB_1, c17_bB_2⟩ := bB.cells3
  obtain ⟨n6, d6, rfl, e6, f6⟩ := (id h6 : IsQ _ _ _)
  obtain ⟨A6, L6, C6, rfl⟩ := e6.frm
  obtain ⟨D6, M6, E6, rfl⟩ := f6.frm
  clear e6 f6
  obtain ⟨V6, eV, bC, bV6⟩ := box1 w6 40 #[.bool (decide (q2.num < 0)), .slice A6 L6 C6, .slice D6 M6 E6]
  obtain ⟨X6, eX⟩ : ∃ X, X = w6.heap.size := ⟨_, rfl⟩
  rw [← eX] at bC
  have EV6 := Lib.hid (And.intro eV eX)
  clear eV eX
  go_upto_region 9 with fail
  rw [← EV6.out.1, ← EV6.out.2]
  replace hv := hv.below bV6
  replace hA := hA.below bV6 hA.lt
  replace hR := hR.below bV6 hR.lt
  replace h1 := h1.below bV6
  replace bLo := bLo.below bV6 bLo.lt
  replace h2 := h2.below bV6
  replace bHi := bHi.below bV6 bHi.lt
  replace h3 := h3.below bV6
  replace bX := bX.below bV6 bX.lt
  replace h4 := h4.below bV6
  replace bY := bY.below bV6 bY.lt
  replace h5 := h5.below bV6
  replace bB := bB.below bV6 bB.lt
  replace h6 := h6.below bV6
  replace hB := hB.trans (bV6.mono hB.size)
  clear c17_hA_0 c17_hA_1 c17_hA_2 c17_hR_0 c17_hR_1 c17_bLo_0 c17_bLo_1 c17_bHi_0 c17_bHi_1 c17_bX_0 c17_bX_1 c17_bX_2 c17_bY_0 c17_bY_1 c17_bY_2 c17_bB_0 c17_bB_1 c17_bB_2
  obtain ⟨c18_hA_0, c18_hA_1, c18_hA_2⟩ := hA.cells3
  obtain ⟨c18_hR_0, c18_hR_1⟩ := hR.cells2
  obtain ⟨c18_bLo_0, c18_bLo_1⟩ := bLo.cells2
  obtain ⟨c18_bHi_0, c18_bHi_1⟩ := bHi.cells2
  obtain ⟨c18_bX_0, c18_bX_1, c18_bX_2⟩ := bX.cells3
  obtain ⟨c18_bY_0, c18_bY_1, c18_bY_2⟩ := bY.cells3
  obtain ⟨c18_bB_0, c18_bB_1, c18_bB_2⟩ := bB.cells3
  clear c18_hA_0 c18_hA_1 c18_hA_2 c18_hR_0 c18_hR_1 c18_bLo_0 c18_bLo_1 c18_bHi_0 c18_bHi_1 c18_bX_0 c18_bX_1 c18_bX_2 c18_bY_0 c18_bY_1 c18_bY_2 c18_bB_0 c18_bB_1 c18_bB_2
  obtain ⟨c19_hA_0, c19_hA_1, c19_hA_2⟩ := hA.cells3
  obtain ⟨c19_hR_0, c19_hR_1⟩ := hR.cells2
  obtain ⟨c19_bLo_0, c19_bLo_1⟩ := bLo.cells2
  obtain ⟨c19_bHi_0, c19_bHi_1⟩ := bHi.cells2
  obtain ⟨c19_bX_0, c19_bX_1, c19_bX_2⟩ := bX.cells3
  obtain ⟨c19_bY_0, c19_bY_1, c19_bY_2⟩ := bY.cells3
  obtain ⟨c19_bB_0, c19_bB_1, c19_bB_2⟩ := bB.cells3
  obtain ⟨c19_bC_0, c19_bC_1, c19_bC_2⟩ := bC.cells3
  go_wp2_with fail
  refine (hQ _ _ _ h5 h6).mono ?_
  rintro e w7 ⟨rfl, b7⟩
  replace hv := hv.below b7
  replace hA := hA.below b7 hA.lt
  replace hR := hR.below b7 hR.lt
  replace h1 := h1.below b7
  replace bLo := bLo.below b7 bLo.lt
  replace h2 := h2.below b7
  replace bHi := bHi.below b7 bHi.lt
  replace h3 := h3.below b7
  replace bX := bX.below b7 bX.lt
  replace h4 := h4.below b7
  replace bY := bY.below b7 bY.lt
  replace h5 := h5.below b7
  replace bB := bB.below b7 bB.lt
  replace h6 := h6.below b7
  replace bC := bC.below b7 bC.lt
  replace hB := hB.trans (b7.mono hB.size)
  clear c19_hA_0 c19_hA_1 c19_hA_2 c19_hR_0 c19_hR_1 c19_bLo_0 c19_bLo_1 c19_bHi_0 c19_bHi_1 c19_bX_0 c19_bX_1 c19_bX_2 c19_bY_0 c19_bY_1 c19_bY_2 c19_bB_0 c19_bB_1 c19_bB_2 c19_bC_0 c19_bC_1 c19_bC_2
  obtain ⟨c20_hA_0, c20_hA_1, c20_hA_2⟩ := hA.cells3
  obtain ⟨c20_hR_0, c20_hR_1⟩ := hR.cells2
  obtain ⟨c20_bLo_0, c20_bLo_1⟩ := bLo.cells2
  obtain ⟨c20_bHi_0, c20_bHi_1⟩ := bHi.cells2
  obtain ⟨c20_bX_0, c20_bX_1, c20_bX_2⟩ := bX.cells3
  obtain ⟨c20_bY_0, c20_bY_1, c20_bY_2⟩ := bY.cells3
  obtain ⟨c20_bB_0, c20_bB_1, c20_bB_2⟩ := bB.cells3
  obtain ⟨c20_bC_0, c20_bC_1, c20_bC_2⟩ := bC.cells3
  clear hF hC hX hY hS1 hS2 hQ
  rcases Int.lt_trichotomy c 0 with hc | hc | hc
  · have hBB : B = true := by rw [HL.out, decide_eq_true hc]; rfl
    have KEY := Lib.hid (KLO.out hBB)
    clear hBB
    obtain ⟨p1, p2, p3⟩ := put2 hR (.bool (decide (lo < 0))) (.slice A1 L1 C1) (by simp [noU]) hB (by omega)
    have q0 := hR.cell 0
    have z0 := hR.frozen 0
    have q1 := hR.cell 1
    have z1 := hR.frozen 1
    have P := Lib.hid (And.intro (KEY.out _ _ ⟨_, rfl, p2 _ _ (by obtain ⟨_, e, k⟩ := (id h1 : IsZ _ _ _); cases e; exact k)⟩) (And.intro p3 p1.cells2))
    clear p1 p2 p3 
    go_wp2_with fail
    obtain ⟨P1, P2, P3, P4⟩ := P.out
    exact bodyPost_ret (v := .tuple #[.agg #[.bool (decide (lo < 0)), .slice A1 L1 C1], .int .i64 0]) (by simp [results, Try.results56, go_sem, P3, P4, q0, q1]) rfl ⟨_, rfl, P1, P2⟩
  · rcases ev with _ | _
    · have hBB : B = false := by rw [HL.out, hc]; rfl
      have KEY := Lib.hid (KHI.out hBB)
      clear hBB
      subst hc
      go_wp2_with fail
      refine (hO _ _ h1).mono ?_
      rintro e w8 ⟨rfl, b8⟩
      replace hv := hv.below b8
      replace hA := hA.below b8 hA.lt
      replace hR := hR.below b8 hR.lt
      replace h1 := h1.below b8
      replace bLo := bLo.below b8 bLo.lt
      replace h2 := h2.below b8
      replace bHi := bHi.below b8 bHi.lt
      replace h3 := h3.below b8
      replace bX := bX.below b8 bX.lt
      replace h4 := h4.below b8
      replace bY := bY.below b8 bY.lt
      replace h5 := h5.below b8
      replace bB := bB.below b8 bB.lt
      replace h6 := h6.below b8
      replace bC := bC.below b8 bC.lt
      replace hB := hB.trans (b8.mono hB.size)
      clear c20_hA_0 c20_hA_1 c20_hA_2 c20_hR_0 c20_hR_1 c20_bLo_0 c20_bLo_1 c20_bHi_0 c20_bHi_1 c20_bX_0 c20_bX_1 c20_bX_2 c20_bY_0 c20_bY_1 c20_bY_2 c20_bB_0 c20_bB_1 c20_bB_2 c20_bC_0 c20_bC_1 c20_bC_2
      obtain ⟨c21_hA_0, c21_hA_1, c21_hA_2⟩ := hA.cells3
      obtain ⟨c21_hR_0, c21_hR_1⟩ := hR.cells2
      obtain ⟨c21_bLo_0, c21_bLo_1⟩ := bLo.cells2
      obtain ⟨c21_bHi_0, c21_bHi_1⟩ := bHi.cells2
      obtain ⟨c21_bX_0, c21_bX_1, c21_bX_2⟩ := bX.cells3
      obtain ⟨c21_bY_0, c21_bY_1, c21_bY_2⟩ := bY.cells3
      obtain ⟨c21_bB_0, c21_bB_1, c21_bB_2⟩ := bB.cells3
      obtain ⟨c21_bC_0, c21_bC_1, c21_bC_2⟩ := bC.cells3
      obtain ⟨p1, p2, p3⟩ := put2 hR (.bool (decide (hi < 0))) (.slice A2 L2 C2) (by simp [noU]) hB (by omega)
      have q0 := hR.cell 0
      have z0 := hR.frozen 0
      have q1 := hR.cell 1
      have z1 := hR.frozen 1
      have P := Lib.hid (And.intro (KEY.out _ _ ⟨_, rfl, p2 _ _ (by obtain ⟨_, e, k⟩ := (id h2 : IsZ _ _ _); cases e; exact k)⟩) (And.intro p3 p1.cells2))
      clear p1 p2 p3 
      go_wp2_with fail
      obtain ⟨P1, P2, P3, P4⟩ := P.out
      exact bodyPost_ret (v := .tuple #[.agg #[.bool (decide (hi < 0)), .slice A2 L2 C2], .int .i64 0]) (by simp [results, Try.results56, go_sem, P3, P4, q0, q1]) rfl ⟨_, rfl, P1, P2⟩
    · have hBB : B = true := by rw [HL.out, hc]; rfl
      have KEY := Lib.hid (KLO.out hBB)
      clear hBB
      subst hc
      go_wp2_with fail
      refine (hO _ _ h1).mono ?_
      rintro e w8 ⟨rfl, b8⟩
      replace hv := hv.below b8
      replace hA := hA.below b8 hA.lt
      replace hR := hR.below b8 hR.lt
      replace h1 := h1.below b8
      replace bLo := bLo.below b8 bLo.lt
      replace h2 := h2.below b8
      replace bHi := bHi.below b8 bHi.lt
      replace h3 := h3.below b8
      replace bX := bX.below b8 bX.lt
      replace h4 := h4.below b8
      replace bY := bY.below b8 bY.lt
      replace h5 := h5.below b8
      replace bB := bB.below b8 bB.lt
      replace h6 := h6.below b8
      replace bC := bC.below b8 bC.lt
      replace hB := hB.trans (b8.mono hB.size)
      clear c20_hA_0 c20_hA_1 c20_hA_2 c20_hR_0 c20_hR_1 c20_bLo_0 c20_bLo_1 c20_bHi_0 c20_bHi_1 c20_bX_0 c20_bX_1 c20_bX_2 c20_bY_0 c20_bY_1 c20_bY_2 c20_bB_0 c20_bB_1 c20_bB_2 c20_bC_0 c20_bC_1 c20_bC_2
      obtain ⟨c21_hA_0, c21_hA_1, c21_hA_2⟩ := hA.cells3
      obtain ⟨c21_hR_0, c21_hR_1⟩ := hR.cells2
      obtain ⟨c21_bLo_0, c21_bLo_1⟩ := bLo.cells2
      obtain ⟨c21_bHi_0, c21_bHi_1⟩ := bHi.cells2
      obtain ⟨c21_bX_0, c21_bX_1, c21_bX_2⟩ := bX.cells3
      obtain ⟨c21_bY_0, c21_bY_1, c21_bY_2⟩ := bY.cells3
      obtain ⟨c21_bB_0, c21_bB_1, c21_bB_2⟩ := bB.cells3
      obtain ⟨c21_bC_0, c21_bC_1, c21_bC_2⟩ := bC.cells3
      obtain ⟨p1, p2, p3⟩ := put2 hR (.bool (decide (lo < 0))) (.slice A1 L1 C1) (by simp [noU]) hB (by omega)
      have q0 := hR.cell 0
      have z0 := hR.frozen 0
      have q1 := hR.cell 1
      have z1 := hR.frozen 1
      have P := Lib.hid (And.intro (KEY.out _ _ ⟨_, rfl, p2 _ _ (by obtain ⟨_, e, k⟩ := (id h1 : IsZ _ _ _); cases e; exact k)⟩) (And.intro p3 p1.cells2))
      clear p1 p2 p3 
      go_wp2_with fail
      obtain ⟨P1, P2, P3, P4⟩ := P.out
      exact bodyPost_ret (v := .tuple #[.agg #[.bool (decide (lo < 0)), .slice A1 L1 C1], .int .i64 0]) (by simp [results, Try.results56, go_sem, P3, P4, q0, q1]) rfl ⟨_, rfl, P1, P2⟩
  · have hBB : B = false := by rw [HL.out, decide_eq_false (by omega), decide_eq_false (by omega)]; rfl
    have hc1 : decide (c < 0) = false := decide_eq_false (by omega)
    have hc2 : (c == 0) = false := by simp; omega
    have KEY := Lib.hid (KHI.out hBB)
    clear hBB
    obtain ⟨p1, p2, p3⟩ := put2 hR (.bool (decide (hi < 0))) (.slice A2 L2 C2) (by simp [noU]) hB (by omega)
    have q0 := hR.cell 0
    have z0 := hR.frozen 0
    have q1 := hR.cell 1
    have z1 := hR.frozen 1
    have P := Lib.hid (And.intro (KEY.out _ _ ⟨_, rfl, p2 _ _ (by obtain ⟨_, e, k⟩ := (id h2 : IsZ _ _ _); cases e; exact k)⟩) (And.intro p3 p1.cells2))
    clear p1 p2 p3 
    go_wp2_with fail
    obtain ⟨P1, P2, P3, P4⟩ := P.out
    exact bodyPost_ret (v := .tuple #[.agg #[.bool (decide (hi < 0)), .slice A2 L2 C2], .int .i64 0]) (by simp [results, Try.results56, go_sem, P3, P4, q0, q1]) rfl ⟨_, rfl, P1, P2⟩
end Go.Proofs.Ytbnnonmkkkhepaa
