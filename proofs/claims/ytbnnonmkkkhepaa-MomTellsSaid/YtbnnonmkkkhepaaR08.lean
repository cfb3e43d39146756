/- The document's layer 8: sums, differences, products by rationals. Printed by gen_r08.py. -/
import Derived.Test.YtbnnonmkkkhepaaNear
import Derived.Test.YtbnnonmkkkhepaaIn64
import Derived.Test.YtbnnonmkkkhepaaMath
namespace Go.Proofs.Ytbnnonmkkkhepaa
open Go.RowKit
attribute [local go_sem ↓] Go.wp_at_zero Go.wp_at_succ

set_option maxHeartbeats 2000000 in
theorem r08near_any (v : Value) (r : Rat) (k : Nat) (w : World) (h : IsQ w v r) (hk : k ≤ 2000) (sr : BQ r 100) :
    Calls Try.prog 33 #[v, .int .i64 k] w fun e w' => e = .returned (.tuple #[.int .i64 (fitV (nearQ r k)), .int .i64 (fitE (nearQ r k))]) ∧ Below w.heap.size w w' := by
  have hN := fun w h => qnear_any v r k w h hk sr
  have hI := fun u w h => rzint_any u (nearQ r k) w h
  have hv := h
  obtain ⟨pv, qv, rfl, hp, hq⟩ := h
  obtain ⟨Ap, Lp, Cp, rfl⟩ := hp.frm
  obtain ⟨Aq, Lq, Cq, rfl⟩ := hq.frm
  rw [fitE_eq]
  have hz : fitB (nearQ r k) = false → fitV (nearQ r k) = 0 := fun h => by
    unfold fitB at h; unfold fitV; rw [if_neg (by simpa using h)]
  generalize nearQ r k = z at *
  generalize fitV z = n at *
  generalize hb : fitB z = b at *
  clear hb hp hq sr
  rcases b with _ | _
  · have hz := hz rfl
    subst hz
    obtain ⟨W0, hW, hR, hB⟩ := box1 w 40 #[.bool (decide (r.num < 0)), .slice Ap Lp Cp, .slice Aq Lq Cq]
    obtain ⟨g, hg⟩ : ∃ g, g = w.heap.size := ⟨_, rfl⟩
    have hW' := Lib.hid (And.intro hW hg)
    rw [← hg] at hR
    have hgw : w.heap.size ≤ g := by omega
    clear hW hg
    have hA := hR
    replace hv := hv.below hB
    obtain ⟨c1_hA_0, c1_hA_1, c1_hA_2⟩ := hA.cells3
    go_enter Try.func33, Try.ntmps33
    go_wp2_with fail
    rw [← hW'.out.1, ← hW'.out.2]
    refine (hN _ hv).mono ?_
    rintro e w1 ⟨v1, rfl, h1, b1⟩
    replace hv := hv.below b1
    replace hA := hA.below b1 hA.lt
    replace hB := hB.trans (b1.mono hB.size)
    clear c1_hA_0 c1_hA_1 c1_hA_2
    obtain ⟨c2_hA_0, c2_hA_1, c2_hA_2⟩ := hA.cells3
    obtain ⟨n1, rfl, e1⟩ := (id h1 : IsZ _ _ _)
    obtain ⟨A1, L1, C1, rfl⟩ := e1.frm
    clear e1
    obtain ⟨V1, eV, bZ, bV1⟩ := box1 w1 38 #[.bool (decide (z < 0)), .slice A1 L1 C1]
    obtain ⟨X1, eX⟩ : ∃ X, X = w1.heap.size := ⟨_, rfl⟩
    rw [← eX] at bZ
    have EV1 := Lib.hid (And.intro eV eX)
    clear eV eX
    go_upto_region 2 with fail
    rw [← EV1.out.1, ← EV1.out.2]
    replace hv := hv.below bV1
    replace hA := hA.below bV1 hA.lt
    replace h1 := h1.below bV1
    replace hB := hB.trans (bV1.mono hB.size)
    clear c2_hA_0 c2_hA_1 c2_hA_2
    obtain ⟨c3_hA_0, c3_hA_1, c3_hA_2⟩ := hA.cells3
    clear c3_hA_0 c3_hA_1 c3_hA_2
    obtain ⟨c4_hA_0, c4_hA_1, c4_hA_2⟩ := hA.cells3
    obtain ⟨c4_bZ_0, c4_bZ_1⟩ := bZ.cells2
    go_wp2_with fail
    refine (hI _ _ h1).mono ?_
    rintro e w2 ⟨rfl, b2⟩
    replace hv := hv.below b2
    replace hA := hA.below b2 hA.lt
    replace h1 := h1.below b2
    replace bZ := bZ.below b2 bZ.lt
    replace hB := hB.trans (b2.mono hB.size)
    clear c4_hA_0 c4_hA_1 c4_hA_2 c4_bZ_0 c4_bZ_1
    obtain ⟨c5_hA_0, c5_hA_1, c5_hA_2⟩ := hA.cells3
    obtain ⟨c5_bZ_0, c5_bZ_1⟩ := bZ.cells2
    go_wp2
    go_ret2
    exact ⟨rfl, hB⟩
  · clear hz
    obtain ⟨W0, hW, hR, hB⟩ := box1 w 40 #[.bool (decide (r.num < 0)), .slice Ap Lp Cp, .slice Aq Lq Cq]
    obtain ⟨g, hg⟩ : ∃ g, g = w.heap.size := ⟨_, rfl⟩
    have hW' := Lib.hid (And.intro hW hg)
    rw [← hg] at hR
    have hgw : w.heap.size ≤ g := by omega
    clear hW hg
    have hA := hR
    replace hv := hv.below hB
    obtain ⟨c1_hA_0, c1_hA_1, c1_hA_2⟩ := hA.cells3
    go_enter Try.func33, Try.ntmps33
    go_wp2_with fail
    rw [← hW'.out.1, ← hW'.out.2]
    refine (hN _ hv).mono ?_
    rintro e w1 ⟨v1, rfl, h1, b1⟩
    replace hv := hv.below b1
    replace hA := hA.below b1 hA.lt
    replace hB := hB.trans (b1.mono hB.size)
    clear c1_hA_0 c1_hA_1 c1_hA_2
    obtain ⟨c2_hA_0, c2_hA_1, c2_hA_2⟩ := hA.cells3
    obtain ⟨n1, rfl, e1⟩ := (id h1 : IsZ _ _ _)
    obtain ⟨A1, L1, C1, rfl⟩ := e1.frm
    clear e1
    obtain ⟨V1, eV, bZ, bV1⟩ := box1 w1 38 #[.bool (decide (z < 0)), .slice A1 L1 C1]
    obtain ⟨X1, eX⟩ : ∃ X, X = w1.heap.size := ⟨_, rfl⟩
    rw [← eX] at bZ
    have EV1 := Lib.hid (And.intro eV eX)
    clear eV eX
    go_upto_region 2 with fail
    rw [← EV1.out.1, ← EV1.out.2]
    replace hv := hv.below bV1
    replace hA := hA.below bV1 hA.lt
    replace h1 := h1.below bV1
    replace hB := hB.trans (bV1.mono hB.size)
    clear c2_hA_0 c2_hA_1 c2_hA_2
    obtain ⟨c3_hA_0, c3_hA_1, c3_hA_2⟩ := hA.cells3
    clear c3_hA_0 c3_hA_1 c3_hA_2
    obtain ⟨c4_hA_0, c4_hA_1, c4_hA_2⟩ := hA.cells3
    obtain ⟨c4_bZ_0, c4_bZ_1⟩ := bZ.cells2
    go_wp2_with fail
    refine (hI _ _ h1).mono ?_
    rintro e w2 ⟨rfl, b2⟩
    replace hv := hv.below b2
    replace hA := hA.below b2 hA.lt
    replace h1 := h1.below b2
    replace bZ := bZ.below b2 bZ.lt
    replace hB := hB.trans (b2.mono hB.size)
    clear c4_hA_0 c4_hA_1 c4_hA_2 c4_bZ_0 c4_bZ_1
    obtain ⟨c5_hA_0, c5_hA_1, c5_hA_2⟩ := hA.cells3
    obtain ⟨c5_bZ_0, c5_bZ_1⟩ := bZ.cells2
    go_wp2
    go_ret2
    exact ⟨rfl, hB⟩
set_option maxHeartbeats 400000 in
theorem rfrac_any (f : Int) (w : World) : Calls Try.prog 53 #[.int .i64 f] w fun e w' => e = .returned (.bool (decide (0 ≤ f ∧ f ≤ 40))) ∧ w = w' := by
  by_cases h0 : 0 ≤ f
  · by_cases h1 : f ≤ 40
    · rw [decide_eq_true ⟨h0, h1⟩]
      go_enter Try.func53, Try.ntmps53
      go_wp2
      go_ret
      exact ⟨rfl, rfl⟩
    · rw [decide_eq_false (fun h => h1 h.2)]
      go_enter Try.func53, Try.ntmps53
      go_wp2
      go_ret
      exact ⟨rfl, rfl⟩
  · rw [decide_eq_false (fun h => h0 h.1)]
    go_enter Try.func53, Try.ntmps53
    go_wp2
    go_ret
    exact ⟨rfl, rfl⟩
set_option maxHeartbeats 2000000 in
theorem rrat_any (a : Int) (k : Nat) (w : World) (hk : k ≤ 40) (ha : In64 a) :
    Calls Try.prog 32 #[.int .i64 a, .int .i64 k] w fun e w' => ∃ v', e = .returned (.tuple #[v', .int .i64 0]) ∧ IsQ w' v' (mkRat a (2 ^ k)) ∧ Below w.heap.size w w' := by
  have hF := fun w => rfrac_any k w
  rw [decide_eq_true (by omega)] at hF
  have hO := fun w => rzof_any a ha.1 ha.2 w
  have sz : Sz a.natAbs 1 := Sz.u64 (by have := ha.1; have := ha.2; unfold W64; omega)
  have hBk := fun u w h => back_any u a k w h (by omega) (sz.more (by omega))
  generalize mkRat a (2 ^ k) = r at *
  clear sz ha
  obtain ⟨W0, hW, hR, hB⟩ := box1 w 40 #[.bool false, .slice none 0 0, .slice none 0 0]
  obtain ⟨g, hg⟩ : ∃ g, g = w.heap.size := ⟨_, rfl⟩
  have hW' := Lib.hid (And.intro hW hg)
  rw [← hg] at hR
  have hgw : w.heap.size ≤ g := by omega
  clear hW hg
  skip
  obtain ⟨c1_hR_0, c1_hR_1, c1_hR_2⟩ := hR.cells3
  go_enter Try.func32, Try.ntmps32
  go_wp2_with fail
  rw [← hW'.out.1, ← hW'.out.2]
  refine (hF _).mono ?_
  rintro e w1 ⟨rfl, rfl⟩
  go_wp2_with fail
  refine (hO _).mono ?_
  rintro e w2 ⟨v1, rfl, h1, b2⟩
  replace hR := hR.below b2 hR.lt
  replace hB := hB.trans (b2.mono hB.size)
  clear c1_hR_0 c1_hR_1 c1_hR_2
  obtain ⟨c2_hR_0, c2_hR_1, c2_hR_2⟩ := hR.cells3
  go_wp2_with fail
  refine (hBk _ _ h1).mono ?_
  rintro e w3 ⟨v2, rfl, ⟨n2, d2, rfl, h2, k2⟩, b3⟩
  replace hR := hR.below b3 hR.lt
  replace h1 := h1.below b3
  replace hB := hB.trans (b3.mono hB.size)
  clear c2_hR_0 c2_hR_1 c2_hR_2
  obtain ⟨c3_hR_0, c3_hR_1, c3_hR_2⟩ := hR.cells3
  obtain ⟨A2, L2, C2, rfl⟩ := h2.frm
  obtain ⟨A3, L3, C3, rfl⟩ := k2.frm
  obtain ⟨p1, p2, p3⟩ := put3 hR (.bool (decide (r.num < 0))) (.slice A2 L2 C2) (.slice A3 L3 C3) (by simp [noU]) hB (by omega)
  have q0 := hR.cell 0
  have z0 := hR.frozen 0
  have q1 := hR.cell 1
  have z1 := hR.frozen 1
  have q2 := hR.cell 2
  have z2 := hR.frozen 2
  have P := Lib.hid (And.intro (⟨_, _, rfl, p2 _ _ h2, p2 _ _ k2⟩ : IsQ _ (.agg #[.bool (decide (r.num < 0)), .slice A2 L2 C2, .slice A3 L3 C3]) r) (And.intro p3 p1.cells3))
  clear p1 p2 p3 hF hO hBk
  go_wp2_with fail
  obtain ⟨P1, P2, P3, P4, P5⟩ := P.out
  exact bodyPost_ret (v := .tuple #[.agg #[.bool (decide (r.num < 0)), .slice A2 L2 C2, .slice A3 L3 C3], .int .i64 0]) (by simp [results, Try.results32, go_sem, P3, P4, P5, q0, q1, q2]) rfl ⟨_, rfl, P1, P2⟩
set_option maxHeartbeats 2000000 in
theorem r08add_any (a b : Int) (w : World) (ha : In64 a) (hb : In64 b) :
    Calls Try.prog 64 #[.int .i64 a, .int .i64 b] w fun e w' => e = .returned (.tuple #[.int .i64 (fitV (a + b)), .int .i64 (fitE (a + b))]) ∧ Below w.heap.size w w' := by
  have hA := fun w => rqof_any a ha.1 ha.2 w
  have hB0 := fun w => rqof_any b hb.1 hb.2 w
  have sa : BQ (a : Rat) 1 := BQ.int (by have := ha.1; have := ha.2; unfold W64; omega)
  have sb : BQ (b : Rat) 1 := BQ.int (by have := hb.1; have := hb.2; unfold W64; omega)
  have hS := fun u v w h1 h2 => rqadd_any u v (a : Rat) (b : Rat) w h1 h2 (sa.more (by omega)) (sb.more (by omega))
  have hN := fun u w h => r08near_any u ((a : Rat) + (b : Rat)) 0 w h (by omega) ((sa.add sb).more (by omega))
  have e : (a : Rat) + (b : Rat) = ((a + b : Int) : Rat) := (Rat.intCast_add a b).symm
  rw [e, near_int] at hN
  rw [e] at hS
  clear e sa sb ha hb
  generalize a + b = c at *
  have hB := Below.refl w.heap.size w
  go_enter Try.func64, Try.ntmps64
  go_wp2_with fail
  refine (hA _).mono ?_
  rintro e w1 ⟨v1, rfl, h1, b1⟩
  replace hB := hB.trans (b1.mono hB.size)
  go_wp2_with fail
  refine (hB0 _).mono ?_
  rintro e w2 ⟨v2, rfl, h2, b2⟩
  replace h1 := h1.below b2
  replace hB := hB.trans (b2.mono hB.size)
  go_wp2_with fail
  refine (hS _ _ _ h1 h2).mono ?_
  rintro e w3 ⟨v3, rfl, h3, b3⟩
  replace h1 := h1.below b3
  replace h2 := h2.below b3
  replace hB := hB.trans (b3.mono hB.size)
  go_wp2_with fail
  refine (hN _ _ h3).mono ?_
  rintro e w4 ⟨rfl, b4⟩
  replace h1 := h1.below b4
  replace h2 := h2.below b4
  replace h3 := h3.below b4
  replace hB := hB.trans (b4.mono hB.size)
  go_wp2
  go_ret2
  exact ⟨rfl, hB⟩
set_option maxHeartbeats 2000000 in
theorem r08sub_any (a b : Int) (w : World) (ha : In64 a) (hb : In64 b) :
    Calls Try.prog 65 #[.int .i64 a, .int .i64 b] w fun e w' => e = .returned (.tuple #[.int .i64 (fitV (a - b)), .int .i64 (fitE (a - b))]) ∧ Below w.heap.size w w' := by
  have hA := fun w => rqof_any a ha.1 ha.2 w
  have hB0 := fun w => rqof_any b hb.1 hb.2 w
  have sa : BQ (a : Rat) 1 := BQ.int (by have := ha.1; have := ha.2; unfold W64; omega)
  have sb : BQ (b : Rat) 1 := BQ.int (by have := hb.1; have := hb.2; unfold W64; omega)
  have hS := fun u v w h1 h2 => rqsub_any u v (a : Rat) (b : Rat) w h1 h2 (sa.more (by omega)) (sb.more (by omega))
  have hN := fun u w h => r08near_any u ((a : Rat) - (b : Rat)) 0 w h (by omega) (by rw [Rat.sub_eq_add_neg]; exact (sa.add sb.neg).more (by omega))
  have e : (a : Rat) - (b : Rat) = ((a - b : Int) : Rat) := (Rat.intCast_sub a b).symm
  rw [e, near_int] at hN
  rw [e] at hS
  clear e sa sb ha hb
  generalize a - b = c at *
  have hB := Below.refl w.heap.size w
  go_enter Try.func65, Try.ntmps65
  go_wp2_with fail
  refine (hA _).mono ?_
  rintro e w1 ⟨v1, rfl, h1, b1⟩
  replace hB := hB.trans (b1.mono hB.size)
  go_wp2_with fail
  refine (hB0 _).mono ?_
  rintro e w2 ⟨v2, rfl, h2, b2⟩
  replace h1 := h1.below b2
  replace hB := hB.trans (b2.mono hB.size)
  go_wp2_with fail
  refine (hS _ _ _ h1 h2).mono ?_
  rintro e w3 ⟨v3, rfl, h3, b3⟩
  replace h1 := h1.below b3
  replace h2 := h2.below b3
  replace hB := hB.trans (b3.mono hB.size)
  go_wp2_with fail
  refine (hN _ _ h3).mono ?_
  rintro e w4 ⟨rfl, b4⟩
  replace h1 := h1.below b4
  replace h2 := h2.below b4
  replace h3 := h3.below b4
  replace hB := hB.trans (b4.mono hB.size)
  go_wp2
  go_ret2
  exact ⟨rfl, hB⟩
set_option maxHeartbeats 2000000 in
theorem r08mul_any (a b : Int) (k : Nat) (w : World) (hk : k ≤ 40) (ha : In64 a) (hb : In64 b) :
    Calls Try.prog 18 #[.int .i64 a, .int .i64 b, .int .i64 k] w fun e w' => e = .returned (.tuple #[.int .i64 (fitV (mulZ a b k)), .int .i64 (fitE (mulZ a b k))]) ∧ Below w.heap.size w w' := by
  have hA := fun w => rrat_any a k w hk ha
  have hB0 := fun w => rrat_any b k w hk hb
  have sp : Sz (2 ^ k) 1 := (Sz.two_pow k).more (by omega)
  have sa : BQ (mkRat a (2 ^ k)) 1 := BQ.mk (Sz.u64 (by have := ha.1; have := ha.2; unfold W64; omega)) sp (by omega)
  have sb : BQ (mkRat b (2 ^ k)) 1 := BQ.mk (Sz.u64 (by have := hb.1; have := hb.2; unfold W64; omega)) sp (by omega)
  have hM := fun u v w h1 h2 => rqmul_any u v (mkRat a (2 ^ k)) (mkRat b (2 ^ k)) w h1 h2 (sa.more (by omega)) (sb.more (by omega))
  have hN := fun u w h => r08near_any u (mkRat a (2 ^ k) * mkRat b (2 ^ k)) k w h (by omega) ((sa.mul sb).more (by omega))
  rw [near_mul] at hN
  generalize mulZ a b k = z at *
  generalize mkRat a (2 ^ k) * mkRat b (2 ^ k) = p at *
  generalize mkRat a (2 ^ k) = x at *
  generalize mkRat b (2 ^ k) = y at *
  clear sp sa sb ha hb
  have hB := Below.refl w.heap.size w
  go_enter Try.func18, Try.ntmps18
  go_wp2_with fail
  refine (hA _).mono ?_
  rintro e w1 ⟨v1, rfl, h1, b1⟩
  replace hB := hB.trans (b1.mono hB.size)
  obtain ⟨n1, d1, rfl, e1, f1⟩ := (id h1 : IsQ _ _ _)
  obtain ⟨A1, L1, C1, rfl⟩ := e1.frm
  obtain ⟨D1, M1, E1, rfl⟩ := f1.frm
  clear e1 f1
  obtain ⟨V1, eV, bX, bV1⟩ := box1 w1 40 #[.bool (decide (x.num < 0)), .slice A1 L1 C1, .slice D1 M1 E1]
  obtain ⟨X1, eX⟩ : ∃ X, X = w1.heap.size := ⟨_, rfl⟩
  rw [← eX] at bX
  have EV1 := Lib.hid (And.intro eV eX)
  clear eV eX
  go_upto_region 2 with fail
  rw [← EV1.out.1, ← EV1.out.2]
  replace h1 := h1.below bV1
  replace hB := hB.trans (bV1.mono hB.size)
  obtain ⟨c3_bX_0, c3_bX_1, c3_bX_2⟩ := bX.cells3
  go_wp2_with fail
  refine (hB0 _).mono ?_
  rintro e w2 ⟨v2, rfl, h2, b2⟩
  replace h1 := h1.below b2
  replace bX := bX.below b2 bX.lt
  replace hB := hB.trans (b2.mono hB.size)
  clear c3_bX_0 c3_bX_1 c3_bX_2
  obtain ⟨c4_bX_0, c4_bX_1, c4_bX_2⟩ := bX.cells3
  obtain ⟨n2, d2, rfl, e2, f2⟩ := (id h2 : IsQ _ _ _)
  obtain ⟨A2, L2, C2, rfl⟩ := e2.frm
  obtain ⟨D2, M2, E2, rfl⟩ := f2.frm
  clear e2 f2
  obtain ⟨V2, eV, bY, bV2⟩ := box1 w2 40 #[.bool (decide (y.num < 0)), .slice A2 L2 C2, .slice D2 M2 E2]
  obtain ⟨X2, eX⟩ : ∃ X, X = w2.heap.size := ⟨_, rfl⟩
  rw [← eX] at bY
  have EV2 := Lib.hid (And.intro eV eX)
  clear eV eX
  go_upto_region 3 with fail
  rw [← EV2.out.1, ← EV2.out.2]
  replace h1 := h1.below bV2
  replace bX := bX.below bV2 bX.lt
  replace h2 := h2.below bV2
  replace hB := hB.trans (bV2.mono hB.size)
  clear c4_bX_0 c4_bX_1 c4_bX_2
  obtain ⟨c5_bX_0, c5_bX_1, c5_bX_2⟩ := bX.cells3
  clear c5_bX_0 c5_bX_1 c5_bX_2
  obtain ⟨c6_bX_0, c6_bX_1, c6_bX_2⟩ := bX.cells3
  obtain ⟨c6_bY_0, c6_bY_1, c6_bY_2⟩ := bY.cells3
  go_wp2_with fail
  refine (hM _ _ _ h1 h2).mono ?_
  rintro e w3 ⟨v3, rfl, h3, b3⟩
  replace h1 := h1.below b3
  replace bX := bX.below b3 bX.lt
  replace h2 := h2.below b3
  replace bY := bY.below b3 bY.lt
  replace hB := hB.trans (b3.mono hB.size)
  clear c6_bX_0 c6_bX_1 c6_bX_2 c6_bY_0 c6_bY_1 c6_bY_2
  obtain ⟨c7_bX_0, c7_bX_1, c7_bX_2⟩ := bX.cells3
  obtain ⟨c7_bY_0, c7_bY_1, c7_bY_2⟩ := bY.cells3
  go_wp2_with fail
  refine (hN _ _ h3).mono ?_
  rintro e w4 ⟨rfl, b4⟩
  replace h1 := h1.below b4
  replace bX := bX.below b4 bX.lt
  replace h2 := h2.below b4
  replace bY := bY.below b4 bY.lt
  replace h3 := h3.below b4
  replace hB := hB.trans (b4.mono hB.size)
  clear c7_bX_0 c7_bX_1 c7_bX_2 c7_bY_0 c7_bY_1 c7_bY_2
  obtain ⟨c8_bX_0, c8_bX_1, c8_bX_2⟩ := bX.cells3
  obtain ⟨c8_bY_0, c8_bY_1, c8_bY_2⟩ := bY.cells3
  go_wp2
  go_ret2
  exact ⟨rfl, hB⟩
set_option maxHeartbeats 1000000 in
theorem one_any (n : Nat) (hn : n ≤ 40) (w : World) : Calls Try.prog 44 #[.int .i64 n] w fun e w' => e = .returned (.int .i64 ((2 ^ n : Nat) : Int)) ∧ w = w' := by
  have HP := Lib.hid (fun k (hk : k ≤ 40) => (⟨Nat.pow_pos (by omega), Nat.pow_le_pow_right (by omega) hk⟩ : 1 ≤ 2 ^ k ∧ 2 ^ k ≤ 1099511627776))
  go_enter Try.func44, Try.ntmps44
  go_wp2
  go_loop [3, 4] (fun o i => ∃ k : Nat, k ≤ n ∧ i = .int .i64 k ∧ o = .int .i64 ((2 ^ k : Nat) : Int)) (fun _ i => n - (intOf i).toNat)
  case atStart => exact ⟨0, by omega, rfl, rfl⟩
  case round =>
    obtain ⟨k, hk, rfl, rfl⟩ := hrel
    by_cases hlt : k < n
    · have hb := (HP.out (k + 1) (by omega)).2
      obtain ⟨x, hx⟩ : ∃ x, x = 2 ^ k := ⟨_, rfl⟩
      have hx2 : 2 ^ (k + 1) = x * 2 := by rw [hx, Nat.pow_succ]
      rw [hx2] at hb
      rw [← hx]
      have hb' : ((x : Nat) : Int) ≤ 1099511627776 := by omega
      have X := Lib.hid hx2
      clear hx hx2 hb
      go_wp2
      go_round
      case rel => exact ⟨k + 1, by omega, by go_num, by rw [X.out]; go_num⟩
      case measure => simp [intOf]; omega
    · obtain rfl : k = n := by omega
      go_wp2
      go_ret
      exact ⟨rfl, rfl⟩
theorem one17_any (n : Nat) (hn : n ≤ 40) (w : World) : Calls Try.prog 26 #[.int .i64 n] w fun e w' => e = .returned (.int .i64 ((2 ^ n : Nat) : Int)) ∧ w = w' := by
  have h := fun w => one_any n hn w
  generalize ((2 ^ n : Nat) : Int) = x at *
  go_enter Try.func26, Try.ntmps26
  go_wp2_with fail
  refine (h _).mono ?_
  rintro e w' ⟨rfl, rfl⟩
  go_wp2
  go_ret
  exact ⟨rfl, rfl⟩
end Go.Proofs.Ytbnnonmkkkhepaa
