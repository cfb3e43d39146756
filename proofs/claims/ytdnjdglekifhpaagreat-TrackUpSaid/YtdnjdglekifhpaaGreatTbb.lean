/- A part of the proof of: A bound a step on is no less than what it is exactly, and less than the next of the grid; greater ones come of greater ones; around a number lies what is so near, and nothing else. No conditions: every input. -/
import Derived.Test.YtdnjdglekifhpaaGreatTba
namespace Go.Proofs.YtdnjdglekifhpaaGreat
open Go.RowKit
attribute [local go_sem ↓] Go.wp_at_zero Go.wp_at_succ
def stepsQ (n : Int) (k : Nat) (r : Rat) : Rat := divQ (absQ (mkRat n (2 ^ k) - r)) (mkRat 1 (2 ^ k))
theorem one_num (k : Nat) : (mkRat 1 (2 ^ k)).num ≠ 0 := by
  intro h
  have := Rat.num_eq_zero.1 h
  rw [Rat.mkRat_eq_zero (Nat.ne_of_gt (Nat.pow_pos (by omega)))] at this
  omega
set_option maxRecDepth 100000 in
set_option maxHeartbeats 8000000 in
theorem rsteps_any (n : Int) (k : Nat) (va : Value) (a : Rat) (w : World) (hk : k ≤ 40) (hb : In64 n) (ha : IsQ w va a) (sa : BQ a 2000) :
    Calls Tryz.prog 29 #[.int .i64 n, .int .i64 k, va] w fun e w' => ∃ v', e = .returned v' ∧ IsQ w' v' (stepsQ n k a) ∧ Below w.heap.size w w' := by
  have hN := fun w => rrat_any n k w hk hb
  have sx := sz_man hb hk
  have h1 : In64 1 := ⟨by omega, by omega⟩
  have hO := fun w => rrat_any 1 k w hk h1
  have s1' := sz_man h1 hk
  have hSu := fun u v w hu hv => rqsub_any u v (mkRat n (2 ^ k)) a w hu hv (sx.more (by omega)) (sa.more (by omega))
  have sm : BQ (mkRat n (2 ^ k) - a) 5000 := by rw [Rat.sub_eq_add_neg]; exact (sx.add sa.neg).more (by omega)
  have hAb := fun u w hu => rqabs_any u (mkRat n (2 ^ k) - a) w hu
  have hDi := fun u v w hu hv => rqdiv_any u v (absQ (mkRat n (2 ^ k) - a)) (mkRat 1 (2 ^ k)) w hu hv (sm.abs.more (by omega)) (s1'.more (by omega)) (one_num k)
  rw [show divQ (absQ (mkRat n (2 ^ k) - a)) (mkRat 1 (2 ^ k)) = stepsQ n k a from rfl] at hDi
  generalize stepsQ n k a = rs at *
  generalize absQ (mkRat n (2 ^ k) - a) = ra at *
  generalize mkRat n (2 ^ k) - a = rd at *
  generalize mkRat 1 (2 ^ k) = st at *
  generalize mkRat n (2 ^ k) = x at *
  obtain ⟨s1, A1, L1, C1, D1, M1, E1, rfl, q1⟩ := ha.opn
  clear sx s1' sm sa ha h1 hb
  obtain ⟨g, hg⟩ : ∃ g, g = w.heap.size := ⟨_, rfl⟩
  obtain ⟨Y0, eY0, hA, bY0⟩ := box1 w 32 #[.bool s1, .slice A1 L1 C1, .slice D1 M1 E1]
  have zY0 : Y0.heap.size = g + 1 := by rw [eY0, World.size_alloc, ← hg]
  rw [← hg] at hA
  replace q1 := q1.below bY0
  have hB := bY0
  obtain ⟨Y1, eY1, hR, bY1⟩ := box1 Y0 32 #[.bool false, .slice none 0 0, .slice none 0 0]
  have zY1 : Y1.heap.size = g + 1 + 1 := by rw [eY1, World.size_alloc, zY0]
  rw [zY0] at hR
  replace hA := hA.below bY1 hA.lt
  replace q1 := q1.below bY1
  replace hB := hB.trans (bY1.mono hB.size)
  have hgw : w.heap.size ≤ g := by omega
  have EY := Lib.hid (And.intro hg (And.intro eY0 eY1))
  clear hg eY0 zY0 eY1 zY1
  obtain ⟨c0, c1, c2⟩ := hA.q3
  obtain ⟨c3, c4, c5⟩ := hR.q3
  go_enter Tryz.func29, Tryz.ntmps29
  go_wp2_with fail
  rw [← EY.out.2.1, ← EY.out.2.2, ← EY.out.1]
  refine (hN _).mono ?_
  rintro e w2 ⟨v3, rfl, q3, b2⟩
  replace q1 := q1.below b2
  replace hA := hA.below b2 hA.lt
  replace hR := hR.below b2 hR.lt
  replace hB := hB.trans (b2.mono hB.size)
  clear c0 c1 c2 c3 c4 c5
  obtain ⟨c6, c7, c8⟩ := hA.q3
  obtain ⟨c9, c10, c11⟩ := hR.q3
  obtain ⟨s3, A3, L3, C3, D3, M3, E3, rfl, q3⟩ := q3.opn
  obtain ⟨V4, eV, hV, bV4⟩ := box1 w2 32 #[.bool s3, .slice A3 L3 C3, .slice D3 M3 E3]
  obtain ⟨X4, eX⟩ : ∃ X, X = w2.heap.size := ⟨_, rfl⟩
  rw [← eX] at hV
  have lX4 : w.heap.size ≤ X4 := by rw [eX]; exact hB.size
  have dX4_hA : g ≠ X4 := by have := hA.lt; omega
  have dX4_hR : g + 1 ≠ X4 := by have := hR.lt; omega
  have EV4 := Lib.hid (And.intro eV eX)
  clear eV eX
  go_upto_region 2 with fail
  rw [← EV4.out.1, ← EV4.out.2]
  replace q1 := q1.below bV4
  replace hA := hA.below bV4 hA.lt
  replace hR := hR.below bV4 hR.lt
  replace q3 := q3.below bV4
  replace hB := hB.trans (bV4.mono hB.size)
  clear c6 c7 c8 c9 c10 c11
  obtain ⟨c12, c13, c14⟩ := hA.q3
  obtain ⟨c15, c16, c17⟩ := hR.q3
  obtain ⟨c18, c19, c20⟩ := hV.q3
  go_wp2_with fail
  refine (hO _).mono ?_
  rintro e w6 ⟨v4, rfl, q4, b6⟩
  replace q1 := q1.below b6
  replace hA := hA.below b6 hA.lt
  replace hR := hR.below b6 hR.lt
  replace q3 := q3.below b6
  replace hV := hV.below b6 hV.lt
  replace hB := hB.trans (b6.mono hB.size)
  clear c12 c13 c14 c15 c16 c17 c18 c19 c20
  obtain ⟨c21, c22, c23⟩ := hA.q3
  obtain ⟨c24, c25, c26⟩ := hR.q3
  obtain ⟨c27, c28, c29⟩ := hV.q3
  obtain ⟨s4, A4, L4, C4, D4, M4, E4, rfl, q4⟩ := q4.opn
  obtain ⟨V8, eV, hX, bV8⟩ := box1 w6 32 #[.bool s4, .slice A4 L4 C4, .slice D4 M4 E4]
  obtain ⟨X8, eX⟩ : ∃ X, X = w6.heap.size := ⟨_, rfl⟩
  rw [← eX] at hX
  have lX8 : w.heap.size ≤ X8 := by rw [eX]; exact hB.size
  have dX8_hA : g ≠ X8 := by have := hA.lt; omega
  have dX8_hR : g + 1 ≠ X8 := by have := hR.lt; omega
  have dX8_hV : X4 ≠ X8 := by have := hV.lt; omega
  have EV8 := Lib.hid (And.intro eV eX)
  clear eV eX
  go_upto_region 3 with fail
  rw [← EV8.out.1, ← EV8.out.2]
  replace q1 := q1.below bV8
  replace hA := hA.below bV8 hA.lt
  replace hR := hR.below bV8 hR.lt
  replace q3 := q3.below bV8
  replace hV := hV.below bV8 hV.lt
  replace q4 := q4.below bV8
  replace hB := hB.trans (bV8.mono hB.size)
  clear c21 c22 c23 c24 c25 c26 c27 c28 c29
  obtain ⟨c30, c31, c32⟩ := hA.q3
  obtain ⟨c33, c34, c35⟩ := hR.q3
  obtain ⟨c36, c37, c38⟩ := hV.q3
  obtain ⟨c39, c40, c41⟩ := hX.q3
  replace hB := hB.drew
  replace q1 := q1.below (bdrew _)
  replace hA := hA.drew
  replace hR := hR.drew
  replace q3 := q3.below (bdrew _)
  replace hV := hV.drew
  replace q4 := q4.below (bdrew _)
  replace hX := hX.drew
  clear c30 c31 c32 c33 c34 c35 c36 c37 c38 c39 c40 c41
  go_cut [11, 12] (fun s11 s12 wx => ∃ X9 s7 A7 L7 C7 D7 M7 E7, s11 = .pointer (some ⟨X9, 0, none⟩) ∧ s12 = .int .i64 0 ∧ Blk wx (g + 1) 32 #[.bool false, .slice none 0 0, .slice none 0 0] ∧ IsQ wx (.agg #[.bool s7, .slice A7 L7 C7, .slice D7 M7 E7]) rs ∧ Blk wx X9 32 #[.bool s7, .slice A7 L7 C7, .slice D7 M7 E7] ∧ Below w.heap.size w wx ∧ w.heap.size ≤ X9 ∧ g + 1 ≠ X9)
  case first =>
    refine wp_region_noPanic ?_
    refine wp_region_held_drew (S := fun w' => w'.cell? ⟨X4, 0, none⟩ = some (.bool s3) ∧ w'.cell? ⟨X4, 1, none⟩ = some (.slice A3 L3 C3) ∧ w'.cell? ⟨X4, 2, none⟩ = some (.slice D3 M3 E3) ∧ w'.cell? ⟨g, 0, none⟩ = some (.bool s1) ∧ w'.cell? ⟨g, 1, none⟩ = some (.slice A1 L1 C1) ∧ w'.cell? ⟨g, 2, none⟩ = some (.slice D1 M1 E1) ∧ w'.cell? ⟨X8, 0, none⟩ = some (.bool s4) ∧ w'.cell? ⟨X8, 1, none⟩ = some (.slice A4 L4 C4) ∧ w'.cell? ⟨X8, 2, none⟩ = some (.slice D4 M4 E4)) (by kernel_rfl) ?_ (fun hHeld => ?_)
    · exact ⟨hV.cell 0, hV.cell 1, hV.cell 2, hA.cell 0, hA.cell 1, hA.cell 2, hX.cell 0, hX.cell 1, hX.cell 2⟩
    obtain ⟨wd3_1, hwd⟩ : ∃ q, q = V8.drew := ⟨_, rfl⟩
    rw [← hwd] at hB q1 hA hR q3 hV q4 hX hHeld ⊢
    clear hwd
    refine tkH 0 rfl (v := ?v16) ?h16 ?r16
    case h16 => intro w hSw; (try dsimp only at hSw); go_simp; try (with_reducible rfl)
    refine tkH 1 rfl (v := ?v17) ?h17 ?r17
    case h17 => intro w hSw; (try dsimp only at hSw); go_simp; try (with_reducible rfl)
    refine tkH 4 rfl (v := ?v18) ?h18 ?r18
    case h18 => intro w hSw; (try dsimp only at hSw); go_simp; try (with_reducible rfl)
    try simp only [Act.put, lay1, lay2, lay3, lay4, lay5, lay6]
    refine wpAnyH_ready (rs := [2, 9]) (by kernel_rfl) (by simp) (AllReadyH.cons rfl (fun K hK => ?_) (AllReadyH.cons rfl (fun K hK => ?_) AllReadyH.nil))
    · go_simp
      refine (hSu _ _ _ q3 q1).mono ?_
      rintro e u3_1 ⟨v5, rfl, q5, b3_1⟩
      replace q1 := q1.below b3_1
      replace hA := hA.below b3_1 hA.lt
      replace hR := hR.below b3_1 hR.lt
      replace q3 := q3.below b3_1
      replace hV := hV.below b3_1 hV.lt
      replace q4 := q4.below b3_1
      replace hX := hX.below b3_1 hX.lt
      replace hB := hB.trans (b3_1.mono hB.size)
      obtain ⟨s5, A5, L5, C5, D5, M5, E5, rfl, q5⟩ := q5.opn
      go_wp2_with fail
      refine hK.out _ _ ?_ (fun hHeld => ?_)
      · exact ⟨hV.cell 0, hV.cell 1, hV.cell 2, hA.cell 0, hA.cell 1, hA.cell 2, hX.cell 0, hX.cell 1, hX.cell 2⟩
      clear hK K
      try simp only [Act.put, lay1, lay2, lay3, lay4, lay5, lay6]
      refine wpAnyH_ready (rs := [3, 9]) (by kernel_rfl) (by simp) (AllReadyH.cons rfl (fun K hK => ?_) (AllReadyH.cons rfl (fun K hK => ?_) AllReadyH.nil))
      · go_simp
        refine (hAb _ _ q5).mono ?_
        rintro e u3_2 ⟨v6, rfl, q6, b3_2⟩
        replace q1 := q1.below b3_2
        replace hA := hA.below b3_2 hA.lt
        replace hR := hR.below b3_2 hR.lt
        replace q3 := q3.below b3_2
        replace hV := hV.below b3_2 hV.lt
        replace q4 := q4.below b3_2
        replace hX := hX.below b3_2 hX.lt
        replace q5 := q5.below b3_2
        replace hB := hB.trans (b3_2.mono hB.size)
        obtain ⟨s6, A6, L6, C6, D6, M6, E6, rfl, q6⟩ := q6.opn
        go_wp2_with fail
        refine hK.out _ _ ?_ (fun hHeld => ?_)
        · exact ⟨hV.cell 0, hV.cell 1, hV.cell 2, hA.cell 0, hA.cell 1, hA.cell 2, hX.cell 0, hX.cell 1, hX.cell 2⟩
        clear hK K
        try simp only [Act.put, lay1, lay2, lay3, lay4, lay5, lay6]
        refine wpAnyH_ready (rs := [5, 9]) (by kernel_rfl) (by simp) (AllReadyH.cons rfl (fun K hK => ?_) (AllReadyH.cons rfl (fun K hK => ?_) AllReadyH.nil))
        · go_simp
          refine (hDi _ _ _ q6 q4).mono ?_
          rintro e u3_3 ⟨v7, rfl, q7, b3_3⟩
          replace q1 := q1.below b3_3
          replace hA := hA.below b3_3 hA.lt
          replace hR := hR.below b3_3 hR.lt
          replace q3 := q3.below b3_3
          replace hV := hV.below b3_3 hV.lt
          replace q4 := q4.below b3_3
          replace hX := hX.below b3_3 hX.lt
          replace q5 := q5.below b3_3
          replace q6 := q6.below b3_3
          replace hB := hB.trans (b3_3.mono hB.size)
          obtain ⟨s7, A7, L7, C7, D7, M7, E7, rfl, q7⟩ := q7.opn
          go_wp2_with fail
          refine hK.out _ _ ?_ (fun hHeld => ?_)
          · exact ⟨hV.cell 0, hV.cell 1, hV.cell 2, hA.cell 0, hA.cell 1, hA.cell 2, hX.cell 0, hX.cell 1, hX.cell 2⟩
          clear hK K
          refine tkH 6 rfl (v := ?v19) ?h19 ?r19
          case h19 => intro w hSw; (try dsimp only at hSw); go_simp; try (with_reducible rfl)
          refine tkH 7 rfl (v := ?v20) ?h20 ?r20
          case h20 => intro w hSw; (try dsimp only at hSw); go_simp; try (with_reducible rfl)
          refine tkH 8 rfl (v := ?v21) ?h21 ?r21
          case h21 => intro w hSw; (try dsimp only at hSw); go_simp; try (with_reducible rfl)
          try simp only [Act.put, lay1, lay2, lay3, lay4, lay5, lay6]
          refine wpAnyH_ready (rs := [9]) (by kernel_rfl) (by simp) (AllReadyH.cons rfl (fun K hK => ?_) AllReadyH.nil)
          obtain ⟨u3_4, eu, hU, b3_4⟩ := box1 u3_3 32 #[.bool false, .slice none 0 0, .slice none 0 0]
          obtain ⟨X9, en⟩ : ∃ X, X = u3_3.heap.size := ⟨_, rfl⟩
          rw [← en] at hU
          have lX9 : w.heap.size ≤ X9 := by rw [en]; exact hB.size
          have dX9_hA : g ≠ X9 := by have := hA.lt; omega
          have dX9_hR : g + 1 ≠ X9 := by have := hR.lt; omega
          have dX9_hV : X4 ≠ X9 := by have := hV.lt; omega
          have dX9_hX : X8 ≠ X9 := by have := hX.lt; omega
          have EUX9 := Lib.hid (And.intro eu en)
          clear eu en
          go_simp
          rw [← EUX9.out.1, ← EUX9.out.2]
          replace q1 := q1.below b3_4
          replace hA := hA.below b3_4 hA.lt
          replace hR := hR.below b3_4 hR.lt
          replace q3 := q3.below b3_4
          replace hV := hV.below b3_4 hV.lt
          replace q4 := q4.below b3_4
          replace hX := hX.below b3_4 hX.lt
          replace q5 := q5.below b3_4
          replace q6 := q6.below b3_4
          replace q7 := q7.below b3_4
          replace hB := hB.trans (b3_4.mono hB.size)
          refine hK.out _ _ ?_ (fun hHeld => ?_)
          · exact ⟨hV.cell 0, hV.cell 1, hV.cell 2, hA.cell 0, hA.cell 1, hA.cell 2, hX.cell 0, hX.cell 1, hX.cell 2⟩
          clear hK K
          try simp only [Act.put, lay1, lay2, lay3, lay4, lay5, lay6]
          refine wpAnyH_ready (rs := [10]) (by kernel_rfl) (by simp) (AllReadyH.cons rfl (fun K hK => ?_) AllReadyH.nil)
          obtain ⟨u3_5, eu, hU', kz, kb, kB⟩ := fill3 hU (.bool s7) (.slice A7 L7 C7) (.slice D7 M7 E7) (by simp [noU])
          have x0 : World.cell? _ ⟨X9, 0, none⟩ = some (.bool false) := hU.cell 0
          have x1 : World.cell? _ ⟨X9, 1, none⟩ = some (.slice none 0 0) := hU.cell 1
          have x2 : World.cell? _ ⟨X9, 2, none⟩ = some (.slice none 0 0) := hU.cell 2
          have xf := hU.frozen
          go_simp
          rw [← eu]
          replace q1 := q1.filled kz
          replace hA := kb _ _ _ hA (by omega)
          replace hR := kb _ _ _ hR (by omega)
          replace q3 := q3.filled kz
          replace hV := kb _ _ _ hV (by omega)
          replace q4 := q4.filled kz
          replace hX := kb _ _ _ hX (by omega)
          replace q5 := q5.filled kz
          replace q6 := q6.filled kz
          replace q7 := q7.filled kz
          replace hB := kB _ _ (by omega) hB
          replace hU := hU'
          clear hU' kz kb kB eu xf x0 x1 x2
          refine hK.out _ _ ?_ (fun hHeld => ?_)
          · exact ⟨hV.cell 0, hV.cell 1, hV.cell 2, hA.cell 0, hA.cell 1, hA.cell 2, hX.cell 0, hX.cell 1, hX.cell 2⟩
          clear hK K
          refine tkH 11 rfl (v := ?v22) ?h22 ?r22
          case h22 => intro w hSw; (try dsimp only at hSw); go_simp; try (with_reducible rfl)
          try simp only [Act.put, lay1, lay2, lay3, lay4, lay5, lay6]
          try dsimp only
          try simp only [Act.put, lay1, lay2, lay3, lay4, lay5, lay6]
          refine wpAnyH_done (by kernel_rfl) ?_ _
          refine NoPanic.normal ?_
          go_wp2_with fail
          go_meet
          exact ⟨X9, s7, A7, L7, C7, D7, M7, E7, rfl, rfl, hR, q7, hU, hB, lX9, (by assumption)⟩
        · obtain ⟨u3_6, eu, hU, b3_6⟩ := box1 u3_2 32 #[.bool false, .slice none 0 0, .slice none 0 0]
          obtain ⟨X9, en⟩ : ∃ X, X = u3_2.heap.size := ⟨_, rfl⟩
          rw [← en] at hU
          have lX9 : w.heap.size ≤ X9 := by rw [en]; exact hB.size
          have dX9_hA : g ≠ X9 := by have := hA.lt; omega
          have dX9_hR : g + 1 ≠ X9 := by have := hR.lt; omega
          have dX9_hV : X4 ≠ X9 := by have := hV.lt; omega
          have dX9_hX : X8 ≠ X9 := by have := hX.lt; omega
          have EUX9 := Lib.hid (And.intro eu en)
          clear eu en
          go_simp
          rw [← EUX9.out.1, ← EUX9.out.2]
          replace q1 := q1.below b3_6
          replace hA := hA.below b3_6 hA.lt
          replace hR := hR.below b3_6 hR.lt
          replace q3 := q3.below b3_6
          replace hV := hV.below b3_6 hV.lt
          replace q4 := q4.below b3_6
          replace hX := hX.below b3_6 hX.lt
          replace q5 := q5.below b3_6
          replace q6 := q6.below b3_6
          replace hB := hB.trans (b3_6.mono hB.size)
          refine hK.out _ _ ?_ (fun hHeld => ?_)
          · exact ⟨hV.cell 0, hV.cell 1, hV.cell 2, hA.cell 0, hA.cell 1, hA.cell 2, hX.cell 0, hX.cell 1, hX.cell 2⟩
          clear hK K
          try simp only [Act.put, lay1, lay2, lay3, lay4, lay5, lay6]
          refine wpAnyH_ready (rs := [5]) (by kernel_rfl) (by simp) (AllReadyH.cons rfl (fun K hK => ?_) AllReadyH.nil)
          go_simp
          refine (hDi _ _ _ q6 q4).mono ?_
          rintro e u3_7 ⟨v7, rfl, q7, b3_7⟩
          replace q1 := q1.below b3_7
          replace hA := hA.below b3_7 hA.lt
          replace hR := hR.below b3_7 hR.lt
          replace q3 := q3.below b3_7
          replace hV := hV.below b3_7 hV.lt
          replace q4 := q4.below b3_7
          replace hX := hX.below b3_7 hX.lt
          replace q5 := q5.below b3_7
          replace q6 := q6.below b3_7
          replace hU := hU.below b3_7 hU.lt
          replace hB := hB.trans (b3_7.mono hB.size)
          obtain ⟨s7, A7, L7, C7, D7, M7, E7, rfl, q7⟩ := q7.opn
          go_wp2_with fail
          refine hK.out _ _ ?_ (fun hHeld => ?_)
          · exact ⟨hV.cell 0, hV.cell 1, hV.cell 2, hA.cell 0, hA.cell 1, hA.cell 2, hX.cell 0, hX.cell 1, hX.cell 2⟩
          clear hK K
          refine tkH 6 rfl (v := ?v23) ?h23 ?r23
          case h23 => intro w hSw; (try dsimp only at hSw); go_simp; try (with_reducible rfl)
          refine tkH 7 rfl (v := ?v24) ?h24 ?r24
          case h24 => intro w hSw; (try dsimp only at hSw); go_simp; try (with_reducible rfl)
          refine tkH 8 rfl (v := ?v25) ?h25 ?r25
          case h25 => intro w hSw; (try dsimp only at hSw); go_simp; try (with_reducible rfl)
          try simp only [Act.put, lay1, lay2, lay3, lay4, lay5, lay6]
          refine wpAnyH_ready (rs := [10]) (by kernel_rfl) (by simp) (AllReadyH.cons rfl (fun K hK => ?_) AllReadyH.nil)
          obtain ⟨u3_8, eu, hU', kz, kb, kB⟩ := fill3 hU (.bool s7) (.slice A7 L7 C7) (.slice D7 M7 E7) (by simp [noU])
          have x0 : World.cell? _ ⟨X9, 0, none⟩ = some (.bool false) := hU.cell 0
          have x1 : World.cell? _ ⟨X9, 1, none⟩ = some (.slice none 0 0) := hU.cell 1
          have x2 : World.cell? _ ⟨X9, 2, none⟩ = some (.slice none 0 0) := hU.cell 2
          have xf := hU.frozen
          go_simp
          rw [← eu]
          replace q1 := q1.filled kz
          replace hA := kb _ _ _ hA (by omega)
          replace hR := kb _ _ _ hR (by omega)
          replace q3 := q3.filled kz
          replace hV := kb _ _ _ hV (by omega)
          replace q4 := q4.filled kz
          replace hX := kb _ _ _ hX (by omega)
          replace q5 := q5.filled kz
          replace q6 := q6.filled kz
          replace q7 := q7.filled kz
          replace hB := kB _ _ (by omega) hB
          replace hU := hU'
          clear hU' kz kb kB eu xf x0 x1 x2
          refine hK.out _ _ ?_ (fun hHeld => ?_)
          · exact ⟨hV.cell 0, hV.cell 1, hV.cell 2, hA.cell 0, hA.cell 1, hA.cell 2, hX.cell 0, hX.cell 1, hX.cell 2⟩
          clear hK K
          refine tkH 11 rfl (v := ?v26) ?h26 ?r26
          case h26 => intro w hSw; (try dsimp only at hSw); go_simp; try (with_reducible rfl)
          try simp only [Act.put, lay1, lay2, lay3, lay4, lay5, lay6]
          try dsimp only
          try simp only [Act.put, lay1, lay2, lay3, lay4, lay5, lay6]
          refine wpAnyH_done (by kernel_rfl) ?_ _
          refine NoPanic.normal ?_
          go_wp2_with fail
          go_meet
          exact ⟨X9, s7, A7, L7, C7, D7, M7, E7, rfl, rfl, hR, q7, hU, hB, lX9, (by assumption)⟩
      · obtain ⟨u3_9, eu, hU, b3_9⟩ := box1 u3_1 32 #[.bool false, .slice none 0 0, .slice none 0 0]
        obtain ⟨X9, en⟩ : ∃ X, X = u3_1.heap.size := ⟨_, rfl⟩
        rw [← en] at hU
        have lX9 : w.heap.size ≤ X9 := by rw [en]; exact hB.size
        have dX9_hA : g ≠ X9 := by have := hA.lt; omega
        have dX9_hR : g + 1 ≠ X9 := by have := hR.lt; omega
        have dX9_hV : X4 ≠ X9 := by have := hV.lt; omega
        have dX9_hX : X8 ≠ X9 := by have := hX.lt; omega
        have EUX9 := Lib.hid (And.intro eu en)
        clear eu en
        go_simp
        rw [← EUX9.out.1, ← EUX9.out.2]
        replace q1 := q1.below b3_9
        replace hA := hA.below b3_9 hA.lt
        replace hR := hR.below b3_9 hR.lt
        replace q3 := q3.below b3_9
        replace hV := hV.below b3_9 hV.lt
        replace q4 := q4.below b3_9
        replace hX := hX.below b3_9 hX.lt
        replace q5 := q5.below b3_9
        replace hB := hB.trans (b3_9.mono hB.size)
        refine hK.out _ _ ?_ (fun hHeld => ?_)
        · exact ⟨hV.cell 0, hV.cell 1, hV.cell 2, hA.cell 0, hA.cell 1, hA.cell 2, hX.cell 0, hX.cell 1, hX.cell 2⟩
        clear hK K
        try simp only [Act.put, lay1, lay2, lay3, lay4, lay5, lay6]
        refine wpAnyH_ready (rs := [3]) (by kernel_rfl) (by simp) (AllReadyH.cons rfl (fun K hK => ?_) AllReadyH.nil)
        go_simp
        refine (hAb _ _ q5).mono ?_
        rintro e u3_10 ⟨v6, rfl, q6, b3_10⟩
        replace q1 := q1.below b3_10
        replace hA := hA.below b3_10 hA.lt
        replace hR := hR.below b3_10 hR.lt
        replace q3 := q3.below b3_10
        replace hV := hV.below b3_10 hV.lt
        replace q4 := q4.below b3_10
        replace hX := hX.below b3_10 hX.lt
        replace q5 := q5.below b3_10
        replace hU := hU.below b3_10 hU.lt
        replace hB := hB.trans (b3_10.mono hB.size)
        obtain ⟨s6, A6, L6, C6, D6, M6, E6, rfl, q6⟩ := q6.opn
        go_wp2_with fail
        refine hK.out _ _ ?_ (fun hHeld => ?_)
        · exact ⟨hV.cell 0, hV.cell 1, hV.cell 2, hA.cell 0, hA.cell 1, hA.cell 2, hX.cell 0, hX.cell 1, hX.cell 2⟩
        clear hK K
        try simp only [Act.put, lay1, lay2, lay3, lay4, lay5, lay6]
        refine wpAnyH_ready (rs := [5]) (by kernel_rfl) (by simp) (AllReadyH.cons rfl (fun K hK => ?_) AllReadyH.nil)
        go_simp
        refine (hDi _ _ _ q6 q4).mono ?_
        rintro e u3_11 ⟨v7, rfl, q7, b3_11⟩
        replace q1 := q1.below b3_11
        replace hA := hA.below b3_11 hA.lt
        replace hR := hR.below b3_11 hR.lt
        replace q3 := q3.below b3_11
        replace hV := hV.below b3_11 hV.lt
        replace q4 := q4.below b3_11
        replace hX := hX.below b3_11 hX.lt
        replace q5 := q5.below b3_11
        replace hU := hU.below b3_11 hU.lt
        replace q6 := q6.below b3_11
        replace hB := hB.trans (b3_11.mono hB.size)
        obtain ⟨s7, A7, L7, C7, D7, M7, E7, rfl, q7⟩ := q7.opn
        go_wp2_with fail
        refine hK.out _ _ ?_ (fun hHeld => ?_)
        · exact ⟨hV.cell 0, hV.cell 1, hV.cell 2, hA.cell 0, hA.cell 1, hA.cell 2, hX.cell 0, hX.cell 1, hX.cell 2⟩
        clear hK K
        refine tkH 6 rfl (v := ?v27) ?h27 ?r27
        case h27 => intro w hSw; (try dsimp only at hSw); go_simp; try (with_reducible rfl)
        refine tkH 7 rfl (v := ?v28) ?h28 ?r28
        case h28 => intro w hSw; (try dsimp only at hSw); go_simp; try (with_reducible rfl)
        refine tkH 8 rfl (v := ?v29) ?h29 ?r29
        case h29 => intro w hSw; (try dsimp only at hSw); go_simp; try (with_reducible rfl)
        try simp only [Act.put, lay1, lay2, lay3, lay4, lay5, lay6]
        refine wpAnyH_ready (rs := [10]) (by kernel_rfl) (by simp) (AllReadyH.cons rfl (fun K hK => ?_) AllReadyH.nil)
        obtain ⟨u3_12, eu, hU', kz, kb, kB⟩ := fill3 hU (.bool s7) (.slice A7 L7 C7) (.slice D7 M7 E7) (by simp [noU])
        have x0 : World.cell? _ ⟨X9, 0, none⟩ = some (.bool false) := hU.cell 0
        have x1 : World.cell? _ ⟨X9, 1, none⟩ = some (.slice none 0 0) := hU.cell 1
        have x2 : World.cell? _ ⟨X9, 2, none⟩ = some (.slice none 0 0) := hU.cell 2
        have xf := hU.frozen
        go_simp
        rw [← eu]
        replace q1 := q1.filled kz
        replace hA := kb _ _ _ hA (by omega)
        replace hR := kb _ _ _ hR (by omega)
        replace q3 := q3.filled kz
        replace hV := kb _ _ _ hV (by omega)
        replace q4 := q4.filled kz
        replace hX := kb _ _ _ hX (by omega)
        replace q5 := q5.filled kz
        replace q6 := q6.filled kz
        replace q7 := q7.filled kz
        replace hB := kB _ _ (by omega) hB
        replace hU := hU'
        clear hU' kz kb kB eu xf x0 x1 x2
        refine hK.out _ _ ?_ (fun hHeld => ?_)
        · exact ⟨hV.cell 0, hV.cell 1, hV.cell 2, hA.cell 0, hA.cell 1, hA.cell 2, hX.cell 0, hX.cell 1, hX.cell 2⟩
        clear hK K
        refine tkH 11 rfl (v := ?v30) ?h30 ?r30
        case h30 => intro w hSw; (try dsimp only at hSw); go_simp; try (with_reducible rfl)
        try simp only [Act.put, lay1, lay2, lay3, lay4, lay5, lay6]
        try dsimp only
        try simp only [Act.put, lay1, lay2, lay3, lay4, lay5, lay6]
        refine wpAnyH_done (by kernel_rfl) ?_ _
        refine NoPanic.normal ?_
        go_wp2_with fail
        go_meet
        exact ⟨X9, s7, A7, L7, C7, D7, M7, E7, rfl, rfl, hR, q7, hU, hB, lX9, (by assumption)⟩
    · obtain ⟨u3_13, eu, hU, b3_13⟩ := box1 wd3_1 32 #[.bool false, .slice none 0 0, .slice none 0 0]
      obtain ⟨X9, en⟩ : ∃ X, X = wd3_1.heap.size := ⟨_, rfl⟩
      rw [← en] at hU
      have lX9 : w.heap.size ≤ X9 := by rw [en]; exact hB.size
      have dX9_hA : g ≠ X9 := by have := hA.lt; omega
      have dX9_hR : g + 1 ≠ X9 := by have := hR.lt; omega
      have dX9_hV : X4 ≠ X9 := by have := hV.lt; omega
      have dX9_hX : X8 ≠ X9 := by have := hX.lt; omega
      have EUX9 := Lib.hid (And.intro eu en)
      clear eu en
      go_simp
      rw [← EUX9.out.1, ← EUX9.out.2]
      replace q1 := q1.below b3_13
      replace hA := hA.below b3_13 hA.lt
      replace hR := hR.below b3_13 hR.lt
      replace q3 := q3.below b3_13
      replace hV := hV.below b3_13 hV.lt
      replace q4 := q4.below b3_13
      replace hX := hX.below b3_13 hX.lt
      replace hB := hB.trans (b3_13.mono hB.size)
      refine hK.out _ _ ?_ (fun hHeld => ?_)
      · exact ⟨hV.cell 0, hV.cell 1, hV.cell 2, hA.cell 0, hA.cell 1, hA.cell 2, hX.cell 0, hX.cell 1, hX.cell 2⟩
      clear hK K
      try simp only [Act.put, lay1, lay2, lay3, lay4, lay5, lay6]
      refine wpAnyH_ready (rs := [2]) (by kernel_rfl) (by simp) (AllReadyH.cons rfl (fun K hK => ?_) AllReadyH.nil)
      go_simp
      refine (hSu _ _ _ q3 q1).mono ?_
      rintro e u3_14 ⟨v5, rfl, q5, b3_14⟩
      replace q1 := q1.below b3_14
      replace hA := hA.below b3_14 hA.lt
      replace hR := hR.below b3_14 hR.lt
      replace q3 := q3.below b3_14
      replace hV := hV.below b3_14 hV.lt
      replace q4 := q4.below b3_14
      replace hX := hX.below b3_14 hX.lt
      replace hU := hU.below b3_14 hU.lt
      replace hB := hB.trans (b3_14.mono hB.size)
      obtain ⟨s5, A5, L5, C5, D5, M5, E5, rfl, q5⟩ := q5.opn
      go_wp2_with fail
      refine hK.out _ _ ?_ (fun hHeld => ?_)
      · exact ⟨hV.cell 0, hV.cell 1, hV.cell 2, hA.cell 0, hA.cell 1, hA.cell 2, hX.cell 0, hX.cell 1, hX.cell 2⟩
      clear hK K
      try simp only [Act.put, lay1, lay2, lay3, lay4, lay5, lay6]
      refine wpAnyH_ready (rs := [3]) (by kernel_rfl) (by simp) (AllReadyH.cons rfl (fun K hK => ?_) AllReadyH.nil)
      go_simp
      refine (hAb _ _ q5).mono ?_
      rintro e u3_15 ⟨v6, rfl, q6, b3_15⟩
      replace q1 := q1.below b3_15
      replace hA := hA.below b3_15 hA.lt
      replace hR := hR.below b3_15 hR.lt
      replace q3 := q3.below b3_15
      replace hV := hV.below b3_15 hV.lt
      replace q4 := q4.below b3_15
      replace hX := hX.below b3_15 hX.lt
      replace hU := hU.below b3_15 hU.lt
      replace q5 := q5.below b3_15
      replace hB := hB.trans (b3_15.mono hB.size)
      obtain ⟨s6, A6, L6, C6, D6, M6, E6, rfl, q6⟩ := q6.opn
      go_wp2_with fail
      refine hK.out _ _ ?_ (fun hHeld => ?_)
      · exact ⟨hV.cell 0, hV.cell 1, hV.cell 2, hA.cell 0, hA.cell 1, hA.cell 2, hX.cell 0, hX.cell 1, hX.cell 2⟩
      clear hK K
      try simp only [Act.put, lay1, lay2, lay3, lay4, lay5, lay6]
      refine wpAnyH_ready (rs := [5]) (by kernel_rfl) (by simp) (AllReadyH.cons rfl (fun K hK => ?_) AllReadyH.nil)
      go_simp
      refine (hDi _ _ _ q6 q4).mono ?_
      rintro e u3_16 ⟨v7, rfl, q7, b3_16⟩
      replace q1 := q1.below b3_16
      replace hA := hA.below b3_16 hA.lt
      replace hR := hR.below b3_16 hR.lt
      replace q3 := q3.below b3_16
      replace hV := hV.below b3_16 hV.lt
      replace q4 := q4.below b3_16
      replace hX := hX.below b3_16 hX.lt
      replace hU := hU.below b3_16 hU.lt
      replace q5 := q5.below b3_16
      replace q6 := q6.below b3_16
      replace hB := hB.trans (b3_16.mono hB.size)
      obtain ⟨s7, A7, L7, C7, D7, M7, E7, rfl, q7⟩ := q7.opn
      go_wp2_with fail
      refine hK.out _ _ ?_ (fun hHeld => ?_)
      · exact ⟨hV.cell 0, hV.cell 1, hV.cell 2, hA.cell 0, hA.cell 1, hA.cell 2, hX.cell 0, hX.cell 1, hX.cell 2⟩
      clear hK K
      refine tkH 6 rfl (v := ?v31) ?h31 ?r31
      case h31 => intro w hSw; (try dsimp only at hSw); go_simp; try (with_reducible rfl)
      refine tkH 7 rfl (v := ?v32) ?h32 ?r32
      case h32 => intro w hSw; (try dsimp only at hSw); go_simp; try (with_reducible rfl)
      refine tkH 8 rfl (v := ?v33) ?h33 ?r33
      case h33 => intro w hSw; (try dsimp only at hSw); go_simp; try (with_reducible rfl)
      try simp only [Act.put, lay1, lay2, lay3, lay4, lay5, lay6]
      refine wpAnyH_ready (rs := [10]) (by kernel_rfl) (by simp) (AllReadyH.cons rfl (fun K hK => ?_) AllReadyH.nil)
      obtain ⟨u3_17, eu, hU', kz, kb, kB⟩ := fill3 hU (.bool s7) (.slice A7 L7 C7) (.slice D7 M7 E7) (by simp [noU])
      have x0 : World.cell? _ ⟨X9, 0, none⟩ = some (.bool false) := hU.cell 0
      have x1 : World.cell? _ ⟨X9, 1, none⟩ = some (.slice none 0 0) := hU.cell 1
      have x2 : World.cell? _ ⟨X9, 2, none⟩ = some (.slice none 0 0) := hU.cell 2
      have xf := hU.frozen
      go_simp
      rw [← eu]
      replace q1 := q1.filled kz
      replace hA := kb _ _ _ hA (by omega)
      replace hR := kb _ _ _ hR (by omega)
      replace q3 := q3.filled kz
      replace hV := kb _ _ _ hV (by omega)
      replace q4 := q4.filled kz
      replace hX := kb _ _ _ hX (by omega)
      replace q5 := q5.filled kz
      replace q6 := q6.filled kz
      replace q7 := q7.filled kz
      replace hB := kB _ _ (by omega) hB
      replace hU := hU'
      clear hU' kz kb kB eu xf x0 x1 x2
      refine hK.out _ _ ?_ (fun hHeld => ?_)
      · exact ⟨hV.cell 0, hV.cell 1, hV.cell 2, hA.cell 0, hA.cell 1, hA.cell 2, hX.cell 0, hX.cell 1, hX.cell 2⟩
      clear hK K
      refine tkH 11 rfl (v := ?v34) ?h34 ?r34
      case h34 => intro w hSw; (try dsimp only at hSw); go_simp; try (with_reducible rfl)
      try simp only [Act.put, lay1, lay2, lay3, lay4, lay5, lay6]
      try dsimp only
      try simp only [Act.put, lay1, lay2, lay3, lay4, lay5, lay6]
      refine wpAnyH_done (by kernel_rfl) ?_ _
      refine NoPanic.normal ?_
      go_wp2_with fail
      go_meet
      exact ⟨X9, s7, A7, L7, C7, D7, M7, E7, rfl, rfl, hR, q7, hU, hB, lX9, (by assumption)⟩
  obtain ⟨X9, s7, A7, L7, C7, D7, M7, E7, rfl, rfl, hR, q7, hU, hB, lX9, dX9_hR⟩ := hcut
  obtain ⟨c42, c43, c44⟩ := hR.q3
  obtain ⟨c45, c46, c47⟩ := hU.q3
  obtain ⟨p1, p2, p3⟩ := put3 hR (.bool s7) (.slice A7 L7 C7) (.slice D7 M7 E7) (by simp [noU]) hB (by omega)
  have rc0 : World.cell? _ ⟨g + 1, 0, none⟩ = some (.bool false) := hR.cell 0
  have rf0 := hR.frozen 0
  have rc1 : World.cell? _ ⟨g + 1, 1, none⟩ = some (.slice none 0 0) := hR.cell 1
  have rf1 := hR.frozen 1
  have rc2 : World.cell? _ ⟨g + 1, 2, none⟩ = some (.slice none 0 0) := hR.cell 2
  have rf2 := hR.frozen 2
  have P := Lib.hid (And.intro (q7.kept p2) (And.intro p3 p1.cells3))
  clear p1 p2 p3
  go_wp2_with fail
  obtain ⟨P1, P2, P3, P4, P5⟩ := P.out
  exact bodyPost_ret (v := .agg #[.bool s7, .slice A7 L7 C7, .slice D7 M7 E7]) (by simp [results, Tryz.results29, go_sem, P3, P4, P5]) rfl ⟨_, rfl, P1, P2⟩
end Go.Proofs.YtdnjdglekifhpaaGreat
namespace Go.Proofs.YtdnjdglekifhpaaGreat
open Go.RowKit
def ResQ (bad : Bool) (r : Rat) (w : World) (v : Value) : Prop := if bad = true then v = .agg #[.bool false, .slice none 0 0, .slice none 0 0] else IsQ w v r
def ResS (bad : Bool) (a b : Rat) (w : World) (v : Value) : Prop := if bad = true then v = .agg #[.bool false, .slice none 0 0, .slice none 0 0, .bool false, .slice none 0 0, .slice none 0 0] else IsS w v a b
def errOf (bad : Bool) : Int := if bad = true then 1 else 0
section
variable {bad : Bool} {r a b : Rat} {w w' : World} {v : Value}
theorem ResQ.below (h : ResQ bad r w v) (hb : Below w.heap.size w w') : ResQ bad r w' v := by
  unfold ResQ at *; split
  · rename_i e; rw [if_pos e] at h; exact h
  · rename_i e; rw [if_neg e] at h; exact h.below hb
theorem ResS.below (h : ResS bad a b w v) (hb : Below w.heap.size w w') : ResS bad a b w' v := by
  unfold ResS at *; split
  · rename_i e; rw [if_pos e] at h; exact h
  · rename_i e; rw [if_neg e] at h; exact h.below hb
theorem ResQ.opn (h : ResQ bad r w v) : ∃ s A L C D M E, v = .agg #[.bool s, .slice A L C, .slice D M E] ∧ ResQ bad r w (.agg #[.bool s, .slice A L C, .slice D M E]) := by
  unfold ResQ at *
  split
  · rename_i e; rw [if_pos e] at h; exact ⟨_, _, _, _, _, _, _, h, rfl⟩
  · rename_i e; rw [if_neg e] at h; exact h.opn
theorem ResS.opn (h : ResS bad a b w v) : ∃ s A L C D M E t A' L' C' D' M' E', v = .agg #[.bool s, .slice A L C, .slice D M E, .bool t, .slice A' L' C', .slice D' M' E'] ∧ ResS bad a b w (.agg #[.bool s, .slice A L C, .slice D M E, .bool t, .slice A' L' C', .slice D' M' E']) := by
  unfold ResS at *
  split
  · rename_i e; rw [if_pos e] at h; exact ⟨_, _, _, _, _, _, _, _, _, _, _, _, _, _, h, rfl⟩
  · rename_i e; rw [if_neg e] at h
    obtain ⟨s, A, L, C, D, M, E, t, A', L', C', D', M', E', e1, h1, h2⟩ := h.opn
    exact ⟨s, A, L, C, D, M, E, t, A', L', C', D', M', E', e1, _, _, _, _, _, _, rfl, h1, h2⟩
end
theorem nextBad_no {beta f : Int} {a m : Rat} (h : nextBad beta f a m = false) : 0 ≤ f ∧ f ≤ 40 ∧ 0 ≤ beta ∧ ¬ (2 : Int) ^ f.toNat < beta ∧ decide (a.num < 0) = false ∧ decide (m.num < 0) = false := by
  unfold nextBad at h
  simp only [Bool.or_eq_false_iff, decide_eq_false_iff_not] at h
  obtain ⟨⟨⟨⟨h1, h2⟩, h3⟩, h4⟩, h5⟩ := h
  exact ⟨by omega, by omega, by omega, h3, decide_eq_false h4, decide_eq_false h5⟩
def arBad (f : Int) (a : Rat) : Bool := decide (f < 0 ∨ 40 < f) || decide (a.num < 0)
theorem arBad_no {f : Int} {a : Rat} (h : arBad f a = false) : 0 ≤ f ∧ f ≤ 40 ∧ decide (a.num < 0) = false := by
  unfold arBad at h
  simp only [Bool.or_eq_false_iff, decide_eq_false_iff_not] at h
  exact ⟨by omega, by omega, decide_eq_false h.2⟩
section
variable (beta f : Int) (va vm : Value) (a m : Rat) (w : World)
theorem pnext_res (hb : In64 beta) (ha : IsQ w va a) (hm : IsQ w vm m) (sa : BQ a 2000) (sm : BQ m 2000) :
    Calls Tryz.prog 17 #[.int .i64 beta, .int .i64 f, va, vm] w fun e w' => ∃ v', e = .returned (.tuple #[v', .int .i64 (errOf (nextBad beta f a m))]) ∧ ResQ (nextBad beta f a m) (nextQ beta f.toNat a m) w' v' ∧ Below w.heap.size w w' := by
  cases h : nextBad beta f a m
  · obtain ⟨h1, h2, h3, h4, h5, h6⟩ := nextBad_no h
    obtain ⟨k, rfl⟩ : ∃ k : Nat, f = (k : Int) := ⟨f.toNat, by omega⟩
    rw [Int.toNat_natCast] at *
    have hP : ((2 ^ k : Nat) : Int) = (2 : Int) ^ k := by simp
    refine (pnext_any beta k va vm a m w (by omega) hb h3 (by rw [hP]; omega) ha hm sa sm h5 h6).mono ?_
    rintro e w' ⟨v', rfl, q, b⟩
    exact ⟨v', rfl, by unfold ResQ; rw [if_neg (by simp)]; exact q, b⟩
  · refine (pnext_bad beta f va vm a m w ha hm hb h).mono ?_
    rintro e w' ⟨rfl, b⟩
    exact ⟨_, rfl, by unfold ResQ; rw [if_pos rfl], b⟩
theorem paround_res (hb : In64 beta) (ha : IsQ w va a) (sa : BQ a 2000) :
    Calls Tryz.prog 19 #[.int .i64 beta, .int .i64 f, va] w fun e w' => ∃ v', e = .returned (.tuple #[v', .int .i64 (errOf (arBad f a))]) ∧ ResS (arBad f a) (mkRat beta (2 ^ f.toNat) - a * mkRat 1 (2 ^ f.toNat)) (mkRat beta (2 ^ f.toNat) + a * mkRat 1 (2 ^ f.toNat)) w' v' ∧ Below w.heap.size w w' := by
  cases h : arBad f a
  · obtain ⟨h1, h2, h3⟩ := arBad_no h
    obtain ⟨k, rfl⟩ : ∃ k : Nat, f = (k : Int) := ⟨f.toNat, by omega⟩
    rw [Int.toNat_natCast] at *
    refine (paround_any beta k va a w (by omega) hb ha sa h3).mono ?_
    rintro e w' ⟨v', rfl, q, b⟩
    exact ⟨v', rfl, by unfold ResS; rw [if_neg (by simp)]; exact q, b⟩
  · unfold arBad at h
    have hz : Calls Tryz.prog 19 #[.int .i64 beta, .int .i64 f, va] w fun e w' => e = .returned (.tuple #[.agg #[.bool false, .slice none 0 0, .slice none 0 0, .bool false, .slice none 0 0, .slice none 0 0], .int .i64 1]) ∧ Below w.heap.size w w' := by
      by_cases h0 : f < 0 ∨ 40 < f
      · exact paround_b0 beta f va a w ha h0
      · rw [decide_eq_false h0, Bool.false_or] at h
        exact paround_b1 beta f va a w ha (by omega) (by omega) hb h
    refine hz.mono ?_
    rintro e w' ⟨rfl, b⟩
    exact ⟨_, rfl, by unfold ResS; rw [if_pos rfl], b⟩
end
end Go.Proofs.YtdnjdglekifhpaaGreat
namespace Go.Proofs.YtdnjdglekifhpaaGreat
theorem cmpQ_le_iff (a b : Rat) : cmpQ a b ≤ 0 ↔ a ≤ b := by
  rw [Rat.le_iff]; unfold cmpQ cmpI; (repeat' split) <;> omega
theorem cmpQ_lt_iff (a b : Rat) : cmpQ a b < 0 ↔ a < b := by
  rw [Rat.lt_iff]; unfold cmpQ cmpI; (repeat' split) <;> omega
theorem num_neg_iff (a : Rat) : a.num < 0 ↔ a < 0 := by
  rw [← Rat.not_le, ← Rat.num_nonneg]; omega
theorem mul_den (a : Rat) : a * (a.den : Rat) = (a.num : Rat) := by
  have h := Rat.mkRat_eq_div a.num a.den
  rw [Rat.mkRat_self] at h
  have hd : (a.den : Rat) ≠ 0 := by
    have := a.den_nz
    intro e
    have e2 : ((a.den : Int) : Rat) = ((0 : Int) : Rat) := e
    rw [Rat.intCast_inj] at e2
    omega
  have : a * (a.den : Rat) = (a.num : Rat) / (a.den : Rat) * (a.den : Rat) := by rw [← h]
  rw [this, Rat.div_mul_cancel hd]
theorem den_posQ (a : Rat) : (0 : Rat) < (a.den : Rat) := by
  have := a.den_pos
  have h : ((0 : Int) : Rat) < ((a.den : Int) : Rat) := by rw [Rat.intCast_lt_intCast]; omega
  exact h
theorem flr_floor (a : Rat) (k : Nat) : flr a k = (a * ((2 ^ k : Nat) : Rat)).floor := by
  have key : ∀ x : Int, x ≤ flr a k ↔ x ≤ (a * ((2 ^ k : Nat) : Rat)).floor := by
    intro x
    rw [Rat.le_floor_iff]
    unfold flr
    have hd := a.den_pos
    rw [Int.le_ediv_iff_mul_le (by omega)]
    have e1 : (x : Rat) ≤ a * ((2 ^ k : Nat) : Rat) ↔ (x : Rat) * (a.den : Rat) ≤ a * ((2 ^ k : Nat) : Rat) * (a.den : Rat) :=
      ⟨fun h => Rat.mul_le_mul_of_nonneg_right h (Rat.le_of_lt (den_posQ a)), fun h => Rat.le_of_mul_le_mul_right h (den_posQ a)⟩
    have e2 : a * ((2 ^ k : Nat) : Rat) * (a.den : Rat) = (((a.num * ((2 ^ k : Nat) : Int)) : Int) : Rat) := by
      rw [Rat.intCast_mul, ← mul_den a]
      have : (((2 ^ k : Nat) : Int) : Rat) = ((2 ^ k : Nat) : Rat) := rfl
      rw [this]; grind
    have e3 : (x : Rat) * (a.den : Rat) = ((x * (a.den : Int) : Int) : Rat) := by rw [Rat.intCast_mul]; rfl
    rw [e1, e2, e3, Rat.intCast_le_intCast]
    have e4 : ((2 ^ k : Nat) : Int) = (2 : Int) ^ k := by simp
    rw [e4]
  have h1 := (key (flr a k)).1 (Int.le_refl _)
  have h2 := (key _).2 (Int.le_refl ((a * ((2 ^ k : Nat) : Rat)).floor))
  omega
theorem cel_bounds (r : Rat) (k : Nat) : r * ((2 ^ k : Nat) : Rat) ≤ ((cel r k : Int) : Rat) ∧ ((cel r k : Int) : Rat) < r * ((2 ^ k : Nat) : Rat) + 1 := by
  have e : cel r k = -((-r) * ((2 ^ k : Nat) : Rat)).floor := by unfold cel; rw [flr_floor]
  have h1 := Rat.floor_le ((-r) * ((2 ^ k : Nat) : Rat))
  have h2 := Rat.lt_floor_add_one ((-r) * ((2 ^ k : Nat) : Rat))
  generalize ((-r) * ((2 ^ k : Nat) : Rat)).floor = f at *
  rw [e, Rat.intCast_neg]
  rw [Rat.intCast_add] at h2
  have h3 : ((1 : Int) : Rat) = 1 := rfl
  rw [h3] at h2
  generalize ((2 ^ k : Nat) : Rat) = P at *
  generalize (f : Rat) = F at *
  constructor <;> grind
theorem cel_mono {r s : Rat} (k : Nat) (h : r ≤ s) : cel r k ≤ cel s k := by
  unfold cel
  rw [flr_floor, flr_floor]
  have hP : (0 : Rat) ≤ ((2 ^ k : Nat) : Rat) := Rat.natCast_nonneg
  have := Rat.floor_monotone (Rat.mul_le_mul_of_nonneg_right (Rat.neg_le_neg h) hP)
  omega
theorem powQ_pos (k : Nat) : (0 : Rat) < ((2 ^ k : Nat) : Rat) := by
  have h : ((0 : Int) : Rat) < (((2 ^ k : Nat) : Int) : Rat) := by rw [Rat.intCast_lt_intCast]; have := Nat.pow_pos (n := k) (show 0 < 2 by omega); omega
  exact h
theorem mkP_mul (z : Int) (k : Nat) : mkRat z (2 ^ k) * ((2 ^ k : Nat) : Rat) = (z : Rat) := by
  rw [Rat.mkRat_eq_div, Rat.div_mul_cancel]
  have := powQ_pos k
  intro e; rw [e] at this; exact absurd this (by decide)
theorem stepP (k : Nat) : 0 < mkRat 1 (2 ^ k) ∧ mkRat 1 (2 ^ k) * ((2 ^ k : Nat) : Rat) = 1 := by
  have h1 := mkP_mul 1 k
  have h2 : ((1 : Int) : Rat) = 1 := rfl
  rw [h2] at h1
  refine ⟨?_, h1⟩
  have hP := powQ_pos k
  have : (0 : Rat) * ((2 ^ k : Nat) : Rat) < mkRat 1 (2 ^ k) * ((2 ^ k : Nat) : Rat) := by rw [h1, Rat.zero_mul]; decide
  exact Rat.lt_of_mul_lt_mul_right this (Rat.le_of_lt hP)
theorem man_nonneg {beta : Int} (k : Nat) (h : 0 ≤ beta) : 0 ≤ mkRat beta (2 ^ k) := by
  rw [← Rat.divInt_ofNat]
  exact Rat.divInt_nonneg h (Int.natCast_nonneg _)
theorem divQ_eq (a b : Rat) (hb : 0 < b) : divQ a b = a / b := by
  have hn : 0 < b.num := by
    have h1 : ¬ b.num < 0 := by rw [num_neg_iff, Rat.not_lt]; exact Rat.le_of_lt hb
    have h2 : b.num ≠ 0 := fun e => by
      rw [Rat.num_eq_zero] at e; rw [e] at hb; exact absurd hb (by decide)
    omega
  unfold divQ
  rw [decide_eq_false (by omega)]
  have hs : sided false b.den = (b.den : Int) := by simp [sided]
  rw [hs, Rat.div_def]
  have e1 : b⁻¹ = mkRat b.den b.num.natAbs := by
    rw [Rat.inv_def, ← Rat.divInt_ofNat]
    congr 1
    omega
  rw [e1]
  have e2 : a = mkRat a.num a.den := (Rat.mkRat_self a).symm
  conv => rhs; rw [e2]
  rw [Rat.mkRat_mul_mkRat]
theorem absQ_abs (a : Rat) : absQ a = if a < 0 then -a else a := by
  unfold absQ
  by_cases h : a.num < 0
  · rw [if_pos h, if_pos ((num_neg_iff a).1 h)]
  · rw [if_neg h, if_neg (fun e => h ((num_neg_iff a).2 e))]
theorem steps_le (n : Int) (k : Nat) (r a : Rat) : stepsQ n k r ≤ a ↔ mkRat n (2 ^ k) - r ≤ a * mkRat 1 (2 ^ k) ∧ r - mkRat n (2 ^ k) ≤ a * mkRat 1 (2 ^ k) := by
  obtain ⟨h1, _⟩ := stepP k
  unfold stepsQ
  rw [divQ_eq _ _ h1, absQ_abs]
  generalize mkRat 1 (2 ^ k) = st at *
  generalize mkRat n (2 ^ k) = x at *
  have e : ∀ u : Rat, u / st ≤ a ↔ u ≤ a * st := fun u => by
    have hs : st ≠ 0 := fun e => by rw [e] at h1; exact absurd h1 (by decide)
    constructor
    · intro h
      have := Rat.mul_le_mul_of_nonneg_right h (Rat.le_of_lt h1)
      rwa [Rat.div_mul_cancel hs] at this
    · intro h
      refine Rat.le_of_mul_le_mul_right (c := st) ?_ h1
      rwa [Rat.div_mul_cancel hs]
  rw [e]
  split
  · constructor
    · intro h; constructor <;> grind
    · intro ⟨h, h'⟩; grind
  · constructor
    · intro h; constructor <;> grind
    · intro ⟨h, h'⟩; grind
theorem around_iff (beta near : Int) (k : Nat) (a : Rat) : (decide (cmpQ (mkRat beta (2 ^ k) - a * mkRat 1 (2 ^ k)) (mkRat near (2 ^ k)) ≤ 0) && decide (cmpQ (mkRat near (2 ^ k)) (mkRat beta (2 ^ k) + a * mkRat 1 (2 ^ k)) ≤ 0)) = decide (cmpQ (stepsQ near k (mkRat beta (2 ^ k))) a ≤ 0) := by
  rw [Bool.eq_iff_iff]
  simp only [Bool.and_eq_true, decide_eq_true_eq, cmpQ_le_iff]
  rw [steps_le]
  generalize mkRat beta (2 ^ k) = x
  generalize mkRat near (2 ^ k) = y
  generalize a * mkRat 1 (2 ^ k) = d
  constructor
  · intro ⟨h1, h2⟩; constructor <;> grind
  · intro ⟨h1, h2⟩; constructor <;> grind
theorem around_own (beta : Int) (k : Nat) (a : Rat) (ha : 0 ≤ a) : (decide (cmpQ (mkRat beta (2 ^ k) - a * mkRat 1 (2 ^ k)) (mkRat beta (2 ^ k)) ≤ 0) && decide (cmpQ (mkRat beta (2 ^ k)) (mkRat beta (2 ^ k) + a * mkRat 1 (2 ^ k)) ≤ 0)) = true := by
  simp only [Bool.and_eq_true, decide_eq_true_eq, cmpQ_le_iff]
  have := Rat.mul_nonneg ha (Rat.le_of_lt (stepP k).1)
  generalize a * mkRat 1 (2 ^ k) = d at *
  generalize mkRat beta (2 ^ k) = x
  constructor <;> grind
theorem next_up (beta : Int) (k : Nat) (a m : Rat) : ¬ (nextQ beta k a m - (mkRat beta (2 ^ k) * a + m)).num < 0 ∧ cmpQ (nextQ beta k a m - (mkRat beta (2 ^ k) * a + m)) (mkRat 1 1048576) < 0 := by
  rw [num_neg_iff, Rat.not_lt, cmpQ_lt_iff]
  unfold nextQ
  generalize mkRat beta (2 ^ k) * a + m = r
  obtain ⟨h1, h2⟩ := cel_bounds r 20
  have e1 := mkP_mul (cel r 20) 20
  rw [← e1] at h1 h2
  have hs := stepP 20
  have e3 : (2 ^ 20 : Nat) = 1048576 := by decide
  rw [show mkRat 1 1048576 = mkRat 1 (2 ^ 20) by rw [e3]]
  generalize mkRat (cel r 20) (2 ^ 20) = x at *
  obtain ⟨hs1, hs2⟩ := hs
  have hP := powQ_pos 20
  generalize mkRat 1 (2 ^ 20) = st at *
  generalize ((2 ^ 20 : Nat) : Rat) = P at *
  have h3 : r ≤ x := Rat.le_of_mul_le_mul_right h1 hP
  have h4 : x < r + st := by
    refine Rat.lt_of_mul_lt_mul_right (c := P) ?_ (Rat.le_of_lt hP)
    rw [Rat.add_mul, hs2]; exact h2
  constructor <;> grind
theorem next_mono (beta : Int) (k : Nat) (a m c : Rat) (hb : 0 ≤ beta) (hc : 0 ≤ c) : cmpQ (nextQ beta k a m) (nextQ beta k (a + c) m) ≤ 0 := by
  rw [cmpQ_le_iff]
  unfold nextQ
  have h1 := Rat.mul_nonneg (man_nonneg k hb) hc
  have h2 : mkRat beta (2 ^ k) * a + m ≤ mkRat beta (2 ^ k) * (a + c) + m := by
    rw [Rat.mul_add]
    generalize mkRat beta (2 ^ k) * a = u at *
    generalize mkRat beta (2 ^ k) * c = v at *
    grind
  have h3 := cel_mono 20 h2
  generalize cel (mkRat beta (2 ^ k) * a + m) 20 = z1 at *
  generalize cel (mkRat beta (2 ^ k) * (a + c) + m) 20 = z2 at *
  rw [Rat.mkRat_eq_div, Rat.mkRat_eq_div, Rat.div_def, Rat.div_def]
  refine Rat.mul_le_mul_of_nonneg_right (by rw [Rat.intCast_le_intCast]; exact h3) (Rat.le_of_lt ?_)
  have h := (stepP 20).1
  rw [Rat.mkRat_eq_div, Rat.div_def] at h
  have h2 : ((1 : Int) : Rat) = 1 := rfl
  rw [h2, Rat.one_mul] at h
  exact h
end Go.Proofs.YtdnjdglekifhpaaGreat
namespace Go.Proofs.YtdnjdglekifhpaaGreat
open Go.RowKit
attribute [local go_sem ↓] Go.wp_at_zero Go.wp_at_succ
theorem IsL.frmL {w : World} {v : Value} {l : List Nat} (h : IsL w v l) : ∃ A C, v = .slice A l.length C ∧ l.length ≤ C ∧ C ≤ 9223372036854775807 := by
  obtain ⟨A, c, e, h1, h2, _⟩ := h; exact ⟨A, c, e, h1, h2⟩
def rightN (l : List Nat) : Bool := decide (l = [] ∨ lat l (l.length - 1) ≠ 0)
def rightQ (s : Bool) (lp lq : List Nat) : Bool := rightZ s lp && (rightN lq && (!decide (lq = []) && decide (Nat.gcd (num lp) (num lq) = 1)))
def fewQ (s : Bool) (lp lq : List Nat) (m : Nat) : Bool := decide (lp.length ≤ m) && (decide (lq.length ≤ m) && rightQ s lp lq)
def theQ (s : Bool) (lp lq : List Nat) : Rat := mkRat (sided s (num lp)) (num lq)
theorem isN_of {w : World} {v : Value} {l : List Nat} (h : IsL w v l) (hr : rightN l = true) : IsN w v (num l) ∧ limbs (num l) = l := by
  unfold rightN at hr
  rw [decide_eq_true_eq] at hr
  have hl : limbs (num l) = l := limbs_num l h.bd hr
  exact ⟨by unfold IsN; rw [hl]; exact h, hl⟩
theorem rightZ_nat {s : Bool} {l : List Nat} (h : rightZ s l = true) : rightN l = true := by
  unfold rightZ at h; rw [Bool.and_eq_true] at h; exact h.1
theorem sided_side {s : Bool} {l : List Nat} (hb : Bd l) (h : rightZ s l = true) : decide (sided s (num l) < 0) = s := by
  rw [sided_neg]
  cases s
  · rfl
  · have hr := rightZ_nat h
    unfold rightN at hr
    rw [decide_eq_true_eq] at hr
    have hl : limbs (num l) = l := limbs_num l hb hr
    unfold rightZ at h
    rw [Bool.and_eq_true] at h
    have h0 : l.length ≠ 0 := by have := h.2; simpa using this
    have : num l ≠ 0 := fun e => h0 (by rw [← hl, e, limbs_zero]; rfl)
    simp [this]
theorem isQ_of {w : World} {s : Bool} {p q : Value} {lp lq : List Nat} (hp : IsL w p lp) (hq : IsL w q lq) (hr : rightQ s lp lq = true) : IsQ w (.agg #[.bool s, p, q]) (theQ s lp lq) ∧ BQ (theQ s lp lq) (max lp.length lq.length) ∧ (theQ s lp lq).num = sided s (num lp) ∧ (theQ s lp lq).den = num lq := by
  unfold rightQ at hr
  simp only [Bool.and_eq_true, Bool.not_eq_true', decide_eq_false_iff_not, decide_eq_true_eq] at hr
  obtain ⟨h1, h2, h3, h4⟩ := hr
  obtain ⟨np, ep⟩ := isN_of hp (rightZ_nat h1)
  obtain ⟨nq, eq⟩ := isN_of hq h2
  have hq0 : num lq ≠ 0 := fun e => h3 (by rw [← eq, e, limbs_zero])
  have hs : (sided s (num lp)).natAbs = num lp := by unfold sided; split <;> omega
  obtain ⟨m1, m2, m3⟩ := mk_num (sided s (num lp)) (num lq) hq0
  rw [hs, h4, Nat.div_one] at m1
  rw [hs, h4, Nat.div_one] at m2
  rw [sided_side hp.bd h1] at m3
  have m4 : (theQ s lp lq).num = sided s (num lp) := by
    unfold theQ
    have h5 : decide (sided s (num lp) < 0) = s := sided_side hp.bd h1
    have h6 : decide ((mkRat (sided s (num lp)) (num lq)).num < 0) = decide (sided s (num lp) < 0) := by rw [m3, h5]
    have h7 : ((mkRat (sided s (num lp)) (num lq)).num < 0) ↔ (sided s (num lp) < 0) := by simpa using h6
    omega
  refine ⟨⟨p, q, ?_, ?_, ?_⟩, ⟨?_, ?_⟩, m4, m2⟩
  · unfold theQ; rw [m3]
  · unfold theQ; rw [m1]; exact np
  · unfold theQ; rw [m2]; exact nq
  · rw [m4, hs]; unfold Sz; rw [ep]; exact Nat.le_max_left _ _
  · unfold theQ; rw [m2]; unfold Sz; rw [eq]; exact Nat.le_max_right _ _
set_option maxRecDepth 100000 in
set_option maxHeartbeats 8000000 in
theorem rright5_any (s : Bool) (p q : Value) (lp lq : List Nat) (w : World) (hp : IsL w p lp) (hq : IsL w q lq) (np : lp.length ≤ 100000) (nq : lq.length ≤ 100000) :
    Calls Tryz.prog 49 #[.agg #[.bool s, p, q]] w fun e w' => e = .returned (.bool (rightQ s lp lq)) ∧ Below w.heap.size w w' := by
  have hZ := fun w h => rzright_any s p lp w h
  have hN := fun w h => rright_any q lq w h
  rw [show decide (lq = [] ∨ lat lq (lq.length - 1) ≠ 0) = rightN lq from rfl] at hN
  obtain ⟨A, C, rfl, _, _⟩ := id hp.frmL
  obtain ⟨D, E, rfl, _, _⟩ := id hq.frmL
  have j0 : decide (lq = []) = decide ((lq.length : Int) = 0) := by cases lq <;> simp; omega
  unfold rightQ
  cases hz : rightZ s lp
  · rw [hz] at hZ
    rw [Bool.false_and]
    clear hz j0 hN
    obtain ⟨g, hg⟩ : ∃ g, g = w.heap.size := ⟨_, rfl⟩
    obtain ⟨Y0, eY0, hA, bY0⟩ := box1 w 32 #[.bool s, .slice A lp.length C, .slice D lq.length E]
    have zY0 : Y0.heap.size = g + 1 := by rw [eY0, World.size_alloc, ← hg]
    rw [← hg] at hA
    replace hp := hp.below bY0
    replace hq := hq.below bY0
    have hB := bY0
    have hgw : w.heap.size ≤ g := by omega
    have EY := Lib.hid (And.intro hg eY0)
    clear hg eY0 zY0
    obtain ⟨c0, c1, c2⟩ := hA.q3
    go_enter Tryz.func49, Tryz.ntmps49
    go_wp2_with fail
    rw [← EY.out.2, ← EY.out.1]
    refine (hZ _ hp).mono ?_
    rintro e w2 ⟨rfl, b2⟩
    replace hp := hp.below b2
    replace hq := hq.below b2
    replace hA := hA.below b2 hA.lt
    replace hB := hB.trans (b2.mono hB.size)
    clear c0 c1 c2
    obtain ⟨c3, c4, c5⟩ := hA.q3
    go_wp2
    go_ret
    exact ⟨rfl, hB⟩
  · rw [hz] at hZ
    rw [Bool.true_and]
    cases hn : rightN lq
    · rw [hn] at hN
      rw [Bool.false_and]
      clear hn j0
      obtain ⟨g, hg⟩ : ∃ g, g = w.heap.size := ⟨_, rfl⟩
      obtain ⟨Y0, eY0, hA, bY0⟩ := box1 w 32 #[.bool s, .slice A lp.length C, .slice D lq.length E]
      have zY0 : Y0.heap.size = g + 1 := by rw [eY0, World.size_alloc, ← hg]
      rw [← hg] at hA
      replace hp := hp.below bY0
      replace hq := hq.below bY0
      have hB := bY0
      have hgw : w.heap.size ≤ g := by omega
      have EY := Lib.hid (And.intro hg eY0)
      clear hg eY0 zY0
      obtain ⟨c0, c1, c2⟩ := hA.q3
      go_enter Tryz.func49, Tryz.ntmps49
      go_wp2_with fail
      rw [← EY.out.2, ← EY.out.1]
      refine (hZ _ hp).mono ?_
      rintro e w2 ⟨rfl, b2⟩
      replace hp := hp.below b2
      replace hq := hq.below b2
      replace hA := hA.below b2 hA.lt
      replace hB := hB.trans (b2.mono hB.size)
      clear c0 c1 c2
      obtain ⟨c3, c4, c5⟩ := hA.q3
      go_wp2_with fail
      refine (hN _ hq).mono ?_
      rintro e w4 ⟨rfl, rfl⟩
      go_wp2
      go_ret
      exact ⟨rfl, hB⟩
    · rw [hn] at hN
      rw [Bool.true_and]
      by_cases h0 : lq = []
      · rw [decide_eq_true h0, Bool.not_true, Bool.false_and]
        have j1 : (lq.length : Int) = 0 := by rw [h0]; rfl
        have j2 : lq.length = 0 := by omega
        rw [j2] at hN hq
        clear h0 j0 j1
        rw [j2]
        obtain ⟨g, hg⟩ : ∃ g, g = w.heap.size := ⟨_, rfl⟩
        obtain ⟨Y0, eY0, hA, bY0⟩ := box1 w 32 #[.bool s, .slice A lp.length C, .slice D 0 E]
        have zY0 : Y0.heap.size = g + 1 := by rw [eY0, World.size_alloc, ← hg]
        rw [← hg] at hA
        replace hp := hp.below bY0
        replace hq := hq.below bY0
        have hB := bY0
        have hgw : w.heap.size ≤ g := by omega
        have EY := Lib.hid (And.intro hg eY0)
        clear hg eY0 zY0
        obtain ⟨c0, c1, c2⟩ := hA.q3
        go_enter Tryz.func49, Tryz.ntmps49
        go_wp2_with fail
        rw [← EY.out.2, ← EY.out.1]
        refine (hZ _ hp).mono ?_
        rintro e w2 ⟨rfl, b2⟩
        replace hp := hp.below b2
        replace hq := hq.below b2
        replace hA := hA.below b2 hA.lt
        replace hB := hB.trans (b2.mono hB.size)
        clear c0 c1 c2
        obtain ⟨c3, c4, c5⟩ := hA.q3
        go_wp2_with fail
        refine (hN _ hq).mono ?_
        rintro e w4 ⟨rfl, rfl⟩
        go_wp2
        go_ret
        exact ⟨rfl, hB⟩
      · rw [decide_eq_false h0, Bool.not_false, Bool.true_and]
        have j1 : ((lq.length : Int) == 0) = false := by
          rw [beq_eq_false_iff_ne]
          intro e
          exact h0 (List.eq_nil_of_length_eq_zero (by omega))
        have j2 : decide ((lq.length : Int) = 0) = false := by rw [← j0]; exact decide_eq_false h0
        obtain ⟨n1, e1⟩ := isN_of hp (rightZ_nat hz)
        obtain ⟨n2, e2⟩ := isN_of hq hn
        have hG := fun w h1 h2 => gcd_any (.slice A lp.length C) (.slice D lq.length E) (num lp) (num lq) w h1 h2 (by unfold Sz; rw [e1]; exact np) (by unfold Sz; rw [e2]; exact nq)
        have hO := fun w => rof_any 1 (by unfold W64; omega) w
        have hS := fun u v w h1 h2 => rsame_any u v (Nat.gcd (num lp) (num lq)) 1 w h1 h2
        clear e1 e2 h0 j0 hz hn np nq
        obtain ⟨g, hg⟩ : ∃ g, g = w.heap.size := ⟨_, rfl⟩
        obtain ⟨Y0, eY0, hA, bY0⟩ := box1 w 32 #[.bool s, .slice A lp.length C, .slice D lq.length E]
        have zY0 : Y0.heap.size = g + 1 := by rw [eY0, World.size_alloc, ← hg]
        rw [← hg] at hA
        replace hp := hp.below bY0
        replace hq := hq.below bY0
        replace n1 := n1.below bY0
        replace n2 := n2.below bY0
        have hB := bY0
        have hgw : w.heap.size ≤ g := by omega
        have EY := Lib.hid (And.intro hg eY0)
        clear hg eY0 zY0
        obtain ⟨c0, c1, c2⟩ := hA.q3
        go_enter Tryz.func49, Tryz.ntmps49
        go_wp2_with fail
        rw [← EY.out.2, ← EY.out.1]
        refine (hZ _ hp).mono ?_
        rintro e w2 ⟨rfl, b2⟩
        replace hp := hp.below b2
        replace hq := hq.below b2
        replace n1 := n1.below b2
        replace n2 := n2.below b2
        replace hA := hA.below b2 hA.lt
        replace hB := hB.trans (b2.mono hB.size)
        clear c0 c1 c2
        obtain ⟨c3, c4, c5⟩ := hA.q3
        go_wp2_with fail
        refine (hN _ hq).mono ?_
        rintro e w4 ⟨rfl, rfl⟩
        go_wp2_with fail
        refine (hG _ n1 n2).mono ?_
        rintro e w5 ⟨v3, rfl, n3, b5⟩
        replace hp := hp.below b5
        replace hq := hq.below b5
        replace n1 := n1.below b5
        replace n2 := n2.below b5
        replace hA := hA.below b5 hA.lt
        replace hB := hB.trans (b5.mono hB.size)
        clear c3 c4 c5
        obtain ⟨c6, c7, c8⟩ := hA.q3
        go_wp2_with fail
        refine (hO _).mono ?_
        rintro e w7 ⟨v4, rfl, n4, b7⟩
        replace hp := hp.below b7
        replace hq := hq.below b7
        replace n1 := n1.below b7
        replace n2 := n2.below b7
        replace hA := hA.below b7 hA.lt
        replace n3 := n3.below b7
        replace hB := hB.trans (b7.mono hB.size)
        clear c6 c7 c8
        obtain ⟨c9, c10, c11⟩ := hA.q3
        go_wp2_with fail
        refine (hS _ _ _ n3 n4).mono ?_
        rintro e w9 ⟨rfl, n9, hn9⟩
        have b9 : Below w7.heap.size w7 w9 := by rw [hn9]; exact below_drewN (Below.refl _ _) n9
        clear hn9
        replace hp := hp.below b9
        replace hq := hq.below b9
        replace n1 := n1.below b9
        replace n2 := n2.below b9
        replace hA := hA.below b9 hA.lt
        replace n3 := n3.below b9
        replace n4 := n4.below b9
        replace hB := hB.trans (b9.mono hB.size)
        clear c9 c10 c11
        obtain ⟨c12, c13, c14⟩ := hA.q3
        go_wp2
        go_ret
        exact ⟨rfl, hB⟩
set_option maxRecDepth 100000 in
set_option maxHeartbeats 8000000 in
theorem rfew5_any (s : Bool) (p q : Value) (lp lq : List Nat) (m : Nat) (w : World) (hp : IsL w p lp) (hq : IsL w q lq) (hm : m ≤ 1000) :
    Calls Tryz.prog 11 #[.agg #[.bool s, p, q], .int .i64 m] w fun e w' => e = .returned (.bool (fewQ s lp lq m)) ∧ Below w.heap.size w w' := by
  unfold fewQ
  obtain ⟨A, C, rfl, _, _⟩ := id hp.frmL
  obtain ⟨D, E, rfl, _, _⟩ := id hq.frmL
  by_cases h1 : lp.length ≤ m
  · rw [decide_eq_true h1, Bool.true_and]
    have i1 : decide ((lp.length : Int) ≤ (m : Int)) = true := decide_eq_true (by omega)
    by_cases h2 : lq.length ≤ m
    · rw [decide_eq_true h2, Bool.true_and]
      have i2 : decide ((lq.length : Int) ≤ (m : Int)) = true := decide_eq_true (by omega)
      have hR := fun w h1 h2 => rright5_any s (.slice A lp.length C) (.slice D lq.length E) lp lq w h1 h2 (by omega) (by omega)
      generalize rightQ s lp lq = r at *
      have k1 : decide (lp.length ≤ m) = true := decide_eq_true h1
      have k2 : decide (lq.length ≤ m) = true := decide_eq_true h2
      obtain ⟨g, hg⟩ : ∃ g, g = w.heap.size := ⟨_, rfl⟩
      obtain ⟨Y0, eY0, hA, bY0⟩ := box1 w 32 #[.bool s, .slice A lp.length C, .slice D lq.length E]
      have zY0 : Y0.heap.size = g + 1 := by rw [eY0, World.size_alloc, ← hg]
      rw [← hg] at hA
      replace hp := hp.below bY0
      replace hq := hq.below bY0
      have hB := bY0
      have hgw : w.heap.size ≤ g := by omega
      have EY := Lib.hid (And.intro hg eY0)
      clear hg eY0 zY0
      obtain ⟨c0, c1, c2⟩ := hA.q3
      go_enter Tryz.func11, Tryz.ntmps11
      go_wp2_with fail
      rw [← EY.out.2, ← EY.out.1]
      refine (hR _ hp hq).mono ?_
      rintro e w2 ⟨rfl, b2⟩
      replace hp := hp.below b2
      replace hq := hq.below b2
      replace hA := hA.below b2 hA.lt
      replace hB := hB.trans (b2.mono hB.size)
      clear c0 c1 c2
      obtain ⟨c3, c4, c5⟩ := hA.q3
      go_wp2
      go_ret
      exact ⟨rfl, hB⟩
    · rw [decide_eq_false h2, Bool.false_and]
      have i2 : decide ((lq.length : Int) ≤ (m : Int)) = false := decide_eq_false (by omega)
      have k1 : decide (lp.length ≤ m) = true := decide_eq_true h1
      have k2 : decide (lq.length ≤ m) = false := decide_eq_false h2
      obtain ⟨g, hg⟩ : ∃ g, g = w.heap.size := ⟨_, rfl⟩
      obtain ⟨Y0, eY0, hA, bY0⟩ := box1 w 32 #[.bool s, .slice A lp.length C, .slice D lq.length E]
      have zY0 : Y0.heap.size = g + 1 := by rw [eY0, World.size_alloc, ← hg]
      rw [← hg] at hA
      replace hp := hp.below bY0
      replace hq := hq.below bY0
      have hB := bY0
      have hgw : w.heap.size ≤ g := by omega
      have EY := Lib.hid (And.intro hg eY0)
      clear hg eY0 zY0
      obtain ⟨c0, c1, c2⟩ := hA.q3
      go_enter Tryz.func11, Tryz.ntmps11
      go_wp2
      go_ret
      refine ⟨rfl, ?_⟩
      rw [← EY.out.2, ← EY.out.1]
      first | exact hB | (rw [EY.out.1]; exact hB)
  · rw [decide_eq_false h1, Bool.false_and]
    have i1 : decide ((lp.length : Int) ≤ (m : Int)) = false := decide_eq_false (by omega)
    have k1 : decide (lp.length ≤ m) = false := decide_eq_false h1
    obtain ⟨g, hg⟩ : ∃ g, g = w.heap.size := ⟨_, rfl⟩
    obtain ⟨Y0, eY0, hA, bY0⟩ := box1 w 32 #[.bool s, .slice A lp.length C, .slice D lq.length E]
    have zY0 : Y0.heap.size = g + 1 := by rw [eY0, World.size_alloc, ← hg]
    rw [← hg] at hA
    replace hp := hp.below bY0
    replace hq := hq.below bY0
    have hB := bY0
    have hgw : w.heap.size ≤ g := by omega
    have EY := Lib.hid (And.intro hg eY0)
    clear hg eY0 zY0
    obtain ⟨c0, c1, c2⟩ := hA.q3
    go_enter Tryz.func11, Tryz.ntmps11
    go_wp2
    go_ret
    refine ⟨rfl, ?_⟩
    rw [← EY.out.2, ← EY.out.1]
    first | exact hB | (rw [EY.out.1]; exact hB)
end Go.Proofs.YtdnjdglekifhpaaGreat
namespace Go.Proofs.YtdnjdglekifhpaaGreat
open Go.ChangeShapes Go.WideShapes Go.ChangeAt Go.RowKit
set_option maxRecDepth 100000 in
theorem open_limbs_c {H : Type} {enc : TypeId × Value → H} {W : World} {t : TypeId} {v : Value} {fuel : Nat} {x : DataW H × List MemPlace} (ht : Tryz.prog.underlying t = some (.slice 141))
    (h : DataW.trod enc Tryz.prog W 0 (fun _ => true) true fuel t [v] = some x) (hlt : ∀ p ∈ x.2, p.block < W.heap.size) : ∃ l, IsL W v l := by
  rcases open_ints ht Tryz.underlying141 (by kernel_rfl : Tryz.prog.cellsOf 141 = 1) h with ⟨hcs, hx⟩ | ⟨a, len, cap, zs, hcs, _, hl, hm, hz, hx, hcell, hwz⟩
  · obtain rfl : v = _ := by simpa using hcs
    exact ⟨[], IsL.nil W⟩
  · obtain rfl : v = _ := by simpa using hcs
    subst hx
    simp only at hlt
    simp only [if_true] at hz
    unfold maxLen at hm
    have hll : ((zs.take len).map Int.toNat).length = len := by simp; omega
    refine ⟨(zs.take len).map Int.toNat, some a, cap, by rw [hll], by omega, by omega, ?_, ?_⟩
    · intro x hx
      obtain ⟨z, hz', rfl⟩ := List.mem_map.1 hx
      have := wf_u64 (hwz z (List.mem_of_mem_take hz'))
      omega
    · rw [hll]
      refine ⟨by rw [us_len, hll]; omega, fun h0 => ⟨a, rfl, ?_, fun j u hu => ?_⟩⟩
      · obtain ⟨b, off, spot⟩ := a
        have hspot : spot = none := by simpa [Addr.add] using World.cell?_spot (hcell 0 (by omega))
        subst hspot
        exact hlt (.cell b off) (MemPlace.mem_row.2 ⟨0, by omega, by simp⟩)
      · have hj : j < len := by
          rcases Nat.lt_or_ge j len with h' | h'
          · exact h'
          · rw [List.getElem?_eq_none (by rw [us_len, hll]; exact h')] at hu; cases hu
        have hjz : j < zs.length := by omega
        have hwf := wf_u64 (hwz _ (List.getElem_mem hjz))
        rw [hcell j hjz]
        rw [us_at _ j (by rw [hll]; exact hj)] at hu
        rw [← Option.some.inj hu]
        have e : zs.getD j 0 = zs[j] := by simp [List.getD, hjz]
        have e2 : ((zs.take len).map Int.toNat)[j]?.getD 0 = (zs[j]).toNat := by simp [hj, hjz]
        rw [e, e2]
        congr 2
        omega
theorem cells_zed : Tryz.prog.cellsOf 30 = 2 := by kernel_rfl
theorem cells_boolz : Tryz.prog.cellsOf 4 = 1 := by kernel_rfl
theorem cells_natz : Tryz.prog.cellsOf 28 = 1 := by kernel_rfl
end Go.Proofs.YtdnjdglekifhpaaGreat
namespace Go.Proofs.YtdnjdglekifhpaaGreat
open Go.ChangeShapes Go.WideShapes Go.ChangeAt Go.RowKit
section
variable {H : Type} {enc : TypeId × Value → H} {W : World}
theorem cells_ratq : Tryz.prog.cellsOf 32 = 3 := by kernel_rfl
theorem cells_rat3 : Tryz.prog.cellsOf 52 = 9 := by kernel_rfl
theorem cells_int2q : Tryz.prog.cellsOf 34 = 2 := by kernel_rfl
theorem cells_i64q : Tryz.prog.cellsOf 2 = 1 := by kernel_rfl
theorem okWide_arr {P : Program} {w : World} {r : Reach} {t e : TypeId} {n b0 : Nat} {v : Value} (ht : P.underlying t = some (.array n e)) (h : Value.okWide P w r b0 t v) : ∃ cs, v = .agg cs ∧ cs.size = P.cellsOf t := by
  simp only [Value.okWide, ht] at h
  obtain ⟨cs, h1, h2, _⟩ := h
  exact ⟨cs, h1, h2⟩
set_option maxRecDepth 100000 in
theorem open_zed2c {fuel : Nat} {c0 c1 : Value} {x : DataW H × List MemPlace} (h : DataW.trod enc Tryz.prog W 0 (fun _ => true) true fuel 30 [c0, c1] = some x) (hlt : ∀ p ∈ x.2, p.block < W.heap.size) :
    ∃ b l, c0 = .bool b ∧ IsL W c1 l := by
  obtain ⟨xs, n, _, rfl, _, hlen, hg⟩ := DataW.trod_struct Tryz.underlying30 h
  match xs, hlen with
  | [y0, y1], _ =>
    have a0 : DataW.trod enc Tryz.prog W 0 (fun _ => true) true n 4 (([c0, c1].drop 0).take (Tryz.prog.cellsOf 4)) = some y0 := hg 0 _ rfl
    have a1 : DataW.trod enc Tryz.prog W 0 (fun _ => true) true n 28 (([c0, c1].drop 1).take (Tryz.prog.cellsOf 28)) = some y1 := hg 1 _ rfl
    rw [cells_boolz] at a0
    rw [cells_natz] at a1
    obtain ⟨b, e0, _⟩ := DataW.trod_bool Tryz.underlying4 a0
    simp at e0
    subst e0
    obtain ⟨l, hl⟩ := open_limbs_c Tryz.underlying28 a1 (fun p hp => hlt p (by simp [hp]))
    exact ⟨b, l, rfl, hl⟩
set_option maxRecDepth 100000 in
theorem open_rat3c {fuel : Nat} {c0 c1 c2 : Value} {x : DataW H × List MemPlace} (h : DataW.trod enc Tryz.prog W 0 (fun _ => true) true fuel 32 [c0, c1, c2] = some x) (hlt : ∀ p ∈ x.2, p.block < W.heap.size) :
    ∃ b lp lq, c0 = .bool b ∧ IsL W c1 lp ∧ IsL W c2 lq := by
  obtain ⟨xs, n, _, rfl, _, hlen, hg⟩ := DataW.trod_struct Tryz.underlying32 h
  match xs, hlen with
  | [y0, y1], _ =>
    have a0 : DataW.trod enc Tryz.prog W 0 (fun _ => true) true n 30 (([c0, c1, c2].drop 0).take (Tryz.prog.cellsOf 30)) = some y0 := hg 0 _ rfl
    have a1 : DataW.trod enc Tryz.prog W 0 (fun _ => true) true n 28 (([c0, c1, c2].drop 2).take (Tryz.prog.cellsOf 28)) = some y1 := hg 1 _ rfl
    rw [cells_zed] at a0
    rw [cells_natz] at a1
    obtain ⟨b, lp, rfl, hp⟩ := open_zed2c a0 (fun p hp => hlt p (by simp [hp]))
    obtain ⟨lq, hq⟩ := open_limbs_c Tryz.underlying28 a1 (fun p hp => hlt p (by simp [hp]))
    exact ⟨b, lp, lq, rfl, hp, hq⟩
def RawQ (w : World) (_s : Bool) (p q : Value) (lp lq : List Nat) : Prop := IsL w p lp ∧ IsL w q lq
set_option maxRecDepth 100000 in
theorem open_rat3 {base : Nat} {v : Value} {d : DataW H} {p : List MemPlace} (hv : Value.okWide Tryz.prog W .any base 52 v) (h : DataW.Trod enc Tryz.prog W 0 (fun _ => true) true 52 v d p)
    (hlt : ∀ x ∈ p, x.block < W.heap.size) : ∃ s1 p1 q1 s2 p2 q2 s3 p3 q3 a1 b1 a2 b2 a3 b3, v = .agg #[.bool s1, p1, q1, .bool s2, p2, q2, .bool s3, p3, q3] ∧ RawQ W s1 p1 q1 a1 b1 ∧ RawQ W s2 p2 q2 a2 b2 ∧ RawQ W s3 p3 q3 a3 b3 := by
  obtain ⟨⟨l⟩, rfl, hsz⟩ := okWide_arr Tryz.underlying52 hv
  rw [cells_rat3] at hsz
  match l, hsz with
  | [c0, c1, c2, c3, c4, c5, c6, c7, c8], _ =>
    obtain ⟨fuel, hf⟩ := h
    obtain ⟨xs, m, _, hxp, _, hl, h1⟩ := DataW.trod_array Tryz.underlying52 hf
    match xs, hl with
    | [y0, y1, y2], _ =>
      obtain ⟨rfl, rfl⟩ := Prod.mk.inj hxp
      have a0 : DataW.trod enc Tryz.prog W 0 (fun _ => true) true m 32 (([c0, c1, c2, c3, c4, c5, c6, c7, c8].drop (0 * Tryz.prog.cellsOf 32)).take (Tryz.prog.cellsOf 32)) = some y0 := h1 0 (by omega)
      have a1 : DataW.trod enc Tryz.prog W 0 (fun _ => true) true m 32 (([c0, c1, c2, c3, c4, c5, c6, c7, c8].drop (1 * Tryz.prog.cellsOf 32)).take (Tryz.prog.cellsOf 32)) = some y1 := h1 1 (by omega)
      have a2 : DataW.trod enc Tryz.prog W 0 (fun _ => true) true m 32 (([c0, c1, c2, c3, c4, c5, c6, c7, c8].drop (2 * Tryz.prog.cellsOf 32)).take (Tryz.prog.cellsOf 32)) = some y2 := h1 2 (by omega)
      rw [cells_ratq] at a0 a1 a2
      obtain ⟨s1, A, B, rfl, hA, hB⟩ := open_rat3c a0 (fun p hp => hlt p (by simp [hp]))
      obtain ⟨s2, C, D, rfl, hC, hD⟩ := open_rat3c a1 (fun p hp => hlt p (by simp [hp]))
      obtain ⟨s3, E, F, rfl, hE, hF⟩ := open_rat3c a2 (fun p hp => hlt p (by simp [hp]))
      exact ⟨s1, _, _, s2, _, _, s3, _, _, A, B, C, D, E, F, rfl, ⟨hA, hB⟩, ⟨hC, hD⟩, ⟨hE, hF⟩⟩
set_option maxRecDepth 100000 in
theorem open_int2 {base : Nat} {v : Value} {d : DataW H} {p : List MemPlace} (hv : Value.okWide Tryz.prog W .any base 34 v) (h : DataW.Trod enc Tryz.prog W 0 (fun _ => true) true 34 v d p) :
    ∃ a b : Int, v = .agg #[.int .i64 a, .int .i64 b] ∧ I64 a ∧ I64 b := by
  obtain ⟨⟨l⟩, rfl, hsz⟩ := okWide_arr Tryz.underlying34 hv
  rw [cells_int2q] at hsz
  match l, hsz with
  | [x, y], _ =>
    obtain ⟨fuel, hf⟩ := h
    obtain ⟨xs, m, _, hxp, _, hl, h1⟩ := DataW.trod_array Tryz.underlying34 hf
    match xs, hl with
    | [y0, y1], _ =>
      have a0 : DataW.trod enc Tryz.prog W 0 (fun _ => true) true m 2 (([x, y].drop (0 * Tryz.prog.cellsOf 2)).take (Tryz.prog.cellsOf 2)) = some y0 := h1 0 (by omega)
      have a1 : DataW.trod enc Tryz.prog W 0 (fun _ => true) true m 2 (([x, y].drop (1 * Tryz.prog.cellsOf 2)).take (Tryz.prog.cellsOf 2)) = some y1 := h1 1 (by omega)
      rw [cells_i64q] at a0 a1
      obtain ⟨n, e1, _, w1⟩ := DataW.trod_int Tryz.underlying2 a0
      obtain ⟨n', e2, _, w2⟩ := DataW.trod_int Tryz.underlying2 a1
      simp at e1 e2
      subst e1 e2
      exact ⟨n, n', rfl, wf_I64 w1, wf_I64 w2⟩
end
end Go.Proofs.YtdnjdglekifhpaaGreat
