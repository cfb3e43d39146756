/- The live question of layer 20. Printed by gen_alive20.py. -/
import Derived.Test.YtdnjdglekifhpaaGreatTxf
namespace Go.Proofs.YtdnjdglekifhpaaGreat
open Go.RowKit
attribute [local go_sem ↓] Go.wp_at_zero Go.wp_at_succ
def IsS (w : World) (v : Value) (a b : Rat) : Prop := ∃ s p q t x y, v = .agg #[.bool s, p, q, .bool t, x, y] ∧ IsQ w (.agg #[.bool s, p, q]) a ∧ IsQ w (.agg #[.bool t, x, y]) b
theorem IsS.below {w w' : World} {v : Value} {a b : Rat} (h : IsS w v a b) (hb : Below w.heap.size w w') : IsS w' v a b := by
  obtain ⟨s, p, q, t, x, y, e, h1, h2⟩ := h; exact ⟨s, p, q, t, x, y, e, h1.below hb, h2.below hb⟩
theorem IsS.filled {w W : World} {v : Value} {a b : Rat} (h : IsS w v a b) (k : ∀ v l, IsL w v l → IsL W v l) : IsS W v a b := by
  obtain ⟨s, p, q, t, x, y, e, h1, h2⟩ := h; exact ⟨s, p, q, t, x, y, e, h1.filled k, h2.filled k⟩
theorem IsS.opn {w : World} {v : Value} {a b : Rat} (h : IsS w v a b) : ∃ s A L C D M E t A' L' C' D' M' E', v = .agg #[.bool s, .slice A L C, .slice D M E, .bool t, .slice A' L' C', .slice D' M' E'] ∧ IsQ w (.agg #[.bool s, .slice A L C, .slice D M E]) a ∧ IsQ w (.agg #[.bool t, .slice A' L' C', .slice D' M' E']) b := by
  obtain ⟨s, p, q, t, x, y, rfl, h1, h2⟩ := h
  obtain ⟨s1, A, L, C, D, M, E, e1, h1⟩ := h1.opn
  obtain ⟨t1, A', L', C', D', M', E', e2, h2⟩ := h2.opn
  cases e1; cases e2
  exact ⟨_, _, _, _, _, _, _, _, _, _, _, _, _, _, rfl, h1, h2⟩
set_option maxRecDepth 100000 in
set_option maxHeartbeats 8000000 in
theorem paround_any (n : Int) (k : Nat) (va : Value) (a : Rat) (w : World) (hk : k ≤ 40) (hb : In64 n) (ha : IsQ w va a) (sa : BQ a 2000) (na : decide (a.num < 0) = false) :
    Calls Tryz.prog 19 #[.int .i64 n, .int .i64 k, va] w fun e w' => ∃ v', e = .returned (.tuple #[v', .int .i64 0]) ∧ IsS w' v' (mkRat n (2 ^ k) - a * mkRat 1 (2 ^ k)) (mkRat n (2 ^ k) + a * mkRat 1 (2 ^ k)) ∧ Below w.heap.size w w' := by
  have hN := fun w => pnum_any n k w hk hb
  have hP40 : 2 ^ k ≤ 2 ^ 40 := Nat.pow_le_pow_right (by omega) hk
  have hPp : 0 < 2 ^ k := Nat.pow_pos (by omega)
  have hPi : ((2 ^ k : Nat) : Int) = (2 : Int) ^ k := by simp
  have sx : BQ (mkRat n (2 ^ k)) 41 := BQ.mk ((Sz.u64 (by have := hb.1; have := hb.2; unfold W64; omega)).more (by omega)) ((Sz.two_pow k).more (by omega)) (by omega)
  have sy : BQ (mkRat 1 (2 ^ k)) 41 := BQ.mk (Sz.one.more (by omega)) ((Sz.two_pow k).more (by omega)) (by omega)
  have hOv := fun w => pover_any 1 ((2 ^ k : Nat) : Int) w ⟨by omega, by omega⟩ ⟨by omega, by omega⟩ (by omega)
  rw [Int.natAbs_natCast] at hOv
  have hMu := fun u v w hu hv => pmul_any u v a (mkRat 1 (2 ^ k)) w hu hv (sa.more (by omega)) (sy.more (by omega))
  have s1 := sa.mul sy
  have hSu := fun u v w hu hv => prsub_any u v (mkRat n (2 ^ k)) (a * mkRat 1 (2 ^ k)) w hu hv (sx.more (by omega)) (s1.more (by omega))
  have hAd := fun u v w hu hv => pradd_any u v (mkRat n (2 ^ k)) (a * mkRat 1 (2 ^ k)) w hu hv (sx.more (by omega)) (s1.more (by omega))
  generalize mkRat n (2 ^ k) - a * mkRat 1 (2 ^ k) = r1 at *
  generalize mkRat n (2 ^ k) + a * mkRat 1 (2 ^ k) = r2 at *
  generalize a * mkRat 1 (2 ^ k) = by_ at *
  generalize mkRat 1 (2 ^ k) = st at *
  generalize mkRat n (2 ^ k) = x at *
  obtain ⟨P, hP⟩ : ∃ P, P = 2 ^ k := ⟨_, rfl⟩
  rw [← hP] at hP40 hPi hOv
  have w1 : IntKind.i64.wrap ((2 : Int) ^ k) = (P : Int) := by rw [← hPi, IntKind.wrap_i64]; omega
  have w2 : IntKind.i64.wrap (1 * (2 : Int) ^ k) = (P : Int) := by rw [Int.one_mul]; exact w1
  obtain ⟨s1, A1, L1, C1, D1, M1, E1, rfl, q1⟩ := ha.opn
  obtain rfl : s1 = false := by rw [q1.parts.1]; exact na
  clear hP hPi hP40 hPp sx sy sa na ha hb
  obtain ⟨g, hg⟩ : ∃ g, g = w.heap.size := ⟨_, rfl⟩
  obtain ⟨Y0, eY0, hA, bY0⟩ := box1 w 32 #[.bool false, .slice A1 L1 C1, .slice D1 M1 E1]
  have zY0 : Y0.heap.size = g + 1 := by rw [eY0, World.size_alloc, ← hg]
  rw [← hg] at hA
  replace q1 := q1.below bY0
  have hB := bY0
  obtain ⟨Y1, eY1, hR, bY1⟩ := box1 Y0 46 #[.bool false, .slice none 0 0, .slice none 0 0, .bool false, .slice none 0 0, .slice none 0 0]
  have zY1 : Y1.heap.size = g + 1 + 1 := by rw [eY1, World.size_alloc, zY0]
  rw [zY0] at hR
  replace hA := hA.below bY1 hA.lt
  replace q1 := q1.below bY1
  replace hB := hB.trans (bY1.mono hB.size)
  have hgw : w.heap.size ≤ g := by omega
  have EY := Lib.hid (And.intro hg (And.intro eY0 eY1))
  clear hg eY0 zY0 eY1 zY1
  obtain ⟨c0, c1, c2⟩ := hA.q3
  obtain ⟨c3, c4, c5, c6, c7, c8⟩ := hR.q6
  go_enter Tryz.func19, Tryz.ntmps19
  go_wp2_with fail
  rw [← EY.out.2.1, ← EY.out.2.2, ← EY.out.1]
  refine (hN _).mono ?_
  rintro e w2 ⟨v3, rfl, q3, b2⟩
  replace q1 := q1.below b2
  replace hA := hA.below b2 hA.lt
  replace hR := hR.below b2 hR.lt
  replace hB := hB.trans (b2.mono hB.size)
  clear c0 c1 c2 c3 c4 c5 c6 c7 c8
  obtain ⟨c9, c10, c11⟩ := hA.q3
  obtain ⟨c12, c13, c14, c15, c16, c17⟩ := hR.q6
  obtain ⟨s3, A3, L3, C3, D3, M3, E3, rfl, q3⟩ := q3.opn
  obtain ⟨V4, eV, hV, bV4⟩ := box1 w2 32 #[.bool s3, .slice A3 L3 C3, .slice D3 M3 E3]
  obtain ⟨X4, eX⟩ : ∃ X, X = w2.heap.size := ⟨_, rfl⟩
  rw [← eX] at hV
  have lX4 : w.heap.size ≤ X4 := by rw [eX]; exact hB.size
  have dX4_hA : g ≠ X4 := by have := hA.lt; omega
  have dX4_hR : g + 1 ≠ X4 := by have := hR.lt; omega
  have EV4 := Lib.hid (And.intro eV eX)
  clear eV eX
  go_upto_region 2 with fail
  rw [← EV4.out.1, ← EV4.out.2]
  replace q1 := q1.below bV4
  replace hA := hA.below bV4 hA.lt
  replace hR := hR.below bV4 hR.lt
  replace q3 := q3.below bV4
  replace hB := hB.trans (bV4.mono hB.size)
  clear c9 c10 c11 c12 c13 c14 c15 c16 c17
  obtain ⟨c18, c19, c20⟩ := hA.q3
  obtain ⟨c21, c22, c23, c24, c25, c26⟩ := hR.q6
  obtain ⟨c27, c28, c29⟩ := hV.q3
  go_upto_region 4 with fail
  replace hB := hB.drew
  replace q1 := q1.below (bdrew _)
  replace hA := hA.drew
  replace hR := hR.drew
  replace q3 := q3.below (bdrew _)
  replace hV := hV.drew
  clear c18 c19 c20 c21 c22 c23 c24 c25 c26 c27 c28 c29
  go_cut [10] (fun s10 wx => ∃ X5 s5 A5 L5 C5 D5 M5 E5, s10 = .pointer (some ⟨X5, 0, none⟩) ∧ Blk wx (g + 1) 46 #[.bool false, .slice none 0 0, .slice none 0 0, .bool false, .slice none 0 0, .slice none 0 0] ∧ IsQ wx (.agg #[.bool s3, .slice A3 L3 C3, .slice D3 M3 E3]) x ∧ Blk wx X4 32 #[.bool s3, .slice A3 L3 C3, .slice D3 M3 E3] ∧ IsQ wx (.agg #[.bool s5, .slice A5 L5 C5, .slice D5 M5 E5]) by_ ∧ Blk wx X5 32 #[.bool s5, .slice A5 L5 C5, .slice D5 M5 E5] ∧ Below w.heap.size w wx ∧ w.heap.size ≤ X5 ∧ g + 1 ≠ X5 ∧ X4 ≠ X5)
  case first =>
    refine wp_region_noPanic ?_
    refine wp_region_held_drew (S := fun w' => w'.cell? ⟨g, 0, none⟩ = some (.bool false) ∧ w'.cell? ⟨g, 1, none⟩ = some (.slice A1 L1 C1) ∧ w'.cell? ⟨g, 2, none⟩ = some (.slice D1 M1 E1)) (by kernel_rfl) ?_ (fun hHeld => ?_)
    · exact ⟨hA.cell 0, hA.cell 1, hA.cell 2⟩
    obtain ⟨wd4_1, hwd⟩ : ∃ q, q = V4.drew := ⟨_, rfl⟩
    rw [← hwd] at hB q1 hA hR q3 hV hHeld ⊢
    clear hwd
    refine tkH 0 rfl (v := ?v1) ?h1 ?r1
    case h1 => intro w hSw; (try dsimp only at hSw); go_simp; try (with_reducible rfl)
    refine tkH 1 rfl (v := ?v2) ?h2 ?r2
    case h2 => intro w hSw; (try dsimp only at hSw); go_simp; try (with_reducible rfl)
    refine tkH 2 rfl (v := ?v3) ?h3 ?r3
    case h3 => intro w hSw; (try dsimp only at hSw); go_simp; try (with_reducible rfl)
    try simp only [Act.put, lay1, lay2, lay3, lay4, lay5, lay6]
    refine wpAnyH_ready (rs := [3, 5]) (by kernel_rfl) (by simp) (AllReadyH.cons rfl (fun K hK => ?_) (AllReadyH.cons rfl (fun K hK => ?_) AllReadyH.nil))
    · go_simp
      refine (hOv _).mono ?_
      rintro e u4_1 ⟨v4, rfl, q4, b4_1⟩
      replace q1 := q1.below b4_1
      replace hA := hA.below b4_1 hA.lt
      replace hR := hR.below b4_1 hR.lt
      replace q3 := q3.below b4_1
      replace hV := hV.below b4_1 hV.lt
      replace hB := hB.trans (b4_1.mono hB.size)
      obtain ⟨s4, A4, L4, C4, D4, M4, E4, rfl, q4⟩ := q4.opn
      go_wp2_with fail
      refine hK.out _ _ ?_ (fun hHeld => ?_)
      · exact ⟨hA.cell 0, hA.cell 1, hA.cell 2⟩
      clear hK K
      try simp only [Act.put, lay1, lay2, lay3, lay4, lay5, lay6]
      refine wpAnyH_ready (rs := [4, 5]) (by kernel_rfl) (by simp) (AllReadyH.cons rfl (fun K hK => ?_) (AllReadyH.cons rfl (fun K hK => ?_) AllReadyH.nil))
      · go_simp
        refine (hMu _ _ _ q1 q4).mono ?_
        rintro e u4_2 ⟨v5, rfl, q5, b4_2⟩
        replace q1 := q1.below b4_2
        replace hA := hA.below b4_2 hA.lt
        replace hR := hR.below b4_2 hR.lt
        replace q3 := q3.below b4_2
        replace hV := hV.below b4_2 hV.lt
        replace q4 := q4.below b4_2
        replace hB := hB.trans (b4_2.mono hB.size)
        obtain ⟨s5, A5, L5, C5, D5, M5, E5, rfl, q5⟩ := q5.opn
        go_wp2_with fail
        refine hK.out _ _ ?_ (fun hHeld => ?_)
        · exact ⟨hA.cell 0, hA.cell 1, hA.cell 2⟩
        clear hK K
        try simp only [Act.put, lay1, lay2, lay3, lay4, lay5, lay6]
        refine wpAnyH_ready (rs := [5]) (by kernel_rfl) (by simp) (AllReadyH.cons rfl (fun K hK => ?_) AllReadyH.nil)
        obtain ⟨u4_3, eu, hU, b4_3⟩ := box1 u4_2 32 #[.bool false, .slice none 0 0, .slice none 0 0]
        obtain ⟨X5, en⟩ : ∃ X, X = u4_2.heap.size := ⟨_, rfl⟩
        rw [← en] at hU
        have lX5 : w.heap.size ≤ X5 := by rw [en]; exact hB.size
        have dX5_hA : g ≠ X5 := by have := hA.lt; omega
        have dX5_hR : g + 1 ≠ X5 := by have := hR.lt; omega
        have dX5_hV : X4 ≠ X5 := by have := hV.lt; omega
        have EUX5 := Lib.hid (And.intro eu en)
        clear eu en
        go_simp
        rw [← EUX5.out.1, ← EUX5.out.2]
        replace q1 := q1.below b4_3
        replace hA := hA.below b4_3 hA.lt
        replace hR := hR.below b4_3 hR.lt
        replace q3 := q3.below b4_3
        replace hV := hV.below b4_3 hV.lt
        replace q4 := q4.below b4_3
        replace q5 := q5.below b4_3
        replace hB := hB.trans (b4_3.mono hB.size)
        refine hK.out _ _ ?_ (fun hHeld => ?_)
        · exact ⟨hA.cell 0, hA.cell 1, hA.cell 2⟩
        clear hK K
        try simp only [Act.put, lay1, lay2, lay3, lay4, lay5, lay6]
        refine wpAnyH_ready (rs := [6]) (by kernel_rfl) (by simp) (AllReadyH.cons rfl (fun K hK => ?_) AllReadyH.nil)
        obtain ⟨u4_4, eu, hU', kz, kb, kB⟩ := fill3 hU (.bool s5) (.slice A5 L5 C5) (.slice D5 M5 E5) (by simp [noU])
        have x0 : World.cell? _ ⟨X5, 0, none⟩ = some (.bool false) := hU.cell 0
        have x1 : World.cell? _ ⟨X5, 1, none⟩ = some (.slice none 0 0) := hU.cell 1
        have x2 : World.cell? _ ⟨X5, 2, none⟩ = some (.slice none 0 0) := hU.cell 2
        have xf := hU.frozen
        go_simp
        rw [← eu]
        replace q1 := q1.filled kz
        replace hA := kb _ _ _ hA (by omega)
        replace hR := kb _ _ _ hR (by omega)
        replace q3 := q3.filled kz
        replace hV := kb _ _ _ hV (by omega)
        replace q4 := q4.filled kz
        replace q5 := q5.filled kz
        replace hB := kB _ _ (by omega) hB
        replace hU := hU'
        clear hU' kz kb kB eu xf x0 x1 x2
        refine hK.out _ _ ?_ (fun hHeld => ?_)
        · exact ⟨hA.cell 0, hA.cell 1, hA.cell 2⟩
        clear hK K
        try simp only [Act.put, lay1, lay2, lay3, lay4, lay5, lay6]
        try dsimp only
        try simp only [Act.put, lay1, lay2, lay3, lay4, lay5, lay6]
        refine wpAnyH_done (by kernel_rfl) ?_ _
        refine NoPanic.normal ?_
        go_wp2_with fail
        go_meet
        exact ⟨X5, s5, A5, L5, C5, D5, M5, E5, rfl, hR, q3, hV, q5, hU, hB, lX5, (by assumption), (by assumption)⟩
      · obtain ⟨u4_5, eu, hU, b4_5⟩ := box1 u4_1 32 #[.bool false, .slice none 0 0, .slice none 0 0]
        obtain ⟨X5, en⟩ : ∃ X, X = u4_1.heap.size := ⟨_, rfl⟩
        rw [← en] at hU
        have lX5 : w.heap.size ≤ X5 := by rw [en]; exact hB.size
        have dX5_hA : g ≠ X5 := by have := hA.lt; omega
        have dX5_hR : g + 1 ≠ X5 := by have := hR.lt; omega
        have dX5_hV : X4 ≠ X5 := by have := hV.lt; omega
        have EUX5 := Lib.hid (And.intro eu en)
        clear eu en
        go_simp
        rw [← EUX5.out.1, ← EUX5.out.2]
        replace q1 := q1.below b4_5
        replace hA := hA.below b4_5 hA.lt
        replace hR := hR.below b4_5 hR.lt
        replace q3 := q3.below b4_5
        replace hV := hV.below b4_5 hV.lt
        replace q4 := q4.below b4_5
        replace hB := hB.trans (b4_5.mono hB.size)
        refine hK.out _ _ ?_ (fun hHeld => ?_)
        · exact ⟨hA.cell 0, hA.cell 1, hA.cell 2⟩
        clear hK K
        try simp only [Act.put, lay1, lay2, lay3, lay4, lay5, lay6]
        refine wpAnyH_ready (rs := [4]) (by kernel_rfl) (by simp) (AllReadyH.cons rfl (fun K hK => ?_) AllReadyH.nil)
        go_simp
        refine (hMu _ _ _ q1 q4).mono ?_
        rintro e u4_6 ⟨v5, rfl, q5, b4_6⟩
        replace q1 := q1.below b4_6
        replace hA := hA.below b4_6 hA.lt
        replace hR := hR.below b4_6 hR.lt
        replace q3 := q3.below b4_6
        replace hV := hV.below b4_6 hV.lt
        replace q4 := q4.below b4_6
        replace hU := hU.below b4_6 hU.lt
        replace hB := hB.trans (b4_6.mono hB.size)
        obtain ⟨s5, A5, L5, C5, D5, M5, E5, rfl, q5⟩ := q5.opn
        go_wp2_with fail
        refine hK.out _ _ ?_ (fun hHeld => ?_)
        · exact ⟨hA.cell 0, hA.cell 1, hA.cell 2⟩
        clear hK K
        try simp only [Act.put, lay1, lay2, lay3, lay4, lay5, lay6]
        refine wpAnyH_ready (rs := [6]) (by kernel_rfl) (by simp) (AllReadyH.cons rfl (fun K hK => ?_) AllReadyH.nil)
        obtain ⟨u4_7, eu, hU', kz, kb, kB⟩ := fill3 hU (.bool s5) (.slice A5 L5 C5) (.slice D5 M5 E5) (by simp [noU])
        have x0 : World.cell? _ ⟨X5, 0, none⟩ = some (.bool false) := hU.cell 0
        have x1 : World.cell? _ ⟨X5, 1, none⟩ = some (.slice none 0 0) := hU.cell 1
        have x2 : World.cell? _ ⟨X5, 2, none⟩ = some (.slice none 0 0) := hU.cell 2
        have xf := hU.frozen
        go_simp
        rw [← eu]
        replace q1 := q1.filled kz
        replace hA := kb _ _ _ hA (by omega)
        replace hR := kb _ _ _ hR (by omega)
        replace q3 := q3.filled kz
        replace hV := kb _ _ _ hV (by omega)
        replace q4 := q4.filled kz
        replace q5 := q5.filled kz
        replace hB := kB _ _ (by omega) hB
        replace hU := hU'
        clear hU' kz kb kB eu xf x0 x1 x2
        refine hK.out _ _ ?_ (fun hHeld => ?_)
        · exact ⟨hA.cell 0, hA.cell 1, hA.cell 2⟩
        clear hK K
        try simp only [Act.put, lay1, lay2, lay3, lay4, lay5, lay6]
        try dsimp only
        try simp only [Act.put, lay1, lay2, lay3, lay4, lay5, lay6]
        refine wpAnyH_done (by kernel_rfl) ?_ _
        refine NoPanic.normal ?_
        go_wp2_with fail
        go_meet
        exact ⟨X5, s5, A5, L5, C5, D5, M5, E5, rfl, hR, q3, hV, q5, hU, hB, lX5, (by assumption), (by assumption)⟩
    · obtain ⟨u4_8, eu, hU, b4_8⟩ := box1 wd4_1 32 #[.bool false, .slice none 0 0, .slice none 0 0]
      obtain ⟨X5, en⟩ : ∃ X, X = wd4_1.heap.size := ⟨_, rfl⟩
      rw [← en] at hU
      have lX5 : w.heap.size ≤ X5 := by rw [en]; exact hB.size
      have dX5_hA : g ≠ X5 := by have := hA.lt; omega
      have dX5_hR : g + 1 ≠ X5 := by have := hR.lt; omega
      have dX5_hV : X4 ≠ X5 := by have := hV.lt; omega
      have EUX5 := Lib.hid (And.intro eu en)
      clear eu en
      go_simp
      rw [← EUX5.out.1, ← EUX5.out.2]
      replace q1 := q1.below b4_8
      replace hA := hA.below b4_8 hA.lt
      replace hR := hR.below b4_8 hR.lt
      replace q3 := q3.below b4_8
      replace hV := hV.below b4_8 hV.lt
      replace hB := hB.trans (b4_8.mono hB.size)
      refine hK.out _ _ ?_ (fun hHeld => ?_)
      · exact ⟨hA.cell 0, hA.cell 1, hA.cell 2⟩
      clear hK K
      try simp only [Act.put, lay1, lay2, lay3, lay4, lay5, lay6]
      refine wpAnyH_ready (rs := [3]) (by kernel_rfl) (by simp) (AllReadyH.cons rfl (fun K hK => ?_) AllReadyH.nil)
      go_simp
      refine (hOv _).mono ?_
      rintro e u4_9 ⟨v4, rfl, q4, b4_9⟩
      replace q1 := q1.below b4_9
      replace hA := hA.below b4_9 hA.lt
      replace hR := hR.below b4_9 hR.lt
      replace q3 := q3.below b4_9
      replace hV := hV.below b4_9 hV.lt
      replace hU := hU.below b4_9 hU.lt
      replace hB := hB.trans (b4_9.mono hB.size)
      obtain ⟨s4, A4, L4, C4, D4, M4, E4, rfl, q4⟩ := q4.opn
      go_wp2_with fail
      refine hK.out _ _ ?_ (fun hHeld => ?_)
      · exact ⟨hA.cell 0, hA.cell 1, hA.cell 2⟩
      clear hK K
      try simp only [Act.put, lay1, lay2, lay3, lay4, lay5, lay6]
      refine wpAnyH_ready (rs := [4]) (by kernel_rfl) (by simp) (AllReadyH.cons rfl (fun K hK => ?_) AllReadyH.nil)
      go_simp
      refine (hMu _ _ _ q1 q4).mono ?_
      rintro e u4_10 ⟨v5, rfl, q5, b4_10⟩
      replace q1 := q1.below b4_10
      replace hA := hA.below b4_10 hA.lt
      replace hR := hR.below b4_10 hR.lt
      replace q3 := q3.below b4_10
      replace hV := hV.below b4_10 hV.lt
      replace hU := hU.below b4_10 hU.lt
      replace q4 := q4.below b4_10
      replace hB := hB.trans (b4_10.mono hB.size)
      obtain ⟨s5, A5, L5, C5, D5, M5, E5, rfl, q5⟩ := q5.opn
      go_wp2_with fail
      refine hK.out _ _ ?_ (fun hHeld => ?_)
      · exact ⟨hA.cell 0, hA.cell 1, hA.cell 2⟩
      clear hK K
      try simp only [Act.put, lay1, lay2, lay3, lay4, lay5, lay6]
      refine wpAnyH_ready (rs := [6]) (by kernel_rfl) (by simp) (AllReadyH.cons rfl (fun K hK => ?_) AllReadyH.nil)
      obtain ⟨u4_11, eu, hU', kz, kb, kB⟩ := fill3 hU (.bool s5) (.slice A5 L5 C5) (.slice D5 M5 E5) (by simp [noU])
      have x0 : World.cell? _ ⟨X5, 0, none⟩ = some (.bool false) := hU.cell 0
      have x1 : World.cell? _ ⟨X5, 1, none⟩ = some (.slice none 0 0) := hU.cell 1
      have x2 : World.cell? _ ⟨X5, 2, none⟩ = some (.slice none 0 0) := hU.cell 2
      have xf := hU.frozen
      go_simp
      rw [← eu]
      replace q1 := q1.filled kz
      replace hA := kb _ _ _ hA (by omega)
      replace hR := kb _ _ _ hR (by omega)
      replace q3 := q3.filled kz
      replace hV := kb _ _ _ hV (by omega)
      replace q4 := q4.filled kz
      replace q5 := q5.filled kz
      replace hB := kB _ _ (by omega) hB
      replace hU := hU'
      clear hU' kz kb kB eu xf x0 x1 x2
      refine hK.out _ _ ?_ (fun hHeld => ?_)
      · exact ⟨hA.cell 0, hA.cell 1, hA.cell 2⟩
      clear hK K
      try simp only [Act.put, lay1, lay2, lay3, lay4, lay5, lay6]
      try dsimp only
      try simp only [Act.put, lay1, lay2, lay3, lay4, lay5, lay6]
      refine wpAnyH_done (by kernel_rfl) ?_ _
      refine NoPanic.normal ?_
      go_wp2_with fail
      go_meet
      exact ⟨X5, s5, A5, L5, C5, D5, M5, E5, rfl, hR, q3, hV, q5, hU, hB, lX5, (by assumption), (by assumption)⟩
  obtain ⟨X5, s5, A5, L5, C5, D5, M5, E5, rfl, hR, q3, hV, q5, hU, hB, lX5, dX5_hR, dX5_hV⟩ := hcut
  obtain ⟨c30, c31, c32, c33, c34, c35⟩ := hR.q6
  obtain ⟨c36, c37, c38⟩ := hV.q3
  obtain ⟨c39, c40, c41⟩ := hU.q3
  go_upto_region 5 with fail
  replace hB := hB.drew
  replace hR := hR.drew
  replace q3 := q3.below (bdrew _)
  replace hV := hV.drew
  replace q5 := q5.below (bdrew _)
  replace hU := hU.drew
  clear c30 c31 c32 c33 c34 c35 c36 c37 c38 c39 c40 c41
  refine wp_region_noPanic ?_
  refine wp_region_held_drew (S := fun w' => w'.cell? ⟨X4, 0, none⟩ = some (.bool s3) ∧ w'.cell? ⟨X4, 1, none⟩ = some (.slice A3 L3 C3) ∧ w'.cell? ⟨X4, 2, none⟩ = some (.slice D3 M3 E3) ∧ w'.cell? ⟨X5, 0, none⟩ = some (.bool s5) ∧ w'.cell? ⟨X5, 1, none⟩ = some (.slice A5 L5 C5) ∧ w'.cell? ⟨X5, 2, none⟩ = some (.slice D5 M5 E5)) (by kernel_rfl) ?_ (fun hHeld => ?_)
  · exact ⟨hV.cell 0, hV.cell 1, hV.cell 2, hU.cell 0, hU.cell 1, hU.cell 2⟩
  obtain ⟨wd5_2, hwd⟩ : ∃ q, q = wc.drew := ⟨_, rfl⟩
  rw [← hwd] at hB hR q3 hV q5 hU hHeld ⊢
  clear hwd
  refine tkH 0 rfl (v := ?v4) ?h4 ?r4
  case h4 => intro w hSw; (try dsimp only at hSw); go_simp; try (with_reducible rfl)
  refine tkH 1 rfl (v := ?v5) ?h5 ?r5
  case h5 => intro w hSw; (try dsimp only at hSw); go_simp; try (with_reducible rfl)
  refine tkH 3 rfl (v := ?v6) ?h6 ?r6
  case h6 => intro w hSw; (try dsimp only at hSw); go_simp; try (with_reducible rfl)
  refine tkH 4 rfl (v := ?v7) ?h7 ?r7
  case h7 => intro w hSw; (try dsimp only at hSw); go_simp; try (with_reducible rfl)
  try simp only [Act.put, lay1, lay2, lay3, lay4, lay5, lay6]
  refine wpAnyH_ready (rs := [2]) (by kernel_rfl) (by simp) (AllReadyH.cons rfl (fun K hK => ?_) AllReadyH.nil)
  go_simp
  refine (hSu _ _ _ q3 q5).mono ?_
  rintro e u5_1 ⟨v6, rfl, q6, b5_1⟩
  replace hR := hR.below b5_1 hR.lt
  replace q3 := q3.below b5_1
  replace hV := hV.below b5_1 hV.lt
  replace q5 := q5.below b5_1
  replace hU := hU.below b5_1 hU.lt
  replace hB := hB.trans (b5_1.mono hB.size)
  obtain ⟨s6, A6, L6, C6, D6, M6, E6, rfl, q6⟩ := q6.opn
  go_wp2_with fail
  refine hK.out _ _ ?_ (fun hHeld => ?_)
  · exact ⟨hV.cell 0, hV.cell 1, hV.cell 2, hU.cell 0, hU.cell 1, hU.cell 2⟩
  clear hK K
  try simp only [Act.put, lay1, lay2, lay3, lay4, lay5, lay6]
  refine wpAnyH_ready (rs := [5]) (by kernel_rfl) (by simp) (AllReadyH.cons rfl (fun K hK => ?_) AllReadyH.nil)
  go_simp
  refine (hAd _ _ _ q3 q5).mono ?_
  rintro e u5_2 ⟨v7, rfl, q7, b5_2⟩
  replace hR := hR.below b5_2 hR.lt
  replace q3 := q3.below b5_2
  replace hV := hV.below b5_2 hV.lt
  replace q5 := q5.below b5_2
  replace hU := hU.below b5_2 hU.lt
  replace q6 := q6.below b5_2
  replace hB := hB.trans (b5_2.mono hB.size)
  obtain ⟨s7, A7, L7, C7, D7, M7, E7, rfl, q7⟩ := q7.opn
  go_wp2_with fail
  refine hK.out _ _ ?_ (fun hHeld => ?_)
  · exact ⟨hV.cell 0, hV.cell 1, hV.cell 2, hU.cell 0, hU.cell 1, hU.cell 2⟩
  clear hK K
  refine tkH 6 rfl (v := ?v8) ?h8 ?r8
  case h8 => intro w hSw; (try dsimp only at hSw); go_simp; try (with_reducible rfl)
  try simp only [Act.put, lay1, lay2, lay3, lay4, lay5, lay6]
  refine wpAnyH_ready (rs := [7]) (by kernel_rfl) (by simp) (AllReadyH.cons rfl (fun K hK => ?_) AllReadyH.nil)
  obtain ⟨u5_3, eu, hR', kz, kb, kB⟩ := fill6 hR (.bool s6) (.slice A6 L6 C6) (.slice D6 M6 E6) (.bool s7) (.slice A7 L7 C7) (.slice D7 M7 E7) (by simp [noU])
  have x0 : World.cell? _ ⟨g + 1, 0, none⟩ = some (.bool false) := hR.cell 0
  have x1 : World.cell? _ ⟨g + 1, 1, none⟩ = some (.slice none 0 0) := hR.cell 1
  have x2 : World.cell? _ ⟨g + 1, 2, none⟩ = some (.slice none 0 0) := hR.cell 2
  have x3 : World.cell? _ ⟨g + 1, 3, none⟩ = some (.bool false) := hR.cell 3
  have x4 : World.cell? _ ⟨g + 1, 4, none⟩ = some (.slice none 0 0) := hR.cell 4
  have x5 : World.cell? _ ⟨g + 1, 5, none⟩ = some (.slice none 0 0) := hR.cell 5
  have xf := hR.frozen
  go_simp
  rw [← eu]
  replace q3 := q3.filled kz
  replace hV := kb _ _ _ hV (by omega)
  replace q5 := q5.filled kz
  replace hU := kb _ _ _ hU (by omega)
  replace q6 := q6.filled kz
  replace q7 := q7.filled kz
  replace hB := kB _ _ (by omega) hB
  replace hR := hR'
  clear hR' kz kb kB eu xf x0 x1 x2 x3 x4 x5
  refine hK.out _ _ ?_ (fun hHeld => ?_)
  · exact ⟨hV.cell 0, hV.cell 1, hV.cell 2, hU.cell 0, hU.cell 1, hU.cell 2⟩
  clear hK K
  refine tkH 8 rfl (v := ?v9) ?h9 ?r9
  case h9 => intro w hSw; (try dsimp only at hSw); go_simp; try (with_reducible rfl)
  try simp only [Act.put, lay1, lay2, lay3, lay4, lay5, lay6]
  try dsimp only
  try simp only [Act.put, lay1, lay2, lay3, lay4, lay5, lay6]
  refine wpAnyH_done (by kernel_rfl) ?_ _
  refine NoPanic.normal ?_
  skip
  obtain ⟨c42, c43, c44, c45, c46, c47⟩ := hR.q6
  obtain ⟨c48, c49, c50⟩ := hV.q3
  obtain ⟨c51, c52, c53⟩ := hU.q3
  go_wp2_with fail
  exact bodyPost_ret (v := .tuple #[.agg #[.bool s6, .slice A6 L6 C6, .slice D6 M6 E6, .bool s7, .slice A7 L7 C7, .slice D7 M7 E7], .int .i64 0]) (by simp [results, Tryz.results19, go_sem, c42, c43, c44, c45, c46, c47]) rfl ⟨_, rfl, ⟨_, _, _, _, _, _, rfl, q6, q7⟩, hB⟩
end Go.Proofs.YtdnjdglekifhpaaGreat
namespace Go.Proofs.YtdnjdglekifhpaaGreat
open Go.RowKit
attribute [local go_sem ↓] Go.wp_at_zero Go.wp_at_succ
theorem same_sided (a b : Int) : decide (a = b) = (decide (a < 0) == decide (b < 0) && decide (a.natAbs = b.natAbs)) := by
  rw [Bool.eq_iff_iff]
  simp only [decide_eq_true_eq, Bool.and_eq_true, beq_iff_eq, decide_eq_decide]
  omega
set_option maxHeartbeats 2000000 in
theorem rzsame_any (va vb : Value) (a b : Int) (w : World) (ha : IsZ w va a) (hb : IsZ w vb b) :
    Calls Tryz.prog 68 #[va, vb] w fun e w' => e = .returned (.bool (decide (a = b))) ∧ Below w.heap.size w w' := by
  rw [same_sided]
  obtain ⟨na, rfl, ha⟩ := ha
  obtain ⟨nb, rfl, hb⟩ := hb
  have hC := fun w ha hb => rsame_any na nb a.natAbs b.natAbs w ha hb
  generalize decide (a.natAbs = b.natAbs) = d at *
  generalize decide (a < 0) = s1 at *
  generalize decide (b < 0) = s2 at *
  rcases s1 with _ | _
  · rcases s2 with _ | _
    · obtain ⟨W0, hW, hT, hB⟩ := box2 w 30 30 #[.bool false, na] #[.bool false, nb]
      obtain ⟨g, hg⟩ : ∃ g, g = w.heap.size := ⟨_, rfl⟩
      have hW' := Lib.hid (And.intro hW hg)
      rw [← hg] at hT
      have hgw : w.heap.size ≤ g := by omega
      clear hW hg
      obtain ⟨hX, hY⟩ := hT
      replace ha := ha.below hB
      replace hb := hb.below hB
      obtain ⟨c1_hX_0, c1_hX_1⟩ := hX.cells2
      obtain ⟨c1_hY_0, c1_hY_1⟩ := hY.cells2
      go_enter Tryz.func68, Tryz.ntmps68
      go_wp2_with fail
      rw [← hW'.out.1, ← hW'.out.2]
      refine (hC _ ha hb).mono ?_
      rintro e w1 ⟨rfl, n1, hn1⟩
      have b1 : Below W0.heap.size W0 w1 := by rw [hn1]; exact below_drewN (Below.refl _ _) n1
      clear hn1
      replace ha := ha.below b1
      replace hb := hb.below b1
      replace hX := hX.below b1 hX.lt
      replace hY := hY.below b1 hY.lt
      replace hB := hB.trans (b1.mono hB.size)
      clear c1_hX_0 c1_hX_1 c1_hY_0 c1_hY_1
      obtain ⟨c2_hX_0, c2_hX_1⟩ := hX.cells2
      obtain ⟨c2_hY_0, c2_hY_1⟩ := hY.cells2
      go_wp2
      go_ret
      exact ⟨rfl, hB⟩
    · obtain ⟨W0, hW, hT, hB⟩ := box2 w 30 30 #[.bool false, na] #[.bool true, nb]
      obtain ⟨g, hg⟩ : ∃ g, g = w.heap.size := ⟨_, rfl⟩
      have hW' := Lib.hid (And.intro hW hg)
      rw [← hg] at hT
      have hgw : w.heap.size ≤ g := by omega
      clear hW hg
      obtain ⟨hX, hY⟩ := hT
      replace ha := ha.below hB
      replace hb := hb.below hB
      obtain ⟨c1_hX_0, c1_hX_1⟩ := hX.cells2
      obtain ⟨c1_hY_0, c1_hY_1⟩ := hY.cells2
      go_enter Tryz.func68, Tryz.ntmps68
      go_wp2
      go_ret
      exact ⟨rfl, by have := hB; rw [hW'.out.1] at this; exact this⟩
  · rcases s2 with _ | _
    · obtain ⟨W0, hW, hT, hB⟩ := box2 w 30 30 #[.bool true, na] #[.bool false, nb]
      obtain ⟨g, hg⟩ : ∃ g, g = w.heap.size := ⟨_, rfl⟩
      have hW' := Lib.hid (And.intro hW hg)
      rw [← hg] at hT
      have hgw : w.heap.size ≤ g := by omega
      clear hW hg
      obtain ⟨hX, hY⟩ := hT
      replace ha := ha.below hB
      replace hb := hb.below hB
      obtain ⟨c1_hX_0, c1_hX_1⟩ := hX.cells2
      obtain ⟨c1_hY_0, c1_hY_1⟩ := hY.cells2
      go_enter Tryz.func68, Tryz.ntmps68
      go_wp2
      go_ret
      exact ⟨rfl, by have := hB; rw [hW'.out.1] at this; exact this⟩
    · obtain ⟨W0, hW, hT, hB⟩ := box2 w 30 30 #[.bool true, na] #[.bool true, nb]
      obtain ⟨g, hg⟩ : ∃ g, g = w.heap.size := ⟨_, rfl⟩
      have hW' := Lib.hid (And.intro hW hg)
      rw [← hg] at hT
      have hgw : w.heap.size ≤ g := by omega
      clear hW hg
      obtain ⟨hX, hY⟩ := hT
      replace ha := ha.below hB
      replace hb := hb.below hB
      obtain ⟨c1_hX_0, c1_hX_1⟩ := hX.cells2
      obtain ⟨c1_hY_0, c1_hY_1⟩ := hY.cells2
      go_enter Tryz.func68, Tryz.ntmps68
      go_wp2_with fail
      rw [← hW'.out.1, ← hW'.out.2]
      refine (hC _ ha hb).mono ?_
      rintro e w1 ⟨rfl, n1, hn1⟩
      have b1 : Below W0.heap.size W0 w1 := by rw [hn1]; exact below_drewN (Below.refl _ _) n1
      clear hn1
      replace ha := ha.below b1
      replace hb := hb.below b1
      replace hX := hX.below b1 hX.lt
      replace hY := hY.below b1 hY.lt
      replace hB := hB.trans (b1.mono hB.size)
      clear c1_hX_0 c1_hX_1 c1_hY_0 c1_hY_1
      obtain ⟨c2_hX_0, c2_hX_1⟩ := hX.cells2
      obtain ⟨c2_hY_0, c2_hY_1⟩ := hY.cells2
      go_wp2
      go_ret
      exact ⟨rfl, hB⟩
end Go.Proofs.YtdnjdglekifhpaaGreat
namespace Go.Proofs.YtdnjdglekifhpaaGreat
open Go.RowKit
attribute [local go_sem ↓] Go.wp_at_zero Go.wp_at_succ
def sameR (z1 z2 : Int) (d1 d2 : Nat) : Bool := decide (z1 = z2) && decide (d1 = d2)
set_option maxRecDepth 100000 in
set_option maxHeartbeats 8000000 in
theorem rqsame_t (s t : Bool) (p q x y : Value) (z1 z2 : Int) (d1 d2 : Nat) (w : World) (h1 : IsZ w (.agg #[.bool s, p]) z1) (h2 : IsZ w (.agg #[.bool t, x]) z2) (h3 : IsN w q d1) (h4 : IsN w y d2) (hz : z1 = z2) :
    Calls Tryz.prog 21 #[.agg #[.bool s, p, q], .agg #[.bool t, x, y]] w fun e w' => e = .returned (.bool (decide (d1 = d2))) ∧ Below w.heap.size w w' := by
  have hZ := fun w h1 h2 => rzsame_any (.agg #[.bool s, p]) (.agg #[.bool t, x]) z1 z2 w h1 h2
  have hN := fun w h3 h4 => rsame_any q y d1 d2 w h3 h4
  rw [decide_eq_true hz] at hZ
  obtain ⟨_, A1, L1, C1, e1, -⟩ := h1.opn
  obtain ⟨_, A2, L2, C2, e2, -⟩ := h2.opn
  obtain ⟨A3, L3, C3, rfl, -⟩ := h3.opn
  obtain ⟨A4, L4, C4, rfl, -⟩ := h4.opn
  obtain rfl : p = .slice A1 L1 C1 := by cases e1; rfl
  obtain rfl : x = .slice A2 L2 C2 := by cases e2; rfl
  clear e1 e2
  generalize decide (d1 = d2) = dd at *
  clear hz
  obtain ⟨g, hg⟩ : ∃ g, g = w.heap.size := ⟨_, rfl⟩
  obtain ⟨Y0, eY0, hA, bY0⟩ := box1 w 32 #[.bool s, .slice A1 L1 C1, .slice A3 L3 C3]
  have zY0 : Y0.heap.size = g + 1 := by rw [eY0, World.size_alloc, ← hg]
  rw [← hg] at hA
  replace h1 := h1.below bY0
  replace h2 := h2.below bY0
  replace h3 := h3.below bY0
  replace h4 := h4.below bY0
  have hB := bY0
  obtain ⟨Y1, eY1, hC, bY1⟩ := box1 Y0 32 #[.bool t, .slice A2 L2 C2, .slice A4 L4 C4]
  have zY1 : Y1.heap.size = g + 1 + 1 := by rw [eY1, World.size_alloc, zY0]
  rw [zY0] at hC
  replace hA := hA.below bY1 hA.lt
  replace h1 := h1.below bY1
  replace h2 := h2.below bY1
  replace h3 := h3.below bY1
  replace h4 := h4.below bY1
  replace hB := hB.trans (bY1.mono hB.size)
  have hgw : w.heap.size ≤ g := by omega
  have EY := Lib.hid (And.intro hg (And.intro eY0 eY1))
  clear hg eY0 zY0 eY1 zY1
  obtain ⟨c0, c1, c2⟩ := hA.q3
  obtain ⟨c3, c4, c5⟩ := hC.q3
  go_enter Tryz.func21, Tryz.ntmps21
  go_wp2_with fail
  rw [← EY.out.2.1, ← EY.out.2.2, ← EY.out.1]
  refine (hZ _ h1 h2).mono ?_
  rintro e w2 ⟨rfl, b2⟩
  replace h1 := h1.below b2
  replace h2 := h2.below b2
  replace h3 := h3.below b2
  replace h4 := h4.below b2
  replace hA := hA.below b2 hA.lt
  replace hC := hC.below b2 hC.lt
  replace hB := hB.trans (b2.mono hB.size)
  clear c0 c1 c2 c3 c4 c5
  obtain ⟨c6, c7, c8⟩ := hA.q3
  obtain ⟨c9, c10, c11⟩ := hC.q3
  go_wp2_with fail
  refine (hN _ h3 h4).mono ?_
  rintro e w4 ⟨rfl, n4, hn4⟩
  have b4 : Below w2.heap.size w2 w4 := by rw [hn4]; exact below_drewN (Below.refl _ _) n4
  clear hn4
  replace h1 := h1.below b4
  replace h2 := h2.below b4
  replace h3 := h3.below b4
  replace h4 := h4.below b4
  replace hA := hA.below b4 hA.lt
  replace hC := hC.below b4 hC.lt
  replace hB := hB.trans (b4.mono hB.size)
  clear c6 c7 c8 c9 c10 c11
  obtain ⟨c12, c13, c14⟩ := hA.q3
  obtain ⟨c15, c16, c17⟩ := hC.q3
  go_wp2
  go_ret
  exact ⟨rfl, hB⟩
set_option maxRecDepth 100000 in
set_option maxHeartbeats 8000000 in
theorem rqsame_f (s t : Bool) (p q x y : Value) (z1 z2 : Int) (d1 d2 : Nat) (w : World) (h1 : IsZ w (.agg #[.bool s, p]) z1) (h2 : IsZ w (.agg #[.bool t, x]) z2) (h3 : IsN w q d1) (h4 : IsN w y d2) (hz : ¬ z1 = z2) :
    Calls Tryz.prog 21 #[.agg #[.bool s, p, q], .agg #[.bool t, x, y]] w fun e w' => e = .returned (.bool false) ∧ Below w.heap.size w w' := by
  have hZ := fun w h1 h2 => rzsame_any (.agg #[.bool s, p]) (.agg #[.bool t, x]) z1 z2 w h1 h2
  have hN := fun w h3 h4 => rsame_any q y d1 d2 w h3 h4
  rw [decide_eq_false hz] at hZ
  obtain ⟨_, A1, L1, C1, e1, -⟩ := h1.opn
  obtain ⟨_, A2, L2, C2, e2, -⟩ := h2.opn
  obtain ⟨A3, L3, C3, rfl, -⟩ := h3.opn
  obtain ⟨A4, L4, C4, rfl, -⟩ := h4.opn
  obtain rfl : p = .slice A1 L1 C1 := by cases e1; rfl
  obtain rfl : x = .slice A2 L2 C2 := by cases e2; rfl
  clear e1 e2
  generalize decide (d1 = d2) = dd at *
  clear hz
  obtain ⟨g, hg⟩ : ∃ g, g = w.heap.size := ⟨_, rfl⟩
  obtain ⟨Y0, eY0, hA, bY0⟩ := box1 w 32 #[.bool s, .slice A1 L1 C1, .slice A3 L3 C3]
  have zY0 : Y0.heap.size = g + 1 := by rw [eY0, World.size_alloc, ← hg]
  rw [← hg] at hA
  replace h1 := h1.below bY0
  replace h2 := h2.below bY0
  replace h3 := h3.below bY0
  replace h4 := h4.below bY0
  have hB := bY0
  obtain ⟨Y1, eY1, hC, bY1⟩ := box1 Y0 32 #[.bool t, .slice A2 L2 C2, .slice A4 L4 C4]
  have zY1 : Y1.heap.size = g + 1 + 1 := by rw [eY1, World.size_alloc, zY0]
  rw [zY0] at hC
  replace hA := hA.below bY1 hA.lt
  replace h1 := h1.below bY1
  replace h2 := h2.below bY1
  replace h3 := h3.below bY1
  replace h4 := h4.below bY1
  replace hB := hB.trans (bY1.mono hB.size)
  have hgw : w.heap.size ≤ g := by omega
  have EY := Lib.hid (And.intro hg (And.intro eY0 eY1))
  clear hg eY0 zY0 eY1 zY1
  obtain ⟨c0, c1, c2⟩ := hA.q3
  obtain ⟨c3, c4, c5⟩ := hC.q3
  go_enter Tryz.func21, Tryz.ntmps21
  go_wp2_with fail
  rw [← EY.out.2.1, ← EY.out.2.2, ← EY.out.1]
  refine (hZ _ h1 h2).mono ?_
  rintro e w2 ⟨rfl, b2⟩
  replace h1 := h1.below b2
  replace h2 := h2.below b2
  replace h3 := h3.below b2
  replace h4 := h4.below b2
  replace hA := hA.below b2 hA.lt
  replace hC := hC.below b2 hC.lt
  replace hB := hB.trans (b2.mono hB.size)
  clear c0 c1 c2 c3 c4 c5
  obtain ⟨c6, c7, c8⟩ := hA.q3
  obtain ⟨c9, c10, c11⟩ := hC.q3
  go_wp2
  go_ret
  exact ⟨rfl, hB⟩
theorem rqsame_raw (s t : Bool) (p q x y : Value) (z1 z2 : Int) (d1 d2 : Nat) (w : World) (h1 : IsZ w (.agg #[.bool s, p]) z1) (h2 : IsZ w (.agg #[.bool t, x]) z2) (h3 : IsN w q d1) (h4 : IsN w y d2) :
    Calls Tryz.prog 21 #[.agg #[.bool s, p, q], .agg #[.bool t, x, y]] w fun e w' => e = .returned (.bool (sameR z1 z2 d1 d2)) ∧ Below w.heap.size w w' := by
  unfold sameR
  by_cases h : z1 = z2
  · rw [decide_eq_true h, Bool.true_and]; exact rqsame_t s t p q x y z1 z2 d1 d2 w h1 h2 h3 h4 h
  · rw [decide_eq_false h, Bool.false_and]; exact rqsame_f s t p q x y z1 z2 d1 d2 w h1 h2 h3 h4 h
theorem sameR_eq (a b : Rat) : sameR a.num b.num a.den b.den = decide (a = b) := by
  unfold sameR
  rw [Bool.eq_iff_iff]
  simp only [Bool.and_eq_true, decide_eq_true_eq]
  exact ⟨fun h => Rat.ext h.1 h.2, fun h => by rw [h]; exact ⟨rfl, rfl⟩⟩
theorem rqsame_any (va vb : Value) (a b : Rat) (w : World) (ha : IsQ w va a) (hb : IsQ w vb b) :
    Calls Tryz.prog 21 #[va, vb] w fun e w' => e = .returned (.bool (decide (a = b))) ∧ Below w.heap.size w w' := by
  obtain ⟨s, A, L, C, D, M, E, rfl, q1⟩ := ha.opn
  obtain ⟨t, A', L', C', D', M', E', rfl, q2⟩ := hb.opn
  rw [← sameR_eq]
  exact rqsame_raw _ _ _ _ _ _ _ _ _ _ w q1.parts.2.1 q2.parts.2.1 q1.parts.2.2 q2.parts.2.2
set_option maxRecDepth 100000 in
set_option maxHeartbeats 8000000 in
theorem rssame_t (s1 t1 s2 t2 : Bool) (B1 B2 B3 B4 B5 B6 B7 B8 : Option Addr) (M1 M2 M3 M4 M5 M6 M7 M8 E1 E2 E3 E4 E5 E6 E7 E8 : Nat) (b1 b2 : Bool) (w : World) (hz : b1 = true)
    (h1 : ∀ W, Below w.heap.size w W → Calls Tryz.prog 21 #[.agg #[.bool s1, .slice B1 M1 E1, .slice B2 M2 E2], .agg #[.bool s2, .slice B5 M5 E5, .slice B6 M6 E6]] W fun e w' => e = .returned (.bool b1) ∧ Below W.heap.size W w')
    (h2 : ∀ W, Below w.heap.size w W → Calls Tryz.prog 21 #[.agg #[.bool t1, .slice B3 M3 E3, .slice B4 M4 E4], .agg #[.bool t2, .slice B7 M7 E7, .slice B8 M8 E8]] W fun e w' => e = .returned (.bool b2) ∧ Below W.heap.size W w') :
    Calls Tryz.prog 22 #[.agg #[.bool s1, .slice B1 M1 E1, .slice B2 M2 E2, .bool t1, .slice B3 M3 E3, .slice B4 M4 E4], .agg #[.bool s2, .slice B5 M5 E5, .slice B6 M6 E6, .bool t2, .slice B7 M7 E7, .slice B8 M8 E8]] w fun e w' => e = .returned (.bool (b1 && b2)) ∧ Below w.heap.size w w' := by
  subst hz
  rw [Bool.true_and]
  obtain ⟨g, hg⟩ : ∃ g, g = w.heap.size := ⟨_, rfl⟩
  obtain ⟨Y0, eY0, hA, bY0⟩ := box1 w 46 #[.bool s1, .slice B1 M1 E1, .slice B2 M2 E2, .bool t1, .slice B3 M3 E3, .slice B4 M4 E4]
  have zY0 : Y0.heap.size = g + 1 := by rw [eY0, World.size_alloc, ← hg]
  rw [← hg] at hA
  have hB := bY0
  obtain ⟨Y1, eY1, hC, bY1⟩ := box1 Y0 46 #[.bool s2, .slice B5 M5 E5, .slice B6 M6 E6, .bool t2, .slice B7 M7 E7, .slice B8 M8 E8]
  have zY1 : Y1.heap.size = g + 1 + 1 := by rw [eY1, World.size_alloc, zY0]
  rw [zY0] at hC
  replace hA := hA.below bY1 hA.lt
  replace hB := hB.trans (bY1.mono hB.size)
  have hgw : w.heap.size ≤ g := by omega
  have EY := Lib.hid (And.intro hg (And.intro eY0 eY1))
  clear hg eY0 zY0 eY1 zY1
  obtain ⟨c0, c1, c2, c3, c4, c5⟩ := hA.q6
  obtain ⟨c6, c7, c8, c9, c10, c11⟩ := hC.q6
  go_enter Tryz.func22, Tryz.ntmps22
  go_wp2_with fail
  rw [← EY.out.2.1, ← EY.out.2.2, ← EY.out.1]
  refine (h1 _ hB).mono ?_
  rintro e w2 ⟨rfl, b2⟩
  replace hA := hA.below b2 hA.lt
  replace hC := hC.below b2 hC.lt
  replace hB := hB.trans (b2.mono hB.size)
  clear c0 c1 c2 c3 c4 c5 c6 c7 c8 c9 c10 c11
  obtain ⟨c12, c13, c14, c15, c16, c17⟩ := hA.q6
  obtain ⟨c18, c19, c20, c21, c22, c23⟩ := hC.q6
  go_wp2_with fail
  refine (h2 _ hB).mono ?_
  rintro e w4 ⟨rfl, b4⟩
  replace hA := hA.below b4 hA.lt
  replace hC := hC.below b4 hC.lt
  replace hB := hB.trans (b4.mono hB.size)
  clear c12 c13 c14 c15 c16 c17 c18 c19 c20 c21 c22 c23
  obtain ⟨c24, c25, c26, c27, c28, c29⟩ := hA.q6
  obtain ⟨c30, c31, c32, c33, c34, c35⟩ := hC.q6
  go_wp2
  go_ret
  exact ⟨rfl, hB⟩
set_option maxRecDepth 100000 in
set_option maxHeartbeats 8000000 in
theorem rssame_f (s1 t1 s2 t2 : Bool) (B1 B2 B3 B4 B5 B6 B7 B8 : Option Addr) (M1 M2 M3 M4 M5 M6 M7 M8 E1 E2 E3 E4 E5 E6 E7 E8 : Nat) (b1 b2 : Bool) (w : World) (hz : b1 = false)
    (h1 : ∀ W, Below w.heap.size w W → Calls Tryz.prog 21 #[.agg #[.bool s1, .slice B1 M1 E1, .slice B2 M2 E2], .agg #[.bool s2, .slice B5 M5 E5, .slice B6 M6 E6]] W fun e w' => e = .returned (.bool b1) ∧ Below W.heap.size W w')
    (_h2 : ∀ W, Below w.heap.size w W → Calls Tryz.prog 21 #[.agg #[.bool t1, .slice B3 M3 E3, .slice B4 M4 E4], .agg #[.bool t2, .slice B7 M7 E7, .slice B8 M8 E8]] W fun e w' => e = .returned (.bool b2) ∧ Below W.heap.size W w') :
    Calls Tryz.prog 22 #[.agg #[.bool s1, .slice B1 M1 E1, .slice B2 M2 E2, .bool t1, .slice B3 M3 E3, .slice B4 M4 E4], .agg #[.bool s2, .slice B5 M5 E5, .slice B6 M6 E6, .bool t2, .slice B7 M7 E7, .slice B8 M8 E8]] w fun e w' => e = .returned (.bool (b1 && b2)) ∧ Below w.heap.size w w' := by
  subst hz
  rw [Bool.false_and]
  obtain ⟨g, hg⟩ : ∃ g, g = w.heap.size := ⟨_, rfl⟩
  obtain ⟨Y0, eY0, hA, bY0⟩ := box1 w 46 #[.bool s1, .slice B1 M1 E1, .slice B2 M2 E2, .bool t1, .slice B3 M3 E3, .slice B4 M4 E4]
  have zY0 : Y0.heap.size = g + 1 := by rw [eY0, World.size_alloc, ← hg]
  rw [← hg] at hA
  have hB := bY0
  obtain ⟨Y1, eY1, hC, bY1⟩ := box1 Y0 46 #[.bool s2, .slice B5 M5 E5, .slice B6 M6 E6, .bool t2, .slice B7 M7 E7, .slice B8 M8 E8]
  have zY1 : Y1.heap.size = g + 1 + 1 := by rw [eY1, World.size_alloc, zY0]
  rw [zY0] at hC
  replace hA := hA.below bY1 hA.lt
  replace hB := hB.trans (bY1.mono hB.size)
  have hgw : w.heap.size ≤ g := by omega
  have EY := Lib.hid (And.intro hg (And.intro eY0 eY1))
  clear hg eY0 zY0 eY1 zY1
  obtain ⟨c0, c1, c2, c3, c4, c5⟩ := hA.q6
  obtain ⟨c6, c7, c8, c9, c10, c11⟩ := hC.q6
  go_enter Tryz.func22, Tryz.ntmps22
  go_wp2_with fail
  rw [← EY.out.2.1, ← EY.out.2.2, ← EY.out.1]
  refine (h1 _ hB).mono ?_
  rintro e w2 ⟨rfl, b2⟩
  replace hA := hA.below b2 hA.lt
  replace hC := hC.below b2 hC.lt
  replace hB := hB.trans (b2.mono hB.size)
  clear c0 c1 c2 c3 c4 c5 c6 c7 c8 c9 c10 c11
  obtain ⟨c12, c13, c14, c15, c16, c17⟩ := hA.q6
  obtain ⟨c18, c19, c20, c21, c22, c23⟩ := hC.q6
  go_wp2
  go_ret
  exact ⟨rfl, hB⟩
theorem rssame_any (va vb : Value) (a b c d : Rat) (w : World) (ha : IsS w va a b) (hb : IsS w vb c d) :
    Calls Tryz.prog 22 #[va, vb] w fun e w' => e = .returned (.bool (decide (a = c) && decide (b = d))) ∧ Below w.heap.size w w' := by
  obtain ⟨s, A, L, C, D, M, E, t, A', L', C', D', M', E', rfl, q1, q2⟩ := ha.opn
  obtain ⟨s', B, N, G, H, O, I, t', B', N', G', H', O', I', rfl, q3, q4⟩ := hb.opn
  have h1 := fun W (h : Below w.heap.size w W) => rqsame_any _ _ a c W (q1.below h) (q3.below h)
  have h2 := fun W (h : Below w.heap.size w W) => rqsame_any _ _ b d W (q2.below h) (q4.below h)
  by_cases e : a = c
  · rw [decide_eq_true e] at h1 ⊢; exact rssame_t _ _ _ _ _ _ _ _ _ _ _ _ _ _ _ _ _ _ _ _ _ _ _ _ _ _ _ _ _ _ w rfl h1 h2
  · rw [decide_eq_false e] at h1 ⊢; exact rssame_f _ _ _ _ _ _ _ _ _ _ _ _ _ _ _ _ _ _ _ _ _ _ _ _ _ _ _ _ _ _ w rfl h1 h2
end Go.Proofs.YtdnjdglekifhpaaGreat
namespace Go.Proofs.YtdnjdglekifhpaaGreat
open Go.RowKit
attribute [local go_sem ↓] Go.wp_at_zero Go.wp_at_succ
set_option maxRecDepth 100000 in
set_option maxHeartbeats 8000000 in
theorem rfrac5_any (p q : Int) (w : World) (hp : In64 p) (hq : In64 q) (h0 : 0 < q) :
    Calls Tryz.prog 27 #[.int .i64 p, .int .i64 q] w fun e w' => ∃ v', e = .returned v' ∧ IsQ w' v' (mkRat p q.natAbs) ∧ Below w.heap.size w w' := by
  have hO1 := fun w => rzof_any p hp.1 hp.2 w
  have hO2 := fun w => rzof_any q hq.1 hq.2 w
  have sp : Sz p.natAbs 1 := Sz.u64 (by have := hp.1; have := hp.2; unfold W64; omega)
  have sq : Sz q.natAbs 1 := Sz.u64 (by have := hq.1; have := hq.2; unfold W64; omega)
  have hM := fun u v w hu hv => rqmake_any u v p q.natAbs w hu hv (sp.more (by omega)) (sq.more (by omega)) (by omega)
  generalize mkRat p q.natAbs = r at *
  clear sp sq hp hq h0
  obtain ⟨g, hg⟩ : ∃ g, g = w.heap.size := ⟨_, rfl⟩
  obtain ⟨Y0, eY0, hR, bY0⟩ := box1 w 32 #[.bool false, .slice none 0 0, .slice none 0 0]
  have zY0 : Y0.heap.size = g + 1 := by rw [eY0, World.size_alloc, ← hg]
  rw [← hg] at hR
  have hB := bY0
  have hgw : w.heap.size ≤ g := by omega
  have EY := Lib.hid (And.intro hg eY0)
  clear hg eY0 zY0
  obtain ⟨c0, c1, c2⟩ := hR.q3
  go_enter Tryz.func27, Tryz.ntmps27
  go_wp2_with fail
  rw [← EY.out.2, ← EY.out.1]
  refine (hO1 _).mono ?_
  rintro e w2 ⟨v1, rfl, z1, b2⟩
  replace hR := hR.below b2 hR.lt
  replace hB := hB.trans (b2.mono hB.size)
  clear c0 c1 c2
  obtain ⟨c3, c4, c5⟩ := hR.q3
  go_wp2_with fail
  refine (hO2 _).mono ?_
  rintro e w4 ⟨v2, rfl, z2, b4⟩
  replace hR := hR.below b4 hR.lt
  replace z1 := z1.below b4
  replace hB := hB.trans (b4.mono hB.size)
  clear c3 c4 c5
  obtain ⟨c6, c7, c8⟩ := hR.q3
  obtain ⟨s2, A2, L2, C2, rfl, z2⟩ := z2.opn
  have n2 := z2.parts.2
  have hfl := fun w => field_zed s2 (.slice A2 L2 C2) w
  go_wp2_with fail
  refine (hM _ _ _ z1 n2).mono ?_
  rintro e w6 ⟨v3, rfl, q3, b6⟩
  replace hR := hR.below b6 hR.lt
  replace z1 := z1.below b6
  replace n2 := n2.below b6
  replace z2 := z2.below b6
  replace hB := hB.trans (b6.mono hB.size)
  clear c6 c7 c8
  obtain ⟨c9, c10, c11⟩ := hR.q3
  obtain ⟨s3, A3, L3, C3, D3, M3, E3, rfl, q3⟩ := q3.opn
  obtain ⟨V8, eV, hV, bV8⟩ := box1 w6 32 #[.bool s3, .slice A3 L3 C3, .slice D3 M3 E3]
  obtain ⟨X8, eX⟩ : ∃ X, X = w6.heap.size := ⟨_, rfl⟩
  rw [← eX] at hV
  have lX8 : w.heap.size ≤ X8 := by rw [eX]; exact hB.size
  have dX8_hR : g ≠ X8 := by have := hR.lt; omega
  have EV8 := Lib.hid (And.intro eV eX)
  clear eV eX
  go_upto_region 2 with fail
  rw [← EV8.out.1, ← EV8.out.2]
  replace hR := hR.below bV8 hR.lt
  replace z1 := z1.below bV8
  replace n2 := n2.below bV8
  replace z2 := z2.below bV8
  replace q3 := q3.below bV8
  replace hB := hB.trans (bV8.mono hB.size)
  clear c9 c10 c11
  obtain ⟨c12, c13, c14⟩ := hR.q3
  obtain ⟨c15, c16, c17⟩ := hV.q3
  obtain ⟨p1, p2, p3⟩ := put3 hR (.bool s3) (.slice A3 L3 C3) (.slice D3 M3 E3) (by simp [noU]) hB (by omega)
  have rc0 : World.cell? _ ⟨g, 0, none⟩ = some (.bool false) := hR.cell 0
  have rf0 := hR.frozen 0
  have rc1 : World.cell? _ ⟨g, 1, none⟩ = some (.slice none 0 0) := hR.cell 1
  have rf1 := hR.frozen 1
  have rc2 : World.cell? _ ⟨g, 2, none⟩ = some (.slice none 0 0) := hR.cell 2
  have rf2 := hR.frozen 2
  have P := Lib.hid (And.intro (q3.kept p2) (And.intro p3 p1.cells3))
  clear p1 p2 p3
  go_wp2_with fail
  obtain ⟨P1, P2, P3, P4, P5⟩ := P.out
  exact bodyPost_ret (v := .agg #[.bool s3, .slice A3 L3 C3, .slice D3 M3 E3]) (by simp [results, Tryz.results27, go_sem, P3, P4, P5]) rfl ⟨_, rfl, P1, P2⟩
end Go.Proofs.YtdnjdglekifhpaaGreat
namespace Go.Proofs.YtdnjdglekifhpaaGreat
open Go.RowKit
theorem cellAU {w w' : World} {a : Addr} {v : Value} (h : Below w.heap.size w w') (hc : w.cell? a = some v) : w'.cell? a = some v := (h.cell (World.block_lt_of_cell? w _ hc)).trans hc
end Go.Proofs.YtdnjdglekifhpaaGreat
namespace Go.Proofs.YtdnjdglekifhpaaGreat
open Go.RowKit
attribute [local go_sem ↓] Go.wp_at_zero Go.wp_at_succ
theorem alive20_vals : nextQ 1 1 3 1 = mkRat 5 2 ∧ mkRat 2 (2 ^ 1) - 1 * mkRat 1 (2 ^ 1) = mkRat 1 2 ∧ mkRat 2 (2 ^ 1) + 1 * mkRat 1 (2 ^ 1) = mkRat 3 2 ∧ quantS [(3, 255, [255], [])] = [1] := by decide +kernel
set_option maxRecDepth 100000 in
set_option maxHeartbeats 8000000 in
theorem alive20_any (w : World) : Calls Tryz.prog 12 #[] w fun e w' => e = .returned (.bool true) ∧ Below w.heap.size w w' := by
  obtain ⟨e1, e2, e3, e4⟩ := alive20_vals
  have b1 : BQ (1 : Rat) 1 := BQ.int (n := 1) (by unfold W64; omega)
  have b3 : BQ (3 : Rat) 1 := BQ.int (n := 3) (by unfold W64; omega)
  have hO3 := fun w => rqof_any 3 (by omega) (by omega) w
  have hO1 := fun w => rqof_any 1 (by omega) (by omega) w
  rw [show (((3 : Int) : Rat)) = 3 from rfl] at hO3
  rw [show (((1 : Int) : Rat)) = 1 from rfl] at hO1
  have hNx := fun u v w h1 h2 => pnext_any 1 1 u v 3 1 w (by omega) ⟨by omega, by omega⟩ (by omega) (by decide) h1 h2 (b3.more (by omega)) (b1.more (by omega)) (by decide) (by decide)
  rw [e1] at hNx
  have hAr := fun u w h1 => paround_any 2 1 u 1 w (by omega) ⟨by omega, by omega⟩ h1 (b1.more (by omega)) (by decide)
  rw [e2, e3] at hAr
  have hF1 := fun w => rfrac5_any 1 2 w ⟨by omega, by omega⟩ ⟨by omega, by omega⟩ (by omega)
  have hF3 := fun w => rfrac5_any 3 2 w ⟨by omega, by omega⟩ ⟨by omega, by omega⟩ (by omega)
  have hF5 := fun w => rfrac5_any 5 2 w ⟨by omega, by omega⟩ ⟨by omega, by omega⟩ (by omega)
  rw [show (2 : Int).natAbs = 2 from rfl] at hF1 hF3 hF5
  have hQu := fun v w h => quant_any v (3, 1, 0, 0, 1, [(3, 255, [255], [])]) w h ⟨by simp, by simp [bkLen]⟩ (by decide) (by simp [LoadB])
  simp only at hQu
  rw [e4] at hQu
  have hS1 := fun u v w h1 h2 => rqsame_any u v (mkRat 5 2) (mkRat 5 2) w h1 h2
  have hS2 := fun u v w h1 h2 => rqsame_any u v 1 1 w h1 h2
  have hS3 := fun u v w h1 h2 => rssame_any u v (mkRat 1 2) (mkRat 3 2) (mkRat 1 2) (mkRat 3 2) w h1 h2
  rw [decide_eq_true rfl] at hS1 hS2
  rw [decide_eq_true rfl, decide_eq_true rfl, Bool.true_and] at hS3
  generalize mkRat 1 2 = r12 at *
  generalize mkRat 3 2 = r32 at *
  generalize mkRat 5 2 = r52 at *
  generalize (1 : Rat) = r1 at *
  generalize (3 : Rat) = r3 at *
  clear e1 e2 e3 e4 b1 b3
  have hB := Below.refl w.heap.size w
  go_enter Tryz.func12, Tryz.ntmps12
  go_wp2_with fail
  refine (hO3 _).mono ?_
  rintro e w1 ⟨v1, rfl, q1, b1⟩
  replace hB := hB.trans (b1.mono hB.size)
  obtain ⟨s1, A1, L1, C1, D1, M1, E1, rfl, q1⟩ := q1.opn
  go_wp2_with fail
  refine (hO1 _).mono ?_
  rintro e w3 ⟨v2, rfl, q2, b3⟩
  replace q1 := q1.below b3
  replace hB := hB.trans (b3.mono hB.size)
  obtain ⟨s2, A2, L2, C2, D2, M2, E2, rfl, q2⟩ := q2.opn
  go_wp2_with fail
  refine (hNx _ _ _ q1 q2).mono ?_
  rintro e w5 ⟨v3, rfl, q3, b5⟩
  replace q1 := q1.below b5
  replace q2 := q2.below b5
  replace hB := hB.trans (b5.mono hB.size)
  obtain ⟨s3, A3, L3, C3, D3, M3, E3, rfl, q3⟩ := q3.opn
  obtain ⟨V7, eV, h1, bV7⟩ := box1 w5 32 #[.bool s3, .slice A3 L3 C3, .slice D3 M3 E3]
  obtain ⟨X7, eX⟩ : ∃ X, X = w5.heap.size := ⟨_, rfl⟩
  rw [← eX] at h1
  have lX7 : w.heap.size ≤ X7 := by rw [eX]; exact hB.size
  have EV7 := Lib.hid (And.intro eV eX)
  clear eV eX
  go_upto_region 2 with fail
  rw [← EV7.out.1, ← EV7.out.2]
  replace q3 := q3.below bV7
  replace hB := hB.trans (bV7.mono hB.size)
  obtain ⟨c0, c1, c2⟩ := h1.q3
  go_wp2_with fail
  refine (hO1 _).mono ?_
  rintro e w9 ⟨v4, rfl, q4, b9⟩
  replace q3 := q3.below b9
  replace h1 := h1.below b9 h1.lt
  replace hB := hB.trans (b9.mono hB.size)
  clear c0 c1 c2
  obtain ⟨c3, c4, c5⟩ := h1.q3
  obtain ⟨s4, A4, L4, C4, D4, M4, E4, rfl, q4⟩ := q4.opn
  go_wp2_with fail
  refine (hAr _ _ q4).mono ?_
  rintro e w11 ⟨v5, rfl, z5, b11⟩
  replace q3 := q3.below b11
  replace h1 := h1.below b11 h1.lt
  replace q4 := q4.below b11
  replace hB := hB.trans (b11.mono hB.size)
  clear c3 c4 c5
  obtain ⟨c6, c7, c8⟩ := h1.q3
  obtain ⟨s5, A5, L5, C5, D5, M5, E5, s6, A6, L6, C6, D6, M6, E6, rfl, q5, q6⟩ := z5.opn
  obtain ⟨V13, eV, h3, bV13⟩ := box1 w11 46 #[.bool s5, .slice A5 L5 C5, .slice D5 M5 E5, .bool s6, .slice A6 L6 C6, .slice D6 M6 E6]
  obtain ⟨X13, eX⟩ : ∃ X, X = w11.heap.size := ⟨_, rfl⟩
  rw [← eX] at h3
  have lX13 : w.heap.size ≤ X13 := by rw [eX]; exact hB.size
  have dX13_h1 : X7 ≠ X13 := by have := h1.lt; omega
  have EV13 := Lib.hid (And.intro eV eX)
  clear eV eX
  go_upto_region 3 with fail
  rw [← EV13.out.1, ← EV13.out.2]
  replace q3 := q3.below bV13
  replace h1 := h1.below bV13 h1.lt
  replace q5 := q5.below bV13
  replace q6 := q6.below bV13
  replace hB := hB.trans (bV13.mono hB.size)
  clear c6 c7 c8
  obtain ⟨c9, c10, c11⟩ := h1.q3
  obtain ⟨c12, c13, c14, c15, c16, c17⟩ := h3.q6
  go_wp2_with fail
  refine (hF1 _).mono ?_
  rintro e w15 ⟨v7, rfl, q7, b15⟩
  replace q3 := q3.below b15
  replace h1 := h1.below b15 h1.lt
  replace q5 := q5.below b15
  replace q6 := q6.below b15
  replace h3 := h3.below b15 h3.lt
  replace hB := hB.trans (b15.mono hB.size)
  clear c9 c10 c11 c12 c13 c14 c15 c16 c17
  obtain ⟨c18, c19, c20⟩ := h1.q3
  obtain ⟨c21, c22, c23, c24, c25, c26⟩ := h3.q6
  obtain ⟨s7, A7, L7, C7, D7, M7, E7, rfl, q7⟩ := q7.opn
  go_wp2_with fail
  refine (hF3 _).mono ?_
  rintro e w17 ⟨v8, rfl, q8, b17⟩
  replace q3 := q3.below b17
  replace h1 := h1.below b17 h1.lt
  replace q5 := q5.below b17
  replace q6 := q6.below b17
  replace h3 := h3.below b17 h3.lt
  replace q7 := q7.below b17
  replace hB := hB.trans (b17.mono hB.size)
  clear c18 c19 c20 c21 c22 c23 c24 c25 c26
  obtain ⟨c27, c28, c29⟩ := h1.q3
  obtain ⟨c30, c31, c32, c33, c34, c35⟩ := h3.q6
  obtain ⟨s8, A8, L8, C8, D8, M8, E8, rfl, q8⟩ := q8.opn
  obtain ⟨V19, eV, h5, bV19⟩ := box1 w17 46 #[.bool s7, .slice A7 L7 C7, .slice D7 M7 E7, .bool s8, .slice A8 L8 C8, .slice D8 M8 E8]
  obtain ⟨X19, eX⟩ : ∃ X, X = w17.heap.size := ⟨_, rfl⟩
  rw [← eX] at h5
  have lX19 : w.heap.size ≤ X19 := by rw [eX]; exact hB.size
  have dX19_h1 : X7 ≠ X19 := by have := h1.lt; omega
  have dX19_h3 : X13 ≠ X19 := by have := h3.lt; omega
  have EV19 := Lib.hid (And.intro eV eX)
  clear eV eX
  go_upto_region 4 with fail
  rw [← EV19.out.1, ← EV19.out.2]
  replace q3 := q3.below bV19
  replace h1 := h1.below bV19 h1.lt
  replace q5 := q5.below bV19
  replace q6 := q6.below bV19
  replace h3 := h3.below bV19 h3.lt
  replace q7 := q7.below bV19
  replace q8 := q8.below bV19
  replace hB := hB.trans (bV19.mono hB.size)
  clear c27 c28 c29 c30 c31 c32 c33 c34 c35
  obtain ⟨c36, c37, c38⟩ := h1.q3
  obtain ⟨c39, c40, c41, c42, c43, c44⟩ := h3.q6
  obtain ⟨c45, c46, c47, c48, c49, c50⟩ := h5.q6
  obtain ⟨U1, eU1, hU1, bU1⟩ := box1 V19 5 #[.int .u8 255]
  obtain ⟨X1, eX1⟩ : ∃ X, X = V19.heap.size := ⟨_, rfl⟩
  rw [← eX1] at hU1
  have hy : IsY U1 (.slice (some ⟨X1, 0, none⟩) 1 1) [255] := by rw [eU1, eX1]; exact IsY.fresh V19 5 [255] (by intro x hx; simp at hx; omega) (by simp)
  obtain ⟨U2, eU2, hU2, bU2⟩ := box1 U1 103 #[.int .i64 3, .int .i64 255, .slice (some ⟨X1, 0, none⟩) 1 1, .slice none 0 0]
  obtain ⟨X2, eX2⟩ : ∃ X, X = U1.heap.size := ⟨_, rfl⟩
  have eX3 : V19.heap.size + 1 = X2 := by rw [eX2, eU1, World.size_alloc]
  have hbs : IsBs U2 (.slice (some ⟨X2, 0, none⟩) 1 1) [(3, 255, [255], [])] := by
    have := World.ownsRow_lit U1 #[.int .i64 3, .int .i64 255, .slice (some ⟨X1, 0, none⟩) 1 1, .slice none 0 0] 1 (base := 0) (e := 103) (size := 4) (by omega) (by unfold maxLen; omega) rfl
    rw [← eX2, ← eU2] at this
    obtain ⟨A9, c9, e9, _, _, hr9⟩ := own4_form this
    obtain ⟨rfl, _, rfl⟩ := Value.slice.inj e9
    refine ⟨[((3, 255, [255], []), .slice (some ⟨X1, 0, none⟩) 1 1, .slice none 0 0)], some ⟨X2, 0, none⟩, 1, rfl, rfl, by simp, by omega, fun e he => ?_, hr9⟩
    obtain rfl := List.mem_singleton.1 he
    exact ⟨hy.below bU2, IsI.nil U2⟩
  have hst : IsSt U2 (.agg #[.int .i64 3, .int .i64 1, .int .i64 0, .int .i64 0, .int .i64 1, .slice (some ⟨X2, 0, none⟩) 1 1]) (3, 1, 0, 0, 1, [(3, 255, [255], [])]) := ⟨_, rfl, hbs⟩
  have EU := Lib.hid (And.intro eU1 (And.intro eX1 (And.intro eU2 (And.intro eX2 eX3))))
  clear eU1 eX1 eU2 eX2 eX3 hU1 hU2 hy hbs
  go_wp2_with fail
  rw [← EU.out.1]
  first | rw [EU.out.2.2.2.2] | rw [← EU.out.2.2.2.1]
  rw [← EU.out.2.1, ← EU.out.2.2.1]
  replace q3 := q3.below bU1
  replace h1 := h1.below bU1 h1.lt
  replace q5 := q5.below bU1
  replace q6 := q6.below bU1
  replace h3 := h3.below bU1 h3.lt
  replace q7 := q7.below bU1
  replace q8 := q8.below bU1
  replace h5 := h5.below bU1 h5.lt
  replace hB := hB.trans (bU1.mono hB.size)
  clear c36 c37 c38 c39 c40 c41 c42 c43 c44 c45 c46 c47 c48 c49 c50
  obtain ⟨c51, c52, c53⟩ := h1.q3
  obtain ⟨c54, c55, c56, c57, c58, c59⟩ := h3.q6
  obtain ⟨c60, c61, c62, c63, c64, c65⟩ := h5.q6
  replace q3 := q3.below bU2
  replace h1 := h1.below bU2 h1.lt
  replace q5 := q5.below bU2
  replace q6 := q6.below bU2
  replace h3 := h3.below bU2 h3.lt
  replace q7 := q7.below bU2
  replace q8 := q8.below bU2
  replace h5 := h5.below bU2 h5.lt
  replace hB := hB.trans (bU2.mono hB.size)
  clear c51 c52 c53 c54 c55 c56 c57 c58 c59 c60 c61 c62 c63 c64 c65
  obtain ⟨c66, c67, c68⟩ := h1.q3
  obtain ⟨c69, c70, c71, c72, c73, c74⟩ := h3.q6
  obtain ⟨c75, c76, c77, c78, c79, c80⟩ := h5.q6
  refine (hQu _ _ hst).mono ?_
  rintro e w30 ⟨v9, rfl, z9, b30⟩
  clear hst
  replace q3 := q3.below b30
  replace h1 := h1.below b30 h1.lt
  replace q5 := q5.below b30
  replace q6 := q6.below b30
  replace h3 := h3.below b30 h3.lt
  replace q7 := q7.below b30
  replace q8 := q8.below b30
  replace h5 := h5.below b30 h5.lt
  replace hB := hB.trans (b30.mono hB.size)
  clear c66 c67 c68 c69 c70 c71 c72 c73 c74 c75 c76 c77 c78 c79 c80
  obtain ⟨c81, c82, c83⟩ := h1.q3
  obtain ⟨c84, c85, c86, c87, c88, c89⟩ := h3.q6
  obtain ⟨c90, c91, c92, c93, c94, c95⟩ := h5.q6
  obtain ⟨ad, c9, u9, p9, t9, rfl, _, x0, x1, x2, q9⟩ := z9.at_ (i := 0) (by simp)
  rw [Nat.zero_mul, show ad.add 0 = ad by simp [Addr.add]] at x0 x1 x2
  obtain ⟨s9, A9, L9, C9, D9, M9, E9, e9, q9⟩ := q9.opn
  obtain ⟨rfl, rfl, rfl⟩ : s9 = u9 ∧ p9 = .slice A9 L9 C9 ∧ t9 = .slice D9 M9 E9 := by
    injection e9 with e9; simp only [Array.mk.injEq, List.cons.injEq, and_true] at e9; exact ⟨by have := e9.1; injection this with this; exact this.symm, e9.2.1, e9.2.2⟩
  clear e9 z9
  go_upto_region 5 with fail
  replace hB := hB.drew
  replace q3 := q3.below (bdrew _)
  replace h1 := h1.drew
  replace q5 := q5.below (bdrew _)
  replace q6 := q6.below (bdrew _)
  replace h3 := h3.drew
  replace q7 := q7.below (bdrew _)
  replace q8 := q8.below (bdrew _)
  replace h5 := h5.drew
  replace q9 := q9.below (bdrew _)
  replace x0 := cellAU (bdrew _) x0
  replace x1 := cellAU (bdrew _) x1
  replace x2 := cellAU (bdrew _) x2
  clear c81 c82 c83 c84 c85 c86 c87 c88 c89 c90 c91 c92 c93 c94 c95
  refine wp_region_noPanic ?_
  refine wp_region_held_drew (S := fun w' => w'.cell? ⟨X7, 0, none⟩ = some (.bool s3) ∧ w'.cell? ⟨X7, 1, none⟩ = some (.slice A3 L3 C3) ∧ w'.cell? ⟨X7, 2, none⟩ = some (.slice D3 M3 E3) ∧ w'.cell? ⟨X13, 0, none⟩ = some (.bool s5) ∧ w'.cell? ⟨X13, 1, none⟩ = some (.slice A5 L5 C5) ∧ w'.cell? ⟨X13, 2, none⟩ = some (.slice D5 M5 E5) ∧ w'.cell? ⟨X13, 3, none⟩ = some (.bool s6) ∧ w'.cell? ⟨X13, 4, none⟩ = some (.slice A6 L6 C6) ∧ w'.cell? ⟨X13, 5, none⟩ = some (.slice D6 M6 E6) ∧ w'.cell? ⟨X19, 0, none⟩ = some (.bool s7) ∧ w'.cell? ⟨X19, 1, none⟩ = some (.slice A7 L7 C7) ∧ w'.cell? ⟨X19, 2, none⟩ = some (.slice D7 M7 E7) ∧ w'.cell? ⟨X19, 3, none⟩ = some (.bool s8) ∧ w'.cell? ⟨X19, 4, none⟩ = some (.slice A8 L8 C8) ∧ w'.cell? ⟨X19, 5, none⟩ = some (.slice D8 M8 E8) ∧ w'.cell? ad = some (.bool s9) ∧ w'.cell? ⟨ad.block, ad.off + 1, none⟩ = some (.slice A9 L9 C9) ∧ w'.cell? ⟨ad.block, ad.off + 2, none⟩ = some (.slice D9 M9 E9)) (by kernel_rfl) ?_ (fun hHeld => ?_)
  · exact ⟨h1.cell 0, h1.cell 1, h1.cell 2, h3.cell 0, h3.cell 1, h3.cell 2, h3.cell 3, h3.cell 4, h3.cell 5, h5.cell 0, h5.cell 1, h5.cell 2, h5.cell 3, h5.cell 4, h5.cell 5, x0, x1, x2⟩
  obtain ⟨wd5_1, hwd⟩ : ∃ q, q = w30.drew := ⟨_, rfl⟩
  rw [← hwd] at hB q3 h1 q5 q6 h3 q7 q8 h5 q9 x0 x1 x2 hHeld ⊢
  clear hwd
  refine tkH 0 rfl (v := ?v1) ?h1 ?r1
  case h1 => intro w hSw; (try dsimp only at hSw); go_simp; try (with_reducible rfl)
  refine tkH 1 rfl (v := ?v2) ?h2 ?r2
  case h2 => intro w hSw; (try dsimp only at hSw); go_simp; try (with_reducible rfl)
  refine tkH 2 rfl (v := ?v3) ?h3 ?r3
  case h3 => intro w hSw; (try dsimp only at hSw); go_simp; try (with_reducible rfl)
  refine tkH 3 rfl (v := ?v4) ?h4 ?r4
  case h4 => intro w hSw; (try dsimp only at hSw); go_simp; try (with_reducible rfl)
  refine tkH 4 rfl (v := ?v5) ?h5 ?r5
  case h5 => intro w hSw; (try dsimp only at hSw); go_simp; try (with_reducible rfl)
  refine tkH 5 rfl (v := ?v6) ?h6 ?r6
  case h6 => intro w hSw; (try dsimp only at hSw); go_simp; try (with_reducible rfl)
  refine tkH 6 rfl (v := ?v7) ?h7 ?r7
  case h7 => intro w hSw; (try dsimp only at hSw); go_simp; try (with_reducible rfl)
  refine tkH 7 rfl (v := ?v8) ?h8 ?r8
  case h8 => intro w hSw; (try dsimp only at hSw); go_simp; try (with_reducible rfl)
  try simp only [Act.put, lay1, lay2, lay3, lay4, lay5, lay6]
  refine wpAnyH_ready (rs := [8]) (by kernel_rfl) (by simp) (AllReadyH.cons rfl (fun K hK => ?_) AllReadyH.nil)
  go_simp
  refine (hF5 _).mono ?_
  rintro e u5_1 ⟨v10, rfl, q10, b5_1⟩
  replace q3 := q3.below b5_1
  replace h1 := h1.below b5_1 h1.lt
  replace q5 := q5.below b5_1
  replace q6 := q6.below b5_1
  replace h3 := h3.below b5_1 h3.lt
  replace q7 := q7.below b5_1
  replace q8 := q8.below b5_1
  replace h5 := h5.below b5_1 h5.lt
  replace q9 := q9.below b5_1
  replace x0 := cellAU b5_1 x0
  replace x1 := cellAU b5_1 x1
  replace x2 := cellAU b5_1 x2
  replace hB := hB.trans (b5_1.mono hB.size)
  obtain ⟨s10, A10, L10, C10, D10, M10, E10, rfl, q10⟩ := q10.opn
  go_wp2_with fail
  refine hK.out _ _ ?_ (fun hHeld => ?_)
  · exact ⟨h1.cell 0, h1.cell 1, h1.cell 2, h3.cell 0, h3.cell 1, h3.cell 2, h3.cell 3, h3.cell 4, h3.cell 5, h5.cell 0, h5.cell 1, h5.cell 2, h5.cell 3, h5.cell 4, h5.cell 5, x0, x1, x2⟩
  clear hK K
  try simp only [Act.put, lay1, lay2, lay3, lay4, lay5, lay6]
  refine wpAnyH_ready (rs := [9]) (by kernel_rfl) (by simp) (AllReadyH.cons rfl (fun K hK => ?_) AllReadyH.nil)
  go_simp
  refine (hS1 _ _ _ q3 q10).mono ?_
  rintro e u5_2 ⟨rfl, b5_2⟩
  replace q3 := q3.below b5_2
  replace h1 := h1.below b5_2 h1.lt
  replace q5 := q5.below b5_2
  replace q6 := q6.below b5_2
  replace h3 := h3.below b5_2 h3.lt
  replace q7 := q7.below b5_2
  replace q8 := q8.below b5_2
  replace h5 := h5.below b5_2 h5.lt
  replace q9 := q9.below b5_2
  replace x0 := cellAU b5_2 x0
  replace x1 := cellAU b5_2 x1
  replace x2 := cellAU b5_2 x2
  replace q10 := q10.below b5_2
  replace hB := hB.trans (b5_2.mono hB.size)
  go_wp2_with fail
  refine hK.out _ _ ?_ (fun hHeld => ?_)
  · exact ⟨h1.cell 0, h1.cell 1, h1.cell 2, h3.cell 0, h3.cell 1, h3.cell 2, h3.cell 3, h3.cell 4, h3.cell 5, h5.cell 0, h5.cell 1, h5.cell 2, h5.cell 3, h5.cell 4, h5.cell 5, x0, x1, x2⟩
  clear hK K
  refine tkH 10 rfl (v := ?v9) ?h9 ?r9
  case h9 => intro w hSw; (try dsimp only at hSw); go_simp; try (with_reducible rfl)
  refine tkH 11 rfl (v := ?v10) ?h10 ?r10
  case h10 => intro w hSw; (try dsimp only at hSw); go_simp; try (with_reducible rfl)
  refine tkH 12 rfl (v := ?v11) ?h11 ?r11
  case h11 => intro w hSw; (try dsimp only at hSw); go_simp; try (with_reducible rfl)
  refine tkH 13 rfl (v := ?v12) ?h12 ?r12
  case h12 => intro w hSw; (try dsimp only at hSw); go_simp; try (with_reducible rfl)
  try simp only [Act.put, lay1, lay2, lay3, lay4, lay5, lay6]
  refine wpAnyH_ready (rs := [14]) (by kernel_rfl) (by simp) (AllReadyH.cons rfl (fun K hK => ?_) AllReadyH.nil)
  go_simp
  refine (hS3 _ _ _ ⟨_, _, _, _, _, _, rfl, q5, q6⟩ ⟨_, _, _, _, _, _, rfl, q7, q8⟩).mono ?_
  rintro e u5_3 ⟨rfl, b5_3⟩
  replace q3 := q3.below b5_3
  replace h1 := h1.below b5_3 h1.lt
  replace q5 := q5.below b5_3
  replace q6 := q6.below b5_3
  replace h3 := h3.below b5_3 h3.lt
  replace q7 := q7.below b5_3
  replace q8 := q8.below b5_3
  replace h5 := h5.below b5_3 h5.lt
  replace q9 := q9.below b5_3
  replace x0 := cellAU b5_3 x0
  replace x1 := cellAU b5_3 x1
  replace x2 := cellAU b5_3 x2
  replace q10 := q10.below b5_3
  replace hB := hB.trans (b5_3.mono hB.size)
  go_wp2_with fail
  refine hK.out _ _ ?_ (fun hHeld => ?_)
  · exact ⟨h1.cell 0, h1.cell 1, h1.cell 2, h3.cell 0, h3.cell 1, h3.cell 2, h3.cell 3, h3.cell 4, h3.cell 5, h5.cell 0, h5.cell 1, h5.cell 2, h5.cell 3, h5.cell 4, h5.cell 5, x0, x1, x2⟩
  clear hK K
  refine tkH 15 rfl (v := ?v13) ?h13 ?r13
  case h13 => intro w hSw; (try dsimp only at hSw); go_simp; try (with_reducible rfl)
  refine tkH 16 rfl (v := ?v14) ?h14 ?r14
  case h14 => intro w hSw; (try dsimp only at hSw); go_simp; try (with_reducible rfl)
  refine tkH 17 rfl (v := ?v15) ?h15 ?r15
  case h15 => intro w hSw; (try dsimp only at hSw); go_simp; try (with_reducible rfl)
  refine tkH 18 rfl (v := ?v16) ?h16 ?r16
  case h16 => intro w hSw; (try dsimp only at hSw); go_simp; try (with_reducible rfl)
  refine tkH 19 rfl (v := ?v17) ?h17 ?r17
  case h17 => intro w hSw; (try dsimp only at hSw); go_simp; try (with_reducible rfl)
  refine tkH 20 rfl (v := ?v18) ?h18 ?r18
  case h18 => intro w hSw; (try dsimp only at hSw); go_simp; try (with_reducible rfl)
  refine tkH 21 rfl (v := ?v19) ?h19 ?r19
  case h19 => intro w hSw; (try dsimp only at hSw); go_simp; try (with_reducible rfl)
  refine tkH 22 rfl (v := ?v20) ?h20 ?r20
  case h20 => intro w hSw; (try dsimp only at hSw); go_simp; try (with_reducible rfl)
  refine tkH 23 rfl (v := ?v21) ?h21 ?r21
  case h21 => intro w hSw; (try dsimp only at hSw); go_simp; try (with_reducible rfl)
  refine tkH 24 rfl (v := ?v22) ?h22 ?r22
  case h22 => intro w hSw; (try dsimp only at hSw); go_simp; try (with_reducible rfl)
  try simp only [Act.put, lay1, lay2, lay3, lay4, lay5, lay6]
  refine wpAnyH_ready (rs := [25]) (by kernel_rfl) (by simp) (AllReadyH.cons rfl (fun K hK => ?_) AllReadyH.nil)
  go_simp
  refine (hO1 _).mono ?_
  rintro e u5_4 ⟨v11, rfl, q11, b5_4⟩
  replace q3 := q3.below b5_4
  replace h1 := h1.below b5_4 h1.lt
  replace q5 := q5.below b5_4
  replace q6 := q6.below b5_4
  replace h3 := h3.below b5_4 h3.lt
  replace q7 := q7.below b5_4
  replace q8 := q8.below b5_4
  replace h5 := h5.below b5_4 h5.lt
  replace q9 := q9.below b5_4
  replace x0 := cellAU b5_4 x0
  replace x1 := cellAU b5_4 x1
  replace x2 := cellAU b5_4 x2
  replace q10 := q10.below b5_4
  replace hB := hB.trans (b5_4.mono hB.size)
  obtain ⟨s11, A11, L11, C11, D11, M11, E11, rfl, q11⟩ := q11.opn
  go_wp2_with fail
  refine hK.out _ _ ?_ (fun hHeld => ?_)
  · exact ⟨h1.cell 0, h1.cell 1, h1.cell 2, h3.cell 0, h3.cell 1, h3.cell 2, h3.cell 3, h3.cell 4, h3.cell 5, h5.cell 0, h5.cell 1, h5.cell 2, h5.cell 3, h5.cell 4, h5.cell 5, x0, x1, x2⟩
  clear hK K
  try simp only [Act.put, lay1, lay2, lay3, lay4, lay5, lay6]
  refine wpAnyH_ready (rs := [26]) (by kernel_rfl) (by simp) (AllReadyH.cons rfl (fun K hK => ?_) AllReadyH.nil)
  go_simp
  refine (hS2 _ _ _ q9 q11).mono ?_
  rintro e u5_5 ⟨rfl, b5_5⟩
  replace q3 := q3.below b5_5
  replace h1 := h1.below b5_5 h1.lt
  replace q5 := q5.below b5_5
  replace q6 := q6.below b5_5
  replace h3 := h3.below b5_5 h3.lt
  replace q7 := q7.below b5_5
  replace q8 := q8.below b5_5
  replace h5 := h5.below b5_5 h5.lt
  replace q9 := q9.below b5_5
  replace x0 := cellAU b5_5 x0
  replace x1 := cellAU b5_5 x1
  replace x2 := cellAU b5_5 x2
  replace q10 := q10.below b5_5
  replace q11 := q11.below b5_5
  replace hB := hB.trans (b5_5.mono hB.size)
  go_wp2_with fail
  refine hK.out _ _ ?_ (fun hHeld => ?_)
  · exact ⟨h1.cell 0, h1.cell 1, h1.cell 2, h3.cell 0, h3.cell 1, h3.cell 2, h3.cell 3, h3.cell 4, h3.cell 5, h5.cell 0, h5.cell 1, h5.cell 2, h5.cell 3, h5.cell 4, h5.cell 5, x0, x1, x2⟩
  clear hK K
  refine tkH 27 rfl (v := ?v23) ?h23 ?r23
  case h23 => intro w hSw; (try dsimp only at hSw); go_simp; try (with_reducible rfl)
  refine tkH 28 rfl (v := ?v24) ?h24 ?r24
  case h24 => intro w hSw; (try dsimp only at hSw); go_simp; try (with_reducible rfl)
  try simp only [Act.put, lay1, lay2, lay3, lay4, lay5, lay6]
  try dsimp only
  try simp only [Act.put, lay1, lay2, lay3, lay4, lay5, lay6]
  refine wpAnyH_done (by kernel_rfl) ?_ _
  refine NoPanic.normal ?_
  skip
  obtain ⟨c96, c97, c98⟩ := h1.q3
  obtain ⟨c99, c100, c101, c102, c103, c104⟩ := h3.q6
  obtain ⟨c105, c106, c107, c108, c109, c110⟩ := h5.q6
  go_wp2
  go_ret
  exact ⟨rfl, hB⟩
end Go.Proofs.YtdnjdglekifhpaaGreat
