/- ZedOrder: of two the other way round, and if both are; of three it goes on; sums keep it; small ones are what they are. No conditions: every input. -/
import Derived.Test.YtooonjcpdbbniaaDoorJoin04
namespace Go.Proofs.YtooonjcpdbbniaaDoor
open Go.RowKit Go.Lib Go.Shelf
attribute [local go_sem ↓] Go.wp_at_zero Go.wp_at_succ
theorem cmp_turn (x y : Int) : cmpI y x = -cmpI x y := by unfold cmpI; (repeat' split) <;> omega
theorem cmp_negs (x y : Int) : cmpI (-x) (-y) = -cmpI x y := by unfold cmpI; (repeat' split) <;> omega
theorem cmp_adds (x y c : Int) : cmpI (x + c) (y + c) = cmpI x y := by unfold cmpI; (repeat' split) <;> omega
theorem cmp_range (x y : Int) : -1 ≤ cmpI x y ∧ cmpI x y ≤ 1 := by unfold cmpI; (repeat' split) <;> omega
theorem cmp_less (a b : Int) : decide (cmpI a b < 0) = decide (a < b) := by unfold cmpI; (repeat' split) <;> simp <;> omega
theorem cmp_eq0 (a b : Int) : (cmpI a b == 0) = decide (a = b) := by
  unfold cmpI; (repeat' split) <;> simp <;> omega
theorem fit_64 {z : Int} (h : -9223372036854775808 ≤ z ∧ z ≤ 9223372036854775807) : fitV z = z ∧ fitB z = true := by
  unfold fitV fitB
  rw [if_pos h]; exact ⟨rfl, decide_eq_true h⟩
theorem bits_unfit {z : Int} (h : fitB z = false) : (64 : Int) ≤ ((bl z.natAbs : Nat) : Int) := by
  unfold fitB at h
  have h1 := of_decide_eq_false h
  have h2 : ¬ bl z.natAbs ≤ 63 := fun e => by
    have := bl_le_iff.1 e
    rw [show (2 : Nat) ^ 63 = 9223372036854775808 from rfl] at this
    omega
  omega
set_option maxRecDepth 100000 in
set_option maxHeartbeats 8000000 in
theorem ZedOrder_un1 (sg1 sg2 : Bool) (B1 B2 : Option Addr) (D1 D2 : Nat) (l1 l2 : List Nat) (m0 m1 : Int) (w : World) (h1 : IsL w (.slice B1 l1.length D1) l1) (h2 : IsL w (.slice B2 l2.length D2) l2) (i0 : -9223372036854775808 ≤ m0 ∧ m0 ≤ 9223372036854775807) (i1 : -9223372036854775808 ≤ m1 ∧ m1 ≤ 9223372036854775807) (ht : TabOk w) (f1 : (decide (l1.length ≤ 6) && rightZ sg1 l1) = false) :
    Calls Tryd.prog 5 #[.agg #[.bool sg1, .slice B1 l1.length D1], .agg #[.bool sg2, .slice B2 l2.length D2], .agg #[.int .i64 m0, .int .i64 m1]] w fun e w' => e = .returned (.bool true) ∧ Below w.heap.size w w' := by
  have hE := fun w ht => alive04_any w ht
  have hF1 := fun w h => rzfew_any sg1 (.slice B1 l1.length D1) l1 6 w h
  have hF2 := fun w h => rzfew_any sg2 (.slice B2 l2.length D2) l2 6 w h
  rw [f1] at hF1
  obtain ⟨W0, hW, hT, hR, hB⟩ := box3 w 25 25 38 #[.bool sg1, .slice B1 l1.length D1] #[.bool sg2, .slice B2 l2.length D2] #[.int .i64 m0, .int .i64 m1]
  obtain ⟨g, hg⟩ : ∃ g, g = w.heap.size := ⟨_, rfl⟩
  have hW' := Lib.hid (And.intro hW hg)
  rw [← hg] at hT hR
  have hgw : w.heap.size ≤ g := by omega
  clear hW hg
  obtain ⟨hX, hY⟩ := hT
  have hM := hR
  replace h1 := h1.below hB
  replace h2 := h2.below hB
  obtain ⟨c1_hX_0, c1_hX_1⟩ := hX.cells2
  obtain ⟨c1_hY_0, c1_hY_1⟩ := hY.cells2
  obtain ⟨c1_hM_0, c1_hM_1⟩ := hM.cells2
  go_enter Tryd.func5, Tryd.ntmps5
  go_wp2_with fail
  rw [← hW'.out.1, ← hW'.out.2]
  refine (hF1 _ h1).mono ?_
  rintro e w1 ⟨rfl, b1⟩
  replace h1 := h1.below b1
  replace h2 := h2.below b1
  replace hX := hX.below b1 hX.lt
  replace hY := hY.below b1 hY.lt
  replace hM := hM.below b1 hM.lt
  replace hB := hB.trans (b1.mono hB.size)
  clear c1_hX_0 c1_hX_1 c1_hY_0 c1_hY_1 c1_hM_0 c1_hM_1
  obtain ⟨c2_hX_0, c2_hX_1⟩ := hX.cells2
  obtain ⟨c2_hY_0, c2_hY_1⟩ := hY.cells2
  obtain ⟨c2_hM_0, c2_hM_1⟩ := hM.cells2
  go_wp2_with fail
  refine (hE _ (ht.below hB)).mono ?_
  rintro e w2 ⟨rfl, b2⟩
  replace h1 := h1.below b2
  replace h2 := h2.below b2
  replace hX := hX.below b2 hX.lt
  replace hY := hY.below b2 hY.lt
  replace hM := hM.below b2 hM.lt
  replace hB := hB.trans (b2.mono hB.size)
  clear c2_hX_0 c2_hX_1 c2_hY_0 c2_hY_1 c2_hM_0 c2_hM_1
  obtain ⟨c3_hX_0, c3_hX_1⟩ := hX.cells2
  obtain ⟨c3_hY_0, c3_hY_1⟩ := hY.cells2
  obtain ⟨c3_hM_0, c3_hM_1⟩ := hM.cells2
  go_wp2_with fail
  go_ret
  exact ⟨rfl, hB⟩
set_option maxRecDepth 100000 in
set_option maxHeartbeats 8000000 in
theorem ZedOrder_un2 (sg1 sg2 : Bool) (B1 B2 : Option Addr) (D1 D2 : Nat) (l1 l2 : List Nat) (m0 m1 : Int) (w : World) (h1 : IsL w (.slice B1 l1.length D1) l1) (h2 : IsL w (.slice B2 l2.length D2) l2) (i0 : -9223372036854775808 ≤ m0 ∧ m0 ≤ 9223372036854775807) (i1 : -9223372036854775808 ≤ m1 ∧ m1 ≤ 9223372036854775807) (ht : TabOk w) (f1 : (decide (l1.length ≤ 6) && rightZ sg1 l1) = true) (f2 : (decide (l2.length ≤ 6) && rightZ sg2 l2) = false) :
    Calls Tryd.prog 5 #[.agg #[.bool sg1, .slice B1 l1.length D1], .agg #[.bool sg2, .slice B2 l2.length D2], .agg #[.int .i64 m0, .int .i64 m1]] w fun e w' => e = .returned (.bool true) ∧ Below w.heap.size w w' := by
  have hE := fun w ht => alive04_any w ht
  have hF1 := fun w h => rzfew_any sg1 (.slice B1 l1.length D1) l1 6 w h
  have hF2 := fun w h => rzfew_any sg2 (.slice B2 l2.length D2) l2 6 w h
  rw [f1] at hF1
  rw [f2] at hF2
  obtain ⟨W0, hW, hT, hR, hB⟩ := box3 w 25 25 38 #[.bool sg1, .slice B1 l1.length D1] #[.bool sg2, .slice B2 l2.length D2] #[.int .i64 m0, .int .i64 m1]
  obtain ⟨g, hg⟩ : ∃ g, g = w.heap.size := ⟨_, rfl⟩
  have hW' := Lib.hid (And.intro hW hg)
  rw [← hg] at hT hR
  have hgw : w.heap.size ≤ g := by omega
  clear hW hg
  obtain ⟨hX, hY⟩ := hT
  have hM := hR
  replace h1 := h1.below hB
  replace h2 := h2.below hB
  obtain ⟨c1_hX_0, c1_hX_1⟩ := hX.cells2
  obtain ⟨c1_hY_0, c1_hY_1⟩ := hY.cells2
  obtain ⟨c1_hM_0, c1_hM_1⟩ := hM.cells2
  go_enter Tryd.func5, Tryd.ntmps5
  go_wp2_with fail
  rw [← hW'.out.1, ← hW'.out.2]
  refine (hF1 _ h1).mono ?_
  rintro e w1 ⟨rfl, b1⟩
  replace h1 := h1.below b1
  replace h2 := h2.below b1
  replace hX := hX.below b1 hX.lt
  replace hY := hY.below b1 hY.lt
  replace hM := hM.below b1 hM.lt
  replace hB := hB.trans (b1.mono hB.size)
  clear c1_hX_0 c1_hX_1 c1_hY_0 c1_hY_1 c1_hM_0 c1_hM_1
  obtain ⟨c2_hX_0, c2_hX_1⟩ := hX.cells2
  obtain ⟨c2_hY_0, c2_hY_1⟩ := hY.cells2
  obtain ⟨c2_hM_0, c2_hM_1⟩ := hM.cells2
  go_wp2_with fail
  refine (hF2 _ h2).mono ?_
  rintro e w2 ⟨rfl, b2⟩
  replace h1 := h1.below b2
  replace h2 := h2.below b2
  replace hX := hX.below b2 hX.lt
  replace hY := hY.below b2 hY.lt
  replace hM := hM.below b2 hM.lt
  replace hB := hB.trans (b2.mono hB.size)
  clear c2_hX_0 c2_hX_1 c2_hY_0 c2_hY_1 c2_hM_0 c2_hM_1
  obtain ⟨c3_hX_0, c3_hX_1⟩ := hX.cells2
  obtain ⟨c3_hY_0, c3_hY_1⟩ := hY.cells2
  obtain ⟨c3_hM_0, c3_hM_1⟩ := hM.cells2
  go_wp2_with fail
  refine (hE _ (ht.below hB)).mono ?_
  rintro e w3 ⟨rfl, b3⟩
  replace h1 := h1.below b3
  replace h2 := h2.below b3
  replace hX := hX.below b3 hX.lt
  replace hY := hY.below b3 hY.lt
  replace hM := hM.below b3 hM.lt
  replace hB := hB.trans (b3.mono hB.size)
  clear c3_hX_0 c3_hX_1 c3_hY_0 c3_hY_1 c3_hM_0 c3_hM_1
  obtain ⟨c4_hX_0, c4_hX_1⟩ := hX.cells2
  obtain ⟨c4_hY_0, c4_hY_1⟩ := hY.cells2
  obtain ⟨c4_hM_0, c4_hM_1⟩ := hM.cells2
  go_wp2_with fail
  go_ret
  exact ⟨rfl, hB⟩
set_option maxRecDepth 100000 in
set_option maxHeartbeats 8000000 in
theorem ZedOrder_main_true (sg1 sg2 : Bool) (B1 B2 : Option Addr) (D1 D2 : Nat) (l1 l2 : List Nat) (m0 m1 : Int) (w : World) (h1 : IsL w (.slice B1 l1.length D1) l1) (h2 : IsL w (.slice B2 l2.length D2) l2) (i0 : -9223372036854775808 ≤ m0 ∧ m0 ≤ 9223372036854775807) (i1 : -9223372036854775808 ≤ m1 ∧ m1 ≤ 9223372036854775807) (ht : TabOk w) (f1 : (decide (l1.length ≤ 6) && rightZ sg1 l1) = true) (f2 : (decide (l2.length ≤ 6) && rightZ sg2 l2) = true) (hfb : fitB (sided sg1 (num l1)) = true) :
    Calls Tryd.prog 5 #[.agg #[.bool sg1, .slice B1 l1.length D1], .agg #[.bool sg2, .slice B2 l2.length D2], .agg #[.int .i64 m0, .int .i64 m1]] w fun e w' => e = .returned (.bool true) ∧ Below w.heap.size w w' := by
  have hE := fun w ht => alive04_any w ht
  have hF1 := fun w h => rzfew_any sg1 (.slice B1 l1.length D1) l1 6 w h
  have hF2 := fun w h => rzfew_any sg2 (.slice B2 l2.length D2) l2 6 w h
  rw [f1] at hF1
  rw [f2] at hF2
  rw [Bool.and_eq_true, decide_eq_true_eq] at f1
  obtain ⟨z1, s1⟩ := isZ_right h1 f1.2
  obtain ⟨x, hx1⟩ : ∃ q, q = sided sg1 (num l1) := ⟨_, rfl⟩
  rw [← hx1] at z1 s1 hfb
  have t1 : Sz x.natAbs 6 := by unfold Sz; omega
  clear hx1 s1
  rw [Bool.and_eq_true, decide_eq_true_eq] at f2
  obtain ⟨z2, s2⟩ := isZ_right h2 f2.2
  obtain ⟨y, hx2⟩ : ∃ q, q = sided sg2 (num l2) := ⟨_, rfl⟩
  rw [← hx2] at z2 s2
  have t2 : Sz y.natAbs 6 := by unfold Sz; omega
  clear hx2 s2
  obtain ⟨nv, znv, zn⟩ := id z1
  obtain ⟨_, rfl⟩ : decide (x < 0) = sg1 ∧ nv = .slice B1 l1.length D1 := by simpa using (Value.agg.inj znv).symm
  have hlm : (limbs x.natAbs).length ≤ 1000000 := Nat.le_trans t1 (by decide)
  have tm : Sz m0.natAbs 6 := Nat.le_trans (limbs_len_le (k := 1) (by rw [Nat.pow_one]; unfold W64; omega)) (by decide)
  obtain ⟨cm, hcm⟩ : ∃ c, cmpI x y = c := ⟨_, rfl⟩
  obtain ⟨mc, hmc⟩ : ∃ c, -cm = c := ⟨_, rfl⟩
  obtain ⟨sm, hsm⟩ : ∃ s, decide (x = y) = s := ⟨_, rfl⟩
  obtain ⟨ls, hls⟩ : ∃ s, decide (m0 < m1) = s := ⟨_, rfl⟩
  obtain ⟨pc, hpc⟩ : ∃ p, decide (m0 < 0) = p := ⟨_, rfl⟩
  obtain ⟨pd, hpd⟩ : ∃ p, decide (m1 < 0) = p := ⟨_, rfl⟩
  have hC := fun va vb w h h' => pzcmp_any va vb x y w h h'
  have hCr := fun va vb w h h' => pzcmp_any va vb y x w h h'
  have hCn := fun va vb w h h' => pzcmp_any va vb (-x) (-y) w h h'
  have hCa := fun va vb w h h' => pzcmp_any va vb (x + m0) (y + m0) w h h'
  rw [cmp_turn x y, hcm, hmc] at hCr
  rw [cmp_negs x y, hcm, hmc] at hCn
  rw [cmp_adds x y m0, hcm] at hCa
  rw [hcm] at hC
  have hcr := cmp_range x y
  have hc0 := cmp_eq0 x y
  rw [hcm] at hcr hc0
  rw [hsm] at hc0
  have hd1 : decide (cm < -1) = false := decide_eq_false (by omega)
  have hd2 : decide (1 < cm) = false := decide_eq_false (by omega)
  have wn1 : wrap64 (-cm) = mc := by rw [← hmc]; unfold wrap64; omega
  have wn2 : IntKind.i64.wrap (-cm) = mc := by rw [← hmc, IntKind.wrap_i64]; omega
  have hO0 := fun w => as_form hpc (pzof_any m0 i0.1 i0.2 w)
  have hO1 := fun w => as_form hpd (pzof_any m1 i1.1 i1.2 w)
  have hI0 := fun v w h => pzint_any v m0 w h
  rw [(fit_64 i0).1, (fit_64 i0).2] at hI0
  have hCc := fun va vb w h h' => pzcmp_any va vb m0 m1 w h h'
  have hcl := cmp_less m0 m1
  rw [hls] at hcl
  generalize cmpI m0 m1 = cd at hCc hcl
  have hIx := fun v w h => pzint_any v x w h
  rw [hfb] at hIx
  generalize fitV x = fv at hIx
  have hN1 := fun v w h => pzneg_any v x w h
  have hN2 := fun v w h => pzneg_any v y w h
  have hA1 := fun va vb w h h' => pzadd_any va vb x m0 w h h' (szi_le t1 (by decide)) (szi_le tm (by decide))
  have hA2 := fun va vb w h h' => pzadd_any va vb y m0 w h h' (szi_le t2 (by decide)) (szi_le tm (by decide))
  have hSm := fun va vb w h h' => rzsame_any va vb x y w h h'
  rw [hsm] at hSm
  clear hcm hmc hpc hpd hcr t1 t2 tm hlm znv i0 i1 hfb
  obtain ⟨W0, hW, hT, hR, hB⟩ := box3 w 25 25 38 #[.bool sg1, .slice B1 l1.length D1] #[.bool sg2, .slice B2 l2.length D2] #[.int .i64 m0, .int .i64 m1]
  obtain ⟨g, hg⟩ : ∃ g, g = w.heap.size := ⟨_, rfl⟩
  have hW' := Lib.hid (And.intro hW hg)
  rw [← hg] at hT hR
  have hgw : w.heap.size ≤ g := by omega
  clear hW hg
  obtain ⟨hX, hY⟩ := hT
  have hM := hR
  replace h1 := h1.below hB
  replace h2 := h2.below hB
  obtain ⟨c1_hX_0, c1_hX_1⟩ := hX.cells2
  obtain ⟨c1_hY_0, c1_hY_1⟩ := hY.cells2
  obtain ⟨c1_hM_0, c1_hM_1⟩ := hM.cells2
  go_enter Tryd.func5, Tryd.ntmps5
  go_wp2_with fail
  rw [← hW'.out.1, ← hW'.out.2]
  refine (hF1 _ h1).mono ?_
  rintro e w1 ⟨rfl, b1⟩
  replace h1 := h1.below b1
  replace h2 := h2.below b1
  replace hX := hX.below b1 hX.lt
  replace hY := hY.below b1 hY.lt
  replace hM := hM.below b1 hM.lt
  replace hB := hB.trans (b1.mono hB.size)
  clear c1_hX_0 c1_hX_1 c1_hY_0 c1_hY_1 c1_hM_0 c1_hM_1
  obtain ⟨c2_hX_0, c2_hX_1⟩ := hX.cells2
  obtain ⟨c2_hY_0, c2_hY_1⟩ := hY.cells2
  obtain ⟨c2_hM_0, c2_hM_1⟩ := hM.cells2
  go_wp2_with fail
  refine (hF2 _ h2).mono ?_
  rintro e w2 ⟨rfl, b2⟩
  replace h1 := h1.below b2
  replace h2 := h2.below b2
  replace hX := hX.below b2 hX.lt
  replace hY := hY.below b2 hY.lt
  replace hM := hM.below b2 hM.lt
  replace hB := hB.trans (b2.mono hB.size)
  clear c2_hX_0 c2_hX_1 c2_hY_0 c2_hY_1 c2_hM_0 c2_hM_1
  obtain ⟨c3_hX_0, c3_hX_1⟩ := hX.cells2
  obtain ⟨c3_hY_0, c3_hY_1⟩ := hY.cells2
  obtain ⟨c3_hM_0, c3_hM_1⟩ := hM.cells2
  go_wp2_with fail
  refine (hC _ _ _ (z1.below hB) (z2.below hB)).mono ?_
  rintro e w3 ⟨rfl, b3⟩
  replace h1 := h1.below b3
  replace h2 := h2.below b3
  replace hX := hX.below b3 hX.lt
  replace hY := hY.below b3 hY.lt
  replace hM := hM.below b3 hM.lt
  replace hB := hB.trans (b3.mono hB.size)
  clear c3_hX_0 c3_hX_1 c3_hY_0 c3_hY_1 c3_hM_0 c3_hM_1
  obtain ⟨c4_hX_0, c4_hX_1⟩ := hX.cells2
  obtain ⟨c4_hY_0, c4_hY_1⟩ := hY.cells2
  obtain ⟨c4_hM_0, c4_hM_1⟩ := hM.cells2
  go_upto_region 4 with fail
  clear c4_hX_0 c4_hX_1 c4_hY_0 c4_hY_1 c4_hM_0 c4_hM_1
  replace hB := hB.drew
  replace hX := hX.drew
  replace hY := hY.drew
  replace hM := hM.drew
  clear h1 h2 f1 f2 hF1 hF2
  refine wp_region_join (fun n1 n2 A1 L1 C1 A2 L2 C2 => ⟨#[.agg #[.bool sg1, .slice B1 l1.length D1], .agg #[.bool sg2, .slice B2 l2.length D2], .agg #[.int .i64 m0, .int .i64 m1], .pointer (some ⟨g, 0, none⟩), .pointer (some ⟨g + 1, 0, none⟩), .pointer (some ⟨g + 1 + 1, 0, none⟩), .bool false, .int .i64 cm, .pointer (some ⟨n1, 0, none⟩), .pointer (some ⟨n2, 0, none⟩), undef, undef, undef, undef, undef, .agg #[.bool sg1, .slice B1 l1.length D1], .bool true, .bool false, .bool false, .agg #[.bool sg2, .slice B2 l2.length D2], .bool true, .bool false, .bool false, undef, .agg #[.bool sg1, .slice B1 l1.length D1], .agg #[.bool sg2, .slice B2 l2.length D2], .int .i64 cm, .pointer (some ⟨g + 1 + 1, 0, none⟩), .int .i64 m0, .agg #[.bool pc, .slice A1 L1 C1], .pointer (some ⟨g + 1 + 1, 1, none⟩), .int .i64 m1, .agg #[.bool pd, .slice A2 L2 C2], undef, undef, undef, undef, undef, undef, undef, undef, undef, undef, undef, undef, undef, undef, undef, undef, undef, undef, undef, undef, undef, undef, undef, undef, undef, undef, undef, undef, undef, undef, undef, undef, undef, undef, undef, undef, undef, undef, undef, undef, undef, undef, undef, undef, undef, undef, undef, undef, undef, undef, undef, undef, undef, undef, undef, undef, undef, undef, undef, undef, undef, undef, undef, undef, undef, undef, undef, undef, undef, undef, undef, undef, undef, undef, undef, undef, undef, undef, undef, undef, undef, undef, undef, undef, undef, undef], []⟩) (fun w' n1 n2 A1 L1 C1 A2 L2 C2 => Blk w' n1 25 #[.bool pc, .slice A1 L1 C1] ∧ Blk w' n2 25 #[.bool pd, .slice A2 L2 C2] ∧ IsZ w' (.agg #[.bool pc, .slice A1 L1 C1]) m0 ∧ IsZ w' (.agg #[.bool pd, .slice A2 L2 C2]) m1 ∧ Below w.heap.size w w' ∧ n1 ≠ n2 ∧ g + 1 + 1 < n1 ∧ g + 1 + 1 < n2 ∧ Blk w' (g) 25 #[.bool sg1, .slice B1 l1.length D1] ∧ Blk w' (g + 1) 25 #[.bool sg2, .slice B2 l2.length D2] ∧ Blk w' (g + 1 + 1) 38 #[.int .i64 m0, .int .i64 m1]) ?trtone ?trttwo
  case trtone =>
    refine wp_region_held_drew (S := fun w' => w'.cell? ⟨g + 1 + 1, 0, none⟩ = some (.int .i64 m0) ∧ w'.cell? ⟨g + 1 + 1, 1, none⟩ = some (.int .i64 m1)) (by kernel_rfl) ?_ (fun hHeld => ?_)
    · exact hM.cells2
    obtain ⟨wd, hwd⟩ : ∃ q, q = (w3.drew) := ⟨_, rfl⟩
    rw [← hwd] at hB hX hY hM hHeld ⊢
    clear hwd
    refine wpAnyH_take (i := 0) (v := ?trtv0) rfl (by kernel_rfl) (by kernel_rfl) (by kernel_rfl) (fun _ _ _ h => h) (Or.inl ⟨by kernel_rfl, ?trthy0⟩) (by assumption) ?trtrest0
    case trthy0 => (intro w hSw; (try dsimp only at hSw); go_simp; try (with_reducible rfl))
    try simp only [Act.put, lay1, lay2, lay3, lay4, lay5, lay6]
    refine wpAnyH_take (i := 1) (v := ?trtv1) rfl (by kernel_rfl) (by kernel_rfl) (by kernel_rfl) (fun _ _ _ h => h) (Or.inl ⟨by kernel_rfl, ?trthy1⟩) (by assumption) ?trtrest1
    case trthy1 => (intro w hSw; (try dsimp only at hSw); go_simp; try (with_reducible rfl))
    try simp only [Act.put, lay1, lay2, lay3, lay4, lay5, lay6]
    refine wpAnyH_take (i := 3) (v := ?trtv3) rfl (by kernel_rfl) (by kernel_rfl) (by kernel_rfl) (fun _ _ _ h => h) (Or.inl ⟨by kernel_rfl, ?trthy3⟩) (by assumption) ?trtrest3
    case trthy3 => (intro w hSw; (try dsimp only at hSw); go_simp; try (with_reducible rfl))
    try simp only [Act.put, lay1, lay2, lay3, lay4, lay5, lay6]
    refine wpAnyH_take (i := 4) (v := ?trtv4) rfl (by kernel_rfl) (by kernel_rfl) (by kernel_rfl) (fun _ _ _ h => h) (Or.inl ⟨by kernel_rfl, ?trthy4⟩) (by assumption) ?trtrest4
    case trthy4 => (intro w hSw; (try dsimp only at hSw); go_simp; try (with_reducible rfl))
    try simp only [Act.put, lay1, lay2, lay3, lay4, lay5, lay6]
    refine wpAnyH_ready (rs := [2, 6, 7]) (by kernel_rfl) (by simp) ?_
    refine AllReadyH.cons rfl (fun K hK => ?_) (AllReadyH.cons rfl (fun K hK => ?_) (AllReadyH.cons rfl (fun K hK => ?_) AllReadyH.nil))
    · go_simp
      refine (hO0 _).mono ?_
      rintro e u1 ⟨A1, L1, C1, rfl, r1, b1⟩
      replace hB := hB.trans (b1.mono hB.size)
      replace hX := hX.below b1 hX.lt
      replace hY := hY.below b1 hY.lt
      replace hM := hM.below b1 hM.lt
      go_wp2_with fail
      refine hK.out _ _ ?_ (fun hHeld => ?_)
      · exact hM.cells2
      clear hK K
      try simp only [Act.put, lay1, lay2, lay3, lay4, lay5, lay6]
      refine wpAnyH_ready (rs := [5, 6, 7]) (by kernel_rfl) (by simp) ?_
      refine AllReadyH.cons rfl (fun K hK => ?_) (AllReadyH.cons rfl (fun K hK => ?_) (AllReadyH.cons rfl (fun K hK => ?_) AllReadyH.nil))
      · go_simp
        refine (hO1 _).mono ?_
        rintro e u2 ⟨A2, L2, C2, rfl, r2, b2⟩
        replace hB := hB.trans (b2.mono hB.size)
        replace r1 := r1.below b2
        replace hX := hX.below b2 hX.lt
        replace hY := hY.below b2 hY.lt
        replace hM := hM.below b2 hM.lt
        go_wp2_with fail
        refine hK.out _ _ ?_ (fun hHeld => ?_)
        · exact hM.cells2
        clear hK K
        try simp only [Act.put, lay1, lay2, lay3, lay4, lay5, lay6]
        refine wpAnyH_ready (rs := [6, 7]) (by kernel_rfl) (by simp) ?_
        refine AllReadyH.cons rfl (fun K hK => ?_) (AllReadyH.cons rfl (fun K hK => ?_) AllReadyH.nil)
        · obtain ⟨u3, eu, g1, b3⟩ := box1 u2 25 #[.bool false, .slice none 0 0]
          obtain ⟨n1, en⟩ : ∃ X, X = u2.heap.size := ⟨_, rfl⟩
          rw [← en] at g1
          have o1 : g + 1 + 1 < n1 := by rw [en]; exact hM.lt
          have q1 : w.heap.size ≤ n1 := by rw [en]; exact hB.size
          have EU := Lib.hid (And.intro eu en)
          clear eu en
          go_simp
          rw [← EU.out.1, ← EU.out.2]
          replace hB := hB.trans (b3.mono hB.size)
          replace r1 := r1.below b3
          replace r2 := r2.below b3
          replace hX := hX.below b3 hX.lt
          replace hY := hY.below b3 hY.lt
          replace hM := hM.below b3 hM.lt
          refine hK.out _ _ ?_ (fun hHeld => ?_)
          · exact hM.cells2
          clear hK K
          try simp only [Act.put, lay1, lay2, lay3, lay4, lay5, lay6]
          refine wpAnyH_ready (rs := [7]) (by kernel_rfl) (by simp) ?_
          refine AllReadyH.cons rfl (fun K hK => ?_) AllReadyH.nil
          · obtain ⟨u4, eu, g2, b4⟩ := box1 u3 25 #[.bool false, .slice none 0 0]
            obtain ⟨n2, en⟩ : ∃ X, X = u3.heap.size := ⟨_, rfl⟩
            rw [← en] at g2
            have o2 : g + 1 + 1 < n2 := by rw [en]; exact hM.lt
            have q2 : w.heap.size ≤ n2 := by rw [en]; exact hB.size
            have dd : n1 ≠ n2 := by have := g1.lt; omega
            have EU := Lib.hid (And.intro eu en)
            clear eu en
            go_simp
            rw [← EU.out.1, ← EU.out.2]
            replace hB := hB.trans (b4.mono hB.size)
            replace r1 := r1.below b4
            replace r2 := r2.below b4
            replace hX := hX.below b4 hX.lt
            replace hY := hY.below b4 hY.lt
            replace hM := hM.below b4 hM.lt
            replace g1 := g1.below b4 g1.lt
            refine hK.out _ _ ?_ (fun hHeld => ?_)
            · exact hM.cells2
            clear hK K
            try simp only [Act.put, lay1, lay2, lay3, lay4, lay5, lay6]
            obtain ⟨u5, eu, g1', kz, kb, kB⟩ := put_zed g1 (.bool pc) (.slice A1 L1 C1) (by simp [noU])
            refine wpAnyH_ready (rs := [8]) (by kernel_rfl) (by simp) ?_
            refine AllReadyH.cons rfl (fun K hK => ?_) AllReadyH.nil
            have x0 := g1.cell 0
            have x1 := g1.cell 1
            have x2 := g1.frozen
            go_simp
            rw [← eu]
            replace hX := kb _ _ _ hX (by omega)
            replace hY := kb _ _ _ hY (by omega)
            replace hM := kb _ _ _ hM (by omega)
            replace g2 := kb _ _ _ g2 (by omega)
            replace r1 := kz _ _ r1
            replace r2 := kz _ _ r2
            replace hB := kB _ _ q1 hB
            replace g1 := g1'
            clear g1' kz kb kB eu x0 x1 x2
            refine hK.out _ _ ?_ (fun hHeld => ?_)
            · exact hM.cells2
            clear hK K
            try simp only [Act.put, lay1, lay2, lay3, lay4, lay5, lay6]
            obtain ⟨u6, eu, g2', kz, kb, kB⟩ := put_zed g2 (.bool pd) (.slice A2 L2 C2) (by simp [noU])
            refine wpAnyH_ready (rs := [9]) (by kernel_rfl) (by simp) ?_
            refine AllReadyH.cons rfl (fun K hK => ?_) AllReadyH.nil
            have x0 := g2.cell 0
            have x1 := g2.cell 1
            have x2 := g2.frozen
            go_simp
            rw [← eu]
            replace hX := kb _ _ _ hX (by omega)
            replace hY := kb _ _ _ hY (by omega)
            replace hM := kb _ _ _ hM (by omega)
            replace g1 := kb _ _ _ g1 (by omega)
            replace r1 := kz _ _ r1
            replace r2 := kz _ _ r2
            replace hB := kB _ _ q2 hB
            replace g2 := g2'
            clear g2' kz kb kB eu x0 x1 x2
            refine hK.out _ _ ?_ (fun hHeld => ?_)
            · exact hM.cells2
            clear hK K
            try simp only [Act.put, lay1, lay2, lay3, lay4, lay5, lay6]
            refine wpAnyH_done (by kernel_rfl) ?_ _
            dsimp only [OnlyN]
            exact ⟨n1, n2, A1, L1, C1, A2, L2, C2, rfl, g1, g2, r1, r2, hB, dd, o1, o2, hX, hY, hM⟩
        · obtain ⟨u7, eu, g2, b7⟩ := box1 u2 25 #[.bool false, .slice none 0 0]
          obtain ⟨n2, en⟩ : ∃ X, X = u2.heap.size := ⟨_, rfl⟩
          rw [← en] at g2
          have o2 : g + 1 + 1 < n2 := by rw [en]; exact hM.lt
          have q2 : w.heap.size ≤ n2 := by rw [en]; exact hB.size
          have EU := Lib.hid (And.intro eu en)
          clear eu en
          go_simp
          rw [← EU.out.1, ← EU.out.2]
          replace hB := hB.trans (b7.mono hB.size)
          replace r1 := r1.below b7
          replace r2 := r2.below b7
          replace hX := hX.below b7 hX.lt
          replace hY := hY.below b7 hY.lt
          replace hM := hM.below b7 hM.lt
          refine hK.out _ _ ?_ (fun hHeld => ?_)
          · exact hM.cells2
          clear hK K
          try simp only [Act.put, lay1, lay2, lay3, lay4, lay5, lay6]
          refine wpAnyH_ready (rs := [6]) (by kernel_rfl) (by simp) ?_
          refine AllReadyH.cons rfl (fun K hK => ?_) AllReadyH.nil
          · obtain ⟨u8, eu, g1, b8⟩ := box1 u7 25 #[.bool false, .slice none 0 0]
            obtain ⟨n1, en⟩ : ∃ X, X = u7.heap.size := ⟨_, rfl⟩
            rw [← en] at g1
            have o1 : g + 1 + 1 < n1 := by rw [en]; exact hM.lt
            have q1 : w.heap.size ≤ n1 := by rw [en]; exact hB.size
            have dd : n1 ≠ n2 := by have := g2.lt; omega
            have EU := Lib.hid (And.intro eu en)
            clear eu en
            go_simp
            rw [← EU.out.1, ← EU.out.2]
            replace hB := hB.trans (b8.mono hB.size)
            replace r1 := r1.below b8
            replace r2 := r2.below b8
            replace hX := hX.below b8 hX.lt
            replace hY := hY.below b8 hY.lt
            replace hM := hM.below b8 hM.lt
            replace g2 := g2.below b8 g2.lt
            refine hK.out _ _ ?_ (fun hHeld => ?_)
            · exact hM.cells2
            clear hK K
            try simp only [Act.put, lay1, lay2, lay3, lay4, lay5, lay6]
            obtain ⟨u9, eu, g1', kz, kb, kB⟩ := put_zed g1 (.bool pc) (.slice A1 L1 C1) (by simp [noU])
            refine wpAnyH_ready (rs := [8]) (by kernel_rfl) (by simp) ?_
            refine AllReadyH.cons rfl (fun K hK => ?_) AllReadyH.nil
            have x0 := g1.cell 0
            have x1 := g1.cell 1
            have x2 := g1.frozen
            go_simp
            rw [← eu]
            replace hX := kb _ _ _ hX (by omega)
            replace hY := kb _ _ _ hY (by omega)
            replace hM := kb _ _ _ hM (by omega)
            replace g2 := kb _ _ _ g2 (by omega)
            replace r1 := kz _ _ r1
            replace r2 := kz _ _ r2
            replace hB := kB _ _ q1 hB
            replace g1 := g1'
            clear g1' kz kb kB eu x0 x1 x2
            refine hK.out _ _ ?_ (fun hHeld => ?_)
            · exact hM.cells2
            clear hK K
            try simp only [Act.put, lay1, lay2, lay3, lay4, lay5, lay6]
            obtain ⟨u10, eu, g2', kz, kb, kB⟩ := put_zed g2 (.bool pd) (.slice A2 L2 C2) (by simp [noU])
            refine wpAnyH_ready (rs := [9]) (by kernel_rfl) (by simp) ?_
            refine AllReadyH.cons rfl (fun K hK => ?_) AllReadyH.nil
            have x0 := g2.cell 0
            have x1 := g2.cell 1
            have x2 := g2.frozen
            go_simp
            rw [← eu]
            replace hX := kb _ _ _ hX (by omega)
            replace hY := kb _ _ _ hY (by omega)
            replace hM := kb _ _ _ hM (by omega)
            replace g1 := kb _ _ _ g1 (by omega)
            replace r1 := kz _ _ r1
            replace r2 := kz _ _ r2
            replace hB := kB _ _ q2 hB
            replace g2 := g2'
            clear g2' kz kb kB eu x0 x1 x2
            refine hK.out _ _ ?_ (fun hHeld => ?_)
            · exact hM.cells2
            clear hK K
            try simp only [Act.put, lay1, lay2, lay3, lay4, lay5, lay6]
            refine wpAnyH_done (by kernel_rfl) ?_ _
            dsimp only [OnlyN]
            exact ⟨n1, n2, A1, L1, C1, A2, L2, C2, rfl, g1, g2, r1, r2, hB, dd, o1, o2, hX, hY, hM⟩
      · obtain ⟨u11, eu, g1, b11⟩ := box1 u1 25 #[.bool false, .slice none 0 0]
        obtain ⟨n1, en⟩ : ∃ X, X = u1.heap.size := ⟨_, rfl⟩
        rw [← en] at g1
        have o1 : g + 1 + 1 < n1 := by rw [en]; exact hM.lt
        have q1 : w.heap.size ≤ n1 := by rw [en]; exact hB.size
        have EU := Lib.hid (And.intro eu en)
        clear eu en
        go_simp
        rw [← EU.out.1, ← EU.out.2]
        replace hB := hB.trans (b11.mono hB.size)
        replace r1 := r1.below b11
        replace hX := hX.below b11 hX.lt
        replace hY := hY.below b11 hY.lt
        replace hM := hM.below b11 hM.lt
        refine hK.out _ _ ?_ (fun hHeld => ?_)
        · exact hM.cells2
        clear hK K
        try simp only [Act.put, lay1, lay2, lay3, lay4, lay5, lay6]
        refine wpAnyH_ready (rs := [5, 7]) (by kernel_rfl) (by simp) ?_
        refine AllReadyH.cons rfl (fun K hK => ?_) (AllReadyH.cons rfl (fun K hK => ?_) AllReadyH.nil)
        · go_simp
          refine (hO1 _).mono ?_
          rintro e u12 ⟨A2, L2, C2, rfl, r2, b12⟩
          replace hB := hB.trans (b12.mono hB.size)
          replace r1 := r1.below b12
          replace hX := hX.below b12 hX.lt
          replace hY := hY.below b12 hY.lt
          replace hM := hM.below b12 hM.lt
          replace g1 := g1.below b12 g1.lt
          go_wp2_with fail
          refine hK.out _ _ ?_ (fun hHeld => ?_)
          · exact hM.cells2
          clear hK K
          try simp only [Act.put, lay1, lay2, lay3, lay4, lay5, lay6]
          refine wpAnyH_ready (rs := [7]) (by kernel_rfl) (by simp) ?_
          refine AllReadyH.cons rfl (fun K hK => ?_) AllReadyH.nil
          · obtain ⟨u13, eu, g2, b13⟩ := box1 u12 25 #[.bool false, .slice none 0 0]
            obtain ⟨n2, en⟩ : ∃ X, X = u12.heap.size := ⟨_, rfl⟩
            rw [← en] at g2
            have o2 : g + 1 + 1 < n2 := by rw [en]; exact hM.lt
            have q2 : w.heap.size ≤ n2 := by rw [en]; exact hB.size
            have dd : n1 ≠ n2 := by have := g1.lt; omega
            have EU := Lib.hid (And.intro eu en)
            clear eu en
            go_simp
            rw [← EU.out.1, ← EU.out.2]
            replace hB := hB.trans (b13.mono hB.size)
            replace r1 := r1.below b13
            replace r2 := r2.below b13
            replace hX := hX.below b13 hX.lt
            replace hY := hY.below b13 hY.lt
            replace hM := hM.below b13 hM.lt
            replace g1 := g1.below b13 g1.lt
            refine hK.out _ _ ?_ (fun hHeld => ?_)
            · exact hM.cells2
            clear hK K
            try simp only [Act.put, lay1, lay2, lay3, lay4, lay5, lay6]
            obtain ⟨u14, eu, g1', kz, kb, kB⟩ := put_zed g1 (.bool pc) (.slice A1 L1 C1) (by simp [noU])
            refine wpAnyH_ready (rs := [8]) (by kernel_rfl) (by simp) ?_
            refine AllReadyH.cons rfl (fun K hK => ?_) AllReadyH.nil
            have x0 := g1.cell 0
            have x1 := g1.cell 1
            have x2 := g1.frozen
            go_simp
            rw [← eu]
            replace hX := kb _ _ _ hX (by omega)
            replace hY := kb _ _ _ hY (by omega)
            replace hM := kb _ _ _ hM (by omega)
            replace g2 := kb _ _ _ g2 (by omega)
            replace r1 := kz _ _ r1
            replace r2 := kz _ _ r2
            replace hB := kB _ _ q1 hB
            replace g1 := g1'
            clear g1' kz kb kB eu x0 x1 x2
            refine hK.out _ _ ?_ (fun hHeld => ?_)
            · exact hM.cells2
            clear hK K
            try simp only [Act.put, lay1, lay2, lay3, lay4, lay5, lay6]
            obtain ⟨u15, eu, g2', kz, kb, kB⟩ := put_zed g2 (.bool pd) (.slice A2 L2 C2) (by simp [noU])
            refine wpAnyH_ready (rs := [9]) (by kernel_rfl) (by simp) ?_
            refine AllReadyH.cons rfl (fun K hK => ?_) AllReadyH.nil
            have x0 := g2.cell 0
            have x1 := g2.cell 1
            have x2 := g2.frozen
            go_simp
            rw [← eu]
            replace hX := kb _ _ _ hX (by omega)
            replace hY := kb _ _ _ hY (by omega)
            replace hM := kb _ _ _ hM (by omega)
            replace g1 := kb _ _ _ g1 (by omega)
            replace r1 := kz _ _ r1
            replace r2 := kz _ _ r2
            replace hB := kB _ _ q2 hB
            replace g2 := g2'
            clear g2' kz kb kB eu x0 x1 x2
            refine hK.out _ _ ?_ (fun hHeld => ?_)
            · exact hM.cells2
            clear hK K
            try simp only [Act.put, lay1, lay2, lay3, lay4, lay5, lay6]
            refine wpAnyH_done (by kernel_rfl) ?_ _
            dsimp only [OnlyN]
            exact ⟨n1, n2, A1, L1, C1, A2, L2, C2, rfl, g1, g2, r1, r2, hB, dd, o1, o2, hX, hY, hM⟩
        · obtain ⟨u16, eu, g2, b16⟩ := box1 u11 25 #[.bool false, .slice none 0 0]
          obtain ⟨n2, en⟩ : ∃ X, X = u11.heap.size := ⟨_, rfl⟩
          rw [← en] at g2
          have o2 : g + 1 + 1 < n2 := by rw [en]; exact hM.lt
          have q2 : w.heap.size ≤ n2 := by rw [en]; exact hB.size
          have dd : n1 ≠ n2 := by have := g1.lt; omega
          have EU := Lib.hid (And.intro eu en)
          clear eu en
          go_simp
          rw [← EU.out.1, ← EU.out.2]
          replace hB := hB.trans (b16.mono hB.size)
          replace r1 := r1.below b16
          replace hX := hX.below b16 hX.lt
          replace hY := hY.below b16 hY.lt
          replace hM := hM.below b16 hM.lt
          replace g1 := g1.below b16 g1.lt
          refine hK.out _ _ ?_ (fun hHeld => ?_)
          · exact hM.cells2
          clear hK K
          try simp only [Act.put, lay1, lay2, lay3, lay4, lay5, lay6]
          refine wpAnyH_ready (rs := [5]) (by kernel_rfl) (by simp) ?_
          refine AllReadyH.cons rfl (fun K hK => ?_) AllReadyH.nil
          · go_simp
            refine (hO1 _).mono ?_
            rintro e u17 ⟨A2, L2, C2, rfl, r2, b17⟩
            replace hB := hB.trans (b17.mono hB.size)
            replace r1 := r1.below b17
            replace hX := hX.below b17 hX.lt
            replace hY := hY.below b17 hY.lt
            replace hM := hM.below b17 hM.lt
            replace g1 := g1.below b17 g1.lt
            replace g2 := g2.below b17 g2.lt
            go_wp2_with fail
            refine hK.out _ _ ?_ (fun hHeld => ?_)
            · exact hM.cells2
            clear hK K
            try simp only [Act.put, lay1, lay2, lay3, lay4, lay5, lay6]
            obtain ⟨u18, eu, g1', kz, kb, kB⟩ := put_zed g1 (.bool pc) (.slice A1 L1 C1) (by simp [noU])
            refine wpAnyH_ready (rs := [8]) (by kernel_rfl) (by simp) ?_
            refine AllReadyH.cons rfl (fun K hK => ?_) AllReadyH.nil
            have x0 := g1.cell 0
            have x1 := g1.cell 1
            have x2 := g1.frozen
            go_simp
            rw [← eu]
            replace hX := kb _ _ _ hX (by omega)
            replace hY := kb _ _ _ hY (by omega)
            replace hM := kb _ _ _ hM (by omega)
            replace g2 := kb _ _ _ g2 (by omega)
            replace r1 := kz _ _ r1
            replace r2 := kz _ _ r2
            replace hB := kB _ _ q1 hB
            replace g1 := g1'
            clear g1' kz kb kB eu x0 x1 x2
            refine hK.out _ _ ?_ (fun hHeld => ?_)
            · exact hM.cells2
            clear hK K
            try simp only [Act.put, lay1, lay2, lay3, lay4, lay5, lay6]
            obtain ⟨u19, eu, g2', kz, kb, kB⟩ := put_zed g2 (.bool pd) (.slice A2 L2 C2) (by simp [noU])
            refine wpAnyH_ready (rs := [9]) (by kernel_rfl) (by simp) ?_
            refine AllReadyH.cons rfl (fun K hK => ?_) AllReadyH.nil
            have x0 := g2.cell 0
            have x1 := g2.cell 1
            have x2 := g2.frozen
            go_simp
            rw [← eu]
            replace hX := kb _ _ _ hX (by omega)
            replace hY := kb _ _ _ hY (by omega)
            replace hM := kb _ _ _ hM (by omega)
            replace g1 := kb _ _ _ g1 (by omega)
            replace r1 := kz _ _ r1
            replace r2 := kz _ _ r2
            replace hB := kB _ _ q2 hB
            replace g2 := g2'
            clear g2' kz kb kB eu x0 x1 x2
            refine hK.out _ _ ?_ (fun hHeld => ?_)
            · exact hM.cells2
            clear hK K
            try simp only [Act.put, lay1, lay2, lay3, lay4, lay5, lay6]
            refine wpAnyH_done (by kernel_rfl) ?_ _
            dsimp only [OnlyN]
            exact ⟨n1, n2, A1, L1, C1, A2, L2, C2, rfl, g1, g2, r1, r2, hB, dd, o1, o2, hX, hY, hM⟩
      · obtain ⟨u20, eu, g2, b20⟩ := box1 u1 25 #[.bool false, .slice none 0 0]
        obtain ⟨n2, en⟩ : ∃ X, X = u1.heap.size := ⟨_, rfl⟩
        rw [← en] at g2
        have o2 : g + 1 + 1 < n2 := by rw [en]; exact hM.lt
        have q2 : w.heap.size ≤ n2 := by rw [en]; exact hB.size
        have EU := Lib.hid (And.intro eu en)
        clear eu en
        go_simp
        rw [← EU.out.1, ← EU.out.2]
        replace hB := hB.trans (b20.mono hB.size)
        replace r1 := r1.below b20
        replace hX := hX.below b20 hX.lt
        replace hY := hY.below b20 hY.lt
        replace hM := hM.below b20 hM.lt
        refine hK.out _ _ ?_ (fun hHeld => ?_)
        · exact hM.cells2
        clear hK K
        try simp only [Act.put, lay1, lay2, lay3, lay4, lay5, lay6]
        refine wpAnyH_ready (rs := [5, 6]) (by kernel_rfl) (by simp) ?_
        refine AllReadyH.cons rfl (fun K hK => ?_) (AllReadyH.cons rfl (fun K hK => ?_) AllReadyH.nil)
        · go_simp
          refine (hO1 _).mono ?_
          rintro e u21 ⟨A2, L2, C2, rfl, r2, b21⟩
          replace hB := hB.trans (b21.mono hB.size)
          replace r1 := r1.below b21
          replace hX := hX.below b21 hX.lt
          replace hY := hY.below b21 hY.lt
          replace hM := hM.below b21 hM.lt
          replace g2 := g2.below b21 g2.lt
          go_wp2_with fail
          refine hK.out _ _ ?_ (fun hHeld => ?_)
          · exact hM.cells2
          clear hK K
          try simp only [Act.put, lay1, lay2, lay3, lay4, lay5, lay6]
          refine wpAnyH_ready (rs := [6]) (by kernel_rfl) (by simp) ?_
          refine AllReadyH.cons rfl (fun K hK => ?_) AllReadyH.nil
          · obtain ⟨u22, eu, g1, b22⟩ := box1 u21 25 #[.bool false, .slice none 0 0]
            obtain ⟨n1, en⟩ : ∃ X, X = u21.heap.size := ⟨_, rfl⟩
            rw [← en] at g1
            have o1 : g + 1 + 1 < n1 := by rw [en]; exact hM.lt
            have q1 : w.heap.size ≤ n1 := by rw [en]; exact hB.size
            have dd : n1 ≠ n2 := by have := g2.lt; omega
            have EU := Lib.hid (And.intro eu en)
            clear eu en
            go_simp
            rw [← EU.out.1, ← EU.out.2]
            replace hB := hB.trans (b22.mono hB.size)
            replace r1 := r1.below b22
            replace r2 := r2.below b22
            replace hX := hX.below b22 hX.lt
            replace hY := hY.below b22 hY.lt
            replace hM := hM.below b22 hM.lt
            replace g2 := g2.below b22 g2.lt
            refine hK.out _ _ ?_ (fun hHeld => ?_)
            · exact hM.cells2
            clear hK K
            try simp only [Act.put, lay1, lay2, lay3, lay4, lay5, lay6]
            obtain ⟨u23, eu, g1', kz, kb, kB⟩ := put_zed g1 (.bool pc) (.slice A1 L1 C1) (by simp [noU])
            refine wpAnyH_ready (rs := [8]) (by kernel_rfl) (by simp) ?_
            refine AllReadyH.cons rfl (fun K hK => ?_) AllReadyH.nil
            have x0 := g1.cell 0
            have x1 := g1.cell 1
            have x2 := g1.frozen
            go_simp
            rw [← eu]
            replace hX := kb _ _ _ hX (by omega)
            replace hY := kb _ _ _ hY (by omega)
            replace hM := kb _ _ _ hM (by omega)
            replace g2 := kb _ _ _ g2 (by omega)
            replace r1 := kz _ _ r1
            replace r2 := kz _ _ r2
            replace hB := kB _ _ q1 hB
            replace g1 := g1'
            clear g1' kz kb kB eu x0 x1 x2
            refine hK.out _ _ ?_ (fun hHeld => ?_)
            · exact hM.cells2
            clear hK K
            try simp only [Act.put, lay1, lay2, lay3, lay4, lay5, lay6]
            obtain ⟨u24, eu, g2', kz, kb, kB⟩ := put_zed g2 (.bool pd) (.slice A2 L2 C2) (by simp [noU])
            refine wpAnyH_ready (rs := [9]) (by kernel_rfl) (by simp) ?_
            refine AllReadyH.cons rfl (fun K hK => ?_) AllReadyH.nil
            have x0 := g2.cell 0
            have x1 := g2.cell 1
            have x2 := g2.frozen
            go_simp
            rw [← eu]
            replace hX := kb _ _ _ hX (by omega)
            replace hY := kb _ _ _ hY (by omega)
            replace hM := kb _ _ _ hM (by omega)
            replace g1 := kb _ _ _ g1 (by omega)
            replace r1 := kz _ _ r1
            replace r2 := kz _ _ r2
            replace hB := kB _ _ q2 hB
            replace g2 := g2'
            clear g2' kz kb kB eu x0 x1 x2
            refine hK.out _ _ ?_ (fun hHeld => ?_)
            · exact hM.cells2
            clear hK K
            try simp only [Act.put, lay1, lay2, lay3, lay4, lay5, lay6]
            refine wpAnyH_done (by kernel_rfl) ?_ _
            dsimp only [OnlyN]
            exact ⟨n1, n2, A1, L1, C1, A2, L2, C2, rfl, g1, g2, r1, r2, hB, dd, o1, o2, hX, hY, hM⟩
        · obtain ⟨u25, eu, g1, b25⟩ := box1 u20 25 #[.bool false, .slice none 0 0]
          obtain ⟨n1, en⟩ : ∃ X, X = u20.heap.size := ⟨_, rfl⟩
          rw [← en] at g1
          have o1 : g + 1 + 1 < n1 := by rw [en]; exact hM.lt
          have q1 : w.heap.size ≤ n1 := by rw [en]; exact hB.size
          have dd : n1 ≠ n2 := by have := g2.lt; omega
          have EU := Lib.hid (And.intro eu en)
          clear eu en
          go_simp
          rw [← EU.out.1, ← EU.out.2]
          replace hB := hB.trans (b25.mono hB.size)
          replace r1 := r1.below b25
          replace hX := hX.below b25 hX.lt
          replace hY := hY.below b25 hY.lt
          replace hM := hM.below b25 hM.lt
          replace g2 := g2.below b25 g2.lt
          refine hK.out _ _ ?_ (fun hHeld => ?_)
          · exact hM.cells2
          clear hK K
          try simp only [Act.put, lay1, lay2, lay3, lay4, lay5, lay6]
          refine wpAnyH_ready (rs := [5]) (by kernel_rfl) (by simp) ?_
          refine AllReadyH.cons rfl (fun K hK => ?_) AllReadyH.nil
          · go_simp
            refine (hO1 _).mono ?_
            rintro e u26 ⟨A2, L2, C2, rfl, r2, b26⟩
            replace hB := hB.trans (b26.mono hB.size)
            replace r1 := r1.below b26
            replace hX := hX.below b26 hX.lt
            replace hY := hY.below b26 hY.lt
            replace hM := hM.below b26 hM.lt
            replace g1 := g1.below b26 g1.lt
            replace g2 := g2.below b26 g2.lt
            go_wp2_with fail
            refine hK.out _ _ ?_ (fun hHeld => ?_)
            · exact hM.cells2
            clear hK K
            try simp only [Act.put, lay1, lay2, lay3, lay4, lay5, lay6]
            obtain ⟨u27, eu, g1', kz, kb, kB⟩ := put_zed g1 (.bool pc) (.slice A1 L1 C1) (by simp [noU])
            refine wpAnyH_ready (rs := [8]) (by kernel_rfl) (by simp) ?_
            refine AllReadyH.cons rfl (fun K hK => ?_) AllReadyH.nil
            have x0 := g1.cell 0
            have x1 := g1.cell 1
            have x2 := g1.frozen
            go_simp
            rw [← eu]
            replace hX := kb _ _ _ hX (by omega)
            replace hY := kb _ _ _ hY (by omega)
            replace hM := kb _ _ _ hM (by omega)
            replace g2 := kb _ _ _ g2 (by omega)
            replace r1 := kz _ _ r1
            replace r2 := kz _ _ r2
            replace hB := kB _ _ q1 hB
            replace g1 := g1'
            clear g1' kz kb kB eu x0 x1 x2
            refine hK.out _ _ ?_ (fun hHeld => ?_)
            · exact hM.cells2
            clear hK K
            try simp only [Act.put, lay1, lay2, lay3, lay4, lay5, lay6]
            obtain ⟨u28, eu, g2', kz, kb, kB⟩ := put_zed g2 (.bool pd) (.slice A2 L2 C2) (by simp [noU])
            refine wpAnyH_ready (rs := [9]) (by kernel_rfl) (by simp) ?_
            refine AllReadyH.cons rfl (fun K hK => ?_) AllReadyH.nil
            have x0 := g2.cell 0
            have x1 := g2.cell 1
            have x2 := g2.frozen
            go_simp
            rw [← eu]
            replace hX := kb _ _ _ hX (by omega)
            replace hY := kb _ _ _ hY (by omega)
            replace hM := kb _ _ _ hM (by omega)
            replace g1 := kb _ _ _ g1 (by omega)
            replace r1 := kz _ _ r1
            replace r2 := kz _ _ r2
            replace hB := kB _ _ q2 hB
            replace g2 := g2'
            clear g2' kz kb kB eu x0 x1 x2
            refine hK.out _ _ ?_ (fun hHeld => ?_)
            · exact hM.cells2
            clear hK K
            try simp only [Act.put, lay1, lay2, lay3, lay4, lay5, lay6]
            refine wpAnyH_done (by kernel_rfl) ?_ _
            dsimp only [OnlyN]
            exact ⟨n1, n2, A1, L1, C1, A2, L2, C2, rfl, g1, g2, r1, r2, hB, dd, o1, o2, hX, hY, hM⟩
    · obtain ⟨u29, eu, g1, b29⟩ := box1 wd 25 #[.bool false, .slice none 0 0]
      obtain ⟨n1, en⟩ : ∃ X, X = wd.heap.size := ⟨_, rfl⟩
      rw [← en] at g1
      have o1 : g + 1 + 1 < n1 := by rw [en]; exact hM.lt
      have q1 : w.heap.size ≤ n1 := by rw [en]; exact hB.size
      have EU := Lib.hid (And.intro eu en)
      clear eu en
      go_simp
      rw [← EU.out.1, ← EU.out.2]
      replace hB := hB.trans (b29.mono hB.size)
      replace hX := hX.below b29 hX.lt
      replace hY := hY.below b29 hY.lt
      replace hM := hM.below b29 hM.lt
      refine hK.out _ _ ?_ (fun hHeld => ?_)
      · exact hM.cells2
      clear hK K
      try simp only [Act.put, lay1, lay2, lay3, lay4, lay5, lay6]
      refine wpAnyH_ready (rs := [2, 7]) (by kernel_rfl) (by simp) ?_
      refine AllReadyH.cons rfl (fun K hK => ?_) (AllReadyH.cons rfl (fun K hK => ?_) AllReadyH.nil)
      · go_simp
        refine (hO0 _).mono ?_
        rintro e u30 ⟨A1, L1, C1, rfl, r1, b30⟩
        replace hB := hB.trans (b30.mono hB.size)
        replace hX := hX.below b30 hX.lt
        replace hY := hY.below b30 hY.lt
        replace hM := hM.below b30 hM.lt
        replace g1 := g1.below b30 g1.lt
        go_wp2_with fail
        refine hK.out _ _ ?_ (fun hHeld => ?_)
        · exact hM.cells2
        clear hK K
        try simp only [Act.put, lay1, lay2, lay3, lay4, lay5, lay6]
        refine wpAnyH_ready (rs := [5, 7]) (by kernel_rfl) (by simp) ?_
        refine AllReadyH.cons rfl (fun K hK => ?_) (AllReadyH.cons rfl (fun K hK => ?_) AllReadyH.nil)
        · go_simp
          refine (hO1 _).mono ?_
          rintro e u31 ⟨A2, L2, C2, rfl, r2, b31⟩
          replace hB := hB.trans (b31.mono hB.size)
          replace r1 := r1.below b31
          replace hX := hX.below b31 hX.lt
          replace hY := hY.below b31 hY.lt
          replace hM := hM.below b31 hM.lt
          replace g1 := g1.below b31 g1.lt
          go_wp2_with fail
          refine hK.out _ _ ?_ (fun hHeld => ?_)
          · exact hM.cells2
          clear hK K
          try simp only [Act.put, lay1, lay2, lay3, lay4, lay5, lay6]
          refine wpAnyH_ready (rs := [7]) (by kernel_rfl) (by simp) ?_
          refine AllReadyH.cons rfl (fun K hK => ?_) AllReadyH.nil
          · obtain ⟨u32, eu, g2, b32⟩ := box1 u31 25 #[.bool false, .slice none 0 0]
            obtain ⟨n2, en⟩ : ∃ X, X = u31.heap.size := ⟨_, rfl⟩
            rw [← en] at g2
            have o2 : g + 1 + 1 < n2 := by rw [en]; exact hM.lt
            have q2 : w.heap.size ≤ n2 := by rw [en]; exact hB.size
            have dd : n1 ≠ n2 := by have := g1.lt; omega
            have EU := Lib.hid (And.intro eu en)
            clear eu en
            go_simp
            rw [← EU.out.1, ← EU.out.2]
            replace hB := hB.trans (b32.mono hB.size)
            replace r1 := r1.below b32
            replace r2 := r2.below b32
            replace hX := hX.below b32 hX.lt
            replace hY := hY.below b32 hY.lt
            replace hM := hM.below b32 hM.lt
            replace g1 := g1.below b32 g1.lt
            refine hK.out _ _ ?_ (fun hHeld => ?_)
            · exact hM.cells2
            clear hK K
            try simp only [Act.put, lay1, lay2, lay3, lay4, lay5, lay6]
            obtain ⟨u33, eu, g1', kz, kb, kB⟩ := put_zed g1 (.bool pc) (.slice A1 L1 C1) (by simp [noU])
            refine wpAnyH_ready (rs := [8]) (by kernel_rfl) (by simp) ?_
            refine AllReadyH.cons rfl (fun K hK => ?_) AllReadyH.nil
            have x0 := g1.cell 0
            have x1 := g1.cell 1
            have x2 := g1.frozen
            go_simp
            rw [← eu]
            replace hX := kb _ _ _ hX (by omega)
            replace hY := kb _ _ _ hY (by omega)
            replace hM := kb _ _ _ hM (by omega)
            replace g2 := kb _ _ _ g2 (by omega)
            replace r1 := kz _ _ r1
            replace r2 := kz _ _ r2
            replace hB := kB _ _ q1 hB
            replace g1 := g1'
            clear g1' kz kb kB eu x0 x1 x2
            refine hK.out _ _ ?_ (fun hHeld => ?_)
            · exact hM.cells2
            clear hK K
            try simp only [Act.put, lay1, lay2, lay3, lay4, lay5, lay6]
            obtain ⟨u34, eu, g2', kz, kb, kB⟩ := put_zed g2 (.bool pd) (.slice A2 L2 C2) (by simp [noU])
            refine wpAnyH_ready (rs := [9]) (by kernel_rfl) (by simp) ?_
            refine AllReadyH.cons rfl (fun K hK => ?_) AllReadyH.nil
            have x0 := g2.cell 0
            have x1 := g2.cell 1
            have x2 := g2.frozen
            go_simp
            rw [← eu]
            replace hX := kb _ _ _ hX (by omega)
            replace hY := kb _ _ _ hY (by omega)
            replace hM := kb _ _ _ hM (by omega)
            replace g1 := kb _ _ _ g1 (by omega)
            replace r1 := kz _ _ r1
            replace r2 := kz _ _ r2
            replace hB := kB _ _ q2 hB
            replace g2 := g2'
            clear g2' kz kb kB eu x0 x1 x2
            refine hK.out _ _ ?_ (fun hHeld => ?_)
            · exact hM.cells2
            clear hK K
            try simp only [Act.put, lay1, lay2, lay3, lay4, lay5, lay6]
            refine wpAnyH_done (by kernel_rfl) ?_ _
            dsimp only [OnlyN]
            exact ⟨n1, n2, A1, L1, C1, A2, L2, C2, rfl, g1, g2, r1, r2, hB, dd, o1, o2, hX, hY, hM⟩
        · obtain ⟨u35, eu, g2, b35⟩ := box1 u30 25 #[.bool false, .slice none 0 0]
          obtain ⟨n2, en⟩ : ∃ X, X = u30.heap.size := ⟨_, rfl⟩
          rw [← en] at g2
          have o2 : g + 1 + 1 < n2 := by rw [en]; exact hM.lt
          have q2 : w.heap.size ≤ n2 := by rw [en]; exact hB.size
          have dd : n1 ≠ n2 := by have := g1.lt; omega
          have EU := Lib.hid (And.intro eu en)
          clear eu en
          go_simp
          rw [← EU.out.1, ← EU.out.2]
          replace hB := hB.trans (b35.mono hB.size)
          replace r1 := r1.below b35
          replace hX := hX.below b35 hX.lt
          replace hY := hY.below b35 hY.lt
          replace hM := hM.below b35 hM.lt
          replace g1 := g1.below b35 g1.lt
          refine hK.out _ _ ?_ (fun hHeld => ?_)
          · exact hM.cells2
          clear hK K
          try simp only [Act.put, lay1, lay2, lay3, lay4, lay5, lay6]
          refine wpAnyH_ready (rs := [5]) (by kernel_rfl) (by simp) ?_
          refine AllReadyH.cons rfl (fun K hK => ?_) AllReadyH.nil
          · go_simp
            refine (hO1 _).mono ?_
            rintro e u36 ⟨A2, L2, C2, rfl, r2, b36⟩
            replace hB := hB.trans (b36.mono hB.size)
            replace r1 := r1.below b36
            replace hX := hX.below b36 hX.lt
            replace hY := hY.below b36 hY.lt
            replace hM := hM.below b36 hM.lt
            replace g1 := g1.below b36 g1.lt
            replace g2 := g2.below b36 g2.lt
            go_wp2_with fail
            refine hK.out _ _ ?_ (fun hHeld => ?_)
            · exact hM.cells2
            clear hK K
            try simp only [Act.put, lay1, lay2, lay3, lay4, lay5, lay6]
            obtain ⟨u37, eu, g1', kz, kb, kB⟩ := put_zed g1 (.bool pc) (.slice A1 L1 C1) (by simp [noU])
            refine wpAnyH_ready (rs := [8]) (by kernel_rfl) (by simp) ?_
            refine AllReadyH.cons rfl (fun K hK => ?_) AllReadyH.nil
            have x0 := g1.cell 0
            have x1 := g1.cell 1
            have x2 := g1.frozen
            go_simp
            rw [← eu]
            replace hX := kb _ _ _ hX (by omega)
            replace hY := kb _ _ _ hY (by omega)
            replace hM := kb _ _ _ hM (by omega)
            replace g2 := kb _ _ _ g2 (by omega)
            replace r1 := kz _ _ r1
            replace r2 := kz _ _ r2
            replace hB := kB _ _ q1 hB
            replace g1 := g1'
            clear g1' kz kb kB eu x0 x1 x2
            refine hK.out _ _ ?_ (fun hHeld => ?_)
            · exact hM.cells2
            clear hK K
            try simp only [Act.put, lay1, lay2, lay3, lay4, lay5, lay6]
            obtain ⟨u38, eu, g2', kz, kb, kB⟩ := put_zed g2 (.bool pd) (.slice A2 L2 C2) (by simp [noU])
            refine wpAnyH_ready (rs := [9]) (by kernel_rfl) (by simp) ?_
            refine AllReadyH.cons rfl (fun K hK => ?_) AllReadyH.nil
            have x0 := g2.cell 0
            have x1 := g2.cell 1
            have x2 := g2.frozen
            go_simp
            rw [← eu]
            replace hX := kb _ _ _ hX (by omega)
            replace hY := kb _ _ _ hY (by omega)
            replace hM := kb _ _ _ hM (by omega)
            replace g1 := kb _ _ _ g1 (by omega)
            replace r1 := kz _ _ r1
            replace r2 := kz _ _ r2
            replace hB := kB _ _ q2 hB
            replace g2 := g2'
            clear g2' kz kb kB eu x0 x1 x2
            refine hK.out _ _ ?_ (fun hHeld => ?_)
            · exact hM.cells2
            clear hK K
            try simp only [Act.put, lay1, lay2, lay3, lay4, lay5, lay6]
            refine wpAnyH_done (by kernel_rfl) ?_ _
            dsimp only [OnlyN]
            exact ⟨n1, n2, A1, L1, C1, A2, L2, C2, rfl, g1, g2, r1, r2, hB, dd, o1, o2, hX, hY, hM⟩
      · obtain ⟨u39, eu, g2, b39⟩ := box1 u29 25 #[.bool false, .slice none 0 0]
        obtain ⟨n2, en⟩ : ∃ X, X = u29.heap.size := ⟨_, rfl⟩
        rw [← en] at g2
        have o2 : g + 1 + 1 < n2 := by rw [en]; exact hM.lt
        have q2 : w.heap.size ≤ n2 := by rw [en]; exact hB.size
        have dd : n1 ≠ n2 := by have := g1.lt; omega
        have EU := Lib.hid (And.intro eu en)
        clear eu en
        go_simp
        rw [← EU.out.1, ← EU.out.2]
        replace hB := hB.trans (b39.mono hB.size)
        replace hX := hX.below b39 hX.lt
        replace hY := hY.below b39 hY.lt
        replace hM := hM.below b39 hM.lt
        replace g1 := g1.below b39 g1.lt
        refine hK.out _ _ ?_ (fun hHeld => ?_)
        · exact hM.cells2
        clear hK K
        try simp only [Act.put, lay1, lay2, lay3, lay4, lay5, lay6]
        refine wpAnyH_ready (rs := [2]) (by kernel_rfl) (by simp) ?_
        refine AllReadyH.cons rfl (fun K hK => ?_) AllReadyH.nil
        · go_simp
          refine (hO0 _).mono ?_
          rintro e u40 ⟨A1, L1, C1, rfl, r1, b40⟩
          replace hB := hB.trans (b40.mono hB.size)
          replace hX := hX.below b40 hX.lt
          replace hY := hY.below b40 hY.lt
          replace hM := hM.below b40 hM.lt
          replace g1 := g1.below b40 g1.lt
          replace g2 := g2.below b40 g2.lt
          go_wp2_with fail
          refine hK.out _ _ ?_ (fun hHeld => ?_)
          · exact hM.cells2
          clear hK K
          try simp only [Act.put, lay1, lay2, lay3, lay4, lay5, lay6]
          refine wpAnyH_ready (rs := [5]) (by kernel_rfl) (by simp) ?_
          refine AllReadyH.cons rfl (fun K hK => ?_) AllReadyH.nil
          · go_simp
            refine (hO1 _).mono ?_
            rintro e u41 ⟨A2, L2, C2, rfl, r2, b41⟩
            replace hB := hB.trans (b41.mono hB.size)
            replace r1 := r1.below b41
            replace hX := hX.below b41 hX.lt
            replace hY := hY.below b41 hY.lt
            replace hM := hM.below b41 hM.lt
            replace g1 := g1.below b41 g1.lt
            replace g2 := g2.below b41 g2.lt
            go_wp2_with fail
            refine hK.out _ _ ?_ (fun hHeld => ?_)
            · exact hM.cells2
            clear hK K
            try simp only [Act.put, lay1, lay2, lay3, lay4, lay5, lay6]
            obtain ⟨u42, eu, g1', kz, kb, kB⟩ := put_zed g1 (.bool pc) (.slice A1 L1 C1) (by simp [noU])
            refine wpAnyH_ready (rs := [8]) (by kernel_rfl) (by simp) ?_
            refine AllReadyH.cons rfl (fun K hK => ?_) AllReadyH.nil
            have x0 := g1.cell 0
            have x1 := g1.cell 1
            have x2 := g1.frozen
            go_simp
            rw [← eu]
            replace hX := kb _ _ _ hX (by omega)
            replace hY := kb _ _ _ hY (by omega)
            replace hM := kb _ _ _ hM (by omega)
            replace g2 := kb _ _ _ g2 (by omega)
            replace r1 := kz _ _ r1
            replace r2 := kz _ _ r2
            replace hB := kB _ _ q1 hB
            replace g1 := g1'
            clear g1' kz kb kB eu x0 x1 x2
            refine hK.out _ _ ?_ (fun hHeld => ?_)
            · exact hM.cells2
            clear hK K
            try simp only [Act.put, lay1, lay2, lay3, lay4, lay5, lay6]
            obtain ⟨u43, eu, g2', kz, kb, kB⟩ := put_zed g2 (.bool pd) (.slice A2 L2 C2) (by simp [noU])
            refine wpAnyH_ready (rs := [9]) (by kernel_rfl) (by simp) ?_
            refine AllReadyH.cons rfl (fun K hK => ?_) AllReadyH.nil
            have x0 := g2.cell 0
            have x1 := g2.cell 1
            have x2 := g2.frozen
            go_simp
            rw [← eu]
            replace hX := kb _ _ _ hX (by omega)
            replace hY := kb _ _ _ hY (by omega)
            replace hM := kb _ _ _ hM (by omega)
            replace g1 := kb _ _ _ g1 (by omega)
            replace r1 := kz _ _ r1
            replace r2 := kz _ _ r2
            replace hB := kB _ _ q2 hB
            replace g2 := g2'
            clear g2' kz kb kB eu x0 x1 x2
            refine hK.out _ _ ?_ (fun hHeld => ?_)
            · exact hM.cells2
            clear hK K
            try simp only [Act.put, lay1, lay2, lay3, lay4, lay5, lay6]
            refine wpAnyH_done (by kernel_rfl) ?_ _
            dsimp only [OnlyN]
            exact ⟨n1, n2, A1, L1, C1, A2, L2, C2, rfl, g1, g2, r1, r2, hB, dd, o1, o2, hX, hY, hM⟩
    · obtain ⟨u44, eu, g2, b44⟩ := box1 wd 25 #[.bool false, .slice none 0 0]
      obtain ⟨n2, en⟩ : ∃ X, X = wd.heap.size := ⟨_, rfl⟩
      rw [← en] at g2
      have o2 : g + 1 + 1 < n2 := by rw [en]; exact hM.lt
      have q2 : w.heap.size ≤ n2 := by rw [en]; exact hB.size
      have EU := Lib.hid (And.intro eu en)
      clear eu en
      go_simp
      rw [← EU.out.1, ← EU.out.2]
      replace hB := hB.trans (b44.mono hB.size)
      replace hX := hX.below b44 hX.lt
      replace hY := hY.below b44 hY.lt
      replace hM := hM.below b44 hM.lt
      refine hK.out _ _ ?_ (fun hHeld => ?_)
      · exact hM.cells2
      clear hK K
      try simp only [Act.put, lay1, lay2, lay3, lay4, lay5, lay6]
      refine wpAnyH_ready (rs := [2, 6]) (by kernel_rfl) (by simp) ?_
      refine AllReadyH.cons rfl (fun K hK => ?_) (AllReadyH.cons rfl (fun K hK => ?_) AllReadyH.nil)
      · go_simp
        refine (hO0 _).mono ?_
        rintro e u45 ⟨A1, L1, C1, rfl, r1, b45⟩
        replace hB := hB.trans (b45.mono hB.size)
        replace hX := hX.below b45 hX.lt
        replace hY := hY.below b45 hY.lt
        replace hM := hM.below b45 hM.lt
        replace g2 := g2.below b45 g2.lt
        go_wp2_with fail
        refine hK.out _ _ ?_ (fun hHeld => ?_)
        · exact hM.cells2
        clear hK K
        try simp only [Act.put, lay1, lay2, lay3, lay4, lay5, lay6]
        refine wpAnyH_ready (rs := [5, 6]) (by kernel_rfl) (by simp) ?_
        refine AllReadyH.cons rfl (fun K hK => ?_) (AllReadyH.cons rfl (fun K hK => ?_) AllReadyH.nil)
        · go_simp
          refine (hO1 _).mono ?_
          rintro e u46 ⟨A2, L2, C2, rfl, r2, b46⟩
          replace hB := hB.trans (b46.mono hB.size)
          replace r1 := r1.below b46
          replace hX := hX.below b46 hX.lt
          replace hY := hY.below b46 hY.lt
          replace hM := hM.below b46 hM.lt
          replace g2 := g2.below b46 g2.lt
          go_wp2_with fail
          refine hK.out _ _ ?_ (fun hHeld => ?_)
          · exact hM.cells2
          clear hK K
          try simp only [Act.put, lay1, lay2, lay3, lay4, lay5, lay6]
          refine wpAnyH_ready (rs := [6]) (by kernel_rfl) (by simp) ?_
          refine AllReadyH.cons rfl (fun K hK => ?_) AllReadyH.nil
          · obtain ⟨u47, eu, g1, b47⟩ := box1 u46 25 #[.bool false, .slice none 0 0]
            obtain ⟨n1, en⟩ : ∃ X, X = u46.heap.size := ⟨_, rfl⟩
            rw [← en] at g1
            have o1 : g + 1 + 1 < n1 := by rw [en]; exact hM.lt
            have q1 : w.heap.size ≤ n1 := by rw [en]; exact hB.size
            have dd : n1 ≠ n2 := by have := g2.lt; omega
            have EU := Lib.hid (And.intro eu en)
            clear eu en
            go_simp
            rw [← EU.out.1, ← EU.out.2]
            replace hB := hB.trans (b47.mono hB.size)
            replace r1 := r1.below b47
            replace r2 := r2.below b47
            replace hX := hX.below b47 hX.lt
            replace hY := hY.below b47 hY.lt
            replace hM := hM.below b47 hM.lt
            replace g2 := g2.below b47 g2.lt
            refine hK.out _ _ ?_ (fun hHeld => ?_)
            · exact hM.cells2
            clear hK K
            try simp only [Act.put, lay1, lay2, lay3, lay4, lay5, lay6]
            obtain ⟨u48, eu, g1', kz, kb, kB⟩ := put_zed g1 (.bool pc) (.slice A1 L1 C1) (by simp [noU])
            refine wpAnyH_ready (rs := [8]) (by kernel_rfl) (by simp) ?_
            refine AllReadyH.cons rfl (fun K hK => ?_) AllReadyH.nil
            have x0 := g1.cell 0
            have x1 := g1.cell 1
            have x2 := g1.frozen
            go_simp
            rw [← eu]
            replace hX := kb _ _ _ hX (by omega)
            replace hY := kb _ _ _ hY (by omega)
            replace hM := kb _ _ _ hM (by omega)
            replace g2 := kb _ _ _ g2 (by omega)
            replace r1 := kz _ _ r1
            replace r2 := kz _ _ r2
            replace hB := kB _ _ q1 hB
            replace g1 := g1'
            clear g1' kz kb kB eu x0 x1 x2
            refine hK.out _ _ ?_ (fun hHeld => ?_)
            · exact hM.cells2
            clear hK K
            try simp only [Act.put, lay1, lay2, lay3, lay4, lay5, lay6]
            obtain ⟨u49, eu, g2', kz, kb, kB⟩ := put_zed g2 (.bool pd) (.slice A2 L2 C2) (by simp [noU])
            refine wpAnyH_ready (rs := [9]) (by kernel_rfl) (by simp) ?_
            refine AllReadyH.cons rfl (fun K hK => ?_) AllReadyH.nil
            have x0 := g2.cell 0
            have x1 := g2.cell 1
            have x2 := g2.frozen
            go_simp
            rw [← eu]
            replace hX := kb _ _ _ hX (by omega)
            replace hY := kb _ _ _ hY (by omega)
            replace hM := kb _ _ _ hM (by omega)
            replace g1 := kb _ _ _ g1 (by omega)
            replace r1 := kz _ _ r1
            replace r2 := kz _ _ r2
            replace hB := kB _ _ q2 hB
            replace g2 := g2'
            clear g2' kz kb kB eu x0 x1 x2
            refine hK.out _ _ ?_ (fun hHeld => ?_)
            · exact hM.cells2
            clear hK K
            try simp only [Act.put, lay1, lay2, lay3, lay4, lay5, lay6]
            refine wpAnyH_done (by kernel_rfl) ?_ _
            dsimp only [OnlyN]
            exact ⟨n1, n2, A1, L1, C1, A2, L2, C2, rfl, g1, g2, r1, r2, hB, dd, o1, o2, hX, hY, hM⟩
        · obtain ⟨u50, eu, g1, b50⟩ := box1 u45 25 #[.bool false, .slice none 0 0]
          obtain ⟨n1, en⟩ : ∃ X, X = u45.heap.size := ⟨_, rfl⟩
          rw [← en] at g1
          have o1 : g + 1 + 1 < n1 := by rw [en]; exact hM.lt
          have q1 : w.heap.size ≤ n1 := by rw [en]; exact hB.size
          have dd : n1 ≠ n2 := by have := g2.lt; omega
          have EU := Lib.hid (And.intro eu en)
          clear eu en
          go_simp
          rw [← EU.out.1, ← EU.out.2]
          replace hB := hB.trans (b50.mono hB.size)
          replace r1 := r1.below b50
          replace hX := hX.below b50 hX.lt
          replace hY := hY.below b50 hY.lt
          replace hM := hM.below b50 hM.lt
          replace g2 := g2.below b50 g2.lt
          refine hK.out _ _ ?_ (fun hHeld => ?_)
          · exact hM.cells2
          clear hK K
          try simp only [Act.put, lay1, lay2, lay3, lay4, lay5, lay6]
          refine wpAnyH_ready (rs := [5]) (by kernel_rfl) (by simp) ?_
          refine AllReadyH.cons rfl (fun K hK => ?_) AllReadyH.nil
          · go_simp
            refine (hO1 _).mono ?_
            rintro e u51 ⟨A2, L2, C2, rfl, r2, b51⟩
            replace hB := hB.trans (b51.mono hB.size)
            replace r1 := r1.below b51
            replace hX := hX.below b51 hX.lt
            replace hY := hY.below b51 hY.lt
            replace hM := hM.below b51 hM.lt
            replace g1 := g1.below b51 g1.lt
            replace g2 := g2.below b51 g2.lt
            go_wp2_with fail
            refine hK.out _ _ ?_ (fun hHeld => ?_)
            · exact hM.cells2
            clear hK K
            try simp only [Act.put, lay1, lay2, lay3, lay4, lay5, lay6]
            obtain ⟨u52, eu, g1', kz, kb, kB⟩ := put_zed g1 (.bool pc) (.slice A1 L1 C1) (by simp [noU])
            refine wpAnyH_ready (rs := [8]) (by kernel_rfl) (by simp) ?_
            refine AllReadyH.cons rfl (fun K hK => ?_) AllReadyH.nil
            have x0 := g1.cell 0
            have x1 := g1.cell 1
            have x2 := g1.frozen
            go_simp
            rw [← eu]
            replace hX := kb _ _ _ hX (by omega)
            replace hY := kb _ _ _ hY (by omega)
            replace hM := kb _ _ _ hM (by omega)
            replace g2 := kb _ _ _ g2 (by omega)
            replace r1 := kz _ _ r1
            replace r2 := kz _ _ r2
            replace hB := kB _ _ q1 hB
            replace g1 := g1'
            clear g1' kz kb kB eu x0 x1 x2
            refine hK.out _ _ ?_ (fun hHeld => ?_)
            · exact hM.cells2
            clear hK K
            try simp only [Act.put, lay1, lay2, lay3, lay4, lay5, lay6]
            obtain ⟨u53, eu, g2', kz, kb, kB⟩ := put_zed g2 (.bool pd) (.slice A2 L2 C2) (by simp [noU])
            refine wpAnyH_ready (rs := [9]) (by kernel_rfl) (by simp) ?_
            refine AllReadyH.cons rfl (fun K hK => ?_) AllReadyH.nil
            have x0 := g2.cell 0
            have x1 := g2.cell 1
            have x2 := g2.frozen
            go_simp
            rw [← eu]
            replace hX := kb _ _ _ hX (by omega)
            replace hY := kb _ _ _ hY (by omega)
            replace hM := kb _ _ _ hM (by omega)
            replace g1 := kb _ _ _ g1 (by omega)
            replace r1 := kz _ _ r1
            replace r2 := kz _ _ r2
            replace hB := kB _ _ q2 hB
            replace g2 := g2'
            clear g2' kz kb kB eu x0 x1 x2
            refine hK.out _ _ ?_ (fun hHeld => ?_)
            · exact hM.cells2
            clear hK K
            try simp only [Act.put, lay1, lay2, lay3, lay4, lay5, lay6]
            refine wpAnyH_done (by kernel_rfl) ?_ _
            dsimp only [OnlyN]
            exact ⟨n1, n2, A1, L1, C1, A2, L2, C2, rfl, g1, g2, r1, r2, hB, dd, o1, o2, hX, hY, hM⟩
      · obtain ⟨u54, eu, g1, b54⟩ := box1 u44 25 #[.bool false, .slice none 0 0]
        obtain ⟨n1, en⟩ : ∃ X, X = u44.heap.size := ⟨_, rfl⟩
        rw [← en] at g1
        have o1 : g + 1 + 1 < n1 := by rw [en]; exact hM.lt
        have q1 : w.heap.size ≤ n1 := by rw [en]; exact hB.size
        have dd : n1 ≠ n2 := by have := g2.lt; omega
        have EU := Lib.hid (And.intro eu en)
        clear eu en
        go_simp
        rw [← EU.out.1, ← EU.out.2]
        replace hB := hB.trans (b54.mono hB.size)
        replace hX := hX.below b54 hX.lt
        replace hY := hY.below b54 hY.lt
        replace hM := hM.below b54 hM.lt
        replace g2 := g2.below b54 g2.lt
        refine hK.out _ _ ?_ (fun hHeld => ?_)
        · exact hM.cells2
        clear hK K
        try simp only [Act.put, lay1, lay2, lay3, lay4, lay5, lay6]
        refine wpAnyH_ready (rs := [2]) (by kernel_rfl) (by simp) ?_
        refine AllReadyH.cons rfl (fun K hK => ?_) AllReadyH.nil
        · go_simp
          refine (hO0 _).mono ?_
          rintro e u55 ⟨A1, L1, C1, rfl, r1, b55⟩
          replace hB := hB.trans (b55.mono hB.size)
          replace hX := hX.below b55 hX.lt
          replace hY := hY.below b55 hY.lt
          replace hM := hM.below b55 hM.lt
          replace g1 := g1.below b55 g1.lt
          replace g2 := g2.below b55 g2.lt
          go_wp2_with fail
          refine hK.out _ _ ?_ (fun hHeld => ?_)
          · exact hM.cells2
          clear hK K
          try simp only [Act.put, lay1, lay2, lay3, lay4, lay5, lay6]
          refine wpAnyH_ready (rs := [5]) (by kernel_rfl) (by simp) ?_
          refine AllReadyH.cons rfl (fun K hK => ?_) AllReadyH.nil
          · go_simp
            refine (hO1 _).mono ?_
            rintro e u56 ⟨A2, L2, C2, rfl, r2, b56⟩
            replace hB := hB.trans (b56.mono hB.size)
            replace r1 := r1.below b56
            replace hX := hX.below b56 hX.lt
            replace hY := hY.below b56 hY.lt
            replace hM := hM.below b56 hM.lt
            replace g1 := g1.below b56 g1.lt
            replace g2 := g2.below b56 g2.lt
            go_wp2_with fail
            refine hK.out _ _ ?_ (fun hHeld => ?_)
            · exact hM.cells2
            clear hK K
            try simp only [Act.put, lay1, lay2, lay3, lay4, lay5, lay6]
            obtain ⟨u57, eu, g1', kz, kb, kB⟩ := put_zed g1 (.bool pc) (.slice A1 L1 C1) (by simp [noU])
            refine wpAnyH_ready (rs := [8]) (by kernel_rfl) (by simp) ?_
            refine AllReadyH.cons rfl (fun K hK => ?_) AllReadyH.nil
            have x0 := g1.cell 0
            have x1 := g1.cell 1
            have x2 := g1.frozen
            go_simp
            rw [← eu]
            replace hX := kb _ _ _ hX (by omega)
            replace hY := kb _ _ _ hY (by omega)
            replace hM := kb _ _ _ hM (by omega)
            replace g2 := kb _ _ _ g2 (by omega)
            replace r1 := kz _ _ r1
            replace r2 := kz _ _ r2
            replace hB := kB _ _ q1 hB
            replace g1 := g1'
            clear g1' kz kb kB eu x0 x1 x2
            refine hK.out _ _ ?_ (fun hHeld => ?_)
            · exact hM.cells2
            clear hK K
            try simp only [Act.put, lay1, lay2, lay3, lay4, lay5, lay6]
            obtain ⟨u58, eu, g2', kz, kb, kB⟩ := put_zed g2 (.bool pd) (.slice A2 L2 C2) (by simp [noU])
            refine wpAnyH_ready (rs := [9]) (by kernel_rfl) (by simp) ?_
            refine AllReadyH.cons rfl (fun K hK => ?_) AllReadyH.nil
            have x0 := g2.cell 0
            have x1 := g2.cell 1
            have x2 := g2.frozen
            go_simp
            rw [← eu]
            replace hX := kb _ _ _ hX (by omega)
            replace hY := kb _ _ _ hY (by omega)
            replace hM := kb _ _ _ hM (by omega)
            replace g1 := kb _ _ _ g1 (by omega)
            replace r1 := kz _ _ r1
            replace r2 := kz _ _ r2
            replace hB := kB _ _ q2 hB
            replace g2 := g2'
            clear g2' kz kb kB eu x0 x1 x2
            refine hK.out _ _ ?_ (fun hHeld => ?_)
            · exact hM.cells2
            clear hK K
            try simp only [Act.put, lay1, lay2, lay3, lay4, lay5, lay6]
            refine wpAnyH_done (by kernel_rfl) ?_ _
            dsimp only [OnlyN]
            exact ⟨n1, n2, A1, L1, C1, A2, L2, C2, rfl, g1, g2, r1, r2, hB, dd, o1, o2, hX, hY, hM⟩
  case trttwo =>
    rintro wj n1 n2 A1 L1 C1 A2 L2 C2 ⟨g1, g2, r1, r2, hB, dd, o1, o2, hX, hY, hM⟩
    obtain ⟨c51_hX_0, c51_hX_1⟩ := hX.cells2
    obtain ⟨c51_hY_0, c51_hY_1⟩ := hY.cells2
    obtain ⟨c51_hM_0, c51_hM_1⟩ := hM.cells2
    obtain ⟨c51_g1_0, c51_g1_1⟩ := g1.cells2
    obtain ⟨c51_g2_0, c51_g2_1⟩ := g2.cells2
    go_wp2_with fail
    refine (hI0 _ _ r1).mono ?_
    rintro e w61 ⟨rfl, b61⟩
    replace r1 := r1.below b61
    replace r2 := r2.below b61
    replace hX := hX.below b61 hX.lt
    replace hY := hY.below b61 hY.lt
    replace hM := hM.below b61 hM.lt
    replace g1 := g1.below b61 g1.lt
    replace g2 := g2.below b61 g2.lt
    replace hB := hB.trans (b61.mono hB.size)
    clear c51_hX_0 c51_hX_1 c51_hY_0 c51_hY_1 c51_hM_0 c51_hM_1 c51_g1_0 c51_g1_1 c51_g2_0 c51_g2_1
    obtain ⟨c52_hX_0, c52_hX_1⟩ := hX.cells2
    obtain ⟨c52_hY_0, c52_hY_1⟩ := hY.cells2
    obtain ⟨c52_hM_0, c52_hM_1⟩ := hM.cells2
    obtain ⟨c52_g1_0, c52_g1_1⟩ := g1.cells2
    obtain ⟨c52_g2_0, c52_g2_1⟩ := g2.cells2
    go_upto_region 6 with fail
    clear c52_hX_0 c52_hX_1 c52_hY_0 c52_hY_1 c52_hM_0 c52_hM_1 c52_g1_0 c52_g1_1 c52_g2_0 c52_g2_1
    replace hB := hB.drew
    replace r1 := r1.below (bdrew _)
    replace r2 := r2.below (bdrew _)
    replace hX := hX.drew
    replace hY := hY.drew
    replace hM := hM.drew
    replace g1 := g1.drew
    replace g2 := g2.drew
    refine wp_region_noPanic ?_
    refine wp_region_held_drew (S := fun w' => w'.cell? ⟨g, 0, none⟩ = some (.bool sg1) ∧ w'.cell? ⟨g, 1, none⟩ = some (.slice B1 l1.length D1) ∧ w'.cell? ⟨g + 1, 0, none⟩ = some (.bool sg2) ∧ w'.cell? ⟨g + 1, 1, none⟩ = some (.slice B2 l2.length D2) ∧ w'.cell? ⟨n1, 0, none⟩ = some (.bool pc) ∧ w'.cell? ⟨n1, 1, none⟩ = some (.slice A1 L1 C1) ∧ w'.cell? ⟨g + 1 + 1, 0, none⟩ = some (.int .i64 m0)) (by kernel_rfl) ?_ (fun hHeld => ?_)
    · exact ⟨hX.cell 0, hX.cell 1, hY.cell 0, hY.cell 1, g1.cell 0, g1.cell 1, hM.cell 0⟩
    refine wpAnyH_take (i := 0) (v := ?rrtv0) rfl (by kernel_rfl) (by kernel_rfl) (by kernel_rfl) (fun _ _ _ h => h) (Or.inl ⟨by kernel_rfl, ?rrthy0⟩) (by assumption) ?rrtrest0
    case rrthy0 => (intro w hSw; (try dsimp only at hSw); go_simp; try (with_reducible rfl))
    try simp only [Act.put, lay1, lay2, lay3, lay4, lay5, lay6]
    refine wpAnyH_take (i := 1) (v := ?rrtv1) rfl (by kernel_rfl) (by kernel_rfl) (by kernel_rfl) (fun _ _ _ h => h) (Or.inl ⟨by kernel_rfl, ?rrthy1⟩) (by assumption) ?rrtrest1
    case rrthy1 => (intro w hSw; (try dsimp only at hSw); go_simp; try (with_reducible rfl))
    try simp only [Act.put, lay1, lay2, lay3, lay4, lay5, lay6]
    refine wpAnyH_take (i := 2) (v := ?rrtv2) rfl (by kernel_rfl) (by kernel_rfl) (by kernel_rfl) (fun _ _ _ h => h) (Or.inl ⟨by kernel_rfl, ?rrthy2⟩) (by assumption) ?rrtrest2
    case rrthy2 => (intro w hSw; (try dsimp only at hSw); go_simp; try (with_reducible rfl))
    try simp only [Act.put, lay1, lay2, lay3, lay4, lay5, lay6]
    refine wpAnyH_take (i := 3) (v := ?rrtv3) rfl (by kernel_rfl) (by kernel_rfl) (by kernel_rfl) (fun _ _ _ h => h) (Or.inl ⟨by kernel_rfl, ?rrthy3⟩) (by assumption) ?rrtrest3
    case rrthy3 => (intro w hSw; (try dsimp only at hSw); go_simp; try (with_reducible rfl))
    try simp only [Act.put, lay1, lay2, lay3, lay4, lay5, lay6]
    refine wpAnyH_take (i := 4) (v := ?rrtv4) rfl (by kernel_rfl) (by kernel_rfl) (by kernel_rfl) (fun _ _ _ h => h) (Or.inl ⟨by kernel_rfl, ?rrthy4⟩) (by assumption) ?rrtrest4
    case rrthy4 => (intro w hSw; (try dsimp only at hSw); go_simp; try (with_reducible rfl))
    try simp only [Act.put, lay1, lay2, lay3, lay4, lay5, lay6]
    refine wpAnyH_take (i := 5) (v := ?rrtv5) rfl (by kernel_rfl) (by kernel_rfl) (by kernel_rfl) (fun _ _ _ h => h) (Or.inl ⟨by kernel_rfl, ?rrthy5⟩) (by assumption) ?rrtrest5
    case rrthy5 => (intro w hSw; (try dsimp only at hSw); go_simp; try (with_reducible rfl))
    try simp only [Act.put, lay1, lay2, lay3, lay4, lay5, lay6]
    refine wpAnyH_take (i := 6) (v := ?rrtv6) rfl (by kernel_rfl) (by kernel_rfl) (by kernel_rfl) (fun _ _ _ h => h) (Or.inl ⟨by kernel_rfl, ?rrthy6⟩) (by assumption) ?rrtrest6
    case rrthy6 => (intro w hSw; (try dsimp only at hSw); go_simp; try (with_reducible rfl))
    try simp only [Act.put, lay1, lay2, lay3, lay4, lay5, lay6]
    refine wpAnyH_take (i := 7) (v := ?rrtv7) rfl (by kernel_rfl) (by kernel_rfl) (by kernel_rfl) (fun _ _ _ h => h) (Or.inl ⟨by kernel_rfl, ?rrthy7⟩) (by assumption) ?rrtrest7
    case rrthy7 => (intro w hSw; (try dsimp only at hSw); go_simp; try (with_reducible rfl))
    try simp only [Act.put, lay1, lay2, lay3, lay4, lay5, lay6]
    refine wpAnyH_take (i := 8) (v := ?rrtv8) rfl (by kernel_rfl) (by kernel_rfl) (by kernel_rfl) (fun _ _ _ h => h) (Or.inl ⟨by kernel_rfl, ?rrthy8⟩) (by assumption) ?rrtrest8
    case rrthy8 => (intro w hSw; (try dsimp only at hSw); go_simp; try (with_reducible rfl))
    try simp only [Act.put, lay1, lay2, lay3, lay4, lay5, lay6]
    refine wpAnyH_take (i := 10) (v := ?rrtv10) rfl (by kernel_rfl) (by kernel_rfl) (by kernel_rfl) (fun _ _ _ h => h) (Or.inl ⟨by kernel_rfl, ?rrthy10⟩) (by assumption) ?rrtrest10
    case rrthy10 => (intro w hSw; (try dsimp only at hSw); go_simp; try (with_reducible rfl))
    try simp only [Act.put, lay1, lay2, lay3, lay4, lay5, lay6]
    refine wpAnyH_take (i := 11) (v := ?rrtv11) rfl (by kernel_rfl) (by kernel_rfl) (by kernel_rfl) (fun _ _ _ h => h) (Or.inl ⟨by kernel_rfl, ?rrthy11⟩) (by assumption) ?rrtrest11
    case rrthy11 => (intro w hSw; (try dsimp only at hSw); go_simp; try (with_reducible rfl))
    try simp only [Act.put, lay1, lay2, lay3, lay4, lay5, lay6]
    refine wpAnyH_ready (rs := [9]) (by kernel_rfl) (by simp) ?_
    refine AllReadyH.cons rfl (fun K hK => ?_) AllReadyH.nil
    go_simp
    refine (hCr _ _ _ (z2.below hB) (z1.below hB)).mono ?_
    rintro e w201 ⟨rfl, b201⟩
    replace hB := hB.trans (b201.mono hB.size)
    replace r1 := r1.below b201
    replace r2 := r2.below b201
    replace hX := hX.below b201 hX.lt
    replace hY := hY.below b201 hY.lt
    replace hM := hM.below b201 hM.lt
    replace g1 := g1.below b201 g1.lt
    replace g2 := g2.below b201 g2.lt
    go_wp2_with fail
    refine hK.out _ _ ?_ (fun hHeld => ?_)
    · exact ⟨hX.cell 0, hX.cell 1, hY.cell 0, hY.cell 1, g1.cell 0, g1.cell 1, hM.cell 0⟩
    clear hK K
    try simp only [Act.put, lay1, lay2, lay3, lay4, lay5, lay6]
    refine wpAnyH_take (i := 12) (v := ?rrtv12) rfl (by kernel_rfl) (by kernel_rfl) (by kernel_rfl) (fun _ _ _ h => h) (Or.inl ⟨by kernel_rfl, ?rrthy12⟩) (by assumption) ?rrtrest12
    case rrthy12 => (intro w hSw; (try dsimp only at hSw); go_simp; try (with_reducible rfl))
    try simp only [Act.put, lay1, lay2, lay3, lay4, lay5, lay6]
    refine wpAnyH_take (i := 13) (v := ?rrtv13) rfl (by kernel_rfl) (by kernel_rfl) (by kernel_rfl) (fun _ _ _ h => h) (Or.inl ⟨by kernel_rfl, ?rrthy13⟩) (by assumption) ?rrtrest13
    case rrthy13 => (intro w hSw; (try dsimp only at hSw); go_simp; try (with_reducible rfl))
    try simp only [Act.put, lay1, lay2, lay3, lay4, lay5, lay6]
    refine wpAnyH_take (i := 14) (v := ?rrtv14) rfl (by kernel_rfl) (by kernel_rfl) (by kernel_rfl) (fun _ _ _ h => h) (Or.inl ⟨by kernel_rfl, ?rrthy14⟩) (by assumption) ?rrtrest14
    case rrthy14 => (intro w hSw; (try dsimp only at hSw); go_simp; try (with_reducible rfl))
    try simp only [Act.put, lay1, lay2, lay3, lay4, lay5, lay6]
    refine wpAnyH_take (i := 15) (v := ?rrtv15) rfl (by kernel_rfl) (by kernel_rfl) (by kernel_rfl) (fun _ _ _ h => h) (Or.inl ⟨by kernel_rfl, ?rrthy15⟩) (by assumption) ?rrtrest15
    case rrthy15 => (intro w hSw; (try dsimp only at hSw); go_simp; try (with_reducible rfl))
    try simp only [Act.put, lay1, lay2, lay3, lay4, lay5, lay6]
    refine wpAnyH_take (i := 17) (v := ?rrtv17) rfl (by kernel_rfl) (by kernel_rfl) (by kernel_rfl) (fun _ _ _ h => h) (Or.inl ⟨by kernel_rfl, ?rrthy17⟩) (by assumption) ?rrtrest17
    case rrthy17 => (intro w hSw; (try dsimp only at hSw); go_simp; try (with_reducible rfl))
    try simp only [Act.put, lay1, lay2, lay3, lay4, lay5, lay6]
    refine wpAnyH_take (i := 20) (v := ?rrtv20) rfl (by kernel_rfl) (by kernel_rfl) (by kernel_rfl) (fun _ _ _ h => h) (Or.inl ⟨by kernel_rfl, ?rrthy20⟩) (by assumption) ?rrtrest20
    case rrthy20 => (intro w hSw; (try dsimp only at hSw); go_simp; try (with_reducible rfl))
    try simp only [Act.put, lay1, lay2, lay3, lay4, lay5, lay6]
    refine wpAnyH_take (i := 21) (v := ?rrtv21) rfl (by kernel_rfl) (by kernel_rfl) (by kernel_rfl) (fun _ _ _ h => h) (Or.inl ⟨by kernel_rfl, ?rrthy21⟩) (by assumption) ?rrtrest21
    case rrthy21 => (intro w hSw; (try dsimp only at hSw); go_simp; try (with_reducible rfl))
    try simp only [Act.put, lay1, lay2, lay3, lay4, lay5, lay6]
    refine wpAnyH_ready (rs := [16]) (by kernel_rfl) (by simp) ?_
    refine AllReadyH.cons rfl (fun K hK => ?_) AllReadyH.nil
    go_simp
    refine (hN1 _ _ (z1.below hB)).mono ?_
    rintro e w202 ⟨v202, rfl, p1, b202⟩
    replace hB := hB.trans (b202.mono hB.size)
    replace r1 := r1.below b202
    replace r2 := r2.below b202
    replace hX := hX.below b202 hX.lt
    replace hY := hY.below b202 hY.lt
    replace hM := hM.below b202 hM.lt
    replace g1 := g1.below b202 g1.lt
    replace g2 := g2.below b202 g2.lt
    go_wp2_with fail
    refine hK.out _ _ ?_ (fun hHeld => ?_)
    · exact ⟨hX.cell 0, hX.cell 1, hY.cell 0, hY.cell 1, g1.cell 0, g1.cell 1, hM.cell 0⟩
    clear hK K
    try simp only [Act.put, lay1, lay2, lay3, lay4, lay5, lay6]
    refine wpAnyH_ready (rs := [18]) (by kernel_rfl) (by simp) ?_
    refine AllReadyH.cons rfl (fun K hK => ?_) AllReadyH.nil
    go_simp
    refine (hN2 _ _ (z2.below hB)).mono ?_
    rintro e w203 ⟨v203, rfl, p2, b203⟩
    replace hB := hB.trans (b203.mono hB.size)
    replace r1 := r1.below b203
    replace r2 := r2.below b203
    replace p1 := p1.below b203
    replace hX := hX.below b203 hX.lt
    replace hY := hY.below b203 hY.lt
    replace hM := hM.below b203 hM.lt
    replace g1 := g1.below b203 g1.lt
    replace g2 := g2.below b203 g2.lt
    go_wp2_with fail
    refine hK.out _ _ ?_ (fun hHeld => ?_)
    · exact ⟨hX.cell 0, hX.cell 1, hY.cell 0, hY.cell 1, g1.cell 0, g1.cell 1, hM.cell 0⟩
    clear hK K
    try simp only [Act.put, lay1, lay2, lay3, lay4, lay5, lay6]
    refine wpAnyH_ready (rs := [19]) (by kernel_rfl) (by simp) ?_
    refine AllReadyH.cons rfl (fun K hK => ?_) AllReadyH.nil
    go_simp
    refine (hCn _ _ _ p1 p2).mono ?_
    rintro e w204 ⟨rfl, b204⟩
    replace hB := hB.trans (b204.mono hB.size)
    replace r1 := r1.below b204
    replace r2 := r2.below b204
    replace hX := hX.below b204 hX.lt
    replace hY := hY.below b204 hY.lt
    replace hM := hM.below b204 hM.lt
    replace g1 := g1.below b204 g1.lt
    replace g2 := g2.below b204 g2.lt
    go_wp2_with fail
    refine hK.out _ _ ?_ (fun hHeld => ?_)
    · exact ⟨hX.cell 0, hX.cell 1, hY.cell 0, hY.cell 1, g1.cell 0, g1.cell 1, hM.cell 0⟩
    clear hK K
    try simp only [Act.put, lay1, lay2, lay3, lay4, lay5, lay6]
    refine wpAnyH_take (i := 22) (v := ?rrtv22) rfl (by kernel_rfl) (by kernel_rfl) (by kernel_rfl) (fun _ _ _ h => h) (Or.inl ⟨by kernel_rfl, ?rrthy22⟩) (by assumption) ?rrtrest22
    case rrthy22 => (intro w hSw; (try dsimp only at hSw); go_simp; try (with_reducible rfl))
    try simp only [Act.put, lay1, lay2, lay3, lay4, lay5, lay6]
    refine wpAnyH_take (i := 23) (v := ?rrtv23) rfl (by kernel_rfl) (by kernel_rfl) (by kernel_rfl) (fun _ _ _ h => h) (Or.inl ⟨by kernel_rfl, ?rrthy23⟩) (by assumption) ?rrtrest23
    case rrthy23 => (intro w hSw; (try dsimp only at hSw); go_simp; try (with_reducible rfl))
    try simp only [Act.put, lay1, lay2, lay3, lay4, lay5, lay6]
    refine wpAnyH_take (i := 24) (v := ?rrtv24) rfl (by kernel_rfl) (by kernel_rfl) (by kernel_rfl) (fun _ _ _ h => h) (Or.inl ⟨by kernel_rfl, ?rrthy24⟩) (by assumption) ?rrtrest24
    case rrthy24 => (intro w hSw; (try dsimp only at hSw); go_simp; try (with_reducible rfl))
    try simp only [Act.put, lay1, lay2, lay3, lay4, lay5, lay6]
    refine wpAnyH_take (i := 25) (v := ?rrtv25) rfl (by kernel_rfl) (by kernel_rfl) (by kernel_rfl) (fun _ _ _ h => h) (Or.inl ⟨by kernel_rfl, ?rrthy25⟩) (by assumption) ?rrtrest25
    case rrthy25 => (intro w hSw; (try dsimp only at hSw); go_simp; try (with_reducible rfl))
    try simp only [Act.put, lay1, lay2, lay3, lay4, lay5, lay6]
    refine wpAnyH_take (i := 26) (v := ?rrtv26) rfl (by kernel_rfl) (by kernel_rfl) (by kernel_rfl) (fun _ _ _ h => h) (Or.inl ⟨by kernel_rfl, ?rrthy26⟩) (by assumption) ?rrtrest26
    case rrthy26 => (intro w hSw; (try dsimp only at hSw); go_simp; try (with_reducible rfl))
    try simp only [Act.put, lay1, lay2, lay3, lay4, lay5, lay6]
    refine wpAnyH_take (i := 28) (v := ?rrtv28) rfl (by kernel_rfl) (by kernel_rfl) (by kernel_rfl) (fun _ _ _ h => h) (Or.inl ⟨by kernel_rfl, ?rrthy28⟩) (by assumption) ?rrtrest28
    case rrthy28 => (intro w hSw; (try dsimp only at hSw); go_simp; try (with_reducible rfl))
    try simp only [Act.put, lay1, lay2, lay3, lay4, lay5, lay6]
    refine wpAnyH_take (i := 29) (v := ?rrtv29) rfl (by kernel_rfl) (by kernel_rfl) (by kernel_rfl) (fun _ _ _ h => h) (Or.inl ⟨by kernel_rfl, ?rrthy29⟩) (by assumption) ?rrtrest29
    case rrthy29 => (intro w hSw; (try dsimp only at hSw); go_simp; try (with_reducible rfl))
    try simp only [Act.put, lay1, lay2, lay3, lay4, lay5, lay6]
    refine wpAnyH_take (i := 32) (v := ?rrtv32) rfl (by kernel_rfl) (by kernel_rfl) (by kernel_rfl) (fun _ _ _ h => h) (Or.inl ⟨by kernel_rfl, ?rrthy32⟩) (by assumption) ?rrtrest32
    case rrthy32 => (intro w hSw; (try dsimp only at hSw); go_simp; try (with_reducible rfl))
    try simp only [Act.put, lay1, lay2, lay3, lay4, lay5, lay6]
    refine wpAnyH_ready (rs := [27]) (by kernel_rfl) (by simp) ?_
    refine AllReadyH.cons rfl (fun K hK => ?_) AllReadyH.nil
    go_simp
    refine (hA1 _ _ _ (z1.below hB) r1).mono ?_
    rintro e w205 ⟨v205, rfl, p3, b205⟩
    replace hB := hB.trans (b205.mono hB.size)
    replace r1 := r1.below b205
    replace r2 := r2.below b205
    replace hX := hX.below b205 hX.lt
    replace hY := hY.below b205 hY.lt
    replace hM := hM.below b205 hM.lt
    replace g1 := g1.below b205 g1.lt
    replace g2 := g2.below b205 g2.lt
    go_wp2_with fail
    refine hK.out _ _ ?_ (fun hHeld => ?_)
    · exact ⟨hX.cell 0, hX.cell 1, hY.cell 0, hY.cell 1, g1.cell 0, g1.cell 1, hM.cell 0⟩
    clear hK K
    try simp only [Act.put, lay1, lay2, lay3, lay4, lay5, lay6]
    refine wpAnyH_ready (rs := [30]) (by kernel_rfl) (by simp) ?_
    refine AllReadyH.cons rfl (fun K hK => ?_) AllReadyH.nil
    go_simp
    refine (hA2 _ _ _ (z2.below hB) r1).mono ?_
    rintro e w206 ⟨v206, rfl, p4, b206⟩
    replace hB := hB.trans (b206.mono hB.size)
    replace r1 := r1.below b206
    replace r2 := r2.below b206
    replace p3 := p3.below b206
    replace hX := hX.below b206 hX.lt
    replace hY := hY.below b206 hY.lt
    replace hM := hM.below b206 hM.lt
    replace g1 := g1.below b206 g1.lt
    replace g2 := g2.below b206 g2.lt
    go_wp2_with fail
    refine hK.out _ _ ?_ (fun hHeld => ?_)
    · exact ⟨hX.cell 0, hX.cell 1, hY.cell 0, hY.cell 1, g1.cell 0, g1.cell 1, hM.cell 0⟩
    clear hK K
    try simp only [Act.put, lay1, lay2, lay3, lay4, lay5, lay6]
    refine wpAnyH_ready (rs := [31]) (by kernel_rfl) (by simp) ?_
    refine AllReadyH.cons rfl (fun K hK => ?_) AllReadyH.nil
    go_simp
    refine (hCa _ _ _ p3 p4).mono ?_
    rintro e w207 ⟨rfl, b207⟩
    replace hB := hB.trans (b207.mono hB.size)
    replace r1 := r1.below b207
    replace r2 := r2.below b207
    replace hX := hX.below b207 hX.lt
    replace hY := hY.below b207 hY.lt
    replace hM := hM.below b207 hM.lt
    replace g1 := g1.below b207 g1.lt
    replace g2 := g2.below b207 g2.lt
    go_wp2_with fail
    refine hK.out _ _ ?_ (fun hHeld => ?_)
    · exact ⟨hX.cell 0, hX.cell 1, hY.cell 0, hY.cell 1, g1.cell 0, g1.cell 1, hM.cell 0⟩
    clear hK K
    try simp only [Act.put, lay1, lay2, lay3, lay4, lay5, lay6]
    refine wpAnyH_take (i := 33) (v := ?rrtv33) rfl (by kernel_rfl) (by kernel_rfl) (by kernel_rfl) (fun _ _ _ h => h) (Or.inl ⟨by kernel_rfl, ?rrthy33⟩) (by assumption) ?rrtrest33
    case rrthy33 => (intro w hSw; (try dsimp only at hSw); go_simp; try (with_reducible rfl))
    try simp only [Act.put, lay1, lay2, lay3, lay4, lay5, lay6]
    refine wpAnyH_take (i := 34) (v := ?rrtv34) rfl (by kernel_rfl) (by kernel_rfl) (by kernel_rfl) (fun _ _ _ h => h) (Or.inl ⟨by kernel_rfl, ?rrthy34⟩) (by assumption) ?rrtrest34
    case rrthy34 => (intro w hSw; (try dsimp only at hSw); go_simp; try (with_reducible rfl))
    try simp only [Act.put, lay1, lay2, lay3, lay4, lay5, lay6]
    refine wpAnyH_take (i := 35) (v := ?rrtv35) rfl (by kernel_rfl) (by kernel_rfl) (by kernel_rfl) (fun _ _ _ h => h) (Or.inl ⟨by kernel_rfl, ?rrthy35⟩) (by assumption) ?rrtrest35
    case rrthy35 => (intro w hSw; (try dsimp only at hSw); go_simp; try (with_reducible rfl))
    try simp only [Act.put, lay1, lay2, lay3, lay4, lay5, lay6]
    refine wpAnyH_take (i := 36) (v := ?rrtv36) rfl (by kernel_rfl) (by kernel_rfl) (by kernel_rfl) (fun _ _ _ h => h) (Or.inl ⟨by kernel_rfl, ?rrthy36⟩) (by assumption) ?rrtrest36
    case rrthy36 => (intro w hSw; (try dsimp only at hSw); go_simp; try (with_reducible rfl))
    try simp only [Act.put, lay1, lay2, lay3, lay4, lay5, lay6]
    refine wpAnyH_take (i := 37) (v := ?rrtv37) rfl (by kernel_rfl) (by kernel_rfl) (by kernel_rfl) (fun _ _ _ h => h) (Or.inl ⟨by kernel_rfl, ?rrthy37⟩) (by assumption) ?rrtrest37
    case rrthy37 => (intro w hSw; (try dsimp only at hSw); go_simp; try (with_reducible rfl))
    try simp only [Act.put, lay1, lay2, lay3, lay4, lay5, lay6]
    refine wpAnyH_take (i := 38) (v := ?rrtv38) rfl (by kernel_rfl) (by kernel_rfl) (by kernel_rfl) (fun _ _ _ h => h) (Or.inl ⟨by kernel_rfl, ?rrthy38⟩) (by assumption) ?rrtrest38
    case rrthy38 => (intro w hSw; (try dsimp only at hSw); go_simp; try (with_reducible rfl))
    try simp only [Act.put, lay1, lay2, lay3, lay4, lay5, lay6]
    refine wpAnyH_take (i := 39) (v := ?rrtv39) rfl (by kernel_rfl) (by kernel_rfl) (by kernel_rfl) (fun _ _ _ h => h) (Or.inl ⟨by kernel_rfl, ?rrthy39⟩) (by assumption) ?rrtrest39
    case rrthy39 => (intro w hSw; (try dsimp only at hSw); go_simp; try (with_reducible rfl))
    try simp only [Act.put, lay1, lay2, lay3, lay4, lay5, lay6]
    refine wpAnyH_take (i := 40) (v := ?rrtv40) rfl (by kernel_rfl) (by kernel_rfl) (by kernel_rfl) (fun _ _ _ h => h) (Or.inl ⟨by kernel_rfl, ?rrthy40⟩) (by assumption) ?rrtrest40
    case rrthy40 => (intro w hSw; (try dsimp only at hSw); go_simp; try (with_reducible rfl))
    try simp only [Act.put, lay1, lay2, lay3, lay4, lay5, lay6]
    refine wpAnyH_take (i := 41) (v := ?rrtv41) rfl (by kernel_rfl) (by kernel_rfl) (by kernel_rfl) (fun _ _ _ h => h) (Or.inl ⟨by kernel_rfl, ?rrthy41⟩) (by assumption) ?rrtrest41
    case rrthy41 => (intro w hSw; (try dsimp only at hSw); go_simp; try (with_reducible rfl))
    try simp only [Act.put, lay1, lay2, lay3, lay4, lay5, lay6]
    refine wpAnyH_take (i := 42) (v := ?rrtv42) rfl (by kernel_rfl) (by kernel_rfl) (by kernel_rfl) (fun _ _ _ h => h) (Or.inl ⟨by kernel_rfl, ?rrthy42⟩) (by assumption) ?rrtrest42
    case rrthy42 => (intro w hSw; (try dsimp only at hSw); go_simp; try (with_reducible rfl))
    try simp only [Act.put, lay1, lay2, lay3, lay4, lay5, lay6]
    try dsimp only
    try simp only [Act.put, lay1, lay2, lay3, lay4, lay5, lay6]
    refine wpAnyH_take (i := 43) (v := ?rrtv43) rfl (by kernel_rfl) (by kernel_rfl) (by kernel_rfl) (fun _ _ _ h => h) (Or.inl ⟨by kernel_rfl, ?rrthy43⟩) (by assumption) ?rrtrest43
    case rrthy43 => (intro w hSw; (try dsimp only at hSw); go_simp; try (with_reducible rfl))
    try simp only [Act.put, lay1, lay2, lay3, lay4, lay5, lay6]
    try dsimp only
    try simp only [Act.put, lay1, lay2, lay3, lay4, lay5, lay6]
    refine wpAnyH_take (i := 44) (v := ?rrtv44) rfl (by kernel_rfl) (by kernel_rfl) (by kernel_rfl) (fun _ _ _ h => h) (Or.inl ⟨by kernel_rfl, ?rrthy44⟩) (by assumption) ?rrtrest44
    case rrthy44 => (intro w hSw; (try dsimp only at hSw); go_simp; try (with_reducible rfl))
    try simp only [Act.put, lay1, lay2, lay3, lay4, lay5, lay6]
    try dsimp only
    try simp only [Act.put, lay1, lay2, lay3, lay4, lay5, lay6]
    refine wpAnyH_done (by kernel_rfl) ?_ _
    refine NoPanic.normal ?_
    obtain ⟨c53_hX_0, c53_hX_1⟩ := hX.cells2
    obtain ⟨c53_hY_0, c53_hY_1⟩ := hY.cells2
    obtain ⟨c53_hM_0, c53_hM_1⟩ := hM.cells2
    obtain ⟨c53_g1_0, c53_g1_1⟩ := g1.cells2
    obtain ⟨c53_g2_0, c53_g2_1⟩ := g2.cells2
    go_wp2_with fail
    refine (hCc _ _ _ r1 r2).mono ?_
    rintro e w62 ⟨rfl, b62⟩
    replace r1 := r1.below b62
    replace r2 := r2.below b62
    replace hX := hX.below b62 hX.lt
    replace hY := hY.below b62 hY.lt
    replace hM := hM.below b62 hM.lt
    replace g1 := g1.below b62 g1.lt
    replace g2 := g2.below b62 g2.lt
    replace hB := hB.trans (b62.mono hB.size)
    clear c53_hX_0 c53_hX_1 c53_hY_0 c53_hY_1 c53_hM_0 c53_hM_1 c53_g1_0 c53_g1_1 c53_g2_0 c53_g2_1
    obtain ⟨c54_hX_0, c54_hX_1⟩ := hX.cells2
    obtain ⟨c54_hY_0, c54_hY_1⟩ := hY.cells2
    obtain ⟨c54_hM_0, c54_hM_1⟩ := hM.cells2
    obtain ⟨c54_g1_0, c54_g1_1⟩ := g1.cells2
    obtain ⟨c54_g2_0, c54_g2_1⟩ := g2.cells2
    go_wp2_with fail
    refine (hIx _ _ (z1.below hB)).mono ?_
    rintro e w63 ⟨rfl, b63⟩
    replace r1 := r1.below b63
    replace r2 := r2.below b63
    replace hX := hX.below b63 hX.lt
    replace hY := hY.below b63 hY.lt
    replace hM := hM.below b63 hM.lt
    replace g1 := g1.below b63 g1.lt
    replace g2 := g2.below b63 g2.lt
    replace hB := hB.trans (b63.mono hB.size)
    clear c54_hX_0 c54_hX_1 c54_hY_0 c54_hY_1 c54_hM_0 c54_hM_1 c54_g1_0 c54_g1_1 c54_g2_0 c54_g2_1
    obtain ⟨c55_hX_0, c55_hX_1⟩ := hX.cells2
    obtain ⟨c55_hY_0, c55_hY_1⟩ := hY.cells2
    obtain ⟨c55_hM_0, c55_hM_1⟩ := hM.cells2
    obtain ⟨c55_g1_0, c55_g1_1⟩ := g1.cells2
    obtain ⟨c55_g2_0, c55_g2_1⟩ := g2.cells2
    go_wp2_with fail
    refine (hE _ (ht.below hB)).mono ?_
    rintro e w64 ⟨rfl, b64⟩
    replace r1 := r1.below b64
    replace r2 := r2.below b64
    replace hX := hX.below b64 hX.lt
    replace hY := hY.below b64 hY.lt
    replace hM := hM.below b64 hM.lt
    replace g1 := g1.below b64 g1.lt
    replace g2 := g2.below b64 g2.lt
    replace hB := hB.trans (b64.mono hB.size)
    clear c55_hX_0 c55_hX_1 c55_hY_0 c55_hY_1 c55_hM_0 c55_hM_1 c55_g1_0 c55_g1_1 c55_g2_0 c55_g2_1
    obtain ⟨c56_hX_0, c56_hX_1⟩ := hX.cells2
    obtain ⟨c56_hY_0, c56_hY_1⟩ := hY.cells2
    obtain ⟨c56_hM_0, c56_hM_1⟩ := hM.cells2
    obtain ⟨c56_g1_0, c56_g1_1⟩ := g1.cells2
    obtain ⟨c56_g2_0, c56_g2_1⟩ := g2.cells2
    go_wp2_with fail
    refine (hSm _ _ _ (z1.below hB) (z2.below hB)).mono ?_
    rintro e w65 ⟨rfl, b65⟩
    replace r1 := r1.below b65
    replace r2 := r2.below b65
    replace hX := hX.below b65 hX.lt
    replace hY := hY.below b65 hY.lt
    replace hM := hM.below b65 hM.lt
    replace g1 := g1.below b65 g1.lt
    replace g2 := g2.below b65 g2.lt
    replace hB := hB.trans (b65.mono hB.size)
    clear c56_hX_0 c56_hX_1 c56_hY_0 c56_hY_1 c56_hM_0 c56_hM_1 c56_g1_0 c56_g1_1 c56_g2_0 c56_g2_1
    obtain ⟨c57_hX_0, c57_hX_1⟩ := hX.cells2
    obtain ⟨c57_hY_0, c57_hY_1⟩ := hY.cells2
    obtain ⟨c57_hM_0, c57_hM_1⟩ := hM.cells2
    obtain ⟨c57_g1_0, c57_g1_1⟩ := g1.cells2
    obtain ⟨c57_g2_0, c57_g2_1⟩ := g2.cells2
    go_wp2_with fail
    go_ret
    exact ⟨rfl, hB⟩
set_option maxRecDepth 100000 in
set_option maxHeartbeats 8000000 in
theorem ZedOrder_main_false (sg1 sg2 : Bool) (B1 B2 : Option Addr) (D1 D2 : Nat) (l1 l2 : List Nat) (m0 m1 : Int) (w : World) (h1 : IsL w (.slice B1 l1.length D1) l1) (h2 : IsL w (.slice B2 l2.length D2) l2) (i0 : -9223372036854775808 ≤ m0 ∧ m0 ≤ 9223372036854775807) (i1 : -9223372036854775808 ≤ m1 ∧ m1 ≤ 9223372036854775807) (ht : TabOk w) (f1 : (decide (l1.length ≤ 6) && rightZ sg1 l1) = true) (f2 : (decide (l2.length ≤ 6) && rightZ sg2 l2) = true) (hfb : fitB (sided sg1 (num l1)) = false) :
    Calls Tryd.prog 5 #[.agg #[.bool sg1, .slice B1 l1.length D1], .agg #[.bool sg2, .slice B2 l2.length D2], .agg #[.int .i64 m0, .int .i64 m1]] w fun e w' => e = .returned (.bool true) ∧ Below w.heap.size w w' := by
  have hE := fun w ht => alive04_any w ht
  have hF1 := fun w h => rzfew_any sg1 (.slice B1 l1.length D1) l1 6 w h
  have hF2 := fun w h => rzfew_any sg2 (.slice B2 l2.length D2) l2 6 w h
  rw [f1] at hF1
  rw [f2] at hF2
  rw [Bool.and_eq_true, decide_eq_true_eq] at f1
  obtain ⟨z1, s1⟩ := isZ_right h1 f1.2
  obtain ⟨x, hx1⟩ : ∃ q, q = sided sg1 (num l1) := ⟨_, rfl⟩
  rw [← hx1] at z1 s1 hfb
  have t1 : Sz x.natAbs 6 := by unfold Sz; omega
  clear hx1 s1
  rw [Bool.and_eq_true, decide_eq_true_eq] at f2
  obtain ⟨z2, s2⟩ := isZ_right h2 f2.2
  obtain ⟨y, hx2⟩ : ∃ q, q = sided sg2 (num l2) := ⟨_, rfl⟩
  rw [← hx2] at z2 s2
  have t2 : Sz y.natAbs 6 := by unfold Sz; omega
  clear hx2 s2
  obtain ⟨nv, znv, zn⟩ := id z1
  obtain ⟨_, rfl⟩ : decide (x < 0) = sg1 ∧ nv = .slice B1 l1.length D1 := by simpa using (Value.agg.inj znv).symm
  have hlm : (limbs x.natAbs).length ≤ 1000000 := Nat.le_trans t1 (by decide)
  have tm : Sz m0.natAbs 6 := Nat.le_trans (limbs_len_le (k := 1) (by rw [Nat.pow_one]; unfold W64; omega)) (by decide)
  obtain ⟨cm, hcm⟩ : ∃ c, cmpI x y = c := ⟨_, rfl⟩
  obtain ⟨mc, hmc⟩ : ∃ c, -cm = c := ⟨_, rfl⟩
  obtain ⟨sm, hsm⟩ : ∃ s, decide (x = y) = s := ⟨_, rfl⟩
  obtain ⟨ls, hls⟩ : ∃ s, decide (m0 < m1) = s := ⟨_, rfl⟩
  obtain ⟨pc, hpc⟩ : ∃ p, decide (m0 < 0) = p := ⟨_, rfl⟩
  obtain ⟨pd, hpd⟩ : ∃ p, decide (m1 < 0) = p := ⟨_, rfl⟩
  have hC := fun va vb w h h' => pzcmp_any va vb x y w h h'
  have hCr := fun va vb w h h' => pzcmp_any va vb y x w h h'
  have hCn := fun va vb w h h' => pzcmp_any va vb (-x) (-y) w h h'
  have hCa := fun va vb w h h' => pzcmp_any va vb (x + m0) (y + m0) w h h'
  rw [cmp_turn x y, hcm, hmc] at hCr
  rw [cmp_negs x y, hcm, hmc] at hCn
  rw [cmp_adds x y m0, hcm] at hCa
  rw [hcm] at hC
  have hcr := cmp_range x y
  have hc0 := cmp_eq0 x y
  rw [hcm] at hcr hc0
  rw [hsm] at hc0
  have hd1 : decide (cm < -1) = false := decide_eq_false (by omega)
  have hd2 : decide (1 < cm) = false := decide_eq_false (by omega)
  have wn1 : wrap64 (-cm) = mc := by rw [← hmc]; unfold wrap64; omega
  have wn2 : IntKind.i64.wrap (-cm) = mc := by rw [← hmc, IntKind.wrap_i64]; omega
  have hO0 := fun w => as_form hpc (pzof_any m0 i0.1 i0.2 w)
  have hO1 := fun w => as_form hpd (pzof_any m1 i1.1 i1.2 w)
  have hI0 := fun v w h => pzint_any v m0 w h
  rw [(fit_64 i0).1, (fit_64 i0).2] at hI0
  have hCc := fun va vb w h h' => pzcmp_any va vb m0 m1 w h h'
  have hcl := cmp_less m0 m1
  rw [hls] at hcl
  generalize cmpI m0 m1 = cd at hCc hcl
  have hIx := fun v w h => pzint_any v x w h
  rw [hfb] at hIx
  generalize fitV x = fv at hIx
  have hN1 := fun v w h => pzneg_any v x w h
  have hN2 := fun v w h => pzneg_any v y w h
  have hA1 := fun va vb w h h' => pzadd_any va vb x m0 w h h' (szi_le t1 (by decide)) (szi_le tm (by decide))
  have hA2 := fun va vb w h h' => pzadd_any va vb y m0 w h h' (szi_le t2 (by decide)) (szi_le tm (by decide))
  have hSm := fun va vb w h h' => rzsame_any va vb x y w h h'
  rw [hsm] at hSm
  have hBt := fun w h => rbits_any (.slice B1 l1.length D1) x.natAbs w h hlm
  have h64 : decide ((64 : Int) ≤ ((bl x.natAbs : Nat) : Int)) = true := decide_eq_true (bits_unfit hfb)
  generalize bl x.natAbs = bt at hBt h64
  clear hcm hmc hpc hpd hcr t1 t2 tm hlm znv i0 i1 hfb
  obtain ⟨W0, hW, hT, hR, hB⟩ := box3 w 25 25 38 #[.bool sg1, .slice B1 l1.length D1] #[.bool sg2, .slice B2 l2.length D2] #[.int .i64 m0, .int .i64 m1]
  obtain ⟨g, hg⟩ : ∃ g, g = w.heap.size := ⟨_, rfl⟩
  have hW' := Lib.hid (And.intro hW hg)
  rw [← hg] at hT hR
  have hgw : w.heap.size ≤ g := by omega
  clear hW hg
  obtain ⟨hX, hY⟩ := hT
  have hM := hR
  replace h1 := h1.below hB
  replace h2 := h2.below hB
  obtain ⟨c1_hX_0, c1_hX_1⟩ := hX.cells2
  obtain ⟨c1_hY_0, c1_hY_1⟩ := hY.cells2
  obtain ⟨c1_hM_0, c1_hM_1⟩ := hM.cells2
  go_enter Tryd.func5, Tryd.ntmps5
  go_wp2_with fail
  rw [← hW'.out.1, ← hW'.out.2]
  refine (hF1 _ h1).mono ?_
  rintro e w1 ⟨rfl, b1⟩
  replace h1 := h1.below b1
  replace h2 := h2.below b1
  replace hX := hX.below b1 hX.lt
  replace hY := hY.below b1 hY.lt
  replace hM := hM.below b1 hM.lt
  replace hB := hB.trans (b1.mono hB.size)
  clear c1_hX_0 c1_hX_1 c1_hY_0 c1_hY_1 c1_hM_0 c1_hM_1
  obtain ⟨c2_hX_0, c2_hX_1⟩ := hX.cells2
  obtain ⟨c2_hY_0, c2_hY_1⟩ := hY.cells2
  obtain ⟨c2_hM_0, c2_hM_1⟩ := hM.cells2
  go_wp2_with fail
  refine (hF2 _ h2).mono ?_
  rintro e w2 ⟨rfl, b2⟩
  replace h1 := h1.below b2
  replace h2 := h2.below b2
  replace hX := hX.below b2 hX.lt
  replace hY := hY.below b2 hY.lt
  replace hM := hM.below b2 hM.lt
  replace hB := hB.trans (b2.mono hB.size)
  clear c2_hX_0 c2_hX_1 c2_hY_0 c2_hY_1 c2_hM_0 c2_hM_1
  obtain ⟨c3_hX_0, c3_hX_1⟩ := hX.cells2
  obtain ⟨c3_hY_0, c3_hY_1⟩ := hY.cells2
  obtain ⟨c3_hM_0, c3_hM_1⟩ := hM.cells2
  go_wp2_with fail
  refine (hC _ _ _ (z1.below hB) (z2.below hB)).mono ?_
  rintro e w3 ⟨rfl, b3⟩
  replace h1 := h1.below b3
  replace h2 := h2.below b3
  replace hX := hX.below b3 hX.lt
  replace hY := hY.below b3 hY.lt
  replace hM := hM.below b3 hM.lt
  replace hB := hB.trans (b3.mono hB.size)
  clear c3_hX_0 c3_hX_1 c3_hY_0 c3_hY_1 c3_hM_0 c3_hM_1
  obtain ⟨c4_hX_0, c4_hX_1⟩ := hX.cells2
  obtain ⟨c4_hY_0, c4_hY_1⟩ := hY.cells2
  obtain ⟨c4_hM_0, c4_hM_1⟩ := hM.cells2
  go_upto_region 4 with fail
  clear c4_hX_0 c4_hX_1 c4_hY_0 c4_hY_1 c4_hM_0 c4_hM_1
  replace hB := hB.drew
  replace hX := hX.drew
  replace hY := hY.drew
  replace hM := hM.drew
  clear h1 h2 f1 f2 hF1 hF2
  refine wp_region_join (fun n1 n2 A1 L1 C1 A2 L2 C2 => ⟨#[.agg #[.bool sg1, .slice B1 l1.length D1], .agg #[.bool sg2, .slice B2 l2.length D2], .agg #[.int .i64 m0, .int .i64 m1], .pointer (some ⟨g, 0, none⟩), .pointer (some ⟨g + 1, 0, none⟩), .pointer (some ⟨g + 1 + 1, 0, none⟩), .bool false, .int .i64 cm, .pointer (some ⟨n1, 0, none⟩), .pointer (some ⟨n2, 0, none⟩), undef, undef, undef, undef, undef, .agg #[.bool sg1, .slice B1 l1.length D1], .bool true, .bool false, .bool false, .agg #[.bool sg2, .slice B2 l2.length D2], .bool true, .bool false, .bool false, undef, .agg #[.bool sg1, .slice B1 l1.length D1], .agg #[.bool sg2, .slice B2 l2.length D2], .int .i64 cm, .pointer (some ⟨g + 1 + 1, 0, none⟩), .int .i64 m0, .agg #[.bool pc, .slice A1 L1 C1], .pointer (some ⟨g + 1 + 1, 1, none⟩), .int .i64 m1, .agg #[.bool pd, .slice A2 L2 C2], undef, undef, undef, undef, undef, undef, undef, undef, undef, undef, undef, undef, undef, undef, undef, undef, undef, undef, undef, undef, undef, undef, undef, undef, undef, undef, undef, undef, undef, undef, undef, undef, undef, undef, undef, undef, undef, undef, undef, undef, undef, undef, undef, undef, undef, undef, undef, undef, undef, undef, undef, undef, undef, undef, undef, undef, undef, undef, undef, undef, undef, undef, undef, undef, undef, undef, undef, undef, undef, undef, undef, undef, undef, undef, undef, undef, undef, undef, undef, undef, undef, undef, undef, undef, undef, undef], []⟩) (fun w' n1 n2 A1 L1 C1 A2 L2 C2 => Blk w' n1 25 #[.bool pc, .slice A1 L1 C1] ∧ Blk w' n2 25 #[.bool pd, .slice A2 L2 C2] ∧ IsZ w' (.agg #[.bool pc, .slice A1 L1 C1]) m0 ∧ IsZ w' (.agg #[.bool pd, .slice A2 L2 C2]) m1 ∧ Below w.heap.size w w' ∧ n1 ≠ n2 ∧ g + 1 + 1 < n1 ∧ g + 1 + 1 < n2 ∧ Blk w' (g) 25 #[.bool sg1, .slice B1 l1.length D1] ∧ Blk w' (g + 1) 25 #[.bool sg2, .slice B2 l2.length D2] ∧ Blk w' (g + 1 + 1) 38 #[.int .i64 m0, .int .i64 m1]) ?trfone ?trftwo
  case trfone =>
    refine wp_region_held_drew (S := fun w' => w'.cell? ⟨g + 1 + 1, 0, none⟩ = some (.int .i64 m0) ∧ w'.cell? ⟨g + 1 + 1, 1, none⟩ = some (.int .i64 m1)) (by kernel_rfl) ?_ (fun hHeld => ?_)
    · exact hM.cells2
    obtain ⟨wd, hwd⟩ : ∃ q, q = (w3.drew) := ⟨_, rfl⟩
    rw [← hwd] at hB hX hY hM hHeld ⊢
    clear hwd
    refine wpAnyH_take (i := 0) (v := ?trfv0) rfl (by kernel_rfl) (by kernel_rfl) (by kernel_rfl) (fun _ _ _ h => h) (Or.inl ⟨by kernel_rfl, ?trfhy0⟩) (by assumption) ?trfrest0
    case trfhy0 => (intro w hSw; (try dsimp only at hSw); go_simp; try (with_reducible rfl))
    try simp only [Act.put, lay1, lay2, lay3, lay4, lay5, lay6]
    refine wpAnyH_take (i := 1) (v := ?trfv1) rfl (by kernel_rfl) (by kernel_rfl) (by kernel_rfl) (fun _ _ _ h => h) (Or.inl ⟨by kernel_rfl, ?trfhy1⟩) (by assumption) ?trfrest1
    case trfhy1 => (intro w hSw; (try dsimp only at hSw); go_simp; try (with_reducible rfl))
    try simp only [Act.put, lay1, lay2, lay3, lay4, lay5, lay6]
    refine wpAnyH_take (i := 3) (v := ?trfv3) rfl (by kernel_rfl) (by kernel_rfl) (by kernel_rfl) (fun _ _ _ h => h) (Or.inl ⟨by kernel_rfl, ?trfhy3⟩) (by assumption) ?trfrest3
    case trfhy3 => (intro w hSw; (try dsimp only at hSw); go_simp; try (with_reducible rfl))
    try simp only [Act.put, lay1, lay2, lay3, lay4, lay5, lay6]
    refine wpAnyH_take (i := 4) (v := ?trfv4) rfl (by kernel_rfl) (by kernel_rfl) (by kernel_rfl) (fun _ _ _ h => h) (Or.inl ⟨by kernel_rfl, ?trfhy4⟩) (by assumption) ?trfrest4
    case trfhy4 => (intro w hSw; (try dsimp only at hSw); go_simp; try (with_reducible rfl))
    try simp only [Act.put, lay1, lay2, lay3, lay4, lay5, lay6]
    refine wpAnyH_ready (rs := [2, 6, 7]) (by kernel_rfl) (by simp) ?_
    refine AllReadyH.cons rfl (fun K hK => ?_) (AllReadyH.cons rfl (fun K hK => ?_) (AllReadyH.cons rfl (fun K hK => ?_) AllReadyH.nil))
    · go_simp
      refine (hO0 _).mono ?_
      rintro e u1 ⟨A1, L1, C1, rfl, r1, b1⟩
      replace hB := hB.trans (b1.mono hB.size)
      replace hX := hX.below b1 hX.lt
      replace hY := hY.below b1 hY.lt
      replace hM := hM.below b1 hM.lt
      go_wp2_with fail
      refine hK.out _ _ ?_ (fun hHeld => ?_)
      · exact hM.cells2
      clear hK K
      try simp only [Act.put, lay1, lay2, lay3, lay4, lay5, lay6]
      refine wpAnyH_ready (rs := [5, 6, 7]) (by kernel_rfl) (by simp) ?_
      refine AllReadyH.cons rfl (fun K hK => ?_) (AllReadyH.cons rfl (fun K hK => ?_) (AllReadyH.cons rfl (fun K hK => ?_) AllReadyH.nil))
      · go_simp
        refine (hO1 _).mono ?_
        rintro e u2 ⟨A2, L2, C2, rfl, r2, b2⟩
        replace hB := hB.trans (b2.mono hB.size)
        replace r1 := r1.below b2
        replace hX := hX.below b2 hX.lt
        replace hY := hY.below b2 hY.lt
        replace hM := hM.below b2 hM.lt
        go_wp2_with fail
        refine hK.out _ _ ?_ (fun hHeld => ?_)
        · exact hM.cells2
        clear hK K
        try simp only [Act.put, lay1, lay2, lay3, lay4, lay5, lay6]
        refine wpAnyH_ready (rs := [6, 7]) (by kernel_rfl) (by simp) ?_
        refine AllReadyH.cons rfl (fun K hK => ?_) (AllReadyH.cons rfl (fun K hK => ?_) AllReadyH.nil)
        · obtain ⟨u3, eu, g1, b3⟩ := box1 u2 25 #[.bool false, .slice none 0 0]
          obtain ⟨n1, en⟩ : ∃ X, X = u2.heap.size := ⟨_, rfl⟩
          rw [← en] at g1
          have o1 : g + 1 + 1 < n1 := by rw [en]; exact hM.lt
          have q1 : w.heap.size ≤ n1 := by rw [en]; exact hB.size
          have EU := Lib.hid (And.intro eu en)
          clear eu en
          go_simp
          rw [← EU.out.1, ← EU.out.2]
          replace hB := hB.trans (b3.mono hB.size)
          replace r1 := r1.below b3
          replace r2 := r2.below b3
          replace hX := hX.below b3 hX.lt
          replace hY := hY.below b3 hY.lt
          replace hM := hM.below b3 hM.lt
          refine hK.out _ _ ?_ (fun hHeld => ?_)
          · exact hM.cells2
          clear hK K
          try simp only [Act.put, lay1, lay2, lay3, lay4, lay5, lay6]
          refine wpAnyH_ready (rs := [7]) (by kernel_rfl) (by simp) ?_
          refine AllReadyH.cons rfl (fun K hK => ?_) AllReadyH.nil
          · obtain ⟨u4, eu, g2, b4⟩ := box1 u3 25 #[.bool false, .slice none 0 0]
            obtain ⟨n2, en⟩ : ∃ X, X = u3.heap.size := ⟨_, rfl⟩
            rw [← en] at g2
            have o2 : g + 1 + 1 < n2 := by rw [en]; exact hM.lt
            have q2 : w.heap.size ≤ n2 := by rw [en]; exact hB.size
            have dd : n1 ≠ n2 := by have := g1.lt; omega
            have EU := Lib.hid (And.intro eu en)
            clear eu en
            go_simp
            rw [← EU.out.1, ← EU.out.2]
            replace hB := hB.trans (b4.mono hB.size)
            replace r1 := r1.below b4
            replace r2 := r2.below b4
            replace hX := hX.below b4 hX.lt
            replace hY := hY.below b4 hY.lt
            replace hM := hM.below b4 hM.lt
            replace g1 := g1.below b4 g1.lt
            refine hK.out _ _ ?_ (fun hHeld => ?_)
            · exact hM.cells2
            clear hK K
            try simp only [Act.put, lay1, lay2, lay3, lay4, lay5, lay6]
            obtain ⟨u5, eu, g1', kz, kb, kB⟩ := put_zed g1 (.bool pc) (.slice A1 L1 C1) (by simp [noU])
            refine wpAnyH_ready (rs := [8]) (by kernel_rfl) (by simp) ?_
            refine AllReadyH.cons rfl (fun K hK => ?_) AllReadyH.nil
            have x0 := g1.cell 0
            have x1 := g1.cell 1
            have x2 := g1.frozen
            go_simp
            rw [← eu]
            replace hX := kb _ _ _ hX (by omega)
            replace hY := kb _ _ _ hY (by omega)
            replace hM := kb _ _ _ hM (by omega)
            replace g2 := kb _ _ _ g2 (by omega)
            replace r1 := kz _ _ r1
            replace r2 := kz _ _ r2
            replace hB := kB _ _ q1 hB
            replace g1 := g1'
            clear g1' kz kb kB eu x0 x1 x2
            refine hK.out _ _ ?_ (fun hHeld => ?_)
            · exact hM.cells2
            clear hK K
            try simp only [Act.put, lay1, lay2, lay3, lay4, lay5, lay6]
            obtain ⟨u6, eu, g2', kz, kb, kB⟩ := put_zed g2 (.bool pd) (.slice A2 L2 C2) (by simp [noU])
            refine wpAnyH_ready (rs := [9]) (by kernel_rfl) (by simp) ?_
            refine AllReadyH.cons rfl (fun K hK => ?_) AllReadyH.nil
            have x0 := g2.cell 0
            have x1 := g2.cell 1
            have x2 := g2.frozen
            go_simp
            rw [← eu]
            replace hX := kb _ _ _ hX (by omega)
            replace hY := kb _ _ _ hY (by omega)
            replace hM := kb _ _ _ hM (by omega)
            replace g1 := kb _ _ _ g1 (by omega)
            replace r1 := kz _ _ r1
            replace r2 := kz _ _ r2
            replace hB := kB _ _ q2 hB
            replace g2 := g2'
            clear g2' kz kb kB eu x0 x1 x2
            refine hK.out _ _ ?_ (fun hHeld => ?_)
            · exact hM.cells2
            clear hK K
            try simp only [Act.put, lay1, lay2, lay3, lay4, lay5, lay6]
            refine wpAnyH_done (by kernel_rfl) ?_ _
            dsimp only [OnlyN]
            exact ⟨n1, n2, A1, L1, C1, A2, L2, C2, rfl, g1, g2, r1, r2, hB, dd, o1, o2, hX, hY, hM⟩
        · obtain ⟨u7, eu, g2, b7⟩ := box1 u2 25 #[.bool false, .slice none 0 0]
          obtain ⟨n2, en⟩ : ∃ X, X = u2.heap.size := ⟨_, rfl⟩
          rw [← en] at g2
          have o2 : g + 1 + 1 < n2 := by rw [en]; exact hM.lt
          have q2 : w.heap.size ≤ n2 := by rw [en]; exact hB.size
          have EU := Lib.hid (And.intro eu en)
          clear eu en
          go_simp
          rw [← EU.out.1, ← EU.out.2]
          replace hB := hB.trans (b7.mono hB.size)
          replace r1 := r1.below b7
          replace r2 := r2.below b7
          replace hX := hX.below b7 hX.lt
          replace hY := hY.below b7 hY.lt
          replace hM := hM.below b7 hM.lt
          refine hK.out _ _ ?_ (fun hHeld => ?_)
          · exact hM.cells2
          clear hK K
          try simp only [Act.put, lay1, lay2, lay3, lay4, lay5, lay6]
          refine wpAnyH_ready (rs := [6]) (by kernel_rfl) (by simp) ?_
          refine AllReadyH.cons rfl (fun K hK => ?_) AllReadyH.nil
          · obtain ⟨u8, eu, g1, b8⟩ := box1 u7 25 #[.bool false, .slice none 0 0]
            obtain ⟨n1, en⟩ : ∃ X, X = u7.heap.size := ⟨_, rfl⟩
            rw [← en] at g1
            have o1 : g + 1 + 1 < n1 := by rw [en]; exact hM.lt
            have q1 : w.heap.size ≤ n1 := by rw [en]; exact hB.size
            have dd : n1 ≠ n2 := by have := g2.lt; omega
            have EU := Lib.hid (And.intro eu en)
            clear eu en
            go_simp
            rw [← EU.out.1, ← EU.out.2]
            replace hB := hB.trans (b8.mono hB.size)
            replace r1 := r1.below b8
            replace r2 := r2.below b8
            replace hX := hX.below b8 hX.lt
            replace hY := hY.below b8 hY.lt
            replace hM := hM.below b8 hM.lt
            replace g2 := g2.below b8 g2.lt
            refine hK.out _ _ ?_ (fun hHeld => ?_)
            · exact hM.cells2
            clear hK K
            try simp only [Act.put, lay1, lay2, lay3, lay4, lay5, lay6]
            obtain ⟨u9, eu, g1', kz, kb, kB⟩ := put_zed g1 (.bool pc) (.slice A1 L1 C1) (by simp [noU])
            refine wpAnyH_ready (rs := [8]) (by kernel_rfl) (by simp) ?_
            refine AllReadyH.cons rfl (fun K hK => ?_) AllReadyH.nil
            have x0 := g1.cell 0
            have x1 := g1.cell 1
            have x2 := g1.frozen
            go_simp
            rw [← eu]
            replace hX := kb _ _ _ hX (by omega)
            replace hY := kb _ _ _ hY (by omega)
            replace hM := kb _ _ _ hM (by omega)
            replace g2 := kb _ _ _ g2 (by omega)
            replace r1 := kz _ _ r1
            replace r2 := kz _ _ r2
            replace hB := kB _ _ q1 hB
            replace g1 := g1'
            clear g1' kz kb kB eu x0 x1 x2
            refine hK.out _ _ ?_ (fun hHeld => ?_)
            · exact hM.cells2
            clear hK K
            try simp only [Act.put, lay1, lay2, lay3, lay4, lay5, lay6]
            obtain ⟨u10, eu, g2', kz, kb, kB⟩ := put_zed g2 (.bool pd) (.slice A2 L2 C2) (by simp [noU])
            refine wpAnyH_ready (rs := [9]) (by kernel_rfl) (by simp) ?_
            refine AllReadyH.cons rfl (fun K hK => ?_) AllReadyH.nil
            have x0 := g2.cell 0
            have x1 := g2.cell 1
            have x2 := g2.frozen
            go_simp
            rw [← eu]
            replace hX := kb _ _ _ hX (by omega)
            replace hY := kb _ _ _ hY (by omega)
            replace hM := kb _ _ _ hM (by omega)
            replace g1 := kb _ _ _ g1 (by omega)
            replace r1 := kz _ _ r1
            replace r2 := kz _ _ r2
            replace hB := kB _ _ q2 hB
            replace g2 := g2'
            clear g2' kz kb kB eu x0 x1 x2
            refine hK.out _ _ ?_ (fun hHeld => ?_)
            · exact hM.cells2
            clear hK K
            try simp only [Act.put, lay1, lay2, lay3, lay4, lay5, lay6]
            refine wpAnyH_done (by kernel_rfl) ?_ _
            dsimp only [OnlyN]
            exact ⟨n1, n2, A1, L1, C1, A2, L2, C2, rfl, g1, g2, r1, r2, hB, dd, o1, o2, hX, hY, hM⟩
      · obtain ⟨u11, eu, g1, b11⟩ := box1 u1 25 #[.bool false, .slice none 0 0]
        obtain ⟨n1, en⟩ : ∃ X, X = u1.heap.size := ⟨_, rfl⟩
        rw [← en] at g1
        have o1 : g + 1 + 1 < n1 := by rw [en]; exact hM.lt
        have q1 : w.heap.size ≤ n1 := by rw [en]; exact hB.size
        have EU := Lib.hid (And.intro eu en)
        clear eu en
        go_simp
        rw [← EU.out.1, ← EU.out.2]
        replace hB := hB.trans (b11.mono hB.size)
        replace r1 := r1.below b11
        replace hX := hX.below b11 hX.lt
        replace hY := hY.below b11 hY.lt
        replace hM := hM.below b11 hM.lt
        refine hK.out _ _ ?_ (fun hHeld => ?_)
        · exact hM.cells2
        clear hK K
        try simp only [Act.put, lay1, lay2, lay3, lay4, lay5, lay6]
        refine wpAnyH_ready (rs := [5, 7]) (by kernel_rfl) (by simp) ?_
        refine AllReadyH.cons rfl (fun K hK => ?_) (AllReadyH.cons rfl (fun K hK => ?_) AllReadyH.nil)
        · go_simp
          refine (hO1 _).mono ?_
          rintro e u12 ⟨A2, L2, C2, rfl, r2, b12⟩
          replace hB := hB.trans (b12.mono hB.size)
          replace r1 := r1.below b12
          replace hX := hX.below b12 hX.lt
          replace hY := hY.below b12 hY.lt
          replace hM := hM.below b12 hM.lt
          replace g1 := g1.below b12 g1.lt
          go_wp2_with fail
          refine hK.out _ _ ?_ (fun hHeld => ?_)
          · exact hM.cells2
          clear hK K
          try simp only [Act.put, lay1, lay2, lay3, lay4, lay5, lay6]
          refine wpAnyH_ready (rs := [7]) (by kernel_rfl) (by simp) ?_
          refine AllReadyH.cons rfl (fun K hK => ?_) AllReadyH.nil
          · obtain ⟨u13, eu, g2, b13⟩ := box1 u12 25 #[.bool false, .slice none 0 0]
            obtain ⟨n2, en⟩ : ∃ X, X = u12.heap.size := ⟨_, rfl⟩
            rw [← en] at g2
            have o2 : g + 1 + 1 < n2 := by rw [en]; exact hM.lt
            have q2 : w.heap.size ≤ n2 := by rw [en]; exact hB.size
            have dd : n1 ≠ n2 := by have := g1.lt; omega
            have EU := Lib.hid (And.intro eu en)
            clear eu en
            go_simp
            rw [← EU.out.1, ← EU.out.2]
            replace hB := hB.trans (b13.mono hB.size)
            replace r1 := r1.below b13
            replace r2 := r2.below b13
            replace hX := hX.below b13 hX.lt
            replace hY := hY.below b13 hY.lt
            replace hM := hM.below b13 hM.lt
            replace g1 := g1.below b13 g1.lt
            refine hK.out _ _ ?_ (fun hHeld => ?_)
            · exact hM.cells2
            clear hK K
            try simp only [Act.put, lay1, lay2, lay3, lay4, lay5, lay6]
            obtain ⟨u14, eu, g1', kz, kb, kB⟩ := put_zed g1 (.bool pc) (.slice A1 L1 C1) (by simp [noU])
            refine wpAnyH_ready (rs := [8]) (by kernel_rfl) (by simp) ?_
            refine AllReadyH.cons rfl (fun K hK => ?_) AllReadyH.nil
            have x0 := g1.cell 0
            have x1 := g1.cell 1
            have x2 := g1.frozen
            go_simp
            rw [← eu]
            replace hX := kb _ _ _ hX (by omega)
            replace hY := kb _ _ _ hY (by omega)
            replace hM := kb _ _ _ hM (by omega)
            replace g2 := kb _ _ _ g2 (by omega)
            replace r1 := kz _ _ r1
            replace r2 := kz _ _ r2
            replace hB := kB _ _ q1 hB
            replace g1 := g1'
            clear g1' kz kb kB eu x0 x1 x2
            refine hK.out _ _ ?_ (fun hHeld => ?_)
            · exact hM.cells2
            clear hK K
            try simp only [Act.put, lay1, lay2, lay3, lay4, lay5, lay6]
            obtain ⟨u15, eu, g2', kz, kb, kB⟩ := put_zed g2 (.bool pd) (.slice A2 L2 C2) (by simp [noU])
            refine wpAnyH_ready (rs := [9]) (by kernel_rfl) (by simp) ?_
            refine AllReadyH.cons rfl (fun K hK => ?_) AllReadyH.nil
            have x0 := g2.cell 0
            have x1 := g2.cell 1
            have x2 := g2.frozen
            go_simp
            rw [← eu]
            replace hX := kb _ _ _ hX (by omega)
            replace hY := kb _ _ _ hY (by omega)
            replace hM := kb _ _ _ hM (by omega)
            replace g1 := kb _ _ _ g1 (by omega)
            replace r1 := kz _ _ r1
            replace r2 := kz _ _ r2
            replace hB := kB _ _ q2 hB
            replace g2 := g2'
            clear g2' kz kb kB eu x0 x1 x2
            refine hK.out _ _ ?_ (fun hHeld => ?_)
            · exact hM.cells2
            clear hK K
            try simp only [Act.put, lay1, lay2, lay3, lay4, lay5, lay6]
            refine wpAnyH_done (by kernel_rfl) ?_ _
            dsimp only [OnlyN]
            exact ⟨n1, n2, A1, L1, C1, A2, L2, C2, rfl, g1, g2, r1, r2, hB, dd, o1, o2, hX, hY, hM⟩
        · obtain ⟨u16, eu, g2, b16⟩ := box1 u11 25 #[.bool false, .slice none 0 0]
          obtain ⟨n2, en⟩ : ∃ X, X = u11.heap.size := ⟨_, rfl⟩
          rw [← en] at g2
          have o2 : g + 1 + 1 < n2 := by rw [en]; exact hM.lt
          have q2 : w.heap.size ≤ n2 := by rw [en]; exact hB.size
          have dd : n1 ≠ n2 := by have := g1.lt; omega
          have EU := Lib.hid (And.intro eu en)
          clear eu en
          go_simp
          rw [← EU.out.1, ← EU.out.2]
          replace hB := hB.trans (b16.mono hB.size)
          replace r1 := r1.below b16
          replace hX := hX.below b16 hX.lt
          replace hY := hY.below b16 hY.lt
          replace hM := hM.below b16 hM.lt
          replace g1 := g1.below b16 g1.lt
          refine hK.out _ _ ?_ (fun hHeld => ?_)
          · exact hM.cells2
          clear hK K
          try simp only [Act.put, lay1, lay2, lay3, lay4, lay5, lay6]
          refine wpAnyH_ready (rs := [5]) (by kernel_rfl) (by simp) ?_
          refine AllReadyH.cons rfl (fun K hK => ?_) AllReadyH.nil
          · go_simp
            refine (hO1 _).mono ?_
            rintro e u17 ⟨A2, L2, C2, rfl, r2, b17⟩
            replace hB := hB.trans (b17.mono hB.size)
            replace r1 := r1.below b17
            replace hX := hX.below b17 hX.lt
            replace hY := hY.below b17 hY.lt
            replace hM := hM.below b17 hM.lt
            replace g1 := g1.below b17 g1.lt
            replace g2 := g2.below b17 g2.lt
            go_wp2_with fail
            refine hK.out _ _ ?_ (fun hHeld => ?_)
            · exact hM.cells2
            clear hK K
            try simp only [Act.put, lay1, lay2, lay3, lay4, lay5, lay6]
            obtain ⟨u18, eu, g1', kz, kb, kB⟩ := put_zed g1 (.bool pc) (.slice A1 L1 C1) (by simp [noU])
            refine wpAnyH_ready (rs := [8]) (by kernel_rfl) (by simp) ?_
            refine AllReadyH.cons rfl (fun K hK => ?_) AllReadyH.nil
            have x0 := g1.cell 0
            have x1 := g1.cell 1
            have x2 := g1.frozen
            go_simp
            rw [← eu]
            replace hX := kb _ _ _ hX (by omega)
            replace hY := kb _ _ _ hY (by omega)
            replace hM := kb _ _ _ hM (by omega)
            replace g2 := kb _ _ _ g2 (by omega)
            replace r1 := kz _ _ r1
            replace r2 := kz _ _ r2
            replace hB := kB _ _ q1 hB
            replace g1 := g1'
            clear g1' kz kb kB eu x0 x1 x2
            refine hK.out _ _ ?_ (fun hHeld => ?_)
            · exact hM.cells2
            clear hK K
            try simp only [Act.put, lay1, lay2, lay3, lay4, lay5, lay6]
            obtain ⟨u19, eu, g2', kz, kb, kB⟩ := put_zed g2 (.bool pd) (.slice A2 L2 C2) (by simp [noU])
            refine wpAnyH_ready (rs := [9]) (by kernel_rfl) (by simp) ?_
            refine AllReadyH.cons rfl (fun K hK => ?_) AllReadyH.nil
            have x0 := g2.cell 0
            have x1 := g2.cell 1
            have x2 := g2.frozen
            go_simp
            rw [← eu]
            replace hX := kb _ _ _ hX (by omega)
            replace hY := kb _ _ _ hY (by omega)
            replace hM := kb _ _ _ hM (by omega)
            replace g1 := kb _ _ _ g1 (by omega)
            replace r1 := kz _ _ r1
            replace r2 := kz _ _ r2
            replace hB := kB _ _ q2 hB
            replace g2 := g2'
            clear g2' kz kb kB eu x0 x1 x2
            refine hK.out _ _ ?_ (fun hHeld => ?_)
            · exact hM.cells2
            clear hK K
            try simp only [Act.put, lay1, lay2, lay3, lay4, lay5, lay6]
            refine wpAnyH_done (by kernel_rfl) ?_ _
            dsimp only [OnlyN]
            exact ⟨n1, n2, A1, L1, C1, A2, L2, C2, rfl, g1, g2, r1, r2, hB, dd, o1, o2, hX, hY, hM⟩
      · obtain ⟨u20, eu, g2, b20⟩ := box1 u1 25 #[.bool false, .slice none 0 0]
        obtain ⟨n2, en⟩ : ∃ X, X = u1.heap.size := ⟨_, rfl⟩
        rw [← en] at g2
        have o2 : g + 1 + 1 < n2 := by rw [en]; exact hM.lt
        have q2 : w.heap.size ≤ n2 := by rw [en]; exact hB.size
        have EU := Lib.hid (And.intro eu en)
        clear eu en
        go_simp
        rw [← EU.out.1, ← EU.out.2]
        replace hB := hB.trans (b20.mono hB.size)
        replace r1 := r1.below b20
        replace hX := hX.below b20 hX.lt
        replace hY := hY.below b20 hY.lt
        replace hM := hM.below b20 hM.lt
        refine hK.out _ _ ?_ (fun hHeld => ?_)
        · exact hM.cells2
        clear hK K
        try simp only [Act.put, lay1, lay2, lay3, lay4, lay5, lay6]
        refine wpAnyH_ready (rs := [5, 6]) (by kernel_rfl) (by simp) ?_
        refine AllReadyH.cons rfl (fun K hK => ?_) (AllReadyH.cons rfl (fun K hK => ?_) AllReadyH.nil)
        · go_simp
          refine (hO1 _).mono ?_
          rintro e u21 ⟨A2, L2, C2, rfl, r2, b21⟩
          replace hB := hB.trans (b21.mono hB.size)
          replace r1 := r1.below b21
          replace hX := hX.below b21 hX.lt
          replace hY := hY.below b21 hY.lt
          replace hM := hM.below b21 hM.lt
          replace g2 := g2.below b21 g2.lt
          go_wp2_with fail
          refine hK.out _ _ ?_ (fun hHeld => ?_)
          · exact hM.cells2
          clear hK K
          try simp only [Act.put, lay1, lay2, lay3, lay4, lay5, lay6]
          refine wpAnyH_ready (rs := [6]) (by kernel_rfl) (by simp) ?_
          refine AllReadyH.cons rfl (fun K hK => ?_) AllReadyH.nil
          · obtain ⟨u22, eu, g1, b22⟩ := box1 u21 25 #[.bool false, .slice none 0 0]
            obtain ⟨n1, en⟩ : ∃ X, X = u21.heap.size := ⟨_, rfl⟩
            rw [← en] at g1
            have o1 : g + 1 + 1 < n1 := by rw [en]; exact hM.lt
            have q1 : w.heap.size ≤ n1 := by rw [en]; exact hB.size
            have dd : n1 ≠ n2 := by have := g2.lt; omega
            have EU := Lib.hid (And.intro eu en)
            clear eu en
            go_simp
            rw [← EU.out.1, ← EU.out.2]
            replace hB := hB.trans (b22.mono hB.size)
            replace r1 := r1.below b22
            replace r2 := r2.below b22
            replace hX := hX.below b22 hX.lt
            replace hY := hY.below b22 hY.lt
            replace hM := hM.below b22 hM.lt
            replace g2 := g2.below b22 g2.lt
            refine hK.out _ _ ?_ (fun hHeld => ?_)
            · exact hM.cells2
            clear hK K
            try simp only [Act.put, lay1, lay2, lay3, lay4, lay5, lay6]
            obtain ⟨u23, eu, g1', kz, kb, kB⟩ := put_zed g1 (.bool pc) (.slice A1 L1 C1) (by simp [noU])
            refine wpAnyH_ready (rs := [8]) (by kernel_rfl) (by simp) ?_
            refine AllReadyH.cons rfl (fun K hK => ?_) AllReadyH.nil
            have x0 := g1.cell 0
            have x1 := g1.cell 1
            have x2 := g1.frozen
            go_simp
            rw [← eu]
            replace hX := kb _ _ _ hX (by omega)
            replace hY := kb _ _ _ hY (by omega)
            replace hM := kb _ _ _ hM (by omega)
            replace g2 := kb _ _ _ g2 (by omega)
            replace r1 := kz _ _ r1
            replace r2 := kz _ _ r2
            replace hB := kB _ _ q1 hB
            replace g1 := g1'
            clear g1' kz kb kB eu x0 x1 x2
            refine hK.out _ _ ?_ (fun hHeld => ?_)
            · exact hM.cells2
            clear hK K
            try simp only [Act.put, lay1, lay2, lay3, lay4, lay5, lay6]
            obtain ⟨u24, eu, g2', kz, kb, kB⟩ := put_zed g2 (.bool pd) (.slice A2 L2 C2) (by simp [noU])
            refine wpAnyH_ready (rs := [9]) (by kernel_rfl) (by simp) ?_
            refine AllReadyH.cons rfl (fun K hK => ?_) AllReadyH.nil
            have x0 := g2.cell 0
            have x1 := g2.cell 1
            have x2 := g2.frozen
            go_simp
            rw [← eu]
            replace hX := kb _ _ _ hX (by omega)
            replace hY := kb _ _ _ hY (by omega)
            replace hM := kb _ _ _ hM (by omega)
            replace g1 := kb _ _ _ g1 (by omega)
            replace r1 := kz _ _ r1
            replace r2 := kz _ _ r2
            replace hB := kB _ _ q2 hB
            replace g2 := g2'
            clear g2' kz kb kB eu x0 x1 x2
            refine hK.out _ _ ?_ (fun hHeld => ?_)
            · exact hM.cells2
            clear hK K
            try simp only [Act.put, lay1, lay2, lay3, lay4, lay5, lay6]
            refine wpAnyH_done (by kernel_rfl) ?_ _
            dsimp only [OnlyN]
            exact ⟨n1, n2, A1, L1, C1, A2, L2, C2, rfl, g1, g2, r1, r2, hB, dd, o1, o2, hX, hY, hM⟩
        · obtain ⟨u25, eu, g1, b25⟩ := box1 u20 25 #[.bool false, .slice none 0 0]
          obtain ⟨n1, en⟩ : ∃ X, X = u20.heap.size := ⟨_, rfl⟩
          rw [← en] at g1
          have o1 : g + 1 + 1 < n1 := by rw [en]; exact hM.lt
          have q1 : w.heap.size ≤ n1 := by rw [en]; exact hB.size
          have dd : n1 ≠ n2 := by have := g2.lt; omega
          have EU := Lib.hid (And.intro eu en)
          clear eu en
          go_simp
          rw [← EU.out.1, ← EU.out.2]
          replace hB := hB.trans (b25.mono hB.size)
          replace r1 := r1.below b25
          replace hX := hX.below b25 hX.lt
          replace hY := hY.below b25 hY.lt
          replace hM := hM.below b25 hM.lt
          replace g2 := g2.below b25 g2.lt
          refine hK.out _ _ ?_ (fun hHeld => ?_)
          · exact hM.cells2
          clear hK K
          try simp only [Act.put, lay1, lay2, lay3, lay4, lay5, lay6]
          refine wpAnyH_ready (rs := [5]) (by kernel_rfl) (by simp) ?_
          refine AllReadyH.cons rfl (fun K hK => ?_) AllReadyH.nil
          · go_simp
            refine (hO1 _).mono ?_
            rintro e u26 ⟨A2, L2, C2, rfl, r2, b26⟩
            replace hB := hB.trans (b26.mono hB.size)
            replace r1 := r1.below b26
            replace hX := hX.below b26 hX.lt
            replace hY := hY.below b26 hY.lt
            replace hM := hM.below b26 hM.lt
            replace g1 := g1.below b26 g1.lt
            replace g2 := g2.below b26 g2.lt
            go_wp2_with fail
            refine hK.out _ _ ?_ (fun hHeld => ?_)
            · exact hM.cells2
            clear hK K
            try simp only [Act.put, lay1, lay2, lay3, lay4, lay5, lay6]
            obtain ⟨u27, eu, g1', kz, kb, kB⟩ := put_zed g1 (.bool pc) (.slice A1 L1 C1) (by simp [noU])
            refine wpAnyH_ready (rs := [8]) (by kernel_rfl) (by simp) ?_
            refine AllReadyH.cons rfl (fun K hK => ?_) AllReadyH.nil
            have x0 := g1.cell 0
            have x1 := g1.cell 1
            have x2 := g1.frozen
            go_simp
            rw [← eu]
            replace hX := kb _ _ _ hX (by omega)
            replace hY := kb _ _ _ hY (by omega)
            replace hM := kb _ _ _ hM (by omega)
            replace g2 := kb _ _ _ g2 (by omega)
            replace r1 := kz _ _ r1
            replace r2 := kz _ _ r2
            replace hB := kB _ _ q1 hB
            replace g1 := g1'
            clear g1' kz kb kB eu x0 x1 x2
            refine hK.out _ _ ?_ (fun hHeld => ?_)
            · exact hM.cells2
            clear hK K
            try simp only [Act.put, lay1, lay2, lay3, lay4, lay5, lay6]
            obtain ⟨u28, eu, g2', kz, kb, kB⟩ := put_zed g2 (.bool pd) (.slice A2 L2 C2) (by simp [noU])
            refine wpAnyH_ready (rs := [9]) (by kernel_rfl) (by simp) ?_
            refine AllReadyH.cons rfl (fun K hK => ?_) AllReadyH.nil
            have x0 := g2.cell 0
            have x1 := g2.cell 1
            have x2 := g2.frozen
            go_simp
            rw [← eu]
            replace hX := kb _ _ _ hX (by omega)
            replace hY := kb _ _ _ hY (by omega)
            replace hM := kb _ _ _ hM (by omega)
            replace g1 := kb _ _ _ g1 (by omega)
            replace r1 := kz _ _ r1
            replace r2 := kz _ _ r2
            replace hB := kB _ _ q2 hB
            replace g2 := g2'
            clear g2' kz kb kB eu x0 x1 x2
            refine hK.out _ _ ?_ (fun hHeld => ?_)
            · exact hM.cells2
            clear hK K
            try simp only [Act.put, lay1, lay2, lay3, lay4, lay5, lay6]
            refine wpAnyH_done (by kernel_rfl) ?_ _
            dsimp only [OnlyN]
            exact ⟨n1, n2, A1, L1, C1, A2, L2, C2, rfl, g1, g2, r1, r2, hB, dd, o1, o2, hX, hY, hM⟩
    · obtain ⟨u29, eu, g1, b29⟩ := box1 wd 25 #[.bool false, .slice none 0 0]
      obtain ⟨n1, en⟩ : ∃ X, X = wd.heap.size := ⟨_, rfl⟩
      rw [← en] at g1
      have o1 : g + 1 + 1 < n1 := by rw [en]; exact hM.lt
      have q1 : w.heap.size ≤ n1 := by rw [en]; exact hB.size
      have EU := Lib.hid (And.intro eu en)
      clear eu en
      go_simp
      rw [← EU.out.1, ← EU.out.2]
      replace hB := hB.trans (b29.mono hB.size)
      replace hX := hX.below b29 hX.lt
      replace hY := hY.below b29 hY.lt
      replace hM := hM.below b29 hM.lt
      refine hK.out _ _ ?_ (fun hHeld => ?_)
      · exact hM.cells2
      clear hK K
      try simp only [Act.put, lay1, lay2, lay3, lay4, lay5, lay6]
      refine wpAnyH_ready (rs := [2, 7]) (by kernel_rfl) (by simp) ?_
      refine AllReadyH.cons rfl (fun K hK => ?_) (AllReadyH.cons rfl (fun K hK => ?_) AllReadyH.nil)
      · go_simp
        refine (hO0 _).mono ?_
        rintro e u30 ⟨A1, L1, C1, rfl, r1, b30⟩
        replace hB := hB.trans (b30.mono hB.size)
        replace hX := hX.below b30 hX.lt
        replace hY := hY.below b30 hY.lt
        replace hM := hM.below b30 hM.lt
        replace g1 := g1.below b30 g1.lt
        go_wp2_with fail
        refine hK.out _ _ ?_ (fun hHeld => ?_)
        · exact hM.cells2
        clear hK K
        try simp only [Act.put, lay1, lay2, lay3, lay4, lay5, lay6]
        refine wpAnyH_ready (rs := [5, 7]) (by kernel_rfl) (by simp) ?_
        refine AllReadyH.cons rfl (fun K hK => ?_) (AllReadyH.cons rfl (fun K hK => ?_) AllReadyH.nil)
        · go_simp
          refine (hO1 _).mono ?_
          rintro e u31 ⟨A2, L2, C2, rfl, r2, b31⟩
          replace hB := hB.trans (b31.mono hB.size)
          replace r1 := r1.below b31
          replace hX := hX.below b31 hX.lt
          replace hY := hY.below b31 hY.lt
          replace hM := hM.below b31 hM.lt
          replace g1 := g1.below b31 g1.lt
          go_wp2_with fail
          refine hK.out _ _ ?_ (fun hHeld => ?_)
          · exact hM.cells2
          clear hK K
          try simp only [Act.put, lay1, lay2, lay3, lay4, lay5, lay6]
          refine wpAnyH_ready (rs := [7]) (by kernel_rfl) (by simp) ?_
          refine AllReadyH.cons rfl (fun K hK => ?_) AllReadyH.nil
          · obtain ⟨u32, eu, g2, b32⟩ := box1 u31 25 #[.bool false, .slice none 0 0]
            obtain ⟨n2, en⟩ : ∃ X, X = u31.heap.size := ⟨_, rfl⟩
            rw [← en] at g2
            have o2 : g + 1 + 1 < n2 := by rw [en]; exact hM.lt
            have q2 : w.heap.size ≤ n2 := by rw [en]; exact hB.size
            have dd : n1 ≠ n2 := by have := g1.lt; omega
            have EU := Lib.hid (And.intro eu en)
            clear eu en
            go_simp
            rw [← EU.out.1, ← EU.out.2]
            replace hB := hB.trans (b32.mono hB.size)
            replace r1 := r1.below b32
            replace r2 := r2.below b32
            replace hX := hX.below b32 hX.lt
            replace hY := hY.below b32 hY.lt
            replace hM := hM.below b32 hM.lt
            replace g1 := g1.below b32 g1.lt
            refine hK.out _ _ ?_ (fun hHeld => ?_)
            · exact hM.cells2
            clear hK K
            try simp only [Act.put, lay1, lay2, lay3, lay4, lay5, lay6]
            obtain ⟨u33, eu, g1', kz, kb, kB⟩ := put_zed g1 (.bool pc) (.slice A1 L1 C1) (by simp [noU])
            refine wpAnyH_ready (rs := [8]) (by kernel_rfl) (by simp) ?_
            refine AllReadyH.cons rfl (fun K hK => ?_) AllReadyH.nil
            have x0 := g1.cell 0
            have x1 := g1.cell 1
            have x2 := g1.frozen
            go_simp
            rw [← eu]
            replace hX := kb _ _ _ hX (by omega)
            replace hY := kb _ _ _ hY (by omega)
            replace hM := kb _ _ _ hM (by omega)
            replace g2 := kb _ _ _ g2 (by omega)
            replace r1 := kz _ _ r1
            replace r2 := kz _ _ r2
            replace hB := kB _ _ q1 hB
            replace g1 := g1'
            clear g1' kz kb kB eu x0 x1 x2
            refine hK.out _ _ ?_ (fun hHeld => ?_)
            · exact hM.cells2
            clear hK K
            try simp only [Act.put, lay1, lay2, lay3, lay4, lay5, lay6]
            obtain ⟨u34, eu, g2', kz, kb, kB⟩ := put_zed g2 (.bool pd) (.slice A2 L2 C2) (by simp [noU])
            refine wpAnyH_ready (rs := [9]) (by kernel_rfl) (by simp) ?_
            refine AllReadyH.cons rfl (fun K hK => ?_) AllReadyH.nil
            have x0 := g2.cell 0
            have x1 := g2.cell 1
            have x2 := g2.frozen
            go_simp
            rw [← eu]
            replace hX := kb _ _ _ hX (by omega)
            replace hY := kb _ _ _ hY (by omega)
            replace hM := kb _ _ _ hM (by omega)
            replace g1 := kb _ _ _ g1 (by omega)
            replace r1 := kz _ _ r1
            replace r2 := kz _ _ r2
            replace hB := kB _ _ q2 hB
            replace g2 := g2'
            clear g2' kz kb kB eu x0 x1 x2
            refine hK.out _ _ ?_ (fun hHeld => ?_)
            · exact hM.cells2
            clear hK K
            try simp only [Act.put, lay1, lay2, lay3, lay4, lay5, lay6]
            refine wpAnyH_done (by kernel_rfl) ?_ _
            dsimp only [OnlyN]
            exact ⟨n1, n2, A1, L1, C1, A2, L2, C2, rfl, g1, g2, r1, r2, hB, dd, o1, o2, hX, hY, hM⟩
        · obtain ⟨u35, eu, g2, b35⟩ := box1 u30 25 #[.bool false, .slice none 0 0]
          obtain ⟨n2, en⟩ : ∃ X, X = u30.heap.size := ⟨_, rfl⟩
          rw [← en] at g2
          have o2 : g + 1 + 1 < n2 := by rw [en]; exact hM.lt
          have q2 : w.heap.size ≤ n2 := by rw [en]; exact hB.size
          have dd : n1 ≠ n2 := by have := g1.lt; omega
          have EU := Lib.hid (And.intro eu en)
          clear eu en
          go_simp
          rw [← EU.out.1, ← EU.out.2]
          replace hB := hB.trans (b35.mono hB.size)
          replace r1 := r1.below b35
          replace hX := hX.below b35 hX.lt
          replace hY := hY.below b35 hY.lt
          replace hM := hM.below b35 hM.lt
          replace g1 := g1.below b35 g1.lt
          refine hK.out _ _ ?_ (fun hHeld => ?_)
          · exact hM.cells2
          clear hK K
          try simp only [Act.put, lay1, lay2, lay3, lay4, lay5, lay6]
          refine wpAnyH_ready (rs := [5]) (by kernel_rfl) (by simp) ?_
          refine AllReadyH.cons rfl (fun K hK => ?_) AllReadyH.nil
          · go_simp
            refine (hO1 _).mono ?_
            rintro e u36 ⟨A2, L2, C2, rfl, r2, b36⟩
            replace hB := hB.trans (b36.mono hB.size)
            replace r1 := r1.below b36
            replace hX := hX.below b36 hX.lt
            replace hY := hY.below b36 hY.lt
            replace hM := hM.below b36 hM.lt
            replace g1 := g1.below b36 g1.lt
            replace g2 := g2.below b36 g2.lt
            go_wp2_with fail
            refine hK.out _ _ ?_ (fun hHeld => ?_)
            · exact hM.cells2
            clear hK K
            try simp only [Act.put, lay1, lay2, lay3, lay4, lay5, lay6]
            obtain ⟨u37, eu, g1', kz, kb, kB⟩ := put_zed g1 (.bool pc) (.slice A1 L1 C1) (by simp [noU])
            refine wpAnyH_ready (rs := [8]) (by kernel_rfl) (by simp) ?_
            refine AllReadyH.cons rfl (fun K hK => ?_) AllReadyH.nil
            have x0 := g1.cell 0
            have x1 := g1.cell 1
            have x2 := g1.frozen
            go_simp
            rw [← eu]
            replace hX := kb _ _ _ hX (by omega)
            replace hY := kb _ _ _ hY (by omega)
            replace hM := kb _ _ _ hM (by omega)
            replace g2 := kb _ _ _ g2 (by omega)
            replace r1 := kz _ _ r1
            replace r2 := kz _ _ r2
            replace hB := kB _ _ q1 hB
            replace g1 := g1'
            clear g1' kz kb kB eu x0 x1 x2
            refine hK.out _ _ ?_ (fun hHeld => ?_)
            · exact hM.cells2
            clear hK K
            try simp only [Act.put, lay1, lay2, lay3, lay4, lay5, lay6]
            obtain ⟨u38, eu, g2', kz, kb, kB⟩ := put_zed g2 (.bool pd) (.slice A2 L2 C2) (by simp [noU])
            refine wpAnyH_ready (rs := [9]) (by kernel_rfl) (by simp) ?_
            refine AllReadyH.cons rfl (fun K hK => ?_) AllReadyH.nil
            have x0 := g2.cell 0
            have x1 := g2.cell 1
            have x2 := g2.frozen
            go_simp
            rw [← eu]
            replace hX := kb _ _ _ hX (by omega)
            replace hY := kb _ _ _ hY (by omega)
            replace hM := kb _ _ _ hM (by omega)
            replace g1 := kb _ _ _ g1 (by omega)
            replace r1 := kz _ _ r1
            replace r2 := kz _ _ r2
            replace hB := kB _ _ q2 hB
            replace g2 := g2'
            clear g2' kz kb kB eu x0 x1 x2
            refine hK.out _ _ ?_ (fun hHeld => ?_)
            · exact hM.cells2
            clear hK K
            try simp only [Act.put, lay1, lay2, lay3, lay4, lay5, lay6]
            refine wpAnyH_done (by kernel_rfl) ?_ _
            dsimp only [OnlyN]
            exact ⟨n1, n2, A1, L1, C1, A2, L2, C2, rfl, g1, g2, r1, r2, hB, dd, o1, o2, hX, hY, hM⟩
      · obtain ⟨u39, eu, g2, b39⟩ := box1 u29 25 #[.bool false, .slice none 0 0]
        obtain ⟨n2, en⟩ : ∃ X, X = u29.heap.size := ⟨_, rfl⟩
        rw [← en] at g2
        have o2 : g + 1 + 1 < n2 := by rw [en]; exact hM.lt
        have q2 : w.heap.size ≤ n2 := by rw [en]; exact hB.size
        have dd : n1 ≠ n2 := by have := g1.lt; omega
        have EU := Lib.hid (And.intro eu en)
        clear eu en
        go_simp
        rw [← EU.out.1, ← EU.out.2]
        replace hB := hB.trans (b39.mono hB.size)
        replace hX := hX.below b39 hX.lt
        replace hY := hY.below b39 hY.lt
        replace hM := hM.below b39 hM.lt
        replace g1 := g1.below b39 g1.lt
        refine hK.out _ _ ?_ (fun hHeld => ?_)
        · exact hM.cells2
        clear hK K
        try simp only [Act.put, lay1, lay2, lay3, lay4, lay5, lay6]
        refine wpAnyH_ready (rs := [2]) (by kernel_rfl) (by simp) ?_
        refine AllReadyH.cons rfl (fun K hK => ?_) AllReadyH.nil
        · go_simp
          refine (hO0 _).mono ?_
          rintro e u40 ⟨A1, L1, C1, rfl, r1, b40⟩
          replace hB := hB.trans (b40.mono hB.size)
          replace hX := hX.below b40 hX.lt
          replace hY := hY.below b40 hY.lt
          replace hM := hM.below b40 hM.lt
          replace g1 := g1.below b40 g1.lt
          replace g2 := g2.below b40 g2.lt
          go_wp2_with fail
          refine hK.out _ _ ?_ (fun hHeld => ?_)
          · exact hM.cells2
          clear hK K
          try simp only [Act.put, lay1, lay2, lay3, lay4, lay5, lay6]
          refine wpAnyH_ready (rs := [5]) (by kernel_rfl) (by simp) ?_
          refine AllReadyH.cons rfl (fun K hK => ?_) AllReadyH.nil
          · go_simp
            refine (hO1 _).mono ?_
            rintro e u41 ⟨A2, L2, C2, rfl, r2, b41⟩
            replace hB := hB.trans (b41.mono hB.size)
            replace r1 := r1.below b41
            replace hX := hX.below b41 hX.lt
            replace hY := hY.below b41 hY.lt
            replace hM := hM.below b41 hM.lt
            replace g1 := g1.below b41 g1.lt
            replace g2 := g2.below b41 g2.lt
            go_wp2_with fail
            refine hK.out _ _ ?_ (fun hHeld => ?_)
            · exact hM.cells2
            clear hK K
            try simp only [Act.put, lay1, lay2, lay3, lay4, lay5, lay6]
            obtain ⟨u42, eu, g1', kz, kb, kB⟩ := put_zed g1 (.bool pc) (.slice A1 L1 C1) (by simp [noU])
            refine wpAnyH_ready (rs := [8]) (by kernel_rfl) (by simp) ?_
            refine AllReadyH.cons rfl (fun K hK => ?_) AllReadyH.nil
            have x0 := g1.cell 0
            have x1 := g1.cell 1
            have x2 := g1.frozen
            go_simp
            rw [← eu]
            replace hX := kb _ _ _ hX (by omega)
            replace hY := kb _ _ _ hY (by omega)
            replace hM := kb _ _ _ hM (by omega)
            replace g2 := kb _ _ _ g2 (by omega)
            replace r1 := kz _ _ r1
            replace r2 := kz _ _ r2
            replace hB := kB _ _ q1 hB
            replace g1 := g1'
            clear g1' kz kb kB eu x0 x1 x2
            refine hK.out _ _ ?_ (fun hHeld => ?_)
            · exact hM.cells2
            clear hK K
            try simp only [Act.put, lay1, lay2, lay3, lay4, lay5, lay6]
            obtain ⟨u43, eu, g2', kz, kb, kB⟩ := put_zed g2 (.bool pd) (.slice A2 L2 C2) (by simp [noU])
            refine wpAnyH_ready (rs := [9]) (by kernel_rfl) (by simp) ?_
            refine AllReadyH.cons rfl (fun K hK => ?_) AllReadyH.nil
            have x0 := g2.cell 0
            have x1 := g2.cell 1
            have x2 := g2.frozen
            go_simp
            rw [← eu]
            replace hX := kb _ _ _ hX (by omega)
            replace hY := kb _ _ _ hY (by omega)
            replace hM := kb _ _ _ hM (by omega)
            replace g1 := kb _ _ _ g1 (by omega)
            replace r1 := kz _ _ r1
            replace r2 := kz _ _ r2
            replace hB := kB _ _ q2 hB
            replace g2 := g2'
            clear g2' kz kb kB eu x0 x1 x2
            refine hK.out _ _ ?_ (fun hHeld => ?_)
            · exact hM.cells2
            clear hK K
            try simp only [Act.put, lay1, lay2, lay3, lay4, lay5, lay6]
            refine wpAnyH_done (by kernel_rfl) ?_ _
            dsimp only [OnlyN]
            exact ⟨n1, n2, A1, L1, C1, A2, L2, C2, rfl, g1, g2, r1, r2, hB, dd, o1, o2, hX, hY, hM⟩
    · obtain ⟨u44, eu, g2, b44⟩ := box1 wd 25 #[.bool false, .slice none 0 0]
      obtain ⟨n2, en⟩ : ∃ X, X = wd.heap.size := ⟨_, rfl⟩
      rw [← en] at g2
      have o2 : g + 1 + 1 < n2 := by rw [en]; exact hM.lt
      have q2 : w.heap.size ≤ n2 := by rw [en]; exact hB.size
      have EU := Lib.hid (And.intro eu en)
      clear eu en
      go_simp
      rw [← EU.out.1, ← EU.out.2]
      replace hB := hB.trans (b44.mono hB.size)
      replace hX := hX.below b44 hX.lt
      replace hY := hY.below b44 hY.lt
      replace hM := hM.below b44 hM.lt
      refine hK.out _ _ ?_ (fun hHeld => ?_)
      · exact hM.cells2
      clear hK K
      try simp only [Act.put, lay1, lay2, lay3, lay4, lay5, lay6]
      refine wpAnyH_ready (rs := [2, 6]) (by kernel_rfl) (by simp) ?_
      refine AllReadyH.cons rfl (fun K hK => ?_) (AllReadyH.cons rfl (fun K hK => ?_) AllReadyH.nil)
      · go_simp
        refine (hO0 _).mono ?_
        rintro e u45 ⟨A1, L1, C1, rfl, r1, b45⟩
        replace hB := hB.trans (b45.mono hB.size)
        replace hX := hX.below b45 hX.lt
        replace hY := hY.below b45 hY.lt
        replace hM := hM.below b45 hM.lt
        replace g2 := g2.below b45 g2.lt
        go_wp2_with fail
        refine hK.out _ _ ?_ (fun hHeld => ?_)
        · exact hM.cells2
        clear hK K
        try simp only [Act.put, lay1, lay2, lay3, lay4, lay5, lay6]
        refine wpAnyH_ready (rs := [5, 6]) (by kernel_rfl) (by simp) ?_
        refine AllReadyH.cons rfl (fun K hK => ?_) (AllReadyH.cons rfl (fun K hK => ?_) AllReadyH.nil)
        · go_simp
          refine (hO1 _).mono ?_
          rintro e u46 ⟨A2, L2, C2, rfl, r2, b46⟩
          replace hB := hB.trans (b46.mono hB.size)
          replace r1 := r1.below b46
          replace hX := hX.below b46 hX.lt
          replace hY := hY.below b46 hY.lt
          replace hM := hM.below b46 hM.lt
          replace g2 := g2.below b46 g2.lt
          go_wp2_with fail
          refine hK.out _ _ ?_ (fun hHeld => ?_)
          · exact hM.cells2
          clear hK K
          try simp only [Act.put, lay1, lay2, lay3, lay4, lay5, lay6]
          refine wpAnyH_ready (rs := [6]) (by kernel_rfl) (by simp) ?_
          refine AllReadyH.cons rfl (fun K hK => ?_) AllReadyH.nil
          · obtain ⟨u47, eu, g1, b47⟩ := box1 u46 25 #[.bool false, .slice none 0 0]
            obtain ⟨n1, en⟩ : ∃ X, X = u46.heap.size := ⟨_, rfl⟩
            rw [← en] at g1
            have o1 : g + 1 + 1 < n1 := by rw [en]; exact hM.lt
            have q1 : w.heap.size ≤ n1 := by rw [en]; exact hB.size
            have dd : n1 ≠ n2 := by have := g2.lt; omega
            have EU := Lib.hid (And.intro eu en)
            clear eu en
            go_simp
            rw [← EU.out.1, ← EU.out.2]
            replace hB := hB.trans (b47.mono hB.size)
            replace r1 := r1.below b47
            replace r2 := r2.below b47
            replace hX := hX.below b47 hX.lt
            replace hY := hY.below b47 hY.lt
            replace hM := hM.below b47 hM.lt
            replace g2 := g2.below b47 g2.lt
            refine hK.out _ _ ?_ (fun hHeld => ?_)
            · exact hM.cells2
            clear hK K
            try simp only [Act.put, lay1, lay2, lay3, lay4, lay5, lay6]
            obtain ⟨u48, eu, g1', kz, kb, kB⟩ := put_zed g1 (.bool pc) (.slice A1 L1 C1) (by simp [noU])
            refine wpAnyH_ready (rs := [8]) (by kernel_rfl) (by simp) ?_
            refine AllReadyH.cons rfl (fun K hK => ?_) AllReadyH.nil
            have x0 := g1.cell 0
            have x1 := g1.cell 1
            have x2 := g1.frozen
            go_simp
            rw [← eu]
            replace hX := kb _ _ _ hX (by omega)
            replace hY := kb _ _ _ hY (by omega)
            replace hM := kb _ _ _ hM (by omega)
            replace g2 := kb _ _ _ g2 (by omega)
            replace r1 := kz _ _ r1
            replace r2 := kz _ _ r2
            replace hB := kB _ _ q1 hB
            replace g1 := g1'
            clear g1' kz kb kB eu x0 x1 x2
            refine hK.out _ _ ?_ (fun hHeld => ?_)
            · exact hM.cells2
            clear hK K
            try simp only [Act.put, lay1, lay2, lay3, lay4, lay5, lay6]
            obtain ⟨u49, eu, g2', kz, kb, kB⟩ := put_zed g2 (.bool pd) (.slice A2 L2 C2) (by simp [noU])
            refine wpAnyH_ready (rs := [9]) (by kernel_rfl) (by simp) ?_
            refine AllReadyH.cons rfl (fun K hK => ?_) AllReadyH.nil
            have x0 := g2.cell 0
            have x1 := g2.cell 1
            have x2 := g2.frozen
            go_simp
            rw [← eu]
            replace hX := kb _ _ _ hX (by omega)
            replace hY := kb _ _ _ hY (by omega)
            replace hM := kb _ _ _ hM (by omega)
            replace g1 := kb _ _ _ g1 (by omega)
            replace r1 := kz _ _ r1
            replace r2 := kz _ _ r2
            replace hB := kB _ _ q2 hB
            replace g2 := g2'
            clear g2' kz kb kB eu x0 x1 x2
            refine hK.out _ _ ?_ (fun hHeld => ?_)
            · exact hM.cells2
            clear hK K
            try simp only [Act.put, lay1, lay2, lay3, lay4, lay5, lay6]
            refine wpAnyH_done (by kernel_rfl) ?_ _
            dsimp only [OnlyN]
            exact ⟨n1, n2, A1, L1, C1, A2, L2, C2, rfl, g1, g2, r1, r2, hB, dd, o1, o2, hX, hY, hM⟩
        · obtain ⟨u50, eu, g1, b50⟩ := box1 u45 25 #[.bool false, .slice none 0 0]
          obtain ⟨n1, en⟩ : ∃ X, X = u45.heap.size := ⟨_, rfl⟩
          rw [← en] at g1
          have o1 : g + 1 + 1 < n1 := by rw [en]; exact hM.lt
          have q1 : w.heap.size ≤ n1 := by rw [en]; exact hB.size
          have dd : n1 ≠ n2 := by have := g2.lt; omega
          have EU := Lib.hid (And.intro eu en)
          clear eu en
          go_simp
          rw [← EU.out.1, ← EU.out.2]
          replace hB := hB.trans (b50.mono hB.size)
          replace r1 := r1.below b50
          replace hX := hX.below b50 hX.lt
          replace hY := hY.below b50 hY.lt
          replace hM := hM.below b50 hM.lt
          replace g2 := g2.below b50 g2.lt
          refine hK.out _ _ ?_ (fun hHeld => ?_)
          · exact hM.cells2
          clear hK K
          try simp only [Act.put, lay1, lay2, lay3, lay4, lay5, lay6]
          refine wpAnyH_ready (rs := [5]) (by kernel_rfl) (by simp) ?_
          refine AllReadyH.cons rfl (fun K hK => ?_) AllReadyH.nil
          · go_simp
            refine (hO1 _).mono ?_
            rintro e u51 ⟨A2, L2, C2, rfl, r2, b51⟩
            replace hB := hB.trans (b51.mono hB.size)
            replace r1 := r1.below b51
            replace hX := hX.below b51 hX.lt
            replace hY := hY.below b51 hY.lt
            replace hM := hM.below b51 hM.lt
            replace g1 := g1.below b51 g1.lt
            replace g2 := g2.below b51 g2.lt
            go_wp2_with fail
            refine hK.out _ _ ?_ (fun hHeld => ?_)
            · exact hM.cells2
            clear hK K
            try simp only [Act.put, lay1, lay2, lay3, lay4, lay5, lay6]
            obtain ⟨u52, eu, g1', kz, kb, kB⟩ := put_zed g1 (.bool pc) (.slice A1 L1 C1) (by simp [noU])
            refine wpAnyH_ready (rs := [8]) (by kernel_rfl) (by simp) ?_
            refine AllReadyH.cons rfl (fun K hK => ?_) AllReadyH.nil
            have x0 := g1.cell 0
            have x1 := g1.cell 1
            have x2 := g1.frozen
            go_simp
            rw [← eu]
            replace hX := kb _ _ _ hX (by omega)
            replace hY := kb _ _ _ hY (by omega)
            replace hM := kb _ _ _ hM (by omega)
            replace g2 := kb _ _ _ g2 (by omega)
            replace r1 := kz _ _ r1
            replace r2 := kz _ _ r2
            replace hB := kB _ _ q1 hB
            replace g1 := g1'
            clear g1' kz kb kB eu x0 x1 x2
            refine hK.out _ _ ?_ (fun hHeld => ?_)
            · exact hM.cells2
            clear hK K
            try simp only [Act.put, lay1, lay2, lay3, lay4, lay5, lay6]
            obtain ⟨u53, eu, g2', kz, kb, kB⟩ := put_zed g2 (.bool pd) (.slice A2 L2 C2) (by simp [noU])
            refine wpAnyH_ready (rs := [9]) (by kernel_rfl) (by simp) ?_
            refine AllReadyH.cons rfl (fun K hK => ?_) AllReadyH.nil
            have x0 := g2.cell 0
            have x1 := g2.cell 1
            have x2 := g2.frozen
            go_simp
            rw [← eu]
            replace hX := kb _ _ _ hX (by omega)
            replace hY := kb _ _ _ hY (by omega)
            replace hM := kb _ _ _ hM (by omega)
            replace g1 := kb _ _ _ g1 (by omega)
            replace r1 := kz _ _ r1
            replace r2 := kz _ _ r2
            replace hB := kB _ _ q2 hB
            replace g2 := g2'
            clear g2' kz kb kB eu x0 x1 x2
            refine hK.out _ _ ?_ (fun hHeld => ?_)
            · exact hM.cells2
            clear hK K
            try simp only [Act.put, lay1, lay2, lay3, lay4, lay5, lay6]
            refine wpAnyH_done (by kernel_rfl) ?_ _
            dsimp only [OnlyN]
            exact ⟨n1, n2, A1, L1, C1, A2, L2, C2, rfl, g1, g2, r1, r2, hB, dd, o1, o2, hX, hY, hM⟩
      · obtain ⟨u54, eu, g1, b54⟩ := box1 u44 25 #[.bool false, .slice none 0 0]
        obtain ⟨n1, en⟩ : ∃ X, X = u44.heap.size := ⟨_, rfl⟩
        rw [← en] at g1
        have o1 : g + 1 + 1 < n1 := by rw [en]; exact hM.lt
        have q1 : w.heap.size ≤ n1 := by rw [en]; exact hB.size
        have dd : n1 ≠ n2 := by have := g2.lt; omega
        have EU := Lib.hid (And.intro eu en)
        clear eu en
        go_simp
        rw [← EU.out.1, ← EU.out.2]
        replace hB := hB.trans (b54.mono hB.size)
        replace hX := hX.below b54 hX.lt
        replace hY := hY.below b54 hY.lt
        replace hM := hM.below b54 hM.lt
        replace g2 := g2.below b54 g2.lt
        refine hK.out _ _ ?_ (fun hHeld => ?_)
        · exact hM.cells2
        clear hK K
        try simp only [Act.put, lay1, lay2, lay3, lay4, lay5, lay6]
        refine wpAnyH_ready (rs := [2]) (by kernel_rfl) (by simp) ?_
        refine AllReadyH.cons rfl (fun K hK => ?_) AllReadyH.nil
        · go_simp
          refine (hO0 _).mono ?_
          rintro e u55 ⟨A1, L1, C1, rfl, r1, b55⟩
          replace hB := hB.trans (b55.mono hB.size)
          replace hX := hX.below b55 hX.lt
          replace hY := hY.below b55 hY.lt
          replace hM := hM.below b55 hM.lt
          replace g1 := g1.below b55 g1.lt
          replace g2 := g2.below b55 g2.lt
          go_wp2_with fail
          refine hK.out _ _ ?_ (fun hHeld => ?_)
          · exact hM.cells2
          clear hK K
          try simp only [Act.put, lay1, lay2, lay3, lay4, lay5, lay6]
          refine wpAnyH_ready (rs := [5]) (by kernel_rfl) (by simp) ?_
          refine AllReadyH.cons rfl (fun K hK => ?_) AllReadyH.nil
          · go_simp
            refine (hO1 _).mono ?_
            rintro e u56 ⟨A2, L2, C2, rfl, r2, b56⟩
            replace hB := hB.trans (b56.mono hB.size)
            replace r1 := r1.below b56
            replace hX := hX.below b56 hX.lt
            replace hY := hY.below b56 hY.lt
            replace hM := hM.below b56 hM.lt
            replace g1 := g1.below b56 g1.lt
            replace g2 := g2.below b56 g2.lt
            go_wp2_with fail
            refine hK.out _ _ ?_ (fun hHeld => ?_)
            · exact hM.cells2
            clear hK K
            try simp only [Act.put, lay1, lay2, lay3, lay4, lay5, lay6]
            obtain ⟨u57, eu, g1', kz, kb, kB⟩ := put_zed g1 (.bool pc) (.slice A1 L1 C1) (by simp [noU])
            refine wpAnyH_ready (rs := [8]) (by kernel_rfl) (by simp) ?_
            refine AllReadyH.cons rfl (fun K hK => ?_) AllReadyH.nil
            have x0 := g1.cell 0
            have x1 := g1.cell 1
            have x2 := g1.frozen
            go_simp
            rw [← eu]
            replace hX := kb _ _ _ hX (by omega)
            replace hY := kb _ _ _ hY (by omega)
            replace hM := kb _ _ _ hM (by omega)
            replace g2 := kb _ _ _ g2 (by omega)
            replace r1 := kz _ _ r1
            replace r2 := kz _ _ r2
            replace hB := kB _ _ q1 hB
            replace g1 := g1'
            clear g1' kz kb kB eu x0 x1 x2
            refine hK.out _ _ ?_ (fun hHeld => ?_)
            · exact hM.cells2
            clear hK K
            try simp only [Act.put, lay1, lay2, lay3, lay4, lay5, lay6]
            obtain ⟨u58, eu, g2', kz, kb, kB⟩ := put_zed g2 (.bool pd) (.slice A2 L2 C2) (by simp [noU])
            refine wpAnyH_ready (rs := [9]) (by kernel_rfl) (by simp) ?_
            refine AllReadyH.cons rfl (fun K hK => ?_) AllReadyH.nil
            have x0 := g2.cell 0
            have x1 := g2.cell 1
            have x2 := g2.frozen
            go_simp
            rw [← eu]
            replace hX := kb _ _ _ hX (by omega)
            replace hY := kb _ _ _ hY (by omega)
            replace hM := kb _ _ _ hM (by omega)
            replace g1 := kb _ _ _ g1 (by omega)
            replace r1 := kz _ _ r1
            replace r2 := kz _ _ r2
            replace hB := kB _ _ q2 hB
            replace g2 := g2'
            clear g2' kz kb kB eu x0 x1 x2
            refine hK.out _ _ ?_ (fun hHeld => ?_)
            · exact hM.cells2
            clear hK K
            try simp only [Act.put, lay1, lay2, lay3, lay4, lay5, lay6]
            refine wpAnyH_done (by kernel_rfl) ?_ _
            dsimp only [OnlyN]
            exact ⟨n1, n2, A1, L1, C1, A2, L2, C2, rfl, g1, g2, r1, r2, hB, dd, o1, o2, hX, hY, hM⟩
  case trftwo =>
    rintro wj n1 n2 A1 L1 C1 A2 L2 C2 ⟨g1, g2, r1, r2, hB, dd, o1, o2, hX, hY, hM⟩
    obtain ⟨c51_hX_0, c51_hX_1⟩ := hX.cells2
    obtain ⟨c51_hY_0, c51_hY_1⟩ := hY.cells2
    obtain ⟨c51_hM_0, c51_hM_1⟩ := hM.cells2
    obtain ⟨c51_g1_0, c51_g1_1⟩ := g1.cells2
    obtain ⟨c51_g2_0, c51_g2_1⟩ := g2.cells2
    go_wp2_with fail
    refine (hI0 _ _ r1).mono ?_
    rintro e w61 ⟨rfl, b61⟩
    replace r1 := r1.below b61
    replace r2 := r2.below b61
    replace hX := hX.below b61 hX.lt
    replace hY := hY.below b61 hY.lt
    replace hM := hM.below b61 hM.lt
    replace g1 := g1.below b61 g1.lt
    replace g2 := g2.below b61 g2.lt
    replace hB := hB.trans (b61.mono hB.size)
    clear c51_hX_0 c51_hX_1 c51_hY_0 c51_hY_1 c51_hM_0 c51_hM_1 c51_g1_0 c51_g1_1 c51_g2_0 c51_g2_1
    obtain ⟨c52_hX_0, c52_hX_1⟩ := hX.cells2
    obtain ⟨c52_hY_0, c52_hY_1⟩ := hY.cells2
    obtain ⟨c52_hM_0, c52_hM_1⟩ := hM.cells2
    obtain ⟨c52_g1_0, c52_g1_1⟩ := g1.cells2
    obtain ⟨c52_g2_0, c52_g2_1⟩ := g2.cells2
    go_upto_region 6 with fail
    clear c52_hX_0 c52_hX_1 c52_hY_0 c52_hY_1 c52_hM_0 c52_hM_1 c52_g1_0 c52_g1_1 c52_g2_0 c52_g2_1
    replace hB := hB.drew
    replace r1 := r1.below (bdrew _)
    replace r2 := r2.below (bdrew _)
    replace hX := hX.drew
    replace hY := hY.drew
    replace hM := hM.drew
    replace g1 := g1.drew
    replace g2 := g2.drew
    refine wp_region_noPanic ?_
    refine wp_region_held_drew (S := fun w' => w'.cell? ⟨g, 0, none⟩ = some (.bool sg1) ∧ w'.cell? ⟨g, 1, none⟩ = some (.slice B1 l1.length D1) ∧ w'.cell? ⟨g + 1, 0, none⟩ = some (.bool sg2) ∧ w'.cell? ⟨g + 1, 1, none⟩ = some (.slice B2 l2.length D2) ∧ w'.cell? ⟨n1, 0, none⟩ = some (.bool pc) ∧ w'.cell? ⟨n1, 1, none⟩ = some (.slice A1 L1 C1) ∧ w'.cell? ⟨g + 1 + 1, 0, none⟩ = some (.int .i64 m0)) (by kernel_rfl) ?_ (fun hHeld => ?_)
    · exact ⟨hX.cell 0, hX.cell 1, hY.cell 0, hY.cell 1, g1.cell 0, g1.cell 1, hM.cell 0⟩
    refine wpAnyH_take (i := 0) (v := ?rrfv0) rfl (by kernel_rfl) (by kernel_rfl) (by kernel_rfl) (fun _ _ _ h => h) (Or.inl ⟨by kernel_rfl, ?rrfhy0⟩) (by assumption) ?rrfrest0
    case rrfhy0 => (intro w hSw; (try dsimp only at hSw); go_simp; try (with_reducible rfl))
    try simp only [Act.put, lay1, lay2, lay3, lay4, lay5, lay6]
    refine wpAnyH_take (i := 1) (v := ?rrfv1) rfl (by kernel_rfl) (by kernel_rfl) (by kernel_rfl) (fun _ _ _ h => h) (Or.inl ⟨by kernel_rfl, ?rrfhy1⟩) (by assumption) ?rrfrest1
    case rrfhy1 => (intro w hSw; (try dsimp only at hSw); go_simp; try (with_reducible rfl))
    try simp only [Act.put, lay1, lay2, lay3, lay4, lay5, lay6]
    refine wpAnyH_take (i := 2) (v := ?rrfv2) rfl (by kernel_rfl) (by kernel_rfl) (by kernel_rfl) (fun _ _ _ h => h) (Or.inl ⟨by kernel_rfl, ?rrfhy2⟩) (by assumption) ?rrfrest2
    case rrfhy2 => (intro w hSw; (try dsimp only at hSw); go_simp; try (with_reducible rfl))
    try simp only [Act.put, lay1, lay2, lay3, lay4, lay5, lay6]
    refine wpAnyH_take (i := 3) (v := ?rrfv3) rfl (by kernel_rfl) (by kernel_rfl) (by kernel_rfl) (fun _ _ _ h => h) (Or.inl ⟨by kernel_rfl, ?rrfhy3⟩) (by assumption) ?rrfrest3
    case rrfhy3 => (intro w hSw; (try dsimp only at hSw); go_simp; try (with_reducible rfl))
    try simp only [Act.put, lay1, lay2, lay3, lay4, lay5, lay6]
    refine wpAnyH_take (i := 4) (v := ?rrfv4) rfl (by kernel_rfl) (by kernel_rfl) (by kernel_rfl) (fun _ _ _ h => h) (Or.inl ⟨by kernel_rfl, ?rrfhy4⟩) (by assumption) ?rrfrest4
    case rrfhy4 => (intro w hSw; (try dsimp only at hSw); go_simp; try (with_reducible rfl))
    try simp only [Act.put, lay1, lay2, lay3, lay4, lay5, lay6]
    refine wpAnyH_take (i := 5) (v := ?rrfv5) rfl (by kernel_rfl) (by kernel_rfl) (by kernel_rfl) (fun _ _ _ h => h) (Or.inl ⟨by kernel_rfl, ?rrfhy5⟩) (by assumption) ?rrfrest5
    case rrfhy5 => (intro w hSw; (try dsimp only at hSw); go_simp; try (with_reducible rfl))
    try simp only [Act.put, lay1, lay2, lay3, lay4, lay5, lay6]
    refine wpAnyH_take (i := 6) (v := ?rrfv6) rfl (by kernel_rfl) (by kernel_rfl) (by kernel_rfl) (fun _ _ _ h => h) (Or.inl ⟨by kernel_rfl, ?rrfhy6⟩) (by assumption) ?rrfrest6
    case rrfhy6 => (intro w hSw; (try dsimp only at hSw); go_simp; try (with_reducible rfl))
    try simp only [Act.put, lay1, lay2, lay3, lay4, lay5, lay6]
    refine wpAnyH_take (i := 7) (v := ?rrfv7) rfl (by kernel_rfl) (by kernel_rfl) (by kernel_rfl) (fun _ _ _ h => h) (Or.inl ⟨by kernel_rfl, ?rrfhy7⟩) (by assumption) ?rrfrest7
    case rrfhy7 => (intro w hSw; (try dsimp only at hSw); go_simp; try (with_reducible rfl))
    try simp only [Act.put, lay1, lay2, lay3, lay4, lay5, lay6]
    refine wpAnyH_take (i := 8) (v := ?rrfv8) rfl (by kernel_rfl) (by kernel_rfl) (by kernel_rfl) (fun _ _ _ h => h) (Or.inl ⟨by kernel_rfl, ?rrfhy8⟩) (by assumption) ?rrfrest8
    case rrfhy8 => (intro w hSw; (try dsimp only at hSw); go_simp; try (with_reducible rfl))
    try simp only [Act.put, lay1, lay2, lay3, lay4, lay5, lay6]
    refine wpAnyH_take (i := 10) (v := ?rrfv10) rfl (by kernel_rfl) (by kernel_rfl) (by kernel_rfl) (fun _ _ _ h => h) (Or.inl ⟨by kernel_rfl, ?rrfhy10⟩) (by assumption) ?rrfrest10
    case rrfhy10 => (intro w hSw; (try dsimp only at hSw); go_simp; try (with_reducible rfl))
    try simp only [Act.put, lay1, lay2, lay3, lay4, lay5, lay6]
    refine wpAnyH_take (i := 11) (v := ?rrfv11) rfl (by kernel_rfl) (by kernel_rfl) (by kernel_rfl) (fun _ _ _ h => h) (Or.inl ⟨by kernel_rfl, ?rrfhy11⟩) (by assumption) ?rrfrest11
    case rrfhy11 => (intro w hSw; (try dsimp only at hSw); go_simp; try (with_reducible rfl))
    try simp only [Act.put, lay1, lay2, lay3, lay4, lay5, lay6]
    refine wpAnyH_ready (rs := [9]) (by kernel_rfl) (by simp) ?_
    refine AllReadyH.cons rfl (fun K hK => ?_) AllReadyH.nil
    go_simp
    refine (hCr _ _ _ (z2.below hB) (z1.below hB)).mono ?_
    rintro e w201 ⟨rfl, b201⟩
    replace hB := hB.trans (b201.mono hB.size)
    replace r1 := r1.below b201
    replace r2 := r2.below b201
    replace hX := hX.below b201 hX.lt
    replace hY := hY.below b201 hY.lt
    replace hM := hM.below b201 hM.lt
    replace g1 := g1.below b201 g1.lt
    replace g2 := g2.below b201 g2.lt
    go_wp2_with fail
    refine hK.out _ _ ?_ (fun hHeld => ?_)
    · exact ⟨hX.cell 0, hX.cell 1, hY.cell 0, hY.cell 1, g1.cell 0, g1.cell 1, hM.cell 0⟩
    clear hK K
    try simp only [Act.put, lay1, lay2, lay3, lay4, lay5, lay6]
    refine wpAnyH_take (i := 12) (v := ?rrfv12) rfl (by kernel_rfl) (by kernel_rfl) (by kernel_rfl) (fun _ _ _ h => h) (Or.inl ⟨by kernel_rfl, ?rrfhy12⟩) (by assumption) ?rrfrest12
    case rrfhy12 => (intro w hSw; (try dsimp only at hSw); go_simp; try (with_reducible rfl))
    try simp only [Act.put, lay1, lay2, lay3, lay4, lay5, lay6]
    refine wpAnyH_take (i := 13) (v := ?rrfv13) rfl (by kernel_rfl) (by kernel_rfl) (by kernel_rfl) (fun _ _ _ h => h) (Or.inl ⟨by kernel_rfl, ?rrfhy13⟩) (by assumption) ?rrfrest13
    case rrfhy13 => (intro w hSw; (try dsimp only at hSw); go_simp; try (with_reducible rfl))
    try simp only [Act.put, lay1, lay2, lay3, lay4, lay5, lay6]
    refine wpAnyH_take (i := 14) (v := ?rrfv14) rfl (by kernel_rfl) (by kernel_rfl) (by kernel_rfl) (fun _ _ _ h => h) (Or.inl ⟨by kernel_rfl, ?rrfhy14⟩) (by assumption) ?rrfrest14
    case rrfhy14 => (intro w hSw; (try dsimp only at hSw); go_simp; try (with_reducible rfl))
    try simp only [Act.put, lay1, lay2, lay3, lay4, lay5, lay6]
    refine wpAnyH_take (i := 15) (v := ?rrfv15) rfl (by kernel_rfl) (by kernel_rfl) (by kernel_rfl) (fun _ _ _ h => h) (Or.inl ⟨by kernel_rfl, ?rrfhy15⟩) (by assumption) ?rrfrest15
    case rrfhy15 => (intro w hSw; (try dsimp only at hSw); go_simp; try (with_reducible rfl))
    try simp only [Act.put, lay1, lay2, lay3, lay4, lay5, lay6]
    refine wpAnyH_take (i := 17) (v := ?rrfv17) rfl (by kernel_rfl) (by kernel_rfl) (by kernel_rfl) (fun _ _ _ h => h) (Or.inl ⟨by kernel_rfl, ?rrfhy17⟩) (by assumption) ?rrfrest17
    case rrfhy17 => (intro w hSw; (try dsimp only at hSw); go_simp; try (with_reducible rfl))
    try simp only [Act.put, lay1, lay2, lay3, lay4, lay5, lay6]
    refine wpAnyH_take (i := 20) (v := ?rrfv20) rfl (by kernel_rfl) (by kernel_rfl) (by kernel_rfl) (fun _ _ _ h => h) (Or.inl ⟨by kernel_rfl, ?rrfhy20⟩) (by assumption) ?rrfrest20
    case rrfhy20 => (intro w hSw; (try dsimp only at hSw); go_simp; try (with_reducible rfl))
    try simp only [Act.put, lay1, lay2, lay3, lay4, lay5, lay6]
    refine wpAnyH_take (i := 21) (v := ?rrfv21) rfl (by kernel_rfl) (by kernel_rfl) (by kernel_rfl) (fun _ _ _ h => h) (Or.inl ⟨by kernel_rfl, ?rrfhy21⟩) (by assumption) ?rrfrest21
    case rrfhy21 => (intro w hSw; (try dsimp only at hSw); go_simp; try (with_reducible rfl))
    try simp only [Act.put, lay1, lay2, lay3, lay4, lay5, lay6]
    refine wpAnyH_ready (rs := [16]) (by kernel_rfl) (by simp) ?_
    refine AllReadyH.cons rfl (fun K hK => ?_) AllReadyH.nil
    go_simp
    refine (hN1 _ _ (z1.below hB)).mono ?_
    rintro e w202 ⟨v202, rfl, p1, b202⟩
    replace hB := hB.trans (b202.mono hB.size)
    replace r1 := r1.below b202
    replace r2 := r2.below b202
    replace hX := hX.below b202 hX.lt
    replace hY := hY.below b202 hY.lt
    replace hM := hM.below b202 hM.lt
    replace g1 := g1.below b202 g1.lt
    replace g2 := g2.below b202 g2.lt
    go_wp2_with fail
    refine hK.out _ _ ?_ (fun hHeld => ?_)
    · exact ⟨hX.cell 0, hX.cell 1, hY.cell 0, hY.cell 1, g1.cell 0, g1.cell 1, hM.cell 0⟩
    clear hK K
    try simp only [Act.put, lay1, lay2, lay3, lay4, lay5, lay6]
    refine wpAnyH_ready (rs := [18]) (by kernel_rfl) (by simp) ?_
    refine AllReadyH.cons rfl (fun K hK => ?_) AllReadyH.nil
    go_simp
    refine (hN2 _ _ (z2.below hB)).mono ?_
    rintro e w203 ⟨v203, rfl, p2, b203⟩
    replace hB := hB.trans (b203.mono hB.size)
    replace r1 := r1.below b203
    replace r2 := r2.below b203
    replace p1 := p1.below b203
    replace hX := hX.below b203 hX.lt
    replace hY := hY.below b203 hY.lt
    replace hM := hM.below b203 hM.lt
    replace g1 := g1.below b203 g1.lt
    replace g2 := g2.below b203 g2.lt
    go_wp2_with fail
    refine hK.out _ _ ?_ (fun hHeld => ?_)
    · exact ⟨hX.cell 0, hX.cell 1, hY.cell 0, hY.cell 1, g1.cell 0, g1.cell 1, hM.cell 0⟩
    clear hK K
    try simp only [Act.put, lay1, lay2, lay3, lay4, lay5, lay6]
    refine wpAnyH_ready (rs := [19]) (by kernel_rfl) (by simp) ?_
    refine AllReadyH.cons rfl (fun K hK => ?_) AllReadyH.nil
    go_simp
    refine (hCn _ _ _ p1 p2).mono ?_
    rintro e w204 ⟨rfl, b204⟩
    replace hB := hB.trans (b204.mono hB.size)
    replace r1 := r1.below b204
    replace r2 := r2.below b204
    replace hX := hX.below b204 hX.lt
    replace hY := hY.below b204 hY.lt
    replace hM := hM.below b204 hM.lt
    replace g1 := g1.below b204 g1.lt
    replace g2 := g2.below b204 g2.lt
    go_wp2_with fail
    refine hK.out _ _ ?_ (fun hHeld => ?_)
    · exact ⟨hX.cell 0, hX.cell 1, hY.cell 0, hY.cell 1, g1.cell 0, g1.cell 1, hM.cell 0⟩
    clear hK K
    try simp only [Act.put, lay1, lay2, lay3, lay4, lay5, lay6]
    refine wpAnyH_take (i := 22) (v := ?rrfv22) rfl (by kernel_rfl) (by kernel_rfl) (by kernel_rfl) (fun _ _ _ h => h) (Or.inl ⟨by kernel_rfl, ?rrfhy22⟩) (by assumption) ?rrfrest22
    case rrfhy22 => (intro w hSw; (try dsimp only at hSw); go_simp; try (with_reducible rfl))
    try simp only [Act.put, lay1, lay2, lay3, lay4, lay5, lay6]
    refine wpAnyH_take (i := 23) (v := ?rrfv23) rfl (by kernel_rfl) (by kernel_rfl) (by kernel_rfl) (fun _ _ _ h => h) (Or.inl ⟨by kernel_rfl, ?rrfhy23⟩) (by assumption) ?rrfrest23
    case rrfhy23 => (intro w hSw; (try dsimp only at hSw); go_simp; try (with_reducible rfl))
    try simp only [Act.put, lay1, lay2, lay3, lay4, lay5, lay6]
    refine wpAnyH_take (i := 24) (v := ?rrfv24) rfl (by kernel_rfl) (by kernel_rfl) (by kernel_rfl) (fun _ _ _ h => h) (Or.inl ⟨by kernel_rfl, ?rrfhy24⟩) (by assumption) ?rrfrest24
    case rrfhy24 => (intro w hSw; (try dsimp only at hSw); go_simp; try (with_reducible rfl))
    try simp only [Act.put, lay1, lay2, lay3, lay4, lay5, lay6]
    refine wpAnyH_take (i := 25) (v := ?rrfv25) rfl (by kernel_rfl) (by kernel_rfl) (by kernel_rfl) (fun _ _ _ h => h) (Or.inl ⟨by kernel_rfl, ?rrfhy25⟩) (by assumption) ?rrfrest25
    case rrfhy25 => (intro w hSw; (try dsimp only at hSw); go_simp; try (with_reducible rfl))
    try simp only [Act.put, lay1, lay2, lay3, lay4, lay5, lay6]
    refine wpAnyH_take (i := 26) (v := ?rrfv26) rfl (by kernel_rfl) (by kernel_rfl) (by kernel_rfl) (fun _ _ _ h => h) (Or.inl ⟨by kernel_rfl, ?rrfhy26⟩) (by assumption) ?rrfrest26
    case rrfhy26 => (intro w hSw; (try dsimp only at hSw); go_simp; try (with_reducible rfl))
    try simp only [Act.put, lay1, lay2, lay3, lay4, lay5, lay6]
    refine wpAnyH_take (i := 28) (v := ?rrfv28) rfl (by kernel_rfl) (by kernel_rfl) (by kernel_rfl) (fun _ _ _ h => h) (Or.inl ⟨by kernel_rfl, ?rrfhy28⟩) (by assumption) ?rrfrest28
    case rrfhy28 => (intro w hSw; (try dsimp only at hSw); go_simp; try (with_reducible rfl))
    try simp only [Act.put, lay1, lay2, lay3, lay4, lay5, lay6]
    refine wpAnyH_take (i := 29) (v := ?rrfv29) rfl (by kernel_rfl) (by kernel_rfl) (by kernel_rfl) (fun _ _ _ h => h) (Or.inl ⟨by kernel_rfl, ?rrfhy29⟩) (by assumption) ?rrfrest29
    case rrfhy29 => (intro w hSw; (try dsimp only at hSw); go_simp; try (with_reducible rfl))
    try simp only [Act.put, lay1, lay2, lay3, lay4, lay5, lay6]
    refine wpAnyH_take (i := 32) (v := ?rrfv32) rfl (by kernel_rfl) (by kernel_rfl) (by kernel_rfl) (fun _ _ _ h => h) (Or.inl ⟨by kernel_rfl, ?rrfhy32⟩) (by assumption) ?rrfrest32
    case rrfhy32 => (intro w hSw; (try dsimp only at hSw); go_simp; try (with_reducible rfl))
    try simp only [Act.put, lay1, lay2, lay3, lay4, lay5, lay6]
    refine wpAnyH_ready (rs := [27]) (by kernel_rfl) (by simp) ?_
    refine AllReadyH.cons rfl (fun K hK => ?_) AllReadyH.nil
    go_simp
    refine (hA1 _ _ _ (z1.below hB) r1).mono ?_
    rintro e w205 ⟨v205, rfl, p3, b205⟩
    replace hB := hB.trans (b205.mono hB.size)
    replace r1 := r1.below b205
    replace r2 := r2.below b205
    replace hX := hX.below b205 hX.lt
    replace hY := hY.below b205 hY.lt
    replace hM := hM.below b205 hM.lt
    replace g1 := g1.below b205 g1.lt
    replace g2 := g2.below b205 g2.lt
    go_wp2_with fail
    refine hK.out _ _ ?_ (fun hHeld => ?_)
    · exact ⟨hX.cell 0, hX.cell 1, hY.cell 0, hY.cell 1, g1.cell 0, g1.cell 1, hM.cell 0⟩
    clear hK K
    try simp only [Act.put, lay1, lay2, lay3, lay4, lay5, lay6]
    refine wpAnyH_ready (rs := [30]) (by kernel_rfl) (by simp) ?_
    refine AllReadyH.cons rfl (fun K hK => ?_) AllReadyH.nil
    go_simp
    refine (hA2 _ _ _ (z2.below hB) r1).mono ?_
    rintro e w206 ⟨v206, rfl, p4, b206⟩
    replace hB := hB.trans (b206.mono hB.size)
    replace r1 := r1.below b206
    replace r2 := r2.below b206
    replace p3 := p3.below b206
    replace hX := hX.below b206 hX.lt
    replace hY := hY.below b206 hY.lt
    replace hM := hM.below b206 hM.lt
    replace g1 := g1.below b206 g1.lt
    replace g2 := g2.below b206 g2.lt
    go_wp2_with fail
    refine hK.out _ _ ?_ (fun hHeld => ?_)
    · exact ⟨hX.cell 0, hX.cell 1, hY.cell 0, hY.cell 1, g1.cell 0, g1.cell 1, hM.cell 0⟩
    clear hK K
    try simp only [Act.put, lay1, lay2, lay3, lay4, lay5, lay6]
    refine wpAnyH_ready (rs := [31]) (by kernel_rfl) (by simp) ?_
    refine AllReadyH.cons rfl (fun K hK => ?_) AllReadyH.nil
    go_simp
    refine (hCa _ _ _ p3 p4).mono ?_
    rintro e w207 ⟨rfl, b207⟩
    replace hB := hB.trans (b207.mono hB.size)
    replace r1 := r1.below b207
    replace r2 := r2.below b207
    replace hX := hX.below b207 hX.lt
    replace hY := hY.below b207 hY.lt
    replace hM := hM.below b207 hM.lt
    replace g1 := g1.below b207 g1.lt
    replace g2 := g2.below b207 g2.lt
    go_wp2_with fail
    refine hK.out _ _ ?_ (fun hHeld => ?_)
    · exact ⟨hX.cell 0, hX.cell 1, hY.cell 0, hY.cell 1, g1.cell 0, g1.cell 1, hM.cell 0⟩
    clear hK K
    try simp only [Act.put, lay1, lay2, lay3, lay4, lay5, lay6]
    refine wpAnyH_take (i := 33) (v := ?rrfv33) rfl (by kernel_rfl) (by kernel_rfl) (by kernel_rfl) (fun _ _ _ h => h) (Or.inl ⟨by kernel_rfl, ?rrfhy33⟩) (by assumption) ?rrfrest33
    case rrfhy33 => (intro w hSw; (try dsimp only at hSw); go_simp; try (with_reducible rfl))
    try simp only [Act.put, lay1, lay2, lay3, lay4, lay5, lay6]
    refine wpAnyH_take (i := 34) (v := ?rrfv34) rfl (by kernel_rfl) (by kernel_rfl) (by kernel_rfl) (fun _ _ _ h => h) (Or.inl ⟨by kernel_rfl, ?rrfhy34⟩) (by assumption) ?rrfrest34
    case rrfhy34 => (intro w hSw; (try dsimp only at hSw); go_simp; try (with_reducible rfl))
    try simp only [Act.put, lay1, lay2, lay3, lay4, lay5, lay6]
    refine wpAnyH_take (i := 35) (v := ?rrfv35) rfl (by kernel_rfl) (by kernel_rfl) (by kernel_rfl) (fun _ _ _ h => h) (Or.inl ⟨by kernel_rfl, ?rrfhy35⟩) (by assumption) ?rrfrest35
    case rrfhy35 => (intro w hSw; (try dsimp only at hSw); go_simp; try (with_reducible rfl))
    try simp only [Act.put, lay1, lay2, lay3, lay4, lay5, lay6]
    refine wpAnyH_take (i := 36) (v := ?rrfv36) rfl (by kernel_rfl) (by kernel_rfl) (by kernel_rfl) (fun _ _ _ h => h) (Or.inl ⟨by kernel_rfl, ?rrfhy36⟩) (by assumption) ?rrfrest36
    case rrfhy36 => (intro w hSw; (try dsimp only at hSw); go_simp; try (with_reducible rfl))
    try simp only [Act.put, lay1, lay2, lay3, lay4, lay5, lay6]
    refine wpAnyH_take (i := 37) (v := ?rrfv37) rfl (by kernel_rfl) (by kernel_rfl) (by kernel_rfl) (fun _ _ _ h => h) (Or.inl ⟨by kernel_rfl, ?rrfhy37⟩) (by assumption) ?rrfrest37
    case rrfhy37 => (intro w hSw; (try dsimp only at hSw); go_simp; try (with_reducible rfl))
    try simp only [Act.put, lay1, lay2, lay3, lay4, lay5, lay6]
    refine wpAnyH_take (i := 38) (v := ?rrfv38) rfl (by kernel_rfl) (by kernel_rfl) (by kernel_rfl) (fun _ _ _ h => h) (Or.inl ⟨by kernel_rfl, ?rrfhy38⟩) (by assumption) ?rrfrest38
    case rrfhy38 => (intro w hSw; (try dsimp only at hSw); go_simp; try (with_reducible rfl))
    try simp only [Act.put, lay1, lay2, lay3, lay4, lay5, lay6]
    refine wpAnyH_take (i := 39) (v := ?rrfv39) rfl (by kernel_rfl) (by kernel_rfl) (by kernel_rfl) (fun _ _ _ h => h) (Or.inl ⟨by kernel_rfl, ?rrfhy39⟩) (by assumption) ?rrfrest39
    case rrfhy39 => (intro w hSw; (try dsimp only at hSw); go_simp; try (with_reducible rfl))
    try simp only [Act.put, lay1, lay2, lay3, lay4, lay5, lay6]
    refine wpAnyH_take (i := 40) (v := ?rrfv40) rfl (by kernel_rfl) (by kernel_rfl) (by kernel_rfl) (fun _ _ _ h => h) (Or.inl ⟨by kernel_rfl, ?rrfhy40⟩) (by assumption) ?rrfrest40
    case rrfhy40 => (intro w hSw; (try dsimp only at hSw); go_simp; try (with_reducible rfl))
    try simp only [Act.put, lay1, lay2, lay3, lay4, lay5, lay6]
    refine wpAnyH_take (i := 41) (v := ?rrfv41) rfl (by kernel_rfl) (by kernel_rfl) (by kernel_rfl) (fun _ _ _ h => h) (Or.inl ⟨by kernel_rfl, ?rrfhy41⟩) (by assumption) ?rrfrest41
    case rrfhy41 => (intro w hSw; (try dsimp only at hSw); go_simp; try (with_reducible rfl))
    try simp only [Act.put, lay1, lay2, lay3, lay4, lay5, lay6]
    refine wpAnyH_take (i := 42) (v := ?rrfv42) rfl (by kernel_rfl) (by kernel_rfl) (by kernel_rfl) (fun _ _ _ h => h) (Or.inl ⟨by kernel_rfl, ?rrfhy42⟩) (by assumption) ?rrfrest42
    case rrfhy42 => (intro w hSw; (try dsimp only at hSw); go_simp; try (with_reducible rfl))
    try simp only [Act.put, lay1, lay2, lay3, lay4, lay5, lay6]
    try dsimp only
    try simp only [Act.put, lay1, lay2, lay3, lay4, lay5, lay6]
    refine wpAnyH_take (i := 43) (v := ?rrfv43) rfl (by kernel_rfl) (by kernel_rfl) (by kernel_rfl) (fun _ _ _ h => h) (Or.inl ⟨by kernel_rfl, ?rrfhy43⟩) (by assumption) ?rrfrest43
    case rrfhy43 => (intro w hSw; (try dsimp only at hSw); go_simp; try (with_reducible rfl))
    try simp only [Act.put, lay1, lay2, lay3, lay4, lay5, lay6]
    try dsimp only
    try simp only [Act.put, lay1, lay2, lay3, lay4, lay5, lay6]
    refine wpAnyH_take (i := 44) (v := ?rrfv44) rfl (by kernel_rfl) (by kernel_rfl) (by kernel_rfl) (fun _ _ _ h => h) (Or.inl ⟨by kernel_rfl, ?rrfhy44⟩) (by assumption) ?rrfrest44
    case rrfhy44 => (intro w hSw; (try dsimp only at hSw); go_simp; try (with_reducible rfl))
    try simp only [Act.put, lay1, lay2, lay3, lay4, lay5, lay6]
    try dsimp only
    try simp only [Act.put, lay1, lay2, lay3, lay4, lay5, lay6]
    refine wpAnyH_done (by kernel_rfl) ?_ _
    refine NoPanic.normal ?_
    obtain ⟨c53_hX_0, c53_hX_1⟩ := hX.cells2
    obtain ⟨c53_hY_0, c53_hY_1⟩ := hY.cells2
    obtain ⟨c53_hM_0, c53_hM_1⟩ := hM.cells2
    obtain ⟨c53_g1_0, c53_g1_1⟩ := g1.cells2
    obtain ⟨c53_g2_0, c53_g2_1⟩ := g2.cells2
    go_wp2_with fail
    refine (hCc _ _ _ r1 r2).mono ?_
    rintro e w62 ⟨rfl, b62⟩
    replace r1 := r1.below b62
    replace r2 := r2.below b62
    replace hX := hX.below b62 hX.lt
    replace hY := hY.below b62 hY.lt
    replace hM := hM.below b62 hM.lt
    replace g1 := g1.below b62 g1.lt
    replace g2 := g2.below b62 g2.lt
    replace hB := hB.trans (b62.mono hB.size)
    clear c53_hX_0 c53_hX_1 c53_hY_0 c53_hY_1 c53_hM_0 c53_hM_1 c53_g1_0 c53_g1_1 c53_g2_0 c53_g2_1
    obtain ⟨c54_hX_0, c54_hX_1⟩ := hX.cells2
    obtain ⟨c54_hY_0, c54_hY_1⟩ := hY.cells2
    obtain ⟨c54_hM_0, c54_hM_1⟩ := hM.cells2
    obtain ⟨c54_g1_0, c54_g1_1⟩ := g1.cells2
    obtain ⟨c54_g2_0, c54_g2_1⟩ := g2.cells2
    go_wp2_with fail
    refine (hIx _ _ (z1.below hB)).mono ?_
    rintro e w63 ⟨rfl, b63⟩
    replace r1 := r1.below b63
    replace r2 := r2.below b63
    replace hX := hX.below b63 hX.lt
    replace hY := hY.below b63 hY.lt
    replace hM := hM.below b63 hM.lt
    replace g1 := g1.below b63 g1.lt
    replace g2 := g2.below b63 g2.lt
    replace hB := hB.trans (b63.mono hB.size)
    clear c54_hX_0 c54_hX_1 c54_hY_0 c54_hY_1 c54_hM_0 c54_hM_1 c54_g1_0 c54_g1_1 c54_g2_0 c54_g2_1
    obtain ⟨c55_hX_0, c55_hX_1⟩ := hX.cells2
    obtain ⟨c55_hY_0, c55_hY_1⟩ := hY.cells2
    obtain ⟨c55_hM_0, c55_hM_1⟩ := hM.cells2
    obtain ⟨c55_g1_0, c55_g1_1⟩ := g1.cells2
    obtain ⟨c55_g2_0, c55_g2_1⟩ := g2.cells2
    go_wp2_with fail
    refine (hE _ (ht.below hB)).mono ?_
    rintro e w64 ⟨rfl, b64⟩
    replace r1 := r1.below b64
    replace r2 := r2.below b64
    replace hX := hX.below b64 hX.lt
    replace hY := hY.below b64 hY.lt
    replace hM := hM.below b64 hM.lt
    replace g1 := g1.below b64 g1.lt
    replace g2 := g2.below b64 g2.lt
    replace hB := hB.trans (b64.mono hB.size)
    clear c55_hX_0 c55_hX_1 c55_hY_0 c55_hY_1 c55_hM_0 c55_hM_1 c55_g1_0 c55_g1_1 c55_g2_0 c55_g2_1
    obtain ⟨c56_hX_0, c56_hX_1⟩ := hX.cells2
    obtain ⟨c56_hY_0, c56_hY_1⟩ := hY.cells2
    obtain ⟨c56_hM_0, c56_hM_1⟩ := hM.cells2
    obtain ⟨c56_g1_0, c56_g1_1⟩ := g1.cells2
    obtain ⟨c56_g2_0, c56_g2_1⟩ := g2.cells2
    go_wp2_with fail
    refine (hBt _ (zn.below hB)).mono ?_
    rintro e w65 ⟨rfl, rfl⟩
    go_wp2_with fail
    refine (hSm _ _ _ (z1.below hB) (z2.below hB)).mono ?_
    rintro e w66 ⟨rfl, b66⟩
    replace r1 := r1.below b66
    replace r2 := r2.below b66
    replace hX := hX.below b66 hX.lt
    replace hY := hY.below b66 hY.lt
    replace hM := hM.below b66 hM.lt
    replace g1 := g1.below b66 g1.lt
    replace g2 := g2.below b66 g2.lt
    replace hB := hB.trans (b66.mono hB.size)
    clear c56_hX_0 c56_hX_1 c56_hY_0 c56_hY_1 c56_hM_0 c56_hM_1 c56_g1_0 c56_g1_1 c56_g2_0 c56_g2_1
    obtain ⟨c57_hX_0, c57_hX_1⟩ := hX.cells2
    obtain ⟨c57_hY_0, c57_hY_1⟩ := hY.cells2
    obtain ⟨c57_hM_0, c57_hM_1⟩ := hM.cells2
    obtain ⟨c57_g1_0, c57_g1_1⟩ := g1.cells2
    obtain ⟨c57_g2_0, c57_g2_1⟩ := g2.cells2
    go_wp2_with fail
    go_ret
    exact ⟨rfl, hB⟩
theorem ZedOrder_all (b1 b2 : Bool) (v1 v2 : Value) (l1 l2 : List Nat) (m0 m1 : Int) (w : World) (h1 : IsL w v1 l1) (h2 : IsL w v2 l2) (i0 : -9223372036854775808 ≤ m0 ∧ m0 ≤ 9223372036854775807) (i1 : -9223372036854775808 ≤ m1 ∧ m1 ≤ 9223372036854775807) (ht : TabOk w) :
    Calls Tryd.prog 5 #[.agg #[.bool b1, v1], .agg #[.bool b2, v2], .agg #[.int .i64 m0, .int .i64 m1]] w fun e w' => e = .returned (.bool true) ∧ Below w.heap.size w w' := by
  obtain ⟨B1, D1, rfl, _⟩ := id h1
  obtain ⟨B2, D2, rfl, _⟩ := id h2
  cases f1 : (decide (l1.length ≤ 6) && rightZ b1 l1)
  · exact ZedOrder_un1 b1 b2 B1 B2 D1 D2 l1 l2 m0 m1 w h1 h2 i0 i1 ht f1
  cases f2 : (decide (l2.length ≤ 6) && rightZ b2 l2)
  · exact ZedOrder_un2 b1 b2 B1 B2 D1 D2 l1 l2 m0 m1 w h1 h2 i0 i1 ht f1 f2
  cases hfb : fitB (sided b1 (num l1))
  · exact ZedOrder_main_false b1 b2 B1 B2 D1 D2 l1 l2 m0 m1 w h1 h2 i0 i1 ht f1 f2 hfb
  · exact ZedOrder_main_true b1 b2 B1 B2 D1 D2 l1 l2 m0 m1 w h1 h2 i0 i1 ht f1 f2 hfb
end Go.Proofs.YtooonjcpdbbniaaDoor
