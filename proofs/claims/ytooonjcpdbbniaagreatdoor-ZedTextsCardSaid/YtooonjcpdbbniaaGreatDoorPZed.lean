/- The program's integers: small ones, which is greater, products. Printed by gen_pzed.py. -/
import Derived.Test.YtooonjcpdbbniaaGreatDoorZedW
import Derived.Test.YtooonjcpdbbniaaGreatDoorMul
import Derived.Test.YtooonjcpdbbniaaGreatDoorApp
namespace Go.Proofs.YtooonjcpdbbniaaGreatDoor
open Go.RowKit
attribute [local go_sem ↓] Go.wp_at_zero Go.wp_at_succ

set_option maxHeartbeats 1000000 in
theorem pzmade_any (b : Bool) (nv : Value) (n : Nat) (w : World) (h : IsN w nv n) :
    Calls Tryz.prog 29 #[.bool b, nv] w fun e w' => ∃ v', e = .returned v' ∧ IsZ w' v' (sided b n) ∧ Below w.heap.size w w' := by
  have hr := fun (w' : World) (h : IsN w' nv n) => IsZ.sided (b := b) h
  have h' := h
  obtain ⟨A, c, rfl, _⟩ := h
  have hn : decide (n ≠ 0) = decide (0 < (limbs n).length) := by
    rw [Bool.eq_iff_iff]; simp only [decide_eq_true_eq]
    constructor
    · intro h0; exact List.length_pos_iff.2 (fun e => h0 (limbs_nil.1 e))
    · intro h0 e; rw [e, limbs_zero] at h0; simp at h0
  rw [hn] at hr
  have R := Lib.hid hr
  have HI := Lib.hid h'
  clear hr hn h'
  generalize (limbs n).length = m at *
  have B0 := fun b => (Below.refl w.heap.size w).alloc (Nat.le_refl _) (.cells #[.bool b, .slice A m c] 25)
  have HB := Lib.hid B0
  clear B0
  cases b
  · go_enter Tryz.func29, Tryz.ntmps29
    go_wp2
    exact bodyPost_ret (v := .agg #[.bool false, .slice A m c]) (by simp [results, Tryz.results29, go_sem]) rfl ⟨_, rfl, R.out _ (HI.out.below (HB.out _)), HB.out _⟩
  · by_cases hm : 0 < m
    · have R1 := fun w' h => (show IsZ w' (.agg #[.bool true, .slice A m c]) (sided true n) by have := R.out w' h; rwa [decide_eq_true hm] at this)
      have R2 := Lib.hid R1
      clear R1
      go_enter Tryz.func29, Tryz.ntmps29
      go_wp2
      exact bodyPost_ret (v := .agg #[.bool true, .slice A m c]) (by simp [results, Tryz.results29, go_sem]) rfl ⟨_, rfl, R2.out _ (HI.out.below (HB.out _)), HB.out _⟩
    · have R1 := fun w' h => (show IsZ w' (.agg #[.bool false, .slice A m c]) (sided true n) by have := R.out w' h; rwa [decide_eq_false hm] at this)
      have R2 := Lib.hid R1
      obtain rfl : m = 0 := by omega
      clear R1
      go_enter Tryz.func29, Tryz.ntmps29
      go_wp2
      exact bodyPost_ret (v := .agg #[.bool false, .slice A 0 c]) (by simp [results, Tryz.results29, go_sem]) rfl ⟨_, rfl, R2.out _ (HI.out.below (HB.out _)), HB.out _⟩
set_option maxHeartbeats 1000000 in
theorem pzneg_any (v : Value) (z : Int) (w : World) (h : IsZ w v z) :
    Calls Tryz.prog 17 #[v] w fun e w' => ∃ v', e = .returned v' ∧ IsZ w' v' (-z) ∧ Below w.heap.size w w' := by
  obtain ⟨nv, rfl, hn⟩ := h
  have hM := fun w hn => pzmade_any (!decide (z < 0)) nv z.natAbs w hn
  have hz : sided (!decide (z < 0)) z.natAbs = -z := by
    unfold sided; by_cases h : z < 0 <;> simp [h] <;> omega
  rw [hz] at hM
  obtain ⟨c, hc⟩ : ∃ c, c = -z := ⟨_, rfl⟩
  rw [← hc] at hM ⊢
  clear hz hc
  generalize decide (z < 0) = b at *
  generalize z.natAbs = n at *
  obtain ⟨W0, hW, hT, hB⟩ := box2 w 25 25 #[.bool b, nv] #[.bool false, .slice none 0 0]
  have hn := hn.below hB
  obtain ⟨g, hg⟩ : ∃ g, g = w.heap.size := ⟨_, rfl⟩
  have hW' := Lib.hid (And.intro hW hg)
  rw [← hg] at hT
  clear hW hg
  go_enter Tryz.func17, Tryz.ntmps17
  go_wp2_with fail
  rw [← hW'.out.1, ← hW'.out.2]
  refine (hM _ hn).mono ?_
  rintro e w1 ⟨v1, rfl, ⟨n1, rfl, h1⟩, b1⟩
  obtain ⟨A1, L1, C1, rfl⟩ := h1.frm
  have hT := hT.below b1 hT.lt
  have hB := hB.trans (b1.mono hB.size)
  have hR := hT.2
  have q0 := hR.cell 0
  have q1 := hR.cell 1
  have z0 := hR.frozen 0
  have z1 := hR.frozen 1
  obtain ⟨p1, p2, p3⟩ := put2 hR (.bool (decide (c < 0))) (.slice A1 L1 C1) (by simp [noU]) hB (by rw [hW'.out.2]; omega)
  have P := Lib.hid (And.intro (p2 _ _ h1) p3)
  clear p1 p2 p3 hR hM
  go_wp2
  exact bodyPost_ret (v := .agg #[.bool (decide (c < 0)), .slice A1 L1 C1]) (by simp [results, Tryz.results17, go_sem, q0, q1]) rfl ⟨_, rfl, ⟨_, rfl, P.out.1⟩, P.out.2⟩
set_option maxHeartbeats 2000000 in
theorem pzmul_any (va vb : Value) (a b : Int) (w : World) (ha : IsZ w va a) (hb : IsZ w vb b) (sa : Sz a.natAbs 400000) (sb : Sz b.natAbs 400000) :
    Calls Tryz.prog 15 #[va, vb] w fun e w' => ∃ v', e = .returned v' ∧ IsZ w' v' (a * b) ∧ Below w.heap.size w w' := by
  obtain ⟨na, rfl, ha⟩ := ha
  obtain ⟨nb, rfl, hb⟩ := hb
  have hMul := fun w ha hb => mul_any na nb a.natAbs b.natAbs w ha hb (sa.fin (by omega)) (sb.fin (by omega))
  have hM := fun v w hn => pzmade_any (decide (a < 0) != decide (b < 0)) v (a.natAbs * b.natAbs) w hn
  have hz := mul_sided a b
  rw [hz] at hM
  obtain ⟨c, hc⟩ : ∃ c, c = a * b := ⟨_, rfl⟩
  rw [← hc] at hM ⊢
  clear hz hc
  generalize decide (a < 0) = s1 at *
  generalize decide (b < 0) = s2 at *
  generalize a.natAbs * b.natAbs = n at *
  generalize a.natAbs = x at *
  generalize b.natAbs = y at *
  obtain ⟨W0, hW, hT, hR, hB⟩ := box3 w 25 25 25 #[.bool s1, na] #[.bool s2, nb] #[.bool false, .slice none 0 0]
  have ha := ha.below hB
  have hb := hb.below hB
  obtain ⟨g, hg⟩ : ∃ g, g = w.heap.size := ⟨_, rfl⟩
  have hW' := Lib.hid (And.intro hW hg)
  rw [← hg] at hT hR
  clear hW hg
  go_enter Tryz.func15, Tryz.ntmps15
  go_wp2
  rw [← hW'.out.1, ← hW'.out.2]
  go_region_held3 (fun w' => w'.cell? ⟨g, 0, none⟩ = some (.bool s1) ∧ w'.cell? ⟨g, 1, none⟩ = some na ∧ w'.cell? ⟨g + 1, 0, none⟩ = some (.bool s2) ∧ w'.cell? ⟨g + 1, 1, none⟩ = some nb) (first | exact Two.cells22 (by assumption) | exact Two.cells22 (Two.far2 (by assumption) _ _))
    (first
      | (go_at_call 40; refine (hMul _ ?_ ?_).mono ?_; exact ha; exact hb; rintro x w1 ⟨v1, rfl, h1, b1⟩; have b1 := undrew b1; have hT1 := hT.below b1 hT.lt; have hR1 := hR.below b1 hR.lt; have hB1 := hB.trans (b1.mono hB.size))
      | (go_at_call 29; refine (hM _ _ ?_).mono ?_; exact h1; rintro x w2 ⟨v2, rfl, ⟨n2, rfl, h2⟩, b2⟩; obtain ⟨A2, L2, C2, rfl⟩ := h2.frm; have hT2 := hT1.below b2 hT1.lt; have hR2 := hR1.below b2 hR1.lt; have hB2 := hB1.trans (b2.mono hB1.size); have q0 := hR2.cell 0; have q1 := hR2.cell 1; have z0 := hR2.frozen 0; have z1 := hR2.frozen 1))
  obtain ⟨p1, p2, p3⟩ := put2 hR2 (.bool (decide (c < 0))) (.slice A2 L2 C2) (by simp [noU]) hB2 (by rw [hW'.out.2]; omega)
  have P := Lib.hid (And.intro (p2 _ _ h2) (And.intro p3 p1.cells2))
  clear p1 p2 p3
  go_wp2
  obtain ⟨P1, P2, P3, P4⟩ := P.out
  exact bodyPost_ret (v := .agg #[.bool (decide (c < 0)), .slice A2 L2 C2]) (by simp [results, Tryz.results15, go_sem, P3, P4]) rfl ⟨_, rfl, ⟨_, rfl, P1⟩, P2⟩
set_option maxHeartbeats 1000000 in
theorem pzof_any (n : Int) (h0 : -9223372036854775808 ≤ n) (h1 : n ≤ 9223372036854775807) (w : World) :
    Calls Tryz.prog 9 #[.int .i64 n] w fun e w' => ∃ v', e = .returned v' ∧ IsZ w' v' n ∧ Below w.heap.size w w' := by
  have hx : n.natAbs < W64 := by unfold W64; omega
  obtain ⟨c, hc⟩ : ∃ c, c = sided (decide (n < 0)) n.natAbs := ⟨_, rfl⟩
  have KEY : Hid (∀ w' v', IsZ w' v' c → IsZ w' v' n) := by
    rw [hc, sided_of]; exact fun _ _ h => h
  have hM := fun v w hn => pzmade_any (decide (n < 0)) v n.natAbs w hn
  rw [← hc] at hM
  clear hc
  have hO := fun w => of_any n.natAbs hx w
  by_cases hn : n < 0
  · rw [decide_eq_true hn] at hM
    have hw1 : IntKind.u64.wrap n = n + 18446744073709551616 := by rw [IntKind.wrap_u64]; omega
    have hw2 : IntKind.u64.wrap (-(n + 18446744073709551616)) = (n.natAbs : Int) := by rw [IntKind.wrap_u64]; omega
    clear hx h0 h1
    generalize n.natAbs = x at *
    obtain ⟨W0, hW, hR, hB⟩ := box1 w 25 #[.bool false, .slice none 0 0]
    obtain ⟨g, hg⟩ : ∃ g, g = w.heap.size := ⟨_, rfl⟩
    have hW' := Lib.hid (And.intro hW hg)
    rw [← hg] at hR
    have hgw : w.heap.size ≤ g := by omega
    clear hW hg
    skip
    obtain ⟨c1_hR_0, c1_hR_1⟩ := hR.cells2
    go_enter Tryz.func9, Tryz.ntmps9
    go_wp2_with fail
    rw [← hW'.out.1, ← hW'.out.2]
    refine (hO _).mono ?_
    rintro e w1 ⟨v1, rfl, h1, b1⟩
    replace hR := hR.below b1 hR.lt
    replace hB := hB.trans (b1.mono hB.size)
    clear c1_hR_0 c1_hR_1
    obtain ⟨c2_hR_0, c2_hR_1⟩ := hR.cells2
    go_wp2_with fail
    refine (hM _ _ h1).mono ?_
    rintro e w2 ⟨v2, rfl, ⟨n2, rfl, h2⟩, b2⟩
    replace hR := hR.below b2 hR.lt
    replace h1 := h1.below b2
    replace hB := hB.trans (b2.mono hB.size)
    clear c2_hR_0 c2_hR_1
    obtain ⟨c3_hR_0, c3_hR_1⟩ := hR.cells2
    obtain ⟨A2, L2, C2, rfl⟩ := h2.frm
    obtain ⟨p1, p2, p3⟩ := put2 hR (.bool (decide (c < 0))) (.slice A2 L2 C2) (by simp [noU]) hB (by omega)
    have q0 := hR.cell 0
    have z0 := hR.frozen 0
    have q1 := hR.cell 1
    have z1 := hR.frozen 1
    have P := Lib.hid (And.intro (KEY.out _ _ (⟨_, rfl, p2 _ _ h2⟩ : IsZ _ (.agg #[.bool (decide (c < 0)), .slice A2 L2 C2]) _)) (And.intro p3 p1.cells2))
    clear p1 p2 p3 
    go_wp2_with fail
    obtain ⟨P1, P2, P3, P4⟩ := P.out
    exact bodyPost_ret (v := .agg #[.bool (decide (c < 0)), .slice A2 L2 C2]) (by simp [results, Tryz.results9, go_sem, P3, P4, q0, q1]) rfl ⟨_, rfl, P1, P2⟩
  · rw [decide_eq_false hn] at hM
    have hw1 : IntKind.u64.wrap n = n := by rw [IntKind.wrap_u64]; omega
    rw [show (n.natAbs : Int) = n from by omega] at hO
    clear hx h0 h1
    obtain ⟨W0, hW, hR, hB⟩ := box1 w 25 #[.bool false, .slice none 0 0]
    obtain ⟨g, hg⟩ : ∃ g, g = w.heap.size := ⟨_, rfl⟩
    have hW' := Lib.hid (And.intro hW hg)
    rw [← hg] at hR
    have hgw : w.heap.size ≤ g := by omega
    clear hW hg
    skip
    obtain ⟨c1_hR_0, c1_hR_1⟩ := hR.cells2
    go_enter Tryz.func9, Tryz.ntmps9
    go_wp2_with fail
    rw [← hW'.out.1, ← hW'.out.2]
    refine (hO _).mono ?_
    rintro e w1 ⟨v1, rfl, h1, b1⟩
    replace hR := hR.below b1 hR.lt
    replace hB := hB.trans (b1.mono hB.size)
    clear c1_hR_0 c1_hR_1
    obtain ⟨c2_hR_0, c2_hR_1⟩ := hR.cells2
    go_wp2_with fail
    refine (hM _ _ h1).mono ?_
    rintro e w2 ⟨v2, rfl, ⟨n2, rfl, h2⟩, b2⟩
    replace hR := hR.below b2 hR.lt
    replace h1 := h1.below b2
    replace hB := hB.trans (b2.mono hB.size)
    clear c2_hR_0 c2_hR_1
    obtain ⟨c3_hR_0, c3_hR_1⟩ := hR.cells2
    obtain ⟨A2, L2, C2, rfl⟩ := h2.frm
    obtain ⟨p1, p2, p3⟩ := put2 hR (.bool (decide (c < 0))) (.slice A2 L2 C2) (by simp [noU]) hB (by omega)
    have q0 := hR.cell 0
    have z0 := hR.frozen 0
    have q1 := hR.cell 1
    have z1 := hR.frozen 1
    have P := Lib.hid (And.intro (KEY.out _ _ (⟨_, rfl, p2 _ _ h2⟩ : IsZ _ (.agg #[.bool (decide (c < 0)), .slice A2 L2 C2]) _)) (And.intro p3 p1.cells2))
    clear p1 p2 p3 
    go_wp2_with fail
    obtain ⟨P1, P2, P3, P4⟩ := P.out
    exact bodyPost_ret (v := .agg #[.bool (decide (c < 0)), .slice A2 L2 C2]) (by simp [results, Tryz.results9, go_sem, P3, P4, q0, q1]) rfl ⟨_, rfl, P1, P2⟩
theorem cmpI_neg_swap (x y : Nat) : -cmpI x y = cmpI y x := by unfold cmpI; (repeat' split) <;> omega
/-- of two integers, by sides and sizes, as the program asks it -/
theorem cmp_sided2 (a b : Int) : cmpI a b = if decide (a < 0) = true ∧ decide (b < 0) = false then -1 else if decide (b < 0) = true ∧ decide (a < 0) = false then 1 else if decide (a < 0) = true then cmpI b.natAbs a.natAbs else cmpI a.natAbs b.natAbs := by
  unfold cmpI
  by_cases ha : a < 0 <;> by_cases hb : b < 0 <;> simp only [ha, hb, decide_true, decide_false, and_self, and_true, and_false, true_and, false_and, if_true, if_false, Bool.false_eq_true, Bool.true_eq_false] <;> (repeat' split) <;> omega
set_option maxHeartbeats 2000000 in
theorem pzcmp_any (va vb : Value) (a b : Int) (w : World) (ha : IsZ w va a) (hb : IsZ w vb b) :
    Calls Tryz.prog 19 #[va, vb] w fun e w' => e = .returned (.int .i64 (cmpI a b)) ∧ Below w.heap.size w w' := by
  rw [cmp_sided2]
  obtain ⟨na, rfl, ha⟩ := ha
  obtain ⟨nb, rfl, hb⟩ := hb
  have hC := fun w ha hb => cmp_any na nb a.natAbs b.natAbs w ha hb
  have hD := fun w ha hb => cmp_any nb na b.natAbs a.natAbs w ha hb
  generalize cmpI (a.natAbs : Int) (b.natAbs : Int) = c at *
  generalize cmpI (b.natAbs : Int) (a.natAbs : Int) = d at *
  generalize decide (a < 0) = s1 at *
  generalize decide (b < 0) = s2 at *
  rcases s1 with _ | _
  · rcases s2 with _ | _
    · obtain ⟨W0, hW, hT, hB⟩ := box2 w 25 25 #[.bool false, na] #[.bool false, nb]
      obtain ⟨g, hg⟩ : ∃ g, g = w.heap.size := ⟨_, rfl⟩
      have hW' := Lib.hid (And.intro hW hg)
      rw [← hg] at hT
      have hgw : w.heap.size ≤ g := by omega
      clear hW hg
      obtain ⟨hX, hY⟩ := hT
      replace ha := ha.below hB
      replace hb := hb.below hB
      obtain ⟨c1_hX_0, c1_hX_1⟩ := hX.cells2
      obtain ⟨c1_hY_0, c1_hY_1⟩ := hY.cells2
      go_enter Tryz.func19, Tryz.ntmps19
      go_wp2_with fail
      rw [← hW'.out.1, ← hW'.out.2]
      refine (hC _ ha hb).mono ?_
      rintro e w1 ⟨rfl, b1⟩
      replace ha := ha.below b1
      replace hb := hb.below b1
      replace hX := hX.below b1 hX.lt
      replace hY := hY.below b1 hY.lt
      replace hB := hB.trans (b1.mono hB.size)
      clear c1_hX_0 c1_hX_1 c1_hY_0 c1_hY_1
      obtain ⟨c2_hX_0, c2_hX_1⟩ := hX.cells2
      obtain ⟨c2_hY_0, c2_hY_1⟩ := hY.cells2
      go_wp2
      go_ret
      exact ⟨rfl, hB⟩
    · obtain ⟨W0, hW, hT, hB⟩ := box2 w 25 25 #[.bool false, na] #[.bool true, nb]
      obtain ⟨g, hg⟩ : ∃ g, g = w.heap.size := ⟨_, rfl⟩
      have hW' := Lib.hid (And.intro hW hg)
      rw [← hg] at hT
      have hgw : w.heap.size ≤ g := by omega
      clear hW hg
      obtain ⟨hX, hY⟩ := hT
      replace ha := ha.below hB
      replace hb := hb.below hB
      obtain ⟨c1_hX_0, c1_hX_1⟩ := hX.cells2
      obtain ⟨c1_hY_0, c1_hY_1⟩ := hY.cells2
      go_enter Tryz.func19, Tryz.ntmps19
      go_wp2
      go_ret
      exact ⟨rfl, by have := hB; rw [hW'.out.1] at this; exact this⟩
  · rcases s2 with _ | _
    · obtain ⟨W0, hW, hT, hB⟩ := box2 w 25 25 #[.bool true, na] #[.bool false, nb]
      obtain ⟨g, hg⟩ : ∃ g, g = w.heap.size := ⟨_, rfl⟩
      have hW' := Lib.hid (And.intro hW hg)
      rw [← hg] at hT
      have hgw : w.heap.size ≤ g := by omega
      clear hW hg
      obtain ⟨hX, hY⟩ := hT
      replace ha := ha.below hB
      replace hb := hb.below hB
      obtain ⟨c1_hX_0, c1_hX_1⟩ := hX.cells2
      obtain ⟨c1_hY_0, c1_hY_1⟩ := hY.cells2
      go_enter Tryz.func19, Tryz.ntmps19
      go_wp2
      go_ret
      exact ⟨rfl, by have := hB; rw [hW'.out.1] at this; exact this⟩
    · obtain ⟨Aa, La, Ca, rfl⟩ := ha.frm
      obtain ⟨Ab, Lb, Cb, rfl⟩ := hb.frm
      obtain ⟨W0, hW, hT, hB⟩ := box2 w 25 25 #[.bool true, .slice Ab Lb Cb] #[.bool true, .slice Aa La Ca]
      obtain ⟨g, hg⟩ : ∃ g, g = w.heap.size := ⟨_, rfl⟩
      have hW' := Lib.hid (And.intro hW hg)
      rw [← hg] at hT
      have hgw : w.heap.size ≤ g := by omega
      clear hW hg
      obtain ⟨hX, hY⟩ := hT
      replace ha := ha.below hB
      replace hb := hb.below hB
      obtain ⟨c1_hX_0, c1_hX_1⟩ := hX.cells2
      obtain ⟨c1_hY_0, c1_hY_1⟩ := hY.cells2
      go_enter Tryz.func19, Tryz.ntmps19
      go_wp2_with fail
      rw [← hW'.out.1, ← hW'.out.2]
      refine (hD _ hb ha).mono ?_
      rintro e w1 ⟨rfl, b1⟩
      replace ha := ha.below b1
      replace hb := hb.below b1
      replace hX := hX.below b1 hX.lt
      replace hY := hY.below b1 hY.lt
      replace hB := hB.trans (b1.mono hB.size)
      clear c1_hX_0 c1_hX_1 c1_hY_0 c1_hY_1
      obtain ⟨c2_hX_0, c2_hX_1⟩ := hX.cells2
      obtain ⟨c2_hY_0, c2_hY_1⟩ := hY.cells2
      go_wp2
      go_ret
      exact ⟨rfl, hB⟩
end Go.Proofs.YtooonjcpdbbniaaGreatDoor
namespace Go.Proofs.YtooonjcpdbbniaaGreatDoor
open Go.RowKit
attribute [local go_sem ↓] Go.wp_at_zero Go.wp_at_succ
end Go.Proofs.YtooonjcpdbbniaaGreatDoor
