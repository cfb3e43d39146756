/- The document's integers: small ones, which is greater, sums. Printed by gen_zed2.py. -/
import Derived.Test.YtooonjcpdbbniaaGreatDoorZedW
import Derived.Test.YtooonjcpdbbniaaGreatDoorDivM
namespace Go.Proofs.YtooonjcpdbbniaaGreatDoor
open Go.RowKit
attribute [local go_sem ↓] Go.wp_at_zero Go.wp_at_succ

set_option maxHeartbeats 1000000 in
theorem rzof_any (n : Int) (h0 : -9223372036854775808 ≤ n) (h1 : n ≤ 9223372036854775807) (w : World) :
    Calls Tryz.prog 10 #[.int .i64 n] w fun e w' => ∃ v', e = .returned v' ∧ IsZ w' v' n ∧ Below w.heap.size w w' := by
  have hx : n.natAbs < W64 := by unfold W64; omega
  obtain ⟨c, hc⟩ : ∃ c, c = sided (decide (n < 0)) n.natAbs := ⟨_, rfl⟩
  have KEY : Hid (∀ w' v', IsZ w' v' c → IsZ w' v' n) := by
    rw [hc, sided_of]; exact fun _ _ h => h
  have hM := fun v w hn => rmade_any (decide (n < 0)) v n.natAbs w hn
  rw [← hc] at hM
  clear hc
  obtain ⟨W0, hW, hR, hB⟩ := box1 w 25 #[.bool false, .slice none 0 0]
  obtain ⟨g, hg⟩ : ∃ g, g = w.heap.size := ⟨_, rfl⟩
  have hW' := Lib.hid (And.intro hW hg)
  rw [← hg] at hR
  clear hW hg
  by_cases hn : n < 0
  · have hO := fun w => rof_any n.natAbs hx w
    rw [show (n.natAbs : Int) = -(n + 1) + 1 from by omega] at hO
    rw [decide_eq_true hn] at hM
    go_enter Tryz.func10, Tryz.ntmps10
    go_wp2_with fail
    rw [← hW'.out.1, ← hW'.out.2]
    refine (hO _).mono ?_
    rintro e w1 ⟨v1, rfl, h1, b1⟩
    have hR := hR.below b1 hR.lt
    have hB := hB.trans (b1.mono hB.size)
    go_wp2_with fail
    refine (hM _ _ h1).mono ?_
    rintro e w2 ⟨v2, rfl, ⟨n2, rfl, h2⟩, b2⟩
    obtain ⟨A2, L2, C2, rfl⟩ := h2.frm
    have hR := hR.below b2 hR.lt
    have hB := hB.trans (b2.mono hB.size)
    clear hM hO
    obtain ⟨p1, p2, p3⟩ := put2 hR (.bool (decide (c < 0))) (.slice A2 L2 C2) (by simp [noU]) hB (by rw [hW'.out.2]; omega)
    have q0 := hR.cell 0
    have q1 := hR.cell 1
    have z0 := hR.frozen 0
    have z1 := hR.frozen 1
    have P := Lib.hid (And.intro (KEY.out _ _ (⟨_, rfl, p2 _ _ h2⟩ : IsZ _ (.agg #[.bool (decide (c < 0)), .slice A2 L2 C2]) _)) (And.intro p3 p1.cells2))
    clear p1 p2 p3
    go_wp2
    obtain ⟨P1, P2, P3, P4⟩ := P.out
    exact bodyPost_ret (v := .agg #[.bool (decide (c < 0)), .slice A2 L2 C2]) (by simp [results, Tryz.results10, go_sem, P3, P4, q0, q1]) rfl ⟨_, rfl, P1, P2⟩
  · have hO := fun w => rof_any n.natAbs hx w
    rw [show (n.natAbs : Int) = n from by omega] at hO
    rw [decide_eq_false hn] at hM
    have hn0 : 0 ≤ n := by omega
    have hw : IntKind.u64.wrap n = n := by rw [IntKind.wrap_u64]; omega
    go_enter Tryz.func10, Tryz.ntmps10
    go_wp2_with fail
    rw [← hW'.out.1, ← hW'.out.2]
    refine (hO _).mono ?_
    rintro e w1 ⟨v1, rfl, h1, b1⟩
    have hR := hR.below b1 hR.lt
    have hB := hB.trans (b1.mono hB.size)
    go_wp2_with fail
    refine (hM _ _ h1).mono ?_
    rintro e w2 ⟨v2, rfl, ⟨n2, rfl, h2⟩, b2⟩
    obtain ⟨A2, L2, C2, rfl⟩ := h2.frm
    have hR := hR.below b2 hR.lt
    have hB := hB.trans (b2.mono hB.size)
    clear hM hO
    obtain ⟨p1, p2, p3⟩ := put2 hR (.bool (decide (c < 0))) (.slice A2 L2 C2) (by simp [noU]) hB (by rw [hW'.out.2]; omega)
    have q0 := hR.cell 0
    have q1 := hR.cell 1
    have z0 := hR.frozen 0
    have z1 := hR.frozen 1
    have P := Lib.hid (And.intro (KEY.out _ _ (⟨_, rfl, p2 _ _ h2⟩ : IsZ _ (.agg #[.bool (decide (c < 0)), .slice A2 L2 C2]) _)) (And.intro p3 p1.cells2))
    clear p1 p2 p3
    go_wp2
    obtain ⟨P1, P2, P3, P4⟩ := P.out
    exact bodyPost_ret (v := .agg #[.bool (decide (c < 0)), .slice A2 L2 C2]) (by simp [results, Tryz.results10, go_sem, P3, P4, q0, q1]) rfl ⟨_, rfl, P1, P2⟩
/-- of two integers, by sides and sizes -/
theorem cmp_sided (a b : Int) : cmpI a b = if decide (a < 0) = decide (b < 0) then (if decide (a < 0) = true then -cmpI a.natAbs b.natAbs else cmpI a.natAbs b.natAbs) else if decide (a < 0) = true then -1 else 1 := by
  unfold cmpI
  by_cases ha : a < 0 <;> by_cases hb : b < 0 <;> simp only [ha, hb, decide_true, decide_false, if_true, if_false, Bool.false_eq_true, Bool.true_eq_false] <;> (repeat' split) <;> omega
set_option maxHeartbeats 1000000 in
theorem rzcmp_any (va vb : Value) (a b : Int) (w : World) (ha : IsZ w va a) (hb : IsZ w vb b) :
    Calls Tryz.prog 20 #[va, vb] w fun e w' => e = .returned (.int .i64 (cmpI a b)) ∧ Below w.heap.size w w' := by
  rw [cmp_sided]
  obtain ⟨na, rfl, ha⟩ := ha
  obtain ⟨nb, rfl, hb⟩ := hb
  have hC := fun w ha hb => rcmp_n na nb a.natAbs b.natAbs w ha hb
  have hbd : -1 ≤ cmpI (a.natAbs : Int) (b.natAbs : Int) ∧ cmpI (a.natAbs : Int) (b.natAbs : Int) ≤ 1 := by unfold cmpI; split <;> (try split) <;> omega
  generalize cmpI (a.natAbs : Int) (b.natAbs : Int) = c at *
  generalize decide (a < 0) = s1 at *
  generalize decide (b < 0) = s2 at *
  obtain ⟨W0, hW, hT, hB⟩ := box2 w 25 25 #[.bool s1, na] #[.bool s2, nb]
  obtain ⟨g, hg⟩ : ∃ g, g = w.heap.size := ⟨_, rfl⟩
  have hW' := Lib.hid (And.intro hW hg)
  rw [← hg] at hT
  clear hW hg
  have ha := ha.below hB
  have hb := hb.below hB
  obtain ⟨k1, k2⟩ := hbd
  have HB := Lib.hid hB
  rcases s1 <;> rcases s2
  all_goals
    go_enter Tryz.func20, Tryz.ntmps20
    go_wp2_with fail
    try (
      rw [← hW'.out.1, ← hW'.out.2]
      refine (hC _ ha hb).mono ?_
      rintro e w1 ⟨rfl, n1, rfl⟩
      have hT := hT.below (below_drewN (Below.refl _ _) n1) hT.lt
      have HB := Lib.hid (below_drewN hB n1)
      obtain ⟨q0, q1, q2, q3⟩ := hT.cells22
      go_wp2)
    go_ret
    exact ⟨rfl, by first | exact HB.out | (have := HB.out; rw [hW'.out.1] at this; exact this)⟩

theorem limb1 {n : Nat} (h : n < W64) : (limbs n).length ≤ 1 ∧ lat (limbs n) 0 = n := by
  refine ⟨limbs_len_le (by rwa [Nat.pow_one]), ?_⟩
  rw [lat_limbs, Nat.pow_zero, Nat.div_one, Nat.mod_eq_of_lt h]
set_option maxHeartbeats 2000000 in
/-- does it fit into 64 bits, and which one is it -/
theorem rzint_any (v : Value) (z : Int) (w : World) (h : IsZ w v z) :
    Calls Tryz.prog 12 #[v] w fun e w' => e = .returned (.tuple #[.int .i64 (fitV z), .bool (fitB z)]) ∧ Below w.heap.size w w' := by
  obtain ⟨nv, rfl, hn⟩ := h
  have hS := fun w hn => rsmall_any nv (limbs z.natAbs) w hn
  obtain ⟨W0, hW, hR, hB⟩ := box1 w 25 #[.bool (decide (z < 0)), nv]
  obtain ⟨g, hg⟩ : ∃ g, g = w.heap.size := ⟨_, rfl⟩
  have hW' := Lib.hid (And.intro hW hg)
  rw [← hg] at hR
  clear hW hg
  have hn := hn.below hB
  have HB := Lib.hid hB
  obtain ⟨q0, q1⟩ := hR.cells2
  by_cases hbig : z.natAbs < W64
  · obtain ⟨l1, l2⟩ := limb1 hbig
    simp only [if_pos l1, l2] at hS
    have LL := Lib.hid (And.intro l1 l2)
    unfold W64 at hbig
    clear l1 l2
    by_cases h1 : z < -9223372036854775808
    · have e1 : fitV z = 0 ∧ fitB z = false := ⟨if_neg (by omega), decide_eq_false (by omega)⟩
      rw [e1.1, e1.2]
      have d1 : decide (z < 0) = true := decide_eq_true (by omega)
      rw [d1] at hW' q0
      rw [d1]
      have d2 : decide ((z.natAbs : Int) ≤ 9223372036854775808) = false := decide_eq_false (by omega)
      have d3 : (9223372036854775808 : Int) < (z.natAbs : Int) := by omega
      generalize z.natAbs = x at *
      clear d1 e1 h1
      go_enter Tryz.func12, Tryz.ntmps12
      go_wp2_with fail
      rw [← hW'.out.1, ← hW'.out.2]
      refine (hS _ hn).mono ?_
      rintro e w1 ⟨rfl, rfl⟩
      go_wp2
      go_ret2
      exact ⟨rfl, HB.out⟩
    · by_cases h2 : z = -9223372036854775808
      · have e1 : fitV z = -9223372036854775808 ∧ fitB z = true := ⟨by rw [h2]; rfl, by rw [h2]; rfl⟩
        rw [e1.1, e1.2]
        have d1 : decide (z < 0) = true := decide_eq_true (by omega)
        rw [d1] at hW' q0
        rw [d1]
        have d2 : z.natAbs = 9223372036854775808 := by omega
        rw [d2] at hS hn
        clear d1 e1 h1 h2 d2 hbig
        go_enter Tryz.func12, Tryz.ntmps12
        go_wp2_with fail
        rw [← hW'.out.1, ← hW'.out.2]
        refine (hS _ hn).mono ?_
        rintro e w1 ⟨rfl, rfl⟩
        go_wp2
        go_ret2
        exact ⟨rfl, HB.out⟩
      · by_cases h3 : z < 0
        · have e1 : fitV z = z ∧ fitB z = true := ⟨if_pos (by omega), decide_eq_true (by omega)⟩
          have d1 : decide (z < 0) = true := decide_eq_true (by omega)
          rw [d1] at hW' q0
          rw [d1]
          have ez : z = -(z.natAbs : Int) := by omega
          rw [e1.1, e1.2]
          have d3 : (z.natAbs : Int) ≤ 9223372036854775807 := by omega
          have d4 : ((z.natAbs : Int) == 9223372036854775808) = false := by simp; omega
          have EZ := Lib.hid ez
          clear d1 e1 h1 h2 h3 ez hbig
          generalize z.natAbs = x at *
          have d5 : IntKind.i64.wrap (x : Int) = x := by rw [IntKind.wrap_i64]; omega
          go_enter Tryz.func12, Tryz.ntmps12
          go_wp2_with fail
          rw [← hW'.out.1, ← hW'.out.2]
          refine (hS _ hn).mono ?_
          rintro e w1 ⟨rfl, rfl⟩
          go_wp2
          go_ret2
          exact ⟨by rw [← EZ.out]; rfl, HB.out⟩
        · by_cases h4 : z ≤ 9223372036854775807
          · have e1 : fitV z = z ∧ fitB z = true := ⟨if_pos (by omega), decide_eq_true (by omega)⟩
            have d1 : decide (z < 0) = false := decide_eq_false (by omega)
            rw [d1] at hW' q0
            rw [d1]
            have ez : z = (z.natAbs : Int) := by omega
            rw [e1.1, e1.2]
            have d3 : (z.natAbs : Int) ≤ 9223372036854775807 := by omega
            have d4 : ((z.natAbs : Int) == 9223372036854775808) = false := by simp; omega
            have EZ := Lib.hid ez
            clear d1 e1 h1 h2 h3 ez h4 hbig
            generalize z.natAbs = x at *
            have d5 : IntKind.i64.wrap (x : Int) = x := by rw [IntKind.wrap_i64]; omega
            go_enter Tryz.func12, Tryz.ntmps12
            go_wp2_with fail
            rw [← hW'.out.1, ← hW'.out.2]
            refine (hS _ hn).mono ?_
            rintro e w1 ⟨rfl, rfl⟩
            go_wp2
            go_ret2
            exact ⟨by rw [← EZ.out]; rfl, HB.out⟩
          · have e1 : fitV z = 0 ∧ fitB z = false := ⟨if_neg (by omega), decide_eq_false (by omega)⟩
            rw [e1.1, e1.2]
            have d1 : decide (z < 0) = false := decide_eq_false (by omega)
            rw [d1] at hW' q0
            rw [d1]
            have d3 : (9223372036854775807 : Int) < (z.natAbs : Int) := by omega
            clear d1 e1 h1 h2 h3 h4
            generalize z.natAbs = x at *
            go_enter Tryz.func12, Tryz.ntmps12
            go_wp2_with fail
            rw [← hW'.out.1, ← hW'.out.2]
            refine (hS _ hn).mono ?_
            rintro e w1 ⟨rfl, rfl⟩
            go_wp2
            go_ret2
            exact ⟨rfl, HB.out⟩
  · have e1 : fitV z = 0 ∧ fitB z = false := by unfold W64 at hbig; exact ⟨if_neg (by omega), decide_eq_false (by omega)⟩
    rw [e1.1, e1.2]
    have l1 : ¬ (limbs z.natAbs).length ≤ 1 := fun h => hbig (by have := lt_of_limbs_len h; rwa [Nat.pow_one] at this)
    simp only [if_neg l1] at hS
    generalize decide (z < 0) = b at *
    clear l1 e1 hbig
    go_enter Tryz.func12, Tryz.ntmps12
    go_wp2_with fail
    rw [← hW'.out.1, ← hW'.out.2]
    refine (hS _ hn).mono ?_
    rintro e w1 ⟨rfl, rfl⟩
    go_wp2
    go_ret2
    exact ⟨rfl, HB.out⟩
end Go.Proofs.YtooonjcpdbbniaaGreatDoor
namespace Go.Proofs.YtooonjcpdbbniaaGreatDoor
open Go.RowKit
attribute [local go_sem ↓] Go.wp_at_zero Go.wp_at_succ

theorem sided_add_same (s : Bool) (x y : Nat) : sided s x + sided s y = sided s (x + y) := by cases s <;> simp [sided] <;> omega
theorem sided_add_ge (s t : Bool) (x y : Nat) (h : s ≠ t) (hle : y ≤ x) : sided s x + sided t y = sided s (x - y) := by cases s <;> cases t <;> simp [sided] at * <;> omega
theorem sided_add_lt (s t : Bool) (x y : Nat) (h : s ≠ t) (hlt : x < y) : sided s x + sided t y = sided t (y - x) := by cases s <;> cases t <;> simp [sided] at * <;> omega
set_option maxHeartbeats 4000000 in
theorem rzadd_any (va vb : Value) (a b : Int) (w : World) (ha : IsZ w va a) (hb : IsZ w vb b) (sa : Sz a.natAbs 400000) (sb : Sz b.natAbs 400000) :
    Calls Tryz.prog 14 #[va, vb] w fun e w' => ∃ v', e = .returned v' ∧ IsZ w' v' (a + b) ∧ Below w.heap.size w w' := by
  obtain ⟨na, rfl, ha⟩ := ha
  obtain ⟨nb, rfl, hb⟩ := hb
  have hAdd := fun w ha hb => radd_any na nb a.natAbs b.natAbs w ha hb (sa.fin (by omega)) (sb.fin (by omega))
  have hSab := fun w ha hb h => rsub_any na nb a.natAbs b.natAbs w ha hb (sa.fin (by omega)) (sb.fin (by omega)) h
  have hSba := fun w ha hb h => rsub_any nb na b.natAbs a.natAbs w hb ha (sb.fin (by omega)) (sa.fin (by omega)) h
  have hC := fun w ha hb => rcmp_n na nb a.natAbs b.natAbs w ha hb
  have hM := fun s v n w hn => rmade_any s v n w hn
  obtain ⟨c, hc⟩ : ∃ c, c = a + b := ⟨_, rfl⟩
  rw [← hc]
  rw [← sided_of a, ← sided_of b] at hc
  generalize decide (a < 0) = s1 at *
  generalize decide (b < 0) = s2 at *
  generalize a.natAbs = x at *
  generalize b.natAbs = y at *
  obtain ⟨W0, hW, hT, hR, hB⟩ := box3 w 25 25 25 #[.bool s1, na] #[.bool s2, nb] #[.bool false, .slice none 0 0]
  obtain ⟨g, hg⟩ : ∃ g, g = w.heap.size := ⟨_, rfl⟩
  have hW' := Lib.hid (And.intro hW hg)
  rw [← hg] at hT hR
  clear hW hg
  have ha := ha.below hB
  have hb := hb.below hB
  have CT := hT.cells22
  by_cases hs : s1 = s2
  · subst hs
    rw [sided_add_same] at hc
    have hM := fun v w hn => hM s1 v (x + y) w hn
    rw [← hc] at hM
    clear hc hSab hSba hC
    have hAdd := fun w ha hb => hAdd w ha hb
    generalize x + y = n at *
    obtain ⟨q00, q01, q10, q11⟩ := CT
    go_enter Tryz.func14, Tryz.ntmps14
    go_wp2
    rw [← hW'.out.1, ← hW'.out.2]
    go_region_held3 (fun w' => w'.cell? ⟨g, 0, none⟩ = some (.bool s1) ∧ w'.cell? ⟨g, 1, none⟩ = some na ∧ w'.cell? ⟨g + 1, 0, none⟩ = some (.bool s1) ∧ w'.cell? ⟨g + 1, 1, none⟩ = some nb) (first | exact Two.cells22 (by assumption) | exact Two.cells22 (Two.far2 (by assumption) _ _))
      (first
        | (go_at_call 37; refine (hAdd _ ?_ ?_).mono ?_; exact ha; exact hb; rintro x w1 ⟨v1, rfl, h1, b1⟩; have b1 := undrew b1; have hT1 := hT.below b1 hT.lt; have hR1 := hR.below b1 hR.lt; have hB1 := hB.trans (b1.mono hB.size))
        | (go_at_call 31; refine (hM _ _ ?_).mono ?_; exact h1; rintro x w2 ⟨v2, rfl, ⟨n2, rfl, h2⟩, b2⟩; obtain ⟨A2, L2, C2, rfl⟩ := h2.frm; have hT2 := hT1.below b2 hT1.lt; have hR2 := hR1.below b2 hR1.lt; have hB2 := hB1.trans (b2.mono hB1.size); have q0 := hR2.cell 0; have q1 := hR2.cell 1; have z0 := hR2.frozen 0; have z1 := hR2.frozen 1))
    obtain ⟨p1, p2, p3⟩ := put2 hR2 (.bool (decide (c < 0))) (.slice A2 L2 C2) (by simp [noU]) hB2 (by rw [hW'.out.2]; omega)
    have q0 := hR2.cell 0
    have z0 := hR2.frozen 0
    have q1 := hR2.cell 1
    have z1 := hR2.frozen 1
    have P := Lib.hid (And.intro (⟨_, rfl, p2 _ _ h2⟩ : IsZ _ (.agg #[.bool (decide (c < 0)), .slice A2 L2 C2]) c) (And.intro p3 p1.cells2))
    clear p1 p2 p3 
    go_wp2
    obtain ⟨P1, P2, P3, P4⟩ := P.out
    exact bodyPost_ret (v := .agg #[.bool (decide (c < 0)), .slice A2 L2 C2]) (by simp [results, Tryz.results14, go_sem, P3, P4, q0, q1]) rfl ⟨_, rfl, P1, P2⟩
  · by_cases hle : y ≤ x
    · rw [sided_add_ge _ _ _ _ hs hle] at hc
      have hSab := fun w ha hb => hSab w ha hb hle
      have hM := fun v w hn => hM s1 v (x - y) w hn
      rw [← hc] at hM
      clear hc
      generalize x - y = n at *
      obtain ⟨q00, q01, q10, q11⟩ := CT
      have hne : (s1 == s2) = false := by simpa using hs
      have hne2 : decide (s1 = s2) = false := decide_eq_false hs
      have HS := Lib.hid hs
      clear hs
      have hk : (0 : Int) ≤ cmpI (x : Int) (y : Int) := by unfold cmpI; split <;> (try split) <;> omega
      generalize cmpI (x : Int) (y : Int) = k at *
      go_enter Tryz.func14, Tryz.ntmps14
      go_wp2_with fail
      rw [← hW'.out.1, ← hW'.out.2]
      refine (hC _ ha hb).mono ?_
      rintro e w1 ⟨rfl, n1, rfl⟩
      have d1 := below_drewN (Below.refl W0.heap.size W0) n1
      have ha := ha.below d1
      have hb := hb.below d1
      have hT := hT.below d1 hT.lt
      have hR := hR.below d1 hR.lt
      have hB := below_drewN hB n1
      generalize W0.drewN n1 = w1 at *
      obtain ⟨q00, q01, q10, q11⟩ := hT.cells22
      go_wp2_with fail
      refine (hSab _ ha hb).mono ?_
      rintro e w2 ⟨v2, rfl, h2, b2⟩
      have hT := hT.below b2 hT.lt
      have hR := hR.below b2 hR.lt
      have hB := hB.trans (b2.mono hB.size)
      obtain ⟨q00, q01, q10, q11⟩ := hT.cells22
      go_wp2_with fail
      refine (hM _ _ h2).mono ?_
      rintro e w3 ⟨v3, rfl, ⟨n3, rfl, h3⟩, b3⟩
      obtain ⟨A3, L3, C3, rfl⟩ := h3.frm
      have hR := hR.below b3 hR.lt
      have hB := hB.trans (b3.mono hB.size)
      clear hM hAdd
      obtain ⟨p1, p2, p3⟩ := put2 hR (.bool (decide (c < 0))) (.slice A3 L3 C3) (by simp [noU]) hB (by rw [hW'.out.2]; omega)
      have q0 := hR.cell 0
      have z0 := hR.frozen 0
      have q1 := hR.cell 1
      have z1 := hR.frozen 1
      have P := Lib.hid (And.intro (⟨_, rfl, p2 _ _ h3⟩ : IsZ _ (.agg #[.bool (decide (c < 0)), .slice A3 L3 C3]) c) (And.intro p3 p1.cells2))
      clear p1 p2 p3 
      go_wp2
      obtain ⟨P1, P2, P3, P4⟩ := P.out
      exact bodyPost_ret (v := .agg #[.bool (decide (c < 0)), .slice A3 L3 C3]) (by simp [results, Tryz.results14, go_sem, P3, P4, q0, q1]) rfl ⟨_, rfl, P1, P2⟩
    · rw [sided_add_lt _ _ _ _ hs (by omega)] at hc
      have hSba := fun w ha hb => hSba w ha hb (by omega)
      have hM := fun v w hn => hM s2 v (y - x) w hn
      rw [← hc] at hM
      clear hc
      generalize y - x = n at *
      obtain ⟨q00, q01, q10, q11⟩ := CT
      have hne : (s1 == s2) = false := by simpa using hs
      have hne2 : decide (s1 = s2) = false := decide_eq_false hs
      have HS := Lib.hid hs
      clear hs
      have hk : cmpI (x : Int) (y : Int) < 0 := by unfold cmpI; split <;> (try split) <;> omega
      generalize cmpI (x : Int) (y : Int) = k at *
      go_enter Tryz.func14, Tryz.ntmps14
      go_wp2_with fail
      rw [← hW'.out.1, ← hW'.out.2]
      refine (hC _ ha hb).mono ?_
      rintro e w1 ⟨rfl, n1, rfl⟩
      have d1 := below_drewN (Below.refl W0.heap.size W0) n1
      have ha := ha.below d1
      have hb := hb.below d1
      have hT := hT.below d1 hT.lt
      have hR := hR.below d1 hR.lt
      have hB := below_drewN hB n1
      generalize W0.drewN n1 = w1 at *
      obtain ⟨q00, q01, q10, q11⟩ := hT.cells22
      go_wp2_with fail
      refine (hSba _ ha hb).mono ?_
      rintro e w2 ⟨v2, rfl, h2, b2⟩
      have hT := hT.below b2 hT.lt
      have hR := hR.below b2 hR.lt
      have hB := hB.trans (b2.mono hB.size)
      obtain ⟨q00, q01, q10, q11⟩ := hT.cells22
      go_wp2_with fail
      refine (hM _ _ h2).mono ?_
      rintro e w3 ⟨v3, rfl, ⟨n3, rfl, h3⟩, b3⟩
      obtain ⟨A3, L3, C3, rfl⟩ := h3.frm
      have hR := hR.below b3 hR.lt
      have hB := hB.trans (b3.mono hB.size)
      clear hM hAdd
      obtain ⟨p1, p2, p3⟩ := put2 hR (.bool (decide (c < 0))) (.slice A3 L3 C3) (by simp [noU]) hB (by rw [hW'.out.2]; omega)
      have q0 := hR.cell 0
      have z0 := hR.frozen 0
      have q1 := hR.cell 1
      have z1 := hR.frozen 1
      have P := Lib.hid (And.intro (⟨_, rfl, p2 _ _ h3⟩ : IsZ _ (.agg #[.bool (decide (c < 0)), .slice A3 L3 C3]) c) (And.intro p3 p1.cells2))
      clear p1 p2 p3 
      go_wp2
      obtain ⟨P1, P2, P3, P4⟩ := P.out
      exact bodyPost_ret (v := .agg #[.bool (decide (c < 0)), .slice A3 L3 C3]) (by simp [results, Tryz.results14, go_sem, P3, P4, q0, q1]) rfl ⟨_, rfl, P1, P2⟩
end Go.Proofs.YtooonjcpdbbniaaGreatDoor
